/- Decompiled: the reference's In and Sort; the law on what is made. -/
import Derived.Test.YtpijipnmfkehcaaGreatF4
set_option linter.unusedVariables false
set_option linter.unusedSimpArgs false
namespace Go.Proofs.YtpijipnmfkehcaaGreat
open Go Go.E
set_option maxRecDepth 100000
private theorem ag22 : Go.E.aggOf Tryz.prog 22 = some false := by kernel_rfl
private theorem ag23 : Go.E.aggOf Tryz.prog 23 = some false := by kernel_rfl
private theorem ag25 : Go.E.aggOf Tryz.prog 25 = some true := by kernel_rfl
private theorem ag27 : Go.E.aggOf Tryz.prog 27 = some false := by kernel_rfl
private theorem ag28 : Go.E.aggOf Tryz.prog 28 = some false := by kernel_rfl
private theorem ag3 : Go.E.aggOf Tryz.prog 3 = some false := by kernel_rfl
private theorem ag30 : Go.E.aggOf Tryz.prog 30 = some true := by kernel_rfl
private theorem ag4 : Go.E.aggOf Tryz.prog 4 = some false := by kernel_rfl
private theorem ag40 : Go.E.aggOf Tryz.prog 40 = some true := by kernel_rfl
private theorem ag45 : Go.E.aggOf Tryz.prog 45 = some true := by kernel_rfl
private theorem ag49 : Go.E.aggOf Tryz.prog 49 = some true := by kernel_rfl
private theorem ag9 : Go.E.aggOf Tryz.prog 9 = some false := by kernel_rfl
private theorem by40 : Go.E.byOf Tryz.prog 40 = some 24 := by kernel_rfl
private theorem by45 : Go.E.byOf Tryz.prog 45 = some 72 := by kernel_rfl
private theorem by49 : Go.E.byOf Tryz.prog 49 = some 48 := by kernel_rfl
private theorem eg40 : Tryz.prog.eqGuardType Tryz.prog.depth 40 = false := by kernel_rfl
private theorem eg45 : Tryz.prog.eqGuardType Tryz.prog.depth 45 = false := by kernel_rfl
private theorem eg49 : Tryz.prog.eqGuardType Tryz.prog.depth 49 = false := by kernel_rfl
private theorem es40 (x y : Tip) : Go.E.EqAt Tryz.prog 2 40 (.agg (Go.E.encTip x).toArray) (.agg (Go.E.encTip y).toArray) (decide (x = y)) :=
  (EqAt.struct (ts := [(false, 3, 0), (false, 9, 1)]) (by kernel_rfl) (by kernel_rfl) (by kernel_rfl) (EqC.one (by kernel_rfl) rfl rfl (EqAt.int Tryz.underlying3 x.state y.state) (EqC.one (by kernel_rfl) rfl rfl (EqAt.str Tryz.underlying9 x.out y.out) EqC.nil))).of (by rw [Bool.eq_iff_iff]; cases x; cases y; simp)
private theorem es45 (x y : Arc) : Go.E.EqAt Tryz.prog 3 45 (.agg (Go.E.encArc x).toArray) (.agg (Go.E.encArc y).toArray) (decide (x = y)) :=
  (EqAt.struct (ts := [(false, 3, 0), (false, 3, 1), (false, 43, 2), (false, 9, 6), (false, 4, 7)]) (by kernel_rfl) (by kernel_rfl) (by kernel_rfl) (EqC.one (by kernel_rfl) rfl rfl (EqAt.int Tryz.underlying3 x.frm y.frm |>.up (by decide)) (EqC.one (by kernel_rfl) rfl rfl (EqAt.int Tryz.underlying3 x.to y.to |>.up (by decide)) (EqC.agg (s := 4) (us := Go.E.setA x.set) (vs := Go.E.setA y.set) (by kernel_rfl) (by kernel_rfl) rfl rfl (EqAt.set Tryz.underlying43 Tryz.underlying41 (by kernel_rfl) (by kernel_rfl) x.set y.set) (EqC.one (by kernel_rfl) rfl rfl (EqAt.str Tryz.underlying9 x.out y.out |>.up (by decide)) (EqC.one (by kernel_rfl) rfl rfl (EqAt.bool Tryz.underlying4 x.copy y.copy |>.up (by decide)) EqC.nil)))))).of (by rw [Bool.eq_iff_iff]; cases x; cases y; simp)
private theorem es49 (x y : Arrow) : Go.E.EqAt Tryz.prog 3 49 (.agg (Go.E.encE x).toArray) (.agg (Go.E.encE y).toArray) (decide (x = y)) :=
  (EqAt.struct (ts := [(false, 3, 0), (false, 3, 1), (false, 43, 2)]) (by kernel_rfl) (by kernel_rfl) (by kernel_rfl) (EqC.one (by kernel_rfl) rfl rfl (EqAt.int Tryz.underlying3 x.frm y.frm |>.up (by decide)) (EqC.one (by kernel_rfl) rfl rfl (EqAt.int Tryz.underlying3 x.to y.to |>.up (by decide)) (EqC.agg (s := 4) (us := Go.E.setA x.set) (vs := Go.E.setA y.set) (by kernel_rfl) (by kernel_rfl) rfl rfl (EqAt.set Tryz.underlying43 Tryz.underlying41 (by kernel_rfl) (by kernel_rfl) x.set y.set) EqC.nil)))).of (by rw [Bool.eq_iff_iff]; cases x; cases y; simp)
private theorem fo25_0 : Go.E.foOf Tryz.prog 25 0 = some 0 := by kernel_rfl
private theorem fo25_1 : Go.E.foOf Tryz.prog 25 1 = some 1 := by kernel_rfl
private theorem fo25_2 : Go.E.foOf Tryz.prog 25 2 = some 2 := by kernel_rfl
private theorem fo25_3 : Go.E.foOf Tryz.prog 25 3 = some 3 := by kernel_rfl
private theorem fo30_0 : Go.E.foOf Tryz.prog 30 0 = some 0 := by kernel_rfl
private theorem fo30_1 : Go.E.foOf Tryz.prog 30 1 = some 1 := by kernel_rfl
private theorem fo30_2 : Go.E.foOf Tryz.prog 30 2 = some 2 := by kernel_rfl
private theorem fo30_3 : Go.E.foOf Tryz.prog 30 3 = some 3 := by kernel_rfl
private theorem fo40_0 : Go.E.foOf Tryz.prog 40 0 = some 0 := by kernel_rfl
private theorem fo40_1 : Go.E.foOf Tryz.prog 40 1 = some 1 := by kernel_rfl
private theorem fo45_0 : Go.E.foOf Tryz.prog 45 0 = some 0 := by kernel_rfl
private theorem fo45_1 : Go.E.foOf Tryz.prog 45 1 = some 1 := by kernel_rfl
private theorem fo45_2 : Go.E.foOf Tryz.prog 45 2 = some 2 := by kernel_rfl
private theorem fo45_3 : Go.E.foOf Tryz.prog 45 3 = some 6 := by kernel_rfl
private theorem fo45_4 : Go.E.foOf Tryz.prog 45 4 = some 7 := by kernel_rfl
private theorem pf10 : Go.E.plainF Tryz.prog 10 = true := by kernel_rfl
private theorem pf11 : Go.E.plainF Tryz.prog 11 = true := by kernel_rfl
private theorem pf14 : Go.E.plainF Tryz.prog 14 = true := by kernel_rfl
private theorem pf15 : Go.E.plainF Tryz.prog 15 = true := by kernel_rfl
private theorem pf20 : Go.E.plainF Tryz.prog 20 = true := by kernel_rfl
private theorem pf21 : Go.E.plainF Tryz.prog 21 = true := by kernel_rfl
private theorem pf26 : Go.E.plainF Tryz.prog 26 = true := by kernel_rfl
private theorem pf33 : Go.E.plainF Tryz.prog 33 = true := by kernel_rfl
private theorem pf4 : Go.E.plainF Tryz.prog 4 = true := by kernel_rfl
private theorem pf44 : Go.E.plainF Tryz.prog 44 = true := by kernel_rfl
private theorem pf45 : Go.E.plainF Tryz.prog 45 = true := by kernel_rfl
private theorem pf5 : Go.E.plainF Tryz.prog 5 = true := by kernel_rfl
private theorem pf6 : Go.E.plainF Tryz.prog 6 = true := by kernel_rfl
private theorem pf7 : Go.E.plainF Tryz.prog 7 = true := by kernel_rfl
private theorem pf8 : Go.E.plainF Tryz.prog 8 = true := by kernel_rfl
private theorem pf9 : Go.E.plainF Tryz.prog 9 = true := by kernel_rfl
private theorem pl25 : Go.E.plOf Tryz.prog 25 = some #[(0, 1), (1, 1), (2, 1), (3, 1)] := by kernel_rfl
private theorem pl30 : Go.E.plOf Tryz.prog 30 = some #[(0, 1), (1, 1), (2, 1), (3, 1)] := by kernel_rfl
private theorem pl49 : Go.E.plOf Tryz.prog 49 = some #[(0, 1), (1, 1), (2, 4)] := by kernel_rfl
private theorem sz25 : Go.E.szOf Tryz.prog 25 = some 4 := by kernel_rfl
private theorem sz28 : Go.E.szOf Tryz.prog 28 = some 1 := by kernel_rfl
private theorem sz30 : Go.E.szOf Tryz.prog 30 = some 4 := by kernel_rfl
private theorem sz40 : Go.E.szOf Tryz.prog 40 = some 2 := by kernel_rfl
private theorem sz45 : Go.E.szOf Tryz.prog 45 = some 8 := by kernel_rfl
private theorem sz49 : Go.E.szOf Tryz.prog 49 = some 6 := by kernel_rfl
private theorem ze25 : Go.E.zeroOf Tryz.prog 25 = some (.agg #[.int .i64 0, .slice none 0 0, .slice none 0 0, .slice none 0 0]) := by kernel_rfl
private theorem ze30 : Go.E.zeroOf Tryz.prog 30 = some (.agg #[.int .i64 0, .slice none 0 0, .slice none 0 0, .slice none 0 0]) := by kernel_rfl
private theorem ze40 : Go.E.zeroOf Tryz.prog 40 = some (.agg #[.int .i64 0, .string ByteArray.empty]) := by kernel_rfl
private theorem ze45 : Go.E.zeroOf Tryz.prog 45 = some (.agg #[.int .i64 0, .int .i64 0, .int .u64 0, .int .u64 0, .int .u64 0, .int .u64 0, .string ByteArray.empty, .bool false]) := by kernel_rfl
private theorem ze49 : Go.E.zeroOf Tryz.prog 49 = some (.agg #[.int .i64 0, .int .i64 0, .int .u64 0, .int .u64 0, .int .u64 0, .int .u64 0]) := by kernel_rfl

noncomputable def whittleref05_Sort_j1 (k115 : Nat) (l119 : List Int) : Option (((List Int) × Nat) ⊕ ((List Int))) :=
  nxt (l119, (k115 + 1))
noncomputable def whittleref05_Sort_j3 (k123 : Nat) (l111 : List Int) (x0 : List Int) (k115 : Nat) : Option (((List Int) × Nat) ⊕ ((List Int))) :=
  grd (0 ≤ k123 ∧ k123 ≤ l111.length) (grd ((([] : List Int).length + (l111.take k123).length) * 8 ≤ 140737488355328) (grd (((([] : List Int) ++ (l111.take k123)).length + [(nth x0 k115 (0 : Int))].length) * 8 ≤ 140737488355328) (grd (k123 ≤ l111.length ∧ l111.length ≤ l111.length) (grd ((((([] : List Int) ++ (l111.take k123)) ++ [(nth x0 k115 (0 : Int))]).length + (l111.drop k123).length) * 8 ≤ 140737488355328) (whittleref05_Sort_j1 k115 (((([] : List Int) ++ (l111.take k123)) ++ [(nth x0 k115 (0 : Int))]) ++ (l111.drop k123)))))))
noncomputable def whittleref05_Sort_j2 (l111 : List Int) (x0 : List Int) (k115 : Nat) (k123 : Nat) : Option (((List Int) × Nat) ⊕ ((List Int))) :=
  iteO (decide (((k123 : Nat) : Int) < ((l111.length : Nat) : Int))) (iteO (decide ((nth l111 k123 (0 : Int)) = (nth x0 k115 (0 : Int)))) (whittleref05_Sort_j1 k115 l111) (whittleref05_Sort_j3 k123 l111 x0 k115)) (whittleref05_Sort_j3 k123 l111 x0 k115)
noncomputable def whittleref05_Sort_b2 (l111 : List Int) (x0 : List Int) (k115 : Nat) (k126 : Nat) : Option ((Nat) ⊕ (((List Int) × Nat) ⊕ ((List Int)))) :=
  iteO (decide (((k126 : Nat) : Int) < ((l111.length : Nat) : Int))) (iteO (decide ((nth l111 k126 (0 : Int)) < (nth x0 k115 (0 : Int)))) (nxt (k126 + 1)) (fin (whittleref05_Sort_j2 l111 x0 k115 k126))) (fin (whittleref05_Sort_j2 l111 x0 k115 k126))
noncomputable def whittleref05_Sort_b1 (x0 : List Int) (l111 : List Int) (k115 : Nat) : Option (((List Int) × Nat) ⊕ ((List Int))) :=
  iteO (decide (((k115 : Nat) : Int) < ((x0.length : Nat) : Int))) (iter (fun q : Nat => whittleref05_Sort_b2 l111 x0 k115 q) 0) (fin (some l111))
noncomputable def whittleref05_Sort (x0 : List Int) : Option ((List Int)) :=
  iter (fun q : (List Int) × Nat => whittleref05_Sort_b1 x0 q.1 q.2) (([] : List Int), 0)
def whittleref05_Sort_P (σ : Store) (r : (List Int)) : Value → Store → List Res → Prop := fun v σ' H' =>
  ∃ (a1 : Option Addr), ∃ (c1 : Nat),  v = .slice a1 r.length c1 ∧ RS σ' 1 Go.E.encI (.slice a1 r.length c1) r ∧ H' = []
theorem whittleref05_Sort_con {σ : Store} {x0 : List Int} {a0_0 : Option Addr} {c0_0 : Nat} (f0_0 : RS σ 1 Go.E.encI (.slice a0_0 x0.length c0_0) x0) {r : (List Int)} (hh : whittleref05_Sort x0 = some r) :
    Con Tryz.prog 33 #[.slice a0_0 x0.length c0_0] σ [] (whittleref05_Sort_P σ r) := by
  dsimp only [whittleref05_Sort] at hh
  have f0_0b := f0_0.rv.big
  refine Con.mk (n := 64) Tryz.func33 rfl rfl rfl (fun w0 => ?_)
  refine TC.seq ?_
  refine TC.region ?_
  refine TL.v rfl (OpVal.moveSl (.inr rfl) rfl) rfl rfl ?_
  refine TL.nil ?_
  refine S.n ?_
  refine TC.seq ?_
  refine TC.region ?_
  refine TL.v rfl (OpVal.moveSl (.inr rfl) rfl) rfl rfl ?_
  refine TL.nil ?_
  refine S.n ?_
  refine TC.seq ?_
  refine TC.seq ?_
  refine TC.region ?_
  refine TL.v rfl (OpVal.moveI (.inr rfl) rfl) rfl rfl ?_
  refine TL.nil ?_
  refine S.n ?_
  refine TC.block ?_
  refine TC.loopG (α := ((List Int) × Nat) × ((Option Addr) × Nat × Store)) [3, 4, 5, 6, 7, 8, 9, 10, 11, 12, 13, 14, 15, 16, 17, 18, 19, 20, 21, 22, 23, 24, 25, 26, 27, 28, 29, 30, 31, 32, 33, 34, 35, 36, 37, 38, 39, 40, 41, 42, 43, 44, 45, 46, 47, 48, 49, 50, 51, 52, 53, 54, 55, 56, 57, 58, 59, 60, 61, 62] (fun g => [(3, .slice g.2.1 g.1.1.length g.2.2.1), (4, .int .i64 ((g.1.2 : Nat) : Int))]) (fun g => []) (fun g => g.2.2.2) (fun g => iter (fun q : (List Int) × Nat => whittleref05_Sort_b1 x0 q.1 q.2) g.1 = some r ∧ RS g.2.2.2 1 Go.E.encI (.slice g.2.1 g.1.1.length g.2.2.1) g.1.1 ∧ Store.le σ g.2.2.2) (fun g => rounds (fun q : (List Int) × Nat => whittleref05_Sort_b1 x0 q.1 q.2) g.1) ((([] : List Int), 0), (none, 0, σ)) (Sub.pre 0 rfl) rfl (by repeat (first | exact trivial | refine ⟨rfl, ?_⟩)) ⟨hh, (RS.nilF _ Go.E.encI Go.E.encI_len), (Store.le.refl _)⟩ (fun g1 j1 hg1 => ?_)
  obtain ⟨⟨l111, k115⟩, ⟨a112, c113, τ116⟩⟩ := g1
  obtain ⟨hh, hr114, hle117⟩ := hg1
  try dsimp only at hr114
  dsimp only at hle117
  replace f0_0 := f0_0.mono hle117
  show TC _ _ _ (upds (mask _ j1 _) [(3, .slice a112 l111.length c113), (4, .int .i64 ((k115 : Nat) : Int))]) τ116 []
  obtain ⟨z1, hh, hR1⟩ := iter_e hh
  dsimp only [whittleref05_Sort_b1] at hh
  have hr114b := hr114.rv.big
  refine TC.seq ?_
  refine TC.seq ?_
  refine TC.region ?_
  refine TL.v rfl (OpVal.moveI (.inl rfl) rfl) rfl rfl ?_
  refine TL.v rfl (OpVal.moveSl (.inl rfl) rfl) rfl rfl ?_
  refine TL.v rfl (OpVal.lenC rfl Tryz.underlying27 rfl) rfl rfl ?_
  refine TL.v rfl (OpVal.lss rfl rfl rfl) rfl rfl ?_
  refine TL.nil ?_
  refine S.n ?_
  refine TC.cond rfl (fun h118 => ?_) (fun h118 => ?_)
  · replace hh := iteO_t h118 hh
    replace h118 := of_decide_eq_true h118
    refine TC.skip ?_
    refine S.n ?_
    refine TC.cutG (α := ((List Int)) × ((Option Addr) × Nat × Store)) [3, 5, 6, 13, 14, 15, 16, 17, 18, 19, 20, 21, 22, 23, 24, 25, 26, 27, 28, 29, 30, 31, 32, 33, 34, 35, 36, 37, 38, 39, 40, 41, 42, 43, 44, 45, 46, 47, 48, 49, 50, 51, 52, 53, 54, 55, 56, 57, 58, 59, 60, 61, 62] (fun g => [(3, .slice g.2.1 g.1.length g.2.2.1)]) (fun g => []) (fun g => g.2.2.2) (fun g => whittleref05_Sort_j1 k115 g.1 = some z1 ∧ RS g.2.2.2 1 Go.E.encI (.slice g.2.1 g.1.length g.2.2.1) g.1 ∧ Store.le τ116 g.2.2.2) ?_ (fun g j hg => ?_)
    · skip
      refine TC.block ?_
      refine TC.seq ?_
      refine TC.region ?_
      refine TL.v rfl (OpVal.moveI (.inr rfl) rfl) rfl rfl ?_
      refine TL.nil ?_
      refine S.n ?_
      refine TC.cutG (α := (Nat) × (Unit)) [5, 13, 14, 15, 16, 17, 18, 19, 20, 21, 22, 23, 24, 25, 26, 27, 28, 29] (fun g => [(5, .int .i64 ((g.1 : Nat) : Int))]) (fun g => []) (fun g => τ116) (fun g => whittleref05_Sort_j2 l111 x0 k115 g.1 = some z1) ?_ (fun g j hg => ?_)
      · skip
        refine TC.block ?_
        refine TC.loopG (α := (Nat) × (Unit)) [5, 13, 14, 15, 16, 17, 18, 19, 20, 21, 22, 23, 24, 25, 26, 27, 28, 29] (fun g => [(5, .int .i64 ((g.1 : Nat) : Int))]) (fun g => []) (fun g => τ116) (fun g => iter (fun q : Nat => whittleref05_Sort_b2 l111 x0 k115 q) g.1 = some z1) (fun g => rounds (fun q : Nat => whittleref05_Sort_b2 l111 x0 k115 q) g.1) (0, ()) (Sub.pre 0 rfl) rfl (by repeat (first | exact trivial | refine ⟨rfl, ?_⟩)) hh (fun g2 j2 hg2 => ?_)
        obtain ⟨k126, _⟩ := g2
        have hh := hg2; clear hg2
        show TC _ _ _ (upds (mask _ j2 _) [(5, .int .i64 ((k126 : Nat) : Int))]) _ []
        obtain ⟨z2, hh, hR2⟩ := iter_e hh
        dsimp only [whittleref05_Sort_b2] at hh
        refine TC.seq ?_
        refine TC.seq ?_
        refine TC.draw [] (by kernel_rfl) ?_
        refine TA.takeP 0 rfl (by kernel_rfl) (by kernel_rfl) (by kernel_rfl) rfl (OpVal.moveI (.inl rfl) rfl) rfl rfl ?_
        refine TA.takeP 1 rfl (by kernel_rfl) (by kernel_rfl) (by kernel_rfl) rfl (OpVal.moveSl (.inl rfl) rfl) rfl rfl ?_
        refine TA.take 2 rfl (by kernel_rfl) (by kernel_rfl) (by kernel_rfl) (by kernel_rfl) rfl (OpVal.lenC rfl Tryz.underlying27 rfl) rfl rfl ?_
        refine TA.takeP 3 rfl (by kernel_rfl) (by kernel_rfl) (by kernel_rfl) rfl (OpVal.lss rfl rfl rfl) rfl rfl ?_
        refine TA.takeP 4 rfl (by kernel_rfl) (by kernel_rfl) (by kernel_rfl) rfl (OpVal.moveB (.inl rfl) rfl) rfl rfl ?_
        refine TA.split 17 rfl (fun h127 => ?_) (fun h127 => ?_)
        · replace hh := iteO_t h127 hh
          replace h127 := of_decide_eq_true h127
          refine TA.takeOn 5 rfl (by kernel_rfl) (by kernel_rfl) (by kernel_rfl) (by kernel_rfl) rfl rfl rfl rfl rfl (OpVal.moveSl (.inl rfl) rfl) rfl rfl ?_
          refine TA.takeOn 6 rfl (by kernel_rfl) (by kernel_rfl) (by kernel_rfl) (by kernel_rfl) rfl rfl rfl rfl rfl (OpVal.moveI (.inl rfl) rfl) rfl rfl ?_
          refine TA.takeOn 7 rfl (by kernel_rfl) (by kernel_rfl) (by kernel_rfl) (by kernel_rfl) rfl rfl rfl rfl rfl (OpVal.indexN rfl Tryz.underlying27 sz3 rfl rfl hr114.rv.sl (by omega)) rfl rfl ?_
          refine TA.takeOn 8 rfl (by kernel_rfl) (by kernel_rfl) (by kernel_rfl) (by kernel_rfl) rfl rfl rfl rfl rfl (OpVal.loadS1 (0 : Int) rfl ag3 rfl hr114 (by omega) rfl) rfl rfl ?_
          refine TA.takeOn 9 rfl (by kernel_rfl) (by kernel_rfl) (by kernel_rfl) (by kernel_rfl) rfl rfl rfl rfl rfl (OpVal.moveSl (.inl rfl) rfl) rfl rfl ?_
          refine TA.takeOn 10 rfl (by kernel_rfl) (by kernel_rfl) (by kernel_rfl) (by kernel_rfl) rfl rfl rfl rfl rfl (OpVal.moveI (.inl rfl) rfl) rfl rfl ?_
          refine TA.takeOn 11 rfl (by kernel_rfl) (by kernel_rfl) (by kernel_rfl) (by kernel_rfl) rfl rfl rfl rfl rfl (OpVal.indexN rfl Tryz.underlying27 sz3 rfl rfl f0_0.rv.sl (by omega)) rfl rfl ?_
          refine TA.takeOn 12 rfl (by kernel_rfl) (by kernel_rfl) (by kernel_rfl) (by kernel_rfl) rfl rfl rfl rfl rfl (OpVal.loadS1 (0 : Int) rfl ag3 rfl f0_0 (by omega) rfl) rfl rfl ?_
          refine TA.takeOn 13 rfl (by kernel_rfl) (by kernel_rfl) (by kernel_rfl) (by kernel_rfl) rfl rfl rfl rfl rfl (OpVal.lss rfl rfl rfl) rfl rfl ?_
          refine TA.takeP 14 rfl (by kernel_rfl) (by kernel_rfl) (by kernel_rfl) rfl (OpVal.pickTB rfl rfl rfl) rfl rfl ?_
          refine TA.done (by kernel_rfl) ?_
          refine S.n ?_
          refine TC.cond rfl (fun h128 => ?_) (fun h128 => ?_)
          · replace hh := iteO_t h128 hh
            replace h128 := of_decide_eq_true h128
            refine TC.skip ?_
            refine S.n ?_
            refine TC.block ?_
            refine TC.region ?_
            refine TL.v rfl (OpVal.moveI (.inl rfl) rfl) rfl rfl ?_
            refine TL.v rfl (OpVal.succ rfl rfl rfl (by omega)) rfl rfl ?_
            refine TL.v rfl (OpVal.moveI (.inr rfl) rfl) rfl rfl ?_
            refine TL.nil ?_
            refine B.n ?_
            refine S.n ?_
            obtain ⟨hh, hlt129⟩ := nxt_x hR2 hh
            refine ⟨by repeat (first | exact Agr.refl _ _ | exact Agr.mask | refine Agr.upd rfl ?_ | refine Agr.maskIn rfl ?_ | refine Agr.upds rfl ?_), ((k126 + 1), ()), hlt129, hh, by repeat (first | exact trivial | refine ⟨rfl, ?_⟩), Sub.pre 0 rfl, rfl⟩
          · replace hh := iteO_f h128 hh
            replace h128 := of_decide_eq_false h128
            refine TC.exit ?_
            refine S.x ?_
            refine S.x ?_
            replace hh := fin_x hR2 hh
            refine TC.exitHere ?_
            refine S.n ?_
            refine ⟨by repeat (first | exact Agr.refl _ _ | exact Agr.mask | refine Agr.upd rfl ?_ | refine Agr.maskIn rfl ?_ | refine Agr.upds rfl ?_), (k126, ()), hh, by repeat (first | exact trivial | refine ⟨rfl, ?_⟩), Sub.pre 0 rfl, rfl⟩
        · replace hh := iteO_f h127 hh
          replace h127 := of_decide_eq_false h127
          refine TA.takeOff 5 rfl (by kernel_rfl) (by kernel_rfl) (by kernel_rfl) (by kernel_rfl) rfl rfl rfl rfl rfl rfl rfl rfl ?_
          refine TA.takeOff 6 rfl (by kernel_rfl) (by kernel_rfl) (by kernel_rfl) (by kernel_rfl) rfl rfl rfl rfl rfl rfl rfl rfl ?_
          refine TA.takeOff 7 rfl (by kernel_rfl) (by kernel_rfl) (by kernel_rfl) (by kernel_rfl) rfl rfl rfl rfl rfl rfl rfl rfl ?_
          refine TA.takeOff 8 rfl (by kernel_rfl) (by kernel_rfl) (by kernel_rfl) (by kernel_rfl) rfl rfl rfl rfl rfl rfl rfl rfl ?_
          refine TA.takeOff 9 rfl (by kernel_rfl) (by kernel_rfl) (by kernel_rfl) (by kernel_rfl) rfl rfl rfl rfl rfl rfl rfl rfl ?_
          refine TA.takeOff 10 rfl (by kernel_rfl) (by kernel_rfl) (by kernel_rfl) (by kernel_rfl) rfl rfl rfl rfl rfl rfl rfl rfl ?_
          refine TA.takeOff 11 rfl (by kernel_rfl) (by kernel_rfl) (by kernel_rfl) (by kernel_rfl) rfl rfl rfl rfl rfl rfl rfl rfl ?_
          refine TA.takeOff 12 rfl (by kernel_rfl) (by kernel_rfl) (by kernel_rfl) (by kernel_rfl) rfl rfl rfl rfl rfl rfl rfl rfl ?_
          refine TA.takeOff 13 rfl (by kernel_rfl) (by kernel_rfl) (by kernel_rfl) (by kernel_rfl) rfl rfl rfl rfl rfl rfl rfl rfl ?_
          refine TA.takeP 14 rfl (by kernel_rfl) (by kernel_rfl) (by kernel_rfl) rfl (OpVal.pickFB rfl rfl rfl) rfl rfl ?_
          refine TA.done (by kernel_rfl) ?_
          refine S.n ?_
          refine TC.cond rfl (fun h => Bool.noConfusion h) (fun _ => ?_)
          refine TC.exit ?_
          refine S.x ?_
          refine S.x ?_
          replace hh := fin_x hR2 hh
          refine TC.exitHere ?_
          refine S.n ?_
          refine ⟨by repeat (first | exact Agr.refl _ _ | exact Agr.mask | refine Agr.upd rfl ?_ | refine Agr.maskIn rfl ?_ | refine Agr.upds rfl ?_), (k126, ()), hh, by repeat (first | exact trivial | refine ⟨rfl, ?_⟩), Sub.pre 0 rfl, rfl⟩
      · skip
        obtain ⟨k123, _⟩ := g
        have hh := hg; clear hg
        show TC _ _ _ (upds (mask _ j _) [(5, .int .i64 ((k123 : Nat) : Int))]) _ []
        dsimp only [whittleref05_Sort_j2] at hh
        refine TC.cutG (α := (Unit) × (Unit)) [30, 31, 32, 33, 34, 35, 36, 37, 38, 39, 40, 41, 42, 43, 44] (fun g => []) (fun g => []) (fun g => τ116) (fun g => whittleref05_Sort_j3 k123 l111 x0 k115 = some z1) ?_ (fun g j hg => ?_)
        · skip
          refine TC.seq ?_
          refine TC.draw [] (by kernel_rfl) ?_
          refine TA.takeP 0 rfl (by kernel_rfl) (by kernel_rfl) (by kernel_rfl) rfl (OpVal.moveI (.inl rfl) rfl) rfl rfl ?_
          refine TA.takeP 1 rfl (by kernel_rfl) (by kernel_rfl) (by kernel_rfl) rfl (OpVal.moveSl (.inl rfl) rfl) rfl rfl ?_
          refine TA.take 2 rfl (by kernel_rfl) (by kernel_rfl) (by kernel_rfl) (by kernel_rfl) rfl (OpVal.lenC rfl Tryz.underlying27 rfl) rfl rfl ?_
          refine TA.takeP 3 rfl (by kernel_rfl) (by kernel_rfl) (by kernel_rfl) rfl (OpVal.lss rfl rfl rfl) rfl rfl ?_
          refine TA.takeP 4 rfl (by kernel_rfl) (by kernel_rfl) (by kernel_rfl) rfl (OpVal.moveB (.inl rfl) rfl) rfl rfl ?_
          refine TA.split 34 rfl (fun h130 => ?_) (fun h130 => ?_)
          · replace hh := iteO_t h130 hh
            replace h130 := of_decide_eq_true h130
            refine TA.takeOn 5 rfl (by kernel_rfl) (by kernel_rfl) (by kernel_rfl) (by kernel_rfl) rfl rfl rfl rfl rfl (OpVal.moveSl (.inl rfl) rfl) rfl rfl ?_
            refine TA.takeOn 6 rfl (by kernel_rfl) (by kernel_rfl) (by kernel_rfl) (by kernel_rfl) rfl rfl rfl rfl rfl (OpVal.moveI (.inl rfl) rfl) rfl rfl ?_
            refine TA.takeOn 7 rfl (by kernel_rfl) (by kernel_rfl) (by kernel_rfl) (by kernel_rfl) rfl rfl rfl rfl rfl (OpVal.indexN rfl Tryz.underlying27 sz3 rfl rfl hr114.rv.sl (by omega)) rfl rfl ?_
            refine TA.takeOn 8 rfl (by kernel_rfl) (by kernel_rfl) (by kernel_rfl) (by kernel_rfl) rfl rfl rfl rfl rfl (OpVal.loadS1 (0 : Int) rfl ag3 rfl hr114 (by omega) rfl) rfl rfl ?_
            refine TA.takeOn 9 rfl (by kernel_rfl) (by kernel_rfl) (by kernel_rfl) (by kernel_rfl) rfl rfl rfl rfl rfl (OpVal.moveSl (.inl rfl) rfl) rfl rfl ?_
            refine TA.takeOn 10 rfl (by kernel_rfl) (by kernel_rfl) (by kernel_rfl) (by kernel_rfl) rfl rfl rfl rfl rfl (OpVal.moveI (.inl rfl) rfl) rfl rfl ?_
            refine TA.takeOn 11 rfl (by kernel_rfl) (by kernel_rfl) (by kernel_rfl) (by kernel_rfl) rfl rfl rfl rfl rfl (OpVal.indexN rfl Tryz.underlying27 sz3 rfl rfl f0_0.rv.sl (by omega)) rfl rfl ?_
            refine TA.takeOn 12 rfl (by kernel_rfl) (by kernel_rfl) (by kernel_rfl) (by kernel_rfl) rfl rfl rfl rfl rfl (OpVal.loadS1 (0 : Int) rfl ag3 rfl f0_0 (by omega) rfl) rfl rfl ?_
            refine TA.takeOn 13 rfl (by kernel_rfl) (by kernel_rfl) (by kernel_rfl) (by kernel_rfl) rfl rfl rfl rfl rfl (OpVal.eql rfl rfl rfl) rfl rfl ?_
            refine TA.takeP 14 rfl (by kernel_rfl) (by kernel_rfl) (by kernel_rfl) rfl (OpVal.pickTB rfl rfl rfl) rfl rfl ?_
            refine TA.done (by kernel_rfl) ?_
            refine S.n ?_
            refine TC.cond rfl (fun h131 => ?_) (fun h131 => ?_)
            · replace hh := iteO_t h131 hh
              replace h131 := of_decide_eq_true h131
              refine TC.exit ?_
              refine S.x ?_
              refine TC.exitHere ?_
              refine S.n ?_
              refine ⟨by repeat (first | exact Agr.refl _ _ | exact Agr.mask | refine Agr.upd rfl ?_ | refine Agr.maskIn rfl ?_ | refine Agr.upds rfl ?_), (l111, (a112, c113, τ116)), ⟨hh, hr114, (Store.le.refl _)⟩, by repeat (first | exact trivial | refine ⟨rfl, ?_⟩), Sub.pre 0 rfl, rfl⟩
            · replace hh := iteO_f h131 hh
              replace h131 := of_decide_eq_false h131
              refine TC.skip ?_
              refine S.n ?_
              refine ⟨by repeat (first | exact Agr.refl _ _ | exact Agr.mask | refine Agr.upd rfl ?_ | refine Agr.maskIn rfl ?_ | refine Agr.upds rfl ?_), ((), ()), hh, by repeat (first | exact trivial | refine ⟨rfl, ?_⟩), Sub.pre 0 rfl, rfl⟩
          · replace hh := iteO_f h130 hh
            replace h130 := of_decide_eq_false h130
            refine TA.takeOff 5 rfl (by kernel_rfl) (by kernel_rfl) (by kernel_rfl) (by kernel_rfl) rfl rfl rfl rfl rfl rfl rfl rfl ?_
            refine TA.takeOff 6 rfl (by kernel_rfl) (by kernel_rfl) (by kernel_rfl) (by kernel_rfl) rfl rfl rfl rfl rfl rfl rfl rfl ?_
            refine TA.takeOff 7 rfl (by kernel_rfl) (by kernel_rfl) (by kernel_rfl) (by kernel_rfl) rfl rfl rfl rfl rfl rfl rfl rfl ?_
            refine TA.takeOff 8 rfl (by kernel_rfl) (by kernel_rfl) (by kernel_rfl) (by kernel_rfl) rfl rfl rfl rfl rfl rfl rfl rfl ?_
            refine TA.takeOff 9 rfl (by kernel_rfl) (by kernel_rfl) (by kernel_rfl) (by kernel_rfl) rfl rfl rfl rfl rfl rfl rfl rfl ?_
            refine TA.takeOff 10 rfl (by kernel_rfl) (by kernel_rfl) (by kernel_rfl) (by kernel_rfl) rfl rfl rfl rfl rfl rfl rfl rfl ?_
            refine TA.takeOff 11 rfl (by kernel_rfl) (by kernel_rfl) (by kernel_rfl) (by kernel_rfl) rfl rfl rfl rfl rfl rfl rfl rfl ?_
            refine TA.takeOff 12 rfl (by kernel_rfl) (by kernel_rfl) (by kernel_rfl) (by kernel_rfl) rfl rfl rfl rfl rfl rfl rfl rfl ?_
            refine TA.takeOff 13 rfl (by kernel_rfl) (by kernel_rfl) (by kernel_rfl) (by kernel_rfl) rfl rfl rfl rfl rfl rfl rfl rfl ?_
            refine TA.takeP 14 rfl (by kernel_rfl) (by kernel_rfl) (by kernel_rfl) rfl (OpVal.pickFB rfl rfl rfl) rfl rfl ?_
            refine TA.done (by kernel_rfl) ?_
            refine S.n ?_
            refine TC.cond rfl (fun h => Bool.noConfusion h) (fun _ => ?_)
            refine TC.skip ?_
            refine S.n ?_
            refine ⟨by repeat (first | exact Agr.refl _ _ | exact Agr.mask | refine Agr.upd rfl ?_ | refine Agr.maskIn rfl ?_ | refine Agr.upds rfl ?_), ((), ()), hh, by repeat (first | exact trivial | refine ⟨rfl, ?_⟩), Sub.pre 0 rfl, rfl⟩
        · skip
          obtain ⟨_, _⟩ := g
          have hh := hg; clear hg
          show TC _ _ _ (upds (mask _ j _) []) _ []
          dsimp only [whittleref05_Sort_j3] at hh
          refine TC.seq ?_
          refine TC.region ?_
          refine TL.v rfl (OpVal.moveSl (.inr rfl) rfl) rfl rfl ?_
          refine TL.nil ?_
          refine S.n ?_
          refine TC.seq ?_
          refine TC.region ?_
          refine TL.v rfl (OpVal.moveSl (.inl rfl) rfl) rfl rfl ?_
          refine TL.v rfl (OpVal.moveSl (.inl rfl) rfl) rfl rfl ?_
          refine TL.v rfl (OpVal.moveI (.inl rfl) rfl) rfl rfl ?_
          have u46 := grd_c hh
          replace hh := grd_t hh
          obtain ⟨a132, c132, hr132, hv132⟩ := hr114.subH k123 (by omega)
          have hr132b := hr132.rv.big
          refine TL.v rfl (hv132 rfl Tryz.underlying27 sz3 rfl rfl) rfl rfl ?_
          refine TL.nilS 3 1 Go.E.encI ?_
          have u47 := grd_c hh
          replace hh := grd_t hh
          refine TL.op rfl (OpOk.appendS rfl rfl Tryz.underlying27 sz3 by3 ze3 rfl rfl (by decide) rfl rfl rfl (.inl hr132) (by simpa using u47) (by decide) (fun a134 c135 => ?_))
          refine TL.v rfl (OpVal.moveSl (.inr rfl) rfl) rfl rfl ?_
          refine TL.nil ?_
          refine S.n ?_
          refine TC.seq ?_
          refine TC.region ?_
          refine TL.v rfl (OpVal.moveSl (.inl rfl) rfl) rfl rfl ?_
          refine TL.v rfl (OpVal.moveSl (.inl rfl) rfl) rfl rfl ?_
          refine TL.v rfl (OpVal.moveI (.inl rfl) rfl) rfl rfl ?_
          refine TL.v rfl (OpVal.indexN rfl Tryz.underlying27 sz3 rfl rfl f0_0.rv.sl (by omega)) rfl rfl ?_
          refine TL.v rfl (OpVal.loadS1 (0 : Int) rfl ag3 rfl f0_0 (by omega) rfl) rfl rfl ?_
          refine TL.op rfl (OpOk.lit (enc := Go.E.encI) [(nth x0 k115 (0 : Int))] rfl Tryz.underlying27 sz3 ze3 rfl rfl rfl Go.E.encI_len (by decide) (by decide) (0 : Int) rfl (by decide) rfl (by decide) Go.E.encI_one (fun a136 c137 => ?_))
          refine TL.front 1 rfl rfl ?_
          have u55 := grd_c hh
          replace hh := grd_t hh
          refine TL.op rfl (OpOk.appendS rfl rfl Tryz.underlying27 sz3 by3 ze3 rfl rfl (by decide) rfl rfl rfl (.inr ⟨_, 0, rfl⟩) (by simpa using u55) (by decide) (fun a139 c140 => ?_))
          refine TL.v rfl (OpVal.moveSl (.inr rfl) rfl) rfl rfl ?_
          refine TL.nil ?_
          refine S.n ?_
          refine TC.seq ?_
          refine TC.region ?_
          refine TL.v rfl (OpVal.moveSl (.inl rfl) rfl) rfl rfl ?_
          refine TL.v rfl (OpVal.moveSl (.inl rfl) rfl) rfl rfl ?_
          refine TL.v rfl (OpVal.moveI (.inl rfl) rfl) rfl rfl ?_
          have u60 := grd_c hh
          replace hh := grd_t hh
          obtain ⟨a141, c141, hr141, hv141⟩ := hr114.subL k123 (by omega)
          have hr141b := hr141.rv.big
          refine TL.v rfl (hv141 rfl Tryz.underlying27 sz3 rfl rfl) rfl rfl ?_
          have u61 := grd_c hh
          replace hh := grd_t hh
          refine TL.op rfl (OpOk.appendS rfl rfl Tryz.underlying27 sz3 by3 ze3 rfl rfl (by decide) rfl rfl rfl (.inl hr141) (by simpa using u61) (by decide) (fun a142 c143 => ?_))
          refine TL.v rfl (OpVal.moveSl (.inr rfl) rfl) rfl rfl ?_
          refine TL.nil ?_
          refine S.n ?_
          refine TC.region ?_
          refine TL.v rfl (OpVal.moveSl (.inl rfl) rfl) rfl rfl ?_
          refine TL.v rfl (OpVal.moveSl (.inr rfl) rfl) rfl rfl ?_
          refine TL.sealS Go.E.encI_len (fun τ146 hle145 hr144 => ?_)
          replace f0_0 := f0_0.mono hle145
          replace hr114 := hr114.mono hle145
          replace hr132 := hr132.mono hle145
          replace hr141 := hr141.mono hle145
          have hr144b := hr144.rv.big
          refine TL.nil ?_
          refine B.n ?_
          refine S.n ?_
          refine ⟨by repeat (first | exact Agr.refl _ _ | exact Agr.mask | refine Agr.upd rfl ?_ | refine Agr.maskIn rfl ?_ | refine Agr.upds rfl ?_), ((((([] : List Int) ++ (l111.take k123)) ++ [(nth x0 k115 (0 : Int))]) ++ (l111.drop k123)), (a142, c143, τ146)), ⟨hh, hr144, hle145⟩, by repeat (first | exact trivial | refine ⟨rfl, ?_⟩), Sub.pre 0 rfl, rfl⟩
    · skip
      obtain ⟨l119, ⟨a120, c121, τ147⟩⟩ := g
      obtain ⟨hh, hr122, hle148⟩ := hg
      try dsimp only at hr122
      dsimp only at hle148
      replace f0_0 := f0_0.mono hle148
      replace hr114 := hr114.mono hle148
      show TC _ _ _ (upds (mask _ j _) [(3, .slice a120 l119.length c121)]) τ147 []
      dsimp only [whittleref05_Sort_j1] at hh
      have hr122b := hr122.rv.big
      refine TC.region ?_
      refine TL.v rfl (OpVal.moveI (.inl rfl) rfl) rfl rfl ?_
      refine TL.v rfl (OpVal.succ rfl rfl rfl (by omega)) rfl rfl ?_
      refine TL.v rfl (OpVal.moveI (.inr rfl) rfl) rfl rfl ?_
      refine TL.nil ?_
      refine S.n ?_
      obtain ⟨hh, hlt149⟩ := nxt_x hR1 hh
      refine ⟨by repeat (first | exact Agr.refl _ _ | exact Agr.mask | refine Agr.upd rfl ?_ | refine Agr.maskIn rfl ?_ | refine Agr.upds rfl ?_), ((l119, (k115 + 1)), (a120, c121, τ147)), hlt149, ⟨hh, hr122, (hle117.trans hle148)⟩, by repeat (first | exact trivial | refine ⟨rfl, ?_⟩), Sub.pre 0 rfl, rfl⟩
  · replace hh := iteO_f h118 hh
    replace h118 := of_decide_eq_false h118
    refine TC.exit ?_
    refine S.x ?_
    refine S.x ?_
    replace hh := fin_x hR1 hh
    refine TC.exitHere ?_
    refine S.n ?_
    refine TC.seq ?_
    refine TC.region ?_
    refine TL.v rfl (OpVal.moveSl (.inl rfl) rfl) rfl rfl ?_
    refine TL.v rfl (OpVal.moveSl (.inr rfl) rfl) rfl rfl ?_
    refine TL.nil ?_
    refine S.n ?_
    refine TC.ret ?_
    obtain rfl := Option.some.inj hh
    exact RetOk.mk' (rs := [.tmp 2]) [] rfl (.inl rfl) (RVs.tmp rfl RVs.nil) (List.sublist_append_left _ _) ⟨a112, c113, rfl, hr114, rfl⟩

noncomputable def whittleref15_states_b1 (x0 : List Tip) (l112 : List Int) (k115 : Nat) : Option (((List Int) × Nat) ⊕ ((List Int))) :=
  iteO (decide (((k115 : Nat) : Int) < ((x0.length : Nat) : Int))) (grd ((l112.length + [(nth x0 k115 Tip.zero).state].length) * 8 ≤ 140737488355328) (nxt ((l112 ++ [(nth x0 k115 Tip.zero).state]), (k115 + 1)))) (fin (bnd (whittleref05_Sort l112) (fun v21 => some v21)))
noncomputable def whittleref15_states (x0 : List Tip) : Option ((List Int)) :=
  iter (fun q : (List Int) × Nat => whittleref15_states_b1 x0 q.1 q.2) (([] : List Int), 0)
def whittleref15_states_P (σ : Store) (r : (List Int)) : Value → Store → List Res → Prop := fun v σ' H' =>
  ∃ (a1 : Option Addr), ∃ (c1 : Nat),  v = .slice a1 r.length c1 ∧ RS σ' 1 Go.E.encI (.slice a1 r.length c1) r ∧ H' = []
theorem whittleref15_states_con {σ : Store} {x0 : List Tip} {a0_0 : Option Addr} {c0_0 : Nat} (f0_0 : RS σ 2 encTip (.slice a0_0 x0.length c0_0) x0) {r : (List Int)} (hh : whittleref15_states x0 = some r) :
    Con Tryz.prog 15 #[.slice a0_0 x0.length c0_0] σ [] (whittleref15_states_P σ r) := by
  dsimp only [whittleref15_states] at hh
  have f0_0b := f0_0.rv.big
  refine Con.mk (n := 21) Tryz.func15 rfl rfl rfl (fun w0 => ?_)
  refine TC.seq ?_
  refine TC.region ?_
  refine TL.v rfl (OpVal.moveSl (.inr rfl) rfl) rfl rfl ?_
  refine TL.nil ?_
  refine S.n ?_
  refine TC.seq ?_
  refine TC.region ?_
  refine TL.v rfl (OpVal.moveSl (.inr rfl) rfl) rfl rfl ?_
  refine TL.nil ?_
  refine S.n ?_
  refine TC.seq ?_
  refine TC.seq ?_
  refine TC.region ?_
  refine TL.v rfl (OpVal.moveI (.inr rfl) rfl) rfl rfl ?_
  refine TL.nil ?_
  refine S.n ?_
  refine TC.block ?_
  refine TC.nilS 3 1 Go.E.encI ?_
  refine TC.loopG (α := ((List Int) × Nat) × ((Option Addr) × Nat)) [3, 4, 5, 6, 7, 8, 9, 10, 11, 12, 13, 14, 15, 16, 17, 18] (fun g => [(3, .slice g.2.1 g.1.1.length g.2.2), (4, .int .i64 ((g.1.2 : Nat) : Int))]) (fun g => [Res.rowS 3 1 Go.E.encI (.slice g.2.1 g.1.1.length g.2.2) g.1.1]) (fun g => σ) (fun g => iter (fun q : (List Int) × Nat => whittleref15_states_b1 x0 q.1 q.2) g.1 = some r) (fun g => rounds (fun q : (List Int) × Nat => whittleref15_states_b1 x0 q.1 q.2) g.1) ((([] : List Int), 0), (none, 0)) (Sub.pre 1 rfl) rfl (by repeat (first | exact trivial | refine ⟨rfl, ?_⟩)) hh (fun g1 j1 hg1 => ?_)
  obtain ⟨⟨l112, k115⟩, ⟨a113, c114⟩⟩ := g1
  have hh := hg1; clear hg1
  show TC _ _ _ (upds (mask _ j1 _) [(3, .slice a113 l112.length c114), (4, .int .i64 ((k115 : Nat) : Int))]) _ [Res.rowS 3 1 Go.E.encI (.slice a113 l112.length c114) l112]
  obtain ⟨z1, hh, hR1⟩ := iter_e hh
  dsimp only [whittleref15_states_b1] at hh
  refine TC.isSl (i := 0) rfl (fun _ hb117 _ => ?_)
  refine TC.seq ?_
  refine TC.seq ?_
  refine TC.region ?_
  refine TL.v rfl (OpVal.moveI (.inl rfl) rfl) rfl rfl ?_
  refine TL.v rfl (OpVal.moveSl (.inl rfl) rfl) rfl rfl ?_
  refine TL.v rfl (OpVal.lenC rfl Tryz.underlying22 rfl) rfl rfl ?_
  refine TL.v rfl (OpVal.lss rfl rfl rfl) rfl rfl ?_
  refine TL.nil ?_
  refine S.n ?_
  refine TC.cond rfl (fun h118 => ?_) (fun h118 => ?_)
  · replace hh := iteO_t h118 hh
    replace h118 := of_decide_eq_true h118
    refine TC.skip ?_
    refine S.n ?_
    refine TC.seq ?_
    refine TC.block ?_
    refine TC.region ?_
    refine TL.v rfl (OpVal.moveSl (.inl rfl) rfl) rfl rfl ?_
    refine TL.v rfl (OpVal.moveSl (.inl rfl) rfl) rfl rfl ?_
    refine TL.v rfl (OpVal.moveI (.inl rfl) rfl) rfl rfl ?_
    refine TL.v rfl (OpVal.indexN rfl Tryz.underlying22 sz40 rfl rfl f0_0.rv.sl (by omega)) rfl rfl ?_
    refine TL.v rfl (OpVal.fieldElem rfl fo40_0 rfl f0_0.rv.sl (by omega)) rfl rfl ?_
    refine TL.v rfl (OpVal.loadS Tip.zero rfl ag3 rfl f0_0 (by omega) (by omega) rfl) rfl rfl ?_
    refine TL.op rfl (OpOk.lit (enc := Go.E.encI) [(nth x0 k115 Tip.zero).state] rfl Tryz.underlying27 sz3 ze3 rfl rfl rfl Go.E.encI_len (by decide) (by decide) (0 : Int) rfl (by decide) rfl (by decide) Go.E.encI_one (fun a119 c120 => ?_))
    refine TL.front 1 rfl rfl ?_
    have u15 := grd_c hh
    replace hh := grd_t hh
    refine TL.op rfl (OpOk.appendS rfl rfl Tryz.underlying27 sz3 by3 ze3 rfl rfl (by decide) rfl rfl rfl (.inr ⟨_, 0, rfl⟩) (by simpa using u15) (by decide) (fun a122 c123 => ?_))
    refine TL.v rfl (OpVal.moveSl (.inr rfl) rfl) rfl rfl ?_
    refine TL.nil ?_
    refine B.n ?_
    refine S.n ?_
    refine TC.region ?_
    refine TL.v rfl (OpVal.moveI (.inl rfl) rfl) rfl rfl ?_
    refine TL.v rfl (OpVal.succ rfl rfl rfl (by omega)) rfl rfl ?_
    refine TL.v rfl (OpVal.moveI (.inr rfl) rfl) rfl rfl ?_
    refine TL.nil ?_
    refine S.n ?_
    obtain ⟨hh, hlt124⟩ := nxt_x hR1 hh
    refine ⟨by repeat (first | exact Agr.refl _ _ | exact Agr.mask | refine Agr.upd rfl ?_ | refine Agr.maskIn rfl ?_ | refine Agr.upds rfl ?_), (((l112 ++ [(nth x0 k115 Tip.zero).state]), (k115 + 1)), (a122, c123)), hlt124, hh, by repeat (first | exact trivial | refine ⟨rfl, ?_⟩), Sub.pre 1 rfl, rfl⟩
  · replace hh := iteO_f h118 hh
    replace h118 := of_decide_eq_false h118
    refine TC.exit ?_
    refine S.x ?_
    refine S.x ?_
    replace hh := fin_x hR1 hh
    refine TC.exitHere ?_
    refine S.n ?_
    refine TC.seq ?_
    refine TC.region ?_
    refine TL.v rfl (OpVal.moveSl (.inl rfl) rfl) rfl rfl ?_
    refine TL.sealS Go.E.encI_len (fun τ127 hle126 hr125 => ?_)
    replace f0_0 := f0_0.mono hle126
    have hr125b := hr125.rv.big
    obtain ⟨v21, u21, hh⟩ := bnd_e hh
    refine TL.op rfl (OpOk.call (whittleref05_Sort_con hr125 u21) rfl rfl pf33 rfl rfl rfl rfl ?_)
    rintro _ τ128 _ hle128 ⟨a128_1, c128_1, rfl, hr128_0, rfl⟩
    replace f0_0 := f0_0.mono hle128
    replace hr125 := hr125.mono hle128
    have hr128_0b := hr128_0.rv.big
    refine TL.v rfl (OpVal.moveSl (.inr rfl) rfl) rfl rfl ?_
    refine TL.nil ?_
    refine S.n ?_
    refine TC.ret ?_
    obtain rfl := Option.some.inj hh
    exact RetOk.mk' (rs := [.tmp 2]) [] rfl (.inl rfl) (RVs.tmp rfl RVs.nil) (List.sublist_append_left _ _) ⟨a128_1, c128_1, rfl, hr128_0, rfl⟩

noncomputable def whittleref15_In_b1 (x0 : Fst) (l108 : List Int) (l112 : List Int) (l144 : List Arrow) (k147 : Nat) : Option (((List Arrow) × Nat) ⊕ (Nfa × Int)) :=
  iteO (decide (((k147 : Nat) : Int) < ((x0.arcs.length : Nat) : Int))) (grd ((l144.length + [(⟨(nth x0.arcs k147 Arc.zero).frm, (nth x0.arcs k147 Arc.zero).to, (nth x0.arcs k147 Arc.zero).set⟩ : Arrow)].length) * 48 ≤ 140737488355328) (nxt ((l144 ++ [(⟨(nth x0.arcs k147 Arc.zero).frm, (nth x0.arcs k147 Arc.zero).to, (nth x0.arcs k147 Arc.zero).set⟩ : Arrow)]), (k147 + 1)))) (fin (some ((⟨x0.states, l108, l112, l144⟩ : Nfa), 0)))
noncomputable def whittleref15_In_j1 (x0 : Fst) (l108 : List Int) (l112 : List Int) : Option (Nfa × Int) :=
  iter (fun q : (List Arrow) × Nat => whittleref15_In_b1 x0 l108 l112 q.1 q.2) (([] : List Arrow), 0)
noncomputable def whittleref15_In (x0 : Fst) : Option (Nfa × Int) :=
  bnd (whittleref15_Right x0) (fun v5 => iteO (!v5) (some ((⟨0, ([] : List Int), ([] : List Int), ([] : List Arrow)⟩ : Nfa), 1)) (bnd (whittleref15_states x0.starts) (fun v14 => bnd (whittleref15_states x0.ends) (fun v17 => whittleref15_In_j1 x0 v14 v17))))
def whittleref15_In_P (σ : Store) (r : Nfa × Int) : Value → Store → List Res → Prop := fun v σ' H' =>
  ∃ (a1 : Option Addr), ∃ (c1 : Nat), ∃ (a2 : Option Addr), ∃ (c2 : Nat), ∃ (a3 : Option Addr), ∃ (c3 : Nat),  v = .tuple #[.agg #[.int .i64 r.1.states, .slice a1 r.1.starts.length c1, .slice a2 r.1.ends.length c2, .slice a3 r.1.edges.length c3], .int .i64 r.2] ∧ RS σ' 1 Go.E.encI (.slice a1 r.1.starts.length c1) r.1.starts ∧ RS σ' 1 Go.E.encI (.slice a2 r.1.ends.length c2) r.1.ends ∧ RS σ' 6 encE (.slice a3 r.1.edges.length c3) r.1.edges ∧ H' = []
theorem whittleref15_In_con {σ : Store} {x0 : Fst} {a0_0 : Option Addr} {c0_0 : Nat} {a0_1 : Option Addr} {c0_1 : Nat} {a0_2 : Option Addr} {c0_2 : Nat} (f0_0 : RS σ 2 encTip (.slice a0_0 x0.starts.length c0_0) x0.starts) (f0_1 : RS σ 2 encTip (.slice a0_1 x0.ends.length c0_1) x0.ends) (f0_2 : RS σ 8 encArc (.slice a0_2 x0.arcs.length c0_2) x0.arcs) {r : Nfa × Int} (hh : whittleref15_In x0 = some r) :
    Con Tryz.prog 6 #[.agg #[.int .i64 x0.states, .slice a0_0 x0.starts.length c0_0, .slice a0_1 x0.ends.length c0_1, .slice a0_2 x0.arcs.length c0_2]] σ [] (whittleref15_In_P σ r) := by
  dsimp only [whittleref15_In] at hh
  have f0_0b := f0_0.rv.big
  have f0_1b := f0_1.rv.big
  have f0_2b := f0_2.rv.big
  refine Con.mk (n := 51) Tryz.func6 rfl rfl rfl (fun w0 => ?_)
  refine TC.seq ?_
  refine TC.region ?_
  refine TL.op rfl (OpOk.boxA rfl rfl rfl rfl (fun b101 => ?_))
  refine TL.op rfl (OpOk.alloc rfl ze30 rfl rfl (fun b103 => ?_))
  refine TL.v rfl (OpVal.moveI (.inr rfl) rfl) rfl rfl ?_
  refine TL.nil ?_
  refine S.n ?_
  refine TC.seq ?_
  refine TC.seq ?_
  refine TC.region ?_
  refine TL.v rfl (OpVal.loadAll rfl ag25 sz25 rfl (i := 1) rfl rfl) rfl rfl ?_
  obtain ⟨v5, u5, hh⟩ := bnd_e hh
  refine TL.op rfl (OpOk.callP (whittleref15_Right_con (x0 := x0) f0_0 f0_1 f0_2 u5) rfl rfl pf14 rfl rfl rfl ?_)
  refine TL.v rfl (OpVal.not rfl rfl) rfl rfl ?_
  refine TL.nil ?_
  refine S.n ?_
  refine TC.cond rfl (fun h105 => ?_) (fun h105 => ?_)
  · replace hh := iteO_t h105 hh
    refine TC.seq ?_
    refine TC.region ?_
    refine TL.v rfl (OpVal.buildL rfl pl30 ze30 rfl) rfl rfl ?_
    refine TL.op rfl (OpOk.storeAll rfl sz30 rfl rfl rfl rfl rfl rfl ?_)
    refine TL.v rfl (OpVal.moveI (.inr rfl) rfl) rfl rfl ?_
    refine TL.nil ?_
    refine S.n ?_
    refine TC.ofSub (Sub.pre 1 rfl) ?_
    refine TC.ret ?_
    refine S.r ?_
    obtain rfl := Option.some.inj hh
    exact RetOk.mk' (rs := [.cell 2 30, .tmp 3]) [] rfl (.inl rfl) (RVs.agg ag30 sz30 rfl (i := 0) rfl rfl (RVs.tmp rfl RVs.nil)) (List.sublist_append_left _ _) ⟨none, 0, none, 0, none, 0, rfl, (RS.nilF _ Go.E.encI Go.E.encI_len), (RS.nilF _ Go.E.encI Go.E.encI_len), (RS.nilF _ encE encE_len), rfl⟩
  · replace hh := iteO_f h105 hh
    refine TC.skip ?_
    refine S.n ?_
    refine TC.cutG (α := ((List Int) × (List Int)) × (Nat × (Option Addr) × Nat × (Option Addr) × Nat × Store)) [4, 10, 11, 12, 13, 14, 15, 16, 17, 18] (fun g => [(4, loc g.2.1 0)]) (fun g => [Res.cells b101 #[.int .i64 x0.states, .slice a0_0 x0.starts.length c0_0, .slice a0_1 x0.ends.length c0_1, .slice a0_2 x0.arcs.length c0_2] 25, Res.cells b103 #[.int .i64 0, .slice none 0 0, .slice none 0 0, .slice none 0 0] 30, Res.cells g.2.1 #[.int .i64 x0.states, .slice g.2.2.1 g.1.1.length g.2.2.2.1, .slice g.2.2.2.2.1 g.1.2.length g.2.2.2.2.2.1, .slice none 0 0] 30]) (fun g => g.2.2.2.2.2.2) (fun g => whittleref15_In_j1 x0 g.1.1 g.1.2 = some r ∧ RS g.2.2.2.2.2.2 1 Go.E.encI (.slice g.2.2.1 g.1.1.length g.2.2.2.1) g.1.1 ∧ RS g.2.2.2.2.2.2 1 Go.E.encI (.slice g.2.2.2.2.1 g.1.2.length g.2.2.2.2.2.1) g.1.2 ∧ Store.le σ g.2.2.2.2.2.2) ?_ (fun g j hg => ?_)
    · skip
      obtain ⟨v14, u14, hh⟩ := bnd_e hh
      obtain ⟨v17, u17, hh⟩ := bnd_e hh
      refine TC.draw [10] (by kernel_rfl) ?_
      refine TA.takeP 0 rfl (by kernel_rfl) (by kernel_rfl) (by kernel_rfl) rfl (OpVal.fieldLoc rfl fo25_0 rfl) rfl rfl ?_
      refine TA.take 1 rfl (by kernel_rfl) (by kernel_rfl) (by kernel_rfl) (by kernel_rfl) rfl (OpVal.loadLoc rfl ag3 rfl (i := 1) rfl rfl) rfl rfl ?_
      refine TA.takeP 2 rfl (by kernel_rfl) (by kernel_rfl) (by kernel_rfl) rfl (OpVal.fieldLoc rfl fo25_1 rfl) rfl rfl ?_
      refine TA.take 3 rfl (by kernel_rfl) (by kernel_rfl) (by kernel_rfl) (by kernel_rfl) rfl (OpVal.loadLoc rfl ag22 rfl (i := 1) rfl rfl) rfl rfl ?_
      refine TA.takeP 5 rfl (by kernel_rfl) (by kernel_rfl) (by kernel_rfl) rfl (OpVal.fieldLoc rfl fo25_2 rfl) rfl rfl ?_
      refine TA.take 6 rfl (by kernel_rfl) (by kernel_rfl) (by kernel_rfl) (by kernel_rfl) rfl (OpVal.loadLoc rfl ag22 rfl (i := 1) rfl rfl) rfl rfl ?_
      refine TA.actN [4, 9] (by kernel_rfl) (And.intro (Exists.intro _ (And.intro rfl (And.intro rfl (OpOk.call (whittleref15_states_con f0_0 u14) rfl rfl pf15 rfl rfl rfl rfl ?_)))) (And.intro (Exists.intro _ (And.intro rfl (And.intro rfl (OpOk.alloc rfl ze30 rfl rfl (fun b121 => ⟨(fun w h => sees_of (Store.le.refl _) (fun r hr => (List.mem_cons_of_mem _ hr)) w h), ?_⟩))))) (True.intro)))
      · skip
        rintro _ τ120 _ hle120 ⟨a120_1, c120_1, rfl, hr120_0, rfl⟩
        replace f0_0 := f0_0.mono hle120
        replace f0_1 := f0_1.mono hle120
        replace f0_2 := f0_2.mono hle120
        have hr120_0b := hr120_0.rv.big
        refine ⟨(fun w h => sees_of hle120 (fun r hr => hr) w h), ?_⟩
        refine TA.actN [7, 9] (by kernel_rfl) (And.intro (Exists.intro _ (And.intro rfl (And.intro rfl (OpOk.call (whittleref15_states_con f0_1 u17) rfl rfl pf15 rfl rfl rfl rfl ?_)))) (And.intro (Exists.intro _ (And.intro rfl (And.intro rfl (OpOk.alloc rfl ze30 rfl rfl (fun b124 => ⟨(fun w h => sees_of hle120 (fun r hr => (List.mem_cons_of_mem _ hr)) w h), ?_⟩))))) (True.intro)))
        · skip
          rintro _ τ123 _ hle123 ⟨a123_1, c123_1, rfl, hr123_0, rfl⟩
          replace f0_0 := f0_0.mono hle123
          replace f0_1 := f0_1.mono hle123
          replace f0_2 := f0_2.mono hle123
          replace hr120_0 := hr120_0.mono hle123
          have hr123_0b := hr123_0.rv.big
          refine ⟨(fun w h => sees_of (hle120.trans hle123) (fun r hr => hr) w h), ?_⟩
          refine TA.takeP 8 rfl (by kernel_rfl) (by kernel_rfl) (by kernel_rfl) rfl (OpVal.buildL rfl pl30 ze30 rfl) rfl rfl ?_
          refine TA.act 9 (by kernel_rfl) rfl rfl (OpOk.alloc rfl ze30 rfl rfl (fun b126 => ⟨(fun w h => sees_of (hle120.trans hle123) (fun r hr => (List.mem_cons_of_mem _ hr)) w h), ?_⟩))
          refine TA.last 10 (by kernel_rfl) rfl rfl rfl (OpOk.storeAll rfl sz30 rfl rfl rfl rfl rfl rfl ?_)
          refine TZ.done (by kernel_rfl) ?_
          refine S.n ?_
          refine ⟨by repeat (first | exact Agr.refl _ _ | exact Agr.mask | refine Agr.upd rfl ?_ | refine Agr.maskIn rfl ?_ | refine Agr.upds rfl ?_), ((v14, v17), (b126, a120_1, c120_1, a123_1, c123_1, τ123)), ⟨hh, hr120_0, hr123_0, (hle120.trans hle123)⟩, by repeat (first | exact trivial | refine ⟨rfl, ?_⟩), Sub.front 1 rfl rfl (Sub.front 2 rfl rfl (Sub.pre 3 rfl)), rfl⟩
        · skip
          refine TA.act 7 (by kernel_rfl) rfl rfl (OpOk.call (whittleref15_states_con f0_1 u17) rfl rfl pf15 rfl rfl rfl rfl ?_)
          rintro _ τ128 _ hle128 ⟨a128_1, c128_1, rfl, hr128_0, rfl⟩
          replace f0_0 := f0_0.mono hle128
          replace f0_1 := f0_1.mono hle128
          replace f0_2 := f0_2.mono hle128
          replace hr120_0 := hr120_0.mono hle128
          have hr128_0b := hr128_0.rv.big
          refine ⟨(fun w h => sees_of (hle120.trans hle128) (fun r hr => (List.mem_cons_of_mem _ hr)) w h), ?_⟩
          refine TA.takeP 8 rfl (by kernel_rfl) (by kernel_rfl) (by kernel_rfl) rfl (OpVal.buildL rfl pl30 ze30 rfl) rfl rfl ?_
          refine TA.last 10 (by kernel_rfl) rfl rfl rfl (OpOk.storeAll rfl sz30 rfl rfl rfl rfl rfl rfl ?_)
          refine TZ.done (by kernel_rfl) ?_
          refine S.n ?_
          refine ⟨by repeat (first | exact Agr.refl _ _ | exact Agr.mask | refine Agr.upd rfl ?_ | refine Agr.maskIn rfl ?_ | refine Agr.upds rfl ?_), ((v14, v17), (b124, a120_1, c120_1, a128_1, c128_1, τ128)), ⟨hh, hr120_0, hr128_0, (hle120.trans hle128)⟩, by repeat (first | exact trivial | refine ⟨rfl, ?_⟩), Sub.front 1 rfl rfl (Sub.front 2 rfl rfl (Sub.pre 3 rfl)), rfl⟩
      · skip
        refine TA.act 4 (by kernel_rfl) rfl rfl (OpOk.call (whittleref15_states_con f0_0 u14) rfl rfl pf15 rfl rfl rfl rfl ?_)
        rintro _ τ129 _ hle129 ⟨a129_1, c129_1, rfl, hr129_0, rfl⟩
        replace f0_0 := f0_0.mono hle129
        replace f0_1 := f0_1.mono hle129
        replace f0_2 := f0_2.mono hle129
        have hr129_0b := hr129_0.rv.big
        refine ⟨(fun w h => sees_of hle129 (fun r hr => (List.mem_cons_of_mem _ hr)) w h), ?_⟩
        refine TA.act 7 (by kernel_rfl) rfl rfl (OpOk.call (whittleref15_states_con f0_1 u17) rfl rfl pf15 rfl rfl rfl rfl ?_)
        rintro _ τ130 _ hle130 ⟨a130_1, c130_1, rfl, hr130_0, rfl⟩
        replace f0_0 := f0_0.mono hle130
        replace f0_1 := f0_1.mono hle130
        replace f0_2 := f0_2.mono hle130
        replace hr129_0 := hr129_0.mono hle130
        have hr130_0b := hr130_0.rv.big
        refine ⟨(fun w h => sees_of (hle129.trans hle130) (fun r hr => (List.mem_cons_of_mem _ hr)) w h), ?_⟩
        refine TA.takeP 8 rfl (by kernel_rfl) (by kernel_rfl) (by kernel_rfl) rfl (OpVal.buildL rfl pl30 ze30 rfl) rfl rfl ?_
        refine TA.last 10 (by kernel_rfl) rfl rfl rfl (OpOk.storeAll rfl sz30 rfl rfl rfl rfl rfl rfl ?_)
        refine TZ.done (by kernel_rfl) ?_
        refine S.n ?_
        refine ⟨by repeat (first | exact Agr.refl _ _ | exact Agr.mask | refine Agr.upd rfl ?_ | refine Agr.maskIn rfl ?_ | refine Agr.upds rfl ?_), ((v14, v17), (b121, a129_1, c129_1, a130_1, c130_1, τ130)), ⟨hh, hr129_0, hr130_0, (hle129.trans hle130)⟩, by repeat (first | exact trivial | refine ⟨rfl, ?_⟩), Sub.front 1 rfl rfl (Sub.front 2 rfl rfl (Sub.pre 3 rfl)), rfl⟩
    · skip
      obtain ⟨⟨l108, l112⟩, ⟨b107, a109, c110, a113, c114, τ131⟩⟩ := g
      obtain ⟨hh, hr111, hr115, hle132⟩ := hg
      try dsimp only at hr111
      try dsimp only at hr115
      dsimp only at hle132
      replace f0_0 := f0_0.mono hle132
      replace f0_1 := f0_1.mono hle132
      replace f0_2 := f0_2.mono hle132
      show TC _ _ _ (upds (mask _ j _) [(4, loc b107 0)]) τ131 [Res.cells b101 #[.int .i64 x0.states, .slice a0_0 x0.starts.length c0_0, .slice a0_1 x0.ends.length c0_1, .slice a0_2 x0.arcs.length c0_2] 25, Res.cells b103 #[.int .i64 0, .slice none 0 0, .slice none 0 0, .slice none 0 0] 30, Res.cells b107 #[.int .i64 x0.states, .slice a109 l108.length c110, .slice a113 l112.length c114, .slice none 0 0] 30]
      dsimp only [whittleref15_In_j1] at hh
      have hr111b := hr111.rv.big
      have hr115b := hr115.rv.big
      refine TC.seq ?_
      refine TC.seq ?_
      refine TC.region ?_
      refine TL.v rfl (OpVal.moveI (.inr rfl) rfl) rfl rfl ?_
      refine TL.nil ?_
      refine S.n ?_
      refine TC.block ?_
      refine TC.nilS 49 6 encE ?_
      refine TC.loopG (α := ((List Arrow) × Nat) × ((Option Addr) × Nat)) [5, 19, 20, 21, 22, 23, 24, 25, 26, 27, 28, 29, 30, 31, 32, 33, 34, 35, 36, 37, 38, 39, 40, 41, 42, 43, 44, 45, 46, 47, 48, 49] (fun g => [(5, .int .i64 ((g.1.2 : Nat) : Int))]) (fun g => [Res.cells b101 #[.int .i64 x0.states, .slice a0_0 x0.starts.length c0_0, .slice a0_1 x0.ends.length c0_1, .slice a0_2 x0.arcs.length c0_2] 25, Res.cells b103 #[.int .i64 0, .slice none 0 0, .slice none 0 0, .slice none 0 0] 30, Res.cells b107 #[.int .i64 x0.states, .slice a109 l108.length c110, .slice a113 l112.length c114, .slice g.2.1 g.1.1.length g.2.2] 30, Res.rowS 49 6 encE (.slice g.2.1 g.1.1.length g.2.2) g.1.1]) (fun g => τ131) (fun g => iter (fun q : (List Arrow) × Nat => whittleref15_In_b1 x0 l108 l112 q.1 q.2) g.1 = some r) (fun g => rounds (fun q : (List Arrow) × Nat => whittleref15_In_b1 x0 l108 l112 q.1 q.2) g.1) ((([] : List Arrow), 0), (none, 0)) (Sub.front 3 rfl rfl (Sub.front 3 rfl rfl (Sub.front 3 rfl rfl (Sub.pre 4 rfl)))) rfl (by repeat (first | exact trivial | refine ⟨rfl, ?_⟩)) hh (fun g1 j1 hg1 => ?_)
      obtain ⟨⟨l144, k147⟩, ⟨a145, c146⟩⟩ := g1
      have hh := hg1; clear hg1
      show TC _ _ _ (upds (mask _ j1 _) [(5, .int .i64 ((k147 : Nat) : Int))]) _ [Res.cells b101 #[.int .i64 x0.states, .slice a0_0 x0.starts.length c0_0, .slice a0_1 x0.ends.length c0_1, .slice a0_2 x0.arcs.length c0_2] 25, Res.cells b103 #[.int .i64 0, .slice none 0 0, .slice none 0 0, .slice none 0 0] 30, Res.cells b107 #[.int .i64 x0.states, .slice a109 l108.length c110, .slice a113 l112.length c114, .slice a145 l144.length c146] 30, Res.rowS 49 6 encE (.slice a145 l144.length c146) l144]
      obtain ⟨z1, hh, hR1⟩ := iter_e hh
      dsimp only [whittleref15_In_b1] at hh
      refine TC.isSl (i := 3) rfl (fun _ hb149 _ => ?_)
      refine TC.seq ?_
      refine TC.seq ?_
      refine TC.region ?_
      refine TL.v rfl (OpVal.moveI (.inl rfl) rfl) rfl rfl ?_
      refine TL.v rfl (OpVal.fieldLoc rfl fo25_3 rfl) rfl rfl ?_
      refine TL.v rfl (OpVal.loadLoc rfl ag23 rfl (i := 0) rfl rfl) rfl rfl ?_
      refine TL.v rfl (OpVal.lenC rfl Tryz.underlying23 rfl) rfl rfl ?_
      refine TL.v rfl (OpVal.lss rfl rfl rfl) rfl rfl ?_
      refine TL.nil ?_
      refine S.n ?_
      refine TC.cond rfl (fun h150 => ?_) (fun h150 => ?_)
      · replace hh := iteO_t h150 hh
        replace h150 := of_decide_eq_true h150
        refine TC.skip ?_
        refine S.n ?_
        refine TC.seq ?_
        refine TC.block ?_
        have u49 := grd_c hh
        replace hh := grd_t hh
        refine TC.draw [22, 23, 24] (by kernel_rfl) ?_
        refine TA.takeP 0 rfl (by kernel_rfl) (by kernel_rfl) (by kernel_rfl) rfl (OpVal.fieldLoc rfl fo30_3 rfl) rfl rfl ?_
        refine TA.take 1 rfl (by kernel_rfl) (by kernel_rfl) (by kernel_rfl) (by kernel_rfl) rfl (OpVal.loadLoc rfl ag28 rfl (i := 2) rfl rfl) rfl rfl ?_
        refine TA.takeP 2 rfl (by kernel_rfl) (by kernel_rfl) (by kernel_rfl) rfl (OpVal.fieldLoc rfl fo25_3 rfl) rfl rfl ?_
        refine TA.take 3 rfl (by kernel_rfl) (by kernel_rfl) (by kernel_rfl) (by kernel_rfl) rfl (OpVal.loadLoc rfl ag23 rfl (i := 0) rfl rfl) rfl rfl ?_
        refine TA.takeP 4 rfl (by kernel_rfl) (by kernel_rfl) (by kernel_rfl) rfl (OpVal.moveI (.inl rfl) rfl) rfl rfl ?_
        refine TA.take 5 rfl (by kernel_rfl) (by kernel_rfl) (by kernel_rfl) (by kernel_rfl) rfl (OpVal.indexN rfl Tryz.underlying23 sz45 rfl rfl f0_2.rv.sl (by omega)) rfl rfl ?_
        refine TA.takeP 6 rfl (by kernel_rfl) (by kernel_rfl) (by kernel_rfl) rfl (OpVal.fieldElem rfl fo45_0 rfl f0_2.rv.sl (by omega)) rfl rfl ?_
        refine TA.take 7 rfl (by kernel_rfl) (by kernel_rfl) (by kernel_rfl) (by kernel_rfl) rfl (OpVal.loadS Arc.zero rfl ag3 rfl f0_2 (by omega) (by omega) rfl) rfl rfl ?_
        refine TA.takeP 8 rfl (by kernel_rfl) (by kernel_rfl) (by kernel_rfl) rfl (OpVal.fieldLoc rfl fo25_3 rfl) rfl rfl ?_
        refine TA.take 9 rfl (by kernel_rfl) (by kernel_rfl) (by kernel_rfl) (by kernel_rfl) rfl (OpVal.loadLoc rfl ag23 rfl (i := 0) rfl rfl) rfl rfl ?_
        refine TA.takeP 10 rfl (by kernel_rfl) (by kernel_rfl) (by kernel_rfl) rfl (OpVal.moveI (.inl rfl) rfl) rfl rfl ?_
        refine TA.take 11 rfl (by kernel_rfl) (by kernel_rfl) (by kernel_rfl) (by kernel_rfl) rfl (OpVal.indexN rfl Tryz.underlying23 sz45 rfl rfl f0_2.rv.sl (by omega)) rfl rfl ?_
        refine TA.takeP 12 rfl (by kernel_rfl) (by kernel_rfl) (by kernel_rfl) rfl (OpVal.fieldElem rfl fo45_1 rfl f0_2.rv.sl (by omega)) rfl rfl ?_
        refine TA.take 13 rfl (by kernel_rfl) (by kernel_rfl) (by kernel_rfl) (by kernel_rfl) rfl (OpVal.loadS Arc.zero rfl ag3 rfl f0_2 (by omega) (by omega) rfl) rfl rfl ?_
        refine TA.takeP 14 rfl (by kernel_rfl) (by kernel_rfl) (by kernel_rfl) rfl (OpVal.fieldLoc rfl fo25_3 rfl) rfl rfl ?_
        refine TA.take 15 rfl (by kernel_rfl) (by kernel_rfl) (by kernel_rfl) (by kernel_rfl) rfl (OpVal.loadLoc rfl ag23 rfl (i := 0) rfl rfl) rfl rfl ?_
        refine TA.takeP 16 rfl (by kernel_rfl) (by kernel_rfl) (by kernel_rfl) rfl (OpVal.moveI (.inl rfl) rfl) rfl rfl ?_
        refine TA.take 17 rfl (by kernel_rfl) (by kernel_rfl) (by kernel_rfl) (by kernel_rfl) rfl (OpVal.indexN rfl Tryz.underlying23 sz45 rfl rfl f0_2.rv.sl (by omega)) rfl rfl ?_
        refine TA.takeP 18 rfl (by kernel_rfl) (by kernel_rfl) (by kernel_rfl) rfl (OpVal.fieldElem rfl fo45_2 rfl f0_2.rv.sl (by omega)) rfl rfl ?_
        refine TA.take 19 rfl (by kernel_rfl) (by kernel_rfl) (by kernel_rfl) (by kernel_rfl) rfl (OpVal.loadSub Arc.zero rfl ag43 sz43 rfl f0_2 (by omega) (by omega) (by omega) rfl rfl) rfl rfl ?_
        refine TA.takeP 20 rfl (by kernel_rfl) (by kernel_rfl) (by kernel_rfl) rfl (OpVal.buildL rfl pl49 ze49 rfl) rfl rfl ?_
        refine TA.act 21 (by kernel_rfl) rfl rfl (OpOk.lit (enc := encE) [(⟨(nth x0.arcs k147 Arc.zero).frm, (nth x0.arcs k147 Arc.zero).to, (nth x0.arcs k147 Arc.zero).set⟩ : Arrow)] rfl Tryz.underlying28 sz49 ze49 rfl rfl rfl encE_len (by decide) (by decide) Arrow.zero rfl (by decide) rfl (by decide) encE_one (fun a156 c157 => ⟨(fun w h => sees_of (Store.le.refl _) (fun r hr => (List.mem_cons_of_mem _ hr)) w h), ?_⟩))
        refine TA.front 4 rfl rfl ?_
        refine TA.last 22 (by kernel_rfl) rfl rfl rfl (OpOk.appendS rfl rfl Tryz.underlying28 sz49 by49 ze49 rfl rfl (by decide) rfl rfl rfl (.inr ⟨_, 0, rfl⟩) (by simpa using u49) (by decide) (fun a159 c160 => ?_))
        refine TZ.v 23 (by kernel_rfl) rfl rfl rfl (OpVal.fieldLoc rfl fo30_3 rfl) rfl rfl ?_
        refine TZ.front 4 rfl rfl ?_
        refine TZ.last 24 (by kernel_rfl) rfl rfl rfl (OpOk.storeSl rfl sz28 rfl rfl rfl rfl rfl ?_)
        refine TZ.done (by kernel_rfl) ?_
        refine B.n ?_
        refine S.n ?_
        refine TC.region ?_
        refine TL.v rfl (OpVal.moveI (.inl rfl) rfl) rfl rfl ?_
        refine TL.v rfl (OpVal.succ rfl rfl rfl (by omega)) rfl rfl ?_
        refine TL.v rfl (OpVal.moveI (.inr rfl) rfl) rfl rfl ?_
        refine TL.nil ?_
        refine S.n ?_
        obtain ⟨hh, hlt161⟩ := nxt_x hR1 hh
        refine ⟨by repeat (first | exact Agr.refl _ _ | exact Agr.mask | refine Agr.upd rfl ?_ | refine Agr.maskIn rfl ?_ | refine Agr.upds rfl ?_), (((l144 ++ [(⟨(nth x0.arcs k147 Arc.zero).frm, (nth x0.arcs k147 Arc.zero).to, (nth x0.arcs k147 Arc.zero).set⟩ : Arrow)]), (k147 + 1)), (a159, c160)), hlt161, hh, by repeat (first | exact trivial | refine ⟨rfl, ?_⟩), Sub.front 1 rfl rfl (Sub.front 1 rfl rfl (Sub.front 4 rfl rfl (Sub.front 4 rfl rfl (Sub.pre 4 rfl)))), rfl⟩
      · replace hh := iteO_f h150 hh
        replace h150 := of_decide_eq_false h150
        refine TC.exit ?_
        refine S.x ?_
        refine S.x ?_
        replace hh := fin_x hR1 hh
        refine TC.exitHere ?_
        refine S.n ?_
        refine TC.seq ?_
        refine TC.region ?_
        refine TL.v rfl (OpVal.loadAll rfl ag30 sz30 rfl (i := 2) rfl rfl) rfl rfl ?_
        refine TL.front 1 rfl rfl ?_
        refine TL.op rfl (OpOk.storeAll rfl sz30 rfl rfl rfl rfl rfl rfl ?_)
        refine TL.v rfl (OpVal.moveI (.inr rfl) rfl) rfl rfl ?_
        refine TL.nil ?_
        refine S.n ?_
        refine TC.front 3 rfl rfl ?_
        refine TC.sealS encE_len (fun τ164 hle163 hr162 => ?_)
        replace f0_0 := f0_0.mono hle163
        replace f0_1 := f0_1.mono hle163
        replace f0_2 := f0_2.mono hle163
        replace hr111 := hr111.mono hle163
        replace hr115 := hr115.mono hle163
        have hr162b := hr162.rv.big
        refine TC.ofSub (Sub.pre 1 rfl) ?_
        refine TC.ret ?_
        obtain rfl := Option.some.inj hh
        exact RetOk.mk' (rs := [.cell 2 30, .tmp 3]) [] rfl (.inl rfl) (RVs.agg ag30 sz30 rfl (i := 0) rfl rfl (RVs.tmp rfl RVs.nil)) (List.sublist_append_left _ _) ⟨a109, c110, a113, c114, a145, c146, rfl, hr111, hr115, hr162, rfl⟩

noncomputable def whittleref15_tipLess (x0 : Tip) (x1 : Tip) : Option (Bool) :=
  iteO (decide (x0.state < x1.state)) (some true) (iteO (decide (x0.state = x1.state)) (some (decide (Lib.compareBytes x0.out x1.out < 0))) (some false))
theorem whittleref15_tipLess_con {σ : Store} {x0 : Tip} {x1 : Tip}  {r : Bool} (hh : whittleref15_tipLess x0 x1 = some r) :
    Con Tryz.prog 44 #[.agg #[.int .i64 x0.state, .string (bs x0.out)], .agg #[.int .i64 x1.state, .string (bs x1.out)]] σ [] (PureP (.bool r) σ) := by
  dsimp only [whittleref15_tipLess] at hh
  refine Con.mk (n := 24) Tryz.func44 rfl rfl rfl (fun w0 => ?_)
  refine TC.seq ?_
  refine TC.region ?_
  refine TL.op rfl (OpOk.boxA rfl rfl rfl rfl (fun b101 => ?_))
  refine TL.op rfl (OpOk.boxA rfl rfl rfl rfl (fun b103 => ?_))
  refine TL.v rfl (OpVal.moveB (.inr rfl) rfl) rfl rfl ?_
  refine TL.nil ?_
  refine S.n ?_
  refine TC.seq ?_
  refine TC.region ?_
  refine TL.v rfl (OpVal.fieldLoc rfl fo40_0 rfl) rfl rfl ?_
  refine TL.v rfl (OpVal.loadLoc rfl ag3 rfl (i := 1) rfl rfl) rfl rfl ?_
  refine TL.v rfl (OpVal.fieldLoc rfl fo40_0 rfl) rfl rfl ?_
  refine TL.v rfl (OpVal.loadLoc rfl ag3 rfl (i := 0) rfl rfl) rfl rfl ?_
  refine TL.v rfl (OpVal.lss rfl rfl rfl) rfl rfl ?_
  refine TL.v rfl (OpVal.moveB (.inl rfl) rfl) rfl rfl ?_
  refine TL.split 10 rfl (fun h105 => ?_) (fun h105 => ?_)
  · replace hh := iteO_t h105 hh
    replace h105 := of_decide_eq_true h105
    refine TL.goff rfl rfl rfl rfl rfl rfl rfl rfl ?_
    refine TL.goff rfl rfl rfl rfl rfl rfl rfl rfl ?_
    refine TL.goff rfl rfl rfl rfl rfl rfl rfl rfl ?_
    refine TL.goff rfl rfl rfl rfl rfl rfl rfl rfl ?_
    refine TL.goff rfl rfl rfl rfl rfl rfl rfl rfl ?_
    refine TL.goff rfl rfl rfl rfl rfl rfl rfl rfl ?_
    refine TL.goff' rfl rfl rfl rfl rfl rfl rfl ?_
    refine TL.goff' rfl rfl rfl rfl rfl rfl rfl ?_
    refine TL.goff' rfl rfl rfl rfl rfl rfl rfl ?_
    refine TL.goff' rfl rfl rfl rfl rfl rfl rfl ?_
    refine TL.goff' rfl rfl rfl rfl rfl rfl rfl ?_
    refine TL.goff rfl rfl rfl rfl rfl rfl rfl rfl ?_
    refine TL.v rfl (OpVal.pickTB rfl rfl rfl) rfl rfl ?_
    refine TL.v rfl (OpVal.moveB (.inr rfl) rfl) rfl rfl ?_
    refine TL.nil ?_
    refine S.n ?_
    refine TC.ofSub (Sub.pre 0 rfl) ?_
    refine TC.ret ?_
    obtain rfl := Option.some.inj hh
    exact RetOk.mk' (rs := [.tmp 4]) [] rfl (.inl rfl) (RVs.tmp rfl RVs.nil) (List.sublist_append_left _ _) ⟨rfl, rfl, rfl⟩
  · replace hh := iteO_f h105 hh
    replace h105 := of_decide_eq_false h105
    refine TL.gv rfl rfl rfl rfl rfl (OpVal.fieldLoc rfl fo40_0 rfl) rfl rfl ?_
    refine TL.gv rfl rfl rfl rfl rfl (OpVal.loadLoc rfl ag3 rfl (i := 1) rfl rfl) rfl rfl ?_
    refine TL.gv rfl rfl rfl rfl rfl (OpVal.fieldLoc rfl fo40_0 rfl) rfl rfl ?_
    refine TL.gv rfl rfl rfl rfl rfl (OpVal.loadLoc rfl ag3 rfl (i := 0) rfl rfl) rfl rfl ?_
    refine TL.gv rfl rfl rfl rfl rfl (OpVal.eql rfl rfl rfl) rfl rfl ?_
    refine TL.gv rfl rfl rfl rfl rfl (OpVal.moveB (.inl rfl) rfl) rfl rfl ?_
    refine TL.split 16 rfl (fun h106 => ?_) (fun h106 => ?_)
    · replace hh := iteO_t h106 hh
      replace h106 := of_decide_eq_true h106
      refine TL.gv rfl rfl rfl rfl rfl (OpVal.fieldLoc rfl fo40_1 rfl) rfl rfl ?_
      refine TL.gv rfl rfl rfl rfl rfl (OpVal.loadLoc rfl ag9 rfl (i := 1) rfl rfl) rfl rfl ?_
      refine TL.gv rfl rfl rfl rfl rfl (OpVal.fieldLoc rfl fo40_1 rfl) rfl rfl ?_
      refine TL.gv rfl rfl rfl rfl rfl (OpVal.loadLoc rfl ag9 rfl (i := 0) rfl rfl) rfl rfl ?_
      refine TL.gv rfl rfl rfl rfl rfl (OpVal.lssBs rfl rfl rfl) rfl rfl ?_
      refine TL.gv rfl rfl rfl rfl rfl (OpVal.pickTB rfl rfl rfl) rfl rfl ?_
      refine TL.v rfl (OpVal.pickFB rfl rfl rfl) rfl rfl ?_
      refine TL.v rfl (OpVal.moveB (.inr rfl) rfl) rfl rfl ?_
      refine TL.nil ?_
      refine S.n ?_
      refine TC.ofSub (Sub.pre 0 rfl) ?_
      refine TC.ret ?_
      obtain rfl := Option.some.inj hh
      exact RetOk.mk' (rs := [.tmp 4]) [] rfl (.inl rfl) (RVs.tmp rfl RVs.nil) (List.sublist_append_left _ _) ⟨rfl, rfl, rfl⟩
    · replace hh := iteO_f h106 hh
      replace h106 := of_decide_eq_false h106
      refine TL.goff rfl rfl rfl rfl rfl rfl rfl rfl ?_
      refine TL.goff rfl rfl rfl rfl rfl rfl rfl rfl ?_
      refine TL.goff rfl rfl rfl rfl rfl rfl rfl rfl ?_
      refine TL.goff rfl rfl rfl rfl rfl rfl rfl rfl ?_
      refine TL.goff rfl rfl rfl rfl rfl rfl rfl rfl ?_
      refine TL.gv rfl rfl rfl rfl rfl (OpVal.pickFB rfl rfl rfl) rfl rfl ?_
      refine TL.v rfl (OpVal.pickFB rfl rfl rfl) rfl rfl ?_
      refine TL.v rfl (OpVal.moveB (.inr rfl) rfl) rfl rfl ?_
      refine TL.nil ?_
      refine S.n ?_
      refine TC.ofSub (Sub.pre 0 rfl) ?_
      refine TC.ret ?_
      obtain rfl := Option.some.inj hh
      exact RetOk.mk' (rs := [.tmp 4]) [] rfl (.inl rfl) (RVs.tmp rfl RVs.nil) (List.sublist_append_left _ _) ⟨rfl, rfl, rfl⟩

noncomputable def whittleref15_arcLess_b1 (x0 : Arc) (x1 : Arc) (k109 : Nat) : Option ((Nat) ⊕ (Bool)) :=
  iteO (decide (((k109 : Nat) : Int) < 4)) (grd (k109 < 4) (grd (k109 < 4) (iteO (decide ((BSet.word x0.set k109) ≠ (BSet.word x1.set k109))) (grd (k109 < 4) (grd (k109 < 4) (fin (some (decide ((BSet.word x0.set k109) < (BSet.word x1.set k109))))))) (nxt (k109 + 1))))) (fin (iteO (decide (x0.out ≠ x1.out)) (some (decide (Lib.compareBytes x0.out x1.out < 0))) (iteO (!x0.copy) (some x1.copy) (some false))))
noncomputable def whittleref15_arcLess (x0 : Arc) (x1 : Arc) : Option (Bool) :=
  iteO (decide (x0.frm ≠ x1.frm)) (some (decide (x0.frm < x1.frm))) (iteO (decide (x0.to ≠ x1.to)) (some (decide (x0.to < x1.to))) (iter (fun q : Nat => whittleref15_arcLess_b1 x0 x1 q) 0))
theorem whittleref15_arcLess_con {σ : Store} {x0 : Arc} {x1 : Arc}  {r : Bool} (hh : whittleref15_arcLess x0 x1 = some r) :
    Con Tryz.prog 45 #[.agg #[.int .i64 x0.frm, .int .i64 x0.to, .int .u64 ((x0.set.a : Nat) : Int), .int .u64 ((x0.set.b : Nat) : Int), .int .u64 ((x0.set.c : Nat) : Int), .int .u64 ((x0.set.d : Nat) : Int), .string (bs x0.out), .bool x0.copy], .agg #[.int .i64 x1.frm, .int .i64 x1.to, .int .u64 ((x1.set.a : Nat) : Int), .int .u64 ((x1.set.b : Nat) : Int), .int .u64 ((x1.set.c : Nat) : Int), .int .u64 ((x1.set.d : Nat) : Int), .string (bs x1.out), .bool x1.copy]] σ [] (PureP (.bool r) σ) := by
  dsimp only [whittleref15_arcLess] at hh
  refine Con.mk (n := 65) Tryz.func45 rfl rfl rfl (fun w0 => ?_)
  refine TC.seq ?_
  refine TC.region ?_
  refine TL.op rfl (OpOk.boxA rfl rfl rfl rfl (fun b101 => ?_))
  refine TL.op rfl (OpOk.boxA rfl rfl rfl rfl (fun b103 => ?_))
  refine TL.v rfl (OpVal.moveB (.inr rfl) rfl) rfl rfl ?_
  refine TL.nil ?_
  refine S.n ?_
  refine TC.seq ?_
  refine TC.seq ?_
  refine TC.region ?_
  refine TL.v rfl (OpVal.fieldLoc rfl fo45_0 rfl) rfl rfl ?_
  refine TL.v rfl (OpVal.loadLoc rfl ag3 rfl (i := 1) rfl rfl) rfl rfl ?_
  refine TL.v rfl (OpVal.fieldLoc rfl fo45_0 rfl) rfl rfl ?_
  refine TL.v rfl (OpVal.loadLoc rfl ag3 rfl (i := 0) rfl rfl) rfl rfl ?_
  refine TL.v rfl (OpVal.neq rfl rfl rfl) rfl rfl ?_
  refine TL.nil ?_
  refine S.n ?_
  refine TC.cond rfl (fun h105 => ?_) (fun h105 => ?_)
  · replace hh := iteO_t h105 hh
    replace h105 := of_decide_eq_true h105
    refine TC.seq ?_
    refine TC.region ?_
    refine TL.v rfl (OpVal.fieldLoc rfl fo45_0 rfl) rfl rfl ?_
    refine TL.v rfl (OpVal.loadLoc rfl ag3 rfl (i := 1) rfl rfl) rfl rfl ?_
    refine TL.v rfl (OpVal.fieldLoc rfl fo45_0 rfl) rfl rfl ?_
    refine TL.v rfl (OpVal.loadLoc rfl ag3 rfl (i := 0) rfl rfl) rfl rfl ?_
    refine TL.v rfl (OpVal.lss rfl rfl rfl) rfl rfl ?_
    refine TL.v rfl (OpVal.moveB (.inr rfl) rfl) rfl rfl ?_
    refine TL.nil ?_
    refine S.n ?_
    refine TC.ofSub (Sub.pre 0 rfl) ?_
    refine TC.ret ?_
    refine S.r ?_
    obtain rfl := Option.some.inj hh
    exact RetOk.mk' (rs := [.tmp 4]) [] rfl (.inl rfl) (RVs.tmp rfl RVs.nil) (List.sublist_append_left _ _) ⟨rfl, rfl, rfl⟩
  · replace hh := iteO_f h105 hh
    replace h105 := of_decide_eq_false h105
    refine TC.skip ?_
    refine S.n ?_
    refine TC.seq ?_
    refine TC.seq ?_
    refine TC.region ?_
    refine TL.v rfl (OpVal.fieldLoc rfl fo45_1 rfl) rfl rfl ?_
    refine TL.v rfl (OpVal.loadLoc rfl ag3 rfl (i := 1) rfl rfl) rfl rfl ?_
    refine TL.v rfl (OpVal.fieldLoc rfl fo45_1 rfl) rfl rfl ?_
    refine TL.v rfl (OpVal.loadLoc rfl ag3 rfl (i := 0) rfl rfl) rfl rfl ?_
    refine TL.v rfl (OpVal.neq rfl rfl rfl) rfl rfl ?_
    refine TL.nil ?_
    refine S.n ?_
    refine TC.cond rfl (fun h106 => ?_) (fun h106 => ?_)
    · replace hh := iteO_t h106 hh
      replace h106 := of_decide_eq_true h106
      refine TC.seq ?_
      refine TC.region ?_
      refine TL.v rfl (OpVal.fieldLoc rfl fo45_1 rfl) rfl rfl ?_
      refine TL.v rfl (OpVal.loadLoc rfl ag3 rfl (i := 1) rfl rfl) rfl rfl ?_
      refine TL.v rfl (OpVal.fieldLoc rfl fo45_1 rfl) rfl rfl ?_
      refine TL.v rfl (OpVal.loadLoc rfl ag3 rfl (i := 0) rfl rfl) rfl rfl ?_
      refine TL.v rfl (OpVal.lss rfl rfl rfl) rfl rfl ?_
      refine TL.v rfl (OpVal.moveB (.inr rfl) rfl) rfl rfl ?_
      refine TL.nil ?_
      refine S.n ?_
      refine TC.ofSub (Sub.pre 0 rfl) ?_
      refine TC.ret ?_
      refine S.r ?_
      obtain rfl := Option.some.inj hh
      exact RetOk.mk' (rs := [.tmp 4]) [] rfl (.inl rfl) (RVs.tmp rfl RVs.nil) (List.sublist_append_left _ _) ⟨rfl, rfl, rfl⟩
    · replace hh := iteO_f h106 hh
      replace h106 := of_decide_eq_false h106
      refine TC.skip ?_
      refine S.n ?_
      refine TC.seq ?_
      refine TC.seq ?_
      refine TC.region ?_
      refine TL.v rfl (OpVal.moveI (.inr rfl) rfl) rfl rfl ?_
      refine TL.nil ?_
      refine S.n ?_
      refine TC.block ?_
      refine TC.loopG (α := (Nat) × (Unit)) [4, 5, 26, 27, 28, 29, 30, 31, 32, 33, 34, 35, 36, 37, 38, 39, 40, 41, 42, 43, 44, 45, 46, 47] (fun g => [(5, .int .i64 ((g.1 : Nat) : Int))]) (fun g => [Res.cells b101 #[.int .i64 x0.frm, .int .i64 x0.to, .int .u64 ((x0.set.a : Nat) : Int), .int .u64 ((x0.set.b : Nat) : Int), .int .u64 ((x0.set.c : Nat) : Int), .int .u64 ((x0.set.d : Nat) : Int), .string (bs x0.out), .bool x0.copy] 45, Res.cells b103 #[.int .i64 x1.frm, .int .i64 x1.to, .int .u64 ((x1.set.a : Nat) : Int), .int .u64 ((x1.set.b : Nat) : Int), .int .u64 ((x1.set.c : Nat) : Int), .int .u64 ((x1.set.d : Nat) : Int), .string (bs x1.out), .bool x1.copy] 45]) (fun g => σ) (fun g => iter (fun q : Nat => whittleref15_arcLess_b1 x0 x1 q) g.1 = some r) (fun g => rounds (fun q : Nat => whittleref15_arcLess_b1 x0 x1 q) g.1) (0, ()) (Sub.front 1 rfl rfl (Sub.pre 2 rfl)) rfl (by repeat (first | exact trivial | refine ⟨rfl, ?_⟩)) hh (fun g1 j1 hg1 => ?_)
      obtain ⟨k109, _⟩ := g1
      have hh := hg1; clear hg1
      show TC _ _ _ (upds (mask _ j1 _) [(5, .int .i64 ((k109 : Nat) : Int))]) _ [Res.cells b101 #[.int .i64 x0.frm, .int .i64 x0.to, .int .u64 ((x0.set.a : Nat) : Int), .int .u64 ((x0.set.b : Nat) : Int), .int .u64 ((x0.set.c : Nat) : Int), .int .u64 ((x0.set.d : Nat) : Int), .string (bs x0.out), .bool x0.copy] 45, Res.cells b103 #[.int .i64 x1.frm, .int .i64 x1.to, .int .u64 ((x1.set.a : Nat) : Int), .int .u64 ((x1.set.b : Nat) : Int), .int .u64 ((x1.set.c : Nat) : Int), .int .u64 ((x1.set.d : Nat) : Int), .string (bs x1.out), .bool x1.copy] 45]
      obtain ⟨z1, hh, hR1⟩ := iter_e hh
      dsimp only [whittleref15_arcLess_b1] at hh
      refine TC.seq ?_
      refine TC.seq ?_
      refine TC.region ?_
      refine TL.v rfl (OpVal.moveI (.inl rfl) rfl) rfl rfl ?_
      refine TL.v rfl (OpVal.lss rfl rfl rfl) rfl rfl ?_
      refine TL.nil ?_
      refine S.n ?_
      refine TC.cond rfl (fun h110 => ?_) (fun h110 => ?_)
      · replace hh := iteO_t h110 hh
        replace h110 := of_decide_eq_true h110
        refine TC.skip ?_
        refine S.n ?_
        refine TC.seq ?_
        refine TC.block ?_
        refine TC.seq ?_
        have u31 := grd_c hh
        replace hh := grd_t hh
        have u35 := grd_c hh
        replace hh := grd_t hh
        refine TC.draw [] (by kernel_rfl) ?_
        refine TA.takeP 0 rfl (by kernel_rfl) (by kernel_rfl) (by kernel_rfl) rfl (OpVal.moveI (.inl rfl) rfl) rfl rfl ?_
        refine TA.takeP 1 rfl (by kernel_rfl) (by kernel_rfl) (by kernel_rfl) rfl (OpVal.fieldLoc rfl fo45_2 rfl) rfl rfl ?_
        refine TA.take 2 rfl (by kernel_rfl) (by kernel_rfl) (by kernel_rfl) (by kernel_rfl) rfl (OpVal.indexArrN rfl Tryz.underlying43 sz41 rfl rfl (by omega)) rfl rfl ?_
        refine TA.take 3 rfl (by kernel_rfl) (by kernel_rfl) (by kernel_rfl) (by kernel_rfl) rfl (OpVal.loadWordAt x0.set rfl ag41 rfl (j := 0) rfl (by omega) rfl) rfl rfl ?_
        refine TA.takeP 4 rfl (by kernel_rfl) (by kernel_rfl) (by kernel_rfl) rfl (OpVal.moveI (.inl rfl) rfl) rfl rfl ?_
        refine TA.takeP 5 rfl (by kernel_rfl) (by kernel_rfl) (by kernel_rfl) rfl (OpVal.fieldLoc rfl fo45_2 rfl) rfl rfl ?_
        refine TA.take 6 rfl (by kernel_rfl) (by kernel_rfl) (by kernel_rfl) (by kernel_rfl) rfl (OpVal.indexArrN rfl Tryz.underlying43 sz41 rfl rfl (by omega)) rfl rfl ?_
        refine TA.take 7 rfl (by kernel_rfl) (by kernel_rfl) (by kernel_rfl) (by kernel_rfl) rfl (OpVal.loadWordAt x1.set rfl ag41 rfl (j := 1) rfl (by omega) rfl) rfl rfl ?_
        refine TA.takeP 8 rfl (by kernel_rfl) (by kernel_rfl) (by kernel_rfl) rfl (OpVal.neqU rfl rfl rfl) rfl rfl ?_
        refine TA.done (by kernel_rfl) ?_
        refine S.n ?_
        refine TC.cond rfl (fun h111 => ?_) (fun h111 => ?_)
        · replace hh := iteO_t h111 hh
          replace h111 := of_decide_eq_true h111
          refine TC.seq ?_
          have u40 := grd_c hh
          replace hh := grd_t hh
          have u44 := grd_c hh
          replace hh := grd_t hh
          refine TC.draw [] (by kernel_rfl) ?_
          refine TA.takeP 0 rfl (by kernel_rfl) (by kernel_rfl) (by kernel_rfl) rfl (OpVal.moveI (.inl rfl) rfl) rfl rfl ?_
          refine TA.takeP 1 rfl (by kernel_rfl) (by kernel_rfl) (by kernel_rfl) rfl (OpVal.fieldLoc rfl fo45_2 rfl) rfl rfl ?_
          refine TA.take 2 rfl (by kernel_rfl) (by kernel_rfl) (by kernel_rfl) (by kernel_rfl) rfl (OpVal.indexArrN rfl Tryz.underlying43 sz41 rfl rfl (by omega)) rfl rfl ?_
          refine TA.take 3 rfl (by kernel_rfl) (by kernel_rfl) (by kernel_rfl) (by kernel_rfl) rfl (OpVal.loadWordAt x0.set rfl ag41 rfl (j := 0) rfl (by omega) rfl) rfl rfl ?_
          refine TA.takeP 4 rfl (by kernel_rfl) (by kernel_rfl) (by kernel_rfl) rfl (OpVal.moveI (.inl rfl) rfl) rfl rfl ?_
          refine TA.takeP 5 rfl (by kernel_rfl) (by kernel_rfl) (by kernel_rfl) rfl (OpVal.fieldLoc rfl fo45_2 rfl) rfl rfl ?_
          refine TA.take 6 rfl (by kernel_rfl) (by kernel_rfl) (by kernel_rfl) (by kernel_rfl) rfl (OpVal.indexArrN rfl Tryz.underlying43 sz41 rfl rfl (by omega)) rfl rfl ?_
          refine TA.take 7 rfl (by kernel_rfl) (by kernel_rfl) (by kernel_rfl) (by kernel_rfl) rfl (OpVal.loadWordAt x1.set rfl ag41 rfl (j := 1) rfl (by omega) rfl) rfl rfl ?_
          refine TA.takeP 8 rfl (by kernel_rfl) (by kernel_rfl) (by kernel_rfl) rfl (OpVal.lssU rfl rfl rfl) rfl rfl ?_
          refine TA.takeP 9 rfl (by kernel_rfl) (by kernel_rfl) (by kernel_rfl) rfl (OpVal.moveB (.inr rfl) rfl) rfl rfl ?_
          refine TA.done (by kernel_rfl) ?_
          refine S.n ?_
          refine TC.ofSub (Sub.pre 0 rfl) ?_
          refine TC.ret ?_
          refine B.r ?_
          refine S.r ?_
          refine S.r ?_
          replace hh := fin_x hR1 hh
          refine B.r ?_
          refine S.r ?_
          obtain rfl := Option.some.inj hh
          exact RetOk.mk' (rs := [.tmp 4]) [] rfl (.inl rfl) (RVs.tmp rfl RVs.nil) (List.sublist_append_left _ _) ⟨rfl, rfl, rfl⟩
        · replace hh := iteO_f h111 hh
          replace h111 := of_decide_eq_false h111
          refine TC.skip ?_
          refine B.n ?_
          refine S.n ?_
          refine TC.region ?_
          refine TL.v rfl (OpVal.moveI (.inl rfl) rfl) rfl rfl ?_
          refine TL.v rfl (OpVal.succ rfl rfl rfl (by omega)) rfl rfl ?_
          refine TL.v rfl (OpVal.moveI (.inr rfl) rfl) rfl rfl ?_
          refine TL.nil ?_
          refine S.n ?_
          obtain ⟨hh, hlt112⟩ := nxt_x hR1 hh
          refine ⟨by repeat (first | exact Agr.refl _ _ | exact Agr.mask | refine Agr.upd rfl ?_ | refine Agr.maskIn rfl ?_ | refine Agr.upds rfl ?_), ((k109 + 1), ()), hlt112, hh, by repeat (first | exact trivial | refine ⟨rfl, ?_⟩), Sub.front 1 rfl rfl (Sub.front 1 rfl rfl (Sub.pre 2 rfl)), rfl⟩
      · replace hh := iteO_f h110 hh
        replace h110 := of_decide_eq_false h110
        refine TC.exit ?_
        refine S.x ?_
        refine S.x ?_
        replace hh := fin_x hR1 hh
        refine TC.exitHere ?_
        refine S.n ?_
        refine TC.seq ?_
        refine TC.seq ?_
        refine TC.region ?_
        refine TL.v rfl (OpVal.fieldLoc rfl fo45_3 rfl) rfl rfl ?_
        refine TL.v rfl (OpVal.loadLoc rfl ag9 rfl (i := 0) rfl rfl) rfl rfl ?_
        refine TL.v rfl (OpVal.fieldLoc rfl fo45_3 rfl) rfl rfl ?_
        refine TL.v rfl (OpVal.loadLoc rfl ag9 rfl (i := 1) rfl rfl) rfl rfl ?_
        refine TL.v rfl (OpVal.neqBs rfl rfl rfl) rfl rfl ?_
        refine TL.nil ?_
        refine S.n ?_
        refine TC.cond rfl (fun h113 => ?_) (fun h113 => ?_)
        · replace hh := iteO_t h113 hh
          replace h113 := of_decide_eq_true h113
          refine TC.seq ?_
          refine TC.region ?_
          refine TL.v rfl (OpVal.fieldLoc rfl fo45_3 rfl) rfl rfl ?_
          refine TL.v rfl (OpVal.loadLoc rfl ag9 rfl (i := 0) rfl rfl) rfl rfl ?_
          refine TL.v rfl (OpVal.fieldLoc rfl fo45_3 rfl) rfl rfl ?_
          refine TL.v rfl (OpVal.loadLoc rfl ag9 rfl (i := 1) rfl rfl) rfl rfl ?_
          refine TL.v rfl (OpVal.lssBs rfl rfl rfl) rfl rfl ?_
          refine TL.v rfl (OpVal.moveB (.inr rfl) rfl) rfl rfl ?_
          refine TL.nil ?_
          refine S.n ?_
          refine TC.ofSub (Sub.pre 0 rfl) ?_
          refine TC.ret ?_
          refine S.r ?_
          obtain rfl := Option.some.inj hh
          exact RetOk.mk' (rs := [.tmp 4]) [] rfl (.inl rfl) (RVs.tmp rfl RVs.nil) (List.sublist_append_left _ _) ⟨rfl, rfl, rfl⟩
        · replace hh := iteO_f h113 hh
          replace h113 := of_decide_eq_false h113
          refine TC.skip ?_
          refine S.n ?_
          refine TC.seq ?_
          refine TC.region ?_
          refine TL.v rfl (OpVal.fieldLoc rfl fo45_4 rfl) rfl rfl ?_
          refine TL.v rfl (OpVal.loadLoc rfl ag4 rfl (i := 0) rfl rfl) rfl rfl ?_
          refine TL.v rfl (OpVal.not rfl rfl) rfl rfl ?_
          refine TL.v rfl (OpVal.moveB (.inl rfl) rfl) rfl rfl ?_
          refine TL.split 61 rfl (fun h114 => ?_) (fun h114 => ?_)
          · replace hh := iteO_t h114 hh
            refine TL.gv rfl rfl rfl rfl rfl (OpVal.fieldLoc rfl fo45_4 rfl) rfl rfl ?_
            refine TL.gv rfl rfl rfl rfl rfl (OpVal.loadLoc rfl ag4 rfl (i := 1) rfl rfl) rfl rfl ?_
            refine TL.v rfl (OpVal.pickTB rfl rfl rfl) rfl rfl ?_
            refine TL.v rfl (OpVal.moveB (.inr rfl) rfl) rfl rfl ?_
            refine TL.nil ?_
            refine S.n ?_
            refine TC.ofSub (Sub.pre 0 rfl) ?_
            refine TC.ret ?_
            obtain rfl := Option.some.inj hh
            exact RetOk.mk' (rs := [.tmp 4]) [] rfl (.inl rfl) (RVs.tmp rfl RVs.nil) (List.sublist_append_left _ _) ⟨rfl, rfl, rfl⟩
          · replace hh := iteO_f h114 hh
            refine TL.goff rfl rfl rfl rfl rfl rfl rfl rfl ?_
            refine TL.goff rfl rfl rfl rfl rfl rfl rfl rfl ?_
            refine TL.v rfl (OpVal.pickFB rfl rfl rfl) rfl rfl ?_
            refine TL.v rfl (OpVal.moveB (.inr rfl) rfl) rfl rfl ?_
            refine TL.nil ?_
            refine S.n ?_
            refine TC.ofSub (Sub.pre 0 rfl) ?_
            refine TC.ret ?_
            obtain rfl := Option.some.inj hh
            exact RetOk.mk' (rs := [.tmp 4]) [] rfl (.inl rfl) (RVs.tmp rfl RVs.nil) (List.sublist_append_left _ _) ⟨rfl, rfl, rfl⟩

noncomputable def whittleref15_SortTips_j1 (k115 : Nat) (l119 : List Tip) : Option (((List Tip) × Nat) ⊕ ((List Tip))) :=
  nxt (l119, (k115 + 1))
noncomputable def whittleref15_SortTips_j3 (k123 : Nat) (l111 : List Tip) (x0 : List Tip) (k115 : Nat) : Option (((List Tip) × Nat) ⊕ ((List Tip))) :=
  grd (0 ≤ k123 ∧ k123 ≤ l111.length) (grd ((([] : List Tip).length + (l111.take k123).length) * 24 ≤ 140737488355328) (grd (((([] : List Tip) ++ (l111.take k123)).length + [(nth x0 k115 Tip.zero)].length) * 24 ≤ 140737488355328) (grd (k123 ≤ l111.length ∧ l111.length ≤ l111.length) (grd ((((([] : List Tip) ++ (l111.take k123)) ++ [(nth x0 k115 Tip.zero)]).length + (l111.drop k123).length) * 24 ≤ 140737488355328) (whittleref15_SortTips_j1 k115 (((([] : List Tip) ++ (l111.take k123)) ++ [(nth x0 k115 Tip.zero)]) ++ (l111.drop k123)))))))
noncomputable def whittleref15_SortTips_j2 (l111 : List Tip) (x0 : List Tip) (k115 : Nat) (k123 : Nat) : Option (((List Tip) × Nat) ⊕ ((List Tip))) :=
  iteO (decide (((k123 : Nat) : Int) < ((l111.length : Nat) : Int))) (iteO (decide ((nth l111 k123 Tip.zero) = (nth x0 k115 Tip.zero))) (whittleref15_SortTips_j1 k115 l111) (whittleref15_SortTips_j3 k123 l111 x0 k115)) (whittleref15_SortTips_j3 k123 l111 x0 k115)
noncomputable def whittleref15_SortTips_b2 (l111 : List Tip) (x0 : List Tip) (k115 : Nat) (k126 : Nat) : Option ((Nat) ⊕ (((List Tip) × Nat) ⊕ ((List Tip)))) :=
  iteO (decide (((k126 : Nat) : Int) < ((l111.length : Nat) : Int))) (bnd (whittleref15_tipLess (nth l111 k126 Tip.zero) (nth x0 k115 Tip.zero)) (fun v22 => iteO v22 (nxt (k126 + 1)) (fin (whittleref15_SortTips_j2 l111 x0 k115 k126)))) (fin (whittleref15_SortTips_j2 l111 x0 k115 k126))
noncomputable def whittleref15_SortTips_b1 (x0 : List Tip) (l111 : List Tip) (k115 : Nat) : Option (((List Tip) × Nat) ⊕ ((List Tip))) :=
  iteO (decide (((k115 : Nat) : Int) < ((x0.length : Nat) : Int))) (iter (fun q : Nat => whittleref15_SortTips_b2 l111 x0 k115 q) 0) (fin (some l111))
noncomputable def whittleref15_SortTips (x0 : List Tip) : Option ((List Tip)) :=
  iter (fun q : (List Tip) × Nat => whittleref15_SortTips_b1 x0 q.1 q.2) (([] : List Tip), 0)
def whittleref15_SortTips_P (σ : Store) (r : (List Tip)) : Value → Store → List Res → Prop := fun v σ' H' =>
  ∃ (a1 : Option Addr), ∃ (c1 : Nat),  v = .slice a1 r.length c1 ∧ RS σ' 2 encTip (.slice a1 r.length c1) r ∧ H' = []
theorem whittleref15_SortTips_con {σ : Store} {x0 : List Tip} {a0_0 : Option Addr} {c0_0 : Nat} (f0_0 : RS σ 2 encTip (.slice a0_0 x0.length c0_0) x0) {r : (List Tip)} (hh : whittleref15_SortTips x0 = some r) :
    Con Tryz.prog 20 #[.slice a0_0 x0.length c0_0] σ [] (whittleref15_SortTips_P σ r) := by
  dsimp only [whittleref15_SortTips] at hh
  have f0_0b := f0_0.rv.big
  refine Con.mk (n := 64) Tryz.func20 rfl rfl rfl (fun w0 => ?_)
  refine TC.seq ?_
  refine TC.region ?_
  refine TL.v rfl (OpVal.moveSl (.inr rfl) rfl) rfl rfl ?_
  refine TL.nil ?_
  refine S.n ?_
  refine TC.seq ?_
  refine TC.region ?_
  refine TL.v rfl (OpVal.moveSl (.inr rfl) rfl) rfl rfl ?_
  refine TL.nil ?_
  refine S.n ?_
  refine TC.seq ?_
  refine TC.seq ?_
  refine TC.region ?_
  refine TL.v rfl (OpVal.moveI (.inr rfl) rfl) rfl rfl ?_
  refine TL.nil ?_
  refine S.n ?_
  refine TC.block ?_
  refine TC.loopG (α := ((List Tip) × Nat) × ((Option Addr) × Nat × Store)) [3, 4, 5, 6, 7, 8, 9, 10, 11, 12, 13, 14, 15, 16, 17, 18, 19, 20, 21, 22, 23, 24, 25, 26, 27, 28, 29, 30, 31, 32, 33, 34, 35, 36, 37, 38, 39, 40, 41, 42, 43, 44, 45, 46, 47, 48, 49, 50, 51, 52, 53, 54, 55, 56, 57, 58, 59, 60, 61, 62] (fun g => [(3, .slice g.2.1 g.1.1.length g.2.2.1), (4, .int .i64 ((g.1.2 : Nat) : Int))]) (fun g => []) (fun g => g.2.2.2) (fun g => iter (fun q : (List Tip) × Nat => whittleref15_SortTips_b1 x0 q.1 q.2) g.1 = some r ∧ RS g.2.2.2 2 encTip (.slice g.2.1 g.1.1.length g.2.2.1) g.1.1 ∧ Store.le σ g.2.2.2) (fun g => rounds (fun q : (List Tip) × Nat => whittleref15_SortTips_b1 x0 q.1 q.2) g.1) ((([] : List Tip), 0), (none, 0, σ)) (Sub.pre 0 rfl) rfl (by repeat (first | exact trivial | refine ⟨rfl, ?_⟩)) ⟨hh, (RS.nilF _ encTip encTip_len), (Store.le.refl _)⟩ (fun g1 j1 hg1 => ?_)
  obtain ⟨⟨l111, k115⟩, ⟨a112, c113, τ116⟩⟩ := g1
  obtain ⟨hh, hr114, hle117⟩ := hg1
  try dsimp only at hr114
  dsimp only at hle117
  replace f0_0 := f0_0.mono hle117
  show TC _ _ _ (upds (mask _ j1 _) [(3, .slice a112 l111.length c113), (4, .int .i64 ((k115 : Nat) : Int))]) τ116 []
  obtain ⟨z1, hh, hR1⟩ := iter_e hh
  dsimp only [whittleref15_SortTips_b1] at hh
  have hr114b := hr114.rv.big
  refine TC.seq ?_
  refine TC.seq ?_
  refine TC.region ?_
  refine TL.v rfl (OpVal.moveI (.inl rfl) rfl) rfl rfl ?_
  refine TL.v rfl (OpVal.moveSl (.inl rfl) rfl) rfl rfl ?_
  refine TL.v rfl (OpVal.lenC rfl Tryz.underlying22 rfl) rfl rfl ?_
  refine TL.v rfl (OpVal.lss rfl rfl rfl) rfl rfl ?_
  refine TL.nil ?_
  refine S.n ?_
  refine TC.cond rfl (fun h118 => ?_) (fun h118 => ?_)
  · replace hh := iteO_t h118 hh
    replace h118 := of_decide_eq_true h118
    refine TC.skip ?_
    refine S.n ?_
    refine TC.cutG (α := ((List Tip)) × ((Option Addr) × Nat × Store)) [3, 5, 6, 13, 14, 15, 16, 17, 18, 19, 20, 21, 22, 23, 24, 25, 26, 27, 28, 29, 30, 31, 32, 33, 34, 35, 36, 37, 38, 39, 40, 41, 42, 43, 44, 45, 46, 47, 48, 49, 50, 51, 52, 53, 54, 55, 56, 57, 58, 59, 60, 61, 62] (fun g => [(3, .slice g.2.1 g.1.length g.2.2.1)]) (fun g => []) (fun g => g.2.2.2) (fun g => whittleref15_SortTips_j1 k115 g.1 = some z1 ∧ RS g.2.2.2 2 encTip (.slice g.2.1 g.1.length g.2.2.1) g.1 ∧ Store.le τ116 g.2.2.2) ?_ (fun g j hg => ?_)
    · skip
      refine TC.block ?_
      refine TC.seq ?_
      refine TC.region ?_
      refine TL.v rfl (OpVal.moveI (.inr rfl) rfl) rfl rfl ?_
      refine TL.nil ?_
      refine S.n ?_
      refine TC.cutG (α := (Nat) × (Unit)) [5, 13, 14, 15, 16, 17, 18, 19, 20, 21, 22, 23, 24, 25, 26, 27, 28, 29] (fun g => [(5, .int .i64 ((g.1 : Nat) : Int))]) (fun g => []) (fun g => τ116) (fun g => whittleref15_SortTips_j2 l111 x0 k115 g.1 = some z1) ?_ (fun g j hg => ?_)
      · skip
        refine TC.block ?_
        refine TC.loopG (α := (Nat) × (Unit)) [5, 13, 14, 15, 16, 17, 18, 19, 20, 21, 22, 23, 24, 25, 26, 27, 28, 29] (fun g => [(5, .int .i64 ((g.1 : Nat) : Int))]) (fun g => []) (fun g => τ116) (fun g => iter (fun q : Nat => whittleref15_SortTips_b2 l111 x0 k115 q) g.1 = some z1) (fun g => rounds (fun q : Nat => whittleref15_SortTips_b2 l111 x0 k115 q) g.1) (0, ()) (Sub.pre 0 rfl) rfl (by repeat (first | exact trivial | refine ⟨rfl, ?_⟩)) hh (fun g2 j2 hg2 => ?_)
        obtain ⟨k126, _⟩ := g2
        have hh := hg2; clear hg2
        show TC _ _ _ (upds (mask _ j2 _) [(5, .int .i64 ((k126 : Nat) : Int))]) _ []
        obtain ⟨z2, hh, hR2⟩ := iter_e hh
        dsimp only [whittleref15_SortTips_b2] at hh
        refine TC.seq ?_
        refine TC.seq ?_
        refine TC.draw [] (by kernel_rfl) ?_
        refine TA.takeP 0 rfl (by kernel_rfl) (by kernel_rfl) (by kernel_rfl) rfl (OpVal.moveI (.inl rfl) rfl) rfl rfl ?_
        refine TA.takeP 1 rfl (by kernel_rfl) (by kernel_rfl) (by kernel_rfl) rfl (OpVal.moveSl (.inl rfl) rfl) rfl rfl ?_
        refine TA.take 2 rfl (by kernel_rfl) (by kernel_rfl) (by kernel_rfl) (by kernel_rfl) rfl (OpVal.lenC rfl Tryz.underlying22 rfl) rfl rfl ?_
        refine TA.takeP 3 rfl (by kernel_rfl) (by kernel_rfl) (by kernel_rfl) rfl (OpVal.lss rfl rfl rfl) rfl rfl ?_
        refine TA.takeP 4 rfl (by kernel_rfl) (by kernel_rfl) (by kernel_rfl) rfl (OpVal.moveB (.inl rfl) rfl) rfl rfl ?_
        refine TA.split 17 rfl (fun h127 => ?_) (fun h127 => ?_)
        · replace hh := iteO_t h127 hh
          replace h127 := of_decide_eq_true h127
          refine TA.takeOn 5 rfl (by kernel_rfl) (by kernel_rfl) (by kernel_rfl) (by kernel_rfl) rfl rfl rfl rfl rfl (OpVal.moveSl (.inl rfl) rfl) rfl rfl ?_
          refine TA.takeOn 6 rfl (by kernel_rfl) (by kernel_rfl) (by kernel_rfl) (by kernel_rfl) rfl rfl rfl rfl rfl (OpVal.moveI (.inl rfl) rfl) rfl rfl ?_
          refine TA.takeOn 7 rfl (by kernel_rfl) (by kernel_rfl) (by kernel_rfl) (by kernel_rfl) rfl rfl rfl rfl rfl (OpVal.indexN rfl Tryz.underlying22 sz40 rfl rfl hr114.rv.sl (by omega)) rfl rfl ?_
          refine TA.takeOn 8 rfl (by kernel_rfl) (by kernel_rfl) (by kernel_rfl) (by kernel_rfl) rfl rfl rfl rfl rfl (OpVal.loadSA Tip.zero rfl ag40 sz40 rfl hr114 (by omega) (by omega)) rfl rfl ?_
          refine TA.takeOn 9 rfl (by kernel_rfl) (by kernel_rfl) (by kernel_rfl) (by kernel_rfl) rfl rfl rfl rfl rfl (OpVal.moveSl (.inl rfl) rfl) rfl rfl ?_
          refine TA.takeOn 10 rfl (by kernel_rfl) (by kernel_rfl) (by kernel_rfl) (by kernel_rfl) rfl rfl rfl rfl rfl (OpVal.moveI (.inl rfl) rfl) rfl rfl ?_
          refine TA.takeOn 11 rfl (by kernel_rfl) (by kernel_rfl) (by kernel_rfl) (by kernel_rfl) rfl rfl rfl rfl rfl (OpVal.indexN rfl Tryz.underlying22 sz40 rfl rfl f0_0.rv.sl (by omega)) rfl rfl ?_
          refine TA.takeOn 12 rfl (by kernel_rfl) (by kernel_rfl) (by kernel_rfl) (by kernel_rfl) rfl rfl rfl rfl rfl (OpVal.loadSA Tip.zero rfl ag40 sz40 rfl f0_0 (by omega) (by omega)) rfl rfl ?_
          obtain ⟨v22, u22, hh⟩ := bnd_e hh
          refine TA.actOn 13 (by kernel_rfl) rfl rfl rfl rfl rfl rfl (OpOk.callP (whittleref15_tipLess_con u22) rfl rfl pf44 rfl rfl rfl ⟨(fun w h => sees_of (Store.le.refl _) (fun r hr => hr) w h), ?_⟩)
          refine TA.takeP 14 rfl (by kernel_rfl) (by kernel_rfl) (by kernel_rfl) rfl (OpVal.pickTB rfl rfl rfl) rfl rfl ?_
          refine TA.done (by kernel_rfl) ?_
          refine S.n ?_
          refine TC.cond rfl (fun h128 => ?_) (fun h128 => ?_)
          · replace hh := iteO_t h128 hh
            refine TC.skip ?_
            refine S.n ?_
            refine TC.block ?_
            refine TC.region ?_
            refine TL.v rfl (OpVal.moveI (.inl rfl) rfl) rfl rfl ?_
            refine TL.v rfl (OpVal.succ rfl rfl rfl (by omega)) rfl rfl ?_
            refine TL.v rfl (OpVal.moveI (.inr rfl) rfl) rfl rfl ?_
            refine TL.nil ?_
            refine B.n ?_
            refine S.n ?_
            obtain ⟨hh, hlt129⟩ := nxt_x hR2 hh
            refine ⟨by repeat (first | exact Agr.refl _ _ | exact Agr.mask | refine Agr.upd rfl ?_ | refine Agr.maskIn rfl ?_ | refine Agr.upds rfl ?_), ((k126 + 1), ()), hlt129, hh, by repeat (first | exact trivial | refine ⟨rfl, ?_⟩), Sub.pre 0 rfl, rfl⟩
          · replace hh := iteO_f h128 hh
            refine TC.exit ?_
            refine S.x ?_
            refine S.x ?_
            replace hh := fin_x hR2 hh
            refine TC.exitHere ?_
            refine S.n ?_
            refine ⟨by repeat (first | exact Agr.refl _ _ | exact Agr.mask | refine Agr.upd rfl ?_ | refine Agr.maskIn rfl ?_ | refine Agr.upds rfl ?_), (k126, ()), hh, by repeat (first | exact trivial | refine ⟨rfl, ?_⟩), Sub.pre 0 rfl, rfl⟩
        · replace hh := iteO_f h127 hh
          replace h127 := of_decide_eq_false h127
          refine TA.takeOff 5 rfl (by kernel_rfl) (by kernel_rfl) (by kernel_rfl) (by kernel_rfl) rfl rfl rfl rfl rfl rfl rfl rfl ?_
          refine TA.takeOff 6 rfl (by kernel_rfl) (by kernel_rfl) (by kernel_rfl) (by kernel_rfl) rfl rfl rfl rfl rfl rfl rfl rfl ?_
          refine TA.takeOff 7 rfl (by kernel_rfl) (by kernel_rfl) (by kernel_rfl) (by kernel_rfl) rfl rfl rfl rfl rfl rfl rfl rfl ?_
          refine TA.takeOff 8 rfl (by kernel_rfl) (by kernel_rfl) (by kernel_rfl) (by kernel_rfl) rfl rfl rfl rfl rfl rfl rfl rfl ?_
          refine TA.takeOff 9 rfl (by kernel_rfl) (by kernel_rfl) (by kernel_rfl) (by kernel_rfl) rfl rfl rfl rfl rfl rfl rfl rfl ?_
          refine TA.takeOff 10 rfl (by kernel_rfl) (by kernel_rfl) (by kernel_rfl) (by kernel_rfl) rfl rfl rfl rfl rfl rfl rfl rfl ?_
          refine TA.takeOff 11 rfl (by kernel_rfl) (by kernel_rfl) (by kernel_rfl) (by kernel_rfl) rfl rfl rfl rfl rfl rfl rfl rfl ?_
          refine TA.takeOff 12 rfl (by kernel_rfl) (by kernel_rfl) (by kernel_rfl) (by kernel_rfl) rfl rfl rfl rfl rfl rfl rfl rfl ?_
          refine TA.takeOff 13 rfl (by kernel_rfl) (by kernel_rfl) (by kernel_rfl) (by kernel_rfl) rfl rfl rfl rfl rfl rfl rfl rfl ?_
          refine TA.takeP 14 rfl (by kernel_rfl) (by kernel_rfl) (by kernel_rfl) rfl (OpVal.pickFB rfl rfl rfl) rfl rfl ?_
          refine TA.done (by kernel_rfl) ?_
          refine S.n ?_
          refine TC.cond rfl (fun h => Bool.noConfusion h) (fun _ => ?_)
          refine TC.exit ?_
          refine S.x ?_
          refine S.x ?_
          replace hh := fin_x hR2 hh
          refine TC.exitHere ?_
          refine S.n ?_
          refine ⟨by repeat (first | exact Agr.refl _ _ | exact Agr.mask | refine Agr.upd rfl ?_ | refine Agr.maskIn rfl ?_ | refine Agr.upds rfl ?_), (k126, ()), hh, by repeat (first | exact trivial | refine ⟨rfl, ?_⟩), Sub.pre 0 rfl, rfl⟩
      · skip
        obtain ⟨k123, _⟩ := g
        have hh := hg; clear hg
        show TC _ _ _ (upds (mask _ j _) [(5, .int .i64 ((k123 : Nat) : Int))]) _ []
        dsimp only [whittleref15_SortTips_j2] at hh
        refine TC.cutG (α := (Unit) × (Unit)) [30, 31, 32, 33, 34, 35, 36, 37, 38, 39, 40, 41, 42, 43, 44] (fun g => []) (fun g => []) (fun g => τ116) (fun g => whittleref15_SortTips_j3 k123 l111 x0 k115 = some z1) ?_ (fun g j hg => ?_)
        · skip
          refine TC.seq ?_
          refine TC.draw [] (by kernel_rfl) ?_
          refine TA.takeP 0 rfl (by kernel_rfl) (by kernel_rfl) (by kernel_rfl) rfl (OpVal.moveI (.inl rfl) rfl) rfl rfl ?_
          refine TA.takeP 1 rfl (by kernel_rfl) (by kernel_rfl) (by kernel_rfl) rfl (OpVal.moveSl (.inl rfl) rfl) rfl rfl ?_
          refine TA.take 2 rfl (by kernel_rfl) (by kernel_rfl) (by kernel_rfl) (by kernel_rfl) rfl (OpVal.lenC rfl Tryz.underlying22 rfl) rfl rfl ?_
          refine TA.takeP 3 rfl (by kernel_rfl) (by kernel_rfl) (by kernel_rfl) rfl (OpVal.lss rfl rfl rfl) rfl rfl ?_
          refine TA.takeP 4 rfl (by kernel_rfl) (by kernel_rfl) (by kernel_rfl) rfl (OpVal.moveB (.inl rfl) rfl) rfl rfl ?_
          refine TA.split 34 rfl (fun h130 => ?_) (fun h130 => ?_)
          · replace hh := iteO_t h130 hh
            replace h130 := of_decide_eq_true h130
            refine TA.takeOn 5 rfl (by kernel_rfl) (by kernel_rfl) (by kernel_rfl) (by kernel_rfl) rfl rfl rfl rfl rfl (OpVal.moveSl (.inl rfl) rfl) rfl rfl ?_
            refine TA.takeOn 6 rfl (by kernel_rfl) (by kernel_rfl) (by kernel_rfl) (by kernel_rfl) rfl rfl rfl rfl rfl (OpVal.moveI (.inl rfl) rfl) rfl rfl ?_
            refine TA.takeOn 7 rfl (by kernel_rfl) (by kernel_rfl) (by kernel_rfl) (by kernel_rfl) rfl rfl rfl rfl rfl (OpVal.indexN rfl Tryz.underlying22 sz40 rfl rfl hr114.rv.sl (by omega)) rfl rfl ?_
            refine TA.takeOn 8 rfl (by kernel_rfl) (by kernel_rfl) (by kernel_rfl) (by kernel_rfl) rfl rfl rfl rfl rfl (OpVal.loadSA Tip.zero rfl ag40 sz40 rfl hr114 (by omega) (by omega)) rfl rfl ?_
            refine TA.takeOn 9 rfl (by kernel_rfl) (by kernel_rfl) (by kernel_rfl) (by kernel_rfl) rfl rfl rfl rfl rfl (OpVal.moveSl (.inl rfl) rfl) rfl rfl ?_
            refine TA.takeOn 10 rfl (by kernel_rfl) (by kernel_rfl) (by kernel_rfl) (by kernel_rfl) rfl rfl rfl rfl rfl (OpVal.moveI (.inl rfl) rfl) rfl rfl ?_
            refine TA.takeOn 11 rfl (by kernel_rfl) (by kernel_rfl) (by kernel_rfl) (by kernel_rfl) rfl rfl rfl rfl rfl (OpVal.indexN rfl Tryz.underlying22 sz40 rfl rfl f0_0.rv.sl (by omega)) rfl rfl ?_
            refine TA.takeOn 12 rfl (by kernel_rfl) (by kernel_rfl) (by kernel_rfl) (by kernel_rfl) rfl rfl rfl rfl rfl (OpVal.loadSA Tip.zero rfl ag40 sz40 rfl f0_0 (by omega) (by omega)) rfl rfl ?_
            refine TA.takeOn 13 rfl (by kernel_rfl) (by kernel_rfl) (by kernel_rfl) (by kernel_rfl) rfl rfl rfl rfl rfl (OpVal.eqlSt (p := (nth l111 k123 Tip.zero) = (nth x0 k115 Tip.zero)) rfl rfl rfl eg40 (es40 (nth l111 k123 Tip.zero) (nth x0 k115 Tip.zero)) rfl) rfl rfl ?_
            refine TA.takeP 14 rfl (by kernel_rfl) (by kernel_rfl) (by kernel_rfl) rfl (OpVal.pickTB rfl rfl rfl) rfl rfl ?_
            refine TA.done (by kernel_rfl) ?_
            refine S.n ?_
            refine TC.cond rfl (fun h131 => ?_) (fun h131 => ?_)
            · replace hh := iteO_t h131 hh
              replace h131 := of_decide_eq_true h131
              refine TC.exit ?_
              refine S.x ?_
              refine TC.exitHere ?_
              refine S.n ?_
              refine ⟨by repeat (first | exact Agr.refl _ _ | exact Agr.mask | refine Agr.upd rfl ?_ | refine Agr.maskIn rfl ?_ | refine Agr.upds rfl ?_), (l111, (a112, c113, τ116)), ⟨hh, hr114, (Store.le.refl _)⟩, by repeat (first | exact trivial | refine ⟨rfl, ?_⟩), Sub.pre 0 rfl, rfl⟩
            · replace hh := iteO_f h131 hh
              replace h131 := of_decide_eq_false h131
              refine TC.skip ?_
              refine S.n ?_
              refine ⟨by repeat (first | exact Agr.refl _ _ | exact Agr.mask | refine Agr.upd rfl ?_ | refine Agr.maskIn rfl ?_ | refine Agr.upds rfl ?_), ((), ()), hh, by repeat (first | exact trivial | refine ⟨rfl, ?_⟩), Sub.pre 0 rfl, rfl⟩
          · replace hh := iteO_f h130 hh
            replace h130 := of_decide_eq_false h130
            refine TA.takeOff 5 rfl (by kernel_rfl) (by kernel_rfl) (by kernel_rfl) (by kernel_rfl) rfl rfl rfl rfl rfl rfl rfl rfl ?_
            refine TA.takeOff 6 rfl (by kernel_rfl) (by kernel_rfl) (by kernel_rfl) (by kernel_rfl) rfl rfl rfl rfl rfl rfl rfl rfl ?_
            refine TA.takeOff 7 rfl (by kernel_rfl) (by kernel_rfl) (by kernel_rfl) (by kernel_rfl) rfl rfl rfl rfl rfl rfl rfl rfl ?_
            refine TA.takeOff 8 rfl (by kernel_rfl) (by kernel_rfl) (by kernel_rfl) (by kernel_rfl) rfl rfl rfl rfl rfl rfl rfl rfl ?_
            refine TA.takeOff 9 rfl (by kernel_rfl) (by kernel_rfl) (by kernel_rfl) (by kernel_rfl) rfl rfl rfl rfl rfl rfl rfl rfl ?_
            refine TA.takeOff 10 rfl (by kernel_rfl) (by kernel_rfl) (by kernel_rfl) (by kernel_rfl) rfl rfl rfl rfl rfl rfl rfl rfl ?_
            refine TA.takeOff 11 rfl (by kernel_rfl) (by kernel_rfl) (by kernel_rfl) (by kernel_rfl) rfl rfl rfl rfl rfl rfl rfl rfl ?_
            refine TA.takeOff 12 rfl (by kernel_rfl) (by kernel_rfl) (by kernel_rfl) (by kernel_rfl) rfl rfl rfl rfl rfl rfl rfl rfl ?_
            refine TA.takeOff 13 rfl (by kernel_rfl) (by kernel_rfl) (by kernel_rfl) (by kernel_rfl) rfl rfl rfl rfl rfl rfl rfl rfl ?_
            refine TA.takeP 14 rfl (by kernel_rfl) (by kernel_rfl) (by kernel_rfl) rfl (OpVal.pickFB rfl rfl rfl) rfl rfl ?_
            refine TA.done (by kernel_rfl) ?_
            refine S.n ?_
            refine TC.cond rfl (fun h => Bool.noConfusion h) (fun _ => ?_)
            refine TC.skip ?_
            refine S.n ?_
            refine ⟨by repeat (first | exact Agr.refl _ _ | exact Agr.mask | refine Agr.upd rfl ?_ | refine Agr.maskIn rfl ?_ | refine Agr.upds rfl ?_), ((), ()), hh, by repeat (first | exact trivial | refine ⟨rfl, ?_⟩), Sub.pre 0 rfl, rfl⟩
        · skip
          obtain ⟨_, _⟩ := g
          have hh := hg; clear hg
          show TC _ _ _ (upds (mask _ j _) []) _ []
          dsimp only [whittleref15_SortTips_j3] at hh
          refine TC.seq ?_
          refine TC.region ?_
          refine TL.v rfl (OpVal.moveSl (.inr rfl) rfl) rfl rfl ?_
          refine TL.nil ?_
          refine S.n ?_
          refine TC.seq ?_
          refine TC.region ?_
          refine TL.v rfl (OpVal.moveSl (.inl rfl) rfl) rfl rfl ?_
          refine TL.v rfl (OpVal.moveSl (.inl rfl) rfl) rfl rfl ?_
          refine TL.v rfl (OpVal.moveI (.inl rfl) rfl) rfl rfl ?_
          have u46 := grd_c hh
          replace hh := grd_t hh
          obtain ⟨a132, c132, hr132, hv132⟩ := hr114.subH k123 (by omega)
          have hr132b := hr132.rv.big
          refine TL.v rfl (hv132 rfl Tryz.underlying22 sz40 rfl rfl) rfl rfl ?_
          refine TL.nilS 40 2 encTip ?_
          have u47 := grd_c hh
          replace hh := grd_t hh
          refine TL.op rfl (OpOk.appendS rfl rfl Tryz.underlying22 sz40 by40 ze40 rfl rfl (by decide) rfl rfl rfl (.inl hr132) (by simpa using u47) (by decide) (fun a134 c135 => ?_))
          refine TL.v rfl (OpVal.moveSl (.inr rfl) rfl) rfl rfl ?_
          refine TL.nil ?_
          refine S.n ?_
          refine TC.seq ?_
          refine TC.region ?_
          refine TL.v rfl (OpVal.moveSl (.inl rfl) rfl) rfl rfl ?_
          refine TL.v rfl (OpVal.moveSl (.inl rfl) rfl) rfl rfl ?_
          refine TL.v rfl (OpVal.moveI (.inl rfl) rfl) rfl rfl ?_
          refine TL.v rfl (OpVal.indexN rfl Tryz.underlying22 sz40 rfl rfl f0_0.rv.sl (by omega)) rfl rfl ?_
          refine TL.v rfl (OpVal.loadSA Tip.zero rfl ag40 sz40 rfl f0_0 (by omega) (by omega)) rfl rfl ?_
          refine TL.op rfl (OpOk.lit (enc := encTip) [(nth x0 k115 Tip.zero)] rfl Tryz.underlying22 sz40 ze40 rfl rfl rfl encTip_len (by decide) (by decide) Tip.zero rfl (by decide) rfl (by decide) encTip_one (fun a136 c137 => ?_))
          refine TL.front 1 rfl rfl ?_
          have u55 := grd_c hh
          replace hh := grd_t hh
          refine TL.op rfl (OpOk.appendS rfl rfl Tryz.underlying22 sz40 by40 ze40 rfl rfl (by decide) rfl rfl rfl (.inr ⟨_, 0, rfl⟩) (by simpa using u55) (by decide) (fun a139 c140 => ?_))
          refine TL.v rfl (OpVal.moveSl (.inr rfl) rfl) rfl rfl ?_
          refine TL.nil ?_
          refine S.n ?_
          refine TC.seq ?_
          refine TC.region ?_
          refine TL.v rfl (OpVal.moveSl (.inl rfl) rfl) rfl rfl ?_
          refine TL.v rfl (OpVal.moveSl (.inl rfl) rfl) rfl rfl ?_
          refine TL.v rfl (OpVal.moveI (.inl rfl) rfl) rfl rfl ?_
          have u60 := grd_c hh
          replace hh := grd_t hh
          obtain ⟨a141, c141, hr141, hv141⟩ := hr114.subL k123 (by omega)
          have hr141b := hr141.rv.big
          refine TL.v rfl (hv141 rfl Tryz.underlying22 sz40 rfl rfl) rfl rfl ?_
          have u61 := grd_c hh
          replace hh := grd_t hh
          refine TL.op rfl (OpOk.appendS rfl rfl Tryz.underlying22 sz40 by40 ze40 rfl rfl (by decide) rfl rfl rfl (.inl hr141) (by simpa using u61) (by decide) (fun a142 c143 => ?_))
          refine TL.v rfl (OpVal.moveSl (.inr rfl) rfl) rfl rfl ?_
          refine TL.nil ?_
          refine S.n ?_
          refine TC.region ?_
          refine TL.v rfl (OpVal.moveSl (.inl rfl) rfl) rfl rfl ?_
          refine TL.v rfl (OpVal.moveSl (.inr rfl) rfl) rfl rfl ?_
          refine TL.sealS encTip_len (fun τ146 hle145 hr144 => ?_)
          replace f0_0 := f0_0.mono hle145
          replace hr114 := hr114.mono hle145
          replace hr132 := hr132.mono hle145
          replace hr141 := hr141.mono hle145
          have hr144b := hr144.rv.big
          refine TL.nil ?_
          refine B.n ?_
          refine S.n ?_
          refine ⟨by repeat (first | exact Agr.refl _ _ | exact Agr.mask | refine Agr.upd rfl ?_ | refine Agr.maskIn rfl ?_ | refine Agr.upds rfl ?_), ((((([] : List Tip) ++ (l111.take k123)) ++ [(nth x0 k115 Tip.zero)]) ++ (l111.drop k123)), (a142, c143, τ146)), ⟨hh, hr144, hle145⟩, by repeat (first | exact trivial | refine ⟨rfl, ?_⟩), Sub.pre 0 rfl, rfl⟩
    · skip
      obtain ⟨l119, ⟨a120, c121, τ147⟩⟩ := g
      obtain ⟨hh, hr122, hle148⟩ := hg
      try dsimp only at hr122
      dsimp only at hle148
      replace f0_0 := f0_0.mono hle148
      replace hr114 := hr114.mono hle148
      show TC _ _ _ (upds (mask _ j _) [(3, .slice a120 l119.length c121)]) τ147 []
      dsimp only [whittleref15_SortTips_j1] at hh
      have hr122b := hr122.rv.big
      refine TC.region ?_
      refine TL.v rfl (OpVal.moveI (.inl rfl) rfl) rfl rfl ?_
      refine TL.v rfl (OpVal.succ rfl rfl rfl (by omega)) rfl rfl ?_
      refine TL.v rfl (OpVal.moveI (.inr rfl) rfl) rfl rfl ?_
      refine TL.nil ?_
      refine S.n ?_
      obtain ⟨hh, hlt149⟩ := nxt_x hR1 hh
      refine ⟨by repeat (first | exact Agr.refl _ _ | exact Agr.mask | refine Agr.upd rfl ?_ | refine Agr.maskIn rfl ?_ | refine Agr.upds rfl ?_), ((l119, (k115 + 1)), (a120, c121, τ147)), hlt149, ⟨hh, hr122, (hle117.trans hle148)⟩, by repeat (first | exact trivial | refine ⟨rfl, ?_⟩), Sub.pre 0 rfl, rfl⟩
  · replace hh := iteO_f h118 hh
    replace h118 := of_decide_eq_false h118
    refine TC.exit ?_
    refine S.x ?_
    refine S.x ?_
    replace hh := fin_x hR1 hh
    refine TC.exitHere ?_
    refine S.n ?_
    refine TC.seq ?_
    refine TC.region ?_
    refine TL.v rfl (OpVal.moveSl (.inl rfl) rfl) rfl rfl ?_
    refine TL.v rfl (OpVal.moveSl (.inr rfl) rfl) rfl rfl ?_
    refine TL.nil ?_
    refine S.n ?_
    refine TC.ret ?_
    obtain rfl := Option.some.inj hh
    exact RetOk.mk' (rs := [.tmp 2]) [] rfl (.inl rfl) (RVs.tmp rfl RVs.nil) (List.sublist_append_left _ _) ⟨a112, c113, rfl, hr114, rfl⟩

noncomputable def whittleref15_SortArcs_j1 (k115 : Nat) (l119 : List Arc) : Option (((List Arc) × Nat) ⊕ ((List Arc))) :=
  nxt (l119, (k115 + 1))
noncomputable def whittleref15_SortArcs_j3 (k123 : Nat) (l111 : List Arc) (x0 : List Arc) (k115 : Nat) : Option (((List Arc) × Nat) ⊕ ((List Arc))) :=
  grd (0 ≤ k123 ∧ k123 ≤ l111.length) (grd ((([] : List Arc).length + (l111.take k123).length) * 72 ≤ 140737488355328) (grd (((([] : List Arc) ++ (l111.take k123)).length + [(nth x0 k115 Arc.zero)].length) * 72 ≤ 140737488355328) (grd (k123 ≤ l111.length ∧ l111.length ≤ l111.length) (grd ((((([] : List Arc) ++ (l111.take k123)) ++ [(nth x0 k115 Arc.zero)]).length + (l111.drop k123).length) * 72 ≤ 140737488355328) (whittleref15_SortArcs_j1 k115 (((([] : List Arc) ++ (l111.take k123)) ++ [(nth x0 k115 Arc.zero)]) ++ (l111.drop k123)))))))
noncomputable def whittleref15_SortArcs_j2 (l111 : List Arc) (x0 : List Arc) (k115 : Nat) (k123 : Nat) : Option (((List Arc) × Nat) ⊕ ((List Arc))) :=
  iteO (decide (((k123 : Nat) : Int) < ((l111.length : Nat) : Int))) (iteO (decide ((nth l111 k123 Arc.zero) = (nth x0 k115 Arc.zero))) (whittleref15_SortArcs_j1 k115 l111) (whittleref15_SortArcs_j3 k123 l111 x0 k115)) (whittleref15_SortArcs_j3 k123 l111 x0 k115)
noncomputable def whittleref15_SortArcs_b2 (l111 : List Arc) (x0 : List Arc) (k115 : Nat) (k126 : Nat) : Option ((Nat) ⊕ (((List Arc) × Nat) ⊕ ((List Arc)))) :=
  iteO (decide (((k126 : Nat) : Int) < ((l111.length : Nat) : Int))) (bnd (whittleref15_arcLess (nth l111 k126 Arc.zero) (nth x0 k115 Arc.zero)) (fun v22 => iteO v22 (nxt (k126 + 1)) (fin (whittleref15_SortArcs_j2 l111 x0 k115 k126)))) (fin (whittleref15_SortArcs_j2 l111 x0 k115 k126))
noncomputable def whittleref15_SortArcs_b1 (x0 : List Arc) (l111 : List Arc) (k115 : Nat) : Option (((List Arc) × Nat) ⊕ ((List Arc))) :=
  iteO (decide (((k115 : Nat) : Int) < ((x0.length : Nat) : Int))) (iter (fun q : Nat => whittleref15_SortArcs_b2 l111 x0 k115 q) 0) (fin (some l111))
noncomputable def whittleref15_SortArcs (x0 : List Arc) : Option ((List Arc)) :=
  iter (fun q : (List Arc) × Nat => whittleref15_SortArcs_b1 x0 q.1 q.2) (([] : List Arc), 0)
def whittleref15_SortArcs_P (σ : Store) (r : (List Arc)) : Value → Store → List Res → Prop := fun v σ' H' =>
  ∃ (a1 : Option Addr), ∃ (c1 : Nat),  v = .slice a1 r.length c1 ∧ RS σ' 8 encArc (.slice a1 r.length c1) r ∧ H' = []
theorem whittleref15_SortArcs_con {σ : Store} {x0 : List Arc} {a0_0 : Option Addr} {c0_0 : Nat} (f0_0 : RS σ 8 encArc (.slice a0_0 x0.length c0_0) x0) {r : (List Arc)} (hh : whittleref15_SortArcs x0 = some r) :
    Con Tryz.prog 21 #[.slice a0_0 x0.length c0_0] σ [] (whittleref15_SortArcs_P σ r) := by
  dsimp only [whittleref15_SortArcs] at hh
  have f0_0b := f0_0.rv.big
  refine Con.mk (n := 64) Tryz.func21 rfl rfl rfl (fun w0 => ?_)
  refine TC.seq ?_
  refine TC.region ?_
  refine TL.v rfl (OpVal.moveSl (.inr rfl) rfl) rfl rfl ?_
  refine TL.nil ?_
  refine S.n ?_
  refine TC.seq ?_
  refine TC.region ?_
  refine TL.v rfl (OpVal.moveSl (.inr rfl) rfl) rfl rfl ?_
  refine TL.nil ?_
  refine S.n ?_
  refine TC.seq ?_
  refine TC.seq ?_
  refine TC.region ?_
  refine TL.v rfl (OpVal.moveI (.inr rfl) rfl) rfl rfl ?_
  refine TL.nil ?_
  refine S.n ?_
  refine TC.block ?_
  refine TC.loopG (α := ((List Arc) × Nat) × ((Option Addr) × Nat × Store)) [3, 4, 5, 6, 7, 8, 9, 10, 11, 12, 13, 14, 15, 16, 17, 18, 19, 20, 21, 22, 23, 24, 25, 26, 27, 28, 29, 30, 31, 32, 33, 34, 35, 36, 37, 38, 39, 40, 41, 42, 43, 44, 45, 46, 47, 48, 49, 50, 51, 52, 53, 54, 55, 56, 57, 58, 59, 60, 61, 62] (fun g => [(3, .slice g.2.1 g.1.1.length g.2.2.1), (4, .int .i64 ((g.1.2 : Nat) : Int))]) (fun g => []) (fun g => g.2.2.2) (fun g => iter (fun q : (List Arc) × Nat => whittleref15_SortArcs_b1 x0 q.1 q.2) g.1 = some r ∧ RS g.2.2.2 8 encArc (.slice g.2.1 g.1.1.length g.2.2.1) g.1.1 ∧ Store.le σ g.2.2.2) (fun g => rounds (fun q : (List Arc) × Nat => whittleref15_SortArcs_b1 x0 q.1 q.2) g.1) ((([] : List Arc), 0), (none, 0, σ)) (Sub.pre 0 rfl) rfl (by repeat (first | exact trivial | refine ⟨rfl, ?_⟩)) ⟨hh, (RS.nilF _ encArc encArc_len), (Store.le.refl _)⟩ (fun g1 j1 hg1 => ?_)
  obtain ⟨⟨l111, k115⟩, ⟨a112, c113, τ116⟩⟩ := g1
  obtain ⟨hh, hr114, hle117⟩ := hg1
  try dsimp only at hr114
  dsimp only at hle117
  replace f0_0 := f0_0.mono hle117
  show TC _ _ _ (upds (mask _ j1 _) [(3, .slice a112 l111.length c113), (4, .int .i64 ((k115 : Nat) : Int))]) τ116 []
  obtain ⟨z1, hh, hR1⟩ := iter_e hh
  dsimp only [whittleref15_SortArcs_b1] at hh
  have hr114b := hr114.rv.big
  refine TC.seq ?_
  refine TC.seq ?_
  refine TC.region ?_
  refine TL.v rfl (OpVal.moveI (.inl rfl) rfl) rfl rfl ?_
  refine TL.v rfl (OpVal.moveSl (.inl rfl) rfl) rfl rfl ?_
  refine TL.v rfl (OpVal.lenC rfl Tryz.underlying23 rfl) rfl rfl ?_
  refine TL.v rfl (OpVal.lss rfl rfl rfl) rfl rfl ?_
  refine TL.nil ?_
  refine S.n ?_
  refine TC.cond rfl (fun h118 => ?_) (fun h118 => ?_)
  · replace hh := iteO_t h118 hh
    replace h118 := of_decide_eq_true h118
    refine TC.skip ?_
    refine S.n ?_
    refine TC.cutG (α := ((List Arc)) × ((Option Addr) × Nat × Store)) [3, 5, 6, 13, 14, 15, 16, 17, 18, 19, 20, 21, 22, 23, 24, 25, 26, 27, 28, 29, 30, 31, 32, 33, 34, 35, 36, 37, 38, 39, 40, 41, 42, 43, 44, 45, 46, 47, 48, 49, 50, 51, 52, 53, 54, 55, 56, 57, 58, 59, 60, 61, 62] (fun g => [(3, .slice g.2.1 g.1.length g.2.2.1)]) (fun g => []) (fun g => g.2.2.2) (fun g => whittleref15_SortArcs_j1 k115 g.1 = some z1 ∧ RS g.2.2.2 8 encArc (.slice g.2.1 g.1.length g.2.2.1) g.1 ∧ Store.le τ116 g.2.2.2) ?_ (fun g j hg => ?_)
    · skip
      refine TC.block ?_
      refine TC.seq ?_
      refine TC.region ?_
      refine TL.v rfl (OpVal.moveI (.inr rfl) rfl) rfl rfl ?_
      refine TL.nil ?_
      refine S.n ?_
      refine TC.cutG (α := (Nat) × (Unit)) [5, 13, 14, 15, 16, 17, 18, 19, 20, 21, 22, 23, 24, 25, 26, 27, 28, 29] (fun g => [(5, .int .i64 ((g.1 : Nat) : Int))]) (fun g => []) (fun g => τ116) (fun g => whittleref15_SortArcs_j2 l111 x0 k115 g.1 = some z1) ?_ (fun g j hg => ?_)
      · skip
        refine TC.block ?_
        refine TC.loopG (α := (Nat) × (Unit)) [5, 13, 14, 15, 16, 17, 18, 19, 20, 21, 22, 23, 24, 25, 26, 27, 28, 29] (fun g => [(5, .int .i64 ((g.1 : Nat) : Int))]) (fun g => []) (fun g => τ116) (fun g => iter (fun q : Nat => whittleref15_SortArcs_b2 l111 x0 k115 q) g.1 = some z1) (fun g => rounds (fun q : Nat => whittleref15_SortArcs_b2 l111 x0 k115 q) g.1) (0, ()) (Sub.pre 0 rfl) rfl (by repeat (first | exact trivial | refine ⟨rfl, ?_⟩)) hh (fun g2 j2 hg2 => ?_)
        obtain ⟨k126, _⟩ := g2
        have hh := hg2; clear hg2
        show TC _ _ _ (upds (mask _ j2 _) [(5, .int .i64 ((k126 : Nat) : Int))]) _ []
        obtain ⟨z2, hh, hR2⟩ := iter_e hh
        dsimp only [whittleref15_SortArcs_b2] at hh
        refine TC.seq ?_
        refine TC.seq ?_
        refine TC.draw [] (by kernel_rfl) ?_
        refine TA.takeP 0 rfl (by kernel_rfl) (by kernel_rfl) (by kernel_rfl) rfl (OpVal.moveI (.inl rfl) rfl) rfl rfl ?_
        refine TA.takeP 1 rfl (by kernel_rfl) (by kernel_rfl) (by kernel_rfl) rfl (OpVal.moveSl (.inl rfl) rfl) rfl rfl ?_
        refine TA.take 2 rfl (by kernel_rfl) (by kernel_rfl) (by kernel_rfl) (by kernel_rfl) rfl (OpVal.lenC rfl Tryz.underlying23 rfl) rfl rfl ?_
        refine TA.takeP 3 rfl (by kernel_rfl) (by kernel_rfl) (by kernel_rfl) rfl (OpVal.lss rfl rfl rfl) rfl rfl ?_
        refine TA.takeP 4 rfl (by kernel_rfl) (by kernel_rfl) (by kernel_rfl) rfl (OpVal.moveB (.inl rfl) rfl) rfl rfl ?_
        refine TA.split 17 rfl (fun h127 => ?_) (fun h127 => ?_)
        · replace hh := iteO_t h127 hh
          replace h127 := of_decide_eq_true h127
          refine TA.takeOn 5 rfl (by kernel_rfl) (by kernel_rfl) (by kernel_rfl) (by kernel_rfl) rfl rfl rfl rfl rfl (OpVal.moveSl (.inl rfl) rfl) rfl rfl ?_
          refine TA.takeOn 6 rfl (by kernel_rfl) (by kernel_rfl) (by kernel_rfl) (by kernel_rfl) rfl rfl rfl rfl rfl (OpVal.moveI (.inl rfl) rfl) rfl rfl ?_
          refine TA.takeOn 7 rfl (by kernel_rfl) (by kernel_rfl) (by kernel_rfl) (by kernel_rfl) rfl rfl rfl rfl rfl (OpVal.indexN rfl Tryz.underlying23 sz45 rfl rfl hr114.rv.sl (by omega)) rfl rfl ?_
          refine TA.takeOn 8 rfl (by kernel_rfl) (by kernel_rfl) (by kernel_rfl) (by kernel_rfl) rfl rfl rfl rfl rfl (OpVal.loadSA Arc.zero rfl ag45 sz45 rfl hr114 (by omega) (by omega)) rfl rfl ?_
          refine TA.takeOn 9 rfl (by kernel_rfl) (by kernel_rfl) (by kernel_rfl) (by kernel_rfl) rfl rfl rfl rfl rfl (OpVal.moveSl (.inl rfl) rfl) rfl rfl ?_
          refine TA.takeOn 10 rfl (by kernel_rfl) (by kernel_rfl) (by kernel_rfl) (by kernel_rfl) rfl rfl rfl rfl rfl (OpVal.moveI (.inl rfl) rfl) rfl rfl ?_
          refine TA.takeOn 11 rfl (by kernel_rfl) (by kernel_rfl) (by kernel_rfl) (by kernel_rfl) rfl rfl rfl rfl rfl (OpVal.indexN rfl Tryz.underlying23 sz45 rfl rfl f0_0.rv.sl (by omega)) rfl rfl ?_
          refine TA.takeOn 12 rfl (by kernel_rfl) (by kernel_rfl) (by kernel_rfl) (by kernel_rfl) rfl rfl rfl rfl rfl (OpVal.loadSA Arc.zero rfl ag45 sz45 rfl f0_0 (by omega) (by omega)) rfl rfl ?_
          obtain ⟨v22, u22, hh⟩ := bnd_e hh
          refine TA.actOn 13 (by kernel_rfl) rfl rfl rfl rfl rfl rfl (OpOk.callP (whittleref15_arcLess_con u22) rfl rfl pf45 rfl rfl rfl ⟨(fun w h => sees_of (Store.le.refl _) (fun r hr => hr) w h), ?_⟩)
          refine TA.takeP 14 rfl (by kernel_rfl) (by kernel_rfl) (by kernel_rfl) rfl (OpVal.pickTB rfl rfl rfl) rfl rfl ?_
          refine TA.done (by kernel_rfl) ?_
          refine S.n ?_
          refine TC.cond rfl (fun h128 => ?_) (fun h128 => ?_)
          · replace hh := iteO_t h128 hh
            refine TC.skip ?_
            refine S.n ?_
            refine TC.block ?_
            refine TC.region ?_
            refine TL.v rfl (OpVal.moveI (.inl rfl) rfl) rfl rfl ?_
            refine TL.v rfl (OpVal.succ rfl rfl rfl (by omega)) rfl rfl ?_
            refine TL.v rfl (OpVal.moveI (.inr rfl) rfl) rfl rfl ?_
            refine TL.nil ?_
            refine B.n ?_
            refine S.n ?_
            obtain ⟨hh, hlt129⟩ := nxt_x hR2 hh
            refine ⟨by repeat (first | exact Agr.refl _ _ | exact Agr.mask | refine Agr.upd rfl ?_ | refine Agr.maskIn rfl ?_ | refine Agr.upds rfl ?_), ((k126 + 1), ()), hlt129, hh, by repeat (first | exact trivial | refine ⟨rfl, ?_⟩), Sub.pre 0 rfl, rfl⟩
          · replace hh := iteO_f h128 hh
            refine TC.exit ?_
            refine S.x ?_
            refine S.x ?_
            replace hh := fin_x hR2 hh
            refine TC.exitHere ?_
            refine S.n ?_
            refine ⟨by repeat (first | exact Agr.refl _ _ | exact Agr.mask | refine Agr.upd rfl ?_ | refine Agr.maskIn rfl ?_ | refine Agr.upds rfl ?_), (k126, ()), hh, by repeat (first | exact trivial | refine ⟨rfl, ?_⟩), Sub.pre 0 rfl, rfl⟩
        · replace hh := iteO_f h127 hh
          replace h127 := of_decide_eq_false h127
          refine TA.takeOff 5 rfl (by kernel_rfl) (by kernel_rfl) (by kernel_rfl) (by kernel_rfl) rfl rfl rfl rfl rfl rfl rfl rfl ?_
          refine TA.takeOff 6 rfl (by kernel_rfl) (by kernel_rfl) (by kernel_rfl) (by kernel_rfl) rfl rfl rfl rfl rfl rfl rfl rfl ?_
          refine TA.takeOff 7 rfl (by kernel_rfl) (by kernel_rfl) (by kernel_rfl) (by kernel_rfl) rfl rfl rfl rfl rfl rfl rfl rfl ?_
          refine TA.takeOff 8 rfl (by kernel_rfl) (by kernel_rfl) (by kernel_rfl) (by kernel_rfl) rfl rfl rfl rfl rfl rfl rfl rfl ?_
          refine TA.takeOff 9 rfl (by kernel_rfl) (by kernel_rfl) (by kernel_rfl) (by kernel_rfl) rfl rfl rfl rfl rfl rfl rfl rfl ?_
          refine TA.takeOff 10 rfl (by kernel_rfl) (by kernel_rfl) (by kernel_rfl) (by kernel_rfl) rfl rfl rfl rfl rfl rfl rfl rfl ?_
          refine TA.takeOff 11 rfl (by kernel_rfl) (by kernel_rfl) (by kernel_rfl) (by kernel_rfl) rfl rfl rfl rfl rfl rfl rfl rfl ?_
          refine TA.takeOff 12 rfl (by kernel_rfl) (by kernel_rfl) (by kernel_rfl) (by kernel_rfl) rfl rfl rfl rfl rfl rfl rfl rfl ?_
          refine TA.takeOff 13 rfl (by kernel_rfl) (by kernel_rfl) (by kernel_rfl) (by kernel_rfl) rfl rfl rfl rfl rfl rfl rfl rfl ?_
          refine TA.takeP 14 rfl (by kernel_rfl) (by kernel_rfl) (by kernel_rfl) rfl (OpVal.pickFB rfl rfl rfl) rfl rfl ?_
          refine TA.done (by kernel_rfl) ?_
          refine S.n ?_
          refine TC.cond rfl (fun h => Bool.noConfusion h) (fun _ => ?_)
          refine TC.exit ?_
          refine S.x ?_
          refine S.x ?_
          replace hh := fin_x hR2 hh
          refine TC.exitHere ?_
          refine S.n ?_
          refine ⟨by repeat (first | exact Agr.refl _ _ | exact Agr.mask | refine Agr.upd rfl ?_ | refine Agr.maskIn rfl ?_ | refine Agr.upds rfl ?_), (k126, ()), hh, by repeat (first | exact trivial | refine ⟨rfl, ?_⟩), Sub.pre 0 rfl, rfl⟩
      · skip
        obtain ⟨k123, _⟩ := g
        have hh := hg; clear hg
        show TC _ _ _ (upds (mask _ j _) [(5, .int .i64 ((k123 : Nat) : Int))]) _ []
        dsimp only [whittleref15_SortArcs_j2] at hh
        refine TC.cutG (α := (Unit) × (Unit)) [30, 31, 32, 33, 34, 35, 36, 37, 38, 39, 40, 41, 42, 43, 44] (fun g => []) (fun g => []) (fun g => τ116) (fun g => whittleref15_SortArcs_j3 k123 l111 x0 k115 = some z1) ?_ (fun g j hg => ?_)
        · skip
          refine TC.seq ?_
          refine TC.draw [] (by kernel_rfl) ?_
          refine TA.takeP 0 rfl (by kernel_rfl) (by kernel_rfl) (by kernel_rfl) rfl (OpVal.moveI (.inl rfl) rfl) rfl rfl ?_
          refine TA.takeP 1 rfl (by kernel_rfl) (by kernel_rfl) (by kernel_rfl) rfl (OpVal.moveSl (.inl rfl) rfl) rfl rfl ?_
          refine TA.take 2 rfl (by kernel_rfl) (by kernel_rfl) (by kernel_rfl) (by kernel_rfl) rfl (OpVal.lenC rfl Tryz.underlying23 rfl) rfl rfl ?_
          refine TA.takeP 3 rfl (by kernel_rfl) (by kernel_rfl) (by kernel_rfl) rfl (OpVal.lss rfl rfl rfl) rfl rfl ?_
          refine TA.takeP 4 rfl (by kernel_rfl) (by kernel_rfl) (by kernel_rfl) rfl (OpVal.moveB (.inl rfl) rfl) rfl rfl ?_
          refine TA.split 34 rfl (fun h130 => ?_) (fun h130 => ?_)
          · replace hh := iteO_t h130 hh
            replace h130 := of_decide_eq_true h130
            refine TA.takeOn 5 rfl (by kernel_rfl) (by kernel_rfl) (by kernel_rfl) (by kernel_rfl) rfl rfl rfl rfl rfl (OpVal.moveSl (.inl rfl) rfl) rfl rfl ?_
            refine TA.takeOn 6 rfl (by kernel_rfl) (by kernel_rfl) (by kernel_rfl) (by kernel_rfl) rfl rfl rfl rfl rfl (OpVal.moveI (.inl rfl) rfl) rfl rfl ?_
            refine TA.takeOn 7 rfl (by kernel_rfl) (by kernel_rfl) (by kernel_rfl) (by kernel_rfl) rfl rfl rfl rfl rfl (OpVal.indexN rfl Tryz.underlying23 sz45 rfl rfl hr114.rv.sl (by omega)) rfl rfl ?_
            refine TA.takeOn 8 rfl (by kernel_rfl) (by kernel_rfl) (by kernel_rfl) (by kernel_rfl) rfl rfl rfl rfl rfl (OpVal.loadSA Arc.zero rfl ag45 sz45 rfl hr114 (by omega) (by omega)) rfl rfl ?_
            refine TA.takeOn 9 rfl (by kernel_rfl) (by kernel_rfl) (by kernel_rfl) (by kernel_rfl) rfl rfl rfl rfl rfl (OpVal.moveSl (.inl rfl) rfl) rfl rfl ?_
            refine TA.takeOn 10 rfl (by kernel_rfl) (by kernel_rfl) (by kernel_rfl) (by kernel_rfl) rfl rfl rfl rfl rfl (OpVal.moveI (.inl rfl) rfl) rfl rfl ?_
            refine TA.takeOn 11 rfl (by kernel_rfl) (by kernel_rfl) (by kernel_rfl) (by kernel_rfl) rfl rfl rfl rfl rfl (OpVal.indexN rfl Tryz.underlying23 sz45 rfl rfl f0_0.rv.sl (by omega)) rfl rfl ?_
            refine TA.takeOn 12 rfl (by kernel_rfl) (by kernel_rfl) (by kernel_rfl) (by kernel_rfl) rfl rfl rfl rfl rfl (OpVal.loadSA Arc.zero rfl ag45 sz45 rfl f0_0 (by omega) (by omega)) rfl rfl ?_
            refine TA.takeOn 13 rfl (by kernel_rfl) (by kernel_rfl) (by kernel_rfl) (by kernel_rfl) rfl rfl rfl rfl rfl (OpVal.eqlSt (p := (nth l111 k123 Arc.zero) = (nth x0 k115 Arc.zero)) rfl rfl rfl eg45 (es45 (nth l111 k123 Arc.zero) (nth x0 k115 Arc.zero)) rfl) rfl rfl ?_
            refine TA.takeP 14 rfl (by kernel_rfl) (by kernel_rfl) (by kernel_rfl) rfl (OpVal.pickTB rfl rfl rfl) rfl rfl ?_
            refine TA.done (by kernel_rfl) ?_
            refine S.n ?_
            refine TC.cond rfl (fun h131 => ?_) (fun h131 => ?_)
            · replace hh := iteO_t h131 hh
              replace h131 := of_decide_eq_true h131
              refine TC.exit ?_
              refine S.x ?_
              refine TC.exitHere ?_
              refine S.n ?_
              refine ⟨by repeat (first | exact Agr.refl _ _ | exact Agr.mask | refine Agr.upd rfl ?_ | refine Agr.maskIn rfl ?_ | refine Agr.upds rfl ?_), (l111, (a112, c113, τ116)), ⟨hh, hr114, (Store.le.refl _)⟩, by repeat (first | exact trivial | refine ⟨rfl, ?_⟩), Sub.pre 0 rfl, rfl⟩
            · replace hh := iteO_f h131 hh
              replace h131 := of_decide_eq_false h131
              refine TC.skip ?_
              refine S.n ?_
              refine ⟨by repeat (first | exact Agr.refl _ _ | exact Agr.mask | refine Agr.upd rfl ?_ | refine Agr.maskIn rfl ?_ | refine Agr.upds rfl ?_), ((), ()), hh, by repeat (first | exact trivial | refine ⟨rfl, ?_⟩), Sub.pre 0 rfl, rfl⟩
          · replace hh := iteO_f h130 hh
            replace h130 := of_decide_eq_false h130
            refine TA.takeOff 5 rfl (by kernel_rfl) (by kernel_rfl) (by kernel_rfl) (by kernel_rfl) rfl rfl rfl rfl rfl rfl rfl rfl ?_
            refine TA.takeOff 6 rfl (by kernel_rfl) (by kernel_rfl) (by kernel_rfl) (by kernel_rfl) rfl rfl rfl rfl rfl rfl rfl rfl ?_
            refine TA.takeOff 7 rfl (by kernel_rfl) (by kernel_rfl) (by kernel_rfl) (by kernel_rfl) rfl rfl rfl rfl rfl rfl rfl rfl ?_
            refine TA.takeOff 8 rfl (by kernel_rfl) (by kernel_rfl) (by kernel_rfl) (by kernel_rfl) rfl rfl rfl rfl rfl rfl rfl rfl ?_
            refine TA.takeOff 9 rfl (by kernel_rfl) (by kernel_rfl) (by kernel_rfl) (by kernel_rfl) rfl rfl rfl rfl rfl rfl rfl rfl ?_
            refine TA.takeOff 10 rfl (by kernel_rfl) (by kernel_rfl) (by kernel_rfl) (by kernel_rfl) rfl rfl rfl rfl rfl rfl rfl rfl ?_
            refine TA.takeOff 11 rfl (by kernel_rfl) (by kernel_rfl) (by kernel_rfl) (by kernel_rfl) rfl rfl rfl rfl rfl rfl rfl rfl ?_
            refine TA.takeOff 12 rfl (by kernel_rfl) (by kernel_rfl) (by kernel_rfl) (by kernel_rfl) rfl rfl rfl rfl rfl rfl rfl rfl ?_
            refine TA.takeOff 13 rfl (by kernel_rfl) (by kernel_rfl) (by kernel_rfl) (by kernel_rfl) rfl rfl rfl rfl rfl rfl rfl rfl ?_
            refine TA.takeP 14 rfl (by kernel_rfl) (by kernel_rfl) (by kernel_rfl) rfl (OpVal.pickFB rfl rfl rfl) rfl rfl ?_
            refine TA.done (by kernel_rfl) ?_
            refine S.n ?_
            refine TC.cond rfl (fun h => Bool.noConfusion h) (fun _ => ?_)
            refine TC.skip ?_
            refine S.n ?_
            refine ⟨by repeat (first | exact Agr.refl _ _ | exact Agr.mask | refine Agr.upd rfl ?_ | refine Agr.maskIn rfl ?_ | refine Agr.upds rfl ?_), ((), ()), hh, by repeat (first | exact trivial | refine ⟨rfl, ?_⟩), Sub.pre 0 rfl, rfl⟩
        · skip
          obtain ⟨_, _⟩ := g
          have hh := hg; clear hg
          show TC _ _ _ (upds (mask _ j _) []) _ []
          dsimp only [whittleref15_SortArcs_j3] at hh
          refine TC.seq ?_
          refine TC.region ?_
          refine TL.v rfl (OpVal.moveSl (.inr rfl) rfl) rfl rfl ?_
          refine TL.nil ?_
          refine S.n ?_
          refine TC.seq ?_
          refine TC.region ?_
          refine TL.v rfl (OpVal.moveSl (.inl rfl) rfl) rfl rfl ?_
          refine TL.v rfl (OpVal.moveSl (.inl rfl) rfl) rfl rfl ?_
          refine TL.v rfl (OpVal.moveI (.inl rfl) rfl) rfl rfl ?_
          have u46 := grd_c hh
          replace hh := grd_t hh
          obtain ⟨a132, c132, hr132, hv132⟩ := hr114.subH k123 (by omega)
          have hr132b := hr132.rv.big
          refine TL.v rfl (hv132 rfl Tryz.underlying23 sz45 rfl rfl) rfl rfl ?_
          refine TL.nilS 45 8 encArc ?_
          have u47 := grd_c hh
          replace hh := grd_t hh
          refine TL.op rfl (OpOk.appendS rfl rfl Tryz.underlying23 sz45 by45 ze45 rfl rfl (by decide) rfl rfl rfl (.inl hr132) (by simpa using u47) (by decide) (fun a134 c135 => ?_))
          refine TL.v rfl (OpVal.moveSl (.inr rfl) rfl) rfl rfl ?_
          refine TL.nil ?_
          refine S.n ?_
          refine TC.seq ?_
          refine TC.region ?_
          refine TL.v rfl (OpVal.moveSl (.inl rfl) rfl) rfl rfl ?_
          refine TL.v rfl (OpVal.moveSl (.inl rfl) rfl) rfl rfl ?_
          refine TL.v rfl (OpVal.moveI (.inl rfl) rfl) rfl rfl ?_
          refine TL.v rfl (OpVal.indexN rfl Tryz.underlying23 sz45 rfl rfl f0_0.rv.sl (by omega)) rfl rfl ?_
          refine TL.v rfl (OpVal.loadSA Arc.zero rfl ag45 sz45 rfl f0_0 (by omega) (by omega)) rfl rfl ?_
          refine TL.op rfl (OpOk.lit (enc := encArc) [(nth x0 k115 Arc.zero)] rfl Tryz.underlying23 sz45 ze45 rfl rfl rfl encArc_len (by decide) (by decide) Arc.zero rfl (by decide) rfl (by decide) encArc_one (fun a136 c137 => ?_))
          refine TL.front 1 rfl rfl ?_
          have u55 := grd_c hh
          replace hh := grd_t hh
          refine TL.op rfl (OpOk.appendS rfl rfl Tryz.underlying23 sz45 by45 ze45 rfl rfl (by decide) rfl rfl rfl (.inr ⟨_, 0, rfl⟩) (by simpa using u55) (by decide) (fun a139 c140 => ?_))
          refine TL.v rfl (OpVal.moveSl (.inr rfl) rfl) rfl rfl ?_
          refine TL.nil ?_
          refine S.n ?_
          refine TC.seq ?_
          refine TC.region ?_
          refine TL.v rfl (OpVal.moveSl (.inl rfl) rfl) rfl rfl ?_
          refine TL.v rfl (OpVal.moveSl (.inl rfl) rfl) rfl rfl ?_
          refine TL.v rfl (OpVal.moveI (.inl rfl) rfl) rfl rfl ?_
          have u60 := grd_c hh
          replace hh := grd_t hh
          obtain ⟨a141, c141, hr141, hv141⟩ := hr114.subL k123 (by omega)
          have hr141b := hr141.rv.big
          refine TL.v rfl (hv141 rfl Tryz.underlying23 sz45 rfl rfl) rfl rfl ?_
          have u61 := grd_c hh
          replace hh := grd_t hh
          refine TL.op rfl (OpOk.appendS rfl rfl Tryz.underlying23 sz45 by45 ze45 rfl rfl (by decide) rfl rfl rfl (.inl hr141) (by simpa using u61) (by decide) (fun a142 c143 => ?_))
          refine TL.v rfl (OpVal.moveSl (.inr rfl) rfl) rfl rfl ?_
          refine TL.nil ?_
          refine S.n ?_
          refine TC.region ?_
          refine TL.v rfl (OpVal.moveSl (.inl rfl) rfl) rfl rfl ?_
          refine TL.v rfl (OpVal.moveSl (.inr rfl) rfl) rfl rfl ?_
          refine TL.sealS encArc_len (fun τ146 hle145 hr144 => ?_)
          replace f0_0 := f0_0.mono hle145
          replace hr114 := hr114.mono hle145
          replace hr132 := hr132.mono hle145
          replace hr141 := hr141.mono hle145
          have hr144b := hr144.rv.big
          refine TL.nil ?_
          refine B.n ?_
          refine S.n ?_
          refine ⟨by repeat (first | exact Agr.refl _ _ | exact Agr.mask | refine Agr.upd rfl ?_ | refine Agr.maskIn rfl ?_ | refine Agr.upds rfl ?_), ((((([] : List Arc) ++ (l111.take k123)) ++ [(nth x0 k115 Arc.zero)]) ++ (l111.drop k123)), (a142, c143, τ146)), ⟨hh, hr144, hle145⟩, by repeat (first | exact trivial | refine ⟨rfl, ?_⟩), Sub.pre 0 rfl, rfl⟩
    · skip
      obtain ⟨l119, ⟨a120, c121, τ147⟩⟩ := g
      obtain ⟨hh, hr122, hle148⟩ := hg
      try dsimp only at hr122
      dsimp only at hle148
      replace f0_0 := f0_0.mono hle148
      replace hr114 := hr114.mono hle148
      show TC _ _ _ (upds (mask _ j _) [(3, .slice a120 l119.length c121)]) τ147 []
      dsimp only [whittleref15_SortArcs_j1] at hh
      have hr122b := hr122.rv.big
      refine TC.region ?_
      refine TL.v rfl (OpVal.moveI (.inl rfl) rfl) rfl rfl ?_
      refine TL.v rfl (OpVal.succ rfl rfl rfl (by omega)) rfl rfl ?_
      refine TL.v rfl (OpVal.moveI (.inr rfl) rfl) rfl rfl ?_
      refine TL.nil ?_
      refine S.n ?_
      obtain ⟨hh, hlt149⟩ := nxt_x hR1 hh
      refine ⟨by repeat (first | exact Agr.refl _ _ | exact Agr.mask | refine Agr.upd rfl ?_ | refine Agr.maskIn rfl ?_ | refine Agr.upds rfl ?_), ((l119, (k115 + 1)), (a120, c121, τ147)), hlt149, ⟨hh, hr122, (hle117.trans hle148)⟩, by repeat (first | exact trivial | refine ⟨rfl, ?_⟩), Sub.pre 0 rfl, rfl⟩
  · replace hh := iteO_f h118 hh
    replace h118 := of_decide_eq_false h118
    refine TC.exit ?_
    refine S.x ?_
    refine S.x ?_
    replace hh := fin_x hR1 hh
    refine TC.exitHere ?_
    refine S.n ?_
    refine TC.seq ?_
    refine TC.region ?_
    refine TL.v rfl (OpVal.moveSl (.inl rfl) rfl) rfl rfl ?_
    refine TL.v rfl (OpVal.moveSl (.inr rfl) rfl) rfl rfl ?_
    refine TL.nil ?_
    refine S.n ?_
    refine TC.ret ?_
    obtain rfl := Option.some.inj hh
    exact RetOk.mk' (rs := [.tmp 2]) [] rfl (.inl rfl) (RVs.tmp rfl RVs.nil) (List.sublist_append_left _ _) ⟨a112, c113, rfl, hr114, rfl⟩

noncomputable def whittleref15_Sort (x0 : Fst) : Option (Fst × Int) :=
  bnd (whittleref15_Right x0) (fun v5 => iteO (!v5) (some ((⟨0, ([] : List Tip), ([] : List Tip), ([] : List Arc)⟩ : Fst), 1)) (bnd (whittleref15_SortTips x0.starts) (fun v14 => bnd (whittleref15_SortTips x0.ends) (fun v17 => bnd (whittleref15_SortArcs x0.arcs) (fun v20 => some ((⟨x0.states, v14, v17, v20⟩ : Fst), 0))))))
def whittleref15_Sort_P (σ : Store) (r : Fst × Int) : Value → Store → List Res → Prop := fun v σ' H' =>
  ∃ (a1 : Option Addr), ∃ (c1 : Nat), ∃ (a2 : Option Addr), ∃ (c2 : Nat), ∃ (a3 : Option Addr), ∃ (c3 : Nat),  v = .tuple #[.agg #[.int .i64 r.1.states, .slice a1 r.1.starts.length c1, .slice a2 r.1.ends.length c2, .slice a3 r.1.arcs.length c3], .int .i64 r.2] ∧ RS σ' 2 encTip (.slice a1 r.1.starts.length c1) r.1.starts ∧ RS σ' 2 encTip (.slice a2 r.1.ends.length c2) r.1.ends ∧ RS σ' 8 encArc (.slice a3 r.1.arcs.length c3) r.1.arcs ∧ H' = []
theorem whittleref15_Sort_con {σ : Store} {x0 : Fst} {a0_0 : Option Addr} {c0_0 : Nat} {a0_1 : Option Addr} {c0_1 : Nat} {a0_2 : Option Addr} {c0_2 : Nat} (f0_0 : RS σ 2 encTip (.slice a0_0 x0.starts.length c0_0) x0.starts) (f0_1 : RS σ 2 encTip (.slice a0_1 x0.ends.length c0_1) x0.ends) (f0_2 : RS σ 8 encArc (.slice a0_2 x0.arcs.length c0_2) x0.arcs) {r : Fst × Int} (hh : whittleref15_Sort x0 = some r) :
    Con Tryz.prog 8 #[.agg #[.int .i64 x0.states, .slice a0_0 x0.starts.length c0_0, .slice a0_1 x0.ends.length c0_1, .slice a0_2 x0.arcs.length c0_2]] σ [] (whittleref15_Sort_P σ r) := by
  dsimp only [whittleref15_Sort] at hh
  have f0_0b := f0_0.rv.big
  have f0_1b := f0_1.rv.big
  have f0_2b := f0_2.rv.big
  refine Con.mk (n := 20) Tryz.func8 rfl rfl rfl (fun w0 => ?_)
  refine TC.seq ?_
  refine TC.region ?_
  refine TL.op rfl (OpOk.boxA rfl rfl rfl rfl (fun b101 => ?_))
  refine TL.op rfl (OpOk.alloc rfl ze25 rfl rfl (fun b103 => ?_))
  refine TL.v rfl (OpVal.moveI (.inr rfl) rfl) rfl rfl ?_
  refine TL.nil ?_
  refine S.n ?_
  refine TC.seq ?_
  refine TC.seq ?_
  refine TC.region ?_
  refine TL.v rfl (OpVal.loadAll rfl ag25 sz25 rfl (i := 1) rfl rfl) rfl rfl ?_
  obtain ⟨v5, u5, hh⟩ := bnd_e hh
  refine TL.op rfl (OpOk.callP (whittleref15_Right_con (x0 := x0) f0_0 f0_1 f0_2 u5) rfl rfl pf14 rfl rfl rfl ?_)
  refine TL.v rfl (OpVal.not rfl rfl) rfl rfl ?_
  refine TL.nil ?_
  refine S.n ?_
  refine TC.cond rfl (fun h105 => ?_) (fun h105 => ?_)
  · replace hh := iteO_t h105 hh
    refine TC.seq ?_
    refine TC.region ?_
    refine TL.v rfl (OpVal.buildL rfl pl25 ze25 rfl) rfl rfl ?_
    refine TL.op rfl (OpOk.storeAll rfl sz25 rfl rfl rfl rfl rfl rfl ?_)
    refine TL.v rfl (OpVal.moveI (.inr rfl) rfl) rfl rfl ?_
    refine TL.nil ?_
    refine S.n ?_
    refine TC.ofSub (Sub.pre 1 rfl) ?_
    refine TC.ret ?_
    refine S.r ?_
    obtain rfl := Option.some.inj hh
    exact RetOk.mk' (rs := [.cell 2 25, .tmp 3]) [] rfl (.inl rfl) (RVs.agg ag25 sz25 rfl (i := 0) rfl rfl (RVs.tmp rfl RVs.nil)) (List.sublist_append_left _ _) ⟨none, 0, none, 0, none, 0, rfl, (RS.nilF _ encTip encTip_len), (RS.nilF _ encTip encTip_len), (RS.nilF _ encArc encArc_len), rfl⟩
  · replace hh := iteO_f h105 hh
    refine TC.skip ?_
    refine S.n ?_
    refine TC.seq ?_
    obtain ⟨v14, u14, hh⟩ := bnd_e hh
    obtain ⟨v17, u17, hh⟩ := bnd_e hh
    obtain ⟨v20, u20, hh⟩ := bnd_e hh
    refine TC.draw [12, 13] (by kernel_rfl) ?_
    refine TA.takeP 0 rfl (by kernel_rfl) (by kernel_rfl) (by kernel_rfl) rfl (OpVal.fieldLoc rfl fo25_0 rfl) rfl rfl ?_
    refine TA.take 1 rfl (by kernel_rfl) (by kernel_rfl) (by kernel_rfl) (by kernel_rfl) rfl (OpVal.loadLoc rfl ag3 rfl (i := 1) rfl rfl) rfl rfl ?_
    refine TA.takeP 2 rfl (by kernel_rfl) (by kernel_rfl) (by kernel_rfl) rfl (OpVal.fieldLoc rfl fo25_1 rfl) rfl rfl ?_
    refine TA.take 3 rfl (by kernel_rfl) (by kernel_rfl) (by kernel_rfl) (by kernel_rfl) rfl (OpVal.loadLoc rfl ag22 rfl (i := 1) rfl rfl) rfl rfl ?_
    refine TA.takeP 5 rfl (by kernel_rfl) (by kernel_rfl) (by kernel_rfl) rfl (OpVal.fieldLoc rfl fo25_2 rfl) rfl rfl ?_
    refine TA.take 6 rfl (by kernel_rfl) (by kernel_rfl) (by kernel_rfl) (by kernel_rfl) rfl (OpVal.loadLoc rfl ag22 rfl (i := 1) rfl rfl) rfl rfl ?_
    refine TA.takeP 8 rfl (by kernel_rfl) (by kernel_rfl) (by kernel_rfl) rfl (OpVal.fieldLoc rfl fo25_3 rfl) rfl rfl ?_
    refine TA.take 9 rfl (by kernel_rfl) (by kernel_rfl) (by kernel_rfl) (by kernel_rfl) rfl (OpVal.loadLoc rfl ag23 rfl (i := 1) rfl rfl) rfl rfl ?_
    refine TA.act 4 (by kernel_rfl) rfl rfl (OpOk.call (whittleref15_SortTips_con f0_0 u14) rfl rfl pf20 rfl rfl rfl rfl ?_)
    rintro _ τ109 _ hle109 ⟨a109_1, c109_1, rfl, hr109_0, rfl⟩
    replace f0_0 := f0_0.mono hle109
    replace f0_1 := f0_1.mono hle109
    replace f0_2 := f0_2.mono hle109
    have hr109_0b := hr109_0.rv.big
    refine ⟨(fun w h => sees_of hle109 (fun r hr => hr) w h), ?_⟩
    refine TA.act 7 (by kernel_rfl) rfl rfl (OpOk.call (whittleref15_SortTips_con f0_1 u17) rfl rfl pf20 rfl rfl rfl rfl ?_)
    rintro _ τ110 _ hle110 ⟨a110_1, c110_1, rfl, hr110_0, rfl⟩
    replace f0_0 := f0_0.mono hle110
    replace f0_1 := f0_1.mono hle110
    replace f0_2 := f0_2.mono hle110
    replace hr109_0 := hr109_0.mono hle110
    have hr110_0b := hr110_0.rv.big
    refine ⟨(fun w h => sees_of (hle109.trans hle110) (fun r hr => hr) w h), ?_⟩
    refine TA.act 10 (by kernel_rfl) rfl rfl (OpOk.call (whittleref15_SortArcs_con f0_2 u20) rfl rfl pf21 rfl rfl rfl rfl ?_)
    rintro _ τ111 _ hle111 ⟨a111_1, c111_1, rfl, hr111_0, rfl⟩
    replace f0_0 := f0_0.mono hle111
    replace f0_1 := f0_1.mono hle111
    replace f0_2 := f0_2.mono hle111
    replace hr109_0 := hr109_0.mono hle111
    replace hr110_0 := hr110_0.mono hle111
    have hr111_0b := hr111_0.rv.big
    refine ⟨(fun w h => sees_of ((hle109.trans hle110).trans hle111) (fun r hr => hr) w h), ?_⟩
    refine TA.takeP 11 rfl (by kernel_rfl) (by kernel_rfl) (by kernel_rfl) rfl (OpVal.buildL rfl pl25 ze25 rfl) rfl rfl ?_
    refine TA.last 12 (by kernel_rfl) rfl rfl rfl (OpOk.storeAll rfl sz25 rfl rfl rfl rfl rfl rfl ?_)
    refine TZ.v 13 (by kernel_rfl) rfl rfl rfl (OpVal.moveI (.inr rfl) rfl) rfl rfl ?_
    refine TZ.done (by kernel_rfl) ?_
    refine S.n ?_
    refine TC.ofSub (Sub.pre 1 rfl) ?_
    refine TC.ret ?_
    obtain rfl := Option.some.inj hh
    exact RetOk.mk' (rs := [.cell 2 25, .tmp 3]) [] rfl (.inl rfl) (RVs.agg ag25 sz25 rfl (i := 0) rfl rfl (RVs.tmp rfl RVs.nil)) (List.sublist_append_left _ _) ⟨a109_1, c109_1, a110_1, c110_1, a111_1, c111_1, rfl, hr109_0, hr110_0, hr111_0, rfl⟩

noncomputable def whittleref02_Ints_b1 (x0 : List Int) (x1 : List Int) (k104 : Nat) : Option ((Nat) ⊕ (Bool)) :=
  iteO (decide (((k104 : Nat) : Int) < ((x0.length : Nat) : Int))) (grd (k104 < x1.length) (iteO (decide ((nth x0 k104 (0 : Int)) ≠ (nth x1 k104 (0 : Int)))) (fin (some false)) (nxt (k104 + 1)))) (fin (some true))
noncomputable def whittleref02_Ints (x0 : List Int) (x1 : List Int) : Option (Bool) :=
  iteO (decide (((x0.length : Nat) : Int) ≠ ((x1.length : Nat) : Int))) (some false) (iter (fun q : Nat => whittleref02_Ints_b1 x0 x1 q) 0)
theorem whittleref02_Ints_con {σ : Store} {x0 : List Int} {a0_0 : Option Addr} {c0_0 : Nat} {x1 : List Int} {a1_0 : Option Addr} {c1_0 : Nat} (f0_0 : RS σ 1 Go.E.encI (.slice a0_0 x0.length c0_0) x0) (f1_0 : RS σ 1 Go.E.encI (.slice a1_0 x1.length c1_0) x1) {r : Bool} (hh : whittleref02_Ints x0 x1 = some r) :
    Con Tryz.prog 26 #[.slice a0_0 x0.length c0_0, .slice a1_0 x1.length c1_0] σ [] (PureP (.bool r) σ) := by
  dsimp only [whittleref02_Ints] at hh
  have f0_0b := f0_0.rv.big
  have f1_0b := f1_0.rv.big
  refine Con.mk (n := 26) Tryz.func26 rfl rfl rfl (fun w0 => ?_)
  refine TC.seq ?_
  refine TC.region ?_
  refine TL.v rfl (OpVal.moveB (.inr rfl) rfl) rfl rfl ?_
  refine TL.nil ?_
  refine S.n ?_
  refine TC.seq ?_
  refine TC.seq ?_
  refine TC.region ?_
  refine TL.v rfl (OpVal.moveSl (.inl rfl) rfl) rfl rfl ?_
  refine TL.v rfl (OpVal.lenC rfl Tryz.underlying27 rfl) rfl rfl ?_
  refine TL.v rfl (OpVal.moveSl (.inl rfl) rfl) rfl rfl ?_
  refine TL.v rfl (OpVal.lenC rfl Tryz.underlying27 rfl) rfl rfl ?_
  refine TL.v rfl (OpVal.neq rfl rfl rfl) rfl rfl ?_
  refine TL.nil ?_
  refine S.n ?_
  refine TC.cond rfl (fun h101 => ?_) (fun h101 => ?_)
  · replace hh := iteO_t h101 hh
    replace h101 := of_decide_eq_true h101
    refine TC.seq ?_
    refine TC.region ?_
    refine TL.v rfl (OpVal.moveB (.inr rfl) rfl) rfl rfl ?_
    refine TL.nil ?_
    refine S.n ?_
    refine TC.ret ?_
    refine S.r ?_
    obtain rfl := Option.some.inj hh
    exact RetOk.mk' (rs := [.tmp 4]) [] rfl (.inl rfl) (RVs.tmp rfl RVs.nil) (List.sublist_append_left _ _) ⟨rfl, rfl, rfl⟩
  · replace hh := iteO_f h101 hh
    replace h101 := of_decide_eq_false h101
    refine TC.skip ?_
    refine S.n ?_
    refine TC.seq ?_
    refine TC.seq ?_
    refine TC.region ?_
    refine TL.v rfl (OpVal.moveI (.inr rfl) rfl) rfl rfl ?_
    refine TL.nil ?_
    refine S.n ?_
    refine TC.block ?_
    refine TC.loopG (α := (Nat) × (Unit)) [4, 5, 11, 12, 13, 14, 15, 16, 17, 18, 19, 20, 21, 22, 23, 24, 25] (fun g => [(5, .int .i64 ((g.1 : Nat) : Int))]) (fun g => []) (fun g => σ) (fun g => iter (fun q : Nat => whittleref02_Ints_b1 x0 x1 q) g.1 = some r) (fun g => rounds (fun q : Nat => whittleref02_Ints_b1 x0 x1 q) g.1) (0, ()) (Sub.pre 0 rfl) rfl (by repeat (first | exact trivial | refine ⟨rfl, ?_⟩)) hh (fun g1 j1 hg1 => ?_)
    obtain ⟨k104, _⟩ := g1
    have hh := hg1; clear hg1
    show TC _ _ _ (upds (mask _ j1 _) [(5, .int .i64 ((k104 : Nat) : Int))]) _ []
    obtain ⟨z1, hh, hR1⟩ := iter_e hh
    dsimp only [whittleref02_Ints_b1] at hh
    refine TC.seq ?_
    refine TC.seq ?_
    refine TC.region ?_
    refine TL.v rfl (OpVal.moveI (.inl rfl) rfl) rfl rfl ?_
    refine TL.v rfl (OpVal.moveSl (.inl rfl) rfl) rfl rfl ?_
    refine TL.v rfl (OpVal.lenC rfl Tryz.underlying27 rfl) rfl rfl ?_
    refine TL.v rfl (OpVal.lss rfl rfl rfl) rfl rfl ?_
    refine TL.nil ?_
    refine S.n ?_
    refine TC.cond rfl (fun h105 => ?_) (fun h105 => ?_)
    · replace hh := iteO_t h105 hh
      replace h105 := of_decide_eq_true h105
      refine TC.skip ?_
      refine S.n ?_
      refine TC.seq ?_
      refine TC.block ?_
      refine TC.seq ?_
      have u19 := grd_c hh
      replace hh := grd_t hh
      refine TC.draw [] (by kernel_rfl) ?_
      refine TA.takeP 0 rfl (by kernel_rfl) (by kernel_rfl) (by kernel_rfl) rfl (OpVal.moveSl (.inl rfl) rfl) rfl rfl ?_
      refine TA.takeP 1 rfl (by kernel_rfl) (by kernel_rfl) (by kernel_rfl) rfl (OpVal.moveI (.inl rfl) rfl) rfl rfl ?_
      refine TA.take 2 rfl (by kernel_rfl) (by kernel_rfl) (by kernel_rfl) (by kernel_rfl) rfl (OpVal.indexN rfl Tryz.underlying27 sz3 rfl rfl f0_0.rv.sl (by omega)) rfl rfl ?_
      refine TA.take 3 rfl (by kernel_rfl) (by kernel_rfl) (by kernel_rfl) (by kernel_rfl) rfl (OpVal.loadS1 (0 : Int) rfl ag3 rfl f0_0 (by omega) rfl) rfl rfl ?_
      refine TA.takeP 4 rfl (by kernel_rfl) (by kernel_rfl) (by kernel_rfl) rfl (OpVal.moveSl (.inl rfl) rfl) rfl rfl ?_
      refine TA.takeP 5 rfl (by kernel_rfl) (by kernel_rfl) (by kernel_rfl) rfl (OpVal.moveI (.inl rfl) rfl) rfl rfl ?_
      refine TA.take 6 rfl (by kernel_rfl) (by kernel_rfl) (by kernel_rfl) (by kernel_rfl) rfl (OpVal.indexN rfl Tryz.underlying27 sz3 rfl rfl f1_0.rv.sl (by omega)) rfl rfl ?_
      refine TA.take 7 rfl (by kernel_rfl) (by kernel_rfl) (by kernel_rfl) (by kernel_rfl) rfl (OpVal.loadS1 (0 : Int) rfl ag3 rfl f1_0 (by omega) rfl) rfl rfl ?_
      refine TA.takeP 8 rfl (by kernel_rfl) (by kernel_rfl) (by kernel_rfl) rfl (OpVal.neq rfl rfl rfl) rfl rfl ?_
      refine TA.done (by kernel_rfl) ?_
      refine S.n ?_
      refine TC.cond rfl (fun h106 => ?_) (fun h106 => ?_)
      · replace hh := iteO_t h106 hh
        replace h106 := of_decide_eq_true h106
        refine TC.seq ?_
        refine TC.region ?_
        refine TL.v rfl (OpVal.moveB (.inr rfl) rfl) rfl rfl ?_
        refine TL.nil ?_
        refine S.n ?_
        refine TC.ret ?_
        refine B.r ?_
        refine S.r ?_
        refine S.r ?_
        replace hh := fin_x hR1 hh
        refine B.r ?_
        refine S.r ?_
        obtain rfl := Option.some.inj hh
        exact RetOk.mk' (rs := [.tmp 4]) [] rfl (.inl rfl) (RVs.tmp rfl RVs.nil) (List.sublist_append_left _ _) ⟨rfl, rfl, rfl⟩
      · replace hh := iteO_f h106 hh
        replace h106 := of_decide_eq_false h106
        refine TC.skip ?_
        refine B.n ?_
        refine S.n ?_
        refine TC.region ?_
        refine TL.v rfl (OpVal.moveI (.inl rfl) rfl) rfl rfl ?_
        refine TL.v rfl (OpVal.succ rfl rfl rfl (by omega)) rfl rfl ?_
        refine TL.v rfl (OpVal.moveI (.inr rfl) rfl) rfl rfl ?_
        refine TL.nil ?_
        refine S.n ?_
        obtain ⟨hh, hlt107⟩ := nxt_x hR1 hh
        refine ⟨by repeat (first | exact Agr.refl _ _ | exact Agr.mask | refine Agr.upd rfl ?_ | refine Agr.maskIn rfl ?_ | refine Agr.upds rfl ?_), ((k104 + 1), ()), hlt107, hh, by repeat (first | exact trivial | refine ⟨rfl, ?_⟩), Sub.pre 0 rfl, rfl⟩
    · replace hh := iteO_f h105 hh
      replace h105 := of_decide_eq_false h105
      refine TC.exit ?_
      refine S.x ?_
      refine S.x ?_
      replace hh := fin_x hR1 hh
      refine TC.exitHere ?_
      refine S.n ?_
      refine TC.seq ?_
      refine TC.region ?_
      refine TL.v rfl (OpVal.moveB (.inr rfl) rfl) rfl rfl ?_
      refine TL.nil ?_
      refine S.n ?_
      refine TC.ret ?_
      obtain rfl := Option.some.inj hh
      exact RetOk.mk' (rs := [.tmp 4]) [] rfl (.inl rfl) (RVs.tmp rfl RVs.nil) (List.sublist_append_left _ _) ⟨rfl, rfl, rfl⟩

noncomputable def whittleref10_Same_b1 (x0 : Nfa) (x1 : Nfa) (k111 : Nat) : Option ((Nat) ⊕ (Bool)) :=
  iteO (decide (((k111 : Nat) : Int) < ((x0.edges.length : Nat) : Int))) (grd (k111 < x1.edges.length) (iteO (decide (¬ ((nth x0.edges k111 Arrow.zero) = (nth x1.edges k111 Arrow.zero)))) (fin (some false)) (nxt (k111 + 1)))) (fin (some true))
noncomputable def whittleref10_Same (x0 : Nfa) (x1 : Nfa) : Option (Bool) :=
  iteO (decide (x0.states ≠ x1.states)) (some false) (bnd (whittleref02_Ints x0.starts x1.starts) (fun v14 => iteO (!v14) (some false) (bnd (whittleref02_Ints x0.ends x1.ends) (fun v22 => iteO (!v22) (some false) (iteO (decide (((x0.edges.length : Nat) : Int) ≠ ((x1.edges.length : Nat) : Int))) (some false) (iter (fun q : Nat => whittleref10_Same_b1 x0 x1 q) 0))))))
theorem whittleref10_Same_con {σ : Store} {x0 : Nfa} {a0_0 : Option Addr} {c0_0 : Nat} {a0_1 : Option Addr} {c0_1 : Nat} {a0_2 : Option Addr} {c0_2 : Nat} {x1 : Nfa} {a1_0 : Option Addr} {c1_0 : Nat} {a1_1 : Option Addr} {c1_1 : Nat} {a1_2 : Option Addr} {c1_2 : Nat} (f0_0 : RS σ 1 Go.E.encI (.slice a0_0 x0.starts.length c0_0) x0.starts) (f0_1 : RS σ 1 Go.E.encI (.slice a0_1 x0.ends.length c0_1) x0.ends) (f0_2 : RS σ 6 encE (.slice a0_2 x0.edges.length c0_2) x0.edges) (f1_0 : RS σ 1 Go.E.encI (.slice a1_0 x1.starts.length c1_0) x1.starts) (f1_1 : RS σ 1 Go.E.encI (.slice a1_1 x1.ends.length c1_1) x1.ends) (f1_2 : RS σ 6 encE (.slice a1_2 x1.edges.length c1_2) x1.edges) {r : Bool} (hh : whittleref10_Same x0 x1 = some r) :
    Con Tryz.prog 10 #[.agg #[.int .i64 x0.states, .slice a0_0 x0.starts.length c0_0, .slice a0_1 x0.ends.length c0_1, .slice a0_2 x0.edges.length c0_2], .agg #[.int .i64 x1.states, .slice a1_0 x1.starts.length c1_0, .slice a1_1 x1.ends.length c1_1, .slice a1_2 x1.edges.length c1_2]] σ [] (PureP (.bool r) σ) := by
  dsimp only [whittleref10_Same] at hh
  have f0_0b := f0_0.rv.big
  have f0_1b := f0_1.rv.big
  have f0_2b := f0_2.rv.big
  have f1_0b := f1_0.rv.big
  have f1_1b := f1_1.rv.big
  have f1_2b := f1_2.rv.big
  refine Con.mk (n := 54) Tryz.func10 rfl rfl rfl (fun w0 => ?_)
  refine TC.seq ?_
  refine TC.region ?_
  refine TL.op rfl (OpOk.boxA rfl rfl rfl rfl (fun b101 => ?_))
  refine TL.op rfl (OpOk.boxA rfl rfl rfl rfl (fun b103 => ?_))
  refine TL.v rfl (OpVal.moveB (.inr rfl) rfl) rfl rfl ?_
  refine TL.nil ?_
  refine S.n ?_
  refine TC.seq ?_
  refine TC.seq ?_
  refine TC.region ?_
  refine TL.v rfl (OpVal.fieldLoc rfl fo30_0 rfl) rfl rfl ?_
  refine TL.v rfl (OpVal.loadLoc rfl ag3 rfl (i := 1) rfl rfl) rfl rfl ?_
  refine TL.v rfl (OpVal.fieldLoc rfl fo30_0 rfl) rfl rfl ?_
  refine TL.v rfl (OpVal.loadLoc rfl ag3 rfl (i := 0) rfl rfl) rfl rfl ?_
  refine TL.v rfl (OpVal.neq rfl rfl rfl) rfl rfl ?_
  refine TL.v rfl (OpVal.moveB (.inl rfl) rfl) rfl rfl ?_
  refine TL.split 11 rfl (fun h105 => ?_) (fun h105 => ?_)
  · replace hh := iteO_t h105 hh
    replace h105 := of_decide_eq_true h105
    refine TL.goff rfl rfl rfl rfl rfl rfl rfl rfl ?_
    refine TL.goff rfl rfl rfl rfl rfl rfl rfl rfl ?_
    refine TL.goff rfl rfl rfl rfl rfl rfl rfl rfl ?_
    refine TL.goff rfl rfl rfl rfl rfl rfl rfl rfl ?_
    refine TL.goff rfl rfl rfl rfl rfl rfl rfl rfl ?_
    refine TL.goff rfl rfl rfl rfl rfl rfl rfl rfl ?_
    refine TL.v rfl (OpVal.pickTB rfl rfl rfl) rfl rfl ?_
    refine TL.v rfl (OpVal.moveB (.inl rfl) rfl) rfl rfl ?_
    refine TL.goff rfl rfl rfl rfl rfl rfl rfl rfl ?_
    refine TL.goff rfl rfl rfl rfl rfl rfl rfl rfl ?_
    refine TL.goff rfl rfl rfl rfl rfl rfl rfl rfl ?_
    refine TL.goff rfl rfl rfl rfl rfl rfl rfl rfl ?_
    refine TL.goff rfl rfl rfl rfl rfl rfl rfl rfl ?_
    refine TL.goff rfl rfl rfl rfl rfl rfl rfl rfl ?_
    refine TL.v rfl (OpVal.pickTB rfl rfl rfl) rfl rfl ?_
    refine TL.v rfl (OpVal.moveB (.inl rfl) rfl) rfl rfl ?_
    refine TL.goff rfl rfl rfl rfl rfl rfl rfl rfl ?_
    refine TL.goff rfl rfl rfl rfl rfl rfl rfl rfl ?_
    refine TL.goff rfl rfl rfl rfl rfl rfl rfl rfl ?_
    refine TL.goff rfl rfl rfl rfl rfl rfl rfl rfl ?_
    refine TL.goff rfl rfl rfl rfl rfl rfl rfl rfl ?_
    refine TL.goff rfl rfl rfl rfl rfl rfl rfl rfl ?_
    refine TL.goff rfl rfl rfl rfl rfl rfl rfl rfl ?_
    refine TL.v rfl (OpVal.pickTB rfl rfl rfl) rfl rfl ?_
    refine TL.nil ?_
    refine S.n ?_
    refine TC.cond rfl (fun _ => ?_) (fun h => Bool.noConfusion h)
    refine TC.seq ?_
    refine TC.region ?_
    refine TL.v rfl (OpVal.moveB (.inr rfl) rfl) rfl rfl ?_
    refine TL.nil ?_
    refine S.n ?_
    refine TC.ofSub (Sub.pre 0 rfl) ?_
    refine TC.ret ?_
    refine S.r ?_
    obtain rfl := Option.some.inj hh
    exact RetOk.mk' (rs := [.tmp 4]) [] rfl (.inl rfl) (RVs.tmp rfl RVs.nil) (List.sublist_append_left _ _) ⟨rfl, rfl, rfl⟩
  · replace hh := iteO_f h105 hh
    replace h105 := of_decide_eq_false h105
    refine TL.gv rfl rfl rfl rfl rfl (OpVal.fieldLoc rfl fo30_1 rfl) rfl rfl ?_
    refine TL.gv rfl rfl rfl rfl rfl (OpVal.loadLoc rfl ag27 rfl (i := 1) rfl rfl) rfl rfl ?_
    refine TL.gv rfl rfl rfl rfl rfl (OpVal.fieldLoc rfl fo30_1 rfl) rfl rfl ?_
    refine TL.gv rfl rfl rfl rfl rfl (OpVal.loadLoc rfl ag27 rfl (i := 0) rfl rfl) rfl rfl ?_
    obtain ⟨v14, u14, hh⟩ := bnd_e hh
    refine TL.gon rfl rfl rfl rfl rfl (OpOk.callP (whittleref02_Ints_con f0_0 f1_0 u14) rfl rfl pf26 rfl rfl rfl ?_)
    refine TL.gv rfl rfl rfl rfl rfl (OpVal.not rfl rfl) rfl rfl ?_
    refine TL.v rfl (OpVal.pickFB rfl rfl rfl) rfl rfl ?_
    refine TL.v rfl (OpVal.moveB (.inl rfl) rfl) rfl rfl ?_
    refine TL.split 19 rfl (fun h106 => ?_) (fun h106 => ?_)
    · replace hh := iteO_t h106 hh
      refine TL.goff rfl rfl rfl rfl rfl rfl rfl rfl ?_
      refine TL.goff rfl rfl rfl rfl rfl rfl rfl rfl ?_
      refine TL.goff rfl rfl rfl rfl rfl rfl rfl rfl ?_
      refine TL.goff rfl rfl rfl rfl rfl rfl rfl rfl ?_
      refine TL.goff rfl rfl rfl rfl rfl rfl rfl rfl ?_
      refine TL.goff rfl rfl rfl rfl rfl rfl rfl rfl ?_
      refine TL.v rfl (OpVal.pickTB rfl rfl rfl) rfl rfl ?_
      refine TL.v rfl (OpVal.moveB (.inl rfl) rfl) rfl rfl ?_
      refine TL.goff rfl rfl rfl rfl rfl rfl rfl rfl ?_
      refine TL.goff rfl rfl rfl rfl rfl rfl rfl rfl ?_
      refine TL.goff rfl rfl rfl rfl rfl rfl rfl rfl ?_
      refine TL.goff rfl rfl rfl rfl rfl rfl rfl rfl ?_
      refine TL.goff rfl rfl rfl rfl rfl rfl rfl rfl ?_
      refine TL.goff rfl rfl rfl rfl rfl rfl rfl rfl ?_
      refine TL.goff rfl rfl rfl rfl rfl rfl rfl rfl ?_
      refine TL.v rfl (OpVal.pickTB rfl rfl rfl) rfl rfl ?_
      refine TL.nil ?_
      refine S.n ?_
      refine TC.cond rfl (fun _ => ?_) (fun h => Bool.noConfusion h)
      refine TC.seq ?_
      refine TC.region ?_
      refine TL.v rfl (OpVal.moveB (.inr rfl) rfl) rfl rfl ?_
      refine TL.nil ?_
      refine S.n ?_
      refine TC.ofSub (Sub.pre 0 rfl) ?_
      refine TC.ret ?_
      refine S.r ?_
      obtain rfl := Option.some.inj hh
      exact RetOk.mk' (rs := [.tmp 4]) [] rfl (.inl rfl) (RVs.tmp rfl RVs.nil) (List.sublist_append_left _ _) ⟨rfl, rfl, rfl⟩
    · replace hh := iteO_f h106 hh
      refine TL.gv rfl rfl rfl rfl rfl (OpVal.fieldLoc rfl fo30_2 rfl) rfl rfl ?_
      refine TL.gv rfl rfl rfl rfl rfl (OpVal.loadLoc rfl ag27 rfl (i := 1) rfl rfl) rfl rfl ?_
      refine TL.gv rfl rfl rfl rfl rfl (OpVal.fieldLoc rfl fo30_2 rfl) rfl rfl ?_
      refine TL.gv rfl rfl rfl rfl rfl (OpVal.loadLoc rfl ag27 rfl (i := 0) rfl rfl) rfl rfl ?_
      obtain ⟨v22, u22, hh⟩ := bnd_e hh
      refine TL.gon rfl rfl rfl rfl rfl (OpOk.callP (whittleref02_Ints_con f0_1 f1_1 u22) rfl rfl pf26 rfl rfl rfl ?_)
      refine TL.gv rfl rfl rfl rfl rfl (OpVal.not rfl rfl) rfl rfl ?_
      refine TL.v rfl (OpVal.pickFB rfl rfl rfl) rfl rfl ?_
      refine TL.v rfl (OpVal.moveB (.inl rfl) rfl) rfl rfl ?_
      refine TL.split 27 rfl (fun h107 => ?_) (fun h107 => ?_)
      · replace hh := iteO_t h107 hh
        refine TL.goff rfl rfl rfl rfl rfl rfl rfl rfl ?_
        refine TL.goff rfl rfl rfl rfl rfl rfl rfl rfl ?_
        refine TL.goff rfl rfl rfl rfl rfl rfl rfl rfl ?_
        refine TL.goff rfl rfl rfl rfl rfl rfl rfl rfl ?_
        refine TL.goff rfl rfl rfl rfl rfl rfl rfl rfl ?_
        refine TL.goff rfl rfl rfl rfl rfl rfl rfl rfl ?_
        refine TL.goff rfl rfl rfl rfl rfl rfl rfl rfl ?_
        refine TL.v rfl (OpVal.pickTB rfl rfl rfl) rfl rfl ?_
        refine TL.nil ?_
        refine S.n ?_
        refine TC.cond rfl (fun _ => ?_) (fun h => Bool.noConfusion h)
        refine TC.seq ?_
        refine TC.region ?_
        refine TL.v rfl (OpVal.moveB (.inr rfl) rfl) rfl rfl ?_
        refine TL.nil ?_
        refine S.n ?_
        refine TC.ofSub (Sub.pre 0 rfl) ?_
        refine TC.ret ?_
        refine S.r ?_
        obtain rfl := Option.some.inj hh
        exact RetOk.mk' (rs := [.tmp 4]) [] rfl (.inl rfl) (RVs.tmp rfl RVs.nil) (List.sublist_append_left _ _) ⟨rfl, rfl, rfl⟩
      · replace hh := iteO_f h107 hh
        refine TL.gv rfl rfl rfl rfl rfl (OpVal.fieldLoc rfl fo30_3 rfl) rfl rfl ?_
        refine TL.gv rfl rfl rfl rfl rfl (OpVal.loadLoc rfl ag28 rfl (i := 1) rfl rfl) rfl rfl ?_
        refine TL.gv rfl rfl rfl rfl rfl (OpVal.lenC rfl Tryz.underlying28 rfl) rfl rfl ?_
        refine TL.gv rfl rfl rfl rfl rfl (OpVal.fieldLoc rfl fo30_3 rfl) rfl rfl ?_
        refine TL.gv rfl rfl rfl rfl rfl (OpVal.loadLoc rfl ag28 rfl (i := 0) rfl rfl) rfl rfl ?_
        refine TL.gv rfl rfl rfl rfl rfl (OpVal.lenC rfl Tryz.underlying28 rfl) rfl rfl ?_
        refine TL.gv rfl rfl rfl rfl rfl (OpVal.neq rfl rfl rfl) rfl rfl ?_
        refine TL.v rfl (OpVal.pickFB rfl rfl rfl) rfl rfl ?_
        refine TL.nil ?_
        refine S.n ?_
        refine TC.cond rfl (fun h108 => ?_) (fun h108 => ?_)
        · replace hh := iteO_t h108 hh
          replace h108 := of_decide_eq_true h108
          refine TC.seq ?_
          refine TC.region ?_
          refine TL.v rfl (OpVal.moveB (.inr rfl) rfl) rfl rfl ?_
          refine TL.nil ?_
          refine S.n ?_
          refine TC.ofSub (Sub.pre 0 rfl) ?_
          refine TC.ret ?_
          refine S.r ?_
          obtain rfl := Option.some.inj hh
          exact RetOk.mk' (rs := [.tmp 4]) [] rfl (.inl rfl) (RVs.tmp rfl RVs.nil) (List.sublist_append_left _ _) ⟨rfl, rfl, rfl⟩
        · replace hh := iteO_f h108 hh
          replace h108 := of_decide_eq_false h108
          refine TC.skip ?_
          refine S.n ?_
          refine TC.seq ?_
          refine TC.seq ?_
          refine TC.region ?_
          refine TL.v rfl (OpVal.moveI (.inr rfl) rfl) rfl rfl ?_
          refine TL.nil ?_
          refine S.n ?_
          refine TC.block ?_
          refine TC.loopG (α := (Nat) × (Unit)) [4, 5, 36, 37, 38, 39, 40, 41, 42, 43, 44, 45, 46, 47, 48, 49, 50, 51, 52, 53] (fun g => [(5, .int .i64 ((g.1 : Nat) : Int))]) (fun g => [Res.cells b101 #[.int .i64 x0.states, .slice a0_0 x0.starts.length c0_0, .slice a0_1 x0.ends.length c0_1, .slice a0_2 x0.edges.length c0_2] 30, Res.cells b103 #[.int .i64 x1.states, .slice a1_0 x1.starts.length c1_0, .slice a1_1 x1.ends.length c1_1, .slice a1_2 x1.edges.length c1_2] 30]) (fun g => σ) (fun g => iter (fun q : Nat => whittleref10_Same_b1 x0 x1 q) g.1 = some r) (fun g => rounds (fun q : Nat => whittleref10_Same_b1 x0 x1 q) g.1) (0, ()) (Sub.front 1 rfl rfl (Sub.pre 2 rfl)) rfl (by repeat (first | exact trivial | refine ⟨rfl, ?_⟩)) hh (fun g1 j1 hg1 => ?_)
          obtain ⟨k111, _⟩ := g1
          have hh := hg1; clear hg1
          show TC _ _ _ (upds (mask _ j1 _) [(5, .int .i64 ((k111 : Nat) : Int))]) _ [Res.cells b101 #[.int .i64 x0.states, .slice a0_0 x0.starts.length c0_0, .slice a0_1 x0.ends.length c0_1, .slice a0_2 x0.edges.length c0_2] 30, Res.cells b103 #[.int .i64 x1.states, .slice a1_0 x1.starts.length c1_0, .slice a1_1 x1.ends.length c1_1, .slice a1_2 x1.edges.length c1_2] 30]
          obtain ⟨z1, hh, hR1⟩ := iter_e hh
          dsimp only [whittleref10_Same_b1] at hh
          refine TC.seq ?_
          refine TC.seq ?_
          refine TC.region ?_
          refine TL.v rfl (OpVal.moveI (.inl rfl) rfl) rfl rfl ?_
          refine TL.v rfl (OpVal.fieldLoc rfl fo30_3 rfl) rfl rfl ?_
          refine TL.v rfl (OpVal.loadLoc rfl ag28 rfl (i := 0) rfl rfl) rfl rfl ?_
          refine TL.v rfl (OpVal.lenC rfl Tryz.underlying28 rfl) rfl rfl ?_
          refine TL.v rfl (OpVal.lss rfl rfl rfl) rfl rfl ?_
          refine TL.nil ?_
          refine S.n ?_
          refine TC.cond rfl (fun h112 => ?_) (fun h112 => ?_)
          · replace hh := iteO_t h112 hh
            replace h112 := of_decide_eq_true h112
            refine TC.skip ?_
            refine S.n ?_
            refine TC.seq ?_
            refine TC.block ?_
            refine TC.seq ?_
            have u49 := grd_c hh
            replace hh := grd_t hh
            refine TC.draw [] (by kernel_rfl) ?_
            refine TA.takeP 0 rfl (by kernel_rfl) (by kernel_rfl) (by kernel_rfl) rfl (OpVal.fieldLoc rfl fo30_3 rfl) rfl rfl ?_
            refine TA.take 1 rfl (by kernel_rfl) (by kernel_rfl) (by kernel_rfl) (by kernel_rfl) rfl (OpVal.loadLoc rfl ag28 rfl (i := 0) rfl rfl) rfl rfl ?_
            refine TA.takeP 2 rfl (by kernel_rfl) (by kernel_rfl) (by kernel_rfl) rfl (OpVal.moveI (.inl rfl) rfl) rfl rfl ?_
            refine TA.take 3 rfl (by kernel_rfl) (by kernel_rfl) (by kernel_rfl) (by kernel_rfl) rfl (OpVal.indexN rfl Tryz.underlying28 sz49 rfl rfl f0_2.rv.sl (by omega)) rfl rfl ?_
            refine TA.take 4 rfl (by kernel_rfl) (by kernel_rfl) (by kernel_rfl) (by kernel_rfl) rfl (OpVal.loadSA Arrow.zero rfl ag49 sz49 rfl f0_2 (by omega) (by omega)) rfl rfl ?_
            refine TA.takeP 5 rfl (by kernel_rfl) (by kernel_rfl) (by kernel_rfl) rfl (OpVal.fieldLoc rfl fo30_3 rfl) rfl rfl ?_
            refine TA.take 6 rfl (by kernel_rfl) (by kernel_rfl) (by kernel_rfl) (by kernel_rfl) rfl (OpVal.loadLoc rfl ag28 rfl (i := 1) rfl rfl) rfl rfl ?_
            refine TA.takeP 7 rfl (by kernel_rfl) (by kernel_rfl) (by kernel_rfl) rfl (OpVal.moveI (.inl rfl) rfl) rfl rfl ?_
            refine TA.take 8 rfl (by kernel_rfl) (by kernel_rfl) (by kernel_rfl) (by kernel_rfl) rfl (OpVal.indexN rfl Tryz.underlying28 sz49 rfl rfl f1_2.rv.sl (by omega)) rfl rfl ?_
            refine TA.take 9 rfl (by kernel_rfl) (by kernel_rfl) (by kernel_rfl) (by kernel_rfl) rfl (OpVal.loadSA Arrow.zero rfl ag49 sz49 rfl f1_2 (by omega) (by omega)) rfl rfl ?_
            refine TA.takeP 10 rfl (by kernel_rfl) (by kernel_rfl) (by kernel_rfl) rfl (OpVal.neqSt (p := (nth x0.edges k111 Arrow.zero) = (nth x1.edges k111 Arrow.zero)) rfl rfl rfl eg49 (es49 (nth x0.edges k111 Arrow.zero) (nth x1.edges k111 Arrow.zero)) rfl) rfl rfl ?_
            refine TA.done (by kernel_rfl) ?_
            refine S.n ?_
            refine TC.cond rfl (fun h113 => ?_) (fun h113 => ?_)
            · replace hh := iteO_t h113 hh
              replace h113 := of_decide_eq_true h113
              refine TC.seq ?_
              refine TC.region ?_
              refine TL.v rfl (OpVal.moveB (.inr rfl) rfl) rfl rfl ?_
              refine TL.nil ?_
              refine S.n ?_
              refine TC.ofSub (Sub.pre 0 rfl) ?_
              refine TC.ret ?_
              refine B.r ?_
              refine S.r ?_
              refine S.r ?_
              replace hh := fin_x hR1 hh
              refine B.r ?_
              refine S.r ?_
              obtain rfl := Option.some.inj hh
              exact RetOk.mk' (rs := [.tmp 4]) [] rfl (.inl rfl) (RVs.tmp rfl RVs.nil) (List.sublist_append_left _ _) ⟨rfl, rfl, rfl⟩
            · replace hh := iteO_f h113 hh
              replace h113 := of_decide_eq_false h113
              refine TC.skip ?_
              refine B.n ?_
              refine S.n ?_
              refine TC.region ?_
              refine TL.v rfl (OpVal.moveI (.inl rfl) rfl) rfl rfl ?_
              refine TL.v rfl (OpVal.succ rfl rfl rfl (by omega)) rfl rfl ?_
              refine TL.v rfl (OpVal.moveI (.inr rfl) rfl) rfl rfl ?_
              refine TL.nil ?_
              refine S.n ?_
              obtain ⟨hh, hlt114⟩ := nxt_x hR1 hh
              refine ⟨by repeat (first | exact Agr.refl _ _ | exact Agr.mask | refine Agr.upd rfl ?_ | refine Agr.maskIn rfl ?_ | refine Agr.upds rfl ?_), ((k111 + 1), ()), hlt114, hh, by repeat (first | exact trivial | refine ⟨rfl, ?_⟩), Sub.front 1 rfl rfl (Sub.front 1 rfl rfl (Sub.pre 2 rfl)), rfl⟩
          · replace hh := iteO_f h112 hh
            replace h112 := of_decide_eq_false h112
            refine TC.exit ?_
            refine S.x ?_
            refine S.x ?_
            replace hh := fin_x hR1 hh
            refine TC.exitHere ?_
            refine S.n ?_
            refine TC.seq ?_
            refine TC.region ?_
            refine TL.v rfl (OpVal.moveB (.inr rfl) rfl) rfl rfl ?_
            refine TL.nil ?_
            refine S.n ?_
            refine TC.ofSub (Sub.pre 0 rfl) ?_
            refine TC.ret ?_
            obtain rfl := Option.some.inj hh
            exact RetOk.mk' (rs := [.tmp 4]) [] rfl (.inl rfl) (RVs.tmp rfl RVs.nil) (List.sublist_append_left _ _) ⟨rfl, rfl, rfl⟩

noncomputable def whittlelaw15_FstMakes (x0 : Fst) : Option (Bool) :=
  bnd (whittleref15_Few x0) (fun v4 => iteO (!v4) (some true) (bnd (fst_In x0) (fun v8 => bnd (whittleref15_In x0) (fun v16 => bnd (fst_Sort x0) (fun v24 => bnd (whittleref15_Sort x0) (fun v32 => bnd (whittlelaw15_awake) (fun v39 => iteO v39 (bnd (whittleref10_Same v8.1 v16.1) (fun v43 => iteO v43 (iteO (decide (v8.2 = v16.2)) (bnd (whittleref15_Same v24.1 v32.1) (fun v53 => iteO v53 (some (decide (v24.2 = v32.2))) (some false))) (some false)) (some false))) (some false))))))))
theorem whittlelaw15_FstMakes_con {σ : Store} {x0 : Fst} {a0_0 : Option Addr} {c0_0 : Nat} {a0_1 : Option Addr} {c0_1 : Nat} {a0_2 : Option Addr} {c0_2 : Nat} (f0_0 : RS σ 2 encTip (.slice a0_0 x0.starts.length c0_0) x0.starts) (f0_1 : RS σ 2 encTip (.slice a0_1 x0.ends.length c0_1) x0.ends) (f0_2 : RS σ 8 encArc (.slice a0_2 x0.arcs.length c0_2) x0.arcs) {r : Bool} (hh : whittlelaw15_FstMakes x0 = some r) :
    Con Tryz.prog 3 #[.agg #[.int .i64 x0.states, .slice a0_0 x0.starts.length c0_0, .slice a0_1 x0.ends.length c0_1, .slice a0_2 x0.arcs.length c0_2]] σ [] (PureP (.bool r) σ) := by
  dsimp only [whittlelaw15_FstMakes] at hh
  have f0_0b := f0_0.rv.big
  have f0_1b := f0_1.rv.big
  have f0_2b := f0_2.rv.big
  refine Con.mk (n := 55) Tryz.func3 rfl rfl rfl (fun w0 => ?_)
  refine TC.seq ?_
  refine TC.region ?_
  refine TL.op rfl (OpOk.boxA rfl rfl rfl rfl (fun b101 => ?_))
  refine TL.v rfl (OpVal.moveB (.inr rfl) rfl) rfl rfl ?_
  refine TL.nil ?_
  refine S.n ?_
  refine TC.seq ?_
  refine TC.seq ?_
  refine TC.region ?_
  refine TL.v rfl (OpVal.loadAll rfl ag25 sz25 rfl (i := 0) rfl rfl) rfl rfl ?_
  obtain ⟨v4, u4, hh⟩ := bnd_e hh
  refine TL.op rfl (OpOk.callP (whittleref15_Few_con (x0 := x0) f0_0 f0_1 f0_2 u4) rfl rfl pf4 rfl rfl rfl ?_)
  refine TL.v rfl (OpVal.not rfl rfl) rfl rfl ?_
  refine TL.nil ?_
  refine S.n ?_
  refine TC.cond rfl (fun h103 => ?_) (fun h103 => ?_)
  · replace hh := iteO_t h103 hh
    refine TC.seq ?_
    refine TC.region ?_
    refine TL.v rfl (OpVal.moveB (.inr rfl) rfl) rfl rfl ?_
    refine TL.nil ?_
    refine S.n ?_
    refine TC.ofSub (Sub.pre 0 rfl) ?_
    refine TC.ret ?_
    refine S.r ?_
    obtain rfl := Option.some.inj hh
    exact RetOk.mk' (rs := [.tmp 2]) [] rfl (.inl rfl) (RVs.tmp rfl RVs.nil) (List.sublist_append_left _ _) ⟨rfl, rfl, rfl⟩
  · replace hh := iteO_f h103 hh
    refine TC.skip ?_
    refine S.n ?_
    refine TC.seq ?_
    refine TC.region ?_
    refine TL.v rfl (OpVal.loadAll rfl ag25 sz25 rfl (i := 0) rfl rfl) rfl rfl ?_
    obtain ⟨v8, u8, hh⟩ := bnd_e hh
    refine TL.op rfl (OpOk.call (fst_In_con (x0 := x0) f0_0 f0_1 f0_2 u8) rfl rfl pf5 rfl rfl rfl rfl ?_)
    rintro _ τ104 _ hle104 ⟨a104_1, c104_1, a104_2, c104_2, a104_3, c104_3, rfl, hr104_0, hr104_1, hr104_2, rfl⟩
    replace f0_0 := f0_0.mono hle104
    replace f0_1 := f0_1.mono hle104
    replace f0_2 := f0_2.mono hle104
    have hr104_0b := hr104_0.rv.big
    have hr104_1b := hr104_1.rv.big
    have hr104_2b := hr104_2.rv.big
    refine TL.v rfl (OpVal.moveT (.inl rfl) rfl) rfl rfl ?_
    refine TL.v rfl (OpVal.extract rfl rfl rfl) rfl rfl ?_
    refine TL.v rfl (OpVal.extract rfl rfl rfl) rfl rfl ?_
    refine TL.op rfl (OpOk.alloc rfl ze30 rfl rfl (fun b105 => ?_))
    refine TL.op rfl (OpOk.storeAll rfl sz30 rfl rfl rfl rfl rfl rfl ?_)
    refine TL.v rfl (OpVal.moveI (.inr rfl) rfl) rfl rfl ?_
    refine TL.nil ?_
    refine S.n ?_
    refine TC.seq ?_
    refine TC.region ?_
    refine TL.v rfl (OpVal.loadAll rfl ag25 sz25 rfl (i := 1) rfl rfl) rfl rfl ?_
    obtain ⟨v16, u16, hh⟩ := bnd_e hh
    refine TL.op rfl (OpOk.call (whittleref15_In_con (x0 := x0) f0_0 f0_1 f0_2 u16) rfl rfl pf6 rfl rfl rfl rfl ?_)
    rintro _ τ107 _ hle107 ⟨a107_1, c107_1, a107_2, c107_2, a107_3, c107_3, rfl, hr107_0, hr107_1, hr107_2, rfl⟩
    replace f0_0 := f0_0.mono hle107
    replace f0_1 := f0_1.mono hle107
    replace f0_2 := f0_2.mono hle107
    replace hr104_0 := hr104_0.mono hle107
    replace hr104_1 := hr104_1.mono hle107
    replace hr104_2 := hr104_2.mono hle107
    have hr107_0b := hr107_0.rv.big
    have hr107_1b := hr107_1.rv.big
    have hr107_2b := hr107_2.rv.big
    refine TL.v rfl (OpVal.moveT (.inl rfl) rfl) rfl rfl ?_
    refine TL.v rfl (OpVal.extract rfl rfl rfl) rfl rfl ?_
    refine TL.v rfl (OpVal.extract rfl rfl rfl) rfl rfl ?_
    refine TL.op rfl (OpOk.alloc rfl ze30 rfl rfl (fun b108 => ?_))
    refine TL.op rfl (OpOk.storeAll rfl sz30 rfl rfl rfl rfl rfl rfl ?_)
    refine TL.v rfl (OpVal.moveI (.inr rfl) rfl) rfl rfl ?_
    refine TL.nil ?_
    refine S.n ?_
    refine TC.seq ?_
    refine TC.region ?_
    refine TL.v rfl (OpVal.loadAll rfl ag25 sz25 rfl (i := 2) rfl rfl) rfl rfl ?_
    obtain ⟨v24, u24, hh⟩ := bnd_e hh
    refine TL.op rfl (OpOk.call (fst_Sort_con (x0 := x0) f0_0 f0_1 f0_2 u24) rfl rfl pf7 rfl rfl rfl rfl ?_)
    rintro _ τ110 _ hle110 ⟨a110_1, c110_1, a110_2, c110_2, a110_3, c110_3, rfl, hr110_0, hr110_1, hr110_2, rfl⟩
    replace f0_0 := f0_0.mono hle110
    replace f0_1 := f0_1.mono hle110
    replace f0_2 := f0_2.mono hle110
    replace hr104_0 := hr104_0.mono hle110
    replace hr104_1 := hr104_1.mono hle110
    replace hr104_2 := hr104_2.mono hle110
    replace hr107_0 := hr107_0.mono hle110
    replace hr107_1 := hr107_1.mono hle110
    replace hr107_2 := hr107_2.mono hle110
    have hr110_0b := hr110_0.rv.big
    have hr110_1b := hr110_1.rv.big
    have hr110_2b := hr110_2.rv.big
    refine TL.v rfl (OpVal.moveT (.inl rfl) rfl) rfl rfl ?_
    refine TL.v rfl (OpVal.extract rfl rfl rfl) rfl rfl ?_
    refine TL.v rfl (OpVal.extract rfl rfl rfl) rfl rfl ?_
    refine TL.op rfl (OpOk.alloc rfl ze25 rfl rfl (fun b111 => ?_))
    refine TL.op rfl (OpOk.storeAll rfl sz25 rfl rfl rfl rfl rfl rfl ?_)
    refine TL.v rfl (OpVal.moveI (.inr rfl) rfl) rfl rfl ?_
    refine TL.nil ?_
    refine S.n ?_
    refine TC.seq ?_
    refine TC.region ?_
    refine TL.v rfl (OpVal.loadAll rfl ag25 sz25 rfl (i := 3) rfl rfl) rfl rfl ?_
    obtain ⟨v32, u32, hh⟩ := bnd_e hh
    refine TL.op rfl (OpOk.call (whittleref15_Sort_con (x0 := x0) f0_0 f0_1 f0_2 u32) rfl rfl pf8 rfl rfl rfl rfl ?_)
    rintro _ τ113 _ hle113 ⟨a113_1, c113_1, a113_2, c113_2, a113_3, c113_3, rfl, hr113_0, hr113_1, hr113_2, rfl⟩
    replace f0_0 := f0_0.mono hle113
    replace f0_1 := f0_1.mono hle113
    replace f0_2 := f0_2.mono hle113
    replace hr104_0 := hr104_0.mono hle113
    replace hr104_1 := hr104_1.mono hle113
    replace hr104_2 := hr104_2.mono hle113
    replace hr107_0 := hr107_0.mono hle113
    replace hr107_1 := hr107_1.mono hle113
    replace hr107_2 := hr107_2.mono hle113
    replace hr110_0 := hr110_0.mono hle113
    replace hr110_1 := hr110_1.mono hle113
    replace hr110_2 := hr110_2.mono hle113
    have hr113_0b := hr113_0.rv.big
    have hr113_1b := hr113_1.rv.big
    have hr113_2b := hr113_2.rv.big
    refine TL.v rfl (OpVal.moveT (.inl rfl) rfl) rfl rfl ?_
    refine TL.v rfl (OpVal.extract rfl rfl rfl) rfl rfl ?_
    refine TL.v rfl (OpVal.extract rfl rfl rfl) rfl rfl ?_
    refine TL.op rfl (OpOk.alloc rfl ze25 rfl rfl (fun b114 => ?_))
    refine TL.op rfl (OpOk.storeAll rfl sz25 rfl rfl rfl rfl rfl rfl ?_)
    refine TL.v rfl (OpVal.moveI (.inr rfl) rfl) rfl rfl ?_
    refine TL.nil ?_
    refine S.n ?_
    refine TC.seq ?_
    refine TC.region ?_
    obtain ⟨v39, u39, hh⟩ := bnd_e hh
    refine TL.op rfl (OpOk.callP (whittlelaw15_awake_con u39) rfl rfl pf9 rfl rfl rfl ?_)
    refine TL.v rfl (OpVal.moveB (.inl rfl) rfl) rfl rfl ?_
    refine TL.split 35 rfl (fun h116 => ?_) (fun h116 => ?_)
    · replace hh := iteO_t h116 hh
      refine TL.gv rfl rfl rfl rfl rfl (OpVal.loadAll rfl ag30 sz30 rfl (i := 3) rfl rfl) rfl rfl ?_
      refine TL.gv rfl rfl rfl rfl rfl (OpVal.loadAll rfl ag30 sz30 rfl (i := 2) rfl rfl) rfl rfl ?_
      obtain ⟨v43, u43, hh⟩ := bnd_e hh
      refine TL.gon rfl rfl rfl rfl rfl (OpOk.callP (whittleref10_Same_con (x0 := v8.1) (x1 := v16.1) hr104_0 hr104_1 hr104_2 hr107_0 hr107_1 hr107_2 u43) rfl rfl pf10 rfl rfl rfl ?_)
      refine TL.v rfl (OpVal.pickTB rfl rfl rfl) rfl rfl ?_
      refine TL.v rfl (OpVal.moveB (.inl rfl) rfl) rfl rfl ?_
      refine TL.split 40 rfl (fun h117 => ?_) (fun h117 => ?_)
      · replace hh := iteO_t h117 hh
        refine TL.gv rfl rfl rfl rfl rfl (OpVal.moveI (.inl rfl) rfl) rfl rfl ?_
        refine TL.gv rfl rfl rfl rfl rfl (OpVal.moveI (.inl rfl) rfl) rfl rfl ?_
        refine TL.gv rfl rfl rfl rfl rfl (OpVal.eql rfl rfl rfl) rfl rfl ?_
        refine TL.v rfl (OpVal.pickTB rfl rfl rfl) rfl rfl ?_
        refine TL.v rfl (OpVal.moveB (.inl rfl) rfl) rfl rfl ?_
        refine TL.split 45 rfl (fun h118 => ?_) (fun h118 => ?_)
        · replace hh := iteO_t h118 hh
          replace h118 := of_decide_eq_true h118
          refine TL.gv rfl rfl rfl rfl rfl (OpVal.loadAll rfl ag25 sz25 rfl (i := 1) rfl rfl) rfl rfl ?_
          refine TL.gv rfl rfl rfl rfl rfl (OpVal.loadAll rfl ag25 sz25 rfl (i := 0) rfl rfl) rfl rfl ?_
          obtain ⟨v53, u53, hh⟩ := bnd_e hh
          refine TL.gon rfl rfl rfl rfl rfl (OpOk.callP (whittleref15_Same_con (x0 := v24.1) (x1 := v32.1) hr110_0 hr110_1 hr110_2 hr113_0 hr113_1 hr113_2 u53) rfl rfl pf11 rfl rfl rfl ?_)
          refine TL.v rfl (OpVal.pickTB rfl rfl rfl) rfl rfl ?_
          refine TL.v rfl (OpVal.moveB (.inl rfl) rfl) rfl rfl ?_
          refine TL.split 50 rfl (fun h119 => ?_) (fun h119 => ?_)
          · replace hh := iteO_t h119 hh
            refine TL.gv rfl rfl rfl rfl rfl (OpVal.moveI (.inl rfl) rfl) rfl rfl ?_
            refine TL.gv rfl rfl rfl rfl rfl (OpVal.moveI (.inl rfl) rfl) rfl rfl ?_
            refine TL.gv rfl rfl rfl rfl rfl (OpVal.eql rfl rfl rfl) rfl rfl ?_
            refine TL.v rfl (OpVal.pickTB rfl rfl rfl) rfl rfl ?_
            refine TL.v rfl (OpVal.moveB (.inr rfl) rfl) rfl rfl ?_
            refine TL.nil ?_
            refine S.n ?_
            refine TC.ofSub (Sub.pre 0 rfl) ?_
            refine TC.back ?_
            refine TC.ret ?_
            obtain rfl := Option.some.inj hh
            exact RetOk.mk' (rs := [.tmp 2]) [] rfl (.inl rfl) (RVs.tmp rfl RVs.nil) (List.sublist_append_left _ _) ⟨rfl, rfl, rfl⟩
          · replace hh := iteO_f h119 hh
            refine TL.goff rfl rfl rfl rfl rfl rfl rfl rfl ?_
            refine TL.goff rfl rfl rfl rfl rfl rfl rfl rfl ?_
            refine TL.goff rfl rfl rfl rfl rfl rfl rfl rfl ?_
            refine TL.v rfl (OpVal.pickFB rfl rfl rfl) rfl rfl ?_
            refine TL.v rfl (OpVal.moveB (.inr rfl) rfl) rfl rfl ?_
            refine TL.nil ?_
            refine S.n ?_
            refine TC.ofSub (Sub.pre 0 rfl) ?_
            refine TC.back ?_
            refine TC.ret ?_
            obtain rfl := Option.some.inj hh
            exact RetOk.mk' (rs := [.tmp 2]) [] rfl (.inl rfl) (RVs.tmp rfl RVs.nil) (List.sublist_append_left _ _) ⟨rfl, rfl, rfl⟩
        · replace hh := iteO_f h118 hh
          replace h118 := of_decide_eq_false h118
          refine TL.goff rfl rfl rfl rfl rfl rfl rfl rfl ?_
          refine TL.goff rfl rfl rfl rfl rfl rfl rfl rfl ?_
          refine TL.goff rfl rfl rfl rfl rfl rfl rfl rfl ?_
          refine TL.v rfl (OpVal.pickFB rfl rfl rfl) rfl rfl ?_
          refine TL.v rfl (OpVal.moveB (.inl rfl) rfl) rfl rfl ?_
          refine TL.goff rfl rfl rfl rfl rfl rfl rfl rfl ?_
          refine TL.goff rfl rfl rfl rfl rfl rfl rfl rfl ?_
          refine TL.goff rfl rfl rfl rfl rfl rfl rfl rfl ?_
          refine TL.v rfl (OpVal.pickFB rfl rfl rfl) rfl rfl ?_
          refine TL.v rfl (OpVal.moveB (.inr rfl) rfl) rfl rfl ?_
          refine TL.nil ?_
          refine S.n ?_
          refine TC.ofSub (Sub.pre 0 rfl) ?_
          refine TC.back ?_
          refine TC.ret ?_
          obtain rfl := Option.some.inj hh
          exact RetOk.mk' (rs := [.tmp 2]) [] rfl (.inl rfl) (RVs.tmp rfl RVs.nil) (List.sublist_append_left _ _) ⟨rfl, rfl, rfl⟩
      · replace hh := iteO_f h117 hh
        refine TL.goff rfl rfl rfl rfl rfl rfl rfl rfl ?_
        refine TL.goff rfl rfl rfl rfl rfl rfl rfl rfl ?_
        refine TL.goff rfl rfl rfl rfl rfl rfl rfl rfl ?_
        refine TL.v rfl (OpVal.pickFB rfl rfl rfl) rfl rfl ?_
        refine TL.v rfl (OpVal.moveB (.inl rfl) rfl) rfl rfl ?_
        refine TL.goff rfl rfl rfl rfl rfl rfl rfl rfl ?_
        refine TL.goff rfl rfl rfl rfl rfl rfl rfl rfl ?_
        refine TL.goff rfl rfl rfl rfl rfl rfl rfl rfl ?_
        refine TL.v rfl (OpVal.pickFB rfl rfl rfl) rfl rfl ?_
        refine TL.v rfl (OpVal.moveB (.inl rfl) rfl) rfl rfl ?_
        refine TL.goff rfl rfl rfl rfl rfl rfl rfl rfl ?_
        refine TL.goff rfl rfl rfl rfl rfl rfl rfl rfl ?_
        refine TL.goff rfl rfl rfl rfl rfl rfl rfl rfl ?_
        refine TL.v rfl (OpVal.pickFB rfl rfl rfl) rfl rfl ?_
        refine TL.v rfl (OpVal.moveB (.inr rfl) rfl) rfl rfl ?_
        refine TL.nil ?_
        refine S.n ?_
        refine TC.ofSub (Sub.pre 0 rfl) ?_
        refine TC.back ?_
        refine TC.ret ?_
        obtain rfl := Option.some.inj hh
        exact RetOk.mk' (rs := [.tmp 2]) [] rfl (.inl rfl) (RVs.tmp rfl RVs.nil) (List.sublist_append_left _ _) ⟨rfl, rfl, rfl⟩
    · replace hh := iteO_f h116 hh
      refine TL.goff rfl rfl rfl rfl rfl rfl rfl rfl ?_
      refine TL.goff rfl rfl rfl rfl rfl rfl rfl rfl ?_
      refine TL.goff rfl rfl rfl rfl rfl rfl rfl rfl ?_
      refine TL.v rfl (OpVal.pickFB rfl rfl rfl) rfl rfl ?_
      refine TL.v rfl (OpVal.moveB (.inl rfl) rfl) rfl rfl ?_
      refine TL.goff rfl rfl rfl rfl rfl rfl rfl rfl ?_
      refine TL.goff rfl rfl rfl rfl rfl rfl rfl rfl ?_
      refine TL.goff rfl rfl rfl rfl rfl rfl rfl rfl ?_
      refine TL.v rfl (OpVal.pickFB rfl rfl rfl) rfl rfl ?_
      refine TL.v rfl (OpVal.moveB (.inl rfl) rfl) rfl rfl ?_
      refine TL.goff rfl rfl rfl rfl rfl rfl rfl rfl ?_
      refine TL.goff rfl rfl rfl rfl rfl rfl rfl rfl ?_
      refine TL.goff rfl rfl rfl rfl rfl rfl rfl rfl ?_
      refine TL.v rfl (OpVal.pickFB rfl rfl rfl) rfl rfl ?_
      refine TL.v rfl (OpVal.moveB (.inl rfl) rfl) rfl rfl ?_
      refine TL.goff rfl rfl rfl rfl rfl rfl rfl rfl ?_
      refine TL.goff rfl rfl rfl rfl rfl rfl rfl rfl ?_
      refine TL.goff rfl rfl rfl rfl rfl rfl rfl rfl ?_
      refine TL.v rfl (OpVal.pickFB rfl rfl rfl) rfl rfl ?_
      refine TL.v rfl (OpVal.moveB (.inr rfl) rfl) rfl rfl ?_
      refine TL.nil ?_
      refine S.n ?_
      refine TC.ofSub (Sub.pre 0 rfl) ?_
      refine TC.back ?_
      refine TC.ret ?_
      obtain rfl := Option.some.inj hh
      exact RetOk.mk' (rs := [.tmp 2]) [] rfl (.inl rfl) (RVs.tmp rfl RVs.nil) (List.sublist_append_left _ _) ⟨rfl, rfl, rfl⟩

end Go.Proofs.YtpijipnmfkehcaaGreat
