/- Parts of a proof, one behind the other: what a machine reaches, functions decompiled, plain lemmas. Conditions stand with each lemma. -/
import Derived.Test.YtkphkabfolkhoaaDoorB17c4b35c52
import Derived.Test.YtkphkabfolkhoaaDoorB66367bb76d
import Derived.Test.YtkphkabfolkhoaaDoorB69ebaab8a1

/- S2 -/
section
/- Decompiled: where factors stand in a text. -/
set_option linter.unusedVariables false
set_option linter.unusedSimpArgs false
namespace Go.Proofs.YtkphkabfolkhoaaDoor
open Go Go.E
set_option maxRecDepth 100000
private theorem ag23 : Go.E.aggOf Tryd.prog 23 = some false := by kernel_rfl
private theorem ag24 : Go.E.aggOf Tryd.prog 24 = some false := by kernel_rfl
private theorem ag26 : Go.E.aggOf Tryd.prog 26 = some true := by kernel_rfl
private theorem ag69 : Go.E.aggOf Tryd.prog 69 = some false := by kernel_rfl
private theorem by43 : Go.E.byOf Tryd.prog 43 = some 16 := by kernel_rfl
private theorem fo26_0 : Go.E.foOf Tryd.prog 26 0 = some 0 := by kernel_rfl
private theorem fo26_1 : Go.E.foOf Tryd.prog 26 1 = some 1 := by kernel_rfl
private theorem fo26_2 : Go.E.foOf Tryd.prog 26 2 = some 2 := by kernel_rfl
private theorem pf14 : Go.E.plainF Tryd.prog 14 = true := by kernel_rfl
private theorem pf16 : Go.E.plainF Tryd.prog 16 = true := by kernel_rfl
private theorem pf21 : Go.E.plainF Tryd.prog 21 = true := by kernel_rfl
private theorem pf22 : Go.E.plainF Tryd.prog 22 = true := by kernel_rfl
private theorem pf23 : Go.E.plainF Tryd.prog 23 = true := by kernel_rfl
private theorem pf30 : Go.E.plainF Tryd.prog 30 = true := by kernel_rfl
private theorem pf31 : Go.E.plainF Tryd.prog 31 = true := by kernel_rfl
private theorem pf33 : Go.E.plainF Tryd.prog 33 = true := by kernel_rfl
private theorem pf34 : Go.E.plainF Tryd.prog 34 = true := by kernel_rfl
private theorem pf52 : Go.E.plainF Tryd.prog 52 = true := by kernel_rfl
private theorem pl43 : Go.E.plOf Tryd.prog 43 = some #[(0, 1), (1, 1)] := by kernel_rfl
private theorem sz22 : Go.E.szOf Tryd.prog 22 = some 1 := by kernel_rfl
private theorem sz24 : Go.E.szOf Tryd.prog 24 = some 1 := by kernel_rfl
private theorem sz26 : Go.E.szOf Tryd.prog 26 = some 3 := by kernel_rfl
private theorem sz43 : Go.E.szOf Tryd.prog 43 = some 2 := by kernel_rfl
private theorem ze24 : Go.E.zeroOf Tryd.prog 24 = some (.slice none 0 0) := by kernel_rfl
private theorem ze26 : Go.E.zeroOf Tryd.prog 26 = some (.agg #[.slice none 0 0, .slice none 0 0, .slice none 0 0]) := by kernel_rfl
private theorem ze43 : Go.E.zeroOf Tryd.prog 43 = some (.agg #[.int .i64 0, .int .i64 0]) := by kernel_rfl

noncomputable def scan_check_b1 (x1 : List Dfa) (x0 : List UInt8) (k103 : Nat) : Option ((Nat) ⊕ (Int)) :=
  iteO (decide (((k103 : Nat) : Int) < ((x1.length : Nat) : Int))) (bnd (dfa_Check (nth x1 k103 Dfa.zero)) (fun v11 => iteO (decide (v11 ≠ 0)) (fin (some 1)) (nxt (k103 + 1)))) (fin (iteO (decide (4096 < ((x0.length : Nat) : Int))) (some 2) (some 0)))
noncomputable def scan_check (x0 : List UInt8) (x1 : List Dfa) : Option (Int) :=
  grd (x0.length ≤ 281474976710656) (iter (fun q : Nat => scan_check_b1 x1 x0 q) 0)
theorem scan_check_con {σ : Store} {x0 : List UInt8} {x1 : List Dfa} {a1_0 : Option Addr} {c1_0 : Nat} (f1_0 : RZ σ pkDfa (.slice a1_0 x1.length c1_0) x1) {r : Int} (hh : scan_check x0 x1 = some r) :
    Con Tryd.prog 21 #[.string (bs x0), .slice a1_0 x1.length c1_0] σ [] (PureP (.int .i64 r) σ) := by
  dsimp only [scan_check] at hh
  have f1_0b := f1_0.big
  refine Con.mk (n := 20) Tryd.func21 rfl rfl rfl (fun w0 => ?_)
  have x0b := grd_c hh
  replace hh := grd_t hh
  refine TC.seq ?_
  refine TC.region ?_
  refine TL.v rfl (OpVal.moveI (.inr rfl) rfl) rfl rfl ?_
  refine TL.nil ?_
  refine S.n ?_
  refine TC.seq ?_
  refine TC.seq ?_
  refine TC.region ?_
  refine TL.v rfl (OpVal.moveSl (.inl rfl) rfl) rfl rfl ?_
  refine TL.v rfl (OpVal.lenC rfl Tryd.underlying72 rfl) rfl rfl ?_
  refine TL.v rfl (OpVal.moveI (.inl rfl) rfl) rfl rfl ?_
  refine TL.nil ?_
  refine S.n ?_
  refine TC.block ?_
  refine TC.loopG (α := (Nat) × (Unit)) [4, 6, 9, 10, 11, 12, 13, 14, 15, 16] (fun g => [(9, .int .i64 ((g.1 : Nat) : Int))]) (fun g => []) (fun g => σ) (fun g => iter (fun q : Nat => scan_check_b1 x1 x0 q) g.1 = some r) (fun g => rounds (fun q : Nat => scan_check_b1 x1 x0 q) g.1) (0, ()) (Sub.pre 0 rfl) rfl (by repeat (first | exact trivial | refine ⟨rfl, ?_⟩)) hh (fun g1 j1 hg1 => ?_)
  obtain ⟨k103, _⟩ := g1
  have hh := hg1; clear hg1
  show TC _ _ _ (upds (mask _ j1 _) [(9, .int .i64 ((k103 : Nat) : Int))]) _ []
  obtain ⟨z1, hh, hR1⟩ := iter_e hh
  dsimp only [scan_check_b1] at hh
  refine TC.seq ?_
  refine TC.region ?_
  refine TL.v rfl (OpVal.lss rfl rfl rfl) rfl rfl ?_
  refine TL.nil ?_
  refine S.n ?_
  refine TC.seq ?_
  refine TC.cond rfl (fun h104 => ?_) (fun h104 => ?_)
  · replace hh := iteO_t h104 hh
    replace h104 := of_decide_eq_true h104
    refine TC.skip ?_
    refine S.n ?_
    refine TC.seq ?_
    refine TC.block ?_
    refine TC.seq ?_
    refine TC.region ?_
    refine TL.v rfl (OpVal.indexN rfl Tryd.underlying72 sz26 rfl rfl f1_0.isSl (by omega)) rfl rfl ?_
    obtain ⟨p105, hk105, hg105⟩ := RZ.seg f1_0 k103 (by omega)
    replace hk105 : RDfa _ (nth x1 k103 Dfa.zero) p105 := hk105
    have hk105b := hk105.c.rv.big
    refine TL.v rfl (OpVal.loadSegA rfl ag26 sz26 rfl hg105 rfl) rfl rfl ?_
    refine TL.op rfl (OpOk.alloc rfl ze26 rfl rfl (fun b106 => ?_))
    refine TL.op rfl (OpOk.storeAll rfl sz26 rfl rfl rfl rfl rfl rfl ?_)
    refine TL.nil ?_
    refine S.n ?_
    refine TC.seq ?_
    refine TC.region ?_
    refine TL.v rfl (OpVal.loadAll rfl ag26 sz26 rfl (i := 0) rfl rfl) rfl rfl ?_
    obtain ⟨v11, u11, hh⟩ := bnd_e hh
    refine TL.op rfl (OpOk.callP (dfa_Check_con (x0 := (nth x1 k103 Dfa.zero)) hk105.c hk105.n hk105.e u11) rfl rfl pf30 rfl rfl rfl ?_)
    refine TL.v rfl (OpVal.neq rfl rfl rfl) rfl rfl ?_
    refine TL.nil ?_
    refine S.n ?_
    refine TC.cond rfl (fun h108 => ?_) (fun h108 => ?_)
    · replace hh := iteO_t h108 hh
      replace h108 := of_decide_eq_true h108
      refine TC.seq ?_
      refine TC.region ?_
      refine TL.v rfl (OpVal.moveI (.inr rfl) rfl) rfl rfl ?_
      refine TL.nil ?_
      refine S.n ?_
      refine TC.ofSub (Sub.pre 0 rfl) ?_
      refine TC.ret ?_
      refine B.r ?_
      refine S.r ?_
      refine S.r ?_
      replace hh := fin_x hR1 hh
      refine B.r ?_
      refine S.r ?_
      obtain rfl := Option.some.inj hh
      exact RetOk.mk' (rs := [.tmp 4]) [] rfl (.inl rfl) (RVs.tmp rfl RVs.nil) (List.sublist_append_left _ _) ⟨rfl, rfl, rfl⟩
    · replace hh := iteO_f h108 hh
      replace h108 := of_decide_eq_false h108
      refine TC.skip ?_
      refine B.n ?_
      refine S.n ?_
      refine TC.region ?_
      refine TL.v rfl (OpVal.succ rfl rfl rfl (by omega)) rfl rfl ?_
      refine TL.v rfl (OpVal.moveI (.inl rfl) rfl) rfl rfl ?_
      refine TL.nil ?_
      refine S.n ?_
      obtain ⟨hh, hlt109⟩ := nxt_x hR1 hh
      refine ⟨by repeat (first | exact Agr.refl _ _ | exact Agr.mask | refine Agr.upd rfl ?_ | refine Agr.maskIn rfl ?_ | refine Agr.upds rfl ?_), ((k103 + 1), ()), hlt109, hh, by repeat (first | exact trivial | refine ⟨rfl, ?_⟩), Sub.pre 0 rfl, rfl⟩
  · replace hh := iteO_f h104 hh
    replace h104 := of_decide_eq_false h104
    refine TC.exit ?_
    refine S.x ?_
    refine S.x ?_
    replace hh := fin_x hR1 hh
    refine TC.exitHere ?_
    refine S.n ?_
    refine TC.seq ?_
    refine TC.seq ?_
    refine TC.region ?_
    refine TL.v rfl (OpVal.moveStr (.inl rfl) rfl) rfl rfl ?_
    refine TL.v rfl (OpVal.lenBs rfl Tryd.underlying9 rfl) rfl rfl ?_
    refine TL.v rfl (OpVal.gtr rfl rfl rfl) rfl rfl ?_
    refine TL.nil ?_
    refine S.n ?_
    refine TC.cond rfl (fun h110 => ?_) (fun h110 => ?_)
    · replace hh := iteO_t h110 hh
      replace h110 := of_decide_eq_true h110
      refine TC.seq ?_
      refine TC.region ?_
      refine TL.v rfl (OpVal.moveI (.inr rfl) rfl) rfl rfl ?_
      refine TL.nil ?_
      refine S.n ?_
      refine TC.ret ?_
      refine S.r ?_
      obtain rfl := Option.some.inj hh
      exact RetOk.mk' (rs := [.tmp 4]) [] rfl (.inl rfl) (RVs.tmp rfl RVs.nil) (List.sublist_append_left _ _) ⟨rfl, rfl, rfl⟩
    · replace hh := iteO_f h110 hh
      replace h110 := of_decide_eq_false h110
      refine TC.skip ?_
      refine S.n ?_
      refine TC.seq ?_
      refine TC.region ?_
      refine TL.v rfl (OpVal.moveI (.inr rfl) rfl) rfl rfl ?_
      refine TL.nil ?_
      refine S.n ?_
      refine TC.ret ?_
      obtain rfl := Option.some.inj hh
      exact RetOk.mk' (rs := [.tmp 4]) [] rfl (.inl rfl) (RVs.tmp rfl RVs.nil) (List.sublist_append_left _ _) ⟨rfl, rfl, rfl⟩

noncomputable def scan_Longest_1 (x0 : Int) : Option (Bool) :=
  some true
theorem scan_Longest_1_con {σ : Store} {x0 : Int}  {r : Bool} (hh : scan_Longest_1 x0 = some r) :
    Con Tryd.prog 31 #[.int .i64 x0] σ [] (PureP (.bool r) σ) := by
  dsimp only [scan_Longest_1] at hh
  refine Con.mk (n := 3) Tryd.func31 rfl rfl rfl (fun w0 => ?_)
  refine TC.seq ?_
  refine TC.region ?_
  refine TL.v rfl (OpVal.moveB (.inr rfl) rfl) rfl rfl ?_
  refine TL.nil ?_
  refine S.n ?_
  refine TC.seq ?_
  refine TC.region ?_
  refine TL.v rfl (OpVal.moveB (.inr rfl) rfl) rfl rfl ?_
  refine TL.nil ?_
  refine S.n ?_
  refine TC.ret ?_
  obtain rfl := Option.some.inj hh
  exact RetOk.mk' (rs := [.tmp 2]) [] rfl (.inl rfl) (RVs.tmp rfl RVs.nil) (List.sublist_append_left _ _) ⟨rfl, rfl, rfl⟩

noncomputable def scan_Factors_1 (x0 : Int) (x1 : List Bool) : Option (Bool) :=
  grd (0 ≤ x0 ∧ x0 < (x1.length : Int)) (some (nth x1 x0.toNat false))
theorem scan_Factors_1_con {σ : Store} {x0 : Int} {x1 : List Bool} {b1_0 : Nat} {Eb1 : Nat} {a1_1 : Option Addr} {c1_2 : Nat} (f1_3 : RS σ 1 encB (.slice a1_1 x1.length c1_2) x1) {r : Bool} (hh : scan_Factors_1 x0 x1 = some r) :
    Con Tryd.prog 22 #[.int .i64 x0, loc b1_0 0] σ [Res.cells b1_0 #[.slice a1_1 x1.length c1_2] Eb1] (fun v σ' H' => v = .bool r ∧ σ = σ' ∧ H' = [Res.cells b1_0 #[.slice a1_1 x1.length c1_2] Eb1]) := by
  dsimp only [scan_Factors_1] at hh
  have f1_3b := f1_3.rv.big
  refine Con.mk (n := 8) Tryd.func22 rfl rfl rfl (fun w0 => ?_)
  refine TC.seq ?_
  refine TC.region ?_
  refine TL.v rfl (OpVal.moveB (.inr rfl) rfl) rfl rfl ?_
  refine TL.nil ?_
  refine S.n ?_
  refine TC.seq ?_
  refine TC.region ?_
  refine TL.v rfl (OpVal.loadLoc rfl ag24 rfl (i := 0) rfl rfl) rfl rfl ?_
  refine TL.v rfl (OpVal.moveI (.inl rfl) rfl) rfl rfl ?_
  have u4 := grd_c hh
  replace hh := grd_t hh
  refine TL.v rfl (OpVal.index rfl Tryd.underlying24 sz4 rfl rfl f1_3.rv.sl u4.1 u4.2) rfl rfl ?_
  refine TL.v rfl (OpVal.loadS1 false rfl ag4 rfl f1_3 (by omega) rfl) rfl rfl ?_
  refine TL.v rfl (OpVal.moveB (.inr rfl) rfl) rfl rfl ?_
  refine TL.nil ?_
  refine S.n ?_
  refine TC.ret ?_
  obtain rfl := Option.some.inj hh
  exact RetOk.mk' (rs := [.tmp 3]) [Res.cells b1_0 #[.slice a1_1 x1.length c1_2] Eb1] rfl (.inl rfl) (RVs.tmp rfl RVs.nil) (List.sublist_append_left _ _) ⟨rfl, rfl, rfl⟩

noncomputable def longestL_j1 (x0 : Dfa) (i110 : Int) (x1 : List UInt8) (i111 : Int) (i113 : Int) : Option ((Int × Int × Int) ⊕ (Int)) :=
  nxt (i113, (nth (nth x0.next i110.toNat ([] : List Int)) ((nth x0.cls ((nth x1 i111.toNat (0 : UInt8)).toNat) (0 : Int)).toNat) (0 : Int)), (IntKind.i64.wrap (i111 + 1)))
noncomputable def longestL_b1 (x1 : List UInt8) (x0 : Dfa) (i109 : Int) (i110 : Int) (i111 : Int) : Option ((Int × Int × Int) ⊕ (Int)) :=
  iteO (decide (i111 < ((x1.length : Nat) : Int))) (grd (0 ≤ i110 ∧ i110 < (x0.next.length : Int)) (grd (0 ≤ i111 ∧ i111 < (x1.length : Int)) (grd ((nth x1 i111.toNat (0 : UInt8)).toNat < x0.cls.length) (grd (0 ≤ (nth x0.cls ((nth x1 i111.toNat (0 : UInt8)).toNat) (0 : Int)) ∧ (nth x0.cls ((nth x1 i111.toNat (0 : UInt8)).toNat) (0 : Int)) < ((nth x0.next i110.toNat ([] : List Int)).length : Int)) (grd (0 ≤ (nth (nth x0.next i110.toNat ([] : List Int)) ((nth x0.cls ((nth x1 i111.toNat (0 : UInt8)).toNat) (0 : Int)).toNat) (0 : Int)) ∧ (nth (nth x0.next i110.toNat ([] : List Int)) ((nth x0.cls ((nth x1 i111.toNat (0 : UInt8)).toNat) (0 : Int)).toNat) (0 : Int)) < (x0.fin.length : Int)) (iteO (nth x0.fin ((nth (nth x0.next i110.toNat ([] : List Int)) ((nth x0.cls ((nth x1 i111.toNat (0 : UInt8)).toNat) (0 : Int)).toNat) (0 : Int)).toNat) false) (bnd (scan_Longest_1 (IntKind.i64.wrap (i111 + 1))) (fun v36 => iteO v36 (longestL_j1 x0 i110 x1 i111 (IntKind.i64.wrap (i111 + 1))) (longestL_j1 x0 i110 x1 i111 i109))) (longestL_j1 x0 i110 x1 i111 i109))))))) (fin (some i109))
noncomputable def longestL (x0 : Dfa) (x1 : List UInt8) (x2 : Int) : Option (Int) :=
  grd (x1.length ≤ 281474976710656) (iter (fun q : Int × Int × Int => longestL_b1 x1 x0 q.1 q.2.1 q.2.2) (x2, 0, x2))
theorem longestL_con {σ : Store} {x0 : Dfa} {a0_0 : Option Addr} {c0_0 : Nat} {a0_1 : Option Addr} {c0_1 : Nat} {a0_2 : Option Addr} {c0_2 : Nat} {x1 : List UInt8} {x2 : Int} (f0_0 : RS σ 1 Go.E.encI (.slice a0_0 x0.cls.length c0_0) x0.cls) (f0_1 : RZ σ (pkSl 1 Go.E.encI Go.E.encI_len) (.slice a0_1 x0.next.length c0_1) x0.next) (f0_2 : RS σ 1 encB (.slice a0_2 x0.fin.length c0_2) x0.fin) {r : Int} (hh : longestL x0 x1 x2 = some r) :
    Con Tryd.prog 23 #[.agg #[.slice a0_0 x0.cls.length c0_0, .slice a0_1 x0.next.length c0_1, .slice a0_2 x0.fin.length c0_2], .string (bs x1), .int .i64 x2, .func (.func 31) #[] #[]] σ [] (PureP (.int .i64 r) σ) := by
  dsimp only [longestL] at hh
  have f0_0b := f0_0.rv.big
  have f0_1b := f0_1.big
  have f0_2b := f0_2.rv.big
  refine Con.mk (n := 48) Tryd.func23 rfl rfl rfl (fun w0 => ?_)
  have x1b := grd_c hh
  replace hh := grd_t hh
  refine TC.seq ?_
  refine TC.region ?_
  refine TL.op rfl (OpOk.boxA rfl rfl rfl rfl (fun b101 => ?_))
  refine TL.v rfl (OpVal.moveI (.inr rfl) rfl) rfl rfl ?_
  refine TL.nil ?_
  refine S.n ?_
  refine TC.seq ?_
  refine TC.region ?_
  refine TL.v rfl (OpVal.moveI (.inl rfl) rfl) rfl rfl ?_
  refine TL.v rfl (OpVal.moveI (.inr rfl) rfl) rfl rfl ?_
  refine TL.v rfl (OpVal.moveI (.inr rfl) rfl) rfl rfl ?_
  refine TL.nil ?_
  refine S.n ?_
  refine TC.seq ?_
  refine TC.seq ?_
  refine TC.region ?_
  refine TL.v rfl (OpVal.moveI (.inl rfl) rfl) rfl rfl ?_
  refine TL.v rfl (OpVal.moveI (.inr rfl) rfl) rfl rfl ?_
  refine TL.nil ?_
  refine S.n ?_
  refine TC.block ?_
  refine TC.loopG (α := (Int × Int × Int) × (Unit)) [9, 10, 11, 14, 15, 16, 17, 18, 19, 20, 21, 22, 23, 24, 25, 26, 27, 28, 29, 30, 31, 32, 33, 34, 35, 36, 37, 38, 39, 40, 41, 42, 43, 44, 45, 46] (fun g => [(9, .int .i64 g.1.1), (10, .int .i64 g.1.2.1), (11, .int .i64 g.1.2.2)]) (fun g => [Res.cells b101 #[.slice a0_0 x0.cls.length c0_0, .slice a0_1 x0.next.length c0_1, .slice a0_2 x0.fin.length c0_2] 26]) (fun g => σ) (fun g => iter (fun q : Int × Int × Int => longestL_b1 x1 x0 q.1 q.2.1 q.2.2) g.1 = some r) (fun g => rounds (fun q : Int × Int × Int => longestL_b1 x1 x0 q.1 q.2.1 q.2.2) g.1) ((x2, 0, x2), ()) (Sub.pre 1 rfl) rfl (by repeat (first | exact trivial | refine ⟨rfl, ?_⟩)) hh (fun g1 j1 hg1 => ?_)
  obtain ⟨⟨i109, i110, i111⟩, _⟩ := g1
  have hh := hg1; clear hg1
  show TC _ _ _ (upds (mask _ j1 _) [(9, .int .i64 i109), (10, .int .i64 i110), (11, .int .i64 i111)]) _ [Res.cells b101 #[.slice a0_0 x0.cls.length c0_0, .slice a0_1 x0.next.length c0_1, .slice a0_2 x0.fin.length c0_2] 26]
  obtain ⟨z1, hh, hR1⟩ := iter_e hh
  dsimp only [longestL_b1] at hh
  refine TC.seq ?_
  refine TC.seq ?_
  refine TC.region ?_
  refine TL.v rfl (OpVal.moveI (.inl rfl) rfl) rfl rfl ?_
  refine TL.v rfl (OpVal.moveStr (.inl rfl) rfl) rfl rfl ?_
  refine TL.v rfl (OpVal.lenBs rfl Tryd.underlying9 rfl) rfl rfl ?_
  refine TL.v rfl (OpVal.lss rfl rfl rfl) rfl rfl ?_
  refine TL.nil ?_
  refine S.n ?_
  refine TC.cond rfl (fun h112 => ?_) (fun h112 => ?_)
  · replace hh := iteO_t h112 hh
    replace h112 := of_decide_eq_true h112
    refine TC.skip ?_
    refine S.n ?_
    refine TC.cutG (α := (Int) × (Unit)) [9, 10, 20, 21, 22, 23, 24, 25, 26, 27, 28, 29, 30, 31, 32, 33, 34, 35, 36, 37, 38, 39, 40, 41, 42, 43, 44, 45, 46] (fun g => [(9, .int .i64 g.1), (10, .int .i64 (nth (nth x0.next i110.toNat ([] : List Int)) ((nth x0.cls ((nth x1 i111.toNat (0 : UInt8)).toNat) (0 : Int)).toNat) (0 : Int)))]) (fun g => [Res.cells b101 #[.slice a0_0 x0.cls.length c0_0, .slice a0_1 x0.next.length c0_1, .slice a0_2 x0.fin.length c0_2] 26]) (fun g => σ) (fun g => longestL_j1 x0 i110 x1 i111 g.1 = some z1) ?_ (fun g j hg => ?_)
    · skip
      refine TC.block ?_
      refine TC.seq ?_
      have u15 := grd_c hh
      replace hh := grd_t hh
      have u21 := grd_c hh
      replace hh := grd_t hh
      have u22 := grd_c hh
      replace hh := grd_t hh
      have u24 := grd_c hh
      replace hh := grd_t hh
      refine TC.draw [] (by kernel_rfl) ?_
      refine TA.takeP 0 rfl (by kernel_rfl) (by kernel_rfl) (by kernel_rfl) rfl (OpVal.fieldLoc rfl fo26_1 rfl) rfl rfl ?_
      refine TA.take 1 rfl (by kernel_rfl) (by kernel_rfl) (by kernel_rfl) (by kernel_rfl) rfl (OpVal.loadLoc rfl ag23 rfl (i := 0) rfl rfl) rfl rfl ?_
      refine TA.takeP 2 rfl (by kernel_rfl) (by kernel_rfl) (by kernel_rfl) rfl (OpVal.moveI (.inl rfl) rfl) rfl rfl ?_
      refine TA.take 3 rfl (by kernel_rfl) (by kernel_rfl) (by kernel_rfl) (by kernel_rfl) rfl (OpVal.index rfl Tryd.underlying23 sz22 rfl rfl f0_1.isSl u15.1 u15.2) rfl rfl ?_
      obtain ⟨p115, hk115, hg115⟩ := RZ.seg f0_1 i110.toNat (by omega)
      replace hk115 : RS _ 1 Go.E.encI (.slice p115.1 (nth x0.next i110.toNat ([] : List Int)).length p115.2) (nth x0.next i110.toNat ([] : List Int)) := hk115
      have hk115b := hk115.rv.big
      refine TA.take 4 rfl (by kernel_rfl) (by kernel_rfl) (by kernel_rfl) (by kernel_rfl) rfl (OpVal.of (OpVal.loadSeg0 rfl ag22 rfl hg115 rfl) (v' := .slice p115.1 ((nth x0.next i110.toNat ([] : List Int)).length) p115.2) rfl) rfl rfl ?_
      refine TA.takeP 5 rfl (by kernel_rfl) (by kernel_rfl) (by kernel_rfl) rfl (OpVal.fieldLoc rfl fo26_0 rfl) rfl rfl ?_
      refine TA.take 6 rfl (by kernel_rfl) (by kernel_rfl) (by kernel_rfl) (by kernel_rfl) rfl (OpVal.loadLoc rfl ag22 rfl (i := 0) rfl rfl) rfl rfl ?_
      refine TA.takeP 7 rfl (by kernel_rfl) (by kernel_rfl) (by kernel_rfl) rfl (OpVal.moveStr (.inl rfl) rfl) rfl rfl ?_
      refine TA.takeP 8 rfl (by kernel_rfl) (by kernel_rfl) (by kernel_rfl) rfl (OpVal.moveI (.inl rfl) rfl) rfl rfl ?_
      refine TA.takeP 9 rfl (by kernel_rfl) (by kernel_rfl) (by kernel_rfl) rfl (OpVal.indexBsI rfl Tryd.underlying9 rfl rfl u21.1 u21.2) rfl rfl ?_
      refine TA.take 10 rfl (by kernel_rfl) (by kernel_rfl) (by kernel_rfl) (by kernel_rfl) rfl (OpVal.indexN rfl Tryd.underlying22 sz3 rfl rfl f0_0.rv.sl (by omega)) rfl rfl ?_
      refine TA.take 11 rfl (by kernel_rfl) (by kernel_rfl) (by kernel_rfl) (by kernel_rfl) rfl (OpVal.loadS1 (0 : Int) rfl ag3 rfl f0_0 (by omega) rfl) rfl rfl ?_
      refine TA.take 12 rfl (by kernel_rfl) (by kernel_rfl) (by kernel_rfl) (by kernel_rfl) rfl (OpVal.index rfl Tryd.underlying22 sz3 rfl rfl hk115.rv.sl u24.1 u24.2) rfl rfl ?_
      refine TA.take 13 rfl (by kernel_rfl) (by kernel_rfl) (by kernel_rfl) (by kernel_rfl) rfl (OpVal.loadS1 (0 : Int) rfl ag3 rfl hk115 (by omega) rfl) rfl rfl ?_
      refine TA.takeP 14 rfl (by kernel_rfl) (by kernel_rfl) (by kernel_rfl) rfl (OpVal.moveI (.inr rfl) rfl) rfl rfl ?_
      refine TA.done (by kernel_rfl) ?_
      refine S.n ?_
      refine TC.seq ?_
      refine TC.region ?_
      refine TL.v rfl (OpVal.fieldLoc rfl fo26_2 rfl) rfl rfl ?_
      refine TL.v rfl (OpVal.loadLoc rfl ag24 rfl (i := 0) rfl rfl) rfl rfl ?_
      refine TL.v rfl (OpVal.moveI (.inl rfl) rfl) rfl rfl ?_
      have u30 := grd_c hh
      replace hh := grd_t hh
      refine TL.v rfl (OpVal.index rfl Tryd.underlying24 sz4 rfl rfl f0_2.rv.sl u30.1 u30.2) rfl rfl ?_
      refine TL.v rfl (OpVal.loadS1 false rfl ag4 rfl f0_2 (by omega) rfl) rfl rfl ?_
      refine TL.v rfl (OpVal.moveB (.inl rfl) rfl) rfl rfl ?_
      refine TL.split 39 rfl (fun h116 => ?_) (fun h116 => ?_)
      · replace hh := iteO_t h116 hh
        refine TL.gv rfl rfl rfl rfl rfl (OpVal.moveFn (.inl rfl) rfl) rfl rfl ?_
        refine TL.gv rfl rfl rfl rfl rfl (OpVal.moveI (.inl rfl) rfl) rfl rfl ?_
        refine TL.gv rfl rfl rfl rfl rfl (OpVal.addW rfl rfl rfl) rfl rfl ?_
        obtain ⟨v36, u36, hh⟩ := bnd_e hh
        refine TL.gon rfl rfl rfl rfl rfl (OpOk.callP (scan_Longest_1_con u36) rfl rfl pf31 rfl rfl rfl ?_)
        refine TL.v rfl (OpVal.pickTB rfl rfl rfl) rfl rfl ?_
        refine TL.nil ?_
        refine S.n ?_
        refine TC.cond rfl (fun h117 => ?_) (fun h117 => ?_)
        · replace hh := iteO_t h117 hh
          refine TC.region ?_
          refine TL.v rfl (OpVal.moveI (.inl rfl) rfl) rfl rfl ?_
          refine TL.v rfl (OpVal.addW rfl rfl rfl) rfl rfl ?_
          refine TL.v rfl (OpVal.moveI (.inr rfl) rfl) rfl rfl ?_
          refine TL.nil ?_
          refine B.n ?_
          refine S.n ?_
          refine ⟨by repeat (first | exact Agr.refl _ _ | exact Agr.mask | refine Agr.upd rfl ?_ | refine Agr.maskIn rfl ?_ | refine Agr.upds rfl ?_), ((IntKind.i64.wrap (i111 + 1)), ()), hh, by repeat (first | exact trivial | refine ⟨rfl, ?_⟩), Sub.pre 1 rfl, rfl⟩
        · replace hh := iteO_f h117 hh
          refine TC.skip ?_
          refine B.n ?_
          refine S.n ?_
          refine ⟨by repeat (first | exact Agr.refl _ _ | exact Agr.mask | refine Agr.upd rfl ?_ | refine Agr.maskIn rfl ?_ | refine Agr.upds rfl ?_), (i109, ()), hh, by repeat (first | exact trivial | refine ⟨rfl, ?_⟩), Sub.pre 1 rfl, rfl⟩
      · replace hh := iteO_f h116 hh
        refine TL.goff rfl rfl rfl rfl rfl rfl rfl rfl ?_
        refine TL.goff rfl rfl rfl rfl rfl rfl rfl rfl ?_
        refine TL.goff rfl rfl rfl rfl rfl rfl rfl rfl ?_
        refine TL.goff rfl rfl rfl rfl rfl rfl rfl rfl ?_
        refine TL.v rfl (OpVal.pickFB rfl rfl rfl) rfl rfl ?_
        refine TL.nil ?_
        refine S.n ?_
        refine TC.cond rfl (fun h => Bool.noConfusion h) (fun _ => ?_)
        refine TC.skip ?_
        refine B.n ?_
        refine S.n ?_
        refine ⟨by repeat (first | exact Agr.refl _ _ | exact Agr.mask | refine Agr.upd rfl ?_ | refine Agr.maskIn rfl ?_ | refine Agr.upds rfl ?_), (i109, ()), hh, by repeat (first | exact trivial | refine ⟨rfl, ?_⟩), Sub.pre 1 rfl, rfl⟩
    · skip
      obtain ⟨i113, _⟩ := g
      have hh := hg; clear hg
      show TC _ _ _ (upds (mask _ j _) [(9, .int .i64 i113), (10, .int .i64 (nth (nth x0.next i110.toNat ([] : List Int)) ((nth x0.cls ((nth x1 i111.toNat (0 : UInt8)).toNat) (0 : Int)).toNat) (0 : Int)))]) _ [Res.cells b101 #[.slice a0_0 x0.cls.length c0_0, .slice a0_1 x0.next.length c0_1, .slice a0_2 x0.fin.length c0_2] 26]
      dsimp only [longestL_j1] at hh
      refine TC.region ?_
      refine TL.v rfl (OpVal.moveI (.inl rfl) rfl) rfl rfl ?_
      refine TL.v rfl (OpVal.addW rfl rfl rfl) rfl rfl ?_
      refine TL.v rfl (OpVal.moveI (.inr rfl) rfl) rfl rfl ?_
      refine TL.nil ?_
      refine S.n ?_
      obtain ⟨hh, hlt118⟩ := nxt_x hR1 hh
      refine ⟨by repeat (first | exact Agr.refl _ _ | exact Agr.mask | refine Agr.upd rfl ?_ | refine Agr.maskIn rfl ?_ | refine Agr.upds rfl ?_), ((i113, (nth (nth x0.next i110.toNat ([] : List Int)) ((nth x0.cls ((nth x1 i111.toNat (0 : UInt8)).toNat) (0 : Int)).toNat) (0 : Int)), (IntKind.i64.wrap (i111 + 1))), ()), hlt118, hh, by repeat (first | exact trivial | refine ⟨rfl, ?_⟩), Sub.pre 1 rfl, rfl⟩
  · replace hh := iteO_f h112 hh
    replace h112 := of_decide_eq_false h112
    refine TC.exit ?_
    refine S.x ?_
    refine S.x ?_
    replace hh := fin_x hR1 hh
    refine TC.exitHere ?_
    refine S.n ?_
    refine TC.seq ?_
    refine TC.region ?_
    refine TL.v rfl (OpVal.moveI (.inl rfl) rfl) rfl rfl ?_
    refine TL.v rfl (OpVal.moveI (.inr rfl) rfl) rfl rfl ?_
    refine TL.nil ?_
    refine S.n ?_
    refine TC.ofSub (Sub.pre 0 rfl) ?_
    refine TC.ret ?_
    obtain rfl := Option.some.inj hh
    exact RetOk.mk' (rs := [.tmp 8]) [] rfl (.inl rfl) (RVs.tmp rfl RVs.nil) (List.sublist_append_left _ _) ⟨rfl, rfl, rfl⟩

noncomputable def longestF_j1 (x0 : Dfa) (i112 : Int) (x1 : List UInt8) (i113 : Int) (i115 : Int) : Option ((Int × Int × Int) ⊕ (Int)) :=
  nxt (i115, (nth (nth x0.next i112.toNat ([] : List Int)) ((nth x0.cls ((nth x1 i113.toNat (0 : UInt8)).toNat) (0 : Int)).toNat) (0 : Int)), (IntKind.i64.wrap (i113 + 1)))
noncomputable def longestF_b1 (x1 : List UInt8) (x0 : Dfa) (x3_0 : List Bool) (i111 : Int) (i112 : Int) (i113 : Int) : Option ((Int × Int × Int) ⊕ (Int)) :=
  iteO (decide (i113 < ((x1.length : Nat) : Int))) (grd (0 ≤ i112 ∧ i112 < (x0.next.length : Int)) (grd (0 ≤ i113 ∧ i113 < (x1.length : Int)) (grd ((nth x1 i113.toNat (0 : UInt8)).toNat < x0.cls.length) (grd (0 ≤ (nth x0.cls ((nth x1 i113.toNat (0 : UInt8)).toNat) (0 : Int)) ∧ (nth x0.cls ((nth x1 i113.toNat (0 : UInt8)).toNat) (0 : Int)) < ((nth x0.next i112.toNat ([] : List Int)).length : Int)) (grd (0 ≤ (nth (nth x0.next i112.toNat ([] : List Int)) ((nth x0.cls ((nth x1 i113.toNat (0 : UInt8)).toNat) (0 : Int)).toNat) (0 : Int)) ∧ (nth (nth x0.next i112.toNat ([] : List Int)) ((nth x0.cls ((nth x1 i113.toNat (0 : UInt8)).toNat) (0 : Int)).toNat) (0 : Int)) < (x0.fin.length : Int)) (iteO (nth x0.fin ((nth (nth x0.next i112.toNat ([] : List Int)) ((nth x0.cls ((nth x1 i113.toNat (0 : UInt8)).toNat) (0 : Int)).toNat) (0 : Int)).toNat) false) (bnd (scan_Factors_1 (IntKind.i64.wrap (i113 + 1)) x3_0) (fun v36 => iteO v36 (longestF_j1 x0 i112 x1 i113 (IntKind.i64.wrap (i113 + 1))) (longestF_j1 x0 i112 x1 i113 i111))) (longestF_j1 x0 i112 x1 i113 i111))))))) (fin (some i111))
noncomputable def longestF (x0 : Dfa) (x1 : List UInt8) (x2 : Int) (x3_0 : List Bool) : Option (Int) :=
  grd (x1.length ≤ 281474976710656) (iter (fun q : Int × Int × Int => longestF_b1 x1 x0 x3_0 q.1 q.2.1 q.2.2) (x2, 0, x2))
theorem longestF_con {σ : Store} {x0 : Dfa} {a0_0 : Option Addr} {c0_0 : Nat} {a0_1 : Option Addr} {c0_1 : Nat} {a0_2 : Option Addr} {c0_2 : Nat} {x1 : List UInt8} {x2 : Int} {x3_0 : List Bool} {b3_0_0 : Nat} {Eb3_0 : Nat} {a3_0_1 : Option Addr} {c3_0_2 : Nat} (f0_0 : RS σ 1 Go.E.encI (.slice a0_0 x0.cls.length c0_0) x0.cls) (f0_1 : RZ σ (pkSl 1 Go.E.encI Go.E.encI_len) (.slice a0_1 x0.next.length c0_1) x0.next) (f0_2 : RS σ 1 encB (.slice a0_2 x0.fin.length c0_2) x0.fin) (f3_0_3 : RS σ 1 encB (.slice a3_0_1 x3_0.length c3_0_2) x3_0) {r : Int} (hh : longestF x0 x1 x2 x3_0 = some r) :
    Con Tryd.prog 23 #[.agg #[.slice a0_0 x0.cls.length c0_0, .slice a0_1 x0.next.length c0_1, .slice a0_2 x0.fin.length c0_2], .string (bs x1), .int .i64 x2, .func (.func 22) #[] #[loc b3_0_0 0]] σ [Res.cells b3_0_0 #[.slice a3_0_1 x3_0.length c3_0_2] Eb3_0] (fun v σ' H' => v = .int .i64 r ∧ σ = σ' ∧ H' = [Res.cells b3_0_0 #[.slice a3_0_1 x3_0.length c3_0_2] Eb3_0]) := by
  dsimp only [longestF] at hh
  have f0_0b := f0_0.rv.big
  have f0_1b := f0_1.big
  have f0_2b := f0_2.rv.big
  have f3_0_3b := f3_0_3.rv.big
  refine Con.mk (n := 48) Tryd.func23 rfl rfl rfl (fun w0 => ?_)
  have x1b := grd_c hh
  replace hh := grd_t hh
  refine TC.seq ?_
  refine TC.region ?_
  refine TL.op rfl (OpOk.boxA rfl rfl rfl rfl (fun b103 => ?_))
  refine TL.v rfl (OpVal.moveI (.inr rfl) rfl) rfl rfl ?_
  refine TL.nil ?_
  refine S.n ?_
  refine TC.seq ?_
  refine TC.region ?_
  refine TL.v rfl (OpVal.moveI (.inl rfl) rfl) rfl rfl ?_
  refine TL.v rfl (OpVal.moveI (.inr rfl) rfl) rfl rfl ?_
  refine TL.v rfl (OpVal.moveI (.inr rfl) rfl) rfl rfl ?_
  refine TL.nil ?_
  refine S.n ?_
  refine TC.seq ?_
  refine TC.seq ?_
  refine TC.region ?_
  refine TL.v rfl (OpVal.moveI (.inl rfl) rfl) rfl rfl ?_
  refine TL.v rfl (OpVal.moveI (.inr rfl) rfl) rfl rfl ?_
  refine TL.nil ?_
  refine S.n ?_
  refine TC.block ?_
  refine TC.loopG (α := (Int × Int × Int) × (Unit)) [9, 10, 11, 14, 15, 16, 17, 18, 19, 20, 21, 22, 23, 24, 25, 26, 27, 28, 29, 30, 31, 32, 33, 34, 35, 36, 37, 38, 39, 40, 41, 42, 43, 44, 45, 46] (fun g => [(9, .int .i64 g.1.1), (10, .int .i64 g.1.2.1), (11, .int .i64 g.1.2.2)]) (fun g => [Res.cells b3_0_0 #[.slice a3_0_1 x3_0.length c3_0_2] Eb3_0, Res.cells b103 #[.slice a0_0 x0.cls.length c0_0, .slice a0_1 x0.next.length c0_1, .slice a0_2 x0.fin.length c0_2] 26]) (fun g => σ) (fun g => iter (fun q : Int × Int × Int => longestF_b1 x1 x0 x3_0 q.1 q.2.1 q.2.2) g.1 = some r) (fun g => rounds (fun q : Int × Int × Int => longestF_b1 x1 x0 x3_0 q.1 q.2.1 q.2.2) g.1) ((x2, 0, x2), ()) (Sub.front 1 rfl rfl (Sub.pre 2 rfl)) rfl (by repeat (first | exact trivial | refine ⟨rfl, ?_⟩)) hh (fun g1 j1 hg1 => ?_)
  obtain ⟨⟨i111, i112, i113⟩, _⟩ := g1
  have hh := hg1; clear hg1
  show TC _ _ _ (upds (mask _ j1 _) [(9, .int .i64 i111), (10, .int .i64 i112), (11, .int .i64 i113)]) _ [Res.cells b3_0_0 #[.slice a3_0_1 x3_0.length c3_0_2] Eb3_0, Res.cells b103 #[.slice a0_0 x0.cls.length c0_0, .slice a0_1 x0.next.length c0_1, .slice a0_2 x0.fin.length c0_2] 26]
  obtain ⟨z1, hh, hR1⟩ := iter_e hh
  dsimp only [longestF_b1] at hh
  refine TC.seq ?_
  refine TC.seq ?_
  refine TC.region ?_
  refine TL.v rfl (OpVal.moveI (.inl rfl) rfl) rfl rfl ?_
  refine TL.v rfl (OpVal.moveStr (.inl rfl) rfl) rfl rfl ?_
  refine TL.v rfl (OpVal.lenBs rfl Tryd.underlying9 rfl) rfl rfl ?_
  refine TL.v rfl (OpVal.lss rfl rfl rfl) rfl rfl ?_
  refine TL.nil ?_
  refine S.n ?_
  refine TC.cond rfl (fun h114 => ?_) (fun h114 => ?_)
  · replace hh := iteO_t h114 hh
    replace h114 := of_decide_eq_true h114
    refine TC.skip ?_
    refine S.n ?_
    refine TC.cutG (α := (Int) × (Unit)) [9, 10, 20, 21, 22, 23, 24, 25, 26, 27, 28, 29, 30, 31, 32, 33, 34, 35, 36, 37, 38, 39, 40, 41, 42, 43, 44, 45, 46] (fun g => [(9, .int .i64 g.1), (10, .int .i64 (nth (nth x0.next i112.toNat ([] : List Int)) ((nth x0.cls ((nth x1 i113.toNat (0 : UInt8)).toNat) (0 : Int)).toNat) (0 : Int)))]) (fun g => [Res.cells b3_0_0 #[.slice a3_0_1 x3_0.length c3_0_2] Eb3_0, Res.cells b103 #[.slice a0_0 x0.cls.length c0_0, .slice a0_1 x0.next.length c0_1, .slice a0_2 x0.fin.length c0_2] 26]) (fun g => σ) (fun g => longestF_j1 x0 i112 x1 i113 g.1 = some z1) ?_ (fun g j hg => ?_)
    · skip
      refine TC.block ?_
      refine TC.seq ?_
      have u15 := grd_c hh
      replace hh := grd_t hh
      have u21 := grd_c hh
      replace hh := grd_t hh
      have u22 := grd_c hh
      replace hh := grd_t hh
      have u24 := grd_c hh
      replace hh := grd_t hh
      refine TC.draw [] (by kernel_rfl) ?_
      refine TA.takeP 0 rfl (by kernel_rfl) (by kernel_rfl) (by kernel_rfl) rfl (OpVal.fieldLoc rfl fo26_1 rfl) rfl rfl ?_
      refine TA.take 1 rfl (by kernel_rfl) (by kernel_rfl) (by kernel_rfl) (by kernel_rfl) rfl (OpVal.loadLoc rfl ag23 rfl (i := 1) rfl rfl) rfl rfl ?_
      refine TA.takeP 2 rfl (by kernel_rfl) (by kernel_rfl) (by kernel_rfl) rfl (OpVal.moveI (.inl rfl) rfl) rfl rfl ?_
      refine TA.take 3 rfl (by kernel_rfl) (by kernel_rfl) (by kernel_rfl) (by kernel_rfl) rfl (OpVal.index rfl Tryd.underlying23 sz22 rfl rfl f0_1.isSl u15.1 u15.2) rfl rfl ?_
      obtain ⟨p117, hk117, hg117⟩ := RZ.seg f0_1 i112.toNat (by omega)
      replace hk117 : RS _ 1 Go.E.encI (.slice p117.1 (nth x0.next i112.toNat ([] : List Int)).length p117.2) (nth x0.next i112.toNat ([] : List Int)) := hk117
      have hk117b := hk117.rv.big
      refine TA.take 4 rfl (by kernel_rfl) (by kernel_rfl) (by kernel_rfl) (by kernel_rfl) rfl (OpVal.of (OpVal.loadSeg0 rfl ag22 rfl hg117 rfl) (v' := .slice p117.1 ((nth x0.next i112.toNat ([] : List Int)).length) p117.2) rfl) rfl rfl ?_
      refine TA.takeP 5 rfl (by kernel_rfl) (by kernel_rfl) (by kernel_rfl) rfl (OpVal.fieldLoc rfl fo26_0 rfl) rfl rfl ?_
      refine TA.take 6 rfl (by kernel_rfl) (by kernel_rfl) (by kernel_rfl) (by kernel_rfl) rfl (OpVal.loadLoc rfl ag22 rfl (i := 1) rfl rfl) rfl rfl ?_
      refine TA.takeP 7 rfl (by kernel_rfl) (by kernel_rfl) (by kernel_rfl) rfl (OpVal.moveStr (.inl rfl) rfl) rfl rfl ?_
      refine TA.takeP 8 rfl (by kernel_rfl) (by kernel_rfl) (by kernel_rfl) rfl (OpVal.moveI (.inl rfl) rfl) rfl rfl ?_
      refine TA.takeP 9 rfl (by kernel_rfl) (by kernel_rfl) (by kernel_rfl) rfl (OpVal.indexBsI rfl Tryd.underlying9 rfl rfl u21.1 u21.2) rfl rfl ?_
      refine TA.take 10 rfl (by kernel_rfl) (by kernel_rfl) (by kernel_rfl) (by kernel_rfl) rfl (OpVal.indexN rfl Tryd.underlying22 sz3 rfl rfl f0_0.rv.sl (by omega)) rfl rfl ?_
      refine TA.take 11 rfl (by kernel_rfl) (by kernel_rfl) (by kernel_rfl) (by kernel_rfl) rfl (OpVal.loadS1 (0 : Int) rfl ag3 rfl f0_0 (by omega) rfl) rfl rfl ?_
      refine TA.take 12 rfl (by kernel_rfl) (by kernel_rfl) (by kernel_rfl) (by kernel_rfl) rfl (OpVal.index rfl Tryd.underlying22 sz3 rfl rfl hk117.rv.sl u24.1 u24.2) rfl rfl ?_
      refine TA.take 13 rfl (by kernel_rfl) (by kernel_rfl) (by kernel_rfl) (by kernel_rfl) rfl (OpVal.loadS1 (0 : Int) rfl ag3 rfl hk117 (by omega) rfl) rfl rfl ?_
      refine TA.takeP 14 rfl (by kernel_rfl) (by kernel_rfl) (by kernel_rfl) rfl (OpVal.moveI (.inr rfl) rfl) rfl rfl ?_
      refine TA.done (by kernel_rfl) ?_
      refine S.n ?_
      refine TC.seq ?_
      refine TC.region ?_
      refine TL.v rfl (OpVal.fieldLoc rfl fo26_2 rfl) rfl rfl ?_
      refine TL.v rfl (OpVal.loadLoc rfl ag24 rfl (i := 1) rfl rfl) rfl rfl ?_
      refine TL.v rfl (OpVal.moveI (.inl rfl) rfl) rfl rfl ?_
      have u30 := grd_c hh
      replace hh := grd_t hh
      refine TL.v rfl (OpVal.index rfl Tryd.underlying24 sz4 rfl rfl f0_2.rv.sl u30.1 u30.2) rfl rfl ?_
      refine TL.v rfl (OpVal.loadS1 false rfl ag4 rfl f0_2 (by omega) rfl) rfl rfl ?_
      refine TL.v rfl (OpVal.moveB (.inl rfl) rfl) rfl rfl ?_
      refine TL.split 39 rfl (fun h118 => ?_) (fun h118 => ?_)
      · replace hh := iteO_t h118 hh
        refine TL.gv rfl rfl rfl rfl rfl (OpVal.moveFn (.inl rfl) rfl) rfl rfl ?_
        refine TL.gv rfl rfl rfl rfl rfl (OpVal.moveI (.inl rfl) rfl) rfl rfl ?_
        refine TL.gv rfl rfl rfl rfl rfl (OpVal.addW rfl rfl rfl) rfl rfl ?_
        obtain ⟨v36, u36, hh⟩ := bnd_e hh
        refine TL.gon rfl rfl rfl rfl rfl (OpOk.call (scan_Factors_1_con f3_0_3 u36) rfl rfl pf22 rfl rfl rfl rfl ?_)
        rintro _ _ _ hle119 ⟨rfl, rfl, rfl⟩
        refine TL.v rfl (OpVal.pickTB rfl rfl rfl) rfl rfl ?_
        refine TL.nil ?_
        refine S.n ?_
        refine TC.cond rfl (fun h120 => ?_) (fun h120 => ?_)
        · replace hh := iteO_t h120 hh
          refine TC.region ?_
          refine TL.v rfl (OpVal.moveI (.inl rfl) rfl) rfl rfl ?_
          refine TL.v rfl (OpVal.addW rfl rfl rfl) rfl rfl ?_
          refine TL.v rfl (OpVal.moveI (.inr rfl) rfl) rfl rfl ?_
          refine TL.nil ?_
          refine B.n ?_
          refine S.n ?_
          refine ⟨by repeat (first | exact Agr.refl _ _ | exact Agr.mask | refine Agr.upd rfl ?_ | refine Agr.maskIn rfl ?_ | refine Agr.upds rfl ?_), ((IntKind.i64.wrap (i113 + 1)), ()), hh, by repeat (first | exact trivial | refine ⟨rfl, ?_⟩), Sub.front 1 rfl rfl (Sub.front 1 rfl rfl (Sub.pre 2 rfl)), rfl⟩
        · replace hh := iteO_f h120 hh
          refine TC.skip ?_
          refine B.n ?_
          refine S.n ?_
          refine ⟨by repeat (first | exact Agr.refl _ _ | exact Agr.mask | refine Agr.upd rfl ?_ | refine Agr.maskIn rfl ?_ | refine Agr.upds rfl ?_), (i111, ()), hh, by repeat (first | exact trivial | refine ⟨rfl, ?_⟩), Sub.front 1 rfl rfl (Sub.front 1 rfl rfl (Sub.pre 2 rfl)), rfl⟩
      · replace hh := iteO_f h118 hh
        refine TL.goff rfl rfl rfl rfl rfl rfl rfl rfl ?_
        refine TL.goff rfl rfl rfl rfl rfl rfl rfl rfl ?_
        refine TL.goff rfl rfl rfl rfl rfl rfl rfl rfl ?_
        refine TL.goff rfl rfl rfl rfl rfl rfl rfl rfl ?_
        refine TL.v rfl (OpVal.pickFB rfl rfl rfl) rfl rfl ?_
        refine TL.nil ?_
        refine S.n ?_
        refine TC.cond rfl (fun h => Bool.noConfusion h) (fun _ => ?_)
        refine TC.skip ?_
        refine B.n ?_
        refine S.n ?_
        refine ⟨by repeat (first | exact Agr.refl _ _ | exact Agr.mask | refine Agr.upd rfl ?_ | refine Agr.maskIn rfl ?_ | refine Agr.upds rfl ?_), (i111, ()), hh, by repeat (first | exact trivial | refine ⟨rfl, ?_⟩), Sub.front 1 rfl rfl (Sub.front 1 rfl rfl (Sub.pre 2 rfl)), rfl⟩
    · skip
      obtain ⟨i115, _⟩ := g
      have hh := hg; clear hg
      show TC _ _ _ (upds (mask _ j _) [(9, .int .i64 i115), (10, .int .i64 (nth (nth x0.next i112.toNat ([] : List Int)) ((nth x0.cls ((nth x1 i113.toNat (0 : UInt8)).toNat) (0 : Int)).toNat) (0 : Int)))]) _ [Res.cells b3_0_0 #[.slice a3_0_1 x3_0.length c3_0_2] Eb3_0, Res.cells b103 #[.slice a0_0 x0.cls.length c0_0, .slice a0_1 x0.next.length c0_1, .slice a0_2 x0.fin.length c0_2] 26]
      dsimp only [longestF_j1] at hh
      refine TC.region ?_
      refine TL.v rfl (OpVal.moveI (.inl rfl) rfl) rfl rfl ?_
      refine TL.v rfl (OpVal.addW rfl rfl rfl) rfl rfl ?_
      refine TL.v rfl (OpVal.moveI (.inr rfl) rfl) rfl rfl ?_
      refine TL.nil ?_
      refine S.n ?_
      obtain ⟨hh, hlt121⟩ := nxt_x hR1 hh
      refine ⟨by repeat (first | exact Agr.refl _ _ | exact Agr.mask | refine Agr.upd rfl ?_ | refine Agr.maskIn rfl ?_ | refine Agr.upds rfl ?_), ((i115, (nth (nth x0.next i112.toNat ([] : List Int)) ((nth x0.cls ((nth x1 i113.toNat (0 : UInt8)).toNat) (0 : Int)).toNat) (0 : Int)), (IntKind.i64.wrap (i113 + 1))), ()), hlt121, hh, by repeat (first | exact trivial | refine ⟨rfl, ?_⟩), Sub.front 1 rfl rfl (Sub.front 1 rfl rfl (Sub.pre 2 rfl)), rfl⟩
  · replace hh := iteO_f h114 hh
    replace h114 := of_decide_eq_false h114
    refine TC.exit ?_
    refine S.x ?_
    refine S.x ?_
    replace hh := fin_x hR1 hh
    refine TC.exitHere ?_
    refine S.n ?_
    refine TC.seq ?_
    refine TC.region ?_
    refine TL.v rfl (OpVal.moveI (.inl rfl) rfl) rfl rfl ?_
    refine TL.v rfl (OpVal.moveI (.inr rfl) rfl) rfl rfl ?_
    refine TL.nil ?_
    refine S.n ?_
    refine TC.ofSub (Sub.pre 1 rfl) ?_
    refine TC.ret ?_
    obtain rfl := Option.some.inj hh
    exact RetOk.mk' (rs := [.tmp 8]) [Res.cells b3_0_0 #[.slice a3_0_1 x3_0.length c3_0_2] Eb3_0] rfl (.inl rfl) (RVs.tmp rfl RVs.nil) (List.sublist_append_left _ _) ⟨rfl, rfl, rfl⟩

noncomputable def scan_Longest (x0 : Dfa) (x1 : List UInt8) (x2 : Int) : Option (Int × Bool × Int) :=
  grd (x1.length ≤ 281474976710656) (bnd (dfa_Check x0) (fun v6 => iteO (decide (v6 ≠ 0)) (some (0, false, 1)) (iteO (decide (x2 < 0)) (some (0, false, 1)) (iteO (decide (((x1.length : Nat) : Int) < x2)) (some (0, false, 1)) (bnd (scan_check x1 ([] : List Dfa)) (fun v22 => iteO (decide (v22 ≠ 0)) (some (0, false, v22)) (bnd (longestL x0 x1 x2) (fun v33 => iteO (decide (v33 = x2)) (some (0, false, 0)) (some (v33, true, 0))))))))))
theorem scan_Longest_con {σ : Store} {x0 : Dfa} {a0_0 : Option Addr} {c0_0 : Nat} {a0_1 : Option Addr} {c0_1 : Nat} {a0_2 : Option Addr} {c0_2 : Nat} {x1 : List UInt8} {x2 : Int} (f0_0 : RS σ 1 Go.E.encI (.slice a0_0 x0.cls.length c0_0) x0.cls) (f0_1 : RZ σ (pkSl 1 Go.E.encI Go.E.encI_len) (.slice a0_1 x0.next.length c0_1) x0.next) (f0_2 : RS σ 1 encB (.slice a0_2 x0.fin.length c0_2) x0.fin) {r : Int × Bool × Int} (hh : scan_Longest x0 x1 x2 = some r) :
    Con Tryd.prog 12 #[.agg #[.slice a0_0 x0.cls.length c0_0, .slice a0_1 x0.next.length c0_1, .slice a0_2 x0.fin.length c0_2], .string (bs x1), .int .i64 x2] σ [] (PureP (.tuple #[.int .i64 r.1, .bool r.2.1, .int .i64 r.2.2]) σ) := by
  dsimp only [scan_Longest] at hh
  have f0_0b := f0_0.rv.big
  have f0_1b := f0_1.big
  have f0_2b := f0_2.rv.big
  refine Con.mk (n := 37) Tryd.func12 rfl rfl rfl (fun w0 => ?_)
  have x1b := grd_c hh
  replace hh := grd_t hh
  refine TC.seq ?_
  refine TC.region ?_
  refine TL.op rfl (OpOk.boxA rfl rfl rfl rfl (fun b101 => ?_))
  refine TL.v rfl (OpVal.moveI (.inr rfl) rfl) rfl rfl ?_
  refine TL.v rfl (OpVal.moveB (.inr rfl) rfl) rfl rfl ?_
  refine TL.v rfl (OpVal.moveI (.inr rfl) rfl) rfl rfl ?_
  refine TL.nil ?_
  refine S.n ?_
  refine TC.seq ?_
  refine TC.seq ?_
  refine TC.region ?_
  refine TL.v rfl (OpVal.loadAll rfl ag26 sz26 rfl (i := 0) rfl rfl) rfl rfl ?_
  obtain ⟨v6, u6, hh⟩ := bnd_e hh
  refine TL.op rfl (OpOk.callP (dfa_Check_con (x0 := x0) f0_0 f0_1 f0_2 u6) rfl rfl pf30 rfl rfl rfl ?_)
  refine TL.v rfl (OpVal.neq rfl rfl rfl) rfl rfl ?_
  refine TL.v rfl (OpVal.moveB (.inl rfl) rfl) rfl rfl ?_
  refine TL.split 14 rfl (fun h103 => ?_) (fun h103 => ?_)
  · replace hh := iteO_t h103 hh
    replace h103 := of_decide_eq_true h103
    refine TL.goff rfl rfl rfl rfl rfl rfl rfl rfl ?_
    refine TL.goff rfl rfl rfl rfl rfl rfl rfl rfl ?_
    refine TL.v rfl (OpVal.pickTB rfl rfl rfl) rfl rfl ?_
    refine TL.v rfl (OpVal.moveB (.inl rfl) rfl) rfl rfl ?_
    refine TL.goff rfl rfl rfl rfl rfl rfl rfl rfl ?_
    refine TL.goff rfl rfl rfl rfl rfl rfl rfl rfl ?_
    refine TL.goff rfl rfl rfl rfl rfl rfl rfl rfl ?_
    refine TL.goff rfl rfl rfl rfl rfl rfl rfl rfl ?_
    refine TL.v rfl (OpVal.pickTB rfl rfl rfl) rfl rfl ?_
    refine TL.nil ?_
    refine S.n ?_
    refine TC.cond rfl (fun _ => ?_) (fun h => Bool.noConfusion h)
    refine TC.seq ?_
    refine TC.region ?_
    refine TL.v rfl (OpVal.moveI (.inr rfl) rfl) rfl rfl ?_
    refine TL.v rfl (OpVal.moveB (.inr rfl) rfl) rfl rfl ?_
    refine TL.v rfl (OpVal.moveI (.inr rfl) rfl) rfl rfl ?_
    refine TL.nil ?_
    refine S.n ?_
    refine TC.ofSub (Sub.pre 0 rfl) ?_
    refine TC.ret ?_
    refine S.r ?_
    obtain rfl := Option.some.inj hh
    exact RetOk.mk' (rs := [.tmp 6, .tmp 7, .tmp 8]) [] rfl (.inl rfl) (RVs.tmp rfl (RVs.tmp rfl (RVs.tmp rfl RVs.nil))) (List.sublist_append_left _ _) ⟨rfl, rfl, rfl⟩
  · replace hh := iteO_f h103 hh
    replace h103 := of_decide_eq_false h103
    refine TL.gv rfl rfl rfl rfl rfl (OpVal.moveI (.inl rfl) rfl) rfl rfl ?_
    refine TL.gv rfl rfl rfl rfl rfl (OpVal.lss rfl rfl rfl) rfl rfl ?_
    refine TL.v rfl (OpVal.pickFB rfl rfl rfl) rfl rfl ?_
    refine TL.v rfl (OpVal.moveB (.inl rfl) rfl) rfl rfl ?_
    refine TL.split 18 rfl (fun h104 => ?_) (fun h104 => ?_)
    · replace hh := iteO_t h104 hh
      replace h104 := of_decide_eq_true h104
      refine TL.goff rfl rfl rfl rfl rfl rfl rfl rfl ?_
      refine TL.goff rfl rfl rfl rfl rfl rfl rfl rfl ?_
      refine TL.goff rfl rfl rfl rfl rfl rfl rfl rfl ?_
      refine TL.goff rfl rfl rfl rfl rfl rfl rfl rfl ?_
      refine TL.v rfl (OpVal.pickTB rfl rfl rfl) rfl rfl ?_
      refine TL.nil ?_
      refine S.n ?_
      refine TC.cond rfl (fun _ => ?_) (fun h => Bool.noConfusion h)
      refine TC.seq ?_
      refine TC.region ?_
      refine TL.v rfl (OpVal.moveI (.inr rfl) rfl) rfl rfl ?_
      refine TL.v rfl (OpVal.moveB (.inr rfl) rfl) rfl rfl ?_
      refine TL.v rfl (OpVal.moveI (.inr rfl) rfl) rfl rfl ?_
      refine TL.nil ?_
      refine S.n ?_
      refine TC.ofSub (Sub.pre 0 rfl) ?_
      refine TC.ret ?_
      refine S.r ?_
      obtain rfl := Option.some.inj hh
      exact RetOk.mk' (rs := [.tmp 6, .tmp 7, .tmp 8]) [] rfl (.inl rfl) (RVs.tmp rfl (RVs.tmp rfl (RVs.tmp rfl RVs.nil))) (List.sublist_append_left _ _) ⟨rfl, rfl, rfl⟩
    · replace hh := iteO_f h104 hh
      replace h104 := of_decide_eq_false h104
      refine TL.gv rfl rfl rfl rfl rfl (OpVal.moveI (.inl rfl) rfl) rfl rfl ?_
      refine TL.gv rfl rfl rfl rfl rfl (OpVal.moveStr (.inl rfl) rfl) rfl rfl ?_
      refine TL.gv rfl rfl rfl rfl rfl (OpVal.lenBs rfl Tryd.underlying9 rfl) rfl rfl ?_
      refine TL.gv rfl rfl rfl rfl rfl (OpVal.gtr rfl rfl rfl) rfl rfl ?_
      refine TL.v rfl (OpVal.pickFB rfl rfl rfl) rfl rfl ?_
      refine TL.nil ?_
      refine S.n ?_
      refine TC.cond rfl (fun h105 => ?_) (fun h105 => ?_)
      · replace hh := iteO_t h105 hh
        replace h105 := of_decide_eq_true h105
        refine TC.seq ?_
        refine TC.region ?_
        refine TL.v rfl (OpVal.moveI (.inr rfl) rfl) rfl rfl ?_
        refine TL.v rfl (OpVal.moveB (.inr rfl) rfl) rfl rfl ?_
        refine TL.v rfl (OpVal.moveI (.inr rfl) rfl) rfl rfl ?_
        refine TL.nil ?_
        refine S.n ?_
        refine TC.ofSub (Sub.pre 0 rfl) ?_
        refine TC.ret ?_
        refine S.r ?_
        obtain rfl := Option.some.inj hh
        exact RetOk.mk' (rs := [.tmp 6, .tmp 7, .tmp 8]) [] rfl (.inl rfl) (RVs.tmp rfl (RVs.tmp rfl (RVs.tmp rfl RVs.nil))) (List.sublist_append_left _ _) ⟨rfl, rfl, rfl⟩
      · replace hh := iteO_f h105 hh
        replace h105 := of_decide_eq_false h105
        refine TC.skip ?_
        refine S.n ?_
        refine TC.seq ?_
        refine TC.seq ?_
        refine TC.region ?_
        refine TL.v rfl (OpVal.moveStr (.inl rfl) rfl) rfl rfl ?_
        obtain ⟨v22, u22, hh⟩ := bnd_e hh
        refine TL.op rfl (OpOk.callP (scan_check_con (RZ.nilF _ pkDfa) u22) rfl rfl pf21 rfl rfl rfl ?_)
        refine TL.v rfl (OpVal.moveI (.inr rfl) rfl) rfl rfl ?_
        refine TL.nil ?_
        refine S.n ?_
        refine TC.seq ?_
        refine TC.region ?_
        refine TL.v rfl (OpVal.moveI (.inl rfl) rfl) rfl rfl ?_
        refine TL.v rfl (OpVal.neq rfl rfl rfl) rfl rfl ?_
        refine TL.nil ?_
        refine S.n ?_
        refine TC.cond rfl (fun h106 => ?_) (fun h106 => ?_)
        · replace hh := iteO_t h106 hh
          replace h106 := of_decide_eq_true h106
          refine TC.seq ?_
          refine TC.region ?_
          refine TL.v rfl (OpVal.moveI (.inl rfl) rfl) rfl rfl ?_
          refine TL.v rfl (OpVal.moveI (.inr rfl) rfl) rfl rfl ?_
          refine TL.v rfl (OpVal.moveB (.inr rfl) rfl) rfl rfl ?_
          refine TL.v rfl (OpVal.moveI (.inr rfl) rfl) rfl rfl ?_
          refine TL.nil ?_
          refine S.n ?_
          refine TC.ofSub (Sub.pre 0 rfl) ?_
          refine TC.ret ?_
          refine S.r ?_
          obtain rfl := Option.some.inj hh
          exact RetOk.mk' (rs := [.tmp 6, .tmp 7, .tmp 8]) [] rfl (.inl rfl) (RVs.tmp rfl (RVs.tmp rfl (RVs.tmp rfl RVs.nil))) (List.sublist_append_left _ _) ⟨rfl, rfl, rfl⟩
        · replace hh := iteO_f h106 hh
          replace h106 := of_decide_eq_false h106
          refine TC.skip ?_
          refine S.n ?_
          refine TC.seq ?_
          refine TC.region ?_
          refine TL.v rfl (OpVal.loadAll rfl ag26 sz26 rfl (i := 0) rfl rfl) rfl rfl ?_
          refine TL.v rfl (OpVal.moveStr (.inl rfl) rfl) rfl rfl ?_
          refine TL.v rfl (OpVal.moveI (.inl rfl) rfl) rfl rfl ?_
          obtain ⟨v33, u33, hh⟩ := bnd_e hh
          refine TL.op rfl (OpOk.callP (longestL_con (x0 := x0) f0_0 f0_1 f0_2 u33) rfl rfl pf23 rfl rfl rfl ?_)
          refine TL.v rfl (OpVal.moveI (.inr rfl) rfl) rfl rfl ?_
          refine TL.nil ?_
          refine S.n ?_
          refine TC.seq ?_
          refine TC.seq ?_
          refine TC.region ?_
          refine TL.v rfl (OpVal.moveI (.inl rfl) rfl) rfl rfl ?_
          refine TL.v rfl (OpVal.moveI (.inl rfl) rfl) rfl rfl ?_
          refine TL.v rfl (OpVal.eql rfl rfl rfl) rfl rfl ?_
          refine TL.nil ?_
          refine S.n ?_
          refine TC.cond rfl (fun h107 => ?_) (fun h107 => ?_)
          · replace hh := iteO_t h107 hh
            replace h107 := of_decide_eq_true h107
            refine TC.seq ?_
            refine TC.region ?_
            refine TL.v rfl (OpVal.moveI (.inr rfl) rfl) rfl rfl ?_
            refine TL.v rfl (OpVal.moveB (.inr rfl) rfl) rfl rfl ?_
            refine TL.v rfl (OpVal.moveI (.inr rfl) rfl) rfl rfl ?_
            refine TL.nil ?_
            refine S.n ?_
            refine TC.ofSub (Sub.pre 0 rfl) ?_
            refine TC.ret ?_
            refine S.r ?_
            obtain rfl := Option.some.inj hh
            exact RetOk.mk' (rs := [.tmp 6, .tmp 7, .tmp 8]) [] rfl (.inl rfl) (RVs.tmp rfl (RVs.tmp rfl (RVs.tmp rfl RVs.nil))) (List.sublist_append_left _ _) ⟨rfl, rfl, rfl⟩
          · replace hh := iteO_f h107 hh
            replace h107 := of_decide_eq_false h107
            refine TC.skip ?_
            refine S.n ?_
            refine TC.seq ?_
            refine TC.region ?_
            refine TL.v rfl (OpVal.moveI (.inl rfl) rfl) rfl rfl ?_
            refine TL.v rfl (OpVal.moveI (.inr rfl) rfl) rfl rfl ?_
            refine TL.v rfl (OpVal.moveB (.inr rfl) rfl) rfl rfl ?_
            refine TL.v rfl (OpVal.moveI (.inr rfl) rfl) rfl rfl ?_
            refine TL.nil ?_
            refine S.n ?_
            refine TC.ofSub (Sub.pre 0 rfl) ?_
            refine TC.ret ?_
            obtain rfl := Option.some.inj hh
            exact RetOk.mk' (rs := [.tmp 6, .tmp 7, .tmp 8]) [] rfl (.inl rfl) (RVs.tmp rfl (RVs.tmp rfl (RVs.tmp rfl RVs.nil))) (List.sublist_append_left _ _) ⟨rfl, rfl, rfl⟩

noncomputable def scan_Before_j2 (k208 : Nat) (l213 : List Bool) (l216 : List Bool) : Option (((List Bool) × (List Bool) × Nat) ⊕ (((List Bool) × (List Bool) × (List Bool) × Nat) ⊕ ((List Bool) × Int))) :=
  nxt (l213, l216, (k208 + 1))
noncomputable def scan_Before_j3 (k179 : Nat) (x1 : List UInt8) (k208 : Nat) (x0 : Dfa) (l206 : List Bool) (l220 : List Bool) : Option (((List Bool) × (List Bool) × Nat) ⊕ (((List Bool) × (List Bool) × (List Bool) × Nat) ⊕ ((List Bool) × Int))) :=
  iteO (decide (((k179 : Nat) : Int) < ((x1.length : Nat) : Int))) (grd (k208 < x0.next.length) (grd ((nth x1 k179 (0 : UInt8)).toNat < x0.cls.length) (grd (0 ≤ (nth x0.cls ((nth x1 k179 (0 : UInt8)).toNat) (0 : Int)) ∧ (nth x0.cls ((nth x1 k179 (0 : UInt8)).toNat) (0 : Int)) < ((nth x0.next k208 ([] : List Int)).length : Int)) (grd (0 ≤ (nth (nth x0.next k208 ([] : List Int)) ((nth x0.cls ((nth x1 k179 (0 : UInt8)).toNat) (0 : Int)).toNat) (0 : Int)) ∧ (nth (nth x0.next k208 ([] : List Int)) ((nth x0.cls ((nth x1 k179 (0 : UInt8)).toNat) (0 : Int)).toNat) (0 : Int)) < (l206.length : Int)) (scan_Before_j2 k208 l220 (l206.set ((nth (nth x0.next k208 ([] : List Int)) ((nth x0.cls ((nth x1 k179 (0 : UInt8)).toNat) (0 : Int)).toNat) (0 : Int)).toNat) true)))))) (scan_Before_j2 k208 l220 l206)
noncomputable def scan_Before_b2 (x0 : Dfa) (l170 : List Bool) (k179 : Nat) (x1 : List UInt8) (l203 : List Bool) (l206 : List Bool) (k208 : Nat) : Option (((List Bool) × (List Bool) × Nat) ⊕ (((List Bool) × (List Bool) × (List Bool) × Nat) ⊕ ((List Bool) × Int))) :=
  iteO (decide (((k208 : Nat) : Int) < (((List.replicate x0.next.length false).length : Nat) : Int))) (grd (k208 < (l170.set 0 true).length) (iteO (!(nth (l170.set 0 true) k208 false)) (scan_Before_j2 k208 l203 l206) (grd (k179 < l203.length) (iteO (nth l203 k179 false) (grd (k179 < l203.length) (scan_Before_j3 k179 x1 k208 x0 l206 (l203.set k179 true))) (grd (k208 < x0.fin.length) (grd (k179 < l203.length) (scan_Before_j3 k179 x1 k208 x0 l206 (l203.set k179 (nth x0.fin k208 false))))))))) (fin (nxt (l203, l206, (l170.set 0 true), (k179 + 1))))
noncomputable def scan_Before_b1 (x1 : List UInt8) (x0 : Dfa) (l167 : List Bool) (l170 : List Bool) (l175 : List Bool) (k179 : Nat) : Option (((List Bool) × (List Bool) × (List Bool) × Nat) ⊕ ((List Bool) × Int)) :=
  iteO (decide (((k179 : Nat) : Int) < (((List.replicate (x1.length + 1) false).length : Nat) : Int))) (grd (0 < l170.length) (iter (fun q : (List Bool) × (List Bool) × Nat => scan_Before_b2 x0 l170 k179 x1 q.1 q.2.1 q.2.2) (l167, (l175.take 0 ++ List.replicate (l175.length - 0) false), 0))) (fin (some (l167, 0)))
noncomputable def scan_Before_j1 (x1 : List UInt8) (x0 : Dfa) : Option ((List Bool) × Int) :=
  iter (fun q : (List Bool) × (List Bool) × (List Bool) × Nat => scan_Before_b1 x1 x0 q.1 q.2.1 q.2.2.1 q.2.2.2) ((List.replicate (x1.length + 1) false), (List.replicate x0.next.length false), (List.replicate x0.next.length false), 0)
noncomputable def scan_Before (x0 : Dfa) (x1 : List UInt8) : Option ((List Bool) × Int) :=
  grd (x1.length ≤ 281474976710656) (bnd (scan_check x1 [x0]) (fun v7 => iteO (decide (v7 ≠ 0)) (some (([] : List Bool), v7)) (grd (1 * (x1.length + 1) ≤ 281474976710656) (grd (1 * x0.next.length ≤ 281474976710656) (grd (1 * x0.next.length ≤ 281474976710656) (scan_Before_j1 x1 x0))))))
def scan_Before_P (σ : Store) (r : (List Bool) × Int) : Value → Store → List Res → Prop := fun v σ' H' =>
  ∃ (a1 : Option Addr), ∃ (c1 : Nat),  v = .tuple #[.slice a1 r.1.length c1, .int .i64 r.2] ∧ RS σ' 1 encB (.slice a1 r.1.length c1) r.1 ∧ H' = []
theorem scan_Before_con {σ : Store} {x0 : Dfa} {a0_0 : Option Addr} {c0_0 : Nat} {a0_1 : Option Addr} {c0_1 : Nat} {a0_2 : Option Addr} {c0_2 : Nat} {x1 : List UInt8} (f0_0 : RS σ 1 Go.E.encI (.slice a0_0 x0.cls.length c0_0) x0.cls) (f0_1 : RZ σ (pkSl 1 Go.E.encI Go.E.encI_len) (.slice a0_1 x0.next.length c0_1) x0.next) (f0_2 : RS σ 1 encB (.slice a0_2 x0.fin.length c0_2) x0.fin) {r : (List Bool) × Int} (hh : scan_Before x0 x1 = some r) :
    Con Tryd.prog 14 #[.agg #[.slice a0_0 x0.cls.length c0_0, .slice a0_1 x0.next.length c0_1, .slice a0_2 x0.fin.length c0_2], .string (bs x1)] σ [] (scan_Before_P σ r) := by
  dsimp only [scan_Before] at hh
  have f0_0b := f0_0.rv.big
  have f0_1b := f0_1.big
  have f0_2b := f0_2.rv.big
  refine Con.mk (n := 88) Tryd.func14 rfl rfl rfl (fun w0 => ?_)
  have x1b := grd_c hh
  replace hh := grd_t hh
  refine TC.seq ?_
  refine TC.region ?_
  refine TL.op rfl (OpOk.boxA rfl rfl rfl rfl (fun b101 => ?_))
  refine TL.v rfl (OpVal.moveSl (.inr rfl) rfl) rfl rfl ?_
  refine TL.v rfl (OpVal.moveI (.inr rfl) rfl) rfl rfl ?_
  refine TL.nil ?_
  refine S.n ?_
  refine TC.seq ?_
  refine TC.seq ?_
  refine TC.region ?_
  refine TL.v rfl (OpVal.moveStr (.inl rfl) rfl) rfl rfl ?_
  refine TL.v rfl (OpVal.loadAll rfl ag26 sz26 rfl (i := 0) rfl rfl) rfl rfl ?_
  have zf105 : ZOk _ pkDfa ([(x0, ⟨a0_0, c0_0, a0_1, c0_1, a0_2, c0_2⟩)] : List (Dfa × pkDfa.P)) [x0] := ZOk.cons (⟨f0_0, f0_1, f0_2⟩) (ZOk.nil _ _)
  refine TL.op rfl (OpOk.litZ zf105 rfl Tryd.underlying72 sz26 rfl ze26 rfl rfl rfl (by decide) (by decide) rfl (by decide) rfl (by decide) (fun a103 c104 => ?_))
  refine TL.sealZ zf105 (fun τ109 hle108 hr107 => ?_)
  replace f0_0 := f0_0.mono hle108
  replace f0_1 := f0_1.mono hle108
  replace f0_2 := f0_2.mono hle108
  replace zf105 := zf105.mono hle108
  have hr107b := hr107.big
  obtain ⟨v7, u7, hh⟩ := bnd_e hh
  refine TL.op rfl (OpOk.callP (scan_check_con hr107 u7) rfl rfl pf21 rfl rfl rfl ?_)
  refine TL.v rfl (OpVal.moveI (.inr rfl) rfl) rfl rfl ?_
  refine TL.nil ?_
  refine S.n ?_
  refine TC.seq ?_
  refine TC.region ?_
  refine TL.v rfl (OpVal.moveI (.inl rfl) rfl) rfl rfl ?_
  refine TL.v rfl (OpVal.neq rfl rfl rfl) rfl rfl ?_
  refine TL.nil ?_
  refine S.n ?_
  refine TC.cond rfl (fun h110 => ?_) (fun h110 => ?_)
  · replace hh := iteO_t h110 hh
    replace h110 := of_decide_eq_true h110
    refine TC.seq ?_
    refine TC.region ?_
    refine TL.v rfl (OpVal.moveI (.inl rfl) rfl) rfl rfl ?_
    refine TL.v rfl (OpVal.moveSl (.inr rfl) rfl) rfl rfl ?_
    refine TL.v rfl (OpVal.moveI (.inr rfl) rfl) rfl rfl ?_
    refine TL.nil ?_
    refine S.n ?_
    refine TC.ofSub (Sub.pre 0 rfl) ?_
    refine TC.ret ?_
    refine S.r ?_
    obtain rfl := Option.some.inj hh
    exact RetOk.mk' (rs := [.tmp 4, .tmp 5]) [] rfl (.inl rfl) (RVs.tmp rfl (RVs.tmp rfl RVs.nil)) (List.sublist_append_left _ _) ⟨none, 0, rfl, (RS.nilF _ encB encB_len), rfl⟩
  · replace hh := iteO_f h110 hh
    replace h110 := of_decide_eq_false h110
    refine TC.skip ?_
    refine S.n ?_
    refine TC.seq ?_
    refine TC.region ?_
    refine TL.v rfl (OpVal.moveStr (.inl rfl) rfl) rfl rfl ?_
    refine TL.v rfl (OpVal.lenBs rfl Tryd.underlying9 rfl) rfl rfl ?_
    refine TL.v rfl (OpVal.succ rfl rfl rfl (by omega)) rfl rfl ?_
    have u17 := grd_c hh
    replace hh := grd_t hh
    refine TL.op rfl (OpOk.makeS2 (enc := encB) false rfl Tryd.underlying24 sz4 by4 ze4 rfl rfl rfl rfl (by omega) (by decide) encB_len (by decide) rfl encB_one (fun a111 c112 => ?_))
    refine TL.v rfl (OpVal.moveSl (.inr rfl) rfl) rfl rfl ?_
    refine TL.nil ?_
    refine S.n ?_
    refine TC.cutG (α := (Unit) × ((Option Addr) × Nat × (Option Addr) × Nat)) [8, 9, 24, 25, 26, 27, 28, 29, 30, 31] (fun g => [(8, .slice g.2.1 ((List.replicate x0.next.length false).length) g.2.2.1), (9, .slice g.2.2.2.1 ((List.replicate x0.next.length false).length) g.2.2.2.2)]) (fun g => [Res.cells b101 #[.slice a0_0 x0.cls.length c0_0, .slice a0_1 x0.next.length c0_1, .slice a0_2 x0.fin.length c0_2] 26, Res.rowS 4 1 encB (.slice a111 (List.replicate (x1.length + 1) false).length c112) (List.replicate (x1.length + 1) false), Res.rowS 4 1 encB (.slice g.2.1 (List.replicate x0.next.length false).length g.2.2.1) (List.replicate x0.next.length false), Res.rowS 4 1 encB (.slice g.2.2.2.1 (List.replicate x0.next.length false).length g.2.2.2.2) (List.replicate x0.next.length false)]) (fun g => τ109) (fun g => scan_Before_j1 x1 x0 = some r) ?_ (fun g j hg => ?_)
    · skip
      have u22 := grd_c hh
      replace hh := grd_t hh
      have u26 := grd_c hh
      replace hh := grd_t hh
      refine TC.draw [] (by kernel_rfl) ?_
      refine TA.takeP 0 rfl (by kernel_rfl) (by kernel_rfl) (by kernel_rfl) rfl (OpVal.fieldLoc rfl fo26_1 rfl) rfl rfl ?_
      refine TA.take 1 rfl (by kernel_rfl) (by kernel_rfl) (by kernel_rfl) (by kernel_rfl) rfl (OpVal.loadLoc rfl ag23 rfl (i := 1) rfl rfl) rfl rfl ?_
      refine TA.take 2 rfl (by kernel_rfl) (by kernel_rfl) (by kernel_rfl) (by kernel_rfl) rfl (OpVal.lenC rfl Tryd.underlying23 rfl) rfl rfl ?_
      refine TA.takeP 4 rfl (by kernel_rfl) (by kernel_rfl) (by kernel_rfl) rfl (OpVal.fieldLoc rfl fo26_1 rfl) rfl rfl ?_
      refine TA.take 5 rfl (by kernel_rfl) (by kernel_rfl) (by kernel_rfl) (by kernel_rfl) rfl (OpVal.loadLoc rfl ag23 rfl (i := 1) rfl rfl) rfl rfl ?_
      refine TA.take 6 rfl (by kernel_rfl) (by kernel_rfl) (by kernel_rfl) (by kernel_rfl) rfl (OpVal.lenC rfl Tryd.underlying23 rfl) rfl rfl ?_
      refine TA.actN [3, 7] (by kernel_rfl) (And.intro (Exists.intro _ (And.intro rfl (And.intro rfl (OpOk.makeS2 (enc := encB) false rfl Tryd.underlying24 sz4 by4 ze4 rfl rfl rfl rfl (by omega) (by decide) encB_len (by decide) rfl encB_one (fun a126 c127 => ⟨(fun w h => sees_of (Store.le.refl _) (fun r hr => (List.mem_cons_of_mem _ hr)) w h), ?_⟩))))) (And.intro (Exists.intro _ (And.intro rfl (And.intro rfl (OpOk.makeS2 (enc := encB) false rfl Tryd.underlying24 sz4 by4 ze4 rfl rfl rfl rfl (by omega) (by decide) encB_len (by decide) rfl encB_one (fun a129 c130 => ⟨(fun w h => sees_of (Store.le.refl _) (fun r hr => (List.mem_cons_of_mem _ hr)) w h), ?_⟩))))) (True.intro)))
      · skip
        refine TA.takeP 8 rfl (by kernel_rfl) (by kernel_rfl) (by kernel_rfl) rfl (OpVal.moveSl (.inr rfl) rfl) rfl rfl ?_
        refine TA.act 7 (by kernel_rfl) rfl rfl (OpOk.makeS2 (enc := encB) false rfl Tryd.underlying24 sz4 by4 ze4 rfl rfl rfl rfl (by omega) (by decide) encB_len (by decide) rfl encB_one (fun a132 c133 => ⟨(fun w h => sees_of (Store.le.refl _) (fun r hr => (List.mem_cons_of_mem _ (List.mem_cons_of_mem _ hr))) w h), ?_⟩))
        refine TA.takeP 9 rfl (by kernel_rfl) (by kernel_rfl) (by kernel_rfl) rfl (OpVal.moveSl (.inr rfl) rfl) rfl rfl ?_
        refine TA.done (by kernel_rfl) ?_
        refine S.n ?_
        refine ⟨by repeat (first | exact Agr.refl _ _ | exact Agr.mask | refine Agr.upd rfl ?_ | refine Agr.maskIn rfl ?_ | refine Agr.upds rfl ?_), ((), (a126, c127, a132, c133)), hh, by repeat (first | exact trivial | refine ⟨rfl, ?_⟩), Sub.front 1 rfl rfl (Sub.front 2 rfl rfl (Sub.front 3 rfl rfl (Sub.pre 4 rfl))), rfl⟩
      · skip
        refine TA.act 3 (by kernel_rfl) rfl rfl (OpOk.makeS2 (enc := encB) false rfl Tryd.underlying24 sz4 by4 ze4 rfl rfl rfl rfl (by omega) (by decide) encB_len (by decide) rfl encB_one (fun a135 c136 => ⟨(fun w h => sees_of (Store.le.refl _) (fun r hr => (List.mem_cons_of_mem _ (List.mem_cons_of_mem _ hr))) w h), ?_⟩))
        refine TA.takeP 8 rfl (by kernel_rfl) (by kernel_rfl) (by kernel_rfl) rfl (OpVal.moveSl (.inr rfl) rfl) rfl rfl ?_
        refine TA.takeP 9 rfl (by kernel_rfl) (by kernel_rfl) (by kernel_rfl) rfl (OpVal.moveSl (.inr rfl) rfl) rfl rfl ?_
        refine TA.done (by kernel_rfl) ?_
        refine S.n ?_
        refine ⟨by repeat (first | exact Agr.refl _ _ | exact Agr.mask | refine Agr.upd rfl ?_ | refine Agr.maskIn rfl ?_ | refine Agr.upds rfl ?_), ((), (a135, c136, a129, c130)), hh, by repeat (first | exact trivial | refine ⟨rfl, ?_⟩), Sub.front 1 rfl rfl (Sub.front 1 rfl rfl (Sub.front 2 rfl rfl (Sub.front 3 rfl rfl (Sub.pre 4 rfl)))), rfl⟩
    · skip
      obtain ⟨_, ⟨a115, c116, a118, c119⟩⟩ := g
      have hh := hg; clear hg
      show TC _ _ _ (upds (mask _ j _) [(8, .slice a115 ((List.replicate x0.next.length false).length) c116), (9, .slice a118 ((List.replicate x0.next.length false).length) c119)]) _ [Res.cells b101 #[.slice a0_0 x0.cls.length c0_0, .slice a0_1 x0.next.length c0_1, .slice a0_2 x0.fin.length c0_2] 26, Res.rowS 4 1 encB (.slice a111 (List.replicate (x1.length + 1) false).length c112) (List.replicate (x1.length + 1) false), Res.rowS 4 1 encB (.slice a115 (List.replicate x0.next.length false).length c116) (List.replicate x0.next.length false), Res.rowS 4 1 encB (.slice a118 (List.replicate x0.next.length false).length c119) (List.replicate x0.next.length false)]
      dsimp only [scan_Before_j1] at hh
      refine TC.isSl (i := 1) rfl (fun _ hb138 _ => ?_)
      refine TC.isSl (i := 2) rfl (fun _ hb139 _ => ?_)
      refine TC.isSl (i := 3) rfl (fun _ hb140 _ => ?_)
      refine TC.seq ?_
      refine TC.seq ?_
      refine TC.region ?_
      refine TL.v rfl (OpVal.moveSl (.inl rfl) rfl) rfl rfl ?_
      refine TL.v rfl (OpVal.lenC rfl Tryd.underlying24 rfl) rfl rfl ?_
      refine TL.v rfl (OpVal.moveI (.inl rfl) rfl) rfl rfl ?_
      refine TL.nil ?_
      refine S.n ?_
      refine TC.block ?_
      refine TC.loopG (α := ((List Bool) × (List Bool) × (List Bool) × Nat) × ((Option Addr) × Nat × (Option Addr) × Nat)) [8, 9, 10, 11, 12, 34, 35, 36, 37, 38, 39, 40, 41, 42, 43, 44, 45, 46, 47, 48, 49, 50, 51, 52, 53, 54, 55, 56, 57, 58, 59, 60, 61, 62, 63, 64, 65, 66, 67, 68, 69, 70, 71, 72, 73, 74, 75, 76, 77, 78, 79, 80, 81, 82, 83, 84, 85, 86] (fun g => [(8, .slice g.2.1 ((List.replicate x0.next.length false).length) g.2.2.1), (9, .slice g.2.2.2.1 ((List.replicate x0.next.length false).length) g.2.2.2.2), (34, .int .i64 ((g.1.2.2.2 : Nat) : Int))]) (fun g => [Res.cells b101 #[.slice a0_0 x0.cls.length c0_0, .slice a0_1 x0.next.length c0_1, .slice a0_2 x0.fin.length c0_2] 26, Res.rowS 4 1 encB (.slice a111 (List.replicate (x1.length + 1) false).length c112) g.1.1, Res.rowS 4 1 encB (.slice g.2.1 (List.replicate x0.next.length false).length g.2.2.1) g.1.2.1, Res.rowS 4 1 encB (.slice g.2.2.2.1 (List.replicate x0.next.length false).length g.2.2.2.2) g.1.2.2.1]) (fun g => τ109) (fun g => iter (fun q : (List Bool) × (List Bool) × (List Bool) × Nat => scan_Before_b1 x1 x0 q.1 q.2.1 q.2.2.1 q.2.2.2) g.1 = some r ∧ g.1.1.length = (List.replicate (x1.length + 1) false).length ∧ g.1.2.1.length = (List.replicate x0.next.length false).length ∧ g.1.2.2.1.length = (List.replicate x0.next.length false).length) (fun g => rounds (fun q : (List Bool) × (List Bool) × (List Bool) × Nat => scan_Before_b1 x1 x0 q.1 q.2.1 q.2.2.1 q.2.2.2) g.1) (((List.replicate (x1.length + 1) false), (List.replicate x0.next.length false), (List.replicate x0.next.length false), 0), (a115, c116, a118, c119)) (Sub.front 3 rfl rfl (Sub.front 3 rfl rfl (Sub.front 3 rfl rfl (Sub.front 3 rfl rfl (Sub.pre 4 rfl))))) rfl (by repeat (first | exact trivial | refine ⟨rfl, ?_⟩)) ⟨hh, rfl, rfl, rfl⟩ (fun g1 j1 hg1 => ?_)
      obtain ⟨⟨l167, l170, l175, k179⟩, ⟨a171, c172, a176, c177⟩⟩ := g1
      obtain ⟨hh, hn168, hn173, hn178⟩ := hg1
      try dsimp only at hn168
      try dsimp only at hn173
      try dsimp only at hn178
      show TC _ _ _ (upds (mask _ j1 _) [(8, .slice a171 ((List.replicate x0.next.length false).length) c172), (9, .slice a176 ((List.replicate x0.next.length false).length) c177), (34, .int .i64 ((k179 : Nat) : Int))]) _ [Res.cells b101 #[.slice a0_0 x0.cls.length c0_0, .slice a0_1 x0.next.length c0_1, .slice a0_2 x0.fin.length c0_2] 26, Res.rowS 4 1 encB (.slice a111 (List.replicate (x1.length + 1) false).length c112) l167, Res.rowS 4 1 encB (.slice a171 (List.replicate x0.next.length false).length c172) l170, Res.rowS 4 1 encB (.slice a176 (List.replicate x0.next.length false).length c177) l175]
      obtain ⟨z1, hh, hR1⟩ := iter_e hh
      dsimp only [scan_Before_b1] at hh
      have hn168b := hn168
      have hn173b := hn173
      have hn178b := hn178
      refine TC.isSl (i := 1) rfl (fun _ hb180 _ => ?_)
      refine TC.isSl (i := 2) rfl (fun _ hb181 _ => ?_)
      refine TC.isSl (i := 3) rfl (fun _ hb182 _ => ?_)
      refine TC.seq ?_
      refine TC.region ?_
      refine TL.v rfl (OpVal.lss rfl rfl rfl) rfl rfl ?_
      refine TL.nil ?_
      refine S.n ?_
      refine TC.seq ?_
      refine TC.cond rfl (fun h183 => ?_) (fun h183 => ?_)
      · replace hh := iteO_t h183 hh
        replace h183 := of_decide_eq_true h183
        refine TC.skip ?_
        refine S.n ?_
        refine TC.seq ?_
        refine TC.block ?_
        refine TC.seq ?_
        refine TC.region ?_
        refine TL.v rfl (OpVal.moveI (.inl rfl) rfl) rfl rfl ?_
        refine TL.v rfl (OpVal.moveI (.inr rfl) rfl) rfl rfl ?_
        refine TL.nil ?_
        refine S.n ?_
        refine TC.seq ?_
        refine TC.region ?_
        refine TL.v rfl (OpVal.moveSl (.inl rfl) rfl) rfl rfl ?_
        have u36 := grd_c hh
        replace hh := grd_t hh
        refine TL.isSl (i := 2) rfl (fun hs184 _ _ => ?_)
        refine TL.v rfl (OpVal.indexN (i := 0) rfl Tryd.underlying24 sz4 rfl rfl hs184 (by omega)) rfl rfl ?_
        refine TL.front 2 rfl rfl ?_
        have hn185 : (l170.set 0 true).length = (List.replicate x0.next.length false).length := by rw [List.length_set]; exact hn173
        refine TL.op rfl (OpOk.storeS true rfl sz4 rfl rfl rfl rfl encB_len encB_one (by omega) (by omega) ?_)
        refine TL.nil ?_
        refine S.n ?_
        refine TC.seq ?_
        refine TC.region ?_
        refine TL.v rfl (OpVal.moveSl (.inl rfl) rfl) rfl rfl ?_
        refine TL.isSl (i := 3) rfl (fun hs186 _ _ => ?_)
        refine TL.front 3 rfl rfl ?_
        have hn187 : (l175.take 0 ++ List.replicate (l175.length - 0) false).length = (List.replicate x0.next.length false).length := by simp only [List.length_append, List.length_take, List.length_replicate]; try simp only [List.length_replicate] at *; omega
        refine TL.op rfl (OpOk.clearV (k := 0) false rfl Tryd.underlying24 ze4 rfl rfl (VwOk.self hs186) (by omega) (by omega) encB_len (by decide) rfl encB_one ?_)
        refine TL.nil ?_
        refine S.n ?_
        refine TC.seq ?_
        refine TC.seq ?_
        refine TC.region ?_
        refine TL.v rfl (OpVal.moveSl (.inl rfl) rfl) rfl rfl ?_
        refine TL.v rfl (OpVal.lenC rfl Tryd.underlying24 rfl) rfl rfl ?_
        refine TL.v rfl (OpVal.moveI (.inl rfl) rfl) rfl rfl ?_
        refine TL.nil ?_
        refine S.n ?_
        refine TC.block ?_
        refine TC.loopG (α := ((List Bool) × (List Bool) × Nat) × (Unit)) [11, 12, 42, 43, 44, 45, 46, 47, 48, 49, 50, 51, 52, 53, 54, 55, 56, 57, 58, 59, 60, 61, 62, 63, 64, 65, 66, 67, 68, 69, 70, 71, 72, 73, 74, 75, 76, 77, 78, 79, 80, 81, 82, 83] (fun g => [(42, .int .i64 ((g.1.2.2 : Nat) : Int))]) (fun g => [Res.cells b101 #[.slice a0_0 x0.cls.length c0_0, .slice a0_1 x0.next.length c0_1, .slice a0_2 x0.fin.length c0_2] 26, Res.rowS 4 1 encB (.slice a111 (List.replicate (x1.length + 1) false).length c112) g.1.1, Res.rowS 4 1 encB (.slice a171 (List.replicate x0.next.length false).length c172) (l170.set 0 true), Res.rowS 4 1 encB (.slice a176 (List.replicate x0.next.length false).length c177) g.1.2.1]) (fun g => τ109) (fun g => iter (fun q : (List Bool) × (List Bool) × Nat => scan_Before_b2 x0 l170 k179 x1 q.1 q.2.1 q.2.2) g.1 = some z1 ∧ g.1.1.length = (List.replicate (x1.length + 1) false).length ∧ (l170.set 0 true).length = (List.replicate x0.next.length false).length ∧ g.1.2.1.length = (List.replicate x0.next.length false).length) (fun g => rounds (fun q : (List Bool) × (List Bool) × Nat => scan_Before_b2 x0 l170 k179 x1 q.1 q.2.1 q.2.2) g.1) ((l167, (l175.take 0 ++ List.replicate (l175.length - 0) false), 0), ()) (Sub.front 1 rfl rfl (Sub.front 3 rfl rfl (Sub.front 3 rfl rfl (Sub.pre 4 rfl)))) rfl (by repeat (first | exact trivial | refine ⟨rfl, ?_⟩)) ⟨hh, hn168, hn185, hn187⟩ (fun g2 j2 hg2 => ?_)
        obtain ⟨⟨l203, l206, k208⟩, _⟩ := g2
        obtain ⟨hh, hn204, hn205, hn207⟩ := hg2
        try dsimp only at hn204
        try dsimp only at hn205
        try dsimp only at hn207
        show TC _ _ _ (upds (mask _ j2 _) [(42, .int .i64 ((k208 : Nat) : Int))]) _ [Res.cells b101 #[.slice a0_0 x0.cls.length c0_0, .slice a0_1 x0.next.length c0_1, .slice a0_2 x0.fin.length c0_2] 26, Res.rowS 4 1 encB (.slice a111 (List.replicate (x1.length + 1) false).length c112) l203, Res.rowS 4 1 encB (.slice a171 (List.replicate x0.next.length false).length c172) (l170.set 0 true), Res.rowS 4 1 encB (.slice a176 (List.replicate x0.next.length false).length c177) l206]
        obtain ⟨z2, hh, hR2⟩ := iter_e hh
        dsimp only [scan_Before_b2] at hh
        have hn204b := hn204
        have hn205b := hn205
        have hn207b := hn207
        refine TC.isSl (i := 1) rfl (fun _ hb209 _ => ?_)
        refine TC.isSl (i := 2) rfl (fun _ hb210 _ => ?_)
        refine TC.isSl (i := 3) rfl (fun _ hb211 _ => ?_)
        refine TC.seq ?_
        refine TC.region ?_
        refine TL.v rfl (OpVal.lss rfl rfl rfl) rfl rfl ?_
        refine TL.nil ?_
        refine S.n ?_
        refine TC.seq ?_
        refine TC.cond rfl (fun h212 => ?_) (fun h212 => ?_)
        · replace hh := iteO_t h212 hh
          replace h212 := of_decide_eq_true h212
          refine TC.skip ?_
          refine S.n ?_
          refine TC.cutG (α := ((List Bool) × (List Bool)) × (Unit)) [11, 12, 44, 45, 46, 47, 48, 49, 50, 51, 52, 53, 54, 55, 56, 57, 58, 59, 60, 61, 62, 63, 64, 65, 66, 67, 68, 69, 70, 71, 72, 73, 74, 75, 76, 77, 78, 79, 80, 81, 82] (fun g => []) (fun g => [Res.cells b101 #[.slice a0_0 x0.cls.length c0_0, .slice a0_1 x0.next.length c0_1, .slice a0_2 x0.fin.length c0_2] 26, Res.rowS 4 1 encB (.slice a111 (List.replicate (x1.length + 1) false).length c112) g.1.1, Res.rowS 4 1 encB (.slice a171 (List.replicate x0.next.length false).length c172) (l170.set 0 true), Res.rowS 4 1 encB (.slice a176 (List.replicate x0.next.length false).length c177) g.1.2]) (fun g => τ109) (fun g => scan_Before_j2 k208 g.1.1 g.1.2 = some z2 ∧ g.1.1.length = (List.replicate (x1.length + 1) false).length ∧ (l170.set 0 true).length = (List.replicate x0.next.length false).length ∧ g.1.2.length = (List.replicate x0.next.length false).length) ?_ (fun g j hg => ?_)
          · skip
            refine TC.block ?_
            refine TC.seq ?_
            refine TC.region ?_
            refine TL.v rfl (OpVal.moveI (.inl rfl) rfl) rfl rfl ?_
            have u45 := grd_c hh
            replace hh := grd_t hh
            refine TL.isSl (i := 2) rfl (fun hs218 _ _ => ?_)
            refine TL.v rfl (OpVal.indexN rfl Tryd.underlying24 sz4 rfl rfl hs218 (by omega)) rfl rfl ?_
            refine TL.v rfl (OpVal.loadO1 false rfl ag4 rfl (q := 2) rfl encB_len (by omega) rfl) rfl rfl ?_
            refine TL.v rfl (OpVal.moveI (.inr rfl) rfl) rfl rfl ?_
            refine TL.v rfl (OpVal.moveB (.inr rfl) rfl) rfl rfl ?_
            refine TL.nil ?_
            refine S.n ?_
            refine TC.seq ?_
            refine TC.seq ?_
            refine TC.region ?_
            refine TL.v rfl (OpVal.moveB (.inl rfl) rfl) rfl rfl ?_
            refine TL.v rfl (OpVal.not rfl rfl) rfl rfl ?_
            refine TL.nil ?_
            refine S.n ?_
            refine TC.cond rfl (fun h219 => ?_) (fun h219 => ?_)
            · replace hh := iteO_t h219 hh
              refine TC.exit ?_
              refine S.x ?_
              refine TC.exitHere ?_
              refine S.n ?_
              refine ⟨by repeat (first | exact Agr.refl _ _ | exact Agr.mask | refine Agr.upd rfl ?_ | refine Agr.maskIn rfl ?_ | refine Agr.upds rfl ?_), ((l203, l206), ()), ⟨hh, hn204, hn205, hn207⟩, by repeat (first | exact trivial | refine ⟨rfl, ?_⟩), Sub.front 3 rfl rfl (Sub.front 3 rfl rfl (Sub.front 3 rfl rfl (Sub.front 3 rfl rfl (Sub.pre 4 rfl)))), rfl⟩
            · replace hh := iteO_f h219 hh
              refine TC.skip ?_
              refine S.n ?_
              refine TC.cutG (α := ((List Bool)) × (Unit)) [49, 50, 51, 52, 53, 54, 55, 56, 57, 58, 59, 60, 61, 62] (fun g => []) (fun g => [Res.cells b101 #[.slice a0_0 x0.cls.length c0_0, .slice a0_1 x0.next.length c0_1, .slice a0_2 x0.fin.length c0_2] 26, Res.rowS 4 1 encB (.slice a111 (List.replicate (x1.length + 1) false).length c112) g.1, Res.rowS 4 1 encB (.slice a171 (List.replicate x0.next.length false).length c172) (l170.set 0 true), Res.rowS 4 1 encB (.slice a176 (List.replicate x0.next.length false).length c177) l206]) (fun g => τ109) (fun g => scan_Before_j3 k179 x1 k208 x0 l206 g.1 = some z2 ∧ g.1.length = (List.replicate (x1.length + 1) false).length ∧ (l170.set 0 true).length = (List.replicate x0.next.length false).length ∧ l206.length = (List.replicate x0.next.length false).length) ?_ (fun g j hg => ?_)
              · skip
                refine TC.region ?_
                refine TL.v rfl (OpVal.moveSl (.inl rfl) rfl) rfl rfl ?_
                refine TL.v rfl (OpVal.moveI (.inl rfl) rfl) rfl rfl ?_
                refine TL.v rfl (OpVal.moveSl (.inl rfl) rfl) rfl rfl ?_
                refine TL.v rfl (OpVal.moveI (.inl rfl) rfl) rfl rfl ?_
                have u55 := grd_c hh
                replace hh := grd_t hh
                refine TL.isSl (i := 1) rfl (fun hs224 _ _ => ?_)
                refine TL.v rfl (OpVal.indexN rfl Tryd.underlying24 sz4 rfl rfl hs224 (by omega)) rfl rfl ?_
                refine TL.v rfl (OpVal.loadO1 false rfl ag4 rfl (q := 1) rfl encB_len (by omega) rfl) rfl rfl ?_
                refine TL.v rfl (OpVal.moveB (.inl rfl) rfl) rfl rfl ?_
                refine TL.split 55 rfl (fun h225 => ?_) (fun h225 => ?_)
                · replace hh := iteO_t h225 hh
                  refine TL.goff rfl rfl rfl rfl rfl rfl rfl rfl ?_
                  refine TL.goff rfl rfl rfl rfl rfl rfl rfl rfl ?_
                  refine TL.goff rfl rfl rfl rfl rfl rfl rfl rfl ?_
                  refine TL.goff rfl rfl rfl rfl rfl rfl rfl rfl ?_
                  refine TL.goff rfl rfl rfl rfl rfl rfl rfl rfl ?_
                  refine TL.v rfl (OpVal.pickTB rfl rfl rfl) rfl rfl ?_
                  have u64 := grd_c hh
                  replace hh := grd_t hh
                  refine TL.isSl (i := 1) rfl (fun hs226 _ _ => ?_)
                  refine TL.v rfl (OpVal.indexN rfl Tryd.underlying24 sz4 rfl rfl hs226 (by omega)) rfl rfl ?_
                  refine TL.front 1 rfl rfl ?_
                  have hn227 : (l203.set k179 true).length = (List.replicate (x1.length + 1) false).length := by rw [List.length_set]; exact hn204
                  refine TL.op rfl (OpOk.storeS true rfl sz4 rfl rfl rfl rfl encB_len encB_one (by omega) (by omega) ?_)
                  refine TL.nil ?_
                  refine S.n ?_
                  refine ⟨by repeat (first | exact Agr.refl _ _ | exact Agr.mask | refine Agr.upd rfl ?_ | refine Agr.maskIn rfl ?_ | refine Agr.upds rfl ?_), ((l203.set k179 true), ()), ⟨hh, hn227, hn205, hn207⟩, by repeat (first | exact trivial | refine ⟨rfl, ?_⟩), Sub.front 3 rfl rfl (Sub.front 3 rfl rfl (Sub.front 2 rfl rfl (Sub.front 3 rfl rfl (Sub.pre 4 rfl)))), rfl⟩
                · replace hh := iteO_f h225 hh
                  refine TL.gv rfl rfl rfl rfl rfl (OpVal.fieldLoc rfl fo26_2 rfl) rfl rfl ?_
                  refine TL.gv rfl rfl rfl rfl rfl (OpVal.loadLoc rfl ag24 rfl (i := 0) rfl rfl) rfl rfl ?_
                  refine TL.gv rfl rfl rfl rfl rfl (OpVal.moveI (.inl rfl) rfl) rfl rfl ?_
                  have u61 := grd_c hh
                  replace hh := grd_t hh
                  refine TL.gv rfl rfl rfl rfl rfl (OpVal.indexN rfl Tryd.underlying24 sz4 rfl rfl f0_2.rv.sl (by omega)) rfl rfl ?_
                  refine TL.gv rfl rfl rfl rfl rfl (OpVal.loadS1 false rfl ag4 rfl f0_2 (by omega) rfl) rfl rfl ?_
                  refine TL.v rfl (OpVal.pickFB rfl rfl rfl) rfl rfl ?_
                  have u64 := grd_c hh
                  replace hh := grd_t hh
                  refine TL.isSl (i := 1) rfl (fun hs228 _ _ => ?_)
                  refine TL.v rfl (OpVal.indexN rfl Tryd.underlying24 sz4 rfl rfl hs228 (by omega)) rfl rfl ?_
                  refine TL.front 1 rfl rfl ?_
                  have hn229 : (l203.set k179 (nth x0.fin k208 false)).length = (List.replicate (x1.length + 1) false).length := by rw [List.length_set]; exact hn204
                  refine TL.op rfl (OpOk.storeS (nth x0.fin k208 false) rfl sz4 rfl rfl rfl rfl encB_len encB_one (by omega) (by omega) ?_)
                  refine TL.nil ?_
                  refine S.n ?_
                  refine ⟨by repeat (first | exact Agr.refl _ _ | exact Agr.mask | refine Agr.upd rfl ?_ | refine Agr.maskIn rfl ?_ | refine Agr.upds rfl ?_), ((l203.set k179 (nth x0.fin k208 false)), ()), ⟨hh, hn229, hn205, hn207⟩, by repeat (first | exact trivial | refine ⟨rfl, ?_⟩), Sub.front 3 rfl rfl (Sub.front 3 rfl rfl (Sub.front 2 rfl rfl (Sub.front 3 rfl rfl (Sub.pre 4 rfl)))), rfl⟩
              · skip
                obtain ⟨l220, _⟩ := g
                obtain ⟨hh, hn221, hn222, hn223⟩ := hg
                try dsimp only at hn221
                try dsimp only at hn222
                try dsimp only at hn223
                show TC _ _ _ (upds (mask _ j _) []) _ [Res.cells b101 #[.slice a0_0 x0.cls.length c0_0, .slice a0_1 x0.next.length c0_1, .slice a0_2 x0.fin.length c0_2] 26, Res.rowS 4 1 encB (.slice a111 (List.replicate (x1.length + 1) false).length c112) l220, Res.rowS 4 1 encB (.slice a171 (List.replicate x0.next.length false).length c172) (l170.set 0 true), Res.rowS 4 1 encB (.slice a176 (List.replicate x0.next.length false).length c177) l206]
                dsimp only [scan_Before_j3] at hh
                have hn221b := hn221
                have hn222b := hn222
                have hn223b := hn223
                refine TC.isSl (i := 1) rfl (fun _ hb230 _ => ?_)
                refine TC.isSl (i := 2) rfl (fun _ hb231 _ => ?_)
                refine TC.isSl (i := 3) rfl (fun _ hb232 _ => ?_)
                refine TC.seq ?_
                refine TC.region ?_
                refine TL.v rfl (OpVal.moveI (.inl rfl) rfl) rfl rfl ?_
                refine TL.v rfl (OpVal.moveStr (.inl rfl) rfl) rfl rfl ?_
                refine TL.v rfl (OpVal.lenBs rfl Tryd.underlying9 rfl) rfl rfl ?_
                refine TL.v rfl (OpVal.lss rfl rfl rfl) rfl rfl ?_
                refine TL.nil ?_
                refine S.n ?_
                refine TC.cond rfl (fun h233 => ?_) (fun h233 => ?_)
                · replace hh := iteO_t h233 hh
                  replace h233 := of_decide_eq_true h233
                  have u74 := grd_c hh
                  replace hh := grd_t hh
                  have u81 := grd_c hh
                  replace hh := grd_t hh
                  have u83 := grd_c hh
                  replace hh := grd_t hh
                  have u85 := grd_c hh
                  replace hh := grd_t hh
                  refine TC.draw [16] (by kernel_rfl) ?_
                  refine TA.takeP 0 rfl (by kernel_rfl) (by kernel_rfl) (by kernel_rfl) rfl (OpVal.moveSl (.inl rfl) rfl) rfl rfl ?_
                  refine TA.takeP 1 rfl (by kernel_rfl) (by kernel_rfl) (by kernel_rfl) rfl (OpVal.fieldLoc rfl fo26_1 rfl) rfl rfl ?_
                  refine TA.take 2 rfl (by kernel_rfl) (by kernel_rfl) (by kernel_rfl) (by kernel_rfl) rfl (OpVal.loadLoc rfl ag23 rfl (i := 0) rfl rfl) rfl rfl ?_
                  refine TA.takeP 3 rfl (by kernel_rfl) (by kernel_rfl) (by kernel_rfl) rfl (OpVal.moveI (.inl rfl) rfl) rfl rfl ?_
                  refine TA.take 4 rfl (by kernel_rfl) (by kernel_rfl) (by kernel_rfl) (by kernel_rfl) rfl (OpVal.indexN rfl Tryd.underlying23 sz22 rfl rfl f0_1.isSl (by omega)) rfl rfl ?_
                  obtain ⟨p237, hk237, hg237⟩ := RZ.seg f0_1 k208 (by omega)
                  replace hk237 : RS _ 1 Go.E.encI (.slice p237.1 (nth x0.next k208 ([] : List Int)).length p237.2) (nth x0.next k208 ([] : List Int)) := hk237
                  have hk237b := hk237.rv.big
                  refine TA.take 5 rfl (by kernel_rfl) (by kernel_rfl) (by kernel_rfl) (by kernel_rfl) rfl (OpVal.of (OpVal.loadSeg0 rfl ag22 rfl hg237 rfl) (v' := .slice p237.1 ((nth x0.next k208 ([] : List Int)).length) p237.2) rfl) rfl rfl ?_
                  refine TA.takeP 6 rfl (by kernel_rfl) (by kernel_rfl) (by kernel_rfl) rfl (OpVal.fieldLoc rfl fo26_0 rfl) rfl rfl ?_
                  refine TA.take 7 rfl (by kernel_rfl) (by kernel_rfl) (by kernel_rfl) (by kernel_rfl) rfl (OpVal.loadLoc rfl ag22 rfl (i := 0) rfl rfl) rfl rfl ?_
                  refine TA.takeP 8 rfl (by kernel_rfl) (by kernel_rfl) (by kernel_rfl) rfl (OpVal.moveStr (.inl rfl) rfl) rfl rfl ?_
                  refine TA.takeP 9 rfl (by kernel_rfl) (by kernel_rfl) (by kernel_rfl) rfl (OpVal.moveI (.inl rfl) rfl) rfl rfl ?_
                  refine TA.takeP 10 rfl (by kernel_rfl) (by kernel_rfl) (by kernel_rfl) rfl (OpVal.indexBs rfl Tryd.underlying9 rfl rfl (by omega)) rfl rfl ?_
                  refine TA.take 11 rfl (by kernel_rfl) (by kernel_rfl) (by kernel_rfl) (by kernel_rfl) rfl (OpVal.indexN rfl Tryd.underlying22 sz3 rfl rfl f0_0.rv.sl (by omega)) rfl rfl ?_
                  refine TA.take 12 rfl (by kernel_rfl) (by kernel_rfl) (by kernel_rfl) (by kernel_rfl) rfl (OpVal.loadS1 (0 : Int) rfl ag3 rfl f0_0 (by omega) rfl) rfl rfl ?_
                  refine TA.take 13 rfl (by kernel_rfl) (by kernel_rfl) (by kernel_rfl) (by kernel_rfl) rfl (OpVal.index rfl Tryd.underlying22 sz3 rfl rfl hk237.rv.sl u83.1 u83.2) rfl rfl ?_
                  refine TA.take 14 rfl (by kernel_rfl) (by kernel_rfl) (by kernel_rfl) (by kernel_rfl) rfl (OpVal.loadS1 (0 : Int) rfl ag3 rfl hk237 (by omega) rfl) rfl rfl ?_
                  refine TA.isSl (i := 3) rfl (fun hs238 _ _ => ?_)
                  refine TA.take 15 rfl (by kernel_rfl) (by kernel_rfl) (by kernel_rfl) (by kernel_rfl) rfl (OpVal.index rfl Tryd.underlying24 sz4 rfl rfl hs238 u85.1 u85.2) rfl rfl ?_
                  refine TA.front 3 rfl rfl ?_
                  have hn239 : (l206.set ((nth (nth x0.next k208 ([] : List Int)) ((nth x0.cls ((nth x1 k179 (0 : UInt8)).toNat) (0 : Int)).toNat) (0 : Int)).toNat) true).length = (List.replicate x0.next.length false).length := by rw [List.length_set]; exact hn223
                  refine TA.last 16 (by kernel_rfl) rfl rfl rfl (OpOk.storeS true rfl sz4 rfl rfl rfl rfl encB_len encB_one (by omega) (by omega) ?_)
                  refine TZ.done (by kernel_rfl) ?_
                  refine B.n ?_
                  refine S.n ?_
                  refine ⟨by repeat (first | exact Agr.refl _ _ | exact Agr.mask | refine Agr.upd rfl ?_ | refine Agr.maskIn rfl ?_ | refine Agr.upds rfl ?_), ((l220, (l206.set ((nth (nth x0.next k208 ([] : List Int)) ((nth x0.cls ((nth x1 k179 (0 : UInt8)).toNat) (0 : Int)).toNat) (0 : Int)).toNat) true)), ()), ⟨hh, hn221, hn222, hn239⟩, by repeat (first | exact trivial | refine ⟨rfl, ?_⟩), Sub.front 3 rfl rfl (Sub.front 3 rfl rfl (Sub.front 3 rfl rfl (Sub.pre 4 rfl))), rfl⟩
                · replace hh := iteO_f h233 hh
                  replace h233 := of_decide_eq_false h233
                  refine TC.skip ?_
                  refine B.n ?_
                  refine S.n ?_
                  refine ⟨by repeat (first | exact Agr.refl _ _ | exact Agr.mask | refine Agr.upd rfl ?_ | refine Agr.maskIn rfl ?_ | refine Agr.upds rfl ?_), ((l220, l206), ()), ⟨hh, hn221, hn222, hn223⟩, by repeat (first | exact trivial | refine ⟨rfl, ?_⟩), Sub.front 3 rfl rfl (Sub.front 3 rfl rfl (Sub.front 3 rfl rfl (Sub.front 3 rfl rfl (Sub.pre 4 rfl)))), rfl⟩
          · skip
            obtain ⟨⟨l213, l216⟩, _⟩ := g
            obtain ⟨hh, hn214, hn215, hn217⟩ := hg
            try dsimp only at hn214
            try dsimp only at hn215
            try dsimp only at hn217
            show TC _ _ _ (upds (mask _ j _) []) _ [Res.cells b101 #[.slice a0_0 x0.cls.length c0_0, .slice a0_1 x0.next.length c0_1, .slice a0_2 x0.fin.length c0_2] 26, Res.rowS 4 1 encB (.slice a111 (List.replicate (x1.length + 1) false).length c112) l213, Res.rowS 4 1 encB (.slice a171 (List.replicate x0.next.length false).length c172) (l170.set 0 true), Res.rowS 4 1 encB (.slice a176 (List.replicate x0.next.length false).length c177) l216]
            dsimp only [scan_Before_j2] at hh
            have hn214b := hn214
            have hn215b := hn215
            have hn217b := hn217
            refine TC.isSl (i := 1) rfl (fun _ hb240 _ => ?_)
            refine TC.isSl (i := 2) rfl (fun _ hb241 _ => ?_)
            refine TC.isSl (i := 3) rfl (fun _ hb242 _ => ?_)
            refine TC.region ?_
            refine TL.v rfl (OpVal.succ rfl rfl rfl (by omega)) rfl rfl ?_
            refine TL.v rfl (OpVal.moveI (.inl rfl) rfl) rfl rfl ?_
            refine TL.nil ?_
            refine S.n ?_
            obtain ⟨hh, hlt243⟩ := nxt_x hR2 hh
            refine ⟨by repeat (first | exact Agr.refl _ _ | exact Agr.mask | refine Agr.upd rfl ?_ | refine Agr.maskIn rfl ?_ | refine Agr.upds rfl ?_), ((l213, l216, (k208 + 1)), ()), hlt243, ⟨hh, hn214, hn215, hn217⟩, by repeat (first | exact trivial | refine ⟨rfl, ?_⟩), Sub.front 3 rfl rfl (Sub.front 3 rfl rfl (Sub.front 3 rfl rfl (Sub.front 3 rfl rfl (Sub.pre 4 rfl)))), rfl⟩
        · replace hh := iteO_f h212 hh
          replace h212 := of_decide_eq_false h212
          refine TC.exit ?_
          refine S.x ?_
          refine S.x ?_
          replace hh := fin_x hR2 hh
          refine TC.exitHere ?_
          refine S.n ?_
          refine TC.region ?_
          refine TL.v rfl (OpVal.moveSl (.inl rfl) rfl) rfl rfl ?_
          refine TL.v rfl (OpVal.moveSl (.inl rfl) rfl) rfl rfl ?_
          refine TL.v rfl (OpVal.moveSl (.inr rfl) rfl) rfl rfl ?_
          refine TL.v rfl (OpVal.moveSl (.inr rfl) rfl) rfl rfl ?_
          refine TL.nil ?_
          refine B.n ?_
          refine S.n ?_
          refine TC.region ?_
          refine TL.v rfl (OpVal.succ rfl rfl rfl (by omega)) rfl rfl ?_
          refine TL.v rfl (OpVal.moveI (.inl rfl) rfl) rfl rfl ?_
          refine TL.nil ?_
          refine S.n ?_
          obtain ⟨hh, hlt244⟩ := nxt_x hR1 hh
          refine ⟨by repeat (first | exact Agr.refl _ _ | exact Agr.mask | refine Agr.upd rfl ?_ | refine Agr.maskIn rfl ?_ | refine Agr.upds rfl ?_), ((l203, l206, (l170.set 0 true), (k179 + 1)), (a176, c177, a171, c172)), hlt244, ⟨hh, hn204, hn207, hn205⟩, by repeat (first | exact trivial | refine ⟨rfl, ?_⟩), Sub.front 2 rfl rfl (Sub.front 3 rfl rfl (Sub.front 3 rfl rfl (Sub.front 3 rfl rfl (Sub.pre 4 rfl)))), rfl⟩
      · replace hh := iteO_f h183 hh
        replace h183 := of_decide_eq_false h183
        refine TC.exit ?_
        refine S.x ?_
        refine S.x ?_
        replace hh := fin_x hR1 hh
        refine TC.exitHere ?_
        refine S.n ?_
        refine TC.seq ?_
        refine TC.region ?_
        refine TL.v rfl (OpVal.moveSl (.inl rfl) rfl) rfl rfl ?_
        refine TL.v rfl (OpVal.moveSl (.inr rfl) rfl) rfl rfl ?_
        refine TL.v rfl (OpVal.moveI (.inr rfl) rfl) rfl rfl ?_
        refine TL.nil ?_
        refine S.n ?_
        rw [← hn168]
        refine TC.front 1 rfl rfl ?_
        refine TC.sealS encB_len (fun τ247 hle246 hr245 => ?_)
        replace f0_0 := f0_0.mono hle246
        replace f0_1 := f0_1.mono hle246
        replace f0_2 := f0_2.mono hle246
        replace zf105 := zf105.mono hle246
        replace hr107 := hr107.mono hle246
        have hr245b := hr245.rv.big
        refine TC.ofSub (Sub.pre 0 rfl) ?_
        refine TC.ret ?_
        obtain rfl := Option.some.inj hh
        exact RetOk.mk' (rs := [.tmp 4, .tmp 5]) [] rfl (.inl rfl) (RVs.tmp rfl (RVs.tmp rfl RVs.nil)) (List.sublist_append_left _ _) ⟨a111, c112, rfl, hr245, rfl⟩

noncomputable def slices_Backward_byte_byte_1_b1 {Sy : Type} (x1 : List UInt8) (Y : Sy → Int × UInt8 → Option (Sy × Bool)) (i111 : Int) (s112 : Sy) : Option ((Int × Sy) ⊕ (Sy)) :=
  iteO (decide (0 ≤ i111)) (grd (0 ≤ i111 ∧ i111 < (x1.length : Int)) (bnd (Y s112 (i111, (nth x1 i111.toNat (0 : UInt8)))) (fun v13 => iteO (!v13.2) (fin (some v13.1)) (nxt ((IntKind.i64.wrap (i111 - 1)), v13.1))))) (fin (some s112))
noncomputable def slices_Backward_byte_byte_1 {Sy : Type} (Y : Sy → Int × UInt8 → Option (Sy × Bool)) (s0 : Sy) (x1 : List UInt8) : Option (Sy) :=
  iter (fun q : Int × Sy => slices_Backward_byte_byte_1_b1 x1 Y q.1 q.2) ((IntKind.i64.wrap (((x1.length : Nat) : Int) - 1)), s0)
theorem slices_Backward_byte_byte_1_con {Sy : Type} {σ : Store} {Y : Sy → Int × UInt8 → Option (Sy × Bool)} {s0 : Sy} {x1 : List UInt8} {b1_0 : Nat} {Eb1 : Nat} {a1_1 : Option Addr} {c1_2 : Nat} (f1_3 : RS σ 1 encU8 (.slice a1_1 x1.length c1_2) x1) {r : Sy} (hh : slices_Backward_byte_byte_1 Y s0 x1 = some r) :
    IterOk Tryd.prog 52 [loc b1_0 0] (fun (x : Int × UInt8) _ vs => vs = [.int .i64 x.1, .int .u8 ((x.2.toNat : Nat) : Int)]) Y σ [Res.cells b1_0 #[.slice a1_1 x1.length c1_2] Eb1] s0 r (fun σ' H' => H' = [Res.cells b1_0 #[.slice a1_1 x1.length c1_2] Eb1]) := by
  intro l Z ry0 hY hys
  dsimp only [slices_Backward_byte_byte_1] at hh
  have f1_3b := f1_3.rv.big
  refine Con.mk (n := 19) Tryd.func52 rfl rfl rfl (fun w0 => ?_)
  refine TC.weakR ?_
  refine TC.seq ?_
  refine TC.region ?_
  refine TL.v rfl (OpVal.loadLoc rfl ag69 rfl (i := 1) rfl rfl) rfl rfl ?_
  refine TL.v rfl (OpVal.lenC rfl Tryd.underlying69 rfl) rfl rfl ?_
  refine TL.v rfl (OpVal.subW rfl rfl rfl) rfl rfl ?_
  refine TL.v rfl (OpVal.moveI (.inr rfl) rfl) rfl rfl ?_
  refine TL.nil ?_
  refine S.n ?_
  refine TC.block ?_
  refine TC.loopG (α := (Int × Sy) × (Res × Store)) [3, 7, 8, 9, 10, 11, 12, 13, 14, 15, 16, 17, 18] (fun g => [(3, .int .i64 g.1.1)]) (fun g => [Res.cells b1_0 #[.slice a1_1 x1.length c1_2] Eb1, g.2.1]) (fun g => g.2.2) (fun g => iter (fun q : Int × Sy => slices_Backward_byte_byte_1_b1 x1 Y q.1 q.2) g.1 = some r ∧ YR Z g.1.2 g.2.2 g.2.1 ∧ Store.le σ g.2.2) (fun g => rounds (fun q : Int × Sy => slices_Backward_byte_byte_1_b1 x1 Y q.1 q.2) g.1) (((IntKind.i64.wrap (((x1.length : Nat) : Int) - 1)), s0), (ry0, σ)) (Sub.front 1 rfl rfl (Sub.pre 2 rfl)) rfl (by repeat (first | exact trivial | refine ⟨rfl, ?_⟩)) ⟨hh, hys, (Store.le.refl _)⟩ (fun g1 j1 hg1 => ?_)
  obtain ⟨⟨i111, s112⟩, ⟨ry113, τ115⟩⟩ := g1
  obtain ⟨hh, hy114, hle116⟩ := hg1
  try dsimp only at hy114
  dsimp only at hle116
  replace hys := hys.mono hle116
  replace f1_3 := f1_3.mono hle116
  show TC _ _ _ (upds (mask _ j1 _) [(3, .int .i64 i111)]) τ115 [Res.cells b1_0 #[.slice a1_1 x1.length c1_2] Eb1, ry113]
  obtain ⟨z1, hh, hR1⟩ := iter_e hh
  dsimp only [slices_Backward_byte_byte_1_b1] at hh
  skip
  refine TC.seq ?_
  refine TC.seq ?_
  refine TC.region ?_
  refine TL.v rfl (OpVal.moveI (.inl rfl) rfl) rfl rfl ?_
  refine TL.v rfl (OpVal.geq rfl rfl rfl) rfl rfl ?_
  refine TL.nil ?_
  refine S.n ?_
  refine TC.cond rfl (fun h117 => ?_) (fun h117 => ?_)
  · replace hh := iteO_t h117 hh
    replace h117 := of_decide_eq_true h117
    refine TC.skip ?_
    refine S.n ?_
    refine TC.seq ?_
    refine TC.block ?_
    refine TC.seq ?_
    refine TC.region ?_
    refine TL.v rfl (OpVal.mv (.inl rfl)) rfl rfl ?_
    refine TL.v rfl (OpVal.moveI (.inl rfl) rfl) rfl rfl ?_
    refine TL.v rfl (OpVal.loadLoc rfl ag69 rfl (i := 0) rfl rfl) rfl rfl ?_
    refine TL.v rfl (OpVal.moveI (.inl rfl) rfl) rfl rfl ?_
    have u11 := grd_c hh
    replace hh := grd_t hh
    refine TL.v rfl (OpVal.index rfl Tryd.underlying69 sz5 rfl rfl f1_3.rv.sl u11.1 u11.2) rfl rfl ?_
    refine TL.v rfl (OpVal.loadS1 (0 : UInt8) rfl ag5 rfl f1_3 (by omega) rfl) rfl rfl ?_
    obtain ⟨v13, u13, hh⟩ := bnd_e hh
    refine TL.front 1 rfl rfl ?_
    refine TL.op rfl (OpOk.callY hY hy114 u13 rfl rfl rfl rfl rfl rfl ?_)
    rintro τ118 ry118 hle118 hy118
    replace hys := hys.mono hle118
    replace f1_3 := f1_3.mono hle118
    refine TL.v rfl (OpVal.not rfl rfl) rfl rfl ?_
    refine TL.nil ?_
    refine S.n ?_
    refine TC.cond rfl (fun h119 => ?_) (fun h119 => ?_)
    · replace hh := iteO_t h119 hh
      refine TC.ret ?_
      refine B.r ?_
      refine S.r ?_
      refine S.r ?_
      replace hh := fin_x hR1 hh
      refine B.r ?_
      obtain rfl := Option.some.inj hh
      refine ⟨_, Sub.front 1 rfl rfl (Sub.front 1 rfl rfl (Sub.pre 2 rfl)), ?_⟩
      exact RetOk.mk' (rs := []) [ry118, Res.cells b1_0 #[.slice a1_1 x1.length c1_2] Eb1] rfl (.inl rfl) RVs.nil (List.sublist_append_left _ _) ⟨_, _, rfl, hy118, rfl⟩
    · replace hh := iteO_f h119 hh
      refine TC.skip ?_
      refine B.n ?_
      refine S.n ?_
      refine TC.region ?_
      refine TL.v rfl (OpVal.moveI (.inl rfl) rfl) rfl rfl ?_
      refine TL.v rfl (OpVal.subW rfl rfl rfl) rfl rfl ?_
      refine TL.v rfl (OpVal.moveI (.inr rfl) rfl) rfl rfl ?_
      refine TL.nil ?_
      refine S.n ?_
      obtain ⟨hh, hlt120⟩ := nxt_x hR1 hh
      refine ⟨by repeat (first | exact Agr.refl _ _ | exact Agr.mask | refine Agr.upd rfl ?_ | refine Agr.maskIn rfl ?_ | refine Agr.upds rfl ?_), (((IntKind.i64.wrap (i111 - 1)), v13.1), (ry118, τ118)), hlt120, ⟨hh, hy118, (hle116.trans hle118)⟩, by repeat (first | exact trivial | refine ⟨rfl, ?_⟩), Sub.front 1 rfl rfl (Sub.pre 2 rfl), rfl⟩
  · replace hh := iteO_f h117 hh
    replace h117 := of_decide_eq_false h117
    refine TC.exit ?_
    refine S.x ?_
    refine S.x ?_
    replace hh := fin_x hR1 hh
    refine TC.exitHere ?_
    obtain rfl := Option.some.inj hh
    refine ⟨_, Sub.front 1 rfl rfl (Sub.pre 2 rfl), ?_⟩
    exact RetOk.mk' (rs := []) [ry113, Res.cells b1_0 #[.slice a1_1 x1.length c1_2] Eb1] rfl (.inr rfl) RVs.nil (List.sublist_append_left _ _) ⟨_, _, rfl, hy114, rfl⟩

noncomputable def slices_Backward (x0 : List UInt8) : Option ((List UInt8)) :=
  some x0
theorem slices_Backward_con {σ : Store} {x0 : List UInt8} {a0_0 : Option Addr} {c0_0 : Nat} (f0_0 : RS σ 1 encU8 (.slice a0_0 x0.length c0_0) x0) {r : (List UInt8)} (hh : slices_Backward x0 = some r) :
    Con Tryd.prog 34 #[.slice a0_0 x0.length c0_0] σ [] (fun v σ' H' => ∃ (br4 : Nat), ∃ (ar1 : Option Addr), ∃ (cr2 : Nat), v = .func (.func 52) #[] #[loc br4 0] ∧ RS σ' 1 encU8 (.slice ar1 r.length cr2) r ∧ H' = [Res.cells br4 #[.slice ar1 r.length cr2] 69]) := by
  dsimp only [slices_Backward] at hh
  have f0_0b := f0_0.rv.big
  refine Con.mk (n := 4) Tryd.func34 rfl rfl rfl (fun w0 => ?_)
  refine TC.seq ?_
  refine TC.region ?_
  refine TL.op rfl (OpOk.box rfl rfl rfl rfl (fun b103 => ?_))
  refine TL.v rfl (OpVal.mv (.inr rfl)) rfl rfl ?_
  refine TL.nil ?_
  refine S.n ?_
  refine TC.seq ?_
  refine TC.region ?_
  refine TL.v rfl (OpVal.makeFn rfl) rfl rfl ?_
  refine TL.v rfl (OpVal.moveFn (.inr rfl) rfl) rfl rfl ?_
  refine TL.nil ?_
  refine S.n ?_
  refine TC.ret ?_
  obtain rfl := Option.some.inj hh
  exact RetOk.mk' (rs := [.tmp 2]) [Res.cells b103 #[.slice a0_0 x0.length c0_0] 69] rfl (.inl rfl) (RVs.tmp rfl RVs.nil) (List.sublist_append_left _ _) ⟨b103, a0_0, c0_0, rfl, f0_0, rfl⟩

theorem cloneB_con {σ : Store} {a : Option Addr} {c : Nat} {l : List Bool} (hl : RS σ 1 encB (.slice a l.length c) l) (hsz : l.length * 1 ≤ 140737488355328) :
    Con Tryd.prog 33 #[.slice a l.length c] σ [] (RowP 4 1 encB l σ) := by
  have hb := hl.rv.big
  refine Con.mk (n := 8) Tryd.func33 rfl rfl rfl (fun w0 => ?_)
  refine TC.seq ?_
  refine TC.region ?_
  refine TL.v rfl (OpVal.moveSl (.inr rfl) rfl) rfl rfl ?_
  refine TL.nilS 4 1 encB ?_
  refine TL.nil ?_
  refine S.n ?_
  refine TC.seq ?_
  refine TC.seq ?_
  refine TC.region ?_
  refine TL.v rfl (OpVal.moveSl (.inl rfl) rfl) rfl rfl ?_
  refine TL.v rfl (OpVal.eqlNilSl rfl Tryd.underlying24 rfl rfl) rfl rfl ?_
  refine TL.nil ?_
  refine S.n ?_
  refine TC.cond rfl (fun h2 => ?_) (fun h2 => ?_)
  · refine TC.seq ?_
    refine TC.region ?_
    refine TL.v rfl (OpVal.moveSl (.inr rfl) rfl) rfl rfl ?_
    refine TL.nilS 4 1 encB ?_
    refine TL.nil ?_
    refine S.n ?_
    refine TC.ret ?_
    refine S.r ?_
    cases a with
    | some _ => simp at h2
    | none =>
      obtain rfl := hl.none_nil
      exact ret1R rfl rfl
  · refine TC.skip ?_
    refine S.n ?_
    refine TC.seq ?_
    refine TC.region ?_
    refine TL.op rfl (OpOk.lit0 (enc := encB) rfl rfl Tryd.underlying24 sz4 rfl rfl (fun a4 c5 => ?_))
    refine TL.v rfl (OpVal.moveSl (.inl rfl) rfl) rfl rfl ?_
    refine TL.op rfl (OpOk.appendS rfl rfl Tryd.underlying24 sz4 by4 ze4 rfl rfl (by decide) rfl rfl rfl (.inl hl) (by simpa using hsz) (by decide) (fun a7 c8 => ?_))
    refine TL.v rfl (OpVal.moveSl (.inr rfl) rfl) rfl rfl ?_
    refine TL.nil ?_
    refine S.n ?_
    refine TC.ret ?_
    exact ret1R rfl rfl

noncomputable def scan_After_j2 (k375 : Nat) (l381 : List Bool) : Option (((List Bool) × Nat) ⊕ (Nat × ((List Bool) × (List Bool) × (List Bool)))) :=
  nxt (l381, (k375 + 1))
noncomputable def scan_After_b1 (x0 : Dfa) (y4_1 : UInt8) (l351 : List Bool) (y4_0 : Int) (l348 : List Bool) (l373 : List Bool) (k375 : Nat) : Option (((List Bool) × Nat) ⊕ (Nat × ((List Bool) × (List Bool) × (List Bool)))) :=
  iteO (decide (((k375 : Nat) : Int) < ((x0.fin.length : Nat) : Int))) (iteO (nth x0.fin k375 false) (grd (k375 < l373.length) (scan_After_j2 k375 (l373.set k375 true))) (grd (k375 < x0.next.length) (grd (y4_1.toNat < x0.cls.length) (grd (0 ≤ (nth x0.cls y4_1.toNat (0 : Int)) ∧ (nth x0.cls y4_1.toNat (0 : Int)) < ((nth x0.next k375 ([] : List Int)).length : Int)) (grd (0 ≤ (nth (nth x0.next k375 ([] : List Int)) ((nth x0.cls y4_1.toNat (0 : Int)).toNat) (0 : Int)) ∧ (nth (nth x0.next k375 ([] : List Int)) ((nth x0.cls y4_1.toNat (0 : Int)).toNat) (0 : Int)) < (l351.length : Int)) (grd (k375 < l373.length) (scan_After_j2 k375 (l373.set k375 (nth l351 ((nth (nth x0.next k375 ([] : List Int)) ((nth x0.cls y4_1.toNat (0 : Int)).toNat) (0 : Int)).toNat) false))))))))) (fin (grd (0 < l373.length) (grd (0 ≤ y4_0 ∧ y4_0 < (l348.length : Int)) (some (0, ((l348.set y4_0.toNat (nth l373 0 false)), l373, l351))))))
noncomputable def scan_After_r4 (x0 : Dfa) (l348 : List Bool) (l351 : List Bool) (l355 : List Bool) (y4_0 : Int) (y4_1 : UInt8) : Option (Nat × ((List Bool) × (List Bool) × (List Bool))) :=
  iter (fun q : (List Bool) × Nat => scan_After_b1 x0 y4_1 l351 y4_0 l348 q.1 q.2) (l355, 0)
noncomputable def scan_After_k4 (jz : Nat) (l348 : List Bool) (l351 : List Bool) (l355 : List Bool) : Option ((List Bool) × Int) :=
  jsel jz (some (l348, 0)) (fun _ => none)
noncomputable def scan_After_j1 (x0 : Dfa) (x1 : List UInt8) : Option ((List Bool) × Int) :=
  grd (0 < x0.fin.length) (grd (x1.length < (List.replicate (x1.length + 1) false).length) (grd (x1.length ≤ 281474976710656) (bnd (slices_Backward x1) (fun v41 => bnd (slices_Backward_byte_byte_1 (stepY (fun (q : (List Bool) × (List Bool) × (List Bool)) (x : Int × UInt8) => scan_After_r4 x0 q.1 q.2.1 q.2.2 x.1 x.2)) (0, (((List.replicate (x1.length + 1) false).set x1.length (nth x0.fin 0 false)), x0.fin, (List.replicate x0.fin.length false))) v41) (fun zr4 => scan_After_k4 zr4.1 zr4.2.1 zr4.2.2.1 zr4.2.2.2)))))
noncomputable def scan_After (x0 : Dfa) (x1 : List UInt8) : Option ((List Bool) × Int) :=
  grd (x1.length ≤ 281474976710656) (bnd (scan_check x1 [x0]) (fun v7 => iteO (decide (v7 ≠ 0)) (some (([] : List Bool), v7)) (grd (1 * (x1.length + 1) ≤ 281474976710656) (grd (x0.fin.length * 1 ≤ 140737488355328) (grd (1 * x0.fin.length ≤ 281474976710656) (scan_After_j1 x0 x1))))))
def scan_After_P (σ : Store) (r : (List Bool) × Int) : Value → Store → List Res → Prop := fun v σ' H' =>
  ∃ (a1 : Option Addr), ∃ (c1 : Nat),  v = .tuple #[.slice a1 r.1.length c1, .int .i64 r.2] ∧ RS σ' 1 encB (.slice a1 r.1.length c1) r.1 ∧ H' = []
theorem scan_After_con {σ : Store} {x0 : Dfa} {a0_0 : Option Addr} {c0_0 : Nat} {a0_1 : Option Addr} {c0_1 : Nat} {a0_2 : Option Addr} {c0_2 : Nat} {x1 : List UInt8} (f0_0 : RS σ 1 Go.E.encI (.slice a0_0 x0.cls.length c0_0) x0.cls) (f0_1 : RZ σ (pkSl 1 Go.E.encI Go.E.encI_len) (.slice a0_1 x0.next.length c0_1) x0.next) (f0_2 : RS σ 1 encB (.slice a0_2 x0.fin.length c0_2) x0.fin) {r : (List Bool) × Int} (hh : scan_After x0 x1 = some r) :
    Con Tryd.prog 16 #[.agg #[.slice a0_0 x0.cls.length c0_0, .slice a0_1 x0.next.length c0_1, .slice a0_2 x0.fin.length c0_2], .string (bs x1)] σ [] (scan_After_P σ r) := by
  dsimp only [scan_After] at hh
  have f0_0b := f0_0.rv.big
  have f0_1b := f0_1.big
  have f0_2b := f0_2.rv.big
  refine Con.mk (n := 83) Tryd.func16 rfl rfl rfl (fun w0 => ?_)
  have x1b := grd_c hh
  replace hh := grd_t hh
  refine TC.seq ?_
  refine TC.region ?_
  refine TL.op rfl (OpOk.boxA rfl rfl rfl rfl (fun b101 => ?_))
  refine TL.v rfl (OpVal.moveSl (.inr rfl) rfl) rfl rfl ?_
  refine TL.v rfl (OpVal.moveI (.inr rfl) rfl) rfl rfl ?_
  refine TL.nil ?_
  refine S.n ?_
  refine TC.seq ?_
  refine TC.seq ?_
  refine TC.region ?_
  refine TL.v rfl (OpVal.moveStr (.inl rfl) rfl) rfl rfl ?_
  refine TL.v rfl (OpVal.loadAll rfl ag26 sz26 rfl (i := 0) rfl rfl) rfl rfl ?_
  have zf105 : ZOk _ pkDfa ([(x0, ⟨a0_0, c0_0, a0_1, c0_1, a0_2, c0_2⟩)] : List (Dfa × pkDfa.P)) [x0] := ZOk.cons (⟨f0_0, f0_1, f0_2⟩) (ZOk.nil _ _)
  refine TL.op rfl (OpOk.litZ zf105 rfl Tryd.underlying72 sz26 rfl ze26 rfl rfl rfl (by decide) (by decide) rfl (by decide) rfl (by decide) (fun a103 c104 => ?_))
  refine TL.sealZ zf105 (fun τ109 hle108 hr107 => ?_)
  replace f0_0 := f0_0.mono hle108
  replace f0_1 := f0_1.mono hle108
  replace f0_2 := f0_2.mono hle108
  replace zf105 := zf105.mono hle108
  have hr107b := hr107.big
  obtain ⟨v7, u7, hh⟩ := bnd_e hh
  refine TL.op rfl (OpOk.callP (scan_check_con hr107 u7) rfl rfl pf21 rfl rfl rfl ?_)
  refine TL.v rfl (OpVal.moveI (.inr rfl) rfl) rfl rfl ?_
  refine TL.nil ?_
  refine S.n ?_
  refine TC.seq ?_
  refine TC.region ?_
  refine TL.v rfl (OpVal.moveI (.inl rfl) rfl) rfl rfl ?_
  refine TL.v rfl (OpVal.neq rfl rfl rfl) rfl rfl ?_
  refine TL.nil ?_
  refine S.n ?_
  refine TC.cond rfl (fun h110 => ?_) (fun h110 => ?_)
  · replace hh := iteO_t h110 hh
    replace h110 := of_decide_eq_true h110
    refine TC.seq ?_
    refine TC.region ?_
    refine TL.v rfl (OpVal.moveI (.inl rfl) rfl) rfl rfl ?_
    refine TL.v rfl (OpVal.moveSl (.inr rfl) rfl) rfl rfl ?_
    refine TL.v rfl (OpVal.moveI (.inr rfl) rfl) rfl rfl ?_
    refine TL.nil ?_
    refine S.n ?_
    refine TC.ofSub (Sub.pre 0 rfl) ?_
    refine TC.ret ?_
    refine S.r ?_
    obtain rfl := Option.some.inj hh
    exact RetOk.mk' (rs := [.tmp 4, .tmp 5]) [] rfl (.inl rfl) (RVs.tmp rfl (RVs.tmp rfl RVs.nil)) (List.sublist_append_left _ _) ⟨none, 0, rfl, (RS.nilF _ encB encB_len), rfl⟩
  · replace hh := iteO_f h110 hh
    replace h110 := of_decide_eq_false h110
    refine TC.skip ?_
    refine S.n ?_
    refine TC.seq ?_
    refine TC.region ?_
    refine TL.v rfl (OpVal.moveStr (.inl rfl) rfl) rfl rfl ?_
    refine TL.v rfl (OpVal.lenBs rfl Tryd.underlying9 rfl) rfl rfl ?_
    refine TL.v rfl (OpVal.succ rfl rfl rfl (by omega)) rfl rfl ?_
    have u17 := grd_c hh
    replace hh := grd_t hh
    refine TL.op rfl (OpOk.makeS2 (enc := encB) false rfl Tryd.underlying24 sz4 by4 ze4 rfl rfl rfl rfl (by omega) (by decide) encB_len (by decide) rfl encB_one (fun a111 c112 => ?_))
    refine TL.op rfl (OpOk.alloc rfl ze24 rfl rfl (fun b114 => ?_))
    refine TL.op rfl (OpOk.storeSl rfl sz24 rfl rfl rfl rfl rfl ?_)
    refine TL.nil ?_
    refine S.n ?_
    refine TC.cutG (α := (Unit) × (Nat × (Option Addr) × Nat × Nat × (Option Addr) × Nat)) [8, 9, 25, 26, 27, 28, 29, 30, 31] (fun g => [(8, loc g.2.1 0), (9, loc g.2.2.2.2.1 0)]) (fun g => [Res.cells b101 #[.slice a0_0 x0.cls.length c0_0, .slice a0_1 x0.next.length c0_1, .slice a0_2 x0.fin.length c0_2] 26, Res.cells b114 #[.slice a111 ((List.replicate (x1.length + 1) false).length) c112] 24, Res.rowS 4 1 encB (.slice a111 (List.replicate (x1.length + 1) false).length c112) (List.replicate (x1.length + 1) false), Res.cells g.2.1 #[.slice g.2.2.1 x0.fin.length g.2.2.2.1] 24, Res.rowS 4 1 encB (.slice g.2.2.1 x0.fin.length g.2.2.2.1) x0.fin, Res.cells g.2.2.2.2.1 #[.slice g.2.2.2.2.2.1 ((List.replicate x0.fin.length false).length) g.2.2.2.2.2.2] 24, Res.rowS 4 1 encB (.slice g.2.2.2.2.2.1 (List.replicate x0.fin.length false).length g.2.2.2.2.2.2) (List.replicate x0.fin.length false)]) (fun g => τ109) (fun g => scan_After_j1 x0 x1 = some r) ?_ (fun g j hg => ?_)
    · skip
      have u22 := grd_c hh
      replace hh := grd_t hh
      have u26 := grd_c hh
      replace hh := grd_t hh
      refine TC.drawR (Hr := [Res.cells b114 #[.slice a111 ((List.replicate (x1.length + 1) false).length) c112] 24, Res.rowS 4 1 encB (.slice a111 (List.replicate (x1.length + 1) false).length c112) (List.replicate (x1.length + 1) false), Res.cells b101 #[.slice a0_0 x0.cls.length c0_0, .slice a0_1 x0.next.length c0_1, .slice a0_2 x0.fin.length c0_2] 26]) (fun r hr => mem_pick [0, 1, 2] rfl hr) [] (by kernel_rfl) ?_
      refine TA.takeP 0 rfl (by kernel_rfl) (by kernel_rfl) (by kernel_rfl) rfl (OpVal.fieldLoc rfl fo26_2 rfl) rfl rfl ?_
      refine TA.take 1 rfl (by kernel_rfl) (by kernel_rfl) (by kernel_rfl) (by kernel_rfl) rfl (OpVal.loadLoc rfl ag24 rfl (i := 2) rfl rfl) rfl rfl ?_
      refine TA.takeP 3 rfl (by kernel_rfl) (by kernel_rfl) (by kernel_rfl) rfl (OpVal.fieldLoc rfl fo26_2 rfl) rfl rfl ?_
      refine TA.take 4 rfl (by kernel_rfl) (by kernel_rfl) (by kernel_rfl) (by kernel_rfl) rfl (OpVal.loadLoc rfl ag24 rfl (i := 2) rfl rfl) rfl rfl ?_
      refine TA.take 5 rfl (by kernel_rfl) (by kernel_rfl) (by kernel_rfl) (by kernel_rfl) rfl (OpVal.lenC rfl Tryd.underlying24 rfl) rfl rfl ?_
      refine TA.actN [2, 6, 7, 8] (by kernel_rfl) (And.intro (Exists.intro _ (And.intro rfl (And.intro rfl (OpOk.call (cloneB_con f0_2 u22) rfl rfl pf33 rfl rfl rfl rfl ?_)))) (And.intro (Exists.intro _ (And.intro rfl (And.intro rfl (OpOk.makeS2 (enc := encB) false rfl Tryd.underlying24 sz4 by4 ze4 rfl rfl rfl rfl (by omega) (by decide) encB_len (by decide) rfl encB_one (fun a139 c140 => ⟨(fun w h => sees_of (Store.le.refl _) (fun r hr => (List.mem_cons_of_mem _ hr)) w h), ?_⟩))))) (And.intro (Exists.intro _ (And.intro rfl (And.intro rfl (OpOk.alloc rfl ze24 rfl rfl (fun b142 => ⟨(fun w h => sees_of (Store.le.refl _) (fun r hr => (List.mem_cons_of_mem _ hr)) w h), ?_⟩))))) (And.intro (Exists.intro _ (And.intro rfl (And.intro rfl (OpOk.alloc rfl ze24 rfl rfl (fun b144 => ⟨(fun w h => sees_of (Store.le.refl _) (fun r hr => (List.mem_cons_of_mem _ hr)) w h), ?_⟩))))) (True.intro)))))
      · skip
        rintro _ _ _ _ ⟨⟨a136, c137, rfl⟩, rfl, rfl⟩
        refine ⟨(fun w h => sees_of (Store.le.refl _) (fun r hr => (List.mem_cons_of_mem _ hr)) w h), ?_⟩
        refine TA.actN [6, 7, 8] (by kernel_rfl) (And.intro (Exists.intro _ (And.intro rfl (And.intro rfl (OpOk.makeS2 (enc := encB) false rfl Tryd.underlying24 sz4 by4 ze4 rfl rfl rfl rfl (by omega) (by decide) encB_len (by decide) rfl encB_one (fun a146 c147 => ⟨(fun w h => sees_of (Store.le.refl _) (fun r hr => (List.mem_cons_of_mem _ (List.mem_cons_of_mem _ hr))) w h), ?_⟩))))) (And.intro (Exists.intro _ (And.intro rfl (And.intro rfl (OpOk.alloc rfl ze24 rfl rfl (fun b149 => ⟨(fun w h => sees_of (Store.le.refl _) (fun r hr => (List.mem_cons_of_mem _ (List.mem_cons_of_mem _ hr))) w h), ?_⟩))))) (And.intro (Exists.intro _ (And.intro rfl (And.intro rfl (OpOk.alloc rfl ze24 rfl rfl (fun b151 => ⟨(fun w h => sees_of (Store.le.refl _) (fun r hr => (List.mem_cons_of_mem _ (List.mem_cons_of_mem _ hr))) w h), ?_⟩))))) (True.intro))))
        · skip
          refine TA.actN [7, 8] (by kernel_rfl) (And.intro (Exists.intro _ (And.intro rfl (And.intro rfl (OpOk.alloc rfl ze24 rfl rfl (fun b153 => ⟨(fun w h => sees_of (Store.le.refl _) (fun r hr => (List.mem_cons_of_mem _ (List.mem_cons_of_mem _ (List.mem_cons_of_mem _ hr)))) w h), ?_⟩))))) (And.intro (Exists.intro _ (And.intro rfl (And.intro rfl (OpOk.alloc rfl ze24 rfl rfl (fun b155 => ⟨(fun w h => sees_of (Store.le.refl _) (fun r hr => (List.mem_cons_of_mem _ (List.mem_cons_of_mem _ (List.mem_cons_of_mem _ hr)))) w h), ?_⟩))))) (True.intro)))
          · skip
            refine TA.act 8 (by kernel_rfl) rfl rfl (OpOk.alloc rfl ze24 rfl rfl (fun b157 => ⟨(fun w h => sees_of (Store.le.refl _) (fun r hr => (List.mem_cons_of_mem _ (List.mem_cons_of_mem _ (List.mem_cons_of_mem _ (List.mem_cons_of_mem _ hr))))) w h), ?_⟩))
            refine TA.front 1 rfl rfl ?_
            refine TA.act 9 (by kernel_rfl) rfl rfl (OpOk.storeSl rfl sz24 rfl rfl rfl rfl rfl ⟨(fun w h => sees_of (Store.le.refl _) (fun r hr => (List.mem_cons_of_mem _ (List.mem_cons_of_mem _ (List.mem_cons_of_mem _ (List.mem_cons_of_mem _ hr))))) w h), ?_⟩)
            refine TA.front 1 rfl rfl ?_
            refine TA.act 10 (by kernel_rfl) rfl rfl (OpOk.storeSl rfl sz24 rfl rfl rfl rfl rfl ⟨(fun w h => sees_of (Store.le.refl _) (fun r hr => (List.mem_cons_of_mem _ (List.mem_cons_of_mem _ (List.mem_cons_of_mem _ (List.mem_cons_of_mem _ hr))))) w h), ?_⟩)
            refine TA.done (by kernel_rfl) ?_
            refine S.n ?_
            refine ⟨by repeat (first | exact Agr.refl _ _ | exact Agr.mask | refine Agr.upd rfl ?_ | refine Agr.maskIn rfl ?_ | refine Agr.upds rfl ?_), ((), (b153, a136, c137, b157, a146, c147)), hh, by repeat (first | exact trivial | refine ⟨rfl, ?_⟩), Sub.front 2 rfl rfl (Sub.front 1 rfl rfl (Sub.front 3 rfl rfl (Sub.front 3 rfl rfl (Sub.front 5 rfl rfl (Sub.front 5 rfl rfl (Sub.front 6 rfl rfl (Sub.pre 7 rfl))))))), rfl⟩
          · skip
            refine TA.act 7 (by kernel_rfl) rfl rfl (OpOk.alloc rfl ze24 rfl rfl (fun b159 => ⟨(fun w h => sees_of (Store.le.refl _) (fun r hr => (List.mem_cons_of_mem _ (List.mem_cons_of_mem _ (List.mem_cons_of_mem _ (List.mem_cons_of_mem _ hr))))) w h), ?_⟩))
            refine TA.act 9 (by kernel_rfl) rfl rfl (OpOk.storeSl rfl sz24 rfl rfl rfl rfl rfl ⟨(fun w h => sees_of (Store.le.refl _) (fun r hr => (List.mem_cons_of_mem _ (List.mem_cons_of_mem _ (List.mem_cons_of_mem _ (List.mem_cons_of_mem _ hr))))) w h), ?_⟩)
            refine TA.front 1 rfl rfl ?_
            refine TA.act 10 (by kernel_rfl) rfl rfl (OpOk.storeSl rfl sz24 rfl rfl rfl rfl rfl ⟨(fun w h => sees_of (Store.le.refl _) (fun r hr => (List.mem_cons_of_mem _ (List.mem_cons_of_mem _ (List.mem_cons_of_mem _ (List.mem_cons_of_mem _ hr))))) w h), ?_⟩)
            refine TA.done (by kernel_rfl) ?_
            refine S.n ?_
            refine ⟨by repeat (first | exact Agr.refl _ _ | exact Agr.mask | refine Agr.upd rfl ?_ | refine Agr.maskIn rfl ?_ | refine Agr.upds rfl ?_), ((), (b159, a136, c137, b155, a146, c147)), hh, by repeat (first | exact trivial | refine ⟨rfl, ?_⟩), Sub.front 2 rfl rfl (Sub.front 1 rfl rfl (Sub.front 3 rfl rfl (Sub.front 3 rfl rfl (Sub.front 5 rfl rfl (Sub.front 5 rfl rfl (Sub.front 6 rfl rfl (Sub.pre 7 rfl))))))), rfl⟩
        · skip
          refine TA.actN [6, 8] (by kernel_rfl) (And.intro (Exists.intro _ (And.intro rfl (And.intro rfl (OpOk.makeS2 (enc := encB) false rfl Tryd.underlying24 sz4 by4 ze4 rfl rfl rfl rfl (by omega) (by decide) encB_len (by decide) rfl encB_one (fun a161 c162 => ⟨(fun w h => sees_of (Store.le.refl _) (fun r hr => (List.mem_cons_of_mem _ (List.mem_cons_of_mem _ (List.mem_cons_of_mem _ hr)))) w h), ?_⟩))))) (And.intro (Exists.intro _ (And.intro rfl (And.intro rfl (OpOk.alloc rfl ze24 rfl rfl (fun b164 => ⟨(fun w h => sees_of (Store.le.refl _) (fun r hr => (List.mem_cons_of_mem _ (List.mem_cons_of_mem _ (List.mem_cons_of_mem _ hr)))) w h), ?_⟩))))) (True.intro)))
          · skip
            refine TA.act 8 (by kernel_rfl) rfl rfl (OpOk.alloc rfl ze24 rfl rfl (fun b166 => ⟨(fun w h => sees_of (Store.le.refl _) (fun r hr => (List.mem_cons_of_mem _ (List.mem_cons_of_mem _ (List.mem_cons_of_mem _ (List.mem_cons_of_mem _ hr))))) w h), ?_⟩))
            refine TA.front 2 rfl rfl ?_
            refine TA.act 9 (by kernel_rfl) rfl rfl (OpOk.storeSl rfl sz24 rfl rfl rfl rfl rfl ⟨(fun w h => sees_of (Store.le.refl _) (fun r hr => (List.mem_cons_of_mem _ (List.mem_cons_of_mem _ (List.mem_cons_of_mem _ (List.mem_cons_of_mem _ hr))))) w h), ?_⟩)
            refine TA.front 1 rfl rfl ?_
            refine TA.act 10 (by kernel_rfl) rfl rfl (OpOk.storeSl rfl sz24 rfl rfl rfl rfl rfl ⟨(fun w h => sees_of (Store.le.refl _) (fun r hr => (List.mem_cons_of_mem _ (List.mem_cons_of_mem _ (List.mem_cons_of_mem _ (List.mem_cons_of_mem _ hr))))) w h), ?_⟩)
            refine TA.done (by kernel_rfl) ?_
            refine S.n ?_
            refine ⟨by repeat (first | exact Agr.refl _ _ | exact Agr.mask | refine Agr.upd rfl ?_ | refine Agr.maskIn rfl ?_ | refine Agr.upds rfl ?_), ((), (b149, a136, c137, b166, a161, c162)), hh, by repeat (first | exact trivial | refine ⟨rfl, ?_⟩), Sub.front 2 rfl rfl (Sub.front 1 rfl rfl (Sub.front 3 rfl rfl (Sub.front 3 rfl rfl (Sub.front 5 rfl rfl (Sub.front 5 rfl rfl (Sub.front 6 rfl rfl (Sub.pre 7 rfl))))))), rfl⟩
          · skip
            refine TA.actN [6, 9] (by kernel_rfl) (And.intro (Exists.intro _ (And.intro rfl (And.intro rfl (OpOk.makeS2 (enc := encB) false rfl Tryd.underlying24 sz4 by4 ze4 rfl rfl rfl rfl (by omega) (by decide) encB_len (by decide) rfl encB_one (fun a168 c169 => ⟨(fun w h => sees_of (Store.le.refl _) (fun r hr => (List.mem_cons_of_mem _ (List.mem_cons_of_mem _ (List.mem_cons_of_mem _ (List.mem_cons_of_mem _ hr))))) w h), ?_⟩))))) (And.intro (Exists.intro _ (And.intro rfl (And.intro rfl (OpOk.front 1 rfl rfl (OpOk.storeSl rfl sz24 rfl rfl rfl rfl rfl ⟨(fun w h => sees_of (Store.le.refl _) (fun r hr => (List.mem_cons_of_mem _ (List.mem_cons_of_mem _ (List.mem_cons_of_mem _ hr)))) w h), ?_⟩))))) (True.intro)))
            · skip
              refine TA.front 2 rfl rfl ?_
              refine TA.act 9 (by kernel_rfl) rfl rfl (OpOk.storeSl rfl sz24 rfl rfl rfl rfl rfl ⟨(fun w h => sees_of (Store.le.refl _) (fun r hr => (List.mem_cons_of_mem _ (List.mem_cons_of_mem _ (List.mem_cons_of_mem _ (List.mem_cons_of_mem _ hr))))) w h), ?_⟩)
              refine TA.front 2 rfl rfl ?_
              refine TA.act 10 (by kernel_rfl) rfl rfl (OpOk.storeSl rfl sz24 rfl rfl rfl rfl rfl ⟨(fun w h => sees_of (Store.le.refl _) (fun r hr => (List.mem_cons_of_mem _ (List.mem_cons_of_mem _ (List.mem_cons_of_mem _ (List.mem_cons_of_mem _ hr))))) w h), ?_⟩)
              refine TA.done (by kernel_rfl) ?_
              refine S.n ?_
              refine ⟨by repeat (first | exact Agr.refl _ _ | exact Agr.mask | refine Agr.upd rfl ?_ | refine Agr.maskIn rfl ?_ | refine Agr.upds rfl ?_), ((), (b149, a136, c137, b164, a168, c169)), hh, by repeat (first | exact trivial | refine ⟨rfl, ?_⟩), Sub.front 2 rfl rfl (Sub.front 1 rfl rfl (Sub.front 3 rfl rfl (Sub.front 3 rfl rfl (Sub.front 5 rfl rfl (Sub.front 5 rfl rfl (Sub.front 6 rfl rfl (Sub.pre 7 rfl))))))), rfl⟩
            · skip
              refine TA.act 6 (by kernel_rfl) rfl rfl (OpOk.makeS2 (enc := encB) false rfl Tryd.underlying24 sz4 by4 ze4 rfl rfl rfl rfl (by omega) (by decide) encB_len (by decide) rfl encB_one (fun a171 c172 => ⟨(fun w h => sees_of (Store.le.refl _) (fun r hr => (List.mem_cons_of_mem _ (List.mem_cons_of_mem _ (List.mem_cons_of_mem _ (List.mem_cons_of_mem _ hr))))) w h), ?_⟩))
              refine TA.front 2 rfl rfl ?_
              refine TA.act 10 (by kernel_rfl) rfl rfl (OpOk.storeSl rfl sz24 rfl rfl rfl rfl rfl ⟨(fun w h => sees_of (Store.le.refl _) (fun r hr => (List.mem_cons_of_mem _ (List.mem_cons_of_mem _ (List.mem_cons_of_mem _ (List.mem_cons_of_mem _ hr))))) w h), ?_⟩)
              refine TA.done (by kernel_rfl) ?_
              refine S.n ?_
              refine ⟨by repeat (first | exact Agr.refl _ _ | exact Agr.mask | refine Agr.upd rfl ?_ | refine Agr.maskIn rfl ?_ | refine Agr.upds rfl ?_), ((), (b149, a136, c137, b164, a171, c172)), hh, by repeat (first | exact trivial | refine ⟨rfl, ?_⟩), Sub.front 1 rfl rfl (Sub.front 1 rfl rfl (Sub.front 3 rfl rfl (Sub.front 3 rfl rfl (Sub.front 5 rfl rfl (Sub.front 5 rfl rfl (Sub.front 6 rfl rfl (Sub.pre 7 rfl))))))), rfl⟩
        · skip
          refine TA.actN [6, 7] (by kernel_rfl) (And.intro (Exists.intro _ (And.intro rfl (And.intro rfl (OpOk.makeS2 (enc := encB) false rfl Tryd.underlying24 sz4 by4 ze4 rfl rfl rfl rfl (by omega) (by decide) encB_len (by decide) rfl encB_one (fun a174 c175 => ⟨(fun w h => sees_of (Store.le.refl _) (fun r hr => (List.mem_cons_of_mem _ (List.mem_cons_of_mem _ (List.mem_cons_of_mem _ hr)))) w h), ?_⟩))))) (And.intro (Exists.intro _ (And.intro rfl (And.intro rfl (OpOk.alloc rfl ze24 rfl rfl (fun b177 => ⟨(fun w h => sees_of (Store.le.refl _) (fun r hr => (List.mem_cons_of_mem _ (List.mem_cons_of_mem _ (List.mem_cons_of_mem _ hr)))) w h), ?_⟩))))) (True.intro)))
          · skip
            refine TA.act 7 (by kernel_rfl) rfl rfl (OpOk.alloc rfl ze24 rfl rfl (fun b179 => ⟨(fun w h => sees_of (Store.le.refl _) (fun r hr => (List.mem_cons_of_mem _ (List.mem_cons_of_mem _ (List.mem_cons_of_mem _ (List.mem_cons_of_mem _ hr))))) w h), ?_⟩))
            refine TA.act 9 (by kernel_rfl) rfl rfl (OpOk.storeSl rfl sz24 rfl rfl rfl rfl rfl ⟨(fun w h => sees_of (Store.le.refl _) (fun r hr => (List.mem_cons_of_mem _ (List.mem_cons_of_mem _ (List.mem_cons_of_mem _ (List.mem_cons_of_mem _ hr))))) w h), ?_⟩)
            refine TA.front 2 rfl rfl ?_
            refine TA.act 10 (by kernel_rfl) rfl rfl (OpOk.storeSl rfl sz24 rfl rfl rfl rfl rfl ⟨(fun w h => sees_of (Store.le.refl _) (fun r hr => (List.mem_cons_of_mem _ (List.mem_cons_of_mem _ (List.mem_cons_of_mem _ (List.mem_cons_of_mem _ hr))))) w h), ?_⟩)
            refine TA.done (by kernel_rfl) ?_
            refine S.n ?_
            refine ⟨by repeat (first | exact Agr.refl _ _ | exact Agr.mask | refine Agr.upd rfl ?_ | refine Agr.maskIn rfl ?_ | refine Agr.upds rfl ?_), ((), (b179, a136, c137, b151, a174, c175)), hh, by repeat (first | exact trivial | refine ⟨rfl, ?_⟩), Sub.front 2 rfl rfl (Sub.front 1 rfl rfl (Sub.front 3 rfl rfl (Sub.front 3 rfl rfl (Sub.front 5 rfl rfl (Sub.front 5 rfl rfl (Sub.front 6 rfl rfl (Sub.pre 7 rfl))))))), rfl⟩
          · skip
            refine TA.actN [6, 9] (by kernel_rfl) (And.intro (Exists.intro _ (And.intro rfl (And.intro rfl (OpOk.makeS2 (enc := encB) false rfl Tryd.underlying24 sz4 by4 ze4 rfl rfl rfl rfl (by omega) (by decide) encB_len (by decide) rfl encB_one (fun a181 c182 => ⟨(fun w h => sees_of (Store.le.refl _) (fun r hr => (List.mem_cons_of_mem _ (List.mem_cons_of_mem _ (List.mem_cons_of_mem _ (List.mem_cons_of_mem _ hr))))) w h), ?_⟩))))) (And.intro (Exists.intro _ (And.intro rfl (And.intro rfl (OpOk.storeSl rfl sz24 rfl rfl rfl rfl rfl ⟨(fun w h => sees_of (Store.le.refl _) (fun r hr => (List.mem_cons_of_mem _ (List.mem_cons_of_mem _ (List.mem_cons_of_mem _ hr)))) w h), ?_⟩)))) (True.intro)))
            · skip
              refine TA.front 1 rfl rfl ?_
              refine TA.act 9 (by kernel_rfl) rfl rfl (OpOk.storeSl rfl sz24 rfl rfl rfl rfl rfl ⟨(fun w h => sees_of (Store.le.refl _) (fun r hr => (List.mem_cons_of_mem _ (List.mem_cons_of_mem _ (List.mem_cons_of_mem _ (List.mem_cons_of_mem _ hr))))) w h), ?_⟩)
              refine TA.front 2 rfl rfl ?_
              refine TA.act 10 (by kernel_rfl) rfl rfl (OpOk.storeSl rfl sz24 rfl rfl rfl rfl rfl ⟨(fun w h => sees_of (Store.le.refl _) (fun r hr => (List.mem_cons_of_mem _ (List.mem_cons_of_mem _ (List.mem_cons_of_mem _ (List.mem_cons_of_mem _ hr))))) w h), ?_⟩)
              refine TA.done (by kernel_rfl) ?_
              refine S.n ?_
              refine ⟨by repeat (first | exact Agr.refl _ _ | exact Agr.mask | refine Agr.upd rfl ?_ | refine Agr.maskIn rfl ?_ | refine Agr.upds rfl ?_), ((), (b177, a136, c137, b151, a181, c182)), hh, by repeat (first | exact trivial | refine ⟨rfl, ?_⟩), Sub.front 2 rfl rfl (Sub.front 1 rfl rfl (Sub.front 3 rfl rfl (Sub.front 3 rfl rfl (Sub.front 5 rfl rfl (Sub.front 5 rfl rfl (Sub.front 6 rfl rfl (Sub.pre 7 rfl))))))), rfl⟩
            · skip
              refine TA.act 6 (by kernel_rfl) rfl rfl (OpOk.makeS2 (enc := encB) false rfl Tryd.underlying24 sz4 by4 ze4 rfl rfl rfl rfl (by omega) (by decide) encB_len (by decide) rfl encB_one (fun a184 c185 => ⟨(fun w h => sees_of (Store.le.refl _) (fun r hr => (List.mem_cons_of_mem _ (List.mem_cons_of_mem _ (List.mem_cons_of_mem _ (List.mem_cons_of_mem _ hr))))) w h), ?_⟩))
              refine TA.front 2 rfl rfl ?_
              refine TA.act 10 (by kernel_rfl) rfl rfl (OpOk.storeSl rfl sz24 rfl rfl rfl rfl rfl ⟨(fun w h => sees_of (Store.le.refl _) (fun r hr => (List.mem_cons_of_mem _ (List.mem_cons_of_mem _ (List.mem_cons_of_mem _ (List.mem_cons_of_mem _ hr))))) w h), ?_⟩)
              refine TA.done (by kernel_rfl) ?_
              refine S.n ?_
              refine ⟨by repeat (first | exact Agr.refl _ _ | exact Agr.mask | refine Agr.upd rfl ?_ | refine Agr.maskIn rfl ?_ | refine Agr.upds rfl ?_), ((), (b177, a136, c137, b151, a184, c185)), hh, by repeat (first | exact trivial | refine ⟨rfl, ?_⟩), Sub.front 1 rfl rfl (Sub.front 1 rfl rfl (Sub.front 3 rfl rfl (Sub.front 3 rfl rfl (Sub.front 5 rfl rfl (Sub.front 5 rfl rfl (Sub.front 6 rfl rfl (Sub.pre 7 rfl))))))), rfl⟩
      · skip
        refine TA.actN [2, 7, 8] (by kernel_rfl) (And.intro (Exists.intro _ (And.intro rfl (And.intro rfl (OpOk.call (cloneB_con f0_2 u22) rfl rfl pf33 rfl rfl rfl rfl ?_)))) (And.intro (Exists.intro _ (And.intro rfl (And.intro rfl (OpOk.alloc rfl ze24 rfl rfl (fun b190 => ⟨(fun w h => sees_of (Store.le.refl _) (fun r hr => (List.mem_cons_of_mem _ (List.mem_cons_of_mem _ hr))) w h), ?_⟩))))) (And.intro (Exists.intro _ (And.intro rfl (And.intro rfl (OpOk.alloc rfl ze24 rfl rfl (fun b192 => ⟨(fun w h => sees_of (Store.le.refl _) (fun r hr => (List.mem_cons_of_mem _ (List.mem_cons_of_mem _ hr))) w h), ?_⟩))))) (True.intro))))
        · skip
          rintro _ _ _ _ ⟨⟨a187, c188, rfl⟩, rfl, rfl⟩
          refine ⟨(fun w h => sees_of (Store.le.refl _) (fun r hr => (List.mem_cons_of_mem _ (List.mem_cons_of_mem _ hr))) w h), ?_⟩
          refine TA.actN [7, 8] (by kernel_rfl) (And.intro (Exists.intro _ (And.intro rfl (And.intro rfl (OpOk.alloc rfl ze24 rfl rfl (fun b194 => ⟨(fun w h => sees_of (Store.le.refl _) (fun r hr => (List.mem_cons_of_mem _ (List.mem_cons_of_mem _ (List.mem_cons_of_mem _ hr)))) w h), ?_⟩))))) (And.intro (Exists.intro _ (And.intro rfl (And.intro rfl (OpOk.alloc rfl ze24 rfl rfl (fun b196 => ⟨(fun w h => sees_of (Store.le.refl _) (fun r hr => (List.mem_cons_of_mem _ (List.mem_cons_of_mem _ (List.mem_cons_of_mem _ hr)))) w h), ?_⟩))))) (True.intro)))
          · skip
            refine TA.act 8 (by kernel_rfl) rfl rfl (OpOk.alloc rfl ze24 rfl rfl (fun b198 => ⟨(fun w h => sees_of (Store.le.refl _) (fun r hr => (List.mem_cons_of_mem _ (List.mem_cons_of_mem _ (List.mem_cons_of_mem _ (List.mem_cons_of_mem _ hr))))) w h), ?_⟩))
            refine TA.front 1 rfl rfl ?_
            refine TA.act 9 (by kernel_rfl) rfl rfl (OpOk.storeSl rfl sz24 rfl rfl rfl rfl rfl ⟨(fun w h => sees_of (Store.le.refl _) (fun r hr => (List.mem_cons_of_mem _ (List.mem_cons_of_mem _ (List.mem_cons_of_mem _ (List.mem_cons_of_mem _ hr))))) w h), ?_⟩)
            refine TA.front 1 rfl rfl ?_
            refine TA.act 10 (by kernel_rfl) rfl rfl (OpOk.storeSl rfl sz24 rfl rfl rfl rfl rfl ⟨(fun w h => sees_of (Store.le.refl _) (fun r hr => (List.mem_cons_of_mem _ (List.mem_cons_of_mem _ (List.mem_cons_of_mem _ (List.mem_cons_of_mem _ hr))))) w h), ?_⟩)
            refine TA.done (by kernel_rfl) ?_
            refine S.n ?_
            refine ⟨by repeat (first | exact Agr.refl _ _ | exact Agr.mask | refine Agr.upd rfl ?_ | refine Agr.maskIn rfl ?_ | refine Agr.upds rfl ?_), ((), (b194, a187, c188, b198, a139, c140)), hh, by repeat (first | exact trivial | refine ⟨rfl, ?_⟩), Sub.front 3 rfl rfl (Sub.front 1 rfl rfl (Sub.front 3 rfl rfl (Sub.front 3 rfl rfl (Sub.front 5 rfl rfl (Sub.front 5 rfl rfl (Sub.front 6 rfl rfl (Sub.pre 7 rfl))))))), rfl⟩
          · skip
            refine TA.act 7 (by kernel_rfl) rfl rfl (OpOk.alloc rfl ze24 rfl rfl (fun b200 => ⟨(fun w h => sees_of (Store.le.refl _) (fun r hr => (List.mem_cons_of_mem _ (List.mem_cons_of_mem _ (List.mem_cons_of_mem _ (List.mem_cons_of_mem _ hr))))) w h), ?_⟩))
            refine TA.act 9 (by kernel_rfl) rfl rfl (OpOk.storeSl rfl sz24 rfl rfl rfl rfl rfl ⟨(fun w h => sees_of (Store.le.refl _) (fun r hr => (List.mem_cons_of_mem _ (List.mem_cons_of_mem _ (List.mem_cons_of_mem _ (List.mem_cons_of_mem _ hr))))) w h), ?_⟩)
            refine TA.front 1 rfl rfl ?_
            refine TA.act 10 (by kernel_rfl) rfl rfl (OpOk.storeSl rfl sz24 rfl rfl rfl rfl rfl ⟨(fun w h => sees_of (Store.le.refl _) (fun r hr => (List.mem_cons_of_mem _ (List.mem_cons_of_mem _ (List.mem_cons_of_mem _ (List.mem_cons_of_mem _ hr))))) w h), ?_⟩)
            refine TA.done (by kernel_rfl) ?_
            refine S.n ?_
            refine ⟨by repeat (first | exact Agr.refl _ _ | exact Agr.mask | refine Agr.upd rfl ?_ | refine Agr.maskIn rfl ?_ | refine Agr.upds rfl ?_), ((), (b200, a187, c188, b196, a139, c140)), hh, by repeat (first | exact trivial | refine ⟨rfl, ?_⟩), Sub.front 3 rfl rfl (Sub.front 1 rfl rfl (Sub.front 3 rfl rfl (Sub.front 3 rfl rfl (Sub.front 5 rfl rfl (Sub.front 5 rfl rfl (Sub.front 6 rfl rfl (Sub.pre 7 rfl))))))), rfl⟩
        · skip
          refine TA.actN [2, 8] (by kernel_rfl) (And.intro (Exists.intro _ (And.intro rfl (And.intro rfl (OpOk.call (cloneB_con f0_2 u22) rfl rfl pf33 rfl rfl rfl rfl ?_)))) (And.intro (Exists.intro _ (And.intro rfl (And.intro rfl (OpOk.alloc rfl ze24 rfl rfl (fun b205 => ⟨(fun w h => sees_of (Store.le.refl _) (fun r hr => (List.mem_cons_of_mem _ (List.mem_cons_of_mem _ (List.mem_cons_of_mem _ hr)))) w h), ?_⟩))))) (True.intro)))
          · skip
            rintro _ _ _ _ ⟨⟨a202, c203, rfl⟩, rfl, rfl⟩
            refine ⟨(fun w h => sees_of (Store.le.refl _) (fun r hr => (List.mem_cons_of_mem _ (List.mem_cons_of_mem _ (List.mem_cons_of_mem _ hr)))) w h), ?_⟩
            refine TA.act 8 (by kernel_rfl) rfl rfl (OpOk.alloc rfl ze24 rfl rfl (fun b207 => ⟨(fun w h => sees_of (Store.le.refl _) (fun r hr => (List.mem_cons_of_mem _ (List.mem_cons_of_mem _ (List.mem_cons_of_mem _ (List.mem_cons_of_mem _ hr))))) w h), ?_⟩))
            refine TA.front 2 rfl rfl ?_
            refine TA.act 9 (by kernel_rfl) rfl rfl (OpOk.storeSl rfl sz24 rfl rfl rfl rfl rfl ⟨(fun w h => sees_of (Store.le.refl _) (fun r hr => (List.mem_cons_of_mem _ (List.mem_cons_of_mem _ (List.mem_cons_of_mem _ (List.mem_cons_of_mem _ hr))))) w h), ?_⟩)
            refine TA.front 1 rfl rfl ?_
            refine TA.act 10 (by kernel_rfl) rfl rfl (OpOk.storeSl rfl sz24 rfl rfl rfl rfl rfl ⟨(fun w h => sees_of (Store.le.refl _) (fun r hr => (List.mem_cons_of_mem _ (List.mem_cons_of_mem _ (List.mem_cons_of_mem _ (List.mem_cons_of_mem _ hr))))) w h), ?_⟩)
            refine TA.done (by kernel_rfl) ?_
            refine S.n ?_
            refine ⟨by repeat (first | exact Agr.refl _ _ | exact Agr.mask | refine Agr.upd rfl ?_ | refine Agr.maskIn rfl ?_ | refine Agr.upds rfl ?_), ((), (b190, a202, c203, b207, a139, c140)), hh, by repeat (first | exact trivial | refine ⟨rfl, ?_⟩), Sub.front 3 rfl rfl (Sub.front 1 rfl rfl (Sub.front 3 rfl rfl (Sub.front 3 rfl rfl (Sub.front 5 rfl rfl (Sub.front 5 rfl rfl (Sub.front 6 rfl rfl (Sub.pre 7 rfl))))))), rfl⟩
          · skip
            refine TA.act 2 (by kernel_rfl) rfl rfl (OpOk.call (cloneB_con f0_2 u22) rfl rfl pf33 rfl rfl rfl rfl ?_)
            rintro _ _ _ _ ⟨⟨a209, c210, rfl⟩, rfl, rfl⟩
            refine ⟨(fun w h => sees_of (Store.le.refl _) (fun r hr => (List.mem_cons_of_mem _ (List.mem_cons_of_mem _ (List.mem_cons_of_mem _ (List.mem_cons_of_mem _ hr))))) w h), ?_⟩
            refine TA.front 2 rfl rfl ?_
            refine TA.act 9 (by kernel_rfl) rfl rfl (OpOk.storeSl rfl sz24 rfl rfl rfl rfl rfl ⟨(fun w h => sees_of (Store.le.refl _) (fun r hr => (List.mem_cons_of_mem _ (List.mem_cons_of_mem _ (List.mem_cons_of_mem _ (List.mem_cons_of_mem _ hr))))) w h), ?_⟩)
            refine TA.front 2 rfl rfl ?_
            refine TA.act 10 (by kernel_rfl) rfl rfl (OpOk.storeSl rfl sz24 rfl rfl rfl rfl rfl ⟨(fun w h => sees_of (Store.le.refl _) (fun r hr => (List.mem_cons_of_mem _ (List.mem_cons_of_mem _ (List.mem_cons_of_mem _ (List.mem_cons_of_mem _ hr))))) w h), ?_⟩)
            refine TA.done (by kernel_rfl) ?_
            refine S.n ?_
            refine ⟨by repeat (first | exact Agr.refl _ _ | exact Agr.mask | refine Agr.upd rfl ?_ | refine Agr.maskIn rfl ?_ | refine Agr.upds rfl ?_), ((), (b190, a209, c210, b205, a139, c140)), hh, by repeat (first | exact trivial | refine ⟨rfl, ?_⟩), Sub.front 3 rfl rfl (Sub.front 1 rfl rfl (Sub.front 3 rfl rfl (Sub.front 3 rfl rfl (Sub.front 5 rfl rfl (Sub.front 5 rfl rfl (Sub.front 6 rfl rfl (Sub.pre 7 rfl))))))), rfl⟩
        · skip
          refine TA.actN [2, 7] (by kernel_rfl) (And.intro (Exists.intro _ (And.intro rfl (And.intro rfl (OpOk.call (cloneB_con f0_2 u22) rfl rfl pf33 rfl rfl rfl rfl ?_)))) (And.intro (Exists.intro _ (And.intro rfl (And.intro rfl (OpOk.alloc rfl ze24 rfl rfl (fun b215 => ⟨(fun w h => sees_of (Store.le.refl _) (fun r hr => (List.mem_cons_of_mem _ (List.mem_cons_of_mem _ (List.mem_cons_of_mem _ hr)))) w h), ?_⟩))))) (True.intro)))
          · skip
            rintro _ _ _ _ ⟨⟨a212, c213, rfl⟩, rfl, rfl⟩
            refine ⟨(fun w h => sees_of (Store.le.refl _) (fun r hr => (List.mem_cons_of_mem _ (List.mem_cons_of_mem _ (List.mem_cons_of_mem _ hr)))) w h), ?_⟩
            refine TA.act 7 (by kernel_rfl) rfl rfl (OpOk.alloc rfl ze24 rfl rfl (fun b217 => ⟨(fun w h => sees_of (Store.le.refl _) (fun r hr => (List.mem_cons_of_mem _ (List.mem_cons_of_mem _ (List.mem_cons_of_mem _ (List.mem_cons_of_mem _ hr))))) w h), ?_⟩))
            refine TA.act 9 (by kernel_rfl) rfl rfl (OpOk.storeSl rfl sz24 rfl rfl rfl rfl rfl ⟨(fun w h => sees_of (Store.le.refl _) (fun r hr => (List.mem_cons_of_mem _ (List.mem_cons_of_mem _ (List.mem_cons_of_mem _ (List.mem_cons_of_mem _ hr))))) w h), ?_⟩)
            refine TA.front 2 rfl rfl ?_
            refine TA.act 10 (by kernel_rfl) rfl rfl (OpOk.storeSl rfl sz24 rfl rfl rfl rfl rfl ⟨(fun w h => sees_of (Store.le.refl _) (fun r hr => (List.mem_cons_of_mem _ (List.mem_cons_of_mem _ (List.mem_cons_of_mem _ (List.mem_cons_of_mem _ hr))))) w h), ?_⟩)
            refine TA.done (by kernel_rfl) ?_
            refine S.n ?_
            refine ⟨by repeat (first | exact Agr.refl _ _ | exact Agr.mask | refine Agr.upd rfl ?_ | refine Agr.maskIn rfl ?_ | refine Agr.upds rfl ?_), ((), (b217, a212, c213, b192, a139, c140)), hh, by repeat (first | exact trivial | refine ⟨rfl, ?_⟩), Sub.front 3 rfl rfl (Sub.front 1 rfl rfl (Sub.front 3 rfl rfl (Sub.front 3 rfl rfl (Sub.front 5 rfl rfl (Sub.front 5 rfl rfl (Sub.front 6 rfl rfl (Sub.pre 7 rfl))))))), rfl⟩
          · skip
            refine TA.act 2 (by kernel_rfl) rfl rfl (OpOk.call (cloneB_con f0_2 u22) rfl rfl pf33 rfl rfl rfl rfl ?_)
            rintro _ _ _ _ ⟨⟨a219, c220, rfl⟩, rfl, rfl⟩
            refine ⟨(fun w h => sees_of (Store.le.refl _) (fun r hr => (List.mem_cons_of_mem _ (List.mem_cons_of_mem _ (List.mem_cons_of_mem _ (List.mem_cons_of_mem _ hr))))) w h), ?_⟩
            refine TA.front 1 rfl rfl ?_
            refine TA.act 9 (by kernel_rfl) rfl rfl (OpOk.storeSl rfl sz24 rfl rfl rfl rfl rfl ⟨(fun w h => sees_of (Store.le.refl _) (fun r hr => (List.mem_cons_of_mem _ (List.mem_cons_of_mem _ (List.mem_cons_of_mem _ (List.mem_cons_of_mem _ hr))))) w h), ?_⟩)
            refine TA.front 2 rfl rfl ?_
            refine TA.act 10 (by kernel_rfl) rfl rfl (OpOk.storeSl rfl sz24 rfl rfl rfl rfl rfl ⟨(fun w h => sees_of (Store.le.refl _) (fun r hr => (List.mem_cons_of_mem _ (List.mem_cons_of_mem _ (List.mem_cons_of_mem _ (List.mem_cons_of_mem _ hr))))) w h), ?_⟩)
            refine TA.done (by kernel_rfl) ?_
            refine S.n ?_
            refine ⟨by repeat (first | exact Agr.refl _ _ | exact Agr.mask | refine Agr.upd rfl ?_ | refine Agr.maskIn rfl ?_ | refine Agr.upds rfl ?_), ((), (b215, a219, c220, b192, a139, c140)), hh, by repeat (first | exact trivial | refine ⟨rfl, ?_⟩), Sub.front 3 rfl rfl (Sub.front 1 rfl rfl (Sub.front 3 rfl rfl (Sub.front 3 rfl rfl (Sub.front 5 rfl rfl (Sub.front 5 rfl rfl (Sub.front 6 rfl rfl (Sub.pre 7 rfl))))))), rfl⟩
      · skip
        refine TA.actN [2, 6, 8] (by kernel_rfl) (And.intro (Exists.intro _ (And.intro rfl (And.intro rfl (OpOk.call (cloneB_con f0_2 u22) rfl rfl pf33 rfl rfl rfl rfl ?_)))) (And.intro (Exists.intro _ (And.intro rfl (And.intro rfl (OpOk.makeS2 (enc := encB) false rfl Tryd.underlying24 sz4 by4 ze4 rfl rfl rfl rfl (by omega) (by decide) encB_len (by decide) rfl encB_one (fun a225 c226 => ⟨(fun w h => sees_of (Store.le.refl _) (fun r hr => (List.mem_cons_of_mem _ (List.mem_cons_of_mem _ hr))) w h), ?_⟩))))) (And.intro (Exists.intro _ (And.intro rfl (And.intro rfl (OpOk.alloc rfl ze24 rfl rfl (fun b228 => ⟨(fun w h => sees_of (Store.le.refl _) (fun r hr => (List.mem_cons_of_mem _ (List.mem_cons_of_mem _ hr))) w h), ?_⟩))))) (True.intro))))
        · skip
          rintro _ _ _ _ ⟨⟨a222, c223, rfl⟩, rfl, rfl⟩
          refine ⟨(fun w h => sees_of (Store.le.refl _) (fun r hr => (List.mem_cons_of_mem _ (List.mem_cons_of_mem _ hr))) w h), ?_⟩
          refine TA.actN [6, 8] (by kernel_rfl) (And.intro (Exists.intro _ (And.intro rfl (And.intro rfl (OpOk.makeS2 (enc := encB) false rfl Tryd.underlying24 sz4 by4 ze4 rfl rfl rfl rfl (by omega) (by decide) encB_len (by decide) rfl encB_one (fun a230 c231 => ⟨(fun w h => sees_of (Store.le.refl _) (fun r hr => (List.mem_cons_of_mem _ (List.mem_cons_of_mem _ (List.mem_cons_of_mem _ hr)))) w h), ?_⟩))))) (And.intro (Exists.intro _ (And.intro rfl (And.intro rfl (OpOk.alloc rfl ze24 rfl rfl (fun b233 => ⟨(fun w h => sees_of (Store.le.refl _) (fun r hr => (List.mem_cons_of_mem _ (List.mem_cons_of_mem _ (List.mem_cons_of_mem _ hr)))) w h), ?_⟩))))) (True.intro)))
          · skip
            refine TA.act 8 (by kernel_rfl) rfl rfl (OpOk.alloc rfl ze24 rfl rfl (fun b235 => ⟨(fun w h => sees_of (Store.le.refl _) (fun r hr => (List.mem_cons_of_mem _ (List.mem_cons_of_mem _ (List.mem_cons_of_mem _ (List.mem_cons_of_mem _ hr))))) w h), ?_⟩))
            refine TA.front 3 rfl rfl ?_
            refine TA.act 9 (by kernel_rfl) rfl rfl (OpOk.storeSl rfl sz24 rfl rfl rfl rfl rfl ⟨(fun w h => sees_of (Store.le.refl _) (fun r hr => (List.mem_cons_of_mem _ (List.mem_cons_of_mem _ (List.mem_cons_of_mem _ (List.mem_cons_of_mem _ hr))))) w h), ?_⟩)
            refine TA.front 1 rfl rfl ?_
            refine TA.act 10 (by kernel_rfl) rfl rfl (OpOk.storeSl rfl sz24 rfl rfl rfl rfl rfl ⟨(fun w h => sees_of (Store.le.refl _) (fun r hr => (List.mem_cons_of_mem _ (List.mem_cons_of_mem _ (List.mem_cons_of_mem _ (List.mem_cons_of_mem _ hr))))) w h), ?_⟩)
            refine TA.done (by kernel_rfl) ?_
            refine S.n ?_
            refine ⟨by repeat (first | exact Agr.refl _ _ | exact Agr.mask | refine Agr.upd rfl ?_ | refine Agr.maskIn rfl ?_ | refine Agr.upds rfl ?_), ((), (b142, a222, c223, b235, a230, c231)), hh, by repeat (first | exact trivial | refine ⟨rfl, ?_⟩), Sub.front 2 rfl rfl (Sub.front 1 rfl rfl (Sub.front 3 rfl rfl (Sub.front 3 rfl rfl (Sub.front 5 rfl rfl (Sub.front 5 rfl rfl (Sub.front 6 rfl rfl (Sub.pre 7 rfl))))))), rfl⟩
          · skip
            refine TA.actN [6, 9] (by kernel_rfl) (And.intro (Exists.intro _ (And.intro rfl (And.intro rfl (OpOk.makeS2 (enc := encB) false rfl Tryd.underlying24 sz4 by4 ze4 rfl rfl rfl rfl (by omega) (by decide) encB_len (by decide) rfl encB_one (fun a237 c238 => ⟨(fun w h => sees_of (Store.le.refl _) (fun r hr => (List.mem_cons_of_mem _ (List.mem_cons_of_mem _ (List.mem_cons_of_mem _ (List.mem_cons_of_mem _ hr))))) w h), ?_⟩))))) (And.intro (Exists.intro _ (And.intro rfl (And.intro rfl (OpOk.front 2 rfl rfl (OpOk.storeSl rfl sz24 rfl rfl rfl rfl rfl ⟨(fun w h => sees_of (Store.le.refl _) (fun r hr => (List.mem_cons_of_mem _ (List.mem_cons_of_mem _ (List.mem_cons_of_mem _ hr)))) w h), ?_⟩))))) (True.intro)))
            · skip
              refine TA.front 3 rfl rfl ?_
              refine TA.act 9 (by kernel_rfl) rfl rfl (OpOk.storeSl rfl sz24 rfl rfl rfl rfl rfl ⟨(fun w h => sees_of (Store.le.refl _) (fun r hr => (List.mem_cons_of_mem _ (List.mem_cons_of_mem _ (List.mem_cons_of_mem _ (List.mem_cons_of_mem _ hr))))) w h), ?_⟩)
              refine TA.front 2 rfl rfl ?_
              refine TA.act 10 (by kernel_rfl) rfl rfl (OpOk.storeSl rfl sz24 rfl rfl rfl rfl rfl ⟨(fun w h => sees_of (Store.le.refl _) (fun r hr => (List.mem_cons_of_mem _ (List.mem_cons_of_mem _ (List.mem_cons_of_mem _ (List.mem_cons_of_mem _ hr))))) w h), ?_⟩)
              refine TA.done (by kernel_rfl) ?_
              refine S.n ?_
              refine ⟨by repeat (first | exact Agr.refl _ _ | exact Agr.mask | refine Agr.upd rfl ?_ | refine Agr.maskIn rfl ?_ | refine Agr.upds rfl ?_), ((), (b142, a222, c223, b233, a237, c238)), hh, by repeat (first | exact trivial | refine ⟨rfl, ?_⟩), Sub.front 2 rfl rfl (Sub.front 1 rfl rfl (Sub.front 3 rfl rfl (Sub.front 3 rfl rfl (Sub.front 5 rfl rfl (Sub.front 5 rfl rfl (Sub.front 6 rfl rfl (Sub.pre 7 rfl))))))), rfl⟩
            · skip
              refine TA.act 6 (by kernel_rfl) rfl rfl (OpOk.makeS2 (enc := encB) false rfl Tryd.underlying24 sz4 by4 ze4 rfl rfl rfl rfl (by omega) (by decide) encB_len (by decide) rfl encB_one (fun a240 c241 => ⟨(fun w h => sees_of (Store.le.refl _) (fun r hr => (List.mem_cons_of_mem _ (List.mem_cons_of_mem _ (List.mem_cons_of_mem _ (List.mem_cons_of_mem _ hr))))) w h), ?_⟩))
              refine TA.front 2 rfl rfl ?_
              refine TA.act 10 (by kernel_rfl) rfl rfl (OpOk.storeSl rfl sz24 rfl rfl rfl rfl rfl ⟨(fun w h => sees_of (Store.le.refl _) (fun r hr => (List.mem_cons_of_mem _ (List.mem_cons_of_mem _ (List.mem_cons_of_mem _ (List.mem_cons_of_mem _ hr))))) w h), ?_⟩)
              refine TA.done (by kernel_rfl) ?_
              refine S.n ?_
              refine ⟨by repeat (first | exact Agr.refl _ _ | exact Agr.mask | refine Agr.upd rfl ?_ | refine Agr.maskIn rfl ?_ | refine Agr.upds rfl ?_), ((), (b142, a222, c223, b233, a240, c241)), hh, by repeat (first | exact trivial | refine ⟨rfl, ?_⟩), Sub.front 1 rfl rfl (Sub.front 1 rfl rfl (Sub.front 3 rfl rfl (Sub.front 3 rfl rfl (Sub.front 5 rfl rfl (Sub.front 5 rfl rfl (Sub.front 6 rfl rfl (Sub.pre 7 rfl))))))), rfl⟩
        · skip
          refine TA.actN [2, 8] (by kernel_rfl) (And.intro (Exists.intro _ (And.intro rfl (And.intro rfl (OpOk.call (cloneB_con f0_2 u22) rfl rfl pf33 rfl rfl rfl rfl ?_)))) (And.intro (Exists.intro _ (And.intro rfl (And.intro rfl (OpOk.alloc rfl ze24 rfl rfl (fun b246 => ⟨(fun w h => sees_of (Store.le.refl _) (fun r hr => (List.mem_cons_of_mem _ (List.mem_cons_of_mem _ (List.mem_cons_of_mem _ hr)))) w h), ?_⟩))))) (True.intro)))
          · skip
            rintro _ _ _ _ ⟨⟨a243, c244, rfl⟩, rfl, rfl⟩
            refine ⟨(fun w h => sees_of (Store.le.refl _) (fun r hr => (List.mem_cons_of_mem _ (List.mem_cons_of_mem _ (List.mem_cons_of_mem _ hr)))) w h), ?_⟩
            refine TA.act 8 (by kernel_rfl) rfl rfl (OpOk.alloc rfl ze24 rfl rfl (fun b248 => ⟨(fun w h => sees_of (Store.le.refl _) (fun r hr => (List.mem_cons_of_mem _ (List.mem_cons_of_mem _ (List.mem_cons_of_mem _ (List.mem_cons_of_mem _ hr))))) w h), ?_⟩))
            refine TA.front 3 rfl rfl ?_
            refine TA.act 9 (by kernel_rfl) rfl rfl (OpOk.storeSl rfl sz24 rfl rfl rfl rfl rfl ⟨(fun w h => sees_of (Store.le.refl _) (fun r hr => (List.mem_cons_of_mem _ (List.mem_cons_of_mem _ (List.mem_cons_of_mem _ (List.mem_cons_of_mem _ hr))))) w h), ?_⟩)
            refine TA.front 1 rfl rfl ?_
            refine TA.act 10 (by kernel_rfl) rfl rfl (OpOk.storeSl rfl sz24 rfl rfl rfl rfl rfl ⟨(fun w h => sees_of (Store.le.refl _) (fun r hr => (List.mem_cons_of_mem _ (List.mem_cons_of_mem _ (List.mem_cons_of_mem _ (List.mem_cons_of_mem _ hr))))) w h), ?_⟩)
            refine TA.done (by kernel_rfl) ?_
            refine S.n ?_
            refine ⟨by repeat (first | exact Agr.refl _ _ | exact Agr.mask | refine Agr.upd rfl ?_ | refine Agr.maskIn rfl ?_ | refine Agr.upds rfl ?_), ((), (b142, a243, c244, b248, a225, c226)), hh, by repeat (first | exact trivial | refine ⟨rfl, ?_⟩), Sub.front 3 rfl rfl (Sub.front 1 rfl rfl (Sub.front 3 rfl rfl (Sub.front 3 rfl rfl (Sub.front 5 rfl rfl (Sub.front 5 rfl rfl (Sub.front 6 rfl rfl (Sub.pre 7 rfl))))))), rfl⟩
          · skip
            refine TA.act 2 (by kernel_rfl) rfl rfl (OpOk.call (cloneB_con f0_2 u22) rfl rfl pf33 rfl rfl rfl rfl ?_)
            rintro _ _ _ _ ⟨⟨a250, c251, rfl⟩, rfl, rfl⟩
            refine ⟨(fun w h => sees_of (Store.le.refl _) (fun r hr => (List.mem_cons_of_mem _ (List.mem_cons_of_mem _ (List.mem_cons_of_mem _ (List.mem_cons_of_mem _ hr))))) w h), ?_⟩
            refine TA.front 3 rfl rfl ?_
            refine TA.act 9 (by kernel_rfl) rfl rfl (OpOk.storeSl rfl sz24 rfl rfl rfl rfl rfl ⟨(fun w h => sees_of (Store.le.refl _) (fun r hr => (List.mem_cons_of_mem _ (List.mem_cons_of_mem _ (List.mem_cons_of_mem _ (List.mem_cons_of_mem _ hr))))) w h), ?_⟩)
            refine TA.front 2 rfl rfl ?_
            refine TA.act 10 (by kernel_rfl) rfl rfl (OpOk.storeSl rfl sz24 rfl rfl rfl rfl rfl ⟨(fun w h => sees_of (Store.le.refl _) (fun r hr => (List.mem_cons_of_mem _ (List.mem_cons_of_mem _ (List.mem_cons_of_mem _ (List.mem_cons_of_mem _ hr))))) w h), ?_⟩)
            refine TA.done (by kernel_rfl) ?_
            refine S.n ?_
            refine ⟨by repeat (first | exact Agr.refl _ _ | exact Agr.mask | refine Agr.upd rfl ?_ | refine Agr.maskIn rfl ?_ | refine Agr.upds rfl ?_), ((), (b142, a250, c251, b246, a225, c226)), hh, by repeat (first | exact trivial | refine ⟨rfl, ?_⟩), Sub.front 3 rfl rfl (Sub.front 1 rfl rfl (Sub.front 3 rfl rfl (Sub.front 3 rfl rfl (Sub.front 5 rfl rfl (Sub.front 5 rfl rfl (Sub.front 6 rfl rfl (Sub.pre 7 rfl))))))), rfl⟩
        · skip
          refine TA.actN [2, 6] (by kernel_rfl) (And.intro (Exists.intro _ (And.intro rfl (And.intro rfl (OpOk.call (cloneB_con f0_2 u22) rfl rfl pf33 rfl rfl rfl rfl ?_)))) (And.intro (Exists.intro _ (And.intro rfl (And.intro rfl (OpOk.makeS2 (enc := encB) false rfl Tryd.underlying24 sz4 by4 ze4 rfl rfl rfl rfl (by omega) (by decide) encB_len (by decide) rfl encB_one (fun a256 c257 => ⟨(fun w h => sees_of (Store.le.refl _) (fun r hr => (List.mem_cons_of_mem _ (List.mem_cons_of_mem _ (List.mem_cons_of_mem _ hr)))) w h), ?_⟩))))) (True.intro)))
          · skip
            rintro _ _ _ _ ⟨⟨a253, c254, rfl⟩, rfl, rfl⟩
            refine ⟨(fun w h => sees_of (Store.le.refl _) (fun r hr => (List.mem_cons_of_mem _ (List.mem_cons_of_mem _ (List.mem_cons_of_mem _ hr)))) w h), ?_⟩
            refine TA.actN [6, 9] (by kernel_rfl) (And.intro (Exists.intro _ (And.intro rfl (And.intro rfl (OpOk.makeS2 (enc := encB) false rfl Tryd.underlying24 sz4 by4 ze4 rfl rfl rfl rfl (by omega) (by decide) encB_len (by decide) rfl encB_one (fun a259 c260 => ⟨(fun w h => sees_of (Store.le.refl _) (fun r hr => (List.mem_cons_of_mem _ (List.mem_cons_of_mem _ (List.mem_cons_of_mem _ (List.mem_cons_of_mem _ hr))))) w h), ?_⟩))))) (And.intro (Exists.intro _ (And.intro rfl (And.intro rfl (OpOk.front 2 rfl rfl (OpOk.storeSl rfl sz24 rfl rfl rfl rfl rfl ⟨(fun w h => sees_of (Store.le.refl _) (fun r hr => (List.mem_cons_of_mem _ (List.mem_cons_of_mem _ (List.mem_cons_of_mem _ hr)))) w h), ?_⟩))))) (True.intro)))
            · skip
              refine TA.front 3 rfl rfl ?_
              refine TA.act 9 (by kernel_rfl) rfl rfl (OpOk.storeSl rfl sz24 rfl rfl rfl rfl rfl ⟨(fun w h => sees_of (Store.le.refl _) (fun r hr => (List.mem_cons_of_mem _ (List.mem_cons_of_mem _ (List.mem_cons_of_mem _ (List.mem_cons_of_mem _ hr))))) w h), ?_⟩)
              refine TA.front 3 rfl rfl ?_
              refine TA.act 10 (by kernel_rfl) rfl rfl (OpOk.storeSl rfl sz24 rfl rfl rfl rfl rfl ⟨(fun w h => sees_of (Store.le.refl _) (fun r hr => (List.mem_cons_of_mem _ (List.mem_cons_of_mem _ (List.mem_cons_of_mem _ (List.mem_cons_of_mem _ hr))))) w h), ?_⟩)
              refine TA.done (by kernel_rfl) ?_
              refine S.n ?_
              refine ⟨by repeat (first | exact Agr.refl _ _ | exact Agr.mask | refine Agr.upd rfl ?_ | refine Agr.maskIn rfl ?_ | refine Agr.upds rfl ?_), ((), (b142, a253, c254, b228, a259, c260)), hh, by repeat (first | exact trivial | refine ⟨rfl, ?_⟩), Sub.front 2 rfl rfl (Sub.front 1 rfl rfl (Sub.front 3 rfl rfl (Sub.front 3 rfl rfl (Sub.front 5 rfl rfl (Sub.front 5 rfl rfl (Sub.front 6 rfl rfl (Sub.pre 7 rfl))))))), rfl⟩
            · skip
              refine TA.act 6 (by kernel_rfl) rfl rfl (OpOk.makeS2 (enc := encB) false rfl Tryd.underlying24 sz4 by4 ze4 rfl rfl rfl rfl (by omega) (by decide) encB_len (by decide) rfl encB_one (fun a262 c263 => ⟨(fun w h => sees_of (Store.le.refl _) (fun r hr => (List.mem_cons_of_mem _ (List.mem_cons_of_mem _ (List.mem_cons_of_mem _ (List.mem_cons_of_mem _ hr))))) w h), ?_⟩))
              refine TA.front 3 rfl rfl ?_
              refine TA.act 10 (by kernel_rfl) rfl rfl (OpOk.storeSl rfl sz24 rfl rfl rfl rfl rfl ⟨(fun w h => sees_of (Store.le.refl _) (fun r hr => (List.mem_cons_of_mem _ (List.mem_cons_of_mem _ (List.mem_cons_of_mem _ (List.mem_cons_of_mem _ hr))))) w h), ?_⟩)
              refine TA.done (by kernel_rfl) ?_
              refine S.n ?_
              refine ⟨by repeat (first | exact Agr.refl _ _ | exact Agr.mask | refine Agr.upd rfl ?_ | refine Agr.maskIn rfl ?_ | refine Agr.upds rfl ?_), ((), (b142, a253, c254, b228, a262, c263)), hh, by repeat (first | exact trivial | refine ⟨rfl, ?_⟩), Sub.front 1 rfl rfl (Sub.front 1 rfl rfl (Sub.front 3 rfl rfl (Sub.front 3 rfl rfl (Sub.front 5 rfl rfl (Sub.front 5 rfl rfl (Sub.front 6 rfl rfl (Sub.pre 7 rfl))))))), rfl⟩
          · skip
            refine TA.act 2 (by kernel_rfl) rfl rfl (OpOk.call (cloneB_con f0_2 u22) rfl rfl pf33 rfl rfl rfl rfl ?_)
            rintro _ _ _ _ ⟨⟨a265, c266, rfl⟩, rfl, rfl⟩
            refine ⟨(fun w h => sees_of (Store.le.refl _) (fun r hr => (List.mem_cons_of_mem _ (List.mem_cons_of_mem _ (List.mem_cons_of_mem _ (List.mem_cons_of_mem _ hr))))) w h), ?_⟩
            refine TA.front 3 rfl rfl ?_
            refine TA.act 9 (by kernel_rfl) rfl rfl (OpOk.storeSl rfl sz24 rfl rfl rfl rfl rfl ⟨(fun w h => sees_of (Store.le.refl _) (fun r hr => (List.mem_cons_of_mem _ (List.mem_cons_of_mem _ (List.mem_cons_of_mem _ (List.mem_cons_of_mem _ hr))))) w h), ?_⟩)
            refine TA.front 3 rfl rfl ?_
            refine TA.act 10 (by kernel_rfl) rfl rfl (OpOk.storeSl rfl sz24 rfl rfl rfl rfl rfl ⟨(fun w h => sees_of (Store.le.refl _) (fun r hr => (List.mem_cons_of_mem _ (List.mem_cons_of_mem _ (List.mem_cons_of_mem _ (List.mem_cons_of_mem _ hr))))) w h), ?_⟩)
            refine TA.done (by kernel_rfl) ?_
            refine S.n ?_
            refine ⟨by repeat (first | exact Agr.refl _ _ | exact Agr.mask | refine Agr.upd rfl ?_ | refine Agr.maskIn rfl ?_ | refine Agr.upds rfl ?_), ((), (b142, a265, c266, b228, a256, c257)), hh, by repeat (first | exact trivial | refine ⟨rfl, ?_⟩), Sub.front 3 rfl rfl (Sub.front 1 rfl rfl (Sub.front 3 rfl rfl (Sub.front 3 rfl rfl (Sub.front 5 rfl rfl (Sub.front 5 rfl rfl (Sub.front 6 rfl rfl (Sub.pre 7 rfl))))))), rfl⟩
      · skip
        refine TA.actN [2, 6, 7] (by kernel_rfl) (And.intro (Exists.intro _ (And.intro rfl (And.intro rfl (OpOk.call (cloneB_con f0_2 u22) rfl rfl pf33 rfl rfl rfl rfl ?_)))) (And.intro (Exists.intro _ (And.intro rfl (And.intro rfl (OpOk.makeS2 (enc := encB) false rfl Tryd.underlying24 sz4 by4 ze4 rfl rfl rfl rfl (by omega) (by decide) encB_len (by decide) rfl encB_one (fun a271 c272 => ⟨(fun w h => sees_of (Store.le.refl _) (fun r hr => (List.mem_cons_of_mem _ (List.mem_cons_of_mem _ hr))) w h), ?_⟩))))) (And.intro (Exists.intro _ (And.intro rfl (And.intro rfl (OpOk.alloc rfl ze24 rfl rfl (fun b274 => ⟨(fun w h => sees_of (Store.le.refl _) (fun r hr => (List.mem_cons_of_mem _ (List.mem_cons_of_mem _ hr))) w h), ?_⟩))))) (True.intro))))
        · skip
          rintro _ _ _ _ ⟨⟨a268, c269, rfl⟩, rfl, rfl⟩
          refine ⟨(fun w h => sees_of (Store.le.refl _) (fun r hr => (List.mem_cons_of_mem _ (List.mem_cons_of_mem _ hr))) w h), ?_⟩
          refine TA.actN [6, 7] (by kernel_rfl) (And.intro (Exists.intro _ (And.intro rfl (And.intro rfl (OpOk.makeS2 (enc := encB) false rfl Tryd.underlying24 sz4 by4 ze4 rfl rfl rfl rfl (by omega) (by decide) encB_len (by decide) rfl encB_one (fun a276 c277 => ⟨(fun w h => sees_of (Store.le.refl _) (fun r hr => (List.mem_cons_of_mem _ (List.mem_cons_of_mem _ (List.mem_cons_of_mem _ hr)))) w h), ?_⟩))))) (And.intro (Exists.intro _ (And.intro rfl (And.intro rfl (OpOk.alloc rfl ze24 rfl rfl (fun b279 => ⟨(fun w h => sees_of (Store.le.refl _) (fun r hr => (List.mem_cons_of_mem _ (List.mem_cons_of_mem _ (List.mem_cons_of_mem _ hr)))) w h), ?_⟩))))) (True.intro)))
          · skip
            refine TA.act 7 (by kernel_rfl) rfl rfl (OpOk.alloc rfl ze24 rfl rfl (fun b281 => ⟨(fun w h => sees_of (Store.le.refl _) (fun r hr => (List.mem_cons_of_mem _ (List.mem_cons_of_mem _ (List.mem_cons_of_mem _ (List.mem_cons_of_mem _ hr))))) w h), ?_⟩))
            refine TA.act 9 (by kernel_rfl) rfl rfl (OpOk.storeSl rfl sz24 rfl rfl rfl rfl rfl ⟨(fun w h => sees_of (Store.le.refl _) (fun r hr => (List.mem_cons_of_mem _ (List.mem_cons_of_mem _ (List.mem_cons_of_mem _ (List.mem_cons_of_mem _ hr))))) w h), ?_⟩)
            refine TA.front 3 rfl rfl ?_
            refine TA.act 10 (by kernel_rfl) rfl rfl (OpOk.storeSl rfl sz24 rfl rfl rfl rfl rfl ⟨(fun w h => sees_of (Store.le.refl _) (fun r hr => (List.mem_cons_of_mem _ (List.mem_cons_of_mem _ (List.mem_cons_of_mem _ (List.mem_cons_of_mem _ hr))))) w h), ?_⟩)
            refine TA.done (by kernel_rfl) ?_
            refine S.n ?_
            refine ⟨by repeat (first | exact Agr.refl _ _ | exact Agr.mask | refine Agr.upd rfl ?_ | refine Agr.maskIn rfl ?_ | refine Agr.upds rfl ?_), ((), (b281, a268, c269, b144, a276, c277)), hh, by repeat (first | exact trivial | refine ⟨rfl, ?_⟩), Sub.front 2 rfl rfl (Sub.front 1 rfl rfl (Sub.front 3 rfl rfl (Sub.front 3 rfl rfl (Sub.front 5 rfl rfl (Sub.front 5 rfl rfl (Sub.front 6 rfl rfl (Sub.pre 7 rfl))))))), rfl⟩
          · skip
            refine TA.actN [6, 9] (by kernel_rfl) (And.intro (Exists.intro _ (And.intro rfl (And.intro rfl (OpOk.makeS2 (enc := encB) false rfl Tryd.underlying24 sz4 by4 ze4 rfl rfl rfl rfl (by omega) (by decide) encB_len (by decide) rfl encB_one (fun a283 c284 => ⟨(fun w h => sees_of (Store.le.refl _) (fun r hr => (List.mem_cons_of_mem _ (List.mem_cons_of_mem _ (List.mem_cons_of_mem _ (List.mem_cons_of_mem _ hr))))) w h), ?_⟩))))) (And.intro (Exists.intro _ (And.intro rfl (And.intro rfl (OpOk.storeSl rfl sz24 rfl rfl rfl rfl rfl ⟨(fun w h => sees_of (Store.le.refl _) (fun r hr => (List.mem_cons_of_mem _ (List.mem_cons_of_mem _ (List.mem_cons_of_mem _ hr)))) w h), ?_⟩)))) (True.intro)))
            · skip
              refine TA.front 1 rfl rfl ?_
              refine TA.act 9 (by kernel_rfl) rfl rfl (OpOk.storeSl rfl sz24 rfl rfl rfl rfl rfl ⟨(fun w h => sees_of (Store.le.refl _) (fun r hr => (List.mem_cons_of_mem _ (List.mem_cons_of_mem _ (List.mem_cons_of_mem _ (List.mem_cons_of_mem _ hr))))) w h), ?_⟩)
              refine TA.front 3 rfl rfl ?_
              refine TA.act 10 (by kernel_rfl) rfl rfl (OpOk.storeSl rfl sz24 rfl rfl rfl rfl rfl ⟨(fun w h => sees_of (Store.le.refl _) (fun r hr => (List.mem_cons_of_mem _ (List.mem_cons_of_mem _ (List.mem_cons_of_mem _ (List.mem_cons_of_mem _ hr))))) w h), ?_⟩)
              refine TA.done (by kernel_rfl) ?_
              refine S.n ?_
              refine ⟨by repeat (first | exact Agr.refl _ _ | exact Agr.mask | refine Agr.upd rfl ?_ | refine Agr.maskIn rfl ?_ | refine Agr.upds rfl ?_), ((), (b279, a268, c269, b144, a283, c284)), hh, by repeat (first | exact trivial | refine ⟨rfl, ?_⟩), Sub.front 2 rfl rfl (Sub.front 1 rfl rfl (Sub.front 3 rfl rfl (Sub.front 3 rfl rfl (Sub.front 5 rfl rfl (Sub.front 5 rfl rfl (Sub.front 6 rfl rfl (Sub.pre 7 rfl))))))), rfl⟩
            · skip
              refine TA.act 6 (by kernel_rfl) rfl rfl (OpOk.makeS2 (enc := encB) false rfl Tryd.underlying24 sz4 by4 ze4 rfl rfl rfl rfl (by omega) (by decide) encB_len (by decide) rfl encB_one (fun a286 c287 => ⟨(fun w h => sees_of (Store.le.refl _) (fun r hr => (List.mem_cons_of_mem _ (List.mem_cons_of_mem _ (List.mem_cons_of_mem _ (List.mem_cons_of_mem _ hr))))) w h), ?_⟩))
              refine TA.front 3 rfl rfl ?_
              refine TA.act 10 (by kernel_rfl) rfl rfl (OpOk.storeSl rfl sz24 rfl rfl rfl rfl rfl ⟨(fun w h => sees_of (Store.le.refl _) (fun r hr => (List.mem_cons_of_mem _ (List.mem_cons_of_mem _ (List.mem_cons_of_mem _ (List.mem_cons_of_mem _ hr))))) w h), ?_⟩)
              refine TA.done (by kernel_rfl) ?_
              refine S.n ?_
              refine ⟨by repeat (first | exact Agr.refl _ _ | exact Agr.mask | refine Agr.upd rfl ?_ | refine Agr.maskIn rfl ?_ | refine Agr.upds rfl ?_), ((), (b279, a268, c269, b144, a286, c287)), hh, by repeat (first | exact trivial | refine ⟨rfl, ?_⟩), Sub.front 1 rfl rfl (Sub.front 1 rfl rfl (Sub.front 3 rfl rfl (Sub.front 3 rfl rfl (Sub.front 5 rfl rfl (Sub.front 5 rfl rfl (Sub.front 6 rfl rfl (Sub.pre 7 rfl))))))), rfl⟩
        · skip
          refine TA.actN [2, 7] (by kernel_rfl) (And.intro (Exists.intro _ (And.intro rfl (And.intro rfl (OpOk.call (cloneB_con f0_2 u22) rfl rfl pf33 rfl rfl rfl rfl ?_)))) (And.intro (Exists.intro _ (And.intro rfl (And.intro rfl (OpOk.alloc rfl ze24 rfl rfl (fun b292 => ⟨(fun w h => sees_of (Store.le.refl _) (fun r hr => (List.mem_cons_of_mem _ (List.mem_cons_of_mem _ (List.mem_cons_of_mem _ hr)))) w h), ?_⟩))))) (True.intro)))
          · skip
            rintro _ _ _ _ ⟨⟨a289, c290, rfl⟩, rfl, rfl⟩
            refine ⟨(fun w h => sees_of (Store.le.refl _) (fun r hr => (List.mem_cons_of_mem _ (List.mem_cons_of_mem _ (List.mem_cons_of_mem _ hr)))) w h), ?_⟩
            refine TA.act 7 (by kernel_rfl) rfl rfl (OpOk.alloc rfl ze24 rfl rfl (fun b294 => ⟨(fun w h => sees_of (Store.le.refl _) (fun r hr => (List.mem_cons_of_mem _ (List.mem_cons_of_mem _ (List.mem_cons_of_mem _ (List.mem_cons_of_mem _ hr))))) w h), ?_⟩))
            refine TA.act 9 (by kernel_rfl) rfl rfl (OpOk.storeSl rfl sz24 rfl rfl rfl rfl rfl ⟨(fun w h => sees_of (Store.le.refl _) (fun r hr => (List.mem_cons_of_mem _ (List.mem_cons_of_mem _ (List.mem_cons_of_mem _ (List.mem_cons_of_mem _ hr))))) w h), ?_⟩)
            refine TA.front 3 rfl rfl ?_
            refine TA.act 10 (by kernel_rfl) rfl rfl (OpOk.storeSl rfl sz24 rfl rfl rfl rfl rfl ⟨(fun w h => sees_of (Store.le.refl _) (fun r hr => (List.mem_cons_of_mem _ (List.mem_cons_of_mem _ (List.mem_cons_of_mem _ (List.mem_cons_of_mem _ hr))))) w h), ?_⟩)
            refine TA.done (by kernel_rfl) ?_
            refine S.n ?_
            refine ⟨by repeat (first | exact Agr.refl _ _ | exact Agr.mask | refine Agr.upd rfl ?_ | refine Agr.maskIn rfl ?_ | refine Agr.upds rfl ?_), ((), (b294, a289, c290, b144, a271, c272)), hh, by repeat (first | exact trivial | refine ⟨rfl, ?_⟩), Sub.front 3 rfl rfl (Sub.front 1 rfl rfl (Sub.front 3 rfl rfl (Sub.front 3 rfl rfl (Sub.front 5 rfl rfl (Sub.front 5 rfl rfl (Sub.front 6 rfl rfl (Sub.pre 7 rfl))))))), rfl⟩
          · skip
            refine TA.act 2 (by kernel_rfl) rfl rfl (OpOk.call (cloneB_con f0_2 u22) rfl rfl pf33 rfl rfl rfl rfl ?_)
            rintro _ _ _ _ ⟨⟨a296, c297, rfl⟩, rfl, rfl⟩
            refine ⟨(fun w h => sees_of (Store.le.refl _) (fun r hr => (List.mem_cons_of_mem _ (List.mem_cons_of_mem _ (List.mem_cons_of_mem _ (List.mem_cons_of_mem _ hr))))) w h), ?_⟩
            refine TA.front 1 rfl rfl ?_
            refine TA.act 9 (by kernel_rfl) rfl rfl (OpOk.storeSl rfl sz24 rfl rfl rfl rfl rfl ⟨(fun w h => sees_of (Store.le.refl _) (fun r hr => (List.mem_cons_of_mem _ (List.mem_cons_of_mem _ (List.mem_cons_of_mem _ (List.mem_cons_of_mem _ hr))))) w h), ?_⟩)
            refine TA.front 3 rfl rfl ?_
            refine TA.act 10 (by kernel_rfl) rfl rfl (OpOk.storeSl rfl sz24 rfl rfl rfl rfl rfl ⟨(fun w h => sees_of (Store.le.refl _) (fun r hr => (List.mem_cons_of_mem _ (List.mem_cons_of_mem _ (List.mem_cons_of_mem _ (List.mem_cons_of_mem _ hr))))) w h), ?_⟩)
            refine TA.done (by kernel_rfl) ?_
            refine S.n ?_
            refine ⟨by repeat (first | exact Agr.refl _ _ | exact Agr.mask | refine Agr.upd rfl ?_ | refine Agr.maskIn rfl ?_ | refine Agr.upds rfl ?_), ((), (b292, a296, c297, b144, a271, c272)), hh, by repeat (first | exact trivial | refine ⟨rfl, ?_⟩), Sub.front 3 rfl rfl (Sub.front 1 rfl rfl (Sub.front 3 rfl rfl (Sub.front 3 rfl rfl (Sub.front 5 rfl rfl (Sub.front 5 rfl rfl (Sub.front 6 rfl rfl (Sub.pre 7 rfl))))))), rfl⟩
        · skip
          refine TA.actN [2, 6] (by kernel_rfl) (And.intro (Exists.intro _ (And.intro rfl (And.intro rfl (OpOk.call (cloneB_con f0_2 u22) rfl rfl pf33 rfl rfl rfl rfl ?_)))) (And.intro (Exists.intro _ (And.intro rfl (And.intro rfl (OpOk.makeS2 (enc := encB) false rfl Tryd.underlying24 sz4 by4 ze4 rfl rfl rfl rfl (by omega) (by decide) encB_len (by decide) rfl encB_one (fun a302 c303 => ⟨(fun w h => sees_of (Store.le.refl _) (fun r hr => (List.mem_cons_of_mem _ (List.mem_cons_of_mem _ (List.mem_cons_of_mem _ hr)))) w h), ?_⟩))))) (True.intro)))
          · skip
            rintro _ _ _ _ ⟨⟨a299, c300, rfl⟩, rfl, rfl⟩
            refine ⟨(fun w h => sees_of (Store.le.refl _) (fun r hr => (List.mem_cons_of_mem _ (List.mem_cons_of_mem _ (List.mem_cons_of_mem _ hr)))) w h), ?_⟩
            refine TA.actN [6, 9] (by kernel_rfl) (And.intro (Exists.intro _ (And.intro rfl (And.intro rfl (OpOk.makeS2 (enc := encB) false rfl Tryd.underlying24 sz4 by4 ze4 rfl rfl rfl rfl (by omega) (by decide) encB_len (by decide) rfl encB_one (fun a305 c306 => ⟨(fun w h => sees_of (Store.le.refl _) (fun r hr => (List.mem_cons_of_mem _ (List.mem_cons_of_mem _ (List.mem_cons_of_mem _ (List.mem_cons_of_mem _ hr))))) w h), ?_⟩))))) (And.intro (Exists.intro _ (And.intro rfl (And.intro rfl (OpOk.front 1 rfl rfl (OpOk.storeSl rfl sz24 rfl rfl rfl rfl rfl ⟨(fun w h => sees_of (Store.le.refl _) (fun r hr => (List.mem_cons_of_mem _ (List.mem_cons_of_mem _ (List.mem_cons_of_mem _ hr)))) w h), ?_⟩))))) (True.intro)))
            · skip
              refine TA.front 2 rfl rfl ?_
              refine TA.act 9 (by kernel_rfl) rfl rfl (OpOk.storeSl rfl sz24 rfl rfl rfl rfl rfl ⟨(fun w h => sees_of (Store.le.refl _) (fun r hr => (List.mem_cons_of_mem _ (List.mem_cons_of_mem _ (List.mem_cons_of_mem _ (List.mem_cons_of_mem _ hr))))) w h), ?_⟩)
              refine TA.front 3 rfl rfl ?_
              refine TA.act 10 (by kernel_rfl) rfl rfl (OpOk.storeSl rfl sz24 rfl rfl rfl rfl rfl ⟨(fun w h => sees_of (Store.le.refl _) (fun r hr => (List.mem_cons_of_mem _ (List.mem_cons_of_mem _ (List.mem_cons_of_mem _ (List.mem_cons_of_mem _ hr))))) w h), ?_⟩)
              refine TA.done (by kernel_rfl) ?_
              refine S.n ?_
              refine ⟨by repeat (first | exact Agr.refl _ _ | exact Agr.mask | refine Agr.upd rfl ?_ | refine Agr.maskIn rfl ?_ | refine Agr.upds rfl ?_), ((), (b274, a299, c300, b144, a305, c306)), hh, by repeat (first | exact trivial | refine ⟨rfl, ?_⟩), Sub.front 2 rfl rfl (Sub.front 1 rfl rfl (Sub.front 3 rfl rfl (Sub.front 3 rfl rfl (Sub.front 5 rfl rfl (Sub.front 5 rfl rfl (Sub.front 6 rfl rfl (Sub.pre 7 rfl))))))), rfl⟩
            · skip
              refine TA.act 6 (by kernel_rfl) rfl rfl (OpOk.makeS2 (enc := encB) false rfl Tryd.underlying24 sz4 by4 ze4 rfl rfl rfl rfl (by omega) (by decide) encB_len (by decide) rfl encB_one (fun a308 c309 => ⟨(fun w h => sees_of (Store.le.refl _) (fun r hr => (List.mem_cons_of_mem _ (List.mem_cons_of_mem _ (List.mem_cons_of_mem _ (List.mem_cons_of_mem _ hr))))) w h), ?_⟩))
              refine TA.front 3 rfl rfl ?_
              refine TA.act 10 (by kernel_rfl) rfl rfl (OpOk.storeSl rfl sz24 rfl rfl rfl rfl rfl ⟨(fun w h => sees_of (Store.le.refl _) (fun r hr => (List.mem_cons_of_mem _ (List.mem_cons_of_mem _ (List.mem_cons_of_mem _ (List.mem_cons_of_mem _ hr))))) w h), ?_⟩)
              refine TA.done (by kernel_rfl) ?_
              refine S.n ?_
              refine ⟨by repeat (first | exact Agr.refl _ _ | exact Agr.mask | refine Agr.upd rfl ?_ | refine Agr.maskIn rfl ?_ | refine Agr.upds rfl ?_), ((), (b274, a299, c300, b144, a308, c309)), hh, by repeat (first | exact trivial | refine ⟨rfl, ?_⟩), Sub.front 1 rfl rfl (Sub.front 1 rfl rfl (Sub.front 3 rfl rfl (Sub.front 3 rfl rfl (Sub.front 5 rfl rfl (Sub.front 5 rfl rfl (Sub.front 6 rfl rfl (Sub.pre 7 rfl))))))), rfl⟩
          · skip
            refine TA.act 2 (by kernel_rfl) rfl rfl (OpOk.call (cloneB_con f0_2 u22) rfl rfl pf33 rfl rfl rfl rfl ?_)
            rintro _ _ _ _ ⟨⟨a311, c312, rfl⟩, rfl, rfl⟩
            refine ⟨(fun w h => sees_of (Store.le.refl _) (fun r hr => (List.mem_cons_of_mem _ (List.mem_cons_of_mem _ (List.mem_cons_of_mem _ (List.mem_cons_of_mem _ hr))))) w h), ?_⟩
            refine TA.front 2 rfl rfl ?_
            refine TA.act 9 (by kernel_rfl) rfl rfl (OpOk.storeSl rfl sz24 rfl rfl rfl rfl rfl ⟨(fun w h => sees_of (Store.le.refl _) (fun r hr => (List.mem_cons_of_mem _ (List.mem_cons_of_mem _ (List.mem_cons_of_mem _ (List.mem_cons_of_mem _ hr))))) w h), ?_⟩)
            refine TA.front 3 rfl rfl ?_
            refine TA.act 10 (by kernel_rfl) rfl rfl (OpOk.storeSl rfl sz24 rfl rfl rfl rfl rfl ⟨(fun w h => sees_of (Store.le.refl _) (fun r hr => (List.mem_cons_of_mem _ (List.mem_cons_of_mem _ (List.mem_cons_of_mem _ (List.mem_cons_of_mem _ hr))))) w h), ?_⟩)
            refine TA.done (by kernel_rfl) ?_
            refine S.n ?_
            refine ⟨by repeat (first | exact Agr.refl _ _ | exact Agr.mask | refine Agr.upd rfl ?_ | refine Agr.maskIn rfl ?_ | refine Agr.upds rfl ?_), ((), (b274, a311, c312, b144, a302, c303)), hh, by repeat (first | exact trivial | refine ⟨rfl, ?_⟩), Sub.front 3 rfl rfl (Sub.front 1 rfl rfl (Sub.front 3 rfl rfl (Sub.front 3 rfl rfl (Sub.front 5 rfl rfl (Sub.front 5 rfl rfl (Sub.front 6 rfl rfl (Sub.pre 7 rfl))))))), rfl⟩
    · skip
      obtain ⟨_, ⟨b117, a119, c120, b122, a124, c125⟩⟩ := g
      have hh := hg; clear hg
      show TC _ _ _ (upds (mask _ j _) [(8, loc b117 0), (9, loc b122 0)]) _ [Res.cells b101 #[.slice a0_0 x0.cls.length c0_0, .slice a0_1 x0.next.length c0_1, .slice a0_2 x0.fin.length c0_2] 26, Res.cells b114 #[.slice a111 ((List.replicate (x1.length + 1) false).length) c112] 24, Res.rowS 4 1 encB (.slice a111 (List.replicate (x1.length + 1) false).length c112) (List.replicate (x1.length + 1) false), Res.cells b117 #[.slice a119 x0.fin.length c120] 24, Res.rowS 4 1 encB (.slice a119 x0.fin.length c120) x0.fin, Res.cells b122 #[.slice a124 ((List.replicate x0.fin.length false).length) c125] 24, Res.rowS 4 1 encB (.slice a124 (List.replicate x0.fin.length false).length c125) (List.replicate x0.fin.length false)]
      dsimp only [scan_After_j1] at hh
      refine TC.isSl (i := 2) rfl (fun _ hb314 _ => ?_)
      refine TC.isSl (i := 4) rfl (fun _ hb315 _ => ?_)
      refine TC.isSl (i := 6) rfl (fun _ hb316 _ => ?_)
      refine TC.seq ?_
      have u35 := grd_c hh
      replace hh := grd_t hh
      have u37 := grd_c hh
      replace hh := grd_t hh
      refine TC.draw [7] (by kernel_rfl) ?_
      refine TA.take 0 rfl (by kernel_rfl) (by kernel_rfl) (by kernel_rfl) (by kernel_rfl) rfl (OpVal.loadLoc rfl ag24 rfl (i := 1) rfl rfl) rfl rfl ?_
      refine TA.takeP 1 rfl (by kernel_rfl) (by kernel_rfl) (by kernel_rfl) rfl (OpVal.moveStr (.inl rfl) rfl) rfl rfl ?_
      refine TA.take 2 rfl (by kernel_rfl) (by kernel_rfl) (by kernel_rfl) (by kernel_rfl) rfl (OpVal.lenBs rfl Tryd.underlying9 rfl) rfl rfl ?_
      refine TA.take 3 rfl (by kernel_rfl) (by kernel_rfl) (by kernel_rfl) (by kernel_rfl) rfl (OpVal.loadLoc rfl ag24 rfl (i := 3) rfl rfl) rfl rfl ?_
      refine TA.isSl (i := 4) rfl (fun hs320 _ _ => ?_)
      refine TA.take 4 rfl (by kernel_rfl) (by kernel_rfl) (by kernel_rfl) (by kernel_rfl) rfl (OpVal.indexN (i := 0) rfl Tryd.underlying24 sz4 rfl rfl hs320 (by omega)) rfl rfl ?_
      refine TA.take 5 rfl (by kernel_rfl) (by kernel_rfl) (by kernel_rfl) (by kernel_rfl) rfl (OpVal.loadO1 false rfl ag4 rfl (q := 4) rfl encB_len (by omega) rfl) rfl rfl ?_
      refine TA.isSl (i := 2) rfl (fun hs321 _ _ => ?_)
      refine TA.take 6 rfl (by kernel_rfl) (by kernel_rfl) (by kernel_rfl) (by kernel_rfl) rfl (OpVal.indexN rfl Tryd.underlying24 sz4 rfl rfl hs321 (by omega)) rfl rfl ?_
      refine TA.front 2 rfl rfl ?_
      have hn322 : ((List.replicate (x1.length + 1) false).set x1.length (nth x0.fin 0 false)).length = (List.replicate (x1.length + 1) false).length := by rw [List.length_set]
      refine TA.last 7 (by kernel_rfl) rfl rfl rfl (OpOk.storeS (nth x0.fin 0 false) rfl sz4 rfl rfl rfl rfl encB_len encB_one (by omega) (by omega) ?_)
      refine TZ.done (by kernel_rfl) ?_
      refine S.n ?_
      refine TC.seq ?_
      refine TC.seq ?_
      refine TC.region ?_
      refine TL.v rfl (OpVal.moveStr (.inl rfl) rfl) rfl rfl ?_
      have u40 := grd_c hh
      replace hh := grd_t hh
      refine TL.op rfl (OpOk.convBs rfl Tryd.underlying9 Tryd.underlying69 Tryd.underlying5 rfl rfl rfl u40 ?_)
      intro a323 c323 τ323 hle323 hr323
      replace f0_0 := f0_0.mono hle323
      replace f0_1 := f0_1.mono hle323
      replace f0_2 := f0_2.mono hle323
      replace zf105 := zf105.mono hle323
      replace hr107 := hr107.mono hle323
      have hr323b := hr323.rv.big
      obtain ⟨v41, u41, hh⟩ := bnd_e hh
      refine TL.op rfl (OpOk.call (slices_Backward_con hr323 u41) rfl rfl pf34 rfl rfl rfl rfl ?_)
      rintro _ τ324 _ hle324 ⟨b324_4, a324_1, c324_2, rfl, f324_3, rfl⟩
      replace f0_0 := f0_0.mono hle324
      replace f0_1 := f0_1.mono hle324
      replace f0_2 := f0_2.mono hle324
      replace zf105 := zf105.mono hle324
      replace hr107 := hr107.mono hle324
      replace hr323 := hr323.mono hle324
      have f324_3b := f324_3.rv.big
      refine TL.nil ?_
      refine S.n ?_
      refine TC.block ?_
      refine TC.ofSub (Sub.front 7 rfl rfl (Sub.front 7 rfl rfl (Sub.front 7 rfl rfl (Sub.front 7 rfl rfl (Sub.front 5 rfl rfl (Sub.front 7 rfl rfl (Sub.front 7 rfl rfl (Sub.pre 8 rfl)))))))) ?_
      obtain ⟨zr4, hz4, hh⟩ := bnd_e hh
      obtain ⟨jz4, ⟨l348, l351, l355⟩⟩ := zr4
      dsimp only at hh
      refine TC.rangeG (A := (fun (x : Int × UInt8) _ vs => vs = [.int .i64 x.1, .int .u8 ((x.2.toNat : Nat) : Int)])) [] (fun (q : (List Bool) × (List Bool) × (List Bool)) (x : Int × UInt8) => scan_After_r4 x0 q.1 q.2.1 q.2.2 x.1 x.2) (fun (q : (List Bool) × (List Bool) × (List Bool)) (τ358 : Store) Hs => ∃ (a352 : Option Addr), ∃ (c353 : Nat), ∃ (a356 : Option Addr), ∃ (c357 : Nat), Hs = [Res.cells b101 #[.slice a0_0 x0.cls.length c0_0, .slice a0_1 x0.next.length c0_1, .slice a0_2 x0.fin.length c0_2] 26, Res.cells b114 #[.slice a111 ((List.replicate (x1.length + 1) false).length) c112] 24, Res.rowS 4 1 encB (.slice a111 (List.replicate (x1.length + 1) false).length c112) q.1, Res.cells b117 #[.slice a352 q.2.1.length c353] 24, Res.rowS 4 1 encB (.slice a352 q.2.1.length c353) q.2.1, Res.cells b122 #[.slice a356 q.2.2.length c357] 24, Res.rowS 4 1 encB (.slice a356 q.2.2.length c357) q.2.2] ∧ q.1.length = (List.replicate (x1.length + 1) false).length) (s := (((List.replicate (x1.length + 1) false).set x1.length (nth x0.fin 0 false)), x0.fin, (List.replicate x0.fin.length false))) rfl pf52 rfl rfl (by rintro _ _ _ _ ⟨a352, c353, a356, c357, rfl, hn349⟩ hle_; exact ⟨a352, c353, a356, c357, rfl, hn349⟩) ⟨a119, c120, a124, c125, rfl, hn322⟩ (fun _ _ _ h_ => by subst h_; rfl) (slices_Backward_byte_byte_1_con f324_3 hz4) ?_ ?_
      · clear hh hz4
        rintro l_ _ _ _ τ358 ⟨l348, l351, l355⟩ ⟨y4_0, y4_1⟩ z4 _ _ hh hle359 rfl ⟨a352, c353, a356, c357, rfl, hn349⟩
        dsimp only [scan_After_r4] at hh
        replace f0_0 := f0_0.mono hle359
        replace f0_1 := f0_1.mono hle359
        replace f0_2 := f0_2.mono hle359
        replace zf105 := zf105.mono hle359
        replace hr107 := hr107.mono hle359
        replace hr323 := hr323.mono hle359
        replace f324_3 := f324_3.mono hle359
        have hn349b := hn349
        show TC _ _ _ (upds _ [(43, .int .u8 ((y4_1.toNat : Nat) : Int)), (42, .int .i64 y4_0)]) τ358 [Res.cells b101 #[.slice a0_0 x0.cls.length c0_0, .slice a0_1 x0.next.length c0_1, .slice a0_2 x0.fin.length c0_2] 26, Res.cells b114 #[.slice a111 ((List.replicate (x1.length + 1) false).length) c112] 24, Res.rowS 4 1 encB (.slice a111 (List.replicate (x1.length + 1) false).length c112) l348, Res.cells b117 #[.slice a352 l351.length c353] 24, Res.rowS 4 1 encB (.slice a352 l351.length c353) l351, Res.cells b122 #[.slice a356 l355.length c357] 24, Res.rowS 4 1 encB (.slice a356 l355.length c357) l355]
        refine TC.isSl (i := 2) rfl (fun _ hb360 _ => ?_)
        refine TC.isSl (i := 4) rfl (fun _ hb361 _ => ?_)
        refine TC.isSl (i := 6) rfl (fun _ hb362 _ => ?_)
        refine TC.seq ?_
        refine TC.region ?_
        refine TL.v rfl (OpVal.moveI (.inr rfl) rfl) rfl rfl ?_
        refine TL.nil ?_
        refine S.n ?_
        refine TC.region ?_
        refine TL.v rfl (OpVal.moveI (.inr rfl) rfl) rfl rfl ?_
        refine TL.nil ?_
        refine asg_n (fun _ _ _ => ?_)
        refine TC.block ?_
        refine TC.seq ?_
        refine TC.seq ?_
        refine TC.region ?_
        refine TL.v rfl (OpVal.fieldLoc rfl fo26_2 rfl) rfl rfl ?_
        refine TL.v rfl (OpVal.loadLoc rfl ag24 rfl (i := 0) rfl rfl) rfl rfl ?_
        refine TL.v rfl (OpVal.lenC rfl Tryd.underlying24 rfl) rfl rfl ?_
        refine TL.v rfl (OpVal.moveI (.inl rfl) rfl) rfl rfl ?_
        refine TL.nil ?_
        refine S.n ?_
        refine TC.block ?_
        refine TC.loopG (α := ((List Bool) × Nat) × (Unit)) [12, 13, 47, 48, 49, 50, 51, 52, 53, 54, 55, 56, 57, 58, 59, 60, 61, 62, 63, 64, 65, 66, 67, 68, 69, 70, 71, 72, 73] (fun g => [(47, .int .i64 ((g.1.2 : Nat) : Int))]) (fun g => [Res.cells b101 #[.slice a0_0 x0.cls.length c0_0, .slice a0_1 x0.next.length c0_1, .slice a0_2 x0.fin.length c0_2] 26, Res.cells b114 #[.slice a111 ((List.replicate (x1.length + 1) false).length) c112] 24, Res.rowS 4 1 encB (.slice a111 (List.replicate (x1.length + 1) false).length c112) l348, Res.cells b117 #[.slice a352 l351.length c353] 24, Res.rowS 4 1 encB (.slice a352 l351.length c353) l351, Res.cells b122 #[.slice a356 l355.length c357] 24, Res.rowS 4 1 encB (.slice a356 l355.length c357) g.1.1]) (fun g => τ358) (fun g => iter (fun q : (List Bool) × Nat => scan_After_b1 x0 y4_1 l351 y4_0 l348 q.1 q.2) g.1 = some z4 ∧ l348.length = (List.replicate (x1.length + 1) false).length ∧ g.1.1.length = l355.length) (fun g => rounds (fun q : (List Bool) × Nat => scan_After_b1 x0 y4_1 l351 y4_0 l348 q.1 q.2) g.1) ((l355, 0), ()) (Sub.front 6 rfl rfl (Sub.front 6 rfl rfl (Sub.front 6 rfl rfl (Sub.front 6 rfl rfl (Sub.front 6 rfl rfl (Sub.front 6 rfl rfl (Sub.front 6 rfl rfl (Sub.pre 7 rfl)))))))) rfl (by repeat (first | exact trivial | refine ⟨rfl, ?_⟩)) ⟨hh, hn349, rfl⟩ (fun g1 j1 hg1 => ?_)
        obtain ⟨⟨l373, k375⟩, _⟩ := g1
        obtain ⟨hh, hn372, hn374⟩ := hg1
        try dsimp only at hn372
        try dsimp only at hn374
        show TC _ _ _ (upds (mask _ j1 _) [(47, .int .i64 ((k375 : Nat) : Int))]) _ [Res.cells b101 #[.slice a0_0 x0.cls.length c0_0, .slice a0_1 x0.next.length c0_1, .slice a0_2 x0.fin.length c0_2] 26, Res.cells b114 #[.slice a111 ((List.replicate (x1.length + 1) false).length) c112] 24, Res.rowS 4 1 encB (.slice a111 (List.replicate (x1.length + 1) false).length c112) l348, Res.cells b117 #[.slice a352 l351.length c353] 24, Res.rowS 4 1 encB (.slice a352 l351.length c353) l351, Res.cells b122 #[.slice a356 l355.length c357] 24, Res.rowS 4 1 encB (.slice a356 l355.length c357) l373]
        obtain ⟨z2, hh, hR2⟩ := iter_e hh
        dsimp only [scan_After_b1] at hh
        have hn372b := hn372
        have hn374b := hn374
        refine TC.isSl (i := 2) rfl (fun _ hb376 _ => ?_)
        refine TC.isSl (i := 4) rfl (fun _ hb377 _ => ?_)
        refine TC.isSl (i := 6) rfl (fun _ hb378 _ => ?_)
        refine TC.seq ?_
        refine TC.region ?_
        refine TL.v rfl (OpVal.lss rfl rfl rfl) rfl rfl ?_
        refine TL.nil ?_
        refine S.n ?_
        refine TC.seq ?_
        refine TC.cond rfl (fun h379 => ?_) (fun h379 => ?_)
        · replace hh := iteO_t h379 hh
          replace h379 := of_decide_eq_true h379
          refine TC.skip ?_
          refine S.n ?_
          refine TC.cutG (α := ((List Bool)) × (Unit)) [12, 13, 49, 50, 51, 52, 53, 54, 55, 56, 57, 58, 59, 60, 61, 62, 63, 64, 65, 66, 67, 68, 69, 70, 71, 72] (fun g => []) (fun g => [Res.cells b101 #[.slice a0_0 x0.cls.length c0_0, .slice a0_1 x0.next.length c0_1, .slice a0_2 x0.fin.length c0_2] 26, Res.cells b114 #[.slice a111 ((List.replicate (x1.length + 1) false).length) c112] 24, Res.rowS 4 1 encB (.slice a111 (List.replicate (x1.length + 1) false).length c112) l348, Res.cells b117 #[.slice a352 l351.length c353] 24, Res.rowS 4 1 encB (.slice a352 l351.length c353) l351, Res.cells b122 #[.slice a356 l355.length c357] 24, Res.rowS 4 1 encB (.slice a356 l355.length c357) g.1]) (fun g => τ358) (fun g => scan_After_j2 k375 g.1 = some z2 ∧ l348.length = (List.replicate (x1.length + 1) false).length ∧ g.1.length = l355.length) ?_ (fun g j hg => ?_)
          · skip
            refine TC.block ?_
            refine TC.seq ?_
            refine TC.region ?_
            refine TL.v rfl (OpVal.moveI (.inl rfl) rfl) rfl rfl ?_
            refine TL.v rfl (OpVal.indexN rfl Tryd.underlying24 sz4 rfl rfl f0_2.rv.sl (by omega)) rfl rfl ?_
            refine TL.v rfl (OpVal.loadS1 false rfl ag4 rfl f0_2 (by omega) rfl) rfl rfl ?_
            refine TL.v rfl (OpVal.moveI (.inr rfl) rfl) rfl rfl ?_
            refine TL.v rfl (OpVal.moveB (.inr rfl) rfl) rfl rfl ?_
            refine TL.nil ?_
            refine S.n ?_
            refine TC.draw [21] (by kernel_rfl) ?_
            refine TA.take 0 rfl (by kernel_rfl) (by kernel_rfl) (by kernel_rfl) (by kernel_rfl) rfl (OpVal.loadLoc rfl ag24 rfl (i := 5) rfl rfl) rfl rfl ?_
            refine TA.takeP 1 rfl (by kernel_rfl) (by kernel_rfl) (by kernel_rfl) rfl (OpVal.moveI (.inl rfl) rfl) rfl rfl ?_
            refine TA.takeP 2 rfl (by kernel_rfl) (by kernel_rfl) (by kernel_rfl) rfl (OpVal.moveB (.inl rfl) rfl) rfl rfl ?_
            refine TA.takeP 3 rfl (by kernel_rfl) (by kernel_rfl) (by kernel_rfl) rfl (OpVal.moveB (.inl rfl) rfl) rfl rfl ?_
            refine TA.split 55 rfl (fun h383 => ?_) (fun h383 => ?_)
            · replace hh := iteO_t h383 hh
              refine TA.takeOff 4 rfl (by kernel_rfl) (by kernel_rfl) (by kernel_rfl) (by kernel_rfl) rfl rfl rfl rfl rfl rfl rfl rfl ?_
              refine TA.takeOff 5 rfl (by kernel_rfl) (by kernel_rfl) (by kernel_rfl) (by kernel_rfl) rfl rfl rfl rfl rfl rfl rfl rfl ?_
              refine TA.takeOff 6 rfl (by kernel_rfl) (by kernel_rfl) (by kernel_rfl) (by kernel_rfl) rfl rfl rfl rfl rfl rfl rfl rfl ?_
              refine TA.takeOff 7 rfl (by kernel_rfl) (by kernel_rfl) (by kernel_rfl) (by kernel_rfl) rfl rfl rfl rfl rfl rfl rfl rfl ?_
              refine TA.takeOff 8 rfl (by kernel_rfl) (by kernel_rfl) (by kernel_rfl) (by kernel_rfl) rfl rfl rfl rfl rfl rfl rfl rfl ?_
              refine TA.takeOff 9 rfl (by kernel_rfl) (by kernel_rfl) (by kernel_rfl) (by kernel_rfl) rfl rfl rfl rfl rfl rfl rfl rfl ?_
              refine TA.takeOff 10 rfl (by kernel_rfl) (by kernel_rfl) (by kernel_rfl) (by kernel_rfl) rfl rfl rfl rfl rfl rfl rfl rfl ?_
              refine TA.takeOff 11 rfl (by kernel_rfl) (by kernel_rfl) (by kernel_rfl) (by kernel_rfl) rfl rfl rfl rfl rfl rfl rfl rfl ?_
              refine TA.takeOff 12 rfl (by kernel_rfl) (by kernel_rfl) (by kernel_rfl) (by kernel_rfl) rfl rfl rfl rfl rfl rfl rfl rfl ?_
              refine TA.takeOff 13 rfl (by kernel_rfl) (by kernel_rfl) (by kernel_rfl) (by kernel_rfl) rfl rfl rfl rfl rfl rfl rfl rfl ?_
              refine TA.takeOff 14 rfl (by kernel_rfl) (by kernel_rfl) (by kernel_rfl) (by kernel_rfl) rfl rfl rfl rfl rfl rfl rfl rfl ?_
              refine TA.takeOff 15 rfl (by kernel_rfl) (by kernel_rfl) (by kernel_rfl) (by kernel_rfl) rfl rfl rfl rfl rfl rfl rfl rfl ?_
              refine TA.takeOff 16 rfl (by kernel_rfl) (by kernel_rfl) (by kernel_rfl) (by kernel_rfl) rfl rfl rfl rfl rfl rfl rfl rfl ?_
              refine TA.takeOff 17 rfl (by kernel_rfl) (by kernel_rfl) (by kernel_rfl) (by kernel_rfl) rfl rfl rfl rfl rfl rfl rfl rfl ?_
              refine TA.takeOff 18 rfl (by kernel_rfl) (by kernel_rfl) (by kernel_rfl) (by kernel_rfl) rfl rfl rfl rfl rfl rfl rfl rfl ?_
              refine TA.takeP 19 rfl (by kernel_rfl) (by kernel_rfl) (by kernel_rfl) rfl (OpVal.pickTB rfl rfl rfl) rfl rfl ?_
              have u74 := grd_c hh
              replace hh := grd_t hh
              refine TA.isSl (i := 6) rfl (fun hs384 _ _ => ?_)
              refine TA.take 20 rfl (by kernel_rfl) (by kernel_rfl) (by kernel_rfl) (by kernel_rfl) rfl (OpVal.indexN rfl Tryd.underlying24 sz4 rfl rfl hs384 (by omega)) rfl rfl ?_
              refine TA.front 6 rfl rfl ?_
              have hn385 : (l373.set k375 true).length = l355.length := by rw [List.length_set]; exact hn374
              refine TA.last 21 (by kernel_rfl) rfl rfl rfl (OpOk.storeS true rfl sz4 rfl rfl rfl rfl encB_len encB_one (by omega) (by omega) ?_)
              refine TZ.done (by kernel_rfl) ?_
              refine B.n ?_
              refine S.n ?_
              refine ⟨by repeat (first | exact Agr.refl _ _ | exact Agr.mask | refine Agr.upd rfl ?_ | refine Agr.maskIn rfl ?_ | refine Agr.upds rfl ?_), ((l373.set k375 true), ()), ⟨hh, hn372, hn385⟩, by repeat (first | exact trivial | refine ⟨rfl, ?_⟩), Sub.front 6 rfl rfl (Sub.front 6 rfl rfl (Sub.front 6 rfl rfl (Sub.front 6 rfl rfl (Sub.front 6 rfl rfl (Sub.front 6 rfl rfl (Sub.pre 7 rfl)))))), rfl⟩
            · replace hh := iteO_f h383 hh
              refine TA.takeOn 4 rfl (by kernel_rfl) (by kernel_rfl) (by kernel_rfl) (by kernel_rfl) rfl rfl rfl rfl rfl (OpVal.loadLoc rfl ag24 rfl (i := 3) rfl rfl) rfl rfl ?_
              refine TA.takeOn 5 rfl (by kernel_rfl) (by kernel_rfl) (by kernel_rfl) (by kernel_rfl) rfl rfl rfl rfl rfl (OpVal.fieldLoc rfl fo26_1 rfl) rfl rfl ?_
              refine TA.takeOn 6 rfl (by kernel_rfl) (by kernel_rfl) (by kernel_rfl) (by kernel_rfl) rfl rfl rfl rfl rfl (OpVal.loadLoc rfl ag23 rfl (i := 0) rfl rfl) rfl rfl ?_
              refine TA.takeOn 7 rfl (by kernel_rfl) (by kernel_rfl) (by kernel_rfl) (by kernel_rfl) rfl rfl rfl rfl rfl (OpVal.moveI (.inl rfl) rfl) rfl rfl ?_
              have u62 := grd_c hh
              replace hh := grd_t hh
              refine TA.takeOn 8 rfl (by kernel_rfl) (by kernel_rfl) (by kernel_rfl) (by kernel_rfl) rfl rfl rfl rfl rfl (OpVal.indexN rfl Tryd.underlying23 sz22 rfl rfl f0_1.isSl (by omega)) rfl rfl ?_
              obtain ⟨p386, hk386, hg386⟩ := RZ.seg f0_1 k375 (by omega)
              replace hk386 : RS _ 1 Go.E.encI (.slice p386.1 (nth x0.next k375 ([] : List Int)).length p386.2) (nth x0.next k375 ([] : List Int)) := hk386
              have hk386b := hk386.rv.big
              refine TA.takeOn 9 rfl (by kernel_rfl) (by kernel_rfl) (by kernel_rfl) (by kernel_rfl) rfl rfl rfl rfl rfl (OpVal.of (OpVal.loadSeg0 rfl ag22 rfl hg386 rfl) (v' := .slice p386.1 ((nth x0.next k375 ([] : List Int)).length) p386.2) rfl) rfl rfl ?_
              refine TA.takeOn 10 rfl (by kernel_rfl) (by kernel_rfl) (by kernel_rfl) (by kernel_rfl) rfl rfl rfl rfl rfl (OpVal.fieldLoc rfl fo26_0 rfl) rfl rfl ?_
              refine TA.takeOn 11 rfl (by kernel_rfl) (by kernel_rfl) (by kernel_rfl) (by kernel_rfl) rfl rfl rfl rfl rfl (OpVal.loadLoc rfl ag22 rfl (i := 0) rfl rfl) rfl rfl ?_
              refine TA.takeOn 12 rfl (by kernel_rfl) (by kernel_rfl) (by kernel_rfl) (by kernel_rfl) rfl rfl rfl rfl rfl (OpVal.moveI (.inl rfl) rfl) rfl rfl ?_
              have u67 := grd_c hh
              replace hh := grd_t hh
              refine TA.takeOn 13 rfl (by kernel_rfl) (by kernel_rfl) (by kernel_rfl) (by kernel_rfl) rfl rfl rfl rfl rfl (OpVal.indexN rfl Tryd.underlying22 sz3 rfl rfl f0_0.rv.sl (by omega)) rfl rfl ?_
              refine TA.takeOn 14 rfl (by kernel_rfl) (by kernel_rfl) (by kernel_rfl) (by kernel_rfl) rfl rfl rfl rfl rfl (OpVal.loadS1 (0 : Int) rfl ag3 rfl f0_0 (by omega) rfl) rfl rfl ?_
              have u69 := grd_c hh
              replace hh := grd_t hh
              refine TA.takeOn 15 rfl (by kernel_rfl) (by kernel_rfl) (by kernel_rfl) (by kernel_rfl) rfl rfl rfl rfl rfl (OpVal.index rfl Tryd.underlying22 sz3 rfl rfl hk386.rv.sl u69.1 u69.2) rfl rfl ?_
              refine TA.takeOn 16 rfl (by kernel_rfl) (by kernel_rfl) (by kernel_rfl) (by kernel_rfl) rfl rfl rfl rfl rfl (OpVal.loadS1 (0 : Int) rfl ag3 rfl hk386 (by omega) rfl) rfl rfl ?_
              have u71 := grd_c hh
              replace hh := grd_t hh
              refine TA.isSl (i := 4) rfl (fun hs387 _ _ => ?_)
              refine TA.takeOn 17 rfl (by kernel_rfl) (by kernel_rfl) (by kernel_rfl) (by kernel_rfl) rfl rfl rfl rfl rfl (OpVal.index rfl Tryd.underlying24 sz4 rfl rfl hs387 u71.1 u71.2) rfl rfl ?_
              refine TA.takeOn 18 rfl (by kernel_rfl) (by kernel_rfl) (by kernel_rfl) (by kernel_rfl) rfl rfl rfl rfl rfl (OpVal.loadO1 false rfl ag4 rfl (q := 4) rfl encB_len (by omega) rfl) rfl rfl ?_
              refine TA.takeP 19 rfl (by kernel_rfl) (by kernel_rfl) (by kernel_rfl) rfl (OpVal.pickFB rfl rfl rfl) rfl rfl ?_
              have u74 := grd_c hh
              replace hh := grd_t hh
              refine TA.isSl (i := 6) rfl (fun hs388 _ _ => ?_)
              refine TA.take 20 rfl (by kernel_rfl) (by kernel_rfl) (by kernel_rfl) (by kernel_rfl) rfl (OpVal.indexN rfl Tryd.underlying24 sz4 rfl rfl hs388 (by omega)) rfl rfl ?_
              refine TA.front 6 rfl rfl ?_
              have hn389 : (l373.set k375 (nth l351 ((nth (nth x0.next k375 ([] : List Int)) ((nth x0.cls y4_1.toNat (0 : Int)).toNat) (0 : Int)).toNat) false)).length = l355.length := by rw [List.length_set]; exact hn374
              refine TA.last 21 (by kernel_rfl) rfl rfl rfl (OpOk.storeS (nth l351 ((nth (nth x0.next k375 ([] : List Int)) ((nth x0.cls y4_1.toNat (0 : Int)).toNat) (0 : Int)).toNat) false) rfl sz4 rfl rfl rfl rfl encB_len encB_one (by omega) (by omega) ?_)
              refine TZ.done (by kernel_rfl) ?_
              refine B.n ?_
              refine S.n ?_
              refine ⟨by repeat (first | exact Agr.refl _ _ | exact Agr.mask | refine Agr.upd rfl ?_ | refine Agr.maskIn rfl ?_ | refine Agr.upds rfl ?_), ((l373.set k375 (nth l351 ((nth (nth x0.next k375 ([] : List Int)) ((nth x0.cls y4_1.toNat (0 : Int)).toNat) (0 : Int)).toNat) false)), ()), ⟨hh, hn372, hn389⟩, by repeat (first | exact trivial | refine ⟨rfl, ?_⟩), Sub.front 6 rfl rfl (Sub.front 6 rfl rfl (Sub.front 6 rfl rfl (Sub.front 6 rfl rfl (Sub.front 6 rfl rfl (Sub.front 6 rfl rfl (Sub.pre 7 rfl)))))), rfl⟩
          · skip
            obtain ⟨l381, _⟩ := g
            obtain ⟨hh, hn380, hn382⟩ := hg
            try dsimp only at hn380
            try dsimp only at hn382
            show TC _ _ _ (upds (mask _ j _) []) _ [Res.cells b101 #[.slice a0_0 x0.cls.length c0_0, .slice a0_1 x0.next.length c0_1, .slice a0_2 x0.fin.length c0_2] 26, Res.cells b114 #[.slice a111 ((List.replicate (x1.length + 1) false).length) c112] 24, Res.rowS 4 1 encB (.slice a111 (List.replicate (x1.length + 1) false).length c112) l348, Res.cells b117 #[.slice a352 l351.length c353] 24, Res.rowS 4 1 encB (.slice a352 l351.length c353) l351, Res.cells b122 #[.slice a356 l355.length c357] 24, Res.rowS 4 1 encB (.slice a356 l355.length c357) l381]
            dsimp only [scan_After_j2] at hh
            have hn380b := hn380
            have hn382b := hn382
            refine TC.isSl (i := 2) rfl (fun _ hb390 _ => ?_)
            refine TC.isSl (i := 4) rfl (fun _ hb391 _ => ?_)
            refine TC.isSl (i := 6) rfl (fun _ hb392 _ => ?_)
            refine TC.region ?_
            refine TL.v rfl (OpVal.succ rfl rfl rfl (by omega)) rfl rfl ?_
            refine TL.v rfl (OpVal.moveI (.inl rfl) rfl) rfl rfl ?_
            refine TL.nil ?_
            refine S.n ?_
            obtain ⟨hh, hlt393⟩ := nxt_x hR2 hh
            refine ⟨by repeat (first | exact Agr.refl _ _ | exact Agr.mask | refine Agr.upd rfl ?_ | refine Agr.maskIn rfl ?_ | refine Agr.upds rfl ?_), ((l381, (k375 + 1)), ()), hlt393, ⟨hh, hn380, hn382⟩, by repeat (first | exact trivial | refine ⟨rfl, ?_⟩), Sub.front 6 rfl rfl (Sub.front 6 rfl rfl (Sub.front 6 rfl rfl (Sub.front 6 rfl rfl (Sub.front 6 rfl rfl (Sub.front 6 rfl rfl (Sub.front 6 rfl rfl (Sub.pre 7 rfl))))))), rfl⟩
        · replace hh := iteO_f h379 hh
          replace h379 := of_decide_eq_false h379
          refine TC.exit ?_
          refine S.x ?_
          refine S.x ?_
          replace hh := fin_x hR2 hh
          refine TC.exitHere ?_
          refine S.n ?_
          refine TC.seq ?_
          refine TC.region ?_
          refine TL.v rfl (OpVal.loadLoc rfl ag24 rfl (i := 5) rfl rfl) rfl rfl ?_
          refine TL.v rfl (OpVal.loadLoc rfl ag24 rfl (i := 3) rfl rfl) rfl rfl ?_
          refine TL.front 3 rfl rfl ?_
          refine TL.op rfl (OpOk.storeSl rfl sz24 rfl rfl rfl rfl rfl ?_)
          refine TL.front 5 rfl rfl ?_
          refine TL.op rfl (OpOk.storeSl rfl sz24 rfl rfl rfl rfl rfl ?_)
          refine TL.nil ?_
          refine S.n ?_
          have u85 := grd_c hh
          replace hh := grd_t hh
          have u87 := grd_c hh
          replace hh := grd_t hh
          refine TC.draw [6] (by kernel_rfl) ?_
          refine TA.take 0 rfl (by kernel_rfl) (by kernel_rfl) (by kernel_rfl) (by kernel_rfl) rfl (OpVal.loadLoc rfl ag24 rfl (i := 3) rfl rfl) rfl rfl ?_
          refine TA.takeP 1 rfl (by kernel_rfl) (by kernel_rfl) (by kernel_rfl) rfl (OpVal.moveI (.inl rfl) rfl) rfl rfl ?_
          refine TA.take 2 rfl (by kernel_rfl) (by kernel_rfl) (by kernel_rfl) (by kernel_rfl) rfl (OpVal.loadLoc rfl ag24 rfl (i := 1) rfl rfl) rfl rfl ?_
          refine TA.isSl (i := 6) rfl (fun hs397 _ _ => ?_)
          refine TA.take 3 rfl (by kernel_rfl) (by kernel_rfl) (by kernel_rfl) (by kernel_rfl) rfl (OpVal.indexN (i := 0) rfl Tryd.underlying24 sz4 rfl rfl hs397 (by omega)) rfl rfl ?_
          refine TA.take 4 rfl (by kernel_rfl) (by kernel_rfl) (by kernel_rfl) (by kernel_rfl) rfl (OpVal.loadO1 false rfl ag4 rfl (q := 6) rfl encB_len (by omega) rfl) rfl rfl ?_
          refine TA.isSl (i := 4) rfl (fun hs398 _ _ => ?_)
          refine TA.take 5 rfl (by kernel_rfl) (by kernel_rfl) (by kernel_rfl) (by kernel_rfl) rfl (OpVal.index rfl Tryd.underlying24 sz4 rfl rfl hs398 u87.1 u87.2) rfl rfl ?_
          refine TA.front 4 rfl rfl ?_
          have hn399 : (l348.set y4_0.toNat (nth l373 0 false)).length = (List.replicate (x1.length + 1) false).length := by rw [List.length_set]; exact hn372
          refine TA.last 6 (by kernel_rfl) rfl rfl rfl (OpOk.storeS (nth l373 0 false) rfl sz4 rfl rfl rfl rfl encB_len encB_one (by omega) (by omega) ?_)
          rw [← hn374]
          refine TZ.done (by kernel_rfl) ?_
          refine B.n ?_
          obtain rfl := Option.some.inj hh
          exact rnd_n ⟨rfl, _, Sub.front 5 rfl rfl (Sub.front 2 rfl rfl (Sub.front 6 rfl rfl (Sub.front 4 rfl rfl (Sub.front 4 rfl rfl (Sub.front 6 rfl rfl (Sub.front 6 rfl rfl (Sub.pre 7 rfl))))))), ⟨a356, c357, a352, c353, rfl, hn399⟩⟩
      · rintro τ358 _ _ hle359 ⟨a352, c353, a356, c357, rfl, hn349⟩ ⟨rfl⟩
        replace f0_0 := f0_0.mono hle359
        replace f0_1 := f0_1.mono hle359
        replace f0_2 := f0_2.mono hle359
        replace zf105 := zf105.mono hle359
        replace hr107 := hr107.mono hle359
        replace hr323 := hr323.mono hle359
        replace f324_3 := f324_3.mono hle359
        have hn349b := hn349
        dsimp only [scan_After_k4] at hh
        show jmpQ _ _ _ _ _ τ358 [Res.cells b101 #[.slice a0_0 x0.cls.length c0_0, .slice a0_1 x0.next.length c0_1, .slice a0_2 x0.fin.length c0_2] 26, Res.cells b114 #[.slice a111 ((List.replicate (x1.length + 1) false).length) c112] 24, Res.rowS 4 1 encB (.slice a111 (List.replicate (x1.length + 1) false).length c112) l348, Res.cells b117 #[.slice a352 l351.length c353] 24, Res.rowS 4 1 encB (.slice a352 l351.length c353) l351, Res.cells b122 #[.slice a356 l355.length c357] 24, Res.rowS 4 1 encB (.slice a356 l355.length c357) l355, Res.cells b324_4 #[.slice a324_1 v41.length c324_2] 69]
        refine jmp_split hh ?_ ?_ <;> clear hh
        · intro hh
          refine B.n ?_
          refine S.n ?_
          refine TC.seq ?_
          refine TC.region ?_
          refine TL.v rfl (OpVal.loadLoc rfl ag24 rfl (i := 1) rfl rfl) rfl rfl ?_
          refine TL.v rfl (OpVal.moveSl (.inr rfl) rfl) rfl rfl ?_
          refine TL.v rfl (OpVal.moveI (.inr rfl) rfl) rfl rfl ?_
          refine TL.nil ?_
          refine S.n ?_
          rw [← hn349]
          refine TC.front 2 rfl rfl ?_
          refine TC.sealS encB_len (fun τ402 hle401 hr400 => ?_)
          replace f0_0 := f0_0.mono hle401
          replace f0_1 := f0_1.mono hle401
          replace f0_2 := f0_2.mono hle401
          replace zf105 := zf105.mono hle401
          replace hr107 := hr107.mono hle401
          replace hr323 := hr323.mono hle401
          replace f324_3 := f324_3.mono hle401
          have hr400b := hr400.rv.big
          refine TC.ofSub (Sub.pre 0 rfl) ?_
          refine TC.ret ?_
          obtain rfl := Option.some.inj hh
          exact RetOk.mk' (rs := [.tmp 4, .tmp 5]) [] rfl (.inl rfl) (RVs.tmp rfl (RVs.tmp rfl RVs.nil)) (List.sublist_append_left _ _) ⟨a111, c112, rfl, hr400, rfl⟩
        · intro m_ c_ hh hc_
          exact jl_nil hc_

noncomputable def scan_Factors_j1 (i135 : Int) (l132 : List Span) (i139 : Int) : Option (((List Span) × Int) ⊕ ((List Span) × Int)) :=
  iteO (decide (i139 = i135)) (nxt (l132, (IntKind.i64.wrap (i135 + 1)))) (grd ((l132.length + [(⟨i135, i139⟩ : Span)].length) * 16 ≤ 140737488355328) (nxt ((l132 ++ [(⟨i135, i139⟩ : Span)]), i139)))
noncomputable def scan_Factors_b1 (x3 : List UInt8) (v20 : (List Bool) × Int) (x0 : Dfa) (v33 : (List Bool) × Int) (l132 : List Span) (i135 : Int) : Option (((List Span) × Int) ⊕ ((List Span) × Int)) :=
  iteO (decide (i135 < ((x3.length : Nat) : Int))) (grd (0 ≤ i135 ∧ i135 < (v20.1.length : Int)) (iteO (nth v20.1 i135.toNat false) (bnd (longestF x0 x3 i135 v33.1) (fun v63 => scan_Factors_j1 i135 l132 v63)) (scan_Factors_j1 i135 l132 i135))) (fin (some (l132, 0)))
noncomputable def scan_Factors (x0 : Dfa) (x1 : Dfa) (x2 : Dfa) (x3 : List UInt8) : Option ((List Span) × Int) :=
  grd (x3.length ≤ 281474976710656) (bnd (scan_check x3 [x0, x1, x2]) (fun v11 => iteO (decide (v11 ≠ 0)) (some (([] : List Span), v11)) (bnd (scan_Before x1 x3) (fun v20 => iteO (decide (v20.2 ≠ 0)) (some (([] : List Span), v20.2)) (bnd (scan_After x2 x3) (fun v33 => iteO (decide (v33.2 ≠ 0)) (some (([] : List Span), v33.2)) (iter (fun q : (List Span) × Int => scan_Factors_b1 x3 v20 x0 v33 q.1 q.2) (([] : List Span), 0))))))))
def scan_Factors_P (σ : Store) (r : (List Span) × Int) : Value → Store → List Res → Prop := fun v σ' H' =>
  ∃ (a1 : Option Addr), ∃ (c1 : Nat),  v = .tuple #[.slice a1 r.1.length c1, .int .i64 r.2] ∧ RS σ' 2 encSpan (.slice a1 r.1.length c1) r.1 ∧ H' = []
theorem scan_Factors_con {σ : Store} {x0 : Dfa} {a0_0 : Option Addr} {c0_0 : Nat} {a0_1 : Option Addr} {c0_1 : Nat} {a0_2 : Option Addr} {c0_2 : Nat} {x1 : Dfa} {a1_0 : Option Addr} {c1_0 : Nat} {a1_1 : Option Addr} {c1_1 : Nat} {a1_2 : Option Addr} {c1_2 : Nat} {x2 : Dfa} {a2_0 : Option Addr} {c2_0 : Nat} {a2_1 : Option Addr} {c2_1 : Nat} {a2_2 : Option Addr} {c2_2 : Nat} {x3 : List UInt8} (f0_0 : RS σ 1 Go.E.encI (.slice a0_0 x0.cls.length c0_0) x0.cls) (f0_1 : RZ σ (pkSl 1 Go.E.encI Go.E.encI_len) (.slice a0_1 x0.next.length c0_1) x0.next) (f0_2 : RS σ 1 encB (.slice a0_2 x0.fin.length c0_2) x0.fin) (f1_0 : RS σ 1 Go.E.encI (.slice a1_0 x1.cls.length c1_0) x1.cls) (f1_1 : RZ σ (pkSl 1 Go.E.encI Go.E.encI_len) (.slice a1_1 x1.next.length c1_1) x1.next) (f1_2 : RS σ 1 encB (.slice a1_2 x1.fin.length c1_2) x1.fin) (f2_0 : RS σ 1 Go.E.encI (.slice a2_0 x2.cls.length c2_0) x2.cls) (f2_1 : RZ σ (pkSl 1 Go.E.encI Go.E.encI_len) (.slice a2_1 x2.next.length c2_1) x2.next) (f2_2 : RS σ 1 encB (.slice a2_2 x2.fin.length c2_2) x2.fin) {r : (List Span) × Int} (hh : scan_Factors x0 x1 x2 x3 = some r) :
    Con Tryd.prog 8 #[.agg #[.slice a0_0 x0.cls.length c0_0, .slice a0_1 x0.next.length c0_1, .slice a0_2 x0.fin.length c0_2], .agg #[.slice a1_0 x1.cls.length c1_0, .slice a1_1 x1.next.length c1_1, .slice a1_2 x1.fin.length c1_2], .agg #[.slice a2_0 x2.cls.length c2_0, .slice a2_1 x2.next.length c2_1, .slice a2_2 x2.fin.length c2_2], .string (bs x3)] σ [] (scan_Factors_P σ r) := by
  dsimp only [scan_Factors] at hh
  have f0_0b := f0_0.rv.big
  have f0_1b := f0_1.big
  have f0_2b := f0_2.rv.big
  have f1_0b := f1_0.rv.big
  have f1_1b := f1_1.big
  have f1_2b := f1_2.rv.big
  have f2_0b := f2_0.rv.big
  have f2_1b := f2_1.big
  have f2_2b := f2_2.rv.big
  refine Con.mk (n := 73) Tryd.func8 rfl rfl rfl (fun w0 => ?_)
  have x3b := grd_c hh
  replace hh := grd_t hh
  refine TC.seq ?_
  refine TC.region ?_
  refine TL.op rfl (OpOk.boxA rfl rfl rfl rfl (fun b101 => ?_))
  refine TL.op rfl (OpOk.boxA rfl rfl rfl rfl (fun b103 => ?_))
  refine TL.op rfl (OpOk.boxA rfl rfl rfl rfl (fun b105 => ?_))
  refine TL.v rfl (OpVal.moveSl (.inr rfl) rfl) rfl rfl ?_
  refine TL.v rfl (OpVal.moveI (.inr rfl) rfl) rfl rfl ?_
  refine TL.nil ?_
  refine S.n ?_
  refine TC.seq ?_
  refine TC.seq ?_
  refine TC.region ?_
  refine TL.v rfl (OpVal.moveStr (.inl rfl) rfl) rfl rfl ?_
  refine TL.v rfl (OpVal.loadAll rfl ag26 sz26 rfl (i := 2) rfl rfl) rfl rfl ?_
  refine TL.v rfl (OpVal.loadAll rfl ag26 sz26 rfl (i := 1) rfl rfl) rfl rfl ?_
  refine TL.v rfl (OpVal.loadAll rfl ag26 sz26 rfl (i := 0) rfl rfl) rfl rfl ?_
  have zf109 : ZOk _ pkDfa ([(x0, ⟨a0_0, c0_0, a0_1, c0_1, a0_2, c0_2⟩), (x1, ⟨a1_0, c1_0, a1_1, c1_1, a1_2, c1_2⟩), (x2, ⟨a2_0, c2_0, a2_1, c2_1, a2_2, c2_2⟩)] : List (Dfa × pkDfa.P)) [x0, x1, x2] := ZOk.cons (⟨f0_0, f0_1, f0_2⟩) (ZOk.cons (⟨f1_0, f1_1, f1_2⟩) (ZOk.cons (⟨f2_0, f2_1, f2_2⟩) (ZOk.nil _ _)))
  refine TL.op rfl (OpOk.litZ zf109 rfl Tryd.underlying72 sz26 rfl ze26 rfl rfl rfl (by decide) (by decide) rfl (by decide) rfl (by decide) (fun a107 c108 => ?_))
  refine TL.sealZ zf109 (fun τ113 hle112 hr111 => ?_)
  replace f0_0 := f0_0.mono hle112
  replace f0_1 := f0_1.mono hle112
  replace f0_2 := f0_2.mono hle112
  replace f1_0 := f1_0.mono hle112
  replace f1_1 := f1_1.mono hle112
  replace f1_2 := f1_2.mono hle112
  replace f2_0 := f2_0.mono hle112
  replace f2_1 := f2_1.mono hle112
  replace f2_2 := f2_2.mono hle112
  replace zf109 := zf109.mono hle112
  have hr111b := hr111.big
  obtain ⟨v11, u11, hh⟩ := bnd_e hh
  refine TL.op rfl (OpOk.callP (scan_check_con hr111 u11) rfl rfl pf21 rfl rfl rfl ?_)
  refine TL.v rfl (OpVal.moveI (.inr rfl) rfl) rfl rfl ?_
  refine TL.nil ?_
  refine S.n ?_
  refine TC.seq ?_
  refine TC.region ?_
  refine TL.v rfl (OpVal.moveI (.inl rfl) rfl) rfl rfl ?_
  refine TL.v rfl (OpVal.neq rfl rfl rfl) rfl rfl ?_
  refine TL.nil ?_
  refine S.n ?_
  refine TC.cond rfl (fun h114 => ?_) (fun h114 => ?_)
  · replace hh := iteO_t h114 hh
    replace h114 := of_decide_eq_true h114
    refine TC.seq ?_
    refine TC.region ?_
    refine TL.v rfl (OpVal.moveI (.inl rfl) rfl) rfl rfl ?_
    refine TL.v rfl (OpVal.moveSl (.inr rfl) rfl) rfl rfl ?_
    refine TL.v rfl (OpVal.moveI (.inr rfl) rfl) rfl rfl ?_
    refine TL.nil ?_
    refine S.n ?_
    refine TC.ofSub (Sub.pre 0 rfl) ?_
    refine TC.ret ?_
    refine S.r ?_
    obtain rfl := Option.some.inj hh
    exact RetOk.mk' (rs := [.tmp 8, .tmp 9]) [] rfl (.inl rfl) (RVs.tmp rfl (RVs.tmp rfl RVs.nil)) (List.sublist_append_left _ _) ⟨none, 0, rfl, (RS.nilF _ encSpan encSpan_len), rfl⟩
  · replace hh := iteO_f h114 hh
    replace h114 := of_decide_eq_false h114
    refine TC.skip ?_
    refine S.n ?_
    refine TC.seq ?_
    refine TC.region ?_
    refine TL.v rfl (OpVal.loadAll rfl ag26 sz26 rfl (i := 1) rfl rfl) rfl rfl ?_
    refine TL.v rfl (OpVal.moveStr (.inl rfl) rfl) rfl rfl ?_
    obtain ⟨v20, u20, hh⟩ := bnd_e hh
    refine TL.op rfl (OpOk.call (scan_Before_con (x0 := x1) f1_0 f1_1 f1_2 u20) rfl rfl pf14 rfl rfl rfl rfl ?_)
    rintro _ τ115 _ hle115 ⟨a115_1, c115_1, rfl, hr115_0, rfl⟩
    replace f0_0 := f0_0.mono hle115
    replace f0_1 := f0_1.mono hle115
    replace f0_2 := f0_2.mono hle115
    replace f1_0 := f1_0.mono hle115
    replace f1_1 := f1_1.mono hle115
    replace f1_2 := f1_2.mono hle115
    replace f2_0 := f2_0.mono hle115
    replace f2_1 := f2_1.mono hle115
    replace f2_2 := f2_2.mono hle115
    replace zf109 := zf109.mono hle115
    replace hr111 := hr111.mono hle115
    have hr115_0b := hr115_0.rv.big
    refine TL.v rfl (OpVal.moveT (.inl rfl) rfl) rfl rfl ?_
    refine TL.v rfl (OpVal.extract rfl rfl rfl) rfl rfl ?_
    refine TL.v rfl (OpVal.extract rfl rfl rfl) rfl rfl ?_
    refine TL.v rfl (OpVal.moveSl (.inr rfl) rfl) rfl rfl ?_
    refine TL.v rfl (OpVal.moveI (.inr rfl) rfl) rfl rfl ?_
    refine TL.nil ?_
    refine S.n ?_
    refine TC.seq ?_
    refine TC.seq ?_
    refine TC.region ?_
    refine TL.v rfl (OpVal.moveI (.inl rfl) rfl) rfl rfl ?_
    refine TL.v rfl (OpVal.neq rfl rfl rfl) rfl rfl ?_
    refine TL.nil ?_
    refine S.n ?_
    refine TC.cond rfl (fun h116 => ?_) (fun h116 => ?_)
    · replace hh := iteO_t h116 hh
      replace h116 := of_decide_eq_true h116
      refine TC.seq ?_
      refine TC.region ?_
      refine TL.v rfl (OpVal.moveI (.inl rfl) rfl) rfl rfl ?_
      refine TL.v rfl (OpVal.moveSl (.inr rfl) rfl) rfl rfl ?_
      refine TL.v rfl (OpVal.moveI (.inr rfl) rfl) rfl rfl ?_
      refine TL.nil ?_
      refine S.n ?_
      refine TC.ofSub (Sub.pre 0 rfl) ?_
      refine TC.ret ?_
      refine S.r ?_
      obtain rfl := Option.some.inj hh
      exact RetOk.mk' (rs := [.tmp 8, .tmp 9]) [] rfl (.inl rfl) (RVs.tmp rfl (RVs.tmp rfl RVs.nil)) (List.sublist_append_left _ _) ⟨none, 0, rfl, (RS.nilF _ encSpan encSpan_len), rfl⟩
    · replace hh := iteO_f h116 hh
      replace h116 := of_decide_eq_false h116
      refine TC.skip ?_
      refine S.n ?_
      refine TC.seq ?_
      refine TC.region ?_
      refine TL.v rfl (OpVal.loadAll rfl ag26 sz26 rfl (i := 0) rfl rfl) rfl rfl ?_
      refine TL.v rfl (OpVal.moveStr (.inl rfl) rfl) rfl rfl ?_
      obtain ⟨v33, u33, hh⟩ := bnd_e hh
      refine TL.op rfl (OpOk.call (scan_After_con (x0 := x2) f2_0 f2_1 f2_2 u33) rfl rfl pf16 rfl rfl rfl rfl ?_)
      rintro _ τ117 _ hle117 ⟨a117_1, c117_1, rfl, hr117_0, rfl⟩
      replace f0_0 := f0_0.mono hle117
      replace f0_1 := f0_1.mono hle117
      replace f0_2 := f0_2.mono hle117
      replace f1_0 := f1_0.mono hle117
      replace f1_1 := f1_1.mono hle117
      replace f1_2 := f1_2.mono hle117
      replace f2_0 := f2_0.mono hle117
      replace f2_1 := f2_1.mono hle117
      replace f2_2 := f2_2.mono hle117
      replace zf109 := zf109.mono hle117
      replace hr111 := hr111.mono hle117
      replace hr115_0 := hr115_0.mono hle117
      have hr117_0b := hr117_0.rv.big
      refine TL.v rfl (OpVal.moveT (.inl rfl) rfl) rfl rfl ?_
      refine TL.v rfl (OpVal.extract rfl rfl rfl) rfl rfl ?_
      refine TL.v rfl (OpVal.extract rfl rfl rfl) rfl rfl ?_
      refine TL.op rfl (OpOk.alloc rfl ze24 rfl rfl (fun b118 => ?_))
      refine TL.op rfl (OpOk.storeSl rfl sz24 rfl rfl rfl rfl rfl ?_)
      refine TL.v rfl (OpVal.moveI (.inr rfl) rfl) rfl rfl ?_
      refine TL.nil ?_
      refine S.n ?_
      refine TC.seq ?_
      refine TC.seq ?_
      refine TC.region ?_
      refine TL.v rfl (OpVal.moveI (.inl rfl) rfl) rfl rfl ?_
      refine TL.v rfl (OpVal.neq rfl rfl rfl) rfl rfl ?_
      refine TL.nil ?_
      refine S.n ?_
      refine TC.cond rfl (fun h120 => ?_) (fun h120 => ?_)
      · replace hh := iteO_t h120 hh
        replace h120 := of_decide_eq_true h120
        refine TC.seq ?_
        refine TC.region ?_
        refine TL.v rfl (OpVal.moveI (.inl rfl) rfl) rfl rfl ?_
        refine TL.v rfl (OpVal.moveSl (.inr rfl) rfl) rfl rfl ?_
        refine TL.v rfl (OpVal.moveI (.inr rfl) rfl) rfl rfl ?_
        refine TL.nil ?_
        refine S.n ?_
        refine TC.ofSub (Sub.pre 0 rfl) ?_
        refine TC.ret ?_
        refine S.r ?_
        obtain rfl := Option.some.inj hh
        exact RetOk.mk' (rs := [.tmp 8, .tmp 9]) [] rfl (.inl rfl) (RVs.tmp rfl (RVs.tmp rfl RVs.nil)) (List.sublist_append_left _ _) ⟨none, 0, rfl, (RS.nilF _ encSpan encSpan_len), rfl⟩
      · replace hh := iteO_f h120 hh
        replace h120 := of_decide_eq_false h120
        refine TC.skip ?_
        refine S.n ?_
        refine TC.seq ?_
        refine TC.region ?_
        refine TL.v rfl (OpVal.moveSl (.inr rfl) rfl) rfl rfl ?_
        refine TL.nil ?_
        refine S.n ?_
        refine TC.seq ?_
        refine TC.region ?_
        refine TL.v rfl (OpVal.makeFn rfl) rfl rfl ?_
        refine TL.v rfl (OpVal.moveFn (.inr rfl) rfl) rfl rfl ?_
        refine TL.nil ?_
        refine S.n ?_
        refine TC.seq ?_
        refine TC.seq ?_
        refine TC.region ?_
        refine TL.v rfl (OpVal.moveI (.inr rfl) rfl) rfl rfl ?_
        refine TL.nil ?_
        refine S.n ?_
        refine TC.block ?_
        refine TC.nilS 43 2 encSpan ?_
        refine TC.loopG (α := ((List Span) × Int) × ((Option Addr) × Nat)) [14, 16, 17, 46, 47, 48, 49, 50, 51, 52, 53, 54, 55, 56, 57, 58, 59, 60, 61, 62, 63, 64, 65, 66, 67, 68, 69, 70, 71] (fun g => [(14, .slice g.2.1 g.1.1.length g.2.2), (16, .int .i64 g.1.2)]) (fun g => [Res.cells b101 #[.slice a0_0 x0.cls.length c0_0, .slice a0_1 x0.next.length c0_1, .slice a0_2 x0.fin.length c0_2] 26, Res.rowS 43 2 encSpan (.slice g.2.1 g.1.1.length g.2.2) g.1.1, Res.cells b118 #[.slice a117_1 v33.1.length c117_1] 24]) (fun g => τ117) (fun g => iter (fun q : (List Span) × Int => scan_Factors_b1 x3 v20 x0 v33 q.1 q.2) g.1 = some r) (fun g => rounds (fun q : (List Span) × Int => scan_Factors_b1 x3 v20 x0 v33 q.1 q.2) g.1) ((([] : List Span), 0), (none, 0)) (Sub.front 1 rfl rfl (Sub.front 1 rfl rfl (Sub.front 4 rfl rfl (Sub.pre 3 rfl)))) rfl (by repeat (first | exact trivial | refine ⟨rfl, ?_⟩)) hh (fun g1 j1 hg1 => ?_)
        obtain ⟨⟨l132, i135⟩, ⟨a133, c134⟩⟩ := g1
        have hh := hg1; clear hg1
        show TC _ _ _ (upds (mask _ j1 _) [(14, .slice a133 l132.length c134), (16, .int .i64 i135)]) _ [Res.cells b101 #[.slice a0_0 x0.cls.length c0_0, .slice a0_1 x0.next.length c0_1, .slice a0_2 x0.fin.length c0_2] 26, Res.rowS 43 2 encSpan (.slice a133 l132.length c134) l132, Res.cells b118 #[.slice a117_1 v33.1.length c117_1] 24]
        obtain ⟨z1, hh, hR1⟩ := iter_e hh
        dsimp only [scan_Factors_b1] at hh
        refine TC.isSl (i := 1) rfl (fun _ hb137 _ => ?_)
        refine TC.seq ?_
        refine TC.seq ?_
        refine TC.region ?_
        refine TL.v rfl (OpVal.moveI (.inl rfl) rfl) rfl rfl ?_
        refine TL.v rfl (OpVal.moveStr (.inl rfl) rfl) rfl rfl ?_
        refine TL.v rfl (OpVal.lenBs rfl Tryd.underlying9 rfl) rfl rfl ?_
        refine TL.v rfl (OpVal.lss rfl rfl rfl) rfl rfl ?_
        refine TL.nil ?_
        refine S.n ?_
        refine TC.cond rfl (fun h138 => ?_) (fun h138 => ?_)
        · replace hh := iteO_t h138 hh
          replace h138 := of_decide_eq_true h138
          refine TC.skip ?_
          refine S.n ?_
          refine TC.block ?_
          refine TC.seq ?_
          refine TC.region ?_
          refine TL.v rfl (OpVal.moveI (.inl rfl) rfl) rfl rfl ?_
          refine TL.v rfl (OpVal.moveI (.inr rfl) rfl) rfl rfl ?_
          refine TL.nil ?_
          refine S.n ?_
          refine TC.cutG (α := (Int) × (Unit)) [17, 51, 52, 53, 54, 55, 56, 57, 58, 59] (fun g => [(17, .int .i64 g.1)]) (fun g => [Res.cells b101 #[.slice a0_0 x0.cls.length c0_0, .slice a0_1 x0.next.length c0_1, .slice a0_2 x0.fin.length c0_2] 26, Res.rowS 43 2 encSpan (.slice a133 l132.length c134) l132, Res.cells b118 #[.slice a117_1 v33.1.length c117_1] 24]) (fun g => τ117) (fun g => scan_Factors_j1 i135 l132 g.1 = some z1) ?_ (fun g j hg => ?_)
          · skip
            refine TC.seq ?_
            refine TC.region ?_
            refine TL.v rfl (OpVal.moveSl (.inl rfl) rfl) rfl rfl ?_
            refine TL.v rfl (OpVal.moveI (.inl rfl) rfl) rfl rfl ?_
            have u57 := grd_c hh
            replace hh := grd_t hh
            refine TL.v rfl (OpVal.index rfl Tryd.underlying24 sz4 rfl rfl hr115_0.rv.sl u57.1 u57.2) rfl rfl ?_
            refine TL.v rfl (OpVal.loadS1 false rfl ag4 rfl hr115_0 (by omega) rfl) rfl rfl ?_
            refine TL.nil ?_
            refine S.n ?_
            refine TC.cond rfl (fun h140 => ?_) (fun h140 => ?_)
            · replace hh := iteO_t h140 hh
              refine TC.region ?_
              refine TL.v rfl (OpVal.loadAll rfl ag26 sz26 rfl (i := 0) rfl rfl) rfl rfl ?_
              refine TL.v rfl (OpVal.moveStr (.inl rfl) rfl) rfl rfl ?_
              refine TL.v rfl (OpVal.moveI (.inl rfl) rfl) rfl rfl ?_
              refine TL.v rfl (OpVal.moveFn (.inl rfl) rfl) rfl rfl ?_
              refine TL.front 2 rfl rfl ?_
              obtain ⟨v63, u63, hh⟩ := bnd_e hh
              refine TL.op rfl (OpOk.call (longestF_con f0_0 f0_1 f0_2 hr117_0 u63) rfl rfl pf23 rfl rfl rfl rfl ?_)
              rintro _ _ _ hle141 ⟨rfl, rfl, rfl⟩
              refine TL.v rfl (OpVal.moveI (.inr rfl) rfl) rfl rfl ?_
              refine TL.nil ?_
              refine S.n ?_
              refine ⟨by repeat (first | exact Agr.refl _ _ | exact Agr.mask | refine Agr.upd rfl ?_ | refine Agr.maskIn rfl ?_ | refine Agr.upds rfl ?_), (v63, ()), hh, by repeat (first | exact trivial | refine ⟨rfl, ?_⟩), Sub.front 2 rfl rfl (Sub.front 2 rfl rfl (Sub.pre 3 rfl)), rfl⟩
            · replace hh := iteO_f h140 hh
              refine TC.skip ?_
              refine S.n ?_
              refine ⟨by repeat (first | exact Agr.refl _ _ | exact Agr.mask | refine Agr.upd rfl ?_ | refine Agr.maskIn rfl ?_ | refine Agr.upds rfl ?_), (i135, ()), hh, by repeat (first | exact trivial | refine ⟨rfl, ?_⟩), Sub.front 2 rfl rfl (Sub.front 2 rfl rfl (Sub.front 2 rfl rfl (Sub.pre 3 rfl))), rfl⟩
          · skip
            obtain ⟨i139, _⟩ := g
            have hh := hg; clear hg
            show TC _ _ _ (upds (mask _ j _) [(17, .int .i64 i139)]) _ [Res.cells b101 #[.slice a0_0 x0.cls.length c0_0, .slice a0_1 x0.next.length c0_1, .slice a0_2 x0.fin.length c0_2] 26, Res.rowS 43 2 encSpan (.slice a133 l132.length c134) l132, Res.cells b118 #[.slice a117_1 v33.1.length c117_1] 24]
            dsimp only [scan_Factors_j1] at hh
            refine TC.isSl (i := 1) rfl (fun _ hb142 _ => ?_)
            refine TC.seq ?_
            refine TC.seq ?_
            refine TC.region ?_
            refine TL.v rfl (OpVal.moveI (.inl rfl) rfl) rfl rfl ?_
            refine TL.v rfl (OpVal.moveI (.inl rfl) rfl) rfl rfl ?_
            refine TL.v rfl (OpVal.eql rfl rfl rfl) rfl rfl ?_
            refine TL.nil ?_
            refine S.n ?_
            refine TC.cond rfl (fun h143 => ?_) (fun h143 => ?_)
            · replace hh := iteO_t h143 hh
              replace h143 := of_decide_eq_true h143
              refine TC.seq ?_
              refine TC.region ?_
              refine TL.v rfl (OpVal.moveI (.inl rfl) rfl) rfl rfl ?_
              refine TL.v rfl (OpVal.addW rfl rfl rfl) rfl rfl ?_
              refine TL.v rfl (OpVal.moveI (.inr rfl) rfl) rfl rfl ?_
              refine TL.nil ?_
              refine S.n ?_
              refine TC.exit ?_
              refine S.x ?_
              refine TC.exitHere ?_
              refine S.n ?_
              obtain ⟨hh, hlt144⟩ := nxt_x hR1 hh
              refine ⟨by repeat (first | exact Agr.refl _ _ | exact Agr.mask | refine Agr.upd rfl ?_ | refine Agr.maskIn rfl ?_ | refine Agr.upds rfl ?_), ((l132, (IntKind.i64.wrap (i135 + 1))), (a133, c134)), hlt144, hh, by repeat (first | exact trivial | refine ⟨rfl, ?_⟩), Sub.front 2 rfl rfl (Sub.front 2 rfl rfl (Sub.front 2 rfl rfl (Sub.pre 3 rfl))), rfl⟩
            · replace hh := iteO_f h143 hh
              replace h143 := of_decide_eq_false h143
              refine TC.skip ?_
              refine S.n ?_
              refine TC.seq ?_
              refine TC.region ?_
              refine TL.v rfl (OpVal.moveSl (.inl rfl) rfl) rfl rfl ?_
              refine TL.v rfl (OpVal.moveI (.inl rfl) rfl) rfl rfl ?_
              refine TL.v rfl (OpVal.moveI (.inl rfl) rfl) rfl rfl ?_
              refine TL.v rfl (OpVal.buildL rfl pl43 ze43 rfl) rfl rfl ?_
              refine TL.op rfl (OpOk.lit (enc := encSpan) [(⟨i135, i139⟩ : Span)] rfl Tryd.underlying28 sz43 ze43 rfl rfl rfl encSpan_len (by decide) (by decide) Span.zero rfl (by decide) rfl (by decide) encSpan_one (fun a145 c146 => ?_))
              refine TL.front 2 rfl rfl ?_
              have u76 := grd_c hh
              replace hh := grd_t hh
              refine TL.op rfl (OpOk.appendS rfl rfl Tryd.underlying28 sz43 by43 ze43 rfl rfl (by decide) rfl rfl rfl (.inr ⟨_, 0, rfl⟩) (by simpa using u76) (by decide) (fun a148 c149 => ?_))
              refine TL.v rfl (OpVal.moveSl (.inr rfl) rfl) rfl rfl ?_
              refine TL.nil ?_
              refine S.n ?_
              refine TC.region ?_
              refine TL.v rfl (OpVal.moveI (.inl rfl) rfl) rfl rfl ?_
              refine TL.v rfl (OpVal.moveI (.inr rfl) rfl) rfl rfl ?_
              refine TL.nil ?_
              refine B.n ?_
              refine S.n ?_
              obtain ⟨hh, hlt150⟩ := nxt_x hR1 hh
              refine ⟨by repeat (first | exact Agr.refl _ _ | exact Agr.mask | refine Agr.upd rfl ?_ | refine Agr.maskIn rfl ?_ | refine Agr.upds rfl ?_), (((l132 ++ [(⟨i135, i139⟩ : Span)]), i139), (a148, c149)), hlt150, hh, by repeat (first | exact trivial | refine ⟨rfl, ?_⟩), Sub.front 3 rfl rfl (Sub.front 1 rfl rfl (Sub.front 3 rfl rfl (Sub.pre 3 rfl))), rfl⟩
        · replace hh := iteO_f h138 hh
          replace h138 := of_decide_eq_false h138
          refine TC.exit ?_
          refine S.x ?_
          refine S.x ?_
          replace hh := fin_x hR1 hh
          refine TC.exitHere ?_
          refine S.n ?_
          refine TC.seq ?_
          refine TC.region ?_
          refine TL.v rfl (OpVal.moveSl (.inl rfl) rfl) rfl rfl ?_
          refine TL.v rfl (OpVal.moveSl (.inr rfl) rfl) rfl rfl ?_
          refine TL.v rfl (OpVal.moveI (.inr rfl) rfl) rfl rfl ?_
          refine TL.nil ?_
          refine S.n ?_
          refine TC.front 1 rfl rfl ?_
          refine TC.sealS encSpan_len (fun τ153 hle152 hr151 => ?_)
          replace f0_0 := f0_0.mono hle152
          replace f0_1 := f0_1.mono hle152
          replace f0_2 := f0_2.mono hle152
          replace f1_0 := f1_0.mono hle152
          replace f1_1 := f1_1.mono hle152
          replace f1_2 := f1_2.mono hle152
          replace f2_0 := f2_0.mono hle152
          replace f2_1 := f2_1.mono hle152
          replace f2_2 := f2_2.mono hle152
          replace zf109 := zf109.mono hle152
          replace hr111 := hr111.mono hle152
          replace hr115_0 := hr115_0.mono hle152
          replace hr117_0 := hr117_0.mono hle152
          have hr151b := hr151.rv.big
          refine TC.ofSub (Sub.pre 0 rfl) ?_
          refine TC.ret ?_
          obtain rfl := Option.some.inj hh
          exact RetOk.mk' (rs := [.tmp 8, .tmp 9]) [] rfl (.inl rfl) (RVs.tmp rfl (RVs.tmp rfl RVs.nil)) (List.sublist_append_left _ _) ⟨a133, c134, rfl, hr151, rfl⟩

end Go.Proofs.YtkphkabfolkhoaaDoor
end
