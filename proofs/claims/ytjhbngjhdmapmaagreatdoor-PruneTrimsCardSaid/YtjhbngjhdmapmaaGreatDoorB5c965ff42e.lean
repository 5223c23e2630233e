/- Parts of a proof, one behind the other: what a machine reaches, functions decompiled, plain lemmas. Conditions stand with each lemma. -/
import Derived.Test.YtjhbngjhdmapmaaGreatDoorB3d18f53eed
import Derived.Test.YtjhbngjhdmapmaaGreatDoorBe03eb4c6f2
import Derived.Test.YtjhbngjhdmapmaaGreatDoorBf4d9a07265

/- F4 -/
section
/- Decompiled: Has; the law's own looks. -/
set_option linter.unusedVariables false
set_option linter.unusedSimpArgs false
namespace Go.Proofs.YtjhbngjhdmapmaaGreatDoor
open Go Go.E Go.E.OpVal Go.E.OpOk Go.Proofs.Tryz
set_option maxRecDepth 100000
private theorem ag22 : Go.E.aggOf Tryz.prog 22 = some false := by kernel_rfl
private theorem ag23 : Go.E.aggOf Tryz.prog 23 = some false := by kernel_rfl
private theorem ag53 : Go.E.aggOf Tryz.prog 53 = some true := by kernel_rfl
private theorem ag66 : Go.E.aggOf Tryz.prog 66 = some true := by kernel_rfl
private theorem ag9 : Go.E.aggOf Tryz.prog 9 = some false := by kernel_rfl
private theorem eg53 : Tryz.prog.eqGuardType Tryz.prog.depth 53 = false := by kernel_rfl
private theorem eg66 : Tryz.prog.eqGuardType Tryz.prog.depth 66 = false := by kernel_rfl
private theorem es53 (x y : Tip) : Go.E.EqAt Tryz.prog 2 53 (.agg (Go.E.encTip x).toArray) (.agg (Go.E.encTip y).toArray) (decide (x = y)) :=
 (EqAt.struct (ts := [(false, 3, 0), (false, 9, 1)]) (by kernel_rfl) (by kernel_rfl) (by kernel_rfl) (EqC.one (by kernel_rfl) rfl rfl (EqAt.int underlying3 x.state y.state) (EqC.one (by kernel_rfl) rfl rfl (EqAt.str underlying9 x.out y.out) EqC.nil))).of (by rw [Bool.eq_iff_iff]; cases x; cases y; simp)
private theorem es66 (x y : Arc) : Go.E.EqAt Tryz.prog 3 66 (.agg (Go.E.encArc x).toArray) (.agg (Go.E.encArc y).toArray) (decide (x = y)) :=
 (EqAt.struct (ts := [(false, 3, 0), (false, 3, 1), (false, 64, 2), (false, 9, 6), (false, 4, 7)]) (by kernel_rfl) (by kernel_rfl) (by kernel_rfl) (EqC.one (by kernel_rfl) rfl rfl (EqAt.int underlying3 x.frm y.frm |>.up (by decide)) (EqC.one (by kernel_rfl) rfl rfl (EqAt.int underlying3 x.to y.to |>.up (by decide)) (EqC.agg (s := 4) (us := Go.E.setA x.set) (vs := Go.E.setA y.set) (by kernel_rfl) (by kernel_rfl) rfl rfl (EqAt.set underlying64 underlying62 (by kernel_rfl) (by kernel_rfl) x.set y.set) (EqC.one (by kernel_rfl) rfl rfl (EqAt.str underlying9 x.out y.out |>.up (by decide)) (EqC.one (by kernel_rfl) rfl rfl (EqAt.bool underlying4 x.copy y.copy |>.up (by decide)) EqC.nil)))))).of (by rw [Bool.eq_iff_iff]; cases x; cases y; simp)
private theorem fo25_0 : Go.E.foOf Tryz.prog 25 0 = some 0 := by kernel_rfl
private theorem fo25_1 : Go.E.foOf Tryz.prog 25 1 = some 1 := by kernel_rfl
private theorem fo25_2 : Go.E.foOf Tryz.prog 25 2 = some 2 := by kernel_rfl
private theorem fo25_3 : Go.E.foOf Tryz.prog 25 3 = some 3 := by kernel_rfl
private theorem fo53_1 : Go.E.foOf Tryz.prog 53 1 = some 1 := by kernel_rfl
private theorem fo66_3 : Go.E.foOf Tryz.prog 66 3 = some 6 := by kernel_rfl
private theorem pf69 : Go.E.plainF Tryz.prog 69 = true := by kernel_rfl
private theorem sz53 : Go.E.szOf Tryz.prog 53 = some 2 := by kernel_rfl
private theorem sz66 : Go.E.szOf Tryz.prog 66 = some 8 := by kernel_rfl
private theorem sz9 : Go.E.szOf Tryz.prog 9 = some 1 := by kernel_rfl

noncomputable def whittleref03_Texts_b1 (x0 : List (List UInt8)) (x1 : List (List UInt8)) (k104 : Nat) : Option ((Nat) ⊕ (Bool)) :=
 iteO (decide (((k104 : Nat) : Int) < ((x0.length : Nat) : Int))) (grd (k104 < x1.length) (iteO (decide ((nth x0 k104 ([] : List UInt8)) ≠ (nth x1 k104 ([] : List UInt8)))) (fin (some false)) (nxt (k104 + 1)))) (fin (some true))
noncomputable def whittleref03_Texts (x0 : List (List UInt8)) (x1 : List (List UInt8)) : Option (Bool) :=
 iteO (decide (((x0.length : Nat) : Int) ≠ ((x1.length : Nat) : Int))) (some false) (iter (fun q : Nat => whittleref03_Texts_b1 x0 x1 q) 0)
theorem whittleref03_Texts_con {σ : Store} {x0 : List (List UInt8)} {a0_0 : Option Addr} {c0_0 : Nat} {x1 : List (List UInt8)} {a1_0 : Option Addr} {c1_0 : Nat} (f0_0 : RS σ 1 Go.E.encS (.slice a0_0 x0.length c0_0) x0) (f1_0 : RS σ 1 Go.E.encS (.slice a1_0 x1.length c1_0) x1) {r : Bool} (hh : whittleref03_Texts x0 x1 = some r) :
  Con Tryz.prog 21 #[.slice a0_0 x0.length c0_0, .slice a1_0 x1.length c1_0] σ [] (PureP (.bool r) σ) := by
 dsimp only [whittleref03_Texts] at hh
 have f0_0b := f0_0.rv.big
 have f1_0b := f1_0.rv.big
 refine Con.mk (n := 26) Tryz.func21 z z z (fun w0 => ?_)
 refine TC.a (TL.j z z (TL.en (TC.seq (TC.a (TL.s z z (TL.w z (lenC z underlying35 z) (TL.s z z (TL.w z (lenC z underlying35 z) (TL.w z (OpVal.neq z z z) (TL.en (TC.cD z hh (fun h101 hh => ?_) (fun h101 hh => ?_))))))))))))
 ·refine TC.a (TL.j z z (TL.en (TC.ret (S.r ?_))))
  obtain rfl := so hh
  exact rq [4] ⟨z, z, z⟩
 ·refine TC.skip (S.n (TC.seq (TC.a (TL.i z z (TL.en (TC.block (TC.loopG (α := (Nat) × (Unit)) (rgs [(4, 2), (11, 15)]) (fun g => [(5, .int .i64 ((g.1 : Nat) : Int))]) (fun g => []) (fun g => σ) (fun g => iter (fun q : Nat => whittleref03_Texts_b1 x0 x1 q) g.1 = some r) (fun g => rounds (fun q : Nat => whittleref03_Texts_b1 x0 x1 q) g.1) (0, ()) (Sub.pre 0 z) z (by repeat (first | exact trivial | refine ⟨z, ?_⟩)) hh (fun g1 j1 hg1 => ?_))))))))
  obtain ⟨k104, _⟩ := g1
  have hh := hg1; clear hg1
  try dsimp only
  obtain ⟨z1, hh, hR1⟩ := iter_e hh
  dsimp only [whittleref03_Texts_b1] at hh
  refine TC.seq (TC.a (TL.i z z (TL.s z z (TL.w z (lenC z underlying35 z) (TL.w z (OpVal.lss z z z) (TL.en (TC.cD z hh (fun h105 hh => ?_) (fun h105 hh => ?_))))))))
  ·refine TC.skip (S.n (TC.seq (TC.block (TC.seq ?_))))
   have u19 := grd_c hh
   replace hh := grd_t hh
   refine TC.draw [] (by kernel_rfl) (TA.a 0 z (moveSl (.inl z) z) z (TA.a 1 z (moveI (.inl z) z) z (TA.b 2 z (indexN z underlying35 sz9 z z f0_0.rv.sl (by omega)) z (TA.b 3 z (loadS1 ([] : List UInt8) z ag9 z f0_0 (by omega) z) z (TA.a 4 z (moveSl (.inl z) z) z (TA.a 5 z (moveI (.inl z) z) z (TA.b 6 z (indexN z underlying35 sz9 z z f1_0.rv.sl (by omega)) z (TA.b 7 z (loadS1 ([] : List UInt8) z ag9 z f1_0 (by omega) z) z (TA.a 8 z (neqBs z z z) z (TA.dn (S.n (TC.cD z hh (fun h106 hh => ?_) (fun h106 hh => ?_)))))))))))))
   ·refine TC.a (TL.j z z (TL.en (TC.ret (B.r (S.r (S.r ?_))))))
    replace hh := fin_x hR1 hh
    refine B.r (S.r ?_)
    obtain rfl := so hh
    exact rq [4] ⟨z, z, z⟩
   ·refine TC.skip (B.n (S.n (TC.region (TL.i z z (TL.w z (OpVal.succ z z z (by omega)) (TL.i z z (TL.en ?_)))))))
    obtain ⟨hh, hlt107⟩ := nxt_x hR1 hh
    exact lf ((k104 + 1), ()) hlt107 hh (Sub.pre 0 z)
  ·refine TC.exit (S.x (S.x ?_))
   replace hh := fin_x hR1 hh
   refine TC.exitHere (S.n (TC.a (TL.j z z (TL.en (TC.ret ?_)))))
   obtain rfl := so hh
   exact rq [4] ⟨z, z, z⟩

noncomputable def whittleref15_SameTips_b1 (x0 : List Tip) (x1 : List Tip) (k104 : Nat) : Option ((Nat) ⊕ (Bool)) :=
 iteO (decide (((k104 : Nat) : Int) < ((x0.length : Nat) : Int))) (grd (k104 < x1.length) (iteO (decide (¬ ((nth x0 k104 Tip.zero) = (nth x1 k104 Tip.zero)))) (fin (some false)) (nxt (k104 + 1)))) (fin (some true))
noncomputable def whittleref15_SameTips (x0 : List Tip) (x1 : List Tip) : Option (Bool) :=
 iteO (decide (((x0.length : Nat) : Int) ≠ ((x1.length : Nat) : Int))) (some false) (iter (fun q : Nat => whittleref15_SameTips_b1 x0 x1 q) 0)
theorem whittleref15_SameTips_con {σ : Store} {x0 : List Tip} {a0_0 : Option Addr} {c0_0 : Nat} {x1 : List Tip} {a1_0 : Option Addr} {c1_0 : Nat} (f0_0 : RS σ 2 encTip (.slice a0_0 x0.length c0_0) x0) (f1_0 : RS σ 2 encTip (.slice a1_0 x1.length c1_0) x1) {r : Bool} (hh : whittleref15_SameTips x0 x1 = some r) :
  Con Tryz.prog 69 #[.slice a0_0 x0.length c0_0, .slice a1_0 x1.length c1_0] σ [] (PureP (.bool r) σ) := by
 dsimp only [whittleref15_SameTips] at hh
 have f0_0b := f0_0.rv.big
 have f1_0b := f1_0.rv.big
 refine Con.mk (n := 26) Tryz.func69 z z z (fun w0 => ?_)
 refine TC.a (TL.j z z (TL.en (TC.seq (TC.a (TL.s z z (TL.w z (lenC z underlying22 z) (TL.s z z (TL.w z (lenC z underlying22 z) (TL.w z (OpVal.neq z z z) (TL.en (TC.cD z hh (fun h101 hh => ?_) (fun h101 hh => ?_))))))))))))
 ·refine TC.a (TL.j z z (TL.en (TC.ret (S.r ?_))))
  obtain rfl := so hh
  exact rq [4] ⟨z, z, z⟩
 ·refine TC.skip (S.n (TC.seq (TC.a (TL.i z z (TL.en (TC.block (TC.loopG (α := (Nat) × (Unit)) (rgs [(4, 2), (11, 15)]) (fun g => [(5, .int .i64 ((g.1 : Nat) : Int))]) (fun g => []) (fun g => σ) (fun g => iter (fun q : Nat => whittleref15_SameTips_b1 x0 x1 q) g.1 = some r) (fun g => rounds (fun q : Nat => whittleref15_SameTips_b1 x0 x1 q) g.1) (0, ()) (Sub.pre 0 z) z (by repeat (first | exact trivial | refine ⟨z, ?_⟩)) hh (fun g1 j1 hg1 => ?_))))))))
  obtain ⟨k104, _⟩ := g1
  have hh := hg1; clear hg1
  try dsimp only
  obtain ⟨z1, hh, hR1⟩ := iter_e hh
  dsimp only [whittleref15_SameTips_b1] at hh
  refine TC.seq (TC.a (TL.i z z (TL.s z z (TL.w z (lenC z underlying22 z) (TL.w z (OpVal.lss z z z) (TL.en (TC.cD z hh (fun h105 hh => ?_) (fun h105 hh => ?_))))))))
  ·refine TC.skip (S.n (TC.seq (TC.block (TC.seq ?_))))
   have u19 := grd_c hh
   replace hh := grd_t hh
   refine TC.draw [] (by kernel_rfl) (TA.a 0 z (moveSl (.inl z) z) z (TA.a 1 z (moveI (.inl z) z) z (TA.b 2 z (indexN z underlying22 sz53 z z f0_0.rv.sl (by omega)) z (TA.b 3 z (loadSA Tip.zero z ag53 sz53 z f0_0 (by omega) (by omega)) z (TA.a 4 z (moveSl (.inl z) z) z (TA.a 5 z (moveI (.inl z) z) z (TA.b 6 z (indexN z underlying22 sz53 z z f1_0.rv.sl (by omega)) z (TA.b 7 z (loadSA Tip.zero z ag53 sz53 z f1_0 (by omega) (by omega)) z (TA.a 8 z (neqSt (p := (nth x0 k104 Tip.zero) = (nth x1 k104 Tip.zero)) z z z eg53 (es53 (nth x0 k104 Tip.zero) (nth x1 k104 Tip.zero)) z) z (TA.dn (S.n (TC.cD z hh (fun h106 hh => ?_) (fun h106 hh => ?_)))))))))))))
   ·refine TC.a (TL.j z z (TL.en (TC.ret (B.r (S.r (S.r ?_))))))
    replace hh := fin_x hR1 hh
    refine B.r (S.r ?_)
    obtain rfl := so hh
    exact rq [4] ⟨z, z, z⟩
   ·refine TC.skip (B.n (S.n (TC.region (TL.i z z (TL.w z (OpVal.succ z z z (by omega)) (TL.i z z (TL.en ?_)))))))
    obtain ⟨hh, hlt107⟩ := nxt_x hR1 hh
    exact lf ((k104 + 1), ()) hlt107 hh (Sub.pre 0 z)
  ·refine TC.exit (S.x (S.x ?_))
   replace hh := fin_x hR1 hh
   refine TC.exitHere (S.n (TC.a (TL.j z z (TL.en (TC.ret ?_)))))
   obtain rfl := so hh
   exact rq [4] ⟨z, z, z⟩

noncomputable def whittleref15_Same_b1 (x0 : Fst) (x1 : Fst) (k111 : Nat) : Option ((Nat) ⊕ (Bool)) :=
 iteO (decide (((k111 : Nat) : Int) < ((x0.arcs.length : Nat) : Int))) (grd (k111 < x1.arcs.length) (iteO (decide (¬ ((nth x0.arcs k111 Arc.zero) = (nth x1.arcs k111 Arc.zero)))) (fin (some false)) (nxt (k111 + 1)))) (fin (some true))
noncomputable def whittleref15_Same (x0 : Fst) (x1 : Fst) : Option (Bool) :=
 iteO (decide (x0.states ≠ x1.states)) (some false) (bnd (whittleref15_SameTips x0.starts x1.starts) (fun v14 => iteO (!v14) (some false) (bnd (whittleref15_SameTips x0.ends x1.ends) (fun v22 => iteO (!v22) (some false) (iteO (decide (((x0.arcs.length : Nat) : Int) ≠ ((x1.arcs.length : Nat) : Int))) (some false) (iter (fun q : Nat => whittleref15_Same_b1 x0 x1 q) 0))))))
theorem whittleref15_Same_con {σ : Store} {x0 : Fst} {a0_0 : Option Addr} {c0_0 : Nat} {a0_1 : Option Addr} {c0_1 : Nat} {a0_2 : Option Addr} {c0_2 : Nat} {x1 : Fst} {a1_0 : Option Addr} {c1_0 : Nat} {a1_1 : Option Addr} {c1_1 : Nat} {a1_2 : Option Addr} {c1_2 : Nat} (f0_0 : RS σ 2 encTip (.slice a0_0 x0.starts.length c0_0) x0.starts) (f0_1 : RS σ 2 encTip (.slice a0_1 x0.ends.length c0_1) x0.ends) (f0_2 : RS σ 8 encArc (.slice a0_2 x0.arcs.length c0_2) x0.arcs) (f1_0 : RS σ 2 encTip (.slice a1_0 x1.starts.length c1_0) x1.starts) (f1_1 : RS σ 2 encTip (.slice a1_1 x1.ends.length c1_1) x1.ends) (f1_2 : RS σ 8 encArc (.slice a1_2 x1.arcs.length c1_2) x1.arcs) {r : Bool} (hh : whittleref15_Same x0 x1 = some r) :
  Con Tryz.prog 32 #[.agg #[.int .i64 x0.states, .slice a0_0 x0.starts.length c0_0, .slice a0_1 x0.ends.length c0_1, .slice a0_2 x0.arcs.length c0_2], .agg #[.int .i64 x1.states, .slice a1_0 x1.starts.length c1_0, .slice a1_1 x1.ends.length c1_1, .slice a1_2 x1.arcs.length c1_2]] σ [] (PureP (.bool r) σ) := by
 dsimp only [whittleref15_Same] at hh
 have f0_0b := f0_0.rv.big
 have f0_1b := f0_1.rv.big
 have f0_2b := f0_2.rv.big
 have f1_0b := f1_0.rv.big
 have f1_1b := f1_1.rv.big
 have f1_2b := f1_2.rv.big
 refine Con.mk (n := 54) Tryz.func32 z z z (fun w0 => ?_)
 refine TC.a (TL.op z (boxA z z z z (fun b101 => ?_)))
 refine TL.op z (boxA z z z z (fun b103 => ?_))
 refine TL.j z z (TL.en (TC.seq (TC.a (TL.w z (fieldLoc z fo25_0 z) (TL.w z (loadLoc z ag3 z (i := 1) z z) (TL.w z (fieldLoc z fo25_0 z) (TL.w z (loadLoc z ag3 z (i := 0) z z) (TL.w z (OpVal.neq z z z) (TL.j z z (TL.split 11 z (fun h105 => ?_) (fun h105 => ?_)))))))))))
 ·replace hh := iteO_t h105 hh
  replace h105 := of_decide_eq_true h105
  refine TL.f z (TL.f z (TL.f z (TL.f z (TL.f z (TL.f z (TL.w z (pickTB z z z) (TL.j z z (TL.f z (TL.f z (TL.f z (TL.f z (TL.f z (TL.f z (TL.w z (pickTB z z z) (TL.j z z ?_)))))))))))))))
  refine TL.f z (TL.f z (TL.f z (TL.f z (TL.f z (TL.f z (TL.f z (TL.w z (pickTB z z z) (TL.en (TC.t z (TC.a (TL.j z z (TL.en (TC.rt 0 (S.r ?_))))))))))))))
  obtain rfl := so hh
  exact rq [4] ⟨z, z, z⟩
 ·replace hh := iteO_f h105 hh
  replace h105 := of_decide_eq_false h105
  refine TL.g z (fieldLoc z fo25_1 z) (TL.g z (loadLoc z ag22 z (i := 1) z z) (TL.g z (fieldLoc z fo25_1 z) (TL.g z (loadLoc z ag22 z (i := 0) z z) ?_)))
  obtain ⟨v14, u14, hh⟩ := bnd_e hh
  refine TL.gon z z z z z (callP (whittleref15_SameTips_con f0_0 f1_0 u14) z z pf69 z z z ?_)
  refine TL.g z (OpVal.not z z) (TL.w z (pickFB z z z) (TL.j z z (TL.split 19 z (fun h106 => ?_) (fun h106 => ?_))))
  ·replace hh := iteO_t h106 hh
   refine TL.f z (TL.f z (TL.f z (TL.f z (TL.f z (TL.f z (TL.w z (pickTB z z z) (TL.j z z (TL.f z (TL.f z (TL.f z (TL.f z (TL.f z (TL.f z (TL.f z (TL.w z (pickTB z z z) ?_)))))))))))))))
   refine TL.en (TC.t z (TC.a (TL.j z z (TL.en (TC.rt 0 (S.r ?_))))))
   obtain rfl := so hh
   exact rq [4] ⟨z, z, z⟩
  ·replace hh := iteO_f h106 hh
   refine TL.g z (fieldLoc z fo25_2 z) (TL.g z (loadLoc z ag22 z (i := 1) z z) (TL.g z (fieldLoc z fo25_2 z) (TL.g z (loadLoc z ag22 z (i := 0) z z) ?_)))
   obtain ⟨v22, u22, hh⟩ := bnd_e hh
   refine TL.gon z z z z z (callP (whittleref15_SameTips_con f0_1 f1_1 u22) z z pf69 z z z ?_)
   refine TL.g z (OpVal.not z z) (TL.w z (pickFB z z z) (TL.j z z (TL.split 27 z (fun h107 => ?_) (fun h107 => ?_))))
   ·replace hh := iteO_t h107 hh
    refine TL.f z (TL.f z (TL.f z (TL.f z (TL.f z (TL.f z (TL.f z (TL.w z (pickTB z z z) (TL.en (TC.t z (TC.a (TL.j z z (TL.en (TC.rt 0 (S.r ?_))))))))))))))
    obtain rfl := so hh
    exact rq [4] ⟨z, z, z⟩
   ·replace hh := iteO_f h107 hh
    refine TL.g z (fieldLoc z fo25_3 z) (TL.g z (loadLoc z ag23 z (i := 1) z z) (TL.g z (lenC z underlying23 z) (TL.g z (fieldLoc z fo25_3 z) (TL.g z (loadLoc z ag23 z (i := 0) z z) (TL.g z (lenC z underlying23 z) (TL.g z (OpVal.neq z z z) (TL.w z (pickFB z z z) (TL.en (TC.cD z hh (fun h108 hh => ?_) (fun h108 hh => ?_))))))))))
    ·refine TC.a (TL.j z z (TL.en (TC.rt 0 (S.r ?_))))
     obtain rfl := so hh
     exact rq [4] ⟨z, z, z⟩
    ·refine TC.skip (S.n (TC.seq (TC.a (TL.i z z (TL.en (TC.block (TC.loopG (α := (Nat) × (Unit)) (rgs [(4, 2), (36, 18)]) (fun g => [(5, .int .i64 ((g.1 : Nat) : Int))]) (fun g => [Res.cells b101 #[.int .i64 x0.states, .slice a0_0 x0.starts.length c0_0, .slice a0_1 x0.ends.length c0_1, .slice a0_2 x0.arcs.length c0_2] 25, Res.cells b103 #[.int .i64 x1.states, .slice a1_0 x1.starts.length c1_0, .slice a1_1 x1.ends.length c1_1, .slice a1_2 x1.arcs.length c1_2] 25]) (fun g => σ) (fun g => iter (fun q : Nat => whittleref15_Same_b1 x0 x1 q) g.1 = some r) (fun g => rounds (fun q : Nat => whittleref15_Same_b1 x0 x1 q) g.1) (0, ()) (Sub.f [1] 2) z (by repeat (first | exact trivial | refine ⟨z, ?_⟩)) hh (fun g1 j1 hg1 => ?_))))))))
     obtain ⟨k111, _⟩ := g1
     have hh := hg1; clear hg1
     try dsimp only
     obtain ⟨z1, hh, hR1⟩ := iter_e hh
     dsimp only [whittleref15_Same_b1] at hh
     refine TC.seq (TC.a (TL.i z z (TL.w z (fieldLoc z fo25_3 z) (TL.w z (loadLoc z ag23 z (i := 0) z z) (TL.w z (lenC z underlying23 z) (TL.w z (OpVal.lss z z z) (TL.en (TC.cD z hh (fun h112 hh => ?_) (fun h112 hh => ?_)))))))))
     ·refine TC.skip (S.n (TC.seq (TC.block (TC.seq ?_))))
      have u49 := grd_c hh
      replace hh := grd_t hh
      refine TC.draw [] (by kernel_rfl) (TA.a 0 z (fieldLoc z fo25_3 z) z (TA.b 1 z (loadLoc z ag23 z (i := 0) z z) z (TA.a 2 z (moveI (.inl z) z) z (TA.b 3 z (indexN z underlying23 sz66 z z f0_2.rv.sl (by omega)) z (TA.b 4 z (loadSA Arc.zero z ag66 sz66 z f0_2 (by omega) (by omega)) z (TA.a 5 z (fieldLoc z fo25_3 z) z (TA.b 6 z (loadLoc z ag23 z (i := 1) z z) z (TA.a 7 z (moveI (.inl z) z) z (TA.b 8 z (indexN z underlying23 sz66 z z f1_2.rv.sl (by omega)) z (TA.b 9 z (loadSA Arc.zero z ag66 sz66 z f1_2 (by omega) (by omega)) z (TA.a 10 z (neqSt (p := (nth x0.arcs k111 Arc.zero) = (nth x1.arcs k111 Arc.zero)) z z z eg66 (es66 (nth x0.arcs k111 Arc.zero) (nth x1.arcs k111 Arc.zero)) z) z (TA.dn (S.n (TC.cD z hh (fun h113 hh => ?_) (fun h113 hh => ?_)))))))))))))))
      ·refine TC.a (TL.j z z (TL.en (TC.rt 0 (B.r (S.r (S.r ?_))))))
       replace hh := fin_x hR1 hh
       refine B.r (S.r ?_)
       obtain rfl := so hh
       exact rq [4] ⟨z, z, z⟩
      ·refine TC.skip (B.n (S.n (TC.region (TL.i z z (TL.w z (OpVal.succ z z z (by omega)) (TL.i z z (TL.en ?_)))))))
       obtain ⟨hh, hlt114⟩ := nxt_x hR1 hh
       exact lf ((k111 + 1), ()) hlt114 hh (Sub.f [1, 1] 2)
     ·refine TC.exit (S.x (S.x ?_))
      replace hh := fin_x hR1 hh
      refine TC.exitHere (S.n (TC.a (TL.j z z (TL.en (TC.rt 0 ?_)))))
      obtain rfl := so hh
      exact rq [4] ⟨z, z, z⟩

noncomputable def whittleref15_Few_j3 (x0 : Fst) (i123 : Int) : Option (Bool) :=
 iteO (decide (i123 ≤ 60)) (iteO (decide (x0.states ≤ 20)) (some true) (some (decide (1024 < x0.states)))) (some false)
noncomputable def whittleref15_Few_b3 (x0 : Fst) (i128 : Int) (k129 : Nat) : Option ((Int × Nat) ⊕ (Bool)) :=
 iteO (decide (((k129 : Nat) : Int) < ((x0.arcs.length : Nat) : Int))) (iteO (decide (i128 ≤ 60)) (nxt ((IntKind.i64.wrap (i128 + (IntKind.i64.wrap (Int.tdiv ((((nth x0.arcs k129 Arc.zero).out).length : Nat) : Int) 40)))), (k129 + 1))) (fin (whittleref15_Few_j3 x0 i128))) (fin (whittleref15_Few_j3 x0 i128))
noncomputable def whittleref15_Few_j2 (x0 : Fst) (i113 : Int) : Option (Bool) :=
 iter (fun q : Int × Nat => whittleref15_Few_b3 x0 q.1 q.2) (i113, 0)
noncomputable def whittleref15_Few_b2 (x0 : Fst) (i118 : Int) (k119 : Nat) : Option ((Int × Nat) ⊕ (Bool)) :=
 iteO (decide (((k119 : Nat) : Int) < ((x0.ends.length : Nat) : Int))) (iteO (decide (i118 ≤ 60)) (nxt ((IntKind.i64.wrap (i118 + (IntKind.i64.wrap (Int.tdiv ((((nth x0.ends k119 Tip.zero).out).length : Nat) : Int) 40)))), (k119 + 1))) (fin (whittleref15_Few_j2 x0 i118))) (fin (whittleref15_Few_j2 x0 i118))
noncomputable def whittleref15_Few_j1 (x0 : Fst) (i103 : Int) : Option (Bool) :=
 iter (fun q : Int × Nat => whittleref15_Few_b2 x0 q.1 q.2) (i103, 0)
noncomputable def whittleref15_Few_b1 (x0 : Fst) (i108 : Int) (k109 : Nat) : Option ((Int × Nat) ⊕ (Bool)) :=
 iteO (decide (((k109 : Nat) : Int) < ((x0.starts.length : Nat) : Int))) (iteO (decide (i108 ≤ 60)) (nxt ((IntKind.i64.wrap (i108 + (IntKind.i64.wrap (Int.tdiv ((((nth x0.starts k109 Tip.zero).out).length : Nat) : Int) 40)))), (k109 + 1))) (fin (whittleref15_Few_j1 x0 i108))) (fin (whittleref15_Few_j1 x0 i108))
noncomputable def whittleref15_Few (x0 : Fst) : Option (Bool) :=
 iter (fun q : Int × Nat => whittleref15_Few_b1 x0 q.1 q.2) ((IntKind.i64.wrap ((IntKind.i64.wrap (((x0.starts.length : Nat) : Int) + ((x0.ends.length : Nat) : Int))) + ((x0.arcs.length : Nat) : Int))), 0)
theorem whittleref15_Few_con {σ : Store} {x0 : Fst} {a0_0 : Option Addr} {c0_0 : Nat} {a0_1 : Option Addr} {c0_1 : Nat} {a0_2 : Option Addr} {c0_2 : Nat} (f0_0 : RS σ 2 encTip (.slice a0_0 x0.starts.length c0_0) x0.starts) (f0_1 : RS σ 2 encTip (.slice a0_1 x0.ends.length c0_1) x0.ends) (f0_2 : RS σ 8 encArc (.slice a0_2 x0.arcs.length c0_2) x0.arcs) {r : Bool} (hh : whittleref15_Few x0 = some r) :
  Con Tryz.prog 17 #[.agg #[.int .i64 x0.states, .slice a0_0 x0.starts.length c0_0, .slice a0_1 x0.ends.length c0_1, .slice a0_2 x0.arcs.length c0_2]] σ [] (PureP (.bool r) σ) := by
 dsimp only [whittleref15_Few] at hh
 have f0_0b := f0_0.rv.big
 have f0_1b := f0_1.rv.big
 have f0_2b := f0_2.rv.big
 refine Con.mk (n := 93) Tryz.func17 z z z (fun w0 => ?_)
 refine TC.a (TL.op z (boxA z z z z (fun b101 => ?_)))
 refine TL.j z z (TL.en (TC.a (TL.w z (fieldLoc z fo25_1 z) (TL.w z (loadLoc z ag22 z (i := 0) z z) (TL.w z (lenC z underlying22 z) (TL.w z (fieldLoc z fo25_2 z) (TL.w z (loadLoc z ag22 z (i := 0) z z) (TL.w z (lenC z underlying22 z) (TL.w z (addW z z z) (TL.w z (fieldLoc z fo25_3 z) (TL.w z (loadLoc z ag23 z (i := 0) z z) (TL.w z (lenC z underlying23 z) (TL.w z (addW z z z) (TL.i z z (TL.en ?_)))))))))))))))
 refine TC.cutG (α := (Int) × (Unit)) (rgs [(3, 2), (18, 21)]) (fun g => [(3, .int .i64 g.1)]) (fun g => [Res.cells b101 #[.int .i64 x0.states, .slice a0_0 x0.starts.length c0_0, .slice a0_1 x0.ends.length c0_1, .slice a0_2 x0.arcs.length c0_2] 25]) (fun g => σ) (fun g => whittleref15_Few_j1 x0 g.1 = some r) ?_ (fun g j hg => ?_)
 ·skip
  refine TC.a (TL.i z z (TL.en (TC.block (TC.loopG (α := (Int × Nat) × (Unit)) (rgs [(3, 2), (18, 21)]) (fun g => [(3, .int .i64 g.1.1), (4, .int .i64 ((g.1.2 : Nat) : Int))]) (fun g => [Res.cells b101 #[.int .i64 x0.states, .slice a0_0 x0.starts.length c0_0, .slice a0_1 x0.ends.length c0_1, .slice a0_2 x0.arcs.length c0_2] 25]) (fun g => σ) (fun g => iter (fun q : Int × Nat => whittleref15_Few_b1 x0 q.1 q.2) g.1 = some r) (fun g => rounds (fun q : Int × Nat => whittleref15_Few_b1 x0 q.1 q.2) g.1) (((IntKind.i64.wrap ((IntKind.i64.wrap (((x0.starts.length : Nat) : Int) + ((x0.ends.length : Nat) : Int))) + ((x0.arcs.length : Nat) : Int))), 0), ()) (Sub.pre 1 z) z (by repeat (first | exact trivial | refine ⟨z, ?_⟩)) hh (fun g1 j1 hg1 => ?_)))))
  obtain ⟨⟨i108, k109⟩, _⟩ := g1
  have hh := hg1; clear hg1
  try dsimp only
  obtain ⟨z1, hh, hR1⟩ := iter_e hh
  dsimp only [whittleref15_Few_b1] at hh
  refine TC.seq (TC.a (TL.i z z (TL.w z (fieldLoc z fo25_1 z) (TL.w z (loadLoc z ag22 z (i := 0) z z) (TL.w z (lenC z underlying22 z) (TL.w z (OpVal.lss z z z) (TL.j z z (TL.split 23 z (fun h110 => ?_) (fun h110 => ?_)))))))))
  ·replace hh := iteO_t h110 hh
   replace h110 := of_decide_eq_true h110
   refine TL.g z (moveI (.inl z) z) (TL.g z (OpVal.leq z z z) (TL.w z (pickTB z z z) (TL.en (TC.cD z hh (fun h111 hh => ?_) (fun h111 hh => ?_)))))
   ·refine TC.skip (S.n (TC.seq (TC.block (TC.region (TL.i z z (TL.w z (fieldLoc z fo25_1 z) (TL.w z (loadLoc z ag22 z (i := 0) z z) (TL.i z z (TL.w z (indexN z underlying22 sz53 z z f0_0.rv.sl (by omega)) (TL.w z (fieldElem z fo53_1 z f0_0.rv.sl (by omega)) (TL.w z (loadS Tip.zero z ag9 z f0_0 (by omega) (by omega) z) (TL.w z (lenBs z underlying9 z) (TL.w z (quoW z z z (by decide)) (TL.w z (addW z z z) (TL.i z z ?_)))))))))))))))
    refine TL.nil (B.n (S.n (TC.region (TL.i z z (TL.w z (OpVal.succ z z z (by omega)) (TL.i z z (TL.en ?_)))))))
    obtain ⟨hh, hlt112⟩ := nxt_x hR1 hh
    exact lf (((IntKind.i64.wrap (i108 + (IntKind.i64.wrap (Int.tdiv ((((nth x0.starts k109 Tip.zero).out).length : Nat) : Int) 40)))), (k109 + 1)), ()) hlt112 hh (Sub.pre 1 z)
   ·refine TC.exit (S.x (S.x ?_))
    replace hh := fin_x hR1 hh
    exact TC.exitHere (S.n (cf (i108, ()) hh (Sub.pre 1 z)))
  ·replace hh := iteO_f h110 hh
   replace h110 := of_decide_eq_false h110
   refine TL.f z (TL.f z (TL.w z (pickFB z z z) (TL.en (TC.f z (TC.exit (S.x (S.x ?_)))))))
   replace hh := fin_x hR1 hh
   exact TC.exitHere (S.n (cf (i108, ()) hh (Sub.pre 1 z)))
 ·skip
  obtain ⟨i103, _⟩ := g
  have hh := hg; clear hg
  try dsimp only
  dsimp only [whittleref15_Few_j1] at hh
  refine TC.cutG (α := (Int) × (Unit)) (rgs [(3, 1), (5, 1), (39, 21)]) (fun g => [(3, .int .i64 g.1)]) (fun g => [Res.cells b101 #[.int .i64 x0.states, .slice a0_0 x0.starts.length c0_0, .slice a0_1 x0.ends.length c0_1, .slice a0_2 x0.arcs.length c0_2] 25]) (fun g => σ) (fun g => whittleref15_Few_j2 x0 g.1 = some r) ?_ (fun g j hg => ?_)
  ·skip
   refine TC.a (TL.i z z (TL.en (TC.block (TC.loopG (α := (Int × Nat) × (Unit)) (rgs [(3, 1), (5, 1), (39, 21)]) (fun g => [(3, .int .i64 g.1.1), (5, .int .i64 ((g.1.2 : Nat) : Int))]) (fun g => [Res.cells b101 #[.int .i64 x0.states, .slice a0_0 x0.starts.length c0_0, .slice a0_1 x0.ends.length c0_1, .slice a0_2 x0.arcs.length c0_2] 25]) (fun g => σ) (fun g => iter (fun q : Int × Nat => whittleref15_Few_b2 x0 q.1 q.2) g.1 = some r) (fun g => rounds (fun q : Int × Nat => whittleref15_Few_b2 x0 q.1 q.2) g.1) ((i103, 0), ()) (Sub.pre 1 z) z (by repeat (first | exact trivial | refine ⟨z, ?_⟩)) hh (fun g2 j2 hg2 => ?_)))))
   obtain ⟨⟨i118, k119⟩, _⟩ := g2
   have hh := hg2; clear hg2
   try dsimp only
   obtain ⟨z1, hh, hR1⟩ := iter_e hh
   dsimp only [whittleref15_Few_b2] at hh
   refine TC.seq (TC.a (TL.i z z (TL.w z (fieldLoc z fo25_2 z) (TL.w z (loadLoc z ag22 z (i := 0) z z) (TL.w z (lenC z underlying22 z) (TL.w z (OpVal.lss z z z) (TL.j z z (TL.split 44 z (fun h120 => ?_) (fun h120 => ?_)))))))))
   ·replace hh := iteO_t h120 hh
    replace h120 := of_decide_eq_true h120
    refine TL.g z (moveI (.inl z) z) (TL.g z (OpVal.leq z z z) (TL.w z (pickTB z z z) (TL.en (TC.cD z hh (fun h121 hh => ?_) (fun h121 hh => ?_)))))
    ·refine TC.skip (S.n (TC.seq (TC.block (TC.region (TL.i z z (TL.w z (fieldLoc z fo25_2 z) (TL.w z (loadLoc z ag22 z (i := 0) z z) (TL.i z z (TL.w z (indexN z underlying22 sz53 z z f0_1.rv.sl (by omega)) (TL.w z (fieldElem z fo53_1 z f0_1.rv.sl (by omega)) (TL.w z (loadS Tip.zero z ag9 z f0_1 (by omega) (by omega) z) (TL.w z (lenBs z underlying9 z) (TL.w z (quoW z z z (by decide)) (TL.w z (addW z z z) (TL.i z z ?_)))))))))))))))
     refine TL.nil (B.n (S.n (TC.region (TL.i z z (TL.w z (OpVal.succ z z z (by omega)) (TL.i z z (TL.en ?_)))))))
     obtain ⟨hh, hlt122⟩ := nxt_x hR1 hh
     exact lf (((IntKind.i64.wrap (i118 + (IntKind.i64.wrap (Int.tdiv ((((nth x0.ends k119 Tip.zero).out).length : Nat) : Int) 40)))), (k119 + 1)), ()) hlt122 hh (Sub.pre 1 z)
    ·refine TC.exit (S.x (S.x ?_))
     replace hh := fin_x hR1 hh
     exact TC.exitHere (S.n (cf (i118, ()) hh (Sub.pre 1 z)))
   ·replace hh := iteO_f h120 hh
    replace h120 := of_decide_eq_false h120
    refine TL.f z (TL.f z (TL.w z (pickFB z z z) (TL.en (TC.f z (TC.exit (S.x (S.x ?_)))))))
    replace hh := fin_x hR1 hh
    exact TC.exitHere (S.n (cf (i118, ()) hh (Sub.pre 1 z)))
  ·skip
   obtain ⟨i113, _⟩ := g
   have hh := hg; clear hg
   try dsimp only
   dsimp only [whittleref15_Few_j2] at hh
   refine TC.cutG (α := (Int) × (Unit)) (rgs [(3, 1), (6, 1), (60, 21)]) (fun g => [(3, .int .i64 g.1)]) (fun g => [Res.cells b101 #[.int .i64 x0.states, .slice a0_0 x0.starts.length c0_0, .slice a0_1 x0.ends.length c0_1, .slice a0_2 x0.arcs.length c0_2] 25]) (fun g => σ) (fun g => whittleref15_Few_j3 x0 g.1 = some r) ?_ (fun g j hg => ?_)
   ·skip
    refine TC.a (TL.i z z (TL.en (TC.block (TC.loopG (α := (Int × Nat) × (Unit)) (rgs [(3, 1), (6, 1), (60, 21)]) (fun g => [(3, .int .i64 g.1.1), (6, .int .i64 ((g.1.2 : Nat) : Int))]) (fun g => [Res.cells b101 #[.int .i64 x0.states, .slice a0_0 x0.starts.length c0_0, .slice a0_1 x0.ends.length c0_1, .slice a0_2 x0.arcs.length c0_2] 25]) (fun g => σ) (fun g => iter (fun q : Int × Nat => whittleref15_Few_b3 x0 q.1 q.2) g.1 = some r) (fun g => rounds (fun q : Int × Nat => whittleref15_Few_b3 x0 q.1 q.2) g.1) ((i113, 0), ()) (Sub.pre 1 z) z (by repeat (first | exact trivial | refine ⟨z, ?_⟩)) hh (fun g3 j3 hg3 => ?_)))))
    obtain ⟨⟨i128, k129⟩, _⟩ := g3
    have hh := hg3; clear hg3
    try dsimp only
    obtain ⟨z1, hh, hR1⟩ := iter_e hh
    dsimp only [whittleref15_Few_b3] at hh
    refine TC.seq (TC.a (TL.i z z (TL.w z (fieldLoc z fo25_3 z) (TL.w z (loadLoc z ag23 z (i := 0) z z) (TL.w z (lenC z underlying23 z) (TL.w z (OpVal.lss z z z) (TL.j z z (TL.split 65 z (fun h130 => ?_) (fun h130 => ?_)))))))))
    ·replace hh := iteO_t h130 hh
     replace h130 := of_decide_eq_true h130
     refine TL.g z (moveI (.inl z) z) (TL.g z (OpVal.leq z z z) (TL.w z (pickTB z z z) (TL.en (TC.cD z hh (fun h131 hh => ?_) (fun h131 hh => ?_)))))
     ·refine TC.skip (S.n (TC.seq (TC.block (TC.region (TL.i z z (TL.w z (fieldLoc z fo25_3 z) (TL.w z (loadLoc z ag23 z (i := 0) z z) (TL.i z z (TL.w z (indexN z underlying23 sz66 z z f0_2.rv.sl (by omega)) (TL.w z (fieldElem z fo66_3 z f0_2.rv.sl (by omega)) (TL.w z (loadS Arc.zero z ag9 z f0_2 (by omega) (by omega) z) (TL.w z (lenBs z underlying9 z) (TL.w z (quoW z z z (by decide)) (TL.w z (addW z z z) (TL.i z z ?_)))))))))))))))
      refine TL.nil (B.n (S.n (TC.region (TL.i z z (TL.w z (OpVal.succ z z z (by omega)) (TL.i z z (TL.en ?_)))))))
      obtain ⟨hh, hlt132⟩ := nxt_x hR1 hh
      exact lf (((IntKind.i64.wrap (i128 + (IntKind.i64.wrap (Int.tdiv ((((nth x0.arcs k129 Arc.zero).out).length : Nat) : Int) 40)))), (k129 + 1)), ()) hlt132 hh (Sub.pre 1 z)
     ·refine TC.exit (S.x (S.x ?_))
      replace hh := fin_x hR1 hh
      exact TC.exitHere (S.n (cf (i128, ()) hh (Sub.pre 1 z)))
    ·replace hh := iteO_f h130 hh
     replace h130 := of_decide_eq_false h130
     refine TL.f z (TL.f z (TL.w z (pickFB z z z) (TL.en (TC.f z (TC.exit (S.x (S.x ?_)))))))
     replace hh := fin_x hR1 hh
     exact TC.exitHere (S.n (cf (i128, ()) hh (Sub.pre 1 z)))
   ·skip
    obtain ⟨i123, _⟩ := g
    have hh := hg; clear hg
    try dsimp only
    dsimp only [whittleref15_Few_j3] at hh
    refine TC.a (TL.i z z (TL.w z (OpVal.leq z z z) (TL.j z z (TL.split 83 z (fun h133 => ?_) (fun h133 => ?_)))))
    ·replace hh := iteO_t h133 hh
     replace h133 := of_decide_eq_true h133
     refine TL.g z (fieldLoc z fo25_0 z) (TL.g z (loadLoc z ag3 z (i := 0) z z) (TL.g z (OpVal.leq z z z) (TL.g z (moveB (.inl z) z) (TL.split 87 z (fun h134 => ?_) (fun h134 => ?_)))))
     ·replace hh := iteO_t h134 hh
      replace h134 := of_decide_eq_true h134
      refine TL.f z (TL.f z (TL.f z (TL.g z (pickTB z z z) (TL.w z (pickTB z z z) (TL.j z z (TL.en (TC.rt 0 ?_)))))))
      obtain rfl := so hh
      exact rq [2] ⟨z, z, z⟩
     ·replace hh := iteO_f h134 hh
      replace h134 := of_decide_eq_false h134
      refine TL.g z (fieldLoc z fo25_0 z) (TL.g z (loadLoc z ag3 z (i := 0) z z) (TL.g z (OpVal.gtr z z z) (TL.g z (pickFB z z z) (TL.w z (pickTB z z z) (TL.j z z (TL.en (TC.rt 0 ?_)))))))
      obtain rfl := so hh
      exact rq [2] ⟨z, z, z⟩
    ·replace hh := iteO_f h133 hh
     replace h133 := of_decide_eq_false h133
     refine TL.f z (TL.f z (TL.f z (TL.f z (TL.f z (TL.f z (TL.f z (TL.f z (TL.w z (pickFB z z z) (TL.j z z (TL.en (TC.rt 0 ?_)))))))))))
     obtain rfl := so hh
     exact rq [2] ⟨z, z, z⟩

end Go.Proofs.YtjhbngjhdmapmaaGreatDoor
end

/- OnceG -/
section
/- Things in order, each once: plain lemmas, no condition. -/
set_option linter.unusedVariables false
set_option linter.unusedSimpArgs false
namespace Go.Proofs.YtjhbngjhdmapmaaGreatDoor
open Go Go.E
set_option maxRecDepth 100000
set_option linter.unusedSectionVars false

section
variable {α : Type} [DecidableEq α] (d : α)
/-- Without what stands twice in a row: among the first n. -/
def ddN (l : List α) : Nat → List α
  | 0 => []
  | n + 1 => ddN l n ++ (if n = 0 ∨ nth l n d ≠ nth l (n - 1) d then [nth l n d] else [])
theorem mem_ddN (l : List α) : ∀ n, n ≤ l.length → ∀ x, x ∈ ddN d l n ↔ x ∈ l.take n
  | 0, _, x => by simp [ddN]
  | n + 1, h, x => by
    rw [ddN, take_snoc l (by omega) d, List.mem_append, List.mem_append, mem_ddN l n (by omega)]
    by_cases hc : n = 0 ∨ nth l n d ≠ nth l (n - 1) d
    · rw [if_pos hc]
    · rw [if_neg hc]
      simp only [not_or, ne_eq, Decidable.not_not] at hc
      have : nth l n d ∈ l.take n := by
        rw [hc.2]
        have h1 : (l.take n)[n - 1]? = some (nth l (n - 1) d) := by rw [List.getElem?_take, if_pos (by omega)]; exact getD_some l (by omega) d
        exact List.mem_of_getElem? h1
      constructor
      · rintro (h | h)
        · exact .inl h
        · cases h
      · rintro (h | h)
        · exact .inl h
        · rw [List.mem_singleton.1 h]; exact .inl this
theorem nth_set_ne {l : List α} {k i : Nat} {v : α} (h : i ≠ k) : nth (l.set k v) i d = nth l i d := by
  simp [nth, List.getD, List.getElem?_set, Ne.symm h]
include d in
theorem take_set_succ {l : List α} {k : Nat} {v : α} (h : k < l.length) : (l.set k v).take (k + 1) = l.take k ++ [v] := by
  rw [take_snoc (l.set k v) (by simpa using h) d]
  congr 1
  · rw [List.take_set_of_le (Nat.le_refl _)]
  · simp [nth, List.getD, h]

noncomputable def gC_j (k125 : Nat) (l128 : List α) (k130 : Nat) : Option ((List α × Nat × Nat) ⊕ (Nat ⊕ List α)) :=
  nxt (l128, k130, (k125 + 1))
noncomputable def gC_b2 (x0 : List α) (k105 : Nat) (l122 : List α) (k124 : Nat) (k125 : Nat) : Option ((List α × Nat × Nat) ⊕ (Nat ⊕ List α)) :=
  iteO (decide (((k125 : Nat) : Int) < (((x0.length - k105) : Nat) : Int))) (grd (k125 < (x0.length - k105)) (grd (0 ≤ (IntKind.i64.wrap (((k125 : Nat) : Int) - 1)) ∧ (IntKind.i64.wrap (((k125 : Nat) : Int) - 1)) < ((x0.length - k105) : Nat)) (iteO (decide (¬ ((nth l122 (k105 + k125) d) = (nth l122 (k105 + (IntKind.i64.wrap (((k125 : Nat) : Int) - 1)).toNat) d)))) (grd (k125 < (x0.length - k105)) (grd (k124 < l122.length) (gC_j k125 (l122.set k124 (nth l122 (k105 + k125) d)) (k124 + 1)))) (gC_j k125 l122 k124)))) (fin (grd (k124 ≤ x0.length) (grd (k124 ≤ (l122.take k124 ++ List.replicate (l122.length - k124) d).length) (fin (some ((l122.take k124 ++ List.replicate (l122.length - k124) d).take k124))))))
noncomputable def gC_b1 (x0 : List α) (k105 : Nat) : Option ((Nat) ⊕ (List α)) :=
  iteO (decide (((k105 : Nat) : Int) < ((x0.length : Nat) : Int))) (grd (0 ≤ (IntKind.i64.wrap (((k105 : Nat) : Int) - 1)) ∧ (IntKind.i64.wrap (((k105 : Nat) : Int) - 1)) < (x0.length : Int)) (iteO (decide ((nth x0 k105 d) = (nth x0 ((IntKind.i64.wrap (((k105 : Nat) : Int) - 1)).toNat) d))) (grd (k105 ≤ x0.length) (iter (fun q : (List α) × Nat × Nat => gC_b2 d x0 k105 q.1 q.2.1 q.2.2) (x0, k105, 1))) (nxt (k105 + 1)))) (fin (some x0))
noncomputable def gC (x0 : List α) : Option (List α) :=
  iteO (decide (((x0.length : Nat) : Int) < 2)) (some x0) (iter (fun q : Nat => gC_b1 d x0 q) 1)

theorem wrap_pred {k : Nat} (h1 : 1 ≤ k) (h2 : k ≤ 281474976710656) : IntKind.i64.wrap ((k : Int) - 1) = ((k - 1 : Nat) : Int) := by
  rw [wrap64_of (by omega) (by omega)]; omega
theorem gC_in {l : List α} (hl : l.length ≤ 281474976710656) {k0 : Nat} (h0 : 1 ≤ k0) (hk : k0 < l.length) (he : nth l k0 d = nth l (k0 - 1) d) (hd : ddN d l k0 = l.take k0) :
    iter (fun q : (List α) × Nat × Nat => gC_b2 d l k0 q.1 q.2.1 q.2.2) (l, k0, 1) = some (.inr (ddN d l l.length)) := by
  refine Exists.elim (iter_run (step := fun q : (List α) × Nat × Nat => gC_b2 d l k0 q.1 q.2.1 q.2.2)
    (fun q => 1 ≤ q.2.2 ∧ k0 + q.2.2 ≤ l.length ∧ q.1.length = l.length ∧ q.2.1 ≤ k0 + q.2.2 - 1 ∧ (∀ i, k0 + q.2.2 - 1 ≤ i → nth q.1 i d = nth l i d) ∧ q.1.take q.2.1 = ddN d l (k0 + q.2.2))
    (fun r => r = .inr (ddN d l l.length)) (fun q => l.length - q.2.2) ?_ (l, k0, 1) ⟨Nat.le_refl _, hk, rfl, by simp only; omega, fun _ _ => rfl, ?_⟩) (fun r hr => by rw [hr.1, hr.2])
  · rintro ⟨l2, k, j⟩ ⟨hj, hjl, hlen, hkj, hI, ht⟩
    simp only at hj hjl hlen hkj hI ht
    have hw : IntKind.i64.wrap ((j : Int) - 1) = ((j - 1 : Nat) : Int) := wrap_pred hj (by omega)
    by_cases hlt : k0 + j < l.length
    · left
      have e1 := hI (k0 + j) (by omega)
      have e2 := hI (k0 + (j - 1)) (by omega)
      simp only [gC_b2, hw, Int.toNat_natCast, decide_eq_true (show ((j : Nat) : Int) < ((l.length - k0 : Nat) : Int) by omega), iteO_true,
        grd_mk (show j < l.length - k0 by omega), grd_mk (show (0 : Int) ≤ ((j - 1 : Nat) : Int) ∧ ((j - 1 : Nat) : Int) < ((l.length - k0 : Nat) : Int) by omega), e1, e2]
      have e3 : k0 + (j - 1) = k0 + j - 1 := by omega
      by_cases hc : nth l (k0 + j) d = nth l (k0 + (j - 1)) d
      · simp only [hc, not_true_eq_false, decide_false, iteO_false, gC_j]
        refine ⟨_, rfl, ⟨by simp only; omega, by simp only; omega, hlen, by simp only; omega, fun i hi => hI i (by simp only at hi; omega), ?_⟩, by simp only; omega⟩
        simp only
        rw [ht, ← Nat.add_assoc, ddN, if_neg, List.append_nil]
        rw [hc, e3]; simp; omega
      · simp only [hc, not_false_eq_true, decide_true, iteO_true, grd_mk (show k < l2.length by omega), gC_j]
        refine ⟨_, rfl, ⟨by simp only; omega, by simp only; omega, by simp only [List.length_set]; exact hlen, by simp only; omega, fun i hi => ?_, ?_⟩, by simp only; omega⟩
        · simp only at hi ⊢
          rw [nth_set_ne d (by omega)]; exact hI i (by omega)
        · simp only
          rw [take_set_succ d (by omega), ht, ← Nat.add_assoc, ddN, if_pos]
          rw [e3] at hc; exact .inr hc
    · right
      have hjl' : k0 + j = l.length := by omega
      have hkl : (l2.take k).length = k := by rw [List.length_take]; omega
      refine ⟨.inr (ddN d l l.length), ?_, rfl⟩
      simp only [gC_b2, decide_eq_false (show ¬ ((j : Nat) : Int) < ((l.length - k0 : Nat) : Int) by omega), iteO_false, grd_mk (show k ≤ l.length by omega)]
      rw [grd_mk (by rw [List.length_append, hkl]; omega), List.take_append_of_le_length (by omega), List.take_of_length_le (by omega), ht, hjl']
      rfl
  · simp only
    rw [ddN, if_neg (by rw [he]; simp; omega), List.append_nil, hd]
theorem gC_eq {l : List α} (hl : l.length ≤ 281474976710656) : gC d l = some (ddN d l l.length) := by
  unfold gC
  by_cases h2 : l.length < 2
  · rw [decide_eq_true (by omega), iteO_true]
    match l, h2 with
    | [], _ => rfl
    | [x], _ => rfl
  · rw [decide_eq_false (by omega), iteO_false]
    refine Exists.elim (iter_run (step := fun q : Nat => gC_b1 d l q) (fun k => 1 ≤ k ∧ k ≤ l.length ∧ ddN d l k = l.take k) (fun r => r = ddN d l l.length) (fun k => l.length - k) ?_ 1 ⟨Nat.le_refl _, by omega, ?_⟩) (fun r hr => by rw [hr.1, hr.2])
    · rintro k ⟨h1, hk, hd⟩
      by_cases hlt : k < l.length
      · simp only [gC_b1, wrap_pred h1 (show k ≤ 281474976710656 by omega), Int.toNat_natCast, decide_eq_true (show ((k : Nat) : Int) < ((l.length : Nat) : Int) by omega), iteO_true,
          grd_mk (show (0 : Int) ≤ ((k - 1 : Nat) : Int) ∧ ((k - 1 : Nat) : Int) < (l.length : Int) by omega)]
        by_cases hc : nth l k d = nth l (k - 1) d
        · right
          simp only [hc, decide_true, iteO_true, grd_mk hk]
          exact ⟨_, gC_in d hl h1 hlt hc hd, rfl⟩
        · left
          simp only [hc, decide_false, iteO_false]
          refine ⟨k + 1, rfl, ⟨by omega, by omega, ?_⟩, by omega⟩
          rw [ddN, if_pos (.inr hc), hd, take_snoc l hlt d]
      · right
        have : k = l.length := by omega
        refine ⟨l, ?_, ?_⟩
        · simp only [gC_b1, decide_eq_false (show ¬ ((k : Nat) : Int) < ((l.length : Nat) : Int) by omega), iteO_false]; rfl
        · rw [← this, hd, List.take_of_length_le (by omega)]
    · rw [ddN, if_pos (.inl rfl), take_snoc l (by omega) d]; simp [ddN]
end

/-- In order, each once. -/
def onceL {α : Type} [DecidableEq α] (d : α) (cf : α → α → Int) (l : List α) : List α := ddN d (sortL cf l) l.length
section
variable {α : Type} [DecidableEq α] {d : α} {cf : α → α → Int}
theorem sortL_len (l : List α) : (sortL cf l).length = l.length := List.length_mergeSort _
theorem mem_onceL {l : List α} {x : α} : x ∈ onceL d cf l ↔ x ∈ l := by
  have h := sortL_len (cf := cf) l
  rw [onceL, mem_ddN d _ _ (by omega), List.take_of_length_le (by omega), sortL, List.mem_mergeSort]
theorem GoodCmp.le_trans (hc : GoodCmp cf) {x y z : α} (h1 : ¬ cf y x < 0) (h2 : ¬ cf z y < 0) : ¬ cf z x < 0 := fun h3 => by
  by_cases e : x = y
  · subst e; exact h2 h3
  · by_cases e' : y = z
    · subst e'; exact h1 h3
    · have a := hc.anti y x; have b := hc.anti z y; have a' := hc.eq y x; have b' := hc.eq z y
      have h4 : cf y z < 0 := by
        rw [hc.anti]
        have : cf z y ≠ 0 := fun h => e' ((b'.1 h).symm)
        omega
      exact h1 (hc.trans _ _ _ h4 h3)
theorem sortL_sorted (hc : GoodCmp cf) (l : List α) : (sortL cf l).Pairwise fun x y => ¬ cf y x < 0 := by
  have := List.pairwise_mergeSort (le := fun x y => !decide (cf y x < 0)) (fun a b c h1 h2 => by
    simp only [Bool.not_eq_true', decide_eq_false_iff_not] at *
    exact hc.le_trans h1 h2) (fun a b => by
    have := hc.anti a b
    simp only [Bool.or_eq_true, Bool.not_eq_true', decide_eq_false_iff_not]; omega) l
  exact this.imp fun h => by simpa using h
theorem sorted_onceL (hc : GoodCmp cf) (l : List α) : (onceL d cf l).Pairwise fun x y => cf x y < 0 := by
  have hs := sortL_sorted hc l
  have hlen := sortL_len (cf := cf) l
  unfold onceL
  generalize sortL cf l = s at hs hlen
  have key : ∀ n, n ≤ s.length → (ddN d s n).Pairwise fun x y => cf x y < 0 := by
    intro n
    induction n with
    | zero => intro _; exact List.Pairwise.nil
    | succ n ih =>
      intro h
      rw [ddN]
      split
      · rename_i hn
        rw [List.pairwise_append]
        refine ⟨ih (by omega), List.pairwise_singleton .., fun x hx y hy => ?_⟩
        rw [List.mem_singleton.1 hy]
        rw [mem_ddN d s n (by omega)] at hx
        have hn0 : n ≠ 0 := fun e => by subst e; simp at hx
        have hne : nth s n d ≠ nth s (n - 1) d := by rcases hn with h | h; exact absurd h hn0; exact h
        obtain ⟨i, hi, hxi⟩ := List.mem_iff_getElem.1 hx
        have hi' : i < n := by simp at hi; omega
        have hxi : s[i]'(by omega) = x := by rw [← hxi, List.getElem_take]
        have hp := List.pairwise_iff_getElem.1 hs
        have eN : ∀ {k : Nat} (hk : k < s.length), nth s k d = s[k] := fun hk => by simp [nth, List.getD, hk]
        rw [eN (by omega), eN (by omega)] at hne
        rw [eN (by omega)]
        have h1 : cf (s[n - 1]'(by omega)) (s[n]'(by omega)) < 0 := by
          have := hp (n - 1) n (by omega) (by omega) (by omega)
          have a := hc.anti (s[n - 1]'(by omega)) (s[n]'(by omega))
          have b := hc.eq (s[n]'(by omega)) (s[n - 1]'(by omega))
          have : cf (s[n]'(by omega)) (s[n - 1]'(by omega)) ≠ 0 := fun h => hne (b.1 h)
          omega
        by_cases hin : i = n - 1
        · subst hin; rw [← hxi]; exact h1
        · have h2 := hp i (n - 1) (by omega) (by omega) (by omega)
          rw [hxi] at h2
          by_cases e : x = s[n - 1]'(by omega)
          · rw [e]; exact h1
          · refine hc.trans _ _ _ ?_ h1
            have a := hc.anti x (s[n - 1]'(by omega))
            have b := hc.eq (s[n - 1]'(by omega)) x
            have : cf (s[n - 1]'(by omega)) x ≠ 0 := fun h => e (b.1 h).symm
            omega
      · rw [List.append_nil]; exact ih (by omega)
  exact key _ (by omega)
/-- Rows that rise, of the same things, are the same. -/
theorem rising_ext {R : α → α → Prop} (hi : ∀ x, ¬ R x x) (ht : ∀ x y z, R x y → R y z → R x z) : ∀ {l m : List α}, l.Pairwise R → m.Pairwise R → (∀ x, x ∈ l ↔ x ∈ m) → l = m
  | [], [], _, _, _ => rfl
  | [], y :: m, _, _, h => by have := (h y).2 (List.mem_cons_self ..); cases this
  | x :: l, [], _, _, h => by have := (h x).1 (List.mem_cons_self ..); cases this
  | x :: l, y :: m, hl, hm, h => by
    rw [List.pairwise_cons] at hl hm
    have e : x = y := by
      have h1 := (h x).1 (List.mem_cons_self ..)
      have h2 := (h y).2 (List.mem_cons_self ..)
      rw [List.mem_cons] at h1 h2
      rcases h1 with h1 | h1
      · exact h1
      · rcases h2 with h2 | h2
        · exact h2.symm
        · exact absurd (ht _ _ _ (hm.1 x h1) (hl.1 y h2)) (hi y)
    subst e
    rw [rising_ext hi ht hl.2 hm.2 fun z => ?_]
    have := h z
    simp only [List.mem_cons] at this
    constructor
    · intro hz
      rcases this.1 (.inr hz) with e | h'
      · subst e; exact absurd (hl.1 z hz) (hi z)
      · exact h'
    · intro hz
      rcases this.2 (.inr hz) with e | h'
      · subst e; exact absurd (hm.1 z hz) (hi z)
      · exact h'
theorem GoodCmp.irr (hc : GoodCmp cf) (x : α) : ¬ cf x x < 0 := by have := (hc.eq x x).2 rfl; omega
theorem rising_eq (hc : GoodCmp cf) {l m : List α} (hl : l.Pairwise fun x y => cf x y < 0) (hm : m.Pairwise fun x y => cf x y < 0) (h : ∀ x, x ∈ l ↔ x ∈ m) : l = m :=
  rising_ext (R := fun x y => cf x y < 0) hc.irr hc.trans hl hm h
theorem onceL_congr (hc : GoodCmp cf) {l m : List α} (h : ∀ x, x ∈ l ↔ x ∈ m) : onceL d cf l = onceL d cf m :=
  rising_eq hc (sorted_onceL hc l) (sorted_onceL hc m) fun x => by rw [mem_onceL, mem_onceL, h]
theorem onceL_of (hc : GoodCmp cf) {l : List α} (h : l.Pairwise fun x y => cf x y < 0) : onceL d cf l = l := rising_eq hc (sorted_onceL hc l) h fun x => mem_onceL
theorem onceL_len (l : List α) : (onceL d cf l).length ≤ l.length := by
  have h : ∀ (s : List α) n, (ddN d s n).length ≤ n := fun s n => by
    induction n with
    | zero => exact Nat.le_refl _
    | succ n ih => rw [ddN, List.length_append]; split <;> simp <;> omega
  exact h _ _
end

end Go.Proofs.YtjhbngjhdmapmaaGreatDoor
end

/- Once -/
section
/- Things in order, each once: what the program's once computes. Plain lemmas, no condition. -/
set_option linter.unusedVariables false
set_option linter.unusedSimpArgs false
namespace Go.Proofs.YtjhbngjhdmapmaaGreatDoor
open Go Go.E
set_option maxRecDepth 100000

theorem compactS_g : compactS = gC ([] : List UInt8) := rfl
theorem compactI_g : compactI = gC (0 : Int) := rfl
theorem compactT_g : compactT = gC Tip.zero := rfl
theorem compactA_g : compactA = gC Arc.zero := rfl
theorem onceS_eq {l : List (List UInt8)} (h : l.length * 16 ≤ 140737488355328) : onceS l = some (onceL [] Lib.compareBytes l) := by
  rw [onceS, grd_mk h, compactS_g, gC_eq [] (by rw [sortL_len]; omega), sortL_len]; rfl
theorem onceI_eq {l : List Int} (h : l.length * 8 ≤ 140737488355328) : onceI l = some (onceL 0 cmpI l) := by
  rw [onceI, grd_mk h, compactI_g, gC_eq 0 (by rw [sortL_len]; omega), sortL_len]; rfl
theorem onceT_eq {l : List Tip} (h : l.length * 24 ≤ 140737488355328) : onceT l = some (onceL Tip.zero cmpTip l) := by
  rw [onceT, grd_mk h, compactT_g, gC_eq Tip.zero (by rw [sortL_len]; omega), sortL_len]; rfl
theorem onceA_eq {l : List Arc} (h : l.length * 72 ≤ 140737488355328) : onceA l = some (onceL Arc.zero cmpArc l) := by
  rw [onceA, grd_mk h, compactA_g, gC_eq Arc.zero (by rw [sortL_len]; omega), sortL_len]; rfl
end Go.Proofs.YtjhbngjhdmapmaaGreatDoor
end

/- FstP -/
section
/- What the program says of a transducer. Plain lemmas, no condition. -/
set_option linter.unusedVariables false
set_option linter.unusedSimpArgs false
namespace Go.Proofs.YtjhbngjhdmapmaaGreatDoor
open Go Go.E
set_option maxRecDepth 100000

/-! ### Right, or not -/
def tipB (n : Int) (p : Tip) : Bool := decide (0 ≤ p.state) && decide (p.state < n) && decide ((p.out.length : Int) ≤ 1024)
def tipsB (l : List Tip) (n : Int) : Bool := decide ((l.length : Int) ≤ 1024) && l.all (tipB n)
def arcB (n : Int) (a : Arc) : Bool := decide (0 ≤ a.frm) && decide (a.frm < n) && decide (0 ≤ a.to) && decide (a.to < n) && decide (a.set ≠ BSet.zero) && decide ((a.out.length : Int) ≤ 1024)
def fstB (t : Fst) : Bool := decide (0 ≤ t.states) && decide (t.states ≤ 1024) && decide ((t.arcs.length : Int) ≤ 16384) && tipsB t.starts t.states && tipsB t.ends t.states && t.arcs.all (arcB t.states)
theorem fst_state_eq (s n : Int) : fst_state s n = some (decide (0 ≤ s) && decide (s < n)) := by
  unfold fst_state
  by_cases h : 0 ≤ s <;> simp [h]
theorem rightTips_eq (l : List Tip) (n : Int) : fst_rightTips l n = some (tipsB l n) := by
  unfold fst_rightTips tipsB
  by_cases h : (l.length : Int) ≤ 1024
  · rw [decide_eq_false (by omega), iteO_false, iter_all (y := true) (no := false) l Tip.zero (tipB n)]
    · rw [decide_eq_true h, Bool.true_and]; cases l.all (tipB n) <;> rfl
    · intro k hk hp
      simp only [tipB, Bool.and_eq_true, decide_eq_true_eq] at hp
      simp only [fst_rightTips_b1, lt_dec hk, iteO_true, fst_state_eq, bnd, Option.bind_some, hp.1.1, hp.1.2, decide_true, Bool.and_self, Bool.not_true, iteO_false, decide_eq_false (show ¬ (1024 : Int) < ((nth l k Tip.zero).out.length : Int) by omega)]; rfl
    · intro k hk hp
      simp only [fst_rightTips_b1, lt_dec hk, iteO_true, fst_state_eq, bnd, Option.bind_some]
      by_cases hc : (decide (0 ≤ (nth l k Tip.zero).state) && decide ((nth l k Tip.zero).state < n)) = true
      · rw [hc]
        simp only [tipB, hc, Bool.true_and, decide_eq_false_iff_not] at hp
        simp only [Bool.not_true, iteO_false, decide_eq_true (show (1024 : Int) < ((nth l k Tip.zero).out.length : Int) by omega), iteO_true]; rfl
      · simp only [Bool.not_eq_true] at hc
        rw [hc]; rfl
    · simp only [fst_rightTips_b1, Int.lt_irrefl, decide_false, iteO_false]; rfl
  · rw [decide_eq_true (by omega), iteO_true]; simp [h]
theorem fst_Check_eq (t : Fst) : fst_Check t = some (errB (fstB t)) := by
  unfold fst_Check
  by_cases h1 : t.states < 0
  · rw [decide_eq_true h1, iteO_true]; simp [fstB, errB, show ¬ 0 ≤ t.states by omega]
  rw [decide_eq_false h1, iteO_false]
  by_cases h2 : 1024 < t.states
  · rw [decide_eq_true h2, iteO_true]; simp [fstB, errB, show ¬ t.states ≤ 1024 by omega]
  rw [decide_eq_false h2, iteO_false]
  by_cases h3 : (16384 : Int) < (t.arcs.length : Int)
  · rw [decide_eq_true h3, iteO_true]; simp only [fstB, decide_eq_false (show ¬ (t.arcs.length : Int) ≤ 16384 by omega), Bool.and_false, Bool.false_and]; rfl
  rw [decide_eq_false h3, iteO_false, rightTips_eq, bnd, Option.bind_some]
  have e0 : fstB t = (tipsB t.starts t.states && tipsB t.ends t.states && t.arcs.all (arcB t.states)) := by
    simp only [fstB, decide_eq_true (show 0 ≤ t.states by omega), decide_eq_true (show t.states ≤ 1024 by omega), decide_eq_true (show (t.arcs.length : Int) ≤ 16384 by omega), Bool.true_and]
  rw [e0]
  cases h4 : tipsB t.starts t.states
  · rfl
  simp only [Bool.not_true, iteO_false, rightTips_eq, bnd, Option.bind_some]
  cases h5 : tipsB t.ends t.states
  · rfl
  simp only [Bool.not_true, iteO_false, Bool.and_self, Bool.true_and]
  rw [iter_all (y := 0) (no := 1) t.arcs Arc.zero (arcB t.states)]
  · rfl
  · intro k hk hp
    simp only [arcB, Bool.and_eq_true, decide_eq_true_eq] at hp
    obtain ⟨⟨⟨⟨⟨p1, p2⟩, p3⟩, p4⟩, p5⟩, p6⟩ := hp
    simp only [fst_Check_b1, lt_dec hk, iteO_true, fst_state_eq, bnd, Option.bind_some, p1, p2, p3, p4, p5, decide_true, decide_false, Bool.and_self, Bool.not_true, iteO_false, decide_eq_false (show ¬ (1024 : Int) < ((nth t.arcs k Arc.zero).out.length : Int) by omega)]; rfl
  · intro k hk hp
    simp only [fst_Check_b1, lt_dec hk, iteO_true, fst_state_eq, bnd, Option.bind_some]
    cases hc : (decide (0 ≤ (nth t.arcs k Arc.zero).frm) && decide ((nth t.arcs k Arc.zero).frm < t.states))
    · rfl
    cases hd : (decide (0 ≤ (nth t.arcs k Arc.zero).to) && decide ((nth t.arcs k Arc.zero).to < t.states))
    · rfl
    simp only [Bool.not_true, iteO_false]
    by_cases he : (nth t.arcs k Arc.zero).set = BSet.zero
    · rw [decide_eq_true he]; rfl
    rw [decide_eq_false he, iteO_false]
    have hd' : (decide (0 ≤ (nth t.arcs k Arc.zero).frm) && decide ((nth t.arcs k Arc.zero).frm < t.states) && decide (0 ≤ (nth t.arcs k Arc.zero).to) && decide ((nth t.arcs k Arc.zero).to < t.states)) = true := by rw [Bool.and_assoc, hc, hd]; rfl
    simp only [arcB, hd', Bool.true_and, ne_eq, he, not_false_eq_true, decide_true, decide_eq_false_iff_not] at hp
    rw [decide_eq_true (by omega)]; rfl
  · simp only [fst_Check_b1, Int.lt_irrefl, decide_false, iteO_false]; rfl

theorem errB_ne {b : Bool} : decide (errB b ≠ 0) = !b := by cases b <;> rfl

/-! ### One byte more -/
def outOf (p : FPair) (a : Arc) (b : UInt8) : List UInt8 := if a.copy then (p.out ++ a.out) ++ [b] else p.out ++ a.out
def aftA (g : List Arc) (p : FPair) (b : UInt8) : List FPair := (g.filter fun a => a.set.has b.toNat).map fun a => ⟨a.to, outOf p a b⟩
def aftP (t : Fst) (S : List FPair) (b : UInt8) : List FPair := S.flatMap fun p => aftA (t.arcs.filter fun a => decide (a.frm = p.state)) p b
def tp (x : Tip) : FPair := ⟨x.state, x.out⟩
def pairsL (t : Fst) (w : List UInt8) : List FPair := w.foldl (aftP t) (t.starts.map tp)
def fitsB (t : Fst) (w : List UInt8) : Bool := (List.range w.length).all fun k => decide (card (pairsL t (w.take (k + 1))) ≤ 4096)
def endT (t : Fst) (S : List FPair) : List (List UInt8) := S.flatMap fun p => ((t.ends.filter fun e => decide (e.state = p.state)).map Tip.out).map fun o => p.out ++ o
def outsL (t : Fst) (w : List UInt8) : List (List UInt8) := onceL [] Lib.compareBytes (endT t (pairsL t w))
theorem mem_aftA {g : List Arc} {p q : FPair} {b : UInt8} : q ∈ aftA g p b ↔ ∃ a ∈ g, a.set.has b.toNat = true ∧ q = ⟨a.to, outOf p a b⟩ := by
  simp only [aftA, List.mem_map, List.mem_filter]
  constructor
  · rintro ⟨a, ⟨h1, h2⟩, h3⟩; exact ⟨a, h1, h2, h3.symm⟩
  · rintro ⟨a, h1, h2, h3⟩; exact ⟨a, ⟨h1, h2⟩, h3.symm⟩
theorem mem_aftP {t : Fst} {S : List FPair} {b : UInt8} {q : FPair} : q ∈ aftP t S b ↔ ∃ p ∈ S, ∃ a ∈ t.arcs, a.frm = p.state ∧ a.set.has b.toNat = true ∧ q = ⟨a.to, outOf p a b⟩ := by
  simp only [aftP, List.mem_flatMap, mem_aftA, List.mem_filter, decide_eq_true_eq]
  constructor
  · rintro ⟨p, h1, a, ⟨h2, h3⟩, h4, h5⟩; exact ⟨p, h1, a, h2, h3, h4, h5⟩
  · rintro ⟨p, h1, a, h2, h3, h4, h5⟩; exact ⟨p, h1, a, ⟨h2, h3⟩, h4, h5⟩
theorem aftA_snoc (g : List Arc) (a : Arc) (p : FPair) (b : UInt8) : aftA (g ++ [a]) p b = aftA g p b ++ (if a.set.has b.toNat then [⟨a.to, outOf p a b⟩] else []) := by
  rw [aftA, List.filter_append, List.map_append]
  cases h : a.set.has b.toNat <;> simp [aftA, h]
theorem b2_step (x0 : List (List Arc)) (z : FPair × Unit) (b : UInt8) (S : List FPair) (hS : card S ≤ 4096) (hz : z.1.out.length ≤ 100000000) (hg : ∀ a ∈ nth x0 z.1.state.toNat [], a.out.length ≤ 1024) :
    iter (fun q : (FM FPair Unit) × Nat => fst_step_b2 x0 z b q.1 q.2) (FM.ofL S, 0) =
      some (if card (S ++ aftA (nth x0 z.1.state.toNat []) z.1 b) ≤ 4096 then .inl (FM.ofL (S ++ aftA (nth x0 z.1.state.toNat []) z.1 b)) else .inr (FM.emp, false)) := by
  generalize hgd : nth x0 z.1.state.toNat ([] : List Arc) = g at hg
  refine Exists.elim (iter_run (step := fun q : (FM FPair Unit) × Nat => fst_step_b2 x0 z b q.1 q.2)
    (fun q => q.2 ≤ g.length ∧ q.1 = FM.ofL (S ++ aftA (g.take q.2) z.1 b) ∧ card (S ++ aftA (g.take q.2) z.1 b) ≤ 4096)
    (fun r => r = if card (S ++ aftA g z.1 b) ≤ 4096 then .inl (FM.ofL (S ++ aftA g z.1 b)) else .inr (FM.emp, false)) (fun q => g.length - q.2) ?_ (FM.ofL S, 0) ⟨Nat.zero_le _, by simp [aftA], by simpa [aftA] using hS⟩) (fun r hr => by rw [hr.1, hr.2])
  rintro ⟨m, k⟩ ⟨hk, hm, hc⟩
  simp only at hk hm hc
  subst hm
  by_cases hlt : k < g.length
  · have hmem : nth g k Arc.zero ∈ g := nth_mem' hlt _
    have ho := hg _ hmem
    have hsn : aftA (g.take (k + 1)) z.1 b = aftA (g.take k) z.1 b ++ (if (nth g k Arc.zero).set.has b.toNat then [⟨(nth g k Arc.zero).to, outOf z.1 (nth g k Arc.zero) b⟩] else []) := by rw [take_snoc g hlt Arc.zero, aftA_snoc]
    cases hh : (nth g k Arc.zero).set.has b.toNat
    · left
      rw [hh] at hsn
      refine ⟨(FM.ofL (S ++ aftA (g.take k) z.1 b), k + 1), ?_, ⟨by simp only; omega, by simp only [hsn]; simp, by simp only [hsn]; simpa using hc⟩, by simp only; omega⟩
      simp only [fst_step_b2, hgd, lt_dec hlt, iteO_true, hh, Bool.not_false]; rfl
    · rw [hh] at hsn
      simp only [if_true] at hsn
      have hout : fst_step_b2 x0 z b (FM.ofL (S ++ aftA (g.take k) z.1 b)) k = fst_step_j2 (FM.ofL (S ++ aftA (g.take k) z.1 b)) x0 z k (outOf z.1 (nth g k Arc.zero) b) := by
        simp only [fst_step_b2, hgd, lt_dec hlt, iteO_true, hh, Bool.not_true, iteO_false]
        rw [grd_mk (by omega)]
        unfold outOf
        cases (nth g k Arc.zero).copy
        · simp
        · simp only [iteO_true, if_true]
          rw [grd_mk (by simp only [List.length_append, List.length_singleton]; omega)]
      have hput : FM.put (FM.ofL (S ++ aftA (g.take k) z.1 b)) (⟨(nth g k Arc.zero).to, outOf z.1 (nth g k Arc.zero) b⟩ : FPair) () = FM.ofL (S ++ aftA (g.take (k + 1)) z.1 b) := by rw [← FM.ofL_snoc, hsn, List.append_assoc]
      simp only [hout, fst_step_j2, hgd, hput]
      by_cases hbig : card (S ++ aftA (g.take (k + 1)) z.1 b) ≤ 4096
      · left
        refine ⟨(FM.ofL (S ++ aftA (g.take (k + 1)) z.1 b), k + 1), ?_, ⟨by simp only; omega, rfl, hbig⟩, by simp only; omega⟩
        rw [decide_eq_false (by unfold card at hbig; omega), iteO_false]; rfl
      · right
        refine ⟨.inr (FM.emp, false), ?_, ?_⟩
        · rw [decide_eq_true (by unfold card at hbig; omega), iteO_true]; rfl
        · rw [if_neg]
          have : card (S ++ aftA (g.take (k + 1)) z.1 b) ≤ card (S ++ aftA g z.1 b) := card_mono fun x hx => by
            rw [List.mem_append] at *
            refine hx.imp id fun hx => ?_
            rw [mem_aftA] at *
            obtain ⟨a, h1, h2⟩ := hx
            exact ⟨a, List.mem_of_mem_take h1, h2⟩
          omega
  · right
    have e : g.take k = g := List.take_of_length_le (by omega)
    rw [e] at hc ⊢
    rw [if_pos hc]
    refine ⟨_, ?_, rfl⟩
    simp only [fst_step_b2, hgd, decide_eq_false (show ¬ ((k : Nat) : Int) < ((g.length : Nat) : Int) by omega), iteO_false]; rfl
def aftG (x0 : List (List Arc)) (S : List FPair) (b : UInt8) : List FPair := S.flatMap fun p => aftA (nth x0 p.state.toNat []) p b
theorem step_run (x0 : List (List Arc)) (b : UInt8) (hg : ∀ i, ∀ a ∈ nth x0 i [], a.out.length ≤ 1024) : ∀ (q : List (FPair × Unit)) (T : List FPair), (∀ z ∈ q, (0 ≤ z.1.state ∧ z.1.state < (x0.length : Int)) ∧ z.1.out.length ≤ 100000000) → card T ≤ 4096 →
    runL (fun (q : (FM FPair Unit)) (oE : Option (FPair × Unit)) => fst_step_b1 x0 b q oE) q (FM.ofL T) = some (if card (T ++ aftG x0 (q.map Prod.fst) b) ≤ 4096 then (FM.ofL (T ++ aftG x0 (q.map Prod.fst) b), true) else (FM.emp, false))
  | [], T, _, hT => by
    simp only [runL, fst_step_b1, optE, fin_some, aftG, List.map_nil, List.flatMap_nil, List.append_nil, if_pos hT]
  | z :: q, T, hq, hT => by
    have hz := hq z (List.mem_cons_self ..)
    have e : T ++ aftG x0 ((z :: q).map Prod.fst) b = (T ++ aftA (nth x0 z.1.state.toNat []) z.1 b) ++ aftG x0 (q.map Prod.fst) b := by simp [aftG]
    have hst : fst_step_b1 x0 b (FM.ofL T) (some z) = some (if card (T ++ aftA (nth x0 z.1.state.toNat []) z.1 b) ≤ 4096 then .inl (FM.ofL (T ++ aftA (nth x0 z.1.state.toNat []) z.1 b)) else .inr (FM.emp, false)) := by
      simp only [fst_step_b1, optE]
      rw [grd_mk hz.1, b2_step x0 z b T hT hz.2 (hg _)]
    simp only [runL, hst]
    by_cases hc : card (T ++ aftA (nth x0 z.1.state.toNat []) z.1 b) ≤ 4096
    · rw [if_pos hc]
      simp only
      rw [step_run x0 b hg q _ (fun y hy => hq y (List.mem_cons_of_mem _ hy)) hc, e]
    · rw [if_neg hc]
      simp only
      rw [if_neg]
      rw [e]
      have := card_mono (S := T ++ aftA (nth x0 z.1.state.toNat []) z.1 b) (T := (T ++ aftA (nth x0 z.1.state.toNat []) z.1 b) ++ aftG x0 (q.map Prod.fst) b) (fun x hx => List.mem_append_left _ hx)
      omega
theorem step_eq (x0 : List (List Arc)) (b : UInt8) (S : List FPair) (hg : ∀ i, ∀ a ∈ nth x0 i [], a.out.length ≤ 1024) (hS : ∀ p ∈ S, (0 ≤ p.state ∧ p.state < (x0.length : Int)) ∧ p.out.length ≤ 100000000) :
    fst_step x0 (FM.ofL S) b = some (if card (aftG x0 S b) ≤ 4096 then (FM.ofL (aftG x0 S b), true) else (FM.emp, false)) := by
  obtain ⟨q0, hq0⟩ := Rep.ofL S
  unfold fst_step
  refine allP_i q0 hq0 fun q hq => ?_
  have h1 := (Rep.of_ofL hq).1
  have := step_run x0 b hg q [] (fun z hz => hS z.1 ((h1 z).1 hz)) (by decide)
  have hcg : ∀ x, x ∈ [] ++ aftG x0 (q.map Prod.fst) b ↔ x ∈ aftG x0 S b := fun x => by
    simp only [aftG, List.nil_append, List.mem_flatMap, List.mem_map]
    constructor
    · rintro ⟨p, ⟨z, hz, rfl⟩, h⟩; exact ⟨z.1, (h1 z).1 hz, h⟩
    · rintro ⟨p, hp, h⟩; exact ⟨p, ⟨(p, ()), (h1 (p, ())).2 hp, rfl⟩, h⟩
  rw [card_congr hcg, FM.ofL_congr hcg] at this
  exact this
end Go.Proofs.YtjhbngjhdmapmaaGreatDoor
end

/- FstQ -/
section
/- What the program's Outs gives. Plain lemmas, no condition. -/
set_option linter.unusedVariables false
set_option linter.unusedSimpArgs false
namespace Go.Proofs.YtjhbngjhdmapmaaGreatDoor
open Go Go.E
set_option maxRecDepth 100000

theorem tipB_ok {n : Int} {p : Tip} (h : tipB n p = true) : (0 ≤ p.state ∧ p.state < n) ∧ p.out.length ≤ 1024 := by
  simp only [tipB, Bool.and_eq_true, decide_eq_true_eq] at h; exact ⟨h.1, by omega⟩
theorem tipsB_ok {n : Int} {l : List Tip} (h : tipsB l n = true) : l.length ≤ 1024 ∧ ∀ p ∈ l, (0 ≤ p.state ∧ p.state < n) ∧ p.out.length ≤ 1024 := by
  simp only [tipsB, Bool.and_eq_true, decide_eq_true_eq, List.all_eq_true] at h
  exact ⟨by omega, fun p hp => tipB_ok (h.2 p hp)⟩
theorem arcB_ok {n : Int} {a : Arc} (h : arcB n a = true) : (0 ≤ a.frm ∧ a.frm < n) ∧ (0 ≤ a.to ∧ a.to < n) ∧ a.set ≠ BSet.zero ∧ a.out.length ≤ 1024 := by
  simp only [arcB, Bool.and_eq_true, decide_eq_true_eq] at h
  obtain ⟨⟨⟨⟨⟨p1, p2⟩, p3⟩, p4⟩, p5⟩, p6⟩ := h
  exact ⟨⟨p1, p2⟩, ⟨p3, p4⟩, p5, by omega⟩
structure FstOk (t : Fst) : Prop where
  st0 : 0 ≤ t.states
  st1 : t.states ≤ 1024
  arcsN : t.arcs.length ≤ 16384
  startsN : t.starts.length ≤ 1024
  endsN : t.ends.length ≤ 1024
  starts : ∀ p ∈ t.starts, (0 ≤ p.state ∧ p.state < t.states) ∧ p.out.length ≤ 1024
  ends : ∀ p ∈ t.ends, (0 ≤ p.state ∧ p.state < t.states) ∧ p.out.length ≤ 1024
  arcs : ∀ a ∈ t.arcs, (0 ≤ a.frm ∧ a.frm < t.states) ∧ (0 ≤ a.to ∧ a.to < t.states) ∧ a.set ≠ BSet.zero ∧ a.out.length ≤ 1024
theorem fstB_iff (t : Fst) : fstB t = true ↔ FstOk t := by
  constructor
  · intro h
    simp only [fstB, Bool.and_eq_true, decide_eq_true_eq, List.all_eq_true] at h
    obtain ⟨⟨⟨⟨⟨h1, h2⟩, h3⟩, h4⟩, h5⟩, h6⟩ := h
    exact ⟨h1, h2, by omega, (tipsB_ok h4).1, (tipsB_ok h5).1, (tipsB_ok h4).2, (tipsB_ok h5).2, fun a ha => arcB_ok (h6 a ha)⟩
  · rintro ⟨h1, h2, h3, h4, h5, h6, h7, h8⟩
    have hT : ∀ l : List Tip, l.length ≤ 1024 → (∀ p ∈ l, (0 ≤ p.state ∧ p.state < t.states) ∧ p.out.length ≤ 1024) → tipsB l t.states = true := fun l hl hp => by
      simp only [tipsB, Bool.and_eq_true, decide_eq_true_eq, List.all_eq_true]
      refine ⟨by omega, fun p hq => ?_⟩
      have := hp p hq
      simp only [tipB, Bool.and_eq_true, decide_eq_true_eq]; omega
    simp only [fstB, Bool.and_eq_true, decide_eq_true_eq, List.all_eq_true]
    refine ⟨⟨⟨⟨⟨h1, h2⟩, by omega⟩, hT _ h4 h6⟩, hT _ h5 h7⟩, fun a ha => ?_⟩
    obtain ⟨p1, p2, p3, p4⟩ := h8 a ha
    simp only [arcB, Bool.and_eq_true, decide_eq_true_eq]
    exact ⟨⟨⟨⟨p1, p2.1⟩, p2.2⟩, p3⟩, by omega⟩

theorem pairsL_snoc (t : Fst) (w : List UInt8) (b : UInt8) : pairsL t (w ++ [b]) = aftP t (pairsL t w) b := by simp [pairsL]
theorem outOf_len (p : FPair) (a : Arc) (b : UInt8) : (outOf p a b).length ≤ p.out.length + a.out.length + 1 := by
  unfold outOf; split <;> simp only [List.length_append, List.length_singleton] <;> omega
theorem pairs_ok {t : Fst} (ht : FstOk t) (w : List UInt8) : ∀ p ∈ pairsL t w, (0 ≤ p.state ∧ p.state < t.states) ∧ p.out.length ≤ 1024 + 1025 * w.length := by
  induction w using rev_ind with
  | h0 =>
    intro p hp
    obtain ⟨x, hx, rfl⟩ := List.mem_map.1 hp
    have := ht.starts x hx
    exact ⟨this.1, by have := this.2; simp only [tp, List.length_nil]; omega⟩
  | h1 w b ih =>
    intro q hq
    rw [pairsL_snoc, mem_aftP] at hq
    obtain ⟨p, hp, a, ha, _, _, rfl⟩ := hq
    have h1 := ht.arcs a ha
    have h2 := (ih p hp).2
    have h3 := outOf_len p a b
    refine ⟨h1.2.1, ?_⟩
    rw [List.length_append, List.length_singleton]
    simp only; omega

theorem b6_run (l229 : List (List (List UInt8))) (z : FPair × Unit) (l : List (List UInt8)) (hz : z.1.out.length ≤ 100000000) (hes : ∀ o ∈ nth l229 z.1.state.toNat [], o.length ≤ 1024) (hl : l.length + (nth l229 z.1.state.toNat []).length ≤ 8000000000) :
    iter (fun q : (List (List UInt8)) × Nat => fst_Outs_b6 l229 z q.1 q.2) (l, 0) = some (.inl (l ++ (nth l229 z.1.state.toNat []).map fun o => z.1.out ++ o)) := by
  generalize hgd : nth l229 z.1.state.toNat ([] : List (List UInt8)) = es at hes hl
  have := iter_fold (step := fun q : (List (List UInt8)) × Nat => fst_Outs_b6 l229 z q.1 q.2) (r := .inl (l ++ es.map fun o => z.1.out ++ o)) es [] (fun k => l ++ (es.take k).map fun o => z.1.out ++ o) ?_ ?_
  · simpa using this
  · intro k hk
    have ho := hes _ (nth_mem' hk [])
    simp only [fst_Outs_b6, hgd, lt_dec hk, iteO_true]
    rw [grd_mk (by omega), grd_mk (by simp only [List.length_append, List.length_map, List.length_take, List.length_singleton]; omega), take_snoc es hk []]
    simp [nxt]
  · simp only [fst_Outs_b6, hgd, Int.lt_irrefl, decide_false, iteO_false, List.take_length]; rfl
def endG (l229 : List (List (List UInt8))) (q : List (FPair × Unit)) : List (List UInt8) := q.flatMap fun z => (nth l229 z.1.state.toNat []).map fun o => z.1.out ++ o
theorem b5_run (l229 : List (List (List UInt8))) (he : ∀ i, (nth l229 i []).length ≤ 1024 ∧ ∀ o ∈ nth l229 i [], o.length ≤ 1024) : ∀ (q : List (FPair × Unit)) (l : List (List UInt8)), (∀ z ∈ q, (0 ≤ z.1.state ∧ z.1.state < (l229.length : Int)) ∧ z.1.out.length ≤ 100000000) → l.length + q.length * 1024 ≤ 8000000000 →
    runL (fun (q : (List (List UInt8))) (oE : Option (FPair × Unit)) => fst_Outs_b5 l229 q oE) q l = some (onceL [] Lib.compareBytes (l ++ endG l229 q), 0)
  | [], l, _, hl => by
    simp only [runL, fst_Outs_b5, optE, onceS_eq (l := l) (by simp at hl; omega), bnd, Option.bind_some, fin_some, endG, List.flatMap_nil, List.append_nil]
  | z :: q, l, hq, hl => by
    have hz := hq z (List.mem_cons_self ..)
    have h1 := he z.1.state.toNat
    simp only [List.length_cons] at hl
    have hst : fst_Outs_b5 l229 l (some z) = some (.inl (l ++ (nth l229 z.1.state.toNat []).map fun o => z.1.out ++ o)) := by
      simp only [fst_Outs_b5, optE]
      rw [grd_mk hz.1, b6_run l229 z l hz.2 h1.2 (by omega)]
    simp only [runL, hst]
    rw [b5_run l229 he q _ (fun y hy => hq y (List.mem_cons_of_mem _ hy)) (by rw [List.length_append, List.length_map]; omega)]
    simp [endG]
theorem ends_run {t : Fst} (ht : FstOk t) (S : List FPair) (hS : ∀ p ∈ S, (0 ≤ p.state ∧ p.state < t.states) ∧ p.out.length ≤ 100000000) (hc : card S ≤ 4096) :
    iter (fun q : (List (List (List UInt8))) × Nat => fst_Outs_b4 t (FM.ofL S) q.1 q.2) (List.replicate t.states.toNat [], 0) = some (onceL [] Lib.compareBytes (endT t S), 0) := by
  have ht0 := ht.st0
  refine Exists.elim (iter_run (step := fun q : (List (List (List UInt8))) × Nat => fst_Outs_b4 t (FM.ofL S) q.1 q.2) (fun q => q.2 ≤ t.ends.length ∧ Grp Tip.state Tip.out t.states.toNat q.1 (t.ends.take q.2))
    (fun r => r = (onceL [] Lib.compareBytes (endT t S), 0)) (fun q => t.ends.length - q.2) ?_ (List.replicate t.states.toNat [], 0) ⟨Nat.zero_le _, by simpa using Grp.nil Tip.state Tip.out t.states.toNat⟩) (fun r hr => by rw [hr.1, hr.2])
  rintro ⟨l, k⟩ ⟨hk, hG⟩
  simp only at hk hG
  have hlen := hG.len
  by_cases hlt : k < t.ends.length
  · left
    have hm := ht.ends _ (nth_mem' hlt Tip.zero)
    have hrow : (nth l (nth t.ends k Tip.zero).state.toNat []).length ≤ 1024 := by
      rw [hG.at hm.1.1 (by omega), List.length_map]
      have := List.length_filter_le (fun x : Tip => decide (x.state = (nth t.ends k Tip.zero).state)) (t.ends.take k)
      rw [List.length_take] at this
      have := ht.endsN; omega
    refine ⟨(l.set (nth t.ends k Tip.zero).state.toNat (nth l (nth t.ends k Tip.zero).state.toNat [] ++ [(nth t.ends k Tip.zero).out]), k + 1), ?_, ⟨by simp only; omega, ?_⟩, by simp only; omega⟩
    · simp only [fst_Outs_b4, lt_dec hlt, iteO_true]
      rw [grd_mk (by omega), grd_mk (by rw [List.length_singleton]; omega), grd_mk (by omega)]
      rfl
    · simp only
      rw [take_snoc t.ends hlt Tip.zero]
      exact hG.snoc hm.1.1 (by omega)
  · right
    have e : t.ends.take k = t.ends := List.take_of_length_le (by omega)
    rw [e] at hG
    refine ⟨_, ?_, rfl⟩
    simp only [fst_Outs_b4, decide_eq_false (show ¬ ((k : Nat) : Int) < ((t.ends.length : Nat) : Int) by omega), iteO_false]
    have hrow : ∀ i, (nth l i []).length ≤ 1024 ∧ ∀ o ∈ nth l i [], o.length ≤ 1024 := fun i => by
      by_cases hi : i < t.states.toNat
      · rw [hG.row i hi, List.length_map]
        refine ⟨Nat.le_trans (List.length_filter_le _ _) ht.endsN, fun o ho => ?_⟩
        obtain ⟨x, hx, rfl⟩ := List.mem_map.1 ho
        exact (ht.ends x (List.mem_filter.1 hx).1).2
      · have : nth l i [] = [] := by simp [nth, List.getD, show l.length ≤ i by omega]
        rw [this]; simp
    obtain ⟨q0, hq0⟩ := Rep.ofL S
    rw [allP_i (r := (onceL [] Lib.compareBytes (endT t S), 0)) q0 hq0 fun q hq => ?_]
    · rfl
    · obtain ⟨h1, h2⟩ := Rep.of_ofL hq
      rw [b5_run l hrow q [] (fun z hz => by have := hS z.1 ((h1 z).1 hz); exact ⟨⟨this.1.1, by omega⟩, this.2⟩) (by simp; omega)]
      congr 2
      refine onceL_congr cmpB_good fun x => ?_
      simp only [endG, endT, List.nil_append, List.mem_flatMap]
      constructor
      · rintro ⟨z, hz, h⟩
        have hzS := (h1 z).1 hz
        have := hS z.1 hzS
        rw [hG.at this.1.1 (by omega)] at h
        exact ⟨z.1, hzS, h⟩
      · rintro ⟨p, hp, h⟩
        have := hS p hp
        refine ⟨(p, ()), (h1 (p, ())).2 hp, ?_⟩
        rw [hG.at this.1.1 (by omega)]
        exact h
theorem aftG_eq {t : Fst} {l : List (List Arc)} (hG : Grp Arc.frm id t.states.toNat l t.arcs) (S : List FPair) (hS : ∀ p ∈ S, 0 ≤ p.state ∧ p.state < t.states) (b : UInt8) : aftG l S b = aftP t S b := by
  unfold aftG aftP
  rw [List.flatMap_def, List.flatMap_def]
  congr 1
  refine List.map_congr_left fun p hp => ?_
  have := hS p hp
  rw [hG.at this.1 (by omega), List.map_id]
theorem card_start {t : Fst} (ht : FstOk t) : card (t.starts.map tp) ≤ 4096 := by
  have := card_le (t.starts.map tp)
  rw [List.length_map] at this
  have := ht.startsN; omega
theorem text_run {t : Fst} (ht : FstOk t) (w : List UInt8) (hw : w.length ≤ 256) (l : List (List Arc)) (hG : Grp Arc.frm id t.states.toNat l t.arcs) :
    iter (fun q : (FM FPair Unit) × Nat => fst_Outs_b3 w l t q.1 q.2) (FM.ofL (t.starts.map tp), 0) = some (if fitsB t w then (outsL t w, 0) else ([], 2)) := by
  have ht0 := ht.st0
  have ht1 := ht.st1
  have hlen := hG.len
  have hrow : ∀ i, ∀ a ∈ nth l i [], a.out.length ≤ 1024 := fun i a ha => by
    by_cases hi : i < t.states.toNat
    · rw [hG.row i hi, List.map_id] at ha
      exact (ht.arcs a (List.mem_filter.1 ha).1).2.2.2
    · have : nth l i [] = [] := by simp [nth, List.getD, show l.length ≤ i by omega]
      rw [this] at ha; cases ha
  refine Exists.elim (iter_run (step := fun q : (FM FPair Unit) × Nat => fst_Outs_b3 w l t q.1 q.2) (fun q => q.2 ≤ w.length ∧ q.1 = FM.ofL (pairsL t (w.take q.2)) ∧ card (pairsL t (w.take q.2)) ≤ 4096 ∧ ∀ j, j < q.2 → card (pairsL t (w.take (j + 1))) ≤ 4096)
    (fun r => r = if fitsB t w then (outsL t w, 0) else ([], 2)) (fun q => w.length - q.2) ?_ (FM.ofL (t.starts.map tp), 0) ⟨Nat.zero_le _, rfl, card_start ht, fun j hj => by cases hj⟩) (fun r hr => by rw [hr.1, hr.2])
  rintro ⟨m, k⟩ ⟨hk, hm, hc, hf⟩
  simp only at hk hm hc hf
  subst hm
  have hok := pairs_ok ht (w.take k)
  have hlt' : (w.take k).length ≤ 256 := by rw [List.length_take]; omega
  by_cases hlt : k < w.length
  · have hstep := step_eq l (nth w k 0) (pairsL t (w.take k)) hrow (fun p hp => by have := hok p hp; exact ⟨⟨this.1.1, by omega⟩, by omega⟩)
    rw [aftG_eq hG _ (fun p hp => (hok p hp).1), ← pairsL_snoc, ← take_snoc w hlt 0] at hstep
    simp only [fst_Outs_b3, lt_dec hlt, iteO_true, hstep, bnd, Option.bind_some]
    by_cases hb : card (pairsL t (w.take (k + 1))) ≤ 4096
    · left
      rw [if_pos hb]
      refine ⟨(FM.ofL (pairsL t (w.take (k + 1))), k + 1), rfl, ⟨by simp only; omega, rfl, hb, fun j hj => ?_⟩, by simp only; omega⟩
      simp only at hj
      by_cases e : j = k
      · subst e; exact hb
      · exact hf j (by omega)
    · right
      rw [if_neg hb]
      refine ⟨([], 2), rfl, ?_⟩
      rw [if_neg]
      intro h
      rw [fitsB, List.all_eq_true] at h
      exact hb (by simpa using h k (List.mem_range.2 hlt))
  · right
    have e : w.take k = w := List.take_of_length_le (by omega)
    have hk' : k = w.length := by omega
    refine ⟨(outsL t w, 0), ?_, ?_⟩
    · simp only [fst_Outs_b3, decide_eq_false (show ¬ ((k : Nat) : Int) < ((w.length : Nat) : Int) by omega), iteO_false]
      rw [grd_mk (by omega), e, ends_run ht _ (fun p hp => by have := pairs_ok ht w p hp; exact ⟨this.1, by omega⟩) (by rw [e] at hc; exact hc)]
      rfl
    · rw [if_pos]
      rw [fitsB, List.all_eq_true]
      intro j hj
      simpa using hf j (by rw [hk']; exact List.mem_range.1 hj)
theorem starts_run (t : Fst) (w : List UInt8) (l : List (List Arc)) {r : List (List UInt8) × Int} (h : iter (fun q : (FM FPair Unit) × Nat => fst_Outs_b3 w l t q.1 q.2) (FM.ofL (t.starts.map tp), 0) = some r) :
    iter (fun q : (FM FPair Unit) × Nat => fst_Outs_b2 t w l q.1 q.2) (FM.emp, 0) = some r := by
  refine iter_fold (step := fun q : (FM FPair Unit) × Nat => fst_Outs_b2 t w l q.1 q.2) t.starts Tip.zero (fun k => FM.ofL ((t.starts.take k).map tp)) ?_ ?_
  · intro k hk
    simp only [fst_Outs_b2, lt_dec hk, iteO_true]
    rw [take_snoc t.starts hk Tip.zero, List.map_append, List.map_cons, List.map_nil, FM.ofL_snoc]
    rfl
  · simp only [fst_Outs_b2, Int.lt_irrefl, decide_false, iteO_false, List.take_length, h]; rfl
theorem arcs_run {t : Fst} (ht : FstOk t) (w : List UInt8) (hw : w.length ≤ 256) :
    iter (fun q : (List (List Arc)) × Nat => fst_Outs_b1 t w q.1 q.2) (List.replicate t.states.toNat [], 0) = some (if fitsB t w then (outsL t w, 0) else ([], 2)) := by
  have ht0 := ht.st0
  refine Exists.elim (iter_run (step := fun q : (List (List Arc)) × Nat => fst_Outs_b1 t w q.1 q.2) (fun q => q.2 ≤ t.arcs.length ∧ Grp Arc.frm id t.states.toNat q.1 (t.arcs.take q.2))
    (fun r => r = if fitsB t w then (outsL t w, 0) else ([], 2)) (fun q => t.arcs.length - q.2) ?_ (List.replicate t.states.toNat [], 0) ⟨Nat.zero_le _, by simpa using Grp.nil Arc.frm id t.states.toNat⟩) (fun r hr => by rw [hr.1, hr.2])
  rintro ⟨l, k⟩ ⟨hk, hG⟩
  simp only at hk hG
  have hlen := hG.len
  by_cases hlt : k < t.arcs.length
  · left
    have hm := ht.arcs _ (nth_mem' hlt Arc.zero)
    have hrow : (nth l (nth t.arcs k Arc.zero).frm.toNat []).length ≤ 16384 := by
      rw [hG.at hm.1.1 (by omega), List.length_map]
      have := List.length_filter_le (fun x : Arc => decide (x.frm = (nth t.arcs k Arc.zero).frm)) (t.arcs.take k)
      rw [List.length_take] at this
      have := ht.arcsN; omega
    refine ⟨(l.set (nth t.arcs k Arc.zero).frm.toNat (nth l (nth t.arcs k Arc.zero).frm.toNat [] ++ [nth t.arcs k Arc.zero]), k + 1), ?_, ⟨by simp only; omega, ?_⟩, by simp only; omega⟩
    · simp only [fst_Outs_b1, lt_dec hlt, iteO_true]
      rw [grd_mk (by omega), grd_mk (by rw [List.length_singleton]; omega), grd_mk (by omega)]
      rfl
    · simp only
      rw [take_snoc t.arcs hlt Arc.zero]
      exact hG.snoc hm.1.1 (by omega)
  · right
    have e : t.arcs.take k = t.arcs := List.take_of_length_le (by omega)
    rw [e] at hG
    refine ⟨_, ?_, rfl⟩
    simp only [fst_Outs_b1, decide_eq_false (show ¬ ((k : Nat) : Int) < ((t.arcs.length : Nat) : Int) by omega), iteO_false]
    rw [starts_run t w l (text_run ht w hw l hG)]
    rfl
/-- The program's answer. -/
theorem outs_eq (t : Fst) (w : List UInt8) (hw : w.length ≤ 281474976710656) : fst_Outs t w = some (if fstB t = true then (if w.length ≤ 256 then (if fitsB t w = true then (outsL t w, 0) else ([], 2)) else ([], 2)) else ([], 1)) := by
  unfold fst_Outs
  rw [grd_mk hw, fst_Check_eq, bnd, Option.bind_some, errB_ne]
  by_cases h : fstB t = true
  · have ht := (fstB_iff t).1 h
    have ht0 := ht.st0
    have ht1 := ht.st1
    rw [h, if_pos rfl, Bool.not_true, iteO_false]
    by_cases h2 : w.length ≤ 256
    · rw [decide_eq_false (by omega), iteO_false, if_pos h2, grd_mk (by omega), arcs_run ht w h2]
    · rw [decide_eq_true (by omega), iteO_true, if_neg h2]
  · simp only [Bool.not_eq_true] at h
    rw [h]; rfl
end Go.Proofs.YtjhbngjhdmapmaaGreatDoor
end

/- Chk -/
section
/- What makes an automaton right. Plain lemmas, no condition. -/
set_option linter.unusedVariables false
set_option linter.unusedSimpArgs false
namespace Go.Proofs.YtjhbngjhdmapmaaGreatDoor
open Go Go.E
set_option maxRecDepth 100000

end Go.Proofs.YtjhbngjhdmapmaaGreatDoor
end

/- FstR -/
section
/- In, and Sort, of a transducer; what the laws look at. Plain lemmas, no condition. -/
set_option linter.unusedVariables false
set_option linter.unusedSimpArgs false
namespace Go.Proofs.YtjhbngjhdmapmaaGreatDoor
open Go Go.E
set_option maxRecDepth 100000

/-! ### In order -/
def srt (t : Fst) : Fst := ⟨t.states, onceL Tip.zero cmpTip t.starts, onceL Tip.zero cmpTip t.ends, onceL Arc.zero cmpArc t.arcs⟩
theorem sort_eq (t : Fst) : fst_Sort t = some (if fstB t = true then (srt t, 0) else (⟨0, [], [], []⟩, 1)) := by
  unfold fst_Sort
  rw [fst_Check_eq, bnd, Option.bind_some, errB_ne]
  by_cases h : fstB t = true
  · have ht := (fstB_iff t).1 h
    have h1 := ht.startsN
    have h2 := ht.endsN
    have h3 := ht.arcsN
    rw [h, if_pos rfl, Bool.not_true, iteO_false]
    simp only [onceT_eq (l := t.starts) (by omega), onceT_eq (l := t.ends) (by omega), onceA_eq (l := t.arcs) (by omega), bnd, Option.bind_some]
    rfl
  · simp only [Bool.not_eq_true] at h
    rw [h]; rfl
/-- The same things, be it in another order and more often. -/
structure Alike (s t : Fst) : Prop where
  states : s.states = t.states
  starts : ∀ x, x ∈ s.starts ↔ x ∈ t.starts
  ends : ∀ x, x ∈ s.ends ↔ x ∈ t.ends
  arcs : ∀ x, x ∈ s.arcs ↔ x ∈ t.arcs
theorem srt_alike (t : Fst) : Alike (srt t) t := ⟨rfl, fun _ => mem_onceL, fun _ => mem_onceL, fun _ => mem_onceL⟩
theorem Alike.srt {s t : Fst} (h : Alike s t) : srt s = srt t := by
  unfold Proofs.YtjhbngjhdmapmaaGreatDoor.srt
  rw [h.states, onceL_congr cmpTip_good h.starts, onceL_congr cmpTip_good h.ends, onceL_congr cmpArc_good h.arcs]
theorem srt_srt (t : Fst) : srt (srt t) = srt t := (srt_alike t).srt
theorem srt_ok {t : Fst} (ht : FstOk t) : FstOk (srt t) where
  st0 := ht.st0
  st1 := ht.st1
  arcsN := Nat.le_trans (onceL_len _) ht.arcsN
  startsN := Nat.le_trans (onceL_len _) ht.startsN
  endsN := Nat.le_trans (onceL_len _) ht.endsN
  starts p hp := ht.starts p (mem_onceL.1 hp)
  ends p hp := ht.ends p (mem_onceL.1 hp)
  arcs a ha := ht.arcs a (mem_onceL.1 ha)
/-- More arcs and tips. -/
structure Within (s t : Fst) : Prop where
  starts : ∀ x ∈ s.starts, x ∈ t.starts
  ends : ∀ x ∈ s.ends, x ∈ t.ends
  arcs : ∀ x ∈ s.arcs, x ∈ t.arcs
theorem Alike.within {s t : Fst} (h : Alike s t) : Within s t := ⟨fun x => (h.starts x).1, fun x => (h.ends x).1, fun x => (h.arcs x).1⟩
theorem Alike.symm {s t : Fst} (h : Alike s t) : Alike t s := ⟨h.states.symm, fun x => (h.starts x).symm, fun x => (h.ends x).symm, fun x => (h.arcs x).symm⟩
theorem Within.pairs {s t : Fst} (h : Within s t) (w : List UInt8) : ∀ p ∈ pairsL s w, p ∈ pairsL t w := by
  induction w using rev_ind with
  | h0 =>
    intro p hp
    obtain ⟨x, hx, rfl⟩ := List.mem_map.1 hp
    exact List.mem_map.2 ⟨x, h.starts x hx, rfl⟩
  | h1 w b ih =>
    intro q hq
    rw [pairsL_snoc, mem_aftP] at *
    obtain ⟨p, hp, a, ha, r⟩ := hq
    exact ⟨p, ih p hp, a, h.arcs a ha, r⟩
theorem Within.fits {s t : Fst} (h : Within s t) (w : List UInt8) (ht : fitsB t w = true) : fitsB s w = true := by
  rw [fitsB, List.all_eq_true] at *
  intro k hk
  have := ht k hk
  rw [decide_eq_true_eq] at *
  exact Nat.le_trans (card_mono (h.pairs _)) this
theorem mem_endT {t : Fst} {S : List FPair} {o : List UInt8} : o ∈ endT t S ↔ ∃ p ∈ S, ∃ e ∈ t.ends, e.state = p.state ∧ o = p.out ++ e.out := by
  simp only [endT, List.mem_flatMap, List.mem_map, List.mem_filter, decide_eq_true_eq]
  constructor
  · rintro ⟨p, hp, _, ⟨e, ⟨he, h1⟩, rfl⟩, h2⟩; exact ⟨p, hp, e, he, h1, h2.symm⟩
  · rintro ⟨p, hp, e, he, h1, h2⟩; exact ⟨p, hp, _, ⟨e, ⟨he, h1⟩, rfl⟩, h2.symm⟩
theorem mem_outsL {t : Fst} {w o : List UInt8} : o ∈ outsL t w ↔ ∃ p ∈ pairsL t w, ∃ e ∈ t.ends, e.state = p.state ∧ o = p.out ++ e.out := by rw [outsL, mem_onceL, mem_endT]
theorem Within.outs {s t : Fst} (h : Within s t) (w : List UInt8) : ∀ o ∈ outsL s w, o ∈ outsL t w := by
  intro o ho
  rw [mem_outsL] at *
  obtain ⟨p, hp, e, he, r⟩ := ho
  exact ⟨p, h.pairs w p hp, e, h.ends e he, r⟩
theorem outsL_rise (t : Fst) (w : List UInt8) : (outsL t w).Pairwise fun x y => Lib.compareBytes x y < 0 := sorted_onceL cmpB_good _
theorem Alike.outs {s t : Fst} (h : Alike s t) (w : List UInt8) : outsL s w = outsL t w := rising_eq cmpB_good (outsL_rise s w) (outsL_rise t w) fun x => ⟨h.within.outs w x, h.symm.within.outs w x⟩
theorem Alike.fits {s t : Fst} (h : Alike s t) (w : List UInt8) : fitsB s w = fitsB t w := by
  rw [Bool.eq_iff_iff]; exact ⟨h.symm.within.fits w, h.within.fits w⟩

/-! ### What the laws look at -/
theorem same_run {α R : Type} {step : Nat → Option (Nat ⊕ R)} {y : R} (n : Nat) (hs : ∀ k, k < n → step k = some (.inl (k + 1))) (hd : step n = some (.inr y)) : iter step 0 = some y := iter_seq0 (fun k => k) n hs hd
theorem texts_refl (l : List (List UInt8)) : whittleref03_Texts l l = some true := by
  unfold whittleref03_Texts
  rw [decide_eq_false (by simp), iteO_false]
  refine same_run (α := Unit) l.length (fun k hk => ?_) ?_
  · simp only [whittleref03_Texts_b1, lt_dec hk, iteO_true, grd_mk hk, ne_eq, not_true_eq_false, decide_false, iteO_false]; rfl
  · simp only [whittleref03_Texts_b1, Int.lt_irrefl, decide_false, iteO_false]; rfl
theorem sameTips_refl (l : List Tip) : whittleref15_SameTips l l = some true := by
  unfold whittleref15_SameTips
  rw [decide_eq_false (by simp), iteO_false]
  refine same_run (α := Unit) l.length (fun k hk => ?_) ?_
  · simp only [whittleref15_SameTips_b1, lt_dec hk, iteO_true, grd_mk hk, not_true_eq_false, decide_false, iteO_false]; rfl
  · simp only [whittleref15_SameTips_b1, Int.lt_irrefl, decide_false, iteO_false]; rfl
theorem same_refl (t : Fst) : whittleref15_Same t t = some true := by
  unfold whittleref15_Same
  simp only [ne_eq, not_true_eq_false, decide_false, iteO_false, sameTips_refl, bnd, Option.bind_some, Bool.not_true]
  refine same_run (α := Unit) t.arcs.length (fun k hk => ?_) ?_
  · simp only [whittleref15_Same_b1, lt_dec hk, iteO_true, grd_mk hk, not_true_eq_false, decide_false, iteO_false]; rfl
  · simp only [whittleref15_Same_b1, Int.lt_irrefl, decide_false, iteO_false]; rfl
/-! ### What goes in -/
def inN (t : Fst) : Nfa := ⟨t.states, onceL 0 cmpI (t.starts.map Tip.state), onceL 0 cmpI (t.ends.map Tip.state), t.arcs.map fun a => ⟨a.frm, a.to, a.set⟩⟩
theorem states_eq {l : List Tip} (h : l.length ≤ 1024) : fst_states l = some (onceL 0 cmpI (l.map Tip.state)) := by
  unfold fst_states
  refine iter_fold (step := fun q : (List Int) × Nat => fst_states_b1 l q.1 q.2) l Tip.zero (fun k => (l.take k).map Tip.state) ?_ ?_
  · intro k hk
    simp only [fst_states_b1, lt_dec hk, iteO_true]
    rw [grd_mk (by simp only [List.length_map, List.length_take, List.length_singleton]; omega), take_snoc l hk Tip.zero, List.map_append]
    rfl
  · simp only [fst_states_b1, Int.lt_irrefl, decide_false, iteO_false, List.take_length]
    rw [onceI_eq (by rw [List.length_map]; omega)]; rfl
theorem in_eq (t : Fst) : fst_In t = some (if fstB t = true then (inN t, 0) else (⟨0, [], [], []⟩, 1)) := by
  unfold fst_In
  rw [fst_Check_eq, bnd, Option.bind_some, errB_ne]
  by_cases h : fstB t = true
  · have ht := (fstB_iff t).1 h
    have h3 := ht.arcsN
    rw [h, if_pos rfl, Bool.not_true, iteO_false]
    simp only [states_eq ht.startsN, states_eq ht.endsN, bnd, Option.bind_some]
    unfold fst_In_j1
    refine iter_fold (step := fun q : (List Arrow) × Nat => fst_In_b1 t (onceL 0 cmpI (t.starts.map Tip.state)) (onceL 0 cmpI (t.ends.map Tip.state)) q.1 q.2) t.arcs Arc.zero (fun k => (t.arcs.take k).map fun a => (⟨a.frm, a.to, a.set⟩ : Arrow)) ?_ ?_
    · intro k hk
      simp only [fst_In_b1, lt_dec hk, iteO_true]
      rw [grd_mk (by simp only [List.length_map, List.length_take, List.length_singleton]; omega), take_snoc t.arcs hk Arc.zero, List.map_append]
      rfl
    · simp only [fst_In_b1, Int.lt_irrefl, decide_false, iteO_false, List.take_length]; rfl
  · simp only [Bool.not_eq_true] at h
    rw [h]; rfl
end Go.Proofs.YtjhbngjhdmapmaaGreatDoor
end

/- PrW -/
section
/- The program's Trim, in plain words. Plain lemmas, no condition. -/
set_option linter.unusedVariables false
set_option linter.unusedSimpArgs false
namespace Go.Proofs.YtjhbngjhdmapmaaGreatDoor
open Go Go.E
set_option maxRecDepth 100000

theorem grp_len {β γ : Type} {key : β → Int} {val : β → γ} {n : Nat} {l : List (List γ)} {xs : List β} (h : Grp key val n l xs) {i : Nat} (hi : i < n) : (nth l i []).length ≤ xs.length := by
  rw [h.row i hi, List.length_map]; exact List.length_filter_le ..
theorem take_len_le {α : Type} (l : List α) (k : Nat) : (l.take k).length ≤ l.length := by rw [List.length_take]; omega
theorem useful_eq {t : Fst} (ht : FstOk t) : ∃ on bk, prune_useful t = some (t, on, bk) ∧ Grp Arc.frm Arc.to t.states.toNat on t.arcs ∧ Grp Arc.to Arc.frm t.states.toNat bk t.arcs := by
  have h0 := ht.st0
  have h1 := ht.st1
  have hN := ht.arcsN
  unfold prune_useful prune_useful_j1
  rw [grd_mk ⟨h0, by omega⟩, grd_mk ⟨h0, by omega⟩]
  obtain ⟨r, h2, on, bk, rfl, h3, h4⟩ := iter_for (step := fun q : List (List Int) × List (List Int) × Nat => prune_useful_b1 t q.1 q.2.1 q.2.2) (fun (s : List (List Int) × List (List Int)) k => (s.1, s.2, k)) t.arcs Arc.zero
    (fun pre s => Grp Arc.frm Arc.to t.states.toNat s.1 pre ∧ Grp Arc.to Arc.frm t.states.toNat s.2 pre)
    (fun r => ∃ on bk, r = (t, on, bk) ∧ Grp Arc.frm Arc.to t.states.toNat on t.arcs ∧ Grp Arc.to Arc.frm t.states.toNat bk t.arcs)
    (fun k s hk ⟨a1, a2⟩ => by
      obtain ⟨b1, b2, b3, b4⟩ := ht.arcs _ (mem_at Arc.zero hk)
      have l1 := a1.len
      have l2 := a2.len
      have r1 := grp_len a1 (i := (nth t.arcs k Arc.zero).frm.toNat) (by omega)
      have r2 := grp_len a2 (i := (nth t.arcs k Arc.zero).to.toNat) (by omega)
      have r3 := take_len_le t.arcs k
      refine .inl ⟨(s.1.set (nth t.arcs k Arc.zero).frm.toNat (nth s.1 (nth t.arcs k Arc.zero).frm.toNat [] ++ [(nth t.arcs k Arc.zero).to]), s.2.set (nth t.arcs k Arc.zero).to.toNat (nth s.2 (nth t.arcs k Arc.zero).to.toNat [] ++ [(nth t.arcs k Arc.zero).frm])), ?_, a1.snoc b1.1 (by omega), a2.snoc b2.1 (by omega)⟩
      show prune_useful_b1 t s.1 s.2 k = _
      unfold prune_useful_b1 prune_useful_j3 prune_useful_j2
      rw [iteO_dt (by omega), grd_mk ⟨b1.1, by omega⟩, grd_mk (by simp only [List.length_singleton]; omega), grd_mk ⟨b1.1, by omega⟩, grd_mk ⟨b2.1, by omega⟩, grd_mk (by simp only [List.length_singleton]; omega), grd_mk ⟨b2.1, by omega⟩]
      rfl)
    (fun s hI => ⟨(t, s.1, s.2), by
      show prune_useful_b1 t s.1 s.2 t.arcs.length = _
      unfold prune_useful_b1
      rw [iteO_df (by omega)]; rfl, s.1, s.2, rfl, hI.1, hI.2⟩)
    (s0 := (List.replicate t.states.toNat [], List.replicate t.states.toNat [])) ⟨Grp.nil .., Grp.nil ..⟩
  exact ⟨on, bk, h2, h3, h4⟩
theorem stE_on {t : Fst} (ht : FstOk t) {key val : Arc → Int} {l : List (List Int)} (h : Grp key val t.states.toNat l t.arcs) (hk : ∀ a ∈ t.arcs, 0 ≤ key a ∧ key a < t.states) : stE l = fun a b => ∃ x ∈ t.arcs, key x = a ∧ val x = b := by
  funext a b
  refine propext ⟨fun ⟨h0, hb⟩ => ?_, fun ⟨x, hx, h1, h2⟩ => ?_⟩
  · have hlt : a.toNat < t.states.toNat := by
      have := h.len
      by_cases hl : a.toNat < l.length
      · omega
      · unfold nth at hb
        rw [List.getD_eq_getElem?_getD, List.getElem?_eq_none (by omega)] at hb
        simp at hb
    rw [h.row _ hlt, List.mem_map] at hb
    obtain ⟨x, hx, e⟩ := hb
    have := List.mem_filter.1 hx
    exact ⟨x, this.1, by have := of_decide_eq_true this.2; omega, e⟩
  · have := hk x hx
    refine ⟨by omega, ?_⟩
    rw [h.row _ (by omega), List.mem_map]
    exact ⟨x, List.mem_filter.2 ⟨hx, decide_eq_true (by omega)⟩, h2⟩
theorem grp_rng {t : Fst} {key val : Arc → Int} {l : List (List Int)} (h : Grp key val t.states.toNat l t.arcs) (hk : ∀ a ∈ t.arcs, 0 ≤ val a ∧ val a < t.states) : ∀ a, ∀ z ∈ nth l a [], 0 ≤ z ∧ z < t.states.toNat := fun a z hz => by
  have hl := h.len
  by_cases ha : a < t.states.toNat
  · rw [h.row _ ha, List.mem_map] at hz
    obtain ⟨x, hx, rfl⟩ := hz
    have := hk x (List.mem_filter.1 hx).1
    omega
  · unfold nth at hz
    rw [List.getD_eq_getElem?_getD, List.getElem?_eq_none (by omega)] at hz
    simp at hz
/-- The numbers stand. -/
def NumOk (p : Nat → Bool) (n : Nat) (num : List Int) : Prop := num.length = n ∧ ∀ s : Int, 0 ≤ s → s < n → nth num s.toNat 0 = numB p s
theorem keepT_snoc (p : Nat → Bool) (l : List Tip) (k : Nat) (h : k < l.length) : keepT p (l.take (k + 1)) = keepT p (l.take k) ++ (if 0 ≤ numB p (nth l k Tip.zero).state then [⟨numB p (nth l k Tip.zero).state, (nth l k Tip.zero).out⟩] else []) := by
  rw [take_snoc l h Tip.zero]
  unfold keepT
  rw [List.filterMap_append]
  congr 1
  by_cases hc : 0 ≤ numB p (nth l k Tip.zero).state
  · rw [List.filterMap_cons, if_pos hc, if_pos hc]; rfl
  · rw [List.filterMap_cons, if_neg hc, if_neg hc]; rfl
theorem keepA_snoc (p : Nat → Bool) (l : List Arc) (k : Nat) (h : k < l.length) : keepA p (l.take (k + 1)) = keepA p (l.take k) ++ (if 0 ≤ numB p (nth l k Arc.zero).frm ∧ 0 ≤ numB p (nth l k Arc.zero).to then [⟨numB p (nth l k Arc.zero).frm, numB p (nth l k Arc.zero).to, (nth l k Arc.zero).set, (nth l k Arc.zero).out, (nth l k Arc.zero).copy⟩] else []) := by
  rw [take_snoc l h Arc.zero]
  unfold keepA
  rw [List.filterMap_append]
  congr 1
  by_cases hc : 0 ≤ numB p (nth l k Arc.zero).frm ∧ 0 ≤ numB p (nth l k Arc.zero).to
  · rw [List.filterMap_cons, if_pos hc, if_pos hc]; rfl
  · rw [List.filterMap_cons, if_neg hc, if_neg hc]; rfl
theorem trim_arcs {t : Fst} (ht : FstOk t) {p : Nat → Bool} {num : List Int} (hn : NumOk p t.states.toNat num) (c : Nat) (S E : List Tip) :
    iter (fun q : List Arc × Nat => prune_Trim_b4 t num c S E q.1 q.2) (([] : List Arc), 0) = bnd (fst_Sort ⟨(c : Int), S, E, keepA p t.arcs⟩) (fun v => some (v.1, v.2)) := by
  have hN := ht.arcsN
  obtain ⟨r, hr⟩ : ∃ r, bnd (fst_Sort ⟨(c : Int), S, E, keepA p t.arcs⟩) (fun v => some (v.1, v.2)) = some r := by rw [sort_eq]; exact ⟨_, rfl⟩
  rw [hr]
  refine iter_fold t.arcs Arc.zero (fun k => keepA p (t.arcs.take k)) (fun k hk => ?_) ?_
  · obtain ⟨b1, b2, b3, b4⟩ := ht.arcs _ (mem_at Arc.zero hk)
    have hl := keepA_len p (t.arcs.take k)
    have r3 := take_len_le t.arcs k
    have e1 := hn.2 _ b1.1 (by omega)
    have e2 := hn.2 _ b2.1 (by omega)
    have l1 := hn.1
    show prune_Trim_b4 t num c S E _ k = _
    unfold prune_Trim_b4 prune_Trim_j3
    rw [iteO_dt (by omega), grd_mk ⟨b1.1, by omega⟩, grd_mk ⟨b2.1, by omega⟩, e1, e2, keepA_snoc p _ k hk]
    by_cases c1 : 0 ≤ numB p (nth t.arcs k Arc.zero).frm
    · rw [iteO_dt c1]
      by_cases c2 : 0 ≤ numB p (nth t.arcs k Arc.zero).to
      · rw [iteO_dt c2, if_pos ⟨c1, c2⟩, grd_mk (by simp only [List.length_singleton]; omega)]; rfl
      · rw [iteO_df c2, if_neg (fun h => c2 h.2), List.append_nil]; rfl
    · rw [iteO_df c1, if_neg (fun h => c1 h.1), List.append_nil]; rfl
  · show prune_Trim_b4 t num c S E _ _ = _
    unfold prune_Trim_b4
    rw [iteO_df (by omega), List.take_length, hr]; rfl
theorem trim_ends {t : Fst} (ht : FstOk t) {p : Nat → Bool} {num : List Int} (hn : NumOk p t.states.toNat num) (c : Nat) (S : List Tip) :
    iter (fun q : List Tip × Nat => prune_Trim_b3 t num c S q.1 q.2) (([] : List Tip), 0) = bnd (fst_Sort ⟨(c : Int), S, keepT p t.ends, keepA p t.arcs⟩) (fun v => some (v.1, v.2)) := by
  have hN := ht.endsN
  obtain ⟨r, hr⟩ : ∃ r, bnd (fst_Sort ⟨(c : Int), S, keepT p t.ends, keepA p t.arcs⟩) (fun v => some (v.1, v.2)) = some r := by rw [sort_eq]; exact ⟨_, rfl⟩
  rw [hr]
  refine iter_fold t.ends Tip.zero (fun k => keepT p (t.ends.take k)) (fun k hk => ?_) ?_
  · obtain ⟨b1, b2⟩ := ht.ends _ (mem_at Tip.zero hk)
    have hl := keepT_len p (t.ends.take k)
    have r3 := take_len_le t.ends k
    have e1 := hn.2 _ b1.1 (by omega)
    have l1 := hn.1
    show prune_Trim_b3 t num c S _ k = _
    unfold prune_Trim_b3 prune_Trim_j2
    rw [iteO_dt (by omega), grd_mk ⟨b1.1, by omega⟩, e1, keepT_snoc p _ k hk]
    by_cases c1 : 0 ≤ numB p (nth t.ends k Tip.zero).state
    · rw [iteO_dt c1, if_pos c1, grd_mk (by simp only [List.length_singleton]; omega)]; rfl
    · rw [iteO_df c1, if_neg c1, List.append_nil]; rfl
  · show prune_Trim_b3 t num c S _ _ = _
    unfold prune_Trim_b3
    rw [iteO_df (by omega), List.take_length, trim_arcs ht hn, hr]; rfl
theorem trim_starts {t : Fst} (ht : FstOk t) {p : Nat → Bool} {num : List Int} (hn : NumOk p t.states.toNat num) (c : Nat) :
    iter (fun q : List Tip × Nat => prune_Trim_b2 t num c q.1 q.2) (([] : List Tip), 0) = bnd (fst_Sort ⟨(c : Int), keepT p t.starts, keepT p t.ends, keepA p t.arcs⟩) (fun v => some (v.1, v.2)) := by
  have hN := ht.startsN
  obtain ⟨r, hr⟩ : ∃ r, bnd (fst_Sort ⟨(c : Int), keepT p t.starts, keepT p t.ends, keepA p t.arcs⟩) (fun v => some (v.1, v.2)) = some r := by rw [sort_eq]; exact ⟨_, rfl⟩
  rw [hr]
  refine iter_fold t.starts Tip.zero (fun k => keepT p (t.starts.take k)) (fun k hk => ?_) ?_
  · obtain ⟨b1, b2⟩ := ht.starts _ (mem_at Tip.zero hk)
    have hl := keepT_len p (t.starts.take k)
    have r3 := take_len_le t.starts k
    have e1 := hn.2 _ b1.1 (by omega)
    have l1 := hn.1
    show prune_Trim_b2 t num c _ k = _
    unfold prune_Trim_b2 prune_Trim_j1
    rw [iteO_dt (by omega), grd_mk ⟨b1.1, by omega⟩, e1, keepT_snoc p _ k hk]
    by_cases c1 : 0 ≤ numB p (nth t.starts k Tip.zero).state
    · rw [iteO_dt c1, if_pos c1, grd_mk (by simp only [List.length_singleton]; omega)]; rfl
    · rw [iteO_df c1, if_neg c1, List.append_nil]; rfl
  · show prune_Trim_b2 t num c _ _ = _
    unfold prune_Trim_b2
    rw [iteO_df (by omega), List.take_length, trim_ends ht hn, hr]; rfl
/-- The rounds that number what is of use. -/
theorem number_eq {t : Fst} (ht : FstOk t) {on bk : List (List Int)} (h1 : Grp Arc.frm Arc.to t.states.toNat on t.arcs) (h2 : Grp Arc.to Arc.frm t.states.toNat bk t.arcs) {l0 : List Int} (hl0 : l0.length = t.states.toNat) (hm : ∀ i, i < t.states.toNat → nth l0 i 0 = -1) :
    ∃ num, prune_useful_1 (stepY (fun (q : List Int × Nat) (x : Int) => prune_Trim_r4 q.1 q.2 x)) (0, (l0, 0)) (⟨t.states, t.starts, t.ends, t.arcs⟩ : Fst) on bk = some (0, (num, cntB (useB t) t.states.toNat)) ∧ NumOk (useB t) t.states.toNat num := by
  have h0 := ht.st0
  have hs1 := ht.st1
  obtain ⟨ah, a1, a2, a3⟩ := reach_ok (tips := t.starts) (by omega) h1.len (grp_rng h1 fun a ha => (ht.arcs a ha).2.1) (fun x hx => by have := (ht.starts x hx).1; omega)
  obtain ⟨be, b1, b2, b3⟩ := reach_ok (tips := t.ends) (by omega) h2.len (grp_rng h2 fun a ha => (ht.arcs a ha).1) (fun x hx => by have := (ht.ends x hx).1; omega)
  rw [stE_on ht h1 fun a ha => (ht.arcs a ha).1] at a3
  rw [stE_on ht h2 fun a ha => (ht.arcs a ha).2.1] at b3
  have hp : ∀ v, useB t v = (nth ah v false && nth be v false) := fun v => by
    rw [Bool.eq_iff_iff, Bool.and_eq_true, a3 v, b3 v]; exact useB_iff
  unfold prune_useful_1
  rw [bnd_some a1, bnd_some b1]
  obtain ⟨r, e, f⟩ := iter_up (step := fun q : Nat × (Nat × List Int × Nat) => prune_useful_1_b1 ah be (stepY (fun (q : List Int × Nat) (x : Int) => prune_Trim_r4 q.1 q.2 x)) q.1 q.2) (fun (s : Nat × List Int × Nat) k => (k, s)) t.states.toNat
    (fun k s => s.1 = 0 ∧ s.2.2 = cntB (useB t) k ∧ s.2.1.length = t.states.toNat ∧ ∀ i, i < t.states.toNat → nth s.2.1 i 0 = if i < k then numB (useB t) i else -1)
    (fun r => r.1 = 0 ∧ r.2.2 = cntB (useB t) t.states.toNat ∧ NumOk (useB t) t.states.toNat r.2.1)
    (fun k s hk ⟨c1, c2, c3, c4⟩ => by
      obtain ⟨j, l, c⟩ := s
      obtain rfl : j = 0 := c1
      obtain rfl : c = cntB (useB t) k := c2
      dsimp only at c3 c4
      refine .inl ?_
      show ∃ s' : Nat × List Int × Nat, prune_useful_1_b1 ah be _ k (0, l, cntB (useB t) k) = _ ∧ _
      unfold prune_useful_1_b1 prune_useful_1_j1
      rw [iteO_dt (by omega)]
      have hk' := hp k
      cases ha : nth ah k false with
      | false =>
        rw [ha, Bool.false_and] at hk'
        refine ⟨(0, l, cntB (useB t) k), rfl, rfl, by simp only [cntB, hk']; rfl, c3, fun i hi => ?_⟩
        dsimp only
        rw [c4 i hi]
        by_cases e1 : i < k
        · rw [if_pos e1, if_pos (by omega)]
        · rw [if_neg e1]
          by_cases e2 : i < k + 1
          · obtain rfl : i = k := by omega
            rw [if_pos e2]; unfold numB; simp [hk']
          · rw [if_neg e2]
      | true =>
        rw [iteO_true, grd_mk (by omega)]
        cases hb : nth be k false with
        | false =>
          rw [ha, hb, Bool.true_and] at hk'
          refine ⟨(0, l, cntB (useB t) k), rfl, rfl, by simp only [cntB, hk']; rfl, c3, fun i hi => ?_⟩
          dsimp only
          rw [c4 i hi]
          by_cases e1 : i < k
          · rw [if_pos e1, if_pos (by omega)]
          · rw [if_neg e1]
            by_cases e2 : i < k + 1
            · obtain rfl : i = k := by omega
              rw [if_pos e2]; unfold numB; simp [hk']
            · rw [if_neg e2]
        | true =>
          rw [ha, hb, Bool.true_and] at hk'
          have hy : stepY (fun (q : List Int × Nat) (x : Int) => prune_Trim_r4 q.1 q.2 x) (0, l, cntB (useB t) k) ((k : Nat) : Int) = some ((0, l.set k ((cntB (useB t) k : Nat) : Int), cntB (useB t) k + 1), true) := by
            unfold stepY
            rw [if_pos rfl]
            show (prune_Trim_r4 l (cntB (useB t) k) ((k : Nat) : Int)).bind _ = _
            unfold prune_Trim_r4
            have hself := cntB_self (useB t) k
            rw [grd_mk ⟨by omega, by omega⟩, grd_mk (by omega)]; rfl
          rw [iteO_true, bnd_some hy]
          refine ⟨(0, l.set k ((cntB (useB t) k : Nat) : Int), cntB (useB t) k + 1), rfl, rfl, by simp only [cntB, hk', if_true], by rw [List.length_set]; exact c3, fun i hi => ?_⟩
          dsimp only
          rw [nth_set]
          by_cases e1 : k = i
          · subst e1
            rw [if_pos ⟨rfl, by omega⟩, if_pos (by omega), numB_pos (by simpa using hk')]; simp
          · rw [if_neg (fun h => e1 h.1), c4 i hi]
            by_cases e2 : i < k
            · rw [if_pos e2, if_pos (by omega)]
            · rw [if_neg e2, if_neg (by omega)])
    (fun s ⟨c1, c2, c3, c4⟩ => ⟨s, by
      show prune_useful_1_b1 ah be _ _ s = _
      unfold prune_useful_1_b1
      rw [iteO_df (by omega)]; rfl, c1, c2, c3, fun v h1 h2 => by
        rw [c4 _ (by omega), if_pos (by omega), show ((v.toNat : Nat) : Int) = v by omega]⟩)
    (s0 := (0, l0, 0)) ⟨rfl, rfl, hl0, fun i hi => by rw [if_neg (by omega)]; exact hm i hi⟩
  obtain ⟨j, num, c⟩ := r
  obtain ⟨f1, f2, f3⟩ := f
  dsimp only at f1 f2 f3
  subst f1 f2
  exact ⟨num, e, f3⟩
/-- Trim, in plain words. -/
noncomputable def trimD (t : Fst) : Fst := srt (keepF (useB t) t)
theorem ok_rng {t : Fst} (ht : FstOk t) : Rng t := ⟨fun x hx => (ht.starts x hx).1, fun x hx => (ht.ends x hx).1, fun x hx => ⟨(ht.arcs x hx).1, (ht.arcs x hx).2.1⟩⟩
theorem keep_ok {t : Fst} (ht : FstOk t) : FstOk (keepF (useB t) t) := by
  have hr := keep_rng (t := t) (r := keepF (useB t) t) (fun _ => Iff.rfl) (fun _ => Iff.rfl) (fun _ => Iff.rfl) rfl (ok_rng ht)
  have h1 := ht.st1
  have hc := cntB_self (useB t) t.states.toNat
  have l1 := keepT_len (useB t) t.starts
  have l2 := keepT_len (useB t) t.ends
  have l3 := keepA_len (useB t) t.arcs
  refine ⟨by show (0 : Int) ≤ ((cntB (useB t) t.states.toNat : Nat) : Int); omega, by have := ht.st0; show ((cntB (useB t) t.states.toNat : Nat) : Int) ≤ 1024; omega, Nat.le_trans l3 ht.arcsN, Nat.le_trans l1 ht.startsN, Nat.le_trans l2 ht.endsN, fun y hy => ⟨hr.starts y hy, ?_⟩, fun y hy => ⟨hr.ends y hy, ?_⟩, fun y hy => ⟨(hr.arcs y hy).1, (hr.arcs y hy).2, ?_⟩⟩
  · obtain ⟨x, hx, _, rfl⟩ := mem_keepT.1 hy; exact (ht.starts x hx).2
  · obtain ⟨x, hx, _, rfl⟩ := mem_keepT.1 hy; exact (ht.ends x hx).2
  · obtain ⟨x, hx, _, _, rfl⟩ := mem_keepA.1 hy; exact (ht.arcs x hx).2.2
theorem trim_eq (t : Fst) : prune_Trim t = some (if fstB t = true then (trimD t, 0) else (⟨0, [], [], []⟩, 1)) := by
  unfold prune_Trim
  rw [fst_Check_eq, bnd, Option.bind_some, errB_ne]
  by_cases h : fstB t = true
  · have ht := (fstB_iff t).1 h
    have h0 := ht.st0
    have h1 := ht.st1
    rw [h, Bool.not_true, iteO_false, grd_mk ⟨h0, by omega⟩, if_pos rfl]
    obtain ⟨r, e, rfl⟩ := iter_up (step := fun q : List Int × Nat => prune_Trim_b1 t q.1 q.2) (fun (l : List Int) k => (l, k)) t.states.toNat
      (fun k l => l.length = t.states.toNat ∧ ∀ i, i < k → nth l i 0 = -1) (fun r => r = (trimD t, 0))
      (fun k l hk ⟨c1, c2⟩ => .inl ⟨l.set k (-1), by
        show prune_Trim_b1 t l k = _
        unfold prune_Trim_b1
        rw [List.length_replicate, iteO_dt (by omega), grd_mk (by omega)]; rfl, by rw [List.length_set]; exact c1, fun i hi => by
          rw [nth_set]
          by_cases e1 : k = i
          · rw [if_pos ⟨e1, by omega⟩]
          · rw [if_neg (fun h => e1 h.1)]; exact c2 i (by omega)⟩)
      (fun l ⟨c1, c2⟩ => ⟨(trimD t, 0), by
        obtain ⟨on, bk, u1, u2, u3⟩ := useful_eq ht
        obtain ⟨num, v1, v2⟩ := number_eq ht u2 u3 c1 c2
        show prune_Trim_b1 t l _ = _
        unfold prune_Trim_b1
        rw [List.length_replicate, iteO_df (by omega), bnd_some u1]
        dsimp only
        rw [bnd_some v1]
        unfold prune_Trim_k4
        show fin (iter _ _) = _
        rw [trim_starts ht v2, sort_eq]
        show fin (bnd (some (if fstB (keepF (useB t) t) = true then (srt (keepF (useB t) t), 0) else _)) _) = _
        rw [if_pos ((fstB_iff _).2 (keep_ok ht))]; rfl, rfl⟩)
      (s0 := List.replicate t.states.toNat 0) ⟨List.length_replicate .., fun i hi => by omega⟩
    exact e
  · simp only [Bool.not_eq_true] at h
    rw [h]; rfl
theorem trimD_ok {t : Fst} (ht : FstOk t) : FstOk (trimD t) := srt_ok (keep_ok ht)
theorem trim_again {t : Fst} (ht : FstOk t) : trimD (trimD t) = trimD t := by
  have h := srt_alike (keepF (useB t) t)
  have := keep_again (t := t) (r := trimD t) (ok_rng ht) h.starts h.ends h.arcs h.states
  show srt (keepF (useB (trimD t)) (trimD t)) = trimD t
  rw [this]; exact srt_srt _
end Go.Proofs.YtjhbngjhdmapmaaGreatDoor
end

/- RelP -/
section
/- What a transducer relates a text to, told by ways. Plain lemmas, no condition. -/
set_option linter.unusedVariables false
set_option linter.unusedSimpArgs false
namespace Go.Proofs.YtjhbngjhdmapmaaGreatDoor
open Go Go.E
set_option maxRecDepth 100000

/-- What comes out of an arc by a byte. -/
def em (a : Arc) (b : UInt8) : List UInt8 := if a.copy then a.out ++ [b] else a.out
theorem outOf_em (p : FPair) (a : Arc) (b : UInt8) : outOf p a b = p.out ++ em a b := by
  unfold outOf em; split <;> simp
/-- A way by a text, from a state to a state, with what comes out. -/
inductive Wy (t : Fst) : Int → List UInt8 → List UInt8 → Int → Prop
  | nil (s : Int) : Wy t s [] [] s
  | cons {w o : List UInt8} {q : Int} (a : Arc) (b : UInt8) : a ∈ t.arcs → a.set.has b.toNat = true → Wy t a.to w o q → Wy t a.frm (b :: w) (em a b ++ o) q
theorem Wy.nil_inv {t : Fst} {s q : Int} {o : List UInt8} (h : Wy t s [] o q) : o = [] ∧ q = s := by
  cases h; exact ⟨rfl, rfl⟩
theorem Wy.cons_inv {t : Fst} {s q : Int} {b : UInt8} {w o : List UInt8} (h : Wy t s (b :: w) o q) : ∃ a ∈ t.arcs, a.frm = s ∧ a.set.has b.toNat = true ∧ ∃ o', Wy t a.to w o' q ∧ o = em a b ++ o' := by
  cases h with
  | cons a b ha hb hw => exact ⟨a, ha, rfl, hb, _, hw, rfl⟩
theorem Wy.append {t : Fst} {s m q : Int} {u v o p : List UInt8} (h : Wy t s u o m) (k : Wy t m v p q) : Wy t s (u ++ v) (o ++ p) q := by
  induction h with
  | nil s => exact k
  | cons a b ha hb _ ih => rw [List.append_assoc]; exact .cons a b ha hb (ih k)
theorem Wy.split {t : Fst} : ∀ {u v o : List UInt8} {s q : Int}, Wy t s (u ++ v) o q → ∃ m o1 o2, Wy t s u o1 m ∧ Wy t m v o2 q ∧ o = o1 ++ o2
  | [], v, o, s, q, h => ⟨s, [], o, .nil s, h, rfl⟩
  | b :: u, v, o, s, q, h => by
    obtain ⟨a, ha, rfl, hb, o', hw, rfl⟩ := Wy.cons_inv h
    obtain ⟨m, o1, o2, h1, h2, rfl⟩ := Wy.split hw
    exact ⟨m, em a b ++ o1, o2, .cons a b ha hb h1, h2, by rw [List.append_assoc]⟩
theorem Wy.one {t : Fst} {a : Arc} {b : UInt8} (ha : a ∈ t.arcs) (hb : a.set.has b.toNat = true) : Wy t a.frm [b] (em a b) a.to := by
  have := Wy.cons a b ha hb (.nil a.to)
  rwa [List.append_nil] at this
theorem mem_pairs {t : Fst} (w : List UInt8) : ∀ q, q ∈ pairsL t w ↔ ∃ x ∈ t.starts, ∃ o, Wy t x.state w o q.state ∧ q.out = x.out ++ o := by
  induction w using rev_ind with
  | h0 =>
    intro q
    show q ∈ t.starts.map tp ↔ _
    rw [List.mem_map]
    constructor
    · rintro ⟨x, hx, rfl⟩; exact ⟨x, hx, [], .nil _, by simp [tp]⟩
    · rintro ⟨x, hx, o, hw, ho⟩
      obtain ⟨rfl, e⟩ := hw.nil_inv
      refine ⟨x, hx, ?_⟩
      obtain ⟨s, z⟩ := q
      rw [List.append_nil] at ho
      dsimp only at e ho
      subst e ho; rfl
  | h1 w b ih =>
    intro q
    rw [pairsL_snoc, mem_aftP]
    constructor
    · rintro ⟨p, hp, a, ha, h1, h2, rfl⟩
      obtain ⟨x, hx, o, hw, ho⟩ := (ih p).1 hp
      refine ⟨x, hx, o ++ em a b, ?_, ?_⟩
      · rw [← h1] at hw
        exact hw.append (Wy.one ha h2)
      · show outOf p a b = _
        rw [outOf_em, ho, List.append_assoc]
    · rintro ⟨x, hx, o, hw, ho⟩
      obtain ⟨m, o1, o2, h1, h2, rfl⟩ := hw.split
      obtain ⟨a, ha, e, hb, o', h3, rfl⟩ := h2.cons_inv
      obtain ⟨rfl, e2⟩ := h3.nil_inv
      refine ⟨⟨m, x.out ++ o1⟩, (ih _).2 ⟨x, hx, o1, h1, rfl⟩, a, ha, e, hb, ?_⟩
      obtain ⟨s, z⟩ := q
      dsimp only at e2 ho
      rw [outOf_em, e2, ho, List.append_nil]
      simp
/-- Relates it a text to another one? -/
def Rel (t : Fst) (w o : List UInt8) : Prop := ∃ x ∈ t.starts, ∃ e ∈ t.ends, ∃ m, Wy t x.state w m e.state ∧ o = x.out ++ (m ++ e.out)
theorem mem_outs_rel {t : Fst} {w o : List UInt8} : o ∈ outsL t w ↔ Rel t w o := by
  rw [mem_outsL]
  constructor
  · rintro ⟨p, hp, e, he, h1, rfl⟩
    obtain ⟨x, hx, m, hw, ho⟩ := (mem_pairs w p).1 hp
    exact ⟨x, hx, e, he, m, by rw [h1]; exact hw, by rw [ho, List.append_assoc]⟩
  · rintro ⟨x, hx, e, he, m, hw, rfl⟩
    exact ⟨⟨e.state, x.out ++ m⟩, (mem_pairs w _).2 ⟨x, hx, m, hw, rfl⟩, e, he, rfl, by rw [List.append_assoc]⟩
theorem outs_rel {s t : Fst} {w v : List UInt8} (h : ∀ o, Rel s w o ↔ Rel t v o) : outsL s w = outsL t v :=
  rising_eq cmpB_good (outsL_rise s w) (outsL_rise t v) fun o => by rw [mem_outs_rel, mem_outs_rel]; exact h o
/-! ### States numbered anew -/
theorem Wy.map {t T : Fst} (f : Int → Int) (h : ∀ a ∈ t.arcs, (⟨f a.frm, f a.to, a.set, a.out, a.copy⟩ : Arc) ∈ T.arcs) {s q : Int} {w o : List UInt8} (k : Wy t s w o q) : Wy T (f s) w o (f q) := by
  induction k with
  | nil s => exact .nil _
  | cons a b ha hb _ ih => exact Wy.cons (⟨f a.frm, f a.to, a.set, a.out, a.copy⟩ : Arc) b (h a ha) hb ih
end Go.Proofs.YtjhbngjhdmapmaaGreatDoor
end

/- RelK -/
section
/- What two transducers relate, put together. Plain lemmas, no condition. -/
set_option linter.unusedVariables false
set_option linter.unusedSimpArgs false
namespace Go.Proofs.YtjhbngjhdmapmaaGreatDoor
open Go Go.E
set_option maxRecDepth 100000

/-! ### One or the other -/
theorem card_map {K : Type} [DecidableEq K] {S T : List K} (f : K → K) (hf : ∀ x ∈ S, ∀ y ∈ S, f x = f y → x = y) (h : ∀ x ∈ S, f x ∈ T) : card S ≤ card T := by
  obtain ⟨l, h1, h2, h3⟩ := FM.ofL_len S
  obtain ⟨m, h4, h5, h6⟩ := FM.ofL_len T
  rw [← h3, ← h6]
  have := len_of_sub (l := l.map f) (m := m) (by
    rw [List.nodup_iff_pairwise_ne, List.pairwise_map]
    exact (List.nodup_iff_pairwise_ne.1 h1).imp_of_mem fun {x y} hx hy hne e => hne (hf x ((h2 x).1 hx) y ((h2 y).1 hy) e)) (fun x hx => by
    obtain ⟨y, hy, rfl⟩ := List.mem_map.1 hx
    exact (h5 _).2 (h y ((h2 y).1 hy)))
  rwa [List.length_map] at this
/-! ### One behind the other -/
/-! ### Again and again -/
end Go.Proofs.YtjhbngjhdmapmaaGreatDoor
end

/- PrF -/
section
/- A trimmed transducer relates as ever. Plain lemmas, no condition. -/
set_option linter.unusedVariables false
set_option linter.unusedSimpArgs false
namespace Go.Proofs.YtjhbngjhdmapmaaGreatDoor
open Go Go.E
set_option maxRecDepth 100000

theorem card_rel {K : Type} [DecidableEq K] {S T : List K} (R : K → K → Prop) (h : ∀ x ∈ S, ∃ y ∈ T, R x y) (hi : ∀ x x' y, R x y → R x' y → x = x') : card S ≤ card T := by
  have hc : ∃ f : K → K, ∀ x ∈ S, f x ∈ T ∧ R x (f x) := by
    refine ⟨fun x => if h0 : x ∈ S then (h x h0).choose else x, fun x hx => ?_⟩
    dsimp only
    rw [dif_pos hx]; exact (h x hx).choose_spec
  obtain ⟨f, hf⟩ := hc
  exact card_map f (fun x hx y hy e => hi x y (f x) (hf x hx).2 (by rw [e]; exact (hf y hy).2)) (fun x hx => (hf x hx).1)
theorem Alike.rel {s t : Fst} (h : Alike s t) (w o : List UInt8) : Rel s w o ↔ Rel t w o := by
  rw [← mem_outs_rel, ← mem_outs_rel, h.outs]
theorem Wy.coreach {t : Fst} {s q : Int} {w o : List UInt8} (h : Wy t s w o q) (hq : Rch (enS t) (arB t) q) : Rch (enS t) (arB t) s := by
  induction h with
  | nil => exact hq
  | cons a b ha hb _ ih => exact .step (ih hq) ⟨a, ha, rfl, rfl⟩
theorem use_at {t : Fst} {a : Int} (h0 : 0 ≤ a) (h : Use t a) : useB t a.toNat = true := useB_iff.2 (by rw [show ((a.toNat : Nat) : Int) = a by omega]; exact h)
theorem keep_way {t : Fst} (ht : Rng t) {s q : Int} {w o : List UInt8} (h : Wy t s w o q) (hs : Rch (onS t) (arE t) s) (hq : Rch (enS t) (arB t) q) : Wy (keepF (useB t) t) (numB (useB t) s) w o (numB (useB t) q) := by
  induction h with
  | nil s => exact .nil _
  | @cons w o q a b ha hb hw ih =>
    have h1 : Rch (onS t) (arE t) a.to := .step hs ⟨a, ha, rfl, rfl⟩
    have h2 := hw.coreach hq
    have h3 : Rch (enS t) (arB t) a.frm := .step h2 ⟨a, ha, rfl, rfl⟩
    have hr := ht.arcs a ha
    exact Wy.cons (t := keepF (useB t) t) (⟨numB (useB t) a.frm, numB (useB t) a.to, a.set, a.out, a.copy⟩ : Arc) b (mem_keepA.2 ⟨a, ha, use_at hr.1.1 ⟨hs, h3⟩, use_at hr.2.1 ⟨h1, h2⟩, rfl⟩) hb (ih h1 hq)
theorem keep_back {t : Fst} (ht : Rng t) {p : Nat → Bool} {s' q' : Int} {w o : List UInt8} (h : Wy (keepF p t) s' w o q') : ∀ s : Int, 0 ≤ s → p s.toNat = true → s' = numB p s → ∃ q : Int, 0 ≤ q ∧ p q.toNat = true ∧ q' = numB p q ∧ Wy t s w o q := by
  induction h with
  | nil s' => exact fun s h0 h1 h2 => ⟨s, h0, h1, h2, .nil s⟩
  | @cons w o q' a b ha hb hw ih =>
    intro s h0 h1 h2
    obtain ⟨x, hx, h3, h4, rfl⟩ := mem_keepA.1 ha
    dsimp only at h2 ih hb
    have hr := ht.arcs x hx
    obtain rfl := numB_inj hr.1.1 h0 h3 h1 h2
    obtain ⟨q, k0, k1, k2, k3⟩ := ih x.to hr.2.1 h4 rfl
    exact ⟨q, k0, k1, k2, Wy.cons x b hx hb k3⟩
theorem rel_keep {t : Fst} (ht : Rng t) {w o : List UInt8} : Rel (keepF (useB t) t) w o ↔ Rel t w o := by
  constructor
  · rintro ⟨x', hx', e', he', m, hw, rfl⟩
    obtain ⟨x, hx, h1, rfl⟩ := mem_keepT.1 hx'
    obtain ⟨e, he, h2, rfl⟩ := mem_keepT.1 he'
    obtain ⟨q, k0, k1, k2, k3⟩ := keep_back ht hw x.state (ht.starts x hx).1 h1 rfl
    dsimp only at k2
    obtain rfl := numB_inj (ht.ends e he).1 k0 h2 k1 k2
    exact ⟨x, hx, e, he, m, k3, rfl⟩
  · rintro ⟨x, hx, e, he, m, hw, rfl⟩
    have h1 : Rch (onS t) (arE t) x.state := .base ⟨x, hx, rfl⟩
    have h2 : Rch (enS t) (arB t) e.state := .base ⟨e, he, rfl⟩
    have h3 := hw.coreach h2
    have h4 : Rch (onS t) (arE t) e.state := by
      have : ∀ {s q : Int} {w o : List UInt8}, Wy t s w o q → Rch (onS t) (arE t) s → Rch (onS t) (arE t) q := fun h => by
        induction h with
        | nil => exact id
        | cons a b ha hb _ ih => exact fun h => ih (.step h ⟨a, ha, rfl, rfl⟩)
      exact this hw h1
    exact ⟨_, mem_keepT.2 ⟨x, hx, use_at (ht.starts x hx).1 ⟨h1, h3⟩, rfl⟩, _, mem_keepT.2 ⟨e, he, use_at (ht.ends e he).1 ⟨h4, h2⟩, rfl⟩, m, keep_way ht hw h1 h2, rfl⟩
theorem rel_trim {t : Fst} (ht : FstOk t) {w o : List UInt8} : Rel (trimD t) w o ↔ Rel t w o :=
  ((srt_alike (keepF (useB t) t)).rel w o).trans (rel_keep (ok_rng ht))
theorem outs_trim {t : Fst} (ht : FstOk t) (w : List UInt8) : outsL (trimD t) w = outsL t w := outs_rel fun _ => rel_trim ht
theorem keep_card {t : Fst} (ht : Rng t) (w : List UInt8) : card (pairsL (keepF (useB t) t) w) ≤ card (pairsL t w) := by
  refine card_rel (fun x y => 0 ≤ y.state ∧ useB t y.state.toNat = true ∧ x = ⟨numB (useB t) y.state, y.out⟩) (fun z hz => ?_) (fun x x' y h1 h2 => h1.2.2.trans h2.2.2.symm)
  obtain ⟨x', hx', m, hw, ho⟩ := (mem_pairs w z).1 hz
  obtain ⟨x, hx, h1, rfl⟩ := mem_keepT.1 hx'
  obtain ⟨q, k0, k1, k2, k3⟩ := keep_back ht hw x.state (ht.starts x hx).1 h1 rfl
  refine ⟨⟨q, z.out⟩, (mem_pairs w _).2 ⟨x, hx, m, k3, ho⟩, k0, k1, ?_⟩
  obtain ⟨s, o⟩ := z
  dsimp only at k2 ⊢
  rw [k2]
theorem fits_trim {t : Fst} (ht : FstOk t) (w : List UInt8) (h : fitsB t w = true) : fitsB (trimD t) w = true := by
  rw [show fitsB (trimD t) w = fitsB (keepF (useB t) t) w from (srt_alike (keepF (useB t) t)).fits w]
  rw [fitsB, List.all_eq_true] at *
  intro k hk
  have := h k hk
  rw [decide_eq_true_eq] at *
  exact Nat.le_trans (keep_card (ok_rng ht) _) this
end Go.Proofs.YtjhbngjhdmapmaaGreatDoor
end

/- Nfa3 -/
section
/- Contracts of package nfa, part three: automatons of texts and sets. -/
set_option linter.unusedVariables false
set_option linter.unusedSimpArgs false
namespace Go.Proofs.YtjhbngjhdmapmaaGreatDoor
open Go Go.E
set_option maxRecDepth 100000

end Go.Proofs.YtjhbngjhdmapmaaGreatDoor
end

/- Nfa4 -/
section
/- Contracts of package nfa, part four: joined and repeated. -/
set_option linter.unusedVariables false
set_option linter.unusedSimpArgs false
namespace Go.Proofs.YtjhbngjhdmapmaaGreatDoor
open Go Go.E
set_option maxRecDepth 100000

end Go.Proofs.YtjhbngjhdmapmaaGreatDoor
end

/- Nfa5 -/
section
/- Contracts of package nfa, part five: again and again. -/
set_option linter.unusedVariables false
set_option linter.unusedSimpArgs false
namespace Go.Proofs.YtjhbngjhdmapmaaGreatDoor
open Go Go.E
set_option maxRecDepth 100000

end Go.Proofs.YtjhbngjhdmapmaaGreatDoor
end

/- Data5 -/
section
/- More of the program's data: automatons that go one way. No program, no condition. -/
set_option linter.unusedVariables false
set_option linter.unusedSimpArgs false
namespace Go.E
open Go

structure Dfa where
  cls : List Int
  next : List (List Int)
  fin : List Bool
def Dfa.zero : Dfa := ⟨[], [], []⟩
structure DfaP where
  a1 : Option Addr
  c1 : Nat
  a2 : Option Addr
  c2 : Nat
  a3 : Option Addr
  c3 : Nat
def DfaP.zero : DfaP := ⟨none, 0, none, 0, none, 0⟩
structure RDfa (σ : Store) (x : Dfa) (p : DfaP) : Prop where
  c : RS σ 1 Go.E.encI (.slice p.a1 x.cls.length p.c1) x.cls
  n : RZ σ (pkSl 1 Go.E.encI encI_len) (.slice p.a2 x.next.length p.c2) x.next
  e : RS σ 1 encB (.slice p.a3 x.fin.length p.c3) x.fin
end Go.E
end

/- Glb -/
section
/- Tables of the program's own that nobody turns. Plain lemmas over any program; no condition. -/
set_option linter.unusedVariables false
set_option linter.unusedSimpArgs false
namespace Go.E
open Go

/-- A table lies in the sealed store. -/
def GT {α : Type} (σ : Store) (g : Nat) (enc : α → List Value) (l : List α) : Prop := ∃ E, σ g = some (.cells (l.flatMap enc).toArray E)
theorem GT.mono {α : Type} {σ τ : Store} {g : Nat} {enc : α → List Value} {l : List α} (h : GT σ g enc l) (hle : σ.le τ) : GT τ g enc l := let ⟨E, h⟩ := h; ⟨E, hle _ _ h⟩
theorem flat_one {α : Type} {enc : α → List Value} (hl : ∀ x, (enc x).length = 1) (d : α) : ∀ (l : List α) (i : Nat), i < l.length → (l.flatMap enc)[i]? = (enc (nth l i d))[0]?
  | [], i, h => by simp at h
  | x :: l, 0, _ => by
    have := hl x
    rw [List.flatMap_cons, List.getElem?_append_left (by omega)]
    simp [nth]
  | x :: l, i + 1, h => by
    have h1 := hl x
    rw [List.flatMap_cons, List.getElem?_append_right (by omega), h1, Nat.add_sub_cancel, flat_one hl d l i (by simpa using h)]
    simp [nth]
theorem OpVal.loadG1 {P : Program} {n : Nat} {e : Env} {σ : Store} {H : List Res} {o : Oper} {x : Operand} {α : Type} {T g i : Nat} {enc : α → List Value} {l : List α} {v : Value} (d : α) (ho : o.op = .load T x) (hA : aggOf P T = some false) (hx : ev e x = loc g (0 + i * 1)) (hG : GT σ g enc l) (hi : i < l.length) (hl : ∀ x, (enc x).length = 1) (hv : enc (nth l i d) = [v]) : OpVal P n o e σ H v := fun w hw => by
  obtain ⟨E, hE⟩ := hG
  have h1 := hw.1 _ _ hE
  have hc : w.cell? ⟨g, 0 + i * 1, none⟩ = some v := by
    have h2 := flat_one hl d l i hi
    rw [hv] at h2
    simp only [World.cell?, h1, Option.isSome_none, Bool.false_eq_true, if_false, Nat.zero_add, Nat.mul_one, List.getElem?_toArray]
    rw [h2]; rfl
  rw [Nat.zero_add, Nat.mul_one] at hc hx
  simp [execOp, ho, hx, Instr.loadAt, Instr.sureAddr, loc, run_loadVar_one hA hc]
theorem OpVal.negW {P : Program} {n : Nat} {e : Env} {σ : Store} {H : List Res} {o : Oper} {x : Operand} {T : TypeId} {k : IntKind} {a : Int} (ho : o.op = .unOp .neg T x) (hx : ev e x = .int k a) : OpVal P n o e σ H (.int k (k.wrap (-a))) := fun w _ => by
  simp [execOp, ho, hx, Op.unary, Op.intArith]
theorem OpVal.negU {P : Program} {n : Nat} {e : Env} {σ : Store} {H : List Res} {o : Oper} {x : Operand} {T : TypeId} {a : Nat} (ho : o.op = .unOp .neg T x) (hx : ev e x = .int .u64 (a : Nat)) : OpVal P n o e σ H (.int .u64 ((u64of (-(a : Int)) : Nat) : Int)) := by
  rw [u64of_val]; exact OpVal.negW ho hx
/-- A word of a set, as a value. -/
theorem OpVal.indexSet {P : Program} {n : Nat} {e : Env} {σ : Store} {H : List Res} {o : Oper} {x y : Operand} {T E i : Nat} {k : IntKind} {s : BSet} (ho : o.op = .index T x y) (ht : P.underlying T = some (.array 4 E)) (hz : szOf P E = some 1) (hA : aggOf P E = some false) (hx : ev e x = setV s) (hy : ev e y = .int k (i : Nat)) (hi : i < 4) :
    OpVal P n o e σ H (.int .u64 ((s.word i : Nat) : Int)) := fun w _ => by
  have h1 := setA_get s hi
  simp [execOp, ho, hx, hy, setV, Instr.index, asIntOf, run_underlying ht, run_sizeOf hz, part, run_isAgg hA, h1]
  omega
/-- The table of math/bits: the lowest bit that is set. -/
def deB : List UInt8 := [0, 1, 56, 2, 57, 49, 28, 3, 61, 58, 42, 50, 38, 29, 17, 4, 62, 47, 59, 36, 45, 43, 51, 22, 53, 39, 33, 30, 24, 18, 12, 5, 63, 55, 48, 27, 60, 41, 37, 16, 46, 35, 44, 21, 52, 32, 23, 11, 54, 26, 40, 15, 34, 20, 31, 10, 25, 14, 19, 9, 13, 8, 7, 6]
end Go.E
end

/- S1 -/
section
/- Decompiled: bytes told apart by sets; automatons that go one way. -/
set_option linter.unusedVariables false
set_option linter.unusedSimpArgs false
namespace Go.Proofs.YtjhbngjhdmapmaaGreatDoor
open Go Go.E Go.E.OpVal Go.E.OpOk Go.Proofs.Tryz
set_option maxRecDepth 100000
private theorem ag156 : Go.E.aggOf Tryz.prog 156 = some false := by kernel_rfl
private theorem ag45 : Go.E.aggOf Tryz.prog 45 = some false := by kernel_rfl
private theorem ag46 : Go.E.aggOf Tryz.prog 46 = some false := by kernel_rfl
private theorem by5 : Go.E.byOf Tryz.prog 5 = some 1 := by kernel_rfl
private theorem by64 : Go.E.byOf Tryz.prog 64 = some 32 := by kernel_rfl
private theorem fo48_0 : Go.E.foOf Tryz.prog 48 0 = some 0 := by kernel_rfl
private theorem fo48_1 : Go.E.foOf Tryz.prog 48 1 = some 1 := by kernel_rfl
private theorem fo48_2 : Go.E.foOf Tryz.prog 48 2 = some 2 := by kernel_rfl
private theorem pf110 : Go.E.plainF Tryz.prog 110 = true := by kernel_rfl
private theorem pf154 : Go.E.plainF Tryz.prog 154 = true := by kernel_rfl
private theorem pf172 : Go.E.plainF Tryz.prog 172 = true := by kernel_rfl
private theorem pf41 : Go.E.plainF Tryz.prog 41 = true := by kernel_rfl
private theorem pf87 : Go.E.plainF Tryz.prog 87 = true := by kernel_rfl
private theorem pf96 : Go.E.plainF Tryz.prog 96 = true := by kernel_rfl
private theorem pf97 : Go.E.plainF Tryz.prog 97 = true := by kernel_rfl
private theorem sz44 : Go.E.szOf Tryz.prog 44 = some 1 := by kernel_rfl
private theorem ze5 : Go.E.zeroOf Tryz.prog 5 = some (.int .u8 0) := by kernel_rfl

noncomputable def math_bits_TrailingZeros64 (x0 : Nat) : Option (Int) :=
 iteO (decide (x0 = 0)) (some 64) (grd ((u64shr (u64mul (u64and x0 (u64of (-((x0 : Nat) : Int)))) 285870213051353865) 58) < 64) (some (((nth deB (u64shr (u64mul (u64and x0 (u64of (-((x0 : Nat) : Int)))) 285870213051353865) 58) (0 : UInt8)).toNat : Nat) : Int)))
theorem math_bits_TrailingZeros64_con {σ : Store} {x0 : Nat} (hgl : GT σ 1 encU8 deB) {r : Int} (hh : math_bits_TrailingZeros64 x0 = some r) :
  Con Tryz.prog 154 #[.int .u64 ((x0 : Nat) : Int)] σ [] (PureP (.int .i64 r) σ) := by
 dsimp only [math_bits_TrailingZeros64] at hh
 refine Con.mk (n := 14) Tryz.func154 z z z (fun w0 => ?_)
 refine TC.a (TL.i z z (TL.en (TC.seq (TC.a (TL.i z z (TL.w z (eqlU z z z) (TL.en (TC.cD z hh (fun h101 hh => ?_) (fun h101 hh => ?_)))))))))
 ·refine TC.a (TL.i z z (TL.en (TC.ret (S.r ?_))))
  obtain rfl := so hh
  exact rq [2] ⟨z, z, z⟩
 ·refine TC.skip (S.n (TC.a (TL.i z z (TL.i z z (TL.w z (negU z z) (TL.w z (andU z z z) (TL.w z (mulU (b := 285870213051353865) z z z) (TL.w z (shrU (b := 58) z z z) ?_))))))))
  have u11 := grd_c hh
  replace hh := grd_t hh
  refine TL.w z (indexArrN z underlying266 sz5 z z (by omega)) (TL.w z (loadG1 (0 : UInt8) z ag5 z hgl (by simp only [deB, List.length_cons, List.length_nil]; omega) encU8_len z) (TL.w z (convN z underlying5 underlying3 z (by have := UInt8.toNat_lt (nth deB (u64shr (u64mul (u64and x0 (u64of (-((x0 : Nat) : Int)))) 285870213051353865) 58) (0 : UInt8)); simp only [kmax]; omega)) (TL.i z z (TL.en (TC.ret ?_)))))
  obtain rfl := so hh
  exact rq [2] ⟨z, z, z⟩

noncomputable def set_First_b1 (x0 : BSet) (k105 : Nat) : Option ((Nat) ⊕ (UInt8 × Bool)) :=
 iteO (decide (((k105 : Nat) : Int) < 4)) (grd (k105 < 4) (iteO (decide ((BSet.word x0 k105) ≠ 0)) (bnd (math_bits_TrailingZeros64 (BSet.word x0 k105)) (fun v16 => fin (some ((toU8 (IntKind.i64.wrap ((IntKind.i64.wrap (64 * ((k105 : Nat) : Int))) + v16))), true)))) (nxt (k105 + 1)))) (fin (some ((0 : UInt8), false)))
noncomputable def set_First (x0 : BSet) : Option (UInt8 × Bool) :=
 iter (fun q : Nat => set_First_b1 x0 q) 0
theorem set_First_con {σ : Store} {x0 : BSet} (hgl : GT σ 1 encU8 deB) {r : UInt8 × Bool} (hh : set_First x0 = some r) :
  Con Tryz.prog 110 #[setV x0] σ [] (PureP (.tuple #[.int .u8 ((r.1.toNat : Nat) : Int), .bool r.2]) σ) := by
 dsimp only [set_First] at hh
 refine Con.mk (n := 20) Tryz.func110 z z z (fun w0 => ?_)
 refine TC.a (TL.op z (boxA z z z z (fun b101 => ?_)))
 refine TL.i z z (TL.j z z (TL.en (TC.seq (TC.a (TL.w z (loadAll z ag64 sz64 z (i := 0) z z) (TL.i z z (TL.en (TC.block (TC.loopG (α := (Nat) × (Unit)) (rgs [(2, 4), (7, 13)]) (fun g => [(7, .int .i64 ((g.1 : Nat) : Int))]) (fun g => []) (fun g => σ) (fun g => iter (fun q : Nat => set_First_b1 x0 q) g.1 = some r) (fun g => rounds (fun q : Nat => set_First_b1 x0 q) g.1) (0, ()) (Sub.pre 0 z) z (by repeat (first | exact trivial | refine ⟨z, ?_⟩)) hh (fun g1 j1 hg1 => ?_))))))))))
 obtain ⟨k105, _⟩ := g1
 have hh := hg1; clear hg1
 try dsimp only
 obtain ⟨z1, hh, hR1⟩ := iter_e hh
 dsimp only [set_First_b1] at hh
 refine TC.a (TL.w z (OpVal.lss z z z) (TL.en (TC.seq (TC.cD z hh (fun h106 hh => ?_) (fun h106 hh => ?_)))))
 ·refine TC.skip (S.n (TC.seq (TC.block (TC.a (TL.i z z ?_)))))
  have u8 := grd_c hh
  replace hh := grd_t hh
  refine TL.w z (indexSet z underlying64 sz62 ag62 z z (by omega)) (TL.i z z (TL.i z z (TL.en (TC.a (TL.i z z (TL.w z (neqU z z z) (TL.en (TC.cD z hh (fun h107 hh => ?_) (fun h107 hh => ?_)))))))))
  ·refine TC.a (TL.i z z (TL.w z (mulW z z z) (TL.i z z ?_)))
   obtain ⟨v16, u16, hh⟩ := bnd_e hh
   refine TL.op z (callP (math_bits_TrailingZeros64_con hgl u16) z z pf154 z z z ?_)
   refine TL.w z (addW z z z) (TL.w z (convU8 z underlying3 underlying5 z) (TL.i z z (TL.j z z (TL.en (TC.ret (B.r (S.r (S.r ?_))))))))
   replace hh := fin_x hR1 hh
   refine B.r (S.r ?_)
   obtain rfl := so hh
   exact rq [2, 3] ⟨z, z, z⟩
  ·refine TC.skip (B.n (S.n (TC.region (TL.w z (OpVal.succ z z z (by omega)) (TL.i z z (TL.en ?_))))))
   obtain ⟨hh, hlt108⟩ := nxt_x hR1 hh
   exact lf ((k105 + 1), ()) hlt108 hh (Sub.pre 0 z)
 ·refine TC.exit (S.x (S.x ?_))
  replace hh := fin_x hR1 hh
  refine TC.exitHere (S.n (TC.a (TL.i z z (TL.j z z (TL.en (TC.ret ?_))))))
  obtain rfl := so hh
  exact rq [2, 3] ⟨z, z, z⟩

noncomputable def set_Any_b1 (x1 : BSet) (z111 : BSet) (k112 : Nat) : Option ((BSet × Nat) ⊕ (BSet)) :=
 iteO (decide (((k112 : Nat) : Int) < 4)) (grd (k112 < 4) (grd (k112 < 4) (grd (k112 < 4) (grd ((u64or (BSet.word z111 k112) (BSet.word x1 k112)) < 18446744073709551616) (nxt ((BSet.setWord z111 k112 (u64or (BSet.word z111 k112) (BSet.word x1 k112))), (k112 + 1))))))) (fin (some z111))
noncomputable def set_Any (x0 : BSet) (x1 : BSet) : Option (BSet) :=
 iter (fun q : BSet × Nat => set_Any_b1 x1 q.1 q.2) (x0, 0)
theorem set_Any_con {σ : Store} {x0 : BSet} {x1 : BSet}  {r : BSet} (hh : set_Any x0 x1 = some r) :
  Con Tryz.prog 97 #[setV x0, setV x1] σ [] (PureP (setV r) σ) := by
 dsimp only [set_Any] at hh
 refine Con.mk (n := 19) Tryz.func97 z z z (fun w0 => ?_)
 refine TC.a (TL.op z (boxA z z z z (fun b101 => ?_)))
 refine TL.op z (boxA z z z z (fun b103 => ?_))
 refine TL.op z (OpOk.alloc z ze64 z z (fun b105 => ?_))
 refine TL.en (TC.seq (TC.a (TL.i z z (TL.en (TC.block (TC.loopG (α := (BSet × Nat) × (Unit)) (rgs [(5, 13)]) (fun g => [(6, .int .i64 ((g.1.2 : Nat) : Int))]) (fun g => [Res.cells b101 (setA g.1.1) 64, Res.cells b103 (setA x1) 64, Res.cells b105 (setA BSet.zero) 64]) (fun g => σ) (fun g => iter (fun q : BSet × Nat => set_Any_b1 x1 q.1 q.2) g.1 = some r) (fun g => rounds (fun q : BSet × Nat => set_Any_b1 x1 q.1 q.2) g.1) ((x0, 0), ()) (Sub.f [1, 2] 3) z (by repeat (first | exact trivial | refine ⟨z, ?_⟩)) hh (fun g1 j1 hg1 => ?_)))))))
 obtain ⟨⟨z111, k112⟩, _⟩ := g1
 have hh := hg1; clear hg1
 try dsimp only
 obtain ⟨z1, hh, hR1⟩ := iter_e hh
 dsimp only [set_Any_b1] at hh
 refine TC.a (TL.w z (OpVal.lss z z z) (TL.en (TC.seq (TC.cD z hh (fun h113 hh => ?_) (fun h113 hh => ?_)))))
 ·refine TC.skip (S.n (TC.seq (TC.block (TC.a (TL.i z z (TL.i z z (TL.en ?_)))))))
  have u9 := grd_c hh
  replace hh := grd_t hh
  have u12 := grd_c hh
  replace hh := grd_t hh
  have u15 := grd_c hh
  replace hh := grd_t hh
  have u16 := grd_c hh
  replace hh := grd_t hh
  refine TC.draw [8] (by kernel_rfl) (TA.a 0 z (moveI (.inl z) z) z (TA.b 1 z (indexArrN z underlying64 sz62 z z (by omega)) z (TA.b 2 z (loadWordAt z111 z ag62 z (j := 0) z (by omega) z) z (TA.a 3 z (moveI (.inl z) z) z (TA.b 4 z (indexArrN z underlying64 sz62 z z (by omega)) z (TA.b 5 z (loadWordAt x1 z ag62 z (j := 1) z (by omega) z) z (TA.a 6 z (orU z z z) z (TA.b 7 z (indexArrN z underlying64 sz62 z z (by omega)) z (TA.last 8 (by kernel_rfl) z z z (storeWord z sz62 z z z (by omega) u16 ?_))))))))))
  refine TZ.done (by kernel_rfl) (B.n (S.n (TC.region (TL.w z (OpVal.succ z z z (by omega)) (TL.i z z (TL.en ?_))))))
  obtain ⟨hh, hlt114⟩ := nxt_x hR1 hh
  exact lf (((BSet.setWord z111 k112 (u64or (BSet.word z111 k112) (BSet.word x1 k112))), (k112 + 1)), ()) hlt114 hh (Sub.f [2, 2, 2] 3)
 ·refine TC.exit (S.x (S.x ?_))
  replace hh := fin_x hR1 hh
  refine TC.exitHere (S.n (TC.a (TL.w z (loadAll z ag64 sz64 z (i := 0) z z) (TL.front 2 z z (TL.op z (storeAll z sz64 z z z z z z ?_))))))
  refine TL.en (TC.rt 1 ?_)
  obtain rfl := so hh
  exact ro [] z (RVs.agg ag64 sz64 z (i := 0) z z RVs.nil) ⟨z, z, z⟩

noncomputable def part_key_j1 (k112 : Nat) (l115 : List UInt8) : Option (((List UInt8) × Nat) ⊕ ((List UInt8))) :=
 nxt (l115, (k112 + 1))
noncomputable def part_key_b1 (x0 : List BSet) (x1 : UInt8) (l110 : List UInt8) (k112 : Nat) : Option (((List UInt8) × Nat) ⊕ ((List UInt8))) :=
 iteO (decide (((k112 : Nat) : Int) < ((x0.length : Nat) : Int))) (iteO ((nth x0 k112 BSet.zero).has x1.toNat) (grd (k112 < l110.length) (part_key_j1 k112 (l110.set k112 (1 : UInt8)))) (part_key_j1 k112 l110)) (fin (some l110))
noncomputable def part_key (x0 : List BSet) (x1 : UInt8) : Option ((List UInt8)) :=
 grd (1 * x0.length ≤ 281474976710656) (iter (fun q : (List UInt8) × Nat => part_key_b1 x0 x1 q.1 q.2) ((List.replicate x0.length (0 : UInt8)), 0))
theorem part_key_con {σ : Store} {x0 : List BSet} {a0_0 : Option Addr} {c0_0 : Nat} {x1 : UInt8} (f0_0 : RS σ 4 encSet (.slice a0_0 x0.length c0_0) x0) {r : (List UInt8)} (hh : part_key x0 x1 = some r) :
  Con Tryz.prog 172 #[.slice a0_0 x0.length c0_0, .int .u8 ((x1.toNat : Nat) : Int)] σ [] (PureP (.string (bs r)) σ) := by
 dsimp only [part_key] at hh
 have f0_0b := f0_0.rv.big
 refine Con.mk (n := 27) Tryz.func172 z z z (fun w0 => ?_)
 refine TC.a (TL.w z (moveStr (.inr z) z) (TL.en (TC.a (TL.s z z (TL.w z (lenC z underlying156 z) ?_)))))
 have u4 := grd_c hh
 replace hh := grd_t hh
 refine TL.op z (makeS2 (enc := encU8) (0 : UInt8) z underlying60 sz5 by5 ze5 z z z z (by omega) (by decide) encU8_len (by decide) z encU8_one (fun a101 c102 => ?_))
 refine TL.s z z (TL.en (TC.seq (TC.a (TL.s z z (TL.w z (lenC z underlying156 z) (TL.i z z (TL.en (TC.block (TC.loopG (α := ((List UInt8) × Nat) × (Unit)) (rgs [(6, 2), (13, 12)]) (fun g => [(13, .int .i64 ((g.1.2 : Nat) : Int))]) (fun g => [Res.rowS 5 1 encU8 (.slice a101 (List.replicate x0.length (0 : UInt8)).length c102) g.1.1]) (fun g => σ) (fun g => iter (fun q : (List UInt8) × Nat => part_key_b1 x0 x1 q.1 q.2) g.1 = some r ∧ g.1.1.length = (List.replicate x0.length (0 : UInt8)).length) (fun g => rounds (fun q : (List UInt8) × Nat => part_key_b1 x0 x1 q.1 q.2) g.1) (((List.replicate x0.length (0 : UInt8)), 0), ()) (Sub.pre 1 z) z (by repeat (first | exact trivial | refine ⟨z, ?_⟩)) ⟨hh, z⟩ (fun g1 j1 hg1 => ?_))))))))))
 obtain ⟨⟨l110, k112⟩, _⟩ := g1
 obtain ⟨hh, hn111⟩ := hg1
 try dsimp only at hn111 ⊢
 obtain ⟨z1, hh, hR1⟩ := iter_e hh
 dsimp only [part_key_b1] at hh
 have hn111b := hn111
 refine TC.isSl (i := 0) z (fun _ hb113 _ => ?_)
 refine TC.a (TL.w z (OpVal.lss z z z) (TL.en (TC.seq (TC.cD z hh (fun h114 hh => ?_) (fun h114 hh => ?_)))))
 ·refine TC.skip (S.n (TC.cutG (α := ((List UInt8)) × (Unit)) (rgs [(6, 2), (15, 9)]) (fun g => []) (fun g => [Res.rowS 5 1 encU8 (.slice a101 (List.replicate x0.length (0 : UInt8)).length c102) g.1]) (fun g => σ) (fun g => part_key_j1 k112 g.1 = some z1 ∧ g.1.length = (List.replicate x0.length (0 : UInt8)).length) ?_ (fun g j hg => ?_)))
  ·skip
   refine TC.block (TC.a (TL.i z z (TL.w z (indexN z underlying156 sz64 z z f0_0.rv.sl (by omega)) (TL.w z (loadSA BSet.zero z ag64 sz64 z f0_0 (by omega) (by omega)) (TL.op z (OpOk.alloc z ze64 z z (fun b117 => ?_)))))))
   refine TL.i z z (TL.op z (storeAll z sz64 z z z z z z ?_))
   refine TL.en (TC.a (TL.w z (loadAll z ag64 sz64 z (i := 0) z z) (TL.i z z (TL.op z (callP (has_con _ (nth x0 k112 BSet.zero) x1.toNat (BSet.isOk _) (UInt8.toNat_lt _)) z z pf87 z z z ?_)))))
   refine TL.en (TC.cB z hh (fun h119 hh => ?_) (fun h119 hh => ?_))
   ·refine TC.region (TL.s z z (TL.i z z ?_))
    have u21 := grd_c hh
    replace hh := grd_t hh
    refine TL.isSl (i := 1) z (fun hs120 _ _ => ?_)
    refine TL.w z (indexN z underlying60 sz5 z z hs120 (by omega)) (TL.front 1 z z ?_)
    have hn121 : (l110.set k112 (1 : UInt8)).length = (List.replicate x0.length (0 : UInt8)).length := by rw [List.length_set]; exact hn111
    refine TL.op z (storeS (1 : UInt8) z sz5 z z z z encU8_len encU8_one (by omega) (by omega) ?_)
    exact TL.nil (B.n (S.n (cf ((l110.set k112 (1 : UInt8)), ()) ⟨hh, hn121⟩ (Sub.pre 1 z))))
   ·exact TC.skip (B.n (S.n (cf (l110, ()) ⟨hh, hn111⟩ (Sub.f [1] 1))))
  ·skip
   obtain ⟨l115, _⟩ := g
   obtain ⟨hh, hn116⟩ := hg
   try dsimp only at hn116 ⊢
   dsimp only [part_key_j1] at hh
   have hn116b := hn116
   refine TC.isSl (i := 0) z (fun _ hb122 _ => ?_)
   refine TC.region (TL.w z (OpVal.succ z z z (by omega)) (TL.i z z (TL.en ?_)))
   obtain ⟨hh, hlt123⟩ := nxt_x hR1 hh
   exact lf ((l115, (k112 + 1)), ()) hlt123 ⟨hh, hn116⟩ (Sub.pre 1 z)
 ·refine TC.exit (S.x (S.x ?_))
  replace hh := fin_x hR1 hh
  refine TC.exitHere (S.n (TC.a (TL.s z z (TL.isSl (i := 0) z (fun hs124 _ _ => ?_)))))
  refine TL.w z (bytesStr (l := l110) z underlying60 underlying5 underlying9 z hs124 (fun w hw => rdb_row (q := 0) z hw)) (TL.w z (moveStr (.inr z) z) (TL.en (TC.rt 0 ?_)))
  obtain rfl := so hh
  exact rq [4] ⟨z, z, z⟩

noncomputable def part_Parts_j1 (k121 : Nat) (m125 : FM (List UInt8) Int) (l126 : List BSet) (i129 : Int) : Option (((FM (List UInt8) Int) × (List BSet) × Nat) ⊕ ((List BSet) × Int)) :=
 grd (0 ≤ i129 ∧ i129 < (l126.length : Int)) (grd ([(toU8 ((k121 : Nat) : Int))].length ≤ 1000000000000) (bnd (set_Any (nth l126 i129.toNat BSet.zero) (BSet.ofL [(toU8 ((k121 : Nat) : Int))])) (fun v52 => grd (0 ≤ i129 ∧ i129 < (l126.length : Int)) (nxt (m125, (l126.set i129.toNat v52), (k121 + 1))))))
noncomputable def part_Parts_b1 (x0 : List BSet) (m116 : FM (List UInt8) Int) (l118 : List BSet) (k121 : Nat) : Option (((FM (List UInt8) Int) × (List BSet) × Nat) ⊕ ((List BSet) × Int)) :=
 iteO (decide (((k121 : Nat) : Int) < 256)) (bnd (part_key x0 (toU8 ((k121 : Nat) : Int))) (fun v18 => iteO (!(m116.has v18)) (grd ((l118.length + [BSet.zero].length) * 32 ≤ 140737488355328) (part_Parts_j1 k121 (m116.put v18 ((l118.length : Nat) : Int)) (l118 ++ [BSet.zero]) ((l118.length : Nat) : Int))) (part_Parts_j1 k121 m116 l118 (m116.get v18 0)))) (fin (some (l118, 0)))
noncomputable def part_Parts (x0 : List BSet) : Option ((List BSet) × Int) :=
 iteO (decide (1024 < ((x0.length : Nat) : Int))) (some (([] : List BSet), 2)) (iter (fun q : (FM (List UInt8) Int) × (List BSet) × Nat => part_Parts_b1 x0 q.1 q.2.1 q.2.2) ((FM.emp : FM (List UInt8) Int), ([] : List BSet), 0))
def part_Parts_P (σ : Store) (r : (List BSet) × Int) : Value → Store → List Res → Prop := fun v σ' H' =>
 ∃ (a1 : Option Addr), ∃ (c1 : Nat),  v = .tuple #[.slice a1 r.1.length c1, .int .i64 r.2] ∧ RS σ' 4 encSet (.slice a1 r.1.length c1) r.1 ∧ H' = []
theorem part_Parts_con {σ : Store} {x0 : List BSet} {a0_0 : Option Addr} {c0_0 : Nat} (f0_0 : RS σ 4 encSet (.slice a0_0 x0.length c0_0) x0) {r : (List BSet) × Int} (hh : part_Parts x0 = some r) :
  Con Tryz.prog 134 #[.slice a0_0 x0.length c0_0] σ [] (part_Parts_P σ r) := by
 dsimp only [part_Parts] at hh
 have f0_0b := f0_0.rv.big
 refine Con.mk (n := 52) Tryz.func134 z z z (fun w0 => ?_)
 refine TC.a (TL.s z z (TL.i z z (TL.en (TC.seq (TC.a (TL.s z z (TL.w z (lenC z underlying156 z) (TL.w z (OpVal.gtr z z z) (TL.en (TC.cD z hh (fun h101 hh => ?_) (fun h101 hh => ?_)))))))))))
 ·refine TC.a (TL.s z z (TL.i z z (TL.en (TC.ret (S.r ?_)))))
  obtain rfl := so hh
  exact rq [2, 3] ⟨none, 0, z, (RS.nilF _ encSet encSet_len), z⟩
 ·refine TC.skip (S.n (TC.a (TL.op z (makeMapB (enc := keyS) (encV := keyI) z z z (fun b102 => ?_)))))
  refine TL.w z (moveMap (.inr z) z) (TL.en (TC.a (TL.s z z (TL.en (TC.seq (TC.a (TL.i z z (TL.en (TC.block (TC.nilS 64 4 encSet (TC.loopG (α := ((FM (List UInt8) Int) × (List BSet) × Nat) × ((Option Addr) × Nat)) (rgs [(5, 5), (14, 37)]) (fun g => [(5, .slice g.2.1 g.1.2.1.length g.2.2), (14, .int .i64 ((g.1.2.2 : Nat) : Int))]) (fun g => [Res.mapB keyS keyI (some b102) g.1.1, Res.rowS 64 4 encSet (.slice g.2.1 g.1.2.1.length g.2.2) g.1.2.1]) (fun g => σ) (fun g => iter (fun q : (FM (List UInt8) Int) × (List BSet) × Nat => part_Parts_b1 x0 q.1 q.2.1 q.2.2) g.1 = some r) (fun g => rounds (fun q : (FM (List UInt8) Int) × (List BSet) × Nat => part_Parts_b1 x0 q.1 q.2.1 q.2.2) g.1) (((FM.emp : FM (List UInt8) Int), ([] : List BSet), 0), (none, 0)) (Sub.f [1] 2) z (by repeat (first | exact trivial | refine ⟨z, ?_⟩)) hh (fun g1 j1 hg1 => ?_))))))))))))
  obtain ⟨⟨m116, l118, k121⟩, ⟨a119, c120⟩⟩ := g1
  have hh := hg1; clear hg1
  try dsimp only
  obtain ⟨z1, hh, hR1⟩ := iter_e hh
  dsimp only [part_Parts_b1] at hh
  refine TC.isSl (i := 1) z (fun _ hb123 _ => ?_)
  refine TC.a (TL.w z (OpVal.lss z z z) (TL.en (TC.seq (TC.cD z hh (fun h124 hh => ?_) (fun h124 hh => ?_)))))
  ·refine TC.skip (S.n (TC.seq (TC.block (TC.a (TL.i z z (TL.i z z (TL.en (TC.a (TL.s z z (TL.i z z (TL.w z (convU8 z underlying3 underlying5 z) ?_)))))))))))
   obtain ⟨v18, u18, hh⟩ := bnd_e hh
   refine TL.op z (callP (part_key_con f0_0 u18) z z pf172 z z z ?_)
   refine TL.w z (moveStr (.inr z) z) (TL.en (TC.a (TL.w z (moveMap (.inl z) z) (TL.w z (moveStr (.inl z) z) (TL.w z (OpVal.of (lookB 0 (q := v18) z underlying244 ze3 z (i := 0) z z (keyL_str underlying9)) (v' := .tuple #[.int .i64 (m116.get v18 0), .bool (m116.has v18)]) z) (TL.w z (moveT (.inl z) z) (TL.w z (OpVal.extract z z z) (TL.w z (OpVal.extract z z z) (TL.i z z (TL.j z z (TL.en (TC.cutG (α := ((FM (List UInt8) Int) × (List BSet) × Int) × ((Option Addr) × Nat)) (rgs [(5, 1), (8, 1), (27, 11)]) (fun g => [(5, .slice g.2.1 g.1.2.1.length g.2.2), (8, .int .i64 g.1.2.2)]) (fun g => [Res.mapB keyS keyI (some b102) g.1.1, Res.rowS 64 4 encSet (.slice g.2.1 g.1.2.1.length g.2.2) g.1.2.1]) (fun g => σ) (fun g => part_Parts_j1 k121 g.1.1 g.1.2.1 g.1.2.2 = some z1) ?_ (fun g j hg => ?_)))))))))))))
   ·skip
    refine TC.a (TL.j z z (TL.w z (OpVal.not z z) (TL.en (TC.cB z hh (fun h130 hh => ?_) (fun h130 hh => ?_)))))
    ·refine TC.a (TL.s z z (TL.w z (lenC z underlying156 z) (TL.i z z (TL.en (TC.a (TL.w z (moveMap (.inl z) z) (TL.w z (moveStr (.inl z) z) (TL.i z z (TL.op z (updB v18 ((l118.length : Nat) : Int) z underlying244 z z z z (keyL_str underlying9) ?_))))))))))
     refine TL.en (TC.region (TL.s z z (TL.w z (buildArrL z underlying64 sz62 ze64 z) (TL.op z (OpOk.lit (enc := encSet) [BSet.zero] z underlying156 sz64 ze64 z z z encSet_len (by decide) (by decide) BSet.zero z (by decide) z (by decide) encSet_one (fun a131 c132 => ?_))))))
     refine TL.front 2 z z ?_
     have u40 := grd_c hh
     replace hh := grd_t hh
     refine TL.op z (appendS z z underlying156 sz64 by64 ze64 z z (by decide) z z z (.inr ⟨_, 0, z⟩) (by simpa using u40) (by decide) (fun a134 c135 => ?_))
     exact TL.s z z (TL.en (cf (((m116.put v18 ((l118.length : Nat) : Int)), (l118 ++ [BSet.zero]), ((l118.length : Nat) : Int)), (a134, c135)) hh (Sub.f [2] 2)))
    ·exact TC.skip (S.n (cf ((m116, l118, (m116.get v18 0)), (a119, c120)) hh (Sub.f [1, 1] 2)))
   ·skip
    obtain ⟨⟨m125, l126, i129⟩, ⟨a127, c128⟩⟩ := g
    have hh := hg; clear hg
    try dsimp only
    dsimp only [part_Parts_j1] at hh
    refine TC.isSl (i := 1) z (fun _ hb136 _ => ?_)
    have u46 := grd_c hh
    replace hh := grd_t hh
    have u51 := grd_c hh
    replace hh := grd_t hh
    obtain ⟨v52, u52, hh⟩ := bnd_e hh
    have u53 := grd_c hh
    replace hh := grd_t hh
    refine TC.draw [12] (by kernel_rfl) (TA.a 0 z (moveSl (.inl z) z) z (TA.a 1 z (moveI (.inl z) z) z (TA.a 2 z (moveSl (.inl z) z) z (TA.a 3 z (moveI (.inl z) z) z (TA.isSl (i := 1) z (fun hs143 _ _ => ?_))))))
    refine TA.b 4 z (OpVal.index z underlying156 sz64 z z hs143 u46.1 u46.2) z (TA.b 5 z (loadOA BSet.zero z ag64 sz64 z (q := 1) z encSet_len (by omega) (by omega)) z (TA.a 6 z (moveI (.inl z) z) z (TA.a 7 z (convU8 z underlying3 underlying5 z) z (TA.ac 8 z (OpOk.lit (enc := encU8) [(toU8 ((k121 : Nat) : Int))] z underlying60 sz5 ze5 z z z encU8_len (by decide) (by decide) (0 : UInt8) z (by decide) z (by decide) encU8_one (fun a144 c145 => (k1 ?_)))))))
    refine TA.ac 9 z (callT (of_con _ _ _ [(toU8 ((k121 : Nat) : Int))] u51) z z pf41 z z z z (k0 ?_))
    refine TA.ac 10 z (callP (set_Any_con u52) z z pf97 z z z (k0 ?_))
    refine TA.isSl (i := 1) z (fun hs147 _ _ => ?_)
    refine TA.b 11 z (OpVal.index z underlying156 sz64 z z hs147 u53.1 u53.2) z (TA.front 1 z z ?_)
    have hn148 : (l126.set i129.toNat v52).length = l126.length := by rw [List.length_set]
    refine TA.last 12 (by kernel_rfl) z z z (storeS v52 z sz64 z z z z encSet_len encSet_one (by omega) (by omega) ?_)
    refine TZ.done (by kernel_rfl) (B.n (S.n (TC.region (TL.w z (OpVal.succ z z z (by omega)) (TL.i z z ?_)))))
    rw [← hn148]
    refine TL.en ?_
    obtain ⟨hh, hlt149⟩ := nxt_x hR1 hh
    exact lf ((m125, (l126.set i129.toNat v52), (k121 + 1)), (a127, c128)) hlt149 hh (Sub.f [1] 2)
  ·refine TC.exit (S.x (S.x ?_))
   replace hh := fin_x hR1 hh
   refine TC.exitHere (S.n (TC.a (TL.s z z (TL.s z z (TL.i z z (TL.en (TC.front 1 z z (TC.sealS encSet_len (fun τ152 hle151 hr150 => ?_)))))))))
   have hr150b := hr150.rv.big
   refine TC.rt 0 ?_
   obtain rfl := so hh
   exact rq [2, 3] ⟨a119, c120, z, hr150, z⟩

noncomputable def part_Class_j1 (k146 : Nat) (l149 : List Int) : Option (((List Int) × Nat) ⊕ (((List Int) × Int × Nat) ⊕ ((List Int) × Int))) :=
 nxt (l149, (k146 + 1))
noncomputable def part_Class_b3 (x0 : List BSet) (k130 : Nat) (v29 : UInt8 × Bool) (l144 : List Int) (k146 : Nat) : Option (((List Int) × Nat) ⊕ (((List Int) × Int × Nat) ⊕ ((List Int) × Int))) :=
 iteO (decide (((k146 : Nat) : Int) < 256)) (iteO (!((nth x0 k130 BSet.zero).has (toU8 ((k146 : Nat) : Int)).toNat)) (part_Class_j1 k146 l144) (grd (k146 < l144.length) (iteO (decide (0 ≤ (nth l144 k146 (0 : Int)))) (fin (fin (some (([] : List Int), 1)))) (grd (k146 < l144.length) (part_Class_j1 k146 (l144.set k146 ((k130 : Nat) : Int))))))) (fin (nxt (l144, ((v29.1.toNat : Nat) : Int), (k130 + 1))))
noncomputable def part_Class_b4 (l127 : List Int) (k165 : Nat) : Option ((Nat) ⊕ ((List Int) × Int)) :=
 iteO (decide (((k165 : Nat) : Int) < (((List.replicate 256 (0 : Int)).length : Nat) : Int))) (grd (k165 < l127.length) (iteO (decide ((nth l127 k165 (0 : Int)) < 0)) (fin (some (([] : List Int), 1))) (nxt (k165 + 1)))) (fin (some (l127, 0)))
noncomputable def part_Class_b2 (x0 : List BSet) (l127 : List Int) (i129 : Int) (k130 : Nat) : Option (((List Int) × Int × Nat) ⊕ ((List Int) × Int)) :=
 iteO (decide (((k130 : Nat) : Int) < ((x0.length : Nat) : Int))) (bnd (set_First (nth x0 k130 BSet.zero)) (fun v29 => iteO (!v29.2) (fin (some (([] : List Int), 1))) (iteO (decide (((v29.1.toNat : Nat) : Int) ≤ i129)) (fin (some (([] : List Int), 1))) (iter (fun q : (List Int) × Nat => part_Class_b3 x0 k130 v29 q.1 q.2) (l127, 0))))) (fin (iter (fun q : Nat => part_Class_b4 l127 q) 0))
noncomputable def part_Class_b1 (x0 : List BSet) (l110 : List Int) (k112 : Nat) : Option (((List Int) × Nat) ⊕ ((List Int) × Int)) :=
 iteO (decide (((k112 : Nat) : Int) < (((List.replicate 256 (0 : Int)).length : Nat) : Int))) (grd (k112 < l110.length) (nxt ((l110.set k112 (-1)), (k112 + 1)))) (fin (iter (fun q : (List Int) × Int × Nat => part_Class_b2 x0 q.1 q.2.1 q.2.2) (l110, (-1), 0)))
noncomputable def part_Class (x0 : List BSet) : Option ((List Int) × Int) :=
 iter (fun q : (List Int) × Nat => part_Class_b1 x0 q.1 q.2) ((List.replicate 256 (0 : Int)), 0)
def part_Class_P (σ : Store) (r : (List Int) × Int) : Value → Store → List Res → Prop := fun v σ' H' =>
 ∃ (a1 : Option Addr), ∃ (c1 : Nat),  v = .tuple #[.slice a1 r.1.length c1, .int .i64 r.2] ∧ RS σ' 1 Go.E.encI (.slice a1 r.1.length c1) r.1 ∧ H' = []
theorem part_Class_con {σ : Store} {x0 : List BSet} {a0_0 : Option Addr} {c0_0 : Nat} (hgl : GT σ 1 encU8 deB) (f0_0 : RS σ 4 encSet (.slice a0_0 x0.length c0_0) x0) {r : (List Int) × Int} (hh : part_Class x0 = some r) :
  Con Tryz.prog 136 #[.slice a0_0 x0.length c0_0] σ [] (part_Class_P σ r) := by
 dsimp only [part_Class] at hh
 have f0_0b := f0_0.rv.big
 refine Con.mk (n := 75) Tryz.func136 z z z (fun w0 => ?_)
 refine TC.a (TL.s z z (TL.i z z (TL.en (TC.a (TL.op z (makeS2 (m := 256) (enc := Go.E.encI) (0 : Int) z underlying44 sz3 by3 ze3 z z z z (by omega) (by decide) Go.E.encI_len (by decide) z Go.E.encI_one (fun a101 c102 => ?_)))))))
 refine TL.s z z (TL.en (TC.seq (TC.a (TL.s z z (TL.w z (lenC z underlying44 z) (TL.i z z (TL.en (TC.block (TC.loopG (α := ((List Int) × Nat) × (Unit)) (rgs [(5, 1), (17, 7)]) (fun g => [(17, .int .i64 ((g.1.2 : Nat) : Int))]) (fun g => [Res.rowS 3 1 Go.E.encI (.slice a101 (List.replicate 256 (0 : Int)).length c102) g.1.1]) (fun g => σ) (fun g => iter (fun q : (List Int) × Nat => part_Class_b1 x0 q.1 q.2) g.1 = some r ∧ g.1.1.length = (List.replicate 256 (0 : Int)).length) (fun g => rounds (fun q : (List Int) × Nat => part_Class_b1 x0 q.1 q.2) g.1) (((List.replicate 256 (0 : Int)), 0), ()) (Sub.pre 1 z) z (by repeat (first | exact trivial | refine ⟨z, ?_⟩)) ⟨hh, z⟩ (fun g1 j1 hg1 => ?_))))))))))
 obtain ⟨⟨l110, k112⟩, _⟩ := g1
 obtain ⟨hh, hn111⟩ := hg1
 try dsimp only at hn111 ⊢
 obtain ⟨z1, hh, hR1⟩ := iter_e hh
 dsimp only [part_Class_b1] at hh
 have hn111b := hn111
 refine TC.isSl (i := 0) z (fun _ hb113 _ => ?_)
 refine TC.a (TL.w z (OpVal.lss z z z) (TL.en (TC.seq (TC.cD z hh (fun h114 hh => ?_) (fun h114 hh => ?_)))))
 ·refine TC.skip (S.n (TC.seq (TC.block (TC.a (TL.i z z (TL.i z z (TL.en (TC.region (TL.s z z (TL.i z z ?_))))))))))
  have u13 := grd_c hh
  replace hh := grd_t hh
  refine TL.isSl (i := 0) z (fun hs115 _ _ => ?_)
  refine TL.w z (indexN z underlying44 sz3 z z hs115 (by omega)) ?_
  have hn116 : (l110.set k112 (-1)).length = (List.replicate 256 (0 : Int)).length := by rw [List.length_set]; exact hn111
  refine TL.op z (storeS (-1) z sz3 z z z z Go.E.encI_len Go.E.encI_one (by omega) (by omega) ?_)
  refine TL.nil (B.n (S.n (TC.region (TL.w z (OpVal.succ z z z (by omega)) (TL.i z z (TL.en ?_))))))
  obtain ⟨hh, hlt117⟩ := nxt_x hR1 hh
  exact lf (((l110.set k112 (-1)), (k112 + 1)), ()) hlt117 ⟨hh, hn116⟩ (Sub.pre 1 z)
 ·refine TC.exit (S.x (S.x ?_))
  replace hh := fin_x hR1 hh
  refine TC.exitHere (S.n (TC.a (TL.i z z (TL.en (TC.seq (TC.a (TL.s z z (TL.w z (lenC z underlying156 z) (TL.i z z (TL.en (TC.block (TC.loopG (α := ((List Int) × Int × Nat) × (Unit)) (rgs [(2, 2), (6, 6), (26, 39)]) (fun g => [(6, .int .i64 g.1.2.1), (26, .int .i64 ((g.1.2.2 : Nat) : Int))]) (fun g => [Res.rowS 3 1 Go.E.encI (.slice a101 (List.replicate 256 (0 : Int)).length c102) g.1.1]) (fun g => σ) (fun g => iter (fun q : (List Int) × Int × Nat => part_Class_b2 x0 q.1 q.2.1 q.2.2) g.1 = some r ∧ g.1.1.length = (List.replicate 256 (0 : Int)).length) (fun g => rounds (fun q : (List Int) × Int × Nat => part_Class_b2 x0 q.1 q.2.1 q.2.2) g.1) ((l110, (-1), 0), ()) (Sub.pre 1 z) z (by repeat (first | exact trivial | refine ⟨z, ?_⟩)) ⟨hh, hn111⟩ (fun g2 j2 hg2 => ?_)))))))))))))
  obtain ⟨⟨l127, i129, k130⟩, _⟩ := g2
  obtain ⟨hh, hn128⟩ := hg2
  try dsimp only at hn128 ⊢
  obtain ⟨z1, hh, hR1⟩ := iter_e hh
  dsimp only [part_Class_b2] at hh
  have hn128b := hn128
  refine TC.isSl (i := 0) z (fun _ hb131 _ => ?_)
  refine TC.a (TL.w z (OpVal.lss z z z) (TL.en (TC.seq (TC.cD z hh (fun h132 hh => ?_) (fun h132 hh => ?_)))))
  ·refine TC.skip (S.n (TC.seq (TC.block (TC.a (TL.i z z (TL.w z (indexN z underlying156 sz64 z z f0_0.rv.sl (by omega)) (TL.w z (loadSA BSet.zero z ag64 sz64 z f0_0 (by omega) (by omega)) (TL.op z (OpOk.alloc z ze64 z z (fun b133 => ?_))))))))))
   refine TL.i z z (TL.op z (storeAll z sz64 z z z z z z ?_))
   refine TL.en (TC.a (TL.w z (loadAll z ag64 sz64 z (i := 0) z z) ?_))
   obtain ⟨v29, u29, hh⟩ := bnd_e hh
   refine TL.op z (callP (set_First_con hgl u29) z z pf110 z z z ?_)
   refine TL.w z (moveT (.inl z) z) (TL.w z (OpVal.extract z z z) (TL.w z (OpVal.extract z z z) (TL.i z z (TL.j z z (TL.en (TC.seq (TC.a (TL.j z z (TL.w z (OpVal.not z z) (TL.j z z (TL.split 38 z (fun h135 => ?_) (fun h135 => ?_))))))))))))
   ·replace hh := iteO_t h135 hh
    refine TL.f z (TL.f z (TL.f z (TL.f z (TL.w z (pickTB z z z) (TL.en (TC.t z (TC.a (TL.s z z (TL.i z z (TL.en (TC.rt 0 (S.r (B.r (S.r (S.r ?_)))))))))))))))
    replace hh := fin_x hR1 hh
    refine B.r (S.r ?_)
    obtain rfl := so hh
    exact rq [2, 3] ⟨none, 0, z, (RS.nilF _ Go.E.encI Go.E.encI_len), z⟩
   ·replace hh := iteO_f h135 hh
    refine TL.g z (moveI (.inl z) z) (TL.g z (convN z underlying5 underlying3 z (by have := UInt8.toNat_lt v29.1; simp only [kmax]; omega)) (TL.g z (moveI (.inl z) z) (TL.g z (OpVal.leq z z z) (TL.w z (pickFB z z z) (TL.en (TC.cD z hh (fun h136 hh => ?_) (fun h136 hh => ?_)))))))
    ·refine TC.a (TL.s z z (TL.i z z (TL.en (TC.rt 0 (S.r (B.r (S.r (S.r ?_))))))))
     replace hh := fin_x hR1 hh
     refine B.r (S.r ?_)
     obtain rfl := so hh
     exact rq [2, 3] ⟨none, 0, z, (RS.nilF _ Go.E.encI Go.E.encI_len), z⟩
    ·refine TC.skip (S.n (TC.a (TL.i z z (TL.w z (convN z underlying5 underlying3 z (by have := UInt8.toNat_lt v29.1; simp only [kmax]; omega)) (TL.i z z (TL.en (TC.a (TL.i z z (TL.en (TC.block (TC.loopG (α := ((List Int) × Nat) × (Unit)) (rgs [(2, 2), (11, 1), (46, 18)]) (fun g => [(46, .int .i64 ((g.1.2 : Nat) : Int))]) (fun g => [Res.rowS 3 1 Go.E.encI (.slice a101 (List.replicate 256 (0 : Int)).length c102) g.1.1, Res.cells b133 (setA (nth x0 k130 BSet.zero)) 64]) (fun g => σ) (fun g => iter (fun q : (List Int) × Nat => part_Class_b3 x0 k130 v29 q.1 q.2) g.1 = some z1 ∧ g.1.1.length = (List.replicate 256 (0 : Int)).length) (fun g => rounds (fun q : (List Int) × Nat => part_Class_b3 x0 k130 v29 q.1 q.2) g.1) ((l127, 0), ()) (Sub.f [1] 2) z (by repeat (first | exact trivial | refine ⟨z, ?_⟩)) ⟨hh, hn128⟩ (fun g3 j3 hg3 => ?_))))))))))))
     obtain ⟨⟨l144, k146⟩, _⟩ := g3
     obtain ⟨hh, hn145⟩ := hg3
     try dsimp only at hn145 ⊢
     obtain ⟨z2, hh, hR2⟩ := iter_e hh
     dsimp only [part_Class_b3] at hh
     have hn145b := hn145
     refine TC.isSl (i := 0) z (fun _ hb147 _ => ?_)
     refine TC.a (TL.w z (OpVal.lss z z z) (TL.en (TC.seq (TC.cD z hh (fun h148 hh => ?_) (fun h148 hh => ?_)))))
     ·refine TC.skip (S.n (TC.cutG (α := ((List Int)) × (Unit)) (rgs [(2, 2), (11, 1), (48, 15)]) (fun g => []) (fun g => [Res.rowS 3 1 Go.E.encI (.slice a101 (List.replicate 256 (0 : Int)).length c102) g.1, Res.cells b133 (setA (nth x0 k130 BSet.zero)) 64]) (fun g => σ) (fun g => part_Class_j1 k146 g.1 = some z2 ∧ g.1.length = (List.replicate 256 (0 : Int)).length) ?_ (fun g j hg => ?_)))
      ·skip
       refine TC.block (TC.a (TL.i z z (TL.i z z (TL.en (TC.seq (TC.a (TL.w z (loadAll z ag64 sz64 z (i := 1) z z) (TL.i z z (TL.w z (convU8 z underlying3 underlying5 z) (TL.op z (callP (has_con _ (nth x0 k130 BSet.zero) (toU8 ((k146 : Nat) : Int)).toNat (BSet.isOk _) (UInt8.toNat_lt _)) z z pf87 z z z ?_)))))))))))
       refine TL.w z (OpVal.not z z) (TL.en (TC.cB z hh (fun h151 hh => ?_) (fun h151 hh => ?_)))
       ·exact TC.exit (S.x (TC.exitHere (S.n (cf (l144, ()) ⟨hh, hn145⟩ (Sub.f [1, 1] 2)))))
       ·refine TC.skip (S.n (TC.seq (TC.a (TL.s z z (TL.i z z ?_)))))
        have u59 := grd_c hh
        replace hh := grd_t hh
        refine TL.isSl (i := 0) z (fun hs152 _ _ => ?_)
        refine TL.w z (indexN z underlying44 sz3 z z hs152 (by omega)) (TL.w z (loadO1 (0 : Int) z ag3 z (q := 0) z Go.E.encI_len (by omega) z) (TL.w z (OpVal.geq z z z) (TL.en (TC.cD z hh (fun h153 hh => ?_) (fun h153 hh => ?_)))))
        ·refine TC.a (TL.s z z (TL.i z z (TL.en (TC.rt 0 (S.r (B.r (S.r (S.r ?_))))))))
         replace hh := fin_x hR2 hh
         refine B.r (B.r (S.r (S.r ?_)))
         replace hh := fin_x hR1 hh
         refine B.r (S.r ?_)
         obtain rfl := so hh
         exact rq [2, 3] ⟨none, 0, z, (RS.nilF _ Go.E.encI Go.E.encI_len), z⟩
        ·refine TC.skip (S.n (TC.region (TL.s z z (TL.i z z (TL.i z z ?_)))))
         have u67 := grd_c hh
         replace hh := grd_t hh
         refine TL.isSl (i := 0) z (fun hs154 _ _ => ?_)
         refine TL.w z (indexN z underlying44 sz3 z z hs154 (by omega)) ?_
         have hn155 : (l144.set k146 ((k130 : Nat) : Int)).length = (List.replicate 256 (0 : Int)).length := by rw [List.length_set]; exact hn145
         refine TL.op z (storeS ((k130 : Nat) : Int) z sz3 z z z z Go.E.encI_len Go.E.encI_one (by omega) (by omega) ?_)
         exact TL.nil (B.n (S.n (cf ((l144.set k146 ((k130 : Nat) : Int)), ()) ⟨hh, hn155⟩ (Sub.f [1, 1] 2))))
      ·skip
       obtain ⟨l149, _⟩ := g
       obtain ⟨hh, hn150⟩ := hg
       try dsimp only at hn150 ⊢
       dsimp only [part_Class_j1] at hh
       have hn150b := hn150
       refine TC.isSl (i := 0) z (fun _ hb156 _ => ?_)
       refine TC.region (TL.w z (OpVal.succ z z z (by omega)) (TL.i z z (TL.en ?_)))
       obtain ⟨hh, hlt157⟩ := nxt_x hR2 hh
       exact lf ((l149, (k146 + 1)), ()) hlt157 ⟨hh, hn150⟩ (Sub.f [1, 1] 2)
     ·refine TC.exit (S.x (S.x ?_))
      replace hh := fin_x hR2 hh
      refine TC.exitHere (B.n (S.n (TC.region (TL.w z (OpVal.succ z z z (by omega)) (TL.i z z (TL.en ?_))))))
      obtain ⟨hh, hlt158⟩ := nxt_x hR1 hh
      exact lf ((l144, ((v29.1.toNat : Nat) : Int), (k130 + 1)), ()) hlt158 ⟨hh, hn145⟩ (Sub.pre 1 z)
  ·refine TC.exit (S.x (S.x ?_))
   replace hh := fin_x hR1 hh
   refine TC.exitHere (S.n (TC.seq (TC.a (TL.s z z (TL.w z (lenC z underlying44 z) (TL.i z z (TL.en (TC.block (TC.loopG (α := (Nat) × (Unit)) (rgs [(2, 2), (13, 1), (67, 7)]) (fun g => [(67, .int .i64 ((g.1 : Nat) : Int))]) (fun g => [Res.rowS 3 1 Go.E.encI (.slice a101 (List.replicate 256 (0 : Int)).length c102) l127]) (fun g => σ) (fun g => iter (fun q : Nat => part_Class_b4 l127 q) g.1 = some r ∧ l127.length = (List.replicate 256 (0 : Int)).length) (fun g => rounds (fun q : Nat => part_Class_b4 l127 q) g.1) (0, ()) (Sub.pre 1 z) z (by repeat (first | exact trivial | refine ⟨z, ?_⟩)) ⟨hh, hn128⟩ (fun g4 j4 hg4 => ?_))))))))))
   obtain ⟨k165, _⟩ := g4
   obtain ⟨hh, hn164⟩ := hg4
   try dsimp only at hn164 ⊢
   obtain ⟨z1, hh, hR1⟩ := iter_e hh
   dsimp only [part_Class_b4] at hh
   have hn164b := hn164
   refine TC.isSl (i := 0) z (fun _ hb166 _ => ?_)
   refine TC.a (TL.w z (OpVal.lss z z z) (TL.en (TC.seq (TC.cD z hh (fun h167 hh => ?_) (fun h167 hh => ?_)))))
   ·refine TC.skip (S.n (TC.seq (TC.block (TC.a ?_))))
    have u77 := grd_c hh
    replace hh := grd_t hh
    refine TL.isSl (i := 0) z (fun hs168 _ _ => ?_)
    refine TL.w z (indexN z underlying44 sz3 z z hs168 (by omega)) (TL.w z (loadO1 (0 : Int) z ag3 z (q := 0) z Go.E.encI_len (by omega) z) (TL.i z z (TL.en (TC.a (TL.i z z (TL.w z (OpVal.lss z z z) (TL.en (TC.cD z hh (fun h169 hh => ?_) (fun h169 hh => ?_)))))))))
    ·refine TC.a (TL.s z z (TL.i z z (TL.en (TC.rt 0 (B.r (S.r (S.r ?_)))))))
     replace hh := fin_x hR1 hh
     refine B.r (S.r ?_)
     obtain rfl := so hh
     exact rq [2, 3] ⟨none, 0, z, (RS.nilF _ Go.E.encI Go.E.encI_len), z⟩
    ·refine TC.skip (B.n (S.n (TC.region (TL.w z (OpVal.succ z z z (by omega)) (TL.i z z (TL.en ?_))))))
     obtain ⟨hh, hlt170⟩ := nxt_x hR1 hh
     exact lf ((k165 + 1), ()) hlt170 ⟨hh, hn164⟩ (Sub.pre 1 z)
   ·refine TC.exit (S.x (S.x ?_))
    replace hh := fin_x hR1 hh
    refine TC.exitHere (S.n (TC.a (TL.s z z (TL.s z z (TL.i z z (TL.en ?_))))))
    rw [← hn164]
    refine TC.sealS Go.E.encI_len (fun τ173 hle172 hr171 => ?_)
    have hr171b := hr171.rv.big
    refine TC.ret ?_
    obtain rfl := so hh
    exact rq [2, 3] ⟨a101, c102, z, hr171, z⟩

noncomputable def part_Sets_j1 (x0 : List Int) (k116 : Nat) (l122 : List BSet) : Option (((List BSet) × Nat) ⊕ ((List BSet) × Int)) :=
 grd (0 ≤ (nth x0 k116 (0 : Int)) ∧ (nth x0 k116 (0 : Int)) < (l122.length : Int)) (grd ([(toU8 ((k116 : Nat) : Int))].length ≤ 1000000000000) (bnd (set_Any (nth l122 ((nth x0 k116 (0 : Int)).toNat) BSet.zero) (BSet.ofL [(toU8 ((k116 : Nat) : Int))])) (fun v47 => grd (0 ≤ (nth x0 k116 (0 : Int)) ∧ (nth x0 k116 (0 : Int)) < (l122.length : Int)) (nxt ((l122.set ((nth x0 k116 (0 : Int)).toNat) v47), (k116 + 1))))))
noncomputable def part_Sets_b1 (x0 : List Int) (l113 : List BSet) (k116 : Nat) : Option (((List BSet) × Nat) ⊕ ((List BSet) × Int)) :=
 iteO (decide (((k116 : Nat) : Int) < ((x0.length : Nat) : Int))) (iteO (decide ((nth x0 k116 (0 : Int)) < 0)) (fin (some (([] : List BSet), 1))) (iteO (decide (((l113.length : Nat) : Int) < (nth x0 k116 (0 : Int)))) (fin (some (([] : List BSet), 1))) (iteO (decide ((nth x0 k116 (0 : Int)) = ((l113.length : Nat) : Int))) (grd ((l113.length + [BSet.zero].length) * 32 ≤ 140737488355328) (part_Sets_j1 x0 k116 (l113 ++ [BSet.zero]))) (part_Sets_j1 x0 k116 l113)))) (fin (some (l113, 0)))
noncomputable def part_Sets (x0 : List Int) : Option ((List BSet) × Int) :=
 iteO (decide (((x0.length : Nat) : Int) ≠ 256)) (some (([] : List BSet), 1)) (iter (fun q : (List BSet) × Nat => part_Sets_b1 x0 q.1 q.2) (([] : List BSet), 0))
def part_Sets_P (σ : Store) (r : (List BSet) × Int) : Value → Store → List Res → Prop := fun v σ' H' =>
 ∃ (a1 : Option Addr), ∃ (c1 : Nat),  v = .tuple #[.slice a1 r.1.length c1, .int .i64 r.2] ∧ RS σ' 4 encSet (.slice a1 r.1.length c1) r.1 ∧ H' = []
theorem part_Sets_con {σ : Store} {x0 : List Int} {a0_0 : Option Addr} {c0_0 : Nat} (f0_0 : RS σ 1 Go.E.encI (.slice a0_0 x0.length c0_0) x0) {r : (List BSet) × Int} (hh : part_Sets x0 = some r) :
  Con Tryz.prog 96 #[.slice a0_0 x0.length c0_0] σ [] (part_Sets_P σ r) := by
 dsimp only [part_Sets] at hh
 have f0_0b := f0_0.rv.big
 refine Con.mk (n := 47) Tryz.func96 z z z (fun w0 => ?_)
 refine TC.a (TL.s z z (TL.i z z (TL.en (TC.seq (TC.a (TL.s z z (TL.w z (lenC z underlying44 z) (TL.w z (OpVal.neq z z z) (TL.en (TC.cD z hh (fun h101 hh => ?_) (fun h101 hh => ?_)))))))))))
 ·refine TC.a (TL.s z z (TL.i z z (TL.en (TC.ret (S.r ?_)))))
  obtain rfl := so hh
  exact rq [2, 3] ⟨none, 0, z, (RS.nilF _ encSet encSet_len), z⟩
 ·refine TC.skip (S.n (TC.a (TL.s z z (TL.en (TC.seq (TC.a (TL.s z z (TL.w z (lenC z underlying44 z) (TL.i z z (TL.en (TC.block (TC.nilS 64 4 encSet (TC.loopG (α := ((List BSet) × Nat) × ((Option Addr) × Nat)) (rgs [(2, 5), (12, 34)]) (fun g => [(4, .slice g.2.1 g.1.1.length g.2.2), (12, .int .i64 ((g.1.2 : Nat) : Int))]) (fun g => [Res.rowS 64 4 encSet (.slice g.2.1 g.1.1.length g.2.2) g.1.1]) (fun g => σ) (fun g => iter (fun q : (List BSet) × Nat => part_Sets_b1 x0 q.1 q.2) g.1 = some r) (fun g => rounds (fun q : (List BSet) × Nat => part_Sets_b1 x0 q.1 q.2) g.1) ((([] : List BSet), 0), (none, 0)) (Sub.pre 1 z) z (by repeat (first | exact trivial | refine ⟨z, ?_⟩)) hh (fun g1 j1 hg1 => ?_))))))))))))))
  obtain ⟨⟨l113, k116⟩, ⟨a114, c115⟩⟩ := g1
  have hh := hg1; clear hg1
  try dsimp only
  obtain ⟨z1, hh, hR1⟩ := iter_e hh
  dsimp only [part_Sets_b1] at hh
  refine TC.isSl (i := 0) z (fun _ hb118 _ => ?_)
  refine TC.a (TL.w z (OpVal.lss z z z) (TL.en (TC.seq (TC.cD z hh (fun h119 hh => ?_) (fun h119 hh => ?_)))))
  ·refine TC.skip (S.n (TC.seq (TC.block (TC.a (TL.i z z (TL.w z (indexN z underlying44 sz3 z z f0_0.rv.sl (by omega)) (TL.w z (loadS1 (0 : Int) z ag3 z f0_0 (by omega) z) (TL.i z z (TL.i z z (TL.en (TC.seq (TC.a (TL.i z z (TL.w z (OpVal.lss z z z) (TL.j z z ?_)))))))))))))))
   refine TL.split 19 z (fun h120 => ?_) (fun h120 => ?_)
   ·replace hh := iteO_t h120 hh
    replace h120 := of_decide_eq_true h120
    refine TL.f z (TL.f z (TL.f z (TL.f z (TL.w z (pickTB z z z) (TL.en (TC.t z (TC.a (TL.s z z (TL.i z z (TL.en (TC.rt 0 (S.r (B.r (S.r (S.r ?_)))))))))))))))
    replace hh := fin_x hR1 hh
    refine B.r (S.r ?_)
    obtain rfl := so hh
    exact rq [2, 3] ⟨none, 0, z, (RS.nilF _ encSet encSet_len), z⟩
   ·replace hh := iteO_f h120 hh
    replace h120 := of_decide_eq_false h120
    refine TL.g z (moveI (.inl z) z) (TL.g z (moveSl (.inl z) z) (TL.g z (lenC z underlying156 z) (TL.g z (OpVal.gtr z z z) (TL.w z (pickFB z z z) (TL.en (TC.cD z hh (fun h121 hh => ?_) (fun h121 hh => ?_)))))))
    ·refine TC.a (TL.s z z (TL.i z z (TL.en (TC.rt 0 (S.r (B.r (S.r (S.r ?_))))))))
     replace hh := fin_x hR1 hh
     refine B.r (S.r ?_)
     obtain rfl := so hh
     exact rq [2, 3] ⟨none, 0, z, (RS.nilF _ encSet encSet_len), z⟩
    ·refine TC.skip (S.n (TC.cutG (α := ((List BSet)) × ((Option Addr) × Nat)) (rgs [(4, 1), (25, 8)]) (fun g => [(4, .slice g.2.1 g.1.length g.2.2)]) (fun g => [Res.rowS 64 4 encSet (.slice g.2.1 g.1.length g.2.2) g.1]) (fun g => σ) (fun g => part_Sets_j1 x0 k116 g.1 = some z1) ?_ (fun g j hg => ?_)))
     ·skip
      refine TC.a (TL.i z z (TL.s z z (TL.w z (lenC z underlying156 z) (TL.w z (OpVal.eql z z z) (TL.en (TC.cD z hh (fun h125 hh => ?_) (fun h125 hh => ?_)))))))
      ·refine TC.region (TL.s z z (TL.w z (buildArrL z underlying64 sz62 ze64 z) (TL.op z (OpOk.lit (enc := encSet) [BSet.zero] z underlying156 sz64 ze64 z z z encSet_len (by decide) (by decide) BSet.zero z (by decide) z (by decide) encSet_one (fun a126 c127 => ?_)))))
       refine TL.front 1 z z ?_
       have u35 := grd_c hh
       replace hh := grd_t hh
       refine TL.op z (appendS z z underlying156 sz64 by64 ze64 z z (by decide) z z z (.inr ⟨_, 0, z⟩) (by simpa using u35) (by decide) (fun a129 c130 => ?_))
       exact TL.s z z (TL.en (cf ((l113 ++ [BSet.zero]), (a129, c130)) hh (Sub.pre 1 z)))
      ·exact TC.skip (S.n (cf (l113, (a114, c115)) hh (Sub.pre 1 z)))
     ·skip
      obtain ⟨l122, ⟨a123, c124⟩⟩ := g
      have hh := hg; clear hg
      try dsimp only
      dsimp only [part_Sets_j1] at hh
      refine TC.isSl (i := 0) z (fun _ hb131 _ => ?_)
      have u41 := grd_c hh
      replace hh := grd_t hh
      have u46 := grd_c hh
      replace hh := grd_t hh
      obtain ⟨v47, u47, hh⟩ := bnd_e hh
      have u48 := grd_c hh
      replace hh := grd_t hh
      refine TC.draw [12] (by kernel_rfl) (TA.a 0 z (moveSl (.inl z) z) z (TA.a 1 z (moveI (.inl z) z) z (TA.a 2 z (moveSl (.inl z) z) z (TA.a 3 z (moveI (.inl z) z) z (TA.isSl (i := 0) z (fun hs138 _ _ => ?_))))))
      refine TA.b 4 z (OpVal.index z underlying156 sz64 z z hs138 u41.1 u41.2) z (TA.b 5 z (loadOA BSet.zero z ag64 sz64 z (q := 0) z encSet_len (by omega) (by omega)) z (TA.a 6 z (moveI (.inl z) z) z (TA.a 7 z (convU8 z underlying3 underlying5 z) z (TA.ac 8 z (OpOk.lit (enc := encU8) [(toU8 ((k116 : Nat) : Int))] z underlying60 sz5 ze5 z z z encU8_len (by decide) (by decide) (0 : UInt8) z (by decide) z (by decide) encU8_one (fun a139 c140 => (k1 ?_)))))))
      refine TA.ac 9 z (callT (of_con _ _ _ [(toU8 ((k116 : Nat) : Int))] u46) z z pf41 z z z z (k0 ?_))
      refine TA.ac 10 z (callP (set_Any_con u47) z z pf97 z z z (k0 ?_))
      refine TA.isSl (i := 0) z (fun hs142 _ _ => ?_)
      refine TA.b 11 z (OpVal.index z underlying156 sz64 z z hs142 u48.1 u48.2) z ?_
      have hn143 : (l122.set ((nth x0 k116 (0 : Int)).toNat) v47).length = l122.length := by rw [List.length_set]
      refine TA.last 12 (by kernel_rfl) z z z (storeS v47 z sz64 z z z z encSet_len encSet_one (by omega) (by omega) ?_)
      refine TZ.done (by kernel_rfl) (B.n (S.n (TC.region (TL.w z (OpVal.succ z z z (by omega)) (TL.i z z ?_)))))
      rw [← hn143]
      refine TL.en ?_
      obtain ⟨hh, hlt144⟩ := nxt_x hR1 hh
      exact lf (((l122.set ((nth x0 k116 (0 : Int)).toNat) v47), (k116 + 1)), (a123, c124)) hlt144 hh (Sub.pre 1 z)
  ·refine TC.exit (S.x (S.x ?_))
   replace hh := fin_x hR1 hh
   refine TC.exitHere (S.n (TC.a (TL.s z z (TL.s z z (TL.i z z (TL.en (TC.sealS encSet_len (fun τ147 hle146 hr145 => ?_))))))))
   have hr145b := hr145.rv.big
   refine TC.ret ?_
   obtain rfl := so hh
   exact rq [2, 3] ⟨a114, c115, z, hr145, z⟩

noncomputable def dfa_Check_b2 (x0 : Dfa) (k110 : Nat) (k116 : Nat) : Option ((Nat) ⊕ ((Nat) ⊕ (Int))) :=
 iteO (decide (((k116 : Nat) : Int) < (((nth x0.next k110 ([] : List Int)).length : Nat) : Int))) (iteO (decide ((nth (nth x0.next k110 ([] : List Int)) k116 (0 : Int)) < 0)) (fin (fin (some 1))) (iteO (decide (((x0.next.length : Nat) : Int) ≤ (nth (nth x0.next k110 ([] : List Int)) k116 (0 : Int)))) (fin (fin (some 1))) (nxt (k116 + 1)))) (fin (nxt (k110 + 1)))
noncomputable def dfa_Check_b1 (x0 : Dfa) (v5 : (List BSet) × Int) (k110 : Nat) : Option ((Nat) ⊕ (Int)) :=
 iteO (decide (((k110 : Nat) : Int) < ((x0.next.length : Nat) : Int))) (iteO (decide ((((nth x0.next k110 ([] : List Int)).length : Nat) : Int) ≠ ((v5.1.length : Nat) : Int))) (fin (some 1)) (iter (fun q : Nat => dfa_Check_b2 x0 k110 q) 0)) (fin (some 0))
noncomputable def dfa_Check (x0 : Dfa) : Option (Int) :=
 bnd (part_Sets x0.cls) (fun v5 => iteO (decide (v5.2 ≠ 0)) (some 1) (iteO (decide (((x0.next.length : Nat) : Int) < 1)) (some 1) (iteO (decide (1024 < ((x0.next.length : Nat) : Int))) (some 1) (iteO (decide (((x0.fin.length : Nat) : Int) ≠ ((x0.next.length : Nat) : Int))) (some 1) (iter (fun q : Nat => dfa_Check_b1 x0 v5 q) 0)))))
theorem dfa_Check_con {σ : Store} {x0 : Dfa} {a0_0 : Option Addr} {c0_0 : Nat} {a0_1 : Option Addr} {c0_1 : Nat} {a0_2 : Option Addr} {c0_2 : Nat} (f0_0 : RS σ 1 Go.E.encI (.slice a0_0 x0.cls.length c0_0) x0.cls) (f0_1 : RZ σ (pkSl 1 Go.E.encI Go.E.encI_len) (.slice a0_1 x0.next.length c0_1) x0.next) (f0_2 : RS σ 1 encB (.slice a0_2 x0.fin.length c0_2) x0.fin) {r : Int} (hh : dfa_Check x0 = some r) :
  Con Tryz.prog 59 #[.agg #[.slice a0_0 x0.cls.length c0_0, .slice a0_1 x0.next.length c0_1, .slice a0_2 x0.fin.length c0_2]] σ [] (PureP (.int .i64 r) σ) := by
 dsimp only [dfa_Check] at hh
 have f0_0b := f0_0.rv.big
 have f0_1b := f0_1.big
 have f0_2b := f0_2.rv.big
 refine Con.mk (n := 63) Tryz.func59 z z z (fun w0 => ?_)
 refine TC.a (TL.op z (boxA z z z z (fun b101 => ?_)))
 refine TL.i z z (TL.en (TC.a (TL.w z (fieldLoc z fo48_0 z) (TL.w z (loadLoc z ag44 z (i := 0) z z) ?_))))
 obtain ⟨v5, u5, hh⟩ := bnd_e hh
 refine TL.op z (OpOk.call (part_Sets_con f0_0 u5) z z pf96 z z z z ?_)
 rintro _ τ103 _ hle103 ⟨a103_1, c103_1, rfl, hr103_0, rfl⟩
 replace f0_1 := f0_1.mono hle103
 have hr103_0b := hr103_0.rv.big
 refine TL.w z (moveT (.inl z) z) (TL.w z (OpVal.extract z z z) (TL.w z (OpVal.extract z z z) (TL.s z z (TL.i z z (TL.en (TC.a (TL.w z (fieldLoc z fo48_1 z) (TL.w z (loadLoc z ag45 z (i := 0) z z) (TL.w z (lenC z underlying45 z) (TL.i z z (TL.en (TC.seq (TC.a (TL.i z z (TL.w z (OpVal.neq z z z) ?_)))))))))))))))
 refine TL.j z z (TL.split 21 z (fun h104 => ?_) (fun h104 => ?_))
 ·replace hh := iteO_t h104 hh
  replace h104 := of_decide_eq_true h104
  refine TL.f z (TL.f z (TL.w z (pickTB z z z) (TL.j z z (TL.f z (TL.f z (TL.w z (pickTB z z z) (TL.j z z (TL.f z (TL.f z (TL.f z (TL.f z (TL.f z (TL.w z (pickTB z z z) (TL.en (TC.t z ?_)))))))))))))))
  refine TC.a (TL.i z z (TL.en (TC.ofSub (Sub.pre 0 z) (TC.back (TC.ret (S.r ?_))))))
  obtain rfl := so hh
  exact rq [2] ⟨z, z, z⟩
 ·replace hh := iteO_f h104 hh
  replace h104 := of_decide_eq_false h104
  refine TL.g z (moveI (.inl z) z) (TL.g z (OpVal.lss z z z) (TL.w z (pickFB z z z) (TL.j z z (TL.split 25 z (fun h105 => ?_) (fun h105 => ?_)))))
  ·replace hh := iteO_t h105 hh
   replace h105 := of_decide_eq_true h105
   refine TL.f z (TL.f z (TL.w z (pickTB z z z) (TL.j z z (TL.f z (TL.f z (TL.f z (TL.f z (TL.f z (TL.w z (pickTB z z z) (TL.en (TC.t z (TC.a (TL.i z z (TL.en (TC.ofSub (Sub.pre 0 z) ?_)))))))))))))))
   refine TC.back (TC.ret (S.r ?_))
   obtain rfl := so hh
   exact rq [2] ⟨z, z, z⟩
  ·replace hh := iteO_f h105 hh
   replace h105 := of_decide_eq_false h105
   refine TL.g z (moveI (.inl z) z) (TL.g z (OpVal.gtr z z z) (TL.w z (pickFB z z z) (TL.j z z (TL.split 29 z (fun h106 => ?_) (fun h106 => ?_)))))
   ·replace hh := iteO_t h106 hh
    replace h106 := of_decide_eq_true h106
    refine TL.f z (TL.f z (TL.f z (TL.f z (TL.f z (TL.w z (pickTB z z z) (TL.en (TC.t z (TC.a (TL.i z z (TL.en (TC.ofSub (Sub.pre 0 z) (TC.back (TC.ret (S.r ?_))))))))))))))
    obtain rfl := so hh
    exact rq [2] ⟨z, z, z⟩
   ·replace hh := iteO_f h106 hh
    replace h106 := of_decide_eq_false h106
    refine TL.g z (fieldLoc z fo48_2 z) (TL.g z (loadLoc z ag46 z (i := 0) z z) (TL.g z (lenC z underlying46 z) (TL.g z (moveI (.inl z) z) (TL.g z (OpVal.neq z z z) (TL.w z (pickFB z z z) (TL.en (TC.cD z hh (fun h107 hh => ?_) (fun h107 hh => ?_))))))))
    ·refine TC.a (TL.i z z (TL.en (TC.ofSub (Sub.pre 0 z) (TC.back (TC.ret (S.r ?_))))))
     obtain rfl := so hh
     exact rq [2] ⟨z, z, z⟩
    ·refine TC.skip (S.n (TC.seq (TC.a (TL.w z (fieldLoc z fo48_1 z) (TL.w z (loadLoc z ag45 z (i := 0) z z) (TL.w z (lenC z underlying45 z) (TL.i z z (TL.en (TC.block (TC.loopG (α := (Nat) × (Unit)) (rgs [(2, 1), (7, 1), (9, 1), (39, 24)]) (fun g => [(39, .int .i64 ((g.1 : Nat) : Int))]) (fun g => []) (fun g => τ103) (fun g => iter (fun q : Nat => dfa_Check_b1 x0 v5 q) g.1 = some r) (fun g => rounds (fun q : Nat => dfa_Check_b1 x0 v5 q) g.1) (0, ()) (Sub.pre 0 z) z (by repeat (first | exact trivial | refine ⟨z, ?_⟩)) hh (fun g1 j1 hg1 => ?_)))))))))))
     obtain ⟨k110, _⟩ := g1
     have hh := hg1; clear hg1
     try dsimp only
     obtain ⟨z1, hh, hR1⟩ := iter_e hh
     dsimp only [dfa_Check_b1] at hh
     refine TC.a (TL.w z (OpVal.lss z z z) (TL.en (TC.seq (TC.cD z hh (fun h111 hh => ?_) (fun h111 hh => ?_)))))
     ·refine TC.skip (S.n (TC.seq (TC.block (TC.a (TL.w z (indexN z underlying45 sz44 z z f0_1.isSl (by omega)) ?_)))))
      obtain ⟨p112, hk112, hg112⟩ := RZ.seg f0_1 k110 (by omega)
      replace hk112 : RS _ 1 Go.E.encI (.slice p112.1 (nth x0.next k110 ([] : List Int)).length p112.2) (nth x0.next k110 ([] : List Int)) := hk112
      have hk112b := hk112.rv.big
      refine TL.w z (OpVal.of (loadSeg0 z ag44 z hg112 z) (v' := .slice p112.1 ((nth x0.next k110 ([] : List Int)).length) p112.2) z) (TL.s z z (TL.en (TC.seq (TC.a (TL.s z z (TL.w z (lenC z underlying44 z) (TL.s z z (TL.w z (lenC z underlying156 z) (TL.w z (OpVal.neq z z z) (TL.en (TC.cD z hh (fun h113 hh => ?_) (fun h113 hh => ?_))))))))))))
      ·refine TC.a (TL.i z z (TL.en (TC.back (TC.ret (S.r (B.r (S.r (S.r ?_))))))))
       replace hh := fin_x hR1 hh
       refine B.r (S.r ?_)
       obtain rfl := so hh
       exact rq [2] ⟨z, z, z⟩
      ·refine TC.skip (S.n (TC.a (TL.s z z (TL.w z (lenC z underlying44 z) (TL.i z z (TL.en (TC.block (TC.loopG (α := (Nat) × (Unit)) (rgs [(2, 1), (9, 1), (50, 12)]) (fun g => [(50, .int .i64 ((g.1 : Nat) : Int))]) (fun g => []) (fun g => τ103) (fun g => iter (fun q : Nat => dfa_Check_b2 x0 k110 q) g.1 = some z1) (fun g => rounds (fun q : Nat => dfa_Check_b2 x0 k110 q) g.1) (0, ()) (Sub.pre 0 z) z (by repeat (first | exact trivial | refine ⟨z, ?_⟩)) hh (fun g2 j2 hg2 => ?_)))))))))
       obtain ⟨k116, _⟩ := g2
       have hh := hg2; clear hg2
       try dsimp only
       obtain ⟨z2, hh, hR2⟩ := iter_e hh
       dsimp only [dfa_Check_b2] at hh
       refine TC.a (TL.w z (OpVal.lss z z z) (TL.en (TC.seq (TC.cD z hh (fun h117 hh => ?_) (fun h117 hh => ?_)))))
       ·refine TC.skip (S.n (TC.seq (TC.block (TC.a (TL.w z (indexN z underlying44 sz3 z z hk112.rv.sl (by omega)) (TL.w z (loadS1 (0 : Int) z ag3 z hk112 (by omega) z) (TL.i z z (TL.en (TC.a (TL.i z z (TL.w z (OpVal.lss z z z) (TL.j z z (TL.split 56 z (fun h118 => ?_) (fun h118 => ?_))))))))))))))
        ·replace hh := iteO_t h118 hh
         replace h118 := of_decide_eq_true h118
         refine TL.f z (TL.f z (TL.f z (TL.w z (pickTB z z z) (TL.en (TC.t z (TC.a (TL.i z z (TL.en (TC.back (TC.ret (B.r (S.r (S.r ?_)))))))))))))
         replace hh := fin_x hR2 hh
         refine B.r (B.r (S.r (S.r ?_)))
         replace hh := fin_x hR1 hh
         refine B.r (S.r ?_)
         obtain rfl := so hh
         exact rq [2] ⟨z, z, z⟩
        ·replace hh := iteO_f h118 hh
         replace h118 := of_decide_eq_false h118
         refine TL.g z (moveI (.inl z) z) (TL.g z (moveI (.inl z) z) (TL.g z (OpVal.geq z z z) (TL.w z (pickFB z z z) (TL.en (TC.cD z hh (fun h119 hh => ?_) (fun h119 hh => ?_))))))
         ·refine TC.a (TL.i z z (TL.en (TC.back (TC.ret (B.r (S.r (S.r ?_)))))))
          replace hh := fin_x hR2 hh
          refine B.r (B.r (S.r (S.r ?_)))
          replace hh := fin_x hR1 hh
          refine B.r (S.r ?_)
          obtain rfl := so hh
          exact rq [2] ⟨z, z, z⟩
         ·refine TC.skip (B.n (S.n (TC.region (TL.w z (OpVal.succ z z z (by omega)) (TL.i z z (TL.en ?_))))))
          obtain ⟨hh, hlt120⟩ := nxt_x hR2 hh
          exact lf ((k116 + 1), ()) hlt120 hh (Sub.pre 0 z)
       ·refine TC.exit (S.x (S.x ?_))
        replace hh := fin_x hR2 hh
        refine TC.exitHere (B.n (S.n (TC.region (TL.w z (OpVal.succ z z z (by omega)) (TL.i z z (TL.en ?_))))))
        obtain ⟨hh, hlt121⟩ := nxt_x hR1 hh
        exact lf ((k110 + 1), ()) hlt121 hh (Sub.pre 0 z)
     ·refine TC.exit (S.x (S.x ?_))
      replace hh := fin_x hR1 hh
      refine TC.exitHere (S.n (TC.a (TL.i z z (TL.en (TC.back (TC.ret ?_))))))
      obtain rfl := so hh
      exact rq [2] ⟨z, z, z⟩

noncomputable def dfa_unlike_j1 (k120 : Nat) (m124 : FM BSet Int) (l125 : List BSet) : Option (((FM BSet Int) × (List BSet) × Nat) ⊕ ((List BSet))) :=
 nxt (m124, l125, (k120 + 1))
noncomputable def dfa_unlike_b1 (x0 : List Arrow) (m115 : FM BSet Int) (l117 : List BSet) (k120 : Nat) : Option (((FM BSet Int) × (List BSet) × Nat) ⊕ ((List BSet))) :=
 iteO (decide (((k120 : Nat) : Int) < ((x0.length : Nat) : Int))) (iteO (!(m115.has ((nth x0 k120 Arrow.zero).set))) (grd ((l117.length + [(nth x0 k120 Arrow.zero).set].length) * 32 ≤ 140737488355328) (dfa_unlike_j1 k120 (m115.put ((nth x0 k120 Arrow.zero).set) ((l117.length : Nat) : Int)) (l117 ++ [(nth x0 k120 Arrow.zero).set]))) (dfa_unlike_j1 k120 m115 l117)) (fin (some l117))
noncomputable def dfa_unlike (x0 : List Arrow) : Option ((List BSet)) :=
 iter (fun q : (FM BSet Int) × (List BSet) × Nat => dfa_unlike_b1 x0 q.1 q.2.1 q.2.2) ((FM.emp : FM BSet Int), ([] : List BSet), 0)
def dfa_unlike_P (σ : Store) (r : (List BSet)) : Value → Store → List Res → Prop := fun v σ' H' =>
 ∃ (a1 : Option Addr), ∃ (c1 : Nat),  v = .slice a1 r.length c1 ∧ RS σ' 4 encSet (.slice a1 r.length c1) r ∧ H' = []
theorem dfa_unlike_con {σ : Store} {x0 : List Arrow} {a0_0 : Option Addr} {c0_0 : Nat} (f0_0 : RS σ 6 encE (.slice a0_0 x0.length c0_0) x0) {r : (List BSet)} (hh : dfa_unlike x0 = some r) :
  Con Tryz.prog 135 #[.slice a0_0 x0.length c0_0] σ [] (dfa_unlike_P σ r) := by
 dsimp only [dfa_unlike] at hh
 have f0_0b := f0_0.rv.big
 refine Con.mk (n := 37) Tryz.func135 z z z (fun w0 => ?_)
 refine TC.a (TL.s z z (TL.en (TC.a (TL.op z (makeMapB (enc := setV) (encV := keyI) z z z (fun b101 => ?_))))))
 refine TL.w z (moveMap (.inr z) z) (TL.en (TC.a (TL.s z z (TL.en (TC.seq (TC.a (TL.s z z (TL.w z (lenC z underlying151 z) (TL.i z z (TL.en (TC.block (TC.nilS 64 4 encSet (TC.loopG (α := ((FM BSet Int) × (List BSet) × Nat) × ((Option Addr) × Nat)) (rgs [(4, 1), (6, 3), (12, 24)]) (fun g => [(4, .slice g.2.1 g.1.2.1.length g.2.2), (12, .int .i64 ((g.1.2.2 : Nat) : Int))]) (fun g => [Res.mapB setV keyI (some b101) g.1.1, Res.rowS 64 4 encSet (.slice g.2.1 g.1.2.1.length g.2.2) g.1.2.1]) (fun g => σ) (fun g => iter (fun q : (FM BSet Int) × (List BSet) × Nat => dfa_unlike_b1 x0 q.1 q.2.1 q.2.2) g.1 = some r) (fun g => rounds (fun q : (FM BSet Int) × (List BSet) × Nat => dfa_unlike_b1 x0 q.1 q.2.1 q.2.2) g.1) (((FM.emp : FM BSet Int), ([] : List BSet), 0), (none, 0)) (Sub.f [1] 2) z (by repeat (first | exact trivial | refine ⟨z, ?_⟩)) hh (fun g1 j1 hg1 => ?_))))))))))))))
 obtain ⟨⟨m115, l117, k120⟩, ⟨a118, c119⟩⟩ := g1
 have hh := hg1; clear hg1
 try dsimp only
 obtain ⟨z1, hh, hR1⟩ := iter_e hh
 dsimp only [dfa_unlike_b1] at hh
 refine TC.isSl (i := 1) z (fun _ hb122 _ => ?_)
 refine TC.a (TL.w z (OpVal.lss z z z) (TL.en (TC.seq (TC.cD z hh (fun h123 hh => ?_) (fun h123 hh => ?_)))))
 ·refine TC.skip (S.n (TC.cutG (α := ((FM BSet Int) × (List BSet)) × ((Option Addr) × Nat)) (rgs [(4, 1), (6, 3), (14, 21)]) (fun g => [(4, .slice g.2.1 g.1.2.length g.2.2)]) (fun g => [Res.mapB setV keyI (some b101) g.1.1, Res.rowS 64 4 encSet (.slice g.2.1 g.1.2.length g.2.2) g.1.2]) (fun g => σ) (fun g => dfa_unlike_j1 k120 g.1.1 g.1.2 = some z1) ?_ (fun g j hg => ?_)))
  ·skip
   refine TC.block (TC.a (TL.w z (indexN z underlying151 sz195 z z f0_0.rv.sl (by omega)) (TL.w z (loadSA Arrow.zero z ag195 sz195 z f0_0 (by omega) (by omega)) (TL.op z (OpOk.alloc z ze195 z z (fun b128 => ?_))))))
   refine TL.op z (storeAll z sz195 z z z z z z ?_)
   refine TL.en (TC.a (TL.w z (moveMap (.inl z) z) (TL.w z (fieldLoc z fo195_2 z) (TL.w z (loadLocA z ag64 sz64 z (i := 0) z z z) (TL.w z (OpVal.of (lookB 0 (q := (nth x0 k120 Arrow.zero).set) z underlying246 ze3 z (i := 1) z z (keyL_set underlying64 underlying62 ag62 sz62)) (v' := .tuple #[.int .i64 (m115.get ((nth x0 k120 Arrow.zero).set) 0), .bool (m115.has ((nth x0 k120 Arrow.zero).set))]) z) (TL.w z (moveT (.inl z) z) (TL.w z (OpVal.extract z z z) (TL.w z (OpVal.extract z z z) (TL.i z z (TL.j z z (TL.en (TC.a (TL.j z z (TL.w z (OpVal.not z z) (TL.en ?_)))))))))))))))
   refine TC.cB z hh (fun h130 hh => ?_) (fun h130 hh => ?_)
   ·refine TC.a (TL.w z (moveMap (.inl z) z) (TL.w z (fieldLoc z fo195_2 z) (TL.w z (loadLocA z ag64 sz64 z (i := 0) z z z) (TL.s z z (TL.w z (lenC z underlying156 z) (TL.front 1 z z (TL.op z (updB ((nth x0 k120 Arrow.zero).set) ((l117.length : Nat) : Int) z underlying246 z z z z (keyL_set underlying64 underlying62 ag62 sz62) ?_))))))))
    refine TL.en (TC.region (TL.s z z (TL.w z (fieldLoc z fo195_2 z) (TL.w z (loadLocA z ag64 sz64 z (i := 1) z z z) (TL.op z (OpOk.lit (enc := encSet) [(nth x0 k120 Arrow.zero).set] z underlying156 sz64 ze64 z z z encSet_len (by decide) (by decide) BSet.zero z (by decide) z (by decide) encSet_one (fun a131 c132 => ?_)))))))
    refine TL.front 3 z z ?_
    have u34 := grd_c hh
    replace hh := grd_t hh
    refine TL.op z (appendS z z underlying156 sz64 by64 ze64 z z (by decide) z z z (.inr ⟨_, 0, z⟩) (by simpa using u34) (by decide) (fun a134 c135 => ?_))
    exact TL.s z z (TL.nil (B.n (S.n (cf (((m115.put ((nth x0 k120 Arrow.zero).set) ((l117.length : Nat) : Int)), (l117 ++ [(nth x0 k120 Arrow.zero).set])), (a134, c135)) hh (Sub.f [2] 2)))))
   ·exact TC.skip (B.n (S.n (cf ((m115, l117), (a118, c119)) hh (Sub.f [2, 2] 2))))
  ·skip
   obtain ⟨⟨m124, l125⟩, ⟨a126, c127⟩⟩ := g
   have hh := hg; clear hg
   try dsimp only
   dsimp only [dfa_unlike_j1] at hh
   refine TC.isSl (i := 1) z (fun _ hb136 _ => ?_)
   refine TC.region (TL.w z (OpVal.succ z z z (by omega)) (TL.i z z (TL.en ?_)))
   obtain ⟨hh, hlt137⟩ := nxt_x hR1 hh
   exact lf ((m124, l125, (k120 + 1)), (a126, c127)) hlt137 hh (Sub.f [1, 1] 2)
 ·refine TC.exit (S.x (S.x ?_))
  replace hh := fin_x hR1 hh
  refine TC.exitHere (S.n (TC.a (TL.s z z (TL.s z z (TL.en (TC.front 1 z z (TC.sealS encSet_len (fun τ140 hle139 hr138 => ?_))))))))
  have hr138b := hr138.rv.big
  refine TC.rt 0 ?_
  obtain rfl := so hh
  exact rq [2] ⟨a118, c119, z, hr138, z⟩

noncomputable def dfa_behind_j1 (k133 : Nat) (l136 : List Int) : Option (((List Int) × Nat) ⊕ (((List Int) × Nat) ⊕ ((List Int)))) :=
 nxt (l136, (k133 + 1))
noncomputable def dfa_behind_b2 (x0 : List (List Arrow)) (x1 : List Int) (k117 : Nat) (v4 : UInt8 × Bool) (l130 : List Int) (k133 : Nat) : Option (((List Int) × Nat) ⊕ (((List Int) × Nat) ⊕ ((List Int)))) :=
 iteO (decide (((k133 : Nat) : Int) < (((nth x0 ((nth x1 k117 (0 : Int)).toNat) ([] : List Arrow)).length : Nat) : Int))) (iteO (((nth (nth x0 ((nth x1 k117 (0 : Int)).toNat) ([] : List Arrow)) k133 Arrow.zero).set).has v4.1.toNat) (grd ((l130.length + [(nth (nth x0 ((nth x1 k117 (0 : Int)).toNat) ([] : List Arrow)) k133 Arrow.zero).to].length) * 8 ≤ 140737488355328) (dfa_behind_j1 k133 (l130 ++ [(nth (nth x0 ((nth x1 k117 (0 : Int)).toNat) ([] : List Arrow)) k133 Arrow.zero).to]))) (dfa_behind_j1 k133 l130)) (fin (nxt (l130, (k117 + 1))))
noncomputable def dfa_behind_b1 (x1 : List Int) (x0 : List (List Arrow)) (v4 : UInt8 × Bool) (l114 : List Int) (k117 : Nat) : Option (((List Int) × Nat) ⊕ ((List Int))) :=
 iteO (decide (((k117 : Nat) : Int) < ((x1.length : Nat) : Int))) (grd (0 ≤ (nth x1 k117 (0 : Int)) ∧ (nth x1 k117 (0 : Int)) < (x0.length : Int)) (iter (fun q : (List Int) × Nat => dfa_behind_b2 x0 x1 k117 v4 q.1 q.2) (l114, 0))) (fin (some l114))
noncomputable def dfa_behind (x0 : List (List Arrow)) (x1 : List Int) (x2 : BSet) : Option ((List Int)) :=
 bnd (set_First x2) (fun v4 => iter (fun q : (List Int) × Nat => dfa_behind_b1 x1 x0 v4 q.1 q.2) (([] : List Int), 0))
def dfa_behind_P (σ : Store) (r : (List Int)) : Value → Store → List Res → Prop := fun v σ' H' =>
 ∃ (a1 : Option Addr), ∃ (c1 : Nat),  v = .slice a1 r.length c1 ∧ σ = σ' ∧ H' = [Res.rowS 3 1 Go.E.encI (.slice a1 r.length c1) r]
theorem dfa_behind_con {σ : Store} {x0 : List (List Arrow)} {a0_0 : Option Addr} {c0_0 : Nat} {x1 : List Int} {a1_0 : Option Addr} {c1_0 : Nat} {x2 : BSet} (hgl : GT σ 1 encU8 deB) (f0_0 : RZ σ (pkSl 6 encE encE_len) (.slice a0_0 x0.length c0_0) x0) (f1_0 : RS σ 1 Go.E.encI (.slice a1_0 x1.length c1_0) x1) {r : (List Int)} (hh : dfa_behind x0 x1 x2 = some r) :
  Con Tryz.prog 142 #[.slice a0_0 x0.length c0_0, .slice a1_0 x1.length c1_0, setV x2] σ [] (dfa_behind_P σ r) := by
 dsimp only [dfa_behind] at hh
 have f0_0b := f0_0.big
 have f1_0b := f1_0.rv.big
 refine Con.mk (n := 46) Tryz.func142 z z z (fun w0 => ?_)
 refine TC.a (TL.op z (boxA z z z z (fun b101 => ?_)))
 refine TL.s z z (TL.en (TC.a (TL.w z (loadAll z ag64 sz64 z (i := 0) z z) ?_)))
 obtain ⟨v4, u4, hh⟩ := bnd_e hh
 refine TL.op z (callP (set_First_con hgl u4) z z pf110 z z z ?_)
 refine TL.w z (moveT (.inl z) z) (TL.w z (OpVal.extract z z z) (TL.w z (OpVal.extract z z z) (TL.i z z (TL.j z z (TL.en (TC.a (TL.s z z (TL.en (TC.seq (TC.a (TL.s z z (TL.w z (lenC z underlying44 z) (TL.i z z (TL.en (TC.block ?_)))))))))))))))
 refine TC.nilS 3 1 Go.E.encI (TC.loopG (α := ((List Int) × Nat) × ((Option Addr) × Nat)) (rgs [(9, 1), (11, 1), (13, 1), (21, 24)]) (fun g => [(9, .slice g.2.1 g.1.1.length g.2.2), (21, .int .i64 ((g.1.2 : Nat) : Int))]) (fun g => [Res.rowS 3 1 Go.E.encI (.slice g.2.1 g.1.1.length g.2.2) g.1.1]) (fun g => σ) (fun g => iter (fun q : (List Int) × Nat => dfa_behind_b1 x1 x0 v4 q.1 q.2) g.1 = some r) (fun g => rounds (fun q : (List Int) × Nat => dfa_behind_b1 x1 x0 v4 q.1 q.2) g.1) ((([] : List Int), 0), (none, 0)) (Sub.pre 1 z) z (by repeat (first | exact trivial | refine ⟨z, ?_⟩)) hh (fun g1 j1 hg1 => ?_))
 obtain ⟨⟨l114, k117⟩, ⟨a115, c116⟩⟩ := g1
 have hh := hg1; clear hg1
 try dsimp only
 obtain ⟨z1, hh, hR1⟩ := iter_e hh
 dsimp only [dfa_behind_b1] at hh
 refine TC.isSl (i := 0) z (fun _ hb119 _ => ?_)
 refine TC.a (TL.w z (OpVal.lss z z z) (TL.en (TC.seq (TC.cD z hh (fun h120 hh => ?_) (fun h120 hh => ?_)))))
 ·refine TC.skip (S.n (TC.seq (TC.block (TC.a (TL.w z (indexN z underlying44 sz3 z z f1_0.rv.sl (by omega)) (TL.w z (loadS1 (0 : Int) z ag3 z f1_0 (by omega) z) (TL.i z z (TL.en (TC.a (TL.s z z (TL.i z z ?_)))))))))))
  have u20 := grd_c hh
  replace hh := grd_t hh
  refine TL.w z (OpVal.index z underlying201 sz151 z z f0_0.isSl u20.1 u20.2) ?_
  obtain ⟨p121, hk121, hg121⟩ := RZ.seg f0_0 ((nth x1 k117 (0 : Int)).toNat) (by omega)
  replace hk121 : RS _ 6 encE (.slice p121.1 (nth x0 ((nth x1 k117 (0 : Int)).toNat) ([] : List Arrow)).length p121.2) (nth x0 ((nth x1 k117 (0 : Int)).toNat) ([] : List Arrow)) := hk121
  have hk121b := hk121.rv.big
  refine TL.w z (OpVal.of (loadSeg0 z ag151 z hg121 z) (v' := .slice p121.1 ((nth x0 ((nth x1 k117 (0 : Int)).toNat) ([] : List Arrow)).length) p121.2) z) (TL.w z (lenC z underlying151 z) (TL.i z z (TL.en (TC.block (TC.loopG (α := ((List Int) × Nat) × ((Option Addr) × Nat)) (rgs [(9, 1), (13, 1), (30, 14)]) (fun g => [(9, .slice g.2.1 g.1.1.length g.2.2), (30, .int .i64 ((g.1.2 : Nat) : Int))]) (fun g => [Res.rowS 3 1 Go.E.encI (.slice g.2.1 g.1.1.length g.2.2) g.1.1]) (fun g => σ) (fun g => iter (fun q : (List Int) × Nat => dfa_behind_b2 x0 x1 k117 v4 q.1 q.2) g.1 = some z1) (fun g => rounds (fun q : (List Int) × Nat => dfa_behind_b2 x0 x1 k117 v4 q.1 q.2) g.1) ((l114, 0), (a115, c116)) (Sub.pre 1 z) z (by repeat (first | exact trivial | refine ⟨z, ?_⟩)) hh (fun g2 j2 hg2 => ?_))))))
  obtain ⟨⟨l130, k133⟩, ⟨a131, c132⟩⟩ := g2
  have hh := hg2; clear hg2
  try dsimp only
  obtain ⟨z2, hh, hR2⟩ := iter_e hh
  dsimp only [dfa_behind_b2] at hh
  refine TC.isSl (i := 0) z (fun _ hb134 _ => ?_)
  refine TC.a (TL.w z (OpVal.lss z z z) (TL.en (TC.seq (TC.cD z hh (fun h135 hh => ?_) (fun h135 hh => ?_)))))
  ·refine TC.skip (S.n (TC.cutG (α := ((List Int)) × ((Option Addr) × Nat)) (rgs [(9, 1), (13, 1), (32, 11)]) (fun g => [(9, .slice g.2.1 g.1.length g.2.2)]) (fun g => [Res.rowS 3 1 Go.E.encI (.slice g.2.1 g.1.length g.2.2) g.1]) (fun g => σ) (fun g => dfa_behind_j1 k133 g.1 = some z2) ?_ (fun g j hg => ?_)))
   ·skip
    refine TC.block (TC.a (TL.w z (indexN z underlying151 sz195 z z hk121.rv.sl (by omega)) (TL.w z (loadSA Arrow.zero z ag195 sz195 z hk121 (by omega) (by omega)) (TL.op z (OpOk.alloc z ze195 z z (fun b139 => ?_))))))
    refine TL.op z (storeAll z sz195 z z z z z z ?_)
    refine TL.en (TC.a (TL.w z (fieldLoc z fo195_2 z) (TL.w z (loadLocA z ag64 sz64 z (i := 0) z z z) (TL.i z z (TL.op z (callP (has_con _ ((nth (nth x0 ((nth x1 k117 (0 : Int)).toNat) ([] : List Arrow)) k133 Arrow.zero).set) v4.1.toNat (BSet.isOk _) (UInt8.toNat_lt _)) z z pf87 z z z ?_))))))
    refine TL.en (TC.cB z hh (fun h141 hh => ?_) (fun h141 hh => ?_))
    ·refine TC.region (TL.s z z (TL.w z (fieldLoc z fo195_1 z) (TL.w z (loadLoc z ag3 z (i := 0) z z) (TL.op z (OpOk.lit (enc := Go.E.encI) [(nth (nth x0 ((nth x1 k117 (0 : Int)).toNat) ([] : List Arrow)) k133 Arrow.zero).to] z underlying44 sz3 ze3 z z z Go.E.encI_len (by decide) (by decide) (0 : Int) z (by decide) z (by decide) Go.E.encI_one (fun a142 c143 => ?_))))))
     refine TL.front 2 z z ?_
     have u37 := grd_c hh
     replace hh := grd_t hh
     refine TL.op z (appendS z z underlying44 sz3 by3 ze3 z z (by decide) z z z (.inr ⟨_, 0, z⟩) (by simpa using u37) (by decide) (fun a145 c146 => ?_))
     exact TL.s z z (TL.nil (B.n (S.n (cf ((l130 ++ [(nth (nth x0 ((nth x1 k117 (0 : Int)).toNat) ([] : List Arrow)) k133 Arrow.zero).to]), (a145, c146)) hh (Sub.pre 1 z)))))
    ·exact TC.skip (B.n (S.n (cf (l130, (a131, c132)) hh (Sub.f [1] 1))))
   ·skip
    obtain ⟨l136, ⟨a137, c138⟩⟩ := g
    have hh := hg; clear hg
    try dsimp only
    dsimp only [dfa_behind_j1] at hh
    refine TC.isSl (i := 0) z (fun _ hb147 _ => ?_)
    refine TC.region (TL.w z (OpVal.succ z z z (by omega)) (TL.i z z (TL.en ?_)))
    obtain ⟨hh, hlt148⟩ := nxt_x hR2 hh
    exact lf ((l136, (k133 + 1)), (a137, c138)) hlt148 hh (Sub.pre 1 z)
  ·refine TC.exit (S.x (S.x ?_))
   replace hh := fin_x hR2 hh
   refine TC.exitHere (B.n (S.n (TC.region (TL.w z (OpVal.succ z z z (by omega)) (TL.i z z (TL.en ?_))))))
   obtain ⟨hh, hlt149⟩ := nxt_x hR1 hh
   exact lf ((l130, (k117 + 1)), (a131, c132)) hlt149 hh (Sub.pre 1 z)
 ·refine TC.exit (S.x (S.x ?_))
  replace hh := fin_x hR1 hh
  refine TC.exitHere (S.n (TC.a (TL.s z z (TL.s z z (TL.en (TC.ret ?_))))))
  obtain rfl := so hh
  exact ro [Res.rowS 3 1 Go.E.encI (.slice a115 l114.length c116) l114] z (RVs.tmp z RVs.nil) ⟨a115, c116, z, z, z⟩

noncomputable def dfa_classes_1_b1 {Sy : Type} (x1 : List BSet) (Y : Sy → Int × BSet → Option (Sy × Bool)) (k111 : Nat) (s112 : Sy) : Option ((Nat × Sy) ⊕ (Sy)) :=
 iteO (decide (((k111 : Nat) : Int) < ((x1.length : Nat) : Int))) (bnd (Y s112 (((k111 : Nat) : Int), (nth x1 k111 BSet.zero))) (fun v14 => iteO (!v14.2) (fin (some v14.1)) (nxt ((k111 + 1), v14.1)))) (fin (some s112))
noncomputable def dfa_classes_1 {Sy : Type} (Y : Sy → Int × BSet → Option (Sy × Bool)) (s0 : Sy) (x1 : List BSet) : Option (Sy) :=
 iter (fun q : Nat × Sy => dfa_classes_1_b1 x1 Y q.1 q.2) (0, s0)
theorem dfa_classes_1_con {Sy : Type} {σ : Store} {Y : Sy → Int × BSet → Option (Sy × Bool)} {s0 : Sy} {x1 : List BSet} {b1_0 : Nat} {Eb1 : Nat} {a1_1 : Option Addr} {c1_2 : Nat} (f1_3 : RS σ 4 encSet (.slice a1_1 x1.length c1_2) x1) {r : Sy} (hh : dfa_classes_1 Y s0 x1 = some r) :
  IterOk Tryz.prog 178 [loc b1_0 0] (fun (x : Int × BSet) _ vs => vs = [.int .i64 x.1, setV x.2]) Y σ [Res.cells b1_0 #[.slice a1_1 x1.length c1_2] Eb1] s0 r (fun σ' H' => H' = [Res.cells b1_0 #[.slice a1_1 x1.length c1_2] Eb1]) := by
 intro l Z ry0 hY hys
 dsimp only [dfa_classes_1] at hh
 have f1_3b := f1_3.rv.big
 refine Con.mk (n := 18) Tryz.func178 z z z (fun w0 => ?_)
 refine TC.weakR (TC.a (TL.w z (loadLoc z ag156 z (i := 1) z z) (TL.w z (lenC z underlying156 z) (TL.i z z (TL.en (TC.block (TC.loopG (α := (Nat × Sy) × (Res × Store)) (rgs [(3, 2), (7, 11)]) (fun g => [(7, .int .i64 ((g.1.1 : Nat) : Int))]) (fun g => [Res.cells b1_0 #[.slice a1_1 x1.length c1_2] Eb1, g.2.1]) (fun g => g.2.2) (fun g => iter (fun q : Nat × Sy => dfa_classes_1_b1 x1 Y q.1 q.2) g.1 = some r ∧ YR Z g.1.2 g.2.2 g.2.1 ∧ Store.le σ g.2.2) (fun g => rounds (fun q : Nat × Sy => dfa_classes_1_b1 x1 Y q.1 q.2) g.1) ((0, s0), (ry0, σ)) (Sub.f [1] 2) z (by repeat (first | exact trivial | refine ⟨z, ?_⟩)) ⟨hh, hys, (Store.le.refl _)⟩ (fun g1 j1 hg1 => ?_))))))))
 obtain ⟨⟨k111, s112⟩, ⟨ry113, τ115⟩⟩ := g1
 obtain ⟨hh, hy114, hle116⟩ := hg1
 try dsimp only at hy114
 dsimp only at hle116
 replace f1_3 := f1_3.mono hle116
 try dsimp only
 obtain ⟨z1, hh, hR1⟩ := iter_e hh
 dsimp only [dfa_classes_1_b1] at hh
 skip
 refine TC.a (TL.w z (OpVal.lss z z z) (TL.en (TC.seq (TC.cD z hh (fun h117 hh => ?_) (fun h117 hh => ?_)))))
 ·refine TC.skip (S.n (TC.seq (TC.block (TC.a (TL.i z z (TL.w z (indexN z underlying156 sz64 z z f1_3.rv.sl (by omega)) (TL.w z (loadSA BSet.zero z ag64 sz64 z f1_3 (by omega) (by omega)) (TL.op z (OpOk.alloc z ze64 z z (fun b118 => ?_))))))))))
  refine TL.i z z (TL.op z (storeAll z sz64 z z z z z z ?_))
  refine TL.en (TC.a (TL.w z (OpVal.mv (.inl z)) (TL.i z z (TL.w z (loadAll z ag64 sz64 z (i := 0) z z) ?_))))
  obtain ⟨v14, u14, hh⟩ := bnd_e hh
  refine TL.front 2 z z (TL.op z (callY hY hy114 u14 z z z z z z ?_))
  rintro τ120 ry120 hle120 hy120
  refine TL.w z (OpVal.not z z) (TL.en (TC.cB z hh (fun h121 hh => ?_) (fun h121 hh => ?_)))
  ·refine TC.ofSub (Sub.f [2, 1] 2) (TC.ret (B.r (S.r (S.r ?_))))
   replace hh := fin_x hR1 hh
   refine B.r ?_
   obtain rfl := so hh
   refine ⟨_, Sub.f [1, 1] 2, ?_⟩
   exact ro [ry120, Res.cells b1_0 #[.slice a1_1 x1.length c1_2] Eb1] z RVs.nil ⟨_, _, z, hy120, z⟩
  ·refine TC.skip (B.n (S.n (TC.region (TL.w z (OpVal.succ z z z (by omega)) (TL.i z z (TL.en ?_))))))
   obtain ⟨hh, hlt122⟩ := nxt_x hR1 hh
   exact lf (((k111 + 1), v14.1), (ry120, τ120)) hlt122 ⟨hh, hy120, (hle116.trans hle120)⟩ (Sub.f [2] 2)
 ·refine TC.exit (S.x (S.x ?_))
  replace hh := fin_x hR1 hh
  refine TC.exitHere ?_
  obtain rfl := so hh
  refine ⟨_, Sub.f [1] 2, ?_⟩
  exact RetOk.mk' (rs := []) [ry113, Res.cells b1_0 #[.slice a1_1 x1.length c1_2] Eb1] z (.inr z) RVs.nil (List.sublist_append_left _ _) ⟨_, _, z, hy114, z⟩

noncomputable def dfa_classes (x0 : List BSet) : Option ((List BSet)) :=
 some x0
theorem dfa_classes_con {σ : Store} {x0 : List BSet} {a0_0 : Option Addr} {c0_0 : Nat} (f0_0 : RS σ 4 encSet (.slice a0_0 x0.length c0_0) x0) {r : (List BSet)} (hh : dfa_classes x0 = some r) :
  Con Tryz.prog 141 #[.slice a0_0 x0.length c0_0] σ [] (fun v σ' H' => ∃ (br4 : Nat), ∃ (ar1 : Option Addr), ∃ (cr2 : Nat), v = .func (.func 178) #[] #[loc br4 0] ∧ RS σ' 4 encSet (.slice ar1 r.length cr2) r ∧ H' = [Res.cells br4 #[.slice ar1 r.length cr2] 156]) := by
 dsimp only [dfa_classes] at hh
 have f0_0b := f0_0.rv.big
 refine Con.mk (n := 4) Tryz.func141 z z z (fun w0 => ?_)
 refine TC.a (TL.op z (OpOk.box z z z z (fun b103 => ?_)))
 refine TL.w z (OpVal.mv (.inr z)) (TL.en (TC.a (TL.w z (makeFn z) (TL.w z (moveFn (.inr z) z) (TL.en (TC.ret ?_))))))
 obtain rfl := so hh
 exact ro [Res.cells b103 #[.slice a0_0 x0.length c0_0] 156] z (RVs.tmp z RVs.nil) ⟨b103, a0_0, c0_0, z, f0_0, z⟩

end Go.Proofs.YtjhbngjhdmapmaaGreatDoor
end

/- S1b -/
section
/- Decompiled: an automaton that goes one way, from one that may go many. -/
set_option linter.unusedVariables false
set_option linter.unusedSimpArgs false
namespace Go.Proofs.YtjhbngjhdmapmaaGreatDoor
open Go Go.E Go.E.OpVal Go.E.OpOk Go.Proofs.Tryz
set_option maxRecDepth 100000
private theorem ag201 : Go.E.aggOf Tryz.prog 201 = some false := by kernel_rfl
private theorem ag202 : Go.E.aggOf Tryz.prog 202 = some false := by kernel_rfl
private theorem ag27 : Go.E.aggOf Tryz.prog 27 = some false := by kernel_rfl
private theorem ag48 : Go.E.aggOf Tryz.prog 48 = some true := by kernel_rfl
private theorem by151 : Go.E.byOf Tryz.prog 151 = some 24 := by kernel_rfl
private theorem by4 : Go.E.byOf Tryz.prog 4 = some 1 := by kernel_rfl
private theorem by44 : Go.E.byOf Tryz.prog 44 = some 24 := by kernel_rfl
private theorem pf133 : Go.E.plainF Tryz.prog 133 = true := by kernel_rfl
private theorem pf134 : Go.E.plainF Tryz.prog 134 = true := by kernel_rfl
private theorem pf135 : Go.E.plainF Tryz.prog 135 = true := by kernel_rfl
private theorem pf136 : Go.E.plainF Tryz.prog 136 = true := by kernel_rfl
private theorem pf137 : Go.E.plainF Tryz.prog 137 = true := by kernel_rfl
private theorem pf138 : Go.E.plainF Tryz.prog 138 = true := by kernel_rfl
private theorem pf139 : Go.E.plainF Tryz.prog 139 = true := by kernel_rfl
private theorem pf140 : Go.E.plainF Tryz.prog 140 = true := by kernel_rfl
private theorem pf141 : Go.E.plainF Tryz.prog 141 = true := by kernel_rfl
private theorem pf142 : Go.E.plainF Tryz.prog 142 = true := by kernel_rfl
private theorem pf178 : Go.E.plainF Tryz.prog 178 = true := by kernel_rfl
private theorem pl48 : Go.E.plOf Tryz.prog 48 = some #[(0, 1), (1, 1), (2, 1)] := by kernel_rfl
private theorem sz201 : Go.E.szOf Tryz.prog 201 = some 1 := by kernel_rfl
private theorem sz202 : Go.E.szOf Tryz.prog 202 = some 1 := by kernel_rfl
private theorem sz27 : Go.E.szOf Tryz.prog 27 = some 1 := by kernel_rfl
private theorem sz45 : Go.E.szOf Tryz.prog 45 = some 1 := by kernel_rfl
private theorem sz46 : Go.E.szOf Tryz.prog 46 = some 1 := by kernel_rfl
private theorem sz48 : Go.E.szOf Tryz.prog 48 = some 3 := by kernel_rfl
private theorem ze151 : Go.E.zeroOf Tryz.prog 151 = some (.slice none 0 0) := by kernel_rfl
private theorem ze201 : Go.E.zeroOf Tryz.prog 201 = some (.slice none 0 0) := by kernel_rfl
private theorem ze202 : Go.E.zeroOf Tryz.prog 202 = some (.pointer none) := by kernel_rfl
private theorem ze27 : Go.E.zeroOf Tryz.prog 27 = some (.int .i64 0) := by kernel_rfl
private theorem ze4 : Go.E.zeroOf Tryz.prog 4 = some (.bool false) := by kernel_rfl
private theorem ze44 : Go.E.zeroOf Tryz.prog 44 = some (.slice none 0 0) := by kernel_rfl
private theorem ze48 : Go.E.zeroOf Tryz.prog 48 = some (.agg #[.slice none 0 0, .slice none 0 0, .slice none 0 0]) := by kernel_rfl

noncomputable def dfa_Of_j1 (l130 : List (List Arrow)) (x0 : Nfa) (k134 : Nat) : Option (((List (List Arrow)) × Nat) ⊕ (Dfa × Int)) :=
 nxt ((l130.set (((nth x0.edges k134 Arrow.zero).frm).toNat) ((nth l130 (((nth x0.edges k134 Arrow.zero).frm).toNat) ([] : List Arrow)) ++ [(nth x0.edges k134 Arrow.zero)])), (k134 + 1))
noncomputable def dfa_Of_j2 (k323 : Nat) (t335 : Bool) : Option ((Bool × Nat) ⊕ ((Int × (List (List Int)) × (FM (List UInt8) Int) × (List (List Int)) × (List Bool) × Nat) ⊕ (Dfa × Int))) :=
 nxt (t335, (k323 + 1))
noncomputable def dfa_Of_r256 (l130 : List (List Arrow)) (v116 : (List Int) × Int) (i388 : Int) (l391 : List (List Int)) (m397 : FM (List UInt8) Int) (l401 : List Int) (y256_0 : Int) (y256_1 : BSet) : Option (Nat × (Int × (List (List Int)) × (FM (List UInt8) Int) × (List Int))) :=
 bnd (dfa_behind l130 v116.1 y256_1) (fun v161 => bnd (putKeep (⟨(⟨l391, m397⟩ : IStore)⟩ : ITable) v161) (fun v162 => iteO (decide (v162.2.2.1 ≠ 0)) (some (1, (v162.2.2.1, v162.2.2.2.of.rows, v162.2.2.2.of.places, l401))) (iteO (decide (1024 ≤ v162.1)) (some (1, (2, v162.2.2.2.of.rows, v162.2.2.2.of.places, l401))) (grd (0 ≤ y256_0 ∧ y256_0 < (l401.length : Int)) (some (0, (i388, v162.2.2.2.of.rows, v162.2.2.2.of.places, (l401.set y256_0.toNat v162.1))))))))
noncomputable def dfa_Of_k256 (l277 : List (List Int)) (l283 : List Bool) (t322 : Bool) (k286 : Nat) (jz : Nat) (i388 : Int) (l391 : List (List Int)) (m397 : FM (List UInt8) Int) (l401 : List Int) : Option ((Int × (List (List Int)) × (FM (List UInt8) Int) × (List (List Int)) × (List Bool) × Nat) ⊕ (Dfa × Int)) :=
 jsel jz (grd ((l277.length + [l401].length) * 24 ≤ 140737488355328) (grd ((l283.length + [t322].length) * 1 ≤ 140737488355328) (grd (k286 + 1 ≤ 9223372036854775807) (nxt (i388, l391, m397, (l277 ++ [l401]), (l283 ++ [t322]), (k286 + 1)))))) (fun j_ => jsel j_ (fin (some ((⟨([] : List Int), ([] : List (List Int)), ([] : List Bool)⟩ : Dfa), i388))) (fun _ => none))
noncomputable def dfa_Of_b4 (v116 : (List Int) × Int) (l193 : List Bool) (v13 : (List BSet) × Int) (l130 : List (List Arrow)) (i264 : Int) (l268 : List (List Int)) (m274 : FM (List UInt8) Int) (l277 : List (List Int)) (l283 : List Bool) (k286 : Nat) (t322 : Bool) (k323 : Nat) : Option ((Bool × Nat) ⊕ ((Int × (List (List Int)) × (FM (List UInt8) Int) × (List (List Int)) × (List Bool) × Nat) ⊕ (Dfa × Int))) :=
 iteO (decide (((k323 : Nat) : Int) < ((v116.1.length : Nat) : Int))) (iteO t322 (dfa_Of_j2 k323 true) (grd (0 ≤ (nth v116.1 k323 (0 : Int)) ∧ (nth v116.1 k323 (0 : Int)) < (l193.length : Int)) (dfa_Of_j2 k323 (nth l193 ((nth v116.1 k323 (0 : Int)).toNat) false)))) (fin (grd (8 * v13.1.length ≤ 281474976710656) (bnd (dfa_classes v13.1) (fun v153 => bnd (dfa_classes_1 (stepY (fun (q : Int × (List (List Int)) × (FM (List UInt8) Int) × (List Int)) (x : Int × BSet) => dfa_Of_r256 l130 v116 q.1 q.2.1 q.2.2.1 q.2.2.2 x.1 x.2)) (0, (i264, l268, m274, (List.replicate v13.1.length (0 : Int)))) v153) (fun zr256 => dfa_Of_k256 l277 l283 t322 k286 zr256.1 zr256.2.1 zr256.2.2.1 zr256.2.2.2.1 zr256.2.2.2.2)))))
noncomputable def dfa_Of_b3 (l193 : List Bool) (v13 : (List BSet) × Int) (l130 : List (List Arrow)) (v26 : (List Int) × Int) (i264 : Int) (l268 : List (List Int)) (m274 : FM (List UInt8) Int) (l277 : List (List Int)) (l283 : List Bool) (k286 : Nat) : Option ((Int × (List (List Int)) × (FM (List UInt8) Int) × (List (List Int)) × (List Bool) × Nat) ⊕ (Dfa × Int)) :=
 bnd (intern_Table_Size (⟨(⟨l268, m274⟩ : IStore)⟩ : ITable)) (fun v112 => iteO (decide (((k286 : Nat) : Int) < v112)) (bnd (intern_Table_Row (⟨(⟨l268, m274⟩ : IStore)⟩ : ITable) ((k286 : Nat) : Int)) (fun v116 => iteO (decide (v116.2 ≠ 0)) (fin (some ((⟨([] : List Int), ([] : List (List Int)), ([] : List Bool)⟩ : Dfa), v116.2))) (iter (fun q : Bool × Nat => dfa_Of_b4 v116 l193 v13 l130 i264 l268 m274 l277 l283 k286 q.1 q.2) (false, 0)))) (fin (some ((⟨v26.1, l277, l283⟩ : Dfa), 0))))
noncomputable def dfa_Of_b2 (x0 : Nfa) (v13 : (List BSet) × Int) (l130 : List (List Arrow)) (v26 : (List Int) × Int) (l193 : List Bool) (k195 : Nat) : Option (((List Bool) × Nat) ⊕ (Dfa × Int)) :=
 iteO (decide (((k195 : Nat) : Int) < ((x0.ends.length : Nat) : Int))) (grd (0 ≤ (nth x0.ends k195 (0 : Int)) ∧ (nth x0.ends k195 (0 : Int)) < (l193.length : Int)) (nxt ((l193.set ((nth x0.ends k195 (0 : Int)).toNat) true), (k195 + 1)))) (fin (bnd (intern_New) (fun v85 => bnd (intern_Table_Put (⟨(⟨v85.of.rows, v85.of.places⟩ : IStore)⟩ : ITable) x0.starts) (fun v91 => iteO (decide (v91.2.2.1 ≠ 0)) (some ((⟨([] : List Int), ([] : List (List Int)), ([] : List Bool)⟩ : Dfa), v91.2.2.1)) (iter (fun q : Int × (List (List Int)) × (FM (List UInt8) Int) × (List (List Int)) × (List Bool) × Nat => dfa_Of_b3 l193 v13 l130 v26 q.1 q.2.1 q.2.2.1 q.2.2.2.1 q.2.2.2.2.1 q.2.2.2.2.2) (0, v91.2.2.2.of.rows, v91.2.2.2.of.places, ([] : List (List Int)), ([] : List Bool), 0))))))
noncomputable def dfa_Of_b1 (x0 : Nfa) (v13 : (List BSet) × Int) (v26 : (List Int) × Int) (l130 : List (List Arrow)) (k134 : Nat) : Option (((List (List Arrow)) × Nat) ⊕ (Dfa × Int)) :=
 iteO (decide (((k134 : Nat) : Int) < ((x0.edges.length : Nat) : Int))) (grd (0 ≤ ((nth x0.edges k134 Arrow.zero).frm) ∧ ((nth x0.edges k134 Arrow.zero).frm) < (l130.length : Int)) (grd (((nth l130 (((nth x0.edges k134 Arrow.zero).frm).toNat) ([] : List Arrow)).length + [(nth x0.edges k134 Arrow.zero)].length) * 48 ≤ 140737488355328) (grd (0 ≤ ((nth x0.edges k134 Arrow.zero).frm) ∧ ((nth x0.edges k134 Arrow.zero).frm) < (l130.length : Int)) (dfa_Of_j1 l130 x0 k134)))) (fin (grd (0 ≤ x0.states ∧ 1 * x0.states.toNat ≤ 281474976710656) (iter (fun q : (List Bool) × Nat => dfa_Of_b2 x0 v13 l130 v26 q.1 q.2) ((List.replicate x0.states.toNat false), 0))))
noncomputable def dfa_Of (x0 : Nfa) : Option (Dfa × Int) :=
 iteO (decide ((errB (checkB x0)) ≠ 0)) (some ((⟨([] : List Int), ([] : List (List Int)), ([] : List Bool)⟩ : Dfa), 1)) (bnd (dfa_unlike x0.edges) (fun v12 => bnd (part_Parts v12) (fun v13 => iteO (decide (v13.2 ≠ 0)) (some ((⟨([] : List Int), ([] : List (List Int)), ([] : List Bool)⟩ : Dfa), v13.2)) (bnd (part_Class v13.1) (fun v26 => iteO (decide (v26.2 ≠ 0)) (some ((⟨([] : List Int), ([] : List (List Int)), ([] : List Bool)⟩ : Dfa), v26.2)) (grd (0 ≤ x0.states ∧ 24 * x0.states.toNat ≤ 281474976710656) (iter (fun q : (List (List Arrow)) × Nat => dfa_Of_b1 x0 v13 v26 q.1 q.2) ((List.replicate x0.states.toNat ([] : List Arrow)), 0))))))))
def dfa_Of_P (σ : Store) (r : Dfa × Int) : Value → Store → List Res → Prop := fun v σ' H' =>
 ∃ (a1 : Option Addr), ∃ (c1 : Nat), ∃ (a2 : Option Addr), ∃ (c2 : Nat), ∃ (a3 : Option Addr), ∃ (c3 : Nat),  v = .tuple #[.agg #[.slice a1 r.1.cls.length c1, .slice a2 r.1.next.length c2, .slice a3 r.1.fin.length c3], .int .i64 r.2] ∧ RS σ' 1 Go.E.encI (.slice a1 r.1.cls.length c1) r.1.cls ∧ RZ σ' (pkSl 1 Go.E.encI Go.E.encI_len) (.slice a2 r.1.next.length c2) r.1.next ∧ RS σ' 1 encB (.slice a3 r.1.fin.length c3) r.1.fin ∧ H' = []
set_option maxHeartbeats 8000000 in
theorem dfa_Of_con {σ : Store} {x0 : Nfa} {a0_0 : Option Addr} {c0_0 : Nat} {a0_1 : Option Addr} {c0_1 : Nat} {a0_2 : Option Addr} {c0_2 : Nat} (hgl : GT σ 1 encU8 deB) (f0_0 : RS σ 1 Go.E.encI (.slice a0_0 x0.starts.length c0_0) x0.starts) (f0_1 : RS σ 1 Go.E.encI (.slice a0_1 x0.ends.length c0_1) x0.ends) (f0_2 : RS σ 6 encE (.slice a0_2 x0.edges.length c0_2) x0.edges) {r : Dfa × Int} (hh : dfa_Of x0 = some r) :
  Con Tryz.prog 93 #[.agg #[.int .i64 x0.states, .slice a0_0 x0.starts.length c0_0, .slice a0_1 x0.ends.length c0_1, .slice a0_2 x0.edges.length c0_2]] σ [] (dfa_Of_P σ r) := by
 dsimp only [dfa_Of] at hh
 have f0_0b := f0_0.rv.big
 have f0_1b := f0_1.rv.big
 have f0_2b := f0_2.rv.big
 refine Con.mk (n := 177) Tryz.func93 z z z (fun w0 => ?_)
 refine TC.a (TL.op z (boxA z z z z (fun b101 => ?_)))
 refine TL.op z (OpOk.alloc z ze48 z z (fun b103 => ?_))
 refine TL.op z (OpOk.alloc z ze27 z z (fun b105 => ?_))
 refine TL.en (TC.seq (TC.a (TL.w z (loadAll z ag153 sz153 z (i := 2) z z) (TL.op z (callP (check_con _ x0 ⟨a0_0, c0_0, a0_1, c0_1, a0_2, c0_2⟩ ⟨f0_0, f0_1, f0_2, fun x _ => x.set.isOk⟩) z z pf133 z z z ?_)))))
 refine TL.w z (OpVal.neq z z z) (TL.en (TC.cD z hh (fun h107 hh => ?_) (fun h107 hh => ?_)))
 ·refine TC.a (TL.w z (buildL z pl48 ze48 z) (TL.front 1 z z (TL.op z (storeAll z sz48 z z z z z z ?_))))
  refine TL.front 1 z z (TL.op z (storeI z sz27 z z z z z ?_))
  refine TL.en (TC.ofSub (Sub.f [1] 2) (TC.ret (S.r ?_)))
  obtain rfl := so hh
  exact ro [] z (RVs.agg ag48 sz48 z (i := 0) z z (RVs.one ag27 z (i := 1) z z RVs.nil)) ⟨none, 0, none, 0, none, 0, z, (RS.nilF _ Go.E.encI Go.E.encI_len), (RZ.nilF _ (pkSl 1 Go.E.encI Go.E.encI_len)), (RS.nilF _ encB encB_len), z⟩
 ·refine TC.skip (S.n (TC.a (TL.w z (fieldLoc z fo153_3 z) (TL.w z (loadLoc z ag151 z (i := 2) z z) ?_))))
  obtain ⟨v12, u12, hh⟩ := bnd_e hh
  refine TL.op z (OpOk.call (dfa_unlike_con f0_2 u12) z z pf135 z z z z ?_)
  rintro _ τ108 _ hle108 ⟨a108_1, c108_1, rfl, hr108_0, rfl⟩
  replace f0_0 := f0_0.mono hle108
  replace f0_1 := f0_1.mono hle108
  replace f0_2 := f0_2.mono hle108
  replace hgl := hgl.mono hle108
  have hr108_0b := hr108_0.rv.big
  obtain ⟨v13, u13, hh⟩ := bnd_e hh
  refine TL.op z (OpOk.call (part_Parts_con hr108_0 u13) z z pf134 z z z z ?_)
  rintro _ τ109 _ hle109 ⟨a109_1, c109_1, rfl, hr109_0, rfl⟩
  replace f0_0 := f0_0.mono hle109
  replace f0_1 := f0_1.mono hle109
  replace f0_2 := f0_2.mono hle109
  replace hgl := hgl.mono hle109
  have hr109_0b := hr109_0.rv.big
  refine TL.w z (moveT (.inl z) z) (TL.w z (OpVal.extract z z z) (TL.w z (OpVal.extract z z z) (TL.s z z (TL.i z z (TL.en (TC.seq (TC.a (TL.i z z (TL.w z (OpVal.neq z z z) (TL.en (TC.cD z hh (fun h110 hh => ?_) (fun h110 hh => ?_))))))))))))
  ·refine TC.a (TL.w z (buildL z pl48 ze48 z) (TL.i z z (TL.front 1 z z (TL.op z (storeAll z sz48 z z z z z z ?_)))))
   refine TL.front 1 z z (TL.op z (storeI z sz27 z z z z z ?_))
   refine TL.en (TC.ofSub (Sub.f [1] 2) (TC.ret (S.r ?_)))
   obtain rfl := so hh
   exact ro [] z (RVs.agg ag48 sz48 z (i := 0) z z (RVs.one ag27 z (i := 1) z z RVs.nil)) ⟨none, 0, none, 0, none, 0, z, (RS.nilF _ Go.E.encI Go.E.encI_len), (RZ.nilF _ (pkSl 1 Go.E.encI Go.E.encI_len)), (RS.nilF _ encB encB_len), z⟩
  ·refine TC.skip (S.n (TC.a (TL.s z z ?_)))
   obtain ⟨v26, u26, hh⟩ := bnd_e hh
   refine TL.op z (OpOk.call (part_Class_con hgl hr109_0 u26) z z pf136 z z z z ?_)
   rintro _ τ111 _ hle111 ⟨a111_1, c111_1, rfl, hr111_0, rfl⟩
   replace f0_0 := f0_0.mono hle111
   replace f0_1 := f0_1.mono hle111
   replace f0_2 := f0_2.mono hle111
   replace hgl := hgl.mono hle111
   replace hr109_0 := hr109_0.mono hle111
   have hr111_0b := hr111_0.rv.big
   refine TL.w z (moveT (.inl z) z) (TL.w z (OpVal.extract z z z) (TL.w z (OpVal.extract z z z) (TL.s z z (TL.i z z (TL.en (TC.seq (TC.a (TL.i z z (TL.w z (OpVal.neq z z z) (TL.en (TC.cD z hh (fun h112 hh => ?_) (fun h112 hh => ?_))))))))))))
   ·refine TC.a (TL.w z (buildL z pl48 ze48 z) (TL.i z z (TL.front 1 z z (TL.op z (storeAll z sz48 z z z z z z ?_)))))
    refine TL.front 1 z z (TL.op z (storeI z sz27 z z z z z ?_))
    refine TL.en (TC.ofSub (Sub.f [1] 2) (TC.ret (S.r ?_)))
    obtain rfl := so hh
    exact ro [] z (RVs.agg ag48 sz48 z (i := 0) z z (RVs.one ag27 z (i := 1) z z RVs.nil)) ⟨none, 0, none, 0, none, 0, z, (RS.nilF _ Go.E.encI Go.E.encI_len), (RZ.nilF _ (pkSl 1 Go.E.encI Go.E.encI_len)), (RS.nilF _ encB encB_len), z⟩
   ·refine TC.skip (S.n (TC.a (TL.w z (fieldLoc z fo153_0 z) (TL.w z (loadLoc z ag3 z (i := 2) z z) ?_))))
    have u40 := grd_c hh
    replace hh := grd_t hh
    refine TL.op rfl (makeN (q := x0.states.toNat) (E := 195) (size := 6) (enc := encE) rfl underlying201 sz151 by151 ze151 rfl rfl (by show Value.int _ _ = _; rw [Int.toNat_of_nonneg u40.1]) (by show Value.int _ _ = _; rw [Int.toNat_of_nonneg u40.1]) (by omega) (by decide) rfl (fun a113 c114 zf115 => ?_))
    refine TL.op z (OpOk.alloc z ze201 z z (fun b117 => ?_))
    refine TL.op z (storeSl z sz201 z z z z z ?_)
    refine TL.en (TC.seq (TC.a (TL.w z (fieldLoc z fo153_3 z) (TL.w z (loadLoc z ag151 z (i := 4) z z) (TL.w z (lenC z underlying151 z) (TL.i z z (TL.en (TC.block (TC.loopG (α := ((List (List Arrow)) × Nat) × ((List (NP Arrow)))) (rgs [(9, 1), (60, 17)]) (fun g => [(60, .int .i64 ((g.1.2 : Nat) : Int))]) (fun g => [Res.cells b101 #[.int .i64 x0.states, .slice a0_0 x0.starts.length c0_0, .slice a0_1 x0.ends.length c0_1, .slice a0_2 x0.edges.length c0_2] 153, Res.cells b103 #[.slice none 0 0, .slice none 0 0, .slice none 0 0] 48, Res.cells b105 #[.int .i64 0] 27, Res.cells b117 #[.slice a113 ((List.replicate x0.states.toNat ([] : List Arrow)).length) c114] 201, Res.nest 151 195 6 encE (.slice a113 (List.replicate x0.states.toNat ([] : List Arrow)).length c114) g.2]) (fun g => τ111) (fun g => iter (fun q : (List (List Arrow)) × Nat => dfa_Of_b1 x0 v13 v26 q.1 q.2) g.1 = some r ∧ g.1.1.length = (List.replicate x0.states.toNat ([] : List Arrow)).length ∧ Zn g.2 g.1.1) (fun g => rounds (fun q : (List (List Arrow)) × Nat => dfa_Of_b1 x0 v13 v26 q.1 q.2) g.1) (((List.replicate x0.states.toNat ([] : List Arrow)), 0), (List.replicate x0.states.toNat (nilN : NP Arrow))) (Sub.f [1, 1, 2, 3, 4] 5) z (by repeat (first | exact trivial | refine ⟨z, ?_⟩)) ⟨hh, z, zf115⟩ (fun g1 j1 hg1 => ?_))))))))))
    obtain ⟨⟨l130, k134⟩, z132⟩ := g1
    obtain ⟨hh, hn131, zf133⟩ := hg1
    try dsimp only at hn131 zf133 ⊢
    obtain ⟨z1, hh, hR1⟩ := iter_e hh
    dsimp only [dfa_Of_b1] at hh
    have hn131b := hn131
    have zf133b := zf133.len
    refine TC.know (isSl_nest (q := 4) z zf133) (fun ⟨_, hb135⟩ => ?_)
    refine TC.a (TL.w z (OpVal.lss z z z) (TL.en (TC.seq (TC.cD z hh (fun h136 hh => ?_) (fun h136 hh => ?_)))))
    ·refine TC.skip (S.n (TC.cutG (α := (Unit) × ((List (NP Arrow)))) (rgs [(9, 1), (62, 14)]) (fun g => []) (fun g => [Res.cells b101 #[.int .i64 x0.states, .slice a0_0 x0.starts.length c0_0, .slice a0_1 x0.ends.length c0_1, .slice a0_2 x0.edges.length c0_2] 153, Res.cells b103 #[.slice none 0 0, .slice none 0 0, .slice none 0 0] 48, Res.cells b105 #[.int .i64 0] 27, Res.cells b117 #[.slice a113 ((List.replicate x0.states.toNat ([] : List Arrow)).length) c114] 201, Res.nest 151 195 6 encE (.slice a113 (List.replicate x0.states.toNat ([] : List Arrow)).length c114) g.2]) (fun g => τ111) (fun g => dfa_Of_j1 l130 x0 k134 = some z1 ∧ (l130.set (((nth x0.edges k134 Arrow.zero).frm).toNat) ((nth l130 (((nth x0.edges k134 Arrow.zero).frm).toNat) ([] : List Arrow)) ++ [(nth x0.edges k134 Arrow.zero)])).length = (List.replicate x0.states.toNat ([] : List Arrow)).length ∧ Zn g.2 (l130.set (((nth x0.edges k134 Arrow.zero).frm).toNat) ((nth l130 (((nth x0.edges k134 Arrow.zero).frm).toNat) ([] : List Arrow)) ++ [(nth x0.edges k134 Arrow.zero)]))) ?_ (fun g j hg => ?_)))
     ·skip
      refine TC.block (TC.a (TL.w z (indexN z underlying151 sz195 z z f0_2.rv.sl (by omega)) (TL.w z (loadSA Arrow.zero z ag195 sz195 z f0_2 (by omega) (by omega)) (TL.op z (OpOk.alloc z ze195 z z (fun b140 => ?_))))))
      refine TL.op z (storeAll z sz195 z z z z z z ?_)
      refine TL.en ?_
      have u58 := grd_c hh
      replace hh := grd_t hh
      have u62 := grd_c hh
      replace hh := grd_t hh
      have u63 := grd_c hh
      replace hh := grd_t hh
      refine TC.drawR (Hr := [Res.cells b140 #[.int .i64 ((nth x0.edges k134 Arrow.zero).frm), .int .i64 ((nth x0.edges k134 Arrow.zero).to), .int .u64 ((((nth x0.edges k134 Arrow.zero).set).a : Nat) : Int), .int .u64 ((((nth x0.edges k134 Arrow.zero).set).b : Nat) : Int), .int .u64 ((((nth x0.edges k134 Arrow.zero).set).c : Nat) : Int), .int .u64 ((((nth x0.edges k134 Arrow.zero).set).d : Nat) : Int)] 195, Res.cells b101 #[.int .i64 x0.states, .slice a0_0 x0.starts.length c0_0, .slice a0_1 x0.ends.length c0_1, .slice a0_2 x0.edges.length c0_2] 153, Res.cells b103 #[.slice none 0 0, .slice none 0 0, .slice none 0 0] 48, Res.cells b105 #[.int .i64 0] 27, Res.cells b117 #[.slice a113 ((List.replicate x0.states.toNat ([] : List Arrow)).length) c114] 201]) (fun r hr => mem_pick [0, 1, 2, 3, 4] z hr) [] (by kernel_rfl) (TA.b 0 z (loadLoc z ag201 z (i := 4) z z) z (TA.a 1 z (fieldLoc z fo195_0 z) z (TA.b 2 z (loadLoc z ag3 z (i := 0) z z) z (TA.b 3 z (loadLoc z ag201 z (i := 4) z z) z (TA.a 4 z (fieldLoc z fo195_0 z) z (TA.b 5 z (loadLoc z ag3 z (i := 0) z z) z (TA.know (isSl_nest (q := 5) z zf133) (fun ⟨hs153, hs153b⟩ => ?_))))))))
      refine TA.b 6 z (OpVal.index z underlying201 sz151 z z hs153 u58.1 u58.2) z (TA.b 8 z (loadAll z ag195 sz195 z (i := 0) z z) z ?_)
      obtain ⟨p154, hz154, hm154⟩ := Zn.at zf133 (i := ((nth x0.edges k134 Arrow.zero).frm).toNat) (by omega)
      refine TA.actN [7, 9] (by kernel_rfl) (an z z (OpVal.ok (loadN z ag151 z (q := 5) z hz154 hm154) z z ⟨(fun w h => sees_of (Store.le.refl _) (fun r hr => mem_pick [0, 1, 2, 3, 4] z hr) w h), ?_⟩) (an z z (OpOk.lit (enc := encE) [(nth x0.edges k134 Arrow.zero)] z underlying151 sz195 ze195 z z z encE_len (by decide) (by decide) Arrow.zero z (by decide) z (by decide) encE_one (fun a155 c156 => ⟨(fun w h => sees_of (Store.le.refl _) (fun r hr => mem_pick [1, 2, 3, 4, 5] z hr) w h), ?_⟩)) (True.intro)))
      ·skip
       refine TA.ac 9 z (OpOk.lit (enc := encE) [(nth x0.edges k134 Arrow.zero)] z underlying151 sz195 ze195 z z z encE_len (by decide) (by decide) Arrow.zero z (by decide) z (by decide) encE_one (fun a158 c159 => ⟨(fun w h => sees_of (Store.le.refl _) (fun r hr => mem_pick [1, 2, 3, 4, 5] z hr) w h), ?_⟩))
       refine TA.front 6 z z (TA.by (fun w h => Reach.takeN hz154 hm154 h) (TA.ac 10 z (appendS z z underlying151 sz195 by195 ze195 z z (by decide) z z z (.inr ⟨_, 1, z⟩) (by simpa using u62) (by decide) (fun a162 c163 => (k3 ?_)))))
       refine TA.know (isSl_nestX (q := 1) z zf133) (fun ⟨hs164, hs164b⟩ => ?_)
       refine TA.b 11 z (OpVal.index z underlying201 sz151 z z hs164 u63.1 u63.2) z (TA.front 1 z z (TA.front 1 z z ?_))
       have hn166 : (l130.set (((nth x0.edges k134 Arrow.zero).frm).toNat) ((nth l130 (((nth x0.edges k134 Arrow.zero).frm).toNat) ([] : List Arrow)) ++ [(nth x0.edges k134 Arrow.zero)])).length = (List.replicate x0.states.toNat ([] : List Arrow)).length := (List.length_set ..).trans hn131
       refine TA.ac 12 rfl (storeX (l' := ((nth l130 (((nth x0.edges k134 Arrow.zero).frm).toNat) ([] : List Arrow)) ++ [(nth x0.edges k134 Arrow.zero)])) rfl sz151 rfl rfl rfl rfl rfl (by rw [zf133.len]; omega) zf133 (fun zf165 => (k2 ?_)))
       exact TA.dn (B.n (S.n (cf ((), (z132.set (((nth x0.edges k134 Arrow.zero).frm).toNat) (((nth l130 (((nth x0.edges k134 Arrow.zero).frm).toNat) ([] : List Arrow)) ++ [(nth x0.edges k134 Arrow.zero)]), (a162, c163)))) ⟨hh, hn166, zf165⟩ (Sub.f [6, 6, 6, 6] 5))))
      ·skip
       obtain ⟨p167, hz167, hm167⟩ := Zn.at zf133 (i := ((nth x0.edges k134 Arrow.zero).frm).toNat) (by omega)
       refine TA.ac 7 z (OpVal.ok (loadN z ag151 z (q := 6) z hz167 hm167) z z ⟨(fun w h => sees_of (Store.le.refl _) (fun r hr => mem_pick [1, 2, 3, 4, 5] z hr) w h), ?_⟩)
       refine TA.front 6 z z (TA.by (fun w h => Reach.takeN hz167 hm167 h) (TA.ac 10 z (appendS z z underlying151 sz195 by195 ze195 z z (by decide) z z z (.inr ⟨_, 1, z⟩) (by simpa using u62) (by decide) (fun a169 c170 => (k3 ?_)))))
       refine TA.know (isSl_nestX (q := 1) z zf133) (fun ⟨hs171, hs171b⟩ => ?_)
       refine TA.b 11 z (OpVal.index z underlying201 sz151 z z hs171 u63.1 u63.2) z (TA.front 1 z z (TA.front 1 z z ?_))
       have hn173 : (l130.set (((nth x0.edges k134 Arrow.zero).frm).toNat) ((nth l130 (((nth x0.edges k134 Arrow.zero).frm).toNat) ([] : List Arrow)) ++ [(nth x0.edges k134 Arrow.zero)])).length = (List.replicate x0.states.toNat ([] : List Arrow)).length := (List.length_set ..).trans hn131
       refine TA.ac 12 rfl (storeX (l' := ((nth l130 (((nth x0.edges k134 Arrow.zero).frm).toNat) ([] : List Arrow)) ++ [(nth x0.edges k134 Arrow.zero)])) rfl sz151 rfl rfl rfl rfl rfl (by rw [zf133.len]; omega) zf133 (fun zf172 => (k2 ?_)))
       exact TA.dn (B.n (S.n (cf ((), (z132.set (((nth x0.edges k134 Arrow.zero).frm).toNat) (((nth l130 (((nth x0.edges k134 Arrow.zero).frm).toNat) ([] : List Arrow)) ++ [(nth x0.edges k134 Arrow.zero)]), (a169, c170)))) ⟨hh, hn173, zf172⟩ (Sub.f [6, 6, 6, 6] 5))))
     ·skip
      obtain ⟨_, z138⟩ := g
      obtain ⟨hh, hn137, zf139⟩ := hg
      try dsimp only at hn137 zf139 ⊢
      dsimp only [dfa_Of_j1] at hh
      have hn137b := hn137
      have zf139b := zf139.len
      refine TC.know (isSl_nest (q := 4) z zf139) (fun ⟨_, hb174⟩ => ?_)
      refine TC.region (TL.w z (OpVal.succ z z z (by omega)) (TL.i z z (TL.en ?_)))
      obtain ⟨hh, hlt175⟩ := nxt_x hR1 hh
      exact lf (((l130.set (((nth x0.edges k134 Arrow.zero).frm).toNat) ((nth l130 (((nth x0.edges k134 Arrow.zero).frm).toNat) ([] : List Arrow)) ++ [(nth x0.edges k134 Arrow.zero)])), (k134 + 1)), z138) hlt175 ⟨hh, hn137, zf139⟩ (Sub.f [4, 4, 4, 4, 4] 5)
    ·refine TC.exit (S.x (S.x ?_))
     replace hh := fin_x hR1 hh
     refine TC.exitHere (S.n (TC.a (TL.w z (fieldLoc z fo153_0 z) (TL.w z (loadLoc z ag3 z (i := 0) z z) ?_))))
     have u69 := grd_c hh
     replace hh := grd_t hh
     refine TL.op rfl (makeS2 (m := x0.states.toNat) (enc := encB) false rfl underlying46 sz4 by4 ze4 rfl rfl (by show Value.int _ _ = _; rw [Int.toNat_of_nonneg u69.1]) (by show Value.int _ _ = _; rw [Int.toNat_of_nonneg u69.1]) (by omega) (by decide) encB_len (by decide) rfl encB_one (fun a176 c177 => ?_))
     refine TL.s z z (TL.en (TC.seq (TC.a (TL.w z (fieldLoc z fo153_2 z) (TL.w z (loadLoc z ag44 z (i := 1) z z) (TL.w z (lenC z underlying44 z) (TL.i z z (TL.en (TC.block (TC.loopG (α := ((List Bool) × Nat) × (Unit)) (rgs [(12, 1), (83, 8)]) (fun g => [(83, .int .i64 ((g.1.2 : Nat) : Int))]) (fun g => [Res.cells b101 #[.int .i64 x0.states, .slice a0_0 x0.starts.length c0_0, .slice a0_1 x0.ends.length c0_1, .slice a0_2 x0.edges.length c0_2] 153, Res.cells b103 #[.slice none 0 0, .slice none 0 0, .slice none 0 0] 48, Res.cells b105 #[.int .i64 0] 27, Res.cells b117 #[.slice a113 ((List.replicate x0.states.toNat ([] : List Arrow)).length) c114] 201, Res.nest 151 195 6 encE (.slice a113 (List.replicate x0.states.toNat ([] : List Arrow)).length c114) z132, Res.rowS 4 1 encB (.slice a176 (List.replicate x0.states.toNat false).length c177) g.1.1]) (fun g => τ111) (fun g => iter (fun q : (List Bool) × Nat => dfa_Of_b2 x0 v13 l130 v26 q.1 q.2) g.1 = some r ∧ l130.length = (List.replicate x0.states.toNat ([] : List Arrow)).length ∧ Zn z132 l130 ∧ g.1.1.length = (List.replicate x0.states.toNat false).length) (fun g => rounds (fun q : (List Bool) × Nat => dfa_Of_b2 x0 v13 l130 v26 q.1 q.2) g.1) (((List.replicate x0.states.toNat false), 0), ()) (Sub.f [5, 5, 5, 5, 5] 6) z (by repeat (first | exact trivial | refine ⟨z, ?_⟩)) ⟨hh, hn131, zf133, z⟩ (fun g2 j2 hg2 => ?_)))))))))))
     obtain ⟨⟨l193, k195⟩, _⟩ := g2
     obtain ⟨hh, hn191, zf192, hn194⟩ := hg2
     try dsimp only at hn191 zf192 hn194 ⊢
     obtain ⟨z1, hh, hR1⟩ := iter_e hh
     dsimp only [dfa_Of_b2] at hh
     have hn191b := hn191
     have zf192b := zf192.len
     have hn194b := hn194
     refine TC.know (isSl_nest (q := 4) z zf192) (fun ⟨_, hb196⟩ => ?_)
     refine TC.isSl (i := 5) z (fun _ hb197 _ => ?_)
     refine TC.a (TL.w z (OpVal.lss z z z) (TL.en (TC.seq (TC.cD z hh (fun h198 hh => ?_) (fun h198 hh => ?_)))))
     ·refine TC.skip (S.n (TC.seq (TC.block (TC.a (TL.w z (indexN z underlying44 sz3 z z f0_1.rv.sl (by omega)) (TL.w z (loadS1 (0 : Int) z ag3 z f0_1 (by omega) z) (TL.i z z (TL.en (TC.region (TL.s z z (TL.i z z ?_)))))))))))
      have u81 := grd_c hh
      replace hh := grd_t hh
      refine TL.isSl (i := 5) z (fun hs199 _ _ => ?_)
      refine TL.w z (OpVal.index z underlying46 sz4 z z hs199 u81.1 u81.2) (TL.front 5 z z ?_)
      have hn200 : (l193.set ((nth x0.ends k195 (0 : Int)).toNat) true).length = (List.replicate x0.states.toNat false).length := by rw [List.length_set]; exact hn194
      refine TL.op z (storeS true z sz4 z z z z encB_len encB_one (by omega) (by omega) ?_)
      refine TL.nil (B.n (S.n (TC.region (TL.w z (OpVal.succ z z z (by omega)) (TL.i z z (TL.en ?_))))))
      obtain ⟨hh, hlt201⟩ := nxt_x hR1 hh
      exact lf (((l193.set ((nth x0.ends k195 (0 : Int)).toNat) true), (k195 + 1)), ()) hlt201 ⟨hh, hn191, zf192, hn200⟩ (Sub.f [5, 5, 5, 5, 5] 6)
     ·refine TC.exit (S.x (S.x ?_))
      replace hh := fin_x hR1 hh
      refine TC.exitHere (S.n (TC.a ?_))
      obtain ⟨v85, u85, hh⟩ := bnd_e hh
      refine TL.op z (OpOk.call (intern_New_con u85) z z pf137 z z z z ?_)
      rintro _ τ202 _ hle202 ⟨b202_1, a202_2, c202_3, z202_4, b202_6, rfl, zf202_5, rfl⟩
      replace f0_0 := f0_0.mono hle202
      replace hgl := hgl.mono hle202
      replace hr109_0 := hr109_0.mono hle202
      replace hr111_0 := hr111_0.mono hle202
      have zf202_5b := zf202_5.length
      refine TL.op z (OpOk.alloc z ze202 z z (fun b206 => ?_))
      refine TL.op z (storeLoc z sz202 z z z z z ?_)
      refine TL.en (TC.seq (TC.a (TL.w z (loadLoc z ag202 z (i := 0) z z) (TL.w z (fieldLoc z fo153_1 z) (TL.w z (loadLoc z ag44 z (i := 4) z z) (TL.front 3 z z (TL.front 3 z z (TL.front 3 z z ?_))))))))
      obtain ⟨v91, u91, hh⟩ := bnd_e hh
      refine TL.op z (OpOk.call (intern_Table_Put_con zf202_5 f0_0 u91) z z pf138 z z z z ?_)
      rintro _ τ208 _ hle208 ⟨a208_1, c208_2, z208_3, b208_5, rfl, zf208_4, rfl⟩
      replace hgl := hgl.mono hle208
      replace hr109_0 := hr109_0.mono hle208
      replace hr111_0 := hr111_0.mono hle208
      have zf208_4b := zf208_4.length
      refine TL.w z (moveT (.inl z) z) (TL.w z (OpVal.extract z z z) (TL.w z (OpVal.extract z z z) (TL.w z (OpVal.extract z z z) (TL.i z z (TL.j z z (TL.i z z (TL.en (TC.a (TL.i z z (TL.w z (OpVal.neq z z z) (TL.en (TC.cD z hh (fun h211 hh => ?_) (fun h211 hh => ?_)))))))))))))
      ·refine TC.a (TL.w z (buildL z pl48 ze48 z) (TL.i z z (TL.front 5 z z (TL.op z (storeAll z sz48 z z z z z z ?_)))))
       refine TL.front 6 z z (TL.op z (storeI z sz27 z z z z z ?_))
       refine TL.en (TC.ofSub (Sub.f [1] 2) (TC.ret (S.r ?_)))
       obtain rfl := so hh
       exact ro [] z (RVs.agg ag48 sz48 z (i := 0) z z (RVs.one ag27 z (i := 1) z z RVs.nil)) ⟨none, 0, none, 0, none, 0, z, (RS.nilF _ Go.E.encI Go.E.encI_len), (RZ.nilF _ (pkSl 1 Go.E.encI Go.E.encI_len)), (RS.nilF _ encB encB_len), z⟩
      ·refine TC.skip (S.n (TC.a (TL.s z z (TL.w z (buildL z pl48 ze48 z) (TL.op z (OpOk.alloc z ze48 z z (fun b212 => ?_)))))))
       refine TL.op z (storeAll z sz48 z z z z z z ?_)
       refine TL.en (TC.seq (TC.a (TL.i z z (TL.en (TC.block ?_)))))
       rw [← hn191]
       refine TC.front 9 z z (TC.seals (fun w h => Reach.sealNest encE_len zf192 h) (fun τ289 hle288 hr287 => ?_))
       replace hgl := hgl.mono hle288
       replace hr109_0 := hr109_0.mono hle288
       replace hr111_0 := hr111_0.mono hle288
       replace zf208_4 := zf208_4.mono hle288
       have hr287b := hr287.big
       refine TC.nilS 44 1 (pkSl 1 Go.E.encI Go.E.encI_len).en ?_
       have zf290 := ZOk.nil τ289 (pkSl 1 Go.E.encI Go.E.encI_len)
       refine TC.nilS 4 1 encB (TC.loopG (α := (Int × (List (List Int)) × (FM (List UInt8) Int) × (List (List Int)) × (List Bool) × Nat) × ((Option Addr) × Nat × (List (List Int × (pkSl 1 Go.E.encI Go.E.encI_len).P)) × Nat × (Option Addr) × Nat × (List (List Int × (pkSl 1 Go.E.encI Go.E.encI_len).P)) × (Option Addr) × Nat × Store)) (rgs [(18, 4), (23, 2), (106, 35), (164, 12)]) (fun g => [(18, .int .i64 ((g.1.2.2.2.2.2 : Nat) : Int))]) (fun g => [Res.cells b103 #[.slice none 0 0, .slice none 0 0, .slice none 0 0] 48, Res.cells b105 #[.int .i64 g.1.1] 27, Res.cells b117 #[.slice a113 l130.length c114] 201, Res.rowS 4 1 encB (.slice a176 (List.replicate x0.states.toNat false).length c177) l193, Res.cells b206 #[loc b202_1 0] 202, Res.cells b202_1 #[.slice g.2.1 g.1.2.1.length g.2.2.1, .map (some g.2.2.2.2.1)] 250, Res.rowS 44 1 (pkSl 1 Go.E.encI Go.E.encI_len).en (.slice g.2.1 g.1.2.1.length g.2.2.1) g.2.2.2.1, Res.mapB keyS keyI (some g.2.2.2.2.1) g.1.2.2.1, Res.cells b212 #[.slice a111_1 v26.1.length c111_1, .slice g.2.2.2.2.2.1 g.1.2.2.2.1.length g.2.2.2.2.2.2.1, .slice g.2.2.2.2.2.2.2.2.1 g.1.2.2.2.2.1.length g.2.2.2.2.2.2.2.2.2.1] 48, Res.rowS 44 1 (pkSl 1 Go.E.encI Go.E.encI_len).en (.slice g.2.2.2.2.2.1 g.1.2.2.2.1.length g.2.2.2.2.2.2.1) g.2.2.2.2.2.2.2.1, Res.rowS 4 1 encB (.slice g.2.2.2.2.2.2.2.2.1 g.1.2.2.2.2.1.length g.2.2.2.2.2.2.2.2.2.1) g.1.2.2.2.2.1]) (fun g => g.2.2.2.2.2.2.2.2.2.2) (fun g => iter (fun q : Int × (List (List Int)) × (FM (List UInt8) Int) × (List (List Int)) × (List Bool) × Nat => dfa_Of_b3 l193 v13 l130 v26 q.1 q.2.1 q.2.2.1 q.2.2.2.1 q.2.2.2.2.1 q.2.2.2.2.2) g.1 = some r ∧ RZ g.2.2.2.2.2.2.2.2.2.2 (pkSl 6 encE encE_len) (.slice a113 l130.length c114) l130 ∧ l193.length = (List.replicate x0.states.toNat false).length ∧ ZOk g.2.2.2.2.2.2.2.2.2.2 (pkSl 1 Go.E.encI Go.E.encI_len) g.2.2.2.1 g.1.2.1 ∧ ZOk g.2.2.2.2.2.2.2.2.2.2 (pkSl 1 Go.E.encI Go.E.encI_len) g.2.2.2.2.2.2.2.1 g.1.2.2.2.1 ∧ Store.le τ289 g.2.2.2.2.2.2.2.2.2.2) (fun g => rounds (fun q : Int × (List (List Int)) × (FM (List UInt8) Int) × (List (List Int)) × (List Bool) × Nat => dfa_Of_b3 l193 v13 l130 v26 q.1 q.2.1 q.2.2.1 q.2.2.2.1 q.2.2.2.2.1 q.2.2.2.2.2) g.1) ((0, v91.2.2.2.of.rows, v91.2.2.2.of.places, ([] : List (List Int)), ([] : List Bool), 0), (a208_1, c208_2, z208_3, b208_5, none, 0, [], none, 0, τ289)) (Sub.f [1, 2, 5, 5, 5, 6, 11, 11, 11, 11] 11) z (by repeat (first | exact trivial | refine ⟨z, ?_⟩)) ⟨hh, hr287, hn194, zf208_4, zf290, (Store.le.refl _)⟩ (fun g3 j3 hg3 => ?_))
       obtain ⟨⟨i264, l268, m274, l277, l283, k286⟩, ⟨a269, c270, z271, b275, a278, c279, z280, a284, c285, τ293⟩⟩ := g3
       obtain ⟨hh, hr265, hn266, zf272, zf281, hle294⟩ := hg3
       try dsimp only at hr265
       try dsimp only at hn266
       try dsimp only at zf272
       try dsimp only at zf281
       dsimp only at hle294
       replace hgl := hgl.mono hle294
       replace hr109_0 := hr109_0.mono hle294
       replace hr111_0 := hr111_0.mono hle294
       try dsimp only
       obtain ⟨z1, hh, hR1⟩ := iter_e hh
       dsimp only [dfa_Of_b3] at hh
       have hr265b := hr265.big
       have hn266b := hn266
       have zf272b := zf272.length
       have zf281b := zf281.length
       refine TC.isSl (i := 3) z (fun _ hb295 _ => ?_)
       refine TC.isSl (i := 6) z (fun _ hb296 _ => ?_)
       refine TC.isSl (i := 9) z (fun _ hb297 _ => ?_)
       refine TC.isSl (i := 10) z (fun _ hb298 _ => ?_)
       refine TC.seq (TC.a (TL.i z z (TL.w z (loadLoc z ag202 z (i := 4) z z) (TL.front 7 z z (TL.front 7 z z (TL.front 7 z z ?_))))))
       obtain ⟨v112, u112, hh⟩ := bnd_e hh
       refine TL.op z (OpOk.call (intern_Table_Size_con zf272 u112) z z pf139 z z z z ?_)
       rintro _ _ _ hle299 ⟨rfl, rfl, rfl⟩
       refine TL.w z (OpVal.lss z z z) (TL.en (TC.cD z hh (fun h300 hh => ?_) (fun h300 hh => ?_)))
       ·refine TC.skip (S.n (TC.seq (TC.block (TC.a (TL.w z (loadLoc z ag202 z (i := 7) z z) (TL.i z z (TL.front 2 z z (TL.front 2 z z (TL.front 2 z z ?_)))))))))
        obtain ⟨v116, u116, hh⟩ := bnd_e hh
        refine TL.op z (OpOk.call (intern_Table_Row_con zf272 u116) z z pf140 z z z z ?_)
        rintro _ _ _ hle301 ⟨a301_1, c301_2, rfl, rfl, rfl⟩
        refine TL.w z (moveT (.inl z) z) (TL.w z (OpVal.extract z z z) (TL.w z (OpVal.extract z z z) (TL.op z (OpOk.alloc z ze44 z z (fun b303 => ?_)))))
        refine TL.op z (storeSl z sz44 z z z z z ?_)
        refine TL.i z z (TL.en (TC.seq (TC.a (TL.i z z (TL.w z (OpVal.neq z z z) (TL.en (TC.cD z hh (fun h305 hh => ?_) (fun h305 hh => ?_))))))))
        ·refine TC.a (TL.w z (buildL z pl48 ze48 z) (TL.i z z (TL.front 5 z z (TL.op z (storeAll z sz48 z z z z z z ?_)))))
         refine TL.front 6 z z (TL.op z (storeI z sz27 z z z z z ?_))
         refine TL.en (TC.ofSub (Sub.f [1] 2) (TC.ret (S.r (B.r (S.r (S.r ?_))))))
         replace hh := fin_x hR1 hh
         refine B.r (S.r ?_)
         obtain rfl := so hh
         exact ro [] z (RVs.agg ag48 sz48 z (i := 0) z z (RVs.one ag27 z (i := 1) z z RVs.nil)) ⟨none, 0, none, 0, none, 0, z, (RS.nilF _ Go.E.encI Go.E.encI_len), (RZ.nilF _ (pkSl 1 Go.E.encI Go.E.encI_len)), (RS.nilF _ encB encB_len), z⟩
        ·refine TC.skip (S.n (TC.a (TL.j z z (TL.en (TC.seq (TC.a (TL.w z (loadLoc z ag44 z (i := 0) z z) (TL.w z (lenC z underlying44 z) (TL.i z z (TL.en (TC.block (TC.loopG (α := (Bool × Nat) × (Store)) (rgs [(21, 1), (23, 1), (124, 12)]) (fun g => [(21, .bool g.1.1), (124, .int .i64 ((g.1.2 : Nat) : Int))]) (fun g => [Res.cells b103 #[.slice none 0 0, .slice none 0 0, .slice none 0 0] 48, Res.cells b105 #[.int .i64 i264] 27, Res.cells b117 #[.slice a113 l130.length c114] 201, Res.rowS 4 1 encB (.slice a176 (List.replicate x0.states.toNat false).length c177) l193, Res.cells b206 #[loc b202_1 0] 202, Res.cells b202_1 #[.slice a269 l268.length c270, .map (some b275)] 250, Res.rowS 44 1 (pkSl 1 Go.E.encI Go.E.encI_len).en (.slice a269 l268.length c270) z271, Res.mapB keyS keyI (some b275) m274, Res.cells b212 #[.slice a111_1 v26.1.length c111_1, .slice a278 l277.length c279, .slice a284 l283.length c285] 48, Res.rowS 44 1 (pkSl 1 Go.E.encI Go.E.encI_len).en (.slice a278 l277.length c279) z280, Res.rowS 4 1 encB (.slice a284 l283.length c285) l283, Res.cells b303 #[.slice a301_1 v116.1.length c301_2] 44, Res.rowS 3 1 Go.E.encI (.slice a301_1 v116.1.length c301_2) v116.1]) (fun g => g.2) (fun g => iter (fun q : Bool × Nat => dfa_Of_b4 v116 l193 v13 l130 i264 l268 m274 l277 l283 k286 q.1 q.2) g.1 = some z1 ∧ l193.length = (List.replicate x0.states.toNat false).length ∧ ZOk g.2 (pkSl 1 Go.E.encI Go.E.encI_len) z271 l268 ∧ ZOk g.2 (pkSl 1 Go.E.encI Go.E.encI_len) z280 l277 ∧ Store.le τ293 g.2) (fun g => rounds (fun q : Bool × Nat => dfa_Of_b4 v116 l193 v13 l130 i264 l268 m274 l277 l283 k286 q.1 q.2) g.1) ((false, 0), τ293) (Sub.f [1, 1, 12, 12, 12, 7, 7, 7, 12, 12, 12, 12, 12] 13) z (by repeat (first | exact trivial | refine ⟨z, ?_⟩)) ⟨hh, hn266, zf272, zf281, (Store.le.refl _)⟩ (fun g4 j4 hg4 => ?_)))))))))))))
         obtain ⟨⟨t322, k323⟩, τ324⟩ := g4
         obtain ⟨hh, hn319, zf320, zf321, hle325⟩ := hg4
         try dsimp only at hn319
         try dsimp only at zf320
         try dsimp only at zf321
         dsimp only at hle325
         replace hgl := hgl.mono hle325
         replace hr109_0 := hr109_0.mono hle325
         replace hr111_0 := hr111_0.mono hle325
         replace hr265 := hr265.mono hle325
         replace zf281 := zf281.mono hle325
         try dsimp only
         obtain ⟨z2, hh, hR2⟩ := iter_e hh
         dsimp only [dfa_Of_b4] at hh
         have hn319b := hn319
         have zf320b := zf320.length
         have zf321b := zf321.length
         refine TC.isSl (i := 3) z (fun _ hb326 _ => ?_)
         refine TC.isSl (i := 6) z (fun _ hb327 _ => ?_)
         refine TC.isSl (i := 9) z (fun _ hb328 _ => ?_)
         refine TC.isSl (i := 10) z (fun _ hb329 _ => ?_)
         refine TC.isSl (i := 12) z (fun _ hb330 _ => ?_)
         refine TC.a (TL.w z (OpVal.lss z z z) (TL.en (TC.seq (TC.cD z hh (fun h331 hh => ?_) (fun h331 hh => ?_)))))
         ·refine TC.skip (S.n (TC.cutG (α := (Bool) × (Store)) (rgs [(21, 1), (23, 1), (126, 9)]) (fun g => [(21, .bool g.1)]) (fun g => [Res.cells b103 #[.slice none 0 0, .slice none 0 0, .slice none 0 0] 48, Res.cells b105 #[.int .i64 i264] 27, Res.cells b117 #[.slice a113 l130.length c114] 201, Res.rowS 4 1 encB (.slice a176 (List.replicate x0.states.toNat false).length c177) l193, Res.cells b206 #[loc b202_1 0] 202, Res.cells b202_1 #[.slice a269 l268.length c270, .map (some b275)] 250, Res.rowS 44 1 (pkSl 1 Go.E.encI Go.E.encI_len).en (.slice a269 l268.length c270) z271, Res.mapB keyS keyI (some b275) m274, Res.cells b212 #[.slice a111_1 v26.1.length c111_1, .slice a278 l277.length c279, .slice a284 l283.length c285] 48, Res.rowS 44 1 (pkSl 1 Go.E.encI Go.E.encI_len).en (.slice a278 l277.length c279) z280, Res.rowS 4 1 encB (.slice a284 l283.length c285) l283, Res.cells b303 #[.slice a301_1 v116.1.length c301_2] 44, Res.rowS 3 1 Go.E.encI (.slice a301_1 v116.1.length c301_2) v116.1]) (fun g => g.2) (fun g => dfa_Of_j2 k323 g.1 = some z2 ∧ l193.length = (List.replicate x0.states.toNat false).length ∧ ZOk g.2 (pkSl 1 Go.E.encI Go.E.encI_len) z271 l268 ∧ ZOk g.2 (pkSl 1 Go.E.encI Go.E.encI_len) z280 l277 ∧ Store.le τ324 g.2) ?_ (fun g j hg => ?_)))
          ·skip
           refine TC.block (TC.a (TL.isSl (i := 12) z (fun hs336 _ _ => ?_)))
           refine TL.w z (indexN z underlying44 sz3 z z hs336 (by omega)) (TL.w z (loadO1 (0 : Int) z ag3 z (q := 12) z Go.E.encI_len (by omega) z) (TL.i z z (TL.en (TC.region (TL.j z z (TL.j z z (TL.split 129 z (fun h337 => ?_) (fun h337 => ?_))))))))
           ·replace hh := iteO_t h337 hh
            exact TL.f z (TL.f z (TL.f z (TL.f z (TL.w z (pickTB z z z) (TL.j z z (TL.nil (B.n (S.n (cf (true, τ324) ⟨hh, hn319, zf320, zf321, (Store.le.refl _)⟩ (Sub.f [12, 12, 12, 12, 12, 12, 12, 12, 12, 12, 12, 12, 12] 13))))))))))
           ·replace hh := iteO_f h337 hh
            refine TL.g z (moveSl (.inl z) z) (TL.g z (moveI (.inl z) z) ?_)
            have u141 := grd_c hh
            replace hh := grd_t hh
            refine TL.isSl (i := 3) z (fun hs338 _ _ => ?_)
            exact TL.g z (OpVal.index z underlying46 sz4 z z hs338 u141.1 u141.2) (TL.g z (loadO1 false z ag4 z (q := 3) z encB_len (by omega) z) (TL.w z (pickFB z z z) (TL.j z z (TL.nil (B.n (S.n (cf ((nth l193 ((nth v116.1 k323 (0 : Int)).toNat) false), τ324) ⟨hh, hn319, zf320, zf321, (Store.le.refl _)⟩ (Sub.f [12, 12, 12, 12, 12, 12, 12, 12, 12, 12, 12, 12, 12] 13))))))))
          ·skip
           obtain ⟨t335, τ339⟩ := g
           obtain ⟨hh, hn332, zf333, zf334, hle340⟩ := hg
           try dsimp only at hn332
           try dsimp only at zf333
           try dsimp only at zf334
           dsimp only at hle340
           replace hgl := hgl.mono hle340
           replace hr109_0 := hr109_0.mono hle340
           replace hr111_0 := hr111_0.mono hle340
           replace hr265 := hr265.mono hle340
           replace zf281 := zf281.mono hle340
           replace zf320 := zf320.mono hle340
           replace zf321 := zf321.mono hle340
           try dsimp only
           dsimp only [dfa_Of_j2] at hh
           have hn332b := hn332
           have zf333b := zf333.length
           have zf334b := zf334.length
           refine TC.isSl (i := 3) z (fun _ hb341 _ => ?_)
           refine TC.isSl (i := 6) z (fun _ hb342 _ => ?_)
           refine TC.isSl (i := 9) z (fun _ hb343 _ => ?_)
           refine TC.isSl (i := 10) z (fun _ hb344 _ => ?_)
           refine TC.isSl (i := 12) z (fun _ hb345 _ => ?_)
           refine TC.region (TL.w z (OpVal.succ z z z (by omega)) (TL.i z z (TL.en ?_)))
           obtain ⟨hh, hlt346⟩ := nxt_x hR2 hh
           exact lf ((t335, (k323 + 1)), τ339) hlt346 ⟨hh, hn332, zf333, zf334, (hle325.trans hle340)⟩ (Sub.f [12, 12, 12, 12, 12, 12, 12, 12, 12, 12, 12, 12, 12] 13)
         ·refine TC.exit (S.x (S.x ?_))
          replace hh := fin_x hR2 hh
          refine TC.exitHere (S.n (TC.a (TL.s z z (TL.w z (lenC z underlying156 z) ?_))))
          have u149 := grd_c hh
          replace hh := grd_t hh
          refine TL.op z (makeS2 (enc := Go.E.encI) (0 : Int) z underlying44 sz3 by3 ze3 z z z z (by omega) (by decide) Go.E.encI_len (by decide) z Go.E.encI_one (fun a347 c348 => ?_))
          refine TL.op z (OpOk.alloc z ze44 z z (fun b350 => ?_))
          refine TL.op z (storeSl z sz44 z z z z z ?_)
          refine TL.en (TC.seq (TC.a (TL.s z z ?_)))
          obtain ⟨v153, u153, hh⟩ := bnd_e hh
          refine TL.op z (OpOk.call (dfa_classes_con hr109_0 u153) z z pf141 z z z z ?_)
          rintro _ τ352 _ hle352 ⟨b352_4, a352_1, c352_2, rfl, f352_3, rfl⟩
          replace hgl := hgl.mono hle352
          replace hr111_0 := hr111_0.mono hle352
          replace hr265 := hr265.mono hle352
          replace zf281 := zf281.mono hle352
          replace zf320 := zf320.mono hle352
          replace zf321 := zf321.mono hle352
          have f352_3b := f352_3.rv.big
          refine TL.en (TC.block (TC.front 15 z z (TC.sealS Go.E.encI_len (fun τ405 hle404 hr403 => ?_))))
          replace hgl := hgl.mono hle404
          replace hr111_0 := hr111_0.mono hle404
          replace hr265 := hr265.mono hle404
          replace zf281 := zf281.mono hle404
          replace zf320 := zf320.mono hle404
          replace zf321 := zf321.mono hle404
          replace f352_3 := f352_3.mono hle404
          have hr403b := hr403.rv.big
          refine TC.ofSub (Sub.f [2, 2, 14, 14, 14, 14, 14, 14, 14, 14, 14, 14, 14, 14] 15) ?_
          obtain ⟨zr256, hz256, hh⟩ := bnd_e hh
          obtain ⟨jz256, ⟨i388, l391, m397, l401⟩⟩ := zr256
          dsimp only at hh
          refine TC.rangeG (A := (fun (x : Int × BSet) _ vs => vs = [.int .i64 x.1, setV x.2])) [.ret] (fun (q : Int × (List (List Int)) × (FM (List UInt8) Int) × (List Int)) (x : Int × BSet) => dfa_Of_r256 l130 v116 q.1 q.2.1 q.2.2.1 q.2.2.2 x.1 x.2) (fun (q : Int × (List (List Int)) × (FM (List UInt8) Int) × (List Int)) (τ406 : Store) Hs => ∃ (a392 : Option Addr), ∃ (c393 : Nat), ∃ (z394 : List (List Int × (pkSl 1 Go.E.encI Go.E.encI_len).P)), ∃ (b398 : Nat), Hs = [Res.cells b103 #[.slice none 0 0, .slice none 0 0, .slice none 0 0] 48, Res.cells b105 #[.int .i64 q.1] 27, Res.cells b117 #[.slice a113 l130.length c114] 201, Res.rowS 4 1 encB (.slice a176 (List.replicate x0.states.toNat false).length c177) l193, Res.cells b206 #[loc b202_1 0] 202, Res.cells b202_1 #[.slice a392 q.2.1.length c393, .map (some b398)] 250, Res.rowS 44 1 (pkSl 1 Go.E.encI Go.E.encI_len).en (.slice a392 q.2.1.length c393) z394, Res.mapB keyS keyI (some b398) q.2.2.1, Res.cells b212 #[.slice a111_1 v26.1.length c111_1, .slice a278 l277.length c279, .slice a284 l283.length c285] 48, Res.rowS 44 1 (pkSl 1 Go.E.encI Go.E.encI_len).en (.slice a278 l277.length c279) z280, Res.rowS 4 1 encB (.slice a284 l283.length c285) l283, Res.cells b303 #[.slice a301_1 v116.1.length c301_2] 44, Res.cells b350 #[.slice a347 ((List.replicate v13.1.length (0 : Int)).length) c348] 44, Res.rowS 3 1 Go.E.encI (.slice a347 (List.replicate v13.1.length (0 : Int)).length c348) q.2.2.2] ∧ l193.length = (List.replicate x0.states.toNat false).length ∧ ZOk τ406 (pkSl 1 Go.E.encI Go.E.encI_len) z394 q.2.1 ∧ ZOk τ406 (pkSl 1 Go.E.encI Go.E.encI_len) z280 l277 ∧ RS τ406 1 Go.E.encI (.slice a301_1 v116.1.length c301_2) v116.1 ∧ q.2.2.2.length = (List.replicate v13.1.length (0 : Int)).length) (s := (i264, l268, m274, (List.replicate v13.1.length (0 : Int)))) rfl pf178 rfl rfl (by rintro _ _ _ _ ⟨a392, c393, z394, b398, rfl, hn389, zf395, zf399, hr400, hn402⟩ hle_; exact ⟨a392, c393, z394, b398, rfl, hn389, zf395.mono hle_, zf399.mono hle_, hr400.mono hle_, hn402⟩) ⟨a269, c270, z271, b275, rfl, hn319, zf320, zf321, hr403, rfl⟩ (fun _ _ _ h_ => by subst h_; rfl) (dfa_classes_1_con f352_3 hz256) ?_ ?_
          ·clear hh hz256
           rintro l_ _ _ _ τ406 ⟨i388, l391, m397, l401⟩ ⟨y256_0, y256_1⟩ z256 _ _ hh hle407 rfl ⟨a392, c393, z394, b398, rfl, hn389, zf395, zf399, hr400, hn402⟩
           dsimp only [dfa_Of_r256] at hh
           replace hgl := hgl.mono hle407
           replace hr111_0 := hr111_0.mono hle407
           replace hr265 := hr265.mono hle407
           replace zf281 := zf281.mono hle407
           have hn389b := hn389
           have zf395b := zf395.length
           have zf399b := zf399.length
           have hr400b := hr400.rv.big
           have hn402b := hn402
           show TC _ _ _ (upds _ [(142, setV y256_1), (141, .int .i64 y256_0)]) τ406 [Res.cells b103 #[.slice none 0 0, .slice none 0 0, .slice none 0 0] 48, Res.cells b105 #[.int .i64 i388] 27, Res.cells b117 #[.slice a113 l130.length c114] 201, Res.rowS 4 1 encB (.slice a176 (List.replicate x0.states.toNat false).length c177) l193, Res.cells b206 #[loc b202_1 0] 202, Res.cells b202_1 #[.slice a392 l391.length c393, .map (some b398)] 250, Res.rowS 44 1 (pkSl 1 Go.E.encI Go.E.encI_len).en (.slice a392 l391.length c393) z394, Res.mapB keyS keyI (some b398) m397, Res.cells b212 #[.slice a111_1 v26.1.length c111_1, .slice a278 l277.length c279, .slice a284 l283.length c285] 48, Res.rowS 44 1 (pkSl 1 Go.E.encI Go.E.encI_len).en (.slice a278 l277.length c279) z280, Res.rowS 4 1 encB (.slice a284 l283.length c285) l283, Res.cells b303 #[.slice a301_1 v116.1.length c301_2] 44, Res.cells b350 #[.slice a347 ((List.replicate v13.1.length (0 : Int)).length) c348] 44, Res.rowS 3 1 Go.E.encI (.slice a347 (List.replicate v13.1.length (0 : Int)).length c348) l401]
           refine TC.isSl (i := 3) z (fun _ hb408 _ => ?_)
           refine TC.isSl (i := 6) z (fun _ hb409 _ => ?_)
           refine TC.isSl (i := 9) z (fun _ hb410 _ => ?_)
           refine TC.isSl (i := 10) z (fun _ hb411 _ => ?_)
           refine TC.isSl (i := 13) z (fun _ hb412 _ => ?_)
           refine TC.a (TL.i z z (TL.en (TC.region (TL.op z (OpOk.alloc z ze64 z z (fun b413 => ?_))))))
           refine TL.op z (storeAll z sz64 z z z z z z ?_)
           refine TL.nil (asg_n (fun _ _ _ => ?_))
           refine TC.block (TC.seq ?_)
           obtain ⟨v161, u161, hh⟩ := bnd_e hh
           obtain ⟨v162, u162, hh⟩ := bnd_e hh
           refine TC.drawR (Hr := [Res.cells b413 (setA y256_1) 64, Res.cells b103 #[.slice none 0 0, .slice none 0 0, .slice none 0 0] 48, Res.cells b105 #[.int .i64 i388] 27, Res.cells b117 #[.slice a113 l130.length c114] 201, Res.rowS 4 1 encB (.slice a176 (List.replicate x0.states.toNat false).length c177) l193, Res.cells b206 #[loc b202_1 0] 202, Res.cells b212 #[.slice a111_1 v26.1.length c111_1, .slice a278 l277.length c279, .slice a284 l283.length c285] 48, Res.rowS 44 1 (pkSl 1 Go.E.encI Go.E.encI_len).en (.slice a278 l277.length c279) z280, Res.rowS 4 1 encB (.slice a284 l283.length c285) l283, Res.cells b303 #[.slice a301_1 v116.1.length c301_2] 44, Res.cells b350 #[.slice a347 ((List.replicate v13.1.length (0 : Int)).length) c348] 44, Res.rowS 3 1 Go.E.encI (.slice a347 (List.replicate v13.1.length (0 : Int)).length c348) l401]) (fun r hr => mem_pick [0, 1, 2, 3, 4, 5, 9, 10, 11, 12, 13, 14] z hr) [] (by kernel_rfl) (TA.b 0 z (loadLoc z ag202 z (i := 5) z z) z (TA.b 1 z (loadLoc z ag201 z (i := 3) z z) z (TA.b 2 z (loadLoc z ag44 z (i := 9) z z) z (TA.b 3 z (loadAll z ag64 sz64 z (i := 0) z z) z (TA.ac 4 z (OpOk.call (dfa_behind_con hgl hr265 hr400 u161) z z pf142 z z z z ?_))))))
           rintro _ _ _ hle420 ⟨a420_1, c420_1, rfl, rfl, rfl⟩
           refine ⟨(fun w h => sees_of (Store.le.refl _) (fun r hr => mem_pick [1, 2, 3, 4, 5, 6, 10, 11, 12, 13, 14, 15] z hr) w h), ?_⟩
           refine TA.front 9 z z (TA.front 9 z z (TA.front 9 z z (TA.ac 5 z (OpOk.call (putKeep_con zf395 u162) z z pf138 z z z z ?_))))
           rintro _ τ422 _ hle422 ⟨a422_1, c422_2, z422_3, b422_5, rfl, zf422_4, rfl⟩
           replace hr111_0 := hr111_0.mono hle422
           replace hr265 := hr265.mono hle422
           replace zf281 := zf281.mono hle422
           replace zf395 := zf395.mono hle422
           replace zf399 := zf399.mono hle422
           replace hr400 := hr400.mono hle422
           have zf422_4b := zf422_4.length
           refine kl 4 hle422 (TA.a 6 z (moveT (.inl z) z) z (TA.a 7 z (OpVal.extract z z z) z (TA.a 8 z (OpVal.extract z z z) z (TA.a 9 z (OpVal.extract z z z) z (TA.a 10 z (moveI (.inr z) z) z (TA.a 11 z (moveB (.inr z) z) z (TA.a 12 z (moveI (.inr z) z) z (TA.dn (S.n (TC.seq (TC.a (TL.i z z (TL.w z (OpVal.neq z z z) (TL.en (TC.cD z hh (fun h425 hh => ?_) (fun h425 hh => ?_))))))))))))))))
           ·refine TC.a (TL.w z (buildL z pl48 ze48 z) (TL.i z z (TL.front 5 z z (TL.op z (storeAll z sz48 z z z z z z ?_)))))
            refine TL.front 6 z z (TL.op z (storeI z sz27 z z z z z ?_))
            refine TL.en (TC.ret (S.r (B.r ?_)))
            obtain rfl := so hh
            exact rnd_r 0 z ⟨z, _, Sub.f [15, 15, 15, 15, 15, 15, 10, 10, 10, 15, 15, 15, 12, 13] 14, ⟨a422_1, c422_2, z422_3, b422_5, z, hn389, zf422_4, zf399, hr400, hn402⟩⟩
           ·refine TC.skip (S.n (TC.seq (TC.a (TL.i z z (TL.w z (OpVal.geq z z z) (TL.en (TC.cD z hh (fun h426 hh => ?_) (fun h426 hh => ?_))))))))
            ·refine TC.a (TL.w z (buildL z pl48 ze48 z) (TL.front 5 z z (TL.op z (storeAll z sz48 z z z z z z ?_))))
             refine TL.front 6 z z (TL.op z (storeI z sz27 z z z z z ?_))
             refine TL.en (TC.ret (S.r (B.r ?_)))
             obtain rfl := so hh
             exact rnd_r 0 z ⟨z, _, Sub.f [15, 15, 15, 15, 15, 15, 10, 10, 10, 15, 15, 15, 12, 13] 14, ⟨a422_1, c422_2, z422_3, b422_5, z, hn389, zf422_4, zf399, hr400, hn402⟩⟩
            ·refine TC.skip (S.n (TC.region (TL.w z (loadLoc z ag44 z (i := 14) z z) (TL.i z z (TL.i z z ?_)))))
             have u184 := grd_c hh
             replace hh := grd_t hh
             refine TL.isSl (i := 15) z (fun hs427 _ _ => ?_)
             refine TL.w z (OpVal.index z underlying44 sz3 z z hs427 u184.1 u184.2) (TL.front 15 z z ?_)
             have hn428 : (l401.set y256_0.toNat v162.1).length = (List.replicate v13.1.length (0 : Int)).length := by rw [List.length_set]; exact hn402
             refine TL.op z (storeS v162.1 z sz3 z z z z Go.E.encI_len Go.E.encI_one (by omega) (by omega) ?_)
             refine TL.nil (B.n ?_)
             obtain rfl := so hh
             exact rnd_n ⟨z, _, Sub.f [15, 15, 15, 15, 15, 8, 8, 8, 15, 15, 15, 15, 15] 14, ⟨a422_1, c422_2, z422_3, b422_5, z, hn389, zf422_4, zf399, hr400, hn428⟩⟩
          ·rintro τ406 _ _ hle407 ⟨a392, c393, z394, b398, rfl, hn389, zf395, zf399, hr400, hn402⟩ ⟨rfl⟩
           replace hr111_0 := hr111_0.mono hle407
           replace hr265 := hr265.mono hle407
           replace zf281 := zf281.mono hle407
           have hn389b := hn389
           have zf395b := zf395.length
           have zf399b := zf399.length
           have hr400b := hr400.rv.big
           have hn402b := hn402
           dsimp only [dfa_Of_k256] at hh
           show jmpQ _ _ _ _ _ τ406 [Res.cells b103 #[.slice none 0 0, .slice none 0 0, .slice none 0 0] 48, Res.cells b105 #[.int .i64 i388] 27, Res.cells b117 #[.slice a113 l130.length c114] 201, Res.rowS 4 1 encB (.slice a176 (List.replicate x0.states.toNat false).length c177) l193, Res.cells b206 #[loc b202_1 0] 202, Res.cells b202_1 #[.slice a392 l391.length c393, .map (some b398)] 250, Res.rowS 44 1 (pkSl 1 Go.E.encI Go.E.encI_len).en (.slice a392 l391.length c393) z394, Res.mapB keyS keyI (some b398) m397, Res.cells b212 #[.slice a111_1 v26.1.length c111_1, .slice a278 l277.length c279, .slice a284 l283.length c285] 48, Res.rowS 44 1 (pkSl 1 Go.E.encI Go.E.encI_len).en (.slice a278 l277.length c279) z280, Res.rowS 4 1 encB (.slice a284 l283.length c285) l283, Res.cells b303 #[.slice a301_1 v116.1.length c301_2] 44, Res.cells b350 #[.slice a347 ((List.replicate v13.1.length (0 : Int)).length) c348] 44, Res.rowS 3 1 Go.E.encI (.slice a347 (List.replicate v13.1.length (0 : Int)).length c348) l401, Res.cells b352_4 #[.slice a352_1 v153.length c352_2] 156]
           refine jmp_split hh ?_ ?_ <;> clear hh
           ·intro hh
            refine B.n (S.n (TC.a (TL.w z (fieldLoc z fo48_1 z) (TL.w z (loadLoc z ag45 z (i := 8) z z) (TL.w z (loadLoc z ag44 z (i := 12) z z) ?_)))))
            rw [← hn402]
            refine TL.front 13 z z (TL.sealS Go.E.encI_len (fun τ433 hle432 hr431 => ?_))
            replace hr111_0 := hr111_0.mono hle432
            replace hr265 := hr265.mono hle432
            replace zf281 := zf281.mono hle432
            replace zf395 := zf395.mono hle432
            replace zf399 := zf399.mono hle432
            have hr431b := hr431.rv.big
            have zf434 : ZOk _ (pkSl 1 Go.E.encI Go.E.encI_len) ([(l401, (a347, c348))] : List (List Int × (pkSl 1 Go.E.encI Go.E.encI_len).P)) [l401] := ZOk.cons (hr431) (ZOk.nil _ _)
            refine TL.op z (litZ zf434 z underlying45 sz44 z ze44 z z z (by decide) (by decide) z (by decide) z (by decide) (fun a429 c430 => ?_))
            refine TL.front 10 z z ?_
            have u190 := grd_c hh
            replace hh := grd_t hh
            refine TL.op z (appendZ (k := (pkSl 1 Go.E.encI Go.E.encI_len)) zf399 zf434 z z underlying45 sz44 by44 ze44 z z (by decide) z z z (.inr ⟨_, 0, z⟩) (by simpa using u190) (by decide) (fun a436 c437 zf438 => ?_))
            refine TL.w z (fieldLoc z fo48_1 z) (TL.front 10 z z (TL.op z (storeSl z sz45 z z z z z ?_)))
            refine TL.en (TC.region (TL.w z (fieldLoc z fo48_2 z) (TL.w z (loadLoc z ag46 z (i := 0) z z) (TL.j z z (TL.op z (OpOk.lit (enc := encB) [t322] z underlying46 sz4 ze4 z z z encB_len (by decide) (by decide) false z (by decide) z (by decide) encB_one (fun a439 c440 => ?_)))))))
            refine TL.front 12 z z ?_
            have u197 := grd_c hh
            replace hh := grd_t hh
            refine TL.op z (appendS z z underlying46 sz4 by4 ze4 z z (by decide) z z z (.inr ⟨_, 0, z⟩) (by simpa using u197) (by decide) (fun a442 c443 => ?_))
            refine TL.w z (fieldLoc z fo48_2 z) (TL.front 2 z z (TL.op z (storeSl z sz46 z z z z z ?_)))
            refine TL.nil (B.n (S.n (TC.region (TL.i z z ?_))))
            have u201 := grd_c hh
            replace hh := grd_t hh
            refine TL.w z (OpVal.succ z z z (by omega)) (TL.i z z (TL.en ?_))
            obtain ⟨hh, hlt444⟩ := nxt_x hR1 hh
            exact lf ((i388, l391, m397, (l277 ++ [l401]), (l283 ++ [t322]), (k286 + 1)), (a392, c393, z394, b398, a436, c437, (z280 ++ ([(l401, (a347, c348))] : List (List Int × (pkSl 1 Go.E.encI Go.E.encI_len).P))), a442, c443, τ433)) hlt444 ⟨hh, hr265, hn389, zf395, zf438, (((((hle294.trans hle325).trans hle352).trans hle404).trans hle407).trans hle432)⟩ (Sub.f [1, 3, 2, 12, 12, 12, 12, 12, 12, 12, 12] 11)
           ·intro m_ c_ hh hc_
            refine jl_split hh hc_ ?_ ?_ <;> clear hh hc_
            ·intro hh
             refine TC.ofSub (Sub.f [1, 1] 2) (TC.ret (B.r (S.r (B.r (S.r (S.r ?_))))))
             replace hh := fin_x hR1 hh
             refine B.r (S.r ?_)
             obtain rfl := so hh
             exact ro [] z (RVs.agg ag48 sz48 z (i := 0) z z (RVs.one ag27 z (i := 1) z z RVs.nil)) ⟨none, 0, none, 0, none, 0, z, (RS.nilF _ Go.E.encI Go.E.encI_len), (RZ.nilF _ (pkSl 1 Go.E.encI Go.E.encI_len)), (RS.nilF _ encB encB_len), z⟩
            ·intro m_ hh hc_
             exact jl_nil hc_
       ·refine TC.exit (S.x (S.x ?_))
        replace hh := fin_x hR1 hh
        refine TC.exitHere (S.n (TC.a (TL.w z (loadAll z ag48 sz48 z (i := 8) z z) (TL.front 3 z z (TL.op z (storeAll z sz48 z z z z z z ?_))))))
        refine TL.front 4 z z (TL.op z (storeI z sz27 z z z z z ?_))
        refine TL.en (TC.front 9 z z (TC.sealZ zf281 (fun τ447 hle446 hr445 => ?_)))
        replace hr111_0 := hr111_0.mono hle446
        have hr445b := hr445.big
        refine TC.front 9 z z (TC.sealS encB_len (fun τ450 hle449 hr448 => ?_))
        replace hr111_0 := hr111_0.mono hle449
        replace hr445 := hr445.mono hle449
        have hr448b := hr448.rv.big
        refine TC.ofSub (Sub.f [1] 2) (TC.ret ?_)
        obtain rfl := so hh
        exact ro [] z (RVs.agg ag48 sz48 z (i := 0) z z (RVs.one ag27 z (i := 1) z z RVs.nil)) ⟨a111_1, c111_1, a278, c279, a284, c285, z, hr111_0, hr445, hr448, z⟩

end Go.Proofs.YtjhbngjhdmapmaaGreatDoor
end

/- TkJ -/
section
/- Decompiled: does an automaton take a text? -/
set_option linter.unusedVariables false
set_option linter.unusedSimpArgs false
namespace Go.Proofs.YtjhbngjhdmapmaaGreatDoor
open Go Go.E Go.E.OpVal Go.E.OpOk Go.Proofs.Tryz
set_option maxRecDepth 100000
private theorem pf59 : Go.E.plainF Tryz.prog 59 = true := by kernel_rfl
private theorem pf70 : Go.E.plainF Tryz.prog 70 = true := by kernel_rfl

noncomputable def dfa_Run_b1 (x2 : List UInt8) (x0 : Dfa) (i110 : Int) (k111 : Nat) : Option ((Int × Nat) ⊕ (Int × Int)) :=
 iteO (decide (((k111 : Nat) : Int) < ((x2.length : Nat) : Int))) (grd (0 ≤ i110 ∧ i110 < (x0.next.length : Int)) (grd ((nth x2 k111 (0 : UInt8)).toNat < x0.cls.length) (grd (0 ≤ (nth x0.cls ((nth x2 k111 (0 : UInt8)).toNat) (0 : Int)) ∧ (nth x0.cls ((nth x2 k111 (0 : UInt8)).toNat) (0 : Int)) < ((nth x0.next i110.toNat ([] : List Int)).length : Int)) (nxt ((nth (nth x0.next i110.toNat ([] : List Int)) ((nth x0.cls ((nth x2 k111 (0 : UInt8)).toNat) (0 : Int)).toNat) (0 : Int)), (k111 + 1)))))) (fin (some (i110, 0)))
noncomputable def dfa_Run (x0 : Dfa) (x1 : Int) (x2 : List UInt8) : Option (Int × Int) :=
 grd (x2.length ≤ 281474976710656) (bnd (dfa_Check x0) (fun v5 => iteO (decide (v5 ≠ 0)) (some (0, 1)) (iteO (decide (x1 < 0)) (some (0, 1)) (iteO (decide (((x0.next.length : Nat) : Int) ≤ x1)) (some (0, 1)) (iter (fun q : Int × Nat => dfa_Run_b1 x2 x0 q.1 q.2) (x1, 0))))))
theorem dfa_Run_con {σ : Store} {x0 : Dfa} {a0_0 : Option Addr} {c0_0 : Nat} {a0_1 : Option Addr} {c0_1 : Nat} {a0_2 : Option Addr} {c0_2 : Nat} {x1 : Int} {x2 : List UInt8} (f0_0 : RS σ 1 Go.E.encI (.slice a0_0 x0.cls.length c0_0) x0.cls) (f0_1 : RZ σ (pkSl 1 Go.E.encI Go.E.encI_len) (.slice a0_1 x0.next.length c0_1) x0.next) (f0_2 : RS σ 1 encB (.slice a0_2 x0.fin.length c0_2) x0.fin) {r : Int × Int} (hh : dfa_Run x0 x1 x2 = some r) :
  Con Tryz.prog 70 #[.agg #[.slice a0_0 x0.cls.length c0_0, .slice a0_1 x0.next.length c0_1, .slice a0_2 x0.fin.length c0_2], .int .i64 x1, .string (bs x2)] σ [] (PureP (.tuple #[.int .i64 r.1, .int .i64 r.2]) σ) := by
 dsimp only [dfa_Run] at hh
 have f0_0b := f0_0.rv.big
 have f0_1b := f0_1.big
 have f0_2b := f0_2.rv.big
 refine Con.mk (n := 44) Tryz.func70 z z z (fun w0 => ?_)
 have x2b := grd_c hh
 replace hh := grd_t hh
 refine TC.a (TL.op z (boxA z z z z (fun b101 => ?_)))
 refine TL.i z z (TL.i z z (TL.en (TC.seq (TC.a (TL.w z (loadAll z ag48 sz48 z (i := 0) z z) ?_)))))
 obtain ⟨v5, u5, hh⟩ := bnd_e hh
 refine TL.op z (callP (dfa_Check_con (x0 := x0) f0_0 f0_1 f0_2 u5) z z pf59 z z z ?_)
 refine TL.w z (OpVal.neq z z z) (TL.j z z (TL.split 12 z (fun h103 => ?_) (fun h103 => ?_)))
 ·replace hh := iteO_t h103 hh
  replace h103 := of_decide_eq_true h103
  refine TL.f z (TL.f z (TL.w z (pickTB z z z) (TL.j z z (TL.f z (TL.f z (TL.f z (TL.f z (TL.f z (TL.w z (pickTB z z z) (TL.en (TC.t z (TC.a (TL.i z z (TL.i z z (TL.en ?_)))))))))))))))
  refine TC.rt 0 (S.r ?_)
  obtain rfl := so hh
  exact rq [6, 7] ⟨z, z, z⟩
 ·replace hh := iteO_f h103 hh
  replace h103 := of_decide_eq_false h103
  refine TL.g z (moveI (.inl z) z) (TL.g z (OpVal.lss z z z) (TL.w z (pickFB z z z) (TL.j z z (TL.split 16 z (fun h104 => ?_) (fun h104 => ?_)))))
  ·replace hh := iteO_t h104 hh
   replace h104 := of_decide_eq_true h104
   refine TL.f z (TL.f z (TL.f z (TL.f z (TL.f z (TL.w z (pickTB z z z) (TL.en (TC.t z (TC.a (TL.i z z (TL.i z z (TL.en (TC.rt 0 (S.r ?_)))))))))))))
   obtain rfl := so hh
   exact rq [6, 7] ⟨z, z, z⟩
  ·replace hh := iteO_f h104 hh
   replace h104 := of_decide_eq_false h104
   refine TL.g z (moveI (.inl z) z) (TL.g z (fieldLoc z fo48_1 z) (TL.g z (loadLoc z ag45 z (i := 0) z z) (TL.g z (lenC z underlying45 z) (TL.g z (OpVal.geq z z z) (TL.w z (pickFB z z z) (TL.en (TC.cD z hh (fun h105 hh => ?_) (fun h105 hh => ?_))))))))
   ·refine TC.a (TL.i z z (TL.i z z (TL.en (TC.rt 0 (S.r ?_)))))
    obtain rfl := so hh
    exact rq [6, 7] ⟨z, z, z⟩
   ·refine TC.skip (S.n (TC.seq (TC.a (TL.w z (moveStr (.inl z) z) (TL.w z (lenBs z underlying9 z) (TL.i z z (TL.en (TC.block (TC.loopG (α := (Int × Nat) × (Unit)) (rgs [(1, 1), (8, 1), (25, 18)]) (fun g => [(1, .int .i64 g.1.1), (25, .int .i64 ((g.1.2 : Nat) : Int))]) (fun g => [Res.cells b101 #[.slice a0_0 x0.cls.length c0_0, .slice a0_1 x0.next.length c0_1, .slice a0_2 x0.fin.length c0_2] 48]) (fun g => σ) (fun g => iter (fun q : Int × Nat => dfa_Run_b1 x2 x0 q.1 q.2) g.1 = some r) (fun g => rounds (fun q : Int × Nat => dfa_Run_b1 x2 x0 q.1 q.2) g.1) ((x1, 0), ()) (Sub.pre 1 z) z (by repeat (first | exact trivial | refine ⟨z, ?_⟩)) hh (fun g1 j1 hg1 => ?_))))))))))
    obtain ⟨⟨i110, k111⟩, _⟩ := g1
    have hh := hg1; clear hg1
    try dsimp only
    obtain ⟨z1, hh, hR1⟩ := iter_e hh
    dsimp only [dfa_Run_b1] at hh
    refine TC.a (TL.w z (OpVal.lss z z z) (TL.en (TC.seq (TC.cD z hh (fun h112 hh => ?_) (fun h112 hh => ?_)))))
    ·refine TC.skip (S.n (TC.seq (TC.block (TC.a (TL.i z z (TL.i z z (TL.en ?_)))))))
     have u29 := grd_c hh
     replace hh := grd_t hh
     have u36 := grd_c hh
     replace hh := grd_t hh
     have u38 := grd_c hh
     replace hh := grd_t hh
     refine TC.draw [] (by kernel_rfl) (TA.a 0 z (fieldLoc z fo48_1 z) z (TA.b 1 z (loadLoc z ag45 z (i := 0) z z) z (TA.a 2 z (moveI (.inl z) z) z (TA.b 3 z (OpVal.index z underlying45 sz44 z z f0_1.isSl u29.1 u29.2) z ?_))))
     obtain ⟨p114, hk114, hg114⟩ := RZ.seg f0_1 i110.toNat (by omega)
     replace hk114 : RS _ 1 Go.E.encI (.slice p114.1 (nth x0.next i110.toNat ([] : List Int)).length p114.2) (nth x0.next i110.toNat ([] : List Int)) := hk114
     have hk114b := hk114.rv.big
     refine TA.b 4 z (OpVal.of (loadSeg0 z ag44 z hg114 z) (v' := .slice p114.1 ((nth x0.next i110.toNat ([] : List Int)).length) p114.2) z) z (TA.a 5 z (fieldLoc z fo48_0 z) z (TA.b 6 z (loadLoc z ag44 z (i := 0) z z) z (TA.a 7 z (moveStr (.inl z) z) z (TA.a 8 z (moveI (.inl z) z) z (TA.a 9 z (indexBs z underlying9 z z (by omega)) z (TA.b 10 z (indexN z underlying44 sz3 z z f0_0.rv.sl (by omega)) z (TA.b 11 z (loadS1 (0 : Int) z ag3 z f0_0 (by omega) z) z (TA.b 12 z (OpVal.index z underlying44 sz3 z z hk114.rv.sl u38.1 u38.2) z (TA.b 13 z (loadS1 (0 : Int) z ag3 z hk114 (by omega) z) z (TA.a 14 z (moveI (.inr z) z) z (TA.dn (B.n (S.n (TC.region (TL.w z (OpVal.succ z z z (by omega)) ?_)))))))))))))))
     refine TL.i z z (TL.en ?_)
     obtain ⟨hh, hlt115⟩ := nxt_x hR1 hh
     exact lf (((nth (nth x0.next i110.toNat ([] : List Int)) ((nth x0.cls ((nth x2 k111 (0 : UInt8)).toNat) (0 : Int)).toNat) (0 : Int)), (k111 + 1)), ()) hlt115 hh (Sub.pre 1 z)
    ·refine TC.exit (S.x (S.x ?_))
     replace hh := fin_x hR1 hh
     refine TC.exitHere (S.n (TC.a (TL.i z z (TL.i z z (TL.i z z (TL.en (TC.rt 0 ?_)))))))
     obtain rfl := so hh
     exact rq [6, 7] ⟨z, z, z⟩

noncomputable def dfa_Takes (x0 : Dfa) (x1 : List UInt8) : Option (Bool × Int) :=
 grd (x1.length ≤ 281474976710656) (bnd (dfa_Run x0 0 x1) (fun v6 => iteO (decide (v6.2 ≠ 0)) (some (false, v6.2)) (grd (0 ≤ v6.1 ∧ v6.1 < (x0.fin.length : Int)) (some ((nth x0.fin v6.1.toNat false), 0)))))
theorem dfa_Takes_con {σ : Store} {x0 : Dfa} {a0_0 : Option Addr} {c0_0 : Nat} {a0_1 : Option Addr} {c0_1 : Nat} {a0_2 : Option Addr} {c0_2 : Nat} {x1 : List UInt8} (f0_0 : RS σ 1 Go.E.encI (.slice a0_0 x0.cls.length c0_0) x0.cls) (f0_1 : RZ σ (pkSl 1 Go.E.encI Go.E.encI_len) (.slice a0_1 x0.next.length c0_1) x0.next) (f0_2 : RS σ 1 encB (.slice a0_2 x0.fin.length c0_2) x0.fin) {r : Bool × Int} (hh : dfa_Takes x0 x1 = some r) :
  Con Tryz.prog 33 #[.agg #[.slice a0_0 x0.cls.length c0_0, .slice a0_1 x0.next.length c0_1, .slice a0_2 x0.fin.length c0_2], .string (bs x1)] σ [] (PureP (.tuple #[.bool r.1, .int .i64 r.2]) σ) := by
 dsimp only [dfa_Takes] at hh
 have f0_0b := f0_0.rv.big
 have f0_1b := f0_1.big
 have f0_2b := f0_2.rv.big
 refine Con.mk (n := 22) Tryz.func33 z z z (fun w0 => ?_)
 have x1b := grd_c hh
 replace hh := grd_t hh
 refine TC.a (TL.op z (boxA z z z z (fun b101 => ?_)))
 refine TL.j z z (TL.i z z (TL.en (TC.a (TL.w z (loadAll z ag48 sz48 z (i := 0) z z) (TL.w z (moveStr (.inl z) z) ?_)))))
 obtain ⟨v6, u6, hh⟩ := bnd_e hh
 refine TL.op z (callP (dfa_Run_con (x0 := x0) f0_0 f0_1 f0_2 u6) z z pf70 z z z ?_)
 refine TL.w z (moveT (.inl z) z) (TL.w z (OpVal.extract z z z) (TL.w z (OpVal.extract z z z) (TL.i z z (TL.i z z (TL.en (TC.seq (TC.a (TL.i z z (TL.w z (OpVal.neq z z z) (TL.en (TC.cD z hh (fun h103 hh => ?_) (fun h103 hh => ?_))))))))))))
 ·refine TC.a (TL.i z z (TL.j z z (TL.i z z (TL.en (TC.rt 0 (S.r ?_))))))
  obtain rfl := so hh
  exact rq [4, 5] ⟨z, z, z⟩
 ·refine TC.skip (S.n (TC.a (TL.w z (fieldLoc z fo48_2 z) (TL.w z (loadLoc z ag46 z (i := 0) z z) (TL.i z z ?_)))))
  have u20 := grd_c hh
  replace hh := grd_t hh
  refine TL.w z (OpVal.index z underlying46 sz4 z z f0_2.rv.sl u20.1 u20.2) (TL.w z (loadS1 false z ag4 z f0_2 (by omega) z) (TL.j z z (TL.i z z (TL.en (TC.rt 0 ?_)))))
  obtain rfl := so hh
  exact rq [4, 5] ⟨z, z, z⟩

end Go.Proofs.YtjhbngjhdmapmaaGreatDoor
end

/- Dec15 -/
section
/- A whole number moved down by some places. Plain lemmas over any program; no condition. -/
set_option linter.unusedVariables false
set_option linter.unusedSimpArgs false
namespace Go.E
open Go
/-- A whole number moved down by some places. -/
def ishr (k : IntKind) (a : Int) (b : Nat) : Int := a.fdiv (2 ^ min b k.bits)
theorem OpVal.shrI {P : Program} {n : Nat} {o : Oper} {e : Env} {σ : Store} {H : List Res} {x y : Operand} {T T' : TypeId} {k k' : IntKind} {a : Int} {b : Nat} (ho : o.op = .binOp .shr T x y T') (hx : ev e x = .int k a) (hy : ev e y = .int k' (b : Nat)) : OpVal P n o e σ H (.int k (ishr k a b)) := fun w _ => by
  have h0 : ¬ (b : Int) < 0 := by omega
  simp only [execOp, ho, hx, hy, Sem.run_bind, run_eqGuard_int, Result.andThen_ok, binOp, Op.shift, h0, if_false, Int.toNat_natCast, ishr]; rfl
end Go.E
end
