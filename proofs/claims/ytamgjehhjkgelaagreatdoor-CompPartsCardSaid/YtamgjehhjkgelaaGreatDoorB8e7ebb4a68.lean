/- Parts of a proof, one behind the other: what a machine reaches, functions decompiled, plain lemmas. Conditions stand with each lemma. -/
import Derived.Test.YtamgjehhjkgelaaGreatDoorB8c52fea6f4
import Derived.Test.YtamgjehhjkgelaaGreatDoorBb5dac1432b
import Derived.RangeFuncLeaves
import Derived.Shelf.SlSortCmp.NoneTotal
import Derived.Shelf.Sort.Plain
import Derived.Test.YtamgjehhjkgelaaGreatDoorChecked

set_option linter.unusedVariables false
set_option linter.unusedSimpArgs false
set_option linter.unusedSectionVars false
set_option maxRecDepth 100000

section
namespace Go.Proofs.YtamgjehhjkgelaaGreatDoor
open Go Go.E Go.E.OpVal Go.E.OpOk Go.Proofs.Tryz
private theorem ag22 : Go.E.aggOf Tryz.prog 22 = some false := by kernel_rfl
private theorem ag23 : Go.E.aggOf Tryz.prog 23 = some false := by kernel_rfl
private theorem ag4 : Go.E.aggOf Tryz.prog 4 = some false := by kernel_rfl
private theorem ag43 : Go.E.aggOf Tryz.prog 43 = some true := by kernel_rfl
private theorem ag66 : Go.E.aggOf Tryz.prog 66 = some true := by kernel_rfl
private theorem ag9 : Go.E.aggOf Tryz.prog 9 = some false := by kernel_rfl
private theorem fo25_0 : Go.E.foOf Tryz.prog 25 0 = some 0 := by kernel_rfl
private theorem fo25_1 : Go.E.foOf Tryz.prog 25 1 = some 1 := by kernel_rfl
private theorem fo25_2 : Go.E.foOf Tryz.prog 25 2 = some 2 := by kernel_rfl
private theorem fo25_3 : Go.E.foOf Tryz.prog 25 3 = some 3 := by kernel_rfl
private theorem fo43_0 : Go.E.foOf Tryz.prog 43 0 = some 0 := by kernel_rfl
private theorem fo43_1 : Go.E.foOf Tryz.prog 43 1 = some 1 := by kernel_rfl
private theorem fo66_0 : Go.E.foOf Tryz.prog 66 0 = some 0 := by kernel_rfl
private theorem fo66_1 : Go.E.foOf Tryz.prog 66 1 = some 1 := by kernel_rfl
private theorem fo66_2 : Go.E.foOf Tryz.prog 66 2 = some 2 := by kernel_rfl
private theorem fo66_3 : Go.E.foOf Tryz.prog 66 3 = some 6 := by kernel_rfl
private theorem fo66_4 : Go.E.foOf Tryz.prog 66 4 = some 7 := by kernel_rfl
private theorem fo84_0 : Go.E.foOf Tryz.prog 84 0 = some 0 := by kernel_rfl
private theorem fo84_1 : Go.E.foOf Tryz.prog 84 1 = some 1 := by kernel_rfl
private theorem es84 (x y : FPair) : Go.E.EqAt Tryz.prog 2 84 (.agg (Go.E.encFPair x).toArray) (.agg (Go.E.encFPair y).toArray) (decide (x = y)) :=
 (EqAt.struct (ts := [(false, 3, 0), (false, 9, 1)]) (by kernel_rfl) (by kernel_rfl) (by kernel_rfl) (EqC.one (by kernel_rfl) rfl rfl (EqAt.int underlying3 x.state y.state) (EqC.one (by kernel_rfl) rfl rfl (EqAt.str underlying9 x.out y.out) EqC.nil))).of (by rw [Bool.eq_iff_iff]; cases x; cases y; simp)
private theorem kl84 : Go.E.KeyL Tryz.prog 84 (fun x => Value.agg (Go.E.encFPair x).toArray) :=
 KeyL.struct underlying84 es84 rfl (fun x => CkAt.struct (n := 1) (ts := [(false, 3, 0), (false, 9, 1)]) (by kernel_rfl) (by kernel_rfl) (CkC.one (by kernel_rfl) rfl (CkAt.int underlying3 _) (CkC.one (by kernel_rfl) rfl (CkAt.str underlying9 _) CkC.nil))) rfl encFPair_bits
private theorem pf50 : Go.E.plainF Tryz.prog 50 = true := by kernel_rfl
private theorem pf51 : Go.E.plainF Tryz.prog 51 = true := by kernel_rfl
private theorem pf62 : Go.E.plainF Tryz.prog 62 = true := by kernel_rfl
private theorem pl82 : Go.E.plOf Tryz.prog 82 = some #[] := by kernel_rfl
private theorem pl84 : Go.E.plOf Tryz.prog 84 = some #[(0, 1), (1, 1)] := by kernel_rfl
private theorem sz23 : Go.E.szOf Tryz.prog 23 = some 1 := by kernel_rfl
private theorem sz43 : Go.E.szOf Tryz.prog 43 = some 2 := by kernel_rfl
private theorem sz66 : Go.E.szOf Tryz.prog 66 = some 8 := by kernel_rfl
private theorem sz84 : Go.E.szOf Tryz.prog 84 = some 2 := by kernel_rfl
private theorem ze43 : Go.E.zeroOf Tryz.prog 43 = some (.agg #[.int .i64 0, .string ByteArray.empty]) := by kernel_rfl
private theorem ze5 : Go.E.zeroOf Tryz.prog 5 = some (.int .u8 0) := by kernel_rfl
private theorem ze66 : Go.E.zeroOf Tryz.prog 66 = some (.agg #[.int .i64 0, .int .i64 0, .int .u64 0, .int .u64 0, .int .u64 0, .int .u64 0, .string ByteArray.empty, .bool false]) := by kernel_rfl
private theorem ze82 : Go.E.zeroOf Tryz.prog 82 = some (.agg #[]) := by kernel_rfl
private theorem ze84 : Go.E.zeroOf Tryz.prog 84 = some (.agg #[.int .i64 0, .string ByteArray.empty]) := by kernel_rfl
noncomputable def B2_ (x0 : Int) (x1 : Int) : Option (Bool) :=
 iteO (decide (0 ≤ x0)) (some (decide (x0 < x1))) (some false)
theorem Es_ {σ : Store} {x0 : Int} {x1 : Int}  {r : Bool} (hh : B2_ x0 x1 = some r) :
  Con Tryz.prog 51 #[.int .i64 x0, .int .i64 x1] σ [] (PureP (.bool r) σ) := by
 dsimp only [B2_] at hh
 refine Con.mk (n := 12) Tryz.func51 z z z (fun w0 => ?_)
 refine TC.a (TL.j z z (TL.en (TC.a (TL.i z z (TL.w z (OpVal.leq z z z) (TL.j z z (TL.split 7 z (fun h101 => ?_) (fun h101 => ?_))))))))
 ·replace hh := iteO_t h101 hh
  replace h101 := of_decide_eq_true h101
  refine TL.g z (moveI (.inl z) z) (TL.g z (moveI (.inl z) z) (TL.g z (OpVal.lss z z z) (TL.w z (pickTB z z z) (TL.j z z (TL.en (TC.ret ?_))))))
  obtain rfl := so hh
  exact rq [4] ⟨z, z, z⟩
 ·replace hh := iteO_f h101 hh
  replace h101 := of_decide_eq_false h101
  refine TL.f z (TL.f z (TL.f z (TL.w z (pickFB z z z) (TL.j z z (TL.en (TC.ret ?_))))))
  obtain rfl := so hh
  exact rq [4] ⟨z, z, z⟩
noncomputable def Am_ (x0 : List Tip) (x1 : Int) (k104 : Nat) : Option ((Nat) ⊕ (Bool)) :=
 iteO (decide (((k104 : Nat) : Int) < ((x0.length : Nat) : Int))) (bnd (B2_ ((nth x0 k104 Tip.zero).state) x1) (fun v17 => iteO (!v17) (fin (some false)) (iteO (decide (1024 < ((((nth x0 k104 Tip.zero).out).length : Nat) : Int))) (fin (some false)) (nxt (k104 + 1))))) (fin (some true))
noncomputable def A5_ (x0 : List Tip) (x1 : Int) : Option (Bool) :=
 iteO (decide (1024 < ((x0.length : Nat) : Int))) (some false) (iter (fun q : Nat => Am_ x0 x1 q) 0)
theorem Eu_ {σ : Store} {x0 : List Tip} {a0_0 : Option Addr} {c0_0 : Nat} {x1 : Int} (f0_0 : RS σ 2 encTip (.slice a0_0 x0.length c0_0) x0) {r : Bool} (hh : A5_ x0 x1 = some r) :
  Con Tryz.prog 50 #[.slice a0_0 x0.length c0_0, .int .i64 x1] σ [] (PureP (.bool r) σ) := by
 dsimp only [A5_] at hh
 have f0_0b := f0_0.rv.big
 refine Con.mk (n := 28) Tryz.func50 z z z (fun w0 => ?_)
 refine TC.a (TL.j z z (TL.en (TC.seq (TC.a (TL.s z z (TL.w z (lenC z underlying22 z) (TL.w z (OpVal.gtr z z z) (TL.en (TC.cD z hh (fun h101 hh => ?_) (fun h101 hh => ?_))))))))))
 ·refine TC.a (TL.j z z (TL.en (TC.ret (S.r ?_))))
  obtain rfl := so hh
  exact rq [4] ⟨z, z, z⟩
 ·refine TC.skip (S.n (TC.seq (TC.a (TL.s z z (TL.w z (lenC z underlying22 z) (TL.i z z (TL.en (TC.block (TC.loopG (α := (Nat) × (Unit)) (rgs [(4, 1), (6, 1), (12, 16)]) (fun g => [(12, .int .i64 ((g.1 : Nat) : Int))]) (fun g => []) (fun g => σ) (fun g => iter (fun q : Nat => Am_ x0 x1 q) g.1 = some r) (fun g => rounds (fun q : Nat => Am_ x0 x1 q) g.1) (0, ()) (Sub.pre 0 z) z (by repeat (first | exact trivial | refine ⟨z, ?_⟩)) hh (fun g1 j1 hg1 => ?_))))))))))
  obtain ⟨k104, _⟩ := g1
  have hh := hg1; clear hg1
  try dsimp only
  obtain ⟨z1, hh, hR1⟩ := iter_e hh
  dsimp only [Am_] at hh
  refine TC.a (TL.w z (OpVal.lss z z z) (TL.en (TC.seq (TC.cD z hh (fun h105 hh => ?_) (fun h105 hh => ?_)))))
  ·refine TC.skip (S.n (TC.seq (TC.block (TC.a (TL.w z (indexN z underlying22 sz43 z z f0_0.rv.sl (by omega)) (TL.w z (loadSA Tip.zero z ag43 sz43 z f0_0 (by omega) (by omega)) (TL.op z (OpOk.alloc z ze43 z z (fun b106 => ?_)))))))))
   refine TL.op z (storeAll z sz43 z z z z z z ?_)
   refine TL.en (TC.a (TL.w z (fieldLoc z fo43_0 z) (TL.w z (loadLoc z ag3 z (i := 0) z z) (TL.i z z ?_))))
   obtain ⟨v17, u17, hh⟩ := bnd_e hh
   refine TL.op z (callP (Es_ u17) z z pf51 z z z ?_)
   refine TL.w z (OpVal.not z z) (TL.j z z (TL.split 21 z (fun h108 => ?_) (fun h108 => ?_)))
   ·replace hh := iteO_t h108 hh
    refine TL.f z (TL.f z (TL.f z (TL.f z (TL.w z (pickTB z z z) (TL.en (TC.t z (TC.a (TL.j z z (TL.en (TC.rt 0 (B.r (S.r (S.r ?_)))))))))))))
    replace hh := fin_x hR1 hh
    refine B.r (S.r ?_)
    obtain rfl := so hh
    exact rq [4] ⟨z, z, z⟩
   ·replace hh := iteO_f h108 hh
    refine TL.g z (fieldLoc z fo43_1 z) (TL.g z (loadLoc z ag9 z (i := 0) z z) (TL.g z (lenBs z underlying9 z) (TL.g z (OpVal.gtr z z z) (TL.w z (pickFB z z z) (TL.en (TC.cD z hh (fun h109 hh => ?_) (fun h109 hh => ?_)))))))
    ·refine TC.a (TL.j z z (TL.en (TC.rt 0 (B.r (S.r (S.r ?_))))))
     replace hh := fin_x hR1 hh
     refine B.r (S.r ?_)
     obtain rfl := so hh
     exact rq [4] ⟨z, z, z⟩
    ·refine TC.skip (B.n (S.n (TC.region (TL.w z (OpVal.succ z z z (by omega)) (TL.i z z (TL.en ?_))))))
     obtain ⟨hh, hlt110⟩ := nxt_x hR1 hh
     exact lf ((k104 + 1), ()) hlt110 hh (Sub.pre 0 z)
  ·refine TC.exit (S.x (S.x ?_))
   replace hh := fin_x hR1 hh
   refine TC.exitHere (S.n (TC.a (TL.j z z (TL.en (TC.ret ?_)))))
   obtain rfl := so hh
   exact rq [4] ⟨z, z, z⟩
noncomputable def A4_ (x0 : Fst) (k110 : Nat) : Option ((Nat) ⊕ (Int)) :=
 iteO (decide (((k110 : Nat) : Int) < ((x0.arcs.length : Nat) : Int))) (bnd (B2_ ((nth x0.arcs k110 Arc.zero).frm) x0.states) (fun v46 => iteO (!v46) (fin (some 1)) (bnd (B2_ ((nth x0.arcs k110 Arc.zero).to) x0.states) (fun v53 => iteO (!v53) (fin (some 1)) (iteO (decide ((nth x0.arcs k110 Arc.zero).set = BSet.zero)) (fin (some 1)) (iteO (decide (1024 < ((((nth x0.arcs k110 Arc.zero).out).length : Nat) : Int))) (fin (some 1)) (nxt (k110 + 1)))))))) (fin (some 0))
noncomputable def Bc_ (x0 : Fst) : Option (Int) :=
 iteO (decide (x0.states < 0)) (some 1) (iteO (decide (1024 < x0.states)) (some 1) (iteO (decide (16384 < ((x0.arcs.length : Nat) : Int))) (some 1) (bnd (A5_ x0.starts x0.states) (fun v22 => iteO (!v22) (some 1) (bnd (A5_ x0.ends x0.states) (fun v29 => iteO (!v29) (some 1) (iter (fun q : Nat => A4_ x0 q) 0)))))))
theorem Ca_ {σ : Store} {x0 : Fst} {a0_0 : Option Addr} {c0_0 : Nat} {a0_1 : Option Addr} {c0_1 : Nat} {a0_2 : Option Addr} {c0_2 : Nat} (f0_0 : RS σ 2 encTip (.slice a0_0 x0.starts.length c0_0) x0.starts) (f0_1 : RS σ 2 encTip (.slice a0_1 x0.ends.length c0_1) x0.ends) (f0_2 : RS σ 8 encArc (.slice a0_2 x0.arcs.length c0_2) x0.arcs) {r : Int} (hh : Bc_ x0 = some r) :
  Con Tryz.prog 21 #[.agg #[.int .i64 x0.states, .slice a0_0 x0.starts.length c0_0, .slice a0_1 x0.ends.length c0_1, .slice a0_2 x0.arcs.length c0_2]] σ [] (PureP (.int .i64 r) σ) := by
 dsimp only [Bc_] at hh
 have f0_0b := f0_0.rv.big
 have f0_1b := f0_1.rv.big
 have f0_2b := f0_2.rv.big
 refine Con.mk (n := 67) Tryz.func21 z z z (fun w0 => ?_)
 refine TC.a (TL.op z (boxA z z z z (fun b101 => ?_)))
 refine TL.i z z (TL.en (TC.seq (TC.a (TL.w z (fieldLoc z fo25_0 z) (TL.w z (loadLoc z ag3 z (i := 0) z z) (TL.w z (OpVal.lss z z z) (TL.j z z (TL.split 8 z (fun h103 => ?_) (fun h103 => ?_)))))))))
 ·replace hh := iteO_t h103 hh
  replace h103 := of_decide_eq_true h103
  refine TL.f z (TL.f z (TL.f z (TL.w z (pickTB z z z) (TL.j z z (TL.f z (TL.f z (TL.f z (TL.f z (TL.w z (pickTB z z z) (TL.en (TC.t z (TC.a (TL.i z z (TL.en (TC.rt 0 (S.r ?_))))))))))))))))
  obtain rfl := so hh
  exact rq [2] ⟨z, z, z⟩
 ·replace hh := iteO_f h103 hh
  replace h103 := of_decide_eq_false h103
  refine TL.g z (fieldLoc z fo25_0 z) (TL.g z (loadLoc z ag3 z (i := 0) z z) (TL.g z (OpVal.gtr z z z) (TL.w z (pickFB z z z) (TL.j z z (TL.split 13 z (fun h104 => ?_) (fun h104 => ?_))))))
  ·replace hh := iteO_t h104 hh
   replace h104 := of_decide_eq_true h104
   refine TL.f z (TL.f z (TL.f z (TL.f z (TL.w z (pickTB z z z) (TL.en (TC.t z (TC.a (TL.i z z (TL.en (TC.rt 0 (S.r ?_)))))))))))
   obtain rfl := so hh
   exact rq [2] ⟨z, z, z⟩
  ·replace hh := iteO_f h104 hh
   replace h104 := of_decide_eq_false h104
   refine TL.g z (fieldLoc z fo25_3 z) (TL.g z (loadLoc z ag23 z (i := 0) z z) (TL.g z (lenC z underlying23 z) (TL.g z (OpVal.gtr z z z) (TL.w z (pickFB z z z) (TL.en (TC.cD z hh (fun h105 hh => ?_) (fun h105 hh => ?_)))))))
   ·refine TC.a (TL.i z z (TL.en (TC.rt 0 (S.r ?_))))
    obtain rfl := so hh
    exact rq [2] ⟨z, z, z⟩
   ·refine TC.skip (S.n (TC.seq (TC.a (TL.w z (fieldLoc z fo25_1 z) (TL.w z (loadLoc z ag22 z (i := 0) z z) (TL.w z (fieldLoc z fo25_0 z) (TL.w z (loadLoc z ag3 z (i := 0) z z) ?_)))))))
    obtain ⟨v22, u22, hh⟩ := bnd_e hh
    refine TL.op z (callP (Eu_ f0_0 u22) z z pf50 z z z ?_)
    refine TL.w z (OpVal.not z z) (TL.j z z (TL.split 25 z (fun h106 => ?_) (fun h106 => ?_)))
    ·replace hh := iteO_t h106 hh
     refine TL.f z (TL.f z (TL.f z (TL.f z (TL.f z (TL.f z (TL.w z (pickTB z z z) (TL.en (TC.t z (TC.a (TL.i z z (TL.en (TC.rt 0 (S.r ?_)))))))))))))
     obtain rfl := so hh
     exact rq [2] ⟨z, z, z⟩
    ·replace hh := iteO_f h106 hh
     refine TL.g z (fieldLoc z fo25_2 z) (TL.g z (loadLoc z ag22 z (i := 0) z z) (TL.g z (fieldLoc z fo25_0 z) (TL.g z (loadLoc z ag3 z (i := 0) z z) ?_)))
     obtain ⟨v29, u29, hh⟩ := bnd_e hh
     refine TL.gon z z z z z (callP (Eu_ f0_1 u29) z z pf50 z z z ?_)
     refine TL.g z (OpVal.not z z) (TL.w z (pickFB z z z) (TL.en (TC.cB z hh (fun h107 hh => ?_) (fun h107 hh => ?_))))
     ·refine TC.a (TL.i z z (TL.en (TC.rt 0 (S.r ?_))))
      obtain rfl := so hh
      exact rq [2] ⟨z, z, z⟩
     ·refine TC.skip (S.n (TC.seq (TC.a (TL.w z (fieldLoc z fo25_3 z) (TL.w z (loadLoc z ag23 z (i := 0) z z) (TL.w z (lenC z underlying23 z) (TL.i z z (TL.en (TC.block (TC.loopG (α := (Nat) × (Unit)) (rgs [(2, 1), (4, 1), (36, 31)]) (fun g => [(36, .int .i64 ((g.1 : Nat) : Int))]) (fun g => [Res.cells b101 #[.int .i64 x0.states, .slice a0_0 x0.starts.length c0_0, .slice a0_1 x0.ends.length c0_1, .slice a0_2 x0.arcs.length c0_2] 25]) (fun g => σ) (fun g => iter (fun q : Nat => A4_ x0 q) g.1 = some r) (fun g => rounds (fun q : Nat => A4_ x0 q) g.1) (0, ()) (Sub.pre 1 z) z (by repeat (first | exact trivial | refine ⟨z, ?_⟩)) hh (fun g1 j1 hg1 => ?_)))))))))))
      obtain ⟨k110, _⟩ := g1
      have hh := hg1; clear hg1
      try dsimp only
      obtain ⟨z1, hh, hR1⟩ := iter_e hh
      dsimp only [A4_] at hh
      refine TC.a (TL.w z (OpVal.lss z z z) (TL.en (TC.seq (TC.cD z hh (fun h111 hh => ?_) (fun h111 hh => ?_)))))
      ·refine TC.skip (S.n (TC.seq (TC.block (TC.a (TL.w z (indexN z underlying23 sz66 z z f0_2.rv.sl (by omega)) (TL.w z (loadSA Arc.zero z ag66 sz66 z f0_2 (by omega) (by omega)) (TL.op z (OpOk.alloc z ze66 z z (fun b112 => ?_)))))))))
       refine TL.op z (storeAll z sz66 z z z z z z ?_)
       refine TL.en (TC.a (TL.w z (fieldLoc z fo66_0 z) (TL.w z (loadLoc z ag3 z (i := 0) z z) (TL.w z (fieldLoc z fo25_0 z) (TL.w z (loadLoc z ag3 z (i := 1) z z) ?_)))))
       obtain ⟨v46, u46, hh⟩ := bnd_e hh
       refine TL.op z (callP (Es_ u46) z z pf51 z z z ?_)
       refine TL.w z (OpVal.not z z) (TL.j z z (TL.split 46 z (fun h114 => ?_) (fun h114 => ?_)))
       ·replace hh := iteO_t h114 hh
        refine TL.f z (TL.f z (TL.f z (TL.f z (TL.f z (TL.f z (TL.w z (pickTB z z z) (TL.j z z (TL.f z (TL.f z (TL.f z (TL.f z (TL.w z (pickTB z z z) (TL.j z z (TL.f z (TL.f z (TL.f z (TL.f z (TL.w z (pickTB z z z) (TL.en (TC.t z (TC.a (TL.i z z (TL.en (TC.rt 0 (B.r (S.r (S.r ?_)))))))))))))))))))))))))))
        replace hh := fin_x hR1 hh
        refine B.r (S.r ?_)
        obtain rfl := so hh
        exact rq [2] ⟨z, z, z⟩
       ·replace hh := iteO_f h114 hh
        refine TL.g z (fieldLoc z fo66_1 z) (TL.g z (loadLoc z ag3 z (i := 0) z z) (TL.g z (fieldLoc z fo25_0 z) (TL.g z (loadLoc z ag3 z (i := 1) z z) ?_)))
        obtain ⟨v53, u53, hh⟩ := bnd_e hh
        refine TL.gon z z z z z (callP (Es_ u53) z z pf51 z z z ?_)
        refine TL.g z (OpVal.not z z) (TL.w z (pickFB z z z) (TL.j z z (TL.split 54 z (fun h115 => ?_) (fun h115 => ?_))))
        ·replace hh := iteO_t h115 hh
         refine TL.f z (TL.f z (TL.f z (TL.f z (TL.w z (pickTB z z z) (TL.j z z (TL.f z (TL.f z (TL.f z (TL.f z (TL.w z (pickTB z z z) (TL.en (TC.t z (TC.a (TL.i z z (TL.en (TC.rt 0 (B.r (S.r (S.r ?_)))))))))))))))))))
         replace hh := fin_x hR1 hh
         refine B.r (S.r ?_)
         obtain rfl := so hh
         exact rq [2] ⟨z, z, z⟩
        ·replace hh := iteO_f h115 hh
         refine TL.g z (fieldLoc z fo66_2 z) (TL.g z (loadLocA z ag55 sz55 z (i := 0) z z z) (TL.g z (buildArrL z underlying55 sz53 ze55 z) (TL.g z (eqlSet (s := (nth x0.arcs k110 Arc.zero).set) (t := BSet.zero) z underlying55 underlying53 ag53 sz53 eg55 z z) (TL.w z (pickFB z z z) (TL.j z z (TL.split 60 z (fun h116 => ?_) (fun h116 => ?_)))))))
         ·replace hh := iteO_t h116 hh
          replace h116 := of_decide_eq_true h116
          refine TL.f z (TL.f z (TL.f z (TL.f z (TL.w z (pickTB z z z) (TL.en (TC.t z (TC.a (TL.i z z (TL.en (TC.rt 0 (B.r (S.r (S.r ?_)))))))))))))
          replace hh := fin_x hR1 hh
          refine B.r (S.r ?_)
          obtain rfl := so hh
          exact rq [2] ⟨z, z, z⟩
         ·replace hh := iteO_f h116 hh
          replace h116 := of_decide_eq_false h116
          refine TL.g z (fieldLoc z fo66_3 z) (TL.g z (loadLoc z ag9 z (i := 0) z z) (TL.g z (lenBs z underlying9 z) (TL.g z (OpVal.gtr z z z) (TL.w z (pickFB z z z) (TL.en (TC.cD z hh (fun h117 hh => ?_) (fun h117 hh => ?_)))))))
          ·refine TC.a (TL.i z z (TL.en (TC.rt 0 (B.r (S.r (S.r ?_))))))
           replace hh := fin_x hR1 hh
           refine B.r (S.r ?_)
           obtain rfl := so hh
           exact rq [2] ⟨z, z, z⟩
          ·refine TC.skip (B.n (S.n (TC.region (TL.w z (OpVal.succ z z z (by omega)) (TL.i z z (TL.en ?_))))))
           obtain ⟨hh, hlt118⟩ := nxt_x hR1 hh
           exact lf ((k110 + 1), ()) hlt118 hh (Sub.f [1] 1)
      ·refine TC.exit (S.x (S.x ?_))
       replace hh := fin_x hR1 hh
       refine TC.exitHere (S.n (TC.a (TL.i z z (TL.en (TC.rt 0 ?_)))))
       obtain rfl := so hh
       exact rq [2] ⟨z, z, z⟩
noncomputable def D8_ (k128 : Nat) (m130 : FM FPair Unit) : Option (((FM FPair Unit) × Nat) ⊕ (((FM FPair Unit)) ⊕ ((FM FPair Unit) × Bool))) :=
 nxt (m130, (k128 + 1))
noncomputable def Cg_ (m127 : FM FPair Unit) (x0 : List (List Arc)) (v7c : FPair × Unit) (k128 : Nat) (s134 : List UInt8) : Option (((FM FPair Unit) × Nat) ⊕ (((FM FPair Unit)) ⊕ ((FM FPair Unit) × Bool))) :=
 iteO (decide (4096 < (((m127.put (⟨(nth (nth x0 v7c.1.state.toNat ([] : List Arc)) k128 Arc.zero).to, s134⟩ : FPair) ()).n : Nat) : Int))) (fin (fin (some ((FM.emp : FM FPair Unit), false)))) (D8_ k128 (m127.put (⟨(nth (nth x0 v7c.1.state.toNat ([] : List Arc)) k128 Arc.zero).to, s134⟩ : FPair) ()))
noncomputable def Ay_ (x0 : List (List Arc)) (v7c : FPair × Unit) (x2 : UInt8) (m127 : FM FPair Unit) (k128 : Nat) : Option (((FM FPair Unit) × Nat) ⊕ (((FM FPair Unit)) ⊕ ((FM FPair Unit) × Bool))) :=
 iteO (decide (((k128 : Nat) : Int) < (((nth x0 v7c.1.state.toNat ([] : List Arc)).length : Nat) : Int))) (iteO (!(((nth (nth x0 v7c.1.state.toNat ([] : List Arc)) k128 Arc.zero).set).has x2.toNat)) (D8_ k128 m127) (grd (v7c.1.out.length + ((nth (nth x0 v7c.1.state.toNat ([] : List Arc)) k128 Arc.zero).out).length ≤ 9223372036854775807) (iteO ((nth (nth x0 v7c.1.state.toNat ([] : List Arc)) k128 Arc.zero).copy) (grd ((v7c.1.out ++ (nth (nth x0 v7c.1.state.toNat ([] : List Arc)) k128 Arc.zero).out).length + [x2].length ≤ 9223372036854775807) (Cg_ m127 x0 v7c k128 ((v7c.1.out ++ (nth (nth x0 v7c.1.state.toNat ([] : List Arc)) k128 Arc.zero).out) ++ [x2]))) (Cg_ m127 x0 v7c k128 (v7c.1.out ++ (nth (nth x0 v7c.1.state.toNat ([] : List Arc)) k128 Arc.zero).out))))) (fin (nxt m127))
noncomputable def Bm_ (x0 : List (List Arc)) (x2 : UInt8) (m114 : FM FPair Unit) (oE : Option (FPair × Unit)) : Option (((FM FPair Unit)) ⊕ ((FM FPair Unit) × Bool)) :=
 optE oE (fin (some (m114, true))) (fun v7c => grd (0 ≤ v7c.1.state ∧ v7c.1.state < (x0.length : Int)) (iter (fun q : (FM FPair Unit) × Nat => Ay_ x0 v7c x2 q.1 q.2) (m114, 0)))
noncomputable def E6_ (x0 : List (List Arc)) (x1 : FM FPair Unit) (x2 : UInt8) : Option ((FM FPair Unit) × Bool) :=
 allP (fun q => Rep q x1) (fun q => runL (fun (q : (FM FPair Unit)) (oE : Option (FPair × Unit)) => Bm_ x0 x2 q oE) q (FM.emp : FM FPair Unit))
theorem Gy_ {σ : Store} {x0 : List (List Arc)} {a0_0 : Option Addr} {c0_0 : Nat} {x1 : FM FPair Unit} {b1_0 : Option Nat} {x2 : UInt8} (f0_0 : RZ σ (pkSl 8 encArc encArc_len) (.slice a0_0 x0.length c0_0) x0) {r : (FM FPair Unit) × Bool} (hh : E6_ x0 x1 x2 = some r) :
  Con Tryz.prog 30 #[.slice a0_0 x0.length c0_0, .map b1_0, .int .u8 ((x2.toNat : Nat) : Int)] σ [Res.mapB (fun x => Value.agg (encFPair x).toArray) unitV b1_0 x1] (fun v σ' H' => ∃ (br1 : Option Nat), v = .tuple #[.map br1, .bool r.2] ∧ σ = σ' ∧ H' = [Res.mapB (fun x => Value.agg (encFPair x).toArray) unitV br1 r.1]) := by
 dsimp only [E6_] at hh
 have f0_0b := f0_0.big
 refine Con.mk (n := 58) Tryz.func30 z z z (fun w0 => ?_)
 refine TC.a (TL.w z (moveMap (.inr z) z) (TL.j z z (TL.en (TC.a (TL.op z (makeMapB (enc := (fun x => Value.agg (encFPair x).toArray)) (encV := unitV) z z z (fun b103 => ?_)))))))
 refine TL.w z (moveMap (.inr z) z) (TL.en (TC.seq (TC.a (TL.w z (moveMap (.inl z) z) (TL.front 1 z z (TL.op z (rangeB z underlying81 z z z (fun it105 l106 hl107 => ?_))))))))
 refine TL.en (TC.block (TC.loopG (α := ((FM FPair Unit)) × ((List (FPair × Unit)) × (Option (FPair × Unit)))) (rgs [(6, 2), (9, 1), (11, 2), (16, 41)]) (fun g => []) (fun g => [Res.mapB (fun x => Value.agg (encFPair x).toArray) unitV (some b103) g.1, Res.rng (fun x => Value.agg (encFPair x).toArray) unitV b1_0 it105 x1 g.2.1 g.2.2]) (fun g => σ) (fun g => runA (fun (q : (FM FPair Unit)) (oE : Option (FPair × Unit)) => Bm_ x0 x2 q oE) g.2.1 g.1 = some r) (fun g => List.length g.2.1) ((FM.emp : FM FPair Unit), (l106, none)) (Sub.f [1] 2) z (by repeat (first | exact trivial | refine ⟨z, ?_⟩)) (runA_of hh hl107) (fun g1 j1 hg1 => ?_)))
 obtain ⟨m114, ⟨l115, o116⟩⟩ := g1
 have hh := hg1; clear hg1
 try dsimp only
 refine TC.a (TL.front 1 z z (TL.op z (nextB (T := 0) z z z z z (fun hl117 => ?_) (fun l118 v7c l119 hl117 => ?_))))
 ·subst hl117
  obtain ⟨z1, hh, hR1⟩ := runA_end hh
  dsimp only [Bm_, optE_none] at hh
  refine TL.by (fun w h => Reach.unrng h) (TL.w z (OpVal.extract z z z) (TL.en (TC.seq (TC.f z (TC.exit (S.x (S.x ?_)))))))
  replace hh := finE_x hR1 hh
  refine TC.exitHere (S.n (TC.a (TL.w z (moveMap (.inl z) z) (TL.w z (moveMap (.inr z) z) (TL.j z z (TL.en (TC.ofSub (Sub.f [1] 1) (TC.ret ?_))))))))
  obtain rfl := so hh
  exact ro [Res.mapB (fun x => Value.agg (encFPair x).toArray) unitV (some b103) m114] z (RVs.tmp z (RVs.tmp z RVs.nil)) ⟨(some b103), z, z, z⟩
 ·subst hl117
  obtain ⟨z1, hh, hR1⟩ := runA_step hh
  dsimp only [Bm_, optE_some] at hh
  refine TL.w z (OpVal.extract z z z) (TL.en (TC.seq (TC.t z (TC.skip (S.n (TC.block (TC.a (TL.w z (OpVal.of (entryB z z (i := 0) z) (v' := .tuple #[.agg #[.int .i64 v7c.1.state, .string (bs v7c.1.out)], .agg #[]]) z) (TL.w z (OpVal.extract z z z) (TL.op z (OpOk.alloc z ze84 z z (fun b120 => ?_))))))))))))
  refine TL.op z (storeAll z sz84 z z z z z z ?_)
  refine TL.en (TC.a (TL.s z z (TL.w z (fieldLoc z fo84_0 z) (TL.w z (loadLoc z ag3 z (i := 0) z z) ?_))))
  have u16 := grd_c hh
  replace hh := grd_t hh
  refine TL.w z (OpVal.index z underlying68 sz23 z z f0_0.isSl u16.1 u16.2) ?_
  obtain ⟨p122, hk122, hg122⟩ := RZ.seg f0_0 v7c.1.state.toNat (by omega)
  replace hk122 : RS _ 8 encArc (.slice p122.1 (nth x0 v7c.1.state.toNat ([] : List Arc)).length p122.2) (nth x0 v7c.1.state.toNat ([] : List Arc)) := hk122
  have hk122b := hk122.rv.big
  refine TL.w z (OpVal.of (loadSeg0 z ag23 z hg122 z) (v' := .slice p122.1 ((nth x0 v7c.1.state.toNat ([] : List Arc)).length) p122.2) z) (TL.w z (lenC z underlying23 z) (TL.i z z (TL.en (TC.block (TC.loopG (α := ((FM FPair Unit) × Nat) × (Unit)) (rgs [(6, 2), (11, 2), (26, 31)]) (fun g => [(26, .int .i64 ((g.1.2 : Nat) : Int))]) (fun g => [Res.mapB (fun x => Value.agg (encFPair x).toArray) unitV (some b103) g.1.1, Res.cells b120 #[.int .i64 v7c.1.state, .string (bs v7c.1.out)] 84, Res.rng (fun x => Value.agg (encFPair x).toArray) unitV b1_0 it105 x1 (l118 ++ l119) (some v7c)]) (fun g => σ) (fun g => iter (fun q : (FM FPair Unit) × Nat => Ay_ x0 v7c x2 q.1 q.2) g.1 = some z1) (fun g => rounds (fun q : (FM FPair Unit) × Nat => Ay_ x0 v7c x2 q.1 q.2) g.1) ((m114, 0), ()) (Sub.f [1, 1, 2] 3) z (by repeat (first | exact trivial | refine ⟨z, ?_⟩)) hh (fun g2 j2 hg2 => ?_))))))
  obtain ⟨⟨m127, k128⟩, _⟩ := g2
  have hh := hg2; clear hg2
  try dsimp only
  obtain ⟨z2, hh, hR2⟩ := iter_e hh
  dsimp only [Ay_] at hh
  refine TC.a (TL.w z (OpVal.lss z z z) (TL.en (TC.seq (TC.cD z hh (fun h129 hh => ?_) (fun h129 hh => ?_)))))
  ·refine TC.skip (S.n (TC.cutG (α := ((FM FPair Unit)) × (Unit)) (rgs [(6, 2), (11, 2), (28, 28)]) (fun g => []) (fun g => [Res.mapB (fun x => Value.agg (encFPair x).toArray) unitV (some b103) g.1, Res.cells b120 #[.int .i64 v7c.1.state, .string (bs v7c.1.out)] 84, Res.rng (fun x => Value.agg (encFPair x).toArray) unitV b1_0 it105 x1 (l118 ++ l119) (some v7c)]) (fun g => σ) (fun g => D8_ k128 g.1 = some z2) ?_ (fun g j hg => ?_)))
   ·skip
    refine TC.block (TC.a (TL.w z (indexN z underlying23 sz66 z z hk122.rv.sl (by omega)) (TL.w z (loadSA Arc.zero z ag66 sz66 z hk122 (by omega) (by omega)) (TL.op z (OpOk.alloc z ze66 z z (fun b131 => ?_))))))
    refine TL.op z (storeAll z sz66 z z z z z z ?_)
    refine TL.en (TC.seq (TC.a (TL.w z (fieldLoc z fo66_2 z) (TL.w z (loadLocA z ag55 sz55 z (i := 0) z z z) (TL.i z z (TL.op z (callP (has_con _ ((nth (nth x0 v7c.1.state.toNat ([] : List Arc)) k128 Arc.zero).set) x2.toNat (BSet.isOk _) (UInt8.toNat_lt _)) z z pf62 z z z ?_)))))))
    refine TL.w z (OpVal.not z z) (TL.en (TC.cB z hh (fun h133 hh => ?_) (fun h133 hh => ?_)))
    ·exact TC.exit (S.x (TC.exitHere (S.n (cf (m127, ()) hh (Sub.f [3, 3, 3] 3)))))
    ·refine TC.skip (S.n (TC.a (TL.w z (fieldLoc z fo84_1 z) (TL.w z (loadLoc z ag9 z (i := 2) z z) (TL.w z (fieldLoc z fo66_3 z) (TL.w z (loadLoc z ag9 z (i := 0) z z) ?_))))))
     have u34 := grd_c hh
     replace hh := grd_t hh
     refine TL.w z (catBs z z z u34) (TL.w z (moveStr (.inr z) z) (TL.en (TC.cutG (α := ((List UInt8)) × (Unit)) (rgs [(12, 1), (40, 7)]) (fun g => [(12, .string (bs g.1))]) (fun g => [Res.mapB (fun x => Value.agg (encFPair x).toArray) unitV (some b103) m127, Res.cells b120 #[.int .i64 v7c.1.state, .string (bs v7c.1.out)] 84, Res.cells b131 #[.int .i64 ((nth (nth x0 v7c.1.state.toNat ([] : List Arc)) k128 Arc.zero).frm), .int .i64 ((nth (nth x0 v7c.1.state.toNat ([] : List Arc)) k128 Arc.zero).to), .int .u64 ((((nth (nth x0 v7c.1.state.toNat ([] : List Arc)) k128 Arc.zero).set).a : Nat) : Int), .int .u64 ((((nth (nth x0 v7c.1.state.toNat ([] : List Arc)) k128 Arc.zero).set).b : Nat) : Int), .int .u64 ((((nth (nth x0 v7c.1.state.toNat ([] : List Arc)) k128 Arc.zero).set).c : Nat) : Int), .int .u64 ((((nth (nth x0 v7c.1.state.toNat ([] : List Arc)) k128 Arc.zero).set).d : Nat) : Int), .string (bs ((nth (nth x0 v7c.1.state.toNat ([] : List Arc)) k128 Arc.zero).out)), .bool ((nth (nth x0 v7c.1.state.toNat ([] : List Arc)) k128 Arc.zero).copy)] 66, Res.rng (fun x => Value.agg (encFPair x).toArray) unitV b1_0 it105 x1 (l118 ++ l119) (some v7c)]) (fun g => σ) (fun g => Cg_ m127 x0 v7c k128 g.1 = some z2) ?_ (fun g j hg => ?_))))
     ·skip
      refine TC.a (TL.w z (fieldLoc z fo66_4 z) (TL.w z (loadLoc z ag4 z (i := 0) z z) (TL.en (TC.cB z hh (fun h135 hh => ?_) (fun h135 hh => ?_)))))
      ·refine TC.region (TL.w z (moveStr (.inl z) z) (TL.i z z (TL.op z (OpOk.lit (enc := encU8) [x2] z underlying134 sz5 ze5 z z z encU8_len (by decide) (by decide) (0 : UInt8) z (by decide) z (by decide) encU8_one (fun a136 c137 => ?_)))))
       refine TL.isSl (i := 0) z (fun hs139 _ _ => ?_)
       refine TL.w z (bytesStr (l := [x2]) z underlying134 underlying5 underlying9 z hs139 (fun w hw => rdb_row (q := 0) z hw)) ?_
       have u42 := grd_c hh
       replace hh := grd_t hh
       exact TL.w z (catBs z z z u42) (TL.w z (moveStr (.inr z) z) (TL.en (cf (((v7c.1.out ++ (nth (nth x0 v7c.1.state.toNat ([] : List Arc)) k128 Arc.zero).out) ++ [x2]), ()) hh (Sub.f [4, 2, 4, 4] 4))))
      ·exact TC.skip (S.n (cf ((v7c.1.out ++ (nth (nth x0 v7c.1.state.toNat ([] : List Arc)) k128 Arc.zero).out), ()) hh (Sub.f [3, 1, 3, 3] 4)))
     ·skip
      obtain ⟨s134, _⟩ := g
      have hh := hg; clear hg
      try dsimp only
      dsimp only [Cg_] at hh
      refine TC.a (TL.w z (moveMap (.inl z) z) (TL.w z (fieldLoc z fo66_1 z) (TL.w z (loadLoc z ag3 z (i := 2) z z) (TL.w z (moveStr (.inl z) z) (TL.w z (buildL z pl84 ze84 z) (TL.w z (buildL z pl82 ze82 z) (TL.op z (updB (⟨(nth (nth x0 v7c.1.state.toNat ([] : List Arc)) k128 Arc.zero).to, s134⟩ : FPair) () z underlying81 z z z z kl84 ?_))))))))
      refine TL.en (TC.a (TL.w z (moveMap (.inl z) z) (TL.w z (lenB z underlying81 z (i := 0) z) (TL.w z (OpVal.gtr z z z) (TL.en (TC.cD z hh (fun h140 hh => ?_) (fun h140 hh => ?_)))))))
      ·refine TC.a (TL.w z (moveMap (.inr z) z) (TL.j z z (TL.en (TC.by (fun w h => Reach.nilMap (enc := (fun x => Value.agg (encFPair x).toArray)) (encV := unitV) h) (TC.rt 1 (B.r (S.r (S.r ?_))))))))
       replace hh := fin_x hR2 hh
       refine B.r (B.r (S.r ?_))
       replace hh := finA_x hR1 hh
       refine B.r (S.r ?_)
       obtain rfl := so hh
       exact ro [Res.mapB (fun x => Value.agg (encFPair x).toArray) unitV none (FM.emp : FM FPair Unit)] z (RVs.tmp z (RVs.tmp z RVs.nil)) ⟨none, z, z, z⟩
      ·exact TC.skip (B.n (S.n (cf ((m127.put (⟨(nth (nth x0 v7c.1.state.toNat ([] : List Arc)) k128 Arc.zero).to, s134⟩ : FPair) ()), ()) hh (Sub.f [3, 2, 2] 3))))
   ·skip
    obtain ⟨m130, _⟩ := g
    have hh := hg; clear hg
    try dsimp only
    dsimp only [D8_] at hh
    refine TC.region (TL.w z (OpVal.succ z z z (by omega)) (TL.i z z (TL.en ?_)))
    obtain ⟨hh, hlt142⟩ := nxt_x hR2 hh
    exact lf ((m130, (k128 + 1)), ()) hlt142 hh (Sub.f [2, 2, 2] 3)
  ·refine TC.exit (S.x (S.x ?_))
   replace hh := fin_x hR2 hh
   refine TC.exitHere (B.n (S.n ?_))
   replace hh := nxtA_x hR1 hh
   exact lf (m127, ((l118 ++ l119), (some v7c))) (by simp) hh (Sub.f [2, 1] 2)
end Go.Proofs.YtamgjehhjkgelaaGreatDoor
end

section
namespace Go.E
open Go
structure Grow where
  f : Fst
  over : Bool
end Go.E
end

section
namespace Go.E
open Go
def TB (X : Ctx) (R : Exit → Act → World → Prop) (c : Code) (e : Env) (σ : Store) (H : List Res) : Prop :=
  ∀ w a, RM X a σ w H → St X.n e a → c.wpIn (fence X.rnd) 0 X.P R a w
def TLB (X : Ctx) (ops : Array Oper) (R : Exit → Act → World → Prop) (l : List Oper) (e : Env) (σ : Store) (H : List Res) : Prop :=
  ∀ w a, RM X a σ w H → St X.n e a → wpListIn (fence X.rnd) 0 X.P ops R l a w
def endE (w0 : World) (C : List Nat) (σ0 : Store) (Post : Value → Store → List Res → Prop) : Ending → World → Prop :=
  fun e w' => ∃ r σ' H', e = .returned r ∧ Post r σ' H' ∧ Reach w0 C σ0 σ' w' H'
def endR (P : Program) (fn : Func) (w0 : World) (C : List Nat) (σ0 : Store) (Post : Value → Store → List Res → Prop) : Exit → Act → World → Prop :=
  bodyPostM (fence none) 0 P fn (endE w0 C σ0 Post)
theorem startSt {args : List Value} {n : Nat} {fn : Func} (hn : fn.ntmps = n) (ha : Nat.ble args.length n = true) : St n (argEnv args) { tmps := args.toArray ++ Array.replicate (fn.ntmps - args.toArray.size) undef, defers := [] } := by
  have := Nat.le_of_ble_eq_true ha
  refine ⟨?_, fun t => ?_⟩
  · simp [hn]; omega
  · simp only [Array.getD_eq_getD_getElem?, Array.getElem?_append, argEnv, List.getElem?_toArray, List.size_toArray, Array.getElem?_replicate]
    split
    · rfl
    · rename_i hlt
      rw [List.getElem?_eq_none (by omega)]
      split <;> rfl
theorem MarksOk.start {w0 : World} {σ : Store} {H : List Res} {w : World} : MarksOk w0 none (some []) [] σ H w := ⟨(fun h => by cases h), (fun _ h => by cases h; rfl), fun _ h => by cases h⟩
theorem Con.mkD {P : Program} {f : FuncId} {fn : Func} {c : Code} {args : List Value} {n : Nat} {σ : Store} {H : List Res} {Post : Value → Store → List Res → Prop}
    (hf : P.funcs[f]? = some fn) (hb : fn.body = some c) (hn : fn.ntmps = n) (ha : Nat.ble args.length n = true)
    (h : ∀ w0, TB ⟨P, w0, blks H, σ, n, none, some []⟩ (endR P fn w0 (blks H) σ Post) c (argEnv args) σ H) : Con P f args.toArray σ H Post := by
  intro w hw
  exact calls_fence.1 (callsIn_of_wp_marks (F := fence none) (n := 0) hf hb trivial (h w w _ ⟨hw, MarksOk.start⟩ (startSt hn ha)))
def ConD (P : Program) (f : FuncId) (args : Array Value) (σ : Store) (H : List Res) (Post : Value → Store → List Res → Prop) : Prop :=
  ∀ w, Reach w (blks H) σ σ w H → CallsDIn (fence none) 0 P f args .returning w fun e u w' => u = .returning ∧ ∃ r σ' H', e = .returned r ∧ Post r σ' H' ∧ Reach w (blks H) σ σ' w' H'
theorem ConD.mono {P : Program} {f : FuncId} {args : Array Value} {σ : Store} {H : List Res} {Post Post' : Value → Store → List Res → Prop}
    (h : ConD P f args σ H Post) (hp : ∀ r σ' H', σ.le σ' → Post r σ' H' → Post' r σ' H') : ConD P f args σ H Post' := fun w hw =>
  (h w hw).mono fun _ _ _ ⟨h0, r, σ', H', h1, h2, h3⟩ => ⟨h0, r, σ', H', h1, hp _ _ _ h3.le h2, h3⟩
theorem ConD.mk {P : Program} {f : FuncId} {fn : Func} {c : Code} {args : List Value} {n : Nat} {σ : Store} {H : List Res} {Post : Value → Store → List Res → Prop}
    (hf : P.funcs[f]? = some fn) (hb : fn.body = some c) (hn : fn.ntmps = n) (ha : Nat.ble args.length n = true)
    (h : ∀ w0, TC ⟨P, w0, blks H, σ, n, none, some []⟩ (retQ P fn n Post) c (argEnv args) σ H) : ConD P f args.toArray σ H Post := by
  intro w hw
  refine callsDIn_of_wp hf hb trivial (Go.wpIn_mono (h w w _ ⟨hw, MarksOk.start⟩ (startSt hn ha)) ?_)
  rintro ex a w' ⟨e', σ', H', h1, h2, ⟨hex, r, H'', h3, h4, h5⟩⟩
  have hd : a.defers = [] := h2.marks.is _ rfl
  have hfin : a.defers = [] ∧ ∃ v, (results fn a.tmps).run P w' = .ok v w' ∧ (∃ r σ' H', Ending.returned v = .returned r ∧ Post r σ' H' ∧ Reach w (blks H) σ σ' w' H') :=
    ⟨hd, r, h3 w' a h1 h2.holds, r, σ', H'', rfl, h5, h2.toReach.sub h4⟩
  rcases hex with rfl | rfl
  · exact hfin
  · exact hfin
section rules
variable {X : Ctx} {ops : Array Oper} {R : Exit → Act → World → Prop} {Q : QP} {e : Env} {σ : Store} {H F : List Res} {o : Oper} {rest : List Oper} {c c1 c2 : Code} {fn : Func} {Post : Value → Store → List Res → Prop}
theorem endR_ret {P : Program} {w0 : World} {C : List Nat} {σ0 : Store} {n : Nat} : ∀ ex a w, low ⟨P, w0, C, σ0, n, none, some []⟩ (retQ P fn n Post) ex a w → endR P fn w0 C σ0 Post ex a w := by
  rintro ex a w ⟨e, σ, H, h1, h2, ⟨hex, r, H', h3, h4, h5⟩⟩
  have hd : a.defers = [] := h2.marks.is _ rfl
  have hfin : LeavesInM (fence none) 0 P fn a.tmps (endE w0 C σ0 Post) a.defers .returning w := by
    rw [hd]; exact ⟨r, h3 w a h1 h2.holds, r, σ, H', rfl, h5, h2.toReach.sub h4⟩
  rcases hex with rfl | rfl
  · exact hfin
  · exact hfin
def dfrQ (P : Program) (fn : Func) (n : Nat) (Post : Value → Store → List Res → Prop) (f : FuncId) (args : List Value) : QP := fun ex e σ H =>
  (ex = .ret ∨ ex = .normal) ∧ ∃ F, Sub F H ∧ ConD P f args.toArray σ F fun _ σ' H' => RetOk P fn n Post .ret e σ' H'
theorem endR_dfr {P : Program} {w0 : World} {C : List Nat} {σ0 : Store} {n : Nat} {f : FuncId} {cap dargs : List Value} (hp : plainF P f = true) :
    ∀ ex a w, low ⟨P, w0, C, σ0, n, none, some [⟨.fn (.func f) cap.toArray, dargs.toArray⟩]⟩ (dfrQ P fn n Post f (dargs ++ cap)) ex a w → endR P fn w0 C σ0 Post ex a w := by
  rintro ex a w ⟨e, σ, H, h1, h2, hex, F, hs, hcon⟩
  have hd : a.defers = [⟨.fn (.func f) cap.toArray, dargs.toArray⟩] := h2.marks.is _ rfl
  have h3 : Reach w0 C σ0 σ w F := h2.toReach.ofSub hs
  have hfin : LeavesInM (fence none) 0 P fn a.tmps (endE w0 C σ0 Post) a.defers .returning w := by
    rw [hd]
    refine ⟨by simp, .inr ⟨(fun h => by cases h), .func f, cap.toArray, f, (dargs ++ cap).toArray, rfl, ?_, (fun _ _ => trivial), (hcon w h3.self).mono ?_⟩⟩
    · simp [invoke, run_callFunc hp]
    · rintro _ _ w' ⟨rfl, r, σ', H', rfl, ⟨-, v, H'', h4, h5, h6⟩, h7⟩
      have h8 : Reach w0 C σ0 σ' w' H' := by
        have := (show Reach w0 C σ0 σ w (F ++ []) by rwa [List.append_nil]).call h7
        rwa [List.append_nil] at this
      exact ⟨v, h4 w' a h1 h8.holds, v, σ', H'', rfl, h6, h8.sub h5⟩
  rcases hex with rfl | rfl
  · exact hfin
  · exact hfin
theorem TB.seq (hR : ∀ ex a w, low X Q ex a w → R ex a w) (h : TC X (seqQ (TB X R c2) Q) c1 e σ H) : TB X R (.seq c1 c2) e σ H := fun w a hw ha =>
  Go.wpIn_seq (Go.wpIn_mono (h w a hw ha) fun ex a' w' ⟨e', σ', H', h1, h2, h3⟩ => by
    cases ex
    case normal => exact h3 w' a' h2 h1
    all_goals exact hR _ _ _ ⟨e', σ', H', h1, h2, h3⟩)
theorem TB.fin (hR : ∀ ex a w, low X Q ex a w → R ex a w) (h : TC X Q c e σ H) : TB X R c e σ H := fun w a hw ha => Go.wpIn_mono (h w a hw ha) (hR)
theorem TLB.v {v : Value} {d : Nat} (hg : o.guard = none) (h : OpVal X.P X.n o e σ H v) (hd : o.dst = some d) (hn : Nat.blt d X.n = true) (k : TLB X ops R rest (upd e d v) σ H) : TLB X ops R (o :: rest) e σ H := fun w a hw ha =>
  wpListIn_plain hg fun K hK => (OpVal.ok h hd hn (K := fun e' σ' H' => TLB X ops R rest e' σ' H') k).at hw ha fun e' σ' H' a' w' hk hw' ha' => hK a' w' (hk w' a' hw' ha')
theorem TLB.dfr {P : Program} {w0 : World} {C : List Nat} {σ0 : Store} {n : Nat} {f : FuncId} {cap first : Array Value} {x : Operand} {opds : Array Operand} {ts : Array TypeId} {dargs : List Value}
    (hg : o.guard = none) (hop : o.op = .defer { callee := .value x, args := opds, argTypes := ts }) (hx : ev e x = .func (.func f) first cap) (hd : o.dst = none) (ha : first.toList ++ opds.toList.map (ev e) = dargs)
    (hK : ∀ a w, RM ⟨P, w0, C, σ0, n, none, some [⟨.fn (.func f) cap, dargs.toArray⟩]⟩ a σ w H → St n e a → R .normal a w) :
    TLB ⟨P, w0, C, σ0, n, none, some []⟩ ops R [o] e σ H := fun w a hw hst => by
  have ha' : first ++ opds.map (ev e) = dargs.toArray := by apply Array.ext'; rw [← ha]; simp
  refine wpListIn_plain hg fun K hK' => ⟨(fun _ _ => trivial), ?_⟩
  have hs : (o.semAt (fence none).round a.eval).run P w = .ok (.defer ⟨.fn (.func f) cap, dargs.toArray⟩) w := by
    rw [hst.eval', ← ha']
    simp [Oper.semAt, execOp, hop, resolve, hx, Deferred.ofValue]
  show Oper.uponIn _ _ _ _ _ _ _ ((o.semAt (fence none).round a.eval).run P w)
  rw [hs, Oper.uponIn_defer, hd]
  have h0 : a.defers = [] := hw.marks.is _ rfl
  refine hK' _ _ (hK _ _ ⟨?_, ⟨(fun h => by cases h), (fun l h => ?_), fun _ h => by cases h⟩⟩ ⟨hst.size, hst.get⟩)
  · exact hw.toReach
  · cases h; show _ :: a.defers = _; rw [h0]
theorem TB.seqD {id : Nat} {l : List Oper} (h : TLB X l.toArray (fun ex a w => match ex with | .normal => c2.wpIn (fence X.rnd) 0 X.P R a w | ex => R ex a w) l e σ H) : TB X R (.seq (.region id l.toArray false) c2) e σ H := fun w a hw ha =>
  Go.wpIn_seq (Go.wpIn_mono (wpIn_region_lit (h w a hw ha)) fun ex a' w' hq => by cases ex <;> exact hq)
end rules
end Go.E
end

section
namespace Go.Proofs.YtamgjehhjkgelaaGreatDoor
open Go Go.E Go.E.OpVal Go.E.OpOk Go.Proofs.Tryz
private theorem ag25 : Go.E.aggOf Tryz.prog 25 = some true := by kernel_rfl
private theorem by43 : Go.E.byOf Tryz.prog 43 = some 24 := by kernel_rfl
private theorem by66 : Go.E.byOf Tryz.prog 66 = some 72 := by kernel_rfl
private theorem fo163_0 : Go.E.foOf Tryz.prog 163 0 = some 0 := by kernel_rfl
private theorem fo163_1 : Go.E.foOf Tryz.prog 163 1 = some 4 := by kernel_rfl
private theorem pl25 : Go.E.plOf Tryz.prog 25 = some #[(0, 1), (1, 1), (2, 1), (3, 1)] := by kernel_rfl
private theorem sz22 : Go.E.szOf Tryz.prog 22 = some 1 := by kernel_rfl
private theorem sz25 : Go.E.szOf Tryz.prog 25 = some 4 := by kernel_rfl
private theorem sz27 : Go.E.szOf Tryz.prog 27 = some 1 := by kernel_rfl
private theorem sz4 : Go.E.szOf Tryz.prog 4 = some 1 := by kernel_rfl
private theorem ze25 : Go.E.zeroOf Tryz.prog 25 = some (.agg #[.int .i64 0, .slice none 0 0, .slice none 0 0, .slice none 0 0]) := by kernel_rfl
noncomputable def B8_ (x0 : Grow) (x1 : Tip) : Option (Grow) :=
 iteO x0.over (some (⟨(⟨x0.f.states, x0.f.starts, x0.f.ends, x0.f.arcs⟩ : Fst), true⟩ : Grow)) (iteO (decide (1024 ≤ ((x0.f.starts.length : Nat) : Int))) (some (⟨(⟨x0.f.states, x0.f.starts, x0.f.ends, x0.f.arcs⟩ : Fst), true⟩ : Grow)) (iteO (decide (1024 < ((x1.out.length : Nat) : Int))) (some (⟨(⟨x0.f.states, x0.f.starts, x0.f.ends, x0.f.arcs⟩ : Fst), true⟩ : Grow)) (grd ((x0.f.starts.length + [x1].length) * 24 ≤ 140737488355328) (some (⟨(⟨x0.f.states, (x0.f.starts ++ [x1]), x0.f.ends, x0.f.arcs⟩ : Fst), x0.over⟩ : Grow)))))
theorem F9_ {σ : Store} {x0 : Grow} {b0_0 : Nat} {Eb0 : Nat} {a0_1 : Option Addr} {c0_2 : Nat} {a0_3 : Option Addr} {c0_4 : Nat} {a0_5 : Option Addr} {c0_6 : Nat} {x1 : Tip}  {r : Grow} (hh : B8_ x0 x1 = some r) :
  Con Tryz.prog 87 #[loc b0_0 0, .agg #[.int .i64 x1.state, .string (bs x1.out)]] σ [Res.cells b0_0 #[.int .i64 x0.f.states, .slice a0_1 x0.f.starts.length c0_2, .slice a0_3 x0.f.ends.length c0_4, .slice a0_5 x0.f.arcs.length c0_6, .bool x0.over] Eb0, Res.rowS 43 2 encTip (.slice a0_1 x0.f.starts.length c0_2) x0.f.starts, Res.rowS 43 2 encTip (.slice a0_3 x0.f.ends.length c0_4) x0.f.ends, Res.rowS 66 8 encArc (.slice a0_5 x0.f.arcs.length c0_6) x0.f.arcs] (fun v σ' H' => ∃ (ao1 : Option Addr), ∃ (co2 : Nat), ∃ (ao3 : Option Addr), ∃ (co4 : Nat), ∃ (ao5 : Option Addr), ∃ (co6 : Nat), v = .tuple #[] ∧ σ = σ' ∧ H' = [Res.cells b0_0 #[.int .i64 r.f.states, .slice ao1 r.f.starts.length co2, .slice ao3 r.f.ends.length co4, .slice ao5 r.f.arcs.length co6, .bool r.over] Eb0, Res.rowS 43 2 encTip (.slice ao1 r.f.starts.length co2) r.f.starts, Res.rowS 43 2 encTip (.slice ao3 r.f.ends.length co4) r.f.ends, Res.rowS 66 8 encArc (.slice ao5 r.f.arcs.length co6) r.f.arcs]) := by
 dsimp only [B8_] at hh
 refine Con.mk (n := 38) Tryz.func87 z z z (fun w0 => ?_)
 refine TC.weakR (TC.a (TL.op z (boxA z z z z (fun b108 => ?_))))
 refine TL.en (TC.seq (TC.a (TL.l z z (TL.w z (nilCheckLoc z z) (TL.w z (fieldLoc z fo163_1 z) (TL.w z (loadLoc z ag4 z (i := 1) z z) (TL.j z z (TL.split 8 z (fun h110 => ?_) (fun h110 => ?_)))))))))
 ·replace hh := iteO_t h110 hh
  refine TL.f z (TL.f z (TL.f z (TL.f z (TL.f z (TL.f z (TL.f z (TL.w z (pickTB z z z) (TL.j z z (TL.f z (TL.f z (TL.f z (TL.f z (TL.w z (pickTB z z z) (TL.en (TC.t z (TC.a (TL.l z z (TL.w z (nilCheckLoc z z) (TL.w z (fieldLoc z fo163_1 z) (TL.front 1 z z (TL.op z (storeB z sz4 z z z z z ?_))))))))))))))))))))))
  refine TL.en (TC.ofSub (Sub.f [4, 4, 4, 3] 4) (TC.ret (S.r ?_)))
  obtain rfl := so hh
  refine ⟨_, Sub.f [3, 3, 3, 3] 4, ?_⟩
  exact ro [Res.cells b0_0 #[.int .i64 x0.f.states, .slice a0_1 x0.f.starts.length c0_2, .slice a0_3 x0.f.ends.length c0_4, .slice a0_5 x0.f.arcs.length c0_6, .bool true] Eb0, Res.rowS 43 2 encTip (.slice a0_1 x0.f.starts.length c0_2) x0.f.starts, Res.rowS 43 2 encTip (.slice a0_3 x0.f.ends.length c0_4) x0.f.ends, Res.rowS 66 8 encArc (.slice a0_5 x0.f.arcs.length c0_6) x0.f.arcs] z RVs.nil ⟨a0_1, c0_2, a0_3, c0_4, a0_5, c0_6, z, z, z⟩
 ·replace hh := iteO_f h110 hh
  refine TL.g z (moveLoc (.inl z) z) (TL.g z (nilCheckLoc z z) (TL.g z (fieldLoc z fo163_0 z) (TL.g z (fieldLoc z fo25_1 z) (TL.g z (loadLoc z ag22 z (i := 1) z z) (TL.g z (lenC z underlying22 z) (TL.g z (OpVal.geq z z z) (TL.w z (pickFB z z z) (TL.j z z (TL.split 17 z (fun h111 => ?_) (fun h111 => ?_))))))))))
  ·replace hh := iteO_t h111 hh
   replace h111 := of_decide_eq_true h111
   refine TL.f z (TL.f z (TL.f z (TL.f z (TL.w z (pickTB z z z) (TL.en (TC.t z (TC.a (TL.l z z (TL.w z (nilCheckLoc z z) (TL.w z (fieldLoc z fo163_1 z) (TL.front 1 z z (TL.op z (storeB z sz4 z z z z z ?_)))))))))))))
   refine TL.en (TC.ofSub (Sub.f [4, 4, 4, 3] 4) (TC.ret (S.r ?_)))
   obtain rfl := so hh
   refine ⟨_, Sub.f [3, 3, 3, 3] 4, ?_⟩
   exact ro [Res.cells b0_0 #[.int .i64 x0.f.states, .slice a0_1 x0.f.starts.length c0_2, .slice a0_3 x0.f.ends.length c0_4, .slice a0_5 x0.f.arcs.length c0_6, .bool true] Eb0, Res.rowS 43 2 encTip (.slice a0_1 x0.f.starts.length c0_2) x0.f.starts, Res.rowS 43 2 encTip (.slice a0_3 x0.f.ends.length c0_4) x0.f.ends, Res.rowS 66 8 encArc (.slice a0_5 x0.f.arcs.length c0_6) x0.f.arcs] z RVs.nil ⟨a0_1, c0_2, a0_3, c0_4, a0_5, c0_6, z, z, z⟩
  ·replace hh := iteO_f h111 hh
   replace h111 := of_decide_eq_false h111
   refine TL.g z (fieldLoc z fo43_1 z) (TL.g z (loadLoc z ag9 z (i := 0) z z) (TL.g z (lenBs z underlying9 z) (TL.g z (OpVal.gtr z z z) (TL.w z (pickFB z z z) (TL.en (TC.cD z hh (fun h112 hh => ?_) (fun h112 hh => ?_)))))))
   ·refine TC.a (TL.l z z (TL.w z (nilCheckLoc z z) (TL.w z (fieldLoc z fo163_1 z) (TL.front 1 z z (TL.op z (storeB z sz4 z z z z z ?_))))))
    refine TL.en (TC.ofSub (Sub.f [4, 4, 4, 3] 4) (TC.ret (S.r ?_)))
    obtain rfl := so hh
    refine ⟨_, Sub.f [3, 3, 3, 3] 4, ?_⟩
    exact ro [Res.cells b0_0 #[.int .i64 x0.f.states, .slice a0_1 x0.f.starts.length c0_2, .slice a0_3 x0.f.ends.length c0_4, .slice a0_5 x0.f.arcs.length c0_6, .bool true] Eb0, Res.rowS 43 2 encTip (.slice a0_1 x0.f.starts.length c0_2) x0.f.starts, Res.rowS 43 2 encTip (.slice a0_3 x0.f.ends.length c0_4) x0.f.ends, Res.rowS 66 8 encArc (.slice a0_5 x0.f.arcs.length c0_6) x0.f.arcs] z RVs.nil ⟨a0_1, c0_2, a0_3, c0_4, a0_5, c0_6, z, z, z⟩
   ·refine TC.skip (S.n ?_)
    have u33 := grd_c hh
    replace hh := grd_t hh
    refine TC.draw [8, 9, 10, 11, 12] (by kernel_rfl) (TA.a 0 z (moveLoc (.inl z) z) z (TA.a 1 z (moveLoc (.inl z) z) z (TA.a 2 z (nilCheckLoc z z) z (TA.a 3 z (fieldLoc z fo163_0 z) z (TA.a 4 z (fieldLoc z fo25_1 z) z (TA.b 5 z (loadLoc z ag22 z (i := 1) z z) z (TA.b 6 z (loadAll z ag43 sz43 z (i := 0) z z) z (TA.ac 7 z (OpOk.lit (enc := encTip) [x1] z underlying22 sz43 ze43 z z z encTip_len (by decide) (by decide) Tip.zero z (by decide) z (by decide) encTip_one (fun a118 c119 => (k1 ?_)))))))))))
    refine TA.front 3 z z (TA.last 8 (by kernel_rfl) z z z (appendS z z underlying22 sz43 by43 ze43 z z (by decide) z z z (.inr ⟨_, 0, z⟩) (by simpa using u33) (by decide) (fun a121 c122 => ?_)))
    refine TZ.v 9 (by kernel_rfl) z z z (nilCheckLoc z z) z z (TZ.v 10 (by kernel_rfl) z z z (fieldLoc z fo163_0 z) z z (TZ.v 11 (by kernel_rfl) z z z (fieldLoc z fo25_1 z) z z (TZ.front 3 z z (TZ.last 12 (by kernel_rfl) z z z (storeSl z sz22 z z z z z ?_)))))
    refine TZ.done (by kernel_rfl) ?_
    obtain rfl := so hh
    refine ⟨_, Sub.f [5, 5, 3, 3] 4, ?_⟩
    exact RetOk.mk' (rs := []) [Res.cells b0_0 #[.int .i64 x0.f.states, .slice a121 ((x0.f.starts ++ [x1]).length) c122, .slice a0_3 x0.f.ends.length c0_4, .slice a0_5 x0.f.arcs.length c0_6, .bool x0.over] Eb0, Res.rowS 43 2 encTip (.slice a121 (x0.f.starts ++ [x1]).length c122) (x0.f.starts ++ [x1]), Res.rowS 43 2 encTip (.slice a0_3 x0.f.ends.length c0_4) x0.f.ends, Res.rowS 66 8 encArc (.slice a0_5 x0.f.arcs.length c0_6) x0.f.arcs] z (.inr z) RVs.nil (List.sublist_append_left _ _) ⟨a121, c122, a0_3, c0_4, a0_5, c0_6, z, z, z⟩
noncomputable def Cz_ (x0 : Grow) (x1 : Tip) : Option (Grow) :=
 iteO x0.over (some (⟨(⟨x0.f.states, x0.f.starts, x0.f.ends, x0.f.arcs⟩ : Fst), true⟩ : Grow)) (iteO (decide (1024 ≤ ((x0.f.ends.length : Nat) : Int))) (some (⟨(⟨x0.f.states, x0.f.starts, x0.f.ends, x0.f.arcs⟩ : Fst), true⟩ : Grow)) (iteO (decide (1024 < ((x1.out.length : Nat) : Int))) (some (⟨(⟨x0.f.states, x0.f.starts, x0.f.ends, x0.f.arcs⟩ : Fst), true⟩ : Grow)) (grd ((x0.f.ends.length + [x1].length) * 24 ≤ 140737488355328) (some (⟨(⟨x0.f.states, x0.f.starts, (x0.f.ends ++ [x1]), x0.f.arcs⟩ : Fst), x0.over⟩ : Grow)))))
theorem Ge_ {σ : Store} {x0 : Grow} {b0_0 : Nat} {Eb0 : Nat} {a0_1 : Option Addr} {c0_2 : Nat} {a0_3 : Option Addr} {c0_4 : Nat} {a0_5 : Option Addr} {c0_6 : Nat} {x1 : Tip}  {r : Grow} (hh : Cz_ x0 x1 = some r) :
  Con Tryz.prog 88 #[loc b0_0 0, .agg #[.int .i64 x1.state, .string (bs x1.out)]] σ [Res.cells b0_0 #[.int .i64 x0.f.states, .slice a0_1 x0.f.starts.length c0_2, .slice a0_3 x0.f.ends.length c0_4, .slice a0_5 x0.f.arcs.length c0_6, .bool x0.over] Eb0, Res.rowS 43 2 encTip (.slice a0_1 x0.f.starts.length c0_2) x0.f.starts, Res.rowS 43 2 encTip (.slice a0_3 x0.f.ends.length c0_4) x0.f.ends, Res.rowS 66 8 encArc (.slice a0_5 x0.f.arcs.length c0_6) x0.f.arcs] (fun v σ' H' => ∃ (ao1 : Option Addr), ∃ (co2 : Nat), ∃ (ao3 : Option Addr), ∃ (co4 : Nat), ∃ (ao5 : Option Addr), ∃ (co6 : Nat), v = .tuple #[] ∧ σ = σ' ∧ H' = [Res.cells b0_0 #[.int .i64 r.f.states, .slice ao1 r.f.starts.length co2, .slice ao3 r.f.ends.length co4, .slice ao5 r.f.arcs.length co6, .bool r.over] Eb0, Res.rowS 43 2 encTip (.slice ao1 r.f.starts.length co2) r.f.starts, Res.rowS 43 2 encTip (.slice ao3 r.f.ends.length co4) r.f.ends, Res.rowS 66 8 encArc (.slice ao5 r.f.arcs.length co6) r.f.arcs]) := by
 dsimp only [Cz_] at hh
 refine Con.mk (n := 38) Tryz.func88 z z z (fun w0 => ?_)
 refine TC.weakR (TC.a (TL.op z (boxA z z z z (fun b108 => ?_))))
 refine TL.en (TC.seq (TC.a (TL.l z z (TL.w z (nilCheckLoc z z) (TL.w z (fieldLoc z fo163_1 z) (TL.w z (loadLoc z ag4 z (i := 1) z z) (TL.j z z (TL.split 8 z (fun h110 => ?_) (fun h110 => ?_)))))))))
 ·replace hh := iteO_t h110 hh
  refine TL.f z (TL.f z (TL.f z (TL.f z (TL.f z (TL.f z (TL.f z (TL.w z (pickTB z z z) (TL.j z z (TL.f z (TL.f z (TL.f z (TL.f z (TL.w z (pickTB z z z) (TL.en (TC.t z (TC.a (TL.l z z (TL.w z (nilCheckLoc z z) (TL.w z (fieldLoc z fo163_1 z) (TL.front 1 z z (TL.op z (storeB z sz4 z z z z z ?_))))))))))))))))))))))
  refine TL.en (TC.ofSub (Sub.f [4, 4, 4, 3] 4) (TC.ret (S.r ?_)))
  obtain rfl := so hh
  refine ⟨_, Sub.f [3, 3, 3, 3] 4, ?_⟩
  exact ro [Res.cells b0_0 #[.int .i64 x0.f.states, .slice a0_1 x0.f.starts.length c0_2, .slice a0_3 x0.f.ends.length c0_4, .slice a0_5 x0.f.arcs.length c0_6, .bool true] Eb0, Res.rowS 43 2 encTip (.slice a0_1 x0.f.starts.length c0_2) x0.f.starts, Res.rowS 43 2 encTip (.slice a0_3 x0.f.ends.length c0_4) x0.f.ends, Res.rowS 66 8 encArc (.slice a0_5 x0.f.arcs.length c0_6) x0.f.arcs] z RVs.nil ⟨a0_1, c0_2, a0_3, c0_4, a0_5, c0_6, z, z, z⟩
 ·replace hh := iteO_f h110 hh
  refine TL.g z (moveLoc (.inl z) z) (TL.g z (nilCheckLoc z z) (TL.g z (fieldLoc z fo163_0 z) (TL.g z (fieldLoc z fo25_2 z) (TL.g z (loadLoc z ag22 z (i := 1) z z) (TL.g z (lenC z underlying22 z) (TL.g z (OpVal.geq z z z) (TL.w z (pickFB z z z) (TL.j z z (TL.split 17 z (fun h111 => ?_) (fun h111 => ?_))))))))))
  ·replace hh := iteO_t h111 hh
   replace h111 := of_decide_eq_true h111
   refine TL.f z (TL.f z (TL.f z (TL.f z (TL.w z (pickTB z z z) (TL.en (TC.t z (TC.a (TL.l z z (TL.w z (nilCheckLoc z z) (TL.w z (fieldLoc z fo163_1 z) (TL.front 1 z z (TL.op z (storeB z sz4 z z z z z ?_)))))))))))))
   refine TL.en (TC.ofSub (Sub.f [4, 4, 4, 3] 4) (TC.ret (S.r ?_)))
   obtain rfl := so hh
   refine ⟨_, Sub.f [3, 3, 3, 3] 4, ?_⟩
   exact ro [Res.cells b0_0 #[.int .i64 x0.f.states, .slice a0_1 x0.f.starts.length c0_2, .slice a0_3 x0.f.ends.length c0_4, .slice a0_5 x0.f.arcs.length c0_6, .bool true] Eb0, Res.rowS 43 2 encTip (.slice a0_1 x0.f.starts.length c0_2) x0.f.starts, Res.rowS 43 2 encTip (.slice a0_3 x0.f.ends.length c0_4) x0.f.ends, Res.rowS 66 8 encArc (.slice a0_5 x0.f.arcs.length c0_6) x0.f.arcs] z RVs.nil ⟨a0_1, c0_2, a0_3, c0_4, a0_5, c0_6, z, z, z⟩
  ·replace hh := iteO_f h111 hh
   replace h111 := of_decide_eq_false h111
   refine TL.g z (fieldLoc z fo43_1 z) (TL.g z (loadLoc z ag9 z (i := 0) z z) (TL.g z (lenBs z underlying9 z) (TL.g z (OpVal.gtr z z z) (TL.w z (pickFB z z z) (TL.en (TC.cD z hh (fun h112 hh => ?_) (fun h112 hh => ?_)))))))
   ·refine TC.a (TL.l z z (TL.w z (nilCheckLoc z z) (TL.w z (fieldLoc z fo163_1 z) (TL.front 1 z z (TL.op z (storeB z sz4 z z z z z ?_))))))
    refine TL.en (TC.ofSub (Sub.f [4, 4, 4, 3] 4) (TC.ret (S.r ?_)))
    obtain rfl := so hh
    refine ⟨_, Sub.f [3, 3, 3, 3] 4, ?_⟩
    exact ro [Res.cells b0_0 #[.int .i64 x0.f.states, .slice a0_1 x0.f.starts.length c0_2, .slice a0_3 x0.f.ends.length c0_4, .slice a0_5 x0.f.arcs.length c0_6, .bool true] Eb0, Res.rowS 43 2 encTip (.slice a0_1 x0.f.starts.length c0_2) x0.f.starts, Res.rowS 43 2 encTip (.slice a0_3 x0.f.ends.length c0_4) x0.f.ends, Res.rowS 66 8 encArc (.slice a0_5 x0.f.arcs.length c0_6) x0.f.arcs] z RVs.nil ⟨a0_1, c0_2, a0_3, c0_4, a0_5, c0_6, z, z, z⟩
   ·refine TC.skip (S.n ?_)
    have u33 := grd_c hh
    replace hh := grd_t hh
    refine TC.draw [8, 9, 10, 11, 12] (by kernel_rfl) (TA.a 0 z (moveLoc (.inl z) z) z (TA.a 1 z (moveLoc (.inl z) z) z (TA.a 2 z (nilCheckLoc z z) z (TA.a 3 z (fieldLoc z fo163_0 z) z (TA.a 4 z (fieldLoc z fo25_2 z) z (TA.b 5 z (loadLoc z ag22 z (i := 1) z z) z (TA.b 6 z (loadAll z ag43 sz43 z (i := 0) z z) z (TA.ac 7 z (OpOk.lit (enc := encTip) [x1] z underlying22 sz43 ze43 z z z encTip_len (by decide) (by decide) Tip.zero z (by decide) z (by decide) encTip_one (fun a118 c119 => (k1 ?_)))))))))))
    refine TA.front 4 z z (TA.last 8 (by kernel_rfl) z z z (appendS z z underlying22 sz43 by43 ze43 z z (by decide) z z z (.inr ⟨_, 0, z⟩) (by simpa using u33) (by decide) (fun a121 c122 => ?_)))
    refine TZ.v 9 (by kernel_rfl) z z z (nilCheckLoc z z) z z (TZ.v 10 (by kernel_rfl) z z z (fieldLoc z fo163_0 z) z z (TZ.v 11 (by kernel_rfl) z z z (fieldLoc z fo25_2 z) z z (TZ.front 3 z z (TZ.last 12 (by kernel_rfl) z z z (storeSl z sz22 z z z z z ?_)))))
    refine TZ.done (by kernel_rfl) ?_
    obtain rfl := so hh
    refine ⟨_, Sub.f [5, 2, 5, 3] 4, ?_⟩
    exact RetOk.mk' (rs := []) [Res.cells b0_0 #[.int .i64 x0.f.states, .slice a0_1 x0.f.starts.length c0_2, .slice a121 ((x0.f.ends ++ [x1]).length) c122, .slice a0_5 x0.f.arcs.length c0_6, .bool x0.over] Eb0, Res.rowS 43 2 encTip (.slice a0_1 x0.f.starts.length c0_2) x0.f.starts, Res.rowS 43 2 encTip (.slice a121 (x0.f.ends ++ [x1]).length c122) (x0.f.ends ++ [x1]), Res.rowS 66 8 encArc (.slice a0_5 x0.f.arcs.length c0_6) x0.f.arcs] z (.inr z) RVs.nil (List.sublist_append_left _ _) ⟨a0_1, c0_2, a121, c122, a0_5, c0_6, z, z, z⟩
noncomputable def C3_ (x0 : Grow) (x1 : Arc) : Option (Grow) :=
 iteO x0.over (some (⟨(⟨x0.f.states, x0.f.starts, x0.f.ends, x0.f.arcs⟩ : Fst), true⟩ : Grow)) (iteO (decide (16384 ≤ ((x0.f.arcs.length : Nat) : Int))) (some (⟨(⟨x0.f.states, x0.f.starts, x0.f.ends, x0.f.arcs⟩ : Fst), true⟩ : Grow)) (iteO (decide (1024 < ((x1.out.length : Nat) : Int))) (some (⟨(⟨x0.f.states, x0.f.starts, x0.f.ends, x0.f.arcs⟩ : Fst), true⟩ : Grow)) (grd ((x0.f.arcs.length + [x1].length) * 72 ≤ 140737488355328) (some (⟨(⟨x0.f.states, x0.f.starts, x0.f.ends, (x0.f.arcs ++ [x1])⟩ : Fst), x0.over⟩ : Grow)))))
theorem Gd_ {σ : Store} {x0 : Grow} {b0_0 : Nat} {Eb0 : Nat} {a0_1 : Option Addr} {c0_2 : Nat} {a0_3 : Option Addr} {c0_4 : Nat} {a0_5 : Option Addr} {c0_6 : Nat} {x1 : Arc}  {r : Grow} (hh : C3_ x0 x1 = some r) :
  Con Tryz.prog 89 #[loc b0_0 0, .agg #[.int .i64 x1.frm, .int .i64 x1.to, .int .u64 ((x1.set.a : Nat) : Int), .int .u64 ((x1.set.b : Nat) : Int), .int .u64 ((x1.set.c : Nat) : Int), .int .u64 ((x1.set.d : Nat) : Int), .string (bs x1.out), .bool x1.copy]] σ [Res.cells b0_0 #[.int .i64 x0.f.states, .slice a0_1 x0.f.starts.length c0_2, .slice a0_3 x0.f.ends.length c0_4, .slice a0_5 x0.f.arcs.length c0_6, .bool x0.over] Eb0, Res.rowS 43 2 encTip (.slice a0_1 x0.f.starts.length c0_2) x0.f.starts, Res.rowS 43 2 encTip (.slice a0_3 x0.f.ends.length c0_4) x0.f.ends, Res.rowS 66 8 encArc (.slice a0_5 x0.f.arcs.length c0_6) x0.f.arcs] (fun v σ' H' => ∃ (ao1 : Option Addr), ∃ (co2 : Nat), ∃ (ao3 : Option Addr), ∃ (co4 : Nat), ∃ (ao5 : Option Addr), ∃ (co6 : Nat), v = .tuple #[] ∧ σ = σ' ∧ H' = [Res.cells b0_0 #[.int .i64 r.f.states, .slice ao1 r.f.starts.length co2, .slice ao3 r.f.ends.length co4, .slice ao5 r.f.arcs.length co6, .bool r.over] Eb0, Res.rowS 43 2 encTip (.slice ao1 r.f.starts.length co2) r.f.starts, Res.rowS 43 2 encTip (.slice ao3 r.f.ends.length co4) r.f.ends, Res.rowS 66 8 encArc (.slice ao5 r.f.arcs.length co6) r.f.arcs]) := by
 dsimp only [C3_] at hh
 refine Con.mk (n := 38) Tryz.func89 z z z (fun w0 => ?_)
 refine TC.weakR (TC.a (TL.op z (boxA z z z z (fun b108 => ?_))))
 refine TL.en (TC.seq (TC.a (TL.l z z (TL.w z (nilCheckLoc z z) (TL.w z (fieldLoc z fo163_1 z) (TL.w z (loadLoc z ag4 z (i := 1) z z) (TL.j z z (TL.split 8 z (fun h110 => ?_) (fun h110 => ?_)))))))))
 ·replace hh := iteO_t h110 hh
  refine TL.f z (TL.f z (TL.f z (TL.f z (TL.f z (TL.f z (TL.f z (TL.w z (pickTB z z z) (TL.j z z (TL.f z (TL.f z (TL.f z (TL.f z (TL.w z (pickTB z z z) (TL.en (TC.t z (TC.a (TL.l z z (TL.w z (nilCheckLoc z z) (TL.w z (fieldLoc z fo163_1 z) (TL.front 1 z z (TL.op z (storeB z sz4 z z z z z ?_))))))))))))))))))))))
  refine TL.en (TC.ofSub (Sub.f [4, 4, 4, 3] 4) (TC.ret (S.r ?_)))
  obtain rfl := so hh
  refine ⟨_, Sub.f [3, 3, 3, 3] 4, ?_⟩
  exact ro [Res.cells b0_0 #[.int .i64 x0.f.states, .slice a0_1 x0.f.starts.length c0_2, .slice a0_3 x0.f.ends.length c0_4, .slice a0_5 x0.f.arcs.length c0_6, .bool true] Eb0, Res.rowS 43 2 encTip (.slice a0_1 x0.f.starts.length c0_2) x0.f.starts, Res.rowS 43 2 encTip (.slice a0_3 x0.f.ends.length c0_4) x0.f.ends, Res.rowS 66 8 encArc (.slice a0_5 x0.f.arcs.length c0_6) x0.f.arcs] z RVs.nil ⟨a0_1, c0_2, a0_3, c0_4, a0_5, c0_6, z, z, z⟩
 ·replace hh := iteO_f h110 hh
  refine TL.g z (moveLoc (.inl z) z) (TL.g z (nilCheckLoc z z) (TL.g z (fieldLoc z fo163_0 z) (TL.g z (fieldLoc z fo25_3 z) (TL.g z (loadLoc z ag23 z (i := 1) z z) (TL.g z (lenC z underlying23 z) (TL.g z (OpVal.geq z z z) (TL.w z (pickFB z z z) (TL.j z z (TL.split 17 z (fun h111 => ?_) (fun h111 => ?_))))))))))
  ·replace hh := iteO_t h111 hh
   replace h111 := of_decide_eq_true h111
   refine TL.f z (TL.f z (TL.f z (TL.f z (TL.w z (pickTB z z z) (TL.en (TC.t z (TC.a (TL.l z z (TL.w z (nilCheckLoc z z) (TL.w z (fieldLoc z fo163_1 z) (TL.front 1 z z (TL.op z (storeB z sz4 z z z z z ?_)))))))))))))
   refine TL.en (TC.ofSub (Sub.f [4, 4, 4, 3] 4) (TC.ret (S.r ?_)))
   obtain rfl := so hh
   refine ⟨_, Sub.f [3, 3, 3, 3] 4, ?_⟩
   exact ro [Res.cells b0_0 #[.int .i64 x0.f.states, .slice a0_1 x0.f.starts.length c0_2, .slice a0_3 x0.f.ends.length c0_4, .slice a0_5 x0.f.arcs.length c0_6, .bool true] Eb0, Res.rowS 43 2 encTip (.slice a0_1 x0.f.starts.length c0_2) x0.f.starts, Res.rowS 43 2 encTip (.slice a0_3 x0.f.ends.length c0_4) x0.f.ends, Res.rowS 66 8 encArc (.slice a0_5 x0.f.arcs.length c0_6) x0.f.arcs] z RVs.nil ⟨a0_1, c0_2, a0_3, c0_4, a0_5, c0_6, z, z, z⟩
  ·replace hh := iteO_f h111 hh
   replace h111 := of_decide_eq_false h111
   refine TL.g z (fieldLoc z fo66_3 z) (TL.g z (loadLoc z ag9 z (i := 0) z z) (TL.g z (lenBs z underlying9 z) (TL.g z (OpVal.gtr z z z) (TL.w z (pickFB z z z) (TL.en (TC.cD z hh (fun h112 hh => ?_) (fun h112 hh => ?_)))))))
   ·refine TC.a (TL.l z z (TL.w z (nilCheckLoc z z) (TL.w z (fieldLoc z fo163_1 z) (TL.front 1 z z (TL.op z (storeB z sz4 z z z z z ?_))))))
    refine TL.en (TC.ofSub (Sub.f [4, 4, 4, 3] 4) (TC.ret (S.r ?_)))
    obtain rfl := so hh
    refine ⟨_, Sub.f [3, 3, 3, 3] 4, ?_⟩
    exact ro [Res.cells b0_0 #[.int .i64 x0.f.states, .slice a0_1 x0.f.starts.length c0_2, .slice a0_3 x0.f.ends.length c0_4, .slice a0_5 x0.f.arcs.length c0_6, .bool true] Eb0, Res.rowS 43 2 encTip (.slice a0_1 x0.f.starts.length c0_2) x0.f.starts, Res.rowS 43 2 encTip (.slice a0_3 x0.f.ends.length c0_4) x0.f.ends, Res.rowS 66 8 encArc (.slice a0_5 x0.f.arcs.length c0_6) x0.f.arcs] z RVs.nil ⟨a0_1, c0_2, a0_3, c0_4, a0_5, c0_6, z, z, z⟩
   ·refine TC.skip (S.n ?_)
    have u33 := grd_c hh
    replace hh := grd_t hh
    refine TC.draw [8, 9, 10, 11, 12] (by kernel_rfl) (TA.a 0 z (moveLoc (.inl z) z) z (TA.a 1 z (moveLoc (.inl z) z) z (TA.a 2 z (nilCheckLoc z z) z (TA.a 3 z (fieldLoc z fo163_0 z) z (TA.a 4 z (fieldLoc z fo25_3 z) z (TA.b 5 z (loadLoc z ag23 z (i := 1) z z) z (TA.b 6 z (loadAll z ag66 sz66 z (i := 0) z z) z (TA.ac 7 z (OpOk.lit (enc := encArc) [x1] z underlying23 sz66 ze66 z z z encArc_len (by decide) (by decide) Arc.zero z (by decide) z (by decide) encArc_one (fun a118 c119 => (k1 ?_)))))))))))
    refine TA.front 5 z z (TA.last 8 (by kernel_rfl) z z z (appendS z z underlying23 sz66 by66 ze66 z z (by decide) z z z (.inr ⟨_, 0, z⟩) (by simpa using u33) (by decide) (fun a121 c122 => ?_)))
    refine TZ.v 9 (by kernel_rfl) z z z (nilCheckLoc z z) z z (TZ.v 10 (by kernel_rfl) z z z (fieldLoc z fo163_0 z) z z (TZ.v 11 (by kernel_rfl) z z z (fieldLoc z fo25_3 z) z z (TZ.front 3 z z (TZ.last 12 (by kernel_rfl) z z z (storeSl z sz23 z z z z z ?_)))))
    refine TZ.done (by kernel_rfl) ?_
    obtain rfl := so hh
    refine ⟨_, Sub.f [1, 5, 5, 3] 4, ?_⟩
    exact RetOk.mk' (rs := []) [Res.cells b0_0 #[.int .i64 x0.f.states, .slice a0_1 x0.f.starts.length c0_2, .slice a0_3 x0.f.ends.length c0_4, .slice a121 ((x0.f.arcs ++ [x1]).length) c122, .bool x0.over] Eb0, Res.rowS 43 2 encTip (.slice a0_1 x0.f.starts.length c0_2) x0.f.starts, Res.rowS 43 2 encTip (.slice a0_3 x0.f.ends.length c0_4) x0.f.ends, Res.rowS 66 8 encArc (.slice a121 (x0.f.arcs ++ [x1]).length c122) (x0.f.arcs ++ [x1])] z (.inr z) RVs.nil (List.sublist_append_left _ _) ⟨a0_1, c0_2, a0_3, c0_4, a121, c122, z, z, z⟩
noncomputable def Cb_ (x0 : Grow) : Option (Fst × Int) :=
 iteO x0.over (some ((⟨0, ([] : List Tip), ([] : List Tip), ([] : List Arc)⟩ : Fst), 2)) (iteO (decide (1024 < x0.f.states)) (some ((⟨0, ([] : List Tip), ([] : List Tip), ([] : List Arc)⟩ : Fst), 2)) (some ((⟨x0.f.states, x0.f.starts, x0.f.ends, x0.f.arcs⟩ : Fst), 0)))
theorem Gc_ {σ : Store} {x0 : Grow} {b0_0 : Nat} {Eb0 : Nat} {a0_1 : Option Addr} {c0_2 : Nat} {a0_3 : Option Addr} {c0_4 : Nat} {a0_5 : Option Addr} {c0_6 : Nat} {b1_0 : Nat} {Eb1 : Nat} {b2_0 : Nat} {Eb2 : Nat} {x2g : Int}  {r : Fst × Int} (hh : Cb_ x0 = some r) :
  ConD Tryz.prog 86 #[loc b0_0 0, loc b1_0 0, loc b2_0 0] σ [Res.cells b0_0 #[.int .i64 x0.f.states, .slice a0_1 x0.f.starts.length c0_2, .slice a0_3 x0.f.ends.length c0_4, .slice a0_5 x0.f.arcs.length c0_6, .bool x0.over] Eb0, Res.rowS 43 2 encTip (.slice a0_1 x0.f.starts.length c0_2) x0.f.starts, Res.rowS 43 2 encTip (.slice a0_3 x0.f.ends.length c0_4) x0.f.ends, Res.rowS 66 8 encArc (.slice a0_5 x0.f.arcs.length c0_6) x0.f.arcs, Res.cells b1_0 #[.int .i64 0, .slice none 0 0, .slice none 0 0, .slice none 0 0] Eb1, Res.cells b2_0 #[.int .i64 x2g] Eb2] (fun v σ' H' => ∃ (ao1 : Option Addr), ∃ (co2 : Nat), ∃ (ao4 : Option Addr), ∃ (co5 : Nat), ∃ (ao7 : Option Addr), ∃ (co8 : Nat), v = .tuple #[] ∧ RS σ' 2 encTip (.slice ao1 r.1.starts.length co2) r.1.starts ∧ RS σ' 2 encTip (.slice ao4 r.1.ends.length co5) r.1.ends ∧ RS σ' 8 encArc (.slice ao7 r.1.arcs.length co8) r.1.arcs ∧ H' = [Res.cells b1_0 #[.int .i64 r.1.states, .slice ao1 r.1.starts.length co2, .slice ao4 r.1.ends.length co5, .slice ao7 r.1.arcs.length co8] Eb1, Res.cells b2_0 #[.int .i64 r.2] Eb2]) := by
 dsimp only [Cb_] at hh
 refine ConD.mk (n := 31) Tryz.func86 z z z (fun w0 => ?_)
 refine TC.weakR (TC.seq (TC.a (TL.l z z (TL.w z (nilCheckLoc z z) (TL.w z (fieldLoc z fo163_1 z) (TL.w z (loadLoc z ag4 z (i := 0) z z) (TL.j z z (TL.split 10 z (fun h110 => ?_) (fun h110 => ?_)))))))))
 ·replace hh := iteO_t h110 hh
  refine TL.f z (TL.f z (TL.f z (TL.f z (TL.f z (TL.f z (TL.w z (pickTB z z z) (TL.en (TC.t z (TC.a (TL.l z z (TL.l z z (TL.w z (buildL z pl25 ze25 z) (TL.w z (nilCheckLoc z z) (TL.front 4 z z (TL.op z (storeAll z sz25 z z z z z z ?_))))))))))))))))
  refine TL.w z (nilCheckLoc z z) (TL.front 5 z z (TL.op z (storeI z sz27 z z z z z ?_)))
  refine TL.en (TC.ofSub (Sub.f [1] 2) (TC.ret (S.r ?_)))
  obtain rfl := so hh
  refine ⟨_, Sub.f [1, 1] 2, ?_⟩
  exact ro [Res.cells b1_0 #[.int .i64 0, .slice none 0 0, .slice none 0 0, .slice none 0 0] Eb1, Res.cells b2_0 #[.int .i64 2] Eb2] z RVs.nil ⟨none, 0, none, 0, none, 0, z, (RS.nilF _ encTip encTip_len), (RS.nilF _ encTip encTip_len), (RS.nilF _ encArc encArc_len), z⟩
 ·replace hh := iteO_f h110 hh
  refine TL.g z (moveLoc (.inl z) z) (TL.g z (nilCheckLoc z z) (TL.g z (fieldLoc z fo163_0 z) (TL.g z (fieldLoc z fo25_0 z) (TL.g z (loadLoc z ag3 z (i := 0) z z) (TL.g z (OpVal.gtr z z z) (TL.w z (pickFB z z z) (TL.en (TC.cD z hh (fun h111 hh => ?_) (fun h111 hh => ?_)))))))))
  ·refine TC.a (TL.l z z (TL.l z z (TL.w z (buildL z pl25 ze25 z) (TL.w z (nilCheckLoc z z) (TL.front 4 z z (TL.op z (storeAll z sz25 z z z z z z ?_)))))))
   refine TL.w z (nilCheckLoc z z) (TL.front 5 z z (TL.op z (storeI z sz27 z z z z z ?_)))
   refine TL.en (TC.ofSub (Sub.f [1] 2) (TC.ret (S.r ?_)))
   obtain rfl := so hh
   refine ⟨_, Sub.f [1, 1] 2, ?_⟩
   exact ro [Res.cells b1_0 #[.int .i64 0, .slice none 0 0, .slice none 0 0, .slice none 0 0] Eb1, Res.cells b2_0 #[.int .i64 2] Eb2] z RVs.nil ⟨none, 0, none, 0, none, 0, z, (RS.nilF _ encTip encTip_len), (RS.nilF _ encTip encTip_len), (RS.nilF _ encArc encArc_len), z⟩
  ·refine TC.skip (S.n (TC.region (TL.l z z (TL.l z z (TL.l z z (TL.w z (nilCheckLoc z z) (TL.w z (fieldLoc z fo163_0 z) (TL.w z (loadLocA z ag25 sz25 z (i := 0) z z z) (TL.w z (nilCheckLoc z z) (TL.front 4 z z (TL.op z (storeAll z sz25 z z z z z z ?_))))))))))))
   refine TL.w z (nilCheckLoc z z) (TL.front 5 z z (TL.op z (storeI z sz27 z z z z z ?_)))
   refine TL.front 3 z z (TL.sealS encTip_len (fun τ114 hle113 hr112 => ?_))
   have hr112b := hr112.rv.big
   refine TL.front 3 z z (TL.sealS encTip_len (fun τ117 hle116 hr115 => ?_))
   replace hr112 := hr112.mono hle116
   have hr115b := hr115.rv.big
   refine TL.front 3 z z (TL.sealS encArc_len (fun τ120 hle119 hr118 => ?_))
   replace hr112 := hr112.mono hle119
   replace hr115 := hr115.mono hle119
   have hr118b := hr118.rv.big
   refine TL.nil ?_
   obtain rfl := so hh
   refine ⟨_, Sub.f [1] 2, ?_⟩
   exact RetOk.mk' (rs := []) [Res.cells b1_0 #[.int .i64 x0.f.states, .slice a0_1 x0.f.starts.length c0_2, .slice a0_3 x0.f.ends.length c0_4, .slice a0_5 x0.f.arcs.length c0_6] Eb1, Res.cells b2_0 #[.int .i64 0] Eb2] z (.inr z) RVs.nil (List.sublist_append_left _ _) ⟨a0_1, c0_2, a0_3, c0_4, a0_5, c0_6, z, hr112, hr115, hr118, z⟩
end Go.Proofs.YtamgjehhjkgelaaGreatDoor
end

section
namespace Go.E
open Go
@[irreducible] def arrA {α : Type} (enc : α → List Value) (l : List α) : Array Value := (l.flatMap enc).toArray
theorem arrA_list {α : Type} {enc : α → List Value} {l : List α} : (arrA enc l).toList = l.flatMap enc := by unfold arrA; rfl
theorem arrA_size {α : Type} {enc : α → List Value} {s : Nat} (hl : ∀ x, (enc x).length = s) (l : List α) : (arrA enc l).size = l.length * s := by
  rw [← Array.length_toList, arrA_list, flatMap_len hl]
theorem arrA_of {α : Type} {enc : α → List Value} {l : List α} : arrA enc l = (l.flatMap enc).toArray := by unfold arrA; rfl
theorem flat_set {α : Type} {enc : α → List Value} {s : Nat} (hl : ∀ x, (enc x).length = s) : ∀ (l : List α) (i : Nat) (x : α), i < l.length → splice (l.flatMap enc) (i * s) (enc x) = (l.set i x).flatMap enc
  | [], _, _, h => by cases h
  | y :: l, 0, x, _ => by
    simp only [splice, Nat.zero_mul, List.take_zero, List.nil_append, Nat.zero_add, List.flatMap_cons, List.set_cons_zero]
    rw [List.drop_append_of_le_length (by rw [hl, hl]; exact Nat.le_refl _), List.drop_of_length_le (by rw [hl, hl]; exact Nat.le_refl _), List.nil_append]
  | y :: l, i + 1, x, h => by
    have ih := flat_set hl l i x (by simpa using h)
    have e : (i + 1) * s = (enc y).length + i * s := by rw [hl, Nat.add_mul, Nat.one_mul, Nat.add_comm]
    simp only [splice, List.flatMap_cons, List.set_cons_succ] at ih ⊢
    rw [e, List.take_length_add_append, Nat.add_assoc, List.drop_length_add_append, List.append_assoc, List.append_assoc, ← ih, List.append_assoc]
theorem nth_got {α : Type} {l : List α} {i : Nat} (h : i < l.length) (d : α) : l[i]? = some (nth l i d) := by
  unfold nth; rw [List.getD_eq_getElem?_getD, List.getElem?_eq_getElem h]; rfl
section
variable {P : Program} {n : Nat} {e : Env} {σ : Store} {H : List Res} {o : Oper} {x y : Operand} {α : Type} {enc : α → List Value} {l : List α}
theorem OpVal.loadArr {T b i s E j : Nat} (d : α) (ho : o.op = .load T x) (hA : aggOf P T = some true) (hz : szOf P T = some s) (hx : ev e x = loc b (0 + i * s)) (hi : H[j]? = some (Res.cells b (arrA enc l) E)) (hl : ∀ x, (enc x).length = s) (hk : i < l.length) :
    OpVal P n o e σ H (.agg (enc (nth l i d)).toArray) :=
  OpVal.loadLocA ho hA hz (by rw [hx, Nat.zero_add]) hi (hl _) (by rw [arrA_list]; exact flatMap_seg hl l i _ (nth_got hk d))
theorem OpVal.indexV {T E s m i : Nat} {k : IntKind} (d : α) (ho : o.op = .index T x y) (ht : P.underlying T = some (.array m E)) (hz : szOf P E = some s) (hA : aggOf P E = some true) (hx : ev e x = .agg (arrA enc l)) (hy : ev e y = .int k (i : Nat)) (hl : ∀ x, (enc x).length = s) (hm : l.length = m) (hi : i < m) :
    OpVal P n o e σ H (.agg (enc (nth l i d)).toArray) := fun w _ => by
  have h1 : (arrA enc l).extract (i * s) (i * s + s) = (enc (nth l i d)).toArray := by
    apply Array.ext'
    rw [Array.toList_extract, arrA_list, List.extract_eq_take_drop, ← flatMap_seg hl l i _ (nth_got (hm ▸ hi) d)]
    congr 1; omega
  have h2 : (i : Int) < (m : Int) := by omega
  simp [execOp, ho, hx, hy, Instr.index, asIntOf, run_underlying ht, run_sizeOf hz, part, run_isAgg hA, h1, h2]
  intro h; omega
theorem OpOk.storeArr {X : Ctx} {F : List Res} {K : Env → Store → List Res → Prop} {T b i s E : Nat} {u : α} (ho : o.op = .store T x y) (hs : szOf X.P T = some s) (hd : o.dst = none) (hx : ev e x = loc b (0 + i * s)) (hv : ev e y = .agg (enc u).toArray) (hl : ∀ x, (enc x).length = s) (h1 : ∀ x, ∀ u ∈ enc x, u.oneCell' = true) (hi : i < l.length)
    (kk : K e σ (Res.cells b (arrA enc (l.set i u)) E :: F)) : OpOk X o e σ (Res.cells b (arrA enc l) E :: F) K := by
  refine OpOk.store (k := i * s) (s := s) ho hs hd (by rw [hx, Nat.zero_add]) hv (by show (enc u).toArray.size = s; simpa using hl u) (fun v hv => h1 u v (by simpa [Value.cells] using hv)) ?_ ?_ kk
  · rw [Nat.ble_eq, arrA_size hl]
    have := Nat.mul_le_mul_right s (show i + 1 ≤ l.length by omega)
    rw [Nat.add_mul, Nat.one_mul] at this; exact this
  · rw [arrA_list, arrA_of (l := l.set i u)]
    congr 1
    show splice _ _ (enc u).toArray.toList = _
    rw [List.toList_toArray]; exact flat_set hl l i u hi
end
end Go.E
end

section
namespace Go.Proofs.YtamgjehhjkgelaaGreatDoor
open Go Go.E Go.E.OpVal Go.E.OpOk Go.Proofs.Tryz
private theorem ag183 : Go.E.aggOf Tryz.prog 183 = some true := by kernel_rfl
private theorem ag27 : Go.E.aggOf Tryz.prog 27 = some false := by kernel_rfl
private theorem ag47 : Go.E.aggOf Tryz.prog 47 = some false := by kernel_rfl
private theorem ag48 : Go.E.aggOf Tryz.prog 48 = some false := by kernel_rfl
private theorem ag50 : Go.E.aggOf Tryz.prog 50 = some true := by kernel_rfl
private theorem fo50_0 : Go.E.foOf Tryz.prog 50 0 = some 0 := by kernel_rfl
private theorem fo50_1 : Go.E.foOf Tryz.prog 50 1 = some 1 := by kernel_rfl
private theorem fo50_2 : Go.E.foOf Tryz.prog 50 2 = some 2 := by kernel_rfl
private theorem pf46 : Go.E.plainF Tryz.prog 46 = true := by kernel_rfl
private theorem pf48 : Go.E.plainF Tryz.prog 48 = true := by kernel_rfl
private theorem pf49 : Go.E.plainF Tryz.prog 49 = true := by kernel_rfl
private theorem pf76 : Go.E.plainF Tryz.prog 76 = true := by kernel_rfl
private theorem pf83 : Go.E.plainF Tryz.prog 83 = true := by kernel_rfl
private theorem pf84 : Go.E.plainF Tryz.prog 84 = true := by kernel_rfl
private theorem pf85 : Go.E.plainF Tryz.prog 85 = true := by kernel_rfl
private theorem pf86 : Go.E.plainF Tryz.prog 86 = true := by kernel_rfl
private theorem pf87 : Go.E.plainF Tryz.prog 87 = true := by kernel_rfl
private theorem pf88 : Go.E.plainF Tryz.prog 88 = true := by kernel_rfl
private theorem pf89 : Go.E.plainF Tryz.prog 89 = true := by kernel_rfl
private theorem pl163 : Go.E.plOf Tryz.prog 163 = some #[(0, 4), (4, 1)] := by kernel_rfl
private theorem pl43 : Go.E.plOf Tryz.prog 43 = some #[(0, 1), (1, 1)] := by kernel_rfl
private theorem pl66 : Go.E.plOf Tryz.prog 66 = some #[(0, 1), (1, 1), (2, 4), (6, 1), (7, 1)] := by kernel_rfl
private theorem sz183 : Go.E.szOf Tryz.prog 183 = some 4096 := by kernel_rfl
private theorem sz46 : Go.E.szOf Tryz.prog 46 = some 1 := by kernel_rfl
private theorem sz50 : Go.E.szOf Tryz.prog 50 = some 3 := by kernel_rfl
private theorem za183 : Go.E.zeroOf Tryz.prog 183 = some (.agg (Go.E.arrA Go.E.encSet (List.replicate 1024 BSet.zero))) := by rw [Go.E.arrA_of]; kernel_rfl
private theorem ze163 : Go.E.zeroOf Tryz.prog 163 = some (.agg #[.int .i64 0, .slice none 0 0, .slice none 0 0, .slice none 0 0, .bool false]) := by kernel_rfl
private theorem ze27 : Go.E.zeroOf Tryz.prog 27 = some (.int .i64 0) := by kernel_rfl
private theorem ze46 : Go.E.zeroOf Tryz.prog 46 = some (.slice none 0 0) := by kernel_rfl
noncomputable def Bo_ (x0 : Dfa) (k139 : Nat) (l172 : List BSet) (y64_0 : Int) (y64_1 : BSet) : Option (Nat × (List BSet)) :=
 grd (0 ≤ y64_0 ∧ y64_0 < ((nth x0.next k139 ([] : List Int)).length : Int)) (grd (0 ≤ y64_0 ∧ y64_0 < ((nth x0.next k139 ([] : List Int)).length : Int)) (grd (0 ≤ (nth (nth x0.next k139 ([] : List Int)) y64_0.toNat (0 : Int)) ∧ (nth (nth x0.next k139 ([] : List Int)) y64_0.toNat (0 : Int)) < (1024 : Int)) (bnd (Cl_ (nth l172 ((nth (nth x0.next k139 ([] : List Int)) y64_0.toNat (0 : Int)).toNat) BSet.zero) y64_1) (fun v69 => grd (0 ≤ (nth (nth x0.next k139 ([] : List Int)) y64_0.toNat (0 : Int)) ∧ (nth (nth x0.next k139 ([] : List Int)) y64_0.toNat (0 : Int)) < (1024 : Int)) (some (0, (l172.set ((nth (nth x0.next k139 ([] : List Int)) y64_0.toNat (0 : Int)).toNat) v69)))))))
noncomputable def C6_ (k194 : Nat) (l199 : List Arrow) : Option (((List Arrow) × Nat) ⊕ (((List Int) × (List Arrow) × Nat) ⊕ (Nfa × Int))) :=
 nxt (l199, (k194 + 1))
noncomputable def Az_ (l172 : List BSet) (k139 : Nat) (l151 : List Int) (l191 : List Arrow) (k194 : Nat) : Option (((List Arrow) × Nat) ⊕ (((List Int) × (List Arrow) × Nat) ⊕ (Nfa × Int))) :=
 iteO (decide (((k194 : Nat) : Int) < 1024)) (iteO (decide ((nth l172 k194 BSet.zero) ≠ BSet.zero)) (grd ((l191.length + [(⟨((k139 : Nat) : Int), ((k194 : Nat) : Int), (nth l172 k194 BSet.zero)⟩ : Arrow)].length) * 48 ≤ 140737488355328) (C6_ k194 (l191 ++ [(⟨((k139 : Nat) : Int), ((k194 : Nat) : Int), (nth l172 k194 BSet.zero)⟩ : Arrow)]))) (C6_ k194 l191)) (fin (iteO (decide (65536 < ((l191.length : Nat) : Int))) (fin (some ((⟨0, ([] : List Int), ([] : List Int), ([] : List Arrow)⟩ : Nfa), 2))) (nxt (l151, l191, (k139 + 1)))))
noncomputable def Dm_ (k139 : Nat) (l151 : List Int) (l136 : List Arrow) (jz : Nat) (l172 : List BSet) : Option (((List Int) × (List Arrow) × Nat) ⊕ (Nfa × Int)) :=
 jsel jz (iter (fun q : (List Arrow) × Nat => Az_ l172 k139 l151 q.1 q.2) (l136, 0)) (fun _ => none)
noncomputable def Ck_ (v6 : (List BSet) × Int) (x0 : Dfa) (k139 : Nat) (l136 : List Arrow) (l151 : List Int) : Option (((List Int) × (List Arrow) × Nat) ⊕ (Nfa × Int)) :=
 bnd (B4_ v6.1) (fun v54 => bnd (Av_ (stepY (fun (q : (List BSet)) (x : Int × BSet) => Bo_ x0 k139 q x.1 x.2)) (0, (List.replicate 1024 BSet.zero)) v54) (fun zr64 => Dm_ k139 l151 l136 zr64.1 zr64.2))
noncomputable def Ba_ (x0 : Dfa) (v6 : (List BSet) × Int) (l132 : List Int) (l136 : List Arrow) (k139 : Nat) : Option (((List Int) × (List Arrow) × Nat) ⊕ (Nfa × Int)) :=
 iteO (decide (((k139 : Nat) : Int) < ((x0.next.length : Nat) : Int))) (grd (k139 < x0.fin.length) (iteO (nth x0.fin k139 false) (grd ((l132.length + [((k139 : Nat) : Int)].length) * 8 ≤ 140737488355328) (Ck_ v6 x0 k139 l136 (l132 ++ [((k139 : Nat) : Int)]))) (Ck_ v6 x0 k139 l136 l132))) (fin (some ((⟨((x0.next.length : Nat) : Int), [0], l132, l136⟩ : Nfa), 0)))
noncomputable def Fa_ (x0 : Dfa) : Option (Nfa × Int) :=
 bnd (C1_ x0.cls) (fun v6 => iteO (decide (v6.2 ≠ 0)) (some ((⟨0, ([] : List Int), ([] : List Int), ([] : List Arrow)⟩ : Nfa), 1)) (bnd (Dh_ x0) (fun v16 => iteO (decide (v16 ≠ 0)) (some ((⟨0, ([] : List Int), ([] : List Int), ([] : List Arrow)⟩ : Nfa), 1)) (iter (fun q : (List Int) × (List Arrow) × Nat => Ba_ x0 v6 q.1 q.2.1 q.2.2) (([] : List Int), ([] : List Arrow), 0)))))
def He_ (σ : Store) (r : Nfa × Int) : Value → Store → List Res → Prop := fun v σ' H' =>
 ∃ (a1 : Option Addr), ∃ (c1 : Nat), ∃ (a2 : Option Addr), ∃ (c2 : Nat), ∃ (a3 : Option Addr), ∃ (c3 : Nat),  v = .tuple #[.agg #[.int .i64 r.1.states, .slice a1 r.1.starts.length c1, .slice a2 r.1.ends.length c2, .slice a3 r.1.edges.length c3], .int .i64 r.2] ∧ RS σ' 1 Go.E.encI (.slice a1 r.1.starts.length c1) r.1.starts ∧ RS σ' 1 Go.E.encI (.slice a2 r.1.ends.length c2) r.1.ends ∧ RS σ' 6 encE (.slice a3 r.1.edges.length c3) r.1.edges ∧ H' = []
theorem Gp_ {σ : Store} {x0 : Dfa} {a0_0 : Option Addr} {c0_0 : Nat} {a0_1 : Option Addr} {c0_1 : Nat} {a0_2 : Option Addr} {c0_2 : Nat} (f0_0 : RS σ 1 Go.E.encI (.slice a0_0 x0.cls.length c0_0) x0.cls) (f0_1 : RZ σ (pkSl 1 Go.E.encI Go.E.encI_len) (.slice a0_1 x0.next.length c0_1) x0.next) (f0_2 : RS σ 1 encB (.slice a0_2 x0.fin.length c0_2) x0.fin) {r : Nfa × Int} (hh : Fa_ x0 = some r) :
  Con Tryz.prog 85 #[.agg #[.slice a0_0 x0.cls.length c0_0, .slice a0_1 x0.next.length c0_1, .slice a0_2 x0.fin.length c0_2]] σ [] (He_ σ r) := by
 dsimp only [Fa_] at hh
 have f0_0b := f0_0.rv.big
 have f0_1b := f0_1.big
 have f0_2b := f0_2.rv.big
 refine Con.mk (n := 94) Tryz.func85 z z z (fun w0 => ?_)
 refine TC.a (TL.op z (boxA z z z z (fun b101 => ?_)))
 refine TL.op z (OpOk.alloc z ze61 z z (fun b103 => ?_))
 refine TL.i z z (TL.en (TC.a (TL.w z (fieldLoc z fo50_0 z) (TL.w z (loadLoc z ag46 z (i := 1) z z) ?_))))
 obtain ⟨v6, u6, hh⟩ := bnd_e hh
 refine TL.op z (OpOk.call (Fz_ f0_0 u6) z z pf84 z z z z ?_)
 rintro _ τ105 _ hle105 ⟨a105_1, c105_1, rfl, hr105_0, rfl⟩
 replace f0_0 := f0_0.mono hle105
 replace f0_1 := f0_1.mono hle105
 replace f0_2 := f0_2.mono hle105
 have hr105_0b := hr105_0.rv.big
 refine TL.w z (moveT (.inl z) z) (TL.w z (OpVal.extract z z z) (TL.w z (OpVal.extract z z z) (TL.s z z (TL.i z z (TL.en (TC.seq (TC.a (TL.i z z (TL.w z (OpVal.neq z z z) (TL.j z z (TL.split 22 z (fun h106 => ?_) (fun h106 => ?_))))))))))))
 ·replace hh := iteO_t h106 hh
  replace h106 := of_decide_eq_true h106
  refine TL.f z (TL.f z (TL.f z (TL.w z (pickTB z z z) (TL.en (TC.t z (TC.a (TL.w z (buildL z pl61 ze61 z) (TL.op z (storeAll z sz61 z z z z z z ?_)))))))))
  refine TL.i z z (TL.en (TC.rt 1 (S.r ?_)))
  obtain rfl := so hh
  exact ro [] z (RVs.agg ag61 sz61 z (i := 0) z z (RVs.tmp z RVs.nil)) ⟨none, 0, none, 0, none, 0, z, (RS.nilF _ Go.E.encI Go.E.encI_len), (RS.nilF _ Go.E.encI Go.E.encI_len), (RS.nilF _ encE encE_len), z⟩
 ·replace hh := iteO_f h106 hh
  replace h106 := of_decide_eq_false h106
  refine TL.g z (loadAll z ag50 sz50 z (i := 1) z z) ?_
  obtain ⟨v16, u16, hh⟩ := bnd_e hh
  refine TL.gon z z z z z (callP (F0_ (x0 := x0) f0_0 f0_1 f0_2 u16) z z pf48 z z z ?_)
  refine TL.g z (OpVal.neq z z z) (TL.w z (pickFB z z z) (TL.en (TC.cD z hh (fun h107 hh => ?_) (fun h107 hh => ?_))))
  ·refine TC.a (TL.w z (buildL z pl61 ze61 z) (TL.op z (storeAll z sz61 z z z z z z ?_)))
   refine TL.i z z (TL.en (TC.rt 1 (S.r ?_)))
   obtain rfl := so hh
   exact ro [] z (RVs.agg ag61 sz61 z (i := 0) z z (RVs.tmp z RVs.nil)) ⟨none, 0, none, 0, none, 0, z, (RS.nilF _ Go.E.encI Go.E.encI_len), (RS.nilF _ Go.E.encI Go.E.encI_len), (RS.nilF _ encE encE_len), z⟩
  ·refine TC.skip (S.n (TC.a (TL.w z (fieldLoc z fo50_1 z) (TL.w z (loadLoc z ag47 z (i := 1) z z) (TL.w z (lenC z underlying47 z) (TL.op z (OpOk.lit (enc := Go.E.encI) [0] z underlying46 sz3 ze3 z z z Go.E.encI_len (by decide) (by decide) (0 : Int) z (by decide) z (by decide) Go.E.encI_one (fun a108 c109 => ?_))))))))
   refine TL.w z (buildL z pl61 ze61 z) (TL.op z (OpOk.alloc z ze61 z z (fun b111 => ?_)))
   refine TL.op z (storeAll z sz61 z z z z z z ?_)
   refine TL.en (TC.seq (TC.a (TL.w z (fieldLoc z fo50_1 z) (TL.w z (loadLoc z ag47 z (i := 3) z z) (TL.w z (lenC z underlying47 z) (TL.i z z (TL.en (TC.block (TC.nilS 3 1 Go.E.encI (TC.nilS 58 6 encE (TC.loopG (α := ((List Int) × (List Arrow) × Nat) × ((Option Addr) × Nat × (Option Addr) × Nat × Store)) (rgs [(3, 1), (7, 3), (12, 2), (36, 18), (69, 24)]) (fun g => [(36, .int .i64 ((g.1.2.2 : Nat) : Int))]) (fun g => [Res.cells b101 #[.slice a0_0 x0.cls.length c0_0, .slice a0_1 x0.next.length c0_1, .slice a0_2 x0.fin.length c0_2] 50, Res.cells b103 #[.int .i64 0, .slice none 0 0, .slice none 0 0, .slice none 0 0] 61, Res.cells b111 #[.int .i64 ((x0.next.length : Nat) : Int), .slice a108 [0].length c109, .slice g.2.1 g.1.1.length g.2.2.1, .slice g.2.2.2.1 g.1.2.1.length g.2.2.2.2.1] 61, Res.rowS 3 1 Go.E.encI (.slice a108 [0].length c109) [0], Res.rowS 3 1 Go.E.encI (.slice g.2.1 g.1.1.length g.2.2.1) g.1.1, Res.rowS 58 6 encE (.slice g.2.2.2.1 g.1.2.1.length g.2.2.2.2.1) g.1.2.1]) (fun g => g.2.2.2.2.2) (fun g => iter (fun q : (List Int) × (List Arrow) × Nat => Ba_ x0 v6 q.1 q.2.1 q.2.2) g.1 = some r ∧ Store.le τ105 g.2.2.2.2.2) (fun g => rounds (fun q : (List Int) × (List Arrow) × Nat => Ba_ x0 v6 q.1 q.2.1 q.2.2) g.1) ((([] : List Int), ([] : List Arrow), 0), (none, 0, none, 0, τ105)) (Sub.f [1, 3, 3, 4, 5] 6) z (by repeat (first | exact trivial | refine ⟨z, ?_⟩)) ⟨hh, (Store.le.refl _)⟩ (fun g1 j1 hg1 => ?_))))))))))))
   obtain ⟨⟨l132, l136, k139⟩, ⟨a133, c134, a137, c138, τ142⟩⟩ := g1
   obtain ⟨hh, hle143⟩ := hg1
   dsimp only at hle143
   replace f0_1 := f0_1.mono hle143
   replace f0_2 := f0_2.mono hle143
   replace hr105_0 := hr105_0.mono hle143
   try dsimp only
   obtain ⟨z1, hh, hR1⟩ := iter_e hh
   dsimp only [Ba_] at hh
   refine TC.isSl (i := 3) z (fun _ hb144 _ => ?_)
   refine TC.isSl (i := 4) z (fun _ hb145 _ => ?_)
   refine TC.isSl (i := 5) z (fun _ hb146 _ => ?_)
   refine TC.a (TL.w z (OpVal.lss z z z) (TL.en (TC.seq (TC.cD z hh (fun h147 hh => ?_) (fun h147 hh => ?_)))))
   ·refine TC.skip (S.n (TC.seq (TC.block (TC.a (TL.i z z (TL.w z (indexN z underlying47 sz46 z z f0_1.isSl (by omega)) ?_))))))
    obtain ⟨p148, hk148, hg148⟩ := RZ.seg f0_1 k139 (by omega)
    replace hk148 : RS _ 1 Go.E.encI (.slice p148.1 (nth x0.next k139 ([] : List Int)).length p148.2) (nth x0.next k139 ([] : List Int)) := hk148
    have hk148b := hk148.rv.big
    refine TL.w z (OpVal.of (loadSeg0 z ag46 z hg148 z) (v' := .slice p148.1 ((nth x0.next k139 ([] : List Int)).length) p148.2) z) (TL.op z (OpOk.alloc z ze46 z z (fun b149 => ?_)))
    refine TL.i z z (TL.op z (storeSl z sz46 z z z z z ?_))
    refine TL.en (TC.cutG (α := ((List Int)) × ((Option Addr) × Nat)) (rgs [(41, 11)]) (fun g => []) (fun g => [Res.cells b101 #[.slice a0_0 x0.cls.length c0_0, .slice a0_1 x0.next.length c0_1, .slice a0_2 x0.fin.length c0_2] 50, Res.cells b103 #[.int .i64 0, .slice none 0 0, .slice none 0 0, .slice none 0 0] 61, Res.cells b111 #[.int .i64 ((x0.next.length : Nat) : Int), .slice a108 [0].length c109, .slice g.2.1 g.1.length g.2.2, .slice a137 l136.length c138] 61, Res.rowS 3 1 Go.E.encI (.slice a108 [0].length c109) [0], Res.rowS 3 1 Go.E.encI (.slice g.2.1 g.1.length g.2.2) g.1, Res.rowS 58 6 encE (.slice a137 l136.length c138) l136, Res.cells b149 #[.slice p148.1 ((nth x0.next k139 ([] : List Int)).length) p148.2] 46]) (fun g => τ142) (fun g => Ck_ v6 x0 k139 l136 g.1 = some z1) ?_ (fun g j hg => ?_))
    ·skip
     refine TC.a (TL.w z (fieldLoc z fo50_2 z) (TL.w z (loadLoc z ag48 z (i := 1) z z) (TL.i z z ?_)))
     have u43 := grd_c hh
     replace hh := grd_t hh
     refine TL.w z (indexN z underlying48 sz4 z z f0_2.rv.sl (by omega)) (TL.w z (loadS1 false z ag4 z f0_2 (by omega) z) (TL.en (TC.cB z hh (fun h154 hh => ?_) (fun h154 hh => ?_))))
     ·refine TC.region (TL.w z (fieldLoc z fo61_2 z) (TL.w z (loadLoc z ag46 z (i := 3) z z) (TL.i z z (TL.op z (OpOk.lit (enc := Go.E.encI) [((k139 : Nat) : Int)] z underlying46 sz3 ze3 z z z Go.E.encI_len (by decide) (by decide) (0 : Int) z (by decide) z (by decide) Go.E.encI_one (fun a155 c156 => ?_))))))
      refine TL.front 6 z z ?_
      have u49 := grd_c hh
      replace hh := grd_t hh
      refine TL.op z (appendS z z underlying46 sz3 by3 ze3 z z (by decide) z z z (.inr ⟨_, 0, z⟩) (by simpa using u49) (by decide) (fun a158 c159 => ?_))
      refine TL.w z (fieldLoc z fo61_2 z) (TL.front 5 z z (TL.op z (storeSl z sz46 z z z z z ?_)))
      exact TL.en (cf ((l132 ++ [((k139 : Nat) : Int)]), (a158, c159)) hh (Sub.f [3, 7, 3, 7, 4, 7, 7] 7))
     ·exact TC.skip (S.n (cf (l132, (a133, c134)) hh (Sub.f [6, 6, 6, 6, 6, 6] 7)))
    ·skip
     obtain ⟨l151, ⟨a152, c153⟩⟩ := g
     have hh := hg; clear hg
     try dsimp only
     dsimp only [Ck_] at hh
     refine TC.isSl (i := 3) z (fun _ hb160 _ => ?_)
     refine TC.isSl (i := 4) z (fun _ hb161 _ => ?_)
     refine TC.isSl (i := 5) z (fun _ hb162 _ => ?_)
     refine TC.a (TL.op z (OpOk.alloc z za183 z z (fun b163 => ?_)))
     refine TL.asH (H' := [Res.cells b163 (arrA encSet (List.replicate 1024 BSet.zero)) 183, Res.cells b101 #[.slice a0_0 x0.cls.length c0_0, .slice a0_1 x0.next.length c0_1, .slice a0_2 x0.fin.length c0_2] 50, Res.cells b103 #[.int .i64 0, .slice none 0 0, .slice none 0 0, .slice none 0 0] 61, Res.cells b111 #[.int .i64 ((x0.next.length : Nat) : Int), .slice a108 [0].length c109, .slice a152 l151.length c153, .slice a137 l136.length c138] 61, Res.rowS 3 1 Go.E.encI (.slice a108 [0].length c109) [0], Res.rowS 3 1 Go.E.encI (.slice a152 l151.length c153) l151, Res.rowS 58 6 encE (.slice a137 l136.length c138) l136, Res.cells b149 #[.slice p148.1 ((nth x0.next k139 ([] : List Int)).length) p148.2] 46]) z (TL.en (TC.seq (TC.a (TL.s z z ?_))))
     obtain ⟨v54, u54, hh⟩ := bnd_e hh
     refine TL.op z (OpOk.call (Fe_ hr105_0 u54) z z pf46 z z z z ?_)
     rintro _ τ165 _ hle165 ⟨b165_4, a165_1, c165_2, rfl, f165_3, rfl⟩
     replace hk148 := hk148.mono hle165
     have f165_3b := f165_3.rv.big
     refine TL.en (TC.block (TC.ofSub (Sub.f [1, 8, 8, 8, 8, 8, 8, 8] 9) ?_))
     obtain ⟨zr64, hz64, hh⟩ := bnd_e hh
     obtain ⟨jz64, l172⟩ := zr64
     dsimp only at hh
     refine TC.rangeG (A := (fun (x : Int × BSet) _ vs => vs = [.int .i64 x.1, setV x.2])) [] (fun (q : (List BSet)) (x : Int × BSet) => Bo_ x0 k139 q x.1 x.2) (fun (q : (List BSet)) (τ174 : Store) Hs => Hs = [Res.cells b101 #[.slice a0_0 x0.cls.length c0_0, .slice a0_1 x0.next.length c0_1, .slice a0_2 x0.fin.length c0_2] 50, Res.cells b103 #[.int .i64 0, .slice none 0 0, .slice none 0 0, .slice none 0 0] 61, Res.cells b111 #[.int .i64 ((x0.next.length : Nat) : Int), .slice a108 [0].length c109, .slice a152 l151.length c153, .slice a137 l136.length c138] 61, Res.rowS 3 1 Go.E.encI (.slice a108 [0].length c109) [0], Res.rowS 3 1 Go.E.encI (.slice a152 l151.length c153) l151, Res.rowS 58 6 encE (.slice a137 l136.length c138) l136, Res.cells b149 #[.slice p148.1 ((nth x0.next k139 ([] : List Int)).length) p148.2] 46, Res.cells b163 (arrA encSet q) 183] ∧ q.length = 1024) (s := (List.replicate 1024 BSet.zero)) rfl pf83 rfl rfl (by rintro _ _ _ _ ⟨rfl, hn173⟩ hle_; exact ⟨rfl, hn173⟩) ⟨rfl, List.length_replicate⟩ (fun _ _ _ h_ => by subst h_; rfl) (Et_ f165_3 hz64) ?_ ?_
     ·clear hh hz64
      rintro l_ _ _ _ τ174 l172 ⟨y64_0, y64_1⟩ z64 _ _ hh hle175 rfl ⟨rfl, hn173⟩
      dsimp only [Bo_] at hh
      replace hk148 := hk148.mono hle175
      have hn173b := hn173
      show TC _ _ _ (upds _ [(55, setV y64_1), (54, .int .i64 y64_0)]) τ174 [Res.cells b101 #[.slice a0_0 x0.cls.length c0_0, .slice a0_1 x0.next.length c0_1, .slice a0_2 x0.fin.length c0_2] 50, Res.cells b103 #[.int .i64 0, .slice none 0 0, .slice none 0 0, .slice none 0 0] 61, Res.cells b111 #[.int .i64 ((x0.next.length : Nat) : Int), .slice a108 [0].length c109, .slice a152 l151.length c153, .slice a137 l136.length c138] 61, Res.rowS 3 1 Go.E.encI (.slice a108 [0].length c109) [0], Res.rowS 3 1 Go.E.encI (.slice a152 l151.length c153) l151, Res.rowS 58 6 encE (.slice a137 l136.length c138) l136, Res.cells b149 #[.slice p148.1 ((nth x0.next k139 ([] : List Int)).length) p148.2] 46, Res.cells b163 (arrA encSet l172) 183]
      refine TC.isSl (i := 3) z (fun _ hb176 _ => ?_)
      refine TC.isSl (i := 4) z (fun _ hb177 _ => ?_)
      refine TC.isSl (i := 5) z (fun _ hb178 _ => ?_)
      refine TC.a (TL.i z z (TL.en (TC.region (TL.op z (OpOk.alloc z ze55 z z (fun b179 => ?_))))))
      refine TL.op z (storeAll z sz55 z z z z z z ?_)
      refine TL.nil (asg_n (fun _ _ _ => ?_))
      refine TC.block ?_
      have u60 := grd_c hh
      replace hh := grd_t hh
      have u64 := grd_c hh
      replace hh := grd_t hh
      have u66 := grd_c hh
      replace hh := grd_t hh
      obtain ⟨v69, u69, hh⟩ := bnd_e hh
      have u70 := grd_c hh
      replace hh := grd_t hh
      refine TC.draw [13] (by kernel_rfl) (TA.b 0 z (loadLoc z ag46 z (i := 7) z z) z (TA.a 1 z (moveI (.inl z) z) z (TA.b 2 z (OpVal.index z underlying46 sz3 z z hk148.rv.sl u60.1 u60.2) z (TA.b 3 z (loadS1 (0 : Int) z ag3 z hk148 (by omega) z) z (TA.b 4 z (loadLoc z ag46 z (i := 7) z z) z (TA.a 5 z (moveI (.inl z) z) z (TA.b 6 z (OpVal.index z underlying46 sz3 z z hk148.rv.sl u64.1 u64.2) z (TA.b 7 z (loadS1 (0 : Int) z ag3 z hk148 (by omega) z) z (TA.b 8 z (indexArr z underlying183 sz55 z z u66.1 u66.2) z (TA.b 9 z (OpVal.of (loadArr BSet.zero z ag55 sz55 z (j := 8) z encSet_len (by have := (hn173 : l172.length = 1024); omega)) (v' := setV (nth l172 ((nth (nth x0.next k139 ([] : List Int)) y64_0.toNat (0 : Int)).toNat) BSet.zero)) z) z (TA.b 10 z (loadAll z ag55 sz55 z (i := 0) z z) z (TA.ac 11 z (callP (Fl_ u69) z z pf76 z z z (k0 ?_))))))))))))))
      refine TA.b 12 z (indexArr z underlying183 sz55 z z u70.1 u70.2) z (TA.front 8 z z ?_)
      have hn182 : (l172.set ((nth (nth x0.next k139 ([] : List Int)) y64_0.toNat (0 : Int)).toNat) v69).length = 1024 := (List.length_set ..).trans (hn173 : l172.length = 1024)
      refine TA.last 13 (by kernel_rfl) z z z (storeArr (u := v69) z sz55 z z z encSet_len encSet_one (by have := (hn173 : l172.length = 1024); omega) ?_)
      refine TZ.done (by kernel_rfl) (B.n ?_)
      obtain rfl := so hh
      exact rnd_n ⟨z, _, Sub.f [8, 8, 8, 8, 8, 8, 8] 8, ⟨z, hn182⟩⟩
     ·rintro τ174 _ _ hle175 ⟨rfl, hn173⟩ ⟨rfl⟩
      have hn173b := hn173
      dsimp only [Dm_] at hh
      show jmpQ _ _ _ _ _ τ174 [Res.cells b101 #[.slice a0_0 x0.cls.length c0_0, .slice a0_1 x0.next.length c0_1, .slice a0_2 x0.fin.length c0_2] 50, Res.cells b103 #[.int .i64 0, .slice none 0 0, .slice none 0 0, .slice none 0 0] 61, Res.cells b111 #[.int .i64 ((x0.next.length : Nat) : Int), .slice a108 [0].length c109, .slice a152 l151.length c153, .slice a137 l136.length c138] 61, Res.rowS 3 1 Go.E.encI (.slice a108 [0].length c109) [0], Res.rowS 3 1 Go.E.encI (.slice a152 l151.length c153) l151, Res.rowS 58 6 encE (.slice a137 l136.length c138) l136, Res.cells b149 #[.slice p148.1 ((nth x0.next k139 ([] : List Int)).length) p148.2] 46, Res.cells b163 (arrA encSet l172) 183, Res.cells b165_4 #[.slice a165_1 v54.length c165_2] 99]
      refine jmp_split hh ?_ ?_ <;> clear hh
      ·intro hh
       refine B.n (S.n (TC.seq (TC.a (TL.w rfl (loadAll rfl ag183 sz183 rfl (i := 7) rfl (by rw [arrA_size encSet_len, (hn173 : l172.length = 1024)])) (TL.i z z (TL.en (TC.block (TC.loopG (α := ((List Arrow) × Nat) × ((Option Addr) × Nat)) (rgs [(12, 2), (70, 17)]) (fun g => [(70, .int .i64 ((g.1.2 : Nat) : Int))]) (fun g => [Res.cells b101 #[.slice a0_0 x0.cls.length c0_0, .slice a0_1 x0.next.length c0_1, .slice a0_2 x0.fin.length c0_2] 50, Res.cells b103 #[.int .i64 0, .slice none 0 0, .slice none 0 0, .slice none 0 0] 61, Res.cells b111 #[.int .i64 ((x0.next.length : Nat) : Int), .slice a108 [0].length c109, .slice a152 l151.length c153, .slice g.2.1 g.1.1.length g.2.2] 61, Res.rowS 3 1 Go.E.encI (.slice a108 [0].length c109) [0], Res.rowS 3 1 Go.E.encI (.slice a152 l151.length c153) l151, Res.rowS 58 6 encE (.slice g.2.1 g.1.1.length g.2.2) g.1.1]) (fun g => τ174) (fun g => iter (fun q : (List Arrow) × Nat => Az_ l172 k139 l151 q.1 q.2) g.1 = some z1) (fun g => rounds (fun q : (List Arrow) × Nat => Az_ l172 k139 l151 q.1 q.2) g.1) ((l136, 0), (a137, c138)) (Sub.f [5, 5, 5, 5, 5, 5] 6) z (by repeat (first | exact trivial | refine ⟨z, ?_⟩)) hh (fun g2 j2 hg2 => ?_)))))))))
       obtain ⟨⟨l191, k194⟩, ⟨a192, c193⟩⟩ := g2
       have hh := hg2; clear hg2
       try dsimp only
       obtain ⟨z2, hh, hR2⟩ := iter_e hh
       dsimp only [Az_] at hh
       refine TC.isSl (i := 3) z (fun _ hb195 _ => ?_)
       refine TC.isSl (i := 4) z (fun _ hb196 _ => ?_)
       refine TC.isSl (i := 5) z (fun _ hb197 _ => ?_)
       refine TC.a (TL.w z (OpVal.lss z z z) (TL.en (TC.seq (TC.cD z hh (fun h198 hh => ?_) (fun h198 hh => ?_)))))
       ·refine TC.skip (S.n (TC.cutG (α := ((List Arrow)) × ((Option Addr) × Nat)) (rgs [(12, 2), (72, 14)]) (fun g => []) (fun g => [Res.cells b101 #[.slice a0_0 x0.cls.length c0_0, .slice a0_1 x0.next.length c0_1, .slice a0_2 x0.fin.length c0_2] 50, Res.cells b103 #[.int .i64 0, .slice none 0 0, .slice none 0 0, .slice none 0 0] 61, Res.cells b111 #[.int .i64 ((x0.next.length : Nat) : Int), .slice a108 [0].length c109, .slice a152 l151.length c153, .slice g.2.1 g.1.length g.2.2] 61, Res.rowS 3 1 Go.E.encI (.slice a108 [0].length c109) [0], Res.rowS 3 1 Go.E.encI (.slice a152 l151.length c153) l151, Res.rowS 58 6 encE (.slice g.2.1 g.1.length g.2.2) g.1]) (fun g => τ174) (fun g => C6_ k194 g.1 = some z2) ?_ (fun g j hg => ?_)))
        ·skip
         refine TC.block (TC.a (TL.i z z (TL.w z (OpVal.of (indexV BSet.zero z underlying183 sz55 ag55 z z encSet_len hn173 (by omega)) (v' := setV (nth l172 k194 BSet.zero)) z) (TL.op z (OpOk.alloc z ze55 z z (fun b202 => ?_))))))
         refine TL.i z z (TL.op z (storeAll z sz55 z z z z z z ?_))
         refine TL.en (TC.a (TL.w z (loadAll z ag55 sz55 z (i := 0) z z) (TL.w z (buildArrL z underlying55 sz53 ze55 z) (TL.w z (neqSet (s := (nth l172 k194 BSet.zero)) (t := BSet.zero) z underlying55 underlying53 ag53 sz53 eg55 z z) (TL.en (TC.cD z hh (fun h204 hh => ?_) (fun h204 hh => ?_)))))))
         ·refine TC.region (TL.w z (fieldLoc z fo61_3 z) (TL.w z (loadLoc z ag59 z (i := 3) z z) (TL.i z z (TL.i z z (TL.w z (loadAll z ag55 sz55 z (i := 0) z z) (TL.w z (buildL z pl58 ze58 z) (TL.op z (OpOk.lit (enc := encE) [(⟨((k139 : Nat) : Int), ((k194 : Nat) : Int), (nth l172 k194 BSet.zero)⟩ : Arrow)] z underlying59 sz58 ze58 z z z encE_len (by decide) (by decide) Arrow.zero z (by decide) z (by decide) encE_one (fun a205 c206 => ?_)))))))))
          refine TL.front 7 z z ?_
          have u90 := grd_c hh
          replace hh := grd_t hh
          refine TL.op z (appendS z z underlying59 sz58 by58 ze58 z z (by decide) z z z (.inr ⟨_, 0, z⟩) (by simpa using u90) (by decide) (fun a208 c209 => ?_))
          refine TL.w z (fieldLoc z fo61_3 z) (TL.front 5 z z (TL.op z (storeSl z sz59 z z z z z ?_)))
          exact TL.nil (B.n (S.n (cf ((l191 ++ [(⟨((k139 : Nat) : Int), ((k194 : Nat) : Int), (nth l172 k194 BSet.zero)⟩ : Arrow)]), (a208, c209)) hh (Sub.f [1, 7, 7, 3, 7, 7] 6))))
         ·exact TC.skip (B.n (S.n (cf (l191, (a192, c193)) hh (Sub.f [6, 6, 6, 6, 6, 6] 6))))
        ·skip
         obtain ⟨l199, ⟨a200, c201⟩⟩ := g
         have hh := hg; clear hg
         try dsimp only
         dsimp only [C6_] at hh
         refine TC.isSl (i := 3) z (fun _ hb210 _ => ?_)
         refine TC.isSl (i := 4) z (fun _ hb211 _ => ?_)
         refine TC.isSl (i := 5) z (fun _ hb212 _ => ?_)
         refine TC.region (TL.w z (OpVal.succ z z z (by omega)) (TL.i z z (TL.en ?_)))
         obtain ⟨hh, hlt213⟩ := nxt_x hR2 hh
         exact lf ((l199, (k194 + 1)), (a200, c201)) hlt213 hh (Sub.f [5, 5, 5, 5, 5, 5] 6)
       ·refine TC.exit (S.x (S.x ?_))
        replace hh := fin_x hR2 hh
        refine TC.exitHere (S.n (TC.a (TL.w z (fieldLoc z fo61_3 z) (TL.w z (loadLoc z ag59 z (i := 2) z z) (TL.w z (lenC z underlying59 z) (TL.w z (OpVal.gtr z z z) (TL.en (TC.cD z hh (fun h214 hh => ?_) (fun h214 hh => ?_)))))))))
        ·refine TC.a (TL.w z (buildL z pl61 ze61 z) (TL.front 1 z z (TL.op z (storeAll z sz61 z z z z z z ?_))))
         refine TL.i z z (TL.en (TC.rt 1 (B.r (S.r (S.r ?_)))))
         replace hh := fin_x hR1 hh
         refine B.r (S.r ?_)
         obtain rfl := so hh
         exact ro [] z (RVs.agg ag61 sz61 z (i := 0) z z (RVs.tmp z RVs.nil)) ⟨none, 0, none, 0, none, 0, z, (RS.nilF _ Go.E.encI Go.E.encI_len), (RS.nilF _ Go.E.encI Go.E.encI_len), (RS.nilF _ encE encE_len), z⟩
        ·refine TC.skip (B.n (S.n (TC.region (TL.w z (OpVal.succ z z z (by omega)) (TL.i z z (TL.en ?_))))))
         obtain ⟨hh, hlt215⟩ := nxt_x hR1 hh
         exact lf ((l151, l191, (k139 + 1)), (a152, c153, a192, c193, τ174)) hlt215 ⟨hh, ((hle143.trans hle165).trans hle175)⟩ (Sub.f [5, 5, 5, 5, 5, 5] 6)
      ·intro m_ c_ hh hc_
       exact jl_nil hc_
   ·refine TC.exit (S.x (S.x ?_))
    replace hh := fin_x hR1 hh
    refine TC.exitHere (S.n (TC.a (TL.w z (loadAll z ag61 sz61 z (i := 2) z z) (TL.front 1 z z (TL.op z (storeAll z sz61 z z z z z z ?_))))))
    refine TL.i z z (TL.en (TC.front 3 z z (TC.sealS Go.E.encI_len (fun τ218 hle217 hr216 => ?_))))
    have hr216b := hr216.rv.big
    refine TC.front 3 z z (TC.sealS Go.E.encI_len (fun τ221 hle220 hr219 => ?_))
    replace hr216 := hr216.mono hle220
    have hr219b := hr219.rv.big
    refine TC.front 3 z z (TC.sealS encE_len (fun τ224 hle223 hr222 => ?_))
    replace hr216 := hr216.mono hle223
    replace hr219 := hr219.mono hle223
    have hr222b := hr222.rv.big
    refine TC.rt 1 ?_
    obtain rfl := so hh
    exact ro [] z (RVs.agg ag61 sz61 z (i := 0) z z (RVs.tmp z RVs.nil)) ⟨a108, c109, a133, c134, a137, c138, z, hr216, hr219, hr222, z⟩
noncomputable def A6_ (v5 : Nfa × Int) (x2 : Bool) (i254 : Int) (l256 : List Tip) (l260 : List Tip) (l264 : List Arc) (t267 : Bool) (k268 : Nat) : Option ((Int × (List Tip) × (List Tip) × (List Arc) × Bool × Nat) ⊕ (Fst × Int)) :=
 iteO (decide (((k268 : Nat) : Int) < ((v5.1.edges.length : Nat) : Int))) (bnd (C3_ (⟨(⟨i254, l256, l260, l264⟩ : Fst), t267⟩ : Grow) (⟨(nth v5.1.edges k268 Arrow.zero).frm, (nth v5.1.edges k268 Arrow.zero).to, (nth v5.1.edges k268 Arrow.zero).set, ([] : List UInt8), x2⟩ : Arc)) (fun v77 => nxt (v77.f.states, v77.f.starts, v77.f.ends, v77.f.arcs, v77.over, (k268 + 1)))) (fin (bnd (Cb_ (⟨(⟨i254, l256, l260, l264⟩ : Fst), t267⟩ : Grow)) (fun v87 => some ((⟨v87.1.states, v87.1.starts, v87.1.ends, v87.1.arcs⟩ : Fst), v87.2))))
noncomputable def A0_ (v5 : Nfa × Int) (x1 : List UInt8) (x2 : Bool) (i200 : Int) (l202 : List Tip) (l206 : List Tip) (l210 : List Arc) (t213 : Bool) (k214 : Nat) : Option ((Int × (List Tip) × (List Tip) × (List Arc) × Bool × Nat) ⊕ (Fst × Int)) :=
 iteO (decide (((k214 : Nat) : Int) < ((v5.1.ends.length : Nat) : Int))) (bnd (Cz_ (⟨(⟨i200, l202, l206, l210⟩ : Fst), t213⟩ : Grow) (⟨(nth v5.1.ends k214 (0 : Int)), x1⟩ : Tip)) (fun v56 => nxt (v56.f.states, v56.f.starts, v56.f.ends, v56.f.arcs, v56.over, (k214 + 1)))) (fin (iter (fun q : Int × (List Tip) × (List Tip) × (List Arc) × Bool × Nat => A6_ v5 x2 q.1 q.2.1 q.2.2.1 q.2.2.2.1 q.2.2.2.2.1 q.2.2.2.2.2) (i200, l202, l206, l210, t213, 0)))
noncomputable def A7_ (v5 : Nfa × Int) (x1 : List UInt8) (x2 : Bool) (i143 : Int) (l145 : List Tip) (l149 : List Tip) (l153 : List Arc) (t156 : Bool) (k157 : Nat) : Option ((Int × (List Tip) × (List Tip) × (List Arc) × Bool × Nat) ⊕ (Fst × Int)) :=
 iteO (decide (((k157 : Nat) : Int) < ((v5.1.starts.length : Nat) : Int))) (bnd (B8_ (⟨(⟨i143, l145, l149, l153⟩ : Fst), t156⟩ : Grow) (⟨(nth v5.1.starts k157 (0 : Int)), ([] : List UInt8)⟩ : Tip)) (fun v41 => nxt (v41.f.states, v41.f.starts, v41.f.ends, v41.f.arcs, v41.over, (k157 + 1)))) (fin (iter (fun q : Int × (List Tip) × (List Tip) × (List Arc) × Bool × Nat => A0_ v5 x1 x2 q.1 q.2.1 q.2.2.1 q.2.2.2.1 q.2.2.2.2.1 q.2.2.2.2.2) (i143, l145, l149, l153, t156, 0)))
noncomputable def E8_ (x0 : Dfa) (x1 : List UInt8) (x2 : Bool) : Option (Fst × Int) :=
 grd (x1.length ≤ 281474976710656) (bnd (Fa_ x0) (fun v5 => iteO (decide (v5.2 ≠ 0)) (some ((⟨0, ([] : List Tip), ([] : List Tip), ([] : List Arc)⟩ : Fst), v5.2)) (iter (fun q : Int × (List Tip) × (List Tip) × (List Arc) × Bool × Nat => A7_ v5 x1 x2 q.1 q.2.1 q.2.2.1 q.2.2.2.1 q.2.2.2.2.1 q.2.2.2.2.2) (v5.1.states, ([] : List Tip), ([] : List Tip), ([] : List Arc), false, 0))))
def Hg_ (σ : Store) (r : Fst × Int) : Value → Store → List Res → Prop := fun v σ' H' =>
 ∃ (a1 : Option Addr), ∃ (c1 : Nat), ∃ (a2 : Option Addr), ∃ (c2 : Nat), ∃ (a3 : Option Addr), ∃ (c3 : Nat),  v = .tuple #[.agg #[.int .i64 r.1.states, .slice a1 r.1.starts.length c1, .slice a2 r.1.ends.length c2, .slice a3 r.1.arcs.length c3], .int .i64 r.2] ∧ RS σ' 2 encTip (.slice a1 r.1.starts.length c1) r.1.starts ∧ RS σ' 2 encTip (.slice a2 r.1.ends.length c2) r.1.ends ∧ RS σ' 8 encArc (.slice a3 r.1.arcs.length c3) r.1.arcs ∧ H' = []
theorem Gq_ {σ : Store} {x0 : Dfa} {a0_0 : Option Addr} {c0_0 : Nat} {a0_1 : Option Addr} {c0_1 : Nat} {a0_2 : Option Addr} {c0_2 : Nat} {x1 : List UInt8} {x2 : Bool} (f0_0 : RS σ 1 Go.E.encI (.slice a0_0 x0.cls.length c0_0) x0.cls) (f0_1 : RZ σ (pkSl 1 Go.E.encI Go.E.encI_len) (.slice a0_1 x0.next.length c0_1) x0.next) (f0_2 : RS σ 1 encB (.slice a0_2 x0.fin.length c0_2) x0.fin) {r : Fst × Int} (hh : E8_ x0 x1 x2 = some r) :
  Con Tryz.prog 49 #[.agg #[.slice a0_0 x0.cls.length c0_0, .slice a0_1 x0.next.length c0_1, .slice a0_2 x0.fin.length c0_2], .string (bs x1), .bool x2] σ [] (Hg_ σ r) := by
 dsimp only [E8_] at hh
 have f0_0b := f0_0.rv.big
 have f0_1b := f0_1.big
 have f0_2b := f0_2.rv.big
 refine Con.mkD (n := 77) Tryz.func49 z z z (fun w0 => ?_)
 have x1b := grd_c hh
 replace hh := grd_t hh
 refine TB.seq endR_ret (TC.region (TL.op z (boxA z z z z (fun b101 => ?_))))
 refine TL.op z (OpOk.alloc z ze25 z z (fun b103 => ?_))
 refine TL.op z (OpOk.alloc z ze27 z z (fun b105 => ?_))
 refine TL.en (TB.seq endR_ret (TC.region (TL.w z (loadAll z ag50 sz50 z (i := 2) z z) ?_)))
 obtain ⟨v5, u5, hh⟩ := bnd_e hh
 refine TL.op z (OpOk.call (Gp_ (x0 := x0) f0_0 f0_1 f0_2 u5) z z pf85 z z z z ?_)
 rintro _ τ107 _ hle107 ⟨a107_1, c107_1, a107_2, c107_2, a107_3, c107_3, rfl, hr107_0, hr107_1, hr107_2, rfl⟩
 have hr107_0b := hr107_0.rv.big
 have hr107_1b := hr107_1.rv.big
 have hr107_2b := hr107_2.rv.big
 refine TL.w z (moveT (.inl z) z) (TL.w z (OpVal.extract z z z) (TL.w z (OpVal.extract z z z) (TL.op z (OpOk.alloc z ze61 z z (fun b108 => ?_)))))
 refine TL.op z (storeAll z sz61 z z z z z z ?_)
 refine TL.front 1 z z (TL.op z (storeI z sz27 z z z z z ?_))
 refine TL.en (TB.seq endR_ret (TC.a (TL.w z (loadLoc z ag27 z (i := 0) z z) (TL.w z (OpVal.neq z z z) (TL.en (TC.cD z hh (fun h110 hh => ?_) (fun h110 hh => ?_)))))))
 ·refine TC.a (TL.w z (buildL z pl25 ze25 z) (TL.w z (loadLoc z ag27 z (i := 0) z z) (TL.front 2 z z (TL.op z (storeAll z sz25 z z z z z z ?_)))))
  refine TL.front 1 z z (TL.op z (storeI z sz27 z z z z z ?_))
  refine TL.en (TC.ofSub (Sub.f [1] 2) (TC.ret (S.r ?_)))
  obtain rfl := so hh
  exact ro [] z (RVs.agg ag25 sz25 z (i := 0) z z (RVs.one ag27 z (i := 1) z z RVs.nil)) ⟨none, 0, none, 0, none, 0, z, (RS.nilF _ encTip encTip_len), (RS.nilF _ encTip encTip_len), (RS.nilF _ encArc encArc_len), z⟩
 ·refine TC.skip (S.n (TB.seq endR_ret (TC.region (TL.w z (buildL z pl163 ze163 z) (TL.op z (boxA z z z z (fun b111 => ?_)))))))
  refine TL.l z z (TL.en (TB.seqD (TLB.v z (moveLoc (.inl z) z) z z (TLB.dfr (dargs := [loc b111 0, loc b103 0, loc b105 0]) z z z z z (fun a_ w_ hw_ ha_ => ?_)))))
  refine TB.fin (Q := dfrQ _ _ _ _ 86 [loc b111 0, loc b103 0, loc b105 0]) (endR_dfr (cap := []) (dargs := [loc b111 0, loc b103 0, loc b105 0]) pf86) ?_ w_ a_ hw_ ha_
  clear hw_ ha_ a_ w_
  refine TC.a (TL.l z z (TL.w z (fieldLoc z fo61_0 z) (TL.w z (loadLoc z ag3 z (i := 2) z z) (TL.w z (nilCheckLoc z z) (TL.w z (fieldLoc z fo163_0 z) (TL.w z (fieldLoc z fo25_0 z) (TL.op z (storeI z sz3 z z z z z ?_))))))))
  refine TL.en (TC.seq (TC.a (TL.w z (fieldLoc z fo61_1 z) (TL.w z (loadLoc z ag46 z (i := 2) z z) (TL.w z (lenC z underlying46 z) (TL.i z z (TL.en (TC.block (TC.nilS 43 2 encTip (TC.nilS 43 2 encTip (TC.nilS 66 8 encArc (TC.loopG (α := (Int × (List Tip) × (List Tip) × (List Arc) × Bool × Nat) × ((Option Addr) × Nat × (Option Addr) × Nat × (Option Addr) × Nat)) (rgs [(11, 1), (37, 9)]) (fun g => [(37, .int .i64 ((g.1.2.2.2.2.2 : Nat) : Int))]) (fun g => [Res.cells b103 #[.int .i64 0, .slice none 0 0, .slice none 0 0, .slice none 0 0] 25, Res.cells b105 #[.int .i64 v5.2] 27, Res.cells b108 #[.int .i64 v5.1.states, .slice a107_1 v5.1.starts.length c107_1, .slice a107_2 v5.1.ends.length c107_2, .slice a107_3 v5.1.edges.length c107_3] 61, Res.cells b111 #[.int .i64 g.1.1, .slice g.2.1 g.1.2.1.length g.2.2.1, .slice g.2.2.2.1 g.1.2.2.1.length g.2.2.2.2.1, .slice g.2.2.2.2.2.1 g.1.2.2.2.1.length g.2.2.2.2.2.2, .bool g.1.2.2.2.2.1] 163, Res.rowS 43 2 encTip (.slice g.2.1 g.1.2.1.length g.2.2.1) g.1.2.1, Res.rowS 43 2 encTip (.slice g.2.2.2.1 g.1.2.2.1.length g.2.2.2.2.1) g.1.2.2.1, Res.rowS 66 8 encArc (.slice g.2.2.2.2.2.1 g.1.2.2.2.1.length g.2.2.2.2.2.2) g.1.2.2.2.1]) (fun g => τ107) (fun g => iter (fun q : Int × (List Tip) × (List Tip) × (List Arc) × Bool × Nat => A7_ v5 x1 x2 q.1 q.2.1 q.2.2.1 q.2.2.2.1 q.2.2.2.2.1 q.2.2.2.2.2) g.1 = some r) (fun g => rounds (fun q : Int × (List Tip) × (List Tip) × (List Arc) × Bool × Nat => A7_ v5 x1 x2 q.1 q.2.1 q.2.2.1 q.2.2.2.1 q.2.2.2.2.1 q.2.2.2.2.2) g.1) ((v5.1.states, ([] : List Tip), ([] : List Tip), ([] : List Arc), false, 0), (none, 0, none, 0, none, 0)) (Sub.f [1, 2, 3, 5, 5, 6] 7) z (by repeat (first | exact trivial | refine ⟨z, ?_⟩)) hh (fun g1 j1 hg1 => ?_)))))))))))))
  obtain ⟨⟨i143, l145, l149, l153, t156, k157⟩, ⟨a146, c147, a150, c151, a154, c155⟩⟩ := g1
  have hh := hg1; clear hg1
  try dsimp only
  obtain ⟨z1, hh, hR1⟩ := iter_e hh
  dsimp only [A7_] at hh
  refine TC.isSl (i := 4) z (fun _ hb161 _ => ?_)
  refine TC.isSl (i := 5) z (fun _ hb162 _ => ?_)
  refine TC.isSl (i := 6) z (fun _ hb163 _ => ?_)
  refine TC.a (TL.w z (OpVal.lss z z z) (TL.en (TC.seq (TC.cD z hh (fun h164 hh => ?_) (fun h164 hh => ?_)))))
  ·refine TC.skip (S.n (TC.seq (TC.block (TC.a (TL.w z (indexN z underlying46 sz3 z z hr107_0.rv.sl (by omega)) (TL.w z (loadS1 (0 : Int) z ag3 z hr107_0 (by omega) z) (TL.i z z (TL.en (TC.region (TL.l z z (TL.i z z (TL.w z (buildL z pl43 ze43 z) (TL.front 6 z z (TL.front 6 z z (TL.front 6 z z (TL.front 6 z z ?_))))))))))))))))
   obtain ⟨v41, u41, hh⟩ := bnd_e hh
   refine TL.op z (OpOk.call (F9_ u41) z z pf87 z z z z ?_)
   rintro _ _ _ hle165 ⟨a165_1, c165_2, a165_3, c165_4, a165_5, c165_6, rfl, rfl, rfl⟩
   refine TL.nil (B.n (S.n (TC.region (TL.w z (OpVal.succ z z z (by omega)) (TL.i z z (TL.en ?_))))))
   obtain ⟨hh, hlt169⟩ := nxt_x hR1 hh
   exact lf ((v41.f.states, v41.f.starts, v41.f.ends, v41.f.arcs, v41.over, (k157 + 1)), (a165_1, c165_2, a165_3, c165_4, a165_5, c165_6)) hlt169 hh (Sub.f [3, 3, 3, 3, 6, 6, 6] 7)
  ·refine TC.exit (S.x (S.x ?_))
   replace hh := fin_x hR1 hh
   refine TC.exitHere (S.n (TC.seq (TC.a (TL.w z (fieldLoc z fo61_2 z) (TL.w z (loadLoc z ag46 z (i := 2) z z) (TL.w z (lenC z underlying46 z) (TL.i z z (TL.en (TC.block (TC.loopG (α := (Int × (List Tip) × (List Tip) × (List Arc) × Bool × Nat) × ((Option Addr) × Nat × (Option Addr) × Nat × (Option Addr) × Nat)) (rgs [(13, 1), (49, 10)]) (fun g => [(49, .int .i64 ((g.1.2.2.2.2.2 : Nat) : Int))]) (fun g => [Res.cells b103 #[.int .i64 0, .slice none 0 0, .slice none 0 0, .slice none 0 0] 25, Res.cells b105 #[.int .i64 v5.2] 27, Res.cells b108 #[.int .i64 v5.1.states, .slice a107_1 v5.1.starts.length c107_1, .slice a107_2 v5.1.ends.length c107_2, .slice a107_3 v5.1.edges.length c107_3] 61, Res.cells b111 #[.int .i64 g.1.1, .slice g.2.1 g.1.2.1.length g.2.2.1, .slice g.2.2.2.1 g.1.2.2.1.length g.2.2.2.2.1, .slice g.2.2.2.2.2.1 g.1.2.2.2.1.length g.2.2.2.2.2.2, .bool g.1.2.2.2.2.1] 163, Res.rowS 43 2 encTip (.slice g.2.1 g.1.2.1.length g.2.2.1) g.1.2.1, Res.rowS 43 2 encTip (.slice g.2.2.2.1 g.1.2.2.1.length g.2.2.2.2.1) g.1.2.2.1, Res.rowS 66 8 encArc (.slice g.2.2.2.2.2.1 g.1.2.2.2.1.length g.2.2.2.2.2.2) g.1.2.2.2.1]) (fun g => τ107) (fun g => iter (fun q : Int × (List Tip) × (List Tip) × (List Arc) × Bool × Nat => A0_ v5 x1 x2 q.1 q.2.1 q.2.2.1 q.2.2.2.1 q.2.2.2.2.1 q.2.2.2.2.2) g.1 = some r) (fun g => rounds (fun q : Int × (List Tip) × (List Tip) × (List Arc) × Bool × Nat => A0_ v5 x1 x2 q.1 q.2.1 q.2.2.1 q.2.2.2.1 q.2.2.2.2.1 q.2.2.2.2.2) g.1) ((i143, l145, l149, l153, t156, 0), (a146, c147, a150, c151, a154, c155)) (Sub.f [6, 6, 6, 6, 6, 6, 6] 7) z (by repeat (first | exact trivial | refine ⟨z, ?_⟩)) hh (fun g2 j2 hg2 => ?_)))))))))))
   obtain ⟨⟨i200, l202, l206, l210, t213, k214⟩, ⟨a203, c204, a207, c208, a211, c212⟩⟩ := g2
   have hh := hg2; clear hg2
   try dsimp only
   obtain ⟨z1, hh, hR1⟩ := iter_e hh
   dsimp only [A0_] at hh
   refine TC.isSl (i := 4) z (fun _ hb215 _ => ?_)
   refine TC.isSl (i := 5) z (fun _ hb216 _ => ?_)
   refine TC.isSl (i := 6) z (fun _ hb217 _ => ?_)
   refine TC.a (TL.w z (OpVal.lss z z z) (TL.en (TC.seq (TC.cD z hh (fun h218 hh => ?_) (fun h218 hh => ?_)))))
   ·refine TC.skip (S.n (TC.seq (TC.block (TC.a (TL.w z (indexN z underlying46 sz3 z z hr107_1.rv.sl (by omega)) (TL.w z (loadS1 (0 : Int) z ag3 z hr107_1 (by omega) z) (TL.i z z (TL.en (TC.region (TL.l z z (TL.i z z (TL.w z (moveStr (.inl z) z) (TL.w z (buildL z pl43 ze43 z) (TL.front 6 z z (TL.front 6 z z (TL.front 6 z z (TL.front 6 z z ?_)))))))))))))))))
    obtain ⟨v56, u56, hh⟩ := bnd_e hh
    refine TL.op z (OpOk.call (Ge_ u56) z z pf88 z z z z ?_)
    rintro _ _ _ hle219 ⟨a219_1, c219_2, a219_3, c219_4, a219_5, c219_6, rfl, rfl, rfl⟩
    refine TL.nil (B.n (S.n (TC.region (TL.w z (OpVal.succ z z z (by omega)) (TL.i z z (TL.en ?_))))))
    obtain ⟨hh, hlt223⟩ := nxt_x hR1 hh
    exact lf ((v56.f.states, v56.f.starts, v56.f.ends, v56.f.arcs, v56.over, (k214 + 1)), (a219_1, c219_2, a219_3, c219_4, a219_5, c219_6)) hlt223 hh (Sub.f [3, 3, 3, 3, 6, 6, 6] 7)
   ·refine TC.exit (S.x (S.x ?_))
    replace hh := fin_x hR1 hh
    refine TC.exitHere (S.n (TC.seq (TC.a (TL.w z (fieldLoc z fo61_3 z) (TL.w z (loadLoc z ag59 z (i := 2) z z) (TL.w z (lenC z underlying59 z) (TL.i z z (TL.en (TC.block (TC.loopG (α := (Int × (List Tip) × (List Tip) × (List Arc) × Bool × Nat) × ((Option Addr) × Nat × (Option Addr) × Nat × (Option Addr) × Nat)) (rgs [(15, 1), (62, 15)]) (fun g => [(62, .int .i64 ((g.1.2.2.2.2.2 : Nat) : Int))]) (fun g => [Res.cells b103 #[.int .i64 0, .slice none 0 0, .slice none 0 0, .slice none 0 0] 25, Res.cells b105 #[.int .i64 v5.2] 27, Res.cells b111 #[.int .i64 g.1.1, .slice g.2.1 g.1.2.1.length g.2.2.1, .slice g.2.2.2.1 g.1.2.2.1.length g.2.2.2.2.1, .slice g.2.2.2.2.2.1 g.1.2.2.2.1.length g.2.2.2.2.2.2, .bool g.1.2.2.2.2.1] 163, Res.rowS 43 2 encTip (.slice g.2.1 g.1.2.1.length g.2.2.1) g.1.2.1, Res.rowS 43 2 encTip (.slice g.2.2.2.1 g.1.2.2.1.length g.2.2.2.2.1) g.1.2.2.1, Res.rowS 66 8 encArc (.slice g.2.2.2.2.2.1 g.1.2.2.2.1.length g.2.2.2.2.2.2) g.1.2.2.2.1]) (fun g => τ107) (fun g => iter (fun q : Int × (List Tip) × (List Tip) × (List Arc) × Bool × Nat => A6_ v5 x2 q.1 q.2.1 q.2.2.1 q.2.2.2.1 q.2.2.2.2.1 q.2.2.2.2.2) g.1 = some r) (fun g => rounds (fun q : Int × (List Tip) × (List Tip) × (List Arc) × Bool × Nat => A6_ v5 x2 q.1 q.2.1 q.2.2.1 q.2.2.2.1 q.2.2.2.2.1 q.2.2.2.2.2) g.1) ((i200, l202, l206, l210, t213, 0), (a203, c204, a207, c208, a211, c212)) (Sub.f [6, 6, 6, 6, 5, 5] 6) z (by repeat (first | exact trivial | refine ⟨z, ?_⟩)) hh (fun g3 j3 hg3 => ?_)))))))))))
    obtain ⟨⟨i254, l256, l260, l264, t267, k268⟩, ⟨a257, c258, a261, c262, a265, c266⟩⟩ := g3
    have hh := hg3; clear hg3
    try dsimp only
    obtain ⟨z1, hh, hR1⟩ := iter_e hh
    dsimp only [A6_] at hh
    refine TC.isSl (i := 3) z (fun _ hb269 _ => ?_)
    refine TC.isSl (i := 4) z (fun _ hb270 _ => ?_)
    refine TC.isSl (i := 5) z (fun _ hb271 _ => ?_)
    refine TC.a (TL.w z (OpVal.lss z z z) (TL.en (TC.seq (TC.cD z hh (fun h272 hh => ?_) (fun h272 hh => ?_)))))
    ·refine TC.skip (S.n (TC.seq (TC.block (TC.a (TL.w z (indexN z underlying59 sz58 z z hr107_2.rv.sl (by omega)) (TL.w z (loadSA Arrow.zero z ag58 sz58 z hr107_2 (by omega) (by omega)) (TL.op z (OpOk.alloc z ze58 z z (fun b273 => ?_)))))))))
     refine TL.op z (storeAll z sz58 z z z z z z ?_)
     refine TL.en (TC.region (TL.l z z (TL.w z (fieldLoc z fo58_0 z) (TL.w z (loadLoc z ag3 z (i := 0) z z) (TL.w z (fieldLoc z fo58_1 z) (TL.w z (loadLoc z ag3 z (i := 0) z z) (TL.w z (fieldLoc z fo58_2 z) (TL.w z (loadLocA z ag55 sz55 z (i := 0) z z z) (TL.j z z (TL.w z (buildL z pl66 ze66 z) (TL.front 6 z z (TL.front 6 z z (TL.front 6 z z (TL.front 6 z z ?_))))))))))))))
     obtain ⟨v77, u77, hh⟩ := bnd_e hh
     refine TL.op z (OpOk.call (Gd_ u77) z z pf89 z z z z ?_)
     rintro _ _ _ hle275 ⟨a275_1, c275_2, a275_3, c275_4, a275_5, c275_6, rfl, rfl, rfl⟩
     refine TL.nil (B.n (S.n (TC.region (TL.w z (OpVal.succ z z z (by omega)) (TL.i z z (TL.en ?_))))))
     obtain ⟨hh, hlt279⟩ := nxt_x hR1 hh
     exact lf ((v77.f.states, v77.f.starts, v77.f.ends, v77.f.arcs, v77.over, (k268 + 1)), (a275_1, c275_2, a275_3, c275_4, a275_5, c275_6)) hlt279 hh (Sub.f [3, 3, 3, 3, 6, 6] 6)
    ·refine TC.exit (S.x (S.x ?_))
     replace hh := fin_x hR1 hh
     refine TC.exitHere (S.n (TC.front 1 z z (TC.front 1 z z (TC.front 5 z z (TC.front 5 z z (TC.front 5 z z (TC.front 5 z z ?_)))))))
     obtain ⟨v87, u87, hh⟩ := bnd_e hh
     refine TC.ret (⟨.inl z, _, Sub.pre 6 z, (Gc_ u87).mono ?_⟩)
     rintro _ τ280 _ hle280 ⟨a280_1, c280_2, a280_4, c280_5, a280_7, c280_8, rfl, f280_3, f280_6, f280_9, rfl⟩
     have f280_3b := f280_3.rv.big
     have f280_6b := f280_6.rv.big
     have f280_9b := f280_9.rv.big
     obtain rfl := so hh
     exact RetOk.mk' (rs := [.cell 6 25, .cell 7 27]) [] z (.inl z) (RVs.agg ag25 sz25 z (i := 0) z z (RVs.one ag27 z (i := 1) z z RVs.nil)) (List.nil_sublist _) ⟨a280_1, c280_2, a280_4, c280_5, a280_7, c280_8, z, f280_3, f280_6, f280_9, z⟩
noncomputable def Dg_ (x0 : Dfa) (x1 : List UInt8) : Option (Fst × Int) :=
 grd (x1.length ≤ 281474976710656) (bnd (Dh_ x0) (fun v5 => iteO (decide (v5 ≠ 0)) (some ((⟨0, ([] : List Tip), ([] : List Tip), ([] : List Arc)⟩ : Fst), 1)) (iteO (decide (1024 < ((x1.length : Nat) : Int))) (some ((⟨0, ([] : List Tip), ([] : List Tip), ([] : List Arc)⟩ : Fst), 2)) (bnd (E8_ x0 x1 false) (fun v18 => some (v18.1, v18.2))))))
def G4_ (σ : Store) (r : Fst × Int) : Value → Store → List Res → Prop := fun v σ' H' =>
 ∃ (a1 : Option Addr), ∃ (c1 : Nat), ∃ (a2 : Option Addr), ∃ (c2 : Nat), ∃ (a3 : Option Addr), ∃ (c3 : Nat),  v = .tuple #[.agg #[.int .i64 r.1.states, .slice a1 r.1.starts.length c1, .slice a2 r.1.ends.length c2, .slice a3 r.1.arcs.length c3], .int .i64 r.2] ∧ RS σ' 2 encTip (.slice a1 r.1.starts.length c1) r.1.starts ∧ RS σ' 2 encTip (.slice a2 r.1.ends.length c2) r.1.ends ∧ RS σ' 8 encArc (.slice a3 r.1.arcs.length c3) r.1.arcs ∧ H' = []
theorem F2_ {σ : Store} {x0 : Dfa} {a0_0 : Option Addr} {c0_0 : Nat} {a0_1 : Option Addr} {c0_1 : Nat} {a0_2 : Option Addr} {c0_2 : Nat} {x1 : List UInt8} (f0_0 : RS σ 1 Go.E.encI (.slice a0_0 x0.cls.length c0_0) x0.cls) (f0_1 : RZ σ (pkSl 1 Go.E.encI Go.E.encI_len) (.slice a0_1 x0.next.length c0_1) x0.next) (f0_2 : RS σ 1 encB (.slice a0_2 x0.fin.length c0_2) x0.fin) {r : Fst × Int} (hh : Dg_ x0 x1 = some r) :
  Con Tryz.prog 29 #[.agg #[.slice a0_0 x0.cls.length c0_0, .slice a0_1 x0.next.length c0_1, .slice a0_2 x0.fin.length c0_2], .string (bs x1)] σ [] (G4_ σ r) := by
 dsimp only [Dg_] at hh
 have f0_0b := f0_0.rv.big
 have f0_1b := f0_1.big
 have f0_2b := f0_2.rv.big
 refine Con.mk (n := 19) Tryz.func29 z z z (fun w0 => ?_)
 have x1b := grd_c hh
 replace hh := grd_t hh
 refine TC.a (TL.op z (boxA z z z z (fun b101 => ?_)))
 refine TL.op z (OpOk.alloc z ze25 z z (fun b103 => ?_))
 refine TL.i z z (TL.en (TC.seq (TC.a (TL.w z (loadAll z ag50 sz50 z (i := 1) z z) ?_))))
 obtain ⟨v5, u5, hh⟩ := bnd_e hh
 refine TL.op z (callP (F0_ (x0 := x0) f0_0 f0_1 f0_2 u5) z z pf48 z z z ?_)
 refine TL.w z (OpVal.neq z z z) (TL.en (TC.cD z hh (fun h105 hh => ?_) (fun h105 hh => ?_)))
 ·refine TC.a (TL.w z (buildL z pl25 ze25 z) (TL.op z (storeAll z sz25 z z z z z z ?_)))
  refine TL.i z z (TL.en (TC.rt 1 (S.r ?_)))
  obtain rfl := so hh
  exact ro [] z (RVs.agg ag25 sz25 z (i := 0) z z (RVs.tmp z RVs.nil)) ⟨none, 0, none, 0, none, 0, z, (RS.nilF _ encTip encTip_len), (RS.nilF _ encTip encTip_len), (RS.nilF _ encArc encArc_len), z⟩
 ·refine TC.skip (S.n (TC.seq (TC.a (TL.w z (moveStr (.inl z) z) (TL.w z (lenBs z underlying9 z) (TL.w z (OpVal.gtr z z z) (TL.en (TC.cD z hh (fun h106 hh => ?_) (fun h106 hh => ?_)))))))))
  ·refine TC.a (TL.w z (buildL z pl25 ze25 z) (TL.op z (storeAll z sz25 z z z z z z ?_)))
   refine TL.i z z (TL.en (TC.rt 1 (S.r ?_)))
   obtain rfl := so hh
   exact ro [] z (RVs.agg ag25 sz25 z (i := 0) z z (RVs.tmp z RVs.nil)) ⟨none, 0, none, 0, none, 0, z, (RS.nilF _ encTip encTip_len), (RS.nilF _ encTip encTip_len), (RS.nilF _ encArc encArc_len), z⟩
  ·refine TC.skip (S.n (TC.a (TL.w z (loadAll z ag50 sz50 z (i := 1) z z) (TL.w z (moveStr (.inl z) z) ?_))))
   obtain ⟨v18, u18, hh⟩ := bnd_e hh
   refine TL.op z (OpOk.call (Gq_ (x0 := x0) f0_0 f0_1 f0_2 u18) z z pf49 z z z z ?_)
   rintro _ τ107 _ hle107 ⟨a107_1, c107_1, a107_2, c107_2, a107_3, c107_3, rfl, hr107_0, hr107_1, hr107_2, rfl⟩
   have hr107_0b := hr107_0.rv.big
   have hr107_1b := hr107_1.rv.big
   have hr107_2b := hr107_2.rv.big
   refine TL.w z (OpVal.extract z z z) (TL.w z (OpVal.extract z z z) (TL.op z (storeAll z sz25 z z z z z z ?_)))
   refine TL.i z z (TL.en (TC.rt 1 ?_))
   obtain rfl := so hh
   exact ro [] z (RVs.agg ag25 sz25 z (i := 0) z z (RVs.tmp z RVs.nil)) ⟨a107_1, c107_1, a107_2, c107_2, a107_3, c107_3, z, hr107_0, hr107_1, hr107_2, z⟩
end Go.Proofs.YtamgjehhjkgelaaGreatDoor
end

section
namespace Go.Proofs.YtamgjehhjkgelaaGreatDoor
open Go Go.Shelf
def layS_ren : Go.Shelf.Ren := ⟨fun | 6 => 64 | 15 => 100 | 14 => 99 | 28 => 120 | 29 => 121 | 20 => 112 | 21 => 113 | 22 => 114 | 23 => 115 | 24 => 116 | 25 => 117 | 26 => 118 | 27 => 119 | 46 => 142 | 47 => 143 | 48 => 144 | 49 => 145 | 50 => 146 | 57 => 162 | n => n, fun | 22 => 31 | 24 => 9 | 25 => 89 | 3 => 3 | 39 => 176 | 0 => 0 | 53 => 195 | 55 => 53 | 4 => 4 | 46 => 189 | 45 => 188 | 50 => 145 | 5 => 5 | 9 => 9 | 66 => 211 | 70 => 215 | 76 => 226 | 77 => 227 | n => n, fun | n => n⟩
theorem layS : Go.Proofs.SlLaysF.n6 Tryz.prog layS_ren := {
  mixed := by kernel_rfl,
  f6 := ⟨Tryz.f64.name, by decide, Tryz.func64.trans (congrArg some (by kernel_rfl))⟩,
  f14 := ⟨Tryz.f99.name, by decide, Tryz.func99.trans (congrArg some (by kernel_rfl))⟩,
  f15 := Tryz.func100.trans (congrArg some (by kernel_rfl)),
  f20 := ⟨Tryz.f112.name, by decide, Tryz.func112.trans (congrArg some (by kernel_rfl))⟩,
  f21 := ⟨Tryz.f113.name, by decide, Tryz.func113.trans (congrArg some (by kernel_rfl))⟩,
  f22 := ⟨Tryz.f114.name, by decide, Tryz.func114.trans (congrArg some (by kernel_rfl))⟩,
  f23 := ⟨Tryz.f115.name, by decide, Tryz.func115.trans (congrArg some (by kernel_rfl))⟩,
  f24 := ⟨Tryz.f116.name, by decide, Tryz.func116.trans (congrArg some (by kernel_rfl))⟩,
  f25 := ⟨Tryz.f117.name, by decide, Tryz.func117.trans (congrArg some (by kernel_rfl))⟩,
  f26 := ⟨Tryz.f118.name, by decide, Tryz.func118.trans (congrArg some (by kernel_rfl))⟩,
  f27 := ⟨Tryz.f119.name, by decide, Tryz.func119.trans (congrArg some (by kernel_rfl))⟩,
  f28 := Tryz.func120.trans (congrArg some (by kernel_rfl)),
  f29 := Tryz.func121.trans (congrArg some (by kernel_rfl)),
  f46 := ⟨Tryz.f142.name, by decide, Tryz.func142.trans (congrArg some (by kernel_rfl))⟩,
  f47 := Tryz.func143.trans (congrArg some (by kernel_rfl)),
  f48 := Tryz.func144.trans (congrArg some (by kernel_rfl)),
  f49 := ⟨Tryz.f145.name, by decide, Tryz.func145.trans (congrArg some (by kernel_rfl))⟩,
  f50 := ⟨Tryz.f146.name, by decide, Tryz.func146.trans (congrArg some (by kernel_rfl))⟩,
  f57 := ⟨Tryz.f162.name, by decide, Tryz.func162.trans (congrArg some (by kernel_rfl))⟩,
  t0 := Tryz.underlying0,
  a0 := Tryz.isAgg0,
  z0 := Tryz.sizeOf0,
  v0 := Tryz.zeroValue0,
  t3 := Tryz.underlying3,
  a3 := Tryz.isAgg3,
  z3 := Tryz.sizeOf3,
  v3 := Tryz.zeroValue3,
  t4 := Tryz.underlying4,
  a4 := Tryz.isAgg4,
  z4 := Tryz.sizeOf4,
  v4 := Tryz.zeroValue4,
  t5 := Tryz.underlying5,
  a5 := Tryz.isAgg5,
  z5 := Tryz.sizeOf5,
  v5 := Tryz.zeroValue5,
  t9 := Tryz.underlying9,
  a9 := Tryz.isAgg9,
  z9 := Tryz.sizeOf9,
  v9 := Tryz.zeroValue9,
  t22 := Tryz.underlying31,
  a22 := Tryz.isAgg31,
  z22 := Tryz.sizeOf31,
  v22 := Tryz.zeroValue31,
  a24 := Tryz.isAgg9,
  z24 := Tryz.sizeOf9,
  t25 := Tryz.underlying89,
  a25 := Tryz.isAgg89,
  z25 := Tryz.sizeOf89,
  v25 := Tryz.zeroValue89,
  t39 := Tryz.underlying176,
  a39 := Tryz.isAgg176,
  z39 := Tryz.sizeOf176,
  v39 := Tryz.zeroValue176,
  t45 := Tryz.underlying188,
  a45 := Tryz.isAgg188,
  z45 := Tryz.sizeOf188,
  v45 := Tryz.zeroValue188,
  t46 := Tryz.underlying189,
  a46 := Tryz.isAgg189,
  z46 := Tryz.sizeOf189,
  v46 := Tryz.zeroValue189,
  t50 := Tryz.underlying145,
  a50 := Tryz.isAgg145,
  z50 := Tryz.sizeOf145,
  v50 := Tryz.zeroValue145,
  t53 := Tryz.underlying195,
  a53 := Tryz.isAgg195,
  z53 := Tryz.sizeOf195,
  v53 := Tryz.zeroValue195,
  t55 := Tryz.underlying53,
  a55 := Tryz.isAgg53,
  z55 := Tryz.sizeOf53,
  v55 := Tryz.zeroValue53,
  t66 := Tryz.underlying211,
  a66 := Tryz.isAgg211,
  z66 := Tryz.sizeOf211,
  v66 := Tryz.zeroValue211,
  t70 := Tryz.underlying215,
  a70 := Tryz.isAgg215,
  z70 := Tryz.sizeOf215,
  v70 := Tryz.zeroValue215,
  t76 := Tryz.underlying226,
  a76 := Tryz.isAgg226,
  z76 := Tryz.sizeOf226,
  v76 := Tryz.zeroValue226,
  t77 := Tryz.underlying227,
  a77 := Tryz.isAgg227,
  z77 := Tryz.sizeOf227,
  v77 := Tryz.zeroValue227 }
def layS0_ren : Go.Shelf.Ren := ⟨fun | 6 => 64 | 15 => 100 | 14 => 99 | 28 => 120 | 29 => 121 | 20 => 112 | 21 => 113 | 22 => 114 | 23 => 115 | 24 => 116 | 25 => 117 | 26 => 118 | 27 => 119 | 46 => 142 | 47 => 143 | 48 => 144 | 49 => 145 | 50 => 146 | 57 => 162 | n => n, fun | 22 => 31 | 24 => 9 | 25 => 89 | 3 => 3 | 39 => 176 | 0 => 0 | 53 => 195 | 55 => 53 | 4 => 4 | 46 => 189 | 45 => 188 | 50 => 145 | 5 => 5 | 9 => 9 | 66 => 211 | 70 => 215 | 76 => 226 | 77 => 227 | n => n, fun | n => n⟩
theorem layS0 : Go.Proofs.SlLaysF0.n6 Tryz.prog layS0_ren := {
  mixed := by kernel_rfl,
  f6 := ⟨Tryz.f64.name, by decide, Tryz.func64.trans (congrArg some (by kernel_rfl))⟩,
  f14 := ⟨Tryz.f99.name, by decide, Tryz.func99.trans (congrArg some (by kernel_rfl))⟩,
  f15 := Tryz.func100.trans (congrArg some (by kernel_rfl)),
  f20 := ⟨Tryz.f112.name, by decide, Tryz.func112.trans (congrArg some (by kernel_rfl))⟩,
  f21 := ⟨Tryz.f113.name, by decide, Tryz.func113.trans (congrArg some (by kernel_rfl))⟩,
  f22 := ⟨Tryz.f114.name, by decide, Tryz.func114.trans (congrArg some (by kernel_rfl))⟩,
  f23 := ⟨Tryz.f115.name, by decide, Tryz.func115.trans (congrArg some (by kernel_rfl))⟩,
  f24 := ⟨Tryz.f116.name, by decide, Tryz.func116.trans (congrArg some (by kernel_rfl))⟩,
  f25 := ⟨Tryz.f117.name, by decide, Tryz.func117.trans (congrArg some (by kernel_rfl))⟩,
  f26 := ⟨Tryz.f118.name, by decide, Tryz.func118.trans (congrArg some (by kernel_rfl))⟩,
  f27 := ⟨Tryz.f119.name, by decide, Tryz.func119.trans (congrArg some (by kernel_rfl))⟩,
  f28 := Tryz.func120.trans (congrArg some (by kernel_rfl)),
  f29 := Tryz.func121.trans (congrArg some (by kernel_rfl)),
  f46 := ⟨Tryz.f142.name, by decide, Tryz.func142.trans (congrArg some (by kernel_rfl))⟩,
  f47 := Tryz.func143.trans (congrArg some (by kernel_rfl)),
  f48 := Tryz.func144.trans (congrArg some (by kernel_rfl)),
  f49 := ⟨Tryz.f145.name, by decide, Tryz.func145.trans (congrArg some (by kernel_rfl))⟩,
  f50 := ⟨Tryz.f146.name, by decide, Tryz.func146.trans (congrArg some (by kernel_rfl))⟩,
  f57 := ⟨Tryz.f162.name, by decide, Tryz.func162.trans (congrArg some (by kernel_rfl))⟩,
  t0 := Tryz.underlying0,
  a0 := Tryz.isAgg0,
  z0 := Tryz.sizeOf0,
  v0 := Tryz.zeroValue0,
  t3 := Tryz.underlying3,
  a3 := Tryz.isAgg3,
  z3 := Tryz.sizeOf3,
  v3 := Tryz.zeroValue3,
  t4 := Tryz.underlying4,
  a4 := Tryz.isAgg4,
  z4 := Tryz.sizeOf4,
  v4 := Tryz.zeroValue4,
  t5 := Tryz.underlying5,
  a5 := Tryz.isAgg5,
  z5 := Tryz.sizeOf5,
  v5 := Tryz.zeroValue5,
  t9 := Tryz.underlying9,
  a9 := Tryz.isAgg9,
  z9 := Tryz.sizeOf9,
  v9 := Tryz.zeroValue9,
  t22 := Tryz.underlying31,
  a22 := Tryz.isAgg31,
  z22 := Tryz.sizeOf31,
  v22 := Tryz.zeroValue31,
  t25 := Tryz.underlying89,
  a25 := Tryz.isAgg89,
  z25 := Tryz.sizeOf89,
  v25 := Tryz.zeroValue89,
  t39 := Tryz.underlying176,
  a39 := Tryz.isAgg176,
  z39 := Tryz.sizeOf176,
  v39 := Tryz.zeroValue176,
  t45 := Tryz.underlying188,
  a45 := Tryz.isAgg188,
  z45 := Tryz.sizeOf188,
  v45 := Tryz.zeroValue188,
  t46 := Tryz.underlying189,
  a46 := Tryz.isAgg189,
  z46 := Tryz.sizeOf189,
  v46 := Tryz.zeroValue189,
  t50 := Tryz.underlying145,
  a50 := Tryz.isAgg145,
  z50 := Tryz.sizeOf145,
  v50 := Tryz.zeroValue145,
  t53 := Tryz.underlying195,
  a53 := Tryz.isAgg195,
  z53 := Tryz.sizeOf195,
  v53 := Tryz.zeroValue195,
  t55 := Tryz.underlying53,
  a55 := Tryz.isAgg53,
  z55 := Tryz.sizeOf53,
  v55 := Tryz.zeroValue53,
  t66 := Tryz.underlying211,
  a66 := Tryz.isAgg211,
  z66 := Tryz.sizeOf211,
  v66 := Tryz.zeroValue211,
  t70 := Tryz.underlying215,
  a70 := Tryz.isAgg215,
  z70 := Tryz.sizeOf215,
  v70 := Tryz.zeroValue215,
  t76 := Tryz.underlying226,
  a76 := Tryz.isAgg226,
  z76 := Tryz.sizeOf226,
  v76 := Tryz.zeroValue226,
  t77 := Tryz.underlying227,
  a77 := Tryz.isAgg227,
  z77 := Tryz.sizeOf227,
  v77 := Tryz.zeroValue227 }
def layT0_ren : Go.Shelf.Ren := ⟨fun | 6 => 68 | 15 => 100 | 14 => 103 | 28 => 120 | 29 => 121 | 20 => 123 | 21 => 124 | 22 => 125 | 23 => 126 | 24 => 127 | 25 => 128 | 26 => 129 | 27 => 130 | 46 => 147 | 47 => 143 | 48 => 144 | 49 => 148 | 50 => 149 | 57 => 163 | n => n, fun | 22 => 22 | 24 => 43 | 25 => 127 | 3 => 3 | 39 => 176 | 0 => 0 | 53 => 195 | 55 => 53 | 4 => 4 | 46 => 189 | 45 => 188 | 50 => 145 | 5 => 5 | 9 => 9 | 66 => 211 | 70 => 215 | 76 => 226 | 77 => 227 | n => n, fun | n => n⟩
theorem layT0 : Go.Proofs.SlLaysF0.n6 Tryz.prog layT0_ren := {
  mixed := by kernel_rfl,
  f6 := ⟨Tryz.f68.name, by decide, Tryz.func68.trans (congrArg some (by kernel_rfl))⟩,
  f14 := ⟨Tryz.f103.name, by decide, Tryz.func103.trans (congrArg some (by kernel_rfl))⟩,
  f15 := Tryz.func100.trans (congrArg some (by kernel_rfl)),
  f20 := ⟨Tryz.f123.name, by decide, Tryz.func123.trans (congrArg some (by kernel_rfl))⟩,
  f21 := ⟨Tryz.f124.name, by decide, Tryz.func124.trans (congrArg some (by kernel_rfl))⟩,
  f22 := ⟨Tryz.f125.name, by decide, Tryz.func125.trans (congrArg some (by kernel_rfl))⟩,
  f23 := ⟨Tryz.f126.name, by decide, Tryz.func126.trans (congrArg some (by kernel_rfl))⟩,
  f24 := ⟨Tryz.f127.name, by decide, Tryz.func127.trans (congrArg some (by kernel_rfl))⟩,
  f25 := ⟨Tryz.f128.name, by decide, Tryz.func128.trans (congrArg some (by kernel_rfl))⟩,
  f26 := ⟨Tryz.f129.name, by decide, Tryz.func129.trans (congrArg some (by kernel_rfl))⟩,
  f27 := ⟨Tryz.f130.name, by decide, Tryz.func130.trans (congrArg some (by kernel_rfl))⟩,
  f28 := Tryz.func120.trans (congrArg some (by kernel_rfl)),
  f29 := Tryz.func121.trans (congrArg some (by kernel_rfl)),
  f46 := ⟨Tryz.f147.name, by decide, Tryz.func147.trans (congrArg some (by kernel_rfl))⟩,
  f47 := Tryz.func143.trans (congrArg some (by kernel_rfl)),
  f48 := Tryz.func144.trans (congrArg some (by kernel_rfl)),
  f49 := ⟨Tryz.f148.name, by decide, Tryz.func148.trans (congrArg some (by kernel_rfl))⟩,
  f50 := ⟨Tryz.f149.name, by decide, Tryz.func149.trans (congrArg some (by kernel_rfl))⟩,
  f57 := ⟨Tryz.f163.name, by decide, Tryz.func163.trans (congrArg some (by kernel_rfl))⟩,
  t0 := Tryz.underlying0,
  a0 := Tryz.isAgg0,
  z0 := Tryz.sizeOf0,
  v0 := Tryz.zeroValue0,
  t3 := Tryz.underlying3,
  a3 := Tryz.isAgg3,
  z3 := Tryz.sizeOf3,
  v3 := Tryz.zeroValue3,
  t4 := Tryz.underlying4,
  a4 := Tryz.isAgg4,
  z4 := Tryz.sizeOf4,
  v4 := Tryz.zeroValue4,
  t5 := Tryz.underlying5,
  a5 := Tryz.isAgg5,
  z5 := Tryz.sizeOf5,
  v5 := Tryz.zeroValue5,
  t9 := Tryz.underlying9,
  a9 := Tryz.isAgg9,
  z9 := Tryz.sizeOf9,
  v9 := Tryz.zeroValue9,
  t22 := Tryz.underlying22,
  a22 := Tryz.isAgg22,
  z22 := Tryz.sizeOf22,
  v22 := Tryz.zeroValue22,
  t25 := Tryz.underlying127,
  a25 := Tryz.isAgg127,
  z25 := Tryz.sizeOf127,
  v25 := Tryz.zeroValue127,
  t39 := Tryz.underlying176,
  a39 := Tryz.isAgg176,
  z39 := Tryz.sizeOf176,
  v39 := Tryz.zeroValue176,
  t45 := Tryz.underlying188,
  a45 := Tryz.isAgg188,
  z45 := Tryz.sizeOf188,
  v45 := Tryz.zeroValue188,
  t46 := Tryz.underlying189,
  a46 := Tryz.isAgg189,
  z46 := Tryz.sizeOf189,
  v46 := Tryz.zeroValue189,
  t50 := Tryz.underlying145,
  a50 := Tryz.isAgg145,
  z50 := Tryz.sizeOf145,
  v50 := Tryz.zeroValue145,
  t53 := Tryz.underlying195,
  a53 := Tryz.isAgg195,
  z53 := Tryz.sizeOf195,
  v53 := Tryz.zeroValue195,
  t55 := Tryz.underlying53,
  a55 := Tryz.isAgg53,
  z55 := Tryz.sizeOf53,
  v55 := Tryz.zeroValue53,
  t66 := Tryz.underlying211,
  a66 := Tryz.isAgg211,
  z66 := Tryz.sizeOf211,
  v66 := Tryz.zeroValue211,
  t70 := Tryz.underlying215,
  a70 := Tryz.isAgg215,
  z70 := Tryz.sizeOf215,
  v70 := Tryz.zeroValue215,
  t76 := Tryz.underlying226,
  a76 := Tryz.isAgg226,
  z76 := Tryz.sizeOf226,
  v76 := Tryz.zeroValue226,
  t77 := Tryz.underlying227,
  a77 := Tryz.isAgg227,
  z77 := Tryz.sizeOf227,
  v77 := Tryz.zeroValue227 }
def layA0_ren : Go.Shelf.Ren := ⟨fun | 6 => 95 | 15 => 100 | 14 => 110 | 28 => 120 | 29 => 121 | 20 => 133 | 21 => 134 | 22 => 135 | 23 => 136 | 24 => 137 | 25 => 138 | 26 => 139 | 27 => 140 | 46 => 159 | 47 => 143 | 48 => 144 | 49 => 160 | 50 => 161 | 57 => 167 | n => n, fun | 22 => 23 | 24 => 66 | 25 => 129 | 3 => 3 | 39 => 176 | 0 => 0 | 53 => 195 | 55 => 53 | 4 => 4 | 46 => 189 | 45 => 188 | 50 => 145 | 5 => 5 | 9 => 9 | 66 => 211 | 70 => 215 | 76 => 226 | 77 => 227 | n => n, fun | n => n⟩
theorem layA0 : Go.Proofs.SlLaysF0.n6 Tryz.prog layA0_ren := {
  mixed := by kernel_rfl,
  f6 := ⟨Tryz.f95.name, by decide, Tryz.func95.trans (congrArg some (by kernel_rfl))⟩,
  f14 := ⟨Tryz.f110.name, by decide, Tryz.func110.trans (congrArg some (by kernel_rfl))⟩,
  f15 := Tryz.func100.trans (congrArg some (by kernel_rfl)),
  f20 := ⟨Tryz.f133.name, by decide, Tryz.func133.trans (congrArg some (by kernel_rfl))⟩,
  f21 := ⟨Tryz.f134.name, by decide, Tryz.func134.trans (congrArg some (by kernel_rfl))⟩,
  f22 := ⟨Tryz.f135.name, by decide, Tryz.func135.trans (congrArg some (by kernel_rfl))⟩,
  f23 := ⟨Tryz.f136.name, by decide, Tryz.func136.trans (congrArg some (by kernel_rfl))⟩,
  f24 := ⟨Tryz.f137.name, by decide, Tryz.func137.trans (congrArg some (by kernel_rfl))⟩,
  f25 := ⟨Tryz.f138.name, by decide, Tryz.func138.trans (congrArg some (by kernel_rfl))⟩,
  f26 := ⟨Tryz.f139.name, by decide, Tryz.func139.trans (congrArg some (by kernel_rfl))⟩,
  f27 := ⟨Tryz.f140.name, by decide, Tryz.func140.trans (congrArg some (by kernel_rfl))⟩,
  f28 := Tryz.func120.trans (congrArg some (by kernel_rfl)),
  f29 := Tryz.func121.trans (congrArg some (by kernel_rfl)),
  f46 := ⟨Tryz.f159.name, by decide, Tryz.func159.trans (congrArg some (by kernel_rfl))⟩,
  f47 := Tryz.func143.trans (congrArg some (by kernel_rfl)),
  f48 := Tryz.func144.trans (congrArg some (by kernel_rfl)),
  f49 := ⟨Tryz.f160.name, by decide, Tryz.func160.trans (congrArg some (by kernel_rfl))⟩,
  f50 := ⟨Tryz.f161.name, by decide, Tryz.func161.trans (congrArg some (by kernel_rfl))⟩,
  f57 := ⟨Tryz.f167.name, by decide, Tryz.func167.trans (congrArg some (by kernel_rfl))⟩,
  t0 := Tryz.underlying0,
  a0 := Tryz.isAgg0,
  z0 := Tryz.sizeOf0,
  v0 := Tryz.zeroValue0,
  t3 := Tryz.underlying3,
  a3 := Tryz.isAgg3,
  z3 := Tryz.sizeOf3,
  v3 := Tryz.zeroValue3,
  t4 := Tryz.underlying4,
  a4 := Tryz.isAgg4,
  z4 := Tryz.sizeOf4,
  v4 := Tryz.zeroValue4,
  t5 := Tryz.underlying5,
  a5 := Tryz.isAgg5,
  z5 := Tryz.sizeOf5,
  v5 := Tryz.zeroValue5,
  t9 := Tryz.underlying9,
  a9 := Tryz.isAgg9,
  z9 := Tryz.sizeOf9,
  v9 := Tryz.zeroValue9,
  t22 := Tryz.underlying23,
  a22 := Tryz.isAgg23,
  z22 := Tryz.sizeOf23,
  v22 := Tryz.zeroValue23,
  t25 := Tryz.underlying129,
  a25 := Tryz.isAgg129,
  z25 := Tryz.sizeOf129,
  v25 := Tryz.zeroValue129,
  t39 := Tryz.underlying176,
  a39 := Tryz.isAgg176,
  z39 := Tryz.sizeOf176,
  v39 := Tryz.zeroValue176,
  t45 := Tryz.underlying188,
  a45 := Tryz.isAgg188,
  z45 := Tryz.sizeOf188,
  v45 := Tryz.zeroValue188,
  t46 := Tryz.underlying189,
  a46 := Tryz.isAgg189,
  z46 := Tryz.sizeOf189,
  v46 := Tryz.zeroValue189,
  t50 := Tryz.underlying145,
  a50 := Tryz.isAgg145,
  z50 := Tryz.sizeOf145,
  v50 := Tryz.zeroValue145,
  t53 := Tryz.underlying195,
  a53 := Tryz.isAgg195,
  z53 := Tryz.sizeOf195,
  v53 := Tryz.zeroValue195,
  t55 := Tryz.underlying53,
  a55 := Tryz.isAgg53,
  z55 := Tryz.sizeOf53,
  v55 := Tryz.zeroValue53,
  t66 := Tryz.underlying211,
  a66 := Tryz.isAgg211,
  z66 := Tryz.sizeOf211,
  v66 := Tryz.zeroValue211,
  t70 := Tryz.underlying215,
  a70 := Tryz.isAgg215,
  z70 := Tryz.sizeOf215,
  v70 := Tryz.zeroValue215,
  t76 := Tryz.underlying226,
  a76 := Tryz.isAgg226,
  z76 := Tryz.sizeOf226,
  v76 := Tryz.zeroValue226,
  t77 := Tryz.underlying227,
  a77 := Tryz.isAgg227,
  z77 := Tryz.sizeOf227,
  v77 := Tryz.zeroValue227 }
end Go.Proofs.YtamgjehhjkgelaaGreatDoor
end

section
namespace Go.Proofs.YtamgjehhjkgelaaGreatDoor
open Go Go.E Go.E.OpVal Go.E.OpOk Go.Proofs.Tryz
private theorem pf111 : Go.E.plainF Tryz.prog 111 = true := by kernel_rfl
private theorem pf141 : Go.E.plainF Tryz.prog 141 = true := by kernel_rfl
private theorem pf32 : Go.E.plainF Tryz.prog 32 = true := by kernel_rfl
private theorem pf66 : Go.E.plainF Tryz.prog 66 = true := by kernel_rfl
private theorem pf92 : Go.E.plainF Tryz.prog 92 = true := by kernel_rfl
private theorem pf93 : Go.E.plainF Tryz.prog 93 = true := by kernel_rfl
private theorem pf97 : Go.E.plainF Tryz.prog 97 = true := by kernel_rfl
private theorem pf98 : Go.E.plainF Tryz.prog 98 = true := by kernel_rfl
noncomputable def A3_ (x0 : List UInt8) (x1 : List UInt8) : Option (Int) :=
 some (Lib.compareBytes x0 x1)
theorem C5_ {σ : Store} {x0 : List UInt8} {x1 : List UInt8}  {r : Int} (hh : A3_ x0 x1 = some r) :
  Con Tryz.prog 66 #[.string (bs x0), .string (bs x1)] σ [] (PureP (.int .i64 r) σ) := by
 dsimp only [A3_] at hh
 refine Con.mk (n := 8) Tryz.func66 z z z (fun w0 => ?_)
 refine TC.a (TL.i z z (TL.en (TC.a (TL.w z (moveStr (.inl z) z) (TL.w z (moveStr (.inl z) z) (TL.w z (cmpStr z z Tryz.func101 (by kernel_rfl) (by kernel_rfl) (by kernel_rfl) (by kernel_rfl) z z) (TL.i z z (TL.en (TC.ret ?_)))))))))
 obtain rfl := so hh
 exact rq [4] ⟨z, z, z⟩
noncomputable def B1_ (x0 : List UInt8) (x1 : List UInt8) : Option (Int) :=
 bnd (A3_ x0 x1) (fun v4 => some v4)
theorem Cr_ {σ : Store} {x0 : List UInt8} {x1 : List UInt8}  {r : Int} (hh : B1_ x0 x1 = some r) :
  Con Tryz.prog 32 #[.string (bs x0), .string (bs x1)] σ [] (PureP (.int .i64 r) σ) := by
 dsimp only [B1_] at hh
 refine Con.mk (n := 8) Tryz.func32 z z z (fun w0 => ?_)
 refine TC.a (TL.i z z (TL.en (TC.a (TL.w z (moveStr (.inl z) z) (TL.w z (moveStr (.inl z) z) ?_)))))
 obtain ⟨v4, u4, hh⟩ := bnd_e hh
 refine TL.op z (callP (C5_ u4) z z pf66 z z z ?_)
 refine TL.i z z (TL.en (TC.ret ?_))
 obtain rfl := so hh
 exact rq [4] ⟨z, z, z⟩
noncomputable def isNaNU (x0 : Nat) : Option (Bool) :=
 some (decide (x0 ≠ x0))
theorem isNaNU_con {σ : Store} {x0 : Nat}  {r : Bool} (hh : isNaNU x0 = some r) :
  Con Tryz.prog 141 #[.int .u64 ((x0 : Nat) : Int)] σ [] (PureP (.bool r) σ) := by
 dsimp only [isNaNU] at hh
 refine Con.mk (n := 6) Tryz.func141 z z z (fun w0 => ?_)
 refine TC.a (TL.j z z (TL.en (TC.a (TL.i z z (TL.i z z (TL.w z (neqU z z z) (TL.j z z (TL.en (TC.ret ?_)))))))))
 obtain rfl := so hh
 exact rq [2] ⟨z, z, z⟩
noncomputable def compareU (x0 : Nat) (x1 : Nat) : Option (Int) :=
 bnd (isNaNU x0) (fun v3 => bnd (isNaNU x1) (fun v6 => iteO v3 (iteO v6 (some 0) (some (-1))) (iteO v6 (some 1) (iteO (decide (x0 < x1)) (some (-1)) (iteO (decide (x1 < x0)) (some 1) (some 0))))))
theorem compareU_con {σ : Store} {x0 : Nat} {x1 : Nat}  {r : Int} (hh : compareU x0 x1 = some r) :
  Con Tryz.prog 111 #[.int .u64 ((x0 : Nat) : Int), .int .u64 ((x1 : Nat) : Int)] σ [] (PureP (.int .i64 r) σ) := by
 dsimp only [compareU] at hh
 refine Con.mk (n := 20) Tryz.func111 z z z (fun w0 => ?_)
 refine TC.a (TL.i z z (TL.en (TC.a (TL.i z z ?_))))
 obtain ⟨v3, u3, hh⟩ := bnd_e hh
 refine TL.op z (callP (isNaNU_con u3) z z pf141 z z z ?_)
 refine TL.j z z (TL.en (TC.a (TL.i z z ?_)))
 obtain ⟨v6, u6, hh⟩ := bnd_e hh
 refine TL.op z (callP (isNaNU_con u6) z z pf141 z z z ?_)
 refine TL.j z z (TL.en (TC.seq (TC.a (TL.j z z (TL.en (TC.cB z hh (fun h101 hh => ?_) (fun h101 hh => ?_)))))))
 ·refine TC.seq (TC.a (TL.j z z (TL.en (TC.cB z hh (fun h102 hh => ?_) (fun h102 hh => ?_)))))
  ·refine TC.a (TL.i z z (TL.en (TC.ret (S.r (S.r ?_)))))
   obtain rfl := so hh
   exact rq [4] ⟨z, z, z⟩
  ·refine TC.skip (S.n (TC.a (TL.i z z (TL.en (TC.ret (S.r ?_))))))
   obtain rfl := so hh
   exact rq [4] ⟨z, z, z⟩
 ·refine TC.skip (S.n (TC.seq (TC.a (TL.j z z (TL.en (TC.cB z hh (fun h103 hh => ?_) (fun h103 hh => ?_)))))))
  ·refine TC.a (TL.i z z (TL.en (TC.ret (S.r ?_))))
   obtain rfl := so hh
   exact rq [4] ⟨z, z, z⟩
  ·refine TC.skip (S.n (TC.seq (TC.a (TL.i z z (TL.i z z (TL.w z (lssU z z z) (TL.en (TC.cD z hh (fun h104 hh => ?_) (fun h104 hh => ?_)))))))))
   ·refine TC.a (TL.i z z (TL.en (TC.ret (S.r ?_))))
    obtain rfl := so hh
    exact rq [4] ⟨z, z, z⟩
   ·refine TC.skip (S.n (TC.seq (TC.a (TL.i z z (TL.i z z (TL.w z (gtrU z z z) (TL.en (TC.cD z hh (fun h105 hh => ?_) (fun h105 hh => ?_)))))))))
    ·refine TC.a (TL.i z z (TL.en (TC.ret (S.r ?_))))
     obtain rfl := so hh
     exact rq [4] ⟨z, z, z⟩
    ·refine TC.skip (S.n (TC.a (TL.i z z (TL.en (TC.ret ?_)))))
     obtain rfl := so hh
     exact rq [4] ⟨z, z, z⟩
noncomputable def Dy_ (x0 : Bool) : Option (Int) :=
 iteO x0 (some 1) (some 0)
theorem Fq_ {σ : Store} {x0 : Bool}  {r : Int} (hh : Dy_ x0 = some r) :
  Con Tryz.prog 98 #[.bool x0] σ [] (PureP (.int .i64 r) σ) := by
 dsimp only [Dy_] at hh
 refine Con.mk (n := 4) Tryz.func98 z z z (fun w0 => ?_)
 refine TC.a (TL.i z z (TL.en (TC.seq (TC.a (TL.j z z (TL.en (TC.cB z hh (fun h101 hh => ?_) (fun h101 hh => ?_))))))))
 ·refine TC.a (TL.i z z (TL.en (TC.ret (S.r ?_))))
  obtain rfl := so hh
  exact rq [2] ⟨z, z, z⟩
 ·refine TC.skip (S.n (TC.a (TL.i z z (TL.en (TC.ret ?_)))))
  obtain rfl := so hh
  exact rq [2] ⟨z, z, z⟩
noncomputable def B9_ (x0 : List Int) (k103 : Nat) : Option ((Nat) ⊕ (Int)) :=
 iteO (decide (((k103 : Nat) : Int) < ((x0.length : Nat) : Int))) (iteO (decide ((nth x0 k103 (0 : Int)) ≠ 0)) (fin (some (nth x0 k103 (0 : Int)))) (nxt (k103 + 1))) (fin (some 0))
noncomputable def E3_ (x0 : List Int) : Option (Int) :=
 iter (fun q : Nat => B9_ x0 q) 0
theorem Fu_ {σ : Store} {x0 : List Int} {a0_0 : Option Addr} {c0_0 : Nat} (f0_0 : RS σ 1 Go.E.encI (.slice a0_0 x0.length c0_0) x0) {r : Int} (hh : E3_ x0 = some r) :
  Con Tryz.prog 92 #[.slice a0_0 x0.length c0_0] σ [] (PureP (.int .i64 r) σ) := by
 dsimp only [E3_] at hh
 have f0_0b := f0_0.rv.big
 refine Con.mk (n := 18) Tryz.func92 z z z (fun w0 => ?_)
 refine TC.a (TL.i z z (TL.en (TC.a (TL.i z z (TL.en (TC.seq (TC.a (TL.s z z (TL.w z (lenC z underlying46 z) (TL.i z z (TL.en (TC.block (TC.loopG (α := (Nat) × (Unit)) (rgs [(2, 1), (5, 1), (8, 9)]) (fun g => [(8, .int .i64 ((g.1 : Nat) : Int))]) (fun g => []) (fun g => σ) (fun g => iter (fun q : Nat => B9_ x0 q) g.1 = some r) (fun g => rounds (fun q : Nat => B9_ x0 q) g.1) (0, ()) (Sub.pre 0 z) z (by repeat (first | exact trivial | refine ⟨z, ?_⟩)) hh (fun g1 j1 hg1 => ?_))))))))))))))
 obtain ⟨k103, _⟩ := g1
 have hh := hg1; clear hg1
 try dsimp only
 obtain ⟨z1, hh, hR1⟩ := iter_e hh
 dsimp only [B9_] at hh
 refine TC.a (TL.w z (OpVal.lss z z z) (TL.en (TC.seq (TC.cD z hh (fun h104 hh => ?_) (fun h104 hh => ?_)))))
 ·refine TC.skip (S.n (TC.seq (TC.block (TC.a (TL.w z (indexN z underlying46 sz3 z z f0_0.rv.sl (by omega)) (TL.w z (loadS1 (0 : Int) z ag3 z f0_0 (by omega) z) (TL.i z z (TL.en (TC.a (TL.i z z (TL.i z z (TL.w z (OpVal.neq z z z) (TL.en (TC.cD z hh (fun h105 hh => ?_) (fun h105 hh => ?_)))))))))))))))
  ·refine TC.a (TL.i z z (TL.i z z (TL.en (TC.ret (B.r (S.r (S.r ?_)))))))
   replace hh := fin_x hR1 hh
   refine B.r (S.r ?_)
   obtain rfl := so hh
   exact rq [2] ⟨z, z, z⟩
  ·refine TC.skip (B.n (S.n (TC.region (TL.w z (OpVal.succ z z z (by omega)) (TL.i z z (TL.en ?_))))))
   obtain ⟨hh, hlt106⟩ := nxt_x hR1 hh
   exact lf ((k103 + 1), ()) hlt106 hh (Sub.pre 0 z)
 ·refine TC.exit (S.x (S.x ?_))
  replace hh := fin_x hR1 hh
  refine TC.exitHere (S.n (TC.a (TL.i z z (TL.i z z (TL.en (TC.ret ?_))))))
  obtain rfl := so hh
  exact rq [2] ⟨z, z, z⟩
noncomputable def Cs_ (x0 : Tip) (x1 : Tip) : Option (Int) :=
 bnd (A8_ x0.state x1.state) (fun v8 => bnd (B1_ x0.out x1.out) (fun v13 => bnd (E3_ [v8, v13]) (fun v15 => some v15)))
theorem F5_ {σ : Store} {x0 : Tip} {x1 : Tip}  {r : Int} (hh : Cs_ x0 x1 = some r) :
  Con Tryz.prog 58 #[.agg #[.int .i64 x0.state, .string (bs x0.out)], .agg #[.int .i64 x1.state, .string (bs x1.out)]] σ [] (PureP (.int .i64 r) σ) := by
 dsimp only [Cs_] at hh
 refine Con.mk (n := 17) Tryz.func58 z z z (fun w0 => ?_)
 refine TC.a (TL.op z (boxA z z z z (fun b101 => ?_)))
 refine TL.op z (boxA z z z z (fun b103 => ?_))
 refine TL.i z z (TL.en (TC.seq ?_))
 obtain ⟨v8, u8, hh⟩ := bnd_e hh
 obtain ⟨v13, u13, hh⟩ := bnd_e hh
 obtain ⟨v15, u15, hh⟩ := bnd_e hh
 refine TC.draw [] (by kernel_rfl) (TA.a 0 z (fieldLoc z fo43_0 z) z (TA.b 1 z (loadLoc z ag3 z (i := 1) z z) z (TA.a 2 z (fieldLoc z fo43_0 z) z (TA.b 3 z (loadLoc z ag3 z (i := 0) z z) z (TA.a 5 z (fieldLoc z fo43_1 z) z (TA.b 6 z (loadLoc z ag9 z (i := 1) z z) z (TA.a 7 z (fieldLoc z fo43_1 z) z (TA.b 8 z (loadLoc z ag9 z (i := 0) z z) z (TA.ac 4 z (callP (B3_ u8) z z pf93 z z z (k0 ?_)))))))))))
 refine TA.ac 9 z (callP (Cr_ u13) z z pf32 z z z (k0 ?_))
 refine TA.ac 10 z (OpOk.lit (enc := Go.E.encI) [v8, v13] z underlying46 sz3 ze3 z z z Go.E.encI_len (by decide) (by decide) (0 : Int) z (by decide) z (by decide) Go.E.encI_one (fun a110 c111 => (k1 ?_)))
 refine TA.ac 11 z (callK (Con.lend Go.E.encI_len (fun _ hle114 hr113 => Fu_ hr113 u15)) z z pf92 z z z z (k1 ?_))
 refine TA.a 12 z (moveI (.inr z) z) z (TA.dn (S.n (TC.rt 0 ?_)))
 obtain rfl := so hh
 exact rq [4] ⟨z, z, z⟩
noncomputable def compareUs_b1 (x0 : List Nat) (x1 : List Nat) (k103 : Nat) : Option ((Nat) ⊕ (Int)) :=
 iteO (decide (((k103 : Nat) : Int) < ((x0.length : Nat) : Int))) (iteO (decide (((x1.length : Nat) : Int) ≤ ((k103 : Nat) : Int))) (fin (some 1)) (grd (k103 < x1.length) (bnd (compareU (nth x0 k103 (0 : Nat)) (nth x1 k103 (0 : Nat))) (fun v23 => iteO (decide (v23 ≠ 0)) (fin (some v23)) (nxt (k103 + 1)))))) (fin (iteO (decide (((x0.length : Nat) : Int) < ((x1.length : Nat) : Int))) (some (-1)) (some 0)))
noncomputable def compareUs (x0 : List Nat) (x1 : List Nat) : Option (Int) :=
 iter (fun q : Nat => compareUs_b1 x0 x1 q) 0
theorem compareUs_con {σ : Store} {x0 : List Nat} {a0_0 : Option Addr} {c0_0 : Nat} {x1 : List Nat} {a1_0 : Option Addr} {c1_0 : Nat} (f0_0 : RS σ 1 encW (.slice a0_0 x0.length c0_0) x0) (f1_0 : RS σ 1 encW (.slice a1_0 x1.length c1_0) x1) {r : Int} (hh : compareUs x0 x1 = some r) :
  Con Tryz.prog 97 #[.slice a0_0 x0.length c0_0, .slice a1_0 x1.length c1_0] σ [] (PureP (.int .i64 r) σ) := by
 dsimp only [compareUs] at hh
 have f0_0b := f0_0.rv.big
 have f1_0b := f1_0.rv.big
 refine Con.mk (n := 36) Tryz.func97 z z z (fun w0 => ?_)
 refine TC.a (TL.i z z (TL.en (TC.seq (TC.a (TL.s z z (TL.w z (lenC z underlying172 z) (TL.i z z (TL.en (TC.block (TC.loopG (α := (Nat) × (Unit)) (rgs [(4, 5), (11, 20)]) (fun g => [(11, .int .i64 ((g.1 : Nat) : Int))]) (fun g => []) (fun g => σ) (fun g => iter (fun q : Nat => compareUs_b1 x0 x1 q) g.1 = some r) (fun g => rounds (fun q : Nat => compareUs_b1 x0 x1 q) g.1) (0, ()) (Sub.pre 0 z) z (by repeat (first | exact trivial | refine ⟨z, ?_⟩)) hh (fun g1 j1 hg1 => ?_)))))))))))
 obtain ⟨k103, _⟩ := g1
 have hh := hg1; clear hg1
 try dsimp only
 obtain ⟨z1, hh, hR1⟩ := iter_e hh
 dsimp only [compareUs_b1] at hh
 refine TC.a (TL.w z (OpVal.lss z z z) (TL.en (TC.seq (TC.cD z hh (fun h104 hh => ?_) (fun h104 hh => ?_)))))
 ·refine TC.skip (S.n (TC.seq (TC.block (TC.a (TL.i z z (TL.w z (indexN z underlying172 sz53 z z f0_0.rv.sl (by omega)) (TL.w z (loadS1 (0 : Nat) z ag53 z f0_0 (by omega) z) (TL.i z z (TL.i z z (TL.en (TC.seq (TC.a (TL.i z z (TL.s z z (TL.w z (lenC z underlying172 z) (TL.w z (OpVal.geq z z z) (TL.en (TC.cD z hh (fun h105 hh => ?_) (fun h105 hh => ?_)))))))))))))))))))
  ·refine TC.a (TL.i z z (TL.en (TC.ret (S.r (B.r (S.r (S.r ?_)))))))
   replace hh := fin_x hR1 hh
   refine B.r (S.r ?_)
   obtain rfl := so hh
   exact rq [4] ⟨z, z, z⟩
  ·refine TC.skip (S.n (TC.a (TL.s z z (TL.i z z ?_))))
   have u18 := grd_c hh
   replace hh := grd_t hh
   refine TL.w z (indexN z underlying172 sz53 z z f1_0.rv.sl (by omega)) (TL.w z (loadS1 (0 : Nat) z ag53 z f1_0 (by omega) z) (TL.i z z (TL.en (TC.a (TL.i z z (TL.i z z ?_))))))
   obtain ⟨v23, u23, hh⟩ := bnd_e hh
   refine TL.op z (callP (compareU_con u23) z z pf111 z z z ?_)
   refine TL.i z z (TL.en (TC.a (TL.i z z (TL.w z (OpVal.neq z z z) (TL.en (TC.cD z hh (fun h106 hh => ?_) (fun h106 hh => ?_)))))))
   ·refine TC.a (TL.i z z (TL.i z z (TL.en (TC.ret (B.r (S.r (S.r ?_)))))))
    replace hh := fin_x hR1 hh
    refine B.r (S.r ?_)
    obtain rfl := so hh
    exact rq [4] ⟨z, z, z⟩
   ·refine TC.skip (B.n (S.n (TC.region (TL.w z (OpVal.succ z z z (by omega)) (TL.i z z (TL.en ?_))))))
    obtain ⟨hh, hlt107⟩ := nxt_x hR1 hh
    exact lf ((k103 + 1), ()) hlt107 hh (Sub.pre 0 z)
 ·refine TC.exit (S.x (S.x ?_))
  replace hh := fin_x hR1 hh
  refine TC.exitHere (S.n (TC.seq (TC.a (TL.s z z (TL.w z (lenC z underlying172 z) (TL.s z z (TL.w z (lenC z underlying172 z) (TL.w z (OpVal.lss z z z) (TL.en (TC.cD z hh (fun h108 hh => ?_) (fun h108 hh => ?_)))))))))))
  ·refine TC.a (TL.i z z (TL.en (TC.ret (S.r ?_))))
   obtain rfl := so hh
   exact rq [4] ⟨z, z, z⟩
  ·refine TC.skip (S.n (TC.a (TL.i z z (TL.en (TC.ret ?_)))))
   obtain rfl := so hh
   exact rq [4] ⟨z, z, z⟩
noncomputable def Cu_ (x0 : Arc) (x1 : Arc) : Option (Int) :=
 bnd (A8_ x0.frm x1.frm) (fun v8 => bnd (A8_ x0.to x1.to) (fun v13 => bnd (compareUs [x0.set.a, x0.set.b, x0.set.c, x0.set.d] [x1.set.a, x1.set.b, x1.set.c, x1.set.d]) (fun v18 => bnd (B1_ x0.out x1.out) (fun v23 => bnd (Dy_ x0.copy) (fun v26 => bnd (Dy_ x1.copy) (fun v29 => bnd (A8_ v26 v29) (fun v30 => bnd (E3_ [v8, v13, v18, v23, v30]) (fun v32 => some v32))))))))
theorem F6_ {σ : Store} {x0 : Arc} {x1 : Arc}  {r : Int} (hh : Cu_ x0 x1 = some r) :
  Con Tryz.prog 60 #[.agg #[.int .i64 x0.frm, .int .i64 x0.to, .int .u64 ((x0.set.a : Nat) : Int), .int .u64 ((x0.set.b : Nat) : Int), .int .u64 ((x0.set.c : Nat) : Int), .int .u64 ((x0.set.d : Nat) : Int), .string (bs x0.out), .bool x0.copy], .agg #[.int .i64 x1.frm, .int .i64 x1.to, .int .u64 ((x1.set.a : Nat) : Int), .int .u64 ((x1.set.b : Nat) : Int), .int .u64 ((x1.set.c : Nat) : Int), .int .u64 ((x1.set.d : Nat) : Int), .string (bs x1.out), .bool x1.copy]] σ [] (PureP (.int .i64 r) σ) := by
 dsimp only [Cu_] at hh
 refine Con.mk (n := 34) Tryz.func60 z z z (fun w0 => ?_)
 refine TC.a (TL.op z (boxA z z z z (fun b101 => ?_)))
 refine TL.op z (boxA z z z z (fun b103 => ?_))
 refine TL.i z z (TL.en (TC.seq ?_))
 obtain ⟨v8, u8, hh⟩ := bnd_e hh
 obtain ⟨v13, u13, hh⟩ := bnd_e hh
 obtain ⟨v18, u18, hh⟩ := bnd_e hh
 obtain ⟨v23, u23, hh⟩ := bnd_e hh
 obtain ⟨v26, u26, hh⟩ := bnd_e hh
 obtain ⟨v29, u29, hh⟩ := bnd_e hh
 obtain ⟨v30, u30, hh⟩ := bnd_e hh
 obtain ⟨v32, u32, hh⟩ := bnd_e hh
 refine TC.draw [] (by kernel_rfl) (TA.a 0 z (fieldLoc z fo66_0 z) z (TA.b 1 z (loadLoc z ag3 z (i := 1) z z) z (TA.a 2 z (fieldLoc z fo66_0 z) z (TA.b 3 z (loadLoc z ag3 z (i := 0) z z) z (TA.a 5 z (fieldLoc z fo66_1 z) z (TA.b 6 z (loadLoc z ag3 z (i := 1) z z) z (TA.a 7 z (fieldLoc z fo66_1 z) z (TA.b 8 z (loadLoc z ag3 z (i := 0) z z) z (TA.a 10 z (fieldLoc z fo66_2 z) z (TA.b 11 z (sliceArr z underlying55 sz53 z) z (TA.a 12 z (fieldLoc z fo66_2 z) z (TA.b 13 z (sliceArr z underlying55 sz53 z) z (TA.a 15 z (fieldLoc z fo66_3 z) z (TA.b 16 z (loadLoc z ag9 z (i := 1) z z) z (TA.a 17 z (fieldLoc z fo66_3 z) z (TA.b 18 z (loadLoc z ag9 z (i := 0) z z) z (TA.a 20 z (fieldLoc z fo66_4 z) z (TA.b 21 z (loadLoc z ag4 z (i := 1) z z) z (TA.a 23 z (fieldLoc z fo66_4 z) z (TA.b 24 z (loadLoc z ag4 z (i := 0) z z) z (TA.ac 4 z (callP (B3_ u8) z z pf93 z z z (k0 ?_)))))))))))))))))))))))
 refine TA.ac 9 z (callP (B3_ u13) z z pf93 z z z (k0 ?_))
 refine TA.front 1 z z (TA.ac 14 z (callK (Con.lendC (fun _ hle116 hr114 => Con.lendC (fun _ hle117 hr115 => compareUs_con (RS.ofCells (l := [x0.set.a, x0.set.b, x0.set.c, x0.set.d]) (hle117 _ _ hr114) encW_len encW_one z z z) (RS.ofCells (l := [x1.set.a, x1.set.b, x1.set.c, x1.set.d]) hr115 encW_len encW_one z z z) u18))) z z pf97 z z z z ⟨(fun w h => sees_of (Store.le.refl _) (fun r hr => mem_pick [1, 0] z hr) w h), ?_⟩))
 refine TA.ac 19 z (callP (Cr_ u23) z z pf32 z z z ⟨(fun w h => sees_of (Store.le.refl _) (fun r hr => mem_pick [1, 0] z hr) w h), ?_⟩)
 refine TA.ac 22 z (callP (Fq_ u26) z z pf98 z z z ⟨(fun w h => sees_of (Store.le.refl _) (fun r hr => mem_pick [1, 0] z hr) w h), ?_⟩)
 refine TA.ac 25 z (callP (Fq_ u29) z z pf98 z z z ⟨(fun w h => sees_of (Store.le.refl _) (fun r hr => mem_pick [1, 0] z hr) w h), ?_⟩)
 refine TA.ac 26 z (callP (B3_ u30) z z pf93 z z z ⟨(fun w h => sees_of (Store.le.refl _) (fun r hr => mem_pick [1, 0] z hr) w h), ?_⟩)
 refine TA.ac 27 z (OpOk.lit (enc := Go.E.encI) [v8, v13, v18, v23, v30] z underlying46 sz3 ze3 z z z Go.E.encI_len (by decide) (by decide) (0 : Int) z (by decide) z (by decide) Go.E.encI_one (fun a118 c119 => ⟨(fun w h => sees_of (Store.le.refl _) (fun r hr => mem_pick [2, 1] z hr) w h), ?_⟩))
 refine TA.ac 28 z (callK (Con.lend Go.E.encI_len (fun _ hle122 hr121 => Fu_ hr121 u32)) z z pf92 z z z z ⟨(fun w h => sees_of (Store.le.refl _) (fun r hr => mem_pick [2, 1] z hr) w h), ?_⟩)
 refine TA.a 29 z (moveI (.inr z) z) z (TA.dn (S.n (TC.rt 0 ?_)))
 obtain rfl := so hh
 exact rq [4] ⟨z, z, z⟩
end Go.Proofs.YtamgjehhjkgelaaGreatDoor
end

section
namespace Go.E
open Go
section
variable {S R : Type} {step : S → Option (S ⊕ R)}
theorem iter_any {y no : R} (f : Nat → S) (p : Nat → Bool) (n : Nat) (hs : ∀ k, k < n → p k = false → step (f k) = some (.inl (f (k + 1)))) (hy : ∀ k, k < n → p k = true → step (f k) = some (.inr y))
    (hd : step (f n) = some (.inr no)) : ∀ k, k ≤ n → iter step (f k) = some (bif (List.range n).any (fun i => decide (k ≤ i) && p i) then y else no) := by
  intro k hk
  obtain ⟨m, rfl⟩ : ∃ m, k = n - m := ⟨n - k, by omega⟩
  induction m with
  | zero =>
    have : (List.range n).any (fun i => decide (n - 0 ≤ i) && p i) = false := by
      rw [List.any_eq_false]; intro i hi; have := List.mem_range.1 hi; simp; omega
    rw [this]; exact iter_done hd
  | succ m ih =>
    by_cases h : m < n
    · have e : n - (m + 1) + 1 = n - m := by omega
      cases hp : p (n - (m + 1)) with
      | true =>
        have : (List.range n).any (fun i => decide (n - (m + 1) ≤ i) && p i) = true := by
          rw [List.any_eq_true]; exact ⟨n - (m + 1), List.mem_range.2 (by omega), by simp [hp]⟩
        rw [this]; exact iter_done (hy _ (by omega) hp)
      | false =>
        have h1 := hs (n - (m + 1)) (by omega) hp
        rw [e] at h1
        have : (List.range n).any (fun i => decide (n - (m + 1) ≤ i) && p i) = (List.range n).any (fun i => decide (n - m ≤ i) && p i) := by
          rw [Bool.eq_iff_iff, List.any_eq_true, List.any_eq_true]
          constructor
          · rintro ⟨i, hi, hx⟩
            simp only [Bool.and_eq_true, decide_eq_true_eq] at hx
            refine ⟨i, hi, ?_⟩
            have : i ≠ n - (m + 1) := fun h => by rw [h, hp] at hx; exact absurd hx.2 Bool.false_ne_true
            simp [hx.2]; omega
          · rintro ⟨i, hi, hx⟩
            simp only [Bool.and_eq_true, decide_eq_true_eq] at hx
            exact ⟨i, hi, by simp [hx.2]; omega⟩
        rw [this]
        exact iter_next h1 (ih (by omega))
    · have e : n - (m + 1) = n - m := by omega
      rw [e]; exact ih (by omega)
theorem iter_any0 {y no : R} (f : Nat → S) (p : Nat → Bool) (n : Nat) (hs : ∀ k, k < n → p k = false → step (f k) = some (.inl (f (k + 1)))) (hy : ∀ k, k < n → p k = true → step (f k) = some (.inr y))
    (hd : step (f n) = some (.inr no)) : iter step (f 0) = some (bif (List.range n).any p then y else no) := by
  have := iter_any f p n hs hy hd 0 (by omega)
  simpa using this
theorem iter_seq0 {r : R} (f : Nat → S) (n : Nat) (hs : ∀ k, k < n → step (f k) = some (.inl (f (k + 1)))) (hd : step (f n) = some (.inr r)) : iter step (f 0) = some r := iter_seq f n hs hd 0 (by omega)
end
theorem range_any {α : Type} (l : List α) (d : α) (p : α → Bool) : (List.range l.length).any (fun i => p (nth l i d)) = l.any p := by
  rw [Bool.eq_iff_iff, List.any_eq_true, List.any_eq_true]
  constructor
  · rintro ⟨i, hi, h⟩
    have hi := List.mem_range.1 hi
    exact ⟨nth l i d, List.mem_of_getElem? (getD_some l hi d), h⟩
  · rintro ⟨x, hx, h⟩
    obtain ⟨i, hi, rfl⟩ := List.getElem_of_mem hx
    refine ⟨i, List.mem_range.2 hi, ?_⟩
    have : nth l i d = l[i] := by have := getD_some l hi d; rw [List.getElem?_eq_getElem hi] at this; exact (Option.some.inj this).symm
    rw [this]; exact h
theorem take_snoc {α : Type} (l : List α) {k : Nat} (h : k < l.length) (d : α) : l.take (k + 1) = l.take k ++ [nth l k d] := by
  rw [List.take_add_one, getD_some l h d]; rfl
theorem nth_mem' {α : Type} {l : List α} {i : Nat} (h : i < l.length) (d : α) : nth l i d ∈ l := List.mem_of_getElem? (getD_some l h d)
end Go.E
end

section
namespace Go.Proofs.YtamgjehhjkgelaaGreatDoor
open Go Go.E Go.Sort
structure GoodCmp {α : Type} (c : α → α → Int) : Prop where
  eq : ∀ x y, c x y = 0 ↔ x = y
  anti : ∀ x y, c x y < 0 ↔ 0 < c y x
  trans : ∀ x y z, c x y < 0 → c y z < 0 → c x z < 0
theorem GoodCmp.total {α : Type} {c : α → α → Int} (h : GoodCmp c) : TotalCmp c where
  swo := {
    irrefl := fun x => by have := (h.eq x x).2 rfl; simp [ltOf, this]
    trans := fun x y z h1 h2 => by
      simp only [ltOf, decide_eq_true_eq] at *
      exact h.trans x y z h1 h2
    ntrans := fun x y z h1 h2 => by
      simp only [ltOf, decide_eq_false_iff_not] at *
      intro h3
      by_cases e1 : x = y
      · subst e1; exact h2 h3
      · by_cases e2 : y = z
        · subst e2; exact h1 h3
        · have n1 : c x y ≠ 0 := fun e => e1 ((h.eq _ _).1 e)
          have n2 : c y z ≠ 0 := fun e => e2 ((h.eq _ _).1 e)
          have h4 : c z y < 0 := (h.anti _ _).2 (by omega)
          exact h1 (h.trans _ _ _ h3 h4) }
  tot := fun x y h1 h2 => by
    simp only [ltOf, decide_eq_false_iff_not] at *
    refine (h.eq x y).1 ?_
    have := (h.anti y x)
    omega
def corI (a b : Int) : Int := if a ≠ 0 then a else b
theorem GoodCmp.lex {α β γ : Type} {c : β → β → Int} {d : γ → γ → Int} (hc : GoodCmp c) (hd : GoodCmp d) (f : α → β) (g : α → γ) (hfg : ∀ x y, f x = f y → g x = g y → x = y) : GoodCmp fun x y => corI (c (f x) (f y)) (d (g x) (g y)) where
  eq x y := by
    unfold corI
    by_cases h : c (f x) (f y) = 0
    · have hf := (hc.eq _ _).1 h
      simp only [h, ne_eq, not_true_eq_false, if_false, hd.eq]
      exact ⟨fun hg => hfg x y hf hg, fun e => by rw [e]⟩
    · simp only [ne_eq, h, not_false_eq_true, if_true, false_iff]
      intro e; subst e; exact h ((hc.eq _ _).2 rfl)
  anti x y := by
    unfold corI
    have h1 := hc.anti (f x) (f y)
    have h2 := hc.anti (f y) (f x)
    have h3 := hd.anti (g x) (g y)
    by_cases h : c (f x) (f y) = 0
    · have hf := (hc.eq _ _).1 h
      have h' : c (f y) (f x) = 0 := (hc.eq _ _).2 hf.symm
      simp only [h, h', ne_eq, not_true_eq_false, if_false]; exact h3
    · have h' : c (f y) (f x) ≠ 0 := fun e => h ((hc.eq _ _).2 ((hc.eq _ _).1 e).symm)
      simp only [h, h', ne_eq, not_false_eq_true, if_true]; exact h1
  trans x y z := by
    unfold corI
    intro h1 h2
    by_cases a : c (f x) (f y) = 0
    · have ea := (hc.eq _ _).1 a
      rw [a] at h1; simp only [ne_eq, not_true_eq_false, if_false] at h1
      rw [ea]
      by_cases b : c (f y) (f z) = 0
      · rw [b] at h2 ⊢
        simp only [ne_eq, not_true_eq_false, if_false] at h2 ⊢
        exact hd.trans _ _ _ h1 h2
      · simp only [ne_eq, b, not_false_eq_true, if_true] at h2 ⊢; exact h2
    · simp only [ne_eq, a, not_false_eq_true, if_true] at h1
      by_cases b : c (f y) (f z) = 0
      · have eb := (hc.eq _ _).1 b
        rw [← eb]
        simp only [ne_eq, a, not_false_eq_true, if_true]; exact h1
      · simp only [ne_eq, b, not_false_eq_true, if_true] at h2
        have h3 := hc.trans _ _ _ h1 h2
        have h4 : c (f x) (f z) ≠ 0 := by omega
        simp only [ne_eq, h4, not_false_eq_true, if_true]; exact h3
def cmpI (x y : Int) : Int := if x < y then -1 else if y < x then 1 else 0
theorem cmpI_good : GoodCmp cmpI where
  eq x y := by unfold cmpI; (repeat' split) <;> omega
  anti x y := by unfold cmpI; (repeat' split) <;> omega
  trans x y z := by unfold cmpI; (repeat' split) <;> omega
def cmpN (x y : Nat) : Int := if x < y then -1 else if y < x then 1 else 0
theorem cmpN_good : GoodCmp cmpN where
  eq x y := by unfold cmpN; (repeat' split) <;> omega
  anti x y := by unfold cmpN; (repeat' split) <;> omega
  trans x y z := by unfold cmpN; (repeat' split) <;> omega
theorem cmpB_eq : ∀ a b : List UInt8, Lib.compareBytes a b = 0 ↔ a = b
  | [], [] => by simp [Lib.compareBytes]
  | [], _ :: _ => by simp [Lib.compareBytes]
  | _ :: _, [] => by simp [Lib.compareBytes]
  | x :: a, y :: b => by
    simp only [Lib.compareBytes]
    split
    · rename_i h; simp; intro e; subst e; exact absurd h (UInt8.lt_irrefl _)
    · rename_i h
      split
      · rename_i h'; simp; intro e; subst e; exact absurd h' (UInt8.lt_irrefl _)
      · rename_i h'
        have : x = y := UInt8.le_antisymm (UInt8.not_lt.1 h') (UInt8.not_lt.1 h)
        subst this
        simp [cmpB_eq a b]
theorem cmpB_anti : ∀ a b : List UInt8, Lib.compareBytes a b < 0 ↔ 0 < Lib.compareBytes b a
  | [], [] => by simp [Lib.compareBytes]
  | [], _ :: _ => by simp [Lib.compareBytes]
  | _ :: _, [] => by simp [Lib.compareBytes]
  | x :: a, y :: b => by
    simp only [Lib.compareBytes]
    by_cases h : x < y
    · have h' : ¬ y < x := fun h2 => UInt8.lt_irrefl _ (UInt8.lt_trans h h2)
      simp [h, h']
    · by_cases h' : y < x
      · simp [h, h']
      · simp [h, h', cmpB_anti a b]
theorem cmpB_trans : ∀ a b c : List UInt8, Lib.compareBytes a b < 0 → Lib.compareBytes b c < 0 → Lib.compareBytes a c < 0
  | [], [], c, h, _ => by simp [Lib.compareBytes] at h
  | [], _ :: _, [], _, h => by simp [Lib.compareBytes] at h
  | [], _ :: _, _ :: _, _, _ => by simp [Lib.compareBytes]
  | _ :: _, [], c, h, _ => by simp [Lib.compareBytes] at h
  | _ :: _, _ :: _, [], _, h => by simp [Lib.compareBytes] at h
  | x :: a, y :: b, z :: c, h1, h2 => by
    simp only [Lib.compareBytes] at *
    by_cases hxy : x < y
    · by_cases hyz : y < z
      · have := UInt8.lt_trans hxy hyz; simp [this]
      · by_cases hzy : z < y
        · simp [hyz, hzy] at h2
        · have : y = z := UInt8.le_antisymm (UInt8.not_lt.1 hzy) (UInt8.not_lt.1 hyz)
          subst this; simp [hxy]
    · by_cases hyx : y < x
      · simp [hxy, hyx] at h1
      · have : x = y := UInt8.le_antisymm (UInt8.not_lt.1 hyx) (UInt8.not_lt.1 hxy)
        subst this
        simp only [UInt8.lt_irrefl, if_false] at h1
        by_cases hyz : x < z
        · simp [hyz]
        · by_cases hzy : z < x
          · simp [hyz, hzy] at h2
          · simp only [hyz, hzy, if_false] at h2 ⊢
            exact cmpB_trans a b c h1 h2
theorem cmpB_good : GoodCmp Lib.compareBytes := ⟨cmpB_eq, cmpB_anti, cmpB_trans⟩
def cmpBool (x y : Bool) : Int := cmpI (if x then 1 else 0) (if y then 1 else 0)
theorem cmpBool_good : GoodCmp cmpBool where
  eq x y := by cases x <;> cases y <;> decide
  anti x y := by cases x <;> cases y <;> decide
  trans x y z := by cases x <;> cases y <;> cases z <;> decide
theorem lt_dec {k n : Nat} (h : k < n) : decide (((k : Nat) : Int) < ((n : Nat) : Int)) = true := decide_eq_true (by omega)
theorem cmpI_lt {x y : Int} : cmpI x y < 0 ↔ x < y := by unfold cmpI; (repeat' split) <;> omega
end Go.Proofs.YtamgjehhjkgelaaGreatDoor
end

section
namespace Go.Proofs.YtamgjehhjkgelaaGreatDoor
open Go Go.E Go.Sort
theorem B5_ (x y : Int) : A8_ x y = some (cmpI x y) := by
  unfold A8_ Ee_ cmpI
  simp only [bnd, Option.bind_some, ne_eq, not_true_eq_false, decide_false, iteO_false]
  by_cases h : x < y
  · simp [h]
  · by_cases h' : y < x <;> simp [h, h']
theorem compareU_eq (x y : Nat) : compareU x y = some (cmpN x y) := by
  unfold compareU isNaNU cmpN
  simp only [bnd, Option.bind_some, ne_eq, not_true_eq_false, decide_false, iteO_false]
  by_cases h : x < y
  · simp [h]
  · by_cases h' : y < x <;> simp [h, h']
theorem C0_ (x y : List UInt8) : B1_ x y = some (Lib.compareBytes x y) := rfl
def orL : List Int → Int
  | [] => 0
  | a :: l => corI a (orL l)
theorem G7_ (l : List Int) : ∀ m k, l.length = k + m → iter (fun q : Nat => B9_ l q) k = some (orL (l.drop k)) := by
  intro m
  induction m with
  | zero =>
    intro k hk
    refine iter_done ?_
    rw [List.drop_of_length_le (by omega)]
    simp only [B9_, decide_eq_false (show ¬ ((k : Nat) : Int) < ((l.length : Nat) : Int) by omega), iteO_false]; rfl
  | succ m ih =>
    intro k hk
    have hlt : k < l.length := by omega
    have hd : l.drop k = nth l k 0 :: l.drop (k + 1) := by
      rw [List.drop_eq_getElem_cons hlt]
      have := getD_some l hlt 0
      rw [List.getElem?_eq_getElem hlt, Option.some.injEq] at this
      rw [this]
    rw [hd, orL, corI]
    by_cases h : nth l k 0 ≠ 0
    · rw [if_pos h]
      refine iter_done ?_
      simp only [B9_, decide_eq_true (show ((k : Nat) : Int) < ((l.length : Nat) : Int) by omega), iteO_true, decide_eq_true h]; rfl
    · rw [if_neg h]
      refine iter_next (s' := k + 1) ?_ (ih (k + 1) (by omega))
      simp only [B9_, decide_eq_true (show ((k : Nat) : Int) < ((l.length : Nat) : Int) by omega), iteO_true, decide_eq_false h]; rfl
theorem F7_ (l : List Int) : E3_ l = some (orL l) := by
  unfold E3_; rw [G7_ l l.length 0 (by omega), List.drop_zero]
def cmpTip (x y : Tip) : Int := corI (cmpI x.state y.state) (corI (Lib.compareBytes x.out y.out) 0)
theorem compareTips_eq (x y : Tip) : Cs_ x y = some (cmpTip x y) := by
  unfold Cs_
  rw [bnd_some (B5_ _ _), bnd_some (C0_ _ _), bnd_some (F7_ _)]; rfl
theorem corI_zero (a : Int) : corI a 0 = a := by unfold corI; split <;> omega
theorem cmpTip_good : GoodCmp cmpTip := by
  have := GoodCmp.lex cmpI_good cmpB_good Tip.state Tip.out (fun x y h1 h2 => by cases x; cases y; simp_all)
  have e : cmpTip = fun x y => corI (cmpI x.state y.state) (Lib.compareBytes x.out y.out) := by
    funext x y; unfold cmpTip; rw [corI_zero]
  rw [e]; exact this
def cmpSet (s t : BSet) : Int := corI (cmpN s.a t.a) (corI (cmpN s.b t.b) (corI (cmpN s.c t.c) (cmpN s.d t.d)))
theorem compareUs_four (a b c d a' b' c' d' : Nat) : compareUs [a, b, c, d] [a', b', c', d'] = some (corI (cmpN a a') (corI (cmpN b b') (corI (cmpN c c') (cmpN d d')))) := by
  have st : ∀ (k x y : Nat), k < 4 → nth [a, b, c, d] k 0 = x → nth [a', b', c', d'] k 0 = y → (cmpN x y ≠ 0 → iter (fun q : Nat => compareUs_b1 [a, b, c, d] [a', b', c', d'] q) k = some (cmpN x y)) ∧ (∀ r, cmpN x y = 0 → iter (fun q : Nat => compareUs_b1 [a, b, c, d] [a', b', c', d'] q) (k + 1) = some r → iter (fun q : Nat => compareUs_b1 [a, b, c, d] [a', b', c', d'] q) k = some r) := by
    intro k x y hk hx hy
    have e1 : ((k : Nat) : Int) < (([a, b, c, d].length : Nat) : Int) := by simp; omega
    have e2 : ¬ (([a', b', c', d'].length : Nat) : Int) ≤ ((k : Nat) : Int) := by simp; omega
    refine ⟨fun h => iter_done ?_, fun r h hr => iter_next (s' := k + 1) ?_ hr⟩
    · simp only [compareUs_b1, decide_eq_true e1, iteO_true, decide_eq_false e2, iteO_false]
      rw [grd_mk (by simp; omega), hx, hy, bnd_some (compareU_eq _ _), decide_eq_true h]; rfl
    · simp only [compareUs_b1, decide_eq_true e1, iteO_true, decide_eq_false e2, iteO_false]
      rw [grd_mk (by simp; omega), hx, hy, bnd_some (compareU_eq _ _), h]; rfl
  have fi : iter (fun q : Nat => compareUs_b1 [a, b, c, d] [a', b', c', d'] q) 4 = some 0 := iter_done (by simp [compareUs_b1])
  have go : ∀ (k x y : Nat) (r : Int), k < 4 → nth [a, b, c, d] k 0 = x → nth [a', b', c', d'] k 0 = y → iter (fun q : Nat => compareUs_b1 [a, b, c, d] [a', b', c', d'] q) (k + 1) = some r → iter (fun q : Nat => compareUs_b1 [a, b, c, d] [a', b', c', d'] q) k = some (corI (cmpN x y) r) := by
    intro k x y r hk hx hy hr
    obtain ⟨h1, h2⟩ := st k x y hk hx hy
    by_cases h : cmpN x y = 0
    · rw [show corI (cmpN x y) r = r from by simp [corI, h]]; exact h2 r h hr
    · rw [show corI (cmpN x y) r = cmpN x y from by simp [corI, h]]; exact h1 h
  have h3 := go 3 d d' 0 (by omega) rfl rfl fi
  rw [corI_zero] at h3
  exact go 0 a a' _ (by omega) rfl rfl (go 1 b b' _ (by omega) rfl rfl (go 2 c c' _ (by omega) rfl rfl h3))
theorem cmpSet_good : GoodCmp cmpSet := by
  have h1 := GoodCmp.lex (α := Nat × Nat) cmpN_good cmpN_good Prod.fst Prod.snd (fun x y h1 h2 => Prod.ext h1 h2)
  have h2 := GoodCmp.lex (α := Nat × Nat × Nat) cmpN_good h1 Prod.fst Prod.snd (fun x y h1 h2 => Prod.ext h1 h2)
  have h3 := GoodCmp.lex (α := BSet) cmpN_good h2 BSet.a (fun s => (s.b, s.c, s.d)) (fun x y h1 h2 => by
    cases x; cases y; simp_all)
  exact h3
def cmpArc (x y : Arc) : Int := corI (cmpI x.frm y.frm) (corI (cmpI x.to y.to) (corI (cmpSet x.set y.set) (corI (Lib.compareBytes x.out y.out) (corI (cmpBool x.copy y.copy) 0))))
theorem F3_ (b : Bool) : Dy_ b = some (if b then 1 else 0) := by cases b <;> rfl
theorem compareArcs_eq (x y : Arc) : Cu_ x y = some (cmpArc x y) := by
  unfold Cu_
  rw [bnd_some (B5_ _ _), bnd_some (B5_ _ _), bnd_some (compareUs_four ..), bnd_some (C0_ _ _), bnd_some (F3_ _), bnd_some (F3_ _), bnd_some (B5_ _ _), bnd_some (F7_ _)]; rfl
theorem cmpArc_good : GoodCmp cmpArc := by
  have h1 := GoodCmp.lex (α := List UInt8 × Bool) cmpB_good cmpBool_good Prod.fst Prod.snd (fun x y h1 h2 => Prod.ext h1 h2)
  have h2 := GoodCmp.lex (α := BSet × List UInt8 × Bool) cmpSet_good h1 Prod.fst Prod.snd (fun x y h1 h2 => Prod.ext h1 h2)
  have h3 := GoodCmp.lex (α := Int × BSet × List UInt8 × Bool) cmpI_good h2 Prod.fst Prod.snd (fun x y h1 h2 => Prod.ext h1 h2)
  have h4 := GoodCmp.lex (α := Arc) cmpI_good h3 Arc.frm (fun s => (s.to, s.set, s.out, s.copy)) (fun x y h1 h2 => by
    cases x; cases y; simp_all)
  have e : cmpArc = fun x y => corI (cmpI x.frm y.frm) (corI (cmpI x.to y.to) (corI (cmpSet x.set y.set) (corI (Lib.compareBytes x.out y.out) (cmpBool x.copy y.copy)))) := by
    funext x y; unfold cmpArc; rw [corI_zero]
  rw [e]; exact h4
end Go.Proofs.YtamgjehhjkgelaaGreatDoor
end

section
namespace Go.Proofs.YtamgjehhjkgelaaGreatDoor
open Go Go.E
instance : Inhabited Tip := ⟨Tip.zero⟩
instance : Inhabited Arc := ⟨Arc.zero⟩
theorem Hm_ {σ : Store} {a : Option Addr} {c : Nat} {l : List (List UInt8)} : Con Tryz.prog 64 #[.slice a l.length c, .func (.func 32) #[] #[]] σ [Res.rowS 9 1 Go.E.encS (.slice a l.length c) l] (SortP 9 1 Go.E.encS a c l (sortL Lib.compareBytes l) σ) :=
  Con.sort1 (enc := keyS) layS layS0 rfl (fun _ => rfl) (fun _ => rfl) cmpB_good.total (fun args w => run_callFunc (by kernel_rfl) args w) (fun x y τ => Cr_ (C0_ x y))
theorem Hi_ {σ : Store} {a : Option Addr} {c : Nat} {l : List Tip} : Con Tryz.prog 68 #[.slice a l.length c, .func (.func 58) #[] #[]] σ [Res.rowS 43 2 encTip (.slice a l.length c) l] (SortP 43 2 encTip a c l (sortL cmpTip l) σ) :=
  Con.sortK (k := 2) layT0 rfl Tryz.isAgg43 Tryz.sizeOf43 encTip_len encTip_one cmpTip_good.total (fun args w => run_callFunc (by kernel_rfl) args w) (fun x y τ => F5_ (compareTips_eq x y))
theorem Hl_ {σ : Store} {a : Option Addr} {c : Nat} {l : List Arc} : Con Tryz.prog 95 #[.slice a l.length c, .func (.func 60) #[] #[]] σ [Res.rowS 66 8 encArc (.slice a l.length c) l] (SortP 66 8 encArc a c l (sortL cmpArc l) σ) :=
  Con.sortK (k := 8) layA0 rfl Tryz.isAgg66 Tryz.sizeOf66 encArc_len encArc_one cmpArc_good.total (fun args w => run_callFunc (by kernel_rfl) args w) (fun x y τ => F6_ (compareArcs_eq x y))
end Go.Proofs.YtamgjehhjkgelaaGreatDoor
end

section
namespace Go.Proofs.YtamgjehhjkgelaaGreatDoor
open Go Go.E Go.E.OpVal Go.E.OpOk Go.Proofs.Tryz
private theorem ag31 : Go.E.aggOf Tryz.prog 31 = some false := by kernel_rfl
private theorem by23 : Go.E.byOf Tryz.prog 23 = some 24 := by kernel_rfl
private theorem by31 : Go.E.byOf Tryz.prog 31 = some 24 := by kernel_rfl
private theorem by9 : Go.E.byOf Tryz.prog 9 = some 16 := by kernel_rfl
private theorem eg43 : Tryz.prog.eqGuardType Tryz.prog.depth 43 = false := by kernel_rfl
private theorem eg66 : Tryz.prog.eqGuardType Tryz.prog.depth 66 = false := by kernel_rfl
private theorem es43 (x y : Tip) : Go.E.EqAt Tryz.prog 2 43 (.agg (Go.E.encTip x).toArray) (.agg (Go.E.encTip y).toArray) (decide (x = y)) :=
 (EqAt.struct (ts := [(false, 3, 0), (false, 9, 1)]) (by kernel_rfl) (by kernel_rfl) (by kernel_rfl) (EqC.one (by kernel_rfl) rfl rfl (EqAt.int underlying3 x.state y.state) (EqC.one (by kernel_rfl) rfl rfl (EqAt.str underlying9 x.out y.out) EqC.nil))).of (by rw [Bool.eq_iff_iff]; cases x; cases y; simp)
private theorem es66 (x y : Arc) : Go.E.EqAt Tryz.prog 3 66 (.agg (Go.E.encArc x).toArray) (.agg (Go.E.encArc y).toArray) (decide (x = y)) :=
 (EqAt.struct (ts := [(false, 3, 0), (false, 3, 1), (false, 55, 2), (false, 9, 6), (false, 4, 7)]) (by kernel_rfl) (by kernel_rfl) (by kernel_rfl) (EqC.one (by kernel_rfl) rfl rfl (EqAt.int underlying3 x.frm y.frm |>.up (by decide)) (EqC.one (by kernel_rfl) rfl rfl (EqAt.int underlying3 x.to y.to |>.up (by decide)) (EqC.agg (s := 4) (us := Go.E.setA x.set) (vs := Go.E.setA y.set) (by kernel_rfl) (by kernel_rfl) rfl rfl (EqAt.set underlying55 underlying53 (by kernel_rfl) (by kernel_rfl) x.set y.set) (EqC.one (by kernel_rfl) rfl rfl (EqAt.str underlying9 x.out y.out |>.up (by decide)) (EqC.one (by kernel_rfl) rfl rfl (EqAt.bool underlying4 x.copy y.copy |>.up (by decide)) EqC.nil)))))).of (by rw [Bool.eq_iff_iff]; cases x; cases y; simp)
private theorem pf21 : Go.E.plainF Tryz.prog 21 = true := by kernel_rfl
private theorem pf30 : Go.E.plainF Tryz.prog 30 = true := by kernel_rfl
private theorem pf31 : Go.E.plainF Tryz.prog 31 = true := by kernel_rfl
private theorem pf57 : Go.E.plainF Tryz.prog 57 = true := by kernel_rfl
private theorem pf59 : Go.E.plainF Tryz.prog 59 = true := by kernel_rfl
private theorem pf63 : Go.E.plainF Tryz.prog 63 = true := by kernel_rfl
private theorem pf64 : Go.E.plainF Tryz.prog 64 = true := by kernel_rfl
private theorem pf65 : Go.E.plainF Tryz.prog 65 = true := by kernel_rfl
private theorem pf68 : Go.E.plainF Tryz.prog 68 = true := by kernel_rfl
private theorem pf90 : Go.E.plainF Tryz.prog 90 = true := by kernel_rfl
private theorem pf91 : Go.E.plainF Tryz.prog 91 = true := by kernel_rfl
private theorem pf94 : Go.E.plainF Tryz.prog 94 = true := by kernel_rfl
private theorem pf95 : Go.E.plainF Tryz.prog 95 = true := by kernel_rfl
private theorem pf96 : Go.E.plainF Tryz.prog 96 = true := by kernel_rfl
private theorem sz31 : Go.E.szOf Tryz.prog 31 = some 1 := by kernel_rfl
private theorem sz9 : Go.E.szOf Tryz.prog 9 = some 1 := by kernel_rfl
private theorem ze23 : Go.E.zeroOf Tryz.prog 23 = some (.slice none 0 0) := by kernel_rfl
private theorem ze31 : Go.E.zeroOf Tryz.prog 31 = some (.slice none 0 0) := by kernel_rfl
private theorem ze9 : Go.E.zeroOf Tryz.prog 9 = some (.string ByteArray.empty) := by kernel_rfl
theorem Ha_ {σ : Store} {a : Option Addr} {c : Nat} {l : List (List UInt8)} (hl : RS σ 1 Go.E.encS (.slice a l.length c) l) (hsz : l.length * 16 ≤ 140737488355328) :
  Con Tryz.prog 63 #[.slice a l.length c] σ [] (RowP 9 1 Go.E.encS l σ) := by
 have hb := hl.rv.big
 refine Con.mk (n := 8) Tryz.func63 z z z (fun w0 => ?_)
 refine TC.a (TL.s z z (TL.nilS 9 1 Go.E.encS (TL.en (TC.seq (TC.a (TL.s z z (TL.w z (eqlNilSl z underlying31 z z) (TL.en (TC.cond z (fun h2 => ?_) (fun h2 => ?_))))))))))
 ·refine TC.a (TL.s z z (TL.nilS 9 1 Go.E.encS (TL.en (TC.ret (S.r ?_)))))
  cases a with
  | some _ => simp at h2
  | none =>
   obtain rfl := hl.none_nil
   exact ret1R z z
 ·refine TC.skip (S.n (TC.a (TL.op z (lit0 (enc := Go.E.encS) z z underlying31 sz9 z z (fun a4 c5 => ?_)))))
  refine TL.s z z (TL.op z (appendS z z underlying31 sz9 by9 ze9 z z (by decide) z z z (.inl hl) (by simpa using hsz) (by decide) (fun a7 c8 => ?_)))
  exact TL.s z z (TL.en (TC.ret (ret1R z z)))
noncomputable def Ea_ (k125 : Nat) (l128 : List (List UInt8)) (k130 : Nat) : Option (((List (List UInt8)) × Nat × Nat) ⊕ ((Nat) ⊕ ((List (List UInt8))))) :=
 nxt (l128, k130, (k125 + 1))
noncomputable def Eb_ (x0 : List (List UInt8)) (k105 : Nat) (l122 : List (List UInt8)) (k124 : Nat) (k125 : Nat) : Option (((List (List UInt8)) × Nat × Nat) ⊕ ((Nat) ⊕ ((List (List UInt8))))) :=
 iteO (decide (((k125 : Nat) : Int) < (((x0.length - k105) : Nat) : Int))) (grd (k125 < (x0.length - k105)) (grd (0 ≤ (IntKind.i64.wrap (((k125 : Nat) : Int) - 1)) ∧ (IntKind.i64.wrap (((k125 : Nat) : Int) - 1)) < ((x0.length - k105) : Nat)) (iteO (decide ((nth l122 (k105 + k125) ([] : List UInt8)) ≠ (nth l122 (k105 + (IntKind.i64.wrap (((k125 : Nat) : Int) - 1)).toNat) ([] : List UInt8)))) (grd (k125 < (x0.length - k105)) (grd (k124 < l122.length) (Ea_ k125 (l122.set k124 (nth l122 (k105 + k125) ([] : List UInt8))) (k124 + 1)))) (Ea_ k125 l122 k124)))) (fin (grd (k124 ≤ x0.length) (grd (k124 ≤ (l122.take k124 ++ List.replicate (l122.length - k124) ([] : List UInt8)).length) (fin (some ((l122.take k124 ++ List.replicate (l122.length - k124) ([] : List UInt8)).take k124))))))
noncomputable def D9_ (x0 : List (List UInt8)) (k105 : Nat) : Option ((Nat) ⊕ ((List (List UInt8)))) :=
 iteO (decide (((k105 : Nat) : Int) < ((x0.length : Nat) : Int))) (grd (0 ≤ (IntKind.i64.wrap (((k105 : Nat) : Int) - 1)) ∧ (IntKind.i64.wrap (((k105 : Nat) : Int) - 1)) < (x0.length : Int)) (iteO (decide ((nth x0 k105 ([] : List UInt8)) = (nth x0 ((IntKind.i64.wrap (((k105 : Nat) : Int) - 1)).toNat) ([] : List UInt8)))) (grd (k105 ≤ x0.length) (iter (fun q : (List (List UInt8)) × Nat × Nat => Eb_ x0 k105 q.1 q.2.1 q.2.2) (x0, k105, 1))) (nxt (k105 + 1)))) (fin (some x0))
noncomputable def compactS (x0 : List (List UInt8)) : Option ((List (List UInt8))) :=
 iteO (decide (((x0.length : Nat) : Int) < 2)) (some x0) (iter (fun q : Nat => D9_ x0 q) 1)
theorem Gs_ {σ : Store} {x0 : List (List UInt8)} {a0_1 : Option Addr} {c0_2 : Nat}  {r : (List (List UInt8))} (hh : compactS x0 = some r) :
  Con Tryz.prog 65 #[.slice a0_1 x0.length c0_2] σ [Res.rowS 9 1 Go.E.encS (.slice a0_1 x0.length c0_2) x0] (fun v σ' H' => ∃ (a1 : Option Addr), ∃ (c1 : Nat), v = .slice a1 r.length c1 ∧ σ = σ' ∧ H' = [Res.rowS 9 1 Go.E.encS (.slice a1 r.length c1) r]) := by
 dsimp only [compactS] at hh
 refine Con.mk (n := 61) Tryz.func65 z z z (fun w0 => ?_)
 refine TC.a (TL.s z z (TL.en (TC.seq (TC.a (TL.s z z (TL.w z (lenC z underlying31 z) (TL.w z (OpVal.lss z z z) (TL.en (TC.cD z hh (fun h102 hh => ?_) (fun h102 hh => ?_))))))))))
 ·refine TC.a (TL.s z z (TL.s z z (TL.en (TC.ret (S.r ?_)))))
  obtain rfl := so hh
  exact ro [Res.rowS 9 1 Go.E.encS (.slice a0_1 x0.length c0_2) x0] z (RVs.tmp z RVs.nil) ⟨a0_1, c0_2, z, z, z⟩
 ·refine TC.skip (S.n (TC.seq (TC.a (TL.i z z (TL.en (TC.block (TC.loopG (α := (Nat) × (Unit)) (rgs [(2, 4), (10, 50)]) (fun g => [(3, .int .i64 ((g.1 : Nat) : Int))]) (fun g => [Res.rowS 9 1 Go.E.encS (.slice a0_1 x0.length c0_2) x0]) (fun g => σ) (fun g => iter (fun q : Nat => D9_ x0 q) g.1 = some r) (fun g => rounds (fun q : Nat => D9_ x0 q) g.1) (1, ()) (Sub.pre 1 z) z (by repeat (first | exact trivial | refine ⟨z, ?_⟩)) hh (fun g1 j1 hg1 => ?_))))))))
  obtain ⟨k105, _⟩ := g1
  have hh := hg1; clear hg1
  try dsimp only
  obtain ⟨z1, hh, hR1⟩ := iter_e hh
  dsimp only [D9_] at hh
  refine TC.isSl (i := 0) z (fun _ hb106 _ => ?_)
  refine TC.seq (TC.a (TL.i z z (TL.s z z (TL.w z (lenC z underlying31 z) (TL.w z (OpVal.lss z z z) (TL.en (TC.cD z hh (fun h107 hh => ?_) (fun h107 hh => ?_))))))))
  ·refine TC.skip (S.n (TC.seq (TC.block (TC.seq ?_))))
   have u19 := grd_c hh
   replace hh := grd_t hh
   refine TC.draw [] (by kernel_rfl) (TA.a 0 z (moveSl (.inl z) z) z (TA.a 1 z (moveI (.inl z) z) z (TA.isSl (i := 0) z (fun hs110 _ _ => ?_))))
   refine TA.b 2 z (indexN z underlying31 sz9 z z hs110 (by omega)) z (TA.b 3 z (loadO1 ([] : List UInt8) z ag9 z (q := 0) z Go.E.encS_len (by omega) z) z (TA.a 4 z (moveSl (.inl z) z) z (TA.a 5 z (moveI (.inl z) z) z (TA.a 6 z (subW z z z) z (TA.isSl (i := 0) z (fun hs111 _ _ => ?_))))))
   refine TA.b 7 z (OpVal.index z underlying31 sz9 z z hs111 u19.1 u19.2) z (TA.b 8 z (loadO1 ([] : List UInt8) z ag9 z (q := 0) z Go.E.encS_len (by omega) z) z (TA.a 9 z (eqlBs z z z) z (TA.dn (S.n (TC.cD z hh (fun h112 hh => ?_) (fun h112 hh => ?_))))))
   ·refine TC.a (TL.s z z (TL.i z z ?_))
    have u24 := grd_c hh
    replace hh := grd_t hh
    refine TL.isSl (i := 0) z (fun hs113 _ _ => ?_)
    obtain ⟨a113, c113, hv113, ho113⟩ := vw_of (k := k105) (size := 1) hs113 (by omega)
    refine TL.w z (ho113 z underlying31 sz9 z z) (TL.s z z (TL.en (TC.seq (TC.a (TL.i z z (TL.en (TC.block (TC.loopG (α := ((List (List UInt8)) × Nat × Nat) × (Unit)) (rgs [(3, 1), (5, 1), (29, 25)]) (fun g => [(3, .int .i64 ((g.1.2.1 : Nat) : Int)), (5, .int .i64 ((g.1.2.2 : Nat) : Int))]) (fun g => [Res.rowS 9 1 Go.E.encS (.slice a0_1 x0.length c0_2) g.1.1]) (fun g => σ) (fun g => iter (fun q : (List (List UInt8)) × Nat × Nat => Eb_ x0 k105 q.1 q.2.1 q.2.2) g.1 = some z1 ∧ g.1.1.length = x0.length) (fun g => rounds (fun q : (List (List UInt8)) × Nat × Nat => Eb_ x0 k105 q.1 q.2.1 q.2.2) g.1) ((x0, k105, 1), ()) (Sub.pre 1 z) z (by repeat (first | exact trivial | refine ⟨z, ?_⟩)) ⟨hh, z⟩ (fun g2 j2 hg2 => ?_)))))))))
    obtain ⟨⟨l122, k124, k125⟩, _⟩ := g2
    obtain ⟨hh, hn123⟩ := hg2
    try dsimp only at hn123 ⊢
    obtain ⟨z2, hh, hR2⟩ := iter_e hh
    dsimp only [Eb_] at hh
    have hn123b := hn123
    refine TC.isSl (i := 0) z (fun _ hb126 _ => ?_)
    refine TC.seq (TC.a (TL.i z z (TL.s z z (TL.w z (lenC z underlying31 z) (TL.w z (OpVal.lss z z z) (TL.en (TC.cD z hh (fun h127 hh => ?_) (fun h127 hh => ?_))))))))
    ·refine TC.skip (S.n (TC.cutG (α := ((List (List UInt8)) × Nat) × (Unit)) (rgs [(3, 1), (35, 19)]) (fun g => [(3, .int .i64 ((g.1.2 : Nat) : Int))]) (fun g => [Res.rowS 9 1 Go.E.encS (.slice a0_1 x0.length c0_2) g.1.1]) (fun g => σ) (fun g => Ea_ k125 g.1.1 g.1.2 = some z2 ∧ g.1.1.length = x0.length) ?_ (fun g j hg => ?_)))
     ·skip
      refine TC.block (TC.seq ?_)
      have u33 := grd_c hh
      replace hh := grd_t hh
      have u38 := grd_c hh
      replace hh := grd_t hh
      refine TC.draw [] (by kernel_rfl) (TA.a 0 z (moveSl (.inl z) z) z (TA.a 1 z (moveI (.inl z) z) z (TA.b 2 z (elVw hv113 (by omega) (indexN z underlying31 sz9 z z hv113.sl (by omega))) z (TA.b 3 z (loadO1 ([] : List UInt8) z ag9 z (q := 0) z Go.E.encS_len (by omega) z) z (TA.a 4 z (moveSl (.inl z) z) z (TA.a 5 z (moveI (.inl z) z) z (TA.a 6 z (subW z z z) z (TA.b 7 z (elVw hv113 (by omega) (OpVal.index z underlying31 sz9 z z hv113.sl u38.1 u38.2)) z (TA.b 8 z (loadO1 ([] : List UInt8) z ag9 z (q := 0) z Go.E.encS_len (by omega) z) z (TA.a 9 z (neqBs z z z) z (TA.dn (S.n (TC.cD z hh (fun h131 hh => ?_) (fun h131 hh => ?_))))))))))))))
      ·refine TC.a (TL.s z z (TL.i z z (TL.s z z (TL.i z z ?_))))
       have u45 := grd_c hh
       replace hh := grd_t hh
       refine TL.w z (elVw hv113 (by omega) (indexN z underlying31 sz9 z z hv113.sl (by omega))) (TL.w z (loadO1 ([] : List UInt8) z ag9 z (q := 0) z Go.E.encS_len (by omega) z) ?_)
       have u47 := grd_c hh
       replace hh := grd_t hh
       refine TL.isSl (i := 0) z (fun hs132 _ _ => ?_)
       refine TL.w z (indexN z underlying31 sz9 z z hs132 (by omega)) ?_
       have hn133 : (l122.set k124 (nth l122 (k105 + k125) ([] : List UInt8))).length = x0.length := by rw [List.length_set]; exact hn123
       refine TL.op z (storeS (nth l122 (k105 + k125) ([] : List UInt8)) z sz9 z z z z Go.E.encS_len Go.E.encS_one (by omega) (by omega) ?_)
       exact TL.en (TC.region (TL.i z z (TL.w z (OpVal.succ z z z (by omega)) (TL.i z z (TL.nil (B.n (S.n (cf (((l122.set k124 (nth l122 (k105 + k125) ([] : List UInt8))), (k124 + 1)), ()) ⟨hh, hn133⟩ (Sub.pre 1 z)))))))))
      ·exact TC.skip (B.n (S.n (cf ((l122, k124), ()) ⟨hh, hn123⟩ (Sub.pre 1 z))))
     ·skip
      obtain ⟨⟨l128, k130⟩, _⟩ := g
      obtain ⟨hh, hn129⟩ := hg
      try dsimp only at hn129 ⊢
      dsimp only [Ea_] at hh
      have hn129b := hn129
      refine TC.isSl (i := 0) z (fun _ hb134 _ => ?_)
      refine TC.region (TL.i z z (TL.w z (OpVal.succ z z z (by omega)) (TL.i z z (TL.en ?_))))
      obtain ⟨hh, hlt135⟩ := nxt_x hR2 hh
      exact lf ((l128, k130, (k125 + 1)), ()) hlt135 ⟨hh, hn129⟩ (Sub.pre 1 z)
    ·refine TC.exit (S.x (S.x ?_))
     replace hh := fin_x hR2 hh
     refine TC.exitHere (S.n (TC.a (TL.s z z (TL.i z z ?_))))
     have u57 := grd_c hh
     replace hh := grd_t hh
     refine TL.isSl (i := 0) z (fun hs136 _ _ => ?_)
     rw [hn123] at hs136
     obtain ⟨a136, c136, hv136, ho136⟩ := vw_of (k := k124) (size := 1) hs136 (by omega)
     refine TL.w z (ho136 z underlying31 sz9 z z) ?_
     have hn137 : (l122.take k124 ++ List.replicate (l122.length - k124) ([] : List UInt8)).length = x0.length := by simp only [List.length_append, List.length_take, List.length_replicate]; try simp only [List.length_replicate] at *; omega
     refine TL.op z (clearV (k := k124) ([] : List UInt8) z underlying31 ze9 z z hv136 (by omega) (by omega) Go.E.encS_len (by decide) z Go.E.encS_one ?_)
     refine TL.en (TC.a (TL.s z z (TL.i z z ?_)))
     rw [← hn137]
     have u61 := grd_c hh
     replace hh := grd_t hh
     refine TL.op z (cutS z underlying31 sz9 z z z z z (by omega) Go.E.encS_len ?_)
     refine TL.s z z (TL.en (TC.ret (B.r (S.r (S.r ?_)))))
     replace hh := fin_x hR1 hh
     refine B.r (S.r ?_)
     obtain rfl := so hh
     exact ro [Res.rowS 9 1 Go.E.encS (.slice a0_1 ((l122.take k124 ++ List.replicate (l122.length - k124) ([] : List UInt8)).take k124).length c0_2) ((l122.take k124 ++ List.replicate (l122.length - k124) ([] : List UInt8)).take k124)] z (RVs.tmp z RVs.nil) ⟨a0_1, c0_2, z, z, z⟩
   ·refine TC.skip (B.n (S.n (TC.region (TL.i z z (TL.w z (OpVal.succ z z z (by omega)) (TL.i z z (TL.en ?_)))))))
    obtain ⟨hh, hlt138⟩ := nxt_x hR1 hh
    exact lf ((k105 + 1), ()) hlt138 hh (Sub.pre 1 z)
  ·refine TC.exit (S.x (S.x ?_))
   replace hh := fin_x hR1 hh
   refine TC.exitHere (S.n (TC.a (TL.s z z (TL.s z z (TL.en (TC.ret ?_))))))
   obtain rfl := so hh
   exact ro [Res.rowS 9 1 Go.E.encS (.slice a0_1 x0.length c0_2) x0] z (RVs.tmp z RVs.nil) ⟨a0_1, c0_2, z, z, z⟩
theorem Hc_ {σ : Store} {a : Option Addr} {c : Nat} {l : List Tip} (hl : RS σ 2 encTip (.slice a l.length c) l) (hsz : l.length * 24 ≤ 140737488355328) :
  Con Tryz.prog 90 #[.slice a l.length c] σ [] (RowP 43 2 encTip l σ) := by
 have hb := hl.rv.big
 refine Con.mk (n := 8) Tryz.func90 z z z (fun w0 => ?_)
 refine TC.a (TL.s z z (TL.nilS 43 2 encTip (TL.en (TC.seq (TC.a (TL.s z z (TL.w z (eqlNilSl z underlying22 z z) (TL.en (TC.cond z (fun h2 => ?_) (fun h2 => ?_))))))))))
 ·refine TC.a (TL.s z z (TL.nilS 43 2 encTip (TL.en (TC.ret (S.r ?_)))))
  cases a with
  | some _ => simp at h2
  | none =>
   obtain rfl := hl.none_nil
   exact ret1R z z
 ·refine TC.skip (S.n (TC.a (TL.op z (lit0 (enc := encTip) z z underlying22 sz43 z z (fun a4 c5 => ?_)))))
  refine TL.s z z (TL.op z (appendS z z underlying22 sz43 by43 ze43 z z (by decide) z z z (.inl hl) (by simpa using hsz) (by decide) (fun a7 c8 => ?_)))
  exact TL.s z z (TL.en (TC.ret (ret1R z z)))
noncomputable def Cq_ (k125 : Nat) (l128 : List Tip) (k130 : Nat) : Option (((List Tip) × Nat × Nat) ⊕ ((Nat) ⊕ ((List Tip)))) :=
 nxt (l128, k130, (k125 + 1))
noncomputable def Cn_ (x0 : List Tip) (k105 : Nat) (l122 : List Tip) (k124 : Nat) (k125 : Nat) : Option (((List Tip) × Nat × Nat) ⊕ ((Nat) ⊕ ((List Tip)))) :=
 iteO (decide (((k125 : Nat) : Int) < (((x0.length - k105) : Nat) : Int))) (grd (k125 < (x0.length - k105)) (grd (0 ≤ (IntKind.i64.wrap (((k125 : Nat) : Int) - 1)) ∧ (IntKind.i64.wrap (((k125 : Nat) : Int) - 1)) < ((x0.length - k105) : Nat)) (iteO (decide (¬ ((nth l122 (k105 + k125) Tip.zero) = (nth l122 (k105 + (IntKind.i64.wrap (((k125 : Nat) : Int) - 1)).toNat) Tip.zero)))) (grd (k125 < (x0.length - k105)) (grd (k124 < l122.length) (Cq_ k125 (l122.set k124 (nth l122 (k105 + k125) Tip.zero)) (k124 + 1)))) (Cq_ k125 l122 k124)))) (fin (grd (k124 ≤ x0.length) (grd (k124 ≤ (l122.take k124 ++ List.replicate (l122.length - k124) Tip.zero).length) (fin (some ((l122.take k124 ++ List.replicate (l122.length - k124) Tip.zero).take k124))))))
noncomputable def Cc_ (x0 : List Tip) (k105 : Nat) : Option ((Nat) ⊕ ((List Tip))) :=
 iteO (decide (((k105 : Nat) : Int) < ((x0.length : Nat) : Int))) (grd (0 ≤ (IntKind.i64.wrap (((k105 : Nat) : Int) - 1)) ∧ (IntKind.i64.wrap (((k105 : Nat) : Int) - 1)) < (x0.length : Int)) (iteO (decide ((nth x0 k105 Tip.zero) = (nth x0 ((IntKind.i64.wrap (((k105 : Nat) : Int) - 1)).toNat) Tip.zero))) (grd (k105 ≤ x0.length) (iter (fun q : (List Tip) × Nat × Nat => Cn_ x0 k105 q.1 q.2.1 q.2.2) (x0, k105, 1))) (nxt (k105 + 1)))) (fin (some x0))
noncomputable def compactT (x0 : List Tip) : Option ((List Tip)) :=
 iteO (decide (((x0.length : Nat) : Int) < 2)) (some x0) (iter (fun q : Nat => Cc_ x0 q) 1)
theorem Go_ {σ : Store} {x0 : List Tip} {a0_1 : Option Addr} {c0_2 : Nat}  {r : (List Tip)} (hh : compactT x0 = some r) :
  Con Tryz.prog 91 #[.slice a0_1 x0.length c0_2] σ [Res.rowS 43 2 encTip (.slice a0_1 x0.length c0_2) x0] (fun v σ' H' => ∃ (a1 : Option Addr), ∃ (c1 : Nat), v = .slice a1 r.length c1 ∧ σ = σ' ∧ H' = [Res.rowS 43 2 encTip (.slice a1 r.length c1) r]) := by
 dsimp only [compactT] at hh
 refine Con.mk (n := 61) Tryz.func91 z z z (fun w0 => ?_)
 refine TC.a (TL.s z z (TL.en (TC.seq (TC.a (TL.s z z (TL.w z (lenC z underlying22 z) (TL.w z (OpVal.lss z z z) (TL.en (TC.cD z hh (fun h102 hh => ?_) (fun h102 hh => ?_))))))))))
 ·refine TC.a (TL.s z z (TL.s z z (TL.en (TC.ret (S.r ?_)))))
  obtain rfl := so hh
  exact ro [Res.rowS 43 2 encTip (.slice a0_1 x0.length c0_2) x0] z (RVs.tmp z RVs.nil) ⟨a0_1, c0_2, z, z, z⟩
 ·refine TC.skip (S.n (TC.seq (TC.a (TL.i z z (TL.en (TC.block (TC.loopG (α := (Nat) × (Unit)) (rgs [(2, 4), (10, 50)]) (fun g => [(3, .int .i64 ((g.1 : Nat) : Int))]) (fun g => [Res.rowS 43 2 encTip (.slice a0_1 x0.length c0_2) x0]) (fun g => σ) (fun g => iter (fun q : Nat => Cc_ x0 q) g.1 = some r) (fun g => rounds (fun q : Nat => Cc_ x0 q) g.1) (1, ()) (Sub.pre 1 z) z (by repeat (first | exact trivial | refine ⟨z, ?_⟩)) hh (fun g1 j1 hg1 => ?_))))))))
  obtain ⟨k105, _⟩ := g1
  have hh := hg1; clear hg1
  try dsimp only
  obtain ⟨z1, hh, hR1⟩ := iter_e hh
  dsimp only [Cc_] at hh
  refine TC.isSl (i := 0) z (fun _ hb106 _ => ?_)
  refine TC.seq (TC.a (TL.i z z (TL.s z z (TL.w z (lenC z underlying22 z) (TL.w z (OpVal.lss z z z) (TL.en (TC.cD z hh (fun h107 hh => ?_) (fun h107 hh => ?_))))))))
  ·refine TC.skip (S.n (TC.seq (TC.block (TC.seq ?_))))
   have u19 := grd_c hh
   replace hh := grd_t hh
   refine TC.draw [] (by kernel_rfl) (TA.a 0 z (moveSl (.inl z) z) z (TA.a 1 z (moveI (.inl z) z) z (TA.isSl (i := 0) z (fun hs110 _ _ => ?_))))
   refine TA.b 2 z (indexN z underlying22 sz43 z z hs110 (by omega)) z (TA.b 3 z (loadOA Tip.zero z ag43 sz43 z (q := 0) z encTip_len (by omega) (by omega)) z (TA.a 4 z (moveSl (.inl z) z) z (TA.a 5 z (moveI (.inl z) z) z (TA.a 6 z (subW z z z) z (TA.isSl (i := 0) z (fun hs111 _ _ => ?_))))))
   refine TA.b 7 z (OpVal.index z underlying22 sz43 z z hs111 u19.1 u19.2) z (TA.b 8 z (loadOA Tip.zero z ag43 sz43 z (q := 0) z encTip_len (by omega) (by omega)) z (TA.a 9 z (eqlSt (p := (nth x0 k105 Tip.zero) = (nth x0 ((IntKind.i64.wrap (((k105 : Nat) : Int) - 1)).toNat) Tip.zero)) z z z eg43 (es43 (nth x0 k105 Tip.zero) (nth x0 ((IntKind.i64.wrap (((k105 : Nat) : Int) - 1)).toNat) Tip.zero)) z) z (TA.dn (S.n (TC.cD z hh (fun h112 hh => ?_) (fun h112 hh => ?_))))))
   ·refine TC.a (TL.s z z (TL.i z z ?_))
    have u24 := grd_c hh
    replace hh := grd_t hh
    refine TL.isSl (i := 0) z (fun hs113 _ _ => ?_)
    obtain ⟨a113, c113, hv113, ho113⟩ := vw_of (k := k105) (size := 2) hs113 (by omega)
    refine TL.w z (ho113 z underlying22 sz43 z z) (TL.s z z (TL.en (TC.seq (TC.a (TL.i z z (TL.en (TC.block (TC.loopG (α := ((List Tip) × Nat × Nat) × (Unit)) (rgs [(3, 1), (5, 1), (29, 25)]) (fun g => [(3, .int .i64 ((g.1.2.1 : Nat) : Int)), (5, .int .i64 ((g.1.2.2 : Nat) : Int))]) (fun g => [Res.rowS 43 2 encTip (.slice a0_1 x0.length c0_2) g.1.1]) (fun g => σ) (fun g => iter (fun q : (List Tip) × Nat × Nat => Cn_ x0 k105 q.1 q.2.1 q.2.2) g.1 = some z1 ∧ g.1.1.length = x0.length) (fun g => rounds (fun q : (List Tip) × Nat × Nat => Cn_ x0 k105 q.1 q.2.1 q.2.2) g.1) ((x0, k105, 1), ()) (Sub.pre 1 z) z (by repeat (first | exact trivial | refine ⟨z, ?_⟩)) ⟨hh, z⟩ (fun g2 j2 hg2 => ?_)))))))))
    obtain ⟨⟨l122, k124, k125⟩, _⟩ := g2
    obtain ⟨hh, hn123⟩ := hg2
    try dsimp only at hn123 ⊢
    obtain ⟨z2, hh, hR2⟩ := iter_e hh
    dsimp only [Cn_] at hh
    have hn123b := hn123
    refine TC.isSl (i := 0) z (fun _ hb126 _ => ?_)
    refine TC.seq (TC.a (TL.i z z (TL.s z z (TL.w z (lenC z underlying22 z) (TL.w z (OpVal.lss z z z) (TL.en (TC.cD z hh (fun h127 hh => ?_) (fun h127 hh => ?_))))))))
    ·refine TC.skip (S.n (TC.cutG (α := ((List Tip) × Nat) × (Unit)) (rgs [(3, 1), (35, 19)]) (fun g => [(3, .int .i64 ((g.1.2 : Nat) : Int))]) (fun g => [Res.rowS 43 2 encTip (.slice a0_1 x0.length c0_2) g.1.1]) (fun g => σ) (fun g => Cq_ k125 g.1.1 g.1.2 = some z2 ∧ g.1.1.length = x0.length) ?_ (fun g j hg => ?_)))
     ·skip
      refine TC.block (TC.seq ?_)
      have u33 := grd_c hh
      replace hh := grd_t hh
      have u38 := grd_c hh
      replace hh := grd_t hh
      refine TC.draw [] (by kernel_rfl) (TA.a 0 z (moveSl (.inl z) z) z (TA.a 1 z (moveI (.inl z) z) z (TA.b 2 z (elVw hv113 (by omega) (indexN z underlying22 sz43 z z hv113.sl (by omega))) z (TA.b 3 z (loadOA Tip.zero z ag43 sz43 z (q := 0) z encTip_len (by omega) (by omega)) z (TA.a 4 z (moveSl (.inl z) z) z (TA.a 5 z (moveI (.inl z) z) z (TA.a 6 z (subW z z z) z (TA.b 7 z (elVw hv113 (by omega) (OpVal.index z underlying22 sz43 z z hv113.sl u38.1 u38.2)) z (TA.b 8 z (loadOA Tip.zero z ag43 sz43 z (q := 0) z encTip_len (by omega) (by omega)) z (TA.a 9 z (neqSt (p := (nth l122 (k105 + k125) Tip.zero) = (nth l122 (k105 + (IntKind.i64.wrap (((k125 : Nat) : Int) - 1)).toNat) Tip.zero)) z z z eg43 (es43 (nth l122 (k105 + k125) Tip.zero) (nth l122 (k105 + (IntKind.i64.wrap (((k125 : Nat) : Int) - 1)).toNat) Tip.zero)) z) z (TA.dn (S.n (TC.cD z hh (fun h131 hh => ?_) (fun h131 hh => ?_))))))))))))))
      ·refine TC.a (TL.s z z (TL.i z z (TL.s z z (TL.i z z ?_))))
       have u45 := grd_c hh
       replace hh := grd_t hh
       refine TL.w z (elVw hv113 (by omega) (indexN z underlying22 sz43 z z hv113.sl (by omega))) (TL.w z (loadOA Tip.zero z ag43 sz43 z (q := 0) z encTip_len (by omega) (by omega)) ?_)
       have u47 := grd_c hh
       replace hh := grd_t hh
       refine TL.isSl (i := 0) z (fun hs132 _ _ => ?_)
       refine TL.w z (indexN z underlying22 sz43 z z hs132 (by omega)) ?_
       have hn133 : (l122.set k124 (nth l122 (k105 + k125) Tip.zero)).length = x0.length := by rw [List.length_set]; exact hn123
       refine TL.op z (storeS (nth l122 (k105 + k125) Tip.zero) z sz43 z z z z encTip_len encTip_one (by omega) (by omega) ?_)
       exact TL.en (TC.region (TL.i z z (TL.w z (OpVal.succ z z z (by omega)) (TL.i z z (TL.nil (B.n (S.n (cf (((l122.set k124 (nth l122 (k105 + k125) Tip.zero)), (k124 + 1)), ()) ⟨hh, hn133⟩ (Sub.pre 1 z)))))))))
      ·exact TC.skip (B.n (S.n (cf ((l122, k124), ()) ⟨hh, hn123⟩ (Sub.pre 1 z))))
     ·skip
      obtain ⟨⟨l128, k130⟩, _⟩ := g
      obtain ⟨hh, hn129⟩ := hg
      try dsimp only at hn129 ⊢
      dsimp only [Cq_] at hh
      have hn129b := hn129
      refine TC.isSl (i := 0) z (fun _ hb134 _ => ?_)
      refine TC.region (TL.i z z (TL.w z (OpVal.succ z z z (by omega)) (TL.i z z (TL.en ?_))))
      obtain ⟨hh, hlt135⟩ := nxt_x hR2 hh
      exact lf ((l128, k130, (k125 + 1)), ()) hlt135 ⟨hh, hn129⟩ (Sub.pre 1 z)
    ·refine TC.exit (S.x (S.x ?_))
     replace hh := fin_x hR2 hh
     refine TC.exitHere (S.n (TC.a (TL.s z z (TL.i z z ?_))))
     have u57 := grd_c hh
     replace hh := grd_t hh
     refine TL.isSl (i := 0) z (fun hs136 _ _ => ?_)
     rw [hn123] at hs136
     obtain ⟨a136, c136, hv136, ho136⟩ := vw_of (k := k124) (size := 2) hs136 (by omega)
     refine TL.w z (ho136 z underlying22 sz43 z z) ?_
     have hn137 : (l122.take k124 ++ List.replicate (l122.length - k124) Tip.zero).length = x0.length := by simp only [List.length_append, List.length_take, List.length_replicate]; try simp only [List.length_replicate] at *; omega
     refine TL.op z (clearV (k := k124) Tip.zero z underlying22 ze43 z z hv136 (by omega) (by omega) encTip_len (by decide) z encTip_one ?_)
     refine TL.en (TC.a (TL.s z z (TL.i z z ?_)))
     rw [← hn137]
     have u61 := grd_c hh
     replace hh := grd_t hh
     refine TL.op z (cutS z underlying22 sz43 z z z z z (by omega) encTip_len ?_)
     refine TL.s z z (TL.en (TC.ret (B.r (S.r (S.r ?_)))))
     replace hh := fin_x hR1 hh
     refine B.r (S.r ?_)
     obtain rfl := so hh
     exact ro [Res.rowS 43 2 encTip (.slice a0_1 ((l122.take k124 ++ List.replicate (l122.length - k124) Tip.zero).take k124).length c0_2) ((l122.take k124 ++ List.replicate (l122.length - k124) Tip.zero).take k124)] z (RVs.tmp z RVs.nil) ⟨a0_1, c0_2, z, z, z⟩
   ·refine TC.skip (B.n (S.n (TC.region (TL.i z z (TL.w z (OpVal.succ z z z (by omega)) (TL.i z z (TL.en ?_)))))))
    obtain ⟨hh, hlt138⟩ := nxt_x hR1 hh
    exact lf ((k105 + 1), ()) hlt138 hh (Sub.pre 1 z)
  ·refine TC.exit (S.x (S.x ?_))
   replace hh := fin_x hR1 hh
   refine TC.exitHere (S.n (TC.a (TL.s z z (TL.s z z (TL.en (TC.ret ?_))))))
   obtain rfl := so hh
   exact ro [Res.rowS 43 2 encTip (.slice a0_1 x0.length c0_2) x0] z (RVs.tmp z RVs.nil) ⟨a0_1, c0_2, z, z, z⟩
theorem Hd_ {σ : Store} {a : Option Addr} {c : Nat} {l : List Arc} (hl : RS σ 8 encArc (.slice a l.length c) l) (hsz : l.length * 72 ≤ 140737488355328) :
  Con Tryz.prog 94 #[.slice a l.length c] σ [] (RowP 66 8 encArc l σ) := by
 have hb := hl.rv.big
 refine Con.mk (n := 8) Tryz.func94 z z z (fun w0 => ?_)
 refine TC.a (TL.s z z (TL.nilS 66 8 encArc (TL.en (TC.seq (TC.a (TL.s z z (TL.w z (eqlNilSl z underlying23 z z) (TL.en (TC.cond z (fun h2 => ?_) (fun h2 => ?_))))))))))
 ·refine TC.a (TL.s z z (TL.nilS 66 8 encArc (TL.en (TC.ret (S.r ?_)))))
  cases a with
  | some _ => simp at h2
  | none =>
   obtain rfl := hl.none_nil
   exact ret1R z z
 ·refine TC.skip (S.n (TC.a (TL.op z (lit0 (enc := encArc) z z underlying23 sz66 z z (fun a4 c5 => ?_)))))
  refine TL.s z z (TL.op z (appendS z z underlying23 sz66 by66 ze66 z z (by decide) z z z (.inl hl) (by simpa using hsz) (by decide) (fun a7 c8 => ?_)))
  exact TL.s z z (TL.en (TC.ret (ret1R z z)))
noncomputable def Ci_ (k125 : Nat) (l128 : List Arc) (k130 : Nat) : Option (((List Arc) × Nat × Nat) ⊕ ((Nat) ⊕ ((List Arc)))) :=
 nxt (l128, k130, (k125 + 1))
noncomputable def Cf_ (x0 : List Arc) (k105 : Nat) (l122 : List Arc) (k124 : Nat) (k125 : Nat) : Option (((List Arc) × Nat × Nat) ⊕ ((Nat) ⊕ ((List Arc)))) :=
 iteO (decide (((k125 : Nat) : Int) < (((x0.length - k105) : Nat) : Int))) (grd (k125 < (x0.length - k105)) (grd (0 ≤ (IntKind.i64.wrap (((k125 : Nat) : Int) - 1)) ∧ (IntKind.i64.wrap (((k125 : Nat) : Int) - 1)) < ((x0.length - k105) : Nat)) (iteO (decide (¬ ((nth l122 (k105 + k125) Arc.zero) = (nth l122 (k105 + (IntKind.i64.wrap (((k125 : Nat) : Int) - 1)).toNat) Arc.zero)))) (grd (k125 < (x0.length - k105)) (grd (k124 < l122.length) (Ci_ k125 (l122.set k124 (nth l122 (k105 + k125) Arc.zero)) (k124 + 1)))) (Ci_ k125 l122 k124)))) (fin (grd (k124 ≤ x0.length) (grd (k124 ≤ (l122.take k124 ++ List.replicate (l122.length - k124) Arc.zero).length) (fin (some ((l122.take k124 ++ List.replicate (l122.length - k124) Arc.zero).take k124))))))
noncomputable def Cm_ (x0 : List Arc) (k105 : Nat) : Option ((Nat) ⊕ ((List Arc))) :=
 iteO (decide (((k105 : Nat) : Int) < ((x0.length : Nat) : Int))) (grd (0 ≤ (IntKind.i64.wrap (((k105 : Nat) : Int) - 1)) ∧ (IntKind.i64.wrap (((k105 : Nat) : Int) - 1)) < (x0.length : Int)) (iteO (decide ((nth x0 k105 Arc.zero) = (nth x0 ((IntKind.i64.wrap (((k105 : Nat) : Int) - 1)).toNat) Arc.zero))) (grd (k105 ≤ x0.length) (iter (fun q : (List Arc) × Nat × Nat => Cf_ x0 k105 q.1 q.2.1 q.2.2) (x0, k105, 1))) (nxt (k105 + 1)))) (fin (some x0))
noncomputable def compactA (x0 : List Arc) : Option ((List Arc)) :=
 iteO (decide (((x0.length : Nat) : Int) < 2)) (some x0) (iter (fun q : Nat => Cm_ x0 q) 1)
theorem Gv_ {σ : Store} {x0 : List Arc} {a0_1 : Option Addr} {c0_2 : Nat}  {r : (List Arc)} (hh : compactA x0 = some r) :
  Con Tryz.prog 96 #[.slice a0_1 x0.length c0_2] σ [Res.rowS 66 8 encArc (.slice a0_1 x0.length c0_2) x0] (fun v σ' H' => ∃ (a1 : Option Addr), ∃ (c1 : Nat), v = .slice a1 r.length c1 ∧ σ = σ' ∧ H' = [Res.rowS 66 8 encArc (.slice a1 r.length c1) r]) := by
 dsimp only [compactA] at hh
 refine Con.mk (n := 61) Tryz.func96 z z z (fun w0 => ?_)
 refine TC.a (TL.s z z (TL.en (TC.seq (TC.a (TL.s z z (TL.w z (lenC z underlying23 z) (TL.w z (OpVal.lss z z z) (TL.en (TC.cD z hh (fun h102 hh => ?_) (fun h102 hh => ?_))))))))))
 ·refine TC.a (TL.s z z (TL.s z z (TL.en (TC.ret (S.r ?_)))))
  obtain rfl := so hh
  exact ro [Res.rowS 66 8 encArc (.slice a0_1 x0.length c0_2) x0] z (RVs.tmp z RVs.nil) ⟨a0_1, c0_2, z, z, z⟩
 ·refine TC.skip (S.n (TC.seq (TC.a (TL.i z z (TL.en (TC.block (TC.loopG (α := (Nat) × (Unit)) (rgs [(2, 4), (10, 50)]) (fun g => [(3, .int .i64 ((g.1 : Nat) : Int))]) (fun g => [Res.rowS 66 8 encArc (.slice a0_1 x0.length c0_2) x0]) (fun g => σ) (fun g => iter (fun q : Nat => Cm_ x0 q) g.1 = some r) (fun g => rounds (fun q : Nat => Cm_ x0 q) g.1) (1, ()) (Sub.pre 1 z) z (by repeat (first | exact trivial | refine ⟨z, ?_⟩)) hh (fun g1 j1 hg1 => ?_))))))))
  obtain ⟨k105, _⟩ := g1
  have hh := hg1; clear hg1
  try dsimp only
  obtain ⟨z1, hh, hR1⟩ := iter_e hh
  dsimp only [Cm_] at hh
  refine TC.isSl (i := 0) z (fun _ hb106 _ => ?_)
  refine TC.seq (TC.a (TL.i z z (TL.s z z (TL.w z (lenC z underlying23 z) (TL.w z (OpVal.lss z z z) (TL.en (TC.cD z hh (fun h107 hh => ?_) (fun h107 hh => ?_))))))))
  ·refine TC.skip (S.n (TC.seq (TC.block (TC.seq ?_))))
   have u19 := grd_c hh
   replace hh := grd_t hh
   refine TC.draw [] (by kernel_rfl) (TA.a 0 z (moveSl (.inl z) z) z (TA.a 1 z (moveI (.inl z) z) z (TA.isSl (i := 0) z (fun hs110 _ _ => ?_))))
   refine TA.b 2 z (indexN z underlying23 sz66 z z hs110 (by omega)) z (TA.b 3 z (loadOA Arc.zero z ag66 sz66 z (q := 0) z encArc_len (by omega) (by omega)) z (TA.a 4 z (moveSl (.inl z) z) z (TA.a 5 z (moveI (.inl z) z) z (TA.a 6 z (subW z z z) z (TA.isSl (i := 0) z (fun hs111 _ _ => ?_))))))
   refine TA.b 7 z (OpVal.index z underlying23 sz66 z z hs111 u19.1 u19.2) z (TA.b 8 z (loadOA Arc.zero z ag66 sz66 z (q := 0) z encArc_len (by omega) (by omega)) z (TA.a 9 z (eqlSt (p := (nth x0 k105 Arc.zero) = (nth x0 ((IntKind.i64.wrap (((k105 : Nat) : Int) - 1)).toNat) Arc.zero)) z z z eg66 (es66 (nth x0 k105 Arc.zero) (nth x0 ((IntKind.i64.wrap (((k105 : Nat) : Int) - 1)).toNat) Arc.zero)) z) z (TA.dn (S.n (TC.cD z hh (fun h112 hh => ?_) (fun h112 hh => ?_))))))
   ·refine TC.a (TL.s z z (TL.i z z ?_))
    have u24 := grd_c hh
    replace hh := grd_t hh
    refine TL.isSl (i := 0) z (fun hs113 _ _ => ?_)
    obtain ⟨a113, c113, hv113, ho113⟩ := vw_of (k := k105) (size := 8) hs113 (by omega)
    refine TL.w z (ho113 z underlying23 sz66 z z) (TL.s z z (TL.en (TC.seq (TC.a (TL.i z z (TL.en (TC.block (TC.loopG (α := ((List Arc) × Nat × Nat) × (Unit)) (rgs [(3, 1), (5, 1), (29, 25)]) (fun g => [(3, .int .i64 ((g.1.2.1 : Nat) : Int)), (5, .int .i64 ((g.1.2.2 : Nat) : Int))]) (fun g => [Res.rowS 66 8 encArc (.slice a0_1 x0.length c0_2) g.1.1]) (fun g => σ) (fun g => iter (fun q : (List Arc) × Nat × Nat => Cf_ x0 k105 q.1 q.2.1 q.2.2) g.1 = some z1 ∧ g.1.1.length = x0.length) (fun g => rounds (fun q : (List Arc) × Nat × Nat => Cf_ x0 k105 q.1 q.2.1 q.2.2) g.1) ((x0, k105, 1), ()) (Sub.pre 1 z) z (by repeat (first | exact trivial | refine ⟨z, ?_⟩)) ⟨hh, z⟩ (fun g2 j2 hg2 => ?_)))))))))
    obtain ⟨⟨l122, k124, k125⟩, _⟩ := g2
    obtain ⟨hh, hn123⟩ := hg2
    try dsimp only at hn123 ⊢
    obtain ⟨z2, hh, hR2⟩ := iter_e hh
    dsimp only [Cf_] at hh
    have hn123b := hn123
    refine TC.isSl (i := 0) z (fun _ hb126 _ => ?_)
    refine TC.seq (TC.a (TL.i z z (TL.s z z (TL.w z (lenC z underlying23 z) (TL.w z (OpVal.lss z z z) (TL.en (TC.cD z hh (fun h127 hh => ?_) (fun h127 hh => ?_))))))))
    ·refine TC.skip (S.n (TC.cutG (α := ((List Arc) × Nat) × (Unit)) (rgs [(3, 1), (35, 19)]) (fun g => [(3, .int .i64 ((g.1.2 : Nat) : Int))]) (fun g => [Res.rowS 66 8 encArc (.slice a0_1 x0.length c0_2) g.1.1]) (fun g => σ) (fun g => Ci_ k125 g.1.1 g.1.2 = some z2 ∧ g.1.1.length = x0.length) ?_ (fun g j hg => ?_)))
     ·skip
      refine TC.block (TC.seq ?_)
      have u33 := grd_c hh
      replace hh := grd_t hh
      have u38 := grd_c hh
      replace hh := grd_t hh
      refine TC.draw [] (by kernel_rfl) (TA.a 0 z (moveSl (.inl z) z) z (TA.a 1 z (moveI (.inl z) z) z (TA.b 2 z (elVw hv113 (by omega) (indexN z underlying23 sz66 z z hv113.sl (by omega))) z (TA.b 3 z (loadOA Arc.zero z ag66 sz66 z (q := 0) z encArc_len (by omega) (by omega)) z (TA.a 4 z (moveSl (.inl z) z) z (TA.a 5 z (moveI (.inl z) z) z (TA.a 6 z (subW z z z) z (TA.b 7 z (elVw hv113 (by omega) (OpVal.index z underlying23 sz66 z z hv113.sl u38.1 u38.2)) z (TA.b 8 z (loadOA Arc.zero z ag66 sz66 z (q := 0) z encArc_len (by omega) (by omega)) z (TA.a 9 z (neqSt (p := (nth l122 (k105 + k125) Arc.zero) = (nth l122 (k105 + (IntKind.i64.wrap (((k125 : Nat) : Int) - 1)).toNat) Arc.zero)) z z z eg66 (es66 (nth l122 (k105 + k125) Arc.zero) (nth l122 (k105 + (IntKind.i64.wrap (((k125 : Nat) : Int) - 1)).toNat) Arc.zero)) z) z (TA.dn (S.n (TC.cD z hh (fun h131 hh => ?_) (fun h131 hh => ?_))))))))))))))
      ·refine TC.a (TL.s z z (TL.i z z (TL.s z z (TL.i z z ?_))))
       have u45 := grd_c hh
       replace hh := grd_t hh
       refine TL.w z (elVw hv113 (by omega) (indexN z underlying23 sz66 z z hv113.sl (by omega))) (TL.w z (loadOA Arc.zero z ag66 sz66 z (q := 0) z encArc_len (by omega) (by omega)) ?_)
       have u47 := grd_c hh
       replace hh := grd_t hh
       refine TL.isSl (i := 0) z (fun hs132 _ _ => ?_)
       refine TL.w z (indexN z underlying23 sz66 z z hs132 (by omega)) ?_
       have hn133 : (l122.set k124 (nth l122 (k105 + k125) Arc.zero)).length = x0.length := by rw [List.length_set]; exact hn123
       refine TL.op z (storeS (nth l122 (k105 + k125) Arc.zero) z sz66 z z z z encArc_len encArc_one (by omega) (by omega) ?_)
       exact TL.en (TC.region (TL.i z z (TL.w z (OpVal.succ z z z (by omega)) (TL.i z z (TL.nil (B.n (S.n (cf (((l122.set k124 (nth l122 (k105 + k125) Arc.zero)), (k124 + 1)), ()) ⟨hh, hn133⟩ (Sub.pre 1 z)))))))))
      ·exact TC.skip (B.n (S.n (cf ((l122, k124), ()) ⟨hh, hn123⟩ (Sub.pre 1 z))))
     ·skip
      obtain ⟨⟨l128, k130⟩, _⟩ := g
      obtain ⟨hh, hn129⟩ := hg
      try dsimp only at hn129 ⊢
      dsimp only [Ci_] at hh
      have hn129b := hn129
      refine TC.isSl (i := 0) z (fun _ hb134 _ => ?_)
      refine TC.region (TL.i z z (TL.w z (OpVal.succ z z z (by omega)) (TL.i z z (TL.en ?_))))
      obtain ⟨hh, hlt135⟩ := nxt_x hR2 hh
      exact lf ((l128, k130, (k125 + 1)), ()) hlt135 ⟨hh, hn129⟩ (Sub.pre 1 z)
    ·refine TC.exit (S.x (S.x ?_))
     replace hh := fin_x hR2 hh
     refine TC.exitHere (S.n (TC.a (TL.s z z (TL.i z z ?_))))
     have u57 := grd_c hh
     replace hh := grd_t hh
     refine TL.isSl (i := 0) z (fun hs136 _ _ => ?_)
     rw [hn123] at hs136
     obtain ⟨a136, c136, hv136, ho136⟩ := vw_of (k := k124) (size := 8) hs136 (by omega)
     refine TL.w z (ho136 z underlying23 sz66 z z) ?_
     have hn137 : (l122.take k124 ++ List.replicate (l122.length - k124) Arc.zero).length = x0.length := by simp only [List.length_append, List.length_take, List.length_replicate]; try simp only [List.length_replicate] at *; omega
     refine TL.op z (clearV (k := k124) Arc.zero z underlying23 ze66 z z hv136 (by omega) (by omega) encArc_len (by decide) z encArc_one ?_)
     refine TL.en (TC.a (TL.s z z (TL.i z z ?_)))
     rw [← hn137]
     have u61 := grd_c hh
     replace hh := grd_t hh
     refine TL.op z (cutS z underlying23 sz66 z z z z z (by omega) encArc_len ?_)
     refine TL.s z z (TL.en (TC.ret (B.r (S.r (S.r ?_)))))
     replace hh := fin_x hR1 hh
     refine B.r (S.r ?_)
     obtain rfl := so hh
     exact ro [Res.rowS 66 8 encArc (.slice a0_1 ((l122.take k124 ++ List.replicate (l122.length - k124) Arc.zero).take k124).length c0_2) ((l122.take k124 ++ List.replicate (l122.length - k124) Arc.zero).take k124)] z (RVs.tmp z RVs.nil) ⟨a0_1, c0_2, z, z, z⟩
   ·refine TC.skip (B.n (S.n (TC.region (TL.i z z (TL.w z (OpVal.succ z z z (by omega)) (TL.i z z (TL.en ?_)))))))
    obtain ⟨hh, hlt138⟩ := nxt_x hR1 hh
    exact lf ((k105 + 1), ()) hlt138 hh (Sub.pre 1 z)
  ·refine TC.exit (S.x (S.x ?_))
   replace hh := fin_x hR1 hh
   refine TC.exitHere (S.n (TC.a (TL.s z z (TL.s z z (TL.en (TC.ret ?_))))))
   obtain rfl := so hh
   exact ro [Res.rowS 66 8 encArc (.slice a0_1 x0.length c0_2) x0] z (RVs.tmp z RVs.nil) ⟨a0_1, c0_2, z, z, z⟩
noncomputable def onceS (x0 : List (List UInt8)) : Option ((List (List UInt8))) :=
 grd (x0.length * 16 ≤ 140737488355328) (bnd (compactS (sortL Lib.compareBytes x0)) (fun v9 => some v9))
def Ht_ (σ : Store) (r : (List (List UInt8))) : Value → Store → List Res → Prop := fun v σ' H' =>
 ∃ (a1 : Option Addr), ∃ (c1 : Nat),  v = .slice a1 r.length c1 ∧ σ = σ' ∧ H' = [Res.rowS 9 1 Go.E.encS (.slice a1 r.length c1) r]
theorem Hn_ {σ : Store} {x0 : List (List UInt8)} {a0_0 : Option Addr} {c0_0 : Nat} (f0_0 : RS σ 1 Go.E.encS (.slice a0_0 x0.length c0_0) x0) {r : (List (List UInt8))} (hh : onceS x0 = some r) :
  Con Tryz.prog 31 #[.slice a0_0 x0.length c0_0, .func (.func 32) #[] #[]] σ [] (Ht_ σ r) := by
 dsimp only [onceS] at hh
 have f0_0b := f0_0.rv.big
 refine Con.mk (n := 13) Tryz.func31 z z z (fun w0 => ?_)
 refine TC.a (TL.s z z (TL.en (TC.a (TL.s z z ?_))))
 have u3 := grd_c hh
 replace hh := grd_t hh
 refine TL.op z (OpOk.call (Ha_ f0_0 u3) z z pf63 z z z z ?_)
 rintro _ _ _ _ ⟨⟨a101, c102, rfl⟩, rfl, rfl⟩
 refine TL.s z z (TL.en (TC.a (TL.s z z (TL.w z (moveFn (.inl z) z) ?_))))
 have hn104 : (sortL Lib.compareBytes x0).length = x0.length := List.length_mergeSort _
 refine TL.op z (OpOk.call (Hm_ (l := x0)) z z pf64 z z z z ?_)
 rintro _ _ _ _ ⟨rfl, rfl, rfl⟩
 refine TL.en (TC.a (TL.s z z ?_))
 rw [← hn104]
 obtain ⟨v9, u9, hh⟩ := bnd_e hh
 refine TL.op z (OpOk.call (Gs_ u9) z z pf65 z z z z ?_)
 rintro _ _ _ hle105 ⟨a105_1, c105_2, rfl, rfl, rfl⟩
 refine TL.s z z (TL.en (TC.ret ?_))
 obtain rfl := so hh
 exact ro [Res.rowS 9 1 Go.E.encS (.slice a105_1 v9.length c105_2) v9] z (RVs.tmp z RVs.nil) ⟨a105_1, c105_2, z, z, z⟩
noncomputable def onceT (x0 : List Tip) : Option ((List Tip)) :=
 grd (x0.length * 24 ≤ 140737488355328) (bnd (compactT (sortL cmpTip x0)) (fun v9 => some v9))
def Hv_ (σ : Store) (r : (List Tip)) : Value → Store → List Res → Prop := fun v σ' H' =>
 ∃ (a1 : Option Addr), ∃ (c1 : Nat),  v = .slice a1 r.length c1 ∧ σ = σ' ∧ H' = [Res.rowS 43 2 encTip (.slice a1 r.length c1) r]
theorem Gn_ {σ : Store} {x0 : List Tip} {a0_0 : Option Addr} {c0_0 : Nat} (f0_0 : RS σ 2 encTip (.slice a0_0 x0.length c0_0) x0) {r : (List Tip)} (hh : onceT x0 = some r) :
  Con Tryz.prog 57 #[.slice a0_0 x0.length c0_0, .func (.func 58) #[] #[]] σ [] (Hv_ σ r) := by
 dsimp only [onceT] at hh
 have f0_0b := f0_0.rv.big
 refine Con.mk (n := 13) Tryz.func57 z z z (fun w0 => ?_)
 refine TC.a (TL.s z z (TL.en (TC.a (TL.s z z ?_))))
 have u3 := grd_c hh
 replace hh := grd_t hh
 refine TL.op z (OpOk.call (Hc_ f0_0 u3) z z pf90 z z z z ?_)
 rintro _ _ _ _ ⟨⟨a101, c102, rfl⟩, rfl, rfl⟩
 refine TL.s z z (TL.en (TC.a (TL.s z z (TL.w z (moveFn (.inl z) z) ?_))))
 have hn104 : (sortL cmpTip x0).length = x0.length := List.length_mergeSort _
 refine TL.op z (OpOk.call (Hi_ (l := x0)) z z pf68 z z z z ?_)
 rintro _ _ _ _ ⟨rfl, rfl, rfl⟩
 refine TL.en (TC.a (TL.s z z ?_))
 rw [← hn104]
 obtain ⟨v9, u9, hh⟩ := bnd_e hh
 refine TL.op z (OpOk.call (Go_ u9) z z pf91 z z z z ?_)
 rintro _ _ _ hle105 ⟨a105_1, c105_2, rfl, rfl, rfl⟩
 refine TL.s z z (TL.en (TC.ret ?_))
 obtain rfl := so hh
 exact ro [Res.rowS 43 2 encTip (.slice a105_1 v9.length c105_2) v9] z (RVs.tmp z RVs.nil) ⟨a105_1, c105_2, z, z, z⟩
noncomputable def onceA (x0 : List Arc) : Option ((List Arc)) :=
 grd (x0.length * 72 ≤ 140737488355328) (bnd (compactA (sortL cmpArc x0)) (fun v9 => some v9))
def Hu_ (σ : Store) (r : (List Arc)) : Value → Store → List Res → Prop := fun v σ' H' =>
 ∃ (a1 : Option Addr), ∃ (c1 : Nat),  v = .slice a1 r.length c1 ∧ σ = σ' ∧ H' = [Res.rowS 66 8 encArc (.slice a1 r.length c1) r]
theorem Hh_ {σ : Store} {x0 : List Arc} {a0_0 : Option Addr} {c0_0 : Nat} (f0_0 : RS σ 8 encArc (.slice a0_0 x0.length c0_0) x0) {r : (List Arc)} (hh : onceA x0 = some r) :
  Con Tryz.prog 59 #[.slice a0_0 x0.length c0_0, .func (.func 60) #[] #[]] σ [] (Hu_ σ r) := by
 dsimp only [onceA] at hh
 have f0_0b := f0_0.rv.big
 refine Con.mk (n := 13) Tryz.func59 z z z (fun w0 => ?_)
 refine TC.a (TL.s z z (TL.en (TC.a (TL.s z z ?_))))
 have u3 := grd_c hh
 replace hh := grd_t hh
 refine TL.op z (OpOk.call (Hd_ f0_0 u3) z z pf94 z z z z ?_)
 rintro _ _ _ _ ⟨⟨a101, c102, rfl⟩, rfl, rfl⟩
 refine TL.s z z (TL.en (TC.a (TL.s z z (TL.w z (moveFn (.inl z) z) ?_))))
 have hn104 : (sortL cmpArc x0).length = x0.length := List.length_mergeSort _
 refine TL.op z (OpOk.call (Hl_ (l := x0)) z z pf95 z z z z ?_)
 rintro _ _ _ _ ⟨rfl, rfl, rfl⟩
 refine TL.en (TC.a (TL.s z z ?_))
 rw [← hn104]
 obtain ⟨v9, u9, hh⟩ := bnd_e hh
 refine TL.op z (OpOk.call (Gv_ u9) z z pf96 z z z z ?_)
 rintro _ _ _ hle105 ⟨a105_1, c105_2, rfl, rfl, rfl⟩
 refine TL.s z z (TL.en (TC.ret ?_))
 obtain rfl := so hh
 exact ro [Res.rowS 66 8 encArc (.slice a105_1 v9.length c105_2) v9] z (RVs.tmp z RVs.nil) ⟨a105_1, c105_2, z, z, z⟩
noncomputable def E4_ (x0 : Fst) : Option (Fst × Int) :=
 bnd (Bc_ x0) (fun v5 => iteO (decide (v5 ≠ 0)) (some ((⟨0, ([] : List Tip), ([] : List Tip), ([] : List Arc)⟩ : Fst), 1)) (bnd (onceT x0.starts) (fun v14 => bnd (onceT x0.ends) (fun v17 => bnd (onceA x0.arcs) (fun v20 => some ((⟨x0.states, v14, v17, v20⟩ : Fst), 0))))))
def G9_ (σ : Store) (r : Fst × Int) : Value → Store → List Res → Prop := fun v σ' H' =>
 ∃ (a1 : Option Addr), ∃ (c1 : Nat), ∃ (a2 : Option Addr), ∃ (c2 : Nat), ∃ (a3 : Option Addr), ∃ (c3 : Nat),  v = .tuple #[.agg #[.int .i64 r.1.states, .slice a1 r.1.starts.length c1, .slice a2 r.1.ends.length c2, .slice a3 r.1.arcs.length c3], .int .i64 r.2] ∧ RS σ' 2 encTip (.slice a1 r.1.starts.length c1) r.1.starts ∧ RS σ' 2 encTip (.slice a2 r.1.ends.length c2) r.1.ends ∧ RS σ' 8 encArc (.slice a3 r.1.arcs.length c3) r.1.arcs ∧ H' = []
theorem Gu_ {σ : Store} {x0 : Fst} {a0_0 : Option Addr} {c0_0 : Nat} {a0_1 : Option Addr} {c0_1 : Nat} {a0_2 : Option Addr} {c0_2 : Nat} (f0_0 : RS σ 2 encTip (.slice a0_0 x0.starts.length c0_0) x0.starts) (f0_1 : RS σ 2 encTip (.slice a0_1 x0.ends.length c0_1) x0.ends) (f0_2 : RS σ 8 encArc (.slice a0_2 x0.arcs.length c0_2) x0.arcs) {r : Fst × Int} (hh : E4_ x0 = some r) :
  Con Tryz.prog 26 #[.agg #[.int .i64 x0.states, .slice a0_0 x0.starts.length c0_0, .slice a0_1 x0.ends.length c0_1, .slice a0_2 x0.arcs.length c0_2]] σ [] (G9_ σ r) := by
 dsimp only [E4_] at hh
 have f0_0b := f0_0.rv.big
 have f0_1b := f0_1.rv.big
 have f0_2b := f0_2.rv.big
 refine Con.mk (n := 20) Tryz.func26 z z z (fun w0 => ?_)
 refine TC.a (TL.op z (boxA z z z z (fun b101 => ?_)))
 refine TL.op z (OpOk.alloc z ze25 z z (fun b103 => ?_))
 refine TL.i z z (TL.en (TC.seq (TC.a (TL.w z (loadAll z ag25 sz25 z (i := 1) z z) ?_))))
 obtain ⟨v5, u5, hh⟩ := bnd_e hh
 refine TL.op z (callP (Ca_ (x0 := x0) f0_0 f0_1 f0_2 u5) z z pf21 z z z ?_)
 refine TL.w z (OpVal.neq z z z) (TL.en (TC.cD z hh (fun h105 hh => ?_) (fun h105 hh => ?_)))
 ·refine TC.a (TL.w z (buildL z pl25 ze25 z) (TL.op z (storeAll z sz25 z z z z z z ?_)))
  refine TL.i z z (TL.en (TC.rt 1 (S.r ?_)))
  obtain rfl := so hh
  exact ro [] z (RVs.agg ag25 sz25 z (i := 0) z z (RVs.tmp z RVs.nil)) ⟨none, 0, none, 0, none, 0, z, (RS.nilF _ encTip encTip_len), (RS.nilF _ encTip encTip_len), (RS.nilF _ encArc encArc_len), z⟩
 ·refine TC.skip (S.n (TC.seq ?_))
  obtain ⟨v14, u14, hh⟩ := bnd_e hh
  obtain ⟨v17, u17, hh⟩ := bnd_e hh
  obtain ⟨v20, u20, hh⟩ := bnd_e hh
  refine TC.draw [12, 13] (by kernel_rfl) (TA.a 0 z (fieldLoc z fo25_0 z) z (TA.b 1 z (loadLoc z ag3 z (i := 1) z z) z (TA.a 2 z (fieldLoc z fo25_1 z) z (TA.b 3 z (loadLoc z ag22 z (i := 1) z z) z (TA.a 5 z (fieldLoc z fo25_2 z) z (TA.b 6 z (loadLoc z ag22 z (i := 1) z z) z (TA.a 8 z (fieldLoc z fo25_3 z) z (TA.b 9 z (loadLoc z ag23 z (i := 1) z z) z (TA.ac 4 z (OpOk.call (Gn_ f0_0 u14) z z pf57 z z z z ?_))))))))))
  rintro _ _ _ hle112 ⟨a112_1, c112_1, rfl, rfl, rfl⟩
  refine k1 (TA.ac 7 z (OpOk.call (Gn_ f0_1 u17) z z pf57 z z z z ?_))
  rintro _ _ _ hle114 ⟨a114_1, c114_1, rfl, rfl, rfl⟩
  refine k2 (TA.ac 10 z (OpOk.call (Hh_ f0_2 u20) z z pf59 z z z z ?_))
  rintro _ _ _ hle116 ⟨a116_1, c116_1, rfl, rfl, rfl⟩
  refine k3 (TA.a 11 z (buildL z pl25 ze25 z) z (TA.front 3 z z (TA.last 12 (by kernel_rfl) z z z (storeAll z sz25 z z z z z z ?_))))
  refine TZ.v 13 (by kernel_rfl) z z z (moveI (.inr z) z) z z (TZ.done (by kernel_rfl) (S.n (TC.front 3 z z (TC.sealS encTip_len (fun τ120 hle119 hr118 => ?_)))))
  have hr118b := hr118.rv.big
  refine TC.front 2 z z (TC.sealS encTip_len (fun τ123 hle122 hr121 => ?_))
  replace hr118 := hr118.mono hle122
  have hr121b := hr121.rv.big
  refine TC.front 1 z z (TC.sealS encArc_len (fun τ126 hle125 hr124 => ?_))
  replace hr118 := hr118.mono hle125
  replace hr121 := hr121.mono hle125
  have hr124b := hr124.rv.big
  refine TC.rt 1 ?_
  obtain rfl := so hh
  exact ro [] z (RVs.agg ag25 sz25 z (i := 0) z z (RVs.tmp z RVs.nil)) ⟨a112_1, c112_1, a114_1, c114_1, a116_1, c116_1, z, hr118, hr121, hr124, z⟩
noncomputable def Fh_ (l120 : List (List Arc)) (x0 : Fst) (k124 : Nat) : Option (((List (List Arc)) × Nat) ⊕ ((List (List UInt8)) × Int)) :=
 nxt ((l120.set (((nth x0.arcs k124 Arc.zero).frm).toNat) ((nth l120 (((nth x0.arcs k124 Arc.zero).frm).toNat) ([] : List Arc)) ++ [(nth x0.arcs k124 Arc.zero)])), (k124 + 1))
noncomputable def Fo_ (l229 : List (List (List UInt8))) (x0 : Fst) (k233 : Nat) : Option (((List (List (List UInt8))) × Nat) ⊕ ((List (List UInt8)) × Int)) :=
 nxt ((l229.set (((nth x0.ends k233 Tip.zero).state).toNat) ((nth l229 (((nth x0.ends k233 Tip.zero).state).toNat) ([] : List (List UInt8))) ++ [(nth x0.ends k233 Tip.zero).out])), (k233 + 1))
noncomputable def Bn_ (l229 : List (List (List UInt8))) (v120c : FPair × Unit) (l338 : List (List UInt8)) (k341 : Nat) : Option (((List (List UInt8)) × Nat) ⊕ (((List (List UInt8))) ⊕ ((List (List UInt8)) × Int))) :=
 iteO (decide (((k341 : Nat) : Int) < (((nth l229 v120c.1.state.toNat ([] : List (List UInt8))).length : Nat) : Int))) (grd (v120c.1.out.length + (nth (nth l229 v120c.1.state.toNat ([] : List (List UInt8))) k341 ([] : List UInt8)).length ≤ 9223372036854775807) (grd ((l338.length + [(v120c.1.out ++ (nth (nth l229 v120c.1.state.toNat ([] : List (List UInt8))) k341 ([] : List UInt8)))].length) * 16 ≤ 140737488355328) (nxt ((l338 ++ [(v120c.1.out ++ (nth (nth l229 v120c.1.state.toNat ([] : List (List UInt8))) k341 ([] : List UInt8)))]), (k341 + 1))))) (fin (nxt l338))
noncomputable def Bj_ (l229 : List (List (List UInt8))) (l299 : List (List UInt8)) (oE : Option (FPair × Unit)) : Option (((List (List UInt8))) ⊕ ((List (List UInt8)) × Int)) :=
 optE oE (fin (bnd (onceS l299) (fun v148 => some (v148, 0)))) (fun v120c => grd (0 ≤ v120c.1.state ∧ v120c.1.state < (l229.length : Int)) (iter (fun q : (List (List UInt8)) × Nat => Bn_ l229 v120c q.1 q.2) (l299, 0)))
noncomputable def Bk_ (x0 : Fst) (m201 : FM FPair Unit) (l229 : List (List (List UInt8))) (k233 : Nat) : Option (((List (List (List UInt8))) × Nat) ⊕ ((List (List UInt8)) × Int)) :=
 iteO (decide (((k233 : Nat) : Int) < ((x0.ends.length : Nat) : Int))) (grd (0 ≤ ((nth x0.ends k233 Tip.zero).state) ∧ ((nth x0.ends k233 Tip.zero).state) < (l229.length : Int)) (grd (((nth l229 (((nth x0.ends k233 Tip.zero).state).toNat) ([] : List (List UInt8))).length + [(nth x0.ends k233 Tip.zero).out].length) * 16 ≤ 140737488355328) (grd (0 ≤ ((nth x0.ends k233 Tip.zero).state) ∧ ((nth x0.ends k233 Tip.zero).state) < (l229.length : Int)) (Fo_ l229 x0 k233)))) (fin (allP (fun q => Rep q m201) (fun q => runL (fun (q : (List (List UInt8))) (oE : Option (FPair × Unit)) => Bj_ l229 q oE) q ([] : List (List UInt8)))))
noncomputable def A9_ (x1 : List UInt8) (l120 : List (List Arc)) (x0 : Fst) (m201 : FM FPair Unit) (k203 : Nat) : Option (((FM FPair Unit) × Nat) ⊕ ((List (List UInt8)) × Int)) :=
 iteO (decide (((k203 : Nat) : Int) < ((x1.length : Nat) : Int))) (bnd (E6_ l120 m201 (nth x1 k203 (0 : UInt8))) (fun v74 => iteO (!v74.2) (fin (some (([] : List (List UInt8)), 2))) (nxt (v74.1, (k203 + 1))))) (fin (grd (0 ≤ x0.states ∧ 24 * x0.states.toNat ≤ 281474976710656) (iter (fun q : (List (List (List UInt8))) × Nat => Bk_ x0 m201 q.1 q.2) ((List.replicate x0.states.toNat ([] : List (List UInt8))), 0))))
noncomputable def Bl_ (x0 : Fst) (x1 : List UInt8) (l120 : List (List Arc)) (m180 : FM FPair Unit) (k181 : Nat) : Option (((FM FPair Unit) × Nat) ⊕ ((List (List UInt8)) × Int)) :=
 iteO (decide (((k181 : Nat) : Int) < ((x0.starts.length : Nat) : Int))) (nxt ((m180.put (⟨(nth x0.starts k181 Tip.zero).state, (nth x0.starts k181 Tip.zero).out⟩ : FPair) ()), (k181 + 1))) (fin (iter (fun q : (FM FPair Unit) × Nat => A9_ x1 l120 x0 q.1 q.2) (m180, 0)))
noncomputable def Bi_ (x0 : Fst) (x1 : List UInt8) (l120 : List (List Arc)) (k124 : Nat) : Option (((List (List Arc)) × Nat) ⊕ ((List (List UInt8)) × Int)) :=
 iteO (decide (((k124 : Nat) : Int) < ((x0.arcs.length : Nat) : Int))) (grd (0 ≤ ((nth x0.arcs k124 Arc.zero).frm) ∧ ((nth x0.arcs k124 Arc.zero).frm) < (l120.length : Int)) (grd (((nth l120 (((nth x0.arcs k124 Arc.zero).frm).toNat) ([] : List Arc)).length + [(nth x0.arcs k124 Arc.zero)].length) * 72 ≤ 140737488355328) (grd (0 ≤ ((nth x0.arcs k124 Arc.zero).frm) ∧ ((nth x0.arcs k124 Arc.zero).frm) < (l120.length : Int)) (Fh_ l120 x0 k124)))) (fin (iter (fun q : (FM FPair Unit) × Nat => Bl_ x0 x1 l120 q.1 q.2) ((FM.emp : FM FPair Unit), 0)))
noncomputable def Ey_ (x0 : Fst) (x1 : List UInt8) : Option ((List (List UInt8)) × Int) :=
 grd (x1.length ≤ 281474976710656) (bnd (Bc_ x0) (fun v5 => iteO (decide (v5 ≠ 0)) (some (([] : List (List UInt8)), 1)) (iteO (decide (256 < ((x1.length : Nat) : Int))) (some (([] : List (List UInt8)), 2)) (grd (0 ≤ x0.states ∧ 24 * x0.states.toNat ≤ 281474976710656) (iter (fun q : (List (List Arc)) × Nat => Bi_ x0 x1 q.1 q.2) ((List.replicate x0.states.toNat ([] : List Arc)), 0))))))
def Hb_ (σ : Store) (r : (List (List UInt8)) × Int) : Value → Store → List Res → Prop := fun v σ' H' =>
 ∃ (a1 : Option Addr), ∃ (c1 : Nat),  v = .tuple #[.slice a1 r.1.length c1, .int .i64 r.2] ∧ RS σ' 1 Go.E.encS (.slice a1 r.1.length c1) r.1 ∧ H' = []
theorem Gz_ {σ : Store} {x0 : Fst} {a0_0 : Option Addr} {c0_0 : Nat} {a0_1 : Option Addr} {c0_1 : Nat} {a0_2 : Option Addr} {c0_2 : Nat} {x1 : List UInt8} (f0_0 : RS σ 2 encTip (.slice a0_0 x0.starts.length c0_0) x0.starts) (f0_1 : RS σ 2 encTip (.slice a0_1 x0.ends.length c0_1) x0.ends) (f0_2 : RS σ 8 encArc (.slice a0_2 x0.arcs.length c0_2) x0.arcs) {r : (List (List UInt8)) × Int} (hh : Ey_ x0 x1 = some r) :
  Con Tryz.prog 11 #[.agg #[.int .i64 x0.states, .slice a0_0 x0.starts.length c0_0, .slice a0_1 x0.ends.length c0_1, .slice a0_2 x0.arcs.length c0_2], .string (bs x1)] σ [] (Hb_ σ r) := by
 dsimp only [Ey_] at hh
 have f0_0b := f0_0.rv.big
 have f0_1b := f0_1.rv.big
 have f0_2b := f0_2.rv.big
 refine Con.mk (n := 135) Tryz.func11 z z z (fun w0 => ?_)
 have x1b := grd_c hh
 replace hh := grd_t hh
 refine TC.a (TL.op z (boxA z z z z (fun b101 => ?_)))
 refine TL.s z z (TL.i z z (TL.en (TC.seq (TC.a (TL.w z (loadAll z ag25 sz25 z (i := 0) z z) ?_)))))
 obtain ⟨v5, u5, hh⟩ := bnd_e hh
 refine TL.op z (callP (Ca_ (x0 := x0) f0_0 f0_1 f0_2 u5) z z pf21 z z z ?_)
 refine TL.w z (OpVal.neq z z z) (TL.en (TC.cD z hh (fun h103 hh => ?_) (fun h103 hh => ?_)))
 ·refine TC.a (TL.s z z (TL.i z z (TL.en (TC.rt 0 (S.r ?_)))))
  obtain rfl := so hh
  exact rq [4, 5] ⟨none, 0, z, (RS.nilF _ Go.E.encS Go.E.encS_len), z⟩
 ·refine TC.skip (S.n (TC.seq (TC.a (TL.w z (moveStr (.inl z) z) (TL.w z (lenBs z underlying9 z) (TL.w z (OpVal.gtr z z z) (TL.en (TC.cD z hh (fun h104 hh => ?_) (fun h104 hh => ?_)))))))))
  ·refine TC.a (TL.s z z (TL.i z z (TL.en (TC.rt 0 (S.r ?_)))))
   obtain rfl := so hh
   exact rq [4, 5] ⟨none, 0, z, (RS.nilF _ Go.E.encS Go.E.encS_len), z⟩
  ·refine TC.skip (S.n (TC.a (TL.w z (fieldLoc z fo25_0 z) (TL.w z (loadLoc z ag3 z (i := 0) z z) ?_))))
   have u16 := grd_c hh
   replace hh := grd_t hh
   refine TL.op rfl (makeN (q := x0.states.toNat) (E := 66) (size := 8) (enc := encArc) rfl underlying68 sz23 by23 ze23 rfl rfl (by show Value.int _ _ = _; rw [Int.toNat_of_nonneg u16.1]) (by show Value.int _ _ = _; rw [Int.toNat_of_nonneg u16.1]) (by omega) (by decide) rfl (fun a105 c106 zf107 => ?_))
   refine TL.s z z (TL.en (TC.seq (TC.a (TL.w z (fieldLoc z fo25_3 z) (TL.w z (loadLoc z ag23 z (i := 1) z z) (TL.w z (lenC z underlying23 z) (TL.i z z (TL.en (TC.block (TC.loopG (α := ((List (List Arc)) × Nat) × ((List (NP Arc)))) (rgs [(8, 1), (34, 17)]) (fun g => [(34, .int .i64 ((g.1.2 : Nat) : Int))]) (fun g => [Res.cells b101 #[.int .i64 x0.states, .slice a0_0 x0.starts.length c0_0, .slice a0_1 x0.ends.length c0_1, .slice a0_2 x0.arcs.length c0_2] 25, Res.nest 23 66 8 encArc (.slice a105 (List.replicate x0.states.toNat ([] : List Arc)).length c106) g.2]) (fun g => σ) (fun g => iter (fun q : (List (List Arc)) × Nat => Bi_ x0 x1 q.1 q.2) g.1 = some r ∧ g.1.1.length = (List.replicate x0.states.toNat ([] : List Arc)).length ∧ Zn g.2 g.1.1) (fun g => rounds (fun q : (List (List Arc)) × Nat => Bi_ x0 x1 q.1 q.2) g.1) (((List.replicate x0.states.toNat ([] : List Arc)), 0), (List.replicate x0.states.toNat (nilN : NP Arc))) (Sub.f [1] 2) z (by repeat (first | exact trivial | refine ⟨z, ?_⟩)) ⟨hh, z, zf107⟩ (fun g1 j1 hg1 => ?_)))))))))))
   obtain ⟨⟨l120, k124⟩, z122⟩ := g1
   obtain ⟨hh, hn121, zf123⟩ := hg1
   try dsimp only at hn121 zf123 ⊢
   obtain ⟨z1, hh, hR1⟩ := iter_e hh
   dsimp only [Bi_] at hh
   have hn121b := hn121
   have zf123b := zf123.len
   refine TC.know (isSl_nest (q := 1) z zf123) (fun ⟨_, hb125⟩ => ?_)
   refine TC.a (TL.w z (OpVal.lss z z z) (TL.en (TC.seq (TC.cD z hh (fun h126 hh => ?_) (fun h126 hh => ?_)))))
   ·refine TC.skip (S.n (TC.cutG (α := (Unit) × ((List (NP Arc)))) (rgs [(8, 1), (36, 14)]) (fun g => []) (fun g => [Res.cells b101 #[.int .i64 x0.states, .slice a0_0 x0.starts.length c0_0, .slice a0_1 x0.ends.length c0_1, .slice a0_2 x0.arcs.length c0_2] 25, Res.nest 23 66 8 encArc (.slice a105 (List.replicate x0.states.toNat ([] : List Arc)).length c106) g.2]) (fun g => σ) (fun g => Fh_ l120 x0 k124 = some z1 ∧ (l120.set (((nth x0.arcs k124 Arc.zero).frm).toNat) ((nth l120 (((nth x0.arcs k124 Arc.zero).frm).toNat) ([] : List Arc)) ++ [(nth x0.arcs k124 Arc.zero)])).length = (List.replicate x0.states.toNat ([] : List Arc)).length ∧ Zn g.2 (l120.set (((nth x0.arcs k124 Arc.zero).frm).toNat) ((nth l120 (((nth x0.arcs k124 Arc.zero).frm).toNat) ([] : List Arc)) ++ [(nth x0.arcs k124 Arc.zero)]))) ?_ (fun g j hg => ?_)))
    ·skip
     refine TC.block (TC.a (TL.w z (indexN z underlying23 sz66 z z f0_2.rv.sl (by omega)) (TL.w z (loadSA Arc.zero z ag66 sz66 z f0_2 (by omega) (by omega)) (TL.op z (OpOk.alloc z ze66 z z (fun b130 => ?_))))))
     refine TL.op z (storeAll z sz66 z z z z z z ?_)
     refine TL.en ?_
     have u33 := grd_c hh
     replace hh := grd_t hh
     have u37 := grd_c hh
     replace hh := grd_t hh
     have u38 := grd_c hh
     replace hh := grd_t hh
     refine TC.drawR (Hr := [Res.cells b130 #[.int .i64 ((nth x0.arcs k124 Arc.zero).frm), .int .i64 ((nth x0.arcs k124 Arc.zero).to), .int .u64 ((((nth x0.arcs k124 Arc.zero).set).a : Nat) : Int), .int .u64 ((((nth x0.arcs k124 Arc.zero).set).b : Nat) : Int), .int .u64 ((((nth x0.arcs k124 Arc.zero).set).c : Nat) : Int), .int .u64 ((((nth x0.arcs k124 Arc.zero).set).d : Nat) : Int), .string (bs ((nth x0.arcs k124 Arc.zero).out)), .bool ((nth x0.arcs k124 Arc.zero).copy)] 66, Res.cells b101 #[.int .i64 x0.states, .slice a0_0 x0.starts.length c0_0, .slice a0_1 x0.ends.length c0_1, .slice a0_2 x0.arcs.length c0_2] 25]) (fun r hr => mem_pick [0, 1] z hr) [] (by kernel_rfl) (TA.a 0 z (moveSl (.inl z) z) z (TA.a 1 z (fieldLoc z fo66_0 z) z (TA.b 2 z (loadLoc z ag3 z (i := 0) z z) z (TA.a 3 z (moveSl (.inl z) z) z (TA.a 4 z (fieldLoc z fo66_0 z) z (TA.b 5 z (loadLoc z ag3 z (i := 0) z z) z (TA.know (isSl_nest (q := 2) z zf123) (fun ⟨hs143, hs143b⟩ => ?_))))))))
     refine TA.b 6 z (OpVal.index z underlying68 sz23 z z hs143 u33.1 u33.2) z (TA.b 8 z (loadAll z ag66 sz66 z (i := 0) z z) z ?_)
     obtain ⟨p144, hz144, hm144⟩ := Zn.at zf123 (i := ((nth x0.arcs k124 Arc.zero).frm).toNat) (by omega)
     refine TA.actN [7, 9] (by kernel_rfl) (an z z (OpVal.ok (loadN z ag23 z (q := 2) z hz144 hm144) z z ⟨(fun w h => sees_of (Store.le.refl _) (fun r hr => mem_pick [0, 1] z hr) w h), ?_⟩) (an z z (OpOk.lit (enc := encArc) [(nth x0.arcs k124 Arc.zero)] z underlying23 sz66 ze66 z z z encArc_len (by decide) (by decide) Arc.zero z (by decide) z (by decide) encArc_one (fun a145 c146 => ⟨(fun w h => sees_of (Store.le.refl _) (fun r hr => mem_pick [1, 2] z hr) w h), ?_⟩)) (True.intro)))
     ·skip
      refine TA.ac 9 z (OpOk.lit (enc := encArc) [(nth x0.arcs k124 Arc.zero)] z underlying23 sz66 ze66 z z z encArc_len (by decide) (by decide) Arc.zero z (by decide) z (by decide) encArc_one (fun a148 c149 => ⟨(fun w h => sees_of (Store.le.refl _) (fun r hr => mem_pick [1, 2] z hr) w h), ?_⟩))
      refine TA.front 3 z z (TA.by (fun w h => Reach.takeN hz144 hm144 h) (TA.ac 10 z (appendS z z underlying23 sz66 by66 ze66 z z (by decide) z z z (.inr ⟨_, 1, z⟩) (by simpa using u37) (by decide) (fun a152 c153 => (k3 ?_)))))
      refine TA.know (isSl_nestX (q := 1) z zf123) (fun ⟨hs154, hs154b⟩ => ?_)
      refine TA.b 11 z (OpVal.index z underlying68 sz23 z z hs154 u38.1 u38.2) z (TA.front 1 z z (TA.front 1 z z ?_))
      have hn156 : (l120.set (((nth x0.arcs k124 Arc.zero).frm).toNat) ((nth l120 (((nth x0.arcs k124 Arc.zero).frm).toNat) ([] : List Arc)) ++ [(nth x0.arcs k124 Arc.zero)])).length = (List.replicate x0.states.toNat ([] : List Arc)).length := (List.length_set ..).trans hn121
      refine TA.ac 12 rfl (storeX (l' := ((nth l120 (((nth x0.arcs k124 Arc.zero).frm).toNat) ([] : List Arc)) ++ [(nth x0.arcs k124 Arc.zero)])) rfl sz23 rfl rfl rfl rfl rfl (by rw [zf123.len]; omega) zf123 (fun zf155 => (k2 ?_)))
      exact TA.dn (B.n (S.n (cf ((), (z122.set (((nth x0.arcs k124 Arc.zero).frm).toNat) (((nth l120 (((nth x0.arcs k124 Arc.zero).frm).toNat) ([] : List Arc)) ++ [(nth x0.arcs k124 Arc.zero)]), (a152, c153)))) ⟨hh, hn156, zf155⟩ (Sub.f [3] 2))))
     ·skip
      obtain ⟨p157, hz157, hm157⟩ := Zn.at zf123 (i := ((nth x0.arcs k124 Arc.zero).frm).toNat) (by omega)
      refine TA.ac 7 z (OpVal.ok (loadN z ag23 z (q := 3) z hz157 hm157) z z ⟨(fun w h => sees_of (Store.le.refl _) (fun r hr => mem_pick [1, 2] z hr) w h), ?_⟩)
      refine TA.front 3 z z (TA.by (fun w h => Reach.takeN hz157 hm157 h) (TA.ac 10 z (appendS z z underlying23 sz66 by66 ze66 z z (by decide) z z z (.inr ⟨_, 1, z⟩) (by simpa using u37) (by decide) (fun a159 c160 => (k3 ?_)))))
      refine TA.know (isSl_nestX (q := 1) z zf123) (fun ⟨hs161, hs161b⟩ => ?_)
      refine TA.b 11 z (OpVal.index z underlying68 sz23 z z hs161 u38.1 u38.2) z (TA.front 1 z z (TA.front 1 z z ?_))
      have hn163 : (l120.set (((nth x0.arcs k124 Arc.zero).frm).toNat) ((nth l120 (((nth x0.arcs k124 Arc.zero).frm).toNat) ([] : List Arc)) ++ [(nth x0.arcs k124 Arc.zero)])).length = (List.replicate x0.states.toNat ([] : List Arc)).length := (List.length_set ..).trans hn121
      refine TA.ac 12 rfl (storeX (l' := ((nth l120 (((nth x0.arcs k124 Arc.zero).frm).toNat) ([] : List Arc)) ++ [(nth x0.arcs k124 Arc.zero)])) rfl sz23 rfl rfl rfl rfl rfl (by rw [zf123.len]; omega) zf123 (fun zf162 => (k2 ?_)))
      exact TA.dn (B.n (S.n (cf ((), (z122.set (((nth x0.arcs k124 Arc.zero).frm).toNat) (((nth l120 (((nth x0.arcs k124 Arc.zero).frm).toNat) ([] : List Arc)) ++ [(nth x0.arcs k124 Arc.zero)]), (a159, c160)))) ⟨hh, hn163, zf162⟩ (Sub.f [3] 2))))
    ·skip
     obtain ⟨_, z128⟩ := g
     obtain ⟨hh, hn127, zf129⟩ := hg
     try dsimp only at hn127 zf129 ⊢
     dsimp only [Fh_] at hh
     have hn127b := hn127
     have zf129b := zf129.len
     refine TC.know (isSl_nest (q := 1) z zf129) (fun ⟨_, hb164⟩ => ?_)
     refine TC.region (TL.w z (OpVal.succ z z z (by omega)) (TL.i z z (TL.en ?_)))
     obtain ⟨hh, hlt165⟩ := nxt_x hR1 hh
     exact lf (((l120.set (((nth x0.arcs k124 Arc.zero).frm).toNat) ((nth l120 (((nth x0.arcs k124 Arc.zero).frm).toNat) ([] : List Arc)) ++ [(nth x0.arcs k124 Arc.zero)])), (k124 + 1)), z128) hlt165 ⟨hh, hn127, zf129⟩ (Sub.f [1, 1] 2)
   ·refine TC.exit (S.x (S.x ?_))
    replace hh := fin_x hR1 hh
    refine TC.exitHere (S.n (TC.a (TL.op z (makeMapB (enc := (fun x => Value.agg (encFPair x).toArray)) (encV := unitV) z z z (fun b166 => ?_)))))
    refine TL.w z (moveMap (.inr z) z) (TL.en (TC.seq (TC.a (TL.w z (fieldLoc z fo25_1 z) (TL.w z (loadLoc z ag22 z (i := 1) z z) (TL.w z (lenC z underlying22 z) (TL.i z z (TL.en (TC.block (TC.loopG (α := ((FM FPair Unit) × Nat) × (Unit)) (rgs [(11, 1), (55, 12)]) (fun g => [(55, .int .i64 ((g.1.2 : Nat) : Int))]) (fun g => [Res.cells b101 #[.int .i64 x0.states, .slice a0_0 x0.starts.length c0_0, .slice a0_1 x0.ends.length c0_1, .slice a0_2 x0.arcs.length c0_2] 25, Res.nest 23 66 8 encArc (.slice a105 (List.replicate x0.states.toNat ([] : List Arc)).length c106) z122, Res.mapB (fun x => Value.agg (encFPair x).toArray) unitV (some b166) g.1.1]) (fun g => σ) (fun g => iter (fun q : (FM FPair Unit) × Nat => Bl_ x0 x1 l120 q.1 q.2) g.1 = some r ∧ l120.length = (List.replicate x0.states.toNat ([] : List Arc)).length ∧ Zn z122 l120) (fun g => rounds (fun q : (FM FPair Unit) × Nat => Bl_ x0 x1 l120 q.1 q.2) g.1) (((FM.emp : FM FPair Unit), 0), ()) (Sub.f [2, 2] 3) z (by repeat (first | exact trivial | refine ⟨z, ?_⟩)) ⟨hh, hn121, zf123⟩ (fun g2 j2 hg2 => ?_)))))))))))
    obtain ⟨⟨m180, k181⟩, _⟩ := g2
    obtain ⟨hh, hn178, zf179⟩ := hg2
    try dsimp only at hn178 zf179 ⊢
    obtain ⟨z1, hh, hR1⟩ := iter_e hh
    dsimp only [Bl_] at hh
    have hn178b := hn178
    have zf179b := zf179.len
    refine TC.know (isSl_nest (q := 1) z zf179) (fun ⟨_, hb182⟩ => ?_)
    refine TC.a (TL.w z (OpVal.lss z z z) (TL.en (TC.seq (TC.cD z hh (fun h183 hh => ?_) (fun h183 hh => ?_)))))
    ·refine TC.skip (S.n (TC.seq (TC.block (TC.a (TL.w z (indexN z underlying22 sz43 z z f0_0.rv.sl (by omega)) (TL.w z (loadSA Tip.zero z ag43 sz43 z f0_0 (by omega) (by omega)) (TL.op z (OpOk.alloc z ze43 z z (fun b184 => ?_)))))))))
     refine TL.op z (storeAll z sz43 z z z z z z ?_)
     refine TL.en (TC.region (TL.w z (moveMap (.inl z) z) (TL.w z (fieldLoc z fo43_0 z) (TL.w z (loadLoc z ag3 z (i := 0) z z) (TL.w z (fieldLoc z fo43_1 z) (TL.w z (loadLoc z ag9 z (i := 0) z z) (TL.w z (buildL z pl84 ze84 z) (TL.w z (buildL z pl82 ze82 z) (TL.front 3 z z (TL.op z (updB (⟨(nth x0.starts k181 Tip.zero).state, (nth x0.starts k181 Tip.zero).out⟩ : FPair) () z underlying81 z z z z kl84 ?_)))))))))))
     refine TL.nil (B.n (S.n (TC.region (TL.w z (OpVal.succ z z z (by omega)) (TL.i z z (TL.en ?_))))))
     obtain ⟨hh, hlt186⟩ := nxt_x hR1 hh
     exact lf (((m180.put (⟨(nth x0.starts k181 Tip.zero).state, (nth x0.starts k181 Tip.zero).out⟩ : FPair) ()), (k181 + 1)), ()) hlt186 ⟨hh, hn178, zf179⟩ (Sub.f [3, 3] 3)
    ·refine TC.exit (S.x (S.x ?_))
     replace hh := fin_x hR1 hh
     refine TC.exitHere (S.n (TC.seq (TC.a (TL.w z (moveStr (.inl z) z) (TL.w z (lenBs z underlying9 z) (TL.i z z (TL.en (TC.block ?_))))))))
     rw [← hn178]
     refine TC.front 1 z z (TC.seals (fun w h => Reach.sealNest encArc_len zf179 h) (fun τ206 hle205 hr204 => ?_))
     replace f0_1 := f0_1.mono hle205
     have hr204b := hr204.big
     refine TC.loopG (α := ((FM FPair Unit) × Nat) × ((Option Nat) × Store)) (rgs [(4, 2), (9, 1), (12, 3), (69, 16)]) (fun g => [(9, .map g.2.1), (69, .int .i64 ((g.1.2 : Nat) : Int))]) (fun g => [Res.cells b101 #[.int .i64 x0.states, .slice a0_0 x0.starts.length c0_0, .slice a0_1 x0.ends.length c0_1, .slice a0_2 x0.arcs.length c0_2] 25, Res.mapB (fun x => Value.agg (encFPair x).toArray) unitV g.2.1 g.1.1]) (fun g => g.2.2) (fun g => iter (fun q : (FM FPair Unit) × Nat => A9_ x1 l120 x0 q.1 q.2) g.1 = some r ∧ RZ g.2.2 (pkSl 8 encArc encArc_len) (.slice a105 l120.length c106) l120 ∧ Store.le τ206 g.2.2) (fun g => rounds (fun q : (FM FPair Unit) × Nat => A9_ x1 l120 x0 q.1 q.2) g.1) ((m180, 0), ((some b166), τ206)) (Sub.f [1, 1] 2) z (by repeat (first | exact trivial | refine ⟨z, ?_⟩)) ⟨hh, hr204, (Store.le.refl _)⟩ (fun g3 j3 hg3 => ?_)
     obtain ⟨⟨m201, k203⟩, ⟨b202, τ207⟩⟩ := g3
     obtain ⟨hh, hr199, hle208⟩ := hg3
     try dsimp only at hr199
     dsimp only at hle208
     replace f0_1 := f0_1.mono hle208
     try dsimp only
     obtain ⟨z1, hh, hR1⟩ := iter_e hh
     dsimp only [A9_] at hh
     have hr199b := hr199.big
     refine TC.a (TL.w z (OpVal.lss z z z) (TL.en (TC.seq (TC.cD z hh (fun h209 hh => ?_) (fun h209 hh => ?_)))))
     ·refine TC.skip (S.n (TC.seq (TC.block (TC.a (TL.i z z (TL.i z z (TL.en (TC.a (TL.s z z (TL.w z (moveMap (.inl z) z) (TL.w z (moveStr (.inl z) z) (TL.i z z (TL.w z (indexBs z underlying9 z z (by omega)) (TL.front 1 z z ?_))))))))))))))
      obtain ⟨v74, u74, hh⟩ := bnd_e hh
      refine TL.op z (OpOk.call (Gy_ hr199 u74) z z pf30 z z z z ?_)
      rintro _ _ _ hle210 ⟨b210_1, rfl, rfl, rfl⟩
      refine TL.w z (moveT (.inl z) z) (TL.w z (OpVal.extract z z z) (TL.w z (OpVal.extract z z z) (TL.w z (moveMap (.inr z) z) (TL.j z z (TL.en (TC.seq (TC.a (TL.j z z (TL.w z (OpVal.not z z) (TL.en (TC.cB z hh (fun h212 hh => ?_) (fun h212 hh => ?_))))))))))))
      ·refine TC.a (TL.s z z (TL.i z z (TL.en (TC.rt 0 (S.r (B.r (S.r (S.r ?_))))))))
       replace hh := fin_x hR1 hh
       refine B.r (S.r ?_)
       obtain rfl := so hh
       exact rq [4, 5] ⟨none, 0, z, (RS.nilF _ Go.E.encS Go.E.encS_len), z⟩
      ·refine TC.skip (S.n (TC.region (TL.w z (moveMap (.inl z) z) (TL.w z (moveMap (.inr z) z) (TL.nil (B.n (S.n (TC.region (TL.w z (OpVal.succ z z z (by omega)) (TL.i z z (TL.en ?_)))))))))))
       obtain ⟨hh, hlt213⟩ := nxt_x hR1 hh
       exact lf ((v74.1, (k203 + 1)), (b210_1, τ207)) hlt213 ⟨hh, hr199, hle208⟩ (Sub.f [1] 2)
     ·refine TC.exit (S.x (S.x ?_))
      replace hh := fin_x hR1 hh
      refine TC.exitHere (S.n (TC.a (TL.w z (fieldLoc z fo25_0 z) (TL.w z (loadLoc z ag3 z (i := 0) z z) ?_))))
      have u90 := grd_c hh
      replace hh := grd_t hh
      refine TL.op rfl (makeN (q := x0.states.toNat) (E := 9) (size := 1) (enc := Go.E.encS) rfl underlying87 sz31 by31 ze31 rfl rfl (by show Value.int _ _ = _; rw [Int.toNat_of_nonneg u90.1]) (by show Value.int _ _ = _; rw [Int.toNat_of_nonneg u90.1]) (by omega) (by decide) rfl (fun a214 c215 zf216 => ?_))
      refine TL.s z z (TL.en (TC.seq (TC.a (TL.w z (fieldLoc z fo25_2 z) (TL.w z (loadLoc z ag22 z (i := 1) z z) (TL.w z (lenC z underlying22 z) (TL.i z z (TL.en (TC.block (TC.loopG (α := ((List (List (List UInt8))) × Nat) × ((List (NP (List UInt8))))) (rgs [(17, 1), (91, 18)]) (fun g => [(91, .int .i64 ((g.1.2 : Nat) : Int))]) (fun g => [Res.mapB (fun x => Value.agg (encFPair x).toArray) unitV b202 m201, Res.nest 31 9 1 Go.E.encS (.slice a214 (List.replicate x0.states.toNat ([] : List (List UInt8))).length c215) g.2]) (fun g => τ207) (fun g => iter (fun q : (List (List (List UInt8))) × Nat => Bk_ x0 m201 q.1 q.2) g.1 = some r ∧ g.1.1.length = (List.replicate x0.states.toNat ([] : List (List UInt8))).length ∧ Zn g.2 g.1.1) (fun g => rounds (fun q : (List (List (List UInt8))) × Nat => Bk_ x0 m201 q.1 q.2) g.1) (((List.replicate x0.states.toNat ([] : List (List UInt8))), 0), (List.replicate x0.states.toNat (nilN : NP (List UInt8)))) (Sub.f [2] 2) z (by repeat (first | exact trivial | refine ⟨z, ?_⟩)) ⟨hh, z, zf216⟩ (fun g4 j4 hg4 => ?_)))))))))))
      obtain ⟨⟨l229, k233⟩, z231⟩ := g4
      obtain ⟨hh, hn230, zf232⟩ := hg4
      try dsimp only at hn230 zf232 ⊢
      obtain ⟨z1, hh, hR1⟩ := iter_e hh
      dsimp only [Bk_] at hh
      have hn230b := hn230
      have zf232b := zf232.len
      refine TC.know (isSl_nest (q := 1) z zf232) (fun ⟨_, hb234⟩ => ?_)
      refine TC.a (TL.w z (OpVal.lss z z z) (TL.en (TC.seq (TC.cD z hh (fun h235 hh => ?_) (fun h235 hh => ?_)))))
      ·refine TC.skip (S.n (TC.cutG (α := (Unit) × ((List (NP (List UInt8))))) (rgs [(17, 1), (93, 15)]) (fun g => []) (fun g => [Res.mapB (fun x => Value.agg (encFPair x).toArray) unitV b202 m201, Res.nest 31 9 1 Go.E.encS (.slice a214 (List.replicate x0.states.toNat ([] : List (List UInt8))).length c215) g.2]) (fun g => τ207) (fun g => Fo_ l229 x0 k233 = some z1 ∧ (l229.set (((nth x0.ends k233 Tip.zero).state).toNat) ((nth l229 (((nth x0.ends k233 Tip.zero).state).toNat) ([] : List (List UInt8))) ++ [(nth x0.ends k233 Tip.zero).out])).length = (List.replicate x0.states.toNat ([] : List (List UInt8))).length ∧ Zn g.2 (l229.set (((nth x0.ends k233 Tip.zero).state).toNat) ((nth l229 (((nth x0.ends k233 Tip.zero).state).toNat) ([] : List (List UInt8))) ++ [(nth x0.ends k233 Tip.zero).out]))) ?_ (fun g j hg => ?_)))
       ·skip
        refine TC.block (TC.a (TL.w z (indexN z underlying22 sz43 z z f0_1.rv.sl (by omega)) (TL.w z (loadSA Tip.zero z ag43 sz43 z f0_1 (by omega) (by omega)) (TL.op z (OpOk.alloc z ze43 z z (fun b239 => ?_))))))
        refine TL.op z (storeAll z sz43 z z z z z z ?_)
        refine TL.en ?_
        have u107 := grd_c hh
        replace hh := grd_t hh
        have u112 := grd_c hh
        replace hh := grd_t hh
        have u113 := grd_c hh
        replace hh := grd_t hh
        refine TC.drawR (Hr := [Res.cells b239 #[.int .i64 ((nth x0.ends k233 Tip.zero).state), .string (bs ((nth x0.ends k233 Tip.zero).out))] 43, Res.mapB (fun x => Value.agg (encFPair x).toArray) unitV b202 m201]) (fun r hr => mem_pick [0, 1] z hr) [] (by kernel_rfl) (TA.a 0 z (moveSl (.inl z) z) z (TA.a 1 z (fieldLoc z fo43_0 z) z (TA.b 2 z (loadLoc z ag3 z (i := 0) z z) z (TA.a 3 z (moveSl (.inl z) z) z (TA.a 4 z (fieldLoc z fo43_0 z) z (TA.b 5 z (loadLoc z ag3 z (i := 0) z z) z (TA.know (isSl_nest (q := 2) z zf232) (fun ⟨hs252, hs252b⟩ => ?_))))))))
        refine TA.b 6 z (OpVal.index z underlying87 sz31 z z hs252 u107.1 u107.2) z (TA.a 8 z (fieldLoc z fo43_1 z) z (TA.b 9 z (loadLoc z ag9 z (i := 0) z z) z ?_))
        obtain ⟨p253, hz253, hm253⟩ := Zn.at zf232 (i := ((nth x0.ends k233 Tip.zero).state).toNat) (by omega)
        refine TA.actN [7, 10] (by kernel_rfl) (an z z (OpVal.ok (loadN z ag31 z (q := 2) z hz253 hm253) z z ⟨(fun w h => sees_of (Store.le.refl _) (fun r hr => mem_pick [0, 1] z hr) w h), ?_⟩) (an z z (OpOk.lit (enc := Go.E.encS) [(nth x0.ends k233 Tip.zero).out] z underlying31 sz9 ze9 z z z Go.E.encS_len (by decide) (by decide) ([] : List UInt8) z (by decide) z (by decide) Go.E.encS_one (fun a254 c255 => ⟨(fun w h => sees_of (Store.le.refl _) (fun r hr => mem_pick [1, 2] z hr) w h), ?_⟩)) (True.intro)))
        ·skip
         refine TA.ac 10 z (OpOk.lit (enc := Go.E.encS) [(nth x0.ends k233 Tip.zero).out] z underlying31 sz9 ze9 z z z Go.E.encS_len (by decide) (by decide) ([] : List UInt8) z (by decide) z (by decide) Go.E.encS_one (fun a257 c258 => ⟨(fun w h => sees_of (Store.le.refl _) (fun r hr => mem_pick [1, 2] z hr) w h), ?_⟩))
         refine TA.front 3 z z (TA.by (fun w h => Reach.takeN hz253 hm253 h) (TA.ac 11 z (appendS z z underlying31 sz9 by9 ze9 z z (by decide) z z z (.inr ⟨_, 1, z⟩) (by simpa using u112) (by decide) (fun a261 c262 => (k3 ?_)))))
         refine TA.know (isSl_nestX (q := 1) z zf232) (fun ⟨hs263, hs263b⟩ => ?_)
         refine TA.b 12 z (OpVal.index z underlying87 sz31 z z hs263 u113.1 u113.2) z (TA.front 1 z z (TA.front 1 z z ?_))
         have hn265 : (l229.set (((nth x0.ends k233 Tip.zero).state).toNat) ((nth l229 (((nth x0.ends k233 Tip.zero).state).toNat) ([] : List (List UInt8))) ++ [(nth x0.ends k233 Tip.zero).out])).length = (List.replicate x0.states.toNat ([] : List (List UInt8))).length := (List.length_set ..).trans hn230
         refine TA.ac 13 rfl (storeX (l' := ((nth l229 (((nth x0.ends k233 Tip.zero).state).toNat) ([] : List (List UInt8))) ++ [(nth x0.ends k233 Tip.zero).out])) rfl sz31 rfl rfl rfl rfl rfl (by rw [zf232.len]; omega) zf232 (fun zf264 => (k2 ?_)))
         exact TA.dn (B.n (S.n (cf ((), (z231.set (((nth x0.ends k233 Tip.zero).state).toNat) (((nth l229 (((nth x0.ends k233 Tip.zero).state).toNat) ([] : List (List UInt8))) ++ [(nth x0.ends k233 Tip.zero).out]), (a261, c262)))) ⟨hh, hn265, zf264⟩ (Sub.f [3] 2))))
        ·skip
         obtain ⟨p266, hz266, hm266⟩ := Zn.at zf232 (i := ((nth x0.ends k233 Tip.zero).state).toNat) (by omega)
         refine TA.ac 7 z (OpVal.ok (loadN z ag31 z (q := 3) z hz266 hm266) z z ⟨(fun w h => sees_of (Store.le.refl _) (fun r hr => mem_pick [1, 2] z hr) w h), ?_⟩)
         refine TA.front 3 z z (TA.by (fun w h => Reach.takeN hz266 hm266 h) (TA.ac 11 z (appendS z z underlying31 sz9 by9 ze9 z z (by decide) z z z (.inr ⟨_, 1, z⟩) (by simpa using u112) (by decide) (fun a268 c269 => (k3 ?_)))))
         refine TA.know (isSl_nestX (q := 1) z zf232) (fun ⟨hs270, hs270b⟩ => ?_)
         refine TA.b 12 z (OpVal.index z underlying87 sz31 z z hs270 u113.1 u113.2) z (TA.front 1 z z (TA.front 1 z z ?_))
         have hn272 : (l229.set (((nth x0.ends k233 Tip.zero).state).toNat) ((nth l229 (((nth x0.ends k233 Tip.zero).state).toNat) ([] : List (List UInt8))) ++ [(nth x0.ends k233 Tip.zero).out])).length = (List.replicate x0.states.toNat ([] : List (List UInt8))).length := (List.length_set ..).trans hn230
         refine TA.ac 13 rfl (storeX (l' := ((nth l229 (((nth x0.ends k233 Tip.zero).state).toNat) ([] : List (List UInt8))) ++ [(nth x0.ends k233 Tip.zero).out])) rfl sz31 rfl rfl rfl rfl rfl (by rw [zf232.len]; omega) zf232 (fun zf271 => (k2 ?_)))
         exact TA.dn (B.n (S.n (cf ((), (z231.set (((nth x0.ends k233 Tip.zero).state).toNat) (((nth l229 (((nth x0.ends k233 Tip.zero).state).toNat) ([] : List (List UInt8))) ++ [(nth x0.ends k233 Tip.zero).out]), (a268, c269)))) ⟨hh, hn272, zf271⟩ (Sub.f [3] 2))))
       ·skip
        obtain ⟨_, z237⟩ := g
        obtain ⟨hh, hn236, zf238⟩ := hg
        try dsimp only at hn236 zf238 ⊢
        dsimp only [Fo_] at hh
        have hn236b := hn236
        have zf238b := zf238.len
        refine TC.know (isSl_nest (q := 1) z zf238) (fun ⟨_, hb273⟩ => ?_)
        refine TC.region (TL.w z (OpVal.succ z z z (by omega)) (TL.i z z (TL.en ?_)))
        obtain ⟨hh, hlt274⟩ := nxt_x hR1 hh
        exact lf (((l229.set (((nth x0.ends k233 Tip.zero).state).toNat) ((nth l229 (((nth x0.ends k233 Tip.zero).state).toNat) ([] : List (List UInt8))) ++ [(nth x0.ends k233 Tip.zero).out])), (k233 + 1)), z237) hlt274 ⟨hh, hn236, zf238⟩ (Sub.f [1, 1] 2)
      ·refine TC.exit (S.x (S.x ?_))
       replace hh := fin_x hR1 hh
       refine TC.exitHere (S.n (TC.a (TL.s z z (TL.en (TC.seq (TC.a (TL.w z (moveMap (.inl z) z) (TL.op z (rangeB z underlying81 z z z (fun it275 l276 hl277 => ?_))))))))))
       refine TL.en (TC.block (TC.nilS 9 1 Go.E.encS (TC.loopG (α := ((List (List UInt8))) × ((Option Addr) × Nat × (List (FPair × Unit)) × (Option (FPair × Unit)))) (rgs [(18, 2), (21, 1), (111, 22)]) (fun g => [(18, .slice g.2.1 g.1.length g.2.2.1)]) (fun g => [Res.nest 31 9 1 Go.E.encS (.slice a214 (List.replicate x0.states.toNat ([] : List (List UInt8))).length c215) z231, Res.rowS 9 1 Go.E.encS (.slice g.2.1 g.1.length g.2.2.1) g.1, Res.rng (fun x => Value.agg (encFPair x).toArray) unitV b202 it275 m201 g.2.2.2.1 g.2.2.2.2]) (fun g => τ207) (fun g => runA (fun (q : (List (List UInt8))) (oE : Option (FPair × Unit)) => Bj_ l229 q oE) g.2.2.2.1 g.1 = some r ∧ l229.length = (List.replicate x0.states.toNat ([] : List (List UInt8))).length ∧ Zn z231 l229) (fun g => List.length g.2.2.2.1) (([] : List (List UInt8)), (none, 0, l276, none)) (Sub.f [1, 1, 2] 3) z (by repeat (first | exact trivial | refine ⟨z, ?_⟩)) ⟨(runA_of hh hl277), hn230, zf232⟩ (fun g5 j5 hg5 => ?_))))
       obtain ⟨l299, ⟨a300, c301, l302, o303⟩⟩ := g5
       obtain ⟨hh, hn296, zf297⟩ := hg5
       try dsimp only at hn296 zf297 ⊢
       have hn296b := hn296
       have zf297b := zf297.len
       refine TC.know (isSl_nest (q := 0) z zf297) (fun ⟨_, hb305⟩ => ?_)
       refine TC.isSl (i := 1) z (fun _ hb306 _ => ?_)
       refine TC.a (TL.front 2 z z (TL.op z (nextB (T := 0) z z z z z (fun hl307 => ?_) (fun l308 v120c l309 hl307 => ?_))))
       ·subst hl307
        obtain ⟨z1, hh, hR1⟩ := runA_end hh
        dsimp only [Bj_, optE_none] at hh
        refine TL.by (fun w h => Reach.unrng h) (TL.w z (OpVal.extract z z z) (TL.en (TC.seq (TC.f z (TC.exit (S.x (S.x ?_)))))))
        replace hh := finE_x hR1 hh
        refine TC.exitHere (S.n (TC.a (TL.s z z (TL.front 2 z z (TL.sealS Go.E.encS_len (fun τ312 hle311 hr310 => ?_))))))
        have hr310b := hr310.rv.big
        obtain ⟨v148, u148, hh⟩ := bnd_e hh
        refine TL.op z (OpOk.call (Hn_ hr310 u148) z z pf31 z z z z ?_)
        rintro _ _ _ hle313 ⟨a313_1, c313_1, rfl, rfl, rfl⟩
        refine TL.s z z (TL.i z z (TL.en (TC.sealS Go.E.encS_len (fun τ317 hle316 hr315 => ?_))))
        have hr315b := hr315.rv.big
        refine TC.rt 0 ?_
        obtain rfl := so hh
        exact rq [4, 5] ⟨a313_1, c313_1, z, hr315, z⟩
       ·subst hl307
        obtain ⟨z1, hh, hR1⟩ := runA_step hh
        dsimp only [Bj_, optE_some] at hh
        refine TL.w z (OpVal.extract z z z) (TL.en (TC.seq (TC.t z (TC.skip (S.n (TC.block (TC.a (TL.w z (OpVal.of (entryB z z (i := 0) z) (v' := .tuple #[.agg #[.int .i64 v120c.1.state, .string (bs v120c.1.out)], .agg #[]]) z) (TL.w z (OpVal.extract z z z) (TL.op z (OpOk.alloc z ze84 z z (fun b318 => ?_))))))))))))
        refine TL.op z (storeAll z sz84 z z z z z z ?_)
        refine TL.en (TC.a (TL.s z z (TL.w z (fieldLoc z fo84_0 z) (TL.w z (loadLoc z ag3 z (i := 0) z z) ?_))))
        have u129 := grd_c hh
        replace hh := grd_t hh
        refine TL.know (isSl_nest (q := 2) z zf297) (fun ⟨hs320, hs320b⟩ => ?_)
        refine TL.w z (OpVal.index z underlying87 sz31 z z hs320 u129.1 u129.2) ?_
        obtain ⟨p321, hz321, hm321⟩ := Zn.at zf297 (i := v120c.1.state.toNat) (by omega)
        refine TL.w z (loadN z ag31 z (q := 2) z hz321 hm321) (TL.w z (lenC z underlying31 z) (TL.i z z (TL.en (TC.block (TC.loopG (α := ((List (List UInt8)) × Nat) × ((Option Addr) × Nat)) (rgs [(18, 1), (21, 1), (121, 12)]) (fun g => [(18, .slice g.2.1 g.1.1.length g.2.2), (121, .int .i64 ((g.1.2 : Nat) : Int))]) (fun g => [Res.nest 31 9 1 Go.E.encS (.slice a214 (List.replicate x0.states.toNat ([] : List (List UInt8))).length c215) z231, Res.rowS 9 1 Go.E.encS (.slice g.2.1 g.1.1.length g.2.2) g.1.1, Res.cells b318 #[.int .i64 v120c.1.state, .string (bs v120c.1.out)] 84, Res.rng (fun x => Value.agg (encFPair x).toArray) unitV b202 it275 m201 (l308 ++ l309) (some v120c)]) (fun g => τ207) (fun g => iter (fun q : (List (List UInt8)) × Nat => Bn_ l229 v120c q.1 q.2) g.1 = some z1 ∧ l229.length = (List.replicate x0.states.toNat ([] : List (List UInt8))).length ∧ Zn z231 l229) (fun g => rounds (fun q : (List (List UInt8)) × Nat => Bn_ l229 v120c q.1 q.2) g.1) ((l299, 0), (a300, c301)) (Sub.f [1, 1, 3, 3] 4) z (by repeat (first | exact trivial | refine ⟨z, ?_⟩)) ⟨hh, hn296, zf297⟩ (fun g6 j6 hg6 => ?_))))))
        obtain ⟨⟨l338, k341⟩, ⟨a339, c340⟩⟩ := g6
        obtain ⟨hh, hn336, zf337⟩ := hg6
        try dsimp only at hn336 zf337 ⊢
        obtain ⟨z2, hh, hR2⟩ := iter_e hh
        dsimp only [Bn_] at hh
        have hn336b := hn336
        have zf337b := zf337.len
        refine TC.know (isSl_nest (q := 0) z zf337) (fun ⟨_, hb342⟩ => ?_)
        refine TC.isSl (i := 1) z (fun _ hb343 _ => ?_)
        refine TC.a (TL.w z (OpVal.lss z z z) (TL.en (TC.seq (TC.cD z hh (fun h344 hh => ?_) (fun h344 hh => ?_)))))
        ·refine TC.skip (S.n (TC.seq (TC.block (TC.a (TL.know (isSl_inner (q := 0) z hz321 hm321) (fun ⟨hs345, hs345b⟩ => ?_))))))
         refine TL.w z (indexN z underlying31 sz9 z z hs345 (by omega)) (TL.w z (OpVal.seen (sees_inner (q := 0) z hz321 hm321) (loadO1 ([] : List UInt8) z ag9 z (q := 0) z Go.E.encS_len (by omega) z)) (TL.w z (moveStr (.inr z) z) (TL.en (TC.region (TL.s z z (TL.w z (fieldLoc z fo84_1 z) (TL.w z (loadLoc z ag9 z (i := 2) z z) (TL.w z (moveStr (.inl z) z) ?_))))))))
         have u141 := grd_c hh
         replace hh := grd_t hh
         refine TL.w z (catBs z z z u141) (TL.op z (OpOk.lit (enc := Go.E.encS) [(v120c.1.out ++ (nth (nth l229 v120c.1.state.toNat ([] : List (List UInt8))) k341 ([] : List UInt8)))] z underlying31 sz9 ze9 z z z Go.E.encS_len (by decide) (by decide) ([] : List UInt8) z (by decide) z (by decide) Go.E.encS_one (fun a346 c347 => ?_)))
         refine TL.front 2 z z ?_
         have u143 := grd_c hh
         replace hh := grd_t hh
         refine TL.op z (appendS z z underlying31 sz9 by9 ze9 z z (by decide) z z z (.inr ⟨_, 0, z⟩) (by simpa using u143) (by decide) (fun a349 c350 => ?_))
         refine TL.s z z (TL.nil (B.n (S.n (TC.region (TL.w z (OpVal.succ z z z (by omega)) (TL.i z z (TL.en ?_)))))))
         obtain ⟨hh, hlt351⟩ := nxt_x hR2 hh
         exact lf (((l338 ++ [(v120c.1.out ++ (nth (nth l229 v120c.1.state.toNat ([] : List (List UInt8))) k341 ([] : List UInt8)))]), (k341 + 1)), (a349, c350)) hlt351 ⟨hh, hn336, zf337⟩ (Sub.f [4, 4, 2, 4] 4)
        ·refine TC.exit (S.x (S.x ?_))
         replace hh := fin_x hR2 hh
         refine TC.exitHere (B.n (S.n ?_))
         replace hh := nxtA_x hR1 hh
         exact lf (l338, (a339, c340, (l308 ++ l309), (some v120c))) (by simp) ⟨hh, hn336, zf337⟩ (Sub.f [3, 2, 2] 3)
end Go.Proofs.YtamgjehhjkgelaaGreatDoor
end

section
namespace Go.Proofs.YtamgjehhjkgelaaGreatDoor
open Go Go.E Go.E.OpVal Go.E.OpOk Go.Proofs.Tryz
noncomputable def Ao_ (x0 : List (List UInt8)) (x1 : List (List UInt8)) (k104 : Nat) : Option ((Nat) ⊕ (Bool)) :=
 iteO (decide (((k104 : Nat) : Int) < ((x0.length : Nat) : Int))) (grd (k104 < x1.length) (iteO (decide ((nth x0 k104 ([] : List UInt8)) ≠ (nth x1 k104 ([] : List UInt8)))) (fin (some false)) (nxt (k104 + 1)))) (fin (some true))
noncomputable def Bd_ (x0 : List (List UInt8)) (x1 : List (List UInt8)) : Option (Bool) :=
 iteO (decide (((x0.length : Nat) : Int) ≠ ((x1.length : Nat) : Int))) (some false) (iter (fun q : Nat => Ao_ x0 x1 q) 0)
theorem Fi_ {σ : Store} {x0 : List (List UInt8)} {a0_0 : Option Addr} {c0_0 : Nat} {x1 : List (List UInt8)} {a1_0 : Option Addr} {c1_0 : Nat} (f0_0 : RS σ 1 Go.E.encS (.slice a0_0 x0.length c0_0) x0) (f1_0 : RS σ 1 Go.E.encS (.slice a1_0 x1.length c1_0) x1) {r : Bool} (hh : Bd_ x0 x1 = some r) :
  Con Tryz.prog 12 #[.slice a0_0 x0.length c0_0, .slice a1_0 x1.length c1_0] σ [] (PureP (.bool r) σ) := by
 dsimp only [Bd_] at hh
 have f0_0b := f0_0.rv.big
 have f1_0b := f1_0.rv.big
 refine Con.mk (n := 26) Tryz.func12 z z z (fun w0 => ?_)
 refine TC.a (TL.j z z (TL.en (TC.seq (TC.a (TL.s z z (TL.w z (lenC z underlying31 z) (TL.s z z (TL.w z (lenC z underlying31 z) (TL.w z (OpVal.neq z z z) (TL.en (TC.cD z hh (fun h101 hh => ?_) (fun h101 hh => ?_))))))))))))
 ·refine TC.a (TL.j z z (TL.en (TC.ret (S.r ?_))))
  obtain rfl := so hh
  exact rq [4] ⟨z, z, z⟩
 ·refine TC.skip (S.n (TC.seq (TC.a (TL.i z z (TL.en (TC.block (TC.loopG (α := (Nat) × (Unit)) (rgs [(4, 2), (11, 15)]) (fun g => [(5, .int .i64 ((g.1 : Nat) : Int))]) (fun g => []) (fun g => σ) (fun g => iter (fun q : Nat => Ao_ x0 x1 q) g.1 = some r) (fun g => rounds (fun q : Nat => Ao_ x0 x1 q) g.1) (0, ()) (Sub.pre 0 z) z (by repeat (first | exact trivial | refine ⟨z, ?_⟩)) hh (fun g1 j1 hg1 => ?_))))))))
  obtain ⟨k104, _⟩ := g1
  have hh := hg1; clear hg1
  try dsimp only
  obtain ⟨z1, hh, hR1⟩ := iter_e hh
  dsimp only [Ao_] at hh
  refine TC.seq (TC.a (TL.i z z (TL.s z z (TL.w z (lenC z underlying31 z) (TL.w z (OpVal.lss z z z) (TL.en (TC.cD z hh (fun h105 hh => ?_) (fun h105 hh => ?_))))))))
  ·refine TC.skip (S.n (TC.seq (TC.block (TC.seq ?_))))
   have u19 := grd_c hh
   replace hh := grd_t hh
   refine TC.draw [] (by kernel_rfl) (TA.a 0 z (moveSl (.inl z) z) z (TA.a 1 z (moveI (.inl z) z) z (TA.b 2 z (indexN z underlying31 sz9 z z f0_0.rv.sl (by omega)) z (TA.b 3 z (loadS1 ([] : List UInt8) z ag9 z f0_0 (by omega) z) z (TA.a 4 z (moveSl (.inl z) z) z (TA.a 5 z (moveI (.inl z) z) z (TA.b 6 z (indexN z underlying31 sz9 z z f1_0.rv.sl (by omega)) z (TA.b 7 z (loadS1 ([] : List UInt8) z ag9 z f1_0 (by omega) z) z (TA.a 8 z (neqBs z z z) z (TA.dn (S.n (TC.cD z hh (fun h106 hh => ?_) (fun h106 hh => ?_)))))))))))))
   ·refine TC.a (TL.j z z (TL.en (TC.ret (B.r (S.r (S.r ?_))))))
    replace hh := fin_x hR1 hh
    refine B.r (S.r ?_)
    obtain rfl := so hh
    exact rq [4] ⟨z, z, z⟩
   ·refine TC.skip (B.n (S.n (TC.region (TL.i z z (TL.w z (OpVal.succ z z z (by omega)) (TL.i z z (TL.en ?_)))))))
    obtain ⟨hh, hlt107⟩ := nxt_x hR1 hh
    exact lf ((k104 + 1), ()) hlt107 hh (Sub.pre 0 z)
  ·refine TC.exit (S.x (S.x ?_))
   replace hh := fin_x hR1 hh
   refine TC.exitHere (S.n (TC.a (TL.j z z (TL.en (TC.ret ?_)))))
   obtain rfl := so hh
   exact rq [4] ⟨z, z, z⟩
noncomputable def Ak_ (x0 : List Tip) (x1 : List Tip) (k104 : Nat) : Option ((Nat) ⊕ (Bool)) :=
 iteO (decide (((k104 : Nat) : Int) < ((x0.length : Nat) : Int))) (grd (k104 < x1.length) (iteO (decide (¬ ((nth x0 k104 Tip.zero) = (nth x1 k104 Tip.zero)))) (fin (some false)) (nxt (k104 + 1)))) (fin (some true))
noncomputable def Aw_ (x0 : List Tip) (x1 : List Tip) : Option (Bool) :=
 iteO (decide (((x0.length : Nat) : Int) ≠ ((x1.length : Nat) : Int))) (some false) (iter (fun q : Nat => Ak_ x0 x1 q) 0)
theorem Ev_ {σ : Store} {x0 : List Tip} {a0_0 : Option Addr} {c0_0 : Nat} {x1 : List Tip} {a1_0 : Option Addr} {c1_0 : Nat} (f0_0 : RS σ 2 encTip (.slice a0_0 x0.length c0_0) x0) (f1_0 : RS σ 2 encTip (.slice a1_0 x1.length c1_0) x1) {r : Bool} (hh : Aw_ x0 x1 = some r) :
  Con Tryz.prog 16 #[.slice a0_0 x0.length c0_0, .slice a1_0 x1.length c1_0] σ [] (PureP (.bool r) σ) := by
 dsimp only [Aw_] at hh
 have f0_0b := f0_0.rv.big
 have f1_0b := f1_0.rv.big
 refine Con.mk (n := 26) Tryz.func16 z z z (fun w0 => ?_)
 refine TC.a (TL.j z z (TL.en (TC.seq (TC.a (TL.s z z (TL.w z (lenC z underlying22 z) (TL.s z z (TL.w z (lenC z underlying22 z) (TL.w z (OpVal.neq z z z) (TL.en (TC.cD z hh (fun h101 hh => ?_) (fun h101 hh => ?_))))))))))))
 ·refine TC.a (TL.j z z (TL.en (TC.ret (S.r ?_))))
  obtain rfl := so hh
  exact rq [4] ⟨z, z, z⟩
 ·refine TC.skip (S.n (TC.seq (TC.a (TL.i z z (TL.en (TC.block (TC.loopG (α := (Nat) × (Unit)) (rgs [(4, 2), (11, 15)]) (fun g => [(5, .int .i64 ((g.1 : Nat) : Int))]) (fun g => []) (fun g => σ) (fun g => iter (fun q : Nat => Ak_ x0 x1 q) g.1 = some r) (fun g => rounds (fun q : Nat => Ak_ x0 x1 q) g.1) (0, ()) (Sub.pre 0 z) z (by repeat (first | exact trivial | refine ⟨z, ?_⟩)) hh (fun g1 j1 hg1 => ?_))))))))
  obtain ⟨k104, _⟩ := g1
  have hh := hg1; clear hg1
  try dsimp only
  obtain ⟨z1, hh, hR1⟩ := iter_e hh
  dsimp only [Ak_] at hh
  refine TC.seq (TC.a (TL.i z z (TL.s z z (TL.w z (lenC z underlying22 z) (TL.w z (OpVal.lss z z z) (TL.en (TC.cD z hh (fun h105 hh => ?_) (fun h105 hh => ?_))))))))
  ·refine TC.skip (S.n (TC.seq (TC.block (TC.seq ?_))))
   have u19 := grd_c hh
   replace hh := grd_t hh
   refine TC.draw [] (by kernel_rfl) (TA.a 0 z (moveSl (.inl z) z) z (TA.a 1 z (moveI (.inl z) z) z (TA.b 2 z (indexN z underlying22 sz43 z z f0_0.rv.sl (by omega)) z (TA.b 3 z (loadSA Tip.zero z ag43 sz43 z f0_0 (by omega) (by omega)) z (TA.a 4 z (moveSl (.inl z) z) z (TA.a 5 z (moveI (.inl z) z) z (TA.b 6 z (indexN z underlying22 sz43 z z f1_0.rv.sl (by omega)) z (TA.b 7 z (loadSA Tip.zero z ag43 sz43 z f1_0 (by omega) (by omega)) z (TA.a 8 z (neqSt (p := (nth x0 k104 Tip.zero) = (nth x1 k104 Tip.zero)) z z z eg43 (es43 (nth x0 k104 Tip.zero) (nth x1 k104 Tip.zero)) z) z (TA.dn (S.n (TC.cD z hh (fun h106 hh => ?_) (fun h106 hh => ?_)))))))))))))
   ·refine TC.a (TL.j z z (TL.en (TC.ret (B.r (S.r (S.r ?_))))))
    replace hh := fin_x hR1 hh
    refine B.r (S.r ?_)
    obtain rfl := so hh
    exact rq [4] ⟨z, z, z⟩
   ·refine TC.skip (B.n (S.n (TC.region (TL.i z z (TL.w z (OpVal.succ z z z (by omega)) (TL.i z z (TL.en ?_)))))))
    obtain ⟨hh, hlt107⟩ := nxt_x hR1 hh
    exact lf ((k104 + 1), ()) hlt107 hh (Sub.pre 0 z)
  ·refine TC.exit (S.x (S.x ?_))
   replace hh := fin_x hR1 hh
   refine TC.exitHere (S.n (TC.a (TL.j z z (TL.en (TC.ret ?_)))))
   obtain rfl := so hh
   exact rq [4] ⟨z, z, z⟩
end Go.Proofs.YtamgjehhjkgelaaGreatDoor
end

section
namespace Go.Proofs.YtamgjehhjkgelaaGreatDoor
open Go Go.E
section
variable {α : Type} [DecidableEq α] (d : α)
def ddN (l : List α) : Nat → List α
  | 0 => []
  | n + 1 => ddN l n ++ (if n = 0 ∨ nth l n d ≠ nth l (n - 1) d then [nth l n d] else [])
theorem mem_ddN (l : List α) : ∀ n, n ≤ l.length → ∀ x, x ∈ ddN d l n ↔ x ∈ l.take n
  | 0, _, x => by simp [ddN]
  | n + 1, h, x => by
    rw [ddN, take_snoc l (by omega) d, List.mem_append, List.mem_append, mem_ddN l n (by omega)]
    by_cases hc : n = 0 ∨ nth l n d ≠ nth l (n - 1) d
    · rw [if_pos hc]
    · rw [if_neg hc]
      simp only [not_or, ne_eq, Decidable.not_not] at hc
      have : nth l n d ∈ l.take n := by
        rw [hc.2]
        have h1 : (l.take n)[n - 1]? = some (nth l (n - 1) d) := by rw [List.getElem?_take, if_pos (by omega)]; exact getD_some l (by omega) d
        exact List.mem_of_getElem? h1
      constructor
      · rintro (h | h)
        · exact .inl h
        · cases h
      · rintro (h | h)
        · exact .inl h
        · rw [List.mem_singleton.1 h]; exact .inl this
theorem nth_set_ne {l : List α} {k i : Nat} {v : α} (h : i ≠ k) : nth (l.set k v) i d = nth l i d := by
  simp [nth, List.getD, List.getElem?_set, Ne.symm h]
include d in
theorem take_set_succ {l : List α} {k : Nat} {v : α} (h : k < l.length) : (l.set k v).take (k + 1) = l.take k ++ [v] := by
  rw [take_snoc (l.set k v) (by simpa using h) d]
  congr 1
  · rw [List.take_set_of_le (Nat.le_refl _)]
  · simp [nth, List.getD, h]
noncomputable def gC_j (k125 : Nat) (l128 : List α) (k130 : Nat) : Option ((List α × Nat × Nat) ⊕ (Nat ⊕ List α)) :=
  nxt (l128, k130, (k125 + 1))
noncomputable def gC_b2 (x0 : List α) (k105 : Nat) (l122 : List α) (k124 : Nat) (k125 : Nat) : Option ((List α × Nat × Nat) ⊕ (Nat ⊕ List α)) :=
  iteO (decide (((k125 : Nat) : Int) < (((x0.length - k105) : Nat) : Int))) (grd (k125 < (x0.length - k105)) (grd (0 ≤ (IntKind.i64.wrap (((k125 : Nat) : Int) - 1)) ∧ (IntKind.i64.wrap (((k125 : Nat) : Int) - 1)) < ((x0.length - k105) : Nat)) (iteO (decide (¬ ((nth l122 (k105 + k125) d) = (nth l122 (k105 + (IntKind.i64.wrap (((k125 : Nat) : Int) - 1)).toNat) d)))) (grd (k125 < (x0.length - k105)) (grd (k124 < l122.length) (gC_j k125 (l122.set k124 (nth l122 (k105 + k125) d)) (k124 + 1)))) (gC_j k125 l122 k124)))) (fin (grd (k124 ≤ x0.length) (grd (k124 ≤ (l122.take k124 ++ List.replicate (l122.length - k124) d).length) (fin (some ((l122.take k124 ++ List.replicate (l122.length - k124) d).take k124))))))
noncomputable def gC_b1 (x0 : List α) (k105 : Nat) : Option ((Nat) ⊕ (List α)) :=
  iteO (decide (((k105 : Nat) : Int) < ((x0.length : Nat) : Int))) (grd (0 ≤ (IntKind.i64.wrap (((k105 : Nat) : Int) - 1)) ∧ (IntKind.i64.wrap (((k105 : Nat) : Int) - 1)) < (x0.length : Int)) (iteO (decide ((nth x0 k105 d) = (nth x0 ((IntKind.i64.wrap (((k105 : Nat) : Int) - 1)).toNat) d))) (grd (k105 ≤ x0.length) (iter (fun q : (List α) × Nat × Nat => gC_b2 d x0 k105 q.1 q.2.1 q.2.2) (x0, k105, 1))) (nxt (k105 + 1)))) (fin (some x0))
noncomputable def gC (x0 : List α) : Option (List α) :=
  iteO (decide (((x0.length : Nat) : Int) < 2)) (some x0) (iter (fun q : Nat => gC_b1 d x0 q) 1)
theorem wrap_pred {k : Nat} (h1 : 1 ≤ k) (h2 : k ≤ 281474976710656) : IntKind.i64.wrap ((k : Int) - 1) = ((k - 1 : Nat) : Int) := by
  rw [wrap64_of (by omega) (by omega)]; omega
theorem gC_in {l : List α} (hl : l.length ≤ 281474976710656) {k0 : Nat} (h0 : 1 ≤ k0) (hk : k0 < l.length) (he : nth l k0 d = nth l (k0 - 1) d) (hd : ddN d l k0 = l.take k0) :
    iter (fun q : (List α) × Nat × Nat => gC_b2 d l k0 q.1 q.2.1 q.2.2) (l, k0, 1) = some (.inr (ddN d l l.length)) := by
  refine Exists.elim (iter_run (step := fun q : (List α) × Nat × Nat => gC_b2 d l k0 q.1 q.2.1 q.2.2)
    (fun q => 1 ≤ q.2.2 ∧ k0 + q.2.2 ≤ l.length ∧ q.1.length = l.length ∧ q.2.1 ≤ k0 + q.2.2 - 1 ∧ (∀ i, k0 + q.2.2 - 1 ≤ i → nth q.1 i d = nth l i d) ∧ q.1.take q.2.1 = ddN d l (k0 + q.2.2))
    (fun r => r = .inr (ddN d l l.length)) (fun q => l.length - q.2.2) ?_ (l, k0, 1) ⟨Nat.le_refl _, hk, rfl, by simp only; omega, fun _ _ => rfl, ?_⟩) (fun r hr => by rw [hr.1, hr.2])
  · rintro ⟨l2, k, j⟩ ⟨hj, hjl, hlen, hkj, hI, ht⟩
    simp only at hj hjl hlen hkj hI ht
    have hw : IntKind.i64.wrap ((j : Int) - 1) = ((j - 1 : Nat) : Int) := wrap_pred hj (by omega)
    by_cases hlt : k0 + j < l.length
    · left
      have e1 := hI (k0 + j) (by omega)
      have e2 := hI (k0 + (j - 1)) (by omega)
      simp only [gC_b2, hw, Int.toNat_natCast, decide_eq_true (show ((j : Nat) : Int) < ((l.length - k0 : Nat) : Int) by omega), iteO_true,
        grd_mk (show j < l.length - k0 by omega), grd_mk (show (0 : Int) ≤ ((j - 1 : Nat) : Int) ∧ ((j - 1 : Nat) : Int) < ((l.length - k0 : Nat) : Int) by omega), e1, e2]
      have e3 : k0 + (j - 1) = k0 + j - 1 := by omega
      by_cases hc : nth l (k0 + j) d = nth l (k0 + (j - 1)) d
      · simp only [hc, not_true_eq_false, decide_false, iteO_false, gC_j]
        refine ⟨_, rfl, ⟨by simp only; omega, by simp only; omega, hlen, by simp only; omega, fun i hi => hI i (by simp only at hi; omega), ?_⟩, by simp only; omega⟩
        simp only
        rw [ht, ← Nat.add_assoc, ddN, if_neg, List.append_nil]
        rw [hc, e3]; simp; omega
      · simp only [hc, not_false_eq_true, decide_true, iteO_true, grd_mk (show k < l2.length by omega), gC_j]
        refine ⟨_, rfl, ⟨by simp only; omega, by simp only; omega, by simp only [List.length_set]; exact hlen, by simp only; omega, fun i hi => ?_, ?_⟩, by simp only; omega⟩
        · simp only at hi ⊢
          rw [nth_set_ne d (by omega)]; exact hI i (by omega)
        · simp only
          rw [take_set_succ d (by omega), ht, ← Nat.add_assoc, ddN, if_pos]
          rw [e3] at hc; exact .inr hc
    · right
      have hjl' : k0 + j = l.length := by omega
      have hkl : (l2.take k).length = k := by rw [List.length_take]; omega
      refine ⟨.inr (ddN d l l.length), ?_, rfl⟩
      simp only [gC_b2, decide_eq_false (show ¬ ((j : Nat) : Int) < ((l.length - k0 : Nat) : Int) by omega), iteO_false, grd_mk (show k ≤ l.length by omega)]
      rw [grd_mk (by rw [List.length_append, hkl]; omega), List.take_append_of_le_length (by omega), List.take_of_length_le (by omega), ht, hjl']
      rfl
  · simp only
    rw [ddN, if_neg (by rw [he]; simp; omega), List.append_nil, hd]
theorem gC_eq {l : List α} (hl : l.length ≤ 281474976710656) : gC d l = some (ddN d l l.length) := by
  unfold gC
  by_cases h2 : l.length < 2
  · rw [decide_eq_true (by omega), iteO_true]
    match l, h2 with
    | [], _ => rfl
    | [x], _ => rfl
  · rw [decide_eq_false (by omega), iteO_false]
    refine Exists.elim (iter_run (step := fun q : Nat => gC_b1 d l q) (fun k => 1 ≤ k ∧ k ≤ l.length ∧ ddN d l k = l.take k) (fun r => r = ddN d l l.length) (fun k => l.length - k) ?_ 1 ⟨Nat.le_refl _, by omega, ?_⟩) (fun r hr => by rw [hr.1, hr.2])
    · rintro k ⟨h1, hk, hd⟩
      by_cases hlt : k < l.length
      · simp only [gC_b1, wrap_pred h1 (show k ≤ 281474976710656 by omega), Int.toNat_natCast, decide_eq_true (show ((k : Nat) : Int) < ((l.length : Nat) : Int) by omega), iteO_true,
          grd_mk (show (0 : Int) ≤ ((k - 1 : Nat) : Int) ∧ ((k - 1 : Nat) : Int) < (l.length : Int) by omega)]
        by_cases hc : nth l k d = nth l (k - 1) d
        · right
          simp only [hc, decide_true, iteO_true, grd_mk hk]
          exact ⟨_, gC_in d hl h1 hlt hc hd, rfl⟩
        · left
          simp only [hc, decide_false, iteO_false]
          refine ⟨k + 1, rfl, ⟨by omega, by omega, ?_⟩, by omega⟩
          rw [ddN, if_pos (.inr hc), hd, take_snoc l hlt d]
      · right
        have : k = l.length := by omega
        refine ⟨l, ?_, ?_⟩
        · simp only [gC_b1, decide_eq_false (show ¬ ((k : Nat) : Int) < ((l.length : Nat) : Int) by omega), iteO_false]; rfl
        · rw [← this, hd, List.take_of_length_le (by omega)]
    · rw [ddN, if_pos (.inl rfl), take_snoc l (by omega) d]; simp [ddN]
end
def onceL {α : Type} [DecidableEq α] (d : α) (cf : α → α → Int) (l : List α) : List α := ddN d (sortL cf l) l.length
section
variable {α : Type} [DecidableEq α] {d : α} {cf : α → α → Int}
theorem Fd_ (l : List α) : (sortL cf l).length = l.length := List.length_mergeSort _
theorem mem_onceL {l : List α} {x : α} : x ∈ onceL d cf l ↔ x ∈ l := by
  have h := Fd_ (cf := cf) l
  rw [onceL, mem_ddN d _ _ (by omega), List.take_of_length_le (by omega), sortL, List.mem_mergeSort]
theorem GoodCmp.le_trans (hc : GoodCmp cf) {x y z : α} (h1 : ¬ cf y x < 0) (h2 : ¬ cf z y < 0) : ¬ cf z x < 0 := fun h3 => by
  by_cases e : x = y
  · subst e; exact h2 h3
  · by_cases e' : y = z
    · subst e'; exact h1 h3
    · have a := hc.anti y x; have b := hc.anti z y; have a' := hc.eq y x; have b' := hc.eq z y
      have h4 : cf y z < 0 := by
        rw [hc.anti]
        have : cf z y ≠ 0 := fun h => e' ((b'.1 h).symm)
        omega
      exact h1 (hc.trans _ _ _ h4 h3)
theorem E1_ (hc : GoodCmp cf) (l : List α) : (sortL cf l).Pairwise fun x y => ¬ cf y x < 0 := by
  have := List.pairwise_mergeSort (le := fun x y => !decide (cf y x < 0)) (fun a b c h1 h2 => by
    simp only [Bool.not_eq_true', decide_eq_false_iff_not] at *
    exact hc.le_trans h1 h2) (fun a b => by
    have := hc.anti a b
    simp only [Bool.or_eq_true, Bool.not_eq_true', decide_eq_false_iff_not]; omega) l
  exact this.imp fun h => by simpa using h
theorem sorted_onceL (hc : GoodCmp cf) (l : List α) : (onceL d cf l).Pairwise fun x y => cf x y < 0 := by
  have hs := E1_ hc l
  have hlen := Fd_ (cf := cf) l
  unfold onceL
  generalize sortL cf l = s at hs hlen
  have key : ∀ n, n ≤ s.length → (ddN d s n).Pairwise fun x y => cf x y < 0 := by
    intro n
    induction n with
    | zero => intro _; exact List.Pairwise.nil
    | succ n ih =>
      intro h
      rw [ddN]
      split
      · rename_i hn
        rw [List.pairwise_append]
        refine ⟨ih (by omega), List.pairwise_singleton .., fun x hx y hy => ?_⟩
        rw [List.mem_singleton.1 hy]
        rw [mem_ddN d s n (by omega)] at hx
        have hn0 : n ≠ 0 := fun e => by subst e; simp at hx
        have hne : nth s n d ≠ nth s (n - 1) d := by rcases hn with h | h; exact absurd h hn0; exact h
        obtain ⟨i, hi, hxi⟩ := List.mem_iff_getElem.1 hx
        have hi' : i < n := by simp at hi; omega
        have hxi : s[i]'(by omega) = x := by rw [← hxi, List.getElem_take]
        have hp := List.pairwise_iff_getElem.1 hs
        have eN : ∀ {k : Nat} (hk : k < s.length), nth s k d = s[k] := fun hk => by simp [nth, List.getD, hk]
        rw [eN (by omega), eN (by omega)] at hne
        rw [eN (by omega)]
        have h1 : cf (s[n - 1]'(by omega)) (s[n]'(by omega)) < 0 := by
          have := hp (n - 1) n (by omega) (by omega) (by omega)
          have a := hc.anti (s[n - 1]'(by omega)) (s[n]'(by omega))
          have b := hc.eq (s[n]'(by omega)) (s[n - 1]'(by omega))
          have : cf (s[n]'(by omega)) (s[n - 1]'(by omega)) ≠ 0 := fun h => hne (b.1 h)
          omega
        by_cases hin : i = n - 1
        · subst hin; rw [← hxi]; exact h1
        · have h2 := hp i (n - 1) (by omega) (by omega) (by omega)
          rw [hxi] at h2
          by_cases e : x = s[n - 1]'(by omega)
          · rw [e]; exact h1
          · refine hc.trans _ _ _ ?_ h1
            have a := hc.anti x (s[n - 1]'(by omega))
            have b := hc.eq (s[n - 1]'(by omega)) x
            have : cf (s[n - 1]'(by omega)) x ≠ 0 := fun h => e (b.1 h).symm
            omega
      · rw [List.append_nil]; exact ih (by omega)
  exact key _ (by omega)
theorem rising_ext {R : α → α → Prop} (hi : ∀ x, ¬ R x x) (ht : ∀ x y z, R x y → R y z → R x z) : ∀ {l m : List α}, l.Pairwise R → m.Pairwise R → (∀ x, x ∈ l ↔ x ∈ m) → l = m
  | [], [], _, _, _ => rfl
  | [], y :: m, _, _, h => by have := (h y).2 (List.mem_cons_self ..); cases this
  | x :: l, [], _, _, h => by have := (h x).1 (List.mem_cons_self ..); cases this
  | x :: l, y :: m, hl, hm, h => by
    rw [List.pairwise_cons] at hl hm
    have e : x = y := by
      have h1 := (h x).1 (List.mem_cons_self ..)
      have h2 := (h y).2 (List.mem_cons_self ..)
      rw [List.mem_cons] at h1 h2
      rcases h1 with h1 | h1
      · exact h1
      · rcases h2 with h2 | h2
        · exact h2.symm
        · exact absurd (ht _ _ _ (hm.1 x h1) (hl.1 y h2)) (hi y)
    subst e
    rw [rising_ext hi ht hl.2 hm.2 fun z => ?_]
    have := h z
    simp only [List.mem_cons] at this
    constructor
    · intro hz
      rcases this.1 (.inr hz) with e | h'
      · subst e; exact absurd (hl.1 z hz) (hi z)
      · exact h'
    · intro hz
      rcases this.2 (.inr hz) with e | h'
      · subst e; exact absurd (hm.1 z hz) (hi z)
      · exact h'
theorem GoodCmp.irr (hc : GoodCmp cf) (x : α) : ¬ cf x x < 0 := by have := (hc.eq x x).2 rfl; omega
theorem rising_eq (hc : GoodCmp cf) {l m : List α} (hl : l.Pairwise fun x y => cf x y < 0) (hm : m.Pairwise fun x y => cf x y < 0) (h : ∀ x, x ∈ l ↔ x ∈ m) : l = m :=
  rising_ext (R := fun x y => cf x y < 0) hc.irr hc.trans hl hm h
theorem G5_ (hc : GoodCmp cf) {l m : List α} (h : ∀ x, x ∈ l ↔ x ∈ m) : onceL d cf l = onceL d cf m :=
  rising_eq hc (sorted_onceL hc l) (sorted_onceL hc m) fun x => by rw [mem_onceL, mem_onceL, h]
theorem Hr_ (hc : GoodCmp cf) {l : List α} (h : l.Pairwise fun x y => cf x y < 0) : onceL d cf l = l := rising_eq hc (sorted_onceL hc l) h fun x => mem_onceL
end
end Go.Proofs.YtamgjehhjkgelaaGreatDoor
end

section
namespace Go.Proofs.YtamgjehhjkgelaaGreatDoor
open Go Go.E
theorem Hf_ : compactS = gC ([] : List UInt8) := rfl
theorem Hq_ {l : List (List UInt8)} (h : l.length * 16 ≤ 140737488355328) : onceS l = some (onceL [] Lib.compareBytes l) := by
  rw [onceS, grd_mk h, Hf_, gC_eq [] (by rw [Fd_]; omega), Fd_]; rfl
end Go.Proofs.YtamgjehhjkgelaaGreatDoor
end
