/- Parts of a proof, one behind the other: what a machine reaches, functions decompiled, plain lemmas. Conditions stand with each lemma. -/
import Derived.Test.YtchebnpdnfhenaaGreatDoorB60195d3efe
import Derived.Shelf.SlSortCmp.NoneTotal
import Derived.Lib.Builder
import Derived.Lib.AppendStr
import Derived.Lib.UnsafeStr
import Derived.Shelf.Sort.Plain
import Derived.Shelf.Slices.In.SortNone

set_option linter.unusedVariables false
set_option linter.unusedSimpArgs false
set_option linter.unusedSectionVars false
set_option maxRecDepth 100000
set_option maxHeartbeats 8000000
variable {σ:Go.E.Store}{a0_0 a0_1 a0_2 a0_3 a1_0 a1_1 a1_4 a1_7 a2_1 a3_1:Option Go.Addr}{Eb1 Eb2 Eb3 b0_0 b1_0 b2_0 b3_0 c0_0 c0_1 c0_2 c0_3 c1_0 c1_2 c1_5 c1_8 c2_2 c3_2:Nat}

noncomputable section
namespace Go.Proofs.YtchebnpdnfhenaaGreatDoor
open Go Go.E Go.E.OpVal Go.E.OpOk Go.Proofs.Tryz
theorem ag22:aggOf Tryz.prog 22=some false:=by kernel_rfl
theorem ag23:aggOf Tryz.prog 23=some false:=by kernel_rfl
theorem ag3:aggOf Tryz.prog 3=some false:=by kernel_rfl
theorem ag66:aggOf Tryz.prog 66=some true:=by kernel_rfl
theorem ag76:aggOf Tryz.prog 76=some true:=by kernel_rfl
theorem ag9:aggOf Tryz.prog 9=some false:=by kernel_rfl
theorem eg64:Tryz.prog.eqGuardType Tryz.prog.depth 64=false:=by kernel_rfl
theorem fo25_0:foOf Tryz.prog 25 0=some 0:=by kernel_rfl
theorem fo25_1:foOf Tryz.prog 25 1=some 1:=by kernel_rfl
theorem fo25_2:foOf Tryz.prog 25 2=some 2:=by kernel_rfl
theorem fo25_3:foOf Tryz.prog 25 3=some 3:=by kernel_rfl
theorem fo66_0:foOf Tryz.prog 66 0=some 0:=by kernel_rfl
theorem fo66_1:foOf Tryz.prog 66 1=some 1:=by kernel_rfl
theorem fo66_2:foOf Tryz.prog 66 2=some 2:=by kernel_rfl
theorem fo66_3:foOf Tryz.prog 66 3=some 6:=by kernel_rfl
theorem fo76_0:foOf Tryz.prog 76 0=some 0:=by kernel_rfl
theorem fo76_1:foOf Tryz.prog 76 1=some 1:=by kernel_rfl
theorem pf83:plainF Tryz.prog 83=true:=by kernel_rfl
theorem pf84:plainF Tryz.prog 84=true:=by kernel_rfl
theorem sz66:szOf Tryz.prog 66=some 8:=by kernel_rfl
theorem sz76:szOf Tryz.prog 76=some 2:=by kernel_rfl
theorem ze66:zeroOf Tryz.prog 66=some (.agg #[.int .i64 0,.int .i64 0,.int .u64 0,.int .u64 0,.int .u64 0,.int .u64 0,.string ByteArray.empty,.bool false]):=by kernel_rfl
theorem ze76:zeroOf Tryz.prog 76=some (.agg #[.int .i64 0,.string ByteArray.empty]):=by kernel_rfl
def Dz_(x0:Int)(x1:Int):Option (Bool):=
 iteO (decide (0≤x0)) (some (decide (x0<x1))) (some false)
theorem E2_{x0:Int}{x1:Int}{r:Bool}(hh:Dz_ x0 x1=some r):
  Con Tryz.prog 84 #[.int .i64 x0,.int .i64 x1] σ [] (PureP (.bool r) σ):=by
 dsimp only [Dz_]at hh
 refine Con.mk (n:=12) Tryz.func84 z z z (fun w0=> ?_)
 refine TC.a (TL.j z z (TL.en (TC.a (TL.i z z (TL.w z (OpVal.leq z z z) (TL.j z z (TL.split 7 z (fun h101=> ?_) (fun h101=> ?_))))))))
 ·replace hh:=iteO_t h101 hh
  replace h101:=of_decide_eq_true h101
  refine TL.g z (moveI (.inl z) z) (TL.g z (moveI (.inl z) z) (TL.g z (OpVal.lss z z z) (TL.w z (pickTB z z z) (TL.j z z (TL.en (TC.ret ?_))))))
  obtain rfl:=so hh
  exact rq [4] ⟨z,z,z⟩
 replace hh:=iteO_f h101 hh
 replace h101:=of_decide_eq_false h101
 refine TL.f z (TL.f z (TL.f z (TL.w z (pickFB z z z) (TL.j z z (TL.en (TC.ret ?_))))))
 obtain rfl:=so hh
 exact rq [4] ⟨z,z,z⟩
def Br_(x0:List Tip)(x1:Int)(k104:Nat):Option ((Nat)⊕(Bool)):=
 iteO (decide (((k104:Nat):Int)<((x0.length:Nat):Int))) (bnd (Dz_ ((nth x0 k104 Tip.zero).state) x1) (fun v17=>iteO (!v17) (fin (some false)) (iteO (decide (1024<((((nth x0 k104 Tip.zero).out).length:Nat):Int))) (fin (some false)) (nxt (k104+1))))) (fin (some true))
def Cx_(x0:List Tip)(x1:Int):Option (Bool):=
 iteO (decide (1024<((x0.length:Nat):Int))) (some false) (iter (fun q:Nat=>Br_ x0 x1 q) 0)
theorem E5_{x0:List Tip}{x1:Int}(f0_0:RS σ 2 encTip (.slice a0_0 x0.length c0_0) x0){r:Bool}(hh:Cx_ x0 x1=some r):
  Con Tryz.prog 83 #[.slice a0_0 x0.length c0_0,.int .i64 x1] σ [] (PureP (.bool r) σ):=by
 dsimp only [Cx_]at hh
 have f0_0b:=f0_0.rv.big
 refine Con.mk (n:=28) Tryz.func83 z z z (fun w0=> ?_)
 refine TC.a (TL.j z z (TL.en (TC.seq (TC.a (TL.s z z (TL.w z (lenC z underlying22 z) (TL.w z (OpVal.gtr z z z) (TL.en (TC.cD z hh (fun h101 hh=> ?_) (fun h101 hh=> ?_))))))))))
 ·refine TC.a (TL.j z z (TL.en (TC.ret (S.r ?_))))
  obtain rfl:=so hh
  exact rq [4] ⟨z,z,z⟩
 refine TC.skip (S.n (TC.seq (TC.a (TL.s z z (TL.w z (lenC z underlying22 z) (TL.i z z (TL.en (TC.block (TC.loopG (α:=(Nat)×(Unit)) (rgs [(4,1),(6,1),(12,16)]) (fun g=>[(12,.int .i64 ((g.1:Nat):Int))]) (fun g=>[]) (fun g=>σ) (fun g=>iter (fun q:Nat=>Br_ x0 x1 q) g.1=some r) (fun g=>rounds (fun q:Nat=>Br_ x0 x1 q) g.1) (0,()) (Sub.pre 0 z) z (by repeat (first|exact trivial|refine ⟨z,?_⟩)) hh (fun g1 j1 hg1=> ?_))))))))))
 obtain ⟨k104,_⟩:=g1
 have hh:=hg1;clear hg1
 try dsimp only
 obtain ⟨z1,hh,hR1⟩:=iter_e hh
 dsimp only [Br_]at hh
 refine TC.a (TL.w z (OpVal.lss z z z) (TL.en (TC.seq (TC.cD z hh (fun h105 hh=> ?_) (fun h105 hh=> ?_)))))
 ·refine TC.skip (S.n (TC.seq (TC.block (TC.a (TL.w z (indexN z underlying22 sz76 z z f0_0.rv.sl (by omega)) (TL.w z (loadSA Tip.zero z ag76 sz76 z f0_0 (by omega) (by omega)) (TL.op z (OpOk.alloc z ze76 z z (fun b106=> ?_)))))))))
  refine TL.op z (storeAll z sz76 z z z z z z ?_)
  refine TL.en (TC.a (TL.w z (fieldLoc z fo76_0 z) (TL.w z (loadLoc z ag3 z (i:=0) z z) (TL.i z z ?_))))
  obtain ⟨v17,u17,hh⟩:=bnd_e hh
  refine TL.op z (callP (E2_ u17) z z pf84 z z z ?_)
  refine TL.w z (OpVal.not z z) (TL.j z z (TL.split 21 z (fun h108=> ?_) (fun h108=> ?_)))
  ·replace hh:=iteO_t h108 hh
   refine TL.f z (TL.f z (TL.f z (TL.f z (TL.w z (pickTB z z z) (TL.en (TC.t z (TC.a (TL.j z z (TL.en (TC.rt 0 (B.r (S.r (S.r ?_)))))))))))))
   replace hh:=fin_x hR1 hh
   refine B.r (S.r ?_)
   obtain rfl:=so hh
   exact rq [4] ⟨z,z,z⟩
  replace hh:=iteO_f h108 hh
  refine TL.g z (fieldLoc z fo76_1 z) (TL.g z (loadLoc z ag9 z (i:=0) z z) (TL.g z (lenBs z underlying9 z) (TL.g z (OpVal.gtr z z z) (TL.w z (pickFB z z z) (TL.en (TC.cD z hh (fun h109 hh=> ?_) (fun h109 hh=> ?_)))))))
  ·refine TC.a (TL.j z z (TL.en (TC.rt 0 (B.r (S.r (S.r ?_))))))
   replace hh:=fin_x hR1 hh
   refine B.r (S.r ?_)
   obtain rfl:=so hh
   exact rq [4] ⟨z,z,z⟩
  refine TC.skip (B.n (S.n (TC.region (TL.w z (OpVal.succ z z z (by omega)) (TL.i z z (TL.en ?_))))))
  obtain ⟨hh,hlt110⟩:=nxt_x hR1 hh
  exact lf ((k104+1),()) hlt110 hh (Sub.pre 0 z)
 refine TC.exit (S.x (S.x ?_))
 replace hh:=fin_x hR1 hh
 refine TC.exitHere (S.n (TC.a (TL.j z z (TL.en (TC.ret ?_)))))
 obtain rfl:=so hh
 exact rq [4] ⟨z,z,z⟩
def Cq_(x0:Fst)(k110:Nat):Option ((Nat)⊕(Int)):=
 iteO (decide (((k110:Nat):Int)<((x0.arcs.length:Nat):Int))) (bnd (Dz_ ((nth x0.arcs k110 Arc.zero).frm) x0.states) (fun v46=>iteO (!v46) (fin (some 1)) (bnd (Dz_ ((nth x0.arcs k110 Arc.zero).to) x0.states) (fun v53=>iteO (!v53) (fin (some 1)) (iteO (decide ((nth x0.arcs k110 Arc.zero).set=BSet.zero)) (fin (some 1)) (iteO (decide (1024<((((nth x0.arcs k110 Arc.zero).out).length:Nat):Int))) (fin (some 1)) (nxt (k110+1)))))))) (fin (some 0))
def D0_(x0:Fst):Option (Int):=
 iteO (decide (x0.states<0)) (some 1) (iteO (decide (1024<x0.states)) (some 1) (iteO (decide (16384<((x0.arcs.length:Nat):Int))) (some 1) (bnd (Cx_ x0.starts x0.states) (fun v22=>iteO (!v22) (some 1) (bnd (Cx_ x0.ends x0.states) (fun v29=>iteO (!v29) (some 1) (iter (fun q:Nat=>Cq_ x0 q) 0)))))))
theorem E1_{x0:Fst}(f0_0:RS σ 2 encTip (.slice a0_0 x0.starts.length c0_0) x0.starts)(f0_1:RS σ 2 encTip (.slice a0_1 x0.ends.length c0_1) x0.ends)(f0_2:RS σ 8 encArc (.slice a0_2 x0.arcs.length c0_2) x0.arcs){r:Int}(hh:D0_ x0=some r):
  Con Tryz.prog 43 #[.agg #[.int .i64 x0.states,.slice a0_0 x0.starts.length c0_0,.slice a0_1 x0.ends.length c0_1,.slice a0_2 x0.arcs.length c0_2]] σ [] (PureP (.int .i64 r) σ):=by
 dsimp only [D0_]at hh
 have f0_0b:=f0_0.rv.big
 have f0_1b:=f0_1.rv.big
 have f0_2b:=f0_2.rv.big
 refine Con.mk (n:=67) Tryz.func43 z z z (fun w0=> ?_)
 refine TC.a (TL.op z (boxA z z z z (fun b101=> ?_)))
 refine TL.i z z (TL.en (TC.seq (TC.a (TL.w z (fieldLoc z fo25_0 z) (TL.w z (loadLoc z ag3 z (i:=0) z z) (TL.w z (OpVal.lss z z z) (TL.j z z (TL.split 8 z (fun h103=> ?_) (fun h103=> ?_)))))))))
 ·replace hh:=iteO_t h103 hh
  replace h103:=of_decide_eq_true h103
  refine TL.f z (TL.f z (TL.f z (TL.w z (pickTB z z z) (TL.j z z (TL.f z (TL.f z (TL.f z (TL.f z (TL.w z (pickTB z z z) (TL.en (TC.t z (TC.a (TL.i z z (TL.en (TC.rt 0 ?_)))))))))))))))
  refine S.r ?_
  obtain rfl:=so hh
  exact rq [2] ⟨z,z,z⟩
 replace hh:=iteO_f h103 hh
 replace h103:=of_decide_eq_false h103
 refine TL.g z (fieldLoc z fo25_0 z) (TL.g z (loadLoc z ag3 z (i:=0) z z) (TL.g z (OpVal.gtr z z z) (TL.w z (pickFB z z z) (TL.j z z (TL.split 13 z (fun h104=> ?_) (fun h104=> ?_))))))
 ·replace hh:=iteO_t h104 hh
  replace h104:=of_decide_eq_true h104
  refine TL.f z (TL.f z (TL.f z (TL.f z (TL.w z (pickTB z z z) (TL.en (TC.t z (TC.a (TL.i z z (TL.en (TC.rt 0 (S.r ?_)))))))))))
  obtain rfl:=so hh
  exact rq [2] ⟨z,z,z⟩
 replace hh:=iteO_f h104 hh
 replace h104:=of_decide_eq_false h104
 refine TL.g z (fieldLoc z fo25_3 z) (TL.g z (loadLoc z ag23 z (i:=0) z z) (TL.g z (lenC z underlying23 z) (TL.g z (OpVal.gtr z z z) (TL.w z (pickFB z z z) (TL.en (TC.cD z hh (fun h105 hh=> ?_) (fun h105 hh=> ?_)))))))
 ·refine TC.a (TL.i z z (TL.en (TC.rt 0 (S.r ?_))))
  obtain rfl:=so hh
  exact rq [2] ⟨z,z,z⟩
 refine TC.skip (S.n (TC.seq (TC.a (TL.w z (fieldLoc z fo25_1 z) (TL.w z (loadLoc z ag22 z (i:=0) z z) (TL.w z (fieldLoc z fo25_0 z) (TL.w z (loadLoc z ag3 z (i:=0) z z) ?_)))))))
 obtain ⟨v22,u22,hh⟩:=bnd_e hh
 refine TL.op z (callP (E5_ f0_0 u22) z z pf83 z z z ?_)
 refine TL.w z (OpVal.not z z) (TL.j z z (TL.split 25 z (fun h106=> ?_) (fun h106=> ?_)))
 ·replace hh:=iteO_t h106 hh
  refine TL.f z (TL.f z (TL.f z (TL.f z (TL.f z (TL.f z (TL.w z (pickTB z z z) (TL.en (TC.t z (TC.a (TL.i z z (TL.en (TC.rt 0 (S.r ?_)))))))))))))
  obtain rfl:=so hh
  exact rq [2] ⟨z,z,z⟩
 replace hh:=iteO_f h106 hh
 refine TL.g z (fieldLoc z fo25_2 z) (TL.g z (loadLoc z ag22 z (i:=0) z z) (TL.g z (fieldLoc z fo25_0 z) (TL.g z (loadLoc z ag3 z (i:=0) z z) ?_)))
 obtain ⟨v29,u29,hh⟩:=bnd_e hh
 refine TL.gon z z z z z (callP (E5_ f0_1 u29) z z pf83 z z z ?_)
 refine TL.g z (OpVal.not z z) (TL.w z (pickFB z z z) (TL.en (TC.cB z hh (fun h107 hh=> ?_) (fun h107 hh=> ?_))))
 ·refine TC.a (TL.i z z (TL.en (TC.rt 0 (S.r ?_))))
  obtain rfl:=so hh
  exact rq [2] ⟨z,z,z⟩
 refine TC.skip (S.n (TC.seq (TC.a (TL.w z (fieldLoc z fo25_3 z) (TL.w z (loadLoc z ag23 z (i:=0) z z) (TL.w z (lenC z underlying23 z) (TL.i z z (TL.en (TC.block (TC.loopG (α:=(Nat)×(Unit)) (rgs [(2,1),(4,1),(36,31)]) (fun g=>[(36,.int .i64 ((g.1:Nat):Int))]) (fun g=>[Res.cells b101 #[.int .i64 x0.states,.slice a0_0 x0.starts.length c0_0,.slice a0_1 x0.ends.length c0_1,.slice a0_2 x0.arcs.length c0_2] 25]) (fun g=>σ) (fun g=>iter (fun q:Nat=>Cq_ x0 q) g.1=some r) (fun g=>rounds (fun q:Nat=>Cq_ x0 q) g.1) (0,()) (Sub.pre 1 z) z (by repeat (first|exact trivial|refine ⟨z,?_⟩)) hh (fun g1 j1 hg1=> ?_)))))))))))
 obtain ⟨k110,_⟩:=g1
 have hh:=hg1;clear hg1
 try dsimp only
 obtain ⟨z1,hh,hR1⟩:=iter_e hh
 dsimp only [Cq_]at hh
 refine TC.a (TL.w z (OpVal.lss z z z) (TL.en (TC.seq (TC.cD z hh (fun h111 hh=> ?_) (fun h111 hh=> ?_)))))
 ·refine TC.skip (S.n (TC.seq (TC.block (TC.a (TL.w z (indexN z underlying23 sz66 z z f0_2.rv.sl (by omega)) (TL.w z (loadSA Arc.zero z ag66 sz66 z f0_2 (by omega) (by omega)) (TL.op z (OpOk.alloc z ze66 z z (fun b112=> ?_)))))))))
  refine TL.op z (storeAll z sz66 z z z z z z ?_)
  refine TL.en (TC.a (TL.w z (fieldLoc z fo66_0 z) (TL.w z (loadLoc z ag3 z (i:=0) z z) (TL.w z (fieldLoc z fo25_0 z) (TL.w z (loadLoc z ag3 z (i:=1) z z) ?_)))))
  obtain ⟨v46,u46,hh⟩:=bnd_e hh
  refine TL.op z (callP (E2_ u46) z z pf84 z z z ?_)
  refine TL.w z (OpVal.not z z) (TL.j z z (TL.split 46 z (fun h114=> ?_) (fun h114=> ?_)))
  ·replace hh:=iteO_t h114 hh
   refine TL.f z (TL.f z (TL.f z (TL.f z (TL.f z (TL.f z (TL.w z (pickTB z z z) (TL.j z z (TL.f z (TL.f z (TL.f z (TL.f z (TL.w z (pickTB z z z) (TL.j z z (TL.f z (TL.f z ?_)))))))))))))))
   refine TL.f z (TL.f z (TL.w z (pickTB z z z) (TL.en (TC.t z (TC.a (TL.i z z (TL.en (TC.rt 0 (B.r (S.r (S.r ?_)))))))))))
   replace hh:=fin_x hR1 hh
   refine B.r (S.r ?_)
   obtain rfl:=so hh
   exact rq [2] ⟨z,z,z⟩
  replace hh:=iteO_f h114 hh
  refine TL.g z (fieldLoc z fo66_1 z) (TL.g z (loadLoc z ag3 z (i:=0) z z) (TL.g z (fieldLoc z fo25_0 z) (TL.g z (loadLoc z ag3 z (i:=1) z z) ?_)))
  obtain ⟨v53,u53,hh⟩:=bnd_e hh
  refine TL.gon z z z z z (callP (E2_ u53) z z pf84 z z z ?_)
  refine TL.g z (OpVal.not z z) (TL.w z (pickFB z z z) (TL.j z z (TL.split 54 z (fun h115=> ?_) (fun h115=> ?_))))
  ·replace hh:=iteO_t h115 hh
   refine TL.f z (TL.f z (TL.f z (TL.f z (TL.w z (pickTB z z z) (TL.j z z (TL.f z (TL.f z (TL.f z (TL.f z (TL.w z (pickTB z z z) (TL.en (TC.t z (TC.a (TL.i z z (TL.en ?_)))))))))))))))
   refine TC.rt 0 (B.r (S.r (S.r ?_)))
   replace hh:=fin_x hR1 hh
   refine B.r (S.r ?_)
   obtain rfl:=so hh
   exact rq [2] ⟨z,z,z⟩
  replace hh:=iteO_f h115 hh
  refine TL.g z (fieldLoc z fo66_2 z) (TL.g z (loadLocA z ag64 sz64 z (i:=0) z z z) (TL.g z (buildArrL z underlying64 sz62 ze64 z) (TL.g z (eqlSet (s:=(nth x0.arcs k110 Arc.zero).set) (t:=BSet.zero) z underlying64 underlying62 ag62 sz62 eg64 z z) (TL.w z (pickFB z z z) (TL.j z z (TL.split 60 z (fun h116=> ?_) (fun h116=> ?_)))))))
  ·replace hh:=iteO_t h116 hh
   replace h116:=of_decide_eq_true h116
   refine TL.f z (TL.f z (TL.f z (TL.f z (TL.w z (pickTB z z z) (TL.en (TC.t z (TC.a (TL.i z z (TL.en (TC.rt 0 (B.r (S.r (S.r ?_)))))))))))))
   replace hh:=fin_x hR1 hh
   refine B.r (S.r ?_)
   obtain rfl:=so hh
   exact rq [2] ⟨z,z,z⟩
  replace hh:=iteO_f h116 hh
  replace h116:=of_decide_eq_false h116
  refine TL.g z (fieldLoc z fo66_3 z) (TL.g z (loadLoc z ag9 z (i:=0) z z) (TL.g z (lenBs z underlying9 z) (TL.g z (OpVal.gtr z z z) (TL.w z (pickFB z z z) (TL.en (TC.cD z hh (fun h117 hh=> ?_) (fun h117 hh=> ?_)))))))
  ·refine TC.a (TL.i z z (TL.en (TC.rt 0 (B.r (S.r (S.r ?_))))))
   replace hh:=fin_x hR1 hh
   refine B.r (S.r ?_)
   obtain rfl:=so hh
   exact rq [2] ⟨z,z,z⟩
  refine TC.skip (B.n (S.n (TC.region (TL.w z (OpVal.succ z z z (by omega)) (TL.i z z (TL.en ?_))))))
  obtain ⟨hh,hlt118⟩:=nxt_x hR1 hh
  exact lf ((k110+1),()) hlt118 hh (Sub.f [1] 1)
 refine TC.exit (S.x (S.x ?_))
 replace hh:=fin_x hR1 hh
 refine TC.exitHere (S.n (TC.a (TL.i z z (TL.en (TC.rt 0 ?_)))))
 obtain rfl:=so hh
 exact rq [2] ⟨z,z,z⟩
end Go.Proofs.YtchebnpdnfhenaaGreatDoor
end

noncomputable section
namespace Go.Proofs.YtchebnpdnfhenaaGreatDoor
open Go Go.E Go.E.OpVal Go.E.OpOk Go.Proofs.Tryz
theorem fo66_4:foOf Tryz.prog 66 4=some 7:=by kernel_rfl
theorem pf106:plainF Tryz.prog 106=true:=by kernel_rfl
theorem pf134:plainF Tryz.prog 134=true:=by kernel_rfl
theorem pf135:plainF Tryz.prog 135=true:=by kernel_rfl
theorem pf139:plainF Tryz.prog 139=true:=by kernel_rfl
theorem pf140:plainF Tryz.prog 140=true:=by kernel_rfl
theorem pf156:plainF Tryz.prog 156=true:=by kernel_rfl
theorem pf158:plainF Tryz.prog 158=true:=by kernel_rfl
theorem pf195:plainF Tryz.prog 195=true:=by kernel_rfl
theorem pf64:plainF Tryz.prog 64=true:=by kernel_rfl
theorem sz3:szOf Tryz.prog 3=some 1:=by kernel_rfl
theorem ze3:zeroOf Tryz.prog 3=some (.int .i64 0):=by kernel_rfl
def By_(x0:List UInt8)(x1:List UInt8):Option (Int):=
 some (Lib.compareBytes x0 x1)
theorem D7_{x0:List UInt8}{x1:List UInt8}{r:Int}(hh:By_ x0 x1=some r):
  Con Tryz.prog 106 #[.string (bs x0),.string (bs x1)] σ [] (PureP (.int .i64 r) σ):=by
 dsimp only [By_]at hh
 refine Con.mk (n:=8) Tryz.func106 z z z (fun w0=> ?_)
 refine TC.a (TL.i z z (TL.en (TC.a (TL.w z (moveStr (.inl z) z) (TL.w z (moveStr (.inl z) z) (TL.w z (cmpStr z z Tryz.func144 (by kernel_rfl) (by kernel_rfl) (by kernel_rfl) (by kernel_rfl) z z) (TL.i z z (TL.en (TC.ret ?_)))))))))
 obtain rfl:=so hh
 exact rq [4] ⟨z,z,z⟩
def C7_(x0:List UInt8)(x1:List UInt8):Option (Int):=
 bnd (By_ x0 x1) (fun v4=>some v4)
theorem El_{x0:List UInt8}{x1:List UInt8}{r:Int}(hh:C7_ x0 x1=some r):
  Con Tryz.prog 64 #[.string (bs x0),.string (bs x1)] σ [] (PureP (.int .i64 r) σ):=by
 dsimp only [C7_]at hh
 refine Con.mk (n:=8) Tryz.func64 z z z (fun w0=> ?_)
 refine TC.a (TL.i z z (TL.en (TC.a (TL.w z (moveStr (.inl z) z) (TL.w z (moveStr (.inl z) z) ?_)))))
 obtain ⟨v4,u4,hh⟩:=bnd_e hh
 refine TL.op z (callP (D7_ u4) z z pf106 z z z ?_)
 refine TL.i z z (TL.en (TC.ret ?_))
 obtain rfl:=so hh
 exact rq [4] ⟨z,z,z⟩
def Ev_(x0:Int):Option (Bool):=
 some (decide (x0≠x0))
theorem Fw_{x0:Int}{r:Bool}(hh:Ev_ x0=some r):
  Con Tryz.prog 156 #[.int .i64 x0] σ [] (PureP (.bool r) σ):=by
 dsimp only [Ev_]at hh
 refine Con.mk (n:=6) Tryz.func156 z z z (fun w0=> ?_)
 refine TC.a (TL.j z z (TL.en (TC.a (TL.i z z (TL.i z z (TL.w z (OpVal.neq z z z) (TL.j z z (TL.en (TC.ret ?_)))))))))
 obtain rfl:=so hh
 exact rq [2] ⟨z,z,z⟩
def B5_(x0:Int)(x1:Int):Option (Int):=
 bnd (Ev_ x0) (fun v3=>bnd (Ev_ x1) (fun v6=>iteO v3 (iteO v6 (some 0) (some (-1))) (iteO v6 (some 1) (iteO (decide (x0<x1)) (some (-1)) (iteO (decide (x1<x0)) (some 1) (some 0))))))
theorem Cy_{x0:Int}{x1:Int}{r:Int}(hh:B5_ x0 x1=some r):
  Con Tryz.prog 135 #[.int .i64 x0,.int .i64 x1] σ [] (PureP (.int .i64 r) σ):=by
 dsimp only [B5_]at hh
 refine Con.mk (n:=20) Tryz.func135 z z z (fun w0=> ?_)
 refine TC.a (TL.i z z (TL.en (TC.a (TL.i z z ?_))))
 obtain ⟨v3,u3,hh⟩:=bnd_e hh
 refine TL.op z (callP (Fw_ u3) z z pf156 z z z ?_)
 refine TL.j z z (TL.en (TC.a (TL.i z z ?_)))
 obtain ⟨v6,u6,hh⟩:=bnd_e hh
 refine TL.op z (callP (Fw_ u6) z z pf156 z z z ?_)
 refine TL.j z z (TL.en (TC.seq (TC.a (TL.j z z (TL.en (TC.cB z hh (fun h101 hh=> ?_) (fun h101 hh=> ?_)))))))
 ·refine TC.seq (TC.a (TL.j z z (TL.en (TC.cB z hh (fun h102 hh=> ?_) (fun h102 hh=> ?_)))))
  ·refine TC.a (TL.i z z (TL.en (TC.ret (S.r (S.r ?_)))))
   obtain rfl:=so hh
   exact rq [4] ⟨z,z,z⟩
  refine TC.skip (S.n (TC.a (TL.i z z (TL.en (TC.ret (S.r ?_))))))
  obtain rfl:=so hh
  exact rq [4] ⟨z,z,z⟩
 refine TC.skip (S.n (TC.seq (TC.a (TL.j z z (TL.en (TC.cB z hh (fun h103 hh=> ?_) (fun h103 hh=> ?_)))))))
 ·refine TC.a (TL.i z z (TL.en (TC.ret (S.r ?_))))
  obtain rfl:=so hh
  exact rq [4] ⟨z,z,z⟩
 refine TC.skip (S.n (TC.seq (TC.a (TL.i z z (TL.i z z (TL.w z (OpVal.lss z z z) (TL.en (TC.cD z hh (fun h104 hh=> ?_) (fun h104 hh=> ?_)))))))))
 ·refine TC.a (TL.i z z (TL.en (TC.ret (S.r ?_))))
  obtain rfl:=so hh
  exact rq [4] ⟨z,z,z⟩
 refine TC.skip (S.n (TC.seq (TC.a (TL.i z z (TL.i z z (TL.w z (OpVal.gtr z z z) (TL.en (TC.cD z hh (fun h105 hh=> ?_) (fun h105 hh=> ?_)))))))))
 ·refine TC.a (TL.i z z (TL.en (TC.ret (S.r ?_))))
  obtain rfl:=so hh
  exact rq [4] ⟨z,z,z⟩
 refine TC.skip (S.n (TC.a (TL.i z z (TL.en (TC.ret ?_)))))
 obtain rfl:=so hh
 exact rq [4] ⟨z,z,z⟩
def isNaNU(x0:Nat):Option (Bool):=
 some (decide (x0≠x0))
theorem isNaNU_con{x0:Nat}{r:Bool}(hh:isNaNU x0=some r):
  Con Tryz.prog 195 #[.int .u64 ((x0:Nat):Int)] σ [] (PureP (.bool r) σ):=by
 dsimp only [isNaNU]at hh
 refine Con.mk (n:=6) Tryz.func195 z z z (fun w0=> ?_)
 refine TC.a (TL.j z z (TL.en (TC.a (TL.i z z (TL.i z z (TL.w z (neqU z z z) (TL.j z z (TL.en (TC.ret ?_)))))))))
 obtain rfl:=so hh
 exact rq [2] ⟨z,z,z⟩
def compareU(x0:Nat)(x1:Nat):Option (Int):=
 bnd (isNaNU x0) (fun v3=>bnd (isNaNU x1) (fun v6=>iteO v3 (iteO v6 (some 0) (some (-1))) (iteO v6 (some 1) (iteO (decide (x0<x1)) (some (-1)) (iteO (decide (x1<x0)) (some 1) (some 0))))))
theorem compareU_con{x0:Nat}{x1:Nat}{r:Int}(hh:compareU x0 x1=some r):
  Con Tryz.prog 158 #[.int .u64 ((x0:Nat):Int),.int .u64 ((x1:Nat):Int)] σ [] (PureP (.int .i64 r) σ):=by
 dsimp only [compareU]at hh
 refine Con.mk (n:=20) Tryz.func158 z z z (fun w0=> ?_)
 refine TC.a (TL.i z z (TL.en (TC.a (TL.i z z ?_))))
 obtain ⟨v3,u3,hh⟩:=bnd_e hh
 refine TL.op z (callP (isNaNU_con u3) z z pf195 z z z ?_)
 refine TL.j z z (TL.en (TC.a (TL.i z z ?_)))
 obtain ⟨v6,u6,hh⟩:=bnd_e hh
 refine TL.op z (callP (isNaNU_con u6) z z pf195 z z z ?_)
 refine TL.j z z (TL.en (TC.seq (TC.a (TL.j z z (TL.en (TC.cB z hh (fun h101 hh=> ?_) (fun h101 hh=> ?_)))))))
 ·refine TC.seq (TC.a (TL.j z z (TL.en (TC.cB z hh (fun h102 hh=> ?_) (fun h102 hh=> ?_)))))
  ·refine TC.a (TL.i z z (TL.en (TC.ret (S.r (S.r ?_)))))
   obtain rfl:=so hh
   exact rq [4] ⟨z,z,z⟩
  refine TC.skip (S.n (TC.a (TL.i z z (TL.en (TC.ret (S.r ?_))))))
  obtain rfl:=so hh
  exact rq [4] ⟨z,z,z⟩
 refine TC.skip (S.n (TC.seq (TC.a (TL.j z z (TL.en (TC.cB z hh (fun h103 hh=> ?_) (fun h103 hh=> ?_)))))))
 ·refine TC.a (TL.i z z (TL.en (TC.ret (S.r ?_))))
  obtain rfl:=so hh
  exact rq [4] ⟨z,z,z⟩
 refine TC.skip (S.n (TC.seq (TC.a (TL.i z z (TL.i z z (TL.w z (lssU z z z) (TL.en (TC.cD z hh (fun h104 hh=> ?_) (fun h104 hh=> ?_)))))))))
 ·refine TC.a (TL.i z z (TL.en (TC.ret (S.r ?_))))
  obtain rfl:=so hh
  exact rq [4] ⟨z,z,z⟩
 refine TC.skip (S.n (TC.seq (TC.a (TL.i z z (TL.i z z (TL.w z (gtrU z z z) (TL.en (TC.cD z hh (fun h105 hh=> ?_) (fun h105 hh=> ?_)))))))))
 ·refine TC.a (TL.i z z (TL.en (TC.ret (S.r ?_))))
  obtain rfl:=so hh
  exact rq [4] ⟨z,z,z⟩
 refine TC.skip (S.n (TC.a (TL.i z z (TL.en (TC.ret ?_)))))
 obtain rfl:=so hh
 exact rq [4] ⟨z,z,z⟩
def Ee_(x0:Bool):Option (Int):=
 iteO x0 (some 1) (some 0)
theorem Fj_{x0:Bool}{r:Int}(hh:Ee_ x0=some r):
  Con Tryz.prog 140 #[.bool x0] σ [] (PureP (.int .i64 r) σ):=by
 dsimp only [Ee_]at hh
 refine Con.mk (n:=4) Tryz.func140 z z z (fun w0=> ?_)
 refine TC.a (TL.i z z (TL.en (TC.seq (TC.a (TL.j z z (TL.en (TC.cB z hh (fun h101 hh=> ?_) (fun h101 hh=> ?_))))))))
 ·refine TC.a (TL.i z z (TL.en (TC.ret (S.r ?_))))
  obtain rfl:=so hh
  exact rq [2] ⟨z,z,z⟩
 refine TC.skip (S.n (TC.a (TL.i z z (TL.en (TC.ret ?_)))))
 obtain rfl:=so hh
 exact rq [2] ⟨z,z,z⟩
def Dm_(x0:List Int)(k103:Nat):Option ((Nat)⊕(Int)):=
 iteO (decide (((k103:Nat):Int)<((x0.length:Nat):Int))) (iteO (decide ((nth x0 k103 (0:Int))≠0)) (fin (some (nth x0 k103 (0:Int)))) (nxt (k103+1))) (fin (some 0))
def Fc_(x0:List Int):Option (Int):=
 iter (fun q:Nat=>Dm_ x0 q) 0
theorem Ft_{x0:List Int}(f0_0:RS σ 1 eI_ (.slice a0_0 x0.length c0_0) x0){r:Int}(hh:Fc_ x0=some r):
  Con Tryz.prog 134 #[.slice a0_0 x0.length c0_0] σ [] (PureP (.int .i64 r) σ):=by
 dsimp only [Fc_]at hh
 have f0_0b:=f0_0.rv.big
 refine Con.mk (n:=18) Tryz.func134 z z z (fun w0=> ?_)
 refine TC.a (TL.i z z (TL.en (TC.a (TL.i z z (TL.en (TC.seq (TC.a (TL.s z z (TL.w z (lenC z underlying86 z) (TL.i z z (TL.en (TC.block (TC.loopG (α:=(Nat)×(Unit)) (rgs [(2,1),(5,1),(8,9)]) (fun g=>[(8,.int .i64 ((g.1:Nat):Int))]) (fun g=>[]) (fun g=>σ) (fun g=>iter (fun q:Nat=>Dm_ x0 q) g.1=some r) (fun g=>rounds (fun q:Nat=>Dm_ x0 q) g.1) (0,()) (Sub.pre 0 z) z (by repeat (first|exact trivial|refine ⟨z,?_⟩)) hh (fun g1 j1 hg1=> ?_))))))))))))))
 obtain ⟨k103,_⟩:=g1
 have hh:=hg1;clear hg1
 try dsimp only
 obtain ⟨z1,hh,hR1⟩:=iter_e hh
 dsimp only [Dm_]at hh
 refine TC.a (TL.w z (OpVal.lss z z z) (TL.en (TC.seq (TC.cD z hh (fun h104 hh=> ?_) (fun h104 hh=> ?_)))))
 ·refine TC.skip (S.n (TC.seq (TC.block (TC.a (TL.w z (indexN z underlying86 sz3 z z f0_0.rv.sl (by omega)) (TL.w z (loadS1 (0:Int) z ag3 z f0_0 (by omega) z) (TL.i z z (TL.en (TC.a (TL.i z z (TL.i z z (TL.w z (OpVal.neq z z z) (TL.en (TC.cD z hh (fun h105 hh=> ?_) (fun h105 hh=> ?_)))))))))))))))
  ·refine TC.a (TL.i z z (TL.i z z (TL.en (TC.ret (B.r (S.r (S.r ?_)))))))
   replace hh:=fin_x hR1 hh
   refine B.r (S.r ?_)
   obtain rfl:=so hh
   exact rq [2] ⟨z,z,z⟩
  refine TC.skip (B.n (S.n (TC.region (TL.w z (OpVal.succ z z z (by omega)) (TL.i z z (TL.en ?_))))))
  obtain ⟨hh,hlt106⟩:=nxt_x hR1 hh
  exact lf ((k103+1),()) hlt106 hh (Sub.pre 0 z)
 refine TC.exit (S.x (S.x ?_))
 replace hh:=fin_x hR1 hh
 refine TC.exitHere (S.n (TC.a (TL.i z z (TL.i z z (TL.en (TC.ret ?_))))))
 obtain rfl:=so hh
 exact rq [2] ⟨z,z,z⟩
def Du_(x0:Tip)(x1:Tip):Option (Int):=
 bnd (B5_ x0.state x1.state) (fun v8=>bnd (C7_ x0.out x1.out) (fun v13=>bnd (Fc_ [v8,v13]) (fun v15=>some v15)))
theorem Fz_{x0:Tip}{x1:Tip}{r:Int}(hh:Du_ x0 x1=some r):
  Con Tryz.prog 96 #[.agg #[.int .i64 x0.state,.string (bs x0.out)],.agg #[.int .i64 x1.state,.string (bs x1.out)]] σ [] (PureP (.int .i64 r) σ):=by
 dsimp only [Du_]at hh
 refine Con.mk (n:=17) Tryz.func96 z z z (fun w0=> ?_)
 refine TC.a (TL.op z (boxA z z z z (fun b101=> ?_)))
 refine TL.op z (boxA z z z z (fun b103=> ?_))
 refine TL.i z z (TL.en (TC.seq ?_))
 obtain ⟨v8,u8,hh⟩:=bnd_e hh
 obtain ⟨v13,u13,hh⟩:=bnd_e hh
 obtain ⟨v15,u15,hh⟩:=bnd_e hh
 refine TC.draw [] (by kernel_rfl) (TA.a 0 z (fieldLoc z fo76_0 z) z (TA.b 1 z (loadLoc z ag3 z (i:=1) z z) z (TA.a 2 z (fieldLoc z fo76_0 z) z (TA.b 3 z (loadLoc z ag3 z (i:=0) z z) z (TA.a 5 z (fieldLoc z fo76_1 z) z (TA.b 6 z (loadLoc z ag9 z (i:=1) z z) z (TA.a 7 z (fieldLoc z fo76_1 z) z (TA.b 8 z (loadLoc z ag9 z (i:=0) z z) z (TA.ac 4 z (callP (Cy_ u8) z z pf135 z z z (k0 ?_)))))))))))
 refine TA.ac 9 z (callP (El_ u13) z z pf64 z z z (k0 ?_))
 refine TA.ac 10 z (OpOk.lit (enc:=eI_) [v8,v13] z underlying86 sz3 ze3 z z z eIl_ (by decide) (by decide) (0:Int) z (by decide) z (by decide) eIo_ (fun a110 c111=>(k1 ?_)))
 refine TA.ac 11 z (callK (Con.lend eIl_ (fun _ hle114 hr113=>Ft_ hr113 u15)) z z pf134 z z z z (k1 ?_))
 refine TA.a 12 z (moveI (.inr z) z) z (TA.dn (S.n (TC.rt 0 ?_)))
 obtain rfl:=so hh
 exact rq [4] ⟨z,z,z⟩
def compareUs_b1(x0:List Nat)(x1:List Nat)(k103:Nat):Option ((Nat)⊕(Int)):=
 iteO (decide (((k103:Nat):Int)<((x0.length:Nat):Int))) (iteO (decide (((x1.length:Nat):Int)≤((k103:Nat):Int))) (fin (some 1)) (grd (k103<x1.length) (bnd (compareU (nth x0 k103 (0:Nat)) (nth x1 k103 (0:Nat))) (fun v23=>iteO (decide (v23≠0)) (fin (some v23)) (nxt (k103+1)))))) (fin (iteO (decide (((x0.length:Nat):Int)<((x1.length:Nat):Int))) (some (-1)) (some 0)))
def compareUs(x0:List Nat)(x1:List Nat):Option (Int):=
 iter (fun q:Nat=>compareUs_b1 x0 x1 q) 0
theorem compareUs_con{x0:List Nat}{x1:List Nat}(f0_0:RS σ 1 encW (.slice a0_0 x0.length c0_0) x0)(f1_0:RS σ 1 encW (.slice a1_0 x1.length c1_0) x1){r:Int}(hh:compareUs x0 x1=some r):
  Con Tryz.prog 139 #[.slice a0_0 x0.length c0_0,.slice a1_0 x1.length c1_0] σ [] (PureP (.int .i64 r) σ):=by
 dsimp only [compareUs]at hh
 have f0_0b:=f0_0.rv.big
 have f1_0b:=f1_0.rv.big
 refine Con.mk (n:=36) Tryz.func139 z z z (fun w0=> ?_)
 refine TC.a (TL.i z z (TL.en (TC.seq (TC.a (TL.s z z (TL.w z (lenC z underlying194 z) (TL.i z z (TL.en (TC.block (TC.loopG (α:=(Nat)×(Unit)) (rgs [(4,5),(11,20)]) (fun g=>[(11,.int .i64 ((g.1:Nat):Int))]) (fun g=>[]) (fun g=>σ) (fun g=>iter (fun q:Nat=>compareUs_b1 x0 x1 q) g.1=some r) (fun g=>rounds (fun q:Nat=>compareUs_b1 x0 x1 q) g.1) (0,()) (Sub.pre 0 z) z (by repeat (first|exact trivial|refine ⟨z,?_⟩)) hh (fun g1 j1 hg1=> ?_)))))))))))
 obtain ⟨k103,_⟩:=g1
 have hh:=hg1;clear hg1
 try dsimp only
 obtain ⟨z1,hh,hR1⟩:=iter_e hh
 dsimp only [compareUs_b1]at hh
 refine TC.a (TL.w z (OpVal.lss z z z) (TL.en (TC.seq (TC.cD z hh (fun h104 hh=> ?_) (fun h104 hh=> ?_)))))
 ·refine TC.skip (S.n (TC.seq (TC.block (TC.a (TL.i z z (TL.w z (indexN z underlying194 sz62 z z f0_0.rv.sl (by omega)) (TL.w z (loadS1 (0:Nat) z ag62 z f0_0 (by omega) z) (TL.i z z (TL.i z z (TL.en (TC.seq (TC.a (TL.i z z (TL.s z z (TL.w z (lenC z underlying194 z) ?_)))))))))))))))
  refine TL.w z (OpVal.geq z z z) (TL.en (TC.cD z hh (fun h105 hh=> ?_) (fun h105 hh=> ?_)))
  ·refine TC.a (TL.i z z (TL.en (TC.ret (S.r (B.r (S.r (S.r ?_)))))))
   replace hh:=fin_x hR1 hh
   refine B.r (S.r ?_)
   obtain rfl:=so hh
   exact rq [4] ⟨z,z,z⟩
  refine TC.skip (S.n (TC.a (TL.s z z (TL.i z z ?_))))
  have u18:=grd_c hh
  replace hh:=grd_t hh
  refine TL.w z (indexN z underlying194 sz62 z z f1_0.rv.sl (by omega)) (TL.w z (loadS1 (0:Nat) z ag62 z f1_0 (by omega) z) (TL.i z z (TL.en (TC.a (TL.i z z (TL.i z z ?_))))))
  obtain ⟨v23,u23,hh⟩:=bnd_e hh
  refine TL.op z (callP (compareU_con u23) z z pf158 z z z ?_)
  refine TL.i z z (TL.en (TC.a (TL.i z z (TL.w z (OpVal.neq z z z) (TL.en (TC.cD z hh (fun h106 hh=> ?_) (fun h106 hh=> ?_)))))))
  ·refine TC.a (TL.i z z (TL.i z z (TL.en (TC.ret (B.r (S.r (S.r ?_)))))))
   replace hh:=fin_x hR1 hh
   refine B.r (S.r ?_)
   obtain rfl:=so hh
   exact rq [4] ⟨z,z,z⟩
  refine TC.skip (B.n (S.n (TC.region (TL.w z (OpVal.succ z z z (by omega)) (TL.i z z (TL.en ?_))))))
  obtain ⟨hh,hlt107⟩:=nxt_x hR1 hh
  exact lf ((k103+1),()) hlt107 hh (Sub.pre 0 z)
 refine TC.exit (S.x (S.x ?_))
 replace hh:=fin_x hR1 hh
 refine TC.exitHere (S.n (TC.seq (TC.a (TL.s z z (TL.w z (lenC z underlying194 z) (TL.s z z (TL.w z (lenC z underlying194 z) (TL.w z (OpVal.lss z z z) (TL.en (TC.cD z hh (fun h108 hh=> ?_) (fun h108 hh=> ?_)))))))))))
 ·refine TC.a (TL.i z z (TL.en (TC.ret (S.r ?_))))
  obtain rfl:=so hh
  exact rq [4] ⟨z,z,z⟩
 refine TC.skip (S.n (TC.a (TL.i z z (TL.en (TC.ret ?_)))))
 obtain rfl:=so hh
 exact rq [4] ⟨z,z,z⟩
def Dv_(x0:Arc)(x1:Arc):Option (Int):=
 bnd (B5_ x0.frm x1.frm) (fun v8=>bnd (B5_ x0.to x1.to) (fun v13=>bnd (compareUs [x0.set.a,x0.set.b,x0.set.c,x0.set.d] [x1.set.a,x1.set.b,x1.set.c,x1.set.d]) (fun v18=>bnd (C7_ x0.out x1.out) (fun v23=>bnd (Ee_ x0.copy) (fun v26=>bnd (Ee_ x1.copy) (fun v29=>bnd (B5_ v26 v29) (fun v30=>bnd (Fc_ [v8,v13,v18,v23,v30]) (fun v32=>some v32))))))))
theorem Fy_{x0:Arc}{x1:Arc}{r:Int}(hh:Dv_ x0 x1=some r):
  Con Tryz.prog 98 #[.agg #[.int .i64 x0.frm,.int .i64 x0.to,.int .u64 ((x0.set.a:Nat):Int),.int .u64 ((x0.set.b:Nat):Int),.int .u64 ((x0.set.c:Nat):Int),.int .u64 ((x0.set.d:Nat):Int),.string (bs x0.out),.bool x0.copy],.agg #[.int .i64 x1.frm,.int .i64 x1.to,.int .u64 ((x1.set.a:Nat):Int),.int .u64 ((x1.set.b:Nat):Int),.int .u64 ((x1.set.c:Nat):Int),.int .u64 ((x1.set.d:Nat):Int),.string (bs x1.out),.bool x1.copy]] σ [] (PureP (.int .i64 r) σ):=by
 dsimp only [Dv_]at hh
 refine Con.mk (n:=34) Tryz.func98 z z z (fun w0=> ?_)
 refine TC.a (TL.op z (boxA z z z z (fun b101=> ?_)))
 refine TL.op z (boxA z z z z (fun b103=> ?_))
 refine TL.i z z (TL.en (TC.seq ?_))
 obtain ⟨v8,u8,hh⟩:=bnd_e hh
 obtain ⟨v13,u13,hh⟩:=bnd_e hh
 obtain ⟨v18,u18,hh⟩:=bnd_e hh
 obtain ⟨v23,u23,hh⟩:=bnd_e hh
 obtain ⟨v26,u26,hh⟩:=bnd_e hh
 obtain ⟨v29,u29,hh⟩:=bnd_e hh
 obtain ⟨v30,u30,hh⟩:=bnd_e hh
 obtain ⟨v32,u32,hh⟩:=bnd_e hh
 refine TC.draw [] (by kernel_rfl) (TA.a 0 z (fieldLoc z fo66_0 z) z (TA.b 1 z (loadLoc z ag3 z (i:=1) z z) z (TA.a 2 z (fieldLoc z fo66_0 z) z (TA.b 3 z (loadLoc z ag3 z (i:=0) z z) z (TA.a 5 z (fieldLoc z fo66_1 z) z (TA.b 6 z (loadLoc z ag3 z (i:=1) z z) z (TA.a 7 z (fieldLoc z fo66_1 z) z (TA.b 8 z (loadLoc z ag3 z (i:=0) z z) z (TA.a 10 z (fieldLoc z fo66_2 z) z (TA.b 11 z (sliceArr z underlying64 sz62 z) z (TA.a 12 z (fieldLoc z fo66_2 z) z (TA.b 13 z (sliceArr z underlying64 sz62 z) z (TA.a 15 z (fieldLoc z fo66_3 z) z (TA.b 16 z (loadLoc z ag9 z (i:=1) z z) z (TA.a 17 z (fieldLoc z fo66_3 z) z ?_)))))))))))))))
 refine TA.b 18 z (loadLoc z ag9 z (i:=0) z z) z (TA.a 20 z (fieldLoc z fo66_4 z) z (TA.b 21 z (loadLoc z ag4 z (i:=1) z z) z (TA.a 23 z (fieldLoc z fo66_4 z) z (TA.b 24 z (loadLoc z ag4 z (i:=0) z z) z (TA.ac 4 z (callP (Cy_ u8) z z pf135 z z z (k0 ?_)))))))
 refine TA.ac 9 z (callP (Cy_ u13) z z pf135 z z z (k0 ?_))
 refine TA.front 1 z z (TA.ac 14 z (callK (Con.lendC (fun _ hle116 hr114=>Con.lendC (fun _ hle117 hr115=>compareUs_con (RS.ofCells (l:=[x0.set.a,x0.set.b,x0.set.c,x0.set.d]) (hle117 _ _ hr114) encW_len encW_one z z z) (RS.ofCells (l:=[x1.set.a,x1.set.b,x1.set.c,x1.set.d]) hr115 encW_len encW_one z z z) u18))) z z pf139 z z z z ⟨(fun w h=>sees_of (Store.le.refl _) (fun r hr=>mem_pick [1,0] z hr) w h),?_⟩))
 refine TA.ac 19 z (callP (El_ u23) z z pf64 z z z ⟨(fun w h=>sees_of (Store.le.refl _) (fun r hr=>mem_pick [1,0] z hr) w h),?_⟩)
 refine TA.ac 22 z (callP (Fj_ u26) z z pf140 z z z ⟨(fun w h=>sees_of (Store.le.refl _) (fun r hr=>mem_pick [1,0] z hr) w h),?_⟩)
 refine TA.ac 25 z (callP (Fj_ u29) z z pf140 z z z ⟨(fun w h=>sees_of (Store.le.refl _) (fun r hr=>mem_pick [1,0] z hr) w h),?_⟩)
 refine TA.ac 26 z (callP (Cy_ u30) z z pf135 z z z ⟨(fun w h=>sees_of (Store.le.refl _) (fun r hr=>mem_pick [1,0] z hr) w h),?_⟩)
 refine TA.ac 27 z (OpOk.lit (enc:=eI_) [v8,v13,v18,v23,v30] z underlying86 sz3 ze3 z z z eIl_ (by decide) (by decide) (0:Int) z (by decide) z (by decide) eIo_ (fun a118 c119=>⟨(fun w h=>sees_of (Store.le.refl _) (fun r hr=>mem_pick [2,1] z hr) w h),?_⟩))
 refine TA.ac 28 z (callK (Con.lend eIl_ (fun _ hle122 hr121=>Ft_ hr121 u32)) z z pf134 z z z z ⟨(fun w h=>sees_of (Store.le.refl _) (fun r hr=>mem_pick [2,1] z hr) w h),?_⟩)
 refine TA.a 29 z (moveI (.inr z) z) z (TA.dn (S.n (TC.rt 0 ?_)))
 obtain rfl:=so hh
 exact rq [4] ⟨z,z,z⟩
end Go.Proofs.YtchebnpdnfhenaaGreatDoor
end

noncomputable section
namespace Go.E
open Go Go.Sort Go.Proofs Go.Shelf
theorem Reach.grown{w w':World}{H:List Res}(h:Reach w [] (fun _=>none) σ w' H): ∃q os',w'=grow (w.drewN q) os':=by
  refine ⟨w'.drawn - w.drawn,w'.heap.extract w.heap.size w'.heap.size,?_⟩
  have h1:w'.heap=w.heap++w'.heap.extract w.heap.size w'.heap.size:=by
    apply Array.ext_getElem?
    intro i
    rw [Array.getElem?_append]
    split
    · rename_i hi;exact h.frame i hi (by simp)
    rename_i hi
    by_cases hl:i<w'.heap.size
    · rw [Array.getElem?_extract_of_lt (by omega)];simp only [show w.heap.size+(i - w.heap.size)=i by omega];exact Array.getElem?_eq_getElem hl
    rw [Array.getElem?_eq_none (by omega),Array.getElem?_eq_none (by simp;omega)]
  have h2:=h.drawn
  cases w' with
  |mk heap tape drawn os output=>
    have e1:=h.os;have e2:=h.tape;have e3:=h.output
    simp only at h1 h2 e1 e2 e3
    simp only [grow,World.drewN]
    rw [World.mk.injEq]
    exact ⟨h1,e2,by omega,e1,e3⟩
theorem reach_nil(w:World):Reach w [] (fun _=>none) (fun _=>none) w []:=
  ⟨rfl,rfl,rfl,Nat.le_refl _,fun _ _ _=>rfl,Store.le.refl _,(fun _ _ h=>by cases h),(fun _ _ h=>by cases h),by simp,by simp,by simp [blks],by simp,Nat.le_refl _⟩
section
variable {α:Type} [Inhabited α] {P:Program}
theorem cmpLays1_of{g:Nat}{enc:α→Value}{cf:α→α→Int}{blk off size:Nat}{w:World}(h: ∀x y τ,Con P g #[enc x,enc y] τ [] (PureP (.int .i64 (cf x y)) τ)):CmpLays1 P g #[] enc cf blk off size w:=by
  intro m os dk _ x y
  refine (h x y (fun _=>none) _ (reach_nil _)).mono fun e w' ⟨r,σ',H',he,⟨hr,_,_⟩,k⟩=>⟨by rw [he,hr],Reach.grown k⟩
theorem cmpLays_of{g k:Nat}{enc:α→List Value}{cf:α→α→Int}{blk off size:Nat}{w:World}(h: ∀x y τ,Con P g #[.agg (enc x).toArray,.agg (enc y).toArray] τ [] (PureP (.int .i64 (cf x y)) τ)):CmpLays P g #[] enc k cf blk off size w:=by
  intro m os dk _ x y
  refine (h x y (fun _=>none) _ (reach_nil _)).mono fun e w' ⟨r,σ',H',he,⟨hr,_,_⟩,k⟩=>⟨by rw [he,hr],Reach.grown k⟩
end
theorem getBang{α:Type}[Inhabited α](l:List α)(i:Nat)(h:i<l.length):l.toArray[i]! =l[i]:=by simp [h]
theorem Reach.sorted{w0:World}{C:List Nat}{σ0 σ:Store}{w:World}{F:List Res}{E size n cap g m:Nat}{xs xs':List Value}{os:Array Obj}(h:Reach w0 C σ0 σ w (Res.row E size (.slice (some ⟨g,0,none⟩) n cap) n xs::F))(hl:xs'.length=xs.length)(h1: ∀u∈xs',u.oneCell'=true):
    Reach w0 C σ0 σ (grow (putRow (id:Value→Value) (Sort.ahead w m) g 0 xs'.toArray) os) (Res.row E size (.slice (some ⟨g,0,none⟩) n cap) n xs'::F):=by
  obtain ⟨hown,hone,hbg⟩:=h.holds _ (List.mem_cons_self ..)
  obtain ⟨hlen,hc⟩:=hown
  rcases hc with ⟨hc,_⟩|⟨g',cap',cur,hv,hb0,hg,h3,h4,h5,h6⟩
  · cases hc
  cases hv
  have hgl:g<w.heap.size:=(Array.getElem?_eq_some_iff.1 hg).1
  have hnew:(grow (putRow (id:Value→Value) (Sort.ahead w m) g 0 xs'.toArray) os).heap[g]? =some (.cells (putCells (id:Value→Value) 0 xs'.toArray cur) E):=by
    rw [heap_grow_old _ _ (by simpa using hgl)]
    simp [putRow,mapBlock,Sort.ahead,Array.getElem?_modify,hg,onCells]
  have hold: ∀k,k<w.heap.size→k≠g→(grow (putRow (id:Value→Value) (Sort.ahead w m) g 0 xs'.toArray) os).heap[k]? =w.heap[k]? :=by
    intro k hk hne
    rw [heap_grow_old _ _ (by simpa using hk)]
    have:g≠k:=fun e=>hne e.symm
    simp [putRow,mapBlock,Sort.ahead,Array.getElem?_modify,this]
  have hcur:xs.length≤cur.size:=by
    have:=congrArg List.length h6
    simp at this;omega
  refine h.turn1 (some g) (some g) rfl rfl rfl rfl rfl (by simp [grow]) (by simp [grow,putRow,mapBlock,Sort.ahead]) (fun k hk hne=>hold k hk fun e=>hne (by rw [e])) ⟨⟨by rw [hl];exact hlen,.inr ⟨g,cap,_,rfl,hb0,hnew,h3,h4,by simp [putCells,h5],?_⟩⟩,h1,hbg⟩ (fun b hb=> .inl hb)
  apply List.ext_getElem?
  intro i
  by_cases hi:i<n * size
  · have hi2:i<xs'.length:=by rw [hl,hlen];exact hi
    rw [List.getElem?_take_of_lt hi,Array.getElem?_toList]
    simp [putCells,hi2,show i<cur.size by omega]
  rw [List.getElem?_take_eq_none (by omega),List.getElem?_eq_none (by omega)]
theorem holds_row{w:World}{E size n cap g:Nat}{xs:List Value}(h:w.ownsRow 0 E size (.slice (some ⟨g,0,none⟩) n cap) n xs):Holds (id:Value→Value) w g 0 xs.toArray∧g<w.heap.size:=by
  obtain ⟨hlen,hc⟩:=h
  rcases hc with ⟨hc,_⟩|⟨g',cap',cur,hv,hb0,hg,h3,h4,h5,h6⟩
  · cases hc
  cases hv
  refine ⟨fun j hj=> ?_,(Array.getElem?_eq_some_iff.1 hg).1⟩
  have hj':j<xs.length:=by simpa using hj
  refine ⟨?_,by simp [World.frozen?,hg]⟩
  have h7:(cur.toList.take (n * size))[j]? =xs[j]? :=by rw [h6]
  rw [List.getElem?_take_of_lt (by omega)]at h7
  simp only [World.cell?,hg,Nat.zero_add,Option.isSome_none,Bool.false_eq_true,if_false]
  rw [←Array.getElem?_toList,h7]
  simp [hj']
theorem putRow_id{α:Type}[Inhabited α](enc:α→Value)(w:World)(g:Nat)(l:List α):putRow enc w g 0 l.toArray=putRow (id:Value→Value) w g 0 (l.map enc).toArray:=by
  unfold putRow
  congr 1
  funext c
  unfold putCells
  apply Array.ext_getElem?
  intro i
  simp only [Array.getElem?_mapIdx]
  cases hc:c[i]? with
  |none=>rfl
  |some v=>
    simp only [Option.map_some,Nat.zero_le,true_and,Nat.zero_add,Nat.sub_zero,List.size_toArray,List.length_map]
    split
    · rename_i hi;simp [hi]
    rfl
theorem flatK_list {α : Type} [Inhabited α] {enc : α → List Value} {k : Nat} (hk : ∀ x, (enc x).length = k) (l : List α) : flatK enc k l.toArray = (l.flatMap enc).toArray := by
  have hl:(l.flatMap enc).length=l.length * k:=flatMap_len hk l
  refine ext_get! (by simp [hl]) fun t ht=> ?_
  have ht':t<l.length * k:=by simpa using ht
  have k0 : 0 < k := by rcases Nat.eq_zero_or_pos k with h | h
                        · subst h;simp at ht'
                        exact h
  have hd:t / k<l.length:=Nat.div_lt_of_lt_mul (by rw [Nat.mul_comm];exact ht')
  have hm:t % k<k:=Nat.mod_lt _ k0
  rw [get_flatK _ _ _ _ (by simpa using ht'),getBang l _ hd]
  have h2:=flatMap_get hk l (t / k) (t % k) l[t / k] (List.getElem?_eq_getElem hd) hm
  rw [Nat.div_add_mod' t k]at h2
  have hb:t<(l.flatMap enc).toArray.size:=by simpa [hl]using ht'
  have h3:(l.flatMap enc).toArray[t]! =(enc l[t / k])[t % k]! :=by
    rw [getElem!_pos (l.flatMap enc).toArray t hb]
    have h4:(l.flatMap enc)[t]? =some ((l.flatMap enc).toArray[t]'hb):=by rw [←List.getElem?_toArray];exact Array.getElem?_eq_getElem hb
    rw [h2]at h4
    have hlt:t % k<(enc l[t / k]).length:=by rw [hk];exact hm
    rw [List.getElem?_eq_getElem hlt,Option.some.injEq]at h4
    rw [getElem!_pos (enc l[t / k]) (t % k) hlt,h4]
  rw [h3]
def sortL{α:Type}(cf:α→α→Int)(l:List α):List α:=l.mergeSort fun x y=> !decide (cf y x<0)
def SortP{α:Type}(E size:Nat)(enc:α→List Value)(a:Option Addr)(c:Nat)(l l':List α)(σ:Store):Value→Store→List Res→Prop:=fun v σ' H'=>v= .tuple #[]∧σ=σ'∧H'=[Res.rowS E size enc (.slice a l.length c) l']
structure TotalCmp {α:Type} (cf:α→α→Int):Prop where
  swo:SWO (ltOf cf)
  tot: ∀x y,ltOf cf x y=false→ltOf cf y x=false→x=y
section
variable {α:Type} [Inhabited α] {P:Program} {ρ:Ren}
theorem Con.sort1(L:SlLaysF.n6 P ρ)(L0:SlLaysF0.n6 P ρ){enc:α→Value}{encL:α→List Value}{cf:α→α→Int}{f g E c:Nat}{a:Option Addr}{l:List α}(hf:ρ.f 6=f)(he: ∀x,encL x=[enc x])(h1:OneCell enc)(hO:TotalCmp cf)
    (eg: ∀args w,(callFunc g args).run P w= .ok (.enter g args) w) (hc: ∀x y τ,Con P g #[enc x,enc y] τ [] (PureP (.int .i64 (cf x y)) τ)):
    Con P f #[.slice a l.length c,.func (.func g) #[] #[]] σ [Res.rowS E 1 encL (.slice a l.length c) l] (SortP E 1 encL a c l (sortL cf l) σ):=by
  subst hf
  have hflat: ∀l:List α,l.flatMap encL=l.map enc:=fun l=>by
    induction l with
    |nil=>rfl
    |cons x l ih=>rw [List.flatMap_cons,ih,he];rfl
  have hlen:(sortL cf l).length=l.length:=List.length_mergeSort _
  intro w hw
  obtain ⟨hown,hone,hbg⟩:=hw.holds _ (List.mem_cons_self ..)
  have hsl:=isSl_row hown
  rcases id hown.2 with ⟨hn,hm⟩|⟨g',cap',cur,hv,hb0,hg,h3,h4,h5,h6⟩
  · have hl0:l=[]:=List.eq_nil_of_length_eq_zero hm
    subst hl0
    refine (AnyF.slices_SortFunc_none L0 a c (.func (.func g) #[] #[]) w).mono fun e w' ⟨h1,h2⟩=>⟨_,σ,_,h1,⟨rfl,rfl,rfl⟩,?_⟩
    subst h2
    rw [show sortL cf ([]:List α)=[]from by simp [sortL]]
    exact hw
  cases hv
  have hH:=holds_row hown
  rw [hflat]at hH
  have hHe:Holds enc w g' 0 l.toArray:=fun j hj=>by
    have:=hH.1 j (by simpa using hj)
    have hj':j<l.length:=by simpa using hj
    simpa [hj']using this
  have hsz:l.toArray.size<4611686018427387904:=by simp;omega
  have:=Any.slices_SortFunc_total L enc h1 cf hO.swo g #[] g' 0 c l.toArray w eg (cmpLays1_of hc) hHe hH.2 hsz hO.tot
  refine this.mono fun e w' ⟨h7,n,os,h8⟩=>⟨_,σ,_,h7,⟨rfl,rfl,rfl⟩,?_⟩
  subst h8
  have h9:(l.toArray.toList.mergeSort fun x y=> !(ltOf cf) y x)=sortL cf l:=rfl
  rw [h9]
  unfold sortWorld
  rw [putRow_id]
  have:=Reach.sorted (h:=hw) (m:=n) (os:=os) (xs':=(sortL cf l).map enc) (by rw [hflat,List.length_map,List.length_map,hlen]) (fun u hu=>by
    obtain ⟨x,_,rfl⟩:=List.mem_map.1 hu
    exact h1 x)
  unfold Res.rowS
  rw [hflat (sortL cf l),hlen]
  exact this
theorem Con.sortK(L:SlLaysF0.n6 P ρ){k:Nat}{enc:α→List Value}{cf:α→α→Int}{f g E c:Nat}{a:Option Addr}{l:List α}(hf:ρ.f 6=f)(aE: ∀w,(isAgg (ρ.t 24)).run P w= .ok true w)(zE: ∀w,(Go.sizeOf (ρ.t 24)).run P w= .ok k w)(hk: ∀x,(enc x).length=k)(h1: ∀x, ∀u∈enc x,u.oneCell'=true)(hO:TotalCmp cf)
    (eg: ∀args w,(callFunc g args).run P w= .ok (.enter g args) w) (hc: ∀x y τ,Con P g #[.agg (enc x).toArray,.agg (enc y).toArray] τ [] (PureP (.int .i64 (cf x y)) τ)):
    Con P f #[.slice a l.length c,.func (.func g) #[] #[]] σ [Res.rowS E k enc (.slice a l.length c) l] (SortP E k enc a c l (sortL cf l) σ):=by
  subst hf
  have hlen:(sortL cf l).length=l.length:=List.length_mergeSort _
  intro w hw
  obtain ⟨hown,hone,hbg⟩:=hw.holds _ (List.mem_cons_self ..)
  rcases id hown.2 with ⟨hn,hm⟩|⟨g',cap',cur,hv,hb0,hg,h3,h4,h5,h6⟩
  · have hl0:l=[]:=List.eq_nil_of_length_eq_zero hm
    subst hl0
    refine (AnyF.slices_SortFunc_none L a c (.func (.func g) #[] #[]) w).mono fun e w' ⟨h1,h2⟩=>⟨_,σ,_,h1,⟨rfl,rfl,rfl⟩,?_⟩
    subst h2
    rw [show sortL cf ([]:List α)=[]from by simp [sortL]]
    exact hw
  cases hv
  have hH:=holds_row hown
  have hHe:HoldsK enc k w g' 0 l.toArray:=by
    unfold HoldsK;rw [flatK_list hk];exact hH.1
  have hsz:l.toArray.size<4611686018427387904:=by simp;omega
  have:=AnyQ.slices_SortFunc_total L k aE zE enc hk h1 cf hO.swo g #[] g' 0 c l.toArray w eg (cmpLays_of hc) hHe hH.2 hsz hO.tot
  refine this.mono fun e w' ⟨h7,n,os,h8⟩=>⟨_,σ,_,h7,⟨rfl,rfl,rfl⟩,?_⟩
  subst h8
  have h9:(l.toArray.toList.mergeSort fun x y=> !(ltOf cf) y x)=sortL cf l:=rfl
  rw [h9]
  unfold sortWorldK putRowK
  rw [flatK_list hk]
  have:=Reach.sorted (h:=hw) (m:=n) (os:=os) (xs':=(sortL cf l).flatMap enc) (by rw [flatMap_len hk,flatMap_len hk,hlen]) (fun u hu=>by
    obtain ⟨x,_,hx⟩:=List.mem_flatMap.1 hu
    exact h1 x u hx)
  unfold Res.rowS
  rw [hlen]
  exact this
end
end Go.E
end

noncomputable section
namespace Go.E
open Go
section
variable {S R:Type} {step:S→Option (S⊕R)}
theorem iter_any {y no : R} (f : Nat → S) (p : Nat → Bool) (n : Nat) (hs : ∀ k, k < n → p k = false → step (f k) = some (.inl (f (k + 1)))) (hy : ∀ k, k < n → p k = true → step (f k) = some (.inr y))
    (hd:step (f n)=some (.inr no)): ∀k,k≤n→iter step (f k)=some (bif (List.range n).any (fun i=>decide (k≤i) && p i) then y else no):=by
  intro k hk
  obtain ⟨m,rfl⟩: ∃m,k=n - m:=⟨n - k,by omega⟩
  induction m with
  |zero=>
    have:(List.range n).any (fun i=>decide (n - 0≤i) && p i)=false:=by
      rw [List.any_eq_false];intro i hi;have:=List.mem_range.1 hi;simp;omega
    rw [this];exact iter_done hd
  |succ m ih=>
    by_cases h:m<n
    · have e:n - (m+1)+1=n - m:=by omega
      cases hp:p (n - (m+1))with
      |true=>
        have:(List.range n).any (fun i=>decide (n - (m+1)≤i) && p i)=true:=by
          rw [List.any_eq_true];exact ⟨n - (m+1),List.mem_range.2 (by omega),by simp [hp]⟩
        rw [this];exact iter_done (hy _ (by omega) hp)
      |false=>
        have h1:=hs (n - (m+1)) (by omega) hp
        rw [e]at h1
        have:(List.range n).any (fun i=>decide (n - (m+1)≤i) && p i)=(List.range n).any (fun i=>decide (n - m≤i) && p i):=by
          rw [Bool.eq_iff_iff,List.any_eq_true,List.any_eq_true]
          constructor
          · rintro ⟨i,hi,hx⟩
            simp only [Bool.and_eq_true,decide_eq_true_eq]at hx
            refine ⟨i,hi,?_⟩
            have:i≠n - (m+1):=fun h=>by rw [h,hp]at hx;exact absurd hx.2 Bool.false_ne_true
            simp [hx.2];omega
          rintro ⟨i,hi,hx⟩
          simp only [Bool.and_eq_true,decide_eq_true_eq]at hx
          exact ⟨i,hi,by simp [hx.2];omega⟩
        rw [this]
        exact iter_next h1 (ih (by omega))
    have e:n - (m+1)=n - m:=by omega
    rw [e];exact ih (by omega)
theorem iter_any0{y no:R}(f:Nat→S)(p:Nat→Bool)(n:Nat)(hs: ∀k,k<n→p k=false→step (f k)=some (.inl (f (k+1))))(hy: ∀k,k<n→p k=true→step (f k)=some (.inr y))
    (hd:step (f n)=some (.inr no)):iter step (f 0)=some (bif (List.range n).any p then y else no):=by
  have:=iter_any f p n hs hy hd 0 (by omega)
  simpa using this
theorem iter_seq0{r:R}(f:Nat→S)(n:Nat)(hs: ∀k,k<n→step (f k)=some (.inl (f (k+1))))(hd:step (f n)=some (.inr r)):iter step (f 0)=some r:=iter_seq f n hs hd 0 (by omega)
end
theorem range_any{α:Type}(l:List α)(d:α)(p:α→Bool):(List.range l.length).any (fun i=>p (nth l i d))=l.any p:=by
  rw [Bool.eq_iff_iff,List.any_eq_true,List.any_eq_true]
  constructor
  · rintro ⟨i,hi,h⟩
    have hi:=List.mem_range.1 hi
    exact ⟨nth l i d,List.mem_of_getElem? (getD_some l hi d),h⟩
  rintro ⟨x,hx,h⟩
  obtain ⟨i,hi,rfl⟩:=List.getElem_of_mem hx
  refine ⟨i,List.mem_range.2 hi,?_⟩
  have:nth l i d=l[i]:=by have:=getD_some l hi d;rw [List.getElem?_eq_getElem hi]at this;exact (Option.some.inj this).symm
  rw [this];exact h
theorem take_snoc{α:Type}(l:List α){k:Nat}(h:k<l.length)(d:α):l.take (k+1)=l.take k++[nth l k d]:=by
  rw [List.take_add_one,getD_some l h d];rfl
theorem nth_mem'{α:Type}{l:List α}{i:Nat}(h:i<l.length)(d:α):nth l i d∈l:=List.mem_of_getElem? (getD_some l h d)
end Go.E
end

noncomputable section
namespace Go.Proofs.YtchebnpdnfhenaaGreatDoor
open Go Go.E Go.Sort
structure GoodCmp {α:Type} (c:α→α→Int):Prop where
  eq: ∀x y,c x y=0↔x=y
  anti: ∀x y,c x y<0↔0<c y x
  trans: ∀x y z,c x y<0→c y z<0→c x z<0
theorem GoodCmp.total{α:Type}{c:α→α→Int}(h:GoodCmp c):TotalCmp c where
  swo := {
    irrefl:=fun x=>by have:=(h.eq x x).2 rfl;simp [ltOf,this]
    trans:=fun x y z h1 h2=>by
      simp only [ltOf,decide_eq_true_eq]at *
      exact h.trans x y z h1 h2
    ntrans:=fun x y z h1 h2=>by
      simp only [ltOf,decide_eq_false_iff_not]at *
      intro h3
      by_cases e1:x=y
      · subst e1;exact h2 h3
      by_cases e2:y=z
      · subst e2;exact h1 h3
      have n1:c x y≠0:=fun e=>e1 ((h.eq _ _).1 e)
      have n2:c y z≠0:=fun e=>e2 ((h.eq _ _).1 e)
      have h4:c z y<0:=(h.anti _ _).2 (by omega)
      exact h1 (h.trans _ _ _ h3 h4)}
  tot:=fun x y h1 h2=>by
    simp only [ltOf,decide_eq_false_iff_not]at *
    refine (h.eq x y).1 ?_
    have:=(h.anti y x)
    omega
def corI(a b:Int):Int:=if a≠0 then a else b
theorem GoodCmp.lex {α β γ : Type} {c : β → β → Int} {d : γ → γ → Int} (hc : GoodCmp c) (hd : GoodCmp d) (f : α → β) (g : α → γ) (hfg : ∀ x y, f x = f y → g x = g y → x = y) : GoodCmp fun x y => corI (c (f x) (f y)) (d (g x) (g y)) where
  eq x y:=by
    unfold corI
    by_cases h:c (f x) (f y)=0
    · have hf:=(hc.eq _ _).1 h
      simp only [h,ne_eq,not_true_eq_false,if_false,hd.eq]
      exact ⟨fun hg=>hfg x y hf hg,fun e=>by rw [e]⟩
    simp only [ne_eq,h,not_false_eq_true,if_true,false_iff]
    intro e;subst e;exact h ((hc.eq _ _).2 rfl)
  anti x y:=by
    unfold corI
    have h1:=hc.anti (f x) (f y)
    have h2:=hc.anti (f y) (f x)
    have h3:=hd.anti (g x) (g y)
    by_cases h:c (f x) (f y)=0
    · have hf:=(hc.eq _ _).1 h
      have h':c (f y) (f x)=0:=(hc.eq _ _).2 hf.symm
      simp only [h,h',ne_eq,not_true_eq_false,if_false];exact h3
    have h':c (f y) (f x)≠0:=fun e=>h ((hc.eq _ _).2 ((hc.eq _ _).1 e).symm)
    simp only [h,h',ne_eq,not_false_eq_true,if_true];exact h1
  trans x y z := by
    unfold corI
    intro h1 h2
    by_cases a:c (f x) (f y)=0
    · have ea:=(hc.eq _ _).1 a
      rw [a]at h1;simp only [ne_eq,not_true_eq_false,if_false]at h1
      rw [ea]
      by_cases b:c (f y) (f z)=0
      · rw [b]at h2 ⊢
        simp only [ne_eq,not_true_eq_false,if_false]at h2 ⊢
        exact hd.trans _ _ _ h1 h2
      simp only [ne_eq,b,not_false_eq_true,if_true]at h2 ⊢;exact h2
    simp only [ne_eq,a,not_false_eq_true,if_true]at h1
    by_cases b:c (f y) (f z)=0
    · have eb:=(hc.eq _ _).1 b
      rw [←eb]
      simp only [ne_eq,a,not_false_eq_true,if_true];exact h1
    simp only [ne_eq,b,not_false_eq_true,if_true]at h2
    have h3:=hc.trans _ _ _ h1 h2
    have h4:c (f x) (f z)≠0:=by omega
    simp only [ne_eq,h4,not_false_eq_true,if_true];exact h3
def cmpI(x y:Int):Int:=if x<y then -1 else if y<x then 1 else 0
theorem cmpI_good:GoodCmp cmpI where
  eq x y:=by unfold cmpI;(repeat' split)<;>omega
  anti x y:=by unfold cmpI;(repeat' split)<;>omega
  trans x y z:=by unfold cmpI;(repeat' split)<;>omega
def cmpN(x y:Nat):Int:=if x<y then -1 else if y<x then 1 else 0
theorem cmpN_good:GoodCmp cmpN where
  eq x y:=by unfold cmpN;(repeat' split)<;>omega
  anti x y:=by unfold cmpN;(repeat' split)<;>omega
  trans x y z:=by unfold cmpN;(repeat' split)<;>omega
theorem cmpB_eq: ∀a b:List UInt8,Lib.compareBytes a b=0↔a=b
  |[],[]=>by simp [Lib.compareBytes]
  |[],_::_=>by simp [Lib.compareBytes]
  |_::_,[]=>by simp [Lib.compareBytes]
  |x::a,y::b=>by
    simp only [Lib.compareBytes]
    split
    · rename_i h;simp;intro e;subst e;exact absurd h (UInt8.lt_irrefl _)
    rename_i h
    split
    · rename_i h';simp;intro e;subst e;exact absurd h' (UInt8.lt_irrefl _)
    rename_i h'
    have:x=y:=UInt8.le_antisymm (UInt8.not_lt.1 h') (UInt8.not_lt.1 h)
    subst this
    simp [cmpB_eq a b]
theorem cmpB_anti: ∀a b:List UInt8,Lib.compareBytes a b<0↔0<Lib.compareBytes b a
  |[],[]=>by simp [Lib.compareBytes]
  |[],_::_=>by simp [Lib.compareBytes]
  |_::_,[]=>by simp [Lib.compareBytes]
  | x :: a, y :: b => by
    simp only [Lib.compareBytes]
    by_cases h:x<y
    · have h': ¬ y<x:=fun h2=>UInt8.lt_irrefl _ (UInt8.lt_trans h h2)
      simp [h,h']
    by_cases h':y<x
    · simp [h,h']
    simp [h,h',cmpB_anti a b]
theorem cmpB_trans: ∀a b c:List UInt8,Lib.compareBytes a b<0→Lib.compareBytes b c<0→Lib.compareBytes a c<0
  |[],[],c,h,_=>by simp [Lib.compareBytes]at h
  |[],_::_,[],_,h=>by simp [Lib.compareBytes]at h
  |[],_::_,_::_,_,_=>by simp [Lib.compareBytes]
  |_::_,[],c,h,_=>by simp [Lib.compareBytes]at h
  |_::_,_::_,[],_,h=>by simp [Lib.compareBytes]at h
  | x :: a, y :: b, z :: c, h1, h2 => by
    simp only [Lib.compareBytes]at *
    by_cases hxy:x<y
    · by_cases hyz:y<z
      · have:=UInt8.lt_trans hxy hyz;simp [this]
      by_cases hzy:z<y
      · simp [hyz,hzy]at h2
      have:y=z:=UInt8.le_antisymm (UInt8.not_lt.1 hzy) (UInt8.not_lt.1 hyz)
      subst this;simp [hxy]
    by_cases hyx:y<x
    · simp [hxy,hyx]at h1
    have:x=y:=UInt8.le_antisymm (UInt8.not_lt.1 hyx) (UInt8.not_lt.1 hxy)
    subst this
    simp only [UInt8.lt_irrefl,if_false]at h1
    by_cases hyz:x<z
    · simp [hyz]
    by_cases hzy:z<x
    · simp [hyz,hzy]at h2
    simp only [hyz,hzy,if_false]at h2 ⊢
    exact cmpB_trans a b c h1 h2
theorem cmpB_good:GoodCmp Lib.compareBytes:=⟨cmpB_eq,cmpB_anti,cmpB_trans⟩
def cmpBool(x y:Bool):Int:=cmpI (if x then 1 else 0) (if y then 1 else 0)
theorem cmpBool_good:GoodCmp cmpBool where
  eq x y:=by cases x<;>cases y<;>decide
  anti x y:=by cases x<;>cases y<;>decide
  trans x y z:=by cases x<;>cases y<;>cases z<;>decide
theorem lt_dec{k n:Nat}(h:k<n):decide (((k:Nat):Int)<((n:Nat):Int))=true:=decide_eq_true (by omega)
end Go.Proofs.YtchebnpdnfhenaaGreatDoor
end

noncomputable section
namespace Go.Proofs.YtchebnpdnfhenaaGreatDoor
open Go Go.E Go.Sort
theorem Df_(x y:Int):B5_ x y=some (cmpI x y):=by
  unfold B5_ Ev_ cmpI
  simp only [bnd,Option.bind_some,ne_eq,not_true_eq_false,decide_false,iteO_false]
  by_cases h:x<y
  · simp [h]
  by_cases h':y<x<;>simp [h,h']
theorem compareU_eq(x y:Nat):compareU x y=some (cmpN x y):=by
  unfold compareU isNaNU cmpN
  simp only [bnd,Option.bind_some,ne_eq,not_true_eq_false,decide_false,iteO_false]
  by_cases h:x<y
  · simp [h]
  by_cases h':y<x<;>simp [h,h']
theorem E0_(x y:List UInt8):C7_ x y=some (Lib.compareBytes x y):=rfl
def orL:List Int→Int
  |[]=>0
  |a::l=>corI a (orL l)
theorem Gx_(l:List Int): ∀m k,l.length=k+m→iter (fun q:Nat=>Dm_ l q) k=some (orL (l.drop k)):=by
  intro m
  induction m with
  |zero=>
    intro k hk
    refine iter_done ?_
    rw [List.drop_of_length_le (by omega)]
    simp only [Dm_,decide_eq_false (show ¬ ((k:Nat):Int)<((l.length:Nat):Int) by omega),iteO_false];rfl
  |succ m ih=>
    intro k hk
    have hlt:k<l.length:=by omega
    have hd:l.drop k=nth l k 0::l.drop (k+1):=by
      rw [List.drop_eq_getElem_cons hlt]
      have:=getD_some l hlt 0
      rw [List.getElem?_eq_getElem hlt,Option.some.injEq]at this
      rw [this]
    rw [hd,orL,corI]
    by_cases h:nth l k 0≠0
    · rw [if_pos h]
      refine iter_done ?_
      simp only [Dm_,decide_eq_true (show ((k:Nat):Int)<((l.length:Nat):Int) by omega),iteO_true,decide_eq_true h];rfl
    rw [if_neg h]
    refine iter_next (s':=k+1) ?_ (ih (k+1) (by omega))
    simp only [Dm_,decide_eq_true (show ((k:Nat):Int)<((l.length:Nat):Int) by omega),iteO_true,decide_eq_false h];rfl
theorem F5_(l:List Int):Fc_ l=some (orL l):=by
  unfold Fc_;rw [Gx_ l l.length 0 (by omega),List.drop_zero]
def cmpTip(x y:Tip):Int:=corI (cmpI x.state y.state) (corI (Lib.compareBytes x.out y.out) 0)
theorem compareTips_eq(x y:Tip):Du_ x y=some (cmpTip x y):=by
  unfold Du_
  rw [bnd_some (Df_ _ _),bnd_some (E0_ _ _),bnd_some (F5_ _)];rfl
theorem corI_zero(a:Int):corI a 0=a:=by unfold corI;split<;>omega
theorem cmpTip_good:GoodCmp cmpTip:=by
  have:=GoodCmp.lex cmpI_good cmpB_good Tip.state Tip.out (fun x y h1 h2=>by cases x;cases y;simp_all)
  have e:cmpTip=fun x y=>corI (cmpI x.state y.state) (Lib.compareBytes x.out y.out):=by
    funext x y;unfold cmpTip;rw [corI_zero]
  rw [e];exact this
def cmpSet(s t:BSet):Int:=corI (cmpN s.a t.a) (corI (cmpN s.b t.b) (corI (cmpN s.c t.c) (cmpN s.d t.d)))
theorem compareUs_four(a b c d a' b' c' d':Nat):compareUs [a,b,c,d] [a',b',c',d']=some (corI (cmpN a a') (corI (cmpN b b') (corI (cmpN c c') (cmpN d d')))):=by
  have st: ∀(k x y:Nat),k<4→nth [a,b,c,d] k 0=x→nth [a',b',c',d'] k 0=y→(cmpN x y≠0→iter (fun q:Nat=>compareUs_b1 [a,b,c,d] [a',b',c',d'] q) k=some (cmpN x y))∧(∀r,cmpN x y=0→iter (fun q:Nat=>compareUs_b1 [a,b,c,d] [a',b',c',d'] q) (k+1)=some r→iter (fun q:Nat=>compareUs_b1 [a,b,c,d] [a',b',c',d'] q) k=some r):=by
    intro k x y hk hx hy
    have e1:((k:Nat):Int)<(([a,b,c,d].length:Nat):Int):=by simp;omega
    have e2: ¬ (([a',b',c',d'].length:Nat):Int)≤((k:Nat):Int):=by simp;omega
    refine ⟨fun h=>iter_done ?_,fun r h hr=>iter_next (s':=k+1) ?_ hr⟩
    · simp only [compareUs_b1,decide_eq_true e1,iteO_true,decide_eq_false e2,iteO_false]
      rw [grd_mk (by simp;omega),hx,hy,bnd_some (compareU_eq _ _),decide_eq_true h];rfl
    simp only [compareUs_b1,decide_eq_true e1,iteO_true,decide_eq_false e2,iteO_false]
    rw [grd_mk (by simp;omega),hx,hy,bnd_some (compareU_eq _ _),h];rfl
  have fi:iter (fun q:Nat=>compareUs_b1 [a,b,c,d] [a',b',c',d'] q) 4=some 0:=iter_done (by simp [compareUs_b1])
  have go: ∀(k x y:Nat) (r:Int),k<4→nth [a,b,c,d] k 0=x→nth [a',b',c',d'] k 0=y→iter (fun q:Nat=>compareUs_b1 [a,b,c,d] [a',b',c',d'] q) (k+1)=some r→iter (fun q:Nat=>compareUs_b1 [a,b,c,d] [a',b',c',d'] q) k=some (corI (cmpN x y) r):=by
    intro k x y r hk hx hy hr
    obtain ⟨h1,h2⟩:=st k x y hk hx hy
    by_cases h:cmpN x y=0
    · rw [show corI (cmpN x y) r=r from by simp [corI,h]];exact h2 r h hr
    rw [show corI (cmpN x y) r=cmpN x y from by simp [corI,h]];exact h1 h
  have h3:=go 3 d d' 0 (by omega) rfl rfl fi
  rw [corI_zero]at h3
  exact go 0 a a' _ (by omega) rfl rfl (go 1 b b' _ (by omega) rfl rfl (go 2 c c' _ (by omega) rfl rfl h3))
theorem cmpSet_good:GoodCmp cmpSet:=by
  have h1:=GoodCmp.lex (α:=Nat×Nat) cmpN_good cmpN_good Prod.fst Prod.snd (fun x y h1 h2=>Prod.ext h1 h2)
  have h2:=GoodCmp.lex (α:=Nat×Nat×Nat) cmpN_good h1 Prod.fst Prod.snd (fun x y h1 h2=>Prod.ext h1 h2)
  have h3:=GoodCmp.lex (α:=BSet) cmpN_good h2 BSet.a (fun s=>(s.b,s.c,s.d)) (fun x y h1 h2=>by
    cases x;cases y;simp_all)
  exact h3
def cmpArc(x y:Arc):Int:=corI (cmpI x.frm y.frm) (corI (cmpI x.to y.to) (corI (cmpSet x.set y.set) (corI (Lib.compareBytes x.out y.out) (corI (cmpBool x.copy y.copy) 0))))
theorem Fx_(b:Bool):Ee_ b=some (if b then 1 else 0):=by cases b<;>rfl
theorem compareArcs_eq(x y:Arc):Dv_ x y=some (cmpArc x y):=by
  unfold Dv_
  rw [bnd_some (Df_ _ _),bnd_some (Df_ _ _),bnd_some (compareUs_four ..),bnd_some (E0_ _ _),bnd_some (Fx_ _),bnd_some (Fx_ _),bnd_some (Df_ _ _),bnd_some (F5_ _)];rfl
theorem cmpArc_good:GoodCmp cmpArc:=by
  have h1:=GoodCmp.lex (α:=List UInt8×Bool) cmpB_good cmpBool_good Prod.fst Prod.snd (fun x y h1 h2=>Prod.ext h1 h2)
  have h2:=GoodCmp.lex (α:=BSet×List UInt8×Bool) cmpSet_good h1 Prod.fst Prod.snd (fun x y h1 h2=>Prod.ext h1 h2)
  have h3:=GoodCmp.lex (α:=Int×BSet×List UInt8×Bool) cmpI_good h2 Prod.fst Prod.snd (fun x y h1 h2=>Prod.ext h1 h2)
  have h4:=GoodCmp.lex (α:=Arc) cmpI_good h3 Arc.frm (fun s=>(s.to,s.set,s.out,s.copy)) (fun x y h1 h2=>by
    cases x;cases y;simp_all)
  have e:cmpArc=fun x y=>corI (cmpI x.frm y.frm) (corI (cmpI x.to y.to) (corI (cmpSet x.set y.set) (corI (Lib.compareBytes x.out y.out) (cmpBool x.copy y.copy)))):=by
    funext x y;unfold cmpArc;rw [corI_zero]
  rw [e];exact h4
end Go.Proofs.YtchebnpdnfhenaaGreatDoor
end

noncomputable section
namespace Go.Proofs.YtchebnpdnfhenaaGreatDoor
open Go Go.E
instance:Inhabited Tip:=⟨Tip.zero⟩
instance:Inhabited Arc:=⟨Arc.zero⟩
theorem G3_{a:Option Addr}{c:Nat}{l:List Tip}:Con Tryz.prog 124 #[.slice a l.length c,.func (.func 96) #[] #[]] σ [Res.rowS 76 2 encTip (.slice a l.length c) l] (SortP 76 2 encTip a c l (sortL cmpTip l) σ):=
  Con.sortK (k:=2) layT0 rfl Tryz.isAgg76 Tryz.sizeOf76 encTip_len encTip_one cmpTip_good.total (fun args w=>run_callFunc (by kernel_rfl) args w) (fun x y τ=>Fz_ (compareTips_eq x y))
theorem G7_{a:Option Addr}{c:Nat}{l:List Arc}:Con Tryz.prog 137 #[.slice a l.length c,.func (.func 98) #[] #[]] σ [Res.rowS 66 8 encArc (.slice a l.length c) l] (SortP 66 8 encArc a c l (sortL cmpArc l) σ):=
  Con.sortK (k:=8) layA0 rfl Tryz.isAgg66 Tryz.sizeOf66 encArc_len encArc_one cmpArc_good.total (fun args w=>run_callFunc (by kernel_rfl) args w) (fun x y τ=>Fy_ (compareArcs_eq x y))
end Go.Proofs.YtchebnpdnfhenaaGreatDoor
end

noncomputable section
namespace Go.E
open Go
section
variable {β:Type} {E' E size:Nat} {enc:β→List Value} {v:Value}
theorem sees_nestX{H:List Res}{q i:Nat}{z:List (NP β)}(hq:H[q]? =some (Res.nestX E' E size enc v z i))(w:World)(h:Sees σ H w):Sees σ [Res.rowS E' 1 encN v z] w:=
  ⟨h.1,fun r hr=>by
    simp at hr;subst hr
    exact h.2 _ (List.mem_of_getElem? hq) _ (List.mem_cons_self ..)⟩
theorem isSl_nestX{H:List Res}{q i:Nat}{z:List (NP β)}{l:List (List β)}(hq:H[q]? =some (Res.nestX E' E size enc v z i))(hZ:Zn z l)(w:World)(h:Sees σ H w):IsSl v l.length∧l.length≤281474976710656:=by
  have:=isSl_seen (H:=H) (sees_nestX hq w h)
  rw [hZ.len]at this;exact this
end
theorem TC.drawR{X:Ctx}{Q:QP}{id:Nat}{ops:Array Oper}{e:Env}{H Hr:List Res}(hs: ∀r∈Hr,r∈H)(late:List Nat)(hm:X.P.follows .mixedOrders=true)(h:TA X ops Q σ Hr late ops.size (Array.replicate ops.size false) e σ H)(hnd:noDeferB ops=true:=by kernel_rfl):TC X Q (.region id ops true) e σ H:=fun w a hw ha=>
  Go.wpIn_mono (wpIn_region_any hm (wpAny_of_late _ _ _ _ (h (noDefer_of hnd) w.drew a hw.drew (sees_of (Store.le.refl _) hs _ hw.drew.sees) (closed_start _ _) ha))) fun ex a w h=>by
    cases ex<;>first|exact h|exact h.elim
section
variable {P:Program} {n:Nat} {e:Env} {σ:Store} {H:List Res} {o:Oper} {x y:Operand} {T T':TypeId} {k:IntKind} {a b:Int}
theorem OpVal.quoW(ho:o.op= .binOp .quo T x y T')(hx:ev e x= .int k a)(hy:ev e y= .int k b)(h:b≠0):OpVal P n o e σ H (.int k (k.wrap (a.tdiv b))):= .bin ho hx hy fun w=>by simp [binOp,Op.intDiv,h]
theorem OpVal.remW(ho:o.op= .binOp .rem T x y T')(hx:ev e x= .int k a)(hy:ev e y= .int k b)(h:b≠0):OpVal P n o e σ H (.int k (a.tmod b)):= .bin ho hx hy fun w=>by simp [binOp,Op.intDiv,h]
end
theorem bytesLess_eq: ∀l m:List UInt8,Op.bytesLess l m=decide (Lib.compareBytes l m<0)
  |[],[]=>by simp [Op.bytesLess,Lib.compareBytes]
  |_::_,[]=>by simp [Op.bytesLess,Lib.compareBytes]
  |[],_::_=>by simp [Op.bytesLess,Lib.compareBytes]
  | a :: x, b :: y => by
    simp only [Op.bytesLess,Lib.compareBytes,bytesLess_eq x y]
    by_cases h:a<b
    · simp [h]
    by_cases h':b<a
    · have: ¬ a=b:=fun e=>by subst e;exact h h'
      simp [h,h',this]
    have:a=b:=UInt8.le_antisymm (UInt8.not_lt.1 h') (UInt8.not_lt.1 h)
    subst this
    simp [h]
theorem OpVal.lssBs{P:Program}{n:Nat}{e:Env}{H:List Res}{o:Oper}{x y:Operand}{l m:List UInt8}{T T':TypeId}(ho:o.op= .binOp .lss T x y T')(hx:ev e x= .string (bs l))(hy:ev e y= .string (bs m)):OpVal P n o e σ H (.bool (decide (Lib.compareBytes l m<0))):=fun w _=>by
  simp only [execOp,ho,hx,hy,Sem.run_bind,run_eqGuard_str,Result.andThen_ok,binOp,Op.stringOp,ByteArray.toList_eq,bs_list,bytesLess_eq,Sem.run_pure]
theorem OpVal.loadWordAt{P:Program}{n:Nat}{e:Env}{H:List Res}{o:Oper}{x:Operand}{T b E i j off:Nat}{cs:Array Value}(s:BSet)(ho:o.op= .load T x)(hA:aggOf P T=some false)(hx:ev e x=loc b (off+i * 1))(hi:H[j]? =some (Res.cells b cs E))(hk:i<4)
    (hc:(cs.toList.drop off).take 4=s.vals):OpVal P n o e σ H (.int .u64 ((s.word i:Nat):Int)):=by
  refine OpVal.loadLoc ho hA hx hi ?_
  have h1:((cs.toList.drop off).take 4)[i]? =some (.int .u64 ((s.word i:Nat):Int)):=by
    rw [hc]
    match i,hk with
    |0,_=>rfl
    |1,_=>rfl
    |2,_=>rfl
    |3,_=>rfl
  rw [List.getElem?_take,if_pos hk,List.getElem?_drop]at h1
  rw [Nat.mul_one];simpa using h1
end Go.E
end

noncomputable section
namespace Go.Proofs.YtchebnpdnfhenaaGreatDoor
open Go Go.E Go.E.OpVal Go.E.OpOk Go.Proofs.Tryz
theorem ag25:aggOf Tryz.prog 25=some true:=by kernel_rfl
theorem by66:byOf Tryz.prog 66=some 72:=by kernel_rfl
theorem by76:byOf Tryz.prog 76=some 24:=by kernel_rfl
theorem eg66:Tryz.prog.eqGuardType Tryz.prog.depth 66=false:=by kernel_rfl
theorem eg76:Tryz.prog.eqGuardType Tryz.prog.depth 76=false:=by kernel_rfl
theorem es66(x y:Arc):Go.E.EqAt Tryz.prog 3 66 (.agg (Go.E.encArc x).toArray) (.agg (Go.E.encArc y).toArray) (decide (x=y)):=
 (EqAt.struct (ts:=[(false,3,0),(false,3,1),(false,64,2),(false,9,6),(false,4,7)]) (by kernel_rfl) (by kernel_rfl) (by kernel_rfl) (EqC.one (by kernel_rfl) rfl rfl (EqAt.int underlying3 x.frm y.frm |>.up (by decide)) (EqC.one (by kernel_rfl) rfl rfl (EqAt.int underlying3 x.to y.to |>.up (by decide)) (EqC.agg (s:=4) (us:=Go.E.setA x.set) (vs:=Go.E.setA y.set) (by kernel_rfl) (by kernel_rfl) rfl rfl (EqAt.set underlying64 underlying62 (by kernel_rfl) (by kernel_rfl) x.set y.set) (EqC.one (by kernel_rfl) rfl rfl (EqAt.str underlying9 x.out y.out |>.up (by decide)) (EqC.one (by kernel_rfl) rfl rfl (EqAt.bool underlying4 x.copy y.copy |>.up (by decide)) EqC.nil)))))).of (by rw [Bool.eq_iff_iff];cases x;cases y;simp)
theorem es76(x y:Tip):Go.E.EqAt Tryz.prog 2 76 (.agg (Go.E.encTip x).toArray) (.agg (Go.E.encTip y).toArray) (decide (x=y)):=
 (EqAt.struct (ts:=[(false,3,0),(false,9,1)]) (by kernel_rfl) (by kernel_rfl) (by kernel_rfl) (EqC.one (by kernel_rfl) rfl rfl (EqAt.int underlying3 x.state y.state) (EqC.one (by kernel_rfl) rfl rfl (EqAt.str underlying9 x.out y.out) EqC.nil))).of (by rw [Bool.eq_iff_iff];cases x;cases y;simp)
theorem pf124:plainF Tryz.prog 124=true:=by kernel_rfl
theorem pf126:plainF Tryz.prog 126=true:=by kernel_rfl
theorem pf136:plainF Tryz.prog 136=true:=by kernel_rfl
theorem pf137:plainF Tryz.prog 137=true:=by kernel_rfl
theorem pf138:plainF Tryz.prog 138=true:=by kernel_rfl
theorem pf43:plainF Tryz.prog 43=true:=by kernel_rfl
theorem pf88:plainF Tryz.prog 88=true:=by kernel_rfl
theorem pf95:plainF Tryz.prog 95=true:=by kernel_rfl
theorem pf97:plainF Tryz.prog 97=true:=by kernel_rfl
theorem pl25:plOf Tryz.prog 25=some #[(0,1),(1,1),(2,1),(3,1)]:=by kernel_rfl
theorem sz25:szOf Tryz.prog 25=some 4:=by kernel_rfl
theorem ze25:zeroOf Tryz.prog 25=some (.agg #[.int .i64 0,.slice none 0 0,.slice none 0 0,.slice none 0 0]):=by kernel_rfl
theorem Gf_{a:Option Addr}{c:Nat}{l:List Tip}(hl:RS σ 2 encTip (.slice a l.length c) l)(hsz:l.length * 24≤140737488355328):
  Con Tryz.prog 88 #[.slice a l.length c] σ [] (RowP 76 2 encTip l σ):=by
 have hb:=hl.rv.big
 refine Con.mk (n:=8) Tryz.func88 z z z (fun w0=> ?_)
 refine TC.a (TL.s z z (TL.nilS 76 2 encTip (TL.en (TC.seq (TC.a (TL.s z z (TL.w z (eqlNilSl z underlying22 z z) (TL.en (TC.cond z (fun h2=> ?_) (fun h2=> ?_))))))))))
 ·refine TC.a (TL.s z z (TL.nilS 76 2 encTip (TL.en (TC.ret (S.r ?_)))))
  cases a with
  |some _=>simp at h2
  |none=>
   obtain rfl:=hl.none_nil
   exact ret1R z z
 refine TC.skip (S.n (TC.a (TL.op z (lit0 (enc:=encTip) z z underlying22 sz76 z z (fun a4 c5=> ?_)))))
 refine TL.s z z (TL.op z (appendS z z underlying22 sz76 by76 ze76 z z (by decide) z z z (.inl hl) (by simpa using hsz) (by decide) (fun a7 c8=> ?_)))
 exact TL.s z z (TL.en (TC.ret (ret1R z z)))
def Eu_(k125:Nat)(l128:List Tip)(k130:Nat):Option (((List Tip)×Nat×Nat)⊕((Nat)⊕((List Tip)))):=
 nxt (l128,k130,(k125+1))
def Er_(x0:List Tip)(k105:Nat)(l122:List Tip)(k124:Nat)(k125:Nat):Option (((List Tip)×Nat×Nat)⊕((Nat)⊕((List Tip)))):=
 iteO (decide (((k125:Nat):Int)<(((x0.length - k105):Nat):Int))) (grd (k125<(x0.length - k105)) (grd (0≤(IntKind.i64.wrap (((k125:Nat):Int) - 1))∧(IntKind.i64.wrap (((k125:Nat):Int) - 1))<((x0.length - k105):Nat)) (iteO (decide (¬ ((nth l122 (k105+k125) Tip.zero)=(nth l122 (k105+(IntKind.i64.wrap (((k125:Nat):Int) - 1)).toNat) Tip.zero)))) (grd (k125<(x0.length - k105)) (grd (k124<l122.length) (Eu_ k125 (l122.set k124 (nth l122 (k105+k125) Tip.zero)) (k124+1)))) (Eu_ k125 l122 k124)))) (fin (grd (k124≤x0.length) (grd (k124≤(l122.take k124++List.replicate (l122.length - k124) Tip.zero).length) (fin (some ((l122.take k124++List.replicate (l122.length - k124) Tip.zero).take k124))))))
def Es_(x0:List Tip)(k105:Nat):Option ((Nat)⊕((List Tip))):=
 iteO (decide (((k105:Nat):Int)<((x0.length:Nat):Int))) (grd (0≤(IntKind.i64.wrap (((k105:Nat):Int) - 1))∧(IntKind.i64.wrap (((k105:Nat):Int) - 1))<(x0.length:Int)) (iteO (decide ((nth x0 k105 Tip.zero)=(nth x0 ((IntKind.i64.wrap (((k105:Nat):Int) - 1)).toNat) Tip.zero))) (grd (k105≤x0.length) (iter (fun q:(List Tip)×Nat×Nat=>Er_ x0 k105 q.1 q.2.1 q.2.2) (x0,k105,1))) (nxt (k105+1)))) (fin (some x0))
def compactT(x0:List Tip):Option ((List Tip)):=
 iteO (decide (((x0.length:Nat):Int)<2)) (some x0) (iter (fun q:Nat=>Es_ x0 q) 1)
theorem F7_{x0:List Tip}{r:(List Tip)}(hh:compactT x0=some r):
  Con Tryz.prog 126 #[.slice a0_1 x0.length c0_2] σ [Res.rowS 76 2 encTip (.slice a0_1 x0.length c0_2) x0] (fun v σ' H'=> ∃a1 c1,v= .slice a1 r.length c1∧σ=σ'∧H'=[Res.rowS 76 2 encTip (.slice a1 r.length c1) r]):=by
 dsimp only [compactT]at hh
 refine Con.mk (n:=61) Tryz.func126 z z z (fun w0=> ?_)
 refine TC.a (TL.s z z (TL.en (TC.seq (TC.a (TL.s z z (TL.w z (lenC z underlying22 z) (TL.w z (OpVal.lss z z z) (TL.en (TC.cD z hh (fun h102 hh=> ?_) (fun h102 hh=> ?_))))))))))
 ·refine TC.a (TL.s z z (TL.s z z (TL.en (TC.ret (S.r ?_)))))
  obtain rfl:=so hh
  exact ro [Res.rowS 76 2 encTip (.slice a0_1 x0.length c0_2) x0] z (RVs.tmp z RVs.nil) ⟨a0_1,c0_2,z,z,z⟩
 refine TC.skip (S.n (TC.seq (TC.a (TL.i z z (TL.en (TC.block (TC.loopG (α:=(Nat)×(Unit)) (rgs [(2,4),(10,50)]) (fun g=>[(3,.int .i64 ((g.1:Nat):Int))]) (fun g=>[Res.rowS 76 2 encTip (.slice a0_1 x0.length c0_2) x0]) (fun g=>σ) (fun g=>iter (fun q:Nat=>Es_ x0 q) g.1=some r) (fun g=>rounds (fun q:Nat=>Es_ x0 q) g.1) (1,()) (Sub.pre 1 z) z (by repeat (first|exact trivial|refine ⟨z,?_⟩)) hh (fun g1 j1 hg1=> ?_))))))))
 obtain ⟨k105,_⟩:=g1
 have hh:=hg1;clear hg1
 try dsimp only
 obtain ⟨z1,hh,hR1⟩:=iter_e hh
 dsimp only [Es_]at hh
 refine TC.isSl (i:=0) z (fun _ hb106 _=> ?_)
 refine TC.seq (TC.a (TL.i z z (TL.s z z (TL.w z (lenC z underlying22 z) (TL.w z (OpVal.lss z z z) (TL.en (TC.cD z hh (fun h107 hh=> ?_) (fun h107 hh=> ?_))))))))
 ·refine TC.skip (S.n (TC.seq (TC.block (TC.seq ?_))))
  have u19:=grd_c hh
  replace hh:=grd_t hh
  refine TC.draw [] (by kernel_rfl) (TA.a 0 z (moveSl (.inl z) z) z (TA.a 1 z (moveI (.inl z) z) z (TA.isSl (i:=0) z (fun hs110 _ _=> ?_))))
  refine TA.b 2 z (indexN z underlying22 sz76 z z hs110 (by omega)) z (TA.b 3 z (loadOA Tip.zero z ag76 sz76 z (q:=0) z encTip_len (by omega) (by omega)) z (TA.a 4 z (moveSl (.inl z) z) z (TA.a 5 z (moveI (.inl z) z) z (TA.a 6 z (subW z z z) z (TA.isSl (i:=0) z (fun hs111 _ _=> ?_))))))
  refine TA.b 7 z (OpVal.index z underlying22 sz76 z z hs111 u19.1 u19.2) z (TA.b 8 z (loadOA Tip.zero z ag76 sz76 z (q:=0) z encTip_len (by omega) (by omega)) z (TA.a 9 z (eqlSt (p:=(nth x0 k105 Tip.zero)=(nth x0 ((IntKind.i64.wrap (((k105:Nat):Int) - 1)).toNat) Tip.zero)) z z z eg76 (es76 (nth x0 k105 Tip.zero) (nth x0 ((IntKind.i64.wrap (((k105:Nat):Int) - 1)).toNat) Tip.zero)) z) z (TA.dn (S.n (TC.cD z hh (fun h112 hh=> ?_) (fun h112 hh=> ?_))))))
  ·refine TC.a (TL.s z z (TL.i z z ?_))
   have u24:=grd_c hh
   replace hh:=grd_t hh
   refine TL.isSl (i:=0) z (fun hs113 _ _=> ?_)
   obtain ⟨a113,c113,hv113,ho113⟩:=vw_of (k:=k105) (size:=2) hs113 (by omega)
   refine TL.w z (ho113 z underlying22 sz76 z z) (TL.s z z (TL.en (TC.seq (TC.a (TL.i z z (TL.en (TC.block (TC.loopG (α:=((List Tip)×Nat×Nat)×(Unit)) (rgs [(3,1),(5,1),(29,25)]) (fun g=>[(3,.int .i64 ((g.1.2.1:Nat):Int)),(5,.int .i64 ((g.1.2.2:Nat):Int))]) (fun g=>[Res.rowS 76 2 encTip (.slice a0_1 x0.length c0_2) g.1.1]) (fun g=>σ) (fun g=>iter (fun q:(List Tip)×Nat×Nat=>Er_ x0 k105 q.1 q.2.1 q.2.2) g.1=some z1∧g.1.1.length=x0.length) (fun g=>rounds (fun q:(List Tip)×Nat×Nat=>Er_ x0 k105 q.1 q.2.1 q.2.2) g.1) ((x0,k105,1),()) (Sub.pre 1 z) z (by repeat (first|exact trivial|refine ⟨z,?_⟩)) ⟨hh,z⟩ (fun g2 j2 hg2=> ?_)))))))))
   obtain ⟨⟨l122,k124,k125⟩,_⟩:=g2
   obtain ⟨hh,hn123⟩:=hg2
   try dsimp only at hn123 ⊢
   obtain ⟨z2,hh,hR2⟩:=iter_e hh
   dsimp only [Er_]at hh
   have hn123b:=hn123
   refine TC.isSl (i:=0) z (fun _ hb126 _=> ?_)
   refine TC.seq (TC.a (TL.i z z (TL.s z z (TL.w z (lenC z underlying22 z) (TL.w z (OpVal.lss z z z) (TL.en (TC.cD z hh (fun h127 hh=> ?_) (fun h127 hh=> ?_))))))))
   ·refine TC.skip (S.n (TC.cutG (α:=((List Tip)×Nat)×(Unit)) (rgs [(3,1),(35,19)]) (fun g=>[(3,.int .i64 ((g.1.2:Nat):Int))]) (fun g=>[Res.rowS 76 2 encTip (.slice a0_1 x0.length c0_2) g.1.1]) (fun g=>σ) (fun g=>Eu_ k125 g.1.1 g.1.2=some z2∧g.1.1.length=x0.length) ?_ (fun g j hg=> ?_)))
    ·skip
     refine TC.block (TC.seq ?_)
     have u33:=grd_c hh
     replace hh:=grd_t hh
     have u38:=grd_c hh
     replace hh:=grd_t hh
     refine TC.draw [] (by kernel_rfl) (TA.a 0 z (moveSl (.inl z) z) z (TA.a 1 z (moveI (.inl z) z) z (TA.b 2 z (elVw hv113 (by omega) (indexN z underlying22 sz76 z z hv113.sl (by omega))) z (TA.b 3 z (loadOA Tip.zero z ag76 sz76 z (q:=0) z encTip_len (by omega) (by omega)) z (TA.a 4 z (moveSl (.inl z) z) z (TA.a 5 z (moveI (.inl z) z) z (TA.a 6 z (subW z z z) z (TA.b 7 z (elVw hv113 (by omega) (OpVal.index z underlying22 sz76 z z hv113.sl u38.1 u38.2)) z (TA.b 8 z (loadOA Tip.zero z ag76 sz76 z (q:=0) z encTip_len (by omega) (by omega)) z (TA.a 9 z (neqSt (p:=(nth l122 (k105+k125) Tip.zero)=(nth l122 (k105+(IntKind.i64.wrap (((k125:Nat):Int) - 1)).toNat) Tip.zero)) z z z eg76 (es76 (nth l122 (k105+k125) Tip.zero) (nth l122 (k105+(IntKind.i64.wrap (((k125:Nat):Int) - 1)).toNat) Tip.zero)) z) z (TA.dn (S.n (TC.cD z hh (fun h131 hh=> ?_) (fun h131 hh=> ?_))))))))))))))
     ·refine TC.a (TL.s z z (TL.i z z (TL.s z z (TL.i z z ?_))))
      have u45:=grd_c hh
      replace hh:=grd_t hh
      refine TL.w z (elVw hv113 (by omega) (indexN z underlying22 sz76 z z hv113.sl (by omega))) (TL.w z (loadOA Tip.zero z ag76 sz76 z (q:=0) z encTip_len (by omega) (by omega)) ?_)
      have u47:=grd_c hh
      replace hh:=grd_t hh
      refine TL.isSl (i:=0) z (fun hs132 _ _=> ?_)
      refine TL.w z (indexN z underlying22 sz76 z z hs132 (by omega)) ?_
      have hn133:(l122.set k124 (nth l122 (k105+k125) Tip.zero)).length=x0.length:=by rw [List.length_set];exact hn123
      refine TL.op z (storeS (nth l122 (k105+k125) Tip.zero) z sz76 z z z z encTip_len encTip_one (by omega) (by omega) ?_)
      exact TL.en (TC.region (TL.i z z (TL.w z (OpVal.succ z z z (by omega)) (TL.i z z (TL.nil (B.n (S.n (cf (((l122.set k124 (nth l122 (k105+k125) Tip.zero)),(k124+1)),()) ⟨hh,hn133⟩ (Sub.pre 1 z)))))))))
     exact TC.skip (B.n (S.n (cf ((l122,k124),()) ⟨hh,hn123⟩ (Sub.pre 1 z))))
    skip
    obtain ⟨⟨l128,k130⟩,_⟩:=g
    obtain ⟨hh,hn129⟩:=hg
    try dsimp only at hn129 ⊢
    dsimp only [Eu_]at hh
    have hn129b:=hn129
    refine TC.isSl (i:=0) z (fun _ hb134 _=> ?_)
    refine TC.region (TL.i z z (TL.w z (OpVal.succ z z z (by omega)) (TL.i z z (TL.en ?_))))
    obtain ⟨hh,hlt135⟩:=nxt_x hR2 hh
    exact lf ((l128,k130,(k125+1)),()) hlt135 ⟨hh,hn129⟩ (Sub.pre 1 z)
   refine TC.exit (S.x (S.x ?_))
   replace hh:=fin_x hR2 hh
   refine TC.exitHere (S.n (TC.a (TL.s z z (TL.i z z ?_))))
   have u57:=grd_c hh
   replace hh:=grd_t hh
   refine TL.isSl (i:=0) z (fun hs136 _ _=> ?_)
   rw [hn123]at hs136
   obtain ⟨a136,c136,hv136,ho136⟩:=vw_of (k:=k124) (size:=2) hs136 (by omega)
   refine TL.w z (ho136 z underlying22 sz76 z z) ?_
   have hn137:(l122.take k124++List.replicate (l122.length - k124) Tip.zero).length=x0.length:=by simp only [List.length_append,List.length_take,List.length_replicate];try simp only [List.length_replicate]at *;omega
   refine TL.op z (clearV (k:=k124) Tip.zero z underlying22 ze76 z z hv136 (by omega) (by omega) encTip_len (by decide) z encTip_one ?_)
   refine TL.en (TC.a (TL.s z z (TL.i z z ?_)))
   rw [←hn137]
   have u61:=grd_c hh
   replace hh:=grd_t hh
   refine TL.op z (cutS z underlying22 sz76 z z z z z (by omega) encTip_len ?_)
   refine TL.s z z (TL.en (TC.ret (B.r (S.r (S.r ?_)))))
   replace hh:=fin_x hR1 hh
   refine B.r (S.r ?_)
   obtain rfl:=so hh
   exact ro [Res.rowS 76 2 encTip (.slice a0_1 ((l122.take k124++List.replicate (l122.length - k124) Tip.zero).take k124).length c0_2) ((l122.take k124++List.replicate (l122.length - k124) Tip.zero).take k124)] z (RVs.tmp z RVs.nil) ⟨a0_1,c0_2,z,z,z⟩
  refine TC.skip (B.n (S.n (TC.region (TL.i z z (TL.w z (OpVal.succ z z z (by omega)) (TL.i z z (TL.en ?_)))))))
  obtain ⟨hh,hlt138⟩:=nxt_x hR1 hh
  exact lf ((k105+1),()) hlt138 hh (Sub.pre 1 z)
 refine TC.exit (S.x (S.x ?_))
 replace hh:=fin_x hR1 hh
 refine TC.exitHere (S.n (TC.a (TL.s z z (TL.s z z (TL.en (TC.ret ?_))))))
 obtain rfl:=so hh
 exact ro [Res.rowS 76 2 encTip (.slice a0_1 x0.length c0_2) x0] z (RVs.tmp z RVs.nil) ⟨a0_1,c0_2,z,z,z⟩
theorem G1_{a:Option Addr}{c:Nat}{l:List Arc}(hl:RS σ 8 encArc (.slice a l.length c) l)(hsz:l.length * 72≤140737488355328):
  Con Tryz.prog 136 #[.slice a l.length c] σ [] (RowP 66 8 encArc l σ):=by
 have hb:=hl.rv.big
 refine Con.mk (n:=8) Tryz.func136 z z z (fun w0=> ?_)
 refine TC.a (TL.s z z (TL.nilS 66 8 encArc (TL.en (TC.seq (TC.a (TL.s z z (TL.w z (eqlNilSl z underlying23 z z) (TL.en (TC.cond z (fun h2=> ?_) (fun h2=> ?_))))))))))
 ·refine TC.a (TL.s z z (TL.nilS 66 8 encArc (TL.en (TC.ret (S.r ?_)))))
  cases a with
  |some _=>simp at h2
  |none=>
   obtain rfl:=hl.none_nil
   exact ret1R z z
 refine TC.skip (S.n (TC.a (TL.op z (lit0 (enc:=encArc) z z underlying23 sz66 z z (fun a4 c5=> ?_)))))
 refine TL.s z z (TL.op z (appendS z z underlying23 sz66 by66 ze66 z z (by decide) z z z (.inl hl) (by simpa using hsz) (by decide) (fun a7 c8=> ?_)))
 exact TL.s z z (TL.en (TC.ret (ret1R z z)))
def Eo_(k125:Nat)(l128:List Arc)(k130:Nat):Option (((List Arc)×Nat×Nat)⊕((Nat)⊕((List Arc)))):=
 nxt (l128,k130,(k125+1))
def Eq_(x0:List Arc)(k105:Nat)(l122:List Arc)(k124:Nat)(k125:Nat):Option (((List Arc)×Nat×Nat)⊕((Nat)⊕((List Arc)))):=
 iteO (decide (((k125:Nat):Int)<(((x0.length - k105):Nat):Int))) (grd (k125<(x0.length - k105)) (grd (0≤(IntKind.i64.wrap (((k125:Nat):Int) - 1))∧(IntKind.i64.wrap (((k125:Nat):Int) - 1))<((x0.length - k105):Nat)) (iteO (decide (¬ ((nth l122 (k105+k125) Arc.zero)=(nth l122 (k105+(IntKind.i64.wrap (((k125:Nat):Int) - 1)).toNat) Arc.zero)))) (grd (k125<(x0.length - k105)) (grd (k124<l122.length) (Eo_ k125 (l122.set k124 (nth l122 (k105+k125) Arc.zero)) (k124+1)))) (Eo_ k125 l122 k124)))) (fin (grd (k124≤x0.length) (grd (k124≤(l122.take k124++List.replicate (l122.length - k124) Arc.zero).length) (fin (some ((l122.take k124++List.replicate (l122.length - k124) Arc.zero).take k124))))))
def Et_(x0:List Arc)(k105:Nat):Option ((Nat)⊕((List Arc))):=
 iteO (decide (((k105:Nat):Int)<((x0.length:Nat):Int))) (grd (0≤(IntKind.i64.wrap (((k105:Nat):Int) - 1))∧(IntKind.i64.wrap (((k105:Nat):Int) - 1))<(x0.length:Int)) (iteO (decide ((nth x0 k105 Arc.zero)=(nth x0 ((IntKind.i64.wrap (((k105:Nat):Int) - 1)).toNat) Arc.zero))) (grd (k105≤x0.length) (iter (fun q:(List Arc)×Nat×Nat=>Eq_ x0 k105 q.1 q.2.1 q.2.2) (x0,k105,1))) (nxt (k105+1)))) (fin (some x0))
def compactA(x0:List Arc):Option ((List Arc)):=
 iteO (decide (((x0.length:Nat):Int)<2)) (some x0) (iter (fun q:Nat=>Et_ x0 q) 1)
theorem Gt_{x0:List Arc}{r:(List Arc)}(hh:compactA x0=some r):
  Con Tryz.prog 138 #[.slice a0_1 x0.length c0_2] σ [Res.rowS 66 8 encArc (.slice a0_1 x0.length c0_2) x0] (fun v σ' H'=> ∃a1 c1,v= .slice a1 r.length c1∧σ=σ'∧H'=[Res.rowS 66 8 encArc (.slice a1 r.length c1) r]):=by
 dsimp only [compactA]at hh
 refine Con.mk (n:=61) Tryz.func138 z z z (fun w0=> ?_)
 refine TC.a (TL.s z z (TL.en (TC.seq (TC.a (TL.s z z (TL.w z (lenC z underlying23 z) (TL.w z (OpVal.lss z z z) (TL.en (TC.cD z hh (fun h102 hh=> ?_) (fun h102 hh=> ?_))))))))))
 ·refine TC.a (TL.s z z (TL.s z z (TL.en (TC.ret (S.r ?_)))))
  obtain rfl:=so hh
  exact ro [Res.rowS 66 8 encArc (.slice a0_1 x0.length c0_2) x0] z (RVs.tmp z RVs.nil) ⟨a0_1,c0_2,z,z,z⟩
 refine TC.skip (S.n (TC.seq (TC.a (TL.i z z (TL.en (TC.block (TC.loopG (α:=(Nat)×(Unit)) (rgs [(2,4),(10,50)]) (fun g=>[(3,.int .i64 ((g.1:Nat):Int))]) (fun g=>[Res.rowS 66 8 encArc (.slice a0_1 x0.length c0_2) x0]) (fun g=>σ) (fun g=>iter (fun q:Nat=>Et_ x0 q) g.1=some r) (fun g=>rounds (fun q:Nat=>Et_ x0 q) g.1) (1,()) (Sub.pre 1 z) z (by repeat (first|exact trivial|refine ⟨z,?_⟩)) hh (fun g1 j1 hg1=> ?_))))))))
 obtain ⟨k105,_⟩:=g1
 have hh:=hg1;clear hg1
 try dsimp only
 obtain ⟨z1,hh,hR1⟩:=iter_e hh
 dsimp only [Et_]at hh
 refine TC.isSl (i:=0) z (fun _ hb106 _=> ?_)
 refine TC.seq (TC.a (TL.i z z (TL.s z z (TL.w z (lenC z underlying23 z) (TL.w z (OpVal.lss z z z) (TL.en (TC.cD z hh (fun h107 hh=> ?_) (fun h107 hh=> ?_))))))))
 ·refine TC.skip (S.n (TC.seq (TC.block (TC.seq ?_))))
  have u19:=grd_c hh
  replace hh:=grd_t hh
  refine TC.draw [] (by kernel_rfl) (TA.a 0 z (moveSl (.inl z) z) z (TA.a 1 z (moveI (.inl z) z) z (TA.isSl (i:=0) z (fun hs110 _ _=> ?_))))
  refine TA.b 2 z (indexN z underlying23 sz66 z z hs110 (by omega)) z (TA.b 3 z (loadOA Arc.zero z ag66 sz66 z (q:=0) z encArc_len (by omega) (by omega)) z (TA.a 4 z (moveSl (.inl z) z) z (TA.a 5 z (moveI (.inl z) z) z (TA.a 6 z (subW z z z) z (TA.isSl (i:=0) z (fun hs111 _ _=> ?_))))))
  refine TA.b 7 z (OpVal.index z underlying23 sz66 z z hs111 u19.1 u19.2) z (TA.b 8 z (loadOA Arc.zero z ag66 sz66 z (q:=0) z encArc_len (by omega) (by omega)) z (TA.a 9 z (eqlSt (p:=(nth x0 k105 Arc.zero)=(nth x0 ((IntKind.i64.wrap (((k105:Nat):Int) - 1)).toNat) Arc.zero)) z z z eg66 (es66 (nth x0 k105 Arc.zero) (nth x0 ((IntKind.i64.wrap (((k105:Nat):Int) - 1)).toNat) Arc.zero)) z) z (TA.dn (S.n (TC.cD z hh (fun h112 hh=> ?_) (fun h112 hh=> ?_))))))
  ·refine TC.a (TL.s z z (TL.i z z ?_))
   have u24:=grd_c hh
   replace hh:=grd_t hh
   refine TL.isSl (i:=0) z (fun hs113 _ _=> ?_)
   obtain ⟨a113,c113,hv113,ho113⟩:=vw_of (k:=k105) (size:=8) hs113 (by omega)
   refine TL.w z (ho113 z underlying23 sz66 z z) (TL.s z z (TL.en (TC.seq (TC.a (TL.i z z (TL.en (TC.block (TC.loopG (α:=((List Arc)×Nat×Nat)×(Unit)) (rgs [(3,1),(5,1),(29,25)]) (fun g=>[(3,.int .i64 ((g.1.2.1:Nat):Int)),(5,.int .i64 ((g.1.2.2:Nat):Int))]) (fun g=>[Res.rowS 66 8 encArc (.slice a0_1 x0.length c0_2) g.1.1]) (fun g=>σ) (fun g=>iter (fun q:(List Arc)×Nat×Nat=>Eq_ x0 k105 q.1 q.2.1 q.2.2) g.1=some z1∧g.1.1.length=x0.length) (fun g=>rounds (fun q:(List Arc)×Nat×Nat=>Eq_ x0 k105 q.1 q.2.1 q.2.2) g.1) ((x0,k105,1),()) (Sub.pre 1 z) z (by repeat (first|exact trivial|refine ⟨z,?_⟩)) ⟨hh,z⟩ (fun g2 j2 hg2=> ?_)))))))))
   obtain ⟨⟨l122,k124,k125⟩,_⟩:=g2
   obtain ⟨hh,hn123⟩:=hg2
   try dsimp only at hn123 ⊢
   obtain ⟨z2,hh,hR2⟩:=iter_e hh
   dsimp only [Eq_]at hh
   have hn123b:=hn123
   refine TC.isSl (i:=0) z (fun _ hb126 _=> ?_)
   refine TC.seq (TC.a (TL.i z z (TL.s z z (TL.w z (lenC z underlying23 z) (TL.w z (OpVal.lss z z z) (TL.en (TC.cD z hh (fun h127 hh=> ?_) (fun h127 hh=> ?_))))))))
   ·refine TC.skip (S.n (TC.cutG (α:=((List Arc)×Nat)×(Unit)) (rgs [(3,1),(35,19)]) (fun g=>[(3,.int .i64 ((g.1.2:Nat):Int))]) (fun g=>[Res.rowS 66 8 encArc (.slice a0_1 x0.length c0_2) g.1.1]) (fun g=>σ) (fun g=>Eo_ k125 g.1.1 g.1.2=some z2∧g.1.1.length=x0.length) ?_ (fun g j hg=> ?_)))
    ·skip
     refine TC.block (TC.seq ?_)
     have u33:=grd_c hh
     replace hh:=grd_t hh
     have u38:=grd_c hh
     replace hh:=grd_t hh
     refine TC.draw [] (by kernel_rfl) (TA.a 0 z (moveSl (.inl z) z) z (TA.a 1 z (moveI (.inl z) z) z (TA.b 2 z (elVw hv113 (by omega) (indexN z underlying23 sz66 z z hv113.sl (by omega))) z (TA.b 3 z (loadOA Arc.zero z ag66 sz66 z (q:=0) z encArc_len (by omega) (by omega)) z (TA.a 4 z (moveSl (.inl z) z) z (TA.a 5 z (moveI (.inl z) z) z (TA.a 6 z (subW z z z) z (TA.b 7 z (elVw hv113 (by omega) (OpVal.index z underlying23 sz66 z z hv113.sl u38.1 u38.2)) z (TA.b 8 z (loadOA Arc.zero z ag66 sz66 z (q:=0) z encArc_len (by omega) (by omega)) z (TA.a 9 z (neqSt (p:=(nth l122 (k105+k125) Arc.zero)=(nth l122 (k105+(IntKind.i64.wrap (((k125:Nat):Int) - 1)).toNat) Arc.zero)) z z z eg66 (es66 (nth l122 (k105+k125) Arc.zero) (nth l122 (k105+(IntKind.i64.wrap (((k125:Nat):Int) - 1)).toNat) Arc.zero)) z) z (TA.dn (S.n (TC.cD z hh (fun h131 hh=> ?_) (fun h131 hh=> ?_))))))))))))))
     ·refine TC.a (TL.s z z (TL.i z z (TL.s z z (TL.i z z ?_))))
      have u45:=grd_c hh
      replace hh:=grd_t hh
      refine TL.w z (elVw hv113 (by omega) (indexN z underlying23 sz66 z z hv113.sl (by omega))) (TL.w z (loadOA Arc.zero z ag66 sz66 z (q:=0) z encArc_len (by omega) (by omega)) ?_)
      have u47:=grd_c hh
      replace hh:=grd_t hh
      refine TL.isSl (i:=0) z (fun hs132 _ _=> ?_)
      refine TL.w z (indexN z underlying23 sz66 z z hs132 (by omega)) ?_
      have hn133:(l122.set k124 (nth l122 (k105+k125) Arc.zero)).length=x0.length:=by rw [List.length_set];exact hn123
      refine TL.op z (storeS (nth l122 (k105+k125) Arc.zero) z sz66 z z z z encArc_len encArc_one (by omega) (by omega) ?_)
      exact TL.en (TC.region (TL.i z z (TL.w z (OpVal.succ z z z (by omega)) (TL.i z z (TL.nil (B.n (S.n (cf (((l122.set k124 (nth l122 (k105+k125) Arc.zero)),(k124+1)),()) ⟨hh,hn133⟩ (Sub.pre 1 z)))))))))
     exact TC.skip (B.n (S.n (cf ((l122,k124),()) ⟨hh,hn123⟩ (Sub.pre 1 z))))
    skip
    obtain ⟨⟨l128,k130⟩,_⟩:=g
    obtain ⟨hh,hn129⟩:=hg
    try dsimp only at hn129 ⊢
    dsimp only [Eo_]at hh
    have hn129b:=hn129
    refine TC.isSl (i:=0) z (fun _ hb134 _=> ?_)
    refine TC.region (TL.i z z (TL.w z (OpVal.succ z z z (by omega)) (TL.i z z (TL.en ?_))))
    obtain ⟨hh,hlt135⟩:=nxt_x hR2 hh
    exact lf ((l128,k130,(k125+1)),()) hlt135 ⟨hh,hn129⟩ (Sub.pre 1 z)
   refine TC.exit (S.x (S.x ?_))
   replace hh:=fin_x hR2 hh
   refine TC.exitHere (S.n (TC.a (TL.s z z (TL.i z z ?_))))
   have u57:=grd_c hh
   replace hh:=grd_t hh
   refine TL.isSl (i:=0) z (fun hs136 _ _=> ?_)
   rw [hn123]at hs136
   obtain ⟨a136,c136,hv136,ho136⟩:=vw_of (k:=k124) (size:=8) hs136 (by omega)
   refine TL.w z (ho136 z underlying23 sz66 z z) ?_
   have hn137:(l122.take k124++List.replicate (l122.length - k124) Arc.zero).length=x0.length:=by simp only [List.length_append,List.length_take,List.length_replicate];try simp only [List.length_replicate]at *;omega
   refine TL.op z (clearV (k:=k124) Arc.zero z underlying23 ze66 z z hv136 (by omega) (by omega) encArc_len (by decide) z encArc_one ?_)
   refine TL.en (TC.a (TL.s z z (TL.i z z ?_)))
   rw [←hn137]
   have u61:=grd_c hh
   replace hh:=grd_t hh
   refine TL.op z (cutS z underlying23 sz66 z z z z z (by omega) encArc_len ?_)
   refine TL.s z z (TL.en (TC.ret (B.r (S.r (S.r ?_)))))
   replace hh:=fin_x hR1 hh
   refine B.r (S.r ?_)
   obtain rfl:=so hh
   exact ro [Res.rowS 66 8 encArc (.slice a0_1 ((l122.take k124++List.replicate (l122.length - k124) Arc.zero).take k124).length c0_2) ((l122.take k124++List.replicate (l122.length - k124) Arc.zero).take k124)] z (RVs.tmp z RVs.nil) ⟨a0_1,c0_2,z,z,z⟩
  refine TC.skip (B.n (S.n (TC.region (TL.i z z (TL.w z (OpVal.succ z z z (by omega)) (TL.i z z (TL.en ?_)))))))
  obtain ⟨hh,hlt138⟩:=nxt_x hR1 hh
  exact lf ((k105+1),()) hlt138 hh (Sub.pre 1 z)
 refine TC.exit (S.x (S.x ?_))
 replace hh:=fin_x hR1 hh
 refine TC.exitHere (S.n (TC.a (TL.s z z (TL.s z z (TL.en (TC.ret ?_))))))
 obtain rfl:=so hh
 exact ro [Res.rowS 66 8 encArc (.slice a0_1 x0.length c0_2) x0] z (RVs.tmp z RVs.nil) ⟨a0_1,c0_2,z,z,z⟩
def onceT(x0:List Tip):Option ((List Tip)):=
 grd (x0.length * 24≤140737488355328) (bnd (compactT (sortL cmpTip x0)) (fun v9=>some v9))
def Hb_(σ:Store)(r:(List Tip)):Value→Store→List Res→Prop:=fun v σ' H'=>
 ∃a1 c1,v= .slice a1 r.length c1∧σ=σ'∧H'=[Res.rowS 76 2 encTip (.slice a1 r.length c1) r]
theorem Gj_{x0:List Tip}(f0_0:RS σ 2 encTip (.slice a0_0 x0.length c0_0) x0){r:(List Tip)}(hh:onceT x0=some r):
  Con Tryz.prog 95 #[.slice a0_0 x0.length c0_0,.func (.func 96) #[] #[]] σ [] (Hb_ σ r):=by
 dsimp only [onceT]at hh
 have f0_0b:=f0_0.rv.big
 refine Con.mk (n:=13) Tryz.func95 z z z (fun w0=> ?_)
 refine TC.a (TL.s z z (TL.en (TC.a (TL.s z z ?_))))
 have u3:=grd_c hh
 replace hh:=grd_t hh
 refine TL.op z (OpOk.call (Gf_ f0_0 u3) z z pf88 z z z z ?_)
 rintro _ _ _ _ ⟨⟨a101,c102,rfl⟩,rfl,rfl⟩
 refine TL.s z z (TL.en (TC.a (TL.s z z (TL.w z (moveFn (.inl z) z) ?_))))
 have hn104:(sortL cmpTip x0).length=x0.length:=List.length_mergeSort _
 refine TL.op z (OpOk.call (G3_ (l:=x0)) z z pf124 z z z z ?_)
 rintro _ _ _ _ ⟨rfl,rfl,rfl⟩
 refine TL.en (TC.a (TL.s z z ?_))
 rw [←hn104]
 obtain ⟨v9,u9,hh⟩:=bnd_e hh
 refine TL.op z (OpOk.call (F7_ u9) z z pf126 z z z z ?_)
 rintro _ _ _ hle105 ⟨a105_1,c105_2,rfl,rfl,rfl⟩
 refine TL.s z z (TL.en (TC.ret ?_))
 obtain rfl:=so hh
 exact ro [Res.rowS 76 2 encTip (.slice a105_1 v9.length c105_2) v9] z (RVs.tmp z RVs.nil) ⟨a105_1,c105_2,z,z,z⟩
def onceA(x0:List Arc):Option ((List Arc)):=
 grd (x0.length * 72≤140737488355328) (bnd (compactA (sortL cmpArc x0)) (fun v9=>some v9))
def Hd_(σ:Store)(r:(List Arc)):Value→Store→List Res→Prop:=fun v σ' H'=>
 ∃a1 c1,v= .slice a1 r.length c1∧σ=σ'∧H'=[Res.rowS 66 8 encArc (.slice a1 r.length c1) r]
theorem G4_{x0:List Arc}(f0_0:RS σ 8 encArc (.slice a0_0 x0.length c0_0) x0){r:(List Arc)}(hh:onceA x0=some r):
  Con Tryz.prog 97 #[.slice a0_0 x0.length c0_0,.func (.func 98) #[] #[]] σ [] (Hd_ σ r):=by
 dsimp only [onceA]at hh
 have f0_0b:=f0_0.rv.big
 refine Con.mk (n:=13) Tryz.func97 z z z (fun w0=> ?_)
 refine TC.a (TL.s z z (TL.en (TC.a (TL.s z z ?_))))
 have u3:=grd_c hh
 replace hh:=grd_t hh
 refine TL.op z (OpOk.call (G1_ f0_0 u3) z z pf136 z z z z ?_)
 rintro _ _ _ _ ⟨⟨a101,c102,rfl⟩,rfl,rfl⟩
 refine TL.s z z (TL.en (TC.a (TL.s z z (TL.w z (moveFn (.inl z) z) ?_))))
 have hn104:(sortL cmpArc x0).length=x0.length:=List.length_mergeSort _
 refine TL.op z (OpOk.call (G7_ (l:=x0)) z z pf137 z z z z ?_)
 rintro _ _ _ _ ⟨rfl,rfl,rfl⟩
 refine TL.en (TC.a (TL.s z z ?_))
 rw [←hn104]
 obtain ⟨v9,u9,hh⟩:=bnd_e hh
 refine TL.op z (OpOk.call (Gt_ u9) z z pf138 z z z z ?_)
 rintro _ _ _ hle105 ⟨a105_1,c105_2,rfl,rfl,rfl⟩
 refine TL.s z z (TL.en (TC.ret ?_))
 obtain rfl:=so hh
 exact ro [Res.rowS 66 8 encArc (.slice a105_1 v9.length c105_2) v9] z (RVs.tmp z RVs.nil) ⟨a105_1,c105_2,z,z,z⟩
def Cl_(x0:Fst):Option (Fst×Int):=
 bnd (D0_ x0) (fun v5=>iteO (decide (v5≠0)) (some ((⟨0,([]:List Tip),([]:List Tip),([]:List Arc)⟩:Fst),1)) (bnd (onceT x0.starts) (fun v14=>bnd (onceT x0.ends) (fun v17=>bnd (onceA x0.arcs) (fun v20=>some ((⟨x0.states,v14,v17,v20⟩:Fst),0))))))
def G0_(σ:Store)(r:Fst×Int):Value→Store→List Res→Prop:=fun v σ' H'=>
 ∃a1 c1 a2 c2 a3 c3,v= .tuple #[.agg #[.int .i64 r.1.states,.slice a1 r.1.starts.length c1,.slice a2 r.1.ends.length c2,.slice a3 r.1.arcs.length c3],.int .i64 r.2]∧RS σ' 2 encTip (.slice a1 r.1.starts.length c1) r.1.starts∧RS σ' 2 encTip (.slice a2 r.1.ends.length c2) r.1.ends∧RS σ' 8 encArc (.slice a3 r.1.arcs.length c3) r.1.arcs∧H'=[]
theorem Gq_{x0:Fst}(f0_0:RS σ 2 encTip (.slice a0_0 x0.starts.length c0_0) x0.starts)(f0_1:RS σ 2 encTip (.slice a0_1 x0.ends.length c0_1) x0.ends)(f0_2:RS σ 8 encArc (.slice a0_2 x0.arcs.length c0_2) x0.arcs){r:Fst×Int}(hh:Cl_ x0=some r):
  Con Tryz.prog 56 #[.agg #[.int .i64 x0.states,.slice a0_0 x0.starts.length c0_0,.slice a0_1 x0.ends.length c0_1,.slice a0_2 x0.arcs.length c0_2]] σ [] (G0_ σ r):=by
 dsimp only [Cl_]at hh
 have f0_0b:=f0_0.rv.big
 have f0_1b:=f0_1.rv.big
 have f0_2b:=f0_2.rv.big
 refine Con.mk (n:=20) Tryz.func56 z z z (fun w0=> ?_)
 refine TC.a (TL.op z (boxA z z z z (fun b101=> ?_)))
 refine TL.op z (OpOk.alloc z ze25 z z (fun b103=> ?_))
 refine TL.i z z (TL.en (TC.seq (TC.a (TL.w z (loadAll z ag25 sz25 z (i:=1) z z) ?_))))
 obtain ⟨v5,u5,hh⟩:=bnd_e hh
 refine TL.op z (callP (E1_ (x0:=x0) f0_0 f0_1 f0_2 u5) z z pf43 z z z ?_)
 refine TL.w z (OpVal.neq z z z) (TL.en (TC.cD z hh (fun h105 hh=> ?_) (fun h105 hh=> ?_)))
 ·refine TC.a (TL.w z (buildL z pl25 ze25 z) (TL.op z (storeAll z sz25 z z z z z z ?_)))
  refine TL.i z z (TL.en (TC.rt 1 (S.r ?_)))
  obtain rfl:=so hh
  exact ro [] z (RVs.agg ag25 sz25 z (i:=0) z z (RVs.tmp z RVs.nil)) ⟨none,0,none,0,none,0,z,(RS.nilF _ encTip encTip_len),(RS.nilF _ encTip encTip_len),(RS.nilF _ encArc encArc_len),z⟩
 refine TC.skip (S.n (TC.seq ?_))
 obtain ⟨v14,u14,hh⟩:=bnd_e hh
 obtain ⟨v17,u17,hh⟩:=bnd_e hh
 obtain ⟨v20,u20,hh⟩:=bnd_e hh
 refine TC.draw [12,13] (by kernel_rfl) (TA.a 0 z (fieldLoc z fo25_0 z) z (TA.b 1 z (loadLoc z ag3 z (i:=1) z z) z (TA.a 2 z (fieldLoc z fo25_1 z) z (TA.b 3 z (loadLoc z ag22 z (i:=1) z z) z (TA.a 5 z (fieldLoc z fo25_2 z) z (TA.b 6 z (loadLoc z ag22 z (i:=1) z z) z (TA.a 8 z (fieldLoc z fo25_3 z) z (TA.b 9 z (loadLoc z ag23 z (i:=1) z z) z (TA.ac 4 z (OpOk.call (Gj_ f0_0 u14) z z pf95 z z z z ?_))))))))))
 rintro _ _ _ hle112 ⟨a112_1,c112_1,rfl,rfl,rfl⟩
 refine k1 (TA.ac 7 z (OpOk.call (Gj_ f0_1 u17) z z pf95 z z z z ?_))
 rintro _ _ _ hle114 ⟨a114_1,c114_1,rfl,rfl,rfl⟩
 refine k2 (TA.ac 10 z (OpOk.call (G4_ f0_2 u20) z z pf97 z z z z ?_))
 rintro _ _ _ hle116 ⟨a116_1,c116_1,rfl,rfl,rfl⟩
 refine k3 (TA.a 11 z (buildL z pl25 ze25 z) z (TA.front 3 z z (TA.last 12 (by kernel_rfl) z z z (storeAll z sz25 z z z z z z ?_))))
 refine TZ.v 13 (by kernel_rfl) z z z (moveI (.inr z) z) z z (TZ.done (by kernel_rfl) (S.n (TC.front 3 z z (TC.sealS encTip_len (fun τ120 hle119 hr118=> ?_)))))
 have hr118b:=hr118.rv.big
 refine TC.front 2 z z (TC.sealS encTip_len (fun τ123 hle122 hr121=> ?_))
 replace hr118:=hr118.mono hle122
 have hr121b:=hr121.rv.big
 refine TC.front 1 z z (TC.sealS encArc_len (fun τ126 hle125 hr124=> ?_))
 replace hr118:=hr118.mono hle125
 replace hr121:=hr121.mono hle125
 have hr124b:=hr124.rv.big
 refine TC.rt 1 ?_
 obtain rfl:=so hh
 exact ro [] z (RVs.agg ag25 sz25 z (i:=0) z z (RVs.tmp z RVs.nil)) ⟨a112_1,c112_1,a114_1,c114_1,a116_1,c116_1,z,hr118,hr121,hr124,z⟩
end Go.Proofs.YtchebnpdnfhenaaGreatDoor
end

noncomputable section
namespace Go.E
open Go
structure Dfa where
  cls:List Int
  next:List (List Int)
  fin:List Bool
def Dfa.zero:Dfa:=⟨[],[],[]⟩
structure DfaP where
  a1:Option Addr
  c1:Nat
  a2:Option Addr
  c2:Nat
  a3:Option Addr
  c3:Nat
def DfaP.zero:DfaP:=⟨none,0,none,0,none,0⟩
structure RDfa (σ:Store) (x:Dfa) (p:DfaP):Prop where
  c:RS σ 1 eI_ (.slice p.a1 x.cls.length p.c1) x.cls
  n:RZ σ (pkSl 1 eI_ eIl_) (.slice p.a2 x.next.length p.c2) x.next
  e:RS σ 1 encB (.slice p.a3 x.fin.length p.c3) x.fin
end Go.E
end

noncomputable section
namespace Go.E
open Go
structure Seq where
  front:List UInt8
  next:List (List Int)
  outs:List (List (List UInt8))
  fin:List Bool
  tail:List (List UInt8)
def Seq.zero:Seq:=⟨[],[],[],[],[]⟩
structure SeqP where
  a1:Option Addr
  c1:Nat
  a2:Option Addr
  c2:Nat
  a3:Option Addr
  c3:Nat
  a4:Option Addr
  c4:Nat
def SeqP.zero:SeqP:=⟨none,0,none,0,none,0,none,0⟩
structure RSeq (σ:Store) (x:Seq) (p:SeqP):Prop where
  n:RZ σ (pkSl 1 eI_ eIl_) (.slice p.a1 x.next.length p.c1) x.next
  o:RZ σ (pkSl 1 eS_ eSl_) (.slice p.a2 x.outs.length p.c2) x.outs
  e:RS σ 1 encB (.slice p.a3 x.fin.length p.c3) x.fin
  t:RS σ 1 eS_ (.slice p.a4 x.tail.length p.c4) x.tail
def Seq.enc(x:Seq)(p:SeqP):List Value:=[.string (bs x.front),.slice p.a1 x.next.length p.c1,.slice p.a2 x.outs.length p.c2,.slice p.a3 x.fin.length p.c3,.slice p.a4 x.tail.length p.c4]
structure Rule where
  of:Dfa
  left:Dfa
  right:Dfa
  out:List UInt8
  mapped:Bool
  by':Seq
def Rule.zero:Rule:=⟨Dfa.zero,Dfa.zero,Dfa.zero,[],false,Seq.zero⟩
structure RuleP where
  of:DfaP
  left:DfaP
  right:DfaP
  by':SeqP
def RuleP.zero:RuleP:=⟨DfaP.zero,DfaP.zero,DfaP.zero,SeqP.zero⟩
structure RRule (σ:Store) (x:Rule) (p:RuleP):Prop where
  o:RDfa σ x.of p.of
  l:RDfa σ x.left p.left
  r:RDfa σ x.right p.right
  b:RSeq σ x.by' p.by'
structure SB where
  buf:List UInt8
structure Turned where
  b:SB
  at':List Span
structure How where
  r:Rule
structure Piece where
  text:List UInt8
  at':List Span
def Piece.zero:Piece:=⟨[],[]⟩
end Go.E
end

noncomputable section
namespace Go.E
open Go
def GT{α:Type}(σ:Store)(g:Nat)(enc:α→List Value)(l:List α):Prop:= ∃E,σ g=some (.cells (l.flatMap enc).toArray E)
theorem GT.mono{α:Type}{σ τ:Store}{g:Nat}{enc:α→List Value}{l:List α}(h:GT σ g enc l)(hle:σ.le τ):GT τ g enc l:=let ⟨E,h⟩:=h;⟨E,hle _ _ h⟩
theorem flat_one{α:Type}{enc:α→List Value}(hl: ∀x,(enc x).length=1)(d:α): ∀(l:List α) (i:Nat),i<l.length→(l.flatMap enc)[i]? =(enc (nth l i d))[0]?
  |[],i,h=>by simp at h
  |x::l,0,_=>by
    have:=hl x
    rw [List.flatMap_cons,List.getElem?_append_left (by omega)]
    simp [nth]
  |x::l,i+1,h=>by
    have h1:=hl x
    rw [List.flatMap_cons,List.getElem?_append_right (by omega),h1,Nat.add_sub_cancel,flat_one hl d l i (by simpa using h)]
    simp [nth]
theorem OpVal.loadG1{P:Program}{n:Nat}{e:Env}{H:List Res}{o:Oper}{x:Operand}{α:Type}{T g i:Nat}{enc:α→List Value}{l:List α}{v:Value}(d:α)(ho:o.op= .load T x)(hA:aggOf P T=some false)(hx:ev e x=loc g (0+i * 1))(hG:GT σ g enc l)(hi:i<l.length)(hl: ∀x,(enc x).length=1)(hv:enc (nth l i d)=[v]):OpVal P n o e σ H v:=fun w hw=>by
  obtain ⟨E,hE⟩:=hG
  have h1:=hw.1 _ _ hE
  have hc:w.cell? ⟨g,0+i * 1,none⟩=some v:=by
    have h2:=flat_one hl d l i hi
    rw [hv]at h2
    simp only [World.cell?,h1,Option.isSome_none,Bool.false_eq_true,if_false,Nat.zero_add,Nat.mul_one,List.getElem?_toArray]
    rw [h2];rfl
  rw [Nat.zero_add,Nat.mul_one]at hc hx
  simp [execOp,ho,hx,Instr.loadAt,Instr.sureAddr,loc,run_loadVar_one hA hc]
theorem OpVal.negW{P:Program}{n:Nat}{e:Env}{H:List Res}{o:Oper}{x:Operand}{T:TypeId}{k:IntKind}{a:Int}(ho:o.op= .unOp .neg T x)(hx:ev e x= .int k a):OpVal P n o e σ H (.int k (k.wrap (-a))):=fun w _=>by
  simp [execOp,ho,hx,Op.unary,Op.intArith]
theorem OpVal.negU{P:Program}{n:Nat}{e:Env}{H:List Res}{o:Oper}{x:Operand}{T:TypeId}{a:Nat}(ho:o.op= .unOp .neg T x)(hx:ev e x= .int .u64 (a:Nat)):OpVal P n o e σ H (.int .u64 ((u64of (-(a:Int)):Nat):Int)):=by
  rw [u64of_val];exact OpVal.negW ho hx
theorem OpVal.indexSet{P:Program}{n:Nat}{e:Env}{H:List Res}{o:Oper}{x y:Operand}{T E i:Nat}{k:IntKind}{s:BSet}(ho:o.op= .index T x y)(ht:P.underlying T=some (.array 4 E))(hz:szOf P E=some 1)(hA:aggOf P E=some false)(hx:ev e x=setV s)(hy:ev e y= .int k (i:Nat))(hi:i<4):
    OpVal P n o e σ H (.int .u64 ((s.word i:Nat):Int)):=fun w _=>by
  have h1:=setA_get s hi
  simp [execOp,ho,hx,hy,setV,Instr.index,asIntOf,run_underlying ht,run_sizeOf hz,part,run_isAgg hA,h1]
  omega
def deB:List UInt8:=[0,1,56,2,57,49,28,3,61,58,42,50,38,29,17,4,62,47,59,36,45,43,51,22,53,39,33,30,24,18,12,5,63,55,48,27,60,41,37,16,46,35,44,21,52,32,23,11,54,26,40,15,34,20,31,10,25,14,19,9,13,8,7,6]
end Go.E
end

noncomputable section
namespace Go.E
open Go
def badV(u:Bool)(b:Nat):Value:=match u with|true=>loc b 0|false=> .pointer none
theorem cells_shape{b E:Nat}{cs:Array Value}{w:World}(h:(Res.cells b cs E).holds w):w.shape? b=some (E,cs.size):=by
  have h1:w.heap[b]? =some (.cells cs E (0,0)):=h
  simp [World.shape?,h1]
section
variable {P:Program} {n:Nat} {e:Env} {σ:Store} {H:List Res} {o:Oper} {x y:Operand}
theorem OpVal.cvtUns{S T t b E i sz m:Nat}{cs:Array Value}(ho:o.op= .convert S T x)(hS:P.underlying S=some (.pointer t))(hT:P.underlying T=some .unsafePointer)(hs:szOf P t=some sz)(h0:sz≠0)
    (hx:ev e x=loc b 0) (hi:H[i]? =some (Res.cells b cs E)) (hm:cs.size=m) (hc:0<m):OpVal P n o e σ H (loc b 0):=fun w hw=>by
  obtain ⟨j,hj,hjs⟩:=szOf_info hs
  have hsh:=cells_shape (hw.2 _ (List.mem_of_getElem? hi))
  have h:=Lib.run_to_unsafe (P:=P) (w:=w) (cells:=cs.size) ⟨b,0,none⟩ hS hT hj (by rw [hjs];exact h0) hsh (by rw [hm];exact hc)
  simp [execOp,ho,hx,loc,h]
theorem OpVal.cvtPtr{S T t b E i sz m:Nat}{cs:Array Value}(ho:o.op= .convert S T x)(hS:P.underlying S=some .unsafePointer)(hT:P.underlying T=some (.pointer t))(hs:szOf P t=some sz)
    (hx:ev e x=loc b 0) (hi:H[i]? =some (Res.cells b cs E)) (hm:cs.size=m) (hl:liesAt P P.depth E (m / P.cellsOf E) 0 t 1=true):OpVal P n o e σ H (loc b 0):=fun w hw=>by
  obtain ⟨j,hj,hjs⟩:=szOf_info hs
  have hsh:=cells_shape (hw.2 _ (List.mem_of_getElem? hi))
  have h:=Lib.run_from_unsafe (P:=P) (w:=w) (cells:=cs.size) ⟨b,0,none⟩ hS hT hj hsh (by rw [hm];exact hl)
  simp [execOp,ho,hx,loc,h]
theorem OpVal.noEsc{p : Operand}{ts : Array TypeId}{J : FuncId}{fn : Func}{v : Value}(ho : o.op = .call { callee := .value x, args := #[p], argTypes := ts })(hx : ev e x = .func (.func J) #[] #[])(hf : P.funcs[J]? = some fn)(hname : (fn.name == "runtime.NumGoroutine") = false)
    (hb:fn.body.isNone=true) (hn:Extern.findNext fn=none) (he:Extern.find fn=some Extern.AbiNoEscape.same) (hp:ev e p=v):OpVal P n o e σ H v:=fun w _=>by
  have h:=run_callFunc_extern hf hname hb hn he #[v] w
  rw [Lib.run_noEscape]at h
  simp [execOp,ho,resolve,Deferred.ofValue,invoke,hx,hp,h,Result.andThen]
theorem OpVal.neqSelf{T T' t b sz:Nat}(ho:o.op= .binOp .neq T x y T')(hT:P.underlying T=some (.pointer t))(hs:szOf P t=some sz)(hx:ev e x=loc b 0)(hy:ev e y=loc b 0):OpVal P n o e σ H (.bool false):=fun w _=>by
  obtain ⟨j,hj,_⟩:=szOf_info hs
  have h:=Lib.run_neq_ptr_same (P:=P) (w:=w) ⟨b,0,none⟩ hT hj
  simp only [execOp,ho,hx,hy,loc,Sem.run_bind,run_eqGuard_ptr,Result.andThen_ok]
  rw [h];rfl
end
theorem strCells_bs(l:List UInt8):Lib.strCells (bs l)=l.flatMap encU8:=by
  have h: ∀l:List UInt8,l.map (fun b=>Value.int IntKind.u8 ((b.toNat:Nat):Int))=l.flatMap encU8:=fun l=>by
    induction l with
    |nil=>rfl
    |cons x l ih=>rw [List.map_cons,List.flatMap_cons,ih];rfl
  simp [Lib.strCells,bs]
  exact h l
theorem appendS_blk {P : Program} {w w' : World} (base : Nat) (t u ty e : TypeId) (i : TypeInfo) (ht : P.underlying t = some (.slice e)) (hu : P.underlying u = some .string) (hi : P.info? e = some i) (hz : i.zero = some (.int .u8 0))
    (hsize:i.size=1) (hby:i.bytes=1) {v v':Value} {n:Nat} {xs:List Value} (hown:w.ownsRow base e 1 v n xs) (s:ByteArray)
    (h63:n+s.size≤maxLen) (hbytes:n+s.size≤140737488355328) (hrun:(Builtin.append_ #[t,u] ty #[v,.string s]).run P w= .ok v' w'):
    (v'.ownBlock=v.ownBlock∨v'.ownBlock=some w.heap.size)∧w.drawn≤w'.drawn:=by
  have hsmall:n+s.size≤9223372036854775807:=by simp only [maxLen]at h63;omega
  have hxl:xs.length=n:=by simpa using hown.1
  rcases hown.2 with ⟨rfl,rfl⟩|⟨g,cap,cur,rfl,hbg,hg,hnc,hcm,hcs,htake⟩
  · by_cases hm:s.size=0
    · have hf:=Lib.run_firstCells_string (P:=P) (w:=w) 1 s
      rw [hm]at hf
      have hr:(Builtin.append_ #[t,u] ty #[.slice none 0 0,.string s]).run P w= .ok (.slice none 0 0) w:=by
        simp [Builtin.append_,run_underlying ht,run_underlying hu,sizeOf,typeInfo,hi,hsize,Builtin.lenOf,hm,hf]
      rw [hrun]at hr;cases hr;exact ⟨.inl rfl,Nat.le_refl _⟩
    have hr:=run_append_nil_string (P:=P) w t u ty e i (.int .u8 0) ht hu hi hz s (by omega) (by omega) (by rw [hby];omega)
    rw [hrun]at hr;cases hr;exact ⟨.inr rfl,Nat.le_succ _⟩
  by_cases hroom:n+s.size≤cap
  · have hcs':cur.size=cap:=by simpa using hcs
    have hr:=Lib.run_append_room_string (P:=P) (w:=w) t u ty e i ht hu hi hsize g n cap cur hg s hroom (by omega)
    rw [hrun]at hr;cases hr;exact ⟨.inl rfl,Nat.le_refl _⟩
  have holds: ∀j u,xs[j]? =some u→w.cell? ((⟨g,0,none⟩:Addr).add j)=some u:=hown.cells (g:=g) rfl
  have hr:=Lib.run_append_grow_string (P:=P) (w:=w) t u ty e i (.int .u8 0) ht hu hi hz ⟨g,0,none⟩ n cap xs (by rw [hsize];simpa using hxl) holds s (by omega) (by omega) (by rw [hby];exact growslice_fits (by omega) (by omega))
  rw [hrun]at hr;cases hr;exact ⟨.inr rfl,Nat.le_succ _⟩
theorem OpOk.appendStr{X:Ctx}{e:Env}{F:List Res}{o:Oper}{x y:Operand}{K:Env→Store→List Res→Prop}{T ty E d:Nat}{v:Value}{l m:List UInt8}
    (ho:o.op= .call {callee:= .builtin .append,args:= #[x,y],argTypes:= #[T,ty]}) (ht:X.P.underlying T=some (.slice E)) (hu:X.P.underlying ty=some .string) (hs:szOf X.P E=some 1) (hby:byOf X.P E=some 1) (hz:zeroOf X.P E=some (.int .u8 0))
    (hd:o.dst=some d) (hn:Nat.blt d X.n=true) (hx:ev e x=v) (hy:ev e y= .string (bs m)) (hb:l.length+m.length≤140737488355328)
    (k: ∀a c,K (upd e d (.slice a (l++m).length c)) σ (Res.rowS E 1 encU8 (.slice a (l++m).length c) (l++m)::F)):OpOk X o e σ (Res.rowS E 1 encU8 v l::F) K:=by
  obtain ⟨i,hi,hsi⟩:=szOf_info hs
  have hiz:i.zero=some (.int .u8 0):=by simpa [zeroOf,hi]using hz
  have hib:i.bytes=1:=by simpa [byOf,hi]using hby
  intro u0 C0 τ0 w a hw ha K' Q hK
  obtain ⟨hown,hone,hbg⟩:=hw.holds _ (List.mem_cons_self ..)
  have hsz:(bs m).size=m.length:=by show (bs m).data.size=_;simp [bs]
  have h1:l.length+(bs m).size≤maxLen:=by rw [hsz];unfold maxLen;omega
  have h2:l.length+(bs m).size≤140737488355328:=by rw [hsz];exact hb
  obtain ⟨v',w',hr,hown',hg,_⟩:=Lib.run_append_own_string (P:=X.P) (w:=w) 0 T ty o.type E i ht hu hi hiz hsi hib v l.length _ hown (bs m) h1 h2 (Nat.zero_le _)
  obtain ⟨hblk,hdr⟩:=appendS_blk 0 T ty o.type E i ht hu hi hiz hsi hib hown (bs m) h1 h2 hr
  rw [hsz,strCells_bs,←List.flatMap_append,←List.length_append]at hown'
  have hbk: ∀b,v'.ownBlock=some b→v.ownBlock=some b∨w.heap.size≤b:=fun b hb=>by
    rcases hblk with h|h
    · exact .inl (h▸hb)
    rw [h]at hb;cases hb;exact .inr (Nat.le_refl _)
  have hR:Reach u0 C0 τ0 σ w' (Res.rowS E 1 encU8 v' (l++m)::F):=
    hw.turn1 (Value.ownBlock v) (Value.ownBlock v') rfl rfl hg.os hg.tape hg.output hg.size hdr (fun q hq hne=>hg.block q hq (fun hx=>hne hx.symm)) ⟨hown',fun q hq=>by
      obtain ⟨z,_,hz⟩:=List.mem_flatMap.1 hq
      exact encU8_one z q hz,by rw [List.length_append];omega⟩ hbk
  obtain ⟨av,cv,rfl,_,_⟩:=isSl_row hown'
  refine Oper.wp_of_run (w':=w') (v:= .slice av (l++m).length cv) ?_ (hK _ _ _ _ _ (k av cv) hR (put_dst ha hd hn _))
  rw [ha.eval']
  simp [execOp,ho,resolve,invoke,builtin,hx,hy,hr]
def Res.any (o : Option Nat) : Res where
  bl:=o.toList
  holds w:= ∀b,o=some b→b<w.heap.size
  lt w b hb h:=h b (by simpa using hb)
  keep w w' hb h:=fun b e=>by
    have h1:=h b e
    have h2:=hb b (by rw [e];simp)
    rw [Array.getElem?_eq_getElem h1]at h2
    exact (Array.getElem?_eq_some_iff.1 h2).1
def SDat(v:Value)(l:List UInt8)(q:Option Addr):Prop:=l≠[]→ ∃g c,v= .slice (some ⟨g,0,none⟩) l.length c∧q=some ⟨g,0,none⟩
theorem OpOk.sliceDat{X:Ctx}{e:Env}{F:List Res}{o:Oper}{x:Operand}{K:Env→Store→List Res→Prop}{T E d D:Nat}{v:Value}{l:List UInt8}
    (ho:o.op= .call {callee:= .builtin .unsafeSliceData,args:= #[x],argTypes:= #[T]}) (hD:o.type=D) (hp:X.P.underlying D=some (.pointer E)) (hd:o.dst=some d) (hn:Nat.blt d X.n=true) (hx:ev e x=v)
    (k: ∀q,SDat v l q→K (upd e d (.pointer q)) σ (Res.rowS E 1 encU8 v l::F)):OpOk X o e σ (Res.rowS E 1 encU8 v l::F) K:=by
  subst hD
  intro u0 C0 τ0 w a hw ha K' Q hK
  obtain ⟨hown,hone,hbg⟩:=hw.holds _ (List.mem_cons_self ..)
  rcases id hown.2 with ⟨rfl,hl⟩|⟨g,cap,cur,rfl,_,hg,hnc,hcm,hcs,htake⟩
  · have hl0:l=[]:=List.eq_nil_of_length_eq_zero hl
    have hr:=Lib.run_unsafeSliceData_nil (P:=X.P) (w:=w) #[T] o.type 0 0
    refine Oper.wp_of_run (w':=w) (v:= .pointer none) ?_ (hK _ _ _ _ _ (k none (fun h=>absurd hl0 h)) hw (put_dst ha hd hn _))
    rw [ha.eval']
    simp [execOp,ho,resolve,invoke,builtin,hx,hr]
  by_cases hc:cap=0
  · subst hc
    have hl0:l=[]:=List.eq_nil_of_length_eq_zero (by omega)
    have hsh:w.shape? g=some (E,cur.size):=by simp [World.shape?,hg]
    have hr:=Lib.run_unsafeSliceData_zero (P:=X.P) (w:=w) #[T] o.type E hp ⟨g,0,none⟩ l.length (E,cur.size) hsh
    have hR:Reach u0 C0 τ0 σ (w.alloc (.view ⟨g,0,none⟩ E)) (Res.any none::Res.rowS E 1 encU8 (.slice (some ⟨g,0,none⟩) l.length 0) l::F):=
      hw.gain1 none rfl rfl rfl rfl (by simp) (Nat.le_refl _) (fun k hk=>alloc_old w _ k hk) (fun b hb=>by cases hb) (fun b hb=>by cases hb)
    refine Oper.wp_of_run (w':=w.alloc (.view ⟨g,0,none⟩ E)) (v:= .pointer (some ⟨w.heap.size,0,none⟩)) ?_ (hK _ _ _ _ _ (k _ (fun h=>absurd hl0 h)) (hR.sub (List.sublist_cons_self _ _)) (put_dst ha hd hn _))
    rw [ha.eval']
    simp [execOp,ho,resolve,invoke,builtin,hx,hr]
  have hr:=Lib.run_unsafeSliceData_row (P:=X.P) (w:=w) #[T] o.type ⟨g,0,none⟩ l.length cap hc
  refine Oper.wp_of_run (w':=w) (v:= .pointer (some ⟨g,0,none⟩)) ?_ (hK _ _ _ _ _ (k _ (fun _=>⟨g,cap,rfl,rfl⟩)) hw (put_dst ha hd hn _))
  rw [ha.eval']
  simp [execOp,ho,resolve,invoke,builtin,hx,hr]
theorem OpOk.unsStr{X:Ctx}{e:Env}{F:List Res}{o:Oper}{x y:Operand}{K:Env→Store→List Res→Prop}{T I E d:Nat}{v:Value}{l:List UInt8}{q:Option Addr}
    (ho:o.op= .call {callee:= .builtin .unsafeString,args:= #[x,y],argTypes:= #[T,I]}) (hp:X.P.underlying T=some (.pointer E)) (hcE:X.P.cellsOf E=1) (hd:o.dst=some d) (hn:Nat.blt d X.n=true) (hx:ev e x= .pointer q) (hq:SDat v l q) (hy:ev e y= .int .i64 (l.length:Nat))
    (k:K (upd e d (.string (bs l))) σ F):OpOk X o e σ (Res.rowS E 1 encU8 v l::F) K:=by
  intro u0 C0 τ0 w a hw ha K' Q hK
  obtain ⟨hown,hone,hbg⟩:=hw.holds _ (List.mem_cons_self ..)
  by_cases hl:l=[]
  · subst hl
    have hr:=Lib.run_unsafeString_none (P:=X.P) (w:=w) T I o.type q
    refine Oper.wp_of_run (w':=w) (v:= .string (bs [])) ?_ (hK _ _ _ _ _ k (hw.sub (List.sublist_cons_self _ _)) (put_dst ha hd hn _))
    rw [ha.eval']
    simp [execOp,ho,resolve,invoke,builtin,hx,hy,hr]
    rfl
  obtain ⟨g,c,rfl,rfl⟩:=hq hl
  rcases id hown.2 with ⟨hv,_⟩|⟨g',cap,cur,hv,_,hg,hnc,hcm,hcs,htake⟩
  · cases hv
  cases hv
  have hsh:w.shape? g=some (E,cur.size):=by simp [World.shape?,hg]
  have hr:=Lib.run_unsafeString_row (P:=X.P) (w:=w) T I o.type E hp hcE g cur.size hsh l hl (by omega) (by unfold maxLen at hcm;omega) (fun j z hz=>by
    refine hown.cells (g:=g) rfl j (.int .u8 z.toNat) ?_
    have hj:j<l.length:=(List.getElem?_eq_some_iff.1 hz).1
    rw [flat_one (enc:=encU8) (fun _=>rfl) (0:UInt8) l j hj]
    have h4:=getD_some l hj (0:UInt8)
    rw [hz]at h4
    rw [←Option.some.inj h4];rfl)
  have hln: ¬ l.length=0:=fun h=>hl (List.eq_nil_of_length_eq_zero h)
  have hfz: ∀b,b≠g→(w.freeze ⟨g,0,none⟩ l.length).heap[b]? =w.heap[b]? :=fun b hb=>by
    unfold World.freeze
    rw [if_neg hln]
    simp only [Array.getElem?_modify]
    rw [if_neg (fun h=>hb h.symm)]
  have hsz:(w.freeze ⟨g,0,none⟩ l.length).heap.size=w.heap.size:=by
    unfold World.freeze
    rw [if_neg hln];simp
  have hos:(w.freeze ⟨g,0,none⟩ l.length).os=w.os∧(w.freeze ⟨g,0,none⟩ l.length).tape=w.tape∧(w.freeze ⟨g,0,none⟩ l.length).output=w.output∧(w.freeze ⟨g,0,none⟩ l.length).drawn=w.drawn:=by
    unfold World.freeze
    rw [if_neg hln];exact ⟨rfl,rfl,rfl,rfl⟩
  have hgl:g<w.heap.size:=(Array.getElem?_eq_some_iff.1 hg).1
  have hR:Reach u0 C0 τ0 σ (w.freeze ⟨g,0,none⟩ l.length) (Res.any (some g)::F):=
    hw.turn1 (some g) (some g) rfl rfl hos.1 hos.2.1 hos.2.2.1 (by rw [hsz];exact Nat.le_refl _) (by rw [hos.2.2.2];exact Nat.le_refl _) (fun k hk hne=>hfz k (fun h=>hne (by rw [h]))) (fun b hb=>by cases hb;rw [hsz];exact hgl) (fun b hb=> .inl hb)
  refine Oper.wp_of_run (w':=w.freeze ⟨g,0,none⟩ l.length) (v:= .string (bs l)) ?_ (hK _ _ _ _ _ k (hR.sub (List.sublist_cons_self _ _)) (put_dst ha hd hn _))
  rw [ha.eval']
  simp [execOp,ho,resolve,invoke,builtin,hx,hy,hr]
  rfl
end Go.E
end

noncomputable section
namespace Go.Proofs.YtchebnpdnfhenaaGreatDoor
open Go Go.E Go.E.OpVal Go.E.OpOk Go.Proofs.Tryz
theorem ag27:aggOf Tryz.prog 27=some false:=by kernel_rfl
theorem ag28:aggOf Tryz.prog 28=some false:=by kernel_rfl
theorem ag29:aggOf Tryz.prog 29=some false:=by kernel_rfl
theorem ag30:aggOf Tryz.prog 30=some false:=by kernel_rfl
theorem ag32:aggOf Tryz.prog 32=some true:=by kernel_rfl
theorem ag60:aggOf Tryz.prog 60=some false:=by kernel_rfl
theorem ag86:aggOf Tryz.prog 86=some false:=by kernel_rfl
theorem ag90:aggOf Tryz.prog 90=some false:=by kernel_rfl
theorem by5:byOf Tryz.prog 5=some 1:=by kernel_rfl
theorem ce5:Tryz.prog.cellsOf 5=1:=by kernel_rfl
theorem fo32_0:foOf Tryz.prog 32 0=some 0:=by kernel_rfl
theorem fo32_1:foOf Tryz.prog 32 1=some 1:=by kernel_rfl
theorem fo32_2:foOf Tryz.prog 32 2=some 2:=by kernel_rfl
theorem fo32_3:foOf Tryz.prog 32 3=some 3:=by kernel_rfl
theorem fo32_4:foOf Tryz.prog 32 4=some 4:=by kernel_rfl
theorem fo92_0:foOf Tryz.prog 92 0=some 0:=by kernel_rfl
theorem fo92_1:foOf Tryz.prog 92 1=some 1:=by kernel_rfl
theorem pf23:plainF Tryz.prog 23=true:=by kernel_rfl
theorem pf53:plainF Tryz.prog 53=true:=by kernel_rfl
theorem pf54:plainF Tryz.prog 54=true:=by kernel_rfl
theorem pf60:plainF Tryz.prog 60=true:=by kernel_rfl
theorem pf94:plainF Tryz.prog 94=true:=by kernel_rfl
theorem sz30:szOf Tryz.prog 30=some 1:=by kernel_rfl
theorem sz32:szOf Tryz.prog 32=some 5:=by kernel_rfl
theorem sz60:szOf Tryz.prog 60=some 1:=by kernel_rfl
theorem sz86:szOf Tryz.prog 86=some 1:=by kernel_rfl
theorem sz9:szOf Tryz.prog 9=some 1:=by kernel_rfl
theorem sz90:szOf Tryz.prog 90=some 1:=by kernel_rfl
theorem sz92:szOf Tryz.prog 92=some 2:=by kernel_rfl
theorem ze5:zeroOf Tryz.prog 5=some (.int .u8 0):=by kernel_rfl
theorem ze92:zeroOf Tryz.prog 92=some (.agg #[.pointer none,.slice none 0 0]):=by kernel_rfl
def D6_(k105:Nat):Option ((Nat)⊕(Bool)):=
 nxt (k105+1)
def C3_(x0:List Int)(x2:Int)(x1:List (List UInt8))(k105:Nat):Option ((Nat)⊕(Bool)):=
 iteO (decide (((k105:Nat):Int)<((x0.length:Nat):Int))) (iteO (decide ((nth x0 k105 (0:Int))<(-1))) (fin (some false)) (iteO (decide (x2≤(nth x0 k105 (0:Int)))) (fin (some false)) (grd (k105<x1.length) (iteO (decide (4096<(((nth x1 k105 ([]:List UInt8)).length:Nat):Int))) (fin (some false)) (iteO (decide ((nth x0 k105 (0:Int))=(-1))) (grd (k105<x1.length) (iteO (decide ((nth x1 k105 ([]:List UInt8))≠([]:List UInt8))) (fin (some false)) (D6_ k105))) (D6_ k105)))))) (fin (some true))
def Fn_(x0:List Int)(x1:List (List UInt8))(x2:Int):Option (Bool):=
 iteO (decide (((x0.length:Nat):Int)≠256)) (some false) (iteO (decide (((x1.length:Nat):Int)≠256)) (some false) (iter (fun q:Nat=>C3_ x0 x2 x1 q) 0))
theorem Gw_{x0:List Int}{x1:List (List UInt8)}{x2:Int}(f0_0:RS σ 1 eI_ (.slice a0_0 x0.length c0_0) x0)(f1_0:RS σ 1 eS_ (.slice a1_0 x1.length c1_0) x1){r:Bool}(hh:Fn_ x0 x1 x2=some r):
  Con Tryz.prog 60 #[.slice a0_0 x0.length c0_0,.slice a1_0 x1.length c1_0,.int .i64 x2] σ [] (PureP (.bool r) σ):=by
 dsimp only [Fn_]at hh
 have f0_0b:=f0_0.rv.big
 have f1_0b:=f1_0.rv.big
 refine Con.mk (n:=51) Tryz.func60 z z z (fun w0=> ?_)
 refine TC.a (TL.j z z (TL.en (TC.seq (TC.a (TL.s z z (TL.w z (lenC z underlying86 z) (TL.w z (OpVal.neq z z z) (TL.j z z (TL.split 12 z (fun h101=> ?_) (fun h101=> ?_))))))))))
 ·replace hh:=iteO_t h101 hh
  replace h101:=of_decide_eq_true h101
  refine TL.f z (TL.f z (TL.f z (TL.w z (pickTB z z z) (TL.en (TC.t z (TC.a (TL.j z z (TL.en (TC.ret (S.r ?_))))))))))
  obtain rfl:=so hh
  exact rq [6] ⟨z,z,z⟩
 replace hh:=iteO_f h101 hh
 replace h101:=of_decide_eq_false h101
 refine TL.g z (moveSl (.inl z) z) (TL.g z (lenC z underlying30 z) (TL.g z (OpVal.neq z z z) (TL.w z (pickFB z z z) (TL.en (TC.cD z hh (fun h102 hh=> ?_) (fun h102 hh=> ?_))))))
 ·refine TC.a (TL.j z z (TL.en (TC.ret (S.r ?_))))
  obtain rfl:=so hh
  exact rq [6] ⟨z,z,z⟩
 refine TC.skip (S.n (TC.seq (TC.a (TL.s z z (TL.w z (lenC z underlying86 z) (TL.i z z (TL.en (TC.block (TC.loopG (α:=(Nat)×(Unit)) (rgs [(6,3),(19,32)]) (fun g=>[(19,.int .i64 ((g.1:Nat):Int))]) (fun g=>[]) (fun g=>σ) (fun g=>iter (fun q:Nat=>C3_ x0 x2 x1 q) g.1=some r) (fun g=>rounds (fun q:Nat=>C3_ x0 x2 x1 q) g.1) (0,()) (Sub.pre 0 z) z (by repeat (first|exact trivial|refine ⟨z,?_⟩)) hh (fun g1 j1 hg1=> ?_))))))))))
 obtain ⟨k105,_⟩:=g1
 have hh:=hg1;clear hg1
 try dsimp only
 obtain ⟨z1,hh,hR1⟩:=iter_e hh
 dsimp only [C3_]at hh
 refine TC.a (TL.w z (OpVal.lss z z z) (TL.en (TC.seq (TC.cD z hh (fun h106 hh=> ?_) (fun h106 hh=> ?_)))))
 ·refine TC.skip (S.n (TC.cutG (α:=(Unit)×(Unit)) (rgs [(6,3),(21,29)]) (fun g=>[]) (fun g=>[]) (fun g=>σ) (fun g=>D6_ k105=some z1) ?_ (fun g j hg=> ?_)))
  ·skip
   refine TC.block (TC.a (TL.i z z (TL.w z (indexN z underlying86 sz3 z z f0_0.rv.sl (by omega)) (TL.w z (loadS1 (0:Int) z ag3 z f0_0 (by omega) z) (TL.i z z (TL.i z z (TL.en (TC.a (TL.i z z (TL.w z (OpVal.lss z z z) (TL.j z z (TL.split 26 z (fun h107=> ?_) (fun h107=> ?_)))))))))))))
   ·replace hh:=iteO_t h107 hh
    replace h107:=of_decide_eq_true h107
    refine TL.f z (TL.f z (TL.f z (TL.w z (pickTB z z z) (TL.j z z (TL.f z (TL.f z (TL.f z (TL.f z (TL.f z (TL.f z (TL.w z (pickTB z z z) (TL.j z z (TL.f z (TL.f z (TL.f z ?_)))))))))))))))
    refine TL.f z (TL.f z (TL.f z (TL.f z (TL.f z (TL.f z (TL.w z (pickTB z z z) (TL.en (TC.t z (TC.a (TL.j z z (TL.en (TC.ret (B.r (S.r (S.r ?_)))))))))))))))
    replace hh:=fin_x hR1 hh
    refine B.r (S.r ?_)
    obtain rfl:=so hh
    exact rq [6] ⟨z,z,z⟩
   replace hh:=iteO_f h107 hh
   replace h107:=of_decide_eq_false h107
   refine TL.g z (moveI (.inl z) z) (TL.g z (moveI (.inl z) z) (TL.g z (OpVal.geq z z z) (TL.w z (pickFB z z z) (TL.j z z (TL.split 31 z (fun h108=> ?_) (fun h108=> ?_))))))
   ·replace hh:=iteO_t h108 hh
    replace h108:=of_decide_eq_true h108
    refine TL.f z (TL.f z (TL.f z (TL.f z (TL.f z (TL.f z (TL.w z (pickTB z z z) (TL.j z z (TL.f z (TL.f z (TL.f z (TL.f z (TL.f z (TL.f z (TL.f z (TL.f z ?_)))))))))))))))
    refine TL.f z (TL.w z (pickTB z z z) (TL.en (TC.t z (TC.a (TL.j z z (TL.en (TC.ret (B.r (S.r (S.r ?_))))))))))
    replace hh:=fin_x hR1 hh
    refine B.r (S.r ?_)
    obtain rfl:=so hh
    exact rq [6] ⟨z,z,z⟩
   replace hh:=iteO_f h108 hh
   replace h108:=of_decide_eq_false h108
   refine TL.g z (moveSl (.inl z) z) (TL.g z (moveI (.inl z) z) ?_)
   have u30:=grd_c hh
   replace hh:=grd_t hh
   refine TL.g z (indexN z underlying30 sz9 z z f1_0.rv.sl (by omega)) (TL.g z (loadS1 ([]:List UInt8) z ag9 z f1_0 (by omega) z) (TL.g z (lenBs z underlying9 z) (TL.g z (OpVal.gtr z z z) (TL.w z (pickFB z z z) (TL.j z z (TL.split 39 z (fun h109=> ?_) (fun h109=> ?_)))))))
   ·replace hh:=iteO_t h109 hh
    replace h109:=of_decide_eq_true h109
    refine TL.f z (TL.f z (TL.f z (TL.f z (TL.f z (TL.f z (TL.f z (TL.f z (TL.f z (TL.w z (pickTB z z z) (TL.en (TC.t z (TC.a (TL.j z z (TL.en (TC.ret ?_)))))))))))))))
    refine B.r (S.r (S.r ?_))
    replace hh:=fin_x hR1 hh
    refine B.r (S.r ?_)
    obtain rfl:=so hh
    exact rq [6] ⟨z,z,z⟩
   replace hh:=iteO_f h109 hh
   replace h109:=of_decide_eq_false h109
   refine TL.g z (moveI (.inl z) z) (TL.g z (OpVal.eql z z z) (TL.g z (moveB (.inl z) z) (TL.split 42 z (fun h110=> ?_) (fun h110=> ?_))))
   ·replace hh:=iteO_t h110 hh
    replace h110:=of_decide_eq_true h110
    refine TL.g z (moveSl (.inl z) z) (TL.g z (moveI (.inl z) z) ?_)
    have u41:=grd_c hh
    replace hh:=grd_t hh
    refine TL.g z (indexN z underlying30 sz9 z z f1_0.rv.sl (by omega)) (TL.g z (loadS1 ([]:List UInt8) z ag9 z f1_0 (by omega) z) (TL.g z (neqBs z z z) (TL.g z (pickTB z z z) (TL.w z (pickFB z z z) (TL.en (TC.cD z hh (fun h111 hh=> ?_) (fun h111 hh=> ?_)))))))
    ·refine TC.a (TL.j z z (TL.en (TC.ret (B.r (S.r (S.r ?_))))))
     replace hh:=fin_x hR1 hh
     refine B.r (S.r ?_)
     obtain rfl:=so hh
     exact rq [6] ⟨z,z,z⟩
    exact TC.skip (B.n (S.n (cf ((),()) hh (Sub.pre 0 z))))
   replace hh:=iteO_f h110 hh
   replace h110:=of_decide_eq_false h110
   exact TL.f z (TL.f z (TL.f z (TL.f z (TL.f z (TL.g z (pickFB z z z) (TL.w z (pickFB z z z) (TL.en (TC.f z (TC.skip (B.n (S.n (cf ((),()) hh (Sub.pre 0 z)))))))))))))
  skip
  obtain ⟨_,_⟩:=g
  have hh:=hg;clear hg
  try dsimp only
  dsimp only [D6_]at hh
  refine TC.region (TL.w z (OpVal.succ z z z (by omega)) (TL.i z z (TL.en ?_)))
  obtain ⟨hh,hlt112⟩:=nxt_x hR1 hh
  exact lf ((k105+1),()) hlt112 hh (Sub.pre 0 z)
 refine TC.exit (S.x (S.x ?_))
 replace hh:=fin_x hR1 hh
 refine TC.exitHere (S.n (TC.a (TL.j z z (TL.en (TC.ret ?_)))))
 obtain rfl:=so hh
 exact rq [6] ⟨z,z,z⟩
def B9_(k112:Nat)(x0:Seq):Option ((Nat)⊕(Int)):=
 grd (k112<x0.outs.length) (bnd (Fn_ (nth x0.next k112 ([]:List Int)) (nth x0.outs k112 ([]:List (List UInt8))) ((x0.next.length:Nat):Int)) (fun v85=>iteO (!v85) (fin (some 1)) (nxt (k112+1))))
def B7_(x0:Seq)(k112:Nat):Option ((Nat)⊕(Int)):=
 iteO (decide (((k112:Nat):Int)<((x0.next.length:Nat):Int))) (grd (k112<x0.tail.length) (iteO (decide (4096<(((nth x0.tail k112 ([]:List UInt8)).length:Nat):Int))) (fin (some 1)) (grd (k112<x0.fin.length) (iteO (!(nth x0.fin k112 false)) (grd (k112<x0.tail.length) (iteO (decide ((nth x0.tail k112 ([]:List UInt8))≠([]:List UInt8))) (fin (some 1)) (B9_ k112 x0))) (B9_ k112 x0))))) (fin (some 0))
def Di_(x0:Seq):Option (Int):=
 iter (fun q:Nat=>B7_ x0 q) 0
def Ey_(x0:Seq):Option (Int):=
 iteO (decide (1024<((x0.next.length:Nat):Int))) (some 1) (iteO (decide (((x0.outs.length:Nat):Int)≠((x0.next.length:Nat):Int))) (some 1) (iteO (decide (((x0.fin.length:Nat):Int)≠((x0.next.length:Nat):Int))) (some 1) (iteO (decide (((x0.tail.length:Nat):Int)≠((x0.next.length:Nat):Int))) (some 1) (iteO (decide (4096<((x0.front.length:Nat):Int))) (some 1) (iteO (decide (((x0.next.length:Nat):Int)=0)) (iteO (decide (x0.front≠([]:List UInt8))) (some 1) (Di_ x0)) (Di_ x0))))))
theorem Gn_{x0:Seq}(f0_0:RZ σ (pkSl 1 eI_ eIl_) (.slice a0_0 x0.next.length c0_0) x0.next)(f0_1:RZ σ (pkSl 1 eS_ eSl_) (.slice a0_1 x0.outs.length c0_1) x0.outs)(f0_2:RS σ 1 encB (.slice a0_2 x0.fin.length c0_2) x0.fin)(f0_3:RS σ 1 eS_ (.slice a0_3 x0.tail.length c0_3) x0.tail){r:Int}(hh:Ey_ x0=some r):
  Con Tryz.prog 23 #[.agg #[.string (bs x0.front),.slice a0_0 x0.next.length c0_0,.slice a0_1 x0.outs.length c0_1,.slice a0_2 x0.fin.length c0_2,.slice a0_3 x0.tail.length c0_3]] σ [] (PureP (.int .i64 r) σ):=by
 dsimp only [Ey_]at hh
 have f0_0b:=f0_0.big
 have f0_1b:=f0_1.big
 have f0_2b:=f0_2.rv.big
 have f0_3b:=f0_3.rv.big
 refine Con.mk (n:=85) Tryz.func23 z z z (fun w0=> ?_)
 refine TC.a (TL.op z (boxA z z z z (fun b101=> ?_)))
 refine TL.i z z (TL.en (TC.a (TL.w z (fieldLoc z fo32_1 z) (TL.w z (loadLoc z ag27 z (i:=0) z z) (TL.w z (lenC z underlying27 z) (TL.i z z (TL.en (TC.seq (TC.a (TL.i z z (TL.w z (OpVal.gtr z z z) (TL.j z z (TL.split 10 z (fun h103=> ?_) (fun h103=> ?_))))))))))))))
 ·replace hh:=iteO_t h103 hh
  replace h103:=of_decide_eq_true h103
  refine TL.f z (TL.f z (TL.f z (TL.f z (TL.f z (TL.w z (pickTB z z z) (TL.j z z (TL.f z (TL.f z (TL.f z (TL.f z (TL.f z (TL.w z (pickTB z z z) (TL.j z z (TL.f z (TL.f z ?_)))))))))))))))
  refine TL.f z (TL.f z (TL.f z (TL.w z (pickTB z z z) (TL.en (TC.t z (TC.a (TL.i z z (TL.en (TC.rt 0 (S.r ?_))))))))))
  obtain rfl:=so hh
  exact rq [2] ⟨z,z,z⟩
 replace hh:=iteO_f h103 hh
 replace h103:=of_decide_eq_false h103
 refine TL.g z (fieldLoc z fo32_2 z) (TL.g z (loadLoc z ag28 z (i:=0) z z) (TL.g z (lenC z underlying28 z) (TL.g z (moveI (.inl z) z) (TL.g z (OpVal.neq z z z) (TL.w z (pickFB z z z) (TL.j z z (TL.split 17 z (fun h104=> ?_) (fun h104=> ?_))))))))
 ·replace hh:=iteO_t h104 hh
  replace h104:=of_decide_eq_true h104
  refine TL.f z (TL.f z (TL.f z (TL.f z (TL.f z (TL.w z (pickTB z z z) (TL.j z z (TL.f z (TL.f z (TL.f z (TL.f z (TL.f z (TL.w z (pickTB z z z) (TL.en (TC.t z (TC.a ?_)))))))))))))))
  refine TL.i z z (TL.en (TC.rt 0 (S.r ?_)))
  obtain rfl:=so hh
  exact rq [2] ⟨z,z,z⟩
 replace hh:=iteO_f h104 hh
 replace h104:=of_decide_eq_false h104
 refine TL.g z (fieldLoc z fo32_3 z) (TL.g z (loadLoc z ag29 z (i:=0) z z) (TL.g z (lenC z underlying29 z) (TL.g z (moveI (.inl z) z) (TL.g z (OpVal.neq z z z) (TL.w z (pickFB z z z) (TL.j z z (TL.split 24 z (fun h105=> ?_) (fun h105=> ?_))))))))
 ·replace hh:=iteO_t h105 hh
  replace h105:=of_decide_eq_true h105
  refine TL.f z (TL.f z (TL.f z (TL.f z (TL.f z (TL.w z (pickTB z z z) (TL.en (TC.t z (TC.a (TL.i z z (TL.en (TC.rt 0 (S.r ?_))))))))))))
  obtain rfl:=so hh
  exact rq [2] ⟨z,z,z⟩
 replace hh:=iteO_f h105 hh
 replace h105:=of_decide_eq_false h105
 refine TL.g z (fieldLoc z fo32_4 z) (TL.g z (loadLoc z ag30 z (i:=0) z z) (TL.g z (lenC z underlying30 z) (TL.g z (moveI (.inl z) z) (TL.g z (OpVal.neq z z z) (TL.w z (pickFB z z z) (TL.en (TC.cD z hh (fun h106 hh=> ?_) (fun h106 hh=> ?_))))))))
 ·refine TC.a (TL.i z z (TL.en (TC.rt 0 (S.r ?_))))
  obtain rfl:=so hh
  exact rq [2] ⟨z,z,z⟩
 refine TC.skip (S.n (TC.cutG (α:=(Unit)×(Unit)) (rgs [(2,1),(31,13)]) (fun g=>[]) (fun g=>[Res.cells b101 #[.string (bs x0.front),.slice a0_0 x0.next.length c0_0,.slice a0_1 x0.outs.length c0_1,.slice a0_2 x0.fin.length c0_2,.slice a0_3 x0.tail.length c0_3] 32]) (fun g=>σ) (fun g=>Di_ x0=some r) ?_ (fun g j hg=> ?_)))
 ·skip
  refine TC.a (TL.w z (fieldLoc z fo32_0 z) (TL.w z (loadLoc z ag9 z (i:=0) z z) (TL.w z (lenBs z underlying9 z) (TL.w z (OpVal.gtr z z z) (TL.j z z (TL.split 35 z (fun h107=> ?_) (fun h107=> ?_)))))))
  ·replace hh:=iteO_t h107 hh
   replace h107:=of_decide_eq_true h107
   refine TL.f z (TL.f z (TL.f z (TL.f z (TL.f z (TL.f z (TL.f z (TL.w z (pickTB z z z) (TL.en (TC.t z (TC.a (TL.i z z (TL.en (TC.rt 0 (S.r ?_))))))))))))))
   obtain rfl:=so hh
   exact rq [2] ⟨z,z,z⟩
  replace hh:=iteO_f h107 hh
  replace h107:=of_decide_eq_false h107
  refine TL.g z (moveI (.inl z) z) (TL.g z (OpVal.eql z z z) (TL.g z (moveB (.inl z) z) (TL.split 38 z (fun h108=> ?_) (fun h108=> ?_))))
  ·replace hh:=iteO_t h108 hh
   replace h108:=of_decide_eq_true h108
   refine TL.g z (fieldLoc z fo32_0 z) (TL.g z (loadLoc z ag9 z (i:=0) z z) (TL.g z (neqBs z z z) (TL.g z (pickTB z z z) (TL.w z (pickFB z z z) (TL.en (TC.cD z hh (fun h109 hh=> ?_) (fun h109 hh=> ?_)))))))
   ·refine TC.a (TL.i z z (TL.en (TC.rt 0 (S.r ?_))))
    obtain rfl:=so hh
    exact rq [2] ⟨z,z,z⟩
   exact TC.skip (S.n (cf ((),()) hh (Sub.pre 1 z)))
  replace hh:=iteO_f h108 hh
  replace h108:=of_decide_eq_false h108
  exact TL.f z (TL.f z (TL.f z (TL.g z (pickFB z z z) (TL.w z (pickFB z z z) (TL.en (TC.f z (TC.skip (S.n (cf ((),()) hh (Sub.pre 1 z))))))))))
 skip
 obtain ⟨_,_⟩:=g
 have hh:=hg;clear hg
 try dsimp only
 dsimp only [Di_]at hh
 refine TC.seq (TC.a (TL.i z z (TL.i z z (TL.en (TC.block (TC.loopG (α:=(Nat)×(Unit)) (rgs [(2,1),(4,1),(45,40)]) (fun g=>[(45,.int .i64 ((g.1:Nat):Int))]) (fun g=>[Res.cells b101 #[.string (bs x0.front),.slice a0_0 x0.next.length c0_0,.slice a0_1 x0.outs.length c0_1,.slice a0_2 x0.fin.length c0_2,.slice a0_3 x0.tail.length c0_3] 32]) (fun g=>σ) (fun g=>iter (fun q:Nat=>B7_ x0 q) g.1=some r) (fun g=>rounds (fun q:Nat=>B7_ x0 q) g.1) (0,()) (Sub.pre 1 z) z (by repeat (first|exact trivial|refine ⟨z,?_⟩)) hh (fun g1 j1 hg1=> ?_)))))))
 obtain ⟨k112,_⟩:=g1
 have hh:=hg1;clear hg1
 try dsimp only
 obtain ⟨z1,hh,hR1⟩:=iter_e hh
 dsimp only [B7_]at hh
 refine TC.a (TL.w z (OpVal.lss z z z) (TL.en (TC.seq (TC.cD z hh (fun h113 hh=> ?_) (fun h113 hh=> ?_)))))
 ·refine TC.skip (S.n (TC.seq (TC.block (TC.a (TL.i z z (TL.i z z (TL.en (TC.cutG (α:=(Unit)×(Unit)) (rgs [(2,1),(48,23)]) (fun g=>[]) (fun g=>[Res.cells b101 #[.string (bs x0.front),.slice a0_0 x0.next.length c0_0,.slice a0_1 x0.outs.length c0_1,.slice a0_2 x0.fin.length c0_2,.slice a0_3 x0.tail.length c0_3] 32]) (fun g=>σ) (fun g=>B9_ k112 x0=some z1) ?_ (fun g j hg=> ?_)))))))))
  ·skip
   refine TC.a (TL.w z (fieldLoc z fo32_4 z) (TL.w z (loadLoc z ag30 z (i:=0) z z) (TL.i z z ?_)))
   have u53:=grd_c hh
   replace hh:=grd_t hh
   refine TL.w z (indexN z underlying30 sz9 z z f0_3.rv.sl (by omega)) (TL.w z (loadS1 ([]:List UInt8) z ag9 z f0_3 (by omega) z) (TL.w z (lenBs z underlying9 z) (TL.w z (OpVal.gtr z z z) (TL.j z z (TL.split 55 z (fun h114=> ?_) (fun h114=> ?_))))))
   ·replace hh:=iteO_t h114 hh
    replace h114:=of_decide_eq_true h114
    refine TL.f z (TL.f z (TL.f z (TL.f z (TL.f z (TL.f z (TL.f z (TL.f z (TL.f z (TL.f z (TL.f z (TL.f z (TL.f z (TL.f z (TL.w z (pickTB z z z) (TL.en ?_)))))))))))))))
    refine TC.t z (TC.a (TL.i z z (TL.en (TC.rt 0 (S.r (B.r (S.r (S.r ?_))))))))
    replace hh:=fin_x hR1 hh
    refine B.r (S.r ?_)
    obtain rfl:=so hh
    exact rq [2] ⟨z,z,z⟩
   replace hh:=iteO_f h114 hh
   replace h114:=of_decide_eq_false h114
   refine TL.g z (fieldLoc z fo32_3 z) (TL.g z (loadLoc z ag29 z (i:=0) z z) (TL.g z (moveI (.inl z) z) ?_))
   have u61:=grd_c hh
   replace hh:=grd_t hh
   refine TL.g z (indexN z underlying29 sz4 z z f0_2.rv.sl (by omega)) (TL.g z (loadS1 false z ag4 z f0_2 (by omega) z) (TL.g z (OpVal.not z z) (TL.g z (moveB (.inl z) z) (TL.split 62 z (fun h115=> ?_) (fun h115=> ?_)))))
   ·replace hh:=iteO_t h115 hh
    refine TL.g z (fieldLoc z fo32_4 z) (TL.g z (loadLoc z ag30 z (i:=0) z z) (TL.g z (moveI (.inl z) z) ?_))
    have u68:=grd_c hh
    replace hh:=grd_t hh
    refine TL.g z (indexN z underlying30 sz9 z z f0_3.rv.sl (by omega)) (TL.g z (loadS1 ([]:List UInt8) z ag9 z f0_3 (by omega) z) (TL.g z (neqBs z z z) (TL.g z (pickTB z z z) (TL.w z (pickFB z z z) (TL.en (TC.cD z hh (fun h116 hh=> ?_) (fun h116 hh=> ?_)))))))
    ·refine TC.a (TL.i z z (TL.en (TC.rt 0 (S.r (B.r (S.r (S.r ?_)))))))
     replace hh:=fin_x hR1 hh
     refine B.r (S.r ?_)
     obtain rfl:=so hh
     exact rq [2] ⟨z,z,z⟩
    exact TC.skip (S.n (cf ((),()) hh (Sub.pre 1 z)))
   replace hh:=iteO_f h115 hh
   exact TL.f z (TL.f z (TL.f z (TL.f z (TL.f z (TL.f z (TL.g z (pickFB z z z) (TL.w z (pickFB z z z) (TL.en (TC.f z (TC.skip (S.n (cf ((),()) hh (Sub.pre 1 z)))))))))))))
  skip
  obtain ⟨_,_⟩:=g
  have hh:=hg;clear hg
  try dsimp only
  dsimp only [B9_]at hh
  refine TC.seq ?_
  have u82:=grd_c hh
  replace hh:=grd_t hh
  obtain ⟨v85,u85,hh⟩:=bnd_e hh
  refine TC.draw [] (by kernel_rfl) (TA.a 0 z (fieldLoc z fo32_1 z) z (TA.b 1 z (loadLoc z ag27 z (i:=0) z z) z (TA.a 2 z (moveI (.inl z) z) z (TA.b 3 z (indexN z underlying27 sz86 z z f0_0.isSl (by omega)) z ?_))))
  obtain ⟨p119,hk119,hg119⟩:=RZ.seg f0_0 k112 (by omega)
  replace hk119:RS _ 1 eI_ (.slice p119.1 (nth x0.next k112 ([]:List Int)).length p119.2) (nth x0.next k112 ([]:List Int)):=hk119
  have hk119b:=hk119.rv.big
  refine TA.b 4 z (OpVal.of (loadSeg0 z ag86 z hg119 z) (v':= .slice p119.1 ((nth x0.next k112 ([]:List Int)).length) p119.2) z) z (TA.a 5 z (fieldLoc z fo32_2 z) z (TA.b 6 z (loadLoc z ag28 z (i:=0) z z) z (TA.a 7 z (moveI (.inl z) z) z (TA.b 8 z (indexN z underlying28 sz30 z z f0_1.isSl (by omega)) z ?_))))
  obtain ⟨p120,hk120,hg120⟩:=RZ.seg f0_1 k112 (by omega)
  replace hk120:RS _ 1 eS_ (.slice p120.1 (nth x0.outs k112 ([]:List (List UInt8))).length p120.2) (nth x0.outs k112 ([]:List (List UInt8))):=hk120
  have hk120b:=hk120.rv.big
  refine TA.b 9 z (OpVal.of (loadSeg0 z ag30 z hg120 z) (v':= .slice p120.1 ((nth x0.outs k112 ([]:List (List UInt8))).length) p120.2) z) z (TA.a 10 z (moveI (.inl z) z) z (TA.ac 11 z (callP (Gw_ hk119 hk120 u85) z z pf60 z z z (k0 ?_))))
  refine TA.a 12 z (OpVal.not z z) z (TA.dn (S.n (TC.cB z hh (fun h121 hh=> ?_) (fun h121 hh=> ?_))))
  ·refine TC.a (TL.i z z (TL.en (TC.rt 0 (B.r (S.r (S.r ?_))))))
   replace hh:=fin_x hR1 hh
   refine B.r (S.r ?_)
   obtain rfl:=so hh
   exact rq [2] ⟨z,z,z⟩
  refine TC.skip (B.n (S.n (TC.region (TL.w z (OpVal.succ z z z (by omega)) (TL.i z z (TL.en ?_))))))
  obtain ⟨hh,hlt122⟩:=nxt_x hR1 hh
  exact lf ((k112+1),()) hlt122 hh (Sub.pre 1 z)
 refine TC.exit (S.x (S.x ?_))
 replace hh:=fin_x hR1 hh
 refine TC.exitHere (S.n (TC.a (TL.i z z (TL.en (TC.rt 0 ?_)))))
 obtain rfl:=so hh
 exact rq [2] ⟨z,z,z⟩
def copyCheckF(x0:SB):Option (SB):=
 some (⟨x0.buf⟩:SB)
theorem copyCheckF_con{x0:SB}{r:SB}(hh:copyCheckF x0=some r):
  Con Tryz.prog 94 #[loc b0_0 0] σ [Res.cells b0_0 #[badV false b0_0,.slice a0_1 x0.buf.length c0_2] 92,Res.rowS 5 1 encU8 (.slice a0_1 x0.buf.length c0_2) x0.buf] (fun v σ' H'=> ∃(uo1:Bool), ∃ao2 co3,v= .tuple #[]∧σ=σ'∧H'=[Res.cells b0_0 #[badV uo1 b0_0,.slice ao2 r.buf.length co3] 92,Res.rowS 5 1 encU8 (.slice ao2 r.buf.length co3) r.buf]):=by
 dsimp only [copyCheckF]at hh
 refine Con.mk (n:=20) Tryz.func94 z z z (fun w0=> ?_)
 refine TC.a (TL.l z z (TL.w z (nilCheckLoc z z) (TL.w z (fieldLoc z fo92_0 z) (TL.w z (loadLoc z ag90 z (i:=0) z z) (TL.w z (eqlNil z underlying90 z z) (TL.en (TC.t z (TC.region (TL.l z z (TL.l z z (TL.w z (cvtUns z underlying90 underlying188 sz92 (by decide) z (i:=0) z z (by simp)) (TL.w z (noEsc z z Tryz.func133 (by kernel_rfl) (by kernel_rfl) (by kernel_rfl) (by kernel_rfl) z) (TL.w z (cvtPtr z underlying188 underlying90 sz92 z (i:=0) z z (by kernel_rfl)) (TL.w z (nilCheckLoc z z) (TL.w z (fieldLoc z fo92_0 z) ?_)))))))))))))))
 refine TL.op z (storeLoc z sz90 z z z z z ?_)
 refine TL.nil ?_
 obtain rfl:=so hh
 exact RetOk.mk' (rs:=[]) [Res.cells b0_0 #[badV true b0_0,.slice a0_1 x0.buf.length c0_2] 92,Res.rowS 5 1 encU8 (.slice a0_1 x0.buf.length c0_2) x0.buf] z (.inr z) RVs.nil (List.sublist_append_left _ _) ⟨true,a0_1,c0_2,z,z,z⟩
def copyCheckT(x0:SB):Option (SB):=
 some (⟨x0.buf⟩:SB)
theorem copyCheckT_con{x0:SB}{r:SB}(hh:copyCheckT x0=some r):
  Con Tryz.prog 94 #[loc b0_0 0] σ [Res.cells b0_0 #[badV true b0_0,.slice a0_1 x0.buf.length c0_2] 92,Res.rowS 5 1 encU8 (.slice a0_1 x0.buf.length c0_2) x0.buf] (fun v σ' H'=> ∃(uo1:Bool), ∃ao2 co3,v= .tuple #[]∧σ=σ'∧H'=[Res.cells b0_0 #[badV uo1 b0_0,.slice ao2 r.buf.length co3] 92,Res.rowS 5 1 encU8 (.slice ao2 r.buf.length co3) r.buf]):=by
 dsimp only [copyCheckT]at hh
 refine Con.mk (n:=20) Tryz.func94 z z z (fun w0=> ?_)
 refine TC.a (TL.l z z (TL.w z (nilCheckLoc z z) (TL.w z (fieldLoc z fo92_0 z) (TL.w z (loadLoc z ag90 z (i:=0) z z) (TL.w z (eqlNil z underlying90 z z) (TL.en (TC.f z (TC.a (TL.l z z (TL.w z (nilCheckLoc z z) (TL.w z (fieldLoc z fo92_0 z) (TL.w z (loadLoc z ag90 z (i:=0) z z) (TL.l z z (TL.w z (neqSelf z underlying90 sz92 z z) (TL.en ?_)))))))))))))))
 refine TC.f z (TC.skip ?_)
 obtain rfl:=so hh
 exact RetOk.mk' (rs:=[]) [Res.cells b0_0 #[badV true b0_0,.slice a0_1 x0.buf.length c0_2] 92,Res.rowS 5 1 encU8 (.slice a0_1 x0.buf.length c0_2) x0.buf] z (.inr z) RVs.nil (List.sublist_append_left _ _) ⟨true,a0_1,c0_2,z,z,z⟩
def copyCheck(x0:SB):Option SB:=copyCheckF x0
theorem copyCheck_con{x0:SB}{u0_1:Bool}{r:SB}(hh:copyCheck x0=some r):
  Con Tryz.prog 94 #[loc b0_0 0] σ [Res.cells b0_0 #[badV u0_1 b0_0,.slice a0_2 x0.buf.length c0_3] 92,Res.rowS 5 1 encU8 (.slice a0_2 x0.buf.length c0_3) x0.buf] (fun v σ' H'=> ∃(uo1:Bool), ∃ao2 co3,v= .tuple #[]∧σ=σ'∧H'=[Res.cells b0_0 #[badV uo1 b0_0,.slice ao2 r.buf.length co3] 92,Res.rowS 5 1 encU8 (.slice ao2 r.buf.length co3) r.buf]):=by
 cases u0_1
 ·exact copyCheckF_con hh
 exact copyCheckT_con hh
def writeS(x0:SB)(x1:List UInt8):Option (Int×Unit×SB):=
 grd (x1.length≤281474976710656) (bnd (copyCheck (⟨x0.buf⟩:SB)) (fun v4=>grd (v4.buf.length+x1.length≤140737488355328) (some (((x1.length:Nat):Int),(),(⟨(v4.buf++x1)⟩:SB)))))
theorem writeS_con{x0:SB}{u0_1:Bool}{x1:List UInt8}{r:Int×Unit×SB}(hh:writeS x0 x1=some r):
  Con Tryz.prog 53 #[loc b0_0 0,.string (bs x1)] σ [Res.cells b0_0 #[badV u0_1 b0_0,.slice a0_2 x0.buf.length c0_3] 92,Res.rowS 5 1 encU8 (.slice a0_2 x0.buf.length c0_3) x0.buf] (fun v σ' H'=> ∃(uo1:Bool), ∃ao2 co3,v= .tuple #[.int .i64 r.1,.nilIface]∧σ=σ'∧H'=[Res.cells b0_0 #[badV uo1 b0_0,.slice ao2 r.2.2.buf.length co3] 92,Res.rowS 5 1 encU8 (.slice ao2 r.2.2.buf.length co3) r.2.2.buf]):=by
 dsimp only [writeS]at hh
 refine Con.mk (n:=19) Tryz.func53 z z z (fun w0=> ?_)
 have x1b:=grd_c hh
 replace hh:=grd_t hh
 refine TC.a (TL.i z z (TL.w z (OpVal.mv (.inr z)) (TL.en (TC.a (TL.l z z (TL.front 1 z z (TL.front 1 z z ?_)))))))
 obtain ⟨v4,u4,hh⟩:=bnd_e hh
 refine TL.op z (OpOk.call (copyCheck_con u4) z z pf94 z z z z ?_)
 rintro _ _ _ hle104 ⟨u104_1,a104_2,c104_3,rfl,rfl,rfl⟩
 refine TL.en (TC.a (TL.l z z (TL.l z z (TL.w z (nilCheckLoc z z) (TL.w z (fieldLoc z fo92_1 z) (TL.w z (loadLoc z ag60 z (i:=0) z z) (TL.w z (moveStr (.inl z) z) (TL.front 1 z z ?_))))))))
 have u11:=grd_c hh
 replace hh:=grd_t hh
 refine TL.op z (appendStr z underlying60 underlying9 sz5 by5 ze5 z z z z u11 (fun a106 c107=> ?_))
 refine TL.w z (nilCheckLoc z z) (TL.w z (fieldLoc z fo92_1 z) (TL.front 1 z z (TL.op z (storeSl z sz60 z z z z z ?_))))
 refine TL.en (TC.a (TL.w z (moveStr (.inl z) z) (TL.w z (lenBs z underlying9 z) (TL.i z z (TL.w z (OpVal.mv (.inr z)) (TL.en (TC.ret ?_)))))))
 obtain rfl:=so hh
 exact ro [Res.cells b0_0 #[badV u104_1 b0_0,.slice a106 ((v4.buf++x1).length) c107] 92,Res.rowS 5 1 encU8 (.slice a106 (v4.buf++x1).length c107) (v4.buf++x1)] z (RVs.tmp z (RVs.tmp z RVs.nil)) ⟨u104_1,a106,c107,z,z,z⟩
def writeB(x0:SB)(x1:UInt8):Option (Unit×SB):=
 bnd (copyCheck (⟨x0.buf⟩:SB)) (fun v3=>grd ((v3.buf.length+[x1].length) * 1≤140737488355328) (some ((),(⟨(v3.buf++[x1])⟩:SB))))
theorem writeB_con{x0:SB}{u0_1:Bool}{x1:UInt8}{r:Unit×SB}(hh:writeB x0 x1=some r):
  Con Tryz.prog 151 #[loc b0_0 0,.int .u8 ((x1.toNat:Nat):Int)] σ [Res.cells b0_0 #[badV u0_1 b0_0,.slice a0_2 x0.buf.length c0_3] 92,Res.rowS 5 1 encU8 (.slice a0_2 x0.buf.length c0_3) x0.buf] (fun v σ' H'=> ∃(uo1:Bool), ∃ao2 co3,v= .nilIface∧σ=σ'∧H'=[Res.cells b0_0 #[badV uo1 b0_0,.slice ao2 r.2.buf.length co3] 92,Res.rowS 5 1 encU8 (.slice ao2 r.2.buf.length co3) r.2.buf]):=by
 dsimp only [writeB]at hh
 refine Con.mk (n:=17) Tryz.func151 z z z (fun w0=> ?_)
 refine TC.a (TL.w z (OpVal.mv (.inr z)) (TL.en (TC.a (TL.l z z (TL.front 1 z z (TL.front 1 z z ?_))))))
 obtain ⟨v3,u3,hh⟩:=bnd_e hh
 refine TL.op z (OpOk.call (copyCheck_con u3) z z pf94 z z z z ?_)
 rintro _ _ _ hle104 ⟨u104_1,a104_2,c104_3,rfl,rfl,rfl⟩
 refine TL.en (TC.a (TL.l z z (TL.l z z (TL.w z (nilCheckLoc z z) (TL.w z (fieldLoc z fo92_1 z) (TL.w z (loadLoc z ag60 z (i:=0) z z) (TL.i z z (TL.op z (OpOk.lit (enc:=encU8) [x1] z underlying60 sz5 ze5 z z z encU8_len (by decide) (by decide) (0:UInt8) z (by decide) z (by decide) encU8_one (fun a106 c107=> ?_))))))))))
 refine TL.front 2 z z ?_
 have u11:=grd_c hh
 replace hh:=grd_t hh
 refine TL.op z (appendS z z underlying60 sz5 by5 ze5 z z (by decide) z z z (.inr ⟨_,0,z⟩) (by simpa using u11) (by decide) (fun a109 c110=> ?_))
 refine TL.w z (nilCheckLoc z z) (TL.w z (fieldLoc z fo92_1 z) (TL.front 2 z z (TL.op z (storeSl z sz60 z z z z z ?_))))
 refine TL.en (TC.a (TL.w z (OpVal.mv (.inr z)) (TL.en (TC.ofSub (Sub.f [1,1] 2) (TC.ret ?_)))))
 obtain rfl:=so hh
 exact ro [Res.cells b0_0 #[badV u104_1 b0_0,.slice a109 ((v3.buf++[x1]).length) c110] 92,Res.rowS 5 1 encU8 (.slice a109 (v3.buf++[x1]).length c110) (v3.buf++[x1])] z (RVs.tmp z RVs.nil) ⟨u104_1,a109,c110,z,z,z⟩
def stringB(x0:SB):Option ((List UInt8)):=
 some x0.buf
theorem stringB_con{x0:SB}{u0_1:Bool}{r:(List UInt8)}(hh:stringB x0=some r):
  Con Tryz.prog 54 #[loc b0_0 0] σ [Res.cells b0_0 #[badV u0_1 b0_0,.slice a0_2 x0.buf.length c0_3] 92,Res.rowS 5 1 encU8 (.slice a0_2 x0.buf.length c0_3) x0.buf] (fun v σ' H'=>v= .string (bs r)∧σ=σ'∧H'=[]):=by
 dsimp only [stringB]at hh
 refine Con.mk (n:=14) Tryz.func54 z z z (fun w0=> ?_)
 refine TC.a (TL.w z (moveStr (.inr z) z) (TL.en (TC.seq (TC.drawR (Hr:=[Res.cells b0_0 #[badV u0_1 b0_0,.slice a0_2 x0.buf.length c0_3] 92]) (fun r hr=>mem_pick [0] z hr) [] (by kernel_rfl) (TA.a 0 z (moveLoc (.inl z) z) z (TA.a 1 z (nilCheckLoc z z) z (TA.a 2 z (fieldLoc z fo92_1 z) z (TA.b 3 z (loadLoc z ag60 z (i:=0) z z) z (TA.a 5 z (moveLoc (.inl z) z) z (TA.a 6 z (nilCheckLoc z z) z (TA.a 7 z (fieldLoc z fo92_1 z) z (TA.b 8 z (loadLoc z ag60 z (i:=0) z z) z (TA.b 9 z (lenC z underlying60 z) z (TA.front 1 z z (TA.ac 4 z (sliceDat z z underlying150 z z z (fun sq105 sh106=>(k1 ?_))))))))))))))))))
 refine TA.ac 10 z (unsStr z underlying150 ce5 z z z sh106 z (k0 ?_))
 refine TA.a 11 z (moveStr (.inr z) z) z (TA.dn (S.n (TC.rt 0 ?_)))
 obtain rfl:=so hh
 exact rq [2] ⟨z,z,z⟩
def Ca_(x1:List UInt8)(x0:Seq)(l126:List UInt8)(i129:Int)(k130:Nat):Option (((List UInt8)×Int×Nat)⊕((List UInt8)×Int×Bool×Int)):=
 iteO (decide (((k130:Nat):Int)<((x1.length:Nat):Int))) (grd (0≤i129∧i129<(x0.next.length:Int)) (grd ((nth x1 k130 (0:UInt8)).toNat<(nth x0.next i129.toNat ([]:List Int)).length) (iteO (decide ((nth (nth x0.next i129.toNat ([]:List Int)) ((nth x1 k130 (0:UInt8)).toNat) (0:Int))<0)) (fin (some (([]:List UInt8),((k130:Nat):Int),false,0))) (grd (0≤i129∧i129<(x0.outs.length:Int)) (grd ((nth x1 k130 (0:UInt8)).toNat<(nth x0.outs i129.toNat ([]:List (List UInt8))).length) (bnd (writeS (⟨l126⟩:SB) (nth (nth x0.outs i129.toNat ([]:List (List UInt8))) ((nth x1 k130 (0:UInt8)).toNat) ([]:List UInt8))) (fun v60=>nxt (v60.2.2.buf,(nth (nth x0.next i129.toNat ([]:List Int)) ((nth x1 k130 (0:UInt8)).toNat) (0:Int)),(k130+1))))))))) (fin (grd (0≤i129∧i129<(x0.fin.length:Int)) (iteO (!(nth x0.fin i129.toNat false)) (some (([]:List UInt8),((x1.length:Nat):Int),false,0)) (grd (0≤i129∧i129<(x0.tail.length:Int)) (bnd (writeS (⟨l126⟩:SB) (nth x0.tail i129.toNat ([]:List UInt8))) (fun v82=>bnd (stringB (⟨v82.2.2.buf⟩:SB)) (fun v83=>some (v83,((x1.length:Nat):Int),true,0))))))))
def Eb_(x0:Seq)(x1:List UInt8):Option ((List UInt8)×Int×Bool×Int):=
 grd (x1.length≤281474976710656) (bnd (Ey_ x0) (fun v7=>iteO (decide (v7≠0)) (some (([]:List UInt8),0,false,1)) (iteO (decide (((x0.next.length:Nat):Int)=0)) (some (([]:List UInt8),0,false,0)) (bnd (writeS (⟨([]:List UInt8)⟩:SB) x0.front) (fun v24=>iter (fun q:(List UInt8)×Int×Nat=>Ca_ x1 x0 q.1 q.2.1 q.2.2) (v24.2.2.buf,0,0))))))
theorem Gm_{x0:Seq}{x1:List UInt8}(f0_0:RZ σ (pkSl 1 eI_ eIl_) (.slice a0_0 x0.next.length c0_0) x0.next)(f0_1:RZ σ (pkSl 1 eS_ eSl_) (.slice a0_1 x0.outs.length c0_1) x0.outs)(f0_2:RS σ 1 encB (.slice a0_2 x0.fin.length c0_2) x0.fin)(f0_3:RS σ 1 eS_ (.slice a0_3 x0.tail.length c0_3) x0.tail){r:(List UInt8)×Int×Bool×Int}(hh:Eb_ x0 x1=some r):
  Con Tryz.prog 19 #[.agg #[.string (bs x0.front),.slice a0_0 x0.next.length c0_0,.slice a0_1 x0.outs.length c0_1,.slice a0_2 x0.fin.length c0_2,.slice a0_3 x0.tail.length c0_3],.string (bs x1)] σ [] (PureP (.tuple #[.string (bs r.1),.int .i64 r.2.1,.bool r.2.2.1,.int .i64 r.2.2.2]) σ):=by
 dsimp only [Eb_]at hh
 have f0_0b:=f0_0.big
 have f0_1b:=f0_1.big
 have f0_2b:=f0_2.rv.big
 have f0_3b:=f0_3.rv.big
 refine Con.mk (n:=70) Tryz.func19 z z z (fun w0=> ?_)
 have x1b:=grd_c hh
 replace hh:=grd_t hh
 refine TC.a (TL.op z (boxA z z z z (fun b101=> ?_)))
 refine TL.w z (moveStr (.inr z) z) (TL.i z z (TL.j z z (TL.i z z (TL.en (TC.seq (TC.a (TL.w z (loadAll z ag32 sz32 z (i:=0) z z) ?_)))))))
 obtain ⟨v7,u7,hh⟩:=bnd_e hh
 refine TL.op z (callP (Gn_ (x0:=x0) f0_0 f0_1 f0_2 f0_3 u7) z z pf23 z z z ?_)
 refine TL.w z (OpVal.neq z z z) (TL.en (TC.cD z hh (fun h103 hh=> ?_) (fun h103 hh=> ?_)))
 ·refine TC.a (TL.w z (moveStr (.inr z) z) (TL.i z z (TL.j z z (TL.i z z (TL.en (TC.rt 0 (S.r ?_)))))))
  obtain rfl:=so hh
  exact rq [4,5,6,7] ⟨z,z,z⟩
 refine TC.skip (S.n (TC.seq (TC.a (TL.w z (fieldLoc z fo32_1 z) (TL.w z (loadLoc z ag27 z (i:=0) z z) (TL.w z (lenC z underlying27 z) (TL.w z (OpVal.eql z z z) (TL.en (TC.cD z hh (fun h104 hh=> ?_) (fun h104 hh=> ?_))))))))))
 ·refine TC.a (TL.w z (moveStr (.inr z) z) (TL.i z z (TL.j z z (TL.i z z (TL.en (TC.rt 0 (S.r ?_)))))))
  obtain rfl:=so hh
  exact rq [4,5,6,7] ⟨z,z,z⟩
 refine TC.skip (S.n (TC.a (TL.op z (OpOk.alloc z ze92 z z (fun b105=> ?_)))))
 refine TL.asH (H':=[Res.cells b105 #[badV false b105,.slice none 0 0] 92,Res.cells b101 #[.string (bs x0.front),.slice a0_0 x0.next.length c0_0,.slice a0_1 x0.outs.length c0_1,.slice a0_2 x0.fin.length c0_2,.slice a0_3 x0.tail.length c0_3] 32]) z (TL.en (TC.a (TL.w z (fieldLoc z fo32_0 z) (TL.w z (loadLoc z ag9 z (i:=1) z z) (TL.nilS 5 1 encU8 (TL.front 1 z z ?_))))))
 obtain ⟨v24,u24,hh⟩:=bnd_e hh
 refine TL.op z (OpOk.call (writeS_con u24) z z pf53 z z z z ?_)
 rintro _ _ _ hle108 ⟨u108_1,a108_2,c108_3,rfl,rfl,rfl⟩
 refine TL.en (TC.a (TL.i z z (TL.en (TC.seq (TC.a (TL.w z (moveStr (.inl z) z) (TL.w z (lenBs z underlying9 z) (TL.i z z (TL.en (TC.block (TC.loopG (α:=((List UInt8)×Int×Nat)×(Bool×(Option Addr)×Nat)) (rgs [(4,4),(9,3),(24,29)]) (fun g=>[(9,.int .i64 g.1.2.1),(24,.int .i64 ((g.1.2.2:Nat):Int))]) (fun g=>[Res.cells b101 #[.string (bs x0.front),.slice a0_0 x0.next.length c0_0,.slice a0_1 x0.outs.length c0_1,.slice a0_2 x0.fin.length c0_2,.slice a0_3 x0.tail.length c0_3] 32,Res.cells b105 #[badV g.2.1 b105,.slice g.2.2.1 g.1.1.length g.2.2.2] 92,Res.rowS 5 1 encU8 (.slice g.2.2.1 g.1.1.length g.2.2.2) g.1.1]) (fun g=>σ) (fun g=>iter (fun q:(List UInt8)×Int×Nat=>Ca_ x1 x0 q.1 q.2.1 q.2.2) g.1=some r) (fun g=>rounds (fun q:(List UInt8)×Int×Nat=>Ca_ x1 x0 q.1 q.2.1 q.2.2) g.1) ((v24.2.2.buf,0,0),(u108_1,a108_2,c108_3)) (Sub.f [1,1,2] 3) z (by repeat (first|exact trivial|refine ⟨z,?_⟩)) hh (fun g1 j1 hg1=> ?_))))))))))))
 obtain ⟨⟨l126,i129,k130⟩,⟨u124,a127,c128⟩⟩:=g1
 have hh:=hg1;clear hg1
 try dsimp only
 obtain ⟨z1,hh,hR1⟩:=iter_e hh
 dsimp only [Ca_]at hh
 refine TC.isSl (i:=2) z (fun _ hb131 _=> ?_)
 refine TC.a (TL.w z (OpVal.lss z z z) (TL.en (TC.seq (TC.cD z hh (fun h132 hh=> ?_) (fun h132 hh=> ?_)))))
 ·refine TC.skip (S.n (TC.seq (TC.block (TC.a (TL.i z z (TL.i z z (TL.en (TC.seq ?_))))))))
  have u35:=grd_c hh
  replace hh:=grd_t hh
  have u40:=grd_c hh
  replace hh:=grd_t hh
  refine TC.draw [] (by kernel_rfl) (TA.a 0 z (fieldLoc z fo32_1 z) z (TA.b 1 z (loadLoc z ag27 z (i:=0) z z) z (TA.a 2 z (moveI (.inl z) z) z (TA.b 3 z (OpVal.index z underlying27 sz86 z z f0_0.isSl u35.1 u35.2) z ?_))))
  obtain ⟨p134,hk134,hg134⟩:=RZ.seg f0_0 i129.toNat (by omega)
  replace hk134:RS _ 1 eI_ (.slice p134.1 (nth x0.next i129.toNat ([]:List Int)).length p134.2) (nth x0.next i129.toNat ([]:List Int)):=hk134
  have hk134b:=hk134.rv.big
  refine TA.b 4 z (OpVal.of (loadSeg0 z ag86 z hg134 z) (v':= .slice p134.1 ((nth x0.next i129.toNat ([]:List Int)).length) p134.2) z) z (TA.a 5 z (moveStr (.inl z) z) z (TA.a 6 z (moveI (.inl z) z) z (TA.a 7 z (indexBs z underlying9 z z (by omega)) z (TA.b 8 z (indexN z underlying86 sz3 z z hk134.rv.sl (by omega)) z (TA.b 9 z (loadS1 (0:Int) z ag3 z hk134 (by omega) z) z (TA.a 10 z (moveI (.inr z) z) z (TA.dn (S.n (TC.seq (TC.a (TL.i z z (TL.w z (OpVal.lss z z z) (TL.en (TC.cD z hh (fun h135 hh=> ?_) (fun h135 hh=> ?_)))))))))))))))
  ·refine TC.a (TL.i z z (TL.w z (moveStr (.inr z) z) (TL.i z z (TL.j z z (TL.i z z (TL.en (TC.rt 0 (S.r (B.r (S.r (S.r ?_)))))))))))
   replace hh:=fin_x hR1 hh
   refine B.r (S.r ?_)
   obtain rfl:=so hh
   exact rq [4,5,6,7] ⟨z,z,z⟩
  refine TC.skip (S.n (TC.seq ?_))
  have u53:=grd_c hh
  replace hh:=grd_t hh
  have u58:=grd_c hh
  replace hh:=grd_t hh
  obtain ⟨v60,u60,hh⟩:=bnd_e hh
  refine TC.drawR (Hr:=[Res.cells b101 #[.string (bs x0.front),.slice a0_0 x0.next.length c0_0,.slice a0_1 x0.outs.length c0_1,.slice a0_2 x0.fin.length c0_2,.slice a0_3 x0.tail.length c0_3] 32]) (fun r hr=>mem_pick [0] z hr) [] (by kernel_rfl) (TA.a 0 z (fieldLoc z fo32_2 z) z (TA.b 1 z (loadLoc z ag28 z (i:=0) z z) z (TA.a 2 z (moveI (.inl z) z) z (TA.b 3 z (OpVal.index z underlying28 sz30 z z f0_1.isSl u53.1 u53.2) z ?_))))
  obtain ⟨p139,hk139,hg139⟩:=RZ.seg f0_1 i129.toNat (by omega)
  replace hk139:RS _ 1 eS_ (.slice p139.1 (nth x0.outs i129.toNat ([]:List (List UInt8))).length p139.2) (nth x0.outs i129.toNat ([]:List (List UInt8))):=hk139
  have hk139b:=hk139.rv.big
  refine TA.b 4 z (OpVal.of (loadSeg0 z ag30 z hg139 z) (v':= .slice p139.1 ((nth x0.outs i129.toNat ([]:List (List UInt8))).length) p139.2) z) z (TA.a 5 z (moveStr (.inl z) z) z (TA.a 6 z (moveI (.inl z) z) z (TA.a 7 z (indexBs z underlying9 z z (by omega)) z (TA.b 8 z (indexN z underlying30 sz9 z z hk139.rv.sl (by omega)) z (TA.b 9 z (loadS1 ([]:List UInt8) z ag9 z hk139 (by omega) z) z (TA.front 2 z z (TA.front 2 z z (TA.ac 10 z (OpOk.call (writeS_con u60) z z pf53 z z z z ?_)))))))))
  rintro _ _ _ hle140 ⟨u140_1,a140_2,c140_3,rfl,rfl,rfl⟩
  refine k2 (TA.dn (S.n (TC.region (TL.i z z (TL.i z z (TL.nil (B.n (S.n (TC.region (TL.w z (OpVal.succ z z z (by omega)) (TL.i z z (TL.en ?_))))))))))))
  obtain ⟨hh,hlt142⟩:=nxt_x hR1 hh
  exact lf ((v60.2.2.buf,(nth (nth x0.next i129.toNat ([]:List Int)) ((nth x1 k130 (0:UInt8)).toNat) (0:Int)),(k130+1)),(u140_1,a140_2,c140_3)) hlt142 hh (Sub.f [1,1,2] 3)
 refine TC.exit (S.x (S.x ?_))
 replace hh:=fin_x hR1 hh
 refine TC.exitHere (S.n (TC.seq (TC.a (TL.w z (fieldLoc z fo32_3 z) (TL.w z (loadLoc z ag29 z (i:=0) z z) (TL.i z z ?_))))))
 have u68:=grd_c hh
 replace hh:=grd_t hh
 refine TL.w z (OpVal.index z underlying29 sz4 z z f0_2.rv.sl u68.1 u68.2) (TL.w z (loadS1 false z ag4 z f0_2 (by omega) z) (TL.w z (OpVal.not z z) (TL.en (TC.cB z hh (fun h143 hh=> ?_) (fun h143 hh=> ?_)))))
 ·refine TC.a (TL.w z (moveStr (.inl z) z) (TL.w z (lenBs z underlying9 z) (TL.w z (moveStr (.inr z) z) (TL.i z z (TL.j z z (TL.i z z (TL.en (TC.rt 0 (S.r ?_)))))))))
  obtain rfl:=so hh
  exact rq [4,5,6,7] ⟨z,z,z⟩
 refine TC.skip (S.n (TC.a (TL.w z (fieldLoc z fo32_4 z) (TL.w z (loadLoc z ag30 z (i:=0) z z) (TL.i z z ?_)))))
 have u80:=grd_c hh
 replace hh:=grd_t hh
 refine TL.w z (OpVal.index z underlying30 sz9 z z f0_3.rv.sl u80.1 u80.2) (TL.w z (loadS1 ([]:List UInt8) z ag9 z f0_3 (by omega) z) (TL.front 2 z z (TL.front 2 z z ?_)))
 obtain ⟨v82,u82,hh⟩:=bnd_e hh
 refine TL.op z (OpOk.call (writeS_con u82) z z pf53 z z z z ?_)
 rintro _ _ _ hle144 ⟨u144_1,a144_2,c144_3,rfl,rfl,rfl⟩
 refine TL.en (TC.a (TL.front 1 z z (TL.front 1 z z ?_)))
 obtain ⟨v83,u83,hh⟩:=bnd_e hh
 refine TL.op z (OpOk.call (stringB_con u83) z z pf54 z z z z ?_)
 rintro _ _ _ hle146 ⟨rfl,rfl,rfl⟩
 refine TL.w z (moveStr (.inl z) z) (TL.w z (lenBs z underlying9 z) (TL.w z (moveStr (.inr z) z) (TL.i z z (TL.j z z (TL.i z z (TL.en (TC.rt 0 ?_)))))))
 obtain rfl:=so hh
 exact rq [4,5,6,7] ⟨z,z,z⟩
end Go.Proofs.YtchebnpdnfhenaaGreatDoor
end

noncomputable section
namespace Go.E
open Go
section
variable {α:Type} {σ:Store} {size m c:Nat} {enc:α→List Value} {a:Option Addr} {l:List α}
end
end Go.E
end

noncomputable section
namespace Go.E
open Go
theorem OpOk.storeFn{X:Ctx}{e:Env}{F:List Res}{o:Oper}{x y:Operand}{K:Env→Store→List Res→Prop}{T b k:Nat}{E:TypeId}{cs cs':Array Value}{f:Fn}{xs ys:Array Value}(ho:o.op= .store T x y)(hs:szOf X.P T=some 1)(hd:o.dst=none)(hx:ev e x=loc b k)(hfit:Nat.ble (k+1) cs.size=true)
    (hv:ev e y= .func f xs ys) (hcs:(splice cs.toList k [.func f xs ys]).toArray=cs') (kk:K e σ (Res.cells b cs' E::F)):OpOk X o e σ (Res.cells b cs E::F) K:=OpOk.store1 ho hs hd hx hv rfl rfl hfit hcs kk
def SC(σ:Store)(b:Nat)(cs:Array Value)(E:TypeId):Prop:=σ b=some (.cells cs E (0,0))
theorem SC.big{b:Nat}{cs:Array Value}{E:TypeId}(_:SC σ b cs E):True:=True.intro
end Go.E
end

noncomputable section
namespace Go.E
open Go
structure YSpec (S:Type) where
  R:S→Store→Res→Prop
  mono: ∀{s σ σ' r},R s σ r→σ.le σ'→R s σ' r
def YR{S:Type}(Z:YSpec S)(s:S)(σ:Store)(r:Res):Prop:=Z.R s σ r
theorem YR.mono{S:Type}{Z:YSpec S}{s:S}{σ σ':Store}{r:Res}(h:YR Z s σ r)(hle:σ.le σ'):YR Z s σ' r:=Z.mono h hle
def YOk (P : Program) (l : Nat) {S α : Type} (A : α → Store → List Value → Prop) (Z : YSpec S) (Y : S → α → Option (S × Bool)) : Prop :=
  ∀s x σ r args w s' b,Y s x=some (s',b)→A x σ args→YR Z s σ r→Reach w r.bl σ σ w [r]→
    YieldAt (fence none) 0 P l args.toArray w fun e w'=>e= .returned (.bool b)∧ ∃σ' r',YR Z s' σ' r'∧Reach w r.bl σ σ' w' [r']
def IterOk (P : Program) (f : FuncId) (lb : List Value) {S α : Type} (A : α → Store → List Value → Prop) (Y : S → α → Option (S × Bool)) (σ : Store) (Hc : List Res) (s s' : S) (Post : Store → List Res → Prop) : Prop :=
  ∀(l:Nat) (Z:YSpec S) (r:Res),YOk P l A Z Y→YR Z s σ r→
    Con P f (.func (.yield l) #[] #[]::lb).toArray σ (r::Hc) fun _ σ' H'=> ∃r' Hc',H'=r'::Hc'∧YR Z s' σ' r'∧Post σ' Hc'
theorem OpOk.callY{X:Ctx}{e:Env}{H F:List Res}{o:Oper}{x:Operand}{K:Env→Store→List Res→Prop}{l d:Nat}{opds:Array Operand}{ts:Array TypeId}{S α:Type}{A:α→Store→List Value→Prop}{Z:YSpec S}{Y:S→α→Option (S×Bool)}{s:S}{q:S×Bool}{v:α}{r:Res}
    (hY:YOk X.P l A Z Y) (hs:YR Z s σ r) (he:Y s v=some q) (ho:o.op= .call {callee:= .value x,args:=opds,argTypes:=ts})
    (hx:ev e x= .func (.yield l) #[] #[]) (hA:A v σ (opds.toList.map (ev e))) (hd:o.dst=some d) (hn:Nat.blt d X.n=true) (hH:r::F=H)
    (k: ∀σ' r',σ.le σ'→YR Z q.1 σ' r'→K (upd e d (.bool q.2)) σ' (r'::F)):OpOk X o e σ H K:=by
  subst hH
  obtain ⟨s',b⟩:=q
  intro u0 C0 τ0 w a hw ha K' Q hK
  have hbl:blks [r]=r.bl:=by simp [blks]
  have hself:Reach w r.bl σ σ w [r]:=by
    have:=(hw.sub (H':=[r]) (by simp)).self
    rwa [hbl]at this
  obtain ⟨fn,tmps,assign,body,hrun,hround⟩:=hY s v σ r _ w s' b he hA hs hself
  have hr:(execOp a.eval o).run X.P w= .ok (.round l fn tmps assign body) w:=by
    rw [ha.eval']
    have hl:(opds.toList.map (ev e)).toArray=opds.map (ev e):=by apply Array.ext';simp
    rw [hl]at hrun
    simp [execOp,ho,resolve,hx,Deferred.ofValue,invoke,hrun]
  refine Oper.wp_run hr (fun _=>by simp) ?_
  rw [Oper.uponIn_round]
  refine ⟨fun h=>(by cases h),RoundIn.mono (R:=fun e w'=>e= .returned (.bool b)∧ ∃σ' r',YR Z s' σ' r'∧Reach w r.bl σ σ' w' [r']) hround ?_⟩
  rintro ex w' ⟨rfl,σ',r',h1,h2⟩
  refine hK _ _ _ _ _ (k σ' r' h2.le h1) (Reach.call (H1:=[r]) (H1':=[r']) hw (by rw [hbl];exact h2)) (put_dst ha hd hn _)
def Res.lrec(b:Nat)(o:Obj):Res:=⟨[b],fun w=>w.heap[b]? =some o,fun w k hk h=>by simp at hk;subst hk;exact (Array.getElem?_eq_some_iff.1 h).1,fun w w' hb h=>by rw [hb b (by simp)];exact h⟩
theorem Reach.turnRec{w0:World}{C:List Nat}{σ0 σ:Store}{w:World}{l:Nat}{o o':Obj}{F:List Res}(h:Reach w0 C σ0 σ w (Res.lrec l o::F)):Reach w0 C σ0 σ (w.putObj l o') (Res.lrec l o'::F):=by
  have hl:w.heap[l]? =some o:=h.holds _ (List.mem_cons_self ..)
  refine h.turn rfl rfl rfl (by simp [World.putObj]) (Nat.le_refl _) (fun k _ hk=>World.putObj_heap_other (fun e=>hk (by simp [Res.lrec,e]))) (World.putObj_heap_same (Array.getElem?_eq_some_iff.1 hl).1) (fun b hb=> .inl hb) (by simp [Res.lrec])
theorem Reach.tail{w0:World}{C:List Nat}{σ0 σ:Store}{w:World}{r:Res}{F:List Res}(h:Reach w0 C σ0 σ w (r::F)):Reach w (blks F) σ σ w F:=(h.sub (List.sublist_cons_self ..)).self
theorem Reach.callT{w0:World}{C:List Nat}{σ0 σ σ':Store}{w w':World}{r:Res}{F F':List Res}(h:Reach w0 C σ0 σ w (r::F))(k:Reach w (blks F) σ σ' w' F'):Reach w0 C σ0 σ' w' (r::F'):=by
  have h1:Reach w0 C σ0 σ w (F++[r]):=h.perm (List.perm_append_singleton r F)
  exact (h1.call k).perm (List.perm_append_singleton r F').symm
def bindE(e:Env)(ps:List Tmp)(vs:List Value):Env:=(ps.zip vs).foldl (fun e p=>upd e p.1 p.2) e
theorem St.binds{n:Nat}: ∀(ps:List Tmp) (vs:List Value) {e:Env} {t:Array Value},(∀p∈ps,p<n)→St n e {tmps:=t,defers:=[]}→St n (bindE e ps vs) {tmps:=(ps.zip vs).foldl (fun t p=>t.setIfInBounds p.1 p.2) t,defers:=[]}
  |[],_,_,_,_,h=>h
  |_::_,[],_,_,_,h=>h
  |p::ps,v::vs,e,t,hp,h=>by
    have h1:=h.put (hp p (List.mem_cons_self ..)) v
    exact St.binds ps vs (fun q hq=>hp q (List.mem_cons_of_mem _ hq)) h1
@[reducible]def asgQ(K:Env→Store→List Res→Prop):QP:=fun ex=>match ex with
  | .normal=>K
  |_=>fun _ _ _=>False
@[reducible]def rndQ(J:List Code)(K:Nat→Store→List Res→Prop):QP:=fun ex _ σ H=>match ex with
  | .normal=>K 0 σ H
  | .ret=> ∃j,J[j]? =some .ret∧K (j+1) σ H
  | .exit i=> ∃j,J[j]? =some (.exit i)∧K (j+1) σ H
  | .goto i=> ∃j,J[j]? =some (.goto i)∧K (j+1) σ H
  |_=>False
def stepY{S α:Type}(B:S→α→Option (Nat×S))(p:Nat×S)(x:α):Option ((Nat×S)×Bool):=
  if p.1=0 then (B p.2 x).bind fun q=>some (q,q.1 == 0) else none
theorem stepY_some{S α:Type}{B:S→α→Option (Nat×S)}{p p':Nat×S}{x:α}{b:Bool}(h:stepY B p x=some (p',b)):p.1=0∧B p.2 x=some p'∧b=(p'.1 == 0):=by
  unfold stepY at h
  split at h
  · rename_i h0
    cases hb:B p.2 x with
    |none=>simp [hb]at h
    |some q=>simp [hb]at h;exact ⟨h0,by rw [h.1],by rw [←h.2,h.1]⟩
  cases h
abbrev mkRec(fn:FuncId)(tmps:Array Value)(ps:Array Tmp)(assign body:Code)(D:Nat)(st:LoopState)(pe:Option Code):Loop:={state:=st,pending:=pe,fn,tmps,params:=ps,assign,body,defers:=D}
def recOf(rec:LoopState→Option Code→Loop)(J:List Code)(j:Nat):Obj:= .loop (if j=0 then rec .ready none else rec .done (J[j - 1]?))
def rndZ{S:Type}(l:Nat)(rec:LoopState→Option Code→Loop)(J:List Code)(σs:Store)(G:S→Store→List Res→Prop)(hG: ∀{s σ σ' H},G s σ H→σ.le σ'→G s σ' H):YSpec (Nat×S) where
  R p σ r:= ∃Hs,r=Res.star (Res.lrec l (recOf rec J p.1)::Hs)∧G p.2 σ Hs∧σs.le σ∧(p.1≠0→ ∃c,J[p.1 - 1]? =some c)
  mono:=fun ⟨Hs,h1,h2,h3,h4⟩ hle=>⟨Hs,h1,hG h2 hle,h3.trans hle,h4⟩
theorem rec_far{w0:World}{C:List Nat}{σ0 σ:Store}{w:World}{l:Nat}{o:Obj}{F:List Res}(h:Reach w0 C σ0 σ w (Res.lrec l o::F)):l∉blks F∧σ l=none:=by
  have hn:=h.nodup
  simp only [blks,List.flatMap_cons,Res.lrec,List.cons_append,List.nil_append,List.nodup_cons]at hn
  exact ⟨hn.1,h.apart _ (List.mem_cons_self ..) l (by simp [Res.lrec])⟩
theorem yOk_of {P : Program} {n l : Nat} {S α : Type} {A : α → Store → List Value → Prop} {J : List Code} {B : S → α → Option (Nat × S)} {σs : Store} {G : S → Store → List Res → Prop} {hG : ∀ {s σ σ' H}, G s σ H → σ.le σ' → G s σ' H} {fn : FuncId} {ps : Array Tmp} {assign body : Code} {e : Env} {tmps : Array Value} {D : Nat}
    (hst:St n e {tmps:=tmps,defers:=[]}) (hps: ∀p∈ps.toList,p<n) (hA: ∀x σ vs,A x σ vs→vs.length=ps.size)
    (hbody: ∀(w0:World) (C:List Nat) (τ σ:Store) (s:S) (x:α) (q:Nat×S) (vs:List Value) (Hs:List Res),B s x=some q→σs.le σ→A x σ vs→G s σ Hs→
      TC ⟨P,w0,C,τ,n,some l,none⟩ (asgQ fun e σ H=> ∀w0 C τ,TC ⟨P,w0,C,τ,n,some l,none⟩ (rndQ J fun j σ H=>q.1=j∧G q.2 σ H) body e σ H) assign (bindE e ps.toList vs) σ Hs):
    YOk P l A (rndZ l (mkRec fn tmps ps assign body D) J σs G hG) (stepY B):=by
  rintro p x σ r args w p' b hy hax ⟨Hs,rfl,hg,hle, -⟩ hw
  obtain ⟨hp0,hB,rfl⟩:=stepY_some hy
  rw [hp0]at hw
  have hw1:Reach w (Res.star (Res.lrec l (recOf (mkRec fn tmps ps assign body D) J 0)::Hs)).bl σ σ w (Res.lrec l (.loop (mkRec fn tmps ps assign body D .ready none))::Hs):=by
    have:=hw.unstar
    rw [List.append_nil]at this
    exact this
  have hlen:=hA x σ args hax
  have hl1:w.heap[l]? =some (.loop (mkRec fn tmps ps assign body D .ready none)):=hw1.holds _ (List.mem_cons_self ..)
  have hy:=run_yield (P:=P) (args:=args.toArray) hl1 (by simpa using hlen)
  refine ⟨fn,_,assign,body,hy,roundIn_of_wpIn trivial ?_⟩
  have hz:(ps.zip args.toArray).foldl (fun t (p,v)=>t.setIfInBounds p v) tmps=(ps.toList.zip args).foldl (fun t p=>t.setIfInBounds p.1 p.2) tmps:=by
    rw [←Array.foldl_toList,Array.toList_zip]
  have hS:St n (bindE e ps.toList args) {tmps:=(ps.zip args.toArray).foldl (fun t (p,v)=>t.setIfInBounds p v) tmps,defers:=[]}:=by
    rw [hz];exact St.binds _ _ hps hst
  refine wpIn_mono (hbody w (blks Hs) σ σ p.2 x p' args Hs hB hle hax hg w _ ⟨hw1.tail,⟨fun _=>⟨[],rfl,List.nodup_nil,by simp⟩,(fun _ h=>by cases h),fun l' hl'=> ?_⟩⟩ hS) ?_
  · cases hl';exact ⟨rfl,⟨_,hl1⟩,(rec_far hw1).1,(rec_far hw1).2⟩
  rintro ex a2 w2 ⟨e2,σ2,H2,hS2,hw2,hq2⟩
  cases ex with
  |normal=>
    have hw2':=hw1.callT hw2.toReach
    have hl2:w2.heap[l]? =some (.loop (mkRec fn tmps ps assign body D .ready none)):=hw2'.holds _ (List.mem_cons_self ..)
    have hw3:=hw2'.turnRec (o':= .loop (mkRec fn tmps ps assign body D .busy none))
    have hl3:(w2.putObj l (.loop (mkRec fn tmps ps assign body D .busy none))).heap[l]? =some (.loop (mkRec fn tmps ps assign body D .busy none)):=hw3.holds _ (List.mem_cons_self ..)
    have hd2:a2.defers=[]:=(hw2.marks.rc l rfl).1
    refine ⟨_,run_beginRound hl2 rfl,?_⟩
    refine wpIn_mono (hq2 _ (blks H2) σ2 _ a2 ⟨hw3.tail,⟨fun _=>⟨[],by rw [hd2];rfl,List.nodup_nil,by simp⟩,(fun _ h=>by cases h),fun l' hl'=> ?_⟩⟩ hS2) ?_
    · cases hl';exact ⟨hd2,⟨_,hl3⟩,(rec_far hw3).1,(rec_far hw3).2⟩
    rintro ex a4 w4 ⟨e4,σ4,H4,hS4,hw4,hq4⟩
    have hw4':=hw3.callT hw4.toReach
    have hl4:w4.heap[l]? =some (.loop (mkRec fn tmps ps assign body D .busy none)):=hw4'.holds _ (List.mem_cons_self ..)
    have fin: ∀(jump:Option Code) (j:Nat),p'.1=j→(j=0→jump=none)→(j≠0→jump=J[j - 1]? ∧ ∃c,jump=some c)→G p'.2 σ4 H4→ ∃v w',(Instr.endRound l jump).run P w4= .ok v w'∧(Ending.returned v= .returned (.bool (p'.1 == 0))∧ ∃σ' r',YR (rndZ l (mkRec fn tmps ps assign body D) J σs G hG) p' σ' r'∧Reach w (Res.star (Res.lrec l (recOf (mkRec fn tmps ps assign body D) J p.1)::Hs)).bl σ σ' w' [r']):=fun jump j h1 h2 h3 h4=>by
      have h6:Obj.loop (mkRec fn tmps ps assign body D (if jump.isNone then .ready else .done) jump)=recOf (mkRec fn tmps ps assign body D) J p'.1:=by
        unfold recOf
        rw [h1]
        by_cases h0:j=0
        · rw [if_pos h0,h2 h0];rfl
        obtain ⟨h7,c,h8⟩:=h3 h0
        rw [if_neg h0,←h7,h8];rfl
      refine ⟨_,_,run_endRound jump hl4,?_,σ4,Res.star (Res.lrec l (recOf (mkRec fn tmps ps assign body D) J p'.1)::H4),⟨H4,rfl,h4,hle.trans hw4'.le,fun h=> ?_⟩,?_⟩
      · rw [h1]
        by_cases h0:j=0
        · rw [h2 h0,h0];rfl
        obtain ⟨_,c,hc⟩:=h3 h0
        rw [hc];simp [h0]
      · rw [h1]at h ⊢
        obtain ⟨h5,c,h6⟩:=h3 h
        exact ⟨c,by rw [←h5,h6]⟩
      have h5:=hw4'.turnRec (o':= .loop (mkRec fn tmps ps assign body D (if jump.isNone then .ready else .done) jump))
      show Reach w _ σ σ4 (w4.putObj l (.loop (mkRec fn tmps ps assign body D (if jump.isNone then .ready else .done) jump))) _
      rw [h6]at h5 ⊢
      rw [hp0]
      exact Reach.star (G:=Res.lrec l (recOf (mkRec fn tmps ps assign body D) J p'.1)::H4) (F:=[]) (by rw [List.append_nil];exact h5)
    cases ex with
    |normal=>exact fin none 0 hq4.1 (fun _=>rfl) (fun h=>absurd rfl h) hq4.2
    |ret=>obtain ⟨j,hj,h1,h2⟩:=hq4;exact fin (some .ret) (j+1) h1 (fun h=>by cases h) (fun _=>⟨by simpa using hj.symm,_,rfl⟩) h2
    |exit i=>obtain ⟨j,hj,h1,h2⟩:=hq4;exact fin (some (.exit i)) (j+1) h1 (fun h=>by cases h) (fun _=>⟨by simpa using hj.symm,_,rfl⟩) h2
    |goto i=>obtain ⟨j,hj,h1,h2⟩:=hq4;exact fin (some (.goto i)) (j+1) h1 (fun h=>by cases h) (fun _=>⟨by simpa using hj.symm,_,rfl⟩) h2
    |panic c=>exact hq4.elim
    |outgrown=>exact hq4.elim
  |exit i=>exact hq2.elim
  |goto i=>exact hq2.elim
  |ret=>exact hq2.elim
  |panic c=>exact hq2.elim
  |outgrown=>exact hq2.elim
@[reducible]def jmpQ(X:Ctx)(Q:QP)(J:List Code):Nat→Env→Store→List Res→Prop
  |0=>Q .normal
  |j+1=>fun e σ H=> ∀c,J[j]? =some c→TC X Q c e σ H
theorem TC.rangeFunc {X : Ctx} {Q : QP} {e : Env} {σ : Store} {H Hs Hc : List Res} {S α : Type} {g : Operand} {ps : Array Tmp} {assign body : Code} {f : Nat} {lb : List Value} {A : α → Store → List Value → Prop}
    (J:List Code) (B:S→α→Option (Nat×S)) (G:S→Store→List Res→Prop) {s:S} {q:Nat×S} {PostC:Store→List Res→Prop}
    (hg:ev e g= .func (.func f) #[] lb.toArray) (hp:plainF X.P f=true) (hH:Hs++Hc=H) (hps:ps.toList.all (fun p=>Nat.blt p X.n)=true)
    (hG: ∀{s σ σ' H},G s σ H→σ.le σ'→G s σ' H) (h0:G s σ Hs) (hA: ∀x σ vs,A x σ vs→vs.length=ps.size)
    (hit:IterOk X.P f lb A (stepY B) σ Hc (0,s) q PostC)
    (hbody: ∀(l:Nat) (w0:World) (C:List Nat) (τ σ':Store) (s:S) (x:α) (q:Nat×S) (vs:List Value) (Hs:List Res),B s x=some q→σ.le σ'→A x σ' vs→G s σ' Hs→
      TC ⟨X.P,w0,C,τ,X.n,some l,none⟩ (asgQ fun e σ H=> ∀w0 C τ,TC ⟨X.P,w0,C,τ,X.n,some l,none⟩ (rndQ J fun j σ H=>q.1=j∧G q.2 σ H) body e σ H) assign (bindE e ps.toList vs) σ' Hs)
    (hdone: ∀σ' Hs' Hc',σ.le σ'→G q.2 σ' Hs'→PostC σ' Hc'→jmpQ X Q J q.1 e σ' (Hs'++Hc')) (hown:X.own=none:=by rfl):TC X Q (.rangeFunc g ps assign body) e σ H:=by
  subst hH
  intro w a hw ha
  have hps': ∀p∈ps.toList,p<X.n:=fun p hp=>by
    have:=List.all_eq_true.1 hps p hp
    simpa [Nat.blt_eq]using this
  refine wpIn_rangeFunc fun fn _=> ?_
  have key: ∀(l D:Nat) (w1:World) (a1:Act),a1.tmps=a.tmps→RM X a1 σ w1 (Res.lrec l (.loop (mkRec fn a.tmps ps assign body D .ready none))::(Hs++Hc))→
      CallsIn (fence X.rnd) 0 X.P f (#[.func (.yield l) #[] #[]]++lb.toArray) w1 (rangePost (fence X.rnd) 0 X.P l (low X Q) a1):=by
    intro l D w1 a1 ht hw1
    have hcon:=hit l (rndZ l (mkRec fn a.tmps ps assign body D) J σ G hG) (Res.star (Res.lrec l (recOf (mkRec fn a.tmps ps assign body D) J 0)::Hs))
      (yOk_of ⟨ha.size,ha.get⟩ hps' hA (hbody l)) ⟨Hs,rfl,h0,Store.le.refl _,fun h=>absurd rfl h⟩
    have hst:RM X a1 σ w1 (Res.star (Res.lrec l (recOf (mkRec fn a.tmps ps assign body D) J 0)::Hs)::Hc):=hw1.by fun _ k=>Reach.star (G:=Res.lrec l (recOf (mkRec fn a.tmps ps assign body D) J 0)::Hs) (F:=Hc) k
    have hcall:=hcon w1 hst.self
    have hargs:(Value.func (.yield l) #[] #[]::lb).toArray= #[.func (.yield l) #[] #[]]++lb.toArray:=by apply Array.ext';simp
    rw [hargs]at hcall
    refine calls_fence.2 (hcall.mono ?_)
    rintro ex w2 ⟨v,σ2,H2,rfl,⟨r',Hc',rfl,⟨Hs',rfl,hg2,hle,hJ⟩,hpc⟩,hw2⟩
    have hw3:RM X a1 σ2 w2 (Res.lrec l (recOf (mkRec fn a.tmps ps assign body D) J q.1)::(Hs'++Hc')):=(hst.step hw2 rfl).by fun _ k=>k.unstar
    have hl:w2.heap[l]? =some (recOf (mkRec fn a.tmps ps assign body D) J q.1):=hw3.holds _ (List.mem_cons_self ..)
    have hS1:St X.n e a1:=⟨by rw [ht];exact ha.size,fun t=>by rw [ht];exact ha.get t⟩
    have hw5: ∀o',RM X a1 σ2 (w2.putObj l o') (Hs'++Hc'):=fun o'=>hw3.step ((hw3.self.turnRec (o':=o')).sub (List.sublist_cons_self ..)) rfl
    have hfin:=hdone σ2 Hs' Hc' hle hg2 hpc
    unfold recOf at hl
    cases hq:q.1 with
    |zero=>
      rw [hq]at hl hfin
      exact ⟨none,_,run_endLoop hl (by simp),e,σ2,_,hS1,hw5 _,hfin⟩
    |succ j=>
      rw [hq]at hl hfin hJ
      obtain ⟨c,hc⟩:=hJ (by simp)
      simp only [Nat.add_sub_cancel,Nat.succ_ne_zero,if_false]at hl hc
      rw [hc]at hl
      exact ⟨some c,_,run_endLoop hl (by simp),hfin c hc _ a1 (hw5 _) hS1⟩
  have hnew: ∀k,k<w.heap.size∨True:=fun _=> .inr trivial
  have hres: ∀l w1,(resolve a.eval (rangeCall g l) 0).run X.P w1= .ok {target:= .fn (.func f) lb.toArray,args:= #[.func (.yield l) #[] #[]]} w1:=fun l w1=>by
    rw [ha.eval']
    simp only [resolve,hg]
    simp [go_sem,Deferred.ofValue,ev]
  have hinv: ∀l w1,(invoke (.fn (.func f) lb.toArray) #[.func (.yield l) #[] #[]]).run X.P w1= .ok (.enter f (#[.func (.yield l) #[] #[]]++lb.toArray)) w1:=fun l w1=>by
    simp [invoke,run_callFunc hp]
  cases hr:X.rnd with
  |none=>
    refine ⟨w.heap.size+1,_,_,_,_,f,_,_,run_enterLoop_outer _ _ _ _ _,hres _ _,fun _ _=>trivial,hinv _ _,(fun h=>by cases h),hr▸key (w.heap.size+1) w.heap.size _ _ rfl ?_⟩
    have hsz:((w.alloc (.deferred (some []))).heap.size)=w.heap.size+1:=by simp
    have hold: ∀k,k<w.heap.size→((w.alloc (.deferred (some []))).alloc (.loop (mkRec fn a.tmps ps assign body w.heap.size .ready none))).heap[k]? =w.heap[k]? :=fun k hk=>by
      rw [alloc_old _ _ _ (by omega),alloc_old _ _ _ hk]
    have hR:Reach w (blks (Hs++Hc)) σ σ ((w.alloc (.deferred (some []))).alloc (.loop (mkRec fn a.tmps ps assign body w.heap.size .ready none))) (Res.lrec (w.heap.size+1) (.loop (mkRec fn a.tmps ps assign body w.heap.size .ready none))::(Hs++Hc)):=
      hw.self.gain rfl rfl rfl (by simp;omega) (Nat.le_refl _) hold (by
        have:=World.alloc_heap_new (w.alloc (.deferred (some []))) (.loop (mkRec fn a.tmps ps assign body w.heap.size .ready none))
        rw [hsz]at this;exact this) (fun b hb=>by simp [Res.lrec]at hb;omega) (by simp [Res.lrec])
    have h1:=hw.step hR (a':=a) rfl
    refine ⟨h1.toReach,⟨fun _=> ?_,(fun _ h=>by rw [hown]at h;cases h),fun l hl=>by rw [hr]at hl;cases hl⟩⟩
    obtain ⟨Ds,g1,g2,g3⟩:=h1.marks.ex hown
    obtain ⟨Ds0,g10,g20,g30⟩:=hw.marks.ex hown
    have hDs:Ds=Ds0:=by
      have:=g1.symm.trans g10
      have h2: ∀(A B:List Nat),A.map (fun D=>({target:= .collected D,args:= #[]}:Deferred))=B.map (fun D=>({target:= .collected D,args:= #[]}:Deferred))→A=B:=fun A=>by
        induction A with
        |nil=>intro B h;cases B with
          |nil=>rfl
          |cons b B=>simp at h
        |cons a A ih=>intro B h;cases B with
          |nil=>simp at h
          |cons b B=>simp only [List.map_cons,List.cons.injEq,Deferred.mk.injEq,Target.collected.injEq,and_true]at h;rw [h.1,ih B h.2]
      exact h2 _ _ this
    subst hDs
    refine ⟨w.heap.size::Ds,by simp [g1],List.nodup_cons.2 ⟨fun hx=> ?_,g2⟩,fun D hD=> ?_⟩
    · have:=(Array.getElem?_eq_some_iff.1 (g30 _ hx).1).1;omega
    rcases List.mem_cons.1 hD with rfl|hD
    · refine ⟨?_,hw.size,fun hx=> ?_,?_⟩
      · rw [alloc_old _ _ _ (by omega)];exact World.alloc_heap_new w _
      · simp only [blks,List.flatMap_cons,Res.lrec,List.cons_append,List.nil_append,List.mem_cons]at hx
        rcases hx with hx|hx
        · omega
        obtain ⟨r,hr',hb⟩:=mem_blks.1 hx
        have:=hw.block_lt hr' hb;omega
      cases hs:σ w.heap.size with
      |none=>rfl
      |some o=>have:=(Array.getElem?_eq_some_iff.1 (hw.fit _ _ hs)).1;omega
    exact g3 D hD
  |some l0=>
    obtain ⟨hd0,⟨r0,h1⟩,h2,h3⟩:=hw.marks.rc l0 hr
    refine ⟨w.heap.size,_,_,_,_,f,_,_,run_enterLoop_inner h1 _ _ _ _ _,hres _ _,fun _ _=>trivial,hinv _ _,(fun h=>by cases h),hr▸key w.heap.size r0.defers _ a rfl ?_⟩
    refine hw.step (hw.self.gain rfl rfl rfl (by simp) (Nat.le_refl _) (fun k hk=>alloc_old _ _ _ hk) (World.alloc_heap_new w _) (fun b hb=>by simp [Res.lrec]at hb;omega) (by simp [Res.lrec])) rfl
end Go.E
end

noncomputable section
namespace Go.E
open Go
theorem TC.rangeG{X:Ctx}{Q:QP}{e:Env}{H Hs Hc:List Res}{S α:Type}{g:Operand}{ps:Array Tmp}{assign body:Code}{f:Nat}{lb:List Value}{A:α→Store→List Value→Prop}
    (J:List Code) (B:S→α→Option (Nat×S)) (G:S→Store→List Res→Prop) {s:S} {q:Nat×S} {PostC:Store→List Res→Prop}
    (hg:ev e g= .func (.func f) #[] lb.toArray) (hp:plainF X.P f=true) (hH:Hs++Hc=H) (hps:ps.toList.all (fun p=>Nat.blt p X.n)=true)
    (hG: ∀{s σ σ' H},G s σ H→σ.le σ'→G s σ' H) (h0:G s σ Hs) (hA: ∀x σ vs,A x σ vs→vs.length=ps.size)
    (hit:IterOk X.P f lb A (stepY B) σ Hc (0,s) q PostC)
    (hbody: ∀(l:Nat) (w0:World) (C:List Nat) (τ σ':Store) (s:S) (x:α) (q:Nat×S) (vs:List Value) (Hs:List Res),B s x=some q→σ.le σ'→A x σ' vs→G s σ' Hs→
      TC ⟨X.P,w0,C,τ,X.n,some l,none⟩ (asgQ fun e σ H=> ∀w0 C τ,TC ⟨X.P,w0,C,τ,X.n,some l,none⟩ (rndQ J fun j σ H=>q.1=j∧ ∃F,Sub F H∧G q.2 σ F) body e σ H) assign (bindE e ps.toList vs) σ' Hs)
    (hdone: ∀σ' Hs' Hc',σ.le σ'→G q.2 σ' Hs'→PostC σ' Hc'→jmpQ X Q J q.1 e σ' (Hs'++Hc')) (hown:X.own=none:=by rfl):TC X Q (.rangeFunc g ps assign body) e σ H:=by
  refine TC.rangeFunc J B G hg hp hH hps hG h0 hA hit (fun l w0 C τ σ' s x q vs Hs h1 h2 h3 h4=>(hbody l w0 C τ σ' s x q vs Hs h1 h2 h3 h4).weak fun ex e σ H h=> ?_) hdone hown
  cases ex with
  |normal=>
    refine fun w0 C τ=>TC.weakR ((h w0 C τ).weak fun ex e σ H h=> ?_)
    cases ex with
    |normal=>obtain ⟨h1,F,hs,hg⟩:=h;exact ⟨F,hs,h1,hg⟩
    |ret=>obtain ⟨j,hj,h1,F,hs,hg⟩:=h;exact ⟨F,hs,j,hj,h1,hg⟩
    |exit i=>obtain ⟨j,hj,h1,F,hs,hg⟩:=h;exact ⟨F,hs,j,hj,h1,hg⟩
    |goto i=>obtain ⟨j,hj,h1,F,hs,hg⟩:=h;exact ⟨F,hs,j,hj,h1,hg⟩
    |panic c=>exact h.elim
    |outgrown=>exact h.elim
  |exit i=>exact h
  |goto i=>exact h
  |ret=>exact h
  |panic c=>exact h
  |outgrown=>exact h
theorem asg_n{K:Env→Store→List Res→Prop}{e:Env}{H:List Res}(h:K e σ H):asgQ K .normal e σ H:=h
theorem rnd_n{J:List Code}{K:Nat→Store→List Res→Prop}{e:Env}{H:List Res}(h:K 0 σ H):rndQ J K .normal e σ H:=h
def jsel{α:Type}:Nat→Option α→(Nat→Option α)→Option α
  |0,a,_=>a
  |n+1,_,b=>b n
theorem jmp_split{X:Ctx}{Q:QP}{J:List Code}{n:Nat}{e:Env}{H:List Res}{α:Type}{a:Option α}{b:Nat→Option α}{r:α}(hh:jsel n a b=some r)
    (h0:a=some r→Q .normal e σ H) (h1: ∀m c,b m=some r→J[m]? =some c→TC X Q c e σ H):jmpQ X Q J n e σ H:=by
  cases n with
  |zero=>exact h0 hh
  |succ m=>exact fun c hc=>h1 m c hh hc
theorem jl_nil{X:Ctx}{Q:QP}{c:Code}{m:Nat}{e:Env}{H:List Res}(hc:([]:List Code)[m]? =some c):TC X Q c e σ H:=by simp at hc
end Go.E
end

noncomputable section
namespace Go.Proofs.YtchebnpdnfhenaaGreatDoor
open Go Go.E Go.E.OpVal Go.E.OpOk Go.Proofs.Tryz
theorem ag147:aggOf Tryz.prog 147=some false:=by kernel_rfl
theorem by3:byOf Tryz.prog 3=some 8:=by kernel_rfl
theorem by86:byOf Tryz.prog 86=some 24:=by kernel_rfl
theorem pf122:plainF Tryz.prog 122=true:=by kernel_rfl
theorem pf123:plainF Tryz.prog 123=true:=by kernel_rfl
theorem pf152:plainF Tryz.prog 152=true:=by kernel_rfl
theorem pf56:plainF Tryz.prog 56=true:=by kernel_rfl
theorem pf85:plainF Tryz.prog 85=true:=by kernel_rfl
theorem pl66:plOf Tryz.prog 66=some #[(0,1),(1,1),(2,4),(6,1),(7,1)]:=by kernel_rfl
theorem pl76:plOf Tryz.prog 76=some #[(0,1),(1,1)]:=by kernel_rfl
theorem sz147:szOf Tryz.prog 147=some 1:=by kernel_rfl
theorem sz22:szOf Tryz.prog 22=some 1:=by kernel_rfl
theorem sz23:szOf Tryz.prog 23=some 1:=by kernel_rfl
theorem sz27:szOf Tryz.prog 27=some 1:=by kernel_rfl
theorem sz29:szOf Tryz.prog 29=some 1:=by kernel_rfl
theorem ze147:zeroOf Tryz.prog 147=some (.nilFunc):=by kernel_rfl
theorem ze27:zeroOf Tryz.prog 27=some (.slice none 0 0):=by kernel_rfl
theorem ze29:zeroOf Tryz.prog 29=some (.slice none 0 0):=by kernel_rfl
theorem ze86:zeroOf Tryz.prog 86=some (.slice none 0 0):=by kernel_rfl
def A7_(x2:List (List Int))(x0:Int)(self_:Int→(List Bool)→(List (List Int))→Option (List Bool))(l124:List Bool)(k127:Nat):Option (((List Bool)×Nat)⊕((List Bool))):=
 iteO (decide (((k127:Nat):Int)<(((nth x2 x0.toNat ([]:List Int)).length:Nat):Int))) (bnd (self_ (nth (nth x2 x0.toNat ([]:List Int)) k127 (0:Int)) l124 x2) (fun v21=>nxt (v21,(k127+1)))) (fin (some l124))
def Dd_(self_:Int→(List Bool)→(List (List Int))→Option (List Bool))(x0:Int)(x1:List Bool)(x2:List (List Int)):Option ((List Bool)):=
 grd (0≤x0∧x0<(x1.length:Int)) (iteO (nth x1 x0.toNat false) (some x1) (grd (0≤x0∧x0<(x1.length:Int)) (grd (0≤x0∧x0<(x2.length:Int)) (iter (fun q:(List Bool)×Nat=>A7_ x2 x0 self_ q.1 q.2) ((x1.set x0.toNat true),0)))))
def Bm_:Nat→Int→(List Bool)→(List (List Int))→Option (List Bool)
 |0=>fun _ _ _=>none
 |n+1=>Dd_ (Bm_ n)
theorem F2_ {self_:Int→(List Bool)→(List (List Int))→Option (List Bool)} (self__con: ∀{σ:Store} {x0:Int} {x1:List Bool} {b1_0:Nat} {Eb1:Nat} {a1_1:Option Addr} {c1_2:Nat} {x2:List (List Int)} {b2_0:Nat} {Eb2:Nat} {a2_1:Option Addr} {c2_2:Nat} {b3_0:Nat} {Eb3:Nat} (f2_3:RZ σ (pkSl 1 eI_ eIl_) (.slice a2_1 x2.length c2_2) x2) {r:(List Bool)} (hh:self_ x0 x1 x2=some r),
  Con Tryz.prog 152 #[.int .i64 x0,loc b1_0 0,loc b2_0 0,loc b3_0 0] σ [Res.cells b1_0 #[.slice a1_1 x1.length c1_2] Eb1,Res.rowS 4 1 encB (.slice a1_1 x1.length c1_2) x1,Res.cells b2_0 #[.slice a2_1 x2.length c2_2] Eb2,Res.cells b3_0 #[.func (.func 152) #[] #[loc b1_0 0,loc b2_0 0,loc b3_0 0]] Eb3] (fun v σ' H'=> ∃ao1 co2,v= .tuple #[]∧σ=σ'∧H'=[Res.cells b1_0 #[.slice ao1 r.length co2] Eb1,Res.rowS 4 1 encB (.slice ao1 r.length co2) r,Res.cells b2_0 #[.slice a2_1 x2.length c2_2] Eb2,Res.cells b3_0 #[.func (.func 152) #[] #[loc b1_0 0,loc b2_0 0,loc b3_0 0]] Eb3])) {σ:Store} {x0:Int} {x1:List Bool} {b1_0:Nat} {Eb1:Nat} {a1_1:Option Addr} {c1_2:Nat} {x2:List (List Int)} {b2_0:Nat} {Eb2:Nat} {a2_1:Option Addr} {c2_2:Nat} {b3_0:Nat} {Eb3:Nat} (f2_3:RZ σ (pkSl 1 eI_ eIl_) (.slice a2_1 x2.length c2_2) x2) {r:(List Bool)} (hh:Dd_ self_ x0 x1 x2=some r):
  Con Tryz.prog 152 #[.int .i64 x0,loc b1_0 0,loc b2_0 0,loc b3_0 0] σ [Res.cells b1_0 #[.slice a1_1 x1.length c1_2] Eb1,Res.rowS 4 1 encB (.slice a1_1 x1.length c1_2) x1,Res.cells b2_0 #[.slice a2_1 x2.length c2_2] Eb2,Res.cells b3_0 #[.func (.func 152) #[] #[loc b1_0 0,loc b2_0 0,loc b3_0 0]] Eb3] (fun v σ' H'=> ∃ao1 co2,v= .tuple #[]∧σ=σ'∧H'=[Res.cells b1_0 #[.slice ao1 r.length co2] Eb1,Res.rowS 4 1 encB (.slice ao1 r.length co2) r,Res.cells b2_0 #[.slice a2_1 x2.length c2_2] Eb2,Res.cells b3_0 #[.func (.func 152) #[] #[loc b1_0 0,loc b2_0 0,loc b3_0 0]] Eb3]):=by
 dsimp only [Dd_]at hh
 have f2_3b:=f2_3.big
 refine Con.mk (n:=27) Tryz.func152 z z z (fun w0=> ?_)
 refine TC.weakR (TC.seq (TC.a (TL.w z (loadLoc z ag29 z (i:=0) z z) (TL.i z z ?_))))
 have u3:=grd_c hh
 replace hh:=grd_t hh
 refine TL.isSl (i:=1) z (fun hs107 _ _=> ?_)
 refine TL.w z (OpVal.index z underlying29 sz4 z z hs107 u3.1 u3.2) (TL.w z (loadO1 false z ag4 z (q:=1) z encB_len (by omega) z) (TL.en (TC.cB z hh (fun h108 hh=> ?_) (fun h108 hh=> ?_))))
 ·refine TC.ret (S.r ?_)
  obtain rfl:=so hh
  refine ⟨_,Sub.f [3,3,3,3] 4,?_⟩
  exact ro [Res.cells b1_0 #[.slice a1_1 x1.length c1_2] Eb1,Res.rowS 4 1 encB (.slice a1_1 x1.length c1_2) x1,Res.cells b2_0 #[.slice a2_1 x2.length c2_2] Eb2,Res.cells b3_0 #[.func (.func 152) #[] #[loc b1_0 0,loc b2_0 0,loc b3_0 0]] Eb3] z RVs.nil ⟨a1_1,c1_2,z,z,z⟩
 refine TC.skip (S.n (TC.a (TL.w z (loadLoc z ag29 z (i:=0) z z) (TL.i z z ?_))))
 have u7:=grd_c hh
 replace hh:=grd_t hh
 refine TL.isSl (i:=1) z (fun hs109 _ _=> ?_)
 refine TL.w z (OpVal.index z underlying29 sz4 z z hs109 u7.1 u7.2) (TL.front 1 z z ?_)
 have hn110:(x1.set x0.toNat true).length=x1.length:=by rw [List.length_set]
 refine TL.op z (storeS true z sz4 z z z z encB_len encB_one (by omega) (by omega) ?_)
 refine TL.en (TC.a (TL.w z (loadLoc z ag27 z (i:=2) z z) (TL.i z z ?_)))
 have u11:=grd_c hh
 replace hh:=grd_t hh
 refine TL.w z (OpVal.index z underlying27 sz86 z z f2_3.isSl u11.1 u11.2) ?_
 obtain ⟨p111,hk111,hg111⟩:=RZ.seg f2_3 x0.toNat (by omega)
 replace hk111:RS _ 1 eI_ (.slice p111.1 (nth x2 x0.toNat ([]:List Int)).length p111.2) (nth x2 x0.toNat ([]:List Int)):=hk111
 have hk111b:=hk111.rv.big
 refine TL.w z (OpVal.of (loadSeg0 z ag86 z hg111 z) (v':= .slice p111.1 ((nth x2 x0.toNat ([]:List Int)).length) p111.2) z) (TL.w z (lenC z underlying86 z) (TL.i z z (TL.en (TC.block ?_))))
 rw [←hn110]
 refine TC.loopG (α:=((List Bool)×Nat)×((Option Addr)×Nat)) (rgs [(6,1),(19,8)]) (fun g=>[(19,.int .i64 ((g.1.2:Nat):Int))]) (fun g=>[Res.cells b3_0 #[.func (.func 152) #[] #[loc b1_0 0,loc b2_0 0,loc b3_0 0]] Eb3,Res.cells b1_0 #[.slice g.2.1 g.1.1.length g.2.2] Eb1,Res.rowS 4 1 encB (.slice g.2.1 g.1.1.length g.2.2) g.1.1,Res.cells b2_0 #[.slice a2_1 x2.length c2_2] Eb2]) (fun g=>σ) (fun g=>iter (fun q:(List Bool)×Nat=>A7_ x2 x0 self_ q.1 q.2) g.1=some r) (fun g=>rounds (fun q:(List Bool)×Nat=>A7_ x2 x0 self_ q.1 q.2) g.1) (((x1.set x0.toNat true),0),(a1_1,c1_2)) (Sub.f [2,1,2,3] 4) z (by repeat (first|exact trivial|refine ⟨z,?_⟩)) hh (fun g1 j1 hg1=> ?_)
 obtain ⟨⟨l124,k127⟩,⟨a125,c126⟩⟩:=g1
 have hh:=hg1;clear hg1
 try dsimp only
 obtain ⟨z1,hh,hR1⟩:=iter_e hh
 dsimp only [A7_]at hh
 refine TC.isSl (i:=2) z (fun _ hb128 _=> ?_)
 refine TC.a (TL.w z (OpVal.lss z z z) (TL.en (TC.seq (TC.cD z hh (fun h129 hh=> ?_) (fun h129 hh=> ?_)))))
 ·refine TC.skip (S.n (TC.seq (TC.block (TC.a (TL.w z (indexN z underlying86 sz3 z z hk111.rv.sl (by omega)) (TL.w z (loadS1 (0:Int) z ag3 z hk111 (by omega) z) (TL.i z z (TL.en (TC.region (TL.w z (loadLoc z ag147 z (i:=0) z z) (TL.i z z (TL.front 3 z z (TL.front 3 z z (TL.front 3 z z ?_))))))))))))))
  obtain ⟨v21,u21,hh⟩:=bnd_e hh
  refine TL.op z (OpOk.call (self__con f2_3 u21) z z pf152 z z z z ?_)
  rintro _ _ _ hle130 ⟨a130_1,c130_2,rfl,rfl,rfl⟩
  refine TL.nil (B.n (S.n (TC.region (TL.w z (OpVal.succ z z z (by omega)) (TL.i z z (TL.en ?_))))))
  obtain ⟨hh,hlt132⟩:=nxt_x hR1 hh
  exact lf ((v21,(k127+1)),(a130_1,c130_2)) hlt132 hh (Sub.f [2,2,2,3] 4)
 refine TC.exit (S.x (S.x ?_))
 replace hh:=fin_x hR1 hh
 refine TC.exitHere ?_
 obtain rfl:=so hh
 refine ⟨_,Sub.f [3,3,3] 4,?_⟩
 exact RetOk.mk' (rs:=[]) [Res.cells b1_0 #[.slice a125 l124.length c126] Eb1,Res.rowS 4 1 encB (.slice a125 l124.length c126) l124,Res.cells b2_0 #[.slice a2_1 x2.length c2_2] Eb2,Res.cells b3_0 #[.func (.func 152) #[] #[loc b1_0 0,loc b2_0 0,loc b3_0 0]] Eb3] z (.inr z) RVs.nil (List.sublist_append_left _ _) ⟨a125,c126,z,z,z⟩
theorem Ga_{n_:Nat}: ∀{σ:Store} {x0:Int} {x1:List Bool} {b1_0:Nat} {Eb1:Nat} {a1_1:Option Addr} {c1_2:Nat} {x2:List (List Int)} {b2_0:Nat} {Eb2:Nat} {a2_1:Option Addr} {c2_2:Nat} {b3_0:Nat} {Eb3:Nat} (f2_3:RZ σ (pkSl 1 eI_ eIl_) (.slice a2_1 x2.length c2_2) x2) {r:(List Bool)} (hh:Bm_ n_ x0 x1 x2=some r),
  Con Tryz.prog 152 #[.int .i64 x0,loc b1_0 0,loc b2_0 0,loc b3_0 0] σ [Res.cells b1_0 #[.slice a1_1 x1.length c1_2] Eb1,Res.rowS 4 1 encB (.slice a1_1 x1.length c1_2) x1,Res.cells b2_0 #[.slice a2_1 x2.length c2_2] Eb2,Res.cells b3_0 #[.func (.func 152) #[] #[loc b1_0 0,loc b2_0 0,loc b3_0 0]] Eb3] (fun v σ' H'=> ∃ao1 co2,v= .tuple #[]∧σ=σ'∧H'=[Res.cells b1_0 #[.slice ao1 r.length co2] Eb1,Res.rowS 4 1 encB (.slice ao1 r.length co2) r,Res.cells b2_0 #[.slice a2_1 x2.length c2_2] Eb2,Res.cells b3_0 #[.func (.func 152) #[] #[loc b1_0 0,loc b2_0 0,loc b3_0 0]] Eb3]):=by
 induction n_ with
 |zero=>intro σ x0 x1 b1_0 Eb1 a1_1 c1_2 x2 b2_0 Eb2 a2_1 c2_2 b3_0 Eb3 f2_3 r hh;exact absurd hh (by intro h_;cases h_)
 |succ k_ ih_=>
  intro σ x0 x1 b1_0 Eb1 a1_1 c1_2 x2 b2_0 Eb2 a2_1 c2_2 b3_0 Eb3 f2_3 r hh
  exact F2_ (self_:=Bm_ k_) @ih_ f2_3 hh
def Be_(x0:List Tip)(x1:List (List Int))(l121:List Bool)(k124:Nat):Option (((List Bool)×Nat)⊕((List Bool))):=
 iteO (decide (((k124:Nat):Int)<((x0.length:Nat):Int))) (bnd (Bm_ (l121.length+1) ((nth x0 k124 Tip.zero).state) l121 x1) (fun v22=>nxt (v22,(k124+1)))) (fin (some l121))
def Ds_(x0:List Tip)(x1:List (List Int)):Option ((List Bool)):=
 grd (1 * x1.length≤281474976710656) (iter (fun q:(List Bool)×Nat=>Be_ x0 x1 q.1 q.2) ((List.replicate x1.length false),0))
def Gk_(σ:Store)(r:(List Bool)):Value→Store→List Res→Prop:=fun v σ' H'=>
 ∃a1 c1,v= .slice a1 r.length c1∧σ=σ'∧H'=[Res.rowS 4 1 encB (.slice a1 r.length c1) r]
theorem Fd_{x0:List Tip}{x1:List (List Int)}(f0_0:RS σ 2 encTip (.slice a0_0 x0.length c0_0) x0)(f1_0:RZ σ (pkSl 1 eI_ eIl_) (.slice a1_0 x1.length c1_0) x1){r:(List Bool)}(hh:Ds_ x0 x1=some r):
  Con Tryz.prog 123 #[.slice a0_0 x0.length c0_0,.slice a1_0 x1.length c1_0] σ [] (Gk_ σ r):=by
 dsimp only [Ds_]at hh
 have f0_0b:=f0_0.rv.big
 have f1_0b:=f1_0.big
 refine Con.mk (n:=25) Tryz.func123 z z z (fun w0=> ?_)
 refine TC.a (TL.op z (OpOk.box z z z z (fun b101=> ?_)))
 refine TL.s z z (TL.en (TC.a (TL.w z (loadLoc z ag27 z (i:=0) z z) (TL.w z (lenC z underlying27 z) ?_))))
 have u5:=grd_c hh
 replace hh:=grd_t hh
 refine TL.op z (makeS2 (enc:=encB) false z underlying29 sz4 by4 ze4 z z z z (by omega) (by decide) encB_len (by decide) z encB_one (fun a103 c104=> ?_))
 refine TL.op z (OpOk.alloc z ze29 z z (fun b106=> ?_))
 refine TL.op z (storeSl z sz29 z z z z z ?_)
 refine TL.en (TC.a (TL.op z (OpOk.alloc z ze147 z z (fun b108=> ?_))))
 refine TL.en (TC.a (TL.w z (makeFn z) (TL.op z (storeFn z sz147 z z z z z ?_))))
 refine TL.en (TC.seq (TC.a (TL.s z z (TL.w z (lenC z underlying22 z) (TL.i z z (TL.en (TC.block (TC.loopG (α:=((List Bool)×Nat)×((Option Addr)×Nat)) (rgs [(8,1),(15,9)]) (fun g=>[(15,.int .i64 ((g.1.2:Nat):Int))]) (fun g=>[Res.cells b106 #[.slice g.2.1 g.1.1.length g.2.2] 29,Res.rowS 4 1 encB (.slice g.2.1 g.1.1.length g.2.2) g.1.1,Res.cells b108 #[.func (.func 152) #[] #[loc b106 0,loc b101 0,loc b108 0]] 147,Res.cells b101 #[.slice a1_0 x1.length c1_0] 27]) (fun g=>σ) (fun g=>iter (fun q:(List Bool)×Nat=>Be_ x0 x1 q.1 q.2) g.1=some r) (fun g=>rounds (fun q:(List Bool)×Nat=>Be_ x0 x1 q.1 q.2) g.1) (((List.replicate x1.length false),0),(a103,c104)) (Sub.f [3,1,3,3] 4) z (by repeat (first|exact trivial|refine ⟨z,?_⟩)) hh (fun g1 j1 hg1=> ?_)))))))))
 obtain ⟨⟨l121,k124⟩,⟨a122,c123⟩⟩:=g1
 have hh:=hg1;clear hg1
 try dsimp only
 obtain ⟨z1,hh,hR1⟩:=iter_e hh
 dsimp only [Be_]at hh
 refine TC.isSl (i:=1) z (fun _ hb125 _=> ?_)
 refine TC.a (TL.w z (OpVal.lss z z z) (TL.en (TC.seq (TC.cD z hh (fun h126 hh=> ?_) (fun h126 hh=> ?_)))))
 ·refine TC.skip (S.n (TC.seq (TC.block (TC.a (TL.w z (indexN z underlying22 sz76 z z f0_0.rv.sl (by omega)) (TL.w z (loadSA Tip.zero z ag76 sz76 z f0_0 (by omega) (by omega)) (TL.op z (OpOk.alloc z ze76 z z (fun b127=> ?_)))))))))
  refine TL.op z (storeAll z sz76 z z z z z z ?_)
  refine TL.en (TC.region (TL.w z (loadLoc z ag147 z (i:=3) z z) (TL.w z (fieldLoc z fo76_0 z) (TL.w z (loadLoc z ag3 z (i:=0) z z) (TL.front 3 z z (TL.front 4 z z (TL.front 4 z z (TL.front 4 z z ?_))))))))
  obtain ⟨v22,u22,hh⟩:=bnd_e hh
  refine TL.op z (OpOk.call (Ga_ f1_0 u22) z z pf152 z z z z ?_)
  rintro _ _ _ hle129 ⟨a129_1,c129_2,rfl,rfl,rfl⟩
  refine TL.nil (B.n (S.n (TC.region (TL.w z (OpVal.succ z z z (by omega)) (TL.i z z (TL.en ?_))))))
  obtain ⟨hh,hlt131⟩:=nxt_x hR1 hh
  exact lf ((v22,(k124+1)),(a129_1,c129_2)) hlt131 hh (Sub.f [2,3,3,3] 4)
 refine TC.exit (S.x (S.x ?_))
 replace hh:=fin_x hR1 hh
 refine TC.exitHere (S.n (TC.a (TL.w z (loadLoc z ag29 z (i:=0) z z) (TL.s z z (TL.en (TC.ofSub (Sub.f [1] 1) (TC.ret ?_)))))))
 obtain rfl:=so hh
 exact ro [Res.rowS 4 1 encB (.slice a122 l121.length c123) l121] z (RVs.tmp z RVs.nil) ⟨a122,c123,z,z,z⟩
def B2_{Sy:Type}(k125:Nat)(s134:Sy):Option ((Nat×Sy)⊕(Sy)):=
 nxt ((k125+1),s134)
def A3_{Sy:Type}(v4:(List Bool))(v8:(List Bool))(Y:Sy→Int→Option (Sy×Bool))(k125:Nat)(s126:Sy):Option ((Nat×Sy)⊕(Sy)):=
 iteO (decide (((k125:Nat):Int)<((v4.length:Nat):Int))) (iteO (nth v4 k125 false) (grd (k125<v8.length) (iteO (nth v8 k125 false) (bnd (Y s126 ((k125:Nat):Int)) (fun v30=>iteO (!v30.2) (fin (some v30.1)) (B2_ k125 v30.1))) (B2_ k125 s126))) (B2_ k125 s126)) (fin (some s126))
def Dj_{Sy:Type}(Y:Sy→Int→Option (Sy×Bool))(s0:Sy)(x1:Fst)(x2:List (List Int))(x3:List (List Int)):Option (Sy):=
 bnd (Ds_ x1.starts x2) (fun v4=>bnd (Ds_ x1.ends x3) (fun v8=>iter (fun q:Nat×Sy=>A3_ v4 v8 Y q.1 q.2) (0,s0)))
theorem F4_{Sy:Type}{Y:Sy→Int→Option (Sy×Bool)}{s0:Sy}{x1:Fst}{x2:List (List Int)}{x3:List (List Int)}(f1_3:RS σ 2 encTip (.slice a1_1 x1.starts.length c1_2) x1.starts)(f1_6:RS σ 2 encTip (.slice a1_4 x1.ends.length c1_5) x1.ends)(f1_9:RS σ 8 encArc (.slice a1_7 x1.arcs.length c1_8) x1.arcs)(f2_3:RZ σ (pkSl 1 eI_ eIl_) (.slice a2_1 x2.length c2_2) x2)(f3_3:RZ σ (pkSl 1 eI_ eIl_) (.slice a3_1 x3.length c3_2) x3){r:Sy}(hh:Dj_ Y s0 x1 x2 x3=some r):
  IterOk Tryz.prog 122 [loc b1_0 0,loc b2_0 0,loc b3_0 0] (fun (x:Int) _ vs=>vs=[.int .i64 x]) Y σ [Res.cells b1_0 #[.int .i64 x1.states,.slice a1_1 x1.starts.length c1_2,.slice a1_4 x1.ends.length c1_5,.slice a1_7 x1.arcs.length c1_8] Eb1,Res.cells b2_0 #[.slice a2_1 x2.length c2_2] Eb2,Res.cells b3_0 #[.slice a3_1 x3.length c3_2] Eb3] s0 r (fun σ' H'=>H'=[Res.cells b1_0 #[.int .i64 x1.states,.slice a1_1 x1.starts.length c1_2,.slice a1_4 x1.ends.length c1_5,.slice a1_7 x1.arcs.length c1_8] Eb1,Res.cells b2_0 #[.slice a2_1 x2.length c2_2] Eb2,Res.cells b3_0 #[.slice a3_1 x3.length c3_2] Eb3]):=by
 intro l Z ry0 hY hys
 dsimp only [Dj_]at hh
 have f1_3b:=f1_3.rv.big
 have f1_6b:=f1_6.rv.big
 have f1_9b:=f1_9.rv.big
 have f2_3b:=f2_3.big
 have f3_3b:=f3_3.big
 refine Con.mk (n:=38) Tryz.func122 z z z (fun w0=> ?_)
 refine TC.weakR (TC.seq ?_)
 obtain ⟨v4,u4,hh⟩:=bnd_e hh
 obtain ⟨v8,u8,hh⟩:=bnd_e hh
 refine TC.draw [] (by kernel_rfl) (TA.a 0 z (fieldLoc z fo25_1 z) z (TA.b 1 z (loadLoc z ag22 z (i:=1) z z) z (TA.b 2 z (loadLoc z ag27 z (i:=2) z z) z (TA.a 4 z (fieldLoc z fo25_2 z) z (TA.b 5 z (loadLoc z ag22 z (i:=1) z z) z (TA.b 6 z (loadLoc z ag27 z (i:=3) z z) z (TA.ac 3 z (OpOk.call (Fd_ f1_3 f2_3 u4) z z pf123 z z z z ?_))))))))
 rintro _ _ _ hle113 ⟨a113_1,c113_1,rfl,rfl,rfl⟩
 refine k1 (TA.ac 7 z (OpOk.call (Fd_ f1_6 f3_3 u8) z z pf123 z z z z ?_))
 rintro _ _ _ hle115 ⟨a115_1,c115_1,rfl,rfl,rfl⟩
 refine k2 (TA.a 8 z (moveSl (.inr z) z) z (TA.a 9 z (moveSl (.inr z) z) z (TA.dn (S.n (TC.a (TL.s z z (TL.w z (lenC z underlying29 z) (TL.i z z (TL.en (TC.block (TC.loopG (α:=(Nat×Sy)×(Res×Store)) (rgs [(7,1),(18,20)]) (fun g=>[(18,.int .i64 ((g.1.1:Nat):Int))]) (fun g=>[Res.rowS 4 1 encB (.slice a113_1 v4.length c113_1) v4,Res.rowS 4 1 encB (.slice a115_1 v8.length c115_1) v8,Res.cells b1_0 #[.int .i64 x1.states,.slice a1_1 x1.starts.length c1_2,.slice a1_4 x1.ends.length c1_5,.slice a1_7 x1.arcs.length c1_8] Eb1,Res.cells b2_0 #[.slice a2_1 x2.length c2_2] Eb2,Res.cells b3_0 #[.slice a3_1 x3.length c3_2] Eb3,g.2.1]) (fun g=>g.2.2) (fun g=>iter (fun q:Nat×Sy=>A3_ v4 v8 Y q.1 q.2) g.1=some r∧YR Z g.1.2 g.2.2 g.2.1∧Store.le σ g.2.2) (fun g=>rounds (fun q:Nat×Sy=>A3_ v4 v8 Y q.1 q.2) g.1) ((0,s0),(ry0,σ)) (Sub.f [2,5,5,5,4,5] 6) z (by repeat (first|exact trivial|refine ⟨z,?_⟩)) ⟨hh,hys,(Store.le.refl _)⟩ (fun g1 j1 hg1=> ?_))))))))))))
 obtain ⟨⟨k125,s126⟩,⟨ry127,τ129⟩⟩:=g1
 obtain ⟨hh,hy128,hle130⟩:=hg1
 try dsimp only at hy128 hle130 ⊢
 obtain ⟨z1,hh,hR1⟩:=iter_e hh
 dsimp only [A3_]at hh
 skip
 refine TC.isSl (i:=0) z (fun _ hb131 _=> ?_)
 refine TC.isSl (i:=1) z (fun _ hb132 _=> ?_)
 refine TC.a (TL.w z (OpVal.lss z z z) (TL.en (TC.seq (TC.cD z hh (fun h133 hh=> ?_) (fun h133 hh=> ?_)))))
 ·refine TC.skip (S.n (TC.cutG (α:=(Sy)×(Res×Store)) (rgs [(7,1),(20,17)]) (fun g=>[]) (fun g=>[Res.rowS 4 1 encB (.slice a113_1 v4.length c113_1) v4,Res.rowS 4 1 encB (.slice a115_1 v8.length c115_1) v8,Res.cells b1_0 #[.int .i64 x1.states,.slice a1_1 x1.starts.length c1_2,.slice a1_4 x1.ends.length c1_5,.slice a1_7 x1.arcs.length c1_8] Eb1,Res.cells b2_0 #[.slice a2_1 x2.length c2_2] Eb2,Res.cells b3_0 #[.slice a3_1 x3.length c3_2] Eb3,g.2.1]) (fun g=>g.2.2) (fun g=>B2_ k125 g.1=some z1∧YR Z g.1 g.2.2 g.2.1∧Store.le τ129 g.2.2) ?_ (fun g j hg=> ?_)))
  ·skip
   refine TC.block (TC.a (TL.i z z (TL.i z z (TL.en (TC.a (TL.s z z (TL.i z z (TL.isSl (i:=0) z (fun hs137 _ _=> ?_)))))))))
   refine TL.w z (indexN z underlying29 sz4 z z hs137 (by omega)) (TL.w z (loadO1 false z ag4 z (q:=0) z encB_len (by omega) z) (TL.j z z (TL.split 25 z (fun h138=> ?_) (fun h138=> ?_))))
   ·replace hh:=iteO_t h138 hh
    refine TL.g z (moveSl (.inl z) z) (TL.g z (moveI (.inl z) z) ?_)
    have u24:=grd_c hh
    replace hh:=grd_t hh
    refine TL.isSl (i:=1) z (fun hs139 _ _=> ?_)
    refine TL.g z (indexN z underlying29 sz4 z z hs139 (by omega)) (TL.g z (loadO1 false z ag4 z (q:=1) z encB_len (by omega) z) (TL.w z (pickTB z z z) (TL.j z z (TL.split 31 z (fun h140=> ?_) (fun h140=> ?_)))))
    ·replace hh:=iteO_t h140 hh
     refine TL.g z (OpVal.mv (.inl z)) (TL.g z (moveI (.inl z) z) ?_)
     obtain ⟨v30,u30,hh⟩:=bnd_e hh
     refine TL.front 5 z z (TL.gon z z z z z (callY hY hy128 u30 z z z z z z ?_))
     rintro τ141 ry141 hle141 hy141
     refine TL.g z (OpVal.not z z) (TL.w z (pickTB z z z) (TL.en (TC.cB z hh (fun h142 hh=> ?_) (fun h142 hh=> ?_))))
     ·refine TC.ofSub (Sub.f [5,5,5,3] 4) (TC.ret (B.r (S.r (S.r ?_))))
      replace hh:=fin_x hR1 hh
      refine B.r ?_
      obtain rfl:=so hh
      refine ⟨_,Sub.f [3,3,3,3] 4,?_⟩
      exact ro [ry141,Res.cells b1_0 #[.int .i64 x1.states,.slice a1_1 x1.starts.length c1_2,.slice a1_4 x1.ends.length c1_5,.slice a1_7 x1.arcs.length c1_8] Eb1,Res.cells b2_0 #[.slice a2_1 x2.length c2_2] Eb2,Res.cells b3_0 #[.slice a3_1 x3.length c3_2] Eb3] z RVs.nil ⟨_,_,z,hy141,z⟩
     exact TC.skip (B.n (S.n (cf (v30.1,(ry141,τ141)) ⟨hh,hy141,hle141⟩ (Sub.f [5,5,5,5,5] 6))))
    replace hh:=iteO_f h140 hh
    exact TL.f z (TL.f z (TL.f z (TL.f z (TL.w z (pickFB z z z) (TL.en (TC.f z (TC.skip (B.n (S.n (cf (s126,(ry127,τ129)) ⟨hh,hy128,(Store.le.refl _)⟩ (Sub.f [5,5,5,5,5,5] 6)))))))))))
   replace hh:=iteO_f h138 hh
   refine TL.f z (TL.f z (TL.f z (TL.f z (TL.w z (pickFB z z z) (TL.j z z (TL.f z (TL.f z (TL.f z (TL.f z (TL.w z (pickFB z z z) (TL.en (TC.f z (TC.skip (B.n (S.n ?_)))))))))))))))
   exact cf (s126,(ry127,τ129)) ⟨hh,hy128,(Store.le.refl _)⟩ (Sub.f [5,5,5,5,5,5] 6)
  skip
  obtain ⟨s134,⟨ry135,τ143⟩⟩:=g
  obtain ⟨hh,hy136,hle144⟩:=hg
  try dsimp only at hy136
  dsimp only at hle144
  replace hy128:=hy128.mono hle144
  try dsimp only
  dsimp only [B2_]at hh
  skip
  refine TC.isSl (i:=0) z (fun _ hb145 _=> ?_)
  refine TC.isSl (i:=1) z (fun _ hb146 _=> ?_)
  refine TC.region (TL.w z (OpVal.succ z z z (by omega)) (TL.i z z (TL.en ?_)))
  obtain ⟨hh,hlt147⟩:=nxt_x hR1 hh
  exact lf (((k125+1),s134),(ry135,τ143)) hlt147 ⟨hh,hy136,(hle130.trans hle144)⟩ (Sub.f [5,5,5,5,5,5] 6)
 refine TC.exit (S.x (S.x ?_))
 replace hh:=fin_x hR1 hh
 refine TC.exitHere ?_
 obtain rfl:=so hh
 refine ⟨_,Sub.f [4,4,4,5] 4,?_⟩
 exact RetOk.mk' (rs:=[]) [ry127,Res.cells b1_0 #[.int .i64 x1.states,.slice a1_1 x1.starts.length c1_2,.slice a1_4 x1.ends.length c1_5,.slice a1_7 x1.arcs.length c1_8] Eb1,Res.cells b2_0 #[.slice a2_1 x2.length c2_2] Eb2,Res.cells b3_0 #[.slice a3_1 x3.length c3_2] Eb3] z (.inr z) RVs.nil (List.sublist_append_left _ _) ⟨_,_,z,hy128,z⟩
def Dw_(l387:List (List Int))(x0:Fst)(k394:Nat)(l391:List (List Int)):Option (((List (List Int))×(List (List Int))×Nat)⊕((Fst×(List (List Int))×(List (List Int))))):=
 nxt ((l387.set (((nth x0.arcs k394 Arc.zero).frm).toNat) ((nth l387 (((nth x0.arcs k394 Arc.zero).frm).toNat) ([]:List Int))++[(nth x0.arcs k394 Arc.zero).to])),(l391.set (((nth x0.arcs k394 Arc.zero).to).toNat) ((nth l391 (((nth x0.arcs k394 Arc.zero).to).toNat) ([]:List Int))++[(nth x0.arcs k394 Arc.zero).frm])),(k394+1))
def Dx_(x0:Fst)(k394:Nat)(l391:List (List Int))(l387:List (List Int)):Option (((List (List Int))×(List (List Int))×Nat)⊕((Fst×(List (List Int))×(List (List Int))))):=
 grd (0≤((nth x0.arcs k394 Arc.zero).to)∧((nth x0.arcs k394 Arc.zero).to)<(l391.length:Int)) (grd (((nth l391 (((nth x0.arcs k394 Arc.zero).to).toNat) ([]:List Int)).length+[(nth x0.arcs k394 Arc.zero).frm].length) * 8≤140737488355328) (grd (0≤((nth x0.arcs k394 Arc.zero).to)∧((nth x0.arcs k394 Arc.zero).to)<(l391.length:Int)) (Dw_ l387 x0 k394 l391)))
def Bb_(x0:Fst)(l387:List (List Int))(l391:List (List Int))(k394:Nat):Option (((List (List Int))×(List (List Int))×Nat)⊕((Fst×(List (List Int))×(List (List Int))))):=
 iteO (decide (((k394:Nat):Int)<((x0.arcs.length:Nat):Int))) (grd (0≤((nth x0.arcs k394 Arc.zero).frm)∧((nth x0.arcs k394 Arc.zero).frm)<(l387.length:Int)) (grd (((nth l387 (((nth x0.arcs k394 Arc.zero).frm).toNat) ([]:List Int)).length+[(nth x0.arcs k394 Arc.zero).to].length) * 8≤140737488355328) (grd (0≤((nth x0.arcs k394 Arc.zero).frm)∧((nth x0.arcs k394 Arc.zero).frm)<(l387.length:Int)) (Dx_ x0 k394 l391 l387)))) (fin (some (x0,l387,l391)))
def Dy_(x0:Fst):Option ((Fst×(List (List Int))×(List (List Int)))):=
 iter (fun q:(List (List Int))×(List (List Int))×Nat=>Bb_ x0 q.1 q.2.1 q.2.2) ((List.replicate x0.states.toNat ([]:List Int)),(List.replicate x0.states.toNat ([]:List Int)),0)
def D2_(x0:Fst):Option ((Fst×(List (List Int))×(List (List Int)))):=
 grd (0≤x0.states∧24 * x0.states.toNat≤281474976710656) (grd (0≤x0.states∧24 * x0.states.toNat≤281474976710656) (Dy_ x0))
theorem Gc_{x0:Fst}(f0_0:RS σ 2 encTip (.slice a0_0 x0.starts.length c0_0) x0.starts)(f0_1:RS σ 2 encTip (.slice a0_1 x0.ends.length c0_1) x0.ends)(f0_2:RS σ 8 encArc (.slice a0_2 x0.arcs.length c0_2) x0.arcs){r:(Fst×(List (List Int))×(List (List Int)))}(hh:D2_ x0=some r):
  Con Tryz.prog 85 #[.agg #[.int .i64 x0.states,.slice a0_0 x0.starts.length c0_0,.slice a0_1 x0.ends.length c0_1,.slice a0_2 x0.arcs.length c0_2]] σ [] (fun v σ' H'=> ∃br10 ar1 cr2 ar4 cr5 ar7 cr8 br14 ar11 cr12 br18 ar15 cr16,v= .func (.func 122) #[] #[loc br10 0,loc br14 0,loc br18 0]∧RS σ' 2 encTip (.slice ar1 r.1.starts.length cr2) r.1.starts∧RS σ' 2 encTip (.slice ar4 r.1.ends.length cr5) r.1.ends∧RS σ' 8 encArc (.slice ar7 r.1.arcs.length cr8) r.1.arcs∧RZ σ' (pkSl 1 eI_ eIl_) (.slice ar11 r.2.1.length cr12) r.2.1∧RZ σ' (pkSl 1 eI_ eIl_) (.slice ar15 r.2.2.length cr16) r.2.2∧H'=[Res.cells br10 #[.int .i64 r.1.states,.slice ar1 r.1.starts.length cr2,.slice ar4 r.1.ends.length cr5,.slice ar7 r.1.arcs.length cr8] 25,Res.cells br14 #[.slice ar11 r.2.1.length cr12] 27,Res.cells br18 #[.slice ar15 r.2.2.length cr16] 27]):=by
 dsimp only [D2_]at hh
 have f0_0b:=f0_0.rv.big
 have f0_1b:=f0_1.rv.big
 have f0_2b:=f0_2.rv.big
 refine Con.mk (n:=48) Tryz.func85 z z z (fun w0=> ?_)
 refine TC.a (TL.op z (boxA z z z z (fun b109=> ?_)))
 refine TL.w z (OpVal.mv (.inr z)) (TL.en (TC.cutG (α:=(Unit)×(Nat×(Option Addr)×Nat×Nat×(Option Addr)×Nat)) (rgs [(3,2),(7,6)]) (fun g=>[(3,loc g.2.1 0),(4,loc g.2.2.2.2.1 0)]) (fun g=>[Res.cells b109 #[.int .i64 x0.states,.slice a0_0 x0.starts.length c0_0,.slice a0_1 x0.ends.length c0_1,.slice a0_2 x0.arcs.length c0_2] 25,Res.cells g.2.1 #[.slice g.2.2.1 ((List.replicate x0.states.toNat ([]:List Int)).length) g.2.2.2.1] 27,Res.nest 86 3 1 eI_ (.slice g.2.2.1 (List.replicate x0.states.toNat ([]:List Int)).length g.2.2.2.1) (List.replicate x0.states.toNat (nilN:NP Int)),Res.cells g.2.2.2.2.1 #[.slice g.2.2.2.2.2.1 ((List.replicate x0.states.toNat ([]:List Int)).length) g.2.2.2.2.2.2] 27,Res.nest 86 3 1 eI_ (.slice g.2.2.2.2.2.1 (List.replicate x0.states.toNat ([]:List Int)).length g.2.2.2.2.2.2) (List.replicate x0.states.toNat (nilN:NP Int))]) (fun g=>σ) (fun g=>Dy_ x0=some r∧Zn (List.replicate x0.states.toNat (nilN:NP Int)) (List.replicate x0.states.toNat ([]:List Int))∧Zn (List.replicate x0.states.toNat (nilN:NP Int)) (List.replicate x0.states.toNat ([]:List Int))) ?_ (fun g j hg=> ?_)))
 ·skip
  have u5:=grd_c hh
  replace hh:=grd_t hh
  have u8:=grd_c hh
  replace hh:=grd_t hh
  refine TC.drawR (Hr:=[Res.cells b109 #[.int .i64 x0.states,.slice a0_0 x0.starts.length c0_0,.slice a0_1 x0.ends.length c0_1,.slice a0_2 x0.arcs.length c0_2] 25]) (fun r hr=>mem_pick [0] z hr) [] (by kernel_rfl) (TA.a 0 z (fieldLoc z fo25_0 z) z (TA.b 1 z (loadLoc z ag3 z (i:=0) z z) z (TA.a 3 z (fieldLoc z fo25_0 z) z (TA.b 4 z (loadLoc z ag3 z (i:=0) z z) z ?_))))
  refine TA.actN [2,5,6,7] (by kernel_rfl) (an rfl rfl (makeN (q:=x0.states.toNat) (E:=3) (size:=1) (enc:=eI_) rfl underlying27 sz86 by86 ze86 rfl rfl (vN u5.1) (vN u5.1) (by omega) (by decide) rfl (fun a135 c136 zf137=>(k1 ?_))) (an rfl rfl (makeN (q:=x0.states.toNat) (E:=3) (size:=1) (enc:=eI_) rfl underlying27 sz86 by86 ze86 rfl rfl (vN u8.1) (vN u8.1) (by omega) (by decide) rfl (fun a139 c140 zf141=>(k1 ?_))) (an rfl rfl (OpOk.alloc rfl ze27 rfl rfl (fun b143=>(k1 ?_))) (an rfl rfl (OpOk.alloc rfl ze27 rfl rfl (fun b145=>(k1 ?_))) (True.intro)))))
  ·skip
   refine TA.actN [5,6,7] (by kernel_rfl) (an rfl rfl (makeN (q:=x0.states.toNat) (E:=3) (size:=1) (enc:=eI_) rfl underlying27 sz86 by86 ze86 rfl rfl (vN u8.1) (vN u8.1) (by omega) (by decide) rfl (fun a147 c148 zf149=>(k2 ?_))) (an rfl rfl (OpOk.alloc rfl ze27 rfl rfl (fun b151=>(k2 ?_))) (an rfl rfl (OpOk.alloc rfl ze27 rfl rfl (fun b153=>(k2 ?_))) (True.intro))))
   ·skip
    refine TA.actN [6,7] (by kernel_rfl) (an z z (OpOk.alloc z ze27 z z (fun b155=>(k3 ?_))) (an z z (OpOk.alloc z ze27 z z (fun b157=>(k3 ?_))) (True.intro)))
    ·skip
     refine TA.ac 7 z (OpOk.alloc z ze27 z z (fun b159=>(kc 4 ?_)))
     refine TA.front 1 z z (TA.ac 8 z (storeSl z sz27 z z z z z (kc 4 ?_)))
     refine TA.front 1 z z (TA.ac 9 z (storeSl z sz27 z z z z z (kc 4 ?_)))
     exact TA.dn (S.n (cf ((),(b155,a135,c136,b159,a147,c148)) ⟨hh,zf137,zf149⟩ (Sub.f [2,1,3,3,4] 5)))
    skip
    refine TA.ac 6 z (OpOk.alloc z ze27 z z (fun b161=>(kc 4 ?_)))
    refine TA.ac 8 z (storeSl z sz27 z z z z z (kc 4 ?_))
    refine TA.front 1 z z (TA.ac 9 z (storeSl z sz27 z z z z z (kc 4 ?_)))
    exact TA.dn (S.n (cf ((),(b161,a135,c136,b157,a147,c148)) ⟨hh,zf137,zf149⟩ (Sub.f [2,1,3,3,4] 5)))
   ·skip
    refine TA.actN [5,7] (by kernel_rfl) (an rfl rfl (makeN (q:=x0.states.toNat) (E:=3) (size:=1) (enc:=eI_) rfl underlying27 sz86 by86 ze86 rfl rfl (vN u8.1) (vN u8.1) (by omega) (by decide) rfl (fun a163 c164 zf165=>(k3 ?_))) (an rfl rfl (OpOk.alloc rfl ze27 rfl rfl (fun b167=>(k3 ?_))) (True.intro)))
    ·skip
     refine TA.ac 7 z (OpOk.alloc z ze27 z z (fun b169=>(kc 4 ?_)))
     refine TA.front 2 z z (TA.ac 8 z (storeSl z sz27 z z z z z (kc 4 ?_)))
     refine TA.front 1 z z (TA.ac 9 z (storeSl z sz27 z z z z z (kc 4 ?_)))
     exact TA.dn (S.n (cf ((),(b151,a135,c136,b169,a163,c164)) ⟨hh,zf137,zf165⟩ (Sub.f [2,1,3,3,4] 5)))
    skip
    refine TA.actN [5,8] (by kernel_rfl) (an rfl rfl (makeN (q:=x0.states.toNat) (E:=3) (size:=1) (enc:=eI_) rfl underlying27 sz86 by86 ze86 rfl rfl (vN u8.1) (vN u8.1) (by omega) (by decide) rfl (fun a171 c172 zf173=>(kc 4 ?_))) (an rfl rfl (OpOk.front 1 rfl rfl (storeSl rfl sz27 rfl rfl rfl rfl rfl (k3 ?_))) (True.intro)))
    ·skip
     refine TA.front 2 z z (TA.ac 8 z (storeSl z sz27 z z z z z (kc 4 ?_)))
     refine TA.front 2 z z (TA.ac 9 z (storeSl z sz27 z z z z z (kc 4 ?_)))
     exact TA.dn (S.n (cf ((),(b151,a135,c136,b167,a171,c172)) ⟨hh,zf137,zf173⟩ (Sub.f [2,1,3,3,4] 5)))
    skip
    refine TA.ac 5 rfl (makeN (q:=x0.states.toNat) (E:=3) (size:=1) (enc:=eI_) rfl underlying27 sz86 by86 ze86 rfl rfl (vN u8.1) (vN u8.1) (by omega) (by decide) rfl (fun a175 c176 zf177=>(kc 4 ?_)))
    refine TA.front 2 z z (TA.ac 9 z (storeSl z sz27 z z z z z (kc 4 ?_)))
    exact TA.dn (S.n (cf ((),(b151,a135,c136,b167,a175,c176)) ⟨hh,zf137,zf177⟩ (Sub.f [1,1,3,3,4] 5)))
   skip
   refine TA.actN [5,6] (by kernel_rfl) (an rfl rfl (makeN (q:=x0.states.toNat) (E:=3) (size:=1) (enc:=eI_) rfl underlying27 sz86 by86 ze86 rfl rfl (vN u8.1) (vN u8.1) (by omega) (by decide) rfl (fun a179 c180 zf181=>(k3 ?_))) (an rfl rfl (OpOk.alloc rfl ze27 rfl rfl (fun b183=>(k3 ?_))) (True.intro)))
   ·skip
    refine TA.ac 6 z (OpOk.alloc z ze27 z z (fun b185=>(kc 4 ?_)))
    refine TA.ac 8 z (storeSl z sz27 z z z z z (kc 4 ?_))
    refine TA.front 2 z z (TA.ac 9 z (storeSl z sz27 z z z z z (kc 4 ?_)))
    exact TA.dn (S.n (cf ((),(b185,a135,c136,b153,a179,c180)) ⟨hh,zf137,zf181⟩ (Sub.f [2,1,3,3,4] 5)))
   skip
   refine TA.actN [5,8] (by kernel_rfl) (an rfl rfl (makeN (q:=x0.states.toNat) (E:=3) (size:=1) (enc:=eI_) rfl underlying27 sz86 by86 ze86 rfl rfl (vN u8.1) (vN u8.1) (by omega) (by decide) rfl (fun a187 c188 zf189=>(kc 4 ?_))) (an rfl rfl (storeSl rfl sz27 rfl rfl rfl rfl rfl (k3 ?_)) (True.intro)))
   ·skip
    refine TA.front 1 z z (TA.ac 8 z (storeSl z sz27 z z z z z (kc 4 ?_)))
    refine TA.front 2 z z (TA.ac 9 z (storeSl z sz27 z z z z z (kc 4 ?_)))
    exact TA.dn (S.n (cf ((),(b183,a135,c136,b153,a187,c188)) ⟨hh,zf137,zf189⟩ (Sub.f [2,1,3,3,4] 5)))
   skip
   refine TA.ac 5 rfl (makeN (q:=x0.states.toNat) (E:=3) (size:=1) (enc:=eI_) rfl underlying27 sz86 by86 ze86 rfl rfl (vN u8.1) (vN u8.1) (by omega) (by decide) rfl (fun a191 c192 zf193=>(kc 4 ?_)))
   refine TA.front 2 z z (TA.ac 9 z (storeSl z sz27 z z z z z (kc 4 ?_)))
   exact TA.dn (S.n (cf ((),(b183,a135,c136,b153,a191,c192)) ⟨hh,zf137,zf193⟩ (Sub.f [1,1,3,3,4] 5)))
  ·skip
   refine TA.actN [2,6,7] (by kernel_rfl) (an rfl rfl (makeN (q:=x0.states.toNat) (E:=3) (size:=1) (enc:=eI_) rfl underlying27 sz86 by86 ze86 rfl rfl (vN u5.1) (vN u5.1) (by omega) (by decide) rfl (fun a195 c196 zf197=>(k2 ?_))) (an rfl rfl (OpOk.alloc rfl ze27 rfl rfl (fun b199=>(k2 ?_))) (an rfl rfl (OpOk.alloc rfl ze27 rfl rfl (fun b201=>(k2 ?_))) (True.intro))))
   ·skip
    refine TA.actN [6,7] (by kernel_rfl) (an z z (OpOk.alloc z ze27 z z (fun b203=>(k3 ?_))) (an z z (OpOk.alloc z ze27 z z (fun b205=>(k3 ?_))) (True.intro)))
    ·skip
     refine TA.ac 7 z (OpOk.alloc z ze27 z z (fun b207=>(kc 4 ?_)))
     refine TA.front 1 z z (TA.ac 8 z (storeSl z sz27 z z z z z (kc 4 ?_)))
     refine TA.front 1 z z (TA.ac 9 z (storeSl z sz27 z z z z z (kc 4 ?_)))
     exact TA.dn (S.n (cf ((),(b203,a195,c196,b207,a139,c140)) ⟨hh,zf197,zf141⟩ (Sub.f [3,1,3,3,4] 5)))
    skip
    refine TA.ac 6 z (OpOk.alloc z ze27 z z (fun b209=>(kc 4 ?_)))
    refine TA.ac 8 z (storeSl z sz27 z z z z z (kc 4 ?_))
    refine TA.front 1 z z (TA.ac 9 z (storeSl z sz27 z z z z z (kc 4 ?_)))
    exact TA.dn (S.n (cf ((),(b209,a195,c196,b205,a139,c140)) ⟨hh,zf197,zf141⟩ (Sub.f [3,1,3,3,4] 5)))
   ·skip
    refine TA.actN [2,7] (by kernel_rfl) (an rfl rfl (makeN (q:=x0.states.toNat) (E:=3) (size:=1) (enc:=eI_) rfl underlying27 sz86 by86 ze86 rfl rfl (vN u5.1) (vN u5.1) (by omega) (by decide) rfl (fun a211 c212 zf213=>(k3 ?_))) (an rfl rfl (OpOk.alloc rfl ze27 rfl rfl (fun b215=>(k3 ?_))) (True.intro)))
    ·skip
     refine TA.ac 7 z (OpOk.alloc z ze27 z z (fun b217=>(kc 4 ?_)))
     refine TA.front 2 z z (TA.ac 8 z (storeSl z sz27 z z z z z (kc 4 ?_)))
     refine TA.front 1 z z (TA.ac 9 z (storeSl z sz27 z z z z z (kc 4 ?_)))
     exact TA.dn (S.n (cf ((),(b199,a211,c212,b217,a139,c140)) ⟨hh,zf213,zf141⟩ (Sub.f [3,1,3,3,4] 5)))
    skip
    refine TA.ac 2 rfl (makeN (q:=x0.states.toNat) (E:=3) (size:=1) (enc:=eI_) rfl underlying27 sz86 by86 ze86 rfl rfl (vN u5.1) (vN u5.1) (by omega) (by decide) rfl (fun a219 c220 zf221=>(kc 4 ?_)))
    refine TA.front 2 z z (TA.ac 8 z (storeSl z sz27 z z z z z (kc 4 ?_)))
    refine TA.front 2 z z (TA.ac 9 z (storeSl z sz27 z z z z z (kc 4 ?_)))
    exact TA.dn (S.n (cf ((),(b199,a219,c220,b215,a139,c140)) ⟨hh,zf221,zf141⟩ (Sub.f [3,1,3,3,4] 5)))
   skip
   refine TA.actN [2,6] (by kernel_rfl) (an rfl rfl (makeN (q:=x0.states.toNat) (E:=3) (size:=1) (enc:=eI_) rfl underlying27 sz86 by86 ze86 rfl rfl (vN u5.1) (vN u5.1) (by omega) (by decide) rfl (fun a223 c224 zf225=>(k3 ?_))) (an rfl rfl (OpOk.alloc rfl ze27 rfl rfl (fun b227=>(k3 ?_))) (True.intro)))
   ·skip
    refine TA.ac 6 z (OpOk.alloc z ze27 z z (fun b229=>(kc 4 ?_)))
    refine TA.ac 8 z (storeSl z sz27 z z z z z (kc 4 ?_))
    refine TA.front 2 z z (TA.ac 9 z (storeSl z sz27 z z z z z (kc 4 ?_)))
    exact TA.dn (S.n (cf ((),(b229,a223,c224,b201,a139,c140)) ⟨hh,zf225,zf141⟩ (Sub.f [3,1,3,3,4] 5)))
   skip
   refine TA.ac 2 rfl (makeN (q:=x0.states.toNat) (E:=3) (size:=1) (enc:=eI_) rfl underlying27 sz86 by86 ze86 rfl rfl (vN u5.1) (vN u5.1) (by omega) (by decide) rfl (fun a231 c232 zf233=>(kc 4 ?_)))
   refine TA.front 1 z z (TA.ac 8 z (storeSl z sz27 z z z z z (kc 4 ?_)))
   refine TA.front 2 z z (TA.ac 9 z (storeSl z sz27 z z z z z (kc 4 ?_)))
   exact TA.dn (S.n (cf ((),(b227,a231,c232,b201,a139,c140)) ⟨hh,zf233,zf141⟩ (Sub.f [3,1,3,3,4] 5)))
  ·skip
   refine TA.actN [2,5,7] (by kernel_rfl) (an rfl rfl (makeN (q:=x0.states.toNat) (E:=3) (size:=1) (enc:=eI_) rfl underlying27 sz86 by86 ze86 rfl rfl (vN u5.1) (vN u5.1) (by omega) (by decide) rfl (fun a235 c236 zf237=>(k2 ?_))) (an rfl rfl (makeN (q:=x0.states.toNat) (E:=3) (size:=1) (enc:=eI_) rfl underlying27 sz86 by86 ze86 rfl rfl (vN u8.1) (vN u8.1) (by omega) (by decide) rfl (fun a239 c240 zf241=>(k2 ?_))) (an rfl rfl (OpOk.alloc rfl ze27 rfl rfl (fun b243=>(k2 ?_))) (True.intro))))
   ·skip
    refine TA.actN [5,7] (by kernel_rfl) (an rfl rfl (makeN (q:=x0.states.toNat) (E:=3) (size:=1) (enc:=eI_) rfl underlying27 sz86 by86 ze86 rfl rfl (vN u8.1) (vN u8.1) (by omega) (by decide) rfl (fun a245 c246 zf247=>(k3 ?_))) (an rfl rfl (OpOk.alloc rfl ze27 rfl rfl (fun b249=>(k3 ?_))) (True.intro)))
    ·skip
     refine TA.ac 7 z (OpOk.alloc z ze27 z z (fun b251=>(kc 4 ?_)))
     refine TA.front 3 z z (TA.ac 8 z (storeSl z sz27 z z z z z (kc 4 ?_)))
     refine TA.front 1 z z (TA.ac 9 z (storeSl z sz27 z z z z z (kc 4 ?_)))
     exact TA.dn (S.n (cf ((),(b143,a235,c236,b251,a245,c246)) ⟨hh,zf237,zf247⟩ (Sub.f [2,1,3,3,4] 5)))
    skip
    refine TA.actN [5,8] (by kernel_rfl) (an rfl rfl (makeN (q:=x0.states.toNat) (E:=3) (size:=1) (enc:=eI_) rfl underlying27 sz86 by86 ze86 rfl rfl (vN u8.1) (vN u8.1) (by omega) (by decide) rfl (fun a253 c254 zf255=>(kc 4 ?_))) (an rfl rfl (OpOk.front 2 rfl rfl (storeSl rfl sz27 rfl rfl rfl rfl rfl (k3 ?_))) (True.intro)))
    ·skip
     refine TA.front 3 z z (TA.ac 8 z (storeSl z sz27 z z z z z (kc 4 ?_)))
     refine TA.front 2 z z (TA.ac 9 z (storeSl z sz27 z z z z z (kc 4 ?_)))
     exact TA.dn (S.n (cf ((),(b143,a235,c236,b249,a253,c254)) ⟨hh,zf237,zf255⟩ (Sub.f [2,1,3,3,4] 5)))
    skip
    refine TA.ac 5 rfl (makeN (q:=x0.states.toNat) (E:=3) (size:=1) (enc:=eI_) rfl underlying27 sz86 by86 ze86 rfl rfl (vN u8.1) (vN u8.1) (by omega) (by decide) rfl (fun a257 c258 zf259=>(kc 4 ?_)))
    refine TA.front 2 z z (TA.ac 9 z (storeSl z sz27 z z z z z (kc 4 ?_)))
    exact TA.dn (S.n (cf ((),(b143,a235,c236,b249,a257,c258)) ⟨hh,zf237,zf259⟩ (Sub.f [1,1,3,3,4] 5)))
   ·skip
    refine TA.actN [2,7] (by kernel_rfl) (an rfl rfl (makeN (q:=x0.states.toNat) (E:=3) (size:=1) (enc:=eI_) rfl underlying27 sz86 by86 ze86 rfl rfl (vN u5.1) (vN u5.1) (by omega) (by decide) rfl (fun a261 c262 zf263=>(k3 ?_))) (an rfl rfl (OpOk.alloc rfl ze27 rfl rfl (fun b265=>(k3 ?_))) (True.intro)))
    ·skip
     refine TA.ac 7 z (OpOk.alloc z ze27 z z (fun b267=>(kc 4 ?_)))
     refine TA.front 3 z z (TA.ac 8 z (storeSl z sz27 z z z z z (kc 4 ?_)))
     refine TA.front 1 z z (TA.ac 9 z (storeSl z sz27 z z z z z (kc 4 ?_)))
     exact TA.dn (S.n (cf ((),(b143,a261,c262,b267,a239,c240)) ⟨hh,zf263,zf241⟩ (Sub.f [3,1,3,3,4] 5)))
    skip
    refine TA.ac 2 rfl (makeN (q:=x0.states.toNat) (E:=3) (size:=1) (enc:=eI_) rfl underlying27 sz86 by86 ze86 rfl rfl (vN u5.1) (vN u5.1) (by omega) (by decide) rfl (fun a269 c270 zf271=>(kc 4 ?_)))
    refine TA.front 3 z z (TA.ac 8 z (storeSl z sz27 z z z z z (kc 4 ?_)))
    refine TA.front 2 z z (TA.ac 9 z (storeSl z sz27 z z z z z (kc 4 ?_)))
    exact TA.dn (S.n (cf ((),(b143,a269,c270,b265,a239,c240)) ⟨hh,zf271,zf241⟩ (Sub.f [3,1,3,3,4] 5)))
   skip
   refine TA.actN [2,5] (by kernel_rfl) (an rfl rfl (makeN (q:=x0.states.toNat) (E:=3) (size:=1) (enc:=eI_) rfl underlying27 sz86 by86 ze86 rfl rfl (vN u5.1) (vN u5.1) (by omega) (by decide) rfl (fun a273 c274 zf275=>(k3 ?_))) (an rfl rfl (makeN (q:=x0.states.toNat) (E:=3) (size:=1) (enc:=eI_) rfl underlying27 sz86 by86 ze86 rfl rfl (vN u8.1) (vN u8.1) (by omega) (by decide) rfl (fun a277 c278 zf279=>(k3 ?_))) (True.intro)))
   ·skip
    refine TA.actN [5,8] (by kernel_rfl) (an rfl rfl (makeN (q:=x0.states.toNat) (E:=3) (size:=1) (enc:=eI_) rfl underlying27 sz86 by86 ze86 rfl rfl (vN u8.1) (vN u8.1) (by omega) (by decide) rfl (fun a281 c282 zf283=>(kc 4 ?_))) (an rfl rfl (OpOk.front 2 rfl rfl (storeSl rfl sz27 rfl rfl rfl rfl rfl (k3 ?_))) (True.intro)))
    ·skip
     refine TA.front 3 z z (TA.ac 8 z (storeSl z sz27 z z z z z (kc 4 ?_)))
     refine TA.front 3 z z (TA.ac 9 z (storeSl z sz27 z z z z z (kc 4 ?_)))
     exact TA.dn (S.n (cf ((),(b143,a273,c274,b243,a281,c282)) ⟨hh,zf275,zf283⟩ (Sub.f [2,1,3,3,4] 5)))
    skip
    refine TA.ac 5 rfl (makeN (q:=x0.states.toNat) (E:=3) (size:=1) (enc:=eI_) rfl underlying27 sz86 by86 ze86 rfl rfl (vN u8.1) (vN u8.1) (by omega) (by decide) rfl (fun a285 c286 zf287=>(kc 4 ?_)))
    refine TA.front 3 z z (TA.ac 9 z (storeSl z sz27 z z z z z (kc 4 ?_)))
    exact TA.dn (S.n (cf ((),(b143,a273,c274,b243,a285,c286)) ⟨hh,zf275,zf287⟩ (Sub.f [1,1,3,3,4] 5)))
   skip
   refine TA.ac 2 rfl (makeN (q:=x0.states.toNat) (E:=3) (size:=1) (enc:=eI_) rfl underlying27 sz86 by86 ze86 rfl rfl (vN u5.1) (vN u5.1) (by omega) (by decide) rfl (fun a289 c290 zf291=>(kc 4 ?_)))
   refine TA.front 3 z z (TA.ac 8 z (storeSl z sz27 z z z z z (kc 4 ?_)))
   refine TA.front 3 z z (TA.ac 9 z (storeSl z sz27 z z z z z (kc 4 ?_)))
   exact TA.dn (S.n (cf ((),(b143,a289,c290,b243,a277,c278)) ⟨hh,zf291,zf279⟩ (Sub.f [3,1,3,3,4] 5)))
  skip
  refine TA.actN [2,5,6] (by kernel_rfl) (an rfl rfl (makeN (q:=x0.states.toNat) (E:=3) (size:=1) (enc:=eI_) rfl underlying27 sz86 by86 ze86 rfl rfl (vN u5.1) (vN u5.1) (by omega) (by decide) rfl (fun a293 c294 zf295=>(k2 ?_))) (an rfl rfl (makeN (q:=x0.states.toNat) (E:=3) (size:=1) (enc:=eI_) rfl underlying27 sz86 by86 ze86 rfl rfl (vN u8.1) (vN u8.1) (by omega) (by decide) rfl (fun a297 c298 zf299=>(k2 ?_))) (an rfl rfl (OpOk.alloc rfl ze27 rfl rfl (fun b301=>(k2 ?_))) (True.intro))))
  ·skip
   refine TA.actN [5,6] (by kernel_rfl) (an rfl rfl (makeN (q:=x0.states.toNat) (E:=3) (size:=1) (enc:=eI_) rfl underlying27 sz86 by86 ze86 rfl rfl (vN u8.1) (vN u8.1) (by omega) (by decide) rfl (fun a303 c304 zf305=>(k3 ?_))) (an rfl rfl (OpOk.alloc rfl ze27 rfl rfl (fun b307=>(k3 ?_))) (True.intro)))
   ·skip
    refine TA.ac 6 z (OpOk.alloc z ze27 z z (fun b309=>(kc 4 ?_)))
    refine TA.ac 8 z (storeSl z sz27 z z z z z (kc 4 ?_))
    refine TA.front 3 z z (TA.ac 9 z (storeSl z sz27 z z z z z (kc 4 ?_)))
    exact TA.dn (S.n (cf ((),(b309,a293,c294,b145,a303,c304)) ⟨hh,zf295,zf305⟩ (Sub.f [2,1,3,3,4] 5)))
   skip
   refine TA.actN [5,8] (by kernel_rfl) (an rfl rfl (makeN (q:=x0.states.toNat) (E:=3) (size:=1) (enc:=eI_) rfl underlying27 sz86 by86 ze86 rfl rfl (vN u8.1) (vN u8.1) (by omega) (by decide) rfl (fun a311 c312 zf313=>(kc 4 ?_))) (an rfl rfl (storeSl rfl sz27 rfl rfl rfl rfl rfl (k3 ?_)) (True.intro)))
   ·skip
    refine TA.front 1 z z (TA.ac 8 z (storeSl z sz27 z z z z z (kc 4 ?_)))
    refine TA.front 3 z z (TA.ac 9 z (storeSl z sz27 z z z z z (kc 4 ?_)))
    exact TA.dn (S.n (cf ((),(b307,a293,c294,b145,a311,c312)) ⟨hh,zf295,zf313⟩ (Sub.f [2,1,3,3,4] 5)))
   skip
   refine TA.ac 5 rfl (makeN (q:=x0.states.toNat) (E:=3) (size:=1) (enc:=eI_) rfl underlying27 sz86 by86 ze86 rfl rfl (vN u8.1) (vN u8.1) (by omega) (by decide) rfl (fun a315 c316 zf317=>(kc 4 ?_)))
   refine TA.front 3 z z (TA.ac 9 z (storeSl z sz27 z z z z z (kc 4 ?_)))
   exact TA.dn (S.n (cf ((),(b307,a293,c294,b145,a315,c316)) ⟨hh,zf295,zf317⟩ (Sub.f [1,1,3,3,4] 5)))
  ·skip
   refine TA.actN [2,6] (by kernel_rfl) (an rfl rfl (makeN (q:=x0.states.toNat) (E:=3) (size:=1) (enc:=eI_) rfl underlying27 sz86 by86 ze86 rfl rfl (vN u5.1) (vN u5.1) (by omega) (by decide) rfl (fun a319 c320 zf321=>(k3 ?_))) (an rfl rfl (OpOk.alloc rfl ze27 rfl rfl (fun b323=>(k3 ?_))) (True.intro)))
   ·skip
    refine TA.ac 6 z (OpOk.alloc z ze27 z z (fun b325=>(kc 4 ?_)))
    refine TA.ac 8 z (storeSl z sz27 z z z z z (kc 4 ?_))
    refine TA.front 3 z z (TA.ac 9 z (storeSl z sz27 z z z z z (kc 4 ?_)))
    exact TA.dn (S.n (cf ((),(b325,a319,c320,b145,a297,c298)) ⟨hh,zf321,zf299⟩ (Sub.f [3,1,3,3,4] 5)))
   skip
   refine TA.ac 2 rfl (makeN (q:=x0.states.toNat) (E:=3) (size:=1) (enc:=eI_) rfl underlying27 sz86 by86 ze86 rfl rfl (vN u5.1) (vN u5.1) (by omega) (by decide) rfl (fun a327 c328 zf329=>(kc 4 ?_)))
   refine TA.front 1 z z (TA.ac 8 z (storeSl z sz27 z z z z z (kc 4 ?_)))
   refine TA.front 3 z z (TA.ac 9 z (storeSl z sz27 z z z z z (kc 4 ?_)))
   exact TA.dn (S.n (cf ((),(b323,a327,c328,b145,a297,c298)) ⟨hh,zf329,zf299⟩ (Sub.f [3,1,3,3,4] 5)))
  skip
  refine TA.actN [2,5] (by kernel_rfl) (an rfl rfl (makeN (q:=x0.states.toNat) (E:=3) (size:=1) (enc:=eI_) rfl underlying27 sz86 by86 ze86 rfl rfl (vN u5.1) (vN u5.1) (by omega) (by decide) rfl (fun a331 c332 zf333=>(k3 ?_))) (an rfl rfl (makeN (q:=x0.states.toNat) (E:=3) (size:=1) (enc:=eI_) rfl underlying27 sz86 by86 ze86 rfl rfl (vN u8.1) (vN u8.1) (by omega) (by decide) rfl (fun a335 c336 zf337=>(k3 ?_))) (True.intro)))
  ·skip
   refine TA.actN [5,8] (by kernel_rfl) (an rfl rfl (makeN (q:=x0.states.toNat) (E:=3) (size:=1) (enc:=eI_) rfl underlying27 sz86 by86 ze86 rfl rfl (vN u8.1) (vN u8.1) (by omega) (by decide) rfl (fun a339 c340 zf341=>(kc 4 ?_))) (an rfl rfl (OpOk.front 1 rfl rfl (storeSl rfl sz27 rfl rfl rfl rfl rfl (k3 ?_))) (True.intro)))
   ·skip
    refine TA.front 2 z z (TA.ac 8 z (storeSl z sz27 z z z z z (kc 4 ?_)))
    refine TA.front 3 z z (TA.ac 9 z (storeSl z sz27 z z z z z (kc 4 ?_)))
    exact TA.dn (S.n (cf ((),(b301,a331,c332,b145,a339,c340)) ⟨hh,zf333,zf341⟩ (Sub.f [2,1,3,3,4] 5)))
   skip
   refine TA.ac 5 rfl (makeN (q:=x0.states.toNat) (E:=3) (size:=1) (enc:=eI_) rfl underlying27 sz86 by86 ze86 rfl rfl (vN u8.1) (vN u8.1) (by omega) (by decide) rfl (fun a343 c344 zf345=>(kc 4 ?_)))
   refine TA.front 3 z z (TA.ac 9 z (storeSl z sz27 z z z z z (kc 4 ?_)))
   exact TA.dn (S.n (cf ((),(b301,a331,c332,b145,a343,c344)) ⟨hh,zf333,zf345⟩ (Sub.f [1,1,3,3,4] 5)))
  skip
  refine TA.ac 2 rfl (makeN (q:=x0.states.toNat) (E:=3) (size:=1) (enc:=eI_) rfl underlying27 sz86 by86 ze86 rfl rfl (vN u5.1) (vN u5.1) (by omega) (by decide) rfl (fun a347 c348 zf349=>(kc 4 ?_)))
  refine TA.front 2 z z (TA.ac 8 z (storeSl z sz27 z z z z z (kc 4 ?_)))
  refine TA.front 3 z z (TA.ac 9 z (storeSl z sz27 z z z z z (kc 4 ?_)))
  exact TA.dn (S.n (cf ((),(b301,a347,c348,b145,a335,c336)) ⟨hh,zf349,zf337⟩ (Sub.f [3,1,3,3,4] 5)))
 skip
 obtain ⟨_,⟨b112,a114,c115,b118,a120,c121⟩⟩:=g
 obtain ⟨hh,zf116,zf122⟩:=hg
 try dsimp only at zf116 zf122 ⊢
 dsimp only [Dy_]at hh
 have zf116b:=zf116.len
 have zf122b:=zf122.len
 refine TC.know (isSl_nest (q:=2) z zf116) (fun ⟨_,hb351⟩=> ?_)
 refine TC.know (isSl_nest (q:=4) z zf122) (fun ⟨_,hb352⟩=> ?_)
 refine TC.seq (TC.a (TL.w z (fieldLoc z fo25_3 z) (TL.w z (loadLoc z ag23 z (i:=0) z z) (TL.w z (lenC z underlying23 z) (TL.i z z (TL.en (TC.block (TC.loopG (α:=((List (List Int))×(List (List Int))×Nat)×((List (NP Int))×(List (NP Int)))) (rgs [(6,1),(16,31)]) (fun g=>[(16,.int .i64 ((g.1.2.2:Nat):Int))]) (fun g=>[Res.cells b109 #[.int .i64 x0.states,.slice a0_0 x0.starts.length c0_0,.slice a0_1 x0.ends.length c0_1,.slice a0_2 x0.arcs.length c0_2] 25,Res.cells b112 #[.slice a114 ((List.replicate x0.states.toNat ([]:List Int)).length) c115] 27,Res.nest 86 3 1 eI_ (.slice a114 (List.replicate x0.states.toNat ([]:List Int)).length c115) g.2.1,Res.cells b118 #[.slice a120 g.1.2.1.length c121] 27,Res.nest 86 3 1 eI_ (.slice a120 g.1.2.1.length c121) g.2.2]) (fun g=>σ) (fun g=>iter (fun q:(List (List Int))×(List (List Int))×Nat=>Bb_ x0 q.1 q.2.1 q.2.2) g.1=some r∧g.1.1.length=(List.replicate x0.states.toNat ([]:List Int)).length∧Zn g.2.1 g.1.1∧Zn g.2.2 g.1.2.1) (fun g=>rounds (fun q:(List (List Int))×(List (List Int))×Nat=>Bb_ x0 q.1 q.2.1 q.2.2) g.1) (((List.replicate x0.states.toNat ([]:List Int)),(List.replicate x0.states.toNat ([]:List Int)),0),((List.replicate x0.states.toNat (nilN:NP Int)),(List.replicate x0.states.toNat (nilN:NP Int)))) (Sub.f [4,4,4,4,4] 5) z (by repeat (first|exact trivial|refine ⟨z,?_⟩)) ⟨hh,z,zf116,zf122⟩ (fun g1 j1 hg1=> ?_)))))))))
 obtain ⟨⟨l387,l391,k394⟩,⟨z389,z392⟩⟩:=g1
 obtain ⟨hh,hn388,zf390,zf393⟩:=hg1
 try dsimp only at hn388 zf390 zf393 ⊢
 obtain ⟨z1,hh,hR1⟩:=iter_e hh
 dsimp only [Bb_]at hh
 have hn388b:=hn388
 have zf390b:=zf390.len
 have zf393b:=zf393.len
 refine TC.know (isSl_nest (q:=2) z zf390) (fun ⟨_,hb395⟩=> ?_)
 refine TC.know (isSl_nest (q:=4) z zf393) (fun ⟨_,hb396⟩=> ?_)
 refine TC.a (TL.w z (OpVal.lss z z z) (TL.en (TC.seq (TC.cD z hh (fun h397 hh=> ?_) (fun h397 hh=> ?_)))))
 ·refine TC.skip (S.n (TC.cutG (α:=(Unit)×((List (NP Int))×(List (NP Int)))) (rgs [(6,1),(18,28)]) (fun g=>[]) (fun g=>[Res.cells b109 #[.int .i64 x0.states,.slice a0_0 x0.starts.length c0_0,.slice a0_1 x0.ends.length c0_1,.slice a0_2 x0.arcs.length c0_2] 25,Res.cells b112 #[.slice a114 ((List.replicate x0.states.toNat ([]:List Int)).length) c115] 27,Res.nest 86 3 1 eI_ (.slice a114 (List.replicate x0.states.toNat ([]:List Int)).length c115) g.2.1,Res.cells b118 #[.slice a120 l391.length c121] 27,Res.nest 86 3 1 eI_ (.slice a120 l391.length c121) g.2.2]) (fun g=>σ) (fun g=>Dw_ l387 x0 k394 l391=some z1∧(l387.set (((nth x0.arcs k394 Arc.zero).frm).toNat) ((nth l387 (((nth x0.arcs k394 Arc.zero).frm).toNat) ([]:List Int))++[(nth x0.arcs k394 Arc.zero).to])).length=(List.replicate x0.states.toNat ([]:List Int)).length∧Zn g.2.1 (l387.set (((nth x0.arcs k394 Arc.zero).frm).toNat) ((nth l387 (((nth x0.arcs k394 Arc.zero).frm).toNat) ([]:List Int))++[(nth x0.arcs k394 Arc.zero).to]))∧(l391.set (((nth x0.arcs k394 Arc.zero).to).toNat) ((nth l391 (((nth x0.arcs k394 Arc.zero).to).toNat) ([]:List Int))++[(nth x0.arcs k394 Arc.zero).frm])).length=l391.length∧Zn g.2.2 (l391.set (((nth x0.arcs k394 Arc.zero).to).toNat) ((nth l391 (((nth x0.arcs k394 Arc.zero).to).toNat) ([]:List Int))++[(nth x0.arcs k394 Arc.zero).frm]))) ?_ (fun g j hg=> ?_)))
  ·skip
   refine TC.block (TC.a (TL.w z (indexN z underlying23 sz66 z z f0_2.rv.sl (by omega)) (TL.w z (loadSA Arc.zero z ag66 sz66 z f0_2 (by omega) (by omega)) (TL.op z (OpOk.alloc z ze66 z z (fun b404=> ?_))))))
   refine TL.op z (storeAll z sz66 z z z z z z ?_)
   refine TL.en (TC.cutG (α:=(Unit)×((List (NP Int)))) (rgs [(20,13)]) (fun g=>[]) (fun g=>[Res.cells b109 #[.int .i64 x0.states,.slice a0_0 x0.starts.length c0_0,.slice a0_1 x0.ends.length c0_1,.slice a0_2 x0.arcs.length c0_2] 25,Res.cells b112 #[.slice a114 ((List.replicate x0.states.toNat ([]:List Int)).length) c115] 27,Res.nest 86 3 1 eI_ (.slice a114 (List.replicate x0.states.toNat ([]:List Int)).length c115) g.2,Res.cells b118 #[.slice a120 l391.length c121] 27,Res.nest 86 3 1 eI_ (.slice a120 l391.length c121) z392,Res.cells b404 #[.int .i64 ((nth x0.arcs k394 Arc.zero).frm),.int .i64 ((nth x0.arcs k394 Arc.zero).to),.int .u64 ((((nth x0.arcs k394 Arc.zero).set).a:Nat):Int),.int .u64 ((((nth x0.arcs k394 Arc.zero).set).b:Nat):Int),.int .u64 ((((nth x0.arcs k394 Arc.zero).set).c:Nat):Int),.int .u64 ((((nth x0.arcs k394 Arc.zero).set).d:Nat):Int),.string (bs ((nth x0.arcs k394 Arc.zero).out)),.bool ((nth x0.arcs k394 Arc.zero).copy)] 66]) (fun g=>σ) (fun g=>Dx_ x0 k394 l391 l387=some z1∧(l387.set (((nth x0.arcs k394 Arc.zero).frm).toNat) ((nth l387 (((nth x0.arcs k394 Arc.zero).frm).toNat) ([]:List Int))++[(nth x0.arcs k394 Arc.zero).to])).length=(List.replicate x0.states.toNat ([]:List Int)).length∧Zn g.2 (l387.set (((nth x0.arcs k394 Arc.zero).frm).toNat) ((nth l387 (((nth x0.arcs k394 Arc.zero).frm).toNat) ([]:List Int))++[(nth x0.arcs k394 Arc.zero).to]))∧Zn z392 l391) ?_ (fun g j hg=> ?_))
   ·skip
    have u28:=grd_c hh
    replace hh:=grd_t hh
    have u33:=grd_c hh
    replace hh:=grd_t hh
    have u34:=grd_c hh
    replace hh:=grd_t hh
    refine TC.drawR (Hr:=[Res.cells b404 #[.int .i64 ((nth x0.arcs k394 Arc.zero).frm),.int .i64 ((nth x0.arcs k394 Arc.zero).to),.int .u64 ((((nth x0.arcs k394 Arc.zero).set).a:Nat):Int),.int .u64 ((((nth x0.arcs k394 Arc.zero).set).b:Nat):Int),.int .u64 ((((nth x0.arcs k394 Arc.zero).set).c:Nat):Int),.int .u64 ((((nth x0.arcs k394 Arc.zero).set).d:Nat):Int),.string (bs ((nth x0.arcs k394 Arc.zero).out)),.bool ((nth x0.arcs k394 Arc.zero).copy)] 66,Res.cells b109 #[.int .i64 x0.states,.slice a0_0 x0.starts.length c0_0,.slice a0_1 x0.ends.length c0_1,.slice a0_2 x0.arcs.length c0_2] 25,Res.cells b112 #[.slice a114 ((List.replicate x0.states.toNat ([]:List Int)).length) c115] 27,Res.cells b118 #[.slice a120 l391.length c121] 27,Res.nest 86 3 1 eI_ (.slice a120 l391.length c121) z392]) (fun r hr=>mem_pick [0,1,2,4,5] z hr) [] (by kernel_rfl) (TA.b 0 z (loadLoc z ag27 z (i:=2) z z) z (TA.a 1 z (fieldLoc z fo66_0 z) z (TA.b 2 z (loadLoc z ag3 z (i:=0) z z) z (TA.b 3 z (loadLoc z ag27 z (i:=2) z z) z (TA.a 4 z (fieldLoc z fo66_0 z) z (TA.b 5 z (loadLoc z ag3 z (i:=0) z z) z (TA.know (isSl_nest (q:=3) z zf390) (fun ⟨hs421,hs421b⟩=> ?_))))))))
    refine TA.b 6 z (OpVal.index z underlying27 sz86 z z hs421 u28.1 u28.2) z (TA.a 8 z (fieldLoc z fo66_1 z) z (TA.b 9 z (loadLoc z ag3 z (i:=0) z z) z ?_))
    obtain ⟨p422,hz422,hm422⟩:=Zn.at zf390 (i:=((nth x0.arcs k394 Arc.zero).frm).toNat) (by omega)
    refine TA.actN [7,10] (by kernel_rfl) (an z z (OpVal.ok (loadN z ag86 z (q:=3) z hz422 hm422) z z ⟨(fun w h=>sees_of (Store.le.refl _) (fun r hr=>mem_pick [0,1,2,4,5] z hr) w h),?_⟩) (an z z (OpOk.lit (enc:=eI_) [(nth x0.arcs k394 Arc.zero).to] z underlying86 sz3 ze3 z z z eIl_ (by decide) (by decide) (0:Int) z (by decide) z (by decide) eIo_ (fun a423 c424=>⟨(fun w h=>sees_of (Store.le.refl _) (fun r hr=>mem_pick [1,2,3,5,6] z hr) w h),?_⟩)) (True.intro)))
    ·skip
     refine TA.ac 10 z (OpOk.lit (enc:=eI_) [(nth x0.arcs k394 Arc.zero).to] z underlying86 sz3 ze3 z z z eIl_ (by decide) (by decide) (0:Int) z (by decide) z (by decide) eIo_ (fun a426 c427=>⟨(fun w h=>sees_of (Store.le.refl _) (fun r hr=>mem_pick [1,2,3,5,6] z hr) w h),?_⟩))
     refine TA.front 4 z z (TA.by (fun w h=>Reach.takeN hz422 hm422 h) (TA.ac 11 z (appendS z z underlying86 sz3 by3 ze3 z z (by decide) z z z (.inr ⟨_,1,z⟩) (by simpa using u33) (by decide) (fun a430 c431=>(k3 ?_)))))
     refine TA.know (isSl_nestX (q:=1) z zf390) (fun ⟨hs432,hs432b⟩=> ?_)
     refine TA.b 12 z (OpVal.index z underlying27 sz86 z z hs432 u34.1 u34.2) z (TA.front 1 z z (TA.front 1 z z ?_))
     have hn434:(l387.set (((nth x0.arcs k394 Arc.zero).frm).toNat) ((nth l387 (((nth x0.arcs k394 Arc.zero).frm).toNat) ([]:List Int))++[(nth x0.arcs k394 Arc.zero).to])).length=(List.replicate x0.states.toNat ([]:List Int)).length:=(List.length_set ..).trans hn388
     refine TA.ac 13 rfl (storeX (l':=((nth l387 (((nth x0.arcs k394 Arc.zero).frm).toNat) ([]:List Int))++[(nth x0.arcs k394 Arc.zero).to])) rfl sz86 rfl rfl rfl rfl rfl (by rw [zf390.len];omega) zf390 (fun zf433=>(k2 ?_)))
     exact TA.dn (S.n (cf ((),(z389.set (((nth x0.arcs k394 Arc.zero).frm).toNat) (((nth l387 (((nth x0.arcs k394 Arc.zero).frm).toNat) ([]:List Int))++[(nth x0.arcs k394 Arc.zero).to]),(a430,c431)))) ⟨hh,hn434,zf433,zf393⟩ (Sub.f [2,6,6,3,6,6] 6)))
    skip
    obtain ⟨p435,hz435,hm435⟩:=Zn.at zf390 (i:=((nth x0.arcs k394 Arc.zero).frm).toNat) (by omega)
    refine TA.ac 7 z (OpVal.ok (loadN z ag86 z (q:=4) z hz435 hm435) z z ⟨(fun w h=>sees_of (Store.le.refl _) (fun r hr=>mem_pick [1,2,3,5,6] z hr) w h),?_⟩)
    refine TA.front 4 z z (TA.by (fun w h=>Reach.takeN hz435 hm435 h) (TA.ac 11 z (appendS z z underlying86 sz3 by3 ze3 z z (by decide) z z z (.inr ⟨_,1,z⟩) (by simpa using u33) (by decide) (fun a437 c438=>(k3 ?_)))))
    refine TA.know (isSl_nestX (q:=1) z zf390) (fun ⟨hs439,hs439b⟩=> ?_)
    refine TA.b 12 z (OpVal.index z underlying27 sz86 z z hs439 u34.1 u34.2) z (TA.front 1 z z (TA.front 1 z z ?_))
    have hn441:(l387.set (((nth x0.arcs k394 Arc.zero).frm).toNat) ((nth l387 (((nth x0.arcs k394 Arc.zero).frm).toNat) ([]:List Int))++[(nth x0.arcs k394 Arc.zero).to])).length=(List.replicate x0.states.toNat ([]:List Int)).length:=(List.length_set ..).trans hn388
    refine TA.ac 13 rfl (storeX (l':=((nth l387 (((nth x0.arcs k394 Arc.zero).frm).toNat) ([]:List Int))++[(nth x0.arcs k394 Arc.zero).to])) rfl sz86 rfl rfl rfl rfl rfl (by rw [zf390.len];omega) zf390 (fun zf440=>(k2 ?_)))
    exact TA.dn (S.n (cf ((),(z389.set (((nth x0.arcs k394 Arc.zero).frm).toNat) (((nth l387 (((nth x0.arcs k394 Arc.zero).frm).toNat) ([]:List Int))++[(nth x0.arcs k394 Arc.zero).to]),(a437,c438)))) ⟨hh,hn441,zf440,zf393⟩ (Sub.f [2,6,6,3,6,6] 6)))
   skip
   obtain ⟨_,z407⟩:=g
   obtain ⟨hh,hn406,zf408,zf409⟩:=hg
   try dsimp only at hn406 zf408 zf409 ⊢
   dsimp only [Dx_]at hh
   have hn406b:=hn406
   have zf408b:=zf408.len
   have zf409b:=zf409.len
   refine TC.know (isSl_nest (q:=2) z zf408) (fun ⟨_,hb442⟩=> ?_)
   refine TC.know (isSl_nest (q:=4) z zf409) (fun ⟨_,hb443⟩=> ?_)
   have u42:=grd_c hh
   replace hh:=grd_t hh
   have u47:=grd_c hh
   replace hh:=grd_t hh
   have u48:=grd_c hh
   replace hh:=grd_t hh
   refine TC.drawR (Hr:=[Res.cells b109 #[.int .i64 x0.states,.slice a0_0 x0.starts.length c0_0,.slice a0_1 x0.ends.length c0_1,.slice a0_2 x0.arcs.length c0_2] 25,Res.cells b112 #[.slice a114 ((List.replicate x0.states.toNat ([]:List Int)).length) c115] 27,Res.nest 86 3 1 eI_ (.slice a114 (List.replicate x0.states.toNat ([]:List Int)).length c115) z407,Res.cells b118 #[.slice a120 l391.length c121] 27,Res.cells b404 #[.int .i64 ((nth x0.arcs k394 Arc.zero).frm),.int .i64 ((nth x0.arcs k394 Arc.zero).to),.int .u64 ((((nth x0.arcs k394 Arc.zero).set).a:Nat):Int),.int .u64 ((((nth x0.arcs k394 Arc.zero).set).b:Nat):Int),.int .u64 ((((nth x0.arcs k394 Arc.zero).set).c:Nat):Int),.int .u64 ((((nth x0.arcs k394 Arc.zero).set).d:Nat):Int),.string (bs ((nth x0.arcs k394 Arc.zero).out)),.bool ((nth x0.arcs k394 Arc.zero).copy)] 66]) (fun r hr=>mem_pick [0,1,2,3,5] z hr) [] (by kernel_rfl) (TA.b 0 z (loadLoc z ag27 z (i:=3) z z) z (TA.a 1 z (fieldLoc z fo66_1 z) z (TA.b 2 z (loadLoc z ag3 z (i:=4) z z) z (TA.b 3 z (loadLoc z ag27 z (i:=3) z z) z (TA.a 4 z (fieldLoc z fo66_1 z) z (TA.b 5 z (loadLoc z ag3 z (i:=4) z z) z (TA.know (isSl_nest (q:=4) z zf409) (fun ⟨hs455,hs455b⟩=> ?_))))))))
   refine TA.b 6 z (OpVal.index z underlying27 sz86 z z hs455 u42.1 u42.2) z (TA.a 8 z (fieldLoc z fo66_0 z) z (TA.b 9 z (loadLoc z ag3 z (i:=4) z z) z ?_))
   obtain ⟨p456,hz456,hm456⟩:=Zn.at zf409 (i:=((nth x0.arcs k394 Arc.zero).to).toNat) (by omega)
   refine TA.actN [7,10] (by kernel_rfl) (an z z (OpVal.ok (loadN z ag86 z (q:=4) z hz456 hm456) z z ⟨(fun w h=>sees_of (Store.le.refl _) (fun r hr=>mem_pick [0,1,2,3,5] z hr) w h),?_⟩) (an z z (OpOk.lit (enc:=eI_) [(nth x0.arcs k394 Arc.zero).frm] z underlying86 sz3 ze3 z z z eIl_ (by decide) (by decide) (0:Int) z (by decide) z (by decide) eIo_ (fun a457 c458=>⟨(fun w h=>sees_of (Store.le.refl _) (fun r hr=>mem_pick [1,2,3,4,6] z hr) w h),?_⟩)) (True.intro)))
   ·skip
    refine TA.ac 10 z (OpOk.lit (enc:=eI_) [(nth x0.arcs k394 Arc.zero).frm] z underlying86 sz3 ze3 z z z eIl_ (by decide) (by decide) (0:Int) z (by decide) z (by decide) eIo_ (fun a460 c461=>⟨(fun w h=>sees_of (Store.le.refl _) (fun r hr=>mem_pick [1,2,3,4,6] z hr) w h),?_⟩))
    refine TA.front 5 z z (TA.by (fun w h=>Reach.takeN hz456 hm456 h) (TA.ac 11 z (appendS z z underlying86 sz3 by3 ze3 z z (by decide) z z z (.inr ⟨_,1,z⟩) (by simpa using u47) (by decide) (fun a464 c465=>(k3 ?_)))))
    refine TA.know (isSl_nestX (q:=1) z zf409) (fun ⟨hs466,hs466b⟩=> ?_)
    refine TA.b 12 z (OpVal.index z underlying27 sz86 z z hs466 u48.1 u48.2) z (TA.front 1 z z (TA.front 1 z z ?_))
    have hn468:(l391.set (((nth x0.arcs k394 Arc.zero).to).toNat) ((nth l391 (((nth x0.arcs k394 Arc.zero).to).toNat) ([]:List Int))++[(nth x0.arcs k394 Arc.zero).frm])).length=l391.length:=(List.length_set ..).trans rfl
    refine TA.ac 13 rfl (storeX (l':=((nth l391 (((nth x0.arcs k394 Arc.zero).to).toNat) ([]:List Int))++[(nth x0.arcs k394 Arc.zero).frm])) rfl sz86 rfl rfl rfl rfl rfl (by rw [zf409.len];omega) zf409 (fun zf467=>(k2 ?_)))
    exact TA.dn (B.n (S.n (cf ((),(z407,(z392.set (((nth x0.arcs k394 Arc.zero).to).toNat) (((nth l391 (((nth x0.arcs k394 Arc.zero).to).toNat) ([]:List Int))++[(nth x0.arcs k394 Arc.zero).frm]),(a464,c465))))) ⟨hh,hn406,zf408,hn468,zf467⟩ (Sub.f [5,5,5,5] 5))))
   skip
   obtain ⟨p469,hz469,hm469⟩:=Zn.at zf409 (i:=((nth x0.arcs k394 Arc.zero).to).toNat) (by omega)
   refine TA.ac 7 z (OpVal.ok (loadN z ag86 z (q:=5) z hz469 hm469) z z ⟨(fun w h=>sees_of (Store.le.refl _) (fun r hr=>mem_pick [1,2,3,4,6] z hr) w h),?_⟩)
   refine TA.front 5 z z (TA.by (fun w h=>Reach.takeN hz469 hm469 h) (TA.ac 11 z (appendS z z underlying86 sz3 by3 ze3 z z (by decide) z z z (.inr ⟨_,1,z⟩) (by simpa using u47) (by decide) (fun a471 c472=>(k3 ?_)))))
   refine TA.know (isSl_nestX (q:=1) z zf409) (fun ⟨hs473,hs473b⟩=> ?_)
   refine TA.b 12 z (OpVal.index z underlying27 sz86 z z hs473 u48.1 u48.2) z (TA.front 1 z z (TA.front 1 z z ?_))
   have hn475:(l391.set (((nth x0.arcs k394 Arc.zero).to).toNat) ((nth l391 (((nth x0.arcs k394 Arc.zero).to).toNat) ([]:List Int))++[(nth x0.arcs k394 Arc.zero).frm])).length=l391.length:=(List.length_set ..).trans rfl
   refine TA.ac 13 rfl (storeX (l':=((nth l391 (((nth x0.arcs k394 Arc.zero).to).toNat) ([]:List Int))++[(nth x0.arcs k394 Arc.zero).frm])) rfl sz86 rfl rfl rfl rfl rfl (by rw [zf409.len];omega) zf409 (fun zf474=>(k2 ?_)))
   exact TA.dn (B.n (S.n (cf ((),(z407,(z392.set (((nth x0.arcs k394 Arc.zero).to).toNat) (((nth l391 (((nth x0.arcs k394 Arc.zero).to).toNat) ([]:List Int))++[(nth x0.arcs k394 Arc.zero).frm]),(a471,c472))))) ⟨hh,hn406,zf408,hn475,zf474⟩ (Sub.f [5,5,5,5] 5))))
  skip
  obtain ⟨_,⟨z399,z402⟩⟩:=g
  obtain ⟨hh,hn398,zf400,hn401,zf403⟩:=hg
  try dsimp only at hn398 zf400 hn401 zf403 ⊢
  dsimp only [Dw_]at hh
  have hn398b:=hn398
  have zf400b:=zf400.len
  have hn401b:=hn401
  have zf403b:=zf403.len
  refine TC.know (isSl_nest (q:=2) z zf400) (fun ⟨_,hb476⟩=> ?_)
  refine TC.know (isSl_nest (q:=4) z zf403) (fun ⟨_,hb477⟩=> ?_)
  refine TC.region (TL.w z (OpVal.succ z z z (by omega)) (TL.i z z ?_))
  rw [←hn401]
  refine TL.en ?_
  obtain ⟨hh,hlt478⟩:=nxt_x hR1 hh
  exact lf (((l387.set (((nth x0.arcs k394 Arc.zero).frm).toNat) ((nth l387 (((nth x0.arcs k394 Arc.zero).frm).toNat) ([]:List Int))++[(nth x0.arcs k394 Arc.zero).to])),(l391.set (((nth x0.arcs k394 Arc.zero).to).toNat) ((nth l391 (((nth x0.arcs k394 Arc.zero).to).toNat) ([]:List Int))++[(nth x0.arcs k394 Arc.zero).frm])),(k394+1)),(z399,z402)) hlt478 ⟨hh,hn398,zf400,zf403⟩ (Sub.f [4,4,4,4,4] 5)
 refine TC.exit (S.x (S.x ?_))
 replace hh:=fin_x hR1 hh
 refine TC.exitHere (S.n (TC.a (TL.w z (makeFn z) (TL.w z (moveFn (.inr z) z) (TL.en ?_)))))
 rw [←hn388]
 refine TC.front 2 z z (TC.seals (fun w h=>Reach.sealNest eIl_ zf390 h) (fun τ481 hle480 hr479=> ?_))
 replace f0_0:=f0_0.mono hle480
 replace f0_1:=f0_1.mono hle480
 replace f0_2:=f0_2.mono hle480
 have hr479b:=hr479.big
 refine TC.front 3 z z (TC.seals (fun w h=>Reach.sealNest eIl_ zf393 h) (fun τ484 hle483 hr482=> ?_))
 replace f0_0:=f0_0.mono hle483
 replace f0_1:=f0_1.mono hle483
 replace f0_2:=f0_2.mono hle483
 replace hr479:=hr479.mono hle483
 have hr482b:=hr482.big
 refine TC.ret ?_
 obtain rfl:=so hh
 exact ro [Res.cells b109 #[.int .i64 x0.states,.slice a0_0 x0.starts.length c0_0,.slice a0_1 x0.ends.length c0_1,.slice a0_2 x0.arcs.length c0_2] 25,Res.cells b112 #[.slice a114 l387.length c115] 27,Res.cells b118 #[.slice a120 l391.length c121] 27] z (RVs.tmp z RVs.nil) ⟨b109,a0_0,c0_0,a0_1,c0_1,a0_2,c0_2,b112,a114,c115,b118,a120,c121,z,f0_0,f0_1,f0_2,hr479,hr482,z⟩
def B3_(l143:List Int)(k145:Nat)(y4_0:Int):Option (Nat×((List Int)×Nat)):=
 grd (0≤y4_0∧y4_0<(l143.length:Int)) (grd (k145+1≤9223372036854775807) (some (0,((l143.set y4_0.toNat ((k145:Nat):Int)),(k145+1)))))
def Dr_(k169:Nat)(l175:List Tip):Option (((List Tip)×Nat)⊕(Fst×Int)):=
 nxt (l175,(k169+1))
def Do_(k208:Nat)(l215:List Tip):Option (((List Tip)×Nat)⊕(Fst×Int)):=
 nxt (l215,(k208+1))
def Cv_(k249:Nat)(l257:List Arc):Option (((List Arc)×Nat)⊕(Fst×Int)):=
 nxt (l257,(k249+1))
def Bo_(x0:Fst)(l143:List Int)(k145:Nat)(l166:List Tip)(l205:List Tip)(l246:List Arc)(k249:Nat):Option (((List Arc)×Nat)⊕(Fst×Int)):=
 iteO (decide (((k249:Nat):Int)<((x0.arcs.length:Nat):Int))) (grd (0≤((nth x0.arcs k249 Arc.zero).frm)∧((nth x0.arcs k249 Arc.zero).frm)<(l143.length:Int)) (grd (0≤((nth x0.arcs k249 Arc.zero).to)∧((nth x0.arcs k249 Arc.zero).to)<(l143.length:Int)) (iteO (decide (0≤(nth l143 (((nth x0.arcs k249 Arc.zero).frm).toNat) (0:Int)))) (iteO (decide (0≤(nth l143 (((nth x0.arcs k249 Arc.zero).to).toNat) (0:Int)))) (grd ((l246.length+[(⟨(nth l143 (((nth x0.arcs k249 Arc.zero).frm).toNat) (0:Int)),(nth l143 (((nth x0.arcs k249 Arc.zero).to).toNat) (0:Int)),(nth x0.arcs k249 Arc.zero).set,(nth x0.arcs k249 Arc.zero).out,(nth x0.arcs k249 Arc.zero).copy⟩:Arc)].length) * 72≤140737488355328) (Cv_ k249 (l246++[(⟨(nth l143 (((nth x0.arcs k249 Arc.zero).frm).toNat) (0:Int)),(nth l143 (((nth x0.arcs k249 Arc.zero).to).toNat) (0:Int)),(nth x0.arcs k249 Arc.zero).set,(nth x0.arcs k249 Arc.zero).out,(nth x0.arcs k249 Arc.zero).copy⟩:Arc)]))) (Cv_ k249 l246)) (Cv_ k249 l246)))) (fin (bnd (Cl_ (⟨((k145:Nat):Int),l166,l205,l246⟩:Fst)) (fun v145=>some (v145.1,v145.2))))
def Bq_(x0:Fst)(l143:List Int)(k145:Nat)(l166:List Tip)(l205:List Tip)(k208:Nat):Option (((List Tip)×Nat)⊕(Fst×Int)):=
 iteO (decide (((k208:Nat):Int)<((x0.ends.length:Nat):Int))) (grd (0≤((nth x0.ends k208 Tip.zero).state)∧((nth x0.ends k208 Tip.zero).state)<(l143.length:Int)) (iteO (decide (0≤(nth l143 (((nth x0.ends k208 Tip.zero).state).toNat) (0:Int)))) (grd ((l205.length+[(⟨(nth l143 (((nth x0.ends k208 Tip.zero).state).toNat) (0:Int)),(nth x0.ends k208 Tip.zero).out⟩:Tip)].length) * 24≤140737488355328) (Do_ k208 (l205++[(⟨(nth l143 (((nth x0.ends k208 Tip.zero).state).toNat) (0:Int)),(nth x0.ends k208 Tip.zero).out⟩:Tip)]))) (Do_ k208 l205))) (fin (iter (fun q:(List Arc)×Nat=>Bo_ x0 l143 k145 l166 l205 q.1 q.2) (([]:List Arc),0)))
def Bp_(x0:Fst)(l143:List Int)(k145:Nat)(l166:List Tip)(k169:Nat):Option (((List Tip)×Nat)⊕(Fst×Int)):=
 iteO (decide (((k169:Nat):Int)<((x0.starts.length:Nat):Int))) (grd (0≤((nth x0.starts k169 Tip.zero).state)∧((nth x0.starts k169 Tip.zero).state)<(l143.length:Int)) (iteO (decide (0≤(nth l143 (((nth x0.starts k169 Tip.zero).state).toNat) (0:Int)))) (grd ((l166.length+[(⟨(nth l143 (((nth x0.starts k169 Tip.zero).state).toNat) (0:Int)),(nth x0.starts k169 Tip.zero).out⟩:Tip)].length) * 24≤140737488355328) (Dr_ k169 (l166++[(⟨(nth l143 (((nth x0.starts k169 Tip.zero).state).toNat) (0:Int)),(nth x0.starts k169 Tip.zero).out⟩:Tip)]))) (Dr_ k169 l166))) (fin (iter (fun q:(List Tip)×Nat=>Bq_ x0 l143 k145 l166 q.1 q.2) (([]:List Tip),0)))
def E3_(x0:Fst)(jz:Nat)(l143:List Int)(k145:Nat):Option (Fst×Int):=
 jsel jz (iter (fun q:(List Tip)×Nat=>Bp_ x0 l143 k145 q.1 q.2) (([]:List Tip),0)) (fun _=>none)
def Bn_(x0:Fst)(l117:List Int)(k119:Nat):Option (((List Int)×Nat)⊕(Fst×Int)):=
 iteO (decide (((k119:Nat):Int)<(((List.replicate x0.states.toNat (0:Int)).length:Nat):Int))) (grd (k119<l117.length) (nxt ((l117.set k119 (-1)),(k119+1)))) (fin (bnd (D2_ x0) (fun v29=>bnd (Dj_ (stepY (fun (q:(List Int)×Nat) (x:Int)=>B3_ q.1 q.2 x)) (0,(l117,0)) (⟨v29.1.states,v29.1.starts,v29.1.ends,v29.1.arcs⟩:Fst) v29.2.1 v29.2.2) (fun zr4=>E3_ x0 zr4.1 zr4.2.1 zr4.2.2))))
def D5_(x0:Fst):Option (Fst×Int):=
 bnd (D0_ x0) (fun v5=>iteO (decide (v5≠0)) (some ((⟨0,([]:List Tip),([]:List Tip),([]:List Arc)⟩:Fst),1)) (grd (0≤x0.states∧8 * x0.states.toNat≤281474976710656) (iter (fun q:(List Int)×Nat=>Bn_ x0 q.1 q.2) ((List.replicate x0.states.toNat (0:Int)),0))))
def Go_(σ:Store)(r:Fst×Int):Value→Store→List Res→Prop:=fun v σ' H'=>
 ∃a1 c1 a2 c2 a3 c3,v= .tuple #[.agg #[.int .i64 r.1.states,.slice a1 r.1.starts.length c1,.slice a2 r.1.ends.length c2,.slice a3 r.1.arcs.length c3],.int .i64 r.2]∧RS σ' 2 encTip (.slice a1 r.1.starts.length c1) r.1.starts∧RS σ' 2 encTip (.slice a2 r.1.ends.length c2) r.1.ends∧RS σ' 8 encArc (.slice a3 r.1.arcs.length c3) r.1.arcs∧H'=[]
theorem Fk_{x0:Fst}(f0_0:RS σ 2 encTip (.slice a0_0 x0.starts.length c0_0) x0.starts)(f0_1:RS σ 2 encTip (.slice a0_1 x0.ends.length c0_1) x0.ends)(f0_2:RS σ 8 encArc (.slice a0_2 x0.arcs.length c0_2) x0.arcs){r:Fst×Int}(hh:D5_ x0=some r):
  Con Tryz.prog 44 #[.agg #[.int .i64 x0.states,.slice a0_0 x0.starts.length c0_0,.slice a0_1 x0.ends.length c0_1,.slice a0_2 x0.arcs.length c0_2]] σ [] (Go_ σ r):=by
 dsimp only [D5_]at hh
 have f0_0b:=f0_0.rv.big
 have f0_1b:=f0_1.rv.big
 have f0_2b:=f0_2.rv.big
 refine Con.mk (n:=136) Tryz.func44 z z z (fun w0=> ?_)
 refine TC.a (TL.op z (boxA z z z z (fun b101=> ?_)))
 refine TL.op z (OpOk.alloc z ze25 z z (fun b103=> ?_))
 refine TL.i z z (TL.en (TC.seq (TC.a (TL.w z (loadAll z ag25 sz25 z (i:=1) z z) ?_))))
 obtain ⟨v5,u5,hh⟩:=bnd_e hh
 refine TL.op z (callP (E1_ (x0:=x0) f0_0 f0_1 f0_2 u5) z z pf43 z z z ?_)
 refine TL.w z (OpVal.neq z z z) (TL.en (TC.cD z hh (fun h105 hh=> ?_) (fun h105 hh=> ?_)))
 ·refine TC.a (TL.w z (buildL z pl25 ze25 z) (TL.op z (storeAll z sz25 z z z z z z ?_)))
  refine TL.i z z (TL.en (TC.rt 1 (S.r ?_)))
  obtain rfl:=so hh
  exact ro [] z (RVs.agg ag25 sz25 z (i:=0) z z (RVs.tmp z RVs.nil)) ⟨none,0,none,0,none,0,z,(RS.nilF _ encTip encTip_len),(RS.nilF _ encTip encTip_len),(RS.nilF _ encArc encArc_len),z⟩
 refine TC.skip (S.n (TC.a (TL.w z (fieldLoc z fo25_0 z) (TL.w z (loadLoc z ag3 z (i:=1) z z) ?_))))
 have u12:=grd_c hh
 replace hh:=grd_t hh
 refine TL.op rfl (makeS2 (m:=x0.states.toNat) (enc:=eI_) (0:Int) rfl underlying86 sz3 by3 ze3 rfl rfl (vN u12.1) (vN u12.1) (by omega) (by decide) eIl_ (by decide) rfl eIo_ (fun a106 c107=> ?_))
 refine TL.op z (OpOk.alloc z ze86 z z (fun b109=> ?_))
 refine TL.op z (storeSl z sz86 z z z z z ?_)
 refine TL.en (TC.seq (TC.a (TL.w z (loadLoc z ag86 z (i:=0) z z) (TL.w z (lenC z underlying86 z) (TL.i z z (TL.en (TC.block (TC.loopG (α:=((List Int)×Nat)×(Unit)) (rgs [(5,1),(27,7)]) (fun g=>[(27,.int .i64 ((g.1.2:Nat):Int))]) (fun g=>[Res.cells b101 #[.int .i64 x0.states,.slice a0_0 x0.starts.length c0_0,.slice a0_1 x0.ends.length c0_1,.slice a0_2 x0.arcs.length c0_2] 25,Res.cells b103 #[.int .i64 0,.slice none 0 0,.slice none 0 0,.slice none 0 0] 25,Res.cells b109 #[.slice a106 ((List.replicate x0.states.toNat (0:Int)).length) c107] 86,Res.rowS 3 1 eI_ (.slice a106 (List.replicate x0.states.toNat (0:Int)).length c107) g.1.1]) (fun g=>σ) (fun g=>iter (fun q:(List Int)×Nat=>Bn_ x0 q.1 q.2) g.1=some r∧g.1.1.length=(List.replicate x0.states.toNat (0:Int)).length) (fun g=>rounds (fun q:(List Int)×Nat=>Bn_ x0 q.1 q.2) g.1) (((List.replicate x0.states.toNat (0:Int)),0),()) (Sub.f [1,1,2,3] 4) z (by repeat (first|exact trivial|refine ⟨z,?_⟩)) ⟨hh,z⟩ (fun g1 j1 hg1=> ?_)))))))))
 obtain ⟨⟨l117,k119⟩,_⟩:=g1
 obtain ⟨hh,hn118⟩:=hg1
 try dsimp only at hn118 ⊢
 obtain ⟨z1,hh,hR1⟩:=iter_e hh
 dsimp only [Bn_]at hh
 have hn118b:=hn118
 refine TC.isSl (i:=3) z (fun _ hb120 _=> ?_)
 refine TC.a (TL.w z (OpVal.lss z z z) (TL.en (TC.seq (TC.cD z hh (fun h121 hh=> ?_) (fun h121 hh=> ?_)))))
 ·refine TC.skip (S.n (TC.seq (TC.block (TC.a (TL.i z z (TL.i z z (TL.en (TC.region (TL.w z (loadLoc z ag86 z (i:=2) z z) (TL.i z z ?_))))))))))
  have u23:=grd_c hh
  replace hh:=grd_t hh
  refine TL.isSl (i:=3) z (fun hs122 _ _=> ?_)
  refine TL.w z (indexN z underlying86 sz3 z z hs122 (by omega)) (TL.front 3 z z ?_)
  have hn123:(l117.set k119 (-1)).length=(List.replicate x0.states.toNat (0:Int)).length:=by rw [List.length_set];exact hn118
  refine TL.op z (storeS (-1) z sz3 z z z z eIl_ eIo_ (by omega) (by omega) ?_)
  refine TL.nil (B.n (S.n (TC.region (TL.w z (OpVal.succ z z z (by omega)) (TL.i z z (TL.en ?_))))))
  obtain ⟨hh,hlt124⟩:=nxt_x hR1 hh
  exact lf (((l117.set k119 (-1)),(k119+1)),()) hlt124 ⟨hh,hn123⟩ (Sub.f [3,3,3] 4)
 refine TC.exit (S.x (S.x ?_))
 replace hh:=fin_x hR1 hh
 refine TC.exitHere (S.n (TC.a (TL.op z (OpOk.alloc z ze25 z z (fun b125=> ?_)))))
 refine TL.en (TC.seq (TC.a (TL.w z (loadAll z ag25 sz25 z (i:=1) z z) ?_)))
 obtain ⟨v29,u29,hh⟩:=bnd_e hh
 refine TL.op z (OpOk.call (Gc_ f0_0 f0_1 f0_2 u29) z z pf85 z z z z ?_)
 rintro _ τ127 _ hle127 ⟨b127_10,a127_1,c127_2,a127_4,c127_5,a127_7,c127_8,b127_14,a127_11,c127_12,b127_18,a127_15,c127_16,rfl,f127_3,f127_6,f127_9,f127_13,f127_17,rfl⟩
 replace f0_0:=f0_0.mono hle127
 replace f0_1:=f0_1.mono hle127
 replace f0_2:=f0_2.mono hle127
 have f127_3b:=f127_3.rv.big
 have f127_6b:=f127_6.rv.big
 have f127_9b:=f127_9.rv.big
 have f127_13b:=f127_13.big
 have f127_17b:=f127_17.big
 refine TL.en (TC.block (TC.ofSub (Sub.f [2,2,2,3,7,7,7,7] 8) ?_))
 obtain ⟨zr4,hz4,hh⟩:=bnd_e hh
 obtain ⟨jz4,⟨l143,k145⟩⟩:=zr4
 dsimp only at hh
 refine TC.rangeG (A:=(fun (x:Int) _ vs=>vs=[.int .i64 x])) [] (fun (q:(List Int)×Nat) (x:Int)=>B3_ q.1 q.2 x) (fun (q:(List Int)×Nat) (τ146:Store) Hs=>Hs=[Res.cells b101 #[.int .i64 x0.states,.slice a0_0 x0.starts.length c0_0,.slice a0_1 x0.ends.length c0_1,.slice a0_2 x0.arcs.length c0_2] 25,Res.cells b103 #[.int .i64 0,.slice none 0 0,.slice none 0 0,.slice none 0 0] 25,Res.cells b109 #[.slice a106 ((List.replicate x0.states.toNat (0:Int)).length) c107] 86,Res.rowS 3 1 eI_ (.slice a106 (List.replicate x0.states.toNat (0:Int)).length c107) q.1,Res.cells b125 #[.int .i64 ((q.2:Nat):Int),.slice none 0 0,.slice none 0 0,.slice none 0 0] 25]∧q.1.length=(List.replicate x0.states.toNat (0:Int)).length) (s:=(l117,0)) rfl pf122 rfl rfl (by rintro _ _ _ _ ⟨rfl,hn144⟩ hle_;exact ⟨rfl,hn144⟩) ⟨rfl,hn118⟩ (fun _ _ _ h_=>by subst h_;rfl) (F4_ f127_3 f127_6 f127_9 f127_13 f127_17 hz4) ?_ ?_
 ·clear hh hz4
  rintro l_ _ _ _ τ146 ⟨l143,k145⟩ y4_0 z4 _ _ hh hle147 rfl ⟨rfl,hn144⟩
  dsimp only [B3_]at hh
  replace f0_0:=f0_0.mono hle147
  replace f0_1:=f0_1.mono hle147
  replace f0_2:=f0_2.mono hle147
  have hn144b:=hn144
  show TC _ _ _ (upds _ [(36,.int .i64 y4_0)]) τ146 [Res.cells b101 #[.int .i64 x0.states,.slice a0_0 x0.starts.length c0_0,.slice a0_1 x0.ends.length c0_1,.slice a0_2 x0.arcs.length c0_2] 25,Res.cells b103 #[.int .i64 0,.slice none 0 0,.slice none 0 0,.slice none 0 0] 25,Res.cells b109 #[.slice a106 ((List.replicate x0.states.toNat (0:Int)).length) c107] 86,Res.rowS 3 1 eI_ (.slice a106 (List.replicate x0.states.toNat (0:Int)).length c107) l143,Res.cells b125 #[.int .i64 ((k145:Nat):Int),.slice none 0 0,.slice none 0 0,.slice none 0 0] 25]
  refine TC.isSl (i:=3) z (fun _ hb148 _=> ?_)
  refine TC.region (TL.i z z (TL.nil (asg_n (fun _ _ _=> ?_))))
  refine TC.block (TC.a (TL.w z (loadLoc z ag86 z (i:=2) z z) (TL.i z z (TL.w z (fieldLoc z fo25_0 z) (TL.w z (loadLoc z ag3 z (i:=4) z z) ?_)))))
  have u35:=grd_c hh
  replace hh:=grd_t hh
  refine TL.isSl (i:=3) z (fun hs149 _ _=> ?_)
  refine TL.w z (OpVal.index z underlying86 sz3 z z hs149 u35.1 u35.2) (TL.front 3 z z ?_)
  have hn150:(l143.set y4_0.toNat ((k145:Nat):Int)).length=(List.replicate x0.states.toNat (0:Int)).length:=by rw [List.length_set];exact hn144
  refine TL.op z (storeS ((k145:Nat):Int) z sz3 z z z z eIl_ eIo_ (by omega) (by omega) ?_)
  refine TL.en (TC.region (TL.w z (fieldLoc z fo25_0 z) (TL.w z (loadLoc z ag3 z (i:=4) z z) ?_)))
  have u39:=grd_c hh
  replace hh:=grd_t hh
  refine TL.w z (OpVal.succ z z z (by omega)) (TL.w z (fieldLoc z fo25_0 z) (TL.front 4 z z (TL.op z (storeI z sz3 z z z z z ?_))))
  refine TL.nil (B.n ?_)
  obtain rfl:=so hh
  exact rnd_n ⟨z,_,Sub.f [1,4,4,4] 5,⟨z,hn150⟩⟩
 rintro τ146 _ _ hle147 ⟨rfl,hn144⟩ ⟨rfl⟩
 replace f0_0:=f0_0.mono hle147
 replace f0_1:=f0_1.mono hle147
 replace f0_2:=f0_2.mono hle147
 have hn144b:=hn144
 dsimp only [E3_]at hh
 show jmpQ _ _ _ _ _ τ146 [Res.cells b101 #[.int .i64 x0.states,.slice a0_0 x0.starts.length c0_0,.slice a0_1 x0.ends.length c0_1,.slice a0_2 x0.arcs.length c0_2] 25,Res.cells b103 #[.int .i64 0,.slice none 0 0,.slice none 0 0,.slice none 0 0] 25,Res.cells b109 #[.slice a106 ((List.replicate x0.states.toNat (0:Int)).length) c107] 86,Res.rowS 3 1 eI_ (.slice a106 (List.replicate x0.states.toNat (0:Int)).length c107) l143,Res.cells b125 #[.int .i64 ((k145:Nat):Int),.slice none 0 0,.slice none 0 0,.slice none 0 0] 25,Res.cells b127_10 #[.int .i64 v29.1.states,.slice a127_1 v29.1.starts.length c127_2,.slice a127_4 v29.1.ends.length c127_5,.slice a127_7 v29.1.arcs.length c127_8] 25,Res.cells b127_14 #[.slice a127_11 v29.2.1.length c127_12] 27,Res.cells b127_18 #[.slice a127_15 v29.2.2.length c127_16] 27]
 refine jmp_split hh ?_ ?_ <;>clear hh
 ·intro hh
  refine B.n (S.n (TC.seq (TC.a (TL.w z (fieldLoc z fo25_1 z) (TL.w z (loadLoc z ag22 z (i:=0) z z) (TL.w z (lenC z underlying22 z) (TL.i z z (TL.en (TC.block (TC.nilS 76 2 encTip (TC.loopG (α:=((List Tip)×Nat)×((Option Addr)×Nat)) (rgs [(9,2),(49,21)]) (fun g=>[(49,.int .i64 ((g.1.2:Nat):Int))]) (fun g=>[Res.cells b101 #[.int .i64 x0.states,.slice a0_0 x0.starts.length c0_0,.slice a0_1 x0.ends.length c0_1,.slice a0_2 x0.arcs.length c0_2] 25,Res.cells b103 #[.int .i64 0,.slice none 0 0,.slice none 0 0,.slice none 0 0] 25,Res.cells b109 #[.slice a106 ((List.replicate x0.states.toNat (0:Int)).length) c107] 86,Res.rowS 3 1 eI_ (.slice a106 (List.replicate x0.states.toNat (0:Int)).length c107) l143,Res.cells b125 #[.int .i64 ((k145:Nat):Int),.slice g.2.1 g.1.1.length g.2.2,.slice none 0 0,.slice none 0 0] 25,Res.rowS 76 2 encTip (.slice g.2.1 g.1.1.length g.2.2) g.1.1]) (fun g=>τ146) (fun g=>iter (fun q:(List Tip)×Nat=>Bp_ x0 l143 k145 q.1 q.2) g.1=some r∧l143.length=(List.replicate x0.states.toNat (0:Int)).length) (fun g=>rounds (fun q:(List Tip)×Nat=>Bp_ x0 l143 k145 q.1 q.2) g.1) ((([]:List Tip),0),(none,0)) (Sub.f [5,5,5,5,5] 6) z (by repeat (first|exact trivial|refine ⟨z,?_⟩)) ⟨hh,hn144⟩ (fun g2 j2 hg2=> ?_))))))))))))
  obtain ⟨⟨l166,k169⟩,⟨a167,c168⟩⟩:=g2
  obtain ⟨hh,hn164⟩:=hg2
  try dsimp only at hn164 ⊢
  obtain ⟨z1,hh,hR1⟩:=iter_e hh
  dsimp only [Bp_]at hh
  have hn164b:=hn164
  refine TC.isSl (i:=3) z (fun _ hb171 _=> ?_)
  refine TC.isSl (i:=5) z (fun _ hb172 _=> ?_)
  refine TC.a (TL.w z (OpVal.lss z z z) (TL.en (TC.seq (TC.cD z hh (fun h173 hh=> ?_) (fun h173 hh=> ?_)))))
  ·refine TC.skip (S.n (TC.cutG (α:=((List Tip))×((Option Addr)×Nat)) (rgs [(9,2),(51,18)]) (fun g=>[]) (fun g=>[Res.cells b101 #[.int .i64 x0.states,.slice a0_0 x0.starts.length c0_0,.slice a0_1 x0.ends.length c0_1,.slice a0_2 x0.arcs.length c0_2] 25,Res.cells b103 #[.int .i64 0,.slice none 0 0,.slice none 0 0,.slice none 0 0] 25,Res.cells b109 #[.slice a106 ((List.replicate x0.states.toNat (0:Int)).length) c107] 86,Res.rowS 3 1 eI_ (.slice a106 (List.replicate x0.states.toNat (0:Int)).length c107) l143,Res.cells b125 #[.int .i64 ((k145:Nat):Int),.slice g.2.1 g.1.length g.2.2,.slice none 0 0,.slice none 0 0] 25,Res.rowS 76 2 encTip (.slice g.2.1 g.1.length g.2.2) g.1]) (fun g=>τ146) (fun g=>Dr_ k169 g.1=some z1∧l143.length=(List.replicate x0.states.toNat (0:Int)).length) ?_ (fun g j hg=> ?_)))
   ·skip
    refine TC.block (TC.a (TL.w z (indexN z underlying22 sz76 z z f0_0.rv.sl (by omega)) (TL.w z (loadSA Tip.zero z ag76 sz76 z f0_0 (by omega) (by omega)) (TL.op z (OpOk.alloc z ze76 z z (fun b178=> ?_))))))
    refine TL.op z (storeAll z sz76 z z z z z z ?_)
    refine TL.en (TC.a (TL.w z (loadLoc z ag86 z (i:=3) z z) (TL.w z (fieldLoc z fo76_0 z) (TL.w z (loadLoc z ag3 z (i:=0) z z) ?_))))
    have u54:=grd_c hh
    replace hh:=grd_t hh
    refine TL.isSl (i:=4) z (fun hs180 _ _=> ?_)
    refine TL.w z (OpVal.index z underlying86 sz3 z z hs180 u54.1 u54.2) (TL.w z (loadO1 (0:Int) z ag3 z (q:=4) z eIl_ (by omega) z) (TL.i z z (TL.en (TC.a (TL.i z z (TL.w z (OpVal.geq z z z) (TL.en (TC.cD z hh (fun h181 hh=> ?_) (fun h181 hh=> ?_)))))))))
    ·refine TC.region (TL.w z (fieldLoc z fo25_1 z) (TL.w z (loadLoc z ag22 z (i:=5) z z) (TL.i z z (TL.w z (fieldLoc z fo76_1 z) (TL.w z (loadLoc z ag9 z (i:=0) z z) (TL.w z (buildL z pl76 ze76 z) (TL.op z (OpOk.lit (enc:=encTip) [(⟨(nth l143 (((nth x0.starts k169 Tip.zero).state).toNat) (0:Int)),(nth x0.starts k169 Tip.zero).out⟩:Tip)] z underlying22 sz76 ze76 z z z encTip_len (by decide) (by decide) Tip.zero z (by decide) z (by decide) encTip_one (fun a182 c183=> ?_)))))))))
     refine TL.front 7 z z ?_
     have u66:=grd_c hh
     replace hh:=grd_t hh
     refine TL.op z (appendS z z underlying22 sz76 by76 ze76 z z (by decide) z z z (.inr ⟨_,0,z⟩) (by simpa using u66) (by decide) (fun a185 c186=> ?_))
     refine TL.w z (fieldLoc z fo25_1 z) (TL.front 7 z z (TL.op z (storeSl z sz22 z z z z z ?_)))
     exact TL.nil (B.n (S.n (cf ((l166++[(⟨(nth l143 (((nth x0.starts k169 Tip.zero).state).toNat) (0:Int)),(nth x0.starts k169 Tip.zero).out⟩:Tip)]),(a185,c186)) ⟨hh,hn164⟩ (Sub.f [1,1,7,7,7,7] 6))))
    exact TC.skip (B.n (S.n (cf (l166,(a167,c168)) ⟨hh,hn164⟩ (Sub.f [6,6,6,6,6,6] 6))))
   skip
   obtain ⟨l175,⟨a176,c177⟩⟩:=g
   obtain ⟨hh,hn174⟩:=hg
   try dsimp only at hn174 ⊢
   dsimp only [Dr_]at hh
   have hn174b:=hn174
   refine TC.isSl (i:=3) z (fun _ hb187 _=> ?_)
   refine TC.isSl (i:=5) z (fun _ hb188 _=> ?_)
   refine TC.region (TL.w z (OpVal.succ z z z (by omega)) (TL.i z z (TL.en ?_)))
   obtain ⟨hh,hlt189⟩:=nxt_x hR1 hh
   exact lf ((l175,(k169+1)),(a176,c177)) hlt189 ⟨hh,hn174⟩ (Sub.f [5,5,5,5,5,5] 6)
  refine TC.exit (S.x (S.x ?_))
  replace hh:=fin_x hR1 hh
  refine TC.exitHere (S.n (TC.seq (TC.a (TL.w z (fieldLoc z fo25_2 z) (TL.w z (loadLoc z ag22 z (i:=0) z z) (TL.w z (lenC z underlying22 z) (TL.i z z (TL.en (TC.block (TC.nilS 76 2 encTip (TC.loopG (α:=((List Tip)×Nat)×((Option Addr)×Nat)) (rgs [(12,2),(73,21)]) (fun g=>[(73,.int .i64 ((g.1.2:Nat):Int))]) (fun g=>[Res.cells b101 #[.int .i64 x0.states,.slice a0_0 x0.starts.length c0_0,.slice a0_1 x0.ends.length c0_1,.slice a0_2 x0.arcs.length c0_2] 25,Res.cells b103 #[.int .i64 0,.slice none 0 0,.slice none 0 0,.slice none 0 0] 25,Res.cells b109 #[.slice a106 ((List.replicate x0.states.toNat (0:Int)).length) c107] 86,Res.rowS 3 1 eI_ (.slice a106 (List.replicate x0.states.toNat (0:Int)).length c107) l143,Res.cells b125 #[.int .i64 ((k145:Nat):Int),.slice a167 l166.length c168,.slice g.2.1 g.1.1.length g.2.2,.slice none 0 0] 25,Res.rowS 76 2 encTip (.slice a167 l166.length c168) l166,Res.rowS 76 2 encTip (.slice g.2.1 g.1.1.length g.2.2) g.1.1]) (fun g=>τ146) (fun g=>iter (fun q:(List Tip)×Nat=>Bq_ x0 l143 k145 l166 q.1 q.2) g.1=some r∧l143.length=(List.replicate x0.states.toNat (0:Int)).length) (fun g=>rounds (fun q:(List Tip)×Nat=>Bq_ x0 l143 k145 l166 q.1 q.2) g.1) ((([]:List Tip),0),(none,0)) (Sub.f [6,6,6,6,6,6] 7) z (by repeat (first|exact trivial|refine ⟨z,?_⟩)) ⟨hh,hn164⟩ (fun g3 j3 hg3=> ?_))))))))))))
  obtain ⟨⟨l205,k208⟩,⟨a206,c207⟩⟩:=g3
  obtain ⟨hh,hn203⟩:=hg3
  try dsimp only at hn203 ⊢
  obtain ⟨z1,hh,hR1⟩:=iter_e hh
  dsimp only [Bq_]at hh
  have hn203b:=hn203
  refine TC.isSl (i:=3) z (fun _ hb210 _=> ?_)
  refine TC.isSl (i:=5) z (fun _ hb211 _=> ?_)
  refine TC.isSl (i:=6) z (fun _ hb212 _=> ?_)
  refine TC.a (TL.w z (OpVal.lss z z z) (TL.en (TC.seq (TC.cD z hh (fun h213 hh=> ?_) (fun h213 hh=> ?_)))))
  ·refine TC.skip (S.n (TC.cutG (α:=((List Tip))×((Option Addr)×Nat)) (rgs [(12,2),(75,18)]) (fun g=>[]) (fun g=>[Res.cells b101 #[.int .i64 x0.states,.slice a0_0 x0.starts.length c0_0,.slice a0_1 x0.ends.length c0_1,.slice a0_2 x0.arcs.length c0_2] 25,Res.cells b103 #[.int .i64 0,.slice none 0 0,.slice none 0 0,.slice none 0 0] 25,Res.cells b109 #[.slice a106 ((List.replicate x0.states.toNat (0:Int)).length) c107] 86,Res.rowS 3 1 eI_ (.slice a106 (List.replicate x0.states.toNat (0:Int)).length c107) l143,Res.cells b125 #[.int .i64 ((k145:Nat):Int),.slice a167 l166.length c168,.slice g.2.1 g.1.length g.2.2,.slice none 0 0] 25,Res.rowS 76 2 encTip (.slice a167 l166.length c168) l166,Res.rowS 76 2 encTip (.slice g.2.1 g.1.length g.2.2) g.1]) (fun g=>τ146) (fun g=>Do_ k208 g.1=some z1∧l143.length=(List.replicate x0.states.toNat (0:Int)).length) ?_ (fun g j hg=> ?_)))
   ·skip
    refine TC.block (TC.a (TL.w z (indexN z underlying22 sz76 z z f0_1.rv.sl (by omega)) (TL.w z (loadSA Tip.zero z ag76 sz76 z f0_1 (by omega) (by omega)) (TL.op z (OpOk.alloc z ze76 z z (fun b218=> ?_))))))
    refine TL.op z (storeAll z sz76 z z z z z z ?_)
    refine TL.en (TC.a (TL.w z (loadLoc z ag86 z (i:=3) z z) (TL.w z (fieldLoc z fo76_0 z) (TL.w z (loadLoc z ag3 z (i:=0) z z) ?_))))
    have u83:=grd_c hh
    replace hh:=grd_t hh
    refine TL.isSl (i:=4) z (fun hs220 _ _=> ?_)
    refine TL.w z (OpVal.index z underlying86 sz3 z z hs220 u83.1 u83.2) (TL.w z (loadO1 (0:Int) z ag3 z (q:=4) z eIl_ (by omega) z) (TL.i z z (TL.en (TC.a (TL.i z z (TL.w z (OpVal.geq z z z) (TL.en (TC.cD z hh (fun h221 hh=> ?_) (fun h221 hh=> ?_)))))))))
    ·refine TC.region (TL.w z (fieldLoc z fo25_2 z) (TL.w z (loadLoc z ag22 z (i:=5) z z) (TL.i z z (TL.w z (fieldLoc z fo76_1 z) (TL.w z (loadLoc z ag9 z (i:=0) z z) (TL.w z (buildL z pl76 ze76 z) (TL.op z (OpOk.lit (enc:=encTip) [(⟨(nth l143 (((nth x0.ends k208 Tip.zero).state).toNat) (0:Int)),(nth x0.ends k208 Tip.zero).out⟩:Tip)] z underlying22 sz76 ze76 z z z encTip_len (by decide) (by decide) Tip.zero z (by decide) z (by decide) encTip_one (fun a222 c223=> ?_)))))))))
     refine TL.front 8 z z ?_
     have u95:=grd_c hh
     replace hh:=grd_t hh
     refine TL.op z (appendS z z underlying22 sz76 by76 ze76 z z (by decide) z z z (.inr ⟨_,0,z⟩) (by simpa using u95) (by decide) (fun a225 c226=> ?_))
     refine TL.w z (fieldLoc z fo25_2 z) (TL.front 7 z z (TL.op z (storeSl z sz22 z z z z z ?_)))
     exact TL.nil (B.n (S.n (cf ((l205++[(⟨(nth l143 (((nth x0.ends k208 Tip.zero).state).toNat) (0:Int)),(nth x0.ends k208 Tip.zero).out⟩:Tip)]),(a225,c226)) ⟨hh,hn203⟩ (Sub.f [1,8,2,8,8,8,8] 7))))
    exact TC.skip (B.n (S.n (cf (l205,(a206,c207)) ⟨hh,hn203⟩ (Sub.f [7,7,7,7,7,7,7] 7))))
   skip
   obtain ⟨l215,⟨a216,c217⟩⟩:=g
   obtain ⟨hh,hn214⟩:=hg
   try dsimp only at hn214 ⊢
   dsimp only [Do_]at hh
   have hn214b:=hn214
   refine TC.isSl (i:=3) z (fun _ hb227 _=> ?_)
   refine TC.isSl (i:=5) z (fun _ hb228 _=> ?_)
   refine TC.isSl (i:=6) z (fun _ hb229 _=> ?_)
   refine TC.region (TL.w z (OpVal.succ z z z (by omega)) (TL.i z z (TL.en ?_)))
   obtain ⟨hh,hlt230⟩:=nxt_x hR1 hh
   exact lf ((l215,(k208+1)),(a216,c217)) hlt230 ⟨hh,hn214⟩ (Sub.f [6,6,6,6,6,6,6] 7)
  refine TC.exit (S.x (S.x ?_))
  replace hh:=fin_x hR1 hh
  refine TC.exitHere (S.n (TC.seq (TC.a (TL.w z (fieldLoc z fo25_3 z) (TL.w z (loadLoc z ag23 z (i:=0) z z) (TL.w z (lenC z underlying23 z) (TL.i z z (TL.en (TC.block (TC.nilS 66 8 encArc (TC.loopG (α:=((List Arc)×Nat)×((Option Addr)×Nat)) (rgs [(15,3),(97,35)]) (fun g=>[(97,.int .i64 ((g.1.2:Nat):Int))]) (fun g=>[Res.cells b103 #[.int .i64 0,.slice none 0 0,.slice none 0 0,.slice none 0 0] 25,Res.cells b109 #[.slice a106 ((List.replicate x0.states.toNat (0:Int)).length) c107] 86,Res.rowS 3 1 eI_ (.slice a106 (List.replicate x0.states.toNat (0:Int)).length c107) l143,Res.cells b125 #[.int .i64 ((k145:Nat):Int),.slice a167 l166.length c168,.slice a206 l205.length c207,.slice g.2.1 g.1.1.length g.2.2] 25,Res.rowS 76 2 encTip (.slice a167 l166.length c168) l166,Res.rowS 76 2 encTip (.slice a206 l205.length c207) l205,Res.rowS 66 8 encArc (.slice g.2.1 g.1.1.length g.2.2) g.1.1]) (fun g=>τ146) (fun g=>iter (fun q:(List Arc)×Nat=>Bo_ x0 l143 k145 l166 l205 q.1 q.2) g.1=some r∧l143.length=(List.replicate x0.states.toNat (0:Int)).length) (fun g=>rounds (fun q:(List Arc)×Nat=>Bo_ x0 l143 k145 l166 l205 q.1 q.2) g.1) ((([]:List Arc),0),(none,0)) (Sub.f [7,7,7,7,7,7] 7) z (by repeat (first|exact trivial|refine ⟨z,?_⟩)) ⟨hh,hn203⟩ (fun g4 j4 hg4=> ?_))))))))))))
  obtain ⟨⟨l246,k249⟩,⟨a247,c248⟩⟩:=g4
  obtain ⟨hh,hn244⟩:=hg4
  try dsimp only at hn244 ⊢
  obtain ⟨z1,hh,hR1⟩:=iter_e hh
  dsimp only [Bo_]at hh
  have hn244b:=hn244
  refine TC.isSl (i:=2) z (fun _ hb251 _=> ?_)
  refine TC.isSl (i:=4) z (fun _ hb252 _=> ?_)
  refine TC.isSl (i:=5) z (fun _ hb253 _=> ?_)
  refine TC.isSl (i:=6) z (fun _ hb254 _=> ?_)
  refine TC.a (TL.w z (OpVal.lss z z z) (TL.en (TC.seq (TC.cD z hh (fun h255 hh=> ?_) (fun h255 hh=> ?_)))))
  ·refine TC.skip (S.n (TC.cutG (α:=((List Arc))×((Option Addr)×Nat)) (rgs [(15,3),(99,32)]) (fun g=>[]) (fun g=>[Res.cells b103 #[.int .i64 0,.slice none 0 0,.slice none 0 0,.slice none 0 0] 25,Res.cells b109 #[.slice a106 ((List.replicate x0.states.toNat (0:Int)).length) c107] 86,Res.rowS 3 1 eI_ (.slice a106 (List.replicate x0.states.toNat (0:Int)).length c107) l143,Res.cells b125 #[.int .i64 ((k145:Nat):Int),.slice a167 l166.length c168,.slice a206 l205.length c207,.slice g.2.1 g.1.length g.2.2] 25,Res.rowS 76 2 encTip (.slice a167 l166.length c168) l166,Res.rowS 76 2 encTip (.slice a206 l205.length c207) l205,Res.rowS 66 8 encArc (.slice g.2.1 g.1.length g.2.2) g.1]) (fun g=>τ146) (fun g=>Cv_ k249 g.1=some z1∧l143.length=(List.replicate x0.states.toNat (0:Int)).length) ?_ (fun g j hg=> ?_)))
   ·skip
    refine TC.block (TC.a (TL.w z (indexN z underlying23 sz66 z z f0_2.rv.sl (by omega)) (TL.w z (loadSA Arc.zero z ag66 sz66 z f0_2 (by omega) (by omega)) (TL.op z (OpOk.alloc z ze66 z z (fun b260=> ?_))))))
    refine TL.op z (storeAll z sz66 z z z z z z ?_)
    refine TL.en (TC.seq ?_)
    have u112:=grd_c hh
    replace hh:=grd_t hh
    have u117:=grd_c hh
    replace hh:=grd_t hh
    refine TC.draw [] (by kernel_rfl) (TA.b 0 z (loadLoc z ag86 z (i:=2) z z) z (TA.a 1 z (fieldLoc z fo66_0 z) z (TA.b 2 z (loadLoc z ag3 z (i:=0) z z) z (TA.isSl (i:=3) z (fun hs264 _ _=> ?_)))))
    refine TA.b 3 z (OpVal.index z underlying86 sz3 z z hs264 u112.1 u112.2) z (TA.b 4 z (loadO1 (0:Int) z ag3 z (q:=3) z eIl_ (by omega) z) z (TA.b 5 z (loadLoc z ag86 z (i:=2) z z) z (TA.a 6 z (fieldLoc z fo66_1 z) z (TA.b 7 z (loadLoc z ag3 z (i:=0) z z) z (TA.isSl (i:=3) z (fun hs265 _ _=> ?_))))))
    refine TA.b 8 z (OpVal.index z underlying86 sz3 z z hs265 u117.1 u117.2) z (TA.b 9 z (loadO1 (0:Int) z ag3 z (q:=3) z eIl_ (by omega) z) z (TA.a 10 z (moveI (.inr z) z) z (TA.a 11 z (moveI (.inr z) z) z (TA.dn (S.n (TC.a (TL.i z z (TL.w z (OpVal.geq z z z) (TL.j z z (TL.split 113 z (fun h266=> ?_) (fun h266=> ?_)))))))))))
    ·replace hh:=iteO_t h266 hh
     replace h266:=of_decide_eq_true h266
     refine TL.g z (moveI (.inl z) z) (TL.g z (OpVal.geq z z z) (TL.w z (pickTB z z z) (TL.en (TC.cD z hh (fun h267 hh=> ?_) (fun h267 hh=> ?_)))))
     ·refine TC.region (TL.w z (fieldLoc z fo25_3 z) (TL.w z (loadLoc z ag23 z (i:=4) z z) (TL.i z z (TL.i z z (TL.w z (fieldLoc z fo66_2 z) (TL.w z (loadLocA z ag64 sz64 z (i:=0) z z z) (TL.w z (fieldLoc z fo66_3 z) (TL.w z (loadLoc z ag9 z (i:=0) z z) (TL.w z (fieldLoc z fo66_4 z) (TL.w z (loadLoc z ag4 z (i:=0) z z) (TL.w z (buildL z pl66 ze66 z) (TL.op z (OpOk.lit (enc:=encArc) [(⟨(nth l143 (((nth x0.arcs k249 Arc.zero).frm).toNat) (0:Int)),(nth l143 (((nth x0.arcs k249 Arc.zero).to).toNat) (0:Int)),(nth x0.arcs k249 Arc.zero).set,(nth x0.arcs k249 Arc.zero).out,(nth x0.arcs k249 Arc.zero).copy⟩:Arc)] z underlying23 sz66 ze66 z z z encArc_len (by decide) (by decide) Arc.zero z (by decide) z (by decide) encArc_one (fun a268 c269=> ?_))))))))))))))
      refine TL.front 8 z z ?_
      have u139:=grd_c hh
      replace hh:=grd_t hh
      refine TL.op z (appendS z z underlying23 sz66 by66 ze66 z z (by decide) z z z (.inr ⟨_,0,z⟩) (by simpa using u139) (by decide) (fun a271 c272=> ?_))
      refine TL.w z (fieldLoc z fo25_3 z) (TL.front 6 z z (TL.op z (storeSl z sz23 z z z z z ?_)))
      exact TL.nil (B.n (S.n (cf ((l246++[(⟨(nth l143 (((nth x0.arcs k249 Arc.zero).frm).toNat) (0:Int)),(nth l143 (((nth x0.arcs k249 Arc.zero).to).toNat) (0:Int)),(nth x0.arcs k249 Arc.zero).set,(nth x0.arcs k249 Arc.zero).out,(nth x0.arcs k249 Arc.zero).copy⟩:Arc)]),(a271,c272)) ⟨hh,hn244⟩ (Sub.f [1,8,8,3,8,8,8] 7))))
     exact TC.skip (B.n (S.n (cf (l246,(a247,c248)) ⟨hh,hn244⟩ (Sub.f [7,7,7,7,7,7,7] 7))))
    replace hh:=iteO_f h266 hh
    replace h266:=of_decide_eq_false h266
    exact TL.f z (TL.f z (TL.w z (pickFB z z z) (TL.en (TC.f z (TC.skip (B.n (S.n (cf (l246,(a247,c248)) ⟨hh,hn244⟩ (Sub.f [7,7,7,7,7,7,7] 7)))))))))
   skip
   obtain ⟨l257,⟨a258,c259⟩⟩:=g
   obtain ⟨hh,hn256⟩:=hg
   try dsimp only at hn256 ⊢
   dsimp only [Cv_]at hh
   have hn256b:=hn256
   refine TC.isSl (i:=2) z (fun _ hb273 _=> ?_)
   refine TC.isSl (i:=4) z (fun _ hb274 _=> ?_)
   refine TC.isSl (i:=5) z (fun _ hb275 _=> ?_)
   refine TC.isSl (i:=6) z (fun _ hb276 _=> ?_)
   refine TC.region (TL.w z (OpVal.succ z z z (by omega)) (TL.i z z (TL.en ?_)))
   obtain ⟨hh,hlt277⟩:=nxt_x hR1 hh
   exact lf ((l257,(k249+1)),(a258,c259)) hlt277 ⟨hh,hn256⟩ (Sub.f [6,6,6,6,6,6,6] 7)
  refine TC.exit (S.x (S.x ?_))
  replace hh:=fin_x hR1 hh
  refine TC.exitHere (S.n (TC.a (TL.w z (loadAll z ag25 sz25 z (i:=3) z z) (TL.front 4 z z (TL.sealS encTip_len (fun τ280 hle279 hr278=> ?_))))))
  have hr278b:=hr278.rv.big
  refine TL.front 4 z z (TL.sealS encTip_len (fun τ283 hle282 hr281=> ?_))
  replace hr278:=hr278.mono hle282
  have hr281b:=hr281.rv.big
  refine TL.front 4 z z (TL.sealS encArc_len (fun τ286 hle285 hr284=> ?_))
  replace hr278:=hr278.mono hle285
  replace hr281:=hr281.mono hle285
  have hr284b:=hr284.rv.big
  obtain ⟨v145,u145,hh⟩:=bnd_e hh
  refine TL.op z (OpOk.call (Gq_ (x0:=(⟨((k145:Nat):Int),l166,l205,l246⟩:Fst)) hr278 hr281 hr284 u145) z z pf56 z z z z ?_)
  rintro _ τ287 _ hle287 ⟨a287_1,c287_1,a287_2,c287_2,a287_3,c287_3,rfl,hr287_0,hr287_1,hr287_2,rfl⟩
  have hr287_0b:=hr287_0.rv.big
  have hr287_1b:=hr287_1.rv.big
  have hr287_2b:=hr287_2.rv.big
  refine TL.w z (OpVal.extract z z z) (TL.w z (OpVal.extract z z z) (TL.op z (storeAll z sz25 z z z z z z ?_)))
  refine TL.i z z (TL.en (TC.rt 1 ?_))
  obtain rfl:=so hh
  exact ro [] z (RVs.agg ag25 sz25 z (i:=0) z z (RVs.tmp z RVs.nil)) ⟨a287_1,c287_1,a287_2,c287_2,a287_3,c287_3,z,hr287_0,hr287_1,hr287_2,z⟩
 intro m_ c_ hh hc_
 exact jl_nil hc_
end Go.Proofs.YtchebnpdnfhenaaGreatDoor
end

noncomputable section
namespace Go.E
open Go
structure TLag where
  p:Int
  q:Int
  a:List UInt8
  b:List UInt8
  deriving DecidableEq
def TLag.zero:TLag:=⟨0,0,[],[]⟩
structure Walk where
  t:Fst
  arcs:List (List Arc)
  most:Int
end Go.E
end

noncomputable section
namespace Go.E
open Go Go.Sort Go.Proofs Go.Shelf
theorem OpVal.minI{P:Program}{n:Nat}{e:Env}{H:List Res}{o:Oper}{x y:Operand}{ts:Array TypeId}{k k':IntKind}{a b:Int}(ho:o.op= .call {callee:= .builtin .min,args:= #[x,y],argTypes:=ts})(hx:ev e x= .int k a)(hy:ev e y= .int k' b):OpVal P n o e σ H (.int k (min a b)):=fun w _=>by
  have h:(if b<a then b else a)=min a b:=by rw [Int.min_def];split<;>split<;>omega
  simp [execOp,ho,resolve,invoke,builtin,hx,hy,Builtin.min_,Builtin.min2,h]
end Go.E
end

noncomputable section
namespace Go.E
open Go
structure ReLeaf where
  kind:Int
  text:List UInt8
  set:BSet
  min:Int
  max:Int
  deriving DecidableEq
def ReLeaf.zero:ReLeaf:=⟨0,[],BSet.zero,0,0⟩
structure ReRoot where
  kind:Int
  text:List UInt8
  set:BSet
  parts:List ReLeaf
  min:Int
  max:Int
def ReRoot.zero:ReRoot:=⟨0,[],BSet.zero,[],0,0⟩
end Go.E
end

noncomputable section
namespace Go.Proofs.YtchebnpdnfhenaaGreatDoor
open Go Go.E Go.E.OpVal Go.E.OpOk Go.Proofs.Tryz
theorem pf155:plainF Tryz.prog 155=true:=by kernel_rfl
def Ce_(x0:List UInt8)(x1:List UInt8)(k103:Nat):Option ((Nat)⊕(Int)):=
 iteO (decide (((k103:Nat):Int)<(min ((x0.length:Nat):Int) ((x1.length:Nat):Int)))) (grd (k103<x0.length) (grd (k103<x1.length) (iteO (decide ((((nth x0 k103 (0:UInt8)).toNat:Nat):Int)≠(((nth x1 k103 (0:UInt8)).toNat:Nat):Int))) (fin (some ((k103:Nat):Int))) (nxt (k103+1))))) (fin (some (min ((x0.length:Nat):Int) ((x1.length:Nat):Int))))
def D4_(x0:List UInt8)(x1:List UInt8):Option (Int):=
 grd (x0.length≤281474976710656) (grd (x1.length≤281474976710656) (iter (fun q:Nat=>Ce_ x0 x1 q) 0))
theorem Fm_{x0:List UInt8}{x1:List UInt8}{r:Int}(hh:D4_ x0 x1=some r):
  Con Tryz.prog 155 #[.string (bs x0),.string (bs x1)] σ [] (PureP (.int .i64 r) σ):=by
 dsimp only [D4_]at hh
 refine Con.mk (n:=26) Tryz.func155 z z z (fun w0=> ?_)
 have x0b:=grd_c hh
 replace hh:=grd_t hh
 have x1b:=grd_c hh
 replace hh:=grd_t hh
 refine TC.a (TL.i z z (TL.en (TC.a (TL.w z (moveStr (.inl z) z) (TL.w z (lenBs z underlying9 z) (TL.w z (moveStr (.inl z) z) (TL.w z (lenBs z underlying9 z) (TL.w z (minI z z z) (TL.i z z (TL.en (TC.seq (TC.a (TL.i z z (TL.i z z (TL.en ?_)))))))))))))))
 refine TC.block (TC.loopG (α:=(Nat)×(Unit)) (rgs [(4,1),(6,1),(13,12)]) (fun g=>[(13,.int .i64 ((g.1:Nat):Int))]) (fun g=>[]) (fun g=>σ) (fun g=>iter (fun q:Nat=>Ce_ x0 x1 q) g.1=some r) (fun g=>rounds (fun q:Nat=>Ce_ x0 x1 q) g.1) (0,()) (Sub.pre 0 z) z (by repeat (first|exact trivial|refine ⟨z,?_⟩)) hh (fun g1 j1 hg1=> ?_))
 obtain ⟨k103,_⟩:=g1
 have hh:=hg1;clear hg1
 try dsimp only
 obtain ⟨z1,hh,hR1⟩:=iter_e hh
 dsimp only [Ce_]at hh
 refine TC.a (TL.w z (OpVal.lss z z z) (TL.en (TC.seq (TC.cD z hh (fun h104 hh=> ?_) (fun h104 hh=> ?_)))))
 ·refine TC.skip (S.n (TC.seq (TC.block (TC.a (TL.i z z (TL.i z z (TL.en (TC.seq ?_))))))))
  have u15:=grd_c hh
  replace hh:=grd_t hh
  have u18:=grd_c hh
  replace hh:=grd_t hh
  refine TC.draw [] (by kernel_rfl) (TA.a 0 z (moveStr (.inl z) z) z (TA.a 1 z (moveI (.inl z) z) z (TA.a 2 z (indexBs z underlying9 z z (by omega)) z (TA.a 3 z (moveStr (.inl z) z) z (TA.a 4 z (moveI (.inl z) z) z (TA.a 5 z (indexBs z underlying9 z z (by omega)) z (TA.a 6 z (OpVal.neq z z z) z (TA.dn (S.n (TC.cD z hh (fun h105 hh=> ?_) (fun h105 hh=> ?_)))))))))))
  ·refine TC.a (TL.i z z (TL.i z z (TL.en (TC.ret (B.r (S.r (S.r ?_)))))))
   replace hh:=fin_x hR1 hh
   refine B.r (S.r ?_)
   obtain rfl:=so hh
   exact rq [4] ⟨z,z,z⟩
  refine TC.skip (B.n (S.n (TC.region (TL.w z (OpVal.succ z z z (by omega)) (TL.i z z (TL.en ?_))))))
  obtain ⟨hh,hlt106⟩:=nxt_x hR1 hh
  exact lf ((k103+1),()) hlt106 hh (Sub.pre 0 z)
 refine TC.exit (S.x (S.x ?_))
 replace hh:=fin_x hR1 hh
 refine TC.exitHere (S.n (TC.a (TL.i z z (TL.i z z (TL.en (TC.ret ?_))))))
 obtain rfl:=so hh
 exact rq [4] ⟨z,z,z⟩
def En_(x0:List UInt8)(x1:List UInt8):Option ((List UInt8)×(List UInt8)):=
 grd (x0.length≤281474976710656) (grd (x1.length≤281474976710656) (bnd (D4_ x0 x1) (fun v5=>grd (0≤v5∧v5.toNat≤x0.length∧x0.length≤x0.length) (grd (0≤v5∧v5.toNat≤x1.length∧x1.length≤x1.length) (some ((x0.drop v5.toNat),(x1.drop v5.toNat)))))))
theorem F3_{x0:List UInt8}{x1:List UInt8}{r:(List UInt8)×(List UInt8)}(hh:En_ x0 x1=some r):
  Con Tryz.prog 146 #[.string (bs x0),.string (bs x1)] σ [] (PureP (.tuple #[.string (bs r.1),.string (bs r.2)]) σ):=by
 dsimp only [En_]at hh
 refine Con.mk (n:=16) Tryz.func146 z z z (fun w0=> ?_)
 have x0b:=grd_c hh
 replace hh:=grd_t hh
 have x1b:=grd_c hh
 replace hh:=grd_t hh
 refine TC.a (TL.w z (moveStr (.inr z) z) (TL.w z (moveStr (.inr z) z) (TL.en (TC.a (TL.w z (moveStr (.inl z) z) (TL.w z (moveStr (.inl z) z) ?_))))))
 obtain ⟨v5,u5,hh⟩:=bnd_e hh
 refine TL.op z (callP (Fm_ u5) z z pf155 z z z ?_)
 refine TL.i z z (TL.en (TC.seq ?_))
 have u9:=grd_c hh
 replace hh:=grd_t hh
 have u12:=grd_c hh
 replace hh:=grd_t hh
 refine TC.draw [] (by kernel_rfl) (TA.a 0 z (moveStr (.inl z) z) z (TA.a 1 z (moveI (.inl z) z) z (TA.b 2 rfl (sliceBsL (l:=x0) (i:=v5.toNat) rfl underlying9 rfl (by show Value.int _ _=_;rw [Int.toNat_of_nonneg (by omega)]) (by omega) (by omega)) rfl (TA.a 3 z (moveStr (.inl z) z) z (TA.a 4 z (moveI (.inl z) z) z (TA.b 5 rfl (sliceBsL (l:=x1) (i:=v5.toNat) rfl underlying9 rfl (by show Value.int _ _=_;rw [Int.toNat_of_nonneg (by omega)]) (by omega) (by omega)) rfl (TA.a 6 z (moveStr (.inr z) z) z (TA.a 7 z (moveStr (.inr z) z) z (TA.dn (S.n (TC.ret ?_)))))))))))
 obtain rfl:=so hh
 exact rq [4,5] ⟨z,z,z⟩
def A6_(x1:BSet)(z111:BSet)(k112:Nat):Option ((BSet×Nat)⊕(BSet)):=
 iteO (decide (((k112:Nat):Int)<4)) (grd (k112<4) (grd (k112<4) (grd (k112<4) (grd ((u64and (BSet.word z111 k112) (BSet.word x1 k112))<18446744073709551616) (nxt ((BSet.setWord z111 k112 (u64and (BSet.word z111 k112) (BSet.word x1 k112))),(k112+1))))))) (fin (some z111))
def Cj_(x0:BSet)(x1:BSet):Option (BSet):=
 iter (fun q:BSet×Nat=>A6_ x1 q.1 q.2) (x0,0)
theorem E6_{x0:BSet}{x1:BSet}{r:BSet}(hh:Cj_ x0 x1=some r):
  Con Tryz.prog 171 #[setV x0,setV x1] σ [] (PureP (setV r) σ):=by
 dsimp only [Cj_]at hh
 refine Con.mk (n:=19) Tryz.func171 z z z (fun w0=> ?_)
 refine TC.a (TL.op z (boxA z z z z (fun b101=> ?_)))
 refine TL.op z (boxA z z z z (fun b103=> ?_))
 refine TL.op z (OpOk.alloc z ze64 z z (fun b105=> ?_))
 refine TL.en (TC.seq (TC.a (TL.i z z (TL.en (TC.block (TC.loopG (α:=(BSet×Nat)×(Unit)) (rgs [(5,13)]) (fun g=>[(6,.int .i64 ((g.1.2:Nat):Int))]) (fun g=>[Res.cells b101 (setA g.1.1) 64,Res.cells b103 (setA x1) 64,Res.cells b105 (setA BSet.zero) 64]) (fun g=>σ) (fun g=>iter (fun q:BSet×Nat=>A6_ x1 q.1 q.2) g.1=some r) (fun g=>rounds (fun q:BSet×Nat=>A6_ x1 q.1 q.2) g.1) ((x0,0),()) (Sub.f [1,2] 3) z (by repeat (first|exact trivial|refine ⟨z,?_⟩)) hh (fun g1 j1 hg1=> ?_)))))))
 obtain ⟨⟨z111,k112⟩,_⟩:=g1
 have hh:=hg1;clear hg1
 try dsimp only
 obtain ⟨z1,hh,hR1⟩:=iter_e hh
 dsimp only [A6_]at hh
 refine TC.a (TL.w z (OpVal.lss z z z) (TL.en (TC.seq (TC.cD z hh (fun h113 hh=> ?_) (fun h113 hh=> ?_)))))
 ·refine TC.skip (S.n (TC.seq (TC.block (TC.a (TL.i z z (TL.i z z (TL.en ?_)))))))
  have u9:=grd_c hh
  replace hh:=grd_t hh
  have u12:=grd_c hh
  replace hh:=grd_t hh
  have u15:=grd_c hh
  replace hh:=grd_t hh
  have u16:=grd_c hh
  replace hh:=grd_t hh
  refine TC.draw [8] (by kernel_rfl) (TA.a 0 z (moveI (.inl z) z) z (TA.b 1 z (indexArrN z underlying64 sz62 z z (by omega)) z (TA.b 2 z (loadWordAt z111 z ag62 z (j:=0) z (by omega) z) z (TA.a 3 z (moveI (.inl z) z) z (TA.b 4 z (indexArrN z underlying64 sz62 z z (by omega)) z (TA.b 5 z (loadWordAt x1 z ag62 z (j:=1) z (by omega) z) z (TA.a 6 z (andU z z z) z (TA.b 7 z (indexArrN z underlying64 sz62 z z (by omega)) z (TA.last 8 (by kernel_rfl) z z z (storeWord z sz62 z z z (by omega) u16 ?_))))))))))
  refine TZ.done (by kernel_rfl) (B.n (S.n (TC.region (TL.w z (OpVal.succ z z z (by omega)) (TL.i z z (TL.en ?_))))))
  obtain ⟨hh,hlt114⟩:=nxt_x hR1 hh
  exact lf (((BSet.setWord z111 k112 (u64and (BSet.word z111 k112) (BSet.word x1 k112))),(k112+1)),()) hlt114 hh (Sub.f [2,2,2] 3)
 refine TC.exit (S.x (S.x ?_))
 replace hh:=fin_x hR1 hh
 refine TC.exitHere (S.n (TC.a (TL.w z (loadAll z ag64 sz64 z (i:=0) z z) (TL.front 2 z z (TL.op z (storeAll z sz64 z z z z z z ?_))))))
 refine TL.en (TC.rt 1 ?_)
 obtain rfl:=so hh
 exact ro [] z (RVs.agg ag64 sz64 z (i:=0) z z RVs.nil) ⟨z,z,z⟩
end Go.Proofs.YtchebnpdnfhenaaGreatDoor
end

noncomputable section
namespace Go.E
open Go
theorem OpVal.gtrBs{P:Program}{n:Nat}{e:Env}{H:List Res}{o:Oper}{x y:Operand}{l m:List UInt8}{T T':TypeId}(ho:o.op= .binOp .gtr T x y T')(hx:ev e x= .string (bs l))(hy:ev e y= .string (bs m)):OpVal P n o e σ H (.bool (!(decide (Lib.compareBytes l m<0) || l == m))):=fun w _=>by
  simp only [execOp,ho,hx,hy,Sem.run_bind,run_eqGuard_str,Result.andThen_ok,binOp,Op.stringOp,ByteArray.toList_eq,bs_list,bytesLess_eq,Sem.run_pure]
end Go.E
end

noncomputable section
namespace Go.Proofs.YtchebnpdnfhenaaGreatDoor
open Go Go.E Go.E.OpVal Go.E.OpOk Go.Proofs.Tryz
theorem pf154:plainF Tryz.prog 154=true:=by kernel_rfl
theorem pf186:plainF Tryz.prog 186=true:=by kernel_rfl
def isNaNS(x0:List UInt8):Option (Bool):=
 some (decide (x0≠x0))
theorem isNaNS_con{x0:List UInt8}{r:Bool}(hh:isNaNS x0=some r):
  Con Tryz.prog 186 #[.string (bs x0)] σ [] (PureP (.bool r) σ):=by
 dsimp only [isNaNS]at hh
 refine Con.mk (n:=6) Tryz.func186 z z z (fun w0=> ?_)
 refine TC.a (TL.j z z (TL.en (TC.a (TL.w z (moveStr (.inl z) z) (TL.w z (moveStr (.inl z) z) (TL.w z (neqBs z z z) (TL.j z z (TL.en (TC.ret ?_)))))))))
 obtain rfl:=so hh
 exact rq [2] ⟨z,z,z⟩
def compareS(x0:List UInt8)(x1:List UInt8):Option (Int):=
 bnd (isNaNS x0) (fun v3=>bnd (isNaNS x1) (fun v6=>iteO v3 (iteO v6 (some 0) (some (-1))) (iteO v6 (some 1) (iteO (decide (Lib.compareBytes x0 x1<0)) (some (-1)) (iteO (!(decide (Lib.compareBytes x0 x1<0) || x0 == x1)) (some 1) (some 0))))))
theorem compareS_con{x0:List UInt8}{x1:List UInt8}{r:Int}(hh:compareS x0 x1=some r):
  Con Tryz.prog 154 #[.string (bs x0),.string (bs x1)] σ [] (PureP (.int .i64 r) σ):=by
 dsimp only [compareS]at hh
 refine Con.mk (n:=20) Tryz.func154 z z z (fun w0=> ?_)
 refine TC.a (TL.i z z (TL.en (TC.a (TL.w z (moveStr (.inl z) z) ?_))))
 obtain ⟨v3,u3,hh⟩:=bnd_e hh
 refine TL.op z (callP (isNaNS_con u3) z z pf186 z z z ?_)
 refine TL.j z z (TL.en (TC.a (TL.w z (moveStr (.inl z) z) ?_)))
 obtain ⟨v6,u6,hh⟩:=bnd_e hh
 refine TL.op z (callP (isNaNS_con u6) z z pf186 z z z ?_)
 refine TL.j z z (TL.en (TC.seq (TC.a (TL.j z z (TL.en (TC.cB z hh (fun h101 hh=> ?_) (fun h101 hh=> ?_)))))))
 ·refine TC.seq (TC.a (TL.j z z (TL.en (TC.cB z hh (fun h102 hh=> ?_) (fun h102 hh=> ?_)))))
  ·refine TC.a (TL.i z z (TL.en (TC.ret (S.r (S.r ?_)))))
   obtain rfl:=so hh
   exact rq [4] ⟨z,z,z⟩
  refine TC.skip (S.n (TC.a (TL.i z z (TL.en (TC.ret (S.r ?_))))))
  obtain rfl:=so hh
  exact rq [4] ⟨z,z,z⟩
 refine TC.skip (S.n (TC.seq (TC.a (TL.j z z (TL.en (TC.cB z hh (fun h103 hh=> ?_) (fun h103 hh=> ?_)))))))
 ·refine TC.a (TL.i z z (TL.en (TC.ret (S.r ?_))))
  obtain rfl:=so hh
  exact rq [4] ⟨z,z,z⟩
 refine TC.skip (S.n (TC.seq (TC.a (TL.w z (moveStr (.inl z) z) (TL.w z (moveStr (.inl z) z) (TL.w z (lssBs z z z) (TL.en (TC.cD z hh (fun h104 hh=> ?_) (fun h104 hh=> ?_)))))))))
 ·refine TC.a (TL.i z z (TL.en (TC.ret (S.r ?_))))
  obtain rfl:=so hh
  exact rq [4] ⟨z,z,z⟩
 refine TC.skip (S.n (TC.seq (TC.a (TL.w z (moveStr (.inl z) z) (TL.w z (moveStr (.inl z) z) (TL.w z (gtrBs z z z) (TL.en (TC.cB z hh (fun h105 hh=> ?_) (fun h105 hh=> ?_)))))))))
 ·refine TC.a (TL.i z z (TL.en (TC.ret (S.r ?_))))
  obtain rfl:=so hh
  exact rq [4] ⟨z,z,z⟩
 refine TC.skip (S.n (TC.a (TL.i z z (TL.en (TC.ret ?_)))))
 obtain rfl:=so hh
 exact rq [4] ⟨z,z,z⟩
def Ep_(x0:Tip)(x1:Tip):Option (Int):=
 bnd (B5_ x0.state x1.state) (fun v8=>bnd (compareS x0.out x1.out) (fun v13=>bnd (Fc_ [v8,v13]) (fun v15=>some v15)))
theorem Gg_{x0:Tip}{x1:Tip}{r:Int}(hh:Ep_ x0 x1=some r):
  Con Tryz.prog 125 #[.agg #[.int .i64 x0.state,.string (bs x0.out)],.agg #[.int .i64 x1.state,.string (bs x1.out)]] σ [] (PureP (.int .i64 r) σ):=by
 dsimp only [Ep_]at hh
 refine Con.mk (n:=17) Tryz.func125 z z z (fun w0=> ?_)
 refine TC.a (TL.op z (boxA z z z z (fun b101=> ?_)))
 refine TL.op z (boxA z z z z (fun b103=> ?_))
 refine TL.i z z (TL.en (TC.seq ?_))
 obtain ⟨v8,u8,hh⟩:=bnd_e hh
 obtain ⟨v13,u13,hh⟩:=bnd_e hh
 obtain ⟨v15,u15,hh⟩:=bnd_e hh
 refine TC.draw [] (by kernel_rfl) (TA.a 0 z (fieldLoc z fo76_0 z) z (TA.b 1 z (loadLoc z ag3 z (i:=1) z z) z (TA.a 2 z (fieldLoc z fo76_0 z) z (TA.b 3 z (loadLoc z ag3 z (i:=0) z z) z (TA.a 5 z (fieldLoc z fo76_1 z) z (TA.b 6 z (loadLoc z ag9 z (i:=1) z z) z (TA.a 7 z (fieldLoc z fo76_1 z) z (TA.b 8 z (loadLoc z ag9 z (i:=0) z z) z (TA.ac 4 z (callP (Cy_ u8) z z pf135 z z z (k0 ?_)))))))))))
 refine TA.ac 9 z (callP (compareS_con u13) z z pf154 z z z (k0 ?_))
 refine TA.ac 10 z (OpOk.lit (enc:=eI_) [v8,v13] z underlying86 sz3 ze3 z z z eIl_ (by decide) (by decide) (0:Int) z (by decide) z (by decide) eIo_ (fun a110 c111=>(k1 ?_)))
 refine TA.ac 11 z (callK (Con.lend eIl_ (fun _ hle114 hr113=>Ft_ hr113 u15)) z z pf134 z z z z (k1 ?_))
 refine TA.a 12 z (moveI (.inr z) z) z (TA.dn (S.n (TC.rt 0 ?_)))
 obtain rfl:=so hh
 exact rq [4] ⟨z,z,z⟩
end Go.Proofs.YtchebnpdnfhenaaGreatDoor
end
