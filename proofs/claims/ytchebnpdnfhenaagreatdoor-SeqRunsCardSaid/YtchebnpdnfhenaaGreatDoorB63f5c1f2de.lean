/- Parts of a proof, one behind the other: what a machine reaches, functions decompiled, plain lemmas. Conditions stand with each lemma. -/
import Derived.Test.YtchebnpdnfhenaaGreatDoorB4e122d438a
import Derived.Shelf.SlSortCmp.NoneTotal
import Derived.Lib.Builder
import Derived.Lib.AppendStr
import Derived.Lib.UnsafeStr

set_option linter.unusedVariables false
set_option linter.unusedSimpArgs false
set_option linter.unusedSectionVars false
set_option maxRecDepth 100000
set_option maxHeartbeats 8000000
variable {σ:Go.E.Store}{a0_0 a0_1 a0_2 a0_3 a1_0:Option Go.Addr}{b0_0 c0_0 c0_1 c0_2 c0_3 c1_0:Nat}

noncomputable section
namespace Go.Proofs.YtchebnpdnfhenaaGreatDoor
open Go Go.E Go.E.OpVal Go.E.OpOk Go.Proofs.Tryz
theorem ag22:aggOf Tryz.prog 22=some false:=by kernel_rfl
theorem ag23:aggOf Tryz.prog 23=some false:=by kernel_rfl
theorem ag3:aggOf Tryz.prog 3=some false:=by kernel_rfl
theorem ag66:aggOf Tryz.prog 66=some true:=by kernel_rfl
theorem ag76:aggOf Tryz.prog 76=some true:=by kernel_rfl
theorem ag9:aggOf Tryz.prog 9=some false:=by kernel_rfl
theorem eg64:Tryz.prog.eqGuardType Tryz.prog.depth 64=false:=by kernel_rfl
theorem fo25_0:foOf Tryz.prog 25 0=some 0:=by kernel_rfl
theorem fo25_1:foOf Tryz.prog 25 1=some 1:=by kernel_rfl
theorem fo25_2:foOf Tryz.prog 25 2=some 2:=by kernel_rfl
theorem fo25_3:foOf Tryz.prog 25 3=some 3:=by kernel_rfl
theorem fo66_0:foOf Tryz.prog 66 0=some 0:=by kernel_rfl
theorem fo66_1:foOf Tryz.prog 66 1=some 1:=by kernel_rfl
theorem fo66_2:foOf Tryz.prog 66 2=some 2:=by kernel_rfl
theorem fo66_3:foOf Tryz.prog 66 3=some 6:=by kernel_rfl
theorem fo76_0:foOf Tryz.prog 76 0=some 0:=by kernel_rfl
theorem fo76_1:foOf Tryz.prog 76 1=some 1:=by kernel_rfl
theorem pf100:plainF Tryz.prog 100=true:=by kernel_rfl
theorem pf83:plainF Tryz.prog 83=true:=by kernel_rfl
theorem pf84:plainF Tryz.prog 84=true:=by kernel_rfl
theorem sz66:szOf Tryz.prog 66=some 8:=by kernel_rfl
theorem sz76:szOf Tryz.prog 76=some 2:=by kernel_rfl
theorem ze66:zeroOf Tryz.prog 66=some (.agg #[.int .i64 0,.int .i64 0,.int .u64 0,.int .u64 0,.int .u64 0,.int .u64 0,.string ByteArray.empty,.bool false]):=by kernel_rfl
theorem ze76:zeroOf Tryz.prog 76=some (.agg #[.int .i64 0,.string ByteArray.empty]):=by kernel_rfl
def Dn_(x0:Int)(x1:Int):Option (Bool):=
 iteO (decide (0≤x0)) (some (decide (x0<x1))) (some false)
theorem Ei_{x0:Int}{x1:Int}{r:Bool}(hh:Dn_ x0 x1=some r):
  Con Tryz.prog 84 #[.int .i64 x0,.int .i64 x1] σ [] (PureP (.bool r) σ):=by
 dsimp only [Dn_]at hh
 refine Con.mk (n:=12) Tryz.func84 z z z (fun w0=> ?_)
 refine TC.a (TL.j z z (TL.en (TC.a (TL.i z z (TL.w z (OpVal.leq z z z) (TL.j z z (TL.split 7 z (fun h101=> ?_) (fun h101=> ?_))))))))
 ·replace hh:=iteO_t h101 hh
  replace h101:=of_decide_eq_true h101
  refine TL.g z (moveI (.inl z) z) (TL.g z (moveI (.inl z) z) (TL.g z (OpVal.lss z z z) (TL.w z (pickTB z z z) (TL.j z z (TL.en (TC.ret ?_))))))
  obtain rfl:=so hh
  exact rq [4] ⟨z,z,z⟩
 replace hh:=iteO_f h101 hh
 replace h101:=of_decide_eq_false h101
 refine TL.f z (TL.f z (TL.f z (TL.w z (pickFB z z z) (TL.j z z (TL.en (TC.ret ?_))))))
 obtain rfl:=so hh
 exact rq [4] ⟨z,z,z⟩
def Bp_(x0:List Tip)(x1:Int)(k104:Nat):Option ((Nat)⊕(Bool)):=
 iteO (decide (((k104:Nat):Int)<((x0.length:Nat):Int))) (bnd (Dn_ ((nth x0 k104 Tip.zero).state) x1) (fun v17=>iteO (!v17) (fin (some false)) (iteO (decide (1024<((((nth x0 k104 Tip.zero).out).length:Nat):Int))) (fin (some false)) (nxt (k104+1))))) (fin (some true))
def Cn_(x0:List Tip)(x1:Int):Option (Bool):=
 iteO (decide (1024<((x0.length:Nat):Int))) (some false) (iter (fun q:Nat=>Bp_ x0 x1 q) 0)
theorem Ej_{x0:List Tip}{x1:Int}(f0_0:RS σ 2 encTip (.slice a0_0 x0.length c0_0) x0){r:Bool}(hh:Cn_ x0 x1=some r):
  Con Tryz.prog 83 #[.slice a0_0 x0.length c0_0,.int .i64 x1] σ [] (PureP (.bool r) σ):=by
 dsimp only [Cn_]at hh
 have f0_0b:=f0_0.rv.big
 refine Con.mk (n:=28) Tryz.func83 z z z (fun w0=> ?_)
 refine TC.a (TL.j z z (TL.en (TC.seq (TC.a (TL.s z z (TL.w z (lenC z underlying22 z) (TL.w z (OpVal.gtr z z z) (TL.en (TC.cD z hh (fun h101 hh=> ?_) (fun h101 hh=> ?_))))))))))
 ·refine TC.a (TL.j z z (TL.en (TC.ret (S.r ?_))))
  obtain rfl:=so hh
  exact rq [4] ⟨z,z,z⟩
 refine TC.skip (S.n (TC.seq (TC.a (TL.s z z (TL.w z (lenC z underlying22 z) (TL.i z z (TL.en (TC.block (TC.loopG (α:=(Nat)×(Unit)) (rgs [(4,1),(6,1),(12,16)]) (fun g=>[(12,.int .i64 ((g.1:Nat):Int))]) (fun g=>[]) (fun g=>σ) (fun g=>iter (fun q:Nat=>Bp_ x0 x1 q) g.1=some r) (fun g=>rounds (fun q:Nat=>Bp_ x0 x1 q) g.1) (0,()) (Sub.pre 0 z) z (by repeat (first|exact trivial|refine ⟨z,?_⟩)) hh (fun g1 j1 hg1=> ?_))))))))))
 obtain ⟨k104,_⟩:=g1
 have hh:=hg1;clear hg1
 try dsimp only
 obtain ⟨z1,hh,hR1⟩:=iter_e hh
 dsimp only [Bp_]at hh
 refine TC.a (TL.w z (OpVal.lss z z z) (TL.en (TC.seq (TC.cD z hh (fun h105 hh=> ?_) (fun h105 hh=> ?_)))))
 ·refine TC.skip (S.n (TC.seq (TC.block (TC.a (TL.w z (indexN z underlying22 sz76 z z f0_0.rv.sl (by omega)) (TL.w z (loadSA Tip.zero z ag76 sz76 z f0_0 (by omega) (by omega)) (TL.op z (OpOk.alloc z ze76 z z (fun b106=> ?_)))))))))
  refine TL.op z (storeAll z sz76 z z z z z z ?_)
  refine TL.en (TC.a (TL.w z (fieldLoc z fo76_0 z) (TL.w z (loadLoc z ag3 z (i:=0) z z) (TL.i z z ?_))))
  obtain ⟨v17,u17,hh⟩:=bnd_e hh
  refine TL.op z (callP (Ei_ u17) z z pf84 z z z ?_)
  refine TL.w z (OpVal.not z z) (TL.j z z (TL.split 21 z (fun h108=> ?_) (fun h108=> ?_)))
  ·replace hh:=iteO_t h108 hh
   refine TL.f z (TL.f z (TL.f z (TL.f z (TL.w z (pickTB z z z) (TL.en (TC.t z (TC.a (TL.j z z (TL.en (TC.rt 0 (B.r (S.r (S.r ?_)))))))))))))
   replace hh:=fin_x hR1 hh
   refine B.r (S.r ?_)
   obtain rfl:=so hh
   exact rq [4] ⟨z,z,z⟩
  replace hh:=iteO_f h108 hh
  refine TL.g z (fieldLoc z fo76_1 z) (TL.g z (loadLoc z ag9 z (i:=0) z z) (TL.g z (lenBs z underlying9 z) (TL.g z (OpVal.gtr z z z) (TL.w z (pickFB z z z) (TL.en (TC.cD z hh (fun h109 hh=> ?_) (fun h109 hh=> ?_)))))))
  ·refine TC.a (TL.j z z (TL.en (TC.rt 0 (B.r (S.r (S.r ?_))))))
   replace hh:=fin_x hR1 hh
   refine B.r (S.r ?_)
   obtain rfl:=so hh
   exact rq [4] ⟨z,z,z⟩
  refine TC.skip (B.n (S.n (TC.region (TL.w z (OpVal.succ z z z (by omega)) (TL.i z z (TL.en ?_))))))
  obtain ⟨hh,hlt110⟩:=nxt_x hR1 hh
  exact lf ((k104+1),()) hlt110 hh (Sub.pre 0 z)
 refine TC.exit (S.x (S.x ?_))
 replace hh:=fin_x hR1 hh
 refine TC.exitHere (S.n (TC.a (TL.j z z (TL.en (TC.ret ?_)))))
 obtain rfl:=so hh
 exact rq [4] ⟨z,z,z⟩
def Ck_(x0:Fst)(k110:Nat):Option ((Nat)⊕(Int)):=
 iteO (decide (((k110:Nat):Int)<((x0.arcs.length:Nat):Int))) (bnd (Dn_ ((nth x0.arcs k110 Arc.zero).frm) x0.states) (fun v46=>iteO (!v46) (fin (some 1)) (bnd (Dn_ ((nth x0.arcs k110 Arc.zero).to) x0.states) (fun v53=>iteO (!v53) (fin (some 1)) (iteO (decide ((nth x0.arcs k110 Arc.zero).set=BSet.zero)) (fin (some 1)) (iteO (decide (1024<((((nth x0.arcs k110 Arc.zero).out).length:Nat):Int))) (fin (some 1)) (nxt (k110+1)))))))) (fin (some 0))
def Ci_(x0:Fst):Option (Int):=
 iteO (decide (x0.states<0)) (some 1) (iteO (decide (1024<x0.states)) (some 1) (iteO (decide (16384<((x0.arcs.length:Nat):Int))) (some 1) (bnd (Cn_ x0.starts x0.states) (fun v22=>iteO (!v22) (some 1) (bnd (Cn_ x0.ends x0.states) (fun v29=>iteO (!v29) (some 1) (iter (fun q:Nat=>Ck_ x0 q) 0)))))))
theorem Dt_{x0:Fst}(f0_0:RS σ 2 encTip (.slice a0_0 x0.starts.length c0_0) x0.starts)(f0_1:RS σ 2 encTip (.slice a0_1 x0.ends.length c0_1) x0.ends)(f0_2:RS σ 8 encArc (.slice a0_2 x0.arcs.length c0_2) x0.arcs){r:Int}(hh:Ci_ x0=some r):
  Con Tryz.prog 43 #[.agg #[.int .i64 x0.states,.slice a0_0 x0.starts.length c0_0,.slice a0_1 x0.ends.length c0_1,.slice a0_2 x0.arcs.length c0_2]] σ [] (PureP (.int .i64 r) σ):=by
 dsimp only [Ci_]at hh
 have f0_0b:=f0_0.rv.big
 have f0_1b:=f0_1.rv.big
 have f0_2b:=f0_2.rv.big
 refine Con.mk (n:=67) Tryz.func43 z z z (fun w0=> ?_)
 refine TC.a (TL.op z (boxA z z z z (fun b101=> ?_)))
 refine TL.i z z (TL.en (TC.seq (TC.a (TL.w z (fieldLoc z fo25_0 z) (TL.w z (loadLoc z ag3 z (i:=0) z z) (TL.w z (OpVal.lss z z z) (TL.j z z (TL.split 8 z (fun h103=> ?_) (fun h103=> ?_)))))))))
 ·replace hh:=iteO_t h103 hh
  replace h103:=of_decide_eq_true h103
  refine TL.f z (TL.f z (TL.f z (TL.w z (pickTB z z z) (TL.j z z (TL.f z (TL.f z (TL.f z (TL.f z (TL.w z (pickTB z z z) (TL.en (TC.t z (TC.a (TL.i z z (TL.en (TC.rt 0 ?_)))))))))))))))
  refine S.r ?_
  obtain rfl:=so hh
  exact rq [2] ⟨z,z,z⟩
 replace hh:=iteO_f h103 hh
 replace h103:=of_decide_eq_false h103
 refine TL.g z (fieldLoc z fo25_0 z) (TL.g z (loadLoc z ag3 z (i:=0) z z) (TL.g z (OpVal.gtr z z z) (TL.w z (pickFB z z z) (TL.j z z (TL.split 13 z (fun h104=> ?_) (fun h104=> ?_))))))
 ·replace hh:=iteO_t h104 hh
  replace h104:=of_decide_eq_true h104
  refine TL.f z (TL.f z (TL.f z (TL.f z (TL.w z (pickTB z z z) (TL.en (TC.t z (TC.a (TL.i z z (TL.en (TC.rt 0 (S.r ?_)))))))))))
  obtain rfl:=so hh
  exact rq [2] ⟨z,z,z⟩
 replace hh:=iteO_f h104 hh
 replace h104:=of_decide_eq_false h104
 refine TL.g z (fieldLoc z fo25_3 z) (TL.g z (loadLoc z ag23 z (i:=0) z z) (TL.g z (lenC z underlying23 z) (TL.g z (OpVal.gtr z z z) (TL.w z (pickFB z z z) (TL.en (TC.cD z hh (fun h105 hh=> ?_) (fun h105 hh=> ?_)))))))
 ·refine TC.a (TL.i z z (TL.en (TC.rt 0 (S.r ?_))))
  obtain rfl:=so hh
  exact rq [2] ⟨z,z,z⟩
 refine TC.skip (S.n (TC.seq (TC.a (TL.w z (fieldLoc z fo25_1 z) (TL.w z (loadLoc z ag22 z (i:=0) z z) (TL.w z (fieldLoc z fo25_0 z) (TL.w z (loadLoc z ag3 z (i:=0) z z) ?_)))))))
 obtain ⟨v22,u22,hh⟩:=bnd_e hh
 refine TL.op z (callP (Ej_ f0_0 u22) z z pf83 z z z ?_)
 refine TL.w z (OpVal.not z z) (TL.j z z (TL.split 25 z (fun h106=> ?_) (fun h106=> ?_)))
 ·replace hh:=iteO_t h106 hh
  refine TL.f z (TL.f z (TL.f z (TL.f z (TL.f z (TL.f z (TL.w z (pickTB z z z) (TL.en (TC.t z (TC.a (TL.i z z (TL.en (TC.rt 0 (S.r ?_)))))))))))))
  obtain rfl:=so hh
  exact rq [2] ⟨z,z,z⟩
 replace hh:=iteO_f h106 hh
 refine TL.g z (fieldLoc z fo25_2 z) (TL.g z (loadLoc z ag22 z (i:=0) z z) (TL.g z (fieldLoc z fo25_0 z) (TL.g z (loadLoc z ag3 z (i:=0) z z) ?_)))
 obtain ⟨v29,u29,hh⟩:=bnd_e hh
 refine TL.gon z z z z z (callP (Ej_ f0_1 u29) z z pf83 z z z ?_)
 refine TL.g z (OpVal.not z z) (TL.w z (pickFB z z z) (TL.en (TC.cB z hh (fun h107 hh=> ?_) (fun h107 hh=> ?_))))
 ·refine TC.a (TL.i z z (TL.en (TC.rt 0 (S.r ?_))))
  obtain rfl:=so hh
  exact rq [2] ⟨z,z,z⟩
 refine TC.skip (S.n (TC.seq (TC.a (TL.w z (fieldLoc z fo25_3 z) (TL.w z (loadLoc z ag23 z (i:=0) z z) (TL.w z (lenC z underlying23 z) (TL.i z z (TL.en (TC.block (TC.loopG (α:=(Nat)×(Unit)) (rgs [(2,1),(4,1),(36,31)]) (fun g=>[(36,.int .i64 ((g.1:Nat):Int))]) (fun g=>[Res.cells b101 #[.int .i64 x0.states,.slice a0_0 x0.starts.length c0_0,.slice a0_1 x0.ends.length c0_1,.slice a0_2 x0.arcs.length c0_2] 25]) (fun g=>σ) (fun g=>iter (fun q:Nat=>Ck_ x0 q) g.1=some r) (fun g=>rounds (fun q:Nat=>Ck_ x0 q) g.1) (0,()) (Sub.pre 1 z) z (by repeat (first|exact trivial|refine ⟨z,?_⟩)) hh (fun g1 j1 hg1=> ?_)))))))))))
 obtain ⟨k110,_⟩:=g1
 have hh:=hg1;clear hg1
 try dsimp only
 obtain ⟨z1,hh,hR1⟩:=iter_e hh
 dsimp only [Ck_]at hh
 refine TC.a (TL.w z (OpVal.lss z z z) (TL.en (TC.seq (TC.cD z hh (fun h111 hh=> ?_) (fun h111 hh=> ?_)))))
 ·refine TC.skip (S.n (TC.seq (TC.block (TC.a (TL.w z (indexN z underlying23 sz66 z z f0_2.rv.sl (by omega)) (TL.w z (loadSA Arc.zero z ag66 sz66 z f0_2 (by omega) (by omega)) (TL.op z (OpOk.alloc z ze66 z z (fun b112=> ?_)))))))))
  refine TL.op z (storeAll z sz66 z z z z z z ?_)
  refine TL.en (TC.a (TL.w z (fieldLoc z fo66_0 z) (TL.w z (loadLoc z ag3 z (i:=0) z z) (TL.w z (fieldLoc z fo25_0 z) (TL.w z (loadLoc z ag3 z (i:=1) z z) ?_)))))
  obtain ⟨v46,u46,hh⟩:=bnd_e hh
  refine TL.op z (callP (Ei_ u46) z z pf84 z z z ?_)
  refine TL.w z (OpVal.not z z) (TL.j z z (TL.split 46 z (fun h114=> ?_) (fun h114=> ?_)))
  ·replace hh:=iteO_t h114 hh
   refine TL.f z (TL.f z (TL.f z (TL.f z (TL.f z (TL.f z (TL.w z (pickTB z z z) (TL.j z z (TL.f z (TL.f z (TL.f z (TL.f z (TL.w z (pickTB z z z) (TL.j z z (TL.f z (TL.f z ?_)))))))))))))))
   refine TL.f z (TL.f z (TL.w z (pickTB z z z) (TL.en (TC.t z (TC.a (TL.i z z (TL.en (TC.rt 0 (B.r (S.r (S.r ?_)))))))))))
   replace hh:=fin_x hR1 hh
   refine B.r (S.r ?_)
   obtain rfl:=so hh
   exact rq [2] ⟨z,z,z⟩
  replace hh:=iteO_f h114 hh
  refine TL.g z (fieldLoc z fo66_1 z) (TL.g z (loadLoc z ag3 z (i:=0) z z) (TL.g z (fieldLoc z fo25_0 z) (TL.g z (loadLoc z ag3 z (i:=1) z z) ?_)))
  obtain ⟨v53,u53,hh⟩:=bnd_e hh
  refine TL.gon z z z z z (callP (Ei_ u53) z z pf84 z z z ?_)
  refine TL.g z (OpVal.not z z) (TL.w z (pickFB z z z) (TL.j z z (TL.split 54 z (fun h115=> ?_) (fun h115=> ?_))))
  ·replace hh:=iteO_t h115 hh
   refine TL.f z (TL.f z (TL.f z (TL.f z (TL.w z (pickTB z z z) (TL.j z z (TL.f z (TL.f z (TL.f z (TL.f z (TL.w z (pickTB z z z) (TL.en (TC.t z (TC.a (TL.i z z (TL.en ?_)))))))))))))))
   refine TC.rt 0 (B.r (S.r (S.r ?_)))
   replace hh:=fin_x hR1 hh
   refine B.r (S.r ?_)
   obtain rfl:=so hh
   exact rq [2] ⟨z,z,z⟩
  replace hh:=iteO_f h115 hh
  refine TL.g z (fieldLoc z fo66_2 z) (TL.g z (loadLocA z ag64 sz64 z (i:=0) z z z) (TL.g z (buildArrL z underlying64 sz62 ze64 z) (TL.g z (eqlSet (s:=(nth x0.arcs k110 Arc.zero).set) (t:=BSet.zero) z underlying64 underlying62 ag62 sz62 eg64 z z) (TL.w z (pickFB z z z) (TL.j z z (TL.split 60 z (fun h116=> ?_) (fun h116=> ?_)))))))
  ·replace hh:=iteO_t h116 hh
   replace h116:=of_decide_eq_true h116
   refine TL.f z (TL.f z (TL.f z (TL.f z (TL.w z (pickTB z z z) (TL.en (TC.t z (TC.a (TL.i z z (TL.en (TC.rt 0 (B.r (S.r (S.r ?_)))))))))))))
   replace hh:=fin_x hR1 hh
   refine B.r (S.r ?_)
   obtain rfl:=so hh
   exact rq [2] ⟨z,z,z⟩
  replace hh:=iteO_f h116 hh
  replace h116:=of_decide_eq_false h116
  refine TL.g z (fieldLoc z fo66_3 z) (TL.g z (loadLoc z ag9 z (i:=0) z z) (TL.g z (lenBs z underlying9 z) (TL.g z (OpVal.gtr z z z) (TL.w z (pickFB z z z) (TL.en (TC.cD z hh (fun h117 hh=> ?_) (fun h117 hh=> ?_)))))))
  ·refine TC.a (TL.i z z (TL.en (TC.rt 0 (B.r (S.r (S.r ?_))))))
   replace hh:=fin_x hR1 hh
   refine B.r (S.r ?_)
   obtain rfl:=so hh
   exact rq [2] ⟨z,z,z⟩
  refine TC.skip (B.n (S.n (TC.region (TL.w z (OpVal.succ z z z (by omega)) (TL.i z z (TL.en ?_))))))
  obtain ⟨hh,hlt118⟩:=nxt_x hR1 hh
  exact lf ((k110+1),()) hlt118 hh (Sub.f [1] 1)
 refine TC.exit (S.x (S.x ?_))
 replace hh:=fin_x hR1 hh
 refine TC.exitHere (S.n (TC.a (TL.i z z (TL.en (TC.rt 0 ?_)))))
 obtain rfl:=so hh
 exact rq [2] ⟨z,z,z⟩
def A1_(x0:List Tip)(x1:Int)(k103:Nat):Option ((Nat)⊕(Bool)):=
 iteO (decide (((k103:Nat):Int)<((x0.length:Nat):Int))) (iteO (decide (((nth x0 k103 Tip.zero).state)<0)) (fin (some false)) (iteO (decide (x1≤((nth x0 k103 Tip.zero).state))) (fin (some false)) (iteO (decide (1024<((((nth x0 k103 Tip.zero).out).length:Nat):Int))) (fin (some false)) (nxt (k103+1))))) (fin (some (decide (((x0.length:Nat):Int)≤1024))))
def B0_(x0:List Tip)(x1:Int):Option (Bool):=
 iter (fun q:Nat=>A1_ x0 x1 q) 0
theorem Dx_{x0:List Tip}{x1:Int}(f0_0:RS σ 2 encTip (.slice a0_0 x0.length c0_0) x0){r:Bool}(hh:B0_ x0 x1=some r):
  Con Tryz.prog 100 #[.slice a0_0 x0.length c0_0,.int .i64 x1] σ [] (PureP (.bool r) σ):=by
 dsimp only [B0_]at hh
 have f0_0b:=f0_0.rv.big
 refine Con.mk (n:=39) Tryz.func100 z z z (fun w0=> ?_)
 refine TC.a (TL.j z z (TL.en (TC.seq (TC.a (TL.i z z (TL.en (TC.block (TC.loopG (α:=(Nat)×(Unit)) (rgs [(4,32)]) (fun g=>[(5,.int .i64 ((g.1:Nat):Int))]) (fun g=>[]) (fun g=>σ) (fun g=>iter (fun q:Nat=>A1_ x0 x1 q) g.1=some r) (fun g=>rounds (fun q:Nat=>A1_ x0 x1 q) g.1) (0,()) (Sub.pre 0 z) z (by repeat (first|exact trivial|refine ⟨z,?_⟩)) hh (fun g1 j1 hg1=> ?_)))))))))
 obtain ⟨k103,_⟩:=g1
 have hh:=hg1;clear hg1
 try dsimp only
 obtain ⟨z1,hh,hR1⟩:=iter_e hh
 dsimp only [A1_]at hh
 refine TC.seq (TC.a (TL.i z z (TL.s z z (TL.w z (lenC z underlying22 z) (TL.w z (OpVal.lss z z z) (TL.en (TC.cD z hh (fun h104 hh=> ?_) (fun h104 hh=> ?_))))))))
 ·refine TC.skip (S.n (TC.seq (TC.block (TC.a (TL.s z z (TL.i z z (TL.w z (indexN z underlying22 sz76 z z f0_0.rv.sl (by omega)) (TL.w z (fieldElem z fo76_0 z f0_0.rv.sl (by omega)) (TL.w z (loadS Tip.zero z ag3 z f0_0 (by omega) (by omega) z) (TL.w z (OpVal.lss z z z) (TL.j z z (TL.split 18 z (fun h105=> ?_) (fun h105=> ?_)))))))))))))
  ·replace hh:=iteO_t h105 hh
   replace h105:=of_decide_eq_true h105
   refine TL.f z (TL.f z (TL.f z (TL.f z (TL.f z (TL.f z (TL.f z (TL.w z (pickTB z z z) (TL.j z z (TL.f z (TL.f z (TL.f z (TL.f z (TL.f z (TL.f z (TL.f z ?_)))))))))))))))
   refine TL.w z (pickTB z z z) (TL.en (TC.t z (TC.a (TL.j z z (TL.en (TC.ret (B.r (S.r (S.r ?_)))))))))
   replace hh:=fin_x hR1 hh
   refine B.r (S.r ?_)
   obtain rfl:=so hh
   exact rq [4] ⟨z,z,z⟩
  replace hh:=iteO_f h105 hh
  replace h105:=of_decide_eq_false h105
  refine TL.g z (moveSl (.inl z) z) (TL.g z (moveI (.inl z) z) (TL.g z (indexN z underlying22 sz76 z z f0_0.rv.sl (by omega)) (TL.g z (fieldElem z fo76_0 z f0_0.rv.sl (by omega)) (TL.g z (loadS Tip.zero z ag3 z f0_0 (by omega) (by omega) z) (TL.g z (moveI (.inl z) z) (TL.g z (OpVal.geq z z z) (TL.w z (pickFB z z z) (TL.j z z (TL.split 27 z (fun h106=> ?_) (fun h106=> ?_))))))))))
  ·replace hh:=iteO_t h106 hh
   replace h106:=of_decide_eq_true h106
   refine TL.f z (TL.f z (TL.f z (TL.f z (TL.f z (TL.f z (TL.f z (TL.w z (pickTB z z z) (TL.en (TC.t z (TC.a (TL.j z z (TL.en (TC.ret (B.r (S.r ?_)))))))))))))))
   refine S.r ?_
   replace hh:=fin_x hR1 hh
   refine B.r (S.r ?_)
   obtain rfl:=so hh
   exact rq [4] ⟨z,z,z⟩
  replace hh:=iteO_f h106 hh
  replace h106:=of_decide_eq_false h106
  refine TL.g z (moveSl (.inl z) z) (TL.g z (moveI (.inl z) z) (TL.g z (indexN z underlying22 sz76 z z f0_0.rv.sl (by omega)) (TL.g z (fieldElem z fo76_1 z f0_0.rv.sl (by omega)) (TL.g z (loadS Tip.zero z ag9 z f0_0 (by omega) (by omega) z) (TL.g z (lenBs z underlying9 z) (TL.g z (OpVal.gtr z z z) (TL.w z (pickFB z z z) (TL.en (TC.cD z hh (fun h107 hh=> ?_) (fun h107 hh=> ?_))))))))))
  ·refine TC.a (TL.j z z (TL.en (TC.ret (B.r (S.r (S.r ?_))))))
   replace hh:=fin_x hR1 hh
   refine B.r (S.r ?_)
   obtain rfl:=so hh
   exact rq [4] ⟨z,z,z⟩
  refine TC.skip (B.n (S.n (TC.region (TL.i z z (TL.w z (OpVal.succ z z z (by omega)) (TL.i z z (TL.en ?_)))))))
  obtain ⟨hh,hlt108⟩:=nxt_x hR1 hh
  exact lf ((k103+1),()) hlt108 hh (Sub.pre 0 z)
 refine TC.exit (S.x (S.x ?_))
 replace hh:=fin_x hR1 hh
 refine TC.exitHere (S.n (TC.a (TL.s z z (TL.w z (lenC z underlying22 z) (TL.w z (OpVal.leq z z z) (TL.j z z (TL.en (TC.ret ?_))))))))
 obtain rfl:=so hh
 exact rq [4] ⟨z,z,z⟩
def Ax_(x0:Fst)(k110:Nat):Option ((Nat)⊕(Bool)):=
 iteO (decide (((k110:Nat):Int)<((x0.arcs.length:Nat):Int))) (iteO (decide (((nth x0.arcs k110 Arc.zero).frm)<0)) (fin (some false)) (iteO (decide (x0.states≤((nth x0.arcs k110 Arc.zero).frm))) (fin (some false)) (iteO (decide (((nth x0.arcs k110 Arc.zero).to)<0)) (fin (some false)) (iteO (decide (x0.states≤((nth x0.arcs k110 Arc.zero).to))) (fin (some false)) (iteO (decide ((nth x0.arcs k110 Arc.zero).set=BSet.zero)) (fin (some false)) (iteO (decide (1024<((((nth x0.arcs k110 Arc.zero).out).length:Nat):Int))) (fin (some false)) (nxt (k110+1)))))))) (fin (some true))
def Be_(x0:Fst):Option (Bool):=
 iteO (decide (x0.states<0)) (some false) (iteO (decide (1024<x0.states)) (some false) (bnd (B0_ x0.starts x0.states) (fun v16=>iteO (!v16) (some false) (bnd (B0_ x0.ends x0.states) (fun v24=>iteO (!v24) (some false) (iteO (decide (16384<((x0.arcs.length:Nat):Int))) (some false) (iter (fun q:Nat=>Ax_ x0 q) 0)))))))
theorem Dr_{x0:Fst}(f0_0:RS σ 2 encTip (.slice a0_0 x0.starts.length c0_0) x0.starts)(f0_1:RS σ 2 encTip (.slice a0_1 x0.ends.length c0_1) x0.ends)(f0_2:RS σ 8 encArc (.slice a0_2 x0.arcs.length c0_2) x0.arcs){r:Bool}(hh:Be_ x0=some r):
  Con Tryz.prog 58 #[.agg #[.int .i64 x0.states,.slice a0_0 x0.starts.length c0_0,.slice a0_1 x0.ends.length c0_1,.slice a0_2 x0.arcs.length c0_2]] σ [] (PureP (.bool r) σ):=by
 dsimp only [Be_]at hh
 have f0_0b:=f0_0.rv.big
 have f0_1b:=f0_1.rv.big
 have f0_2b:=f0_2.rv.big
 refine Con.mk (n:=81) Tryz.func58 z z z (fun w0=> ?_)
 refine TC.a (TL.op z (boxA z z z z (fun b101=> ?_)))
 refine TL.j z z (TL.en (TC.seq (TC.a (TL.w z (fieldLoc z fo25_0 z) (TL.w z (loadLoc z ag3 z (i:=0) z z) (TL.w z (OpVal.lss z z z) (TL.j z z (TL.split 8 z (fun h103=> ?_) (fun h103=> ?_)))))))))
 ·replace hh:=iteO_t h103 hh
  replace h103:=of_decide_eq_true h103
  refine TL.f z (TL.f z (TL.f z (TL.w z (pickTB z z z) (TL.j z z (TL.f z (TL.f z (TL.f z (TL.f z (TL.f z (TL.f z (TL.w z (pickTB z z z) (TL.j z z (TL.f z (TL.f z (TL.f z ?_)))))))))))))))
  refine TL.f z (TL.f z (TL.f z (TL.w z (pickTB z z z) (TL.j z z (TL.f z (TL.f z (TL.f z (TL.f z (TL.w z (pickTB z z z) (TL.en (TC.t z (TC.a (TL.j z z (TL.en (TC.rt 0 ?_)))))))))))))))
  refine S.r ?_
  obtain rfl:=so hh
  exact rq [2] ⟨z,z,z⟩
 replace hh:=iteO_f h103 hh
 replace h103:=of_decide_eq_false h103
 refine TL.g z (fieldLoc z fo25_0 z) (TL.g z (loadLoc z ag3 z (i:=0) z z) (TL.g z (OpVal.gtr z z z) (TL.w z (pickFB z z z) (TL.j z z (TL.split 13 z (fun h104=> ?_) (fun h104=> ?_))))))
 ·replace hh:=iteO_t h104 hh
  replace h104:=of_decide_eq_true h104
  refine TL.f z (TL.f z (TL.f z (TL.f z (TL.f z (TL.f z (TL.w z (pickTB z z z) (TL.j z z (TL.f z (TL.f z (TL.f z (TL.f z (TL.f z (TL.f z (TL.w z (pickTB z z z) (TL.j z z ?_)))))))))))))))
  refine TL.f z (TL.f z (TL.f z (TL.f z (TL.w z (pickTB z z z) (TL.en (TC.t z (TC.a (TL.j z z (TL.en (TC.rt 0 (S.r ?_)))))))))))
  obtain rfl:=so hh
  exact rq [2] ⟨z,z,z⟩
 replace hh:=iteO_f h104 hh
 replace h104:=of_decide_eq_false h104
 refine TL.g z (fieldLoc z fo25_1 z) (TL.g z (loadLoc z ag22 z (i:=0) z z) (TL.g z (fieldLoc z fo25_0 z) (TL.g z (loadLoc z ag3 z (i:=0) z z) ?_)))
 obtain ⟨v16,u16,hh⟩:=bnd_e hh
 refine TL.gon z z z z z (callP (Dx_ f0_0 u16) z z pf100 z z z ?_)
 refine TL.g z (OpVal.not z z) (TL.w z (pickFB z z z) (TL.j z z (TL.split 21 z (fun h105=> ?_) (fun h105=> ?_))))
 ·replace hh:=iteO_t h105 hh
  refine TL.f z (TL.f z (TL.f z (TL.f z (TL.f z (TL.f z (TL.w z (pickTB z z z) (TL.j z z (TL.f z (TL.f z (TL.f z (TL.f z (TL.w z (pickTB z z z) (TL.en (TC.t z (TC.a ?_)))))))))))))))
  refine TL.j z z (TL.en (TC.rt 0 (S.r ?_)))
  obtain rfl:=so hh
  exact rq [2] ⟨z,z,z⟩
 replace hh:=iteO_f h105 hh
 refine TL.g z (fieldLoc z fo25_2 z) (TL.g z (loadLoc z ag22 z (i:=0) z z) (TL.g z (fieldLoc z fo25_0 z) (TL.g z (loadLoc z ag3 z (i:=0) z z) ?_)))
 obtain ⟨v24,u24,hh⟩:=bnd_e hh
 refine TL.gon z z z z z (callP (Dx_ f0_1 u24) z z pf100 z z z ?_)
 refine TL.g z (OpVal.not z z) (TL.w z (pickFB z z z) (TL.j z z (TL.split 29 z (fun h106=> ?_) (fun h106=> ?_))))
 ·replace hh:=iteO_t h106 hh
  refine TL.f z (TL.f z (TL.f z (TL.f z (TL.w z (pickTB z z z) (TL.en (TC.t z (TC.a (TL.j z z (TL.en (TC.rt 0 (S.r ?_)))))))))))
  obtain rfl:=so hh
  exact rq [2] ⟨z,z,z⟩
 replace hh:=iteO_f h106 hh
 refine TL.g z (fieldLoc z fo25_3 z) (TL.g z (loadLoc z ag23 z (i:=0) z z) (TL.g z (lenC z underlying23 z) (TL.g z (OpVal.gtr z z z) (TL.w z (pickFB z z z) (TL.en (TC.cD z hh (fun h107 hh=> ?_) (fun h107 hh=> ?_)))))))
 ·refine TC.a (TL.j z z (TL.en (TC.rt 0 (S.r ?_))))
  obtain rfl:=so hh
  exact rq [2] ⟨z,z,z⟩
 refine TC.skip (S.n (TC.seq (TC.a (TL.i z z (TL.en (TC.block (TC.loopG (α:=(Nat)×(Unit)) (rgs [(2,3),(35,46)]) (fun g=>[(3,.int .i64 ((g.1:Nat):Int))]) (fun g=>[Res.cells b101 #[.int .i64 x0.states,.slice a0_0 x0.starts.length c0_0,.slice a0_1 x0.ends.length c0_1,.slice a0_2 x0.arcs.length c0_2] 25]) (fun g=>σ) (fun g=>iter (fun q:Nat=>Ax_ x0 q) g.1=some r) (fun g=>rounds (fun q:Nat=>Ax_ x0 q) g.1) (0,()) (Sub.pre 1 z) z (by repeat (first|exact trivial|refine ⟨z,?_⟩)) hh (fun g1 j1 hg1=> ?_))))))))
 obtain ⟨k110,_⟩:=g1
 have hh:=hg1;clear hg1
 try dsimp only
 obtain ⟨z1,hh,hR1⟩:=iter_e hh
 dsimp only [Ax_]at hh
 refine TC.seq (TC.a (TL.i z z (TL.w z (fieldLoc z fo25_3 z) (TL.w z (loadLoc z ag23 z (i:=0) z z) (TL.w z (lenC z underlying23 z) (TL.w z (OpVal.lss z z z) (TL.en (TC.cD z hh (fun h111 hh=> ?_) (fun h111 hh=> ?_)))))))))
 ·refine TC.skip (S.n (TC.seq (TC.block (TC.a (TL.w z (fieldLoc z fo25_3 z) (TL.w z (loadLoc z ag23 z (i:=0) z z) (TL.i z z (TL.w z (indexN z underlying23 sz66 z z f0_2.rv.sl (by omega)) (TL.w z (loadSA Arc.zero z ag66 sz66 z f0_2 (by omega) (by omega)) (TL.op z (OpOk.alloc z ze66 z z (fun b112=> ?_))))))))))))
  refine TL.op z (storeAll z sz66 z z z z z z ?_)
  refine TL.en (TC.a (TL.w z (fieldLoc z fo66_0 z) (TL.w z (loadLoc z ag3 z (i:=0) z z) (TL.w z (OpVal.lss z z z) (TL.j z z (TL.split 50 z (fun h114=> ?_) (fun h114=> ?_)))))))
  ·replace hh:=iteO_t h114 hh
   replace h114:=of_decide_eq_true h114
   refine TL.f z (TL.f z (TL.f z (TL.f z (TL.f z (TL.w z (pickTB z z z) (TL.j z z (TL.f z (TL.f z (TL.f z (TL.w z (pickTB z z z) (TL.j z z (TL.f z (TL.f z (TL.f z (TL.f z ?_)))))))))))))))
   refine TL.f z (TL.w z (pickTB z z z) (TL.j z z (TL.f z (TL.f z (TL.f z (TL.f z (TL.w z (pickTB z z z) (TL.j z z (TL.f z (TL.f z (TL.f z (TL.f z (TL.w z (pickTB z z z) (TL.en (TC.t z ?_)))))))))))))))
   refine TC.a (TL.j z z (TL.en (TC.rt 0 (B.r (S.r (S.r ?_))))))
   replace hh:=fin_x hR1 hh
   refine B.r (S.r ?_)
   obtain rfl:=so hh
   exact rq [2] ⟨z,z,z⟩
  replace hh:=iteO_f h114 hh
  replace h114:=of_decide_eq_false h114
  refine TL.g z (fieldLoc z fo66_0 z) (TL.g z (loadLoc z ag3 z (i:=0) z z) (TL.g z (fieldLoc z fo25_0 z) (TL.g z (loadLoc z ag3 z (i:=1) z z) (TL.g z (OpVal.geq z z z) (TL.w z (pickFB z z z) (TL.j z z (TL.split 57 z (fun h115=> ?_) (fun h115=> ?_))))))))
  ·replace hh:=iteO_t h115 hh
   replace h115:=of_decide_eq_true h115
   refine TL.f z (TL.f z (TL.f z (TL.w z (pickTB z z z) (TL.j z z (TL.f z (TL.f z (TL.f z (TL.f z (TL.f z (TL.w z (pickTB z z z) (TL.j z z (TL.f z (TL.f z (TL.f z (TL.f z ?_)))))))))))))))
   refine TL.w z (pickTB z z z) (TL.j z z (TL.f z (TL.f z (TL.f z (TL.f z (TL.w z (pickTB z z z) (TL.en (TC.t z (TC.a (TL.j z z (TL.en (TC.rt 0 (B.r (S.r (S.r ?_)))))))))))))))
   replace hh:=fin_x hR1 hh
   refine B.r (S.r ?_)
   obtain rfl:=so hh
   exact rq [2] ⟨z,z,z⟩
  replace hh:=iteO_f h115 hh
  replace h115:=of_decide_eq_false h115
  refine TL.g z (fieldLoc z fo66_1 z) (TL.g z (loadLoc z ag3 z (i:=0) z z) (TL.g z (OpVal.lss z z z) (TL.w z (pickFB z z z) (TL.j z z (TL.split 62 z (fun h116=> ?_) (fun h116=> ?_))))))
  ·replace hh:=iteO_t h116 hh
   replace h116:=of_decide_eq_true h116
   refine TL.f z (TL.f z (TL.f z (TL.f z (TL.f z (TL.w z (pickTB z z z) (TL.j z z (TL.f z (TL.f z (TL.f z (TL.f z (TL.w z (pickTB z z z) (TL.j z z (TL.f z (TL.f z (TL.f z ?_)))))))))))))))
   refine TL.f z (TL.w z (pickTB z z z) (TL.en (TC.t z (TC.a (TL.j z z (TL.en (TC.rt 0 (B.r (S.r (S.r ?_))))))))))
   replace hh:=fin_x hR1 hh
   refine B.r (S.r ?_)
   obtain rfl:=so hh
   exact rq [2] ⟨z,z,z⟩
  replace hh:=iteO_f h116 hh
  replace h116:=of_decide_eq_false h116
  refine TL.g z (fieldLoc z fo66_1 z) (TL.g z (loadLoc z ag3 z (i:=0) z z) (TL.g z (fieldLoc z fo25_0 z) (TL.g z (loadLoc z ag3 z (i:=1) z z) (TL.g z (OpVal.geq z z z) (TL.w z (pickFB z z z) (TL.j z z (TL.split 69 z (fun h117=> ?_) (fun h117=> ?_))))))))
  ·replace hh:=iteO_t h117 hh
   replace h117:=of_decide_eq_true h117
   refine TL.f z (TL.f z (TL.f z (TL.f z (TL.w z (pickTB z z z) (TL.j z z (TL.f z (TL.f z (TL.f z (TL.f z (TL.w z (pickTB z z z) (TL.en (TC.t z (TC.a (TL.j z z (TL.en ?_)))))))))))))))
   refine TC.rt 0 (B.r (S.r (S.r ?_)))
   replace hh:=fin_x hR1 hh
   refine B.r (S.r ?_)
   obtain rfl:=so hh
   exact rq [2] ⟨z,z,z⟩
  replace hh:=iteO_f h117 hh
  replace h117:=of_decide_eq_false h117
  refine TL.g z (fieldLoc z fo66_2 z) (TL.g z (loadLocA z ag64 sz64 z (i:=0) z z z) (TL.g z (buildArrL z underlying64 sz62 ze64 z) (TL.g z (eqlSet (s:=(nth x0.arcs k110 Arc.zero).set) (t:=BSet.zero) z underlying64 underlying62 ag62 sz62 eg64 z z) (TL.w z (pickFB z z z) (TL.j z z (TL.split 75 z (fun h118=> ?_) (fun h118=> ?_)))))))
  ·replace hh:=iteO_t h118 hh
   replace h118:=of_decide_eq_true h118
   refine TL.f z (TL.f z (TL.f z (TL.f z (TL.w z (pickTB z z z) (TL.en (TC.t z (TC.a (TL.j z z (TL.en (TC.rt 0 (B.r (S.r (S.r ?_)))))))))))))
   replace hh:=fin_x hR1 hh
   refine B.r (S.r ?_)
   obtain rfl:=so hh
   exact rq [2] ⟨z,z,z⟩
  replace hh:=iteO_f h118 hh
  replace h118:=of_decide_eq_false h118
  refine TL.g z (fieldLoc z fo66_3 z) (TL.g z (loadLoc z ag9 z (i:=0) z z) (TL.g z (lenBs z underlying9 z) (TL.g z (OpVal.gtr z z z) (TL.w z (pickFB z z z) (TL.en (TC.cD z hh (fun h119 hh=> ?_) (fun h119 hh=> ?_)))))))
  ·refine TC.a (TL.j z z (TL.en (TC.rt 0 (B.r (S.r (S.r ?_))))))
   replace hh:=fin_x hR1 hh
   refine B.r (S.r ?_)
   obtain rfl:=so hh
   exact rq [2] ⟨z,z,z⟩
  refine TC.skip (B.n (S.n (TC.region (TL.i z z (TL.w z (OpVal.succ z z z (by omega)) (TL.i z z (TL.en ?_)))))))
  obtain ⟨hh,hlt120⟩:=nxt_x hR1 hh
  exact lf ((k110+1),()) hlt120 hh (Sub.f [1] 1)
 refine TC.exit (S.x (S.x ?_))
 replace hh:=fin_x hR1 hh
 refine TC.exitHere (S.n (TC.a (TL.j z z (TL.en (TC.rt 0 ?_)))))
 obtain rfl:=so hh
 exact rq [2] ⟨z,z,z⟩
end Go.Proofs.YtchebnpdnfhenaaGreatDoor
end

noncomputable section
namespace Go.Proofs.YtchebnpdnfhenaaGreatDoor
open Go Go.E Go.E.OpVal Go.E.OpOk Go.Proofs.Tryz
theorem fo66_4:foOf Tryz.prog 66 4=some 7:=by kernel_rfl
theorem pf106:plainF Tryz.prog 106=true:=by kernel_rfl
theorem pf134:plainF Tryz.prog 134=true:=by kernel_rfl
theorem pf135:plainF Tryz.prog 135=true:=by kernel_rfl
theorem pf139:plainF Tryz.prog 139=true:=by kernel_rfl
theorem pf140:plainF Tryz.prog 140=true:=by kernel_rfl
theorem pf156:plainF Tryz.prog 156=true:=by kernel_rfl
theorem pf158:plainF Tryz.prog 158=true:=by kernel_rfl
theorem pf195:plainF Tryz.prog 195=true:=by kernel_rfl
theorem pf64:plainF Tryz.prog 64=true:=by kernel_rfl
theorem sz3:szOf Tryz.prog 3=some 1:=by kernel_rfl
theorem ze3:zeroOf Tryz.prog 3=some (.int .i64 0):=by kernel_rfl
def Bu_(x0:List UInt8)(x1:List UInt8):Option (Int):=
 some (Lib.compareBytes x0 x1)
theorem Dp_{x0:List UInt8}{x1:List UInt8}{r:Int}(hh:Bu_ x0 x1=some r):
  Con Tryz.prog 106 #[.string (bs x0),.string (bs x1)] σ [] (PureP (.int .i64 r) σ):=by
 dsimp only [Bu_]at hh
 refine Con.mk (n:=8) Tryz.func106 z z z (fun w0=> ?_)
 refine TC.a (TL.i z z (TL.en (TC.a (TL.w z (moveStr (.inl z) z) (TL.w z (moveStr (.inl z) z) (TL.w z (cmpStr z z Tryz.func144 (by kernel_rfl) (by kernel_rfl) (by kernel_rfl) (by kernel_rfl) z z) (TL.i z z (TL.en (TC.ret ?_)))))))))
 obtain rfl:=so hh
 exact rq [4] ⟨z,z,z⟩
def Cu_(x0:List UInt8)(x1:List UInt8):Option (Int):=
 bnd (Bu_ x0 x1) (fun v4=>some v4)
theorem D3_{x0:List UInt8}{x1:List UInt8}{r:Int}(hh:Cu_ x0 x1=some r):
  Con Tryz.prog 64 #[.string (bs x0),.string (bs x1)] σ [] (PureP (.int .i64 r) σ):=by
 dsimp only [Cu_]at hh
 refine Con.mk (n:=8) Tryz.func64 z z z (fun w0=> ?_)
 refine TC.a (TL.i z z (TL.en (TC.a (TL.w z (moveStr (.inl z) z) (TL.w z (moveStr (.inl z) z) ?_)))))
 obtain ⟨v4,u4,hh⟩:=bnd_e hh
 refine TL.op z (callP (Dp_ u4) z z pf106 z z z ?_)
 refine TL.i z z (TL.en (TC.ret ?_))
 obtain rfl:=so hh
 exact rq [4] ⟨z,z,z⟩
def Ed_(x0:Int):Option (Bool):=
 some (decide (x0≠x0))
theorem Fg_{x0:Int}{r:Bool}(hh:Ed_ x0=some r):
  Con Tryz.prog 156 #[.int .i64 x0] σ [] (PureP (.bool r) σ):=by
 dsimp only [Ed_]at hh
 refine Con.mk (n:=6) Tryz.func156 z z z (fun w0=> ?_)
 refine TC.a (TL.j z z (TL.en (TC.a (TL.i z z (TL.i z z (TL.w z (OpVal.neq z z z) (TL.j z z (TL.en (TC.ret ?_)))))))))
 obtain rfl:=so hh
 exact rq [2] ⟨z,z,z⟩
def B4_(x0:Int)(x1:Int):Option (Int):=
 bnd (Ed_ x0) (fun v3=>bnd (Ed_ x1) (fun v6=>iteO v3 (iteO v6 (some 0) (some (-1))) (iteO v6 (some 1) (iteO (decide (x0<x1)) (some (-1)) (iteO (decide (x1<x0)) (some 1) (some 0))))))
theorem Cv_{x0:Int}{x1:Int}{r:Int}(hh:B4_ x0 x1=some r):
  Con Tryz.prog 135 #[.int .i64 x0,.int .i64 x1] σ [] (PureP (.int .i64 r) σ):=by
 dsimp only [B4_]at hh
 refine Con.mk (n:=20) Tryz.func135 z z z (fun w0=> ?_)
 refine TC.a (TL.i z z (TL.en (TC.a (TL.i z z ?_))))
 obtain ⟨v3,u3,hh⟩:=bnd_e hh
 refine TL.op z (callP (Fg_ u3) z z pf156 z z z ?_)
 refine TL.j z z (TL.en (TC.a (TL.i z z ?_)))
 obtain ⟨v6,u6,hh⟩:=bnd_e hh
 refine TL.op z (callP (Fg_ u6) z z pf156 z z z ?_)
 refine TL.j z z (TL.en (TC.seq (TC.a (TL.j z z (TL.en (TC.cB z hh (fun h101 hh=> ?_) (fun h101 hh=> ?_)))))))
 ·refine TC.seq (TC.a (TL.j z z (TL.en (TC.cB z hh (fun h102 hh=> ?_) (fun h102 hh=> ?_)))))
  ·refine TC.a (TL.i z z (TL.en (TC.ret (S.r (S.r ?_)))))
   obtain rfl:=so hh
   exact rq [4] ⟨z,z,z⟩
  refine TC.skip (S.n (TC.a (TL.i z z (TL.en (TC.ret (S.r ?_))))))
  obtain rfl:=so hh
  exact rq [4] ⟨z,z,z⟩
 refine TC.skip (S.n (TC.seq (TC.a (TL.j z z (TL.en (TC.cB z hh (fun h103 hh=> ?_) (fun h103 hh=> ?_)))))))
 ·refine TC.a (TL.i z z (TL.en (TC.ret (S.r ?_))))
  obtain rfl:=so hh
  exact rq [4] ⟨z,z,z⟩
 refine TC.skip (S.n (TC.seq (TC.a (TL.i z z (TL.i z z (TL.w z (OpVal.lss z z z) (TL.en (TC.cD z hh (fun h104 hh=> ?_) (fun h104 hh=> ?_)))))))))
 ·refine TC.a (TL.i z z (TL.en (TC.ret (S.r ?_))))
  obtain rfl:=so hh
  exact rq [4] ⟨z,z,z⟩
 refine TC.skip (S.n (TC.seq (TC.a (TL.i z z (TL.i z z (TL.w z (OpVal.gtr z z z) (TL.en (TC.cD z hh (fun h105 hh=> ?_) (fun h105 hh=> ?_)))))))))
 ·refine TC.a (TL.i z z (TL.en (TC.ret (S.r ?_))))
  obtain rfl:=so hh
  exact rq [4] ⟨z,z,z⟩
 refine TC.skip (S.n (TC.a (TL.i z z (TL.en (TC.ret ?_)))))
 obtain rfl:=so hh
 exact rq [4] ⟨z,z,z⟩
def isNaNU(x0:Nat):Option (Bool):=
 some (decide (x0≠x0))
theorem isNaNU_con{x0:Nat}{r:Bool}(hh:isNaNU x0=some r):
  Con Tryz.prog 195 #[.int .u64 ((x0:Nat):Int)] σ [] (PureP (.bool r) σ):=by
 dsimp only [isNaNU]at hh
 refine Con.mk (n:=6) Tryz.func195 z z z (fun w0=> ?_)
 refine TC.a (TL.j z z (TL.en (TC.a (TL.i z z (TL.i z z (TL.w z (neqU z z z) (TL.j z z (TL.en (TC.ret ?_)))))))))
 obtain rfl:=so hh
 exact rq [2] ⟨z,z,z⟩
def compareU(x0:Nat)(x1:Nat):Option (Int):=
 bnd (isNaNU x0) (fun v3=>bnd (isNaNU x1) (fun v6=>iteO v3 (iteO v6 (some 0) (some (-1))) (iteO v6 (some 1) (iteO (decide (x0<x1)) (some (-1)) (iteO (decide (x1<x0)) (some 1) (some 0))))))
theorem compareU_con{x0:Nat}{x1:Nat}{r:Int}(hh:compareU x0 x1=some r):
  Con Tryz.prog 158 #[.int .u64 ((x0:Nat):Int),.int .u64 ((x1:Nat):Int)] σ [] (PureP (.int .i64 r) σ):=by
 dsimp only [compareU]at hh
 refine Con.mk (n:=20) Tryz.func158 z z z (fun w0=> ?_)
 refine TC.a (TL.i z z (TL.en (TC.a (TL.i z z ?_))))
 obtain ⟨v3,u3,hh⟩:=bnd_e hh
 refine TL.op z (callP (isNaNU_con u3) z z pf195 z z z ?_)
 refine TL.j z z (TL.en (TC.a (TL.i z z ?_)))
 obtain ⟨v6,u6,hh⟩:=bnd_e hh
 refine TL.op z (callP (isNaNU_con u6) z z pf195 z z z ?_)
 refine TL.j z z (TL.en (TC.seq (TC.a (TL.j z z (TL.en (TC.cB z hh (fun h101 hh=> ?_) (fun h101 hh=> ?_)))))))
 ·refine TC.seq (TC.a (TL.j z z (TL.en (TC.cB z hh (fun h102 hh=> ?_) (fun h102 hh=> ?_)))))
  ·refine TC.a (TL.i z z (TL.en (TC.ret (S.r (S.r ?_)))))
   obtain rfl:=so hh
   exact rq [4] ⟨z,z,z⟩
  refine TC.skip (S.n (TC.a (TL.i z z (TL.en (TC.ret (S.r ?_))))))
  obtain rfl:=so hh
  exact rq [4] ⟨z,z,z⟩
 refine TC.skip (S.n (TC.seq (TC.a (TL.j z z (TL.en (TC.cB z hh (fun h103 hh=> ?_) (fun h103 hh=> ?_)))))))
 ·refine TC.a (TL.i z z (TL.en (TC.ret (S.r ?_))))
  obtain rfl:=so hh
  exact rq [4] ⟨z,z,z⟩
 refine TC.skip (S.n (TC.seq (TC.a (TL.i z z (TL.i z z (TL.w z (lssU z z z) (TL.en (TC.cD z hh (fun h104 hh=> ?_) (fun h104 hh=> ?_)))))))))
 ·refine TC.a (TL.i z z (TL.en (TC.ret (S.r ?_))))
  obtain rfl:=so hh
  exact rq [4] ⟨z,z,z⟩
 refine TC.skip (S.n (TC.seq (TC.a (TL.i z z (TL.i z z (TL.w z (gtrU z z z) (TL.en (TC.cD z hh (fun h105 hh=> ?_) (fun h105 hh=> ?_)))))))))
 ·refine TC.a (TL.i z z (TL.en (TC.ret (S.r ?_))))
  obtain rfl:=so hh
  exact rq [4] ⟨z,z,z⟩
 refine TC.skip (S.n (TC.a (TL.i z z (TL.en (TC.ret ?_)))))
 obtain rfl:=so hh
 exact rq [4] ⟨z,z,z⟩
def D2_(x0:Bool):Option (Int):=
 iteO x0 (some 1) (some 0)
theorem E9_{x0:Bool}{r:Int}(hh:D2_ x0=some r):
  Con Tryz.prog 140 #[.bool x0] σ [] (PureP (.int .i64 r) σ):=by
 dsimp only [D2_]at hh
 refine Con.mk (n:=4) Tryz.func140 z z z (fun w0=> ?_)
 refine TC.a (TL.i z z (TL.en (TC.seq (TC.a (TL.j z z (TL.en (TC.cB z hh (fun h101 hh=> ?_) (fun h101 hh=> ?_))))))))
 ·refine TC.a (TL.i z z (TL.en (TC.ret (S.r ?_))))
  obtain rfl:=so hh
  exact rq [2] ⟨z,z,z⟩
 refine TC.skip (S.n (TC.a (TL.i z z (TL.en (TC.ret ?_)))))
 obtain rfl:=so hh
 exact rq [2] ⟨z,z,z⟩
def C6_(x0:List Int)(k103:Nat):Option ((Nat)⊕(Int)):=
 iteO (decide (((k103:Nat):Int)<((x0.length:Nat):Int))) (iteO (decide ((nth x0 k103 (0:Int))≠0)) (fin (some (nth x0 k103 (0:Int)))) (nxt (k103+1))) (fin (some 0))
def Em_(x0:List Int):Option (Int):=
 iter (fun q:Nat=>C6_ x0 q) 0
theorem Fc_{x0:List Int}(f0_0:RS σ 1 eI_ (.slice a0_0 x0.length c0_0) x0){r:Int}(hh:Em_ x0=some r):
  Con Tryz.prog 134 #[.slice a0_0 x0.length c0_0] σ [] (PureP (.int .i64 r) σ):=by
 dsimp only [Em_]at hh
 have f0_0b:=f0_0.rv.big
 refine Con.mk (n:=18) Tryz.func134 z z z (fun w0=> ?_)
 refine TC.a (TL.i z z (TL.en (TC.a (TL.i z z (TL.en (TC.seq (TC.a (TL.s z z (TL.w z (lenC z underlying86 z) (TL.i z z (TL.en (TC.block (TC.loopG (α:=(Nat)×(Unit)) (rgs [(2,1),(5,1),(8,9)]) (fun g=>[(8,.int .i64 ((g.1:Nat):Int))]) (fun g=>[]) (fun g=>σ) (fun g=>iter (fun q:Nat=>C6_ x0 q) g.1=some r) (fun g=>rounds (fun q:Nat=>C6_ x0 q) g.1) (0,()) (Sub.pre 0 z) z (by repeat (first|exact trivial|refine ⟨z,?_⟩)) hh (fun g1 j1 hg1=> ?_))))))))))))))
 obtain ⟨k103,_⟩:=g1
 have hh:=hg1;clear hg1
 try dsimp only
 obtain ⟨z1,hh,hR1⟩:=iter_e hh
 dsimp only [C6_]at hh
 refine TC.a (TL.w z (OpVal.lss z z z) (TL.en (TC.seq (TC.cD z hh (fun h104 hh=> ?_) (fun h104 hh=> ?_)))))
 ·refine TC.skip (S.n (TC.seq (TC.block (TC.a (TL.w z (indexN z underlying86 sz3 z z f0_0.rv.sl (by omega)) (TL.w z (loadS1 (0:Int) z ag3 z f0_0 (by omega) z) (TL.i z z (TL.en (TC.a (TL.i z z (TL.i z z (TL.w z (OpVal.neq z z z) (TL.en (TC.cD z hh (fun h105 hh=> ?_) (fun h105 hh=> ?_)))))))))))))))
  ·refine TC.a (TL.i z z (TL.i z z (TL.en (TC.ret (B.r (S.r (S.r ?_)))))))
   replace hh:=fin_x hR1 hh
   refine B.r (S.r ?_)
   obtain rfl:=so hh
   exact rq [2] ⟨z,z,z⟩
  refine TC.skip (B.n (S.n (TC.region (TL.w z (OpVal.succ z z z (by omega)) (TL.i z z (TL.en ?_))))))
  obtain ⟨hh,hlt106⟩:=nxt_x hR1 hh
  exact lf ((k103+1),()) hlt106 hh (Sub.pre 0 z)
 refine TC.exit (S.x (S.x ?_))
 replace hh:=fin_x hR1 hh
 refine TC.exitHere (S.n (TC.a (TL.i z z (TL.i z z (TL.en (TC.ret ?_))))))
 obtain rfl:=so hh
 exact rq [2] ⟨z,z,z⟩
def Dd_(x0:Tip)(x1:Tip):Option (Int):=
 bnd (B4_ x0.state x1.state) (fun v8=>bnd (Cu_ x0.out x1.out) (fun v13=>bnd (Em_ [v8,v13]) (fun v15=>some v15)))
theorem Fk_{x0:Tip}{x1:Tip}{r:Int}(hh:Dd_ x0 x1=some r):
  Con Tryz.prog 96 #[.agg #[.int .i64 x0.state,.string (bs x0.out)],.agg #[.int .i64 x1.state,.string (bs x1.out)]] σ [] (PureP (.int .i64 r) σ):=by
 dsimp only [Dd_]at hh
 refine Con.mk (n:=17) Tryz.func96 z z z (fun w0=> ?_)
 refine TC.a (TL.op z (boxA z z z z (fun b101=> ?_)))
 refine TL.op z (boxA z z z z (fun b103=> ?_))
 refine TL.i z z (TL.en (TC.seq ?_))
 obtain ⟨v8,u8,hh⟩:=bnd_e hh
 obtain ⟨v13,u13,hh⟩:=bnd_e hh
 obtain ⟨v15,u15,hh⟩:=bnd_e hh
 refine TC.draw [] (by kernel_rfl) (TA.a 0 z (fieldLoc z fo76_0 z) z (TA.b 1 z (loadLoc z ag3 z (i:=1) z z) z (TA.a 2 z (fieldLoc z fo76_0 z) z (TA.b 3 z (loadLoc z ag3 z (i:=0) z z) z (TA.a 5 z (fieldLoc z fo76_1 z) z (TA.b 6 z (loadLoc z ag9 z (i:=1) z z) z (TA.a 7 z (fieldLoc z fo76_1 z) z (TA.b 8 z (loadLoc z ag9 z (i:=0) z z) z (TA.ac 4 z (callP (Cv_ u8) z z pf135 z z z (k0 ?_)))))))))))
 refine TA.ac 9 z (callP (D3_ u13) z z pf64 z z z (k0 ?_))
 refine TA.ac 10 z (OpOk.lit (enc:=eI_) [v8,v13] z underlying86 sz3 ze3 z z z eIl_ (by decide) (by decide) (0:Int) z (by decide) z (by decide) eIo_ (fun a110 c111=>(k1 ?_)))
 refine TA.ac 11 z (callK (Con.lend eIl_ (fun _ hle114 hr113=>Fc_ hr113 u15)) z z pf134 z z z z (k1 ?_))
 refine TA.a 12 z (moveI (.inr z) z) z (TA.dn (S.n (TC.rt 0 ?_)))
 obtain rfl:=so hh
 exact rq [4] ⟨z,z,z⟩
def compareUs_b1(x0:List Nat)(x1:List Nat)(k103:Nat):Option ((Nat)⊕(Int)):=
 iteO (decide (((k103:Nat):Int)<((x0.length:Nat):Int))) (iteO (decide (((x1.length:Nat):Int)≤((k103:Nat):Int))) (fin (some 1)) (grd (k103<x1.length) (bnd (compareU (nth x0 k103 (0:Nat)) (nth x1 k103 (0:Nat))) (fun v23=>iteO (decide (v23≠0)) (fin (some v23)) (nxt (k103+1)))))) (fin (iteO (decide (((x0.length:Nat):Int)<((x1.length:Nat):Int))) (some (-1)) (some 0)))
def compareUs(x0:List Nat)(x1:List Nat):Option (Int):=
 iter (fun q:Nat=>compareUs_b1 x0 x1 q) 0
theorem compareUs_con{x0:List Nat}{x1:List Nat}(f0_0:RS σ 1 encW (.slice a0_0 x0.length c0_0) x0)(f1_0:RS σ 1 encW (.slice a1_0 x1.length c1_0) x1){r:Int}(hh:compareUs x0 x1=some r):
  Con Tryz.prog 139 #[.slice a0_0 x0.length c0_0,.slice a1_0 x1.length c1_0] σ [] (PureP (.int .i64 r) σ):=by
 dsimp only [compareUs]at hh
 have f0_0b:=f0_0.rv.big
 have f1_0b:=f1_0.rv.big
 refine Con.mk (n:=36) Tryz.func139 z z z (fun w0=> ?_)
 refine TC.a (TL.i z z (TL.en (TC.seq (TC.a (TL.s z z (TL.w z (lenC z underlying194 z) (TL.i z z (TL.en (TC.block (TC.loopG (α:=(Nat)×(Unit)) (rgs [(4,5),(11,20)]) (fun g=>[(11,.int .i64 ((g.1:Nat):Int))]) (fun g=>[]) (fun g=>σ) (fun g=>iter (fun q:Nat=>compareUs_b1 x0 x1 q) g.1=some r) (fun g=>rounds (fun q:Nat=>compareUs_b1 x0 x1 q) g.1) (0,()) (Sub.pre 0 z) z (by repeat (first|exact trivial|refine ⟨z,?_⟩)) hh (fun g1 j1 hg1=> ?_)))))))))))
 obtain ⟨k103,_⟩:=g1
 have hh:=hg1;clear hg1
 try dsimp only
 obtain ⟨z1,hh,hR1⟩:=iter_e hh
 dsimp only [compareUs_b1]at hh
 refine TC.a (TL.w z (OpVal.lss z z z) (TL.en (TC.seq (TC.cD z hh (fun h104 hh=> ?_) (fun h104 hh=> ?_)))))
 ·refine TC.skip (S.n (TC.seq (TC.block (TC.a (TL.i z z (TL.w z (indexN z underlying194 sz62 z z f0_0.rv.sl (by omega)) (TL.w z (loadS1 (0:Nat) z ag62 z f0_0 (by omega) z) (TL.i z z (TL.i z z (TL.en (TC.seq (TC.a (TL.i z z (TL.s z z (TL.w z (lenC z underlying194 z) ?_)))))))))))))))
  refine TL.w z (OpVal.geq z z z) (TL.en (TC.cD z hh (fun h105 hh=> ?_) (fun h105 hh=> ?_)))
  ·refine TC.a (TL.i z z (TL.en (TC.ret (S.r (B.r (S.r (S.r ?_)))))))
   replace hh:=fin_x hR1 hh
   refine B.r (S.r ?_)
   obtain rfl:=so hh
   exact rq [4] ⟨z,z,z⟩
  refine TC.skip (S.n (TC.a (TL.s z z (TL.i z z ?_))))
  have u18:=grd_c hh
  replace hh:=grd_t hh
  refine TL.w z (indexN z underlying194 sz62 z z f1_0.rv.sl (by omega)) (TL.w z (loadS1 (0:Nat) z ag62 z f1_0 (by omega) z) (TL.i z z (TL.en (TC.a (TL.i z z (TL.i z z ?_))))))
  obtain ⟨v23,u23,hh⟩:=bnd_e hh
  refine TL.op z (callP (compareU_con u23) z z pf158 z z z ?_)
  refine TL.i z z (TL.en (TC.a (TL.i z z (TL.w z (OpVal.neq z z z) (TL.en (TC.cD z hh (fun h106 hh=> ?_) (fun h106 hh=> ?_)))))))
  ·refine TC.a (TL.i z z (TL.i z z (TL.en (TC.ret (B.r (S.r (S.r ?_)))))))
   replace hh:=fin_x hR1 hh
   refine B.r (S.r ?_)
   obtain rfl:=so hh
   exact rq [4] ⟨z,z,z⟩
  refine TC.skip (B.n (S.n (TC.region (TL.w z (OpVal.succ z z z (by omega)) (TL.i z z (TL.en ?_))))))
  obtain ⟨hh,hlt107⟩:=nxt_x hR1 hh
  exact lf ((k103+1),()) hlt107 hh (Sub.pre 0 z)
 refine TC.exit (S.x (S.x ?_))
 replace hh:=fin_x hR1 hh
 refine TC.exitHere (S.n (TC.seq (TC.a (TL.s z z (TL.w z (lenC z underlying194 z) (TL.s z z (TL.w z (lenC z underlying194 z) (TL.w z (OpVal.lss z z z) (TL.en (TC.cD z hh (fun h108 hh=> ?_) (fun h108 hh=> ?_)))))))))))
 ·refine TC.a (TL.i z z (TL.en (TC.ret (S.r ?_))))
  obtain rfl:=so hh
  exact rq [4] ⟨z,z,z⟩
 refine TC.skip (S.n (TC.a (TL.i z z (TL.en (TC.ret ?_)))))
 obtain rfl:=so hh
 exact rq [4] ⟨z,z,z⟩
def Dg_(x0:Arc)(x1:Arc):Option (Int):=
 bnd (B4_ x0.frm x1.frm) (fun v8=>bnd (B4_ x0.to x1.to) (fun v13=>bnd (compareUs [x0.set.a,x0.set.b,x0.set.c,x0.set.d] [x1.set.a,x1.set.b,x1.set.c,x1.set.d]) (fun v18=>bnd (Cu_ x0.out x1.out) (fun v23=>bnd (D2_ x0.copy) (fun v26=>bnd (D2_ x1.copy) (fun v29=>bnd (B4_ v26 v29) (fun v30=>bnd (Em_ [v8,v13,v18,v23,v30]) (fun v32=>some v32))))))))
theorem Fj_{x0:Arc}{x1:Arc}{r:Int}(hh:Dg_ x0 x1=some r):
  Con Tryz.prog 98 #[.agg #[.int .i64 x0.frm,.int .i64 x0.to,.int .u64 ((x0.set.a:Nat):Int),.int .u64 ((x0.set.b:Nat):Int),.int .u64 ((x0.set.c:Nat):Int),.int .u64 ((x0.set.d:Nat):Int),.string (bs x0.out),.bool x0.copy],.agg #[.int .i64 x1.frm,.int .i64 x1.to,.int .u64 ((x1.set.a:Nat):Int),.int .u64 ((x1.set.b:Nat):Int),.int .u64 ((x1.set.c:Nat):Int),.int .u64 ((x1.set.d:Nat):Int),.string (bs x1.out),.bool x1.copy]] σ [] (PureP (.int .i64 r) σ):=by
 dsimp only [Dg_]at hh
 refine Con.mk (n:=34) Tryz.func98 z z z (fun w0=> ?_)
 refine TC.a (TL.op z (boxA z z z z (fun b101=> ?_)))
 refine TL.op z (boxA z z z z (fun b103=> ?_))
 refine TL.i z z (TL.en (TC.seq ?_))
 obtain ⟨v8,u8,hh⟩:=bnd_e hh
 obtain ⟨v13,u13,hh⟩:=bnd_e hh
 obtain ⟨v18,u18,hh⟩:=bnd_e hh
 obtain ⟨v23,u23,hh⟩:=bnd_e hh
 obtain ⟨v26,u26,hh⟩:=bnd_e hh
 obtain ⟨v29,u29,hh⟩:=bnd_e hh
 obtain ⟨v30,u30,hh⟩:=bnd_e hh
 obtain ⟨v32,u32,hh⟩:=bnd_e hh
 refine TC.draw [] (by kernel_rfl) (TA.a 0 z (fieldLoc z fo66_0 z) z (TA.b 1 z (loadLoc z ag3 z (i:=1) z z) z (TA.a 2 z (fieldLoc z fo66_0 z) z (TA.b 3 z (loadLoc z ag3 z (i:=0) z z) z (TA.a 5 z (fieldLoc z fo66_1 z) z (TA.b 6 z (loadLoc z ag3 z (i:=1) z z) z (TA.a 7 z (fieldLoc z fo66_1 z) z (TA.b 8 z (loadLoc z ag3 z (i:=0) z z) z (TA.a 10 z (fieldLoc z fo66_2 z) z (TA.b 11 z (sliceArr z underlying64 sz62 z) z (TA.a 12 z (fieldLoc z fo66_2 z) z (TA.b 13 z (sliceArr z underlying64 sz62 z) z (TA.a 15 z (fieldLoc z fo66_3 z) z (TA.b 16 z (loadLoc z ag9 z (i:=1) z z) z (TA.a 17 z (fieldLoc z fo66_3 z) z ?_)))))))))))))))
 refine TA.b 18 z (loadLoc z ag9 z (i:=0) z z) z (TA.a 20 z (fieldLoc z fo66_4 z) z (TA.b 21 z (loadLoc z ag4 z (i:=1) z z) z (TA.a 23 z (fieldLoc z fo66_4 z) z (TA.b 24 z (loadLoc z ag4 z (i:=0) z z) z (TA.ac 4 z (callP (Cv_ u8) z z pf135 z z z (k0 ?_)))))))
 refine TA.ac 9 z (callP (Cv_ u13) z z pf135 z z z (k0 ?_))
 refine TA.front 1 z z (TA.ac 14 z (callK (Con.lendC (fun _ hle116 hr114=>Con.lendC (fun _ hle117 hr115=>compareUs_con (RS.ofCells (l:=[x0.set.a,x0.set.b,x0.set.c,x0.set.d]) (hle117 _ _ hr114) encW_len encW_one z z z) (RS.ofCells (l:=[x1.set.a,x1.set.b,x1.set.c,x1.set.d]) hr115 encW_len encW_one z z z) u18))) z z pf139 z z z z ⟨(fun w h=>sees_of (Store.le.refl _) (fun r hr=>mem_pick [1,0] z hr) w h),?_⟩))
 refine TA.ac 19 z (callP (D3_ u23) z z pf64 z z z ⟨(fun w h=>sees_of (Store.le.refl _) (fun r hr=>mem_pick [1,0] z hr) w h),?_⟩)
 refine TA.ac 22 z (callP (E9_ u26) z z pf140 z z z ⟨(fun w h=>sees_of (Store.le.refl _) (fun r hr=>mem_pick [1,0] z hr) w h),?_⟩)
 refine TA.ac 25 z (callP (E9_ u29) z z pf140 z z z ⟨(fun w h=>sees_of (Store.le.refl _) (fun r hr=>mem_pick [1,0] z hr) w h),?_⟩)
 refine TA.ac 26 z (callP (Cv_ u30) z z pf135 z z z ⟨(fun w h=>sees_of (Store.le.refl _) (fun r hr=>mem_pick [1,0] z hr) w h),?_⟩)
 refine TA.ac 27 z (OpOk.lit (enc:=eI_) [v8,v13,v18,v23,v30] z underlying86 sz3 ze3 z z z eIl_ (by decide) (by decide) (0:Int) z (by decide) z (by decide) eIo_ (fun a118 c119=>⟨(fun w h=>sees_of (Store.le.refl _) (fun r hr=>mem_pick [2,1] z hr) w h),?_⟩))
 refine TA.ac 28 z (callK (Con.lend eIl_ (fun _ hle122 hr121=>Fc_ hr121 u32)) z z pf134 z z z z ⟨(fun w h=>sees_of (Store.le.refl _) (fun r hr=>mem_pick [2,1] z hr) w h),?_⟩)
 refine TA.a 29 z (moveI (.inr z) z) z (TA.dn (S.n (TC.rt 0 ?_)))
 obtain rfl:=so hh
 exact rq [4] ⟨z,z,z⟩
end Go.Proofs.YtchebnpdnfhenaaGreatDoor
end

noncomputable section
namespace Go.E
open Go Go.Sort Go.Proofs Go.Shelf
theorem Reach.grown{w w':World}{H:List Res}(h:Reach w [] (fun _=>none) σ w' H): ∃q os',w'=grow (w.drewN q) os':=by
  refine ⟨w'.drawn - w.drawn,w'.heap.extract w.heap.size w'.heap.size,?_⟩
  have h1:w'.heap=w.heap++w'.heap.extract w.heap.size w'.heap.size:=by
    apply Array.ext_getElem?
    intro i
    rw [Array.getElem?_append]
    split
    · rename_i hi;exact h.frame i hi (by simp)
    rename_i hi
    by_cases hl:i<w'.heap.size
    · rw [Array.getElem?_extract_of_lt (by omega)];simp only [show w.heap.size+(i - w.heap.size)=i by omega];exact Array.getElem?_eq_getElem hl
    rw [Array.getElem?_eq_none (by omega),Array.getElem?_eq_none (by simp;omega)]
  have h2:=h.drawn
  cases w' with
  |mk heap tape drawn os output=>
    have e1:=h.os;have e2:=h.tape;have e3:=h.output
    simp only at h1 h2 e1 e2 e3
    simp only [grow,World.drewN]
    rw [World.mk.injEq]
    exact ⟨h1,e2,by omega,e1,e3⟩
theorem reach_nil(w:World):Reach w [] (fun _=>none) (fun _=>none) w []:=
  ⟨rfl,rfl,rfl,Nat.le_refl _,fun _ _ _=>rfl,Store.le.refl _,(fun _ _ h=>by cases h),(fun _ _ h=>by cases h),by simp,by simp,by simp [blks],by simp,Nat.le_refl _⟩
section
variable {α:Type} [Inhabited α] {P:Program}
theorem cmpLays1_of{g:Nat}{enc:α→Value}{cf:α→α→Int}{blk off size:Nat}{w:World}(h: ∀x y τ,Con P g #[enc x,enc y] τ [] (PureP (.int .i64 (cf x y)) τ)):CmpLays1 P g #[] enc cf blk off size w:=by
  intro m os dk _ x y
  refine (h x y (fun _=>none) _ (reach_nil _)).mono fun e w' ⟨r,σ',H',he,⟨hr,_,_⟩,k⟩=>⟨by rw [he,hr],Reach.grown k⟩
theorem cmpLays_of{g k:Nat}{enc:α→List Value}{cf:α→α→Int}{blk off size:Nat}{w:World}(h: ∀x y τ,Con P g #[.agg (enc x).toArray,.agg (enc y).toArray] τ [] (PureP (.int .i64 (cf x y)) τ)):CmpLays P g #[] enc k cf blk off size w:=by
  intro m os dk _ x y
  refine (h x y (fun _=>none) _ (reach_nil _)).mono fun e w' ⟨r,σ',H',he,⟨hr,_,_⟩,k⟩=>⟨by rw [he,hr],Reach.grown k⟩
end
theorem getBang{α:Type}[Inhabited α](l:List α)(i:Nat)(h:i<l.length):l.toArray[i]! =l[i]:=by simp [h]
theorem Reach.sorted{w0:World}{C:List Nat}{σ0 σ:Store}{w:World}{F:List Res}{E size n cap g m:Nat}{xs xs':List Value}{os:Array Obj}(h:Reach w0 C σ0 σ w (Res.row E size (.slice (some ⟨g,0,none⟩) n cap) n xs::F))(hl:xs'.length=xs.length)(h1: ∀u∈xs',u.oneCell'=true):
    Reach w0 C σ0 σ (grow (putRow (id:Value→Value) (Sort.ahead w m) g 0 xs'.toArray) os) (Res.row E size (.slice (some ⟨g,0,none⟩) n cap) n xs'::F):=by
  obtain ⟨hown,hone,hbg⟩:=h.holds _ (List.mem_cons_self ..)
  obtain ⟨hlen,hc⟩:=hown
  rcases hc with ⟨hc,_⟩|⟨g',cap',cur,hv,hb0,hg,h3,h4,h5,h6⟩
  · cases hc
  cases hv
  have hgl:g<w.heap.size:=(Array.getElem?_eq_some_iff.1 hg).1
  have hnew:(grow (putRow (id:Value→Value) (Sort.ahead w m) g 0 xs'.toArray) os).heap[g]? =some (.cells (putCells (id:Value→Value) 0 xs'.toArray cur) E):=by
    rw [heap_grow_old _ _ (by simpa using hgl)]
    simp [putRow,mapBlock,Sort.ahead,Array.getElem?_modify,hg,onCells]
  have hold: ∀k,k<w.heap.size→k≠g→(grow (putRow (id:Value→Value) (Sort.ahead w m) g 0 xs'.toArray) os).heap[k]? =w.heap[k]? :=by
    intro k hk hne
    rw [heap_grow_old _ _ (by simpa using hk)]
    have:g≠k:=fun e=>hne e.symm
    simp [putRow,mapBlock,Sort.ahead,Array.getElem?_modify,this]
  have hcur:xs.length≤cur.size:=by
    have:=congrArg List.length h6
    simp at this;omega
  refine h.turn1 (some g) (some g) rfl rfl rfl rfl rfl (by simp [grow]) (by simp [grow,putRow,mapBlock,Sort.ahead]) (fun k hk hne=>hold k hk fun e=>hne (by rw [e])) ⟨⟨by rw [hl];exact hlen,.inr ⟨g,cap,_,rfl,hb0,hnew,h3,h4,by simp [putCells,h5],?_⟩⟩,h1,hbg⟩ (fun b hb=> .inl hb)
  apply List.ext_getElem?
  intro i
  by_cases hi:i<n * size
  · have hi2:i<xs'.length:=by rw [hl,hlen];exact hi
    rw [List.getElem?_take_of_lt hi,Array.getElem?_toList]
    simp [putCells,hi2,show i<cur.size by omega]
  rw [List.getElem?_take_eq_none (by omega),List.getElem?_eq_none (by omega)]
theorem holds_row{w:World}{E size n cap g:Nat}{xs:List Value}(h:w.ownsRow 0 E size (.slice (some ⟨g,0,none⟩) n cap) n xs):Holds (id:Value→Value) w g 0 xs.toArray∧g<w.heap.size:=by
  obtain ⟨hlen,hc⟩:=h
  rcases hc with ⟨hc,_⟩|⟨g',cap',cur,hv,hb0,hg,h3,h4,h5,h6⟩
  · cases hc
  cases hv
  refine ⟨fun j hj=> ?_,(Array.getElem?_eq_some_iff.1 hg).1⟩
  have hj':j<xs.length:=by simpa using hj
  refine ⟨?_,by simp [World.frozen?,hg]⟩
  have h7:(cur.toList.take (n * size))[j]? =xs[j]? :=by rw [h6]
  rw [List.getElem?_take_of_lt (by omega)]at h7
  simp only [World.cell?,hg,Nat.zero_add,Option.isSome_none,Bool.false_eq_true,if_false]
  rw [←Array.getElem?_toList,h7]
  simp [hj']
theorem putRow_id{α:Type}[Inhabited α](enc:α→Value)(w:World)(g:Nat)(l:List α):putRow enc w g 0 l.toArray=putRow (id:Value→Value) w g 0 (l.map enc).toArray:=by
  unfold putRow
  congr 1
  funext c
  unfold putCells
  apply Array.ext_getElem?
  intro i
  simp only [Array.getElem?_mapIdx]
  cases hc:c[i]? with
  |none=>rfl
  |some v=>
    simp only [Option.map_some,Nat.zero_le,true_and,Nat.zero_add,Nat.sub_zero,List.size_toArray,List.length_map]
    split
    · rename_i hi;simp [hi]
    rfl
theorem flatK_list {α : Type} [Inhabited α] {enc : α → List Value} {k : Nat} (hk : ∀ x, (enc x).length = k) (l : List α) : flatK enc k l.toArray = (l.flatMap enc).toArray := by
  have hl:(l.flatMap enc).length=l.length * k:=flatMap_len hk l
  refine ext_get! (by simp [hl]) fun t ht=> ?_
  have ht':t<l.length * k:=by simpa using ht
  have k0 : 0 < k := by rcases Nat.eq_zero_or_pos k with h | h
                        · subst h;simp at ht'
                        exact h
  have hd:t / k<l.length:=Nat.div_lt_of_lt_mul (by rw [Nat.mul_comm];exact ht')
  have hm:t % k<k:=Nat.mod_lt _ k0
  rw [get_flatK _ _ _ _ (by simpa using ht'),getBang l _ hd]
  have h2:=flatMap_get hk l (t / k) (t % k) l[t / k] (List.getElem?_eq_getElem hd) hm
  rw [Nat.div_add_mod' t k]at h2
  have hb:t<(l.flatMap enc).toArray.size:=by simpa [hl]using ht'
  have h3:(l.flatMap enc).toArray[t]! =(enc l[t / k])[t % k]! :=by
    rw [getElem!_pos (l.flatMap enc).toArray t hb]
    have h4:(l.flatMap enc)[t]? =some ((l.flatMap enc).toArray[t]'hb):=by rw [←List.getElem?_toArray];exact Array.getElem?_eq_getElem hb
    rw [h2]at h4
    have hlt:t % k<(enc l[t / k]).length:=by rw [hk];exact hm
    rw [List.getElem?_eq_getElem hlt,Option.some.injEq]at h4
    rw [getElem!_pos (enc l[t / k]) (t % k) hlt,h4]
  rw [h3]
def sortL{α:Type}(cf:α→α→Int)(l:List α):List α:=l.mergeSort fun x y=> !decide (cf y x<0)
def SortP{α:Type}(E size:Nat)(enc:α→List Value)(a:Option Addr)(c:Nat)(l l':List α)(σ:Store):Value→Store→List Res→Prop:=fun v σ' H'=>v= .tuple #[]∧σ=σ'∧H'=[Res.rowS E size enc (.slice a l.length c) l']
structure TotalCmp {α:Type} (cf:α→α→Int):Prop where
  swo:SWO (ltOf cf)
  tot: ∀x y,ltOf cf x y=false→ltOf cf y x=false→x=y
section
variable {α:Type} [Inhabited α] {P:Program} {ρ:Ren}
theorem Con.sort1(L:SlLaysF.n6 P ρ)(L0:SlLaysF0.n6 P ρ){enc:α→Value}{encL:α→List Value}{cf:α→α→Int}{f g E c:Nat}{a:Option Addr}{l:List α}(hf:ρ.f 6=f)(he: ∀x,encL x=[enc x])(h1:OneCell enc)(hO:TotalCmp cf)
    (eg: ∀args w,(callFunc g args).run P w= .ok (.enter g args) w) (hc: ∀x y τ,Con P g #[enc x,enc y] τ [] (PureP (.int .i64 (cf x y)) τ)):
    Con P f #[.slice a l.length c,.func (.func g) #[] #[]] σ [Res.rowS E 1 encL (.slice a l.length c) l] (SortP E 1 encL a c l (sortL cf l) σ):=by
  subst hf
  have hflat: ∀l:List α,l.flatMap encL=l.map enc:=fun l=>by
    induction l with
    |nil=>rfl
    |cons x l ih=>rw [List.flatMap_cons,ih,he];rfl
  have hlen:(sortL cf l).length=l.length:=List.length_mergeSort _
  intro w hw
  obtain ⟨hown,hone,hbg⟩:=hw.holds _ (List.mem_cons_self ..)
  have hsl:=isSl_row hown
  rcases id hown.2 with ⟨hn,hm⟩|⟨g',cap',cur,hv,hb0,hg,h3,h4,h5,h6⟩
  · have hl0:l=[]:=List.eq_nil_of_length_eq_zero hm
    subst hl0
    refine (AnyF.slices_SortFunc_none L0 a c (.func (.func g) #[] #[]) w).mono fun e w' ⟨h1,h2⟩=>⟨_,σ,_,h1,⟨rfl,rfl,rfl⟩,?_⟩
    subst h2
    rw [show sortL cf ([]:List α)=[]from by simp [sortL]]
    exact hw
  cases hv
  have hH:=holds_row hown
  rw [hflat]at hH
  have hHe:Holds enc w g' 0 l.toArray:=fun j hj=>by
    have:=hH.1 j (by simpa using hj)
    have hj':j<l.length:=by simpa using hj
    simpa [hj']using this
  have hsz:l.toArray.size<4611686018427387904:=by simp;omega
  have:=Any.slices_SortFunc_total L enc h1 cf hO.swo g #[] g' 0 c l.toArray w eg (cmpLays1_of hc) hHe hH.2 hsz hO.tot
  refine this.mono fun e w' ⟨h7,n,os,h8⟩=>⟨_,σ,_,h7,⟨rfl,rfl,rfl⟩,?_⟩
  subst h8
  have h9:(l.toArray.toList.mergeSort fun x y=> !(ltOf cf) y x)=sortL cf l:=rfl
  rw [h9]
  unfold sortWorld
  rw [putRow_id]
  have:=Reach.sorted (h:=hw) (m:=n) (os:=os) (xs':=(sortL cf l).map enc) (by rw [hflat,List.length_map,List.length_map,hlen]) (fun u hu=>by
    obtain ⟨x,_,rfl⟩:=List.mem_map.1 hu
    exact h1 x)
  unfold Res.rowS
  rw [hflat (sortL cf l),hlen]
  exact this
theorem Con.sortK(L:SlLaysF0.n6 P ρ){k:Nat}{enc:α→List Value}{cf:α→α→Int}{f g E c:Nat}{a:Option Addr}{l:List α}(hf:ρ.f 6=f)(aE: ∀w,(isAgg (ρ.t 24)).run P w= .ok true w)(zE: ∀w,(Go.sizeOf (ρ.t 24)).run P w= .ok k w)(hk: ∀x,(enc x).length=k)(h1: ∀x, ∀u∈enc x,u.oneCell'=true)(hO:TotalCmp cf)
    (eg: ∀args w,(callFunc g args).run P w= .ok (.enter g args) w) (hc: ∀x y τ,Con P g #[.agg (enc x).toArray,.agg (enc y).toArray] τ [] (PureP (.int .i64 (cf x y)) τ)):
    Con P f #[.slice a l.length c,.func (.func g) #[] #[]] σ [Res.rowS E k enc (.slice a l.length c) l] (SortP E k enc a c l (sortL cf l) σ):=by
  subst hf
  have hlen:(sortL cf l).length=l.length:=List.length_mergeSort _
  intro w hw
  obtain ⟨hown,hone,hbg⟩:=hw.holds _ (List.mem_cons_self ..)
  rcases id hown.2 with ⟨hn,hm⟩|⟨g',cap',cur,hv,hb0,hg,h3,h4,h5,h6⟩
  · have hl0:l=[]:=List.eq_nil_of_length_eq_zero hm
    subst hl0
    refine (AnyF.slices_SortFunc_none L a c (.func (.func g) #[] #[]) w).mono fun e w' ⟨h1,h2⟩=>⟨_,σ,_,h1,⟨rfl,rfl,rfl⟩,?_⟩
    subst h2
    rw [show sortL cf ([]:List α)=[]from by simp [sortL]]
    exact hw
  cases hv
  have hH:=holds_row hown
  have hHe:HoldsK enc k w g' 0 l.toArray:=by
    unfold HoldsK;rw [flatK_list hk];exact hH.1
  have hsz:l.toArray.size<4611686018427387904:=by simp;omega
  have:=AnyQ.slices_SortFunc_total L k aE zE enc hk h1 cf hO.swo g #[] g' 0 c l.toArray w eg (cmpLays_of hc) hHe hH.2 hsz hO.tot
  refine this.mono fun e w' ⟨h7,n,os,h8⟩=>⟨_,σ,_,h7,⟨rfl,rfl,rfl⟩,?_⟩
  subst h8
  have h9:(l.toArray.toList.mergeSort fun x y=> !(ltOf cf) y x)=sortL cf l:=rfl
  rw [h9]
  unfold sortWorldK putRowK
  rw [flatK_list hk]
  have:=Reach.sorted (h:=hw) (m:=n) (os:=os) (xs':=(sortL cf l).flatMap enc) (by rw [flatMap_len hk,flatMap_len hk,hlen]) (fun u hu=>by
    obtain ⟨x,_,hx⟩:=List.mem_flatMap.1 hu
    exact h1 x u hx)
  unfold Res.rowS
  rw [hlen]
  exact this
end
end Go.E
end

noncomputable section
namespace Go.E
open Go
section
variable {S R:Type} {step:S→Option (S⊕R)}
theorem iter_any {y no : R} (f : Nat → S) (p : Nat → Bool) (n : Nat) (hs : ∀ k, k < n → p k = false → step (f k) = some (.inl (f (k + 1)))) (hy : ∀ k, k < n → p k = true → step (f k) = some (.inr y))
    (hd:step (f n)=some (.inr no)): ∀k,k≤n→iter step (f k)=some (bif (List.range n).any (fun i=>decide (k≤i) && p i) then y else no):=by
  intro k hk
  obtain ⟨m,rfl⟩: ∃m,k=n - m:=⟨n - k,by omega⟩
  induction m with
  |zero=>
    have:(List.range n).any (fun i=>decide (n - 0≤i) && p i)=false:=by
      rw [List.any_eq_false];intro i hi;have:=List.mem_range.1 hi;simp;omega
    rw [this];exact iter_done hd
  |succ m ih=>
    by_cases h:m<n
    · have e:n - (m+1)+1=n - m:=by omega
      cases hp:p (n - (m+1))with
      |true=>
        have:(List.range n).any (fun i=>decide (n - (m+1)≤i) && p i)=true:=by
          rw [List.any_eq_true];exact ⟨n - (m+1),List.mem_range.2 (by omega),by simp [hp]⟩
        rw [this];exact iter_done (hy _ (by omega) hp)
      |false=>
        have h1:=hs (n - (m+1)) (by omega) hp
        rw [e]at h1
        have:(List.range n).any (fun i=>decide (n - (m+1)≤i) && p i)=(List.range n).any (fun i=>decide (n - m≤i) && p i):=by
          rw [Bool.eq_iff_iff,List.any_eq_true,List.any_eq_true]
          constructor
          · rintro ⟨i,hi,hx⟩
            simp only [Bool.and_eq_true,decide_eq_true_eq]at hx
            refine ⟨i,hi,?_⟩
            have:i≠n - (m+1):=fun h=>by rw [h,hp]at hx;exact absurd hx.2 Bool.false_ne_true
            simp [hx.2];omega
          rintro ⟨i,hi,hx⟩
          simp only [Bool.and_eq_true,decide_eq_true_eq]at hx
          exact ⟨i,hi,by simp [hx.2];omega⟩
        rw [this]
        exact iter_next h1 (ih (by omega))
    have e:n - (m+1)=n - m:=by omega
    rw [e];exact ih (by omega)
theorem iter_any0{y no:R}(f:Nat→S)(p:Nat→Bool)(n:Nat)(hs: ∀k,k<n→p k=false→step (f k)=some (.inl (f (k+1))))(hy: ∀k,k<n→p k=true→step (f k)=some (.inr y))
    (hd:step (f n)=some (.inr no)):iter step (f 0)=some (bif (List.range n).any p then y else no):=by
  have:=iter_any f p n hs hy hd 0 (by omega)
  simpa using this
theorem iter_seq0{r:R}(f:Nat→S)(n:Nat)(hs: ∀k,k<n→step (f k)=some (.inl (f (k+1))))(hd:step (f n)=some (.inr r)):iter step (f 0)=some r:=iter_seq f n hs hd 0 (by omega)
end
theorem range_any{α:Type}(l:List α)(d:α)(p:α→Bool):(List.range l.length).any (fun i=>p (nth l i d))=l.any p:=by
  rw [Bool.eq_iff_iff,List.any_eq_true,List.any_eq_true]
  constructor
  · rintro ⟨i,hi,h⟩
    have hi:=List.mem_range.1 hi
    exact ⟨nth l i d,List.mem_of_getElem? (getD_some l hi d),h⟩
  rintro ⟨x,hx,h⟩
  obtain ⟨i,hi,rfl⟩:=List.getElem_of_mem hx
  refine ⟨i,List.mem_range.2 hi,?_⟩
  have:nth l i d=l[i]:=by have:=getD_some l hi d;rw [List.getElem?_eq_getElem hi]at this;exact (Option.some.inj this).symm
  rw [this];exact h
theorem take_snoc{α:Type}(l:List α){k:Nat}(h:k<l.length)(d:α):l.take (k+1)=l.take k++[nth l k d]:=by
  rw [List.take_add_one,getD_some l h d];rfl
theorem nth_mem'{α:Type}{l:List α}{i:Nat}(h:i<l.length)(d:α):nth l i d∈l:=List.mem_of_getElem? (getD_some l h d)
end Go.E
end

noncomputable section
namespace Go.Proofs.YtchebnpdnfhenaaGreatDoor
open Go Go.E Go.Sort
structure GoodCmp {α:Type} (c:α→α→Int):Prop where
  eq: ∀x y,c x y=0↔x=y
  anti: ∀x y,c x y<0↔0<c y x
  trans: ∀x y z,c x y<0→c y z<0→c x z<0
theorem GoodCmp.total{α:Type}{c:α→α→Int}(h:GoodCmp c):TotalCmp c where
  swo := {
    irrefl:=fun x=>by have:=(h.eq x x).2 rfl;simp [ltOf,this]
    trans:=fun x y z h1 h2=>by
      simp only [ltOf,decide_eq_true_eq]at *
      exact h.trans x y z h1 h2
    ntrans:=fun x y z h1 h2=>by
      simp only [ltOf,decide_eq_false_iff_not]at *
      intro h3
      by_cases e1:x=y
      · subst e1;exact h2 h3
      by_cases e2:y=z
      · subst e2;exact h1 h3
      have n1:c x y≠0:=fun e=>e1 ((h.eq _ _).1 e)
      have n2:c y z≠0:=fun e=>e2 ((h.eq _ _).1 e)
      have h4:c z y<0:=(h.anti _ _).2 (by omega)
      exact h1 (h.trans _ _ _ h3 h4)}
  tot:=fun x y h1 h2=>by
    simp only [ltOf,decide_eq_false_iff_not]at *
    refine (h.eq x y).1 ?_
    have:=(h.anti y x)
    omega
def corI(a b:Int):Int:=if a≠0 then a else b
theorem GoodCmp.lex {α β γ : Type} {c : β → β → Int} {d : γ → γ → Int} (hc : GoodCmp c) (hd : GoodCmp d) (f : α → β) (g : α → γ) (hfg : ∀ x y, f x = f y → g x = g y → x = y) : GoodCmp fun x y => corI (c (f x) (f y)) (d (g x) (g y)) where
  eq x y:=by
    unfold corI
    by_cases h:c (f x) (f y)=0
    · have hf:=(hc.eq _ _).1 h
      simp only [h,ne_eq,not_true_eq_false,if_false,hd.eq]
      exact ⟨fun hg=>hfg x y hf hg,fun e=>by rw [e]⟩
    simp only [ne_eq,h,not_false_eq_true,if_true,false_iff]
    intro e;subst e;exact h ((hc.eq _ _).2 rfl)
  anti x y:=by
    unfold corI
    have h1:=hc.anti (f x) (f y)
    have h2:=hc.anti (f y) (f x)
    have h3:=hd.anti (g x) (g y)
    by_cases h:c (f x) (f y)=0
    · have hf:=(hc.eq _ _).1 h
      have h':c (f y) (f x)=0:=(hc.eq _ _).2 hf.symm
      simp only [h,h',ne_eq,not_true_eq_false,if_false];exact h3
    have h':c (f y) (f x)≠0:=fun e=>h ((hc.eq _ _).2 ((hc.eq _ _).1 e).symm)
    simp only [h,h',ne_eq,not_false_eq_true,if_true];exact h1
  trans x y z := by
    unfold corI
    intro h1 h2
    by_cases a:c (f x) (f y)=0
    · have ea:=(hc.eq _ _).1 a
      rw [a]at h1;simp only [ne_eq,not_true_eq_false,if_false]at h1
      rw [ea]
      by_cases b:c (f y) (f z)=0
      · rw [b]at h2 ⊢
        simp only [ne_eq,not_true_eq_false,if_false]at h2 ⊢
        exact hd.trans _ _ _ h1 h2
      simp only [ne_eq,b,not_false_eq_true,if_true]at h2 ⊢;exact h2
    simp only [ne_eq,a,not_false_eq_true,if_true]at h1
    by_cases b:c (f y) (f z)=0
    · have eb:=(hc.eq _ _).1 b
      rw [←eb]
      simp only [ne_eq,a,not_false_eq_true,if_true];exact h1
    simp only [ne_eq,b,not_false_eq_true,if_true]at h2
    have h3:=hc.trans _ _ _ h1 h2
    have h4:c (f x) (f z)≠0:=by omega
    simp only [ne_eq,h4,not_false_eq_true,if_true];exact h3
def cmpI(x y:Int):Int:=if x<y then -1 else if y<x then 1 else 0
theorem cmpI_good:GoodCmp cmpI where
  eq x y:=by unfold cmpI;(repeat' split)<;>omega
  anti x y:=by unfold cmpI;(repeat' split)<;>omega
  trans x y z:=by unfold cmpI;(repeat' split)<;>omega
def cmpN(x y:Nat):Int:=if x<y then -1 else if y<x then 1 else 0
theorem cmpN_good:GoodCmp cmpN where
  eq x y:=by unfold cmpN;(repeat' split)<;>omega
  anti x y:=by unfold cmpN;(repeat' split)<;>omega
  trans x y z:=by unfold cmpN;(repeat' split)<;>omega
theorem cmpB_eq: ∀a b:List UInt8,Lib.compareBytes a b=0↔a=b
  |[],[]=>by simp [Lib.compareBytes]
  |[],_::_=>by simp [Lib.compareBytes]
  |_::_,[]=>by simp [Lib.compareBytes]
  |x::a,y::b=>by
    simp only [Lib.compareBytes]
    split
    · rename_i h;simp;intro e;subst e;exact absurd h (UInt8.lt_irrefl _)
    rename_i h
    split
    · rename_i h';simp;intro e;subst e;exact absurd h' (UInt8.lt_irrefl _)
    rename_i h'
    have:x=y:=UInt8.le_antisymm (UInt8.not_lt.1 h') (UInt8.not_lt.1 h)
    subst this
    simp [cmpB_eq a b]
theorem cmpB_anti: ∀a b:List UInt8,Lib.compareBytes a b<0↔0<Lib.compareBytes b a
  |[],[]=>by simp [Lib.compareBytes]
  |[],_::_=>by simp [Lib.compareBytes]
  |_::_,[]=>by simp [Lib.compareBytes]
  | x :: a, y :: b => by
    simp only [Lib.compareBytes]
    by_cases h:x<y
    · have h': ¬ y<x:=fun h2=>UInt8.lt_irrefl _ (UInt8.lt_trans h h2)
      simp [h,h']
    by_cases h':y<x
    · simp [h,h']
    simp [h,h',cmpB_anti a b]
theorem cmpB_trans: ∀a b c:List UInt8,Lib.compareBytes a b<0→Lib.compareBytes b c<0→Lib.compareBytes a c<0
  |[],[],c,h,_=>by simp [Lib.compareBytes]at h
  |[],_::_,[],_,h=>by simp [Lib.compareBytes]at h
  |[],_::_,_::_,_,_=>by simp [Lib.compareBytes]
  |_::_,[],c,h,_=>by simp [Lib.compareBytes]at h
  |_::_,_::_,[],_,h=>by simp [Lib.compareBytes]at h
  | x :: a, y :: b, z :: c, h1, h2 => by
    simp only [Lib.compareBytes]at *
    by_cases hxy:x<y
    · by_cases hyz:y<z
      · have:=UInt8.lt_trans hxy hyz;simp [this]
      by_cases hzy:z<y
      · simp [hyz,hzy]at h2
      have:y=z:=UInt8.le_antisymm (UInt8.not_lt.1 hzy) (UInt8.not_lt.1 hyz)
      subst this;simp [hxy]
    by_cases hyx:y<x
    · simp [hxy,hyx]at h1
    have:x=y:=UInt8.le_antisymm (UInt8.not_lt.1 hyx) (UInt8.not_lt.1 hxy)
    subst this
    simp only [UInt8.lt_irrefl,if_false]at h1
    by_cases hyz:x<z
    · simp [hyz]
    by_cases hzy:z<x
    · simp [hyz,hzy]at h2
    simp only [hyz,hzy,if_false]at h2 ⊢
    exact cmpB_trans a b c h1 h2
theorem cmpB_good:GoodCmp Lib.compareBytes:=⟨cmpB_eq,cmpB_anti,cmpB_trans⟩
def cmpBool(x y:Bool):Int:=cmpI (if x then 1 else 0) (if y then 1 else 0)
theorem cmpBool_good:GoodCmp cmpBool where
  eq x y:=by cases x<;>cases y<;>decide
  anti x y:=by cases x<;>cases y<;>decide
  trans x y z:=by cases x<;>cases y<;>cases z<;>decide
theorem lt_dec{k n:Nat}(h:k<n):decide (((k:Nat):Int)<((n:Nat):Int))=true:=decide_eq_true (by omega)
theorem cmpI_lt{x y:Int}:cmpI x y<0↔x<y:=by unfold cmpI;(repeat' split)<;>omega
end Go.Proofs.YtchebnpdnfhenaaGreatDoor
end

noncomputable section
namespace Go.Proofs.YtchebnpdnfhenaaGreatDoor
open Go Go.E Go.Sort
theorem C2_(x y:Int):B4_ x y=some (cmpI x y):=by
  unfold B4_ Ed_ cmpI
  simp only [bnd,Option.bind_some,ne_eq,not_true_eq_false,decide_false,iteO_false]
  by_cases h:x<y
  · simp [h]
  by_cases h':y<x<;>simp [h,h']
theorem compareU_eq(x y:Nat):compareU x y=some (cmpN x y):=by
  unfold compareU isNaNU cmpN
  simp only [bnd,Option.bind_some,ne_eq,not_true_eq_false,decide_false,iteO_false]
  by_cases h:x<y
  · simp [h]
  by_cases h':y<x<;>simp [h,h']
theorem Ec_(x y:List UInt8):Cu_ x y=some (Lib.compareBytes x y):=rfl
def orL:List Int→Int
  |[]=>0
  |a::l=>corI a (orL l)
theorem Ga_(l:List Int): ∀m k,l.length=k+m→iter (fun q:Nat=>C6_ l q) k=some (orL (l.drop k)):=by
  intro m
  induction m with
  |zero=>
    intro k hk
    refine iter_done ?_
    rw [List.drop_of_length_le (by omega)]
    simp only [C6_,decide_eq_false (show ¬ ((k:Nat):Int)<((l.length:Nat):Int) by omega),iteO_false];rfl
  |succ m ih=>
    intro k hk
    have hlt:k<l.length:=by omega
    have hd:l.drop k=nth l k 0::l.drop (k+1):=by
      rw [List.drop_eq_getElem_cons hlt]
      have:=getD_some l hlt 0
      rw [List.getElem?_eq_getElem hlt,Option.some.injEq]at this
      rw [this]
    rw [hd,orL,corI]
    by_cases h:nth l k 0≠0
    · rw [if_pos h]
      refine iter_done ?_
      simp only [C6_,decide_eq_true (show ((k:Nat):Int)<((l.length:Nat):Int) by omega),iteO_true,decide_eq_true h];rfl
    rw [if_neg h]
    refine iter_next (s':=k+1) ?_ (ih (k+1) (by omega))
    simp only [C6_,decide_eq_true (show ((k:Nat):Int)<((l.length:Nat):Int) by omega),iteO_true,decide_eq_false h];rfl
theorem Fp_(l:List Int):Em_ l=some (orL l):=by
  unfold Em_;rw [Ga_ l l.length 0 (by omega),List.drop_zero]
def cmpTip(x y:Tip):Int:=corI (cmpI x.state y.state) (corI (Lib.compareBytes x.out y.out) 0)
theorem compareTips_eq(x y:Tip):Dd_ x y=some (cmpTip x y):=by
  unfold Dd_
  rw [bnd_some (C2_ _ _),bnd_some (Ec_ _ _),bnd_some (Fp_ _)];rfl
theorem corI_zero(a:Int):corI a 0=a:=by unfold corI;split<;>omega
theorem cmpTip_good:GoodCmp cmpTip:=by
  have:=GoodCmp.lex cmpI_good cmpB_good Tip.state Tip.out (fun x y h1 h2=>by cases x;cases y;simp_all)
  have e:cmpTip=fun x y=>corI (cmpI x.state y.state) (Lib.compareBytes x.out y.out):=by
    funext x y;unfold cmpTip;rw [corI_zero]
  rw [e];exact this
def cmpSet(s t:BSet):Int:=corI (cmpN s.a t.a) (corI (cmpN s.b t.b) (corI (cmpN s.c t.c) (cmpN s.d t.d)))
theorem compareUs_four(a b c d a' b' c' d':Nat):compareUs [a,b,c,d] [a',b',c',d']=some (corI (cmpN a a') (corI (cmpN b b') (corI (cmpN c c') (cmpN d d')))):=by
  have st: ∀(k x y:Nat),k<4→nth [a,b,c,d] k 0=x→nth [a',b',c',d'] k 0=y→(cmpN x y≠0→iter (fun q:Nat=>compareUs_b1 [a,b,c,d] [a',b',c',d'] q) k=some (cmpN x y))∧(∀r,cmpN x y=0→iter (fun q:Nat=>compareUs_b1 [a,b,c,d] [a',b',c',d'] q) (k+1)=some r→iter (fun q:Nat=>compareUs_b1 [a,b,c,d] [a',b',c',d'] q) k=some r):=by
    intro k x y hk hx hy
    have e1:((k:Nat):Int)<(([a,b,c,d].length:Nat):Int):=by simp;omega
    have e2: ¬ (([a',b',c',d'].length:Nat):Int)≤((k:Nat):Int):=by simp;omega
    refine ⟨fun h=>iter_done ?_,fun r h hr=>iter_next (s':=k+1) ?_ hr⟩
    · simp only [compareUs_b1,decide_eq_true e1,iteO_true,decide_eq_false e2,iteO_false]
      rw [grd_mk (by simp;omega),hx,hy,bnd_some (compareU_eq _ _),decide_eq_true h];rfl
    simp only [compareUs_b1,decide_eq_true e1,iteO_true,decide_eq_false e2,iteO_false]
    rw [grd_mk (by simp;omega),hx,hy,bnd_some (compareU_eq _ _),h];rfl
  have fi:iter (fun q:Nat=>compareUs_b1 [a,b,c,d] [a',b',c',d'] q) 4=some 0:=iter_done (by simp [compareUs_b1])
  have go: ∀(k x y:Nat) (r:Int),k<4→nth [a,b,c,d] k 0=x→nth [a',b',c',d'] k 0=y→iter (fun q:Nat=>compareUs_b1 [a,b,c,d] [a',b',c',d'] q) (k+1)=some r→iter (fun q:Nat=>compareUs_b1 [a,b,c,d] [a',b',c',d'] q) k=some (corI (cmpN x y) r):=by
    intro k x y r hk hx hy hr
    obtain ⟨h1,h2⟩:=st k x y hk hx hy
    by_cases h:cmpN x y=0
    · rw [show corI (cmpN x y) r=r from by simp [corI,h]];exact h2 r h hr
    rw [show corI (cmpN x y) r=cmpN x y from by simp [corI,h]];exact h1 h
  have h3:=go 3 d d' 0 (by omega) rfl rfl fi
  rw [corI_zero]at h3
  exact go 0 a a' _ (by omega) rfl rfl (go 1 b b' _ (by omega) rfl rfl (go 2 c c' _ (by omega) rfl rfl h3))
theorem cmpSet_good:GoodCmp cmpSet:=by
  have h1:=GoodCmp.lex (α:=Nat×Nat) cmpN_good cmpN_good Prod.fst Prod.snd (fun x y h1 h2=>Prod.ext h1 h2)
  have h2:=GoodCmp.lex (α:=Nat×Nat×Nat) cmpN_good h1 Prod.fst Prod.snd (fun x y h1 h2=>Prod.ext h1 h2)
  have h3:=GoodCmp.lex (α:=BSet) cmpN_good h2 BSet.a (fun s=>(s.b,s.c,s.d)) (fun x y h1 h2=>by
    cases x;cases y;simp_all)
  exact h3
def cmpArc(x y:Arc):Int:=corI (cmpI x.frm y.frm) (corI (cmpI x.to y.to) (corI (cmpSet x.set y.set) (corI (Lib.compareBytes x.out y.out) (corI (cmpBool x.copy y.copy) 0))))
theorem Ff_(b:Bool):D2_ b=some (if b then 1 else 0):=by cases b<;>rfl
theorem compareArcs_eq(x y:Arc):Dg_ x y=some (cmpArc x y):=by
  unfold Dg_
  rw [bnd_some (C2_ _ _),bnd_some (C2_ _ _),bnd_some (compareUs_four ..),bnd_some (Ec_ _ _),bnd_some (Ff_ _),bnd_some (Ff_ _),bnd_some (C2_ _ _),bnd_some (Fp_ _)];rfl
theorem cmpArc_good:GoodCmp cmpArc:=by
  have h1:=GoodCmp.lex (α:=List UInt8×Bool) cmpB_good cmpBool_good Prod.fst Prod.snd (fun x y h1 h2=>Prod.ext h1 h2)
  have h2:=GoodCmp.lex (α:=BSet×List UInt8×Bool) cmpSet_good h1 Prod.fst Prod.snd (fun x y h1 h2=>Prod.ext h1 h2)
  have h3:=GoodCmp.lex (α:=Int×BSet×List UInt8×Bool) cmpI_good h2 Prod.fst Prod.snd (fun x y h1 h2=>Prod.ext h1 h2)
  have h4:=GoodCmp.lex (α:=Arc) cmpI_good h3 Arc.frm (fun s=>(s.to,s.set,s.out,s.copy)) (fun x y h1 h2=>by
    cases x;cases y;simp_all)
  have e:cmpArc=fun x y=>corI (cmpI x.frm y.frm) (corI (cmpI x.to y.to) (corI (cmpSet x.set y.set) (corI (Lib.compareBytes x.out y.out) (cmpBool x.copy y.copy)))):=by
    funext x y;unfold cmpArc;rw [corI_zero]
  rw [e];exact h4
end Go.Proofs.YtchebnpdnfhenaaGreatDoor
end

noncomputable section
namespace Go.Proofs.YtchebnpdnfhenaaGreatDoor
open Go Go.E
instance:Inhabited Tip:=⟨Tip.zero⟩
instance:Inhabited Arc:=⟨Arc.zero⟩
theorem Gk_{a:Option Addr}{c:Nat}{l:List Tip}:Con Tryz.prog 124 #[.slice a l.length c,.func (.func 96) #[] #[]] σ [Res.rowS 76 2 encTip (.slice a l.length c) l] (SortP 76 2 encTip a c l (sortL cmpTip l) σ):=
  Con.sortK (k:=2) layT0 rfl Tryz.isAgg76 Tryz.sizeOf76 encTip_len encTip_one cmpTip_good.total (fun args w=>run_callFunc (by kernel_rfl) args w) (fun x y τ=>Fk_ (compareTips_eq x y))
theorem Gm_{a:Option Addr}{c:Nat}{l:List Arc}:Con Tryz.prog 137 #[.slice a l.length c,.func (.func 98) #[] #[]] σ [Res.rowS 66 8 encArc (.slice a l.length c) l] (SortP 66 8 encArc a c l (sortL cmpArc l) σ):=
  Con.sortK (k:=8) layA0 rfl Tryz.isAgg66 Tryz.sizeOf66 encArc_len encArc_one cmpArc_good.total (fun args w=>run_callFunc (by kernel_rfl) args w) (fun x y τ=>Fj_ (compareArcs_eq x y))
end Go.Proofs.YtchebnpdnfhenaaGreatDoor
end

noncomputable section
namespace Go.E
open Go
section
variable {β:Type} {E' E size:Nat} {enc:β→List Value} {v:Value}
theorem sees_nestX{H:List Res}{q i:Nat}{z:List (NP β)}(hq:H[q]? =some (Res.nestX E' E size enc v z i))(w:World)(h:Sees σ H w):Sees σ [Res.rowS E' 1 encN v z] w:=
  ⟨h.1,fun r hr=>by
    simp at hr;subst hr
    exact h.2 _ (List.mem_of_getElem? hq) _ (List.mem_cons_self ..)⟩
theorem isSl_nestX{H:List Res}{q i:Nat}{z:List (NP β)}{l:List (List β)}(hq:H[q]? =some (Res.nestX E' E size enc v z i))(hZ:Zn z l)(w:World)(h:Sees σ H w):IsSl v l.length∧l.length≤281474976710656:=by
  have:=isSl_seen (H:=H) (sees_nestX hq w h)
  rw [hZ.len]at this;exact this
end
theorem TC.drawR{X:Ctx}{Q:QP}{id:Nat}{ops:Array Oper}{e:Env}{H Hr:List Res}(hs: ∀r∈Hr,r∈H)(late:List Nat)(hm:X.P.follows .mixedOrders=true)(h:TA X ops Q σ Hr late ops.size (Array.replicate ops.size false) e σ H)(hnd:noDeferB ops=true:=by kernel_rfl):TC X Q (.region id ops true) e σ H:=fun w a hw ha=>
  Go.wpIn_mono (wpIn_region_any hm (wpAny_of_late _ _ _ _ (h (noDefer_of hnd) w.drew a hw.drew (sees_of (Store.le.refl _) hs _ hw.drew.sees) (closed_start _ _) ha))) fun ex a w h=>by
    cases ex<;>first|exact h|exact h.elim
section
variable {P:Program} {n:Nat} {e:Env} {σ:Store} {H:List Res} {o:Oper} {x y:Operand} {T T':TypeId} {k:IntKind} {a b:Int}
end
theorem bytesLess_eq: ∀l m:List UInt8,Op.bytesLess l m=decide (Lib.compareBytes l m<0)
  |[],[]=>by simp [Op.bytesLess,Lib.compareBytes]
  |_::_,[]=>by simp [Op.bytesLess,Lib.compareBytes]
  |[],_::_=>by simp [Op.bytesLess,Lib.compareBytes]
  | a :: x, b :: y => by
    simp only [Op.bytesLess,Lib.compareBytes,bytesLess_eq x y]
    by_cases h:a<b
    · simp [h]
    by_cases h':b<a
    · have: ¬ a=b:=fun e=>by subst e;exact h h'
      simp [h,h',this]
    have:a=b:=UInt8.le_antisymm (UInt8.not_lt.1 h') (UInt8.not_lt.1 h)
    subst this
    simp [h]
theorem OpVal.lssBs{P:Program}{n:Nat}{e:Env}{H:List Res}{o:Oper}{x y:Operand}{l m:List UInt8}{T T':TypeId}(ho:o.op= .binOp .lss T x y T')(hx:ev e x= .string (bs l))(hy:ev e y= .string (bs m)):OpVal P n o e σ H (.bool (decide (Lib.compareBytes l m<0))):=fun w _=>by
  simp only [execOp,ho,hx,hy,Sem.run_bind,run_eqGuard_str,Result.andThen_ok,binOp,Op.stringOp,ByteArray.toList_eq,bs_list,bytesLess_eq,Sem.run_pure]
theorem OpVal.loadWordAt{P:Program}{n:Nat}{e:Env}{H:List Res}{o:Oper}{x:Operand}{T b E i j off:Nat}{cs:Array Value}(s:BSet)(ho:o.op= .load T x)(hA:aggOf P T=some false)(hx:ev e x=loc b (off+i * 1))(hi:H[j]? =some (Res.cells b cs E))(hk:i<4)
    (hc:(cs.toList.drop off).take 4=s.vals):OpVal P n o e σ H (.int .u64 ((s.word i:Nat):Int)):=by
  refine OpVal.loadLoc ho hA hx hi ?_
  have h1:((cs.toList.drop off).take 4)[i]? =some (.int .u64 ((s.word i:Nat):Int)):=by
    rw [hc]
    match i,hk with
    |0,_=>rfl
    |1,_=>rfl
    |2,_=>rfl
    |3,_=>rfl
  rw [List.getElem?_take,if_pos hk,List.getElem?_drop]at h1
  rw [Nat.mul_one];simpa using h1
end Go.E
end

noncomputable section
namespace Go.Proofs.YtchebnpdnfhenaaGreatDoor
open Go Go.E Go.E.OpVal Go.E.OpOk Go.Proofs.Tryz
theorem ag25:aggOf Tryz.prog 25=some true:=by kernel_rfl
theorem by66:byOf Tryz.prog 66=some 72:=by kernel_rfl
theorem by76:byOf Tryz.prog 76=some 24:=by kernel_rfl
theorem eg66:Tryz.prog.eqGuardType Tryz.prog.depth 66=false:=by kernel_rfl
theorem eg76:Tryz.prog.eqGuardType Tryz.prog.depth 76=false:=by kernel_rfl
theorem es66(x y:Arc):Go.E.EqAt Tryz.prog 3 66 (.agg (Go.E.encArc x).toArray) (.agg (Go.E.encArc y).toArray) (decide (x=y)):=
 (EqAt.struct (ts:=[(false,3,0),(false,3,1),(false,64,2),(false,9,6),(false,4,7)]) (by kernel_rfl) (by kernel_rfl) (by kernel_rfl) (EqC.one (by kernel_rfl) rfl rfl (EqAt.int underlying3 x.frm y.frm |>.up (by decide)) (EqC.one (by kernel_rfl) rfl rfl (EqAt.int underlying3 x.to y.to |>.up (by decide)) (EqC.agg (s:=4) (us:=Go.E.setA x.set) (vs:=Go.E.setA y.set) (by kernel_rfl) (by kernel_rfl) rfl rfl (EqAt.set underlying64 underlying62 (by kernel_rfl) (by kernel_rfl) x.set y.set) (EqC.one (by kernel_rfl) rfl rfl (EqAt.str underlying9 x.out y.out |>.up (by decide)) (EqC.one (by kernel_rfl) rfl rfl (EqAt.bool underlying4 x.copy y.copy |>.up (by decide)) EqC.nil)))))).of (by rw [Bool.eq_iff_iff];cases x;cases y;simp)
theorem es76(x y:Tip):Go.E.EqAt Tryz.prog 2 76 (.agg (Go.E.encTip x).toArray) (.agg (Go.E.encTip y).toArray) (decide (x=y)):=
 (EqAt.struct (ts:=[(false,3,0),(false,9,1)]) (by kernel_rfl) (by kernel_rfl) (by kernel_rfl) (EqC.one (by kernel_rfl) rfl rfl (EqAt.int underlying3 x.state y.state) (EqC.one (by kernel_rfl) rfl rfl (EqAt.str underlying9 x.out y.out) EqC.nil))).of (by rw [Bool.eq_iff_iff];cases x;cases y;simp)
theorem pf124:plainF Tryz.prog 124=true:=by kernel_rfl
theorem pf126:plainF Tryz.prog 126=true:=by kernel_rfl
theorem pf136:plainF Tryz.prog 136=true:=by kernel_rfl
theorem pf137:plainF Tryz.prog 137=true:=by kernel_rfl
theorem pf138:plainF Tryz.prog 138=true:=by kernel_rfl
theorem pf43:plainF Tryz.prog 43=true:=by kernel_rfl
theorem pf88:plainF Tryz.prog 88=true:=by kernel_rfl
theorem pf95:plainF Tryz.prog 95=true:=by kernel_rfl
theorem pf97:plainF Tryz.prog 97=true:=by kernel_rfl
theorem pl25:plOf Tryz.prog 25=some #[(0,1),(1,1),(2,1),(3,1)]:=by kernel_rfl
theorem sz25:szOf Tryz.prog 25=some 4:=by kernel_rfl
theorem ze25:zeroOf Tryz.prog 25=some (.agg #[.int .i64 0,.slice none 0 0,.slice none 0 0,.slice none 0 0]):=by kernel_rfl
theorem Fw_{a:Option Addr}{c:Nat}{l:List Tip}(hl:RS σ 2 encTip (.slice a l.length c) l)(hsz:l.length * 24≤140737488355328):
  Con Tryz.prog 88 #[.slice a l.length c] σ [] (RowP 76 2 encTip l σ):=by
 have hb:=hl.rv.big
 refine Con.mk (n:=8) Tryz.func88 z z z (fun w0=> ?_)
 refine TC.a (TL.s z z (TL.nilS 76 2 encTip (TL.en (TC.seq (TC.a (TL.s z z (TL.w z (eqlNilSl z underlying22 z z) (TL.en (TC.cond z (fun h2=> ?_) (fun h2=> ?_))))))))))
 ·refine TC.a (TL.s z z (TL.nilS 76 2 encTip (TL.en (TC.ret (S.r ?_)))))
  cases a with
  |some _=>simp at h2
  |none=>
   obtain rfl:=hl.none_nil
   exact ret1R z z
 refine TC.skip (S.n (TC.a (TL.op z (lit0 (enc:=encTip) z z underlying22 sz76 z z (fun a4 c5=> ?_)))))
 refine TL.s z z (TL.op z (appendS z z underlying22 sz76 by76 ze76 z z (by decide) z z z (.inl hl) (by simpa using hsz) (by decide) (fun a7 c8=> ?_)))
 exact TL.s z z (TL.en (TC.ret (ret1R z z)))
def D9_(k125:Nat)(l128:List Tip)(k130:Nat):Option (((List Tip)×Nat×Nat)⊕((Nat)⊕((List Tip)))):=
 nxt (l128,k130,(k125+1))
def D8_(x0:List Tip)(k105:Nat)(l122:List Tip)(k124:Nat)(k125:Nat):Option (((List Tip)×Nat×Nat)⊕((Nat)⊕((List Tip)))):=
 iteO (decide (((k125:Nat):Int)<(((x0.length - k105):Nat):Int))) (grd (k125<(x0.length - k105)) (grd (0≤(IntKind.i64.wrap (((k125:Nat):Int) - 1))∧(IntKind.i64.wrap (((k125:Nat):Int) - 1))<((x0.length - k105):Nat)) (iteO (decide (¬ ((nth l122 (k105+k125) Tip.zero)=(nth l122 (k105+(IntKind.i64.wrap (((k125:Nat):Int) - 1)).toNat) Tip.zero)))) (grd (k125<(x0.length - k105)) (grd (k124<l122.length) (D9_ k125 (l122.set k124 (nth l122 (k105+k125) Tip.zero)) (k124+1)))) (D9_ k125 l122 k124)))) (fin (grd (k124≤x0.length) (grd (k124≤(l122.take k124++List.replicate (l122.length - k124) Tip.zero).length) (fin (some ((l122.take k124++List.replicate (l122.length - k124) Tip.zero).take k124))))))
def D4_(x0:List Tip)(k105:Nat):Option ((Nat)⊕((List Tip))):=
 iteO (decide (((k105:Nat):Int)<((x0.length:Nat):Int))) (grd (0≤(IntKind.i64.wrap (((k105:Nat):Int) - 1))∧(IntKind.i64.wrap (((k105:Nat):Int) - 1))<(x0.length:Int)) (iteO (decide ((nth x0 k105 Tip.zero)=(nth x0 ((IntKind.i64.wrap (((k105:Nat):Int) - 1)).toNat) Tip.zero))) (grd (k105≤x0.length) (iter (fun q:(List Tip)×Nat×Nat=>D8_ x0 k105 q.1 q.2.1 q.2.2) (x0,k105,1))) (nxt (k105+1)))) (fin (some x0))
def compactT(x0:List Tip):Option ((List Tip)):=
 iteO (decide (((x0.length:Nat):Int)<2)) (some x0) (iter (fun q:Nat=>D4_ x0 q) 1)
theorem Fn_{x0:List Tip}{r:(List Tip)}(hh:compactT x0=some r):
  Con Tryz.prog 126 #[.slice a0_1 x0.length c0_2] σ [Res.rowS 76 2 encTip (.slice a0_1 x0.length c0_2) x0] (fun v σ' H'=> ∃a1 c1,v= .slice a1 r.length c1∧σ=σ'∧H'=[Res.rowS 76 2 encTip (.slice a1 r.length c1) r]):=by
 dsimp only [compactT]at hh
 refine Con.mk (n:=61) Tryz.func126 z z z (fun w0=> ?_)
 refine TC.a (TL.s z z (TL.en (TC.seq (TC.a (TL.s z z (TL.w z (lenC z underlying22 z) (TL.w z (OpVal.lss z z z) (TL.en (TC.cD z hh (fun h102 hh=> ?_) (fun h102 hh=> ?_))))))))))
 ·refine TC.a (TL.s z z (TL.s z z (TL.en (TC.ret (S.r ?_)))))
  obtain rfl:=so hh
  exact ro [Res.rowS 76 2 encTip (.slice a0_1 x0.length c0_2) x0] z (RVs.tmp z RVs.nil) ⟨a0_1,c0_2,z,z,z⟩
 refine TC.skip (S.n (TC.seq (TC.a (TL.i z z (TL.en (TC.block (TC.loopG (α:=(Nat)×(Unit)) (rgs [(2,4),(10,50)]) (fun g=>[(3,.int .i64 ((g.1:Nat):Int))]) (fun g=>[Res.rowS 76 2 encTip (.slice a0_1 x0.length c0_2) x0]) (fun g=>σ) (fun g=>iter (fun q:Nat=>D4_ x0 q) g.1=some r) (fun g=>rounds (fun q:Nat=>D4_ x0 q) g.1) (1,()) (Sub.pre 1 z) z (by repeat (first|exact trivial|refine ⟨z,?_⟩)) hh (fun g1 j1 hg1=> ?_))))))))
 obtain ⟨k105,_⟩:=g1
 have hh:=hg1;clear hg1
 try dsimp only
 obtain ⟨z1,hh,hR1⟩:=iter_e hh
 dsimp only [D4_]at hh
 refine TC.isSl (i:=0) z (fun _ hb106 _=> ?_)
 refine TC.seq (TC.a (TL.i z z (TL.s z z (TL.w z (lenC z underlying22 z) (TL.w z (OpVal.lss z z z) (TL.en (TC.cD z hh (fun h107 hh=> ?_) (fun h107 hh=> ?_))))))))
 ·refine TC.skip (S.n (TC.seq (TC.block (TC.seq ?_))))
  have u19:=grd_c hh
  replace hh:=grd_t hh
  refine TC.draw [] (by kernel_rfl) (TA.a 0 z (moveSl (.inl z) z) z (TA.a 1 z (moveI (.inl z) z) z (TA.isSl (i:=0) z (fun hs110 _ _=> ?_))))
  refine TA.b 2 z (indexN z underlying22 sz76 z z hs110 (by omega)) z (TA.b 3 z (loadOA Tip.zero z ag76 sz76 z (q:=0) z encTip_len (by omega) (by omega)) z (TA.a 4 z (moveSl (.inl z) z) z (TA.a 5 z (moveI (.inl z) z) z (TA.a 6 z (subW z z z) z (TA.isSl (i:=0) z (fun hs111 _ _=> ?_))))))
  refine TA.b 7 z (OpVal.index z underlying22 sz76 z z hs111 u19.1 u19.2) z (TA.b 8 z (loadOA Tip.zero z ag76 sz76 z (q:=0) z encTip_len (by omega) (by omega)) z (TA.a 9 z (eqlSt (p:=(nth x0 k105 Tip.zero)=(nth x0 ((IntKind.i64.wrap (((k105:Nat):Int) - 1)).toNat) Tip.zero)) z z z eg76 (es76 (nth x0 k105 Tip.zero) (nth x0 ((IntKind.i64.wrap (((k105:Nat):Int) - 1)).toNat) Tip.zero)) z) z (TA.dn (S.n (TC.cD z hh (fun h112 hh=> ?_) (fun h112 hh=> ?_))))))
  ·refine TC.a (TL.s z z (TL.i z z ?_))
   have u24:=grd_c hh
   replace hh:=grd_t hh
   refine TL.isSl (i:=0) z (fun hs113 _ _=> ?_)
   obtain ⟨a113,c113,hv113,ho113⟩:=vw_of (k:=k105) (size:=2) hs113 (by omega)
   refine TL.w z (ho113 z underlying22 sz76 z z) (TL.s z z (TL.en (TC.seq (TC.a (TL.i z z (TL.en (TC.block (TC.loopG (α:=((List Tip)×Nat×Nat)×(Unit)) (rgs [(3,1),(5,1),(29,25)]) (fun g=>[(3,.int .i64 ((g.1.2.1:Nat):Int)),(5,.int .i64 ((g.1.2.2:Nat):Int))]) (fun g=>[Res.rowS 76 2 encTip (.slice a0_1 x0.length c0_2) g.1.1]) (fun g=>σ) (fun g=>iter (fun q:(List Tip)×Nat×Nat=>D8_ x0 k105 q.1 q.2.1 q.2.2) g.1=some z1∧g.1.1.length=x0.length) (fun g=>rounds (fun q:(List Tip)×Nat×Nat=>D8_ x0 k105 q.1 q.2.1 q.2.2) g.1) ((x0,k105,1),()) (Sub.pre 1 z) z (by repeat (first|exact trivial|refine ⟨z,?_⟩)) ⟨hh,z⟩ (fun g2 j2 hg2=> ?_)))))))))
   obtain ⟨⟨l122,k124,k125⟩,_⟩:=g2
   obtain ⟨hh,hn123⟩:=hg2
   try dsimp only at hn123 ⊢
   obtain ⟨z2,hh,hR2⟩:=iter_e hh
   dsimp only [D8_]at hh
   have hn123b:=hn123
   refine TC.isSl (i:=0) z (fun _ hb126 _=> ?_)
   refine TC.seq (TC.a (TL.i z z (TL.s z z (TL.w z (lenC z underlying22 z) (TL.w z (OpVal.lss z z z) (TL.en (TC.cD z hh (fun h127 hh=> ?_) (fun h127 hh=> ?_))))))))
   ·refine TC.skip (S.n (TC.cutG (α:=((List Tip)×Nat)×(Unit)) (rgs [(3,1),(35,19)]) (fun g=>[(3,.int .i64 ((g.1.2:Nat):Int))]) (fun g=>[Res.rowS 76 2 encTip (.slice a0_1 x0.length c0_2) g.1.1]) (fun g=>σ) (fun g=>D9_ k125 g.1.1 g.1.2=some z2∧g.1.1.length=x0.length) ?_ (fun g j hg=> ?_)))
    ·skip
     refine TC.block (TC.seq ?_)
     have u33:=grd_c hh
     replace hh:=grd_t hh
     have u38:=grd_c hh
     replace hh:=grd_t hh
     refine TC.draw [] (by kernel_rfl) (TA.a 0 z (moveSl (.inl z) z) z (TA.a 1 z (moveI (.inl z) z) z (TA.b 2 z (elVw hv113 (by omega) (indexN z underlying22 sz76 z z hv113.sl (by omega))) z (TA.b 3 z (loadOA Tip.zero z ag76 sz76 z (q:=0) z encTip_len (by omega) (by omega)) z (TA.a 4 z (moveSl (.inl z) z) z (TA.a 5 z (moveI (.inl z) z) z (TA.a 6 z (subW z z z) z (TA.b 7 z (elVw hv113 (by omega) (OpVal.index z underlying22 sz76 z z hv113.sl u38.1 u38.2)) z (TA.b 8 z (loadOA Tip.zero z ag76 sz76 z (q:=0) z encTip_len (by omega) (by omega)) z (TA.a 9 z (neqSt (p:=(nth l122 (k105+k125) Tip.zero)=(nth l122 (k105+(IntKind.i64.wrap (((k125:Nat):Int) - 1)).toNat) Tip.zero)) z z z eg76 (es76 (nth l122 (k105+k125) Tip.zero) (nth l122 (k105+(IntKind.i64.wrap (((k125:Nat):Int) - 1)).toNat) Tip.zero)) z) z (TA.dn (S.n (TC.cD z hh (fun h131 hh=> ?_) (fun h131 hh=> ?_))))))))))))))
     ·refine TC.a (TL.s z z (TL.i z z (TL.s z z (TL.i z z ?_))))
      have u45:=grd_c hh
      replace hh:=grd_t hh
      refine TL.w z (elVw hv113 (by omega) (indexN z underlying22 sz76 z z hv113.sl (by omega))) (TL.w z (loadOA Tip.zero z ag76 sz76 z (q:=0) z encTip_len (by omega) (by omega)) ?_)
      have u47:=grd_c hh
      replace hh:=grd_t hh
      refine TL.isSl (i:=0) z (fun hs132 _ _=> ?_)
      refine TL.w z (indexN z underlying22 sz76 z z hs132 (by omega)) ?_
      have hn133:(l122.set k124 (nth l122 (k105+k125) Tip.zero)).length=x0.length:=by rw [List.length_set];exact hn123
      refine TL.op z (storeS (nth l122 (k105+k125) Tip.zero) z sz76 z z z z encTip_len encTip_one (by omega) (by omega) ?_)
      exact TL.en (TC.region (TL.i z z (TL.w z (OpVal.succ z z z (by omega)) (TL.i z z (TL.nil (B.n (S.n (cf (((l122.set k124 (nth l122 (k105+k125) Tip.zero)),(k124+1)),()) ⟨hh,hn133⟩ (Sub.pre 1 z)))))))))
     exact TC.skip (B.n (S.n (cf ((l122,k124),()) ⟨hh,hn123⟩ (Sub.pre 1 z))))
    skip
    obtain ⟨⟨l128,k130⟩,_⟩:=g
    obtain ⟨hh,hn129⟩:=hg
    try dsimp only at hn129 ⊢
    dsimp only [D9_]at hh
    have hn129b:=hn129
    refine TC.isSl (i:=0) z (fun _ hb134 _=> ?_)
    refine TC.region (TL.i z z (TL.w z (OpVal.succ z z z (by omega)) (TL.i z z (TL.en ?_))))
    obtain ⟨hh,hlt135⟩:=nxt_x hR2 hh
    exact lf ((l128,k130,(k125+1)),()) hlt135 ⟨hh,hn129⟩ (Sub.pre 1 z)
   refine TC.exit (S.x (S.x ?_))
   replace hh:=fin_x hR2 hh
   refine TC.exitHere (S.n (TC.a (TL.s z z (TL.i z z ?_))))
   have u57:=grd_c hh
   replace hh:=grd_t hh
   refine TL.isSl (i:=0) z (fun hs136 _ _=> ?_)
   rw [hn123]at hs136
   obtain ⟨a136,c136,hv136,ho136⟩:=vw_of (k:=k124) (size:=2) hs136 (by omega)
   refine TL.w z (ho136 z underlying22 sz76 z z) ?_
   have hn137:(l122.take k124++List.replicate (l122.length - k124) Tip.zero).length=x0.length:=by simp only [List.length_append,List.length_take,List.length_replicate];try simp only [List.length_replicate]at *;omega
   refine TL.op z (clearV (k:=k124) Tip.zero z underlying22 ze76 z z hv136 (by omega) (by omega) encTip_len (by decide) z encTip_one ?_)
   refine TL.en (TC.a (TL.s z z (TL.i z z ?_)))
   rw [←hn137]
   have u61:=grd_c hh
   replace hh:=grd_t hh
   refine TL.op z (cutS z underlying22 sz76 z z z z z (by omega) encTip_len ?_)
   refine TL.s z z (TL.en (TC.ret (B.r (S.r (S.r ?_)))))
   replace hh:=fin_x hR1 hh
   refine B.r (S.r ?_)
   obtain rfl:=so hh
   exact ro [Res.rowS 76 2 encTip (.slice a0_1 ((l122.take k124++List.replicate (l122.length - k124) Tip.zero).take k124).length c0_2) ((l122.take k124++List.replicate (l122.length - k124) Tip.zero).take k124)] z (RVs.tmp z RVs.nil) ⟨a0_1,c0_2,z,z,z⟩
  refine TC.skip (B.n (S.n (TC.region (TL.i z z (TL.w z (OpVal.succ z z z (by omega)) (TL.i z z (TL.en ?_)))))))
  obtain ⟨hh,hlt138⟩:=nxt_x hR1 hh
  exact lf ((k105+1),()) hlt138 hh (Sub.pre 1 z)
 refine TC.exit (S.x (S.x ?_))
 replace hh:=fin_x hR1 hh
 refine TC.exitHere (S.n (TC.a (TL.s z z (TL.s z z (TL.en (TC.ret ?_))))))
 obtain rfl:=so hh
 exact ro [Res.rowS 76 2 encTip (.slice a0_1 x0.length c0_2) x0] z (RVs.tmp z RVs.nil) ⟨a0_1,c0_2,z,z,z⟩
theorem Gg_{a:Option Addr}{c:Nat}{l:List Arc}(hl:RS σ 8 encArc (.slice a l.length c) l)(hsz:l.length * 72≤140737488355328):
  Con Tryz.prog 136 #[.slice a l.length c] σ [] (RowP 66 8 encArc l σ):=by
 have hb:=hl.rv.big
 refine Con.mk (n:=8) Tryz.func136 z z z (fun w0=> ?_)
 refine TC.a (TL.s z z (TL.nilS 66 8 encArc (TL.en (TC.seq (TC.a (TL.s z z (TL.w z (eqlNilSl z underlying23 z z) (TL.en (TC.cond z (fun h2=> ?_) (fun h2=> ?_))))))))))
 ·refine TC.a (TL.s z z (TL.nilS 66 8 encArc (TL.en (TC.ret (S.r ?_)))))
  cases a with
  |some _=>simp at h2
  |none=>
   obtain rfl:=hl.none_nil
   exact ret1R z z
 refine TC.skip (S.n (TC.a (TL.op z (lit0 (enc:=encArc) z z underlying23 sz66 z z (fun a4 c5=> ?_)))))
 refine TL.s z z (TL.op z (appendS z z underlying23 sz66 by66 ze66 z z (by decide) z z z (.inl hl) (by simpa using hsz) (by decide) (fun a7 c8=> ?_)))
 exact TL.s z z (TL.en (TC.ret (ret1R z z)))
def D7_(k125:Nat)(l128:List Arc)(k130:Nat):Option (((List Arc)×Nat×Nat)⊕((Nat)⊕((List Arc)))):=
 nxt (l128,k130,(k125+1))
def Ea_(x0:List Arc)(k105:Nat)(l122:List Arc)(k124:Nat)(k125:Nat):Option (((List Arc)×Nat×Nat)⊕((Nat)⊕((List Arc)))):=
 iteO (decide (((k125:Nat):Int)<(((x0.length - k105):Nat):Int))) (grd (k125<(x0.length - k105)) (grd (0≤(IntKind.i64.wrap (((k125:Nat):Int) - 1))∧(IntKind.i64.wrap (((k125:Nat):Int) - 1))<((x0.length - k105):Nat)) (iteO (decide (¬ ((nth l122 (k105+k125) Arc.zero)=(nth l122 (k105+(IntKind.i64.wrap (((k125:Nat):Int) - 1)).toNat) Arc.zero)))) (grd (k125<(x0.length - k105)) (grd (k124<l122.length) (D7_ k125 (l122.set k124 (nth l122 (k105+k125) Arc.zero)) (k124+1)))) (D7_ k125 l122 k124)))) (fin (grd (k124≤x0.length) (grd (k124≤(l122.take k124++List.replicate (l122.length - k124) Arc.zero).length) (fin (some ((l122.take k124++List.replicate (l122.length - k124) Arc.zero).take k124))))))
def D6_(x0:List Arc)(k105:Nat):Option ((Nat)⊕((List Arc))):=
 iteO (decide (((k105:Nat):Int)<((x0.length:Nat):Int))) (grd (0≤(IntKind.i64.wrap (((k105:Nat):Int) - 1))∧(IntKind.i64.wrap (((k105:Nat):Int) - 1))<(x0.length:Int)) (iteO (decide ((nth x0 k105 Arc.zero)=(nth x0 ((IntKind.i64.wrap (((k105:Nat):Int) - 1)).toNat) Arc.zero))) (grd (k105≤x0.length) (iter (fun q:(List Arc)×Nat×Nat=>Ea_ x0 k105 q.1 q.2.1 q.2.2) (x0,k105,1))) (nxt (k105+1)))) (fin (some x0))
def compactA(x0:List Arc):Option ((List Arc)):=
 iteO (decide (((x0.length:Nat):Int)<2)) (some x0) (iter (fun q:Nat=>D6_ x0 q) 1)
theorem F9_{x0:List Arc}{r:(List Arc)}(hh:compactA x0=some r):
  Con Tryz.prog 138 #[.slice a0_1 x0.length c0_2] σ [Res.rowS 66 8 encArc (.slice a0_1 x0.length c0_2) x0] (fun v σ' H'=> ∃a1 c1,v= .slice a1 r.length c1∧σ=σ'∧H'=[Res.rowS 66 8 encArc (.slice a1 r.length c1) r]):=by
 dsimp only [compactA]at hh
 refine Con.mk (n:=61) Tryz.func138 z z z (fun w0=> ?_)
 refine TC.a (TL.s z z (TL.en (TC.seq (TC.a (TL.s z z (TL.w z (lenC z underlying23 z) (TL.w z (OpVal.lss z z z) (TL.en (TC.cD z hh (fun h102 hh=> ?_) (fun h102 hh=> ?_))))))))))
 ·refine TC.a (TL.s z z (TL.s z z (TL.en (TC.ret (S.r ?_)))))
  obtain rfl:=so hh
  exact ro [Res.rowS 66 8 encArc (.slice a0_1 x0.length c0_2) x0] z (RVs.tmp z RVs.nil) ⟨a0_1,c0_2,z,z,z⟩
 refine TC.skip (S.n (TC.seq (TC.a (TL.i z z (TL.en (TC.block (TC.loopG (α:=(Nat)×(Unit)) (rgs [(2,4),(10,50)]) (fun g=>[(3,.int .i64 ((g.1:Nat):Int))]) (fun g=>[Res.rowS 66 8 encArc (.slice a0_1 x0.length c0_2) x0]) (fun g=>σ) (fun g=>iter (fun q:Nat=>D6_ x0 q) g.1=some r) (fun g=>rounds (fun q:Nat=>D6_ x0 q) g.1) (1,()) (Sub.pre 1 z) z (by repeat (first|exact trivial|refine ⟨z,?_⟩)) hh (fun g1 j1 hg1=> ?_))))))))
 obtain ⟨k105,_⟩:=g1
 have hh:=hg1;clear hg1
 try dsimp only
 obtain ⟨z1,hh,hR1⟩:=iter_e hh
 dsimp only [D6_]at hh
 refine TC.isSl (i:=0) z (fun _ hb106 _=> ?_)
 refine TC.seq (TC.a (TL.i z z (TL.s z z (TL.w z (lenC z underlying23 z) (TL.w z (OpVal.lss z z z) (TL.en (TC.cD z hh (fun h107 hh=> ?_) (fun h107 hh=> ?_))))))))
 ·refine TC.skip (S.n (TC.seq (TC.block (TC.seq ?_))))
  have u19:=grd_c hh
  replace hh:=grd_t hh
  refine TC.draw [] (by kernel_rfl) (TA.a 0 z (moveSl (.inl z) z) z (TA.a 1 z (moveI (.inl z) z) z (TA.isSl (i:=0) z (fun hs110 _ _=> ?_))))
  refine TA.b 2 z (indexN z underlying23 sz66 z z hs110 (by omega)) z (TA.b 3 z (loadOA Arc.zero z ag66 sz66 z (q:=0) z encArc_len (by omega) (by omega)) z (TA.a 4 z (moveSl (.inl z) z) z (TA.a 5 z (moveI (.inl z) z) z (TA.a 6 z (subW z z z) z (TA.isSl (i:=0) z (fun hs111 _ _=> ?_))))))
  refine TA.b 7 z (OpVal.index z underlying23 sz66 z z hs111 u19.1 u19.2) z (TA.b 8 z (loadOA Arc.zero z ag66 sz66 z (q:=0) z encArc_len (by omega) (by omega)) z (TA.a 9 z (eqlSt (p:=(nth x0 k105 Arc.zero)=(nth x0 ((IntKind.i64.wrap (((k105:Nat):Int) - 1)).toNat) Arc.zero)) z z z eg66 (es66 (nth x0 k105 Arc.zero) (nth x0 ((IntKind.i64.wrap (((k105:Nat):Int) - 1)).toNat) Arc.zero)) z) z (TA.dn (S.n (TC.cD z hh (fun h112 hh=> ?_) (fun h112 hh=> ?_))))))
  ·refine TC.a (TL.s z z (TL.i z z ?_))
   have u24:=grd_c hh
   replace hh:=grd_t hh
   refine TL.isSl (i:=0) z (fun hs113 _ _=> ?_)
   obtain ⟨a113,c113,hv113,ho113⟩:=vw_of (k:=k105) (size:=8) hs113 (by omega)
   refine TL.w z (ho113 z underlying23 sz66 z z) (TL.s z z (TL.en (TC.seq (TC.a (TL.i z z (TL.en (TC.block (TC.loopG (α:=((List Arc)×Nat×Nat)×(Unit)) (rgs [(3,1),(5,1),(29,25)]) (fun g=>[(3,.int .i64 ((g.1.2.1:Nat):Int)),(5,.int .i64 ((g.1.2.2:Nat):Int))]) (fun g=>[Res.rowS 66 8 encArc (.slice a0_1 x0.length c0_2) g.1.1]) (fun g=>σ) (fun g=>iter (fun q:(List Arc)×Nat×Nat=>Ea_ x0 k105 q.1 q.2.1 q.2.2) g.1=some z1∧g.1.1.length=x0.length) (fun g=>rounds (fun q:(List Arc)×Nat×Nat=>Ea_ x0 k105 q.1 q.2.1 q.2.2) g.1) ((x0,k105,1),()) (Sub.pre 1 z) z (by repeat (first|exact trivial|refine ⟨z,?_⟩)) ⟨hh,z⟩ (fun g2 j2 hg2=> ?_)))))))))
   obtain ⟨⟨l122,k124,k125⟩,_⟩:=g2
   obtain ⟨hh,hn123⟩:=hg2
   try dsimp only at hn123 ⊢
   obtain ⟨z2,hh,hR2⟩:=iter_e hh
   dsimp only [Ea_]at hh
   have hn123b:=hn123
   refine TC.isSl (i:=0) z (fun _ hb126 _=> ?_)
   refine TC.seq (TC.a (TL.i z z (TL.s z z (TL.w z (lenC z underlying23 z) (TL.w z (OpVal.lss z z z) (TL.en (TC.cD z hh (fun h127 hh=> ?_) (fun h127 hh=> ?_))))))))
   ·refine TC.skip (S.n (TC.cutG (α:=((List Arc)×Nat)×(Unit)) (rgs [(3,1),(35,19)]) (fun g=>[(3,.int .i64 ((g.1.2:Nat):Int))]) (fun g=>[Res.rowS 66 8 encArc (.slice a0_1 x0.length c0_2) g.1.1]) (fun g=>σ) (fun g=>D7_ k125 g.1.1 g.1.2=some z2∧g.1.1.length=x0.length) ?_ (fun g j hg=> ?_)))
    ·skip
     refine TC.block (TC.seq ?_)
     have u33:=grd_c hh
     replace hh:=grd_t hh
     have u38:=grd_c hh
     replace hh:=grd_t hh
     refine TC.draw [] (by kernel_rfl) (TA.a 0 z (moveSl (.inl z) z) z (TA.a 1 z (moveI (.inl z) z) z (TA.b 2 z (elVw hv113 (by omega) (indexN z underlying23 sz66 z z hv113.sl (by omega))) z (TA.b 3 z (loadOA Arc.zero z ag66 sz66 z (q:=0) z encArc_len (by omega) (by omega)) z (TA.a 4 z (moveSl (.inl z) z) z (TA.a 5 z (moveI (.inl z) z) z (TA.a 6 z (subW z z z) z (TA.b 7 z (elVw hv113 (by omega) (OpVal.index z underlying23 sz66 z z hv113.sl u38.1 u38.2)) z (TA.b 8 z (loadOA Arc.zero z ag66 sz66 z (q:=0) z encArc_len (by omega) (by omega)) z (TA.a 9 z (neqSt (p:=(nth l122 (k105+k125) Arc.zero)=(nth l122 (k105+(IntKind.i64.wrap (((k125:Nat):Int) - 1)).toNat) Arc.zero)) z z z eg66 (es66 (nth l122 (k105+k125) Arc.zero) (nth l122 (k105+(IntKind.i64.wrap (((k125:Nat):Int) - 1)).toNat) Arc.zero)) z) z (TA.dn (S.n (TC.cD z hh (fun h131 hh=> ?_) (fun h131 hh=> ?_))))))))))))))
     ·refine TC.a (TL.s z z (TL.i z z (TL.s z z (TL.i z z ?_))))
      have u45:=grd_c hh
      replace hh:=grd_t hh
      refine TL.w z (elVw hv113 (by omega) (indexN z underlying23 sz66 z z hv113.sl (by omega))) (TL.w z (loadOA Arc.zero z ag66 sz66 z (q:=0) z encArc_len (by omega) (by omega)) ?_)
      have u47:=grd_c hh
      replace hh:=grd_t hh
      refine TL.isSl (i:=0) z (fun hs132 _ _=> ?_)
      refine TL.w z (indexN z underlying23 sz66 z z hs132 (by omega)) ?_
      have hn133:(l122.set k124 (nth l122 (k105+k125) Arc.zero)).length=x0.length:=by rw [List.length_set];exact hn123
      refine TL.op z (storeS (nth l122 (k105+k125) Arc.zero) z sz66 z z z z encArc_len encArc_one (by omega) (by omega) ?_)
      exact TL.en (TC.region (TL.i z z (TL.w z (OpVal.succ z z z (by omega)) (TL.i z z (TL.nil (B.n (S.n (cf (((l122.set k124 (nth l122 (k105+k125) Arc.zero)),(k124+1)),()) ⟨hh,hn133⟩ (Sub.pre 1 z)))))))))
     exact TC.skip (B.n (S.n (cf ((l122,k124),()) ⟨hh,hn123⟩ (Sub.pre 1 z))))
    skip
    obtain ⟨⟨l128,k130⟩,_⟩:=g
    obtain ⟨hh,hn129⟩:=hg
    try dsimp only at hn129 ⊢
    dsimp only [D7_]at hh
    have hn129b:=hn129
    refine TC.isSl (i:=0) z (fun _ hb134 _=> ?_)
    refine TC.region (TL.i z z (TL.w z (OpVal.succ z z z (by omega)) (TL.i z z (TL.en ?_))))
    obtain ⟨hh,hlt135⟩:=nxt_x hR2 hh
    exact lf ((l128,k130,(k125+1)),()) hlt135 ⟨hh,hn129⟩ (Sub.pre 1 z)
   refine TC.exit (S.x (S.x ?_))
   replace hh:=fin_x hR2 hh
   refine TC.exitHere (S.n (TC.a (TL.s z z (TL.i z z ?_))))
   have u57:=grd_c hh
   replace hh:=grd_t hh
   refine TL.isSl (i:=0) z (fun hs136 _ _=> ?_)
   rw [hn123]at hs136
   obtain ⟨a136,c136,hv136,ho136⟩:=vw_of (k:=k124) (size:=8) hs136 (by omega)
   refine TL.w z (ho136 z underlying23 sz66 z z) ?_
   have hn137:(l122.take k124++List.replicate (l122.length - k124) Arc.zero).length=x0.length:=by simp only [List.length_append,List.length_take,List.length_replicate];try simp only [List.length_replicate]at *;omega
   refine TL.op z (clearV (k:=k124) Arc.zero z underlying23 ze66 z z hv136 (by omega) (by omega) encArc_len (by decide) z encArc_one ?_)
   refine TL.en (TC.a (TL.s z z (TL.i z z ?_)))
   rw [←hn137]
   have u61:=grd_c hh
   replace hh:=grd_t hh
   refine TL.op z (cutS z underlying23 sz66 z z z z z (by omega) encArc_len ?_)
   refine TL.s z z (TL.en (TC.ret (B.r (S.r (S.r ?_)))))
   replace hh:=fin_x hR1 hh
   refine B.r (S.r ?_)
   obtain rfl:=so hh
   exact ro [Res.rowS 66 8 encArc (.slice a0_1 ((l122.take k124++List.replicate (l122.length - k124) Arc.zero).take k124).length c0_2) ((l122.take k124++List.replicate (l122.length - k124) Arc.zero).take k124)] z (RVs.tmp z RVs.nil) ⟨a0_1,c0_2,z,z,z⟩
  refine TC.skip (B.n (S.n (TC.region (TL.i z z (TL.w z (OpVal.succ z z z (by omega)) (TL.i z z (TL.en ?_)))))))
  obtain ⟨hh,hlt138⟩:=nxt_x hR1 hh
  exact lf ((k105+1),()) hlt138 hh (Sub.pre 1 z)
 refine TC.exit (S.x (S.x ?_))
 replace hh:=fin_x hR1 hh
 refine TC.exitHere (S.n (TC.a (TL.s z z (TL.s z z (TL.en (TC.ret ?_))))))
 obtain rfl:=so hh
 exact ro [Res.rowS 66 8 encArc (.slice a0_1 x0.length c0_2) x0] z (RVs.tmp z RVs.nil) ⟨a0_1,c0_2,z,z,z⟩
def onceT(x0:List Tip):Option ((List Tip)):=
 grd (x0.length * 24≤140737488355328) (bnd (compactT (sortL cmpTip x0)) (fun v9=>some v9))
def Gt_(σ:Store)(r:(List Tip)):Value→Store→List Res→Prop:=fun v σ' H'=>
 ∃a1 c1,v= .slice a1 r.length c1∧σ=σ'∧H'=[Res.rowS 76 2 encTip (.slice a1 r.length c1) r]
theorem F3_{x0:List Tip}(f0_0:RS σ 2 encTip (.slice a0_0 x0.length c0_0) x0){r:(List Tip)}(hh:onceT x0=some r):
  Con Tryz.prog 95 #[.slice a0_0 x0.length c0_0,.func (.func 96) #[] #[]] σ [] (Gt_ σ r):=by
 dsimp only [onceT]at hh
 have f0_0b:=f0_0.rv.big
 refine Con.mk (n:=13) Tryz.func95 z z z (fun w0=> ?_)
 refine TC.a (TL.s z z (TL.en (TC.a (TL.s z z ?_))))
 have u3:=grd_c hh
 replace hh:=grd_t hh
 refine TL.op z (OpOk.call (Fw_ f0_0 u3) z z pf88 z z z z ?_)
 rintro _ _ _ _ ⟨⟨a101,c102,rfl⟩,rfl,rfl⟩
 refine TL.s z z (TL.en (TC.a (TL.s z z (TL.w z (moveFn (.inl z) z) ?_))))
 have hn104:(sortL cmpTip x0).length=x0.length:=List.length_mergeSort _
 refine TL.op z (OpOk.call (Gk_ (l:=x0)) z z pf124 z z z z ?_)
 rintro _ _ _ _ ⟨rfl,rfl,rfl⟩
 refine TL.en (TC.a (TL.s z z ?_))
 rw [←hn104]
 obtain ⟨v9,u9,hh⟩:=bnd_e hh
 refine TL.op z (OpOk.call (Fn_ u9) z z pf126 z z z z ?_)
 rintro _ _ _ hle105 ⟨a105_1,c105_2,rfl,rfl,rfl⟩
 refine TL.s z z (TL.en (TC.ret ?_))
 obtain rfl:=so hh
 exact ro [Res.rowS 76 2 encTip (.slice a105_1 v9.length c105_2) v9] z (RVs.tmp z RVs.nil) ⟨a105_1,c105_2,z,z,z⟩
def onceA(x0:List Arc):Option ((List Arc)):=
 grd (x0.length * 72≤140737488355328) (bnd (compactA (sortL cmpArc x0)) (fun v9=>some v9))
def Gr_(σ:Store)(r:(List Arc)):Value→Store→List Res→Prop:=fun v σ' H'=>
 ∃a1 c1,v= .slice a1 r.length c1∧σ=σ'∧H'=[Res.rowS 66 8 encArc (.slice a1 r.length c1) r]
theorem Gj_{x0:List Arc}(f0_0:RS σ 8 encArc (.slice a0_0 x0.length c0_0) x0){r:(List Arc)}(hh:onceA x0=some r):
  Con Tryz.prog 97 #[.slice a0_0 x0.length c0_0,.func (.func 98) #[] #[]] σ [] (Gr_ σ r):=by
 dsimp only [onceA]at hh
 have f0_0b:=f0_0.rv.big
 refine Con.mk (n:=13) Tryz.func97 z z z (fun w0=> ?_)
 refine TC.a (TL.s z z (TL.en (TC.a (TL.s z z ?_))))
 have u3:=grd_c hh
 replace hh:=grd_t hh
 refine TL.op z (OpOk.call (Gg_ f0_0 u3) z z pf136 z z z z ?_)
 rintro _ _ _ _ ⟨⟨a101,c102,rfl⟩,rfl,rfl⟩
 refine TL.s z z (TL.en (TC.a (TL.s z z (TL.w z (moveFn (.inl z) z) ?_))))
 have hn104:(sortL cmpArc x0).length=x0.length:=List.length_mergeSort _
 refine TL.op z (OpOk.call (Gm_ (l:=x0)) z z pf137 z z z z ?_)
 rintro _ _ _ _ ⟨rfl,rfl,rfl⟩
 refine TL.en (TC.a (TL.s z z ?_))
 rw [←hn104]
 obtain ⟨v9,u9,hh⟩:=bnd_e hh
 refine TL.op z (OpOk.call (F9_ u9) z z pf138 z z z z ?_)
 rintro _ _ _ hle105 ⟨a105_1,c105_2,rfl,rfl,rfl⟩
 refine TL.s z z (TL.en (TC.ret ?_))
 obtain rfl:=so hh
 exact ro [Res.rowS 66 8 encArc (.slice a105_1 v9.length c105_2) v9] z (RVs.tmp z RVs.nil) ⟨a105_1,c105_2,z,z,z⟩
def Bv_(x0:Fst):Option (Fst×Int):=
 bnd (Ci_ x0) (fun v5=>iteO (decide (v5≠0)) (some ((⟨0,([]:List Tip),([]:List Tip),([]:List Arc)⟩:Fst),1)) (bnd (onceT x0.starts) (fun v14=>bnd (onceT x0.ends) (fun v17=>bnd (onceA x0.arcs) (fun v20=>some ((⟨x0.states,v14,v17,v20⟩:Fst),0))))))
def Ge_(σ:Store)(r:Fst×Int):Value→Store→List Res→Prop:=fun v σ' H'=>
 ∃a1 c1 a2 c2 a3 c3,v= .tuple #[.agg #[.int .i64 r.1.states,.slice a1 r.1.starts.length c1,.slice a2 r.1.ends.length c2,.slice a3 r.1.arcs.length c3],.int .i64 r.2]∧RS σ' 2 encTip (.slice a1 r.1.starts.length c1) r.1.starts∧RS σ' 2 encTip (.slice a2 r.1.ends.length c2) r.1.ends∧RS σ' 8 encArc (.slice a3 r.1.arcs.length c3) r.1.arcs∧H'=[]
theorem Fl_{x0:Fst}(f0_0:RS σ 2 encTip (.slice a0_0 x0.starts.length c0_0) x0.starts)(f0_1:RS σ 2 encTip (.slice a0_1 x0.ends.length c0_1) x0.ends)(f0_2:RS σ 8 encArc (.slice a0_2 x0.arcs.length c0_2) x0.arcs){r:Fst×Int}(hh:Bv_ x0=some r):
  Con Tryz.prog 56 #[.agg #[.int .i64 x0.states,.slice a0_0 x0.starts.length c0_0,.slice a0_1 x0.ends.length c0_1,.slice a0_2 x0.arcs.length c0_2]] σ [] (Ge_ σ r):=by
 dsimp only [Bv_]at hh
 have f0_0b:=f0_0.rv.big
 have f0_1b:=f0_1.rv.big
 have f0_2b:=f0_2.rv.big
 refine Con.mk (n:=20) Tryz.func56 z z z (fun w0=> ?_)
 refine TC.a (TL.op z (boxA z z z z (fun b101=> ?_)))
 refine TL.op z (OpOk.alloc z ze25 z z (fun b103=> ?_))
 refine TL.i z z (TL.en (TC.seq (TC.a (TL.w z (loadAll z ag25 sz25 z (i:=1) z z) ?_))))
 obtain ⟨v5,u5,hh⟩:=bnd_e hh
 refine TL.op z (callP (Dt_ (x0:=x0) f0_0 f0_1 f0_2 u5) z z pf43 z z z ?_)
 refine TL.w z (OpVal.neq z z z) (TL.en (TC.cD z hh (fun h105 hh=> ?_) (fun h105 hh=> ?_)))
 ·refine TC.a (TL.w z (buildL z pl25 ze25 z) (TL.op z (storeAll z sz25 z z z z z z ?_)))
  refine TL.i z z (TL.en (TC.rt 1 (S.r ?_)))
  obtain rfl:=so hh
  exact ro [] z (RVs.agg ag25 sz25 z (i:=0) z z (RVs.tmp z RVs.nil)) ⟨none,0,none,0,none,0,z,(RS.nilF _ encTip encTip_len),(RS.nilF _ encTip encTip_len),(RS.nilF _ encArc encArc_len),z⟩
 refine TC.skip (S.n (TC.seq ?_))
 obtain ⟨v14,u14,hh⟩:=bnd_e hh
 obtain ⟨v17,u17,hh⟩:=bnd_e hh
 obtain ⟨v20,u20,hh⟩:=bnd_e hh
 refine TC.draw [12,13] (by kernel_rfl) (TA.a 0 z (fieldLoc z fo25_0 z) z (TA.b 1 z (loadLoc z ag3 z (i:=1) z z) z (TA.a 2 z (fieldLoc z fo25_1 z) z (TA.b 3 z (loadLoc z ag22 z (i:=1) z z) z (TA.a 5 z (fieldLoc z fo25_2 z) z (TA.b 6 z (loadLoc z ag22 z (i:=1) z z) z (TA.a 8 z (fieldLoc z fo25_3 z) z (TA.b 9 z (loadLoc z ag23 z (i:=1) z z) z (TA.ac 4 z (OpOk.call (F3_ f0_0 u14) z z pf95 z z z z ?_))))))))))
 rintro _ _ _ hle112 ⟨a112_1,c112_1,rfl,rfl,rfl⟩
 refine k1 (TA.ac 7 z (OpOk.call (F3_ f0_1 u17) z z pf95 z z z z ?_))
 rintro _ _ _ hle114 ⟨a114_1,c114_1,rfl,rfl,rfl⟩
 refine k2 (TA.ac 10 z (OpOk.call (Gj_ f0_2 u20) z z pf97 z z z z ?_))
 rintro _ _ _ hle116 ⟨a116_1,c116_1,rfl,rfl,rfl⟩
 refine k3 (TA.a 11 z (buildL z pl25 ze25 z) z (TA.front 3 z z (TA.last 12 (by kernel_rfl) z z z (storeAll z sz25 z z z z z z ?_))))
 refine TZ.v 13 (by kernel_rfl) z z z (moveI (.inr z) z) z z (TZ.done (by kernel_rfl) (S.n (TC.front 3 z z (TC.sealS encTip_len (fun τ120 hle119 hr118=> ?_)))))
 have hr118b:=hr118.rv.big
 refine TC.front 2 z z (TC.sealS encTip_len (fun τ123 hle122 hr121=> ?_))
 replace hr118:=hr118.mono hle122
 have hr121b:=hr121.rv.big
 refine TC.front 1 z z (TC.sealS encArc_len (fun τ126 hle125 hr124=> ?_))
 replace hr118:=hr118.mono hle125
 replace hr121:=hr121.mono hle125
 have hr124b:=hr124.rv.big
 refine TC.rt 1 ?_
 obtain rfl:=so hh
 exact ro [] z (RVs.agg ag25 sz25 z (i:=0) z z (RVs.tmp z RVs.nil)) ⟨a112_1,c112_1,a114_1,c114_1,a116_1,c116_1,z,hr118,hr121,hr124,z⟩
end Go.Proofs.YtchebnpdnfhenaaGreatDoor
end

noncomputable section
namespace Go.E
open Go
structure Dfa where
  cls:List Int
  next:List (List Int)
  fin:List Bool
def Dfa.zero:Dfa:=⟨[],[],[]⟩
structure DfaP where
  a1:Option Addr
  c1:Nat
  a2:Option Addr
  c2:Nat
  a3:Option Addr
  c3:Nat
def DfaP.zero:DfaP:=⟨none,0,none,0,none,0⟩
structure RDfa (σ:Store) (x:Dfa) (p:DfaP):Prop where
  c:RS σ 1 eI_ (.slice p.a1 x.cls.length p.c1) x.cls
  n:RZ σ (pkSl 1 eI_ eIl_) (.slice p.a2 x.next.length p.c2) x.next
  e:RS σ 1 encB (.slice p.a3 x.fin.length p.c3) x.fin
end Go.E
end

noncomputable section
namespace Go.E
open Go
structure Seq where
  front:List UInt8
  next:List (List Int)
  outs:List (List (List UInt8))
  fin:List Bool
  tail:List (List UInt8)
def Seq.zero:Seq:=⟨[],[],[],[],[]⟩
structure SeqP where
  a1:Option Addr
  c1:Nat
  a2:Option Addr
  c2:Nat
  a3:Option Addr
  c3:Nat
  a4:Option Addr
  c4:Nat
def SeqP.zero:SeqP:=⟨none,0,none,0,none,0,none,0⟩
structure RSeq (σ:Store) (x:Seq) (p:SeqP):Prop where
  n:RZ σ (pkSl 1 eI_ eIl_) (.slice p.a1 x.next.length p.c1) x.next
  o:RZ σ (pkSl 1 eS_ eSl_) (.slice p.a2 x.outs.length p.c2) x.outs
  e:RS σ 1 encB (.slice p.a3 x.fin.length p.c3) x.fin
  t:RS σ 1 eS_ (.slice p.a4 x.tail.length p.c4) x.tail
def Seq.enc(x:Seq)(p:SeqP):List Value:=[.string (bs x.front),.slice p.a1 x.next.length p.c1,.slice p.a2 x.outs.length p.c2,.slice p.a3 x.fin.length p.c3,.slice p.a4 x.tail.length p.c4]
structure Rule where
  of:Dfa
  left:Dfa
  right:Dfa
  out:List UInt8
  mapped:Bool
  by':Seq
def Rule.zero:Rule:=⟨Dfa.zero,Dfa.zero,Dfa.zero,[],false,Seq.zero⟩
structure RuleP where
  of:DfaP
  left:DfaP
  right:DfaP
  by':SeqP
def RuleP.zero:RuleP:=⟨DfaP.zero,DfaP.zero,DfaP.zero,SeqP.zero⟩
structure RRule (σ:Store) (x:Rule) (p:RuleP):Prop where
  o:RDfa σ x.of p.of
  l:RDfa σ x.left p.left
  r:RDfa σ x.right p.right
  b:RSeq σ x.by' p.by'
structure SB where
  buf:List UInt8
structure Turned where
  b:SB
  at':List Span
structure How where
  r:Rule
structure Piece where
  text:List UInt8
  at':List Span
def Piece.zero:Piece:=⟨[],[]⟩
end Go.E
end

noncomputable section
namespace Go.E
open Go
def GT{α:Type}(σ:Store)(g:Nat)(enc:α→List Value)(l:List α):Prop:= ∃E,σ g=some (.cells (l.flatMap enc).toArray E)
theorem GT.mono{α:Type}{σ τ:Store}{g:Nat}{enc:α→List Value}{l:List α}(h:GT σ g enc l)(hle:σ.le τ):GT τ g enc l:=let ⟨E,h⟩:=h;⟨E,hle _ _ h⟩
theorem flat_one{α:Type}{enc:α→List Value}(hl: ∀x,(enc x).length=1)(d:α): ∀(l:List α) (i:Nat),i<l.length→(l.flatMap enc)[i]? =(enc (nth l i d))[0]?
  |[],i,h=>by simp at h
  |x::l,0,_=>by
    have:=hl x
    rw [List.flatMap_cons,List.getElem?_append_left (by omega)]
    simp [nth]
  |x::l,i+1,h=>by
    have h1:=hl x
    rw [List.flatMap_cons,List.getElem?_append_right (by omega),h1,Nat.add_sub_cancel,flat_one hl d l i (by simpa using h)]
    simp [nth]
def deB:List UInt8:=[0,1,56,2,57,49,28,3,61,58,42,50,38,29,17,4,62,47,59,36,45,43,51,22,53,39,33,30,24,18,12,5,63,55,48,27,60,41,37,16,46,35,44,21,52,32,23,11,54,26,40,15,34,20,31,10,25,14,19,9,13,8,7,6]
end Go.E
end

noncomputable section
namespace Go.E
open Go
def badV(u:Bool)(b:Nat):Value:=match u with|true=>loc b 0|false=> .pointer none
theorem cells_shape{b E:Nat}{cs:Array Value}{w:World}(h:(Res.cells b cs E).holds w):w.shape? b=some (E,cs.size):=by
  have h1:w.heap[b]? =some (.cells cs E (0,0)):=h
  simp [World.shape?,h1]
section
variable {P:Program} {n:Nat} {e:Env} {σ:Store} {H:List Res} {o:Oper} {x y:Operand}
theorem OpVal.cvtUns{S T t b E i sz m:Nat}{cs:Array Value}(ho:o.op= .convert S T x)(hS:P.underlying S=some (.pointer t))(hT:P.underlying T=some .unsafePointer)(hs:szOf P t=some sz)(h0:sz≠0)
    (hx:ev e x=loc b 0) (hi:H[i]? =some (Res.cells b cs E)) (hm:cs.size=m) (hc:0<m):OpVal P n o e σ H (loc b 0):=fun w hw=>by
  obtain ⟨j,hj,hjs⟩:=szOf_info hs
  have hsh:=cells_shape (hw.2 _ (List.mem_of_getElem? hi))
  have h:=Lib.run_to_unsafe (P:=P) (w:=w) (cells:=cs.size) ⟨b,0,none⟩ hS hT hj (by rw [hjs];exact h0) hsh (by rw [hm];exact hc)
  simp [execOp,ho,hx,loc,h]
theorem OpVal.cvtPtr{S T t b E i sz m:Nat}{cs:Array Value}(ho:o.op= .convert S T x)(hS:P.underlying S=some .unsafePointer)(hT:P.underlying T=some (.pointer t))(hs:szOf P t=some sz)
    (hx:ev e x=loc b 0) (hi:H[i]? =some (Res.cells b cs E)) (hm:cs.size=m) (hl:liesAt P P.depth E (m / P.cellsOf E) 0 t 1=true):OpVal P n o e σ H (loc b 0):=fun w hw=>by
  obtain ⟨j,hj,hjs⟩:=szOf_info hs
  have hsh:=cells_shape (hw.2 _ (List.mem_of_getElem? hi))
  have h:=Lib.run_from_unsafe (P:=P) (w:=w) (cells:=cs.size) ⟨b,0,none⟩ hS hT hj hsh (by rw [hm];exact hl)
  simp [execOp,ho,hx,loc,h]
theorem OpVal.noEsc{p : Operand}{ts : Array TypeId}{J : FuncId}{fn : Func}{v : Value}(ho : o.op = .call { callee := .value x, args := #[p], argTypes := ts })(hx : ev e x = .func (.func J) #[] #[])(hf : P.funcs[J]? = some fn)(hname : (fn.name == "runtime.NumGoroutine") = false)
    (hb:fn.body.isNone=true) (hn:Extern.findNext fn=none) (he:Extern.find fn=some Extern.AbiNoEscape.same) (hp:ev e p=v):OpVal P n o e σ H v:=fun w _=>by
  have h:=run_callFunc_extern hf hname hb hn he #[v] w
  rw [Lib.run_noEscape]at h
  simp [execOp,ho,resolve,Deferred.ofValue,invoke,hx,hp,h,Result.andThen]
theorem OpVal.neqSelf{T T' t b sz:Nat}(ho:o.op= .binOp .neq T x y T')(hT:P.underlying T=some (.pointer t))(hs:szOf P t=some sz)(hx:ev e x=loc b 0)(hy:ev e y=loc b 0):OpVal P n o e σ H (.bool false):=fun w _=>by
  obtain ⟨j,hj,_⟩:=szOf_info hs
  have h:=Lib.run_neq_ptr_same (P:=P) (w:=w) ⟨b,0,none⟩ hT hj
  simp only [execOp,ho,hx,hy,loc,Sem.run_bind,run_eqGuard_ptr,Result.andThen_ok]
  rw [h];rfl
end
theorem strCells_bs(l:List UInt8):Lib.strCells (bs l)=l.flatMap encU8:=by
  have h: ∀l:List UInt8,l.map (fun b=>Value.int IntKind.u8 ((b.toNat:Nat):Int))=l.flatMap encU8:=fun l=>by
    induction l with
    |nil=>rfl
    |cons x l ih=>rw [List.map_cons,List.flatMap_cons,ih];rfl
  simp [Lib.strCells,bs]
  exact h l
theorem appendS_blk {P : Program} {w w' : World} (base : Nat) (t u ty e : TypeId) (i : TypeInfo) (ht : P.underlying t = some (.slice e)) (hu : P.underlying u = some .string) (hi : P.info? e = some i) (hz : i.zero = some (.int .u8 0))
    (hsize:i.size=1) (hby:i.bytes=1) {v v':Value} {n:Nat} {xs:List Value} (hown:w.ownsRow base e 1 v n xs) (s:ByteArray)
    (h63:n+s.size≤maxLen) (hbytes:n+s.size≤140737488355328) (hrun:(Builtin.append_ #[t,u] ty #[v,.string s]).run P w= .ok v' w'):
    (v'.ownBlock=v.ownBlock∨v'.ownBlock=some w.heap.size)∧w.drawn≤w'.drawn:=by
  have hsmall:n+s.size≤9223372036854775807:=by simp only [maxLen]at h63;omega
  have hxl:xs.length=n:=by simpa using hown.1
  rcases hown.2 with ⟨rfl,rfl⟩|⟨g,cap,cur,rfl,hbg,hg,hnc,hcm,hcs,htake⟩
  · by_cases hm:s.size=0
    · have hf:=Lib.run_firstCells_string (P:=P) (w:=w) 1 s
      rw [hm]at hf
      have hr:(Builtin.append_ #[t,u] ty #[.slice none 0 0,.string s]).run P w= .ok (.slice none 0 0) w:=by
        simp [Builtin.append_,run_underlying ht,run_underlying hu,sizeOf,typeInfo,hi,hsize,Builtin.lenOf,hm,hf]
      rw [hrun]at hr;cases hr;exact ⟨.inl rfl,Nat.le_refl _⟩
    have hr:=run_append_nil_string (P:=P) w t u ty e i (.int .u8 0) ht hu hi hz s (by omega) (by omega) (by rw [hby];omega)
    rw [hrun]at hr;cases hr;exact ⟨.inr rfl,Nat.le_succ _⟩
  by_cases hroom:n+s.size≤cap
  · have hcs':cur.size=cap:=by simpa using hcs
    have hr:=Lib.run_append_room_string (P:=P) (w:=w) t u ty e i ht hu hi hsize g n cap cur hg s hroom (by omega)
    rw [hrun]at hr;cases hr;exact ⟨.inl rfl,Nat.le_refl _⟩
  have holds: ∀j u,xs[j]? =some u→w.cell? ((⟨g,0,none⟩:Addr).add j)=some u:=hown.cells (g:=g) rfl
  have hr:=Lib.run_append_grow_string (P:=P) (w:=w) t u ty e i (.int .u8 0) ht hu hi hz ⟨g,0,none⟩ n cap xs (by rw [hsize];simpa using hxl) holds s (by omega) (by omega) (by rw [hby];exact growslice_fits (by omega) (by omega))
  rw [hrun]at hr;cases hr;exact ⟨.inr rfl,Nat.le_succ _⟩
theorem OpOk.appendStr{X:Ctx}{e:Env}{F:List Res}{o:Oper}{x y:Operand}{K:Env→Store→List Res→Prop}{T ty E d:Nat}{v:Value}{l m:List UInt8}
    (ho:o.op= .call {callee:= .builtin .append,args:= #[x,y],argTypes:= #[T,ty]}) (ht:X.P.underlying T=some (.slice E)) (hu:X.P.underlying ty=some .string) (hs:szOf X.P E=some 1) (hby:byOf X.P E=some 1) (hz:zeroOf X.P E=some (.int .u8 0))
    (hd:o.dst=some d) (hn:Nat.blt d X.n=true) (hx:ev e x=v) (hy:ev e y= .string (bs m)) (hb:l.length+m.length≤140737488355328)
    (k: ∀a c,K (upd e d (.slice a (l++m).length c)) σ (Res.rowS E 1 encU8 (.slice a (l++m).length c) (l++m)::F)):OpOk X o e σ (Res.rowS E 1 encU8 v l::F) K:=by
  obtain ⟨i,hi,hsi⟩:=szOf_info hs
  have hiz:i.zero=some (.int .u8 0):=by simpa [zeroOf,hi]using hz
  have hib:i.bytes=1:=by simpa [byOf,hi]using hby
  intro u0 C0 τ0 w a hw ha K' Q hK
  obtain ⟨hown,hone,hbg⟩:=hw.holds _ (List.mem_cons_self ..)
  have hsz:(bs m).size=m.length:=by show (bs m).data.size=_;simp [bs]
  have h1:l.length+(bs m).size≤maxLen:=by rw [hsz];unfold maxLen;omega
  have h2:l.length+(bs m).size≤140737488355328:=by rw [hsz];exact hb
  obtain ⟨v',w',hr,hown',hg,_⟩:=Lib.run_append_own_string (P:=X.P) (w:=w) 0 T ty o.type E i ht hu hi hiz hsi hib v l.length _ hown (bs m) h1 h2 (Nat.zero_le _)
  obtain ⟨hblk,hdr⟩:=appendS_blk 0 T ty o.type E i ht hu hi hiz hsi hib hown (bs m) h1 h2 hr
  rw [hsz,strCells_bs,←List.flatMap_append,←List.length_append]at hown'
  have hbk: ∀b,v'.ownBlock=some b→v.ownBlock=some b∨w.heap.size≤b:=fun b hb=>by
    rcases hblk with h|h
    · exact .inl (h▸hb)
    rw [h]at hb;cases hb;exact .inr (Nat.le_refl _)
  have hR:Reach u0 C0 τ0 σ w' (Res.rowS E 1 encU8 v' (l++m)::F):=
    hw.turn1 (Value.ownBlock v) (Value.ownBlock v') rfl rfl hg.os hg.tape hg.output hg.size hdr (fun q hq hne=>hg.block q hq (fun hx=>hne hx.symm)) ⟨hown',fun q hq=>by
      obtain ⟨z,_,hz⟩:=List.mem_flatMap.1 hq
      exact encU8_one z q hz,by rw [List.length_append];omega⟩ hbk
  obtain ⟨av,cv,rfl,_,_⟩:=isSl_row hown'
  refine Oper.wp_of_run (w':=w') (v:= .slice av (l++m).length cv) ?_ (hK _ _ _ _ _ (k av cv) hR (put_dst ha hd hn _))
  rw [ha.eval']
  simp [execOp,ho,resolve,invoke,builtin,hx,hy,hr]
def Res.any (o : Option Nat) : Res where
  bl:=o.toList
  holds w:= ∀b,o=some b→b<w.heap.size
  lt w b hb h:=h b (by simpa using hb)
  keep w w' hb h:=fun b e=>by
    have h1:=h b e
    have h2:=hb b (by rw [e];simp)
    rw [Array.getElem?_eq_getElem h1]at h2
    exact (Array.getElem?_eq_some_iff.1 h2).1
def SDat(v:Value)(l:List UInt8)(q:Option Addr):Prop:=l≠[]→ ∃g c,v= .slice (some ⟨g,0,none⟩) l.length c∧q=some ⟨g,0,none⟩
theorem OpOk.sliceDat{X:Ctx}{e:Env}{F:List Res}{o:Oper}{x:Operand}{K:Env→Store→List Res→Prop}{T E d D:Nat}{v:Value}{l:List UInt8}
    (ho:o.op= .call {callee:= .builtin .unsafeSliceData,args:= #[x],argTypes:= #[T]}) (hD:o.type=D) (hp:X.P.underlying D=some (.pointer E)) (hd:o.dst=some d) (hn:Nat.blt d X.n=true) (hx:ev e x=v)
    (k: ∀q,SDat v l q→K (upd e d (.pointer q)) σ (Res.rowS E 1 encU8 v l::F)):OpOk X o e σ (Res.rowS E 1 encU8 v l::F) K:=by
  subst hD
  intro u0 C0 τ0 w a hw ha K' Q hK
  obtain ⟨hown,hone,hbg⟩:=hw.holds _ (List.mem_cons_self ..)
  rcases id hown.2 with ⟨rfl,hl⟩|⟨g,cap,cur,rfl,_,hg,hnc,hcm,hcs,htake⟩
  · have hl0:l=[]:=List.eq_nil_of_length_eq_zero hl
    have hr:=Lib.run_unsafeSliceData_nil (P:=X.P) (w:=w) #[T] o.type 0 0
    refine Oper.wp_of_run (w':=w) (v:= .pointer none) ?_ (hK _ _ _ _ _ (k none (fun h=>absurd hl0 h)) hw (put_dst ha hd hn _))
    rw [ha.eval']
    simp [execOp,ho,resolve,invoke,builtin,hx,hr]
  by_cases hc:cap=0
  · subst hc
    have hl0:l=[]:=List.eq_nil_of_length_eq_zero (by omega)
    have hsh:w.shape? g=some (E,cur.size):=by simp [World.shape?,hg]
    have hr:=Lib.run_unsafeSliceData_zero (P:=X.P) (w:=w) #[T] o.type E hp ⟨g,0,none⟩ l.length (E,cur.size) hsh
    have hR:Reach u0 C0 τ0 σ (w.alloc (.view ⟨g,0,none⟩ E)) (Res.any none::Res.rowS E 1 encU8 (.slice (some ⟨g,0,none⟩) l.length 0) l::F):=
      hw.gain1 none rfl rfl rfl rfl (by simp) (Nat.le_refl _) (fun k hk=>alloc_old w _ k hk) (fun b hb=>by cases hb) (fun b hb=>by cases hb)
    refine Oper.wp_of_run (w':=w.alloc (.view ⟨g,0,none⟩ E)) (v:= .pointer (some ⟨w.heap.size,0,none⟩)) ?_ (hK _ _ _ _ _ (k _ (fun h=>absurd hl0 h)) (hR.sub (List.sublist_cons_self _ _)) (put_dst ha hd hn _))
    rw [ha.eval']
    simp [execOp,ho,resolve,invoke,builtin,hx,hr]
  have hr:=Lib.run_unsafeSliceData_row (P:=X.P) (w:=w) #[T] o.type ⟨g,0,none⟩ l.length cap hc
  refine Oper.wp_of_run (w':=w) (v:= .pointer (some ⟨g,0,none⟩)) ?_ (hK _ _ _ _ _ (k _ (fun _=>⟨g,cap,rfl,rfl⟩)) hw (put_dst ha hd hn _))
  rw [ha.eval']
  simp [execOp,ho,resolve,invoke,builtin,hx,hr]
theorem OpOk.unsStr{X:Ctx}{e:Env}{F:List Res}{o:Oper}{x y:Operand}{K:Env→Store→List Res→Prop}{T I E d:Nat}{v:Value}{l:List UInt8}{q:Option Addr}
    (ho:o.op= .call {callee:= .builtin .unsafeString,args:= #[x,y],argTypes:= #[T,I]}) (hp:X.P.underlying T=some (.pointer E)) (hcE:X.P.cellsOf E=1) (hd:o.dst=some d) (hn:Nat.blt d X.n=true) (hx:ev e x= .pointer q) (hq:SDat v l q) (hy:ev e y= .int .i64 (l.length:Nat))
    (k:K (upd e d (.string (bs l))) σ F):OpOk X o e σ (Res.rowS E 1 encU8 v l::F) K:=by
  intro u0 C0 τ0 w a hw ha K' Q hK
  obtain ⟨hown,hone,hbg⟩:=hw.holds _ (List.mem_cons_self ..)
  by_cases hl:l=[]
  · subst hl
    have hr:=Lib.run_unsafeString_none (P:=X.P) (w:=w) T I o.type q
    refine Oper.wp_of_run (w':=w) (v:= .string (bs [])) ?_ (hK _ _ _ _ _ k (hw.sub (List.sublist_cons_self _ _)) (put_dst ha hd hn _))
    rw [ha.eval']
    simp [execOp,ho,resolve,invoke,builtin,hx,hy,hr]
    rfl
  obtain ⟨g,c,rfl,rfl⟩:=hq hl
  rcases id hown.2 with ⟨hv,_⟩|⟨g',cap,cur,hv,_,hg,hnc,hcm,hcs,htake⟩
  · cases hv
  cases hv
  have hsh:w.shape? g=some (E,cur.size):=by simp [World.shape?,hg]
  have hr:=Lib.run_unsafeString_row (P:=X.P) (w:=w) T I o.type E hp hcE g cur.size hsh l hl (by omega) (by unfold maxLen at hcm;omega) (fun j z hz=>by
    refine hown.cells (g:=g) rfl j (.int .u8 z.toNat) ?_
    have hj:j<l.length:=(List.getElem?_eq_some_iff.1 hz).1
    rw [flat_one (enc:=encU8) (fun _=>rfl) (0:UInt8) l j hj]
    have h4:=getD_some l hj (0:UInt8)
    rw [hz]at h4
    rw [←Option.some.inj h4];rfl)
  have hln: ¬ l.length=0:=fun h=>hl (List.eq_nil_of_length_eq_zero h)
  have hfz: ∀b,b≠g→(w.freeze ⟨g,0,none⟩ l.length).heap[b]? =w.heap[b]? :=fun b hb=>by
    unfold World.freeze
    rw [if_neg hln]
    simp only [Array.getElem?_modify]
    rw [if_neg (fun h=>hb h.symm)]
  have hsz:(w.freeze ⟨g,0,none⟩ l.length).heap.size=w.heap.size:=by
    unfold World.freeze
    rw [if_neg hln];simp
  have hos:(w.freeze ⟨g,0,none⟩ l.length).os=w.os∧(w.freeze ⟨g,0,none⟩ l.length).tape=w.tape∧(w.freeze ⟨g,0,none⟩ l.length).output=w.output∧(w.freeze ⟨g,0,none⟩ l.length).drawn=w.drawn:=by
    unfold World.freeze
    rw [if_neg hln];exact ⟨rfl,rfl,rfl,rfl⟩
  have hgl:g<w.heap.size:=(Array.getElem?_eq_some_iff.1 hg).1
  have hR:Reach u0 C0 τ0 σ (w.freeze ⟨g,0,none⟩ l.length) (Res.any (some g)::F):=
    hw.turn1 (some g) (some g) rfl rfl hos.1 hos.2.1 hos.2.2.1 (by rw [hsz];exact Nat.le_refl _) (by rw [hos.2.2.2];exact Nat.le_refl _) (fun k hk hne=>hfz k (fun h=>hne (by rw [h]))) (fun b hb=>by cases hb;rw [hsz];exact hgl) (fun b hb=> .inl hb)
  refine Oper.wp_of_run (w':=w.freeze ⟨g,0,none⟩ l.length) (v:= .string (bs l)) ?_ (hK _ _ _ _ _ k (hR.sub (List.sublist_cons_self _ _)) (put_dst ha hd hn _))
  rw [ha.eval']
  simp [execOp,ho,resolve,invoke,builtin,hx,hy,hr]
  rfl
end Go.E
end

noncomputable section
namespace Go.Proofs.YtchebnpdnfhenaaGreatDoor
open Go Go.E Go.E.OpVal Go.E.OpOk Go.Proofs.Tryz
theorem ag27:aggOf Tryz.prog 27=some false:=by kernel_rfl
theorem ag28:aggOf Tryz.prog 28=some false:=by kernel_rfl
theorem ag29:aggOf Tryz.prog 29=some false:=by kernel_rfl
theorem ag30:aggOf Tryz.prog 30=some false:=by kernel_rfl
theorem ag32:aggOf Tryz.prog 32=some true:=by kernel_rfl
theorem ag60:aggOf Tryz.prog 60=some false:=by kernel_rfl
theorem ag86:aggOf Tryz.prog 86=some false:=by kernel_rfl
theorem ag90:aggOf Tryz.prog 90=some false:=by kernel_rfl
theorem by5:byOf Tryz.prog 5=some 1:=by kernel_rfl
theorem ce5:Tryz.prog.cellsOf 5=1:=by kernel_rfl
theorem fo32_0:foOf Tryz.prog 32 0=some 0:=by kernel_rfl
theorem fo32_1:foOf Tryz.prog 32 1=some 1:=by kernel_rfl
theorem fo32_2:foOf Tryz.prog 32 2=some 2:=by kernel_rfl
theorem fo32_3:foOf Tryz.prog 32 3=some 3:=by kernel_rfl
theorem fo32_4:foOf Tryz.prog 32 4=some 4:=by kernel_rfl
theorem fo92_0:foOf Tryz.prog 92 0=some 0:=by kernel_rfl
theorem fo92_1:foOf Tryz.prog 92 1=some 1:=by kernel_rfl
theorem pf23:plainF Tryz.prog 23=true:=by kernel_rfl
theorem pf53:plainF Tryz.prog 53=true:=by kernel_rfl
theorem pf54:plainF Tryz.prog 54=true:=by kernel_rfl
theorem pf55:plainF Tryz.prog 55=true:=by kernel_rfl
theorem pf60:plainF Tryz.prog 60=true:=by kernel_rfl
theorem pf94:plainF Tryz.prog 94=true:=by kernel_rfl
theorem sz30:szOf Tryz.prog 30=some 1:=by kernel_rfl
theorem sz32:szOf Tryz.prog 32=some 5:=by kernel_rfl
theorem sz60:szOf Tryz.prog 60=some 1:=by kernel_rfl
theorem sz86:szOf Tryz.prog 86=some 1:=by kernel_rfl
theorem sz9:szOf Tryz.prog 9=some 1:=by kernel_rfl
theorem sz90:szOf Tryz.prog 90=some 1:=by kernel_rfl
theorem sz92:szOf Tryz.prog 92=some 2:=by kernel_rfl
theorem ze5:zeroOf Tryz.prog 5=some (.int .u8 0):=by kernel_rfl
theorem ze92:zeroOf Tryz.prog 92=some (.agg #[.pointer none,.slice none 0 0]):=by kernel_rfl
def Do_(k105:Nat):Option ((Nat)⊕(Bool)):=
 nxt (k105+1)
def Ct_(x0:List Int)(x2:Int)(x1:List (List UInt8))(k105:Nat):Option ((Nat)⊕(Bool)):=
 iteO (decide (((k105:Nat):Int)<((x0.length:Nat):Int))) (iteO (decide ((nth x0 k105 (0:Int))<(-1))) (fin (some false)) (iteO (decide (x2≤(nth x0 k105 (0:Int)))) (fin (some false)) (grd (k105<x1.length) (iteO (decide (4096<(((nth x1 k105 ([]:List UInt8)).length:Nat):Int))) (fin (some false)) (iteO (decide ((nth x0 k105 (0:Int))=(-1))) (grd (k105<x1.length) (iteO (decide ((nth x1 k105 ([]:List UInt8))≠([]:List UInt8))) (fin (some false)) (Do_ k105))) (Do_ k105)))))) (fin (some true))
def E3_(x0:List Int)(x1:List (List UInt8))(x2:Int):Option (Bool):=
 iteO (decide (((x0.length:Nat):Int)≠256)) (some false) (iteO (decide (((x1.length:Nat):Int)≠256)) (some false) (iter (fun q:Nat=>Ct_ x0 x2 x1 q) 0))
theorem Gb_{x0:List Int}{x1:List (List UInt8)}{x2:Int}(f0_0:RS σ 1 eI_ (.slice a0_0 x0.length c0_0) x0)(f1_0:RS σ 1 eS_ (.slice a1_0 x1.length c1_0) x1){r:Bool}(hh:E3_ x0 x1 x2=some r):
  Con Tryz.prog 60 #[.slice a0_0 x0.length c0_0,.slice a1_0 x1.length c1_0,.int .i64 x2] σ [] (PureP (.bool r) σ):=by
 dsimp only [E3_]at hh
 have f0_0b:=f0_0.rv.big
 have f1_0b:=f1_0.rv.big
 refine Con.mk (n:=51) Tryz.func60 z z z (fun w0=> ?_)
 refine TC.a (TL.j z z (TL.en (TC.seq (TC.a (TL.s z z (TL.w z (lenC z underlying86 z) (TL.w z (OpVal.neq z z z) (TL.j z z (TL.split 12 z (fun h101=> ?_) (fun h101=> ?_))))))))))
 ·replace hh:=iteO_t h101 hh
  replace h101:=of_decide_eq_true h101
  refine TL.f z (TL.f z (TL.f z (TL.w z (pickTB z z z) (TL.en (TC.t z (TC.a (TL.j z z (TL.en (TC.ret (S.r ?_))))))))))
  obtain rfl:=so hh
  exact rq [6] ⟨z,z,z⟩
 replace hh:=iteO_f h101 hh
 replace h101:=of_decide_eq_false h101
 refine TL.g z (moveSl (.inl z) z) (TL.g z (lenC z underlying30 z) (TL.g z (OpVal.neq z z z) (TL.w z (pickFB z z z) (TL.en (TC.cD z hh (fun h102 hh=> ?_) (fun h102 hh=> ?_))))))
 ·refine TC.a (TL.j z z (TL.en (TC.ret (S.r ?_))))
  obtain rfl:=so hh
  exact rq [6] ⟨z,z,z⟩
 refine TC.skip (S.n (TC.seq (TC.a (TL.s z z (TL.w z (lenC z underlying86 z) (TL.i z z (TL.en (TC.block (TC.loopG (α:=(Nat)×(Unit)) (rgs [(6,3),(19,32)]) (fun g=>[(19,.int .i64 ((g.1:Nat):Int))]) (fun g=>[]) (fun g=>σ) (fun g=>iter (fun q:Nat=>Ct_ x0 x2 x1 q) g.1=some r) (fun g=>rounds (fun q:Nat=>Ct_ x0 x2 x1 q) g.1) (0,()) (Sub.pre 0 z) z (by repeat (first|exact trivial|refine ⟨z,?_⟩)) hh (fun g1 j1 hg1=> ?_))))))))))
 obtain ⟨k105,_⟩:=g1
 have hh:=hg1;clear hg1
 try dsimp only
 obtain ⟨z1,hh,hR1⟩:=iter_e hh
 dsimp only [Ct_]at hh
 refine TC.a (TL.w z (OpVal.lss z z z) (TL.en (TC.seq (TC.cD z hh (fun h106 hh=> ?_) (fun h106 hh=> ?_)))))
 ·refine TC.skip (S.n (TC.cutG (α:=(Unit)×(Unit)) (rgs [(6,3),(21,29)]) (fun g=>[]) (fun g=>[]) (fun g=>σ) (fun g=>Do_ k105=some z1) ?_ (fun g j hg=> ?_)))
  ·skip
   refine TC.block (TC.a (TL.i z z (TL.w z (indexN z underlying86 sz3 z z f0_0.rv.sl (by omega)) (TL.w z (loadS1 (0:Int) z ag3 z f0_0 (by omega) z) (TL.i z z (TL.i z z (TL.en (TC.a (TL.i z z (TL.w z (OpVal.lss z z z) (TL.j z z (TL.split 26 z (fun h107=> ?_) (fun h107=> ?_)))))))))))))
   ·replace hh:=iteO_t h107 hh
    replace h107:=of_decide_eq_true h107
    refine TL.f z (TL.f z (TL.f z (TL.w z (pickTB z z z) (TL.j z z (TL.f z (TL.f z (TL.f z (TL.f z (TL.f z (TL.f z (TL.w z (pickTB z z z) (TL.j z z (TL.f z (TL.f z (TL.f z ?_)))))))))))))))
    refine TL.f z (TL.f z (TL.f z (TL.f z (TL.f z (TL.f z (TL.w z (pickTB z z z) (TL.en (TC.t z (TC.a (TL.j z z (TL.en (TC.ret (B.r (S.r (S.r ?_)))))))))))))))
    replace hh:=fin_x hR1 hh
    refine B.r (S.r ?_)
    obtain rfl:=so hh
    exact rq [6] ⟨z,z,z⟩
   replace hh:=iteO_f h107 hh
   replace h107:=of_decide_eq_false h107
   refine TL.g z (moveI (.inl z) z) (TL.g z (moveI (.inl z) z) (TL.g z (OpVal.geq z z z) (TL.w z (pickFB z z z) (TL.j z z (TL.split 31 z (fun h108=> ?_) (fun h108=> ?_))))))
   ·replace hh:=iteO_t h108 hh
    replace h108:=of_decide_eq_true h108
    refine TL.f z (TL.f z (TL.f z (TL.f z (TL.f z (TL.f z (TL.w z (pickTB z z z) (TL.j z z (TL.f z (TL.f z (TL.f z (TL.f z (TL.f z (TL.f z (TL.f z (TL.f z ?_)))))))))))))))
    refine TL.f z (TL.w z (pickTB z z z) (TL.en (TC.t z (TC.a (TL.j z z (TL.en (TC.ret (B.r (S.r (S.r ?_))))))))))
    replace hh:=fin_x hR1 hh
    refine B.r (S.r ?_)
    obtain rfl:=so hh
    exact rq [6] ⟨z,z,z⟩
   replace hh:=iteO_f h108 hh
   replace h108:=of_decide_eq_false h108
   refine TL.g z (moveSl (.inl z) z) (TL.g z (moveI (.inl z) z) ?_)
   have u30:=grd_c hh
   replace hh:=grd_t hh
   refine TL.g z (indexN z underlying30 sz9 z z f1_0.rv.sl (by omega)) (TL.g z (loadS1 ([]:List UInt8) z ag9 z f1_0 (by omega) z) (TL.g z (lenBs z underlying9 z) (TL.g z (OpVal.gtr z z z) (TL.w z (pickFB z z z) (TL.j z z (TL.split 39 z (fun h109=> ?_) (fun h109=> ?_)))))))
   ·replace hh:=iteO_t h109 hh
    replace h109:=of_decide_eq_true h109
    refine TL.f z (TL.f z (TL.f z (TL.f z (TL.f z (TL.f z (TL.f z (TL.f z (TL.f z (TL.w z (pickTB z z z) (TL.en (TC.t z (TC.a (TL.j z z (TL.en (TC.ret ?_)))))))))))))))
    refine B.r (S.r (S.r ?_))
    replace hh:=fin_x hR1 hh
    refine B.r (S.r ?_)
    obtain rfl:=so hh
    exact rq [6] ⟨z,z,z⟩
   replace hh:=iteO_f h109 hh
   replace h109:=of_decide_eq_false h109
   refine TL.g z (moveI (.inl z) z) (TL.g z (OpVal.eql z z z) (TL.g z (moveB (.inl z) z) (TL.split 42 z (fun h110=> ?_) (fun h110=> ?_))))
   ·replace hh:=iteO_t h110 hh
    replace h110:=of_decide_eq_true h110
    refine TL.g z (moveSl (.inl z) z) (TL.g z (moveI (.inl z) z) ?_)
    have u41:=grd_c hh
    replace hh:=grd_t hh
    refine TL.g z (indexN z underlying30 sz9 z z f1_0.rv.sl (by omega)) (TL.g z (loadS1 ([]:List UInt8) z ag9 z f1_0 (by omega) z) (TL.g z (neqBs z z z) (TL.g z (pickTB z z z) (TL.w z (pickFB z z z) (TL.en (TC.cD z hh (fun h111 hh=> ?_) (fun h111 hh=> ?_)))))))
    ·refine TC.a (TL.j z z (TL.en (TC.ret (B.r (S.r (S.r ?_))))))
     replace hh:=fin_x hR1 hh
     refine B.r (S.r ?_)
     obtain rfl:=so hh
     exact rq [6] ⟨z,z,z⟩
    exact TC.skip (B.n (S.n (cf ((),()) hh (Sub.pre 0 z))))
   replace hh:=iteO_f h110 hh
   replace h110:=of_decide_eq_false h110
   exact TL.f z (TL.f z (TL.f z (TL.f z (TL.f z (TL.g z (pickFB z z z) (TL.w z (pickFB z z z) (TL.en (TC.f z (TC.skip (B.n (S.n (cf ((),()) hh (Sub.pre 0 z)))))))))))))
  skip
  obtain ⟨_,_⟩:=g
  have hh:=hg;clear hg
  try dsimp only
  dsimp only [Do_]at hh
  refine TC.region (TL.w z (OpVal.succ z z z (by omega)) (TL.i z z (TL.en ?_)))
  obtain ⟨hh,hlt112⟩:=nxt_x hR1 hh
  exact lf ((k105+1),()) hlt112 hh (Sub.pre 0 z)
 refine TC.exit (S.x (S.x ?_))
 replace hh:=fin_x hR1 hh
 refine TC.exitHere (S.n (TC.a (TL.j z z (TL.en (TC.ret ?_)))))
 obtain rfl:=so hh
 exact rq [6] ⟨z,z,z⟩
def B5_(k112:Nat)(x0:Seq):Option ((Nat)⊕(Int)):=
 grd (k112<x0.outs.length) (bnd (E3_ (nth x0.next k112 ([]:List Int)) (nth x0.outs k112 ([]:List (List UInt8))) ((x0.next.length:Nat):Int)) (fun v85=>iteO (!v85) (fin (some 1)) (nxt (k112+1))))
def B8_(x0:Seq)(k112:Nat):Option ((Nat)⊕(Int)):=
 iteO (decide (((k112:Nat):Int)<((x0.next.length:Nat):Int))) (grd (k112<x0.tail.length) (iteO (decide (4096<(((nth x0.tail k112 ([]:List UInt8)).length:Nat):Int))) (fin (some 1)) (grd (k112<x0.fin.length) (iteO (!(nth x0.fin k112 false)) (grd (k112<x0.tail.length) (iteO (decide ((nth x0.tail k112 ([]:List UInt8))≠([]:List UInt8))) (fin (some 1)) (B5_ k112 x0))) (B5_ k112 x0))))) (fin (some 0))
def C0_(x0:Seq):Option (Int):=
 iter (fun q:Nat=>B8_ x0 q) 0
def Dm_(x0:Seq):Option (Int):=
 iteO (decide (1024<((x0.next.length:Nat):Int))) (some 1) (iteO (decide (((x0.outs.length:Nat):Int)≠((x0.next.length:Nat):Int))) (some 1) (iteO (decide (((x0.fin.length:Nat):Int)≠((x0.next.length:Nat):Int))) (some 1) (iteO (decide (((x0.tail.length:Nat):Int)≠((x0.next.length:Nat):Int))) (some 1) (iteO (decide (4096<((x0.front.length:Nat):Int))) (some 1) (iteO (decide (((x0.next.length:Nat):Int)=0)) (iteO (decide (x0.front≠([]:List UInt8))) (some 1) (C0_ x0)) (C0_ x0))))))
theorem Ef_{x0:Seq}(f0_0:RZ σ (pkSl 1 eI_ eIl_) (.slice a0_0 x0.next.length c0_0) x0.next)(f0_1:RZ σ (pkSl 1 eS_ eSl_) (.slice a0_1 x0.outs.length c0_1) x0.outs)(f0_2:RS σ 1 encB (.slice a0_2 x0.fin.length c0_2) x0.fin)(f0_3:RS σ 1 eS_ (.slice a0_3 x0.tail.length c0_3) x0.tail){r:Int}(hh:Dm_ x0=some r):
  Con Tryz.prog 23 #[.agg #[.string (bs x0.front),.slice a0_0 x0.next.length c0_0,.slice a0_1 x0.outs.length c0_1,.slice a0_2 x0.fin.length c0_2,.slice a0_3 x0.tail.length c0_3]] σ [] (PureP (.int .i64 r) σ):=by
 dsimp only [Dm_]at hh
 have f0_0b:=f0_0.big
 have f0_1b:=f0_1.big
 have f0_2b:=f0_2.rv.big
 have f0_3b:=f0_3.rv.big
 refine Con.mk (n:=85) Tryz.func23 z z z (fun w0=> ?_)
 refine TC.a (TL.op z (boxA z z z z (fun b101=> ?_)))
 refine TL.i z z (TL.en (TC.a (TL.w z (fieldLoc z fo32_1 z) (TL.w z (loadLoc z ag27 z (i:=0) z z) (TL.w z (lenC z underlying27 z) (TL.i z z (TL.en (TC.seq (TC.a (TL.i z z (TL.w z (OpVal.gtr z z z) (TL.j z z (TL.split 10 z (fun h103=> ?_) (fun h103=> ?_))))))))))))))
 ·replace hh:=iteO_t h103 hh
  replace h103:=of_decide_eq_true h103
  refine TL.f z (TL.f z (TL.f z (TL.f z (TL.f z (TL.w z (pickTB z z z) (TL.j z z (TL.f z (TL.f z (TL.f z (TL.f z (TL.f z (TL.w z (pickTB z z z) (TL.j z z (TL.f z (TL.f z ?_)))))))))))))))
  refine TL.f z (TL.f z (TL.f z (TL.w z (pickTB z z z) (TL.en (TC.t z (TC.a (TL.i z z (TL.en (TC.rt 0 (S.r ?_))))))))))
  obtain rfl:=so hh
  exact rq [2] ⟨z,z,z⟩
 replace hh:=iteO_f h103 hh
 replace h103:=of_decide_eq_false h103
 refine TL.g z (fieldLoc z fo32_2 z) (TL.g z (loadLoc z ag28 z (i:=0) z z) (TL.g z (lenC z underlying28 z) (TL.g z (moveI (.inl z) z) (TL.g z (OpVal.neq z z z) (TL.w z (pickFB z z z) (TL.j z z (TL.split 17 z (fun h104=> ?_) (fun h104=> ?_))))))))
 ·replace hh:=iteO_t h104 hh
  replace h104:=of_decide_eq_true h104
  refine TL.f z (TL.f z (TL.f z (TL.f z (TL.f z (TL.w z (pickTB z z z) (TL.j z z (TL.f z (TL.f z (TL.f z (TL.f z (TL.f z (TL.w z (pickTB z z z) (TL.en (TC.t z (TC.a ?_)))))))))))))))
  refine TL.i z z (TL.en (TC.rt 0 (S.r ?_)))
  obtain rfl:=so hh
  exact rq [2] ⟨z,z,z⟩
 replace hh:=iteO_f h104 hh
 replace h104:=of_decide_eq_false h104
 refine TL.g z (fieldLoc z fo32_3 z) (TL.g z (loadLoc z ag29 z (i:=0) z z) (TL.g z (lenC z underlying29 z) (TL.g z (moveI (.inl z) z) (TL.g z (OpVal.neq z z z) (TL.w z (pickFB z z z) (TL.j z z (TL.split 24 z (fun h105=> ?_) (fun h105=> ?_))))))))
 ·replace hh:=iteO_t h105 hh
  replace h105:=of_decide_eq_true h105
  refine TL.f z (TL.f z (TL.f z (TL.f z (TL.f z (TL.w z (pickTB z z z) (TL.en (TC.t z (TC.a (TL.i z z (TL.en (TC.rt 0 (S.r ?_))))))))))))
  obtain rfl:=so hh
  exact rq [2] ⟨z,z,z⟩
 replace hh:=iteO_f h105 hh
 replace h105:=of_decide_eq_false h105
 refine TL.g z (fieldLoc z fo32_4 z) (TL.g z (loadLoc z ag30 z (i:=0) z z) (TL.g z (lenC z underlying30 z) (TL.g z (moveI (.inl z) z) (TL.g z (OpVal.neq z z z) (TL.w z (pickFB z z z) (TL.en (TC.cD z hh (fun h106 hh=> ?_) (fun h106 hh=> ?_))))))))
 ·refine TC.a (TL.i z z (TL.en (TC.rt 0 (S.r ?_))))
  obtain rfl:=so hh
  exact rq [2] ⟨z,z,z⟩
 refine TC.skip (S.n (TC.cutG (α:=(Unit)×(Unit)) (rgs [(2,1),(31,13)]) (fun g=>[]) (fun g=>[Res.cells b101 #[.string (bs x0.front),.slice a0_0 x0.next.length c0_0,.slice a0_1 x0.outs.length c0_1,.slice a0_2 x0.fin.length c0_2,.slice a0_3 x0.tail.length c0_3] 32]) (fun g=>σ) (fun g=>C0_ x0=some r) ?_ (fun g j hg=> ?_)))
 ·skip
  refine TC.a (TL.w z (fieldLoc z fo32_0 z) (TL.w z (loadLoc z ag9 z (i:=0) z z) (TL.w z (lenBs z underlying9 z) (TL.w z (OpVal.gtr z z z) (TL.j z z (TL.split 35 z (fun h107=> ?_) (fun h107=> ?_)))))))
  ·replace hh:=iteO_t h107 hh
   replace h107:=of_decide_eq_true h107
   refine TL.f z (TL.f z (TL.f z (TL.f z (TL.f z (TL.f z (TL.f z (TL.w z (pickTB z z z) (TL.en (TC.t z (TC.a (TL.i z z (TL.en (TC.rt 0 (S.r ?_))))))))))))))
   obtain rfl:=so hh
   exact rq [2] ⟨z,z,z⟩
  replace hh:=iteO_f h107 hh
  replace h107:=of_decide_eq_false h107
  refine TL.g z (moveI (.inl z) z) (TL.g z (OpVal.eql z z z) (TL.g z (moveB (.inl z) z) (TL.split 38 z (fun h108=> ?_) (fun h108=> ?_))))
  ·replace hh:=iteO_t h108 hh
   replace h108:=of_decide_eq_true h108
   refine TL.g z (fieldLoc z fo32_0 z) (TL.g z (loadLoc z ag9 z (i:=0) z z) (TL.g z (neqBs z z z) (TL.g z (pickTB z z z) (TL.w z (pickFB z z z) (TL.en (TC.cD z hh (fun h109 hh=> ?_) (fun h109 hh=> ?_)))))))
   ·refine TC.a (TL.i z z (TL.en (TC.rt 0 (S.r ?_))))
    obtain rfl:=so hh
    exact rq [2] ⟨z,z,z⟩
   exact TC.skip (S.n (cf ((),()) hh (Sub.pre 1 z)))
  replace hh:=iteO_f h108 hh
  replace h108:=of_decide_eq_false h108
  exact TL.f z (TL.f z (TL.f z (TL.g z (pickFB z z z) (TL.w z (pickFB z z z) (TL.en (TC.f z (TC.skip (S.n (cf ((),()) hh (Sub.pre 1 z))))))))))
 skip
 obtain ⟨_,_⟩:=g
 have hh:=hg;clear hg
 try dsimp only
 dsimp only [C0_]at hh
 refine TC.seq (TC.a (TL.i z z (TL.i z z (TL.en (TC.block (TC.loopG (α:=(Nat)×(Unit)) (rgs [(2,1),(4,1),(45,40)]) (fun g=>[(45,.int .i64 ((g.1:Nat):Int))]) (fun g=>[Res.cells b101 #[.string (bs x0.front),.slice a0_0 x0.next.length c0_0,.slice a0_1 x0.outs.length c0_1,.slice a0_2 x0.fin.length c0_2,.slice a0_3 x0.tail.length c0_3] 32]) (fun g=>σ) (fun g=>iter (fun q:Nat=>B8_ x0 q) g.1=some r) (fun g=>rounds (fun q:Nat=>B8_ x0 q) g.1) (0,()) (Sub.pre 1 z) z (by repeat (first|exact trivial|refine ⟨z,?_⟩)) hh (fun g1 j1 hg1=> ?_)))))))
 obtain ⟨k112,_⟩:=g1
 have hh:=hg1;clear hg1
 try dsimp only
 obtain ⟨z1,hh,hR1⟩:=iter_e hh
 dsimp only [B8_]at hh
 refine TC.a (TL.w z (OpVal.lss z z z) (TL.en (TC.seq (TC.cD z hh (fun h113 hh=> ?_) (fun h113 hh=> ?_)))))
 ·refine TC.skip (S.n (TC.seq (TC.block (TC.a (TL.i z z (TL.i z z (TL.en (TC.cutG (α:=(Unit)×(Unit)) (rgs [(2,1),(48,23)]) (fun g=>[]) (fun g=>[Res.cells b101 #[.string (bs x0.front),.slice a0_0 x0.next.length c0_0,.slice a0_1 x0.outs.length c0_1,.slice a0_2 x0.fin.length c0_2,.slice a0_3 x0.tail.length c0_3] 32]) (fun g=>σ) (fun g=>B5_ k112 x0=some z1) ?_ (fun g j hg=> ?_)))))))))
  ·skip
   refine TC.a (TL.w z (fieldLoc z fo32_4 z) (TL.w z (loadLoc z ag30 z (i:=0) z z) (TL.i z z ?_)))
   have u53:=grd_c hh
   replace hh:=grd_t hh
   refine TL.w z (indexN z underlying30 sz9 z z f0_3.rv.sl (by omega)) (TL.w z (loadS1 ([]:List UInt8) z ag9 z f0_3 (by omega) z) (TL.w z (lenBs z underlying9 z) (TL.w z (OpVal.gtr z z z) (TL.j z z (TL.split 55 z (fun h114=> ?_) (fun h114=> ?_))))))
   ·replace hh:=iteO_t h114 hh
    replace h114:=of_decide_eq_true h114
    refine TL.f z (TL.f z (TL.f z (TL.f z (TL.f z (TL.f z (TL.f z (TL.f z (TL.f z (TL.f z (TL.f z (TL.f z (TL.f z (TL.f z (TL.w z (pickTB z z z) (TL.en ?_)))))))))))))))
    refine TC.t z (TC.a (TL.i z z (TL.en (TC.rt 0 (S.r (B.r (S.r (S.r ?_))))))))
    replace hh:=fin_x hR1 hh
    refine B.r (S.r ?_)
    obtain rfl:=so hh
    exact rq [2] ⟨z,z,z⟩
   replace hh:=iteO_f h114 hh
   replace h114:=of_decide_eq_false h114
   refine TL.g z (fieldLoc z fo32_3 z) (TL.g z (loadLoc z ag29 z (i:=0) z z) (TL.g z (moveI (.inl z) z) ?_))
   have u61:=grd_c hh
   replace hh:=grd_t hh
   refine TL.g z (indexN z underlying29 sz4 z z f0_2.rv.sl (by omega)) (TL.g z (loadS1 false z ag4 z f0_2 (by omega) z) (TL.g z (OpVal.not z z) (TL.g z (moveB (.inl z) z) (TL.split 62 z (fun h115=> ?_) (fun h115=> ?_)))))
   ·replace hh:=iteO_t h115 hh
    refine TL.g z (fieldLoc z fo32_4 z) (TL.g z (loadLoc z ag30 z (i:=0) z z) (TL.g z (moveI (.inl z) z) ?_))
    have u68:=grd_c hh
    replace hh:=grd_t hh
    refine TL.g z (indexN z underlying30 sz9 z z f0_3.rv.sl (by omega)) (TL.g z (loadS1 ([]:List UInt8) z ag9 z f0_3 (by omega) z) (TL.g z (neqBs z z z) (TL.g z (pickTB z z z) (TL.w z (pickFB z z z) (TL.en (TC.cD z hh (fun h116 hh=> ?_) (fun h116 hh=> ?_)))))))
    ·refine TC.a (TL.i z z (TL.en (TC.rt 0 (S.r (B.r (S.r (S.r ?_)))))))
     replace hh:=fin_x hR1 hh
     refine B.r (S.r ?_)
     obtain rfl:=so hh
     exact rq [2] ⟨z,z,z⟩
    exact TC.skip (S.n (cf ((),()) hh (Sub.pre 1 z)))
   replace hh:=iteO_f h115 hh
   exact TL.f z (TL.f z (TL.f z (TL.f z (TL.f z (TL.f z (TL.g z (pickFB z z z) (TL.w z (pickFB z z z) (TL.en (TC.f z (TC.skip (S.n (cf ((),()) hh (Sub.pre 1 z)))))))))))))
  skip
  obtain ⟨_,_⟩:=g
  have hh:=hg;clear hg
  try dsimp only
  dsimp only [B5_]at hh
  refine TC.seq ?_
  have u82:=grd_c hh
  replace hh:=grd_t hh
  obtain ⟨v85,u85,hh⟩:=bnd_e hh
  refine TC.draw [] (by kernel_rfl) (TA.a 0 z (fieldLoc z fo32_1 z) z (TA.b 1 z (loadLoc z ag27 z (i:=0) z z) z (TA.a 2 z (moveI (.inl z) z) z (TA.b 3 z (indexN z underlying27 sz86 z z f0_0.isSl (by omega)) z ?_))))
  obtain ⟨p119,hk119,hg119⟩:=RZ.seg f0_0 k112 (by omega)
  replace hk119:RS _ 1 eI_ (.slice p119.1 (nth x0.next k112 ([]:List Int)).length p119.2) (nth x0.next k112 ([]:List Int)):=hk119
  have hk119b:=hk119.rv.big
  refine TA.b 4 z (OpVal.of (loadSeg0 z ag86 z hg119 z) (v':= .slice p119.1 ((nth x0.next k112 ([]:List Int)).length) p119.2) z) z (TA.a 5 z (fieldLoc z fo32_2 z) z (TA.b 6 z (loadLoc z ag28 z (i:=0) z z) z (TA.a 7 z (moveI (.inl z) z) z (TA.b 8 z (indexN z underlying28 sz30 z z f0_1.isSl (by omega)) z ?_))))
  obtain ⟨p120,hk120,hg120⟩:=RZ.seg f0_1 k112 (by omega)
  replace hk120:RS _ 1 eS_ (.slice p120.1 (nth x0.outs k112 ([]:List (List UInt8))).length p120.2) (nth x0.outs k112 ([]:List (List UInt8))):=hk120
  have hk120b:=hk120.rv.big
  refine TA.b 9 z (OpVal.of (loadSeg0 z ag30 z hg120 z) (v':= .slice p120.1 ((nth x0.outs k112 ([]:List (List UInt8))).length) p120.2) z) z (TA.a 10 z (moveI (.inl z) z) z (TA.ac 11 z (callP (Gb_ hk119 hk120 u85) z z pf60 z z z (k0 ?_))))
  refine TA.a 12 z (OpVal.not z z) z (TA.dn (S.n (TC.cB z hh (fun h121 hh=> ?_) (fun h121 hh=> ?_))))
  ·refine TC.a (TL.i z z (TL.en (TC.rt 0 (B.r (S.r (S.r ?_))))))
   replace hh:=fin_x hR1 hh
   refine B.r (S.r ?_)
   obtain rfl:=so hh
   exact rq [2] ⟨z,z,z⟩
  refine TC.skip (B.n (S.n (TC.region (TL.w z (OpVal.succ z z z (by omega)) (TL.i z z (TL.en ?_))))))
  obtain ⟨hh,hlt122⟩:=nxt_x hR1 hh
  exact lf ((k112+1),()) hlt122 hh (Sub.pre 1 z)
 refine TC.exit (S.x (S.x ?_))
 replace hh:=fin_x hR1 hh
 refine TC.exitHere (S.n (TC.a (TL.i z z (TL.en (TC.rt 0 ?_)))))
 obtain rfl:=so hh
 exact rq [2] ⟨z,z,z⟩
def Ag_(x0:Seq)(k108:Nat)(i116:Int)(k117:Nat):Option ((Int×Nat)⊕((Nat)⊕(Bool))):=
 iteO (decide (((k117:Nat):Int)<(((nth x0.outs k108 ([]:List (List UInt8))).length:Nat):Int))) (nxt ((IntKind.i64.wrap (i116+(((nth (nth x0.outs k108 ([]:List (List UInt8))) k117 ([]:List UInt8)).length:Nat):Int))),(k117+1))) (fin (iteO (decide (20000<i116)) (fin (some false)) (nxt (k108+1))))
def An_(x0:Seq)(k108:Nat):Option ((Nat)⊕(Bool)):=
 iteO (decide (((k108:Nat):Int)<((x0.outs.length:Nat):Int))) (iteO (decide (300<(((nth x0.outs k108 ([]:List (List UInt8))).length:Nat):Int))) (fin (some false)) (iter (fun q:Int×Nat=>Ag_ x0 k108 q.1 q.2) (0,0))) (fin (some true))
def Cl_(x0:Seq):Option (Bool):=
 iteO (decide (12<((x0.next.length:Nat):Int))) (some false) (iteO (decide (13<((x0.outs.length:Nat):Int))) (some false) (iteO (decide (5000<((x0.front.length:Nat):Int))) (some false) (iter (fun q:Nat=>An_ x0 q) 0)))
theorem Fb_{x0:Seq}(f0_0:RZ σ (pkSl 1 eI_ eIl_) (.slice a0_0 x0.next.length c0_0) x0.next)(f0_1:RZ σ (pkSl 1 eS_ eSl_) (.slice a0_1 x0.outs.length c0_1) x0.outs)(f0_2:RS σ 1 encB (.slice a0_2 x0.fin.length c0_2) x0.fin)(f0_3:RS σ 1 eS_ (.slice a0_3 x0.tail.length c0_3) x0.tail){r:Bool}(hh:Cl_ x0=some r):
  Con Tryz.prog 18 #[.agg #[.string (bs x0.front),.slice a0_0 x0.next.length c0_0,.slice a0_1 x0.outs.length c0_1,.slice a0_2 x0.fin.length c0_2,.slice a0_3 x0.tail.length c0_3]] σ [] (PureP (.bool r) σ):=by
 dsimp only [Cl_]at hh
 have f0_0b:=f0_0.big
 have f0_1b:=f0_1.big
 have f0_2b:=f0_2.rv.big
 have f0_3b:=f0_3.rv.big
 refine Con.mk (n:=59) Tryz.func18 z z z (fun w0=> ?_)
 refine TC.a (TL.op z (boxA z z z z (fun b101=> ?_)))
 refine TL.j z z (TL.en (TC.seq (TC.a (TL.w z (fieldLoc z fo32_1 z) (TL.w z (loadLoc z ag27 z (i:=0) z z) (TL.w z (lenC z underlying27 z) (TL.w z (OpVal.gtr z z z) (TL.j z z (TL.split 10 z (fun h103=> ?_) (fun h103=> ?_))))))))))
 ·replace hh:=iteO_t h103 hh
  replace h103:=of_decide_eq_true h103
  refine TL.f z (TL.f z (TL.f z (TL.f z (TL.w z (pickTB z z z) (TL.j z z (TL.f z (TL.f z (TL.f z (TL.f z (TL.w z (pickTB z z z) (TL.en (TC.t z (TC.a (TL.j z z (TL.en ?_)))))))))))))))
  refine TC.rt 0 (S.r ?_)
  obtain rfl:=so hh
  exact rq [2] ⟨z,z,z⟩
 replace hh:=iteO_f h103 hh
 replace h103:=of_decide_eq_false h103
 refine TL.g z (fieldLoc z fo32_2 z) (TL.g z (loadLoc z ag28 z (i:=0) z z) (TL.g z (lenC z underlying28 z) (TL.g z (OpVal.gtr z z z) (TL.w z (pickFB z z z) (TL.j z z (TL.split 16 z (fun h104=> ?_) (fun h104=> ?_)))))))
 ·replace hh:=iteO_t h104 hh
  replace h104:=of_decide_eq_true h104
  refine TL.f z (TL.f z (TL.f z (TL.f z (TL.w z (pickTB z z z) (TL.en (TC.t z (TC.a (TL.j z z (TL.en (TC.rt 0 (S.r ?_)))))))))))
  obtain rfl:=so hh
  exact rq [2] ⟨z,z,z⟩
 replace hh:=iteO_f h104 hh
 replace h104:=of_decide_eq_false h104
 refine TL.g z (fieldLoc z fo32_0 z) (TL.g z (loadLoc z ag9 z (i:=0) z z) (TL.g z (lenBs z underlying9 z) (TL.g z (OpVal.gtr z z z) (TL.w z (pickFB z z z) (TL.en (TC.cD z hh (fun h105 hh=> ?_) (fun h105 hh=> ?_)))))))
 ·refine TC.a (TL.j z z (TL.en (TC.rt 0 (S.r ?_))))
  obtain rfl:=so hh
  exact rq [2] ⟨z,z,z⟩
 refine TC.skip (S.n (TC.seq (TC.a (TL.i z z (TL.en (TC.block (TC.loopG (α:=(Nat)×(Unit)) (rgs [(2,4),(22,37)]) (fun g=>[(3,.int .i64 ((g.1:Nat):Int))]) (fun g=>[Res.cells b101 #[.string (bs x0.front),.slice a0_0 x0.next.length c0_0,.slice a0_1 x0.outs.length c0_1,.slice a0_2 x0.fin.length c0_2,.slice a0_3 x0.tail.length c0_3] 32]) (fun g=>σ) (fun g=>iter (fun q:Nat=>An_ x0 q) g.1=some r) (fun g=>rounds (fun q:Nat=>An_ x0 q) g.1) (0,()) (Sub.pre 1 z) z (by repeat (first|exact trivial|refine ⟨z,?_⟩)) hh (fun g1 j1 hg1=> ?_))))))))
 obtain ⟨k108,_⟩:=g1
 have hh:=hg1;clear hg1
 try dsimp only
 obtain ⟨z1,hh,hR1⟩:=iter_e hh
 dsimp only [An_]at hh
 refine TC.seq (TC.a (TL.i z z (TL.w z (fieldLoc z fo32_2 z) (TL.w z (loadLoc z ag28 z (i:=0) z z) (TL.w z (lenC z underlying28 z) (TL.w z (OpVal.lss z z z) (TL.en (TC.cD z hh (fun h109 hh=> ?_) (fun h109 hh=> ?_)))))))))
 ·refine TC.skip (S.n (TC.seq (TC.block (TC.seq (TC.a (TL.w z (fieldLoc z fo32_2 z) (TL.w z (loadLoc z ag28 z (i:=0) z z) (TL.i z z (TL.w z (indexN z underlying28 sz30 z z f0_1.isSl (by omega)) ?_)))))))))
  obtain ⟨p110,hk110,hg110⟩:=RZ.seg f0_1 k108 (by omega)
  replace hk110:RS _ 1 eS_ (.slice p110.1 (nth x0.outs k108 ([]:List (List UInt8))).length p110.2) (nth x0.outs k108 ([]:List (List UInt8))):=hk110
  have hk110b:=hk110.rv.big
  refine TL.w z (OpVal.of (loadSeg0 z ag30 z hg110 z) (v':= .slice p110.1 ((nth x0.outs k108 ([]:List (List UInt8))).length) p110.2) z) (TL.w z (lenC z underlying30 z) (TL.w z (OpVal.gtr z z z) (TL.en (TC.cD z hh (fun h111 hh=> ?_) (fun h111 hh=> ?_)))))
  ·refine TC.a (TL.j z z (TL.en (TC.rt 0 (S.r (B.r (S.r (S.r ?_)))))))
   replace hh:=fin_x hR1 hh
   refine B.r (S.r ?_)
   obtain rfl:=so hh
   exact rq [2] ⟨z,z,z⟩
  refine TC.skip (S.n (TC.a (TL.i z z (TL.en (TC.seq (TC.a (TL.i z z (TL.en (TC.block (TC.loopG (α:=(Int×Nat)×(Unit)) (rgs [(4,2),(36,21)]) (fun g=>[(4,.int .i64 g.1.1),(5,.int .i64 ((g.1.2:Nat):Int))]) (fun g=>[Res.cells b101 #[.string (bs x0.front),.slice a0_0 x0.next.length c0_0,.slice a0_1 x0.outs.length c0_1,.slice a0_2 x0.fin.length c0_2,.slice a0_3 x0.tail.length c0_3] 32]) (fun g=>σ) (fun g=>iter (fun q:Int×Nat=>Ag_ x0 k108 q.1 q.2) g.1=some z1) (fun g=>rounds (fun q:Int×Nat=>Ag_ x0 k108 q.1 q.2) g.1) ((0,0),()) (Sub.pre 1 z) z (by repeat (first|exact trivial|refine ⟨z,?_⟩)) hh (fun g2 j2 hg2=> ?_)))))))))))
  obtain ⟨⟨i116,k117⟩,_⟩:=g2
  have hh:=hg2;clear hg2
  try dsimp only
  obtain ⟨z2,hh,hR2⟩:=iter_e hh
  dsimp only [Ag_]at hh
  refine TC.seq (TC.a (TL.i z z (TL.w z (fieldLoc z fo32_2 z) (TL.w z (loadLoc z ag28 z (i:=0) z z) (TL.i z z (TL.w z (indexN z underlying28 sz30 z z f0_1.isSl (by omega)) ?_))))))
  obtain ⟨p118,hk118,hg118⟩:=RZ.seg f0_1 k108 (by omega)
  replace hk118:RS _ 1 eS_ (.slice p118.1 (nth x0.outs k108 ([]:List (List UInt8))).length p118.2) (nth x0.outs k108 ([]:List (List UInt8))):=hk118
  have hk118b:=hk118.rv.big
  refine TL.w z (OpVal.of (loadSeg0 z ag30 z hg118 z) (v':= .slice p118.1 ((nth x0.outs k108 ([]:List (List UInt8))).length) p118.2) z) (TL.w z (lenC z underlying30 z) (TL.w z (OpVal.lss z z z) (TL.en (TC.cD z hh (fun h119 hh=> ?_) (fun h119 hh=> ?_)))))
  ·refine TC.skip (S.n (TC.seq (TC.block (TC.region (TL.i z z (TL.w z (fieldLoc z fo32_2 z) (TL.w z (loadLoc z ag28 z (i:=0) z z) (TL.i z z (TL.w z (indexN z underlying28 sz30 z z f0_1.isSl (by omega)) ?_)))))))))
   obtain ⟨p120,hk120,hg120⟩:=RZ.seg f0_1 k108 (by omega)
   replace hk120:RS _ 1 eS_ (.slice p120.1 (nth x0.outs k108 ([]:List (List UInt8))).length p120.2) (nth x0.outs k108 ([]:List (List UInt8))):=hk120
   have hk120b:=hk120.rv.big
   refine TL.w z (OpVal.of (loadSeg0 z ag30 z hg120 z) (v':= .slice p120.1 ((nth x0.outs k108 ([]:List (List UInt8))).length) p120.2) z) (TL.i z z (TL.w z (indexN z underlying30 sz9 z z hk120.rv.sl (by omega)) (TL.w z (loadS1 ([]:List UInt8) z ag9 z hk120 (by omega) z) (TL.w z (lenBs z underlying9 z) (TL.w z (addW z z z) (TL.i z z (TL.nil (B.n (S.n (TC.region (TL.i z z (TL.w z (OpVal.succ z z z (by omega)) (TL.i z z (TL.en ?_))))))))))))))
   obtain ⟨hh,hlt121⟩:=nxt_x hR2 hh
   exact lf (((IntKind.i64.wrap (i116+(((nth (nth x0.outs k108 ([]:List (List UInt8))) k117 ([]:List UInt8)).length:Nat):Int))),(k117+1)),()) hlt121 hh (Sub.pre 1 z)
  refine TC.exit (S.x (S.x ?_))
  replace hh:=fin_x hR2 hh
  refine TC.exitHere (S.n (TC.a (TL.i z z (TL.w z (OpVal.gtr z z z) (TL.en (TC.cD z hh (fun h122 hh=> ?_) (fun h122 hh=> ?_)))))))
  ·refine TC.a (TL.j z z (TL.en (TC.rt 0 (B.r (S.r (S.r ?_))))))
   replace hh:=fin_x hR1 hh
   refine B.r (S.r ?_)
   obtain rfl:=so hh
   exact rq [2] ⟨z,z,z⟩
  refine TC.skip (B.n (S.n (TC.region (TL.i z z (TL.w z (OpVal.succ z z z (by omega)) (TL.i z z (TL.en ?_)))))))
  obtain ⟨hh,hlt123⟩:=nxt_x hR1 hh
  exact lf ((k108+1),()) hlt123 hh (Sub.pre 1 z)
 refine TC.exit (S.x (S.x ?_))
 replace hh:=fin_x hR1 hh
 refine TC.exitHere (S.n (TC.a (TL.j z z (TL.en (TC.rt 0 ?_)))))
 obtain rfl:=so hh
 exact rq [2] ⟨z,z,z⟩
def A7_(k123:Nat):Option ((Nat)⊕((Nat)⊕(Bool))):=
 nxt (k123+1)
def Ap_(x0:Seq)(k112:Nat)(k123:Nat):Option ((Nat)⊕((Nat)⊕(Bool))):=
 iteO (decide (((k123:Nat):Int)<256)) (grd (k123<(nth x0.next k112 ([]:List Int)).length) (grd (k112<x0.outs.length) (grd (k123<(nth x0.outs k112 ([]:List (List UInt8))).length) (iteO (decide ((nth (nth x0.next k112 ([]:List Int)) k123 (0:Int))<(-1))) (fin (fin (some false))) (iteO (decide (((x0.next.length:Nat):Int)≤(nth (nth x0.next k112 ([]:List Int)) k123 (0:Int)))) (fin (fin (some false))) (iteO (decide ((nth (nth x0.next k112 ([]:List Int)) k123 (0:Int))=(-1))) (iteO (decide ((nth (nth x0.outs k112 ([]:List (List UInt8))) k123 ([]:List UInt8))≠([]:List UInt8))) (fin (fin (some false))) (iteO (decide (4096<(((nth (nth x0.outs k112 ([]:List (List UInt8))) k123 ([]:List UInt8)).length:Nat):Int))) (fin (fin (some false))) (A7_ k123))) (iteO (decide (4096<(((nth (nth x0.outs k112 ([]:List (List UInt8))) k123 ([]:List UInt8)).length:Nat):Int))) (fin (fin (some false))) (A7_ k123)))))))) (fin (nxt (k112+1)))
def Ay_(x0:Seq)(k112:Nat):Option ((Nat)⊕(Bool)):=
 iter (fun q:Nat=>Ap_ x0 k112 q) 0
def Ar_(x0:Seq)(k112:Nat):Option ((Nat)⊕(Bool)):=
 iteO (decide (((k112:Nat):Int)<((x0.next.length:Nat):Int))) (iteO (decide ((((nth x0.next k112 ([]:List Int)).length:Nat):Int)≠256)) (fin (some false)) (grd (k112<x0.outs.length) (iteO (decide ((((nth x0.outs k112 ([]:List (List UInt8))).length:Nat):Int)≠256)) (fin (some false)) (grd (k112<x0.tail.length) (iteO (decide (4096<(((nth x0.tail k112 ([]:List UInt8)).length:Nat):Int))) (fin (some false)) (grd (k112<x0.fin.length) (iteO (!(nth x0.fin k112 false)) (grd (k112<x0.tail.length) (iteO (decide ((nth x0.tail k112 ([]:List UInt8))≠([]:List UInt8))) (fin (some false)) (Ay_ x0 k112))) (Ay_ x0 k112)))))))) (fin (some true))
def A8_(x0:Seq):Option (Bool):=
 iter (fun q:Nat=>Ar_ x0 q) 0
def Bd_(x0:Seq):Option (Bool):=
 iteO (decide (1024<((x0.next.length:Nat):Int))) (some false) (iteO (decide (((x0.outs.length:Nat):Int)≠((x0.next.length:Nat):Int))) (some false) (iteO (decide (((x0.fin.length:Nat):Int)≠((x0.next.length:Nat):Int))) (some false) (iteO (decide (((x0.tail.length:Nat):Int)≠((x0.next.length:Nat):Int))) (some false) (iteO (decide (4096<((x0.front.length:Nat):Int))) (some false) (iteO (decide (((x0.next.length:Nat):Int)=0)) (iteO (decide (x0.front≠([]:List UInt8))) (some false) (A8_ x0)) (A8_ x0))))))
theorem Cx_{x0:Seq}(f0_0:RZ σ (pkSl 1 eI_ eIl_) (.slice a0_0 x0.next.length c0_0) x0.next)(f0_1:RZ σ (pkSl 1 eS_ eSl_) (.slice a0_1 x0.outs.length c0_1) x0.outs)(f0_2:RS σ 1 encB (.slice a0_2 x0.fin.length c0_2) x0.fin)(f0_3:RS σ 1 eS_ (.slice a0_3 x0.tail.length c0_3) x0.tail){r:Bool}(hh:Bd_ x0=some r):
  Con Tryz.prog 55 #[.agg #[.string (bs x0.front),.slice a0_0 x0.next.length c0_0,.slice a0_1 x0.outs.length c0_1,.slice a0_2 x0.fin.length c0_2,.slice a0_3 x0.tail.length c0_3]] σ [] (PureP (.bool r) σ):=by
 dsimp only [Bd_]at hh
 have f0_0b:=f0_0.big
 have f0_1b:=f0_1.big
 have f0_2b:=f0_2.rv.big
 have f0_3b:=f0_3.rv.big
 refine Con.mk (n:=135) Tryz.func55 z z z (fun w0=> ?_)
 refine TC.a (TL.op z (boxA z z z z (fun b101=> ?_)))
 refine TL.j z z (TL.en (TC.a (TL.w z (fieldLoc z fo32_1 z) (TL.w z (loadLoc z ag27 z (i:=0) z z) (TL.w z (lenC z underlying27 z) (TL.i z z (TL.en (TC.cutG (α:=(Unit)×(Unit)) (rgs [(2,1),(11,38)]) (fun g=>[]) (fun g=>[Res.cells b101 #[.string (bs x0.front),.slice a0_0 x0.next.length c0_0,.slice a0_1 x0.outs.length c0_1,.slice a0_2 x0.fin.length c0_2,.slice a0_3 x0.tail.length c0_3] 32]) (fun g=>σ) (fun g=>A8_ x0=some r) ?_ (fun g j hg=> ?_)))))))))
 ·skip
  refine TC.a (TL.i z z (TL.w z (OpVal.gtr z z z) (TL.j z z (TL.split 13 z (fun h103=> ?_) (fun h103=> ?_)))))
  ·replace hh:=iteO_t h103 hh
   replace h103:=of_decide_eq_true h103
   refine TL.f z (TL.f z (TL.f z (TL.f z (TL.f z (TL.w z (pickTB z z z) (TL.j z z (TL.f z (TL.f z (TL.f z (TL.f z (TL.f z (TL.w z (pickTB z z z) (TL.j z z (TL.f z (TL.f z ?_)))))))))))))))
   refine TL.f z (TL.f z (TL.f z (TL.w z (pickTB z z z) (TL.j z z (TL.f z (TL.f z (TL.f z (TL.f z (TL.w z (pickTB z z z) (TL.j z z (TL.f z (TL.f z (TL.f z (TL.f z (TL.f z ?_)))))))))))))))
   refine TL.f z (TL.f z (TL.w z (pickTB z z z) (TL.en (TC.t z (TC.a (TL.j z z (TL.en (TC.rt 0 (S.r ?_)))))))))
   obtain rfl:=so hh
   exact rq [2] ⟨z,z,z⟩
  replace hh:=iteO_f h103 hh
  replace h103:=of_decide_eq_false h103
  refine TL.g z (fieldLoc z fo32_2 z) (TL.g z (loadLoc z ag28 z (i:=0) z z) (TL.g z (lenC z underlying28 z) (TL.g z (moveI (.inl z) z) (TL.g z (OpVal.neq z z z) (TL.w z (pickFB z z z) (TL.j z z (TL.split 20 z (fun h104=> ?_) (fun h104=> ?_))))))))
  ·replace hh:=iteO_t h104 hh
   replace h104:=of_decide_eq_true h104
   refine TL.f z (TL.f z (TL.f z (TL.f z (TL.f z (TL.w z (pickTB z z z) (TL.j z z (TL.f z (TL.f z (TL.f z (TL.f z (TL.f z (TL.w z (pickTB z z z) (TL.j z z (TL.f z (TL.f z ?_)))))))))))))))
   refine TL.f z (TL.f z (TL.w z (pickTB z z z) (TL.j z z (TL.f z (TL.f z (TL.f z (TL.f z (TL.f z (TL.f z (TL.f z (TL.w z (pickTB z z z) (TL.en (TC.t z (TC.a (TL.j z z ?_)))))))))))))))
   refine TL.en (TC.rt 0 (S.r ?_))
   obtain rfl:=so hh
   exact rq [2] ⟨z,z,z⟩
  replace hh:=iteO_f h104 hh
  replace h104:=of_decide_eq_false h104
  refine TL.g z (fieldLoc z fo32_3 z) (TL.g z (loadLoc z ag29 z (i:=0) z z) (TL.g z (lenC z underlying29 z) (TL.g z (moveI (.inl z) z) (TL.g z (OpVal.neq z z z) (TL.w z (pickFB z z z) (TL.j z z (TL.split 27 z (fun h105=> ?_) (fun h105=> ?_))))))))
  ·replace hh:=iteO_t h105 hh
   replace h105:=of_decide_eq_true h105
   refine TL.f z (TL.f z (TL.f z (TL.f z (TL.f z (TL.w z (pickTB z z z) (TL.j z z (TL.f z (TL.f z (TL.f z (TL.f z (TL.w z (pickTB z z z) (TL.j z z (TL.f z (TL.f z (TL.f z ?_)))))))))))))))
   refine TL.f z (TL.f z (TL.f z (TL.f z (TL.w z (pickTB z z z) (TL.en (TC.t z (TC.a (TL.j z z (TL.en (TC.rt 0 (S.r ?_)))))))))))
   obtain rfl:=so hh
   exact rq [2] ⟨z,z,z⟩
  replace hh:=iteO_f h105 hh
  replace h105:=of_decide_eq_false h105
  refine TL.g z (fieldLoc z fo32_4 z) (TL.g z (loadLoc z ag30 z (i:=0) z z) (TL.g z (lenC z underlying30 z) (TL.g z (moveI (.inl z) z) (TL.g z (OpVal.neq z z z) (TL.w z (pickFB z z z) (TL.j z z (TL.split 34 z (fun h106=> ?_) (fun h106=> ?_))))))))
  ·replace hh:=iteO_t h106 hh
   replace h106:=of_decide_eq_true h106
   refine TL.f z (TL.f z (TL.f z (TL.f z (TL.w z (pickTB z z z) (TL.j z z (TL.f z (TL.f z (TL.f z (TL.f z (TL.f z (TL.f z (TL.f z (TL.w z (pickTB z z z) (TL.en (TC.t z ?_)))))))))))))))
   refine TC.a (TL.j z z (TL.en (TC.rt 0 (S.r ?_))))
   obtain rfl:=so hh
   exact rq [2] ⟨z,z,z⟩
  replace hh:=iteO_f h106 hh
  replace h106:=of_decide_eq_false h106
  refine TL.g z (fieldLoc z fo32_0 z) (TL.g z (loadLoc z ag9 z (i:=0) z z) (TL.g z (lenBs z underlying9 z) (TL.g z (OpVal.gtr z z z) (TL.w z (pickFB z z z) (TL.j z z (TL.split 40 z (fun h107=> ?_) (fun h107=> ?_)))))))
  ·replace hh:=iteO_t h107 hh
   replace h107:=of_decide_eq_true h107
   refine TL.f z (TL.f z (TL.f z (TL.f z (TL.f z (TL.f z (TL.f z (TL.w z (pickTB z z z) (TL.en (TC.t z (TC.a (TL.j z z (TL.en (TC.rt 0 (S.r ?_))))))))))))))
   obtain rfl:=so hh
   exact rq [2] ⟨z,z,z⟩
  replace hh:=iteO_f h107 hh
  replace h107:=of_decide_eq_false h107
  refine TL.g z (moveI (.inl z) z) (TL.g z (OpVal.eql z z z) (TL.g z (moveB (.inl z) z) (TL.split 43 z (fun h108=> ?_) (fun h108=> ?_))))
  ·replace hh:=iteO_t h108 hh
   replace h108:=of_decide_eq_true h108
   refine TL.g z (fieldLoc z fo32_0 z) (TL.g z (loadLoc z ag9 z (i:=0) z z) (TL.g z (neqBs z z z) (TL.g z (pickTB z z z) (TL.w z (pickFB z z z) (TL.en (TC.cD z hh (fun h109 hh=> ?_) (fun h109 hh=> ?_)))))))
   ·refine TC.a (TL.j z z (TL.en (TC.rt 0 (S.r ?_))))
    obtain rfl:=so hh
    exact rq [2] ⟨z,z,z⟩
   exact TC.skip (S.n (cf ((),()) hh (Sub.pre 1 z)))
  replace hh:=iteO_f h108 hh
  replace h108:=of_decide_eq_false h108
  exact TL.f z (TL.f z (TL.f z (TL.g z (pickFB z z z) (TL.w z (pickFB z z z) (TL.en (TC.f z (TC.skip (S.n (cf ((),()) hh (Sub.pre 1 z))))))))))
 skip
 obtain ⟨_,_⟩:=g
 have hh:=hg;clear hg
 try dsimp only
 dsimp only [A8_]at hh
 refine TC.seq (TC.a (TL.i z z (TL.en (TC.block (TC.loopG (α:=(Nat)×(Unit)) (rgs [(2,1),(4,4),(49,86)]) (fun g=>[(4,.int .i64 ((g.1:Nat):Int))]) (fun g=>[Res.cells b101 #[.string (bs x0.front),.slice a0_0 x0.next.length c0_0,.slice a0_1 x0.outs.length c0_1,.slice a0_2 x0.fin.length c0_2,.slice a0_3 x0.tail.length c0_3] 32]) (fun g=>σ) (fun g=>iter (fun q:Nat=>Ar_ x0 q) g.1=some r) (fun g=>rounds (fun q:Nat=>Ar_ x0 q) g.1) (0,()) (Sub.pre 1 z) z (by repeat (first|exact trivial|refine ⟨z,?_⟩)) hh (fun g1 j1 hg1=> ?_))))))
 obtain ⟨k112,_⟩:=g1
 have hh:=hg1;clear hg1
 try dsimp only
 obtain ⟨z1,hh,hR1⟩:=iter_e hh
 dsimp only [Ar_]at hh
 refine TC.seq (TC.a (TL.i z z (TL.i z z (TL.w z (OpVal.lss z z z) (TL.en (TC.cD z hh (fun h113 hh=> ?_) (fun h113 hh=> ?_)))))))
 ·refine TC.skip (S.n (TC.seq (TC.block (TC.cutG (α:=(Unit)×(Unit)) (rgs [(2,1),(54,41)]) (fun g=>[]) (fun g=>[Res.cells b101 #[.string (bs x0.front),.slice a0_0 x0.next.length c0_0,.slice a0_1 x0.outs.length c0_1,.slice a0_2 x0.fin.length c0_2,.slice a0_3 x0.tail.length c0_3] 32]) (fun g=>σ) (fun g=>Ay_ x0 k112=some z1) ?_ (fun g j hg=> ?_)))))
  ·skip
   refine TC.a (TL.w z (fieldLoc z fo32_1 z) (TL.w z (loadLoc z ag27 z (i:=0) z z) (TL.i z z (TL.w z (indexN z underlying27 sz86 z z f0_0.isSl (by omega)) ?_))))
   obtain ⟨p114,hk114,hg114⟩:=RZ.seg f0_0 k112 (by omega)
   replace hk114:RS _ 1 eI_ (.slice p114.1 (nth x0.next k112 ([]:List Int)).length p114.2) (nth x0.next k112 ([]:List Int)):=hk114
   have hk114b:=hk114.rv.big
   refine TL.w z (OpVal.of (loadSeg0 z ag86 z hg114 z) (v':= .slice p114.1 ((nth x0.next k112 ([]:List Int)).length) p114.2) z) (TL.w z (lenC z underlying86 z) (TL.w z (OpVal.neq z z z) (TL.j z z (TL.split 61 z (fun h115=> ?_) (fun h115=> ?_)))))
   ·replace hh:=iteO_t h115 hh
    replace h115:=of_decide_eq_true h115
    refine TL.f z (TL.f z (TL.f z (TL.f z (TL.f z (TL.f z (TL.f z (TL.w z (pickTB z z z) (TL.j z z (TL.f z (TL.f z (TL.f z (TL.f z (TL.f z (TL.f z (TL.f z ?_)))))))))))))))
    refine TL.w z (pickTB z z z) (TL.j z z (TL.f z (TL.f z (TL.f z (TL.f z (TL.f z (TL.f z (TL.f z (TL.f z (TL.f z (TL.f z (TL.f z (TL.f z (TL.f z (TL.f z ?_)))))))))))))))
    refine TL.w z (pickTB z z z) (TL.en (TC.t z (TC.a (TL.j z z (TL.en (TC.rt 0 (S.r (B.r (S.r (S.r ?_))))))))))
    replace hh:=fin_x hR1 hh
    refine B.r (S.r ?_)
    obtain rfl:=so hh
    exact rq [2] ⟨z,z,z⟩
   replace hh:=iteO_f h115 hh
   replace h115:=of_decide_eq_false h115
   refine TL.g z (fieldLoc z fo32_2 z) (TL.g z (loadLoc z ag28 z (i:=0) z z) (TL.g z (moveI (.inl z) z) ?_))
   have u61:=grd_c hh
   replace hh:=grd_t hh
   refine TL.g z (indexN z underlying28 sz30 z z f0_1.isSl (by omega)) ?_
   obtain ⟨p116,hk116,hg116⟩:=RZ.seg f0_1 k112 (by omega)
   replace hk116:RS _ 1 eS_ (.slice p116.1 (nth x0.outs k112 ([]:List (List UInt8))).length p116.2) (nth x0.outs k112 ([]:List (List UInt8))):=hk116
   have hk116b:=hk116.rv.big
   refine TL.g z (OpVal.of (loadSeg0 z ag30 z hg116 z) (v':= .slice p116.1 ((nth x0.outs k112 ([]:List (List UInt8))).length) p116.2) z) (TL.g z (lenC z underlying30 z) (TL.g z (OpVal.neq z z z) (TL.w z (pickFB z z z) (TL.j z z (TL.split 70 z (fun h117=> ?_) (fun h117=> ?_))))))
   ·replace hh:=iteO_t h117 hh
    replace h117:=of_decide_eq_true h117
    refine TL.f z (TL.f z (TL.f z (TL.f z (TL.f z (TL.f z (TL.f z (TL.w z (pickTB z z z) (TL.j z z (TL.f z (TL.f z (TL.f z (TL.f z (TL.f z (TL.f z (TL.f z ?_)))))))))))))))
    refine TL.f z (TL.f z (TL.f z (TL.f z (TL.f z (TL.f z (TL.f z (TL.w z (pickTB z z z) (TL.en (TC.t z (TC.a (TL.j z z (TL.en (TC.rt 0 (S.r (B.r ?_)))))))))))))))
    refine S.r (S.r ?_)
    replace hh:=fin_x hR1 hh
    refine B.r (S.r ?_)
    obtain rfl:=so hh
    exact rq [2] ⟨z,z,z⟩
   replace hh:=iteO_f h117 hh
   replace h117:=of_decide_eq_false h117
   refine TL.g z (fieldLoc z fo32_4 z) (TL.g z (loadLoc z ag30 z (i:=0) z z) (TL.g z (moveI (.inl z) z) ?_))
   have u70:=grd_c hh
   replace hh:=grd_t hh
   refine TL.g z (indexN z underlying30 sz9 z z f0_3.rv.sl (by omega)) (TL.g z (loadS1 ([]:List UInt8) z ag9 z f0_3 (by omega) z) (TL.g z (lenBs z underlying9 z) (TL.g z (OpVal.gtr z z z) (TL.w z (pickFB z z z) (TL.j z z (TL.split 79 z (fun h118=> ?_) (fun h118=> ?_)))))))
   ·replace hh:=iteO_t h118 hh
    replace h118:=of_decide_eq_true h118
    refine TL.f z (TL.f z (TL.f z (TL.f z (TL.f z (TL.f z (TL.f z (TL.f z (TL.f z (TL.f z (TL.f z (TL.f z (TL.f z (TL.f z (TL.w z (pickTB z z z) (TL.en ?_)))))))))))))))
    refine TC.t z (TC.a (TL.j z z (TL.en (TC.rt 0 (S.r (B.r (S.r (S.r ?_))))))))
    replace hh:=fin_x hR1 hh
    refine B.r (S.r ?_)
    obtain rfl:=so hh
    exact rq [2] ⟨z,z,z⟩
   replace hh:=iteO_f h118 hh
   replace h118:=of_decide_eq_false h118
   refine TL.g z (fieldLoc z fo32_3 z) (TL.g z (loadLoc z ag29 z (i:=0) z z) (TL.g z (moveI (.inl z) z) ?_))
   have u79:=grd_c hh
   replace hh:=grd_t hh
   refine TL.g z (indexN z underlying29 sz4 z z f0_2.rv.sl (by omega)) (TL.g z (loadS1 false z ag4 z f0_2 (by omega) z) (TL.g z (OpVal.not z z) (TL.g z (moveB (.inl z) z) (TL.split 86 z (fun h119=> ?_) (fun h119=> ?_)))))
   ·replace hh:=iteO_t h119 hh
    refine TL.g z (fieldLoc z fo32_4 z) (TL.g z (loadLoc z ag30 z (i:=0) z z) (TL.g z (moveI (.inl z) z) ?_))
    have u86:=grd_c hh
    replace hh:=grd_t hh
    refine TL.g z (indexN z underlying30 sz9 z z f0_3.rv.sl (by omega)) (TL.g z (loadS1 ([]:List UInt8) z ag9 z f0_3 (by omega) z) (TL.g z (neqBs z z z) (TL.g z (pickTB z z z) (TL.w z (pickFB z z z) (TL.en (TC.cD z hh (fun h120 hh=> ?_) (fun h120 hh=> ?_)))))))
    ·refine TC.a (TL.j z z (TL.en (TC.rt 0 (S.r (B.r (S.r (S.r ?_)))))))
     replace hh:=fin_x hR1 hh
     refine B.r (S.r ?_)
     obtain rfl:=so hh
     exact rq [2] ⟨z,z,z⟩
    exact TC.skip (S.n (cf ((),()) hh (Sub.pre 1 z)))
   replace hh:=iteO_f h119 hh
   exact TL.f z (TL.f z (TL.f z (TL.f z (TL.f z (TL.f z (TL.g z (pickFB z z z) (TL.w z (pickFB z z z) (TL.en (TC.f z (TC.skip (S.n (cf ((),()) hh (Sub.pre 1 z)))))))))))))
  skip
  obtain ⟨_,_⟩:=g
  have hh:=hg;clear hg
  try dsimp only
  dsimp only [Ay_]at hh
  refine TC.a (TL.i z z (TL.en (TC.block (TC.loopG (α:=(Nat)×(Unit)) (rgs [(2,1),(5,3),(95,40)]) (fun g=>[(5,.int .i64 ((g.1:Nat):Int))]) (fun g=>[Res.cells b101 #[.string (bs x0.front),.slice a0_0 x0.next.length c0_0,.slice a0_1 x0.outs.length c0_1,.slice a0_2 x0.fin.length c0_2,.slice a0_3 x0.tail.length c0_3] 32]) (fun g=>σ) (fun g=>iter (fun q:Nat=>Ap_ x0 k112 q) g.1=some z1) (fun g=>rounds (fun q:Nat=>Ap_ x0 k112 q) g.1) (0,()) (Sub.pre 1 z) z (by repeat (first|exact trivial|refine ⟨z,?_⟩)) hh (fun g2 j2 hg2=> ?_)))))
  obtain ⟨k123,_⟩:=g2
  have hh:=hg2;clear hg2
  try dsimp only
  obtain ⟨z2,hh,hR2⟩:=iter_e hh
  dsimp only [Ap_]at hh
  refine TC.seq (TC.a (TL.i z z (TL.w z (OpVal.lss z z z) (TL.en (TC.cD z hh (fun h124 hh=> ?_) (fun h124 hh=> ?_))))))
  ·refine TC.skip (S.n (TC.cutG (α:=(Unit)×(Unit)) (rgs [(2,1),(6,2),(99,36)]) (fun g=>[]) (fun g=>[Res.cells b101 #[.string (bs x0.front),.slice a0_0 x0.next.length c0_0,.slice a0_1 x0.outs.length c0_1,.slice a0_2 x0.fin.length c0_2,.slice a0_3 x0.tail.length c0_3] 32]) (fun g=>σ) (fun g=>A7_ k123=some z2) ?_ (fun g j hg=> ?_)))
   ·skip
    refine TC.block (TC.a (TL.w z (fieldLoc z fo32_1 z) (TL.w z (loadLoc z ag27 z (i:=0) z z) (TL.i z z (TL.w z (indexN z underlying27 sz86 z z f0_0.isSl (by omega)) ?_)))))
    obtain ⟨p125,hk125,hg125⟩:=RZ.seg f0_0 k112 (by omega)
    replace hk125:RS _ 1 eI_ (.slice p125.1 (nth x0.next k112 ([]:List Int)).length p125.2) (nth x0.next k112 ([]:List Int)):=hk125
    have hk125b:=hk125.rv.big
    refine TL.w z (OpVal.of (loadSeg0 z ag86 z hg125 z) (v':= .slice p125.1 ((nth x0.next k112 ([]:List Int)).length) p125.2) z) (TL.i z z ?_)
    have u101:=grd_c hh
    replace hh:=grd_t hh
    refine TL.w z (indexN z underlying86 sz3 z z hk125.rv.sl (by omega)) (TL.w z (loadS1 (0:Int) z ag3 z hk125 (by omega) z) (TL.i z z (TL.en (TC.a (TL.w z (fieldLoc z fo32_2 z) (TL.w z (loadLoc z ag28 z (i:=0) z z) (TL.i z z ?_)))))))
    have u107:=grd_c hh
    replace hh:=grd_t hh
    refine TL.w z (indexN z underlying28 sz30 z z f0_1.isSl (by omega)) ?_
    obtain ⟨p126,hk126,hg126⟩:=RZ.seg f0_1 k112 (by omega)
    replace hk126:RS _ 1 eS_ (.slice p126.1 (nth x0.outs k112 ([]:List (List UInt8))).length p126.2) (nth x0.outs k112 ([]:List (List UInt8))):=hk126
    have hk126b:=hk126.rv.big
    refine TL.w z (OpVal.of (loadSeg0 z ag30 z hg126 z) (v':= .slice p126.1 ((nth x0.outs k112 ([]:List (List UInt8))).length) p126.2) z) (TL.i z z ?_)
    have u110:=grd_c hh
    replace hh:=grd_t hh
    refine TL.w z (indexN z underlying30 sz9 z z hk126.rv.sl (by omega)) (TL.w z (loadS1 ([]:List UInt8) z ag9 z hk126 (by omega) z) (TL.w z (moveStr (.inr z) z) (TL.en (TC.a (TL.i z z (TL.w z (OpVal.lss z z z) (TL.j z z (TL.split 117 z (fun h127=> ?_) (fun h127=> ?_)))))))))
    ·replace hh:=iteO_t h127 hh
     replace h127:=of_decide_eq_true h127
     refine TL.f z (TL.f z (TL.f z (TL.w z (pickTB z z z) (TL.j z z (TL.f z (TL.f z (TL.f z (TL.f z (TL.f z (TL.f z (TL.w z (pickTB z z z) (TL.j z z (TL.f z (TL.f z (TL.f z ?_)))))))))))))))
     refine TL.w z (pickTB z z z) (TL.en (TC.t z (TC.a (TL.j z z (TL.en (TC.rt 0 (B.r (S.r (S.r ?_)))))))))
     replace hh:=fin_x hR2 hh
     refine B.r (B.r (S.r (S.r ?_)))
     replace hh:=fin_x hR1 hh
     refine B.r (S.r ?_)
     obtain rfl:=so hh
     exact rq [2] ⟨z,z,z⟩
    replace hh:=iteO_f h127 hh
    replace h127:=of_decide_eq_false h127
    refine TL.g z (moveI (.inl z) z) (TL.g z (moveI (.inl z) z) (TL.g z (OpVal.geq z z z) (TL.w z (pickFB z z z) (TL.j z z (TL.split 122 z (fun h128=> ?_) (fun h128=> ?_))))))
    ·replace hh:=iteO_t h128 hh
     replace h128:=of_decide_eq_true h128
     refine TL.f z (TL.f z (TL.f z (TL.f z (TL.f z (TL.f z (TL.w z (pickTB z z z) (TL.j z z (TL.f z (TL.f z (TL.f z (TL.w z (pickTB z z z) (TL.en (TC.t z (TC.a (TL.j z z ?_)))))))))))))))
     refine TL.en (TC.rt 0 (B.r (S.r (S.r ?_))))
     replace hh:=fin_x hR2 hh
     refine B.r (B.r (S.r (S.r ?_)))
     replace hh:=fin_x hR1 hh
     refine B.r (S.r ?_)
     obtain rfl:=so hh
     exact rq [2] ⟨z,z,z⟩
    replace hh:=iteO_f h128 hh
    replace h128:=of_decide_eq_false h128
    refine TL.g z (moveI (.inl z) z) (TL.g z (OpVal.eql z z z) (TL.g z (moveB (.inl z) z) (TL.split 125 z (fun h129=> ?_) (fun h129=> ?_))))
    ·replace hh:=iteO_t h129 hh
     replace h129:=of_decide_eq_true h129
     refine TL.g z (moveStr (.inl z) z) (TL.g z (neqBs z z z) (TL.g z (pickTB z z z) (TL.w z (pickFB z z z) (TL.j z z (TL.split 130 z (fun h130=> ?_) (fun h130=> ?_))))))
     ·replace hh:=iteO_t h130 hh
      replace h130:=of_decide_eq_true h130
      refine TL.f z (TL.f z (TL.f z (TL.w z (pickTB z z z) (TL.en (TC.t z (TC.a (TL.j z z (TL.en (TC.rt 0 (B.r (S.r (S.r ?_))))))))))))
      replace hh:=fin_x hR2 hh
      refine B.r (B.r (S.r (S.r ?_)))
      replace hh:=fin_x hR1 hh
      refine B.r (S.r ?_)
      obtain rfl:=so hh
      exact rq [2] ⟨z,z,z⟩
     replace hh:=iteO_f h130 hh
     replace h130:=of_decide_eq_false h130
     refine TL.g z (moveStr (.inl z) z) (TL.g z (lenBs z underlying9 z) (TL.g z (OpVal.gtr z z z) (TL.w z (pickFB z z z) (TL.en (TC.cD z hh (fun h131 hh=> ?_) (fun h131 hh=> ?_))))))
     ·refine TC.a (TL.j z z (TL.en (TC.rt 0 (B.r (S.r (S.r ?_))))))
      replace hh:=fin_x hR2 hh
      refine B.r (B.r (S.r (S.r ?_)))
      replace hh:=fin_x hR1 hh
      refine B.r (S.r ?_)
      obtain rfl:=so hh
      exact rq [2] ⟨z,z,z⟩
     exact TC.skip (B.n (S.n (cf ((),()) hh (Sub.pre 1 z))))
    replace hh:=iteO_f h129 hh
    replace h129:=of_decide_eq_false h129
    refine TL.f z (TL.f z (TL.g z (pickFB z z z) (TL.w z (pickFB z z z) (TL.j z z (TL.g z (moveStr (.inl z) z) (TL.g z (lenBs z underlying9 z) (TL.g z (OpVal.gtr z z z) (TL.w z (pickFB z z z) (TL.en (TC.cD z hh (fun h132 hh=> ?_) (fun h132 hh=> ?_)))))))))))
    ·refine TC.a (TL.j z z (TL.en (TC.rt 0 (B.r (S.r (S.r ?_))))))
     replace hh:=fin_x hR2 hh
     refine B.r (B.r (S.r (S.r ?_)))
     replace hh:=fin_x hR1 hh
     refine B.r (S.r ?_)
     obtain rfl:=so hh
     exact rq [2] ⟨z,z,z⟩
    exact TC.skip (B.n (S.n (cf ((),()) hh (Sub.pre 1 z))))
   skip
   obtain ⟨_,_⟩:=g
   have hh:=hg;clear hg
   try dsimp only
   dsimp only [A7_]at hh
   refine TC.region (TL.i z z (TL.w z (OpVal.succ z z z (by omega)) (TL.i z z (TL.en ?_))))
   obtain ⟨hh,hlt133⟩:=nxt_x hR2 hh
   exact lf ((k123+1),()) hlt133 hh (Sub.pre 1 z)
  refine TC.exit (S.x (S.x ?_))
  replace hh:=fin_x hR2 hh
  refine TC.exitHere (B.n (S.n (TC.region (TL.i z z (TL.w z (OpVal.succ z z z (by omega)) (TL.i z z (TL.en ?_)))))))
  obtain ⟨hh,hlt134⟩:=nxt_x hR1 hh
  exact lf ((k112+1),()) hlt134 hh (Sub.pre 1 z)
 refine TC.exit (S.x (S.x ?_))
 replace hh:=fin_x hR1 hh
 refine TC.exitHere (S.n (TC.a (TL.j z z (TL.en (TC.rt 0 ?_)))))
 obtain rfl:=so hh
 exact rq [2] ⟨z,z,z⟩
def Aq_(x1:List UInt8)(x0:Seq)(s111:List UInt8)(i112:Int)(k113:Nat):Option (((List UInt8)×Int×Nat)⊕((List UInt8)×Int×Bool×Int)):=
 iteO (decide (((k113:Nat):Int)<((x1.length:Nat):Int))) (grd (0≤i112∧i112<(x0.next.length:Int)) (grd ((nth x1 k113 (0:UInt8)).toNat<(nth x0.next i112.toNat ([]:List Int)).length) (iteO (decide ((nth (nth x0.next i112.toNat ([]:List Int)) ((nth x1 k113 (0:UInt8)).toNat) (0:Int))<0)) (fin (some (([]:List UInt8),((k113:Nat):Int),false,0))) (grd (0≤i112∧i112<(x0.outs.length:Int)) (grd ((nth x1 k113 (0:UInt8)).toNat<(nth x0.outs i112.toNat ([]:List (List UInt8))).length) (grd (s111.length+(nth (nth x0.outs i112.toNat ([]:List (List UInt8))) ((nth x1 k113 (0:UInt8)).toNat) ([]:List UInt8)).length≤9223372036854775807) (grd (0≤i112∧i112<(x0.next.length:Int)) (grd ((nth x1 k113 (0:UInt8)).toNat<(nth x0.next i112.toNat ([]:List Int)).length) (nxt ((s111++(nth (nth x0.outs i112.toNat ([]:List (List UInt8))) ((nth x1 k113 (0:UInt8)).toNat) ([]:List UInt8))),(nth (nth x0.next i112.toNat ([]:List Int)) ((nth x1 k113 (0:UInt8)).toNat) (0:Int)),(k113+1))))))))))) (fin (grd (0≤i112∧i112<(x0.fin.length:Int)) (iteO (!(nth x0.fin i112.toNat false)) (some (([]:List UInt8),((x1.length:Nat):Int),false,0)) (grd (0≤i112∧i112<(x0.tail.length:Int)) (grd (s111.length+(nth x0.tail i112.toNat ([]:List UInt8)).length≤9223372036854775807) (some ((s111++(nth x0.tail i112.toNat ([]:List UInt8))),((x1.length:Nat):Int),true,0)))))))
def B6_(x0:Seq)(x1:List UInt8):Option ((List UInt8)×Int×Bool×Int):=
 grd (x1.length≤281474976710656) (bnd (Bd_ x0) (fun v7=>iteO (!v7) (some (([]:List UInt8),0,false,1)) (iteO (decide (((x0.next.length:Nat):Int)=0)) (some (([]:List UInt8),0,false,0)) (iter (fun q:(List UInt8)×Int×Nat=>Aq_ x1 x0 q.1 q.2.1 q.2.2) (x0.front,0,0)))))
theorem E2_{x0:Seq}{x1:List UInt8}(f0_0:RZ σ (pkSl 1 eI_ eIl_) (.slice a0_0 x0.next.length c0_0) x0.next)(f0_1:RZ σ (pkSl 1 eS_ eSl_) (.slice a0_1 x0.outs.length c0_1) x0.outs)(f0_2:RS σ 1 encB (.slice a0_2 x0.fin.length c0_2) x0.fin)(f0_3:RS σ 1 eS_ (.slice a0_3 x0.tail.length c0_3) x0.tail){r:(List UInt8)×Int×Bool×Int}(hh:B6_ x0 x1=some r):
  Con Tryz.prog 20 #[.agg #[.string (bs x0.front),.slice a0_0 x0.next.length c0_0,.slice a0_1 x0.outs.length c0_1,.slice a0_2 x0.fin.length c0_2,.slice a0_3 x0.tail.length c0_3],.string (bs x1)] σ [] (PureP (.tuple #[.string (bs r.1),.int .i64 r.2.1,.bool r.2.2.1,.int .i64 r.2.2.2]) σ):=by
 dsimp only [B6_]at hh
 have f0_0b:=f0_0.big
 have f0_1b:=f0_1.big
 have f0_2b:=f0_2.rv.big
 have f0_3b:=f0_3.rv.big
 refine Con.mk (n:=76) Tryz.func20 z z z (fun w0=> ?_)
 have x1b:=grd_c hh
 replace hh:=grd_t hh
 refine TC.a (TL.op z (boxA z z z z (fun b101=> ?_)))
 refine TL.w z (moveStr (.inr z) z) (TL.i z z (TL.j z z (TL.i z z (TL.en (TC.seq (TC.a (TL.w z (loadAll z ag32 sz32 z (i:=0) z z) ?_)))))))
 obtain ⟨v7,u7,hh⟩:=bnd_e hh
 refine TL.op z (callP (Cx_ (x0:=x0) f0_0 f0_1 f0_2 f0_3 u7) z z pf55 z z z ?_)
 refine TL.w z (OpVal.not z z) (TL.en (TC.cB z hh (fun h103 hh=> ?_) (fun h103 hh=> ?_)))
 ·refine TC.a (TL.w z (moveStr (.inr z) z) (TL.i z z (TL.j z z (TL.i z z (TL.en (TC.rt 0 (S.r ?_)))))))
  obtain rfl:=so hh
  exact rq [4,5,6,7] ⟨z,z,z⟩
 refine TC.skip (S.n (TC.seq (TC.a (TL.w z (fieldLoc z fo32_1 z) (TL.w z (loadLoc z ag27 z (i:=0) z z) (TL.w z (lenC z underlying27 z) (TL.w z (OpVal.eql z z z) (TL.en (TC.cD z hh (fun h104 hh=> ?_) (fun h104 hh=> ?_))))))))))
 ·refine TC.a (TL.w z (moveStr (.inr z) z) (TL.i z z (TL.j z z (TL.i z z (TL.en (TC.rt 0 (S.r ?_)))))))
  obtain rfl:=so hh
  exact rq [4,5,6,7] ⟨z,z,z⟩
 refine TC.skip (S.n (TC.a (TL.w z (fieldLoc z fo32_0 z) (TL.w z (loadLoc z ag9 z (i:=0) z z) (TL.w z (moveStr (.inr z) z) (TL.en (TC.a (TL.i z z (TL.en (TC.seq (TC.a (TL.i z z (TL.en (TC.block (TC.loopG (α:=((List UInt8)×Int×Nat)×(Unit)) (rgs [(4,8),(21,38)]) (fun g=>[(8,.string (bs g.1.1)),(9,.int .i64 g.1.2.1),(10,.int .i64 ((g.1.2.2:Nat):Int))]) (fun g=>[Res.cells b101 #[.string (bs x0.front),.slice a0_0 x0.next.length c0_0,.slice a0_1 x0.outs.length c0_1,.slice a0_2 x0.fin.length c0_2,.slice a0_3 x0.tail.length c0_3] 32]) (fun g=>σ) (fun g=>iter (fun q:(List UInt8)×Int×Nat=>Aq_ x1 x0 q.1 q.2.1 q.2.2) g.1=some r) (fun g=>rounds (fun q:(List UInt8)×Int×Nat=>Aq_ x1 x0 q.1 q.2.1 q.2.2) g.1) ((x0.front,0,0),()) (Sub.pre 1 z) z (by repeat (first|exact trivial|refine ⟨z,?_⟩)) hh (fun g1 j1 hg1=> ?_))))))))))))))))
 obtain ⟨⟨s111,i112,k113⟩,_⟩:=g1
 have hh:=hg1;clear hg1
 try dsimp only
 obtain ⟨z1,hh,hR1⟩:=iter_e hh
 dsimp only [Aq_]at hh
 refine TC.seq (TC.a (TL.i z z (TL.w z (moveStr (.inl z) z) (TL.w z (lenBs z underlying9 z) (TL.w z (OpVal.lss z z z) (TL.en (TC.cD z hh (fun h114 hh=> ?_) (fun h114 hh=> ?_))))))))
 ·refine TC.skip (S.n (TC.seq (TC.block (TC.a (TL.w z (moveStr (.inl z) z) (TL.i z z (TL.w z (indexBs z underlying9 z z (by omega)) (TL.w z (convN z underlying5 underlying3 z (by have:=UInt8.toNat_lt (nth x1 k113 (0:UInt8));simp only [kmax];omega)) (TL.i z z (TL.en (TC.seq (TC.a (TL.w z (fieldLoc z fo32_1 z) (TL.w z (loadLoc z ag27 z (i:=0) z z) (TL.i z z ?_)))))))))))))))
  have u38:=grd_c hh
  replace hh:=grd_t hh
  refine TL.w z (OpVal.index z underlying27 sz86 z z f0_0.isSl u38.1 u38.2) ?_
  obtain ⟨p115,hk115,hg115⟩:=RZ.seg f0_0 i112.toNat (by omega)
  replace hk115:RS _ 1 eI_ (.slice p115.1 (nth x0.next i112.toNat ([]:List Int)).length p115.2) (nth x0.next i112.toNat ([]:List Int)):=hk115
  have hk115b:=hk115.rv.big
  refine TL.w z (OpVal.of (loadSeg0 z ag86 z hg115 z) (v':= .slice p115.1 ((nth x0.next i112.toNat ([]:List Int)).length) p115.2) z) (TL.i z z ?_)
  have u41:=grd_c hh
  replace hh:=grd_t hh
  refine TL.w z (indexN z underlying86 sz3 z z hk115.rv.sl (by omega)) (TL.w z (loadS1 (0:Int) z ag3 z hk115 (by omega) z) (TL.w z (OpVal.lss z z z) (TL.en (TC.cD z hh (fun h116 hh=> ?_) (fun h116 hh=> ?_)))))
  ·refine TC.a (TL.i z z (TL.w z (moveStr (.inr z) z) (TL.i z z (TL.j z z (TL.i z z (TL.en (TC.rt 0 (S.r (B.r (S.r (S.r ?_)))))))))))
   replace hh:=fin_x hR1 hh
   refine B.r (S.r ?_)
   obtain rfl:=so hh
   exact rq [4,5,6,7] ⟨z,z,z⟩
  refine TC.skip (S.n (TC.a (TL.w z (moveStr (.inl z) z) (TL.w z (fieldLoc z fo32_2 z) (TL.w z (loadLoc z ag28 z (i:=0) z z) (TL.i z z ?_))))))
  have u53:=grd_c hh
  replace hh:=grd_t hh
  refine TL.w z (OpVal.index z underlying28 sz30 z z f0_1.isSl u53.1 u53.2) ?_
  obtain ⟨p117,hk117,hg117⟩:=RZ.seg f0_1 i112.toNat (by omega)
  replace hk117:RS _ 1 eS_ (.slice p117.1 (nth x0.outs i112.toNat ([]:List (List UInt8))).length p117.2) (nth x0.outs i112.toNat ([]:List (List UInt8))):=hk117
  have hk117b:=hk117.rv.big
  refine TL.w z (OpVal.of (loadSeg0 z ag30 z hg117 z) (v':= .slice p117.1 ((nth x0.outs i112.toNat ([]:List (List UInt8))).length) p117.2) z) (TL.i z z ?_)
  have u56:=grd_c hh
  replace hh:=grd_t hh
  refine TL.w z (indexN z underlying30 sz9 z z hk117.rv.sl (by omega)) (TL.w z (loadS1 ([]:List UInt8) z ag9 z hk117 (by omega) z) ?_)
  have u58:=grd_c hh
  replace hh:=grd_t hh
  refine TL.w z (catBs z z z u58) (TL.w z (moveStr (.inr z) z) (TL.en (TC.region (TL.w z (fieldLoc z fo32_1 z) (TL.w z (loadLoc z ag27 z (i:=0) z z) (TL.i z z ?_))))))
  have u63:=grd_c hh
  replace hh:=grd_t hh
  refine TL.w z (OpVal.index z underlying27 sz86 z z f0_0.isSl u63.1 u63.2) ?_
  obtain ⟨p118,hk118,hg118⟩:=RZ.seg f0_0 i112.toNat (by omega)
  replace hk118:RS _ 1 eI_ (.slice p118.1 (nth x0.next i112.toNat ([]:List Int)).length p118.2) (nth x0.next i112.toNat ([]:List Int)):=hk118
  have hk118b:=hk118.rv.big
  refine TL.w z (OpVal.of (loadSeg0 z ag86 z hg118 z) (v':= .slice p118.1 ((nth x0.next i112.toNat ([]:List Int)).length) p118.2) z) (TL.i z z ?_)
  have u66:=grd_c hh
  replace hh:=grd_t hh
  refine TL.w z (indexN z underlying86 sz3 z z hk118.rv.sl (by omega)) (TL.w z (loadS1 (0:Int) z ag3 z hk118 (by omega) z) (TL.i z z (TL.nil (B.n (S.n (TC.region (TL.i z z (TL.w z (OpVal.succ z z z (by omega)) (TL.i z z (TL.en ?_))))))))))
  obtain ⟨hh,hlt119⟩:=nxt_x hR1 hh
  exact lf (((s111++(nth (nth x0.outs i112.toNat ([]:List (List UInt8))) ((nth x1 k113 (0:UInt8)).toNat) ([]:List UInt8))),(nth (nth x0.next i112.toNat ([]:List Int)) ((nth x1 k113 (0:UInt8)).toNat) (0:Int)),(k113+1)),()) hlt119 hh (Sub.pre 1 z)
 refine TC.exit (S.x (S.x ?_))
 replace hh:=fin_x hR1 hh
 refine TC.exitHere (S.n (TC.seq (TC.a (TL.w z (fieldLoc z fo32_3 z) (TL.w z (loadLoc z ag29 z (i:=0) z z) (TL.i z z ?_))))))
 have u75:=grd_c hh
 replace hh:=grd_t hh
 refine TL.w z (OpVal.index z underlying29 sz4 z z f0_2.rv.sl u75.1 u75.2) (TL.w z (loadS1 false z ag4 z f0_2 (by omega) z) (TL.w z (OpVal.not z z) (TL.en (TC.cB z hh (fun h120 hh=> ?_) (fun h120 hh=> ?_)))))
 ·refine TC.a (TL.w z (moveStr (.inl z) z) (TL.w z (lenBs z underlying9 z) (TL.w z (moveStr (.inr z) z) (TL.i z z (TL.j z z (TL.i z z (TL.en (TC.rt 0 (S.r ?_)))))))))
  obtain rfl:=so hh
  exact rq [4,5,6,7] ⟨z,z,z⟩
 refine TC.skip (S.n (TC.a (TL.w z (moveStr (.inl z) z) (TL.w z (fieldLoc z fo32_4 z) (TL.w z (loadLoc z ag30 z (i:=0) z z) (TL.i z z ?_))))))
 have u88:=grd_c hh
 replace hh:=grd_t hh
 refine TL.w z (OpVal.index z underlying30 sz9 z z f0_3.rv.sl u88.1 u88.2) (TL.w z (loadS1 ([]:List UInt8) z ag9 z f0_3 (by omega) z) ?_)
 have u90:=grd_c hh
 replace hh:=grd_t hh
 refine TL.w z (catBs z z z u90) (TL.w z (moveStr (.inl z) z) (TL.w z (lenBs z underlying9 z) (TL.w z (moveStr (.inr z) z) (TL.i z z (TL.j z z (TL.i z z (TL.en (TC.rt 0 ?_))))))))
 obtain rfl:=so hh
 exact rq [4,5,6,7] ⟨z,z,z⟩
def copyCheckF(x0:SB):Option (SB):=
 some (⟨x0.buf⟩:SB)
theorem copyCheckF_con{x0:SB}{r:SB}(hh:copyCheckF x0=some r):
  Con Tryz.prog 94 #[loc b0_0 0] σ [Res.cells b0_0 #[badV false b0_0,.slice a0_1 x0.buf.length c0_2] 92,Res.rowS 5 1 encU8 (.slice a0_1 x0.buf.length c0_2) x0.buf] (fun v σ' H'=> ∃(uo1:Bool), ∃ao2 co3,v= .tuple #[]∧σ=σ'∧H'=[Res.cells b0_0 #[badV uo1 b0_0,.slice ao2 r.buf.length co3] 92,Res.rowS 5 1 encU8 (.slice ao2 r.buf.length co3) r.buf]):=by
 dsimp only [copyCheckF]at hh
 refine Con.mk (n:=20) Tryz.func94 z z z (fun w0=> ?_)
 refine TC.a (TL.l z z (TL.w z (nilCheckLoc z z) (TL.w z (fieldLoc z fo92_0 z) (TL.w z (loadLoc z ag90 z (i:=0) z z) (TL.w z (eqlNil z underlying90 z z) (TL.en (TC.t z (TC.region (TL.l z z (TL.l z z (TL.w z (cvtUns z underlying90 underlying188 sz92 (by decide) z (i:=0) z z (by simp)) (TL.w z (noEsc z z Tryz.func133 (by kernel_rfl) (by kernel_rfl) (by kernel_rfl) (by kernel_rfl) z) (TL.w z (cvtPtr z underlying188 underlying90 sz92 z (i:=0) z z (by kernel_rfl)) (TL.w z (nilCheckLoc z z) (TL.w z (fieldLoc z fo92_0 z) ?_)))))))))))))))
 refine TL.op z (storeLoc z sz90 z z z z z ?_)
 refine TL.nil ?_
 obtain rfl:=so hh
 exact RetOk.mk' (rs:=[]) [Res.cells b0_0 #[badV true b0_0,.slice a0_1 x0.buf.length c0_2] 92,Res.rowS 5 1 encU8 (.slice a0_1 x0.buf.length c0_2) x0.buf] z (.inr z) RVs.nil (List.sublist_append_left _ _) ⟨true,a0_1,c0_2,z,z,z⟩
def copyCheckT(x0:SB):Option (SB):=
 some (⟨x0.buf⟩:SB)
theorem copyCheckT_con{x0:SB}{r:SB}(hh:copyCheckT x0=some r):
  Con Tryz.prog 94 #[loc b0_0 0] σ [Res.cells b0_0 #[badV true b0_0,.slice a0_1 x0.buf.length c0_2] 92,Res.rowS 5 1 encU8 (.slice a0_1 x0.buf.length c0_2) x0.buf] (fun v σ' H'=> ∃(uo1:Bool), ∃ao2 co3,v= .tuple #[]∧σ=σ'∧H'=[Res.cells b0_0 #[badV uo1 b0_0,.slice ao2 r.buf.length co3] 92,Res.rowS 5 1 encU8 (.slice ao2 r.buf.length co3) r.buf]):=by
 dsimp only [copyCheckT]at hh
 refine Con.mk (n:=20) Tryz.func94 z z z (fun w0=> ?_)
 refine TC.a (TL.l z z (TL.w z (nilCheckLoc z z) (TL.w z (fieldLoc z fo92_0 z) (TL.w z (loadLoc z ag90 z (i:=0) z z) (TL.w z (eqlNil z underlying90 z z) (TL.en (TC.f z (TC.a (TL.l z z (TL.w z (nilCheckLoc z z) (TL.w z (fieldLoc z fo92_0 z) (TL.w z (loadLoc z ag90 z (i:=0) z z) (TL.l z z (TL.w z (neqSelf z underlying90 sz92 z z) (TL.en ?_)))))))))))))))
 refine TC.f z (TC.skip ?_)
 obtain rfl:=so hh
 exact RetOk.mk' (rs:=[]) [Res.cells b0_0 #[badV true b0_0,.slice a0_1 x0.buf.length c0_2] 92,Res.rowS 5 1 encU8 (.slice a0_1 x0.buf.length c0_2) x0.buf] z (.inr z) RVs.nil (List.sublist_append_left _ _) ⟨true,a0_1,c0_2,z,z,z⟩
def copyCheck(x0:SB):Option SB:=copyCheckF x0
theorem copyCheck_con{x0:SB}{u0_1:Bool}{r:SB}(hh:copyCheck x0=some r):
  Con Tryz.prog 94 #[loc b0_0 0] σ [Res.cells b0_0 #[badV u0_1 b0_0,.slice a0_2 x0.buf.length c0_3] 92,Res.rowS 5 1 encU8 (.slice a0_2 x0.buf.length c0_3) x0.buf] (fun v σ' H'=> ∃(uo1:Bool), ∃ao2 co3,v= .tuple #[]∧σ=σ'∧H'=[Res.cells b0_0 #[badV uo1 b0_0,.slice ao2 r.buf.length co3] 92,Res.rowS 5 1 encU8 (.slice ao2 r.buf.length co3) r.buf]):=by
 cases u0_1
 ·exact copyCheckF_con hh
 exact copyCheckT_con hh
def writeS(x0:SB)(x1:List UInt8):Option (Int×Unit×SB):=
 grd (x1.length≤281474976710656) (bnd (copyCheck (⟨x0.buf⟩:SB)) (fun v4=>grd (v4.buf.length+x1.length≤140737488355328) (some (((x1.length:Nat):Int),(),(⟨(v4.buf++x1)⟩:SB)))))
theorem writeS_con{x0:SB}{u0_1:Bool}{x1:List UInt8}{r:Int×Unit×SB}(hh:writeS x0 x1=some r):
  Con Tryz.prog 53 #[loc b0_0 0,.string (bs x1)] σ [Res.cells b0_0 #[badV u0_1 b0_0,.slice a0_2 x0.buf.length c0_3] 92,Res.rowS 5 1 encU8 (.slice a0_2 x0.buf.length c0_3) x0.buf] (fun v σ' H'=> ∃(uo1:Bool), ∃ao2 co3,v= .tuple #[.int .i64 r.1,.nilIface]∧σ=σ'∧H'=[Res.cells b0_0 #[badV uo1 b0_0,.slice ao2 r.2.2.buf.length co3] 92,Res.rowS 5 1 encU8 (.slice ao2 r.2.2.buf.length co3) r.2.2.buf]):=by
 dsimp only [writeS]at hh
 refine Con.mk (n:=19) Tryz.func53 z z z (fun w0=> ?_)
 have x1b:=grd_c hh
 replace hh:=grd_t hh
 refine TC.a (TL.i z z (TL.w z (OpVal.mv (.inr z)) (TL.en (TC.a (TL.l z z (TL.front 1 z z (TL.front 1 z z ?_)))))))
 obtain ⟨v4,u4,hh⟩:=bnd_e hh
 refine TL.op z (OpOk.call (copyCheck_con u4) z z pf94 z z z z ?_)
 rintro _ _ _ hle104 ⟨u104_1,a104_2,c104_3,rfl,rfl,rfl⟩
 refine TL.en (TC.a (TL.l z z (TL.l z z (TL.w z (nilCheckLoc z z) (TL.w z (fieldLoc z fo92_1 z) (TL.w z (loadLoc z ag60 z (i:=0) z z) (TL.w z (moveStr (.inl z) z) (TL.front 1 z z ?_))))))))
 have u11:=grd_c hh
 replace hh:=grd_t hh
 refine TL.op z (appendStr z underlying60 underlying9 sz5 by5 ze5 z z z z u11 (fun a106 c107=> ?_))
 refine TL.w z (nilCheckLoc z z) (TL.w z (fieldLoc z fo92_1 z) (TL.front 1 z z (TL.op z (storeSl z sz60 z z z z z ?_))))
 refine TL.en (TC.a (TL.w z (moveStr (.inl z) z) (TL.w z (lenBs z underlying9 z) (TL.i z z (TL.w z (OpVal.mv (.inr z)) (TL.en (TC.ret ?_)))))))
 obtain rfl:=so hh
 exact ro [Res.cells b0_0 #[badV u104_1 b0_0,.slice a106 ((v4.buf++x1).length) c107] 92,Res.rowS 5 1 encU8 (.slice a106 (v4.buf++x1).length c107) (v4.buf++x1)] z (RVs.tmp z (RVs.tmp z RVs.nil)) ⟨u104_1,a106,c107,z,z,z⟩
def writeB(x0:SB)(x1:UInt8):Option (Unit×SB):=
 bnd (copyCheck (⟨x0.buf⟩:SB)) (fun v3=>grd ((v3.buf.length+[x1].length) * 1≤140737488355328) (some ((),(⟨(v3.buf++[x1])⟩:SB))))
theorem writeB_con{x0:SB}{u0_1:Bool}{x1:UInt8}{r:Unit×SB}(hh:writeB x0 x1=some r):
  Con Tryz.prog 151 #[loc b0_0 0,.int .u8 ((x1.toNat:Nat):Int)] σ [Res.cells b0_0 #[badV u0_1 b0_0,.slice a0_2 x0.buf.length c0_3] 92,Res.rowS 5 1 encU8 (.slice a0_2 x0.buf.length c0_3) x0.buf] (fun v σ' H'=> ∃(uo1:Bool), ∃ao2 co3,v= .nilIface∧σ=σ'∧H'=[Res.cells b0_0 #[badV uo1 b0_0,.slice ao2 r.2.buf.length co3] 92,Res.rowS 5 1 encU8 (.slice ao2 r.2.buf.length co3) r.2.buf]):=by
 dsimp only [writeB]at hh
 refine Con.mk (n:=17) Tryz.func151 z z z (fun w0=> ?_)
 refine TC.a (TL.w z (OpVal.mv (.inr z)) (TL.en (TC.a (TL.l z z (TL.front 1 z z (TL.front 1 z z ?_))))))
 obtain ⟨v3,u3,hh⟩:=bnd_e hh
 refine TL.op z (OpOk.call (copyCheck_con u3) z z pf94 z z z z ?_)
 rintro _ _ _ hle104 ⟨u104_1,a104_2,c104_3,rfl,rfl,rfl⟩
 refine TL.en (TC.a (TL.l z z (TL.l z z (TL.w z (nilCheckLoc z z) (TL.w z (fieldLoc z fo92_1 z) (TL.w z (loadLoc z ag60 z (i:=0) z z) (TL.i z z (TL.op z (OpOk.lit (enc:=encU8) [x1] z underlying60 sz5 ze5 z z z encU8_len (by decide) (by decide) (0:UInt8) z (by decide) z (by decide) encU8_one (fun a106 c107=> ?_))))))))))
 refine TL.front 2 z z ?_
 have u11:=grd_c hh
 replace hh:=grd_t hh
 refine TL.op z (appendS z z underlying60 sz5 by5 ze5 z z (by decide) z z z (.inr ⟨_,0,z⟩) (by simpa using u11) (by decide) (fun a109 c110=> ?_))
 refine TL.w z (nilCheckLoc z z) (TL.w z (fieldLoc z fo92_1 z) (TL.front 2 z z (TL.op z (storeSl z sz60 z z z z z ?_))))
 refine TL.en (TC.a (TL.w z (OpVal.mv (.inr z)) (TL.en (TC.ofSub (Sub.f [1,1] 2) (TC.ret ?_)))))
 obtain rfl:=so hh
 exact ro [Res.cells b0_0 #[badV u104_1 b0_0,.slice a109 ((v3.buf++[x1]).length) c110] 92,Res.rowS 5 1 encU8 (.slice a109 (v3.buf++[x1]).length c110) (v3.buf++[x1])] z (RVs.tmp z RVs.nil) ⟨u104_1,a109,c110,z,z,z⟩
def stringB(x0:SB):Option ((List UInt8)):=
 some x0.buf
theorem stringB_con{x0:SB}{u0_1:Bool}{r:(List UInt8)}(hh:stringB x0=some r):
  Con Tryz.prog 54 #[loc b0_0 0] σ [Res.cells b0_0 #[badV u0_1 b0_0,.slice a0_2 x0.buf.length c0_3] 92,Res.rowS 5 1 encU8 (.slice a0_2 x0.buf.length c0_3) x0.buf] (fun v σ' H'=>v= .string (bs r)∧σ=σ'∧H'=[]):=by
 dsimp only [stringB]at hh
 refine Con.mk (n:=14) Tryz.func54 z z z (fun w0=> ?_)
 refine TC.a (TL.w z (moveStr (.inr z) z) (TL.en (TC.seq (TC.drawR (Hr:=[Res.cells b0_0 #[badV u0_1 b0_0,.slice a0_2 x0.buf.length c0_3] 92]) (fun r hr=>mem_pick [0] z hr) [] (by kernel_rfl) (TA.a 0 z (moveLoc (.inl z) z) z (TA.a 1 z (nilCheckLoc z z) z (TA.a 2 z (fieldLoc z fo92_1 z) z (TA.b 3 z (loadLoc z ag60 z (i:=0) z z) z (TA.a 5 z (moveLoc (.inl z) z) z (TA.a 6 z (nilCheckLoc z z) z (TA.a 7 z (fieldLoc z fo92_1 z) z (TA.b 8 z (loadLoc z ag60 z (i:=0) z z) z (TA.b 9 z (lenC z underlying60 z) z (TA.front 1 z z (TA.ac 4 z (sliceDat z z underlying150 z z z (fun sq105 sh106=>(k1 ?_))))))))))))))))))
 refine TA.ac 10 z (unsStr z underlying150 ce5 z z z sh106 z (k0 ?_))
 refine TA.a 11 z (moveStr (.inr z) z) z (TA.dn (S.n (TC.rt 0 ?_)))
 obtain rfl:=so hh
 exact rq [2] ⟨z,z,z⟩
def B7_(x1:List UInt8)(x0:Seq)(l126:List UInt8)(i129:Int)(k130:Nat):Option (((List UInt8)×Int×Nat)⊕((List UInt8)×Int×Bool×Int)):=
 iteO (decide (((k130:Nat):Int)<((x1.length:Nat):Int))) (grd (0≤i129∧i129<(x0.next.length:Int)) (grd ((nth x1 k130 (0:UInt8)).toNat<(nth x0.next i129.toNat ([]:List Int)).length) (iteO (decide ((nth (nth x0.next i129.toNat ([]:List Int)) ((nth x1 k130 (0:UInt8)).toNat) (0:Int))<0)) (fin (some (([]:List UInt8),((k130:Nat):Int),false,0))) (grd (0≤i129∧i129<(x0.outs.length:Int)) (grd ((nth x1 k130 (0:UInt8)).toNat<(nth x0.outs i129.toNat ([]:List (List UInt8))).length) (bnd (writeS (⟨l126⟩:SB) (nth (nth x0.outs i129.toNat ([]:List (List UInt8))) ((nth x1 k130 (0:UInt8)).toNat) ([]:List UInt8))) (fun v60=>nxt (v60.2.2.buf,(nth (nth x0.next i129.toNat ([]:List Int)) ((nth x1 k130 (0:UInt8)).toNat) (0:Int)),(k130+1))))))))) (fin (grd (0≤i129∧i129<(x0.fin.length:Int)) (iteO (!(nth x0.fin i129.toNat false)) (some (([]:List UInt8),((x1.length:Nat):Int),false,0)) (grd (0≤i129∧i129<(x0.tail.length:Int)) (bnd (writeS (⟨l126⟩:SB) (nth x0.tail i129.toNat ([]:List UInt8))) (fun v82=>bnd (stringB (⟨v82.2.2.buf⟩:SB)) (fun v83=>some (v83,((x1.length:Nat):Int),true,0))))))))
def Dk_(x0:Seq)(x1:List UInt8):Option ((List UInt8)×Int×Bool×Int):=
 grd (x1.length≤281474976710656) (bnd (Dm_ x0) (fun v7=>iteO (decide (v7≠0)) (some (([]:List UInt8),0,false,1)) (iteO (decide (((x0.next.length:Nat):Int)=0)) (some (([]:List UInt8),0,false,0)) (bnd (writeS (⟨([]:List UInt8)⟩:SB) x0.front) (fun v24=>iter (fun q:(List UInt8)×Int×Nat=>B7_ x1 x0 q.1 q.2.1 q.2.2) (v24.2.2.buf,0,0))))))
theorem Fe_{x0:Seq}{x1:List UInt8}(f0_0:RZ σ (pkSl 1 eI_ eIl_) (.slice a0_0 x0.next.length c0_0) x0.next)(f0_1:RZ σ (pkSl 1 eS_ eSl_) (.slice a0_1 x0.outs.length c0_1) x0.outs)(f0_2:RS σ 1 encB (.slice a0_2 x0.fin.length c0_2) x0.fin)(f0_3:RS σ 1 eS_ (.slice a0_3 x0.tail.length c0_3) x0.tail){r:(List UInt8)×Int×Bool×Int}(hh:Dk_ x0 x1=some r):
  Con Tryz.prog 19 #[.agg #[.string (bs x0.front),.slice a0_0 x0.next.length c0_0,.slice a0_1 x0.outs.length c0_1,.slice a0_2 x0.fin.length c0_2,.slice a0_3 x0.tail.length c0_3],.string (bs x1)] σ [] (PureP (.tuple #[.string (bs r.1),.int .i64 r.2.1,.bool r.2.2.1,.int .i64 r.2.2.2]) σ):=by
 dsimp only [Dk_]at hh
 have f0_0b:=f0_0.big
 have f0_1b:=f0_1.big
 have f0_2b:=f0_2.rv.big
 have f0_3b:=f0_3.rv.big
 refine Con.mk (n:=70) Tryz.func19 z z z (fun w0=> ?_)
 have x1b:=grd_c hh
 replace hh:=grd_t hh
 refine TC.a (TL.op z (boxA z z z z (fun b101=> ?_)))
 refine TL.w z (moveStr (.inr z) z) (TL.i z z (TL.j z z (TL.i z z (TL.en (TC.seq (TC.a (TL.w z (loadAll z ag32 sz32 z (i:=0) z z) ?_)))))))
 obtain ⟨v7,u7,hh⟩:=bnd_e hh
 refine TL.op z (callP (Ef_ (x0:=x0) f0_0 f0_1 f0_2 f0_3 u7) z z pf23 z z z ?_)
 refine TL.w z (OpVal.neq z z z) (TL.en (TC.cD z hh (fun h103 hh=> ?_) (fun h103 hh=> ?_)))
 ·refine TC.a (TL.w z (moveStr (.inr z) z) (TL.i z z (TL.j z z (TL.i z z (TL.en (TC.rt 0 (S.r ?_)))))))
  obtain rfl:=so hh
  exact rq [4,5,6,7] ⟨z,z,z⟩
 refine TC.skip (S.n (TC.seq (TC.a (TL.w z (fieldLoc z fo32_1 z) (TL.w z (loadLoc z ag27 z (i:=0) z z) (TL.w z (lenC z underlying27 z) (TL.w z (OpVal.eql z z z) (TL.en (TC.cD z hh (fun h104 hh=> ?_) (fun h104 hh=> ?_))))))))))
 ·refine TC.a (TL.w z (moveStr (.inr z) z) (TL.i z z (TL.j z z (TL.i z z (TL.en (TC.rt 0 (S.r ?_)))))))
  obtain rfl:=so hh
  exact rq [4,5,6,7] ⟨z,z,z⟩
 refine TC.skip (S.n (TC.a (TL.op z (OpOk.alloc z ze92 z z (fun b105=> ?_)))))
 refine TL.asH (H':=[Res.cells b105 #[badV false b105,.slice none 0 0] 92,Res.cells b101 #[.string (bs x0.front),.slice a0_0 x0.next.length c0_0,.slice a0_1 x0.outs.length c0_1,.slice a0_2 x0.fin.length c0_2,.slice a0_3 x0.tail.length c0_3] 32]) z (TL.en (TC.a (TL.w z (fieldLoc z fo32_0 z) (TL.w z (loadLoc z ag9 z (i:=1) z z) (TL.nilS 5 1 encU8 (TL.front 1 z z ?_))))))
 obtain ⟨v24,u24,hh⟩:=bnd_e hh
 refine TL.op z (OpOk.call (writeS_con u24) z z pf53 z z z z ?_)
 rintro _ _ _ hle108 ⟨u108_1,a108_2,c108_3,rfl,rfl,rfl⟩
 refine TL.en (TC.a (TL.i z z (TL.en (TC.seq (TC.a (TL.w z (moveStr (.inl z) z) (TL.w z (lenBs z underlying9 z) (TL.i z z (TL.en (TC.block (TC.loopG (α:=((List UInt8)×Int×Nat)×(Bool×(Option Addr)×Nat)) (rgs [(4,4),(9,3),(24,29)]) (fun g=>[(9,.int .i64 g.1.2.1),(24,.int .i64 ((g.1.2.2:Nat):Int))]) (fun g=>[Res.cells b101 #[.string (bs x0.front),.slice a0_0 x0.next.length c0_0,.slice a0_1 x0.outs.length c0_1,.slice a0_2 x0.fin.length c0_2,.slice a0_3 x0.tail.length c0_3] 32,Res.cells b105 #[badV g.2.1 b105,.slice g.2.2.1 g.1.1.length g.2.2.2] 92,Res.rowS 5 1 encU8 (.slice g.2.2.1 g.1.1.length g.2.2.2) g.1.1]) (fun g=>σ) (fun g=>iter (fun q:(List UInt8)×Int×Nat=>B7_ x1 x0 q.1 q.2.1 q.2.2) g.1=some r) (fun g=>rounds (fun q:(List UInt8)×Int×Nat=>B7_ x1 x0 q.1 q.2.1 q.2.2) g.1) ((v24.2.2.buf,0,0),(u108_1,a108_2,c108_3)) (Sub.f [1,1,2] 3) z (by repeat (first|exact trivial|refine ⟨z,?_⟩)) hh (fun g1 j1 hg1=> ?_))))))))))))
 obtain ⟨⟨l126,i129,k130⟩,⟨u124,a127,c128⟩⟩:=g1
 have hh:=hg1;clear hg1
 try dsimp only
 obtain ⟨z1,hh,hR1⟩:=iter_e hh
 dsimp only [B7_]at hh
 refine TC.isSl (i:=2) z (fun _ hb131 _=> ?_)
 refine TC.a (TL.w z (OpVal.lss z z z) (TL.en (TC.seq (TC.cD z hh (fun h132 hh=> ?_) (fun h132 hh=> ?_)))))
 ·refine TC.skip (S.n (TC.seq (TC.block (TC.a (TL.i z z (TL.i z z (TL.en (TC.seq ?_))))))))
  have u35:=grd_c hh
  replace hh:=grd_t hh
  have u40:=grd_c hh
  replace hh:=grd_t hh
  refine TC.draw [] (by kernel_rfl) (TA.a 0 z (fieldLoc z fo32_1 z) z (TA.b 1 z (loadLoc z ag27 z (i:=0) z z) z (TA.a 2 z (moveI (.inl z) z) z (TA.b 3 z (OpVal.index z underlying27 sz86 z z f0_0.isSl u35.1 u35.2) z ?_))))
  obtain ⟨p134,hk134,hg134⟩:=RZ.seg f0_0 i129.toNat (by omega)
  replace hk134:RS _ 1 eI_ (.slice p134.1 (nth x0.next i129.toNat ([]:List Int)).length p134.2) (nth x0.next i129.toNat ([]:List Int)):=hk134
  have hk134b:=hk134.rv.big
  refine TA.b 4 z (OpVal.of (loadSeg0 z ag86 z hg134 z) (v':= .slice p134.1 ((nth x0.next i129.toNat ([]:List Int)).length) p134.2) z) z (TA.a 5 z (moveStr (.inl z) z) z (TA.a 6 z (moveI (.inl z) z) z (TA.a 7 z (indexBs z underlying9 z z (by omega)) z (TA.b 8 z (indexN z underlying86 sz3 z z hk134.rv.sl (by omega)) z (TA.b 9 z (loadS1 (0:Int) z ag3 z hk134 (by omega) z) z (TA.a 10 z (moveI (.inr z) z) z (TA.dn (S.n (TC.seq (TC.a (TL.i z z (TL.w z (OpVal.lss z z z) (TL.en (TC.cD z hh (fun h135 hh=> ?_) (fun h135 hh=> ?_)))))))))))))))
  ·refine TC.a (TL.i z z (TL.w z (moveStr (.inr z) z) (TL.i z z (TL.j z z (TL.i z z (TL.en (TC.rt 0 (S.r (B.r (S.r (S.r ?_)))))))))))
   replace hh:=fin_x hR1 hh
   refine B.r (S.r ?_)
   obtain rfl:=so hh
   exact rq [4,5,6,7] ⟨z,z,z⟩
  refine TC.skip (S.n (TC.seq ?_))
  have u53:=grd_c hh
  replace hh:=grd_t hh
  have u58:=grd_c hh
  replace hh:=grd_t hh
  obtain ⟨v60,u60,hh⟩:=bnd_e hh
  refine TC.drawR (Hr:=[Res.cells b101 #[.string (bs x0.front),.slice a0_0 x0.next.length c0_0,.slice a0_1 x0.outs.length c0_1,.slice a0_2 x0.fin.length c0_2,.slice a0_3 x0.tail.length c0_3] 32]) (fun r hr=>mem_pick [0] z hr) [] (by kernel_rfl) (TA.a 0 z (fieldLoc z fo32_2 z) z (TA.b 1 z (loadLoc z ag28 z (i:=0) z z) z (TA.a 2 z (moveI (.inl z) z) z (TA.b 3 z (OpVal.index z underlying28 sz30 z z f0_1.isSl u53.1 u53.2) z ?_))))
  obtain ⟨p139,hk139,hg139⟩:=RZ.seg f0_1 i129.toNat (by omega)
  replace hk139:RS _ 1 eS_ (.slice p139.1 (nth x0.outs i129.toNat ([]:List (List UInt8))).length p139.2) (nth x0.outs i129.toNat ([]:List (List UInt8))):=hk139
  have hk139b:=hk139.rv.big
  refine TA.b 4 z (OpVal.of (loadSeg0 z ag30 z hg139 z) (v':= .slice p139.1 ((nth x0.outs i129.toNat ([]:List (List UInt8))).length) p139.2) z) z (TA.a 5 z (moveStr (.inl z) z) z (TA.a 6 z (moveI (.inl z) z) z (TA.a 7 z (indexBs z underlying9 z z (by omega)) z (TA.b 8 z (indexN z underlying30 sz9 z z hk139.rv.sl (by omega)) z (TA.b 9 z (loadS1 ([]:List UInt8) z ag9 z hk139 (by omega) z) z (TA.front 2 z z (TA.front 2 z z (TA.ac 10 z (OpOk.call (writeS_con u60) z z pf53 z z z z ?_)))))))))
  rintro _ _ _ hle140 ⟨u140_1,a140_2,c140_3,rfl,rfl,rfl⟩
  refine k2 (TA.dn (S.n (TC.region (TL.i z z (TL.i z z (TL.nil (B.n (S.n (TC.region (TL.w z (OpVal.succ z z z (by omega)) (TL.i z z (TL.en ?_))))))))))))
  obtain ⟨hh,hlt142⟩:=nxt_x hR1 hh
  exact lf ((v60.2.2.buf,(nth (nth x0.next i129.toNat ([]:List Int)) ((nth x1 k130 (0:UInt8)).toNat) (0:Int)),(k130+1)),(u140_1,a140_2,c140_3)) hlt142 hh (Sub.f [1,1,2] 3)
 refine TC.exit (S.x (S.x ?_))
 replace hh:=fin_x hR1 hh
 refine TC.exitHere (S.n (TC.seq (TC.a (TL.w z (fieldLoc z fo32_3 z) (TL.w z (loadLoc z ag29 z (i:=0) z z) (TL.i z z ?_))))))
 have u68:=grd_c hh
 replace hh:=grd_t hh
 refine TL.w z (OpVal.index z underlying29 sz4 z z f0_2.rv.sl u68.1 u68.2) (TL.w z (loadS1 false z ag4 z f0_2 (by omega) z) (TL.w z (OpVal.not z z) (TL.en (TC.cB z hh (fun h143 hh=> ?_) (fun h143 hh=> ?_)))))
 ·refine TC.a (TL.w z (moveStr (.inl z) z) (TL.w z (lenBs z underlying9 z) (TL.w z (moveStr (.inr z) z) (TL.i z z (TL.j z z (TL.i z z (TL.en (TC.rt 0 (S.r ?_)))))))))
  obtain rfl:=so hh
  exact rq [4,5,6,7] ⟨z,z,z⟩
 refine TC.skip (S.n (TC.a (TL.w z (fieldLoc z fo32_4 z) (TL.w z (loadLoc z ag30 z (i:=0) z z) (TL.i z z ?_)))))
 have u80:=grd_c hh
 replace hh:=grd_t hh
 refine TL.w z (OpVal.index z underlying30 sz9 z z f0_3.rv.sl u80.1 u80.2) (TL.w z (loadS1 ([]:List UInt8) z ag9 z f0_3 (by omega) z) (TL.front 2 z z (TL.front 2 z z ?_)))
 obtain ⟨v82,u82,hh⟩:=bnd_e hh
 refine TL.op z (OpOk.call (writeS_con u82) z z pf53 z z z z ?_)
 rintro _ _ _ hle144 ⟨u144_1,a144_2,c144_3,rfl,rfl,rfl⟩
 refine TL.en (TC.a (TL.front 1 z z (TL.front 1 z z ?_)))
 obtain ⟨v83,u83,hh⟩:=bnd_e hh
 refine TL.op z (OpOk.call (stringB_con u83) z z pf54 z z z z ?_)
 rintro _ _ _ hle146 ⟨rfl,rfl,rfl⟩
 refine TL.w z (moveStr (.inl z) z) (TL.w z (lenBs z underlying9 z) (TL.w z (moveStr (.inr z) z) (TL.i z z (TL.j z z (TL.i z z (TL.en (TC.rt 0 ?_)))))))
 obtain rfl:=so hh
 exact rq [4,5,6,7] ⟨z,z,z⟩
end Go.Proofs.YtchebnpdnfhenaaGreatDoor
end

noncomputable section
namespace Go.E
open Go
section
variable {α:Type} {σ:Store} {size m c:Nat} {enc:α→List Value} {a:Option Addr} {l:List α}
end
end Go.E
end

noncomputable section
namespace Go.E
open Go
theorem OpOk.storeFn{X:Ctx}{e:Env}{F:List Res}{o:Oper}{x y:Operand}{K:Env→Store→List Res→Prop}{T b k:Nat}{E:TypeId}{cs cs':Array Value}{f:Fn}{xs ys:Array Value}(ho:o.op= .store T x y)(hs:szOf X.P T=some 1)(hd:o.dst=none)(hx:ev e x=loc b k)(hfit:Nat.ble (k+1) cs.size=true)
    (hv:ev e y= .func f xs ys) (hcs:(splice cs.toList k [.func f xs ys]).toArray=cs') (kk:K e σ (Res.cells b cs' E::F)):OpOk X o e σ (Res.cells b cs E::F) K:=OpOk.store1 ho hs hd hx hv rfl rfl hfit hcs kk
def SC(σ:Store)(b:Nat)(cs:Array Value)(E:TypeId):Prop:=σ b=some (.cells cs E (0,0))
theorem SC.big{b:Nat}{cs:Array Value}{E:TypeId}(_:SC σ b cs E):True:=True.intro
end Go.E
end

noncomputable section
namespace Go.E
open Go
structure YSpec (S:Type) where
  R:S→Store→Res→Prop
  mono: ∀{s σ σ' r},R s σ r→σ.le σ'→R s σ' r
def YR{S:Type}(Z:YSpec S)(s:S)(σ:Store)(r:Res):Prop:=Z.R s σ r
theorem YR.mono{S:Type}{Z:YSpec S}{s:S}{σ σ':Store}{r:Res}(h:YR Z s σ r)(hle:σ.le σ'):YR Z s σ' r:=Z.mono h hle
def YOk (P : Program) (l : Nat) {S α : Type} (A : α → Store → List Value → Prop) (Z : YSpec S) (Y : S → α → Option (S × Bool)) : Prop :=
  ∀s x σ r args w s' b,Y s x=some (s',b)→A x σ args→YR Z s σ r→Reach w r.bl σ σ w [r]→
    YieldAt (fence none) 0 P l args.toArray w fun e w'=>e= .returned (.bool b)∧ ∃σ' r',YR Z s' σ' r'∧Reach w r.bl σ σ' w' [r']
def IterOk (P : Program) (f : FuncId) (lb : List Value) {S α : Type} (A : α → Store → List Value → Prop) (Y : S → α → Option (S × Bool)) (σ : Store) (Hc : List Res) (s s' : S) (Post : Store → List Res → Prop) : Prop :=
  ∀(l:Nat) (Z:YSpec S) (r:Res),YOk P l A Z Y→YR Z s σ r→
    Con P f (.func (.yield l) #[] #[]::lb).toArray σ (r::Hc) fun _ σ' H'=> ∃r' Hc',H'=r'::Hc'∧YR Z s' σ' r'∧Post σ' Hc'
theorem OpOk.callY{X:Ctx}{e:Env}{H F:List Res}{o:Oper}{x:Operand}{K:Env→Store→List Res→Prop}{l d:Nat}{opds:Array Operand}{ts:Array TypeId}{S α:Type}{A:α→Store→List Value→Prop}{Z:YSpec S}{Y:S→α→Option (S×Bool)}{s:S}{q:S×Bool}{v:α}{r:Res}
    (hY:YOk X.P l A Z Y) (hs:YR Z s σ r) (he:Y s v=some q) (ho:o.op= .call {callee:= .value x,args:=opds,argTypes:=ts})
    (hx:ev e x= .func (.yield l) #[] #[]) (hA:A v σ (opds.toList.map (ev e))) (hd:o.dst=some d) (hn:Nat.blt d X.n=true) (hH:r::F=H)
    (k: ∀σ' r',σ.le σ'→YR Z q.1 σ' r'→K (upd e d (.bool q.2)) σ' (r'::F)):OpOk X o e σ H K:=by
  subst hH
  obtain ⟨s',b⟩:=q
  intro u0 C0 τ0 w a hw ha K' Q hK
  have hbl:blks [r]=r.bl:=by simp [blks]
  have hself:Reach w r.bl σ σ w [r]:=by
    have:=(hw.sub (H':=[r]) (by simp)).self
    rwa [hbl]at this
  obtain ⟨fn,tmps,assign,body,hrun,hround⟩:=hY s v σ r _ w s' b he hA hs hself
  have hr:(execOp a.eval o).run X.P w= .ok (.round l fn tmps assign body) w:=by
    rw [ha.eval']
    have hl:(opds.toList.map (ev e)).toArray=opds.map (ev e):=by apply Array.ext';simp
    rw [hl]at hrun
    simp [execOp,ho,resolve,hx,Deferred.ofValue,invoke,hrun]
  refine Oper.wp_run hr (fun _=>by simp) ?_
  rw [Oper.uponIn_round]
  refine ⟨fun h=>(by cases h),RoundIn.mono (R:=fun e w'=>e= .returned (.bool b)∧ ∃σ' r',YR Z s' σ' r'∧Reach w r.bl σ σ' w' [r']) hround ?_⟩
  rintro ex w' ⟨rfl,σ',r',h1,h2⟩
  refine hK _ _ _ _ _ (k σ' r' h2.le h1) (Reach.call (H1:=[r]) (H1':=[r']) hw (by rw [hbl];exact h2)) (put_dst ha hd hn _)
def Res.lrec(b:Nat)(o:Obj):Res:=⟨[b],fun w=>w.heap[b]? =some o,fun w k hk h=>by simp at hk;subst hk;exact (Array.getElem?_eq_some_iff.1 h).1,fun w w' hb h=>by rw [hb b (by simp)];exact h⟩
theorem Reach.turnRec{w0:World}{C:List Nat}{σ0 σ:Store}{w:World}{l:Nat}{o o':Obj}{F:List Res}(h:Reach w0 C σ0 σ w (Res.lrec l o::F)):Reach w0 C σ0 σ (w.putObj l o') (Res.lrec l o'::F):=by
  have hl:w.heap[l]? =some o:=h.holds _ (List.mem_cons_self ..)
  refine h.turn rfl rfl rfl (by simp [World.putObj]) (Nat.le_refl _) (fun k _ hk=>World.putObj_heap_other (fun e=>hk (by simp [Res.lrec,e]))) (World.putObj_heap_same (Array.getElem?_eq_some_iff.1 hl).1) (fun b hb=> .inl hb) (by simp [Res.lrec])
theorem Reach.tail{w0:World}{C:List Nat}{σ0 σ:Store}{w:World}{r:Res}{F:List Res}(h:Reach w0 C σ0 σ w (r::F)):Reach w (blks F) σ σ w F:=(h.sub (List.sublist_cons_self ..)).self
theorem Reach.callT{w0:World}{C:List Nat}{σ0 σ σ':Store}{w w':World}{r:Res}{F F':List Res}(h:Reach w0 C σ0 σ w (r::F))(k:Reach w (blks F) σ σ' w' F'):Reach w0 C σ0 σ' w' (r::F'):=by
  have h1:Reach w0 C σ0 σ w (F++[r]):=h.perm (List.perm_append_singleton r F)
  exact (h1.call k).perm (List.perm_append_singleton r F').symm
def bindE(e:Env)(ps:List Tmp)(vs:List Value):Env:=(ps.zip vs).foldl (fun e p=>upd e p.1 p.2) e
theorem St.binds{n:Nat}: ∀(ps:List Tmp) (vs:List Value) {e:Env} {t:Array Value},(∀p∈ps,p<n)→St n e {tmps:=t,defers:=[]}→St n (bindE e ps vs) {tmps:=(ps.zip vs).foldl (fun t p=>t.setIfInBounds p.1 p.2) t,defers:=[]}
  |[],_,_,_,_,h=>h
  |_::_,[],_,_,_,h=>h
  |p::ps,v::vs,e,t,hp,h=>by
    have h1:=h.put (hp p (List.mem_cons_self ..)) v
    exact St.binds ps vs (fun q hq=>hp q (List.mem_cons_of_mem _ hq)) h1
@[reducible]def asgQ(K:Env→Store→List Res→Prop):QP:=fun ex=>match ex with
  | .normal=>K
  |_=>fun _ _ _=>False
@[reducible]def rndQ(J:List Code)(K:Nat→Store→List Res→Prop):QP:=fun ex _ σ H=>match ex with
  | .normal=>K 0 σ H
  | .ret=> ∃j,J[j]? =some .ret∧K (j+1) σ H
  | .exit i=> ∃j,J[j]? =some (.exit i)∧K (j+1) σ H
  | .goto i=> ∃j,J[j]? =some (.goto i)∧K (j+1) σ H
  |_=>False
def stepY{S α:Type}(B:S→α→Option (Nat×S))(p:Nat×S)(x:α):Option ((Nat×S)×Bool):=
  if p.1=0 then (B p.2 x).bind fun q=>some (q,q.1 == 0) else none
theorem stepY_some{S α:Type}{B:S→α→Option (Nat×S)}{p p':Nat×S}{x:α}{b:Bool}(h:stepY B p x=some (p',b)):p.1=0∧B p.2 x=some p'∧b=(p'.1 == 0):=by
  unfold stepY at h
  split at h
  · rename_i h0
    cases hb:B p.2 x with
    |none=>simp [hb]at h
    |some q=>simp [hb]at h;exact ⟨h0,by rw [h.1],by rw [←h.2,h.1]⟩
  cases h
abbrev mkRec(fn:FuncId)(tmps:Array Value)(ps:Array Tmp)(assign body:Code)(D:Nat)(st:LoopState)(pe:Option Code):Loop:={state:=st,pending:=pe,fn,tmps,params:=ps,assign,body,defers:=D}
def recOf(rec:LoopState→Option Code→Loop)(J:List Code)(j:Nat):Obj:= .loop (if j=0 then rec .ready none else rec .done (J[j - 1]?))
def rndZ{S:Type}(l:Nat)(rec:LoopState→Option Code→Loop)(J:List Code)(σs:Store)(G:S→Store→List Res→Prop)(hG: ∀{s σ σ' H},G s σ H→σ.le σ'→G s σ' H):YSpec (Nat×S) where
  R p σ r:= ∃Hs,r=Res.star (Res.lrec l (recOf rec J p.1)::Hs)∧G p.2 σ Hs∧σs.le σ∧(p.1≠0→ ∃c,J[p.1 - 1]? =some c)
  mono:=fun ⟨Hs,h1,h2,h3,h4⟩ hle=>⟨Hs,h1,hG h2 hle,h3.trans hle,h4⟩
theorem rec_far{w0:World}{C:List Nat}{σ0 σ:Store}{w:World}{l:Nat}{o:Obj}{F:List Res}(h:Reach w0 C σ0 σ w (Res.lrec l o::F)):l∉blks F∧σ l=none:=by
  have hn:=h.nodup
  simp only [blks,List.flatMap_cons,Res.lrec,List.cons_append,List.nil_append,List.nodup_cons]at hn
  exact ⟨hn.1,h.apart _ (List.mem_cons_self ..) l (by simp [Res.lrec])⟩
theorem yOk_of {P : Program} {n l : Nat} {S α : Type} {A : α → Store → List Value → Prop} {J : List Code} {B : S → α → Option (Nat × S)} {σs : Store} {G : S → Store → List Res → Prop} {hG : ∀ {s σ σ' H}, G s σ H → σ.le σ' → G s σ' H} {fn : FuncId} {ps : Array Tmp} {assign body : Code} {e : Env} {tmps : Array Value} {D : Nat}
    (hst:St n e {tmps:=tmps,defers:=[]}) (hps: ∀p∈ps.toList,p<n) (hA: ∀x σ vs,A x σ vs→vs.length=ps.size)
    (hbody: ∀(w0:World) (C:List Nat) (τ σ:Store) (s:S) (x:α) (q:Nat×S) (vs:List Value) (Hs:List Res),B s x=some q→σs.le σ→A x σ vs→G s σ Hs→
      TC ⟨P,w0,C,τ,n,some l,none⟩ (asgQ fun e σ H=> ∀w0 C τ,TC ⟨P,w0,C,τ,n,some l,none⟩ (rndQ J fun j σ H=>q.1=j∧G q.2 σ H) body e σ H) assign (bindE e ps.toList vs) σ Hs):
    YOk P l A (rndZ l (mkRec fn tmps ps assign body D) J σs G hG) (stepY B):=by
  rintro p x σ r args w p' b hy hax ⟨Hs,rfl,hg,hle, -⟩ hw
  obtain ⟨hp0,hB,rfl⟩:=stepY_some hy
  rw [hp0]at hw
  have hw1:Reach w (Res.star (Res.lrec l (recOf (mkRec fn tmps ps assign body D) J 0)::Hs)).bl σ σ w (Res.lrec l (.loop (mkRec fn tmps ps assign body D .ready none))::Hs):=by
    have:=hw.unstar
    rw [List.append_nil]at this
    exact this
  have hlen:=hA x σ args hax
  have hl1:w.heap[l]? =some (.loop (mkRec fn tmps ps assign body D .ready none)):=hw1.holds _ (List.mem_cons_self ..)
  have hy:=run_yield (P:=P) (args:=args.toArray) hl1 (by simpa using hlen)
  refine ⟨fn,_,assign,body,hy,roundIn_of_wpIn trivial ?_⟩
  have hz:(ps.zip args.toArray).foldl (fun t (p,v)=>t.setIfInBounds p v) tmps=(ps.toList.zip args).foldl (fun t p=>t.setIfInBounds p.1 p.2) tmps:=by
    rw [←Array.foldl_toList,Array.toList_zip]
  have hS:St n (bindE e ps.toList args) {tmps:=(ps.zip args.toArray).foldl (fun t (p,v)=>t.setIfInBounds p v) tmps,defers:=[]}:=by
    rw [hz];exact St.binds _ _ hps hst
  refine wpIn_mono (hbody w (blks Hs) σ σ p.2 x p' args Hs hB hle hax hg w _ ⟨hw1.tail,⟨fun _=>⟨[],rfl,List.nodup_nil,by simp⟩,(fun _ h=>by cases h),fun l' hl'=> ?_⟩⟩ hS) ?_
  · cases hl';exact ⟨rfl,⟨_,hl1⟩,(rec_far hw1).1,(rec_far hw1).2⟩
  rintro ex a2 w2 ⟨e2,σ2,H2,hS2,hw2,hq2⟩
  cases ex with
  |normal=>
    have hw2':=hw1.callT hw2.toReach
    have hl2:w2.heap[l]? =some (.loop (mkRec fn tmps ps assign body D .ready none)):=hw2'.holds _ (List.mem_cons_self ..)
    have hw3:=hw2'.turnRec (o':= .loop (mkRec fn tmps ps assign body D .busy none))
    have hl3:(w2.putObj l (.loop (mkRec fn tmps ps assign body D .busy none))).heap[l]? =some (.loop (mkRec fn tmps ps assign body D .busy none)):=hw3.holds _ (List.mem_cons_self ..)
    have hd2:a2.defers=[]:=(hw2.marks.rc l rfl).1
    refine ⟨_,run_beginRound hl2 rfl,?_⟩
    refine wpIn_mono (hq2 _ (blks H2) σ2 _ a2 ⟨hw3.tail,⟨fun _=>⟨[],by rw [hd2];rfl,List.nodup_nil,by simp⟩,(fun _ h=>by cases h),fun l' hl'=> ?_⟩⟩ hS2) ?_
    · cases hl';exact ⟨hd2,⟨_,hl3⟩,(rec_far hw3).1,(rec_far hw3).2⟩
    rintro ex a4 w4 ⟨e4,σ4,H4,hS4,hw4,hq4⟩
    have hw4':=hw3.callT hw4.toReach
    have hl4:w4.heap[l]? =some (.loop (mkRec fn tmps ps assign body D .busy none)):=hw4'.holds _ (List.mem_cons_self ..)
    have fin: ∀(jump:Option Code) (j:Nat),p'.1=j→(j=0→jump=none)→(j≠0→jump=J[j - 1]? ∧ ∃c,jump=some c)→G p'.2 σ4 H4→ ∃v w',(Instr.endRound l jump).run P w4= .ok v w'∧(Ending.returned v= .returned (.bool (p'.1 == 0))∧ ∃σ' r',YR (rndZ l (mkRec fn tmps ps assign body D) J σs G hG) p' σ' r'∧Reach w (Res.star (Res.lrec l (recOf (mkRec fn tmps ps assign body D) J p.1)::Hs)).bl σ σ' w' [r']):=fun jump j h1 h2 h3 h4=>by
      have h6:Obj.loop (mkRec fn tmps ps assign body D (if jump.isNone then .ready else .done) jump)=recOf (mkRec fn tmps ps assign body D) J p'.1:=by
        unfold recOf
        rw [h1]
        by_cases h0:j=0
        · rw [if_pos h0,h2 h0];rfl
        obtain ⟨h7,c,h8⟩:=h3 h0
        rw [if_neg h0,←h7,h8];rfl
      refine ⟨_,_,run_endRound jump hl4,?_,σ4,Res.star (Res.lrec l (recOf (mkRec fn tmps ps assign body D) J p'.1)::H4),⟨H4,rfl,h4,hle.trans hw4'.le,fun h=> ?_⟩,?_⟩
      · rw [h1]
        by_cases h0:j=0
        · rw [h2 h0,h0];rfl
        obtain ⟨_,c,hc⟩:=h3 h0
        rw [hc];simp [h0]
      · rw [h1]at h ⊢
        obtain ⟨h5,c,h6⟩:=h3 h
        exact ⟨c,by rw [←h5,h6]⟩
      have h5:=hw4'.turnRec (o':= .loop (mkRec fn tmps ps assign body D (if jump.isNone then .ready else .done) jump))
      show Reach w _ σ σ4 (w4.putObj l (.loop (mkRec fn tmps ps assign body D (if jump.isNone then .ready else .done) jump))) _
      rw [h6]at h5 ⊢
      rw [hp0]
      exact Reach.star (G:=Res.lrec l (recOf (mkRec fn tmps ps assign body D) J p'.1)::H4) (F:=[]) (by rw [List.append_nil];exact h5)
    cases ex with
    |normal=>exact fin none 0 hq4.1 (fun _=>rfl) (fun h=>absurd rfl h) hq4.2
    |ret=>obtain ⟨j,hj,h1,h2⟩:=hq4;exact fin (some .ret) (j+1) h1 (fun h=>by cases h) (fun _=>⟨by simpa using hj.symm,_,rfl⟩) h2
    |exit i=>obtain ⟨j,hj,h1,h2⟩:=hq4;exact fin (some (.exit i)) (j+1) h1 (fun h=>by cases h) (fun _=>⟨by simpa using hj.symm,_,rfl⟩) h2
    |goto i=>obtain ⟨j,hj,h1,h2⟩:=hq4;exact fin (some (.goto i)) (j+1) h1 (fun h=>by cases h) (fun _=>⟨by simpa using hj.symm,_,rfl⟩) h2
    |panic c=>exact hq4.elim
    |outgrown=>exact hq4.elim
  |exit i=>exact hq2.elim
  |goto i=>exact hq2.elim
  |ret=>exact hq2.elim
  |panic c=>exact hq2.elim
  |outgrown=>exact hq2.elim
@[reducible]def jmpQ(X:Ctx)(Q:QP)(J:List Code):Nat→Env→Store→List Res→Prop
  |0=>Q .normal
  |j+1=>fun e σ H=> ∀c,J[j]? =some c→TC X Q c e σ H
theorem TC.rangeFunc {X : Ctx} {Q : QP} {e : Env} {σ : Store} {H Hs Hc : List Res} {S α : Type} {g : Operand} {ps : Array Tmp} {assign body : Code} {f : Nat} {lb : List Value} {A : α → Store → List Value → Prop}
    (J:List Code) (B:S→α→Option (Nat×S)) (G:S→Store→List Res→Prop) {s:S} {q:Nat×S} {PostC:Store→List Res→Prop}
    (hg:ev e g= .func (.func f) #[] lb.toArray) (hp:plainF X.P f=true) (hH:Hs++Hc=H) (hps:ps.toList.all (fun p=>Nat.blt p X.n)=true)
    (hG: ∀{s σ σ' H},G s σ H→σ.le σ'→G s σ' H) (h0:G s σ Hs) (hA: ∀x σ vs,A x σ vs→vs.length=ps.size)
    (hit:IterOk X.P f lb A (stepY B) σ Hc (0,s) q PostC)
    (hbody: ∀(l:Nat) (w0:World) (C:List Nat) (τ σ':Store) (s:S) (x:α) (q:Nat×S) (vs:List Value) (Hs:List Res),B s x=some q→σ.le σ'→A x σ' vs→G s σ' Hs→
      TC ⟨X.P,w0,C,τ,X.n,some l,none⟩ (asgQ fun e σ H=> ∀w0 C τ,TC ⟨X.P,w0,C,τ,X.n,some l,none⟩ (rndQ J fun j σ H=>q.1=j∧G q.2 σ H) body e σ H) assign (bindE e ps.toList vs) σ' Hs)
    (hdone: ∀σ' Hs' Hc',σ.le σ'→G q.2 σ' Hs'→PostC σ' Hc'→jmpQ X Q J q.1 e σ' (Hs'++Hc')) (hown:X.own=none:=by rfl):TC X Q (.rangeFunc g ps assign body) e σ H:=by
  subst hH
  intro w a hw ha
  have hps': ∀p∈ps.toList,p<X.n:=fun p hp=>by
    have:=List.all_eq_true.1 hps p hp
    simpa [Nat.blt_eq]using this
  refine wpIn_rangeFunc fun fn _=> ?_
  have key: ∀(l D:Nat) (w1:World) (a1:Act),a1.tmps=a.tmps→RM X a1 σ w1 (Res.lrec l (.loop (mkRec fn a.tmps ps assign body D .ready none))::(Hs++Hc))→
      CallsIn (fence X.rnd) 0 X.P f (#[.func (.yield l) #[] #[]]++lb.toArray) w1 (rangePost (fence X.rnd) 0 X.P l (low X Q) a1):=by
    intro l D w1 a1 ht hw1
    have hcon:=hit l (rndZ l (mkRec fn a.tmps ps assign body D) J σ G hG) (Res.star (Res.lrec l (recOf (mkRec fn a.tmps ps assign body D) J 0)::Hs))
      (yOk_of ⟨ha.size,ha.get⟩ hps' hA (hbody l)) ⟨Hs,rfl,h0,Store.le.refl _,fun h=>absurd rfl h⟩
    have hst:RM X a1 σ w1 (Res.star (Res.lrec l (recOf (mkRec fn a.tmps ps assign body D) J 0)::Hs)::Hc):=hw1.by fun _ k=>Reach.star (G:=Res.lrec l (recOf (mkRec fn a.tmps ps assign body D) J 0)::Hs) (F:=Hc) k
    have hcall:=hcon w1 hst.self
    have hargs:(Value.func (.yield l) #[] #[]::lb).toArray= #[.func (.yield l) #[] #[]]++lb.toArray:=by apply Array.ext';simp
    rw [hargs]at hcall
    refine calls_fence.2 (hcall.mono ?_)
    rintro ex w2 ⟨v,σ2,H2,rfl,⟨r',Hc',rfl,⟨Hs',rfl,hg2,hle,hJ⟩,hpc⟩,hw2⟩
    have hw3:RM X a1 σ2 w2 (Res.lrec l (recOf (mkRec fn a.tmps ps assign body D) J q.1)::(Hs'++Hc')):=(hst.step hw2 rfl).by fun _ k=>k.unstar
    have hl:w2.heap[l]? =some (recOf (mkRec fn a.tmps ps assign body D) J q.1):=hw3.holds _ (List.mem_cons_self ..)
    have hS1:St X.n e a1:=⟨by rw [ht];exact ha.size,fun t=>by rw [ht];exact ha.get t⟩
    have hw5: ∀o',RM X a1 σ2 (w2.putObj l o') (Hs'++Hc'):=fun o'=>hw3.step ((hw3.self.turnRec (o':=o')).sub (List.sublist_cons_self ..)) rfl
    have hfin:=hdone σ2 Hs' Hc' hle hg2 hpc
    unfold recOf at hl
    cases hq:q.1 with
    |zero=>
      rw [hq]at hl hfin
      exact ⟨none,_,run_endLoop hl (by simp),e,σ2,_,hS1,hw5 _,hfin⟩
    |succ j=>
      rw [hq]at hl hfin hJ
      obtain ⟨c,hc⟩:=hJ (by simp)
      simp only [Nat.add_sub_cancel,Nat.succ_ne_zero,if_false]at hl hc
      rw [hc]at hl
      exact ⟨some c,_,run_endLoop hl (by simp),hfin c hc _ a1 (hw5 _) hS1⟩
  have hnew: ∀k,k<w.heap.size∨True:=fun _=> .inr trivial
  have hres: ∀l w1,(resolve a.eval (rangeCall g l) 0).run X.P w1= .ok {target:= .fn (.func f) lb.toArray,args:= #[.func (.yield l) #[] #[]]} w1:=fun l w1=>by
    rw [ha.eval']
    simp only [resolve,hg]
    simp [go_sem,Deferred.ofValue,ev]
  have hinv: ∀l w1,(invoke (.fn (.func f) lb.toArray) #[.func (.yield l) #[] #[]]).run X.P w1= .ok (.enter f (#[.func (.yield l) #[] #[]]++lb.toArray)) w1:=fun l w1=>by
    simp [invoke,run_callFunc hp]
  cases hr:X.rnd with
  |none=>
    refine ⟨w.heap.size+1,_,_,_,_,f,_,_,run_enterLoop_outer _ _ _ _ _,hres _ _,fun _ _=>trivial,hinv _ _,(fun h=>by cases h),hr▸key (w.heap.size+1) w.heap.size _ _ rfl ?_⟩
    have hsz:((w.alloc (.deferred (some []))).heap.size)=w.heap.size+1:=by simp
    have hold: ∀k,k<w.heap.size→((w.alloc (.deferred (some []))).alloc (.loop (mkRec fn a.tmps ps assign body w.heap.size .ready none))).heap[k]? =w.heap[k]? :=fun k hk=>by
      rw [alloc_old _ _ _ (by omega),alloc_old _ _ _ hk]
    have hR:Reach w (blks (Hs++Hc)) σ σ ((w.alloc (.deferred (some []))).alloc (.loop (mkRec fn a.tmps ps assign body w.heap.size .ready none))) (Res.lrec (w.heap.size+1) (.loop (mkRec fn a.tmps ps assign body w.heap.size .ready none))::(Hs++Hc)):=
      hw.self.gain rfl rfl rfl (by simp;omega) (Nat.le_refl _) hold (by
        have:=World.alloc_heap_new (w.alloc (.deferred (some []))) (.loop (mkRec fn a.tmps ps assign body w.heap.size .ready none))
        rw [hsz]at this;exact this) (fun b hb=>by simp [Res.lrec]at hb;omega) (by simp [Res.lrec])
    have h1:=hw.step hR (a':=a) rfl
    refine ⟨h1.toReach,⟨fun _=> ?_,(fun _ h=>by rw [hown]at h;cases h),fun l hl=>by rw [hr]at hl;cases hl⟩⟩
    obtain ⟨Ds,g1,g2,g3⟩:=h1.marks.ex hown
    obtain ⟨Ds0,g10,g20,g30⟩:=hw.marks.ex hown
    have hDs:Ds=Ds0:=by
      have:=g1.symm.trans g10
      have h2: ∀(A B:List Nat),A.map (fun D=>({target:= .collected D,args:= #[]}:Deferred))=B.map (fun D=>({target:= .collected D,args:= #[]}:Deferred))→A=B:=fun A=>by
        induction A with
        |nil=>intro B h;cases B with
          |nil=>rfl
          |cons b B=>simp at h
        |cons a A ih=>intro B h;cases B with
          |nil=>simp at h
          |cons b B=>simp only [List.map_cons,List.cons.injEq,Deferred.mk.injEq,Target.collected.injEq,and_true]at h;rw [h.1,ih B h.2]
      exact h2 _ _ this
    subst hDs
    refine ⟨w.heap.size::Ds,by simp [g1],List.nodup_cons.2 ⟨fun hx=> ?_,g2⟩,fun D hD=> ?_⟩
    · have:=(Array.getElem?_eq_some_iff.1 (g30 _ hx).1).1;omega
    rcases List.mem_cons.1 hD with rfl|hD
    · refine ⟨?_,hw.size,fun hx=> ?_,?_⟩
      · rw [alloc_old _ _ _ (by omega)];exact World.alloc_heap_new w _
      · simp only [blks,List.flatMap_cons,Res.lrec,List.cons_append,List.nil_append,List.mem_cons]at hx
        rcases hx with hx|hx
        · omega
        obtain ⟨r,hr',hb⟩:=mem_blks.1 hx
        have:=hw.block_lt hr' hb;omega
      cases hs:σ w.heap.size with
      |none=>rfl
      |some o=>have:=(Array.getElem?_eq_some_iff.1 (hw.fit _ _ hs)).1;omega
    exact g3 D hD
  |some l0=>
    obtain ⟨hd0,⟨r0,h1⟩,h2,h3⟩:=hw.marks.rc l0 hr
    refine ⟨w.heap.size,_,_,_,_,f,_,_,run_enterLoop_inner h1 _ _ _ _ _,hres _ _,fun _ _=>trivial,hinv _ _,(fun h=>by cases h),hr▸key w.heap.size r0.defers _ a rfl ?_⟩
    refine hw.step (hw.self.gain rfl rfl rfl (by simp) (Nat.le_refl _) (fun k hk=>alloc_old _ _ _ hk) (World.alloc_heap_new w _) (fun b hb=>by simp [Res.lrec]at hb;omega) (by simp [Res.lrec])) rfl
end Go.E
end

noncomputable section
namespace Go.E
open Go
theorem TC.rangeG{X:Ctx}{Q:QP}{e:Env}{H Hs Hc:List Res}{S α:Type}{g:Operand}{ps:Array Tmp}{assign body:Code}{f:Nat}{lb:List Value}{A:α→Store→List Value→Prop}
    (J:List Code) (B:S→α→Option (Nat×S)) (G:S→Store→List Res→Prop) {s:S} {q:Nat×S} {PostC:Store→List Res→Prop}
    (hg:ev e g= .func (.func f) #[] lb.toArray) (hp:plainF X.P f=true) (hH:Hs++Hc=H) (hps:ps.toList.all (fun p=>Nat.blt p X.n)=true)
    (hG: ∀{s σ σ' H},G s σ H→σ.le σ'→G s σ' H) (h0:G s σ Hs) (hA: ∀x σ vs,A x σ vs→vs.length=ps.size)
    (hit:IterOk X.P f lb A (stepY B) σ Hc (0,s) q PostC)
    (hbody: ∀(l:Nat) (w0:World) (C:List Nat) (τ σ':Store) (s:S) (x:α) (q:Nat×S) (vs:List Value) (Hs:List Res),B s x=some q→σ.le σ'→A x σ' vs→G s σ' Hs→
      TC ⟨X.P,w0,C,τ,X.n,some l,none⟩ (asgQ fun e σ H=> ∀w0 C τ,TC ⟨X.P,w0,C,τ,X.n,some l,none⟩ (rndQ J fun j σ H=>q.1=j∧ ∃F,Sub F H∧G q.2 σ F) body e σ H) assign (bindE e ps.toList vs) σ' Hs)
    (hdone: ∀σ' Hs' Hc',σ.le σ'→G q.2 σ' Hs'→PostC σ' Hc'→jmpQ X Q J q.1 e σ' (Hs'++Hc')) (hown:X.own=none:=by rfl):TC X Q (.rangeFunc g ps assign body) e σ H:=by
  refine TC.rangeFunc J B G hg hp hH hps hG h0 hA hit (fun l w0 C τ σ' s x q vs Hs h1 h2 h3 h4=>(hbody l w0 C τ σ' s x q vs Hs h1 h2 h3 h4).weak fun ex e σ H h=> ?_) hdone hown
  cases ex with
  |normal=>
    refine fun w0 C τ=>TC.weakR ((h w0 C τ).weak fun ex e σ H h=> ?_)
    cases ex with
    |normal=>obtain ⟨h1,F,hs,hg⟩:=h;exact ⟨F,hs,h1,hg⟩
    |ret=>obtain ⟨j,hj,h1,F,hs,hg⟩:=h;exact ⟨F,hs,j,hj,h1,hg⟩
    |exit i=>obtain ⟨j,hj,h1,F,hs,hg⟩:=h;exact ⟨F,hs,j,hj,h1,hg⟩
    |goto i=>obtain ⟨j,hj,h1,F,hs,hg⟩:=h;exact ⟨F,hs,j,hj,h1,hg⟩
    |panic c=>exact h.elim
    |outgrown=>exact h.elim
  |exit i=>exact h
  |goto i=>exact h
  |ret=>exact h
  |panic c=>exact h
  |outgrown=>exact h
theorem asg_n{K:Env→Store→List Res→Prop}{e:Env}{H:List Res}(h:K e σ H):asgQ K .normal e σ H:=h
theorem rnd_n{J:List Code}{K:Nat→Store→List Res→Prop}{e:Env}{H:List Res}(h:K 0 σ H):rndQ J K .normal e σ H:=h
def jsel{α:Type}:Nat→Option α→(Nat→Option α)→Option α
  |0,a,_=>a
  |n+1,_,b=>b n
theorem jmp_split{X:Ctx}{Q:QP}{J:List Code}{n:Nat}{e:Env}{H:List Res}{α:Type}{a:Option α}{b:Nat→Option α}{r:α}(hh:jsel n a b=some r)
    (h0:a=some r→Q .normal e σ H) (h1: ∀m c,b m=some r→J[m]? =some c→TC X Q c e σ H):jmpQ X Q J n e σ H:=by
  cases n with
  |zero=>exact h0 hh
  |succ m=>exact fun c hc=>h1 m c hh hc
theorem jl_nil{X:Ctx}{Q:QP}{c:Code}{m:Nat}{e:Env}{H:List Res}(hc:([]:List Code)[m]? =some c):TC X Q c e σ H:=by simp at hc
end Go.E
end
