/- Parts of a proof, one behind the other: what a machine reaches, functions decompiled, plain lemmas. Conditions stand with each lemma. -/
import Derived.Test.YtchebnpdnfhenaaGreatDoorBe907f0b88f
import Derived.Test.YtchebnpdnfhenaaGreatDoorB9e851d3b3d
import Derived.Test.YtchebnpdnfhenaaGreatDoorBf31ea07f37

set_option linter.unusedVariables false
set_option linter.unusedSimpArgs false
set_option linter.unusedSectionVars false
set_option maxRecDepth 100000
set_option maxHeartbeats 8000000
variable {σ:Go.E.Store}{a0_0 a0_1 a0_2 a0_3 a1_0 a1_1 a1_2 a1_3 a2_0:Option Go.Addr}{Eb0 b0_0 c0_0 c0_1 c0_2 c0_3 c1_0 c1_1 c1_2 c1_3 c2_0:Nat}

noncomputable section
namespace Go.Proofs.YtchebnpdnfhenaaGreatDoor
open Go Go.E Go.E.OpVal Go.E.OpOk Go.Proofs.Tryz
theorem pf41:plainF Tryz.prog 41=true:=by kernel_rfl
theorem pf42:plainF Tryz.prog 42=true:=by kernel_rfl
theorem pf82:plainF Tryz.prog 82=true:=by kernel_rfl
def Cy_(k117:Nat)(l121:List UInt8):Option (((List UInt8)×Nat)⊕((List UInt8))):=
 nxt (l121,(k117+1))
def Aw_(x0:BSet)(l114:List UInt8)(k117:Nat):Option (((List UInt8)×Nat)⊕((List UInt8))):=
 iteO (decide (((k117:Nat):Int)<256)) (grd (k117<256) (iteO (x0.has k117) (grd ((l114.length+[(toU8 ((k117:Nat):Int))].length) * 1≤140737488355328) (Cy_ k117 (l114++[(toU8 ((k117:Nat):Int))]))) (Cy_ k117 l114))) (fin (some l114))
def Dh_(x0:BSet):Option ((List UInt8)):=
 iter (fun q:(List UInt8)×Nat=>Aw_ x0 q.1 q.2) (([]:List UInt8),0)
def Gq_(σ:Store)(r:(List UInt8)):Value→Store→List Res→Prop:=fun v σ' H'=>
 ∃a1 c1,v= .slice a1 r.length c1∧σ=σ'∧H'=[Res.rowS 5 1 encU8 (.slice a1 r.length c1) r]
theorem Ge_{x0:BSet}{r:(List UInt8)}(hh:Dh_ x0=some r):
  Con Tryz.prog 41 #[setV x0] σ [] (Gq_ σ r):=by
 dsimp only [Dh_]at hh
 refine Con.mk (n:=18) Tryz.func41 z z z (fun w0=> ?_)
 refine TC.a (TL.op z (boxA z z z z (fun b101=> ?_)))
 refine TL.s z z (TL.en (TC.a (TL.s z z (TL.en (TC.seq (TC.a (TL.i z z (TL.en (TC.block (TC.nilS 5 1 encU8 (TC.loopG (α:=((List UInt8)×Nat)×((Option Addr)×Nat)) (rgs [(3,14)]) (fun g=>[(3,.slice g.2.1 g.1.1.length g.2.2),(4,.int .i64 ((g.1.2:Nat):Int))]) (fun g=>[Res.cells b101 (setA x0) 64,Res.rowS 5 1 encU8 (.slice g.2.1 g.1.1.length g.2.2) g.1.1]) (fun g=>σ) (fun g=>iter (fun q:(List UInt8)×Nat=>Aw_ x0 q.1 q.2) g.1=some r) (fun g=>rounds (fun q:(List UInt8)×Nat=>Aw_ x0 q.1 q.2) g.1) ((([]:List UInt8),0),(none,0)) (Sub.f [1] 2) z (by repeat (first|exact trivial|refine ⟨z,?_⟩)) hh (fun g1 j1 hg1=> ?_))))))))))))
 obtain ⟨⟨l114,k117⟩,⟨a115,c116⟩⟩:=g1
 have hh:=hg1;clear hg1
 try dsimp only
 obtain ⟨z1,hh,hR1⟩:=iter_e hh
 dsimp only [Aw_]at hh
 refine TC.isSl (i:=1) z (fun _ hb119 _=> ?_)
 refine TC.seq (TC.a (TL.i z z (TL.w z (OpVal.lss z z z) (TL.en (TC.cD z hh (fun h120 hh=> ?_) (fun h120 hh=> ?_))))))
 ·refine TC.skip (S.n (TC.cutG (α:=((List UInt8))×((Option Addr)×Nat)) (rgs [(3,1),(9,8)]) (fun g=>[(3,.slice g.2.1 g.1.length g.2.2)]) (fun g=>[Res.cells b101 (setA x0) 64,Res.rowS 5 1 encU8 (.slice g.2.1 g.1.length g.2.2) g.1]) (fun g=>σ) (fun g=>Cy_ k117 g.1=some z1) ?_ (fun g j hg=> ?_)))
  ·skip
   refine TC.block (TC.a (TL.w z (loadAll z ag64 sz64 z (i:=0) z z) (TL.i z z ?_)))
   have u9:=grd_c hh
   replace hh:=grd_t hh
   refine TL.op z (callP (rhas_con _ x0 k117 (BSet.isOk _) u9) z z pf82 z z z ?_)
   refine TL.en (TC.cB z hh (fun h124 hh=> ?_) (fun h124 hh=> ?_))
   ·refine TC.region (TL.s z z (TL.i z z (TL.w z (convU8 z underlying3 underlying5 z) (TL.op z (OpOk.lit (enc:=encU8) [(toU8 ((k117:Nat):Int))] z underlying60 sz5 ze5 z z z encU8_len (by decide) (by decide) (0:UInt8) z (by decide) z (by decide) encU8_one (fun a125 c126=> ?_))))))
    refine TL.front 2 z z ?_
    have u14:=grd_c hh
    replace hh:=grd_t hh
    refine TL.op z (appendS z z underlying60 sz5 by5 ze5 z z (by decide) z z z (.inr ⟨_,0,z⟩) (by simpa using u14) (by decide) (fun a128 c129=> ?_))
    exact TL.s z z (TL.nil (B.n (S.n (cf ((l114++[(toU8 ((k117:Nat):Int))]),(a128,c129)) hh (Sub.f [2] 2)))))
   exact TC.skip (B.n (S.n (cf (l114,(a115,c116)) hh (Sub.f [1,1] 2))))
  skip
  obtain ⟨l121,⟨a122,c123⟩⟩:=g
  have hh:=hg;clear hg
  try dsimp only
  dsimp only [Cy_]at hh
  refine TC.isSl (i:=1) z (fun _ hb130 _=> ?_)
  refine TC.region (TL.i z z (TL.w z (OpVal.succ z z z (by omega)) (TL.i z z (TL.en ?_))))
  obtain ⟨hh,hlt131⟩:=nxt_x hR1 hh
  exact lf ((l121,(k117+1)),(a122,c123)) hlt131 hh (Sub.f [1,1] 2)
 refine TC.exit (S.x (S.x ?_))
 replace hh:=fin_x hR1 hh
 refine TC.exitHere (S.n (TC.a (TL.s z z (TL.s z z (TL.en (TC.ofSub (Sub.f [1] 1) (TC.ret ?_)))))))
 obtain rfl:=so hh
 exact ro [Res.rowS 5 1 encU8 (.slice a115 l114.length c116) l114] z (RVs.tmp z RVs.nil) ⟨a115,c116,z,z,z⟩
def Ci_(x0:Fst)(i103:Int):Option (Bool):=
 bnd (Dw_ x0) (fun v29=>iteO v29 (iteO (decide (((x0.arcs.length:Nat):Int)≤14)) (iteO (decide (x0.states≤5)) (some (decide (i103≤40))) (iteO (decide (1024<x0.states)) (some (decide (i103≤40))) (some false))) (some false)) (some false))
def A0_(x0:Fst)(i108:Int)(k109:Nat):Option ((Int×Nat)⊕(Bool)):=
 iteO (decide (((k109:Nat):Int)<((x0.arcs.length:Nat):Int))) (iteO (decide (i108≤40)) (bnd (Dh_ ((nth x0.arcs k109 Arc.zero).set)) (fun v21=>nxt ((IntKind.i64.wrap (i108+((v21.length:Nat):Int))),(k109+1)))) (fin (Ci_ x0 i108))) (fin (Ci_ x0 i108))
def Dv_(x0:Fst):Option (Bool):=
 iter (fun q:Int×Nat=>A0_ x0 q.1 q.2) (0,0)
theorem Gs_{x0:Fst}(f0_0:RS σ 2 encTip (.slice a0_0 x0.starts.length c0_0) x0.starts)(f0_1:RS σ 2 encTip (.slice a0_1 x0.ends.length c0_1) x0.ends)(f0_2:RS σ 8 encArc (.slice a0_2 x0.arcs.length c0_2) x0.arcs){r:Bool}(hh:Dv_ x0=some r):
  Con Tryz.prog 13 #[.agg #[.int .i64 x0.states,.slice a0_0 x0.starts.length c0_0,.slice a0_1 x0.ends.length c0_1,.slice a0_2 x0.arcs.length c0_2]] σ [] (PureP (.bool r) σ):=by
 dsimp only [Dv_]at hh
 have f0_0b:=f0_0.rv.big
 have f0_1b:=f0_1.rv.big
 have f0_2b:=f0_2.rv.big
 refine Con.mk (n:=48) Tryz.func13 z z z (fun w0=> ?_)
 refine TC.a (TL.op z (boxA z z z z (fun b101=> ?_)))
 refine TL.j z z (TL.en (TC.a (TL.i z z (TL.en (TC.cutG (α:=(Int)×(Unit)) (rgs [(3,23)]) (fun g=>[(3,.int .i64 g.1)]) (fun g=>[Res.cells b101 #[.int .i64 x0.states,.slice a0_0 x0.starts.length c0_0,.slice a0_1 x0.ends.length c0_1,.slice a0_2 x0.arcs.length c0_2] 25]) (fun g=>σ) (fun g=>Ci_ x0 g.1=some r) ?_ (fun g j hg=> ?_))))))
 ·skip
  refine TC.a (TL.i z z (TL.en (TC.block (TC.loopG (α:=(Int×Nat)×(Unit)) (rgs [(3,23)]) (fun g=>[(3,.int .i64 g.1.1),(4,.int .i64 ((g.1.2:Nat):Int))]) (fun g=>[Res.cells b101 #[.int .i64 x0.states,.slice a0_0 x0.starts.length c0_0,.slice a0_1 x0.ends.length c0_1,.slice a0_2 x0.arcs.length c0_2] 25]) (fun g=>σ) (fun g=>iter (fun q:Int×Nat=>A0_ x0 q.1 q.2) g.1=some r) (fun g=>rounds (fun q:Int×Nat=>A0_ x0 q.1 q.2) g.1) ((0,0),()) (Sub.pre 1 z) z (by repeat (first|exact trivial|refine ⟨z,?_⟩)) hh (fun g1 j1 hg1=> ?_)))))
  obtain ⟨⟨i108,k109⟩,_⟩:=g1
  have hh:=hg1;clear hg1
  try dsimp only
  obtain ⟨z1,hh,hR1⟩:=iter_e hh
  dsimp only [A0_]at hh
  refine TC.seq (TC.a (TL.i z z (TL.w z (fieldLoc z fo25_3 z) (TL.w z (loadLoc z ag23 z (i:=0) z z) (TL.w z (lenC z underlying23 z) (TL.w z (OpVal.lss z z z) (TL.j z z (TL.split 10 z (fun h110=> ?_) (fun h110=> ?_)))))))))
  ·replace hh:=iteO_t h110 hh
   replace h110:=of_decide_eq_true h110
   refine TL.g z (moveI (.inl z) z) (TL.g z (OpVal.leq z z z) (TL.w z (pickTB z z z) (TL.en (TC.cD z hh (fun h111 hh=> ?_) (fun h111 hh=> ?_)))))
   ·refine TC.skip (S.n (TC.seq (TC.block (TC.region (TL.i z z (TL.w z (fieldLoc z fo25_3 z) (TL.w z (loadLoc z ag23 z (i:=0) z z) (TL.i z z (TL.w z (indexN z underlying23 sz66 z z f0_2.rv.sl (by omega)) (TL.w z (fieldElem z fo66_2 z f0_2.rv.sl (by omega)) (TL.w z (loadSub Arc.zero z ag64 sz64 z f0_2 (by omega) (by omega) (by omega) z z) ?_)))))))))))
    obtain ⟨v21,u21,hh⟩:=bnd_e hh
    refine TL.op z (OpOk.call (Ge_ u21) z z pf41 z z z z ?_)
    rintro _ _ _ hle112 ⟨a112_1,c112_1,rfl,rfl,rfl⟩
    refine TL.w z (lenC z underlying60 z) (TL.w z (addW z z z) (TL.i z z (TL.nil (B.n (S.n (TC.region (TL.i z z (TL.w z (OpVal.succ z z z (by omega)) (TL.i z z (TL.en ?_))))))))))
    obtain ⟨hh,hlt114⟩:=nxt_x hR1 hh
    exact lf (((IntKind.i64.wrap (i108+((v21.length:Nat):Int))),(k109+1)),()) hlt114 hh (Sub.f [1] 1)
   refine TC.exit (S.x (S.x ?_))
   replace hh:=fin_x hR1 hh
   exact TC.exitHere (S.n (cf (i108,()) hh (Sub.pre 1 z)))
  replace hh:=iteO_f h110 hh
  replace h110:=of_decide_eq_false h110
  refine TL.f z (TL.f z (TL.w z (pickFB z z z) (TL.en (TC.f z (TC.exit (S.x (S.x ?_)))))))
  replace hh:=fin_x hR1 hh
  exact TC.exitHere (S.n (cf (i108,()) hh (Sub.pre 1 z)))
 skip
 obtain ⟨i103,_⟩:=g
 have hh:=hg;clear hg
 try dsimp only
 dsimp only [Ci_]at hh
 refine TC.a (TL.w z (loadAll z ag25 sz25 z (i:=0) z z) ?_)
 obtain ⟨v29,u29,hh⟩:=bnd_e hh
 refine TL.op z (callP (Go_ (x0:=x0) f0_0 f0_1 f0_2 u29) z z pf42 z z z ?_)
 refine TL.j z z (TL.split 28 z (fun h115=> ?_) (fun h115=> ?_))
 ·replace hh:=iteO_t h115 hh
  refine TL.g z (fieldLoc z fo25_3 z) (TL.g z (loadLoc z ag23 z (i:=0) z z) (TL.g z (lenC z underlying23 z) (TL.g z (OpVal.leq z z z) (TL.w z (pickTB z z z) (TL.j z z (TL.split 34 z (fun h116=> ?_) (fun h116=> ?_)))))))
  ·replace hh:=iteO_t h116 hh
   replace h116:=of_decide_eq_true h116
   refine TL.g z (fieldLoc z fo25_0 z) (TL.g z (loadLoc z ag3 z (i:=0) z z) (TL.g z (OpVal.leq z z z) (TL.g z (moveB (.inl z) z) (TL.split 38 z (fun h117=> ?_) (fun h117=> ?_)))))
   ·replace hh:=iteO_t h117 hh
    replace h117:=of_decide_eq_true h117
    refine TL.f z (TL.f z (TL.f z (TL.g z (pickTB z z z) (TL.w z (pickTB z z z) (TL.j z z (TL.g z (moveI (.inl z) z) (TL.g z (OpVal.leq z z z) (TL.w z (pickTB z z z) (TL.j z z (TL.en (TC.rt 0 ?_)))))))))))
    obtain rfl:=so hh
    exact rq [2] ⟨z,z,z⟩
   replace hh:=iteO_f h117 hh
   replace h117:=of_decide_eq_false h117
   refine TL.g z (fieldLoc z fo25_0 z) (TL.g z (loadLoc z ag3 z (i:=0) z z) (TL.g z (OpVal.gtr z z z) (TL.g z (pickFB z z z) (TL.w z (pickTB z z z) (TL.j z z (TL.split 44 z (fun h118=> ?_) (fun h118=> ?_)))))))
   ·replace hh:=iteO_t h118 hh
    replace h118:=of_decide_eq_true h118
    refine TL.g z (moveI (.inl z) z) (TL.g z (OpVal.leq z z z) (TL.w z (pickTB z z z) (TL.j z z (TL.en (TC.rt 0 ?_)))))
    obtain rfl:=so hh
    exact rq [2] ⟨z,z,z⟩
   replace hh:=iteO_f h118 hh
   replace h118:=of_decide_eq_false h118
   refine TL.f z (TL.f z (TL.w z (pickFB z z z) (TL.j z z (TL.en (TC.rt 0 ?_)))))
   obtain rfl:=so hh
   exact rq [2] ⟨z,z,z⟩
  replace hh:=iteO_f h116 hh
  replace h116:=of_decide_eq_false h116
  refine TL.f z (TL.f z (TL.f z (TL.f z (TL.f z (TL.f z (TL.f z (TL.f z (TL.w z (pickFB z z z) (TL.j z z (TL.f z (TL.f z (TL.w z (pickFB z z z) (TL.j z z (TL.en (TC.rt 0 ?_)))))))))))))))
  obtain rfl:=so hh
  exact rq [2] ⟨z,z,z⟩
 replace hh:=iteO_f h115 hh
 refine TL.f z (TL.f z (TL.f z (TL.f z (TL.w z (pickFB z z z) (TL.j z z (TL.f z (TL.f z (TL.f z (TL.f z (TL.f z (TL.f z (TL.f z (TL.f z (TL.w z (pickFB z z z) (TL.j z z ?_)))))))))))))))
 refine TL.f z (TL.f z (TL.w z (pickFB z z z) (TL.j z z (TL.en (TC.rt 0 ?_)))))
 obtain rfl:=so hh
 exact rq [2] ⟨z,z,z⟩
end Go.Proofs.YtchebnpdnfhenaaGreatDoor
end

noncomputable section
namespace Go.Proofs.YtchebnpdnfhenaaGreatDoor
open Go Go.E Go.E.OpVal Go.E.OpOk Go.Proofs.Tryz
theorem pf59:plainF Tryz.prog 59=true:=by kernel_rfl
theorem pf91:plainF Tryz.prog 91=true:=by kernel_rfl
def B5_(k144:Nat)(l147:List Bool)(t149:Bool):Option (((List Bool)×Bool×Nat)⊕(((List Bool)×Bool)⊕((List Bool)))):=
 nxt (l147,t149,(k144+1))
def B4_(l141:List Bool)(k144:Nat)(t143:Bool)(i151:Int)(i152:Int):Option (((List Bool)×Bool×Nat)⊕(((List Bool)×Bool)⊕((List Bool)))):=
 grd (0≤i151∧i151<(l141.length:Int)) (iteO (nth l141 i151.toNat false) (grd (0≤i152∧i152<(l141.length:Int)) (iteO (!(nth l141 i152.toNat false)) (grd (0≤i152∧i152<(l141.length:Int)) (B5_ k144 (l141.set i152.toNat true) true)) (B5_ k144 l141 t143))) (B5_ k144 l141 t143))
def Al_(x0:Fst)(x2:Bool)(l141:List Bool)(t143:Bool)(k144:Nat):Option (((List Bool)×Bool×Nat)⊕(((List Bool)×Bool)⊕((List Bool)))):=
 iteO (decide (((k144:Nat):Int)<((x0.arcs.length:Nat):Int))) (iteO x2 (B4_ l141 k144 t143 ((nth x0.arcs k144 Arc.zero).to) ((nth x0.arcs k144 Arc.zero).frm)) (B4_ l141 k144 t143 ((nth x0.arcs k144 Arc.zero).frm) ((nth x0.arcs k144 Arc.zero).to))) (fin (nxt (l141,t143)))
def Au_(x0:Fst)(x2:Bool)(l127:List Bool)(t129:Bool):Option (((List Bool)×Bool)⊕((List Bool))):=
 iteO t129 (iter (fun q:(List Bool)×Bool×Nat=>Al_ x0 x2 q.1 q.2.1 q.2.2) (l127,false,0)) (fin (some l127))
def Av_(x1:List Tip)(x0:Fst)(x2:Bool)(l112:List Bool)(k114:Nat):Option (((List Bool)×Nat)⊕((List Bool))):=
 iteO (decide (((k114:Nat):Int)<((x1.length:Nat):Int))) (grd (0≤((nth x1 k114 Tip.zero).state)∧((nth x1 k114 Tip.zero).state)<(l112.length:Int)) (nxt ((l112.set (((nth x1 k114 Tip.zero).state).toNat) true),(k114+1)))) (fin (iter (fun q:(List Bool)×Bool=>Au_ x0 x2 q.1 q.2) (l112,true)))
def Cu_(x0:Fst)(x1:List Tip)(x2:Bool):Option ((List Bool)):=
 grd (0≤x0.states∧1 * x0.states.toNat≤281474976710656) (iter (fun q:(List Bool)×Nat=>Av_ x1 x0 x2 q.1 q.2) ((List.replicate x0.states.toNat false),0))
def Gu_(σ:Store)(r:(List Bool)):Value→Store→List Res→Prop:=fun v σ' H'=>
 ∃a1 c1,v= .slice a1 r.length c1∧RS σ' 1 encB (.slice a1 r.length c1) r∧H'=[]
theorem E0_{x0:Fst}{x1:List Tip}{x2:Bool}(f0_0:RS σ 2 encTip (.slice a0_0 x0.starts.length c0_0) x0.starts)(f0_1:RS σ 2 encTip (.slice a0_1 x0.ends.length c0_1) x0.ends)(f0_2:RS σ 8 encArc (.slice a0_2 x0.arcs.length c0_2) x0.arcs)(f1_0:RS σ 2 encTip (.slice a1_0 x1.length c1_0) x1){r:(List Bool)}(hh:Cu_ x0 x1 x2=some r):
  Con Tryz.prog 91 #[.agg #[.int .i64 x0.states,.slice a0_0 x0.starts.length c0_0,.slice a0_1 x0.ends.length c0_1,.slice a0_2 x0.arcs.length c0_2],.slice a1_0 x1.length c1_0,.bool x2] σ [] (Gu_ σ r):=by
 dsimp only [Cu_]at hh
 have f0_0b:=f0_0.rv.big
 have f0_1b:=f0_1.rv.big
 have f0_2b:=f0_2.rv.big
 have f1_0b:=f1_0.rv.big
 refine Con.mk (n:=77) Tryz.func91 z z z (fun w0=> ?_)
 refine TC.a (TL.op z (boxA z z z z (fun b101=> ?_)))
 refine TL.s z z (TL.en (TC.a (TL.w z (fieldLoc z fo25_0 z) (TL.w z (loadLoc z ag3 z (i:=0) z z) ?_))))
 have u5:=grd_c hh
 replace hh:=grd_t hh
 refine TL.op rfl (makeS2 (m:=x0.states.toNat) (enc:=encB) false rfl underlying29 sz4 by4 ze4 rfl rfl (vN u5.1) (vN u5.1) (by omega) (by decide) encB_len (by decide) rfl encB_one (fun a103 c104=> ?_))
 refine TL.s z z (TL.en (TC.seq (TC.a (TL.i z z (TL.en (TC.block (TC.loopG (α:=((List Bool)×Nat)×(Unit)) (rgs [(8,1),(16,13)]) (fun g=>[(8,.int .i64 ((g.1.2:Nat):Int))]) (fun g=>[Res.cells b101 #[.int .i64 x0.states,.slice a0_0 x0.starts.length c0_0,.slice a0_1 x0.ends.length c0_1,.slice a0_2 x0.arcs.length c0_2] 25,Res.rowS 4 1 encB (.slice a103 (List.replicate x0.states.toNat false).length c104) g.1.1]) (fun g=>σ) (fun g=>iter (fun q:(List Bool)×Nat=>Av_ x1 x0 x2 q.1 q.2) g.1=some r∧g.1.1.length=(List.replicate x0.states.toNat false).length) (fun g=>rounds (fun q:(List Bool)×Nat=>Av_ x1 x0 x2 q.1 q.2) g.1) (((List.replicate x0.states.toNat false),0),()) (Sub.f [1] 2) z (by repeat (first|exact trivial|refine ⟨z,?_⟩)) ⟨hh,z⟩ (fun g1 j1 hg1=> ?_))))))))
 obtain ⟨⟨l112,k114⟩,_⟩:=g1
 obtain ⟨hh,hn113⟩:=hg1
 try dsimp only at hn113 ⊢
 obtain ⟨z1,hh,hR1⟩:=iter_e hh
 dsimp only [Av_]at hh
 have hn113b:=hn113
 refine TC.isSl (i:=1) z (fun _ hb115 _=> ?_)
 refine TC.seq (TC.a (TL.i z z (TL.s z z (TL.w z (lenC z underlying22 z) (TL.w z (OpVal.lss z z z) (TL.en (TC.cD z hh (fun h116 hh=> ?_) (fun h116 hh=> ?_))))))))
 ·refine TC.skip (S.n (TC.seq (TC.block (TC.region (TL.s z z (TL.s z z (TL.i z z (TL.w z (indexN z underlying22 sz76 z z f1_0.rv.sl (by omega)) (TL.w z (fieldElem z fo76_0 z f1_0.rv.sl (by omega)) (TL.w z (loadS Tip.zero z ag3 z f1_0 (by omega) (by omega) z) ?_))))))))))
  have u18:=grd_c hh
  replace hh:=grd_t hh
  refine TL.isSl (i:=1) z (fun hs117 _ _=> ?_)
  refine TL.w z (OpVal.index z underlying29 sz4 z z hs117 u18.1 u18.2) (TL.front 1 z z ?_)
  have hn118:(l112.set (((nth x1 k114 Tip.zero).state).toNat) true).length=(List.replicate x0.states.toNat false).length:=by rw [List.length_set];exact hn113
  refine TL.op z (storeS true z sz4 z z z z encB_len encB_one (by omega) (by omega) ?_)
  refine TL.nil (B.n (S.n (TC.region (TL.i z z (TL.w z (OpVal.succ z z z (by omega)) (TL.i z z (TL.en ?_)))))))
  obtain ⟨hh,hlt119⟩:=nxt_x hR1 hh
  exact lf (((l112.set (((nth x1 k114 Tip.zero).state).toNat) true),(k114+1)),()) hlt119 ⟨hh,hn118⟩ (Sub.f [1] 2)
 refine TC.exit (S.x (S.x ?_))
 replace hh:=fin_x hR1 hh
 refine TC.exitHere (S.n (TC.seq (TC.a (TL.j z z (TL.en (TC.block (TC.loopG (α:=((List Bool)×Bool)×(Unit)) (rgs [(9,4),(29,47)]) (fun g=>[(9,.bool g.1.2)]) (fun g=>[Res.cells b101 #[.int .i64 x0.states,.slice a0_0 x0.starts.length c0_0,.slice a0_1 x0.ends.length c0_1,.slice a0_2 x0.arcs.length c0_2] 25,Res.rowS 4 1 encB (.slice a103 (List.replicate x0.states.toNat false).length c104) g.1.1]) (fun g=>σ) (fun g=>iter (fun q:(List Bool)×Bool=>Au_ x0 x2 q.1 q.2) g.1=some r∧g.1.1.length=(List.replicate x0.states.toNat false).length) (fun g=>rounds (fun q:(List Bool)×Bool=>Au_ x0 x2 q.1 q.2) g.1) ((l112,true),()) (Sub.f [1,1] 2) z (by repeat (first|exact trivial|refine ⟨z,?_⟩)) ⟨hh,hn113⟩ (fun g2 j2 hg2=> ?_))))))))
 obtain ⟨⟨l127,t129⟩,_⟩:=g2
 obtain ⟨hh,hn128⟩:=hg2
 try dsimp only at hn128 ⊢
 obtain ⟨z1,hh,hR1⟩:=iter_e hh
 dsimp only [Au_]at hh
 have hn128b:=hn128
 refine TC.isSl (i:=1) z (fun _ hb130 _=> ?_)
 refine TC.seq (TC.a (TL.j z z (TL.en (TC.cB z hh (fun h131 hh=> ?_) (fun h131 hh=> ?_)))))
 ·refine TC.skip (S.n (TC.block (TC.a (TL.j z z (TL.en (TC.a (TL.i z z (TL.en (TC.block (TC.loopG (α:=((List Bool)×Bool×Nat)×(Unit)) (rgs [(9,4),(30,46)]) (fun g=>[(9,.bool g.1.2.1),(10,.int .i64 ((g.1.2.2:Nat):Int))]) (fun g=>[Res.cells b101 #[.int .i64 x0.states,.slice a0_0 x0.starts.length c0_0,.slice a0_1 x0.ends.length c0_1,.slice a0_2 x0.arcs.length c0_2] 25,Res.rowS 4 1 encB (.slice a103 (List.replicate x0.states.toNat false).length c104) g.1.1]) (fun g=>σ) (fun g=>iter (fun q:(List Bool)×Bool×Nat=>Al_ x0 x2 q.1 q.2.1 q.2.2) g.1=some z1∧g.1.1.length=(List.replicate x0.states.toNat false).length) (fun g=>rounds (fun q:(List Bool)×Bool×Nat=>Al_ x0 x2 q.1 q.2.1 q.2.2) g.1) ((l127,false,0),()) (Sub.f [1,1] 2) z (by repeat (first|exact trivial|refine ⟨z,?_⟩)) ⟨hh,hn128⟩ (fun g3 j3 hg3=> ?_)))))))))))
  obtain ⟨⟨l141,t143,k144⟩,_⟩:=g3
  obtain ⟨hh,hn142⟩:=hg3
  try dsimp only at hn142 ⊢
  obtain ⟨z2,hh,hR2⟩:=iter_e hh
  dsimp only [Al_]at hh
  have hn142b:=hn142
  refine TC.isSl (i:=1) z (fun _ hb145 _=> ?_)
  refine TC.seq (TC.a (TL.i z z (TL.w z (fieldLoc z fo25_3 z) (TL.w z (loadLoc z ag23 z (i:=0) z z) (TL.w z (lenC z underlying23 z) (TL.w z (OpVal.lss z z z) (TL.en (TC.cD z hh (fun h146 hh=> ?_) (fun h146 hh=> ?_)))))))))
  ·refine TC.skip (S.n (TC.cutG (α:=((List Bool)×Bool)×(Unit)) (rgs [(9,1),(11,2),(37,39)]) (fun g=>[(9,.bool g.1.2)]) (fun g=>[Res.cells b101 #[.int .i64 x0.states,.slice a0_0 x0.starts.length c0_0,.slice a0_1 x0.ends.length c0_1,.slice a0_2 x0.arcs.length c0_2] 25,Res.rowS 4 1 encB (.slice a103 (List.replicate x0.states.toNat false).length c104) g.1.1]) (fun g=>σ) (fun g=>B5_ k144 g.1.1 g.1.2=some z2∧g.1.1.length=(List.replicate x0.states.toNat false).length) ?_ (fun g j hg=> ?_)))
   ·skip
    refine TC.block (TC.a (TL.w z (fieldLoc z fo25_3 z) (TL.w z (loadLoc z ag23 z (i:=0) z z) (TL.i z z (TL.w z (indexN z underlying23 sz66 z z f0_2.rv.sl (by omega)) (TL.w z (fieldElem z fo66_0 z f0_2.rv.sl (by omega)) (TL.w z (loadS Arc.zero z ag3 z f0_2 (by omega) (by omega) z) (TL.i z z (TL.en (TC.a (TL.w z (fieldLoc z fo25_3 z) (TL.w z (loadLoc z ag23 z (i:=0) z z) (TL.i z z (TL.w z (indexN z underlying23 sz66 z z f0_2.rv.sl (by omega)) (TL.w z (fieldElem z fo66_1 z f0_2.rv.sl (by omega)) ?_)))))))))))))))
    refine TL.w z (loadS Arc.zero z ag3 z f0_2 (by omega) (by omega) z) (TL.i z z (TL.en (TC.cutG (α:=(Int×Int)×(Unit)) (rgs [(11,2),(49,13)]) (fun g=>[(11,.int .i64 g.1.1),(12,.int .i64 g.1.2)]) (fun g=>[Res.cells b101 #[.int .i64 x0.states,.slice a0_0 x0.starts.length c0_0,.slice a0_1 x0.ends.length c0_1,.slice a0_2 x0.arcs.length c0_2] 25,Res.rowS 4 1 encB (.slice a103 (List.replicate x0.states.toNat false).length c104) l141]) (fun g=>σ) (fun g=>B4_ l141 k144 t143 g.1.1 g.1.2=some z2∧l141.length=(List.replicate x0.states.toNat false).length) ?_ (fun g j hg=> ?_))))
    ·skip
     refine TC.a (TL.j z z (TL.en (TC.cB z hh (fun h153 hh=> ?_) (fun h153 hh=> ?_))))
     ·refine TC.a (TL.w z (fieldLoc z fo25_3 z) (TL.w z (loadLoc z ag23 z (i:=0) z z) (TL.i z z (TL.w z (indexN z underlying23 sz66 z z f0_2.rv.sl (by omega)) (TL.w z (fieldElem z fo66_1 z f0_2.rv.sl (by omega)) (TL.w z (loadS Arc.zero z ag3 z f0_2 (by omega) (by omega) z) (TL.i z z (TL.en (TC.region (TL.w z (fieldLoc z fo25_3 z) (TL.w z (loadLoc z ag23 z (i:=0) z z) (TL.i z z (TL.w z (indexN z underlying23 sz66 z z f0_2.rv.sl (by omega)) (TL.w z (fieldElem z fo66_0 z f0_2.rv.sl (by omega)) (TL.w z (loadS Arc.zero z ag3 z f0_2 (by omega) (by omega) z) ?_)))))))))))))))
      exact TL.i z z (TL.en (cf ((((nth x0.arcs k144 Arc.zero).to),((nth x0.arcs k144 Arc.zero).frm)),()) ⟨hh,hn142⟩ (Sub.f [1,1] 2)))
     exact TC.skip (S.n (cf ((((nth x0.arcs k144 Arc.zero).frm),((nth x0.arcs k144 Arc.zero).to)),()) ⟨hh,hn142⟩ (Sub.f [1,1] 2)))
    skip
    obtain ⟨⟨i151,i152⟩,_⟩:=g
    obtain ⟨hh,hn150⟩:=hg
    try dsimp only at hn150 ⊢
    dsimp only [B4_]at hh
    have hn150b:=hn150
    refine TC.isSl (i:=1) z (fun _ hb154 _=> ?_)
    refine TC.a (TL.s z z (TL.i z z ?_))
    have u63:=grd_c hh
    replace hh:=grd_t hh
    refine TL.isSl (i:=1) z (fun hs155 _ _=> ?_)
    refine TL.w z (OpVal.index z underlying29 sz4 z z hs155 u63.1 u63.2) (TL.w z (loadO1 false z ag4 z (q:=1) z encB_len (by omega) z) (TL.j z z (TL.split 66 z (fun h156=> ?_) (fun h156=> ?_))))
    ·replace hh:=iteO_t h156 hh
     refine TL.g z (moveSl (.inl z) z) (TL.g z (moveI (.inl z) z) ?_)
     have u68:=grd_c hh
     replace hh:=grd_t hh
     refine TL.isSl (i:=1) z (fun hs157 _ _=> ?_)
     refine TL.g z (OpVal.index z underlying29 sz4 z z hs157 u68.1 u68.2) (TL.g z (loadO1 false z ag4 z (q:=1) z encB_len (by omega) z) (TL.g z (OpVal.not z z) (TL.w z (pickTB z z z) (TL.en (TC.cB z hh (fun h158 hh=> ?_) (fun h158 hh=> ?_))))))
     ·refine TC.a (TL.s z z (TL.i z z ?_))
      have u74:=grd_c hh
      replace hh:=grd_t hh
      refine TL.isSl (i:=1) z (fun hs159 _ _=> ?_)
      refine TL.w z (OpVal.index z underlying29 sz4 z z hs159 u74.1 u74.2) (TL.front 1 z z ?_)
      have hn160:(l141.set i152.toNat true).length=(List.replicate x0.states.toNat false).length:=by rw [List.length_set];exact hn150
      refine TL.op z (storeS true z sz4 z z z z encB_len encB_one (by omega) (by omega) ?_)
      exact TL.en (TC.region (TL.j z z (TL.nil (B.n (S.n (cf (((l141.set i152.toNat true),true),()) ⟨hh,hn160⟩ (Sub.f [1] 2)))))))
     exact TC.skip (B.n (S.n (cf ((l141,t143),()) ⟨hh,hn150⟩ (Sub.f [1,1] 2))))
    replace hh:=iteO_f h156 hh
    exact TL.f z (TL.f z (TL.f z (TL.f z (TL.f z (TL.w z (pickFB z z z) (TL.en (TC.f z (TC.skip (B.n (S.n (cf ((l141,t143),()) ⟨hh,hn150⟩ (Sub.f [1,1] 2))))))))))))
   skip
   obtain ⟨⟨l147,t149⟩,_⟩:=g
   obtain ⟨hh,hn148⟩:=hg
   try dsimp only at hn148 ⊢
   dsimp only [B5_]at hh
   have hn148b:=hn148
   refine TC.isSl (i:=1) z (fun _ hb161 _=> ?_)
   refine TC.region (TL.i z z (TL.w z (OpVal.succ z z z (by omega)) (TL.i z z (TL.en ?_))))
   obtain ⟨hh,hlt162⟩:=nxt_x hR2 hh
   exact lf ((l147,t149,(k144+1)),()) hlt162 ⟨hh,hn148⟩ (Sub.f [1,1] 2)
  refine TC.exit (S.x (S.x ?_))
  replace hh:=fin_x hR2 hh
  refine TC.exitHere (B.n (S.n ?_))
  obtain ⟨hh,hlt163⟩:=nxt_x hR1 hh
  exact lf ((l141,t143),()) hlt163 ⟨hh,hn142⟩ (Sub.f [1,1] 2)
 refine TC.exit (S.x (S.x ?_))
 replace hh:=fin_x hR1 hh
 refine TC.exitHere (S.n (TC.a (TL.s z z (TL.s z z (TL.en ?_)))))
 rw [←hn128]
 refine TC.front 1 z z (TC.sealS encB_len (fun τ166 hle165 hr164=> ?_))
 have hr164b:=hr164.rv.big
 refine TC.rt 0 ?_
 obtain rfl:=so hh
 exact rq [6] ⟨a103,c104,z,hr164,z⟩
def Bs_(k124:Nat)(l127:List Int)(k129:Nat):Option (((List Int)×Nat×Nat)⊕(Fst×Int)):=
 nxt (l127,k129,(k124+1))
def C5_(k156:Nat)(l162:List Tip):Option (((List Tip)×Nat)⊕(Fst×Int)):=
 nxt (l162,(k156+1))
def C2_(k202:Nat)(l209:List Tip):Option (((List Tip)×Nat)⊕(Fst×Int)):=
 nxt (l209,(k202+1))
def B9_(k250:Nat)(l258:List Arc):Option (((List Arc)×Nat)⊕(Fst×Int)):=
 nxt (l258,(k250+1))
def A4_(x0:Fst)(l121:List Int)(k123:Nat)(l153:List Tip)(l199:List Tip)(l247:List Arc)(k250:Nat):Option (((List Arc)×Nat)⊕(Fst×Int)):=
 iteO (decide (((k250:Nat):Int)<((x0.arcs.length:Nat):Int))) (grd (0≤((nth x0.arcs k250 Arc.zero).frm)∧((nth x0.arcs k250 Arc.zero).frm)<(l121.length:Int)) (iteO (decide (0≤(nth l121 (((nth x0.arcs k250 Arc.zero).frm).toNat) (0:Int)))) (grd (0≤((nth x0.arcs k250 Arc.zero).to)∧((nth x0.arcs k250 Arc.zero).to)<(l121.length:Int)) (iteO (decide (0≤(nth l121 (((nth x0.arcs k250 Arc.zero).to).toNat) (0:Int)))) (grd (0≤((nth x0.arcs k250 Arc.zero).frm)∧((nth x0.arcs k250 Arc.zero).frm)<(l121.length:Int)) (grd (0≤((nth x0.arcs k250 Arc.zero).to)∧((nth x0.arcs k250 Arc.zero).to)<(l121.length:Int)) (grd ((l247.length+[(⟨(nth l121 (((nth x0.arcs k250 Arc.zero).frm).toNat) (0:Int)),(nth l121 (((nth x0.arcs k250 Arc.zero).to).toNat) (0:Int)),(nth x0.arcs k250 Arc.zero).set,(nth x0.arcs k250 Arc.zero).out,(nth x0.arcs k250 Arc.zero).copy⟩:Arc)].length) * 72≤140737488355328) (B9_ k250 (l247++[(⟨(nth l121 (((nth x0.arcs k250 Arc.zero).frm).toNat) (0:Int)),(nth l121 (((nth x0.arcs k250 Arc.zero).to).toNat) (0:Int)),(nth x0.arcs k250 Arc.zero).set,(nth x0.arcs k250 Arc.zero).out,(nth x0.arcs k250 Arc.zero).copy⟩:Arc)]))))) (B9_ k250 l247))) (B9_ k250 l247))) (fin (bnd (A2_ (⟨((k123:Nat):Int),l153,l199,l247⟩:Fst)) (fun v184=>some (v184.1,v184.2))))
def A3_(x0:Fst)(l121:List Int)(k123:Nat)(l153:List Tip)(l199:List Tip)(k202:Nat):Option (((List Tip)×Nat)⊕(Fst×Int)):=
 iteO (decide (((k202:Nat):Int)<((x0.ends.length:Nat):Int))) (grd (0≤((nth x0.ends k202 Tip.zero).state)∧((nth x0.ends k202 Tip.zero).state)<(l121.length:Int)) (iteO (decide (0≤(nth l121 (((nth x0.ends k202 Tip.zero).state).toNat) (0:Int)))) (grd (0≤((nth x0.ends k202 Tip.zero).state)∧((nth x0.ends k202 Tip.zero).state)<(l121.length:Int)) (grd ((l199.length+[(⟨(nth l121 (((nth x0.ends k202 Tip.zero).state).toNat) (0:Int)),(nth x0.ends k202 Tip.zero).out⟩:Tip)].length) * 24≤140737488355328) (C2_ k202 (l199++[(⟨(nth l121 (((nth x0.ends k202 Tip.zero).state).toNat) (0:Int)),(nth x0.ends k202 Tip.zero).out⟩:Tip)])))) (C2_ k202 l199))) (fin (iter (fun q:(List Arc)×Nat=>A4_ x0 l121 k123 l153 l199 q.1 q.2) (([]:List Arc),0)))
def Ar_(x0:Fst)(l121:List Int)(k123:Nat)(l153:List Tip)(k156:Nat):Option (((List Tip)×Nat)⊕(Fst×Int)):=
 iteO (decide (((k156:Nat):Int)<((x0.starts.length:Nat):Int))) (grd (0≤((nth x0.starts k156 Tip.zero).state)∧((nth x0.starts k156 Tip.zero).state)<(l121.length:Int)) (iteO (decide (0≤(nth l121 (((nth x0.starts k156 Tip.zero).state).toNat) (0:Int)))) (grd (0≤((nth x0.starts k156 Tip.zero).state)∧((nth x0.starts k156 Tip.zero).state)<(l121.length:Int)) (grd ((l153.length+[(⟨(nth l121 (((nth x0.starts k156 Tip.zero).state).toNat) (0:Int)),(nth x0.starts k156 Tip.zero).out⟩:Tip)].length) * 24≤140737488355328) (C5_ k156 (l153++[(⟨(nth l121 (((nth x0.starts k156 Tip.zero).state).toNat) (0:Int)),(nth x0.starts k156 Tip.zero).out⟩:Tip)])))) (C5_ k156 l153))) (fin (iter (fun q:(List Tip)×Nat=>A3_ x0 l121 k123 l153 q.1 q.2) (([]:List Tip),0)))
def Aj_(x0:Fst)(v13:(List Bool))(v18:(List Bool))(l121:List Int)(k123:Nat)(k124:Nat):Option (((List Int)×Nat×Nat)⊕(Fst×Int)):=
 iteO (decide (((k124:Nat):Int)<x0.states)) (grd (k124<l121.length) (grd (k124<v13.length) (iteO (nth v13 k124 false) (grd (k124<v18.length) (iteO (nth v18 k124 false) (grd (k124<(l121.set k124 (-1)).length) (grd (k123+1≤9223372036854775807) (Bs_ k124 ((l121.set k124 (-1)).set k124 ((k123:Nat):Int)) (k123+1)))) (Bs_ k124 (l121.set k124 (-1)) k123))) (Bs_ k124 (l121.set k124 (-1)) k123)))) (fin (iter (fun q:(List Tip)×Nat=>Ar_ x0 l121 k123 q.1 q.2) (([]:List Tip),0)))
def Dq_(x0:Fst):Option (Fst×Int):=
 bnd (Cs_ x0) (fun v5=>iteO (!v5) (some ((⟨0,([]:List Tip),([]:List Tip),([]:List Arc)⟩:Fst),1)) (bnd (Cu_ x0 x0.starts false) (fun v13=>bnd (Cu_ x0 x0.ends true) (fun v18=>grd (0≤x0.states∧8 * x0.states.toNat≤281474976710656) (iter (fun q:(List Int)×Nat×Nat=>Aj_ x0 v13 v18 q.1 q.2.1 q.2.2) ((List.replicate x0.states.toNat (0:Int)),0,0))))))
def G0_(σ:Store)(r:Fst×Int):Value→Store→List Res→Prop:=fun v σ' H'=>
 ∃a1 c1 a2 c2 a3 c3,v= .tuple #[.agg #[.int .i64 r.1.states,.slice a1 r.1.starts.length c1,.slice a2 r.1.ends.length c2,.slice a3 r.1.arcs.length c3],.int .i64 r.2]∧RS σ' 2 encTip (.slice a1 r.1.starts.length c1) r.1.starts∧RS σ' 2 encTip (.slice a2 r.1.ends.length c2) r.1.ends∧RS σ' 8 encArc (.slice a3 r.1.arcs.length c3) r.1.arcs∧H'=[]
theorem Gm_{x0:Fst}(f0_0:RS σ 2 encTip (.slice a0_0 x0.starts.length c0_0) x0.starts)(f0_1:RS σ 2 encTip (.slice a0_1 x0.ends.length c0_1) x0.ends)(f0_2:RS σ 8 encArc (.slice a0_2 x0.arcs.length c0_2) x0.arcs){r:Fst×Int}(hh:Dq_ x0=some r):
  Con Tryz.prog 46 #[.agg #[.int .i64 x0.states,.slice a0_0 x0.starts.length c0_0,.slice a0_1 x0.ends.length c0_1,.slice a0_2 x0.arcs.length c0_2]] σ [] (G0_ σ r):=by
 dsimp only [Dq_]at hh
 have f0_0b:=f0_0.rv.big
 have f0_1b:=f0_1.rv.big
 have f0_2b:=f0_2.rv.big
 refine Con.mk (n:=169) Tryz.func46 z z z (fun w0=> ?_)
 refine TC.a (TL.op z (boxA z z z z (fun b101=> ?_)))
 refine TL.op z (OpOk.alloc z ze25 z z (fun b103=> ?_))
 refine TL.i z z (TL.en (TC.seq (TC.a (TL.w z (loadAll z ag25 sz25 z (i:=1) z z) ?_))))
 obtain ⟨v5,u5,hh⟩:=bnd_e hh
 refine TL.op z (callP (E1_ (x0:=x0) f0_0 f0_1 f0_2 u5) z z pf58 z z z ?_)
 refine TL.w z (OpVal.not z z) (TL.en (TC.cB z hh (fun h105 hh=> ?_) (fun h105 hh=> ?_)))
 ·refine TC.a (TL.w z (buildL z pl25 ze25 z) (TL.op z (storeAll z sz25 z z z z z z ?_)))
  refine TL.i z z (TL.en (TC.rt 1 (S.r ?_)))
  obtain rfl:=so hh
  exact ro [] z (RVs.agg ag25 sz25 z (i:=0) z z (RVs.tmp z RVs.nil)) ⟨none,0,none,0,none,0,z,(RS.nilF _ encTip encTip_len),(RS.nilF _ encTip encTip_len),(RS.nilF _ encArc encArc_len),z⟩
 refine TC.skip (S.n (TC.a (TL.w z (loadAll z ag25 sz25 z (i:=1) z z) (TL.w z (fieldLoc z fo25_1 z) (TL.w z (loadLoc z ag22 z (i:=1) z z) ?_)))))
 obtain ⟨v13,u13,hh⟩:=bnd_e hh
 refine TL.op z (OpOk.call (E0_ (x0:=x0) f0_0 f0_1 f0_2 f0_0 u13) z z pf91 z z z z ?_)
 rintro _ τ106 _ hle106 ⟨a106_1,c106_1,rfl,hr106_0,rfl⟩
 replace f0_0:=f0_0.mono hle106
 replace f0_1:=f0_1.mono hle106
 replace f0_2:=f0_2.mono hle106
 have hr106_0b:=hr106_0.rv.big
 refine TL.s z z (TL.en (TC.a (TL.w z (loadAll z ag25 sz25 z (i:=1) z z) (TL.w z (fieldLoc z fo25_2 z) (TL.w z (loadLoc z ag22 z (i:=1) z z) ?_)))))
 obtain ⟨v18,u18,hh⟩:=bnd_e hh
 refine TL.op z (OpOk.call (E0_ (x0:=x0) f0_0 f0_1 f0_2 f0_1 u18) z z pf91 z z z z ?_)
 rintro _ τ107 _ hle107 ⟨a107_1,c107_1,rfl,hr107_0,rfl⟩
 replace f0_0:=f0_0.mono hle107
 replace f0_1:=f0_1.mono hle107
 replace f0_2:=f0_2.mono hle107
 replace hr106_0:=hr106_0.mono hle107
 have hr107_0b:=hr107_0.rv.big
 refine TL.s z z (TL.en (TC.a (TL.w z (fieldLoc z fo25_0 z) (TL.w z (loadLoc z ag3 z (i:=1) z z) ?_))))
 have u22:=grd_c hh
 replace hh:=grd_t hh
 refine TL.op rfl (makeS2 (m:=x0.states.toNat) (enc:=eI_) (0:Int) rfl underlying86 sz3 by3 ze3 rfl rfl (vN u22.1) (vN u22.1) (by omega) (by decide) eIl_ (by decide) rfl eIo_ (fun a108 c109=> ?_))
 refine TL.s z z (TL.en (TC.a (TL.w z (buildL z pl25 ze25 z) (TL.op z (OpOk.alloc z ze25 z z (fun b111=> ?_))))))
 refine TL.op z (storeAll z sz25 z z z z z z ?_)
 refine TL.en (TC.seq (TC.a (TL.i z z (TL.en (TC.block (TC.loopG (α:=((List Int)×Nat×Nat)×(Unit)) (rgs [(8,1),(31,28)]) (fun g=>[(8,.int .i64 ((g.1.2.2:Nat):Int))]) (fun g=>[Res.cells b101 #[.int .i64 x0.states,.slice a0_0 x0.starts.length c0_0,.slice a0_1 x0.ends.length c0_1,.slice a0_2 x0.arcs.length c0_2] 25,Res.cells b103 #[.int .i64 0,.slice none 0 0,.slice none 0 0,.slice none 0 0] 25,Res.rowS 3 1 eI_ (.slice a108 (List.replicate x0.states.toNat (0:Int)).length c109) g.1.1,Res.cells b111 #[.int .i64 ((g.1.2.1:Nat):Int),.slice none 0 0,.slice none 0 0,.slice none 0 0] 25]) (fun g=>τ107) (fun g=>iter (fun q:(List Int)×Nat×Nat=>Aj_ x0 v13 v18 q.1 q.2.1 q.2.2) g.1=some r∧g.1.1.length=(List.replicate x0.states.toNat (0:Int)).length) (fun g=>rounds (fun q:(List Int)×Nat×Nat=>Aj_ x0 v13 v18 q.1 q.2.1 q.2.2) g.1) (((List.replicate x0.states.toNat (0:Int)),0,0),()) (Sub.f [1,2,3] 4) z (by repeat (first|exact trivial|refine ⟨z,?_⟩)) ⟨hh,z⟩ (fun g1 j1 hg1=> ?_)))))))
 obtain ⟨⟨l121,k123,k124⟩,_⟩:=g1
 obtain ⟨hh,hn122⟩:=hg1
 try dsimp only at hn122 ⊢
 obtain ⟨z1,hh,hR1⟩:=iter_e hh
 dsimp only [Aj_]at hh
 have hn122b:=hn122
 refine TC.isSl (i:=2) z (fun _ hb125 _=> ?_)
 refine TC.seq (TC.a (TL.i z z (TL.w z (fieldLoc z fo25_0 z) (TL.w z (loadLoc z ag3 z (i:=0) z z) (TL.w z (OpVal.lss z z z) (TL.en (TC.cD z hh (fun h126 hh=> ?_) (fun h126 hh=> ?_))))))))
 ·refine TC.skip (S.n (TC.cutG (α:=((List Int)×Nat)×(Unit)) (rgs [(37,22)]) (fun g=>[]) (fun g=>[Res.cells b101 #[.int .i64 x0.states,.slice a0_0 x0.starts.length c0_0,.slice a0_1 x0.ends.length c0_1,.slice a0_2 x0.arcs.length c0_2] 25,Res.cells b103 #[.int .i64 0,.slice none 0 0,.slice none 0 0,.slice none 0 0] 25,Res.rowS 3 1 eI_ (.slice a108 (List.replicate x0.states.toNat (0:Int)).length c109) g.1.1,Res.cells b111 #[.int .i64 ((g.1.2:Nat):Int),.slice none 0 0,.slice none 0 0,.slice none 0 0] 25]) (fun g=>τ107) (fun g=>Bs_ k124 g.1.1 g.1.2=some z1∧g.1.1.length=(List.replicate x0.states.toNat (0:Int)).length) ?_ (fun g j hg=> ?_)))
  ·skip
   refine TC.block (TC.a (TL.s z z (TL.i z z ?_)))
   have u34:=grd_c hh
   replace hh:=grd_t hh
   refine TL.isSl (i:=2) z (fun hs130 _ _=> ?_)
   refine TL.w z (indexN z underlying86 sz3 z z hs130 (by omega)) (TL.front 2 z z ?_)
   have hn131:(l121.set k124 (-1)).length=(List.replicate x0.states.toNat (0:Int)).length:=by rw [List.length_set];exact hn122
   refine TL.op z (storeS (-1) z sz3 z z z z eIl_ eIo_ (by omega) (by omega) ?_)
   refine TL.en (TC.a (TL.s z z (TL.i z z ?_)))
   have u38:=grd_c hh
   replace hh:=grd_t hh
   refine TL.w z (indexN z underlying29 sz4 z z hr106_0.rv.sl (by omega)) (TL.w z (loadS1 false z ag4 z hr106_0 (by omega) z) (TL.j z z (TL.split 44 z (fun h132=> ?_) (fun h132=> ?_))))
   ·replace hh:=iteO_t h132 hh
    refine TL.g z (moveSl (.inl z) z) (TL.g z (moveI (.inl z) z) ?_)
    have u43:=grd_c hh
    replace hh:=grd_t hh
    refine TL.g z (indexN z underlying29 sz4 z z hr107_0.rv.sl (by omega)) (TL.g z (loadS1 false z ag4 z hr107_0 (by omega) z) (TL.w z (pickTB z z z) (TL.en (TC.cB z hh (fun h133 hh=> ?_) (fun h133 hh=> ?_)))))
    ·refine TC.a (TL.s z z (TL.i z z (TL.w z (fieldLoc z fo25_0 z) (TL.w z (loadLoc z ag3 z (i:=3) z z) ?_))))
     have u50:=grd_c hh
     replace hh:=grd_t hh
     refine TL.isSl (i:=0) z (fun hs134 _ _=> ?_)
     refine TL.w z (indexN z underlying86 sz3 z z hs134 (by omega)) ?_
     have hn135:((l121.set k124 (-1)).set k124 ((k123:Nat):Int)).length=(List.replicate x0.states.toNat (0:Int)).length:=by rw [List.length_set];exact hn131
     refine TL.op z (storeS ((k123:Nat):Int) z sz3 z z z z eIl_ eIo_ (by omega) (by omega) ?_)
     refine TL.en (TC.region (TL.w z (fieldLoc z fo25_0 z) (TL.w z (loadLoc z ag3 z (i:=3) z z) ?_)))
     have u54:=grd_c hh
     replace hh:=grd_t hh
     refine TL.w z (OpVal.succ z z z (by omega)) (TL.w z (fieldLoc z fo25_0 z) (TL.front 3 z z (TL.op z (storeI z sz3 z z z z z ?_))))
     exact TL.nil (B.n (S.n (cf ((((l121.set k124 (-1)).set k124 ((k123:Nat):Int)),(k123+1)),()) ⟨hh,hn135⟩ (Sub.f [1,3,3] 4))))
    exact TC.skip (B.n (S.n (cf (((l121.set k124 (-1)),k123),()) ⟨hh,hn131⟩ (Sub.f [3,1,3,3] 4))))
   replace hh:=iteO_f h132 hh
   exact TL.f z (TL.f z (TL.f z (TL.f z (TL.w z (pickFB z z z) (TL.en (TC.f z (TC.skip (B.n (S.n (cf (((l121.set k124 (-1)),k123),()) ⟨hh,hn131⟩ (Sub.f [3,1,3,3] 4)))))))))))
  skip
  obtain ⟨⟨l127,k129⟩,_⟩:=g
  obtain ⟨hh,hn128⟩:=hg
  try dsimp only at hn128 ⊢
  dsimp only [Bs_]at hh
  have hn128b:=hn128
  refine TC.isSl (i:=2) z (fun _ hb136 _=> ?_)
  refine TC.region (TL.i z z (TL.w z (OpVal.succ z z z (by omega)) (TL.i z z (TL.en ?_))))
  obtain ⟨hh,hlt137⟩:=nxt_x hR1 hh
  exact lf ((l127,k129,(k124+1)),()) hlt137 ⟨hh,hn128⟩ (Sub.f [3,3,3,3] 4)
 refine TC.exit (S.x (S.x ?_))
 replace hh:=fin_x hR1 hh
 refine TC.exitHere (S.n (TC.seq (TC.a (TL.i z z (TL.en (TC.block (TC.nilS 76 2 encTip (TC.loopG (α:=((List Tip)×Nat)×((Option Addr)×Nat)) (rgs [(9,2),(59,31)]) (fun g=>[(9,.int .i64 ((g.1.2:Nat):Int))]) (fun g=>[Res.cells b101 #[.int .i64 x0.states,.slice a0_0 x0.starts.length c0_0,.slice a0_1 x0.ends.length c0_1,.slice a0_2 x0.arcs.length c0_2] 25,Res.cells b103 #[.int .i64 0,.slice none 0 0,.slice none 0 0,.slice none 0 0] 25,Res.rowS 3 1 eI_ (.slice a108 (List.replicate x0.states.toNat (0:Int)).length c109) l121,Res.cells b111 #[.int .i64 ((k123:Nat):Int),.slice g.2.1 g.1.1.length g.2.2,.slice none 0 0,.slice none 0 0] 25,Res.rowS 76 2 encTip (.slice g.2.1 g.1.1.length g.2.2) g.1.1]) (fun g=>τ107) (fun g=>iter (fun q:(List Tip)×Nat=>Ar_ x0 l121 k123 q.1 q.2) g.1=some r∧l121.length=(List.replicate x0.states.toNat (0:Int)).length) (fun g=>rounds (fun q:(List Tip)×Nat=>Ar_ x0 l121 k123 q.1 q.2) g.1) ((([]:List Tip),0),(none,0)) (Sub.f [4,4,4,4] 5) z (by repeat (first|exact trivial|refine ⟨z,?_⟩)) ⟨hh,hn122⟩ (fun g2 j2 hg2=> ?_)))))))))
 obtain ⟨⟨l153,k156⟩,⟨a154,c155⟩⟩:=g2
 obtain ⟨hh,hn151⟩:=hg2
 try dsimp only at hn151 ⊢
 obtain ⟨z1,hh,hR1⟩:=iter_e hh
 dsimp only [Ar_]at hh
 have hn151b:=hn151
 refine TC.isSl (i:=2) z (fun _ hb158 _=> ?_)
 refine TC.isSl (i:=4) z (fun _ hb159 _=> ?_)
 refine TC.seq (TC.a (TL.i z z (TL.w z (fieldLoc z fo25_1 z) (TL.w z (loadLoc z ag22 z (i:=0) z z) (TL.w z (lenC z underlying22 z) (TL.w z (OpVal.lss z z z) (TL.en (TC.cD z hh (fun h160 hh=> ?_) (fun h160 hh=> ?_)))))))))
 ·refine TC.skip (S.n (TC.cutG (α:=((List Tip))×((Option Addr)×Nat)) (rgs [(10,1),(66,24)]) (fun g=>[]) (fun g=>[Res.cells b101 #[.int .i64 x0.states,.slice a0_0 x0.starts.length c0_0,.slice a0_1 x0.ends.length c0_1,.slice a0_2 x0.arcs.length c0_2] 25,Res.cells b103 #[.int .i64 0,.slice none 0 0,.slice none 0 0,.slice none 0 0] 25,Res.rowS 3 1 eI_ (.slice a108 (List.replicate x0.states.toNat (0:Int)).length c109) l121,Res.cells b111 #[.int .i64 ((k123:Nat):Int),.slice g.2.1 g.1.length g.2.2,.slice none 0 0,.slice none 0 0] 25,Res.rowS 76 2 encTip (.slice g.2.1 g.1.length g.2.2) g.1]) (fun g=>τ107) (fun g=>C5_ k156 g.1=some z1∧l121.length=(List.replicate x0.states.toNat (0:Int)).length) ?_ (fun g j hg=> ?_)))
  ·skip
   refine TC.block (TC.a (TL.w z (fieldLoc z fo25_1 z) (TL.w z (loadLoc z ag22 z (i:=0) z z) (TL.i z z (TL.w z (indexN z underlying22 sz76 z z f0_0.rv.sl (by omega)) (TL.w z (loadSA Tip.zero z ag76 sz76 z f0_0 (by omega) (by omega)) (TL.op z (OpOk.alloc z ze76 z z (fun b165=> ?_)))))))))
   refine TL.op z (storeAll z sz76 z z z z z z ?_)
   refine TL.en (TC.a (TL.s z z (TL.w z (fieldLoc z fo76_0 z) (TL.w z (loadLoc z ag3 z (i:=0) z z) ?_))))
   have u76:=grd_c hh
   replace hh:=grd_t hh
   refine TL.isSl (i:=3) z (fun hs167 _ _=> ?_)
   refine TL.w z (OpVal.index z underlying86 sz3 z z hs167 u76.1 u76.2) (TL.w z (loadO1 (0:Int) z ag3 z (q:=3) z eIl_ (by omega) z) (TL.w z (OpVal.geq z z z) (TL.en (TC.cD z hh (fun h168 hh=> ?_) (fun h168 hh=> ?_)))))
   ·have u84:=grd_c hh
    replace hh:=grd_t hh
    have u90:=grd_c hh
    replace hh:=grd_t hh
    refine TC.draw [11,12,13] (by kernel_rfl) (TA.a 0 z (fieldLoc z fo25_1 z) z (TA.b 1 z (loadLoc z ag22 z (i:=4) z z) z (TA.a 2 z (moveSl (.inl z) z) z (TA.a 3 z (fieldLoc z fo76_0 z) z (TA.b 4 z (loadLoc z ag3 z (i:=0) z z) z (TA.isSl (i:=3) z (fun hs175 _ _=> ?_)))))))
    refine TA.b 5 z (OpVal.index z underlying86 sz3 z z hs175 u84.1 u84.2) z (TA.b 6 z (loadO1 (0:Int) z ag3 z (q:=3) z eIl_ (by omega) z) z (TA.a 7 z (fieldLoc z fo76_1 z) z (TA.b 8 z (loadLoc z ag9 z (i:=0) z z) z (TA.a 9 z (buildL z pl76 ze76 z) z (TA.ac 10 z (OpOk.lit (enc:=encTip) [(⟨(nth l121 (((nth x0.starts k156 Tip.zero).state).toNat) (0:Int)),(nth x0.starts k156 Tip.zero).out⟩:Tip)] z underlying22 sz76 ze76 z z z encTip_len (by decide) (by decide) Tip.zero z (by decide) z (by decide) encTip_one (fun a176 c177=>(k1 ?_))))))))
    refine TA.front 6 z z (TA.last 11 (by kernel_rfl) z z z (appendS z z underlying22 sz76 by76 ze76 z z (by decide) z z z (.inr ⟨_,0,z⟩) (by simpa using u90) (by decide) (fun a179 c180=> ?_)))
    refine TZ.v 12 (by kernel_rfl) z z z (fieldLoc z fo25_1 z) z z (TZ.front 6 z z (TZ.last 13 (by kernel_rfl) z z z (storeSl z sz22 z z z z z ?_)))
    exact TZ.done (by kernel_rfl) (B.n (S.n (cf ((l153++[(⟨(nth l121 (((nth x0.starts k156 Tip.zero).state).toNat) (0:Int)),(nth x0.starts k156 Tip.zero).out⟩:Tip)]),(a179,c180)) ⟨hh,hn151⟩ (Sub.f [1,1,6,6,6] 5))))
   exact TC.skip (B.n (S.n (cf (l153,(a154,c155)) ⟨hh,hn151⟩ (Sub.f [5,5,5,5,5] 5))))
  skip
  obtain ⟨l162,⟨a163,c164⟩⟩:=g
  obtain ⟨hh,hn161⟩:=hg
  try dsimp only at hn161 ⊢
  dsimp only [C5_]at hh
  have hn161b:=hn161
  refine TC.isSl (i:=2) z (fun _ hb181 _=> ?_)
  refine TC.isSl (i:=4) z (fun _ hb182 _=> ?_)
  refine TC.region (TL.i z z (TL.w z (OpVal.succ z z z (by omega)) (TL.i z z (TL.en ?_))))
  obtain ⟨hh,hlt183⟩:=nxt_x hR1 hh
  exact lf ((l162,(k156+1)),(a163,c164)) hlt183 ⟨hh,hn161⟩ (Sub.f [4,4,4,4,4] 5)
 refine TC.exit (S.x (S.x ?_))
 replace hh:=fin_x hR1 hh
 refine TC.exitHere (S.n (TC.seq (TC.a (TL.i z z (TL.en (TC.block (TC.nilS 76 2 encTip (TC.loopG (α:=((List Tip)×Nat)×((Option Addr)×Nat)) (rgs [(11,2),(90,31)]) (fun g=>[(11,.int .i64 ((g.1.2:Nat):Int))]) (fun g=>[Res.cells b101 #[.int .i64 x0.states,.slice a0_0 x0.starts.length c0_0,.slice a0_1 x0.ends.length c0_1,.slice a0_2 x0.arcs.length c0_2] 25,Res.cells b103 #[.int .i64 0,.slice none 0 0,.slice none 0 0,.slice none 0 0] 25,Res.rowS 3 1 eI_ (.slice a108 (List.replicate x0.states.toNat (0:Int)).length c109) l121,Res.cells b111 #[.int .i64 ((k123:Nat):Int),.slice a154 l153.length c155,.slice g.2.1 g.1.1.length g.2.2,.slice none 0 0] 25,Res.rowS 76 2 encTip (.slice a154 l153.length c155) l153,Res.rowS 76 2 encTip (.slice g.2.1 g.1.1.length g.2.2) g.1.1]) (fun g=>τ107) (fun g=>iter (fun q:(List Tip)×Nat=>A3_ x0 l121 k123 l153 q.1 q.2) g.1=some r∧l121.length=(List.replicate x0.states.toNat (0:Int)).length) (fun g=>rounds (fun q:(List Tip)×Nat=>A3_ x0 l121 k123 l153 q.1 q.2) g.1) ((([]:List Tip),0),(none,0)) (Sub.f [5,5,5,5,5] 6) z (by repeat (first|exact trivial|refine ⟨z,?_⟩)) ⟨hh,hn151⟩ (fun g3 j3 hg3=> ?_)))))))))
 obtain ⟨⟨l199,k202⟩,⟨a200,c201⟩⟩:=g3
 obtain ⟨hh,hn197⟩:=hg3
 try dsimp only at hn197 ⊢
 obtain ⟨z1,hh,hR1⟩:=iter_e hh
 dsimp only [A3_]at hh
 have hn197b:=hn197
 refine TC.isSl (i:=2) z (fun _ hb204 _=> ?_)
 refine TC.isSl (i:=4) z (fun _ hb205 _=> ?_)
 refine TC.isSl (i:=5) z (fun _ hb206 _=> ?_)
 refine TC.seq (TC.a (TL.i z z (TL.w z (fieldLoc z fo25_2 z) (TL.w z (loadLoc z ag22 z (i:=0) z z) (TL.w z (lenC z underlying22 z) (TL.w z (OpVal.lss z z z) (TL.en (TC.cD z hh (fun h207 hh=> ?_) (fun h207 hh=> ?_)))))))))
 ·refine TC.skip (S.n (TC.cutG (α:=((List Tip))×((Option Addr)×Nat)) (rgs [(12,1),(97,24)]) (fun g=>[]) (fun g=>[Res.cells b101 #[.int .i64 x0.states,.slice a0_0 x0.starts.length c0_0,.slice a0_1 x0.ends.length c0_1,.slice a0_2 x0.arcs.length c0_2] 25,Res.cells b103 #[.int .i64 0,.slice none 0 0,.slice none 0 0,.slice none 0 0] 25,Res.rowS 3 1 eI_ (.slice a108 (List.replicate x0.states.toNat (0:Int)).length c109) l121,Res.cells b111 #[.int .i64 ((k123:Nat):Int),.slice a154 l153.length c155,.slice g.2.1 g.1.length g.2.2,.slice none 0 0] 25,Res.rowS 76 2 encTip (.slice a154 l153.length c155) l153,Res.rowS 76 2 encTip (.slice g.2.1 g.1.length g.2.2) g.1]) (fun g=>τ107) (fun g=>C2_ k202 g.1=some z1∧l121.length=(List.replicate x0.states.toNat (0:Int)).length) ?_ (fun g j hg=> ?_)))
  ·skip
   refine TC.block (TC.a (TL.w z (fieldLoc z fo25_2 z) (TL.w z (loadLoc z ag22 z (i:=0) z z) (TL.i z z (TL.w z (indexN z underlying22 sz76 z z f0_1.rv.sl (by omega)) (TL.w z (loadSA Tip.zero z ag76 sz76 z f0_1 (by omega) (by omega)) (TL.op z (OpOk.alloc z ze76 z z (fun b212=> ?_)))))))))
   refine TL.op z (storeAll z sz76 z z z z z z ?_)
   refine TL.en (TC.a (TL.s z z (TL.w z (fieldLoc z fo76_0 z) (TL.w z (loadLoc z ag3 z (i:=0) z z) ?_))))
   have u112:=grd_c hh
   replace hh:=grd_t hh
   refine TL.isSl (i:=3) z (fun hs214 _ _=> ?_)
   refine TL.w z (OpVal.index z underlying86 sz3 z z hs214 u112.1 u112.2) (TL.w z (loadO1 (0:Int) z ag3 z (q:=3) z eIl_ (by omega) z) (TL.w z (OpVal.geq z z z) (TL.en (TC.cD z hh (fun h215 hh=> ?_) (fun h215 hh=> ?_)))))
   ·have u120:=grd_c hh
    replace hh:=grd_t hh
    have u126:=grd_c hh
    replace hh:=grd_t hh
    refine TC.draw [11,12,13] (by kernel_rfl) (TA.a 0 z (fieldLoc z fo25_2 z) z (TA.b 1 z (loadLoc z ag22 z (i:=4) z z) z (TA.a 2 z (moveSl (.inl z) z) z (TA.a 3 z (fieldLoc z fo76_0 z) z (TA.b 4 z (loadLoc z ag3 z (i:=0) z z) z (TA.isSl (i:=3) z (fun hs222 _ _=> ?_)))))))
    refine TA.b 5 z (OpVal.index z underlying86 sz3 z z hs222 u120.1 u120.2) z (TA.b 6 z (loadO1 (0:Int) z ag3 z (q:=3) z eIl_ (by omega) z) z (TA.a 7 z (fieldLoc z fo76_1 z) z (TA.b 8 z (loadLoc z ag9 z (i:=0) z z) z (TA.a 9 z (buildL z pl76 ze76 z) z (TA.ac 10 z (OpOk.lit (enc:=encTip) [(⟨(nth l121 (((nth x0.ends k202 Tip.zero).state).toNat) (0:Int)),(nth x0.ends k202 Tip.zero).out⟩:Tip)] z underlying22 sz76 ze76 z z z encTip_len (by decide) (by decide) Tip.zero z (by decide) z (by decide) encTip_one (fun a223 c224=>(k1 ?_))))))))
    refine TA.front 7 z z (TA.last 11 (by kernel_rfl) z z z (appendS z z underlying22 sz76 by76 ze76 z z (by decide) z z z (.inr ⟨_,0,z⟩) (by simpa using u126) (by decide) (fun a226 c227=> ?_)))
    refine TZ.v 12 (by kernel_rfl) z z z (fieldLoc z fo25_2 z) z z (TZ.front 6 z z (TZ.last 13 (by kernel_rfl) z z z (storeSl z sz22 z z z z z ?_)))
    exact TZ.done (by kernel_rfl) (B.n (S.n (cf ((l199++[(⟨(nth l121 (((nth x0.ends k202 Tip.zero).state).toNat) (0:Int)),(nth x0.ends k202 Tip.zero).out⟩:Tip)]),(a226,c227)) ⟨hh,hn197⟩ (Sub.f [1,7,2,7,7,7] 6))))
   exact TC.skip (B.n (S.n (cf (l199,(a200,c201)) ⟨hh,hn197⟩ (Sub.f [6,6,6,6,6,6] 6))))
  skip
  obtain ⟨l209,⟨a210,c211⟩⟩:=g
  obtain ⟨hh,hn208⟩:=hg
  try dsimp only at hn208 ⊢
  dsimp only [C2_]at hh
  have hn208b:=hn208
  refine TC.isSl (i:=2) z (fun _ hb228 _=> ?_)
  refine TC.isSl (i:=4) z (fun _ hb229 _=> ?_)
  refine TC.isSl (i:=5) z (fun _ hb230 _=> ?_)
  refine TC.region (TL.i z z (TL.w z (OpVal.succ z z z (by omega)) (TL.i z z (TL.en ?_))))
  obtain ⟨hh,hlt231⟩:=nxt_x hR1 hh
  exact lf ((l209,(k202+1)),(a210,c211)) hlt231 ⟨hh,hn208⟩ (Sub.f [5,5,5,5,5,5] 6)
 refine TC.exit (S.x (S.x ?_))
 replace hh:=fin_x hR1 hh
 refine TC.exitHere (S.n (TC.seq (TC.a (TL.i z z (TL.en (TC.block (TC.nilS 66 8 encArc (TC.loopG (α:=((List Arc)×Nat)×((Option Addr)×Nat)) (rgs [(13,2),(121,44)]) (fun g=>[(13,.int .i64 ((g.1.2:Nat):Int))]) (fun g=>[Res.cells b101 #[.int .i64 x0.states,.slice a0_0 x0.starts.length c0_0,.slice a0_1 x0.ends.length c0_1,.slice a0_2 x0.arcs.length c0_2] 25,Res.cells b103 #[.int .i64 0,.slice none 0 0,.slice none 0 0,.slice none 0 0] 25,Res.rowS 3 1 eI_ (.slice a108 (List.replicate x0.states.toNat (0:Int)).length c109) l121,Res.cells b111 #[.int .i64 ((k123:Nat):Int),.slice a154 l153.length c155,.slice a200 l199.length c201,.slice g.2.1 g.1.1.length g.2.2] 25,Res.rowS 76 2 encTip (.slice a154 l153.length c155) l153,Res.rowS 76 2 encTip (.slice a200 l199.length c201) l199,Res.rowS 66 8 encArc (.slice g.2.1 g.1.1.length g.2.2) g.1.1]) (fun g=>τ107) (fun g=>iter (fun q:(List Arc)×Nat=>A4_ x0 l121 k123 l153 l199 q.1 q.2) g.1=some r∧l121.length=(List.replicate x0.states.toNat (0:Int)).length) (fun g=>rounds (fun q:(List Arc)×Nat=>A4_ x0 l121 k123 l153 l199 q.1 q.2) g.1) ((([]:List Arc),0),(none,0)) (Sub.f [6,6,6,6,6,6] 7) z (by repeat (first|exact trivial|refine ⟨z,?_⟩)) ⟨hh,hn197⟩ (fun g4 j4 hg4=> ?_)))))))))
 obtain ⟨⟨l247,k250⟩,⟨a248,c249⟩⟩:=g4
 obtain ⟨hh,hn245⟩:=hg4
 try dsimp only at hn245 ⊢
 obtain ⟨z1,hh,hR1⟩:=iter_e hh
 dsimp only [A4_]at hh
 have hn245b:=hn245
 refine TC.isSl (i:=2) z (fun _ hb252 _=> ?_)
 refine TC.isSl (i:=4) z (fun _ hb253 _=> ?_)
 refine TC.isSl (i:=5) z (fun _ hb254 _=> ?_)
 refine TC.isSl (i:=6) z (fun _ hb255 _=> ?_)
 refine TC.seq (TC.a (TL.i z z (TL.w z (fieldLoc z fo25_3 z) (TL.w z (loadLoc z ag23 z (i:=0) z z) (TL.w z (lenC z underlying23 z) (TL.w z (OpVal.lss z z z) (TL.en (TC.cD z hh (fun h256 hh=> ?_) (fun h256 hh=> ?_)))))))))
 ·refine TC.skip (S.n (TC.cutG (α:=((List Arc))×((Option Addr)×Nat)) (rgs [(14,1),(128,37)]) (fun g=>[]) (fun g=>[Res.cells b101 #[.int .i64 x0.states,.slice a0_0 x0.starts.length c0_0,.slice a0_1 x0.ends.length c0_1,.slice a0_2 x0.arcs.length c0_2] 25,Res.cells b103 #[.int .i64 0,.slice none 0 0,.slice none 0 0,.slice none 0 0] 25,Res.rowS 3 1 eI_ (.slice a108 (List.replicate x0.states.toNat (0:Int)).length c109) l121,Res.cells b111 #[.int .i64 ((k123:Nat):Int),.slice a154 l153.length c155,.slice a200 l199.length c201,.slice g.2.1 g.1.length g.2.2] 25,Res.rowS 76 2 encTip (.slice a154 l153.length c155) l153,Res.rowS 76 2 encTip (.slice a200 l199.length c201) l199,Res.rowS 66 8 encArc (.slice g.2.1 g.1.length g.2.2) g.1]) (fun g=>τ107) (fun g=>B9_ k250 g.1=some z1∧l121.length=(List.replicate x0.states.toNat (0:Int)).length) ?_ (fun g j hg=> ?_)))
  ·skip
   refine TC.block (TC.a (TL.w z (fieldLoc z fo25_3 z) (TL.w z (loadLoc z ag23 z (i:=0) z z) (TL.i z z (TL.w z (indexN z underlying23 sz66 z z f0_2.rv.sl (by omega)) (TL.w z (loadSA Arc.zero z ag66 sz66 z f0_2 (by omega) (by omega)) (TL.op z (OpOk.alloc z ze66 z z (fun b261=> ?_)))))))))
   refine TL.op z (storeAll z sz66 z z z z z z ?_)
   refine TL.en (TC.a (TL.s z z (TL.w z (fieldLoc z fo66_0 z) (TL.w z (loadLoc z ag3 z (i:=0) z z) ?_))))
   have u148:=grd_c hh
   replace hh:=grd_t hh
   refine TL.isSl (i:=3) z (fun hs263 _ _=> ?_)
   refine TL.w z (OpVal.index z underlying86 sz3 z z hs263 u148.1 u148.2) (TL.w z (loadO1 (0:Int) z ag3 z (q:=3) z eIl_ (by omega) z) (TL.w z (OpVal.geq z z z) (TL.j z z (TL.split 139 z (fun h264=> ?_) (fun h264=> ?_)))))
   ·replace hh:=iteO_t h264 hh
    replace h264:=of_decide_eq_true h264
    refine TL.g z (moveSl (.inl z) z) (TL.g z (fieldLoc z fo66_1 z) (TL.g z (loadLoc z ag3 z (i:=0) z z) ?_))
    have u155:=grd_c hh
    replace hh:=grd_t hh
    refine TL.isSl (i:=3) z (fun hs265 _ _=> ?_)
    refine TL.g z (OpVal.index z underlying86 sz3 z z hs265 u155.1 u155.2) (TL.g z (loadO1 (0:Int) z ag3 z (q:=3) z eIl_ (by omega) z) (TL.g z (OpVal.geq z z z) (TL.w z (pickTB z z z) (TL.en (TC.cD z hh (fun h266 hh=> ?_) (fun h266 hh=> ?_))))))
    ·refine TC.a (TL.s z z (TL.w z (fieldLoc z fo66_0 z) (TL.w z (loadLoc z ag3 z (i:=0) z z) ?_)))
     have u162:=grd_c hh
     replace hh:=grd_t hh
     refine TL.isSl (i:=3) z (fun hs267 _ _=> ?_)
     refine TL.w z (OpVal.index z underlying86 sz3 z z hs267 u162.1 u162.2) (TL.w z (loadO1 (0:Int) z ag3 z (q:=3) z eIl_ (by omega) z) (TL.w z (fieldLoc z fo66_0 z) (TL.op z (storeI z sz3 z z z z z ?_))))
     refine TL.en (TC.a (TL.s z z (TL.w z (fieldLoc z fo66_1 z) (TL.w z (loadLoc z ag3 z (i:=0) z z) ?_))))
     have u169:=grd_c hh
     replace hh:=grd_t hh
     refine TL.isSl (i:=3) z (fun hs268 _ _=> ?_)
     refine TL.w z (OpVal.index z underlying86 sz3 z z hs268 u169.1 u169.2) (TL.w z (loadO1 (0:Int) z ag3 z (q:=3) z eIl_ (by omega) z) (TL.w z (fieldLoc z fo66_1 z) (TL.op z (storeI z sz3 z z z z z ?_))))
     refine TL.en (TC.region (TL.w z (fieldLoc z fo25_3 z) (TL.w z (loadLoc z ag23 z (i:=4) z z) (TL.w z (loadAll z ag66 sz66 z (i:=0) z z) (TL.op z (OpOk.lit (enc:=encArc) [(⟨(nth l121 (((nth x0.arcs k250 Arc.zero).frm).toNat) (0:Int)),(nth l121 (((nth x0.arcs k250 Arc.zero).to).toNat) (0:Int)),(nth x0.arcs k250 Arc.zero).set,(nth x0.arcs k250 Arc.zero).out,(nth x0.arcs k250 Arc.zero).copy⟩:Arc)] z underlying23 sz66 ze66 z z z encArc_len (by decide) (by decide) Arc.zero z (by decide) z (by decide) encArc_one (fun a269 c270=> ?_)))))))
     refine TL.front 8 z z ?_
     have u177:=grd_c hh
     replace hh:=grd_t hh
     refine TL.op z (appendS z z underlying23 sz66 by66 ze66 z z (by decide) z z z (.inr ⟨_,0,z⟩) (by simpa using u177) (by decide) (fun a272 c273=> ?_))
     refine TL.w z (fieldLoc z fo25_3 z) (TL.front 6 z z (TL.op z (storeSl z sz23 z z z z z ?_)))
     exact TL.nil (B.n (S.n (cf ((l247++[(⟨(nth l121 (((nth x0.arcs k250 Arc.zero).frm).toNat) (0:Int)),(nth l121 (((nth x0.arcs k250 Arc.zero).to).toNat) (0:Int)),(nth x0.arcs k250 Arc.zero).set,(nth x0.arcs k250 Arc.zero).out,(nth x0.arcs k250 Arc.zero).copy⟩:Arc)]),(a272,c273)) ⟨hh,hn245⟩ (Sub.f [1,8,8,3,8,8,8] 7))))
    exact TC.skip (B.n (S.n (cf (l247,(a248,c249)) ⟨hh,hn245⟩ (Sub.f [7,7,7,7,7,7,7] 7))))
   replace hh:=iteO_f h264 hh
   replace h264:=of_decide_eq_false h264
   exact TL.f z (TL.f z (TL.f z (TL.f z (TL.f z (TL.f z (TL.w z (pickFB z z z) (TL.en (TC.f z (TC.skip (B.n (S.n (cf (l247,(a248,c249)) ⟨hh,hn245⟩ (Sub.f [7,7,7,7,7,7,7] 7)))))))))))))
  skip
  obtain ⟨l258,⟨a259,c260⟩⟩:=g
  obtain ⟨hh,hn257⟩:=hg
  try dsimp only at hn257 ⊢
  dsimp only [B9_]at hh
  have hn257b:=hn257
  refine TC.isSl (i:=2) z (fun _ hb274 _=> ?_)
  refine TC.isSl (i:=4) z (fun _ hb275 _=> ?_)
  refine TC.isSl (i:=5) z (fun _ hb276 _=> ?_)
  refine TC.isSl (i:=6) z (fun _ hb277 _=> ?_)
  refine TC.region (TL.i z z (TL.w z (OpVal.succ z z z (by omega)) (TL.i z z (TL.en ?_))))
  obtain ⟨hh,hlt278⟩:=nxt_x hR1 hh
  exact lf ((l258,(k250+1)),(a259,c260)) hlt278 ⟨hh,hn257⟩ (Sub.f [6,6,6,6,6,6,6] 7)
 refine TC.exit (S.x (S.x ?_))
 replace hh:=fin_x hR1 hh
 refine TC.exitHere (S.n (TC.a (TL.w z (loadAll z ag25 sz25 z (i:=3) z z) (TL.front 4 z z (TL.sealS encTip_len (fun τ281 hle280 hr279=> ?_))))))
 have hr279b:=hr279.rv.big
 refine TL.front 4 z z (TL.sealS encTip_len (fun τ284 hle283 hr282=> ?_))
 replace hr279:=hr279.mono hle283
 have hr282b:=hr282.rv.big
 refine TL.front 4 z z (TL.sealS encArc_len (fun τ287 hle286 hr285=> ?_))
 replace hr279:=hr279.mono hle286
 replace hr282:=hr282.mono hle286
 have hr285b:=hr285.rv.big
 obtain ⟨v184,u184,hh⟩:=bnd_e hh
 refine TL.op z (OpOk.call (Gk_ (x0:=(⟨((k123:Nat):Int),l153,l199,l247⟩:Fst)) hr279 hr282 hr285 u184) z z pf59 z z z z ?_)
 rintro _ τ288 _ hle288 ⟨a288_1,c288_1,a288_2,c288_2,a288_3,c288_3,rfl,hr288_0,hr288_1,hr288_2,rfl⟩
 have hr288_0b:=hr288_0.rv.big
 have hr288_1b:=hr288_1.rv.big
 have hr288_2b:=hr288_2.rv.big
 refine TL.w z (OpVal.extract z z z) (TL.w z (OpVal.extract z z z) (TL.front 1 z z (TL.op z (storeAll z sz25 z z z z z z ?_))))
 refine TL.i z z (TL.en (TC.rt 1 ?_))
 obtain rfl:=so hh
 exact ro [] z (RVs.agg ag25 sz25 z (i:=0) z z (RVs.tmp z RVs.nil)) ⟨a288_1,c288_1,a288_2,c288_2,a288_3,c288_3,z,hr288_0,hr288_1,hr288_2,z⟩
end Go.Proofs.YtchebnpdnfhenaaGreatDoor
end

noncomputable section
namespace Go.Proofs.YtchebnpdnfhenaaGreatDoor
open Go Go.E Go.E.OpVal Go.E.OpOk Go.Proofs.Tryz
theorem pf112:plainF Tryz.prog 112=true:=by kernel_rfl
def Cg_(x0:List UInt8)(x1:List UInt8):Option (Bool):=
 grd (x0.length≤281474976710656) (grd (x1.length≤281474976710656) (iteO (decide (((x0.length:Nat):Int)≤((x1.length:Nat):Int))) (grd (0≤x0.length∧x0.length≤x1.length) (some (decide ((x1.take x0.length)=x0)))) (some false)))
theorem F6_{x0:List UInt8}{x1:List UInt8}{r:Bool}(hh:Cg_ x0 x1=some r):
  Con Tryz.prog 112 #[.string (bs x0),.string (bs x1)] σ [] (PureP (.bool r) σ):=by
 dsimp only [Cg_]at hh
 refine Con.mk (n:=18) Tryz.func112 z z z (fun w0=> ?_)
 have x0b:=grd_c hh
 replace hh:=grd_t hh
 have x1b:=grd_c hh
 replace hh:=grd_t hh
 refine TC.a (TL.j z z (TL.en (TC.a (TL.w z (moveStr (.inl z) z) (TL.w z (lenBs z underlying9 z) (TL.w z (moveStr (.inl z) z) (TL.w z (lenBs z underlying9 z) (TL.w z (OpVal.leq z z z) (TL.j z z (TL.split 10 z (fun h101=> ?_) (fun h101=> ?_)))))))))))
 ·replace hh:=iteO_t h101 hh
  replace h101:=of_decide_eq_true h101
  refine TL.g z (moveStr (.inl z) z) (TL.g z (moveStr (.inl z) z) (TL.g z (lenBs z underlying9 z) ?_))
  have u11:=grd_c hh
  replace hh:=grd_t hh
  refine TL.g z (sliceBsH (l:=x1) (j:=x0.length) z underlying9 z z (by omega) (by omega)) (TL.g z (moveStr (.inl z) z) (TL.g z (eqlBs z z z) (TL.w z (pickTB z z z) (TL.j z z (TL.en (TC.ret ?_))))))
  obtain rfl:=so hh
  exact rq [4] ⟨z,z,z⟩
 replace hh:=iteO_f h101 hh
 replace h101:=of_decide_eq_false h101
 refine TL.f z (TL.f z (TL.f z (TL.f z (TL.f z (TL.f z (TL.w z (pickFB z z z) (TL.j z z (TL.en (TC.ret ?_)))))))))
 obtain rfl:=so hh
 exact rq [4] ⟨z,z,z⟩
def Da_(k111:Nat)(t113:Bool):Option ((Bool×Nat)⊕((Int)⊕((List UInt8)))):=
 nxt (t113,(k111+1))
def Bc_(x0:List (List UInt8))(i104:Int)(t110:Bool)(k111:Nat):Option ((Bool×Nat)⊕((Int)⊕((List UInt8)))):=
 iteO (decide (((k111:Nat):Int)<((x0.length:Nat):Int))) (iteO t110 (grd (0<x0.length) (grd (0≤i104∧0≤i104.toNat∧i104.toNat≤(nth x0 0 ([]:List UInt8)).length) (bnd (Cg_ ((nth x0 0 ([]:List UInt8)).take i104.toNat) (nth x0 k111 ([]:List UInt8))) (fun v30=>Da_ k111 v30)))) (Da_ k111 false)) (fin (iteO t110 (grd (0<x0.length) (grd (0≤i104∧0≤i104.toNat∧i104.toNat≤(nth x0 0 ([]:List UInt8)).length) (fin (some ((nth x0 0 ([]:List UInt8)).take i104.toNat))))) (nxt (IntKind.i64.wrap (i104 - 1)))))
def Bd_(x0:List (List UInt8))(i104:Int):Option ((Int)⊕((List UInt8))):=
 iteO (decide (0<i104)) (iter (fun q:Bool×Nat=>Bc_ x0 i104 q.1 q.2) (true,0)) (fin (some ([]:List UInt8)))
def Du_(x0:List (List UInt8)):Option ((List UInt8)):=
 iteO (decide (((x0.length:Nat):Int)=0)) (some ([]:List UInt8)) (grd (0<x0.length) (iter (fun q:Int=>Bd_ x0 q) (((nth x0 0 ([]:List UInt8)).length:Nat):Int)))
theorem Gr_{x0:List (List UInt8)}(f0_0:RS σ 1 eS_ (.slice a0_0 x0.length c0_0) x0){r:(List UInt8)}(hh:Du_ x0=some r):
  Con Tryz.prog 71 #[.slice a0_0 x0.length c0_0] σ [] (PureP (.string (bs r)) σ):=by
 dsimp only [Du_]at hh
 have f0_0b:=f0_0.rv.big
 refine Con.mk (n:=42) Tryz.func71 z z z (fun w0=> ?_)
 refine TC.a (TL.w z (moveStr (.inr z) z) (TL.en (TC.seq (TC.a (TL.s z z (TL.w z (lenC z underlying30 z) (TL.w z (OpVal.eql z z z) (TL.en (TC.cD z hh (fun h101 hh=> ?_) (fun h101 hh=> ?_))))))))))
 ·refine TC.a (TL.w z (moveStr (.inr z) z) (TL.en (TC.ret (S.r ?_))))
  obtain rfl:=so hh
  exact rq [2] ⟨z,z,z⟩
 refine TC.skip (S.n (TC.seq (TC.a (TL.s z z ?_))))
 have u7:=grd_c hh
 replace hh:=grd_t hh
 refine TL.w z (indexN (i:=0) z underlying30 sz9 z z f0_0.rv.sl (by omega)) (TL.w z (loadS1 ([]:List UInt8) z ag9 z f0_0 (by omega) z) (TL.w z (lenBs z underlying9 z) (TL.i z z (TL.en (TC.block (TC.loopG (α:=(Int)×(Unit)) (rgs [(2,4),(13,29)]) (fun g=>[(3,.int .i64 g.1)]) (fun g=>[]) (fun g=>σ) (fun g=>iter (fun q:Int=>Bd_ x0 q) g.1=some r) (fun g=>rounds (fun q:Int=>Bd_ x0 q) g.1) ((((nth x0 0 ([]:List UInt8)).length:Nat):Int),()) (Sub.pre 0 z) z (by repeat (first|exact trivial|refine ⟨z,?_⟩)) hh (fun g1 j1 hg1=> ?_)))))))
 obtain ⟨i104,_⟩:=g1
 have hh:=hg1;clear hg1
 try dsimp only
 obtain ⟨z1,hh,hR1⟩:=iter_e hh
 dsimp only [Bd_]at hh
 refine TC.seq (TC.a (TL.i z z (TL.w z (OpVal.gtr z z z) (TL.en (TC.cD z hh (fun h105 hh=> ?_) (fun h105 hh=> ?_))))))
 ·refine TC.skip (S.n (TC.seq (TC.block (TC.a (TL.j z z (TL.en (TC.seq (TC.a (TL.i z z (TL.en (TC.block (TC.loopG (α:=(Bool×Nat)×(Unit)) (rgs [(4,2),(17,19)]) (fun g=>[(4,.bool g.1.1),(5,.int .i64 ((g.1.2:Nat):Int))]) (fun g=>[]) (fun g=>σ) (fun g=>iter (fun q:Bool×Nat=>Bc_ x0 i104 q.1 q.2) g.1=some z1) (fun g=>rounds (fun q:Bool×Nat=>Bc_ x0 i104 q.1 q.2) g.1) ((true,0),()) (Sub.pre 0 z) z (by repeat (first|exact trivial|refine ⟨z,?_⟩)) hh (fun g2 j2 hg2=> ?_)))))))))))))
  obtain ⟨⟨t110,k111⟩,_⟩:=g2
  have hh:=hg2;clear hg2
  try dsimp only
  obtain ⟨z2,hh,hR2⟩:=iter_e hh
  dsimp only [Bc_]at hh
  refine TC.seq (TC.a (TL.i z z (TL.s z z (TL.w z (lenC z underlying30 z) (TL.w z (OpVal.lss z z z) (TL.en (TC.cD z hh (fun h112 hh=> ?_) (fun h112 hh=> ?_))))))))
  ·refine TC.skip (S.n (TC.cutG (α:=(Bool)×(Unit)) (rgs [(4,1),(23,13)]) (fun g=>[(4,.bool g.1)]) (fun g=>[]) (fun g=>σ) (fun g=>Da_ k111 g.1=some z2) ?_ (fun g j hg=> ?_)))
   ·skip
    refine TC.block (TC.draw [] (by kernel_rfl) (TA.a 0 z (moveB (.inl z) z) z (TA.a 1 z (moveB (.inl z) z) z (TA.split 24 z (fun h114=> ?_) (fun h114=> ?_)))))
    ·replace hh:=iteO_t h114 hh
     refine TA.on 2 z z z z (moveSl (.inl z) z) z ?_
     have u22:=grd_c hh
     replace hh:=grd_t hh
     refine TA.on 3 z z z z (indexN (i:=0) z underlying30 sz9 z z f0_0.rv.sl (by omega)) z (TA.on 4 z z z z (loadS1 ([]:List UInt8) z ag9 z f0_0 (by omega) z) z (TA.on 5 z z z z (moveI (.inl z) z) z ?_))
     have u25:=grd_c hh
     replace hh:=grd_t hh
     refine TA.on 6 rfl rfl rfl rfl (sliceBsH (l:=(nth x0 0 ([]:List UInt8))) (j:=i104.toNat) rfl underlying9 rfl (by show Value.int _ _=_;rw [Int.toNat_of_nonneg (by omega)]) (by omega) (by omega)) rfl (TA.on 7 z z z z (moveSl (.inl z) z) z (TA.on 8 z z z z (moveI (.inl z) z) z (TA.on 9 z z z z (indexN z underlying30 sz9 z z f0_0.rv.sl (by omega)) z (TA.on 10 z z z z (loadS1 ([]:List UInt8) z ag9 z f0_0 (by omega) z) z ?_))))
     obtain ⟨v30,u30,hh⟩:=bnd_e hh
     refine TA.actOn 11 (by kernel_rfl) z z z z z z (callP (F6_ u30) z z pf112 z z z (k0 ?_))
     exact TA.a 12 z (pickTB z z z) z (TA.a 13 z (moveB (.inr z) z) z (TA.dn (B.n (S.n (cf (v30,()) hh (Sub.pre 0 z))))))
    replace hh:=iteO_f h114 hh
    exact TA.off 2 z z z z z z (TA.off 3 z z z z z z (TA.off 4 z z z z z z (TA.off 5 z z z z z z (TA.off 6 z z z z z z (TA.off 7 z z z z z z (TA.off 8 z z z z z z (TA.off 9 z z z z z z (TA.off 10 z z z z z z (TA.off 11 z z z z z z (TA.a 12 z (pickFB z z z) z (TA.a 13 z (moveB (.inr z) z) z (TA.dn (B.n (S.n (cf (false,()) hh (Sub.pre 0 z))))))))))))))))
   skip
   obtain ⟨t113,_⟩:=g
   have hh:=hg;clear hg
   try dsimp only
   dsimp only [Da_]at hh
   refine TC.region (TL.i z z (TL.w z (OpVal.succ z z z (by omega)) (TL.i z z (TL.en ?_))))
   obtain ⟨hh,hlt115⟩:=nxt_x hR2 hh
   exact lf ((t113,(k111+1)),()) hlt115 hh (Sub.pre 0 z)
  refine TC.exit (S.x (S.x ?_))
  replace hh:=fin_x hR2 hh
  refine TC.exitHere (S.n (TC.a (TL.j z z (TL.en (TC.cB z hh (fun h116 hh=> ?_) (fun h116 hh=> ?_))))))
  ·refine TC.a (TL.s z z ?_)
   have u38:=grd_c hh
   replace hh:=grd_t hh
   refine TL.w z (indexN (i:=0) z underlying30 sz9 z z f0_0.rv.sl (by omega)) (TL.w z (loadS1 ([]:List UInt8) z ag9 z f0_0 (by omega) z) (TL.i z z ?_))
   have u41:=grd_c hh
   replace hh:=grd_t hh
   refine TL.w rfl (sliceBsH (l:=(nth x0 0 ([]:List UInt8))) (j:=i104.toNat) rfl underlying9 rfl (by show Value.int _ _=_;rw [Int.toNat_of_nonneg (by omega)]) (by omega) (by omega)) (TL.w z (moveStr (.inr z) z) (TL.en (TC.ret (B.r (S.r (S.r ?_))))))
   replace hh:=fin_x hR1 hh
   refine B.r (S.r ?_)
   obtain rfl:=so hh
   exact rq [2] ⟨z,z,z⟩
  refine TC.skip (B.n (S.n (TC.region (TL.i z z (TL.w z (subW z z z) (TL.i z z (TL.en ?_)))))))
  obtain ⟨hh,hlt117⟩:=nxt_x hR1 hh
  exact lf ((IntKind.i64.wrap (i104 - 1)),()) hlt117 hh (Sub.pre 0 z)
 refine TC.exit (S.x (S.x ?_))
 replace hh:=fin_x hR1 hh
 refine TC.exitHere (S.n (TC.a (TL.w z (moveStr (.inr z) z) (TL.en (TC.ret ?_)))))
 obtain rfl:=so hh
 exact rq [2] ⟨z,z,z⟩
end Go.Proofs.YtchebnpdnfhenaaGreatDoor
end

noncomputable section
namespace Go.E
open Go
section
variable {K:Type} [DecidableEq K]
theorem len_of_sub: ∀{l m:List K},l.Nodup→(∀x∈l,x∈m)→l.length≤m.length
  |[],m,_,_=>Nat.zero_le _
  | x :: l, m, hn, hs => by
    rw [List.nodup_cons]at hn
    have hx:=hs x (List.mem_cons_self ..)
    have:=len_of_sub (m:=m.erase x) hn.2 fun y hy=>by
      have h1:=hs y (List.mem_cons_of_mem _ hy)
      refine (List.mem_erase_of_ne ?_).2 h1
      intro e;subst e;exact hn.1 hy
    rw [List.length_erase_of_mem hx]at this
    have hp:=List.length_pos_of_mem hx
    simp only [List.length_cons];omega
theorem rev_ind{p:List K→Prop}(h0:p [])(h1: ∀l x,p l→p (l++[x]))(l:List K):p l:=by
  have: ∀m:List K,p m.reverse:=fun m=>by
    induction m with
    |nil=>exact h0
    |cons x m ih=>rw [List.reverse_cons];exact h1 _ _ ih
  simpa using this l.reverse
end
section
variable {β γ:Type}
structure Grp (key:β→Int) (val:β→γ) (n:Nat) (l:List (List γ)) (xs:List β):Prop where
  len:l.length=n
  row: ∀i,i<n→nth l i []=(xs.filter fun x=>decide (key x=(i:Int))).map val
theorem Grp.nil(key:β→Int)(val:β→γ)(n:Nat):Grp key val n (List.replicate n []) []:=⟨List.length_replicate ..,fun i hi=>by simp [nth,List.getD,List.getElem?_replicate,hi]⟩
theorem Grp.snoc{key:β→Int}{val:β→γ}{n:Nat}{l:List (List γ)}{xs:List β}(h:Grp key val n l xs){x:β}(h0:0≤key x)(h1:key x<n):
    Grp key val n (l.set (key x).toNat (nth l (key x).toNat []++[val x])) (xs++[x]):=by
  refine ⟨by rw [List.length_set];exact h.len,fun i hi=> ?_⟩
  rw [List.filter_append,List.map_append,←h.row i hi]
  by_cases e:i=(key x).toNat
  · subst e
    have:key x=((key x).toNat:Int):=by omega
    have hl:=h.len
    rw [show nth (l.set (key x).toNat (nth l (key x).toNat []++[val x])) (key x).toNat []=nth l (key x).toNat []++[val x]from by simp [nth,List.getD,hl,hi]]
    simp [this.symm]
  have hne: ¬ key x=(i:Int):=by omega
  rw [show nth (l.set (key x).toNat (nth l (key x).toNat []++[val x])) i []=nth l i []from by simp [nth,List.getD,List.getElem?_set,Ne.symm e]]
  simp [hne]
theorem Grp.at{key:β→Int}{val:β→γ}{n:Nat}{l:List (List γ)}{xs:List β}(h:Grp key val n l xs){s:Int}(h0:0≤s)(h1:s<n):nth l s.toNat []=(xs.filter fun x=>decide (key x=s)).map val:=by
  rw [h.row _ (by omega)]
  have:((s.toNat:Nat):Int)=s:=by omega
  simp only [this]
theorem iter_all{α R:Type}{step:Nat→Option (Nat⊕R)}{y no:R}(l:List α)(d:α)(p:α→Bool)(hs: ∀k,k<l.length→p (nth l k d)=true→step k=some (.inl (k+1)))
    (hn: ∀k,k<l.length→p (nth l k d)=false→step k=some (.inr no)) (hd:step l.length=some (.inr y)):iter step 0=some (if l.all p then y else no):=by
  have h:=iter_any0 (step:=step) (y:=no) (no:=y) (fun k=>k) (fun k=> !p (nth l k d)) l.length (fun k hk hp=>hs k hk (by simpa using hp)) (fun k hk hp=>hn k hk (by simpa using hp)) hd
  rw [h,range_any l d (fun x=> !p x)]
  by_cases ha:l.all p=true
  · have:(l.any fun x=> !p x)=false:=by rw [List.any_eq_false];intro x hx;have:=(List.all_eq_true.1 ha) x hx;simp [this]
    rw [this,ha];rfl
  have:(l.any fun x=> !p x)=true:=by
    rw [Bool.not_eq_true,List.all_eq_false]at ha
    obtain ⟨x,hx,h⟩:=ha
    exact List.any_eq_true.2 ⟨x,hx,by simpa using h⟩
  rw [this];simp only [cond_true];rw [if_neg ha]
theorem iter_fold{α S R:Type}{step:S×Nat→Option ((S×Nat)⊕R)}{r:R}(l:List α)(d:α)(f:Nat→S)(hs: ∀k,k<l.length→step (f k,k)=some (.inl (f (k+1),k+1)))(hd:step (f l.length,l.length)=some (.inr r)):
    iter step (f 0,0)=some r:=iter_seq0 (fun k=>(f k,k)) l.length hs hd
end
end Go.E
end

noncomputable section
namespace Go.E
open Go
theorem iter_for {α S T R : Type} {step : T → Option (T ⊕ R)} (g : S → Nat → T) (l : List α) (d : α) (I : List α → S → Prop) (Q : R → Prop)
    (hs: ∀k s,k<l.length→I (l.take k) s→(∃s',step (g s k)=some (.inl (g s' (k+1)))∧I (l.take k++[nth l k d]) s')∨ ∃r,step (g s k)=some (.inr r)∧Q r)
    (hd: ∀s,I l s→ ∃r,step (g s l.length)=some (.inr r)∧Q r) {s0:S} (h0:I [] s0): ∃r,iter step (g s0 0)=some r∧Q r:=by
  have key: ∀m k s,l.length - k=m→k≤l.length→I (l.take k) s→ ∃r,iter step (g s k)=some r∧Q r:=by
    intro m
    induction m with
    |zero=>
      intro k s hm hk hI
      have hk:k=l.length:=by omega
      subst hk
      rw [List.take_length]at hI
      obtain ⟨r,h1,h2⟩:=hd s hI
      exact ⟨r,iter_done h1,h2⟩
    |succ m ih=>
      intro k s hm hk hI
      rcases hs k s (by omega) hI with ⟨s',h1,h2⟩|⟨r,h1,h2⟩
      · rw [←take_snoc l (by omega) d]at h2
        obtain ⟨r,h3,h4⟩:=ih (k+1) s' (by omega) (by omega) h2
        exact ⟨r,iter_next h1 h3,h4⟩
      exact ⟨r,iter_done h1,h2⟩
  exact key _ 0 s0 rfl (Nat.zero_le _) h0
end Go.E
end

noncomputable section
namespace Go.E
open Go
theorem iteO_dt{α:Type}{p:Prop}[Decidable p]{a b:Option α}(h:p):iteO (decide p) a b=a:=by rw [decide_eq_true h];rfl
theorem iteO_df{α:Type}{p:Prop}[Decidable p]{a b:Option α}(h: ¬ p):iteO (decide p) a b=b:=by rw [decide_eq_false h];rfl
theorem bnd_mk{α β:Type}{x:α}{f:α→Option β}:bnd (some x) f=f x:=rfl
theorem iteO_nt{α:Type}{a b:Option α}:iteO (!true) a b=b:=rfl
theorem iteO_nf{α:Type}{a b:Option α}:iteO (!false) a b=a:=rfl
theorem iter_up {S T R : Type} {step : T → Option (T ⊕ R)} (g : S → Nat → T) (n : Nat) (I : Nat → S → Prop) (Q : R → Prop)
    (hs: ∀k s,k<n→I k s→(∃s',step (g s k)=some (.inl (g s' (k+1)))∧I (k+1) s')∨ ∃r,step (g s k)=some (.inr r)∧Q r)
    (hd: ∀s,I n s→ ∃r,step (g s n)=some (.inr r)∧Q r) {s0:S} (h0:I 0 s0): ∃r,iter step (g s0 0)=some r∧Q r:=by
  have key: ∀m k s,n - k=m→k≤n→I k s→ ∃r,iter step (g s k)=some r∧Q r:=by
    intro m
    induction m with
    |zero=>
      intro k s hm hk hI
      have hk:k=n:=by omega
      subst hk
      obtain ⟨r,h1,h2⟩:=hd s hI
      exact ⟨r,iter_done h1,h2⟩
    |succ m ih=>
      intro k s hm hk hI
      rcases hs k s (by omega) hI with ⟨s',h1,h2⟩|⟨r,h1,h2⟩
      · obtain ⟨r,h3,h4⟩:=ih (k+1) s' (by omega) (by omega) h2
        exact ⟨r,iter_next h1 h3,h4⟩
      exact ⟨r,iter_done h1,h2⟩
  exact key _ 0 s0 rfl (Nat.zero_le _) h0
theorem nth_set{α:Type}(l:List α)(i j:Nat)(x d:α):nth (l.set i x) j d=if i=j∧j<l.length then x else nth l j d:=by
  unfold nth
  simp only [List.getD_eq_getElem?_getD,List.getElem?_set]
  by_cases h:i=j
  · subst h
    by_cases k:i<l.length
    · simp [k]
    simp [k]
  simp [h]
theorem nth_map{α β:Type}(f:α→β)(l:List α)(i:Nat)(d:α)(e:β)(h:i<l.length):nth (l.map f) i e=f (nth l i d):=by
  unfold nth
  simp [List.getD_eq_getElem?_getD,List.getElem?_map,List.getElem?_eq_getElem h]
theorem nth_rep{α:Type}(n i:Nat)(x:α):nth (List.replicate n x) i x=x:=by
  unfold nth
  rw [List.getD_eq_getElem?_getD,List.getElem?_replicate]
  split<;>rfl
theorem nth_ext{α:Type}(d:α){l m:List α}(hl:l.length=m.length)(h: ∀i,i<l.length→nth l i d=nth m i d):l=m:=by
  apply List.ext_getElem hl
  intro i h1 h2
  have a:=h i h1
  have b:=getD_some l h1 d
  have c:=getD_some m h2 d
  rw [List.getElem?_eq_getElem h1]at b
  rw [List.getElem?_eq_getElem h2]at c
  rw [Option.some.inj b,a,←Option.some.inj c]
end Go.E
end

noncomputable section
namespace Go.Proofs.YtchebnpdnfhenaaGreatDoor
open Go Go.E
inductive Rch (S:Int→Prop) (E:Int→Int→Prop):Int→Prop
  |base {s:Int}:S s→Rch S E s
  |step {a b:Int}:Rch S E a→E a b→Rch S E b
def onS(t:Fst)(s:Int):Prop:= ∃x∈t.starts,x.state=s
def enS(t:Fst)(s:Int):Prop:= ∃x∈t.ends,x.state=s
def arE(t:Fst)(a b:Int):Prop:= ∃x∈t.arcs,x.frm=a∧x.to=b
def arB(t:Fst)(a b:Int):Prop:= ∃x∈t.arcs,x.to=a∧x.frm=b
def Use(t:Fst)(s:Int):Prop:=Rch (onS t) (arE t) s∧Rch (enS t) (arB t) s
open Classical in
def useB(t:Fst)(s:Nat):Bool:=decide (Use t s)
def cntB(p:Nat→Bool):Nat→Nat
  |0=>0
  |n+1=>cntB p n+(if p n then 1 else 0)
def numB(p:Nat→Bool)(s:Int):Int:=if p s.toNat then (cntB p s.toNat:Int) else -1
theorem cntB_le(p:Nat→Bool): ∀{m n:Nat},m≤n→cntB p m≤cntB p n
  | m, 0, h => by obtain rfl : m = 0 := by omega
                  exact Nat.le_refl _
  |m,n+1,h=>by
    by_cases hm:m=n+1
    · subst hm;exact Nat.le_refl _
    have:=cntB_le p (m:=m) (n:=n) (by omega)
    simp only [cntB];omega
theorem cntB_lt(p:Nat→Bool){m n:Nat}(h:m<n)(hp:p m=true):cntB p m<cntB p n:=by
  have:=cntB_le p (m:=m+1) (n:=n) h
  simp only [cntB,hp,if_true]at this
  omega
theorem cntB_self(p:Nat→Bool): ∀n,cntB p n≤n
  |0=>Nat.le_refl _
  |n+1=>by have:=cntB_self p n;simp only [cntB];split<;>omega
theorem cntB_all{p:Nat→Bool}: ∀n,(∀s,s<n→p s=true)→cntB p n=n
  |0,_=>rfl
  |n+1,h=>by simp only [cntB,cntB_all n (fun s hs=>h s (by omega)),h n (by omega),if_true]
theorem numB_pos{p:Nat→Bool}{s:Int}(h:p s.toNat=true):numB p s=cntB p s.toNat:=by unfold numB;rw [if_pos h]
theorem numB_ge{p:Nat→Bool}{s:Int}:0≤numB p s↔p s.toNat=true:=by
  unfold numB;split
  · simp_all
  simp_all
def keepT(p:Nat→Bool)(l:List Tip):List Tip:=l.filterMap fun x=>if 0≤numB p x.state then some ⟨numB p x.state,x.out⟩ else none
def keepA(p:Nat→Bool)(l:List Arc):List Arc:=l.filterMap fun x=>if 0≤numB p x.frm∧0≤numB p x.to then some ⟨numB p x.frm,numB p x.to,x.set,x.out,x.copy⟩ else none
def keepF(p:Nat→Bool)(t:Fst):Fst:=⟨cntB p t.states.toNat,keepT p t.starts,keepT p t.ends,keepA p t.arcs⟩
theorem mem_keepT{p:Nat→Bool}{l:List Tip}{y:Tip}:y∈keepT p l↔ ∃x∈l,p x.state.toNat=true∧y=⟨numB p x.state,x.out⟩:=by
  unfold keepT
  rw [List.mem_filterMap]
  constructor
  · rintro ⟨x,hx,h⟩
    split at h
    · rename_i h0;exact ⟨x,hx,numB_ge.1 h0,by cases h;rfl⟩
    cases h
  rintro ⟨x,hx,h0,rfl⟩;exact ⟨x,hx,by rw [if_pos (numB_ge.2 h0)]⟩
theorem mem_keepA{p:Nat→Bool}{l:List Arc}{y:Arc}:y∈keepA p l↔ ∃x∈l,p x.frm.toNat=true∧p x.to.toNat=true∧y=⟨numB p x.frm,numB p x.to,x.set,x.out,x.copy⟩:=by
  unfold keepA
  rw [List.mem_filterMap]
  constructor
  · rintro ⟨x,hx,h⟩
    split at h
    · rename_i h0;exact ⟨x,hx,numB_ge.1 h0.1,numB_ge.1 h0.2,by cases h;rfl⟩
    cases h
  rintro ⟨x,hx,h0,h1,rfl⟩;exact ⟨x,hx,by rw [if_pos ⟨numB_ge.2 h0,numB_ge.2 h1⟩]⟩
theorem keepT_len(p:Nat→Bool)(l:List Tip):(keepT p l).length≤l.length:=List.length_filterMap_le ..
theorem keepA_len(p:Nat→Bool)(l:List Arc):(keepA p l).length≤l.length:=List.length_filterMap_le ..
theorem keepT_all{p:Nat→Bool}{n:Nat}(hp: ∀s,s<n→p s=true){l:List Tip}(h: ∀x∈l,0≤x.state∧x.state<n):keepT p l=l:=by
  unfold keepT
  induction l with
  |nil=>rfl
  |cons x l ih=>
    obtain ⟨h1,h2⟩:=h x (List.mem_cons_self ..)
    have hx:=hp x.state.toNat (by omega)
    have:numB p x.state=x.state:=by rw [numB_pos hx,cntB_all _ (fun s hs=>hp s (by omega))];omega
    rw [List.filterMap_cons,this,if_pos h1,ih (fun y hy=>h y (List.mem_cons_of_mem _ hy))]
theorem keepA_all{p:Nat→Bool}{n:Nat}(hp: ∀s,s<n→p s=true){l:List Arc}(h: ∀x∈l,(0≤x.frm∧x.frm<n)∧(0≤x.to∧x.to<n)):keepA p l=l:=by
  unfold keepA
  induction l with
  |nil=>rfl
  |cons x l ih=>
    obtain ⟨⟨h1,h2⟩,h3,h4⟩:=h x (List.mem_cons_self ..)
    have hx:=hp x.frm.toNat (by omega)
    have hy:=hp x.to.toNat (by omega)
    have e1:numB p x.frm=x.frm:=by rw [numB_pos hx,cntB_all _ (fun s hs=>hp s (by omega))];omega
    have e2:numB p x.to=x.to:=by rw [numB_pos hy,cntB_all _ (fun s hs=>hp s (by omega))];omega
    rw [List.filterMap_cons,e1,e2,if_pos ⟨h1,h3⟩,ih (fun y hy=>h y (List.mem_cons_of_mem _ hy))]
structure Rng (t:Fst):Prop where
  starts: ∀x∈t.starts,0≤x.state∧x.state<t.states
  ends: ∀x∈t.ends,0≤x.state∧x.state<t.states
  arcs: ∀x∈t.arcs,(0≤x.frm∧x.frm<t.states)∧(0≤x.to∧x.to<t.states)
open Classical in
theorem useB_iff{t:Fst}{s:Nat}:useB t s=true↔Use t s:=by unfold useB;exact decide_eq_true_iff
theorem keep_rng{t r:Fst}(hS: ∀x,x∈r.starts↔x∈keepT (useB t) t.starts)(hE: ∀x,x∈r.ends↔x∈keepT (useB t) t.ends)(hA: ∀x,x∈r.arcs↔x∈keepA (useB t) t.arcs)(hn:r.states=cntB (useB t) t.states.toNat)(h:Rng t):Rng r:=by
  have num: ∀{a:Int},0≤a→a<t.states→useB t a.toNat=true→0≤numB (useB t) a∧numB (useB t) a<r.states:=fun {a} h0 h1 hu=>by
    rw [numB_pos hu,hn]
    have:=cntB_lt (useB t) (m:=a.toNat) (n:=t.states.toNat) (by omega) hu
    omega
  refine ⟨fun y hy=> ?_,fun y hy=> ?_,fun y hy=> ?_⟩
  · obtain ⟨x,hx,hu,rfl⟩:=mem_keepT.1 ((hS y).1 hy);have:=h.starts x hx;exact num this.1 this.2 hu
  · obtain ⟨x,hx,hu,rfl⟩:=mem_keepT.1 ((hE y).1 hy);have:=h.ends x hx;exact num this.1 this.2 hu
  obtain ⟨x,hx,hu,hv,rfl⟩:=mem_keepA.1 ((hA y).1 hy);have:=h.arcs x hx;exact ⟨num this.1.1 this.1.2 hu,num this.2.1 this.2.2 hv⟩
end Go.Proofs.YtchebnpdnfhenaaGreatDoor
end

noncomputable section
namespace Go.Proofs.YtchebnpdnfhenaaGreatDoor
open Go Go.E
def uns:List Bool→Nat
  |[]=>0
  |b::l=>(if b then 0 else 1)+uns l
theorem uns_len: ∀l:List Bool,uns l≤l.length
  |[]=>Nat.le_refl _
  |b::l=>by have:=uns_len l;simp only [uns,List.length_cons];split<;>omega
def Le(l r:List Bool):Prop:= ∀v,nth l v false=true→nth r v false=true
theorem Le.rfl'(l:List Bool):Le l l:=fun _ h=>h
theorem Le.trans{l r s:List Bool}(h:Le l r)(k:Le r s):Le l s:=fun v hv=>k v (h v hv)
theorem uns_le: ∀{l r:List Bool},l.length=r.length→Le l r→uns r≤uns l
  |[],[],_,_=>Nat.le_refl _
  |[],_::_,h,_=>by simp at h
  |_::_,[],h,_=>by simp at h
  |a::l,b::r,h,k=>by
    have h1:=uns_le (l:=l) (r:=r) (by simpa using h) (fun v hv=>k (v+1) hv)
    have h2:a=true→b=true:=fun ha=>k 0 ha
    simp only [uns]
    cases a<;>cases b<;>simp_all<;>omega
theorem uns_set: ∀{l:List Bool} {i:Nat},i<l.length→nth l i false=false→uns (l.set i true)+1=uns l
  |[],i,h,_=>by simp at h
  |a::l,0,_,h=>by
    have:a=false:=h
    subst this
    simp [uns];omega
  |a::l,i+1,h,k=>by
    have:=uns_set (l:=l) (i:=i) (by simpa using h) k
    simp only [List.set_cons_succ,uns];omega
theorem le_set{l:List Bool}(i:Nat)(h:i<l.length):Le l (l.set i true):=fun v hv=>by
  rw [nth_set];split
  · rfl
  exact hv
def stE(st:List (List Int))(a b:Int):Prop:=0≤a∧b∈nth st a.toNat []
theorem Rch.trans{S:Int→Prop}{E:Int→Int→Prop}{a b:Int}(h:Rch (fun c=>c=a) E b)(k:Rch S E a):Rch S E b:=by
  induction h with
  |base e=>subst e;exact k
  |step _ e ih=>exact .step ih e
theorem mem_nth{α:Type}{l:List α}{x d:α}(h:x∈l): ∃j,j<l.length∧nth l j d=x:=by
  obtain ⟨j,hj,e⟩:=List.getElem_of_mem h
  refine ⟨j,hj,?_⟩
  have:=getD_some l hj d
  rw [List.getElem?_eq_getElem hj,Option.some.injEq]at this
  rw [←this];exact e
theorem mem_at{α:Type}{l:List α}{j:Nat}(d:α)(h:j<l.length):nth l j d∈l:=by
  have:=getD_some l h d
  exact List.mem_of_getElem? this
structure Vis (st:List (List Int)) (n:Nat) (s:Int) (seen r:List Bool):Prop where
  len:r.length=n
  le:Le seen r
  at':nth r s.toNat false=true
  out: ∀v,nth r v false=true→nth seen v false=true∨Rch (fun c=>c=s) (stE st) v
  cl: ∀v,nth r v false=true→nth seen v false=false→ ∀z∈nth st v [],nth r z.toNat false=true
theorem visit_ok {st : List (List Int)} {n : Nat} (hl : st.length = n) (hst : ∀ a, ∀ z ∈ nth st a [], 0 ≤ z ∧ z < n) :
    ∀k (s:Int) (seen:List Bool),0≤s→s<n→seen.length=n→uns seen<k→ ∃r,Cl_ k s seen st=some r∧Vis st n s seen r:=by
  intro k
  induction k with
  |zero=>intro s seen _ _ _ h;omega
  |succ k ih=>
    intro s seen h0 h1 hn hu
    show ∃r,Ef_ (Cl_ k) s seen st=some r∧_
    unfold Ef_
    rw [grd_mk ⟨h0,by omega⟩]
    cases hs:nth seen s.toNat false with
    |true=>exact ⟨seen,rfl,hn,Le.rfl' _,hs,fun v hv=> .inl hv,fun v hv hf=>by rw [hv]at hf;cases hf⟩
    | false =>
      rw [iteO_false,grd_mk ⟨h0,by omega⟩,grd_mk ⟨h0,by omega⟩]
      have hlt:s.toNat<seen.length:=by omega
      have hun:=uns_set hlt hs
      have hat:nth (seen.set s.toNat true) s.toNat false=true:=by rw [nth_set,if_pos ⟨rfl,hlt⟩]
      have hor: ∀v,nth (seen.set s.toNat true) v false=true→nth seen v false=true∨v=s.toNat:=fun v hv=>by
        rw [nth_set]at hv
        split at hv
        · rename_i h;exact .inr h.1.symm
        exact .inl hv
      obtain ⟨r,h2,h3,h4,h5,h6,h7⟩:=iter_up (step:=fun q:List Bool×Nat=>Br_ st s (Cl_ k) q.1 q.2) (fun (l:List Bool) j=>(l,j)) (nth st s.toNat []).length
        (fun j l=>l.length=n∧Le (seen.set s.toNat true) l∧(∀i,i<j→nth l (nth (nth st s.toNat []) i 0).toNat false=true)∧(∀v,nth l v false=true→nth (seen.set s.toNat true) v false=true∨Rch (fun c=>c=s) (stE st) v)∧(∀v,nth l v false=true→nth (seen.set s.toNat true) v false=false→ ∀z∈nth st v [],nth l z.toNat false=true))
        (fun l=>l.length=n∧Le (seen.set s.toNat true) l∧(∀i,i<(nth st s.toNat []).length→nth l (nth (nth st s.toNat []) i 0).toNat false=true)∧(∀v,nth l v false=true→nth (seen.set s.toNat true) v false=true∨Rch (fun c=>c=s) (stE st) v)∧(∀v,nth l v false=true→nth (seen.set s.toNat true) v false=false→ ∀z∈nth st v [],nth l z.toNat false=true))
        (fun j l hj ⟨a1,a2,a3,a4,a5⟩=>by
          have hz:=mem_at (0:Int) hj
          have hzr:=hst _ _ hz
          have hle:=uns_le (by rw [List.length_set];omega) a2
          obtain ⟨r,b1,b2⟩:=ih (nth (nth st s.toNat []) j 0) l hzr.1 hzr.2 a1 (by omega)
          refine .inl ⟨r,?_,b2.len,a2.trans b2.le,fun i hi=> ?_,fun v hv=> ?_,fun v hv hf z hz'=> ?_⟩
          · show Br_ st s (Cl_ k) l j=_
            unfold Br_
            rw [iteO_dt (by omega),b1];rfl
          · by_cases hij:i=j
            · subst hij;exact b2.at'
            exact b2.le _ (a3 i (by omega))
          · rcases b2.out v hv with h|h
            · exact a4 v h
            exact .inr (h.trans (.step (.base rfl) ⟨h0,hz⟩))
          cases hlv:nth l v false with
          |true=>exact b2.le _ (a5 v hlv hf z hz')
          |false=>exact b2.cl v hv hlv z hz')
        (fun l hI=>⟨l,by
          show Br_ st s (Cl_ k) l _=_
          unfold Br_
          rw [iteO_df (by omega)];rfl,hI⟩)
        (s0:=seen.set s.toNat true) ⟨by rw [List.length_set];exact hn,Le.rfl' _,fun i hi=>by omega,fun v hv=> .inl hv,fun v hv hf=>by rw [hv]at hf;cases hf⟩
      refine ⟨r,h2,h3,(le_set _ hlt).trans h4,h4 _ hat,fun v hv=> ?_,fun v hv hf z hz=> ?_⟩
      · rcases h6 v hv with h|h
        · rcases hor v h with h|h
          · exact .inl h
          exact .inr (.base (by omega))
        exact .inr h
      cases hsv:nth (seen.set s.toNat true) v false with
      |true=>
        rcases hor v hsv with h|h
        · rw [h]at hf;cases hf
        subst h
        obtain ⟨i,hi,e⟩:=mem_nth (d:=(0:Int)) hz
        have:=h5 i hi
        rw [e]at this;exact this
      |false=>exact h7 v hv hsv z hz
theorem reach_ok {st : List (List Int)} {n : Nat} {tips : List Tip} (hn : n ≤ 1024) (hl : st.length = n) (hst : ∀ a, ∀ z ∈ nth st a [], 0 ≤ z ∧ z < n) (ht : ∀ x ∈ tips, 0 ≤ x.state ∧ x.state < n) :
    ∃r,En_ tips st=some r∧r.length=n∧ ∀v:Nat,nth r v false=true↔Rch (fun c=> ∃x∈tips,x.state=c) (stE st) v:=by
  unfold En_
  rw [grd_mk (by omega)]
  obtain ⟨r,h1,h2,h3,h4,h5⟩:=iter_up (step:=fun q:List Bool×Nat=>Cc_ tips st q.1 q.2) (fun (l:List Bool) j=>(l,j)) tips.length
    (fun j l=>l.length=n∧(∀i,i<j→nth l (nth tips i Tip.zero).state.toNat false=true)∧(∀v:Nat,nth l v false=true→Rch (fun c=> ∃x∈tips,x.state=c) (stE st) v)∧(∀v,nth l v false=true→ ∀z∈nth st v [],nth l z.toNat false=true))
    (fun l=>l.length=n∧(∀i,i<tips.length→nth l (nth tips i Tip.zero).state.toNat false=true)∧(∀v:Nat,nth l v false=true→Rch (fun c=> ∃x∈tips,x.state=c) (stE st) v)∧(∀v,nth l v false=true→ ∀z∈nth st v [],nth l z.toNat false=true))
    (fun j l hj ⟨a1,a2,a3,a4⟩=>by
      have hz:=mem_at Tip.zero hj
      have hzr:=ht _ hz
      have:=uns_len l
      obtain ⟨r,b1,b2⟩:=visit_ok hl hst (l.length+1) (nth tips j Tip.zero).state l hzr.1 hzr.2 a1 (by omega)
      refine .inl ⟨r,?_,b2.len,fun i hi=> ?_,fun v hv=> ?_,fun v hv z hz'=> ?_⟩
      · show Cc_ tips st l j=_
        unfold Cc_
        rw [iteO_dt (by omega),b1];rfl
      · by_cases hij:i=j
        · subst hij;exact b2.at'
        exact b2.le _ (a2 i (by omega))
      · rcases b2.out v hv with h|h
        · exact a3 v h
        exact h.trans (.base ⟨_,hz,rfl⟩)
      cases hlv:nth l v false with
      |true=>exact b2.le _ (a4 v hlv z hz')
      |false=>exact b2.cl v hv hlv z hz')
    (fun l hI=>⟨l,by
      show Cc_ tips st l _=_
      unfold Cc_
      rw [iteO_df (by omega)];rfl,hI⟩)
    (s0:=List.replicate st.length false) ⟨by rw [List.length_replicate];exact hl,fun i hi=>by omega,fun v hv=>(by rw [nth_rep]at hv;cases hv),fun v hv=>(by rw [nth_rep]at hv;cases hv)⟩
  refine ⟨r,h1,h2,fun v=>⟨h4 v,fun hv=> ?_⟩⟩
  have: ∀c:Int,Rch (fun c=> ∃x∈tips,x.state=c) (stE st) c→nth r c.toNat false=true:=fun c hc=>by
    induction hc with
    |base h=>
      obtain ⟨x,hx,rfl⟩:=h
      obtain ⟨i,hi,e⟩:=mem_nth (d:=Tip.zero) hx
      have:=h3 i hi
      rw [e]at this;exact this
    |step _ e ih=>exact h5 _ ih _ e.2
  have:=this v hv
  simpa using this
end Go.Proofs.YtchebnpdnfhenaaGreatDoor
end

noncomputable section
namespace Go.Proofs.YtchebnpdnfhenaaGreatDoor
open Go Go.E
theorem drop_nth{α:Type}(l:List α){k:Nat}(h:k<l.length)(d:α):l.drop k=nth l k d::l.drop (k+1):=by
  rw [List.drop_eq_getElem_cons h]
  have:=getD_some l h d
  rw [List.getElem?_eq_getElem h,Option.some.injEq]at this
  rw [this]
def lcpN:List UInt8→List UInt8→Nat
  |a::l,b::m=>if a=b then lcpN l m+1 else 0
  |_,_=>0
theorem lcpN_l: ∀l m:List UInt8,lcpN l m≤l.length
  |[],_=>Nat.zero_le _
  |_::_,[]=>Nat.zero_le _
  |a::l,b::m=>by have:=lcpN_l l m;simp only [lcpN,List.length_cons];split<;>omega
theorem lcpN_eq: ∀(l m:List UInt8) (k:Nat),k≤l.length→k≤m.length→(∀i,i<k→nth l i 0=nth m i 0)→(k<l.length→k<m.length→nth l k 0≠nth m k 0)→lcpN l m=k
  |[],_,k,h,_,_,_=>by simp at h;simp [lcpN,h]
  |_::_,[],k,_,h,_,_=>by simp at h;simp [lcpN,h]
  |a::l,b::m,0,_,_,_,h=>by
    have:a≠b:=h (by simp) (by simp)
    simp [lcpN,this]
  |a::l,b::m,k+1,h1,h2,h3,h4=>by
    have e:a=b:=h3 0 (by omega)
    have:=lcpN_eq l m k (by simpa using h1) (by simpa using h2) (fun i hi=>h3 (i+1) (by omega)) (fun i j=>h4 (by simpa using i) (by simpa using j))
    simp [lcpN,e,this]
theorem front_eq (x y : List UInt8) (hx : x.length ≤ 281474976710656) (hy : y.length ≤ 281474976710656) : Fa_ x y = some ((lcpN x y : Nat) : Int) := by
  unfold Fa_
  rw [grd_mk hx,grd_mk hy]
  have hm:min ((x.length:Nat):Int) ((y.length:Nat):Int)=((min x.length y.length:Nat):Int):=by omega
  obtain ⟨r,h,rfl⟩:=iter_up (step:=fun q:Nat=>Dm_ x y q) (fun (_:Unit) k=>k) (min x.length y.length) (fun k _=> ∀i,i<k→nth x i 0=nth y i 0) (fun r=>r=((lcpN x y:Nat):Int))
    (fun k _ hk hI=>by
      unfold Dm_
      rw [hm,iteO_dt (by omega),grd_mk (by omega),grd_mk (by omega)]
      by_cases e:nth x k 0=nth y k 0
      · rw [iteO_df (by rw [e];simp)]
        exact .inl ⟨(),rfl,fun i hi=>by
          by_cases hik:i=k
          · subst hik;exact e
          exact hI i (by omega)⟩
      have hne:(((nth x k (0:UInt8)).toNat:Nat):Int)≠(((nth y k (0:UInt8)).toNat:Nat):Int):=fun h=>e (UInt8.toNat_inj.1 (by omega))
      rw [iteO_dt hne]
      refine .inr ⟨_,rfl,?_⟩
      rw [lcpN_eq x y k (by omega) (by omega) hI (fun _ _=>e)])
    (fun _ hI=>⟨_,by
      unfold Dm_
      rw [hm,iteO_df (by omega)];rfl,by
      rw [lcpN_eq x y (min x.length y.length) (by omega) (by omega) hI (fun h1 h2=>by omega)]⟩)
    (s0:=()) (fun i hi=>by omega)
  exact h
section
variable {S α:Type}
end
structure ArcsOk (arcs:List (List Arc)):Prop where
  out: ∀i, ∀x∈nth arcs i [],x.out.length≤1000000
structure LagOk (n:Nat) (l:TLag):Prop where
  p:0≤l.p∧l.p<n
  q:0≤l.q∧l.q<n
  a:l.a.length≤100000000
  b:l.b.length≤100000000
section
variable {Sy:Type} {Y:Sy→TLag→Option (Sy×Bool)} (w:Walk) (hw:ArcsOk w.arcs) (row:List TLag) (hr: ∀l∈row,LagOk w.arcs.length l) (i:Nat) (hi:i<row.length)
include hw hr hi
end
end Go.Proofs.YtchebnpdnfhenaaGreatDoor
end

noncomputable section
namespace Go.Proofs.YtchebnpdnfhenaaGreatDoor
open Go Go.E
theorem lcpN_le: ∀(a b:List UInt8) (n:Nat),n≤a.length→(n≤lcpN a b↔n≤b.length∧b.take n=a.take n)
  |a,b,0,_=>by simp
  |[],b,n+1,h=>by simp at h
  |x::l,[],n+1,h=>by simp [lcpN]
  |x::l,y::m,n+1,h=>by
    have ih:=lcpN_le l m n (by simpa using h)
    unfold lcpN
    by_cases c:x=y
    · subst c;simp [ih]
    simp only [if_neg c,List.length_cons,List.take_succ_cons,List.cons.injEq]
    constructor
    · intro h;omega
    intro h;exact absurd h.2.1.symm c
theorem pre_iff{p x:List UInt8}:p <+: x↔p.length≤x.length∧x.take p.length=p:=by
  rw [List.prefix_iff_eq_take]
  constructor
  · intro h
    refine ⟨?_,h.symm⟩
    have:=congrArg List.length h
    rw [List.length_take]at this;omega
  intro h;exact h.2.symm
theorem pre_anti{p q:List UInt8}(h:p <+: q)(k:q <+: p):p=q:=h.eq_of_length (Nat.le_antisymm h.length_le k.length_le)
theorem lcp_l(s t:List UInt8):s.take (lcpN s t) <+: s:=List.take_prefix _ _
theorem lcp_r(s t:List UInt8):s.take (lcpN s t) <+: t:=by
  have h1:=lcpN_l s t
  have h2:=(lcpN_le s t _ h1).1 (Nat.le_refl _)
  rw [←h2.2];exact List.take_prefix _ _
theorem lcp_max{p s t:List UInt8}(h:p <+: s)(k:p <+: t):p <+: s.take (lcpN s t):=by
  rw [pre_iff]at h k
  have h1:=(lcpN_le s t p.length h.1).2 ⟨k.1,by rw [k.2,h.2]⟩
  rw [pre_iff,List.length_take,List.take_take,Nat.min_eq_left h1]
  exact ⟨by omega,h.2⟩
def lcpF(l:List (List UInt8))(s:List UInt8):List UInt8:=l.foldl (fun s t=>s.take (lcpN s t)) s
theorem lcpF_pre: ∀(l:List (List UInt8)) (s:List UInt8),lcpF l s <+: s∧ ∀x∈l,lcpF l s <+: x
  |[],s=>⟨List.prefix_refl _,by simp⟩
  |t::l,s=>by
    obtain ⟨h1,h2⟩:=lcpF_pre l (s.take (lcpN s t))
    refine ⟨h1.trans (lcp_l s t),fun x hx=> ?_⟩
    rcases List.mem_cons.1 hx with rfl|hx
    · exact h1.trans (lcp_r s x)
    exact h2 x hx
theorem lcpF_max{p:List UInt8}: ∀(l:List (List UInt8)) (s:List UInt8),p <+: s→(∀x∈l,p <+: x)→p <+: lcpF l s
  |[],s,h,_=>h
  |t::l,s,h,k=>lcpF_max l _ (lcp_max h (k t (List.mem_cons_self ..))) fun x hx=>k x (List.mem_cons_of_mem _ hx)
def lcpL:List (List UInt8)→List UInt8
  |[]=>[]
  |x::l=>lcpF l x
theorem lcpL_pre: ∀{l:List (List UInt8)} {x:List UInt8},x∈l→lcpL l <+: x
  |[],x,h=>by cases h
  |y::l,x,h=>by
    rcases List.mem_cons.1 h with rfl|h
    · exact (lcpF_pre l x).1
    exact (lcpF_pre l y).2 x h
theorem lcpL_max: ∀{l:List (List UInt8)} {p:List UInt8},l≠[]→(∀x∈l,p <+: x)→p <+: lcpL l
  |[],p,h,_=>absurd rfl h
  |y::l,p,_,h=>lcpF_max l y (h y (List.mem_cons_self ..)) fun x hx=>h x (List.mem_cons_of_mem _ hx)
theorem lcpL_uniq{l:List (List UInt8)}{p:List UInt8}(h0:l≠[])(h1: ∀x∈l,p <+: x)(h2: ∀q,(∀x∈l,q <+: x)→q <+: p):lcpL l=p:=
  pre_anti (h2 _ fun x hx=>lcpL_pre hx) (lcpL_max h0 h1)
theorem lcpL_congr{l m:List (List UInt8)}(h: ∀x,x∈l↔x∈m):lcpL l=lcpL m:=by
  by_cases c:l=[]
  · subst c
    have:m=[]:=List.eq_nil_iff_forall_not_mem.2 fun x hx=>by have:=(h x).2 hx;cases this
    rw [this]
  have c2:m≠[]:=fun e=>by
    subst e
    exact c (List.eq_nil_iff_forall_not_mem.2 fun x hx=>by have:=(h x).1 hx;cases this)
  exact lcpL_uniq c (fun x hx=>lcpL_pre ((h x).1 hx)) fun q hq=>lcpL_max c2 fun x hx=>hq x ((h x).2 hx)
theorem lcpF_snoc(l:List (List UInt8))(s t:List UInt8):lcpF (l++[t]) s=(lcpF l s).take (lcpN (lcpF l s) t):=by simp [lcpF]
theorem take_snoc{α:Type}(l:List α){k:Nat}(h:k<l.length)(d:α):l.take (k+1)=l.take k++[nth l k d]:=by
  rw [List.take_add_one]
  have:=getD_some l h d
  rw [this];rfl
theorem textLcp_eq {l : List (List UInt8)} (h : ∀ x ∈ l, x.length ≤ 281474976710656) : F0_ l = some (lcpL l) := by
  unfold F0_
  cases l with
  |nil=>rfl
  |cons x l=>
    rw [iteO_df (by simp;omega),grd_mk (by simp),grd_mk (by simp)]
    have hx:x.length≤281474976710656:=h x (List.mem_cons_self ..)
    obtain ⟨r,h1,h2⟩:=iter_up (step:=fun q:(List UInt8)×Nat=>Dd_ (x::l) q.1 q.2) (fun s k=>(s,k)) l.length (fun k s=>s=lcpF (l.take k) x) (fun r=>r=lcpF l x)
      (fun k s hk hI=> .inl ⟨s.take (lcpN s (nth l k [])),by
        have hs:s.length≤281474976710656:=by
          rw [hI]
          exact Nat.le_trans (lcpF_pre _ x).1.length_le hx
        have ht:(nth l k []).length≤281474976710656:=h _ (List.mem_cons_of_mem _ (mem_at [] hk))
        show Dd_ (x::l) s k=_
        unfold Dd_
        rw [show (x::l).drop 1=l from rfl,iteO_dt (by omega),front_eq s _ hs ht,bnd_mk,grd_mk ⟨by omega,by omega,by rw [Int.toNat_natCast];exact lcpN_l _ _⟩,Int.toNat_natCast];rfl,by
        rw [take_snoc l hk [],lcpF_snoc,←hI]⟩)
      (fun s hI=>⟨s,by
        show Dd_ (x::l) s l.length=_
        unfold Dd_
        rw [show (x::l).drop 1=l from rfl,iteO_df (by omega)];rfl,by rw [hI,List.take_length]⟩) (s0:=x) rfl
    rw [show nth (x::l) 0 []=x from rfl]
    show iter _ (x,0)=_
    rw [h1,h2];rfl
theorem rbeg_eq(x y:List UInt8)(hx:x.length≤281474976710656)(hy:y.length≤281474976710656):Cg_ x y=some (decide (x <+: y)):=by
  unfold Cg_
  rw [grd_mk hx,grd_mk hy]
  by_cases c:x.length≤y.length
  · rw [iteO_dt (by omega),grd_mk ⟨by omega,c⟩]
    have:(y.take x.length=x)↔x <+: y:=by rw [pre_iff];simp [c]
    simp only [this]
  rw [iteO_df (by omega),decide_eq_false (fun h=>c h.length_le)]
theorem rlcp_at {x : List UInt8} {l : List (List UInt8)} (h : ∀ y ∈ x :: l, y.length ≤ 281474976710656) (n : Nat) (hn : n + 1 ≤ x.length) :
    Bd_ (x::l) ((n+1:Nat):Int)=some (if ∀y∈x::l,x.take (n+1) <+: y then .inr (x.take (n+1)) else .inl ((n:Nat):Int)):=by
  unfold Bd_
  rw [iteO_dt (by omega)]
  have hx:x.length≤281474976710656:=h x (List.mem_cons_self ..)
  have htn:(x.take (n+1)).length≤281474976710656:=by rw [List.length_take];omega
  have hg:(0:Int)≤((n+1:Nat):Int)∧0≤((n+1:Nat):Int).toNat∧((n+1:Nat):Int).toNat≤(nth (x::l) 0 ([]:List UInt8)).length:=by
    rw [Int.toNat_natCast];exact ⟨by omega,by omega,hn⟩
  obtain ⟨r,h1,h2⟩:=iter_up (step:=fun q:Bool×Nat=>Bc_ (x::l) ((n+1:Nat):Int) q.1 q.2) (fun s k=>(s,k)) (x::l).length (fun k s=>s=decide (∀y∈(x::l).take k,x.take (n+1) <+: y))
    (fun r=>r=(if ∀y∈x::l,x.take (n+1) <+: y then .inr (x.take (n+1)) else .inl ((n:Nat):Int)))
    (fun k s hk hI=> .inl ⟨decide (∀y∈(x::l).take (k+1),x.take (n+1) <+: y),by
      show Bc_ (x::l) _ s k=_
      unfold Bc_ Da_
      rw [iteO_dt (by omega)]
      have e1:(∀y∈(x::l).take (k+1),x.take (n+1) <+: y)↔(∀y∈(x::l).take k,x.take (n+1) <+: y)∧x.take (n+1) <+: nth (x::l) k []:=by
        rw [take_snoc _ hk []]
        simp only [List.mem_append,List.mem_singleton]
        exact ⟨fun q=>⟨fun y hy=>q y (.inl hy),q _ (.inr rfl)⟩,fun q y hy=>hy.elim (q.1 y) (fun e=>by rw [e];exact q.2)⟩
      cases s with
      |true=>
        have hI:=of_decide_eq_true hI.symm
        rw [iteO_true,grd_mk (by simp),grd_mk hg,Int.toNat_natCast]
        show bnd (Cg_ (x.take (n+1)) (nth (x::l) k [])) _=_
        rw [rbeg_eq _ _ htn (h _ (mem_at [] hk)),bnd_mk]
        simp only [e1]
        rw [show (decide ((∀y∈(x::l).take k,x.take (n+1) <+: y)∧x.take (n+1) <+: nth (x::l) k []))=decide (x.take (n+1) <+: nth (x::l) k [])from by
          rw [Bool.eq_iff_iff];simp only [decide_eq_true_eq];exact ⟨fun q=>q.2,fun q=>⟨hI,q⟩⟩]
        rfl
      |false=>
        have hI:=of_decide_eq_false hI.symm
        rw [iteO_false,decide_eq_false (fun q=>hI (e1.1 q).1)];rfl,rfl⟩)
    (fun s hI=>by
      rw [List.take_length]at hI
      show ∃r,Bc_ (x::l) _ s _=_∧_
      unfold Bc_
      rw [iteO_df (by omega)]
      cases s with
      |true=>
        have hI:=of_decide_eq_true hI.symm
        refine ⟨_,?_,rfl⟩
        rw [iteO_true,grd_mk (by simp),grd_mk hg,Int.toNat_natCast,if_pos hI];rfl
      |false=>
        have hI:=of_decide_eq_false hI.symm
        refine ⟨_,?_,rfl⟩
        rw [iteO_false,if_neg hI,show ((n+1:Nat):Int) - 1=((n:Nat):Int) by omega,wrap64_of (by omega) (by omega)];rfl) (s0:=true) (by simp)
  rw [←h2];exact h1
theorem rLcp_eq {l : List (List UInt8)} (h : ∀ x ∈ l, x.length ≤ 281474976710656) : Du_ l = some (lcpL l) := by
  cases l with
  |nil=>rfl
  |cons x l=>
    have hp:lcpL (x::l) <+: x:=lcpL_pre (List.mem_cons_self ..)
    have key: ∀n:Nat,n≤x.length→(lcpL (x::l)).length≤n→iter (fun q:Int=>Bd_ (x::l) q) ((n:Nat):Int)=some (lcpL (x::l)):=by
      intro n
      induction n with
      |zero=>
        intro _ k
        have e:lcpL (x::l)=[]:=List.length_eq_zero_iff.1 (by omega)
        rw [e]
        refine iter_done ?_
        show Bd_ (x::l) _=_
        unfold Bd_
        rw [iteO_df (by omega)];rfl
      |succ n ih=>
        intro hn k
        have hs:=rlcp_at h n hn
        by_cases c: ∀y∈x::l,x.take (n+1) <+: y
        · rw [if_pos c]at hs
          have h1:=lcpL_max (List.cons_ne_nil x l) c
          have h2:lcpL (x::l) <+: x.take (n+1):=by
            rw [pre_iff]at hp ⊢
            rw [List.length_take,List.take_take,Nat.min_eq_left k]
            exact ⟨by omega,hp.2⟩
          rw [pre_anti h2 h1]
          exact iter_done hs
        rw [if_neg c]at hs
        refine iter_next hs (ih (by omega) ?_)
        rcases Nat.lt_or_ge (lcpL (x::l)).length (n+1)with q|q
        · omega
        refine absurd (fun y hy=> ?_) c
        have e:(lcpL (x::l)).length=n+1:=by omega
        have h3:=(pre_iff.1 hp).2
        rw [e]at h3
        rw [h3];exact lcpL_pre hy
    unfold Du_
    rw [iteO_df (by simp;omega),grd_mk (by simp)]
    exact key x.length (Nat.le_refl _) hp.length_le
end Go.Proofs.YtchebnpdnfhenaaGreatDoor
end

noncomputable section
namespace Go.Proofs.YtchebnpdnfhenaaGreatDoor
open Go Go.E
section
variable {α:Type} [DecidableEq α] (d:α)
def ddN(l:List α):Nat→List α
  |0=>[]
  |n+1=>ddN l n++(if n=0∨nth l n d≠nth l (n - 1) d then [nth l n d] else [])
theorem mem_ddN(l:List α): ∀n,n≤l.length→ ∀x,x∈ddN d l n↔x∈l.take n
  |0,_,x=>by simp [ddN]
  | n + 1, h, x => by
    rw [ddN,take_snoc l (by omega) d,List.mem_append,List.mem_append,mem_ddN l n (by omega)]
    by_cases hc:n=0∨nth l n d≠nth l (n - 1) d
    · rw [if_pos hc]
    rw [if_neg hc]
    simp only [not_or,ne_eq,Decidable.not_not]at hc
    have:nth l n d∈l.take n:=by
      rw [hc.2]
      have h1:(l.take n)[n - 1]? =some (nth l (n - 1) d):=by rw [List.getElem?_take,if_pos (by omega)];exact getD_some l (by omega) d
      exact List.mem_of_getElem? h1
    constructor
    · rintro (h|h)
      · exact .inl h
      cases h
    rintro (h|h)
    · exact .inl h
    rw [List.mem_singleton.1 h];exact .inl this
theorem nth_set_ne{l:List α}{k i:Nat}{v:α}(h:i≠k):nth (l.set k v) i d=nth l i d:=by
  simp [nth,List.getD,List.getElem?_set,Ne.symm h]
include d in
theorem take_set_succ{l:List α}{k:Nat}{v:α}(h:k<l.length):(l.set k v).take (k+1)=l.take k++[v]:=by
  rw [take_snoc (l.set k v) (by simpa using h) d]
  congr 1
  · rw [List.take_set_of_le (Nat.le_refl _)]
  simp [nth,List.getD,h]
def gC_j(k125:Nat)(l128:List α)(k130:Nat):Option ((List α×Nat×Nat)⊕(Nat⊕List α)):=
  nxt (l128,k130,(k125+1))
def gC_b2(x0:List α)(k105:Nat)(l122:List α)(k124:Nat)(k125:Nat):Option ((List α×Nat×Nat)⊕(Nat⊕List α)):=
  iteO (decide (((k125:Nat):Int)<(((x0.length - k105):Nat):Int))) (grd (k125<(x0.length - k105)) (grd (0≤(IntKind.i64.wrap (((k125:Nat):Int) - 1))∧(IntKind.i64.wrap (((k125:Nat):Int) - 1))<((x0.length - k105):Nat)) (iteO (decide (¬ ((nth l122 (k105+k125) d)=(nth l122 (k105+(IntKind.i64.wrap (((k125:Nat):Int) - 1)).toNat) d)))) (grd (k125<(x0.length - k105)) (grd (k124<l122.length) (gC_j k125 (l122.set k124 (nth l122 (k105+k125) d)) (k124+1)))) (gC_j k125 l122 k124)))) (fin (grd (k124≤x0.length) (grd (k124≤(l122.take k124++List.replicate (l122.length - k124) d).length) (fin (some ((l122.take k124++List.replicate (l122.length - k124) d).take k124))))))
def gC_b1(x0:List α)(k105:Nat):Option ((Nat)⊕(List α)):=
  iteO (decide (((k105:Nat):Int)<((x0.length:Nat):Int))) (grd (0≤(IntKind.i64.wrap (((k105:Nat):Int) - 1))∧(IntKind.i64.wrap (((k105:Nat):Int) - 1))<(x0.length:Int)) (iteO (decide ((nth x0 k105 d)=(nth x0 ((IntKind.i64.wrap (((k105:Nat):Int) - 1)).toNat) d))) (grd (k105≤x0.length) (iter (fun q:(List α)×Nat×Nat=>gC_b2 d x0 k105 q.1 q.2.1 q.2.2) (x0,k105,1))) (nxt (k105+1)))) (fin (some x0))
def gC(x0:List α):Option (List α):=
  iteO (decide (((x0.length:Nat):Int)<2)) (some x0) (iter (fun q:Nat=>gC_b1 d x0 q) 1)
theorem wrap_pred{k:Nat}(h1:1≤k)(h2:k≤281474976710656):IntKind.i64.wrap ((k:Int) - 1)=((k - 1:Nat):Int):=by
  rw [wrap64_of (by omega) (by omega)];omega
theorem gC_in {l : List α} (hl : l.length ≤ 281474976710656) {k0 : Nat} (h0 : 1 ≤ k0) (hk : k0 < l.length) (he : nth l k0 d = nth l (k0 - 1) d) (hd : ddN d l k0 = l.take k0) :
    iter (fun q:(List α)×Nat×Nat=>gC_b2 d l k0 q.1 q.2.1 q.2.2) (l,k0,1)=some (.inr (ddN d l l.length)):=by
  refine Exists.elim (iter_run (step:=fun q:(List α)×Nat×Nat=>gC_b2 d l k0 q.1 q.2.1 q.2.2)
    (fun q=>1≤q.2.2∧k0+q.2.2≤l.length∧q.1.length=l.length∧q.2.1≤k0+q.2.2 - 1∧(∀i,k0+q.2.2 - 1≤i→nth q.1 i d=nth l i d)∧q.1.take q.2.1=ddN d l (k0+q.2.2))
    (fun r=>r= .inr (ddN d l l.length)) (fun q=>l.length - q.2.2) ?_ (l,k0,1) ⟨Nat.le_refl _,hk,rfl,by simp only;omega,fun _ _=>rfl,?_⟩) (fun r hr=>by rw [hr.1,hr.2])
  · rintro ⟨l2,k,j⟩ ⟨hj,hjl,hlen,hkj,hI,ht⟩
    simp only at hj hjl hlen hkj hI ht
    have hw:IntKind.i64.wrap ((j:Int) - 1)=((j - 1:Nat):Int):=wrap_pred hj (by omega)
    by_cases hlt:k0+j<l.length
    · left
      have e1:=hI (k0+j) (by omega)
      have e2:=hI (k0+(j - 1)) (by omega)
      simp only [gC_b2,hw,Int.toNat_natCast,decide_eq_true (show ((j:Nat):Int)<((l.length - k0:Nat):Int) by omega),iteO_true,
        grd_mk (show j<l.length - k0 by omega),grd_mk (show (0:Int)≤((j - 1:Nat):Int)∧((j - 1:Nat):Int)<((l.length - k0:Nat):Int) by omega),e1,e2]
      have e3:k0+(j - 1)=k0+j - 1:=by omega
      by_cases hc:nth l (k0+j) d=nth l (k0+(j - 1)) d
      · simp only [hc,not_true_eq_false,decide_false,iteO_false,gC_j]
        refine ⟨_,rfl,⟨by simp only;omega,by simp only;omega,hlen,by simp only;omega,fun i hi=>hI i (by simp only at hi;omega),?_⟩,by simp only;omega⟩
        simp only
        rw [ht,←Nat.add_assoc,ddN,if_neg,List.append_nil]
        rw [hc,e3];simp;omega
      simp only [hc,not_false_eq_true,decide_true,iteO_true,grd_mk (show k<l2.length by omega),gC_j]
      refine ⟨_,rfl,⟨by simp only;omega,by simp only;omega,by simp only [List.length_set];exact hlen,by simp only;omega,fun i hi=> ?_,?_⟩,by simp only;omega⟩
      · simp only at hi ⊢
        rw [nth_set_ne d (by omega)];exact hI i (by omega)
      simp only
      rw [take_set_succ d (by omega),ht,←Nat.add_assoc,ddN,if_pos]
      rw [e3]at hc;exact .inr hc
    right
    have hjl':k0+j=l.length:=by omega
    have hkl:(l2.take k).length=k:=by rw [List.length_take];omega
    refine ⟨.inr (ddN d l l.length),?_,rfl⟩
    simp only [gC_b2,decide_eq_false (show ¬ ((j:Nat):Int)<((l.length - k0:Nat):Int) by omega),iteO_false,grd_mk (show k≤l.length by omega)]
    rw [grd_mk (by rw [List.length_append,hkl];omega),List.take_append_of_le_length (by omega),List.take_of_length_le (by omega),ht,hjl']
    rfl
  simp only
  rw [ddN,if_neg (by rw [he];simp;omega),List.append_nil,hd]
theorem gC_eq {l : List α} (hl : l.length ≤ 281474976710656) : gC d l = some (ddN d l l.length) := by
  unfold gC
  by_cases h2:l.length<2
  · rw [decide_eq_true (by omega),iteO_true]
    match l,h2 with
    |[],_=>rfl
    |[x],_=>rfl
  rw [decide_eq_false (by omega),iteO_false]
  refine Exists.elim (iter_run (step:=fun q:Nat=>gC_b1 d l q) (fun k=>1≤k∧k≤l.length∧ddN d l k=l.take k) (fun r=>r=ddN d l l.length) (fun k=>l.length - k) ?_ 1 ⟨Nat.le_refl _,by omega,?_⟩) (fun r hr=>by rw [hr.1,hr.2])
  · rintro k ⟨h1,hk,hd⟩
    by_cases hlt:k<l.length
    · simp only [gC_b1,wrap_pred h1 (show k≤281474976710656 by omega),Int.toNat_natCast,decide_eq_true (show ((k:Nat):Int)<((l.length:Nat):Int) by omega),iteO_true,
        grd_mk (show (0:Int)≤((k - 1:Nat):Int)∧((k - 1:Nat):Int)<(l.length:Int) by omega)]
      by_cases hc:nth l k d=nth l (k - 1) d
      · right
        simp only [hc,decide_true,iteO_true,grd_mk hk]
        exact ⟨_,gC_in d hl h1 hlt hc hd,rfl⟩
      left
      simp only [hc,decide_false,iteO_false]
      refine ⟨k+1,rfl,⟨by omega,by omega,?_⟩,by omega⟩
      rw [ddN,if_pos (.inr hc),hd,take_snoc l hlt d]
    right
    have:k=l.length:=by omega
    refine ⟨l,?_,?_⟩
    · simp only [gC_b1,decide_eq_false (show ¬ ((k:Nat):Int)<((l.length:Nat):Int) by omega),iteO_false];rfl
    rw [←this,hd,List.take_of_length_le (by omega)]
  rw [ddN,if_pos (.inl rfl),take_snoc l (by omega) d];simp [ddN]
end
def onceL{α:Type}[DecidableEq α](d:α)(cf:α→α→Int)(l:List α):List α:=ddN d (sortL cf l) l.length
section
variable {α:Type} [DecidableEq α] {d:α} {cf:α→α→Int}
theorem D8_(l:List α):(sortL cf l).length=l.length:=List.length_mergeSort _
theorem mem_onceL{l:List α}{x:α}:x∈onceL d cf l↔x∈l:=by
  have h:=D8_ (cf:=cf) l
  rw [onceL,mem_ddN d _ _ (by omega),List.take_of_length_le (by omega),sortL,List.mem_mergeSort]
theorem GoodCmp.le_trans(hc:GoodCmp cf){x y z:α}(h1: ¬ cf y x<0)(h2: ¬ cf z y<0): ¬ cf z x<0:=fun h3=>by
  by_cases e:x=y
  · subst e;exact h2 h3
  by_cases e':y=z
  · subst e';exact h1 h3
  have a:=hc.anti y x;have b:=hc.anti z y;have a':=hc.eq y x;have b':=hc.eq z y
  have h4:cf y z<0:=by
    rw [hc.anti]
    have:cf z y≠0:=fun h=>e' ((b'.1 h).symm)
    omega
  exact h1 (hc.trans _ _ _ h4 h3)
theorem G7_(hc:GoodCmp cf)(l:List α):(sortL cf l).Pairwise fun x y=> ¬ cf y x<0:=by
  have:=List.pairwise_mergeSort (le:=fun x y=> !decide (cf y x<0)) (fun a b c h1 h2=>by
    simp only [Bool.not_eq_true',decide_eq_false_iff_not]at *
    exact hc.le_trans h1 h2) (fun a b=>by
    have:=hc.anti a b
    simp only [Bool.or_eq_true,Bool.not_eq_true',decide_eq_false_iff_not];omega) l
  exact this.imp fun h=>by simpa using h
theorem sorted_onceL (hc : GoodCmp cf) (l : List α) : (onceL d cf l).Pairwise fun x y => cf x y < 0 := by
  have hs:=G7_ hc l
  have hlen:=D8_ (cf:=cf) l
  unfold onceL
  generalize sortL cf l=s at hs hlen
  have key: ∀n,n≤s.length→(ddN d s n).Pairwise fun x y=>cf x y<0:=by
    intro n
    induction n with
    |zero=>intro _;exact List.Pairwise.nil
    |succ n ih=>
      intro h
      rw [ddN]
      split
      · rename_i hn
        rw [List.pairwise_append]
        refine ⟨ih (by omega),List.pairwise_singleton ..,fun x hx y hy=> ?_⟩
        rw [List.mem_singleton.1 hy]
        rw [mem_ddN d s n (by omega)]at hx
        have hn0:n≠0:=fun e=>by subst e;simp at hx
        have hne:nth s n d≠nth s (n - 1) d:=by rcases hn with h|h;exact absurd h hn0;exact h
        obtain ⟨i,hi,hxi⟩:=List.mem_iff_getElem.1 hx
        have hi':i<n:=by simp at hi;omega
        have hxi:s[i]'(by omega)=x:=by rw [←hxi,List.getElem_take]
        have hp:=List.pairwise_iff_getElem.1 hs
        have eN: ∀{k:Nat} (hk:k<s.length),nth s k d=s[k]:=fun hk=>by simp [nth,List.getD,hk]
        rw [eN (by omega),eN (by omega)]at hne
        rw [eN (by omega)]
        have h1:cf (s[n - 1]'(by omega)) (s[n]'(by omega))<0:=by
          have:=hp (n - 1) n (by omega) (by omega) (by omega)
          have a:=hc.anti (s[n - 1]'(by omega)) (s[n]'(by omega))
          have b:=hc.eq (s[n]'(by omega)) (s[n - 1]'(by omega))
          have:cf (s[n]'(by omega)) (s[n - 1]'(by omega))≠0:=fun h=>hne (b.1 h)
          omega
        by_cases hin:i=n - 1
        · subst hin;rw [←hxi];exact h1
        have h2:=hp i (n - 1) (by omega) (by omega) (by omega)
        rw [hxi]at h2
        by_cases e:x=s[n - 1]'(by omega)
        · rw [e];exact h1
        refine hc.trans _ _ _ ?_ h1
        have a:=hc.anti x (s[n - 1]'(by omega))
        have b:=hc.eq (s[n - 1]'(by omega)) x
        have:cf (s[n - 1]'(by omega)) x≠0:=fun h=>e (b.1 h).symm
        omega
      rw [List.append_nil];exact ih (by omega)
  exact key _ (by omega)
theorem rising_ext{R:α→α→Prop}(hi: ∀x, ¬ R x x)(ht: ∀x y z,R x y→R y z→R x z): ∀{l m:List α},l.Pairwise R→m.Pairwise R→(∀x,x∈l↔x∈m)→l=m
  |[],[],_,_,_=>rfl
  |[],y::m,_,_,h=>by have:=(h y).2 (List.mem_cons_self ..);cases this
  |x::l,[],_,_,h=>by have:=(h x).1 (List.mem_cons_self ..);cases this
  | x :: l, y :: m, hl, hm, h => by
    rw [List.pairwise_cons]at hl hm
    have e:x=y:=by
      have h1:=(h x).1 (List.mem_cons_self ..)
      have h2:=(h y).2 (List.mem_cons_self ..)
      rw [List.mem_cons]at h1 h2
      rcases h1 with h1|h1
      · exact h1
      rcases h2 with h2|h2
      · exact h2.symm
      exact absurd (ht _ _ _ (hm.1 x h1) (hl.1 y h2)) (hi y)
    subst e
    rw [rising_ext hi ht hl.2 hm.2 fun z=> ?_]
    have:=h z
    simp only [List.mem_cons]at this
    constructor
    · intro hz
      rcases this.1 (.inr hz)with e|h'
      · subst e;exact absurd (hl.1 z hz) (hi z)
      exact h'
    intro hz
    rcases this.2 (.inr hz)with e|h'
    · subst e;exact absurd (hm.1 z hz) (hi z)
    exact h'
theorem GoodCmp.irr(hc:GoodCmp cf)(x:α): ¬ cf x x<0:=by have:=(hc.eq x x).2 rfl;omega
theorem rising_eq(hc:GoodCmp cf){l m:List α}(hl:l.Pairwise fun x y=>cf x y<0)(hm:m.Pairwise fun x y=>cf x y<0)(h: ∀x,x∈l↔x∈m):l=m:=
  rising_ext (R:=fun x y=>cf x y<0) hc.irr hc.trans hl hm h
theorem Hb_(hc:GoodCmp cf){l:List α}(h:l.Pairwise fun x y=>cf x y<0):onceL d cf l=l:=rising_eq hc (sorted_onceL hc l) h fun x=>mem_onceL
theorem E7_(l:List α):(onceL d cf l).length≤l.length:=by
  have h: ∀(s:List α) n,(ddN d s n).length≤n:=fun s n=>by
    induction n with
    |zero=>exact Nat.le_refl _
    |succ n ih=>rw [ddN,List.length_append];split<;>simp<;>omega
  exact h _ _
end
end Go.Proofs.YtchebnpdnfhenaaGreatDoor
end

noncomputable section
namespace Go.Proofs.YtchebnpdnfhenaaGreatDoor
open Go Go.E
theorem Hg_:compactT=gC Tip.zero:=rfl
theorem H2_:compactA=gC Arc.zero:=rfl
theorem Hp_{l:List Tip}(h:l.length * 24≤140737488355328):onceT l=some (onceL Tip.zero cmpTip l):=by
  rw [onceT,grd_mk h,Hg_,gC_eq Tip.zero (by rw [D8_];omega),D8_];rfl
theorem H8_{l:List Arc}(h:l.length * 72≤140737488355328):onceA l=some (onceL Arc.zero cmpArc l):=by
  rw [onceA,grd_mk h,H2_,gC_eq Arc.zero (by rw [D8_];omega),D8_];rfl
end Go.Proofs.YtchebnpdnfhenaaGreatDoor
end

noncomputable section
namespace Go.Proofs.YtchebnpdnfhenaaGreatDoor
open Go Go.E
def tipB(n:Int)(p:Tip):Bool:=decide (0≤p.state) && decide (p.state<n) && decide ((p.out.length:Int)≤1024)
def tipsB(l:List Tip)(n:Int):Bool:=decide ((l.length:Int)≤1024) && l.all (tipB n)
def arcB(n:Int)(a:Arc):Bool:=decide (0≤a.frm) && decide (a.frm<n) && decide (0≤a.to) && decide (a.to<n) && decide (a.set≠BSet.zero) && decide ((a.out.length:Int)≤1024)
def fstB(t:Fst):Bool:=decide (0≤t.states) && decide (t.states≤1024) && decide ((t.arcs.length:Int)≤16384) && tipsB t.starts t.states && tipsB t.ends t.states && t.arcs.all (arcB t.states)
theorem Fc_(s n:Int):Et_ s n=some (decide (0≤s) && decide (s<n)):=by
  unfold Et_
  by_cases h:0≤s<;>simp [h]
theorem rightTips_eq (l : List Tip) (n : Int) : D2_ l n = some (tipsB l n) := by
  unfold D2_ tipsB
  by_cases h:(l.length:Int)≤1024
  · rw [decide_eq_false (by omega),iteO_false,iter_all (y:=true) (no:=false) l Tip.zero (tipB n)]
    · rw [decide_eq_true h,Bool.true_and];cases l.all (tipB n)<;>rfl
    · intro k hk hp
      simp only [tipB,Bool.and_eq_true,decide_eq_true_eq]at hp
      simp only [Cq_,lt_dec hk,iteO_true,Fc_,bnd,Option.bind_some,hp.1.1,hp.1.2,decide_true,Bool.and_self,Bool.not_true,iteO_false,decide_eq_false (show ¬ (1024:Int)<((nth l k Tip.zero).out.length:Int) by omega)];rfl
    · intro k hk hp
      simp only [Cq_,lt_dec hk,iteO_true,Fc_,bnd,Option.bind_some]
      by_cases hc:(decide (0≤(nth l k Tip.zero).state) && decide ((nth l k Tip.zero).state<n))=true
      · rw [hc]
        simp only [tipB,hc,Bool.true_and,decide_eq_false_iff_not]at hp
        simp only [Bool.not_true,iteO_false,decide_eq_true (show (1024:Int)<((nth l k Tip.zero).out.length:Int) by omega),iteO_true];rfl
      simp only [Bool.not_eq_true]at hc
      rw [hc];rfl
    simp only [Cq_,Int.lt_irrefl,decide_false,iteO_false];rfl
  rw [decide_eq_true (by omega),iteO_true];simp [h]
theorem F1_(t:Fst):Ew_ t=some (errB (fstB t)):=by
  unfold Ew_
  by_cases h1:t.states<0
  · rw [decide_eq_true h1,iteO_true];simp [fstB,errB,show ¬ 0≤t.states by omega]
  rw [decide_eq_false h1,iteO_false]
  by_cases h2:1024<t.states
  · rw [decide_eq_true h2,iteO_true];simp [fstB,errB,show ¬ t.states≤1024 by omega]
  rw [decide_eq_false h2,iteO_false]
  by_cases h3:(16384:Int)<(t.arcs.length:Int)
  · rw [decide_eq_true h3,iteO_true];simp only [fstB,decide_eq_false (show ¬ (t.arcs.length:Int)≤16384 by omega),Bool.and_false,Bool.false_and];rfl
  rw [decide_eq_false h3,iteO_false,rightTips_eq,bnd,Option.bind_some]
  have e0:fstB t=(tipsB t.starts t.states && tipsB t.ends t.states && t.arcs.all (arcB t.states)):=by
    simp only [fstB,decide_eq_true (show 0≤t.states by omega),decide_eq_true (show t.states≤1024 by omega),decide_eq_true (show (t.arcs.length:Int)≤16384 by omega),Bool.true_and]
  rw [e0]
  cases h4:tipsB t.starts t.states
  · rfl
  simp only [Bool.not_true,iteO_false,rightTips_eq,bnd,Option.bind_some]
  cases h5:tipsB t.ends t.states
  · rfl
  simp only [Bool.not_true,iteO_false,Bool.and_self,Bool.true_and]
  rw [iter_all (y:=0) (no:=1) t.arcs Arc.zero (arcB t.states)]
  · rfl
  · intro k hk hp
    simp only [arcB,Bool.and_eq_true,decide_eq_true_eq]at hp
    obtain ⟨⟨⟨⟨⟨p1,p2⟩,p3⟩,p4⟩,p5⟩,p6⟩:=hp
    simp only [Dy_,lt_dec hk,iteO_true,Fc_,bnd,Option.bind_some,p1,p2,p3,p4,p5,decide_true,decide_false,Bool.and_self,Bool.not_true,iteO_false,decide_eq_false (show ¬ (1024:Int)<((nth t.arcs k Arc.zero).out.length:Int) by omega)];rfl
  · intro k hk hp
    simp only [Dy_,lt_dec hk,iteO_true,Fc_,bnd,Option.bind_some]
    cases hc:(decide (0≤(nth t.arcs k Arc.zero).frm) && decide ((nth t.arcs k Arc.zero).frm<t.states))
    · rfl
    cases hd:(decide (0≤(nth t.arcs k Arc.zero).to) && decide ((nth t.arcs k Arc.zero).to<t.states))
    · rfl
    simp only [Bool.not_true,iteO_false]
    by_cases he:(nth t.arcs k Arc.zero).set=BSet.zero
    · rw [decide_eq_true he];rfl
    rw [decide_eq_false he,iteO_false]
    have hd':(decide (0≤(nth t.arcs k Arc.zero).frm) && decide ((nth t.arcs k Arc.zero).frm<t.states) && decide (0≤(nth t.arcs k Arc.zero).to) && decide ((nth t.arcs k Arc.zero).to<t.states))=true:=by rw [Bool.and_assoc,hc,hd];rfl
    simp only [arcB,hd',Bool.true_and,ne_eq,he,not_false_eq_true,decide_true,decide_eq_false_iff_not]at hp
    rw [decide_eq_true (by omega)];rfl
  simp only [Dy_,Int.lt_irrefl,decide_false,iteO_false];rfl
theorem errB_ne{b:Bool}:decide (errB b≠0)= !b:=by cases b<;>rfl
def outOf(p:FPair)(a:Arc)(b:UInt8):List UInt8:=if a.copy then (p.out++a.out)++[b] else p.out++a.out
def aftA(g:List Arc)(p:FPair)(b:UInt8):List FPair:=(g.filter fun a=>a.set.has b.toNat).map fun a=>⟨a.to,outOf p a b⟩
def aftP(t:Fst)(S:List FPair)(b:UInt8):List FPair:=S.flatMap fun p=>aftA (t.arcs.filter fun a=>decide (a.frm=p.state)) p b
def tp(x:Tip):FPair:=⟨x.state,x.out⟩
def pairsL(t:Fst)(w:List UInt8):List FPair:=w.foldl (aftP t) (t.starts.map tp)
def endT(t:Fst)(S:List FPair):List (List UInt8):=S.flatMap fun p=>((t.ends.filter fun e=>decide (e.state=p.state)).map Tip.out).map fun o=>p.out++o
def outsL(t:Fst)(w:List UInt8):List (List UInt8):=onceL [] Lib.compareBytes (endT t (pairsL t w))
theorem mem_aftA{g:List Arc}{p q:FPair}{b:UInt8}:q∈aftA g p b↔ ∃a∈g,a.set.has b.toNat=true∧q=⟨a.to,outOf p a b⟩:=by
  simp only [aftA,List.mem_map,List.mem_filter]
  constructor
  · rintro ⟨a,⟨h1,h2⟩,h3⟩;exact ⟨a,h1,h2,h3.symm⟩
  rintro ⟨a,h1,h2,h3⟩;exact ⟨a,⟨h1,h2⟩,h3.symm⟩
theorem mem_aftP{t:Fst}{S:List FPair}{b:UInt8}{q:FPair}:q∈aftP t S b↔ ∃p∈S, ∃a∈t.arcs,a.frm=p.state∧a.set.has b.toNat=true∧q=⟨a.to,outOf p a b⟩:=by
  simp only [aftP,List.mem_flatMap,mem_aftA,List.mem_filter,decide_eq_true_eq]
  constructor
  · rintro ⟨p,h1,a,⟨h2,h3⟩,h4,h5⟩;exact ⟨p,h1,a,h2,h3,h4,h5⟩
  rintro ⟨p,h1,a,h2,h3,h4,h5⟩;exact ⟨p,h1,a,⟨h2,h3⟩,h4,h5⟩
end Go.Proofs.YtchebnpdnfhenaaGreatDoor
end

noncomputable section
namespace Go.Proofs.YtchebnpdnfhenaaGreatDoor
open Go Go.E
theorem tipB_ok{n:Int}{p:Tip}(h:tipB n p=true):(0≤p.state∧p.state<n)∧p.out.length≤1024:=by
  simp only [tipB,Bool.and_eq_true,decide_eq_true_eq]at h;exact ⟨h.1,by omega⟩
theorem tipsB_ok{n:Int}{l:List Tip}(h:tipsB l n=true):l.length≤1024∧ ∀p∈l,(0≤p.state∧p.state<n)∧p.out.length≤1024:=by
  simp only [tipsB,Bool.and_eq_true,decide_eq_true_eq,List.all_eq_true]at h
  exact ⟨by omega,fun p hp=>tipB_ok (h.2 p hp)⟩
theorem arcB_ok{n:Int}{a:Arc}(h:arcB n a=true):(0≤a.frm∧a.frm<n)∧(0≤a.to∧a.to<n)∧a.set≠BSet.zero∧a.out.length≤1024:=by
  simp only [arcB,Bool.and_eq_true,decide_eq_true_eq]at h
  obtain ⟨⟨⟨⟨⟨p1,p2⟩,p3⟩,p4⟩,p5⟩,p6⟩:=h
  exact ⟨⟨p1,p2⟩,⟨p3,p4⟩,p5,by omega⟩
structure FstOk (t:Fst):Prop where
  st0:0≤t.states
  st1:t.states≤1024
  arcsN:t.arcs.length≤16384
  startsN:t.starts.length≤1024
  endsN:t.ends.length≤1024
  starts: ∀p∈t.starts,(0≤p.state∧p.state<t.states)∧p.out.length≤1024
  ends: ∀p∈t.ends,(0≤p.state∧p.state<t.states)∧p.out.length≤1024
  arcs: ∀a∈t.arcs,(0≤a.frm∧a.frm<t.states)∧(0≤a.to∧a.to<t.states)∧a.set≠BSet.zero∧a.out.length≤1024
theorem fstB_iff(t:Fst):fstB t=true↔FstOk t:=by
  constructor
  · intro h
    simp only [fstB,Bool.and_eq_true,decide_eq_true_eq,List.all_eq_true]at h
    obtain ⟨⟨⟨⟨⟨h1,h2⟩,h3⟩,h4⟩,h5⟩,h6⟩:=h
    exact ⟨h1,h2,by omega,(tipsB_ok h4).1,(tipsB_ok h5).1,(tipsB_ok h4).2,(tipsB_ok h5).2,fun a ha=>arcB_ok (h6 a ha)⟩
  rintro ⟨h1,h2,h3,h4,h5,h6,h7,h8⟩
  have hT: ∀l:List Tip,l.length≤1024→(∀p∈l,(0≤p.state∧p.state<t.states)∧p.out.length≤1024)→tipsB l t.states=true:=fun l hl hp=>by
    simp only [tipsB,Bool.and_eq_true,decide_eq_true_eq,List.all_eq_true]
    refine ⟨by omega,fun p hq=> ?_⟩
    have:=hp p hq
    simp only [tipB,Bool.and_eq_true,decide_eq_true_eq];omega
  simp only [fstB,Bool.and_eq_true,decide_eq_true_eq,List.all_eq_true]
  refine ⟨⟨⟨⟨⟨h1,h2⟩,by omega⟩,hT _ h4 h6⟩,hT _ h5 h7⟩,fun a ha=> ?_⟩
  obtain ⟨p1,p2,p3,p4⟩:=h8 a ha
  simp only [arcB,Bool.and_eq_true,decide_eq_true_eq]
  exact ⟨⟨⟨⟨p1,p2.1⟩,p2.2⟩,p3⟩,by omega⟩
theorem pairsL_snoc(t:Fst)(w:List UInt8)(b:UInt8):pairsL t (w++[b])=aftP t (pairsL t w) b:=by simp [pairsL]
end Go.Proofs.YtchebnpdnfhenaaGreatDoor
end

noncomputable section
namespace Go.Proofs.YtchebnpdnfhenaaGreatDoor
open Go Go.E
end Go.Proofs.YtchebnpdnfhenaaGreatDoor
end

noncomputable section
namespace Go.Proofs.YtchebnpdnfhenaaGreatDoor
open Go Go.E
def srt(t:Fst):Fst:=⟨t.states,onceL Tip.zero cmpTip t.starts,onceL Tip.zero cmpTip t.ends,onceL Arc.zero cmpArc t.arcs⟩
theorem sort_eq(t:Fst):Dt_ t=some (if fstB t=true then (srt t,0) else (⟨0,[],[],[]⟩,1)):=by
  unfold Dt_
  rw [F1_,bnd,Option.bind_some,errB_ne]
  by_cases h:fstB t=true
  · have ht:=(fstB_iff t).1 h
    have h1:=ht.startsN
    have h2:=ht.endsN
    have h3:=ht.arcsN
    rw [h,if_pos rfl,Bool.not_true,iteO_false]
    simp only [Hp_ (l:=t.starts) (by omega),Hp_ (l:=t.ends) (by omega),H8_ (l:=t.arcs) (by omega),bnd,Option.bind_some]
    rfl
  simp only [Bool.not_eq_true]at h
  rw [h];rfl
structure Alike (s t:Fst):Prop where
  states:s.states=t.states
  starts: ∀x,x∈s.starts↔x∈t.starts
  ends: ∀x,x∈s.ends↔x∈t.ends
  arcs: ∀x,x∈s.arcs↔x∈t.arcs
theorem srt_ok{t:Fst}(ht:FstOk t):FstOk (srt t) where
  st0:=ht.st0
  st1:=ht.st1
  arcsN:=Nat.le_trans (E7_ _) ht.arcsN
  startsN:=Nat.le_trans (E7_ _) ht.startsN
  endsN:=Nat.le_trans (E7_ _) ht.endsN
  starts p hp:=ht.starts p (mem_onceL.1 hp)
  ends p hp:=ht.ends p (mem_onceL.1 hp)
  arcs a ha:=ht.arcs a (mem_onceL.1 ha)
structure Within (s t:Fst):Prop where
  starts: ∀x∈s.starts,x∈t.starts
  ends: ∀x∈s.ends,x∈t.ends
  arcs: ∀x∈s.arcs,x∈t.arcs
theorem Alike.within{s t:Fst}(h:Alike s t):Within s t:=⟨fun x=>(h.starts x).1,fun x=>(h.ends x).1,fun x=>(h.arcs x).1⟩
theorem Alike.symm{s t:Fst}(h:Alike s t):Alike t s:=⟨h.states.symm,fun x=>(h.starts x).symm,fun x=>(h.ends x).symm,fun x=>(h.arcs x).symm⟩
theorem Within.pairs{s t:Fst}(h:Within s t)(w:List UInt8): ∀p∈pairsL s w,p∈pairsL t w:=by
  induction w using rev_ind with
  |h0=>
    intro p hp
    obtain ⟨x,hx,rfl⟩:=List.mem_map.1 hp
    exact List.mem_map.2 ⟨x,h.starts x hx,rfl⟩
  |h1 w b ih=>
    intro q hq
    rw [pairsL_snoc,mem_aftP]at *
    obtain ⟨p,hp,a,ha,r⟩:=hq
    exact ⟨p,ih p hp,a,h.arcs a ha,r⟩
theorem mem_endT{t:Fst}{S:List FPair}{o:List UInt8}:o∈endT t S↔ ∃p∈S, ∃e∈t.ends,e.state=p.state∧o=p.out++e.out:=by
  simp only [endT,List.mem_flatMap,List.mem_map,List.mem_filter,decide_eq_true_eq]
  constructor
  · rintro ⟨p,hp,_,⟨e,⟨he,h1⟩,rfl⟩,h2⟩;exact ⟨p,hp,e,he,h1,h2.symm⟩
  rintro ⟨p,hp,e,he,h1,h2⟩;exact ⟨p,hp,_,⟨e,⟨he,h1⟩,rfl⟩,h2.symm⟩
theorem mem_outsL{t:Fst}{w o:List UInt8}:o∈outsL t w↔ ∃p∈pairsL t w, ∃e∈t.ends,e.state=p.state∧o=p.out++e.out:=by rw [outsL,mem_onceL,mem_endT]
theorem Within.outs{s t:Fst}(h:Within s t)(w:List UInt8): ∀o∈outsL s w,o∈outsL t w:=by
  intro o ho
  rw [mem_outsL]at *
  obtain ⟨p,hp,e,he,r⟩:=ho
  exact ⟨p,h.pairs w p hp,e,h.ends e he,r⟩
theorem outsL_rise(t:Fst)(w:List UInt8):(outsL t w).Pairwise fun x y=>Lib.compareBytes x y<0:=sorted_onceL cmpB_good _
theorem Alike.outs{s t:Fst}(h:Alike s t)(w:List UInt8):outsL s w=outsL t w:=rising_eq cmpB_good (outsL_rise s w) (outsL_rise t w) fun x=>⟨h.within.outs w x,h.symm.within.outs w x⟩
theorem same_run{α R:Type}{step:Nat→Option (Nat⊕R)}{y:R}(n:Nat)(hs: ∀k,k<n→step k=some (.inl (k+1)))(hd:step n=some (.inr y)):iter step 0=some y:=iter_seq0 (fun k=>k) n hs hd
theorem texts_refl(l:List (List UInt8)):Cw_ l l=some true:=by
  unfold Cw_
  rw [decide_eq_false (by simp),iteO_false]
  refine same_run (α:=Unit) l.length (fun k hk=> ?_) ?_
  · simp only [B3_,lt_dec hk,iteO_true,grd_mk hk,ne_eq,not_true_eq_false,decide_false,iteO_false];rfl
  simp only [B3_,Int.lt_irrefl,decide_false,iteO_false];rfl
end Go.Proofs.YtchebnpdnfhenaaGreatDoor
end

noncomputable section
namespace Go.Proofs.YtchebnpdnfhenaaGreatDoor
open Go Go.E
theorem tips_all(l:List Tip)(n:Int):C6_ l n=some (tipsB l n):=by
  unfold C6_ tipsB
  rw [iter_all (y:=decide ((l.length:Int)≤1024)) (no:=false) l Tip.zero (tipB n)]
  · cases l.all (tipB n)<;>simp
  · intro k hk hp
    simp only [tipB,Bool.and_eq_true,decide_eq_true_eq]at hp
    simp only [Bt_,lt_dec hk,iteO_true]
    rw [decide_eq_false (by omega),iteO_false,decide_eq_false (by omega),iteO_false,decide_eq_false (by omega),iteO_false];rfl
  · intro k hk hp
    simp only [Bt_,lt_dec hk,iteO_true]
    by_cases h1:(nth l k Tip.zero).state<0
    · rw [decide_eq_true h1,iteO_true];rfl
    rw [decide_eq_false h1,iteO_false]
    by_cases h2:n≤(nth l k Tip.zero).state
    · rw [decide_eq_true h2,iteO_true];rfl
    rw [decide_eq_false h2,iteO_false]
    simp only [tipB,decide_eq_true (show 0≤(nth l k Tip.zero).state by omega),decide_eq_true (show (nth l k Tip.zero).state<n by omega),Bool.true_and,decide_eq_false_iff_not]at hp
    rw [decide_eq_true (by omega),iteO_true];rfl
  simp only [Bt_,Int.lt_irrefl,decide_false,iteO_false];rfl
theorem right_eq(t:Fst):Cs_ t=some (fstB t):=by
  unfold Cs_
  by_cases h1:t.states<0
  · rw [decide_eq_true h1,iteO_true];simp [fstB,show ¬ 0≤t.states by omega]
  rw [decide_eq_false h1,iteO_false]
  by_cases h2:1024<t.states
  · rw [decide_eq_true h2,iteO_true];simp [fstB,show ¬ t.states≤1024 by omega]
  rw [decide_eq_false h2,iteO_false,tips_all,bnd,Option.bind_some]
  have e0:fstB t=(decide ((t.arcs.length:Int)≤16384) && tipsB t.starts t.states && tipsB t.ends t.states && t.arcs.all (arcB t.states)):=by
    simp only [fstB,decide_eq_true (show 0≤t.states by omega),decide_eq_true (show t.states≤1024 by omega),Bool.true_and]
  rw [e0]
  cases h4:tipsB t.starts t.states
  · simp
  simp only [Bool.not_true,iteO_false,tips_all,bnd,Option.bind_some]
  cases h5:tipsB t.ends t.states
  · simp
  simp only [Bool.not_true,iteO_false,Bool.and_true]
  by_cases h3:(16384:Int)<(t.arcs.length:Int)
  · rw [decide_eq_true h3,iteO_true,decide_eq_false (show ¬ (t.arcs.length:Int)≤16384 by omega),Bool.false_and]
  rw [decide_eq_false h3,iteO_false,decide_eq_true (show (t.arcs.length:Int)≤16384 by omega),Bool.true_and,iter_all (y:=true) (no:=false) t.arcs Arc.zero (arcB t.states)]
  · cases t.arcs.all (arcB t.states)<;>rfl
  · intro k hk hp
    obtain ⟨p1,p2,p3,p4⟩:=arcB_ok hp
    simp only [Bp_,lt_dec hk,iteO_true]
    rw [decide_eq_false (by omega),iteO_false,decide_eq_false (by omega),iteO_false,decide_eq_false (by omega),iteO_false,decide_eq_false (by omega),iteO_false,decide_eq_false p3,iteO_false,decide_eq_false (by omega),iteO_false];rfl
  · intro k hk hp
    simp only [Bp_,lt_dec hk,iteO_true]
    by_cases q1:(nth t.arcs k Arc.zero).frm<0
    · rw [decide_eq_true q1,iteO_true];rfl
    rw [decide_eq_false q1,iteO_false]
    by_cases q2:t.states≤(nth t.arcs k Arc.zero).frm
    · rw [decide_eq_true q2,iteO_true];rfl
    rw [decide_eq_false q2,iteO_false]
    by_cases q3:(nth t.arcs k Arc.zero).to<0
    · rw [decide_eq_true q3,iteO_true];rfl
    rw [decide_eq_false q3,iteO_false]
    by_cases q4:t.states≤(nth t.arcs k Arc.zero).to
    · rw [decide_eq_true q4,iteO_true];rfl
    rw [decide_eq_false q4,iteO_false]
    by_cases q5:(nth t.arcs k Arc.zero).set=BSet.zero
    · rw [decide_eq_true q5,iteO_true];rfl
    rw [decide_eq_false q5,iteO_false]
    simp only [arcB,decide_eq_true (show 0≤(nth t.arcs k Arc.zero).frm by omega),decide_eq_true (show (nth t.arcs k Arc.zero).frm<t.states by omega),decide_eq_true (show 0≤(nth t.arcs k Arc.zero).to by omega),decide_eq_true (show (nth t.arcs k Arc.zero).to<t.states by omega),ne_eq,q5,not_false_eq_true,decide_true,Bool.true_and,decide_eq_false_iff_not]at hp
    rw [decide_eq_true (by omega),iteO_true];rfl
  simp only [Bp_,Int.lt_irrefl,decide_false,iteO_false];rfl
end Go.Proofs.YtchebnpdnfhenaaGreatDoor
end

noncomputable section
namespace Go.Proofs.YtchebnpdnfhenaaGreatDoor
open Go Go.E
section
variable {α:Type} [DecidableEq α] {d:α} {cf:α→α→Int}
theorem ins_run (hc : GoodCmp cf) (x0 : List α) (step1 : List α × Nat → Option ((List α × Nat) ⊕ List α)) (step2 : List α → Nat → Nat → Option (Nat ⊕ ((List α × Nat) ⊕ List α)))
    (hend: ∀l k,x0.length≤k→step1 (l,k)=some (.inr l)) (hbody: ∀l k,k<x0.length→step1 (l,k)=iter (step2 l k) 0)
    (hlt: ∀l k j,k<x0.length→j<l.length→cf (nth l j d) (nth x0 k d)<0→step2 l k j=some (.inl (j+1)))
    (heq: ∀l k j,k<x0.length→j<l.length→nth l j d=nth x0 k d→step2 l k j=some (.inr (.inl (l,k+1))))
    (hins: ∀l k j,k<x0.length→l.length≤x0.length→j≤l.length→(j<l.length→ ¬ cf (nth l j d) (nth x0 k d)<0∧nth l j d≠nth x0 k d)→step2 l k j=some (.inr (.inl (l.take j++[nth x0 k d]++l.drop j,k+1)))):
    iter step1 ([],0)=some (onceL d cf x0):=by
  refine Exists.elim (iter_run (step:=step1) (fun q=>q.2≤x0.length∧q.1.length≤q.2∧(q.1.Pairwise fun x y=>cf x y<0)∧ ∀x,x∈q.1↔x∈x0.take q.2) (fun r=>r=onceL d cf x0) (fun q=>x0.length - q.2) ?_ ([],0) ⟨Nat.zero_le _,Nat.le_refl _,List.Pairwise.nil,by simp⟩) (fun r hr=>by rw [hr.1,hr.2])
  rintro ⟨l,k⟩ ⟨hk,hl,hp,hm⟩
  simp only at hk hl hp hm
  by_cases hkl:k<x0.length
  · left
    have inner: ∃r,iter (step2 l k) 0=some r∧ ∃l',r= .inl (l',k+1)∧l'.length≤k+1∧(l'.Pairwise fun x y=>cf x y<0)∧ ∀x,x∈l'↔x∈l∨x=nth x0 k d:=by
      refine iter_run (step:=step2 l k) (fun j=>j≤l.length∧ ∀i,i<j→cf (nth l i d) (nth x0 k d)<0) _ (fun j=>l.length - j) ?_ 0 ⟨Nat.zero_le _,fun i hi=>absurd hi (Nat.not_lt_zero _)⟩
      rintro j ⟨hj,hI⟩
      by_cases hjl:j<l.length
      · by_cases h1:cf (nth l j d) (nth x0 k d)<0
        · left
          refine ⟨j+1,hlt l k j hkl hjl h1,⟨by omega,fun i hi=> ?_⟩,by omega⟩
          by_cases e:i=j
          · subst e;exact h1
          exact hI i (by omega)
        right
        by_cases h2:nth l j d=nth x0 k d
        · refine ⟨_,heq l k j hkl hjl h2,l,rfl,by omega,hp,fun x=>⟨.inl,?_⟩⟩
          rintro (h|rfl)
          · exact h
          rw [←h2];exact nth_mem' hjl d
        refine ⟨_,hins l k j hkl (by omega) hj (fun _=>⟨h1,h2⟩),_,rfl,?_,?_,?_⟩
        · simp only [List.length_append,List.length_take,List.length_drop,List.length_singleton];omega
        · have hxj:cf (nth x0 k d) (nth l j d)<0:=by
            have a:=hc.anti (nth x0 k d) (nth l j d)
            have b:=hc.eq (nth l j d) (nth x0 k d)
            have:cf (nth l j d) (nth x0 k d)≠0:=fun h=>h2 (b.1 h)
            omega
          have hd:l.drop j=nth l j d::l.drop (j+1):=by
            have:=getD_some l hjl d
            rw [List.getElem?_eq_getElem hjl,Option.some.injEq]at this
            rw [←this];exact List.drop_eq_getElem_cons hjl
          have hpd:(l.drop j).Pairwise fun x y=>cf x y<0:=hp.sublist (List.drop_sublist ..)
          have hgt: ∀y∈l.drop j,cf (nth x0 k d) y<0:=fun y hy=>by
            rw [hd]at hy hpd
            rw [List.pairwise_cons]at hpd
            rcases List.mem_cons.1 hy with rfl|hy
            · exact hxj
            exact hc.trans _ _ _ hxj (hpd.1 y hy)
          have hls: ∀y∈l.take j,cf y (nth x0 k d)<0:=fun y hy=>by
            obtain ⟨i,hi,rfl⟩:=List.mem_iff_getElem.1 hy
            have hij:i<j:=by simp at hi;omega
            have:=hI i hij
            have e:=getD_some l (show i<l.length by omega) d
            rw [List.getElem?_eq_getElem (show i<l.length by omega),Option.some.injEq]at e
            rw [List.getElem_take,e];exact this
          rw [List.append_assoc,List.pairwise_append]
          refine ⟨hp.sublist (List.take_sublist ..),?_,fun x hx y hy=> ?_⟩
          · rw [List.singleton_append,List.pairwise_cons]
            exact ⟨hgt,hpd⟩
          rw [List.singleton_append,List.mem_cons]at hy
          rcases hy with rfl|hy
          · exact hls x hx
          exact hc.trans _ _ _ (hls x hx) (hgt y hy)
        intro x
        rw [List.append_assoc,List.mem_append,List.singleton_append,List.mem_cons]
        have:x∈l↔x∈l.take j∨x∈l.drop j:=by rw [←List.mem_append,List.take_append_drop]
        rw [this]
        constructor
        · rintro (h|h|h)
          · exact .inl (.inl h)
          · exact .inr h
          exact .inl (.inr h)
        rintro ((h|h)|h)
        · exact .inl h
        · exact .inr (.inr h)
        exact .inr (.inl h)
      right
      have hj':j=l.length:=by omega
      subst hj'
      refine ⟨_,hins l k l.length hkl (by omega) hj (fun h=>absurd h (Nat.lt_irrefl _)),_,rfl,?_,?_,?_⟩
      · simp only [List.length_append,List.length_take,List.length_drop,List.length_singleton];omega
      · rw [List.take_length,List.drop_length,List.append_nil,List.pairwise_append]
        refine ⟨hp,List.pairwise_singleton ..,fun x hx y hy=> ?_⟩
        rw [List.mem_singleton.1 hy]
        obtain ⟨i,hi,rfl⟩:=List.mem_iff_getElem.1 hx
        have:=hI i hi
        have e:=getD_some l hi d
        rw [List.getElem?_eq_getElem hi,Option.some.injEq]at e
        rw [e];exact this
      intro x;simp
    obtain ⟨r,h1,l',rfl,h2,h3,h4⟩:=inner
    refine ⟨(l',k+1),by rw [hbody l k hkl,h1],⟨by simp only;omega,h2,h3,fun x=> ?_⟩,by simp only;omega⟩
    simp only
    rw [h4,take_snoc x0 hkl d,List.mem_append,List.mem_singleton,hm]
  right
  refine ⟨l,hend l k (by omega),rising_eq hc hp (sorted_onceL hc x0) fun x=> ?_⟩
  rw [hm,mem_onceL,List.take_of_length_le (by omega)]
end
end Go.Proofs.YtchebnpdnfhenaaGreatDoor
end

noncomputable section
namespace Go.Proofs.YtchebnpdnfhenaaGreatDoor
open Go Go.E
theorem corI_lt{a b:Int}:corI a b<0↔a<0∨(a=0∧b<0):=by unfold corI;split<;>omega
theorem cmpN_lt{x y:Nat}:cmpN x y<0↔x<y:=by unfold cmpN;(repeat' split)<;>omega
theorem cmpN_eq0{x y:Nat}:cmpN x y=0↔x=y:=cmpN_good.eq x y
theorem cmpI_eq0{x y:Int}:cmpI x y=0↔x=y:=cmpI_good.eq x y
theorem cmpB_eq0{x y:List UInt8}:Lib.compareBytes x y=0↔x=y:=cmpB_good.eq x y
theorem tipLess_eq(x y:Tip):C1_ x y=some (decide (cmpTip x y<0)):=by
  unfold C1_
  simp only [cmpTip,corI_lt,cmpI_lt,cmpI_eq0]
  by_cases h1:x.state<y.state
  · simp [h1]
  by_cases h2:x.state=y.state
  · simp [h2]
  simp [h1,h2]
theorem arcLess_tail(x y:Arc):iter (fun q:Nat=>Ak_ x y q) 4=some (decide (corI (Lib.compareBytes x.out y.out) (corI (cmpBool x.copy y.copy) 0)<0)):=by
  refine iter_done ?_
  simp only [Ak_,corI_lt]
  rw [decide_eq_false (by omega),iteO_false]
  by_cases h:x.out=y.out
  · have:=cmpB_eq0.2 h
    rw [decide_eq_false (by simpa using h),iteO_false]
    simp only [this]
    cases x.copy<;>cases y.copy<;>decide
  have: ¬ Lib.compareBytes x.out y.out=0:=fun e=>h (cmpB_eq0.1 e)
  rw [decide_eq_true (by simpa using h),iteO_true]
  simp [this]
theorem arcLess_word(x y:Arc)(k:Nat)(hk:k<4){t:Int}(ht:iter (fun q:Nat=>Ak_ x y q) (k+1)=some (decide (t<0))):
    iter (fun q:Nat=>Ak_ x y q) k=some (decide (corI (cmpN (x.set.word k) (y.set.word k)) t<0)):=by
  simp only [corI_lt,cmpN_lt,cmpN_eq0]
  by_cases h:x.set.word k=y.set.word k
  · refine iter_next (s':=k+1) ?_ ?_
    · simp only [Ak_]
      rw [decide_eq_true (by omega),iteO_true,grd_mk hk,grd_mk hk,decide_eq_false (by simpa using h),iteO_false];rfl
    rw [ht];simp [h]
  refine iter_done ?_
  simp only [Ak_]
  rw [decide_eq_true (by omega),iteO_true,grd_mk hk,grd_mk hk,decide_eq_true (by simpa using h),iteO_true,grd_mk hk,grd_mk hk]
  simp [h]
theorem arcLess_eq(x y:Arc):Cz_ x y=some (decide (cmpArc x y<0)):=by
  have hw:=arcLess_word x y 0 (by decide) (arcLess_word x y 1 (by decide) (arcLess_word x y 2 (by decide) (arcLess_word x y 3 (by decide) (arcLess_tail x y))))
  unfold Cz_
  have e:cmpArc x y=corI (cmpI x.frm y.frm) (corI (cmpI x.to y.to) (corI (cmpN (x.set.word 0) (y.set.word 0)) (corI (cmpN (x.set.word 1) (y.set.word 1)) (corI (cmpN (x.set.word 2) (y.set.word 2)) (corI (cmpN (x.set.word 3) (y.set.word 3)) (corI (Lib.compareBytes x.out y.out) (corI (cmpBool x.copy y.copy) 0))))))):=by
    have asc: ∀a b c:Int,corI (corI a b) c=corI a (corI b c):=fun a b c=>by unfold corI;(repeat' split)<;>first|rfl|omega
    simp only [cmpArc,cmpSet,asc];rfl
  rw [e,hw]
  generalize corI (cmpN (x.set.word 0) (y.set.word 0)) _=T
  simp only [corI_lt,cmpI_lt,cmpI_eq0]
  by_cases h1:x.frm=y.frm
  · rw [decide_eq_false (by simpa using h1),iteO_false]
    by_cases h2:x.to=y.to
    · rw [decide_eq_false (by simpa using h2),iteO_false]
      simp [h1,h2]
    rw [decide_eq_true (by simpa using h2),iteO_true]
    simp [h1,h2]
  rw [decide_eq_true (by simpa using h1),iteO_true]
  simp [h1]
theorem sortTips_eq{l:List Tip}(h:l.length≤1000000):Bq_ l=some (onceL Tip.zero cmpTip l):=by
  unfold Bq_
  refine ins_run cmpTip_good l (fun q=>A8_ l q.1 q.2) (fun m k j=>Ap_ m l k j) ?_ ?_ ?_ ?_ ?_
  · intro m k hk
    simp only [A8_,decide_eq_false (show ¬ ((k:Nat):Int)<((l.length:Nat):Int) by omega),iteO_false];rfl
  · intro m k hk
    simp only [A8_,lt_dec hk,iteO_true]
  · intro m k j hk hj hc
    simp only [Ap_,lt_dec hj,iteO_true,tipLess_eq,bnd,Option.bind_some,decide_eq_true hc];rfl
  · intro m k j hk hj he
    simp only [Ap_,lt_dec hj,iteO_true,tipLess_eq,bnd,Option.bind_some,he,decide_eq_false (cmpTip_good.irr _),iteO_false,A9_,decide_true];rfl
  intro m k j hk hm hj hn
  have hg:Bo_ j m l k=some (.inl (m.take j++[nth l k Tip.zero]++m.drop j,k+1)):=by
    unfold Bo_ B6_
    rw [grd_mk (by omega),grd_mk (by simp only [List.length_nil,List.length_take];omega),grd_mk (by simp only [List.length_append,List.length_nil,List.length_take,List.length_singleton];omega),grd_mk (by omega),grd_mk (by simp only [List.length_append,List.length_nil,List.length_take,List.length_singleton,List.length_drop];omega)]
    rfl
  by_cases hjl:j<m.length
  · obtain ⟨h1,h2⟩:=hn hjl
    simp only [Ap_,lt_dec hjl,iteO_true,tipLess_eq,bnd,Option.bind_some,decide_eq_false h1,iteO_false,A9_,decide_eq_false h2,hg,fin_some]
  simp only [Ap_,decide_eq_false (show ¬ ((j:Nat):Int)<((m.length:Nat):Int) by omega),iteO_false,A9_,hg,fin_some]
theorem sortArcs_eq{l:List Arc}(h:l.length≤1000000):Cr_ l=some (onceL Arc.zero cmpArc l):=by
  unfold Cr_
  refine ins_run cmpArc_good l (fun q=>Bb_ l q.1 q.2) (fun m k j=>Aq_ m l k j) ?_ ?_ ?_ ?_ ?_
  · intro m k hk
    simp only [Bb_,decide_eq_false (show ¬ ((k:Nat):Int)<((l.length:Nat):Int) by omega),iteO_false];rfl
  · intro m k hk
    simp only [Bb_,lt_dec hk,iteO_true]
  · intro m k j hk hj hc
    simp only [Aq_,lt_dec hj,iteO_true,arcLess_eq,bnd,Option.bind_some,decide_eq_true hc];rfl
  · intro m k j hk hj he
    simp only [Aq_,lt_dec hj,iteO_true,arcLess_eq,bnd,Option.bind_some,he,decide_eq_false (cmpArc_good.irr _),iteO_false,Ba_,decide_true];rfl
  intro m k j hk hm hj hn
  have hg:Bm_ j m l k=some (.inl (m.take j++[nth l k Arc.zero]++m.drop j,k+1)):=by
    unfold Bm_ B7_
    rw [grd_mk (by omega),grd_mk (by simp only [List.length_nil,List.length_take];omega),grd_mk (by simp only [List.length_append,List.length_nil,List.length_take,List.length_singleton];omega),grd_mk (by omega),grd_mk (by simp only [List.length_append,List.length_nil,List.length_take,List.length_singleton,List.length_drop];omega)]
    rfl
  by_cases hjl:j<m.length
  · obtain ⟨h1,h2⟩:=hn hjl
    simp only [Aq_,lt_dec hjl,iteO_true,arcLess_eq,bnd,Option.bind_some,decide_eq_false h1,iteO_false,Ba_,decide_eq_false h2,hg,fin_some]
  simp only [Aq_,decide_eq_false (show ¬ ((j:Nat):Int)<((m.length:Nat):Int) by omega),iteO_false,Ba_,hg,fin_some]
theorem rsort_eq(t:Fst):A2_ t=some (if fstB t=true then (srt t,0) else (⟨0,[],[],[]⟩,1)):=by
  unfold A2_
  rw [right_eq,bnd,Option.bind_some]
  by_cases h:fstB t=true
  · have ht:=(fstB_iff t).1 h
    have h1:=ht.startsN
    have h2:=ht.endsN
    have h3:=ht.arcsN
    rw [h,if_pos rfl,Bool.not_true,iteO_false]
    simp only [sortTips_eq (l:=t.starts) (by omega),sortTips_eq (l:=t.ends) (by omega),sortArcs_eq (l:=t.arcs) (by omega),bnd,Option.bind_some]
    rfl
  simp only [Bool.not_eq_true]at h
  rw [h];rfl
theorem ints_refl(l:List Int):Do_ l l=some true:=by
  unfold Do_
  rw [decide_eq_false (by simp),iteO_false]
  refine same_run (α:=Unit) l.length (fun k hk=> ?_) ?_
  · simp only [Ca_,lt_dec hk,iteO_true,grd_mk hk,ne_eq,not_true_eq_false,decide_false,iteO_false];rfl
  simp only [Ca_,Int.lt_irrefl,decide_false,iteO_false];rfl
end Go.Proofs.YtchebnpdnfhenaaGreatDoor
end

noncomputable section
namespace Go.Proofs.YtchebnpdnfhenaaGreatDoor
open Go Go.E
theorem short_eq{x:List UInt8}(h:x.length≤281474976710656):Ei_ x=some (if 4096<x.length then .inl 2 else .inr ()):=by
  unfold Ei_
  rw [grd_mk h]
  by_cases c:4096<x.length
  · rw [iteO_dt (by omega),if_pos c]
  rw [iteO_df (by omega),if_neg c]
def dupB:List Tip→Bool
  |a::b::l=>decide (a.state=b.state) || dupB (b::l)
  |_=>false
theorem dupB_iff: ∀l:List Tip,dupB l=true↔ ∃k,k+1<l.length∧(nth l k Tip.zero).state=(nth l (k+1) Tip.zero).state
  |[]=>by simp [dupB]
  |[a]=>by simp [dupB]
  | a :: b :: l => by
    rw [dupB,Bool.or_eq_true,decide_eq_true_eq,dupB_iff (b::l)]
    constructor
    · rintro (h|⟨k,h1,h2⟩)
      · exact ⟨0,by simp,h⟩
      exact ⟨k+1,by simpa using h1,h2⟩
    rintro ⟨k,h1,h2⟩
    cases k with
    |zero=>exact .inl h2
    |succ k=>exact .inr ⟨k,by simpa using h1,h2⟩
def cutT(n:Nat)(x:Tip):Tip:=⟨x.state,x.out.drop n⟩
def stripD(l:List Tip):Int⊕(List UInt8×List Tip):=
  let m:=onceL Tip.zero cmpTip l
  if dupB m=true then .inl 12 else
  let f:=lcpL (m.map Tip.out)
  if 4096<f.length then .inl 2 else
  if ∃x∈m,4096<(x.out.drop f.length).length then .inl 2 else .inr (f,m.map (cutT f.length))
theorem Hz_{α β:Type}(f:α→α)(l:List α)(k:Nat)(hk:k<l.length)(d:α):((l.take k).map f++l.drop k).set k (f (nth l k d))=(l.take (k+1)).map f++l.drop (k+1):=by
  have h1:((l.take k).map f).length=k:=by rw [List.length_map,List.length_take];omega
  rw [List.set_append_right _ _ (by omega),h1,Nat.sub_self,drop_nth l hk d,List.set_cons_zero,take_snoc l hk d,List.map_append]
  simp
theorem nth_mid{α:Type}(f:α→α)(l:List α)(k:Nat)(hk:k<l.length)(d:α):nth ((l.take k).map f++l.drop k) k d=nth l k d:=by
  have h1:((l.take k).map f).length=k:=by rw [List.length_map,List.length_take];omega
  unfold nth
  rw [List.getD_eq_getElem?_getD,List.getElem?_append_right (by omega),h1,Nat.sub_self,drop_nth l hk d]
  simp [nth]
theorem nth_set_self{α:Type}(l:List α)(k:Nat)(hk:k<l.length)(x d:α):nth (l.set k x) k d=x:=by rw [nth_set,if_pos ⟨rfl,hk⟩]
theorem fill_take{α:Type}(l:List α)(k:Nat)(hk:k<l.length)(d z:α):(l.take k++List.replicate (l.length - k) z).set k (nth l k d)=l.take (k+1)++List.replicate (l.length - (k+1)) z:=by
  have h1:(l.take k).length=k:=by rw [List.length_take];omega
  rw [List.set_append_right _ _ (by omega),h1,Nat.sub_self,show l.length - k=(l.length - (k+1))+1 by omega,List.replicate_succ,List.set_cons_zero,take_snoc l hk d]
  simp
theorem strip_cut {m : List Tip} {f : List UInt8} (hf : ∀ x ∈ m, f.length ≤ x.out.length) (hb : ∀ x ∈ m, x.out.length ≤ 281474976710656) :
    iter (fun q:(List Tip)×Nat=>Ck_ m f q.1 q.2) (m,0)=some (if ∃x∈m,4096<(x.out.drop f.length).length then .inl 2 else .inr (f,m.map (cutT f.length))):=by
  obtain ⟨r,h1,h2⟩:=iter_up (step:=fun q:(List Tip)×Nat=>Ck_ m f q.1 q.2) (fun s k=>(s,k)) m.length (fun k s=>s=(m.take k).map (cutT f.length)++m.drop k∧ ∀x∈m.take k, ¬ 4096<(x.out.drop f.length).length)
    (fun r=>r=(if ∃x∈m,4096<(x.out.drop f.length).length then .inl 2 else .inr (f,m.map (cutT f.length))))
    (fun k s hk hI=>by
      obtain ⟨rfl,hI⟩:=hI
      have hl:k<((m.take k).map (cutT f.length)++m.drop k).length:=by
        rw [List.length_append,List.length_map,List.length_take,List.length_drop];omega
      have hm:nth m k Tip.zero∈m:=mem_at _ hk
      have hs:=hf _ hm
      have hbb:=hb _ hm
      have hst:Ck_ m f ((m.take k).map (cutT f.length)++m.drop k) k=some (if 4096<((nth m k Tip.zero).out.drop f.length).length then .inr (.inl 2) else .inl ((m.take (k+1)).map (cutT f.length)++m.drop (k+1),k+1)):=by
        unfold Ck_
        rw [iteO_dt (by omega),grd_mk hl,nth_mid (cutT f.length) m k hk,grd_mk ⟨hs,Nat.le_refl _⟩,grd_mk hl,grd_mk (by rw [List.length_set];exact hl),nth_set_self _ k hl]
        show bnd (Ei_ ((nth m k Tip.zero).out.drop f.length)) _=_
        rw [short_eq (by rw [List.length_drop];omega),bnd_mk]
        by_cases c:4096<((nth m k Tip.zero).out.drop f.length).length
        · rw [if_pos c,if_pos c];rfl
        rw [if_neg c,if_neg c]
        show nxt (_,_)=_
        rw [show (⟨(nth m k Tip.zero).state,(nth m k Tip.zero).out.drop f.length⟩:Tip)=cutT f.length (nth m k Tip.zero)from rfl,Hz_ (β:=Tip) (cutT f.length) m k hk];rfl
      by_cases c:4096<((nth m k Tip.zero).out.drop f.length).length
      · rw [if_pos c]at hst
        exact .inr ⟨_,hst,by rw [if_pos ⟨_,hm,c⟩]⟩
      rw [if_neg c]at hst
      refine .inl ⟨_,hst,rfl,fun x hx=> ?_⟩
      rw [take_snoc m hk Tip.zero]at hx
      rcases List.mem_append.1 hx with hx|hx
      · exact hI x hx
      rw [List.mem_singleton.1 hx];exact c)
    (fun s hI=>by
      obtain ⟨rfl,hI⟩:=hI
      rw [List.take_length]at hI
      refine ⟨_,?_,rfl⟩
      rw [if_neg (by rintro ⟨x,h1,h2⟩;exact hI x h1 h2),List.take_length,List.drop_length,List.append_nil]
      show Ck_ m f _ m.length=_
      unfold Ck_
      rw [iteO_df (by omega)];rfl) (s0:=m) ⟨by simp,by simp⟩
  rw [←h2];exact h1
theorem strip_ok {l : List Tip} (hl : l.length ≤ 1000000) (hb : ∀ x ∈ l, x.out.length ≤ 281474976710656) : E8_ l = some (stripD l) := by
  unfold E8_
  have e0:compactT (sortL cmpTip l)=some (onceL Tip.zero cmpTip l):=by
    rw [Hg_,gC_eq Tip.zero (by rw [D8_];omega),D8_]
    rfl
  rw [e0,bnd_mk]
  have hm:(onceL Tip.zero cmpTip l).length≤l.length:=E7_ ..
  have hbm: ∀x∈onceL Tip.zero cmpTip l,x.out.length≤281474976710656:=fun x hx=>hb x ((mem_onceL ..).1 hx)
  unfold stripD
  generalize onceL Tip.zero cmpTip l=m at hm hbm ⊢
  rw [grd_mk (by omega)]
  have hlast:Bu_ m (m.map Tip.out) m.length=some (.inr (if 4096<(lcpL (m.map Tip.out)).length then .inl 2 else if ∃x∈m,4096<(x.out.drop (lcpL (m.map Tip.out)).length).length then .inl 2 else .inr (lcpL (m.map Tip.out),m.map (cutT (lcpL (m.map Tip.out)).length)))):=by
    have hbx: ∀x∈m.map Tip.out,x.length≤281474976710656:=fun x hx=>by
      obtain ⟨y,hy,rfl⟩:=List.mem_map.1 hx;exact hbm y hy
    have hfl:(lcpL (m.map Tip.out)).length≤281474976710656:=by
      cases h:m with
      |nil=>simp [lcpL]
      |cons x t=>
        have:lcpL ((x::t).map Tip.out) <+: x.out:=lcpL_pre (by simp)
        exact Nat.le_trans this.length_le (hbm x (by rw [h];exact List.mem_cons_self ..))
    unfold Bu_
    rw [iteO_df (by omega),textLcp_eq hbx,bnd_mk,short_eq hfl,bnd_mk]
    by_cases c:4096<(lcpL (m.map Tip.out)).length
    · rw [if_pos c,if_pos c];rfl
    rw [if_neg c,if_neg c]
    show fin (iter _ (m,0))=_
    rw [strip_cut (fun x hx=>(lcpL_pre (List.mem_map.2 ⟨x,hx,rfl⟩)).length_le) hbm];rfl
  obtain ⟨r,h1,h2⟩:=iter_up (step:=fun q:(List (List UInt8))×Nat=>Bu_ m q.1 q.2) (fun s k=>(s,k)) m.length (fun k s=>s=(m.map Tip.out).take k++List.replicate ((m.map Tip.out).length - k) []∧ ∀j,j+1<k+0∨j+1<k→(nth m j Tip.zero).state≠(nth m (j+1) Tip.zero).state)
    (fun r=>r=(if dupB m=true then .inl 12 else if 4096<(lcpL (m.map Tip.out)).length then .inl 2 else if ∃x∈m,4096<(x.out.drop (lcpL (m.map Tip.out)).length).length then .inl 2 else .inr (lcpL (m.map Tip.out),m.map (cutT (lcpL (m.map Tip.out)).length))))
    (fun k s hk hI=>by
      obtain ⟨rfl,hI⟩:=hI
      have hkm:k<(m.map Tip.out).length:=by rw [List.length_map];exact hk
      have hlen:k<((m.map Tip.out).take k++List.replicate ((m.map Tip.out).length - k) []).length:=by
        rw [List.length_append,List.length_take,List.length_replicate];omega
      have hnx:Ed_ k ((m.map Tip.out).take k++List.replicate ((m.map Tip.out).length - k) []) m=some (.inl ((m.map Tip.out).take (k+1)++List.replicate ((m.map Tip.out).length - (k+1)) [],k+1)):=by
        unfold Ed_
        rw [grd_mk hlen,←fill_take (m.map Tip.out) k hkm ([]:List UInt8) [],nth_map Tip.out m k Tip.zero [] hk];rfl
      by_cases c0:k=0
      · subst c0
        refine .inl ⟨_,?_,rfl,fun j hj=>by omega⟩
        show Bu_ m _ 0=_
        unfold Bu_
        rw [iteO_dt (by omega),iteO_df (by omega)];exact hnx
      obtain ⟨j,rfl⟩: ∃j,k=j+1:=⟨k - 1,by omega⟩
      have hw:IntKind.i64.wrap (((j+1:Nat):Int) - 1)=((j:Nat):Int):=by rw [show ((j+1:Nat):Int) - 1=(j:Int) by omega,wrap64_of (by omega) (by omega)]
      have hst:Bu_ m ((m.map Tip.out).take (j+1)++List.replicate ((m.map Tip.out).length - (j+1)) []) (j+1)=if (nth m j Tip.zero).state=(nth m (j+1) Tip.zero).state then some (.inr (.inl 12)) else some (.inl ((m.map Tip.out).take (j+1+1)++List.replicate ((m.map Tip.out).length - (j+1+1)) [],j+1+1)):=by
        unfold Bu_
        rw [iteO_dt (by omega),iteO_dt (by omega),hw,grd_mk ⟨by omega,by omega⟩,Int.toNat_natCast]
        by_cases c:(nth m j Tip.zero).state=(nth m (j+1) Tip.zero).state
        · rw [iteO_dt c,if_pos c];rfl
        rw [iteO_df c,if_neg c];exact hnx
      by_cases c:(nth m j Tip.zero).state=(nth m (j+1) Tip.zero).state
      · rw [if_pos c]at hst
        refine .inr ⟨_,hst,?_⟩
        rw [if_pos ((dupB_iff m).2 ⟨j,hk,c⟩)]
      rw [if_neg c]at hst
      refine .inl ⟨_,hst,rfl,fun i hi=> ?_⟩
      by_cases e:i=j
      · subst e;exact c
      exact hI i (by omega))
    (fun s hI=>by
      obtain ⟨rfl,hI⟩:=hI
      have hd: ¬ dupB m=true:=fun h=>by
        obtain ⟨j,h1,h2⟩:=(dupB_iff m).1 h
        exact hI j (.inr h1) h2
      refine ⟨_,?_,rfl⟩
      rw [if_neg hd]
      have e:(m.map Tip.out).take m.length++List.replicate ((m.map Tip.out).length - m.length) []=m.map Tip.out:=by
        rw [List.length_map,Nat.sub_self,List.replicate_zero,List.append_nil,show m.length=(m.map Tip.out).length by rw [List.length_map],List.take_length]
      show Bu_ m _ m.length=_
      rw [e];exact hlast) (s0:=List.replicate m.length []) ⟨by simp,fun j hj=>by omega⟩
  rw [←h2];exact h1
end Go.Proofs.YtchebnpdnfhenaaGreatDoor
end

noncomputable section
namespace Go.Proofs.YtchebnpdnfhenaaGreatDoor
open Go Go.E
end Go.Proofs.YtchebnpdnfhenaaGreatDoor
end

noncomputable section
namespace Go.Proofs.YtchebnpdnfhenaaGreatDoor
open Go Go.E Go.E.OpVal Go.E.OpOk Go.Proofs.Tryz
theorem fo80_0:foOf Tryz.prog 80 0=some 0:=by kernel_rfl
theorem fo80_1:foOf Tryz.prog 80 1=some 1:=by kernel_rfl
theorem fo80_2:foOf Tryz.prog 80 2=some 2:=by kernel_rfl
theorem pf27:plainF Tryz.prog 27=true:=by kernel_rfl
theorem pf34:plainF Tryz.prog 34=true:=by kernel_rfl
theorem pf46:plainF Tryz.prog 46=true:=by kernel_rfl
theorem pf47:plainF Tryz.prog 47=true:=by kernel_rfl
theorem pf48:plainF Tryz.prog 48=true:=by kernel_rfl
theorem pf49:plainF Tryz.prog 49=true:=by kernel_rfl
theorem pf50:plainF Tryz.prog 50=true:=by kernel_rfl
theorem pf52:plainF Tryz.prog 52=true:=by kernel_rfl
theorem pf61:plainF Tryz.prog 61=true:=by kernel_rfl
theorem pf71:plainF Tryz.prog 71=true:=by kernel_rfl
theorem pf93:plainF Tryz.prog 93=true:=by kernel_rfl
theorem pl80:plOf Tryz.prog 80=some #[(0,1),(1,1),(2,1)]:=by kernel_rfl
theorem ze80:zeroOf Tryz.prog 80=some (.agg #[.slice none 0 0,.int .i64 0,.int .i64 0]):=by kernel_rfl
theorem rhas_conI(s:BSet){b:Int}(hb:0≤b∧b<256):Con Tryz.prog 82 #[setV s,.int .i64 b] σ [] (PureP (.bool (s.has b.toNat)) σ):=by
 have h:=rhas_con σ s b.toNat (BSet.isOk _) (by omega)
 rwa [Int.toNat_of_nonneg hb.1]at h
def Ae_(x0:RMaker)(x1:Int):Option (RMaker):=
 iteO (decide (x0.e=0)) (some (⟨x0.rows,x0.most,x1⟩:RMaker)) (some x0)
theorem Bf_{x0:RMaker}{z0_3:List (List Tip×(pkSl 2 encTip encTip_len).P)}{x1:Int}(zf0_4:ZOk σ (pkSl 2 encTip encTip_len) z0_3 x0.rows){r:RMaker}(hh:Ae_ x0 x1=some r):
  Con Tryz.prog 93 #[loc b0_0 0,.int .i64 x1] σ [Res.cells b0_0 #[.slice a0_1 x0.rows.length c0_2,.int .i64 x0.most,.int .i64 x0.e] Eb0,Res.rowS 22 1 (pkSl 2 encTip encTip_len).en (.slice a0_1 x0.rows.length c0_2) z0_3] (fun v σ' H'=>v= .tuple #[]∧σ=σ'∧H'=[Res.cells b0_0 #[.slice a0_1 x0.rows.length c0_2,.int .i64 x0.most,.int .i64 r.e] Eb0,Res.rowS 22 1 (pkSl 2 encTip encTip_len).en (.slice a0_1 x0.rows.length c0_2) z0_3]):=by
 dsimp only [Ae_]at hh
 have zf0_4b:=zf0_4.length
 refine Con.mk (n:=13) Tryz.func93 z z z (fun w0=> ?_)
 refine TC.a (TL.l z z (TL.w z (nilCheckLoc z z) (TL.w z (fieldLoc z fo80_2 z) (TL.w z (loadLoc z ag33 z (i:=0) z z) (TL.w z (OpVal.eql z z z) (TL.en (TC.cD z hh (fun h103 hh=> ?_) (fun h103 hh=> ?_))))))))
 ·refine TC.region (TL.l z z (TL.i z z (TL.w z (nilCheckLoc z z) (TL.w z (fieldLoc z fo80_2 z) (TL.op z (storeI z sz33 z z z z z ?_))))))
  refine TL.nil ?_
  obtain rfl:=so hh
  exact RetOk.mk' (rs:=[]) [Res.cells b0_0 #[.slice a0_1 x0.rows.length c0_2,.int .i64 x0.most,.int .i64 x1] Eb0,Res.rowS 22 1 (pkSl 2 encTip encTip_len).en (.slice a0_1 x0.rows.length c0_2) z0_3] z (.inr z) RVs.nil (List.sublist_append_left _ _) ⟨z,z,z⟩
 refine TC.skip ?_
 obtain rfl:=so hh
 exact RetOk.mk' (rs:=[]) [Res.cells b0_0 #[.slice a0_1 x0.rows.length c0_2,.int .i64 x0.most,.int .i64 x0.e] Eb0,Res.rowS 22 1 (pkSl 2 encTip encTip_len).en (.slice a0_1 x0.rows.length c0_2) z0_3] z (.inr z) RVs.nil (List.sublist_append_left _ _) ⟨z,z,z⟩
def B1_(k185:Nat)(i191:Int):Option ((Int×Nat)⊕((List Tip)×(List UInt8)×RMaker)):=
 nxt (i191,(k185+1))
def By_(k207:Nat)(i213:Int):Option ((Int×Nat)⊕((List Tip)×(List UInt8)×RMaker)):=
 nxt (i213,(k207+1))
def B0_(v52:(List Tip))(v22:(List UInt8))(x0:RMaker)(i221:Int):Option ((List Tip)×(List UInt8)×RMaker):=
 some (v52,v22,(⟨x0.rows,x0.most,i221⟩:RMaker))
def Ab_(v52:(List Tip))(x0:RMaker)(v22:(List UInt8))(i206:Int)(k207:Nat):Option ((Int×Nat)⊕((List Tip)×(List UInt8)×RMaker)):=
 iteO (decide (((k207:Nat):Int)<((v52.length:Nat):Int))) (iteO (decide (4096<((((nth v52 k207 Tip.zero).out).length:Nat):Int))) (bnd (Ae_ (⟨x0.rows,x0.most,i206⟩:RMaker) 2) (fun v89=>By_ k207 v89.e)) (By_ k207 i206)) (fin (iteO (decide (4096<((v22.length:Nat):Int))) (bnd (Ae_ (⟨x0.rows,x0.most,i206⟩:RMaker) 2) (fun v97=>B0_ v52 v22 x0 v97.e)) (B0_ v52 v22 x0 i206)))
def Af_(v52:(List Tip))(x0:RMaker)(v22:(List UInt8))(i184:Int)(k185:Nat):Option ((Int×Nat)⊕((List Tip)×(List UInt8)×RMaker)):=
 iteO (decide (((k185:Nat):Int)<((v52.length:Nat):Int))) (grd (0≤(IntKind.i64.wrap (((k185:Nat):Int) - 1))∧(IntKind.i64.wrap (((k185:Nat):Int) - 1))<(v52.length:Int)) (iteO (decide (((nth v52 ((IntKind.i64.wrap (((k185:Nat):Int) - 1)).toNat) Tip.zero).state)=((nth v52 k185 Tip.zero).state))) (bnd (Ae_ (⟨x0.rows,x0.most,i184⟩:RMaker) 12) (fun v72=>B1_ k185 v72.e)) (B1_ k185 i184))) (fin (iter (fun q:Int×Nat=>Ab_ v52 x0 v22 q.1 q.2) (i184,0)))
def Ag_(x1:List Tip)(v22:(List UInt8))(x0:RMaker)(l151:List Tip)(k154:Nat):Option (((List Tip)×Nat)⊕((List Tip)×(List UInt8)×RMaker)):=
 iteO (decide (((k154:Nat):Int)<((x1.length:Nat):Int))) (grd (v22.length≤((nth x1 k154 Tip.zero).out).length∧((nth x1 k154 Tip.zero).out).length≤((nth x1 k154 Tip.zero).out).length) (grd ((l151.length+[(⟨(nth x1 k154 Tip.zero).state,(((nth x1 k154 Tip.zero).out).drop v22.length)⟩:Tip)].length) * 24≤140737488355328) (nxt ((l151++[(⟨(nth x1 k154 Tip.zero).state,(((nth x1 k154 Tip.zero).out).drop v22.length)⟩:Tip)]),(k154+1))))) (fin (bnd (Bq_ l151) (fun v52=>iter (fun q:Int×Nat=>Af_ v52 x0 v22 q.1 q.2) (x0.e,1))))
def An_(x1:List Tip)(x0:RMaker)(l118:List (List UInt8))(k121:Nat):Option (((List (List UInt8))×Nat)⊕((List Tip)×(List UInt8)×RMaker)):=
 iteO (decide (((k121:Nat):Int)<((x1.length:Nat):Int))) (grd ((l118.length+[(nth x1 k121 Tip.zero).out].length) * 16≤140737488355328) (nxt ((l118++[(nth x1 k121 Tip.zero).out]),(k121+1)))) (fin (bnd (Du_ l118) (fun v22=>iter (fun q:(List Tip)×Nat=>Ag_ x1 v22 x0 q.1 q.2) (([]:List Tip),0))))
def Bw_(x0:RMaker)(x1:List Tip):Option ((List Tip)×(List UInt8)×RMaker):=
 iter (fun q:(List (List UInt8))×Nat=>An_ x1 x0 q.1 q.2) (([]:List (List UInt8)),0)
theorem Ej_{x0:RMaker}{z0_3:List (List Tip×(pkSl 2 encTip encTip_len).P)}{x1:List Tip}(zf0_4:ZOk σ (pkSl 2 encTip encTip_len) z0_3 x0.rows)(f1_0:RS σ 2 encTip (.slice a1_0 x1.length c1_0) x1){r:(List Tip)×(List UInt8)×RMaker}(hh:Bw_ x0 x1=some r):
  Con Tryz.prog 47 #[loc b0_0 0,.slice a1_0 x1.length c1_0] σ [Res.cells b0_0 #[.slice a0_1 x0.rows.length c0_2,.int .i64 x0.most,.int .i64 x0.e] Eb0,Res.rowS 22 1 (pkSl 2 encTip encTip_len).en (.slice a0_1 x0.rows.length c0_2) z0_3] (fun v σ' H'=> ∃a1 c1,v= .tuple #[.slice a1 r.1.length c1,.string (bs r.2.1)]∧RS σ' 2 encTip (.slice a1 r.1.length c1) r.1∧H'=[Res.cells b0_0 #[.slice a0_1 x0.rows.length c0_2,.int .i64 x0.most,.int .i64 r.2.2.e] Eb0,Res.rowS 22 1 (pkSl 2 encTip encTip_len).en (.slice a0_1 x0.rows.length c0_2) z0_3]):=by
 dsimp only [Bw_]at hh
 have zf0_4b:=zf0_4.length
 have f1_0b:=f1_0.rv.big
 refine Con.mk (n:=97) Tryz.func47 z z z (fun w0=> ?_)
 refine TC.a (TL.s z z (TL.w z (moveStr (.inr z) z) (TL.en (TC.a (TL.s z z (TL.en (TC.seq (TC.a (TL.i z z (TL.en (TC.block (TC.nilS 9 1 eS_ (TC.loopG (α:=((List (List UInt8))×Nat)×((Option Addr)×Nat×Store)) (rgs [(6,2),(14,14)]) (fun g=>[(6,.slice g.2.1 g.1.1.length g.2.2.1),(7,.int .i64 ((g.1.2:Nat):Int))]) (fun g=>[Res.cells b0_0 #[.slice a0_1 x0.rows.length c0_2,.int .i64 x0.most,.int .i64 x0.e] Eb0,Res.rowS 22 1 (pkSl 2 encTip encTip_len).en (.slice a0_1 x0.rows.length c0_2) z0_3,Res.rowS 9 1 eS_ (.slice g.2.1 g.1.1.length g.2.2.1) g.1.1]) (fun g=>g.2.2.2) (fun g=>iter (fun q:(List (List UInt8))×Nat=>An_ x1 x0 q.1 q.2) g.1=some r∧ZOk g.2.2.2 (pkSl 2 encTip encTip_len) z0_3 x0.rows∧Store.le σ g.2.2.2) (fun g=>rounds (fun q:(List (List UInt8))×Nat=>An_ x1 x0 q.1 q.2) g.1) ((([]:List (List UInt8)),0),(none,0,σ)) (Sub.f [2,2] 3) z (by repeat (first|exact trivial|refine ⟨z,?_⟩)) ⟨hh,zf0_4,(Store.le.refl _)⟩ (fun g1 j1 hg1=> ?_))))))))))))))
 obtain ⟨⟨l118,k121⟩,⟨a119,c120,τ123⟩⟩:=g1
 obtain ⟨hh,zf116,hle124⟩:=hg1
 try dsimp only at zf116
 dsimp only at hle124
 replace f1_0:=f1_0.mono hle124
 try dsimp only
 obtain ⟨z1,hh,hR1⟩:=iter_e hh
 dsimp only [An_]at hh
 have zf116b:=zf116.length
 refine TC.isSl (i:=1) z (fun _ hb125 _=> ?_)
 refine TC.isSl (i:=2) z (fun _ hb126 _=> ?_)
 refine TC.seq (TC.a (TL.i z z (TL.s z z (TL.w z (lenC z underlying22 z) (TL.w z (OpVal.lss z z z) (TL.en (TC.cD z hh (fun h127 hh=> ?_) (fun h127 hh=> ?_))))))))
 ·refine TC.skip (S.n (TC.seq (TC.block (TC.region (TL.s z z (TL.s z z (TL.i z z (TL.w z (indexN z underlying22 sz76 z z f1_0.rv.sl (by omega)) (TL.w z (fieldElem z fo76_1 z f1_0.rv.sl (by omega)) (TL.w z (loadS Tip.zero z ag9 z f1_0 (by omega) (by omega) z) (TL.op z (OpOk.lit (enc:=eS_) [(nth x1 k121 Tip.zero).out] z underlying30 sz9 ze9 z z z eSl_ (by decide) (by decide) ([]:List UInt8) z (by decide) z (by decide) eSo_ (fun a128 c129=> ?_)))))))))))))
  refine TL.front 3 z z ?_
  have u16:=grd_c hh
  replace hh:=grd_t hh
  refine TL.op z (appendS z z underlying30 sz9 by9 ze9 z z (by decide) z z z (.inr ⟨_,0,z⟩) (by simpa using u16) (by decide) (fun a131 c132=> ?_))
  refine TL.s z z (TL.nil (B.n (S.n (TC.region (TL.i z z (TL.w z (OpVal.succ z z z (by omega)) (TL.i z z (TL.en ?_))))))))
  obtain ⟨hh,hlt133⟩:=nxt_x hR1 hh
  exact lf (((l118++[(nth x1 k121 Tip.zero).out]),(k121+1)),(a131,c132,τ123)) hlt133 ⟨hh,zf116,hle124⟩ (Sub.f [3,3] 3)
 refine TC.exit (S.x (S.x ?_))
 replace hh:=fin_x hR1 hh
 refine TC.exitHere (S.n (TC.a (TL.s z z ?_)))
 obtain ⟨v22,u22,hh⟩:=bnd_e hh
 refine TL.front 2 z z (TL.op z (callK (Con.lend eSl_ (fun _ hle135 hr134=>Gr_ hr134 u22)) z z pf71 z z z z ?_))
 refine TL.w z (moveStr (.inr z) z) (TL.en (TC.a (TL.s z z (TL.en (TC.seq (TC.a (TL.i z z (TL.en (TC.block (TC.nilS 76 2 encTip (TC.loopG (α:=((List Tip)×Nat)×((Option Addr)×Nat×Store)) (rgs [(9,2),(30,23)]) (fun g=>[(9,.slice g.2.1 g.1.1.length g.2.2.1),(10,.int .i64 ((g.1.2:Nat):Int))]) (fun g=>[Res.cells b0_0 #[.slice a0_1 x0.rows.length c0_2,.int .i64 x0.most,.int .i64 x0.e] Eb0,Res.rowS 22 1 (pkSl 2 encTip encTip_len).en (.slice a0_1 x0.rows.length c0_2) z0_3,Res.rowS 76 2 encTip (.slice g.2.1 g.1.1.length g.2.2.1) g.1.1]) (fun g=>g.2.2.2) (fun g=>iter (fun q:(List Tip)×Nat=>Ag_ x1 v22 x0 q.1 q.2) g.1=some r∧ZOk g.2.2.2 (pkSl 2 encTip encTip_len) z0_3 x0.rows∧Store.le τ123 g.2.2.2) (fun g=>rounds (fun q:(List Tip)×Nat=>Ag_ x1 v22 x0 q.1 q.2) g.1) ((([]:List Tip),0),(none,0,τ123)) (Sub.f [3,3] 3) z (by repeat (first|exact trivial|refine ⟨z,?_⟩)) ⟨hh,zf116,(Store.le.refl _)⟩ (fun g2 j2 hg2=> ?_))))))))))))
 obtain ⟨⟨l151,k154⟩,⟨a152,c153,τ156⟩⟩:=g2
 obtain ⟨hh,zf149,hle157⟩:=hg2
 try dsimp only at zf149
 dsimp only at hle157
 replace f1_0:=f1_0.mono hle157
 try dsimp only
 obtain ⟨z1,hh,hR1⟩:=iter_e hh
 dsimp only [Ag_]at hh
 have zf149b:=zf149.length
 refine TC.isSl (i:=1) z (fun _ hb158 _=> ?_)
 refine TC.isSl (i:=2) z (fun _ hb159 _=> ?_)
 refine TC.seq (TC.a (TL.i z z (TL.s z z (TL.w z (lenC z underlying22 z) (TL.w z (OpVal.lss z z z) (TL.en (TC.cD z hh (fun h160 hh=> ?_) (fun h160 hh=> ?_))))))))
 ·refine TC.skip (S.n (TC.seq (TC.block ?_)))
  have u43:=grd_c hh
  replace hh:=grd_t hh
  have u46:=grd_c hh
  replace hh:=grd_t hh
  refine TC.draw [16,17] (by kernel_rfl) (TA.a 0 z (moveSl (.inl z) z) z (TA.a 1 z (moveSl (.inl z) z) z (TA.a 2 z (moveI (.inl z) z) z (TA.b 3 z (indexN z underlying22 sz76 z z f1_0.rv.sl (by omega)) z (TA.a 4 z (fieldElem z fo76_0 z f1_0.rv.sl (by omega)) z (TA.b 5 z (loadS Tip.zero z ag3 z f1_0 (by omega) (by omega) z) z (TA.a 6 z (moveSl (.inl z) z) z (TA.a 7 z (moveI (.inl z) z) z (TA.b 8 z (indexN z underlying22 sz76 z z f1_0.rv.sl (by omega)) z (TA.a 9 z (fieldElem z fo76_1 z f1_0.rv.sl (by omega)) z (TA.b 10 z (loadS Tip.zero z ag9 z f1_0 (by omega) (by omega) z) z (TA.a 11 z (moveStr (.inl z) z) z (TA.b 12 z (lenBs z underlying9 z) z (TA.b 13 z (sliceBsL (l:=(nth x1 k154 Tip.zero).out) (i:=v22.length) z underlying9 z z (by omega) (by omega)) z (TA.a 14 z (buildL z pl76 ze76 z) z ?_)))))))))))))))
  refine TA.ac 15 z (OpOk.lit (enc:=encTip) [(⟨(nth x1 k154 Tip.zero).state,(((nth x1 k154 Tip.zero).out).drop v22.length)⟩:Tip)] z underlying22 sz76 ze76 z z z encTip_len (by decide) (by decide) Tip.zero z (by decide) z (by decide) encTip_one (fun a166 c167=>(k1 ?_)))
  refine TA.front 3 z z (TA.last 16 (by kernel_rfl) z z z (appendS z z underlying22 sz76 by76 ze76 z z (by decide) z z z (.inr ⟨_,0,z⟩) (by simpa using u46) (by decide) (fun a169 c170=> ?_)))
  refine TZ.v 17 (by kernel_rfl) z z z (moveSl (.inr z) z) z z (TZ.done (by kernel_rfl) (B.n (S.n (TC.region (TL.i z z (TL.w z (OpVal.succ z z z (by omega)) (TL.i z z (TL.en ?_))))))))
  obtain ⟨hh,hlt171⟩:=nxt_x hR1 hh
  exact lf (((l151++[(⟨(nth x1 k154 Tip.zero).state,(((nth x1 k154 Tip.zero).out).drop v22.length)⟩:Tip)]),(k154+1)),(a169,c170,τ156)) hlt171 ⟨hh,zf149,hle157⟩ (Sub.f [3,3] 3)
 refine TC.exit (S.x (S.x ?_))
 replace hh:=fin_x hR1 hh
 refine TC.exitHere (S.n (TC.a (TL.s z z (TL.front 2 z z (TL.sealS encTip_len (fun τ174 hle173 hr172=> ?_))))))
 replace zf149:=zf149.mono hle173
 have hr172b:=hr172.rv.big
 obtain ⟨v52,u52,hh⟩:=bnd_e hh
 refine TL.op z (OpOk.call (Dr_ hr172 u52) z z pf92 z z z z ?_)
 rintro _ τ175 _ hle175 ⟨a175_1,c175_1,rfl,hr175_0,rfl⟩
 replace zf149:=zf149.mono hle175
 have hr175_0b:=hr175_0.rv.big
 refine TL.s z z (TL.en (TC.seq (TC.a (TL.i z z (TL.en (TC.block (TC.loopG (α:=(Int×Nat)×(Store)) (rgs [(12,1),(55,20)]) (fun g=>[(12,.int .i64 ((g.1.2:Nat):Int))]) (fun g=>[Res.cells b0_0 #[.slice a0_1 x0.rows.length c0_2,.int .i64 x0.most,.int .i64 g.1.1] Eb0,Res.rowS 22 1 (pkSl 2 encTip encTip_len).en (.slice a0_1 x0.rows.length c0_2) z0_3]) (fun g=>g.2) (fun g=>iter (fun q:Int×Nat=>Af_ v52 x0 v22 q.1 q.2) g.1=some r∧ZOk g.2 (pkSl 2 encTip encTip_len) z0_3 x0.rows∧Store.le τ175 g.2) (fun g=>rounds (fun q:Int×Nat=>Af_ v52 x0 v22 q.1 q.2) g.1) ((x0.e,1),τ175) (Sub.f [1,1] 2) z (by repeat (first|exact trivial|refine ⟨z,?_⟩)) ⟨hh,zf149,(Store.le.refl _)⟩ (fun g3 j3 hg3=> ?_))))))))
 obtain ⟨⟨i184,k185⟩,τ186⟩:=g3
 obtain ⟨hh,zf183,hle187⟩:=hg3
 try dsimp only at zf183
 dsimp only at hle187
 replace hr175_0:=hr175_0.mono hle187
 try dsimp only
 obtain ⟨z1,hh,hR1⟩:=iter_e hh
 dsimp only [Af_]at hh
 have zf183b:=zf183.length
 refine TC.isSl (i:=1) z (fun _ hb188 _=> ?_)
 refine TC.seq (TC.a (TL.i z z (TL.s z z (TL.w z (lenC z underlying22 z) (TL.w z (OpVal.lss z z z) (TL.en (TC.cD z hh (fun h189 hh=> ?_) (fun h189 hh=> ?_))))))))
 ·refine TC.skip (S.n (TC.cutG (α:=(Int)×(Store)) (rgs [(61,14)]) (fun g=>[]) (fun g=>[Res.cells b0_0 #[.slice a0_1 x0.rows.length c0_2,.int .i64 x0.most,.int .i64 g.1] Eb0,Res.rowS 22 1 (pkSl 2 encTip encTip_len).en (.slice a0_1 x0.rows.length c0_2) z0_3]) (fun g=>g.2) (fun g=>B1_ k185 g.1=some z1∧ZOk g.2 (pkSl 2 encTip encTip_len) z0_3 x0.rows∧Store.le τ186 g.2) ?_ (fun g j hg=> ?_)))
  ·skip
   refine TC.block (TC.seq ?_)
   have u62:=grd_c hh
   replace hh:=grd_t hh
   refine TC.draw [] (by kernel_rfl) (TA.a 0 z (moveSl (.inl z) z) z (TA.a 1 z (moveI (.inl z) z) z (TA.a 2 z (subW z z z) z (TA.b 3 z (OpVal.index z underlying22 sz76 z z hr175_0.rv.sl u62.1 u62.2) z (TA.a 4 z (fieldElem z fo76_0 z hr175_0.rv.sl (by omega)) z (TA.b 5 z (loadS Tip.zero z ag3 z hr175_0 (by omega) (by omega) z) z (TA.a 6 z (moveSl (.inl z) z) z (TA.a 7 z (moveI (.inl z) z) z (TA.b 8 z (indexN z underlying22 sz76 z z hr175_0.rv.sl (by omega)) z (TA.a 9 z (fieldElem z fo76_0 z hr175_0.rv.sl (by omega)) z (TA.b 10 z (loadS Tip.zero z ag3 z hr175_0 (by omega) (by omega) z) z (TA.a 11 z (OpVal.eql z z z) z (TA.dn (S.n (TC.cD z hh (fun h192 hh=> ?_) (fun h192 hh=> ?_))))))))))))))))
   ·refine TC.region (TL.l z z (TL.front 1 z z (TL.front 1 z z ?_)))
    obtain ⟨v72,u72,hh⟩:=bnd_e hh
    refine TL.op z (OpOk.call (Bf_ (x0:=(⟨x0.rows,x0.most,i184⟩:RMaker)) zf183 u72) z z pf93 z z z z ?_)
    rintro _ _ _ hle193 ⟨rfl,rfl,rfl⟩
    exact TL.nil (B.n (S.n (cf (v72.e,τ186) ⟨hh,zf183,(Store.le.refl _)⟩ (Sub.f [1,1] 2))))
   exact TC.skip (B.n (S.n (cf (i184,τ186) ⟨hh,zf183,(Store.le.refl _)⟩ (Sub.f [1,1] 2))))
  skip
  obtain ⟨i191,τ194⟩:=g
  obtain ⟨hh,zf190,hle195⟩:=hg
  try dsimp only at zf190
  dsimp only at hle195
  replace hr175_0:=hr175_0.mono hle195
  replace zf183:=zf183.mono hle195
  try dsimp only
  dsimp only [B1_]at hh
  have zf190b:=zf190.length
  refine TC.isSl (i:=1) z (fun _ hb196 _=> ?_)
  refine TC.region (TL.i z z (TL.w z (OpVal.succ z z z (by omega)) (TL.i z z (TL.en ?_))))
  obtain ⟨hh,hlt197⟩:=nxt_x hR1 hh
  exact lf ((i191,(k185+1)),τ194) hlt197 ⟨hh,zf190,(hle187.trans hle195)⟩ (Sub.f [1,1] 2)
 refine TC.exit (S.x (S.x ?_))
 replace hh:=fin_x hR1 hh
 refine TC.exitHere (S.n (TC.seq (TC.a (TL.i z z (TL.en (TC.block (TC.loopG (α:=(Int×Nat)×(Store)) (rgs [(13,1),(75,15)]) (fun g=>[(13,.int .i64 ((g.1.2:Nat):Int))]) (fun g=>[Res.cells b0_0 #[.slice a0_1 x0.rows.length c0_2,.int .i64 x0.most,.int .i64 g.1.1] Eb0,Res.rowS 22 1 (pkSl 2 encTip encTip_len).en (.slice a0_1 x0.rows.length c0_2) z0_3]) (fun g=>g.2) (fun g=>iter (fun q:Int×Nat=>Ab_ v52 x0 v22 q.1 q.2) g.1=some r∧ZOk g.2 (pkSl 2 encTip encTip_len) z0_3 x0.rows∧Store.le τ186 g.2) (fun g=>rounds (fun q:Int×Nat=>Ab_ v52 x0 v22 q.1 q.2) g.1) ((i184,0),τ186) (Sub.f [1,1] 2) z (by repeat (first|exact trivial|refine ⟨z,?_⟩)) ⟨hh,zf183,(Store.le.refl _)⟩ (fun g4 j4 hg4=> ?_))))))))
 obtain ⟨⟨i206,k207⟩,τ208⟩:=g4
 obtain ⟨hh,zf205,hle209⟩:=hg4
 try dsimp only at zf205
 dsimp only at hle209
 replace hr175_0:=hr175_0.mono hle209
 try dsimp only
 obtain ⟨z1,hh,hR1⟩:=iter_e hh
 dsimp only [Ab_]at hh
 have zf205b:=zf205.length
 refine TC.isSl (i:=1) z (fun _ hb210 _=> ?_)
 refine TC.seq (TC.a (TL.i z z (TL.s z z (TL.w z (lenC z underlying22 z) (TL.w z (OpVal.lss z z z) (TL.en (TC.cD z hh (fun h211 hh=> ?_) (fun h211 hh=> ?_))))))))
 ·refine TC.skip (S.n (TC.cutG (α:=(Int)×(Store)) (rgs [(81,9)]) (fun g=>[]) (fun g=>[Res.cells b0_0 #[.slice a0_1 x0.rows.length c0_2,.int .i64 x0.most,.int .i64 g.1] Eb0,Res.rowS 22 1 (pkSl 2 encTip encTip_len).en (.slice a0_1 x0.rows.length c0_2) z0_3]) (fun g=>g.2) (fun g=>By_ k207 g.1=some z1∧ZOk g.2 (pkSl 2 encTip encTip_len) z0_3 x0.rows∧Store.le τ208 g.2) ?_ (fun g j hg=> ?_)))
  ·skip
   refine TC.block (TC.a (TL.s z z (TL.i z z (TL.w z (indexN z underlying22 sz76 z z hr175_0.rv.sl (by omega)) (TL.w z (fieldElem z fo76_1 z hr175_0.rv.sl (by omega)) (TL.w z (loadS Tip.zero z ag9 z hr175_0 (by omega) (by omega) z) (TL.w z (lenBs z underlying9 z) (TL.w z (OpVal.gtr z z z) (TL.en (TC.cD z hh (fun h214 hh=> ?_) (fun h214 hh=> ?_)))))))))))
   ·refine TC.region (TL.l z z (TL.front 1 z z (TL.front 1 z z ?_)))
    obtain ⟨v89,u89,hh⟩:=bnd_e hh
    refine TL.op z (OpOk.call (Bf_ (x0:=(⟨x0.rows,x0.most,i206⟩:RMaker)) zf205 u89) z z pf93 z z z z ?_)
    rintro _ _ _ hle215 ⟨rfl,rfl,rfl⟩
    exact TL.nil (B.n (S.n (cf (v89.e,τ208) ⟨hh,zf205,(Store.le.refl _)⟩ (Sub.f [1,1] 2))))
   exact TC.skip (B.n (S.n (cf (i206,τ208) ⟨hh,zf205,(Store.le.refl _)⟩ (Sub.f [1,1] 2))))
  skip
  obtain ⟨i213,τ216⟩:=g
  obtain ⟨hh,zf212,hle217⟩:=hg
  try dsimp only at zf212
  dsimp only at hle217
  replace hr175_0:=hr175_0.mono hle217
  replace zf205:=zf205.mono hle217
  try dsimp only
  dsimp only [By_]at hh
  have zf212b:=zf212.length
  refine TC.isSl (i:=1) z (fun _ hb218 _=> ?_)
  refine TC.region (TL.i z z (TL.w z (OpVal.succ z z z (by omega)) (TL.i z z (TL.en ?_))))
  obtain ⟨hh,hlt219⟩:=nxt_x hR1 hh
  exact lf ((i213,(k207+1)),τ216) hlt219 ⟨hh,zf212,(hle209.trans hle217)⟩ (Sub.f [1,1] 2)
 refine TC.exit (S.x (S.x ?_))
 replace hh:=fin_x hR1 hh
 refine TC.exitHere (S.n (TC.cutG (α:=(Int)×(Store)) [90,91,92,93,94] (fun g=>[]) (fun g=>[Res.cells b0_0 #[.slice a0_1 x0.rows.length c0_2,.int .i64 x0.most,.int .i64 g.1] Eb0,Res.rowS 22 1 (pkSl 2 encTip encTip_len).en (.slice a0_1 x0.rows.length c0_2) z0_3]) (fun g=>g.2) (fun g=>B0_ v52 v22 x0 g.1=some r∧ZOk g.2 (pkSl 2 encTip encTip_len) z0_3 x0.rows∧Store.le τ208 g.2) ?_ (fun g j hg=> ?_)))
 ·skip
  refine TC.a (TL.w z (moveStr (.inl z) z) (TL.w z (lenBs z underlying9 z) (TL.w z (OpVal.gtr z z z) (TL.en (TC.cD z hh (fun h222 hh=> ?_) (fun h222 hh=> ?_))))))
  ·refine TC.region (TL.l z z (TL.front 1 z z (TL.front 1 z z ?_)))
   obtain ⟨v97,u97,hh⟩:=bnd_e hh
   refine TL.op z (OpOk.call (Bf_ (x0:=(⟨x0.rows,x0.most,i206⟩:RMaker)) zf205 u97) z z pf93 z z z z ?_)
   rintro _ _ _ hle223 ⟨rfl,rfl,rfl⟩
   exact TL.en (cf (v97.e,τ208) ⟨hh,zf205,(Store.le.refl _)⟩ (Sub.f [1,1] 2))
  exact TC.skip (S.n (cf (i206,τ208) ⟨hh,zf205,(Store.le.refl _)⟩ (Sub.f [1,1] 2)))
 skip
 obtain ⟨i221,τ224⟩:=g
 obtain ⟨hh,zf220,hle225⟩:=hg
 try dsimp only at zf220
 dsimp only at hle225
 replace hr175_0:=hr175_0.mono hle225
 try dsimp only
 dsimp only [B0_]at hh
 have zf220b:=zf220.length
 refine TC.isSl (i:=1) z (fun _ hb226 _=> ?_)
 refine TC.a (TL.s z z (TL.w z (moveStr (.inl z) z) (TL.s z z (TL.w z (moveStr (.inr z) z) (TL.en (TC.ret ?_))))))
 obtain rfl:=so hh
 exact ro [Res.cells b0_0 #[.slice a0_1 x0.rows.length c0_2,.int .i64 x0.most,.int .i64 i221] Eb0,Res.rowS 22 1 (pkSl 2 encTip encTip_len).en (.slice a0_1 x0.rows.length c0_2) z0_3] z (RVs.tmp z (RVs.tmp z RVs.nil)) ⟨a175_1,c175_1,z,hr175_0,z⟩
def Am_(x0:RMaker)(x1:List Tip)(k110:Nat):Option ((Nat)⊕(Int×RMaker)):=
 iteO (decide (((k110:Nat):Int)<((x0.rows.length:Nat):Int))) (bnd (Cx_ (nth x0.rows k110 ([]:List Tip)) x1) (fun v18=>iteO v18 (fin (some (((k110:Nat):Int),x0))) (nxt (k110+1)))) (fin (iteO (decide (x0.most≤((x0.rows.length:Nat):Int))) (bnd (Ae_ x0 2) (fun v35=>some (0,(⟨x0.rows,x0.most,v35.e⟩:RMaker)))) (grd ((x0.rows.length+[x1].length) * 24≤140737488355328) (some (IntKind.i64.wrap ((((x0.rows++[x1]).length:Nat):Int) - 1),(⟨(x0.rows++[x1]),x0.most,x0.e⟩:RMaker))))))
def Aa_(x0:RMaker)(x1:List Tip):Option (Int×RMaker):=
 iter (fun q:Nat=>Am_ x0 x1 q) 0
theorem Ea_{x0:RMaker}{z0_3:List (List Tip×(pkSl 2 encTip encTip_len).P)}{x1:List Tip}(zf0_4:ZOk σ (pkSl 2 encTip encTip_len) z0_3 x0.rows)(f1_0:RS σ 2 encTip (.slice a1_0 x1.length c1_0) x1){r:Int×RMaker}(hh:Aa_ x0 x1=some r):
  Con Tryz.prog 48 #[loc b0_0 0,.slice a1_0 x1.length c1_0] σ [Res.cells b0_0 #[.slice a0_1 x0.rows.length c0_2,.int .i64 x0.most,.int .i64 x0.e] Eb0,Res.rowS 22 1 (pkSl 2 encTip encTip_len).en (.slice a0_1 x0.rows.length c0_2) z0_3] (fun v σ' H'=> ∃ao1 co2, ∃(zo3:List (List Tip×(pkSl 2 encTip encTip_len).P)),v= .int .i64 r.1∧ZOk σ' (pkSl 2 encTip encTip_len) zo3 r.2.rows∧H'=[Res.cells b0_0 #[.slice ao1 r.2.rows.length co2,.int .i64 x0.most,.int .i64 r.2.e] Eb0,Res.rowS 22 1 (pkSl 2 encTip encTip_len).en (.slice ao1 r.2.rows.length co2) zo3]):=by
 dsimp only [Aa_]at hh
 have zf0_4b:=zf0_4.length
 have f1_0b:=f1_0.rv.big
 refine Con.mk (n:=53) Tryz.func48 z z z (fun w0=> ?_)
 refine TC.a (TL.i z z (TL.en (TC.seq (TC.a (TL.i z z (TL.en (TC.block (TC.loopG (α:=(Nat)×(Store)) (rgs [(4,21)]) (fun g=>[(5,.int .i64 ((g.1:Nat):Int))]) (fun g=>[Res.cells b0_0 #[.slice a0_1 x0.rows.length c0_2,.int .i64 x0.most,.int .i64 x0.e] Eb0,Res.rowS 22 1 (pkSl 2 encTip encTip_len).en (.slice a0_1 x0.rows.length c0_2) z0_3]) (fun g=>g.2) (fun g=>iter (fun q:Nat=>Am_ x0 x1 q) g.1=some r∧ZOk g.2 (pkSl 2 encTip encTip_len) z0_3 x0.rows∧Store.le σ g.2) (fun g=>rounds (fun q:Nat=>Am_ x0 x1 q) g.1) (0,σ) (Sub.f [1,1] 2) z (by repeat (first|exact trivial|refine ⟨z,?_⟩)) ⟨hh,zf0_4,(Store.le.refl _)⟩ (fun g1 j1 hg1=> ?_)))))))))
 obtain ⟨k110,τ111⟩:=g1
 obtain ⟨hh,zf109,hle112⟩:=hg1
 try dsimp only at zf109
 dsimp only at hle112
 replace f1_0:=f1_0.mono hle112
 try dsimp only
 obtain ⟨z1,hh,hR1⟩:=iter_e hh
 dsimp only [Am_]at hh
 have zf109b:=zf109.length
 refine TC.isSl (i:=1) z (fun _ hb113 _=> ?_)
 refine TC.seq (TC.a (TL.i z z (TL.l z z (TL.w z (nilCheckLoc z z) (TL.w z (fieldLoc z fo80_0 z) (TL.w z (loadLoc z ag72 z (i:=0) z z) (TL.w z (lenC z underlying72 z) (TL.w z (OpVal.lss z z z) (TL.en (TC.cD z hh (fun h114 hh=> ?_) (fun h114 hh=> ?_)))))))))))
 ·refine TC.skip (S.n (TC.seq (TC.block (TC.a (TL.l z z (TL.w z (nilCheckLoc z z) (TL.w z (fieldLoc z fo80_0 z) (TL.w z (loadLoc z ag72 z (i:=0) z z) (TL.i z z (TL.isSl (i:=1) z (fun hs115 _ _=> ?_)))))))))))
  refine TL.w z (indexN z underlying72 sz22 z z (zf109.isSl hs115) (by omega)) ?_
  obtain ⟨p116,hp116⟩: ∃p,p=(nth z0_3 k110 ((pkSl 2 encTip encTip_len).d,(pkSl 2 encTip encTip_len).dp)).2:=⟨_,rfl⟩
  have hk116:RS τ111 2 encTip (.slice p116.1 (nth x0.rows k110 ([]:List Tip)).length p116.2) (nth x0.rows k110 ([]:List Tip)):=by rw [hp116];exact (zf109.at (by omega)).2
  refine TL.w z (OpVal.of (hp116▸loadOZ1 zf109 z ag22 z (q:=1) z (by omega) z) (v':= .slice p116.1 ((nth x0.rows k110 ([]:List Tip)).length) p116.2) z) (TL.s z z ?_)
  obtain ⟨v18,u18,hh⟩:=bnd_e hh
  refine TL.op z (callP (Fv_ hk116 f1_0 u18) z z pf61 z z z ?_)
  refine TL.en (TC.cB z hh (fun h117 hh=> ?_) (fun h117 hh=> ?_))
  ·refine TC.a (TL.i z z (TL.i z z (TL.en (TC.ret (B.r (S.r (S.r ?_)))))))
   replace hh:=fin_x hR1 hh
   refine B.r (S.r ?_)
   obtain rfl:=so hh
   exact ro [Res.cells b0_0 #[.slice a0_1 x0.rows.length c0_2,.int .i64 x0.most,.int .i64 x0.e] Eb0,Res.rowS 22 1 (pkSl 2 encTip encTip_len).en (.slice a0_1 x0.rows.length c0_2) z0_3] z (RVs.tmp z RVs.nil) ⟨a0_1,c0_2,z0_3,z,zf109,z⟩
  refine TC.skip (B.n (S.n (TC.region (TL.i z z (TL.w z (OpVal.succ z z z (by omega)) (TL.i z z (TL.en ?_)))))))
  obtain ⟨hh,hlt118⟩:=nxt_x hR1 hh
  exact lf ((k110+1),τ111) hlt118 ⟨hh,zf109,hle112⟩ (Sub.f [1,1] 2)
 refine TC.exit (S.x (S.x ?_))
 replace hh:=fin_x hR1 hh
 refine TC.exitHere (S.n (TC.seq (TC.seq (TC.draw [] (by kernel_rfl) (TA.a 0 z (moveLoc (.inl z) z) z (TA.a 1 z (nilCheckLoc z z) z (TA.a 2 z (fieldLoc z fo80_0 z) z (TA.b 3 z (loadLoc z ag72 z (i:=0) z z) z (TA.b 4 z (lenC z underlying72 z) z (TA.a 5 z (moveLoc (.inl z) z) z (TA.a 6 z (nilCheckLoc z z) z (TA.a 7 z (fieldLoc z fo80_1 z) z (TA.b 8 z (loadLoc z ag3 z (i:=0) z z) z (TA.a 9 z (OpVal.geq z z z) z (TA.dn ?_)))))))))))))))
 refine S.n (TC.cD z hh (fun h119 hh=> ?_) (fun h119 hh=> ?_))
 ·refine TC.a (TL.l z z (TL.front 1 z z (TL.front 1 z z ?_)))
  obtain ⟨v35,u35,hh⟩:=bnd_e hh
  refine TL.op z (OpOk.call (Bf_ (x0:=x0) zf109 u35) z z pf93 z z z z ?_)
  rintro _ _ _ hle120 ⟨rfl,rfl,rfl⟩
  refine TL.en (TC.a (TL.i z z (TL.en (TC.ret (S.r ?_)))))
  obtain rfl:=so hh
  exact ro [Res.cells b0_0 #[.slice a0_1 x0.rows.length c0_2,.int .i64 x0.most,.int .i64 v35.e] Eb0,Res.rowS 22 1 (pkSl 2 encTip encTip_len).en (.slice a0_1 x0.rows.length c0_2) z0_3] z (RVs.tmp z RVs.nil) ⟨a0_1,c0_2,z0_3,z,zf109,z⟩
 refine TC.skip (S.n (TC.a (TL.l z z (TL.l z z (TL.w z (nilCheckLoc z z) (TL.w z (fieldLoc z fo80_0 z) (TL.w z (loadLoc z ag72 z (i:=0) z z) (TL.s z z ?_))))))))
 have zf123:ZOk _ (pkSl 2 encTip encTip_len) ([(x1,(a1_0,c1_0))]:List (List Tip×(pkSl 2 encTip encTip_len).P)) [x1]:=ZOk.cons (f1_0) (ZOk.nil _ _)
 refine TL.op z (litZ zf123 z underlying72 sz22 z ze22 z z z (by decide) (by decide) z (by decide) z (by decide) (fun a121 c122=> ?_))
 refine TL.front 2 z z ?_
 have u44:=grd_c hh
 replace hh:=grd_t hh
 refine TL.op z (appendZ (k:=(pkSl 2 encTip encTip_len)) zf109 zf123 z z underlying72 sz22 by22 ze22 z z (by decide) z z z (.inr ⟨_,0,z⟩) (by simpa using u44) (by decide) (fun a125 c126 zf127=> ?_))
 refine TL.w z (nilCheckLoc z z) (TL.w z (fieldLoc z fo80_0 z) (TL.front 2 z z (TL.op z (storeSl z sz72 z z z z z ?_))))
 refine TL.en (TC.a (TL.l z z (TL.w z (nilCheckLoc z z) (TL.w z (fieldLoc z fo80_0 z) (TL.w z (loadLoc z ag72 z (i:=0) z z) (TL.w z (lenC z underlying72 z) (TL.w z (subW z z z) (TL.i z z (TL.en (TC.ofSub (Sub.f [1,1] 2) (TC.ret ?_)))))))))))
 obtain rfl:=so hh
 exact ro [Res.cells b0_0 #[.slice a125 ((x0.rows++[x1]).length) c126,.int .i64 x0.most,.int .i64 x0.e] Eb0,Res.rowS 22 1 (pkSl 2 encTip encTip_len).en (.slice a125 (x0.rows++[x1]).length c126) (z0_3++([(x1,(a1_0,c1_0))]:List (List Tip×(pkSl 2 encTip encTip_len).P)))] z (RVs.tmp z RVs.nil) ⟨a125,c126,(z0_3++([(x1,(a1_0,c1_0))]:List (List Tip×(pkSl 2 encTip encTip_len).P))),z,zf127,z⟩
def Bh_(k140:Nat)(i146:Int)(s147:List UInt8)(t148:Bool):Option ((Int×(List UInt8)×Bool×Nat)⊕((Int×(List UInt8)×Bool×Nat)⊕((List UInt8)×Bool×RMaker))):=
 nxt (i146,s147,t148,(k140+1))
def Bi_(k140:Nat)(x2:List Tip)(k120:Nat)(x1:Fst)(i151:Int):Option ((Int×(List UInt8)×Bool×Nat)⊕((Int×(List UInt8)×Bool×Nat)⊕((List UInt8)×Bool×RMaker))):=
 Bh_ k140 i151 ((nth x2 k120 Tip.zero).out++(nth x1.ends k140 Tip.zero).out) true
def Ad_(x1:Fst)(x2:List Tip)(k120:Nat)(x0:RMaker)(i137:Int)(s138:List UInt8)(t139:Bool)(k140:Nat):Option ((Int×(List UInt8)×Bool×Nat)⊕((Int×(List UInt8)×Bool×Nat)⊕((List UInt8)×Bool×RMaker))):=
 iteO (decide (((k140:Nat):Int)<((x1.ends.length:Nat):Int))) (iteO (decide (((nth x1.ends k140 Tip.zero).state)≠((nth x2 k120 Tip.zero).state))) (Bh_ k140 i137 s138 t139) (grd (((nth x2 k120 Tip.zero).out).length+((nth x1.ends k140 Tip.zero).out).length≤9223372036854775807) (iteO t139 (iteO (decide (((nth x2 k120 Tip.zero).out++(nth x1.ends k140 Tip.zero).out)≠s138)) (bnd (Ae_ (⟨x0.rows,x0.most,i137⟩:RMaker) 12) (fun v49=>Bi_ k140 x2 k120 x1 v49.e)) (Bi_ k140 x2 k120 x1 i137)) (Bi_ k140 x2 k120 x1 i137)))) (fin (nxt (i137,s138,t139,(k120+1))))
def Bv_(s118:List UInt8)(t119:Bool)(x0:RMaker)(i164:Int):Option ((List UInt8)×Bool×RMaker):=
 some (s118,t119,(⟨x0.rows,x0.most,i164⟩:RMaker))
def Ai_(x2:List Tip)(x1:Fst)(x0:RMaker)(i117:Int)(s118:List UInt8)(t119:Bool)(k120:Nat):Option ((Int×(List UInt8)×Bool×Nat)⊕((List UInt8)×Bool×RMaker)):=
 iteO (decide (((k120:Nat):Int)<((x2.length:Nat):Int))) (iter (fun q:Int×(List UInt8)×Bool×Nat=>Ad_ x1 x2 k120 x0 q.1 q.2.1 q.2.2.1 q.2.2.2) (i117,s118,t119,0)) (fin (iteO (decide (4096<((s118.length:Nat):Int))) (bnd (Ae_ (⟨x0.rows,x0.most,i117⟩:RMaker) 2) (fun v63=>Bv_ s118 t119 x0 v63.e)) (Bv_ s118 t119 x0 i117)))
def Cd_(x0:RMaker)(x1:Fst)(x2:List Tip):Option ((List UInt8)×Bool×RMaker):=
 iter (fun q:Int×(List UInt8)×Bool×Nat=>Ai_ x2 x1 x0 q.1 q.2.1 q.2.2.1 q.2.2.2) (x0.e,([]:List UInt8),false,0)
theorem Fn_{x0:RMaker}{z0_3:List (List Tip×(pkSl 2 encTip encTip_len).P)}{x1:Fst}{x2:List Tip}(zf0_4:ZOk σ (pkSl 2 encTip encTip_len) z0_3 x0.rows)(f1_0:RS σ 2 encTip (.slice a1_0 x1.starts.length c1_0) x1.starts)(f1_1:RS σ 2 encTip (.slice a1_1 x1.ends.length c1_1) x1.ends)(f1_2:RS σ 8 encArc (.slice a1_2 x1.arcs.length c1_2) x1.arcs)(f2_0:RS σ 2 encTip (.slice a2_0 x2.length c2_0) x2){r:(List UInt8)×Bool×RMaker}(hh:Cd_ x0 x1 x2=some r):
  Con Tryz.prog 49 #[loc b0_0 0,.agg #[.int .i64 x1.states,.slice a1_0 x1.starts.length c1_0,.slice a1_1 x1.ends.length c1_1,.slice a1_2 x1.arcs.length c1_2],.slice a2_0 x2.length c2_0] σ [Res.cells b0_0 #[.slice a0_1 x0.rows.length c0_2,.int .i64 x0.most,.int .i64 x0.e] Eb0,Res.rowS 22 1 (pkSl 2 encTip encTip_len).en (.slice a0_1 x0.rows.length c0_2) z0_3] (fun v σ' H'=>v= .tuple #[.string (bs r.1),.bool r.2.1]∧σ=σ'∧H'=[Res.cells b0_0 #[.slice a0_1 x0.rows.length c0_2,.int .i64 x0.most,.int .i64 r.2.2.e] Eb0,Res.rowS 22 1 (pkSl 2 encTip encTip_len).en (.slice a0_1 x0.rows.length c0_2) z0_3]):=by
 dsimp only [Cd_]at hh
 have zf0_4b:=zf0_4.length
 have f1_0b:=f1_0.rv.big
 have f1_1b:=f1_1.rv.big
 have f1_2b:=f1_2.rv.big
 have f2_0b:=f2_0.rv.big
 refine Con.mk (n:=66) Tryz.func49 z z z (fun w0=> ?_)
 refine TC.a (TL.op z (boxA z z z z (fun b103=> ?_)))
 refine TL.w z (moveStr (.inr z) z) (TL.j z z (TL.en (TC.a (TL.w z (moveStr (.inr z) z) (TL.en (TC.a (TL.j z z (TL.en (TC.seq (TC.a (TL.i z z (TL.en (TC.block (TC.loopG (α:=(Int×(List UInt8)×Bool×Nat)×(Store)) (rgs [(8,51)]) (fun g=>[(8,.string (bs g.1.2.1)),(9,.bool g.1.2.2.1),(10,.int .i64 ((g.1.2.2.2:Nat):Int))]) (fun g=>[Res.cells b0_0 #[.slice a0_1 x0.rows.length c0_2,.int .i64 x0.most,.int .i64 g.1.1] Eb0,Res.rowS 22 1 (pkSl 2 encTip encTip_len).en (.slice a0_1 x0.rows.length c0_2) z0_3,Res.cells b103 #[.int .i64 x1.states,.slice a1_0 x1.starts.length c1_0,.slice a1_1 x1.ends.length c1_1,.slice a1_2 x1.arcs.length c1_2] 25]) (fun g=>g.2) (fun g=>iter (fun q:Int×(List UInt8)×Bool×Nat=>Ai_ x2 x1 x0 q.1 q.2.1 q.2.2.1 q.2.2.2) g.1=some r∧ZOk g.2 (pkSl 2 encTip encTip_len) z0_3 x0.rows∧Store.le σ g.2) (fun g=>rounds (fun q:Int×(List UInt8)×Bool×Nat=>Ai_ x2 x1 x0 q.1 q.2.1 q.2.2.1 q.2.2.2) g.1) ((x0.e,([]:List UInt8),false,0),σ) (Sub.f [2,2] 3) z (by repeat (first|exact trivial|refine ⟨z,?_⟩)) ⟨hh,zf0_4,(Store.le.refl _)⟩ (fun g1 j1 hg1=> ?_)))))))))))))))
 obtain ⟨⟨i117,s118,t119,k120⟩,τ121⟩:=g1
 obtain ⟨hh,zf116,hle122⟩:=hg1
 try dsimp only at zf116
 dsimp only at hle122
 replace f1_1:=f1_1.mono hle122
 replace f2_0:=f2_0.mono hle122
 try dsimp only
 obtain ⟨z1,hh,hR1⟩:=iter_e hh
 dsimp only [Ai_]at hh
 have zf116b:=zf116.length
 refine TC.isSl (i:=1) z (fun _ hb123 _=> ?_)
 refine TC.seq (TC.a (TL.i z z (TL.s z z (TL.w z (lenC z underlying22 z) (TL.w z (OpVal.lss z z z) (TL.en (TC.cD z hh (fun h124 hh=> ?_) (fun h124 hh=> ?_))))))))
 ·refine TC.skip (S.n (TC.seq (TC.block (TC.a (TL.i z z (TL.en (TC.block (TC.loopG (α:=(Int×(List UInt8)×Bool×Nat)×(Store)) (rgs [(8,2),(11,2),(19,40)]) (fun g=>[(8,.string (bs g.1.2.1)),(9,.bool g.1.2.2.1),(11,.int .i64 ((g.1.2.2.2:Nat):Int))]) (fun g=>[Res.cells b0_0 #[.slice a0_1 x0.rows.length c0_2,.int .i64 x0.most,.int .i64 g.1.1] Eb0,Res.rowS 22 1 (pkSl 2 encTip encTip_len).en (.slice a0_1 x0.rows.length c0_2) z0_3,Res.cells b103 #[.int .i64 x1.states,.slice a1_0 x1.starts.length c1_0,.slice a1_1 x1.ends.length c1_1,.slice a1_2 x1.arcs.length c1_2] 25]) (fun g=>g.2) (fun g=>iter (fun q:Int×(List UInt8)×Bool×Nat=>Ad_ x1 x2 k120 x0 q.1 q.2.1 q.2.2.1 q.2.2.2) g.1=some z1∧ZOk g.2 (pkSl 2 encTip encTip_len) z0_3 x0.rows∧Store.le τ121 g.2) (fun g=>rounds (fun q:Int×(List UInt8)×Bool×Nat=>Ad_ x1 x2 k120 x0 q.1 q.2.1 q.2.2.1 q.2.2.2) g.1) ((i117,s118,t119,0),τ121) (Sub.f [2,2,2] 3) z (by repeat (first|exact trivial|refine ⟨z,?_⟩)) ⟨hh,zf116,(Store.le.refl _)⟩ (fun g2 j2 hg2=> ?_)))))))))
  obtain ⟨⟨i137,s138,t139,k140⟩,τ141⟩:=g2
  obtain ⟨hh,zf136,hle142⟩:=hg2
  try dsimp only at zf136
  dsimp only at hle142
  replace f1_1:=f1_1.mono hle142
  replace f2_0:=f2_0.mono hle142
  replace zf116:=zf116.mono hle142
  try dsimp only
  obtain ⟨z2,hh,hR2⟩:=iter_e hh
  dsimp only [Ad_]at hh
  have zf136b:=zf136.length
  refine TC.isSl (i:=1) z (fun _ hb143 _=> ?_)
  refine TC.seq (TC.a (TL.i z z (TL.w z (fieldLoc z fo25_2 z) (TL.w z (loadLoc z ag22 z (i:=2) z z) (TL.w z (lenC z underlying22 z) (TL.w z (OpVal.lss z z z) (TL.en (TC.cD z hh (fun h144 hh=> ?_) (fun h144 hh=> ?_)))))))))
  ·refine TC.skip (S.n (TC.cutG (α:=(Int×(List UInt8)×Bool)×(Store)) (rgs [(8,2),(12,1),(26,33)]) (fun g=>[(8,.string (bs g.1.2.1)),(9,.bool g.1.2.2)]) (fun g=>[Res.cells b0_0 #[.slice a0_1 x0.rows.length c0_2,.int .i64 x0.most,.int .i64 g.1.1] Eb0,Res.rowS 22 1 (pkSl 2 encTip encTip_len).en (.slice a0_1 x0.rows.length c0_2) z0_3,Res.cells b103 #[.int .i64 x1.states,.slice a1_0 x1.starts.length c1_0,.slice a1_1 x1.ends.length c1_1,.slice a1_2 x1.arcs.length c1_2] 25]) (fun g=>g.2) (fun g=>Bh_ k140 g.1.1 g.1.2.1 g.1.2.2=some z2∧ZOk g.2 (pkSl 2 encTip encTip_len) z0_3 x0.rows∧Store.le τ141 g.2) ?_ (fun g j hg=> ?_)))
   ·skip
    refine TC.block (TC.seq (TC.seq (TC.draw [] (by kernel_rfl) (TA.a 0 z (fieldLoc z fo25_2 z) z (TA.b 1 z (loadLoc z ag22 z (i:=2) z z) z (TA.a 2 z (moveI (.inl z) z) z (TA.b 3 z (indexN z underlying22 sz76 z z f1_1.rv.sl (by omega)) z (TA.a 4 z (fieldElem z fo76_0 z f1_1.rv.sl (by omega)) z (TA.b 5 z (loadS Tip.zero z ag3 z f1_1 (by omega) (by omega) z) z (TA.a 6 z (moveSl (.inl z) z) z (TA.a 7 z (moveI (.inl z) z) z (TA.b 8 z (indexN z underlying22 sz76 z z f2_0.rv.sl (by omega)) z (TA.a 9 z (fieldElem z fo76_0 z f2_0.rv.sl (by omega)) z (TA.b 10 z (loadS Tip.zero z ag3 z f2_0 (by omega) (by omega) z) z (TA.a 11 z (OpVal.neq z z z) z ?_)))))))))))))))
    refine TA.dn (S.n (TC.cD z hh (fun h149 hh=> ?_) (fun h149 hh=> ?_)))
    ·exact TC.exit (S.x (TC.exitHere (S.n (cf ((i137,s138,t139),τ141) ⟨hh,zf136,(Store.le.refl _)⟩ (Sub.f [2,2,2] 3)))))
    refine TC.skip (S.n (TC.seq ?_))
    have u40:=grd_c hh
    replace hh:=grd_t hh
    refine TC.draw [] (by kernel_rfl) (TA.a 0 z (moveSl (.inl z) z) z (TA.a 1 z (moveI (.inl z) z) z (TA.b 2 z (indexN z underlying22 sz76 z z f2_0.rv.sl (by omega)) z (TA.a 3 z (fieldElem z fo76_1 z f2_0.rv.sl (by omega)) z (TA.b 4 z (loadS Tip.zero z ag9 z f2_0 (by omega) (by omega) z) z (TA.a 5 z (fieldLoc z fo25_2 z) z (TA.b 6 z (loadLoc z ag22 z (i:=2) z z) z (TA.a 7 z (moveI (.inl z) z) z (TA.b 8 z (indexN z underlying22 sz76 z z f1_1.rv.sl (by omega)) z (TA.a 9 z (fieldElem z fo76_1 z f1_1.rv.sl (by omega)) z (TA.b 10 z (loadS Tip.zero z ag9 z f1_1 (by omega) (by omega) z) z (TA.a 11 z (catBs z z z u40) z (TA.a 12 z (moveStr (.inr z) z) z (TA.dn (S.n ?_)))))))))))))))
    refine TC.cutG (α:=(Int)×(Store)) (rgs [(50,8)]) (fun g=>[]) (fun g=>[Res.cells b0_0 #[.slice a0_1 x0.rows.length c0_2,.int .i64 x0.most,.int .i64 g.1] Eb0,Res.rowS 22 1 (pkSl 2 encTip encTip_len).en (.slice a0_1 x0.rows.length c0_2) z0_3,Res.cells b103 #[.int .i64 x1.states,.slice a1_0 x1.starts.length c1_0,.slice a1_1 x1.ends.length c1_1,.slice a1_2 x1.arcs.length c1_2] 25]) (fun g=>g.2) (fun g=>Bi_ k140 x2 k120 x1 g.1=some z2∧ZOk g.2 (pkSl 2 encTip encTip_len) z0_3 x0.rows∧Store.le τ141 g.2) ?_ (fun g j hg=> ?_)
    ·skip
     refine TC.a (TL.j z z (TL.j z z (TL.split 51 z (fun h152=> ?_) (fun h152=> ?_))))
     ·replace hh:=iteO_t h152 hh
      refine TL.g z (moveStr (.inl z) z) (TL.g z (moveStr (.inl z) z) (TL.g z (neqBs z z z) (TL.w z (pickTB z z z) (TL.en (TC.cD z hh (fun h153 hh=> ?_) (fun h153 hh=> ?_))))))
      ·refine TC.region (TL.l z z (TL.front 1 z z (TL.front 1 z z ?_)))
       obtain ⟨v49,u49,hh⟩:=bnd_e hh
       refine TL.op z (OpOk.call (Bf_ (x0:=(⟨x0.rows,x0.most,i137⟩:RMaker)) zf136 u49) z z pf93 z z z z ?_)
       rintro _ _ _ hle154 ⟨rfl,rfl,rfl⟩
       exact TL.en (cf (v49.e,τ141) ⟨hh,zf136,(Store.le.refl _)⟩ (Sub.f [2,2,2] 3))
      exact TC.skip (S.n (cf (i137,τ141) ⟨hh,zf136,(Store.le.refl _)⟩ (Sub.f [2,2,2] 3)))
     replace hh:=iteO_f h152 hh
     exact TL.f z (TL.f z (TL.f z (TL.w z (pickFB z z z) (TL.en (TC.f z (TC.skip (S.n (cf (i137,τ141) ⟨hh,zf136,(Store.le.refl _)⟩ (Sub.f [2,2,2] 3)))))))))
    skip
    obtain ⟨i151,τ155⟩:=g
    obtain ⟨hh,zf150,hle156⟩:=hg
    try dsimp only at zf150
    dsimp only at hle156
    replace zf116:=zf116.mono hle156
    replace zf136:=zf136.mono hle156
    try dsimp only
    dsimp only [Bi_]at hh
    have zf150b:=zf150.length
    refine TC.isSl (i:=1) z (fun _ hb157 _=> ?_)
    exact TC.a (TL.w z (moveStr (.inl z) z) (TL.w z (moveStr (.inr z) z) (TL.en (TC.region (TL.j z z (TL.nil (B.n (S.n (cf ((i151,((nth x2 k120 Tip.zero).out++(nth x1.ends k140 Tip.zero).out),true),τ155) ⟨hh,zf150,hle156⟩ (Sub.f [2,2,2] 3))))))))))
   skip
   obtain ⟨⟨i146,s147,t148⟩,τ158⟩:=g
   obtain ⟨hh,zf145,hle159⟩:=hg
   try dsimp only at zf145
   dsimp only at hle159
   replace zf116:=zf116.mono hle159
   replace zf136:=zf136.mono hle159
   try dsimp only
   dsimp only [Bh_]at hh
   have zf145b:=zf145.length
   refine TC.isSl (i:=1) z (fun _ hb160 _=> ?_)
   refine TC.region (TL.i z z (TL.w z (OpVal.succ z z z (by omega)) (TL.i z z (TL.en ?_))))
   obtain ⟨hh,hlt161⟩:=nxt_x hR2 hh
   exact lf ((i146,s147,t148,(k140+1)),τ158) hlt161 ⟨hh,zf145,(hle142.trans hle159)⟩ (Sub.f [2,2,2] 3)
  refine TC.exit (S.x (S.x ?_))
  replace hh:=fin_x hR2 hh
  refine TC.exitHere (B.n (S.n (TC.region (TL.i z z (TL.w z (OpVal.succ z z z (by omega)) (TL.i z z (TL.en ?_)))))))
  obtain ⟨hh,hlt162⟩:=nxt_x hR1 hh
  exact lf ((i137,s138,t139,(k120+1)),τ141) hlt162 ⟨hh,zf136,(hle122.trans hle142)⟩ (Sub.f [2,2,2] 3)
 refine TC.exit (S.x (S.x ?_))
 replace hh:=fin_x hR1 hh
 refine TC.exitHere (S.n (TC.cutG (α:=(Int)×(Store)) [59,60,61,62,63] (fun g=>[]) (fun g=>[Res.cells b0_0 #[.slice a0_1 x0.rows.length c0_2,.int .i64 x0.most,.int .i64 g.1] Eb0,Res.rowS 22 1 (pkSl 2 encTip encTip_len).en (.slice a0_1 x0.rows.length c0_2) z0_3]) (fun g=>g.2) (fun g=>Bv_ s118 t119 x0 g.1=some r∧ZOk g.2 (pkSl 2 encTip encTip_len) z0_3 x0.rows∧Store.le τ121 g.2) ?_ (fun g j hg=> ?_)))
 ·skip
  refine TC.a (TL.w z (moveStr (.inl z) z) (TL.w z (lenBs z underlying9 z) (TL.w z (OpVal.gtr z z z) (TL.en (TC.cD z hh (fun h165 hh=> ?_) (fun h165 hh=> ?_))))))
  ·refine TC.region (TL.l z z (TL.front 1 z z (TL.front 1 z z ?_)))
   obtain ⟨v63,u63,hh⟩:=bnd_e hh
   refine TL.op z (OpOk.call (Bf_ (x0:=(⟨x0.rows,x0.most,i117⟩:RMaker)) zf116 u63) z z pf93 z z z z ?_)
   rintro _ _ _ hle166 ⟨rfl,rfl,rfl⟩
   exact TL.en (cf (v63.e,τ121) ⟨hh,zf116,(Store.le.refl _)⟩ (Sub.f [1,1] 2))
  exact TC.skip (S.n (cf (i117,τ121) ⟨hh,zf116,(Store.le.refl _)⟩ (Sub.f [1,1] 2)))
 skip
 obtain ⟨i164,τ167⟩:=g
 obtain ⟨hh,zf163,hle168⟩:=hg
 try dsimp only at zf163 hle168 ⊢
 dsimp only [Bv_]at hh
 have zf163b:=zf163.length
 refine TC.isSl (i:=1) z (fun _ hb169 _=> ?_)
 refine TC.a (TL.w z (moveStr (.inl z) z) (TL.j z z (TL.w z (moveStr (.inr z) z) (TL.j z z (TL.en (TC.back (TC.ret ?_)))))))
 obtain rfl:=so hh
 exact ro [Res.cells b0_0 #[.slice a0_1 x0.rows.length c0_2,.int .i64 x0.most,.int .i64 i164] Eb0,Res.rowS 22 1 (pkSl 2 encTip encTip_len).en (.slice a0_1 x0.rows.length c0_2) z0_3] z (RVs.tmp z (RVs.tmp z RVs.nil)) ⟨z,z,z⟩
def A5_(k132:Nat)(l135:List Tip):Option (((List Tip)×Nat)⊕(((List Tip)×Nat)⊕((List Tip)))):=
 nxt (l135,(k132+1))
def Cj_(l129:List Tip)(x0:Fst)(k132:Nat)(s142:List UInt8):Option (((List Tip)×Nat)⊕(((List Tip)×Nat)⊕((List Tip)))):=
 grd ((l129.length+[(⟨(nth x0.arcs k132 Arc.zero).to,s142⟩:Tip)].length) * 24≤140737488355328) (A5_ k132 (l129++[(⟨(nth x0.arcs k132 Arc.zero).to,s142⟩:Tip)]))
def Ao_(x0:Fst)(x1:List Tip)(k117:Nat)(x2:Int)(l129:List Tip)(k132:Nat):Option (((List Tip)×Nat)⊕(((List Tip)×Nat)⊕((List Tip)))):=
 iteO (decide (((k132:Nat):Int)<((x0.arcs.length:Nat):Int))) (iteO (decide (((nth x0.arcs k132 Arc.zero).frm)≠((nth x1 k117 Tip.zero).state))) (A5_ k132 l129) (grd (0≤x2∧x2<256) (iteO (!(((nth x0.arcs k132 Arc.zero).set).has x2.toNat)) (A5_ k132 l129) (grd (((nth x1 k117 Tip.zero).out).length+((nth x0.arcs k132 Arc.zero).out).length≤9223372036854775807) (iteO ((nth x0.arcs k132 Arc.zero).copy) (grd (((nth x1 k117 Tip.zero).out++(nth x0.arcs k132 Arc.zero).out).length+[(toU8 x2)].length≤9223372036854775807) (Cj_ l129 x0 k132 (((nth x1 k117 Tip.zero).out++(nth x0.arcs k132 Arc.zero).out)++[(toU8 x2)]))) (Cj_ l129 x0 k132 ((nth x1 k117 Tip.zero).out++(nth x0.arcs k132 Arc.zero).out))))))) (fin (nxt (l129,(k117+1))))
def As_(x1:List Tip)(x0:Fst)(x2:Int)(l114:List Tip)(k117:Nat):Option (((List Tip)×Nat)⊕((List Tip))):=
 iteO (decide (((k117:Nat):Int)<((x1.length:Nat):Int))) (iter (fun q:(List Tip)×Nat=>Ao_ x0 x1 k117 x2 q.1 q.2) (l114,0)) (fin (some l114))
def Db_(x0:Fst)(x1:List Tip)(x2:Int):Option ((List Tip)):=
 iter (fun q:(List Tip)×Nat=>As_ x1 x0 x2 q.1 q.2) (([]:List Tip),0)
def Gi_(σ:Store)(r:(List Tip)):Value→Store→List Res→Prop:=fun v σ' H'=>
 ∃a1 c1,v= .slice a1 r.length c1∧σ=σ'∧H'=[Res.rowS 76 2 encTip (.slice a1 r.length c1) r]
theorem F5_{x0:Fst}{x1:List Tip}{x2:Int}(f0_0:RS σ 2 encTip (.slice a0_0 x0.starts.length c0_0) x0.starts)(f0_1:RS σ 2 encTip (.slice a0_1 x0.ends.length c0_1) x0.ends)(f0_2:RS σ 8 encArc (.slice a0_2 x0.arcs.length c0_2) x0.arcs)(f1_0:RS σ 2 encTip (.slice a1_0 x1.length c1_0) x1){r:(List Tip)}(hh:Db_ x0 x1 x2=some r):
  Con Tryz.prog 50 #[.agg #[.int .i64 x0.states,.slice a0_0 x0.starts.length c0_0,.slice a0_1 x0.ends.length c0_1,.slice a0_2 x0.arcs.length c0_2],.slice a1_0 x1.length c1_0,.int .i64 x2] σ [] (Gi_ σ r):=by
 dsimp only [Db_]at hh
 have f0_0b:=f0_0.rv.big
 have f0_1b:=f0_1.rv.big
 have f0_2b:=f0_2.rv.big
 have f1_0b:=f1_0.rv.big
 refine Con.mk (n:=69) Tryz.func50 z z z (fun w0=> ?_)
 refine TC.a (TL.op z (boxA z z z z (fun b101=> ?_)))
 refine TL.s z z (TL.en (TC.a (TL.s z z (TL.en (TC.seq (TC.a (TL.i z z (TL.en (TC.block (TC.nilS 76 2 encTip (TC.loopG (α:=((List Tip)×Nat)×((Option Addr)×Nat)) (rgs [(7,61)]) (fun g=>[(7,.slice g.2.1 g.1.1.length g.2.2),(8,.int .i64 ((g.1.2:Nat):Int))]) (fun g=>[Res.cells b101 #[.int .i64 x0.states,.slice a0_0 x0.starts.length c0_0,.slice a0_1 x0.ends.length c0_1,.slice a0_2 x0.arcs.length c0_2] 25,Res.rowS 76 2 encTip (.slice g.2.1 g.1.1.length g.2.2) g.1.1]) (fun g=>σ) (fun g=>iter (fun q:(List Tip)×Nat=>As_ x1 x0 x2 q.1 q.2) g.1=some r) (fun g=>rounds (fun q:(List Tip)×Nat=>As_ x1 x0 x2 q.1 q.2) g.1) ((([]:List Tip),0),(none,0)) (Sub.f [1] 2) z (by repeat (first|exact trivial|refine ⟨z,?_⟩)) hh (fun g1 j1 hg1=> ?_))))))))))))
 obtain ⟨⟨l114,k117⟩,⟨a115,c116⟩⟩:=g1
 have hh:=hg1;clear hg1
 try dsimp only
 obtain ⟨z1,hh,hR1⟩:=iter_e hh
 dsimp only [As_]at hh
 refine TC.isSl (i:=1) z (fun _ hb119 _=> ?_)
 refine TC.seq (TC.a (TL.i z z (TL.s z z (TL.w z (lenC z underlying22 z) (TL.w z (OpVal.lss z z z) (TL.en (TC.cD z hh (fun h120 hh=> ?_) (fun h120 hh=> ?_))))))))
 ·refine TC.skip (S.n (TC.seq (TC.block (TC.a (TL.i z z (TL.en (TC.block (TC.loopG (α:=((List Tip)×Nat)×((Option Addr)×Nat)) (rgs [(7,1),(9,3),(18,50)]) (fun g=>[(7,.slice g.2.1 g.1.1.length g.2.2),(9,.int .i64 ((g.1.2:Nat):Int))]) (fun g=>[Res.cells b101 #[.int .i64 x0.states,.slice a0_0 x0.starts.length c0_0,.slice a0_1 x0.ends.length c0_1,.slice a0_2 x0.arcs.length c0_2] 25,Res.rowS 76 2 encTip (.slice g.2.1 g.1.1.length g.2.2) g.1.1]) (fun g=>σ) (fun g=>iter (fun q:(List Tip)×Nat=>Ao_ x0 x1 k117 x2 q.1 q.2) g.1=some z1) (fun g=>rounds (fun q:(List Tip)×Nat=>Ao_ x0 x1 k117 x2 q.1 q.2) g.1) ((l114,0),(a115,c116)) (Sub.f [1,1] 2) z (by repeat (first|exact trivial|refine ⟨z,?_⟩)) hh (fun g2 j2 hg2=> ?_)))))))))
  obtain ⟨⟨l129,k132⟩,⟨a130,c131⟩⟩:=g2
  have hh:=hg2;clear hg2
  try dsimp only
  obtain ⟨z2,hh,hR2⟩:=iter_e hh
  dsimp only [Ao_]at hh
  refine TC.isSl (i:=1) z (fun _ hb133 _=> ?_)
  refine TC.seq (TC.a (TL.i z z (TL.w z (fieldLoc z fo25_3 z) (TL.w z (loadLoc z ag23 z (i:=0) z z) (TL.w z (lenC z underlying23 z) (TL.w z (OpVal.lss z z z) (TL.en (TC.cD z hh (fun h134 hh=> ?_) (fun h134 hh=> ?_)))))))))
  ·refine TC.skip (S.n (TC.cutG (α:=((List Tip))×((Option Addr)×Nat)) (rgs [(7,1),(10,2),(25,43)]) (fun g=>[(7,.slice g.2.1 g.1.length g.2.2)]) (fun g=>[Res.cells b101 #[.int .i64 x0.states,.slice a0_0 x0.starts.length c0_0,.slice a0_1 x0.ends.length c0_1,.slice a0_2 x0.arcs.length c0_2] 25,Res.rowS 76 2 encTip (.slice g.2.1 g.1.length g.2.2) g.1]) (fun g=>σ) (fun g=>A5_ k132 g.1=some z2) ?_ (fun g j hg=> ?_)))
   ·skip
    refine TC.block (TC.a (TL.w z (fieldLoc z fo25_3 z) (TL.w z (loadLoc z ag23 z (i:=0) z z) (TL.i z z (TL.w z (indexN z underlying23 sz66 z z f0_2.rv.sl (by omega)) (TL.w z (loadSA Arc.zero z ag66 sz66 z f0_2 (by omega) (by omega)) (TL.op z (OpOk.alloc z ze66 z z (fun b138=> ?_)))))))))
    refine TL.op z (storeAll z sz66 z z z z z z ?_)
    refine TL.en (TC.seq (TC.seq (TC.draw [] (by kernel_rfl) (TA.a 0 z (fieldLoc z fo66_0 z) z (TA.b 1 z (loadLoc z ag3 z (i:=0) z z) z (TA.a 2 z (moveSl (.inl z) z) z (TA.a 3 z (moveI (.inl z) z) z (TA.b 4 z (indexN z underlying22 sz76 z z f1_0.rv.sl (by omega)) z (TA.a 5 z (fieldElem z fo76_0 z f1_0.rv.sl (by omega)) z (TA.b 6 z (loadS Tip.zero z ag3 z f1_0 (by omega) (by omega) z) z (TA.a 7 z (OpVal.neq z z z) z (TA.a 8 z (moveB (.inl z) z) z (TA.split 38 z (fun h140=> ?_) (fun h140=> ?_))))))))))))))
    ·replace hh:=iteO_t h140 hh
     replace h140:=of_decide_eq_true h140
     exact TA.off 9 z z z z z z (TA.off 10 z z z z z z (TA.off 11 z z z z z z (TA.off 12 z z z z z z (TA.off 13 z z z z z z (TA.a 14 z (pickTB z z z) z (TA.dn (S.n (TC.t z (TC.exit (S.x (TC.exitHere (S.n (cf (l129,(a130,c131)) hh (Sub.f [2,2] 2))))))))))))))
    replace hh:=iteO_f h140 hh
    replace h140:=of_decide_eq_false h140
    refine TA.on 9 z z z z (fieldLoc z fo66_2 z) z (TA.on 10 z z z z (loadLocA z ag64 sz64 z (i:=0) z z z) z (TA.on 11 z z z z (moveI (.inl z) z) z ?_))
    have u34:=grd_c hh
    replace hh:=grd_t hh
    refine TA.actOn 12 (by kernel_rfl) z z z z z z (callP (rhas_conI ((nth x0.arcs k132 Arc.zero).set) u34) z z pf82 z z z (k0 ?_))
    refine TA.on 13 z z z z (OpVal.not z z) z (TA.a 14 z (pickFB z z z) z (TA.dn (S.n (TC.cB z hh (fun h141 hh=> ?_) (fun h141 hh=> ?_)))))
    ·exact TC.exit (S.x (TC.exitHere (S.n (cf (l129,(a130,c131)) hh (Sub.f [2,2] 2)))))
    refine TC.skip (S.n (TC.seq ?_))
    have u44:=grd_c hh
    replace hh:=grd_t hh
    refine TC.draw [] (by kernel_rfl) (TA.a 0 z (moveSl (.inl z) z) z (TA.a 1 z (moveI (.inl z) z) z (TA.b 2 z (indexN z underlying22 sz76 z z f1_0.rv.sl (by omega)) z (TA.a 3 z (fieldElem z fo76_1 z f1_0.rv.sl (by omega)) z (TA.b 4 z (loadS Tip.zero z ag9 z f1_0 (by omega) (by omega) z) z (TA.a 5 z (fieldLoc z fo66_3 z) z (TA.b 6 z (loadLoc z ag9 z (i:=0) z z) z (TA.a 7 z (catBs z z z u44) z (TA.a 8 z (moveStr (.inr z) z) z (TA.dn (S.n (TC.cutG (α:=((List UInt8))×(Unit)) (rgs [(11,1),(53,8)]) (fun g=>[(11,.string (bs g.1))]) (fun g=>[Res.cells b101 #[.int .i64 x0.states,.slice a0_0 x0.starts.length c0_0,.slice a0_1 x0.ends.length c0_1,.slice a0_2 x0.arcs.length c0_2] 25,Res.rowS 76 2 encTip (.slice a130 l129.length c131) l129,Res.cells b138 #[.int .i64 ((nth x0.arcs k132 Arc.zero).frm),.int .i64 ((nth x0.arcs k132 Arc.zero).to),.int .u64 ((((nth x0.arcs k132 Arc.zero).set).a:Nat):Int),.int .u64 ((((nth x0.arcs k132 Arc.zero).set).b:Nat):Int),.int .u64 ((((nth x0.arcs k132 Arc.zero).set).c:Nat):Int),.int .u64 ((((nth x0.arcs k132 Arc.zero).set).d:Nat):Int),.string (bs ((nth x0.arcs k132 Arc.zero).out)),.bool ((nth x0.arcs k132 Arc.zero).copy)] 66]) (fun g=>σ) (fun g=>Cj_ l129 x0 k132 g.1=some z2) ?_ (fun g j hg=> ?_)))))))))))))
    ·skip
     refine TC.a (TL.w z (fieldLoc z fo66_4 z) (TL.w z (loadLoc z ag4 z (i:=0) z z) (TL.en (TC.cB z hh (fun h143 hh=> ?_) (fun h143 hh=> ?_)))))
     ·refine TC.region (TL.w z (moveStr (.inl z) z) (TL.i z z (TL.w z (convU8 z underlying3 underlying5 z) (TL.op z (OpOk.lit (enc:=encU8) [(toU8 x2)] z underlying60 sz5 ze5 z z z encU8_len (by decide) (by decide) (0:UInt8) z (by decide) z (by decide) encU8_one (fun a144 c145=> ?_))))))
      refine TL.isSl (i:=0) z (fun hs147 _ _=> ?_)
      refine TL.w z (bytesStr (l:=[(toU8 x2)]) z underlying60 underlying5 underlying9 z hs147 (fun w hw=>rdb_row (q:=0) z hw)) ?_
      have u53:=grd_c hh
      replace hh:=grd_t hh
      exact TL.w z (catBs z z z u53) (TL.w z (moveStr (.inr z) z) (TL.en (cf ((((nth x1 k117 Tip.zero).out++(nth x0.arcs k132 Arc.zero).out)++[(toU8 x2)]),()) hh (Sub.f [1,3,3] 3))))
     exact TC.skip (S.n (cf (((nth x1 k117 Tip.zero).out++(nth x0.arcs k132 Arc.zero).out),()) hh (Sub.f [2,2] 3)))
    skip
    obtain ⟨s142,_⟩:=g
    have hh:=hg;clear hg
    try dsimp only
    dsimp only [Cj_]at hh
    refine TC.isSl (i:=1) z (fun _ hb148 _=> ?_)
    refine TC.region (TL.s z z (TL.w z (fieldLoc z fo66_1 z) (TL.w z (loadLoc z ag3 z (i:=2) z z) (TL.w z (moveStr (.inl z) z) (TL.w z (buildL z pl76 ze76 z) (TL.op z (OpOk.lit (enc:=encTip) [(⟨(nth x0.arcs k132 Arc.zero).to,s142⟩:Tip)] z underlying22 sz76 ze76 z z z encTip_len (by decide) (by decide) Tip.zero z (by decide) z (by decide) encTip_one (fun a149 c150=> ?_))))))))
    refine TL.front 2 z z ?_
    have u61:=grd_c hh
    replace hh:=grd_t hh
    refine TL.op z (appendS z z underlying22 sz76 by76 ze76 z z (by decide) z z z (.inr ⟨_,0,z⟩) (by simpa using u61) (by decide) (fun a152 c153=> ?_))
    exact TL.s z z (TL.nil (B.n (S.n (cf ((l129++[(⟨(nth x0.arcs k132 Arc.zero).to,s142⟩:Tip)]),(a152,c153)) hh (Sub.f [2] 2)))))
   skip
   obtain ⟨l135,⟨a136,c137⟩⟩:=g
   have hh:=hg;clear hg
   try dsimp only
   dsimp only [A5_]at hh
   refine TC.isSl (i:=1) z (fun _ hb154 _=> ?_)
   refine TC.region (TL.i z z (TL.w z (OpVal.succ z z z (by omega)) (TL.i z z (TL.en ?_))))
   obtain ⟨hh,hlt155⟩:=nxt_x hR2 hh
   exact lf ((l135,(k132+1)),(a136,c137)) hlt155 hh (Sub.f [1,1] 2)
  refine TC.exit (S.x (S.x ?_))
  replace hh:=fin_x hR2 hh
  refine TC.exitHere (B.n (S.n (TC.region (TL.i z z (TL.w z (OpVal.succ z z z (by omega)) (TL.i z z (TL.en ?_)))))))
  obtain ⟨hh,hlt156⟩:=nxt_x hR1 hh
  exact lf ((l129,(k117+1)),(a130,c131)) hlt156 hh (Sub.f [1,1] 2)
 refine TC.exit (S.x (S.x ?_))
 replace hh:=fin_x hR1 hh
 refine TC.exitHere (S.n (TC.a (TL.s z z (TL.s z z (TL.en (TC.ofSub (Sub.f [1] 1) (TC.ret ?_)))))))
 obtain rfl:=so hh
 exact ro [Res.rowS 76 2 encTip (.slice a115 l114.length c116) l114] z (RVs.tmp z RVs.nil) ⟨a115,c116,z,z,z⟩
def Ct_(k309:Nat)(l322:List (List Tip))(i327:Int)(l330:List Int)(l332:List (List UInt8)):Option (((List (List Tip))×Int×(List Int)×(List (List UInt8))×Nat)⊕(((List (List Tip))×Int×(List (List Int))×(List (List (List UInt8)))×(List Bool)×(List (List UInt8))×Nat)⊕(Seq×Int))):=
 nxt (l322,i327,l330,l332,(k309+1))
def B8_(l206:List (List Int))(l212:List (List (List UInt8)))(l218:List Bool)(v75:(List UInt8)×Bool×RMaker)(l222:List (List UInt8))(k225:Nat)(l253:List (List Tip))(i258:Int)(l261:List Int)(l263:List (List UInt8)):Option (((List (List Tip))×Int×(List (List Int))×(List (List (List UInt8)))×(List Bool)×(List (List UInt8))×Nat)⊕(Seq×Int)):=
 grd ((l206.length+[l261].length) * 24≤140737488355328) (grd ((l212.length+[l263].length) * 24≤140737488355328) (grd ((l218.length+[v75.2.1].length) * 1≤140737488355328) (grd ((l222.length+[v75.1].length) * 16≤140737488355328) (nxt (l253,i258,(l206++[l261]),(l212++[l263]),(l218++[v75.2.1]),(l222++[v75.1]),(k225+1))))))
def Ac_(k225:Nat)(v5:Fst×Int)(x1:Int)(l206:List (List Int))(l212:List (List (List UInt8)))(l218:List Bool)(v75:(List UInt8)×Bool×RMaker)(l222:List (List UInt8))(l297:List (List Tip))(i302:Int)(l305:List Int)(l307:List (List UInt8))(k309:Nat):Option (((List (List Tip))×Int×(List Int)×(List (List UInt8))×Nat)⊕(((List (List Tip))×Int×(List (List Int))×(List (List (List UInt8)))×(List Bool)×(List (List UInt8))×Nat)⊕(Seq×Int))):=
 iteO (decide (((k309:Nat):Int)<256)) (iteO (decide (i302=0)) (grd (k309<l305.length) (grd (k225<l297.length) (bnd (Db_ v5.1 (nth l297 k225 ([]:List Tip)) ((k309:Nat):Int)) (fun v108=>iteO (decide (0<((v108.length:Nat):Int))) (bnd (Bw_ (⟨l297,x1,i302⟩:RMaker) v108) (fun v115=>iteO (decide (v115.2.2.e=0)) (bnd (Aa_ (⟨l297,x1,v115.2.2.e⟩:RMaker) v115.1) (fun v130=>grd (k309<(l305.set k309 (-1)).length) (grd (k309<l307.length) (Ct_ k309 v130.2.rows v130.2.e ((l305.set k309 (-1)).set k309 v130.1) (l307.set k309 v115.2.1))))) (Ct_ k309 l297 v115.2.2.e (l305.set k309 (-1)) l307))) (Ct_ k309 l297 i302 (l305.set k309 (-1)) l307))))) (fin (B8_ l206 l212 l218 v75 l222 k225 l297 i302 l305 l307))) (fin (B8_ l206 l212 l218 v75 l222 k225 l297 i302 l305 l307))
def Cv_(v38:(List Tip)×(List UInt8)×RMaker)(l119:List (List Tip))(i124:Int)(l125:List (List Int))(l130:List (List (List UInt8)))(l135:List Bool)(l138:List (List UInt8)):Option (Seq×Int):=
 iteO (decide (i124≠0)) (some ((⟨([]:List UInt8),([]:List (List Int)),([]:List (List (List UInt8))),([]:List Bool),([]:List (List UInt8))⟩:Seq),i124)) (some ((⟨v38.2.1,l125,l130,l135,l138⟩:Seq),0))
def Ah_(x1:Int)(v5:Fst×Int)(v38:(List Tip)×(List UInt8)×RMaker)(l199:List (List Tip))(i204:Int)(l206:List (List Int))(l212:List (List (List UInt8)))(l218:List Bool)(l222:List (List UInt8))(k225:Nat):Option (((List (List Tip))×Int×(List (List Int))×(List (List (List UInt8)))×(List Bool)×(List (List UInt8))×Nat)⊕(Seq×Int)):=
 iteO (decide (((k225:Nat):Int)<((l199.length:Nat):Int))) (iteO (decide (i204=0)) (bnd (Cd_ (⟨l199,x1,i204⟩:RMaker) v5.1 (nth l199 k225 ([]:List Tip))) (fun v75=>iter (fun q:(List (List Tip))×Int×(List Int)×(List (List UInt8))×Nat=>Ac_ k225 v5 x1 l206 l212 l218 v75 l222 q.1 q.2.1 q.2.2.1 q.2.2.2.1 q.2.2.2.2) (l199,v75.2.2.e,(List.replicate 256 (0:Int)),(List.replicate 256 ([]:List UInt8)),0))) (fin (Cv_ v38 l199 i204 l206 l212 l218 l222))) (fin (Cv_ v38 l199 i204 l206 l212 l218 l222))
def D6_(x0:Fst)(x1:Int):Option (Seq×Int):=
 bnd (Dq_ x0) (fun v5=>iteO (decide (v5.2≠0)) (some ((⟨([]:List UInt8),([]:List (List Int)),([]:List (List (List UInt8))),([]:List Bool),([]:List (List UInt8))⟩:Seq),1)) (iteO (decide (x1<1)) (some ((⟨([]:List UInt8),([]:List (List Int)),([]:List (List (List UInt8))),([]:List Bool),([]:List (List UInt8))⟩:Seq),1)) (iteO (decide (1024<x1)) (some ((⟨([]:List UInt8),([]:List (List Int)),([]:List (List (List UInt8))),([]:List Bool),([]:List (List UInt8))⟩:Seq),1)) (iteO (decide (((v5.1.starts.length:Nat):Int)=0)) (some ((⟨([]:List UInt8),([]:List (List Int)),([]:List (List (List UInt8))),([]:List Bool),([]:List (List UInt8))⟩:Seq),0)) (bnd (Bw_ (⟨([]:List (List Tip)),x1,0⟩:RMaker) v5.1.starts) (fun v38=>bnd (Aa_ (⟨([]:List (List Tip)),x1,v38.2.2.e⟩:RMaker) v38.1) (fun v46=>iter (fun q:(List (List Tip))×Int×(List (List Int))×(List (List (List UInt8)))×(List Bool)×(List (List UInt8))×Nat=>Ah_ x1 v5 v38 q.1 q.2.1 q.2.2.1 q.2.2.2.1 q.2.2.2.2.1 q.2.2.2.2.2.1 q.2.2.2.2.2.2) (v46.2.rows,v46.2.e,([]:List (List Int)),([]:List (List (List UInt8))),([]:List Bool),([]:List (List UInt8)),0))))))))
def Ha_(σ:Store)(r:Seq×Int):Value→Store→List Res→Prop:=fun v σ' H'=>
 ∃a1 c1 a2 c2 a3 c3 a4 c4,v= .tuple #[.agg #[.string (bs r.1.front),.slice a1 r.1.next.length c1,.slice a2 r.1.outs.length c2,.slice a3 r.1.fin.length c3,.slice a4 r.1.tail.length c4],.int .i64 r.2]∧RZ σ' (pkSl 1 eI_ eIl_) (.slice a1 r.1.next.length c1) r.1.next∧RZ σ' (pkSl 1 eS_ eSl_) (.slice a2 r.1.outs.length c2) r.1.outs∧RS σ' 1 encB (.slice a3 r.1.fin.length c3) r.1.fin∧RS σ' 1 eS_ (.slice a4 r.1.tail.length c4) r.1.tail∧H'=[]
theorem Gz_ {σ : Store} {x0 : Fst} {a0_0 : Option Addr} {c0_0 : Nat} {a0_1 : Option Addr} {c0_1 : Nat} {a0_2 : Option Addr} {c0_2 : Nat} {x1 : Int} (f0_0 : RS σ 2 encTip (.slice a0_0 x0.starts.length c0_0) x0.starts) (f0_1 : RS σ 2 encTip (.slice a0_1 x0.ends.length c0_1) x0.ends) (f0_2 : RS σ 8 encArc (.slice a0_2 x0.arcs.length c0_2) x0.arcs) {r : Seq × Int} (hh : D6_ x0 x1 = some r) :
  Con Tryz.prog 15 #[.agg #[.int .i64 x0.states,.slice a0_0 x0.starts.length c0_0,.slice a0_1 x0.ends.length c0_1,.slice a0_2 x0.arcs.length c0_2],.int .i64 x1] σ [] (Ha_ σ r):=by
 dsimp only [D6_]at hh
 have f0_0b:=f0_0.rv.big
 have f0_1b:=f0_1.rv.big
 have f0_2b:=f0_2.rv.big
 refine Con.mk (n:=170) Tryz.func15 z z z (fun w0=> ?_)
 refine TC.a (TL.op z (boxA z z z z (fun b101=> ?_)))
 refine TL.op z (OpOk.alloc z ze32 z z (fun b103=> ?_))
 refine TL.i z z (TL.en (TC.a (TL.w z (loadAll z ag25 sz25 z (i:=1) z z) ?_)))
 obtain ⟨v5,u5,hh⟩:=bnd_e hh
 refine TL.op z (OpOk.call (Gm_ (x0:=x0) f0_0 f0_1 f0_2 u5) z z pf46 z z z z ?_)
 rintro _ τ105 _ hle105 ⟨a105_1,c105_1,a105_2,c105_2,a105_3,c105_3,rfl,hr105_0,hr105_1,hr105_2,rfl⟩
 have hr105_0b:=hr105_0.rv.big
 have hr105_1b:=hr105_1.rv.big
 have hr105_2b:=hr105_2.rv.big
 refine TL.w z (moveT (.inl z) z) (TL.w z (OpVal.extract z z z) (TL.w z (OpVal.extract z z z) (TL.front 1 z z (TL.op z (storeAll z sz25 z z z z z z ?_)))))
 refine TL.i z z (TL.en (TC.seq (TC.a (TL.i z z (TL.w z (OpVal.neq z z z) (TL.j z z (TL.split 27 z (fun h106=> ?_) (fun h106=> ?_))))))))
 ·replace hh:=iteO_t h106 hh
  replace h106:=of_decide_eq_true h106
  refine TL.f z (TL.f z (TL.w z (pickTB z z z) (TL.j z z (TL.f z (TL.f z (TL.w z (pickTB z z z) (TL.en (TC.t z (TC.a (TL.w z (buildL z pl32 ze32 z) (TL.front 1 z z (TL.op z (storeAll z sz32 z z z z z z ?_)))))))))))))
  refine TL.i z z (TL.en (TC.rt 1 (S.r ?_)))
  obtain rfl:=so hh
  exact ro [] z (RVs.agg ag32 sz32 z (i:=0) z z (RVs.tmp z RVs.nil)) ⟨none,0,none,0,none,0,none,0,z,(RZ.nilF _ (pkSl 1 eI_ eIl_)),(RZ.nilF _ (pkSl 1 eS_ eSl_)),(RS.nilF _ encB encB_len),(RS.nilF _ eS_ eSl_),z⟩
 replace hh:=iteO_f h106 hh
 replace h106:=of_decide_eq_false h106
 refine TL.g z (moveI (.inl z) z) (TL.g z (OpVal.lss z z z) (TL.w z (pickFB z z z) (TL.j z z (TL.split 31 z (fun h107=> ?_) (fun h107=> ?_)))))
 ·replace hh:=iteO_t h107 hh
  replace h107:=of_decide_eq_true h107
  refine TL.f z (TL.f z (TL.w z (pickTB z z z) (TL.en (TC.t z (TC.a (TL.w z (buildL z pl32 ze32 z) (TL.front 1 z z (TL.op z (storeAll z sz32 z z z z z z ?_)))))))))
  refine TL.i z z (TL.en (TC.rt 1 (S.r ?_)))
  obtain rfl:=so hh
  exact ro [] z (RVs.agg ag32 sz32 z (i:=0) z z (RVs.tmp z RVs.nil)) ⟨none,0,none,0,none,0,none,0,z,(RZ.nilF _ (pkSl 1 eI_ eIl_)),(RZ.nilF _ (pkSl 1 eS_ eSl_)),(RS.nilF _ encB encB_len),(RS.nilF _ eS_ eSl_),z⟩
 replace hh:=iteO_f h107 hh
 replace h107:=of_decide_eq_false h107
 refine TL.g z (moveI (.inl z) z) (TL.g z (OpVal.gtr z z z) (TL.w z (pickFB z z z) (TL.en (TC.cD z hh (fun h108 hh=> ?_) (fun h108 hh=> ?_)))))
 ·refine TC.a (TL.w z (buildL z pl32 ze32 z) (TL.front 1 z z (TL.op z (storeAll z sz32 z z z z z z ?_))))
  refine TL.i z z (TL.en (TC.rt 1 (S.r ?_)))
  obtain rfl:=so hh
  exact ro [] z (RVs.agg ag32 sz32 z (i:=0) z z (RVs.tmp z RVs.nil)) ⟨none,0,none,0,none,0,none,0,z,(RZ.nilF _ (pkSl 1 eI_ eIl_)),(RZ.nilF _ (pkSl 1 eS_ eSl_)),(RS.nilF _ encB encB_len),(RS.nilF _ eS_ eSl_),z⟩
 refine TC.skip (S.n (TC.seq (TC.a (TL.w z (fieldLoc z fo25_1 z) (TL.w z (loadLoc z ag22 z (i:=0) z z) (TL.w z (lenC z underlying22 z) (TL.w z (OpVal.eql z z z) (TL.en (TC.cD z hh (fun h109 hh=> ?_) (fun h109 hh=> ?_))))))))))
 ·refine TC.a (TL.w z (buildL z pl32 ze32 z) (TL.front 1 z z (TL.op z (storeAll z sz32 z z z z z z ?_))))
  refine TL.i z z (TL.en (TC.rt 1 (S.r ?_)))
  obtain rfl:=so hh
  exact ro [] z (RVs.agg ag32 sz32 z (i:=0) z z (RVs.tmp z RVs.nil)) ⟨none,0,none,0,none,0,none,0,z,(RZ.nilF _ (pkSl 1 eI_ eIl_)),(RZ.nilF _ (pkSl 1 eS_ eSl_)),(RS.nilF _ encB encB_len),(RS.nilF _ eS_ eSl_),z⟩
 refine TC.skip (S.n (TC.a (TL.i z z (TL.w z (buildL z pl80 ze80 z) (TL.op z (boxA z z z z (fun b110=> ?_)))))))
 refine TL.l z z (TL.en (TC.a (TL.l z z (TL.w z (fieldLoc z fo25_1 z) (TL.w z (loadLoc z ag22 z (i:=1) z z) (TL.nilS 22 1 (pkSl 2 encTip encTip_len).en ?_))))))
 have zf112:=ZOk.nil τ105 (pkSl 2 encTip encTip_len)
 refine TL.front 1 z z ?_
 obtain ⟨v38,u38,hh⟩:=bnd_e hh
 refine TL.op z (OpOk.call (Ej_ (x0:=(⟨([]:List (List Tip)),x1,0⟩:RMaker)) zf112 hr105_0 u38) z z pf47 z z z z ?_)
 rintro _ τ114 _ hle114 ⟨a114_1,c114_2,rfl,hr114_3,rfl⟩
 replace hr105_0:=hr105_0.mono hle114
 replace hr105_1:=hr105_1.mono hle114
 replace hr105_2:=hr105_2.mono hle114
 replace zf112:=zf112.mono hle114
 have hr114_3b:=hr114_3.rv.big
 refine TL.w z (moveT (.inl z) z) (TL.w z (OpVal.extract z z z) (TL.w z (OpVal.extract z z z) (TL.s z z (TL.w z (moveStr (.inr z) z) (TL.en (TC.a (TL.l z z (TL.s z z (TL.front 1 z z (TL.front 1 z z ?_))))))))))
 obtain ⟨v46,u46,hh⟩:=bnd_e hh
 refine TL.op z (OpOk.call (Ea_ (x0:=(⟨([]:List (List Tip)),x1,v38.2.2.e⟩:RMaker)) zf112 hr114_3 u46) z z pf48 z z z z ?_)
 rintro _ τ115 _ hle115 ⟨a115_1,c115_2,z115_3,rfl,zf115_4,rfl⟩
 replace hr105_0:=hr105_0.mono hle115
 replace hr105_1:=hr105_1.mono hle115
 replace hr105_2:=hr105_2.mono hle115
 have zf115_4b:=zf115_4.length
 refine TL.en (TC.a (TL.w z (moveStr (.inl z) z) (TL.w z (buildL z pl32 ze32 z) (TL.op z (OpOk.alloc z ze32 z z (fun b117=> ?_))))))
 refine TL.op z (storeAll z sz32 z z z z z z ?_)
 refine TL.en (TC.cutG (α:=((List (List Tip))×Int×(List (List Int))×(List (List (List UInt8)))×(List Bool)×(List (List UInt8)))×((Option Addr)×Nat×(List (List Tip×(pkSl 2 encTip encTip_len).P))×(Option Addr)×Nat×(List (List Int×(pkSl 1 eI_ eIl_).P))×(Option Addr)×Nat×(List (List (List UInt8)×(pkSl 1 eS_ eSl_).P))×(Option Addr)×Nat×(Option Addr)×Nat×Store)) (rgs [(11,9),(56,103)]) (fun g=>[]) (fun g=>[Res.cells b103 #[.string (bs ([]:List UInt8)),.slice none 0 0,.slice none 0 0,.slice none 0 0,.slice none 0 0] 32,Res.cells b110 #[.slice g.2.1 g.1.1.length g.2.2.1,.int .i64 x1,.int .i64 g.1.2.1] 80,Res.rowS 22 1 (pkSl 2 encTip encTip_len).en (.slice g.2.1 g.1.1.length g.2.2.1) g.2.2.2.1,Res.cells b117 #[.string (bs v38.2.1),.slice g.2.2.2.2.1 g.1.2.2.1.length g.2.2.2.2.2.1,.slice g.2.2.2.2.2.2.2.1 g.1.2.2.2.1.length g.2.2.2.2.2.2.2.2.1,.slice g.2.2.2.2.2.2.2.2.2.2.1 g.1.2.2.2.2.1.length g.2.2.2.2.2.2.2.2.2.2.2.1,.slice g.2.2.2.2.2.2.2.2.2.2.2.2.1 g.1.2.2.2.2.2.length g.2.2.2.2.2.2.2.2.2.2.2.2.2.1] 32,Res.rowS 86 1 (pkSl 1 eI_ eIl_).en (.slice g.2.2.2.2.1 g.1.2.2.1.length g.2.2.2.2.2.1) g.2.2.2.2.2.2.1,Res.rowS 30 1 (pkSl 1 eS_ eSl_).en (.slice g.2.2.2.2.2.2.2.1 g.1.2.2.2.1.length g.2.2.2.2.2.2.2.2.1) g.2.2.2.2.2.2.2.2.2.1,Res.rowS 4 1 encB (.slice g.2.2.2.2.2.2.2.2.2.2.1 g.1.2.2.2.2.1.length g.2.2.2.2.2.2.2.2.2.2.2.1) g.1.2.2.2.2.1,Res.rowS 9 1 eS_ (.slice g.2.2.2.2.2.2.2.2.2.2.2.2.1 g.1.2.2.2.2.2.length g.2.2.2.2.2.2.2.2.2.2.2.2.2.1) g.1.2.2.2.2.2]) (fun g=>g.2.2.2.2.2.2.2.2.2.2.2.2.2.2) (fun g=>Cv_ v38 g.1.1 g.1.2.1 g.1.2.2.1 g.1.2.2.2.1 g.1.2.2.2.2.1 g.1.2.2.2.2.2=some r∧ZOk g.2.2.2.2.2.2.2.2.2.2.2.2.2.2 (pkSl 2 encTip encTip_len) g.2.2.2.1 g.1.1∧ZOk g.2.2.2.2.2.2.2.2.2.2.2.2.2.2 (pkSl 1 eI_ eIl_) g.2.2.2.2.2.2.1 g.1.2.2.1∧ZOk g.2.2.2.2.2.2.2.2.2.2.2.2.2.2 (pkSl 1 eS_ eSl_) g.2.2.2.2.2.2.2.2.2.1 g.1.2.2.2.1∧Store.le τ115 g.2.2.2.2.2.2.2.2.2.2.2.2.2.2) ?_ (fun g j hg=> ?_))
 ·skip
  refine TC.a (TL.i z z (TL.en (TC.block (TC.nilS 86 1 (pkSl 1 eI_ eIl_).en ?_))))
  have zf226:=ZOk.nil τ115 (pkSl 1 eI_ eIl_)
  refine TC.nilS 30 1 (pkSl 1 eS_ eSl_).en ?_
  have zf228:=ZOk.nil τ115 (pkSl 1 eS_ eSl_)
  refine TC.nilS 4 1 encB (TC.nilS 9 1 eS_ (TC.loopG (α:=((List (List Tip))×Int×(List (List Int))×(List (List (List UInt8)))×(List Bool)×(List (List UInt8))×Nat)×((Option Addr)×Nat×(List (List Tip×(pkSl 2 encTip encTip_len).P))×(Option Addr)×Nat×(List (List Int×(pkSl 1 eI_ eIl_).P))×(Option Addr)×Nat×(List (List (List UInt8)×(pkSl 1 eS_ eSl_).P))×(Option Addr)×Nat×(Option Addr)×Nat×Store)) (rgs [(11,9),(56,103)]) (fun g=>[(11,.int .i64 ((g.1.2.2.2.2.2.2:Nat):Int))]) (fun g=>[Res.cells b101 #[.int .i64 v5.1.states,.slice a105_1 v5.1.starts.length c105_1,.slice a105_2 v5.1.ends.length c105_2,.slice a105_3 v5.1.arcs.length c105_3] 25,Res.cells b103 #[.string (bs ([]:List UInt8)),.slice none 0 0,.slice none 0 0,.slice none 0 0,.slice none 0 0] 32,Res.cells b110 #[.slice g.2.1 g.1.1.length g.2.2.1,.int .i64 x1,.int .i64 g.1.2.1] 80,Res.rowS 22 1 (pkSl 2 encTip encTip_len).en (.slice g.2.1 g.1.1.length g.2.2.1) g.2.2.2.1,Res.cells b117 #[.string (bs v38.2.1),.slice g.2.2.2.2.1 g.1.2.2.1.length g.2.2.2.2.2.1,.slice g.2.2.2.2.2.2.2.1 g.1.2.2.2.1.length g.2.2.2.2.2.2.2.2.1,.slice g.2.2.2.2.2.2.2.2.2.2.1 g.1.2.2.2.2.1.length g.2.2.2.2.2.2.2.2.2.2.2.1,.slice g.2.2.2.2.2.2.2.2.2.2.2.2.1 g.1.2.2.2.2.2.1.length g.2.2.2.2.2.2.2.2.2.2.2.2.2.1] 32,Res.rowS 86 1 (pkSl 1 eI_ eIl_).en (.slice g.2.2.2.2.1 g.1.2.2.1.length g.2.2.2.2.2.1) g.2.2.2.2.2.2.1,Res.rowS 30 1 (pkSl 1 eS_ eSl_).en (.slice g.2.2.2.2.2.2.2.1 g.1.2.2.2.1.length g.2.2.2.2.2.2.2.2.1) g.2.2.2.2.2.2.2.2.2.1,Res.rowS 4 1 encB (.slice g.2.2.2.2.2.2.2.2.2.2.1 g.1.2.2.2.2.1.length g.2.2.2.2.2.2.2.2.2.2.2.1) g.1.2.2.2.2.1,Res.rowS 9 1 eS_ (.slice g.2.2.2.2.2.2.2.2.2.2.2.2.1 g.1.2.2.2.2.2.1.length g.2.2.2.2.2.2.2.2.2.2.2.2.2.1) g.1.2.2.2.2.2.1]) (fun g=>g.2.2.2.2.2.2.2.2.2.2.2.2.2.2) (fun g=>iter (fun q:(List (List Tip))×Int×(List (List Int))×(List (List (List UInt8)))×(List Bool)×(List (List UInt8))×Nat=>Ah_ x1 v5 v38 q.1 q.2.1 q.2.2.1 q.2.2.2.1 q.2.2.2.2.1 q.2.2.2.2.2.1 q.2.2.2.2.2.2) g.1=some r∧ZOk g.2.2.2.2.2.2.2.2.2.2.2.2.2.2 (pkSl 2 encTip encTip_len) g.2.2.2.1 g.1.1∧ZOk g.2.2.2.2.2.2.2.2.2.2.2.2.2.2 (pkSl 1 eI_ eIl_) g.2.2.2.2.2.2.1 g.1.2.2.1∧ZOk g.2.2.2.2.2.2.2.2.2.2.2.2.2.2 (pkSl 1 eS_ eSl_) g.2.2.2.2.2.2.2.2.2.1 g.1.2.2.2.1∧Store.le τ115 g.2.2.2.2.2.2.2.2.2.2.2.2.2.2) (fun g=>rounds (fun q:(List (List Tip))×Int×(List (List Int))×(List (List (List UInt8)))×(List Bool)×(List (List UInt8))×Nat=>Ah_ x1 v5 v38 q.1 q.2.1 q.2.2.1 q.2.2.2.1 q.2.2.2.2.1 q.2.2.2.2.2.1 q.2.2.2.2.2.2) g.1) ((v46.2.rows,v46.2.e,([]:List (List Int)),([]:List (List (List UInt8))),([]:List Bool),([]:List (List UInt8)),0),(a115_1,c115_2,z115_3,none,0,[],none,0,[],none,0,none,0,τ115)) (Sub.f [1,2,3,4,6,6,8,8] 9) z (by repeat (first|exact trivial|refine ⟨z,?_⟩)) ⟨hh,zf115_4,zf226,zf228,(Store.le.refl _)⟩ (fun g1 j1 hg1=> ?_)))
  obtain ⟨⟨l199,i204,l206,l212,l218,l222,k225⟩,⟨a200,c201,z202,a207,c208,z209,a213,c214,z215,a219,c220,a223,c224,τ232⟩⟩:=g1
  obtain ⟨hh,zf203,zf210,zf216,hle233⟩:=hg1
  try dsimp only at zf203
  try dsimp only at zf210
  try dsimp only at zf216
  dsimp only at hle233
  replace hr105_0:=hr105_0.mono hle233
  replace hr105_1:=hr105_1.mono hle233
  replace hr105_2:=hr105_2.mono hle233
  try dsimp only
  obtain ⟨z1,hh,hR1⟩:=iter_e hh
  dsimp only [Ah_]at hh
  have zf203b:=zf203.length
  have zf210b:=zf210.length
  have zf216b:=zf216.length
  refine TC.isSl (i:=3) z (fun _ hb234 _=> ?_)
  refine TC.isSl (i:=5) z (fun _ hb235 _=> ?_)
  refine TC.isSl (i:=6) z (fun _ hb236 _=> ?_)
  refine TC.isSl (i:=7) z (fun _ hb237 _=> ?_)
  refine TC.isSl (i:=8) z (fun _ hb238 _=> ?_)
  refine TC.seq (TC.a (TL.i z z (TL.l z z (TL.w z (nilCheckLoc z z) (TL.w z (fieldLoc z fo80_0 z) (TL.w z (loadLoc z ag72 z (i:=2) z z) (TL.w z (lenC z underlying72 z) (TL.w z (OpVal.lss z z z) (TL.j z z (TL.split 63 z (fun h239=> ?_) (fun h239=> ?_)))))))))))
  ·replace hh:=iteO_t h239 hh
   replace h239:=of_decide_eq_true h239
   refine TL.g z (moveLoc (.inl z) z) (TL.g z (nilCheckLoc z z) (TL.g z (fieldLoc z fo80_2 z) (TL.g z (loadLoc z ag33 z (i:=2) z z) (TL.g z (OpVal.eql z z z) (TL.w z (pickTB z z z) (TL.en (TC.cD z hh (fun h240 hh=> ?_) (fun h240 hh=> ?_))))))))
   ·refine TC.skip (S.n (TC.seq (TC.block (TC.seq ?_))))
    obtain ⟨v75,u75,hh⟩:=bnd_e hh
    refine TC.drawR (Hr:=[Res.cells b101 #[.int .i64 v5.1.states,.slice a105_1 v5.1.starts.length c105_1,.slice a105_2 v5.1.ends.length c105_2,.slice a105_3 v5.1.arcs.length c105_3] 25,Res.cells b103 #[.string (bs ([]:List UInt8)),.slice none 0 0,.slice none 0 0,.slice none 0 0,.slice none 0 0] 32,Res.rowS 22 1 (pkSl 2 encTip encTip_len).en (.slice a200 l199.length c201) z202,Res.cells b117 #[.string (bs v38.2.1),.slice a207 l206.length c208,.slice a213 l212.length c214,.slice a219 l218.length c220,.slice a223 l222.length c224] 32,Res.rowS 86 1 (pkSl 1 eI_ eIl_).en (.slice a207 l206.length c208) z209,Res.rowS 30 1 (pkSl 1 eS_ eSl_).en (.slice a213 l212.length c214) z215,Res.rowS 4 1 encB (.slice a219 l218.length c220) l218,Res.rowS 9 1 eS_ (.slice a223 l222.length c224) l222]) (fun r hr=>mem_pick [0,1,3,4,5,6,7,8] z hr) [] (by kernel_rfl) (TA.a 0 z (moveLoc (.inl z) z) z (TA.b 1 z (loadAll z ag25 sz25 z (i:=0) z z) z (TA.a 2 z (moveLoc (.inl z) z) z (TA.a 3 z (nilCheckLoc z z) z (TA.a 4 z (fieldLoc z fo80_0 z) z (TA.a 6 z (moveI (.inl z) z) z (TA.ac 5 z (OpVal.ok (loadLoc z ag72 z (i:=2) z z) z z ⟨(fun w h=>sees_of (Store.le.refl _) (fun r hr=>mem_pick [0,1,3,4,5,6,7,8] z hr) w h),?_⟩))))))))
    refine TA.isSl (i:=3) z (fun hs244 _ _=> ?_)
    refine TA.b 7 z (indexN z underlying72 sz22 z z (zf203.isSl hs244) (by omega)) z ?_
    obtain ⟨p245,hp245⟩: ∃p,p=(nth z202 k225 ((pkSl 2 encTip encTip_len).d,(pkSl 2 encTip encTip_len).dp)).2:=⟨_,rfl⟩
    have hk245:RS τ232 2 encTip (.slice p245.1 (nth l199 k225 ([]:List Tip)).length p245.2) (nth l199 k225 ([]:List Tip)):=by rw [hp245];exact (zf203.at (by omega)).2
    refine TA.b 8 z (OpVal.of (hp245▸loadOZ1 zf203 z ag22 z (q:=2) z (by omega) z) (v':= .slice p245.1 ((nth l199 k225 ([]:List Tip)).length) p245.2) z) z (TA.front 3 z z (TA.front 3 z z (TA.ac 9 z (OpOk.call (Fn_ (x0:=(⟨l199,x1,i204⟩:RMaker)) zf203 hr105_0 hr105_1 hr105_2 hk245 u75) z z pf49 z z z z ?_))))
    rintro _ _ _ hle246 ⟨rfl,rfl,rfl⟩
    refine ⟨(fun w h=>sees_of (Store.le.refl _) (fun r hr=>mem_pick [2,3,1,4,5,6,7,8] z hr) w h),?_⟩
    refine TA.a 10 z (moveT (.inl z) z) z (TA.a 11 z (OpVal.extract z z z) z (TA.a 12 z (OpVal.extract z z z) z (TA.a 13 z (moveStr (.inr z) z) z (TA.a 14 z (moveB (.inr z) z) z (TA.dn (S.n (TC.a (TL.op z (makeS2 (m:=256) (enc:=eI_) (0:Int) z underlying86 sz3 by3 ze3 z z z z (by omega) (by decide) eIl_ (by decide) z eIo_ (fun a247 c248=> ?_))))))))))
    refine TL.s z z (TL.en (TC.a (TL.op z (makeS2 (m:=256) (enc:=eS_) ([]:List UInt8) z underlying30 sz9 by9 ze9 z z z z (by omega) (by decide) eSl_ (by decide) z eSo_ (fun a250 c251=> ?_)))))
    refine TL.s z z (TL.en (TC.cutG (α:=((List (List Tip))×Int×(List Int)×(List (List UInt8)))×((Option Addr)×Nat×(List (List Tip×(pkSl 2 encTip encTip_len).P))×Store)) (rgs [(16,4),(87,48)]) (fun g=>[]) (fun g=>[Res.cells b101 #[.int .i64 v5.1.states,.slice a105_1 v5.1.starts.length c105_1,.slice a105_2 v5.1.ends.length c105_2,.slice a105_3 v5.1.arcs.length c105_3] 25,Res.cells b103 #[.string (bs ([]:List UInt8)),.slice none 0 0,.slice none 0 0,.slice none 0 0,.slice none 0 0] 32,Res.cells b110 #[.slice g.2.1 g.1.1.length g.2.2.1,.int .i64 x1,.int .i64 g.1.2.1] 80,Res.rowS 22 1 (pkSl 2 encTip encTip_len).en (.slice g.2.1 g.1.1.length g.2.2.1) g.2.2.2.1,Res.cells b117 #[.string (bs v38.2.1),.slice a207 l206.length c208,.slice a213 l212.length c214,.slice a219 l218.length c220,.slice a223 l222.length c224] 32,Res.rowS 86 1 (pkSl 1 eI_ eIl_).en (.slice a207 l206.length c208) z209,Res.rowS 30 1 (pkSl 1 eS_ eSl_).en (.slice a213 l212.length c214) z215,Res.rowS 4 1 encB (.slice a219 l218.length c220) l218,Res.rowS 9 1 eS_ (.slice a223 l222.length c224) l222,Res.rowS 3 1 eI_ (.slice a247 (List.replicate 256 (0:Int)).length c248) g.1.2.2.1,Res.rowS 9 1 eS_ (.slice a250 (List.replicate 256 ([]:List UInt8)).length c251) g.1.2.2.2]) (fun g=>g.2.2.2.2) (fun g=>B8_ l206 l212 l218 v75 l222 k225 g.1.1 g.1.2.1 g.1.2.2.1 g.1.2.2.2=some z1∧ZOk g.2.2.2.2 (pkSl 2 encTip encTip_len) g.2.2.2.1 g.1.1∧ZOk g.2.2.2.2 (pkSl 1 eI_ eIl_) z209 l206∧ZOk g.2.2.2.2 (pkSl 1 eS_ eSl_) z215 l212∧g.1.2.2.1.length=(List.replicate 256 (0:Int)).length∧g.1.2.2.2.length=(List.replicate 256 ([]:List UInt8)).length∧Store.le τ232 g.2.2.2.2) ?_ (fun g j hg=> ?_)))
    ·skip
     refine TC.a (TL.i z z (TL.en (TC.block (TC.loopG (α:=((List (List Tip))×Int×(List Int)×(List (List UInt8))×Nat)×((Option Addr)×Nat×(List (List Tip×(pkSl 2 encTip encTip_len).P))×Store)) (rgs [(16,4),(87,48)]) (fun g=>[(16,.int .i64 ((g.1.2.2.2.2:Nat):Int))]) (fun g=>[Res.cells b101 #[.int .i64 v5.1.states,.slice a105_1 v5.1.starts.length c105_1,.slice a105_2 v5.1.ends.length c105_2,.slice a105_3 v5.1.arcs.length c105_3] 25,Res.cells b103 #[.string (bs ([]:List UInt8)),.slice none 0 0,.slice none 0 0,.slice none 0 0,.slice none 0 0] 32,Res.cells b110 #[.slice g.2.1 g.1.1.length g.2.2.1,.int .i64 x1,.int .i64 g.1.2.1] 80,Res.rowS 22 1 (pkSl 2 encTip encTip_len).en (.slice g.2.1 g.1.1.length g.2.2.1) g.2.2.2.1,Res.cells b117 #[.string (bs v38.2.1),.slice a207 l206.length c208,.slice a213 l212.length c214,.slice a219 l218.length c220,.slice a223 l222.length c224] 32,Res.rowS 86 1 (pkSl 1 eI_ eIl_).en (.slice a207 l206.length c208) z209,Res.rowS 30 1 (pkSl 1 eS_ eSl_).en (.slice a213 l212.length c214) z215,Res.rowS 4 1 encB (.slice a219 l218.length c220) l218,Res.rowS 9 1 eS_ (.slice a223 l222.length c224) l222,Res.rowS 3 1 eI_ (.slice a247 (List.replicate 256 (0:Int)).length c248) g.1.2.2.1,Res.rowS 9 1 eS_ (.slice a250 (List.replicate 256 ([]:List UInt8)).length c251) g.1.2.2.2.1]) (fun g=>g.2.2.2.2) (fun g=>iter (fun q:(List (List Tip))×Int×(List Int)×(List (List UInt8))×Nat=>Ac_ k225 v5 x1 l206 l212 l218 v75 l222 q.1 q.2.1 q.2.2.1 q.2.2.2.1 q.2.2.2.2) g.1=some z1∧ZOk g.2.2.2.2 (pkSl 2 encTip encTip_len) g.2.2.2.1 g.1.1∧ZOk g.2.2.2.2 (pkSl 1 eI_ eIl_) z209 l206∧ZOk g.2.2.2.2 (pkSl 1 eS_ eSl_) z215 l212∧g.1.2.2.1.length=(List.replicate 256 (0:Int)).length∧g.1.2.2.2.1.length=(List.replicate 256 ([]:List UInt8)).length∧Store.le τ232 g.2.2.2.2) (fun g=>rounds (fun q:(List (List Tip))×Int×(List Int)×(List (List UInt8))×Nat=>Ac_ k225 v5 x1 l206 l212 l218 v75 l222 q.1 q.2.1 q.2.2.1 q.2.2.2.1 q.2.2.2.2) g.1) ((l199,v75.2.2.e,(List.replicate 256 (0:Int)),(List.replicate 256 ([]:List UInt8)),0),(a200,c201,z202,τ232)) (Sub.f [1,10,10,10,10,10,8,8,10,10] 11) z (by repeat (first|exact trivial|refine ⟨z,?_⟩)) ⟨hh,zf203,zf210,zf216,z,z,(Store.le.refl _)⟩ (fun g2 j2 hg2=> ?_)))))
     obtain ⟨⟨l297,i302,l305,l307,k309⟩,⟨a298,c299,z300,τ310⟩⟩:=g2
     obtain ⟨hh,zf301,zf303,zf304,hn306,hn308,hle311⟩:=hg2
     try dsimp only at zf301
     try dsimp only at zf303
     try dsimp only at zf304
     try dsimp only at hn306
     try dsimp only at hn308
     dsimp only at hle311
     replace hr105_0:=hr105_0.mono hle311
     replace hr105_1:=hr105_1.mono hle311
     replace hr105_2:=hr105_2.mono hle311
     replace zf203:=zf203.mono hle311
     replace zf210:=zf210.mono hle311
     replace zf216:=zf216.mono hle311
     try dsimp only
     obtain ⟨z2,hh,hR2⟩:=iter_e hh
     dsimp only [Ac_]at hh
     have zf301b:=zf301.length
     have zf303b:=zf303.length
     have zf304b:=zf304.length
     have hn306b:=hn306
     have hn308b:=hn308
     refine TC.isSl (i:=3) z (fun _ hb312 _=> ?_)
     refine TC.isSl (i:=5) z (fun _ hb313 _=> ?_)
     refine TC.isSl (i:=6) z (fun _ hb314 _=> ?_)
     refine TC.isSl (i:=7) z (fun _ hb315 _=> ?_)
     refine TC.isSl (i:=8) z (fun _ hb316 _=> ?_)
     refine TC.isSl (i:=9) z (fun _ hb317 _=> ?_)
     refine TC.isSl (i:=10) z (fun _ hb318 _=> ?_)
     refine TC.seq (TC.a (TL.i z z (TL.w z (OpVal.lss z z z) (TL.j z z (TL.split 89 z (fun h319=> ?_) (fun h319=> ?_))))))
     ·replace hh:=iteO_t h319 hh
      replace h319:=of_decide_eq_true h319
      refine TL.g z (moveLoc (.inl z) z) (TL.g z (nilCheckLoc z z) (TL.g z (fieldLoc z fo80_2 z) (TL.g z (loadLoc z ag33 z (i:=2) z z) (TL.g z (OpVal.eql z z z) (TL.w z (pickTB z z z) (TL.en (TC.cD z hh (fun h320 hh=> ?_) (fun h320 hh=> ?_))))))))
      ·refine TC.skip (S.n (TC.cutG (α:=((List (List Tip))×Int×(List Int)×(List (List UInt8)))×((Option Addr)×Nat×(List (List Tip×(pkSl 2 encTip encTip_len).P))×Store)) (rgs [(17,3),(98,37)]) (fun g=>[]) (fun g=>[Res.cells b101 #[.int .i64 v5.1.states,.slice a105_1 v5.1.starts.length c105_1,.slice a105_2 v5.1.ends.length c105_2,.slice a105_3 v5.1.arcs.length c105_3] 25,Res.cells b103 #[.string (bs ([]:List UInt8)),.slice none 0 0,.slice none 0 0,.slice none 0 0,.slice none 0 0] 32,Res.cells b110 #[.slice g.2.1 g.1.1.length g.2.2.1,.int .i64 x1,.int .i64 g.1.2.1] 80,Res.rowS 22 1 (pkSl 2 encTip encTip_len).en (.slice g.2.1 g.1.1.length g.2.2.1) g.2.2.2.1,Res.cells b117 #[.string (bs v38.2.1),.slice a207 l206.length c208,.slice a213 l212.length c214,.slice a219 l218.length c220,.slice a223 l222.length c224] 32,Res.rowS 86 1 (pkSl 1 eI_ eIl_).en (.slice a207 l206.length c208) z209,Res.rowS 30 1 (pkSl 1 eS_ eSl_).en (.slice a213 l212.length c214) z215,Res.rowS 4 1 encB (.slice a219 l218.length c220) l218,Res.rowS 9 1 eS_ (.slice a223 l222.length c224) l222,Res.rowS 3 1 eI_ (.slice a247 (List.replicate 256 (0:Int)).length c248) g.1.2.2.1,Res.rowS 9 1 eS_ (.slice a250 (List.replicate 256 ([]:List UInt8)).length c251) g.1.2.2.2]) (fun g=>g.2.2.2.2) (fun g=>Ct_ k309 g.1.1 g.1.2.1 g.1.2.2.1 g.1.2.2.2=some z2∧ZOk g.2.2.2.2 (pkSl 2 encTip encTip_len) g.2.2.2.1 g.1.1∧ZOk g.2.2.2.2 (pkSl 1 eI_ eIl_) z209 l206∧ZOk g.2.2.2.2 (pkSl 1 eS_ eSl_) z215 l212∧g.1.2.2.1.length=(List.replicate 256 (0:Int)).length∧g.1.2.2.2.length=(List.replicate 256 ([]:List UInt8)).length∧Store.le τ310 g.2.2.2.2) ?_ (fun g j hg=> ?_)))
       ·skip
        refine TC.block (TC.a (TL.s z z (TL.i z z ?_)))
        have u97:=grd_c hh
        replace hh:=grd_t hh
        refine TL.isSl (i:=9) z (fun hs334 _ _=> ?_)
        refine TL.w z (indexN z underlying86 sz3 z z hs334 (by omega)) (TL.front 9 z z ?_)
        have hn335:(l305.set k309 (-1)).length=(List.replicate 256 (0:Int)).length:=by rw [List.length_set];exact hn306
        refine TL.op z (storeS (-1) z sz3 z z z z eIl_ eIo_ (by omega) (by omega) ?_)
        refine TL.en (TC.seq ?_)
        have u105:=grd_c hh
        replace hh:=grd_t hh
        obtain ⟨v108,u108,hh⟩:=bnd_e hh
        refine TC.draw [] (by kernel_rfl) (TA.b 0 z (loadAll z ag25 sz25 z (i:=1) z z) z (TA.a 1 z (moveLoc (.inl z) z) z (TA.a 2 z (nilCheckLoc z z) z (TA.a 3 z (fieldLoc z fo80_0 z) z (TA.b 4 z (loadLoc z ag72 z (i:=3) z z) z (TA.a 5 z (moveI (.inl z) z) z (TA.isSl (i:=4) z (fun hs340 _ _=> ?_))))))))
        refine TA.b 6 z (indexN z underlying72 sz22 z z (zf301.isSl hs340) (by omega)) z ?_
        obtain ⟨p341,hp341⟩: ∃p,p=(nth z300 k225 ((pkSl 2 encTip encTip_len).d,(pkSl 2 encTip encTip_len).dp)).2:=⟨_,rfl⟩
        have hk341:RS τ310 2 encTip (.slice p341.1 (nth l297 k225 ([]:List Tip)).length p341.2) (nth l297 k225 ([]:List Tip)):=by rw [hp341];exact (zf301.at (by omega)).2
        refine TA.b 7 z (OpVal.of (hp341▸loadOZ1 zf301 z ag22 z (q:=4) z (by omega) z) (v':= .slice p341.1 ((nth l297 k225 ([]:List Tip)).length) p341.2) z) z (TA.a 8 z (moveI (.inl z) z) z (TA.ac 9 z (OpOk.call (F5_ (x0:=v5.1) hr105_0 hr105_1 hr105_2 hk341 u108) z z pf50 z z z z ?_)))
        rintro _ _ _ hle342 ⟨a342_1,c342_1,rfl,rfl,rfl⟩
        refine k1 (TA.a 10 z (moveSl (.inr z) z) z (TA.dn (S.n (TC.a (TL.s z z (TL.w z (lenC z underlying22 z) (TL.w z (OpVal.gtr z z z) (TL.en (TC.cD z hh (fun h344 hh=> ?_) (fun h344 hh=> ?_))))))))))
        ·refine TC.a (TL.l z z (TL.s z z (TL.sealS encTip_len (fun τ347 hle346 hr345=> ?_))))
         replace zf203:=zf203.mono hle346
         replace zf210:=zf210.mono hle346
         replace zf216:=zf216.mono hle346
         replace zf301:=zf301.mono hle346
         replace zf303:=zf303.mono hle346
         replace zf304:=zf304.mono hle346
         have hr345b:=hr345.rv.big
         refine TL.front 4 z z (TL.front 4 z z ?_)
         obtain ⟨v115,u115,hh⟩:=bnd_e hh
         refine TL.op z (OpOk.call (Ej_ (x0:=(⟨l297,x1,i302⟩:RMaker)) zf301 hr345 u115) z z pf47 z z z z ?_)
         rintro _ τ348 _ hle348 ⟨a348_1,c348_2,rfl,hr348_3,rfl⟩
         replace zf203:=zf203.mono hle348
         replace zf210:=zf210.mono hle348
         replace zf216:=zf216.mono hle348
         replace zf301:=zf301.mono hle348
         replace zf303:=zf303.mono hle348
         replace zf304:=zf304.mono hle348
         have hr348_3b:=hr348_3.rv.big
         refine TL.w z (moveT (.inl z) z) (TL.w z (OpVal.extract z z z) (TL.w z (OpVal.extract z z z) (TL.s z z (TL.w z (moveStr (.inr z) z) (TL.en (TC.a (TL.l z z (TL.w z (nilCheckLoc z z) (TL.w z (fieldLoc z fo80_2 z) (TL.w z (loadLoc z ag33 z (i:=0) z z) (TL.w z (OpVal.eql z z z) (TL.en (TC.cD z hh (fun h349 hh=> ?_) (fun h349 hh=> ?_))))))))))))))
         ·refine TC.a (TL.s z z (TL.i z z (TL.l z z (TL.s z z (TL.front 1 z z (TL.front 1 z z ?_))))))
          obtain ⟨v130,u130,hh⟩:=bnd_e hh
          refine TL.op z (OpOk.call (Ea_ (x0:=(⟨l297,x1,v115.2.2.e⟩:RMaker)) zf301 hr348_3 u130) z z pf48 z z z z ?_)
          rintro _ τ350 _ hle350 ⟨a350_1,c350_2,z350_3,rfl,zf350_4,rfl⟩
          replace zf203:=zf203.mono hle350
          replace zf210:=zf210.mono hle350
          replace zf216:=zf216.mono hle350
          replace zf301:=zf301.mono hle350
          replace zf303:=zf303.mono hle350
          replace zf304:=zf304.mono hle350
          have zf350_4b:=zf350_4.length
          have u131:=grd_c hh
          replace hh:=grd_t hh
          refine TL.isSl (i:=2) z (fun hs352 _ _=> ?_)
          refine TL.w z (indexN z underlying86 sz3 z z hs352 (by omega)) (TL.front 2 z z ?_)
          have hn353:((l305.set k309 (-1)).set k309 v130.1).length=(List.replicate 256 (0:Int)).length:=by rw [List.length_set];exact hn335
          refine TL.op z (storeS v130.1 z sz3 z z z z eIl_ eIo_ (by omega) (by omega) ?_)
          refine TL.en (TC.region (TL.s z z (TL.i z z (TL.w z (moveStr (.inl z) z) ?_))))
          have u136:=grd_c hh
          replace hh:=grd_t hh
          refine TL.isSl (i:=10) z (fun hs354 _ _=> ?_)
          refine TL.w z (indexN z underlying30 sz9 z z hs354 (by omega)) (TL.front 10 z z ?_)
          have hn355:(l307.set k309 v115.2.1).length=(List.replicate 256 ([]:List UInt8)).length:=by rw [List.length_set];exact hn308
          refine TL.op z (storeS v115.2.1 z sz9 z z z z eSl_ eSo_ (by omega) (by omega) ?_)
          exact TL.nil (B.n (S.n (cf ((v130.2.rows,v130.2.e,((l305.set k309 (-1)).set k309 v130.1),(l307.set k309 v115.2.1)),(a350_1,c350_2,z350_3,τ350)) ⟨hh,zf350_4,zf303,zf304,hn353,hn355,((hle346.trans hle348).trans hle350)⟩ (Sub.f [1,10,10,10,10,10,8,8,10,10] 11))))
         exact TC.skip (B.n (S.n (cf ((l297,v115.2.2.e,(l305.set k309 (-1)),l307),(a298,c299,z300,τ348)) ⟨hh,zf301,zf303,zf304,hn335,hn308,(hle346.trans hle348)⟩ (Sub.f [10,3,10,10,10,10,10,8,8,10,10] 11))))
        exact TC.skip (B.n (S.n (cf ((l297,i302,(l305.set k309 (-1)),l307),(a298,c299,z300,τ310)) ⟨hh,zf301,zf303,zf304,hn335,hn308,(Store.le.refl _)⟩ (Sub.f [11,2,11,11,11,11,11,11,11,11,11] 11))))
       skip
       obtain ⟨⟨l322,i327,l330,l332⟩,⟨a323,c324,z325,τ356⟩⟩:=g
       obtain ⟨hh,zf326,zf328,zf329,hn331,hn333,hle357⟩:=hg
       try dsimp only at zf326
       try dsimp only at zf328
       try dsimp only at zf329
       try dsimp only at hn331
       try dsimp only at hn333
       dsimp only at hle357
       replace zf203:=zf203.mono hle357
       replace zf210:=zf210.mono hle357
       replace zf216:=zf216.mono hle357
       replace zf301:=zf301.mono hle357
       replace zf303:=zf303.mono hle357
       replace zf304:=zf304.mono hle357
       try dsimp only
       dsimp only [Ct_]at hh
       have zf326b:=zf326.length
       have zf328b:=zf328.length
       have zf329b:=zf329.length
       have hn331b:=hn331
       have hn333b:=hn333
       refine TC.isSl (i:=3) z (fun _ hb358 _=> ?_)
       refine TC.isSl (i:=5) z (fun _ hb359 _=> ?_)
       refine TC.isSl (i:=6) z (fun _ hb360 _=> ?_)
       refine TC.isSl (i:=7) z (fun _ hb361 _=> ?_)
       refine TC.isSl (i:=8) z (fun _ hb362 _=> ?_)
       refine TC.isSl (i:=9) z (fun _ hb363 _=> ?_)
       refine TC.isSl (i:=10) z (fun _ hb364 _=> ?_)
       refine TC.region (TL.i z z (TL.w z (OpVal.succ z z z (by omega)) (TL.i z z (TL.en ?_))))
       obtain ⟨hh,hlt365⟩:=nxt_x hR2 hh
       exact lf ((l322,i327,l330,l332,(k309+1)),(a323,c324,z325,τ356)) hlt365 ⟨hh,zf326,zf328,zf329,hn331,hn333,(hle311.trans hle357)⟩ (Sub.f [10,10,10,10,10,10,10,10,10,10,10] 11)
      refine TC.exit (S.x (S.x ?_))
      replace hh:=fin_x hR2 hh
      exact TC.exitHere (S.n (cf ((l297,i302,l305,l307),(a298,c299,z300,τ310)) ⟨hh,zf301,zf303,zf304,hn306,hn308,hle311⟩ (Sub.f [10,10,10,10,10,10,10,10,10,10,10] 11)))
     replace hh:=iteO_f h319 hh
     replace h319:=of_decide_eq_false h319
     refine TL.f z (TL.f z (TL.f z (TL.f z (TL.f z (TL.w z (pickFB z z z) (TL.en (TC.f z (TC.exit (S.x (S.x ?_))))))))))
     replace hh:=fin_x hR2 hh
     exact TC.exitHere (S.n (cf ((l297,i302,l305,l307),(a298,c299,z300,τ310)) ⟨hh,zf301,zf303,zf304,hn306,hn308,hle311⟩ (Sub.f [10,10,10,10,10,10,10,10,10,10,10] 11)))
    skip
    obtain ⟨⟨l253,i258,l261,l263⟩,⟨a254,c255,z256,τ366⟩⟩:=g
    obtain ⟨hh,zf257,zf259,zf260,hn262,hn264,hle367⟩:=hg
    try dsimp only at zf257
    try dsimp only at zf259
    try dsimp only at zf260
    try dsimp only at hn262
    try dsimp only at hn264
    dsimp only at hle367
    replace zf203:=zf203.mono hle367
    replace zf210:=zf210.mono hle367
    replace zf216:=zf216.mono hle367
    try dsimp only
    dsimp only [B8_]at hh
    have zf257b:=zf257.length
    have zf259b:=zf259.length
    have zf260b:=zf260.length
    have hn262b:=hn262
    have hn264b:=hn264
    refine TC.isSl (i:=3) z (fun _ hb368 _=> ?_)
    refine TC.isSl (i:=5) z (fun _ hb369 _=> ?_)
    refine TC.isSl (i:=6) z (fun _ hb370 _=> ?_)
    refine TC.isSl (i:=7) z (fun _ hb371 _=> ?_)
    refine TC.isSl (i:=8) z (fun _ hb372 _=> ?_)
    refine TC.isSl (i:=9) z (fun _ hb373 _=> ?_)
    refine TC.isSl (i:=10) z (fun _ hb374 _=> ?_)
    refine TC.a (TL.w z (fieldLoc z fo32_1 z) (TL.w z (loadLoc z ag27 z (i:=4) z z) (TL.s z z ?_)))
    rw [←hn262]
    refine TL.front 9 z z (TL.sealS eIl_ (fun τ379 hle378 hr377=> ?_))
    replace zf203:=zf203.mono hle378
    replace zf210:=zf210.mono hle378
    replace zf216:=zf216.mono hle378
    replace zf257:=zf257.mono hle378
    replace zf259:=zf259.mono hle378
    replace zf260:=zf260.mono hle378
    have hr377b:=hr377.rv.big
    have zf380:ZOk _ (pkSl 1 eI_ eIl_) ([(l261,(a247,c248))]:List (List Int×(pkSl 1 eI_ eIl_).P)) [l261]:=ZOk.cons (hr377) (ZOk.nil _ _)
    refine TL.op z (litZ zf380 z underlying27 sz86 z ze86 z z z (by decide) (by decide) z (by decide) z (by decide) (fun a375 c376=> ?_))
    refine TL.front 6 z z ?_
    have u145:=grd_c hh
    replace hh:=grd_t hh
    refine TL.op z (appendZ (k:=(pkSl 1 eI_ eIl_)) zf259 zf380 z z underlying27 sz86 by86 ze86 z z (by decide) z z z (.inr ⟨_,0,z⟩) (by simpa using u145) (by decide) (fun a382 c383 zf384=> ?_))
    refine TL.w z (fieldLoc z fo32_1 z) (TL.front 6 z z (TL.op z (storeSl z sz27 z z z z z ?_)))
    refine TL.en (TC.a (TL.w z (fieldLoc z fo32_2 z) (TL.w z (loadLoc z ag28 z (i:=0) z z) (TL.s z z ?_))))
    rw [←hn264]
    refine TL.front 10 z z (TL.sealS eSl_ (fun τ389 hle388 hr387=> ?_))
    replace zf203:=zf203.mono hle388
    replace zf210:=zf210.mono hle388
    replace zf216:=zf216.mono hle388
    replace zf257:=zf257.mono hle388
    replace zf260:=zf260.mono hle388
    replace zf384:=zf384.mono hle388
    have hr387b:=hr387.rv.big
    have zf390:ZOk _ (pkSl 1 eS_ eSl_) ([(l263,(a250,c251))]:List (List (List UInt8)×(pkSl 1 eS_ eSl_).P)) [l263]:=ZOk.cons (hr387) (ZOk.nil _ _)
    refine TL.op z (litZ zf390 z underlying28 sz30 z ze30 z z z (by decide) (by decide) z (by decide) z (by decide) (fun a385 c386=> ?_))
    refine TL.front 8 z z ?_
    have u152:=grd_c hh
    replace hh:=grd_t hh
    refine TL.op z (appendZ (k:=(pkSl 1 eS_ eSl_)) zf260 zf390 z z underlying28 sz30 by30 ze30 z z (by decide) z z z (.inr ⟨_,0,z⟩) (by simpa using u152) (by decide) (fun a392 c393 zf394=> ?_))
    refine TL.w z (fieldLoc z fo32_2 z) (TL.front 2 z z (TL.op z (storeSl z sz28 z z z z z ?_)))
    refine TL.en (TC.a (TL.w z (fieldLoc z fo32_3 z) (TL.w z (loadLoc z ag29 z (i:=0) z z) (TL.j z z (TL.op z (OpOk.lit (enc:=encB) [v75.2.1] z underlying29 sz4 ze4 z z z encB_len (by decide) (by decide) false z (by decide) z (by decide) encB_one (fun a395 c396=> ?_)))))))
    refine TL.front 10 z z ?_
    have u159:=grd_c hh
    replace hh:=grd_t hh
    refine TL.op z (appendS z z underlying29 sz4 by4 ze4 z z (by decide) z z z (.inr ⟨_,0,z⟩) (by simpa using u159) (by decide) (fun a398 c399=> ?_))
    refine TL.w z (fieldLoc z fo32_3 z) (TL.front 2 z z (TL.op z (storeSl z sz29 z z z z z ?_)))
    refine TL.en (TC.region (TL.w z (fieldLoc z fo32_4 z) (TL.w z (loadLoc z ag30 z (i:=0) z z) (TL.w z (moveStr (.inl z) z) (TL.op z (OpOk.lit (enc:=eS_) [v75.1] z underlying30 sz9 ze9 z z z eSl_ (by decide) (by decide) ([]:List UInt8) z (by decide) z (by decide) eSo_ (fun a400 c401=> ?_)))))))
    refine TL.front 12 z z ?_
    have u166:=grd_c hh
    replace hh:=grd_t hh
    refine TL.op z (appendS z z underlying30 sz9 by9 ze9 z z (by decide) z z z (.inr ⟨_,0,z⟩) (by simpa using u166) (by decide) (fun a403 c404=> ?_))
    refine TL.w z (fieldLoc z fo32_4 z) (TL.front 2 z z (TL.op z (storeSl z sz30 z z z z z ?_)))
    refine TL.nil (B.n (S.n (TC.region (TL.i z z (TL.w z (OpVal.succ z z z (by omega)) (TL.i z z (TL.en ?_)))))))
    obtain ⟨hh,hlt405⟩:=nxt_x hR1 hh
    exact lf ((l253,i258,(l206++[l261]),(l212++[l263]),(l218++[v75.2.1]),(l222++[v75.1]),(k225+1)),(a254,c255,z256,a382,c383,(z209++([(l261,(a247,c248))]:List (List Int×(pkSl 1 eI_ eIl_).P))),a392,c393,(z215++([(l263,(a250,c251))]:List (List (List UInt8)×(pkSl 1 eS_ eSl_).P))),a398,c399,a403,c404,τ389)) hlt405 ⟨hh,zf257,zf384,zf394,(((hle233.trans hle367).trans hle378).trans hle388)⟩ (Sub.f [1,3,5,7,4,12,12,12,12] 9)
   refine TC.exit (S.x (S.x ?_))
   replace hh:=fin_x hR1 hh
   exact TC.exitHere (S.n (cf ((l199,i204,l206,l212,l218,l222),(a200,c201,z202,a207,c208,z209,a213,c214,z215,a219,c220,a223,c224,τ232)) ⟨hh,zf203,zf210,zf216,hle233⟩ (Sub.f [8,8,8,8,8,8,8,8] 8)))
  replace hh:=iteO_f h239 hh
  replace h239:=of_decide_eq_false h239
  refine TL.f z (TL.f z (TL.f z (TL.f z (TL.f z (TL.w z (pickFB z z z) (TL.en (TC.f z (TC.exit (S.x (S.x ?_))))))))))
  replace hh:=fin_x hR1 hh
  exact TC.exitHere (S.n (cf ((l199,i204,l206,l212,l218,l222),(a200,c201,z202,a207,c208,z209,a213,c214,z215,a219,c220,a223,c224,τ232)) ⟨hh,zf203,zf210,zf216,hle233⟩ (Sub.f [8,8,8,8,8,8,8,8] 8)))
 skip
 obtain ⟨⟨l119,i124,l125,l130,l135,l138⟩,⟨a120,c121,z122,a126,c127,z128,a131,c132,z133,a136,c137,a139,c140,τ406⟩⟩:=g
 obtain ⟨hh,zf123,zf129,zf134,hle407⟩:=hg
 try dsimp only at zf123 zf129 zf134 hle407 ⊢
 dsimp only [Cv_]at hh
 have zf123b:=zf123.length
 have zf129b:=zf129.length
 have zf134b:=zf134.length
 refine TC.isSl (i:=2) z (fun _ hb408 _=> ?_)
 refine TC.isSl (i:=4) z (fun _ hb409 _=> ?_)
 refine TC.isSl (i:=5) z (fun _ hb410 _=> ?_)
 refine TC.isSl (i:=6) z (fun _ hb411 _=> ?_)
 refine TC.isSl (i:=7) z (fun _ hb412 _=> ?_)
 refine TC.seq (TC.a (TL.l z z (TL.w z (nilCheckLoc z z) (TL.w z (fieldLoc z fo80_2 z) (TL.w z (loadLoc z ag33 z (i:=1) z z) (TL.w z (OpVal.neq z z z) (TL.en (TC.cD z hh (fun h413 hh=> ?_) (fun h413 hh=> ?_)))))))))
 ·refine TC.seq (TC.drawR (Hr:=[Res.cells b103 #[.string (bs ([]:List UInt8)),.slice none 0 0,.slice none 0 0,.slice none 0 0,.slice none 0 0] 32,Res.cells b110 #[.slice a120 l119.length c121,.int .i64 x1,.int .i64 i124] 80,Res.rowS 22 1 (pkSl 2 encTip encTip_len).en (.slice a120 l119.length c121) z122,Res.cells b117 #[.string (bs v38.2.1),.slice a126 l125.length c127,.slice a131 l130.length c132,.slice a136 l135.length c137,.slice a139 l138.length c140] 32,Res.rowS 86 1 (pkSl 1 eI_ eIl_).en (.slice a126 l125.length c127) z128,Res.rowS 30 1 (pkSl 1 eS_ eSl_).en (.slice a131 l130.length c132) z133,Res.rowS 4 1 encB (.slice a136 l135.length c137) l135,Res.rowS 9 1 eS_ (.slice a139 l138.length c140) l138]) (fun r hr=>mem_pick [0,1,2,3,4,5,6,7] z hr) [] (by kernel_rfl) (TA.a 0 z (buildL z pl32 ze32 z) z (TA.a 1 z (moveLoc (.inl z) z) z (TA.a 2 z (nilCheckLoc z z) z (TA.a 3 z (fieldLoc z fo80_2 z) z (TA.b 4 z (loadLoc z ag33 z (i:=1) z z) z (TA.ac 5 z (storeAll z sz32 z z z z z z (k0 ?_)))))))))
  refine TA.a 6 z (moveI (.inr z) z) z (TA.dn (S.n (TC.rt 1 (S.r ?_))))
  obtain rfl:=so hh
  exact ro [] z (RVs.agg ag32 sz32 z (i:=0) z z (RVs.tmp z RVs.nil)) ⟨none,0,none,0,none,0,none,0,z,(RZ.nilF _ (pkSl 1 eI_ eIl_)),(RZ.nilF _ (pkSl 1 eS_ eSl_)),(RS.nilF _ encB encB_len),(RS.nilF _ eS_ eSl_),z⟩
 refine TC.skip (S.n (TC.a (TL.w z (loadAll z ag32 sz32 z (i:=3) z z) (TL.op z (storeAll z sz32 z z z z z z ?_)))))
 refine TL.i z z (TL.en (TC.front 4 z z (TC.sealZ zf129 (fun τ416 hle415 hr414=> ?_))))
 replace zf134:=zf134.mono hle415
 have hr414b:=hr414.big
 refine TC.front 4 z z (TC.sealZ zf134 (fun τ419 hle418 hr417=> ?_))
 replace hr414:=hr414.mono hle418
 have hr417b:=hr417.big
 refine TC.front 4 z z (TC.sealS encB_len (fun τ422 hle421 hr420=> ?_))
 replace hr414:=hr414.mono hle421
 replace hr417:=hr417.mono hle421
 have hr420b:=hr420.rv.big
 refine TC.front 4 z z (TC.sealS eSl_ (fun τ425 hle424 hr423=> ?_))
 replace hr414:=hr414.mono hle424
 replace hr417:=hr417.mono hle424
 replace hr420:=hr420.mono hle424
 have hr423b:=hr423.rv.big
 refine TC.rt 1 ?_
 obtain rfl:=so hh
 exact ro [] z (RVs.agg ag32 sz32 z (i:=0) z z (RVs.tmp z RVs.nil)) ⟨a126,c127,a131,c132,a136,c137,a139,c140,z,hr414,hr417,hr420,hr423,z⟩
def B2_(x0:List Bool)(x1:List Bool)(k104:Nat):Option ((Nat)⊕(Bool)):=
 iteO (decide (((k104:Nat):Int)<((x0.length:Nat):Int))) (grd (k104<x1.length) (iteO ((nth x0 k104 false) != (nth x1 k104 false)) (fin (some false)) (nxt (k104+1)))) (fin (some true))
def Dg_(x0:List Bool)(x1:List Bool):Option (Bool):=
 iteO (decide (((x0.length:Nat):Int)≠((x1.length:Nat):Int))) (some false) (iter (fun q:Nat=>B2_ x0 x1 q) 0)
theorem Gd_{x0:List Bool}{x1:List Bool}(f0_0:RS σ 1 encB (.slice a0_0 x0.length c0_0) x0)(f1_0:RS σ 1 encB (.slice a1_0 x1.length c1_0) x1){r:Bool}(hh:Dg_ x0 x1=some r):
  Con Tryz.prog 34 #[.slice a0_0 x0.length c0_0,.slice a1_0 x1.length c1_0] σ [] (PureP (.bool r) σ):=by
 dsimp only [Dg_]at hh
 have f0_0b:=f0_0.rv.big
 have f1_0b:=f1_0.rv.big
 refine Con.mk (n:=26) Tryz.func34 z z z (fun w0=> ?_)
 refine TC.a (TL.j z z (TL.en (TC.seq (TC.a (TL.s z z (TL.w z (lenC z underlying29 z) (TL.s z z (TL.w z (lenC z underlying29 z) (TL.w z (OpVal.neq z z z) (TL.en (TC.cD z hh (fun h101 hh=> ?_) (fun h101 hh=> ?_))))))))))))
 ·refine TC.a (TL.j z z (TL.en (TC.ret (S.r ?_))))
  obtain rfl:=so hh
  exact rq [4] ⟨z,z,z⟩
 refine TC.skip (S.n (TC.seq (TC.a (TL.i z z (TL.en (TC.block (TC.loopG (α:=(Nat)×(Unit)) (rgs [(4,2),(11,15)]) (fun g=>[(5,.int .i64 ((g.1:Nat):Int))]) (fun g=>[]) (fun g=>σ) (fun g=>iter (fun q:Nat=>B2_ x0 x1 q) g.1=some r) (fun g=>rounds (fun q:Nat=>B2_ x0 x1 q) g.1) (0,()) (Sub.pre 0 z) z (by repeat (first|exact trivial|refine ⟨z,?_⟩)) hh (fun g1 j1 hg1=> ?_))))))))
 obtain ⟨k104,_⟩:=g1
 have hh:=hg1;clear hg1
 try dsimp only
 obtain ⟨z1,hh,hR1⟩:=iter_e hh
 dsimp only [B2_]at hh
 refine TC.seq (TC.a (TL.i z z (TL.s z z (TL.w z (lenC z underlying29 z) (TL.w z (OpVal.lss z z z) (TL.en (TC.cD z hh (fun h105 hh=> ?_) (fun h105 hh=> ?_))))))))
 ·refine TC.skip (S.n (TC.seq (TC.block (TC.seq ?_))))
  have u19:=grd_c hh
  replace hh:=grd_t hh
  refine TC.draw [] (by kernel_rfl) (TA.a 0 z (moveSl (.inl z) z) z (TA.a 1 z (moveI (.inl z) z) z (TA.b 2 z (indexN z underlying29 sz4 z z f0_0.rv.sl (by omega)) z (TA.b 3 z (loadS1 false z ag4 z f0_0 (by omega) z) z (TA.a 4 z (moveSl (.inl z) z) z (TA.a 5 z (moveI (.inl z) z) z (TA.b 6 z (indexN z underlying29 sz4 z z f1_0.rv.sl (by omega)) z (TA.b 7 z (loadS1 false z ag4 z f1_0 (by omega) z) z (TA.a 8 z (neqB z z z underlying4) z (TA.dn (S.n (TC.cB z hh (fun h106 hh=> ?_) (fun h106 hh=> ?_)))))))))))))
  ·refine TC.a (TL.j z z (TL.en (TC.ret (B.r (S.r (S.r ?_))))))
   replace hh:=fin_x hR1 hh
   refine B.r (S.r ?_)
   obtain rfl:=so hh
   exact rq [4] ⟨z,z,z⟩
  refine TC.skip (B.n (S.n (TC.region (TL.i z z (TL.w z (OpVal.succ z z z (by omega)) (TL.i z z (TL.en ?_)))))))
  obtain ⟨hh,hlt107⟩:=nxt_x hR1 hh
  exact lf ((k104+1),()) hlt107 hh (Sub.pre 0 z)
 refine TC.exit (S.x (S.x ?_))
 replace hh:=fin_x hR1 hh
 refine TC.exitHere (S.n (TC.a (TL.j z z (TL.en (TC.ret ?_)))))
 obtain rfl:=so hh
 exact rq [4] ⟨z,z,z⟩
def C4_(k112:Nat):Option ((Nat)⊕(Bool)):=
 nxt (k112+1)
def Cb_(x0:Seq)(x1:Seq)(k112:Nat):Option ((Nat)⊕(Bool)):=
 iteO (decide (((k112:Nat):Int)<((x0.next.length:Nat):Int))) (grd (k112<x1.next.length) (bnd (Do_ (nth x0.next k112 ([]:List Int)) (nth x1.next k112 ([]:List Int))) (fun v60=>iteO (!v60) (fin (some false)) (iteO (decide (((k112:Nat):Int)<((x0.outs.length:Nat):Int))) (grd (k112<x1.outs.length) (bnd (Cw_ (nth x0.outs k112 ([]:List (List UInt8))) (nth x1.outs k112 ([]:List (List UInt8)))) (fun v79=>iteO (!v79) (fin (some false)) (C4_ k112)))) (C4_ k112))))) (fin (some true))
def Dp_(x0:Seq)(x1:Seq):Option (Bool):=
 iteO (decide (x0.front≠x1.front)) (some false) (iteO (decide (((x0.next.length:Nat):Int)≠((x1.next.length:Nat):Int))) (some false) (iteO (decide (((x0.outs.length:Nat):Int)≠((x1.outs.length:Nat):Int))) (some false) (bnd (Dg_ x0.fin x1.fin) (fun v32=>iteO (!v32) (some false) (bnd (Cw_ x0.tail x1.tail) (fun v40=>iteO (!v40) (some false) (iter (fun q:Nat=>Cb_ x0 x1 q) 0)))))))
theorem Gg_{x0:Seq}{x1:Seq}(f0_0:RZ σ (pkSl 1 eI_ eIl_) (.slice a0_0 x0.next.length c0_0) x0.next)(f0_1:RZ σ (pkSl 1 eS_ eSl_) (.slice a0_1 x0.outs.length c0_1) x0.outs)(f0_2:RS σ 1 encB (.slice a0_2 x0.fin.length c0_2) x0.fin)(f0_3:RS σ 1 eS_ (.slice a0_3 x0.tail.length c0_3) x0.tail)(f1_0:RZ σ (pkSl 1 eI_ eIl_) (.slice a1_0 x1.next.length c1_0) x1.next)(f1_1:RZ σ (pkSl 1 eS_ eSl_) (.slice a1_1 x1.outs.length c1_1) x1.outs)(f1_2:RS σ 1 encB (.slice a1_2 x1.fin.length c1_2) x1.fin)(f1_3:RS σ 1 eS_ (.slice a1_3 x1.tail.length c1_3) x1.tail){r:Bool}(hh:Dp_ x0 x1=some r):
  Con Tryz.prog 17 #[.agg #[.string (bs x0.front),.slice a0_0 x0.next.length c0_0,.slice a0_1 x0.outs.length c0_1,.slice a0_2 x0.fin.length c0_2,.slice a0_3 x0.tail.length c0_3],.agg #[.string (bs x1.front),.slice a1_0 x1.next.length c1_0,.slice a1_1 x1.outs.length c1_1,.slice a1_2 x1.fin.length c1_2,.slice a1_3 x1.tail.length c1_3]] σ [] (PureP (.bool r) σ):=by
 dsimp only [Dp_]at hh
 have f0_0b:=f0_0.big
 have f0_1b:=f0_1.big
 have f0_2b:=f0_2.rv.big
 have f0_3b:=f0_3.rv.big
 have f1_0b:=f1_0.big
 have f1_1b:=f1_1.big
 have f1_2b:=f1_2.rv.big
 have f1_3b:=f1_3.rv.big
 refine Con.mk (n:=85) Tryz.func17 z z z (fun w0=> ?_)
 refine TC.a (TL.op z (boxA z z z z (fun b101=> ?_)))
 refine TL.op z (boxA z z z z (fun b103=> ?_))
 refine TL.j z z (TL.en (TC.seq (TC.a (TL.w z (fieldLoc z fo32_0 z) (TL.w z (loadLoc z ag9 z (i:=1) z z) (TL.w z (fieldLoc z fo32_0 z) (TL.w z (loadLoc z ag9 z (i:=0) z z) (TL.w z (neqBs z z z) (TL.j z z (TL.split 11 z (fun h105=> ?_) (fun h105=> ?_)))))))))))
 ·replace hh:=iteO_t h105 hh
  replace h105:=of_decide_eq_true h105
  refine TL.f z (TL.f z (TL.f z (TL.f z (TL.f z (TL.f z (TL.f z (TL.w z (pickTB z z z) (TL.j z z (TL.f z (TL.f z (TL.f z (TL.f z (TL.f z (TL.f z (TL.f z ?_)))))))))))))))
  refine TL.w z (pickTB z z z) (TL.j z z (TL.f z (TL.f z (TL.f z (TL.f z (TL.f z (TL.f z (TL.w z (pickTB z z z) (TL.j z z (TL.f z (TL.f z (TL.f z (TL.f z (TL.f z (TL.f z ?_)))))))))))))))
  refine TL.w z (pickTB z z z) (TL.en (TC.t z (TC.a (TL.j z z (TL.en (TC.rt 0 (S.r ?_)))))))
  obtain rfl:=so hh
  exact rq [4] ⟨z,z,z⟩
 replace hh:=iteO_f h105 hh
 replace h105:=of_decide_eq_false h105
 refine TL.g z (fieldLoc z fo32_1 z) (TL.g z (loadLoc z ag27 z (i:=1) z z) (TL.g z (lenC z underlying27 z) (TL.g z (fieldLoc z fo32_1 z) (TL.g z (loadLoc z ag27 z (i:=0) z z) (TL.g z (lenC z underlying27 z) (TL.g z (OpVal.neq z z z) (TL.w z (pickFB z z z) (TL.j z z (TL.split 20 z (fun h106=> ?_) (fun h106=> ?_))))))))))
 ·replace hh:=iteO_t h106 hh
  replace h106:=of_decide_eq_true h106
  refine TL.f z (TL.f z (TL.f z (TL.f z (TL.f z (TL.f z (TL.f z (TL.w z (pickTB z z z) (TL.j z z (TL.f z (TL.f z (TL.f z (TL.f z (TL.f z (TL.f z (TL.w z (pickTB z z z) ?_)))))))))))))))
  refine TL.j z z (TL.f z (TL.f z (TL.f z (TL.f z (TL.f z (TL.f z (TL.w z (pickTB z z z) (TL.en (TC.t z (TC.a (TL.j z z (TL.en (TC.rt 0 (S.r ?_))))))))))))))
  obtain rfl:=so hh
  exact rq [4] ⟨z,z,z⟩
 replace hh:=iteO_f h106 hh
 replace h106:=of_decide_eq_false h106
 refine TL.g z (fieldLoc z fo32_2 z) (TL.g z (loadLoc z ag28 z (i:=1) z z) (TL.g z (lenC z underlying28 z) (TL.g z (fieldLoc z fo32_2 z) (TL.g z (loadLoc z ag28 z (i:=0) z z) (TL.g z (lenC z underlying28 z) (TL.g z (OpVal.neq z z z) (TL.w z (pickFB z z z) (TL.j z z (TL.split 29 z (fun h107=> ?_) (fun h107=> ?_))))))))))
 ·replace hh:=iteO_t h107 hh
  replace h107:=of_decide_eq_true h107
  refine TL.f z (TL.f z (TL.f z (TL.f z (TL.f z (TL.f z (TL.w z (pickTB z z z) (TL.j z z (TL.f z (TL.f z (TL.f z (TL.f z (TL.f z (TL.f z (TL.w z (pickTB z z z) (TL.en ?_)))))))))))))))
  refine TC.t z (TC.a (TL.j z z (TL.en (TC.rt 0 (S.r ?_)))))
  obtain rfl:=so hh
  exact rq [4] ⟨z,z,z⟩
 replace hh:=iteO_f h107 hh
 replace h107:=of_decide_eq_false h107
 refine TL.g z (fieldLoc z fo32_3 z) (TL.g z (loadLoc z ag29 z (i:=1) z z) (TL.g z (fieldLoc z fo32_3 z) (TL.g z (loadLoc z ag29 z (i:=0) z z) ?_)))
 obtain ⟨v32,u32,hh⟩:=bnd_e hh
 refine TL.gon z z z z z (callP (Gd_ f0_2 f1_2 u32) z z pf34 z z z ?_)
 refine TL.g z (OpVal.not z z) (TL.w z (pickFB z z z) (TL.j z z (TL.split 37 z (fun h108=> ?_) (fun h108=> ?_))))
 ·replace hh:=iteO_t h108 hh
  refine TL.f z (TL.f z (TL.f z (TL.f z (TL.f z (TL.f z (TL.w z (pickTB z z z) (TL.en (TC.t z (TC.a (TL.j z z (TL.en (TC.rt 0 (S.r ?_)))))))))))))
  obtain rfl:=so hh
  exact rq [4] ⟨z,z,z⟩
 replace hh:=iteO_f h108 hh
 refine TL.g z (fieldLoc z fo32_4 z) (TL.g z (loadLoc z ag30 z (i:=1) z z) (TL.g z (fieldLoc z fo32_4 z) (TL.g z (loadLoc z ag30 z (i:=0) z z) ?_)))
 obtain ⟨v40,u40,hh⟩:=bnd_e hh
 refine TL.gon z z z z z (callP (Ez_ f0_3 f1_3 u40) z z pf27 z z z ?_)
 refine TL.g z (OpVal.not z z) (TL.w z (pickFB z z z) (TL.en (TC.cB z hh (fun h109 hh=> ?_) (fun h109 hh=> ?_))))
 ·refine TC.a (TL.j z z (TL.en (TC.rt 0 (S.r ?_))))
  obtain rfl:=so hh
  exact rq [4] ⟨z,z,z⟩
 refine TC.skip (S.n (TC.seq (TC.a (TL.i z z (TL.en (TC.block (TC.loopG (α:=(Nat)×(Unit)) (rgs [(4,2),(45,40)]) (fun g=>[(5,.int .i64 ((g.1:Nat):Int))]) (fun g=>[Res.cells b101 #[.string (bs x0.front),.slice a0_0 x0.next.length c0_0,.slice a0_1 x0.outs.length c0_1,.slice a0_2 x0.fin.length c0_2,.slice a0_3 x0.tail.length c0_3] 32,Res.cells b103 #[.string (bs x1.front),.slice a1_0 x1.next.length c1_0,.slice a1_1 x1.outs.length c1_1,.slice a1_2 x1.fin.length c1_2,.slice a1_3 x1.tail.length c1_3] 32]) (fun g=>σ) (fun g=>iter (fun q:Nat=>Cb_ x0 x1 q) g.1=some r) (fun g=>rounds (fun q:Nat=>Cb_ x0 x1 q) g.1) (0,()) (Sub.f [1] 2) z (by repeat (first|exact trivial|refine ⟨z,?_⟩)) hh (fun g1 j1 hg1=> ?_))))))))
 obtain ⟨k112,_⟩:=g1
 have hh:=hg1;clear hg1
 try dsimp only
 obtain ⟨z1,hh,hR1⟩:=iter_e hh
 dsimp only [Cb_]at hh
 refine TC.seq (TC.a (TL.i z z (TL.w z (fieldLoc z fo32_1 z) (TL.w z (loadLoc z ag27 z (i:=0) z z) (TL.w z (lenC z underlying27 z) (TL.w z (OpVal.lss z z z) (TL.en (TC.cD z hh (fun h113 hh=> ?_) (fun h113 hh=> ?_)))))))))
 ·refine TC.skip (S.n (TC.cutG (α:=(Unit)×(Unit)) (rgs [(4,1),(52,33)]) (fun g=>[]) (fun g=>[Res.cells b101 #[.string (bs x0.front),.slice a0_0 x0.next.length c0_0,.slice a0_1 x0.outs.length c0_1,.slice a0_2 x0.fin.length c0_2,.slice a0_3 x0.tail.length c0_3] 32,Res.cells b103 #[.string (bs x1.front),.slice a1_0 x1.next.length c1_0,.slice a1_1 x1.outs.length c1_1,.slice a1_2 x1.fin.length c1_2,.slice a1_3 x1.tail.length c1_3] 32]) (fun g=>σ) (fun g=>C4_ k112=some z1) ?_ (fun g j hg=> ?_)))
  ·skip
   refine TC.block (TC.seq (TC.draw [] (by kernel_rfl) (TA.a 0 z (fieldLoc z fo32_1 z) z (TA.b 1 z (loadLoc z ag27 z (i:=0) z z) z (TA.a 2 z (moveI (.inl z) z) z (TA.b 3 z (indexN z underlying27 sz86 z z f0_0.isSl (by omega)) z ?_))))))
   obtain ⟨p114,hk114,hg114⟩:=RZ.seg f0_0 k112 (by omega)
   replace hk114:RS _ 1 eI_ (.slice p114.1 (nth x0.next k112 ([]:List Int)).length p114.2) (nth x0.next k112 ([]:List Int)):=hk114
   have hk114b:=hk114.rv.big
   refine TA.b 4 z (OpVal.of (loadSeg0 z ag86 z hg114 z) (v':= .slice p114.1 ((nth x0.next k112 ([]:List Int)).length) p114.2) z) z (TA.a 5 z (fieldLoc z fo32_1 z) z (TA.b 6 z (loadLoc z ag27 z (i:=1) z z) z (TA.a 7 z (moveI (.inl z) z) z ?_)))
   have u58:=grd_c hh
   replace hh:=grd_t hh
   refine TA.b 8 z (indexN z underlying27 sz86 z z f1_0.isSl (by omega)) z ?_
   obtain ⟨p115,hk115,hg115⟩:=RZ.seg f1_0 k112 (by omega)
   replace hk115:RS _ 1 eI_ (.slice p115.1 (nth x1.next k112 ([]:List Int)).length p115.2) (nth x1.next k112 ([]:List Int)):=hk115
   have hk115b:=hk115.rv.big
   refine TA.b 9 z (OpVal.of (loadSeg0 z ag86 z hg115 z) (v':= .slice p115.1 ((nth x1.next k112 ([]:List Int)).length) p115.2) z) z ?_
   obtain ⟨v60,u60,hh⟩:=bnd_e hh
   refine TA.ac 10 z (callP (Gl_ hk114 hk115 u60) z z pf52 z z z (k0 ?_))
   refine TA.a 11 z (OpVal.not z z) z (TA.a 12 z (moveB (.inl z) z) z (TA.split 64 z (fun h116=> ?_) (fun h116=> ?_)))
   ·replace hh:=iteO_t h116 hh
    refine TA.off 13 z z z z z z (TA.off 14 z z z z z z (TA.off 15 z z z z z z (TA.off 16 z z z z z z (TA.off 17 z z z z z z (TA.off 18 z z z z z z (TA.takeOff' 19 z (by kernel_rfl) (by kernel_rfl) (by kernel_rfl) (by kernel_rfl) z z z z z z z (TA.takeOff' 20 z (by kernel_rfl) (by kernel_rfl) (by kernel_rfl) (by kernel_rfl) z z z z z z z (TA.takeOff' 21 z (by kernel_rfl) (by kernel_rfl) (by kernel_rfl) (by kernel_rfl) z z z z z z z (TA.takeOff' 22 z (by kernel_rfl) (by kernel_rfl) (by kernel_rfl) (by kernel_rfl) z z z z z z z (TA.takeOff' 23 z (by kernel_rfl) (by kernel_rfl) (by kernel_rfl) (by kernel_rfl) z z z z z z z (TA.takeOff' 24 z (by kernel_rfl) (by kernel_rfl) (by kernel_rfl) (by kernel_rfl) z z z z z z z (TA.takeOff' 25 z (by kernel_rfl) (by kernel_rfl) (by kernel_rfl) (by kernel_rfl) z z z z z z z (TA.takeOff' 26 z (by kernel_rfl) (by kernel_rfl) (by kernel_rfl) (by kernel_rfl) z z z z z z z (TA.takeOff' 27 z (by kernel_rfl) (by kernel_rfl) (by kernel_rfl) (by kernel_rfl) z z z z z z z (TA.takeOff' 28 z (by kernel_rfl) (by kernel_rfl) (by kernel_rfl) (by kernel_rfl) z z z z z z z ?_)))))))))))))))
    refine TA.takeOff' 29 z (by kernel_rfl) (by kernel_rfl) (by kernel_rfl) (by kernel_rfl) z z z z z z z (TA.takeOff' 30 z (by kernel_rfl) (by kernel_rfl) (by kernel_rfl) (by kernel_rfl) z z z z z z z (TA.off 31 z z z z z z (TA.a 32 z (pickTB z z z) z (TA.dn (S.n (TC.t z (TC.a (TL.j z z (TL.en (TC.rt 0 (B.r (S.r (S.r ?_)))))))))))))
    replace hh:=fin_x hR1 hh
    refine B.r (S.r ?_)
    obtain rfl:=so hh
    exact rq [4] ⟨z,z,z⟩
   replace hh:=iteO_f h116 hh
   refine TA.on 13 z z z z (moveI (.inl z) z) z (TA.on 14 z z z z (fieldLoc z fo32_2 z) z (TA.on 15 z z z z (loadLoc z ag28 z (i:=0) z z) z (TA.on 16 z z z z (lenC z underlying28 z) z (TA.on 17 z z z z (OpVal.lss z z z) z (TA.on 18 z z z z (moveB (.inl z) z) z (TA.split 70 z (fun h117=> ?_) (fun h117=> ?_)))))))
   ·replace hh:=iteO_t h117 hh
    replace h117:=of_decide_eq_true h117
    refine TA.on 19 z z z z (fieldLoc z fo32_2 z) z (TA.on 20 z z z z (loadLoc z ag28 z (i:=0) z z) z (TA.on 21 z z z z (moveI (.inl z) z) z (TA.on 22 z z z z (indexN z underlying28 sz30 z z f0_1.isSl (by omega)) z ?_)))
    obtain ⟨p118,hk118,hg118⟩:=RZ.seg f0_1 k112 (by omega)
    replace hk118:RS _ 1 eS_ (.slice p118.1 (nth x0.outs k112 ([]:List (List UInt8))).length p118.2) (nth x0.outs k112 ([]:List (List UInt8))):=hk118
    have hk118b:=hk118.rv.big
    refine TA.on 23 z z z z (OpVal.of (loadSeg0 z ag30 z hg118 z) (v':= .slice p118.1 ((nth x0.outs k112 ([]:List (List UInt8))).length) p118.2) z) z (TA.on 24 z z z z (fieldLoc z fo32_2 z) z (TA.on 25 z z z z (loadLoc z ag28 z (i:=1) z z) z (TA.on 26 z z z z (moveI (.inl z) z) z ?_)))
    have u77:=grd_c hh
    replace hh:=grd_t hh
    refine TA.on 27 z z z z (indexN z underlying28 sz30 z z f1_1.isSl (by omega)) z ?_
    obtain ⟨p119,hk119,hg119⟩:=RZ.seg f1_1 k112 (by omega)
    replace hk119:RS _ 1 eS_ (.slice p119.1 (nth x1.outs k112 ([]:List (List UInt8))).length p119.2) (nth x1.outs k112 ([]:List (List UInt8))):=hk119
    have hk119b:=hk119.rv.big
    refine TA.on 28 z z z z (OpVal.of (loadSeg0 z ag30 z hg119 z) (v':= .slice p119.1 ((nth x1.outs k112 ([]:List (List UInt8))).length) p119.2) z) z ?_
    obtain ⟨v79,u79,hh⟩:=bnd_e hh
    refine TA.actOn 29 (by kernel_rfl) z z z z z z (callP (Ez_ hk118 hk119 u79) z z pf27 z z z (k0 ?_))
    refine TA.on 30 z z z z (OpVal.not z z) z (TA.on 31 z z z z (pickTB z z z) z (TA.a 32 z (pickFB z z z) z (TA.dn (S.n (TC.cB z hh (fun h120 hh=> ?_) (fun h120 hh=> ?_))))))
    ·refine TC.a (TL.j z z (TL.en (TC.rt 0 (B.r (S.r (S.r ?_))))))
     replace hh:=fin_x hR1 hh
     refine B.r (S.r ?_)
     obtain rfl:=so hh
     exact rq [4] ⟨z,z,z⟩
    exact TC.skip (B.n (S.n (cf ((),()) hh (Sub.f [1,1] 2))))
   replace hh:=iteO_f h117 hh
   replace h117:=of_decide_eq_false h117
   refine TA.off 19 z z z z z z (TA.off 20 z z z z z z (TA.off 21 z z z z z z (TA.off 22 z z z z z z (TA.off 23 z z z z z z (TA.off 24 z z z z z z (TA.off 25 z z z z z z (TA.off 26 z z z z z z (TA.off 27 z z z z z z (TA.off 28 z z z z z z (TA.off 29 z z z z z z (TA.off 30 z z z z z z (TA.on 31 z z z z (pickFB z z z) z (TA.a 32 z (pickFB z z z) z (TA.dn (S.n ?_)))))))))))))))
   exact TC.f z (TC.skip (B.n (S.n (cf ((),()) hh (Sub.f [1,1] 2)))))
  skip
  obtain ⟨_,_⟩:=g
  have hh:=hg;clear hg
  try dsimp only
  dsimp only [C4_]at hh
  refine TC.region (TL.i z z (TL.w z (OpVal.succ z z z (by omega)) (TL.i z z (TL.en ?_))))
  obtain ⟨hh,hlt121⟩:=nxt_x hR1 hh
  exact lf ((k112+1),()) hlt121 hh (Sub.f [1,1] 2)
 refine TC.exit (S.x (S.x ?_))
 replace hh:=fin_x hR1 hh
 refine TC.exitHere (S.n (TC.a (TL.j z z (TL.en (TC.rt 0 ?_)))))
 obtain rfl:=so hh
 exact rq [4] ⟨z,z,z⟩
end Go.Proofs.YtchebnpdnfhenaaGreatDoor
end

noncomputable section
namespace Go.Proofs.YtchebnpdnfhenaaGreatDoor
open Go Go.E
theorem cmpB_pre: ∀p a b:List UInt8,Lib.compareBytes (p++a) (p++b)=Lib.compareBytes a b
  |[],_,_=>rfl
  |x::p,a,b=>by
    simp only [List.cons_append,Lib.compareBytes,UInt8.lt_irrefl,if_false]
    exact cmpB_pre p a b
theorem cut_cmp{f:List UInt8}{x y:Tip}(hx:f <+: x.out)(hy:f <+: y.out):cmpTip (cutT f.length x) (cutT f.length y)=cmpTip x y:=by
  obtain ⟨a,ha⟩:=hx
  obtain ⟨b,hb⟩:=hy
  unfold cmpTip cutT
  simp only [←ha,←hb,List.drop_left,cmpB_pre]
theorem once_cut{l:List Tip}{f:List UInt8}(hf: ∀x∈l,f <+: x.out):onceL Tip.zero cmpTip (l.map (cutT f.length))=(onceL Tip.zero cmpTip l).map (cutT f.length):=by
  refine rising_eq cmpTip_good (sorted_onceL cmpTip_good _) ?_ fun x=> ?_
  · rw [List.pairwise_map]
    refine (sorted_onceL cmpTip_good l).imp_of_mem fun {a b} ha hb h=> ?_
    rw [cut_cmp (hf a ((mem_onceL ..).1 ha)) (hf b ((mem_onceL ..).1 hb))];exact h
  rw [mem_onceL]
  simp only [List.mem_map]
  exact ⟨fun ⟨y,h1,h2⟩=>⟨y,(mem_onceL ..).2 h1,h2⟩,fun ⟨y,h1,h2⟩=>⟨y,(mem_onceL ..).1 h1,h2⟩⟩
theorem lcp_once(l:List Tip):lcpL ((onceL Tip.zero cmpTip l).map Tip.out)=lcpL (l.map Tip.out):=lcpL_congr fun x=>by
  simp only [List.mem_map]
  exact ⟨fun ⟨y,h1,h2⟩=>⟨y,(mem_onceL ..).1 h1,h2⟩,fun ⟨y,h1,h2⟩=>⟨y,(mem_onceL ..).2 h1,h2⟩⟩
theorem stripD_def(l:List Tip):stripD l=if dupB (onceL Tip.zero cmpTip l)=true then .inl 12 else if 4096<(lcpL (l.map Tip.out)).length then .inl 2 else
    if ∃x∈onceL Tip.zero cmpTip l,4096<(x.out.drop (lcpL (l.map Tip.out)).length).length then .inl 2 else .inr (lcpL (l.map Tip.out),(onceL Tip.zero cmpTip l).map (cutT (lcpL (l.map Tip.out)).length)):=by
  rw [←lcp_once l];rfl
theorem dup_cut(n:Nat): ∀l:List Tip,dupB (l.map (cutT n))=dupB l
  |[]=>rfl
  |[a]=>rfl
  |a::b::l=>by
    have:=dup_cut n (b::l)
    simp only [List.map_cons,dupB]at this ⊢
    rw [this];rfl
def failE(e k:Int):Int:=if e=0 then k else e
theorem fail_eq(R:List (List Tip))(M e k:Int):Ae_ ⟨R,M,e⟩ k=some ⟨R,M,failE e k⟩:=by
  unfold Ae_ failE
  by_cases h:e=0
  · rw [iteO_dt h,if_pos h]
  rw [iteO_df h,if_neg h]
theorem fail_eq'(x0:RMaker)(k:Int):Ae_ x0 k=some ⟨x0.rows,x0.most,failE x0.e k⟩:=fail_eq x0.rows x0.most x0.e k
theorem failE_twice(e:Int){j k:Int}(hj:j≠0):failE (failE e j) k=failE e j:=by
  unfold failE
  by_cases h:e=0
  · rw [if_pos h,if_neg hj]
  rw [if_neg h,if_neg h]
def errX{α:Type}:Int⊕α→Int
  | .inl k=>k
  | .inr _=>0
theorem failE_zero(e:Int):failE e 0=e:=by unfold failE;split<;>omega
theorem rrow_dup (m : List Tip) (x0 : RMaker) (f : List UInt8) {e1 : Int} (he : e1 = (if dupB m = true then failE x0.e 12 else x0.e)) {y : (List Tip) × (List UInt8) × RMaker}
    (h:iter (fun q:Int×Nat=>Ab_ m x0 f q.1 q.2) (e1,0)=some y) (hm:m.length≤281474976710656):iter (fun q:Int×Nat=>Af_ m x0 f q.1 q.2) (x0.e,1)=some y:=by
  obtain ⟨r,h1,h2⟩:=iter_up (step:=fun q:Int×Nat=>Af_ m x0 f q.1 q.2) (fun s k=>(s,k+1)) (m.length - 1) (fun k s=>(s=failE x0.e 12∧ ∃j,j<k∧(nth m j Tip.zero).state=(nth m (j+1) Tip.zero).state)∨(s=x0.e∧ ∀j,j<k→(nth m j Tip.zero).state≠(nth m (j+1) Tip.zero).state)) (fun r=>r=y)
    (fun k s hk hI=>by
      have hw:IntKind.i64.wrap (((k+1:Nat):Int) - 1)=((k:Nat):Int):=by rw [show ((k+1:Nat):Int) - 1=(k:Int) by omega,wrap64_of (by omega) (by omega)]
      have hst:Af_ m x0 f s (k+1)=if (nth m k Tip.zero).state=(nth m (k+1) Tip.zero).state then some (.inl (failE s 12,k+1+1)) else some (.inl (s,k+1+1)):=by
        unfold Af_ B1_
        rw [iteO_dt (by omega),hw,grd_mk ⟨by omega,by omega⟩,Int.toNat_natCast]
        by_cases c:(nth m k Tip.zero).state=(nth m (k+1) Tip.zero).state
        · rw [iteO_dt c,if_pos c,fail_eq];rfl
        rw [iteO_df c,if_neg c];rfl
      by_cases c:(nth m k Tip.zero).state=(nth m (k+1) Tip.zero).state
      · rw [if_pos c]at hst
        refine .inl ⟨_,hst,.inl ⟨?_,k,by omega,c⟩⟩
        rcases hI with ⟨rfl,_⟩|⟨rfl,_⟩
        · exact failE_twice _ (by decide)
        rfl
      rw [if_neg c]at hst
      refine .inl ⟨_,hst,?_⟩
      rcases hI with ⟨rfl,j,h1,h2⟩|⟨rfl,h2⟩
      · exact .inl ⟨rfl,j,by omega,h2⟩
      refine .inr ⟨rfl,fun j hj=> ?_⟩
      by_cases e:j=k
      · subst e;exact c
      exact h2 j (by omega))
    (fun s hI=>by
      refine ⟨y,?_,rfl⟩
      have hs:s=e1:=by
        rw [he]
        rcases hI with ⟨rfl,j,h1,h2⟩|⟨rfl,h2⟩
        · rw [if_pos ((dupB_iff m).2 ⟨j,by omega,h2⟩)]
        rw [if_neg fun hd=>by
          obtain ⟨j,h3,h4⟩:=(dupB_iff m).1 hd
          exact h2 j (by omega) h4]
      show Af_ m x0 f s (m.length - 1+1)=_
      unfold Af_
      rw [iteO_df (by omega),hs,h];rfl) (s0:=x0.e) (.inr ⟨rfl,fun j hj=>by omega⟩)
  rw [←h2];exact h1
theorem rrow_long (m : List Tip) (x0 : RMaker) (f : List UInt8) (e1 : Int) :
    iter (fun q:Int×Nat=>Ab_ m x0 f q.1 q.2) (e1,0)=some (m,f,⟨x0.rows,x0.most,if (∃x∈m,4096<x.out.length)∨4096<f.length then failE e1 2 else e1⟩):=by
  obtain ⟨r,h1,h2⟩:=iter_up (step:=fun q:Int×Nat=>Ab_ m x0 f q.1 q.2) (fun s k=>(s,k)) m.length (fun k s=>(s=failE e1 2∧ ∃x∈m.take k,4096<x.out.length)∨(s=e1∧ ∀x∈m.take k, ¬ 4096<x.out.length))
    (fun r=>r=(m,f,⟨x0.rows,x0.most,if (∃x∈m,4096<x.out.length)∨4096<f.length then failE e1 2 else e1⟩))
    (fun k s hk hI=>by
      have hst:Ab_ m x0 f s k=if 4096<(nth m k Tip.zero).out.length then some (.inl (failE s 2,k+1)) else some (.inl (s,k+1)):=by
        unfold Ab_ By_
        rw [iteO_dt (by omega)]
        by_cases c:4096<(nth m k Tip.zero).out.length
        · rw [iteO_dt (by omega),if_pos c,fail_eq];rfl
        rw [iteO_df (by omega),if_neg c];rfl
      have ht:=take_snoc m hk Tip.zero
      by_cases c:4096<(nth m k Tip.zero).out.length
      · rw [if_pos c]at hst
        refine .inl ⟨_,hst,.inl ⟨?_,_,by rw [ht];simp,c⟩⟩
        rcases hI with ⟨rfl,_⟩|⟨rfl,_⟩
        · exact failE_twice _ (by decide)
        rfl
      rw [if_neg c]at hst
      refine .inl ⟨_,hst,?_⟩
      rcases hI with ⟨rfl,x,h1,h2⟩|⟨rfl,h2⟩
      · exact .inl ⟨rfl,x,by rw [ht];exact List.mem_append_left _ h1,h2⟩
      refine .inr ⟨rfl,fun x hx=> ?_⟩
      rw [ht]at hx
      rcases List.mem_append.1 hx with hx|hx
      · exact h2 x hx
      rw [List.mem_singleton.1 hx];exact c)
    (fun s hI=>by
      rw [List.take_length]at hI
      refine ⟨_,?_,rfl⟩
      show Ab_ m x0 f s m.length=_
      unfold Ab_ B0_
      rw [iteO_df (by omega)]
      by_cases c:4096<f.length
      · rw [iteO_dt (by omega),fail_eq,if_pos (.inr c)]
        rcases hI with ⟨rfl,_⟩|⟨rfl,_⟩
        · rw [failE_twice _ (by decide)];rfl
        rfl
      rw [iteO_df (by omega)]
      rcases hI with ⟨rfl,x,hx,hl⟩|⟨rfl,hl⟩
      · rw [if_pos (.inl ⟨x,hx,hl⟩)];rfl
      rw [if_neg (by rintro (⟨x,hx,hl2⟩|q)<;>first|exact hl _ hx hl2|exact c q)];rfl) (s0:=e1) (.inr ⟨rfl,by simp⟩)
  rw [←h2];exact h1
theorem rrow_ok (x0 : RMaker) {l : List Tip} (hl : l.length ≤ 1000000) (hb : ∀ x ∈ l, x.out.length ≤ 281474976710656) :
    ∃r f,Bw_ x0 l=some (r,f,⟨x0.rows,x0.most,failE x0.e (errX (stripD l))⟩)∧ ∀f' r',stripD l= .inr (f',r')→r=r'∧f=f':=by
  have hpre: ∀x∈l,lcpL (l.map Tip.out) <+: x.out:=fun x hx=>lcpL_pre (List.mem_map.2 ⟨x,hx,rfl⟩)
  refine ⟨onceL Tip.zero cmpTip (l.map (cutT (lcpL (l.map Tip.out)).length)),lcpL (l.map Tip.out),?_,?_⟩
  · have ha : iter (fun q : (List Tip) × Nat => Ag_ l (lcpL (l.map Tip.out)) x0 q.1 q.2) (([] : List Tip), 0) = some (onceL Tip.zero cmpTip (l.map (cutT (lcpL (l.map Tip.out)).length)), lcpL (l.map Tip.out), ⟨x0.rows, x0.most, failE x0.e (errX (stripD l))⟩) := by
      obtain ⟨r,h1,h2⟩:=iter_up (step:=fun q:(List Tip)×Nat=>Ag_ l (lcpL (l.map Tip.out)) x0 q.1 q.2) (fun s k=>(s,k)) l.length (fun k s=>s=(l.take k).map (cutT (lcpL (l.map Tip.out)).length)) (fun r=>r=(onceL Tip.zero cmpTip (l.map (cutT (lcpL (l.map Tip.out)).length)),lcpL (l.map Tip.out),⟨x0.rows,x0.most,failE x0.e (errX (stripD l))⟩))
        (fun k s hk hI=> .inl ⟨_,by
          subst hI
          show Ag_ l _ x0 _ k=_
          unfold Ag_
          rw [iteO_dt (by omega),grd_mk ⟨(hpre _ (mem_at _ hk)).length_le,Nat.le_refl _⟩,grd_mk (by rw [List.length_map,List.length_take];simp;omega)];rfl,by
          subst hI
          rw [take_snoc l hk Tip.zero,List.map_append];rfl⟩)
        (fun s hI=>by
          subst hI
          refine ⟨_,?_,rfl⟩
          rw [List.take_length]
          show Ag_ l _ x0 _ l.length=_
          unfold Ag_
          rw [iteO_df (by omega),sortTips_eq (by rw [List.length_map];exact hl),bnd_mk,rrow_dup _ x0 _ rfl (rrow_long _ x0 _ _) (by have h9:=E7_ (d:=Tip.zero) (cf:=cmpTip) (l.map (cutT (lcpL (l.map Tip.out)).length));rw [List.length_map]at h9;show (onceL Tip.zero cmpTip (l.map (cutT (lcpL (l.map Tip.out)).length))).length≤_;omega)]
          show some (Sum.inr _)=some (Sum.inr _)
          congr 5
          rw [once_cut hpre,dup_cut]
          rw [stripD_def]
          by_cases c1:dupB (onceL Tip.zero cmpTip l)=true
          · rw [if_pos c1,if_pos c1,failE_twice _ (by decide)]
            show (if _ then _ else _)=failE x0.e 12
            rw [ite_self]
          rw [if_neg c1,if_neg c1]
          have e:(∃x∈(onceL Tip.zero cmpTip l).map (cutT (lcpL (l.map Tip.out)).length),4096<x.out.length)↔ ∃x∈onceL Tip.zero cmpTip l,4096<(x.out.drop (lcpL (l.map Tip.out)).length).length:=by
            constructor
            · rintro ⟨x,hx,hl⟩
              obtain ⟨y,hy,rfl⟩:=List.mem_map.1 hx
              exact ⟨y,hy,hl⟩
            rintro ⟨y,hy,hl⟩
            exact ⟨_,List.mem_map.2 ⟨y,hy,rfl⟩,hl⟩
          by_cases c2:4096<(lcpL (l.map Tip.out)).length
          · rw [if_pos (.inr c2),if_pos c2];rfl
          rw [if_neg c2]
          by_cases c3: ∃x∈onceL Tip.zero cmpTip l,4096<(x.out.drop (lcpL (l.map Tip.out)).length).length
          · rw [if_pos (.inl (e.2 c3)),if_pos c3];rfl
          rw [if_neg (by rintro (q|q)<;>first|exact c2 q|exact c3 (e.1 q)),if_neg c3]
          exact (failE_zero _).symm) (s0:=[]) (by simp)
      rw [←h2];exact h1
    have hbx: ∀x∈l.map Tip.out,x.length≤281474976710656:=fun x hx=>by
      obtain ⟨y,hy,rfl⟩:=List.mem_map.1 hx;exact hb y hy
    obtain ⟨r,h1,h2⟩:=iter_up (step:=fun q:(List (List UInt8))×Nat=>An_ l x0 q.1 q.2) (fun s k=>(s,k)) l.length (fun k s=>s=(l.take k).map Tip.out) (fun r=>r=(onceL Tip.zero cmpTip (l.map (cutT (lcpL (l.map Tip.out)).length)),lcpL (l.map Tip.out),⟨x0.rows,x0.most,failE x0.e (errX (stripD l))⟩))
      (fun k s hk hI=> .inl ⟨_,by
        subst hI
        show An_ l x0 _ k=_
        unfold An_
        rw [iteO_dt (by omega),grd_mk (by rw [List.length_map,List.length_take];simp;omega)];rfl,by
        subst hI
        rw [take_snoc l hk Tip.zero,List.map_append];rfl⟩)
      (fun s hI=>by
        subst hI
        refine ⟨_,?_,rfl⟩
        rw [List.take_length]
        show An_ l x0 _ l.length=_
        unfold An_
        rw [iteO_df (by omega),rLcp_eq hbx,bnd_mk,ha];rfl) (s0:=[]) (by simp)
    rw [←h2];exact h1
  intro f' r' h
  rw [stripD_def]at h
  by_cases c1:dupB (onceL Tip.zero cmpTip l)=true
  · rw [if_pos c1]at h;cases h
  rw [if_neg c1]at h
  by_cases c2:4096<(lcpL (l.map Tip.out)).length
  · rw [if_pos c2]at h;cases h
  rw [if_neg c2]at h
  by_cases c3: ∃x∈onceL Tip.zero cmpTip l,4096<(x.out.drop (lcpL (l.map Tip.out)).length).length
  · rw [if_pos c3]at h;cases h
  rw [if_neg c3]at h
  cases h
  exact ⟨once_cut hpre,rfl⟩
end Go.Proofs.YtchebnpdnfhenaaGreatDoor
end
