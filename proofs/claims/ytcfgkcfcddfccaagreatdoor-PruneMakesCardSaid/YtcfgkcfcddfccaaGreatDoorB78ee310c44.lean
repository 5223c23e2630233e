/- Parts of a proof, one behind the other: what a machine reaches, functions decompiled, plain lemmas. Conditions stand with each lemma. -/
import Derived.Test.YtcfgkcfcddfccaaGreatDoorB436a4c84ed
import Derived.Test.YtcfgkcfcddfccaaGreatDoorB2a01e67502
import Derived.Test.YtcfgkcfcddfccaaGreatDoorBffc86649ad
import Derived.Test.YtcfgkcfcddfccaaGreatDoorBd3ad7cec3a
import Derived.Test.YtcfgkcfcddfccaaGreatDoorB2b90090159
import Derived.LaidMore
import Derived.OpenShut
import Derived.MakeChecks
import Derived.WalkKit
import Derived.ProofKit
import Derived.ShutString
import Derived.ChangeOld
import Derived.SizedLaws
import Derived.Below
import Derived.SevenTiedAt
import Derived.Stop.Joined

set_option linter.unusedVariables false
set_option linter.unusedSimpArgs false
set_option linter.unusedSectionVars false
set_option maxRecDepth 100000
set_option maxHeartbeats 8000000

noncomputable section
namespace Go.Proofs.YtcfgkcfcddfccaaGreatDoor
open Go Go.E Go.E.OpVal Go.E.OpOk Go.Proofs.Tryz
open List (replicate)
theorem pf64:plainF Tryz.prog 64=true:=by kernel_rfl
theorem pf65:plainF Tryz.prog 65=true:=by kernel_rfl
theorem pf66:plainF Tryz.prog 66=true:=by kernel_rfl
def Hj_(jZ:Nat)(i280:Int)(l282:List Tip)(l286:List Tip)(l290:List Arc)(t293:Bool):Option ((Int×(List Tip)×(List Tip)×(List Arc)×Bool×Nat)⊕((Int×(List Tip)×(List Tip)×(List Arc)×Bool×Nat)⊕(Fst×Int))):=
 nxt (i280,l282,l286,l290,t293,(jZ+1))
def Um(x1:Dfa)(x0:Fst)(gY:Nat)(Eo:Int)(z_:List Tip)(wo:List Tip)(zZ:List Arc)(D5:Bool)(jZ:Nat):Option ((Int×(List Tip)×(List Tip)×(List Arc)×Bool×Nat)⊕((Int×(List Tip)×(List Tip)×(List Arc)×Bool×Nat)⊕(Fst×Int))):=
 aI (decide ((jZ:Int)<(x1.fin.length:Int))) (aI (nth x1.fin jZ false) (bnd (Gn_ (⟨(⟨Eo,z_,wo,zZ⟩:Fst),D5⟩:Grow) (⟨IntKind.i64.wrap ((IntKind.i64.wrap (((nth x0.ends gY bD).state) * (x1.next.length:Int)))+(jZ:Int)),(nth x0.ends gY bD).out⟩:Tip)) (λI_=>Hj_ jZ I_.f.states I_.f.starts I_.f.ends I_.f.arcs I_.over)) (Hj_ jZ Eo z_ wo zZ D5)) (fin (nxt (Eo,z_,wo,zZ,D5,(gY+1))))
def Ur(sH:(FM Int BSet))(x0:Fst)(jf:Nat)(x1:Dfa)(Ad:Nat)(Hg:Int)(BI:List Tip)(BH:List Tip)(BG:List Arc)(DZ:Bool)(Aa:Nat):Option ((Int×(List Tip)×(List Tip)×(List Arc)×Bool×Nat)⊕((Int×(List Tip)×(List Tip)×(List Arc)×Bool×Nat)⊕((Int×(List Tip)×(List Tip)×(List Arc)×Bool×Nat)⊕(Fst×Int)))):=
 aI (decide ((Aa:Int)<((xU sH).length:Int))) (bnd (Gq_ (⟨(⟨Hg,BI,BH,BG⟩:Fst),DZ⟩:Grow) (⟨IntKind.i64.wrap ((IntKind.i64.wrap (((nth x0.arcs jf aO).frm) * (x1.next.length:Int)))+(Ad:Int)),IntKind.i64.wrap ((IntKind.i64.wrap (((nth x0.arcs jf aO).to) * (x1.next.length:Int)))+(nth (xU sH) Aa 0)),(sH.get (nth (xU sH) Aa 0) BSet.zero),(nth x0.arcs jf aO).out,(nth x0.arcs jf aO).copy⟩:Arc)) (λv145=>nxt (v145.f.states,v145.f.starts,v145.f.ends,v145.f.arcs,v145.over,(Aa+1)))) (fin (aI DZ (bnd (PX (⟨(⟨Hg,BI,BH,BG⟩:Fst),DZ⟩:Grow)) (λvT=>fin (fin (some ((⟨vT.1.states,vT.1.starts,vT.1.ends,vT.1.arcs⟩:Fst),vT.2))))) (nxt (Hg,BI,BH,BG,DZ,(Ad+1)))))
def Uw(x1:Dfa)(x0:Fst)(jf:Nat)(Jt:Int)(Eb:List Tip)(oM:List Tip)(Ea:List Arc)(Jc:Bool)(Ad:Nat):Option ((Int×(List Tip)×(List Tip)×(List Arc)×Bool×Nat)⊕((Int×(List Tip)×(List Tip)×(List Arc)×Bool×Nat)⊕(Fst×Int))):=
 aI (decide ((Ad:Int)<(x1.next.length:Int))) (bnd (Iy_ x1 (Ad:Int) ((nth x0.arcs jf aO).set)) (λsH=>grd (yu_ sH/\sH.n<=1000000) (aV (λq:Int×(List Tip)×(List Tip)×(List Arc)×Bool×Nat=>Ur sH x0 jf x1 Ad q.1 q.2.1 q.2.2.1 q.2.2.2.1 q.2.2.2.2.1 q.2.2.2.2.2) (Jt,Eb,oM,Ea,Jc,0)))) (fin (nxt (Jt,Eb,oM,Ea,Jc,(jf+1))))
def Ul(x0:Fst)(x1:Dfa)(Ju:Int)(kM:List Tip)(Ed:List Tip)(Ec:List Arc)(Jd:Bool)(jf:Nat):Option ((Int×(List Tip)×(List Tip)×(List Arc)×Bool×Nat)⊕(Fst×Int)):=
 aI (decide ((jf:Int)<(x0.arcs.length:Int))) (aV (λq:Int×(List Tip)×(List Tip)×(List Arc)×Bool×Nat=>Uw x1 x0 jf q.1 q.2.1 q.2.2.1 q.2.2.2.1 q.2.2.2.2.1 q.2.2.2.2.2) (Ju,kM,Ed,Ec,Jd,0)) (fin (bnd (PX (⟨(⟨Ju,kM,Ed,Ec⟩:Fst),Jd⟩:Grow)) (λv196=>some ((⟨v196.1.states,v196.1.starts,v196.1.ends,v196.1.arcs⟩:Fst),v196.2))))
def Ux(x0:Fst)(x1:Dfa)(i210:Int)(iC:List Tip)(Ef:List Tip)(Ee:List Arc)(Jf:Bool)(gY:Nat):Option ((Int×(List Tip)×(List Tip)×(List Arc)×Bool×Nat)⊕(Fst×Int)):=
 aI (decide ((gY:Int)<(x0.ends.length:Int))) (aV (λq:Int×(List Tip)×(List Tip)×(List Arc)×Bool×Nat=>Um x1 x0 gY q.1 q.2.1 q.2.2.1 q.2.2.2.1 q.2.2.2.2.1 q.2.2.2.2.2) (i210,iC,Ef,Ee,Jf,0)) (fin (aV (λq:Int×(List Tip)×(List Tip)×(List Arc)×Bool×Nat=>Ul x0 x1 q.1 q.2.1 q.2.2.1 q.2.2.2.1 q.2.2.2.2.1 q.2.2.2.2.2) (i210,iC,Ef,Ee,Jf,0)))
def Us(x0:Fst)(x1:Dfa)(y7:Int)(gK:List Tip)(dP:List Tip)(yV:List Arc)(t164:Bool)(rC:Nat):Option ((Int×(List Tip)×(List Tip)×(List Arc)×Bool×Nat)⊕(Fst×Int)):=
 aI (decide ((rC:Int)<(x0.starts.length:Int))) (bnd (Fy_ (⟨(⟨y7,gK,dP,yV⟩:Fst),t164⟩:Grow) (⟨IntKind.i64.wrap (((nth x0.starts rC bD).state) * (x1.next.length:Int)),(nth x0.starts rC bD).out⟩:Tip)) (λv57=>nxt (v57.f.states,v57.f.starts,v57.f.ends,v57.f.arcs,v57.over,(rC+1)))) (fin (aV (λq:Int×(List Tip)×(List Tip)×(List Arc)×Bool×Nat=>Ux x0 x1 q.1 q.2.1 q.2.2.1 q.2.2.2.1 q.2.2.2.2.1 q.2.2.2.2.2) (y7,gK,dP,yV,t164,0)))
def H5_(x0:Fst)(x1:Dfa):Option (Fst×Int):=
 bnd (IE x0) (λv6=>aI (decide (v6≠0)) (some ((⟨0,([]:List Tip),([]:List Tip),([]:List Arc)⟩:Fst),1)) (bnd (Uj x1) (λv10=>aI (decide (v10≠0)) (some ((⟨0,([]:List Tip),([]:List Tip),([]:List Arc)⟩:Fst),1)) (aI (decide (1024<(IntKind.i64.wrap (x0.states * (x1.next.length:Int))))) (bnd (PX (⟨(⟨IntKind.i64.wrap (x0.states * (x1.next.length:Int)),([]:List Tip),([]:List Tip),([]:List Arc)⟩:Fst),false⟩:Grow)) (λGR=>some ((⟨GR.1.states,GR.1.starts,GR.1.ends,GR.1.arcs⟩:Fst),GR.2))) (aV (λq:Int×(List Tip)×(List Tip)×(List Arc)×Bool×Nat=>Us x0 x1 q.1 q.2.1 q.2.2.1 q.2.2.2.1 q.2.2.2.2.1 q.2.2.2.2.2) ((IntKind.i64.wrap (x0.states * (x1.next.length:Int))),([]:List Tip),([]:List Tip),([]:List Arc),false,0))))))
theorem Ln_{σ:ak}{x0:Fst}{ay:Option Addr}{au:Nat}{aC:Option Addr}{aJ:Nat}{aK:Option Addr}{aF:Nat}{x1:Dfa}{bW:Option Addr}{bV:Nat}{cu:Option Addr}{dZ:Nat}{d_:Option Addr}{b_:Nat}(aA:RS σ 2 bg (.slice ay x0.starts.length au) x0.starts)(aG:RS σ 2 bg (.slice aC x0.ends.length aJ) x0.ends)(aH:RS σ 8 dG (.slice aK x0.arcs.length aF) x0.arcs)(bU:dV σ aB bW bV x1.cls)(dO:RZ σ (bH 1 aB aW) (.slice cu x1.next.length dZ) x1.next)(dK:dV σ dL d_ b_ x1.fin){r:Fst×Int}(hh:H5_ x0 x1=some r):
  Con prog 23 #[.agg (eP x0 ay au aC aJ aK aF),.agg #[.slice bW x1.cls.length bV,.slice cu x1.next.length dZ,.slice d_ x1.fin.length b_]] σ [] (MK σ r):=by
 dsimp only [H5_]at hh;have f0_0b:=aA.rv.big;have f0_1b:=aG.rv.big;have f0_2b:=aH.rv.big;have f1_0b:=bU.rv.big;have f1_1b:=dO.big;have f1_2b:=dK.rv.big;refine Con.mkD (n:=148) Tryz.func23 z z z (λw0=> ?_);refine TB.seq ZK (υ (TL.bx (λaS=> ?_)));refine TL.bx (λbn=> ?_);refine TL.al (λfK=> ?_);refine TL.al (λo8=> ?_);refine R1 ?_;refine TB.seq ZK (R3 ?_);obtain ⟨v6,u6,hh⟩:=bQ hh;refine κ z (eG (Ut (x0:=x0) aA aG aH u6) z z Qn z z z ?_);refine R2 ?_;refine Γ 23 z (λrW=> ?_) (λrW=> ?_)
 ·obtain ⟨rW,hh⟩:=iT rW hh;refine R9 ?_;refine φ 1 z z (κ z (storeAll z Vq z z z z z z ?_));refine φ 1 z z (R2 ?_);refine TC.iH (ψ [1] 2) (θ ?_);obtain rfl:=so hh;exact rz
 obtain ⟨rW,hh⟩:=iF rW hh;refine TL.g z lA ?_;obtain ⟨v10,u10,hh⟩:=bQ hh;refine TL.gon z z z z z (eG (Hz_ (x0:=x1) bU dO dK u10) z z NV z z z ?_);refine R3 ?_;refine ι z hh (λjA hh=> ?_) (λjA hh=> ?_)
 ·refine R3 ?_;refine φ 1 z z (κ z (storeAll z Vq z z z z z z ?_));refine φ 1 z z (R2 ?_);refine TC.iH (ψ [1] 2) (θ ?_);obtain rfl:=so hh;exact rz
 refine R1 ?_;refine TB.seq ZK (R2 ?_);refine TL.bx (λnN=> ?_);refine R2 ?_;refine TB.seqD (TLB.v z mL z z (TLB.dfr (dargs:=[loc nN 0,loc fK 0,loc o8 0]) z z z z z (λa_ w_ hw_ ha_=> ?_)));refine TB.fin (Q:=dfrQ _ _ _ _ 61 [loc nN 0,loc fK 0,loc o8 0]) (ul_ (cap:=[]) (dargs:=[loc nN 0,loc fK 0,loc o8 0]) pf61) ?_ w_ a_ hw_ ha_;clear hw_ ha_ a_ w_;refine R29 ?_;refine ι z hh (λuP hh=> ?_) (λuP hh=> ?_)
 ·refine TC.nilS 79 2 bg (TC.nilS 79 2 bg (TC.nilS 49 8 dG (TC.front 4 z z (TC.front 5 z z (TC.front 2 z z (TC.front 3 z z (TC.front 4 z z (TC.front 5 z z ?_))))))));obtain ⟨GR,u156,hh⟩:=bQ hh;refine θ (⟨.inl z,_,ζ 6 z,(Gm_ u156).mono ?_⟩);rintro _ τ117 _ dR ⟨a117_1,c117_2,a117_4,c117_5,a117_7,c117_8,rfl,f117_3,f117_6,f117_9,rfl⟩;replace aA:=aA.mono dR;replace aG:=aG.mono dR;replace aH:=aH.mono dR;replace bU:=bU.mono dR;replace dO:=dO.mono dR;replace dK:=dK.mono dR;have f117_3b:=f117_3.rv.big;obtain rfl:=so hh;exact rz
 refine R10 ?_;refine TC.nilS 79 2 bg (TC.nilS 79 2 bg (TC.nilS 49 8 dG (TC.lp hh (nO,oO,nO,oO,nO,oO) (rgs [(9,1),(52,14)]) (λ⟨y7,gK,dP,yV,t164,rC⟩ ⟨a154,oZ,uX,c159,a162,AQ⟩=>([(52,.int .i64 (rC:Int))],[ω aS (eP x0 ay au aC aJ aK aF) 25,ω bn #[.slice bW x1.cls.length bV,.slice cu x1.next.length dZ,.slice d_ x1.fin.length b_] 35,ω fK #[.int .i64 0,aT,aT,aT] 25,ω o8 #[.int .i64 0] 27,ω nN #[.int .i64 y7,.slice a154 gK.length oZ,.slice uX dP.length c159,.slice a162 yV.length AQ,.bool t164] 93,ε 79 2 bg (.slice a154 gK.length oZ) gK,ε 79 2 bg (.slice uX dP.length c159) dP,ε 49 8 dG (.slice a162 yV.length AQ) yV])) (ψ [1,2,3,4,5,6,7] 8) ?_)));rintro ⟨y7,gK,dP,yV,t164,rC⟩ ⟨a154,oZ,uX,c159,a162,AQ⟩ _ z1 hh hR1;dsimp only [Us]at hh ⊢;refine ξ 5 z (λhb169=> ?_);refine ξ 6 z (λhb170=> ?_);refine ξ 7 z (λhb171=> ?_);refine R5 ?_;refine ι z hh (λh172 hh=> ?_) (λh172 hh=> ?_)
 ·refine R7 ?_;refine TL.al (λb173=> ?_);refine R11 ?_;refine φ 8 z z (φ 8 z z (φ 8 z z (φ 8 z z ?_)));obtain ⟨v57,NM,hh⟩:=bQ hh;refine κ z (OpOk.call (I0_ NM) z z pf62 z z z z ?_);rintro _ _ _ mD ⟨a175_1,c175_2,a175_3,c175_4,a175_5,c175_6,rfl,rfl,rfl⟩;refine R5 ?_;exact E.nx hR1 hh (a175_1,c175_2,a175_3,c175_4,a175_5,c175_6) (ψ [3,3,3,3,8,8,8,8] 8)
 refine R1 ?_;replace hh:=bF hR1 hh;refine R10 ?_;refine TC.lp hh (a154,oZ,uX,c159,a162,AQ) (rgs [(11,3),(69,26)]) (λ⟨i210,iC,Ef,Ee,Jf,gY⟩ ⟨a213,yu,MB,c218,Me,c222⟩=>([(69,.int .i64 (gY:Int))],[ω aS (eP x0 ay au aC aJ aK aF) 25,ω bn #[.slice bW x1.cls.length bV,.slice cu x1.next.length dZ,.slice d_ x1.fin.length b_] 35,ω fK #[.int .i64 0,aT,aT,aT] 25,ω o8 #[.int .i64 0] 27,ω nN #[.int .i64 i210,.slice a213 iC.length yu,.slice MB Ef.length c218,.slice Me Ee.length c222,.bool Jf] 93,ε 79 2 bg (.slice a213 iC.length yu) iC,ε 79 2 bg (.slice MB Ef.length c218) Ef,ε 49 8 dG (.slice Me Ee.length c222) Ee])) (ψ [7,7,7,7,7,7,7,7] 8) ?_;rintro ⟨i210,iC,Ef,Ee,Jf,gY⟩ ⟨a213,yu,MB,c218,Me,c222⟩ _ z1 hh hR1;dsimp only [Ux]at hh ⊢;refine ξ 5 z (λhb225=> ?_);refine ξ 6 z (λhb226=> ?_);refine ξ 7 z (λTz=> ?_);refine R5 ?_;refine ι z hh (λW9 hh=> ?_) (λW9 hh=> ?_)
 ·refine R7 ?_;refine TL.al (λPm=> ?_);refine R10 ?_;refine TC.lp hh (a213,yu,MB,c218,Me,c222) (rgs [(12,2),(76,18)]) (λ⟨Eo,z_,wo,zZ,D5,jZ⟩ ⟨Mc,LG,E5,EO,AX,AO⟩=>([(76,.int .i64 (jZ:Int))],[ω aS (eP x0 ay au aC aJ aK aF) 25,ω bn #[.slice bW x1.cls.length bV,.slice cu x1.next.length dZ,.slice d_ x1.fin.length b_] 35,ω fK #[.int .i64 0,aT,aT,aT] 25,ω o8 #[.int .i64 0] 27,ω nN #[.int .i64 Eo,.slice Mc z_.length LG,.slice E5 wo.length EO,.slice AX zZ.length AO,.bool D5] 93,ε 79 2 bg (.slice Mc z_.length LG) z_,ε 79 2 bg (.slice E5 wo.length EO) wo,ε 49 8 dG (.slice AX zZ.length AO) zZ,ω Pm #[.int .i64 ((nth x0.ends gY bD).state),.string (bs ((nth x0.ends gY bD).out))] 79])) (ψ [8,8,8,8,8,8,8,8] 9) ?_;rintro ⟨Eo,z_,wo,zZ,D5,jZ⟩ ⟨Mc,LG,E5,EO,AX,AO⟩ _ z2 hh hR2;dsimp only [Um]at hh ⊢;refine ξ 5 z (λGq=> ?_);refine ξ 6 z (λGp=> ?_);refine ξ 7 z (λTn=> ?_);refine R5 ?_;refine ι z hh (λWT hh=> ?_) (λWT hh=> ?_)
  ·refine R1 ?_;refine TC.cutG (α:=(Int×(List Tip)×(List Tip)×(List Arc)×Bool)×((Option Addr)×Nat×(Option Addr)×Nat×(Option Addr)×Nat)) (rgs [(12,2),(78,15)]) (λg=>[]) (λg=>[ω aS (eP x0 ay au aC aJ aK aF) 25,ω bn #[.slice bW x1.cls.length bV,.slice cu x1.next.length dZ,.slice d_ x1.fin.length b_] 35,ω fK #[.int .i64 0,aT,aT,aT] 25,ω o8 #[.int .i64 0] 27,ω nN #[.int .i64 g.1.1,.slice g.2.1 g.1.2.1.length g.2.2.1,.slice g.2.2.2.1 g.1.2.2.1.length g.2.2.2.2.1,.slice g.2.2.2.2.2.1 g.1.2.2.2.1.length g.2.2.2.2.2.2,.bool g.1.2.2.2.2] 93,ε 79 2 bg (.slice g.2.1 g.1.2.1.length g.2.2.1) g.1.2.1,ε 79 2 bg (.slice g.2.2.2.1 g.1.2.2.1.length g.2.2.2.2.1) g.1.2.2.1,ε 49 8 dG (.slice g.2.2.2.2.2.1 g.1.2.2.2.1.length g.2.2.2.2.2.2) g.1.2.2.2.1,ω Pm #[.int .i64 ((nth x0.ends gY bD).state),.string (bs ((nth x0.ends gY bD).out))] 79]) (λg=>σ) (λg=>Hj_ jZ g.1.1 g.1.2.1 g.1.2.2.1 g.1.2.2.2.1 g.1.2.2.2.2=some z2) ?_ (λg j hg=> ?_)
   ·refine R13 ?_;refine TC.cB z hh (λh294 hh=> ?_) (λh294 hh=> ?_)
    ·refine R11 ?_;refine φ 7 z z (φ 7 z z (φ 7 z z (φ 7 z z ?_)));obtain ⟨I_,u90,hh⟩:=bQ hh;refine κ z (OpOk.call (I9_ u90) z z pf63 z z z z ?_);rintro _ _ _ hle295 ⟨a295_1,c295_2,a295_3,c295_4,a295_5,c295_6,rfl,rfl,rfl⟩;refine R1 ?_;exact cf ((I_.f.states,I_.f.starts,I_.f.ends,I_.f.arcs,I_.over),(a295_1,c295_2,a295_3,c295_4,a295_5,c295_6)) hh (ψ [8,4,4,4,4,8,8,8,8] 9)
    refine R1 ?_;exact cf ((Eo,z_,wo,zZ,D5),(Mc,LG,E5,EO,AX,AO)) hh (ψ [8,8,8,8,8,8,8,8,8] 9)
   obtain ⟨⟨i280,l282,l286,l290,t293⟩,⟨X0,Xu,a287,c288,a291,c292⟩⟩:=g;have hh:=hg;clear hg
   try dsimp only
   dsimp only [Hj_]at hh;refine ξ 5 z (λhb299=> ?_);refine ξ 6 z (λhb300=> ?_);refine ξ 7 z (λhb301=> ?_);refine R4 ?_;exact E.nx hR2 hh (X0,Xu,a287,c288,a291,c292) (ψ [8,8,8,8,8,8,8,8,8] 9)
  refine R1 ?_;replace hh:=bF hR2 hh;refine R5 ?_;exact E.nx hR1 hh (Mc,LG,E5,EO,AX,AO) (ψ [7,7,7,7,7,7,7,7] 8)
 refine R1 ?_;replace hh:=bF hR1 hh;refine R10 ?_;refine TC.lp hh (a213,yu,MB,c218,Me,c222) (rgs [(15,3),(19,1),(98,50)]) (λ⟨Ju,kM,Ed,Ec,Jd,jf⟩ ⟨yD,yt,PG,O7,PE,O6⟩=>([(98,.int .i64 (jf:Int))],[ω bn #[.slice bW x1.cls.length bV,.slice cu x1.next.length dZ,.slice d_ x1.fin.length b_] 35,ω fK #[.int .i64 0,aT,aT,aT] 25,ω o8 #[.int .i64 0] 27,ω nN #[.int .i64 Ju,.slice yD kM.length yt,.slice PG Ed.length O7,.slice PE Ec.length O6,.bool Jd] 93,ε 79 2 bg (.slice yD kM.length yt) kM,ε 79 2 bg (.slice PG Ed.length O7) Ed,ε 49 8 dG (.slice PE Ec.length O6) Ec])) (ψ [7,7,7,7,7,7,7] 7) ?_;rintro ⟨Ju,kM,Ed,Ec,Jd,jf⟩ ⟨yD,yt,PG,O7,PE,O6⟩ _ z1 hh hR1;dsimp only [Ul]at hh ⊢;refine ξ 4 z (λhb349=> ?_);refine ξ 5 z (λhb350=> ?_);refine ξ 6 z (λTm=> ?_);refine R5 ?_;refine ι z hh (λh352 hh=> ?_) (λh352 hh=> ?_)
 ·refine R7 ?_;refine TL.al (λb353=> ?_);refine R8 ?_;refine TC.lp hh (yD,yt,PG,O7,PE,O6) (rgs [(16,2),(19,1),(103,44)]) (λ⟨Jt,Eb,oM,Ea,Jc,Ad⟩ ⟨L_,LD,qx,ql,L8,LC⟩=>([(103,.int .i64 (Ad:Int))],[ω bn #[.slice bW x1.cls.length bV,.slice cu x1.next.length dZ,.slice d_ x1.fin.length b_] 35,ω fK #[.int .i64 0,aT,aT,aT] 25,ω o8 #[.int .i64 0] 27,ω nN #[.int .i64 Jt,.slice L_ Eb.length LD,.slice qx oM.length ql,.slice L8 Ea.length LC,.bool Jc] 93,ε 79 2 bg (.slice L_ Eb.length LD) Eb,ε 79 2 bg (.slice qx oM.length ql) oM,ε 49 8 dG (.slice L8 Ea.length LC) Ea,ω b353 #[.int .i64 ((nth x0.arcs jf aO).frm),.int .i64 ((nth x0.arcs jf aO).to),.int .u64 (((nth x0.arcs jf aO).set).a:Int),.int .u64 (((nth x0.arcs jf aO).set).b:Int),.int .u64 (((nth x0.arcs jf aO).set).c:Int),.int .u64 (((nth x0.arcs jf aO).set).d:Int),.string (bs ((nth x0.arcs jf aO).out)),.bool ((nth x0.arcs jf aO).copy)] 49])) (ψ [7,7,7,7,7,7,7] 8) ?_;rintro ⟨Jt,Eb,oM,Ea,Jc,Ad⟩ ⟨L_,LD,qx,ql,L8,LC⟩ _ z2 hh hR2;dsimp only [Uw]at hh ⊢;refine ξ 4 z (λhb400=> ?_);refine ξ 5 z (λhb401=> ?_);refine ξ 6 z (λhb402=> ?_);refine R5 ?_;refine ι z hh (λh403 hh=> ?_) (λh403 hh=> ?_)
  ·refine R14 ?_;obtain ⟨sH,u113,hh⟩:=bQ hh;refine κ z (OpOk.call (Ll_ bU dO dK u113) z z pf64 z z z z ?_);rintro _ _ _ og ⟨b404_1,rfl,rfl,rfl⟩;refine R6 ?_;refine κ z (OpOk.call (Con.keysI layK z z z _) z z pf66 z z z z ?_);rintro _ _ _ _ ⟨bm406,rfl,rfl,rfl⟩;obtain ⟨Vf,hh⟩:=gd hh;refine φ 1 z z (φ 1 z z (κ z (OpOk.call (Con.dk_ layK1 layK6 layInt z z z z (enters_of Tryz.func128 (by kernel_rfl) z) (layK1.f10.enters z) Vf.1 Vf.2) z z pf65 z z z z ?_)));rintro _ _ _ _ ⟨XT,Xn,rfl,rfl,rfl⟩;refine R4 ?_;refine TC.lp hh (L_,LD,qx,ql,L8,LC) (rgs [(19,1),(115,27)]) (λ⟨Hg,BI,BH,BG,DZ,Aa⟩ ⟨Pz,O4,Py,O1,Px,OZ⟩=>([(115,.int .i64 (Aa:Int))],[ω bn #[.slice bW x1.cls.length bV,.slice cu x1.next.length dZ,.slice d_ x1.fin.length b_] 35,ω fK #[.int .i64 0,aT,aT,aT] 25,ω o8 #[.int .i64 0] 27,ω nN #[.int .i64 Hg,.slice Pz BI.length O4,.slice Py BH.length O1,.slice Px BG.length OZ,.bool DZ] 93,ε 79 2 bg (.slice Pz BI.length O4) BI,ε 79 2 bg (.slice Py BH.length O1) BH,ε 49 8 dG (.slice Px BG.length OZ) BG,ω b353 #[.int .i64 ((nth x0.arcs jf aO).frm),.int .i64 ((nth x0.arcs jf aO).to),.int .u64 (((nth x0.arcs jf aO).set).a:Int),.int .u64 (((nth x0.arcs jf aO).set).b:Int),.int .u64 (((nth x0.arcs jf aO).set).c:Int),.int .u64 (((nth x0.arcs jf aO).set).d:Int),.string (bs ((nth x0.arcs jf aO).out)),.bool ((nth x0.arcs jf aO).copy)] 49,Res.mapB lN sK b404_1 sH,dW 3 aB XT Xn (xU sH)])) (ψ [2,10,10,10,10,10,10,10,10] 10) ?_;rintro ⟨Hg,BI,BH,BG,DZ,Aa⟩ ⟨Pz,O4,Py,O1,Px,OZ⟩ _ z3 hh uK;dsimp only [Ur]at hh ⊢;refine ξ 4 z (λhb456=> ?_);refine ξ 5 z (λhb457=> ?_);refine ξ 6 z (λhb458=> ?_);refine ξ 9 z (λhb459=> ?_);refine R5 ?_;refine ι z hh (λh460 hh=> ?_) (λh460 hh=> ?_)
   ·refine R5 ?_;refine TL.iS 9 z (λhs461=> ?_);refine R20 ?_;refine TL.w z (OpVal.of (dd_ BSet.zero (q:=(nth (xU sH) Aa 0)) z underlying98 Fq z (i:=8) z z (qv_ zV)) (v':=sK (sH.get (nth (xU sH) Aa 0) BSet.zero)) z) (R5 ?_);refine φ 6 z z (φ 6 z z (φ 6 z z (φ 6 z z ?_)));obtain ⟨v145,Ve,hh⟩:=bQ hh;refine κ z (OpOk.call (I7_ Ve) z z pf67 z z z z ?_);rintro _ _ _ hle462 ⟨a462_1,c462_2,a462_3,c462_4,a462_5,c462_6,rfl,rfl,rfl⟩;refine R5 ?_;exact E.nx uK hh (a462_1,c462_2,a462_3,c462_4,a462_5,c462_6) (ψ [9,9,9,6,6,6,6,9,9,9] 10)
   refine R1 ?_;replace hh:=bF uK hh;refine R8 ?_;refine TC.cB z hh (λh467 hh=> ?_) (λh467 hh=> ?_)
   ·refine TC.front 2 z z (TC.front 2 z z (TC.front 6 z z (TC.front 6 z z (TC.front 6 z z (TC.front 6 z z ?_)))));obtain ⟨vT,u195,hh⟩:=bQ hh;refine θ ?_;replace hh:=bF hR2 hh;replace hh:=bF hR1 hh;refine ⟨.inl z,_,ζ 6 z,(Gm_ u195).mono ?_⟩;rintro _ τ468 _ hle468 ⟨a468_1,c468_2,a468_4,c468_5,a468_7,c468_8,rfl,f468_3,f468_6,f468_9,rfl⟩;obtain rfl:=so hh;exact rz
   refine R5 ?_;exact E.nx hR2 hh (Pz,O4,Py,O1,Px,OZ) (ψ [7,7,7,7,7,7,7,7] 8)
  refine R1 ?_;replace hh:=bF hR2 hh;refine R5 ?_;exact E.nx hR1 hh (L_,LD,qx,ql,L8,LC) (ψ [6,6,6,6,6,6,6] 7)
 refine R1 ?_;replace hh:=bF hR1 hh;refine R1 ?_;refine TC.front 2 z z (TC.front 2 z z (TC.front 6 z z (TC.front 6 z z (TC.front 6 z z (TC.front 6 z z ?_)))));obtain ⟨v196,u196,hh⟩:=bQ hh;refine θ (⟨.inl z,_,ζ 6 z,(Gm_ u196).mono ?_⟩);rintro _ τ474 _ hle474 ⟨a474_1,c474_2,a474_4,c474_5,a474_7,c474_8,rfl,f474_3,f474_6,f474_9,rfl⟩;have f474_9b:=f474_9.rv.big;obtain rfl:=so hh;exact rz
end Go.Proofs.YtcfgkcfcddfccaaGreatDoor
end

noncomputable section
namespace Go.Proofs.YtcfgkcfcddfccaaGreatDoor
open Go Go.E
theorem lim_ok{t:Fst}{d:Dfa}(ht:FstOk t)(hd:jU d=true)(h:GB (fLim t d))(hn:(fLim t d).states<=1024):FstOk (fLim t d):=by
  have h0:=ok0 hd;refine ⟨Int.mul_nonneg ht.st0 (Int.natCast_nonneg _),hn,h.aN,h.sN,h.eN,λx hx=>⟨?_,h.s x hx⟩,λx hx=>⟨?_,h.e x hx⟩,λx hx=> ?_⟩
  · obtain ⟨y,hy,rfl⟩:=mem_limS.1 hx
    have:=Ba (n:=((d.next.length:Nat):Int)) (y:=0) (ht.starts y hy).1 h0;rw [Int.add_zero]at this;exact this
  · obtain ⟨y,hy,i,hi, -,rfl⟩:=mem_limE.1 hx
    exact Ba (ht.ends y hy).1 ⟨Int.natCast_nonneg i,by omega⟩
  have hl:=h.a x hx;obtain ⟨y,hy,i,hi,j,hj,hz,rfl⟩:=aan_.1 hx;have:=ht.arcs y hy;exact ⟨Ba this.1 ⟨Int.natCast_nonneg i,by omega⟩,Ba this.2.1 ⟨Int.natCast_nonneg j,by omega⟩,hz,hl⟩
def Af(d:Dfa)(y:Int)(s:BSet)(k:Nat)(z:Int):BSet:=BSet.make λb=>decide (b<k) && (s.has b && decide (mM d y b=z))
structure StK (d:Dfa) (y:Int) (s:BSet) (k:Nat) (m:FM Int BSet):Prop where
  f: ∀z,m.f z=if Af d y s k z=BSet.zero then none else some (Af d y s k z)
  n:m.n<=k
theorem x6_{k:Nat}(hk:k<256):(kH ((k:Nat):Int)).toNat=k:=by
  have:=VG ((k:Nat):Int);rw [VE]at this;omega
theorem n3_(d:Dfa)(y:Int)(s:BSet)(z:Int):Af d y s 256 z=yJ d y s z:=by
  unfold Af yJ;exact BSet.Pv λb hb=>by rw [decide_eq_true hb,Bool.true_and]
theorem vs_(d:Dfa)(y:Int)(s:BSet)(z:Int):Af d y s 0 z=BSet.zero:=by
  unfold Af;rw [<-BSet.Uh];exact BSet.Pv λb hb=>by rw [decide_eq_false (by omega),Bool.false_and]
theorem o6_{d:Dfa}{y:Int}{s:BSet}{k:Nat}{z:Int}(h:s.has k=false\/mM d y k≠z):Af d y s (k+1) z=Af d y s k z:=by
  unfold Af;refine BSet.Pv λb hb=> ?_
  by_cases e:b=k
  · subst e
    rcases h with h|h
    · rw [h];simp
    rw [decide_eq_false h];simp
  by_cases e2:b<k
  · rw [decide_eq_true e2,decide_eq_true (show b<k+1 by omega)]
  rw [decide_eq_false e2,decide_eq_false (show ¬ b<k+1 by omega)]
theorem xx_{d:Dfa}{y:Int}{s:BSet}{k:Nat}(hk:k<256)(h:s.has k=true):(BSet.make λn=>(Af d y s k (mM d y k)).has n || (BSet.ofL [kH ((k:Nat):Int)]).has n)=Af d y s (k+1) (mM d y k):=by
  refine Le_ λn hn=> ?_;unfold Af;rw [BSet.EX _ hn,BSet.EX _ hn,BSet.EX _ hn,Vu k hk hn]
  by_cases e:n=k
  · subst e;rw [h];simp
  rw [decide_eq_false e,Bool.or_false]
  by_cases e2:n<k
  · rw [decide_eq_true e2,decide_eq_true (show n<k+1 by omega)]
  rw [decide_eq_false e2,decide_eq_false (show ¬ n<k+1 by omega)]
theorem aad_{d:Dfa}{y:Int}{s:BSet}{k:Nat}(hk:k<256)(h:s.has k=true):Af d y s (k+1) (mM d y k)≠BSet.zero:=λe=>by
  have h1:(Af d y s (k+1) (mM d y k)).has k=true:=by
    unfold Af;rw [BSet.EX _ hk,h];simp
  rw [e,hasZ k hk]at h1;cases h1
theorem StK.get{d:Dfa}{y:Int}{s:BSet}{k:Nat}{m:FM Int BSet}(h:StK d y s k m)(z:Int):m.get z BSet.zero=Af d y s k z:=by
  unfold FM.get;rw [h.f z]
  by_cases e:Af d y s k z=BSet.zero
  · rw [if_pos e,e];rfl
  rw [if_neg e];rfl
theorem StK.put{d:Dfa}{y:Int}{s:BSet}{k:Nat}{m:FM Int BSet}(h:StK d y s k m)(hk:k<256)(hs:s.has k=true):StK d y s (k+1) (m.put (mM d y k) (Af d y s (k+1) (mM d y k))):=by
  refine ⟨λz=> ?_,?_⟩
  · show (if z=mM d y k then _ else _)=_
    by_cases e:z=mM d y k
    · subst e;rw [if_pos rfl,if_neg (aad_ hk hs)]
    rw [if_neg e,h.f z,o6_ (.inr λq=>e q.symm)]
  show (if (m.f (mM d y k)).isSome then m.n else m.n+1)<=k+1;have:=h.n
  split<;>omega
theorem z1_{d:Dfa}(hd:jU d=true){y:Int}(hy:okS d y)(s:BSet): ∃m,Iy_ d y s=some m/\StK d y s 256 m:=by
  obtain ⟨c,hc1,hc2,hn1,hn2,hfl,hrow⟩:=Hu hd;have hcm:=(DT d.cls 0 c hc1).2;unfold Iy_;obtain ⟨hy0,hy1⟩:=hy;refine fC (step:=λq:(FM Int BSet)×Nat=>Yv d s y q.1 q.2) (λ(m:FM Int BSet) k=>(m,k)) 256 (λk m=>StK d y s k m) _ (λk m hk hI=> ?_) (λm hI=> ?_) (s0:=FM.emp) ⟨λz=>by rw [if_pos (vs_ d y s z)];rfl,Nat.le_refl _⟩
  · left
    show ∃m',Yv d s y m k=some (.inl (m',k+1))/\_;unfold Yv Hp_;rw [bY (by omega),x6_ hk]
    by_cases h:s.has k=true
    · have hm:=hcm _ (VI (l:=d.cls) (i:=k) (by omega) 0)
      have hr:=(hrow y.toNat (by omega)).1;refine ⟨_,?_,hI.put hk h⟩;rw [h,iteO_true,aQ ⟨hy0,hy1⟩,aQ ⟨hm.1,by omega⟩,aQ (by simp),w7_,gq];show nxt (m.put (mM d y k) _,k+1)=_;rw [show m.get (nth (nth d.next y.toNat ([]:aj)) ((nth d.cls k (0:Int)).toNat) (0:Int)) BSet.zero=Af d y s k (mM d y k)from hI.get _,xx_ hk h];rfl
    simp only [Bool.not_eq_true]at h;refine ⟨m,by rw [h,iteO_false];rfl,λz=> ?_,by have:=hI.n;omega⟩;rw [hI.f z,o6_ (.inl h)]
  refine ⟨m,?_,hI⟩;show Yv d s y m 256=_;unfold Yv;rw [bK (by omega)];rfl
def Ik(d:Dfa)(y:Int)(s:BSet):aj:=((List.range d.next.length).filter λz=>decide (yJ d y s ((z:Nat):Int)≠BSet.zero)).map λz:Nat=>((z:Nat):Int)
theorem Mg_{s:BSet}(h:s≠BSet.zero): ∃b:Nat,b<256/\s.has b=true:=by
  apply Decidable.byContradiction;intro hc;refine h (Le_ λn hn=> ?_);rw [hasZ n hn];cases e:s.has n
  · rfl
  exact absurd ⟨n,hn,e⟩ hc
theorem y8_{d:Dfa}(hd:jU d=true){y:Int}(hy:okS d y){s:BSet}{z:Int}(h:yJ d y s z≠BSet.zero):okS d z:=by
  obtain ⟨b,hb,h1⟩:=Mg_ h;have e:(UInt8.ofNat b).toNat=b:=by rw [UInt8.toNat_ofNat'];omega
  have h2:(yJ d y s z).has (UInt8.ofNat b).toNat=true:=by rw [e];exact h1
  obtain ⟨-,h3⟩:=zx_.1 h2;rw [<-h3];exact (tl_ hd hy _).nx
theorem yn_{d:Dfa}(hd:jU d=true){y:Int}(hy:okS d y){s:BSet}{m:FM Int BSet}(hm:StK d y s 256 m):xU m=Ik d y s:=by
  refine qi_ ?_ λk=> ?_
  · unfold Ik
    rw [List.pairwise_map];exact (List.Pairwise.filter _ List.pairwise_lt_range).imp λ{a b} h=>by omega
  unfold Ik;rw [List.mem_map,hm.f k,n3_];constructor
  · rintro ⟨z,hz,rfl⟩
    have:=Gu (List.mem_filter.1 hz).2;rw [if_neg this];exact λh=>by cases h
  intro h
  by_cases e:yJ d y s k=BSet.zero
  · rw [if_pos e]at h;exact absurd rfl h
  obtain ⟨j,rfl,hj⟩:=okS_nat (y8_ hd hy e);exact ⟨j,List.mem_filter.2 ⟨List.mem_range.2 hj,decide_eq_true e⟩,rfl⟩
theorem keys_in{d:Dfa}(hd:jU d=true){y:Int}(hy:okS d y){s:BSet}{m:FM Int BSet}(hm:StK d y s 256 m):yu_ m/\m.n<=1000000:=by
  refine ⟨λk hk=> ?_,by have:=hm.n;omega⟩;rw [hm.f k,n3_]at hk;have h:okS d k:=by
    by_cases e:yJ d y s k=BSet.zero
    · rw [if_pos e]at hk;exact absurd rfl hk
    exact y8_ hd hy e
  obtain ⟨m, -, -, -,hn2, -⟩:=Hu hd;obtain ⟨h0,h1⟩:=h;show (decide (IntKind.i64.min<=k) && decide (k<=IntKind.i64.max))=true;rw [show IntKind.i64.min= -9223372036854775808 from by decide,show IntKind.i64.max=9223372036854775807 from by decide,decide_eq_true (by omega),decide_eq_true (by omega)];rfl
def zArc(d:Dfa)(x:Arc)(y:Nat)(z:Int):Arc:=⟨x.frm * ((d.next.length:Nat):Int)+((y:Nat):Int),x.to * ((d.next.length:Nat):Int)+z,yJ d ((y:Nat):Int) x.set z,x.out,x.copy⟩
theorem aah_(d:Dfa)(x:Arc)(y:Nat):I9 d x y=(Ik d ((y:Nat):Int) x.set).map (zArc d x y):=by
  unfold I9 Ik;rw [List.map_map];rfl
theorem jb_(d:Dfa)(x:Arc)(k:Nat):zW d x (k+1)=zW d x k++I9 d x k:=by
  unfold zW;rw [List.range_succ,List.flatMap_append];simp
theorem n0_(d:Dfa)(l:List Arc){k:Nat}(h:k<l.length):uf d (l.take (k+1))=uf d (l.take k)++zW d (nth l k aO) d.next.length:=by
  rw [jS l h aO];unfold uf;rw [List.flatMap_append];simp
theorem rl_(n:Nat)(l:List Tip){k:Nat}(h:k<l.length):GN n (l.take (k+1))=GN n (l.take k)++[⟨(nth l k bD).state * ((n:Nat):Int),(nth l k bD).out⟩]:=by
  rw [jS l h bD];unfold GN;rw [List.map_append];rfl
def Ei(d:Dfa)(x:Tip)(k:Nat):List Tip:=((List.range k).filter λy=>nth d.fin y false).map λy=>⟨x.state * ((d.next.length:Nat):Int)+((y:Nat):Int),x.out⟩
theorem l5_(d:Dfa)(x:Tip)(k:Nat):Ei d x (k+1)=Ei d x k++(if nth d.fin k false=true then [⟨x.state * ((d.next.length:Nat):Int)+((k:Nat):Int),x.out⟩] else []):=by
  unfold Ei;rw [List.range_succ,List.filter_append,List.map_append];congr 1;cases h:nth d.fin k false<;>simp [h]
theorem si_(d:Dfa)(l:List Tip){k:Nat}(h:k<l.length):yI d (l.take (k+1))=yI d (l.take k)++Ei d (nth l k bD) d.next.length:=by
  rw [jS l h bD];unfold yI;rw [List.flatMap_append];simp [Zl,Ei]
theorem GB.preA{F:Fst}{l m:List Arc}(h:GB (pA F (l++m))):GB (pA F l):=⟨h.sN,h.eN,by
  have:(F.arcs++(l++m)).length<=16384:=h.aN;show (F.arcs++l).length<=16384;simp only [gu]at this ⊢;omega,h.s,h.e,λx hx=>h.a x (by
  have hx':x∈F.arcs++l:=hx;show x∈F.arcs++(l++m);rw [<-zQ];exact List.mem_append_left _ hx')⟩
theorem limY_le(d:Dfa)(x:Arc){k n:Nat}(h:k<=n): ∃m,zW d x n=zW d x k++m:=by
  induction n with
  |zero=>exact ⟨[],by rw [show k=0 by omega,List.append_nil]⟩
  |succ n ih=>
    by_cases e:k=n+1
    · exact ⟨[],by rw [e,List.append_nil]⟩
    obtain ⟨m,hm⟩:=ih (by omega);exact ⟨m++I9 d x n,by rw [jb_,hm,zQ]⟩
theorem limA_le(d:Dfa)(l:List Arc)(k:Nat):uf d l=uf d (l.take k)++uf d (l.drop k):=by
  unfold uf;rw [<-List.flatMap_append,List.take_append_drop]
section
variable {t:Fst} {d:Dfa} (ht:FstOk t) (hd:jU d=true) (hN:t.states * ((d.next.length:Nat):Int)<=1024)
include ht hd hN
theorem lim_b6{i y:Nat}(hi:i<t.arcs.length)(hy:y<d.next.length){m:FM Int BSet}(hm:StK d ((y:Nat):Int) (nth t.arcs i aO).set 256 m){g:Grow}{F:Fst}(hg:Gr g F):
    ∃r,aV (λq:Int×(List Tip)×(List Tip)×(List Arc)×Bool×Nat=>Ur m t i d y q.1 q.2.1 q.2.2.1 q.2.2.2.1 q.2.2.2.2.1 q.2.2.2.2.2) (g.f.states,g.f.starts,g.f.ends,g.f.arcs,g.over,0)=some r/\
      ((∃g':Grow,r= .inl (g'.f.states,g'.f.starts,g'.f.ends,g'.f.arcs,g'.over,y+1)/\Gr g' (pA F (I9 d (nth t.arcs i aO) y)))\/r= .inr (.inr (⟨0,[],[],[]⟩,2))/\ ¬ GB (pA F (I9 d (nth t.arcs i aO) y))):=by
  have hyS:okS d ((y:Nat):Int):=⟨Int.natCast_nonneg y,by omega⟩;have hk:=yn_ hd hyS hm;have hx:=ht.arcs _ (jB hi aO);obtain ⟨x,hxe⟩: ∃x,nth t.arcs i aO=x:=⟨_,rfl⟩;rw [hxe]at hm hk hx ⊢;rw [aah_];refine fC (step:=λq:Int×(List Tip)×(List Tip)×(List Arc)×Bool×Nat=>Ur m t i d y q.1 q.2.1 q.2.2.1 q.2.2.2.1 q.2.2.2.2.1 q.2.2.2.2.2) (λ(s:Grow) k=>(s.f.states,s.f.starts,s.f.ends,s.f.arcs,s.over,k)) (Ik d ((y:Nat):Int) x.set).length
    (λk s=>Gr s (pA F (((Ik d ((y:Nat):Int) x.set).take k).map (zArc d x y)))) _ (λk s hk2 hI=> ?_) (λs hI=> ?_) (s0:=g) (by simpa [un_]using hg)
  · have hz:=jB hk2 (0:Int)
    have hzS:okS d (nth (Ik d ((y:Nat):Int) x.set) k (0:Int)):=by
      unfold Ik at hz;obtain ⟨j,hj,e⟩:=List.mem_map.1 hz;have hj1:=List.mem_range.1 (List.mem_filter.1 hj).1;unfold Ik;rw [<-e];exact ⟨Int.natCast_nonneg j,by omega⟩
    have r1:=Ba hx.1 hyS;have r2:=Ba hx.2.1 hzS;have r3:=Ba (n:=((d.next.length:Nat):Int)) (y:=0) hx.1 ⟨Int.le_refl _,by omega⟩;have r4:=Ba (n:=((d.next.length:Nat):Int)) (y:=0) hx.2.1 ⟨Int.le_refl _,by omega⟩;refine .inl ⟨Zx s (zArc d x y (nth (Ik d ((y:Nat):Int) x.set) k 0)),?_,?_⟩
    · show Ur m t i d y s.f.states s.f.starts s.f.ends s.f.arcs s.over k=_
      unfold Ur;rw [hk,bY (by omega),hxe,arc_eq,gq,hm.get,n3_,xY (a:=x.frm * ((d.next.length:Nat):Int)) (by omega),xY (a:=x.to * ((d.next.length:Nat):Int)) (by omega),xY (by omega),xY (by omega)];rfl
    rw [jS _ hk2 (0:Int),List.map_append,List.map_singleton,xg_];exact hI.ar _
  rw [List.take_length]at hI;have hs:Ur m t i d y s.f.states s.f.starts s.f.ends s.f.arcs s.over (Ik d ((y:Nat):Int) x.set).length=fin (aI s.over (bnd (PX (⟨(⟨s.f.states,s.f.starts,s.f.ends,s.f.arcs⟩:Fst),s.over⟩:Grow)) (λvT=>fin (fin (some ((⟨vT.1.states,vT.1.starts,vT.1.ends,vT.1.arcs⟩:Fst),vT.2))))) (nxt (s.f.states,s.f.starts,s.f.ends,s.f.arcs,s.over,(y+1)))):=by
    unfold Ur;rw [hk,bK (by omega)]
  cases ho:s.over with
  |true=>
    rw [ho]at hs;refine ⟨.inr (.inr (⟨0,[],[],[]⟩,2)),Eq.trans hs ?_,.inr ⟨rfl,by
      rcases hI with ⟨-,h⟩|⟨h, -⟩
      · exact h
      rw [h]at ho;cases ho⟩⟩
    rw [iteO_true,iy (qw_ ⟨s.f,true⟩)];rfl
  |false=>
    rw [ho]at hs;exact ⟨.inl (s.f.states,s.f.starts,s.f.ends,s.f.arcs,false,y+1),Eq.trans hs rfl,.inl ⟨s,by rw [ho],hI⟩⟩
theorem lim_b5{i:Nat}(hi:i<t.arcs.length){g:Grow}{F:Fst}(hg:Gr g F):
    ∃r,aV (λq:Int×(List Tip)×(List Tip)×(List Arc)×Bool×Nat=>Uw d t i q.1 q.2.1 q.2.2.1 q.2.2.2.1 q.2.2.2.2.1 q.2.2.2.2.2) (g.f.states,g.f.starts,g.f.ends,g.f.arcs,g.over,0)=some r/\
      ((∃g':Grow,r= .inl (g'.f.states,g'.f.starts,g'.f.ends,g'.f.arcs,g'.over,i+1)/\Gr g' (pA F (zW d (nth t.arcs i aO) d.next.length)))\/r= .inr (⟨0,[],[],[]⟩,2)/\ ¬ GB (pA F (zW d (nth t.arcs i aO) d.next.length))):=by
  refine fC (step:=λq:Int×(List Tip)×(List Tip)×(List Arc)×Bool×Nat=>Uw d t i q.1 q.2.1 q.2.2.1 q.2.2.2.1 q.2.2.2.2.1 q.2.2.2.2.2) (λ(s:Grow) k=>(s.f.states,s.f.starts,s.f.ends,s.f.arcs,s.over,k)) d.next.length
    (λk s=>Gr s (pA F (zW d (nth t.arcs i aO) k))) _ (λk s hk hI=> ?_) (λs hI=> ?_) (s0:=g) (by simpa [zW,un_]using hg)
  · have hkS:okS d ((k:Nat):Int):=⟨Int.natCast_nonneg k,by omega⟩
    obtain ⟨m,e1,hm⟩:=z1_ hd hkS (nth t.arcs i aO).set;obtain ⟨r,e2,h2⟩:=lim_b6 ht hd hN hi hk hm hI;have hs:Uw d t i s.f.states s.f.starts s.f.ends s.f.arcs s.over k=some r:=by
      unfold Uw;rw [bY (by omega),iy e1,aQ (keys_in hd hkS hm)];exact e2
    rcases h2 with ⟨g',rfl,hG⟩|⟨rfl,hG⟩
    · refine .inl ⟨g',hs,?_⟩
      rw [jb_,<-uc_];exact hG
    refine .inr ⟨_,hs,.inr ⟨rfl,λq=>hG ?_⟩⟩;obtain ⟨m,hm⟩:=limY_le d (nth t.arcs i aO) (show k+1<=d.next.length by omega);rw [hm]at q;have q':=q.preA;rw [jb_,<-uc_]at q';exact q'
  refine ⟨_,?_,.inl ⟨s,rfl,hI⟩⟩;show Uw d t i s.f.states s.f.starts s.f.ends s.f.arcs s.over d.next.length=_;unfold Uw;rw [bK (by omega)];rfl
theorem lim_b4{g:Grow}{F:Fst}(hg:Gr g F):
    ∃r,aV (λq:Int×(List Tip)×(List Tip)×(List Arc)×Bool×Nat=>Ul t d q.1 q.2.1 q.2.2.1 q.2.2.2.1 q.2.2.2.2.1 q.2.2.2.2.2) (g.f.states,g.f.starts,g.f.ends,g.f.arcs,g.over,0)=some r/\GEnd (pA F (uf d t.arcs)) r:=by
  refine fC (step:=λq:Int×(List Tip)×(List Tip)×(List Arc)×Bool×Nat=>Ul t d q.1 q.2.1 q.2.2.1 q.2.2.2.1 q.2.2.2.2.1 q.2.2.2.2.2) (λ(s:Grow) k=>(s.f.states,s.f.starts,s.f.ends,s.f.arcs,s.over,k)) t.arcs.length
    (λk s=>Gr s (pA F (uf d (t.arcs.take k)))) _ (λk s hk hI=> ?_) (λs hI=> ?_) (s0:=g) (by simpa [uf,un_]using hg)
  · obtain ⟨r,e2,h2⟩:=lim_b5 ht hd hN hk hI
    have hs:Ul t d s.f.states s.f.starts s.f.ends s.f.arcs s.over k=some r:=by
      unfold Ul;rw [bY (by omega)];exact e2
    rcases h2 with ⟨g',rfl,hG⟩|⟨rfl,hG⟩
    · refine .inl ⟨g',hs,?_⟩
      rw [n0_ d t.arcs hk,<-uc_];exact hG
    refine .inr ⟨_,hs,.inl ⟨rfl,.inl λq=>hG ?_⟩⟩;rw [limA_le d t.arcs (k+1)]at q;have q':=q.preA;rw [n0_ d t.arcs hk,<-uc_]at q';exact q'
  rw [List.take_length]at hI;refine ⟨Vl s,?_,gend hI⟩;show Ul t d s.f.states s.f.starts s.f.ends s.f.arcs s.over t.arcs.length=_;unfold Ul;rw [bK (by omega),iy (qw_ s)];rfl
theorem lim_b3{i:Nat}(hi:i<t.ends.length){g:Grow}{F:Fst}(hg:Gr g F):
    ∃r,aV (λq:Int×(List Tip)×(List Tip)×(List Arc)×Bool×Nat=>Um d t i q.1 q.2.1 q.2.2.1 q.2.2.2.1 q.2.2.2.2.1 q.2.2.2.2.2) (g.f.states,g.f.starts,g.f.ends,g.f.arcs,g.over,0)=some r/\
      (∃g':Grow,r= .inl (g'.f.states,g'.f.starts,g'.f.ends,g'.f.arcs,g'.over,i+1)/\Gr g' (pE F (Ei d (nth t.ends i bD) d.next.length))):=by
  obtain ⟨c, -, -, -, -,hfl, -⟩:=Hu hd;have hx:=ht.ends _ (jB hi bD);obtain ⟨x,hxe⟩: ∃x,nth t.ends i bD=x:=⟨_,rfl⟩;rw [hxe]at hx ⊢;refine fC (step:=λq:Int×(List Tip)×(List Tip)×(List Arc)×Bool×Nat=>Um d t i q.1 q.2.1 q.2.2.1 q.2.2.2.1 q.2.2.2.2.1 q.2.2.2.2.2) (λ(s:Grow) k=>(s.f.states,s.f.starts,s.f.ends,s.f.arcs,s.over,k)) d.next.length
    (λk s=>Gr s (pE F (Ei d x k))) _ (λk s hk hI=> ?_) (λs hI=> ?_) (s0:=g) (by simpa [Ei,y7_]using hg)
  · left
    have r1:=Ba hx.1 (show 0<=((k:Nat):Int)/\((k:Nat):Int)<((d.next.length:Nat):Int) by omega);have r3:=Ba (n:=((d.next.length:Nat):Int)) (y:=0) hx.1 ⟨Int.le_refl _,by omega⟩;show ∃s',Um d t i s.f.states s.f.starts s.f.ends s.f.arcs s.over k=_/\_;unfold Um Hj_;rw [bY (by omega),hxe,l5_];cases h:nth d.fin k false with
    |true=>
      refine ⟨Zv s ⟨x.state * ((d.next.length:Nat):Int)+((k:Nat):Int),x.out⟩,?_,?_⟩
      · rw [iteO_true,end_eq,gq,xY (a:=x.state * ((d.next.length:Nat):Int)) (by omega),xY (by omega)];rfl
      rw [if_pos rfl,xp_];exact hI.en _
    |false=>
      refine ⟨s,by rw [iteO_false];rfl,?_⟩;rw [if_neg (by simp),List.append_nil];exact hI
  refine ⟨_,?_,s,rfl,hI⟩;show Um d t i s.f.states s.f.starts s.f.ends s.f.arcs s.over d.next.length=_;unfold Um;rw [bK (by omega)];rfl
theorem lim_b2{g:Grow}{F:Fst}(hg:Gr g F):
    ∃r,aV (λq:Int×(List Tip)×(List Tip)×(List Arc)×Bool×Nat=>Ux t d q.1 q.2.1 q.2.2.1 q.2.2.2.1 q.2.2.2.2.1 q.2.2.2.2.2) (g.f.states,g.f.starts,g.f.ends,g.f.arcs,g.over,0)=some r/\GEnd (pA (pE F (yI d t.ends)) (uf d t.arcs)) r:=by
  refine fC (step:=λq:Int×(List Tip)×(List Tip)×(List Arc)×Bool×Nat=>Ux t d q.1 q.2.1 q.2.2.1 q.2.2.2.1 q.2.2.2.2.1 q.2.2.2.2.2) (λ(s:Grow) k=>(s.f.states,s.f.starts,s.f.ends,s.f.arcs,s.over,k)) t.ends.length
    (λk s=>Gr s (pE F (yI d (t.ends.take k)))) _ (λk s hk hI=> ?_) (λs hI=> ?_) (s0:=g) (by simpa [yI,y7_]using hg)
  · obtain ⟨r,e2,g',rfl,hG⟩:=lim_b3 ht hd hN hk hI
    refine .inl ⟨g',?_,by rw [si_ d t.ends hk,<-pE_app];exact hG⟩;show Ux t d s.f.states s.f.starts s.f.ends s.f.arcs s.over k=_;unfold Ux;rw [bY (by omega)];exact e2
  rw [List.take_length]at hI;obtain ⟨r,e2,h2⟩:=lim_b4 ht hd hN hI;refine ⟨r,?_,h2⟩;show Ux t d s.f.states s.f.starts s.f.ends s.f.arcs s.over t.ends.length=_;unfold Ux;rw [bK (by omega),e2];rfl
theorem lim_b1: ∃r,aV (λq:Int×(List Tip)×(List Tip)×(List Arc)×Bool×Nat=>Us t d q.1 q.2.1 q.2.2.1 q.2.2.2.1 q.2.2.2.2.1 q.2.2.2.2.2) (t.states * ((d.next.length:Nat):Int),[],[],[],false,0)=some r/\GEnd (fLim t d) r:=by
  refine fC (step:=λq:Int×(List Tip)×(List Tip)×(List Arc)×Bool×Nat=>Us t d q.1 q.2.1 q.2.2.1 q.2.2.2.1 q.2.2.2.2.1 q.2.2.2.2.2) (λ(s:Grow) k=>(s.f.states,s.f.starts,s.f.ends,s.f.arcs,s.over,k)) t.starts.length
    (λk s=>Gr s (pS ⟨t.states * ((d.next.length:Nat):Int),[],[],[]⟩ (GN d.next.length (t.starts.take k)))) _ (λk s hk hI=> ?_) (λs hI=> ?_) (s0:=⟨⟨t.states * ((d.next.length:Nat):Int),[],[],[]⟩,false⟩) (by simpa [GN,pS_nil]using Gr.nil _)
  · have hx:=ht.starts _ (jB hk bD)
    have r3:=Ba (n:=((d.next.length:Nat):Int)) (y:=0) hx.1 (ok0 hd);refine .inl ⟨Zu s ⟨(nth t.starts k bD).state * ((d.next.length:Nat):Int),(nth t.starts k bD).out⟩,?_,?_⟩
    · show Us t d s.f.states s.f.starts s.f.ends s.f.arcs s.over k=_
      unfold Us;rw [bY (by omega),uq_,gq,xY (by omega)];rfl
    rw [rl_ _ t.starts hk,y1_];exact hI.st _
  rw [List.take_length]at hI;obtain ⟨r,e2,h2⟩:=lim_b2 ht hd hN hI;refine ⟨r,?_,h2⟩;show Us t d s.f.states s.f.starts s.f.ends s.f.arcs s.over t.starts.length=_;unfold Us;rw [bK (by omega),e2];rfl
end
theorem lim_go{t:Fst}{d:Dfa}(ht:FstOk t)(hd:jU d=true): ∃r,H5_ t d=some r/\GEnd (fLim t d) r:=by
  obtain ⟨c, -, -,hn1,hn2, -, -⟩:=Hu hd;have h0:=ht.st0;have h1:=ht.st1;have p0:0<=t.states * ((d.next.length:Nat):Int):=Int.mul_nonneg h0 (Int.natCast_nonneg _);have p1:t.states * ((d.next.length:Nat):Int)<=1024 * ((d.next.length:Nat):Int):=Int.mul_le_mul_of_nonneg_right h1 (Int.natCast_nonneg _);unfold H5_;rw [Un,gq,ZF,(yQ t).2 ht,Bool.not_true,iteO_false,lk_,gq,if_pos hd,bK (by simp),tJ (by omega) (by omega)]
  by_cases h:1024<t.states * ((d.next.length:Nat):Int)
  · rw [bY h,iy (qw_ ⟨⟨t.states * ((d.next.length:Nat):Int),[],[],[]⟩,false⟩)]
    refine ⟨_,rfl,.inl ⟨?_,.inr h⟩⟩;unfold Vl;rw [if_pos (.inr h)]
  rw [bK h];exact lim_b1 ht hd (by omega)
end Go.Proofs.YtcfgkcfcddfccaaGreatDoor
end

noncomputable section
namespace Go.Proofs.YtcfgkcfcddfccaaGreatDoor
open Go Go.E
theorem ug_(l:List Tip)(n:Int):Eg_ l n=some (A_ l n):=by
  unfold Eg_ A_;rw [ng_ (y:=decide ((l.length:Int)<=1024)) (no:=false) l bD (Ii n)]
  · cases l.all (Ii n)<;>simp
  · intro k hk hp
    simp only [Ii,Bool.and_eq_true,dA]at hp;simp only [D4_,qJ hk,iteO_true];rw [decide_eq_false (by omega),iteO_false,decide_eq_false (by omega),iteO_false,decide_eq_false (by omega),iteO_false];rfl
  · intro k hk hp
    simp only [D4_,qJ hk,iteO_true]
    by_cases h1:(nth l k bD).state<0
    · rw [decide_eq_true h1,iteO_true];rfl
    rw [decide_eq_false h1,iteO_false]
    by_cases h2:n<=(nth l k bD).state
    · rw [decide_eq_true h2,iteO_true];rfl
    rw [decide_eq_false h2,iteO_false];simp only [Ii,decide_eq_true (show 0<=(nth l k bD).state by omega),decide_eq_true (show (nth l k bD).state<n by omega),Bool.true_and,decide_eq_false_iff_not]at hp;rw [decide_eq_true (by omega),iteO_true];rfl
  simp only [D4_,Int.lt_irrefl,decide_false,iteO_false];rfl
theorem Lm(t:Fst):Ib t=some (nR t):=by
  unfold Ib
  by_cases h1:t.states<0
  · rw [decide_eq_true h1,iteO_true];simp [nR,show ¬ 0<=t.states by omega]
  rw [decide_eq_false h1,iteO_false]
  by_cases h2:1024<t.states
  · rw [decide_eq_true h2,iteO_true];simp [nR,show ¬ t.states<=1024 by omega]
  rw [decide_eq_false h2,iteO_false,ug_,bnd,Option.bind_some];have e0:nR t=(decide ((t.arcs.length:Int)<=16384) && A_ t.starts t.states && A_ t.ends t.states && t.arcs.all (Ie t.states)):=by
    simp only [nR,decide_eq_true (show 0<=t.states by omega),decide_eq_true (show t.states<=1024 by omega),Bool.true_and]
  rw [e0];cases h4:A_ t.starts t.states
  · simp
  simp only [Bool.not_true,iteO_false,ug_,bnd,Option.bind_some];cases h5:A_ t.ends t.states
  · simp
  simp only [Bool.not_true,iteO_false,Bool.and_true]
  by_cases h3:(16384:Int)<(t.arcs.length:Int)
  · rw [decide_eq_true h3,iteO_true,decide_eq_false (show ¬ (t.arcs.length:Int)<=16384 by omega),Bool.false_and]
  rw [decide_eq_false h3,iteO_false,decide_eq_true (show (t.arcs.length:Int)<=16384 by omega),Bool.true_and,ng_ (y:=true) (no:=false) t.arcs aO (Ie t.states)]
  · cases t.arcs.all (Ie t.states)<;>rfl
  · intro k hk hp
    obtain ⟨p1,p2,p3,p4⟩:=x7_ hp;simp only [Du_,qJ hk,iteO_true];rw [decide_eq_false (by omega),iteO_false,decide_eq_false (by omega),iteO_false,decide_eq_false (by omega),iteO_false,decide_eq_false (by omega),iteO_false,decide_eq_false p3,iteO_false,decide_eq_false (by omega),iteO_false];rfl
  · intro k hk hp
    simp only [Du_,qJ hk,iteO_true]
    by_cases q1:(nth t.arcs k aO).frm<0
    · rw [decide_eq_true q1,iteO_true];rfl
    rw [decide_eq_false q1,iteO_false]
    by_cases q2:t.states<=(nth t.arcs k aO).frm
    · rw [decide_eq_true q2,iteO_true];rfl
    rw [decide_eq_false q2,iteO_false]
    by_cases q3:(nth t.arcs k aO).to<0
    · rw [decide_eq_true q3,iteO_true];rfl
    rw [decide_eq_false q3,iteO_false]
    by_cases q4:t.states<=(nth t.arcs k aO).to
    · rw [decide_eq_true q4,iteO_true];rfl
    rw [decide_eq_false q4,iteO_false]
    by_cases q5:(nth t.arcs k aO).set=BSet.zero
    · rw [decide_eq_true q5,iteO_true];rfl
    rw [decide_eq_false q5,iteO_false];simp only [Ie,decide_eq_true (show 0<=(nth t.arcs k aO).frm by omega),decide_eq_true (show (nth t.arcs k aO).frm<t.states by omega),decide_eq_true (show 0<=(nth t.arcs k aO).to by omega),decide_eq_true (show (nth t.arcs k aO).to<t.states by omega),ne_eq,q5,not_false_eq_true,decide_true,Bool.true_and,decide_eq_false_iff_not]at hp;rw [decide_eq_true (by omega),iteO_true];rfl
  simp only [Du_,Int.lt_irrefl,decide_false,iteO_false];rfl
end Go.Proofs.YtcfgkcfcddfccaaGreatDoor
end

noncomputable section
namespace Go.Proofs.YtcfgkcfcddfccaaGreatDoor
open Go Go.E
theorem Mh_{l:aj}(h:l.length<=1000000):UE l=some (rX 0 mO l):=by
  unfold UE;refine q9_ Hq l (λq=>Nz l q.1 q.2) (λm k j=>IJ m l k j) ?_ ?_ ?_ ?_ ?_
  · intro m k hk
    simp only [Nz,decide_eq_false (show ¬ ((k:Nat):Int)<((l.length:Nat):Int) by omega),iteO_false];rfl
  · intro m k hk
    simp only [Nz,qJ hk,iteO_true]
  · intro m k j hk hj hc
    rw [MZ]at hc;simp only [IJ,qJ hj,iteO_true,decide_eq_true hc];rfl
  · intro m k j hk hj he
    simp only [IJ,qJ hj,iteO_true,he,Int.lt_irrefl,decide_false,iteO_false,ND,decide_true];rfl
  intro m k j hk hm hj hn;have hg:UN j m l k=some (.inl (m.take j++[nth l k 0]++m.drop j,k+1)):=by
    unfold UN C8_;rw [aQ (by omega),aQ (by simp only [List.length_nil,List.length_take];omega),aQ (by simp only [gu,List.length_nil,List.length_take,dN];omega),aQ (by omega),aQ (by simp only [gu,List.length_nil,List.length_take,dN,List.length_drop];omega)];rfl
  by_cases hjl:j<m.length
  · obtain ⟨h1,h2⟩:=hn hjl
    rw [MZ]at h1;simp only [IJ,qJ hjl,iteO_true,decide_eq_false h1,iteO_false,ND,decide_eq_false h2,hg,fin_some]
  simp only [IJ,decide_eq_false (show ¬ ((j:Nat):Int)<((m.length:Nat):Int) by omega),iteO_false,ND,hg,fin_some]
theorem q2_{a b:Int}:kE a b<0↔a<0\/(a=0/\b<0):=by unfold kE;split<;>omega
theorem cmpN_lt{x y:Nat}:qZ x y<0↔x<y:=by unfold qZ;(repeat' split)<;>omega
theorem z9_{x y:Nat}:qZ x y=0↔x=y:=jd_.eq x y
theorem uh_{x y:Int}:mO x y=0↔x=y:=Hq.eq x y
theorem ub_{x y:T_1}:Lib.compareBytes x y=0↔x=y:=nk_.eq x y
theorem l3_(x y:Tip):D7_ x y=some (decide (G_ x y<0)):=by
  unfold D7_;simp only [G_,q2_,MZ,uh_]
  by_cases h1:x.state<y.state
  · simp [h1]
  by_cases h2:x.state=y.state
  · simp [h2]
  simp [h1,h2]
theorem r3_(x y:Arc):aV (λq:Nat=>UW x y q) 4=some (decide (kE (Lib.compareBytes x.out y.out) (kE (oj_ x.copy y.copy) 0)<0)):=by
  refine DU ?_;simp only [UW,q2_];rw [decide_eq_false (by omega),iteO_false]
  by_cases h:x.out=y.out
  · have:=ub_.2 h
    rw [decide_eq_false (by simpa using h),iteO_false];simp only [this];cases x.copy<;>cases y.copy<;>decide
  have: ¬ Lib.compareBytes x.out y.out=0:=λe=>h (ub_.1 e);rw [decide_eq_true (by simpa using h),iteO_true];simp [this]
theorem hv_(x y:Arc)(k:Nat)(hk:k<4){t:Int}(ht:aV (λq:Nat=>UW x y q) (k+1)=some (decide (t<0))):
    aV (λq:Nat=>UW x y q) k=some (decide (kE (qZ (x.set.word k) (y.set.word k)) t<0)):=by
  simp only [q2_,cmpN_lt,z9_]
  by_cases h:x.set.word k=y.set.word k
  · refine Nh (s':=k+1) ?_ ?_
    · simp only [UW]
      rw [decide_eq_true (by omega),iteO_true,aQ hk,aQ hk,decide_eq_false (by simpa using h),iteO_false];rfl
    rw [ht];simp [h]
  refine DU ?_;simp only [UW];rw [decide_eq_true (by omega),iteO_true,aQ hk,aQ hk,decide_eq_true (by simpa using h),iteO_true,aQ hk,aQ hk];simp [h]
theorem l6_(x y:Arc):D8_ x y=some (decide (He x y<0)):=by
  have hw:=hv_ x y 0 (by decide) (hv_ x y 1 (by decide) (hv_ x y 2 (by decide) (hv_ x y 3 (by decide) (r3_ x y))));unfold D8_;have e:He x y=kE (mO x.frm y.frm) (kE (mO x.to y.to) (kE (qZ (x.set.word 0) (y.set.word 0)) (kE (qZ (x.set.word 1) (y.set.word 1)) (kE (qZ (x.set.word 2) (y.set.word 2)) (kE (qZ (x.set.word 3) (y.set.word 3)) (kE (Lib.compareBytes x.out y.out) (kE (oj_ x.copy y.copy) 0))))))):=by
    have asc: ∀a b c:Int,kE (kE a b) c=kE a (kE b c):=λa b c=>by unfold kE;(repeat' split)<;>first|rfl|omega
    simp only [He,t9_,asc];rfl
  rw [e,hw];generalize kE (qZ (x.set.word 0) (y.set.word 0)) _=T;simp only [q2_,MZ,uh_]
  by_cases h1:x.frm=y.frm
  · rw [decide_eq_false (by simpa using h1),iteO_false]
    by_cases h2:x.to=y.to
    · rw [decide_eq_false (by simpa using h2),iteO_false]
      simp [h1,h2]
    rw [decide_eq_true (by simpa using h2),iteO_true];simp [h1,h2]
  rw [decide_eq_true (by simpa using h1),iteO_true];simp [h1]
theorem ns_{l:List Tip}(h:l.length<=1000000):Cs_ l=some (rX bD G_ l):=by
  unfold Cs_;refine q9_ hm_ l (λq=>Zg l q.1 q.2) (λm k j=>Zh m l k j) ?_ ?_ ?_ ?_ ?_
  · intro m k hk
    simp only [Zg,decide_eq_false (show ¬ ((k:Nat):Int)<((l.length:Nat):Int) by omega),iteO_false];rfl
  · intro m k hk
    simp only [Zg,qJ hk,iteO_true]
  · intro m k j hk hj hc
    simp only [Zh,qJ hj,iteO_true,l3_,bnd,Option.bind_some,decide_eq_true hc];rfl
  · intro m k j hk hj he
    simp only [Zh,qJ hj,iteO_true,l3_,bnd,Option.bind_some,he,decide_eq_false (hm_.irr _),iteO_false,Ze,decide_true];rfl
  intro m k j hk hm hj hn;have hg:B2_ j m l k=some (.inl (m.take j++[nth l k bD]++m.drop j,k+1)):=by
    unfold B2_ Cz_;rw [aQ (by omega),aQ (by simp only [List.length_nil,List.length_take];omega),aQ (by simp only [gu,List.length_nil,List.length_take,dN];omega),aQ (by omega),aQ (by simp only [gu,List.length_nil,List.length_take,dN,List.length_drop];omega)];rfl
  by_cases hjl:j<m.length
  · obtain ⟨h1,h2⟩:=hn hjl
    simp only [Zh,qJ hjl,iteO_true,l3_,bnd,Option.bind_some,decide_eq_false h1,iteO_false,Ze,decide_eq_false h2,hg,fin_some]
  simp only [Zh,decide_eq_false (show ¬ ((j:Nat):Int)<((m.length:Nat):Int) by omega),iteO_false,Ze,hg,fin_some]
theorem tf_{l:List Arc}(h:l.length<=1000000):Dz_ l=some (rX aO He l):=by
  unfold Dz_;refine q9_ iy_ l (λq=>Zf l q.1 q.2) (λm k j=>Zj m l k j) ?_ ?_ ?_ ?_ ?_
  · intro m k hk
    simp only [Zf,decide_eq_false (show ¬ ((k:Nat):Int)<((l.length:Nat):Int) by omega),iteO_false];rfl
  · intro m k hk
    simp only [Zf,qJ hk,iteO_true]
  · intro m k j hk hj hc
    simp only [Zj,qJ hj,iteO_true,l6_,bnd,Option.bind_some,decide_eq_true hc];rfl
  · intro m k j hk hj he
    simp only [Zj,qJ hj,iteO_true,l6_,bnd,Option.bind_some,he,decide_eq_false (iy_.irr _),iteO_false,Zd,decide_true];rfl
  intro m k j hk hm hj hn;have hg:B0_ j m l k=some (.inl (m.take j++[nth l k aO]++m.drop j,k+1)):=by
    unfold B0_ C2_;rw [aQ (by omega),aQ (by simp only [List.length_nil,List.length_take];omega),aQ (by simp only [gu,List.length_nil,List.length_take,dN];omega),aQ (by omega),aQ (by simp only [gu,List.length_nil,List.length_take,dN,List.length_drop];omega)];rfl
  by_cases hjl:j<m.length
  · obtain ⟨h1,h2⟩:=hn hjl
    simp only [Zj,qJ hjl,iteO_true,l6_,bnd,Option.bind_some,decide_eq_false h1,iteO_false,Zd,decide_eq_false h2,hg,fin_some]
  simp only [Zj,decide_eq_false (show ¬ ((j:Nat):Int)<((m.length:Nat):Int) by omega),iteO_false,Zd,hg,fin_some]
theorem nh_(t:Fst):MO t=some (if nR t=true then (srt t,0) else (⟨0,[],[],[]⟩,1)):=by
  unfold MO;rw [Lm,bnd,Option.bind_some]
  by_cases h:nR t=true
  · have ht:=(yQ t).1 h
    have h1:=ht.startsN;have h2:=ht.endsN;have h3:=ht.arcsN;rw [h,if_pos rfl,Bool.not_true,iteO_false];simp only [ns_ (l:=t.starts) (by omega),ns_ (l:=t.ends) (by omega),tf_ (l:=t.arcs) (by omega),bnd,Option.bind_some];rfl
  simp only [Bool.not_eq_true]at h;rw [h];rfl
theorem pl_{l:List Tip}(h:l.length<=1024):Dg_ l=some (rX 0 mO (l.map Tip.state)):=by
  unfold Dg_;refine IB (step:=λq:aj×Nat=>Dh_ l q.1 q.2) l bD (λk=>(l.take k).map Tip.state) ?_ ?_
  · intro k hk
    simp only [Dh_,qJ hk,iteO_true];rw [aQ (by simp only [List.length_map,List.length_take,dN];omega),jS l hk bD,List.map_append];rfl
  simp only [Dh_,Int.lt_irrefl,decide_false,iteO_false,List.take_length];rw [Mh_ (by rw [List.length_map];omega)];rfl
theorem rin_eq(t:Fst):Gd_ t=some (if nR t=true then (inN t,0) else (⟨0,[],[],[]⟩,1)):=by
  unfold Gd_;rw [Lm,bnd,Option.bind_some]
  by_cases h:nR t=true
  · have ht:=(yQ t).1 h
    have h3:=ht.arcsN;rw [h,if_pos rfl,Bool.not_true,iteO_false];simp only [pl_ ht.startsN,pl_ ht.endsN,bnd,Option.bind_some];unfold Gi_;refine IB (step:=λq:(List Arrow)×Nat=>E1_ t (rX 0 mO (t.starts.map Tip.state)) (rX 0 mO (t.ends.map Tip.state)) q.1 q.2) t.arcs aO (λk=>(t.arcs.take k).map λa=>(⟨a.frm,a.to,a.set⟩:Arrow)) ?_ ?_
    · intro k hk
      simp only [E1_,qJ hk,iteO_true];rw [aQ (by simp only [List.length_map,List.length_take,dN];omega),jS t.arcs hk aO,List.map_append];rfl
    simp only [E1_,Int.lt_irrefl,decide_false,iteO_false,List.take_length];rfl
  simp only [Bool.not_eq_true]at h;rw [h];rfl
end Go.Proofs.YtcfgkcfcddfccaaGreatDoor
end

noncomputable section
namespace Go.Proofs.YtcfgkcfcddfccaaGreatDoor
open Go Go.E Go.E.OpVal Go.E.OpOk Go.Proofs.Tryz
open List (replicate)
theorem pf42:plainF Tryz.prog 42=true:=by kernel_rfl
theorem pf43:plainF Tryz.prog 43=true:=by kernel_rfl
def Cu_(lM:Nat)(l147:B_1)(t149:Bool):Option ((B_1×Bool×Nat)⊕((B_1×Bool)⊕(B_1))):=
 nxt (l147,t149,(lM+1))
def Cr_(gQ:B_1)(lM:Nat)(t143:Bool)(y7:Int)(i152:Int):Option ((B_1×Bool×Nat)⊕((B_1×Bool)⊕(B_1))):=
 grd (0<=y7/\y7<(gQ.length:Int)) (aI (nth gQ y7.toNat false) (grd (0<=i152/\i152<(gQ.length:Int)) (aI (!(nth gQ i152.toNat false)) (grd (0<=i152/\i152<(gQ.length:Int)) (Cu_ lM (gQ.set i152.toNat true) true)) (Cu_ lM gQ t143))) (Cu_ lM gQ t143))
def P7(x0:Fst)(x2:Bool)(gQ:B_1)(t143:Bool)(lM:Nat):Option ((B_1×Bool×Nat)⊕((B_1×Bool)⊕(B_1))):=
 aI (decide ((lM:Int)<(x0.arcs.length:Int))) (aI x2 (Cr_ gQ lM t143 ((nth x0.arcs lM aO).to) ((nth x0.arcs lM aO).frm)) (Cr_ gQ lM t143 ((nth x0.arcs lM aO).frm) ((nth x0.arcs lM aO).to))) (fin (nxt (gQ,t143)))
def YW(x0:Fst)(x2:Bool)(kF:B_1)(NT:Bool):Option ((B_1×Bool)⊕(B_1)):=
 aI NT (aV (λq:B_1×Bool×Nat=>P7 x0 x2 q.1 q.2.1 q.2.2) (kF,false,0)) (fin (some kF))
def Za(x1:List Tip)(x0:Fst)(x2:Bool)(bf:B_1)(fO:Nat):Option ((B_1×Nat)⊕(B_1)):=
 aI (decide ((fO:Int)<(x1.length:Int))) (grd (0<=((nth x1 fO bD).state)/\((nth x1 fO bD).state)<(bf.length:Int)) (nxt ((bf.set (((nth x1 fO bD).state).toNat) true),(fO+1)))) (fin (aV (λq:B_1×Bool=>YW x0 x2 q.1 q.2) (bf,true)))
def Dt_(x0:Fst)(x1:List Tip)(x2:Bool):Option (B_1):=
 grd (0<=x0.states/\1 * x0.states.toNat<=281474976710656) (aV (λq:B_1×Nat=>Za x1 x0 x2 q.1 q.2) ((replicate x0.states.toNat false),0))
def Kc_(σ:ak)(r:B_1):Value->ak->List Res->Prop:=λv σ' H'=>
 ∃a1 c1,v= .slice a1 r.length c1/\dV σ' dL a1 c1 r/\H'=[]
theorem Hw_{σ:ak}{x0:Fst}{ay:Option Addr}{au:Nat}{aC:Option Addr}{aJ:Nat}{aK:Option Addr}{aF:Nat}{x1:List Tip}{bW:Option Addr}{bV:Nat}{x2:Bool}(aA:RS σ 2 bg (.slice ay x0.starts.length au) x0.starts)(aG:RS σ 2 bg (.slice aC x0.ends.length aJ) x0.ends)(aH:RS σ 8 dG (.slice aK x0.arcs.length aF) x0.arcs)(bU:RS σ 2 bg (.slice bW x1.length bV) x1){r:B_1}(hh:Dt_ x0 x1 x2=some r):
  Con prog 42 #[.agg (eP x0 ay au aC aJ aK aF),.slice bW x1.length bV,.bool x2] σ [] (Kc_ σ r):=by
 dsimp only [Dt_]at hh;have f0_2b:=aH.rv.big;have f1_0b:=bU.rv.big;refine cM 77 Tryz.func42 (λw0=> ?_);refine R2 ?_;refine TL.bx (λaS=> ?_);refine R6 ?_;obtain ⟨u5,hh⟩:=gd hh;refine κ rfl (IC (m:=x0.states.toNat) (enc:=dL) false rfl underlying33 AZ by4 ze4 rfl rfl (vN u5.1) (vN u5.1) (by omega) (by decide) wJ (by decide) rfl EL (λqP qL=> ?_));refine R8 ?_;refine TC.lk hh () (rgs [(8,1),(16,13)]) (λ⟨bf,fO⟩ _=>([(8,.int .i64 (fO:Int))],[ω aS (eP x0 ay au aC aJ aK aF) 25,ε 4 1 dL (.slice qP (replicate x0.states.toNat false).length qL) bf])) (λ⟨bf,_⟩ _=>bf.length=(replicate x0.states.toNat false).length) z (ψ [1] 2) ?_;rintro ⟨bf,fO⟩ _ _ z1 hh hR1 vO;dsimp only [Za]at hh vO ⊢;refine ξ 1 z (λhb115=> ?_);refine R8 ?_;refine ι z hh (λh116 hh=> ?_) (λh116 hh=> ?_)
 ·refine R10 ?_;obtain ⟨Jb,hh⟩:=gd hh;refine TL.iS 1 z (λhs117=> ?_);refine TL.w z iX (φ 1 z z ?_);have vM:(bf.set (((nth x1 fO bD).state).toNat) true).length=(replicate x0.states.toNat false).length:=by rw [eX];exact vO
  refine κ z (qp true z AZ z z z z wJ EL (by omega) (by omega) ?_);refine R6 ?_;exact nk hR1 hh () (ψ [1] 2) vM
 refine R1 ?_;replace hh:=bF hR1 hh;refine R7 ?_;refine TC.lk hh () (rgs [(9,4),(29,47)]) (λ⟨kF,NT⟩ _=>([(9,.bool NT)],[ω aS (eP x0 ay au aC aJ aK aF) 25,ε 4 1 dL (.slice qP (replicate x0.states.toNat false).length qL) kF])) (λ⟨kF,_⟩ _=>kF.length=(replicate x0.states.toNat false).length) vO (ψ [1,1] 2) ?_;rintro ⟨kF,NT⟩ _ _ z1 hh hR1 qW;dsimp only [YW]at hh qW ⊢;refine ξ 1 z (λTM=> ?_);refine R5 ?_;refine TC.cB z hh (λmG hh=> ?_) (λmG hh=> ?_)
 ·refine R11 ?_;refine TC.lk hh () (rgs [(9,4),(30,46)]) (λ⟨gQ,t143,lM⟩ _=>([(9,.bool t143),(10,.int .i64 (lM:Int))],[ω aS (eP x0 ay au aC aJ aK aF) 25,ε 4 1 dL (.slice qP (replicate x0.states.toNat false).length qL) gQ])) (λ⟨gQ,_,_⟩ _=>gQ.length=(replicate x0.states.toNat false).length) qW (ψ [1,1] 2) ?_;rintro ⟨gQ,t143,lM⟩ _ _ z2 hh hR2 pW;dsimp only [P7]at hh pW ⊢;refine ξ 1 z (λTJ=> ?_);refine R9 ?_;refine ι z hh (λXe hh=> ?_) (λXe hh=> ?_)
  ·refine R1 ?_;refine TC.cutG (α:=(B_1×Bool)×(Unit)) (rgs [(9,1),(11,2),(37,39)]) (λg=>[(9,.bool g.1.2)]) (λg=>[ω aS (eP x0 ay au aC aJ aK aF) 25,ε 4 1 dL (.slice qP (replicate x0.states.toNat false).length qL) g.1.1]) (λg=>σ) (λg=>Cu_ lM g.1.1 g.1.2=some z2/\g.1.1.length=(replicate x0.states.toNat false).length) ?_ (λg j hg=> ?_)
   ·refine R21 ?_;refine TC.cutG (α:=(Int×Int)×(Unit)) (rgs [(11,2),(49,13)]) (λg=>[(11,.int .i64 g.1.1),(12,.int .i64 g.1.2)]) (λg=>[ω aS (eP x0 ay au aC aJ aK aF) 25,ε 4 1 dL (.slice qP (replicate x0.states.toNat false).length qL) gQ]) (λg=>σ) (λg=>Cr_ gQ lM t143 g.1.1 g.1.2=some z2/\gQ.length=(replicate x0.states.toNat false).length) ?_ (λg j hg=> ?_)
    ·refine R4 ?_;refine TC.cB z hh (λLd hh=> ?_) (λLd hh=> ?_)
     ·refine X_ ?_;exact cf ((((nth x0.arcs lM aO).to),((nth x0.arcs lM aO).frm)),()) ⟨hh,pW⟩ (ψ [1,1] 2)
     refine R1 ?_;exact cf ((((nth x0.arcs lM aO).frm),((nth x0.arcs lM aO).to)),()) ⟨hh,pW⟩ (ψ [1,1] 2)
    obtain ⟨⟨y7,i152⟩,_⟩:=g;obtain ⟨hh,pV⟩:=hg
    try dsimp only at pV ⊢
    dsimp only [Cr_]at hh;refine ξ 1 z (λKX=> ?_);refine R4 ?_;obtain ⟨u63,hh⟩:=gd hh;refine TL.iS 1 z (λhs155=> ?_);refine R3 ?_;refine Γ 66 z (λAw=> ?_) (λAw=> ?_)
    ·replace hh:=nT Aw hh;refine R2 ?_;obtain ⟨u68,hh⟩:=gd hh;refine TL.iS 1 z (λhs157=> ?_);refine R5 ?_;refine TC.cB z hh (λLc hh=> ?_) (λLc hh=> ?_)
     ·refine R4 ?_;obtain ⟨u74,hh⟩:=gd hh;refine TL.iS 1 z (λhs159=> ?_);refine TL.w z iX (φ 1 z z ?_);have xH:(gQ.set i152.toNat true).length=(replicate x0.states.toNat false).length:=by rw [eX];exact pV
      refine κ z (qp true z AZ z z z z wJ EL (by omega) (by omega) ?_);refine R4 ?_;exact cf (((gQ.set i152.toNat true),true),()) ⟨hh,xH⟩ (ψ [1] 2)
     refine R1 ?_;exact cf ((gQ,t143),()) ⟨hh,pV⟩ (ψ [1,1] 2)
    replace hh:=nS Aw hh;refine R9 ?_;exact cf ((gQ,t143),()) ⟨hh,pV⟩ (ψ [1,1] 2)
   obtain ⟨⟨l147,t149⟩,_⟩:=g;obtain ⟨hh,Gi⟩:=hg
   try dsimp only at Gi ⊢
   dsimp only [Cu_]at hh;refine ξ 1 z (λhb161=> ?_);refine R5 ?_;exact nk hR2 hh () (ψ [1,1] 2) Gi
  refine R1 ?_;replace hh:=bF hR2 hh;refine R1 ?_;exact nk hR1 hh () (ψ [1,1] 2) pW
 refine R1 ?_;replace hh:=bF hR1 hh;refine R6 ?_;rw [<-qW];refine TC.front 1 z z (TC.iw wJ (λτ166 Ey zJ=> ?_));have hr164b:=zJ.rv.big;refine TC.rt 0 ?_;obtain rfl:=so hh;exact rq [6] ⟨qP,qL,z,zJ,z⟩
def YS(aU:Nat)(kF:aj)(eH:Nat):Option ((aj×Nat×Nat)⊕(Fst×Int)):=
 nxt (kF,eH,(aU+1))
def D3_(lK:Nat)(eY:List Tip):Option (((List Tip)×Nat)⊕(Fst×Int)):=
 nxt (eY,(lK+1))
def D1_(lJ:Nat)(l209:List Tip):Option (((List Tip)×Nat)⊕(Fst×Int)):=
 nxt (l209,(lJ+1))
def C5_(fQ:Nat)(l258:List Arc):Option (((List Arc)×Nat)⊕(Fst×Int)):=
 nxt (l258,(fQ+1))
def YQ(x0:Fst)(bT:aj)(bC:Nat)(gK:List Tip)(l199:List Tip)(sO:List Arc)(fQ:Nat):Option (((List Arc)×Nat)⊕(Fst×Int)):=
 aI (decide ((fQ:Int)<(x0.arcs.length:Int))) (grd (0<=((nth x0.arcs fQ aO).frm)/\((nth x0.arcs fQ aO).frm)<(bT.length:Int)) (aI (decide (0<=(nth bT (((nth x0.arcs fQ aO).frm).toNat) 0))) (grd (0<=((nth x0.arcs fQ aO).to)/\((nth x0.arcs fQ aO).to)<(bT.length:Int)) (aI (decide (0<=(nth bT (((nth x0.arcs fQ aO).to).toNat) 0))) (grd (0<=((nth x0.arcs fQ aO).frm)/\((nth x0.arcs fQ aO).frm)<(bT.length:Int)) (grd (0<=((nth x0.arcs fQ aO).to)/\((nth x0.arcs fQ aO).to)<(bT.length:Int)) (grd ((sO.length+[(⟨(nth bT (((nth x0.arcs fQ aO).frm).toNat) 0),(nth bT (((nth x0.arcs fQ aO).to).toNat) 0),(nth x0.arcs fQ aO).set,(nth x0.arcs fQ aO).out,(nth x0.arcs fQ aO).copy⟩:Arc)].length) * 72<=140737488355328) (C5_ fQ (sO++[(⟨(nth bT (((nth x0.arcs fQ aO).frm).toNat) 0),(nth bT (((nth x0.arcs fQ aO).to).toNat) 0),(nth x0.arcs fQ aO).set,(nth x0.arcs fQ aO).out,(nth x0.arcs fQ aO).copy⟩:Arc)]))))) (C5_ fQ sO))) (C5_ fQ sO))) (fin (bnd (MO (⟨(bC:Int),gK,l199,sO⟩:Fst)) (λVb=>some (Vb.1,Vb.2))))
def Y9(x0:Fst)(bT:aj)(bC:Nat)(gK:List Tip)(l199:List Tip)(lJ:Nat):Option (((List Tip)×Nat)⊕(Fst×Int)):=
 aI (decide ((lJ:Int)<(x0.ends.length:Int))) (grd (0<=((nth x0.ends lJ bD).state)/\((nth x0.ends lJ bD).state)<(bT.length:Int)) (aI (decide (0<=(nth bT (((nth x0.ends lJ bD).state).toNat) 0))) (grd (0<=((nth x0.ends lJ bD).state)/\((nth x0.ends lJ bD).state)<(bT.length:Int)) (grd ((l199.length+[(⟨(nth bT (((nth x0.ends lJ bD).state).toNat) 0),(nth x0.ends lJ bD).out⟩:Tip)].length) * 24<=140737488355328) (D1_ lJ (l199++[(⟨(nth bT (((nth x0.ends lJ bD).state).toNat) 0),(nth x0.ends lJ bD).out⟩:Tip)])))) (D1_ lJ l199))) (fin (aV (λq:(List Arc)×Nat=>YQ x0 bT bC gK l199 q.1 q.2) (([]:List Arc),0)))
def UR(x0:Fst)(bT:aj)(bC:Nat)(gK:List Tip)(lK:Nat):Option (((List Tip)×Nat)⊕(Fst×Int)):=
 aI (decide ((lK:Int)<(x0.starts.length:Int))) (grd (0<=((nth x0.starts lK bD).state)/\((nth x0.starts lK bD).state)<(bT.length:Int)) (aI (decide (0<=(nth bT (((nth x0.starts lK bD).state).toNat) 0))) (grd (0<=((nth x0.starts lK bD).state)/\((nth x0.starts lK bD).state)<(bT.length:Int)) (grd ((gK.length+[(⟨(nth bT (((nth x0.starts lK bD).state).toNat) 0),(nth x0.starts lK bD).out⟩:Tip)].length) * 24<=140737488355328) (D3_ lK (gK++[(⟨(nth bT (((nth x0.starts lK bD).state).toNat) 0),(nth x0.starts lK bD).out⟩:Tip)])))) (D3_ lK gK))) (fin (aV (λq:(List Tip)×Nat=>Y9 x0 bT bC gK q.1 q.2) (([]:List Tip),0)))
def NC(x0:Fst)(v13:B_1)(v18:B_1)(bT:aj)(bC:Nat)(aU:Nat):Option ((aj×Nat×Nat)⊕(Fst×Int)):=
 aI (decide ((aU:Int)<x0.states)) (grd (aU<bT.length) (grd (aU<v13.length) (aI (nth v13 aU false) (grd (aU<v18.length) (aI (nth v18 aU false) (grd (aU<(bT.set aU (-1)).length) (grd (bC+1<=9223372036854775807) (YS aU ((bT.set aU (-1)).set aU (bC:Int)) (bC+1)))) (YS aU (bT.set aU (-1)) bC))) (YS aU (bT.set aU (-1)) bC)))) (fin (aV (λq:(List Tip)×Nat=>UR x0 bT bC q.1 q.2) (([]:List Tip),0)))
def Fs_(x0:Fst):Option (Fst×Int):=
 bnd (Ib x0) (λv5=>aI (!v5) (some ((⟨0,([]:List Tip),([]:List Tip),([]:List Arc)⟩:Fst),1)) (bnd (Dt_ x0 x0.starts false) (λv13=>bnd (Dt_ x0 x0.ends true) (λv18=>grd (0<=x0.states/\8 * x0.states.toNat<=281474976710656) (aV (λq:aj×Nat×Nat=>NC x0 v13 v18 q.1 q.2.1 q.2.2) ((replicate x0.states.toNat (0:Int)),0,0))))))
theorem J5_{σ:ak}{x0:Fst}{ay:Option Addr}{au:Nat}{aC:Option Addr}{aJ:Nat}{aK:Option Addr}{aF:Nat}(aA:RS σ 2 bg (.slice ay x0.starts.length au) x0.starts)(aG:RS σ 2 bg (.slice aC x0.ends.length aJ) x0.ends)(aH:RS σ 8 dG (.slice aK x0.arcs.length aF) x0.arcs){r:Fst×Int}(hh:Fs_ x0=some r):
  Con prog 13 #[.agg (eP x0 ay au aC aJ aK aF)] σ [] (MK σ r):=by
 dsimp only [Fs_]at hh;have f0_0b:=aA.rv.big;have f0_1b:=aG.rv.big;have f0_2b:=aH.rv.big;refine cM 169 Tryz.func13 (λw0=> ?_);refine R2 ?_;refine TL.bx (λaS=> ?_);refine TL.al (λbn=> ?_);refine R6 ?_;obtain ⟨v5,u5,hh⟩:=bQ hh;refine κ z (eG (P8 (x0:=x0) aA aG aH u5) z z NJ z z z ?_);refine R2 ?_;refine TC.cB z hh (λbM hh=> ?_) (λbM hh=> ?_)
 ·refine R6 ?_;refine TC.rt 1 ?_;obtain rfl:=so hh;exact rz
 refine R6 ?_;obtain ⟨v13,u13,hh⟩:=bQ hh;refine κ z (OpOk.call (Hw_ (x0:=x0) aA aG aH aA u13) z z pf42 z z z z ?_);rintro _ τ106 _ oD ⟨a106_1,c106_1,rfl,hr106_0,rfl⟩;replace aA:=aA.mono oD;replace aG:=aG.mono oD;replace aH:=aH.mono oD;refine R7 ?_;obtain ⟨v18,Jb,hh⟩:=bQ hh;refine κ z (OpOk.call (Hw_ (x0:=x0) aA aG aH aG Jb) z z pf42 z z z z ?_);rintro _ τ107 _ jy ⟨a107_1,c107_1,rfl,hr107_0,rfl⟩;replace aA:=aA.mono jy;replace aG:=aG.mono jy;replace aH:=aH.mono jy;replace hr106_0:=hr106_0.mono jy;have hr107_0b:=hr107_0.rv.big;refine R6 ?_;obtain ⟨u22,hh⟩:=gd hh;refine κ rfl (IC (m:=x0.states.toNat) (enc:=aB) (0:Int) rfl yT lG T_ Fh rfl rfl (vN u22.1) (vN u22.1) (by omega) (by decide) aW (by decide) rfl vX (λzq c109=> ?_));refine R5 ?_;refine TL.al (λnN=> ?_);refine R8 ?_;refine TC.lk hh () (rgs [(8,1),(31,28)]) (λ⟨bT,bC,aU⟩ _=>([(8,.int .i64 (aU:Int))],[ω aS (eP x0 ay au aC aJ aK aF) 25,ω bn #[.int .i64 0,aT,aT,aT] 25,ε 3 1 aB (.slice zq (replicate x0.states.toNat (0:Int)).length c109) bT,ω nN #[.int .i64 (bC:Int),aT,aT,aT] 25])) (λ⟨bT,_,_⟩ _=>bT.length=(replicate x0.states.toNat (0:Int)).length) z (ψ [1,2,3] 4) ?_;rintro ⟨bT,bC,aU⟩ _ _ z1 hh hR1 J3;dsimp only [NC]at hh J3 ⊢;refine ξ 2 z (λhb125=> ?_);refine R8 ?_;refine ι z hh (λyc hh=> ?_) (λyc hh=> ?_)
 ·refine R1 ?_;refine TC.cutG (α:=(aj×Nat)×(Unit)) (rgs [(37,22)]) (λg=>[]) (λg=>[ω aS (eP x0 ay au aC aJ aK aF) 25,ω bn #[.int .i64 0,aT,aT,aT] 25,ε 3 1 aB (.slice zq (replicate x0.states.toNat (0:Int)).length c109) g.1.1,ω nN #[.int .i64 (g.1.2:Int),aT,aT,aT] 25]) (λg=>τ107) (λg=>YS aU g.1.1 g.1.2=some z1/\g.1.1.length=(replicate x0.states.toNat (0:Int)).length) ?_ (λg j hg=> ?_)
  ·refine R5 ?_;obtain ⟨u34,hh⟩:=gd hh;refine TL.iS 2 z (λhs130=> ?_);refine TL.w z iN (φ 2 z z ?_);have vJ:(bT.set aU (-1)).length=(replicate x0.states.toNat (0:Int)).length:=by rw [eX];exact J3
   refine κ z (qp (-1) z lG z z z z aW vX (by omega) (by omega) ?_);refine R5 ?_;obtain ⟨u38,hh⟩:=gd hh;refine R3 ?_;refine Γ 44 z (λEJ=> ?_) (λEJ=> ?_)
   ·replace hh:=nT EJ hh;refine R2 ?_;obtain ⟨u43,hh⟩:=gd hh;refine R4 ?_;refine TC.cB z hh (λrV hh=> ?_) (λrV hh=> ?_)
    ·refine R6 ?_;obtain ⟨u50,hh⟩:=gd hh;refine TL.iS 0 z (λhs134=> ?_);refine TL.w z iN ?_;have hn135:((bT.set aU (-1)).set aU (bC:Int)).length=(replicate x0.states.toNat (0:Int)).length:=by rw [eX];exact vJ
     refine κ z (qp (bC:Int) z lG z z z z aW vX (by omega) (by omega) ?_);refine R4 ?_;obtain ⟨u54,hh⟩:=gd hh;refine R2 ?_;refine φ 3 z z (R2 ?_);exact cf ((((bT.set aU (-1)).set aU (bC:Int)),(bC+1)),()) ⟨hh,hn135⟩ (ψ [1,3,3] 4)
    refine R1 ?_;exact cf (((bT.set aU (-1)),bC),()) ⟨hh,vJ⟩ (ψ [3,1,3,3] 4)
   replace hh:=nS EJ hh;refine R8 ?_;exact cf (((bT.set aU (-1)),bC),()) ⟨hh,vJ⟩ (ψ [3,1,3,3] 4)
  obtain ⟨⟨kF,eH⟩,_⟩:=g;obtain ⟨hh,qW⟩:=hg
  try dsimp only at qW ⊢
  dsimp only [YS]at hh;refine ξ 2 z (λKY=> ?_);refine R5 ?_;exact nk hR1 hh () (ψ [3,3,3,3] 4) qW
 refine R1 ?_;replace hh:=bF hR1 hh;refine R7 ?_;refine TC.nilS 79 2 bg (TC.lk hh (nO,oO) (rgs [(9,2),(59,31)]) (λ⟨gK,lK⟩ ⟨a154,oZ⟩=>([(9,.int .i64 (lK:Int))],[ω aS (eP x0 ay au aC aJ aK aF) 25,ω bn #[.int .i64 0,aT,aT,aT] 25,ε 3 1 aB (.slice zq (replicate x0.states.toNat (0:Int)).length c109) bT,ω nN #[.int .i64 (bC:Int),.slice a154 gK.length oZ,aT,aT] 25,ε 79 2 bg (.slice a154 gK.length oZ) gK])) (λ⟨_,_⟩ ⟨_,_⟩=>bT.length=(replicate x0.states.toNat (0:Int)).length) J3 (ψ [4,4,4,4] 5) ?_);rintro ⟨gK,lK⟩ ⟨a154,oZ⟩ _ z1 hh hR1 tH;dsimp only [UR]at hh tH ⊢;refine ξ 2 z (λTF=> ?_);refine ξ 4 z (λhb159=> ?_);refine R9 ?_;refine ι z hh (λh160 hh=> ?_) (λh160 hh=> ?_)
 ·refine R1 ?_;refine TC.cutG (α:=((List Tip))×((Option Addr)×Nat)) (rgs [(10,1),(66,24)]) (λg=>[]) (λg=>[ω aS (eP x0 ay au aC aJ aK aF) 25,ω bn #[.int .i64 0,aT,aT,aT] 25,ε 3 1 aB (.slice zq (replicate x0.states.toNat (0:Int)).length c109) bT,ω nN #[.int .i64 (bC:Int),.slice g.2.1 g.1.length g.2.2,aT,aT] 25,ε 79 2 bg (.slice g.2.1 g.1.length g.2.2) g.1]) (λg=>τ107) (λg=>D3_ lK g.1=some z1/\bT.length=(replicate x0.states.toNat (0:Int)).length) ?_ (λg j hg=> ?_)
  ·refine R8 ?_;refine TL.al (λb165=> ?_);refine R7 ?_;obtain ⟨u76,hh⟩:=gd hh;refine TL.iS 3 z (λhs167=> ?_);refine R4 ?_;refine ι z hh (λh168 hh=> ?_) (λh168 hh=> ?_)
   ·obtain ⟨u84,hh⟩:=gd hh;obtain ⟨u90,hh⟩:=gd hh;refine TC.draw [11,12,13] (by kernel_rfl) (ν 0 z fL z (Δ 1 z lL z (ν 2 z mS z (ν 3 z fL z (Δ 4 z lL z (TA.isSl (i:=3) z (λhs175 _ _=> ?_)))))));refine Δ 5 z iX z (Δ 6 z o1 z (ν 7 z fL z (Δ 8 z lL z (ν 9 z bL z (Φ 10 z (gX (enc:=bg) [(⟨(nth bT (((nth x0.starts lK bD).state).toNat) 0),(nth x0.starts lK bD).out⟩:Tip)] (λuV uS=>(k1 ?_))))))));refine Θ 6 z z (TA.last 11 (by kernel_rfl) z z z (apF (.inr ⟨_,0,z⟩) u90 (λX6 Xz=> ?_)));refine TZ.v 12 (by kernel_rfl) z z z fL z z (TZ.front 6 z z (TZ.last 13 (by kernel_rfl) z z z (gJ z U6 z z z z z ?_)));refine R1 ?_;exact cf ((gK++[(⟨(nth bT (((nth x0.starts lK bD).state).toNat) 0),(nth x0.starts lK bD).out⟩:Tip)]),(X6,Xz)) ⟨hh,tH⟩ (ψ [1,1,6,6,6] 5)
   refine R1 ?_;exact cf (gK,(a154,oZ)) ⟨hh,tH⟩ (ψ [5,5,5,5,5] 5)
  obtain ⟨eY,⟨tY,c164⟩⟩:=g;obtain ⟨hh,SB⟩:=hg
  try dsimp only at SB ⊢
  dsimp only [D3_]at hh;refine ξ 2 z (λhb181=> ?_);refine ξ 4 z (λhb182=> ?_);refine R5 ?_;exact nk hR1 hh (tY,c164) (ψ [4,4,4,4,4] 5) SB
 refine R1 ?_;replace hh:=bF hR1 hh;refine R7 ?_;refine TC.nilS 79 2 bg (TC.lk hh (nO,oO) (rgs [(11,2),(90,31)]) (λ⟨l199,lJ⟩ ⟨Dw,c201⟩=>([(11,.int .i64 (lJ:Int))],[ω aS (eP x0 ay au aC aJ aK aF) 25,ω bn #[.int .i64 0,aT,aT,aT] 25,ε 3 1 aB (.slice zq (replicate x0.states.toNat (0:Int)).length c109) bT,ω nN #[.int .i64 (bC:Int),.slice a154 gK.length oZ,.slice Dw l199.length c201,aT] 25,ε 79 2 bg (.slice a154 gK.length oZ) gK,ε 79 2 bg (.slice Dw l199.length c201) l199])) (λ⟨_,_⟩ ⟨_,_⟩=>bT.length=(replicate x0.states.toNat (0:Int)).length) tH (ψ [5,5,5,5,5] 6) ?_);rintro ⟨l199,lJ⟩ ⟨Dw,c201⟩ _ z1 hh hR1 F9;dsimp only [Y9]at hh F9 ⊢;refine ξ 2 z (λhb204=> ?_);refine ξ 4 z (λhb205=> ?_);refine ξ 5 z (λhb206=> ?_);refine R9 ?_;refine ι z hh (λh207 hh=> ?_) (λh207 hh=> ?_)
 ·refine R1 ?_;refine TC.cutG (α:=((List Tip))×((Option Addr)×Nat)) (rgs [(12,1),(97,24)]) (λg=>[]) (λg=>[ω aS (eP x0 ay au aC aJ aK aF) 25,ω bn #[.int .i64 0,aT,aT,aT] 25,ε 3 1 aB (.slice zq (replicate x0.states.toNat (0:Int)).length c109) bT,ω nN #[.int .i64 (bC:Int),.slice a154 gK.length oZ,.slice g.2.1 g.1.length g.2.2,aT] 25,ε 79 2 bg (.slice a154 gK.length oZ) gK,ε 79 2 bg (.slice g.2.1 g.1.length g.2.2) g.1]) (λg=>τ107) (λg=>D1_ lJ g.1=some z1/\bT.length=(replicate x0.states.toNat (0:Int)).length) ?_ (λg j hg=> ?_)
  ·refine R8 ?_;refine TL.al (λDl=> ?_);refine R7 ?_;obtain ⟨NQ,hh⟩:=gd hh;refine TL.iS 3 z (λhs214=> ?_);refine R4 ?_;refine ι z hh (λh215 hh=> ?_) (λh215 hh=> ?_)
   ·obtain ⟨u120,hh⟩:=gd hh;obtain ⟨u126,hh⟩:=gd hh;refine TC.draw [11,12,13] (by kernel_rfl) (ν 0 z fL z (Δ 1 z lL z (ν 2 z mS z (ν 3 z fL z (Δ 4 z lL z (TA.isSl (i:=3) z (λhs222 _ _=> ?_)))))));refine Δ 5 z iX z (Δ 6 z o1 z (ν 7 z fL z (Δ 8 z lL z (ν 9 z bL z (Φ 10 z (gX (enc:=bg) [(⟨(nth bT (((nth x0.ends lJ bD).state).toNat) 0),(nth x0.ends lJ bD).out⟩:Tip)] (λa223 c224=>(k1 ?_))))))));refine Θ 7 z z (TA.last 11 (by kernel_rfl) z z z (apF (.inr ⟨_,0,z⟩) u126 (λa226 c227=> ?_)));refine TZ.v 12 (by kernel_rfl) z z z fL z z (TZ.front 6 z z (TZ.last 13 (by kernel_rfl) z z z (gJ z U6 z z z z z ?_)));refine R1 ?_;exact cf ((l199++[(⟨(nth bT (((nth x0.ends lJ bD).state).toNat) 0),(nth x0.ends lJ bD).out⟩:Tip)]),(a226,c227)) ⟨hh,F9⟩ (ψ [1,7,2,7,7,7] 6)
   refine R1 ?_;exact cf (l199,(Dw,c201)) ⟨hh,F9⟩ (ψ [6,6,6,6,6,6] 6)
  obtain ⟨l209,⟨a210,c211⟩⟩:=g;obtain ⟨hh,CU⟩:=hg
  try dsimp only at CU ⊢
  dsimp only [D1_]at hh;refine ξ 2 z (λhb228=> ?_);refine ξ 4 z (λhb229=> ?_);refine ξ 5 z (λhb230=> ?_);refine R5 ?_;exact nk hR1 hh (a210,c211) (ψ [5,5,5,5,5,5] 6) CU
 refine R1 ?_;replace hh:=bF hR1 hh;refine R7 ?_;refine TC.nilS 49 8 dG (TC.lk hh (nO,oO) (rgs [(13,2),(121,44)]) (λ⟨sO,fQ⟩ ⟨Md,LH⟩=>([(13,.int .i64 (fQ:Int))],[ω aS (eP x0 ay au aC aJ aK aF) 25,ω bn #[.int .i64 0,aT,aT,aT] 25,ε 3 1 aB (.slice zq (replicate x0.states.toNat (0:Int)).length c109) bT,ω nN #[.int .i64 (bC:Int),.slice a154 gK.length oZ,.slice Dw l199.length c201,.slice Md sO.length LH] 25,ε 79 2 bg (.slice a154 gK.length oZ) gK,ε 79 2 bg (.slice Dw l199.length c201) l199,ε 49 8 dG (.slice Md sO.length LH) sO])) (λ⟨_,_⟩ ⟨_,_⟩=>bT.length=(replicate x0.states.toNat (0:Int)).length) F9 (ψ [6,6,6,6,6,6] 7) ?_);rintro ⟨sO,fQ⟩ ⟨Md,LH⟩ _ z1 hh hR1 FY;dsimp only [YQ]at hh FY ⊢;refine ξ 2 z (λTv=> ?_);refine ξ 4 z (λTt=> ?_);refine ξ 5 z (λhb254=> ?_);refine ξ 6 z (λhb255=> ?_);refine R9 ?_;refine ι z hh (λh256 hh=> ?_) (λh256 hh=> ?_)
 ·refine R1 ?_;refine TC.cutG (α:=((List Arc))×((Option Addr)×Nat)) (rgs [(14,1),(128,37)]) (λg=>[]) (λg=>[ω aS (eP x0 ay au aC aJ aK aF) 25,ω bn #[.int .i64 0,aT,aT,aT] 25,ε 3 1 aB (.slice zq (replicate x0.states.toNat (0:Int)).length c109) bT,ω nN #[.int .i64 (bC:Int),.slice a154 gK.length oZ,.slice Dw l199.length c201,.slice g.2.1 g.1.length g.2.2] 25,ε 79 2 bg (.slice a154 gK.length oZ) gK,ε 79 2 bg (.slice Dw l199.length c201) l199,ε 49 8 dG (.slice g.2.1 g.1.length g.2.2) g.1]) (λg=>τ107) (λg=>C5_ fQ g.1=some z1/\bT.length=(replicate x0.states.toNat (0:Int)).length) ?_ (λg j hg=> ?_)
  ·refine R8 ?_;refine TL.al (λb261=> ?_);refine R7 ?_;obtain ⟨u148,hh⟩:=gd hh;refine TL.iS 3 z (λhs263=> ?_);refine R4 ?_;refine Γ 139 z (λLa=> ?_) (λLa=> ?_)
   ·obtain ⟨La,hh⟩:=iT La hh;refine R3 ?_;obtain ⟨u155,hh⟩:=gd hh;refine TL.iS 3 z (λhs265=> ?_);refine R5 ?_;refine ι z hh (λxZ hh=> ?_) (λxZ hh=> ?_)
    ·refine R5 ?_;obtain ⟨u162,hh⟩:=gd hh;refine TL.iS 3 z (λhs267=> ?_);refine R10 ?_;obtain ⟨u169,hh⟩:=gd hh;refine TL.iS 3 z (λhs268=> ?_);refine R9 ?_;refine κ z (gX (enc:=dG) [(⟨(nth bT (((nth x0.arcs fQ aO).frm).toNat) 0),(nth bT (((nth x0.arcs fQ aO).to).toNat) 0),(nth x0.arcs fQ aO).set,(nth x0.arcs fQ aO).out,(nth x0.arcs fQ aO).copy⟩:Arc)] (λDu Dh=> ?_));refine φ 8 z z ?_;obtain ⟨u177,hh⟩:=gd hh;refine κ z (apF (.inr ⟨_,0,z⟩) u177 (λAX AO=> ?_));refine TL.w z fL (φ 6 z z (R2 ?_));exact cf ((sO++[(⟨(nth bT (((nth x0.arcs fQ aO).frm).toNat) 0),(nth bT (((nth x0.arcs fQ aO).to).toNat) 0),(nth x0.arcs fQ aO).set,(nth x0.arcs fQ aO).out,(nth x0.arcs fQ aO).copy⟩:Arc)]),(AX,AO)) ⟨hh,FY⟩ (ψ [1,8,8,3,8,8,8] 7)
    refine R1 ?_;exact cf (sO,(Md,LH)) ⟨hh,FY⟩ (ψ [7,7,7,7,7,7,7] 7)
   obtain ⟨La,hh⟩:=iF La hh;refine R10 ?_;exact cf (sO,(Md,LH)) ⟨hh,FY⟩ (ψ [7,7,7,7,7,7,7] 7)
  obtain ⟨l258,⟨a259,c260⟩⟩:=g;obtain ⟨hh,Sm⟩:=hg
  try dsimp only at Sm ⊢
  dsimp only [C5_]at hh;refine ξ 2 z (λhb274=> ?_);refine ξ 4 z (λTq=> ?_);refine ξ 5 z (λGq=> ?_);refine ξ 6 z (λGp=> ?_);refine R5 ?_;exact nk hR1 hh (a259,c260) (ψ [6,6,6,6,6,6,6] 7) Sm
 refine R1 ?_;replace hh:=bF hR1 hh;refine R4 ?_;refine φ 4 z z (TL.iw yj (λτ281 hle280 B_=> ?_));refine φ 4 z z (TL.iw yj (λτ284 Ws JB=> ?_));replace B_:=B_.mono Ws;refine φ 4 z z (TL.iw EM (λτ287 Kr hr285=> ?_));replace B_:=B_.mono Kr;replace JB:=JB.mono Kr;obtain ⟨Vb,u184,hh⟩:=bQ hh;refine κ z (OpOk.call (Jy_ (x0:=(⟨(bC:Int),gK,l199,sO⟩:Fst)) B_ JB hr285 u184) z z pf43 z z z z ?_);rintro _ τ288 _ xQ ⟨a288_1,c288_1,a288_2,c288_2,a288_3,c288_3,rfl,hr288_0,hr288_1,hr288_2,rfl⟩;have hr288_2b:=hr288_2.rv.big;refine R2 ?_;refine φ 1 z z (R3 ?_);refine TC.rt 1 ?_;obtain rfl:=so hh;exact rz
end Go.Proofs.YtcfgkcfcddfccaaGreatDoor
end

noncomputable section
namespace Go.Proofs.YtcfgkcfcddfccaaGreatDoor
open Go Go.E
def aFrm(back:Bool)(x:Arc):Int:=if back=true then x.to else x.frm
def aTo(back:Bool)(x:Arc):Int:=if back=true then x.frm else x.to
def aE(t:Fst)(back:Bool)(a b:Int):Prop:= ∃x∈t.arcs,aFrm back x=a/\aTo back x=b
structure GrI (t:Fst) (tips:List Tip) (back:Bool) (l:B_1):Prop where
  len:l.length=t.states.toNat
  sound: ∀v:Nat,nth l v false=true->Rch (λc=> ∃x∈tips,x.state=c) (aE t back) v
  tip: ∀x∈tips,nth l x.state.toNat false=true
def Ig(l:B_1):Nat:=l.count false
theorem zo_{l:B_1}{i:Nat}(hi:i<l.length)(h:nth l i false=false):Ig (l.set i true)<Ig l:=by
  have h2:l[i]=false:=by have:=getD_some l hi false;rw [List.getElem?_eq_getElem hi,h]at this;exact Option.some.inj this
  have h3:0<l.count false:=List.count_pos_iff.2 (h2▸List.getElem_mem hi);unfold Ig;rw [List.count_set hi,h2];simp only [beq_self_eq_true,if_true,show (true == false)=false from rfl,Bool.false_eq_true,if_false,Nat.add_zero];omega
theorem v0_ {t : Fst} (ht : FstOk t) {tips : List Tip} {back : Bool} {l0 : B_1} (h0 : GrI t tips back l0) :
    ∃r,aV (λq:B_1×Bool×Nat=>P7 t back q.1 q.2.1 q.2.2) (l0,false,0)=some r/\ ∃l b,r= .inl (l,b)/\GrI t tips back l/\(b=true->Ig l<Ig l0)/\(b=false->l=l0/\ ∀x∈t.arcs,nth l (aFrm back x).toNat false=true->nth l (aTo back x).toNat false=true):=by
  refine Nb (step:=λq:B_1×Bool×Nat=>P7 t back q.1 q.2.1 q.2.2) (λ(s:B_1×Bool) k=>(s.1,s.2,k)) t.arcs aO
    (λpre s=>GrI t tips back s.1/\(s.2=true->Ig s.1<Ig l0)/\(s.2=false->s.1=l0/\ ∀x∈pre,nth s.1 (aFrm back x).toNat false=true->nth s.1 (aTo back x).toNat false=true)) _
    (λk s hk hI=> ?_) (λs hI=> ?_) (s0:=(l0,false)) ⟨h0,λh=>(by cases h),λ_=>⟨rfl,λx hx=>(by cases hx)⟩⟩
  · obtain ⟨l,b⟩:=s
    obtain ⟨g,hb,hc⟩:=hI;dsimp only at g hb hc;obtain ⟨b1,b2,b3⟩:=ht.arcs _ (Iy aO hk);have hlen:=g.len;generalize hx:nth t.arcs k aO=x at b1 b2 b3;have hxm:x∈t.arcs:=hx▸Iy aO hk;have rf:0<=aFrm back x/\aFrm back x<t.states:=by unfold aFrm;split<;>assumption
    have rt:0<=aTo back x/\aTo back x<t.states:=by unfold aTo;split<;>assumption
    left;have e:P7 t back l b k=Cr_ l k b (aFrm back x) (aTo back x):=by
      unfold P7;rw [bY (by omega),hx];cases back<;>rfl
    show ∃s',P7 t back l b k=_/\_;rw [e];unfold Cr_ Cu_;rw [aQ ⟨rf.1,by omega⟩];cases h1:nth l (aFrm back x).toNat false with
    |false=>
      refine ⟨(l,b),rfl,g,hb,λhbf=>⟨(hc hbf).1,λy hy hy1=> ?_⟩⟩;rcases List.mem_append.1 hy with hy|hy
      · exact (hc hbf).2 y hy hy1
      obtain rfl:=List.mem_singleton.1 hy;dsimp only at hy1;rw [h1]at hy1;cases hy1
    |true=>
      rw [iteO_true,aQ ⟨rt.1,by omega⟩];cases h2:nth l (aTo back x).toNat false with
      |true=>
        refine ⟨(l,b),rfl,g,hb,λhbf=>⟨(hc hbf).1,λy hy hy1=> ?_⟩⟩;rcases List.mem_append.1 hy with hy|hy
        · exact (hc hbf).2 y hy hy1
        obtain rfl:=List.mem_singleton.1 hy;exact h2
      |false=>
        rw [Bool.not_false,iteO_true,aQ ⟨rt.1,by omega⟩];have hlt:Ig (l.set (aTo back x).toNat true)<Ig l:=zo_ (by omega) h2;have hle:Ig l<=Ig l0:=by
          cases b with
          |true=>exact Nat.le_of_lt (hb rfl)
          |false=>rw [(hc rfl).1];exact Nat.le_refl _
        refine ⟨(l.set (aTo back x).toNat true,true),rfl,⟨by rw [eX];exact hlen,λv hv=> ?_,λy hy=> ?_⟩,λ_=>(by dsimp only;omega),λh=>(by cases h)⟩
        · rw [nI]at hv
          by_cases c:(aTo back x).toNat=v
          · have hr:=g.sound _ h1
            have:((v:Nat):Int)=aTo back x:=by omega
            rw [this];refine Rch.step hr ⟨x,hxm,by omega,rfl⟩
          rw [if_neg (λh=>c h.1)]at hv;exact g.sound v hv
        rw [nI]
        split
        · rfl
        exact g.tip y hy
  obtain ⟨l,b⟩:=s;obtain ⟨g,hb,hc⟩:=hI;refine ⟨_,?_,l,b,rfl,g,hb,hc⟩;show P7 t back l b t.arcs.length=_;unfold P7;rw [bK (by omega)];rfl
theorem re_ {t : Fst} (ht : FstOk t) (tips : List Tip) (back : Bool) (htip : ∀ x ∈ tips, 0 <= x.state /\ x.state < t.states) :
    ∃r,Dt_ t tips back=some r/\r.length=t.states.toNat/\ ∀v:Nat,nth r v false=true↔Rch (λc=> ∃x∈tips,x.state=c) (aE t back) v:=by
  have h0:=ht.st0;have h1:=ht.st1;unfold Dt_;rw [aQ ⟨h0,by omega⟩];refine Nb (step:=λq:B_1×Nat=>Za tips t back q.1 q.2) (λ(s:B_1) k=>(s,k)) tips bD
    (λpre l=>l.length=t.states.toNat/\(∀v:Nat,nth l v false=true-> ∃x∈tips,x.state=(v:Int))/\ ∀x∈pre,nth l x.state.toNat false=true) _
    (λk l hk hI=> ?_) (λl hI=> ?_) (s0:=List.replicate t.states.toNat false) ⟨lq ..,λv hv=> ?_,λx hx=>by cases hx⟩
  · obtain ⟨a1,a2,a3⟩:=hI
    have hm:=Iy bD hk;have hr:=htip _ hm;refine .inl ⟨l.set (nth tips k bD).state.toNat true,?_,by rw [eX];exact a1,λv hv=> ?_,λx hx=> ?_⟩
    · show Za tips t back l k=_
      unfold Za;rw [bY (by omega),aQ ⟨hr.1,by omega⟩];rfl
    · rw [nI]at hv
      by_cases c:(nth tips k bD).state.toNat=v
      · exact ⟨_,hm,by omega⟩
      rw [if_neg (λh=>c h.1)]at hv;exact a2 v hv
    rw [nI]
    split
    · rfl
    rename_i hn
    rcases List.mem_append.1 hx with hx|hx
    · exact a3 x hx
    rw [List.mem_singleton.1 hx]at hn;exact absurd ⟨rfl,by omega⟩ hn
  · obtain ⟨a1,a2,a3⟩:=hI
    have key:=Ho (step:=λq:B_1×Bool=>YW t back q.1 q.2)
      (λq=>GrI t tips back q.1/\(q.2=false-> ∀x∈t.arcs,nth q.1 (aFrm back x).toNat false=true->nth q.1 (aTo back x).toNat false=true))
      (λr=>r.length=t.states.toNat/\ ∀v:Nat,nth r v false=true↔Rch (λc=> ∃x∈tips,x.state=c) (aE t back) v)
      (λq=>2 * Ig q.1+if q.2=true then 1 else 0) (λq hq=> ?_) (l,true) ⟨⟨a1,λv hv=>Rch.base (a2 v hv),a3⟩,λh=>by cases h⟩
    · obtain ⟨r,hr,hp⟩:=key
      refine ⟨r,?_,hp⟩;show Za tips t back l tips.length=_;unfold Za;rw [bK (by omega),hr];rfl
    obtain ⟨l,b⟩:=q;obtain ⟨g,hc⟩:=hq;dsimp only at g hc ⊢;cases b with
    |true=>
      obtain ⟨r,hr,l',b',rfl,g',hb',hc'⟩:=v0_ ht g;left;refine ⟨(l',b'),?_,⟨g',λh=>(hc' h).2⟩,?_⟩
      · show YW t back l true=_
        unfold YW;rw [iteO_true];exact hr
      dsimp only;cases b' with
      |true=>have:=hb' rfl;simp only [if_true];omega
      |false=>rw [(hc' rfl).1];simp only [if_true,Bool.false_eq_true,if_false];omega
    |false=>
      right;refine ⟨l,?_,g.len,λv=>⟨g.sound v,λhv=> ?_⟩⟩
      · show YW t back l false=_
        unfold YW;rfl
      have key: ∀c:Int,Rch (λc=> ∃x∈tips,x.state=c) (aE t back) c->nth l c.toNat false=true:=λc h=>by
        induction h with
        |base h=>obtain ⟨x,hx,rfl⟩:=h;exact g.tip x hx
        |step h he ih=>obtain ⟨x,hx,rfl,rfl⟩:=he;exact hc rfl x hx ih
      have:=key _ hv
      rwa [iI]at this
  unfold nth at hv;rw [List.getD_eq_getElem?_getD,List.getElem?_replicate]at hv
  split at hv<;>cases hv
theorem v4_{t:Fst}(ht:FstOk t){p:Nat->Bool}{num:aj}(hn:NY p t.states.toNat num)(c:Nat)(S E:List Tip):
    aV (λq:List Arc×Nat=>YQ t num c S E q.1 q.2) (([]:List Arc),0)=bnd (MO ⟨(c:Int),S,E,xX p t.arcs⟩) (λv=>some (v.1,v.2)):=by
  have hN:=ht.arcsN;obtain ⟨r,hr⟩: ∃r,bnd (MO ⟨(c:Int),S,E,xX p t.arcs⟩) (λv=>some (v.1,v.2))=some r:=by rw [nh_];exact ⟨_,rfl⟩
  rw [hr];refine IB t.arcs aO (λk=>xX p (t.arcs.take k)) (λk hk=> ?_) ?_
  · obtain ⟨b1,b2,b3,b4⟩:=ht.arcs _ (Iy aO hk)
    have hl:=oh_ p (t.arcs.take k);have r3:=Xi t.arcs k;have e1:=hn.2 _ b1.1 (by omega);have e2:=hn.2 _ b2.1 (by omega);have l1:=hn.1;show YQ t num c S E _ k=_;unfold YQ C5_;rw [bY (by omega),aQ ⟨b1.1,by omega⟩,e1,e2,p1_ p _ k hk]
    by_cases c1:0<=lQ p (nth t.arcs k aO).frm
    · rw [bY c1,aQ ⟨b2.1,by omega⟩]
      by_cases c2:0<=lQ p (nth t.arcs k aO).to
      · rw [bY c2,if_pos ⟨c1,c2⟩,aQ ⟨b1.1,by omega⟩,aQ ⟨b2.1,by omega⟩,aQ (by simp only [dN];omega)];rfl
      rw [bK c2,if_neg (λh=>c2 h.2),List.append_nil];rfl
    rw [bK c1,if_neg (λh=>c1 h.1),List.append_nil];rfl
  show YQ t num c S E _ _=_;unfold YQ;rw [bK (by omega),List.take_length,hr];rfl
theorem u4_{t:Fst}(ht:FstOk t){p:Nat->Bool}{num:aj}(hn:NY p t.states.toNat num)(c:Nat)(S:List Tip):
    aV (λq:List Tip×Nat=>Y9 t num c S q.1 q.2) (([]:List Tip),0)=bnd (MO ⟨(c:Int),S,uQ p t.ends,xX p t.arcs⟩) (λv=>some (v.1,v.2)):=by
  have hN:=ht.endsN;obtain ⟨r,hr⟩: ∃r,bnd (MO ⟨(c:Int),S,uQ p t.ends,xX p t.arcs⟩) (λv=>some (v.1,v.2))=some r:=by rw [nh_];exact ⟨_,rfl⟩
  rw [hr];refine IB t.ends bD (λk=>uQ p (t.ends.take k)) (λk hk=> ?_) ?_
  · obtain ⟨b1,b2⟩:=ht.ends _ (Iy bD hk)
    have hl:=ZM p (t.ends.take k);have r3:=Xi t.ends k;have e1:=hn.2 _ b1.1 (by omega);have l1:=hn.1;show Y9 t num c S _ k=_;unfold Y9 D1_;rw [bY (by omega),aQ ⟨b1.1,by omega⟩,e1,jx_ p _ k hk]
    by_cases c1:0<=lQ p (nth t.ends k bD).state
    · rw [bY c1,if_pos c1,aQ ⟨b1.1,by omega⟩,aQ (by simp only [dN];omega)];rfl
    rw [bK c1,if_neg c1,List.append_nil];rfl
  show Y9 t num c S _ _=_;unfold Y9;rw [bK (by omega),List.take_length,v4_ ht hn,hr];rfl
theorem rk_{t:Fst}(ht:FstOk t){p:Nat->Bool}{num:aj}(hn:NY p t.states.toNat num)(c:Nat):
    aV (λq:List Tip×Nat=>UR t num c q.1 q.2) (([]:List Tip),0)=bnd (MO ⟨(c:Int),uQ p t.starts,uQ p t.ends,xX p t.arcs⟩) (λv=>some (v.1,v.2)):=by
  have hN:=ht.startsN;obtain ⟨r,hr⟩: ∃r,bnd (MO ⟨(c:Int),uQ p t.starts,uQ p t.ends,xX p t.arcs⟩) (λv=>some (v.1,v.2))=some r:=by rw [nh_];exact ⟨_,rfl⟩
  rw [hr];refine IB t.starts bD (λk=>uQ p (t.starts.take k)) (λk hk=> ?_) ?_
  · obtain ⟨b1,b2⟩:=ht.starts _ (Iy bD hk)
    have hl:=ZM p (t.starts.take k);have r3:=Xi t.starts k;have e1:=hn.2 _ b1.1 (by omega);have l1:=hn.1;show UR t num c _ k=_;unfold UR D3_;rw [bY (by omega),aQ ⟨b1.1,by omega⟩,e1,jx_ p _ k hk]
    by_cases c1:0<=lQ p (nth t.starts k bD).state
    · rw [bY c1,if_pos c1,aQ ⟨b1.1,by omega⟩,aQ (by simp only [dN];omega)];rfl
    rw [bK c1,if_neg c1,List.append_nil];rfl
  show UR t num c _ _=_;unfold UR;rw [bK (by omega),List.take_length,u4_ ht hn,hr];rfl
theorem u7_ {t : Fst} (ht : FstOk t) {u v : B_1} (hu : u.length = t.states.toNat) (hv : v.length = t.states.toNat) (h1 : ∀ s : Nat, nth u s false = true ↔ Rch (onS t) (arE t) s) (h2 : ∀ s : Nat, nth v s false = true ↔ Rch (enS t) (arB t) s) {R : Fst × Int}
    (hR: ∀num,NY (jE t) t.states.toNat num->aV (λq:(List Tip)×Nat=>UR t num (nH (jE t) t.states.toNat) q.1 q.2) (([]:List Tip),0)=some R):
    aV (λq:aj×Nat×Nat=>NC t u v q.1 q.2.1 q.2.2) ((List.replicate t.states.toNat (0:Int)),0,0)=some R:=by
  have h0:=ht.st0;have hs:=ht.st1;obtain ⟨r,e,rfl⟩:=fC (step:=λq:aj×Nat×Nat=>NC t u v q.1 q.2.1 q.2.2) (λ(l:aj) k=>(l,nH (jE t) k,k)) t.states.toNat
    (λk l=>l.length=t.states.toNat/\ ∀s,s<k->nth l s 0=lQ (jE t) s) (λr=>r=R)
    (λk l hk ⟨c1,c2⟩=> .inl (by
      have hc:=kx_ (jE t) k;have hother: ∀(x:Int) s,s<k->nth (l.set k x) s 0=lQ (jE t) s:=λx s hsk=>by
        rw [nI,if_neg (λh=>by omega)];exact c2 s hsk
      by_cases hb:jE t k=true
      · have hUse:Use t k:=by simpa [jE]using hb
        refine ⟨(l.set k (-1)).set k ((nH (jE t) k:Nat):Int),?_,by rw [eX,eX];exact c1,λs hsk=> ?_⟩
        · show NC t u v l _ k=_
          unfold NC YS;rw [bY (by omega),aQ (by omega),aQ (by omega),(h1 k).2 hUse.1,iteO_true,aQ (by omega),(h2 k).2 hUse.2,iteO_true,aQ (by rw [eX];omega),aQ (show nH (jE t) k+1<=9223372036854775807 by omega)];rw [nH,if_pos hb];rfl
        rw [nI]
        by_cases c:k=s
        · subst c;rw [if_pos ⟨rfl,by rw [eX];omega⟩];exact (qe_ (s:=((k:Nat):Int)) hb).symm
        rw [if_neg (λh=>c h.1)];exact hother _ s (by omega)
      have hno: ¬ Use t k:=λh=>hb (by simpa [jE]using h);refine ⟨l.set k (-1),?_,by rw [eX];exact c1,λs hsk=> ?_⟩
      · show NC t u v l _ k=_
        unfold NC YS;rw [bY (by omega),aQ (by omega),aQ (by omega),nH,if_neg hb];cases e1:nth u k false with
        |false=>rfl
        |true=>
          rw [iteO_true,aQ (by omega)];cases e2:nth v k false with
          |false=>rfl
          |true=>exact absurd ⟨(h1 k).1 e1,(h2 k).1 e2⟩ hno
      by_cases c:k=s
      · subst c
        rw [nI,if_pos ⟨rfl,by omega⟩];unfold lQ;rw [if_neg (by simpa using hb)]
      exact hother _ s (by omega)))
    (λl ⟨c1,c2⟩=>⟨R,by
      show NC t u v l _ t.states.toNat=_;unfold NC;rw [bK (by omega),hR l ⟨c1,λs s0 s1=>by
        have:=c2 s.toNat (by omega);rw [this];congr 1;omega⟩];rfl,rfl⟩)
    (s0:=List.replicate t.states.toNat 0) ⟨lq ..,λs hs=>by omega⟩
  exact e
theorem zj_(t:Fst):Fs_ t=some (if nR t=true then (Zk t,0) else (⟨0,[],[],[]⟩,1)):=by
  unfold Fs_;rw [Lm,gq]
  by_cases h:nR t=true
  · have ht:=(yQ t).1 h
    have h0:=ht.st0;have h1:=ht.st1;obtain ⟨u,a1,a2,a3⟩:=re_ ht t.starts false λx hx=>(ht.starts x hx).1;obtain ⟨v,b1,b2,b3⟩:=re_ ht t.ends true λx hx=>(ht.ends x hx).1;rw [h,Bool.not_true,iteO_false,a1,gq,b1,gq,aQ ⟨h0,by omega⟩,if_pos rfl];refine u7_ ht a2 b2 a3 b3 λnum hn=> ?_;rw [rk_ ht hn,nh_];show bnd (some (if nR (NW (jE t) t)=true then (srt (NW (jE t) t),0) else _)) _=_;rw [if_pos ((yQ _).2 (xa_ ht))];rfl
  simp only [Bool.not_eq_true]at h;rw [h];rfl
end Go.Proofs.YtcfgkcfcddfccaaGreatDoor
end

noncomputable section
namespace Go.Proofs.YtcfgkcfcddfccaaGreatDoor
open Go Go.E Go.E.OpVal Go.E.OpOk Go.Proofs.Tryz
open List (replicate)
theorem pf22:plainF Tryz.prog 22=true:=by kernel_rfl
theorem pf23:plainF Tryz.prog 23=true:=by kernel_rfl
theorem pf24:plainF Tryz.prog 24=true:=by kernel_rfl
def OO(x0:Dfa)(Jr:aY)(jm:B_1)(iL:Nat):Option ((aY×B_1×Nat)⊕(Dfa×Int)):=
 aI (decide ((iL:Int)<(x0.next.length:Int))) (grd ((nth x0.next iL []).length * 8<=140737488355328) (grd ((Jr.length+[(nth x0.next iL [])].length) * 24<=140737488355328) (grd (iL<x0.fin.length) (grd ((jm.length+[(!(nth x0.fin iL false))].length) * 1<=140737488355328) (nxt ((Jr++[(nth x0.next iL [])]),(jm++[(!(nth x0.fin iL false))]),(iL+1))))))) (fin (some ((⟨x0.cls,Jr,jm⟩:Dfa),0)))
def jg_(x0:Dfa):Option (Dfa×Int):=
 bnd (Uj x0) (λv5=>aI (decide (v5≠0)) (some ((⟨([]:aj),([]:aY),([]:B_1)⟩:Dfa),1)) (grd (x0.cls.length * 8<=140737488355328) (aV (λq:aY×B_1×Nat=>OO x0 q.1 q.2.1 q.2.2) (([]:aY),([]:B_1),0))))
theorem qx_{σ:ak}{x0:Dfa}{ay:Option Addr}{au:Nat}{aC:Option Addr}{aJ:Nat}{aK:Option Addr}{aF:Nat}(aA:dV σ aB ay au x0.cls)(aG:RZ σ (bH 1 aB aW) (.slice aC x0.next.length aJ) x0.next)(aH:dV σ dL aK aF x0.fin){r:Dfa×Int}(hh:jg_ x0=some r):
  Con prog 22 #[.agg #[.slice ay x0.cls.length au,.slice aC x0.next.length aJ,.slice aK x0.fin.length aF]] σ [] (UD σ r):=by
 dsimp only [jg_]at hh;have f0_0b:=aA.rv.big;have f0_1b:=aG.big;have f0_2b:=aH.rv.big;refine cM 43 Tryz.func22 (λw0=> ?_);refine R2 ?_;refine TL.bx (λaS=> ?_);refine TL.al (λbn=> ?_);refine R6 ?_;obtain ⟨v5,u5,hh⟩:=bQ hh;refine κ z (eG (Hz_ (x0:=x0) aA aG aH u5) z z NV z z z ?_);refine R2 ?_;refine ι z hh (λbM hh=> ?_) (λbM hh=> ?_)
 ·refine R6 ?_;refine TC.rt 1 ?_;obtain rfl:=so hh;exact rz
 refine R5 ?_;obtain ⟨u12,hh⟩:=gd hh;refine κ z (OpOk.call (Ij_ aA u12) z z Jk z z z z ?_);rintro _ σ _ _ ⟨⟨kK,c107,rfl⟩,rfl,rfl⟩;refine TL.w z bL (TL.al (λjl=> ?_));refine R11 ?_;refine TC.nilS 31 1 (bH 1 aB aW).en ?_;have zf144:=ZOk.nil σ (bH 1 aB aW);refine TC.nilS 4 1 dL (TC.zl (α:=(aY×B_1×Nat)×((Option Addr)×Nat×(List (aj×(bH 1 aB aW).P))×(Option Addr)×Nat×ak)) (rgs [(5,2),(18,24)]) (λg=>[(18,.int .i64 (g.1.2.2:Int))]) (λg=>[ω aS #[.slice ay x0.cls.length au,.slice aC x0.next.length aJ,.slice aK x0.fin.length aF] 35,ω bn #[aT,aT,aT] 35,ω jl #[.slice kK x0.cls.length c107,.slice g.2.1 g.1.1.length g.2.2.1,.slice g.2.2.2.2.1 g.1.2.1.length g.2.2.2.2.2.1] 35,dW 3 aB kK c107 x0.cls,ε 31 1 (bH 1 aB aW).en (.slice g.2.1 g.1.1.length g.2.2.1) g.2.2.2.1,ε 4 1 dL (.slice g.2.2.2.2.1 g.1.2.1.length g.2.2.2.2.2.1) g.1.2.1]) (λg=>g.2.2.2.2.2.2) (λg=>aV (λq:aY×B_1×Nat=>OO x0 q.1 q.2.1 q.2.2) g.1=some r/\ZOk g.2.2.2.2.2.2 (bH 1 aB aW) g.2.2.2.1 g.1.1/\ak.le σ g.2.2.2.2.2.2) (λg=>qI (λq:aY×B_1×Nat=>OO x0 q.1 q.2.1 q.2.2) g.1) ((([]:aY),([]:B_1),0),(none,0,[],none,0,σ)) (ψ [1,3,3,4,5] 6) z (by repeat (first|exact trivial|refine ⟨z,?_⟩)) ⟨hh,zf144,(ak.le.refl _)⟩ (λg1 j1 hg1=> ?_));obtain ⟨⟨Jr,jm,iL⟩,⟨wS,rZ,z137,a141,wO,τ147⟩⟩:=g1;obtain ⟨hh,uZ,iE⟩:=hg1
 try dsimp only at uZ
 dsimp only at iE;replace aG:=aG.mono iE;replace aH:=aH.mono iE
 try dsimp only
 have hhI:=hh;clear hh;obtain ⟨z1,hh,hR1⟩:=yO hhI;dsimp only [OO]at hh;have zf138b:=uZ.length;refine ξ 3 z (λhb149=> ?_);refine ξ 4 z (λhb150=> ?_);refine ξ 5 z (λhb151=> ?_);refine R5 ?_;refine ι z hh (λh152 hh=> ?_) (λh152 hh=> ?_)
 ·refine R7 ?_;obtain ⟨Ol,Gm,hg153⟩:=RZ.seg aG iL (by omega);replace Gm:dV _ aB Ol.1 Ol.2 (nth x0.next iL []):=Gm;have hk153b:=Gm.rv.big;refine TL.w z (OpVal.of (wP z oV z hg153 z) (v':= .slice Ol.1 ((nth x0.next iL []).length) Ol.2) z) (R4 ?_);obtain ⟨u29,hh⟩:=gd hh;obtain ⟨u31,hh⟩:=gd hh;refine TC.draw [5,6,7] (by kernel_rfl) (ν 0 z fL z (Δ 1 z lL z (ν 2 z mS z (Φ 3 z (OpOk.call (Ij_ Gm u29) z z Jk z z z z ?_)))));rintro _ τ147 _ _ ⟨⟨a167,c168,rfl⟩,rfl,rfl⟩;refine k1 (TA.iw aW (λτ174 Ar RI=> ?_));replace aH:=aH.mono Ar;replace uZ:=uZ.mono Ar;have hr172b:=RI.rv.big;have Qk:ZOk _ (bH 1 aB aW) ([((nth x0.next iL []),(a167,c168))]:List (aj×(bH 1 aB aW).P)) [(nth x0.next iL [])]:=ZOk.cons (RI) (ZOk.nil _ _);refine Φ 4 z (litZ Qk z jH ji z jI z z z (by decide) (by decide) z (by decide) z (by decide) (λa170 c171=>(kl 1 Ar ?_)));refine Θ 5 z z (TA.last 5 (by kernel_rfl) z z z (Ud (k:=(bH 1 aB aW)) uZ Qk z z jH ji kY jI z z (by decide) z z z (.inr ⟨_,0,z⟩) (by simpa using u31) (by decide) (λzn zh zf179=> ?_)));refine TZ.v 6 (by kernel_rfl) z z z fL z z (TZ.front 4 z z (TZ.last 7 (by kernel_rfl) z z z (gJ z jc z z z z z ?_)));refine R1 ?_;obtain ⟨u39,hh⟩:=gd hh;obtain ⟨u43,hh⟩:=gd hh;refine TC.draw [9,10,11] (by kernel_rfl) (ν 0 z fL z (Δ 1 z lL z (ν 2 z fL z (Δ 3 z lL z (ν 4 z mI z (Δ 5 z iN z (Δ 6 z l1 z (ν 7 z (OpVal.not z z) z (Φ 8 z (gX (enc:=dL) [(!(nth x0.fin iL false))] (λa185 c186=>(k1 ?_))))))))))));refine Θ 7 z z (TA.last 9 (by kernel_rfl) z z z (apF (.inr ⟨_,0,z⟩) u43 (λa188 c189=> ?_)));refine TZ.v 10 (by kernel_rfl) z z z fL z z (TZ.front 2 z z (TZ.last 11 (by kernel_rfl) z z z (gJ z wf_ z z z z z ?_)));refine R5 ?_;obtain ⟨hh,V6⟩:=wG hR1 hh;exact lf (((Jr++[(nth x0.next iL [])]),(jm++[(!(nth x0.fin iL false))]),(iL+1)),(zn,zh,(z137++([((nth x0.next iL []),(a167,c168))]:List (aj×(bH 1 aB aW).P))),a188,c189,τ174)) V6 ⟨hh,zf179,(iE.trans Ar)⟩ (ψ [1,3,7,3,7,7] 6)
 refine R1 ?_;replace hh:=bF hR1 hh;refine R4 ?_;refine φ 1 z z (R3 ?_);refine TC.front 3 z z (TC.iw aW (λτ193 Wx Cc=> ?_));replace uZ:=uZ.mono Wx;have hr191b:=Cc.rv.big;refine TC.front 3 z z (TC.Xj uZ (λτ196 Wv JD=> ?_));replace Cc:=Cc.mono Wv;have hr194b:=JD.big;refine TC.front 3 z z (TC.iw wJ (λτ199 Kv hr197=> ?_));replace Cc:=Cc.mono Kv;replace JD:=JD.mono Kv;have hr197b:=hr197.rv.big;refine TC.rt 1 ?_;obtain rfl:=so hh;exact rz
def Hy_(x0:Fst)(x1:Fst):Option (Fst×Int):=
 bnd (IE x0) (λv6=>aI (decide (v6≠0)) (some ((⟨0,([]:List Tip),([]:List Tip),([]:List Arc)⟩:Fst),1)) (bnd (IE x1) (λv10=>aI (decide (v10≠0)) (some ((⟨0,([]:List Tip),([]:List Tip),([]:List Arc)⟩:Fst),1)) (bnd (Np x0) (λv17=>aI (decide (v17.2≠0)) (some ((⟨0,([]:List Tip),([]:List Tip),([]:List Arc)⟩:Fst),v17.2)) (bnd (jg_ v17.1) (λv31=>aI (decide (v31.2≠0)) (some ((⟨0,([]:List Tip),([]:List Tip),([]:List Arc)⟩:Fst),v31.2)) (bnd (H5_ x1 v31.1) (λv45=>aI (decide (v45.2≠0)) (some ((⟨0,([]:List Tip),([]:List Tip),([]:List Arc)⟩:Fst),v45.2)) (bnd (J1_ x0 v45.1) (λv60=>some (v60.1,v60.2))))))))))))
theorem K6_{σ:ak}{x0:Fst}{ay:Option Addr}{au:Nat}{aC:Option Addr}{aJ:Nat}{aK:Option Addr}{aF:Nat}{x1:Fst}{bW:Option Addr}{bV:Nat}{cu:Option Addr}{dZ:Nat}{d_:Option Addr}{b_:Nat}(hgl:GT σ 0 qC deB)(aA:RS σ 2 bg (.slice ay x0.starts.length au) x0.starts)(aG:RS σ 2 bg (.slice aC x0.ends.length aJ) x0.ends)(aH:RS σ 8 dG (.slice aK x0.arcs.length aF) x0.arcs)(bU:RS σ 2 bg (.slice bW x1.starts.length bV) x1.starts)(dO:RS σ 2 bg (.slice cu x1.ends.length dZ) x1.ends)(dK:RS σ 8 dG (.slice d_ x1.arcs.length b_) x1.arcs){r:Fst×Int}(hh:Hy_ x0 x1=some r):
  Con prog 6 #[.agg (eP x0 ay au aC aJ aK aF),.agg (eP x1 bW bV cu dZ d_ b_)] σ [] (MK σ r):=by
 dsimp only [Hy_]at hh;refine cM 51 Tryz.func6 (λw0=> ?_);refine R2 ?_;refine TL.bx (λaS=> ?_);refine TL.bx (λbn=> ?_);refine TL.al (λfK=> ?_);refine R6 ?_;obtain ⟨v6,u6,hh⟩:=bQ hh;refine κ z (eG (Ut (x0:=x0) aA aG aH u6) z z Qn z z z ?_);refine R2 ?_;refine Γ 12 z (λfB=> ?_) (λfB=> ?_)
 ·obtain ⟨fB,hh⟩:=iT fB hh;refine R12 ?_;refine TC.rt 1 ?_;obtain rfl:=so hh;exact rz
 obtain ⟨fB,hh⟩:=iF fB hh;refine TL.g z lA ?_;obtain ⟨v10,u10,hh⟩:=bQ hh;refine TL.gon z z z z z (eG (Ut (x0:=x1) bU dO dK u10) z z Qn z z z ?_);refine R3 ?_;refine ι z hh (λkX hh=> ?_) (λkX hh=> ?_)
 ·refine R6 ?_;refine TC.rt 1 ?_;obtain rfl:=so hh;exact rz
 refine R4 ?_;obtain ⟨v17,vV,hh⟩:=bQ hh;refine κ z (OpOk.call (H0_ (x0:=x0) hgl aA aG aH vV) z z pf8 z z z z ?_);rintro _ τ109 _ dh ⟨a109_1,c109_1,a109_2,c109_2,a109_3,c109_3,rfl,hr109_0,hr109_1,hr109_2,rfl⟩;replace aA:=aA.mono dh;replace aG:=aG.mono dh;replace aH:=aH.mono dh;replace bU:=bU.mono dh;replace dO:=dO.mono dh;replace dK:=dK.mono dh;refine R3 ?_;refine TL.al (λb110=> ?_);refine R9 ?_;refine ι z hh (λh112 hh=> ?_) (λh112 hh=> ?_)
 ·refine R4 ?_;refine φ 1 z z (R3 ?_);refine TC.rt 1 ?_;obtain rfl:=so hh;exact rz
 refine R4 ?_;obtain ⟨v31,u31,hh⟩:=bQ hh;refine κ z (OpOk.call (qx_ (x0:=v17.1) hr109_0 hr109_1 hr109_2 u31) z z pf22 z z z z ?_);rintro _ τ113 _ cO ⟨a113_1,c113_1,a113_2,c113_2,a113_3,c113_3,rfl,hr113_0,hr113_1,hr113_2,rfl⟩;replace aA:=aA.mono cO;replace aG:=aG.mono cO;replace aH:=aH.mono cO;replace bU:=bU.mono cO;replace dO:=dO.mono cO;replace dK:=dK.mono cO;refine R12 ?_;refine ι z hh (λmJ hh=> ?_) (λmJ hh=> ?_)
 ·refine R4 ?_;refine φ 1 z z (R3 ?_);refine TC.rt 1 ?_;obtain rfl:=so hh;exact rz
 refine R5 ?_;obtain ⟨v45,u45,hh⟩:=bQ hh;refine κ z (OpOk.call (Ln_ (x0:=x1) (x1:=v31.1) bU dO dK hr113_0 hr113_1 hr113_2 u45) z z pf23 z z z z ?_);rintro _ τ115 _ kC ⟨a115_1,c115_1,a115_2,c115_2,a115_3,c115_3,rfl,hr115_0,hr115_1,hr115_2,rfl⟩;replace aA:=aA.mono kC;replace aG:=aG.mono kC;replace aH:=aH.mono kC;refine R3 ?_;refine TL.al (λb116=> ?_);refine R9 ?_;refine ι z hh (λiG hh=> ?_) (λiG hh=> ?_)
 ·refine R4 ?_;refine φ 2 z z (R3 ?_);refine TC.rt 1 ?_;obtain rfl:=so hh;exact rz
 refine R5 ?_;obtain ⟨v60,u60,hh⟩:=bQ hh;refine κ z (OpOk.call (L1_ (x0:=x0) (x1:=v45.1) aA aG aH hr115_0 hr115_1 hr115_2 u60) z z pf24 z z z z ?_);rintro _ τ119 _ dJ ⟨a119_1,c119_1,a119_2,c119_2,a119_3,c119_3,rfl,hr119_0,hr119_1,hr119_2,rfl⟩;refine R2 ?_;refine φ 2 z z (R3 ?_);refine TC.rt 1 ?_;obtain rfl:=so hh;exact rz
end Go.Proofs.YtcfgkcfcddfccaaGreatDoor
end

noncomputable section
namespace Go.Proofs.YtcfgkcfcddfccaaGreatDoor
open Go Go.E Go.E.OpVal Go.E.OpOk Go.Proofs.Tryz
open List (replicate)
theorem pf11:plainF Tryz.prog 11=true:=by kernel_rfl
theorem QS:plainF Tryz.prog 118=true:=by kernel_rfl
theorem QO:plainF Tryz.prog 119=true:=by kernel_rfl
theorem QN:plainF Tryz.prog 120=true:=by kernel_rfl
theorem pf121:plainF Tryz.prog 121=true:=by kernel_rfl
theorem pf122:plainF Tryz.prog 122=true:=by kernel_rfl
theorem pf13:plainF Tryz.prog 13=true:=by kernel_rfl
theorem pf14:plainF Tryz.prog 14=true:=by kernel_rfl
theorem pf15:plainF Tryz.prog 15=true:=by kernel_rfl
theorem pf16:plainF Tryz.prog 16=true:=by kernel_rfl
theorem pf17:plainF Tryz.prog 17=true:=by kernel_rfl
theorem pf18:plainF Tryz.prog 18=true:=by kernel_rfl
theorem pf44:plainF Tryz.prog 44=true:=by kernel_rfl
theorem pf45:plainF Tryz.prog 45=true:=by kernel_rfl
theorem pf46:plainF Tryz.prog 46=true:=by kernel_rfl
theorem pf47:plainF Tryz.prog 47=true:=by kernel_rfl
theorem pf48:plainF Tryz.prog 48=true:=by kernel_rfl
theorem pf49:plainF Tryz.prog 49=true:=by kernel_rfl
theorem pf6:plainF Tryz.prog 6=true:=by kernel_rfl
def YN(x0:Fst):Option (Dfa×Int):=
 bnd (Gd_ x0) (λv5=>aI (decide (v5.2≠0)) (some ((⟨([]:aj),([]:aY),([]:B_1)⟩:Dfa),v5.2)) (bnd (Gg_ v5.1) (λv19=>aI (decide (v19.2≠0)) (some ((⟨([]:aj),([]:aY),([]:B_1)⟩:Dfa),v19.2)) (bnd (F3_ v19.1) (λv33=>some (v33.1,v33.2))))))
theorem Hr_{σ:ak}{x0:Fst}{ay:Option Addr}{au:Nat}{aC:Option Addr}{aJ:Nat}{aK:Option Addr}{aF:Nat}(aA:RS σ 2 bg (.slice ay x0.starts.length au) x0.starts)(aG:RS σ 2 bg (.slice aC x0.ends.length aJ) x0.ends)(aH:RS σ 8 dG (.slice aK x0.arcs.length aF) x0.arcs){r:Dfa×Int}(hh:YN x0=some r):
  Con prog 14 #[.agg (eP x0 ay au aC aJ aK aF)] σ [] (UD σ r):=by
 dsimp only [YN]at hh;refine cM 30 Tryz.func14 (λw0=> ?_);refine R2 ?_;refine TL.bx (λaS=> ?_);refine TL.al (λbn=> ?_);refine R5 ?_;obtain ⟨v5,u5,hh⟩:=bQ hh;refine κ z (OpOk.call (Kj_ (x0:=x0) aA aG aH u5) z z pf44 z z z z ?_);rintro _ τ105 _ qh ⟨a105_1,c105_1,a105_2,c105_2,a105_3,c105_3,rfl,hr105_0,hr105_1,hr105_2,rfl⟩;refine R3 ?_;refine TL.al (λyC=> ?_);refine R9 ?_;refine ι z hh (λkX hh=> ?_) (λkX hh=> ?_)
 ·refine R4 ?_;refine φ 1 z z (R3 ?_);refine TC.rt 1 ?_;obtain rfl:=so hh;exact rz
 refine R4 ?_;obtain ⟨v19,DY,hh⟩:=bQ hh;refine κ z (OpOk.call (Kk_ (x0:=v5.1) hr105_0 hr105_1 hr105_2 DY) z z pf45 z z z z ?_);rintro _ τ109 _ dh ⟨a109_1,c109_1,a109_2,c109_2,a109_3,c109_3,rfl,hr109_0,hr109_1,hr109_2,rfl⟩;refine R3 ?_;refine TL.al (λb110=> ?_);refine R9 ?_;refine ι z hh (λh112 hh=> ?_) (λh112 hh=> ?_)
 ·refine R4 ?_;refine φ 2 z z (R3 ?_);refine TC.rt 1 ?_;obtain rfl:=so hh;exact rz
 refine R4 ?_;obtain ⟨v33,u33,hh⟩:=bQ hh;refine κ z (OpOk.call (J7_ (x0:=v19.1) hr109_0 hr109_1 hr109_2 u33) z z pf46 z z z z ?_);rintro _ τ113 _ cO ⟨a113_1,c113_1,a113_2,c113_2,a113_3,c113_3,rfl,hr113_0,hr113_1,hr113_2,rfl⟩;refine R2 ?_;refine φ 2 z z (R3 ?_);refine TC.rt 1 ?_;obtain rfl:=so hh;exact rz
def P9(x0:Dfa)(kQ:B_1)(BM:Nat):Option ((B_1×Nat)⊕(Dfa×Int)):=
 aI (decide ((BM:Int)<(x0.fin.length:Int))) (grd ((kQ.length+[(!(nth x0.fin BM false))].length) * 1<=140737488355328) (nxt ((kQ++[(!(nth x0.fin BM false))]),(BM+1)))) (fin (some ((⟨x0.cls,x0.next,kQ⟩:Dfa),0)))
def F0_(x0:Dfa):Option (Dfa×Int):=
 bnd (YU x0) (λv5=>aI (!v5) (some ((⟨([]:aj),([]:aY),([]:B_1)⟩:Dfa),1)) (aV (λq:B_1×Nat=>P9 x0 q.1 q.2) (([]:B_1),0)))
theorem J9_{σ:ak}{x0:Dfa}{ay:Option Addr}{au:Nat}{aC:Option Addr}{aJ:Nat}{aK:Option Addr}{aF:Nat}(aA:dV σ aB ay au x0.cls)(aG:RZ σ (bH 1 aB aW) (.slice aC x0.next.length aJ) x0.next)(aH:dV σ dL aK aF x0.fin){r:Dfa×Int}(hh:F0_ x0=some r):
  Con prog 47 #[.agg #[.slice ay x0.cls.length au,.slice aC x0.next.length aJ,.slice aK x0.fin.length aF]] σ [] (UD σ r):=by
 dsimp only [F0_]at hh;have f0_2b:=aH.rv.big;refine cM 34 Tryz.func47 (λw0=> ?_);refine R2 ?_;refine TL.bx (λaS=> ?_);refine TL.al (λbn=> ?_);refine R6 ?_;obtain ⟨v5,u5,hh⟩:=bQ hh;refine κ z (eG (Gj_ (x0:=x0) aA aG aH u5) z z aaj_ z z z ?_);refine R2 ?_;refine TC.cB z hh (λbM hh=> ?_) (λbM hh=> ?_)
 ·refine R6 ?_;refine TC.rt 1 ?_;obtain rfl:=so hh;exact rz
 refine R8 ?_;refine TL.al (λyC=> ?_);refine R8 ?_;refine TC.nilS 4 1 dL (TC.zl (α:=(B_1×Nat)×((Option Addr)×Nat)) (rgs [(5,1),(15,18)]) (λg=>[(5,.int .i64 (g.1.2:Int))]) (λg=>[ω aS #[.slice ay x0.cls.length au,.slice aC x0.next.length aJ,.slice aK x0.fin.length aF] 35,ω bn #[aT,aT,aT] 35,ω yC #[.slice ay x0.cls.length au,.slice aC x0.next.length aJ,.slice g.2.1 g.1.1.length g.2.2] 35,ε 4 1 dL (.slice g.2.1 g.1.1.length g.2.2) g.1.1]) (λg=>σ) (λg=>aV (λq:B_1×Nat=>P9 x0 q.1 q.2) g.1=some r) (λg=>qI (λq:B_1×Nat=>P9 x0 q.1 q.2) g.1) ((([]:B_1),0),(none,0)) (ψ [1,2,3] 4) z (by repeat (first|exact trivial|refine ⟨z,?_⟩)) hh (λg1 j1 hg1=> ?_));obtain ⟨⟨kQ,BM⟩,⟨o_,o7⟩⟩:=g1;have hh:=hg1;clear hg1
 try dsimp only
 have hhI:=hh;clear hh;obtain ⟨z1,hh,hR1⟩:=yO hhI;dsimp only [P9]at hh;refine ξ 3 z (λhb124=> ?_);refine R9 ?_;refine ι z hh (λEK hh=> ?_) (λEK hh=> ?_)
 ·refine R3 ?_;obtain ⟨u32,hh⟩:=gd hh;refine TC.draw [9,10,11] (by kernel_rfl) (ν 0 z fL z (Δ 1 z lL z (ν 2 z fL z (Δ 3 z lL z (ν 4 z mI z (Δ 5 z iN z (Δ 6 z l1 z (ν 7 z (OpVal.not z z) z (Φ 8 z (gX (enc:=dL) [(!(nth x0.fin BM false))] (λa131 uT=>(k1 ?_))))))))))));refine Θ 4 z z (TA.last 9 (by kernel_rfl) z z z (apF (.inr ⟨_,0,z⟩) u32 (λDy Dk=> ?_)));refine TZ.v 10 (by kernel_rfl) z z z fL z z (TZ.front 4 z z (TZ.last 11 (by kernel_rfl) z z z (gJ z wf_ z z z z z ?_)));refine R6 ?_;obtain ⟨hh,V8⟩:=wG hR1 hh;exact lf (((kQ++[(!(nth x0.fin BM false))]),(BM+1)),(Dy,Dk)) V8 hh (ψ [1,1,4,4] 4)
 refine R1 ?_;replace hh:=bF hR1 hh;refine R4 ?_;refine φ 1 z z (R3 ?_);refine TC.front 3 z z (TC.iw wJ (λτ139 EF hr137=> ?_));replace aA:=aA.mono EF;replace aG:=aG.mono EF;have hr137b:=hr137.rv.big;refine TC.rt 1 ?_;obtain rfl:=so hh;exact rz
def Dv_(ru:Nat)(Jq:List Tip):Option (((List Tip)×Nat)⊕(((List Tip)×Nat)⊕(Fst×Int))):=
 nxt (Jq,(ru+1))
def Y0(x1:Dfa)(x0:Fst)(gG:Nat)(sS:List Tip)(ru:Nat):Option (((List Tip)×Nat)⊕(((List Tip)×Nat)⊕(Fst×Int))):=
 aI (decide ((ru:Int)<(x1.next.length:Int))) (grd (ru<x1.fin.length) (aI (nth x1.fin ru false) (grd ((sS.length+[(⟨IntKind.i64.wrap ((IntKind.i64.wrap (((nth x0.ends gG bD).state) * (x1.next.length:Int)))+(ru:Int)),(nth x0.ends gG bD).out⟩:Tip)].length) * 24<=140737488355328) (Dv_ ru (sS++[(⟨IntKind.i64.wrap ((IntKind.i64.wrap (((nth x0.ends gG bD).state) * (x1.next.length:Int)))+(ru:Int)),(nth x0.ends gG bD).out⟩:Tip)]))) (Dv_ ru sS))) (fin (nxt (sS,(gG+1))))
def D0_(jJ:Nat)(wo:B_1):Option ((B_1×Nat)⊕(((List Arc)×Nat)⊕(((List Arc)×Nat)⊕(((List Arc)×Nat)⊕(Fst×Int))))):=
 nxt (wo,(jJ+1))
def Dw_(nX:Nat)(l245:List Arc):Option (((List Arc)×Nat)⊕(((List Arc)×Nat)⊕(((List Arc)×Nat)⊕(Fst×Int)))):=
 nxt (l245,(nX+1))
def U1(x0:Fst)(fA:Nat)(x1:Dfa)(gY:Nat)(nX:Nat)(l237:List Arc)(nU:B_1)(jJ:Nat):Option ((B_1×Nat)⊕(((List Arc)×Nat)⊕(((List Arc)×Nat)⊕(((List Arc)×Nat)⊕(Fst×Int))))):=
 aI (decide ((jJ:Int)<256)) (grd (jJ<256) (aI (((nth x0.arcs fA aO).set).has jJ) (grd (jJ<x1.cls.length) (grd (0<=(nth x1.cls jJ 0)/\(nth x1.cls jJ 0)<((nth x1.next gY []).length:Int)) (grd (jJ<nU.length) (D0_ jJ (nU.set jJ (decide ((nth (nth x1.next gY []) ((nth x1.cls jJ 0).toNat) 0)=(nX:Int)))))))) (grd (jJ<nU.length) (D0_ jJ (nU.set jJ false))))) (fin (grd ((replicate 256 false).length=256) (aI (decide ((BSet.make λi=>nth nU i false)≠BSet.zero)) (grd ((l237.length+[(⟨IntKind.i64.wrap ((IntKind.i64.wrap (((nth x0.arcs fA aO).frm) * (x1.next.length:Int)))+(gY:Int)),IntKind.i64.wrap ((IntKind.i64.wrap (((nth x0.arcs fA aO).to) * (x1.next.length:Int)))+(nX:Int)),(BSet.make λi=>nth nU i false),(nth x0.arcs fA aO).out,(nth x0.arcs fA aO).copy⟩:Arc)].length) * 72<=140737488355328) (Dw_ nX (l237++[(⟨IntKind.i64.wrap ((IntKind.i64.wrap (((nth x0.arcs fA aO).frm) * (x1.next.length:Int)))+(gY:Int)),IntKind.i64.wrap ((IntKind.i64.wrap (((nth x0.arcs fA aO).to) * (x1.next.length:Int)))+(nX:Int)),(BSet.make λi=>nth nU i false),(nth x0.arcs fA aO).out,(nth x0.arcs fA aO).copy⟩:Arc)]))) (Dw_ nX l237))))
def UY(x1:Dfa)(x0:Fst)(fA:Nat)(gY:Nat)(l237:List Arc)(nX:Nat):Option (((List Arc)×Nat)⊕(((List Arc)×Nat)⊕(((List Arc)×Nat)⊕(Fst×Int)))):=
 aI (decide ((nX:Int)<(x1.next.length:Int))) (aV (λq:B_1×Nat=>U1 x0 fA x1 gY nX l237 q.1 q.2) ((replicate 256 false),0)) (fin (nxt (l237,(gY+1))))
def YZ(x1:Dfa)(x0:Fst)(fA:Nat)(xk:List Arc)(gY:Nat):Option (((List Arc)×Nat)⊕(((List Arc)×Nat)⊕(Fst×Int))):=
 aI (decide ((gY:Int)<(x1.next.length:Int))) (aV (λq:(List Arc)×Nat=>UY x1 x0 fA gY q.1 q.2) (xk,0)) (fin (nxt (xk,(fA+1))))
def U3(x0:Fst)(x1:Dfa)(dQ:List Tip)(fF:List Tip)(BK:List Arc)(fA:Nat):Option (((List Arc)×Nat)⊕(Fst×Int)):=
 aI (decide ((fA:Int)<(x0.arcs.length:Int))) (aV (λq:(List Arc)×Nat=>YZ x1 x0 fA q.1 q.2) (BK,0)) (fin (bnd (Ns (⟨IntKind.i64.wrap (x0.states * (x1.next.length:Int)),dQ,fF,BK⟩:Fst)) (λv201=>some (v201.1,v201.2))))
def Y_(x0:Fst)(x1:Dfa)(dQ:List Tip)(fF:List Tip)(gG:Nat):Option (((List Tip)×Nat)⊕(Fst×Int)):=
 aI (decide ((gG:Int)<(x0.ends.length:Int))) (aV (λq:(List Tip)×Nat=>Y0 x1 x0 gG q.1 q.2) (fF,0)) (fin (aV (λq:(List Arc)×Nat=>U3 x0 x1 dQ fF q.1 q.2) (([]:List Arc),0)))
def Zc(x0:Fst)(x1:Dfa)(dQ:List Tip)(dI:Nat):Option (((List Tip)×Nat)⊕(Fst×Int)):=
 aI (decide ((dI:Int)<(x0.starts.length:Int))) (grd ((dQ.length+[(⟨IntKind.i64.wrap (((nth x0.starts dI bD).state) * (x1.next.length:Int)),(nth x0.starts dI bD).out⟩:Tip)].length) * 24<=140737488355328) (nxt ((dQ++[(⟨IntKind.i64.wrap (((nth x0.starts dI bD).state) * (x1.next.length:Int)),(nth x0.starts dI bD).out⟩:Tip)]),(dI+1)))) (fin (aV (λq:(List Tip)×Nat=>Y_ x0 x1 dQ q.1 q.2) (([]:List Tip),0)))
def YT(x0:Fst)(x1:Dfa):Option (Fst×Int):=
 bnd (Ib x0) (λv6=>aI (!v6) (some ((⟨0,([]:List Tip),([]:List Tip),([]:List Arc)⟩:Fst),1)) (bnd (YU x1) (λv10=>aI (!v10) (some ((⟨0,([]:List Tip),([]:List Tip),([]:List Arc)⟩:Fst),1)) (aI (decide (1024<(IntKind.i64.wrap (x0.states * (x1.next.length:Int))))) (some ((⟨0,([]:List Tip),([]:List Tip),([]:List Arc)⟩:Fst),2)) (aV (λq:(List Tip)×Nat=>Zc x0 x1 q.1 q.2) (([]:List Tip),0))))))
theorem Jo_ {σ : ak} {x0 : Fst} {ay : Option Addr} {au : Nat} {aC : Option Addr} {aJ : Nat} {aK : Option Addr} {aF : Nat} {x1 : Dfa} {bW : Option Addr} {bV : Nat} {cu : Option Addr} {dZ : Nat} {d_ : Option Addr} {b_ : Nat} (aA : RS σ 2 bg (.slice ay x0.starts.length au) x0.starts) (aG : RS σ 2 bg (.slice aC x0.ends.length aJ) x0.ends) (aH : RS σ 8 dG (.slice aK x0.arcs.length aF) x0.arcs) (bU : dV σ aB bW bV x1.cls) (dO : RZ σ (bH 1 aB aW) (.slice cu x1.next.length dZ) x1.next) (dK : dV σ dL d_ b_ x1.fin) {r : Fst × Int} (hh : YT x0 x1 = some r) :
  Con prog 48 #[.agg (eP x0 ay au aC aJ aK aF),.agg #[.slice bW x1.cls.length bV,.slice cu x1.next.length dZ,.slice d_ x1.fin.length b_]] σ [] (MK σ r):=by
 dsimp only [YT]at hh;have f0_0b:=aA.rv.big;have f0_1b:=aG.rv.big;have f0_2b:=aH.rv.big;have f1_0b:=bU.rv.big;have f1_1b:=dO.big;have f1_2b:=dK.rv.big;refine cM 185 Tryz.func48 (λw0=> ?_);refine R2 ?_;refine TL.bx (λaS=> ?_);refine TL.bx (λbn=> ?_);refine TL.al (λfK=> ?_);refine R6 ?_;obtain ⟨v6,u6,hh⟩:=bQ hh;refine κ z (eG (P8 (x0:=x0) aA aG aH u6) z z NJ z z z ?_);refine R2 ?_;refine Γ 20 z (λfB=> ?_) (λfB=> ?_)
 ·replace hh:=nT fB hh;refine R12 ?_;refine TC.rt 1 ?_;obtain rfl:=so hh;exact rz
 replace hh:=nS fB hh;refine TL.g z lA ?_;obtain ⟨v10,u10,hh⟩:=bQ hh;refine TL.gon z z z z z (eG (Gj_ (x0:=x1) bU dO dK u10) z z aaj_ z z z ?_);refine R3 ?_;refine TC.cB z hh (λkX hh=> ?_) (λkX hh=> ?_)
 ·refine R6 ?_;refine TC.rt 1 ?_;obtain rfl:=so hh;exact rz
 refine R15 ?_;refine TL.al (λjl=> ?_);refine R9 ?_;refine ι z hh (λgI hh=> ?_) (λgI hh=> ?_)
 ·refine R3 ?_;refine φ 1 z z (R3 ?_);refine TC.rt 1 ?_;obtain rfl:=so hh;exact rz
 refine R7 ?_;refine TC.nilS 79 2 bg (TC.lp hh (nO,oO) (rgs [(8,1),(38,27)]) (λ⟨dQ,dI⟩ ⟨a124,iq⟩=>([(8,.int .i64 (dI:Int))],[ω aS (eP x0 ay au aC aJ aK aF) 25,ω bn #[.slice bW x1.cls.length bV,.slice cu x1.next.length dZ,.slice d_ x1.fin.length b_] 35,ω fK #[.int .i64 0,aT,aT,aT] 25,ω jl #[.int .i64 (IntKind.i64.wrap (x0.states * (x1.next.length:Int))),.slice a124 dQ.length iq,aT,aT] 25,ε 79 2 bg (.slice a124 dQ.length iq) dQ])) (ψ [1,2,3,4] 5) ?_);rintro ⟨dQ,dI⟩ ⟨a124,iq⟩ _ z1 hh hR1;dsimp only [Zc]at hh ⊢;refine ξ 4 z (λGs=> ?_);refine R9 ?_;refine ι z hh (λuO hh=> ?_) (λuO hh=> ?_)
 ·refine R3 ?_;obtain ⟨NM,hh⟩:=gd hh;refine TC.draw [18,19,20] (by kernel_rfl) (ν 0 z fL z (Δ 1 z lL z (ν 2 z fL z (Δ 3 z lL z (ν 4 z mI z (Δ 5 z iN z (ν 6 z fE z (Δ 7 z lS z (ν 8 z mI z (ν 9 z (mulW z z z) z (ν 10 z fL z (Δ 11 z lL z (ν 12 z mI z (Δ 13 z iN z (ν 14 z fE z ?_)))))))))))))));refine Δ 15 z lS z (ν 16 z bL z (Φ 17 z (gX (enc:=bg) [(⟨IntKind.i64.wrap (((nth x0.starts dI bD).state) * (x1.next.length:Int)),(nth x0.starts dI bD).out⟩:Tip)] (λwS rZ=>(k1 ?_)))));refine Θ 5 z z (TA.last 18 (by kernel_rfl) z z z (apF (.inr ⟨_,0,z⟩) NM (λa138 c139=> ?_)));refine TZ.v 19 (by kernel_rfl) z z z fL z z (TZ.front 5 z z (TZ.last 20 (by kernel_rfl) z z z (gJ z U6 z z z z z ?_)));refine R6 ?_;exact E.nx hR1 hh (a138,c139) (ψ [1,1,5,5,5] 5)
 refine R1 ?_;replace hh:=bF hR1 hh;refine R7 ?_;refine TC.nilS 79 2 bg (TC.lp hh (nO,oO) (rgs [(9,2),(65,39)]) (λ⟨fF,gG⟩ ⟨lU,c154⟩=>([(9,.int .i64 (gG:Int))],[ω aS (eP x0 ay au aC aJ aK aF) 25,ω bn #[.slice bW x1.cls.length bV,.slice cu x1.next.length dZ,.slice d_ x1.fin.length b_] 35,ω fK #[.int .i64 0,aT,aT,aT] 25,ω jl #[.int .i64 (IntKind.i64.wrap (x0.states * (x1.next.length:Int))),.slice a124 dQ.length iq,.slice lU fF.length c154,aT] 25,ε 79 2 bg (.slice a124 dQ.length iq) dQ,ε 79 2 bg (.slice lU fF.length c154) fF])) (ψ [5,5,5,5,5] 6) ?_);rintro ⟨fF,gG⟩ ⟨lU,c154⟩ _ z1 hh hR1;dsimp only [Y_]at hh ⊢;refine ξ 4 z (λKR=> ?_);refine ξ 5 z (λTF=> ?_);refine R9 ?_;refine ι z hh (λXd hh=> ?_) (λXd hh=> ?_)
 ·refine R8 ?_;refine TC.lp hh (lU,c154) (rgs [(10,1),(72,32)]) (λ⟨sS,ru⟩ ⟨yE,yw⟩=>([(10,.int .i64 (ru:Int))],[ω aS (eP x0 ay au aC aJ aK aF) 25,ω bn #[.slice bW x1.cls.length bV,.slice cu x1.next.length dZ,.slice d_ x1.fin.length b_] 35,ω fK #[.int .i64 0,aT,aT,aT] 25,ω jl #[.int .i64 (IntKind.i64.wrap (x0.states * (x1.next.length:Int))),.slice a124 dQ.length iq,.slice yE sS.length yw,aT] 25,ε 79 2 bg (.slice a124 dQ.length iq) dQ,ε 79 2 bg (.slice yE sS.length yw) sS])) (ψ [5,5,5,5,5,5] 6) ?_;rintro ⟨sS,ru⟩ ⟨yE,yw⟩ _ z2 hh hR2;dsimp only [Y0]at hh ⊢;refine ξ 4 z (λhb172=> ?_);refine ξ 5 z (λhb173=> ?_);refine R7 ?_;refine ι z hh (λh174 hh=> ?_) (λh174 hh=> ?_)
  ·refine R1 ?_;refine TC.cutG (α:=((List Tip))×((Option Addr)×Nat)) (rgs [(77,27)]) (λg=>[]) (λg=>[ω aS (eP x0 ay au aC aJ aK aF) 25,ω bn #[.slice bW x1.cls.length bV,.slice cu x1.next.length dZ,.slice d_ x1.fin.length b_] 35,ω fK #[.int .i64 0,aT,aT,aT] 25,ω jl #[.int .i64 (IntKind.i64.wrap (x0.states * (x1.next.length:Int))),.slice a124 dQ.length iq,.slice g.2.1 g.1.length g.2.2,aT] 25,ε 79 2 bg (.slice a124 dQ.length iq) dQ,ε 79 2 bg (.slice g.2.1 g.1.length g.2.2) g.1]) (λg=>σ) (λg=>Dv_ ru g.1=some z2) ?_ (λg j hg=> ?_)
   ·refine R6 ?_;obtain ⟨u76,hh⟩:=gd hh;refine R3 ?_;refine TC.cB z hh (λh178 hh=> ?_) (λh178 hh=> ?_)
    ·obtain ⟨u98,hh⟩:=gd hh;refine TC.draw [20,21,22] (by kernel_rfl) (ν 0 z fL z (Δ 1 z lL z (ν 2 z fL z (Δ 3 z lL z (ν 4 z mI z (Δ 5 z iN z (ν 6 z fE z (Δ 7 z lS z (ν 8 z mI z (ν 9 z (mulW z z z) z (ν 10 z mI z (ν 11 z (addW z z z) z (ν 12 z fL z (Δ 13 z lL z (ν 14 z mI z ?_)))))))))))))));refine Δ 15 z iN z (ν 16 z fE z (Δ 17 z lS z (ν 18 z bL z (Φ 19 z (gX (enc:=bg) [(⟨IntKind.i64.wrap ((IntKind.i64.wrap (((nth x0.ends gG bD).state) * (x1.next.length:Int)))+(ru:Int)),(nth x0.ends gG bD).out⟩:Tip)] (λa184 c185=>(k1 ?_)))))));refine Θ 6 z z (TA.last 20 (by kernel_rfl) z z z (apF (.inr ⟨_,0,z⟩) u98 (λX5 Xy=> ?_)));refine TZ.v 21 (by kernel_rfl) z z z fL z z (TZ.front 5 z z (TZ.last 22 (by kernel_rfl) z z z (gJ z U6 z z z z z ?_)));refine R1 ?_;exact cf ((sS++[(⟨IntKind.i64.wrap ((IntKind.i64.wrap (((nth x0.ends gG bD).state) * (x1.next.length:Int)))+(ru:Int)),(nth x0.ends gG bD).out⟩:Tip)]),(X5,Xy)) hh (ψ [1,6,2,6,6,6] 6)
    refine R1 ?_;exact cf (sS,(yE,yw)) hh (ψ [5,5,5,5,5,5] 6)
   obtain ⟨Jq,⟨uV,uS⟩⟩:=g;have hh:=hg;clear hg
   try dsimp only
   dsimp only [Dv_]at hh;refine ξ 4 z (λhb189=> ?_);refine ξ 5 z (λhb190=> ?_);refine R5 ?_;exact E.nx hR2 hh (uV,uS) (ψ [5,5,5,5,5,5] 6)
  refine R1 ?_;replace hh:=bF hR2 hh;refine R6 ?_;exact E.nx hR1 hh (yE,yw) (ψ [5,5,5,5,5,5] 6)
 refine R1 ?_;replace hh:=bF hR1 hh;refine R7 ?_;refine TC.nilS 49 8 dG (TC.lp hh (nO,oO) (rgs [(11,6),(104,77)]) (λ⟨BK,fA⟩ ⟨PK,c206⟩=>([(11,.int .i64 (fA:Int))],[ω aS (eP x0 ay au aC aJ aK aF) 25,ω bn #[.slice bW x1.cls.length bV,.slice cu x1.next.length dZ,.slice d_ x1.fin.length b_] 35,ω fK #[.int .i64 0,aT,aT,aT] 25,ω jl #[.int .i64 (IntKind.i64.wrap (x0.states * (x1.next.length:Int))),.slice a124 dQ.length iq,.slice lU fF.length c154,.slice PK BK.length c206] 25,ε 79 2 bg (.slice a124 dQ.length iq) dQ,ε 79 2 bg (.slice lU fF.length c154) fF,ε 49 8 dG (.slice PK BK.length c206) BK])) (ψ [6,6,6,6,6,6] 7) ?_);rintro ⟨BK,fA⟩ ⟨PK,c206⟩ _ z1 hh hR1;dsimp only [U3]at hh ⊢;refine ξ 4 z (λhb209=> ?_);refine ξ 5 z (λhb210=> ?_);refine ξ 6 z (λTD=> ?_);refine R9 ?_;refine ι z hh (λh212 hh=> ?_) (λh212 hh=> ?_)
 ·refine R8 ?_;refine TC.lp hh (PK,c206) (rgs [(12,5),(111,70)]) (λ⟨xk,gY⟩ ⟨a222,Dj⟩=>([(12,.int .i64 (gY:Int))],[ω aS (eP x0 ay au aC aJ aK aF) 25,ω bn #[.slice bW x1.cls.length bV,.slice cu x1.next.length dZ,.slice d_ x1.fin.length b_] 35,ω fK #[.int .i64 0,aT,aT,aT] 25,ω jl #[.int .i64 (IntKind.i64.wrap (x0.states * (x1.next.length:Int))),.slice a124 dQ.length iq,.slice lU fF.length c154,.slice a222 xk.length Dj] 25,ε 79 2 bg (.slice a124 dQ.length iq) dQ,ε 79 2 bg (.slice lU fF.length c154) fF,ε 49 8 dG (.slice a222 xk.length Dj) xk])) (ψ [6,6,6,6,6,6,6] 7) ?_;rintro ⟨xk,gY⟩ ⟨a222,Dj⟩ _ z2 hh hR2;dsimp only [YZ]at hh ⊢;refine ξ 4 z (λhb225=> ?_);refine ξ 5 z (λhb226=> ?_);refine ξ 6 z (λTz=> ?_);refine R7 ?_;refine ι z hh (λW9 hh=> ?_) (λW9 hh=> ?_)
  ·refine R8 ?_;refine TC.lp hh (a222,Dj) (rgs [(13,4),(116,65)]) (λ⟨l237,nX⟩ ⟨AY,AP⟩=>([(13,.int .i64 (nX:Int))],[ω aS (eP x0 ay au aC aJ aK aF) 25,ω bn #[.slice bW x1.cls.length bV,.slice cu x1.next.length dZ,.slice d_ x1.fin.length b_] 35,ω fK #[.int .i64 0,aT,aT,aT] 25,ω jl #[.int .i64 (IntKind.i64.wrap (x0.states * (x1.next.length:Int))),.slice a124 dQ.length iq,.slice lU fF.length c154,.slice AY l237.length AP] 25,ε 79 2 bg (.slice a124 dQ.length iq) dQ,ε 79 2 bg (.slice lU fF.length c154) fF,ε 49 8 dG (.slice AY l237.length AP) l237])) (ψ [6,6,6,6,6,6,6] 7) ?_;rintro ⟨l237,nX⟩ ⟨AY,AP⟩ _ z3 hh uK;dsimp only [UY]at hh ⊢;refine ξ 4 z (λhb241=> ?_);refine ξ 5 z (λhb242=> ?_);refine ξ 6 z (λhb243=> ?_);refine R7 ?_;refine ι z hh (λWZ hh=> ?_) (λWZ hh=> ?_)
   ·refine R1 ?_;refine TC.cutG (α:=((List Arc))×((Option Addr)×Nat)) (rgs [(14,3),(121,60)]) (λg=>[]) (λg=>[ω aS (eP x0 ay au aC aJ aK aF) 25,ω bn #[.slice bW x1.cls.length bV,.slice cu x1.next.length dZ,.slice d_ x1.fin.length b_] 35,ω fK #[.int .i64 0,aT,aT,aT] 25,ω jl #[.int .i64 (IntKind.i64.wrap (x0.states * (x1.next.length:Int))),.slice a124 dQ.length iq,.slice lU fF.length c154,.slice g.2.1 g.1.length g.2.2] 25,ε 79 2 bg (.slice a124 dQ.length iq) dQ,ε 79 2 bg (.slice lU fF.length c154) fF,ε 49 8 dG (.slice g.2.1 g.1.length g.2.2) g.1]) (λg=>σ) (λg=>Dw_ nX g.1=some z3) ?_ (λg j hg=> ?_)
    ·refine R8 ?_;refine TL.al (λb248=> ?_);refine R4 ?_;refine κ z (IC (m:=256) (enc:=dL) false z underlying33 AZ by4 ze4 z z z z (by omega) (by decide) wJ (by decide) z EL (λa250 c251=> ?_));refine R8 ?_;refine TC.lk hh () (rgs [(16,1),(127,27)]) (λ⟨nU,jJ⟩ _=>([(16,.int .i64 (jJ:Int))],[ω aS (eP x0 ay au aC aJ aK aF) 25,ω bn #[.slice bW x1.cls.length bV,.slice cu x1.next.length dZ,.slice d_ x1.fin.length b_] 35,ω fK #[.int .i64 0,aT,aT,aT] 25,ω jl #[.int .i64 (IntKind.i64.wrap (x0.states * (x1.next.length:Int))),.slice a124 dQ.length iq,.slice lU fF.length c154,.slice AY l237.length AP] 25,ε 79 2 bg (.slice a124 dQ.length iq) dQ,ε 79 2 bg (.slice lU fF.length c154) fF,ε 49 8 dG (.slice AY l237.length AP) l237,ω b248 #[.int .i64 ((nth x0.arcs fA aO).frm),.int .i64 ((nth x0.arcs fA aO).to),.int .u64 (((nth x0.arcs fA aO).set).a:Int),.int .u64 (((nth x0.arcs fA aO).set).b:Int),.int .u64 (((nth x0.arcs fA aO).set).c:Int),.int .u64 (((nth x0.arcs fA aO).set).d:Int),.string (bs ((nth x0.arcs fA aO).out)),.bool ((nth x0.arcs fA aO).copy)] 49,ε 4 1 dL (.slice a250 (replicate 256 false).length c251) nU])) (λ⟨nU,_⟩ _=>nU.length=(replicate 256 false).length) z (ψ [1,8,8,8,8,8,8,8] 9) ?_;rintro ⟨nU,jJ⟩ _ _ z4 hh WQ zK;dsimp only [U1]at hh zK ⊢;refine ξ 4 z (λhb262=> ?_);refine ξ 5 z (λhb263=> ?_);refine ξ 6 z (λhb264=> ?_);refine ξ 8 z (λhb265=> ?_);refine R6 ?_;refine ι z hh (λxZ hh=> ?_) (λxZ hh=> ?_)
     ·refine R1 ?_;refine TC.cutG (α:=(B_1)×(Unit)) (rgs [(131,23)]) (λg=>[]) (λg=>[ω aS (eP x0 ay au aC aJ aK aF) 25,ω bn #[.slice bW x1.cls.length bV,.slice cu x1.next.length dZ,.slice d_ x1.fin.length b_] 35,ω fK #[.int .i64 0,aT,aT,aT] 25,ω jl #[.int .i64 (IntKind.i64.wrap (x0.states * (x1.next.length:Int))),.slice a124 dQ.length iq,.slice lU fF.length c154,.slice AY l237.length AP] 25,ε 79 2 bg (.slice a124 dQ.length iq) dQ,ε 79 2 bg (.slice lU fF.length c154) fF,ε 49 8 dG (.slice AY l237.length AP) l237,ω b248 #[.int .i64 ((nth x0.arcs fA aO).frm),.int .i64 ((nth x0.arcs fA aO).to),.int .u64 (((nth x0.arcs fA aO).set).a:Int),.int .u64 (((nth x0.arcs fA aO).set).b:Int),.int .u64 (((nth x0.arcs fA aO).set).c:Int),.int .u64 (((nth x0.arcs fA aO).set).d:Int),.string (bs ((nth x0.arcs fA aO).out)),.bool ((nth x0.arcs fA aO).copy)] 49,ε 4 1 dL (.slice a250 (replicate 256 false).length c251) g.1]) (λg=>σ) (λg=>D0_ jJ g.1=some z4/\g.1.length=(replicate 256 false).length) ?_ (λg j hg=> ?_)
      ·refine TC.block (TC.draw [23] (by kernel_rfl) (ν 0 z mS z (ν 1 z mI z (ν 2 z fL z (Δ 3 z lB z (ν 4 z mI z ?_))))));obtain ⟨u138,hh⟩:=gd hh;refine Φ 5 z (eG (qg_ _ ((nth x0.arcs fA aO).set) jJ (BSet.isOk _) u138) z z vm_ z z z (k0 ?_));refine ν 6 z mB z (TA.split 137 z (λWV=> ?_) (λWV=> ?_))
       ·replace hh:=nT WV hh;refine TA.oN 7 z z fL (TA.oN 8 z z lL (TA.oN 9 z z mI (TA.oN 10 z z iN ?_)));obtain ⟨N_,Tc,hg270⟩:=RZ.seg dO gY (by omega);replace Tc:dV _ aB N_.1 N_.2 (nth x1.next gY []):=Tc;refine TA.oN 11 z z (OpVal.of (wP z oV z hg270 z) (v':= .slice N_.1 ((nth x1.next gY []).length) N_.2) z) (TA.oN 12 z z fL (TA.oN 13 z z lL (TA.oN 14 z z mI ?_)));obtain ⟨u148,hh⟩:=gd hh;refine TA.oN 15 z z iN (TA.oN 16 z z l1 ?_);obtain ⟨u150,hh⟩:=gd hh;refine TA.oN 17 z z iX (TA.oN 18 z z l1 (TA.oN 19 z z mI (TA.oN 20 z z (OpVal.eql z z z) (ν 21 z (lF z z z) z ?_))));obtain ⟨u155,hh⟩:=gd hh;refine TA.isSl (i:=8) z (λhs271 _ _=> ?_);refine Δ 22 z iN z (Θ 8 z z ?_);have hn272:(nU.set jJ (decide ((nth (nth x1.next gY []) ((nth x1.cls jJ 0).toNat) 0)=(nX:Int)))).length=(replicate 256 false).length:=by rw [eX];exact zK
        refine TA.last 23 (by kernel_rfl) z z z (qp (decide ((nth (nth x1.next gY []) ((nth x1.cls jJ 0).toNat) 0)=(nX:Int))) z AZ z z z z wJ EL (by omega) (by omega) ?_);refine R1 ?_;exact cf ((nU.set jJ (decide ((nth (nth x1.next gY []) ((nth x1.cls jJ 0).toNat) 0)=(nX:Int)))),()) ⟨hh,hn272⟩ (ψ [8,8,8,8,8,8,8,8] 9)
       replace hh:=nS WV hh;refine TA.of 7 z z (TA.of 8 z z (TA.of 9 z z (TA.of 10 z z (TA.of 11 z z (TA.of 12 z z (TA.of 13 z z (TA.of 14 z z (TA.of 15 z z (TA.of 16 z z (TA.of 17 z z (TA.of 18 z z (TA.of 19 z z (TA.of 20 z z (ν 21 z (qN z z z) z ?_))))))))))))));obtain ⟨u155,hh⟩:=gd hh;refine TA.isSl (i:=8) z (λhs273 _ _=> ?_);refine Δ 22 z iN z (Θ 8 z z ?_);have CP:(nU.set jJ false).length=(replicate 256 false).length:=by rw [eX];exact zK
       refine TA.last 23 (by kernel_rfl) z z z (qp false z AZ z z z z wJ EL (by omega) (by omega) ?_);refine R1 ?_;exact cf ((nU.set jJ false),()) ⟨hh,CP⟩ (ψ [8,8,8,8,8,8,8,8] 9)
      obtain ⟨wo,_⟩:=g;obtain ⟨hh,Sj⟩:=hg
      try dsimp only at Sj ⊢
      dsimp only [D0_]at hh;refine ξ 4 z (λTq=> ?_);refine ξ 5 z (λGq=> ?_);refine ξ 6 z (λGp=> ?_);refine ξ 8 z (λTn=> ?_);refine R5 ?_;exact nk WQ hh () (ψ [8,8,8,8,8,8,8,8,8] 9) Sj
     refine R1 ?_;replace hh:=bF WQ hh;refine R4 ?_;refine φ 8 z z ?_;obtain ⟨Vd,hh⟩:=gd hh;refine κ z (Nj (sk_ zK Vd) z z QT z z z z ?_);refine TL.w z fL (φ 7 z z (κ z (c8_ z D6 z z z z z z z ?_)));refine R27 ?_;refine TL.w z (XQ z D8 ug Fq z) (TL.w z (neqSet (s:=(BSet.make λi=>nth nU i false)) (t:=BSet.zero) z D8 NI zF ug Ht z z) (R1 ?_));refine ι z hh (λh280 hh=> ?_) (λh280 hh=> ?_)
     ·refine R4 ?_;refine κ z (gX (enc:=dG) [(⟨IntKind.i64.wrap ((IntKind.i64.wrap (((nth x0.arcs fA aO).frm) * (x1.next.length:Int)))+(gY:Int)),IntKind.i64.wrap ((IntKind.i64.wrap (((nth x0.arcs fA aO).to) * (x1.next.length:Int)))+(nX:Int)),(BSet.make λi=>nth nU i false),(nth x0.arcs fA aO).out,(nth x0.arcs fA aO).copy⟩:Arc)] (λa281 c282=> ?_));refine φ 8 z z ?_;obtain ⟨u188,hh⟩:=gd hh;refine κ z (apF (.inr ⟨_,0,z⟩) u188 (λtX tK=> ?_));refine TL.w z fL (φ 6 z z (R2 ?_));exact cf ((l237++[(⟨IntKind.i64.wrap ((IntKind.i64.wrap (((nth x0.arcs fA aO).frm) * (x1.next.length:Int)))+(gY:Int)),IntKind.i64.wrap ((IntKind.i64.wrap (((nth x0.arcs fA aO).to) * (x1.next.length:Int)))+(nX:Int)),(BSet.make λi=>nth nU i false),(nth x0.arcs fA aO).out,(nth x0.arcs fA aO).copy⟩:Arc)]),(tX,tK)) hh (ψ [1,8,8,3,8,8,8] 7)
     refine R1 ?_;exact cf (l237,(AY,AP)) hh (ψ [7,7,7,7,7,7,7] 7)
    obtain ⟨l245,⟨a246,c247⟩⟩:=g;have hh:=hg;clear hg
    try dsimp only
    dsimp only [Dw_]at hh;refine ξ 4 z (λhb286=> ?_);refine ξ 5 z (λhb287=> ?_);refine ξ 6 z (λhb288=> ?_);refine R5 ?_;exact E.nx uK hh (a246,c247) (ψ [6,6,6,6,6,6,6] 7)
   refine R1 ?_;replace hh:=bF uK hh;refine R6 ?_;exact E.nx hR2 hh (AY,AP) (ψ [6,6,6,6,6,6,6] 7)
  refine R1 ?_;replace hh:=bF hR2 hh;refine R6 ?_;exact E.nx hR1 hh (a222,Dj) (ψ [6,6,6,6,6,6,6] 7)
 refine R1 ?_;replace hh:=bF hR1 hh;refine R4 ?_;refine φ 4 z z (TL.iw yj (λτ294 hle293 BZ=> ?_));refine φ 4 z z (TL.iw yj (λτ297 Wq JA=> ?_));replace BZ:=BZ.mono Wq;refine φ 4 z z (TL.iw EM (λτ300 Es hr298=> ?_));replace BZ:=BZ.mono Es;replace JA:=JA.mono Es;obtain ⟨v201,u201,hh⟩:=bQ hh;refine κ z (OpOk.call (Il_ (x0:=(⟨IntKind.i64.wrap (x0.states * (x1.next.length:Int)),dQ,fF,BK⟩:Fst)) BZ JA hr298 u201) z z QS z z z z ?_);rintro _ τ301 _ Wn ⟨a301_1,c301_1,a301_2,c301_2,a301_3,c301_3,rfl,hr301_0,hr301_1,hr301_2,rfl⟩;have hr301_2b:=hr301_2.rv.big;refine R2 ?_;refine φ 2 z z (R3 ?_);refine TC.rt 1 ?_;obtain rfl:=so hh;exact rz
def YP(x0:List Tip)(x1:Int)(bf:List Tip)(aP:Nat):Option (((List Tip)×Nat)⊕((List Tip))):=
 aI (decide ((aP:Int)<(x0.length:Int))) (grd ((bf.length+[(⟨IntKind.i64.wrap (((nth x0 aP bD).state)+x1),(nth x0 aP bD).out⟩:Tip)].length) * 24<=140737488355328) (nxt ((bf++[(⟨IntKind.i64.wrap (((nth x0 aP bD).state)+x1),(nth x0 aP bD).out⟩:Tip)]),(aP+1)))) (fin (some bf))
def Ed_(x0:List Tip)(x1:Int):Option ((List Tip)):=
 aV (λq:(List Tip)×Nat=>YP x0 x1 q.1 q.2) (([]:List Tip),0)
theorem H9_{σ:ak}{x0:List Tip}{ay:Option Addr}{au:Nat}{x1:Int}(aA:RS σ 2 bg (.slice ay x0.length au) x0){r:(List Tip)}(hh:Ed_ x0 x1=some r):
  Con prog 120 #[.slice ay x0.length au,.int .i64 x1] σ [] (K8_ σ r):=by
 dsimp only [Ed_]at hh;have f0_0b:=aA.rv.big;refine cM 30 Tryz.func120 (λw0=> ?_);refine R14 ?_;refine TC.nilS 79 2 bg (TC.lp hh (nO,oO) (rgs [(5,24)]) (λ⟨bf,aP⟩ ⟨dD,dM⟩=>([(5,.slice dD bf.length dM),(6,.int .i64 (aP:Int))],[ε 79 2 bg (.slice dD bf.length dM) bf])) (ζ 1 z) ?_);rintro ⟨bf,aP⟩ ⟨dD,dM⟩ _ z1 hh hR1;dsimp only [YP]at hh ⊢;refine ξ 0 z (λzM=> ?_);refine R8 ?_;refine ι z hh (λiG hh=> ?_) (λiG hh=> ?_)
 ·refine R3 ?_;obtain ⟨u23,hh⟩:=gd hh;refine TC.draw [15,16] (by kernel_rfl) (ν 0 z mS z (ν 1 z mS z (ν 2 z mI z (Δ 3 z iN z (ν 4 z fE z (Δ 5 z lS z (ν 6 z mI z (ν 7 z (addW z z z) z (ν 8 z mS z (ν 9 z mI z (Δ 10 z iN z (ν 11 z fE z (Δ 12 z lS z (ν 13 z bL z (Φ 14 z (gX (enc:=bg) [(⟨IntKind.i64.wrap (((nth x0 aP bD).state)+x1),(nth x0 aP bD).out⟩:Tip)] (λa124 iq=>(k1 ?_))))))))))))))))));refine Θ 1 z z (TA.last 15 (by kernel_rfl) z z z (apF (.inr ⟨_,0,z⟩) u23 (λa127 uU=> ?_)));refine TZ.v 16 (by kernel_rfl) z z z mS z z (R6 ?_);exact E.nx hR1 hh (a127,uU) (ζ 1 z)
 refine R1 ?_;replace hh:=bF hR1 hh;refine R6 ?_;refine θ ?_;obtain rfl:=so hh;exact rz
def Y7(x0:List Arc)(x1:Int)(bf:List Arc)(aP:Nat):Option (((List Arc)×Nat)⊕((List Arc))):=
 aI (decide ((aP:Int)<(x0.length:Int))) (grd ((bf.length+[(⟨IntKind.i64.wrap (((nth x0 aP aO).frm)+x1),IntKind.i64.wrap (((nth x0 aP aO).to)+x1),(nth x0 aP aO).set,(nth x0 aP aO).out,(nth x0 aP aO).copy⟩:Arc)].length) * 72<=140737488355328) (nxt ((bf++[(⟨IntKind.i64.wrap (((nth x0 aP aO).frm)+x1),IntKind.i64.wrap (((nth x0 aP aO).to)+x1),(nth x0 aP aO).set,(nth x0 aP aO).out,(nth x0 aP aO).copy⟩:Arc)]),(aP+1)))) (fin (some bf))
def Fr_(x0:List Arc)(x1:Int):Option ((List Arc)):=
 aV (λq:(List Arc)×Nat=>Y7 x0 x1 q.1 q.2) (([]:List Arc),0)
theorem Jx_{σ:ak}{x0:List Arc}{ay:Option Addr}{au:Nat}{x1:Int}(aA:RS σ 8 dG (.slice ay x0.length au) x0){r:(List Arc)}(hh:Fr_ x0 x1=some r):
  Con prog 122 #[.slice ay x0.length au,.int .i64 x1] σ [] (Lb_ σ r):=by
 dsimp only [Fr_]at hh;have f0_0b:=aA.rv.big;refine cM 33 Tryz.func122 (λw0=> ?_);refine R14 ?_;refine TC.nilS 49 8 dG (TC.lp hh (nO,oO) (rgs [(5,27)]) (λ⟨bf,aP⟩ ⟨dD,dM⟩=>([(5,.slice dD bf.length dM),(6,.int .i64 (aP:Int))],[ε 49 8 dG (.slice dD bf.length dM) bf])) (ζ 1 z) ?_);rintro ⟨bf,aP⟩ ⟨dD,dM⟩ _ z1 hh hR1;dsimp only [Y7]at hh ⊢;refine ξ 0 z (λzM=> ?_);refine R8 ?_;refine ι z hh (λiG hh=> ?_) (λiG hh=> ?_)
 ·refine R9 ?_;refine TL.al (λb119=> ?_);refine R23 ?_;refine κ z (gX (enc:=dG) [(⟨IntKind.i64.wrap (((nth x0 aP aO).frm)+x1),IntKind.i64.wrap (((nth x0 aP aO).to)+x1),(nth x0 aP aO).set,(nth x0 aP aO).out,(nth x0 aP aO).copy⟩:Arc)] (λE_ ER=> ?_));refine φ 2 z z ?_;obtain ⟨u29,hh⟩:=gd hh;refine κ z (apF (.inr ⟨_,0,z⟩) u29 (λa124 iq=> ?_));refine R7 ?_;exact E.nx hR1 hh (a124,iq) (ζ 1 z)
 refine R1 ?_;replace hh:=bF hR1 hh;refine R6 ?_;refine θ ?_;obtain rfl:=so hh;exact rz
def Fq_(x0:List Tip)(x1:List Tip):Option ((List Tip)):=
 grd ((([]:List Tip).length+x0.length) * 24<=140737488355328) (grd (((([]:List Tip)++x0).length+x1.length) * 24<=140737488355328) (some ((([]:List Tip)++x0)++x1)))
theorem H4_{σ:ak}{x0:List Tip}{ay:Option Addr}{au:Nat}{x1:List Tip}{bW:Option Addr}{bV:Nat}(aA:RS σ 2 bg (.slice ay x0.length au) x0)(bU:RS σ 2 bg (.slice bW x1.length bV) x1){r:(List Tip)}(hh:Fq_ x0 x1=some r):
  Con prog 119 #[.slice ay x0.length au,.slice bW x1.length bV] σ [] (K8_ σ r):=by
 dsimp only [Fq_]at hh;refine cM 13 Tryz.func119 (λw0=> ?_);refine R12 ?_;refine TL.nilS 79 2 bg ?_;obtain ⟨u5,hh⟩:=gd hh;refine κ z (apF (.inl aA) u5 (λa102 c103=> ?_));refine R6 ?_;obtain ⟨u9,hh⟩:=gd hh;refine κ z (apF (.inl bU) u9 (λa104 c105=> ?_));refine R7 ?_;refine θ ?_;obtain rfl:=so hh;exact rz
def G2_(x0:List Arc)(x1:List Arc):Option ((List Arc)):=
 grd ((([]:List Arc).length+x0.length) * 72<=140737488355328) (grd (((([]:List Arc)++x0).length+x1.length) * 72<=140737488355328) (some ((([]:List Arc)++x0)++x1)))
theorem Ka_{σ:ak}{x0:List Arc}{ay:Option Addr}{au:Nat}{x1:List Arc}{bW:Option Addr}{bV:Nat}(aA:RS σ 8 dG (.slice ay x0.length au) x0)(bU:RS σ 8 dG (.slice bW x1.length bV) x1){r:(List Arc)}(hh:G2_ x0 x1=some r):
  Con prog 121 #[.slice ay x0.length au,.slice bW x1.length bV] σ [] (Lb_ σ r):=by
 dsimp only [G2_]at hh;refine cM 13 Tryz.func121 (λw0=> ?_);refine R12 ?_;refine TL.nilS 49 8 dG ?_;obtain ⟨u5,hh⟩:=gd hh;refine κ z (apF (.inl aA) u5 (λa102 c103=> ?_));refine R6 ?_;obtain ⟨u9,hh⟩:=gd hh;refine κ z (apF (.inl bU) u9 (λa104 c105=> ?_));refine R7 ?_;refine θ ?_;obtain rfl:=so hh;exact rz
def F4_(x0:Fst)(x1:Fst):Option (Fst×Int):=
 bnd (Ib x0) (λv6=>aI (!v6) (some ((⟨0,([]:List Tip),([]:List Tip),([]:List Arc)⟩:Fst),1)) (bnd (Ib x1) (λv10=>aI (!v10) (some ((⟨0,([]:List Tip),([]:List Tip),([]:List Arc)⟩:Fst),1)) (bnd (Ed_ x1.starts x0.states) (λv28=>bnd (Fq_ x0.starts v28) (λv29=>bnd (Ed_ x1.ends x0.states) (λv35=>bnd (Fq_ x0.ends v35) (λv36=>bnd (Fr_ x1.arcs x0.states) (λv42=>bnd (G2_ x0.arcs v42) (λv43=>bnd (Ns (⟨IntKind.i64.wrap (x0.states+x1.states),v29,v36,v43⟩:Fst)) (λv45=>some (v45.1,v45.2))))))))))))
theorem Kb_{σ:ak}{x0:Fst}{ay:Option Addr}{au:Nat}{aC:Option Addr}{aJ:Nat}{aK:Option Addr}{aF:Nat}{x1:Fst}{bW:Option Addr}{bV:Nat}{cu:Option Addr}{dZ:Nat}{d_:Option Addr}{b_:Nat}(aA:RS σ 2 bg (.slice ay x0.starts.length au) x0.starts)(aG:RS σ 2 bg (.slice aC x0.ends.length aJ) x0.ends)(aH:RS σ 8 dG (.slice aK x0.arcs.length aF) x0.arcs)(bU:RS σ 2 bg (.slice bW x1.starts.length bV) x1.starts)(dO:RS σ 2 bg (.slice cu x1.ends.length dZ) x1.ends)(dK:RS σ 8 dG (.slice d_ x1.arcs.length b_) x1.arcs){r:Fst×Int}(hh:F4_ x0 x1=some r):
  Con prog 49 #[.agg (eP x0 ay au aC aJ aK aF),.agg (eP x1 bW bV cu dZ d_ b_)] σ [] (MK σ r):=by
 dsimp only [F4_]at hh;refine cM 47 Tryz.func49 (λw0=> ?_);refine R2 ?_;refine TL.bx (λaS=> ?_);refine TL.bx (λbn=> ?_);refine TL.al (λfK=> ?_);refine R6 ?_;obtain ⟨v6,u6,hh⟩:=bQ hh;refine κ z (eG (P8 (x0:=x0) aA aG aH u6) z z NJ z z z ?_);refine R2 ?_;refine Γ 10 z (λfB=> ?_) (λfB=> ?_)
 ·replace hh:=nT fB hh;refine R12 ?_;refine TC.rt 1 ?_;obtain rfl:=so hh;exact rz
 replace hh:=nS fB hh;refine TL.g z lA ?_;obtain ⟨v10,u10,hh⟩:=bQ hh;refine TL.gon z z z z z (eG (P8 (x0:=x1) bU dO dK u10) z z NJ z z z ?_);refine R3 ?_;refine TC.cB z hh (λkX hh=> ?_) (λkX hh=> ?_)
 ·refine R6 ?_;refine TC.rt 1 ?_;obtain rfl:=so hh;exact rz
 refine R8 ?_;obtain ⟨v28,u28,hh⟩:=bQ hh;obtain ⟨v29,u29,hh⟩:=bQ hh;obtain ⟨v35,u35,hh⟩:=bQ hh;obtain ⟨v36,u36,hh⟩:=bQ hh;obtain ⟨v42,u42,hh⟩:=bQ hh;obtain ⟨v43,u43,hh⟩:=bQ hh;obtain ⟨v45,u45,hh⟩:=bQ hh;refine TC.draw [29,30] (by kernel_rfl) (ν 0 z mI z (ν 1 z fL z (Δ 2 z lL z (ν 3 z (addW z z z) z (ν 4 z fL z (Δ 5 z lL z (ν 6 z fL z (Δ 7 z lL z (ν 8 z mI z (ν 11 z fL z (Δ 12 z lL z (ν 13 z fL z (Δ 14 z lL z (ν 15 z mI z (ν 18 z fL z ?_)))))))))))))));refine Δ 19 z lL z (ν 20 z fL z (Δ 21 z lL z (ν 22 z mI z (Φ 9 z (OpOk.call (H9_ bU u28) z z QN z z z z ?_)))));rintro _ _ _ hle140 ⟨a140_1,c140_1,rfl,rfl,rfl⟩;refine k1 (TA.iw yj (λτ144 kV hr142=> ?_));replace aA:=aA.mono kV;replace aG:=aG.mono kV;replace aH:=aH.mono kV;replace dO:=dO.mono kV;replace dK:=dK.mono kV;refine Φ 10 z (OpOk.call (H4_ aA hr142 u29) z z QO z z z z ?_);rintro _ _ _ oz ⟨a145_1,c145_1,rfl,rfl,rfl⟩;refine kl 1 kV (Φ 16 z (OpOk.call (H9_ dO u35) z z QN z z z z ?_));rintro _ _ _ pY ⟨a147_1,c147_1,rfl,rfl,rfl⟩;refine kl 2 kV (TA.iw yj (λτ151 rU hr149=> ?_));replace aG:=aG.mono rU;replace aH:=aH.mono rU;replace dK:=dK.mono rU;refine Φ 17 z (OpOk.call (H4_ aG hr149 u36) z z QO z z z z ?_);rintro _ _ _ hle152 ⟨a152_1,c152_1,rfl,rfl,rfl⟩;refine kl 2 (kV.trans rU) (Φ 23 z (OpOk.call (Jx_ dK u42) z z pf122 z z z z ?_));rintro _ _ _ hle154 ⟨a154_1,c154_1,rfl,rfl,rfl⟩;refine kl 3 (kV.trans rU) (TA.iw EM (λτ158 EC hr156=> ?_));replace aH:=aH.mono EC;refine Φ 24 z (OpOk.call (Ka_ aH hr156 u43) z z pf121 z z z z ?_);rintro _ _ _ Ez ⟨a159_1,c159_1,rfl,rfl,rfl⟩;refine kl 3 ((kV.trans rU).trans EC) (ν 25 z bL z (Θ 2 z z (TA.iw yj (λτ163 WC Ci=> ?_))));refine Θ 1 z z (TA.iw yj (λτ166 Ey zJ=> ?_));replace Ci:=Ci.mono Ey;refine TA.iw EM (λτ169 Ew hr167=> ?_);replace Ci:=Ci.mono Ew;replace zJ:=zJ.mono Ew;refine Φ 26 z (OpOk.call (Il_ (x0:=(⟨IntKind.i64.wrap (x0.states+x1.states),v29,v36,v43⟩:Fst)) Ci zJ hr167 u45) z z QS z z z z ?_);rintro _ τ170 _ WB ⟨a170_1,c170_1,a170_2,c170_2,a170_3,c170_3,rfl,hr170_0,hr170_1,hr170_2,rfl⟩;refine kl 0 ((((((kV.trans rU).trans EC).trans WC).trans Ey).trans Ew).trans WB) (ν 27 z (OpVal.extract z z z) z (ν 28 z (OpVal.extract z z z) z (TA.last 29 (by kernel_rfl) z z z (storeAll z Vq z z z z z z ?_))));refine TZ.v 30 (by kernel_rfl) z z z mI z z (R1 ?_);refine TC.rt 1 ?_;obtain rfl:=so hh;exact rz
def Fc_(x0:Fst)(x1:Fst):Option (Fst×Int):=
 bnd (Ib x0) (λv6=>aI (!v6) (some ((⟨0,([]:List Tip),([]:List Tip),([]:List Arc)⟩:Fst),1)) (bnd (Ib x1) (λv10=>aI (!v10) (some ((⟨0,([]:List Tip),([]:List Tip),([]:List Arc)⟩:Fst),1)) (bnd (YN x0) (λv17=>aI (decide (v17.2≠0)) (some ((⟨0,([]:List Tip),([]:List Tip),([]:List Arc)⟩:Fst),v17.2)) (bnd (F0_ v17.1) (λv31=>bnd (YT x1 v31.1) (λv40=>aI (decide (v40.2≠0)) (some ((⟨0,([]:List Tip),([]:List Tip),([]:List Arc)⟩:Fst),v40.2)) (bnd (F4_ x0 v40.1) (λv55=>some (v55.1,v55.2)))))))))))
theorem Jr_{σ:ak}{x0:Fst}{ay:Option Addr}{au:Nat}{aC:Option Addr}{aJ:Nat}{aK:Option Addr}{aF:Nat}{x1:Fst}{bW:Option Addr}{bV:Nat}{cu:Option Addr}{dZ:Nat}{d_:Option Addr}{b_:Nat}(aA:RS σ 2 bg (.slice ay x0.starts.length au) x0.starts)(aG:RS σ 2 bg (.slice aC x0.ends.length aJ) x0.ends)(aH:RS σ 8 dG (.slice aK x0.arcs.length aF) x0.arcs)(bU:RS σ 2 bg (.slice bW x1.starts.length bV) x1.starts)(dO:RS σ 2 bg (.slice cu x1.ends.length dZ) x1.ends)(dK:RS σ 8 dG (.slice d_ x1.arcs.length b_) x1.arcs){r:Fst×Int}(hh:Fc_ x0 x1=some r):
  Con prog 15 #[.agg (eP x0 ay au aC aJ aK aF),.agg (eP x1 bW bV cu dZ d_ b_)] σ [] (MK σ r):=by
 dsimp only [Fc_]at hh;refine cM 50 Tryz.func15 (λw0=> ?_);refine R2 ?_;refine TL.bx (λaS=> ?_);refine TL.bx (λbn=> ?_);refine TL.al (λfK=> ?_);refine R6 ?_;obtain ⟨v6,u6,hh⟩:=bQ hh;refine κ z (eG (P8 (x0:=x0) aA aG aH u6) z z NJ z z z ?_);refine R2 ?_;refine Γ 15 z (λfB=> ?_) (λfB=> ?_)
 ·replace hh:=nT fB hh;refine R12 ?_;refine TC.rt 1 ?_;obtain rfl:=so hh;exact rz
 replace hh:=nS fB hh;refine TL.g z lA ?_;obtain ⟨v10,u10,hh⟩:=bQ hh;refine TL.gon z z z z z (eG (P8 (x0:=x1) bU dO dK u10) z z NJ z z z ?_);refine R3 ?_;refine TC.cB z hh (λkX hh=> ?_) (λkX hh=> ?_)
 ·refine R6 ?_;refine TC.rt 1 ?_;obtain rfl:=so hh;exact rz
 refine R4 ?_;obtain ⟨v17,vV,hh⟩:=bQ hh;refine κ z (OpOk.call (Hr_ (x0:=x0) aA aG aH vV) z z pf14 z z z z ?_);rintro _ τ109 _ dh ⟨a109_1,c109_1,a109_2,c109_2,a109_3,c109_3,rfl,hr109_0,hr109_1,hr109_2,rfl⟩;replace aA:=aA.mono dh;replace aG:=aG.mono dh;replace aH:=aH.mono dh;replace bU:=bU.mono dh;replace dO:=dO.mono dh;replace dK:=dK.mono dh;refine R3 ?_;refine TL.al (λb110=> ?_);refine R9 ?_;refine ι z hh (λh112 hh=> ?_) (λh112 hh=> ?_)
 ·refine R4 ?_;refine φ 1 z z (R3 ?_);refine TC.rt 1 ?_;obtain rfl:=so hh;exact rz
 refine R4 ?_;obtain ⟨v31,u31,hh⟩:=bQ hh;refine κ z (OpOk.call (J9_ (x0:=v17.1) hr109_0 hr109_1 hr109_2 u31) z z pf47 z z z z ?_);rintro _ τ113 _ cO ⟨a113_1,c113_1,a113_2,c113_2,a113_3,c113_3,rfl,hr113_0,hr113_1,hr113_2,rfl⟩;replace aA:=aA.mono cO;replace aG:=aG.mono cO;replace aH:=aH.mono cO;replace bU:=bU.mono cO;replace dO:=dO.mono cO;replace dK:=dK.mono cO;refine R3 ?_;refine TL.al (λEW=> ?_);refine R7 ?_;obtain ⟨v40,u40,hh⟩:=bQ hh;refine κ z (OpOk.call (Jo_ (x0:=x1) (x1:=v31.1) bU dO dK hr113_0 hr113_1 hr113_2 u40) z z pf48 z z z z ?_);rintro _ τ116 _ dw ⟨a116_1,c116_1,a116_2,c116_2,a116_3,c116_3,rfl,hr116_0,hr116_1,hr116_2,rfl⟩;replace aA:=aA.mono dw;replace aG:=aG.mono dw;replace aH:=aH.mono dw;refine R3 ?_;refine TL.al (λtV=> ?_);refine R9 ?_;refine ι z hh (λh119 hh=> ?_) (λh119 hh=> ?_)
 ·refine R4 ?_;refine φ 3 z z (R3 ?_);refine TC.rt 1 ?_;obtain rfl:=so hh;exact rz
 refine R5 ?_;obtain ⟨v55,u55,hh⟩:=bQ hh;refine κ z (OpOk.call (Kb_ (x0:=x0) (x1:=v40.1) aA aG aH hr116_0 hr116_1 hr116_2 u55) z z pf49 z z z z ?_);rintro _ τ120 _ jL ⟨a120_1,c120_1,a120_2,c120_2,a120_3,c120_3,rfl,hr120_0,hr120_1,hr120_2,rfl⟩;refine R2 ?_;refine φ 3 z z (R3 ?_);refine TC.rt 1 ?_;obtain rfl:=so hh;exact rz
def Ek_(x0:Fst)(x1:Fst):Option (Bool):=
 bnd (II x0) (λv5=>aI (!v5) (some true) (bnd (II x1) (λv9=>aI (!v9) (some true) (bnd (Yh x0) (λv14=>bnd (Fs_ x0) (λv22=>bnd (Np x0) (λv30=>bnd (YN x0) (λv38=>bnd (Hy_ x0 x1) (λv47=>bnd (Fc_ x0 x1) (λv56=>bnd (E2_) (λv63=>aI v63 (bnd (Ee_ v14.1 v22.1) (λv67=>aI v67 (aI (decide (v14.2=v22.2)) (bnd (Ft_ v30.1 v38.1) (λv77=>aI v77 (aI (decide (v30.2=v38.2)) (bnd (Ee_ v47.1 v56.1) (λv87=>aI v87 (some (decide (v47.2=v56.2))) (some false))) (some false)) (some false))) (some false)) (some false))) (some false))))))))))))
theorem Ix_{σ:ak}{x0:Fst}{ay:Option Addr}{au:Nat}{aC:Option Addr}{aJ:Nat}{aK:Option Addr}{aF:Nat}{x1:Fst}{bW:Option Addr}{bV:Nat}{cu:Option Addr}{dZ:Nat}{d_:Option Addr}{b_:Nat}(hgl:GT σ 0 qC deB)(aA:RS σ 2 bg (.slice ay x0.starts.length au) x0.starts)(aG:RS σ 2 bg (.slice aC x0.ends.length aJ) x0.ends)(aH:RS σ 8 dG (.slice aK x0.arcs.length aF) x0.arcs)(bU:RS σ 2 bg (.slice bW x1.starts.length bV) x1.starts)(dO:RS σ 2 bg (.slice cu x1.ends.length dZ) x1.ends)(dK:RS σ 8 dG (.slice d_ x1.arcs.length b_) x1.arcs){r:Bool}(hh:Ek_ x0 x1=some r):
  Con prog 4 #[.agg (eP x0 ay au aC aJ aK aF),.agg (eP x1 bW bV cu dZ d_ b_)] σ [] (iU (.bool r) σ):=by
 dsimp only [Ek_]at hh;refine cM 88 Tryz.func4 (λw0=> ?_);refine R2 ?_;refine TL.bx (λaS=> ?_);refine TL.bx (λbn=> ?_);refine R6 ?_;obtain ⟨v5,u5,hh⟩:=bQ hh;refine κ z (eG (Hu_ (x0:=x0) aA aG aH u5) z z pf11 z z z ?_);refine R2 ?_;refine Γ 20 z (λbM=> ?_) (λbM=> ?_)
 ·replace hh:=nT bM hh;refine R10 ?_;refine TC.rt 0 ?_;obtain rfl:=so hh;exact rq [4] ⟨z,z,z⟩
 replace hh:=nS bM hh;refine TL.g z lA ?_;obtain ⟨v9,u9,hh⟩:=bQ hh;refine TL.gon z z z z z (eG (Hu_ (x0:=x1) bU dO dK u9) z z pf11 z z z ?_);refine R3 ?_;refine TC.cB z hh (λdH hh=> ?_) (λdH hh=> ?_)
 ·refine R4 ?_;refine TC.rt 0 ?_;obtain rfl:=so hh;exact rq [4] ⟨z,z,z⟩
 refine R4 ?_;obtain ⟨v14,u14,hh⟩:=bQ hh;refine κ z (OpOk.call (J6_ (x0:=x0) aA aG aH u14) z z pf12 z z z z ?_);rintro _ τ107 _ jy ⟨a107_1,c107_1,a107_2,c107_2,a107_3,c107_3,rfl,hr107_0,hr107_1,hr107_2,rfl⟩;replace aA:=aA.mono jy;replace aG:=aG.mono jy;replace aH:=aH.mono jy;replace bU:=bU.mono jy;replace dO:=dO.mono jy;replace dK:=dK.mono jy;replace hgl:=hgl.mono jy;refine R3 ?_;refine TL.al (λH7=> ?_);refine R6 ?_;obtain ⟨v22,u22,hh⟩:=bQ hh;refine κ z (OpOk.call (J5_ (x0:=x0) aA aG aH u22) z z pf13 z z z z ?_);rintro _ τ110 _ g_ ⟨a110_1,c110_1,a110_2,c110_2,a110_3,c110_3,rfl,hr110_0,hr110_1,hr110_2,rfl⟩;replace aA:=aA.mono g_;replace aG:=aG.mono g_;replace aH:=aH.mono g_;replace bU:=bU.mono g_;replace dO:=dO.mono g_;replace dK:=dK.mono g_;replace hgl:=hgl.mono g_;replace hr107_0:=hr107_0.mono g_;replace hr107_1:=hr107_1.mono g_;replace hr107_2:=hr107_2.mono g_;refine R3 ?_;refine TL.al (λnN=> ?_);refine R6 ?_;obtain ⟨v30,u30,hh⟩:=bQ hh;refine κ z (OpOk.call (H0_ (x0:=x0) hgl aA aG aH u30) z z pf8 z z z z ?_);rintro _ τ113 _ cO ⟨a113_1,c113_1,a113_2,c113_2,a113_3,c113_3,rfl,hr113_0,hr113_1,hr113_2,rfl⟩;replace aA:=aA.mono cO;replace aG:=aG.mono cO;replace aH:=aH.mono cO;replace bU:=bU.mono cO;replace dO:=dO.mono cO;replace dK:=dK.mono cO;replace hgl:=hgl.mono cO;replace hr107_0:=hr107_0.mono cO;replace hr107_1:=hr107_1.mono cO;replace hr107_2:=hr107_2.mono cO;replace hr110_0:=hr110_0.mono cO;replace hr110_1:=hr110_1.mono cO;replace hr110_2:=hr110_2.mono cO;refine R3 ?_;refine TL.al (λEW=> ?_);refine R6 ?_;obtain ⟨v38,u38,hh⟩:=bQ hh;refine κ z (OpOk.call (Hr_ (x0:=x0) aA aG aH u38) z z pf14 z z z z ?_);rintro _ τ116 _ dw ⟨a116_1,c116_1,a116_2,c116_2,a116_3,c116_3,rfl,hr116_0,hr116_1,hr116_2,rfl⟩;replace aA:=aA.mono dw;replace aG:=aG.mono dw;replace aH:=aH.mono dw;replace bU:=bU.mono dw;replace dO:=dO.mono dw;replace dK:=dK.mono dw;replace hgl:=hgl.mono dw;replace hr107_0:=hr107_0.mono dw;replace hr107_1:=hr107_1.mono dw;replace hr107_2:=hr107_2.mono dw;replace hr110_0:=hr110_0.mono dw;replace hr110_1:=hr110_1.mono dw;replace hr110_2:=hr110_2.mono dw;replace hr113_0:=hr113_0.mono dw;replace hr113_1:=hr113_1.mono dw;replace hr113_2:=hr113_2.mono dw;refine R3 ?_;refine TL.al (λtV=> ?_);refine R7 ?_;obtain ⟨v47,DX,hh⟩:=bQ hh;refine κ z (OpOk.call (K6_ (x0:=x0) (x1:=x1) hgl aA aG aH bU dO dK DX) z z pf6 z z z z ?_);rintro _ τ119 _ dJ ⟨a119_1,c119_1,a119_2,c119_2,a119_3,c119_3,rfl,hr119_0,hr119_1,hr119_2,rfl⟩;replace aA:=aA.mono dJ;replace aG:=aG.mono dJ;replace aH:=aH.mono dJ;replace bU:=bU.mono dJ;replace dO:=dO.mono dJ;replace dK:=dK.mono dJ;replace hgl:=hgl.mono dJ;replace hr107_0:=hr107_0.mono dJ;replace hr107_1:=hr107_1.mono dJ;replace hr107_2:=hr107_2.mono dJ;replace hr110_0:=hr110_0.mono dJ;replace hr110_1:=hr110_1.mono dJ;replace hr110_2:=hr110_2.mono dJ;replace hr113_0:=hr113_0.mono dJ;replace hr113_1:=hr113_1.mono dJ;replace hr113_2:=hr113_2.mono dJ;replace hr116_0:=hr116_0.mono dJ;replace hr116_1:=hr116_1.mono dJ;replace hr116_2:=hr116_2.mono dJ;refine R3 ?_;refine TL.al (λb120=> ?_);refine R7 ?_;obtain ⟨v56,u56,hh⟩:=bQ hh;refine κ z (OpOk.call (Jr_ (x0:=x0) (x1:=x1) aA aG aH bU dO dK u56) z z pf15 z z z z ?_);rintro _ τ122 _ eF ⟨a122_1,c122_1,a122_2,c122_2,a122_3,c122_3,rfl,hr122_0,hr122_1,hr122_2,rfl⟩;replace hgl:=hgl.mono eF;replace hr107_0:=hr107_0.mono eF;replace hr107_1:=hr107_1.mono eF;replace hr107_2:=hr107_2.mono eF;replace hr110_0:=hr110_0.mono eF;replace hr110_1:=hr110_1.mono eF;replace hr110_2:=hr110_2.mono eF;replace hr113_0:=hr113_0.mono eF;replace hr113_1:=hr113_1.mono eF;replace hr113_2:=hr113_2.mono eF;replace hr116_0:=hr116_0.mono eF;replace hr116_1:=hr116_1.mono eF;replace hr116_2:=hr116_2.mono eF;replace hr119_0:=hr119_0.mono eF;replace hr119_1:=hr119_1.mono eF;replace hr119_2:=hr119_2.mono eF;refine R3 ?_;refine TL.al (λb123=> ?_);refine R5 ?_;obtain ⟨v63,u63,hh⟩:=bQ hh;refine κ z (eG (Jv_ hgl u63) z z pf16 z z z ?_);refine TL.j z z (Γ 58 z (λEK=> ?_) (λEK=> ?_))
 ·replace hh:=nT EK hh;refine R2 ?_;obtain ⟨v67,u67,hh⟩:=bQ hh;refine TL.gon z z z z z (eG (H6_ (x0:=v14.1) (x1:=v22.1) hr107_0 hr107_1 hr107_2 hr110_0 hr110_1 hr110_2 u67) z z pf17 z z z ?_);refine R2 ?_;refine Γ 63 z (λyc=> ?_) (λyc=> ?_)
  ·replace hh:=nT yc hh;refine R5 ?_;refine Γ 68 z (λh127=> ?_) (λh127=> ?_)
   ·obtain ⟨h127,hh⟩:=iT h127 hh;refine R2 ?_;obtain ⟨v77,u77,hh⟩:=bQ hh;refine TL.gon z z z z z (eG (J4_ (x0:=v30.1) (x1:=v38.1) hr113_0 hr113_1 hr113_2 hr116_0 hr116_1 hr116_2 u77) z z pf18 z z z ?_);refine R2 ?_;refine Γ 73 z (λh128=> ?_) (λh128=> ?_)
    ·replace hh:=nT h128 hh;refine R5 ?_;refine Γ 78 z (λuO=> ?_) (λuO=> ?_)
     ·obtain ⟨uO,hh⟩:=iT uO hh;refine R2 ?_;obtain ⟨v87,u87,hh⟩:=bQ hh;refine TL.gon z z z z z (eG (H6_ (x0:=v47.1) (x1:=v56.1) hr119_0 hr119_1 hr119_2 hr122_0 hr122_1 hr122_2 u87) z z pf17 z z z ?_);refine R2 ?_;refine Γ 83 z (λiQ=> ?_) (λiQ=> ?_)
      ·replace hh:=nT iQ hh;refine R6 ?_;refine TC.iH (ζ 0 z) (TC.back (θ ?_));obtain rfl:=so hh;exact rq [4] ⟨z,z,z⟩
      replace hh:=nS iQ hh;refine R6 ?_;refine TC.iH (ζ 0 z) (TC.back (θ ?_));obtain rfl:=so hh;exact rq [4] ⟨z,z,z⟩
     obtain ⟨uO,hh⟩:=iF uO hh;refine R11 ?_;refine TC.iH (ζ 0 z) (TC.back (θ ?_));obtain rfl:=so hh;exact rq [4] ⟨z,z,z⟩
    replace hh:=nS h128 hh;refine R16 ?_;refine TC.iH (ζ 0 z) (TC.back (θ ?_));obtain rfl:=so hh;exact rq [4] ⟨z,z,z⟩
   obtain ⟨h127,hh⟩:=iF h127 hh;refine R21 ?_;refine TC.iH (ζ 0 z) (TC.back (θ ?_));obtain rfl:=so hh;exact rq [4] ⟨z,z,z⟩
  replace hh:=nS yc hh;refine R26 ?_;refine TC.iH (ζ 0 z) (TC.back (θ ?_));obtain rfl:=so hh;exact rq [4] ⟨z,z,z⟩
 replace hh:=nS EK hh;refine R31 ?_;refine TC.iH (ζ 0 z) (TC.back (θ ?_));obtain rfl:=so hh;exact rq [4] ⟨z,z,z⟩
end Go.Proofs.YtcfgkcfcddfccaaGreatDoor
end

noncomputable section
namespace Go.Proofs.YtcfgkcfcddfccaaGreatDoor
open Go Go.E
theorem inN_ns{t:Fst}(ht:FstOk t)(h5:t.states<=5):NS (inN t):=by
  refine ⟨ht.st0,?_,?_,λe he=> ?_,λx hx=> ?_,?_,λx hx=> ?_⟩
  · show t.states<=1024
    omega
  · show (t.arcs.map _).length<=16384
    rw [List.length_map];exact ht.arcsN
  · obtain ⟨a,ha,rfl⟩:=List.mem_map.1 (show e∈t.arcs.map λa=>(⟨a.frm,a.to,a.set⟩:Arrow)from he)
    exact ⟨(ht.arcs a ha).1,(ht.arcs a ha).2.1⟩
  · have hx':x∈rX 0 mO (t.starts.map Tip.state):=hx
    rw [ZO]at hx';obtain ⟨y,hy,rfl⟩:=List.mem_map.1 hx';exact (ht.starts y hy).1
  · show (rX 0 mO (t.starts.map Tip.state)).length<=1000000
    have h1:=Lh_ (d:=(0:Int)) (cf:=mO) (t.starts.map Tip.state);rw [List.length_map]at h1;have:=ht.startsN;omega
  have hx':x∈rX 0 mO (t.ends.map Tip.state):=hx;rw [ZO]at hx';obtain ⟨y,hy,rfl⟩:=List.mem_map.1 hx';exact (ht.ends y hy).1
theorem vc_{t:Fst}(h:II t=some true):t.states<=5\/1024<t.states:=by
  unfold II at h;obtain ⟨b,hb⟩:=kk_ t;rw [iy hb]at h;cases b with
  |false=>cases h
  |true=>
    rw [iteO_true]at h
    by_cases c:t.states<=5
    · exact .inl c
    rw [bK c]at h;exact .inr (Gu (Option.some.inj h))
theorem tdv{n:Nat}(h:n<=1024):0<=Int.tdiv ((n:Nat):Int) 40/\Int.tdiv ((n:Nat):Int) 40<=1024:=by
  rw [Int.tdiv_eq_ediv_of_nonneg (by omega)];omega
section
variable {t:Fst} (ht:FstOk t)
include ht
omit ht in
theorem few_j3{i:Int}(h:((t.arcs.length:Nat):Int)<=i): ∃r,UG t i=some r/\(r=true->t.arcs.length<=60):=by
  unfold UG
  by_cases c:i<=60
  · rw [bY c]
    obtain ⟨r,hr⟩: ∃r,aI (decide (t.states<=20)) (some true) (some (decide (1024<t.states)))=some r:=Zy (λ_=>M_ _) (λ_=>M_ _);exact ⟨r,hr,λ_=>by omega⟩
  rw [bK c];exact ⟨false,rfl,λq=>by cases q⟩
theorem few_j2{i:Int}(h:((t.arcs.length:Nat):Int)<=i)(h2:i<=100000): ∃r,UM t i=some r/\(r=true->t.arcs.length<=60):=by
  unfold UM;refine fC (step:=λq:Int×Nat=>Gy t q.1 q.2) (λ(s:Int) k=>(s,k)) t.arcs.length (λ_ s=>((t.arcs.length:Nat):Int)<=s/\s<=100000) _ (λk s hk hI=> ?_) (λs hI=> ?_) (s0:=i) ⟨h,h2⟩
  · obtain ⟨h3,h4⟩:=hI
    show (∃s',Gy t s k=_/\_)\/ ∃r,Gy t s k=_/\_;unfold Gy;rw [bY (by omega)];obtain ⟨d1,d2⟩:=tdv (ht.arcs _ (jB hk aO)).2.2.2
    by_cases c:s<=60
    · rw [bY c,tJ (a:=Int.tdiv _ 40) (by omega) (by omega),tJ (by omega) (by omega)]
      exact .inl ⟨_,rfl,by omega,by omega⟩
    rw [bK c];obtain ⟨r,hr,q⟩:=few_j3 h3;exact .inr ⟨r,by rw [hr];rfl,q⟩
  show ∃r,Gy t s _=_/\_;unfold Gy;rw [bK (by omega)];obtain ⟨r,hr,q⟩:=few_j3 hI.1;exact ⟨r,by rw [hr];rfl,q⟩
theorem few_j1{i:Int}(h:((t.arcs.length:Nat):Int)<=i)(h2:i<=100000): ∃r,UH t i=some r/\(r=true->t.arcs.length<=60):=by
  unfold UH;refine fC (step:=λq:Int×Nat=>Gx t q.1 q.2) (λ(s:Int) k=>(s,k)) t.ends.length (λ_ s=>((t.arcs.length:Nat):Int)<=s/\s<=100000) _ (λk s hk hI=> ?_) (λs hI=> ?_) (s0:=i) ⟨h,h2⟩
  · obtain ⟨h3,h4⟩:=hI
    show (∃s',Gx t s k=_/\_)\/ ∃r,Gx t s k=_/\_;unfold Gx;rw [bY (by omega)];obtain ⟨d1,d2⟩:=tdv (ht.ends _ (jB hk bD)).2
    by_cases c:s<=60
    · rw [bY c,tJ (a:=Int.tdiv _ 40) (by omega) (by omega),tJ (by omega) (by omega)]
      exact .inl ⟨_,rfl,by omega,by omega⟩
    rw [bK c];obtain ⟨r,hr,q⟩:=few_j2 ht h3 h4;exact .inr ⟨r,by rw [hr];rfl,q⟩
  show ∃r,Gx t s _=_/\_;unfold Gx;rw [bK (by omega)];obtain ⟨r,hr,q⟩:=few_j2 ht hI.1 hI.2;exact ⟨r,by rw [hr];rfl,q⟩
theorem few15_le (hf : PY t = some true) : t.arcs.length <= 60 := by
  have h1:=ht.startsN;have h2:=ht.endsN;have h3:=ht.arcsN;obtain ⟨r,e,q⟩: ∃r,PY t=some r/\(r=true->t.arcs.length<=60):=by
    unfold PY;rw [tJ (a:=((t.starts.length:Nat):Int)+((t.ends.length:Nat):Int)) (by omega) (by omega),tJ (by omega) (by omega)];refine fC (step:=λq:Int×Nat=>Gz t q.1 q.2) (λ(s:Int) k=>(s,k)) t.starts.length (λ_ s=>((t.arcs.length:Nat):Int)<=s/\s<=100000) _ (λk s hk hI=> ?_) (λs hI=> ?_) ⟨by omega,by omega⟩
    · obtain ⟨h3,h4⟩:=hI
      show (∃s',Gz t s k=_/\_)\/ ∃r,Gz t s k=_/\_;unfold Gz;rw [bY (by omega)];obtain ⟨d1,d2⟩:=tdv (ht.starts _ (jB hk bD)).2
      by_cases c:s<=60
      · rw [bY c,tJ (a:=Int.tdiv _ 40) (by omega) (by omega),tJ (by omega) (by omega)]
        exact .inl ⟨_,rfl,by omega,by omega⟩
      rw [bK c];obtain ⟨r,hr,q⟩:=few_j1 ht h3 h4;exact .inr ⟨r,by rw [hr];rfl,q⟩
    show ∃r,Gz t s _=_/\_;unfold Gz;rw [bK (by omega)];obtain ⟨r,hr,q⟩:=few_j1 ht hI.1 hI.2;exact ⟨r,by rw [hr];rfl,q⟩
  rw [hf]at e;exact q (Option.some.inj e).symm
end
theorem tc_{t:Fst}(h:II t=some true):PY t=some true:=by
  unfold II at h;obtain ⟨b,hb⟩:=kk_ t;rw [iy hb]at h;cases b with
  |false=>cases h
  |true=>exact hb
theorem pu_{t:Fst}(ht:FstOk t)(h5:t.states<=5)(hf:t.arcs.length<=1024): ∃m,Np t=some (m,0)/\CanD m/\ ∀u,fU m 0 u=true↔ ∃q∈(inN t).ends,nrun (inN t) (λq=>q∈(inN t).starts) u q:=by
  have hck:=us_ ht;obtain ⟨d,e1,d1,d2⟩:=of_small (inN_ns ht h5) h5 (by show (t.arcs.map _).length<=1024;rw [List.length_map];exact hf) (by rw [hck];rfl);obtain ⟨m,e3,m1,m2⟩:=min_can d1;refine ⟨m,?_,m1,λu=>by rw [m2];exact d2 u⟩;unfold Np;rw [in_eq,if_pos ((yQ t).2 ht),gq];dsimp only;rw [bK (by simp),iy e1];dsimp only;rw [bK (by simp),iy e3]
theorem pc_{t:Fst}(hs:II t=some true): ∃r,Np t=some r/\YN t=some r/\(nR t=true->r.2=0/\jU r.1=true)/\(nR t=false->r.2=1):=by
  have hst:=vc_ hs
  by_cases h:nR t=true
  · have ht:=(yQ t).1 h
    have h1:=ht.st1;have hf:=few15_le ht (tc_ hs);have hck:=us_ ht;obtain ⟨m,e,m1,m2⟩:=pu_ ht (by omega) (by omega);obtain ⟨c,e2,c1,c2⟩:=rof_go (inN_ns ht (by omega)) (by show t.states<=5;omega) (by show (t.arcs.map _).length<=1024;rw [List.length_map];omega) hck (o9_.1 hck).2.2.2.1.2;obtain ⟨n,e4,n1,n2⟩:=z7_ c1;have hlan:fU m 0=fU n 0:=by
      rw [n2]
      funext u
      rw [Bool.eq_iff_iff,m2 u,c2 u]
    obtain rfl:=yh_ m1 n1 hlan;refine ⟨_,e,?_,λ_=>⟨rfl,m1.right⟩,λq=>by rw [h]at q;cases q⟩;unfold YN;rw [rin_eq,if_pos h,gq];dsimp only;rw [bK (by simp),iy e2];dsimp only;rw [bK (by simp),iy e4]
  unfold Np YN;rw [in_eq,gq,rin_eq,gq,if_neg h];exact ⟨_,rfl,rfl,λq=>absurd q h,λ_=>rfl⟩
theorem awake18:E2_=some true:=by
  have ht:=(yQ su).1 t18_b;obtain ⟨m,e,m1,m2⟩:=pu_ ht (by decide) (by decide);have hin:inN su=⟨3,[0],[2],[⟨0,1,BSet.ofL [97]⟩,⟨0,2,BSet.ofL [98]⟩]⟩:=by
    unfold inN;rw [show su.starts.map Tip.state=[0]from rfl,show su.ends.map Tip.state=[2]from rfl,I8_ Hq (List.pairwise_singleton ..),I8_ Hq (List.pairwise_singleton ..)];rfl
  have htk:nth m.fin (yK m 0 [98]).toNat false=true:=(m2 [98]).2 ⟨2,by rw [hin];simp,by
    rw [hin];exact ⟨⟨0,2,BSet.ofL [98]⟩,by simp,by simp,by kernel_rfl,rfl⟩⟩
  unfold E2_;rw [aQ (by decide),aQ (by decide)];show bnd (Yh su) (λv17=>bnd (Np su) _)=_;rw [w5_,if_pos t18_b,gq,e,gq,tk_eq m [98] (by decide),if_pos m1.right,gq,trim18,htk];rfl
def notD(d:Dfa):Dfa:=⟨d.cls,d.next,d.fin.map (!·)⟩
theorem v5_{d:Dfa}(h:jU d=true):jU (notD d)=true:=by
  unfold jU notD at *;dsimp only;rw [List.length_map];exact h
theorem not_go{d:Dfa}(h:jU d=true):jg_ d=some (notD d,0):=by
  obtain ⟨m,hm,hcl,hn1,hn2,hf,hrow⟩:=Hu h;have CY:=ZE d.cls 0 m hm;unfold jg_;rw [lk_,gq,if_pos h,bK (by simp),aQ (by omega)];obtain ⟨r,e,rfl⟩:=fC (step:=λq:aY×B_1×Nat=>OO d q.1 q.2.1 q.2.2) (λ(s:aY×B_1) k=>(s.1,s.2,k)) d.next.length (λk s=>s=(d.next.take k,(d.fin.take k).map (!·))) (λr=>r=(notD d,0))
    (λk s hk hI=>by
      subst hI;have hr:=(hrow k hk).1;refine .inl ⟨_,?_,rfl⟩;show OO d _ _ k=_;unfold OO;rw [bY (by omega),aQ (by omega),aQ (by simp only [List.length_take,dN];omega),aQ (by omega),aQ (by simp only [List.length_map,List.length_take,dN];omega),jS d.next hk ([]:aj),jS d.fin (by omega) false,List.map_append,List.map_singleton];rfl)
    (λs hI=>by
      subst hI;refine ⟨_,?_,rfl⟩;show OO d _ _ d.next.length=_;unfold OO;rw [bK (by omega),List.take_length,List.take_of_length_le (by omega)];rfl)
    (s0:=([],[])) (by simp)
  exact e
theorem rnot_go{d:Dfa}(h:jU d=true):F0_ d=some (notD d,0):=by
  obtain ⟨m,hm,hcl,hn1,hn2,hf,hrow⟩:=Hu h;unfold F0_;rw [lp_,gq,h,Bool.not_true,iteO_false];obtain ⟨r,e,rfl⟩:=fC (step:=λq:B_1×Nat=>P9 d q.1 q.2) (λ(s:B_1) k=>(s,k)) d.fin.length (λk s=>s=(d.fin.take k).map (!·)) (λr=>r=(notD d,0))
    (λk s hk hI=>by
      subst hI;refine .inl ⟨_,?_,rfl⟩;show P9 d _ k=_;unfold P9;rw [bY (by omega),aQ (by simp only [List.length_map,List.length_take,dN];omega),jS d.fin hk false,List.map_append,List.map_singleton];rfl)
    (λs hI=>by
      subst hI;refine ⟨_,?_,rfl⟩;show P9 d _ d.fin.length=_;unfold P9;rw [bK (by omega),List.take_length];rfl)
    (s0:=[]) (by simp)
  exact e
theorem end_of {F : Fst} {r : Fst × Int} (h : GEnd F r) (hok : GB F -> F.states <= 1024 -> FstOk F) : Ns F = some r := by
  unfold Ns;rw [Lm,gq];rcases h with ⟨rfl,h⟩|⟨rfl,h1,h2⟩
  · have:nR F=false:=by
      cases e:nR F with
      |false=>rfl
      |true=>
        have hF:=(yQ F).1 e;rcases h with h|h
        · exact absurd ⟨hF.startsN,hF.endsN,hF.arcsN,λx hx=>(hF.starts x hx).2,λx hx=>(hF.ends x hx).2,λx hx=>(hF.arcs x hx).2.2.2⟩ h
        have:=hF.st1;omega
    rw [this];rfl
  rw [(yQ F).2 (hok h1 h2)];rfl
theorem sh_{l:List Tip}(hl:l.length<=1024){n:Int}(hr: ∀x∈l, -100000<=x.state+n/\x.state+n<=100000):Ed_ l n=some (shT n l):=by
  unfold Ed_;obtain ⟨r,e,rfl⟩:=fC (step:=λq:(List Tip)×Nat=>YP l n q.1 q.2) (λ(s:List Tip) k=>(s,k)) l.length (λk s=>s=shT n (l.take k)) (λr=>r=shT n l)
    (λk s hk hI=>by
      subst hI;refine .inl ⟨_,?_,rfl⟩;show YP l n _ k=_;unfold YP;rw [bY (by omega),aQ (by unfold shT;simp only [List.length_map,List.length_take,dN];omega),xY (hr _ (jB hk _)),rb_ n l hk];rfl)
    (λs hI=>by
      rw [List.take_length]at hI;subst hI;refine ⟨_,?_,rfl⟩;show YP l n _ l.length=_;unfold YP;rw [bK (by omega)];rfl) (s0:=[]) (by simp [shT])
  exact e
theorem wq_{l:List Arc}(hl:l.length<=16384){n:Int}(hr: ∀x∈l,(-100000<=x.frm+n/\x.frm+n<=100000)/\ -100000<=x.to+n/\x.to+n<=100000):Fr_ l n=some (shA n l):=by
  unfold Fr_;obtain ⟨r,e,rfl⟩:=fC (step:=λq:(List Arc)×Nat=>Y7 l n q.1 q.2) (λ(s:List Arc) k=>(s,k)) l.length (λk s=>s=shA n (l.take k)) (λr=>r=shA n l)
    (λk s hk hI=>by
      subst hI;have hm:=hr _ (jB hk aO);refine .inl ⟨_,?_,rfl⟩;show Y7 l n _ k=_;unfold Y7;rw [bY (by omega),aQ (by unfold shA;simp only [List.length_map,List.length_take,dN];omega),xY hm.1,xY hm.2,tx_ n l hk];rfl)
    (λs hI=>by
      rw [List.take_length]at hI;subst hI;refine ⟨_,?_,rfl⟩;show Y7 l n _ l.length=_;unfold Y7;rw [bK (by omega)];rfl) (s0:=[]) (by simp [shA])
  exact e
theorem alt_fok{a b:Fst}(ha:FstOk a)(hb:FstOk b)(h:GB (fAlt a b))(hn:(fAlt a b).states<=1024):FstOk (fAlt a b):=by
  have a0:=ha.st0;have b0:=hb.st0;have e:(fAlt a b).states=a.states+b.states:=rfl;refine ⟨by rw [e];omega,hn,h.aN,h.sN,h.eN,λx hx=>⟨?_,h.s x hx⟩,λx hx=>⟨?_,h.e x hx⟩,λx hx=> ?_⟩
  · rw [e]
    rcases List.mem_append.1 (show x∈a.starts++shT a.states b.starts from hx)with q|q
    · have:=(ha.starts x q).1;omega
    obtain ⟨y,hy,rfl⟩:=List.mem_map.1 q;have:=(hb.starts y hy).1;dsimp only;omega
  · rw [e]
    rcases List.mem_append.1 (show x∈a.ends++shT a.states b.ends from hx)with q|q
    · have:=(ha.ends x q).1;omega
    obtain ⟨y,hy,rfl⟩:=List.mem_map.1 q;have:=(hb.ends y hy).1;dsimp only;omega
  have hl:=h.a x hx;rw [e];rcases List.mem_append.1 (show x∈a.arcs++shA a.states b.arcs from hx)with q|q
  · have:=ha.arcs x q
    exact ⟨by omega,by omega,this.2.2.1,hl⟩
  obtain ⟨y,hy,rfl⟩:=List.mem_map.1 q;have:=hb.arcs y hy;exact ⟨by dsimp only;omega,by dsimp only;omega,this.2.2.1,hl⟩
theorem alt16_eq{a b:Fst}(ha:FstOk a)(hb:FstOk b){r:Fst×Int}(h:GEnd (fAlt a b) r):F4_ a b=some r:=by
  have a0:=ha.st0;have a1:=ha.st1;have b0:=hb.st0;have b1:=hb.st1;have l1:=ha.startsN;have l2:=ha.endsN;have l3:=ha.arcsN;have l4:=hb.startsN;have l5:=hb.endsN;have l6:=hb.arcsN;have lT: ∀(n:Int) (l:List Tip),(shT n l).length=l.length:=λn l=>List.length_map ..;have lA: ∀(n:Int) (l:List Arc),(shA n l).length=l.length:=λn l=>List.length_map ..;unfold F4_;rw [Lm,gq,(yQ a).2 ha,Bool.not_true,iteO_false,Lm,gq,(yQ b).2 hb,Bool.not_true,iteO_false];rw [sh_ l4 (λx hx=>by have:=(hb.starts x hx).1;omega),gq];unfold Fq_ G2_;rw [aQ (by simp only [List.length_nil];omega),aQ (by simp only [gu,List.length_nil,lT];omega),gq];rw [sh_ l5 (λx hx=>by have:=(hb.ends x hx).1;omega),gq];rw [aQ (by simp only [List.length_nil];omega),aQ (by simp only [gu,List.length_nil,lT];omega),gq];rw [wq_ l6 (λx hx=>by have:=hb.arcs x hx;omega),gq];rw [aQ (by simp only [List.length_nil];omega),aQ (by simp only [gu,List.length_nil,lA];omega),gq,xY (by omega)];have:=end_of h (alt_fok ha hb);unfold fAlt at this;simp only [List.nil_append];rw [this,gq]
theorem le_succ{k n m:Nat}(h:m<=k * n+n):m<=(k+1) * n:=by rw [Nat.succ_mul];exact h
section
variable {t:Fst} {d:Dfa} (ht:FstOk t) (hd:jU d=true) (hN:t.states * ((d.next.length:Nat):Int)<=1024)
include ht hd hN
theorem rlim_b7 {i y z : Nat} (hi : i < t.arcs.length) (hy : y < d.next.length) (hz : z < d.next.length) {A : List Arc} (hA : A.length <= 100000000000) :
    aV (λq:B_1×Nat=>U1 t i d y z A q.1 q.2) (List.replicate 256 false,0)=some (.inl (A++(if yJ d ((y:Nat):Int) (nth t.arcs i aO).set ((z:Nat):Int)≠BSet.zero then [zArc d (nth t.arcs i aO) y ((z:Nat):Int)] else []),z+1)):=by
  obtain ⟨c,hc1,hcl,hn1,hn2,hfl,hrow⟩:=Hu hd;have hcm:=(DT d.cls 0 c hc1).2;have hx:=ht.arcs _ (jB hi aO);obtain ⟨x,hxe⟩: ∃x,nth t.arcs i aO=x:=⟨_,rfl⟩;rw [hxe]at hx ⊢;have r1:=Ba hx.1 (show 0<=((y:Nat):Int)/\((y:Nat):Int)<((d.next.length:Nat):Int) by omega);have r2:=Ba hx.2.1 (show 0<=((z:Nat):Int)/\((z:Nat):Int)<((d.next.length:Nat):Int) by omega);have r3:=Ba (n:=((d.next.length:Nat):Int)) (y:=0) hx.1 ⟨Int.le_refl _,by omega⟩;have r4:=Ba (n:=((d.next.length:Nat):Int)) (y:=0) hx.2.1 ⟨Int.le_refl _,by omega⟩;obtain ⟨r,e,rfl⟩:=fC (step:=λq:B_1×Nat=>U1 t i d y z A q.1 q.2) (λ(s:B_1) b=>(s,b)) 256 (λb s=>s.length=256/\ ∀k,k<b->nth s k false=(x.set.has k && decide (mM d ((y:Nat):Int) k=((z:Nat):Int)))) (λr=>r= .inl (A++(if yJ d ((y:Nat):Int) x.set ((z:Nat):Int)≠BSet.zero then [zArc d x y ((z:Nat):Int)] else []),z+1))
    (λb s hb hI=>by
      obtain ⟨s1,s2⟩:=hI;have hm:=hcm _ (VI (l:=d.cls) (i:=b) (by omega) 0);have hr:=(hrow y hy).1;have fin: ∀v:Bool,v=(x.set.has b && decide (mM d ((y:Nat):Int) b=((z:Nat):Int)))-> ∃s':B_1,D0_ b (s.set b v)=some (.inl (s',b+1))/\s'.length=256/\ ∀k,k<b+1->nth s' k false=(x.set.has k && decide (mM d ((y:Nat):Int) k=((z:Nat):Int))):=λv hv=>by
        refine ⟨s.set b v,rfl,by rw [eX];exact s1,λk hk=> ?_⟩;rw [nI]
        by_cases e:b=k
        · subst e;rw [if_pos ⟨rfl,by omega⟩];exact hv
        rw [if_neg (λq=>e q.1)];exact s2 k (by omega)
      left;show ∃s',U1 t i d y z A s b=_/\_;unfold U1;rw [bY (by omega),aQ hb,hxe];cases c1:x.set.has b with
      |true=>
        rw [iteO_true,aQ (by omega),aQ (by omega),aQ (by omega)];exact fin _ (by rw [c1,Bool.true_and];rfl)
      |false=>
        rw [iteO_false,aQ (by omega)];exact fin _ (by rw [c1,Bool.false_and]))
    (λs hI=>by
      obtain ⟨s1,s2⟩:=hI;refine ⟨_,?_,rfl⟩;have hs:(BSet.make λk=>nth s k false)=yJ d ((y:Nat):Int) x.set ((z:Nat):Int):=BSet.Pv λb hb=>s2 b hb;show U1 t i d y z A s 256=_;unfold U1 Dw_;rw [bK (by omega),aQ lq,hs,hxe]
      by_cases c:yJ d ((y:Nat):Int) x.set ((z:Nat):Int)≠BSet.zero
      · rw [bY c,if_pos c,aQ (by rw [dN];omega),xY (a:=x.frm * ((d.next.length:Nat):Int)) (by omega),xY (a:=x.to * ((d.next.length:Nat):Int)) (by omega),xY (by omega),xY (by omega)];rfl
      rw [bK c,if_neg c,List.append_nil];rfl)
    (s0:=List.replicate 256 false) ⟨lq,λk hk=>by cases hk⟩
  exact e
def Vg(d:Dfa)(x:Arc)(y k:Nat):List Arc:=((List.range k).filter λz=>decide (yJ d ((y:Nat):Int) x.set ((z:Nat):Int)≠BSet.zero)).map λz:Nat=>zArc d x y ((z:Nat):Int)
omit ht hd hN in
theorem u8_(d:Dfa)(x:Arc)(y k:Nat):Vg d x y (k+1)=Vg d x y k++(if yJ d ((y:Nat):Int) x.set ((k:Nat):Int)≠BSet.zero then [zArc d x y ((k:Nat):Int)] else []):=by
  unfold Vg;rw [List.range_succ,List.filter_append,List.map_append];congr 1
  by_cases h:yJ d ((y:Nat):Int) x.set ((k:Nat):Int)=BSet.zero
  · rw [if_neg (λq=>q h)];simp [List.filter_cons,h]
  rw [if_pos h];simp [List.filter_cons,h]
omit ht hd hN in
theorem r9_(d:Dfa)(x:Arc)(y k:Nat):(Vg d x y k).length<=k:=by
  unfold Vg;rw [List.length_map];have:=List.length_filter_le (λz:Nat=>decide (yJ d ((y:Nat):Int) x.set ((z:Nat):Int)≠BSet.zero)) (List.range k);rw [List.length_range]at this;exact this
omit ht hd hN in
theorem to_(d:Dfa)(x:Arc)(k:Nat):(zW d x k).length<=k * d.next.length:=by
  induction k with
  |zero=>simp [zW]
  |succ k ih=>
    rw [jb_,gu];have:(I9 d x k).length<=d.next.length:=r9_ d x k d.next.length;exact le_succ (by omega)
omit ht hd hN in
theorem limA_len(d:Dfa)(l:List Arc):(uf d l).length<=l.length * (d.next.length * d.next.length):=by
  induction l with
  |nil=>simp [uf]
  |cons x l ih=>
    have h1:=to_ d x d.next.length;have h2:uf d (x::l)=zW d x d.next.length++uf d l:=by unfold uf;rw [List.flatMap_cons]
    rw [h2,gu,List.length_cons];exact le_succ (by omega)
omit ht hd hN in
theorem zm_(d:Dfa)(l:List Tip):(yI d l).length<=l.length * d.next.length:=by
  induction l with
  |nil=>simp [yI]
  |cons x l ih=>
    have h1:(Zl d x).length<=d.next.length:=by
      unfold Zl;rw [List.length_map];have:=List.length_filter_le (λy:Nat=>nth d.fin y false) (List.range d.next.length);rw [List.length_range]at this;exact this
    have h2:yI d (x::l)=Zl d x++yI d l:=by unfold yI;rw [List.flatMap_cons]
    rw [h2,gu,List.length_cons];exact le_succ (by omega)
theorem rlim_b6{i y:Nat}(hi:i<t.arcs.length)(hy:y<d.next.length){A:List Arc}(hA:A.length<=50000000000):
    aV (λq:(List Arc)×Nat=>UY d t i y q.1 q.2) (A,0)=some (.inl (A++I9 d (nth t.arcs i aO) y,y+1)):=by
  obtain ⟨c, -, -, -,hn2, -⟩:=Hu hd;obtain ⟨r,e,rfl⟩:=fC (step:=λq:(List Arc)×Nat=>UY d t i y q.1 q.2) (λ(s:List Arc) k=>(s,k)) d.next.length (λk s=>s=A++Vg d (nth t.arcs i aO) y k) (λr=>r= .inl (A++I9 d (nth t.arcs i aO) y,y+1))
    (λk s hk hI=>by
      subst hI;refine .inl ⟨_,?_,rfl⟩;show UY d t i y _ k=_;unfold UY;have:=r9_ d (nth t.arcs i aO) y k;rw [bY (by omega),rlim_b7 ht hd hN hi hy hk (by rw [gu];omega),zQ,<-u8_])
    (λs hI=>by
      subst hI;refine ⟨_,?_,rfl⟩;show UY d t i y _ d.next.length=_;unfold UY;rw [bK (by omega)];rfl) (s0:=A) (by simp [Vg])
  exact e
theorem rlim_b4 (S E : List Tip) : aV (λq : (List Arc) × Nat => U3 t d S E q.1 q.2) ([], 0) = bnd (Ns ⟨t.states * ((d.next.length : Nat) : Int), S, E, uf d t.arcs⟩) λv => some (v.1, v.2) := by
  obtain ⟨c, -, -, -,hn2, -⟩:=Hu hd;have h0:=ht.st0;have hAn:=ht.arcsN;have p0:0<=t.states * ((d.next.length:Nat):Int):=Int.mul_nonneg h0 (Int.natCast_nonneg _);have hnn:d.next.length * d.next.length<=1048576:=Nat.mul_le_mul (show d.next.length<=1024 by omega) (show d.next.length<=1024 by omega);have hbig: ∀k,k<=16384->k * (d.next.length * d.next.length)<=17179869184:=λk hk=>Nat.mul_le_mul hk hnn;have hbig2: ∀k,k<=1024->k * d.next.length<=1048576:=λk hk=>Nat.mul_le_mul hk (show d.next.length<=1024 by omega);obtain ⟨v,hv⟩: ∃v,Ns ⟨t.states * ((d.next.length:Nat):Int),S,E,uf d t.arcs⟩=some v:=by
    unfold Ns;rw [Lm,gq];exact Zy (λ_=>M_ _) (λ_=>M_ _)
  rw [hv,gq];obtain ⟨r,e,rfl⟩:=fC (step:=λq:(List Arc)×Nat=>U3 t d S E q.1 q.2) (λ(s:List Arc) k=>(s,k)) t.arcs.length (λk s=>s=uf d (t.arcs.take k)) (λr=>r=(v.1,v.2))
    (λk s hk hI=>by
      subst hI;have hl:=limA_len d (t.arcs.take k);rw [List.length_take,Nat.min_eq_left (by omega)]at hl;have hl2:=hbig k (by omega);refine .inl ⟨uf d (t.arcs.take k)++zW d (nth t.arcs k aO) d.next.length,?_,by rw [n0_ d t.arcs hk]⟩;show U3 t d S E _ k=_;unfold U3;rw [bY (by omega)];obtain ⟨r,e,rfl⟩:=fC (step:=λq:(List Arc)×Nat=>YZ d t k q.1 q.2) (λ(s:List Arc) y=>(s,y)) d.next.length (λy s=>s=uf d (t.arcs.take k)++zW d (nth t.arcs k aO) y) (λr=>r= .inl (uf d (t.arcs.take k)++zW d (nth t.arcs k aO) d.next.length,k+1))
        (λy s hy hI=>by
          subst hI;have hl3:=to_ d (nth t.arcs k aO) y;have hl4:=hbig2 y (by omega);refine .inl ⟨_,?_,rfl⟩;show YZ d t k _ y=_;unfold YZ;rw [bY (by omega),rlim_b6 ht hd hN hk hy (by rw [gu];omega),zQ,<-jb_])
        (λs hI=>by
          subst hI;refine ⟨_,?_,rfl⟩;show YZ d t k _ d.next.length=_;unfold YZ;rw [bK (by omega)];rfl) (s0:=uf d (t.arcs.take k)) (by simp [zW])
      exact e)
    (λs hI=>by
      rw [List.take_length]at hI;subst hI;refine ⟨_,?_,rfl⟩;show U3 t d S E _ t.arcs.length=_;unfold U3;rw [bK (by omega),tJ (by omega) (by omega),hv];rfl) (s0:=[]) (by simp [uf])
  exact e
theorem rlim_go {r : Fst × Int} (h : GEnd (fLim t d) r) : YT t d = some r := by
  obtain ⟨c, -, -, -,hn2,hfl, -⟩:=Hu hd;have h0:=ht.st0;have hSn:=ht.startsN;have hEn:=ht.endsN;have p0:0<=t.states * ((d.next.length:Nat):Int):=Int.mul_nonneg h0 (Int.natCast_nonneg _);have hbig2: ∀k,k<=1024->k * d.next.length<=1048576:=λk hk=>Nat.mul_le_mul hk (show d.next.length<=1024 by omega);have hend:=end_of h (lim_ok ht hd);unfold YT;rw [Lm,gq,(yQ t).2 ht,Bool.not_true,iteO_false,lp_,gq,hd,Bool.not_true,iteO_false,tJ (by omega) (by omega),bK (by omega)];obtain ⟨r', e, rfl⟩ := fC (step := λq : (List Tip) × Nat => Zc t d q.1 q.2) (λ(s : List Tip) k => (s, k)) t.starts.length (λk s => s = GN d.next.length (t.starts.take k)) (λr' => r' = r)
    (λk s hk hI=>by
      subst hI;have hx:=ht.starts _ (jB hk bD);have r3:=Ba (n:=((d.next.length:Nat):Int)) (y:=0) hx.1 (ok0 hd);refine .inl ⟨_,?_,rfl⟩;show Zc t d _ k=_;unfold Zc;rw [bY (by omega),aQ (by unfold GN;simp only [List.length_map,List.length_take,dN];omega),xY (by omega),rl_ _ t.starts hk];rfl)
    (λs hI    => by
      rw [List.take_length]at hI;subst hI;refine ⟨r,?_,rfl⟩;show Zc t d _ t.starts.length=_;unfold Zc;rw [bK (by omega)];obtain ⟨r',e,rfl⟩:=fC (step:=λq:(List Tip)×Nat=>Y_ t d (GN d.next.length t.starts) q.1 q.2) (λ(s:List Tip) k=>(s,k)) t.ends.length (λk s=>s=yI d (t.ends.take k)) (λr'=>r'=r)
        (λk s hk hI=>by
          subst hI;have hx:=ht.ends _ (jB hk bD);obtain ⟨x,hxe⟩: ∃x,nth t.ends k bD=x:=⟨_,rfl⟩;rw [hxe]at hx;have hl:=zm_ d (t.ends.take k);rw [List.length_take,Nat.min_eq_left (by omega)]at hl;have hl2:=hbig2 k (by omega);have r3:=Ba (n:=((d.next.length:Nat):Int)) (y:=0) hx.1 (ok0 hd);refine .inl ⟨yI d (t.ends.take k)++Ei d x d.next.length,?_,by rw [si_ d t.ends hk,hxe]⟩;show Y_ t d _ _ k=_;unfold Y_;rw [bY (by omega)];obtain ⟨r,e,rfl⟩:=fC (step:=λq:(List Tip)×Nat=>Y0 d t k q.1 q.2) (λ(s:List Tip) y=>(s,y)) d.next.length (λy s=>s=yI d (t.ends.take k)++Ei d x y/\(Ei d x y).length<=y) (λr=>r= .inl (yI d (t.ends.take k)++Ei d x d.next.length,k+1))
            (λy s hy hI=>by
              obtain ⟨rfl,hly⟩:=hI;have r1:=Ba hx.1 (show 0<=((y:Nat):Int)/\((y:Nat):Int)<((d.next.length:Nat):Int) by omega);refine .inl ⟨yI d (t.ends.take k)++Ei d x (y+1),?_,rfl,?_⟩
              · show Y0 d t k _ y=_
                unfold Y0 Dv_;rw [bY (by omega),aQ (by omega),hxe,l5_];cases c:nth d.fin y false with
                |true=>rw [iteO_true,aQ (by simp only [gu,dN];omega),xY (a:=x.state * ((d.next.length:Nat):Int)) (by omega),xY (by omega),if_pos rfl,zQ];rfl
                |false=>rw [iteO_false,if_neg (by simp),List.append_nil];rfl
              rw [l5_,gu]
              split
              · rw [dN];omega
              rw [List.length_nil];omega)
            (λs hI=>by
              obtain ⟨rfl, -⟩:=hI;refine ⟨_,?_,rfl⟩;show Y0 d t k _ d.next.length=_;unfold Y0;rw [bK (by omega)];rfl) (s0:=yI d (t.ends.take k)) ⟨by simp [Ei],by simp [Ei]⟩
          exact e)
        (λs hI=>by
          rw [List.take_length]at hI;subst hI;refine ⟨r,?_,rfl⟩;show Y_ t d _ _ t.ends.length=_;unfold Y_;rw [bK (by omega),rlim_b4 ht hd hN];have hend':Ns ⟨t.states * ((d.next.length:Nat):Int),GN d.next.length t.starts,yI d t.ends,uf d t.arcs⟩=some r:=hend;rw [hend'];rfl) (s0:=[]) (by simp [yI])
      exact congrArg fin e) (s0:=[]) (by simp [GN])
  exact e
end
theorem lim_two{t:Fst}{d:Dfa}(ht:FstOk t)(hd:jU d=true): ∃r,H5_ t d=some r/\YT t d=some r/\(r.2=0->FstOk r.1):=by
  obtain ⟨r,e,hr⟩:=lim_go ht hd;have h0:=ht.st0;have h1:=ht.st1;obtain ⟨c, -, -, -,hn2, -⟩:=Hu hd;have p0:0<=t.states * ((d.next.length:Nat):Int):=Int.mul_nonneg h0 (Int.natCast_nonneg _);have p1:t.states * ((d.next.length:Nat):Int)<=1024 * ((d.next.length:Nat):Int):=Int.mul_le_mul_of_nonneg_right h1 (Int.natCast_nonneg _);have hok:r.2=0->FstOk r.1:=λq=>by
    rcases hr with ⟨rfl, -⟩|⟨rfl,h2,h3⟩
    · cases q
    exact lim_ok ht hd h2 h3
  refine ⟨r,e,?_,hok⟩
  by_cases hN:t.states * ((d.next.length:Nat):Int)<=1024
  · exact rlim_go ht hd hN hr
  unfold YT;rw [Lm,gq,(yQ t).2 ht,Bool.not_true,iteO_false,lp_,gq,hd,Bool.not_true,iteO_false,tJ (by omega) (by omega),bY (by omega)];rcases hr with ⟨rfl, -⟩|⟨rfl,h2,h3⟩
  · rfl
  exact absurd h3 hN
theorem yv_{a:Fst}(b:Fst)(hs:II a=some true): ∃r,Hy_ a b=some r/\Fc_ a b=some r:=by
  unfold Hy_ Fc_;rw [Un,gq,ZF,Lm,gq];cases ha:nR a with
  |false=>exact ⟨_,rfl,rfl⟩
  |true=>
  rw [Bool.not_true,iteO_false,iteO_false,Un,gq,ZF,Lm,gq];cases hb:nR b with
  |false=>exact ⟨_,rfl,rfl⟩
  |true=>
  have hA:=(yQ a).1 ha;have hB:=(yQ b).1 hb;obtain ⟨⟨d,e0⟩,e1,e2,h1, -⟩:=pc_ hs;obtain ⟨h2,h3⟩:=h1 ha;dsimp only at h2 h3;subst h2;rw [Bool.not_true,iteO_false,iteO_false,iy e1,iy e2,bK (by simp),bK (by simp),not_go h3,gq,rnot_go h3,gq];dsimp only;rw [bK (by simp)];obtain ⟨l,e3,e4,h4⟩:=lim_two hB (v5_ h3);rw [iy e3,iy e4]
  by_cases c:l.2≠0
  · rw [bY c,bY c];exact ⟨_,rfl,rfl⟩
  have hl:=h4 (by omega);obtain ⟨m,e5,h5⟩:=alt_go hA hl;rw [bK c,bK c,iy e5,iy (alt16_eq hA hl h5)];exact ⟨_,rfl,rfl⟩
theorem uz_(l:B_1):E3_ l l=some true:=by
  unfold E3_;rw [bK (by omega)];obtain ⟨r,e,rfl⟩:=fC (step:=λq:Nat=>YX l l q) (λ(_:Unit) k=>k) l.length (λ_ _=>True) (λr=>r=true) (λk s hk _=>by
    show (∃s',YX l l k=_/\_)\/_;unfold YX;rw [bY (by omega),aQ hk,bne_self_eq_false,iteO_false];exact .inl ⟨(),rfl,trivial⟩) (λs _=>by
    refine ⟨true,?_,rfl⟩;show YX l l l.length=_;unfold YX;rw [bK (by omega)];rfl) (s0:=()) trivial
  exact e
theorem u1_(d:Dfa):Ft_ d d=some true:=by
  unfold Ft_;rw [sy_,decide_eq_true rfl,gq,Bool.not_true,iteO_false,bK (by omega),uz_,gq,Bool.not_true,iteO_false];obtain ⟨r,e,rfl⟩:=fC (step:=λq:Nat=>Y8 d d q) (λ(_:Unit) k=>k) d.next.length (λ_ _=>True) (λr=>r=true) (λk s hk _=>by
    show (∃s',Y8 d d k=_/\_)\/_;unfold Y8;rw [bY (by omega),aQ hk,sy_,decide_eq_true rfl,gq,Bool.not_true,iteO_false];exact .inl ⟨(),rfl,trivial⟩) (λs _=>by
    refine ⟨true,?_,rfl⟩;show Y8 d d d.next.length=_;unfold Y8;rw [bK (by omega)];rfl) (s0:=()) trivial
  exact e
theorem q5_(a b:Fst):Ek_ a b=some true:=by
  unfold Ek_;obtain ⟨x,hx⟩:=lm_ a;obtain ⟨y,hy⟩:=lm_ b;rw [iy hx];cases x with
  |false=>rfl
  |true=>
  rw [Bool.not_true,iteO_false,iy hy];cases y with
  |false=>rfl
  |true=>
  obtain ⟨v,e1,e2, -⟩:=pc_ hx;obtain ⟨p,e3,e4⟩:=yv_ b hx;rw [Bool.not_true,iteO_false,w5_,gq,zj_,gq,iy e1,iy e2,iy e3,iy e4,awake18,gq,iteO_true,rq_,gq,iteO_true,bY rfl,u1_,gq,iteO_true,bY rfl,rq_,gq,iteO_true,decide_eq_true rfl]
end Go.Proofs.YtcfgkcfcddfccaaGreatDoor
end

noncomputable section
namespace Go.E
open Go Go.ChangeShapes Go.WideShapes
def laidB{H:Type}(l:List UInt8):DataW H:= .agg (l.map λb=> .lit (.int .u8 ((b.toNat:Nat):Int)))
theorem qs_{α:Type}(l:List α)(i:Nat):((l.drop (i * 1)).take 1)=(l[i]?).toList:=by
  rw [Nat.mul_one];cases h:l[i]? with
  |none=>rw [List.drop_of_length_le (by simpa using h)];rfl
  |some x=>
    obtain ⟨hi,rfl⟩:=List.getElem?_eq_some_iff.1 h;rw [List.drop_eq_getElem_cons hi];rfl
theorem laid_gt {P : Program} {W : World} {name : String} {g T E : Nat} {l : List UInt8} (h : laidMetH P [(name, laidB l)] W) (hg : P.globalNamed name = some g) (hT : (P.globals[g]?).map (·.type) = some T)
    (hu:P.underlying T=some (.array l.length E)) (hE:P.underlying E=some (.int .u8)) (hc:P.cellsOf E=1) (hcT:P.cellsOf T=l.length) (hl:0<l.length):GT (FK W) g qC l:=by
  rw [MakeChecks.laidMetH_plain _ _ _ (by simp [laidB,DataW.handleName?])]at h;obtain ⟨ps,⟨g0,t0,cs,fu,p,q,hg0,ht0,hv0,hd0,_,hps⟩,_,hok⟩:=h;obtain rfl:=Option.some.inj (hg.symm.trans hg0);obtain rfl:=Option.some.inj (hT.symm.trans ht0);obtain ⟨xs,m,rfl,hx,hlen,hn,hel⟩:=DataW.trod_array hu hd0;rw [hcT]at hlen;have hx1:xs.map (·.1)=l.map λb=>(.lit (.int .u8 ((b.toNat:Nat):Int)):DataW Unit):=by
    have:=congrArg Prod.fst hx;simp only [laidB,DataW.agg.injEq]at this;exact this.symm
  have hcs:cs.toList=l.flatMap qC:=by
    apply List.ext_getElem?;intro i
    by_cases hi:i<l.length
    · have h1:=hel i hi
      rw [hc,qs_]at h1;have hxi:i<xs.length:=by omega
      rw [List.getElem?_eq_getElem hxi]at h1;obtain ⟨k,e1,e2,_⟩:=DataW.trod_int hE h1;have h2:(xs.map (·.1))[i]? =some (.lit (.int .u8 k)):=by rw [List.getElem?_map,List.getElem?_eq_getElem hxi,e2];rfl
      rw [hx1,List.getElem?_map,List.getElem?_eq_getElem hi]at h2;simp only [Option.map_some,Option.some.injEq,DataW.lit.injEq,Lit.int.injEq,true_and]at h2;have h3:cs.toList[i]? =some (.int .u8 k):=by
        cases hz:cs.toList[i]? with
        |none=>rw [hz]at e1;cases e1
        |some z=>rw [hz]at e1;simp at e1;rw [e1]
      rw [h3,qt_ (enc:=qC) (λ_=>rfl) (0:UInt8) l i hi,<-h2];have h4:=getD_some l hi (0:UInt8);rw [List.getElem?_eq_getElem hi]at h4;rw [<-Option.some.inj h4];rfl
    rw [List.getElem?_eq_none (by omega),List.getElem?_eq_none (by rw [yP (size:=1) (λ_=>rfl)];omega)]
  have hmem:MemPlace.cell g 0∈ps:=by
    rw [hps];refine List.mem_append_left _ (List.mem_append_left _ ?_);simp only [MemPlace.row,List.mem_map,List.mem_range];exact ⟨0, by have : cs.size = l.length := (by rw [<- Array.length_toList, hlen]);omega,by simp⟩
  obtain ⟨⟨c,t,hb⟩,_⟩:=hok g 0 hmem;refine ⟨t,?_⟩;show W.heap[g]? =_;have hv:W.var? P name=some c:=by unfold World.var?;rw [hg];simp [hb]
  rw [hv0]at hv;rw [hb,<-Option.some.inj hv,<-hcs]
end Go.E
end
