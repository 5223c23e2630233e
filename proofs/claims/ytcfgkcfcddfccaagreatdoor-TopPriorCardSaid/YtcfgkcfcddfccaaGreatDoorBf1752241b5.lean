/- Parts of a proof, one behind the other: what a machine reaches, functions decompiled, plain lemmas. Conditions stand with each lemma. -/
import Derived.Test.YtcfgkcfcddfccaaGreatDoorB147a8df593
import Derived.Test.YtcfgkcfcddfccaaGreatDoorBb70fbe2253
import Derived.Test.YtcfgkcfcddfccaaGreatDoorB334a0c3166
import Derived.Test.YtcfgkcfcddfccaaGreatDoorB0186e8dc91
import Derived.Test.YtcfgkcfcddfccaaGreatDoorB0d7c76ab3f
import Derived.KernelRfl
import Derived.LaidMore
import Derived.OpenShut
import Derived.MakeChecks

set_option linter.unusedVariables false
set_option linter.unusedSimpArgs false
set_option linter.unusedSectionVars false
set_option maxRecDepth 100000
set_option maxHeartbeats 8000000
variable {aB ay aG dh bY dV iI uU Sr:Option Go.Addr}{kE aZ Si fG aA aH au dN bW iR dU c1_3 uO Rt:Nat}

noncomputable section
namespace Go.Proofs.YtcfgkcfcddfccaaGreatDoor
open Go Go.E Go.E.OpVal Go.E.OpOk Go.Proofs.Tryz
open List (replicate)
theorem pf135:plainF Tryz.prog 135=true:=by kernel_rfl
theorem pf136:plainF Tryz.prog 136=true:=by kernel_rfl
theorem pf137:plainF Tryz.prog 137=true:=by kernel_rfl
theorem pf183:plainF Tryz.prog 183=true:=by kernel_rfl
def Gc_(x0:Seq)(x1:Int)(x3:B_1)(x2:bC)(rH:T_1)(sJ:Bool)(aJ:Nat):Option ((T_1×Bool×Nat)⊕(T_1)):=
 iteO (decide ((aJ:Int)<((nth x0.next x1.toNat []).length:Int))) (iteO (decide ((nth (nth x0.next x1.toNat []) aJ 0)<0)) (nxt (rH,sJ,(aJ+1))) (grd (0<=(nth (nth x0.next x1.toNat []) aJ 0)/\(nth (nth x0.next x1.toNat []) aJ 0)<(x3.length:Int)) (iteO (!(nth x3 ((nth (nth x0.next x1.toNat []) aJ 0).toNat) false)) (nxt (rH,sJ,(aJ+1))) (grd (0<=x1/\x1<(x0.outs.length:Int)) (grd (aJ<(nth x0.outs x1.toNat []).length) (grd (0<=(nth (nth x0.next x1.toNat []) aJ 0)/\(nth (nth x0.next x1.toNat []) aJ 0)<(x2.length:Int)) (grd ((nth (nth x0.outs x1.toNat []) aJ []).length+(nth x2 ((nth (nth x0.next x1.toNat []) aJ 0).toNat) []).length<=9223372036854775807) (iteO sJ (bnd (H4_ [rH,((nth (nth x0.outs x1.toNat []) aJ [])++(nth x2 ((nth (nth x0.next x1.toNat []) aJ 0).toNat) []))]) (λv55=>nxt (v55,sJ,(aJ+1)))) (nxt (((nth (nth x0.outs x1.toNat []) aJ [])++(nth x2 ((nth (nth x0.next x1.toNat []) aJ 0).toNat) [])),true,(aJ+1))))))))))) (fin (some rH))
def G2_(x0:Seq)(x1:Int)(x2:bC)(x3:B_1):Option (T_1):=
 grd (0<=x1/\x1<(x0.tail.length:Int)) (grd (0<=x1/\x1<(x0.fin.length:Int)) (grd (0<=x1/\x1<(x0.next.length:Int)) (iter (λq:T_1×Bool×Nat=>Gc_ x0 x1 x3 x2 q.1 q.2.1 q.2.2) ((nth x0.tail x1.toNat []),(nth x0.fin x1.toNat false),0))))
theorem Mb_{σ:aj}{x0:Seq}{x1:Int}{x2:bC}{x3:B_1}(aC:RZ σ (aF 1 ak aT) (.slice aB x0.next.length aA) x0.next)(aV:RZ σ (aF 1 bF eu) (.slice ay x0.outs.length aH) x0.outs)(aS:dH σ dG aG au x0.fin)(dA:dH σ bF dh dN x0.tail)(xW:dH σ bF uU uO x2)(f3_0:dH σ dG Sr Rt x3){r:T_1}(hh:G2_ x0 x1 x2 x3=some r):
  Con prog 183 #[.agg (kN x0 aB aA ay aH aG au dh dN),.int .i64 x1,.slice uU x2.length uO,.slice Sr x3.length Rt] σ [] (jq (.string (bs r)) σ):=by
 dsimp only [G2_]at hh;refine cM 65 Tryz.func183 (λw0=> ?_);refine R2 ?_;refine TL.bx (λaP=> ?_);refine R3 ?_;obtain ⟨u6,hh⟩:=gd hh;obtain ⟨u11,hh⟩:=gd hh;refine TC.dw [] (ν 0 z fL z (χ 1 z lL z (ν 2 z mI z (χ 3 z iX z (χ 4 z l1 z (ν 5 z fL z (χ 6 z lL z (ν 7 z mI z (χ 8 z iX z (χ 9 z l1 z (ν 10 z (IJ (.inr z) z) z (ν 11 z mB z (R7 ?_)))))))))))));obtain ⟨TV,hh⟩:=gd hh;refine ι z iX ?_;obtain ⟨Bq,zB,NG⟩:=RZ.seg aC x1.toNat (by omega);replace zB:dH _ ak Bq.1 Bq.2 (nth x0.next x1.toNat []):=zB;have hk103b:=zB.rv.big;refine ι z (OpVal.of (qw z pV z NG z) (v':= .slice Bq.1 ((nth x0.next x1.toNat []).length) Bq.2) z) (R4 ?_);refine TC.lp hh () (rgs [(9,5),(30,34)]) (λ⟨rH,sJ,aJ⟩ _=>([(9,.string (bs rH)),(10,.bool sJ),(30,.int .i64 (aJ:Int))],[ω aP (kN x0 aB aA ay aH aG au dh dN) 56])) (θ 1 z) ?_;rintro ⟨rH,sJ,aJ⟩ _ _ z1 hh hR1;dsimp only [Gc_]at hh ⊢;refine R5 ?_;refine π z hh (λwB hh=> ?_) (λwB hh=> ?_)
 ·refine R17 ?_;refine δ 37 z (λjI=> ?_) (λjI=> ?_)
  ·obtain ⟨jI,hh⟩:=iT jI hh;refine R14 ?_;exact nxq hR1 hh () (θ 1 z)
  obtain ⟨jI,hh⟩:=iF jI hh;refine R2 ?_;obtain ⟨u33,hh⟩:=gd hh;refine R5 ?_;refine TC.cB z hh (λh116 hh=> ?_) (λh116 hh=> ?_)
  ·refine R6 ?_;exact nxq hR1 hh () (θ 1 z)
  refine R2 ?_;obtain ⟨u40,hh⟩:=gd hh;obtain ⟨PV,hh⟩:=gd hh;obtain ⟨PU,hh⟩:=gd hh;obtain ⟨u49,hh⟩:=gd hh;refine TC.dw [] (ν 0 z fL z (χ 1 z lL z (ν 2 z mI z (χ 3 z iX z ?_))));obtain ⟨Bl,zA,ND⟩:=RZ.seg aV x1.toNat (by omega);replace zA:dH _ bF Bl.1 Bl.2 (nth x0.outs x1.toNat []):=zA;have hk119b:=zA.rv.big;refine χ 4 z (OpVal.of (qw z KN z ND z) (v':= .slice Bl.1 ((nth x0.outs x1.toNat []).length) Bl.2) z) z (ν 5 z mI z (χ 6 z iN z (χ 7 z l1 z (ν 8 z mS z (ν 9 z mI z (χ 10 z iX z (χ 11 z l1 z (ν 12 z (cs_ z z z u49) z (ν 13 z (IJ (.inr z) z) z (R5 ?_))))))))));refine TC.cB z hh (λqX hh=> ?_) (λqX hh=> ?_)
  ·refine R3 ?_;refine φ z (jc (enc:=bF) [rH,((nth (nth x0.outs x1.toNat []) aJ [])++(nth x2 ((nth (nth x0.next x1.toNat []) aJ 0).toNat) []))] (λCZ CP=> ?_));obtain ⟨v55,u55,hh⟩:=bg hh;refine φ z (OQ (Con.lend eu (λ_ FN VF=>Lk_ VF u55)) z z Uo z z z z ?_);refine R6 ?_;exact nxq hR1 hh () (ψ [1] 1)
  refine R9 ?_;exact nxq hR1 hh () (θ 1 z)
 refine R1 ?_;replace hh:=bJ hR1 hh;refine R6 ?_;refine Ψ 0 ?_;obtain rfl:=so hh;exact rq [8] ⟨z,z,z⟩
def H0_(x0:Seq)(dB:Nat)(dD:aO)(dX:Nat):Option ((aO×Nat)⊕((aO×Nat)⊕(bC×B_1))):=
 iteO (decide ((dX:Int)<((nth x0.next dB []).length:Int))) (iteO (decide (0<=(nth (nth x0.next dB []) dX 0))) (grd (0<=(nth (nth x0.next dB []) dX 0)/\(nth (nth x0.next dB []) dX 0)<(dD.length:Int)) (iteO (decide (((nth dD ((nth (nth x0.next dB []) dX 0).toNat) []).length:Int)=0)) (grd (0<=(nth (nth x0.next dB []) dX 0)/\(nth (nth x0.next dB []) dX 0)<(dD.length:Int)) (grd (((nth dD ((nth (nth x0.next dB []) dX 0).toNat) []).length+[(dB:Int)].length) * 8<=140737488355328) (grd (0<=(nth (nth x0.next dB []) dX 0)/\(nth (nth x0.next dB []) dX 0)<(dD.length:Int)) (nxt ((dD.set ((nth (nth x0.next dB []) dX 0).toNat) ((nth dD ((nth (nth x0.next dB []) dX 0).toNat) [])++[(dB:Int)])),(dX+1)))))) (grd (0<=(nth (nth x0.next dB []) dX 0)/\(nth (nth x0.next dB []) dX 0)<(dD.length:Int)) (grd (0<=(nth (nth x0.next dB []) dX 0)/\(nth (nth x0.next dB []) dX 0)<(dD.length:Int)) (grd (0<=(IntKind.i64.wrap (((nth dD ((nth (nth x0.next dB []) dX 0).toNat) []).length:Int) - 1))/\(IntKind.i64.wrap (((nth dD ((nth (nth x0.next dB []) dX 0).toNat) []).length:Int) - 1))<((nth dD ((nth (nth x0.next dB []) dX 0).toNat) []).length:Int)) (iteO (decide ((nth (nth dD ((nth (nth x0.next dB []) dX 0).toNat) []) ((IntKind.i64.wrap (((nth dD ((nth (nth x0.next dB []) dX 0).toNat) []).length:Int) - 1)).toNat) 0)≠(dB:Int))) (grd (0<=(nth (nth x0.next dB []) dX 0)/\(nth (nth x0.next dB []) dX 0)<(dD.length:Int)) (grd (((nth dD ((nth (nth x0.next dB []) dX 0).toNat) []).length+[(dB:Int)].length) * 8<=140737488355328) (grd (0<=(nth (nth x0.next dB []) dX 0)/\(nth (nth x0.next dB []) dX 0)<(dD.length:Int)) (nxt ((dD.set ((nth (nth x0.next dB []) dX 0).toNat) ((nth dD ((nth (nth x0.next dB []) dX 0).toNat) [])++[(dB:Int)])),(dX+1)))))) (nxt (dD,(dX+1))))))))) (nxt (dD,(dX+1)))) (fin (nxt (dD,(dB+1))))
def Hx_(bH:aO)(bI:ah)(eF:bC)(nK:T_1)(gJ:B_1)(Bv:ah)(xI:B_1)(pY:Nat):Option ((ah×B_1×Nat)⊕((bC×B_1×ah×B_1)⊕(bC×B_1))):=
 iteO (decide ((pY:Int)<((nth bH ((nth bI 0 0).toNat) []).length:Int))) (grd (0<=(nth (nth bH ((nth bI 0 0).toNat) []) pY 0)/\(nth (nth bH ((nth bI 0 0).toNat) []) pY 0)<(xI.length:Int)) (iteO (!(nth xI ((nth (nth bH ((nth bI 0 0).toNat) []) pY 0).toNat) false)) (grd ((Bv.length+[(nth (nth bH ((nth bI 0 0).toNat) []) pY 0)].length) * 8<=140737488355328) (grd (0<=(nth (nth bH ((nth bI 0 0).toNat) []) pY 0)/\(nth (nth bH ((nth bI 0 0).toNat) []) pY 0)<(xI.length:Int)) (grd (pY+1<=9223372036854775807) (nxt ((Bv++[(nth (nth bH ((nth bI 0 0).toNat) []) pY 0)]),(xI.set ((nth (nth bH ((nth bI 0 0).toNat) []) pY 0).toNat) true),(pY+1)))))) (grd (pY+1<=9223372036854775807) (nxt (Bv,xI,(pY+1)))))) (fin (nxt ((eF.set ((nth bI 0 0).toNat) nK),(gJ.set ((nth bI 0 0).toNat) true),Bv,xI)))
def Cj_(bI:ah)(eF:bC)(gJ:B_1)(bH:aO)(nK:T_1)(kC:B_1):Option ((bC×B_1×ah×B_1)⊕(bC×B_1)):=
 grd (0<=(nth bI 0 0)/\(nth bI 0 0)<(eF.length:Int)) (grd (0<=(nth bI 0 0)/\(nth bI 0 0)<(gJ.length:Int)) (grd (0<=(nth bI 0 0)/\(nth bI 0 0)<(bH.length:Int)) (iter (λq:ah×B_1×Nat=>Hx_ bH bI eF nK gJ q.1 q.2.1 q.2.2) ((bI.drop 1),(kC.set ((nth bI 0 0).toNat) false),0))))
def Fe_(x0:Seq)(bH:aO)(eF:bC)(gJ:B_1)(bI:ah)(kC:B_1):Option ((bC×B_1×ah×B_1)⊕(bC×B_1)):=
 iteO (decide (0<(bI.length:Int))) (grd (0<bI.length/\1<=bI.length) (grd (0<=(nth bI 0 0)/\(nth bI 0 0)<(kC.length:Int)) (bnd (G2_ x0 (nth bI 0 0) eF gJ) (λnK=>grd (0<=(nth bI 0 0)/\(nth bI 0 0)<(gJ.length:Int)) (iteO (nth gJ ((nth bI 0 0).toNat) false) (grd (0<=(nth bI 0 0)/\(nth bI 0 0)<(eF.length:Int)) (iteO (decide (nK=(nth eF ((nth bI 0 0).toNat) []))) (nxt (eF,gJ,(bI.drop 1),(kC.set ((nth bI 0 0).toNat) false))) (Cj_ bI eF gJ bH nK kC))) (Cj_ bI eF gJ bH nK kC)))))) (fin (some (eF,gJ)))
def Fa_(x0:Seq)(bH:aO)(rO:ah)(pX:B_1)(lM:Nat):Option ((ah×B_1×Nat)⊕(bC×B_1)):=
 iteO (decide ((lM:Int)<(x0.fin.length:Int))) (iteO (nth x0.fin lM false) (grd ((rO.length+[(lM:Int)].length) * 8<=140737488355328) (grd (lM<pX.length) (nxt ((rO++[(lM:Int)]),(pX.set lM true),(lM+1))))) (nxt (rO,pX,(lM+1)))) (fin (iter (λq:bC×B_1×ah×B_1=>Fe_ x0 bH q.1 q.2.1 q.2.2.1 q.2.2.2) ((replicate x0.next.length ([]:T_1)),(replicate x0.next.length false),rO,pX)))
def Dv_(x0:Seq)(bH:aO):Option (bC×B_1):=
 iter (λq:ah×B_1×Nat=>Fa_ x0 bH q.1 q.2.1 q.2.2) (([]:ah),(replicate x0.next.length false),0)
def Dq_(x0:Seq)(bH:aO):Option (bC×B_1):=
 grd (1 * x0.next.length<=281474976710656) (Dv_ x0 bH)
def Fd_(x0:Seq)(bH:aO)(dB:Nat):Option ((aO×Nat)⊕(bC×B_1)):=
 iteO (decide ((dB:Int)<(x0.next.length:Int))) (iter (λq:aO×Nat=>H0_ x0 dB q.1 q.2) (bH,0)) (fin (grd (16 * x0.next.length<=281474976710656) (grd (1 * x0.next.length<=281474976710656) (Dq_ x0 bH))))
def Fu_(x0:Seq):Option (bC×B_1):=
 grd (24 * x0.next.length<=281474976710656) (iter (λq:aO×Nat=>Fd_ x0 q.1 q.2) ((replicate x0.next.length ([]:ah)),0))
def Mm_(σ:aj)(r:bC×B_1):Value->aj->List Res->Prop:=λv σ' H'=>
 ∃a1 c1 a2 c2,v= .tuple #[.slice a1 r.1.length c1,.slice a2 r.2.length c2]/\dH σ' bF a1 c1 r.1/\dH σ' dG a2 c2 r.2/\H'=[]
theorem Lz_{σ:aj}{x0:Seq}(aC:RZ σ (aF 1 ak aT) (.slice aB x0.next.length aA) x0.next)(aV:RZ σ (aF 1 bF eu) (.slice ay x0.outs.length aH) x0.outs)(aS:dH σ dG aG au x0.fin)(dA:dH σ bF dh dN x0.tail){r:bC×B_1}(hh:Fu_ x0=some r):
  Con prog 135 #[.agg (kN x0 aB aA ay aH aG au dh dN)] σ [] (Mm_ σ r):=by
 dsimp only [Fu_]at hh;have f0_0b:=aC.big;have f0_1b:=aV.big;have f0_2b:=aS.rv.big;refine cM 160 Tryz.func135 (λw0=> ?_);refine R2 ?_;refine TL.bx (λaP=> ?_);refine R13 ?_;obtain ⟨u9,hh⟩:=gd hh;refine φ z (nP (E:=3) (size:=1) (enc:=ak) z jZ jy mG ku z z z z (by omega) (by decide) z (λjC jA zf105=> ?_));refine R11 ?_;refine TC.lk hh (replicate x0.next.length (qo:NP Int)) (rgs [(6,2),(9,1),(28,49)]) (λ⟨_,dB⟩ qB=>([(28,.int .i64 (dB:Int))],[ω aP (kN x0 aB aA ay aH aG au dh dN) 56,Res.nest 31 3 1 ak (.slice jC (replicate x0.next.length ([]:ah)).length jA) qB])) (λ⟨bH,_⟩ qB=>bH.length=(replicate x0.next.length ([]:ah)).length/\Zn qB bH) ⟨z,zf105⟩ (ψ [1] 2) ?_;rintro ⟨bH,dB⟩ qB _ z1 hh hR1 ⟨Ih,mQ⟩;dsimp only [Fd_]at hh Ih mQ ⊢;have zf121b:=mQ.len;refine TC.know (rG (q:=1) z mQ) (λ⟨_,hb123⟩=> ?_);refine R5 ?_;refine π z hh (λwz hh=> ?_) (λwz hh=> ?_)
 ·refine R7 ?_;obtain ⟨QL,Nr,hg125⟩:=RZ.seg aC dB (by omega);replace Nr:dH _ ak QL.1 QL.2 (nth x0.next dB []):=Nr;have hk125b:=Nr.rv.big;refine ι z (OpVal.of (qw z pV z hg125 z) (v':= .slice QL.1 ((nth x0.next dB []).length) QL.2) z) (R10 ?_);refine TC.lk hh qB (rgs [(9,1),(35,41)]) (λ⟨_,dX⟩ Bf=>([(35,.int .i64 (dX:Int))],[ω aP (kN x0 aB aA ay aH aG au dh dN) 56,Res.nest 31 3 1 ak (.slice jC (replicate x0.next.length ([]:ah)).length jA) Bf])) (λ⟨dD,_⟩ Bf=>dD.length=(replicate x0.next.length ([]:ah)).length/\Zn Bf dD) ⟨Ih,mQ⟩ (ψ [1,1] 2) ?_;rintro ⟨dD,dX⟩ Bf _ z2 hh hR2 ⟨sF,gy⟩;dsimp only [H0_]at hh sF gy ⊢;have zf141b:=gy.len;refine TC.know (rG (q:=1) z gy) (λ⟨_,NV⟩=> ?_);refine R5 ?_;refine π z hh (λZA hh=> ?_) (λZA hh=> ?_)
  ·refine R10 ?_;refine TC.dw [] (ν 0 z mI z (ν 1 z (OpVal.geq z z z) z (ν 2 z mB z (TA.split 41 z (λOh=> ?_) (λOh=> ?_)))))
   ·obtain ⟨Oh,hh⟩:=iT Oh hh;refine TA.oN 3 z z mS (TA.oN 4 z z mI ?_);obtain ⟨u33,hh⟩:=gd hh;refine TA.know (rG (q:=1) z gy) (λ⟨hs146,hs146b⟩=> ?_);refine TA.oN 5 z z iX ?_;obtain ⟨p147,hz147,hm147⟩:=Zn.at gy (i:=(nth (nth x0.next dB []) dX 0).toNat) (by omega);refine TA.oN 6 z z (EM z pV z (q:=1) z hz147 hm147) (TA.oN 7 z z lC (TA.oN 8 z z (OpVal.eql z z z) (TA.oN 9 z z mB (TA.split 48 z (λFQ=> ?_) (λFQ=> ?_)))))
    ·obtain ⟨FQ,hh⟩:=iT FQ hh;refine TA.of 10 z z (TA.of 11 z z (TA.of 12 z z (TA.of 13 z z (TA.of 14 z z (TA.of 15 z z (TA.of 16 z z (TA.of 17 z z (TA.of 18 z z (TA.of 19 z z (TA.of 20 z z (TA.of 21 z z (TA.of 22 z z (TA.of 23 z z (TA.oN 24 z z (Gj z z z) (ν 25 z (Gj z z z) z ?_)))))))))))))));refine R7 ?_;obtain ⟨u58,hh⟩:=gd hh;refine TL.know (rG (q:=1) z gy) (λ⟨LQ,hs149b⟩=> ?_);refine ι z iX ?_;obtain ⟨zW,Vd,Wh⟩:=Zn.at gy (i:=(nth (nth x0.next dB []) dX 0).toNat) (by omega);refine ι z (EM z pV z (q:=1) z Vd Wh) (TL.i z z (φ z (jc (enc:=ak) [(dB:Int)] (λJs c152=> ?_))));refine κ 2 (TL.by (λw h=>Reach.takeN Vd Wh h) ?_);obtain ⟨TU,hh⟩:=gd hh;refine φ z (apF (.inr ⟨_,1,z⟩) TU (λGn c156=> ?_));obtain ⟨u63,hh⟩:=gd hh;refine TL.know (JI (q:=1) z gy) (λ⟨hs157,hs157b⟩=> ?_);refine ι z iX (κ 1 (κ 1 ?_));have MH:(dD.set ((nth (nth x0.next dB []) dX 0).toNat) ((nth dD ((nth (nth x0.next dB []) dX 0).toNat) [])++[(dB:Int)])).length=(replicate x0.next.length ([]:ah)).length:=(fV ..).trans sF;refine φ rfl (JM (l':=((nth dD ((nth (nth x0.next dB []) dX 0).toNat) [])++[(dB:Int)])) rfl jy rfl rfl rfl rfl rfl (by rw [gy.len];omega) gy (λuw=> ?_));refine R5 ?_;exact nk hR2 hh (Bf.set ((nth (nth x0.next dB []) dX 0).toNat) (((nth dD ((nth (nth x0.next dB []) dX 0).toNat) [])++[(dB:Int)]),(Gn,c156))) (ψ [2] 2) ⟨MH,uw⟩
    obtain ⟨FQ,hh⟩:=iF FQ hh;refine TA.oN 10 z z mS (TA.oN 11 z z mI ?_);obtain ⟨u40,hh⟩:=gd hh;refine TA.know (rG (q:=1) z gy) (λ⟨hs161,hs161b⟩=> ?_);refine TA.oN 12 z z iX ?_;obtain ⟨Ld,LM,MP⟩:=Zn.at gy (i:=(nth (nth x0.next dB []) dX 0).toNat) (by omega);refine TA.oN 13 z z (EM z pV z (q:=1) z LM MP) (TA.oN 14 z z mS (TA.oN 15 z z mI ?_));obtain ⟨u44,hh⟩:=gd hh;refine TA.know (rG (q:=1) z gy) (λ⟨hs163,hs163b⟩=> ?_);refine TA.oN 16 z z iX ?_;obtain ⟨p164,hz164,hm164⟩:=Zn.at gy (i:=(nth (nth x0.next dB []) dX 0).toNat) (by omega);refine TA.oN 17 z z (EM z pV z (q:=1) z hz164 hm164) (TA.oN 18 z z lC (TA.oN 19 z z (subW z z z) ?_));obtain ⟨u48,hh⟩:=gd hh;refine TA.know (pt_ (q:=1) z LM MP) (λ⟨hs165,hs165b⟩=> ?_);refine TA.oN 20 z z iX (TA.oN 21 z z (OpVal.seen (l5_ (q:=1) z LM MP) o1) (TA.oN 22 z z mI (TA.oN 23 z z (OpVal.neq z z z) (TA.oN 24 z z (Jo z z z) (ν 25 z (Gj z z z) z (R1 ?_))))));refine π z hh (λh166 hh=> ?_) (λh166 hh=> ?_)
    ·refine R5 ?_;obtain ⟨u58,hh⟩:=gd hh;refine TL.know (rG (q:=1) z gy) (λ⟨hs167,hs167b⟩=> ?_);refine ι z iX ?_;obtain ⟨p168,U_,V8⟩:=Zn.at gy (i:=(nth (nth x0.next dB []) dX 0).toNat) (by omega);refine ι z (EM z pV z (q:=1) z U_ V8) (TL.i z z (φ z (jc (enc:=ak) [(dB:Int)] (λJr Jd=> ?_))));refine κ 2 (TL.by (λw h=>Reach.takeN U_ V8 h) ?_);obtain ⟨TU,hh⟩:=gd hh;refine φ z (apF (.inr ⟨_,1,z⟩) TU (λa173 c174=> ?_));obtain ⟨u63,hh⟩:=gd hh;refine TL.know (JI (q:=1) z gy) (λ⟨hs175,hs175b⟩=> ?_);refine ι z iX (κ 1 (κ 1 ?_));have MG:(dD.set ((nth (nth x0.next dB []) dX 0).toNat) ((nth dD ((nth (nth x0.next dB []) dX 0).toNat) [])++[(dB:Int)])).length=(replicate x0.next.length ([]:ah)).length:=(fV ..).trans sF;refine φ rfl (JM (l':=((nth dD ((nth (nth x0.next dB []) dX 0).toNat) [])++[(dB:Int)])) rfl jy rfl rfl rfl rfl rfl (by rw [gy.len];omega) gy (λzf176=> ?_));refine R5 ?_;exact nk hR2 hh (Bf.set ((nth (nth x0.next dB []) dX 0).toNat) (((nth dD ((nth (nth x0.next dB []) dX 0).toNat) [])++[(dB:Int)]),(a173,c174))) (ψ [2] 2) ⟨MG,zf176⟩
    refine R5 ?_;exact nk hR2 hh Bf (ψ [1,1] 2) ⟨sF,gy⟩
   obtain ⟨Oh,hh⟩:=iF Oh hh;refine TA.of 3 z z (TA.of 4 z z (TA.of 5 z z (TA.of 6 z z (TA.of 7 z z (TA.of 8 z z (TA.of 9 z z (TA.IK 10 z (by kernel_rfl) (by kernel_rfl) (by kernel_rfl) (by kernel_rfl) z z z z z z z (TA.IK 11 z (by kernel_rfl) (by kernel_rfl) (by kernel_rfl) (by kernel_rfl) z z z z z z z (TA.IK 12 z (by kernel_rfl) (by kernel_rfl) (by kernel_rfl) (by kernel_rfl) z z z z z z z (TA.IK 13 z (by kernel_rfl) (by kernel_rfl) (by kernel_rfl) (by kernel_rfl) z z z z z z z (TA.IK 14 z (by kernel_rfl) (by kernel_rfl) (by kernel_rfl) (by kernel_rfl) z z z z z z z (TA.IK 15 z (by kernel_rfl) (by kernel_rfl) (by kernel_rfl) (by kernel_rfl) z z z z z z z (TA.IK 16 z (by kernel_rfl) (by kernel_rfl) (by kernel_rfl) (by kernel_rfl) z z z z z z z (TA.IK 17 z (by kernel_rfl) (by kernel_rfl) (by kernel_rfl) (by kernel_rfl) z z z z z z z (TA.IK 18 z (by kernel_rfl) (by kernel_rfl) (by kernel_rfl) (by kernel_rfl) z z z z z z z ?_)))))))))))))));refine TA.IK 19 z (by kernel_rfl) (by kernel_rfl) (by kernel_rfl) (by kernel_rfl) z z z z z z z (TA.IK 20 z (by kernel_rfl) (by kernel_rfl) (by kernel_rfl) (by kernel_rfl) z z z z z z z (TA.IK 21 z (by kernel_rfl) (by kernel_rfl) (by kernel_rfl) (by kernel_rfl) z z z z z z z (TA.IK 22 z (by kernel_rfl) (by kernel_rfl) (by kernel_rfl) (by kernel_rfl) z z z z z z z (TA.IK 23 z (by kernel_rfl) (by kernel_rfl) (by kernel_rfl) (by kernel_rfl) z z z z z z z (TA.of 24 z z (ν 25 z (Jo z z z) z (R7 ?_)))))));exact nk hR2 hh Bf (ψ [1,1] 2) ⟨sF,gy⟩
  refine R1 ?_;replace hh:=bJ hR2 hh;refine R5 ?_;exact nk hR1 hh Bf (ψ [1,1] 2) ⟨sF,gy⟩
 refine R1 ?_;replace hh:=bJ hR1 hh;refine R1 ?_;refine TC.cutG (α:=(Unit)×((Option Addr)×Nat×(Option Addr)×Nat)) [10,11,77,78,79,80] (λg=>[(10,.slice g.2.1 ((replicate x0.next.length ([]:T_1)).length) g.2.2.1),(11,.slice g.2.2.2.1 ((replicate x0.next.length false).length) g.2.2.2.2)]) (λg=>[ω aP (kN x0 aB aA ay aH aG au dh dN) 56,Res.nest 31 3 1 ak (.slice jC (replicate x0.next.length ([]:ah)).length jA) qB,ε 9 1 bF (.slice g.2.1 (replicate x0.next.length ([]:T_1)).length g.2.2.1) (replicate x0.next.length ([]:T_1)),ε 4 1 dG (.slice g.2.2.2.1 (replicate x0.next.length false).length g.2.2.2.2) (replicate x0.next.length false)]) (λg=>σ) (λg=>Dq_ x0 bH=some r/\bH.length=(replicate x0.next.length ([]:ah)).length/\Zn qB bH) ?_ (λg j hg=> ?_)
 ·obtain ⟨u70,hh⟩:=gd hh;obtain ⟨u72,hh⟩:=gd hh;refine TC.dw [] (ν 0 z mI z (ν 2 z mI z (TA.aN [1,3] (an z z (mk2 (enc:=bF) ([]:T_1) (λa196 c197=>(k1 ?_))) (an z z (mk2 (enc:=dG) false (λa199 c200=>(k1 ?_))) (True.intro))))))
  ·refine ν 4 z mS z (υ 3 z (mk2 (enc:=dG) false (λa202 c203=>(k2 ?_))));refine ν 5 z mS z (R1 ?_);exact cf ((),(a196,c197,a202,c203)) ⟨hh,Ih,mQ⟩ (ψ [1,3,3] 4)
  refine υ 1 z (mk2 (enc:=bF) ([]:T_1) (λa205 c206=>(k2 ?_)));refine ν 4 z mS z (ν 5 z mS z (R1 ?_));exact cf ((),(a205,c206,a199,c200)) ⟨hh,Ih,mQ⟩ (ψ [1,1,3,3] 4)
 obtain ⟨_,⟨uj,ug,rW,rU⟩⟩:=g;obtain ⟨hh,MF,yC⟩:=hg
 try dsimp only at MF yC ⊢
 dsimp only [Dq_]at hh;have zf183b:=yC.len;refine TC.know (rG (q:=1) z yC) (λ⟨_,WR⟩=> ?_);refine ζ 2 z (λNQ=> ?_);refine ζ 3 z (λNM=> ?_);refine TC.cutG (α:=(Unit)×((Option Addr)×Nat×(Option Addr)×Nat)) [12,13,81,82,83] (λg=>[(12,.slice g.2.1 (([]:ah).length) g.2.2.1),(13,.slice g.2.2.2.1 ((replicate x0.next.length false).length) g.2.2.2.2)]) (λg=>[ω aP (kN x0 aB aA ay aH aG au dh dN) 56,Res.nest 31 3 1 ak (.slice jC (replicate x0.next.length ([]:ah)).length jA) qB,dO 9 bF uj ug (replicate x0.next.length ([]:T_1)),dO 4 dG rW rU (replicate x0.next.length false),ε 3 1 ak (.slice g.2.1 ([]:ah).length g.2.2.1) ([]:ah),ε 4 1 dG (.slice g.2.2.2.1 (replicate x0.next.length false).length g.2.2.2.2) (replicate x0.next.length false)]) (λg=>σ) (λg=>Dv_ x0 bH=some r/\bH.length=(replicate x0.next.length ([]:ah)).length/\Zn qB bH) ?_ (λg j hg=> ?_)
 ·obtain ⟨u77,hh⟩:=gd hh;refine TC.dw [] (ν 1 z mI z (TA.aN [0,2] (an z z (Ll (enc:=ak) z z sU oq z z (λSK c226=>(k1 ?_))) (an z z (mk2 (enc:=dG) false (λa228 c229=>(k1 ?_))) (True.intro)))))
  ·refine ν 3 z mS z (υ 2 z (mk2 (enc:=dG) false (λa231 c232=>(k2 ?_))));refine ν 4 z mS z (R1 ?_);exact cf ((),(SK,c226,a231,c232)) ⟨hh,MF,yC⟩ (ψ [1,5,5,5,5] 6)
  refine υ 0 z (Ll (enc:=ak) z z sU oq z z (λa234 c235=>(k2 ?_)));refine ν 3 z mS z (ν 4 z mS z (R1 ?_));exact cf ((),(a234,c235,a228,c229)) ⟨hh,MF,yC⟩ (ψ [1,1,5,5,5,5] 6)
 obtain ⟨_,⟨a214,ZU,wH,c218⟩⟩:=g;obtain ⟨hh,Ea,Gv⟩:=hg
 try dsimp only at Ea Gv ⊢
 dsimp only [Dv_]at hh;have zf212b:=Gv.len;refine TC.know (rG (q:=1) z Gv) (λ⟨_,WH⟩=> ?_);refine ζ 2 z (λWG=> ?_);refine ζ 3 z (λWE=> ?_);refine ζ 4 z (λhb240=> ?_);refine ζ 5 z (λhb241=> ?_);refine R9 ?_;refine TC.lk hh (a214,ZU) (rgs [(12,1),(14,2),(87,14)]) (λ⟨rO,pX,lM⟩ ⟨Pg,OE⟩=>([(12,.slice Pg rO.length OE),(87,.int .i64 (lM:Int))],[ω aP (kN x0 aB aA ay aH aG au dh dN) 56,Res.nest 31 3 1 ak (.slice jC (replicate x0.next.length ([]:ah)).length jA) qB,dO 9 bF uj ug (replicate x0.next.length ([]:T_1)),dO 4 dG rW rU (replicate x0.next.length false),dO 3 ak Pg OE rO,ε 4 1 dG (.slice wH (replicate x0.next.length false).length c218) pX])) (λ⟨_,pX,_⟩ ⟨_,_⟩=>bH.length=(replicate x0.next.length ([]:ah)).length/\Zn qB bH/\pX.length=(replicate x0.next.length false).length) ⟨Ea,Gv,z⟩ (ψ [5,5,5,5,5,5] 6) ?_;rintro ⟨rO,pX,lM⟩ ⟨Pg,OE⟩ _ z1 hh hR1 ⟨Hz,AB,yZ⟩;dsimp only [Fa_]at hh Hz AB yZ ⊢;have zf261b:=AB.len;refine TC.know (rG (q:=1) z AB) (λ⟨_,hb268⟩=> ?_);refine ζ 2 z (λhb269=> ?_);refine ζ 3 z (λhb270=> ?_);refine ζ 4 z (λhb271=> ?_);refine ζ 5 z (λhb272=> ?_);refine R5 ?_;refine π z hh (λh273 hh=> ?_) (λh273 hh=> ?_)
 ·refine R15 ?_;refine TC.cB z hh (λh274 hh=> ?_) (λh274 hh=> ?_)
  ·refine R5 ?_;refine φ z (jc (enc:=ak) [(lM:Int)] (λa275 c276=> ?_));refine κ 5 ?_;obtain ⟨u96,hh⟩:=gd hh;refine φ z (apF (.inr ⟨_,0,z⟩) u96 (λuV uP=> ?_));refine TL.s z z ?_;obtain ⟨u98,hh⟩:=gd hh;refine TL.iS 6 z (λhs280=> ?_);refine ι z iN (κ 6 ?_);have hn281:(pX.set lM true).length=(replicate x0.next.length false).length:=by rw [fV];exact yZ
   refine φ z (sS true ?_);refine R5 ?_;exact nk hR1 hh (uV,uP) (ψ [1,6,6,6,6] 6) ⟨Hz,AB,hn281⟩
  refine R5 ?_;exact nk hR1 hh (Pg,OE) (ψ [5,5,5,5,5,5] 6) ⟨Hz,AB,yZ⟩
 refine R1 ?_;replace hh:=bJ hR1 hh;refine R3 ?_;refine TC.fr 4 (TC.dm_ (TC.lk hh (Pg,OE) (rgs [(12,1),(16,2),(19,1),(101,57)]) (λ⟨eF,gJ,bI,kC⟩ ⟨a316,ZQ⟩=>([(12,.slice a316 bI.length ZQ)],[ω aP (kN x0 aB aA ay aH aG au dh dN) 56,Res.nest 31 3 1 ak (.slice jC (replicate x0.next.length ([]:ah)).length jA) qB,ε 9 1 bF (.slice uj (replicate x0.next.length ([]:T_1)).length ug) eF,ε 4 1 dG (.slice rW (replicate x0.next.length false).length rU) gJ,Res.queS 3 1 ak (.slice a316 bI.length ZQ) bI,ε 4 1 dG (.slice wH (replicate x0.next.length false).length c218) kC])) (λ⟨eF,gJ,_,kC⟩ ⟨_,_⟩=>bH.length=(replicate x0.next.length ([]:ah)).length/\Zn qB bH/\eF.length=(replicate x0.next.length ([]:T_1)).length/\gJ.length=(replicate x0.next.length false).length/\kC.length=(replicate x0.next.length false).length) ⟨Hz,AB,z,z,yZ⟩ (ψ [5,1,5,5,5,5] 6) ?_));rintro ⟨eF,gJ,bI,kC⟩ ⟨a316,ZQ⟩ _ z1 hh hR1 ⟨wR,AA,yY,yX,yV⟩;dsimp only [Fe_]at hh wR AA yY yX yV ⊢;have zf310b:=AA.len;refine TC.know (rG (q:=1) z AA) (λ⟨_,hb320⟩=> ?_);refine ζ 2 z (λhb321=> ?_);refine ζ 3 z (λhb322=> ?_);refine ζ 5 z (λhb323=> ?_);refine R7 ?_;refine π z hh (λh324 hh=> ?_) (λh324 hh=> ?_)
 ·refine R5 ?_;refine TL.know (uy_ (q:=4) z) (λ⟨hs325,hs325b⟩=> ?_);refine ι z (A_ (i:=0) z sU oq z z hs325 (by omega)) (ι z (dw_ (0:Int) z CW z (q:=4) z aT (by omega) z) (R7 ?_));refine κ 4 ?_;obtain ⟨KO,hh⟩:=gd hh;refine φ z (popQ (i:=1) z sU oq z z z z (by omega) (by omega) (λa326 ZP=> ?_));refine TL.s z z ?_;obtain ⟨u114,hh⟩:=gd hh;refine TL.iS 5 z (λhs328=> ?_);refine ι z iX (κ 5 ?_);have Md:(kC.set ((nth bI 0 0).toNat) false).length=(replicate x0.next.length false).length:=by rw [fV];exact yV
  refine φ z (sS false ?_);refine R7 ?_;obtain ⟨nK,u120,hh⟩:=bg hh;refine κ 5 (κ 5 ?_);rw [show Value.slice uj ((replicate x0.next.length ([]:T_1)).length) ug=Value.slice uj eF.length ug from by rw [yY]];rw [show Value.slice rW ((replicate x0.next.length false).length) rU=Value.slice rW gJ.length rU from by rw [yX]];refine φ z (OQ (Con.lend eu (λ_ BO hr330=>Con.lend NH (λ_ zh hr331=>Mb_ (x0:=x0) ((aC.mono BO).mono zh) ((aV.mono BO).mono zh) ((aS.mono BO).mono zh) ((dA.mono BO).mono zh) (hr330.mono zh) hr331 u120))) z z pf183 z z z z ?_);rw [show Value.slice uj eF.length ug=Value.slice uj ((replicate x0.next.length ([]:T_1)).length) ug from by rw [yY]];rw [show Value.slice rW gJ.length rU=Value.slice rW ((replicate x0.next.length false).length) rU from by rw [yX]];refine R2 ?_;refine TC.cutG (α:=(Unit)×(Unit)) (rgs [(117,12)]) (λg=>[]) (λg=>[ω aP (kN x0 aB aA ay aH aG au dh dN) 56,Res.nest 31 3 1 ak (.slice jC (replicate x0.next.length ([]:ah)).length jA) qB,ε 9 1 bF (.slice uj (replicate x0.next.length ([]:T_1)).length ug) eF,ε 4 1 dG (.slice rW (replicate x0.next.length false).length rU) gJ,Res.queS 3 1 ak (.slice a326 (bI.drop 1).length ZP) (bI.drop 1),ε 4 1 dG (.slice wH (replicate x0.next.length false).length c218) (kC.set ((nth bI 0 0).toNat) false)]) (λg=>σ) (λg=>Cj_ bI eF gJ bH nK kC=some z1/\bH.length=(replicate x0.next.length ([]:ah)).length/\Zn qB bH/\eF.length=(replicate x0.next.length ([]:T_1)).length/\gJ.length=(replicate x0.next.length false).length/\(kC.set ((nth bI 0 0).toNat) false).length=(replicate x0.next.length false).length) ?_ (λg j hg=> ?_)
  ·refine R4 ?_;obtain ⟨u124,hh⟩:=gd hh;refine TL.iS 1 z (λhs339=> ?_);refine R3 ?_;refine δ 121 z (λZp=> ?_) (λZp=> ?_)
   ·replace hh:=uZ Zp hh;refine R3 ?_;obtain ⟨u130,hh⟩:=gd hh;refine TL.iS 0 z (λhs341=> ?_);refine R2 ?_;refine TL.g z (d6_ z z z) (R2 ?_);refine π z hh (λh342 hh=> ?_) (λh342 hh=> ?_)
    ·refine R2 ?_;exact nk hR1 hh (a326,ZP) (ψ [2,3,3,3,5,5] 6) ⟨wR,AA,yY,yX,Md⟩
    refine R1 ?_;exact cf ((),()) ⟨hh,wR,AA,yY,yX,Md⟩ (ψ [2,3,3,3,5,5] 6)
   replace hh:=u_ Zp hh;refine R10 ?_;exact cf ((),()) ⟨hh,wR,AA,yY,yX,Md⟩ (ψ [2,3,3,3,5,5] 6)
  obtain ⟨_,_⟩:=g;obtain ⟨hh,VL,Aw,VK,VJ,VI⟩:=hg
  try dsimp only at VL Aw VK VJ VI ⊢
  dsimp only [Cj_]at hh;have zf335b:=Aw.len;refine TC.know (rG (q:=1) z Aw) (λ⟨_,hb344⟩=> ?_);refine ζ 2 z (λhb345=> ?_);refine ζ 3 z (λhb346=> ?_);refine ζ 5 z (λhb347=> ?_);refine R7 ?_;obtain ⟨u139,hh⟩:=gd hh;refine TL.iS 2 z (λhs348=> ?_);refine ι z iX (κ 2 ?_);have hn349:(eF.set ((nth bI 0 0).toNat) nK).length=(replicate x0.next.length ([]:T_1)).length:=by rw [fV];exact VK
  refine φ z (sS nK ?_);obtain ⟨u141,hh⟩:=gd hh;refine TL.iS 3 z (λhs350=> ?_);refine ι z iX (κ 3 ?_);have hn351:(gJ.set ((nth bI 0 0).toNat) true).length=(replicate x0.next.length false).length:=by rw [fV];exact VJ
  refine φ z (sS true ?_);refine R5 ?_;obtain ⟨Qg,hh⟩:=gd hh;refine TL.know (rG (q:=3) z Aw) (λ⟨hs352,hs352b⟩=> ?_);refine ι z iX ?_;obtain ⟨p353,LK,MO⟩:=Zn.at Aw (i:=(nth bI 0 0).toNat) (by omega);refine ι z (EM z pV z (q:=3) z LK MO) (R4 ?_);refine TC.lk hh (a326,ZP) (rgs [(12,1),(19,1),(141,17)]) (λ⟨Bv,xI,pY⟩ ⟨O8,OB⟩=>([(12,.slice O8 Bv.length OB),(141,.int .i64 (pY:Int))],[ω aP (kN x0 aB aA ay aH aG au dh dN) 56,Res.nest 31 3 1 ak (.slice jC (replicate x0.next.length ([]:ah)).length jA) qB,ε 9 1 bF (.slice uj (replicate x0.next.length ([]:T_1)).length ug) (eF.set ((nth bI 0 0).toNat) nK),ε 4 1 dG (.slice rW (replicate x0.next.length false).length rU) (gJ.set ((nth bI 0 0).toNat) true),Res.queS 3 1 ak (.slice O8 Bv.length OB) Bv,ε 4 1 dG (.slice wH (replicate x0.next.length false).length c218) xI])) (λ⟨_,xI,_⟩ ⟨_,_⟩=>bH.length=(replicate x0.next.length ([]:ah)).length/\Zn qB bH/\(eF.set ((nth bI 0 0).toNat) nK).length=(replicate x0.next.length ([]:T_1)).length/\(gJ.set ((nth bI 0 0).toNat) true).length=(replicate x0.next.length false).length/\xI.length=(replicate x0.next.length false).length) ⟨VL,Aw,hn349,hn351,VI⟩ (ψ [5,5,2,3,5,5] 6) ?_;rintro ⟨Bv,xI,pY⟩ ⟨O8,OB⟩ _ z2 hh hR2 ⟨Hw,Aq,Hu,Ht,Hq⟩;dsimp only [Hx_]at hh Hw Aq Hu Ht Hq ⊢;have zf380b:=Aq.len;refine TC.know (rG (q:=1) z Aq) (λ⟨_,hb389⟩=> ?_);refine ζ 2 z (λhb390=> ?_);refine ζ 3 z (λhb391=> ?_);refine ζ 5 z (λhb392=> ?_);refine R5 ?_;refine π z hh (λh393 hh=> ?_) (λh393 hh=> ?_)
  ·refine R5 ?_;refine TL.know (pt_ (q:=1) z LK MO) (λ⟨hs394,hs394b⟩=> ?_);refine ι z iN (ι z (OpVal.seen (l5_ (q:=1) z LK MO) o1) (R6 ?_));obtain ⟨u155,hh⟩:=gd hh;refine TL.iS 5 z (λhs395=> ?_);refine R4 ?_;refine TC.cB z hh (λh396 hh=> ?_) (λh396 hh=> ?_)
   ·refine R5 ?_;refine φ z (jc (enc:=ak) [(nth (nth bH ((nth bI 0 0).toNat) []) pY 0)] (λa397 c398=> ?_));refine κ 5 ?_;obtain ⟨u163,hh⟩:=gd hh;refine φ z (db_ z z sU oq IG yF z z (by decide) z aT z z (.inr ⟨_,0,z⟩) (by simpa using u163) (by decide) (by simp) (λa400 c401=> ?_));refine TL.s z z ?_;obtain ⟨u165,hh⟩:=gd hh;refine TL.iS 6 z (λhs402=> ?_);refine ι z iX (κ 6 ?_);have hn403:(xI.set ((nth (nth bH ((nth bI 0 0).toNat) []) pY 0).toNat) true).length=(replicate x0.next.length false).length:=by rw [fV];exact Hq
    refine φ z (sS true ?_);refine R2 ?_;obtain ⟨XW,hh⟩:=gd hh;refine R3 ?_;exact nk hR2 hh (a400,c401) (ψ [1,6,6,6,6] 6) ⟨Hw,Aq,Hu,Ht,hn403⟩
   refine R2 ?_;obtain ⟨XW,hh⟩:=gd hh;refine R3 ?_;exact nk hR2 hh (O8,OB) (ψ [5,5,5,5,5,5] 6) ⟨Hw,Aq,Hu,Ht,Hq⟩
  refine R1 ?_;replace hh:=bJ hR2 hh;refine R1 ?_;exact nk hR1 hh (O8,OB) (ψ [5,5,5,5,5,5] 6) ⟨Hw,Aq,Hu,Ht,Hq⟩
 refine R1 ?_;replace hh:=bJ hR1 hh;refine R8 ?_;rw [show Value.slice uj ((replicate x0.next.length ([]:T_1)).length) ug=Value.slice uj eF.length ug from by rw [yY]];rw [show Value.slice rW ((replicate x0.next.length false).length) rU=Value.slice rW gJ.length rU from by rw [yX]];refine TC.fr 2 (TC.jO eu (λτ409 hle408 LX=> ?_));refine TC.fr 2 (TC.jO NH (λτ412 Y4 Vr=> ?_));replace LX:=LX.mono Y4;have hr410b:=Vr.rv.big;refine Ψ 0 ?_;obtain rfl:=so hh;exact rq [2,3] ⟨uj,ug,rW,rU,z,LX,Vr,z⟩
def Ha_(x0:Seq)(dW:ah)(dJ:B_1)(vI:ah)(f_:Nat):Option ((B_1×ah×Nat)⊕((B_1×ah)⊕(B_1))):=
 iteO (decide ((f_:Int)<((nth x0.next ((nth dW 0 0).toNat) []).length:Int))) (iteO (decide (0<=(nth (nth x0.next ((nth dW 0 0).toNat) []) f_ 0))) (grd (0<=(nth (nth x0.next ((nth dW 0 0).toNat) []) f_ 0)/\(nth (nth x0.next ((nth dW 0 0).toNat) []) f_ 0)<(dJ.length:Int)) (iteO (!(nth dJ ((nth (nth x0.next ((nth dW 0 0).toNat) []) f_ 0).toNat) false)) (grd (0<=(nth (nth x0.next ((nth dW 0 0).toNat) []) f_ 0)/\(nth (nth x0.next ((nth dW 0 0).toNat) []) f_ 0)<(dJ.length:Int)) (grd ((vI.length+[(nth (nth x0.next ((nth dW 0 0).toNat) []) f_ 0)].length) * 8<=140737488355328) (nxt ((dJ.set ((nth (nth x0.next ((nth dW 0 0).toNat) []) f_ 0).toNat) true),(vI++[(nth (nth x0.next ((nth dW 0 0).toNat) []) f_ 0)]),(f_+1))))) (nxt (dJ,vI,(f_+1))))) (nxt (dJ,vI,(f_+1)))) (fin (nxt (dJ,vI)))
def Eo_(x0:Seq)(vM:B_1)(dW:ah):Option ((B_1×ah)⊕(B_1)):=
 iteO (decide (0<(dW.length:Int))) (grd (0<dW.length/\1<=dW.length) (grd (0<=(nth dW 0 0)/\(nth dW 0 0)<(x0.next.length:Int)) (iter (λq:B_1×ah×Nat=>Ha_ x0 dW q.1 q.2.1 q.2.2) (vM,(dW.drop 1),0)))) (fin (some vM))
def Es_(x0:Seq):Option (B_1):=
 grd (1 * x0.next.length<=281474976710656) (iteO (decide (((replicate x0.next.length false).length:Int)=0)) (some (replicate x0.next.length false)) (grd (0<(replicate x0.next.length false).length) (iter (λq:B_1×ah=>Eo_ x0 q.1 q.2) (((replicate x0.next.length false).set 0 true),[0]))))
theorem Ls_{σ:aj}{x0:Seq}(aC:RZ σ (aF 1 ak aT) (.slice aB x0.next.length aA) x0.next)(aV:RZ σ (aF 1 bF eu) (.slice ay x0.outs.length aH) x0.outs)(aS:dH σ dG aG au x0.fin)(dA:dH σ bF dh dN x0.tail){r:B_1}(hh:Es_ x0=some r):
  Con prog 136 #[.agg (kN x0 aB aA ay aH aG au dh dN)] σ [] (Iw_ σ r):=by
 dsimp only [Es_]at hh;refine cM 55 Tryz.func136 (λw0=> ?_);refine R2 ?_;refine TL.bx (λaP=> ?_);refine R7 ?_;obtain ⟨u6,hh⟩:=gd hh;refine φ z (mk2 (enc:=dG) false (λjC jA=> ?_));refine R9 ?_;refine π z hh (λfM hh=> ?_) (λfM hh=> ?_)
 ·refine R5 ?_;refine Ψ 1 ?_;obtain rfl:=so hh;exact rz
 refine R3 ?_;refine φ z (jc (enc:=ak) [0] (λa107 Jh=> ?_));refine R5 ?_;obtain ⟨u16,hh⟩:=gd hh;refine TL.iS 1 z (λG8=> ?_);refine ι z (A_ (i:=0) z underlying33 sz4 z z G8 (by omega)) (κ 1 ?_);have lq:((replicate x0.next.length false).set 0 true).length=(replicate x0.next.length false).length:=by rw [fV]
 refine φ z (sS true ?_);refine R3 ?_;refine TC.fr 1 (TC.dm_ (TC.lk hh (a107,Jh) (rgs [(4,2),(7,1),(19,35)]) (λ⟨vM,dW⟩ ⟨wJ,c127⟩=>([(4,.slice wJ dW.length c127)],[ω aP (kN x0 aB aA ay aH aG au dh dN) 56,ε 4 1 dG (.slice jC (replicate x0.next.length false).length jA) vM,Res.queS 3 1 ak (.slice wJ dW.length c127) dW])) (λ⟨vM,_⟩ ⟨_,_⟩=>vM.length=(replicate x0.next.length false).length) lq (ψ [1,2] 3) ?_));rintro ⟨vM,dW⟩ ⟨wJ,c127⟩ _ z1 hh hR1 Ee;dsimp only [Eo_]at hh Ee ⊢;refine ζ 1 z (λIB=> ?_);refine R7 ?_;refine π z hh (λzD hh=> ?_) (λzD hh=> ?_)
 ·refine R5 ?_;refine TL.know (uy_ (q:=2) z) (λ⟨LV,hs130b⟩=> ?_);refine ι z (A_ (i:=0) z sU oq z z LV (by omega)) (ι z (dw_ (0:Int) z CW z (q:=2) z aT (by omega) z) (R5 ?_));refine κ 2 ?_;obtain ⟨u26,hh⟩:=gd hh;refine φ z (popQ (i:=1) z sU oq z z z z (by omega) (by omega) (λa131 CJ=> ?_));refine R7 ?_;obtain ⟨u31,hh⟩:=gd hh;refine ι z iX ?_;obtain ⟨QI,Nq,hg133⟩:=RZ.seg aC ((nth dW 0 0).toNat) (by omega);replace Nq:dH _ ak QI.1 QI.2 (nth x0.next ((nth dW 0 0).toNat) []):=Nq;have hk133b:=Nq.rv.big;refine ι z (OpVal.of (qw z pV z hg133 z) (v':= .slice QI.1 ((nth x0.next ((nth dW 0 0).toNat) []).length) QI.2) z) (R4 ?_);refine TC.lk hh (a131,CJ) (rgs [(4,1),(7,1),(33,21)]) (λ⟨dJ,vI,f_⟩ ⟨Jt,Je⟩=>([(4,.slice Jt vI.length Je),(33,.int .i64 (f_:Int))],[ω aP (kN x0 aB aA ay aH aG au dh dN) 56,ε 4 1 dG (.slice jC (replicate x0.next.length false).length jA) dJ,Res.queS 3 1 ak (.slice Jt vI.length Je) vI])) (λ⟨dJ,_,_⟩ ⟨_,_⟩=>dJ.length=(replicate x0.next.length false).length) Ee (ψ [2,2] 3) ?_;rintro ⟨dJ,vI,f_⟩ ⟨Jt,Je⟩ _ z2 hh hR2 y8;dsimp only [Ha_]at hh y8 ⊢;refine ζ 1 z (λIu=> ?_);refine R5 ?_;refine π z hh (λh154 hh=> ?_) (λh154 hh=> ?_)
  ·refine R14 ?_;refine δ 39 z (λOc=> ?_) (λOc=> ?_)
   ·obtain ⟨Oc,hh⟩:=iT Oc hh;refine R2 ?_;obtain ⟨u44,hh⟩:=gd hh;refine TL.iS 1 z (λhs156=> ?_);refine R5 ?_;refine TC.cB z hh (λh157 hh=> ?_) (λh157 hh=> ?_)
    ·refine R4 ?_;obtain ⟨u50,hh⟩:=gd hh;refine TL.iS 1 z (λhs158=> ?_);refine ι z iX (κ 1 ?_);have MH:(dJ.set ((nth (nth x0.next ((nth dW 0 0).toNat) []) f_ 0).toNat) true).length=(replicate x0.next.length false).length:=by rw [fV];exact y8
     refine φ z (sS true ?_);refine R4 ?_;refine φ z (jc (enc:=ak) [(nth (nth x0.next ((nth dW 0 0).toNat) []) f_ 0)] (λa160 c161=> ?_));refine κ 3 ?_;obtain ⟨u55,hh⟩:=gd hh;refine φ z (db_ z z sU oq IG yF z z (by decide) z aT z z (.inr ⟨_,0,z⟩) (by simpa using u55) (by decide) (by simp) (λPq c164=> ?_));refine R6 ?_;exact nk hR2 hh (Pq,c164) (ψ [2,3] 3) MH
    refine R5 ?_;exact nk hR2 hh (Jt,Je) (ψ [2,2,2] 3) y8
   obtain ⟨Oc,hh⟩:=iF Oc hh;refine R13 ?_;exact nk hR2 hh (Jt,Je) (ψ [2,2,2] 3) y8
  refine R1 ?_;replace hh:=bJ hR2 hh;refine R1 ?_;exact nk hR1 hh (Jt,Je) (ψ [2,2,2] 3) y8
 refine R1 ?_;replace hh:=bJ hR1 hh;refine R6 ?_;rw [<-Ee];refine Θ (ψ [1] 1) (η ?_);obtain rfl:=so hh;exact rz
def H8_(x0:Seq)(x1:Int)(x3:ah)(x2:bC)(bQ:ah)(g_:bC)(bT:Nat):Option ((ah×bC×Nat)⊕(ah×bC×Bool)):=
 iteO (decide ((bT:Int)<((nth x0.next x1.toNat []).length:Int))) (grd (bT<bQ.length) (iteO (decide ((nth (nth x0.next x1.toNat []) bT 0)<0)) (nxt ((bQ.set bT (-1)),g_,(bT+1))) (grd (0<=(nth (nth x0.next x1.toNat []) bT 0)/\(nth (nth x0.next x1.toNat []) bT 0)<(x3.length:Int)) (iteO (decide ((nth x3 ((nth (nth x0.next x1.toNat []) bT 0).toNat) 0)<0)) (nxt ((bQ.set bT (-1)),g_,(bT+1))) (grd (0<=(nth (nth x0.next x1.toNat []) bT 0)/\(nth (nth x0.next x1.toNat []) bT 0)<(x3.length:Int)) (grd (bT<(bQ.set bT (-1)).length) (grd (0<=x1/\x1<(x0.outs.length:Int)) (grd (bT<(nth x0.outs x1.toNat []).length) (grd (0<=(nth (nth x0.next x1.toNat []) bT 0)/\(nth (nth x0.next x1.toNat []) bT 0)<(x2.length:Int)) (grd (0<=x1/\x1<(x2.length:Int)) (iteO (decide (4096<(IntKind.i64.wrap ((IntKind.i64.wrap (((nth (nth x0.outs x1.toNat []) bT []).length:Int)+((nth x2 ((nth (nth x0.next x1.toNat []) bT 0).toNat) []).length:Int))) - ((nth x2 x1.toNat []).length:Int))))) (fin (some (([]:ah),([]:bC),false))) (grd (0<=x1/\x1<(x0.outs.length:Int)) (grd (bT<(nth x0.outs x1.toNat []).length) (grd (0<=(nth (nth x0.next x1.toNat []) bT 0)/\(nth (nth x0.next x1.toNat []) bT 0)<(x2.length:Int)) (grd ((nth (nth x0.outs x1.toNat []) bT []).length+(nth x2 ((nth (nth x0.next x1.toNat []) bT 0).toNat) []).length<=9223372036854775807) (grd (0<=x1/\x1<(x2.length:Int)) (grd ((nth x2 x1.toNat []).length<=((nth (nth x0.outs x1.toNat []) bT [])++(nth x2 ((nth (nth x0.next x1.toNat []) bT 0).toNat) [])).length/\((nth (nth x0.outs x1.toNat []) bT [])++(nth x2 ((nth (nth x0.next x1.toNat []) bT 0).toNat) [])).length<=((nth (nth x0.outs x1.toNat []) bT [])++(nth x2 ((nth (nth x0.next x1.toNat []) bT 0).toNat) [])).length) (grd (bT<g_.length) (nxt (((bQ.set bT (-1)).set bT (nth x3 ((nth (nth x0.next x1.toNat []) bT 0).toNat) 0)),(g_.set bT (((nth (nth x0.outs x1.toNat []) bT [])++(nth x2 ((nth (nth x0.next x1.toNat []) bT 0).toNat) [])).drop ((nth x2 x1.toNat []).length))),(bT+1))))))))))))))))))))) (fin (some (bQ,g_,true)))
def Dw_(x1:Int)(x0:Seq)(x3:ah)(x2:bC):Option (ah×bC×Bool):=
 grd (0<=x1/\x1<(x0.next.length:Int)) (iter (λq:ah×bC×Nat=>H8_ x0 x1 x3 x2 q.1 q.2.1 q.2.2) ((replicate 256 (0:Int)),(replicate 256 ([]:T_1)),0))
def Fq_(x0:Seq)(x1:Int)(x2:bC)(x3:ah):Option (ah×bC×Bool):=
 Dw_ x1 x0 x3 x2
def Mp_(σ:aj)(r:ah×bC×Bool):Value->aj->List Res->Prop:=λv σ' H'=>
 ∃a1 c1 a2 c2,v= .tuple #[.slice a1 r.1.length c1,.slice a2 r.2.1.length c2,.bool r.2.2]/\dH σ' ak a1 c1 r.1/\dH σ' bF a2 c2 r.2.1/\H'=[]
theorem Ly_{σ:aj}{x0:Seq}{x1:Int}{x2:bC}{x3:ah}(aC:RZ σ (aF 1 ak aT) (.slice aB x0.next.length aA) x0.next)(aV:RZ σ (aF 1 bF eu) (.slice ay x0.outs.length aH) x0.outs)(aS:dH σ dG aG au x0.fin)(dA:dH σ bF dh dN x0.tail)(xW:dH σ bF uU uO x2)(f3_0:dH σ ak Sr Rt x3){r:ah×bC×Bool}(hh:Fq_ x0 x1 x2 x3=some r):
  Con prog 137 #[.agg (kN x0 aB aA ay aH aG au dh dN),.int .i64 x1,.slice uU x2.length uO,.slice Sr x3.length Rt] σ [] (Mp_ σ r):=by
 dsimp only [Fq_]at hh;refine cM 94 Tryz.func137 (λw0=> ?_);refine R2 ?_;refine TL.bx (λaP=> ?_);refine R4 ?_;refine TC.cutG (α:=(Unit)×((Option Addr)×Nat×(Option Addr)×Nat)) [11,12,15,16] (λg=>[(11,.slice g.2.1 ((replicate 256 (0:Int)).length) g.2.2.1),(12,.slice g.2.2.2.1 ((replicate 256 ([]:T_1)).length) g.2.2.2.2)]) (λg=>[ω aP (kN x0 aB aA ay aH aG au dh dN) 56,ε 3 1 ak (.slice g.2.1 (replicate 256 (0:Int)).length g.2.2.1) (replicate 256 (0:Int)),ε 9 1 bF (.slice g.2.2.2.1 (replicate 256 ([]:T_1)).length g.2.2.2.2) (replicate 256 ([]:T_1))]) (λg=>σ) (λg=>Dw_ x1 x0 x3 x2=some r) ?_ (λg j hg=> ?_)
 ·refine TC.dw [] (TA.aN [0,1] (an z z (CV (m:=256) (enc:=ak) (0:Int) z sU oq IG yF z z z z (by omega) (by decide) aT (by decide) z GL (λpK c116=>(k1 ?_))) (an z z (CV (m:=256) (enc:=bF) ([]:T_1) z PI EU Z5 XK z z z z (by omega) (by decide) eu (by decide) z eSo_ (λlX c119=>(k1 ?_))) (True.intro))))
  ·refine ν 2 z mS z (υ 1 z (CV (m:=256) (enc:=bF) ([]:T_1) z PI EU Z5 XK z z z z (by omega) (by decide) eu (by decide) z eSo_ (λCZ CP=>(k2 ?_))));refine ν 3 z mS z (R1 ?_);exact cf ((),(pK,c116,CZ,CP)) hh (ψ [1,2] 3)
  refine υ 0 z (CV (m:=256) (enc:=ak) (0:Int) z sU oq IG yF z z z z (by omega) (by decide) aT (by decide) z GL (λa124 Eo=>(k2 ?_)));refine ν 2 z mS z (ν 3 z mS z (R1 ?_));exact cf ((),(a124,Eo,lX,c119)) hh (ψ [1,1,2] 3)
 obtain ⟨_,⟨a104,c105,a107,Jh⟩⟩:=g;have hh:=hg;clear hg
 try dsimp only
 dsimp only [Dw_]at hh;refine ζ 1 z (λhb127=> ?_);refine ζ 2 z (λIB=> ?_);refine R6 ?_;obtain ⟨u12,hh⟩:=gd hh;refine ι z iX ?_;obtain ⟨QJ,WA,hg129⟩:=RZ.seg aC x1.toNat (by omega);replace WA:dH _ ak QJ.1 QJ.2 (nth x0.next x1.toNat []):=WA;refine ι z (OpVal.of (qw z pV z hg129 z) (v':= .slice QJ.1 ((nth x0.next x1.toNat []).length) QJ.2) z) (R4 ?_);refine TC.lk hh () (rgs [(8,3),(13,2),(23,69)]) (λ⟨bQ,g_,bT⟩ _=>([(23,.int .i64 (bT:Int))],[ω aP (kN x0 aB aA ay aH aG au dh dN) 56,ε 3 1 ak (.slice a104 (replicate 256 (0:Int)).length c105) bQ,ε 9 1 bF (.slice a107 (replicate 256 ([]:T_1)).length Jh) g_])) (λ⟨bQ,g_,_⟩ _=>bQ.length=(replicate 256 (0:Int)).length/\g_.length=(replicate 256 ([]:T_1)).length) ⟨z,z⟩ (ψ [2,2,2] 3) ?_;rintro ⟨bQ,g_,bT⟩ _ _ z1 hh hR1 ⟨A8,qK⟩;dsimp only [H8_]at hh A8 qK ⊢;refine ζ 1 z (λIw=> ?_);refine ζ 2 z (λhb146=> ?_);refine R5 ?_;refine π z hh (λh147 hh=> ?_) (λh147 hh=> ?_)
 ·refine R15 ?_;obtain ⟨u24,hh⟩:=gd hh;refine TL.iS 1 z (λhs148=> ?_);refine ι z iN (κ 1 ?_);have MJ:(bQ.set bT (-1)).length=(replicate 256 (0:Int)).length:=by rw [fV];exact A8
  refine φ z (sS (-1) ?_);refine R7 ?_;refine δ 33 z (λOe=> ?_) (λOe=> ?_)
  ·obtain ⟨Oe,hh⟩:=iT Oe hh;refine R14 ?_;exact nk hR1 hh () (ψ [2,1,2] 3) ⟨MJ,qK⟩
  obtain ⟨Oe,hh⟩:=iF Oe hh;refine R2 ?_;obtain ⟨u31,hh⟩:=gd hh;refine R5 ?_;refine π z hh (λZz hh=> ?_) (λZz hh=> ?_)
  ·refine R6 ?_;exact nk hR1 hh () (ψ [2,1,2] 3) ⟨MJ,qK⟩
  refine R7 ?_;obtain ⟨u39,hh⟩:=gd hh;refine R2 ?_;obtain ⟨PW,hh⟩:=gd hh;refine TL.iS 0 z (λhs154=> ?_);refine ι z iN ?_;have MI:((bQ.set bT (-1)).set bT (nth x3 ((nth (nth x0.next x1.toNat []) bT 0).toNat) 0)).length=(replicate 256 (0:Int)).length:=by rw [fV];exact MJ
  refine φ z (b8_ (nth x3 ((nth (nth x0.next x1.toNat []) bT 0).toNat) 0) z oq z z z z aT GL (by omega) (by omega) ?_);refine R3 ?_;obtain ⟨u46,hh⟩:=gd hh;obtain ⟨u49,hh⟩:=gd hh;obtain ⟨u54,hh⟩:=gd hh;obtain ⟨u60,hh⟩:=gd hh;refine TC.dw [] (ν 0 z fL z (χ 1 z lL z (ν 2 z mI z (χ 3 z iX z ?_))));obtain ⟨QB,Wu,hg157⟩:=RZ.seg aV x1.toNat (by omega);replace Wu:dH _ bF QB.1 QB.2 (nth x0.outs x1.toNat []):=Wu;refine χ 4 z (OpVal.of (qw z KN z hg157 z) (v':= .slice QB.1 ((nth x0.outs x1.toNat []).length) QB.2) z) z (ν 5 z mI z (χ 6 z iN z (χ 7 z l1 z (χ 8 z (xq z kR z) z (ν 9 z mS z (ν 10 z mI z (χ 11 z iX z (χ 12 z l1 z (χ 13 z (xq z kR z) z (ν 14 z (addW z z z) z (ν 15 z mS z (ν 16 z mI z (χ 17 z iX z (χ 18 z l1 z (χ 19 z (xq z kR z) z ?_)))))))))))))));refine ν 20 z (subW z z z) z (ν 21 z (OpVal.gtr z z z) z (R1 ?_));refine π z hh (λOa hh=> ?_) (λOa hh=> ?_)
  ·refine R6 ?_;refine Ψ 0 ?_;replace hh:=bJ hR1 hh;obtain rfl:=so hh;exact rq [8,9,10] ⟨none,0,none,0,z,(RS.nilF _ ak aT),(RS.nilF _ bF eu),z⟩
  refine R1 ?_;obtain ⟨u73,hh⟩:=gd hh;obtain ⟨u76,hh⟩:=gd hh;obtain ⟨u80,hh⟩:=gd hh;obtain ⟨XV,hh⟩:=gd hh;obtain ⟨u85,hh⟩:=gd hh;obtain ⟨u88,hh⟩:=gd hh;obtain ⟨u89,hh⟩:=gd hh;refine TC.dw [22] (ν 0 z mS z (ν 1 z mI z (ν 2 z fL z (χ 3 z lL z (ν 4 z mI z (χ 5 z iX z ?_))))));obtain ⟨Ld,Wq,hg162⟩:=RZ.seg aV x1.toNat (by omega);replace Wq:dH _ bF Ld.1 Ld.2 (nth x0.outs x1.toNat []):=Wq;refine χ 6 z (OpVal.of (qw z KN z hg162 z) (v':= .slice Ld.1 ((nth x0.outs x1.toNat []).length) Ld.2) z) z (ν 7 z mI z (χ 8 z iN z (χ 9 z l1 z (ν 10 z mS z (ν 11 z mI z (χ 12 z iX z (χ 13 z l1 z (ν 14 z (cs_ z z z XV) z (ν 15 z mS z (ν 16 z mI z (χ 17 z iX z (χ 18 z l1 z (χ 19 z (xq z kR z) z (χ 20 z (b5_ (l:=((nth (nth x0.outs x1.toNat []) bT [])++(nth x2 ((nth (nth x0.next x1.toNat []) bT 0).toNat) []))) (i:=(nth x2 x1.toNat []).length) z kR z z (by omega) (by omega)) z (TA.isSl (i:=2) z (λhs163 _ _=> ?_))))))))))))))));refine χ 21 z iN z (Ω 2 ?_);have sD:(g_.set bT (((nth (nth x0.outs x1.toNat []) bT [])++(nth x2 ((nth (nth x0.next x1.toNat []) bT 0).toNat) [])).drop ((nth x2 x1.toNat []).length))).length=(replicate 256 ([]:T_1)).length:=by rw [fV];exact qK
  refine TA.la 22 z z z (b8_ (((nth (nth x0.outs x1.toNat []) bT [])++(nth x2 ((nth (nth x0.next x1.toNat []) bT 0).toNat) [])).drop ((nth x2 x1.toNat []).length)) z EU z z z z eu eSo_ (by omega) (by omega) ?_);refine R5 ?_;exact nk hR1 hh () (ψ [1,2] 3) ⟨MI,sD⟩
 refine R1 ?_;replace hh:=bJ hR1 hh;refine R9 ?_;rw [<-A8];rw [<-qK];refine TC.fr 1 (TC.jO aT (λτ168 qQ D6=> ?_));refine TC.fr 1 (TC.jO eu (λτ171 Ze hr169=> ?_));replace D6:=D6.mono Ze;refine Ψ 0 ?_;obtain rfl:=so hh;exact rq [8,9,10] ⟨a104,c105,a107,Jh,z,D6,hr169,z⟩
def Dk_(lJ:aO)(v89:ah×bC×Bool)(lI:iC)(dK:Nat)(x0:Seq)(cO:B_1)(mg:bC)(KW:T_1):Option ((aO×iC×B_1×bC×Nat)⊕(Seq×Int)):=
 grd ((lJ.length+[v89.1].length) * 24<=140737488355328) (grd ((lI.length+[v89.2.1].length) * 24<=140737488355328) (grd (dK<x0.fin.length) (grd ((cO.length+[(nth x0.fin dK false)].length) * 1<=140737488355328) (grd ((mg.length+[KW].length) * 16<=140737488355328) (nxt ((lJ++[v89.1]),(lI++[v89.2.1]),(cO++[(nth x0.fin dK false)]),(mg++[KW]),(dK+1)))))))
def Dy_(v11:bC×B_1)(aK:ah)(x0:Seq)(lJ:aO)(lI:iC)(cO:B_1)(mg:bC)(dK:Nat):Option ((aO×iC×B_1×bC×Nat)⊕(Seq×Int)):=
 iteO (decide ((dK:Int)<((replicate v11.2.length (0:Int)).length:Int))) (grd (dK<aK.length) (iteO (decide ((nth aK dK 0)<0)) (nxt (lJ,lI,cO,mg,(dK+1))) (bnd (Fq_ x0 (dK:Int) v11.1 aK) (λv89=>iteO (!v89.2.2) (fin (some ((⟨([]:T_1),([]:aO),([]:iC),([]:B_1),([]:bC)⟩:Seq),2))) (grd (dK<x0.fin.length) (iteO (nth x0.fin dK false) (grd (dK<x0.tail.length) (grd (dK<v11.1.length) (grd ((nth v11.1 dK []).length<=(nth x0.tail dK []).length/\(nth x0.tail dK []).length<=(nth x0.tail dK []).length) (Dk_ lJ v89 lI dK x0 cO mg ((nth x0.tail dK []).drop ((nth v11.1 dK []).length)))))) (Dk_ lJ v89 lI dK x0 cO mg ([]:T_1)))))))) (fin (bnd (Ew_ (⟨(x0.front++(nth v11.1 0 [])),lJ,lI,cO,mg⟩:Seq)) (λQd=>iteO (decide (Qd≠0)) (some ((⟨([]:T_1),([]:aO),([]:iC),([]:B_1),([]:bC)⟩:Seq),2)) (some ((⟨(x0.front++(nth v11.1 0 [])),lJ,lI,cO,mg⟩:Seq),0)))))
def Hc_(v35:B_1)(v11:bC×B_1)(x0:Seq)(aK:ah)(aX:Nat)(aU:Nat):Option ((ah×Nat×Nat)⊕(Seq×Int)):=
 iteO (decide ((aU:Int)<(v35.length:Int))) (grd (aU<aK.length) (iteO (nth v35 aU false) (grd (aU<v11.2.length) (iteO (nth v11.2 aU false) (grd (aU<(aK.set aU (-1)).length) (grd (aX+1<=9223372036854775807) (nxt (((aK.set aU (-1)).set aU (aX:Int)),(aX+1),(aU+1))))) (nxt ((aK.set aU (-1)),aX,(aU+1))))) (nxt ((aK.set aU (-1)),aX,(aU+1))))) (fin (grd (0<v11.1.length) (grd (x0.front.length+(nth v11.1 0 []).length<=9223372036854775807) (iter (λq:aO×iC×B_1×bC×Nat=>Dy_ v11 aK x0 q.1 q.2.1 q.2.2.1 q.2.2.2.1 q.2.2.2.2) (([]:aO),([]:iC),([]:B_1),([]:bC),0)))))
def It_(x0:Seq):Option (Seq×Int):=
 bnd (Ew_ x0) (λv5=>iteO (decide (v5≠0)) (some ((⟨([]:T_1),([]:aO),([]:iC),([]:B_1),([]:bC)⟩:Seq),1)) (bnd (Fu_ x0) (λv11=>iteO (decide ((v11.2.length:Int)=0)) (some ((⟨([]:T_1),([]:aO),([]:iC),([]:B_1),([]:bC)⟩:Seq),0)) (grd (0<v11.2.length) (iteO (!(nth v11.2 0 false)) (some ((⟨([]:T_1),([]:aO),([]:iC),([]:B_1),([]:bC)⟩:Seq),0)) (grd (8 * v11.2.length<=281474976710656) (bnd (Es_ x0) (λv35=>iter (λq:ah×Nat×Nat=>Hc_ v35 v11 x0 q.1 q.2.1 q.2.2) ((replicate v11.2.length (0:Int)),0,0)))))))))
theorem Mj_{σ:aj}{x0:Seq}(aC:RZ σ (aF 1 ak aT) (.slice aB x0.next.length aA) x0.next)(aV:RZ σ (aF 1 bF eu) (.slice ay x0.outs.length aH) x0.outs)(aS:dH σ dG aG au x0.fin)(dA:dH σ bF dh dN x0.tail){r:Seq×Int}(hh:It_ x0=some r):
  Con prog 73 #[.agg (kN x0 aB aA ay aH aG au dh dN)] σ [] (Lw_ σ r):=by
 dsimp only [It_]at hh;refine cM 142 Tryz.func73 (λw0=> ?_);refine R2 ?_;refine TL.bx (λaP=> ?_);refine TL.al (λbK=> ?_);refine R6 ?_;obtain ⟨v5,u5,hh⟩:=bg hh;refine φ z (gI (I4_ (x0:=x0) aC aV aS dA u5) z z Yb z z z ?_);refine R2 ?_;refine π z hh (λdL hh=> ?_) (λdL hh=> ?_)
 ·refine R6 ?_;refine Ψ 1 ?_;obtain rfl:=so hh;exact rz
 refine R4 ?_;obtain ⟨v11,u11,hh⟩:=bg hh;refine φ z (OpOk.call (Lz_ (x0:=x0) aC aV aS dA u11) z z pf135 z z z z ?_);rintro _ τ106 _ wu ⟨a106_1,c106_1,a106_2,c106_2,rfl,hr106_0,hr106_1,rfl⟩;replace aC:=aC.mono wu;replace aV:=aV.mono wu;replace aS:=aS.mono wu;replace dA:=dA.mono wu;refine R13 ?_;refine δ 28 z (λgq=> ?_) (λgq=> ?_)
 ·obtain ⟨gq,hh⟩:=iT gq hh;refine R13 ?_;refine Ψ 1 ?_;obtain rfl:=so hh;exact rz
 obtain ⟨gq,hh⟩:=iF gq hh;refine TL.g z mS ?_;obtain ⟨u22,hh⟩:=gd hh;refine TL.g z (A_ (i:=0) z underlying33 sz4 z z hr106_1.rv.sl (by omega)) (R4 ?_);refine TC.cB z hh (λiG hh=> ?_) (λiG hh=> ?_)
 ·refine R6 ?_;refine Ψ 1 ?_;obtain rfl:=so hh;exact rz
 refine R5 ?_;obtain ⟨u31,hh⟩:=gd hh;refine φ z (mk2 (enc:=ak) (0:Int) (λa109 F5=> ?_));refine R7 ?_;obtain ⟨v35,u35,hh⟩:=bg hh;refine φ z (OpOk.call (Ls_ (x0:=x0) aC aV aS dA u35) z z pf136 z z z z ?_);rintro _ _ _ lU ⟨a112_1,c112_1,rfl,rfl,rfl⟩;refine R4 ?_;refine TC.lk hh () (rgs [(7,3),(41,22)]) (λ⟨aK,aX,aU⟩ _=>([(7,.int .i64 (aX:Int)),(41,.int .i64 (aU:Int))],[ω aP (kN x0 aB aA ay aH aG au dh dN) 56,ω bK #[.string (bs ([]:T_1)),aW,aW,aW,aW] 56,ε 3 1 ak (.slice a109 (replicate v11.2.length (0:Int)).length F5) aK,dO 4 dG a112_1 c112_1 v35])) (λ⟨aK,_,_⟩ _=>aK.length=(replicate v11.2.length (0:Int)).length) z (ψ [1,2,3] 4) ?_;rintro ⟨aK,aX,aU⟩ _ _ z1 hh hR1 gG;dsimp only [Hc_]at hh gG ⊢;refine ζ 2 z (λNY=> ?_);refine ζ 3 z (λhb127=> ?_);refine R5 ?_;refine π z hh (λh128 hh=> ?_) (λh128 hh=> ?_)
 ·refine R6 ?_;refine TL.iS 3 z (λhs129=> ?_);refine R9 ?_;obtain ⟨u46,hh⟩:=gd hh;refine TL.iS 2 z (λLV=> ?_);refine ι z iN (κ 2 ?_);have sG:(aK.set aU (-1)).length=(replicate v11.2.length (0:Int)).length:=by rw [fV];exact gG
  refine φ z (sS (-1) ?_);refine R5 ?_;refine δ 50 z (λCe=> ?_) (λCe=> ?_)
  ·replace hh:=uZ Ce hh;refine R2 ?_;obtain ⟨Qe,hh⟩:=gd hh;refine R4 ?_;refine TC.cB z hh (λCc hh=> ?_) (λCc hh=> ?_)
   ·refine R5 ?_;obtain ⟨u58,hh⟩:=gd hh;refine TL.iS 0 z (λhs134=> ?_);refine ι z iN ?_;have hn135:((aK.set aU (-1)).set aU (aX:Int)).length=(replicate v11.2.length (0:Int)).length:=by rw [fV];exact sG
    refine φ z (sS (aX:Int) ?_);refine R3 ?_;obtain ⟨u61,hh⟩:=gd hh;refine R7 ?_;exact nk hR1 hh () (ψ [3,1,3,3] 4) hn135
   refine R5 ?_;exact nk hR1 hh () (ψ [3,1,3,3] 4) sG
  replace hh:=u_ Ce hh;refine R12 ?_;exact nk hR1 hh () (ψ [3,1,3,3] 4) sG
 refine R1 ?_;replace hh:=bJ hR1 hh;refine R2 ?_;obtain ⟨u68,hh⟩:=gd hh;obtain ⟨u70,hh⟩:=gd hh;refine TC.dw [8] (ν 0 z fL z (χ 1 z lL z (ν 2 z mS z (χ 3 z (A_ (i:=0) z PI EU z z hr106_0.rv.sl (by omega)) z (χ 4 z l1 z (ν 5 z (cs_ z z z u70) z (ν 6 z bL z (υ 7 z (OpOk.alloc z Kw z z (λb141=>(k1 ?_)))))))))));refine TA.la 8 z z z (storeAll z TT z z z z z z ?_);refine R9 ?_;rw [show Value.slice a109 ((replicate v11.2.length (0:Int)).length) F5=Value.slice a109 aK.length F5 from by rw [gG]];refine TC.fr 3 (TC.jO aT (λτ212 ig hr210=> ?_));replace aC:=aC.mono ig;replace aV:=aV.mono ig;replace aS:=aS.mono ig;replace dA:=dA.mono ig;replace hr106_0:=hr106_0.mono ig;refine TC.nilS 31 1 (aF 1 ak aT).en ?_;have J5:=ZOk.nil τ212 (aF 1 ak aT);refine TC.nilS 54 1 (aF 1 bF eu).en ?_;have zf215:=ZOk.nil τ212 (aF 1 bF eu);refine TC.nilS 4 1 dG (TC.nilS 9 1 bF (TC.Ak (α:=(aO×iC×B_1×bC×Nat)×((Option Addr)×Nat×(List (ah×(aF 1 ak aT).P))×(Option Addr)×Nat×(List (bC×(aF 1 bF eu).P))×(Option Addr)×Nat×(Option Addr)×Nat×aj)) (rgs [(3,1),(11,5),(72,65)]) (λg=>[(72,.int .i64 (g.1.2.2.2.2:Int))]) (λg=>[ω aP (kN x0 aB aA ay aH aG au dh dN) 56,ω bK #[.string (bs ([]:T_1)),aW,aW,aW,aW] 56,ω b141 #[.string (bs (x0.front++(nth v11.1 0 []))),.slice g.2.1 g.1.1.length g.2.2.1,.slice g.2.2.2.2.1 g.1.2.1.length g.2.2.2.2.2.1,.slice g.2.2.2.2.2.2.2.1 g.1.2.2.1.length g.2.2.2.2.2.2.2.2.1,.slice g.2.2.2.2.2.2.2.2.2.1 g.1.2.2.2.1.length g.2.2.2.2.2.2.2.2.2.2.1] 56,ε 31 1 (aF 1 ak aT).en (.slice g.2.1 g.1.1.length g.2.2.1) g.2.2.2.1,ε 54 1 (aF 1 bF eu).en (.slice g.2.2.2.2.1 g.1.2.1.length g.2.2.2.2.2.1) g.2.2.2.2.2.2.1,ε 4 1 dG (.slice g.2.2.2.2.2.2.2.1 g.1.2.2.1.length g.2.2.2.2.2.2.2.2.1) g.1.2.2.1,ε 9 1 bF (.slice g.2.2.2.2.2.2.2.2.2.1 g.1.2.2.2.1.length g.2.2.2.2.2.2.2.2.2.2.1) g.1.2.2.2.1]) (λg=>g.2.2.2.2.2.2.2.2.2.2.2) (λg=>iter (λq:aO×iC×B_1×bC×Nat=>Dy_ v11 aK x0 q.1 q.2.1 q.2.2.1 q.2.2.2.1 q.2.2.2.2) g.1=some r/\RS g.2.2.2.2.2.2.2.2.2.2.2 1 ak (.slice a109 aK.length F5) aK/\ZOk g.2.2.2.2.2.2.2.2.2.2.2 (aF 1 ak aT) g.2.2.2.1 g.1.1/\ZOk g.2.2.2.2.2.2.2.2.2.2.2 (aF 1 bF eu) g.2.2.2.2.2.2.1 g.1.2.1/\aj.le τ212 g.2.2.2.2.2.2.2.2.2.2.2) (λg=>rQ (λq:aO×iC×B_1×bC×Nat=>Dy_ v11 aK x0 q.1 q.2.1 q.2.2.1 q.2.2.2.1 q.2.2.2.2) g.1) ((([]:aO),([]:iC),([]:B_1),([]:bC),0),(none,0,[],none,0,[],none,0,none,0,τ212)) (ψ [1,2,3,4,6,6] 7) z (by repeat (first|exact trivial|refine ⟨z,?_⟩)) ⟨hh,hr210,J5,zf215,(aj.le.refl _)⟩ (λg2 j2 hg2=> ?_)));obtain ⟨⟨lJ,lI,cO,mg,dK⟩,⟨Pn,OM,z193,zI,c198,P_,a203,CG,a207,c208,τ219⟩⟩:=g2;obtain ⟨hh,wQ,nR,eY,qO⟩:=hg2
 try dsimp only at wQ
 try dsimp only at nR
 try dsimp only at eY
 dsimp only at qO;replace aC:=aC.mono qO;replace aV:=aV.mono qO;replace aS:=aS.mono qO;replace dA:=dA.mono qO;replace hr106_0:=hr106_0.mono qO
 try dsimp only
 obtain ⟨z1,hh,hR1⟩:=zQ hh;dsimp only [Dy_]at hh;have zf194b:=nR.length;have zf200b:=eY.length;refine ζ 3 z (λhb221=> ?_);refine ζ 4 z (λWM=> ?_);refine ζ 5 z (λWL=> ?_);refine ζ 6 z (λWJ=> ?_);refine R5 ?_;refine π z hh (λh225 hh=> ?_) (λh225 hh=> ?_)
 ·refine R13 ?_;obtain ⟨XV,hh⟩:=gd hh;refine R4 ?_;refine π z hh (λZt hh=> ?_) (λZt hh=> ?_)
  ·refine R6 ?_;obtain ⟨hh,YU⟩:=xP hR1 hh;exact lf ((lJ,lI,cO,mg,(dK+1)),(Pn,OM,z193,zI,c198,P_,a203,CG,a207,c208,τ219)) YU ⟨hh,wQ,nR,eY,qO⟩ (ψ [6,6,6,6,6,6,6] 7)
  refine R7 ?_;obtain ⟨v89,u89,hh⟩:=bg hh;refine φ z (OpOk.call (Ly_ (x0:=x0) aC aV aS dA hr106_0 wQ u89) z z pf137 z z z z ?_);rintro _ τ228 _ tH ⟨a228_1,c228_1,a228_2,c228_2,rfl,hr228_0,hr228_1,rfl⟩;replace aS:=aS.mono tH;replace dA:=dA.mono tH;replace hr106_0:=hr106_0.mono tH;replace wQ:=wQ.mono tH;replace nR:=nR.mono tH;replace eY:=eY.mono tH;refine R14 ?_;refine TC.cB z hh (λh229 hh=> ?_) (λh229 hh=> ?_)
  ·refine R3 ?_;refine κ 1 (R3 ?_);refine Ψ 1 ?_;replace hh:=bJ hR1 hh;obtain rfl:=so hh;exact rz
  refine R5 ?_;refine TC.cutG (α:=(T_1)×(aj)) (rgs [(15,1),(92,16)]) (λg=>[(15,.string (bs g.1))]) (λg=>[ω aP (kN x0 aB aA ay aH aG au dh dN) 56,ω bK #[.string (bs ([]:T_1)),aW,aW,aW,aW] 56,ω b141 #[.string (bs (x0.front++(nth v11.1 0 []))),.slice Pn lJ.length OM,.slice zI lI.length c198,.slice a203 cO.length CG,.slice a207 mg.length c208] 56,ε 31 1 (aF 1 ak aT).en (.slice Pn lJ.length OM) z193,ε 54 1 (aF 1 bF eu).en (.slice zI lI.length c198) P_,dO 4 dG a203 CG cO,dO 9 bF a207 c208 mg]) (λg=>g.2) (λg=>Dk_ lJ v89 lI dK x0 cO mg g.1=some z1/\ZOk g.2 (aF 1 ak aT) z193 lJ/\ZOk g.2 (aF 1 bF eu) P_ lI/\aj.le τ228 g.2) ?_ (λg j hg=> ?_)
  ·refine R5 ?_;obtain ⟨X3,hh⟩:=gd hh;refine R3 ?_;refine TC.cB z hh (λh233 hh=> ?_) (λh233 hh=> ?_)
   ·obtain ⟨u111,hh⟩:=gd hh;obtain ⟨XZ,hh⟩:=gd hh;obtain ⟨u118,hh⟩:=gd hh;refine TC.dw [] (ν 0 z fL z (χ 1 z lL z (ν 2 z mI z (χ 3 z iN z (χ 4 z l1 z (ν 5 z mS z (ν 6 z mI z (χ 7 z iN z (χ 8 z l1 z (χ 9 z (xq z kR z) z (χ 10 z (b5_ (l:=(nth x0.tail dK [])) (i:=(nth v11.1 dK []).length) z kR z z (by omega) (by omega)) z (ν 11 z (IJ (.inr z) z) z (R1 ?_)))))))))))));exact cf (((nth x0.tail dK []).drop ((nth v11.1 dK []).length)),τ228) ⟨hh,nR,eY,(aj.le.refl _)⟩ (ψ [6,6,6,6,6,6,6] 7)
   refine R1 ?_;exact cf (([]:T_1),τ228) ⟨hh,nR,eY,(aj.le.refl _)⟩ (ψ [6,6,6,6,6,6,6] 7)
  obtain ⟨KW,τ234⟩:=g;obtain ⟨hh,J3,yA,iP⟩:=hg
  try dsimp only at J3
  try dsimp only at yA
  dsimp only at iP;replace aS:=aS.mono iP;replace wQ:=wQ.mono iP;replace nR:=nR.mono iP;replace eY:=eY.mono iP;replace hr228_0:=hr228_0.mono iP;replace hr228_1:=hr228_1.mono iP
  try dsimp only
  dsimp only [Dk_]at hh;have zf230b:=J3.length;have zf231b:=yA.length;refine ζ 3 z (λNI=> ?_);refine ζ 4 z (λWH=> ?_);refine ζ 5 z (λWG=> ?_);refine ζ 6 z (λWE=> ?_);refine R5 ?_;have TI:ZOk _ (aF 1 ak aT) ([(v89.1,(a228_1,c228_1))]:List (ah×(aF 1 ak aT).P)) [v89.1]:=ZOk.cons (hr228_0) (ZOk.nil _ _);refine φ z (litZ TI z jZ jy z ku z z z (by decide) (by decide) z (by decide) z (by decide) (λa240 c241=> ?_));refine κ 4 ?_;obtain ⟨u124,hh⟩:=gd hh;refine φ z (Jk (k:=(aF 1 ak aT)) J3 TI z z jZ jy mG ku z z (by decide) z z z (.inr ⟨_,0,z⟩) (by simpa using u124) (by decide) (λSG Rz zf246=> ?_));refine ι z fL (κ 4 (R7 ?_));have Dk:ZOk _ (aF 1 bF eu) ([(v89.2.1,(a228_2,c228_2))]:List (bC×(aF 1 bF eu).P)) [v89.2.1]:=ZOk.cons (hr228_1) (ZOk.nil _ _);refine φ z (litZ Dk z underlying53 JB z PN z z z (by decide) (by decide) z (by decide) z (by decide) (λGm FX=> ?_));refine κ 6 ?_;obtain ⟨u131,hh⟩:=gd hh;refine φ z (Jk (k:=(aF 1 bF eu)) yA Dk z z underlying53 JB XO PN z z (by decide) z z z (.inr ⟨_,0,z⟩) (by simpa using u131) (by decide) (λa251 c252 pU=> ?_));refine ι z fL (κ 2 (R3 ?_));obtain ⟨u139,hh⟩:=gd hh;obtain ⟨u142,hh⟩:=gd hh;refine TC.dw [8,9,10] (ν 0 z fL z (χ 1 z lL z (ν 2 z fL z (χ 3 z lL z (ν 4 z mI z (χ 5 z iN z (χ 6 z l1 z (υ 7 z (jc (enc:=dG) [(nth x0.fin dK false)] (λa259 c260=>(k1 ?_)))))))))));refine Ω 8 (TA.la 8 z z z (apF (.inr ⟨_,0,z⟩) u142 (λCX CB=> ?_)));refine TZ.w 9 z z z fL z z (TZ.fr 2 (TZ.la 10 z z z (iH z xs_ z z z z z ?_)));refine R5 ?_;refine φ z (jc (enc:=bF) [KW] (λJp Jc=> ?_));refine κ 10 ?_;obtain ⟨u149,hh⟩:=gd hh;refine φ z (apF (.inr ⟨_,0,z⟩) u149 (λa267 c268=> ?_));refine ι z fL (κ 2 (R6 ?_));obtain ⟨hh,YM⟩:=xP hR1 hh;exact lf (((lJ++[v89.1]),(lI++[v89.2.1]),(cO++[(nth x0.fin dK false)]),(mg++[KW]),(dK+1)),(SG,Rz,(z193++([(v89.1,(a228_1,c228_1))]:List (ah×(aF 1 ak aT).P))),a251,c252,(P_++([(v89.2.1,(a228_2,c228_2))]:List (bC×(aF 1 bF eu).P))),CX,CB,a267,c268,τ234)) YM ⟨hh,wQ,zf246,pU,((qO.trans tH).trans iP)⟩ (ψ [1,3,5,7,4,10,10] 7)
 refine R1 ?_;replace hh:=bJ hR1 hh;refine R5 ?_;refine κ 3 (TL.Ji nR (λτ272 Za yQ=> ?_));replace eY:=eY.mono Za;refine κ 3 (TL.Ji eY (λτ275 Y9 DW=> ?_));replace yQ:=yQ.mono Y9;refine κ 3 (TL.jO NH (λτ278 MW LZ=> ?_));replace yQ:=yQ.mono MW;replace DW:=DW.mono MW;refine κ 3 (TL.jO eu (λτ281 Fv hr279=> ?_));replace yQ:=yQ.mono Fv;replace DW:=DW.mono Fv;replace LZ:=LZ.mono Fv;obtain ⟨Qd,u155,hh⟩:=bg hh;refine φ z (gI (I4_ (x0:=(⟨(x0.front++(nth v11.1 0 [])),lJ,lI,cO,mg⟩:Seq)) yQ DW LZ hr279 u155) z z Yb z z z ?_);refine R2 ?_;refine π z hh (λh282 hh=> ?_) (λh282 hh=> ?_)
 ·refine R3 ?_;refine κ 1 (R3 ?_);refine Ψ 1 ?_;obtain rfl:=so hh;exact rz
 refine R4 ?_;refine κ 1 (R3 ?_);refine Ψ 1 ?_;obtain rfl:=so hh;exact rz
theorem fo199_0:foOf Tryz.prog 199 0=some 0:=by kernel_rfl
theorem UF:plainF Tryz.prog 138=true:=by kernel_rfl
theorem pf139:plainF Tryz.prog 139=true:=by kernel_rfl
theorem Um:plainF Tryz.prog 184=true:=by kernel_rfl
theorem pl199:plOf Tryz.prog 199=some #[(0,1)]:=by kernel_rfl
theorem sz199:szOf Tryz.prog 199=some 1:=by kernel_rfl
theorem ze199:zeroOf Tryz.prog 199=some (.agg #[.map none]):=by kernel_rfl
def Dt_(x0:T_1)(x1:SB):Option (SB):=
 grd (x0.length<=281474976710656) (grd (-9223372036854775808<=(x0.length:Int)/\(x0.length:Int)<=9223372036854775807) (bnd (Df (⟨x1.buf⟩:SB) (Lib.itoa (x0.length:Int))) (λv4=>bnd (G7 (⟨v4.2.2.buf⟩:SB) (58:UInt8)) (λv5=>bnd (Df (⟨v5.2.buf⟩:SB) x0) (λv7=>some (⟨v7.2.2.buf⟩:SB))))))
theorem Jt_{σ:aj}{x0:T_1}{x1:SB}{u1_1:Bool}(hgl:xu σ 0 2){r:SB}(hh:Dt_ x0 x1=some r):
  Con prog 184 #[.string (bs x0),loc fG 0] σ [ω fG #[yH u1_1 fG,.slice iI x1.buf.length c1_3] 121,dO 5 jo iI c1_3 x1.buf] (λv σ' H'=> ∃(KJ:Bool), ∃Ez co3,v= .tuple #[]/\σ=σ'/\H'=[ω fG #[yH KJ fG,.slice Ez r.buf.length co3] 121,dO 5 jo Ez co3 r.buf]):=by
 dsimp only [Dt_]at hh;refine cM 10 Tryz.func184 (λw0=> ?_);obtain ⟨x0b,hh⟩:=gd hh;refine R3 ?_;refine ι z (xq z kR z) ?_;obtain ⟨u3,hh⟩:=gd hh;refine φ z (gI (nc_ hgl u3) z z xo_ z z z ?_);refine κ 1 (κ 1 ?_);obtain ⟨v4,u4,hh⟩:=bg hh;refine φ z (OpOk.call (Ri u4) z z Qa z z z z ?_);rintro _ _ _ Nc ⟨u104_1,a104_2,c104_3,rfl,rfl,rfl⟩;refine R3 ?_;refine κ 1 (κ 1 ?_);obtain ⟨v5,u5,hh⟩:=bg hh;refine φ z (OpOk.call (ia_ u5) z z tc_ z z z z ?_);rintro _ _ _ wu ⟨u106_1,a106_2,c106_3,rfl,rfl,rfl⟩;refine R3 ?_;refine κ 1 (κ 1 ?_);obtain ⟨v7,u7,hh⟩:=bg hh;refine φ z (OpOk.call (Ri u7) z z Qa z z z z ?_);rintro _ _ _ kK ⟨u108_1,a108_2,c108_3,rfl,rfl,rfl⟩;refine TL.nil ?_;obtain rfl:=so hh;exact rz
def C0_(b_:Nat)(l141:T_1):Option ((T_1×Nat)⊕(T_1)):=
 nxt (l141,(b_+1))
def F6_(x0:Seq)(x1:Int)(kZ:T_1)(b_:Nat):Option ((T_1×Nat)⊕(T_1)):=
 iteO (decide ((b_:Int)<((nth x0.next x1.toNat []).length:Int))) (iteO (decide (0<=(nth (nth x0.next x1.toNat []) b_ 0))) (bnd (G7 (⟨kZ⟩:SB) (103:UInt8)) (λv34=>grd (-9223372036854775808<=(b_:Int)/\(b_:Int)<=9223372036854775807) (bnd (Df (⟨v34.2.buf⟩:SB) (Lib.itoa (b_:Int))) (λv37=>bnd (G7 (⟨v37.2.2.buf⟩:SB) (58:UInt8)) (λv38=>grd (0<=x1/\x1<(x0.outs.length:Int)) (grd (b_<(nth x0.outs x1.toNat []).length) (bnd (Dt_ (nth (nth x0.outs x1.toNat []) b_ []) (⟨v38.2.buf⟩:SB)) (λv48=>C0_ b_ v48.buf)))))))) (C0_ b_ kZ)) (fin (bnd (Yt (⟨kZ⟩:SB)) (λv51=>some v51)))
def Cv_(x1:Int)(x0:Seq)(Fe:T_1):Option (T_1):=
 grd (0<=x1/\x1<(x0.next.length:Int)) (iter (λq:T_1×Nat=>F6_ x0 x1 q.1 q.2) (Fe,0))
def G7_(x0:Seq)(x1:Int):Option (T_1):=
 grd (0<=x1/\x1<(x0.fin.length:Int)) (iteO (nth x0.fin x1.toNat false) (bnd (G7 (⟨([]:T_1)⟩:SB) (101:UInt8)) (λv11=>grd (0<=x1/\x1<(x0.tail.length:Int)) (bnd (Dt_ (nth x0.tail x1.toNat []) (⟨v11.2.buf⟩:SB)) (λv18=>Cv_ x1 x0 v18.buf)))) (Cv_ x1 x0 ([]:T_1)))
theorem L5_{σ:aj}{x0:Seq}{x1:Int}(hgl:xu σ 0 2)(aC:RZ σ (aF 1 ak aT) (.slice aB x0.next.length aA) x0.next)(aV:RZ σ (aF 1 bF eu) (.slice ay x0.outs.length aH) x0.outs)(aS:dH σ dG aG au x0.fin)(dA:dH σ bF dh dN x0.tail){r:T_1}(hh:G7_ x0 x1=some r):
  Con prog 139 #[.agg (kN x0 aB aA ay aH aG au dh dN),.int .i64 x1] σ [] (jq (.string (bs r)) σ):=by
 dsimp only [G7_]at hh;refine cM 53 Tryz.func139 (λw0=> ?_);refine R2 ?_;refine TL.bx (λaP=> ?_);refine R4 ?_;refine TL.al (λbK=> ?_);refine TL.asH (H':=[ω bK #[yH false bK,aW] 121,ω aP (kN x0 aB aA ay aH aG au dh dN) 56]) z (R3 ?_);refine ι z (cb_ z) (ι z (RN (.inr z) z) (R1 ?_));refine TC.cutG (α:=(T_1)×(Bool×(Option Addr)×Nat)) (rgs [(10,13)]) (λg=>[]) (λg=>[ω aP (kN x0 aB aA ay aH aG au dh dN) 56,ω bK #[yH g.2.1 bK,.slice g.2.2.1 g.1.length g.2.2.2] 121,ε 5 1 jo (.slice g.2.2.1 g.1.length g.2.2.2) g.1]) (λg=>σ) (λg=>Cv_ x1 x0 g.1=some r) ?_ (λg j hg=> ?_)
 ·refine R5 ?_;obtain ⟨u9,hh⟩:=gd hh;refine R3 ?_;refine TC.cB z hh (λfD hh=> ?_) (λfD hh=> ?_)
  ·refine R2 ?_;refine TL.nilS 5 1 jo (κ 1 ?_);obtain ⟨v11,u11,hh⟩:=bg hh;refine φ z (OpOk.call (ia_ u11) z z tc_ z z z z ?_);rintro _ _ _ lU ⟨u112_1,a112_2,c112_3,rfl,rfl,rfl⟩;refine R2 ?_;refine ι z (RN (.inl z) z) (R3 ?_);obtain ⟨u16,hh⟩:=gd hh;refine R2 ?_;refine κ 1 (κ 1 ?_);obtain ⟨v18,TV,hh⟩:=bg hh;refine φ z (OpOk.call (Jt_ hgl TV) z z Um z z z z ?_);rintro _ _ _ tV ⟨u114_1,a114_2,c114_3,rfl,rfl,rfl⟩;refine R1 ?_;exact cf (v18.buf,(u114_1,a114_2,c114_3)) hh (ψ [1,1,2] 3)
  refine TC.nilS 5 1 jo (R1 ?_);exact cf (([]:T_1),(false,none,0)) hh (ψ [1,2] 3)
 obtain ⟨Fe,⟨u105,a108,c109⟩⟩:=g;have hh:=hg;clear hg
 try dsimp only
 dsimp only [Cv_]at hh;refine ζ 2 z (λN7=> ?_);refine R6 ?_;obtain ⟨u22,hh⟩:=gd hh;refine ι z iX ?_;obtain ⟨QO,Nv,hg118⟩:=RZ.seg aC x1.toNat (by omega);replace Nv:dH _ ak QO.1 QO.2 (nth x0.next x1.toNat []):=Nv;have hk118b:=Nv.rv.big;refine ι z (OpVal.of (qw z pV z hg118 z) (v':= .slice QO.1 ((nth x0.next x1.toNat []).length) QO.2) z) (R4 ?_);refine TC.lp hh (u105,a108,c109) (rgs [(7,2),(29,23)]) (λ⟨kZ,b_⟩ ⟨u131,yu,yc⟩=>([(29,.int .i64 (b_:Int))],[ω aP (kN x0 aB aA ay aH aG au dh dN) 56,ω bK #[yH u131 bK,.slice yu kZ.length yc] 121,dO 5 jo yu yc kZ])) (ψ [2,2,2] 3) ?_;rintro ⟨kZ,b_⟩ ⟨u131,yu,yc⟩ _ z1 hh hR1;dsimp only [F6_]at hh ⊢;refine ζ 2 z (λWZ=> ?_);refine R5 ?_;refine π z hh (λCb hh=> ?_) (λCb hh=> ?_)
 ·refine R1 ?_;refine TC.cutG (α:=(T_1)×(Bool×(Option Addr)×Nat)) (rgs [(7,2),(31,20)]) (λg=>[]) (λg=>[ω aP (kN x0 aB aA ay aH aG au dh dN) 56,ω bK #[yH g.2.1 bK,.slice g.2.2.1 g.1.length g.2.2.2] 121,ε 5 1 jo (.slice g.2.2.1 g.1.length g.2.2.2) g.1]) (λg=>σ) (λg=>C0_ b_ g.1=some z1) ?_ (λg j hg=> ?_)
  ·refine R14 ?_;refine π z hh (λZA hh=> ?_) (λZA hh=> ?_)
   ·refine R2 ?_;refine κ 2 (κ 2 ?_);obtain ⟨v34,u34,hh⟩:=bg hh;refine φ z (OpOk.call (ia_ u34) z z tc_ z z z z ?_);rintro _ _ _ hle145 ⟨u145_1,a145_2,c145_3,rfl,rfl,rfl⟩;refine R4 ?_;obtain ⟨u36,hh⟩:=gd hh;refine φ z (gI (nc_ hgl u36) z z xo_ z z z ?_);refine κ 1 (κ 1 ?_);obtain ⟨v37,u37,hh⟩:=bg hh;refine φ z (OpOk.call (Ri u37) z z Qa z z z z ?_);rintro _ _ _ qR ⟨u147_1,a147_2,c147_3,rfl,rfl,rfl⟩;refine R3 ?_;refine κ 1 (κ 1 ?_);obtain ⟨v38,u38,hh⟩:=bg hh;refine φ z (OpOk.call (ia_ u38) z z tc_ z z z z ?_);rintro _ _ _ hle149 ⟨u149_1,a149_2,c149_3,rfl,rfl,rfl⟩;refine R2 ?_;refine ι z (RN (.inl z) z) (R3 ?_);obtain ⟨PV,hh⟩:=gd hh;refine ι z iX ?_;obtain ⟨QD,Nl,hg151⟩:=RZ.seg aV x1.toNat (by omega);replace Nl:dH _ bF QD.1 QD.2 (nth x0.outs x1.toNat []):=Nl;have hk151b:=Nl.rv.big;refine ι z (OpVal.of (qw z KN z hg151 z) (v':= .slice QD.1 ((nth x0.outs x1.toNat []).length) QD.2) z) (TL.i z z ?_);obtain ⟨u46,hh⟩:=gd hh;refine R2 ?_;refine κ 1 (κ 1 ?_);obtain ⟨v48,u48,hh⟩:=bg hh;refine φ z (OpOk.call (Jt_ hgl u48) z z Um z z z z ?_);rintro _ _ _ hle152 ⟨u152_1,a152_2,c152_3,rfl,rfl,rfl⟩;refine R1 ?_;exact cf (v48.buf,(u152_1,a152_2,c152_3)) hh (ψ [1,1,2] 3)
   refine R1 ?_;exact cf (kZ,(u131,yu,yc)) hh (ψ [2,2,2] 3)
  obtain ⟨l141,⟨u139,SV,c143⟩⟩:=g;have hh:=hg;clear hg
  try dsimp only
  dsimp only [C0_]at hh;refine ζ 2 z (λIr=> ?_);refine R4 ?_;exact nxq hR1 hh (u139,SV,c143) (ψ [2,2,2] 3)
 refine R1 ?_;replace hh:=bJ hR1 hh;refine R3 ?_;refine κ 2 (κ 2 ?_);obtain ⟨v51,u51,hh⟩:=bg hh;refine φ z (OpOk.call (km_ u51) z z Ya z z z z ?_);rintro _ _ _ hle156 ⟨rfl,rfl,rfl⟩;refine R2 ?_;refine Ψ 0 ?_;obtain rfl:=so hh;exact rq [4] ⟨z,z,z⟩
def Df_(i104:Int)(m105:FM T_1 Int):Option (Int×Numb):=
 some (i104,(⟨m105⟩:Numb))
def Dr_(x0:Numb)(x1:T_1):Option (Int×Numb):=
 grd (x1.length<=281474976710656) (iteO (!(x0.places.has x1)) (Df_ (x0.places.n:Int) (x0.places.put x1 (x0.places.n:Int))) (Df_ (x0.places.get x1 0) x0.places))
theorem Ip_{σ:aj}{x0:Numb}{x1:T_1}{r:Int×Numb}(hh:Dr_ x0 x1=some r):
  Con prog 138 #[loc aZ 0,.string (bs x1)] σ [ω aZ #[.map (some Si)] kE,Γ iQ gX (some Si) x0.places] (λv σ' H'=> ∃bo1,v= .int .i64 r.1/\σ=σ'/\H'=[ω aZ #[.map (some bo1)] kE,Γ iQ gX (some bo1) r.2.places]):=by
 dsimp only [Dr_]at hh;refine cM 30 Tryz.func138 (λw0=> ?_);obtain ⟨x1b,hh⟩:=gd hh;refine R11 ?_;refine ι z (OpVal.of (Xh 0 (q:=x1) z AQ yF z (i:=1) z z (JH kR)) (v':= .tuple #[.int .i64 (x0.places.get x1 0),.bool (x0.places.has x1)]) z) (R6 ?_);refine TC.cutG (α:=(Int×(FM T_1 Int))×(Unit)) (rgs [(5,1),(16,13)]) (λg=>[(5,.int .i64 g.1.1)]) (λg=>[ω aZ #[.map (some Si)] kE,Γ iQ gX (some Si) g.1.2]) (λg=>σ) (λg=>Df_ g.1.1 g.1.2=some r) ?_ (λg j hg=> ?_)
 ·refine R5 ?_;refine TC.cB z hh (λfM hh=> ?_) (λfM hh=> ?_)
  ·refine R6 ?_;refine ι z (lenB z AQ z (i:=1) z) (R9 ?_);refine κ 1 (φ z (updB x1 (x0.places.n:Int) z AQ z z z z (JH kR) ?_));refine R1 ?_;exact cf (((x0.places.n:Int),(x0.places.put x1 (x0.places.n:Int))),()) hh (ψ [1] 2)
  refine R1 ?_;exact cf (((x0.places.get x1 0),x0.places),()) hh (ψ [1,1] 2)
 obtain ⟨⟨i104,m105⟩,_⟩:=g;have hh:=hg;clear hg
 try dsimp only
 dsimp only [Df_]at hh;refine R5 ?_;refine η ?_;obtain rfl:=so hh;exact rz
def Fz_(dQ:Nat)(zY:T_1):Option ((T_1×Nat)⊕((ah×(FM T_1 Int)×Nat)⊕((ah×Nat)⊕(ah×Int)))):=
 nxt (zY,(dQ+1))
def Je_(x0:Seq)(fZ:Nat)(dJ:ah)(qF:FM T_1 Int)(dI:ah)(yL:T_1)(dQ:Nat):Option ((T_1×Nat)⊕((ah×(FM T_1 Int)×Nat)⊕((ah×Nat)⊕(ah×Int)))):=
 iteO (decide ((dQ:Int)<((nth x0.next fZ []).length:Int))) (iteO (decide (0<=(nth (nth x0.next fZ []) dQ 0))) (grd (0<=(nth (nth x0.next fZ []) dQ 0)/\(nth (nth x0.next fZ []) dQ 0)<(dJ.length:Int)) (grd (0<=(nth (nth x0.next fZ []) dQ 0)/\(nth (nth x0.next fZ []) dQ 0)<(dJ.length:Int)) (grd ((yL.length+[(jd (ES .i64 (nth dJ ((nth (nth x0.next fZ []) dQ 0).toNat) 0) 8)),(jd (nth dJ ((nth (nth x0.next fZ []) dQ 0).toNat) 0))].length) * 1<=140737488355328) (Fz_ dQ (yL++[(jd (ES .i64 (nth dJ ((nth (nth x0.next fZ []) dQ 0).toNat) 0) 8)),(jd (nth dJ ((nth (nth x0.next fZ []) dQ 0).toNat) 0))]))))) (Fz_ dQ yL)) (fin (bnd (Dr_ (⟨qF⟩:Numb) yL) (λv94=>grd (fZ<dI.length) (nxt ((dI.set fZ v94.1),v94.2.places,(fZ+1))))))
def Fx_(dJ:ah)(x0:Seq)(qc:Nat)(dI:ah)(qF:FM T_1 Int)(fZ:Nat):Option ((ah×(FM T_1 Int)×Nat)⊕((ah×Nat)⊕(ah×Int))):=
 iteO (decide ((fZ:Int)<((replicate dJ.length (0:Int)).length:Int))) (grd (fZ<dJ.length) (grd (fZ<dJ.length) (grd (fZ<x0.next.length) (iter (λq:T_1×Nat=>Je_ x0 fZ dJ qF dI q.1 q.2) ([(jd (ES .i64 (nth dJ fZ 0) 8)),(jd (nth dJ fZ 0))],0))))) (fin (iteO (decide ((qF.n:Int)=(qc:Int))) (fin (some (dI,(qc:Int)))) (nxt (dI,qF.n))))
def F8_(x0:Seq)(dJ:ah)(qc:Nat):Option ((ah×Nat)⊕(ah×Int)):=
 grd (8 * dJ.length<=281474976710656) (iter (λq:ah×(FM T_1 Int)×Nat=>Fx_ dJ x0 qc q.1 q.2.1 q.2.2) ((replicate dJ.length (0:Int)),(FM.emp:FM T_1 Int),0))
def Gb_(x0:Seq)(aK:ah)(uy:FM T_1 Int)(jv:Nat):Option ((ah×(FM T_1 Int)×Nat)⊕(ah×Int)):=
 iteO (decide ((jv:Int)<((replicate x0.next.length (0:Int)).length:Int))) (bnd (G7_ x0 (jv:Int)) (λv23=>bnd (Dr_ (⟨uy⟩:Numb) v23) (λv24=>grd (jv<aK.length) (nxt ((aK.set jv v24.1),v24.2.places,(jv+1)))))) (fin (iter (λq:ah×Nat=>F8_ x0 q.1 q.2) (aK,uy.n)))
def He_(x0:Seq):Option (ah×Int):=
 grd (8 * x0.next.length<=281474976710656) (iter (λq:ah×(FM T_1 Int)×Nat=>Gb_ x0 q.1 q.2.1 q.2.2) ((replicate x0.next.length (0:Int)),(FM.emp:FM T_1 Int),0))
theorem L9_{σ:aj}{x0:Seq}(hgl:xu σ 0 2)(aC:RZ σ (aF 1 ak aT) (.slice aB x0.next.length aA) x0.next)(aV:RZ σ (aF 1 bF eu) (.slice ay x0.outs.length aH) x0.outs)(aS:dH σ dG aG au x0.fin)(dA:dH σ bF dh dN x0.tail){r:ah×Int}(hh:He_ x0=some r):
  Con prog 74 #[.agg (kN x0 aB aA ay aH aG au dh dN)] σ [] (Jz_ σ r):=by
 dsimp only [He_]at hh;refine cM 103 Tryz.func74 (λw0=> ?_);refine R2 ?_;refine TL.bx (λaP=> ?_);refine R8 ?_;obtain ⟨u7,hh⟩:=gd hh;refine φ z (mk2 (enc:=ak) (0:Int) (λjC jA=> ?_));refine φ z (as_ (enc:=iQ) (encV:=gX) z z z (λyh=> ?_));refine ι z bL (TL.al (λEu=> ?_));refine R11 ?_;refine TC.lk hh yh (rgs [(6,1),(22,11)]) (λ⟨aK,uy,jv⟩ b126=>([(22,.int .i64 (jv:Int))],[ω aP (kN x0 aB aA ay aH aG au dh dN) 56,ε 3 1 ak (.slice jC (replicate x0.next.length (0:Int)).length jA) aK,ω Eu #[.map (some b126)] 199,Γ iQ gX (some b126) uy])) (λ⟨aK,_,_⟩ _=>aK.length=(replicate x0.next.length (0:Int)).length) z (ψ [1,1,2,3] 4) ?_;rintro ⟨aK,uy,jv⟩ b126 _ z1 hh hR1 gG;dsimp only [Gb_]at hh gG ⊢;refine ζ 1 z (λIB=> ?_);refine R5 ?_;refine π z hh (λzD hh=> ?_) (λzD hh=> ?_)
 ·refine R13 ?_;obtain ⟨v23,u23,hh⟩:=bg hh;refine φ z (gI (L5_ (x0:=x0) hgl aC aV aS dA u23) z z pf139 z z z ?_);refine κ 3 (κ 3 ?_);obtain ⟨v24,u24,hh⟩:=bg hh;refine φ z (OpOk.call (Ip_ u24) z z UF z z z z ?_);rintro _ _ _ tN ⟨b130_1,rfl,rfl,rfl⟩;obtain ⟨u25,hh⟩:=gd hh;refine TL.iS 3 z (λLU=> ?_);refine ι z iN (κ 3 ?_);have y9:(aK.set jv v24.1).length=(replicate x0.next.length (0:Int)).length:=by rw [fV];exact gG
  refine φ z (sS v24.1 ?_);refine R5 ?_;exact nk hR1 hh b130_1 (ψ [2,2,2,3] 4) y9
 refine R1 ?_;replace hh:=bJ hR1 hh;refine R5 ?_;refine ι z (lenB z AQ z (i:=3) z) (R3 ?_);rw [show Value.slice jC ((replicate x0.next.length (0:Int)).length) jA=Value.slice jC aK.length jA from by rw [gG]];refine TC.lp hh (jC,jA) (rgs [(2,3),(7,5),(13,1),(36,67)]) (λ⟨dJ,qc⟩ ⟨a148,Jf⟩=>([(4,.slice a148 dJ.length Jf),(7,.int .i64 (qc:Int))],[ω aP (kN x0 aB aA ay aH aG au dh dN) 56,dO 3 ak a148 Jf dJ])) (ψ [1,1] 2) ?_;rintro ⟨dJ,qc⟩ ⟨a148,Jf⟩ _ z1 hh hR1;dsimp only [F8_]at hh ⊢;refine ζ 1 z (λNU=> ?_);refine R5 ?_;obtain ⟨u35,hh⟩:=gd hh;refine φ z (mk2 (enc:=ak) (0:Int) (λa152 wE=> ?_));refine φ z (as_ (enc:=iQ) (encV:=gX) z z z (λb155=> ?_));refine ι z bL (TL.al (λEp=> ?_));refine R11 ?_;refine TC.lk hh b155 (rgs [(10,2),(13,1),(43,49)]) (λ⟨dI,qF,fZ⟩ CS=>([(43,.int .i64 (fZ:Int))],[ω aP (kN x0 aB aA ay aH aG au dh dN) 56,dO 3 ak a148 Jf dJ,ε 3 1 ak (.slice a152 (replicate dJ.length (0:Int)).length wE) dI,ω Ep #[.map (some CS)] 199,Γ iQ gX (some CS) qF])) (λ⟨dI,_,_⟩ _=>dI.length=(replicate dJ.length (0:Int)).length) z (ψ [1,1,2,4,4] 5) ?_;rintro ⟨dI,qF,fZ⟩ CS _ z2 hh hR2 Ib;dsimp only [Fx_]at hh Ib ⊢;refine ζ 1 z (λhb177=> ?_);refine ζ 2 z (λhb178=> ?_);refine R5 ?_;refine π z hh (λh179 hh=> ?_) (λh179 hh=> ?_)
 ·refine R9 ?_;obtain ⟨u49,hh⟩:=gd hh;obtain ⟨u55,hh⟩:=gd hh;refine TC.dw [] (ν 0 z mS z (ν 1 z mI z (TA.isSl (i:=1) z (λhs185 _ _=> ?_))));refine χ 2 z iN z (χ 3 z o1 z (ν 4 z (shrI (b:=8) z z z) z (ν 5 z (EN z um yw z) z (ν 6 z mS z (ν 7 z mI z (TA.isSl (i:=1) z (λhs186 _ _=> ?_)))))));refine χ 8 z iN z (χ 9 z o1 z (ν 10 z (EN z um yw z) z (υ 11 z (jc (enc:=jo) [(jd (ES .i64 (nth dJ fZ 0) 8)),(jd (nth dJ fZ 0))] (λa187 ZV=>(k1 ?_))))));refine ν 12 z mS z (R7 ?_);obtain ⟨u63,hh⟩:=gd hh;refine ι z iN ?_;obtain ⟨Qx,Nj,hg190⟩:=RZ.seg aC fZ (by omega);replace Nj:dH _ ak Qx.1 Qx.2 (nth x0.next fZ []):=Nj;have hk190b:=Nj.rv.big;refine ι z (OpVal.of (qw z pV z hg190 z) (v':= .slice Qx.1 ((nth x0.next fZ []).length) Qx.2) z) (R4 ?_);refine TC.lk hh (a187,ZV) (rgs [(11,1),(13,1),(64,21)]) (λ⟨yL,dQ⟩ ⟨SQ,RF⟩=>([(11,.slice SQ yL.length RF),(64,.int .i64 (dQ:Int))],[ω aP (kN x0 aB aA ay aH aG au dh dN) 56,dO 3 ak a148 Jf dJ,ε 3 1 ak (.slice a152 (replicate dJ.length (0:Int)).length wE) dI,ω Ep #[.map (some CS)] 199,Γ iQ gX (some CS) qF,dO 5 jo SQ RF yL])) (λ⟨_,_⟩ ⟨_,_⟩=>dI.length=(replicate dJ.length (0:Int)).length) Ib (ψ [5,5,5,5,5] 6) ?_;rintro ⟨yL,dQ⟩ ⟨SQ,RF⟩ _ z3 hh Xb H9;dsimp only [Je_]at hh H9 ⊢;refine ζ 1 z (λhb207=> ?_);refine ζ 2 z (λWR=> ?_);refine ζ 5 z (λNQ=> ?_);refine R5 ?_;refine π z hh (λZv hh=> ?_) (λZv hh=> ?_)
  ·refine R1 ?_;refine TC.cutG (α:=(T_1)×((Option Addr)×Nat)) (rgs [(11,1),(13,1),(66,18)]) (λg=>[(11,.slice g.2.1 g.1.length g.2.2)]) (λg=>[ω aP (kN x0 aB aA ay aH aG au dh dN) 56,dO 3 ak a148 Jf dJ,ε 3 1 ak (.slice a152 (replicate dJ.length (0:Int)).length wE) dI,ω Ep #[.map (some CS)] 199,Γ iQ gX (some CS) qF,ε 5 1 jo (.slice g.2.1 g.1.length g.2.2) g.1]) (λg=>σ) (λg=>Fz_ dQ g.1=some z3/\dI.length=(replicate dJ.length (0:Int)).length) ?_ (λg j hg=> ?_)
   ·refine R12 ?_;refine π z hh (λh215 hh=> ?_) (λh215 hh=> ?_)
    ·obtain ⟨u76,hh⟩:=gd hh;obtain ⟨XV,hh⟩:=gd hh;obtain ⟨u86,hh⟩:=gd hh;refine TC.dw [13,14] (ν 0 z mS z (ν 1 z mS z (ν 2 z mI z (TA.isSl (i:=1) z (λhs223 _ _=> ?_)))));refine χ 3 z iX z (χ 4 z o1 z (ν 5 z (shrI (b:=8) z z z) z (ν 6 z (EN z um yw z) z (ν 7 z mS z (ν 8 z mI z (TA.isSl (i:=1) z (λhs224 _ _=> ?_)))))));refine χ 9 z iX z (χ 10 z o1 z (ν 11 z (EN z um yw z) z (υ 12 z (jc (enc:=jo) [(jd (ES .i64 (nth dJ ((nth (nth x0.next fZ []) dQ 0).toNat) 0) 8)),(jd (nth dJ ((nth (nth x0.next fZ []) dQ 0).toNat) 0))] (λSK c226=>(k1 ?_))))));refine Ω 6 (TA.la 13 z z z (apF (.inr ⟨_,0,z⟩) u86 (λa228 c229=> ?_)));refine TZ.w 14 z z z mS z z (R1 ?_);exact cf ((yL++[(jd (ES .i64 (nth dJ ((nth (nth x0.next fZ []) dQ 0).toNat) 0) 8)),(jd (nth dJ ((nth (nth x0.next fZ []) dQ 0).toNat) 0))]),(a228,c229)) ⟨hh,H9⟩ (ψ [6,6,6,6,6] 6)
    refine R1 ?_;exact cf (yL,(SQ,RF)) ⟨hh,H9⟩ (ψ [5,5,5,5,5,5] 6)
   obtain ⟨zY,⟨a213,FY⟩⟩:=g;obtain ⟨hh,Ea⟩:=hg
   try dsimp only at Ea ⊢
   dsimp only [Fz_]at hh;refine ζ 1 z (λhb230=> ?_);refine ζ 2 z (λhb231=> ?_);refine ζ 5 z (λhb232=> ?_);refine R4 ?_;exact nk Xb hh (a213,FY) (ψ [5,5,5,5,5,5] 6) Ea
  refine R1 ?_;replace hh:=bJ Xb hh;refine R5 ?_;refine TL.iS 5 z (λhs234=> ?_);refine ι z (bg_ (l:=yL) z underlying84 yw kR z hs234 (λw hw=>rdb_row (q:=5) z hw)) (κ 4 (κ 4 ?_));obtain ⟨v94,u94,hh⟩:=bg hh;refine φ z (OpOk.call (Ip_ u94) z z UF z z z z ?_);rintro _ _ _ iP ⟨b235_1,rfl,rfl,rfl⟩;obtain ⟨u95,hh⟩:=gd hh;refine TL.iS 4 z (λhs237=> ?_);refine ι z iN (κ 4 ?_);have hn238:(dI.set fZ v94.1).length=(replicate dJ.length (0:Int)).length:=by rw [fV];exact H9
  refine φ z (sS v94.1 ?_);refine R5 ?_;exact nk hR2 hh b235_1 (ψ [2,2,2,4,4] 5) hn238
 refine R1 ?_;replace hh:=bJ hR2 hh;refine R11 ?_;refine ι z (lenB z AQ z (i:=4) z) (R3 ?_);refine π z hh (λh240 hh=> ?_) (λh240 hh=> ?_)
 ·refine R7 ?_;rw [show Value.slice a152 ((replicate dJ.length (0:Int)).length) wE=Value.slice a152 dI.length wE from by rw [Ib]];refine TC.fr 2 (TC.jO aT (λτ243 qM Vz=> ?_));have hr241b:=Vz.rv.big;refine Ψ 0 ?_;replace hh:=bJ hR1 hh;obtain rfl:=so hh;exact rq [2,3] ⟨a152,wE,z,Vz,z⟩
 refine R4 ?_;refine ι z (lenB z AQ z (i:=4) z) (TL.i z z ?_);rw [show Value.slice a152 ((replicate dJ.length (0:Int)).length) wE=Value.slice a152 dI.length wE from by rw [Ib]];refine R1 ?_;exact nxq hR1 hh (a152,wE) (ψ [2,1] 2)
theorem pf73:plainF Tryz.prog 73=true:=by kernel_rfl
theorem pf74:plainF Tryz.prog 74=true:=by kernel_rfl
theorem pf75:plainF Tryz.prog 75=true:=by kernel_rfl
theorem pf76:plainF Tryz.prog 76=true:=by kernel_rfl
theorem Yc:plainF Tryz.prog 77=true:=by kernel_rfl
def Ix_(x0:Seq)(bQ:ah)(eG:Nat)(x1:ah)(vH:ah)(bD:ah)(d_:Nat):Option ((ah×ah×Nat)⊕((ah×ah×Nat)⊕(ah×ah))):=
 iteO (decide ((d_:Int)<((nth x0.next ((nth bQ eG 0).toNat) []).length:Int))) (iteO (decide (0<=(nth (nth x0.next ((nth bQ eG 0).toNat) []) d_ 0))) (grd (0<=(nth (nth x0.next ((nth bQ eG 0).toNat) []) d_ 0)/\(nth (nth x0.next ((nth bQ eG 0).toNat) []) d_ 0)<(x1.length:Int)) (grd (0<=(nth x1 ((nth (nth x0.next ((nth bQ eG 0).toNat) []) d_ 0).toNat) 0)/\(nth x1 ((nth (nth x0.next ((nth bQ eG 0).toNat) []) d_ 0).toNat) 0)<(vH.length:Int)) (iteO (decide ((nth vH ((nth x1 ((nth (nth x0.next ((nth bQ eG 0).toNat) []) d_ 0).toNat) 0).toNat) 0)<0)) (grd (0<=(nth (nth x0.next ((nth bQ eG 0).toNat) []) d_ 0)/\(nth (nth x0.next ((nth bQ eG 0).toNat) []) d_ 0)<(x1.length:Int)) (grd (0<=(nth x1 ((nth (nth x0.next ((nth bQ eG 0).toNat) []) d_ 0).toNat) 0)/\(nth x1 ((nth (nth x0.next ((nth bQ eG 0).toNat) []) d_ 0).toNat) 0)<(vH.length:Int)) (grd ((bD.length+[(nth (nth x0.next ((nth bQ eG 0).toNat) []) d_ 0)].length) * 8<=140737488355328) (nxt ((vH.set ((nth x1 ((nth (nth x0.next ((nth bQ eG 0).toNat) []) d_ 0).toNat) 0).toNat) (bD.length:Int)),(bD++[(nth (nth x0.next ((nth bQ eG 0).toNat) []) d_ 0)]),(d_+1)))))) (nxt (vH,bD,(d_+1)))))) (nxt (vH,bD,(d_+1)))) (fin (nxt (vH,bD,(eG+1))))
def F3_(x0:Seq)(x1:ah)(dD:ah)(bQ:ah)(eG:Nat):Option ((ah×ah×Nat)⊕(ah×ah)):=
 iteO (decide ((eG:Int)<(bQ.length:Int))) (grd (0<=(nth bQ eG 0)/\(nth bQ eG 0)<(x0.next.length:Int)) (iter (λq:ah×ah×Nat=>Ix_ x0 bQ eG x1 q.1 q.2.1 q.2.2) (dD,bQ,0))) (fin (some (bQ,dD)))
def F0_(x2:Int)(x1:ah)(x0:Seq)(dY:ah)(iZ:Nat):Option ((ah×Nat)⊕(ah×ah)):=
 iteO (decide ((iZ:Int)<((replicate x2.toNat (0:Int)).length:Int))) (grd (iZ<dY.length) (nxt ((dY.set iZ (-1)),(iZ+1)))) (fin (grd (0<x1.length) (grd (0<=(nth x1 0 0)/\(nth x1 0 0)<(dY.length:Int)) (iter (λq:ah×ah×Nat=>F3_ x0 x1 q.1 q.2.1 q.2.2) ((dY.set ((nth x1 0 0).toNat) 0),[0],0)))))
def Gw_(x0:Seq)(x1:ah)(x2:Int):Option (ah×ah):=
 grd (0<=x2/\8 * x2.toNat<=281474976710656) (iter (λq:ah×Nat=>F0_ x2 x1 x0 q.1 q.2) ((replicate x2.toNat (0:Int)),0))
theorem L7_{σ:aj}{x0:Seq}{x1:ah}{x2:Int}(aC:RZ σ (aF 1 ak aT) (.slice aB x0.next.length aA) x0.next)(aV:RZ σ (aF 1 bF eu) (.slice ay x0.outs.length aH) x0.outs)(aS:dH σ dG aG au x0.fin)(dA:dH σ bF dh dN x0.tail)(bn:dH σ ak bY bW x1){r:ah×ah}(hh:Gw_ x0 x1 x2=some r):
  Con prog 75 #[.agg (kN x0 aB aA ay aH aG au dh dN),.slice bY x1.length bW,.int .i64 x2] σ [] (Ko_ σ r):=by
 dsimp only [Gw_]at hh;refine cM 77 Tryz.func75 (λw0=> ?_);refine R2 ?_;refine TL.bx (λaP=> ?_);refine R6 ?_;obtain ⟨u5,hh⟩:=gd hh;refine φ rfl (CV (m:=x2.toNat) (enc:=ak) (0:Int) rfl sU oq IG yF rfl rfl (vN u5.1) (vN u5.1) (by omega) (by decide) aT (by decide) rfl GL (λjC jA=> ?_));refine R10 ?_;refine TC.lk hh () (rgs [(9,1),(18,7)]) (λ⟨dY,iZ⟩ _=>([(18,.int .i64 (iZ:Int))],[ω aP (kN x0 aB aA ay aH aG au dh dN) 56,ε 3 1 ak (.slice jC (replicate x2.toNat (0:Int)).length jA) dY])) (λ⟨dY,_⟩ _=>dY.length=(replicate x2.toNat (0:Int)).length) z (ψ [1] 2) ?_;rintro ⟨dY,iZ⟩ _ _ z1 hh hR1 xg;dsimp only [F0_]at hh xg ⊢;refine ζ 1 z (λhb115=> ?_);refine R5 ?_;refine π z hh (λh116 hh=> ?_) (λh116 hh=> ?_)
 ·refine R11 ?_;obtain ⟨u15,hh⟩:=gd hh;refine TL.iS 1 z (λhs117=> ?_);refine ι z iN (κ 1 ?_);have wX:(dY.set iZ (-1)).length=(replicate x2.toNat (0:Int)).length:=by rw [fV];exact xg
  refine φ z (sS (-1) ?_);refine R5 ?_;exact nk hR1 hh () (ψ [1] 2) wX
 refine R1 ?_;replace hh:=bJ hR1 hh;refine R3 ?_;refine φ z (jc (enc:=ak) [0] (λC9 CQ=> ?_));refine R6 ?_;obtain ⟨u23,hh⟩:=gd hh;refine ι z (A_ (i:=0) z sU oq z z bn.rv.sl (by omega)) (ι z l1 ?_);obtain ⟨u25,hh⟩:=gd hh;refine TL.iS 2 z (λhs123=> ?_);refine ι z iX (κ 2 ?_);have Ee:(dY.set ((nth x1 0 0).toNat) 0).length=(replicate x2.toNat (0:Int)).length:=by rw [fV];exact xg
 refine φ z (sS 0 ?_);refine R7 ?_;refine TC.lk hh (C9,CQ) (rgs [(10,2),(13,1),(31,44)]) (λ⟨dD,bQ,eG⟩ ⟨a141,oV⟩=>([(10,.slice a141 bQ.length oV),(11,.int .i64 (eG:Int))],[ω aP (kN x0 aB aA ay aH aG au dh dN) 56,ε 3 1 ak (.slice jC (replicate x2.toNat (0:Int)).length jA) dD,dO 3 ak a141 oV bQ])) (λ⟨dD,_,_⟩ ⟨_,_⟩=>dD.length=(replicate x2.toNat (0:Int)).length) Ee (ψ [1,1,2] 3) ?_;rintro ⟨dD,bQ,eG⟩ ⟨a141,oV⟩ _ z1 hh hR1 sF;dsimp only [F3_]at hh sF ⊢;refine ζ 1 z (λhb144=> ?_);refine ζ 2 z (λIw=> ?_);refine R8 ?_;refine π z hh (λOg hh=> ?_) (λOg hh=> ?_)
 ·refine R4 ?_;obtain ⟨u38,hh⟩:=gd hh;refine TC.dw [] (ν 0 z fL z (χ 1 z lL z (ν 2 z mS z (ν 3 z mI z (TA.isSl (i:=2) z (λLQ _ _=> ?_))))));refine χ 4 z iN z (χ 5 z o1 z (χ 6 z iX z ?_));obtain ⟨zW,uN,NC⟩:=RZ.seg aC ((nth bQ eG 0).toNat) (by omega);replace uN:dH _ ak zW.1 zW.2 (nth x0.next ((nth bQ eG 0).toNat) []):=uN;have hk150b:=uN.rv.big;refine χ 7 z (OpVal.of (qw z pV z NC z) (v':= .slice zW.1 ((nth x0.next ((nth bQ eG 0).toNat) []).length) zW.2) z) z (χ 8 z lC z (ν 9 z mI z (R2 ?_)));refine TC.lk hh (a141,oV) (rgs [(10,1),(13,1),(46,29)]) (λ⟨vH,bD,d_⟩ ⟨a167,c168⟩=>([(10,.slice a167 bD.length c168),(46,.int .i64 (d_:Int))],[ω aP (kN x0 aB aA ay aH aG au dh dN) 56,ε 3 1 ak (.slice jC (replicate x2.toNat (0:Int)).length jA) vH,dO 3 ak a167 c168 bD])) (λ⟨vH,_,_⟩ ⟨_,_⟩=>vH.length=(replicate x2.toNat (0:Int)).length) sF (ψ [2,2,2] 3) ?_;rintro ⟨vH,bD,d_⟩ ⟨a167,c168⟩ _ z2 hh hR2 Eb;dsimp only [Ix_]at hh Eb ⊢;refine ζ 1 z (λIp=> ?_);refine ζ 2 z (λNR=> ?_);refine R5 ?_;refine π z hh (λZw hh=> ?_) (λZw hh=> ?_)
  ·refine R14 ?_;refine δ 52 z (λzC=> ?_) (λzC=> ?_)
   ·obtain ⟨zC,hh⟩:=iT zC hh;refine R3 ?_;obtain ⟨Qe,hh⟩:=gd hh;refine R2 ?_;obtain ⟨u54,hh⟩:=gd hh;refine TL.iS 1 z (λhs174=> ?_);refine R5 ?_;refine π z hh (λN_ hh=> ?_) (λN_ hh=> ?_)
    ·refine R5 ?_;obtain ⟨u61,hh⟩:=gd hh;refine R4 ?_;obtain ⟨PS,hh⟩:=gd hh;refine TL.iS 1 z (λhs176=> ?_);refine ι z iX (κ 1 ?_);have MG:(vH.set ((nth x1 ((nth (nth x0.next ((nth bQ eG 0).toNat) []) d_ 0).toNat) 0).toNat) (bD.length:Int)).length=(replicate x2.toNat (0:Int)).length:=by rw [fV];exact Eb
     refine φ z (sS (bD.length:Int) ?_);refine R4 ?_;refine φ z (jc (enc:=ak) [(nth (nth x0.next ((nth bQ eG 0).toNat) []) d_ 0)] (λPo OO=> ?_));refine κ 3 ?_;obtain ⟨u70,hh⟩:=gd hh;refine φ z (apF (.inr ⟨_,0,z⟩) u70 (λa181 c182=> ?_));refine R6 ?_;exact nk hR2 hh (a181,c182) (ψ [2,3] 3) MG
    refine R5 ?_;exact nk hR2 hh (a167,c168) (ψ [2,2,2] 3) Eb
   obtain ⟨zC,hh⟩:=iF zC hh;refine R16 ?_;exact nk hR2 hh (a167,c168) (ψ [2,2,2] 3) Eb
  refine R1 ?_;replace hh:=bJ hR2 hh;refine R6 ?_;exact nk hR1 hh (a167,c168) (ψ [2,2,2] 3) Eb
 refine R1 ?_;replace hh:=bJ hR1 hh;refine R8 ?_;rw [<-sF];refine TC.fr 2 (TC.jO aT (λτ189 pq yR=> ?_));refine TC.fr 1 (TC.jO aT (λτ192 FI DZ=> ?_));replace yR:=yR.mono FI;have hr190b:=DZ.rv.big;refine Ψ 0 ?_;obtain rfl:=so hh;exact rq [6,7] ⟨a141,oV,jC,jA,z,yR,DZ,z⟩
def Jc_(x1:ah)(x0:B_1)(gQ:B_1)(aJ:Nat):Option ((B_1×Nat)⊕(B_1)):=
 iteO (decide ((aJ:Int)<(x1.length:Int))) (grd (0<=(nth x1 aJ 0)/\(nth x1 aJ 0)<(x0.length:Int)) (grd (aJ<gQ.length) (nxt ((gQ.set aJ (nth x0 ((nth x1 aJ 0).toNat) false)),(aJ+1))))) (fin (some gQ))
def Hr_(x0:B_1)(x1:ah):Option (B_1):=
 grd (1 * x1.length<=281474976710656) (iter (λq:B_1×Nat=>Jc_ x1 x0 q.1 q.2) ((replicate x1.length false),0))
theorem Ku_{σ:aj}{x0:B_1}{x1:ah}(aC:dH σ dG aB aA x0)(bn:dH σ ak bY bW x1){r:B_1}(hh:Hr_ x0 x1=some r):
  Con prog 76 #[.slice aB x0.length aA,.slice bY x1.length bW] σ [] (Iw_ σ r):=by
 dsimp only [Hr_]at hh;refine cM 27 Tryz.func76 (λw0=> ?_);refine R8 ?_;obtain ⟨u4,hh⟩:=gd hh;refine φ z (mk2 (enc:=dG) false (λoh nN=> ?_));refine R10 ?_;refine TC.lk hh () (rgs [(6,2),(13,13)]) (λ⟨gQ,aJ⟩ _=>([(13,.int .i64 (aJ:Int))],[ε 4 1 dG (.slice oh (replicate x1.length false).length nN) gQ])) (λ⟨gQ,_⟩ _=>gQ.length=(replicate x1.length false).length) z (θ 1 z) ?_;rintro ⟨gQ,aJ⟩ _ _ z1 hh hR1 lq;dsimp only [Jc_]at hh lq ⊢;refine ζ 0 z (λN8=> ?_);refine R5 ?_;refine π z hh (λjI hh=> ?_) (λjI hh=> ?_)
 ·refine R16 ?_;obtain ⟨yG,hh⟩:=gd hh;refine R2 ?_;obtain ⟨u21,hh⟩:=gd hh;refine TL.iS 0 z (λVm=> ?_);refine ι z iN ?_;have wY:(gQ.set aJ (nth x0 ((nth x1 aJ 0).toNat) false)).length=(replicate x1.length false).length:=by rw [fV];exact lq
  refine φ z (sS (nth x0 ((nth x1 aJ 0).toNat) false) ?_);refine R5 ?_;exact nk hR1 hh () (θ 1 z) wY
 refine R1 ?_;replace hh:=bJ hR1 hh;refine R6 ?_;rw [<-lq];refine η ?_;obtain rfl:=so hh;exact rz
def I7_(x1:ah)(x0:bC)(gQ:bC)(aJ:Nat):Option ((bC×Nat)⊕(bC)):=
 iteO (decide ((aJ:Int)<(x1.length:Int))) (grd (0<=(nth x1 aJ 0)/\(nth x1 aJ 0)<(x0.length:Int)) (grd (aJ<gQ.length) (nxt ((gQ.set aJ (nth x0 ((nth x1 aJ 0).toNat) [])),(aJ+1))))) (fin (some gQ))
def Hd_(x0:bC)(x1:ah):Option (bC):=
 grd (16 * x1.length<=281474976710656) (iter (λq:bC×Nat=>I7_ x1 x0 q.1 q.2) ((replicate x1.length ([]:T_1)),0))
def Mt_(σ:aj)(r:bC):Value->aj->List Res->Prop:=λv σ' H'=>
 ∃a1 c1,v= .slice a1 r.length c1/\σ=σ'/\H'=[dO 9 bF a1 c1 r]
theorem H9_{σ:aj}{x0:bC}{x1:ah}(aC:dH σ bF aB aA x0)(bn:dH σ ak bY bW x1){r:bC}(hh:Hd_ x0 x1=some r):
  Con prog 77 #[.slice aB x0.length aA,.slice bY x1.length bW] σ [] (Mt_ σ r):=by
 dsimp only [Hd_]at hh;refine cM 27 Tryz.func77 (λw0=> ?_);refine R8 ?_;obtain ⟨u4,hh⟩:=gd hh;refine φ z (mk2 (enc:=bF) ([]:T_1) (λoh nN=> ?_));refine R10 ?_;refine TC.lk hh () (rgs [(6,2),(13,13)]) (λ⟨gQ,aJ⟩ _=>([(13,.int .i64 (aJ:Int))],[ε 9 1 bF (.slice oh (replicate x1.length ([]:T_1)).length nN) gQ])) (λ⟨gQ,_⟩ _=>gQ.length=(replicate x1.length ([]:T_1)).length) z (θ 1 z) ?_;rintro ⟨gQ,aJ⟩ _ _ z1 hh hR1 lq;dsimp only [I7_]at hh lq ⊢;refine ζ 0 z (λN8=> ?_);refine R5 ?_;refine π z hh (λjI hh=> ?_) (λjI hh=> ?_)
 ·refine R16 ?_;obtain ⟨yG,hh⟩:=gd hh;refine R2 ?_;obtain ⟨u21,hh⟩:=gd hh;refine TL.iS 0 z (λVm=> ?_);refine ι z iN ?_;have wY:(gQ.set aJ (nth x0 ((nth x1 aJ 0).toNat) [])).length=(replicate x1.length ([]:T_1)).length:=by rw [fV];exact lq
  refine φ z (sS (nth x0 ((nth x1 aJ 0).toNat) []) ?_);refine R5 ?_;exact nk hR1 hh () (θ 1 z) wY
 refine R1 ?_;replace hh:=bJ hR1 hh;refine R6 ?_;rw [<-lq];refine η ?_;obtain rfl:=so hh;exact rz
def Fn_(v24:ah×Int)(v33:ah×ah)(dI:aO)(jT:iC)(v5:Seq×Int)(bU:Nat)(l9:ah)(oL:Nat):Option ((ah×Nat)⊕((aO×iC×Nat)⊕(Seq×Int))):=
 iteO (decide ((oL:Int)<((replicate 256 (0:Int)).length:Int))) (grd (oL<l9.length) (iteO (decide (0<=(nth l9 oL 0))) (grd (0<=(nth l9 oL 0)/\(nth l9 oL 0)<(v24.1.length:Int)) (grd (0<=(nth v24.1 ((nth l9 oL 0).toNat) 0)/\(nth v24.1 ((nth l9 oL 0).toNat) 0)<(v33.2.length:Int)) (grd (oL<l9.length) (nxt ((l9.set oL (nth v33.2 ((nth v24.1 ((nth l9 oL 0).toNat) 0).toNat) 0)),(oL+1)))))) (nxt (l9,(oL+1))))) (fin (grd ((dI.length+[l9].length) * 24<=140737488355328) (grd ((jT.length+[((replicate 256 ([]:T_1)).take 0++((nth v5.1.outs ((nth v33.1 bU 0).toNat) []).take (min (nth v5.1.outs ((nth v33.1 bU 0).toNat) []).length (replicate 256 ([]:T_1)).length)++(replicate 256 ([]:T_1)).drop (0+(min (nth v5.1.outs ((nth v33.1 bU 0).toNat) []).length (replicate 256 ([]:T_1)).length))))].length) * 24<=140737488355328) (nxt ((dI++[l9]),(jT++[((replicate 256 ([]:T_1)).take 0++((nth v5.1.outs ((nth v33.1 bU 0).toNat) []).take (min (nth v5.1.outs ((nth v33.1 bU 0).toNat) []).length (replicate 256 ([]:T_1)).length)++(replicate 256 ([]:T_1)).drop (0+(min (nth v5.1.outs ((nth v33.1 bU 0).toNat) []).length (replicate 256 ([]:T_1)).length))))]),(bU+1))))))
def Fs_(v33:ah×ah)(bU:Nat)(v5:Seq×Int)(v24:ah×Int)(dI:aO)(jT:iC):Option ((aO×iC×Nat)⊕(Seq×Int)):=
 grd (0<=(nth v33.1 bU 0)/\(nth v33.1 bU 0)<(v5.1.next.length:Int)) (grd (0<=(nth v33.1 bU 0)/\(nth v33.1 bU 0)<(v5.1.outs.length:Int)) (iter (λq:ah×Nat=>Fn_ v24 v33 dI jT v5 bU q.1 q.2) (((replicate 256 (0:Int)).take 0++((nth v5.1.next ((nth v33.1 bU 0).toNat) []).take (min (nth v5.1.next ((nth v33.1 bU 0).toNat) []).length (replicate 256 (0:Int)).length)++(replicate 256 (0:Int)).drop (0+(min (nth v5.1.next ((nth v33.1 bU 0).toNat) []).length (replicate 256 (0:Int)).length)))),0)))
def Ei_(v33:ah×ah)(v5:Seq×Int)(v24:ah×Int)(gK:B_1)(dF:bC)(dI:aO)(jT:iC)(bU:Nat):Option ((aO×iC×Nat)⊕(Seq×Int)):=
 iteO (decide ((bU:Int)<(v33.1.length:Int))) (Fs_ v33 bU v5 v24 dI jT) (fin (some ((⟨v5.1.front,dI,jT,gK,dF⟩:Seq),0)))
def Fm_(v33:ah×ah)(v5:Seq×Int)(v24:ah×Int)(gK:B_1)(dF:bC):Option (Seq×Int):=
 iter (λq:aO×iC×Nat=>Ei_ v33 v5 v24 gK dF q.1 q.2.1 q.2.2) (([]:aO),([]:iC),0)
def H7_(x0:Seq):Option (Seq×Int):=
 bnd (It_ x0) (λv5=>iteO (decide (v5.2≠0)) (some ((⟨([]:T_1),([]:aO),([]:iC),([]:B_1),([]:bC)⟩:Seq),v5.2)) (iteO (decide ((v5.1.next.length:Int)=0)) (some ((⟨([]:T_1),([]:aO),([]:iC),([]:B_1),([]:bC)⟩:Seq),v5.2)) (bnd (He_ v5.1) (λv24=>bnd (Gw_ v5.1 v24.1 v24.2) (λv33=>bnd (Hr_ v5.1.fin v33.1) (λv44=>bnd (Hd_ v5.1.tail v33.1) (λv48=>Fm_ v33 v5 v24 v44 v48)))))))
theorem Mq_{σ:aj}{x0:Seq}(hgl:xu σ 0 2)(aC:RZ σ (aF 1 ak aT) (.slice aB x0.next.length aA) x0.next)(aV:RZ σ (aF 1 bF eu) (.slice ay x0.outs.length aH) x0.outs)(aS:dH σ dG aG au x0.fin)(dA:dH σ bF dh dN x0.tail){r:Seq×Int}(hh:H7_ x0=some r):
  Con prog 27 #[.agg (kN x0 aB aA ay aH aG au dh dN)] σ [] (Lw_ σ r):=by
 dsimp only [H7_]at hh;refine cM 110 Tryz.func27 (λw0=> ?_);refine R2 ?_;refine TL.bx (λaP=> ?_);refine TL.al (λbK=> ?_);refine R5 ?_;obtain ⟨v5,u5,hh⟩:=bg hh;refine φ z (OpOk.call (Mj_ (x0:=x0) aC aV aS dA u5) z z pf73 z z z z ?_);rintro _ τ105 _ jH ⟨a105_1,c105_1,a105_2,c105_2,a105_3,c105_3,a105_4,c105_4,rfl,hr105_0,hr105_1,hr105_2,hr105_3,rfl⟩;replace hgl:=hgl.mono jH;refine R3 ?_;refine κ 1 (R9 ?_);refine δ 23 z (λfM=> ?_) (λfM=> ?_)
 ·obtain ⟨fM,hh⟩:=iT fM hh;refine R11 ?_;refine κ 1 (R3 ?_);refine Ψ 1 ?_;obtain rfl:=so hh;exact rz
 obtain ⟨fM,hh⟩:=iF fM hh;refine R6 ?_;refine π z hh (λgq hh=> ?_) (λgq hh=> ?_)
 ·refine R4 ?_;refine κ 1 (R3 ?_);refine Ψ 1 ?_;obtain rfl:=so hh;exact rz
 refine R4 ?_;obtain ⟨v24,u24,hh⟩:=bg hh;refine φ z (OpOk.call (L9_ (x0:=v5.1) hgl hr105_0 hr105_1 hr105_2 hr105_3 u24) z z pf74 z z z z ?_);rintro _ τ108 _ kK ⟨a108_1,c108_1,rfl,hr108_0,rfl⟩;replace hr105_0:=hr105_0.mono kK;replace hr105_1:=hr105_1.mono kK;replace hr105_2:=hr105_2.mono kK;replace hr105_3:=hr105_3.mono kK;refine R11 ?_;obtain ⟨v33,u33,hh⟩:=bg hh;refine φ z (OpOk.call (L7_ (x0:=v5.1) hr105_0 hr105_1 hr105_2 hr105_3 hr108_0 u33) z z pf75 z z z z ?_);rintro _ τ109 _ fK ⟨a109_1,c109_1,a109_2,c109_2,rfl,hr109_0,hr109_1,rfl⟩;replace hr105_0:=hr105_0.mono fK;replace hr105_1:=hr105_1.mono fK;replace hr105_2:=hr105_2.mono fK;replace hr105_3:=hr105_3.mono fK;replace hr108_0:=hr108_0.mono fK;have hr109_0b:=hr109_0.rv.big;have hr109_1b:=hr109_1.rv.big;refine R6 ?_;refine TC.cutG (α:=(B_1×bC)×(Nat×(Option Addr)×Nat×(Option Addr)×Nat)) (rgs [(9,1),(43,11)]) (λg=>[(9,loc g.2.1 0)]) (λg=>[ω aP (kN v5.1 a105_1 c105_1 a105_2 c105_2 a105_3 c105_3 a105_4 c105_4) 56,ω bK #[.string (bs ([]:T_1)),aW,aW,aW,aW] 56,ω g.2.1 #[.string (bs v5.1.front),aW,aW,.slice g.2.2.1 g.1.1.length g.2.2.2.1,.slice g.2.2.2.2.1 g.1.2.length g.2.2.2.2.2] 56,ε 4 1 dG (.slice g.2.2.1 g.1.1.length g.2.2.2.1) g.1.1,ε 9 1 bF (.slice g.2.2.2.2.1 g.1.2.length g.2.2.2.2.2) g.1.2]) (λg=>τ109) (λg=>Fm_ v33 v5 v24 g.1.1 g.1.2=some r) ?_ (λg j hg=> ?_)
 ·obtain ⟨v44,u44,hh⟩:=bg hh;obtain ⟨v48,u48,hh⟩:=bg hh;refine TC.dw [12] (ν 0 z fL z (χ 1 z lL z (ν 2 z fL z (χ 3 z lL z (ν 4 z mS z (ν 6 z fL z (χ 7 z lL z (ν 8 z mS z (TA.aN [5,11] (an z z (OpOk.call (Ku_ hr105_2 hr109_0 u44) z z pf76 z z z z ?_) (an z z (OpOk.alloc z Kw z z (λR_=>(k1 ?_))) (True.intro))))))))))))
  ·rintro _ _ _ Na ⟨a126_1,c126_1,rfl,rfl,rfl⟩;refine k1 (TA.aN [9,11] (an z z (OpOk.call (H9_ hr105_3 hr109_0 u48) z z Yc z z z z ?_) (an z z (OpOk.alloc z Kw z z (λb132=>(k2 ?_))) (True.intro))))
   ·rintro _ _ _ tN ⟨a130_1,c130_1,rfl,rfl,rfl⟩;refine k2 (ν 10 z bL z (υ 11 z (OpOk.alloc z Kw z z (λb134=>(k3 ?_)))));refine TA.la 12 z z z (storeAll z TT z z z z z z ?_);refine R1 ?_;exact cf ((v44,v48),(b134,a126_1,c126_1,a130_1,c130_1)) hh (ψ [1,2,2,4,4] 5)
   refine υ 9 z (OpOk.call (H9_ hr105_3 hr109_0 u48) z z Yc z z z z ?_);rintro _ _ _ Zi ⟨a136_1,c136_1,rfl,rfl,rfl⟩;refine k3 (ν 10 z bL z (Ω 1 (TA.la 12 z z z (storeAll z TT z z z z z z ?_))));refine R1 ?_;exact cf ((v44,v48),(b132,a126_1,c126_1,a136_1,c136_1)) hh (ψ [1,2,2,4,4] 5)
  refine υ 5 z (OpOk.call (Ku_ hr105_2 hr109_0 u44) z z pf76 z z z z ?_);rintro _ _ _ hle138 ⟨a138_1,c138_1,rfl,rfl,rfl⟩;refine k2 (υ 9 z (OpOk.call (H9_ hr105_3 hr109_0 u48) z z Yc z z z z ?_));rintro _ _ _ Zh ⟨a140_1,c140_1,rfl,rfl,rfl⟩;refine k3 (ν 10 z bL z (Ω 2 (TA.la 12 z z z (storeAll z TT z z z z z z ?_))));refine R1 ?_;exact cf ((v44,v48),(R_,a138_1,c138_1,a140_1,c140_1)) hh (ψ [1,2,2,4,4] 5)
 obtain ⟨⟨gK,dF⟩,⟨uT,mM,mJ,lX,c119⟩⟩:=g;have hh:=hg;clear hg
 try dsimp only
 dsimp only [Fm_]at hh;refine ζ 3 z (λhb142=> ?_);refine ζ 4 z (λNV=> ?_);refine R8 ?_;refine TC.nilS 31 1 (aF 1 ak aT).en ?_;have yC:=ZOk.nil τ109 (aF 1 ak aT);refine TC.nilS 54 1 (aF 1 bF eu).en ?_;have Dn:=ZOk.nil τ109 (aF 1 bF eu);refine TC.Ak (α:=(aO×iC×Nat)×((Option Addr)×Nat×(List (ah×(aF 1 ak aT).P))×(Option Addr)×Nat×(List (bC×(aF 1 bF eu).P))×aj)) (rgs [(11,5),(56,53)]) (λg=>[(56,.int .i64 (g.1.2.2:Int))]) (λg=>[ω aP (kN v5.1 a105_1 c105_1 a105_2 c105_2 a105_3 c105_3 a105_4 c105_4) 56,ω bK #[.string (bs ([]:T_1)),aW,aW,aW,aW] 56,ω uT #[.string (bs v5.1.front),.slice g.2.1 g.1.1.length g.2.2.1,.slice g.2.2.2.2.1 g.1.2.1.length g.2.2.2.2.2.1,.slice mM gK.length mJ,.slice lX dF.length c119] 56,ε 31 1 (aF 1 ak aT).en (.slice g.2.1 g.1.1.length g.2.2.1) g.2.2.2.1,ε 54 1 (aF 1 bF eu).en (.slice g.2.2.2.2.1 g.1.2.1.length g.2.2.2.2.2.1) g.2.2.2.2.2.2.1,dO 4 dG mM mJ gK,dO 9 bF lX c119 dF]) (λg=>g.2.2.2.2.2.2.2) (λg=>iter (λq:aO×iC×Nat=>Ei_ v33 v5 v24 gK dF q.1 q.2.1 q.2.2) g.1=some r/\ZOk g.2.2.2.2.2.2.2 (aF 1 ak aT) g.2.2.2.1 g.1.1/\ZOk g.2.2.2.2.2.2.2 (aF 1 bF eu) g.2.2.2.2.2.2.1 g.1.2.1/\aj.le τ109 g.2.2.2.2.2.2.2) (λg=>rQ (λq:aO×iC×Nat=>Ei_ v33 v5 v24 gK dF q.1 q.2.1 q.2.2) g.1) ((([]:aO),([]:iC),0),(none,0,[],none,0,[],τ109)) (ψ [6,6,2,3,6,6,6] 7) z (by repeat (first|exact trivial|refine ⟨z,?_⟩)) ⟨hh,yC,Dn,(aj.le.refl _)⟩ (λg1 j1 hg1=> ?_);obtain ⟨⟨dI,jT,bU⟩,⟨EC,c173,KA,Po,OO,Kz,τ187⟩⟩:=g1;obtain ⟨hh,lY,kW,pq⟩:=hg1
 try dsimp only at lY
 try dsimp only at kW
 dsimp only at pq;replace hr105_0:=hr105_0.mono pq;replace hr105_1:=hr105_1.mono pq;replace hr108_0:=hr108_0.mono pq;replace hr109_0:=hr109_0.mono pq;replace hr109_1:=hr109_1.mono pq
 try dsimp only
 obtain ⟨z1,hh,hR1⟩:=zQ hh;dsimp only [Ei_]at hh;have zf175b:=lY.length;have zf181b:=kW.length;refine ζ 3 z (λhb189=> ?_);refine ζ 4 z (λhb190=> ?_);refine ζ 5 z (λhb191=> ?_);refine ζ 6 z (λhb192=> ?_);refine R5 ?_;refine π z hh (λh193 hh=> ?_) (λh193 hh=> ?_)
 ·refine R9 ?_;refine TC.cutG (α:=(Unit)×((Option Addr)×Nat×(Option Addr)×Nat×aj)) [12,13,60,61] (λg=>[(12,.slice g.2.1 ((replicate 256 (0:Int)).length) g.2.2.1),(13,.slice g.2.2.2.1 ((replicate 256 ([]:T_1)).length) g.2.2.2.2.1)]) (λg=>[ω aP (kN v5.1 a105_1 c105_1 a105_2 c105_2 a105_3 c105_3 a105_4 c105_4) 56,ω bK #[.string (bs ([]:T_1)),aW,aW,aW,aW] 56,ω uT #[.string (bs v5.1.front),.slice EC dI.length c173,.slice Po jT.length OO,.slice mM gK.length mJ,.slice lX dF.length c119] 56,ε 31 1 (aF 1 ak aT).en (.slice EC dI.length c173) KA,ε 54 1 (aF 1 bF eu).en (.slice Po jT.length OO) Kz,dO 4 dG mM mJ gK,dO 9 bF lX c119 dF,ε 3 1 ak (.slice g.2.1 (replicate 256 (0:Int)).length g.2.2.1) (replicate 256 (0:Int)),ε 9 1 bF (.slice g.2.2.2.1 (replicate 256 ([]:T_1)).length g.2.2.2.2.1) (replicate 256 ([]:T_1))]) (λg=>g.2.2.2.2.2) (λg=>Fs_ v33 bU v5 v24 dI jT=some z1/\ZOk g.2.2.2.2.2 (aF 1 ak aT) KA dI/\ZOk g.2.2.2.2.2 (aF 1 bF eu) Kz jT/\aj.le τ187 g.2.2.2.2.2) ?_ (λg j hg=> ?_)
  ·refine TC.dw [] (TA.aN [0,1] (an z z (CV (m:=256) (enc:=ak) (0:Int) z sU oq IG yF z z z z (by omega) (by decide) aT (by decide) z GL (λa208 OG=>(k1 ?_))) (an z z (CV (m:=256) (enc:=bF) ([]:T_1) z PI EU Z5 XK z z z z (by omega) (by decide) eu (by decide) z eSo_ (λSN c212=>(k1 ?_))) (True.intro))))
   ·refine ν 2 z mS z (υ 1 z (CV (m:=256) (enc:=bF) ([]:T_1) z PI EU Z5 XK z z z z (by omega) (by decide) eu (by decide) z eSo_ (λa214 ZU=>(k2 ?_))));refine ν 3 z mS z (R1 ?_);exact cf ((),(a208,OG,a214,ZU,τ187)) ⟨hh,lY,kW,(aj.le.refl _)⟩ (ψ [1,8,8,8,8,8,8,8] 9)
   refine υ 0 z (CV (m:=256) (enc:=ak) (0:Int) z sU oq IG yF z z z z (by omega) (by decide) aT (by decide) z GL (λwH c218=>(k2 ?_)));refine ν 2 z mS z (ν 3 z mS z (R1 ?_));exact cf ((),(wH,c218,SN,c212,τ187)) ⟨hh,lY,kW,(aj.le.refl _)⟩ (ψ [1,1,8,8,8,8,8,8,8] 9)
  obtain ⟨_,⟨zI,c198,Jq,c201,τ220⟩⟩:=g;obtain ⟨hh,nR,yB,qN⟩:=hg
  try dsimp only at nR
  try dsimp only at yB
  dsimp only at qN;replace hr105_0:=hr105_0.mono qN;replace hr105_1:=hr105_1.mono qN;replace hr108_0:=hr108_0.mono qN;replace hr109_1:=hr109_1.mono qN;replace lY:=lY.mono qN;replace kW:=kW.mono qN
  try dsimp only
  dsimp only [Fs_]at hh;have zf194b:=nR.length;have zf195b:=yB.length;refine ζ 3 z (λWM=> ?_);refine ζ 4 z (λWL=> ?_);refine ζ 5 z (λWJ=> ?_);refine ζ 6 z (λhb225=> ?_);refine ζ 7 z (λhb226=> ?_);refine ζ 8 z (λWI=> ?_);refine R6 ?_;obtain ⟨u67,hh⟩:=gd hh;refine ι z iX ?_;obtain ⟨Qu,Ij,hg228⟩:=RZ.seg hr105_0 ((nth v33.1 bU 0).toNat) (by omega);replace Ij:dH _ ak Qu.1 Qu.2 (nth v5.1.next ((nth v33.1 bU 0).toNat) []):=Ij;have hk228b:=Ij.rv.big;refine ι z (OpVal.of (qw z pV z hg228 z) (v':= .slice Qu.1 ((nth v5.1.next ((nth v33.1 bU 0).toNat) []).length) Qu.2) z) (TL.iS 7 z (λhs229=> ?_));refine κ 7 ?_;have wS:((replicate 256 (0:Int)).take 0++((nth v5.1.next ((nth v33.1 bU 0).toNat) []).take (min (nth v5.1.next ((nth v33.1 bU 0).toNat) []).length (replicate 256 (0:Int)).length)++(replicate 256 (0:Int)).drop (0+(min (nth v5.1.next ((nth v33.1 bU 0).toNat) []).length (replicate 256 (0:Int)).length)))).length=(replicate 256 (0:Int)).length:=by simp only [iK,List.length_take,List.length_drop];omega
  refine φ rfl (dp_ (p:=0) (N:=(min (nth v5.1.next ((nth v33.1 bU 0).toNat) []).length (replicate 256 (0:Int)).length)) rfl sU oq rfl rfl rfl (VwOk.self hs229) rfl rfl (by omega) rfl (SrcC.sealed Ij aT) aT (by decide) GL (by first|rfl|((try simp only [List.length_take]);omega)) ?_);refine R7 ?_;obtain ⟨u74,hh⟩:=gd hh;refine ι z iX ?_;obtain ⟨Qs,Ii,hg232⟩:=RZ.seg hr105_1 ((nth v33.1 bU 0).toNat) (by omega);replace Ii:dH _ bF Qs.1 Qs.2 (nth v5.1.outs ((nth v33.1 bU 0).toNat) []):=Ii;have hk232b:=Ii.rv.big;refine ι z (OpVal.of (qw z KN z hg232 z) (v':= .slice Qs.1 ((nth v5.1.outs ((nth v33.1 bU 0).toNat) []).length) Qs.2) z) (TL.iS 8 z (λhs233=> ?_));refine κ 8 ?_;have hn235:((replicate 256 ([]:T_1)).take 0++((nth v5.1.outs ((nth v33.1 bU 0).toNat) []).take (min (nth v5.1.outs ((nth v33.1 bU 0).toNat) []).length (replicate 256 ([]:T_1)).length)++(replicate 256 ([]:T_1)).drop (0+(min (nth v5.1.outs ((nth v33.1 bU 0).toNat) []).length (replicate 256 ([]:T_1)).length)))).length=(replicate 256 ([]:T_1)).length:=by simp only [iK,List.length_take,List.length_drop];omega
  refine φ rfl (dp_ (p:=0) (N:=(min (nth v5.1.outs ((nth v33.1 bU 0).toNat) []).length (replicate 256 ([]:T_1)).length)) rfl PI EU rfl rfl rfl (VwOk.self hs233) rfl rfl (by omega) rfl (SrcC.sealed Ii eu) eu (by decide) eSo_ (by first|rfl|((try simp only [List.length_take]);omega)) ?_);refine R9 ?_;refine TC.Ak (α:=(ah×Nat)×(aj)) (rgs [(14,2),(78,18)]) (λg=>[(78,.int .i64 (g.1.2:Int))]) (λg=>[ω aP (kN v5.1 a105_1 c105_1 a105_2 c105_2 a105_3 c105_3 a105_4 c105_4) 56,ω bK #[.string (bs ([]:T_1)),aW,aW,aW,aW] 56,ω uT #[.string (bs v5.1.front),.slice EC dI.length c173,.slice Po jT.length OO,.slice mM gK.length mJ,.slice lX dF.length c119] 56,ε 31 1 (aF 1 ak aT).en (.slice EC dI.length c173) KA,ε 54 1 (aF 1 bF eu).en (.slice Po jT.length OO) Kz,dO 4 dG mM mJ gK,dO 9 bF lX c119 dF,ε 3 1 ak (.slice zI (replicate 256 (0:Int)).length c198) g.1.1,ε 9 1 bF (.slice Jq (replicate 256 ([]:T_1)).length c201) ((replicate 256 ([]:T_1)).take 0++((nth v5.1.outs ((nth v33.1 bU 0).toNat) []).take (min (nth v5.1.outs ((nth v33.1 bU 0).toNat) []).length (replicate 256 ([]:T_1)).length)++(replicate 256 ([]:T_1)).drop (0+(min (nth v5.1.outs ((nth v33.1 bU 0).toNat) []).length (replicate 256 ([]:T_1)).length))))]) (λg=>g.2) (λg=>iter (λq:ah×Nat=>Fn_ v24 v33 dI jT v5 bU q.1 q.2) g.1=some z1/\ZOk g.2 (aF 1 ak aT) KA dI/\ZOk g.2 (aF 1 bF eu) Kz jT/\g.1.1.length=(replicate 256 (0:Int)).length/\((replicate 256 ([]:T_1)).take 0++((nth v5.1.outs ((nth v33.1 bU 0).toNat) []).take (min (nth v5.1.outs ((nth v33.1 bU 0).toNat) []).length (replicate 256 ([]:T_1)).length)++(replicate 256 ([]:T_1)).drop (0+(min (nth v5.1.outs ((nth v33.1 bU 0).toNat) []).length (replicate 256 ([]:T_1)).length)))).length=(replicate 256 ([]:T_1)).length/\aj.le τ220 g.2) (λg=>rQ (λq:ah×Nat=>Fn_ v24 v33 dI jT v5 bU q.1 q.2) g.1) ((((replicate 256 (0:Int)).take 0++((nth v5.1.next ((nth v33.1 bU 0).toNat) []).take (min (nth v5.1.next ((nth v33.1 bU 0).toNat) []).length (replicate 256 (0:Int)).length)++(replicate 256 (0:Int)).drop (0+(min (nth v5.1.next ((nth v33.1 bU 0).toNat) []).length (replicate 256 (0:Int)).length)))),0),τ220) (ψ [1,8,8,8,8,8,8,8] 9) z (by repeat (first|exact trivial|refine ⟨z,?_⟩)) ⟨hh,nR,yB,wS,hn235,(aj.le.refl _)⟩ (λg2 j2 hg2=> ?_);obtain ⟨⟨l9,oL⟩,τ258⟩:=g2;obtain ⟨hh,rY,pU,HY,y5,jW⟩:=hg2
  try dsimp only at rY
  try dsimp only at pU
  try dsimp only at HY
  try dsimp only at y5
  dsimp only at jW;replace hr108_0:=hr108_0.mono jW;replace hr109_1:=hr109_1.mono jW;replace lY:=lY.mono jW;replace kW:=kW.mono jW
  try dsimp only
  obtain ⟨z2,hh,hR2⟩:=zQ hh;dsimp only [Fn_]at hh;have zf252b:=rY.length;have zf253b:=pU.length;refine ζ 3 z (λhb260=> ?_);refine ζ 4 z (λhb261=> ?_);refine ζ 5 z (λhb262=> ?_);refine ζ 6 z (λhb263=> ?_);refine ζ 7 z (λhb264=> ?_);refine ζ 8 z (λhb265=> ?_);refine R5 ?_;refine π z hh (λFP hh=> ?_) (λFP hh=> ?_)
  ·refine R6 ?_;obtain ⟨XV,hh⟩:=gd hh;refine TL.iS 7 z (λhs267=> ?_);refine R10 ?_;refine π z hh (λh268 hh=> ?_) (λh268 hh=> ?_)
   ·refine R6 ?_;obtain ⟨u93,hh⟩:=gd hh;refine R2 ?_;obtain ⟨u95,hh⟩:=gd hh;refine R2 ?_;obtain ⟨u97,hh⟩:=gd hh;refine TL.iS 7 z (λhs269=> ?_);refine ι z iN (κ 7 ?_);have hn270:(l9.set oL (nth v33.2 ((nth v24.1 ((nth l9 oL 0).toNat) 0).toNat) 0)).length=(replicate 256 (0:Int)).length:=by rw [fV];exact HY
    refine φ z (b8_ (nth v33.2 ((nth v24.1 ((nth l9 oL 0).toNat) 0).toNat) 0) z oq z z z z aT GL (by omega) (by omega) ?_);refine R5 ?_;obtain ⟨hh,YK⟩:=xP hR2 hh;exact lf (((l9.set oL (nth v33.2 ((nth v24.1 ((nth l9 oL 0).toNat) 0).toNat) 0)),(oL+1)),τ258) YK ⟨hh,rY,pU,hn270,y5,jW⟩ (ψ [8,1,8,8,8,8,8,8,8] 9)
   refine R5 ?_;obtain ⟨hh,YJ⟩:=xP hR2 hh;exact lf ((l9,(oL+1)),τ258) YJ ⟨hh,rY,pU,HY,y5,jW⟩ (ψ [8,8,8,8,8,8,8,8,8] 9)
  refine R1 ?_;replace hh:=bJ hR2 hh;refine R6 ?_;rw [show Value.slice zI ((replicate 256 (0:Int)).length) c198=Value.slice zI l9.length c198 from by rw [HY]];refine κ 7 (TL.jO aT (λτ277 zq Vw=> ?_));replace lY:=lY.mono zq;replace kW:=kW.mono zq;replace rY:=rY.mono zq;replace pU:=pU.mono zq;have hr275b:=Vw.rv.big;have TD:ZOk _ (aF 1 ak aT) ([(l9,(zI,c198))]:List (ah×(aF 1 ak aT).P)) [l9]:=ZOk.cons (Vw) (ZOk.nil _ _);refine φ z (litZ TD z jZ jy z ku z z z (by decide) (by decide) z (by decide) z (by decide) (λa273 ZT=> ?_));refine κ 4 ?_;obtain ⟨u105,hh⟩:=gd hh;refine φ z (Jk (k:=(aF 1 ak aT)) rY TD z z jZ jy mG ku z z (by decide) z z z (.inr ⟨_,0,z⟩) (by simpa using u105) (by decide) (λa280 c281 Di=> ?_));refine ι z fL (κ 4 (R6 ?_));rw [show Value.slice Jq ((replicate 256 ([]:T_1)).length) c201=Value.slice Jq ((replicate 256 ([]:T_1)).take 0++((nth v5.1.outs ((nth v33.1 bU 0).toNat) []).take (min (nth v5.1.outs ((nth v33.1 bU 0).toNat) []).length (replicate 256 ([]:T_1)).length)++(replicate 256 ([]:T_1)).drop (0+(min (nth v5.1.outs ((nth v33.1 bU 0).toNat) []).length (replicate 256 ([]:T_1)).length)))).length c201 from by rw [y5]];refine κ 8 (TL.jO eu (λτ287 zn hr285=> ?_));replace lY:=lY.mono zn;replace kW:=kW.mono zn;replace pU:=pU.mono zn;replace Di:=Di.mono zn;have Tz:ZOk _ (aF 1 bF eu) ([(((replicate 256 ([]:T_1)).take 0++((nth v5.1.outs ((nth v33.1 bU 0).toNat) []).take (min (nth v5.1.outs ((nth v33.1 bU 0).toNat) []).length (replicate 256 ([]:T_1)).length)++(replicate 256 ([]:T_1)).drop (0+(min (nth v5.1.outs ((nth v33.1 bU 0).toNat) []).length (replicate 256 ([]:T_1)).length)))),(Jq,c201))]:List (bC×(aF 1 bF eu).P)) [((replicate 256 ([]:T_1)).take 0++((nth v5.1.outs ((nth v33.1 bU 0).toNat) []).take (min (nth v5.1.outs ((nth v33.1 bU 0).toNat) []).length (replicate 256 ([]:T_1)).length)++(replicate 256 ([]:T_1)).drop (0+(min (nth v5.1.outs ((nth v33.1 bU 0).toNat) []).length (replicate 256 ([]:T_1)).length))))]:=ZOk.cons (hr285) (ZOk.nil _ _);refine φ z (litZ Tz z underlying53 JB z PN z z z (by decide) (by decide) z (by decide) z (by decide) (λa283 c284=> ?_));refine κ 6 ?_;obtain ⟨KO,hh⟩:=gd hh;refine φ z (Jk (k:=(aF 1 bF eu)) pU Tz z z underlying53 JB XO PN z z (by decide) z z z (.inr ⟨_,0,z⟩) (by simpa using KO) (by decide) (λa290 c291 zf292=> ?_));refine ι z fL (κ 2 (R6 ?_));obtain ⟨hh,YI⟩:=xP hR1 hh;exact lf (((dI++[l9]),(jT++[((replicate 256 ([]:T_1)).take 0++((nth v5.1.outs ((nth v33.1 bU 0).toNat) []).take (min (nth v5.1.outs ((nth v33.1 bU 0).toNat) []).length (replicate 256 ([]:T_1)).length)++(replicate 256 ([]:T_1)).drop (0+(min (nth v5.1.outs ((nth v33.1 bU 0).toNat) []).length (replicate 256 ([]:T_1)).length))))]),(bU+1)),(a280,c281,(KA++([(l9,(zI,c198))]:List (ah×(aF 1 ak aT).P))),a290,c291,(Kz++([(((replicate 256 ([]:T_1)).take 0++((nth v5.1.outs ((nth v33.1 bU 0).toNat) []).take (min (nth v5.1.outs ((nth v33.1 bU 0).toNat) []).length (replicate 256 ([]:T_1)).length)++(replicate 256 ([]:T_1)).drop (0+(min (nth v5.1.outs ((nth v33.1 bU 0).toNat) []).length (replicate 256 ([]:T_1)).length)))),(Jq,c201))]:List (bC×(aF 1 bF eu).P))),τ287)) YI ⟨hh,Di,zf292,((((pq.trans qN).trans jW).trans zq).trans zn)⟩ (ψ [8,8,3,5,4,8,8] 7)
 refine R1 ?_;replace hh:=bJ hR1 hh;refine R4 ?_;refine κ 1 (R3 ?_);refine TC.fr 3 (TC.Ji lY (λτ296 MS AU=> ?_));replace kW:=kW.mono MS;refine TC.fr 3 (TC.Ji kW (λτ299 Y7 G_=> ?_));replace AU:=AU.mono Y7;refine TC.fr 3 (TC.jO NH (λτ302 Fq Vt=> ?_));replace AU:=AU.mono Fq;replace G_:=G_.mono Fq;refine TC.fr 3 (TC.jO eu (λτ305 Fp hr303=> ?_));replace AU:=AU.mono Fp;replace G_:=G_.mono Fp;replace Vt:=Vt.mono Fp;have hr303b:=hr303.rv.big;refine Ψ 1 ?_;obtain rfl:=so hh;exact rz
theorem pf10:plainF Tryz.prog 10=true:=by kernel_rfl
theorem pf19:plainF Tryz.prog 19=true:=by kernel_rfl
theorem pf20:plainF Tryz.prog 20=true:=by kernel_rfl
theorem pf25:plainF Tryz.prog 25=true:=by kernel_rfl
theorem pf26:plainF Tryz.prog 26=true:=by kernel_rfl
theorem pf27:plainF Tryz.prog 27=true:=by kernel_rfl
theorem pf28:plainF Tryz.prog 28=true:=by kernel_rfl
theorem pf5:plainF Tryz.prog 5=true:=by kernel_rfl
theorem pf56:plainF Tryz.prog 56=true:=by kernel_rfl
theorem pf6:plainF Tryz.prog 6=true:=by kernel_rfl
theorem pf7:plainF Tryz.prog 7=true:=by kernel_rfl
theorem pf9:plainF Tryz.prog 9=true:=by kernel_rfl
def pop1(x:Nat):Nat:=Yf (Lu (DT x 1) 6148914691236517205) (Lu x 6148914691236517205)
def pop2(x:Nat):Nat:=Yf (Lu (DT x 2) 3689348814741910323) (Lu x 3689348814741910323)
def pop3(x:Nat):Nat:=Lu (Yf (DT x 4) x) 1085102592571150095
def X9(k x:Nat):Nat:=Yf x (DT x k)
def B5_(x0:Nat):Option (Int):=
 some (iand .i64 (IntKind.i64.wrap (X9 32 (X9 16 (X9 8 (pop3 (pop2 (pop1 x0))))):Int)) 127)
theorem Jo_{σ:aj}{x0:Nat}{r:Int}(hh:B5_ x0=some r):
  Con prog 56 #[.int .u64 (x0:Int)] σ [] (jq (.int .i64 r) σ):=by
 dsimp only [B5_]at hh;refine cM 35 Tryz.func56 (λw0=> ?_);refine R7 ?_;refine ι z (shrU (b:=1) z z z) (ι z (andU (b:=6148914691236517205) z z z) (TL.i z z (ι z (andU (b:=6148914691236517205) z z z) (ι z (addU z z z) (R5 ?_)))));refine ι z (shrU (b:=2) z z z) (ι z (andU (b:=3689348814741910323) z z z) (TL.i z z (ι z (andU (b:=3689348814741910323) z z z) (ι z (addU z z z) (R5 ?_)))));refine ι z (shrU (b:=4) z z z) (TL.i z z (ι z (addU z z z) (ι z (andU (b:=1085102592571150095) z z z) (R6 ?_))));refine ι z (shrU (b:=8) z z z) (ι z (addU z z z) (R6 ?_));refine ι z (shrU (b:=16) z z z) (ι z (addU z z z) (R6 ?_));refine ι z (shrU (b:=32) z z z) (ι z (addU z z z) (R5 ?_));refine ι z (bx_ z underlying45 um z) (ι z (andI z z z) (R2 ?_));refine η ?_;obtain rfl:=so hh;exact rq [2] ⟨z,z,z⟩
def Dc_(x0:BSet)(i107:Int)(nX:Nat):Option ((Int×Nat)⊕(Int)):=
 iteO (decide ((nX:Int)<4)) (grd (nX<4) (bnd (B5_ (BSet.word x0 nX)) (λv11=>nxt ((IntKind.i64.wrap (i107+v11)),(nX+1))))) (fin (some i107))
def Ju_(x0:BSet):Option (Int):=
 iter (λq:Int×Nat=>Dc_ x0 q.1 q.2) (0,0)
theorem My_{σ:aj}{x0:BSet}{r:Int}(hh:Ju_ x0=some r):
  Con prog 20 #[vk x0] σ [] (jq (.int .i64 r) σ):=by
 dsimp only [Ju_]at hh;refine cM 16 Tryz.func20 (λw0=> ?_);refine R2 ?_;refine TL.bx (λaP=> ?_);refine R13 ?_;refine TC.lp hh () (rgs [(3,1),(5,1),(7,8)]) (λ⟨i107,nX⟩ _=>([(3,.int .i64 i107),(7,.int .i64 (nX:Int))],[])) (θ 0 z) ?_;rintro ⟨i107,nX⟩ _ _ z1 hh hR1;dsimp only [Dc_]at hh ⊢;refine R5 ?_;refine π z hh (λiE hh=> ?_) (λiE hh=> ?_)
 ·refine R5 ?_;obtain ⟨u7,hh⟩:=gd hh;refine ι z (cp_ z KE Bh JA z z (by omega)) (R5 ?_);obtain ⟨v11,u11,hh⟩:=bg hh;refine φ z (gI (Jo_ u11) z z pf56 z z z ?_);refine R7 ?_;exact nxq hR1 hh () (θ 0 z)
 refine R1 ?_;replace hh:=bJ hR1 hh;refine R6 ?_;refine η ?_;obtain rfl:=so hh;exact rq [2] ⟨z,z,z⟩
def Xe(x0:Fst)(jw:Nat):Option ((Nat)⊕(Bool)):=
 iteO (decide ((jw:Int)<(x0.arcs.length:Int))) (bnd (Ju_ ((nth x0.arcs jw aQ).set)) (λv35=>iteO (decide (3<v35)) (fin (some false)) (nxt (jw+1)))) (fin (some true))
def fh_(x0:Fst):Option (Bool):=
 iter (λq:Nat=>Xe x0 q) 0
def ft_(x0:Fst):Option (Bool):=
 bnd (Cp_ x0) (λv4=>iteO (!v4) (some false) (iteO (decide (4<x0.states)) (iteO (decide (x0.states<=1024)) (some false) (iteO (decide (8<(x0.arcs.length:Int))) (some false) (fh_ x0))) (iteO (decide (8<(x0.arcs.length:Int))) (some false) (fh_ x0))))
theorem h3_{σ:aj}{x0:Fst}(aC:RS σ 2 bf (.slice aB x0.starts.length aA) x0.starts)(aV:RS σ 2 bf (.slice ay x0.ends.length aH) x0.ends)(aS:RS σ 8 fP (.slice aG x0.arcs.length au) x0.arcs){r:Bool}(hh:ft_ x0=some r):
  Con prog 5 #[.agg (jB x0 aB aA ay aH aG au)] σ [] (jq (.bool r) σ):=by
 dsimp only [ft_]at hh;have f0_2b:=aS.rv.big;refine cM 38 Tryz.func5 (λw0=> ?_);refine R2 ?_;refine TL.bx (λaP=> ?_);refine R2 ?_;refine TC.cutG (α:=(Unit)×(Unit)) (rgs [(2,1),(4,19)]) (λg=>[]) (λg=>[ω aP (jB x0 aB aA ay aH aG au) 25]) (λg=>σ) (λg=>fh_ x0=some r) ?_ (λg j hg=> ?_)
 ·refine R3 ?_;obtain ⟨v4,u4,hh⟩:=bg hh;refine φ z (gI (Kw_ (x0:=x0) aC aV aS u4) z z pf19 z z z ?_);refine R2 ?_;refine δ 7 z (λnC=> ?_) (λnC=> ?_)
  ·replace hh:=uZ nC hh;refine R21 ?_;refine Ψ 0 ?_;obtain rfl:=so hh;exact rq [2] ⟨z,z,z⟩
  replace hh:=u_ nC hh;refine R4 ?_;refine δ 11 z (λgV=> ?_) (λgV=> ?_)
  ·obtain ⟨gV,hh⟩:=iT gV hh;refine R6 ?_;refine δ 17 z (λdL=> ?_) (λdL=> ?_)
   ·obtain ⟨dL,hh⟩:=iT dL hh;refine R11 ?_;refine Ψ 0 ?_;obtain rfl:=so hh;exact rq [2] ⟨z,z,z⟩
   obtain ⟨dL,hh⟩:=iF dL hh;refine R6 ?_;refine π z hh (λfM hh=> ?_) (λfM hh=> ?_)
   ·refine R4 ?_;refine Ψ 0 ?_;obtain rfl:=so hh;exact rq [2] ⟨z,z,z⟩
   refine R1 ?_;exact cf ((),()) hh (θ 1 z)
  obtain ⟨gV,hh⟩:=iF gV hh;refine R12 ?_;refine π z hh (λgq hh=> ?_) (λgq hh=> ?_)
  ·refine R4 ?_;refine Ψ 0 ?_;obtain rfl:=so hh;exact rq [2] ⟨z,z,z⟩
  refine R1 ?_;exact cf ((),()) hh (θ 1 z)
 obtain ⟨_,_⟩:=g;have hh:=hg;clear hg
 try dsimp only
 dsimp only [fh_]at hh;refine R6 ?_;refine TC.lp hh () (rgs [(2,2),(23,15)]) (λjw _=>([(3,.int .i64 (jw:Int))],[ω aP (jB x0 aB aA ay aH aG au) 25])) (θ 1 z) ?_;rintro jw _ _ z1 hh hR1;dsimp only [Xe]at hh ⊢;refine R9 ?_;refine π z hh (λgZ hh=> ?_) (λgZ hh=> ?_)
 ·refine R10 ?_;refine ι z (c5_ aQ z Jm PL z aS (by omega) (by omega) (by omega) z z) ?_;obtain ⟨v35,u35,hh⟩:=bg hh;refine φ z (gI (My_ u35) z z pf20 z z z ?_);refine R2 ?_;refine π z hh (λh112 hh=> ?_) (λh112 hh=> ?_)
  ·refine R4 ?_;refine Ψ 0 ?_;replace hh:=bJ hR1 hh;obtain rfl:=so hh;exact rq [2] ⟨z,z,z⟩
  refine R6 ?_;exact nxq hR1 hh () (θ 1 z)
 refine R1 ?_;replace hh:=bJ hR1 hh;refine R5 ?_;refine Ψ 0 ?_;obtain rfl:=so hh;exact rq [2] ⟨z,z,z⟩
def gg_(x0:UInt8)(x1:T_1):Option (Fst):=
 grd (x1.length<=281474976710656) (grd ([x0].length<=1000000000000) (some (⟨2,[(⟨0,([]:T_1)⟩:Tip)],[(⟨1,([]:T_1)⟩:Tip)],[(⟨0,1,(BSet.ofL [x0]),x1,false⟩:Arc)]⟩:Fst)))
def m2_(σ:aj)(r:Fst):Value->aj->List Res->Prop:=λv σ' H'=>
 ∃a1 c1 a2 c2 a3 c3,v= .agg (jB r a1 c1 a2 c2 a3 c3)/\RS σ' 2 bf (.slice a1 r.starts.length c1) r.starts/\RS σ' 2 bf (.slice a2 r.ends.length c2) r.ends/\RS σ' 8 fP (.slice a3 r.arcs.length c3) r.arcs/\H'=[]
theorem lj_{σ:aj}{x0:UInt8}{x1:T_1}{r:Fst}(hh:gg_ x0 x1=some r):
  Con prog 26 #[.int .u8 (x0.toNat:Int),.string (bs x1)] σ [] (m2_ σ r):=by
 dsimp only [gg_]at hh;refine cM 16 Tryz.func26 (λw0=> ?_);obtain ⟨x1b,hh⟩:=gd hh;refine R2 ?_;refine TL.al (λaP=> ?_);refine R4 ?_;refine φ z (jc (enc:=bf) [(⟨0,([]:T_1)⟩:Tip)] (λjC jA=> ?_));refine ι z bL (φ z (jc (enc:=bf) [(⟨1,([]:T_1)⟩:Tip)] (λkP c107=> ?_)));refine TL.i z z (φ z (jc (enc:=jo) [x0] (λa109 F5=> ?_)));obtain ⟨u8,hh⟩:=gd hh;refine φ z (ZL (u0_ _ _ _ [x0] u8) z z Qq z z z z ?_);refine R2 ?_;refine φ z (jc (enc:=fP) [(⟨0,1,(BSet.ofL [x0]),x1,false⟩:Arc)] (λa112 Z4=> ?_));refine ι z bL (κ 3 (R2 ?_));refine TC.fr 3 (TC.jO iV (λτ117 og uM=> ?_));refine TC.fr 2 (TC.jO iV (λτ120 nZ su=> ?_));replace uM:=uM.mono nZ;refine TC.fr 1 (TC.jO IE (λτ123 kJ D7=> ?_));replace uM:=uM.mono kJ;replace su:=su.mono kJ;refine η ?_;obtain rfl:=so hh;exact rz
def Ov:Option (Bool):=
 bnd (gg_ (97:UInt8) ([120,121]:T_1)) (λv2=>bnd (Kr_ v2 5) (λv3=>bnd (H7_ v3.1) (λv11=>bnd (Gs_ v11.1 ([97]:T_1)) (λv19=>iteO (decide (v3.2=0)) (iteO (decide (v11.2=v3.2)) (iteO (decide (v19.2.2.2=v3.2)) (iteO v19.2.2.1 (iteO (decide (v19.1=([120,121]:T_1))) (some (decide (v11.1.front=([120,121]:T_1)))) (some false)) (some false)) (some false)) (some false)) (some false)))))
theorem fr_{σ:aj}(hgl:xu σ 0 2){r:Bool}(hh:Ov=some r):
  Con prog 7 #[] σ [] (jq (.bool r) σ):=by
 dsimp only [Ov]at hh;refine cM 50 Tryz.func7 (λw0=> ?_);refine R6 ?_;obtain ⟨v2,u2,hh⟩:=bg hh;refine φ z (OpOk.call (lj_ u2) z z pf26 z z z z ?_);rintro _ τ101 _ Zo ⟨a101_1,c101_1,a101_2,c101_2,a101_3,c101_3,rfl,hr101_0,hr101_1,hr101_2,rfl⟩;replace hgl:=hgl.mono Zo;obtain ⟨v3,u3,hh⟩:=bg hh;refine φ z (OpOk.call (M7_ (x0:=v2) hgl hr101_0 hr101_1 hr101_2 u3) z z pf25 z z z z ?_);rintro _ τ102 _ Zm ⟨a102_1,c102_1,a102_2,c102_2,a102_3,c102_3,a102_4,c102_4,rfl,hr102_0,hr102_1,hr102_2,hr102_3,rfl⟩;replace hgl:=hgl.mono Zm;refine R3 ?_;refine TL.al (λbK=> ?_);refine R6 ?_;obtain ⟨v11,u11,hh⟩:=bg hh;refine φ z (OpOk.call (Mq_ (x0:=v3.1) hgl hr102_0 hr102_1 hr102_2 hr102_3 u11) z z pf27 z z z z ?_);rintro _ τ105 _ jH ⟨a105_1,c105_1,a105_2,c105_2,a105_3,c105_3,a105_4,c105_4,rfl,hr105_0,hr105_1,hr105_2,hr105_3,rfl⟩;refine R3 ?_;refine TL.al (λyh=> ?_);refine R6 ?_;obtain ⟨v19,yG,hh⟩:=bg hh;refine φ z (gI (Mo_ (x0:=v11.1) hr105_0 hr105_1 hr105_2 hr105_3 yG) z z pf28 z z z ?_);refine R15 ?_;refine δ 28 z (λiG=> ?_) (λiG=> ?_)
 ·obtain ⟨iG,hh⟩:=iT iG hh;refine R5 ?_;refine δ 33 z (λiE=> ?_) (λiE=> ?_)
  ·obtain ⟨iE,hh⟩:=iT iE hh;refine R5 ?_;refine δ 38 z (λfD=> ?_) (λfD=> ?_)
   ·obtain ⟨fD,hh⟩:=iT fD hh;refine R3 ?_;refine δ 41 z (λgZ=> ?_) (λgZ=> ?_)
    ·replace hh:=uZ gZ hh;refine TL.g z (IJ (.inl z) z) (TL.g z (d6_ z z z) (R2 ?_));refine δ 45 z (λh112=> ?_) (λh112=> ?_)
     ·obtain ⟨h112,hh⟩:=iT h112 hh;refine R2 ?_;refine TL.g z (d6_ z z z) (R3 ?_);refine Θ (θ 0 z) (TC.back (η ?_));obtain rfl:=so hh;exact rq [0] ⟨z,z,z⟩
     obtain ⟨h112,hh⟩:=iF h112 hh;refine R6 ?_;refine Θ (θ 0 z) (TC.back (η ?_));obtain rfl:=so hh;exact rq [0] ⟨z,z,z⟩
    replace hh:=u_ gZ hh;refine R10 ?_;refine Θ (θ 0 z) (TC.back (η ?_));obtain rfl:=so hh;exact rq [0] ⟨z,z,z⟩
   obtain ⟨fD,hh⟩:=iF fD hh;refine R13 ?_;refine Θ (θ 0 z) (TC.back (η ?_));obtain rfl:=so hh;exact rq [0] ⟨z,z,z⟩
  obtain ⟨iE,hh⟩:=iF iE hh;refine R18 ?_;refine Θ (θ 0 z) (TC.back (η ?_));obtain rfl:=so hh;exact rq [0] ⟨z,z,z⟩
 obtain ⟨iG,hh⟩:=iF iG hh;refine R23 ?_;refine Θ (θ 0 z) (TC.back (η ?_));obtain rfl:=so hh;exact rq [0] ⟨z,z,z⟩
def gb_(x0:Fst)(x1:Fst):Option (Bool):=
 bnd (ft_ x0) (λv5=>iteO (!v5) (some true) (bnd (ft_ x1) (λv9=>iteO (!v9) (some true) (bnd (Fp_ x0 x1) (λv15=>iteO (decide (v15.2≠0)) (bnd (Ov) (λv24=>iteO v24 (some (decide (v15.1.states=0))) (some false))) (bnd (Xu x0) (λv32=>bnd (Xu x1) (λv40=>bnd (Xu v15.1) (λv48=>iteO (decide (v32.2≠0)) (bnd (Ov) (λv65=>some v65)) (iteO (decide (v40.2≠0)) (bnd (Ov) (λv65=>some v65)) (iteO (decide (v48.2≠0)) (bnd (Ov) (λv65=>some v65)) (bnd (kw_ v32.1 v40.1) (λv69=>bnd (E4_ v69.1 v48.1) (λv78=>bnd (Ov) (λv84=>iteO v84 (iteO (decide (v69.2=2)) (some true) (iteO (decide (v69.2=0)) (iteO (decide (v78.2=v69.2)) (some v78.1) (some false)) (some false))) (some false))))))))))))))))
theorem i2_{σ:aj}{x0:Fst}{x1:Fst}(hgl:xu σ 0 2)(aC:RS σ 2 bf (.slice aB x0.starts.length aA) x0.starts)(aV:RS σ 2 bf (.slice ay x0.ends.length aH) x0.ends)(aS:RS σ 8 fP (.slice aG x0.arcs.length au) x0.arcs)(bn:RS σ 2 bf (.slice bY x1.starts.length bW) x1.starts)(gu:RS σ 2 bf (.slice dV x1.ends.length iR) x1.ends)(fF:RS σ 8 fP (.slice iI x1.arcs.length dU) x1.arcs){r:Bool}(hh:gb_ x0 x1=some r):
  Con prog 3 #[.agg (jB x0 aB aA ay aH aG au),.agg (jB x1 bY bW dV iR iI dU)] σ [] (jq (.bool r) σ):=by
 dsimp only [gb_]at hh;refine cM 94 Tryz.func3 (λw0=> ?_);refine R2 ?_;refine TL.bx (λaP=> ?_);refine TL.bx (λbK=> ?_);refine R6 ?_;obtain ⟨v5,u5,hh⟩:=bg hh;refine φ z (gI (h3_ (x0:=x0) aC aV aS u5) z z pf5 z z z ?_);refine R2 ?_;refine δ 20 z (λdL=> ?_) (λdL=> ?_)
 ·replace hh:=uZ dL hh;refine R10 ?_;refine Ψ 0 ?_;obtain rfl:=so hh;exact rq [4] ⟨z,z,z⟩
 replace hh:=u_ dL hh;refine TL.g z lA ?_;obtain ⟨v9,u9,hh⟩:=bg hh;refine TL.gon z z z z z (gI (h3_ (x0:=x1) bn gu fF u9) z z pf5 z z z ?_);refine R3 ?_;refine TC.cB z hh (λfM hh=> ?_) (λfM hh=> ?_)
 ·refine R4 ?_;refine Ψ 0 ?_;obtain rfl:=so hh;exact rq [4] ⟨z,z,z⟩
 refine R5 ?_;obtain ⟨v15,u15,hh⟩:=bg hh;refine φ z (OpOk.call (L1_ (x0:=x0) (x1:=x1) hgl aC aV aS bn gu fF u15) z z pf6 z z z z ?_);rintro _ τ107 _ lV ⟨a107_1,c107_1,a107_2,c107_2,a107_3,c107_3,rfl,hr107_0,hr107_1,hr107_2,rfl⟩;replace aC:=aC.mono lV;replace aV:=aV.mono lV;replace aS:=aS.mono lV;replace bn:=bn.mono lV;replace gu:=gu.mono lV;replace fF:=fF.mono lV;replace hgl:=hgl.mono lV;refine R3 ?_;refine TL.al (λEu=> ?_);refine R9 ?_;refine π z hh (λfD hh=> ?_) (λfD hh=> ?_)
 ·refine R2 ?_;obtain ⟨v24,u24,hh⟩:=bg hh;refine φ z (gI (fr_ hgl u24) z z pf7 z z z ?_);refine TL.j z z (δ 34 z (λgZ=> ?_) (λgZ=> ?_))
  ·replace hh:=uZ gZ hh;refine R6 ?_;refine Θ (θ 0 z) (TC.back (η ?_));obtain rfl:=so hh;exact rq [4] ⟨z,z,z⟩
  replace hh:=u_ gZ hh;refine R6 ?_;refine Θ (θ 0 z) (TC.back (η ?_));obtain rfl:=so hh;exact rq [4] ⟨z,z,z⟩
 refine R4 ?_;obtain ⟨v32,u32,hh⟩:=bg hh;refine φ z (OpOk.call (Ea_ (x0:=x0) hgl aC aV aS u32) z z pf8 z z z z ?_);rintro _ τ112 _ lU ⟨a112_1,c112_1,a112_2,c112_2,a112_3,c112_3,rfl,hr112_0,hr112_1,hr112_2,rfl⟩;replace bn:=bn.mono lU;replace gu:=gu.mono lU;replace fF:=fF.mono lU;replace hgl:=hgl.mono lU;replace hr107_0:=hr107_0.mono lU;replace hr107_1:=hr107_1.mono lU;replace hr107_2:=hr107_2.mono lU;refine R3 ?_;refine TL.al (λb113=> ?_);refine R6 ?_;obtain ⟨v40,u40,hh⟩:=bg hh;refine φ z (OpOk.call (Ea_ (x0:=x1) hgl bn gu fF u40) z z pf8 z z z z ?_);rintro _ τ115 _ gY ⟨a115_1,c115_1,a115_2,c115_2,a115_3,c115_3,rfl,hr115_0,hr115_1,hr115_2,rfl⟩;replace hgl:=hgl.mono gY;replace hr107_0:=hr107_0.mono gY;replace hr107_1:=hr107_1.mono gY;replace hr107_2:=hr107_2.mono gY;replace hr112_0:=hr112_0.mono gY;replace hr112_1:=hr112_1.mono gY;replace hr112_2:=hr112_2.mono gY;refine R3 ?_;refine TL.al (λOY=> ?_);refine R6 ?_;obtain ⟨v48,u48,hh⟩:=bg hh;refine φ z (OpOk.call (Ea_ (x0:=v15.1) hgl hr107_0 hr107_1 hr107_2 u48) z z pf8 z z z z ?_);rintro _ τ118 _ jk ⟨a118_1,c118_1,a118_2,c118_2,a118_3,c118_3,rfl,hr118_0,hr118_1,hr118_2,rfl⟩;replace hgl:=hgl.mono jk;replace hr112_0:=hr112_0.mono jk;replace hr112_1:=hr112_1.mono jk;replace hr112_2:=hr112_2.mono jk;replace hr115_0:=hr115_0.mono jk;replace hr115_1:=hr115_1.mono jk;replace hr115_2:=hr115_2.mono jk;refine R3 ?_;refine TL.al (λb119=> ?_);refine R9 ?_;refine δ 56 z (λtY=> ?_) (λtY=> ?_)
 ·obtain ⟨tY,hh⟩:=iT tY hh;refine R11 ?_;obtain ⟨v65,PS,hh⟩:=bg hh;refine φ z (gI (fr_ hgl PS) z z pf7 z z z ?_);refine R2 ?_;refine Θ (θ 0 z) (TC.back (η ?_));obtain rfl:=so hh;exact rq [4] ⟨z,z,z⟩
 obtain ⟨tY,hh⟩:=iF tY hh;refine R4 ?_;refine δ 60 z (λh122=> ?_) (λh122=> ?_)
 ·obtain ⟨h122,hh⟩:=iT h122 hh;refine R7 ?_;obtain ⟨v65,PS,hh⟩:=bg hh;refine φ z (gI (fr_ hgl PS) z z pf7 z z z ?_);refine R2 ?_;refine Θ (θ 0 z) (TC.back (η ?_));obtain rfl:=so hh;exact rq [4] ⟨z,z,z⟩
 obtain ⟨h122,hh⟩:=iF h122 hh;refine R4 ?_;refine π z hh (λOj hh=> ?_) (λOj hh=> ?_)
 ·refine R2 ?_;obtain ⟨v65,PS,hh⟩:=bg hh;refine φ z (gI (fr_ hgl PS) z z pf7 z z z ?_);refine R2 ?_;refine Θ (θ 0 z) (TC.back (η ?_));obtain rfl:=so hh;exact rq [4] ⟨z,z,z⟩
 refine R5 ?_;obtain ⟨v69,u69,hh⟩:=bg hh;refine φ z (OpOk.call (sj_ (x0:=v32.1) (x1:=v40.1) hgl hr112_0 hr112_1 hr112_2 hr115_0 hr115_1 hr115_2 u69) z z pf9 z z z z ?_);rintro _ τ124 _ B_ ⟨a124_1,c124_1,a124_2,c124_2,a124_3,c124_3,rfl,hr124_0,hr124_1,hr124_2,rfl⟩;replace hgl:=hgl.mono B_;replace hr118_0:=hr118_0.mono B_;replace hr118_1:=hr118_1.mono B_;replace hr118_2:=hr118_2.mono B_;refine R3 ?_;refine TL.al (λAi=> ?_);refine R7 ?_;obtain ⟨v78,u78,hh⟩:=bg hh;refine φ z (gI (Mk_ (x0:=v69.1) (x1:=v48.1) hr124_0 hr124_1 hr124_2 hr118_0 hr118_1 hr118_2 u78) z z pf10 z z z ?_);refine R8 ?_;obtain ⟨v84,u84,hh⟩:=bg hh;refine φ z (gI (fr_ hgl u84) z z pf7 z z z ?_);refine TL.j z z (δ 78 z (λh127=> ?_) (λh127=> ?_))
 ·replace hh:=uZ h127 hh;refine R3 ?_;refine δ 81 z (λh128=> ?_) (λh128=> ?_)
  ·obtain ⟨h128,hh⟩:=iT h128 hh;refine R14 ?_;refine Θ (θ 0 z) (TC.back (η ?_));obtain rfl:=so hh;exact rq [4] ⟨z,z,z⟩
  obtain ⟨h128,hh⟩:=iF h128 hh;refine R3 ?_;refine δ 84 z (λzD=> ?_) (λzD=> ?_)
  ·obtain ⟨zD,hh⟩:=iT zD hh;refine R5 ?_;refine δ 89 z (λtX=> ?_) (λtX=> ?_)
   ·obtain ⟨tX,hh⟩:=iT tX hh;refine R6 ?_;refine Θ (θ 0 z) (TC.back (η ?_));obtain rfl:=so hh;exact rq [4] ⟨z,z,z⟩
   obtain ⟨tX,hh⟩:=iF tX hh;refine R6 ?_;refine Θ (θ 0 z) (TC.back (η ?_));obtain rfl:=so hh;exact rq [4] ⟨z,z,z⟩
  obtain ⟨zD,hh⟩:=iF zD hh;refine R11 ?_;refine Θ (θ 0 z) (TC.back (η ?_));obtain rfl:=so hh;exact rq [4] ⟨z,z,z⟩
 replace hh:=u_ h127 hh;refine R17 ?_;refine Θ (θ 0 z) (TC.back (η ?_));obtain rfl:=so hh;exact rq [4] ⟨z,z,z⟩
end Go.Proofs.YtcfgkcfcddfccaaGreatDoor
end

noncomputable section
namespace Go.E
open Go
class LeC {α:Type} (a b:Option α):Prop where
  le: ∀r,a=some r->b=some r
instance LeC.bnd {α β:Type} {a b:Option α} {f g:α->Option β} [h:LeC a b] [k: ∀x,LeC (f x) (g x)]:LeC (Go.E.bnd a f) (Go.E.bnd b g):=⟨λr hr=>by
  obtain ⟨x,h1,h2⟩:=bg hr;rw [iM (h.le _ h1)];exact (k x).le _ h2⟩
instance LeC.grd {α:Type} {p:Prop} [Decidable p] {a b:Option α} [h:LeC a b]:LeC (Go.E.grd p a) (Go.E.grd p b):=⟨λr hr=>by
  rw [cu (grd_c hr)];exact h.le _ (grd_t hr)⟩
instance LeC.iteO {α:Type} {c:Bool} {a b a' b':Option α} [h:LeC a b] [k:LeC a' b']:LeC (Go.E.iteO c a a') (Go.E.iteO c b b'):=⟨λr hr=>by
  cases c
  · exact k.le _ hr
  exact h.le _ hr⟩
instance LeC.fin {S α:Type} {a b:Option α} [h:LeC a b]:LeC (Go.E.fin (S:=S) a) (Go.E.fin b):=⟨λr hr=>by
  cases a with
  |none=>cases hr
  |some x=>rw [h.le x rfl];exact hr⟩
instance LeC.nxt {S R:Type} {s:S}:LeC (Go.E.nxt (R:=R) s) (Go.E.nxt s):=⟨λ_ h=>h⟩
instance LeC.some {α:Type} {x:α}:LeC (Option.some x) (Option.some x):=⟨λ_ h=>h⟩
instance LeC.none {α:Type} {b:Option α}:LeC Option.none b:=⟨λ_ h=>by cases h⟩
def kS{S R:Type}(n:Nat)(f:S->Option (S⊕R))(s:S):Option R:=Ac f n s
theorem sw_{S R:Type}{f g:S->Option (S⊕R)}(h: ∀s,LeC (f s) (g s)): ∀(n:Nat) (s:S) (r:R),Ac f n s=Option.some r->Ac g n s=Option.some r
  |0,_,_,hr=>by cases hr
  | n + 1, s, r, hr => by
    rw [Ac]at hr ⊢;cases hs:f s with
    |none=>rw [hs]at hr;cases hr
    |some z=>
      rw [hs]at hr;rw [(h s).le z hs];cases z with
      |inl s'=>exact sw_ h n s' r hr
      |inr r'=>exact hr
instance LeC.iter {S R:Type} {n:Nat} {f g:S->Option (S⊕R)} {s:S} [h: ∀s,LeC (f s) (g s)]:LeC (kS n f s) (Go.E.iter g s):=⟨λr hr=>YA.2 ⟨n,sw_ h n s r hr⟩⟩
instance LeC.stepY {S α:Type} {B B':S->α->Option (Nat×S)} {p:Nat×S} {x:α} [h: ∀s x,LeC (B s x) (B' s x)]:LeC (Go.E.stepY B p x) (Go.E.stepY B' p x):=⟨λr hr=>by
  unfold Go.E.stepY at hr ⊢
  split at hr
  · rename_i h0
    rw [if_pos h0];cases hb:B p.2 x with
    |none=>rw [hb]at hr;cases hr
    |some q=>rw [hb]at hr;rw [(h p.2 x).le q hb];exact hr
  cases hr⟩
instance LeC.jsel {α:Type} {j:Nat} {a a':Option α} {b b':Nat->Option α} [h:LeC a a'] [k: ∀j,LeC (b j) (b' j)]:LeC (Go.E.jsel j a b) (Go.E.jsel j a' b'):=⟨λr hr=>by
  cases j with
  |zero=>exact h.le _ hr
  |succ j=>exact (k j).le _ hr⟩
end Go.E
end

noncomputable section
namespace Go.Proofs.YtcfgkcfcddfccaaGreatDoor
open Go Go.E
set_option synthInstance.maxHeartbeats 2000000
set_option synthInstance.maxSize 100000
def decF:Nat->Nat->T_1
  |0,_=>[]
  |n+1,u=>if u<10 then [UInt8.ofNat (48+u)] else decF n (u / 10)++[UInt8.ofNat (48+u % 10)]
theorem tq_: ∀(n u:Nat),u<n->decF n u=Lib.decDigits u
  |0,u,h=>absurd h (Nat.not_lt_zero u)
  |n+1,u,h=>by
    rw [decF,Lib.decDigits]
    by_cases c:u<10
    · rw [if_pos c,dif_pos c]
    rw [if_neg c,dif_neg c,tq_ n (u / 10) (by omega)]
def wg_(n:Int):T_1:=if n<0 then 45::decF (n.natAbs+1) n.natAbs else decF (n.toNat+1) n.toNat
theorem rk_(n:Int):wg_ n=Lib.itoa n:=by
  unfold wg_ Lib.itoa;rw [tq_ _ _ (Nat.lt_succ_self _),tq_ _ _ (Nat.lt_succ_self _)]
instance (priority:=10) LeC.rf {α:Type} {a:Option α}:LeC a a:=⟨λ_ h=>h⟩
noncomputable section
instance LeC.sumE {α β γ:Type} {x:α⊕β} {f f':α->Option γ} {g g':β->Option γ} [h: ∀a,LeC (f a) (f' a)] [k: ∀b,LeC (g b) (g' b)]:LeC (Go.E.sumE x f g) (Go.E.sumE x f' g'):=by
  cases x with
  |inl a=>exact h a
  |inr b=>exact k b
def Eq_(n:Nat)(x0:List Tip)(x1:Int):Option (Bool):=
  iteO (decide (1024<((x0.length:Nat):Int))) (some false) (kS n (λq:Nat=>Bk_ x0 x1 q) 0)
instance fst_rightTips_le {n} {x0 x1}:LeC (Eq_ n x0 x1) (Xz x0 x1):=by
  unfold Eq_ Xz;infer_instance
def Ft_(n:Nat)(x0:Fst):Option (Int):=
  iteO (decide (x0.states<0)) (some 1) (iteO (decide (1024<x0.states)) (some 1) (iteO (decide (16384<((x0.arcs.length:Nat):Int))) (some 1) (bnd (Eq_ n x0.starts x0.states) (λv22=>iteO (!v22) (some 1) (bnd (Eq_ n x0.ends x0.states) (λv29=>iteO (!v29) (some 1) (kS n (λq:Nat=>Ds_ x0 q) 0)))))))
instance fst_Check_le {n} {x0}:LeC (Ft_ n x0) (Gp x0):=by
  unfold Ft_ Gp;infer_instance
def Jd_(n:Nat)(x0:List Tip)(aI:Nat):Option ((Nat)⊕((List Tip))):=
  iteO (decide (((aI:Nat):Int)<((x0.length:Nat):Int))) (grd (0<=(IntKind.i64.wrap (((aI:Nat):Int) - 1))/\(IntKind.i64.wrap (((aI:Nat):Int) - 1))<(x0.length:Int)) (iteO (decide ((nth x0 aI aY)=(nth x0 ((IntKind.i64.wrap (((aI:Nat):Int) - 1)).toNat) aY))) (grd (aI<=x0.length) (kS n (λq:(List Tip)×Nat×Nat=>Kk_ x0 aI q.1 q.2.1 q.2.2) (x0,aI,1))) (nxt (aI+1)))) (fin (some x0))
instance compactT_b1_le {n} {x0 aI}:LeC (Jd_ n x0 aI) (Ij_ x0 aI):=by
  unfold Jd_ Ij_;infer_instance
def Jk_(n:Nat)(x0:List Tip):Option ((List Tip)):=
  iteO (decide (((x0.length:Nat):Int)<2)) (some x0) (kS n (λq:Nat=>Jd_ n x0 q) 1)
instance compactT_le {n} {x0}:LeC (Jk_ n x0) (jz_ x0):=by
  unfold Jk_ jz_;infer_instance
def I1_(n:Nat)(x0:List Arc)(aI:Nat):Option ((Nat)⊕((List Arc))):=
  iteO (decide (((aI:Nat):Int)<((x0.length:Nat):Int))) (grd (0<=(IntKind.i64.wrap (((aI:Nat):Int) - 1))/\(IntKind.i64.wrap (((aI:Nat):Int) - 1))<(x0.length:Int)) (iteO (decide ((nth x0 aI aQ)=(nth x0 ((IntKind.i64.wrap (((aI:Nat):Int) - 1)).toNat) aQ))) (grd (aI<=x0.length) (kS n (λq:(List Arc)×Nat×Nat=>Ki_ x0 aI q.1 q.2.1 q.2.2) (x0,aI,1))) (nxt (aI+1)))) (fin (some x0))
instance compactA_b1_le {n} {x0 aI}:LeC (I1_ n x0 aI) (Ie_ x0 aI):=by
  unfold I1_ Ie_;infer_instance
def K2_(n:Nat)(x0:List Arc):Option ((List Arc)):=
  iteO (decide (((x0.length:Nat):Int)<2)) (some x0) (kS n (λq:Nat=>I1_ n x0 q) 1)
instance compactA_le {n} {x0}:LeC (K2_ n x0) (lt_ x0):=by
  unfold K2_ lt_;infer_instance
def Lm_(n:Nat)(x0:List Tip):Option ((List Tip)):=
  grd (x0.length * 24<=140737488355328) (bnd (Jk_ n (rF I7 x0)) (λv9=>some v9))
instance onceT_le {n} {x0}:LeC (Lm_ n x0) (v7_ x0):=by
  unfold Lm_ v7_;infer_instance
def Ma_(n:Nat)(x0:List Arc):Option ((List Arc)):=
  grd (x0.length * 72<=140737488355328) (bnd (K2_ n (rF UM x0)) (λv9=>some v9))
instance onceA_le {n} {x0}:LeC (Ma_ n x0) (w8_ x0):=by
  unfold Ma_ w8_;infer_instance
def K1_(n:Nat)(x0:Fst):Option (Fst×Int):=
  bnd (Ft_ n x0) (λv5=>iteO (decide (v5≠0)) (some ((⟨0,([]:List Tip),([]:List Tip),([]:List Arc)⟩:Fst),1)) (bnd (Lm_ n x0.starts) (λv14=>bnd (Lm_ n x0.ends) (λv17=>bnd (Ma_ n x0.arcs) (λv20=>some ((⟨x0.states,v14,v17,v20⟩:Fst),0))))))
instance fst_Sort_le {n} {x0}:LeC (K1_ n x0) (J4_ x0):=by
  unfold K1_ J4_;infer_instance
def Ey_(n:Nat)(x2:aO)(x0:Int)(self_:Int->B_1->aO->Option B_1)(oW:B_1)(jv:Nat):Option ((B_1×Nat)⊕(B_1)):=
  iteO (decide (((jv:Nat):Int)<(((nth x2 x0.toNat ([]:ah)).length:Nat):Int))) (bnd (self_ (nth (nth x2 x0.toNat ([]:ah)) jv (0:Int)) oW x2) (λv21=>nxt (v21,(jv+1)))) (fin (some oW))
instance prune_reach_1_b1_le {n} {x2:aO} {x0:Int} {self_:Int->B_1->aO->Option B_1} {oW:B_1} {jv:Nat} {self_':Int->B_1->aO->Option B_1} [hself: ∀a0 a1 a2,LeC (self_ a0 a1 a2) (self_' a0 a1 a2)]:LeC (Ey_ n x2 x0 self_ oW jv) (Eb_ x2 x0 self_' oW jv):=by
  unfold Ey_ Eb_;infer_instance
def Gh_(n:Nat)(self_:Int->B_1->aO->Option B_1)(x0:Int)(x1:B_1)(x2:aO):Option (B_1):=
  grd (0<=x0/\x0<(x1.length:Int)) (iteO (nth x1 x0.toNat false) (some x1) (grd (0<=x0/\x0<(x1.length:Int)) (grd (0<=x0/\x0<(x2.length:Int)) (kS n (λq:B_1×Nat=>Ey_ n x2 x0 self_ q.1 q.2) ((x1.set x0.toNat true),0)))))
instance prune_reach_1F_le {n} {self_:Int->B_1->aO->Option B_1} {x0:Int} {x1:B_1} {x2:aO} {self_':Int->B_1->aO->Option B_1} [hself: ∀a0 a1 a2,LeC (self_ a0 a1 a2) (self_' a0 a1 a2)]:LeC (Gh_ n self_ x0 x1 x2) (D5_ self_' x0 x1 x2):=by
  unfold Gh_ D5_;infer_instance
def C3_(n:Nat):Nat->Int->B_1->aO->Option B_1
  |0=>λ_ _ _=>none
  |k+1=>Gh_ n (C3_ n k)
theorem Jj_{n:Nat}: ∀k a0 a1 a2,LeC (C3_ n k a0 a1 a2) (Cd_ k a0 a1 a2)
  |0,a0,a1,a2=>⟨λ_ h=>by cases h⟩
  |k+1,a0,a1,a2=>by
    have ih:=λa0 a1 a2=>Jj_ (n:=n) k a0 a1 a2;unfold C3_ Cd_;infer_instance
instance prune_reach_1_le {n k:Nat} {a0:Int} {a1:B_1} {a2:aO}:LeC (C3_ n k a0 a1 a2) (Cd_ k a0 a1 a2):=Jj_ k a0 a1 a2
def Gm_(n:Nat)(x0:List Tip)(x1:aO)(lg:B_1)(aX:Nat):Option ((B_1×Nat)⊕(B_1)):=
  iteO (decide (((aX:Nat):Int)<((x0.length:Nat):Int))) (bnd (C3_ n (lg.length+1) ((nth x0 aX aY).state) lg x1) (λv22=>nxt (v22,(aX+1)))) (fin (some lg))
instance prune_reach_b1_le {n} {x0 x1 lg aX}:LeC (Gm_ n x0 x1 lg aX) (Fc_ x0 x1 lg aX):=by
  unfold Gm_ Fc_;infer_instance
def F9_(n:Nat)(x0:List Tip)(x1:aO):Option (B_1):=
  grd (1 * x1.length<=281474976710656) (kS n (λq:B_1×Nat=>Gm_ n x0 x1 q.1 q.2) ((List.replicate x1.length false),0))
instance prune_reach_le {n} {x0 x1}:LeC (F9_ n x0 x1) (Ej_ x0 x1):=by
  unfold F9_ Ej_;infer_instance
def El_(n:Nat){Sy:Type}(v4:B_1)(v8:B_1)(Y:Sy->Int->Option (Sy×Bool))(aU:Nat)(sK:Sy):Option ((Nat×Sy)⊕(Sy)):=
  iteO (decide (((aU:Nat):Int)<((v4.length:Nat):Int))) (iteO (nth v4 aU false) (grd (aU<v8.length) (iteO (nth v8 aU false) (bnd (Y sK ((aU:Nat):Int)) (λv30=>iteO (!v30.2) (fin (some v30.1)) (XD aU v30.1))) (XD aU sK))) (XD aU sK)) (fin (some sK))
instance prune_useful_1_b1_le {n} {Sy:Type} {v4:B_1} {v8:B_1} {Y:Sy->Int->Option (Sy×Bool)} {aU:Nat} {sK:Sy} {Y':Sy->Int->Option (Sy×Bool)} [hY: ∀s x,LeC (Y s x) (Y' s x)]:LeC (El_ n v4 v8 Y aU sK) (Bc_ v4 v8 Y' aU sK):=by
  unfold El_ Bc_;infer_instance
def Ge_(n:Nat){Sy:Type}(Y:Sy->Int->Option (Sy×Bool))(s0:Sy)(x1:Fst)(x2:aO)(x3:aO):Option (Sy):=
  bnd (F9_ n x1.starts x2) (λv4=>bnd (F9_ n x1.ends x3) (λv8=>kS n (λq:Nat×Sy=>El_ n v4 v8 Y q.1 q.2) (0,s0)))
instance prune_useful_1_le {n} {Sy:Type} {Y:Sy->Int->Option (Sy×Bool)} {s0:Sy} {x1:Fst} {x2:aO} {x3:aO} {Y':Sy->Int->Option (Sy×Bool)} [hY: ∀s x,LeC (Y s x) (Y' s x)]:LeC (Ge_ n Y s0 x1 x2 x3) (Do_ Y' s0 x1 x2 x3):=by
  unfold Ge_ Do_;infer_instance
def Fj_(n:Nat)(x0:Fst):Option ((Fst×aO×aO)):=
  kS n (λq:aO×aO×Nat=>Hn_ x0 q.1 q.2.1 q.2.2) ((List.replicate x0.states.toNat ([]:ah)),(List.replicate x0.states.toNat ([]:ah)),0)
instance prune_useful_j1_le {n} {x0}:LeC (Fj_ n x0) (Db_ x0):=by
  unfold Fj_ Db_;infer_instance
def Hw_(n:Nat)(x0:Fst):Option ((Fst×aO×aO)):=
  grd (0<=x0.states/\24 * x0.states.toNat<=281474976710656) (grd (0<=x0.states/\24 * x0.states.toNat<=281474976710656) (Fj_ n x0))
instance prune_useful_le {n} {x0}:LeC (Hw_ n x0) (E0_ x0):=by
  unfold Hw_ E0_;infer_instance
def Gy_(n:Nat)(x0:Fst)(bM:ah)(gB:Nat)(bD:List Tip)(ji:List Tip)(mW:List Arc)(dS:Nat):Option (((List Arc)×Nat)⊕(Fst×Int)):=
  iteO (decide (((dS:Nat):Int)<((x0.arcs.length:Nat):Int))) (grd (0<=((nth x0.arcs dS aQ).frm)/\((nth x0.arcs dS aQ).frm)<(bM.length:Int)) (grd (0<=((nth x0.arcs dS aQ).to)/\((nth x0.arcs dS aQ).to)<(bM.length:Int)) (iteO (decide (0<=(nth bM (((nth x0.arcs dS aQ).frm).toNat) (0:Int)))) (iteO (decide (0<=(nth bM (((nth x0.arcs dS aQ).to).toNat) (0:Int)))) (grd ((mW.length+[(⟨(nth bM (((nth x0.arcs dS aQ).frm).toNat) (0:Int)),(nth bM (((nth x0.arcs dS aQ).to).toNat) (0:Int)),(nth x0.arcs dS aQ).set,(nth x0.arcs dS aQ).out,(nth x0.arcs dS aQ).copy⟩:Arc)].length) * 72<=140737488355328) (XA dS (mW++[(⟨(nth bM (((nth x0.arcs dS aQ).frm).toNat) (0:Int)),(nth bM (((nth x0.arcs dS aQ).to).toNat) (0:Int)),(nth x0.arcs dS aQ).set,(nth x0.arcs dS aQ).out,(nth x0.arcs dS aQ).copy⟩:Arc)]))) (XA dS mW)) (XA dS mW)))) (fin (bnd (K1_ n (⟨((gB:Nat):Int),bD,ji,mW⟩:Fst)) (λv145=>some (v145.1,v145.2))))
instance prune_Trim_b4_le {n} {x0 bM gB bD ji mW dS}:LeC (Gy_ n x0 bM gB bD ji mW dS) (Fy_ x0 bM gB bD ji mW dS):=by
  unfold Gy_ Fy_;infer_instance
def G9_(n:Nat)(x0:Fst)(bM:ah)(gB:Nat)(bD:List Tip)(ji:List Tip)(iY:Nat):Option (((List Tip)×Nat)⊕(Fst×Int)):=
  iteO (decide (((iY:Nat):Int)<((x0.ends.length:Nat):Int))) (grd (0<=((nth x0.ends iY aY).state)/\((nth x0.ends iY aY).state)<(bM.length:Int)) (iteO (decide (0<=(nth bM (((nth x0.ends iY aY).state).toNat) (0:Int)))) (grd ((ji.length+[(⟨(nth bM (((nth x0.ends iY aY).state).toNat) (0:Int)),(nth x0.ends iY aY).out⟩:Tip)].length) * 24<=140737488355328) (Cz_ iY (ji++[(⟨(nth bM (((nth x0.ends iY aY).state).toNat) (0:Int)),(nth x0.ends iY aY).out⟩:Tip)]))) (Cz_ iY ji))) (fin (kS n (λq:(List Arc)×Nat=>Gy_ n x0 bM gB bD ji q.1 q.2) (([]:List Arc),0)))
instance prune_Trim_b3_le {n} {x0 bM gB bD ji iY}:LeC (G9_ n x0 bM gB bD ji iY) (F1_ x0 bM gB bD ji iY):=by
  unfold G9_ F1_;infer_instance
def Hq_(n:Nat)(x0:Fst)(bM:ah)(gB:Nat)(bD:List Tip)(d_:Nat):Option (((List Tip)×Nat)⊕(Fst×Int)):=
  iteO (decide (((d_:Nat):Int)<((x0.starts.length:Nat):Int))) (grd (0<=((nth x0.starts d_ aY).state)/\((nth x0.starts d_ aY).state)<(bM.length:Int)) (iteO (decide (0<=(nth bM (((nth x0.starts d_ aY).state).toNat) (0:Int)))) (grd ((bD.length+[(⟨(nth bM (((nth x0.starts d_ aY).state).toNat) (0:Int)),(nth x0.starts d_ aY).out⟩:Tip)].length) * 24<=140737488355328) (Ct_ d_ (bD++[(⟨(nth bM (((nth x0.starts d_ aY).state).toNat) (0:Int)),(nth x0.starts d_ aY).out⟩:Tip)]))) (Ct_ d_ bD))) (fin (kS n (λq:(List Tip)×Nat=>G9_ n x0 bM gB bD q.1 q.2) (([]:List Tip),0)))
instance prune_Trim_b2_le {n} {x0 bM gB bD d_}:LeC (Hq_ n x0 bM gB bD d_) (F2_ x0 bM gB bD d_):=by
  unfold Hq_ F2_;infer_instance
def Hk_(n:Nat)(x0:Fst)(jz:Nat)(bM:ah)(gB:Nat):Option (Fst×Int):=
  jsel jz (kS n (λq:(List Tip)×Nat=>Hq_ n x0 bM gB q.1 q.2) (([]:List Tip),0)) (λ_=>none)
instance prune_Trim_k4_le {n} {x0 jz bM gB}:LeC (Hk_ n x0 jz bM gB) (F5_ x0 jz bM gB):=by
  unfold Hk_ F5_;infer_instance
def Hs_(n:Nat)(x0:Fst)(dF:ah)(mZ:Nat):Option ((ah×Nat)⊕(Fst×Int)):=
  iteO (decide (((mZ:Nat):Int)<(((List.replicate x0.states.toNat (0:Int)).length:Nat):Int))) (grd (mZ<dF.length) (nxt ((dF.set mZ (-1)),(mZ+1)))) (fin (bnd (Hw_ n x0) (λv29=>bnd (Ge_ n (stepY (λ(q:ah×Nat) (x:Int)=>Ga_ q.1 q.2 x)) (0,(dF,0)) (⟨v29.1.states,v29.1.starts,v29.1.ends,v29.1.arcs⟩:Fst) v29.2.1 v29.2.2) (λP8=>Hk_ n x0 P8.1 P8.2.1 P8.2.2))))
instance prune_Trim_b1_le {n} {x0 dF mZ}:LeC (Hs_ n x0 dF mZ) (F4_ x0 dF mZ):=by
  unfold Hs_ F4_;infer_instance
def J0_(n:Nat)(x0:Fst):Option (Fst×Int):=
  bnd (Ft_ n x0) (λv5=>iteO (decide (v5≠0)) (some ((⟨0,([]:List Tip),([]:List Tip),([]:List Arc)⟩:Fst),1)) (grd (0<=x0.states/\8 * x0.states.toNat<=281474976710656) (kS n (λq:ah×Nat=>Hs_ n x0 q.1 q.2) ((List.replicate x0.states.toNat (0:Int)),0))))
instance prune_Trim_le {n} {x0}:LeC (J0_ n x0) (Gz_ x0):=by
  unfold J0_ Gz_;infer_instance
def J7_(n:Nat)(x0:T_1)(x1:T_1):Option (Int):=
  grd (x0.length<=281474976710656) (grd (x1.length<=281474976710656) (kS n (λq:Nat=>Iy_ x0 x1 q) 0))
instance text_front_le {n} {x0 x1}:LeC (J7_ n x0 x1) (Hl_ x0 x1):=by
  unfold J7_ Hl_;infer_instance
def Lg_(n:Nat)(x0:ah)(x1:bC)(x2:Int):Option (Bool):=
  iteO (decide (((x0.length:Nat):Int)≠256)) (some false) (iteO (decide (((x1.length:Nat):Int)≠256)) (some false) (kS n (λq:Nat=>Ky_ x0 x2 x1 q) 0))
instance seq_row_le {n} {x0 x1 x2}:LeC (Lg_ n x0 x1 x2) (Kq_ x0 x1 x2):=by
  unfold Lg_ Kq_;infer_instance
def E8_(n:Nat)(aJ:Nat)(x0:Seq):Option ((Nat)⊕(Int)):=
  grd (aJ<x0.outs.length) (bnd (Lg_ n (nth x0.next aJ ([]:ah)) (nth x0.outs aJ ([]:bC)) ((x0.next.length:Nat):Int)) (λv85=>iteO (!v85) (fin (some 1)) (nxt (aJ+1))))
instance seq_Check_j2_le {n} {aJ x0}:LeC (E8_ n aJ x0) (Dx_ aJ x0):=by
  unfold E8_ Dx_;infer_instance
def H3_(n:Nat)(x0:Seq)(aJ:Nat):Option ((Nat)⊕(Int)):=
  iteO (decide (((aJ:Nat):Int)<((x0.next.length:Nat):Int))) (grd (aJ<x0.tail.length) (iteO (decide (4096<(((nth x0.tail aJ ([]:T_1)).length:Nat):Int))) (fin (some 1)) (grd (aJ<x0.fin.length) (iteO (!(nth x0.fin aJ false)) (grd (aJ<x0.tail.length) (iteO (decide ((nth x0.tail aJ ([]:T_1))≠([]:T_1))) (fin (some 1)) (E8_ n aJ x0))) (E8_ n aJ x0))))) (fin (some 0))
instance seq_Check_b1_le {n} {x0 aJ}:LeC (H3_ n x0 aJ) (G4_ x0 aJ):=by
  unfold H3_ G4_;infer_instance
def E7_(n:Nat)(x0:Seq):Option (Int):=
  kS n (λq:Nat=>H3_ n x0 q) 0
instance seq_Check_j1_le {n} {x0}:LeC (E7_ n x0) (Dz_ x0):=by
  unfold E7_ Dz_;infer_instance
def Fo_(n:Nat)(x0:Seq):Option (Int):=
  iteO (decide (1024<((x0.next.length:Nat):Int))) (some 1) (iteO (decide (((x0.outs.length:Nat):Int)≠((x0.next.length:Nat):Int))) (some 1) (iteO (decide (((x0.fin.length:Nat):Int)≠((x0.next.length:Nat):Int))) (some 1) (iteO (decide (((x0.tail.length:Nat):Int)≠((x0.next.length:Nat):Int))) (some 1) (iteO (decide (4096<((x0.front.length:Nat):Int))) (some 1) (iteO (decide (((x0.next.length:Nat):Int)=0)) (iteO (decide (x0.front≠([]:T_1))) (some 1) (E7_ n x0)) (E7_ n x0))))))
instance seq_Check_le {n} {x0}:LeC (Fo_ n x0) (Ew_ x0):=by
  unfold Fo_ Ew_;infer_instance
def Fw_(n:Nat)(x0:Seq)(x1:T_1):Option (T_1×Int×Bool×Int):=
  grd (x1.length<=281474976710656) (bnd (Fo_ n x0) (λv7=>iteO (decide (v7≠0)) (some (([]:T_1),0,false,1)) (iteO (decide (((x0.next.length:Nat):Int)=0)) (some (([]:T_1),0,false,0)) (bnd (Df (⟨([]:T_1)⟩:SB) x0.front) (λv24=>kS n (λq:T_1×Int×Nat=>Kb_ x1 x0 q.1 q.2.1 q.2.2) (v24.2.2.buf,0,0))))))
instance seq_Apply_le {n} {x0 x1}:LeC (Fw_ n x0 x1) (Gs_ x0 x1):=by
  unfold Fw_ Gs_;infer_instance
def I5_(n:Nat)(x0:bC)(rJ:T_1)(nX:Nat):Option ((T_1×Nat)⊕(T_1)):=
  iteO (decide (((nX:Nat):Int)<(((x0.drop 1).length:Nat):Int))) (bnd (J7_ n rJ (nth (x0.drop 1) nX ([]:T_1))) (λv21=>grd (0<=v21/\0<=v21.toNat/\v21.toNat<=rJ.length) (nxt ((rJ.take v21.toNat),(nX+1))))) (fin (some rJ))
instance text_Lcp_b1_le {n} {x0 rJ nX}:LeC (I5_ n x0 rJ nX) (Ig_ x0 rJ nX):=by
  unfold I5_ Ig_;infer_instance
def Jm_(n:Nat)(x0:bC):Option (T_1):=
  iteO (decide (((x0.length:Nat):Int)=0)) (some ([]:T_1)) (grd (0<x0.length) (grd (1<=x0.length/\x0.length<=x0.length) (kS n (λq:T_1×Nat=>I5_ n x0 q.1 q.2) ((nth x0 0 ([]:T_1)),0))))
instance text_Lcp_le {n} {x0}:LeC (Jm_ n x0) (H4_ x0):=by
  unfold Jm_ H4_;infer_instance
def Hy_(n:Nat)(v6:(List Tip))(eU:bC)(cZ:Nat):Option ((bC×Nat)⊕(Int⊕(T_1×(List Tip)))):=
  iteO (decide (((cZ:Nat):Int)<((v6.length:Nat):Int))) (iteO (decide (0<((cZ:Nat):Int))) (grd (0<=(IntKind.i64.wrap (((cZ:Nat):Int) - 1))/\(IntKind.i64.wrap (((cZ:Nat):Int) - 1))<(v6.length:Int)) (iteO (decide (((nth v6 ((IntKind.i64.wrap (((cZ:Nat):Int) - 1)).toNat) aY).state)=((nth v6 cZ aY).state))) (fin (some (.inl 12))) (Dp_ cZ eU v6))) (Dp_ cZ eU v6)) (fin (bnd (Jm_ n eU) (λv47=>bnd (E1_ v47) (λv50=>sumE v50 (λv50k=>some (.inl v50k)) (λv50r=>kS n (λq:(List Tip)×Nat=>Ka_ v6 v47 q.1 q.2) (v6,0))))))
instance seq_strip_b1_le {n} {v6 eU cZ}:LeC (Hy_ n v6 eU cZ) (G0_ v6 eU cZ):=by
  unfold Hy_ G0_;infer_instance
def Id_(n:Nat)(x0:List Tip):Option (Int⊕(T_1×(List Tip))):=
  bnd (Jk_ n (rF I7 x0)) (λv6=>grd (16 * v6.length<=281474976710656) (kS n (λq:bC×Nat=>Hy_ n v6 q.1 q.2) ((List.replicate v6.length ([]:T_1)),0)))
instance seq_strip_le {n} {x0}:LeC (Id_ n x0) (Gq_ x0):=by
  unfold Id_ Gq_;infer_instance
def J9_(n:Nat)(x0:List Tip)(dF:T_1)(fQ:Nat):Option ((T_1×Nat)⊕(T_1)):=
  iteO (decide (((fQ:Nat):Int)<((x0.length:Nat):Int))) (grd (-9223372036854775808<=((nth x0 fQ aY).state)/\((nth x0 fQ aY).state)<=9223372036854775807) (bnd (Df (⟨dF⟩:SB) (wg_ ((nth x0 fQ aY).state))) (λv14=>bnd (G7 (⟨v14.2.2.buf⟩:SB) (58:UInt8)) (λv15=>grd (-9223372036854775808<=((((nth x0 fQ aY).out).length:Nat):Int)/\((((nth x0 fQ aY).out).length:Nat):Int)<=9223372036854775807) (bnd (Df (⟨v15.2.buf⟩:SB) (wg_ ((((nth x0 fQ aY).out).length:Nat):Int))) (λv20=>bnd (G7 (⟨v20.2.2.buf⟩:SB) (58:UInt8)) (λv21=>bnd (Df (⟨v21.2.buf⟩:SB) ((nth x0 fQ aY).out)) (λv24=>nxt (v24.2.2.buf,(fQ+1)))))))))) (fin (bnd (Yt (⟨dF⟩:SB)) (λv27=>some v27)))
instance seq_key_b1_le {n} {x0 dF fQ}:LeC (J9_ n x0 dF fQ) (Jl_ x0 dF fQ):=by
  unfold J9_ Jl_;simp only [rk_];infer_instance
def Lb_(n:Nat)(x0:List Tip):Option (T_1):=
  kS n (λq:T_1×Nat=>J9_ n x0 q.1 q.2) (([]:T_1),0)
instance seq_key_le {n} {x0}:LeC (Lb_ n x0) (Kt_ x0):=by
  unfold Lb_ Kt_;infer_instance
def Di_(n:Nat)(x0:Maker)(x1:List Tip):Option (Int⊕(Int×Maker)):=
  bnd (Lb_ n x1) (λv3=>iteO (x0.places.has v3) (some (.inr ((x0.places.get v3 0),x0))) (iteO (decide (x0.most<=((x0.rows.length:Nat):Int))) (some (.inl 2)) (grd ((x0.rows.length+[x1].length) * 24<=140737488355328) (some (.inr (((x0.rows.length:Nat):Int),(⟨x0.arcs,x0.ends,x0.most,(x0.rows++[x1]),(x0.places.put v3 ((x0.rows.length:Nat):Int)),x0.q⟩:Maker)))))))
instance seq_maker_state_le {n} {x0 x1}:LeC (Di_ n x0 x1) (B2_ x0 x1):=by
  unfold Di_ B2_;infer_instance
def Ek_(n:Nat)(x1:List Tip)(x0:Maker)(zU:Bool)(xA:T_1)(bV:Nat):Option ((Bool×T_1×Nat)⊕(Int⊕(Bool×T_1))):=
  iteO (decide (((bV:Nat):Int)<((x1.length:Nat):Int))) (grd (0<=((nth x1 bV aY).state)/\((nth x1 bV aY).state)<(x0.ends.length:Int)) (kS n (λq:Bool×T_1×Nat=>Cf_ x0 x1 bV q.1 q.2.1 q.2.2) (zU,xA,0))) (fin (bnd (E1_ xA) (λv49=>sumE v49 (λv49k=>some (.inl v49k)) (λv49r=>some (.inr (zU,xA))))))
instance seq_maker_tail_b1_le {n} {x1 x0 zU xA bV}:LeC (Ek_ n x1 x0 zU xA bV) (Bd_ x1 x0 zU xA bV):=by
  unfold Ek_ Bd_;infer_instance
def Gn_(n:Nat)(x0:Maker)(x1:List Tip):Option (Int⊕(Bool×T_1)):=
  kS n (λq:Bool×T_1×Nat=>Ek_ n x1 x0 q.1 q.2.1 q.2.2) (false,([]:T_1),0)
instance seq_maker_tail_le {n} {x0 x1}:LeC (Gn_ n x0 x1) (D1_ x0 x1):=by
  unfold Gn_ D1_;infer_instance
def Dj_(n:Nat)(x1:List Tip)(x0:Maker)(x2:UInt8)(kZ:List Tip)(b_:Nat):Option (((List Tip)×Nat)⊕((List Tip))):=
  iteO (decide (((b_:Nat):Int)<((x1.length:Nat):Int))) (grd (0<=((nth x1 b_ aY).state)/\((nth x1 b_ aY).state)<(x0.arcs.length:Int)) (kS n (λq:(List Tip)×Nat=>Bh_ x0 x1 b_ x2 q.1 q.2) (kZ,0))) (fin (some kZ))
instance seq_maker_behind_b1_le {n} {x1 x0 x2 kZ b_}:LeC (Dj_ n x1 x0 x2 kZ b_) (Av_ x1 x0 x2 kZ b_):=by
  unfold Dj_ Av_;infer_instance
def E3_(n:Nat)(x0:Maker)(x1:List Tip)(x2:UInt8):Option ((List Tip)):=
  kS n (λq:(List Tip)×Nat=>Dj_ n x1 x0 x2 q.1 q.2) (([]:List Tip),0)
instance seq_maker_behind_le {n} {x0 x1 x2}:LeC (E3_ n x0 x1 x2) (Co_ x0 x1 x2):=by
  unfold E3_ Co_;infer_instance
def Fg_(n:Nat)(x0:Maker)(x1:Int)(v11r:Bool×T_1)(qI:List (List Tip))(qE:FM T_1 Int)(cO:ah)(oJ:bC)(dQ:Nat):Option (((List (List Tip))×(FM T_1 Int)×ah×bC×Nat)⊕(Int⊕(Maker))):=
  iteO (decide (((dQ:Nat):Int)<256)) (grd (dQ<cO.length) (bnd (E3_ n (⟨x0.arcs,x0.ends,x0.most,qI,qE,x0.q⟩:Maker) (nth x0.rows x1.toNat ([]:List Tip)) (jd ((dQ:Nat):Int))) (λv33=>iteO (decide (0<((v33.length:Nat):Int))) (bnd (Id_ n v33) (λv41=>sumE v41 (λv41k=>fin (some (.inl v41k))) (λv41r=>grd (dQ<oJ.length) (bnd (Di_ n (⟨x0.arcs,x0.ends,x0.most,qI,qE,x0.q⟩:Maker) v41r.2) (λv52=>sumE v52 (λv52k=>fin (some (.inl v52k))) (λv52r=>grd (dQ<(cO.set dQ (-1)).length) (nxt (v52r.2.rows,v52r.2.places,((cO.set dQ (-1)).set dQ v52r.1),(oJ.set dQ v41r.1),(dQ+1))))))))) (nxt (qI,qE,(cO.set dQ (-1)),oJ,(dQ+1)))))) (fin (grd ((x0.q.next.length+[cO].length) * 24<=140737488355328) (grd ((x0.q.outs.length+[oJ].length) * 24<=140737488355328) (grd ((x0.q.fin.length+[v11r.1].length) * 1<=140737488355328) (grd ((x0.q.tail.length+[v11r.2].length) * 16<=140737488355328) (some (.inr (⟨x0.arcs,x0.ends,x0.most,qI,qE,(⟨x0.q.front,(x0.q.next++[cO]),(x0.q.outs++[oJ]),(x0.q.fin++[v11r.1]),(x0.q.tail++[v11r.2])⟩:Seq)⟩:Maker))))))))
instance seq_maker_do_b1_le {n} {x0 x1 v11r qI qE cO oJ dQ}:LeC (Fg_ n x0 x1 v11r qI qE cO oJ dQ) (B0_ x0 x1 v11r qI qE cO oJ dQ):=by
  unfold Fg_ B0_;infer_instance
def Fh_(n:Nat)(x0:Maker)(x1:Int)(v11r:Bool×T_1):Option (Int⊕(Maker)):=
  kS n (λq:(List (List Tip))×(FM T_1 Int)×ah×bC×Nat=>Fg_ n x0 x1 v11r q.1 q.2.1 q.2.2.1 q.2.2.2.1 q.2.2.2.2) (x0.rows,x0.places,(List.replicate 256 (0:Int)),(List.replicate 256 ([]:T_1)),0)
instance seq_maker_do_j1_le {n} {x0 x1 v11r}:LeC (Fh_ n x0 x1 v11r) (C6_ x0 x1 v11r):=by
  unfold Fh_ C6_;infer_instance
def H5_(n:Nat)(x0:Maker)(x1:Int):Option (Int⊕(Maker)):=
  grd (0<=x1/\x1<(x0.rows.length:Int)) (bnd (Gn_ n x0 (nth x0.rows x1.toNat ([]:List Tip))) (λv11=>sumE v11 (λv11k=>some (.inl v11k)) (λv11r=>Fh_ n x0 x1 v11r)))
instance seq_maker_do_le {n} {x0 x1}:LeC (H5_ n x0 x1) (Ev_ x0 x1):=by
  unfold H5_ Ev_;infer_instance
def Eu_(n:Nat)(x0:Maker)(v16r:T_1×(List Tip))(yM:List (List Tip))(xE:FM T_1 Int)(vG:aO)(nU:iC)(vC:B_1)(vw:bC)(xM:Nat):Option (((List (List Tip))×(FM T_1 Int)×aO×iC×B_1×bC×Nat)⊕(Seq×Int)):=
  iteO (decide (((xM:Nat):Int)<((yM.length:Nat):Int))) (bnd (H5_ n (⟨x0.arcs,x0.ends,x0.most,yM,xE,(⟨v16r.1,vG,nU,vC,vw⟩:Seq)⟩:Maker) ((xM:Nat):Int)) (λv41=>sumE v41 (λv41k=>fin (bnd (Xn v41k) (λv70=>some (v70.1,v70.2)))) (λv41r=>nxt (v41r.rows,v41r.places,v41r.q.next,v41r.q.outs,v41r.q.fin,v41r.q.tail,(xM+1))))) (fin (bnd (Go_ (⟨v16r.1,vG,nU,vC,vw⟩:Seq) 0) (λv71=>some ((⟨v16r.1,vG,nU,vC,vw⟩:Seq),0))))
instance seq_maker_all_b1_le {n} {x0 v16r yM xE vG nU vC vw xM}:LeC (Eu_ n x0 v16r yM xE vG nU vC vw xM) (Bi_ x0 v16r yM xE vG nU vC vw xM):=by
  unfold Eu_ Bi_;infer_instance
def Hi_(n:Nat)(x0:Maker)(x1:Fst):Option (Seq×Int):=
  iteO (decide (((x1.starts.length:Nat):Int)=0)) (bnd (Go_ (⟨([]:T_1),([]:aO),([]:iC),([]:B_1),([]:bC)⟩:Seq) 0) (λv51=>some ((⟨([]:T_1),([]:aO),([]:iC),([]:B_1),([]:bC)⟩:Seq),0))) (grd (x1.starts.length * 24<=140737488355328) (bnd (Id_ n x1.starts) (λv16=>sumE v16 (λv16k=>bnd (Xn v16k) (λv52=>some (v52.1,v52.2))) (λv16r=>bnd (Di_ n (⟨x0.arcs,x0.ends,x0.most,x0.rows,x0.places,(⟨v16r.1,x0.q.next,x0.q.outs,x0.q.fin,x0.q.tail⟩:Seq)⟩:Maker) v16r.2) (λv30=>sumE v30 (λv30k=>bnd (Xn v30k) (λv53=>some (v53.1,v53.2))) (λv30r=>kS n (λq:(List (List Tip))×(FM T_1 Int)×aO×iC×B_1×bC×Nat=>Eu_ n x0 v16r q.1 q.2.1 q.2.2.1 q.2.2.2.1 q.2.2.2.2.1 q.2.2.2.2.2.1 q.2.2.2.2.2.2) (v30r.2.rows,v30r.2.places,x0.q.next,x0.q.outs,x0.q.fin,x0.q.tail,0)))))))
instance seq_maker_all_le {n} {x0 x1}:LeC (Hi_ n x0 x1) (Ee_ x0 x1):=by
  unfold Hi_ Ee_;infer_instance
def Kj_(n:Nat)(v19:Fst×Int)(bD:List (List Arc))(x1:Int)(jS:iC)(eX:Nat):Option ((iC×Nat)⊕(Seq×Int)):=
  iteO (decide (((eX:Nat):Int)<((v19.1.ends.length:Nat):Int))) (grd (0<=((nth v19.1.ends eX aY).state)/\((nth v19.1.ends eX aY).state)<(jS.length:Int)) (grd (((nth jS (((nth v19.1.ends eX aY).state).toNat) ([]:bC)).length+[(nth v19.1.ends eX aY).out].length) * 16<=140737488355328) (grd (0<=((nth v19.1.ends eX aY).state)/\((nth v19.1.ends eX aY).state)<(jS.length:Int)) (nxt ((jS.set (((nth v19.1.ends eX aY).state).toNat) ((nth jS (((nth v19.1.ends eX aY).state).toNat) ([]:bC))++[(nth v19.1.ends eX aY).out])),(eX+1)))))) (fin (bnd (Hi_ n (⟨bD,jS,x1,([]:List (List Tip)),(FM.emp:FM T_1 Int),(⟨([]:T_1),([]:aO),([]:iC),([]:B_1),([]:bC)⟩:Seq)⟩:Maker) v19.1) (λnT=>some (nT.1,nT.2))))
instance seq_Of_b2_le {n} {v19 bD x1 jS eX}:LeC (Kj_ n v19 bD x1 jS eX) (Ke_ v19 bD x1 jS eX):=by
  unfold Kj_ Ke_;infer_instance
def Kh_(n:Nat)(v19:Fst×Int)(x1:Int)(bD:List (List Arc))(dZ:Nat):Option (((List (List Arc))×Nat)⊕(Seq×Int)):=
  iteO (decide (((dZ:Nat):Int)<((v19.1.arcs.length:Nat):Int))) (grd (0<=((nth v19.1.arcs dZ aQ).frm)/\((nth v19.1.arcs dZ aQ).frm)<(bD.length:Int)) (grd (((nth bD (((nth v19.1.arcs dZ aQ).frm).toNat) ([]:List Arc)).length+[(nth v19.1.arcs dZ aQ)].length) * 72<=140737488355328) (grd (0<=((nth v19.1.arcs dZ aQ).frm)/\((nth v19.1.arcs dZ aQ).frm)<(bD.length:Int)) (nxt ((bD.set (((nth v19.1.arcs dZ aQ).frm).toNat) ((nth bD (((nth v19.1.arcs dZ aQ).frm).toNat) ([]:List Arc))++[(nth v19.1.arcs dZ aQ)])),(dZ+1)))))) (fin (kS n (λq:iC×Nat=>Kj_ n v19 bD x1 q.1 q.2) ((List.replicate v19.1.states.toNat ([]:bC)),0)))
instance seq_Of_b1_le {n} {v19 x1 bD dZ}:LeC (Kh_ n v19 x1 bD dZ) (Kc_ v19 x1 bD dZ):=by
  unfold Kh_ Kc_;infer_instance
def Kl_(n:Nat)(v19:Fst×Int)(x1:Int):Option (Seq×Int):=
  kS n (λq:(List (List Arc))×Nat=>Kh_ n v19 x1 q.1 q.2) ((List.replicate v19.1.states.toNat ([]:List Arc)),0)
instance seq_Of_j1_le {n} {v19 x1}:LeC (Kl_ n v19 x1) (Io_ v19 x1):=by
  unfold Kl_ Io_;infer_instance
def J6_(n:Nat)(x0:Fst)(x1:Int):Option (Seq×Int):=
  bnd (Ft_ n x0) (λv5=>iteO (decide (v5≠0)) (some ((⟨([]:T_1),([]:aO),([]:iC),([]:B_1),([]:bC)⟩:Seq),1)) (iteO (decide (x1<1)) (some ((⟨([]:T_1),([]:aO),([]:iC),([]:B_1),([]:bC)⟩:Seq),1)) (iteO (decide (1024<x1)) (some ((⟨([]:T_1),([]:aO),([]:iC),([]:B_1),([]:bC)⟩:Seq),1)) (bnd (J0_ n x0) (λv19=>iteO (decide (v19.2≠0)) (some ((⟨([]:T_1),([]:aO),([]:iC),([]:B_1),([]:bC)⟩:Seq),v19.2)) (grd (0<=v19.1.states/\24 * v19.1.states.toNat<=281474976710656) (grd (0<=v19.1.states/\24 * v19.1.states.toNat<=281474976710656) (Kl_ n v19 x1))))))))
instance seq_Of_le {n} {x0 x1}:LeC (J6_ n x0 x1) (Kr_ x0 x1):=by
  unfold J6_ Kr_;infer_instance
def Hf_(n:Nat)(x0:Seq)(x1:Int)(x3:B_1)(x2:bC)(rH:T_1)(sJ:Bool)(aJ:Nat):Option ((T_1×Bool×Nat)⊕(T_1)):=
  iteO (decide (((aJ:Nat):Int)<(((nth x0.next x1.toNat ([]:ah)).length:Nat):Int))) (iteO (decide ((nth (nth x0.next x1.toNat ([]:ah)) aJ (0:Int))<0)) (nxt (rH,sJ,(aJ+1))) (grd (0<=(nth (nth x0.next x1.toNat ([]:ah)) aJ (0:Int))/\(nth (nth x0.next x1.toNat ([]:ah)) aJ (0:Int))<(x3.length:Int)) (iteO (!(nth x3 ((nth (nth x0.next x1.toNat ([]:ah)) aJ (0:Int)).toNat) false)) (nxt (rH,sJ,(aJ+1))) (grd (0<=x1/\x1<(x0.outs.length:Int)) (grd (aJ<(nth x0.outs x1.toNat ([]:bC)).length) (grd (0<=(nth (nth x0.next x1.toNat ([]:ah)) aJ (0:Int))/\(nth (nth x0.next x1.toNat ([]:ah)) aJ (0:Int))<(x2.length:Int)) (grd ((nth (nth x0.outs x1.toNat ([]:bC)) aJ ([]:T_1)).length+(nth x2 ((nth (nth x0.next x1.toNat ([]:ah)) aJ (0:Int)).toNat) ([]:T_1)).length<=9223372036854775807) (iteO sJ (bnd (Jm_ n [rH,((nth (nth x0.outs x1.toNat ([]:bC)) aJ ([]:T_1))++(nth x2 ((nth (nth x0.next x1.toNat ([]:ah)) aJ (0:Int)).toNat) ([]:T_1)))]) (λv55=>nxt (v55,sJ,(aJ+1)))) (nxt (((nth (nth x0.outs x1.toNat ([]:bC)) aJ ([]:T_1))++(nth x2 ((nth (nth x0.next x1.toNat ([]:ah)) aJ (0:Int)).toNat) ([]:T_1))),true,(aJ+1))))))))))) (fin (some rH))
instance push_front_b1_le {n} {x0 x1 x3 x2 rH sJ aJ}:LeC (Hf_ n x0 x1 x3 x2 rH sJ aJ) (Gc_ x0 x1 x3 x2 rH sJ aJ):=by
  unfold Hf_ Gc_;infer_instance
def Jp_(n:Nat)(x0:Seq)(x1:Int)(x2:bC)(x3:B_1):Option (T_1):=
  grd (0<=x1/\x1<(x0.tail.length:Int)) (grd (0<=x1/\x1<(x0.fin.length:Int)) (grd (0<=x1/\x1<(x0.next.length:Int)) (kS n (λq:T_1×Bool×Nat=>Hf_ n x0 x1 x3 x2 q.1 q.2.1 q.2.2) ((nth x0.tail x1.toNat ([]:T_1)),(nth x0.fin x1.toNat false),0))))
instance push_front_le {n} {x0 x1 x2 x3}:LeC (Jp_ n x0 x1 x2 x3) (G2_ x0 x1 x2 x3):=by
  unfold Jp_ G2_;infer_instance
def D9_(n:Nat)(bI:ah)(eF:bC)(gJ:B_1)(bH:aO)(nK:T_1)(kC:B_1):Option ((bC×B_1×ah×B_1)⊕(bC×B_1)):=
  grd (0<=(nth bI 0 (0:Int))/\(nth bI 0 (0:Int))<(eF.length:Int)) (grd (0<=(nth bI 0 (0:Int))/\(nth bI 0 (0:Int))<(gJ.length:Int)) (grd (0<=(nth bI 0 (0:Int))/\(nth bI 0 (0:Int))<(bH.length:Int)) (kS n (λq:ah×B_1×Nat=>Hx_ bH bI eF nK gJ q.1 q.2.1 q.2.2) ((bI.drop 1),(kC.set ((nth bI 0 (0:Int)).toNat) false),0))))
instance push_fronts_j3_le {n} {bI eF gJ bH nK kC}:LeC (D9_ n bI eF gJ bH nK kC) (Cj_ bI eF gJ bH nK kC):=by
  unfold D9_ Cj_;infer_instance
def Gd_(n:Nat)(x0:Seq)(bH:aO)(eF:bC)(gJ:B_1)(bI:ah)(kC:B_1):Option ((bC×B_1×ah×B_1)⊕(bC×B_1)):=
  iteO (decide (0<((bI.length:Nat):Int))) (grd (0<bI.length/\1<=bI.length) (grd (0<=(nth bI 0 (0:Int))/\(nth bI 0 (0:Int))<(kC.length:Int)) (bnd (Jp_ n x0 (nth bI 0 (0:Int)) eF gJ) (λnK=>grd (0<=(nth bI 0 (0:Int))/\(nth bI 0 (0:Int))<(gJ.length:Int)) (iteO (nth gJ ((nth bI 0 (0:Int)).toNat) false) (grd (0<=(nth bI 0 (0:Int))/\(nth bI 0 (0:Int))<(eF.length:Int)) (iteO (decide (nK=(nth eF ((nth bI 0 (0:Int)).toNat) ([]:T_1)))) (nxt (eF,gJ,(bI.drop 1),(kC.set ((nth bI 0 (0:Int)).toNat) false))) (D9_ n bI eF gJ bH nK kC))) (D9_ n bI eF gJ bH nK kC)))))) (fin (some (eF,gJ)))
instance push_fronts_b4_le {n} {x0 bH eF gJ bI kC}:LeC (Gd_ n x0 bH eF gJ bI kC) (Fe_ x0 bH eF gJ bI kC):=by
  unfold Gd_ Fe_;infer_instance
def Gl_(n:Nat)(x0:Seq)(bH:aO)(rO:ah)(pX:B_1)(lM:Nat):Option ((ah×B_1×Nat)⊕(bC×B_1)):=
  iteO (decide (((lM:Nat):Int)<((x0.fin.length:Nat):Int))) (iteO (nth x0.fin lM false) (grd ((rO.length+[((lM:Nat):Int)].length) * 8<=140737488355328) (grd (lM<pX.length) (nxt ((rO++[((lM:Nat):Int)]),(pX.set lM true),(lM+1))))) (nxt (rO,pX,(lM+1)))) (fin (kS n (λq:bC×B_1×ah×B_1=>Gd_ n x0 bH q.1 q.2.1 q.2.2.1 q.2.2.2) ((List.replicate x0.next.length ([]:T_1)),(List.replicate x0.next.length false),rO,pX)))
instance push_fronts_b3_le {n} {x0 bH rO pX lM}:LeC (Gl_ n x0 bH rO pX lM) (Fa_ x0 bH rO pX lM):=by
  unfold Gl_ Fa_;infer_instance
def Gf_(n:Nat)(x0:Seq)(bH:aO):Option (bC×B_1):=
  kS n (λq:ah×B_1×Nat=>Gl_ n x0 bH q.1 q.2.1 q.2.2) (([]:ah),(List.replicate x0.next.length false),0)
instance push_fronts_j2_le {n} {x0 bH}:LeC (Gf_ n x0 bH) (Dv_ x0 bH):=by
  unfold Gf_ Dv_;infer_instance
def Gk_(n:Nat)(x0:Seq)(bH:aO):Option (bC×B_1):=
  grd (1 * x0.next.length<=281474976710656) (Gf_ n x0 bH)
instance push_fronts_j1_le {n} {x0 bH}:LeC (Gk_ n x0 bH) (Dq_ x0 bH):=by
  unfold Gk_ Dq_;infer_instance
def Gi_(n:Nat)(x0:Seq)(bH:aO)(dB:Nat):Option ((aO×Nat)⊕(bC×B_1)):=
  iteO (decide (((dB:Nat):Int)<((x0.next.length:Nat):Int))) (kS n (λq:aO×Nat=>H0_ x0 dB q.1 q.2) (bH,0)) (fin (grd (16 * x0.next.length<=281474976710656) (grd (1 * x0.next.length<=281474976710656) (Gk_ n x0 bH))))
instance push_fronts_b1_le {n} {x0 bH dB}:LeC (Gi_ n x0 bH dB) (Fd_ x0 bH dB):=by
  unfold Gi_ Fd_;infer_instance
def Jb_(n:Nat)(x0:Seq):Option (bC×B_1):=
  grd (24 * x0.next.length<=281474976710656) (kS n (λq:aO×Nat=>Gi_ n x0 q.1 q.2) ((List.replicate x0.next.length ([]:ah)),0))
instance push_fronts_le {n} {x0}:LeC (Jb_ n x0) (Fu_ x0):=by
  unfold Jb_ Fu_;infer_instance
def Fk_(n:Nat)(x0:Seq)(vM:B_1)(dW:ah):Option ((B_1×ah)⊕(B_1)):=
  iteO (decide (0<((dW.length:Nat):Int))) (grd (0<dW.length/\1<=dW.length) (grd (0<=(nth dW 0 (0:Int))/\(nth dW 0 (0:Int))<(x0.next.length:Int)) (kS n (λq:B_1×ah×Nat=>Ha_ x0 dW q.1 q.2.1 q.2.2) (vM,(dW.drop 1),0)))) (fin (some vM))
instance push_reached_b1_le {n} {x0 vM dW}:LeC (Fk_ n x0 vM dW) (Eo_ x0 vM dW):=by
  unfold Fk_ Eo_;infer_instance
def H2_(n:Nat)(x0:Seq):Option (B_1):=
  grd (1 * x0.next.length<=281474976710656) (iteO (decide ((((List.replicate x0.next.length false).length:Nat):Int)=0)) (some (List.replicate x0.next.length false)) (grd (0<(List.replicate x0.next.length false).length) (kS n (λq:B_1×ah=>Fk_ n x0 q.1 q.2) (((List.replicate x0.next.length false).set 0 true),[0]))))
instance push_reached_le {n} {x0}:LeC (H2_ n x0) (Es_ x0):=by
  unfold H2_ Es_;infer_instance
def Gg_(n:Nat)(x1:Int)(x0:Seq)(x3:ah)(x2:bC):Option (ah×bC×Bool):=
  grd (0<=x1/\x1<(x0.next.length:Int)) (kS n (λq:ah×bC×Nat=>H8_ x0 x1 x3 x2 q.1 q.2.1 q.2.2) ((List.replicate 256 (0:Int)),(List.replicate 256 ([]:T_1)),0))
instance push_turned_j1_le {n} {x1 x0 x3 x2}:LeC (Gg_ n x1 x0 x3 x2) (Dw_ x1 x0 x3 x2):=by
  unfold Gg_ Dw_;infer_instance
def I6_(n:Nat)(x0:Seq)(x1:Int)(x2:bC)(x3:ah):Option (ah×bC×Bool):=
  Gg_ n x1 x0 x3 x2
instance push_turned_le {n} {x0 x1 x2 x3}:LeC (I6_ n x0 x1 x2 x3) (Fq_ x0 x1 x2 x3):=by
  unfold I6_ Fq_;infer_instance
def Hz_(n:Nat)(v11:bC×B_1)(aK:ah)(x0:Seq)(lJ:aO)(lI:iC)(cO:B_1)(mg:bC)(dK:Nat):Option ((aO×iC×B_1×bC×Nat)⊕(Seq×Int)):=
  iteO (decide (((dK:Nat):Int)<(((List.replicate v11.2.length (0:Int)).length:Nat):Int))) (grd (dK<aK.length) (iteO (decide ((nth aK dK (0:Int))<0)) (nxt (lJ,lI,cO,mg,(dK+1))) (bnd (I6_ n x0 ((dK:Nat):Int) v11.1 aK) (λv89=>iteO (!v89.2.2) (fin (some ((⟨([]:T_1),([]:aO),([]:iC),([]:B_1),([]:bC)⟩:Seq),2))) (grd (dK<x0.fin.length) (iteO (nth x0.fin dK false) (grd (dK<x0.tail.length) (grd (dK<v11.1.length) (grd ((nth v11.1 dK ([]:T_1)).length<=(nth x0.tail dK ([]:T_1)).length/\(nth x0.tail dK ([]:T_1)).length<=(nth x0.tail dK ([]:T_1)).length) (Dk_ lJ v89 lI dK x0 cO mg ((nth x0.tail dK ([]:T_1)).drop ((nth v11.1 dK ([]:T_1)).length)))))) (Dk_ lJ v89 lI dK x0 cO mg ([]:T_1)))))))) (fin (bnd (Fo_ n (⟨(x0.front++(nth v11.1 0 ([]:T_1))),lJ,lI,cO,mg⟩:Seq)) (λQd=>iteO (decide (Qd≠0)) (some ((⟨([]:T_1),([]:aO),([]:iC),([]:B_1),([]:bC)⟩:Seq),2)) (some ((⟨(x0.front++(nth v11.1 0 ([]:T_1))),lJ,lI,cO,mg⟩:Seq),0)))))
instance push_Push_b2_le {n} {v11 aK x0 lJ lI cO mg dK}:LeC (Hz_ n v11 aK x0 lJ lI cO mg dK) (Dy_ v11 aK x0 lJ lI cO mg dK):=by
  unfold Hz_ Dy_;infer_instance
def H6_(n:Nat)(v35:B_1)(v11:bC×B_1)(x0:Seq)(aK:ah)(aX:Nat)(aU:Nat):Option ((ah×Nat×Nat)⊕(Seq×Int)):=
  iteO (decide (((aU:Nat):Int)<((v35.length:Nat):Int))) (grd (aU<aK.length) (iteO (nth v35 aU false) (grd (aU<v11.2.length) (iteO (nth v11.2 aU false) (grd (aU<(aK.set aU (-1)).length) (grd (aX+1<=9223372036854775807) (nxt (((aK.set aU (-1)).set aU ((aX:Nat):Int)),(aX+1),(aU+1))))) (nxt ((aK.set aU (-1)),aX,(aU+1))))) (nxt ((aK.set aU (-1)),aX,(aU+1))))) (fin (grd (0<v11.1.length) (grd (x0.front.length+(nth v11.1 0 ([]:T_1)).length<=9223372036854775807) (kS n (λq:aO×iC×B_1×bC×Nat=>Hz_ n v11 aK x0 q.1 q.2.1 q.2.2.1 q.2.2.2.1 q.2.2.2.2) (([]:aO),([]:iC),([]:B_1),([]:bC),0)))))
instance push_Push_b1_le {n} {v35 v11 x0 aK aX aU}:LeC (H6_ n v35 v11 x0 aK aX aU) (Hc_ v35 v11 x0 aK aX aU):=by
  unfold H6_ Hc_;infer_instance
def Kn_(n:Nat)(x0:Seq):Option (Seq×Int):=
  bnd (Fo_ n x0) (λv5=>iteO (decide (v5≠0)) (some ((⟨([]:T_1),([]:aO),([]:iC),([]:B_1),([]:bC)⟩:Seq),1)) (bnd (Jb_ n x0) (λv11=>iteO (decide (((v11.2.length:Nat):Int)=0)) (some ((⟨([]:T_1),([]:aO),([]:iC),([]:B_1),([]:bC)⟩:Seq),0)) (grd (0<v11.2.length) (iteO (!(nth v11.2 0 false)) (some ((⟨([]:T_1),([]:aO),([]:iC),([]:B_1),([]:bC)⟩:Seq),0)) (grd (8 * v11.2.length<=281474976710656) (bnd (H2_ n x0) (λv35=>kS n (λq:ah×Nat×Nat=>H6_ n v35 v11 x0 q.1 q.2.1 q.2.2) ((List.replicate v11.2.length (0:Int)),0,0)))))))))
instance push_Push_le {n} {x0}:LeC (Kn_ n x0) (It_ x0):=by
  unfold Kn_ It_;infer_instance
def Fb_(n:Nat)(x0:T_1)(x1:SB):Option (SB):=
  grd (x0.length<=281474976710656) (grd (-9223372036854775808<=((x0.length:Nat):Int)/\((x0.length:Nat):Int)<=9223372036854775807) (bnd (Df (⟨x1.buf⟩:SB) (wg_ ((x0.length:Nat):Int))) (λv4=>bnd (G7 (⟨v4.2.2.buf⟩:SB) (58:UInt8)) (λv5=>bnd (Df (⟨v5.2.buf⟩:SB) x0) (λv7=>some (⟨v7.2.2.buf⟩:SB))))))
instance push_plain_1_le {n} {x0 x1}:LeC (Fb_ n x0 x1) (Dt_ x0 x1):=by
  unfold Fb_ Dt_;simp only [rk_];infer_instance
def Hg_(n:Nat)(x0:Seq)(x1:Int)(kZ:T_1)(b_:Nat):Option ((T_1×Nat)⊕(T_1)):=
  iteO (decide (((b_:Nat):Int)<(((nth x0.next x1.toNat ([]:ah)).length:Nat):Int))) (iteO (decide (0<=(nth (nth x0.next x1.toNat ([]:ah)) b_ (0:Int)))) (bnd (G7 (⟨kZ⟩:SB) (103:UInt8)) (λv34=>grd (-9223372036854775808<=((b_:Nat):Int)/\((b_:Nat):Int)<=9223372036854775807) (bnd (Df (⟨v34.2.buf⟩:SB) (wg_ ((b_:Nat):Int))) (λv37=>bnd (G7 (⟨v37.2.2.buf⟩:SB) (58:UInt8)) (λv38=>grd (0<=x1/\x1<(x0.outs.length:Int)) (grd (b_<(nth x0.outs x1.toNat ([]:bC)).length) (bnd (Fb_ n (nth (nth x0.outs x1.toNat ([]:bC)) b_ ([]:T_1)) (⟨v38.2.buf⟩:SB)) (λv48=>C0_ b_ v48.buf)))))))) (C0_ b_ kZ)) (fin (bnd (Yt (⟨kZ⟩:SB)) (λv51=>some v51)))
instance push_plain_b1_le {n} {x0 x1 kZ b_}:LeC (Hg_ n x0 x1 kZ b_) (F6_ x0 x1 kZ b_):=by
  unfold Hg_ F6_;simp only [rk_];infer_instance
def Ep_(n:Nat)(x1:Int)(x0:Seq)(Fe:T_1):Option (T_1):=
  grd (0<=x1/\x1<(x0.next.length:Int)) (kS n (λq:T_1×Nat=>Hg_ n x0 x1 q.1 q.2) (Fe,0))
instance push_plain_j1_le {n} {x1 x0 Fe}:LeC (Ep_ n x1 x0 Fe) (Cv_ x1 x0 Fe):=by
  unfold Ep_ Cv_;infer_instance
def Js_(n:Nat)(x0:Seq)(x1:Int):Option (T_1):=
  grd (0<=x1/\x1<(x0.fin.length:Int)) (iteO (nth x0.fin x1.toNat false) (bnd (G7 (⟨([]:T_1)⟩:SB) (101:UInt8)) (λv11=>grd (0<=x1/\x1<(x0.tail.length:Int)) (bnd (Fb_ n (nth x0.tail x1.toNat ([]:T_1)) (⟨v11.2.buf⟩:SB)) (λv18=>Ep_ n x1 x0 v18.buf)))) (Ep_ n x1 x0 ([]:T_1)))
instance push_plain_le {n} {x0 x1}:LeC (Js_ n x0 x1) (G7_ x0 x1):=by
  unfold Js_ G7_;infer_instance
def Gv_(n:Nat)(dJ:ah)(x0:Seq)(qc:Nat)(dI:ah)(qF:FM T_1 Int)(fZ:Nat):Option ((ah×(FM T_1 Int)×Nat)⊕((ah×Nat)⊕(ah×Int))):=
  iteO (decide (((fZ:Nat):Int)<(((List.replicate dJ.length (0:Int)).length:Nat):Int))) (grd (fZ<dJ.length) (grd (fZ<dJ.length) (grd (fZ<x0.next.length) (kS n (λq:T_1×Nat=>Je_ x0 fZ dJ qF dI q.1 q.2) ([(jd (ES .i64 (nth dJ fZ (0:Int)) 8)),(jd (nth dJ fZ (0:Int)))],0))))) (fin (iteO (decide (((qF.n:Nat):Int)=((qc:Nat):Int))) (fin (some (dI,((qc:Nat):Int)))) (nxt (dI,qF.n))))
instance push_parts_b3_le {n} {dJ x0 qc dI qF fZ}:LeC (Gv_ n dJ x0 qc dI qF fZ) (Fx_ dJ x0 qc dI qF fZ):=by
  unfold Gv_ Fx_;infer_instance
def G5_(n:Nat)(x0:Seq)(dJ:ah)(qc:Nat):Option ((ah×Nat)⊕(ah×Int)):=
  grd (8 * dJ.length<=281474976710656) (kS n (λq:ah×(FM T_1 Int)×Nat=>Gv_ n dJ x0 qc q.1 q.2.1 q.2.2) ((List.replicate dJ.length (0:Int)),(FM.emp:FM T_1 Int),0))
instance push_parts_b2_le {n} {x0 dJ qc}:LeC (G5_ n x0 dJ qc) (F8_ x0 dJ qc):=by
  unfold G5_ F8_;infer_instance
def Hp_(n:Nat)(x0:Seq)(aK:ah)(uy:FM T_1 Int)(jv:Nat):Option ((ah×(FM T_1 Int)×Nat)⊕(ah×Int)):=
  iteO (decide (((jv:Nat):Int)<(((List.replicate x0.next.length (0:Int)).length:Nat):Int))) (bnd (Js_ n x0 ((jv:Nat):Int)) (λv23=>bnd (Dr_ (⟨uy⟩:Numb) v23) (λv24=>grd (jv<aK.length) (nxt ((aK.set jv v24.1),v24.2.places,(jv+1)))))) (fin (kS n (λq:ah×Nat=>G5_ n x0 q.1 q.2) (aK,uy.n)))
instance push_parts_b1_le {n} {x0 aK uy jv}:LeC (Hp_ n x0 aK uy jv) (Gb_ x0 aK uy jv):=by
  unfold Hp_ Gb_;infer_instance
def J8_(n:Nat)(x0:Seq):Option (ah×Int):=
  grd (8 * x0.next.length<=281474976710656) (kS n (λq:ah×(FM T_1 Int)×Nat=>Hp_ n x0 q.1 q.2.1 q.2.2) ((List.replicate x0.next.length (0:Int)),(FM.emp:FM T_1 Int),0))
instance push_parts_le {n} {x0}:LeC (J8_ n x0) (He_ x0):=by
  unfold J8_ He_;infer_instance
def Gx_(n:Nat)(x0:Seq)(x1:ah)(dD:ah)(bQ:ah)(eG:Nat):Option ((ah×ah×Nat)⊕(ah×ah)):=
  iteO (decide (((eG:Nat):Int)<((bQ.length:Nat):Int))) (grd (0<=(nth bQ eG (0:Int))/\(nth bQ eG (0:Int))<(x0.next.length:Int)) (kS n (λq:ah×ah×Nat=>Ix_ x0 bQ eG x1 q.1 q.2.1 q.2.2) (dD,bQ,0))) (fin (some (bQ,dD)))
instance push_order_b2_le {n} {x0 x1 dD bQ eG}:LeC (Gx_ n x0 x1 dD bQ eG) (F3_ x0 x1 dD bQ eG):=by
  unfold Gx_ F3_;infer_instance
def Hm_(n:Nat)(x2:Int)(x1:ah)(x0:Seq)(dY:ah)(iZ:Nat):Option ((ah×Nat)⊕(ah×ah)):=
  iteO (decide (((iZ:Nat):Int)<(((List.replicate x2.toNat (0:Int)).length:Nat):Int))) (grd (iZ<dY.length) (nxt ((dY.set iZ (-1)),(iZ+1)))) (fin (grd (0<x1.length) (grd (0<=(nth x1 0 (0:Int))/\(nth x1 0 (0:Int))<(dY.length:Int)) (kS n (λq:ah×ah×Nat=>Gx_ n x0 x1 q.1 q.2.1 q.2.2) ((dY.set ((nth x1 0 (0:Int)).toNat) 0),[0],0)))))
instance push_order_b1_le {n} {x2 x1 x0 dY iZ}:LeC (Hm_ n x2 x1 x0 dY iZ) (F0_ x2 x1 x0 dY iZ):=by
  unfold Hm_ F0_;infer_instance
def J1_(n:Nat)(x0:Seq)(x1:ah)(x2:Int):Option (ah×ah):=
  grd (0<=x2/\8 * x2.toNat<=281474976710656) (kS n (λq:ah×Nat=>Hm_ n x2 x1 x0 q.1 q.2) ((List.replicate x2.toNat (0:Int)),0))
instance push_order_le {n} {x0 x1 x2}:LeC (J1_ n x0 x1 x2) (Gw_ x0 x1 x2):=by
  unfold J1_ Gw_;infer_instance
def Jq_(n:Nat)(x0:B_1)(x1:ah):Option (B_1):=
  grd (1 * x1.length<=281474976710656) (kS n (λq:B_1×Nat=>Jc_ x1 x0 q.1 q.2) ((List.replicate x1.length false),0))
instance push_pickB_le {n} {x0 x1}:LeC (Jq_ n x0 x1) (Hr_ x0 x1):=by
  unfold Jq_ Hr_;infer_instance
def J2_(n:Nat)(x0:bC)(x1:ah):Option (bC):=
  grd (16 * x1.length<=281474976710656) (kS n (λq:bC×Nat=>I7_ x1 x0 q.1 q.2) ((List.replicate x1.length ([]:T_1)),0))
instance push_pickS_le {n} {x0 x1}:LeC (J2_ n x0 x1) (Hd_ x0 x1):=by
  unfold J2_ Hd_;infer_instance
def I2_(n:Nat)(v33:ah×ah)(bU:Nat)(v5:Seq×Int)(v24:ah×Int)(dI:aO)(jT:iC):Option ((aO×iC×Nat)⊕(Seq×Int)):=
  grd (0<=(nth v33.1 bU (0:Int))/\(nth v33.1 bU (0:Int))<(v5.1.next.length:Int)) (grd (0<=(nth v33.1 bU (0:Int))/\(nth v33.1 bU (0:Int))<(v5.1.outs.length:Int)) (kS n (λq:ah×Nat=>Fn_ v24 v33 dI jT v5 bU q.1 q.2) (((List.replicate 256 (0:Int)).take 0++((nth v5.1.next ((nth v33.1 bU (0:Int)).toNat) ([]:ah)).take (min (nth v5.1.next ((nth v33.1 bU (0:Int)).toNat) ([]:ah)).length (List.replicate 256 (0:Int)).length)++(List.replicate 256 (0:Int)).drop (0+(min (nth v5.1.next ((nth v33.1 bU (0:Int)).toNat) ([]:ah)).length (List.replicate 256 (0:Int)).length)))),0)))
instance push_Min_j2_le {n} {v33 bU v5 v24 dI jT}:LeC (I2_ n v33 bU v5 v24 dI jT) (Fs_ v33 bU v5 v24 dI jT):=by
  unfold I2_ Fs_;infer_instance
def Iz_(n:Nat)(v33:ah×ah)(v5:Seq×Int)(v24:ah×Int)(gK:B_1)(dF:bC)(dI:aO)(jT:iC)(bU:Nat):Option ((aO×iC×Nat)⊕(Seq×Int)):=
  iteO (decide (((bU:Nat):Int)<((v33.1.length:Nat):Int))) (I2_ n v33 bU v5 v24 dI jT) (fin (some ((⟨v5.1.front,dI,jT,gK,dF⟩:Seq),0)))
instance push_Min_b1_le {n} {v33 v5 v24 gK dF dI jT bU}:LeC (Iz_ n v33 v5 v24 gK dF dI jT bU) (Ei_ v33 v5 v24 gK dF dI jT bU):=by
  unfold Iz_ Ei_;infer_instance
def I8_(n:Nat)(v33:ah×ah)(v5:Seq×Int)(v24:ah×Int)(gK:B_1)(dF:bC):Option (Seq×Int):=
  kS n (λq:aO×iC×Nat=>Iz_ n v33 v5 v24 gK dF q.1 q.2.1 q.2.2) (([]:aO),([]:iC),0)
instance push_Min_j1_le {n} {v33 v5 v24 gK dF}:LeC (I8_ n v33 v5 v24 gK dF) (Fm_ v33 v5 v24 gK dF):=by
  unfold I8_ Fm_;infer_instance
def Hb_(n:Nat)(x0:Seq):Option (Seq×Int):=
  bnd (Kn_ n x0) (λv5=>iteO (decide (v5.2≠0)) (some ((⟨([]:T_1),([]:aO),([]:iC),([]:B_1),([]:bC)⟩:Seq),v5.2)) (iteO (decide (((v5.1.next.length:Nat):Int)=0)) (some ((⟨([]:T_1),([]:aO),([]:iC),([]:B_1),([]:bC)⟩:Seq),v5.2)) (bnd (J8_ n v5.1) (λv24=>bnd (J1_ n v5.1 v24.1 v24.2) (λv33=>bnd (Jq_ n v5.1.fin v33.1) (λv44=>bnd (J2_ n v5.1.tail v33.1) (λv48=>I8_ n v33 v5 v24 v44 v48)))))))
instance push_Min_le {n} {x0}:LeC (Hb_ n x0) (H7_ x0):=by
  unfold Hb_ H7_;infer_instance
def iv_(n:Nat):Option (Bool):=
  bnd (gg_ (97:UInt8) ([120,121]:T_1)) (λv2=>bnd (J6_ n v2 5) (λv3=>bnd (Hb_ n v3.1) (λv11=>bnd (Fw_ n v11.1 ([97]:T_1)) (λv19=>iteO (decide (v3.2=0)) (iteO (decide (v11.2=v3.2)) (iteO (decide (v19.2.2.2=v3.2)) (iteO v19.2.2.1 (iteO (decide (v19.1=([120,121]:T_1))) (some (decide (v11.1.front=([120,121]:T_1)))) (some false)) (some false)) (some false)) (some false)) (some false)))))
instance whittletop_made_le {n}:LeC (iv_ n) (Ov):=by
  unfold iv_ Ov;infer_instance
end
def r0T:ah:=List.replicate 256 (-1)
def o0T:bC:=List.replicate 256 []
def tT:Fst:=⟨2,[⟨0,[]⟩],[⟨1,[]⟩],[⟨0,1,BSet.ofL [97],[120,121],false⟩]⟩
def qT:Seq:=⟨[],[r0T.set 97 1,r0T],[o0T.set 97 [120,121],o0T],[false,true],[[],[]]⟩
def mT':Seq:=⟨[120,121],[r0T.set 97 1,r0T],[o0T,o0T],[false,true],[[],[]]⟩
theorem k1T:J6_ 300 tT 5=some (qT,0):=by kernel_rfl
theorem k2T:Hb_ 300 qT=some (mT',0):=by kernel_rfl
theorem k3T:Fw_ 300 mT' [97]=some ([120,121],1,true,0):=by kernel_rfl
theorem yz_:Ov=some true:=by
  have h0:gg_ 97 [120,121]=some tT:=by
    unfold gg_;rw [cu (by simp),cu (by simp)];rfl
  have h1:Kr_ tT 5=some (qT,0):=LeC.le (a:=J6_ 300 tT 5) _ k1T;have h2:H7_ qT=some (mT',0):=LeC.le (a:=Hb_ 300 qT) _ k2T;have h3:Gs_ mT' [97]=some ([120,121],1,true,0):=LeC.le (a:=Fw_ 300 mT' [97]) _ k3T;unfold Ov;rw [iM h0,iM h1,iM h2,iM h3];rfl
theorem wr_(s:BSet): ∃r,Ju_ s=some r:=by
  unfold Ju_;obtain ⟨r,h, -⟩:=kV (step:=λq:Int×Nat=>Dc_ s q.1 q.2) (λ(x:Int) k=>(x,k)) 4 (λ_ _=>True) (λ_=>True)
    (λk x hk _=> .inl ⟨_,by
      show Dc_ s x k=_;unfold Dc_ B5_;rw [eH (by omega),cu hk,kT];rfl,trivial⟩)
    (λx _=>⟨x,by
      show Dc_ s x 4=_;unfold Dc_;rw [dM (by omega)];rfl,trivial⟩) (s0:=0) trivial
  exact ⟨r,h⟩
theorem small_j1(t:Fst): ∃r,fh_ t=some r:=by
  unfold fh_;obtain ⟨r,h, -⟩:=kV (step:=λq:Nat=>Xe t q) (λ(_:Unit) k=>k) t.arcs.length (λ_ _=>True) (λ_=>True)
    (λk _ hk _=>by
      obtain ⟨n,hn⟩:=wr_ (nth t.arcs k aQ).set;show (∃s',Xe t k=_/\_)\/ ∃r,Xe t k=_/\_;unfold Xe;rw [eH (by omega),iM hn]
      by_cases c:3<n
      · rw [eH c];exact .inr ⟨_,rfl,trivial⟩
      rw [dM c];exact .inl ⟨(),rfl,trivial⟩)
    (λ_ _=>⟨true,by
      show Xe t t.arcs.length=_;unfold Xe;rw [dM (by omega)];rfl,trivial⟩) (s0:=()) trivial
  exact ⟨r,h⟩
theorem ns_(t:Fst): ∃r,ft_ t=some r:=by
  obtain ⟨b,hb⟩:=to_ t;obtain ⟨r,hr⟩:=small_j1 t;unfold ft_;rw [iM hb];cases b with
  |false=>exact ⟨_,rfl⟩
  |true=>
    rw [Bool.not_true,iteO_false]
    by_cases c:4<t.states
    · rw [eH c]
      by_cases d:t.states<=1024
      · rw [eH d];exact ⟨_,rfl⟩
      rw [dM d]
      by_cases e:8<((t.arcs.length:Nat):Int)
      · rw [eH e];exact ⟨_,rfl⟩
      rw [dM e];exact ⟨r,hr⟩
    rw [dM c]
    by_cases e:8<((t.arcs.length:Nat):Int)
    · rw [eH e];exact ⟨_,rfl⟩
    rw [dM e];exact ⟨r,hr⟩
theorem same_nil(d:Dfa):E4_ ⟨[],[],[]⟩ d=some (false,1):=by
  unfold E4_ JO;rw [Rf,kT,if_neg (by decide),eH (by decide),kT,eH (by decide)]
theorem t6_ (a b : Fst) : gb_ a b = some true := by
  unfold gb_;obtain ⟨b1,hb1⟩:=ns_ a;obtain ⟨b2,hb2⟩:=ns_ b;rw [iM hb1];cases b1 with
  |false=>rfl
  |true=>
  rw [Bool.not_true,iteO_false,iM hb2];cases b2 with
  |false=>rfl
  |true=>
  rw [Bool.not_true,iteO_false];obtain ⟨t,et,ht⟩:=yi_ a b;rw [iM et];rcases ht with ⟨h1,h2⟩|⟨hA,hB,h1,hT,hrel⟩
  · rw [eH h1,yz_,kT,iteO_true,decide_eq_true h2]
  rw [dM (λh=>h h1)];obtain ⟨x,ex,hx⟩:=j3_ a;obtain ⟨y,ey,hy⟩:=j3_ b;obtain ⟨z,ez,hz⟩:=j3_ t.1;rw [iM ex,iM ey,iM ez,yz_];rcases hx with hx|⟨-,x0,xr,xl⟩
  · rw [eH hx];rfl
  rw [dM (λh=>h x0)];rcases hy with hy|⟨-,y0,yr,yl⟩
  · rw [eH hy];rfl
  rw [dM (λh=>h y0)];rcases hz with hz|⟨-,z0,zr,zl⟩
  · rw [eH hz];rfl
  rw [dM (λh=>h z0)];obtain ⟨o,eo,ho⟩:=or_go xr yr;rw [iM eo];rcases ho with rfl|⟨ho,hor,hol⟩
  · rw [same_nil,kT,kT,iteO_true];rfl
  have hl:lZ o.1 0=lZ z.1 0:=funext λu=>by
    rw [Bool.eq_iff_iff,hol u,Bool.or_eq_true,show lZ x.1 0 u=true↔_ from xl u,show lZ y.1 0 u=true↔_ from yl u,show lZ z.1 0 u=true↔_ from zl u];constructor
    · rintro (⟨w,hw⟩|⟨w,hw⟩)
      · exact ⟨w,(hrel u w).2 (.inl hw)⟩
      by_cases c: ∃w,Rel a u w
      · obtain ⟨v,hv⟩:=c
        exact ⟨v,(hrel u v).2 (.inl hv)⟩
      exact ⟨w,(hrel u w).2 (.inr ⟨hw,c⟩)⟩
    rintro ⟨w,hw⟩;rcases (hrel u w).1 hw with h|h
    · exact .inl ⟨w,h⟩
    exact .inr ⟨w,h.1⟩
  rw [same_go hor zr hl,kT,kT,iteO_true,dM (by omega),eH ho,eH ho.symm]
end Go.Proofs.YtcfgkcfcddfccaaGreatDoor
end

noncomputable section
namespace Go.E
open Go Go.ChangeShapes Go.WideShapes
theorem qn_{α:Type}(l:List α)(i:Nat):((l.drop (i * 1)).take 1)=(l[i]?).toList:=by
  rw [Nat.mul_one];cases h:l[i]? with
  |none=>rw [List.drop_of_length_le (by simpa using h)];rfl
  |some x=>
    obtain ⟨hi,rfl⟩:=List.getElem?_eq_some_iff.1 h;rw [List.drop_eq_getElem_cons hi];rfl
theorem mq_{P:Program}{w:World}{n:String}{d:DataW Unit}: ∀{laid:List (String×DataW Unit)} {ps:List MemPlace},DataW.LaidVars P w laid ps->(n,d)∈laid->
    ∃g t cs fuel p,P.globalNamed n=some g/\(P.globals[g]?).map (·.type)=some t/\w.var? P n=some cs/\DataW.trod (λ_=>()) P w 0 (λ_=>true) false fuel t cs.toList=some (d,p)/\ ∀x∈MemPlace.row ⟨g,0,none⟩ cs.size,x∈ps
  |[],ps,_,hm=>by cases hm
  |(m,e)::r,ps,h,hm=>by
    obtain ⟨g,t,cs,fuel,p,q,h1,h2,h3,h4,h5,h6⟩:=h;rcases List.mem_cons.1 hm with hm|hm
    · cases hm
      exact ⟨g,t,cs,fuel,p,h1,h2,h3,h4,λx hx=>by rw [h6];exact List.mem_append_left _ (List.mem_append_left _ hx)⟩
    obtain ⟨g',t',cs',fuel',p',k1,k2,k3,k4,k5⟩:=mq_ h5 hm;exact ⟨g',t',cs',fuel',p',k1,k2,k3,k4,λx hx=>by rw [h6];exact List.mem_append_right _ (k5 x hx)⟩
def zu_{H:Type}(k:IntKind)(l:List Int):DataW H:= .agg (l.map λz=> .lit (.int k z))
theorem p5_ {P : Program} {W : World} {laid : List (String × DataW Unit)} {name : String} {g T E : Nat} {k : IntKind} {l : List Int} (h : laidMetH P laid W) (hpl : (laid.all λx => x.2.handleName?.isNone) = true) (hm : (name, zu_ k l) ∈ laid)
    (hg:P.globalNamed name=some g) (hT:(P.globals[g]?).map (·.type)=some T)
    (hu:P.underlying T=some (.array l.length E)) (hE:P.underlying E=some (.int k)) (hc:P.cellsOf E=1) (hcT:P.cellsOf T=l.length) (hl:0<l.length): ∃t,W.heap[g]? =some (.cells (l.map (Value.int k)).toArray t):=by
  rw [MakeChecks.laidMetH_plain _ _ _ hpl]at h;obtain ⟨ps,hlv,_,hok⟩:=h;obtain ⟨g0,t0,cs,fu,p,hg0,ht0,hv0,hd0,hps⟩:=mq_ hlv hm;obtain rfl:=Option.some.inj (hg.symm.trans hg0);obtain rfl:=Option.some.inj (hT.symm.trans ht0);obtain ⟨xs,m,rfl,hx,hlen,hn,hel⟩:=DataW.trod_array hu hd0;rw [hcT]at hlen;have hx1:xs.map (·.1)=l.map λz=>(.lit (.int k z):DataW Unit):=by
    have:=congrArg Prod.fst hx;simp only [zu_,DataW.agg.injEq]at this;exact this.symm
  have hcs:cs.toList=l.map (Value.int k):=by
    apply List.ext_getElem?;intro i
    by_cases hi:i<l.length
    · have h1:=hel i hi
      rw [hc,qn_]at h1;have hxi:i<xs.length:=by omega
      rw [List.getElem?_eq_getElem hxi]at h1;obtain ⟨z,e1,e2,_⟩:=DataW.trod_int hE h1;have h2:(xs.map (·.1))[i]? =some (.lit (.int k z)):=by rw [List.getElem?_map,List.getElem?_eq_getElem hxi,e2];rfl
      rw [hx1,List.getElem?_map,List.getElem?_eq_getElem hi]at h2;simp only [Option.map_some,Option.some.injEq,DataW.lit.injEq,Lit.int.injEq,true_and]at h2;have h3:cs.toList[i]? =some (.int k z):=by
        cases hz:cs.toList[i]? with
        |none=>rw [hz]at e1;cases e1
        |some y=>rw [hz]at e1;simp at e1;rw [e1]
      rw [h3,List.getElem?_map,List.getElem?_eq_getElem hi,<-h2];rfl
    rw [List.getElem?_eq_none (by omega),List.getElem?_eq_none (by rw [List.length_map];omega)]
  have hmem:MemPlace.cell g 0∈ps:=by
    refine hps _ ?_;simp only [MemPlace.row,List.mem_map,List.mem_range];exact ⟨0, by have : cs.size = l.length := (by rw [<- Array.length_toList, hlen]);omega,by simp⟩
  obtain ⟨⟨c,t,hb⟩,_⟩:=hok g 0 hmem;refine ⟨t,?_⟩;have hv:W.var? P name=some c:=by unfold World.var?;rw [hg];simp [hb]
  rw [hv0]at hv;rw [hb,<-Option.some.inj hv,<-hcs]
theorem aap_{P:Program}{W:World}{laid:List (String×DataW Unit)}{n1 n2:String}{g1 g2 T1 E1 T2 E2:Nat}{d1 d2:DataW Unit}(h:laidMetH P laid W)(hpl:(laid.all λx=>x.2.handleName?.isNone)=true)(m1:(n1,d1)∈laid)(m2:(n2,d2)∈laid)
    (e1:d1=zu_ .u8 (deB.map λb=>((b.toNat:Nat):Int))) (e2:d2=zu_ .u64 (p10.map λx=>((x:Nat):Int)))
    (hg1:P.globalNamed n1=some g1) (hT1:(P.globals[g1]?).map (·.type)=some T1) (hu1:P.underlying T1=some (.array 64 E1)) (hE1:P.underlying E1=some (.int .u8)) (hc1:P.cellsOf E1=1) (hcT1:P.cellsOf T1=64)
    (hg2:P.globalNamed n2=some g2) (hT2:(P.globals[g2]?).map (·.type)=some T2) (hu2:P.underlying T2=some (.array 20 E2)) (hE2:P.underlying E2=some (.int .u64)) (hc2:P.cellsOf E2=1) (hcT2:P.cellsOf T2=20):xu (G5 W) g1 g2:=by
  subst e1 e2;refine ⟨?_,?_⟩
  · obtain ⟨t,ht⟩:=p5_ h hpl m1 hg1 hT1 hu1 hE1 hc1 hcT1 (by decide)
    exact ⟨t,ht⟩
  obtain ⟨t,ht⟩:=p5_ h hpl m2 hg2 hT2 hu2 hE2 hc2 hcT2 (by decide);exact ⟨t,ht⟩
end Go.E
end
