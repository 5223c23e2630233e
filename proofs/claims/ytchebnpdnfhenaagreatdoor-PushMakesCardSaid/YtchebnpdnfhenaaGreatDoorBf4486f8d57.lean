/- Parts of a proof, one behind the other: what a machine reaches, functions decompiled, plain lemmas. Conditions stand with each lemma. -/
import Derived.Test.YtchebnpdnfhenaaGreatDoorBb501fecef1
import Derived.Test.YtchebnpdnfhenaaGreatDoorBcf9365863c
import Derived.Test.YtchebnpdnfhenaaGreatDoorB4982517361

set_option linter.unusedVariables false
set_option linter.unusedSimpArgs false
set_option linter.unusedSectionVars false
set_option maxRecDepth 100000
set_option maxHeartbeats 8000000
variable {aN aA aW bI yJ P7 P6:Option Go.Addr}{pq b_ EZ fG aK aY ay bD EU PD Pz:Nat}

noncomputable section
namespace Go.Proofs.YtchebnpdnfhenaaGreatDoor
open Go Go.E Go.E.OpVal Go.E.OpOk Go.Proofs.Tryz
open List (replicate)
theorem pf111:plainF Tryz.prog 111=true:=by kernel_rfl
theorem pf70:plainF Tryz.prog 70=true:=by kernel_rfl
theorem pf72:plainF Tryz.prog 72=true:=by kernel_rfl
theorem pf73:plainF Tryz.prog 73=true:=by kernel_rfl
def QK(x0:Seq)(x1:Int)(x3:B_1)(x2:aB)(A8:T_1)(AZ:Bool)(aT:Nat):Option ((T_1×Bool×Nat)⊕(T_1)):=
 aQ (decide ((aT:Int)<(((nth x0.next x1.toNat []).length:Nat):Int))) (aQ (decide ((nth (nth x0.next x1.toNat []) aT 0)<0)) (nxt (A8,AZ,(aT+1))) (grd (0<=(nth (nth x0.next x1.toNat []) aT 0)/\(nth (nth x0.next x1.toNat []) aT 0)<(x3.length:Int)) (aQ (!(nth x3 ((nth (nth x0.next x1.toNat []) aT 0).toNat) false)) (nxt (A8,AZ,(aT+1))) (grd (0<=x1/\x1<(x0.outs.length:Int)) (grd (aT<(nth x0.outs x1.toNat []).length) (grd (0<=(nth (nth x0.next x1.toNat []) aT 0)/\(nth (nth x0.next x1.toNat []) aT 0)<(x2.length:Int)) (grd ((nth (nth x0.outs x1.toNat []) aT []).length+(nth x2 ((nth (nth x0.next x1.toNat []) aT 0).toNat) []).length<=9223372036854775807) (aQ AZ (bnd (Zt [A8,((nth (nth x0.outs x1.toNat []) aT [])++(nth x2 ((nth (nth x0.next x1.toNat []) aT 0).toNat) []))]) (λv55=>nxt (v55,AZ,(aT+1)))) (nxt (((nth (nth x0.outs x1.toNat []) aT [])++(nth x2 ((nth (nth x0.next x1.toNat []) aT 0).toNat) [])),true,(aT+1))))))))))) (fin (some A8))
def Fa_(x0:Seq)(x1:Int)(x2:aB)(x3:B_1):Option (T_1):=
 grd (0<=x1/\x1<(x0.tail.length:Int)) (grd (0<=x1/\x1<(x0.fin.length:Int)) (grd (0<=x1/\x1<(x0.next.length:Int)) (bC (λq:T_1×Bool×Nat=>QK x0 x1 x3 x2 q.1 q.2.1 q.2.2) ((nth x0.tail x1.toNat []),(nth x0.fin x1.toNat false),0))))
theorem Hm_{σ:aj}{x0:Seq}{x1:Int}{x2:aB}{x3:B_1}(au:RZ σ (aC 1 aF bn) (.slice aN x0.next.length aK) x0.next)(aV:RZ σ (aC 1 aI bF) (.slice aA x0.outs.length aY) x0.outs)(aS:dH σ eq_ aW ay x0.fin)(aO:dH σ aI bI bD x0.tail)(uG:dH σ aI P7 PD x2)(Ag:dH σ eq_ P6 Pz x3){r:T_1}(hh:Fa_ x0 x1 x2 x3=some r):
  Con prog 111 #[.agg (qF x0 aN aK aA aY aW ay bI bD),.int .i64 x1,.slice P7 x2.length PD,.slice P6 x3.length Pz] σ [] (kZ (.string (bs r)) σ):=by
 dsimp only [Fa_]at hh
 have f0_0b:=au.big
 have f0_1b:=aV.big
 have f0_2b:=aS.rv.big
 have f0_3b:=aO.rv.big
 have f2_0b:=uG.rv.big
 have f3_0b:=Ag.rv.big
 refine Con.mk (n:=65) Tryz.func111 z z z (λw0=> ?_)
 refine ξ (ν z (boxA z z z z (λbG=> ?_)))
 refine ω z (dX (.inr z) z) (ε (θ ?_))
 obtain ⟨u6,hh⟩:=aP hh
 obtain ⟨u11,hh⟩:=aP hh
 refine TC.draw [] (by kernel_rfl) (TA.a 0 z (aU z uX z) z (TA.b 1 z (bg z mJ z (i:=0) z z) z (TA.a 2 z (cO (.inl z) z) z (TA.b 3 z (OpVal.index z fF fK z z aO.rv.sl u6.1 u6.2) z (TA.b 4 z (fD ([]:T_1) z iK z aO (by omega) z) z (TA.a 5 z (aU z uF z) z (TA.b 6 z (bg z rX z (i:=0) z z) z (TA.a 7 z (cO (.inl z) z) z (TA.b 8 z (OpVal.index z g_ gV z z aS.rv.sl u11.1 u11.2) z (TA.b 9 z (fD false z nX z aS (by omega) z) z (TA.a 10 z (dX (.inr z) z) z (TA.a 11 z (moveB (.inr z) z) z (TA.dn (S.n (θ ?_)))))))))))))))
 refine ξ (ω z (aU z kW z) (ω z (bg z j_ z (i:=0) z z) (ψ z z ?_)))
 obtain ⟨RP,hh⟩:=aP hh
 refine ω z (OpVal.index z eX fP z z au.isSl RP.1 RP.2) ?_
 obtain ⟨OY,CY,hg103⟩:=RZ.seg au x1.toNat (by omega)
 replace CY:dH _ aF OY.1 OY.2 (nth x0.next x1.toNat []):=CY
 have hk103b:=CY.rv.big
 refine ω z (OpVal.of (lZ z hs_ z hg103 z) (v':= .slice OY.1 ((nth x0.next x1.toNat []).length) OY.2) z) (ω z (lenC z bY z) (ψ z z (ε (υ (TC.iE (α:=(T_1×Bool×Nat)×(Unit)) (rgs [(9,5),(30,34)]) (λg=>[(9,.string (bs g.1.1)),(10,.bool g.1.2.1),(30,.int .i64 ((g.1.2.2:Nat):Int))]) (λg=>[jh bG x0 aN aK aA aY aW ay bI bD]) (λg=>σ) (λg=>bC (λq:T_1×Bool×Nat=>QK x0 x1 x3 x2 q.1 q.2.1 q.2.2) g.1=some r) (λg=>fZ (λq:T_1×Bool×Nat=>QK x0 x1 x3 x2 q.1 q.2.1 q.2.2) g.1) (((nth x0.tail x1.toNat []),(nth x0.fin x1.toNat false),0),()) (Sub.pre 1 z) z (by repeat (first|exact trivial|refine ⟨z,?_⟩)) hh (λg1 j1 hg1=> ?_))))))
 obtain ⟨⟨A8,AZ,aT⟩,_⟩:=g1
 have hh:=hg1;clear hg1
 try dsimp only
 obtain ⟨z1,hh,hR1⟩:=iq hh
 dsimp only [QK]at hh
 refine ξ (ω z (OpVal.lss z z z) (ε (θ (TC.cD z hh (λAd hh=> ?_) (λAd hh=> ?_)))))
 ·refine ι (S.n (θ (υ (ξ (ψ z z (ω z (bT z bY dh z z CY.rv.sl (by omega)) (ω z (fD (0:Int) z fC z CY (by omega) z) (ψ z z (ψ z z (ε (θ (ξ (ψ z z (ω z (OpVal.lss z z z) (TL.j z z ?_)))))))))))))))
  refine TL.split 37 z (λjX=> ?_) (λjX=> ?_)
  ·replace hh:=ig jX hh
   replace jX:=jk jX
   refine π z (π z (π z (π z (π z (ω z (dQ z z z) (ε (TC.t z (TC.exit (S.x (Δ (S.n (η (ω z (OpVal.succ z z z (by omega)) (ψ z z (ε ?_)))))))))))))))
   obtain ⟨hh,Ec⟩:=dL hR1 hh
   exact lf ((A8,AZ,(aT+1)),()) Ec hh (Sub.pre 1 z)
  replace hh:=iw jX hh
  replace jX:=jy jX
  refine Ψ z (gK (.inl z) z) (Ψ z (cO (.inl z) z) ?_)
  obtain ⟨u33,hh⟩:=aP hh
  refine Ψ z (OpVal.index z g_ gV z z Ag.rv.sl u33.1 u33.2) (Ψ z (fD false z nX z Ag (by omega) z) (Ψ z (OpVal.not z z) (ω z (dU z z z) (ε (TC.cB z hh (λh116 hh=> ?_) (λh116 hh=> ?_))))))
  ·refine TC.exit (S.x (Δ (S.n (η (ω z (OpVal.succ z z z (by omega)) (ψ z z (ε ?_)))))))
   obtain ⟨hh,qZ⟩:=dL hR1 hh
   exact lf ((A8,AZ,(aT+1)),()) qZ hh (Sub.pre 1 z)
  refine ι (S.n (θ ?_))
  obtain ⟨u40,hh⟩:=aP hh
  obtain ⟨MR,hh⟩:=aP hh
  obtain ⟨MQ,hh⟩:=aP hh
  obtain ⟨u49,hh⟩:=aP hh
  refine TC.draw [] (by kernel_rfl) (TA.a 0 z (aU z o_ z) z (TA.b 1 z (bg z qx z (i:=0) z z) z (TA.a 2 z (cO (.inl z) z) z (TA.b 3 z (OpVal.index z mY nC z z aV.isSl u40.1 u40.2) z ?_))))
  obtain ⟨sJ,lW,CZ⟩:=RZ.seg aV x1.toNat (by omega)
  replace lW:dH _ aI sJ.1 sJ.2 (nth x0.outs x1.toNat []):=lW
  have hk119b:=lW.rv.big
  refine TA.b 4 z (OpVal.of (lZ z mJ z CZ z) (v':= .slice sJ.1 ((nth x0.outs x1.toNat []).length) sJ.2) z) z (TA.a 5 z (cO (.inl z) z) z (TA.b 6 z (bT z fF fK z z lW.rv.sl (by omega)) z (TA.b 7 z (fD ([]:T_1) z iK z lW (by omega) z) z (TA.a 8 z (gK (.inl z) z) z (TA.a 9 z (cO (.inl z) z) z (TA.b 10 z (OpVal.index z fF fK z z uG.rv.sl MQ.1 MQ.2) z (TA.b 11 z (fD ([]:T_1) z iK z uG (by omega) z) z (TA.a 12 z (PU z z z u49) z (TA.a 13 z (dX (.inr z) z) z (TA.dn (S.n (ξ (TL.j z z (ε (TC.cB z hh (λLp hh=> ?_) (λLp hh=> ?_))))))))))))))))
  ·refine η (ω z (dX (.inl z) z) (ω z (dX (.inl z) z) (ν z (OpOk.lit (enc:=aI) [A8,((nth (nth x0.outs x1.toNat []) aT [])++(nth x2 ((nth (nth x0.next x1.toNat []) aT 0).toNat) []))] z fF fK sG z z z bF (by decide) (by decide) ([]:T_1) z (by decide) z (by decide) qX (λa121 c122=> ?_)))))
   obtain ⟨v55,u55,hh⟩:=dJ hh
   refine ν z (U_ (Con.lend bF (λ_ uq sS=>G4_ sS u55)) z z SI z z z z ?_)
   refine ω z (dX (.inr z) z) (TL.nil (B.n (S.n (η (ω z (OpVal.succ z z z (by omega)) (ψ z z (ε ?_)))))))
   obtain ⟨hh,XY⟩:=dL hR1 hh
   exact lf ((v55,AZ,(aT+1)),()) XY hh (Θ [1] 1)
  refine η (ω z (dX (.inl z) z) (ω z (dX (.inr z) z) (TL.j z z (TL.nil (B.n (S.n (η (ω z (OpVal.succ z z z (by omega)) (ψ z z (ε ?_))))))))))
  obtain ⟨hh,XW⟩:=dL hR1 hh
  exact lf ((((nth (nth x0.outs x1.toNat []) aT [])++(nth x2 ((nth (nth x0.next x1.toNat []) aT 0).toNat) [])),true,(aT+1)),()) XW hh (Sub.pre 1 z)
 refine TC.exit (S.x (S.x ?_))
 replace hh:=dI hR1 hh
 refine Δ (S.n (ξ (ω z (dX (.inl z) z) (ω z (dX (.inr z) z) (ε (TC.rt 0 ?_))))))
 obtain rfl:=so hh
 exact rq [8] ⟨z,z,z⟩
def Ns(x0:Seq)(dB:Nat)(gX:bW)(dZ:Nat):Option ((bW×Nat)⊕((bW×Nat)⊕(aB×B_1))):=
 aQ (decide ((dZ:Int)<(((nth x0.next dB []).length:Nat):Int))) (aQ (decide (0<=(nth (nth x0.next dB []) dZ 0))) (grd (0<=(nth (nth x0.next dB []) dZ 0)/\(nth (nth x0.next dB []) dZ 0)<(gX.length:Int)) (aQ (decide ((((nth gX ((nth (nth x0.next dB []) dZ 0).toNat) []).length:Nat):Int)=0)) (grd (0<=(nth (nth x0.next dB []) dZ 0)/\(nth (nth x0.next dB []) dZ 0)<(gX.length:Int)) (grd (((nth gX ((nth (nth x0.next dB []) dZ 0).toNat) []).length+[(dB:Int)].length) * 8<=140737488355328) (grd (0<=(nth (nth x0.next dB []) dZ 0)/\(nth (nth x0.next dB []) dZ 0)<(gX.length:Int)) (nxt ((gX.set ((nth (nth x0.next dB []) dZ 0).toNat) ((nth gX ((nth (nth x0.next dB []) dZ 0).toNat) [])++[(dB:Int)])),(dZ+1)))))) (grd (0<=(nth (nth x0.next dB []) dZ 0)/\(nth (nth x0.next dB []) dZ 0)<(gX.length:Int)) (grd (0<=(nth (nth x0.next dB []) dZ 0)/\(nth (nth x0.next dB []) dZ 0)<(gX.length:Int)) (grd (0<=(IntKind.i64.wrap ((((nth gX ((nth (nth x0.next dB []) dZ 0).toNat) []).length:Nat):Int) - 1))/\(IntKind.i64.wrap ((((nth gX ((nth (nth x0.next dB []) dZ 0).toNat) []).length:Nat):Int) - 1))<((nth gX ((nth (nth x0.next dB []) dZ 0).toNat) []).length:Int)) (aQ (decide ((nth (nth gX ((nth (nth x0.next dB []) dZ 0).toNat) []) ((IntKind.i64.wrap ((((nth gX ((nth (nth x0.next dB []) dZ 0).toNat) []).length:Nat):Int) - 1)).toNat) 0)≠(dB:Int))) (grd (0<=(nth (nth x0.next dB []) dZ 0)/\(nth (nth x0.next dB []) dZ 0)<(gX.length:Int)) (grd (((nth gX ((nth (nth x0.next dB []) dZ 0).toNat) []).length+[(dB:Int)].length) * 8<=140737488355328) (grd (0<=(nth (nth x0.next dB []) dZ 0)/\(nth (nth x0.next dB []) dZ 0)<(gX.length:Int)) (nxt ((gX.set ((nth (nth x0.next dB []) dZ 0).toNat) ((nth gX ((nth (nth x0.next dB []) dZ 0).toNat) [])++[(dB:Int)])),(dZ+1)))))) (nxt (gX,(dZ+1))))))))) (nxt (gX,(dZ+1)))) (fin (nxt (gX,(dB+1))))
def Nu(cZ:bW)(dK:ak)(kJ:aB)(qB:T_1)(kH:B_1)(Bd:ak)(wI:B_1)(nP:Nat):Option ((ak×B_1×Nat)⊕((aB×B_1×ak×B_1)⊕(aB×B_1))):=
 aQ (decide ((nP:Int)<(((nth cZ ((nth dK 0 0).toNat) []).length:Nat):Int))) (grd (0<=(nth (nth cZ ((nth dK 0 0).toNat) []) nP 0)/\(nth (nth cZ ((nth dK 0 0).toNat) []) nP 0)<(wI.length:Int)) (aQ (!(nth wI ((nth (nth cZ ((nth dK 0 0).toNat) []) nP 0).toNat) false)) (grd ((Bd.length+[(nth (nth cZ ((nth dK 0 0).toNat) []) nP 0)].length) * 8<=140737488355328) (grd (0<=(nth (nth cZ ((nth dK 0 0).toNat) []) nP 0)/\(nth (nth cZ ((nth dK 0 0).toNat) []) nP 0)<(wI.length:Int)) (grd (nP+1<=9223372036854775807) (nxt ((Bd++[(nth (nth cZ ((nth dK 0 0).toNat) []) nP 0)]),(wI.set ((nth (nth cZ ((nth dK 0 0).toNat) []) nP 0).toNat) true),(nP+1)))))) (grd (nP+1<=9223372036854775807) (nxt (Bd,wI,(nP+1)))))) (fin (nxt ((kJ.set ((nth dK 0 0).toNat) qB),(kH.set ((nth dK 0 0).toNat) true),Bd,wI)))
def Da_(dK:ak)(kJ:aB)(kH:B_1)(cZ:bW)(qB:T_1)(tY:B_1):Option ((aB×B_1×ak×B_1)⊕(aB×B_1)):=
 grd (0<=(nth dK 0 0)/\(nth dK 0 0)<(kJ.length:Int)) (grd (0<=(nth dK 0 0)/\(nth dK 0 0)<(kH.length:Int)) (grd (0<=(nth dK 0 0)/\(nth dK 0 0)<(cZ.length:Int)) (bC (λq:ak×B_1×Nat=>Nu cZ dK kJ qB kH q.1 q.2.1 q.2.2) ((dK.drop 1),(tY.set ((nth dK 0 0).toNat) false),0))))
def Qx(x0:Seq)(cZ:bW)(kJ:aB)(kH:B_1)(dK:ak)(tY:B_1):Option ((aB×B_1×ak×B_1)⊕(aB×B_1)):=
 aQ (decide (0<((dK.length:Nat):Int))) (grd (0<dK.length/\1<=dK.length) (grd (0<=(nth dK 0 0)/\(nth dK 0 0)<(tY.length:Int)) (bnd (Fa_ x0 (nth dK 0 0) kJ kH) (λqB=>grd (0<=(nth dK 0 0)/\(nth dK 0 0)<(kH.length:Int)) (aQ (nth kH ((nth dK 0 0).toNat) false) (grd (0<=(nth dK 0 0)/\(nth dK 0 0)<(kJ.length:Int)) (aQ (decide (qB=(nth kJ ((nth dK 0 0).toNat) []))) (nxt (kJ,kH,(dK.drop 1),(tY.set ((nth dK 0 0).toNat) false))) (Da_ dK kJ kH cZ qB tY))) (Da_ dK kJ kH cZ qB tY)))))) (fin (some (kJ,kH)))
def Qz(x0:Seq)(cZ:bW)(Bf:ak)(zF:B_1)(qV:Nat):Option ((ak×B_1×Nat)⊕(aB×B_1)):=
 aQ (decide ((qV:Int)<((x0.fin.length:Nat):Int))) (aQ (nth x0.fin qV false) (grd ((Bf.length+[(qV:Int)].length) * 8<=140737488355328) (grd (qV<zF.length) (nxt ((Bf++[(qV:Int)]),(zF.set qV true),(qV+1))))) (nxt (Bf,zF,(qV+1)))) (fin (bC (λq:aB×B_1×ak×B_1=>Qx x0 cZ q.1 q.2.1 q.2.2.1 q.2.2.2) ((replicate x0.next.length ([]:T_1)),(replicate x0.next.length false),Bf,zF)))
def Dw_(x0:Seq)(cZ:bW):Option (aB×B_1):=
 bC (λq:ak×B_1×Nat=>Qz x0 cZ q.1 q.2.1 q.2.2) (([]:ak),(replicate x0.next.length false),0)
def Eo_(x0:Seq)(cZ:bW):Option (aB×B_1):=
 grd (1 * x0.next.length<=281474976710656) (Dw_ x0 cZ)
def Qy(x0:Seq)(cZ:bW)(dB:Nat):Option ((bW×Nat)⊕(aB×B_1)):=
 aQ (decide ((dB:Int)<((x0.next.length:Nat):Int))) (bC (λq:bW×Nat=>Ns x0 dB q.1 q.2) (cZ,0)) (fin (grd (16 * x0.next.length<=281474976710656) (grd (1 * x0.next.length<=281474976710656) (Eo_ x0 cZ))))
def Ed_(x0:Seq):Option (aB×B_1):=
 grd (24 * x0.next.length<=281474976710656) (bC (λq:bW×Nat=>Qy x0 q.1 q.2) ((replicate x0.next.length ([]:ak)),0))
def Hv_(σ:aj)(r:aB×B_1):Value->aj->List Res->Prop:=λv σ' H'=>
 ∃a1 c1 a2 c2,v= .tuple #[.slice a1 r.1.length c1,.slice a2 r.2.length c2]/\dH σ' aI a1 c1 r.1/\dH σ' eq_ a2 c2 r.2/\H'=[]
theorem F9_{σ:aj}{x0:Seq}(au:RZ σ (aC 1 aF bn) (.slice aN x0.next.length aK) x0.next)(aV:RZ σ (aC 1 aI bF) (.slice aA x0.outs.length aY) x0.outs)(aS:dH σ eq_ aW ay x0.fin)(aO:dH σ aI bI bD x0.tail){r:aB×B_1}(hh:Ed_ x0=some r):
  Con prog 70 #[.agg (qF x0 aN aK aA aY aW ay bI bD)] σ [] (Hv_ σ r):=by
 dsimp only [Ed_]at hh
 have f0_0b:=au.big
 have f0_1b:=aV.big
 have f0_2b:=aS.rv.big
 have f0_3b:=aO.rv.big
 refine Con.mk (n:=160) Tryz.func70 z z z (λw0=> ?_)
 refine ξ (ν z (boxA z z z z (λbG=> ?_)))
 refine Ξ z z (Ξ z z (ε (ξ (ω z (aU z kW z) (ω z (bg z j_ z (i:=0) z z) (ω z (lenC z eX z) (ψ z z (ε (ξ (ψ z z ?_))))))))))
 obtain ⟨u9,hh⟩:=aP hh
 refine ν z (mQ (E:=3) (size:=1) (enc:=aF) z eX fP mG kY z z z z (by omega) (by decide) z (λjD jC zf105=> ?_))
 refine Ξ z z (ε (θ (ξ (ω z (aU z kW z) (ω z (bg z j_ z (i:=1) z z) (ω z (lenC z eX z) (ψ z z (ε (υ (TC.iE (α:=(bW×Nat)×((List (NP Int)))) (rgs [(6,2),(9,1),(28,49)]) (λg=>[(28,.int .i64 ((g.1.2:Nat):Int))]) (λg=>[jh bG x0 aN aK aA aY aW ay bI bD,Res.nest 86 3 1 aF (.slice jD (replicate x0.next.length ([]:ak)).length jC) g.2]) (λg=>σ) (λg=>bC (λq:bW×Nat=>Qy x0 q.1 q.2) g.1=some r/\g.1.1.length=(replicate x0.next.length ([]:ak)).length/\Zn g.2 g.1.1) (λg=>fZ (λq:bW×Nat=>Qy x0 q.1 q.2) g.1) (((replicate x0.next.length ([]:ak)),0),(replicate x0.next.length (oq:NP Int))) (Θ [1] 2) z (by repeat (first|exact trivial|refine ⟨z,?_⟩)) ⟨hh,z,zf105⟩ (λg1 j1 hg1=> ?_)))))))))))
 obtain ⟨⟨cZ,dB⟩,tN⟩:=g1
 obtain ⟨hh,Gs,lK⟩:=hg1
 try dsimp only at Gs lK ⊢
 obtain ⟨z1,hh,hR1⟩:=iq hh
 dsimp only [Qy]at hh
 have zf121b:=lK.len
 refine TC.know (nU (q:=1) z lK) (λ⟨_,hb123⟩=> ?_)
 refine ξ (ω z (OpVal.lss z z z) (ε (θ (TC.cD z hh (λrM hh=> ?_) (λrM hh=> ?_)))))
 ·refine ι (S.n (θ (υ (ξ (ψ z z (ω z (bT z eX fP z z au.isSl (by omega)) ?_))))))
  obtain ⟨zB,qg,KX⟩:=RZ.seg au dB (by omega)
  replace qg:dH _ aF zB.1 zB.2 (nth x0.next dB []):=qg
  have hk125b:=qg.rv.big
  refine ω z (OpVal.of (lZ z hs_ z KX z) (v':= .slice zB.1 ((nth x0.next dB []).length) zB.2) z) (ψ z z (Ξ z z (ε (ξ (Ξ z z (ω z (lenC z bY z) (ψ z z (ε (υ (TC.iE (α:=(bW×Nat)×((List (NP Int)))) (rgs [(9,1),(35,41)]) (λg=>[(35,.int .i64 ((g.1.2:Nat):Int))]) (λg=>[jh bG x0 aN aK aA aY aW ay bI bD,Res.nest 86 3 1 aF (.slice jD (replicate x0.next.length ([]:ak)).length jC) g.2]) (λg=>σ) (λg=>bC (λq:bW×Nat=>Ns x0 dB q.1 q.2) g.1=some z1/\g.1.1.length=(replicate x0.next.length ([]:ak)).length/\Zn g.2 g.1.1) (λg=>fZ (λq:bW×Nat=>Ns x0 dB q.1 q.2) g.1) ((cZ,0),tN) (Θ [1,1] 2) z (by repeat (first|exact trivial|refine ⟨z,?_⟩)) ⟨hh,Gs,lK⟩ (λg2 j2 hg2=> ?_)))))))))))
  obtain ⟨⟨gX,dZ⟩,Jb⟩:=g2
  obtain ⟨hh,qN,gU⟩:=hg2
  try dsimp only at qN gU ⊢
  obtain ⟨z2,hh,hR2⟩:=iq hh
  dsimp only [Ns]at hh
  have zf141b:=gU.len
  refine TC.know (nU (q:=1) z gU) (λ⟨_,U4⟩=> ?_)
  refine ξ (ω z (OpVal.lss z z z) (ε (θ (TC.cD z hh (λYC hh=> ?_) (λYC hh=> ?_)))))
  ·refine ι (S.n (θ (υ (ξ (ω z (bT z bY dh z z qg.rv.sl (by omega)) (ω z (fD (0:Int) z fC z qg (by omega) z) (ψ z z (ε (θ (TC.draw [] (by kernel_rfl) (TA.a 0 z (cO (.inl z) z) z (TA.a 1 z (OpVal.geq z z z) z (TA.a 2 z (moveB (.inl z) z) z (TA.split 41 z (λEG=> ?_) (λEG=> ?_)))))))))))))))
   ·replace hh:=ig EG hh
    replace EG:=jk EG
    refine TA.on 3 z z z z (gK (.inl z) z) z (TA.on 4 z z z z (cO (.inl z) z) z ?_)
    obtain ⟨u33,hh⟩:=aP hh
    refine TA.know (nU (q:=1) z gU) (λ⟨hs146,hs146b⟩=> ?_)
    refine TA.on 5 z z z z (OpVal.index z eX fP z z hs146 u33.1 u33.2) z ?_
    obtain ⟨p147,hz147,hm147⟩:=Zn.at gU (i:=(nth (nth x0.next dB []) dZ 0).toNat) (by omega)
    refine TA.on 6 z z z z (Dj z hs_ z (q:=1) z hz147 hm147) z (TA.on 7 z z z z (lenC z bY z) z (TA.on 8 z z z z (OpVal.eql z z z) z (TA.on 9 z z z z (moveB (.inl z) z) z (TA.split 48 z (λED=> ?_) (λED=> ?_)))))
    ·replace hh:=ig ED hh
     replace ED:=jk ED
     refine TA.off 10 z z z z z z (TA.off 11 z z z z z z (TA.off 12 z z z z z z (TA.off 13 z z z z z z (TA.off 14 z z z z z z (TA.off 15 z z z z z z (TA.off 16 z z z z z z (TA.off 17 z z z z z z (TA.off 18 z z z z z z (TA.off 19 z z z z z z (TA.off 20 z z z z z z (TA.off 21 z z z z z z (TA.off 22 z z z z z z (TA.off 23 z z z z z z (TA.on 24 z z z z (dQ z z z) z (TA.a 25 z (dQ z z z) z ?_)))))))))))))))
     refine TA.dn (S.n (TC.t z (η (Ξ z z (ψ z z (Ξ z z (ψ z z ?_)))))))
     obtain ⟨u58,hh⟩:=aP hh
     refine TL.know (nU (q:=1) z gU) (λ⟨wO,hs149b⟩=> ?_)
     refine ω z (OpVal.index z eX fP z z wO u58.1 u58.2) ?_
     obtain ⟨yx,TI,UH⟩:=Zn.at gU (i:=(nth (nth x0.next dB []) dZ 0).toNat) (by omega)
     refine ω z (Dj z hs_ z (q:=1) z TI UH) (ψ z z (ν z (OpOk.lit (enc:=aF) [(dB:Int)] z bY dh lq z z z bn (by decide) (by decide) (0:Int) z (by decide) z (by decide) jR (λa151 c152=> ?_))))
     refine ζ 2 z z (TL.by (λw h=>Reach.takeN TI UH h) ?_)
     obtain ⟨u62,hh⟩:=aP hh
     refine ν z (as_ z z bY dh uJ lq z z (by decide) z z z (.inr ⟨_,1,z⟩) (by simpa using u62) (by decide) (λZk c156=> ?_))
     obtain ⟨u63,hh⟩:=aP hh
     refine TL.know (Nj (q:=1) z gU) (λ⟨hs157,hs157b⟩=> ?_)
     refine ω z (OpVal.index z eX fP z z hs157 u63.1 u63.2) (ζ 1 z z (ζ 1 z z ?_))
     have BM:(gX.set ((nth (nth x0.next dB []) dZ 0).toNat) ((nth gX ((nth (nth x0.next dB []) dZ 0).toNat) [])++[(dB:Int)])).length=(replicate x0.next.length ([]:ak)).length:=(fQ ..).trans qN
     refine ν rfl (Nl (l':=((nth gX ((nth (nth x0.next dB []) dZ 0).toNat) [])++[(dB:Int)])) rfl fP rfl rfl rfl rfl rfl (by rw [gU.len];omega) gU (λsD=> ?_))
     refine TL.nil (B.n (S.n (η (ω z (OpVal.succ z z z (by omega)) (ψ z z (ε ?_))))))
     obtain ⟨hh,XO⟩:=dL hR2 hh
     exact lf (((gX.set ((nth (nth x0.next dB []) dZ 0).toNat) ((nth gX ((nth (nth x0.next dB []) dZ 0).toNat) [])++[(dB:Int)])),(dZ+1)),(Jb.set ((nth (nth x0.next dB []) dZ 0).toNat) (((nth gX ((nth (nth x0.next dB []) dZ 0).toNat) [])++[(dB:Int)]),(Zk,c156)))) XO ⟨hh,BM,sD⟩ (Θ [2] 2)
    replace hh:=iw ED hh
    replace ED:=jy ED
    refine TA.on 10 z z z z (gK (.inl z) z) z (TA.on 11 z z z z (cO (.inl z) z) z ?_)
    obtain ⟨u40,hh⟩:=aP hh
    refine TA.know (nU (q:=1) z gU) (λ⟨hs161,hs161b⟩=> ?_)
    refine TA.on 12 z z z z (OpVal.index z eX fP z z hs161 u40.1 u40.2) z ?_
    obtain ⟨Jv,JE,KF⟩:=Zn.at gU (i:=(nth (nth x0.next dB []) dZ 0).toNat) (by omega)
    refine TA.on 13 z z z z (Dj z hs_ z (q:=1) z JE KF) z (TA.on 14 z z z z (gK (.inl z) z) z (TA.on 15 z z z z (cO (.inl z) z) z ?_))
    obtain ⟨u44,hh⟩:=aP hh
    refine TA.know (nU (q:=1) z gU) (λ⟨JJ,hs163b⟩=> ?_)
    refine TA.on 16 z z z z (OpVal.index z eX fP z z JJ u44.1 u44.2) z ?_
    obtain ⟨p164,hz164,hm164⟩:=Zn.at gU (i:=(nth (nth x0.next dB []) dZ 0).toNat) (by omega)
    refine TA.on 17 z z z z (Dj z hs_ z (q:=1) z hz164 hm164) z (TA.on 18 z z z z (lenC z bY z) z (TA.on 19 z z z z (subW z z z) z ?_))
    obtain ⟨u48,hh⟩:=aP hh
    refine TA.know (iq_ (q:=1) z JE KF) (λ⟨hs165,hs165b⟩=> ?_)
    refine TA.on 20 z z z z (OpVal.index z bY dh z z hs165 u48.1 u48.2) z (TA.on 21 z z z z (OpVal.seen (ir_ (q:=1) z JE KF) (nZ (0:Int) z fC z (q:=0) z bn (by omega) z)) z (TA.on 22 z z z z (cO (.inl z) z) z (TA.on 23 z z z z (OpVal.neq z z z) z (TA.on 24 z z z z (dU z z z) z (TA.a 25 z (dQ z z z) z (TA.dn (S.n (TC.cD z hh (λh166 hh=> ?_) (λh166 hh=> ?_)))))))))
    ·refine η (Ξ z z (ψ z z (Ξ z z (ψ z z ?_))))
     obtain ⟨u58,hh⟩:=aP hh
     refine TL.know (nU (q:=1) z gU) (λ⟨hs167,hs167b⟩=> ?_)
     refine ω z (OpVal.index z eX fP z z hs167 u58.1 u58.2) ?_
     obtain ⟨p168,TG,UG⟩:=Zn.at gU (i:=(nth (nth x0.next dB []) dZ 0).toNat) (by omega)
     refine ω z (Dj z hs_ z (q:=1) z TG UG) (ψ z z (ν z (OpOk.lit (enc:=aF) [(dB:Int)] z bY dh lq z z z bn (by decide) (by decide) (0:Int) z (by decide) z (by decide) jR (λa169 c170=> ?_))))
     refine ζ 2 z z (TL.by (λw h=>Reach.takeN TG UG h) ?_)
     obtain ⟨u62,hh⟩:=aP hh
     refine ν z (as_ z z bY dh uJ lq z z (by decide) z z z (.inr ⟨_,1,z⟩) (by simpa using u62) (by decide) (λa173 c174=> ?_))
     obtain ⟨u63,hh⟩:=aP hh
     refine TL.know (Nj (q:=1) z gU) (λ⟨hs175,hs175b⟩=> ?_)
     refine ω z (OpVal.index z eX fP z z hs175 u63.1 u63.2) (ζ 1 z z (ζ 1 z z ?_))
     have Kq:(gX.set ((nth (nth x0.next dB []) dZ 0).toNat) ((nth gX ((nth (nth x0.next dB []) dZ 0).toNat) [])++[(dB:Int)])).length=(replicate x0.next.length ([]:ak)).length:=(fQ ..).trans qN
     refine ν rfl (Nl (l':=((nth gX ((nth (nth x0.next dB []) dZ 0).toNat) [])++[(dB:Int)])) rfl fP rfl rfl rfl rfl rfl (by rw [gU.len];omega) gU (λzf176=> ?_))
     refine TL.nil (B.n (S.n (η (ω z (OpVal.succ z z z (by omega)) (ψ z z (ε ?_))))))
     obtain ⟨hh,XH⟩:=dL hR2 hh
     exact lf (((gX.set ((nth (nth x0.next dB []) dZ 0).toNat) ((nth gX ((nth (nth x0.next dB []) dZ 0).toNat) [])++[(dB:Int)])),(dZ+1)),(Jb.set ((nth (nth x0.next dB []) dZ 0).toNat) (((nth gX ((nth (nth x0.next dB []) dZ 0).toNat) [])++[(dB:Int)]),(a173,c174)))) XH ⟨hh,Kq,zf176⟩ (Θ [2] 2)
    refine ι (B.n (S.n (η (ω z (OpVal.succ z z z (by omega)) (ψ z z (ε ?_))))))
    obtain ⟨hh,XG⟩:=dL hR2 hh
    exact lf ((gX,(dZ+1)),Jb) XG ⟨hh,qN,gU⟩ (Θ [1,1] 2)
   replace hh:=iw EG hh
   replace EG:=jy EG
   refine TA.off 3 z z z z z z (TA.off 4 z z z z z z (TA.off 5 z z z z z z (TA.off 6 z z z z z z (TA.off 7 z z z z z z (TA.off 8 z z z z z z (TA.off 9 z z z z z z (TA.uY 10 z (by kernel_rfl) (by kernel_rfl) (by kernel_rfl) (by kernel_rfl) z z z z z z z (TA.uY 11 z (by kernel_rfl) (by kernel_rfl) (by kernel_rfl) (by kernel_rfl) z z z z z z z (TA.uY 12 z (by kernel_rfl) (by kernel_rfl) (by kernel_rfl) (by kernel_rfl) z z z z z z z (TA.uY 13 z (by kernel_rfl) (by kernel_rfl) (by kernel_rfl) (by kernel_rfl) z z z z z z z (TA.uY 14 z (by kernel_rfl) (by kernel_rfl) (by kernel_rfl) (by kernel_rfl) z z z z z z z (TA.uY 15 z (by kernel_rfl) (by kernel_rfl) (by kernel_rfl) (by kernel_rfl) z z z z z z z (TA.uY 16 z (by kernel_rfl) (by kernel_rfl) (by kernel_rfl) (by kernel_rfl) z z z z z z z (TA.uY 17 z (by kernel_rfl) (by kernel_rfl) (by kernel_rfl) (by kernel_rfl) z z z z z z z (TA.uY 18 z (by kernel_rfl) (by kernel_rfl) (by kernel_rfl) (by kernel_rfl) z z z z z z z ?_)))))))))))))))
   refine TA.uY 19 z (by kernel_rfl) (by kernel_rfl) (by kernel_rfl) (by kernel_rfl) z z z z z z z (TA.uY 20 z (by kernel_rfl) (by kernel_rfl) (by kernel_rfl) (by kernel_rfl) z z z z z z z (TA.uY 21 z (by kernel_rfl) (by kernel_rfl) (by kernel_rfl) (by kernel_rfl) z z z z z z z (TA.uY 22 z (by kernel_rfl) (by kernel_rfl) (by kernel_rfl) (by kernel_rfl) z z z z z z z (TA.uY 23 z (by kernel_rfl) (by kernel_rfl) (by kernel_rfl) (by kernel_rfl) z z z z z z z (TA.off 24 z z z z z z (TA.a 25 z (dU z z z) z (TA.dn (S.n (TC.f z (ι (B.n (S.n (η (ω z (OpVal.succ z z z (by omega)) (ψ z z ?_)))))))))))))))
   refine ε ?_
   obtain ⟨hh,XF⟩:=dL hR2 hh
   exact lf ((gX,(dZ+1)),Jb) XF ⟨hh,qN,gU⟩ (Θ [1,1] 2)
  refine TC.exit (S.x (S.x ?_))
  replace hh:=dI hR2 hh
  refine Δ (B.n (S.n (η (ω z (OpVal.succ z z z (by omega)) (ψ z z (ε ?_))))))
  obtain ⟨hh,XE⟩:=dL hR1 hh
  exact lf ((gX,(dB+1)),Jb) XE ⟨hh,qN,gU⟩ (Θ [1,1] 2)
 refine TC.exit (S.x (S.x ?_))
 replace hh:=dI hR1 hh
 refine Δ (S.n (TC.cutG (α:=(Unit)×((Option Addr)×Nat×(Option Addr)×Nat)) [10,11,77,78,79,80] (λg=>[(10,.slice g.2.1 ((replicate x0.next.length ([]:T_1)).length) g.2.2.1),(11,.slice g.2.2.2.1 ((replicate x0.next.length false).length) g.2.2.2.2)]) (λg=>[jh bG x0 aN aK aA aY aW ay bI bD,Res.nest 86 3 1 aF (.slice jD (replicate x0.next.length ([]:ak)).length jC) tN,φ 9 1 aI (.slice g.2.1 (replicate x0.next.length ([]:T_1)).length g.2.2.1) (replicate x0.next.length ([]:T_1)),φ 4 1 eq_ (.slice g.2.2.2.1 (replicate x0.next.length false).length g.2.2.2.2) (replicate x0.next.length false)]) (λg=>σ) (λg=>Eo_ x0 cZ=some r/\cZ.length=(replicate x0.next.length ([]:ak)).length/\Zn tN cZ) ?_ (λg j hg=> ?_)))
 ·skip
  obtain ⟨u70,hh⟩:=aP hh
  obtain ⟨u72,hh⟩:=aP hh
  refine TC.draw [] (by kernel_rfl) (TA.a 0 z (cO (.inl z) z) z (TA.a 2 z (cO (.inl z) z) z (TA.actN [1,3] (by kernel_rfl) (an z z (oW (enc:=aI) ([]:T_1) z fF fK zo sG z z z z (by omega) (by decide) bF (by decide) z qX (λa196 c197=>(k1 ?_))) (an z z (oW (enc:=eq_) false z g_ gV GV Ap z z z z (by omega) (by decide) iQ (by decide) z qQ (λa199 c200=>(k1 ?_))) (True.intro))))))
  ·skip
   refine TA.a 4 z (gK (.inr z) z) z (TA.ac 3 z (oW (enc:=eq_) false z g_ gV GV Ap z z z z (by omega) (by decide) iQ (by decide) z qQ (λa202 c203=>(k2 ?_))))
   exact TA.a 5 z (gK (.inr z) z) z (TA.dn (S.n (cf ((),(a196,c197,a202,c203)) ⟨hh,Gs,lK⟩ (Θ [1,3,3] 4))))
  skip
  refine TA.ac 1 z (oW (enc:=aI) ([]:T_1) z fF fK zo sG z z z z (by omega) (by decide) bF (by decide) z qX (λyI c206=>(k2 ?_)))
  exact TA.a 4 z (gK (.inr z) z) z (TA.a 5 z (gK (.inr z) z) z (TA.dn (S.n (cf ((),(yI,c206,a199,c200)) ⟨hh,Gs,lK⟩ (Θ [1,1,3,3] 4)))))
 skip
 obtain ⟨_,⟨qp,qm,tu,sZ⟩⟩:=g
 obtain ⟨hh,mM,wo⟩:=hg
 try dsimp only at mM wo ⊢
 dsimp only [Eo_]at hh
 have zf183b:=wo.len
 refine TC.know (nU (q:=1) z wo) (λ⟨_,UZ⟩=> ?_)
 refine χ (i:=2) z (λ_ Ld _=> ?_)
 refine χ (i:=3) z (λ_ Lc _=> ?_)
 refine TC.cutG (α:=(Unit)×((Option Addr)×Nat×(Option Addr)×Nat)) [12,13,81,82,83] (λg=>[(12,.slice g.2.1 (([]:ak).length) g.2.2.1),(13,.slice g.2.2.2.1 ((replicate x0.next.length false).length) g.2.2.2.2)]) (λg=>[jh bG x0 aN aK aA aY aW ay bI bD,Res.nest 86 3 1 aF (.slice jD (replicate x0.next.length ([]:ak)).length jC) tN,dR 9 aI qp qm (replicate x0.next.length ([]:T_1)),dR 4 eq_ tu sZ (replicate x0.next.length false),φ 3 1 aF (.slice g.2.1 ([]:ak).length g.2.2.1) ([]:ak),φ 4 1 eq_ (.slice g.2.2.2.1 (replicate x0.next.length false).length g.2.2.2.2) (replicate x0.next.length false)]) (λg=>σ) (λg=>Dw_ x0 cZ=some r/\cZ.length=(replicate x0.next.length ([]:ak)).length/\Zn tN cZ) ?_ (λg j hg=> ?_)
 ·skip
  obtain ⟨u77,hh⟩:=aP hh
  refine TC.draw [] (by kernel_rfl) (TA.a 1 z (cO (.inl z) z) z (TA.actN [0,2] (by kernel_rfl) (an z z (O5 (enc:=aF) z z bY dh z z (λP9 c226=>(k1 ?_))) (an z z (oW (enc:=eq_) false z g_ gV GV Ap z z z z (by omega) (by decide) iQ (by decide) z qQ (λa228 c229=>(k1 ?_))) (True.intro)))))
  ·skip
   refine TA.a 3 z (gK (.inr z) z) z (TA.ac 2 z (oW (enc:=eq_) false z g_ gV GV Ap z z z z (by omega) (by decide) iQ (by decide) z qQ (λDq c232=>(k2 ?_))))
   exact TA.a 4 z (gK (.inr z) z) z (TA.dn (S.n (cf ((),(P9,c226,Dq,c232)) ⟨hh,mM,wo⟩ (Θ [1,5,5,5,5] 6))))
  skip
  refine TA.ac 0 z (O5 (enc:=aF) z z bY dh z z (λa234 c235=>(k2 ?_)))
  exact TA.a 3 z (gK (.inr z) z) z (TA.a 4 z (gK (.inr z) z) z (TA.dn (S.n (cf ((),(a234,c235,a228,c229)) ⟨hh,mM,wo⟩ (Θ [1,1,5,5,5,5] 6)))))
 skip
 obtain ⟨_,⟨Zh,YN,tq,c218⟩⟩:=g
 obtain ⟨hh,BK,oI⟩:=hg
 try dsimp only at BK oI ⊢
 dsimp only [Dw_]at hh
 have zf212b:=oI.len
 refine TC.know (nU (q:=1) z oI) (λ⟨_,UQ⟩=> ?_)
 refine χ (i:=2) z (λ_ UO _=> ?_)
 refine χ (i:=3) z (λ_ UN _=> ?_)
 refine χ (i:=4) z (λ_ hb240 _=> ?_)
 refine χ (i:=5) z (λ_ hb241 _=> ?_)
 refine θ (ξ (ω z (aU z uF z) (ω z (bg z rX z (i:=0) z z) (ω z (lenC z g_ z) (ψ z z (ε (υ (TC.iE (α:=(ak×B_1×Nat)×((Option Addr)×Nat)) (rgs [(12,1),(14,2),(87,14)]) (λg=>[(12,.slice g.2.1 g.1.1.length g.2.2),(87,.int .i64 ((g.1.2.2:Nat):Int))]) (λg=>[jh bG x0 aN aK aA aY aW ay bI bD,Res.nest 86 3 1 aF (.slice jD (replicate x0.next.length ([]:ak)).length jC) tN,dR 9 aI qp qm (replicate x0.next.length ([]:T_1)),dR 4 eq_ tu sZ (replicate x0.next.length false),φ 3 1 aF (.slice g.2.1 g.1.1.length g.2.2) g.1.1,φ 4 1 eq_ (.slice tq (replicate x0.next.length false).length c218) g.1.2.1]) (λg=>σ) (λg=>bC (λq:ak×B_1×Nat=>Qz x0 cZ q.1 q.2.1 q.2.2) g.1=some r/\cZ.length=(replicate x0.next.length ([]:ak)).length/\Zn tN cZ/\g.1.2.1.length=(replicate x0.next.length false).length) (λg=>fZ (λq:ak×B_1×Nat=>Qz x0 cZ q.1 q.2.1 q.2.2) g.1) ((([]:ak),(replicate x0.next.length false),0),(Zh,YN)) (Θ [5,5,5,5,5,5] 6) z (by repeat (first|exact trivial|refine ⟨z,?_⟩)) ⟨hh,BK,oI,z⟩ (λg3 j3 hg3=> ?_)))))))))
 obtain ⟨⟨Bf,zF,qV⟩,⟨a263,c264⟩⟩:=g3
 obtain ⟨hh,F5,yS,FZ⟩:=hg3
 try dsimp only at F5 yS FZ ⊢
 obtain ⟨z1,hh,hR1⟩:=iq hh
 dsimp only [Qz]at hh
 have zf261b:=yS.len
 refine TC.know (nU (q:=1) z yS) (λ⟨_,hb268⟩=> ?_)
 refine χ (i:=2) z (λ_ hb269 _=> ?_)
 refine χ (i:=3) z (λ_ hb270 _=> ?_)
 refine χ (i:=4) z (λ_ hb271 _=> ?_)
 refine χ (i:=5) z (λ_ hb272 _=> ?_)
 refine ξ (ω z (OpVal.lss z z z) (ε (θ (TC.cD z hh (λh273 hh=> ?_) (λh273 hh=> ?_)))))
 ·refine ι (S.n (θ (υ (ξ (ψ z z (ω z (bT z g_ gV z z aS.rv.sl (by omega)) (ω z (fD false z nX z aS (by omega) z) (ψ z z (TL.j z z (ε (ξ (TL.j z z (ε (TC.cB z hh (λh274 hh=> ?_) (λh274 hh=> ?_)))))))))))))))
  ·refine η (Ξ z z (ψ z z (Ξ z z (ψ z z (ν z (OpOk.lit (enc:=aF) [(qV:Int)] z bY dh lq z z z bn (by decide) (by decide) (0:Int) z (by decide) z (by decide) jR (λa275 c276=> ?_)))))))
   refine ζ 5 z z ?_
   obtain ⟨u96,hh⟩:=aP hh
   refine ν z (as_ z z bY dh uJ lq z z (by decide) z z z (.inr ⟨_,0,z⟩) (by simpa using u96) (by decide) (λa278 c279=> ?_))
   refine Ξ z z ?_
   obtain ⟨u98,hh⟩:=aP hh
   refine TL.isSl (i:=6) z (λhs280 _ _=> ?_)
   refine ω z (bT z g_ gV z z hs280 (by omega)) (ζ 6 z z ?_)
   have hn281:(zF.set qV true).length=(replicate x0.next.length false).length:=by rw [fQ];exact FZ
   refine ν z (lF true z gV z z z z iQ qQ (by omega) (by omega) ?_)
   refine TL.nil (B.n (S.n (η (ω z (OpVal.succ z z z (by omega)) (ψ z z (ε ?_))))))
   obtain ⟨hh,Xi⟩:=dL hR1 hh
   exact lf (((Bf++[(qV:Int)]),(zF.set qV true),(qV+1)),(a278,c279)) Xi ⟨hh,F5,yS,hn281⟩ (Θ [1,6,6,6,6] 6)
  refine ι (B.n (S.n (η (ω z (OpVal.succ z z z (by omega)) (ψ z z (ε ?_))))))
  obtain ⟨hh,Xh⟩:=dL hR1 hh
  exact lf ((Bf,zF,(qV+1)),(a263,c264)) Xh ⟨hh,F5,yS,FZ⟩ (Θ [5,5,5,5,5,5] 6)
 refine TC.exit (S.x (S.x ?_))
 replace hh:=dI hR1 hh
 refine Δ (S.n (θ (υ (TC.front 4 z z (TC.c0_ (TC.iE (α:=(aB×B_1×ak×B_1)×((Option Addr)×Nat)) (rgs [(12,1),(16,2),(19,1),(101,57)]) (λg=>[(12,.slice g.2.1 g.1.2.2.1.length g.2.2)]) (λg=>[jh bG x0 aN aK aA aY aW ay bI bD,Res.nest 86 3 1 aF (.slice jD (replicate x0.next.length ([]:ak)).length jC) tN,φ 9 1 aI (.slice qp (replicate x0.next.length ([]:T_1)).length qm) g.1.1,φ 4 1 eq_ (.slice tu (replicate x0.next.length false).length sZ) g.1.2.1,Res.queS 3 1 aF (.slice g.2.1 g.1.2.2.1.length g.2.2) g.1.2.2.1,φ 4 1 eq_ (.slice tq (replicate x0.next.length false).length c218) g.1.2.2.2]) (λg=>σ) (λg=>bC (λq:aB×B_1×ak×B_1=>Qx x0 cZ q.1 q.2.1 q.2.2.1 q.2.2.2) g.1=some r/\cZ.length=(replicate x0.next.length ([]:ak)).length/\Zn tN cZ/\g.1.1.length=(replicate x0.next.length ([]:T_1)).length/\g.1.2.1.length=(replicate x0.next.length false).length/\g.1.2.2.2.length=(replicate x0.next.length false).length) (λg=>fZ (λq:aB×B_1×ak×B_1=>Qx x0 cZ q.1 q.2.1 q.2.2.1 q.2.2.2) g.1) (((replicate x0.next.length ([]:T_1)),(replicate x0.next.length false),Bf,zF),(a263,c264)) (Θ [5,1,5,5,5,5] 6) z (by repeat (first|exact trivial|refine ⟨z,?_⟩)) ⟨hh,F5,yS,z,z,FZ⟩ (λg4 j4 hg4=> ?_)))))))
 obtain ⟨⟨kJ,kH,dK,tY⟩,⟨a316,c317⟩⟩:=g4
 obtain ⟨hh,FY,rZ,wV,wU,Un⟩:=hg4
 try dsimp only at FY rZ wV wU Un ⊢
 obtain ⟨z1,hh,hR1⟩:=iq hh
 dsimp only [Qx]at hh
 have zf310b:=rZ.len
 refine TC.know (nU (q:=1) z rZ) (λ⟨_,hb320⟩=> ?_)
 refine χ (i:=2) z (λ_ hb321 _=> ?_)
 refine χ (i:=3) z (λ_ hb322 _=> ?_)
 refine χ (i:=5) z (λ_ hb323 _=> ?_)
 refine θ (ξ (Ξ z z (ω z (lenC z bY z) (ω z (OpVal.gtr z z z) (ε (TC.cD z hh (λh324 hh=> ?_) (λh324 hh=> ?_)))))))
 ·refine ι (S.n (υ (ξ (Ξ z z (TL.know (tu_ (q:=4) z) (λ⟨hs325,hs325b⟩=> ?_))))))
  refine ω z (bT (i:=0) z bY dh z z hs325 (by omega)) (ω z (c8_ (0:Int) z fC z (q:=4) z bn (by omega) z) (ψ z z (ε (ξ (Ξ z z (ψ z z (Ξ z z (ζ 4 z z ?_))))))))
  obtain ⟨G9,hh⟩:=aP hh
  refine ν z (popQ (i:=1) z bY dh z z z z (by omega) (by omega) (λZa YH=> ?_))
  refine Ξ z z ?_
  obtain ⟨u114,hh⟩:=aP hh
  refine TL.isSl (i:=5) z (λhs328 _ _=> ?_)
  refine ω z (OpVal.index z g_ gV z z hs328 u114.1 u114.2) (ζ 5 z z ?_)
  have J8:(tY.set ((nth dK 0 0).toNat) false).length=(replicate x0.next.length false).length:=by rw [fQ];exact Un
  refine ν z (lF false z gV z z z z iQ qQ (by omega) (by omega) ?_)
  refine ε (ξ (ω z (lG z jw fB z (i:=2) z z) (ψ z z (Ξ z z (Ξ z z ?_)))))
  obtain ⟨qB,u120,hh⟩:=dJ hh
  refine ζ 5 z z (ζ 5 z z ?_)
  rw [show Value.slice qp ((replicate x0.next.length ([]:T_1)).length) qm=Value.slice qp kJ.length qm from by rw [wV]]
  rw [show Value.slice tu ((replicate x0.next.length false).length) sZ=Value.slice tu kH.length sZ from by rw [wU]]
  refine ν z (U_ (Con.lend bF (λ_ zN hr330=>Con.lend iQ (λ_ xk hr331=>Hm_ (x0:=x0) ((au.mono zN).mono xk) ((aV.mono zN).mono xk) ((aS.mono zN).mono xk) ((aO.mono zN).mono xk) (hr330.mono xk) hr331 u120))) z z pf111 z z z z ?_)
  rw [show Value.slice qp kJ.length qm=Value.slice qp ((replicate x0.next.length ([]:T_1)).length) qm from by rw [wV]]
  rw [show Value.slice tu kH.length sZ=Value.slice tu ((replicate x0.next.length false).length) sZ from by rw [wU]]
  refine ω z (dX (.inr z) z) (ε (TC.cutG (α:=(Unit)×(Unit)) (rgs [(117,12)]) (λg=>[]) (λg=>[jh bG x0 aN aK aA aY aW ay bI bD,Res.nest 86 3 1 aF (.slice jD (replicate x0.next.length ([]:ak)).length jC) tN,φ 9 1 aI (.slice qp (replicate x0.next.length ([]:T_1)).length qm) kJ,φ 4 1 eq_ (.slice tu (replicate x0.next.length false).length sZ) kH,Res.queS 3 1 aF (.slice Za (dK.drop 1).length YH) (dK.drop 1),φ 4 1 eq_ (.slice tq (replicate x0.next.length false).length c218) (tY.set ((nth dK 0 0).toNat) false)]) (λg=>σ) (λg=>Da_ dK kJ kH cZ qB tY=some z1/\cZ.length=(replicate x0.next.length ([]:ak)).length/\Zn tN cZ/\kJ.length=(replicate x0.next.length ([]:T_1)).length/\kH.length=(replicate x0.next.length false).length/\(tY.set ((nth dK 0 0).toNat) false).length=(replicate x0.next.length false).length) ?_ (λg j hg=> ?_)))
  ·skip
   refine ξ (Ξ z z (ψ z z ?_))
   obtain ⟨u124,hh⟩:=aP hh
   refine TL.isSl (i:=1) z (λhs339 _ _=> ?_)
   refine ω z (OpVal.index z g_ gV z z hs339 u124.1 u124.2) (ω z (nZ false z nX z (q:=1) z iQ (by omega) z) (TL.j z z (TL.split 121 z (λYp=> ?_) (λYp=> ?_))))
   ·replace hh:=ig Yp hh
    refine Ψ z (dX (.inl z) z) (Ψ z (gK (.inl z) z) (Ψ z (cO (.inl z) z) ?_))
    obtain ⟨u130,hh⟩:=aP hh
    refine TL.isSl (i:=0) z (λhs341 _ _=> ?_)
    refine Ψ z (OpVal.index z fF fK z z hs341 u130.1 u130.2) (Ψ z (nZ ([]:T_1) z iK z (q:=0) z bF (by omega) z) (Ψ z (cz_ z z z) (ω z (dQ z z z) (ε (TC.cD z hh (λh342 hh=> ?_) (λh342 hh=> ?_))))))
    ·refine TC.exit (S.x (Δ (S.n ?_)))
     obtain ⟨hh,WS⟩:=dL hR1 hh
     exact lf ((kJ,kH,(dK.drop 1),(tY.set ((nth dK 0 0).toNat) false)),(Za,YH)) WS ⟨hh,FY,rZ,wV,wU,J8⟩ (Θ [2,3,3,3,5,5] 6)
    exact ι (S.n (cf ((),()) ⟨hh,FY,rZ,wV,wU,J8⟩ (Θ [2,3,3,3,5,5] 6)))
   replace hh:=iw Yp hh
   exact π z (π z (π z (π z (π z (π z (ω z (dU z z z) (ε (TC.f z (ι (S.n (cf ((),()) ⟨hh,FY,rZ,wV,wU,J8⟩ (Θ [2,3,3,3,5,5] 6))))))))))))
  skip
  obtain ⟨_,_⟩:=g
  obtain ⟨hh,Um,yP,Ul,Uk,Uj⟩:=hg
  try dsimp only at Um yP Ul Uk Uj ⊢
  dsimp only [Da_]at hh
  have zf335b:=yP.len
  refine TC.know (nU (q:=1) z yP) (λ⟨_,hb344⟩=> ?_)
  refine χ (i:=2) z (λ_ hb345 _=> ?_)
  refine χ (i:=3) z (λ_ hb346 _=> ?_)
  refine χ (i:=5) z (λ_ hb347 _=> ?_)
  refine ξ (Ξ z z (ψ z z (Ξ z z (ψ z z (ω z (dX (.inl z) z) ?_)))))
  obtain ⟨u139,hh⟩:=aP hh
  refine TL.isSl (i:=2) z (λhs348 _ _=> ?_)
  refine ω z (OpVal.index z fF fK z z hs348 u139.1 u139.2) (ζ 2 z z ?_)
  have hn349:(kJ.set ((nth dK 0 0).toNat) qB).length=(replicate x0.next.length ([]:T_1)).length:=by rw [fQ];exact Ul
  refine ν z (lF qB z fK z z z z bF qX (by omega) (by omega) ?_)
  obtain ⟨Jk,hh⟩:=aP hh
  refine TL.isSl (i:=3) z (λhs350 _ _=> ?_)
  refine ω z (OpVal.index z g_ gV z z hs350 Jk.1 Jk.2) (ζ 3 z z ?_)
  have hn351:(kH.set ((nth dK 0 0).toNat) true).length=(replicate x0.next.length false).length:=by rw [fQ];exact Uk
  refine ν z (lF true z gV z z z z iQ qQ (by omega) (by omega) ?_)
  refine ε (ξ (Ξ z z (ψ z z ?_)))
  obtain ⟨N9,hh⟩:=aP hh
  refine TL.know (nU (q:=3) z yP) (λ⟨hs352,hs352b⟩=> ?_)
  refine ω z (OpVal.index z eX fP z z hs352 N9.1 N9.2) ?_
  obtain ⟨p353,JB,KC⟩:=Zn.at yP (i:=(nth dK 0 0).toNat) (by omega)
  refine ω z (Dj z hs_ z (q:=3) z JB KC) (ω z (lenC z bY z) (ψ z z (ε (υ (TC.iE (α:=(ak×B_1×Nat)×((Option Addr)×Nat)) (rgs [(12,1),(19,1),(141,17)]) (λg=>[(12,.slice g.2.1 g.1.1.length g.2.2),(141,.int .i64 ((g.1.2.2:Nat):Int))]) (λg=>[jh bG x0 aN aK aA aY aW ay bI bD,Res.nest 86 3 1 aF (.slice jD (replicate x0.next.length ([]:ak)).length jC) tN,φ 9 1 aI (.slice qp (replicate x0.next.length ([]:T_1)).length qm) (kJ.set ((nth dK 0 0).toNat) qB),φ 4 1 eq_ (.slice tu (replicate x0.next.length false).length sZ) (kH.set ((nth dK 0 0).toNat) true),Res.queS 3 1 aF (.slice g.2.1 g.1.1.length g.2.2) g.1.1,φ 4 1 eq_ (.slice tq (replicate x0.next.length false).length c218) g.1.2.1]) (λg=>σ) (λg=>bC (λq:ak×B_1×Nat=>Nu cZ dK kJ qB kH q.1 q.2.1 q.2.2) g.1=some z1/\cZ.length=(replicate x0.next.length ([]:ak)).length/\Zn tN cZ/\(kJ.set ((nth dK 0 0).toNat) qB).length=(replicate x0.next.length ([]:T_1)).length/\(kH.set ((nth dK 0 0).toNat) true).length=(replicate x0.next.length false).length/\g.1.2.1.length=(replicate x0.next.length false).length) (λg=>fZ (λq:ak×B_1×Nat=>Nu cZ dK kJ qB kH q.1 q.2.1 q.2.2) g.1) (((dK.drop 1),(tY.set ((nth dK 0 0).toNat) false),0),(Za,YH)) (Θ [5,5,2,3,5,5] 6) z (by repeat (first|exact trivial|refine ⟨z,?_⟩)) ⟨hh,Um,yP,hn349,hn351,Uj⟩ (λg5 j5 hg5=> ?_))))))
  obtain ⟨⟨Bd,wI,nP⟩,⟨a384,c385⟩⟩:=g5
  obtain ⟨hh,FW,yN,FV,FU,FQ⟩:=hg5
  try dsimp only at FW yN FV FU FQ ⊢
  obtain ⟨z2,hh,hR2⟩:=iq hh
  dsimp only [Nu]at hh
  have zf380b:=yN.len
  refine TC.know (nU (q:=1) z yN) (λ⟨_,hb389⟩=> ?_)
  refine χ (i:=2) z (λ_ hb390 _=> ?_)
  refine χ (i:=3) z (λ_ hb391 _=> ?_)
  refine χ (i:=5) z (λ_ hb392 _=> ?_)
  refine ξ (ω z (OpVal.lss z z z) (ε (θ (TC.cD z hh (λh393 hh=> ?_) (λh393 hh=> ?_)))))
  ·refine ι (S.n (θ (υ (ξ (TL.know (iq_ (q:=1) z JB KC) (λ⟨hs394,hs394b⟩=> ?_))))))
   refine ω z (bT z bY dh z z hs394 (by omega)) (ω z (OpVal.seen (ir_ (q:=1) z JB KC) (nZ (0:Int) z fC z (q:=0) z bn (by omega) z)) (ψ z z (ε (ξ (Ξ z z (ψ z z ?_))))))
   obtain ⟨N8,hh⟩:=aP hh
   refine TL.isSl (i:=5) z (λhs395 _ _=> ?_)
   refine ω z (OpVal.index z g_ gV z z hs395 N8.1 N8.2) (ω z (nZ false z nX z (q:=5) z iQ (by omega) z) (ω z (OpVal.not z z) (ε (TC.cB z hh (λh396 hh=> ?_) (λh396 hh=> ?_)))))
   ·refine η (Ξ z z (ψ z z (Ξ z z (ψ z z (ν z (OpOk.lit (enc:=aF) [(nth (nth cZ ((nth dK 0 0).toNat) []) nP 0)] z bY dh lq z z z bn (by decide) (by decide) (0:Int) z (by decide) z (by decide) jR (λa397 c398=> ?_)))))))
    refine ζ 5 z z ?_
    obtain ⟨u163,hh⟩:=aP hh
    refine ν z (cn_ z z bY dh uJ lq z z (by decide) z bn z z (.inr ⟨_,0,z⟩) (by simpa using u163) (by decide) (by simp) (λa400 c401=> ?_))
    refine Ξ z z ?_
    obtain ⟨u165,hh⟩:=aP hh
    refine TL.isSl (i:=6) z (λhs402 _ _=> ?_)
    refine ω z (OpVal.index z g_ gV z z hs402 u165.1 u165.2) (ζ 6 z z ?_)
    have hn403:(wI.set ((nth (nth cZ ((nth dK 0 0).toNat) []) nP 0).toNat) true).length=(replicate x0.next.length false).length:=by rw [fQ];exact FQ
    refine ν z (lF true z gV z z z z iQ qQ (by omega) (by omega) ?_)
    refine TL.nil (B.n (S.n (η ?_)))
    obtain ⟨u167,hh⟩:=aP hh
    refine ω z (OpVal.succ z z z (by omega)) (ψ z z (ε ?_))
    obtain ⟨hh,WQ⟩:=dL hR2 hh
    exact lf (((Bd++[(nth (nth cZ ((nth dK 0 0).toNat) []) nP 0)]),(wI.set ((nth (nth cZ ((nth dK 0 0).toNat) []) nP 0).toNat) true),(nP+1)),(a400,c401)) WQ ⟨hh,FW,yN,FV,FU,hn403⟩ (Θ [1,6,6,6,6] 6)
   refine ι (B.n (S.n (η ?_)))
   obtain ⟨u167,hh⟩:=aP hh
   refine ω z (OpVal.succ z z z (by omega)) (ψ z z (ε ?_))
   obtain ⟨hh,WO⟩:=dL hR2 hh
   exact lf ((Bd,wI,(nP+1)),(a384,c385)) WO ⟨hh,FW,yN,FV,FU,FQ⟩ (Θ [5,5,5,5,5,5] 6)
  refine TC.exit (S.x (S.x ?_))
  replace hh:=dI hR2 hh
  refine Δ (B.n (S.n ?_))
  obtain ⟨hh,WM⟩:=dL hR1 hh
  exact lf (((kJ.set ((nth dK 0 0).toNat) qB),(kH.set ((nth dK 0 0).toNat) true),Bd,wI),(a384,c385)) WM ⟨hh,FW,yN,FV,FU,FQ⟩ (Θ [5,5,5,5,5,5] 6)
 refine TC.exit (S.x (S.x ?_))
 replace hh:=dI hR1 hh
 refine Δ (S.n (ξ (Ξ z z (Ξ z z (Ξ z z (Ξ z z (ε ?_)))))))
 rw [show Value.slice qp ((replicate x0.next.length ([]:T_1)).length) qm=Value.slice qp kJ.length qm from by rw [wV]]
 rw [show Value.slice tu ((replicate x0.next.length false).length) sZ=Value.slice tu kH.length sZ from by rw [wU]]
 refine TC.front 2 z z (TC.og bF (λτ409 hle408 FB=> ?_))
 have hr407b:=FB.rv.big
 refine TC.front 2 z z (TC.og iQ (λτ412 X7 TN=> ?_))
 replace FB:=FB.mono X7
 have hr410b:=TN.rv.big
 refine TC.rt 0 ?_
 obtain rfl:=so hh
 exact rq [2,3] ⟨qp,qm,tu,sZ,z,FB,TN,z⟩
def Ev_(x0:Seq):Option (aB×B_1×Int):=
 bnd (Qh x0) (λv6=>aQ (decide (v6≠0)) (some (([]:aB),([]:B_1),1)) (bnd (Ed_ x0) (λv12=>some (v12.1,v12.2,0))))
def Hx_(σ:aj)(r:aB×B_1×Int):Value->aj->List Res->Prop:=λv σ' H'=>
 ∃a1 c1 a2 c2,v= .tuple #[.slice a1 r.1.length c1,.slice a2 r.2.1.length c2,.int .i64 r.2.2]/\dH σ' aI a1 c1 r.1/\dH σ' eq_ a2 c2 r.2.1/\H'=[]
theorem He_{σ:aj}{x0:Seq}(au:RZ σ (aC 1 aF bn) (.slice aN x0.next.length aK) x0.next)(aV:RZ σ (aC 1 aI bF) (.slice aA x0.outs.length aY) x0.outs)(aS:dH σ eq_ aW ay x0.fin)(aO:dH σ aI bI bD x0.tail){r:aB×B_1×Int}(hh:Ev_ x0=some r):
  Con prog 32 #[.agg (qF x0 aN aK aA aY aW ay bI bD)] σ [] (Hx_ σ r):=by
 dsimp only [Ev_]at hh
 have f0_0b:=au.big
 have f0_1b:=aV.big
 have f0_2b:=aS.rv.big
 have f0_3b:=aO.rv.big
 refine Con.mk (n:=17) Tryz.func32 z z z (λw0=> ?_)
 refine ξ (ν z (boxA z z z z (λbG=> ?_)))
 refine Ξ z z (Ξ z z (ψ z z (ε (θ (ξ (ω z (lG z jw fB z (i:=0) z z) ?_))))))
 obtain ⟨v6,u6,hh⟩:=dJ hh
 refine ν z (kD (Ez_ (x0:=x0) au aV aS aO u6) z z Ot z z z ?_)
 refine ω z (OpVal.neq z z z) (ε (TC.cD z hh (λgG hh=> ?_) (λgG hh=> ?_)))
 ·refine ξ (Ξ z z (Ξ z z (ψ z z (ε (TC.rt 0 (S.r ?_))))))
  obtain rfl:=so hh
  exact rq [2,3,4] ⟨none,0,none,0,z,(RS.nilF _ aI bF),(RS.nilF _ eq_ iQ),z⟩
 refine ι (S.n (ξ (ω z (lG z jw fB z (i:=0) z z) ?_)))
 obtain ⟨v12,u12,hh⟩:=dJ hh
 refine ν z (OpOk.call (F9_ (x0:=x0) au aV aS aO u12) z z pf70 z z z z ?_)
 rintro _ τ104 _ oz ⟨a104_1,c104_1,a104_2,c104_2,rfl,hr104_0,hr104_1,rfl⟩
 have hr104_0b:=hr104_0.rv.big
 have hr104_1b:=hr104_1.rv.big
 refine ω z (vS (.inl z) z) (ω z (OpVal.extract z z z) (ω z (OpVal.extract z z z) (Ξ z z (Ξ z z (ε (ξ (Ξ z z (Ξ z z (Ξ z z (Ξ z z (ψ z z (ε (TC.rt 0 ?_)))))))))))))
 obtain rfl:=so hh
 exact rq [2,3,4] ⟨a104_1,c104_1,a104_2,c104_2,z,hr104_0,hr104_1,z⟩
def Nv(x0:Seq)(jM:ak)(dV:B_1)(yF:ak)(mX:Nat):Option ((B_1×ak×Nat)⊕((B_1×ak)⊕(B_1))):=
 aQ (decide ((mX:Int)<(((nth x0.next ((nth jM 0 0).toNat) []).length:Nat):Int))) (aQ (decide (0<=(nth (nth x0.next ((nth jM 0 0).toNat) []) mX 0))) (grd (0<=(nth (nth x0.next ((nth jM 0 0).toNat) []) mX 0)/\(nth (nth x0.next ((nth jM 0 0).toNat) []) mX 0)<(dV.length:Int)) (aQ (!(nth dV ((nth (nth x0.next ((nth jM 0 0).toNat) []) mX 0).toNat) false)) (grd (0<=(nth (nth x0.next ((nth jM 0 0).toNat) []) mX 0)/\(nth (nth x0.next ((nth jM 0 0).toNat) []) mX 0)<(dV.length:Int)) (grd ((yF.length+[(nth (nth x0.next ((nth jM 0 0).toNat) []) mX 0)].length) * 8<=140737488355328) (nxt ((dV.set ((nth (nth x0.next ((nth jM 0 0).toNat) []) mX 0).toNat) true),(yF++[(nth (nth x0.next ((nth jM 0 0).toNat) []) mX 0)]),(mX+1))))) (nxt (dV,yF,(mX+1))))) (nxt (dV,yF,(mX+1)))) (fin (nxt (dV,yF)))
def Vp(x0:Seq)(gY:B_1)(jM:ak):Option ((B_1×ak)⊕(B_1)):=
 aQ (decide (0<((jM.length:Nat):Int))) (grd (0<jM.length/\1<=jM.length) (grd (0<=(nth jM 0 0)/\(nth jM 0 0)<(x0.next.length:Int)) (bC (λq:B_1×ak×Nat=>Nv x0 jM q.1 q.2.1 q.2.2) (gY,(jM.drop 1),0)))) (fin (some gY))
def Ej_(x0:Seq):Option (B_1):=
 grd (1 * x0.next.length<=281474976710656) (aQ (decide ((((replicate x0.next.length false).length:Nat):Int)=0)) (some (replicate x0.next.length false)) (grd (0<(replicate x0.next.length false).length) (bC (λq:B_1×ak=>Vp x0 q.1 q.2) (((replicate x0.next.length false).set 0 true),[0]))))
def Hq_(σ:aj)(r:B_1):Value->aj->List Res->Prop:=λv σ' H'=>
 ∃a1 c1,v= .slice a1 r.length c1/\σ=σ'/\H'=[dR 4 eq_ a1 c1 r]
theorem Hd_{σ:aj}{x0:Seq}(au:RZ σ (aC 1 aF bn) (.slice aN x0.next.length aK) x0.next)(aV:RZ σ (aC 1 aI bF) (.slice aA x0.outs.length aY) x0.outs)(aS:dH σ eq_ aW ay x0.fin)(aO:dH σ aI bI bD x0.tail){r:B_1}(hh:Ej_ x0=some r):
  Con prog 72 #[.agg (qF x0 aN aK aA aY aW ay bI bD)] σ [] (Hq_ σ r):=by
 dsimp only [Ej_]at hh
 have f0_0b:=au.big
 have f0_1b:=aV.big
 have f0_2b:=aS.rv.big
 have f0_3b:=aO.rv.big
 refine Con.mk (n:=55) Tryz.func72 z z z (λw0=> ?_)
 refine ξ (ν z (boxA z z z z (λbG=> ?_)))
 refine Ξ z z (ε (ξ (ω z (aU z kW z) (ω z (bg z j_ z (i:=0) z z) (ω z (lenC z eX z) ?_)))))
 obtain ⟨u6,hh⟩:=aP hh
 refine ν z (oW (enc:=eq_) false z g_ gV GV Ap z z z z (by omega) (by decide) iQ (by decide) z qQ (λjD jC=> ?_))
 refine Ξ z z (ε (θ (ξ (Ξ z z (ω z (lenC z g_ z) (ω z (OpVal.eql z z z) (ε (TC.cD z hh (λdW hh=> ?_) (λdW hh=> ?_)))))))))
 ·refine ξ (Ξ z z (Ξ z z (ε (TC.rt 1 (S.r ?_)))))
  obtain rfl:=so hh
  exact ro [dR 4 eq_ jD jC (replicate x0.next.length false)] z (RVs.tmp z RVs.nil) ⟨jD,jC,z,z,z⟩
 refine ι (S.n (ξ (ν z (OpOk.lit (enc:=aF) [0] z bY dh lq z z z bn (by decide) (by decide) (0:Int) z (by decide) z (by decide) jR (λa107 xX=> ?_)))))
 refine Ξ z z (ε (ξ (Ξ z z ?_)))
 obtain ⟨u16,hh⟩:=aP hh
 refine TL.isSl (i:=1) z (λBA _ _=> ?_)
 refine ω z (bT (i:=0) z g_ gV z z BA (by omega)) (ζ 1 z z ?_)
 have sU:((replicate x0.next.length false).set 0 true).length=(replicate x0.next.length false).length:=by rw [fQ]
 refine ν z (lF true z gV z z z z iQ qQ (by omega) (by omega) ?_)
 refine ε (θ (υ (TC.front 1 z z (TC.c0_ (TC.iE (α:=(B_1×ak)×((Option Addr)×Nat)) (rgs [(4,2),(7,1),(19,35)]) (λg=>[(4,.slice g.2.1 g.1.2.length g.2.2)]) (λg=>[jh bG x0 aN aK aA aY aW ay bI bD,φ 4 1 eq_ (.slice jD (replicate x0.next.length false).length jC) g.1.1,Res.queS 3 1 aF (.slice g.2.1 g.1.2.length g.2.2) g.1.2]) (λg=>σ) (λg=>bC (λq:B_1×ak=>Vp x0 q.1 q.2) g.1=some r/\g.1.1.length=(replicate x0.next.length false).length) (λg=>fZ (λq:B_1×ak=>Vp x0 q.1 q.2) g.1) ((((replicate x0.next.length false).set 0 true),[0]),(a107,xX)) (Θ [1,2] 3) z (by repeat (first|exact trivial|refine ⟨z,?_⟩)) ⟨hh,sU⟩ (λg1 j1 hg1=> ?_))))))
 obtain ⟨⟨gY,jM⟩,⟨a126,c127⟩⟩:=g1
 obtain ⟨hh,BZ⟩:=hg1
 try dsimp only at BZ ⊢
 obtain ⟨z1,hh,hR1⟩:=iq hh
 dsimp only [Vp]at hh
 refine χ (i:=1) z (λ_ Dc _=> ?_)
 refine θ (ξ (Ξ z z (ω z (lenC z bY z) (ω z (OpVal.gtr z z z) (ε (TC.cD z hh (λrJ hh=> ?_) (λrJ hh=> ?_)))))))
 ·refine ι (S.n (υ (ξ (Ξ z z (TL.know (tu_ (q:=2) z) (λ⟨wP,hs130b⟩=> ?_))))))
  refine ω z (bT (i:=0) z bY dh z z wP (by omega)) (ω z (c8_ (0:Int) z fC z (q:=2) z bn (by omega) z) (ψ z z (ε (ξ (Ξ z z (ζ 2 z z ?_))))))
  obtain ⟨u26,hh⟩:=aP hh
  refine ν z (popQ (i:=1) z bY dh z z z z (by omega) (by omega) (λa131 c132=> ?_))
  refine Ξ z z (ε (ξ (ω z (aU z kW z) (ω z (bg z j_ z (i:=1) z z) (ψ z z ?_)))))
  obtain ⟨u31,hh⟩:=aP hh
  refine ω z (OpVal.index z eX fP z z au.isSl u31.1 u31.2) ?_
  obtain ⟨OM,CU,hg133⟩:=RZ.seg au ((nth jM 0 0).toNat) (by omega)
  replace CU:dH _ aF OM.1 OM.2 (nth x0.next ((nth jM 0 0).toNat) []):=CU
  have hk133b:=CU.rv.big
  refine ω z (OpVal.of (lZ z hs_ z hg133 z) (v':= .slice OM.1 ((nth x0.next ((nth jM 0 0).toNat) []).length) OM.2) z) (ω z (lenC z bY z) (ψ z z (ε (υ (TC.iE (α:=(B_1×ak×Nat)×((Option Addr)×Nat)) (rgs [(4,1),(7,1),(33,21)]) (λg=>[(4,.slice g.2.1 g.1.2.1.length g.2.2),(33,.int .i64 ((g.1.2.2:Nat):Int))]) (λg=>[jh bG x0 aN aK aA aY aW ay bI bD,φ 4 1 eq_ (.slice jD (replicate x0.next.length false).length jC) g.1.1,Res.queS 3 1 aF (.slice g.2.1 g.1.2.1.length g.2.2) g.1.2.1]) (λg=>σ) (λg=>bC (λq:B_1×ak×Nat=>Nv x0 jM q.1 q.2.1 q.2.2) g.1=some z1/\g.1.1.length=(replicate x0.next.length false).length) (λg=>fZ (λq:B_1×ak×Nat=>Nv x0 jM q.1 q.2.1 q.2.2) g.1) ((gY,(jM.drop 1),0),(a131,c132)) (Θ [2,2] 3) z (by repeat (first|exact trivial|refine ⟨z,?_⟩)) ⟨hh,BZ⟩ (λg2 j2 hg2=> ?_))))))
  obtain ⟨⟨dV,yF,mX⟩,⟨Zl,YQ⟩⟩:=g2
  obtain ⟨hh,BN⟩:=hg2
  try dsimp only at BN ⊢
  obtain ⟨z2,hh,hR2⟩:=iq hh
  dsimp only [Nv]at hh
  refine χ (i:=1) z (λ_ U1 _=> ?_)
  refine ξ (ω z (OpVal.lss z z z) (ε (θ (TC.cD z hh (λYB hh=> ?_) (λYB hh=> ?_)))))
  ·refine ι (S.n (θ (υ (ξ (ω z (bT z bY dh z z CU.rv.sl (by omega)) (ω z (fD (0:Int) z fC z CU (by omega) z) (ψ z z (ε (ξ (ψ z z (ω z (OpVal.geq z z z) (TL.j z z (TL.split 39 z (λEz=> ?_) (λEz=> ?_))))))))))))))
   ·replace hh:=ig Ez hh
    replace Ez:=jk Ez
    refine Ψ z (gK (.inl z) z) (Ψ z (cO (.inl z) z) ?_)
    obtain ⟨u44,hh⟩:=aP hh
    refine TL.isSl (i:=1) z (λhs156 _ _=> ?_)
    refine Ψ z (OpVal.index z g_ gV z z hs156 u44.1 u44.2) (Ψ z (nZ false z nX z (q:=1) z iQ (by omega) z) (Ψ z (OpVal.not z z) (ω z (dQ z z z) (ε (TC.cB z hh (λYA hh=> ?_) (λYA hh=> ?_))))))
    ·refine ξ (Ξ z z (ψ z z ?_))
     obtain ⟨N7,hh⟩:=aP hh
     refine TL.isSl (i:=1) z (λJK _ _=> ?_)
     refine ω z (OpVal.index z g_ gV z z JK N7.1 N7.2) (ζ 1 z z ?_)
     have BM:(dV.set ((nth (nth x0.next ((nth jM 0 0).toNat) []) mX 0).toNat) true).length=(replicate x0.next.length false).length:=by rw [fQ];exact BN
     refine ν z (lF true z gV z z z z iQ qQ (by omega) (by omega) ?_)
     refine ε (η (Ξ z z (ψ z z (ν z (OpOk.lit (enc:=aF) [(nth (nth x0.next ((nth jM 0 0).toNat) []) mX 0)] z bY dh lq z z z bn (by decide) (by decide) (0:Int) z (by decide) z (by decide) jR (λa160 c161=> ?_))))))
     refine ζ 3 z z ?_
     obtain ⟨u55,hh⟩:=aP hh
     refine ν z (cn_ z z bY dh uJ lq z z (by decide) z bn z z (.inr ⟨_,0,z⟩) (by simpa using u55) (by decide) (by simp) (λZj c164=> ?_))
     refine Ξ z z (TL.nil (B.n (S.n (η (ω z (OpVal.succ z z z (by omega)) (ψ z z (ε ?_)))))))
     obtain ⟨hh,wZ⟩:=dL hR2 hh
     exact lf (((dV.set ((nth (nth x0.next ((nth jM 0 0).toNat) []) mX 0).toNat) true),(yF++[(nth (nth x0.next ((nth jM 0 0).toNat) []) mX 0)]),(mX+1)),(Zj,c164)) wZ ⟨hh,BM⟩ (Θ [2,3] 3)
    refine ι (B.n (S.n (η (ω z (OpVal.succ z z z (by omega)) (ψ z z (ε ?_))))))
    obtain ⟨hh,XK⟩:=dL hR2 hh
    exact lf ((dV,yF,(mX+1)),(Zl,YQ)) XK ⟨hh,BN⟩ (Θ [2,2,2] 3)
   replace hh:=iw Ez hh
   replace Ez:=jy Ez
   refine π z (π z (π z (π z (π z (ω z (dU z z z) (ε (TC.f z (ι (B.n (S.n (η (ω z (OpVal.succ z z z (by omega)) (ψ z z (ε ?_))))))))))))))
   obtain ⟨hh,XJ⟩:=dL hR2 hh
   exact lf ((dV,yF,(mX+1)),(Zl,YQ)) XJ ⟨hh,BN⟩ (Θ [2,2,2] 3)
  refine TC.exit (S.x (S.x ?_))
  replace hh:=dI hR2 hh
  refine Δ (B.n (S.n ?_))
  obtain ⟨hh,XI⟩:=dL hR1 hh
  exact lf ((dV,yF),(Zl,YQ)) XI ⟨hh,BN⟩ (Θ [2,2,2] 3)
 refine TC.exit (S.x (S.x ?_))
 replace hh:=dI hR1 hh
 refine Δ (S.n (ξ (Ξ z z (Ξ z z (ε ?_)))))
 rw [<-BZ]
 refine TC.qR (Θ [1] 1) (TC.ret ?_)
 obtain rfl:=so hh
 exact ro [dR 4 eq_ jD jC gY] z (RVs.tmp z RVs.nil) ⟨jD,jC,z,z,z⟩
def Nr(x0:Seq)(x1:Int)(x3:ak)(x2:aB)(gq:ak)(dA:aB)(bU:Nat):Option ((ak×aB×Nat)⊕(ak×aB×Bool)):=
 aQ (decide ((bU:Int)<(((nth x0.next x1.toNat []).length:Nat):Int))) (grd (bU<gq.length) (aQ (decide ((nth (nth x0.next x1.toNat []) bU 0)<0)) (nxt ((gq.set bU (-1)),dA,(bU+1))) (grd (0<=(nth (nth x0.next x1.toNat []) bU 0)/\(nth (nth x0.next x1.toNat []) bU 0)<(x3.length:Int)) (aQ (decide ((nth x3 ((nth (nth x0.next x1.toNat []) bU 0).toNat) 0)<0)) (nxt ((gq.set bU (-1)),dA,(bU+1))) (grd (0<=(nth (nth x0.next x1.toNat []) bU 0)/\(nth (nth x0.next x1.toNat []) bU 0)<(x3.length:Int)) (grd (bU<(gq.set bU (-1)).length) (grd (0<=x1/\x1<(x0.outs.length:Int)) (grd (bU<(nth x0.outs x1.toNat []).length) (grd (0<=(nth (nth x0.next x1.toNat []) bU 0)/\(nth (nth x0.next x1.toNat []) bU 0)<(x2.length:Int)) (grd (0<=x1/\x1<(x2.length:Int)) (aQ (decide (4096<(IntKind.i64.wrap ((IntKind.i64.wrap ((((nth (nth x0.outs x1.toNat []) bU []).length:Nat):Int)+(((nth x2 ((nth (nth x0.next x1.toNat []) bU 0).toNat) []).length:Nat):Int))) - (((nth x2 x1.toNat []).length:Nat):Int))))) (fin (some (([]:ak),([]:aB),false))) (grd (0<=x1/\x1<(x0.outs.length:Int)) (grd (bU<(nth x0.outs x1.toNat []).length) (grd (0<=(nth (nth x0.next x1.toNat []) bU 0)/\(nth (nth x0.next x1.toNat []) bU 0)<(x2.length:Int)) (grd ((nth (nth x0.outs x1.toNat []) bU []).length+(nth x2 ((nth (nth x0.next x1.toNat []) bU 0).toNat) []).length<=9223372036854775807) (grd (0<=x1/\x1<(x2.length:Int)) (grd ((nth x2 x1.toNat []).length<=((nth (nth x0.outs x1.toNat []) bU [])++(nth x2 ((nth (nth x0.next x1.toNat []) bU 0).toNat) [])).length/\((nth (nth x0.outs x1.toNat []) bU [])++(nth x2 ((nth (nth x0.next x1.toNat []) bU 0).toNat) [])).length<=((nth (nth x0.outs x1.toNat []) bU [])++(nth x2 ((nth (nth x0.next x1.toNat []) bU 0).toNat) [])).length) (grd (bU<dA.length) (nxt (((gq.set bU (-1)).set bU (nth x3 ((nth (nth x0.next x1.toNat []) bU 0).toNat) 0)),(dA.set bU (((nth (nth x0.outs x1.toNat []) bU [])++(nth x2 ((nth (nth x0.next x1.toNat []) bU 0).toNat) [])).drop ((nth x2 x1.toNat []).length))),(bU+1))))))))))))))))))))) (fin (some (gq,dA,true)))
def Eq_(x1:Int)(x0:Seq)(x3:ak)(x2:aB):Option (ak×aB×Bool):=
 grd (0<=x1/\x1<(x0.next.length:Int)) (bC (λq:ak×aB×Nat=>Nr x0 x1 x3 x2 q.1 q.2.1 q.2.2) ((replicate 256 (0:Int)),(replicate 256 ([]:T_1)),0))
def Ex_(x0:Seq)(x1:Int)(x2:aB)(x3:ak):Option (ak×aB×Bool):=
 Eq_ x1 x0 x3 x2
def Hw_(σ:aj)(r:ak×aB×Bool):Value->aj->List Res->Prop:=λv σ' H'=>
 ∃a1 c1 a2 c2,v= .tuple #[.slice a1 r.1.length c1,.slice a2 r.2.1.length c2,.bool r.2.2]/\dH σ' aF a1 c1 r.1/\dH σ' aI a2 c2 r.2.1/\H'=[]
theorem Hh_{σ:aj}{x0:Seq}{x1:Int}{x2:aB}{x3:ak}(au:RZ σ (aC 1 aF bn) (.slice aN x0.next.length aK) x0.next)(aV:RZ σ (aC 1 aI bF) (.slice aA x0.outs.length aY) x0.outs)(aS:dH σ eq_ aW ay x0.fin)(aO:dH σ aI bI bD x0.tail)(uG:dH σ aI P7 PD x2)(Ag:dH σ aF P6 Pz x3){r:ak×aB×Bool}(hh:Ex_ x0 x1 x2 x3=some r):
  Con prog 73 #[.agg (qF x0 aN aK aA aY aW ay bI bD),.int .i64 x1,.slice P7 x2.length PD,.slice P6 x3.length Pz] σ [] (Hw_ σ r):=by
 dsimp only [Ex_]at hh
 have f0_0b:=au.big
 have f0_1b:=aV.big
 have f0_2b:=aS.rv.big
 have f0_3b:=aO.rv.big
 have f2_0b:=uG.rv.big
 have f3_0b:=Ag.rv.big
 refine Con.mk (n:=94) Tryz.func73 z z z (λw0=> ?_)
 refine ξ (ν z (boxA z z z z (λbG=> ?_)))
 refine Ξ z z (Ξ z z (TL.j z z (ε (TC.cutG (α:=(Unit)×((Option Addr)×Nat×(Option Addr)×Nat)) [11,12,15,16] (λg=>[(11,.slice g.2.1 ((replicate 256 (0:Int)).length) g.2.2.1),(12,.slice g.2.2.2.1 ((replicate 256 ([]:T_1)).length) g.2.2.2.2)]) (λg=>[jh bG x0 aN aK aA aY aW ay bI bD,φ 3 1 aF (.slice g.2.1 (replicate 256 (0:Int)).length g.2.2.1) (replicate 256 (0:Int)),φ 9 1 aI (.slice g.2.2.2.1 (replicate 256 ([]:T_1)).length g.2.2.2.2) (replicate 256 ([]:T_1))]) (λg=>σ) (λg=>Eq_ x1 x0 x3 x2=some r) ?_ (λg j hg=> ?_)))))
 ·skip
  refine TC.draw [] (by kernel_rfl) (TA.actN [0,1] (by kernel_rfl) (an z z (oW (m:=256) (enc:=aF) (0:Int) z bY dh uJ lq z z z z (by omega) (by decide) bn (by decide) z jR (λAk c116=>(k1 ?_))) (an z z (oW (m:=256) (enc:=aI) ([]:T_1) z fF fK zo sG z z z z (by omega) (by decide) bF (by decide) z qX (λqG c119=>(k1 ?_))) (True.intro))))
  ·skip
   refine TA.a 2 z (gK (.inr z) z) z (TA.ac 1 z (oW (m:=256) (enc:=aI) ([]:T_1) z fF fK zo sG z z z z (by omega) (by decide) bF (by decide) z qX (λa121 c122=>(k2 ?_))))
   exact TA.a 3 z (gK (.inr z) z) z (TA.dn (S.n (cf ((),(Ak,c116,a121,c122)) hh (Θ [1,2] 3))))
  skip
  refine TA.ac 0 z (oW (m:=256) (enc:=aF) (0:Int) z bY dh uJ lq z z z z (by omega) (by decide) bn (by decide) z jR (λa124 Ah=>(k2 ?_)))
  exact TA.a 2 z (gK (.inr z) z) z (TA.a 3 z (gK (.inr z) z) z (TA.dn (S.n (cf ((),(a124,Ah,qG,c119)) hh (Θ [1,1,2] 3)))))
 skip
 obtain ⟨_,⟨Am,c105,a107,xX⟩⟩:=g
 have hh:=hg;clear hg
 try dsimp only
 dsimp only [Eq_]at hh
 refine χ (i:=1) z (λ_ GK _=> ?_)
 refine χ (i:=2) z (λ_ Dc _=> ?_)
 refine θ (ξ (ω z (aU z kW z) (ω z (bg z j_ z (i:=0) z z) (ψ z z ?_))))
 obtain ⟨u12,hh⟩:=aP hh
 refine ω z (OpVal.index z eX fP z z au.isSl u12.1 u12.2) ?_
 obtain ⟨OO,CV,hg129⟩:=RZ.seg au x1.toNat (by omega)
 replace CV:dH _ aF OO.1 OO.2 (nth x0.next x1.toNat []):=CV
 have hk129b:=CV.rv.big
 refine ω z (OpVal.of (lZ z hs_ z hg129 z) (v':= .slice OO.1 ((nth x0.next x1.toNat []).length) OO.2) z) (ω z (lenC z bY z) (ψ z z (ε (υ (TC.iE (α:=(ak×aB×Nat)×(Unit)) (rgs [(8,3),(13,2),(23,69)]) (λg=>[(23,.int .i64 ((g.1.2.2:Nat):Int))]) (λg=>[jh bG x0 aN aK aA aY aW ay bI bD,φ 3 1 aF (.slice Am (replicate 256 (0:Int)).length c105) g.1.1,φ 9 1 aI (.slice a107 (replicate 256 ([]:T_1)).length xX) g.1.2.1]) (λg=>σ) (λg=>bC (λq:ak×aB×Nat=>Nr x0 x1 x3 x2 q.1 q.2.1 q.2.2) g.1=some r/\g.1.1.length=(replicate 256 (0:Int)).length/\g.1.2.1.length=(replicate 256 ([]:T_1)).length) (λg=>fZ (λq:ak×aB×Nat=>Nr x0 x1 x3 x2 q.1 q.2.1 q.2.2) g.1) (((replicate 256 (0:Int)),(replicate 256 ([]:T_1)),0),()) (Θ [2,2,2] 3) z (by repeat (first|exact trivial|refine ⟨z,?_⟩)) ⟨hh,z,z⟩ (λg1 j1 hg1=> ?_))))))
 obtain ⟨⟨gq,dA,bU⟩,_⟩:=g1
 obtain ⟨hh,Kt,mO⟩:=hg1
 try dsimp only at Kt mO ⊢
 obtain ⟨z1,hh,hR1⟩:=iq hh
 dsimp only [Nr]at hh
 refine χ (i:=1) z (λ_ C_ _=> ?_)
 refine χ (i:=2) z (λ_ hb146 _=> ?_)
 refine ξ (ω z (OpVal.lss z z z) (ε (θ (TC.cD z hh (λh147 hh=> ?_) (λh147 hh=> ?_)))))
 ·refine ι (S.n (θ (υ (ξ (ψ z z (ω z (bT z bY dh z z CV.rv.sl (by omega)) (ω z (fD (0:Int) z fC z CV (by omega) z) (ψ z z (ψ z z (ε (ξ (Ξ z z (ψ z z ?_)))))))))))))
  obtain ⟨u24,hh⟩:=aP hh
  refine TL.isSl (i:=1) z (λJO _ _=> ?_)
  refine ω z (bT z bY dh z z JO (by omega)) (ζ 1 z z ?_)
  have zf:(gq.set bU (-1)).length=(replicate 256 (0:Int)).length:=by rw [fQ];exact Kt
  refine ν z (lF (-1) z dh z z z z bn jR (by omega) (by omega) ?_)
  refine ε (θ (ξ (ψ z z (ω z (OpVal.lss z z z) (TL.j z z (TL.split 33 z (λuy=> ?_) (λuy=> ?_)))))))
  ·replace hh:=ig uy hh
   replace uy:=jk uy
   refine π z (π z (π z (π z (π z (ω z (dQ z z z) (ε (TC.t z (TC.exit (S.x (Δ (S.n (η (ω z (OpVal.succ z z z (by omega)) (ψ z z (ε ?_)))))))))))))))
   obtain ⟨hh,XQ⟩:=dL hR1 hh
   exact lf (((gq.set bU (-1)),dA,(bU+1)),()) XQ ⟨hh,zf,mO⟩ (Θ [2,1,2] 3)
  replace hh:=iw uy hh
  replace uy:=jy uy
  refine Ψ z (gK (.inl z) z) (Ψ z (cO (.inl z) z) ?_)
  obtain ⟨u31,hh⟩:=aP hh
  refine Ψ z (OpVal.index z bY dh z z Ag.rv.sl u31.1 u31.2) (Ψ z (fD (0:Int) z fC z Ag (by omega) z) (Ψ z (OpVal.lss z z z) (ω z (dU z z z) (ε (TC.cD z hh (λh152 hh=> ?_) (λh152 hh=> ?_))))))
  ·refine TC.exit (S.x (Δ (S.n (η (ω z (OpVal.succ z z z (by omega)) (ψ z z (ε ?_)))))))
   obtain ⟨hh,XP⟩:=dL hR1 hh
   exact lf (((gq.set bU (-1)),dA,(bU+1)),()) XP ⟨hh,zf,mO⟩ (Θ [2,1,2] 3)
  refine ι (S.n (ξ (Ξ z z (ψ z z (Ξ z z (ψ z z ?_))))))
  obtain ⟨u39,hh⟩:=aP hh
  refine ω z (OpVal.index z bY dh z z Ag.rv.sl u39.1 u39.2) (ω z (fD (0:Int) z fC z Ag (by omega) z) ?_)
  obtain ⟨MS,hh⟩:=aP hh
  refine TL.isSl (i:=0) z (λJL _ _=> ?_)
  refine ω z (bT z bY dh z z JL (by omega)) ?_
  have Kr:((gq.set bU (-1)).set bU (nth x3 ((nth (nth x0.next x1.toNat []) bU 0).toNat) 0)).length=(replicate 256 (0:Int)).length:=by rw [fQ];exact zf
  refine ν z (lF (nth x3 ((nth (nth x0.next x1.toNat []) bU 0).toNat) 0) z dh z z z z bn jR (by omega) (by omega) ?_)
  refine ε (θ (θ ?_))
  obtain ⟨u46,hh⟩:=aP hh
  obtain ⟨u49,hh⟩:=aP hh
  obtain ⟨Jj,hh⟩:=aP hh
  obtain ⟨u60,hh⟩:=aP hh
  refine TC.draw [] (by kernel_rfl) (TA.a 0 z (aU z o_ z) z (TA.b 1 z (bg z qx z (i:=1) z z) z (TA.a 2 z (cO (.inl z) z) z (TA.b 3 z (OpVal.index z mY nC z z aV.isSl u46.1 u46.2) z ?_))))
  obtain ⟨sH,kX,hg157⟩:=RZ.seg aV x1.toNat (by omega)
  replace kX:dH _ aI sH.1 sH.2 (nth x0.outs x1.toNat []):=kX
  have hk157b:=kX.rv.big
  refine TA.b 4 z (OpVal.of (lZ z mJ z hg157 z) (v':= .slice sH.1 ((nth x0.outs x1.toNat []).length) sH.2) z) z (TA.a 5 z (cO (.inl z) z) z (TA.b 6 z (bT z fF fK z z kX.rv.sl (by omega)) z (TA.b 7 z (fD ([]:T_1) z iK z kX (by omega) z) z (TA.b 8 z (rQ z kG z) z (TA.a 9 z (gK (.inl z) z) z (TA.a 10 z (cO (.inl z) z) z (TA.b 11 z (OpVal.index z fF fK z z uG.rv.sl Jj.1 Jj.2) z (TA.b 12 z (fD ([]:T_1) z iK z uG (by omega) z) z (TA.b 13 z (rQ z kG z) z (TA.a 14 z (addW z z z) z (TA.a 15 z (gK (.inl z) z) z (TA.a 16 z (cO (.inl z) z) z (TA.b 17 z (OpVal.index z fF fK z z uG.rv.sl u60.1 u60.2) z (TA.b 18 z (fD ([]:T_1) z iK z uG (by omega) z) z (TA.b 19 z (rQ z kG z) z ?_)))))))))))))))
  refine TA.a 20 z (subW z z z) z (TA.a 21 z (OpVal.gtr z z z) z (TA.dn (S.n (TC.cD z hh (λh158 hh=> ?_) (λh158 hh=> ?_)))))
  ·refine ξ (Ξ z z (Ξ z z (TL.j z z (ε (TC.rt 0 (S.r (B.r (S.r (S.r ?_)))))))))
   replace hh:=dI hR1 hh
   refine B.r (S.r ?_)
   obtain rfl:=so hh
   exact rq [8,9,10] ⟨none,0,none,0,z,(RS.nilF _ aF bn),(RS.nilF _ aI bF),z⟩
  refine ι (S.n ?_)
  obtain ⟨u73,hh⟩:=aP hh
  obtain ⟨MP,hh⟩:=aP hh
  obtain ⟨u80,hh⟩:=aP hh
  obtain ⟨NY,hh⟩:=aP hh
  obtain ⟨u85,hh⟩:=aP hh
  obtain ⟨u88,hh⟩:=aP hh
  obtain ⟨u89,hh⟩:=aP hh
  refine TC.draw [22] (by kernel_rfl) (TA.a 0 z (gK (.inl z) z) z (TA.a 1 z (cO (.inl z) z) z (TA.a 2 z (aU z o_ z) z (TA.b 3 z (bg z qx z (i:=1) z z) z (TA.a 4 z (cO (.inl z) z) z (TA.b 5 z (OpVal.index z mY nC z z aV.isSl u73.1 u73.2) z ?_))))))
  obtain ⟨Jv,CO,hg162⟩:=RZ.seg aV x1.toNat (by omega)
  replace CO:dH _ aI Jv.1 Jv.2 (nth x0.outs x1.toNat []):=CO
  have hk162b:=CO.rv.big
  refine TA.b 6 z (OpVal.of (lZ z mJ z hg162 z) (v':= .slice Jv.1 ((nth x0.outs x1.toNat []).length) Jv.2) z) z (TA.a 7 z (cO (.inl z) z) z (TA.b 8 z (bT z fF fK z z CO.rv.sl (by omega)) z (TA.b 9 z (fD ([]:T_1) z iK z CO (by omega) z) z (TA.a 10 z (gK (.inl z) z) z (TA.a 11 z (cO (.inl z) z) z (TA.b 12 z (OpVal.index z fF fK z z uG.rv.sl u80.1 u80.2) z (TA.b 13 z (fD ([]:T_1) z iK z uG (by omega) z) z (TA.a 14 z (PU z z z NY) z (TA.a 15 z (gK (.inl z) z) z (TA.a 16 z (cO (.inl z) z) z (TA.b 17 z (OpVal.index z fF fK z z uG.rv.sl u85.1 u85.2) z (TA.b 18 z (fD ([]:T_1) z iK z uG (by omega) z) z (TA.b 19 z (rQ z kG z) z (TA.b 20 z (bh_ (l:=((nth (nth x0.outs x1.toNat []) bU [])++(nth x2 ((nth (nth x0.next x1.toNat []) bU 0).toNat) []))) (i:=(nth x2 x1.toNat []).length) z kG z z (by omega) (by omega)) z (TA.isSl (i:=2) z (λJJ _ _=> ?_))))))))))))))))
  refine TA.b 21 z (bT z fF fK z z JJ (by omega)) z (TA.front 2 z z ?_)
  have y9:(dA.set bU (((nth (nth x0.outs x1.toNat []) bU [])++(nth x2 ((nth (nth x0.next x1.toNat []) bU 0).toNat) [])).drop ((nth x2 x1.toNat []).length))).length=(replicate 256 ([]:T_1)).length:=by rw [fQ];exact mO
  refine TA.last 22 (by kernel_rfl) z z z (lF (((nth (nth x0.outs x1.toNat []) bU [])++(nth x2 ((nth (nth x0.next x1.toNat []) bU 0).toNat) [])).drop ((nth x2 x1.toNat []).length)) z fK z z z z bF qX (by omega) (by omega) ?_)
  refine TZ.done (by kernel_rfl) (B.n (S.n (η (ω z (OpVal.succ z z z (by omega)) (ψ z z (ε ?_))))))
  obtain ⟨hh,wZ⟩:=dL hR1 hh
  exact lf ((((gq.set bU (-1)).set bU (nth x3 ((nth (nth x0.next x1.toNat []) bU 0).toNat) 0)),(dA.set bU (((nth (nth x0.outs x1.toNat []) bU [])++(nth x2 ((nth (nth x0.next x1.toNat []) bU 0).toNat) [])).drop ((nth x2 x1.toNat []).length))),(bU+1)),()) wZ ⟨hh,Kr,y9⟩ (Θ [1,2] 3)
 refine TC.exit (S.x (S.x ?_))
 replace hh:=dI hR1 hh
 refine Δ (S.n (ξ (Ξ z z (Ξ z z (Ξ z z (Ξ z z (TL.j z z (ε ?_))))))))
 rw [<-Kt]
 rw [<-mO]
 refine TC.front 1 z z (TC.og bn (λτ168 hle167 FP=> ?_))
 have hr166b:=FP.rv.big
 refine TC.front 1 z z (TC.og bF (λτ171 Yj Uf=> ?_))
 replace FP:=FP.mono Yj
 have hr169b:=Uf.rv.big
 refine TC.rt 0 ?_
 obtain rfl:=so hh
 exact rq [8,9,10] ⟨Am,c105,a107,xX,z,FP,Uf,z⟩
def D2_(iJ:bW)(v89:ak×aB×Bool)(iI:fJ)(bH:Nat)(x0:Seq)(eu:B_1)(iU:aB)(Jq:T_1):Option ((bW×fJ×B_1×aB×Nat)⊕(Seq×Int)):=
 grd ((iJ.length+[v89.1].length) * 24<=140737488355328) (grd ((iI.length+[v89.2.1].length) * 24<=140737488355328) (grd (bH<x0.fin.length) (grd ((eu.length+[(nth x0.fin bH false)].length) * 1<=140737488355328) (grd ((iU.length+[Jq].length) * 16<=140737488355328) (nxt ((iJ++[v89.1]),(iI++[v89.2.1]),(eu++[(nth x0.fin bH false)]),(iU++[Jq]),(bH+1)))))))
def MF(v11:aB×B_1)(aJ:ak)(x0:Seq)(iJ:bW)(iI:fJ)(eu:B_1)(iU:aB)(bH:Nat):Option ((bW×fJ×B_1×aB×Nat)⊕(Seq×Int)):=
 aQ (decide ((bH:Int)<(((replicate v11.2.length (0:Int)).length:Nat):Int))) (grd (bH<aJ.length) (aQ (decide ((nth aJ bH 0)<0)) (nxt (iJ,iI,eu,iU,(bH+1))) (bnd (Ex_ x0 (bH:Int) v11.1 aJ) (λv89=>aQ (!v89.2.2) (fin (some ((⟨([]:T_1),([]:bW),([]:fJ),([]:B_1),([]:aB)⟩:Seq),2))) (grd (bH<x0.fin.length) (aQ (nth x0.fin bH false) (grd (bH<x0.tail.length) (grd (bH<v11.1.length) (grd ((nth v11.1 bH []).length<=(nth x0.tail bH []).length/\(nth x0.tail bH []).length<=(nth x0.tail bH []).length) (D2_ iJ v89 iI bH x0 eu iU ((nth x0.tail bH []).drop ((nth v11.1 bH []).length)))))) (D2_ iJ v89 iI bH x0 eu iU ([]:T_1)))))))) (fin (bnd (Qh (⟨(x0.front++(nth v11.1 0 [])),iJ,iI,eu,iU⟩:Seq)) (λNW=>aQ (decide (NW≠0)) (some ((⟨([]:T_1),([]:bW),([]:fJ),([]:B_1),([]:aB)⟩:Seq),2)) (some ((⟨(x0.front++(nth v11.1 0 [])),iJ,iI,eu,iU⟩:Seq),0)))))
def Qn(v35:B_1)(v11:aB×B_1)(x0:Seq)(aJ:ak)(bP:Nat)(aX:Nat):Option ((ak×Nat×Nat)⊕(Seq×Int)):=
 aQ (decide ((aX:Int)<((v35.length:Nat):Int))) (grd (aX<aJ.length) (aQ (nth v35 aX false) (grd (aX<v11.2.length) (aQ (nth v11.2 aX false) (grd (aX<(aJ.set aX (-1)).length) (grd (bP+1<=9223372036854775807) (nxt (((aJ.set aX (-1)).set aX (bP:Int)),(bP+1),(aX+1))))) (nxt ((aJ.set aX (-1)),bP,(aX+1))))) (nxt ((aJ.set aX (-1)),bP,(aX+1))))) (fin (grd (0<v11.1.length) (grd (x0.front.length+(nth v11.1 0 []).length<=9223372036854775807) (bC (λq:bW×fJ×B_1×aB×Nat=>MF v11 aJ x0 q.1 q.2.1 q.2.2.1 q.2.2.2.1 q.2.2.2.2) (([]:bW),([]:fJ),([]:B_1),([]:aB),0)))))
def Ve(x0:Seq):Option (Seq×Int):=
 bnd (Qh x0) (λv5=>aQ (decide (v5≠0)) (some ((⟨([]:T_1),([]:bW),([]:fJ),([]:B_1),([]:aB)⟩:Seq),1)) (bnd (Ed_ x0) (λv11=>aQ (decide (((v11.2.length:Nat):Int)=0)) (some ((⟨([]:T_1),([]:bW),([]:fJ),([]:B_1),([]:aB)⟩:Seq),0)) (grd (0<v11.2.length) (aQ (!(nth v11.2 0 false)) (some ((⟨([]:T_1),([]:bW),([]:fJ),([]:B_1),([]:aB)⟩:Seq),0)) (grd (8 * v11.2.length<=281474976710656) (bnd (Ej_ x0) (λv35=>bC (λq:ak×Nat×Nat=>Qn v35 v11 x0 q.1 q.2.1 q.2.2) ((replicate v11.2.length (0:Int)),0,0)))))))))
def H8_(σ:aj)(r:Seq×Int):Value->aj->List Res->Prop:=λv σ' H'=>
 ∃a1 c1 a2 c2 a3 c3 a4 c4,v= .tuple #[.agg (qF r.1 a1 c1 a2 c2 a3 c3 a4 c4),.int .i64 r.2]/\RZ σ' (aC 1 aF bn) (.slice a1 r.1.next.length c1) r.1.next/\RZ σ' (aC 1 aI bF) (.slice a2 r.1.outs.length c2) r.1.outs/\dH σ' eq_ a3 c3 r.1.fin/\dH σ' aI a4 c4 r.1.tail/\H'=[]
theorem Gw_{σ:aj}{x0:Seq}(au:RZ σ (aC 1 aF bn) (.slice aN x0.next.length aK) x0.next)(aV:RZ σ (aC 1 aI bF) (.slice aA x0.outs.length aY) x0.outs)(aS:dH σ eq_ aW ay x0.fin)(aO:dH σ aI bI bD x0.tail){r:Seq×Int}(hh:Ve x0=some r):
  Con prog 35 #[.agg (qF x0 aN aK aA aY aW ay bI bD)] σ [] (H8_ σ r):=by
 dsimp only [Ve]at hh
 have f0_0b:=au.big
 have f0_1b:=aV.big
 have f0_2b:=aS.rv.big
 have f0_3b:=aO.rv.big
 refine Con.mk (n:=142) Tryz.func35 z z z (λw0=> ?_)
 refine ξ (ν z (boxA z z z z (λbG=> ?_)))
 refine ν z (OpOk.alloc z nD z z (λeY=> ?_))
 refine ψ z z (ε (θ (ξ (ω z (lG z jw fB z (i:=1) z z) ?_))))
 obtain ⟨v5,u5,hh⟩:=dJ hh
 refine ν z (kD (Ez_ (x0:=x0) au aV aS aO u5) z z Ot z z z ?_)
 refine ω z (OpVal.neq z z z) (ε (TC.cD z hh (λdM hh=> ?_) (λdM hh=> ?_)))
 ·refine ξ (ω z (ny z wH nD z) (ν z (storeAll z fB z z z z z z ?_)))
  refine ψ z z (ε (TC.rt 1 (S.r ?_)))
  obtain rfl:=so hh
  exact ro [] z (RVs.agg jw fB z (i:=0) z z (RVs.tmp z RVs.nil)) ⟨none,0,none,0,none,0,none,0,z,(RZ.nilF _ (aC 1 aF bn)),(RZ.nilF _ (aC 1 aI bF)),(RS.nilF _ eq_ iQ),(RS.nilF _ aI bF),z⟩
 refine ι (S.n (ξ (ω z (lG z jw fB z (i:=1) z z) ?_)))
 obtain ⟨v11,u11,hh⟩:=dJ hh
 refine ν z (OpOk.call (F9_ (x0:=x0) au aV aS aO u11) z z pf70 z z z z ?_)
 rintro _ τ106 _ xM ⟨a106_1,c106_1,a106_2,c106_2,rfl,hr106_0,hr106_1,rfl⟩
 replace au:=au.mono xM
 replace aV:=aV.mono xM
 replace aS:=aS.mono xM
 replace aO:=aO.mono xM
 have hr106_0b:=hr106_0.rv.big
 have hr106_1b:=hr106_1.rv.big
 refine ω z (vS (.inl z) z) (ω z (OpVal.extract z z z) (ω z (OpVal.extract z z z) (Ξ z z (Ξ z z (ε (θ (ξ (Ξ z z (ω z (lenC z g_ z) (ω z (OpVal.eql z z z) (TL.j z z (TL.split 28 z (λdP=> ?_) (λdP=> ?_)))))))))))))
 ·replace hh:=ig dP hh
  replace dP:=jk dP
  refine π z (π z (π z (π z (ω z (dQ z z z) (ε (TC.t z (ξ (ω z (ny z wH nD z) (ν z (storeAll z fB z z z z z z ?_))))))))))
  refine ψ z z (ε (TC.rt 1 (S.r ?_)))
  obtain rfl:=so hh
  exact ro [] z (RVs.agg jw fB z (i:=0) z z (RVs.tmp z RVs.nil)) ⟨none,0,none,0,none,0,none,0,z,(RZ.nilF _ (aC 1 aF bn)),(RZ.nilF _ (aC 1 aI bF)),(RS.nilF _ eq_ iQ),(RS.nilF _ aI bF),z⟩
 replace hh:=iw dP hh
 replace dP:=jy dP
 refine Ψ z (gK (.inl z) z) ?_
 obtain ⟨u22,hh⟩:=aP hh
 refine Ψ z (bT (i:=0) z g_ gV z z hr106_1.rv.sl (by omega)) (Ψ z (fD false z nX z hr106_1 (by omega) z) (Ψ z (OpVal.not z z) (ω z (dU z z z) (ε (TC.cB z hh (λfH hh=> ?_) (λfH hh=> ?_))))))
 ·refine ξ (ω z (ny z wH nD z) (ν z (storeAll z fB z z z z z z ?_)))
  refine ψ z z (ε (TC.rt 1 (S.r ?_)))
  obtain rfl:=so hh
  exact ro [] z (RVs.agg jw fB z (i:=0) z z (RVs.tmp z RVs.nil)) ⟨none,0,none,0,none,0,none,0,z,(RZ.nilF _ (aC 1 aF bn)),(RZ.nilF _ (aC 1 aI bF)),(RS.nilF _ eq_ iQ),(RS.nilF _ aI bF),z⟩
 refine ι (S.n (ξ (Ξ z z (ω z (lenC z g_ z) ?_))))
 obtain ⟨u31,hh⟩:=aP hh
 refine ν z (oW (enc:=aF) (0:Int) z bY dh uJ lq z z z z (by omega) (by decide) bn (by decide) z jR (λa109 Di=> ?_))
 refine Ξ z z (ψ z z (ε (θ (ξ (ω z (lG z jw fB z (i:=2) z z) ?_)))))
 obtain ⟨v35,u35,hh⟩:=dJ hh
 refine ν z (OpOk.call (Hd_ (x0:=x0) au aV aS aO u35) z z pf72 z z z z ?_)
 rintro _ _ _ kU ⟨a112_1,c112_1,rfl,rfl,rfl⟩
 refine ω z (lenC z g_ z) (ψ z z (ε (υ (TC.iE (α:=(ak×Nat×Nat)×(Unit)) (rgs [(7,3),(41,22)]) (λg=>[(7,.int .i64 ((g.1.2.1:Nat):Int)),(41,.int .i64 ((g.1.2.2:Nat):Int))]) (λg=>[jh bG x0 aN aK aA aY aW ay bI bD,κ eY #[.string (bs ([]:T_1)),bM,bM,bM,bM] 32,φ 3 1 aF (.slice a109 (replicate v11.2.length (0:Int)).length Di) g.1.1,dR 4 eq_ a112_1 c112_1 v35]) (λg=>τ106) (λg=>bC (λq:ak×Nat×Nat=>Qn v35 v11 x0 q.1 q.2.1 q.2.2) g.1=some r/\g.1.1.length=(replicate v11.2.length (0:Int)).length) (λg=>fZ (λq:ak×Nat×Nat=>Qn v35 v11 x0 q.1 q.2.1 q.2.2) g.1) (((replicate v11.2.length (0:Int)),0,0),()) (Θ [1,2,3] 4) z (by repeat (first|exact trivial|refine ⟨z,?_⟩)) ⟨hh,z⟩ (λg1 j1 hg1=> ?_)))))
 obtain ⟨⟨aJ,bP,aX⟩,_⟩:=g1
 obtain ⟨hh,fV⟩:=hg1
 try dsimp only at fV ⊢
 obtain ⟨z1,hh,hR1⟩:=iq hh
 dsimp only [Qn]at hh
 refine χ (i:=2) z (λ_ Df _=> ?_)
 refine χ (i:=3) z (λ_ GK _=> ?_)
 refine ξ (ω z (OpVal.lss z z z) (ε (θ (TC.cD z hh (λh128 hh=> ?_) (λh128 hh=> ?_)))))
 ·refine ι (S.n (θ (υ (ξ (ψ z z (TL.isSl (i:=3) z (λJR _ _=> ?_)))))))
  refine ω z (bT z g_ gV z z JR (by omega)) (ω z (nZ false z nX z (q:=3) z iQ (by omega) z) (ψ z z (TL.j z z (ε (ξ (Ξ z z (ψ z z ?_)))))))
  obtain ⟨u46,hh⟩:=aP hh
  refine TL.isSl (i:=2) z (λwP _ _=> ?_)
  refine ω z (bT z bY dh z z wP (by omega)) (ζ 2 z z ?_)
  have BU:(aJ.set aX (-1)).length=(replicate v11.2.length (0:Int)).length:=by rw [fQ];exact fV
  refine ν z (lF (-1) z dh z z z z bn jR (by omega) (by omega) ?_)
  refine ε (ξ (TL.j z z (TL.j z z (TL.split 50 z (λuD=> ?_) (λuD=> ?_)))))
  ·replace hh:=ig uD hh
   refine Ψ z (gK (.inl z) z) (Ψ z (cO (.inl z) z) ?_)
   obtain ⟨NZ,hh⟩:=aP hh
   refine Ψ z (bT z g_ gV z z hr106_1.rv.sl (by omega)) (Ψ z (fD false z nX z hr106_1 (by omega) z) (ω z (dQ z z z) (ε (TC.cB z hh (λLl hh=> ?_) (λLl hh=> ?_)))))
   ·refine ξ (Ξ z z (ψ z z (ψ z z ?_)))
    obtain ⟨u58,hh⟩:=aP hh
    refine TL.isSl (i:=0) z (λBv _ _=> ?_)
    refine ω z (bT z bY dh z z Bv (by omega)) ?_
    have BQ:((aJ.set aX (-1)).set aX (bP:Int)).length=(replicate v11.2.length (0:Int)).length:=by rw [fQ];exact BU
    refine ν z (lF (bP:Int) z dh z z z z bn jR (by omega) (by omega) ?_)
    refine ε (η (ψ z z ?_))
    obtain ⟨u61,hh⟩:=aP hh
    refine ω z (OpVal.succ z z z (by omega)) (ψ z z (TL.nil (B.n (S.n (η (ω z (OpVal.succ z z z (by omega)) (ψ z z (ε ?_))))))))
    obtain ⟨hh,xg⟩:=dL hR1 hh
    exact lf ((((aJ.set aX (-1)).set aX (bP:Int)),(bP+1),(aX+1)),()) xg ⟨hh,BQ⟩ (Θ [3,1,3,3] 4)
   refine ι (B.n (S.n (η (ω z (OpVal.succ z z z (by omega)) (ψ z z (ε ?_))))))
   obtain ⟨hh,D7⟩:=dL hR1 hh
   exact lf (((aJ.set aX (-1)),bP,(aX+1)),()) D7 ⟨hh,BU⟩ (Θ [3,1,3,3] 4)
  replace hh:=iw uD hh
  refine π z (π z (π z (π z (ω z (dU z z z) (ε (TC.f z (ι (B.n (S.n (η (ω z (OpVal.succ z z z (by omega)) (ψ z z (ε ?_)))))))))))))
  obtain ⟨hh,qY⟩:=dL hR1 hh
  exact lf (((aJ.set aX (-1)),bP,(aX+1)),()) qY ⟨hh,BU⟩ (Θ [3,1,3,3] 4)
 refine TC.exit (S.x (S.x ?_))
 replace hh:=dI hR1 hh
 refine Δ (S.n (θ ?_))
 obtain ⟨u68,hh⟩:=aP hh
 obtain ⟨u70,hh⟩:=aP hh
 refine TC.draw [8] (by kernel_rfl) (TA.a 0 z (aU z GR z) z (TA.b 1 z (bg z iK z (i:=0) z z) z (TA.a 2 z (gK (.inl z) z) z (TA.b 3 z (bT (i:=0) z fF fK z z hr106_0.rv.sl (by omega)) z (TA.b 4 z (fD ([]:T_1) z iK z hr106_0 (by omega) z) z (TA.a 5 z (PU z z z u70) z (TA.a 6 z (ny z wH nD z) z (TA.ac 7 z (OpOk.alloc z nD z z (λIa=>(k1 ?_)))))))))))
 refine TA.last 8 (by kernel_rfl) z z z (storeAll z fB z z z z z z ?_)
 refine TZ.done (by kernel_rfl) (S.n (θ (ξ (Ξ z z (ω z (lenC z bY z) (ψ z z (ε (υ ?_))))))))
 rw [show Value.slice a109 ((replicate v11.2.length (0:Int)).length) Di=Value.slice a109 aJ.length Di from by rw [fV]]
 refine TC.front 3 z z (TC.og bn (λτ212 xG Ud=> ?_))
 replace au:=au.mono xG
 replace aV:=aV.mono xG
 replace aS:=aS.mono xG
 replace aO:=aO.mono xG
 replace hr106_0:=hr106_0.mono xG
 have hr210b:=Ud.rv.big
 refine TC.nilS 86 1 (aC 1 aF bn).en ?_
 have IQ:=ZOk.nil τ212 (aC 1 aF bn)
 refine TC.nilS 30 1 (aC 1 aI bF).en ?_
 have zf215:=ZOk.nil τ212 (aC 1 aI bF)
 refine TC.nilS 4 1 eq_ (TC.nilS 9 1 aI (TC.iE (α:=(bW×fJ×B_1×aB×Nat)×((Option Addr)×Nat×(List (ak×(aC 1 aF bn).P))×(Option Addr)×Nat×(List (aB×(aC 1 aI bF).P))×(Option Addr)×Nat×(Option Addr)×Nat×aj)) (rgs [(3,1),(11,5),(72,65)]) (λg=>[(72,.int .i64 ((g.1.2.2.2.2:Nat):Int))]) (λg=>[jh bG x0 aN aK aA aY aW ay bI bD,κ eY #[.string (bs ([]:T_1)),bM,bM,bM,bM] 32,κ Ia #[.string (bs (x0.front++(nth v11.1 0 []))),.slice g.2.1 g.1.1.length g.2.2.1,.slice g.2.2.2.2.1 g.1.2.1.length g.2.2.2.2.2.1,.slice g.2.2.2.2.2.2.2.1 g.1.2.2.1.length g.2.2.2.2.2.2.2.2.1,.slice g.2.2.2.2.2.2.2.2.2.1 g.1.2.2.2.1.length g.2.2.2.2.2.2.2.2.2.2.1] 32,φ 86 1 (aC 1 aF bn).en (.slice g.2.1 g.1.1.length g.2.2.1) g.2.2.2.1,φ 30 1 (aC 1 aI bF).en (.slice g.2.2.2.2.1 g.1.2.1.length g.2.2.2.2.2.1) g.2.2.2.2.2.2.1,φ 4 1 eq_ (.slice g.2.2.2.2.2.2.2.1 g.1.2.2.1.length g.2.2.2.2.2.2.2.2.1) g.1.2.2.1,φ 9 1 aI (.slice g.2.2.2.2.2.2.2.2.2.1 g.1.2.2.2.1.length g.2.2.2.2.2.2.2.2.2.2.1) g.1.2.2.2.1]) (λg=>g.2.2.2.2.2.2.2.2.2.2.2) (λg=>bC (λq:bW×fJ×B_1×aB×Nat=>MF v11 aJ x0 q.1 q.2.1 q.2.2.1 q.2.2.2.1 q.2.2.2.2) g.1=some r/\RS g.2.2.2.2.2.2.2.2.2.2.2 1 aF (.slice a109 aJ.length Di) aJ/\ZOk g.2.2.2.2.2.2.2.2.2.2.2 (aC 1 aF bn) g.2.2.2.1 g.1.1/\ZOk g.2.2.2.2.2.2.2.2.2.2.2 (aC 1 aI bF) g.2.2.2.2.2.2.1 g.1.2.1/\aj.le τ212 g.2.2.2.2.2.2.2.2.2.2.2) (λg=>fZ (λq:bW×fJ×B_1×aB×Nat=>MF v11 aJ x0 q.1 q.2.1 q.2.2.1 q.2.2.2.1 q.2.2.2.2) g.1) ((([]:bW),([]:fJ),([]:B_1),([]:aB),0),(none,0,[],none,0,[],none,0,none,0,τ212)) (Θ [1,2,3,4,6,6] 7) z (by repeat (first|exact trivial|refine ⟨z,?_⟩)) ⟨hh,Ud,IQ,zf215,(aj.le.refl _)⟩ (λg2 j2 hg2=> ?_)))
 obtain ⟨⟨iJ,iI,eu,iU,bH⟩,⟨uK,uI,z193,oG,c198,wC,a203,xR,yc,c208,τ219⟩⟩:=g2
 obtain ⟨hh,pF,iy,dw,pJ⟩:=hg2
 try dsimp only at pF
 try dsimp only at iy
 try dsimp only at dw
 dsimp only at pJ
 replace au:=au.mono pJ
 replace aV:=aV.mono pJ
 replace aS:=aS.mono pJ
 replace aO:=aO.mono pJ
 replace hr106_0:=hr106_0.mono pJ
 try dsimp only
 obtain ⟨z1,hh,hR1⟩:=iq hh
 dsimp only [MF]at hh
 have hr188b:=pF.rv.big
 have zf194b:=iy.length
 have zf200b:=dw.length
 refine χ (i:=3) z (λ_ UW _=> ?_)
 refine χ (i:=4) z (λ_ La _=> ?_)
 refine χ (i:=5) z (λ_ K_ _=> ?_)
 refine χ (i:=6) z (λ_ UU _=> ?_)
 refine ξ (ω z (OpVal.lss z z z) (ε (θ (TC.cD z hh (λYt hh=> ?_) (λYt hh=> ?_)))))
 ·refine ι (S.n (θ (υ (ξ (ψ z z (ψ z z (ε (θ (ξ (Ξ z z (ψ z z ?_)))))))))))
  obtain ⟨NY,hh⟩:=aP hh
  refine ω z (bT z bY dh z z pF.rv.sl (by omega)) (ω z (fD (0:Int) z fC z pF (by omega) z) (ω z (OpVal.lss z z z) (ε (TC.cD z hh (λYr hh=> ?_) (λYr hh=> ?_)))))
  ·refine TC.exit (S.x (Δ (S.n (η (ω z (OpVal.succ z z z (by omega)) (ψ z z (ε ?_)))))))
   obtain ⟨hh,DU⟩:=dL hR1 hh
   exact lf ((iJ,iI,eu,iU,(bH+1)),(uK,uI,z193,oG,c198,wC,a203,xR,yc,c208,τ219)) DU ⟨hh,pF,iy,dw,pJ⟩ (Θ [6,6,6,6,6,6,6] 7)
  refine ι (S.n (ξ (ω z (lG z jw fB z (i:=0) z z) (ψ z z (Ξ z z (Ξ z z ?_))))))
  obtain ⟨v89,u89,hh⟩:=dJ hh
  refine ν z (OpOk.call (Hh_ (x0:=x0) au aV aS aO hr106_0 pF u89) z z pf73 z z z z ?_)
  rintro _ τ228 _ rD ⟨a228_1,c228_1,a228_2,c228_2,rfl,hr228_0,hr228_1,rfl⟩
  replace aS:=aS.mono rD
  replace aO:=aO.mono rD
  replace hr106_0:=hr106_0.mono rD
  replace pF:=pF.mono rD
  replace iy:=iy.mono rD
  replace dw:=dw.mono rD
  have hr228_0b:=hr228_0.rv.big
  have hr228_1b:=hr228_1.rv.big
  refine ω z (vS (.inl z) z) (ω z (OpVal.extract z z z) (ω z (OpVal.extract z z z) (ω z (OpVal.extract z z z) (Ξ z z (Ξ z z (TL.j z z (ε (θ (ξ (TL.j z z (ω z (OpVal.not z z) (ε (TC.cB z hh (λh229 hh=> ?_) (λh229 hh=> ?_))))))))))))))
  ·refine ξ (ω z (ny z wH nD z) (ζ 1 z z (ν z (storeAll z fB z z z z z z ?_))))
   refine ψ z z (ε (TC.rt 1 (S.r (B.r (S.r (S.r ?_))))))
   replace hh:=dI hR1 hh
   refine B.r (S.r ?_)
   obtain rfl:=so hh
   exact ro [] z (RVs.agg jw fB z (i:=0) z z (RVs.tmp z RVs.nil)) ⟨none,0,none,0,none,0,none,0,z,(RZ.nilF _ (aC 1 aF bn)),(RZ.nilF _ (aC 1 aI bF)),(RS.nilF _ eq_ iQ),(RS.nilF _ aI bF),z⟩
  refine ι (S.n (ξ (ω z (dX (.inr z) z) (ε (TC.cutG (α:=(T_1)×(aj)) (rgs [(15,1),(92,16)]) (λg=>[(15,.string (bs g.1))]) (λg=>[jh bG x0 aN aK aA aY aW ay bI bD,κ eY #[.string (bs ([]:T_1)),bM,bM,bM,bM] 32,κ Ia #[.string (bs (x0.front++(nth v11.1 0 []))),.slice uK iJ.length uI,.slice oG iI.length c198,.slice a203 eu.length xR,.slice yc iU.length c208] 32,φ 86 1 (aC 1 aF bn).en (.slice uK iJ.length uI) z193,φ 30 1 (aC 1 aI bF).en (.slice oG iI.length c198) wC,dR 4 eq_ a203 xR eu,dR 9 aI yc c208 iU]) (λg=>g.2) (λg=>D2_ iJ v89 iI bH x0 eu iU g.1=some z1/\ZOk g.2 (aC 1 aF bn) z193 iJ/\ZOk g.2 (aC 1 aI bF) wC iI/\aj.le τ228 g.2) ?_ (λg j hg=> ?_))))))
  ·skip
   refine ξ (ω z (aU z uF z) (ω z (bg z rX z (i:=0) z z) (ψ z z ?_)))
   obtain ⟨N_,hh⟩:=aP hh
   refine ω z (bT z g_ gV z z aS.rv.sl (by omega)) (ω z (fD false z nX z aS (by omega) z) (ε (TC.cB z hh (λh233 hh=> ?_) (λh233 hh=> ?_))))
   ·have u111:=Hl hh
    replace hh:=Hw hh
    obtain ⟨u115,hh⟩:=aP hh
    obtain ⟨u118,hh⟩:=aP hh
    exact TC.draw [] (by kernel_rfl) (TA.a 0 z (aU z uX z) z (TA.b 1 z (bg z mJ z (i:=0) z z) z (TA.a 2 z (cO (.inl z) z) z (TA.b 3 z (bT z fF fK z z aO.rv.sl (by omega)) z (TA.b 4 z (fD ([]:T_1) z iK z aO (by omega) z) z (TA.a 5 z (gK (.inl z) z) z (TA.a 6 z (cO (.inl z) z) z (TA.b 7 z (bT z fF fK z z hr106_0.rv.sl (by omega)) z (TA.b 8 z (fD ([]:T_1) z iK z hr106_0 (by omega) z) z (TA.b 9 z (rQ z kG z) z (TA.b 10 z (bh_ (l:=(nth x0.tail bH [])) (i:=(nth v11.1 bH []).length) z kG z z (by omega) (by omega)) z (TA.a 11 z (dX (.inr z) z) z (TA.dn (S.n (cf (((nth x0.tail bH []).drop ((nth v11.1 bH []).length)),τ228) ⟨hh,iy,dw,(aj.le.refl _)⟩ (Θ [6,6,6,6,6,6,6] 7))))))))))))))))
   exact ι (S.n (cf (([]:T_1),τ228) ⟨hh,iy,dw,(aj.le.refl _)⟩ (Θ [6,6,6,6,6,6,6] 7)))
  skip
  obtain ⟨Jq,τ234⟩:=g
  obtain ⟨hh,IL,IK,ou⟩:=hg
  try dsimp only at IL
  try dsimp only at IK
  dsimp only at ou
  replace aS:=aS.mono ou
  replace pF:=pF.mono ou
  replace iy:=iy.mono ou
  replace dw:=dw.mono ou
  replace hr228_0:=hr228_0.mono ou
  replace hr228_1:=hr228_1.mono ou
  try dsimp only
  dsimp only [D2_]at hh
  have zf230b:=IL.length
  have zf231b:=IK.length
  refine χ (i:=3) z (λ_ GH _=> ?_)
  refine χ (i:=4) z (λ_ UQ _=> ?_)
  refine χ (i:=5) z (λ_ UO _=> ?_)
  refine χ (i:=6) z (λ_ UN _=> ?_)
  refine ξ (ω z (aU z kW z) (ω z (bg z j_ z (i:=2) z z) (Ξ z z ?_)))
  have Rq:ZOk _ (aC 1 aF bn) ([(v89.1,(a228_1,c228_1))]:List (ak×(aC 1 aF bn).P)) [v89.1]:=ZOk.cons (hr228_0) (ZOk.nil _ _)
  refine ν z (litZ Rq z eX fP z kY z z z (by decide) (by decide) z (by decide) z (by decide) (λa240 c241=> ?_))
  refine ζ 4 z z ?_
  obtain ⟨u124,hh⟩:=aP hh
  refine ν z (L8 (k:=(aC 1 aF bn)) IL Rq z z eX fP mG kY z z (by decide) z z z (.inr ⟨_,0,z⟩) (by simpa using u124) (by decide) (λa244 c245 zf246=> ?_))
  refine ω z (aU z kW z) (ζ 4 z z (ν z (f_ z jB z z z z z ?_)))
  refine ε (ξ (ω z (aU z o_ z) (ω z (bg z qx z (i:=0) z z) (Ξ z z ?_))))
  have AQ:ZOk _ (aC 1 aI bF) ([(v89.2.1,(a228_2,c228_2))]:List (aB×(aC 1 aI bF).P)) [v89.2.1]:=ZOk.cons (hr228_1) (ZOk.nil _ _)
  refine ν z (litZ AQ z mY nC z Hg z z z (by decide) (by decide) z (by decide) z (by decide) (λZd YK=> ?_))
  refine ζ 6 z z ?_
  obtain ⟨u131,hh⟩:=aP hh
  refine ν z (L8 (k:=(aC 1 aI bF)) IK AQ z z mY nC RJ Hg z z (by decide) z z z (.inr ⟨_,0,z⟩) (by simpa using u131) (by decide) (λMd LP nJ=> ?_))
  refine ω z (aU z o_ z) (ζ 2 z z (ν z (f_ z RN z z z z z ?_)))
  refine ε (θ ?_)
  obtain ⟨u139,hh⟩:=aP hh
  obtain ⟨VJ,hh⟩:=aP hh
  refine TC.draw [8,9,10] (by kernel_rfl) (TA.a 0 z (aU z uF z) z (TA.b 1 z (bg z rX z (i:=0) z z) z (TA.a 2 z (aU z uF z) z (TA.b 3 z (bg z rX z (i:=5) z z) z (TA.a 4 z (cO (.inl z) z) z (TA.b 5 z (bT z g_ gV z z aS.rv.sl (by omega)) z (TA.b 6 z (fD false z nX z aS (by omega) z) z (TA.ac 7 z (OpOk.lit (enc:=eq_) [(nth x0.fin bH false)] z g_ gV Ap z z z iQ (by decide) (by decide) false z (by decide) z (by decide) qQ (λa259 c260=>(k1 ?_)))))))))))
  refine TA.front 8 z z (TA.last 8 (by kernel_rfl) z z z (as_ z z g_ gV GV Ap z z (by decide) z z z (.inr ⟨_,0,z⟩) (by simpa using VJ) (by decide) (λL_ LK=> ?_)))
  refine TZ.v 9 (by kernel_rfl) z z z (aU z uF z) z z (TZ.front 2 z z (TZ.last 10 (by kernel_rfl) z z z (f_ z Jh z z z z z ?_)))
  refine TZ.done (by kernel_rfl) (S.n (η (ω z (aU z uX z) (ω z (bg z mJ z (i:=0) z z) (ω z (dX (.inl z) z) (ν z (OpOk.lit (enc:=aI) [Jq] z fF fK sG z z z bF (by decide) (by decide) ([]:T_1) z (by decide) z (by decide) qX (λa264 c265=> ?_))))))))
  refine ζ 10 z z ?_
  obtain ⟨u149,hh⟩:=aP hh
  refine ν z (as_ z z fF fK zo sG z z (by decide) z z z (.inr ⟨_,0,z⟩) (by simpa using u149) (by decide) (λIg H7=> ?_))
  refine ω z (aU z uX z) (ζ 2 z z (ν z (f_ z nC z z z z z ?_)))
  refine TL.nil (B.n (S.n (η (ω z (OpVal.succ z z z (by omega)) (ψ z z (ε ?_))))))
  obtain ⟨hh,Xn⟩:=dL hR1 hh
  exact lf (((iJ++[v89.1]),(iI++[v89.2.1]),(eu++[(nth x0.fin bH false)]),(iU++[Jq]),(bH+1)),(a244,c245,(z193++([(v89.1,(a228_1,c228_1))]:List (ak×(aC 1 aF bn).P))),Md,LP,(wC++([(v89.2.1,(a228_2,c228_2))]:List (aB×(aC 1 aI bF).P))),L_,LK,Ig,H7,τ234)) Xn ⟨hh,pF,zf246,nJ,((pJ.trans rD).trans ou)⟩ (Θ [1,3,5,7,4,10,10] 7)
 refine TC.exit (S.x (S.x ?_))
 replace hh:=dI hR1 hh
 refine Δ (S.n (θ (ξ (ω z (lG z jw fB z (i:=2) z z) (ζ 3 z z (TL.LV iy (λτ272 Yf sO=> ?_)))))))
 replace dw:=dw.mono Yf
 have hr270b:=sO.big
 refine ζ 3 z z (TL.LV dw (λτ275 Ye wR=> ?_))
 replace sO:=sO.mono Ye
 have hr273b:=wR.big
 refine ζ 3 z z (TL.og iQ (λτ278 KN BF=> ?_))
 replace sO:=sO.mono KN
 replace wR:=wR.mono KN
 have hr276b:=BF.rv.big
 refine ζ 3 z z (TL.og bF (λτ281 Em JY=> ?_))
 replace sO:=sO.mono Em
 replace wR:=wR.mono Em
 replace BF:=BF.mono Em
 have hr279b:=JY.rv.big
 obtain ⟨NW,N8,hh⟩:=dJ hh
 refine ν z (kD (Ez_ (x0:=(⟨(x0.front++(nth v11.1 0 [])),iJ,iI,eu,iU⟩:Seq)) sO wR BF JY N8) z z Ot z z z ?_)
 refine ω z (OpVal.neq z z z) (ε (TC.cD z hh (λh282 hh=> ?_) (λh282 hh=> ?_)))
 ·refine ξ (ω z (ny z wH nD z) (ζ 1 z z (ν z (storeAll z fB z z z z z z ?_))))
  refine ψ z z (ε (TC.rt 1 (S.r ?_)))
  obtain rfl:=so hh
  exact ro [] z (RVs.agg jw fB z (i:=0) z z (RVs.tmp z RVs.nil)) ⟨none,0,none,0,none,0,none,0,z,(RZ.nilF _ (aC 1 aF bn)),(RZ.nilF _ (aC 1 aI bF)),(RS.nilF _ eq_ iQ),(RS.nilF _ aI bF),z⟩
 refine ι (S.n (ξ (ω z (lG z jw fB z (i:=2) z z) (ζ 1 z z (ν z (storeAll z fB z z z z z z ?_))))))
 refine ψ z z (ε (TC.rt 1 ?_))
 obtain rfl:=so hh
 exact ro [] z (RVs.agg jw fB z (i:=0) z z (RVs.tmp z RVs.nil)) ⟨uK,uI,oG,c198,a203,xR,yc,c208,z,sO,wR,BF,JY,z⟩
end Go.Proofs.YtchebnpdnfhenaaGreatDoor
end

noncomputable section
namespace Go.Proofs.YtchebnpdnfhenaaGreatDoor
open Go Go.E
theorem Pj {T R : Type} {step : T -> Option (T ⊕ R)} (I : T -> Prop) (μ : T -> Nat) (Q : R -> Prop) (hs : ∀ t, I t -> (∃ t', step t = some (.inl t') /\ I t' /\ μ t' < μ t) \/ ∃ r, step t = some (.inr r) /\ Q r) {t : T} (h : I t) : ∃ r, bC step t = some r /\ Q r := by
  have key: ∀(N:Nat) (t:T),I t->μ t<N-> ∃r,bC step t=some r/\Q r:=by
    intro N
    induction N with
    |zero=>intro t _ h;omega
    |succ N ih=>
      intro t hI hN
      rcases hs t hI with ⟨t',h1,h2,h3⟩|⟨r,h1,h2⟩
      · obtain ⟨r,h4,h5⟩:=ih t' h2 (by omega)
        exact ⟨r,Iu h1 h4,h5⟩
      exact ⟨r,zn h1,h2⟩
  exact key _ t h (Nat.lt_succ_self _)
def jg(f:Nat->Nat):Nat->Nat
  |0=>0
  |n+1=>jg f n+f n
theorem p4_{f g:Nat->Nat}: ∀{n:Nat},(∀i,i<n->f i<=g i)->jg f n<=jg g n
  |0,_=>Nat.le_refl _
  |n+1,h=>Nat.add_le_add (p4_ λi hi=>h i (by omega)) (h n (by omega))
theorem j4_(c:Nat): ∀n:Nat,jg (λ_=>c) n=n * c
  |0=>by simp [jg]
  |n+1=>by rw [jg,j4_ c n,Nat.add_mul];omega
theorem o2_{f g:Nat->Nat}: ∀{n:Nat},(∀i,i<n->g i=f i)->jg g n=jg f n
  |0,_=>rfl
  |n+1,h=>by rw [jg,jg,o2_ λi hi=>h i (by omega),h n (by omega)]
theorem ji_{f g:Nat->Nat}{s:Nat}: ∀{n:Nat},s<n->(∀i,i<n->i≠s->g i=f i)->jg g n+f s=jg f n+g s
  |0,hs,_=>by omega
  | n + 1, hs, h => by
    rw [jg,jg]
    by_cases c:s=n
    · subst c
      rw [o2_ (f:=f) λi hi=>h i (by omega) (by omega)];omega
    have:=ji_ (f:=f) (g:=g) (s:=s) (n:=n) (by omega) λi hi hne=>h i (by omega) hne
    have h2:=h n (by omega) (by omega)
    omega
theorem xf_{L:aB}(h:L≠[])(g:T_1):iZ (L++[g])=iZ [iZ L,g]:=by
  cases L with
  |nil=>exact absurd rfl h
  |cons x L=>show Jc (L++[g]) x=_;rw [rn_];rfl
theorem xz_{L:aB}{k:Nat}(h: ∀x∈L,x.length<=k):(iZ L).length<=k:=by
  cases L with
  |nil=>exact Nat.zero_le _
  |cons x L=>exact Nat.le_trans (Ls (ji ..)).length_le (h x (ji ..))
theorem kb_{q:Seq}(hq:eH q=true){l:aB}{m:B_1}{s:Nat}(hs:s<q.next.length){B:Nat}(hB: ∀z,z<q.next.length->nth m z false=true->(nth l z []).length<=B){k:Nat}(hk:k<=256): ∀x∈vI q l m s k,x.length<=4096+B:=λx hx=>by
  unfold vI at hx
  rcases List.mem_append.1 hx with h|h
  · split at h
    · rw [yB]at h
      have:=(HY hq hs).1
      rw [h];omega
    cases h
  obtain ⟨b,hb,h⟩:=List.mem_flatMap.1 h
  have hb:=List.mem_range.1 hb
  unfold G8 at h
  split at h
  · rename_i c
    rw [yB]at h
    have h1:=oC hq hs (show b<256 by omega)
    have h2:=O8 hq hs (show b<256 by omega)
    have h3:=hB (nxQ q s b).toNat (by omega) c.2
    rw [h,fU];omega
  cases h
theorem u2_ {q : Seq} (hq : eH q = true) {l : aB} {m : B_1} (hl : l.length = q.next.length) (hm : m.length = q.next.length) {s : Nat} (hs : s < q.next.length) (hB : ∀ z, z < q.next.length -> nth m z false = true -> (nth l z []).length <= 4194304) :
    Fa_ q ((s:Nat):Int) l m=some (iZ (jT q l m s)):=by
  obtain ⟨q1,q2,q3,q4,q5⟩:=ni hq
  obtain ⟨r1,r2⟩:=vM hq hs
  unfold Fa_
  rw [aH (by omega),aH (by omega),aH (by omega),iT]
  obtain ⟨r,h1,h2⟩:=kM (step:=λz:T_1×Bool×Nat=>QK q ((s:Nat):Int) m l z.1 z.2.1 z.2.2) (λ(z:T_1×Bool) k=>(z.1,z.2,k)) 256 (λk z=>z.1=iZ (vI q l m s k)/\z.2= !(vI q l m s k).isEmpty) (λr=>r=iZ (jT q l m s))
    (by
      rintro k ⟨f,t⟩ hk ⟨e1,e2⟩
      simp only at e1 e2
      subst e1 e2
      left
      have hz:=oC hq hs hk
      have ho:=O8 hq hs hk
      refine ⟨(iZ (vI q l m s (k+1)), !(vI q l m s (k+1)).isEmpty),?_,rfl,rfl⟩
      show QK q ((s:Nat):Int) m l (iZ (vI q l m s k)) (!(vI q l m s k).isEmpty) k=_
      unfold QK
      rw [iT,bV (by omega),lf_]
      change aQ (decide (nxQ q s k<0)) _ _=_
      unfold G8
      by_cases c:nxQ q s k<0
      · rw [bV c,if_neg (λh=>by omega),List.append_nil];rfl
      rw [bQ c,aH (by show 0<=nxQ q s k/\nxQ q s k<_;omega)]
      change aQ (!(nth m (nxQ q s k).toNat false)) _ _=_
      cases d:nth m (nxQ q s k).toNat false with
      |false=>rw [zi,if_neg (λh=>by simp at h),List.append_nil];rfl
      |true=>
        have hlz:=hB _ (show (nxQ q s k).toNat<_ by omega) d
        rw [vJ,if_pos ⟨by omega,rfl⟩,aH (by omega),aH (by omega),aH (by show 0<=nxQ q s k/\nxQ q s k<_;omega),aH (by show (otQ q s k).length+(nth l (nxQ q s k).toNat []).length<=_;omega)]
        change aQ _ (bnd (Zt [iZ (vI q l m s k),otQ q s k++nth l (nxQ q s k).toNat []]) _) (nxt (otQ q s k++nth l (nxQ q s k).toNat [],true,k+1))=_
        have hlen:=kb_ hq hs hB (k:=k) (by omega)
        cases hu:vI q l m s k with
        |nil=>rfl
        |cons x L=>
          rw [hu]at hlen
          rw [show (!(x::L).isEmpty)=true from rfl,iteO_true,ph_ (λy hy=>by
            rcases List.mem_cons.1 hy with rfl|hy
            · have:=xz_ hlen;omega
            rw [yB]at hy
            rw [hy,fU];omega),gJ,xf_ (List.cons_ne_nil x L)]
          rfl)
    (by
      rintro ⟨f,t⟩ ⟨e1,e2⟩
      simp only at e1 e2
      subst e1 e2
      refine ⟨_,?_,rfl⟩
      show QK q ((s:Nat):Int) m l _ _ 256=_
      unfold QK
      rw [iT,bQ (by omega)];rfl) (s0:=(nth q.tail s [],nth q.fin s false)) (by
        have ht:=(HY hq hs).2
        unfold vI
        cases hf:nth q.fin s false with
        |true=>exact ⟨rfl,rfl⟩
        |false=>
          rcases ht with ht|ht
          · rw [hf]at ht;cases ht
          exact ⟨ht,rfl⟩)
  rw [<-h2];exact h1
structure BkQ (q:Seq) (k j:Nat) (L:bW):Prop where
  len:L.length=q.next.length
  mem: ∀z,z<q.next.length-> ∀s:Int,s∈nth L z []↔ ∃t:Nat,s=((t:Nat):Int)/\((t<k/\ ∃b,b<256/\nxQ q t b=((z:Nat):Int))\/(t=k/\ ∃b,b<j/\nxQ q t b=((z:Nat):Int)))
  few: ∀z,z<q.next.length->(nth L z []).length<=256 * k+j
theorem BkQ.skip{q:Seq}{k j:Nat}{L:bW}(h:BkQ q k j L)(hn:nxQ q k j<0):BkQ q k (j+1) L:=by
  refine ⟨h.len,λz hz s=> ?_,λz hz=>by have:=h.few z hz;omega⟩
  rw [h.mem z hz]
  constructor
  · rintro ⟨t,e,c|⟨c,b,hb,hx⟩⟩
    · exact ⟨t,e,.inl c⟩
    exact ⟨t,e,.inr ⟨c,b,by omega,hx⟩⟩
  rintro ⟨t,e,c|⟨c,b,hb,hx⟩⟩
  · exact ⟨t,e,.inl c⟩
  refine ⟨t,e,.inr ⟨c,b,?_,hx⟩⟩
  by_cases d:b=j
  · subst d;subst c;omega
  omega
theorem BkQ.has{q:Seq}{k j z:Nat}{L:bW}(h:BkQ q k j L)(hz:z<q.next.length)(hn:nxQ q k j=((z:Nat):Int))(hm:((k:Nat):Int)∈nth L z []):BkQ q k (j+1) L:=by
  refine ⟨h.len,λy hy s=> ?_,λz hz=>by have:=h.few z hz;omega⟩
  constructor
  · intro hs
    obtain ⟨t,e,c|⟨c,b,hb,hx⟩⟩:=(h.mem y hy s).1 hs
    · exact ⟨t,e,.inl c⟩
    exact ⟨t,e,.inr ⟨c,b,by omega,hx⟩⟩
  rintro ⟨t,e,c|⟨c,b,hb,hx⟩⟩
  · exact (h.mem y hy s).2 ⟨t,e,.inl c⟩
  by_cases d:b=j
  · subst d;subst c
    have:y=z:=by omega
    subst this;rw [e];exact hm
  exact (h.mem y hy s).2 ⟨t,e,.inr ⟨c,b,by omega,hx⟩⟩
theorem BkQ.put {q : Seq} {k j z : Nat} {L : bW} (h : BkQ q k j L) (hz : z < q.next.length) (hn : nxQ q k j = ((z : Nat) : Int)) : BkQ q k (j + 1) (L.set z (nth L z [] ++ [((k : Nat) : Int)])) := by
  have hl:=h.len
  refine ⟨by rw [fQ];exact h.len,λy hy s=> ?_,λy hy=> ?_⟩
  · rw [jP]
    by_cases c0:z=y
    · subst c0
      rw [if_pos ⟨rfl,by omega⟩,List.mem_append,yB,h.mem z hz]
      constructor
      · rintro (⟨t,e,c|⟨c,b,hb,hx⟩⟩|e)
        · exact ⟨t,e,.inl c⟩
        · exact ⟨t,e,.inr ⟨c,b,by omega,hx⟩⟩
        exact ⟨k,e,.inr ⟨rfl,j,by omega,hn⟩⟩
      rintro ⟨t,e,c|⟨c,b,hb,hx⟩⟩
      · exact .inl ⟨t,e,.inl c⟩
      exact .inr (by rw [e,c])
    rw [if_neg (λq=>c0 q.1),h.mem y hy]
    constructor
    · rintro ⟨t,e,c|⟨c,b,hb,hx⟩⟩
      · exact ⟨t,e,.inl c⟩
      exact ⟨t,e,.inr ⟨c,b,by omega,hx⟩⟩
    rintro ⟨t,e,c|⟨c,b,hb,hx⟩⟩
    · exact ⟨t,e,.inl c⟩
    refine ⟨t,e,.inr ⟨c,b,?_,hx⟩⟩
    by_cases d:b=j
    · subst d;subst c;omega
    omega
  rw [jP]
  have h1:=h.few y hy
  by_cases c0:z=y
  · subst c0
    rw [if_pos ⟨rfl,by omega⟩,fU,jZ];omega
  rw [if_neg (λq=>c0 q.1)];omega
theorem zp_{l:ak}(h:l≠[]):nth l (l.length - 1) 0∈l:=vU _ (by have:=List.length_pos_iff.2 h;omega)
theorem wo_ {q : Seq} (hq : eH q = true) {k : Nat} (hk : k < q.next.length) {L : bW} (hL : BkQ q k 0 L) :
    ∃L',bC (λz:bW×Nat=>Ns q k z.1 z.2) (L,0)=some (.inl (L',k+1))/\BkQ q (k+1) 0 L':=by
  obtain ⟨q1,q2,q3,q4,q5⟩:=ni hq
  obtain ⟨r1,r2⟩:=vM hq hk
  obtain ⟨r,h1,L',rfl,h2⟩:=kM (step:=λz:bW×Nat=>Ns q k z.1 z.2) (λl j=>(l,j)) 256 (λj L=>BkQ q k j L) (λr=> ∃L',r= .inl (L',k+1)/\BkQ q (k+1) 0 L')
    (by
      intro j L hj hI
      left
      have hz:=oC hq hk hj
      have hlen:=hI.len
      show ∃s',Ns q k L j=_/\_
      unfold Ns
      have e:nth (nth q.next k []) j 0=nxQ q k j:=rfl
      rw [bV (by omega)]
      simp only [e]
      by_cases c:0<=nxQ q k j
      · have hzl:(nxQ q k j).toNat<q.next.length:=by omega
        have hg:0<=nxQ q k j/\nxQ q k j<(L.length:Int):=by omega
        have hfew:=hI.few _ hzl
        rw [bV c,aH hg]
        by_cases d:(nth L (nxQ q k j).toNat []).length=0
        · rw [bV (by omega),aH hg,aH (by simp only [jZ];omega),aH hg]
          exact ⟨_,rfl,hI.put hzl (by omega)⟩
        have hw:IntKind.i64.wrap ((((nth L (nxQ q k j).toNat []).length:Nat):Int) - 1)=(((nth L (nxQ q k j).toNat []).length - 1:Nat):Int):=by
          rw [UK (by omega) (by omega)];omega
        rw [bQ (by omega),aH hg,aH hg,hw,aH (by omega),iT]
        by_cases f:nth (nth L (nxQ q k j).toNat []) ((nth L (nxQ q k j).toNat []).length - 1) 0=((k:Nat):Int)
        · rw [bQ (λh=>h f)]
          refine ⟨_,rfl,hI.has hzl (by omega) ?_⟩
          have:=zp_ (l:=nth L (nxQ q k j).toNat []) (λh=>d (by rw [h];rfl))
          rw [f]at this;exact this
        rw [bV f,aH hg,aH (by simp only [jZ];omega),aH hg]
        exact ⟨_,rfl,hI.put hzl (by omega)⟩
      rw [bQ c]
      exact ⟨_,rfl,hI.skip (by omega)⟩)
    (by
      intro L hI
      refine ⟨.inl (L,k+1),?_,L,rfl,hI.len,λz hz s=> ?_,λz hz=>by have:=hI.few z hz;omega⟩
      · show Ns q k L 256=_
        unfold Ns
        rw [bQ (by omega)];rfl
      rw [hI.mem z hz]
      constructor
      · rintro ⟨t,e,⟨c,hx⟩|⟨c,hx⟩⟩
        · exact ⟨t,e,.inl ⟨by omega,hx⟩⟩
        exact ⟨t,e,.inl ⟨by omega,hx⟩⟩
      rintro ⟨t,e,⟨c,hx⟩|⟨c,b,hb,hx⟩⟩
      · by_cases d:t=k
        · exact ⟨t,e,.inr ⟨d,hx⟩⟩
        exact ⟨t,e,.inl ⟨by omega,hx⟩⟩
      omega) (s0:=L) hL
  exact ⟨L',h1,h2⟩
structure PshQ (m:Seq):Prop where
  lt: ∀s b,s<m.next.length->b<256->nxQ m s b<(m.next.length:Int)
  live: ∀s,s<m.next.length->V4 m s
  bare: ∀s,s<m.next.length-> ∀p,ComQ m s p->p=[]
def nxC(m:Seq)(c:Nat):Int:=nxQ m (c / 256) (c % 256)
structure CanQ (m:Seq):Prop extends PshQ m where
  right:eH m=true
  first: ∀c j,c<m.next.length * 256->nxC m c=((j:Nat):Int)-> ∀k,0<k->k<j-> ∃c',c'<c/\nxC m c'=((k:Nat):Int)
  come: ∀j,0<j->j<m.next.length-> ∃c,c<j * 256/\nxC m c=((j:Nat):Int)
  apart: ∀s t,s<m.next.length->t<m.next.length->cu m s=cu m t->s=t
theorem jg_{q:Seq}{s b:Nat}(hb:b<256)(h0:0<=nxQ q s b)(w:T_1):cu q s (UInt8.ofNat b::w)=(cu q (nxQ q s b).toNat w).map λy=>otQ q s b++y:=by
  rw [cu,VO hb,if_neg (by omega)]
theorem qz_{q:Seq}{s b:Nat}(hb:b<256)(h0:nxQ q s b<0)(w:T_1):cu q s (UInt8.ofNat b::w)=none:=by
  rw [cu,VO hb,if_pos h0]
theorem p5_{m m':Seq}(h:PshQ m){z z':Nat}(hz:z<m.next.length){o r:T_1}(he: ∀w,(cu m z w).map (λy=>o++y)=(cu m' z' w).map λy=>(o++r)++y):r=[]:=by
  refine h.bare z hz r λw y hy=> ?_
  have:=he w
  rw [hy]at this
  cases ho:cu m' z' w with
  |none=>rw [ho]at this;cases this
  |some y'=>
    rw [ho]at this
    have this:o++y=(o++r)++y':=Option.some.inj this
    rw [qA]at this
    exact ⟨y',(List.append_cancel_left this).symm⟩
theorem Lu {m m' : Seq} (h : PshQ m) (h' : PshQ m') {s t b : Nat} (hs : s < m.next.length) (ht : t < m'.next.length) (hb : b < 256) (he : cu m s = cu m' t) (h0 : 0 <= nxQ m s b) :
    0<=nxQ m' t b/\otQ m s b=otQ m' t b/\cu m (nxQ m s b).toNat=cu m' (nxQ m' t b).toNat:=by
  have hz:=h.lt _ _ hs hb
  obtain ⟨w,y,hy⟩:=h.live (nxQ m s b).toNat (by omega)
  have h1:cu m s (UInt8.ofNat b::w)=some (otQ m s b++y):=by rw [jg_ hb h0,hy];rfl
  have h0':0<=nxQ m' t b:=by
    by_cases c:0<=nxQ m' t b
    · exact c
    rw [he,qz_ hb (by omega)]at h1;cases h1
  have hz':=h'.lt _ _ ht hb
  have hall: ∀w,(cu m (nxQ m s b).toNat w).map (λy=>otQ m s b++y)=(cu m' (nxQ m' t b).toNat w).map λy=>otQ m' t b++y:=λw=>by
    rw [<-jg_ hb h0,<-jg_ hb h0',he]
  have ho:otQ m s b=otQ m' t b:=by
    have h2:=hall w
    rw [hy]at h2
    cases ho:cu m' (nxQ m' t b).toNat w with
    |none=>rw [ho]at h2;cases h2
    |some y'=>
      rw [ho]at h2
      have h3:otQ m s b++y=otQ m' t b++y':=Option.some.inj h2
      rcases List.prefix_or_prefix_of_prefix (List.prefix_append (otQ m s b) y) (h3▸List.prefix_append (otQ m' t b) y')with ⟨r,hr⟩|⟨r,hr⟩
      · have:r=[]:=p5_ h (show (nxQ m s b).toNat<_ by omega) (o:=otQ m s b) (r:=r) (m':=m') (z':=(nxQ m' t b).toNat) λw=>by rw [hr];exact hall w
        rw [<-hr,this,List.append_nil]
      have:r=[]:=p5_ h' (show (nxQ m' t b).toNat<_ by omega) (o:=otQ m' t b) (r:=r) (m':=m) (z':=(nxQ m s b).toNat) λw=>by rw [hr];exact (hall w).symm
      rw [<-hr,this,List.append_nil]
  refine ⟨h0',ho,funext λw=> ?_⟩
  have h2:=hall w
  rw [ho]at h2
  cases h3:cu m (nxQ m s b).toNat w with
  |none=>cases h4:cu m' (nxQ m' t b).toNat w with
    |none=>rfl
    |some y'=>rw [h3,h4]at h2;cases h2
  |some y=>cases h4:cu m' (nxQ m' t b).toNat w with
    |none=>rw [h3,h4]at h2;cases h2
    |some y'=>
      rw [h3,h4]at h2
      have h5:otQ m' t b++y=otQ m' t b++y':=Option.some.inj h2
      rw [List.append_cancel_left h5]
theorem least{P:Nat->Prop}{c:Nat}(h:P c): ∃d,d<=c/\P d/\ ∀e,e<d-> ¬ P e:=by
  induction c using Nat.strongRecOn with
  |ind c ih=>
    by_cases k: ∃e,e<c/\P e
    · obtain ⟨e,k1,k2⟩:=k
      obtain ⟨d,h1,h2⟩:=ih e k1 k2
      exact ⟨d,by omega,h2⟩
    exact ⟨c,Nat.le_refl _,h,λe he hp=>k ⟨e,he,hp⟩⟩
theorem s2_{m m':Seq}(h:CanQ m)(h':CanQ m')(he:cu m 0 =cu m' 0)(j:Nat):j<m.next.length->j<m'.next.length->cu m j=cu m' j:=by
  induction j using Nat.strongRecOn with
  |ind j ih=>
    intro hj hj'
    by_cases c0:j=0
    · rw [c0];exact he
    obtain ⟨c1,hc1,hx1⟩:=h.come j (by omega) hj
    obtain ⟨c,hc,hx,hl⟩:=least (P:=λc=>nxC m c=((j:Nat):Int)) hx1
    have hi:=ih (c / 256) (by omega) (by omega) (by omega)
    have h0 : 0 ≤ nxQ m (c / 256) (c % 256) := by have : nxQ m (c / 256) (c % 256) = ((j : Nat) : Int) := hx
                                                  omega
    obtain ⟨k1,k2,k3⟩:=Lu h.toPshQ h'.toPshQ (by omega) (show c / 256<_ by omega) (show c % 256<256 by omega) hi h0
    have kl:=oC h'.right (show c / 256<m'.next.length by omega) (show c % 256<256 by omega)
    rw [show nxQ m (c / 256) (c % 256)=((j:Nat):Int)from hx,iT]at k3
    obtain ⟨k,hk⟩: ∃k:Nat,nxQ m' (c / 256) (c % 256)=((k:Nat):Int):=⟨(nxQ m' (c / 256) (c % 256)).toNat,by omega⟩
    rw [hk,iT]at k3
    by_cases ck:k=j
    · rw [ck]at k3;exact k3
    by_cases ck2:k<j
    · have:=ih k ck2 (by omega) (by omega)
      exact absurd (h.apart k j (by omega) hj (this.trans k3.symm)) ck
    obtain ⟨c',d1,d2⟩:=h'.first c k (by omega) hk j (by omega) (by omega)
    have hi':=ih (c' / 256) (by omega) (by omega) (by omega)
    have h0' : 0 ≤ nxQ m' (c' / 256) (c' % 256) := by have : nxQ m' (c' / 256) (c' % 256) = ((j : Nat) : Int) := d2
                                                      omega
    obtain ⟨e1,e2,e3⟩:=Lu h'.toPshQ h.toPshQ (show c' / 256<_ by omega) (show c' / 256<_ by omega) (show c' % 256<256 by omega) hi'.symm h0'
    have el:=oC h.right (show c' / 256<m.next.length by omega) (show c' % 256<256 by omega)
    rw [show nxQ m' (c' / 256) (c' % 256)=((j:Nat):Int)from d2,iT]at e3
    obtain ⟨k',hk'⟩: ∃k:Nat,nxQ m (c' / 256) (c' % 256)=((k:Nat):Int):=⟨(nxQ m (c' / 256) (c' % 256)).toNat,by omega⟩
    rw [hk',iT]at e3
    by_cases cj:k'=j
    · rw [cj]at hk';exact absurd hk' (hl c' d1)
    by_cases cj2:k'<j
    · have:=ih k' cj2 (by omega) (by omega)
      exact absurd (h'.apart j k' hj' (by omega) (e3.trans this)) (by omega)
    obtain ⟨c'',f1,f2⟩:=h.first c' k' (by omega) hk' j (by omega) (by omega)
    exact absurd f2 (hl c'' (by omega))
theorem vp_{m m':Seq}(h:CanQ m)(h':CanQ m')(he:cu  m 0=cu m' 0)(h0:0<m.next.length):m'.next.length<=m.next.length:=by
  by_cases c:m'.next.length<=m.next.length
  · exact c
  obtain ⟨c1,hc,hx⟩:=h'.come m.next.length h0 (by omega)
  have hi:=s2_ h h' he (c1 / 256) (by omega) (by omega)
  have h1 : 0 ≤ nxQ m' (c1 / 256) (c1 % 256) := by have : nxQ m' (c1 / 256) (c1 % 256) = ((m.next.length : Nat) : Int) := hx
                                                   omega
  obtain ⟨e1,e2,e3⟩:=Lu h'.toPshQ h.toPshQ (show c1 / 256<_ by omega) (show c1 / 256<_ by omega) (show c1 % 256<256 by omega) hi.symm h1
  have el:=oC h.right (show c1 / 256<m.next.length by omega) (show c1 % 256<256 by omega)
  rw [show nxQ m' (c1 / 256) (c1 % 256)=((m.next.length:Nat):Int)from hx,iT]at e3
  have:=s2_ h h' he (nxQ m (c1 / 256) (c1 % 256)).toNat (by omega) (by omega)
  have:=h'.apart _ _ (by omega) (by omega) (e3.trans this)
  omega
theorem LD{m:Seq}(h:m.next=[])(hf:m.fin=[]): ∀(w:T_1) (s:Nat),cu m s w=none
  |[],s=>by rw [cu,hf,if_neg (by simp [nth])]
  |b::w,s=>by
    rw [cu]
    split
    · rfl
    rw [LD h hf w];rfl
theorem G8_{m m':Seq}(h1:m.front=m'.front)(h2:m.next=m'.next)(h3:m.outs=m'.outs)(h4:m.fin=m'.fin)(h5:m.tail=m'.tail):m=m':=by
  cases m;cases m';simp only at h1 h2 h3 h4 h5;subst h1 h2 h3 h4 h5;rfl
theorem yb_ {m m' : Seq} (h : CanQ m) (h' : CanQ m') (hf : m.front = m'.front) (he : cu m 0 = cu m' 0) : m = m' := by
  obtain ⟨q1,q2,q3,q4,q5⟩:=ni h.right
  obtain ⟨p1,p2,p3,p4,p5⟩:=ni h'.right
  have hz:m.next.length=0↔m'.next.length=0:=by
    constructor
    · intro h0
      by_cases c:m'.next.length=0
      · exact c
      obtain ⟨w,y,hy⟩:=h'.live 0 (by omega)
      rw [<-he,LD (oU h0) (oU (by omega))]at hy
      cases hy
    intro h0
    by_cases c:m.next.length=0
    · exact c
    obtain ⟨w,y,hy⟩:=h.live 0 (by omega)
    rw [he,LD (oU h0) (oU (by omega))]at hy
    cases hy
  have hl:m.next.length=m'.next.length:=by
    by_cases c:m.next.length=0
    · rw [c,hz.1 c]
    exact Nat.le_antisymm (vp_ h' h he.symm (by omega)) (vp_ h h' he (by omega))
  have hs: ∀s,s<m.next.length->cu m s=cu m' s:=λs k=>s2_ h h' he s k (by omega)
  have hnx: ∀s b,s<m.next.length->b<256->nxQ m s b=nxQ m' s b:=λs b k hb=>by
    have g1:=sb_ h.right k hb
    have g2:=sb_ h'.right (show s<m'.next.length by omega) hb
    have g3:=oC h.right k hb
    have g4:=oC h'.right (show s<m'.next.length by omega) hb
    by_cases c:0<=nxQ m s b
    · obtain ⟨e1,e2,e3⟩:=Lu h.toPshQ h'.toPshQ k (by omega) hb (hs s k) c
      have:=hs _ (show (nxQ m s b).toNat<_ by omega)
      have:=h'.apart _ _ (by omega) (by omega) (this.symm.trans e3)
      omega
    by_cases c':0<=nxQ m' s b
    · obtain ⟨e1,_⟩:=Lu h'.toPshQ h.toPshQ (by omega) k hb (hs s k).symm c'
      exact absurd e1 c
    omega
  have hot: ∀s b,s<m.next.length->b<256->otQ m s b=otQ m' s b:=λs b k hb=>by
    by_cases c:0<=nxQ m s b
    · exact (Lu h.toPshQ h'.toPshQ k (by omega) hb (hs s k) c).2.1
    rw [Ti h.right k hb (by omega),Ti h'.right (by omega) hb (by rw [<-hnx s b k hb];omega)]
  have hend: ∀s,s<m.next.length->nth m.fin s false=nth m'.fin s false/\nth m.tail s []=nth m'.tail s []:=λs k=>by
    have e:=congrFun (hs s k) []
    rw [cu,cu]at e
    have t1:=(HY h.right k).2
    have t2:=(HY h'.right (show s<m'.next.length by omega)).2
    cases c1:nth m.fin s false with
    |true=>cases c2:nth m'.fin s false with
      |true=>rw [c1,c2,if_pos rfl,if_pos rfl]at e;exact ⟨rfl,Option.some.inj e⟩
      |false=>rw [c1,c2,if_pos rfl,if_neg (by decide)]at e;cases e
    |false=>cases c2:nth m'.fin s false with
      |true=>rw [c1,c2,if_pos rfl,if_neg (by decide)]at e;cases e
      |false=>
        rw [c1]at t1;rw [c2]at t2
        rcases t1 with t1|t1
        · cases t1
        rcases t2 with t2|t2
        · cases t2
        exact ⟨rfl,t1.trans t2.symm⟩
  refine G8_ hf (Hz [] hl λs k=> ?_) (Hz [] (by omega) λs k=> ?_) (Hz false (by omega) λs k=>(hend s (by omega)).1) (Hz [] (by omega) λs k=>(hend s (by omega)).2)
  · have r1:=vM h.right k
    have r2:=vM h'.right (show s<m'.next.length by omega)
    exact Hz 0 (by omega) λb hb=>hnx s b k (by omega)
  have r1:=vM h.right (show s<m.next.length by omega)
  have r2:=vM h'.right (show s<m'.next.length by omega)
  exact Hz [] (by omega) λb hb=>hot s b (by omega) (by omega)
theorem Tf{α:Type}(l:List α){i:Nat}(h:i<l.length)(d:α):nth l i d=l[i]:=by
  have a:=getD_some l h d
  rw [List.getElem?_eq_getElem h]at a
  exact (Option.some.inj a).symm
theorem ya_{l:List Nat}(h: ∀i j,i<l.length->j<l.length->nth l i 0=nth l j 0->i=j):l.Nodup:=
  List.pairwise_iff_getElem.2 λi j hi hj hij e=>by
    have:=h i j hi hj (by rw [Tf l hi,Tf l hj];exact e)
    omega
structure RowK (q:Seq) (s:Nat):Prop where
  tail:(nth q.tail s []).length<=4096
  fin:nth q.fin s false=true\/nth q.tail s []=[]
  n:(nth q.next s []).length=256
  o:(nth q.outs s []).length=256
  lo: ∀b,b<256-> -1<=nxQ q s b
  hi: ∀b,b<256->nxQ q s b<(q.next.length:Int)
  le: ∀b,b<256->(otQ q s b).length<=4096
  no: ∀b,b<256->nxQ q s b= -1->otQ q s b=[]
theorem r9_{q:Seq}(h1:q.next.length<=1024)(h2:q.outs.length=q.next.length)(h3:q.fin.length=q.next.length)(h4:q.tail.length=q.next.length)(h5:q.front.length<=4096)(h6:q.next.length≠0\/q.front=[])
    (h7: ∀s,s<q.next.length->RowK q s):eH q=true:=by
  unfold eH gi_
  simp only [Bool.and_eq_true,Bool.or_eq_true,lg]
  refine ⟨⟨⟨⟨⟨⟨h1,h2⟩,h3⟩,h4⟩,h5⟩,h6⟩,ZV.2 λs hs=> ?_⟩
  have k:=h7 s hs
  simp only [Es,NS,Bool.and_eq_true,Bool.or_eq_true,lg]
  refine ⟨⟨k.tail,k.fin⟩,⟨k.n,k.o⟩,ZV.2 λb hb=> ?_⟩
  simp only [Fq,Bool.and_eq_true,Bool.or_eq_true,lg]
  refine ⟨⟨⟨k.lo b hb,k.hi b hb⟩,k.le b hb⟩,?_⟩
  by_cases c:nxQ q s b= -1
  · exact .inr (k.no b hb c)
  exact .inl c
theorem rightQ_row{q:Seq}(h:eH q=true){s:Nat}(hs:s<q.next.length):RowK q s:=
  ⟨(HY h hs).1,(HY h hs).2,(vM h hs).1,(vM h hs).2,λ_ hb=>sb_ h hs hb,λ_ hb=>oC h hs hb,λ_ hb=>O8 h hs hb,λ_ hb c=>Ti h hs hb (by omega)⟩
structure MinQ (r m:Seq) (st:List Nat):Prop where
  front:m.front=r.front
  n:m.next.length=st.length
  o:m.outs.length=st.length
  f:m.fin.length=st.length
  t:m.tail.length=st.length
  pos:0<st.length
  rng: ∀i,i<st.length->nth st i 0<r.next.length
  zero:cu r (nth st 0 0)=cu r 0
  dist: ∀i j,i<st.length->j<st.length->cu r (nth st i 0)=cu r (nth st j 0)->i=j
  len: ∀i,i<st.length->(nth m.next i []).length=256
  outs: ∀i,i<st.length->nth m.outs i []=nth r.outs (nth st i 0) []
  fin: ∀i,i<st.length->nth m.fin i false=nth r.fin (nth st i 0) false
  tail: ∀i,i<st.length->nth m.tail i []=nth r.tail (nth st i 0) []
  none: ∀i b,i<st.length->b<256->nxQ r (nth st i 0) b<0->nxQ m i b= -1
  some: ∀i b,i<st.length->b<256->0<=nxQ r (nth st i 0) b-> ∃j:Nat,j<st.length/\nxQ m i b=((j:Nat):Int)/\cu r (nth st j 0)=cu r (nxQ r (nth st i 0) b).toNat
  first: ∀c j,c<st.length * 256->nxC m c=((j:Nat):Int)-> ∀k,0<k->k<j-> ∃c',c'<c/\nxC m c'=((k:Nat):Int)
  come: ∀j,0<j->j<st.length-> ∃c,c<j * 256/\nxC m c=((j:Nat):Int)
theorem MinQ.out{r m:Seq}{st:List Nat}(h:MinQ r m st): ∀(w:T_1) (i:Nat),i<st.length->cu m i w=cu r (nth st i 0) w
  |[],i,hi=>by rw [cu,cu,h.fin i hi,h.tail i hi]
  |b::w,i,hi=>by
    have hb:b.toNat<256:=by have:=UInt8.toNat_lt b;omega
    rw [cu,cu]
    by_cases c:nxQ r (nth st i 0) b.toNat<0
    · rw [if_pos c,if_pos (by rw [h.none i _ hi hb c];decide)]
    obtain ⟨j,h1,h2,h3⟩:=h.some i _ hi hb (by omega)
    rw [if_neg c,if_neg (by omega),h2,iT,h.out w j h1,h3]
    rw [show otQ m i b.toNat=otQ r (nth st i 0) b.toNat by unfold otQ;rw [h.outs i hi]]
theorem MinQ.nodup{r m:Seq}{st:List Nat}(h:MinQ r m st):st.Nodup:=ya_ λi j hi hj e=>h.dist i j hi hj (by rw [e])
theorem MinQ.le{r m:Seq}{st:List Nat}(h:MinQ r m st):st.length<=r.next.length:=by
  have h2:=Z4 h.nodup (m:=List.range r.next.length) λx hx=>by
    obtain ⟨i,hi,rfl⟩:=List.getElem_of_mem hx
    rw [<-Tf st hi 0]
    exact List.mem_range.2 (h.rng i hi)
  rw [List.length_range]at h2;exact h2
theorem MinQ.right{r m:Seq}{st:List Nat}(h:MinQ r m st)(hr:eH r=true):eH m=true:=by
  obtain ⟨q1,q2,q3,q4,q5⟩:=ni hr
  have h0:=h.le
  have hn:=h.n
  have ho:=h.o
  have hf:=h.f
  have ht:=h.t
  have hp:=h.pos
  refine r9_ (by omega) (by omega) (by omega) (by omega) (by rw [h.front];exact q5) (.inl (by omega)) λs hs=> ?_
  have hs:s<st.length:=by omega
  have k:=rightQ_row hr (h.rng s hs)
  have eo: ∀b,otQ m s b=otQ r (nth st s 0) b:=λb=>by unfold otQ;rw [h.outs s hs]
  refine ⟨by rw [h.tail s hs];exact k.tail,by rw [h.tail s hs,h.fin s hs];exact k.fin,h.len s hs,by rw [h.outs s hs];exact k.o,λb hb=> ?_,λb hb=> ?_,λb hb=>by rw [eo];exact k.le b hb,λb hb c=> ?_⟩
  · by_cases c:nxQ r (nth st s 0) b<0
    · rw [h.none s b hs hb c];omega
    obtain ⟨j,h1,h2,h3⟩:=h.some s b hs hb (by omega)
    omega
  · by_cases c:nxQ r (nth st s 0) b<0
    · rw [h.none s b hs hb c];omega
    obtain ⟨j,h1,h2,h3⟩:=h.some s b hs hb (by omega)
    omega
  rw [eo]
  by_cases c':nxQ r (nth st s 0) b<0
  · exact Ti hr (h.rng s hs) hb c'
  obtain ⟨j,h1,h2,h3⟩:=h.some s b hs hb (by omega)
  omega
theorem MinQ.can{r m:Seq}{st:List Nat}(h:MinQ r m st)(hr:PshQ r)(hR:eH r=true):CanQ m/\cu m 0=cu r 0/\m.next.length<=r.next.length:=by
  have hn:=h.n
  have ho: ∀i,i<st.length->cu m i=cu r (nth st i 0):=λi hi=>funext λw=>h.out w i hi
  refine ⟨⟨⟨λs b hs hb=>oC (h.right hR) hs hb,λs hs=> ?_,λs hs p hp=> ?_⟩,h.right hR,λc j hc=>h.first c j (by omega),λj h1 h2=>h.come j h1 (by omega),λs t hs ht e=> ?_⟩,(ho 0 h.pos).trans h.zero,by have:=h.le;omega⟩
  · obtain ⟨w,y,hy⟩:=hr.live _ (h.rng s (by omega))
    exact ⟨w,y,by rw [ho s (by omega)];exact hy⟩
  · refine hr.bare _ (h.rng s (by omega)) p λw y hy=>hp w y ?_
    rw [ho s (by omega)];exact hy
  rw [ho s (by omega),ho t (by omega)]at e
  exact h.dist s t (by omega) (by omega) e
theorem Du{α:Type}{l:List α}{s i:Nat}{x d:α}(h:i≠s):nth (l.set s x) i d=nth l i d:=by rw [jP,if_neg (λk=>h k.1.symm)]
theorem GN{α:Type}{l:List α}{s:Nat}{x d:α}(h:s<l.length):nth (l.set s x) s d=x:=by rw [jP,if_pos ⟨rfl,h⟩]
structure WtQ (n:Nat) (w:ak) (ws:B_1):Prop where
  nd:w.Nodup
  rng: ∀z∈w,0<=z/\z<(n:Int)
  ln:ws.length=n
  wm: ∀s,s<n->(nth ws s false=true↔((s:Nat):Int)∈w)
theorem WtQ.len{n:Nat}{w:ak}{ws:B_1}(h:WtQ n w ws):w.length<=n:=by
  have h2:=Z4 h.nd (m:=(List.range n).map λi:Nat=>((i:Nat):Int)) λz hz=>by
    have:=h.rng z hz
    exact List.mem_map.2 ⟨z.toNat,List.mem_range.2 (by omega),by omega⟩
  rw [List.length_map,List.length_range]at h2;exact h2
theorem WtQ.push{n:Nat}{w:ak}{ws:B_1}(h:WtQ n w ws){s:Nat}(hs:s<n)(hn:nth ws s false=false):WtQ n (w++[((s:Nat):Int)]) (ws.set s true):=by
  have hl:=h.ln
  have hnm:((s:Nat):Int)∉w:=λhm=>by
    have:=(h.wm s hs).2 hm
    rw [hn]at this;cases this
  refine ⟨?_,λz hz=> ?_,by rw [fQ];exact hl,λz hz=> ?_⟩
  · rw [List.nodup_append]
    refine ⟨h.nd,List.pairwise_singleton _ _,λa ha b hb e=> ?_⟩
    rw [yB]at hb
    rw [e,hb]at ha;exact hnm ha
  · rcases List.mem_append.1 hz with hz|hz
    · exact h.rng z hz
    rw [yB]at hz;omega
  rw [jP,List.mem_append,yB]
  by_cases c:s=z
  · subst c
    rw [if_pos ⟨rfl,by omega⟩];simp
  rw [if_neg (λq=>c q.1),h.wm z hz]
  constructor
  · exact .inl
  rintro (k|k)
  · exact k
  omega
theorem WtQ.pop{n:Nat}{s:Nat}{w:ak}{ws:B_1}(h:WtQ n (((s:Nat):Int)::w) ws):WtQ n w (ws.set s false):=by
  have hs:=(h.rng _ (ji ..)).2
  have hl:=h.ln
  have hnd:=List.nodup_cons.1 h.nd
  refine ⟨hnd.2,λz hz=>h.rng z (o7 _ hz),by rw [fQ];exact hl,λz hz=> ?_⟩
  rw [jP]
  by_cases c:s=z
  · subst c
    rw [if_pos ⟨rfl,by omega⟩]
    exact ⟨λq=>(by cases q),λq=>absurd q hnd.1⟩
  rw [if_neg (λq=>c q.1),h.wm z hz,List.mem_cons]
  constructor
  · rintro (k|k)
    · omega
    exact k
  exact .inr
def Ba(m:B_1)(i:Nat):Nat:=if nth m i false=true then 1 else 0
theorem cntM_le(m:B_1)(n:Nat):jg (Ba m) n<=n:=by
  have:=p4_ (f:=Ba m) (g:=λ_=>1) (n:=n) λi _=>by unfold Ba;split<;>omega
  rw [j4_]at this;omega
structure FrB (q:Seq) (l:aB) (m:B_1):Prop where
  fr:FrI q l m
  dn:vq_ q l m
  len: ∀s,s<q.next.length->nth m s false=true->(nth l s []).length<=4096 * jg (Ba m) q.next.length
theorem FrB.le{q:Seq}(hq:eH q=true){l:aB}{m:B_1}(h:FrB q l m): ∀s,s<q.next.length->nth m s false=true->(nth l s []).length<=4194304:=λs hs hm=>by
  have h1:=h.len s hs hm
  have h2:=cntM_le m q.next.length
  have h3:=(ni hq).1
  omega
theorem FrB.put{q:Seq}(hq:eH q=true){l:aB}{m:B_1}(h:FrB q l m){s:Nat}(hs:s<q.next.length)(hn:jT q l m s≠[]):FrB q (l.set s (iZ (jT q l m s))) (m.set s true):=by
  have hl:=h.fr.ln
  have hm:=h.fr.mn
  have hcnt:jg (Ba (m.set s true)) q.next.length+Ba m s=jg (Ba m) q.next.length+1:=by
    have:=ji_ (f:=Ba m) (g:=Ba (m.set s true)) (s:=s) (n:=q.next.length) hs λi hi hne=>by
      unfold Ba;rw [Du hne]
    have e:Ba (m.set s true) s=1:=by unfold Ba;rw [GN (by omega)];rfl
    omega
  have hc1:Ba m s<=1:=by unfold Ba;split<;>omega
  refine ⟨h.fr.put hq hs hn,h.dn.put hq hs hl hm hn,λz hz hz2=> ?_⟩
  rw [jP]at hz2 ⊢
  by_cases c:s=z
  · subst c
    rw [if_pos ⟨rfl,by omega⟩]
    cases hms:nth m s false with
    |true=>
      have k1:=(h.dn s hs hms).2.length_le
      have k2:=h.len s hs hms
      omega
    |false=>
      have e0:Ba m s=0:=by unfold Ba;rw [hms];rfl
      have:=xz_ (L:=jT q l m s) (k:=4096+4096 * jg (Ba m) q.next.length) (kb_ hq hs (λz hz hz2=>h.len z hz hz2) (Nat.le_refl _))
      omega
  rw [if_neg (λk=>c k.1)]at hz2 ⊢
  have:=h.len z hz hz2
  omega
def yX(l:aB)(m:B_1)(i:Nat):Nat:=if nth m i false=true then (nth l i []).length else 4200000
theorem FrB.mea{q:Seq}(hq:eH q=true){l:aB}{m:B_1}(h:FrB q l m){s:Nat}(hs:s<q.next.length)(hc:nth m s false=true->iZ (jT q l m s)≠nth l s []):
    jg (yX (l.set s (iZ (jT q l m s))) (m.set s true)) q.next.length<jg (yX l m) q.next.length:=by
  have hl:=h.fr.ln
  have hm:=h.fr.mn
  have h1:=ji_ (f:=yX l m) (g:=yX (l.set s (iZ (jT q l m s))) (m.set s true)) (s:=s) hs λi hi hne=>by
    unfold yX;rw [Du hne,Du hne]
  have e:yX (l.set s (iZ (jT q l m s))) (m.set s true) s=(iZ (jT q l m s)).length:=by
    unfold yX;rw [GN (by omega),GN (by omega),if_pos rfl]
  have e2:(iZ (jT q l m s)).length<yX l m s:=by
    unfold yX
    cases hms:nth m s false with
    |true=>
      rw [if_pos rfl]
      have k1:=(h.dn s hs hms).2
      refine Nat.lt_of_le_of_ne k1.length_le λk2=>hc hms (k1.eq_of_length k2)
    |false=>
      rw [if_neg (by decide)]
      have:=xz_ (L:=jT q l m s) (k:=4096+4194304) (kb_ hq hs (h.le hq) (Nat.le_refl _))
      omega
  omega
structure WkQ (q:Seq) (l:aB) (m:B_1) (w:ak) (ws:B_1):Prop extends FrB q l m where
  wt:WtQ q.next.length w ws
  ne: ∀z∈w,jT q l m z.toNat≠[]
  done: ∀s,s<q.next.length->((s:Nat):Int)∉w->MV q l m s
theorem zo_{q:Seq}{l l':aB}{m m':B_1}{s z:Nat}(h: ∀b,b<256->nxQ q z b≠((s:Nat):Int))(hl: ∀i,i≠s->nth l' i []=nth l i [])(hm: ∀i,i≠s->nth m' i false=nth m i false):jT q l' m' z=jT q l m z:=by
  unfold jT vI
  congr 1
  have key: ∀b∈List.range 256,G8 q l' m' z b=G8 q l m z b:=λb hb=>by
    have hb:=List.mem_range.1 hb
    unfold G8
    by_cases c:0<=nxQ q z b
    · have hne:(nxQ q z b).toNat≠s:=λe=>h b hb (by omega)
      rw [hl _ hne,hm _ hne]
    rw [if_neg (λk=>c k.1),if_neg (λk=>c k.1)]
  rw [List.flatMap_def,List.flatMap_def,List.map_congr_left key]
theorem WkQ.put {q : Seq} (hq : eH q = true) {L : bW} (hL : BkQ q q.next.length 0 L) {l : aB} {m : B_1} {s : Nat} {w w' : ak} {ws ws' : B_1} (h : WkQ q l m (((s : Nat) : Int) :: w) ws)
    (hw:WtQ q.next.length w' ws') (h1: ∀z∈w,z∈w') (h2: ∀z∈nth L s [],z∈w') (h3: ∀z∈w',z∈w\/z∈nth L s []):WkQ q (l.set s (iZ (jT q l m s))) (m.set s true) w' ws':=by
  have hs:=(h.wt.rng _ (ji ..)).2
  have hs:s<q.next.length:=by omega
  have hn:=h.ne _ (ji ..)
  rw [iT]at hn
  have hl:=h.fr.ln
  have hm:=h.fr.mn
  have hle:=z1_ h.dn hs hl hm
  have hcov: ∀z,z<q.next.length-> ∀b,b<256->nxQ q z b=((s:Nat):Int)->((z:Nat):Int)∈nth L s []:=λz hz b hb hx=>(hL.mem s hs _).2 ⟨z,rfl,.inl ⟨hz,b,hb,hx⟩⟩
  refine ⟨h.toFrB.put hq hs hn,hw,λz hz=> ?_,λz hz hz2=> ?_⟩
  · have hzr:=hw.rng z hz
    rcases h3 z hz with hz|hz
    · obtain ⟨x,hx⟩:=List.exists_mem_of_ne_nil _ (h.ne z (o7 _ hz))
      obtain ⟨x',hx',_⟩:=hle.all hq (show z.toNat<_ by omega) x hx
      exact List.ne_nil_of_mem hx'
    obtain ⟨t,rfl,⟨c,b,hb,hx⟩|⟨_,b,hb,_⟩⟩:=(hL.mem s hs _).1 hz
    · rw [iT]
      have hmem:otQ q t b++nth (l.set s (iZ (jT q l m s))) (nxQ q t b).toNat []∈jT q (l.set s (iZ (jT q l m s))) (m.set s true) t:=Tj.2 (.inr ⟨b,hb,by omega,by
        rw [hx,iT,jP,if_pos ⟨rfl,by omega⟩],rfl⟩)
      exact List.ne_nil_of_mem hmem
    omega
  have hno: ∀b,b<256->nxQ q z b≠((s:Nat):Int):=λb hb hx=>hz2 (h2 _ (hcov z hz b hb hx))
  have hsame:=zo_ (l:=l) (l':=l.set s (iZ (jT q l m s))) (m:=m) (m':=m.set s true) hno (λi hi=>by rw [jP,if_neg (λk=>hi k.1.symm)]) (λi hi=>by rw [jP,if_neg (λk=>hi k.1.symm)])
  unfold MV
  rw [hsame,jP,jP]
  by_cases c:s=z
  · subst c
    rw [if_pos ⟨rfl,by omega⟩,if_pos ⟨rfl,by omega⟩]
    exact ⟨λ_=>rfl,λk=>by cases k⟩
  rw [if_neg (λk=>c k.1),if_neg (λk=>c k.1)]
  refine h.done z hz λhm2=> ?_
  rcases List.mem_cons.1 hm2 with e|e
  · omega
  exact hz2 (h1 _ e)
theorem WkQ.drop{q:Seq}{l:aB}{m:B_1}{s:Nat}{w:ak}{ws:B_1}(h:WkQ q l m (((s:Nat):Int)::w) ws)(h1:nth m s false=true)(h2:iZ (jT q l m s)=nth l s []):WkQ q l m w (ws.set s false):=by
  refine ⟨h.toFrB,h.wt.pop,λz hz=>h.ne z (o7 _ hz),λz hz hz2=> ?_⟩
  by_cases c:z=s
  · subst c
    exact ⟨λ_=>h2.symm,λk=>by rw [h1]at k;cases k⟩
  refine h.done z hz λhm=> ?_
  rcases List.mem_cons.1 hm with e|e
  · omega
  exact hz2 e
theorem fr_in {q : Seq} {L : bW} (hL : BkQ q q.next.length 0 L) (hn : q.next.length <= 1024) {l : aB} {m : B_1} {s : Nat} (hs : s < q.next.length) {w : ak} {ws : B_1} (hw : WtQ q.next.length w ws) (f : T_1) (z0 : ak) (hz0 : (nth z0 0 0).toNat = s) :
    ∃w' ws',bC (λz:ak×B_1×Nat=>Nu L z0 l f m z.1 z.2.1 z.2.2) (w,ws,0)=some (.inl (l.set s f,m.set s true,w',ws'))/\WtQ q.next.length w' ws'/\(∀z∈w,z∈w')/\(∀z∈nth L s [],z∈w')/\ ∀z∈w',z∈w\/z∈nth L s []:=by
  obtain ⟨r,h1,w',ws',rfl,h2⟩:=kM (step:=λz:ak×B_1×Nat=>Nu L z0 l f m z.1 z.2.1 z.2.2) (λ(z:ak×B_1) k=>(z.1,z.2,k)) (nth L s []).length
    (λk z=>WtQ q.next.length z.1 z.2/\(∀y∈w,y∈z.1)/\(∀j,j<k->nth (nth L s []) j 0∈z.1)/\ ∀y∈z.1,y∈w\/y∈nth L s [])
    (λr=> ∃w' ws',r= .inl (l.set s f,m.set s true,w',ws')/\WtQ q.next.length w' ws'/\(∀z∈w,z∈w')/\(∀z∈nth L s [],z∈w')/\ ∀z∈w',z∈w\/z∈nth L s [])
    (by
      rintro k ⟨v,vs⟩ hk ⟨k1,k2,k3,k4⟩
      simp only at k1 k2 k3 k4
      left
      have hmem:=vU (0:Int) hk
      obtain ⟨t,e,⟨c,_⟩|⟨_,b,hb,_⟩⟩:=(hL.mem s hs _).1 hmem
      rotate_left
      · omega
      have hvl:=k1.len
      have hln:=k1.ln
      have hfew:=hL.few s hs
      show ∃s':ak×B_1,Nu L z0 l f m v vs k=some (.inl (s'.1,s'.2,k+1))/\_
      unfold Nu
      rw [hz0,bV (by omega),aH (by omega),e,iT]
      cases d:nth vs t false with
      |true=>
        rw [vJ,aH (by omega)]
        refine ⟨(v,vs),rfl,k1,k2,λj hj=> ?_,k4⟩
        by_cases cj:j<k
        · exact k3 j cj
        have:j=k:=by omega
        subst this
        show nth (nth L s []) j 0∈v
        rw [e];exact (k1.wm t c).1 d
      |false=>
        rw [zi,aH (by simp only [jZ];omega),aH (by omega),aH (by omega)]
        refine ⟨(v++[((t:Nat):Int)],vs.set t true),rfl,k1.push c d,λy hy=>List.mem_append_left _ (k2 y hy),λj hj=> ?_,λy hy=> ?_⟩
        · by_cases cj:j<k
          · exact List.mem_append_left _ (k3 j cj)
          have:j=k:=by omega
          subst this
          show nth (nth L s []) j 0∈v++_
          rw [e];exact List.mem_append_right _ (List.mem_singleton.2 rfl)
        rcases List.mem_append.1 hy with hy|hy
        · exact k4 y hy
        rw [yB]at hy
        rw [hy,<-e];exact .inr hmem)
    (by
      rintro ⟨v,vs⟩ ⟨k1,k2,k3,k4⟩
      simp only at k1 k2 k3 k4
      refine ⟨.inl (l.set s f,m.set s true,v,vs),?_,v,vs,rfl,k1,k2,λz hz=> ?_,k4⟩
      · show Nu L z0 l f m v vs (nth L s []).length=_
        unfold Nu
        rw [hz0,bQ (by omega)];rfl
      obtain ⟨j,hj,rfl⟩:=List.getElem_of_mem hz
      have:=k3 j hj
      rwa [Tf _ hj]at this) (s0:=(w,ws)) ⟨hw,λy hy=>hy,λj hj=>by omega,λy hy=> .inl hy⟩
  exact ⟨w',ws',h1,h2⟩
theorem fr_run {q : Seq} (hq : eH q = true) {L : bW} (hL : BkQ q q.next.length 0 L) {l : aB} {m : B_1} {w : ak} {ws : B_1} (h : WkQ q l m w ws) :
    ∃r,bC (λz:aB×B_1×ak×B_1=>Qx q L z.1 z.2.1 z.2.2.1 z.2.2.2) (l,m,w,ws)=some r/\FrOk q r.1 r.2:=by
  refine Pj (step:=λz:aB×B_1×ak×B_1=>Qx q L z.1 z.2.1 z.2.2.1 z.2.2.2) (λz=>WkQ q z.1 z.2.1 z.2.2.1 z.2.2.2) (λz=>jg (yX z.1 z.2.1) q.next.length * (q.next.length+1)+z.2.2.1.length) (λr=>FrOk q r.1 r.2) ?_ h
  rintro ⟨l,m,w,ws⟩ hI
  simp only at hI
  have hn:=(ni hq).1
  show (∃t',Qx q L l m w ws=some (.inl t')/\WkQ q t'.1 t'.2.1 t'.2.2.1 t'.2.2.2/\jg (yX t'.1 t'.2.1) q.next.length * (q.next.length+1)+t'.2.2.1.length<jg (yX l m) q.next.length * (q.next.length+1)+w.length)\/ ∃r,Qx q L l m w ws=some (.inr r)/\FrOk q r.1 r.2
  unfold Qx
  cases w with
  |nil=>
    right
    rw [bQ (by simp)]
    exact ⟨_,rfl,hI.fr.ok hq (hI.le hq) λs hs=>hI.done s hs (by simp)⟩
  |cons z w=>
    left
    have hz:=hI.wt.rng z (ji ..)
    obtain ⟨s,rfl⟩: ∃s:Nat,z=((s:Nat):Int):=⟨z.toNat,by omega⟩
    have hs:s<q.next.length:=by omega
    have hws:=hI.wt.ln
    have hml:=hI.fr.mn
    have hll:=hI.fr.ln
    have hLl:=hL.len
    have hfr:=u2_ hq hll hml hs (hI.le hq)
    have e0:nth (((s:Nat):Int)::w) 0 0=((s:Nat):Int):=rfl
    have e1:(((s:Nat):Int)::w).drop 1=w:=rfl
    rw [bV (by simp only [List.length_cons];omega),aH (by simp)]
    simp only [e0,e1]
    rw [aH (by omega),hfr,gJ,aH (by omega),iT]
    have hgo:(nth m s false=true->iZ (jT q l m s)≠nth l s [])-> ∃t',Da_ (((s:Nat):Int)::w) l m L (iZ (jT q l m s)) ws=some (.inl t')/\WkQ q t'.1 t'.2.1 t'.2.2.1 t'.2.2.2/\jg (yX t'.1 t'.2.1) q.next.length * (q.next.length+1)+t'.2.2.1.length<jg (yX l m) q.next.length * (q.next.length+1)+(((s:Nat):Int)::w).length:=by
      intro hc
      unfold Da_
      simp only [e0,e1]
      rw [aH (by omega),aH (by omega),aH (by omega),iT]
      obtain ⟨w',ws',k1,k2,k3,k4,k5⟩:=fr_in hL hn (l:=l) (m:=m) hs hI.wt.pop (iZ (jT q l m s)) (((s:Nat):Int)::w) (by rw [e0,iT])
      refine ⟨_,k1,hI.put hq hL k2 k3 k4 k5,?_⟩
      have h1:=hI.mea hq hs hc
      have h2:=k2.len
      show jg (yX (l.set s (iZ (jT q l m s))) (m.set s true)) q.next.length * (q.next.length+1)+w'.length<_
      have h3:=Nat.mul_le_mul_right (q.next.length+1) (Nat.succ_le_of_lt h1)
      rw [Nat.succ_mul]at h3
      omega
    cases hm:nth m s false with
    |true=>
      rw [iteO_true,aH (by omega)]
      by_cases c:iZ (jT q l m s)=nth l s []
      · rw [bV c]
        refine ⟨_,rfl,hI.drop hm c,?_⟩
        simp only [List.length_cons];omega
      rw [bQ c];exact hgo λ_=>c
    |false=>
      rw [iteO_false];exact hgo λk=>by rw [hm]at k;cases k
theorem fr_ends {q : Seq} (hq : eH q = true) {L : bW} (hL : BkQ q q.next.length 0 L) : ∃ r, Dw_ q L = some r /\ FrOk q r.1 r.2 := by
  obtain ⟨q1,q2,q3,q4,q5⟩:=ni hq
  unfold Dw_
  refine kM (step:=λz:ak×B_1×Nat=>Qz q L z.1 z.2.1 z.2.2) (λ(z:ak×B_1) k=>(z.1,z.2,k)) q.fin.length (λk z=>WtQ q.next.length z.1 z.2/\ ∀s:Nat,((s:Nat):Int)∈z.1↔s<k/\nth q.fin s false=true) (λr=>FrOk q r.1 r.2) ?_ ?_ (s0:=([],List.replicate q.next.length false)) ⟨⟨List.nodup_nil,by simp,by simp,λs hs=>by rw [AB];simp⟩,by simp⟩
  · rintro k ⟨v,vs⟩ hk ⟨k1,k2⟩
    simp only at k1 k2
    left
    have hln:=k1.ln
    have hvl:=k1.len
    show ∃s':ak×B_1,Qz q L v vs k=some (.inl (s'.1,s'.2,k+1))/\_
    unfold Qz
    rw [bV (by omega)]
    cases hf:nth q.fin k false with
    |true=>
      rw [iteO_true,aH (by simp only [jZ];omega),aH (by omega)]
      have hnk:nth vs k false=false:=by
        cases c:nth vs k false with
        |false=>rfl
        |true=>have:=(k2 k).1 ((k1.wm k (by omega)).1 c);omega
      refine ⟨(v++[((k:Nat):Int)],vs.set k true),rfl,k1.push (by omega) hnk,λs=> ?_⟩
      show ((s:Nat):Int)∈v++_↔_
      rw [List.mem_append,yB,k2]
      constructor
      · rintro (⟨c,d⟩|c)
        · exact ⟨by omega,d⟩
        have:s=k:=by omega
        subst this;exact ⟨by omega,hf⟩
      rintro ⟨c,d⟩
      by_cases e:s=k
      · subst e;exact .inr rfl
      exact .inl ⟨by omega,d⟩
    |false=>
      rw [iteO_false]
      refine ⟨(v,vs),rfl,k1,λs=> ?_⟩
      rw [k2]
      constructor
      · rintro ⟨c,d⟩;exact ⟨by omega,d⟩
      rintro ⟨c,d⟩
      refine ⟨?_,d⟩
      by_cases e:s=k
      · subst e;rw [hf]at d;cases d
      omega
  rintro ⟨v,vs⟩ ⟨k1,k2⟩
  simp only at k1 k2
  have hmf: ∀s,nth (List.replicate q.next.length false) s false=false:=λs=>AB _ _ _
  have hall: ∀s,jT q (List.replicate q.next.length []) (List.replicate q.next.length false) s=if nth q.fin s false=true then [nth q.tail s []] else []:=λs=>by
    unfold jT vI
    have:(List.range 256).flatMap (G8 q (List.replicate q.next.length []) (List.replicate q.next.length false) s)=[]:=List.flatMap_eq_nil_iff.2 λb _=>by
      unfold G8
      rw [if_neg (λk=>by rw [hmf]at k;cases k.2)]
    rw [this,List.append_nil]
  have hI:WkQ q (List.replicate q.next.length []) (List.replicate q.next.length false) v vs:=
    ⟨⟨⟨by simp,by simp,λs _ _=>AB _ _ _,λs _ k=>(by rw [hmf]at k;cases k),λs _ k=>(by rw [hmf]at k;cases k)⟩,λs _ k=>(by rw [hmf]at k;cases k),λs _ k=>(by rw [hmf]at k;cases k)⟩,k1,λz hz=>(by
        have hzr:=k1.rng z hz
        have:=(k2 z.toNat).1 (by rw [show ((z.toNat:Nat):Int)=z by omega];exact hz)
        rw [hall,if_pos this.2];simp),λs hs hn=>⟨λk=>(by rw [hmf]at k;cases k),λ_=>(by
        rw [hall,if_neg]
        exact λhf=>hn ((k2 s).2 ⟨by omega,hf⟩))⟩⟩
  obtain ⟨r,h1,h2⟩:=fr_run hq hL hI
  refine ⟨r,?_,h2⟩
  show Qz q L v vs q.fin.length=_
  unfold Qz
  rw [bQ (by omega),h1];rfl
theorem r6_{q:Seq}(hq:eH q=true): ∃r,Ed_ q=some r/\FrOk q r.1 r.2:=by
  obtain ⟨q1,q2,q3,q4,q5⟩:=ni hq
  unfold Ed_
  rw [aH (by omega)]
  refine kM (step:=λz:bW×Nat=>Qy q z.1 z.2) (λL k=>(L,k)) q.next.length (λk L=>BkQ q k 0 L) (λr=>FrOk q r.1 r.2) ?_ ?_ (s0:=List.replicate q.next.length []) ⟨by simp,λz hz s=>by
      rw [AB]
      constructor
      · intro k;cases k
      rintro ⟨t,_,⟨c,_⟩|⟨_,b,hb,_⟩⟩<;>omega,λz hz=>by rw [AB];simp⟩
  · intro k L hk hI
    left
    show ∃s',Qy q L k=_/\_
    unfold Qy
    rw [bV (by omega)]
    obtain ⟨L',h1,h2⟩:=wo_ hq hk hI
    exact ⟨L',h1,h2⟩
  intro L hI
  obtain ⟨r,h1,h2⟩:=fr_ends hq hI
  refine ⟨r,?_,h2⟩
  show Qy q L q.next.length=_
  unfold Qy Eo_
  rw [bQ (by omega),aH (by omega),aH (by omega),aH (by omega),h1];rfl
section
variable {α:Type} [DecidableEq α] (d:α)
def ddN(l:List α):Nat->List α
  |0=>[]
  |n+1=>ddN l n++(if n=0\/nth l n d≠nth l (n - 1) d then [nth l n d] else [])
theorem td_(l:List α): ∀n,n<=l.length-> ∀x,x∈ddN d l n↔x∈l.take n
  |0,_,x=>by simp [ddN]
  | n + 1, h, x => by
    rw [ddN,yw l (by omega) d,List.mem_append,List.mem_append,td_ l n (by omega)]
    by_cases hc:n=0\/nth l n d≠nth l (n - 1) d
    · rw [if_pos hc]
    rw [if_neg hc]
    simp only [not_or,ne_eq,Decidable.not_not]at hc
    have:nth l n d∈l.take n:=by
      rw [hc.2]
      have h1:(l.take n)[n - 1]? =some (nth l (n - 1) d):=by rw [List.getElem?_take,if_pos (by omega)];exact getD_some l (by omega) d
      exact List.mem_of_getElem? h1
    constructor
    · rintro (h|h)
      · exact .inl h
      cases h
    rintro (h|h)
    · exact .inl h
    rw [List.mem_singleton.1 h];exact .inl this
theorem uw_{l:List α}{k i:Nat}{v:α}(h:i≠k):nth (l.set k v) i d=nth l i d:=by
  simp [nth,List.getD,List.getElem?_set,Ne.symm h]
include d in
theorem p7_{l:List α}{k:Nat}{v:α}(h:k<l.length):(l.set k v).take (k+1)=l.take k++[v]:=by
  rw [yw (l.set k v) (by simpa using h) d]
  congr 1
  · rw [List.take_set_of_le (Nat.le_refl _)]
  simp [nth,List.getD,h]
def gC_j(aX:Nat)(zG:List α)(eU:Nat):Option ((List α×Nat×Nat)⊕(Nat⊕List α)):=
  nxt (zG,eU,(aX+1))
def wx_(x0:List α)(bK:Nat)(aJ:List α)(bP:Nat)(aX:Nat):Option ((List α×Nat×Nat)⊕(Nat⊕List α)):=
  aQ (decide (((aX:Nat):Int)<(((x0.length - bK):Nat):Int))) (grd (aX<(x0.length - bK)) (grd (0<=(IntKind.i64.wrap (((aX:Nat):Int) - 1))/\(IntKind.i64.wrap (((aX:Nat):Int) - 1))<((x0.length - bK):Nat)) (aQ (decide (¬ ((nth aJ (bK+aX) d)=(nth aJ (bK+(IntKind.i64.wrap (((aX:Nat):Int) - 1)).toNat) d)))) (grd (aX<(x0.length - bK)) (grd (bP<aJ.length) (gC_j aX (aJ.set bP (nth aJ (bK+aX) d)) (bP+1)))) (gC_j aX aJ bP)))) (fin (grd (bP<=x0.length) (grd (bP<=(aJ.take bP++List.replicate (aJ.length - bP) d).length) (fin (some ((aJ.take bP++List.replicate (aJ.length - bP) d).take bP))))))
def yy_(x0:List α)(bK:Nat):Option ((Nat)⊕(List α)):=
  aQ (decide (((bK:Nat):Int)<((x0.length:Nat):Int))) (grd (0<=(IntKind.i64.wrap (((bK:Nat):Int) - 1))/\(IntKind.i64.wrap (((bK:Nat):Int) - 1))<(x0.length:Int)) (aQ (decide ((nth x0 bK d)=(nth x0 ((IntKind.i64.wrap (((bK:Nat):Int) - 1)).toNat) d))) (grd (bK<=x0.length) (bC (λq:(List α)×Nat×Nat=>wx_ d x0 bK q.1 q.2.1 q.2.2) (x0,bK,1))) (nxt (bK+1)))) (fin (some x0))
def gC(x0:List α):Option (List α):=
  aQ (decide (((x0.length:Nat):Int)<2)) (some x0) (bC (λq:Nat=>yy_ d x0 q) 1)
theorem ry_{k:Nat}(h1:1<=k)(h2:k<=281474976710656):IntKind.i64.wrap ((k:Int) - 1)=((k - 1:Nat):Int):=by
  rw [UK (by omega) (by omega)];omega
theorem gC_in {l : List α} (hl : l.length <= 281474976710656) {k0 : Nat} (h0 : 1 <= k0) (hk : k0 < l.length) (he : nth l k0 d = nth l (k0 - 1) d) (hd : ddN d l k0 = l.take k0) :
    bC (λq:(List α)×Nat×Nat=>wx_ d l k0 q.1 q.2.1 q.2.2) (l,k0,1)=some (.inr (ddN d l l.length)):=by
  refine Exists.elim (ui_ (step:=λq:(List α)×Nat×Nat=>wx_ d l k0 q.1 q.2.1 q.2.2)
    (λq=>1<=q.2.2/\k0+q.2.2<=l.length/\q.1.length=l.length/\q.2.1<=k0+q.2.2 - 1/\(∀i,k0+q.2.2 - 1<=i->nth q.1 i d=nth l i d)/\q.1.take q.2.1=ddN d l (k0+q.2.2))
    (λr=>r= .inr (ddN d l l.length)) (λq=>l.length - q.2.2) ?_ (l,k0,1) ⟨Nat.le_refl _,hk,rfl,by simp only;omega,λ_ _=>rfl,?_⟩) (λr hr=>by rw [hr.1,hr.2])
  · rintro ⟨l2,k,j⟩ ⟨hj,hjl,hlen,hkj,hI,ht⟩
    simp only at hj hjl hlen hkj hI ht
    have hw:IntKind.i64.wrap ((j:Int) - 1)=((j - 1:Nat):Int):=ry_ hj (by omega)
    by_cases hlt:k0+j<l.length
    · left
      have e1:=hI (k0+j) (by omega)
      have e2:=hI (k0+(j - 1)) (by omega)
      simp only [wx_,hw,iT,decide_eq_true (show ((j:Nat):Int)<((l.length - k0:Nat):Int) by omega),iteO_true,
        aH (show j<l.length - k0 by omega),aH (show (0:Int)<=((j - 1:Nat):Int)/\((j - 1:Nat):Int)<((l.length - k0:Nat):Int) by omega),e1,e2]
      have e3:k0+(j - 1)=k0+j - 1:=by omega
      by_cases hc:nth l (k0+j) d=nth l (k0+(j - 1)) d
      · simp only [hc,not_true_eq_false,decide_false,iteO_false,gC_j]
        refine ⟨_,rfl,⟨by simp only;omega,by simp only;omega,hlen,by simp only;omega,λi hi=>hI i (by simp only at hi;omega),?_⟩,by simp only;omega⟩
        simp only
        rw [ht,<-Nat.add_assoc,ddN,if_neg,List.append_nil]
        rw [hc,e3];simp;omega
      simp only [hc,not_false_eq_true,decide_true,iteO_true,aH (show k<l2.length by omega),gC_j]
      refine ⟨_,rfl,⟨by simp only;omega,by simp only;omega,by simp only [fQ];exact hlen,by simp only;omega,λi hi=> ?_,?_⟩,by simp only;omega⟩
      · simp only at hi ⊢
        rw [uw_ d (by omega)];exact hI i (by omega)
      simp only
      rw [p7_ d (by omega),ht,<-Nat.add_assoc,ddN,if_pos]
      rw [e3]at hc;exact .inr hc
    right
    have hjl':k0+j=l.length:=by omega
    have hkl:(l2.take k).length=k:=by rw [List.length_take];omega
    refine ⟨.inr (ddN d l l.length),?_,rfl⟩
    simp only [wx_,decide_eq_false (show ¬ ((j:Nat):Int)<((l.length - k0:Nat):Int) by omega),iteO_false,aH (show k<=l.length by omega)]
    rw [aH (by rw [fU,hkl];omega),List.take_append_of_le_length (by omega),List.take_of_length_le (by omega),ht,hjl']
    rfl
  simp only
  rw [ddN,if_neg (by rw [he];simp;omega),List.append_nil,hd]
theorem gC_eq {l : List α} (hl : l.length <= 281474976710656) : gC d l = some (ddN d l l.length) := by
  unfold gC
  by_cases h2:l.length<2
  · rw [decide_eq_true (by omega),iteO_true]
    match l,h2 with
    |[],_=>rfl
    |[x],_=>rfl
  rw [decide_eq_false (by omega),iteO_false]
  refine Exists.elim (ui_ (step:=λq:Nat=>yy_ d l q) (λk=>1<=k/\k<=l.length/\ddN d l k=l.take k) (λr=>r=ddN d l l.length) (λk=>l.length - k) ?_ 1 ⟨Nat.le_refl _,by omega,?_⟩) (λr hr=>by rw [hr.1,hr.2])
  · rintro k ⟨h1,hk,hd⟩
    by_cases hlt:k<l.length
    · simp only [yy_,ry_ h1 (show k<=281474976710656 by omega),iT,decide_eq_true (show ((k:Nat):Int)<((l.length:Nat):Int) by omega),iteO_true,
        aH (show (0:Int)<=((k - 1:Nat):Int)/\((k - 1:Nat):Int)<(l.length:Int) by omega)]
      by_cases hc:nth l k d=nth l (k - 1) d
      · right
        simp only [hc,decide_true,iteO_true,aH hk]
        exact ⟨_,gC_in d hl h1 hlt hc hd,rfl⟩
      left
      simp only [hc,decide_false,iteO_false]
      refine ⟨k+1,rfl,⟨by omega,by omega,?_⟩,by omega⟩
      rw [ddN,if_pos (.inr hc),hd,yw l hlt d]
    right
    have:k=l.length:=by omega
    refine ⟨l,?_,?_⟩
    · simp only [yy_,decide_eq_false (show ¬ ((k:Nat):Int)<((l.length:Nat):Int) by omega),iteO_false];rfl
    rw [<-this,hd,List.take_of_length_le (by omega)]
  rw [ddN,if_pos (.inl rfl),yw l (by omega) d];simp [ddN]
end
def tH{α:Type}[DecidableEq α](d:α)(cf:α->α->Int)(l:List α):List α:=ddN d (rY cf l) l.length
section
variable {α:Type} [DecidableEq α] {d:α} {cf:α->α->Int}
theorem Qg(l:List α):(rY cf l).length=l.length:=List.length_mergeSort _
theorem Dw{l:List α}{x:α}:x∈tH d cf l↔x∈l:=by
  have h:=Qg (cf:=cf) l
  rw [tH,td_ d _ _ (by omega),List.take_of_length_le (by omega),rY,List.mem_mergeSort]
theorem GoodCmp.le_trans(hc:GoodCmp cf){x y z:α}(h1: ¬ cf y x<0)(h2: ¬ cf z y<0): ¬ cf z x<0:=λh3=>by
  by_cases e:x=y
  · subst e;exact h2 h3
  by_cases e':y=z
  · subst e';exact h1 h3
  have a:=hc.anti y x;have b:=hc.anti z y;have a':=hc.eq y x;have b':=hc.eq z y
  have h4:cf y z<0:=by
    rw [hc.anti]
    have:cf z y≠0:=λh=>e' ((b'.1 h).symm)
    omega
  exact h1 (hc.trans _ _ _ h4 h3)
theorem G0_(hc:GoodCmp cf)(l:List α):(rY cf l).Pairwise λx y=> ¬ cf y x<0:=by
  have:=List.pairwise_mergeSort (le:=λx y=> !decide (cf y x<0)) (λa b c h1 h2=>by
    simp only [Bool.not_eq_true',decide_eq_false_iff_not]at *
    exact hc.le_trans h1 h2) (λa b=>by
    have:=hc.anti a b
    simp only [Bool.or_eq_true,Bool.not_eq_true',decide_eq_false_iff_not];omega) l
  exact this.imp λh=>by simpa using h
theorem he_ (hc : GoodCmp cf) (l : List α) : (tH d cf l).Pairwise λx y => cf x y < 0 := by
  have hs:=G0_ hc l
  have hlen:=Qg (cf:=cf) l
  unfold tH
  generalize rY cf l=s at hs hlen
  have key: ∀n,n<=s.length->(ddN d s n).Pairwise λx y=>cf x y<0:=by
    intro n
    induction n with
    |zero=>intro _;exact List.Pairwise.nil
    |succ n ih=>
      intro h
      rw [ddN]
      split
      · rename_i hn
        rw [List.pairwise_append]
        refine ⟨ih (by omega),List.pairwise_singleton ..,λx hx y hy=> ?_⟩
        rw [List.mem_singleton.1 hy]
        rw [td_ d s n (by omega)]at hx
        have hn0:n≠0:=λe=>by subst e;simp at hx
        have hne:nth s n d≠nth s (n - 1) d:=by rcases hn with h|h;exact absurd h hn0;exact h
        obtain ⟨i,hi,hxi⟩:=List.mem_iff_getElem.1 hx
        have hi':i<n:=by simp at hi;omega
        have hxi:s[i]'(by omega)=x:=by rw [<-hxi,List.getElem_take]
        have hp:=List.pairwise_iff_getElem.1 hs
        have eN: ∀{k:Nat} (hk:k<s.length),nth s k d=s[k]:=λhk=>by simp [nth,List.getD,hk]
        rw [eN (by omega),eN (by omega)]at hne
        rw [eN (by omega)]
        have h1:cf (s[n - 1]'(by omega)) (s[n]'(by omega))<0:=by
          have:=hp (n - 1) n (by omega) (by omega) (by omega)
          have a:=hc.anti (s[n - 1]'(by omega)) (s[n]'(by omega))
          have b:=hc.eq (s[n]'(by omega)) (s[n - 1]'(by omega))
          have:cf (s[n]'(by omega)) (s[n - 1]'(by omega))≠0:=λh=>hne (b.1 h)
          omega
        by_cases hin:i=n - 1
        · subst hin;rw [<-hxi];exact h1
        have h2:=hp i (n - 1) (by omega) (by omega) (by omega)
        rw [hxi]at h2
        by_cases e:x=s[n - 1]'(by omega)
        · rw [e];exact h1
        refine hc.trans _ _ _ ?_ h1
        have a:=hc.anti x (s[n - 1]'(by omega))
        have b:=hc.eq (s[n - 1]'(by omega)) x
        have:cf (s[n - 1]'(by omega)) x≠0:=λh=>e (b.1 h).symm
        omega
      rw [List.append_nil];exact ih (by omega)
  exact key _ (by omega)
theorem o4_{R:α->α->Prop}(hi: ∀x, ¬ R x x)(ht: ∀x y z,R x y->R y z->R x z): ∀{l m:List α},l.Pairwise R->m.Pairwise R->(∀x,x∈l↔x∈m)->l=m
  |[],[],_,_,_=>rfl
  |[],y::m,_,_,h=>by have:=(h y).2 (ji ..);cases this
  |x::l,[],_,_,h=>by have:=(h x).1 (ji ..);cases this
  | x :: l, y :: m, hl, hm, h => by
    rw [List.pairwise_cons]at hl hm
    have e:x=y:=by
      have h1:=(h x).1 (ji ..)
      have h2:=(h y).2 (ji ..)
      rw [List.mem_cons]at h1 h2
      rcases h1 with h1|h1
      · exact h1
      rcases h2 with h2|h2
      · exact h2.symm
      exact absurd (ht _ _ _ (hm.1 x h1) (hl.1 y h2)) (hi y)
    subst e
    rw [o4_ hi ht hl.2 hm.2 λz=> ?_]
    have:=h z
    simp only [List.mem_cons]at this
    constructor
    · intro hz
      rcases this.1 (.inr hz)with e|h'
      · subst e;exact absurd (hl.1 z hz) (hi z)
      exact h'
    intro hz
    rcases this.2 (.inr hz)with e|h'
    · subst e;exact absurd (hm.1 z hz) (hi z)
    exact h'
theorem GoodCmp.irr(hc:GoodCmp cf)(x:α): ¬ cf x x<0:=by have:=(hc.eq x x).2 rfl;omega
theorem n1_(hc:GoodCmp cf){l m:List α}(hl:l.Pairwise λx y=>cf x y<0)(hm:m.Pairwise λx y=>cf x y<0)(h: ∀x,x∈l↔x∈m):l=m:=
  o4_ (R:=λx y=>cf x y<0) hc.irr hc.trans hl hm h
theorem Hc_(hc:GoodCmp cf){l:List α}(h:l.Pairwise λx y=>cf x y<0):tH d cf l=l:=n1_ hc (he_ hc l) h λx=>Dw
theorem Ga_(l:List α):(tH d cf l).length<=l.length:=by
  have h: ∀(s:List α) n,(ddN d s n).length<=n:=λs n=>by
    induction n with
    |zero=>exact Nat.le_refl _
    |succ n ih=>rw [ddN,fU];split<;>simp<;>omega
  exact h _ _
end
theorem Hi_:ZT=gC aG:=rfl
theorem Ie_:m5_=gC aZ:=rfl
theorem Hz_{l:List Tip}(h:l.length * 24<=140737488355328):ZE l=some (tH aG nG l):=by
  rw [ZE,aH h,Hi_,gC_eq aG (by rw [Qg];omega),Qg];rfl
theorem Ip_{l:List Arc}(h:l.length * 72<=140737488355328):xg_ l=some (tH aZ Nb l):=by
  rw [xg_,aH h,Ie_,gC_eq aZ (by rw [Qg];omega),Qg];rfl
def RG(n:Int)(p:Tip):Bool:=decide (0<=p.state) && decide (p.state<n) && decide ((p.out.length:Int)<=1024)
def Iq(l:List Tip)(n:Int):Bool:=decide ((l.length:Int)<=1024) && l.all (RG n)
def Q9(n:Int)(a:Arc):Bool:=decide (0<=a.frm) && decide (a.frm<n) && decide (0<=a.to) && decide (a.to<n) && decide (a.set≠BSet.zero) && decide ((a.out.length:Int)<=1024)
def Aq(t:Fst):Bool:=decide (0<=t.states) && decide (t.states<=1024) && decide ((t.arcs.length:Int)<=16384) && Iq t.starts t.states && Iq t.ends t.states && t.arcs.all (Q9 t.states)
theorem E7_(s n:Int):Zq s n=some (decide (0<=s) && decide (s<n)):=by
  unfold Zq
  by_cases h:0<=s<;>simp [h]
theorem l0_ (l : List Tip) (n : Int) : Dk_ l n = some (Iq l n) := by
  unfold Dk_ Iq
  by_cases h:(l.length:Int)<=1024
  · rw [decide_eq_false (by omega),iteO_false,tk_ (y:=true) (no:=false) l aG (RG n)]
    · rw [decide_eq_true h,Bool.true_and];cases l.all (RG n)<;>rfl
    · intro k hk hp
      simp only [RG,Bool.and_eq_true,lg]at hp
      simp only [Zw,Wj hk,iteO_true,E7_,bnd,Option.bind_some,hp.1.1,hp.1.2,decide_true,Bool.and_self,Bool.not_true,iteO_false,decide_eq_false (show ¬ (1024:Int)<((nth l k aG).out.length:Int) by omega)];rfl
    · intro k hk hp
      simp only [Zw,Wj hk,iteO_true,E7_,bnd,Option.bind_some]
      by_cases hc:(decide (0<=(nth l k aG).state) && decide ((nth l k aG).state<n))=true
      · rw [hc]
        simp only [RG,hc,Bool.true_and,decide_eq_false_iff_not]at hp
        simp only [Bool.not_true,iteO_false,decide_eq_true (show (1024:Int)<((nth l k aG).out.length:Int) by omega),iteO_true];rfl
      simp only [Bool.not_eq_true]at hc
      rw [hc];rfl
    simp only [Zw,Int.lt_irrefl,decide_false,iteO_false];rfl
  rw [decide_eq_true (by omega),iteO_true];simp [h]
theorem F5_(t:Fst):Zr t=some (errB (Aq t)):=by
  unfold Zr
  by_cases h1:t.states<0
  · rw [decide_eq_true h1,iteO_true];simp [Aq,errB,show ¬ 0<=t.states by omega]
  rw [decide_eq_false h1,iteO_false]
  by_cases h2:1024<t.states
  · rw [decide_eq_true h2,iteO_true];simp [Aq,errB,show ¬ t.states<=1024 by omega]
  rw [decide_eq_false h2,iteO_false]
  by_cases h3:(16384:Int)<(t.arcs.length:Int)
  · rw [decide_eq_true h3,iteO_true];simp only [Aq,decide_eq_false (show ¬ (t.arcs.length:Int)<=16384 by omega),Bool.and_false,Bool.false_and];rfl
  rw [decide_eq_false h3,iteO_false,l0_,bnd,Option.bind_some]
  have e0:Aq t=(Iq t.starts t.states && Iq t.ends t.states && t.arcs.all (Q9 t.states)):=by
    simp only [Aq,decide_eq_true (show 0<=t.states by omega),decide_eq_true (show t.states<=1024 by omega),decide_eq_true (show (t.arcs.length:Int)<=16384 by omega),Bool.true_and]
  rw [e0]
  cases h4:Iq t.starts t.states
  · rfl
  simp only [Bool.not_true,iteO_false,l0_,bnd,Option.bind_some]
  cases h5:Iq t.ends t.states
  · rfl
  simp only [Bool.not_true,iteO_false,Bool.and_self,Bool.true_and]
  rw [tk_ (y:=0) (no:=1) t.arcs aZ (Q9 t.states)]
  · rfl
  · intro k hk hp
    simp only [Q9,Bool.and_eq_true,lg]at hp
    obtain ⟨⟨⟨⟨⟨p1,p2⟩,p3⟩,p4⟩,p5⟩,p6⟩:=hp
    simp only [Zu,Wj hk,iteO_true,E7_,bnd,Option.bind_some,p1,p2,p3,p4,p5,decide_true,decide_false,Bool.and_self,Bool.not_true,iteO_false,decide_eq_false (show ¬ (1024:Int)<((nth t.arcs k aZ).out.length:Int) by omega)];rfl
  · intro k hk hp
    simp only [Zu,Wj hk,iteO_true,E7_,bnd,Option.bind_some]
    cases hc:(decide (0<=(nth t.arcs k aZ).frm) && decide ((nth t.arcs k aZ).frm<t.states))
    · rfl
    cases hd:(decide (0<=(nth t.arcs k aZ).to) && decide ((nth t.arcs k aZ).to<t.states))
    · rfl
    simp only [Bool.not_true,iteO_false]
    by_cases he:(nth t.arcs k aZ).set=BSet.zero
    · rw [decide_eq_true he];rfl
    rw [decide_eq_false he,iteO_false]
    have hd':(decide (0<=(nth t.arcs k aZ).frm) && decide ((nth t.arcs k aZ).frm<t.states) && decide (0<=(nth t.arcs k aZ).to) && decide ((nth t.arcs k aZ).to<t.states))=true:=by rw [Bool.and_assoc,hc,hd];rfl
    simp only [Q9,hd',Bool.true_and,ne_eq,he,not_false_eq_true,decide_true,decide_eq_false_iff_not]at hp
    rw [decide_eq_true (by omega)];rfl
  simp only [Zu,Int.lt_irrefl,decide_false,iteO_false];rfl
theorem xt_{b:Bool}:decide (errB b≠0)= !b:=by cases b<;>rfl
def outOf(p:FPair)(a:Arc)(b:UInt8):T_1:=if a.copy then (p.out++a.out)++[b] else p.out++a.out
def aftA(g:List Arc)(p:FPair)(b:UInt8):List FPair:=(g.filter λa=>a.set.has b.toNat).map λa=>⟨a.to,outOf p a b⟩
def aftP(t:Fst)(S:List FPair)(b:UInt8):List FPair:=S.flatMap λp=>aftA (t.arcs.filter λa=>decide (a.frm=p.state)) p b
def tp(x:Tip):FPair:=⟨x.state,x.out⟩
def Wi(t:Fst)(w:T_1):List FPair:=w.foldl (aftP t) (t.starts.map tp)
def endT(t:Fst)(S:List FPair):aB:=S.flatMap λp=>((t.ends.filter λe=>decide (e.state=p.state)).map Tip.out).map λo=>p.out++o
def VX(t:Fst)(w:T_1):aB:=tH [] Lib.compareBytes (endT t (Wi t w))
theorem yw_{g:List Arc}{p q:FPair}{b:UInt8}:q∈aftA g p b↔ ∃a∈g,a.set.has b.toNat=true/\q=⟨a.to,outOf p a b⟩:=by
  simp only [aftA,List.mem_map,List.mem_filter]
  constructor
  · rintro ⟨a,⟨h1,h2⟩,h3⟩;exact ⟨a,h1,h2,h3.symm⟩
  rintro ⟨a,h1,h2,h3⟩;exact ⟨a,⟨h1,h2⟩,h3.symm⟩
theorem x8_{t:Fst}{S:List FPair}{b:UInt8}{q:FPair}:q∈aftP t S b↔ ∃p∈S, ∃a∈t.arcs,a.frm=p.state/\a.set.has b.toNat=true/\q=⟨a.to,outOf p a b⟩:=by
  simp only [aftP,List.mem_flatMap,yw_,List.mem_filter,lg]
  constructor
  · rintro ⟨p,h1,a,⟨h2,h3⟩,h4,h5⟩;exact ⟨p,h1,a,h2,h3,h4,h5⟩
  rintro ⟨p,h1,a,h2,h3,h4,h5⟩;exact ⟨p,h1,a,⟨h2,h3⟩,h4,h5⟩
theorem tipB_ok{n:Int}{p:Tip}(h:RG n p=true):(0<=p.state/\p.state<n)/\p.out.length<=1024:=by
  simp only [RG,Bool.and_eq_true,lg]at h;exact ⟨h.1,by omega⟩
theorem my_{n:Int}{l:List Tip}(h:Iq l n=true):l.length<=1024/\ ∀p∈l,(0<=p.state/\p.state<n)/\p.out.length<=1024:=by
  simp only [Iq,Bool.and_eq_true,lg,List.all_eq_true]at h
  exact ⟨by omega,λp hp=>tipB_ok (h.2 p hp)⟩
theorem arcB_ok{n:Int}{a:Arc}(h:Q9 n a=true):(0<=a.frm/\a.frm<n)/\(0<=a.to/\a.to<n)/\a.set≠BSet.zero/\a.out.length<=1024:=by
  simp only [Q9,Bool.and_eq_true,lg]at h
  obtain ⟨⟨⟨⟨⟨p1,p2⟩,p3⟩,p4⟩,p5⟩,p6⟩:=h
  exact ⟨⟨p1,p2⟩,⟨p3,p4⟩,p5,by omega⟩
structure FstOk (t:Fst):Prop where
  st0:0<=t.states
  st1:t.states<=1024
  arcsN:t.arcs.length<=16384
  startsN:t.starts.length<=1024
  endsN:t.ends.length<=1024
  starts: ∀p∈t.starts,(0<=p.state/\p.state<t.states)/\p.out.length<=1024
  ends: ∀p∈t.ends,(0<=p.state/\p.state<t.states)/\p.out.length<=1024
  arcs: ∀a∈t.arcs,(0<=a.frm/\a.frm<t.states)/\(0<=a.to/\a.to<t.states)/\a.set≠BSet.zero/\a.out.length<=1024
theorem kw_(t:Fst):Aq t=true↔FstOk t:=by
  constructor
  · intro h
    simp only [Aq,Bool.and_eq_true,lg,List.all_eq_true]at h
    obtain ⟨⟨⟨⟨⟨h1,h2⟩,h3⟩,h4⟩,h5⟩,h6⟩:=h
    exact ⟨h1,h2,by omega,(my_ h4).1,(my_ h5).1,(my_ h4).2,(my_ h5).2,λa ha=>arcB_ok (h6 a ha)⟩
  rintro ⟨h1,h2,h3,h4,h5,h6,h7,h8⟩
  have hT: ∀l:List Tip,l.length<=1024->(∀p∈l,(0<=p.state/\p.state<t.states)/\p.out.length<=1024)->Iq l t.states=true:=λl hl hp=>by
    simp only [Iq,Bool.and_eq_true,lg,List.all_eq_true]
    refine ⟨by omega,λp hq=> ?_⟩
    have:=hp p hq
    simp only [RG,Bool.and_eq_true,lg];omega
  simp only [Aq,Bool.and_eq_true,lg,List.all_eq_true]
  refine ⟨⟨⟨⟨⟨h1,h2⟩,by omega⟩,hT _ h4 h6⟩,hT _ h5 h7⟩,λa ha=> ?_⟩
  obtain ⟨p1,p2,p3,p4⟩:=h8 a ha
  simp only [Q9,Bool.and_eq_true,lg]
  exact ⟨⟨⟨⟨p1,p2.1⟩,p2.2⟩,p3⟩,by omega⟩
theorem sy_(t:Fst)(w:T_1)(b:UInt8):Wi t (w++[b])=aftP t (Wi t w) b:=by simp [Wi]
def srt(t:Fst):Fst:=⟨t.states,tH aG nG t.starts,tH aG nG t.ends,tH aZ Nb t.arcs⟩
theorem p3_(t:Fst):MB t=some (if Aq t=true then (srt t,0) else (⟨0,[],[],[]⟩,1)):=by
  unfold MB
  rw [F5_,bnd,Option.bind_some,xt_]
  by_cases h:Aq t=true
  · have ht:=(kw_ t).1 h
    have h1:=ht.startsN
    have h2:=ht.endsN
    have h3:=ht.arcsN
    rw [h,if_pos rfl,Bool.not_true,iteO_false]
    simp only [Hz_ (l:=t.starts) (by omega),Hz_ (l:=t.ends) (by omega),Ip_ (l:=t.arcs) (by omega),bnd,Option.bind_some]
    rfl
  simp only [Bool.not_eq_true]at h
  rw [h];rfl
structure Alike (s t:Fst):Prop where
  states:s.states=t.states
  starts: ∀x,x∈s.starts↔x∈t.starts
  ends: ∀x,x∈s.ends↔x∈t.ends
  arcs: ∀x,x∈s.arcs↔x∈t.arcs
theorem srt_ok{t:Fst}(ht:FstOk t):FstOk (srt t) where
  st0:=ht.st0
  st1:=ht.st1
  arcsN:=Nat.le_trans (Ga_ _) ht.arcsN
  startsN:=Nat.le_trans (Ga_ _) ht.startsN
  endsN:=Nat.le_trans (Ga_ _) ht.endsN
  starts p hp:=ht.starts p (Dw.1 hp)
  ends p hp:=ht.ends p (Dw.1 hp)
  arcs a ha:=ht.arcs a (Dw.1 ha)
structure Within (s t:Fst):Prop where
  starts: ∀x∈s.starts,x∈t.starts
  ends: ∀x∈s.ends,x∈t.ends
  arcs: ∀x∈s.arcs,x∈t.arcs
theorem Alike.within{s t:Fst}(h:Alike s t):Within s t:=⟨λx=>(h.starts x).1,λx=>(h.ends x).1,λx=>(h.arcs x).1⟩
theorem Alike.symm{s t:Fst}(h:Alike s t):Alike t s:=⟨h.states.symm,λx=>(h.starts x).symm,λx=>(h.ends x).symm,λx=>(h.arcs x).symm⟩
theorem Within.pairs{s t:Fst}(h:Within s t)(w:T_1): ∀p∈Wi s w,p∈Wi t w:=by
  induction w using rev_ind with
  |h0=>
    intro p hp
    obtain ⟨x,hx,rfl⟩:=List.mem_map.1 hp
    exact List.mem_map.2 ⟨x,h.starts x hx,rfl⟩
  |h1 w b ih=>
    intro q hq
    rw [sy_,x8_]at *
    obtain ⟨p,hp,a,ha,r⟩:=hq
    exact ⟨p,ih p hp,a,h.arcs a ha,r⟩
theorem yf_{t:Fst}{S:List FPair}{o:T_1}:o∈endT t S↔ ∃p∈S, ∃e∈t.ends,e.state=p.state/\o=p.out++e.out:=by
  simp only [endT,List.mem_flatMap,List.mem_map,List.mem_filter,lg]
  constructor
  · rintro ⟨p,hp,_,⟨e,⟨he,h1⟩,rfl⟩,h2⟩;exact ⟨p,hp,e,he,h1,h2.symm⟩
  rintro ⟨p,hp,e,he,h1,h2⟩;exact ⟨p,hp,_,⟨e,⟨he,h1⟩,rfl⟩,h2.symm⟩
theorem wi_{t:Fst}{w o:T_1}:o∈VX t w↔ ∃p∈Wi t w, ∃e∈t.ends,e.state=p.state/\o=p.out++e.out:=by rw [VX,Dw,yf_]
theorem Within.outs{s t:Fst}(h:Within s t)(w:T_1): ∀o∈VX s w,o∈VX t w:=by
  intro o ho
  rw [wi_]at *
  obtain ⟨p,hp,e,he,r⟩:=ho
  exact ⟨p,h.pairs w p hp,e,h.ends e he,r⟩
theorem pp_(t:Fst)(w:T_1):(VX t w).Pairwise λx y=>Lib.compareBytes x y<0:=he_ kg_ _
theorem Alike.outs{s t:Fst}(h:Alike s t)(w:T_1):VX s w=VX t w:=n1_ kg_ (pp_ s w) (pp_ t w) λx=>⟨h.within.outs w x,h.symm.within.outs w x⟩
theorem m0_{α R:Type}{step:Nat->Option (Nat⊕R)}{y:R}(n:Nat)(hs: ∀k,k<n->step k=some (.inl (k+1)))(hd:step n=some (.inr y)):bC step 0=some y:=ra_ (λk=>k) n hs hd
theorem jl_(l:aB):Ny l l=some true:=by
  unfold Ny
  rw [decide_eq_false (by simp),iteO_false]
  refine m0_ (α:=Unit) l.length (λk hk=> ?_) ?_
  · simp only [Ik,Wj hk,iteO_true,aH hk,ne_eq,not_true_eq_false,decide_false,iteO_false];rfl
  simp only [Ik,Int.lt_irrefl,decide_false,iteO_false];rfl
section
variable {α:Type} [DecidableEq α] {d:α} {cf:α->α->Int}
end
theorem w8_(l:ak):C8_ l l=some true:=by
  unfold C8_
  rw [decide_eq_false (by simp),iteO_false]
  refine m0_ (α:=Unit) l.length (λk hk=> ?_) ?_
  · simp only [Bu_,Wj hk,iteO_true,aH hk,ne_eq,not_true_eq_false,decide_false,iteO_false];rfl
  simp only [Bu_,Int.lt_irrefl,decide_false,iteO_false];rfl
theorem qj_{x:T_1}(h:x.length<=281474976710656):Vg x=some (if 4096<x.length then .inl 2 else .inr ()):=by
  unfold Vg
  rw [aH h]
  by_cases c:4096<x.length
  · rw [bV (by omega),if_pos c]
  rw [bQ (by omega),if_neg c]
def Fh:List Tip->Bool
  |a::b::l=>decide (a.state=b.state) || Fh (b::l)
  |_=>false
theorem p8_: ∀l:List Tip,Fh l=true↔ ∃k,k+1<l.length/\(nth l k aG).state=(nth l (k+1) aG).state
  |[]=>by simp [Fh]
  |[a]=>by simp [Fh]
  | a :: b :: l => by
    rw [Fh,Bool.or_eq_true,lg,p8_ (b::l)]
    constructor
    · rintro (h|⟨k,h1,h2⟩)
      · exact ⟨0,by simp,h⟩
      exact ⟨k+1,by simpa using h1,h2⟩
    rintro ⟨k,h1,h2⟩
    cases k with
    |zero=>exact .inl h2
    |succ k=>exact .inr ⟨k,by simpa using h1,h2⟩
def yV(n:Nat)(x:Tip):Tip:=⟨x.state,x.out.drop n⟩
def Ir(l:List Tip):Int⊕(T_1×List Tip):=
  let m:=tH aG nG l
  if Fh m=true then .inl 12 else
  let f:=iZ (m.map Tip.out)
  if 4096<f.length then .inl 2 else
  if ∃x∈m,4096<(x.out.drop f.length).length then .inl 2 else .inr (f,m.map (yV f.length))
theorem Id_{α β:Type}(f:α->α)(l:List α)(k:Nat)(hk:k<l.length)(d:α):((l.take k).map f++l.drop k).set k (f (nth l k d))=(l.take (k+1)).map f++l.drop (k+1):=by
  have h1:((l.take k).map f).length=k:=by rw [List.length_map,List.length_take];omega
  rw [List.set_append_right _ _ (by omega),h1,Nat.sub_self,t5_ l hk d,List.set_cons_zero,yw l hk d,List.map_append]
  simp
theorem nth_mid{α:Type}(f:α->α)(l:List α)(k:Nat)(hk:k<l.length)(d:α):nth ((l.take k).map f++l.drop k) k d=nth l k d:=by
  have h1:((l.take k).map f).length=k:=by rw [List.length_map,List.length_take];omega
  unfold nth
  rw [List.getD_eq_getElem?_getD,List.getElem?_append_right (by omega),h1,Nat.sub_self,t5_ l hk d]
  simp [nth]
theorem rl_{α:Type}(l:List α)(k:Nat)(hk:k<l.length)(x d:α):nth (l.set k x) k d=x:=by rw [jP,if_pos ⟨rfl,hk⟩]
theorem xo_{α:Type}(l:List α)(k:Nat)(hk:k<l.length)(d z:α):(l.take k++List.replicate (l.length - k) z).set k (nth l k d)=l.take (k+1)++List.replicate (l.length - (k+1)) z:=by
  have h1:(l.take k).length=k:=by rw [List.length_take];omega
  rw [List.set_append_right _ _ (by omega),h1,Nat.sub_self,show l.length - k=(l.length - (k+1))+1 by omega,List.replicate_succ,List.set_cons_zero,yw l hk d]
  simp
theorem wp_ {m : List Tip} {f : T_1} (hf : ∀ x ∈ m, f.length <= x.out.length) (hb : ∀ x ∈ m, x.out.length <= 281474976710656) :
    bC (λq:(List Tip)×Nat=>Nw m f q.1 q.2) (m,0)=some (if ∃x∈m,4096<(x.out.drop f.length).length then .inl 2 else .inr (f,m.map (yV f.length))):=by
  obtain ⟨r,h1,h2⟩:=kM (step:=λq:(List Tip)×Nat=>Nw m f q.1 q.2) (λs k=>(s,k)) m.length (λk s=>s=(m.take k).map (yV f.length)++m.drop k/\ ∀x∈m.take k, ¬ 4096<(x.out.drop f.length).length)
    (λr=>r=(if ∃x∈m,4096<(x.out.drop f.length).length then .inl 2 else .inr (f,m.map (yV f.length))))
    (λk s hk hI=>by
      obtain ⟨rfl,hI⟩:=hI
      have hl:k<((m.take k).map (yV f.length)++m.drop k).length:=by
        rw [fU,List.length_map,List.length_take,List.length_drop];omega
      have hm:nth m k aG∈m:=vU _ hk
      have hs:=hf _ hm
      have hbb:=hb _ hm
      have hst:Nw m f ((m.take k).map (yV f.length)++m.drop k) k=some (if 4096<((nth m k aG).out.drop f.length).length then .inr (.inl 2) else .inl ((m.take (k+1)).map (yV f.length)++m.drop (k+1),k+1)):=by
        unfold Nw
        rw [bV (by omega),aH hl,nth_mid (yV f.length) m k hk,aH ⟨hs,Nat.le_refl _⟩,aH hl,aH (by rw [fQ];exact hl),rl_ _ k hl]
        show bnd (Vg ((nth m k aG).out.drop f.length)) _=_
        rw [qj_ (by rw [List.length_drop];omega),gJ]
        by_cases c:4096<((nth m k aG).out.drop f.length).length
        · rw [if_pos c,if_pos c];rfl
        rw [if_neg c,if_neg c]
        show nxt (_,_)=_
        rw [show (⟨(nth m k aG).state,(nth m k aG).out.drop f.length⟩:Tip)=yV f.length (nth m k aG)from rfl,Id_ (β:=Tip) (yV f.length) m k hk];rfl
      by_cases c:4096<((nth m k aG).out.drop f.length).length
      · rw [if_pos c]at hst
        exact .inr ⟨_,hst,by rw [if_pos ⟨_,hm,c⟩]⟩
      rw [if_neg c]at hst
      refine .inl ⟨_,hst,rfl,λx hx=> ?_⟩
      rw [yw m hk aG]at hx
      rcases List.mem_append.1 hx with hx|hx
      · exact hI x hx
      rw [List.mem_singleton.1 hx];exact c)
    (λs hI=>by
      obtain ⟨rfl,hI⟩:=hI
      rw [List.take_length]at hI
      refine ⟨_,?_,rfl⟩
      rw [if_neg (by rintro ⟨x,h1,h2⟩;exact hI x h1 h2),List.take_length,List.drop_length,List.append_nil]
      show Nw m f _ m.length=_
      unfold Nw
      rw [bQ (by omega)];rfl) (s0:=m) ⟨by simp,by simp⟩
  rw [<-h2];exact h1
theorem t6_ {l : List Tip} (hl : l.length <= 1000000) (hb : ∀ x ∈ l, x.out.length <= 281474976710656) : E2_ l = some (Ir l) := by
  unfold E2_
  have e0:ZT (rY nG l)=some (tH aG nG l):=by
    rw [Hi_,gC_eq aG (by rw [Qg];omega),Qg]
    rfl
  rw [e0,gJ]
  have hm:(tH aG nG l).length<=l.length:=Ga_ ..
  have hbm: ∀x∈tH aG nG l,x.out.length<=281474976710656:=λx hx=>hb x ((Dw ..).1 hx)
  unfold Ir
  generalize tH aG nG l=m at hm hbm ⊢
  rw [aH (by omega)]
  have hlast:Iy m (m.map Tip.out) m.length=some (.inr (if 4096<(iZ (m.map Tip.out)).length then .inl 2 else if ∃x∈m,4096<(x.out.drop (iZ (m.map Tip.out)).length).length then .inl 2 else .inr (iZ (m.map Tip.out),m.map (yV (iZ (m.map Tip.out)).length)))):=by
    have hbx: ∀x∈m.map Tip.out,x.length<=281474976710656:=λx hx=>by
      obtain ⟨y,hy,rfl⟩:=List.mem_map.1 hx;exact hbm y hy
    have hfl:(iZ (m.map Tip.out)).length<=281474976710656:=by
      cases h:m with
      |nil=>simp [iZ]
      |cons x t=>
        have:iZ ((x::t).map Tip.out) <+: x.out:=Ls (by simp)
        exact Nat.le_trans this.length_le (hbm x (by rw [h];exact ji ..))
    unfold Iy
    rw [bQ (by omega),ph_ hbx,gJ,qj_ hfl,gJ]
    by_cases c:4096<(iZ (m.map Tip.out)).length
    · rw [if_pos c,if_pos c];rfl
    rw [if_neg c,if_neg c]
    show fin (bC _ (m,0))=_
    rw [wp_ (λx hx=>(Ls (List.mem_map.2 ⟨x,hx,rfl⟩)).length_le) hbm];rfl
  obtain ⟨r,h1,h2⟩:=kM (step:=λq:aB×Nat=>Iy m q.1 q.2) (λs k=>(s,k)) m.length (λk s=>s=(m.map Tip.out).take k++List.replicate ((m.map Tip.out).length - k) []/\ ∀j,j+1<k+0\/j+1<k->(nth m j aG).state≠(nth m (j+1) aG).state)
    (λr=>r=(if Fh m=true then .inl 12 else if 4096<(iZ (m.map Tip.out)).length then .inl 2 else if ∃x∈m,4096<(x.out.drop (iZ (m.map Tip.out)).length).length then .inl 2 else .inr (iZ (m.map Tip.out),m.map (yV (iZ (m.map Tip.out)).length))))
    (λk s hk hI=>by
      obtain ⟨rfl,hI⟩:=hI
      have hkm:k<(m.map Tip.out).length:=by rw [List.length_map];exact hk
      have hlen:k<((m.map Tip.out).take k++List.replicate ((m.map Tip.out).length - k) []).length:=by
        rw [fU,List.length_take,rU];omega
      have hnx:Dz_ k ((m.map Tip.out).take k++List.replicate ((m.map Tip.out).length - k) []) m=some (.inl ((m.map Tip.out).take (k+1)++List.replicate ((m.map Tip.out).length - (k+1)) [],k+1)):=by
        unfold Dz_
        rw [aH hlen,<-xo_ (m.map Tip.out) k hkm ([]:T_1) [],zk Tip.out m k aG [] hk];rfl
      by_cases c0:k=0
      · subst c0
        refine .inl ⟨_,?_,rfl,λj hj=>by omega⟩
        show Iy m _ 0=_
        unfold Iy
        rw [bV (by omega),bQ (by omega)];exact hnx
      obtain ⟨j,rfl⟩: ∃j,k=j+1:=⟨k - 1,by omega⟩
      have hw:IntKind.i64.wrap (((j+1:Nat):Int) - 1)=((j:Nat):Int):=by rw [show ((j+1:Nat):Int) - 1=(j:Int) by omega,UK (by omega) (by omega)]
      have hst:Iy m ((m.map Tip.out).take (j+1)++List.replicate ((m.map Tip.out).length - (j+1)) []) (j+1)=if (nth m j aG).state=(nth m (j+1) aG).state then some (.inr (.inl 12)) else some (.inl ((m.map Tip.out).take (j+1+1)++List.replicate ((m.map Tip.out).length - (j+1+1)) [],j+1+1)):=by
        unfold Iy
        rw [bV (by omega),bV (by omega),hw,aH ⟨by omega,by omega⟩,iT]
        by_cases c:(nth m j aG).state=(nth m (j+1) aG).state
        · rw [bV c,if_pos c];rfl
        rw [bQ c,if_neg c];exact hnx
      by_cases c:(nth m j aG).state=(nth m (j+1) aG).state
      · rw [if_pos c]at hst
        refine .inr ⟨_,hst,?_⟩
        rw [if_pos ((p8_ m).2 ⟨j,hk,c⟩)]
      rw [if_neg c]at hst
      refine .inl ⟨_,hst,rfl,λi hi=> ?_⟩
      by_cases e:i=j
      · subst e;exact c
      exact hI i (by omega))
    (λs hI=>by
      obtain ⟨rfl,hI⟩:=hI
      have hd: ¬ Fh m=true:=λh=>by
        obtain ⟨j,h1,h2⟩:=(p8_ m).1 h
        exact hI j (.inr h1) h2
      refine ⟨_,?_,rfl⟩
      rw [if_neg hd]
      have e:(m.map Tip.out).take m.length++List.replicate ((m.map Tip.out).length - m.length) []=m.map Tip.out:=by
        rw [List.length_map,Nat.sub_self,List.replicate_zero,List.append_nil,show m.length=(m.map Tip.out).length by rw [List.length_map],List.take_length]
      show Iy m _ m.length=_
      rw [e];exact hlast) (s0:=List.replicate m.length []) ⟨by simp,λj hj=>by omega⟩
  rw [<-h2];exact h1
def valD(l:T_1):Nat:=l.foldl (λv d=>v * 10+(d.toNat - 48)) 0
theorem vr_(l:T_1)(d:UInt8):valD (l++[d])=valD l * 10+(d.toNat - 48):=by simp [valD]
theorem oa_{k:Nat}(h:k<10):(UInt8.ofNat (48+k)).toNat=48+k:=by
  rw [UInt8.toNat_ofNat'];omega
theorem wd_(u:Nat):valD (Lib.decDigits u)=u:=by
  induction u using Nat.strongRecOn with
  |ind u ih=>
    rw [Lib.decDigits]
    split
    · rename_i h
      show 0 * 10+((UInt8.ofNat (48+u)).toNat - 48)=u
      rw [oa_ h];omega
    rename_i h
    rw [vr_,ih (u / 10) (by omega),oa_ (by omega)];omega
theorem Nc(u:Nat): ∀c∈Lib.decDigits u,c≠58:=by
  induction u using Nat.strongRecOn with
  |ind u ih=>
    rw [Lib.decDigits]
    have hd: ∀k,k<10->UInt8.ofNat (48+k)≠58:=λk hk e=>by
      have:=congrArg UInt8.toNat e
      rw [oa_ hk]at this
      have h2:(58:UInt8).toNat=58:=rfl
      omega
    split
    · rename_i h
      intro c hc
      rw [List.mem_singleton.1 hc];exact hd u h
    rename_i h
    intro c hc
    rcases List.mem_append.1 hc with hc|hc
    · exact ih (u / 10) (by omega) c hc
    rw [List.mem_singleton.1 hc];exact hd _ (by omega)
theorem ZQ: ∀{a b x y:T_1},(∀c∈a,c≠58)->(∀c∈b,c≠58)->a++58::x=b++58::y->a=b/\x=y
  |[],[],x,y,_,_,h=>by simp at h;exact ⟨rfl,h⟩
  |[],d::b,x,y,_,hb,h=>by
    simp only [List.nil_append,List.cons_append,List.cons.injEq]at h
    exact absurd h.1.symm (hb d (ji ..))
  |d::a,[],x,y,ha,_,h=>by
    simp only [List.nil_append,List.cons_append,List.cons.injEq]at h
    exact absurd h.1 (ha d (ji ..))
  |d::a,e::b,x,y,ha,hb,h=>by
    simp only [List.cons_append,List.cons.injEq]at h
    obtain ⟨rfl,h⟩:=h
    obtain ⟨rfl,rfl⟩:=ZQ (λc hc=>ha c (o7 _ hc)) (λc hc=>hb c (o7 _ hc)) h
    exact ⟨rfl,rfl⟩
theorem qd_{u v:Nat}(h:Lib.decDigits u=Lib.decDigits v):u=v:=by rw [<-wd_ u,h,wd_]
def Je(x:Tip)(r:T_1):T_1:=Lib.decDigits x.state.toNat++58::(Lib.decDigits x.out.length++58::(x.out++r))
def rW:List Tip->T_1
  |[]=>[]
  |x::l=>Je x (rW l)
theorem sd_(x:Tip): ∀l:List Tip,rW (l++[x])=rW l++Je x []
  |[]=>rfl
  |y::l=>by
    show Je y (rW (l++[x]))=Je y (rW l)++Je x []
    rw [sd_ x l]
    unfold Je
    simp
theorem qs_: ∀{l m:List Tip},(∀x∈l,0<=x.state)->(∀x∈m,0<=x.state)->rW l=rW m->l=m
  |[],[],_,_,_=>rfl
  |[],y::m,_,_,h=>by
    have:=congrArg List.length h
    simp [rW,Je]at this
  |x::l,[],_,_,h=>by
    have:=congrArg List.length h
    simp [rW,Je]at this
  | x :: l, y :: m, hl, hm, h => by
    obtain ⟨h1,h2⟩:=ZQ (Nc _) (Nc _) (show Lib.decDigits x.state.toNat++58::_=Lib.decDigits y.state.toNat++58::_ from h)
    obtain ⟨h3,h4⟩:=ZQ (Nc _) (Nc _) h2
    have h5:=qd_ h1
    have h6:=qd_ h3
    obtain ⟨h7,h8⟩:=List.append_inj h4 h6
    have hx:=hl x (ji ..)
    have hy:=hm y (ji ..)
    have e:x=y:=by
      cases x;cases y
      simp only at h5 h7 hx hy
      simp only [Tip.mk.injEq]
      exact ⟨by omega,h7⟩
    rw [e,qs_ (λz hz=>hl z (o7 _ hz)) (λz hz=>hm z (o7 _ hz)) h8]
theorem m3_{n:Int}(h:0<=n):Lib.itoa n=Lib.decDigits n.toNat:=by unfold Lib.itoa;rw [if_neg (by omega)]
theorem tx_: ∀(k u:Nat),u<10 ^ (k+1)->(Lib.decDigits u).length<=k+1
  |0,u,h=>by
    rw [Lib.decDigits,dif_pos (by simpa using h)];simp
  |k+1,u,h=>by
    rw [Lib.decDigits]
    split
    · simp
    have:=tx_ k (u / 10) (by rw [Nat.div_lt_iff_lt_mul (by decide),<-Nat.pow_succ];exact h)
    rw [fU,jZ];omega
theorem ZM{u:Nat}(h:u<=9223372036854775807):(Lib.decDigits u).length<=21:=by
  have:=tx_ 18 u (by omega)
  omega
structure RowOk (n:Int) (l:List Tip):Prop where
  len:l.length<=1000000
  inc:l.Pairwise λx y=>x.state<y.state
  st: ∀x∈l,0<=x.state/\x.state<n
  out: ∀x∈l,x.out.length<=4096
theorem ZI(b x:T_1)(hx:x.length<=281474976710656)(h:b.length+x.length<=140737488355328):zh ⟨b⟩ x=some (((x.length:Nat):Int),(),⟨b++x⟩):=by
  unfold zh ZX io_
  rw [aH hx,gJ,aH h]
theorem ZU(b:T_1)(x:UInt8)(h:b.length+1<=140737488355328):GL ⟨b⟩ x=some ((),⟨b++[x]⟩):=by
  unfold GL ZX io_
  rw [gJ,aH (by simpa using h)]
theorem key_eq {n : Int} (hn : n <= 1024) {l : List Tip} (h : RowOk n l) : Gf_ l = some (rW l) := by
  unfold Gf_
  obtain ⟨r,h1,h2⟩:=kM (step:=λq:T_1×Nat=>Qv l q.1 q.2) (λs k=>(s,k)) l.length (λk s=>s=rW (l.take k)/\s.length<=k * 4200) (λr=>r=rW l)
    (λk s hk hI=>by
      obtain ⟨rfl,hI⟩:=hI
      have hm:=vU aG hk
      have hst:=h.st _ hm
      have hout:=h.out _ hm
      have hlen:=h.len
      have hd1:=ZM (u:=(nth l k aG).state.toNat) (by omega)
      have hd2:=ZM (u:=(nth l k aG).out.length) (by omega)
      refine .inl ⟨rW (l.take k)++Je (nth l k aG) [],?_,by rw [yw l hk aG,sd_],?_⟩
      · show Qv l (rW (l.take k)) k=_
        unfold Qv
        have hk1:k<=1000000:=by omega
        have hk2:k * 4200<=4200000000:=by omega
        rw [bV (by omega),aH ⟨by omega,by omega⟩,m3_ hst.1,ZI _ _ (by omega) (by omega),gJ]
        show bnd (GL ⟨rW (l.take k)++Lib.decDigits (nth l k aG).state.toNat⟩ 58) _=_
        rw [ZU _ _ (by rw [fU];omega),gJ,aH ⟨by omega,by omega⟩,m3_ (by omega),iT]
        show bnd (zh ⟨rW (l.take k)++Lib.decDigits (nth l k aG).state.toNat++[58]⟩ (Lib.decDigits (nth l k aG).out.length)) _=_
        rw [ZI _ _ (by omega) (by simp only [fU,jZ];omega),gJ]
        show bnd (GL ⟨rW (l.take k)++Lib.decDigits (nth l k aG).state.toNat++[58]++Lib.decDigits (nth l k aG).out.length⟩ 58) _=_
        rw [ZU _ _ (by simp only [fU,jZ];omega),gJ]
        show bnd (zh ⟨rW (l.take k)++Lib.decDigits (nth l k aG).state.toNat++[58]++Lib.decDigits (nth l k aG).out.length++[58]⟩ (nth l k aG).out) _=_
        rw [ZI _ _ (by omega) (by simp only [fU,jZ];omega),gJ]
        show nxt (_,_)=some (.inl (_,_))
        unfold Je
        simp [nxt]
      rw [fU]
      unfold Je
      simp only [fU,List.length_cons,List.length_nil]
      omega)
    (λs hI=>by
      obtain ⟨rfl,hI⟩:=hI
      refine ⟨_,?_,rfl⟩
      rw [List.take_length]
      show Qv l (rW l) l.length=_
      unfold Qv WE
      rw [bQ (by omega),gJ];rfl) (s0:=[]) ⟨rfl,by simp⟩
  rw [<-h2];exact h1
def M_(most:Int)(R:List (List Tip))(r:List Tip):Int⊕(Nat×List (List Tip)):=
  if r∈R then .inr (R.idxOf r,R) else if most<=(R.length:Int) then .inl 2 else .inr (R.length,R++[r])
theorem rf_{R:List (List Tip)}{r:List Tip}(h:r∈R):R.idxOf r<R.length:=List.idxOf_lt_length_iff.2 h
theorem xh_{R:List (List Tip)}{r:List Tip}(h:r∈R):nth R (R.idxOf r) []=r:=by
  unfold nth
  rw [List.getD_eq_getElem?_getD,List.getElem?_eq_getElem (rf_ h)]
  exact List.getElem_idxOf (rf_ h)
structure Places (n:Int) (m:FM T_1 Int) (R:List (List Tip)):Prop where
  ok: ∀r∈R,RowOk n r
  nd:R.Nodup
  at': ∀i,i<R.length->m.f (rW (nth R i []))=some ((i:Nat):Int)
  is: ∀k v,m.f k=some v-> ∃i,i<R.length/\rW (nth R i [])=k
theorem Places.nil(n:Int):Places n FM.emp []:=⟨by simp,List.nodup_nil,by simp,λk v h=>by cases h⟩
theorem GU{α:Type}{l m:List α}{i:Nat}(h:i<l.length)(d:α):nth (l++m) i d=nth l i d:=by
  unfold nth
  rw [List.getD_eq_getElem?_getD,List.getD_eq_getElem?_getD,List.getElem?_append_left h]
theorem LC{α:Type}(l:List α)(x d:α):nth (l++[x]) l.length d=x:=by
  unfold nth
  rw [List.getD_eq_getElem?_getD,List.getElem?_append_right (Nat.le_refl _),Nat.sub_self];rfl
theorem Places.key{n:Int}{m:FM T_1 Int}{R:List (List Tip)}(h:Places n m R){r:List Tip}(hr:RowOk n r):m.has (rW r)=decide (r∈R):=by
  unfold FM.has
  rw [Bool.eq_iff_iff,lg]
  constructor
  · intro hs
    obtain ⟨v,hv⟩:=Option.isSome_iff_exists.1 hs
    obtain ⟨i,h1,h2⟩:=h.is _ _ hv
    have h3:=vU [] h1
    have:=qs_ (λx hx=>((h.ok _ h3).st x hx).1) (λx hx=>(hr.st x hx).1) h2
    rw [<-this];exact h3
  intro hm
  have:=h.at' _ (rf_ hm)
  rw [xh_ hm]at this
  rw [this];rfl
theorem Places.get{n:Int}{m:FM T_1 Int}{R:List (List Tip)}(h:Places n m R){r:List Tip}(hm:r∈R):m.get (rW r) 0=((R.idxOf r:Nat):Int):=by
  have:=h.at' _ (rf_ hm)
  rw [xh_ hm]at this
  unfold FM.get
  rw [this];rfl
theorem Places.put{n:Int}{m:FM T_1 Int}{R:List (List Tip)}(h:Places n m R){r:List Tip}(hr:RowOk n r)(hm:r∉R):Places n (m.put (rW r) ((R.length:Nat):Int)) (R++[r]):=by
  refine ⟨λx hx=> ?_,?_,λi hi=> ?_,λk v hk=> ?_⟩
  · rcases List.mem_append.1 hx with hx|hx
    · exact h.ok x hx
    rw [List.mem_singleton.1 hx];exact hr
  · rw [List.nodup_append]
    refine ⟨h.nd,by simp,λa ha b hb e=> ?_⟩
    rw [List.mem_singleton.1 hb]at e
    exact hm (e▸ha)
  · rw [fU,jZ]at hi
    show (if rW (nth (R++[r]) i [])=rW r then _ else _)=_
    by_cases e:i=R.length
    · subst e
      rw [LC,if_pos rfl]
    have hl:i<R.length:=by omega
    rw [GU hl]
    have h3:=vU [] hl
    rw [if_neg λq=> ?_]
    · exact h.at' i hl
    have:=qs_ (λx hx=>((h.ok _ h3).st x hx).1) (λx hx=>(hr.st x hx).1) q
    exact hm (this▸h3)
  change (if k=rW r then _ else _)=_ at hk
  rw [fU,jZ]
  by_cases e:k=rW r
  · exact ⟨R.length,by omega,by rw [LC];exact e.symm⟩
  rw [if_neg e]at hk
  obtain ⟨i,h1,h2⟩:=h.is _ _ hk
  exact ⟨i,by omega,by rw [GU h1];exact h2⟩
def putR(x:Maker)(R:List (List Tip))(m:FM T_1 Int):Maker:=⟨x.arcs,x.ends,x.most,R,m,x.q⟩
theorem uo_{n:Int}(hn:n<=1024){x0:Maker}(h:Places n x0.places x0.rows){r:List Tip}(hr:RowOk n r)(hl:x0.rows.length<=1000000):
    (∀k,M_ x0.most x0.rows r= .inl k->Iz x0 r=some (.inl k))/\ ∀i R',M_ x0.most x0.rows r= .inr (i,R')-> ∃m',Iz x0 r=some (.inr (((i:Nat):Int),putR x0 R' m'))/\Places n m' R':=by
  have hst:Iz x0 r=aQ (decide (r∈x0.rows)) (some (.inr ((x0.places.get (rW r) 0),x0))) (aQ (decide (x0.most<=((x0.rows.length:Nat):Int))) (some (.inl 2)) (some (.inr (((x0.rows.length:Nat):Int),(⟨x0.arcs,x0.ends,x0.most,(x0.rows++[r]),(x0.places.put (rW r) ((x0.rows.length:Nat):Int)),x0.q⟩:Maker))))):=by
    unfold Iz
    rw [key_eq hn hr,gJ,h.key hr,aH (by simp;omega)]
  rw [hst]
  unfold M_
  by_cases c:r∈x0.rows
  · rw [if_pos c,bV c]
    refine ⟨λk e=>(by cases e),λi R' e=> ?_⟩
    cases e
    exact ⟨x0.places,by rw [h.get c];rfl,h⟩
  rw [if_neg c,bQ c]
  by_cases d:x0.most<=(x0.rows.length:Int)
  · rw [if_pos d,bV d]
    exact ⟨λk e=>(by cases e;rfl),λi R' e=>(by cases e)⟩
  rw [if_neg d,bQ d]
  refine ⟨λk e=>(by cases e),λi R' e=> ?_⟩
  cases e
  exact ⟨_,rfl,h.put hr c⟩
inductive RchQ (q:Seq):Nat->Prop
  |zero:RchQ q 0
  |step {s b:Nat}:RchQ q s->b<256->0<=nxQ q s b->RchQ q (nxQ q s b).toNat
def Ip(k:Nat->Bool)(n:Nat):List Nat:=(List.range n).filter k
theorem jm_(k:Nat->Bool)(n:Nat):Ip k (n+1)=Ip k n++if k n=true then [n] else []:=by
  unfold Ip
  rw [List.range_succ,List.filter_append]
  congr 1
  by_cases c:k n=true
  · rw [if_pos c,List.filter_cons_of_pos c];rfl
  rw [if_neg c,List.filter_cons_of_neg c];rfl
theorem YE(k:Nat->Bool): ∀n,(Ip k n).length=jv k n
  |0=>rfl
  |n+1=>by
    rw [jm_,fU,YE k n,jv]
    cases k n<;>rfl
theorem ku_(k:Nat->Bool){s:Nat}(hk:k s=true): ∀{n:Nat},s<n->nth (Ip k n) (jv k s) 0=s
  |n+1,hs=>by
    rw [jm_]
    by_cases c:s<n
    · rw [GU (by rw [YE];exact ZL k c hk)];exact ku_ k hk c
    have:s=n:=by omega
    subst this
    rw [if_pos hk,<-YE k s];exact LC _ _ _
def nxP(q:Seq)(k:Nat->Bool)(s b:Nat):Int:=if nxQ q s b<0 then -1 else if k (nxQ q s b).toNat=true then ((jv k (nxQ q s b).toNat:Nat):Int) else -1
def otP(q:Seq)(l:aB)(k:Nat->Bool)(s b:Nat):T_1:=if nxQ q s b<0 then [] else if k (nxQ q s b).toNat=true then (otQ q s b++nth l (nxQ q s b).toNat []).drop (nth l s []).length else []
def tlP(q:Seq)(l:aB)(s:Nat):T_1:=if nth q.fin s false=true then (nth q.tail s []).drop (nth l s []).length else []
def o9(q:Seq)(l:aB)(k:Nat->Bool):Seq:=
  ⟨q.front++nth l 0 [],(Ip k q.next.length).map λs=>(List.range 256).map (nxP q k s),(Ip k q.next.length).map λs=>(List.range 256).map (otP q l k s),(Ip k q.next.length).map λs=>nth q.fin s false,(Ip k q.next.length).map (tlP q l)⟩
theorem Yy{n i:Nat}(h:i<n):nth (List.range n) i 0=i:=by
  rw [Tf _ (by rw [List.length_range];exact h),List.getElem_range]
section
variable {q:Seq} {l:aB} {k:Nat->Bool} {s:Nat}
theorem m8_(hs:s<q.next.length)(hk:k s=true):jv k s<(Ip k q.next.length).length:=by rw [YE];exact ZL k hs hk
theorem qh_(hs:s<q.next.length)(hk:k s=true){b:Nat}(hb:b<256):nxQ (o9 q l k) (jv k s) b=nxP q k s b:=by
  unfold nxQ o9
  rw [zk _ _ _ 0 _ (m8_ hs hk),ku_ k hk hs,zk _ _ _ 0 _ (by rw [List.length_range];exact hb),Yy hb]
theorem p1_(hs:s<q.next.length)(hk:k s=true){b:Nat}(hb:b<256):otQ (o9 q l k) (jv k s) b=otP q l k s b:=by
  unfold otQ o9
  rw [zk _ _ _ 0 _ (m8_ hs hk),ku_ k hk hs,zk _ _ _ 0 _ (by rw [List.length_range];exact hb),Yy hb]
theorem ri_(hs:s<q.next.length)(hk:k s=true):nth (o9 q l k).fin (jv k s) false=nth q.fin s false:=by
  unfold o9
  rw [zk _ _ _ 0 _ (m8_ hs hk),ku_ k hk hs]
theorem ps_(hs:s<q.next.length)(hk:k s=true):nth (o9 q l k).tail (jv k s) []=tlP q l s:=by
  unfold o9
  rw [zk _ _ _ 0 _ (m8_ hs hk),ku_ k hk hs]
end
theorem WH(q:Seq)(l:aB)(k:Nat->Bool):(o9 q l k).next.length=jv k q.next.length:=by
  unfold o9;rw [List.length_map,YE]
theorem nt_{q:Seq}(hq:eH q=true){l:aB}{m:B_1}(h:FrOk q l m){s b:Nat}(hs:s<q.next.length)(hb:b<256)(h0:0<=nxQ q s b)(hm:nth m (nxQ q s b).toNat false=true):
    nth l s [] <+: otQ q s b++nth l (nxQ q s b).toNat []:=by
  have hz:=oC hq hs hb
  have hv:=v2_ hb h0 (h.com s hs)
  obtain ⟨w,y,hy⟩:=(h.live (nxQ q s b).toNat (by omega)).1 hm
  have h1:=hv w y hy
  rcases List.prefix_or_prefix_of_prefix h1 (List.prefix_append (otQ q s b) y)with h2|⟨r,hr⟩
  · exact h2.trans (List.prefix_append _ _)
  rw [<-hr,List.prefix_append_right_inj]
  refine h.up _ (by omega) hm r λw y hy=> ?_
  have:=hv w y hy
  rwa [<-hr,List.prefix_append_right_inj]at this
def V3(q:Seq)(m:B_1)(k:Nat->Bool):Prop:= ∀s,s<q.next.length->(k s=true↔RchQ q s/\nth m s false=true)
theorem Gs_ {q : Seq} (hq : eH q = true) {l : aB} {m : B_1} (h : FrOk q l m) {k : Nat -> Bool} (hk : V3 q m k) : ∀ (w : T_1) (s : Nat), s < q.next.length -> k s = true -> cu (o9 q l k) (jv k s) w = (cu q s w).map λy => y.drop (nth l s []).length
  |[],s,hs,hks=>by
    rw [cu,cu,ri_ hs hks,ps_ hs hks]
    unfold tlP
    by_cases c:nth q.fin s false=true
    · rw [if_pos c,if_pos c,if_pos c];rfl
    rw [if_neg c,if_neg c];rfl
  | b :: w, s, hs, hks => by
    have hb:b.toNat<256:=by have:=UInt8.toNat_lt b;omega
    rw [cu,cu,qh_ hs hks hb,p1_ hs hks hb]
    unfold nxP otP
    have hz:=oC hq hs hb
    by_cases c:nxQ q s b.toNat<0
    · rw [if_pos c,if_pos c,if_pos c,if_pos (by decide)];rfl
    rw [if_neg c,if_neg c,if_neg c]
    have hzl:(nxQ q s b.toNat).toNat<q.next.length:=by omega
    by_cases d:k (nxQ q s b.toNat).toNat=true
    · rw [if_pos d,if_pos d,if_neg (by omega),iT,Gs_ hq h hk w _ hzl d]
      cases ho:cu q (nxQ q s b.toNat).toNat w with
      |none=>rfl
      |some y=>
        show some _=some _
        congr 1
        obtain ⟨y',hy'⟩:=h.com _ hzl w y ho
        have hf:=(nt_ hq h hs hb (by omega) ((hk _ hzl).1 d).2).length_le
        show (otQ q s b.toNat++nth l (nxQ q s b.toNat).toNat []).drop (nth l s []).length++y.drop (nth l (nxQ q s b.toNat).toNat []).length=(otQ q s b.toNat++y).drop (nth l s []).length
        rw [<-hy',List.drop_left,<-qA,List.drop_append_of_le_length hf]
    rw [if_neg d,if_neg d,if_pos (by decide)]
    have hr:=((hk s hs).1 hks).1
    cases ho:cu q (nxQ q s b.toNat).toNat w with
    |none=>rfl
    |some y=>
      have:=(h.live _ hzl).2 ⟨w,y,ho⟩
      exact absurd ((hk _ hzl).2 ⟨hr.step hb (by omega),this⟩) d
theorem rch_lt{q:Seq}(hlt: ∀s b,s<q.next.length->b<256->nxQ q s b<(q.next.length:Int))(h0:0<q.next.length){s:Nat}(h:RchQ q s):s<q.next.length:=by
  induction h with
  |zero=>exact h0
  |step _ hb h1 ih=>have:=hlt _ _ ih hb;omega
theorem ud_(q:Seq)(l:aB){k:Nat->Bool}(hq:eH q=true){s b:Nat}(hs:s<q.next.length)(hb:b<256):nxP q k s b<((o9 q l k).next.length:Int):=by
  rw [WH]
  have hz:=oC hq hs hb
  unfold nxP
  split
  · omega
  split
  · rename_i c
    have:=ZL k (m:=(nxQ q s b).toNat) (n:=q.next.length) (by omega) c
    omega
  omega
theorem Iq_{q:Seq}(hq:eH q=true){l:aB}{m:B_1}(h:FrOk q l m){k:Nat->Bool}(hk:V3 q m k):PshQ (o9 q l k):=by
  have hl:=WH q l k
  refine ⟨λp b hp hb=> ?_,λp hp=> ?_,λp hp x hx=> ?_⟩
  · obtain ⟨s,h1,h2,h3⟩:=ke_ k q.next.length p (by omega)
    rw [<-h3,qh_ h1 h2 hb]
    exact ud_ q l hq h1 hb
  · obtain ⟨s,h1,h2,h3⟩:=ke_ k q.next.length p (by omega)
    obtain ⟨w,y,hy⟩:=(h.live s h1).1 ((hk s h1).1 h2).2
    refine ⟨w,y.drop (nth l s []).length,?_⟩
    rw [<-h3,Gs_ hq h hk w s h1 h2,hy];rfl
  obtain ⟨s,h1,h2,h3⟩:=ke_ k q.next.length p (by omega)
  have hc:ComQ q s (nth l s []++x):=λw y hy=>by
    obtain ⟨y',hy'⟩:=h.com s h1 w y hy
    rw [<-hy',List.prefix_append_right_inj]
    refine hx w y' ?_
    rw [<-h3,Gs_ hq h hk w s h1 h2,hy,<-hy']
    show some ((nth l s []++y').drop (nth l s []).length)=some y'
    rw [List.drop_left]
  have:=(h.up s h1 ((hk s h1).1 h2).2 _ hc).length_le
  rw [fU]at this
  exact oU (by omega)
def tJ(q:Seq)(w:T_1):Option T_1:=(cu q 0 w).map λy=>q.front++y
theorem Ih_{q:Seq}(hq:eH q=true){l:aB}{m:B_1}(h:FrOk q l m){k:Nat->Bool}(hk:V3 q m k)(h0:0<q.next.length)(hk0:k 0=true)(w:T_1):tJ (o9 q l k) w=tJ q w:=by
  have:=Gs_ hq h hk w 0 h0 hk0
  rw [show jv k 0=0 from rfl]at this
  unfold tJ
  rw [this]
  cases ho:cu q 0 w with
  |none=>rfl
  |some y=>
    obtain ⟨y',hy'⟩:=h.com 0 h0 w y ho
    rw [<-hy']
    show some ((q.front++nth l 0 [])++(nth l 0 []++y').drop (nth l 0 []).length)=some (q.front++(nth l 0 []++y'))
    rw [List.drop_left,qA]
theorem qo_{q:Seq}: ∀(w:T_1) (i s:Nat) (acc:T_1),(Dt q w i ((s:Nat):Int) acc).1=(((cu q s w).map λy=>acc++y).getD [])/\(Dt q w i ((s:Nat):Int) acc).2.2=(cu q s w).isSome
  |[],i,s,acc=>by
    rw [Dt,cu,iT]
    by_cases c:nth q.fin s false=true
    · rw [if_pos c,if_pos c];exact ⟨rfl,rfl⟩
    rw [if_neg c,if_neg c];exact ⟨rfl,rfl⟩
  |b::w,i,s,acc=>by
    rw [Dt,cu,iT]
    change (if nxQ q s b.toNat<0 then _ else Dt q w (i+1) (nxQ q s b.toNat) (acc++otQ q s b.toNat)).1=_/\(if nxQ q s b.toNat<0 then _ else Dt q w (i+1) (nxQ q s b.toNat) (acc++otQ q s b.toNat)).2.2=_
    by_cases c:nxQ q s b.toNat<0
    · rw [if_pos c,if_pos c];exact ⟨rfl,rfl⟩
    rw [if_neg c,if_neg c]
    have:=qo_ (q:=q) w (i+1) (nxQ q s b.toNat).toNat (acc++otQ q s b.toNat)
    rw [show (((nxQ q s b.toNat).toNat:Nat):Int)=nxQ q s b.toNat by omega]at this
    rw [this.1,this.2]
    cases cu q (nxQ q s b.toNat).toNat w with
    |none=>exact ⟨rfl,rfl⟩
    |some y=>exact ⟨by show (acc++_)++y=acc++(_++y);rw [qA],rfl⟩
theorem ve_{q:Seq}(hq:eH q=true)(w:T_1):(Na q w).1=(tJ q w).getD []/\(Na q w).2.2.1=(tJ q w).isSome/\(Na q w).2.2.2=0:=by
  refine ⟨?_,?_,ro_ hq w⟩<;>unfold Na tJ<;>rw [if_pos hq]
  · by_cases c:q.next.length=0
    · rw [if_pos c,LD (oU c) (oU (by have:=(ni hq).2.2.1;omega))];rfl
    rw [if_neg c];exact (qo_ (q:=q) w 0 0 q.front).1
  by_cases c:q.next.length=0
  · rw [if_pos c,LD (oU c) (oU (by have:=(ni hq).2.2.1;omega))];rfl
  rw [if_neg c]
  have:=(qo_ (q:=q) w 0 0 q.front).2
  show (Dt q w 0 0 q.front).2.2=_
  refine this.trans ?_
  cases cu q 0 w<;>rfl
theorem p6_:CanQ Seq.zero:=by
  refine ⟨⟨λs b hs=> ?_,λs hs=> ?_,λs hs=> ?_⟩,by decide+kernel,λc j hc=> ?_,λj _ hj=> ?_,λs t hs=> ?_⟩
  · exact absurd hs (Nat.not_lt_zero _)
  · exact absurd hs (Nat.not_lt_zero _)
  · exact absurd hs (Nat.not_lt_zero _)
  · exact absurd hc (by show ¬ c<0 * 256;omega)
  · exact absurd hj (Nat.not_lt_zero _)
  exact absurd hs (Nat.not_lt_zero _)
theorem uu_ {m m' : Seq} (h : PshQ m) (h' : PshQ m') (c : 0 < m.next.length) (c' : 0 < m'.next.length) (he : ∀ w, tJ m w = tJ m' w) : m.front = m'.front /\ cu m 0 = cu m' 0 := by
  have hall: ∀w,(cu m 0 w).map (λy=>m.front++y)=(cu m' 0 w).map λy=>m'.front++y:=he
  have hf:m.front=m'.front:=by
    obtain ⟨w,y,hy⟩:=h.live 0 (by omega)
    have h2:=hall w
    rw [hy]at h2
    cases ho:cu m' 0 w with
    |none=>rw [ho]at h2;cases h2
    |some y'=>
      rw [ho]at h2
      have h3:m.front++y=m'.front++y':=Option.some.inj h2
      rcases List.prefix_or_prefix_of_prefix (List.prefix_append m.front y) (h3▸List.prefix_append m'.front y')with ⟨r,hr⟩|⟨r,hr⟩
      · have:r=[]:=p5_ h (show 0<_ by omega) (o:=m.front) (r:=r) (m':=m') (z':=0) λw=>by rw [hr];exact hall w
        rw [<-hr,this,List.append_nil]
      have:r=[]:=p5_ h' (show 0<_ by omega) (o:=m'.front) (r:=r) (m':=m) (z':=0) λw=>by rw [hr];exact (hall w).symm
      rw [<-hr,this,List.append_nil]
  refine ⟨hf,funext λw=> ?_⟩
  have h2:=hall w
  rw [hf]at h2
  cases h3:cu m 0 w with
  |none=>cases h4:cu m' 0 w with
    |none=>rfl
    |some y'=>rw [h3,h4]at h2;cases h2
  |some y=>cases h4:cu m' 0 w with
    |none=>rw [h3,h4]at h2;cases h2
    |some y'=>
      rw [h3,h4]at h2
      have h5:m'.front++y=m'.front++y':=Option.some.inj h2
      rw [List.append_cancel_left h5]
theorem wm_{m m':Seq}(h:CanQ m)(h':CanQ m')(he: ∀w,tJ m w=tJ m' w):m=m':=by
  obtain ⟨q1,q2,q3,q4,q5⟩:=ni h.right
  obtain ⟨p1,p2,p3,p4,p5⟩:=ni h'.right
  have hno: ∀{n:Seq},eH n=true->n.next.length=0->n=Seq.zero:=λ{n} hn h0=>by
    obtain ⟨q1,q2,q3,q4,q5⟩:=ni hn
    have hf:n.front=[]:=by
      simp only [eH,gi_,Bool.and_eq_true,Bool.or_eq_true,lg]at hn
      rcases hn.1.2 with c|c
      · exact absurd h0 c
      exact c
    exact G8_ hf (oU h0) (oU (by omega)) (oU (by omega)) (oU (by omega))
  have hem: ∀w,tJ Seq.zero w=none:=λw=>by unfold tJ;rw [LD rfl rfl];rfl
  have hlive: ∀{n:Seq},CanQ n->0<n.next.length-> ∃w y,tJ n w=some y:=λ{n} hn h0=>by
    obtain ⟨w,y,hy⟩:=hn.live 0 h0
    exact ⟨w,_,by unfold tJ;rw [hy];rfl⟩
  by_cases c:m.next.length=0
  · have e:=hno h.right c
    by_cases c':m'.next.length=0
    · rw [e,hno h'.right c']
    obtain ⟨w,y,hy⟩:=hlive h' (by omega)
    rw [<-he,e,hem]at hy;cases hy
  by_cases c':m'.next.length=0
  · obtain ⟨w,y,hy⟩:=hlive h (by omega)
    rw [he,hno h'.right c',hem]at hy;cases hy
  obtain ⟨e1,e2⟩:=uu_ h.toPshQ h'.toPshQ (by omega) (by omega) he
  exact yb_ h h' e1 e2
theorem um_{q:Seq}{k:Nat->Bool}(h0:0<q.next.length)(hk:k 0=true):0<jv k q.next.length:=by have:=ZL _ h0 hk;omega
theorem Ib_{p:Seq}(hp:eH p=true){lp:aB}{kp:Nat->Bool}(np:0<p.next.length)(kp0:kp 0=true)(hf:(o9 p lp kp).front.length<=4096)(hle: ∀a,a<p.next.length->kp a=true-> ∀b,b<256->(otP p lp kp a b).length<=4096):eH (o9 p lp kp)=true:=by
  have lP:=WH p lp kp
  have posP:=um_ np kp0
  have hself:=Po kp p.next.length
  have hp1:=(ni hp).1
  have hlk:(Ip kp p.next.length).length=(o9 p lp kp).next.length:=by rw [YE,lP]
  refine r9_ (by omega) ?_ ?_ ?_ hf (.inl (by omega)) λi hi=> ?_
  · show (List.map _ _).length=_
    rw [List.length_map,hlk]
  · show (List.map _ _).length=_
    rw [List.length_map,hlk]
  · show (List.map _ _).length=_
    rw [List.length_map,hlk]
  obtain ⟨a,h1,h2,h3⟩:=ke_ kp p.next.length i (by omega)
  have hkl:=m8_ h1 h2
  rw [h3]at hkl
  have hnx: ∀b,b<256->nxQ (o9 p lp kp) i b=nxP p kp a b:=λb hb=>by rw [<-h3];exact qh_ h1 h2 hb
  have hot: ∀b,b<256->otQ (o9 p lp kp) i b=otP p lp kp a b:=λb hb=>by rw [<-h3];exact p1_ h1 h2 hb
  have hno: ∀b,b<256->nxP p kp a b<0->otP p lp kp a b=[]:=λb hb c=>by
    unfold nxP at c
    unfold otP
    split
    · rfl
    rename_i d
    rw [if_neg d]at c
    split
    · rename_i f;rw [if_pos f]at c;omega
    rfl
  have hfin:nth (o9 p lp kp).fin i false=nth p.fin a false:=by rw [<-h3];exact ri_ h1 h2
  have htl:nth (o9 p lp kp).tail i []=tlP p lp a:=by rw [<-h3];exact ps_ h1 h2
  have ht:=(HY hp h1).1
  refine ⟨?_,?_,?_,?_,λb hb=> ?_,λb hb=> ?_,λb hb=> ?_,λb hb c=> ?_⟩
  · rw [htl];unfold tlP
    split
    · rw [List.length_drop];omega
    exact Nat.zero_le _
  · rw [hfin,htl];unfold tlP
    cases nth p.fin a false with
    |true=>exact .inl rfl
    |false=>exact .inr (if_neg (by decide))
  · show (nth (List.map _ _) i []).length=_
    rw [zk _ _ _ 0 _ hkl,List.length_map,List.length_range]
  · show (nth (List.map _ _) i []).length=_
    rw [zk _ _ _ 0 _ hkl,List.length_map,List.length_range]
  · rw [hnx b hb];unfold nxP
    split
    · omega
    split<;>omega
  · rw [hnx b hb];exact ud_ p lp hp h1 hb
  · rw [hot b hb];exact hle a h1 h2 b hb
  rw [hot b hb];exact hno b hb (by rw [<-hnx b hb];omega)
structure RchOk (q:Seq) (v:B_1):Prop where
  len:v.length=q.next.length
  iff: ∀s,s<q.next.length->(nth v s false=true↔RchQ q s)
theorem RchOk.uniq{q:Seq}{v v':B_1}(h:RchOk q v)(k:RchOk q v'):v=v':=
  Hz false (by rw [h.len,k.len]) λs hs=>by
    have hs:s<q.next.length:=by rw [<-h.len];exact hs
    rw [Bool.eq_iff_iff,h.iff s hs,k.iff s hs]
def unM(v:B_1)(i:Nat):Nat:=if nth v i false=true then 0 else 1
theorem wh_(v:B_1)(n:Nat):jg (unM v) n<=n:=by
  have:=p4_ (f:=unM v) (g:=λ_=>1) (n:=n) λi _=>by unfold unM;split<;>omega
  rw [j4_]at this;omega
theorem sj_{v:B_1}{n s:Nat}(hs:s<n)(hl:v.length=n)(h:nth v s false=false):jg (unM (v.set s true)) n+1=jg (unM v) n:=by
  have:=ji_ (f:=unM v) (g:=unM (v.set s true)) (s:=s) (n:=n) hs λi hi hne=>by
    unfold unM;rw [Du hne]
  have e1:unM (v.set s true) s=0:=by unfold unM;rw [GN (by omega)];rfl
  have e2:unM v s=1:=by unfold unM;rw [h];rfl
  omega
theorem tq_{q:Seq}(hq:eH q=true){v:B_1}(hl:v.length=q.next.length)(h0:0<q.next.length)(hz:nth v 0 false=true)(hr: ∀s,s<q.next.length->nth v s false=true->RchQ q s)
    (hc: ∀s,s<q.next.length->nth v s false=true-> ∀b,b<256->0<=nxQ q s b->nth v (nxQ q s b).toNat false=true):RchOk q v:=by
  refine ⟨hl,λs hs=>⟨hr s hs,λh=> ?_⟩⟩
  clear hs
  induction h with
  |zero=>exact hz
  |step h1 hb h2 ih=>exact hc _ (rch_lt (λs b hs hb=>oC hq hs hb) h0 h1) ih _ hb h2
structure RIn (q:Seq) (v:B_1) (w:ak) (s j:Nat) (v':B_1) (w':ak):Prop where
  len:v'.length=q.next.length
  old: ∀i,nth v i false=true->nth v' i false=true
  ow: ∀x∈w,x∈w'
  nw: ∀x∈w',x∈w\/(0<=x/\x<(q.next.length:Int)/\nth v' x.toNat false=true)
  fr: ∀i,nth v' i false=true->nth v i false=true\/(((i:Nat):Int)∈w'/\ ∃b,b<256/\nxQ q s b=((i:Nat):Int))
  to: ∀b,b<j->0<=nxQ q s b->nth v' (nxQ q s b).toNat false=true
  mu:2 * jg (unM v') q.next.length+w'.length<=2 * jg (unM v) q.next.length+w.length
theorem rch_in {q : Seq} (hq : eH q = true) {s : Nat} (hs : s < q.next.length) (z0 : ak) (hz0 : (nth z0 0 0).toNat = s) {v : B_1} (hv : v.length = q.next.length) (w : ak) (hw : w.length <= 1000000) :
    ∃v' w',bC (λz:B_1×ak×Nat=>Nv q z0 z.1 z.2.1 z.2.2) (v,w,0)=some (.inl (v',w'))/\RIn q v w s 256 v' w':=by
  obtain ⟨r1,r2⟩:=vM hq hs
  have hn1:=(ni hq).1
  obtain ⟨r,h1,v',w',rfl,h2⟩:=kM (step:=λz:B_1×ak×Nat=>Nv q z0 z.1 z.2.1 z.2.2) (λ(z:B_1×ak) k=>(z.1,z.2,k)) 256 (λk z=>RIn q v w s k z.1 z.2) (λr=> ∃v' w',r= .inl (v',w')/\RIn q v w s 256 v' w')
    (by
      rintro k ⟨v1,w1⟩ hk hI
      simp only at hI
      left
      have hlt:=oC hq hs hk
      have hl:=hI.len
      have hu:=wh_ v q.next.length
      have hmu:=hI.mu
      show ∃s':B_1×ak,Nv q z0 v1 w1 k=some (.inl (s'.1,s'.2,k+1))/\_
      unfold Nv
      have e1:nth (nth q.next s []) k 0=nxQ q s k:=rfl
      rw [hz0,bV (by omega)]
      simp only [e1]
      by_cases c:0<=nxQ q s k
      · rw [bV c,aH (show 0<=nxQ q s k/\nxQ q s k<(v1.length:Int) by omega)]
        cases d:nth v1 (nxQ q s k).toNat false with
        |true=>
          rw [vJ]
          refine ⟨(v1,w1),rfl,hI.len,hI.old,hI.ow,hI.nw,hI.fr,λb hb hb0=> ?_,hI.mu⟩
          by_cases e:b<k
          · exact hI.to b e hb0
          have:b=k:=by omega
          subst this;exact d
        |false=>
          rw [zi,aH (show 0<=nxQ q s k/\nxQ q s k<(v1.length:Int) by omega),aH (by simp only [jZ];omega)]
          have hset:=sj_ (show (nxQ q s k).toNat<q.next.length by omega) hl d
          refine ⟨(v1.set (nxQ q s k).toNat true,w1++[nxQ q s k]),rfl,by simp [hl],λi hi=> ?_,λx hx=>List.mem_append_left _ (hI.ow x hx),λx hx=> ?_,λi hi=> ?_,λb hb hb0=> ?_,?_⟩
          · show nth (v1.set _ _) _ _=_
            rw [jP];split
            · rfl
            exact hI.old i hi
          · show _\/(_/\_/\nth (v1.set _ _) _ _=_)
            rcases List.mem_append.1 hx with hx|hx
            · rcases hI.nw x hx with h|⟨a1,a2,a3⟩
              · exact .inl h
              refine .inr ⟨a1,a2,?_⟩
              rw [jP];split
              · rfl
              exact a3
            rw [yB]at hx
            subst hx
            exact .inr ⟨c,hlt,by rw [jP,if_pos ⟨rfl,by omega⟩]⟩
          · have hi:nth (v1.set (nxQ q s k).toNat true) i false=true:=hi
            rw [jP]at hi
            by_cases e:(nxQ q s k).toNat=i
            · refine .inr ⟨?_,k,hk,by omega⟩
              show _∈w1++[nxQ q s k]
              rw [show ((i:Nat):Int)=nxQ q s k by omega]
              exact List.mem_append_right _ (List.mem_singleton.2 rfl)
            rw [if_neg (λh=>e h.1)]at hi
            rcases hI.fr i hi with h|⟨h,h'⟩
            · exact .inl h
            exact .inr ⟨List.mem_append_left _ h,h'⟩
          · show nth (v1.set _ _) _ _=_
            rw [jP];split
            · rfl
            rename_i e
            by_cases f:b<k
            · exact hI.to b f hb0
            have:b=k:=by omega
            subst this
            exact absurd ⟨rfl,by omega⟩ e
          show 2 * jg (unM (v1.set _ _)) _+(w1++[nxQ q s k]).length<=_
          rw [fU,jZ];omega
      rw [bQ c]
      refine ⟨(v1,w1),rfl,hI.len,hI.old,hI.ow,hI.nw,hI.fr,λb hb hb0=> ?_,hI.mu⟩
      by_cases e:b<k
      · exact hI.to b e hb0
      have:b=k:=by omega
      subst this;exact absurd hb0 c)
    (by
      rintro ⟨v1,w1⟩ hI
      simp only at hI
      refine ⟨.inl (v1,w1),?_,v1,w1,rfl,hI⟩
      show Nv q z0 v1 w1 256=_
      unfold Nv
      rw [hz0,bQ (by omega)];rfl) (s0:=(v,w)) ⟨hv,λ_ h=>h,λ_ h=>h,λ_ h=> .inl h,λ_ h=> .inl h,λb hb=>by omega,Nat.le_refl _⟩
  exact ⟨v',w',h1,h2⟩
structure RchI (q:Seq) (v:B_1) (w:ak):Prop where
  len:v.length=q.next.length
  zero:nth v 0 false=true
  rng: ∀x∈w,0<=x/\x<(q.next.length:Int)/\nth v x.toNat false=true
  rch: ∀s,s<q.next.length->nth v s false=true->RchQ q s
  cl: ∀s,s<q.next.length->nth v s false=true->((s:Nat):Int)∈w\/ ∀b,b<256->0<=nxQ q s b->nth v (nxQ q s b).toNat false=true
  mu:2 * jg (unM v) q.next.length+w.length<=4096
theorem u8_ {q : Seq} (hq : eH q = true) (h0 : 0 < q.next.length) : ∃ v, Ej_ q = some v /\ RchOk q v := by
  have hn1:=(ni hq).1
  unfold Ej_
  rw [aH (by omega),bQ (by simp only [rU];omega),aH (by simp only [rU];omega)]
  refine Pj (step:=λz:B_1×ak=>Vp q z.1 z.2) (λz=>RchI q z.1 z.2) (λz=>2 * jg (unM z.1) q.next.length+z.2.length) (λr=>RchOk q r) ?_ ?_
  · rintro ⟨v,w⟩ hI
    simp only at hI
    show (∃t',Vp q v w=some (.inl t')/\_/\_)\/ ∃r,Vp q v w=some (.inr r)/\_
    unfold Vp
    cases w with
    |nil=>
      right
      rw [bQ (by simp)]
      refine ⟨_,rfl,tq_ hq hI.len h0 hI.zero hI.rch λs hs h=> ?_⟩
      rcases hI.cl s hs h with c|c
      · cases c
      exact c
    |cons z w=>
      left
      have hz:=hI.rng z (ji ..)
      obtain ⟨s,rfl⟩: ∃s:Nat,z=((s:Nat):Int):=⟨z.toNat,by omega⟩
      have hs:s<q.next.length:=by omega
      have hmu:=hI.mu
      rw [List.length_cons]at hmu
      have e0:nth (((s:Nat):Int)::w) 0 0=((s:Nat):Int):=rfl
      have e1:(((s:Nat):Int)::w).drop 1=w:=rfl
      rw [bV (by simp only [List.length_cons];omega),aH (by simp)]
      simp only [e0,e1]
      rw [aH (by omega)]
      obtain ⟨v',w',h1,h2⟩:=rch_in hq hs (((s:Nat):Int)::w) (by rw [e0,iT]) hI.len w (by omega)
      have hm2:=h2.mu
      refine ⟨_,h1,⟨h2.len,h2.old _ hI.zero,λx hx=> ?_,λi hi hi2=> ?_,λi hi hi2=> ?_,?_⟩,?_⟩
      · rcases h2.nw x hx with h|h
        · have:=hI.rng x (o7 _ h)
          exact ⟨this.1,this.2.1,h2.old _ this.2.2⟩
        exact h
      · rcases h2.fr i hi2 with h|⟨_,b,hb,hx⟩
        · exact hI.rch i hi h
        have:=(hI.rch s hs (by have:=hz.2.2;rwa [iT]at this)).step hb (by omega)
        rw [hx,iT]at this;exact this
      · rcases h2.fr i hi2 with h|⟨h,_⟩
        · rcases hI.cl i hi h with c|c
          · rcases List.mem_cons.1 c with c|c
            · have:i=s:=by omega
              subst this
              exact .inr λb hb hb0=>h2.to b hb hb0
            exact .inl (h2.ow _ c)
          exact .inr λb hb hb0=>h2.old _ (c b hb hb0)
        exact .inl h
      · show 2 * jg (unM v') _+w'.length<=_
        omega
      show 2 * jg (unM v') _+w'.length<2 * jg (unM v) _+(((s:Nat):Int)::w).length
      rw [List.length_cons];omega
  show RchI q ((List.replicate q.next.length false).set 0 true) [0]
  have hf: ∀i,nth ((List.replicate q.next.length false).set 0 true) i false=true↔i=0:=λi=>by
    rw [jP,AB]
    constructor
    · intro h
      split at h
      · rename_i c;exact c.1.symm
      cases h
    intro h
    rw [if_pos ⟨h.symm,by simp;omega⟩]
  have hu:=wh_ ((List.replicate q.next.length false).set 0 true) q.next.length
  refine ⟨by simp,(hf 0).2 rfl,λx hx=> ?_,λs hs h=> ?_,λs hs h=> ?_,?_⟩
  · rw [yB]at hx
    subst hx
    exact ⟨Int.le_refl _,by omega,(hf _).2 rfl⟩
  · rw [(hf s).1 h];exact .zero
  · rw [(hf s).1 h];exact .inl (List.mem_singleton.2 rfl)
  show _+([0]:ak).length<=_
  rw [jZ];omega
def s0_(n:Nat)(k:Nat->Bool)(P:ak):Prop:=P.length=n/\ ∀s,s<n->nth P s 0=if k s=true then ((jv k s:Nat):Int) else -1
def w0_(q:Seq)(l:aB)(k:Nat->Bool)(s:Nat):Prop:= ∀b,b<256->(otP q l k s b).length<=4096
def nxR(q:Seq)(k:Nat->Bool)(s:Nat):ak:=(List.range 256).map (nxP q k s)
def otR(q:Seq)(l:aB)(k:Nat->Bool)(s:Nat):aB:=(List.range 256).map (otP q l k s)
theorem kk_{α:Type}{f:Nat->α}{l:List α}(d:α)(hl:l.length=256)(h: ∀b,b<256->nth l b d=f b):l=(List.range 256).map f:=
  Hz d (by simp [hl]) λb hb=>by
    have hb:b<256:=by omega
    rw [h b hb,zk _ _ _ 0 _ (by rw [List.length_range];exact hb),Yy hb]
theorem Gp_{α:Type}{f:Nat->α}{l:List α}(d:α){k:Nat}(hl:l.length=256)(hk:k<256)(h: ∀b,b<k->nth l b d=f b){x:α}(hx:x=f k): ∀b,b<k+1->nth (l.set k x) b d=f b:=λb hb=>by
  rw [jP]
  by_cases c:k=b
  · subst c;rw [if_pos ⟨rfl,by omega⟩,hx]
  rw [if_neg (λe=>c e.1)];exact h b (by omega)
structure TuI (q:Seq) (l:aB) (k:Nat->Bool) (s j:Nat) (N:ak) (O:aB):Prop where
  n:N.length=256
  o:O.length=256
  nx: ∀b,b<j->nth N b 0=nxP q k s b
  ot: ∀b,b<j->nth O b []=otP q l k s b
  rest: ∀b,j<=b->nth O b []=[]
  le: ∀b,b<j->(otP q l k s b).length<=4096
theorem TuI.none{q:Seq}{l:aB}{k:Nat->Bool}{s j:Nat}{N:ak}{O:aB}(h:TuI q l k s j N O)(hj:j<256)(h1:nxP q k s j= -1)(h2:otP q l k s j=[]):TuI q l k s (j+1) (N.set j (-1)) O:=by
  refine ⟨by rw [fQ];exact h.n,h.o,Gp_ 0 h.n hj h.nx h1.symm,λb hb=> ?_,λb hb=>h.rest b (by omega),λb hb=> ?_⟩
  · by_cases c:b<j
    · exact h.ot b c
    have:b=j:=by omega
    subst this;rw [h2];exact h.rest b (Nat.le_refl _)
  by_cases c:b<j
  · exact h.le b c
  have:b=j:=by omega
  subst this;rw [h2];exact Nat.zero_le _
theorem TuI.some{q:Seq}{l:aB}{k:Nat->Bool}{s j:Nat}{N:ak}{O:aB}(h:TuI q l k s j N O)(hj:j<256){z:Int}{o:T_1}(h1:nxP q k s j=z)(h2:otP q l k s j=o)(hl:o.length<=4096):TuI q l k s (j+1) ((N.set j (-1)).set j z) (O.set j o):=by
  have h3:=h.n
  have h4:=h.o
  refine ⟨by simp [h3],by simp [h4],λb hb=> ?_,Gp_ [] h4 hj h.ot h2.symm,λb hb=> ?_,λb hb=> ?_⟩
  · rw [jP,jP]
    by_cases c:j=b
    · subst c;rw [if_pos ⟨rfl,by simp;omega⟩,h1]
    rw [if_neg (λe=>c e.1),if_neg (λe=>c e.1)];exact h.nx b (by omega)
  · rw [jP,if_neg (λe=>by omega)];exact h.rest b (by omega)
  by_cases c:b<j
  · exact h.le b c
  have:b=j:=by omega
  subst this;rw [h2];exact hl
theorem TuI.rows{q:Seq}{l:aB}{k:Nat->Bool}{s:Nat}{N:ak}{O:aB}(h:TuI q l k s 256 N O):N=nxR q k s/\O=otR q l k s:=⟨kk_ 0 h.n h.nx,kk_ [] h.o h.ot⟩
theorem xv_ {q : Seq} (hq : eH q = true) {l : aB} {m : B_1} (h : FrOk q l m) {k : Nat -> Bool} (hk : V3 q m k) {P : ak} (hP : s0_ q.next.length k P) {s : Nat} (hs : s < q.next.length) :
    ∃r,Ex_ q ((s:Nat):Int) l P=some r/\((w0_ q l k s/\r=(nxR q k s,otR q l k s,true))\/(¬ w0_ q l k s/\r.2.2=false)):=by
  obtain ⟨q1,q2,q3,q4,q5⟩:=ni hq
  obtain ⟨r1,r2⟩:=vM hq hs
  have hll:=h.ln
  have hPl:=hP.1
  have hls:=h.le s hs
  unfold Ex_ Eq_
  rw [aH (by omega)]
  refine kM (step:=λz:ak×aB×Nat=>Nr q ((s:Nat):Int) P l z.1 z.2.1 z.2.2) (λ(z:ak×aB) j=>(z.1,z.2,j)) 256 (λj z=>TuI q l k s j z.1 z.2) (λr=>(w0_ q l k s/\r=(nxR q k s,otR q l k s,true))\/(¬ w0_ q l k s/\r.2.2=false)) ?_ ?_ (s0:=(List.replicate 256 0,List.replicate 256 [])) ⟨by simp,by simp,λb hb=>by omega,λb hb=>by omega,λb _=>AB _ _ _,λb hb=>by omega⟩
  · rintro j ⟨N,O⟩ hj hI
    simp only at hI
    have hNl:=hI.n
    have hOl:=hI.o
    have hlt:=oC hq hs hj
    have hol:=O8 hq hs hj
    show (∃s':ak×aB,Nr q ((s:Nat):Int) P l N O j=some (.inl (s'.1,s'.2,j+1))/\_)\/ ∃r,Nr q ((s:Nat):Int) P l N O j=some (.inr r)/\_
    unfold Nr
    have e1:nth (nth q.next s []) j 0=nxQ q s j:=rfl
    have e2:nth (nth q.outs s []) j []=otQ q s j:=rfl
    rw [iT,bV (by omega),aH (by omega)]
    simp only [e1,e2]
    by_cases c:nxQ q s j<0
    · left
      rw [bV c]
      exact ⟨(_,_),rfl,hI.none hj (by unfold nxP;rw [if_pos c]) (by unfold otP;rw [if_pos c])⟩
    have hz:(nxQ q s j).toNat<q.next.length:=by omega
    have hlz:=h.le _ hz
    have hg:0<=nxQ q s j/\nxQ q s j<(P.length:Int):=by omega
    have hg2:0<=nxQ q s j/\nxQ q s j<(l.length:Int):=by omega
    rw [bQ c,aH hg]
    have hPz:=hP.2 _ hz
    by_cases d:k (nxQ q s j).toNat=true
    · rw [if_pos d]at hPz
      rw [bQ (by omega),aH hg,aH (by simp;omega),aH (by omega),aH (by omega),aH hg2,aH (by omega)]
      have hfv:=(nt_ hq h hs hj (by omega) ((hk _ hz).1 d).2).length_le
      rw [fU]at hfv
      rw [UK (show -9223372036854775808<=(((otQ q s j).length:Nat):Int)+(((nth l (nxQ q s j).toNat []).length:Nat):Int) by omega) (by omega),UK (by omega) (by omega)]
      have ho:otP q l k s j=(otQ q s j++nth l (nxQ q s j).toNat []).drop (nth l s []).length:=by unfold otP;rw [if_neg c,if_pos d]
      have hol2:(otP q l k s j).length=(otQ q s j).length+(nth l (nxQ q s j).toNat []).length - (nth l s []).length:=by rw [ho,List.length_drop,fU]
      by_cases e:4096<(otQ q s j).length+(nth l (nxQ q s j).toNat []).length - (nth l s []).length
      · right
        rw [bV (by omega)]
        exact ⟨_,rfl,.inr ⟨λhr=>by have:=hr j hj;omega,rfl⟩⟩
      left
      rw [bQ (by omega),aH (by omega),aH (by omega),aH hg2,aH (by omega),aH (by omega),aH (by rw [fU];omega),aH (by omega)]
      refine ⟨(_,_),rfl,hI.some hj ?_ ho (by rw [<-ho];omega)⟩
      unfold nxP;rw [if_neg c,if_pos d,hPz]
    rw [if_neg d]at hPz
    left
    rw [bV (by omega)]
    exact ⟨(_,_),rfl,hI.none hj (by unfold nxP;rw [if_neg c,if_neg d]) (by unfold otP;rw [if_neg c,if_neg d])⟩
  rintro ⟨N,O⟩ hI
  simp only at hI
  obtain ⟨e1,e2⟩:=hI.rows
  refine ⟨(N,O,true),?_,.inl ⟨λb hb=>hI.le b hb,by rw [e1,e2]⟩⟩
  show Nr q ((s:Nat):Int) P l N O 256=_
  unfold Nr
  rw [iT,bQ (by omega)];rfl
def oQ(v m:B_1)(s:Nat):Bool:=nth v s false && nth m s false
theorem m4_{q:Seq}{v m:B_1}(hv:RchOk q v):V3 q m (oQ v m):=λs hs=>by
  unfold oQ
  rw [Bool.and_eq_true,hv.iff s hs]
structure NuI (n:Nat) (k:Nat->Bool) (j:Nat) (P:ak):Prop where
  len:P.length=n
  at': ∀s,s<j->nth P s 0=if k s=true then ((jv k s:Nat):Int) else -1
theorem NuI.put{n:Nat}{k:Nat->Bool}{j:Nat}{P:ak}(h:NuI n k j P)(hj:j<n)(hk:k j=true):NuI n k (j+1) ((P.set j (-1)).set j ((jv k j:Nat):Int)):=by
  have hl:=h.len
  refine ⟨by simp [hl],λs hs=> ?_⟩
  rw [jP,jP]
  by_cases c:j=s
  · subst c;rw [if_pos ⟨rfl,by simp;omega⟩,if_pos hk]
  rw [if_neg (λe=>c e.1),if_neg (λe=>c e.1)];exact h.at' s (by omega)
theorem NuI.no{n:Nat}{k:Nat->Bool}{j:Nat}{P:ak}(h:NuI n k j P)(hj:j<n)(hk: ¬ k j=true):NuI n k (j+1) (P.set j (-1)):=by
  have hl:=h.len
  refine ⟨by simp [hl],λs hs=> ?_⟩
  rw [jP]
  by_cases c:j=s
  · subst c;rw [if_pos ⟨rfl,by omega⟩,if_neg hk]
  rw [if_neg (λe=>c e.1)];exact h.at' s (by omega)
def zL(q:Seq)(l:aB)(k:Nat->Bool):Seq×Int:=if eH (o9 q l k)=true then (o9 q l k,0) else (Seq.zero,2)
theorem Ii_{q:Seq}{l:aB}{k:Nat->Bool}{s:Nat}(hs:s<q.next.length)(hk:k s=true)(h: ¬ w0_ q l k s): ¬ eH (o9 q l k)=true:=λhr=>h λb hb=>by
  have:=O8 hr (s:=jv k s) (by rw [WH];exact ZL k hs hk) hb
  rwa [p1_ hs hk hb]at this
def kR{α:Type}(k:Nat->Bool)(j:Nat)(f:Nat->α):List α:=(Ip k j).map f
theorem SS{α:Type}{k:Nat->Bool}{j:Nat}(h:k j=true)(f:Nat->α):kR k j f++[f j]=kR k (j+1) f:=by unfold kR;rw [jm_,if_pos h,List.map_append];rfl
theorem Sj{α:Type}{k:Nat->Bool}{j:Nat}(h: ¬ k j=true)(f:Nat->α):kR k j f=kR k (j+1) f:=by unfold kR;rw [jm_,if_neg h,List.append_nil]
theorem SV{α:Type}(k:Nat->Bool)(j:Nat)(f:Nat->α):(kR k j f).length<=j:=by unfold kR;rw [List.length_map,YE];exact Po k j
theorem x9_ {q : Seq} (hq : eH q = true) {l : aB} {m : B_1} (h : FrOk q l m) {k : Nat -> Bool} (hk : V3 q m k) {P : ak} (hP : s0_ q.next.length k P) (v11 : aB × B_1) (e11 : v11 = (l, m)) :
    bC (λz:bW×fJ×B_1×aB×Nat=>MF v11 P q z.1 z.2.1 z.2.2.1 z.2.2.2.1 z.2.2.2.2) (([]:bW),([]:fJ),([]:B_1),([]:aB),0)=some (zL q l k):=by
  subst e11
  obtain ⟨q1,q2,q3,q4,q5⟩:=ni hq
  have hll:=h.ln
  have hml:=h.mn
  have hPl:=hP.1
  refine Exists.elim (kM (step:=λz:bW×fJ×B_1×aB×Nat=>MF (l,m) P q z.1 z.2.1 z.2.2.1 z.2.2.2.1 z.2.2.2.2) (λ(z:bW×fJ×B_1×aB) j=>(z.1,z.2.1,z.2.2.1,z.2.2.2,j)) q.next.length (λj z=>z=(kR k j (nxR q k),kR k j (otR q l k),kR k j (λs=>nth q.fin s false),kR k j (tlP q l))) (λr=>r=zL q l k) ?_ ?_ (s0:=([],[],[],[])) rfl) (λr lX=> ?_)
  · rintro j ⟨N,O,F,T⟩ hj hI
    cases hI
    have hls:=h.le j hj
    have g1:=SV k j (nxR q k)
    have g2:=SV k j (otR q l k)
    have g3:=SV k j (λs=>nth q.fin s false)
    have g4:=SV k j (tlP q l)
    show (∃s':bW×fJ×B_1×aB,MF (l,m) P q _ _ _ _ j=some (.inl (s'.1,s'.2.1,s'.2.2.1,s'.2.2.2,j+1))/\_)\/ ∃r,MF (l,m) P q _ _ _ _ j=some (.inr r)/\_
    unfold MF
    rw [bV (by simp only [rU];omega),aH (by omega)]
    have hPj:=hP.2 j hj
    by_cases c:k j=true
    · rw [if_pos c]at hPj
      rw [bQ (by omega)]
      obtain ⟨r,t1,t2⟩:=xv_ hq h hk hP hj
      rw [t1,gJ]
      rcases t2 with ⟨t2,rfl⟩|⟨t2,t3⟩
      · left
        have hj3: ∀T':T_1,T'=tlP q l j->D2_ (kR k j (nxR q k)) (nxR q k j,otR q l k j,true) (kR k j (otR q l k)) j q (kR k j (λs=>nth q.fin s false)) (kR k j (tlP q l)) T'=some (.inl (kR k (j+1) (nxR q k),kR k (j+1) (otR q l k),kR k (j+1) (λs=>nth q.fin s false),kR k (j+1) (tlP q l),j+1)):=by
          rintro _ rfl
          unfold D2_
          rw [aH (by simp only [jZ];omega),aH (by simp only [jZ];omega),aH (by omega),aH (by simp only [jZ];omega),aH (by simp only [jZ];omega),SS c,SS c,SS c (λs=>nth q.fin s false),SS c (tlP q l)];rfl
        rw [vJ,aH (by omega)]
        refine ⟨(kR k (j+1) (nxR q k),kR k (j+1) (otR q l k),kR k (j+1) (λs=>nth q.fin s false),kR k (j+1) (tlP q l)),?_,rfl⟩
        cases hf:nth q.fin j false with
        |true=>
          have hcom:=(h.com j hj [] (nth q.tail j []) (by rw [cu,if_pos hf])).length_le
          rw [iteO_true,aH (by omega),aH (by show j<l.length;omega),aH (by show (nth l j []).length<=_/\_;omega)]
          exact hj3 _ (by unfold tlP;rw [if_pos hf])
        |false=>
          rw [iteO_false]
          exact hj3 _ (by unfold tlP;rw [if_neg (by rw [hf];decide)])
      right
      rw [t3,zi]
      refine ⟨_,rfl,?_⟩
      unfold zL
      rw [if_neg (Ii_ hj c t2)];rfl
    rw [if_neg c]at hPj
    left
    rw [bV (by omega)]
    exact ⟨(_,_,_,_),rfl,by rw [Sj c,Sj c,Sj c,Sj c (tlP q l)]⟩
  · rintro ⟨N,O,F,T⟩ hI
    cases hI
    refine ⟨_,?_,rfl⟩
    show MF (l,m) P q _ _ _ _ q.next.length=_
    unfold MF
    rw [bQ (by simp only [rU];omega)]
    change fin (bnd (Qh (o9 q l k)) λNW=>aQ (decide (NW≠0)) (some (Seq.zero,2)) (some (o9 q l k,0)))=_
    rw [Fc_,gJ]
    unfold zL
    by_cases c:eH (o9 q l k)=true
    · rw [if_pos c,if_pos c,bQ (by decide)];rfl
    rw [if_neg c,if_neg c,bV (by decide)];rfl
  obtain ⟨h1,rfl⟩:=lX
  exact h1
inductive PushR (q:Seq):Seq×Int->Prop
  |wrong: ¬ eH q=true->PushR q (Seq.zero,1)
  |none:eH q=true->(q.next.length=0\/ ¬ V4 q 0)->PushR q (Seq.zero,0)
  |made (l:aB) (m v:B_1):eH q=true->0<q.next.length->V4 q 0->FrOk q l m->RchOk q v->PushR q (zL q l (oQ v m))
theorem PushR.uniq{q:Seq}{r r':Seq×Int}(h:PushR q r)(k:PushR q r'):r=r':=by
  cases h with
  |wrong h1=>cases k with
    |wrong _=>rfl
    |none h2 _=>exact absurd h2 h1
    |made _ _ _ h2=>exact absurd h2 h1
  |none h1 h2=>cases k with
    |wrong h3=>exact absurd h1 h3
    |none _ _=>rfl
    |made _ _ _ _ h4 h5=>
      rcases h2 with h2|h2
      · omega
      exact absurd h5 h2
  |made l m v h1 h2 h3 h4 h5=>cases k with
    |wrong h6=>exact absurd h1 h6
    |none _ h6=>
      rcases h6 with h6|h6
      · omega
      exact absurd h3 h6
    |made l' m' v' _ _ _ k4 k5=>
      obtain ⟨rfl,rfl⟩:=h4.uniq k4
      rw [h5.uniq k5]
theorem Iu_ (q : Seq) : ∃ r, Ve q = some r /\ PushR q r := by
  unfold Ve
  rw [Fc_,gJ]
  by_cases hq:eH q=true
  rotate_left
  · rw [if_neg hq,bV (by decide)]
    exact ⟨_,rfl,.wrong hq⟩
  rw [if_pos hq,bQ (by decide)]
  obtain ⟨q1,q2,q3,q4,q5⟩:=ni hq
  obtain ⟨⟨l,m⟩,f1,f2⟩:=r6_ hq
  simp only at f2
  have hll:=f2.ln
  have hml:=f2.mn
  rw [f1,gJ]
  by_cases c0:q.next.length=0
  · rw [bV (by show ((m.length:Nat):Int)=0;omega)]
    exact ⟨_,rfl,.none hq (.inl c0)⟩
  have h0:0<q.next.length:=by omega
  rw [bQ (by show ¬ ((m.length:Nat):Int)=0;omega),aH (by show 0<m.length;omega)]
  cases hm:nth m 0 false with
  |false=>
    rw [zi]
    exact ⟨_,rfl,.none hq (.inr λh=>by have:=(f2.live 0 h0).2 h;rw [hm]at this;cases this)⟩
  |true=>
    rw [vJ,aH (by show 8 * m.length<=_;omega)]
    obtain ⟨v,v1,v2⟩:=u8_ hq h0
    have hvl:=v2.len
    have hls:=f2.le 0 h0
    rw [v1,gJ]
    refine ⟨zL q l (oQ v m),?_,.made l m v hq h0 ((f2.live 0 h0).1 hm) f2 v2⟩
    have hk:=m4_ (m:=m) v2
    refine Exists.elim (kM (step:=λz:ak×Nat×Nat=>Qn v (l,m) q z.1 z.2.1 z.2.2) (λ(z:ak×Nat) j=>(z.1,z.2,j)) q.next.length (λj z=>NuI q.next.length (oQ v m) j z.1/\z.2=jv (oQ v m) j) (λr=>r=zL q l (oQ v m)) ?_ ?_ (s0:=(List.replicate m.length 0,0)) ⟨⟨by simp [hml],λs hs=>by omega⟩,rfl⟩) (λr lX=> ?_)
    · rintro j ⟨P,c⟩ hj ⟨hI,hc⟩
      simp only at hI hc
      subst hc
      have hPl:=hI.len
      have hcj:=Po (oQ v m) j
      left
      show ∃s':ak×Nat,Qn v (l,m) q P _ j=some (.inl (s'.1,s'.2,j+1))/\_
      unfold Qn
      rw [bV (by omega),aH (by omega)]
      cases d1:nth v j false with
      |false=>
        have hkj: ¬ oQ v m j=true:=by unfold oQ;rw [d1];simp
        rw [iteO_false]
        exact ⟨(_,_),rfl,hI.no hj hkj,by simp only [jv];rw [if_neg hkj];rfl⟩
      |true=>
        rw [iteO_true,aH (by show j<m.length;omega)]
        change ∃s':ak×Nat,aQ (nth m j false) _ _=_/\_
        cases d2:nth m j false with
        |false=>
          have hkj: ¬ oQ v m j=true:=by unfold oQ;rw [d1,d2];simp
          rw [iteO_false]
          exact ⟨(_,_),rfl,hI.no hj hkj,by simp only [jv];rw [if_neg hkj];rfl⟩
        |true=>
          have hkj:oQ v m j=true:=by unfold oQ;rw [d1,d2];rfl
          rw [iteO_true,aH (by simp;omega),aH (show jv (oQ v m) j+1<=_ by omega)]
          exact ⟨(_,_),rfl,hI.put hj hkj,by simp only [jv];rw [if_pos hkj]⟩
    · rintro ⟨P,c⟩ ⟨hI,hc⟩
      simp only at hI hc
      refine ⟨zL q l (oQ v m),?_,rfl⟩
      show Qn v (l,m) q P c q.next.length=_
      unfold Qn
      rw [bQ (by omega),aH (by show 0<l.length;omega),aH (by show q.front.length+(nth l 0 []).length<=_;omega),x9_ hq f2 hk ⟨hI.len,λs hs=>hI.at' s hs⟩ (l,m) rfl];rfl
    obtain ⟨h1,rfl⟩:=lX
    exact h1
structure LikeQ (r:Seq) (s t:Nat):Prop where
  fin:nth r.fin s false=nth r.fin t false
  tail:nth r.tail s []=nth r.tail t []
  neg: ∀b,b<256->(nxQ r s b<0↔nxQ r t b<0)
  out: ∀b,b<256->otQ r s b=otQ r t b
theorem bisim{r:Seq}{n:Nat}(hlt: ∀s b,s<n->b<256->nxQ r s b<((n:Nat):Int)){R:Nat->Nat->Prop}(hL: ∀s t,s<n->t<n->R s t->LikeQ r s t)(hR: ∀s t b,s<n->t<n->R s t->b<256->0<=nxQ r s b->R (nxQ r s b).toNat (nxQ r t b).toNat):
    ∀(w:T_1) (s t:Nat),s<n->t<n->R s t->cu r s w=cu r t w
  |[],s,t,hs,ht,h=>by
    have k:=hL s t hs ht h
    rw [cu,cu,k.fin,k.tail]
  |b::w,s,t,hs,ht,h=>by
    have hb:b.toNat<256:=by have:=UInt8.toNat_lt b;omega
    have k:=hL s t hs ht h
    have kn:=k.neg _ hb
    rw [cu,cu]
    by_cases c:nxQ r s b.toNat<0
    · rw [if_pos c,if_pos (kn.1 c)]
    have h1:=hlt s _ hs hb
    have h2:=hlt t _ ht hb
    have c': ¬ nxQ r t b.toNat<0:=λh=>c (kn.2 h)
    rw [if_neg c,if_neg c',k.out _ hb,bisim hlt hL hR w _ _ (by omega) (by omega) (hR s t _ hs ht h hb (by omega))]
theorem sh_ {r : Seq} (h : PshQ r) (hr : eH r = true) {s t : Nat} (hs : s < r.next.length) (ht : t < r.next.length) (he : cu r s = cu r t) : LikeQ r s t := by
  have hn: ∀b,b<256->(nxQ r s b<0↔nxQ r t b<0):=λb hb=>by
    constructor
    · intro c
      by_cases d:0<=nxQ r t b
      · have:=(Lu h h ht hs hb he.symm d).1;omega
      omega
    intro c
    by_cases d:0<=nxQ r s b
    · have:=(Lu h h hs ht hb he d).1;omega
    omega
  have e:=congrFun he []
  rw [cu,cu]at e
  have t1:=(HY hr hs).2
  have t2:=(HY hr ht).2
  have hft:nth r.fin s false=nth r.fin t false/\nth r.tail s []=nth r.tail t []:=by
    cases c1:nth r.fin s false with
    |true=>cases c2:nth r.fin t false with
      |true=>rw [c1,c2,if_pos rfl,if_pos rfl]at e;exact ⟨rfl,Option.some.inj e⟩
      |false=>rw [c1,c2,if_pos rfl,if_neg (by decide)]at e;cases e
    |false=>cases c2:nth r.fin t false with
      |true=>rw [c1,c2,if_pos rfl,if_neg (by decide)]at e;cases e
      |false=>
        rw [c1]at t1;rw [c2]at t2
        rcases t1 with t1|t1
        · cases t1
        rcases t2 with t2|t2
        · cases t2
        exact ⟨rfl,t1.trans t2.symm⟩
  refine ⟨hft.1,hft.2,hn,λb hb=> ?_⟩
  by_cases c:0<=nxQ r s b
  · exact (Lu h h hs ht hb he c).2.1
  rw [Ti hr hs hb (by omega),Ti hr ht hb ((hn b hb).1 (by omega))]
theorem reps{n c:Nat}{f:Nat->Nat}(hs: ∀k,k<c-> ∃s,s<n/\f s=k): ∃rep:Nat->Nat, ∀k,k<c->rep k<n/\f (rep k)=k:=
  ⟨λk=>if h:k<c then Classical.choose (hs k h) else 0,λk hk=>by
    have:=Classical.choose_spec (hs k hk)
    simp only [dif_pos hk];exact this⟩
theorem r0_{n c:Nat}{f g:Nat->Nat}{rep:Nat->Nat}(h: ∀k,k<c->rep k<n/\f (rep k)=k)(hr: ∀s t,s<n->t<n->g s=g t->f s=f t):((List.range c).map λk=>g (rep k)).Nodup:=by
  rw [List.Nodup,List.pairwise_map]
  refine List.Pairwise.imp_of_mem ?_ (List.nodup_range (n:=c))
  intro a b ha hb hne e
  have ha:=List.mem_range.1 ha
  have hb:=List.mem_range.1 hb
  have:=hr _ _ (h a ha).1 (h b hb).1 e
  rw [(h a ha).2,(h b hb).2]at this
  exact hne this
theorem tw_{n c d:Nat}{f g:Nat->Nat}(hs: ∀k,k<c-> ∃s,s<n/\f s=k)(hg: ∀s,s<n->g s<d)(hr: ∀s t,s<n->t<n->g s=g t->f s=f t):c<=d:=by
  obtain ⟨rep,h⟩:=reps hs
  have h2:=Z4 (r0_ h hr) (m:=List.range d) λx hx=>by
    obtain ⟨k,hk,rfl⟩:=List.mem_map.1 hx
    exact List.mem_range.2 (hg _ (h k (List.mem_range.1 hk)).1)
  rw [List.length_map,List.length_range,List.length_range]at h2;exact h2
theorem pigeon{n c:Nat}{f g:Nat->Nat}(hs: ∀k,k<c-> ∃s,s<n/\f s=k)(hg: ∀s,s<n->g s<c)(hr: ∀s t,s<n->t<n->g s=g t->f s=f t){s t:Nat}(hsn:s<n)(htn:t<n)(he:f s=f t):g s=g t:=by
  obtain ⟨rep,h⟩:=reps hs
  have key: ∀s,s<n-> ∃k,k<c/\g (rep k)=g s:=λs hs=>by
    by_cases q:g s∈(List.range c).map λk=>g (rep k)
    · obtain ⟨k,hk,e⟩:=List.mem_map.1 q
      exact ⟨k,List.mem_range.1 hk,e⟩
    exfalso
    have h2:=Z4 (l:=g s::(List.range c).map λk=>g (rep k)) (List.nodup_cons.2 ⟨q,r0_ h hr⟩) (m:=List.range c) λx hx=>by
      rcases List.mem_cons.1 hx with rfl|hx
      · exact List.mem_range.2 (hg _ hs)
      obtain ⟨k,hk,rfl⟩:=List.mem_map.1 hx
      exact List.mem_range.2 (hg _ (h k (List.mem_range.1 hk)).1)
    rw [List.length_cons,List.length_map,List.length_range]at h2
    omega
  obtain ⟨k,hk,e1⟩:=key s hsn
  obtain ⟨k',hk',e2⟩:=key t htn
  have f1:=hr _ _ (h k hk).1 hsn e1
  have f2:=hr _ _ (h k' hk').1 htn e2
  rw [(h k hk).2]at f1
  rw [(h k' hk').2]at f2
  have:k=k':=by omega
  rw [<-e1,<-e2,this]
end Go.Proofs.YtchebnpdnfhenaaGreatDoor
end

noncomputable section
namespace Go.E
open Go
def G6(k:IntKind)(a:Int)(b:Nat):Int:=a.fdiv (2 ^ min b k.bits)
theorem OpVal.shrI{P:Program}{n:Nat}{o:Oper}{e:Env}{σ:aj}{H:List Res}{x y:Operand}{T T':TypeId}{k k':IntKind}{a:Int}{b:Nat}(ho:o.op= .binOp .shr T x y T')(hx:ev e x= .int k a)(hy:ev e y= .int k' (b:Nat)):OpVal P n o e σ H (.int k (G6 k a b)):=λw _=>by
  have h0: ¬ (b:Int)<0:=by omega
  simp only [execOp,ho,hx,hy,Sem.run_bind,gw_,Result.andThen_ok,binOp,Op.shift,h0,if_false,iT,G6];rfl
end Go.E
end

noncomputable section
namespace Go.Proofs.YtchebnpdnfhenaaGreatDoor
open Go Go.E
def RF(n:Int):T_1:=[qK (G6 .i64 n 8),qK n]
def DJ(l:ak):T_1:=l.flatMap RF
def Sml(l:ak):Prop:= ∀x∈l,0<=x/\x<65536
theorem y0_{x y:Int}(hx:0<=x/\x<65536)(hy:0<=y/\y<65536)(h:RF x=RF y):x=y:=by
  unfold RF at h
  rw [List.cons.injEq,List.cons.injEq]at h
  obtain ⟨h1,h2, -⟩:=h
  have e1:=congrArg (λb:UInt8=>((b.toNat:Nat):Int)) h1
  have e2:=congrArg (λb:UInt8=>((b.toNat:Nat):Int)) h2
  rw [p9_,p9_,s3_,s3_]at e1 e2
  have s1: ∀z:Int,G6 .i64 z 8=z / 256:=λz=>by
    unfold G6
    rw [show min 8 (IntKind.bits .i64)=8 from rfl,show ((2:Int) ^ 8)=256 from rfl,Int.fdiv_eq_ediv_of_nonneg _ (by decide)]
  rw [s1,s1]at e1
  omega
theorem re_: ∀{l m:ak},Sml l->Sml m->DJ l=DJ m->l=m
  |[],[],_,_,_=>rfl
  |[],y::m,_,_,h=>by cases h
  |x::l,[],_,_,h=>by cases h
  |x::l,y::m,hl,hm,h=>by
    have h':RF x++DJ l=RF y++DJ m:=h
    obtain ⟨h1,h2⟩:=List.append_inj h' rfl
    rw [y0_ (hl x (ji ..)) (hm y (ji ..)) h1,re_ (λz hz=>hl z (o7 _ hz)) (λz hz=>hm z (o7 _ hz)) h2]
theorem oh_: ∀l:ak,(DJ l).length=l.length * 2
  |[]=>rfl
  |x::l=>by
    have:=oh_ l
    show (RF x++DJ l).length=_
    rw [fU,this]
    show 2+l.length * 2=(l.length+1) * 2
    omega
end Go.Proofs.YtchebnpdnfhenaaGreatDoor
end

noncomputable section
namespace Go.Proofs.YtchebnpdnfhenaaGreatDoor
open Go Go.E Go.E.OpVal Go.E.OpOk Go.Proofs.Tryz
open List (replicate)
theorem ZN:foOf Tryz.prog 167 0=some 0:=by kernel_rfl
theorem SQ:plainF Tryz.prog 109=true:=by kernel_rfl
theorem pf110:plainF Tryz.prog 110=true:=by kernel_rfl
theorem SE:plainF Tryz.prog 149=true:=by kernel_rfl
theorem Sm:plOf Tryz.prog 167=some #[(0,1)]:=by kernel_rfl
theorem RU:szOf Tryz.prog 167=some 1:=by kernel_rfl
theorem zr_:zeroOf Tryz.prog 167=some (.agg #[.map none]):=by kernel_rfl
def Zv(x0:T_1)(x1:SB):Option (SB):=
 grd (x0.length<=281474976710656) (grd (-9223372036854775808<=((x0.length:Nat):Int)/\((x0.length:Nat):Int)<=9223372036854775807) (bnd (zh (⟨x1.buf⟩:SB) (Lib.itoa ((x0.length:Nat):Int))) (λv4=>bnd (GL (⟨v4.2.2.buf⟩:SB) (58:UInt8)) (λv5=>bnd (zh (⟨v5.2.buf⟩:SB) x0) (λv7=>some (⟨v7.2.2.buf⟩:SB))))))
theorem F3_{σ:aj}{x0:T_1}{x1:SB}{u1_1:Bool}(hgl:Dx σ 1 2){r:SB}(hh:Zv x0 x1=some r):
  Con prog 149 #[.string (bs x0),loc fG 0] σ [κ fG #[tV u1_1 fG,.slice yJ x1.buf.length EU] 92,dR 5 ku yJ EU x1.buf] (λv σ' H'=> ∃(Jg:Bool), ∃Dn co3,v= .tuple #[]/\σ=σ'/\H'=[κ fG #[tV Jg fG,.slice Dn r.buf.length co3] 92,dR 5 ku Dn co3 r.buf]):=by
 dsimp only [Zv]at hh
 refine Con.mk (n:=10) Tryz.func149 z z z (λw0=> ?_)
 have x0b:=Hl hh
 replace hh:=Hw hh
 refine ξ (ω z (dX (.inl z) z) (ω z (rQ z kG z) ?_))
 obtain ⟨u3,hh⟩:=aP hh
 refine ν z (kD (mx_ hgl u3) z z vn_ z z z ?_)
 refine ζ 1 z z (ζ 1 z z ?_)
 obtain ⟨v4,u4,hh⟩:=dJ hh
 refine ν z (OpOk.call (Pq u4) z z NT z z z z ?_)
 rintro _ _ _ oz ⟨u104_1,a104_2,c104_3,rfl,rfl,rfl⟩
 refine ε (ξ (ζ 1 z z (ζ 1 z z ?_)))
 obtain ⟨v5,u5,hh⟩:=dJ hh
 refine ν z (OpOk.call (ZY u5) z z ZH z z z z ?_)
 rintro _ _ _ xM ⟨u106_1,a106_2,c106_3,rfl,rfl,rfl⟩
 refine ε (η (ω z (dX (.inl z) z) (ζ 1 z z (ζ 1 z z ?_))))
 obtain ⟨v7,u7,hh⟩:=dJ hh
 refine ν z (OpOk.call (Pq u7) z z NT z z z z ?_)
 rintro _ _ _ pX ⟨u108_1,a108_2,c108_3,rfl,rfl,rfl⟩
 refine TL.nil ?_
 obtain rfl:=so hh
 exact RetOk.mk' (rs:=[]) [κ fG #[tV u108_1 fG,.slice a108_2 v7.2.2.buf.length c108_3] 92,dR 5 ku a108_2 c108_3 v7.2.2.buf] z (.inr z) RVs.nil (List.sublist_append_left _ _) ⟨u108_1,a108_2,c108_3,z,z,z⟩
def D7_(eG:Nat)(mW:T_1):Option ((T_1×Nat)⊕(T_1)):=
 nxt (mW,(eG+1))
def QF(x0:Seq)(x1:Int)(vg:T_1)(eG:Nat):Option ((T_1×Nat)⊕(T_1)):=
 aQ (decide ((eG:Int)<(((nth x0.next x1.toNat []).length:Nat):Int))) (aQ (decide (0<=(nth (nth x0.next x1.toNat []) eG 0))) (bnd (GL (⟨vg⟩:SB) (103:UInt8)) (λv34=>grd (-9223372036854775808<=(eG:Int)/\(eG:Int)<=9223372036854775807) (bnd (zh (⟨v34.2.buf⟩:SB) (Lib.itoa (eG:Int))) (λv37=>bnd (GL (⟨v37.2.2.buf⟩:SB) (58:UInt8)) (λv38=>grd (0<=x1/\x1<(x0.outs.length:Int)) (grd (eG<(nth x0.outs x1.toNat []).length) (bnd (Zv (nth (nth x0.outs x1.toNat []) eG []) (⟨v38.2.buf⟩:SB)) (λv48=>D7_ eG v48.buf)))))))) (D7_ eG vg)) (fin (bnd (WE (⟨vg⟩:SB)) (λv51=>some v51)))
def Dj_(x1:Int)(x0:Seq)(WB:T_1):Option (T_1):=
 grd (0<=x1/\x1<(x0.next.length:Int)) (bC (λq:T_1×Nat=>QF x0 x1 q.1 q.2) (WB,0))
def E9_(x0:Seq)(x1:Int):Option (T_1):=
 grd (0<=x1/\x1<(x0.fin.length:Int)) (aQ (nth x0.fin x1.toNat false) (bnd (GL (⟨([]:T_1)⟩:SB) (101:UInt8)) (λv11=>grd (0<=x1/\x1<(x0.tail.length:Int)) (bnd (Zv (nth x0.tail x1.toNat []) (⟨v11.2.buf⟩:SB)) (λv18=>Dj_ x1 x0 v18.buf)))) (Dj_ x1 x0 ([]:T_1)))
theorem Hp_{σ:aj}{x0:Seq}{x1:Int}(hgl:Dx σ 1 2)(au:RZ σ (aC 1 aF bn) (.slice aN x0.next.length aK) x0.next)(aV:RZ σ (aC 1 aI bF) (.slice aA x0.outs.length aY) x0.outs)(aS:dH σ eq_ aW ay x0.fin)(aO:dH σ aI bI bD x0.tail){r:T_1}(hh:E9_ x0 x1=some r):
  Con prog 110 #[.agg (qF x0 aN aK aA aY aW ay bI bD),.int .i64 x1] σ [] (kZ (.string (bs r)) σ):=by
 dsimp only [E9_]at hh
 have f0_0b:=au.big
 have f0_1b:=aV.big
 have f0_2b:=aS.rv.big
 have f0_3b:=aO.rv.big
 refine Con.mk (n:=53) Tryz.func110 z z z (λw0=> ?_)
 refine ξ (ν z (boxA z z z z (λbG=> ?_)))
 refine ω z (dX (.inr z) z) (ε (ξ (ν z (OpOk.alloc z Vy z z (λeY=> ?_)))))
 refine TL.asH (H':=[κ eY #[tV false eY,bM] 92,jh bG x0 aN aK aA aY aW ay bI bD]) z (ε (ξ (ω z (b9_ z) (ω z (Z_ (.inr z) z) (ε (TC.cutG (α:=(T_1)×(Bool×(Option Addr)×Nat)) (rgs [(10,13)]) (λg=>[]) (λg=>[jh bG x0 aN aK aA aY aW ay bI bD,κ eY #[tV g.2.1 eY,.slice g.2.2.1 g.1.length g.2.2.2] 92,φ 5 1 ku (.slice g.2.2.1 g.1.length g.2.2.2) g.1]) (λg=>σ) (λg=>Dj_ x1 x0 g.1=some r) ?_ (λg j hg=> ?_)))))))
 ·skip
  refine ξ (ω z (aU z uF z) (ω z (bg z rX z (i:=1) z z) (ψ z z ?_)))
  obtain ⟨u9,hh⟩:=aP hh
  refine ω z (OpVal.index z g_ gV z z aS.rv.sl u9.1 u9.2) (ω z (fD false z nX z aS (by omega) z) (ε (TC.cB z hh (λAe hh=> ?_) (λAe hh=> ?_))))
  ·refine ξ (TL.nilS 5 1 ku (ζ 1 z z ?_))
   obtain ⟨v11,u11,hh⟩:=dJ hh
   refine ν z (OpOk.call (ZY u11) z z ZH z z z z ?_)
   rintro _ _ _ kU ⟨u112_1,a112_2,c112_3,rfl,rfl,rfl⟩
   refine ε (η (ω z (Z_ (.inl z) z) (ω z (aU z uX z) (ω z (bg z mJ z (i:=2) z z) (ψ z z ?_)))))
   obtain ⟨u16,hh⟩:=aP hh
   refine ω z (OpVal.index z fF fK z z aO.rv.sl u16.1 u16.2) (ω z (fD ([]:T_1) z iK z aO (by omega) z) (ζ 1 z z (ζ 1 z z ?_)))
   obtain ⟨v18,RP,hh⟩:=dJ hh
   refine ν z (OpOk.call (F3_ hgl RP) z z SE z z z z ?_)
   rintro _ _ _ Ep ⟨u114_1,a114_2,c114_3,rfl,rfl,rfl⟩
   exact ε (cf (v18.buf,(u114_1,a114_2,c114_3)) hh (Θ [1,1,2] 3))
  exact TC.nilS 5 1 ku (ι (S.n (cf (([]:T_1),(false,none,0)) hh (Θ [1,2] 3))))
 skip
 obtain ⟨WB,⟨u105,a108,c109⟩⟩:=g
 have hh:=hg;clear hg
 try dsimp only
 dsimp only [Dj_]at hh
 refine χ (i:=2) z (λ_ hb117 _=> ?_)
 refine θ (ξ (ω z (aU z kW z) (ω z (bg z j_ z (i:=0) z z) (ψ z z ?_))))
 obtain ⟨u22,hh⟩:=aP hh
 refine ω z (OpVal.index z eX fP z z au.isSl u22.1 u22.2) ?_
 obtain ⟨sK,mP,C9⟩:=RZ.seg au x1.toNat (by omega)
 replace mP:dH _ aF sK.1 sK.2 (nth x0.next x1.toNat []):=mP
 have hk118b:=mP.rv.big
 refine ω z (OpVal.of (lZ z hs_ z C9 z) (v':= .slice sK.1 ((nth x0.next x1.toNat []).length) sK.2) z) (ω z (lenC z bY z) (ψ z z (ε (υ (TC.iE (α:=(T_1×Nat)×(Bool×(Option Addr)×Nat)) (rgs [(7,2),(29,23)]) (λg=>[(29,.int .i64 ((g.1.2:Nat):Int))]) (λg=>[jh bG x0 aN aK aA aY aW ay bI bD,κ eY #[tV g.2.1 eY,.slice g.2.2.1 g.1.1.length g.2.2.2] 92,φ 5 1 ku (.slice g.2.2.1 g.1.1.length g.2.2.2) g.1.1]) (λg=>σ) (λg=>bC (λq:T_1×Nat=>QF x0 x1 q.1 q.2) g.1=some r) (λg=>fZ (λq:T_1×Nat=>QF x0 x1 q.1 q.2) g.1) ((WB,0),(u105,a108,c109)) (Θ [2,2,2] 3) z (by repeat (first|exact trivial|refine ⟨z,?_⟩)) hh (λg1 j1 hg1=> ?_))))))
 obtain ⟨⟨vg,eG⟩,⟨u131,Fa,EX⟩⟩:=g1
 have hh:=hg1;clear hg1
 try dsimp only
 obtain ⟨z1,hh,hR1⟩:=iq hh
 dsimp only [QF]at hh
 refine χ (i:=2) z (λ_ U5 _=> ?_)
 refine ξ (ω z (OpVal.lss z z z) (ε (θ (TC.cD z hh (λqj hh=> ?_) (λqj hh=> ?_)))))
 ·refine ι (S.n (TC.cutG (α:=(T_1)×(Bool×(Option Addr)×Nat)) (rgs [(7,2),(31,20)]) (λg=>[]) (λg=>[jh bG x0 aN aK aA aY aW ay bI bD,κ eY #[tV g.2.1 eY,.slice g.2.2.1 g.1.length g.2.2.2] 92,φ 5 1 ku (.slice g.2.2.1 g.1.length g.2.2.2) g.1]) (λg=>σ) (λg=>D7_ eG g.1=some z1) ?_ (λg j hg=> ?_)))
  ·skip
   refine υ (ξ (ψ z z (ω z (bT z bY dh z z mP.rv.sl (by omega)) (ω z (fD (0:Int) z fC z mP (by omega) z) (ψ z z (ψ z z (ε (ξ (ψ z z (ω z (OpVal.geq z z z) (ε (TC.cD z hh (λYC hh=> ?_) (λYC hh=> ?_)))))))))))))
   ·refine ξ (ζ 2 z z (ζ 2 z z ?_))
    obtain ⟨v34,u34,hh⟩:=dJ hh
    refine ν z (OpOk.call (ZY u34) z z ZH z z z z ?_)
    rintro _ _ _ hle145 ⟨u145_1,a145_2,c145_3,rfl,rfl,rfl⟩
    refine ε (ξ (ψ z z ?_))
    obtain ⟨u36,hh⟩:=aP hh
    refine ν z (kD (mx_ hgl u36) z z vn_ z z z ?_)
    refine ζ 1 z z (ζ 1 z z ?_)
    obtain ⟨v37,u37,hh⟩:=dJ hh
    refine ν z (OpOk.call (Pq u37) z z NT z z z z ?_)
    rintro _ _ _ pU ⟨u147_1,a147_2,c147_3,rfl,rfl,rfl⟩
    refine ε (ξ (ζ 1 z z (ζ 1 z z ?_)))
    obtain ⟨v38,u38,hh⟩:=dJ hh
    refine ν z (OpOk.call (ZY u38) z z ZH z z z z ?_)
    rintro _ _ _ hle149 ⟨u149_1,a149_2,c149_3,rfl,rfl,rfl⟩
    refine ε (η (ω z (Z_ (.inl z) z) (ω z (aU z o_ z) (ω z (bg z qx z (i:=2) z z) (ψ z z ?_)))))
    obtain ⟨MR,hh⟩:=aP hh
    refine ω z (OpVal.index z mY nC z z aV.isSl MR.1 MR.2) ?_
    obtain ⟨OI,CQ,hg151⟩:=RZ.seg aV x1.toNat (by omega)
    replace CQ:dH _ aI OI.1 OI.2 (nth x0.outs x1.toNat []):=CQ
    have hk151b:=CQ.rv.big
    refine ω z (OpVal.of (lZ z mJ z hg151 z) (v':= .slice OI.1 ((nth x0.outs x1.toNat []).length) OI.2) z) (ψ z z ?_)
    obtain ⟨u46,hh⟩:=aP hh
    refine ω z (bT z fF fK z z CQ.rv.sl (by omega)) (ω z (fD ([]:T_1) z iK z CQ (by omega) z) (ζ 1 z z (ζ 1 z z ?_)))
    obtain ⟨v48,u48,hh⟩:=dJ hh
    refine ν z (OpOk.call (F3_ hgl u48) z z SE z z z z ?_)
    rintro _ _ _ hle152 ⟨u152_1,a152_2,c152_3,rfl,rfl,rfl⟩
    exact TL.nil (B.n (S.n (cf (v48.buf,(u152_1,a152_2,c152_3)) hh (Θ [1,1,2] 3))))
   exact ι (B.n (S.n (cf (vg,(u131,Fa,EX)) hh (Θ [2,2,2] 3))))
  skip
  obtain ⟨mW,⟨u139,Zm,c143⟩⟩:=g
  have hh:=hg;clear hg
  try dsimp only
  dsimp only [D7_]at hh
  refine χ (i:=2) z (λ_ hb154 _=> ?_)
  refine η (ω z (OpVal.succ z z z (by omega)) (ψ z z (ε ?_)))
  obtain ⟨hh,D5⟩:=dL hR1 hh
  exact lf ((mW,(eG+1)),(u139,Zm,c143)) D5 hh (Θ [2,2,2] 3)
 refine TC.exit (S.x (S.x ?_))
 replace hh:=dI hR1 hh
 refine Δ (S.n (ξ (ζ 2 z z (ζ 2 z z ?_))))
 obtain ⟨v51,u51,hh⟩:=dJ hh
 refine ν z (OpOk.call (j2_ u51) z z V8 z z z z ?_)
 rintro _ _ _ hle156 ⟨rfl,rfl,rfl⟩
 refine ω z (dX (.inr z) z) (ε (TC.rt 0 ?_))
 obtain rfl:=so hh
 exact rq [4] ⟨z,z,z⟩
def Du_(mZ:Int)(Wn:FM T_1 Int):Option (Int×Numb):=
 some (mZ,(⟨Wn⟩:Numb))
def Db_(x0:Numb)(x1:T_1):Option (Int×Numb):=
 grd (x1.length<=281474976710656) (aQ (!(x0.places.has x1)) (Du_ ((x0.places.n:Nat):Int) (x0.places.put x1 ((x0.places.n:Nat):Int))) (Du_ (x0.places.get x1 0) x0.places))
theorem Fr_{σ:aj}{x0:Numb}{x1:T_1}{r:Int×Numb}(hh:Db_ x0 x1=some r):
  Con prog 109 #[loc b_ 0,.string (bs x1)] σ [κ b_ #[.map (some EZ)] pq,Res.mapB l7 nR (some EZ) x0.places] (λv σ' H'=> ∃bo1,v= .int .i64 r.1/\σ=σ'/\H'=[κ b_ #[.map (some bo1)] pq,Res.mapB l7 nR (some bo1) r.2.places]):=by
 dsimp only [Db_]at hh
 refine Con.mk (n:=30) Tryz.func109 z z z (λw0=> ?_)
 have x1b:=Hl hh
 replace hh:=Hw hh
 refine ξ (ψ z z (ε (ξ (TL.l z z (ω z (nH z z) (ω z (aU z ZN z) (ω z (bg z RH z (i:=0) z z) (ω z (dX (.inl z) z) (ω z (OpVal.of (lookB 0 (q:=x1) z underlying70 lq z (i:=1) z z (mw_ kG)) (v':= .tuple #[.int .i64 (x0.places.get x1 0),.bool (x0.places.has x1)]) z) (ω z (vS (.inl z) z) (ω z (OpVal.extract z z z) (ω z (OpVal.extract z z z) (ψ z z (TL.j z z (ε ?_)))))))))))))))
 refine TC.cutG (α:=(Int×(FM T_1 Int))×(Unit)) (rgs [(5,1),(16,13)]) (λg=>[(5,.int .i64 g.1.1)]) (λg=>[κ b_ #[.map (some EZ)] pq,Res.mapB l7 nR (some EZ) g.1.2]) (λg=>σ) (λg=>Du_ g.1.1 g.1.2=some r) ?_ (λg j hg=> ?_)
 ·skip
  refine ξ (TL.j z z (ω z (OpVal.not z z) (ε (TC.cB z hh (λdW hh=> ?_) (λdW hh=> ?_)))))
  ·refine ξ (TL.l z z (ω z (nH z z) (ω z (aU z ZN z) (ω z (bg z RH z (i:=0) z z) (ω z (lenB z underlying70 z (i:=1) z) (ψ z z (ε (η (TL.l z z (ω z (nH z z) (ω z (aU z ZN z) (ω z (bg z RH z (i:=0) z z) (ω z (dX (.inl z) z) (ψ z z (ζ 1 z z ?_)))))))))))))))
   refine ν z (updB x1 ((x0.places.n:Nat):Int) z underlying70 z z z z (mw_ kG) ?_)
   exact ε (cf ((((x0.places.n:Nat):Int),(x0.places.put x1 ((x0.places.n:Nat):Int))),()) hh (Θ [1] 2))
  exact ι (S.n (cf (((x0.places.get x1 0),x0.places),()) hh (Θ [1,1] 2)))
 skip
 obtain ⟨⟨mZ,Wn⟩,_⟩:=g
 have hh:=hg;clear hg
 try dsimp only
 dsimp only [Du_]at hh
 refine ξ (ψ z z (ψ z z (ε (TC.ret ?_))))
 obtain rfl:=so hh
 exact ro [κ b_ #[.map (some EZ)] pq,Res.mapB l7 nR (some EZ) Wn] z (RVs.tmp z RVs.nil) ⟨EZ,z,z,z⟩
def Ea_(gu:Nat)(Ws:T_1):Option ((T_1×Nat)⊕((ak×(FM T_1 Int)×Nat)⊕((ak×Nat)⊕(ak×Int)))):=
 nxt (Ws,(gu+1))
def Qs(x0:Seq)(iP:Nat)(dV:ak)(wG:FM T_1 Int)(fA:ak)(Bg:T_1)(gu:Nat):Option ((T_1×Nat)⊕((ak×(FM T_1 Int)×Nat)⊕((ak×Nat)⊕(ak×Int)))):=
 aQ (decide ((gu:Int)<(((nth x0.next iP []).length:Nat):Int))) (aQ (decide (0<=(nth (nth x0.next iP []) gu 0))) (grd (0<=(nth (nth x0.next iP []) gu 0)/\(nth (nth x0.next iP []) gu 0)<(dV.length:Int)) (grd (0<=(nth (nth x0.next iP []) gu 0)/\(nth (nth x0.next iP []) gu 0)<(dV.length:Int)) (grd ((Bg.length+[(qK (G6 .i64 (nth dV ((nth (nth x0.next iP []) gu 0).toNat) 0) 8)),(qK (nth dV ((nth (nth x0.next iP []) gu 0).toNat) 0))].length) * 1<=140737488355328) (Ea_ gu (Bg++[(qK (G6 .i64 (nth dV ((nth (nth x0.next iP []) gu 0).toNat) 0) 8)),(qK (nth dV ((nth (nth x0.next iP []) gu 0).toNat) 0))]))))) (Ea_ gu Bg)) (fin (bnd (Db_ (⟨wG⟩:Numb) Bg) (λVE=>grd (iP<fA.length) (nxt ((fA.set iP VE.1),VE.2.places,(iP+1))))))
def Qo(dV:ak)(x0:Seq)(DF:Nat)(fA:ak)(wG:FM T_1 Int)(iP:Nat):Option ((ak×(FM T_1 Int)×Nat)⊕((ak×Nat)⊕(ak×Int))):=
 aQ (decide ((iP:Int)<(((replicate dV.length (0:Int)).length:Nat):Int))) (grd (iP<dV.length) (grd (iP<dV.length) (grd (iP<x0.next.length) (bC (λq:T_1×Nat=>Qs x0 iP dV wG fA q.1 q.2) ([(qK (G6 .i64 (nth dV iP 0) 8)),(qK (nth dV iP 0))],0))))) (fin (aQ (decide (((wG.n:Nat):Int)=(DF:Int))) (fin (some (fA,(DF:Int)))) (nxt (fA,wG.n))))
def Zx(x0:Seq)(dV:ak)(DF:Nat):Option ((ak×Nat)⊕(ak×Int)):=
 grd (8 * dV.length<=281474976710656) (bC (λq:ak×(FM T_1 Int)×Nat=>Qo dV x0 DF q.1 q.2.1 q.2.2) ((replicate dV.length (0:Int)),(FM.emp:FM T_1 Int),0))
def Qr(x0:Seq)(aJ:ak)(O4:FM T_1 Int)(qW:Nat):Option ((ak×(FM T_1 Int)×Nat)⊕(ak×Int)):=
 aQ (decide ((qW:Int)<(((replicate x0.next.length (0:Int)).length:Nat):Int))) (bnd (E9_ x0 (qW:Int)) (λv23=>bnd (Db_ (⟨O4⟩:Numb) v23) (λv24=>grd (qW<aJ.length) (nxt ((aJ.set qW v24.1),v24.2.places,(qW+1)))))) (fin (bC (λq:ak×Nat=>Zx x0 q.1 q.2) (aJ,O4.n)))
def Fd_(x0:Seq):Option (ak×Int):=
 grd (8 * x0.next.length<=281474976710656) (bC (λq:ak×(FM T_1 Int)×Nat=>Qr x0 q.1 q.2.1 q.2.2) ((replicate x0.next.length (0:Int)),(FM.emp:FM T_1 Int),0))
def H0_(σ:aj)(r:ak×Int):Value->aj->List Res->Prop:=λv σ' H'=>
 ∃a1 c1,v= .tuple #[.slice a1 r.1.length c1,.int .i64 r.2]/\dH σ' aF a1 c1 r.1/\H'=[]
theorem Hr_{σ:aj}{x0:Seq}(hgl:Dx σ 1 2)(au:RZ σ (aC 1 aF bn) (.slice aN x0.next.length aK) x0.next)(aV:RZ σ (aC 1 aI bF) (.slice aA x0.outs.length aY) x0.outs)(aS:dH σ eq_ aW ay x0.fin)(aO:dH σ aI bI bD x0.tail){r:ak×Int}(hh:Fd_ x0=some r):
  Con prog 66 #[.agg (qF x0 aN aK aA aY aW ay bI bD)] σ [] (H0_ σ r):=by
 dsimp only [Fd_]at hh
 have f0_0b:=au.big
 have f0_1b:=aV.big
 have f0_2b:=aS.rv.big
 have f0_3b:=aO.rv.big
 refine Con.mk (n:=103) Tryz.func66 z z z (λw0=> ?_)
 refine ξ (ν z (boxA z z z z (λbG=> ?_)))
 refine Ξ z z (ψ z z (ε (ξ (ω z (aU z kW z) (ω z (bg z j_ z (i:=0) z z) (ω z (lenC z eX z) ?_))))))
 obtain ⟨u7,hh⟩:=aP hh
 refine ν z (oW (enc:=aF) (0:Int) z bY dh uJ lq z z z z (by omega) (by decide) bn (by decide) z jR (λjD jC=> ?_))
 refine ν z (bw_ (enc:=l7) (encV:=nR) z z z (λxZ=> ?_))
 refine ω z (ny z Sm zr_ z) (ν z (OpOk.alloc z zr_ z z (λPX=> ?_)))
 refine Ξ z z (ν z (storeAll z RU z z z z z z ?_))
 refine ε (θ (ξ (Ξ z z (ω z (lenC z bY z) (ψ z z (ε (υ (TC.iE (α:=(ak×(FM T_1 Int)×Nat)×(Nat)) (rgs [(6,1),(22,11)]) (λg=>[(22,.int .i64 ((g.1.2.2:Nat):Int))]) (λg=>[jh bG x0 aN aK aA aY aW ay bI bD,φ 3 1 aF (.slice jD (replicate x0.next.length (0:Int)).length jC) g.1.1,κ PX #[.map (some g.2)] 167,Res.mapB l7 nR (some g.2) g.1.2.1]) (λg=>σ) (λg=>bC (λq:ak×(FM T_1 Int)×Nat=>Qr x0 q.1 q.2.1 q.2.2) g.1=some r/\g.1.1.length=(replicate x0.next.length (0:Int)).length) (λg=>fZ (λq:ak×(FM T_1 Int)×Nat=>Qr x0 q.1 q.2.1 q.2.2) g.1) (((replicate x0.next.length (0:Int)),(FM.emp:FM T_1 Int),0),xZ) (Θ [1,1,2,3] 4) z (by repeat (first|exact trivial|refine ⟨z,?_⟩)) ⟨hh,z⟩ (λg1 j1 hg1=> ?_)))))))))
 obtain ⟨⟨aJ,O4,qW⟩,b126⟩:=g1
 obtain ⟨hh,fV⟩:=hg1
 try dsimp only at fV ⊢
 obtain ⟨z1,hh,hR1⟩:=iq hh
 dsimp only [Qr]at hh
 refine χ (i:=1) z (λ_ Dc _=> ?_)
 refine ξ (ω z (OpVal.lss z z z) (ε (θ (TC.cD z hh (λrJ hh=> ?_) (λrJ hh=> ?_)))))
 ·refine ι (S.n (θ (υ (ξ (ψ z z (ψ z z (ε (η (Ξ z z (ψ z z (ω z (lG z jw fB z (i:=0) z z) (ψ z z ?_))))))))))))
  obtain ⟨v23,u23,hh⟩:=dJ hh
  refine ν z (kD (Hp_ (x0:=x0) hgl au aV aS aO u23) z z pf110 z z z ?_)
  refine ζ 3 z z (ζ 3 z z ?_)
  obtain ⟨v24,u24,hh⟩:=dJ hh
  refine ν z (OpOk.call (Fr_ u24) z z SQ z z z z ?_)
  rintro _ _ _ pV ⟨b130_1,rfl,rfl,rfl⟩
  obtain ⟨u25,hh⟩:=aP hh
  refine TL.isSl (i:=3) z (λBz _ _=> ?_)
  refine ω z (bT z bY dh z z Bz (by omega)) (ζ 3 z z ?_)
  have BR:(aJ.set qW v24.1).length=(replicate x0.next.length (0:Int)).length:=by rw [fQ];exact fV
  refine ν z (lF v24.1 z dh z z z z bn jR (by omega) (by omega) ?_)
  refine TL.nil (B.n (S.n (η (ω z (OpVal.succ z z z (by omega)) (ψ z z (ε ?_))))))
  obtain ⟨hh,D9⟩:=dL hR1 hh
  exact lf (((aJ.set qW v24.1),v24.2.places,(qW+1)),b130_1) D9 ⟨hh,BR⟩ (Θ [2,2,2,3] 4)
 refine TC.exit (S.x (S.x ?_))
 replace hh:=dI hR1 hh
 refine Δ (S.n (ξ (ω z (aU z ZN z) (ω z (bg z RH z (i:=2) z z) (ω z (lenB z underlying70 z (i:=3) z) (ψ z z (ε (υ ?_))))))))
 rw [show Value.slice jD ((replicate x0.next.length (0:Int)).length) jC=Value.slice jD aJ.length jC from by rw [fV]]
 refine TC.iE (α:=(ak×Nat)×((Option Addr)×Nat)) (rgs [(2,3),(7,5),(13,1),(36,67)]) (λg=>[(4,.slice g.2.1 g.1.1.length g.2.2),(7,.int .i64 ((g.1.2:Nat):Int))]) (λg=>[jh bG x0 aN aK aA aY aW ay bI bD,φ 3 1 aF (.slice g.2.1 g.1.1.length g.2.2) g.1.1]) (λg=>σ) (λg=>bC (λq:ak×Nat=>Zx x0 q.1 q.2) g.1=some r) (λg=>fZ (λq:ak×Nat=>Zx x0 q.1 q.2) g.1) ((aJ,O4.n),(jD,jC)) (Θ [1,1] 2) z (by repeat (first|exact trivial|refine ⟨z,?_⟩)) hh (λg2 j2 hg2=> ?_)
 obtain ⟨⟨dV,DF⟩,⟨a148,YS⟩⟩:=g2
 have hh:=hg2;clear hg2
 try dsimp only
 obtain ⟨z1,hh,hR1⟩:=iq hh
 dsimp only [Zx]at hh
 refine χ (i:=1) z (λ_ U2 _=> ?_)
 refine υ (ξ (Ξ z z (ω z (lenC z bY z) ?_)))
 obtain ⟨u35,hh⟩:=aP hh
 refine ν z (oW (enc:=aF) (0:Int) z bY dh uJ lq z z z z (by omega) (by decide) bn (by decide) z jR (λa152 xU=> ?_))
 refine ν z (bw_ (enc:=l7) (encV:=nR) z z z (λY2=> ?_))
 refine ω z (ny z Sm zr_ z) (ν z (OpOk.alloc z zr_ z z (λLX=> ?_)))
 refine Ξ z z (ν z (storeAll z RU z z z z z z ?_))
 refine ε (θ (ξ (Ξ z z (ω z (lenC z bY z) (ψ z z (ε (υ (TC.iE (α:=(ak×(FM T_1 Int)×Nat)×(Nat)) (rgs [(10,2),(13,1),(43,49)]) (λg=>[(43,.int .i64 ((g.1.2.2:Nat):Int))]) (λg=>[jh bG x0 aN aK aA aY aW ay bI bD,dR 3 aF a148 YS dV,φ 3 1 aF (.slice a152 (replicate dV.length (0:Int)).length xU) g.1.1,κ LX #[.map (some g.2)] 167,Res.mapB l7 nR (some g.2) g.1.2.1]) (λg=>σ) (λg=>bC (λq:ak×(FM T_1 Int)×Nat=>Qo dV x0 DF q.1 q.2.1 q.2.2) g.1=some z1/\g.1.1.length=(replicate dV.length (0:Int)).length) (λg=>fZ (λq:ak×(FM T_1 Int)×Nat=>Qo dV x0 DF q.1 q.2.1 q.2.2) g.1) (((replicate dV.length (0:Int)),(FM.emp:FM T_1 Int),0),Y2) (Θ [1,1,2,4,4] 5) z (by repeat (first|exact trivial|refine ⟨z,?_⟩)) ⟨hh,z⟩ (λg3 j3 hg3=> ?_)))))))))
 obtain ⟨⟨fA,wG,iP⟩,H_⟩:=g3
 obtain ⟨hh,Gi⟩:=hg3
 try dsimp only at Gi ⊢
 obtain ⟨z2,hh,hR2⟩:=iq hh
 dsimp only [Qo]at hh
 refine χ (i:=1) z (λ_ U0 _=> ?_)
 refine χ (i:=2) z (λ_ hb178 _=> ?_)
 refine ξ (ω z (OpVal.lss z z z) (ε (θ (TC.cD z hh (λh179 hh=> ?_) (λh179 hh=> ?_)))))
 ·refine ι (S.n (θ (υ (ξ (ψ z z (ψ z z (ε (θ ?_))))))))
  obtain ⟨u49,hh⟩:=aP hh
  obtain ⟨u55,hh⟩:=aP hh
  refine TC.draw [] (by kernel_rfl) (TA.a 0 z (gK (.inl z) z) z (TA.a 1 z (cO (.inl z) z) z (TA.isSl (i:=1) z (λhs185 _ _=> ?_))))
  refine TA.b 2 z (bT z bY dh z z hs185 (by omega)) z (TA.b 3 z (nZ (0:Int) z fC z (q:=1) z bn (by omega) z) z (TA.a 4 z (shrI (b:=8) z z z) z (TA.a 5 z (b1_ z underlying3 underlying5 z) z (TA.a 6 z (gK (.inl z) z) z (TA.a 7 z (cO (.inl z) z) z (TA.isSl (i:=1) z (λJI _ _=> ?_)))))))
  refine TA.b 8 z (bT z bY dh z z JI (by omega)) z (TA.b 9 z (nZ (0:Int) z fC z (q:=1) z bn (by omega) z) z (TA.a 10 z (b1_ z underlying3 underlying5 z) z (TA.ac 11 z (OpOk.lit (enc:=ku) [(qK (G6 .i64 (nth dV iP 0) 8)),(qK (nth dV iP 0))] z G7 Jm MJ z z z UJ (by decide) (by decide) (0:UInt8) z (by decide) z (by decide) UL (λZi YP=>(k1 ?_))))))
  refine TA.a 12 z (gK (.inr z) z) z (TA.dn (S.n (θ (ξ (ω z (aU z kW z) (ω z (bg z j_ z (i:=1) z z) (ψ z z ?_)))))))
  obtain ⟨u63,hh⟩:=aP hh
  refine ω z (bT z eX fP z z au.isSl (by omega)) ?_
  obtain ⟨OC,CB,hg190⟩:=RZ.seg au iP (by omega)
  replace CB:dH _ aF OC.1 OC.2 (nth x0.next iP []):=CB
  have hk190b:=CB.rv.big
  refine ω z (OpVal.of (lZ z hs_ z hg190 z) (v':= .slice OC.1 ((nth x0.next iP []).length) OC.2) z) (ω z (lenC z bY z) (ψ z z (ε (υ (TC.iE (α:=(T_1×Nat)×((Option Addr)×Nat)) (rgs [(11,1),(13,1),(64,21)]) (λg=>[(11,.slice g.2.1 g.1.1.length g.2.2),(64,.int .i64 ((g.1.2:Nat):Int))]) (λg=>[jh bG x0 aN aK aA aY aW ay bI bD,dR 3 aF a148 YS dV,φ 3 1 aF (.slice a152 (replicate dV.length (0:Int)).length xU) fA,κ LX #[.map (some H_)] 167,Res.mapB l7 nR (some H_) wG,φ 5 1 ku (.slice g.2.1 g.1.1.length g.2.2) g.1.1]) (λg=>σ) (λg=>bC (λq:T_1×Nat=>Qs x0 iP dV wG fA q.1 q.2) g.1=some z2/\fA.length=(replicate dV.length (0:Int)).length) (λg=>fZ (λq:T_1×Nat=>Qs x0 iP dV wG fA q.1 q.2) g.1) (([(qK (G6 .i64 (nth dV iP 0) 8)),(qK (nth dV iP 0))],0),(Zi,YP)) (Θ [5,5,5,5,5] 6) z (by repeat (first|exact trivial|refine ⟨z,?_⟩)) ⟨hh,Gi⟩ (λg4 j4 hg4=> ?_))))))
  obtain ⟨⟨Bg,gu⟩,⟨a204,c205⟩⟩:=g4
  obtain ⟨hh,Gg⟩:=hg4
  try dsimp only at Gg ⊢
  obtain ⟨z3,hh,zX⟩:=iq hh
  dsimp only [Qs]at hh
  refine χ (i:=1) z (λ_ hb207 _=> ?_)
  refine χ (i:=2) z (λ_ UZ _=> ?_)
  refine χ (i:=5) z (λ_ Ld _=> ?_)
  refine ξ (ω z (OpVal.lss z z z) (ε (θ (TC.cD z hh (λh210 hh=> ?_) (λh210 hh=> ?_)))))
  ·refine ι (S.n (TC.cutG (α:=(T_1)×((Option Addr)×Nat)) (rgs [(11,1),(13,1),(66,18)]) (λg=>[(11,.slice g.2.1 g.1.length g.2.2)]) (λg=>[jh bG x0 aN aK aA aY aW ay bI bD,dR 3 aF a148 YS dV,φ 3 1 aF (.slice a152 (replicate dV.length (0:Int)).length xU) fA,κ LX #[.map (some H_)] 167,Res.mapB l7 nR (some H_) wG,φ 5 1 ku (.slice g.2.1 g.1.length g.2.2) g.1]) (λg=>σ) (λg=>Ea_ gu g.1=some z3/\fA.length=(replicate dV.length (0:Int)).length) ?_ (λg j hg=> ?_)))
   ·skip
    refine υ (ξ (ω z (bT z bY dh z z CB.rv.sl (by omega)) (ω z (fD (0:Int) z fC z CB (by omega) z) (ψ z z (ε (ξ (ψ z z (ω z (OpVal.geq z z z) (ε (TC.cD z hh (λYw hh=> ?_) (λYw hh=> ?_)))))))))))
    ·have MP:=Hl hh
     replace hh:=Hw hh
     obtain ⟨NY,hh⟩:=aP hh
     obtain ⟨u86,hh⟩:=aP hh
     refine TC.draw [13,14] (by kernel_rfl) (TA.a 0 z (gK (.inl z) z) z (TA.a 1 z (gK (.inl z) z) z (TA.a 2 z (cO (.inl z) z) z (TA.isSl (i:=1) z (λhs223 _ _=> ?_)))))
     refine TA.b 3 z (OpVal.index z bY dh z z hs223 MP.1 MP.2) z (TA.b 4 z (nZ (0:Int) z fC z (q:=1) z bn (by omega) z) z (TA.a 5 z (shrI (b:=8) z z z) z (TA.a 6 z (b1_ z underlying3 underlying5 z) z (TA.a 7 z (gK (.inl z) z) z (TA.a 8 z (cO (.inl z) z) z (TA.isSl (i:=1) z (λBo _ _=> ?_)))))))
     refine TA.b 9 z (OpVal.index z bY dh z z Bo NY.1 NY.2) z (TA.b 10 z (nZ (0:Int) z fC z (q:=1) z bn (by omega) z) z (TA.a 11 z (b1_ z underlying3 underlying5 z) z (TA.ac 12 z (OpOk.lit (enc:=ku) [(qK (G6 .i64 (nth dV ((nth (nth x0.next iP []) gu 0).toNat) 0) 8)),(qK (nth dV ((nth (nth x0.next iP []) gu 0).toNat) 0))] z G7 Jm MJ z z z UJ (by decide) (by decide) (0:UInt8) z (by decide) z (by decide) UL (λP9 c226=>(k1 ?_))))))
     refine TA.front 6 z z (TA.last 13 (by kernel_rfl) z z z (as_ z z G7 Jm by5 MJ z z (by decide) z z z (.inr ⟨_,0,z⟩) (by simpa using u86) (by decide) (λa228 c229=> ?_)))
     exact TZ.v 14 (by kernel_rfl) z z z (gK (.inr z) z) z z (TZ.done (by kernel_rfl) (B.n (S.n (cf ((Bg++[(qK (G6 .i64 (nth dV ((nth (nth x0.next iP []) gu 0).toNat) 0) 8)),(qK (nth dV ((nth (nth x0.next iP []) gu 0).toNat) 0))]),(a228,c229)) ⟨hh,Gg⟩ (Θ [6,6,6,6,6] 6)))))
    exact ι (B.n (S.n (cf (Bg,(a204,c205)) ⟨hh,Gg⟩ (Θ [5,5,5,5,5,5] 6))))
   skip
   obtain ⟨Ws,⟨a213,c214⟩⟩:=g
   obtain ⟨hh,BK⟩:=hg
   try dsimp only at BK ⊢
   dsimp only [Ea_]at hh
   refine χ (i:=1) z (λ_ hb230 _=> ?_)
   refine χ (i:=2) z (λ_ hb231 _=> ?_)
   refine χ (i:=5) z (λ_ hb232 _=> ?_)
   refine η (ω z (OpVal.succ z z z (by omega)) (ψ z z (ε ?_)))
   obtain ⟨hh,DN⟩:=dL zX hh
   exact lf ((Ws,(gu+1)),(a213,c214)) DN ⟨hh,BK⟩ (Θ [5,5,5,5,5,5] 6)
  refine TC.exit (S.x (S.x ?_))
  replace hh:=dI zX hh
  refine Δ (S.n (η (Ξ z z (ψ z z (Ξ z z (TL.isSl (i:=5) z (λhs234 _ _=> ?_)))))))
  refine ω z (ca_ (l:=Bg) z G7 underlying5 kG z hs234 (λw hw=>rdb_row (q:=5) z hw)) (ζ 4 z z (ζ 4 z z ?_))
  obtain ⟨VE,u94,hh⟩:=dJ hh
  refine ν z (OpOk.call (Fr_ u94) z z SQ z z z z ?_)
  rintro _ _ _ ou ⟨b235_1,rfl,rfl,rfl⟩
  obtain ⟨u95,hh⟩:=aP hh
  refine TL.isSl (i:=4) z (λhs237 _ _=> ?_)
  refine ω z (bT z bY dh z z hs237 (by omega)) (ζ 4 z z ?_)
  have hn238:(fA.set iP VE.1).length=(replicate dV.length (0:Int)).length:=by rw [fQ];exact Gg
  refine ν z (lF VE.1 z dh z z z z bn jR (by omega) (by omega) ?_)
  refine TL.nil (B.n (S.n (η (ω z (OpVal.succ z z z (by omega)) (ψ z z (ε ?_))))))
  obtain ⟨hh,Xr⟩:=dL hR2 hh
  exact lf (((fA.set iP VE.1),VE.2.places,(iP+1)),b235_1) Xr ⟨hh,hn238⟩ (Θ [2,2,2,4,4] 5)
 refine TC.exit (S.x (S.x ?_))
 replace hh:=dI hR2 hh
 refine Δ (S.n (ξ (Ξ z z (Ξ z z (ε (θ (ξ (ω z (aU z ZN z) (ω z (bg z RH z (i:=3) z z) (ω z (lenB z underlying70 z (i:=4) z) (ψ z z (ω z (OpVal.eql z z z) (ε (TC.cD z hh (λh240 hh=> ?_) (λh240 hh=> ?_)))))))))))))))
 ·refine ξ (Ξ z z (ψ z z (Ξ z z (ψ z z (ε ?_)))))
  rw [show Value.slice a152 ((replicate dV.length (0:Int)).length) xU=Value.slice a152 fA.length xU from by rw [Gi]]
  refine TC.front 2 z z (TC.og bn (λτ243 hle242 Uc=> ?_))
  have hr241b:=Uc.rv.big
  refine TC.rt 0 (S.r (B.r (S.r ?_)))
  replace hh:=dI hR1 hh
  refine B.r ?_
  obtain rfl:=so hh
  exact rq [2,3] ⟨a152,xU,z,Uc,z⟩
 refine ι (S.n (η (ω z (aU z ZN z) (ω z (bg z RH z (i:=3) z z) (ω z (lenB z underlying70 z (i:=4) z) (ψ z z ?_))))))
 rw [show Value.slice a152 ((replicate dV.length (0:Int)).length) xU=Value.slice a152 fA.length xU from by rw [Gi]]
 refine TL.nil (B.n (S.n ?_))
 obtain ⟨hh,Xq⟩:=dL hR1 hh
 exact lf ((fA,wG.n),(a152,xU)) Xq hh (Θ [2,1] 2)
end Go.Proofs.YtchebnpdnfhenaaGreatDoor
end

noncomputable section
namespace Go.Proofs.YtchebnpdnfhenaaGreatDoor
open Go Go.E
def ML(t:T_1):T_1:=Lib.decDigits t.length++58::t
theorem qp_{t:T_1}(h:t.length<=4096):(ML t).length<=4200:=by
  have:=ZM (u:=t.length) (by omega)
  unfold ML
  simp only [fU,List.length_cons];omega
theorem ul_{t u x y:T_1}(h:ML t++x=ML u++y):t=u/\x=y:=by
  unfold ML at h
  rw [qA,qA,List.cons_append,List.cons_append]at h
  obtain ⟨h1,h2⟩:=ZQ (Nc _) (Nc _) h
  exact List.append_inj h2 (qd_ h1)
theorem r2_{t b:T_1}(h:t.length<=4096)(hb:b.length<=1000000000):Zv t ⟨b⟩=some ⟨b++ML t⟩:=by
  have hd:=ZM (u:=t.length) (by omega)
  unfold Zv
  rw [aH (by omega),aH (by omega),m3_ (by omega),iT]
  show bnd (zh ⟨b⟩ _) _=_
  rw [ZI _ _ (by omega) (by omega),gJ]
  show bnd (GL ⟨b++Lib.decDigits t.length⟩ 58) _=_
  rw [ZU _ _ (by rw [fU];omega),gJ]
  show bnd (zh ⟨b++Lib.decDigits t.length++[58]⟩ t) _=_
  rw [ZI _ _ (by omega) (by simp only [fU,jZ];omega),gJ]
  show some _=some _
  unfold ML
  simp [qA]
def Ho(q:Seq)(s b:Nat):T_1:=if 0<=nxQ q s b then 103::(Lib.decDigits b++58::ML (otQ q s b)) else []
def NR(q:Seq)(s:Nat):T_1:=if nth q.fin s false=true then 101::ML (nth q.tail s []) else []
def A_(q:Seq)(s k:Nat):T_1:=(List.range k).flatMap (Ho q s)
def O_(q:Seq)(s:Nat):T_1:=NR q s++A_ q s 256
theorem n2_(q:Seq)(s k:Nat):A_ q s (k+1)=A_ q s k++Ho q s k:=by
  unfold A_;rw [List.range_succ,List.flatMap_append,List.flatMap_singleton]
theorem rp_{q:Seq}(hq:eH q=true){s b:Nat}(hs:s<q.next.length)(hb:b<256):(Ho q s b).length<=5000:=by
  have h1:=qp_ (O8 hq hs hb)
  have h2:=ZM (u:=b) (by omega)
  unfold Ho
  split
  · simp only [List.length_cons,fU];omega
  simp
theorem yo_ {q : Seq} (hq : eH q = true) {s : Nat} (hs : s < q.next.length) : E9_ q ((s : Nat) : Int) = some (O_ q s) := by
  obtain ⟨q1,q2,q3,q4,q5⟩:=ni hq
  obtain ⟨r1,r2⟩:=vM hq hs
  have hj: ∀E:T_1,E.length<=5000->Dj_ ((s:Nat):Int) q E=some (E++A_ q s 256):=λE hE=>by
    unfold Dj_
    rw [aH (by omega)]
    refine Exists.elim (kM (step:=λz:T_1×Nat=>QF q ((s:Nat):Int) z.1 z.2) (λz k=>(z,k)) 256 (λk z=>z=E++A_ q s k/\z.length<=5000 * (k+1)) (λr=>r=E++A_ q s 256) ?_ ?_ (s0:=E) ⟨by simp [A_],by omega⟩) (λr lX=> ?_)
    · rintro k _ hk ⟨rfl,hl⟩
      left
      have hol:=O8 hq hs hk
      have hcl:=rp_ hq hs hk
      have hd:=ZM (u:=k) (by omega)
      refine ⟨E++A_ q s (k+1),?_,rfl,by rw [n2_,<-qA,fU];omega⟩
      show QF q ((s:Nat):Int) (E++A_ q s k) k=_
      unfold QF D7_
      have e1:nth (nth q.next s []) k 0=nxQ q s k:=rfl
      have e2:nth (nth q.outs s []) k []=otQ q s k:=rfl
      rw [iT,bV (by omega)]
      simp only [e1,e2]
      rw [n2_,<-qA]
      generalize hB:E++A_ q s k=B at hl ⊢
      by_cases c:0<=nxQ q s k
      · rw [bV c,ZU _ _ (by omega),gJ,aH (by omega),m3_ (by omega),iT]
        show bnd (zh ⟨B++[103]⟩ _) _=_
        rw [ZI _ _ (by omega) (by simp only [fU,jZ];omega),gJ]
        show bnd (GL ⟨B++[103]++Lib.decDigits k⟩ 58) _=_
        rw [ZU _ _ (by simp only [fU,jZ];omega),gJ,aH (by omega),aH (by omega)]
        show bnd (Zv (otQ q s k) ⟨B++[103]++Lib.decDigits k++[58]⟩) _=_
        rw [r2_ hol (by simp only [fU,jZ];omega),gJ]
        show some (Sum.inl (_,_))=_
        unfold Ho
        rw [if_pos c]
        simp [qA]
      rw [bQ c]
      unfold Ho
      rw [if_neg c,List.append_nil];rfl
    · rintro _ ⟨rfl,_⟩
      refine ⟨_,?_,rfl⟩
      show QF q ((s:Nat):Int) (E++A_ q s 256) 256=_
      unfold QF WE
      rw [iT,bQ (by omega),gJ];rfl
    obtain ⟨h1,rfl⟩:=lX
    exact h1
  have ht:=(HY hq hs).1
  unfold E9_ O_ NR
  rw [aH (by omega),iT]
  cases nth q.fin s false with
  |true=>
    have:=qp_ ht
    rw [iteO_true,ZU _ _ (by simp),gJ,aH (by omega),r2_ ht (by simp),gJ,if_pos rfl]
    exact hj _ (by simp only [fU,List.length_cons,List.length_nil];omega)
  |false=>
    rw [iteO_false,if_neg (by decide)]
    exact hj [] (by simp)
def yj(q:Seq)(s:Nat):Nat->Nat->T_1
  |_,0=>[]
  |b,n+1=>Ho q s b++yj q s (b+1) n
theorem w1_(q:Seq)(s b:Nat): ∀n,yj q s b n=(List.range' b n).flatMap (Ho q s)
  |0=>rfl
  |n+1=>by rw [yj,w1_ q s (b+1) n,List.range'_succ,List.flatMap_cons]
theorem tp_(q:Seq)(s:Nat):A_ q s 256=yj q s 0 256:=by rw [w1_,A_,List.range_eq_range']
theorem sz_(q:Seq)(s:Nat): ∀n b,yj q s b n=[]\/ ∃c X,b<=c/\yj q s b n=103::(Lib.decDigits c++58::X)
  |0,_=> .inl rfl
  | n + 1, b => by
    rw [yj]
    unfold Ho
    by_cases c:0<=nxQ q s b
    · rw [if_pos c]
      exact .inr ⟨b,ML (otQ q s b)++yj q s (b+1) n,Nat.le_refl _,by simp only [List.cons_append,qA]⟩
    rw [if_neg c,List.nil_append]
    rcases sz_ q s n (b+1)with h|⟨d,X,h1,h2⟩
    · exact .inl h
    exact .inr ⟨d,X,by omega,h2⟩
theorem py_ {q : Seq} {s t : Nat} : ∀ {n b : Nat}, yj q s b n = yj q t b n -> ∀ i, i < n -> (0 <= nxQ q s (b + i) ↔ 0 <= nxQ q t (b + i)) /\ (0 <= nxQ q s (b + i) -> otQ q s (b + i) = otQ q t (b + i))
  |0,b,_,i,hi=>absurd hi (Nat.not_lt_zero _)
  | n + 1, b, h, i, hi => by
    have one: ∀{s t:Nat},0<=nxQ q s b-> ¬ 0<=nxQ q t b->yj q s b (n+1)≠yj q t b (n+1):=λ{s t} c d h=>by
      rw [yj,yj]at h
      unfold Ho at h
      rw [if_pos c,if_neg d,List.nil_append,List.cons_append,qA,List.cons_append]at h
      rcases sz_ q t n (b+1)with e|⟨f,X,h1,h2⟩
      · rw [e]at h;cases h
      rw [h2]at h
      obtain ⟨_,h⟩:=List.cons.inj h
      have:=qd_ (ZQ (Nc _) (Nc _) h).1
      omega
    by_cases c:0<=nxQ q s b
    · by_cases d:0<=nxQ q t b
      · rw [yj,yj]at h
        unfold Ho at h
        rw [if_pos c,if_pos d,List.cons_append,List.cons_append,qA,qA,List.cons_append,List.cons_append]at h
        obtain ⟨_,h⟩:=List.cons.inj h
        obtain ⟨h1,h2⟩:=ul_ (ZQ (Nc _) (Nc _) h).2
        by_cases e:i=0
        · subst e;exact ⟨⟨λ_=>d,λ_=>c⟩,λ_=>h1⟩
        have:=py_ h2 (i - 1) (by omega)
        rwa [show b+1+(i - 1)=b+i by omega]at this
      exact absurd h (one c d)
    by_cases d:0<=nxQ q t b
    · exact absurd h.symm (one d c)
    rw [yj,yj]at h
    unfold Ho at h
    rw [if_neg c,if_neg d,List.nil_append,List.nil_append]at h
    by_cases e:i=0
    · subst e;exact ⟨⟨λk=>absurd k c,λk=>absurd k d⟩,λk=>absurd k c⟩
    have:=py_ h (i - 1) (by omega)
    rwa [show b+1+(i - 1)=b+i by omega]at this
theorem o9_ {q : Seq} (hq : eH q = true) {s t : Nat} (hs : s < q.next.length) (ht : t < q.next.length) : O_ q s = O_ q t ↔ LikeQ q s t := by
  constructor
  · intro h
    unfold O_ at h
    rw [tp_,tp_]at h
    have hno: ∀{s t:Nat},nth q.fin s false=true-> ¬ nth q.fin t false=true->NR q s++yj q s 0 256≠NR q t++yj q t 0 256:=λ{s t} c d h=>by
      unfold NR at h
      rw [if_pos c,if_neg d,List.nil_append,List.cons_append]at h
      rcases sz_ q t 256 0 with e|⟨f,X,_,e⟩
      · rw [e]at h;cases h
      rw [e]at h
      have:=(List.cons.inj h).1
      exact absurd this (by decide)
    have key:nth q.fin s false=nth q.fin t false/\nth q.tail s []=nth q.tail t []/\yj q s 0 256=yj q t 0 256:=by
      by_cases c:nth q.fin s false=true
      · by_cases d:nth q.fin t false=true
        · unfold NR at h
          rw [if_pos c,if_pos d,List.cons_append,List.cons_append]at h
          obtain ⟨h1,h2⟩:=ul_ (List.cons.inj h).2
          exact ⟨c.trans d.symm,h1,h2⟩
        exact absurd h (hno c d)
      by_cases d:nth q.fin t false=true
      · exact absurd h.symm (hno d c)
      unfold NR at h
      rw [if_neg c,if_neg d,List.nil_append,List.nil_append]at h
      refine ⟨(Bool.eq_false_iff.2 c).trans (Bool.eq_false_iff.2 d).symm,?_,h⟩
      rcases (HY hq hs).2 with e|e
      · exact absurd e c
      rcases (HY hq ht).2 with f|f
      · exact absurd f d
      rw [e,f]
    have hrow:=py_ key.2.2
    refine ⟨key.1,key.2.1,λb hb=> ?_,λb hb=> ?_⟩
    · have:=(hrow b hb).1
      rw [Nat.zero_add]at this;omega
    have:=hrow b hb
    rw [Nat.zero_add]at this
    by_cases c:0<=nxQ q s b
    · exact this.2 c
    rw [Ti hq hs hb (by omega),Ti hq ht hb (by have:=this.1;omega)]
  intro h
  unfold O_ NR A_
  rw [h.fin,h.tail]
  congr 1
  rw [List.flatMap_def,List.flatMap_def,List.map_congr_left λb hb=> ?_]
  have hb:=List.mem_range.1 hb
  have h1:=h.neg b hb
  unfold Ho
  rw [h.out b hb]
  by_cases c:0<=nxQ q s b
  · rw [if_pos c,if_pos (by omega)]
  rw [if_neg c,if_neg (by omega)]
structure NumI (K:Nat->T_1) (N k:Nat) (L:ak) (m:FM T_1 Int):Prop where
  len:L.length=N
  rng: ∀s,s<k->0<=nth L s 0/\nth L s 0<((m.n:Nat):Int)
  same: ∀s t,s<k->t<k->(nth L s 0=nth L t 0↔K s=K t)
  onto: ∀i,i<m.n-> ∃s,s<k/\nth L s 0=((i:Nat):Int)
  at': ∀s,s<k->m.f (K s)=some (nth L s 0)
  is: ∀y v,m.f y=some v-> ∃s,s<k/\y=K s
  le:m.n<=k
theorem NumI.nil(K:Nat->T_1){N:Nat}{L:ak}(h:L.length=N):NumI K N 0 L FM.emp:=
  ⟨h,λs hs=>absurd hs (Nat.not_lt_zero _),λs t hs=>absurd hs (Nat.not_lt_zero _),λi hi=>absurd hi (Nat.not_lt_zero _),λs hs=>absurd hs (Nat.not_lt_zero _),λy v h=>(by cases h),Nat.le_refl _⟩
theorem r5_ {K : Nat -> T_1} {N k : Nat} {L : ak} {m : FM T_1 Int} (h : NumI K N k L m) (hk : k < N) (hl : (K k).length <= 281474976710656) : ∃ i m', Db_ ⟨m⟩ (K k) = some (i, ⟨m'⟩) /\ NumI K N (k + 1) (L.set k i) m' := by
  have hlen:=h.len
  unfold Db_
  rw [aH hl]
  have hold: ∀{i:Int} {s:Nat},s<k->nth (L.set k i) s 0=nth L s 0:=λ{i s} hs=>by rw [jP,if_neg (λe=>by omega)]
  have hnew: ∀{i:Int},nth (L.set k i) k 0=i:=λ{i}=>by rw [jP,if_pos ⟨rfl,by omega⟩]
  cases c:m.f (K k)with
  |some v=>
    have hh:m.has (K k)=true:=by unfold FM.has;rw [c];rfl
    have hg:m.get (K k) 0=v:=by unfold FM.get;rw [c];rfl
    rw [show (⟨m⟩:Numb).places=m from rfl,hh,hg,vJ]
    obtain ⟨s0,hs0,e0⟩:=h.is _ _ c
    have hv:v=nth L s0 0:=by
      have:=h.at' s0 hs0
      rw [<-e0,c]at this;exact Option.some.inj this
    have hsame0: ∀s,s<k->(nth L s 0=v↔K s=K k):=λs hs=>by rw [hv,h.same s s0 hs hs0,e0]
    refine ⟨v,m,rfl,by rw [fQ];exact hlen,λs hs=> ?_,λs t hs ht=> ?_,λi hi=> ?_,λs hs=> ?_,λy v' hy=> ?_,by have:=h.le;omega⟩
    · by_cases e:s=k
      · subst e;rw [hnew,hv];exact h.rng s0 hs0
      rw [hold (by omega)];exact h.rng s (by omega)
    · by_cases e:s=k
      · subst e
        by_cases f:t=s
        · subst f;exact ⟨λ_=>rfl,λ_=>rfl⟩
        rw [hnew,hold (by omega)]
        have:=hsame0 t (by omega)
        exact ⟨λg=>(this.1 g.symm).symm,λg=>(this.2 g.symm).symm⟩
      by_cases f:t=k
      · subst f;rw [hnew,hold (by omega)];exact hsame0 s (by omega)
      rw [hold (by omega),hold (by omega)];exact h.same s t (by omega) (by omega)
    · obtain ⟨s,hs,e⟩:=h.onto i hi
      exact ⟨s,by omega,by rw [hold hs];exact e⟩
    · by_cases e:s=k
      · subst e;rw [hnew];exact c
      rw [hold (by omega)];exact h.at' s (by omega)
    obtain ⟨s,hs,e⟩:=h.is y v' hy
    exact ⟨s,by omega,e⟩
  |none=>
    have hh:m.has (K k)=false:=by unfold FM.has;rw [c];rfl
    rw [show (⟨m⟩:Numb).places=m from rfl,hh,zi]
    have hne: ∀s,s<k->K s≠K k:=λs hs e=>by
      have:=h.at' s hs
      rw [e,c]at this;cases this
    have hn:(m.put (K k) ((m.n:Nat):Int)).n=m.n+1:=by unfold FM.put;simp [c]
    have hf: ∀y,(m.put (K k) ((m.n:Nat):Int)).f y=if y=K k then some ((m.n:Nat):Int) else m.f y:=λy=>rfl
    refine ⟨((m.n:Nat):Int),m.put (K k) ((m.n:Nat):Int),rfl,by rw [fQ];exact hlen,λs hs=> ?_,λs t hs ht=> ?_,λi hi=> ?_,λs hs=> ?_,λy v' hy=> ?_,by rw [hn];have:=h.le;omega⟩
    · rw [hn]
      by_cases e:s=k
      · subst e;rw [hnew];omega
      rw [hold (by omega)];have:=h.rng s (by omega);omega
    · by_cases e:s=k
      · subst e
        by_cases f:t=s
        · subst f;exact ⟨λ_=>rfl,λ_=>rfl⟩
        rw [hnew,hold (by omega)]
        have:=h.rng t (by omega)
        exact ⟨λg=>by omega,λg=>absurd g.symm (hne t (by omega))⟩
      by_cases f:t=k
      · subst f;rw [hnew,hold (by omega)]
        have:=h.rng s (by omega)
        exact ⟨λg=>by omega,λg=>absurd g (hne s (by omega))⟩
      rw [hold (by omega),hold (by omega)];exact h.same s t (by omega) (by omega)
    · rw [hn]at hi
      by_cases e:i=m.n
      · exact ⟨k,by omega,by rw [hnew,e]⟩
      obtain ⟨s,hs,e⟩:=h.onto i (by omega)
      exact ⟨s,by omega,by rw [hold hs];exact e⟩
    · rw [hf]
      by_cases e:s=k
      · subst e;rw [hnew,if_pos rfl]
      rw [hold (by omega),if_neg (hne s (by omega))];exact h.at' s (by omega)
    rw [hf]at hy
    by_cases e:y=K k
    · exact ⟨k,by omega,e⟩
    rw [if_neg e]at hy
    obtain ⟨s,hs,e⟩:=h.is y v' hy
    exact ⟨s,by omega,e⟩
def MX(q:Seq)(L:ak)(s b:Nat):ak:=if 0<=nxQ q s b then [nth L (nxQ q s b).toNat 0] else []
def yA(q:Seq)(L:ak)(s k:Nat):ak:=nth L s 0::(List.range k).flatMap (MX q L s)
theorem jj_(q:Seq)(L:ak)(s k:Nat):yA q L s (k+1)=yA q L s k++MX q L s k:=by
  unfold yA;rw [List.range_succ,List.flatMap_append,List.flatMap_singleton];rfl
theorem qc_(q:Seq)(L:ak)(s:Nat): ∀k,(yA q L s k).length<=k+1
  |0=>by simp [yA]
  |k+1=>by
    have:=qc_ q L s k
    rw [jj_,fU]
    unfold MX
    split<;>simp<;>omega
theorem qb_{q:Seq}{L:ak}{s t:Nat}(hn: ∀b,b<256->(nxQ q s b<0↔nxQ q t b<0)): ∀k,k<=256->(yA q L s k=yA q L t k↔nth L s 0=nth L t 0/\ ∀b,b<k->0<=nxQ q s b->nth L (nxQ q s b).toNat 0=nth L (nxQ q t b).toNat 0)
  |0,_=>by
    unfold yA
    simp
  | k + 1, hk => by
    have ih:=qb_ (L:=L) hn k (by omega)
    have hnk:=hn k (by omega)
    rw [jj_,jj_]
    have hlc:(MX q L s k).length=(MX q L t k).length:=by
      unfold MX
      by_cases c:0<=nxQ q s k
      · rw [if_pos c,if_pos (by omega)];rfl
      rw [if_neg c,if_neg (by omega)]
    constructor
    · intro h
      obtain ⟨h1,h2⟩:=List.append_inj' h hlc
      obtain ⟨h3,h4⟩:=ih.1 h1
      refine ⟨h3,λb hb h0=> ?_⟩
      by_cases c:b<k
      · exact h4 b c h0
      have:b=k:=by omega
      subst this
      unfold MX at h2
      rw [if_pos h0,if_pos (by omega)]at h2
      exact List.head_eq_of_cons_eq h2
    rintro ⟨h1,h2⟩
    rw [ih.2 ⟨h1,λb hb=>h2 b (by omega)⟩]
    congr 1
    unfold MX
    by_cases c:0<=nxQ q s k
    · rw [if_pos c,if_pos (by omega),h2 k (by omega) c]
    rw [if_neg c,if_neg (by omega)]
structure PrtI (q:Seq) (L:ak) (c:Nat):Prop where
  len:L.length=q.next.length
  rng: ∀s,s<q.next.length->0<=nth L s 0/\nth L s 0<((c:Nat):Int)
  onto: ∀i,i<c-> ∃s,s<q.next.length/\nth L s 0=((i:Nat):Int)
  like: ∀s t,s<q.next.length->t<q.next.length->nth L s 0=nth L t 0->LikeQ q s t
  same: ∀s t,s<q.next.length->t<q.next.length->cu q s=cu q t->nth L s 0=nth L t 0
theorem PrtI.le{q:Seq}{L:ak}{c:Nat}(h:PrtI q L c):c<=q.next.length:=
  tw_ (f:=λs=>(nth L s 0).toNat) (g:=λs=>s) (λk hk=>by obtain ⟨s,h1,h2⟩:=h.onto k hk;exact ⟨s,h1,by show (nth L s 0).toNat=k;omega⟩) (λs hs=>hs) (λs t _ _ e=>by rw [e])
structure PrtR (q:Seq) (L:ak) (c:Nat):Prop where
  len:L.length=q.next.length
  rng: ∀s,s<q.next.length->0<=nth L s 0/\nth L s 0<((c:Nat):Int)
  iff: ∀s t,s<q.next.length->t<q.next.length->(nth L s 0=nth L t 0↔cu q s=cu q t)
  le:c<=q.next.length
theorem y7_ {q : Seq} (hq : eH q = true) (hp : PshQ q) : ∃ L c, Fd_ q = some (L, ((c : Nat) : Int)) /\ PrtR q L c := by
  obtain ⟨q1,q2,q3,q4,q5⟩:=ni hq
  -- one round
  have round: ∀L c,PrtI q L c-> ∃r,Zx q L c=some r/\((∃L',r= .inr (L',((c:Nat):Int))/\PrtR q L' c)\/ ∃L' c',r= .inl (L',c')/\PrtI q L' c'/\c<c'):=by
    intro L c hI
    have hL:=hI.len
    have hle:=hI.le
    have hsml: ∀s k,s<q.next.length->k<=256->Sml (yA q L s k):=λs k hs=>by
      induction k with
      |zero=>intro _ x hx;rw [show yA q L s 0=[nth L s 0]from rfl,yB]at hx;rw [hx];have:=hI.rng s hs;omega
      |succ k ih=>
        intro hk x hx
        rw [jj_,List.mem_append]at hx
        rcases hx with hx|hx
        · exact ih (by omega) x hx
        unfold MX at hx
        split at hx
        · rw [yB]at hx
          have h1:=oC hq hs (show k<256 by omega)
          have:=hI.rng (nxQ q s k).toNat (by omega)
          rw [hx];omega
        cases hx
    unfold Zx
    rw [aH (by omega)]
    refine kM (step:=λz:ak×(FM T_1 Int)×Nat=>Qo L q c z.1 z.2.1 z.2.2) (λ(z:ak×FM T_1 Int) k=>(z.1,z.2,k)) q.next.length (λk z=>NumI (λs=>DJ (yA q L s 256)) q.next.length k z.1 z.2) _ ?_ ?_ (s0:=(List.replicate L.length 0,FM.emp)) (NumI.nil _ (by simp [hL]))
    · rintro k ⟨M,m⟩ hk hN
      simp only at hN
      left
      have hMl:=hN.len
      obtain ⟨r1,r2⟩:=vM hq hk
      have hkl:(DJ (yA q L k 256)).length<=600:=by rw [oh_];have:=qc_ q L k 256;omega
      obtain ⟨i,m',n1,n2⟩:=r5_ hN hk (by show (DJ (yA q L k 256)).length<=_;omega)
      show ∃s':ak×FM T_1 Int,Qo L q c M m k=some (.inl (s'.1,s'.2,k+1))/\_
      refine ⟨(M.set k i,m'),?_,n2⟩
      unfold Qo
      rw [bV (by simp only [rU];omega),aH (by omega),aH (by omega),aH hk]
      refine Exists.elim (kM (step:=λz:T_1×Nat=>Qs q k L m M z.1 z.2) (λz j=>(z,j)) 256 (λj z=>z=DJ (yA q L k j)) (λr=>r= .inl (M.set k i,m',k+1)) ?_ ?_ (s0:=[qK (G6 .i64 (nth L k 0) 8),qK (nth L k 0)]) (by simp [yA,DJ,RF])) (λr lX=> ?_)
      · rintro j _ hj rfl
        left
        have h1:=oC hq hk hj
        have h3:(DJ (yA q L k j)).length<=600:=by rw [oh_];have:=qc_ q L k j;omega
        refine ⟨_,?_,rfl⟩
        show Qs q k L m M (DJ (yA q L k j)) j=_
        unfold Qs Ea_
        have e1:nth (nth q.next k []) j 0=nxQ q k j:=rfl
        rw [bV (by omega),jj_]
        simp only [e1]
        unfold MX
        by_cases d:0<=nxQ q k j
        · have hg:0<=nxQ q k j/\nxQ q k j<(L.length:Int):=by omega
          rw [bV d,aH hg,aH hg,aH (by simp only [List.length_cons,List.length_nil];omega),if_pos d]
          unfold DJ
          rw [List.flatMap_append,List.flatMap_singleton];rfl
        rw [bQ d,if_neg d,List.append_nil];rfl
      · rintro _ rfl
        refine ⟨_,?_,rfl⟩
        show Qs q k L m M (DJ (yA q L k 256)) 256=_
        unfold Qs
        rw [bQ (by omega),n1,gJ,aH (by omega)];rfl
      obtain ⟨h1,rfl⟩:=lX
      exact h1
    rintro ⟨M,m⟩ hN
    simp only at hN
    have hiff: ∀s t,s<q.next.length->t<q.next.length->(nth M s 0=nth M t 0↔yA q L s 256=yA q L t 256):=λs t hs ht=>by
      rw [hN.same s t hs ht]
      exact ⟨re_ (hsml s 256 hs (Nat.le_refl _)) (hsml t 256 ht (Nat.le_refl _)),λe=>by rw [e]⟩
    have hfine: ∀s t,s<q.next.length->t<q.next.length->nth M s 0=nth M t 0->nth L s 0=nth L t 0:=λs t hs ht e=>by
      have:=(hiff s t hs ht).1 e
      unfold yA at this
      exact (List.cons.inj this).1
    have hsame: ∀s t,s<q.next.length->t<q.next.length->cu q s=cu q t->nth M s 0=nth M t 0:=λs t hs ht e=>by
      have hlk:=sh_ hp hq hs ht e
      rw [hiff s t hs ht,qb_ hlk.neg 256 (Nat.le_refl _)]
      refine ⟨hI.same s t hs ht e,λb hb h0=> ?_⟩
      obtain ⟨k1,_,k3⟩:=Lu hp hp hs ht hb e h0
      have h1:=oC hq hs hb
      have h2:=oC hq ht hb
      exact hI.same _ _ (by omega) (by omega) k3
    have hcc:c<=m.n:=tw_ (n:=q.next.length) (f:=λs=>(nth L s 0).toNat) (g:=λs=>(nth M s 0).toNat) (λk hk=>by obtain ⟨s,h1,h2⟩:=hI.onto k hk;exact ⟨s,h1,by show (nth L s 0).toNat=k;omega⟩) (λs hs=>by have:=hN.rng s hs;show (nth M s 0).toNat<_;omega) (λs t hs ht e=>by
      have h1:=hN.rng s hs
      have h2:=hN.rng t ht
      have e:(nth M s 0).toNat=(nth M t 0).toNat:=e
      show (nth L s 0).toNat=(nth L t 0).toNat
      rw [hfine s t hs ht (by omega)])
    show ∃r,Qo L q c M m q.next.length=some (.inr r)/\_
    unfold Qo
    rw [bQ (by simp only [rU];omega)]
    by_cases e:m.n=c
    · rw [bV (by omega)]
      refine ⟨_,rfl,.inl ⟨M,rfl,hN.len,λs hs=>by have:=hN.rng s hs;omega,λs t hs ht=>⟨λh=> ?_,hsame s t hs ht⟩,hle⟩⟩
      have hback: ∀s t,s<q.next.length->t<q.next.length->nth L s 0=nth L t 0->nth M s 0=nth M t 0:=λs t hs ht e'=>by
        have h1:=hN.rng s hs
        have h2:=hN.rng t ht
        have:=pigeon (n:=q.next.length) (c:=c) (f:=λs=>(nth L s 0).toNat) (g:=λs=>(nth M s 0).toNat) (λk hk=>by obtain ⟨s,h1,h2⟩:=hI.onto k hk;exact ⟨s,h1,by show (nth L s 0).toNat=k;omega⟩) (λs hs=>by have:=hN.rng s hs;show (nth M s 0).toNat<_;omega) (λs t hs ht e=>by
          have h1:=hN.rng s hs
          have h2:=hN.rng t ht
          have e:(nth M s 0).toNat=(nth M t 0).toNat:=e
          show (nth L s 0).toNat=(nth L t 0).toNat
          rw [hfine s t hs ht (by omega)]) hs ht (by show (nth L s 0).toNat=(nth L t 0).toNat;rw [e'])
        have this:(nth M s 0).toNat=(nth M t 0).toNat:=this
        omega
      refine funext λw=>bisim (n:=q.next.length) (λs b hs hb=>oC hq hs hb) (R:=λs t=>nth M s 0=nth M t 0) (λs t hs ht h=>hI.like s t hs ht (hfine s t hs ht h)) (λs t b hs ht h hb h0=> ?_) w s t hs ht h
      have hlk:=hI.like s t hs ht (hfine s t hs ht h)
      have h1:=oC hq hs hb
      have h2:=oC hq ht hb
      have h3:=hlk.neg b hb
      exact hback _ _ (by omega) (by omega) (((qb_ hlk.neg 256 (Nat.le_refl _)).1 ((hiff s t hs ht).1 h)).2 b hb h0)
    rw [bQ (by omega)]
    exact ⟨_,rfl,.inr ⟨M,m.n,rfl,⟨hN.len,hN.rng,hN.onto,λs t hs ht h=>hI.like s t hs ht (hfine s t hs ht h),hsame⟩,by omega⟩⟩
  unfold Fd_
  rw [aH (by omega)]
  refine Exists.elim (kM (step:=λz:ak×(FM T_1 Int)×Nat=>Qr q z.1 z.2.1 z.2.2) (λ(z:ak×FM T_1 Int) k=>(z.1,z.2,k)) q.next.length (λk z=>NumI (O_ q) q.next.length k z.1 z.2) (λr=> ∃L c,r=(L,((c:Nat):Int))/\PrtR q L c) ?_ ?_ (s0:=(List.replicate q.next.length 0,FM.emp)) (NumI.nil _ (by simp))) (λr lX=> ?_)
  · rintro k ⟨M,m⟩ hk hN
    simp only at hN
    left
    have hMl:=hN.len
    have hlen:(O_ q k).length<=281474976710656:=by
      have h1: ∀j,j<=256->(A_ q k j).length<=5000 * j:=λj=>by
        induction j with
        |zero=>intro _;simp [A_]
        |succ j ih=>
          intro hj
          have:=ih (by omega)
          have:=rp_ hq hk (show j<256 by omega)
          rw [n2_,fU];omega
      have h2:=h1 256 (Nat.le_refl _)
      have h3:=qp_ (HY hq hk).1
      unfold O_ NR
      rw [fU]
      split
      · rw [List.length_cons];omega
      rw [List.length_nil];omega
    obtain ⟨i,m',n1,n2⟩:=r5_ hN hk hlen
    show ∃s':ak×FM T_1 Int,Qr q M m k=some (.inl (s'.1,s'.2,k+1))/\_
    refine ⟨(M.set k i,m'),?_,n2⟩
    unfold Qr
    rw [bV (by simp only [rU];omega),yo_ hq hk,gJ,n1,gJ,aH (by omega)];rfl
  · rintro ⟨M,m⟩ hN
    simp only at hN
    show ∃r,Qr q M m q.next.length=some (.inr r)/\_
    have h0:PrtI q M m.n:=⟨hN.len,hN.rng,hN.onto,λs t hs ht h=>(o9_ hq hs ht).1 ((hN.same s t hs ht).1 h),λs t hs ht h=>(hN.same s t hs ht).2 ((o9_ hq hs ht).2 (sh_ hp hq hs ht h))⟩
    obtain ⟨r,k1,k2⟩:=Pj (step:=λz:ak×Nat=>Zx q z.1 z.2) (λz=>PrtI q z.1 z.2) (λz=>q.next.length - z.2) (λr=> ∃L c,r=(L,((c:Nat):Int))/\PrtR q L c) (λ⟨L,c⟩ hI=>by
      obtain ⟨r,r1,r2⟩:=round L c hI
      rcases r2 with ⟨L',rfl,r3⟩|⟨L',c',rfl,r3,r4⟩
      · exact .inr ⟨_,r1,L',c,rfl,r3⟩
      refine .inl ⟨_,r1,r3,?_⟩
      have:=r3.le
      show q.next.length - c'<q.next.length - c
      omega) (t:=(M,m.n)) h0
    refine ⟨r,?_,k2⟩
    unfold Qr
    rw [bQ (by simp only [rU];omega),k1];rfl
  obtain ⟨h1,L,c,rfl,h2⟩:=lX
  exact ⟨L,c,h1,h2⟩
end Go.Proofs.YtchebnpdnfhenaaGreatDoor
end
