/- Parts of a proof, one behind the other: what a machine reaches, functions decompiled, plain lemmas. Conditions stand with each lemma. -/
import Derived.Test.YtchebnpdnfhenaaGreatDoorB24214c72ff
import Derived.Test.YtchebnpdnfhenaaGreatDoorBec12559f29
import Derived.Test.YtchebnpdnfhenaaGreatDoorBbfc8597c7a

set_option linter.unusedVariables false
set_option linter.unusedSimpArgs false
set_option linter.unusedSectionVars false
set_option maxRecDepth 100000
set_option maxHeartbeats 8000000
variable {aI aA aU bJ nH Qe Qd:Option Go.Addr}{pK cO Fg fQ aH aX ay bD o8 PU PS:Nat}

noncomputable section
namespace Go.Proofs.YtchebnpdnfhenaaGreatDoor
open Go Go.E Go.E.OpVal Go.E.OpOk Go.Proofs.Tryz
open List (replicate)
theorem pf111:plainF Tryz.prog 111=true:=by kernel_rfl
theorem pf70:plainF Tryz.prog 70=true:=by kernel_rfl
theorem pf72:plainF Tryz.prog 72=true:=by kernel_rfl
theorem pf73:plainF Tryz.prog 73=true:=by kernel_rfl
def QA(x0:Seq)(x1:Int)(x3:B_1)(x2:aC)(Bg:T_1)(Bf:Bool)(aT:Nat):Option ((T_1×Bool×Nat)⊕(T_1)):=
 aN (decide ((aT:Int)<(((nth x0.next x1.toNat []).length:Nat):Int))) (aN (decide ((nth (nth x0.next x1.toNat []) aT 0)<0)) (nxt (Bg,Bf,(aT+1))) (grd (0<=(nth (nth x0.next x1.toNat []) aT 0)/\(nth (nth x0.next x1.toNat []) aT 0)<(x3.length:Int)) (aN (!(nth x3 ((nth (nth x0.next x1.toNat []) aT 0).toNat) false)) (nxt (Bg,Bf,(aT+1))) (grd (0<=x1/\x1<(x0.outs.length:Int)) (grd (aT<(nth x0.outs x1.toNat []).length) (grd (0<=(nth (nth x0.next x1.toNat []) aT 0)/\(nth (nth x0.next x1.toNat []) aT 0)<(x2.length:Int)) (grd ((nth (nth x0.outs x1.toNat []) aT []).length+(nth x2 ((nth (nth x0.next x1.toNat []) aT 0).toNat) []).length<=9223372036854775807) (aN Bf (bnd (Zx [Bg,((nth (nth x0.outs x1.toNat []) aT [])++(nth x2 ((nth (nth x0.next x1.toNat []) aT 0).toNat) []))]) (λv55=>nxt (v55,Bf,(aT+1)))) (nxt (((nth (nth x0.outs x1.toNat []) aT [])++(nth x2 ((nth (nth x0.next x1.toNat []) aT 0).toNat) [])),true,(aT+1))))))))))) (fin (some Bg))
def Fg_(x0:Seq)(x1:Int)(x2:aC)(x3:B_1):Option (T_1):=
 grd (0<=x1/\x1<(x0.tail.length:Int)) (grd (0<=x1/\x1<(x0.fin.length:Int)) (grd (0<=x1/\x1<(x0.next.length:Int)) (bC (λq:T_1×Bool×Nat=>QA x0 x1 x3 x2 q.1 q.2.1 q.2.2) ((nth x0.tail x1.toNat []),(nth x0.fin x1.toNat false),0))))
theorem H0_{σ:aj}{x0:Seq}{x1:Int}{x2:aC}{x3:B_1}(au:RZ σ (aB 1 aG bn) (.slice aI x0.next.length aH) x0.next)(aY:RZ σ (aB 1 aJ bF) (.slice aA x0.outs.length aX) x0.outs)(aV:dA σ eq_ aU ay x0.fin)(aQ:dA σ aJ bJ bD x0.tail)(uS:dA σ aJ Qe PU x2)(Ap:dA σ eq_ Qd PS x3){r:T_1}(hh:Fg_ x0 x1 x2 x3=some r):
  Con prog 111 #[.agg (oI x0 aI aH aA aX aU ay bJ bD),.int .i64 x1,.slice Qe x2.length PU,.slice Qd x3.length PS] σ [] (jQ (.string (bs r)) σ):=by
 dsimp only [Fg_]at hh
 have f0_0b:=au.big
 have f0_1b:=aY.big
 have f0_2b:=aV.rv.big
 have f0_3b:=aQ.rv.big
 have f2_0b:=uS.rv.big
 have f3_0b:=Ap.rv.big
 refine Con.mk (n:=65) Tryz.func111 z z z (λw0=> ?_)
 refine ψ (ν z (boxA z z z z (λbG=> ?_)))
 refine ω z (eu (.inr z) z) (ε (ζ ?_))
 obtain ⟨u6,hh⟩:=aP hh
 obtain ⟨u11,hh⟩:=aP hh
 refine TC.draw [] (by kernel_rfl) (Ω 0 z (aS z uh z) z (TA.b 1 z (aZ z lJ z (i:=0) z z) z (Ω 2 z (dw (.inl z) z) z (TA.b 3 z (OpVal.index z fK fU z z aQ.rv.sl u6.1 u6.2) z (TA.b 4 z (fF ([]:T_1) z iG z aQ (by omega) z) z (Ω 5 z (aS z tV z) z (TA.b 6 z (aZ z qV z (i:=0) z z) z (Ω 7 z (dw (.inl z) z) z (TA.b 8 z (OpVal.index z gI gQ z z aV.rv.sl u11.1 u11.2) z (TA.b 9 z (fF false z nG z aV (by omega) z) z (Ω 10 z (eu (.inr z) z) z (Ω 11 z (moveB (.inr z) z) z (TA.dn (S.n (ζ ?_)))))))))))))))
 refine ψ (ω z (aS z kS z) (ω z (aZ z jT z (i:=0) z z) (ξ z z ?_)))
 obtain ⟨RU,hh⟩:=aP hh
 refine ω z (OpVal.index z eU fZ z z au.isSl RU.1 RU.2) ?_
 obtain ⟨O_,Dh,hg103⟩:=RZ.seg au x1.toNat (by omega)
 replace Dh:dA _ aG O_.1 O_.2 (nth x0.next x1.toNat []):=Dh
 have hk103b:=Dh.rv.big
 refine ω z (OpVal.of (kZ z hs_ z hg103 z) (v':= .slice O_.1 ((nth x0.next x1.toNat []).length) O_.2) z) (ω z (lenC z b_ z) (ξ z z (ε (υ (TC.ig (α:=(T_1×Bool×Nat)×(Unit)) (rgs [(9,5),(30,34)]) (λg=>[(9,.string (bs g.1.1)),(10,.bool g.1.2.1),(30,.int .i64 ((g.1.2.2:Nat):Int))]) (λg=>[jl bG x0 aI aH aA aX aU ay bJ bD]) (λg=>σ) (λg=>bC (λq:T_1×Bool×Nat=>QA x0 x1 x3 x2 q.1 q.2.1 q.2.2) g.1=some r) (λg=>f_ (λq:T_1×Bool×Nat=>QA x0 x1 x3 x2 q.1 q.2.1 q.2.2) g.1) (((nth x0.tail x1.toNat []),(nth x0.fin x1.toNat false),0),()) (Sub.pre 1 z) z (by repeat (first|exact trivial|refine ⟨z,?_⟩)) hh (λg1 j1 hg1=> ?_))))))
 obtain ⟨⟨Bg,Bf,aT⟩,_⟩:=g1
 have hh:=hg1;clear hg1
 try dsimp only
 obtain ⟨z1,hh,hR1⟩:=gJ hh
 dsimp only [QA]at hh
 refine ψ (ω z (OpVal.lss z z z) (ε (ζ (TC.cD z hh (λqA hh=> ?_) (λqA hh=> ?_)))))
 ·refine ι (S.n (ζ (υ (ψ (ξ z z (ω z (bU z b_ dB z z Dh.rv.sl (by omega)) (ω z (fF (0:Int) z fJ z Dh (by omega) z) (ξ z z (ξ z z (ε (ζ (ψ (ξ z z (ω z (OpVal.lss z z z) (TL.j z z ?_)))))))))))))))
  refine TL.split 37 z (λjM=> ?_) (λjM=> ?_)
  ·replace hh:=gZ jM hh
   replace jM:=jg jM
   refine π z (π z (π z (π z (π z (ω z (dS z z z) (ε (TC.t z (TC.exit (S.x (Δ (S.n (η (ω z (OpVal.succ z z z (by omega)) (ξ z z (ε ?_)))))))))))))))
   obtain ⟨hh,Eo⟩:=dO hR1 hh
   exact lf ((Bg,Bf,(aT+1)),()) Eo hh (Sub.pre 1 z)
  replace hh:=gY jM hh
  replace jM:=jo jM
  refine Ψ z (gu (.inl z) z) (Ψ z (dw (.inl z) z) ?_)
  obtain ⟨u33,hh⟩:=aP hh
  refine Ψ z (OpVal.index z gI gQ z z Ap.rv.sl u33.1 u33.2) (Ψ z (fF false z nG z Ap (by omega) z) (Ψ z (OpVal.not z z) (ω z (dV z z z) (ε (TC.cB z hh (λh116 hh=> ?_) (λh116 hh=> ?_))))))
  ·refine TC.exit (S.x (Δ (S.n (η (ω z (OpVal.succ z z z (by omega)) (ξ z z (ε ?_)))))))
   obtain ⟨hh,rG⟩:=dO hR1 hh
   exact lf ((Bg,Bf,(aT+1)),()) rG hh (Sub.pre 1 z)
  refine ι (S.n (ζ ?_))
  obtain ⟨u40,hh⟩:=aP hh
  obtain ⟨Nj,hh⟩:=aP hh
  obtain ⟨Nh,hh⟩:=aP hh
  obtain ⟨u49,hh⟩:=aP hh
  refine TC.draw [] (by kernel_rfl) (Ω 0 z (aS z oQ z) z (TA.b 1 z (aZ z pI z (i:=0) z z) z (Ω 2 z (dw (.inl z) z) z (TA.b 3 z (OpVal.index z lI mM z z aY.isSl u40.1 u40.2) z ?_))))
  obtain ⟨sU,lZ,Di⟩:=RZ.seg aY x1.toNat (by omega)
  replace lZ:dA _ aJ sU.1 sU.2 (nth x0.outs x1.toNat []):=lZ
  have hk119b:=lZ.rv.big
  refine TA.b 4 z (OpVal.of (kZ z lJ z Di z) (v':= .slice sU.1 ((nth x0.outs x1.toNat []).length) sU.2) z) z (Ω 5 z (dw (.inl z) z) z (TA.b 6 z (bU z fK fU z z lZ.rv.sl (by omega)) z (TA.b 7 z (fF ([]:T_1) z iG z lZ (by omega) z) z (Ω 8 z (gu (.inl z) z) z (Ω 9 z (dw (.inl z) z) z (TA.b 10 z (OpVal.index z fK fU z z uS.rv.sl Nh.1 Nh.2) z (TA.b 11 z (fF ([]:T_1) z iG z uS (by omega) z) z (Ω 12 z (P8 z z z u49) z (Ω 13 z (eu (.inr z) z) z (TA.dn (S.n (ψ (TL.j z z (ε (TC.cB z hh (λLQ hh=> ?_) (λLQ hh=> ?_))))))))))))))))
  ·refine η (ω z (eu (.inl z) z) (ω z (eu (.inl z) z) (ν z (OpOk.lit (enc:=aJ) [Bg,((nth (nth x0.outs x1.toNat []) aT [])++(nth x2 ((nth (nth x0.next x1.toNat []) aT 0).toNat) []))] z fK fU sQ z z z bF (by decide) (by decide) ([]:T_1) z (by decide) z (by decide) rE (λa121 c122=> ?_)))))
   obtain ⟨v55,u55,hh⟩:=dM hh
   refine ν z (Ve (Con.lend bF (λ_ uM tu=>Hj_ tu u55)) z z SK z z z z ?_)
   refine ω z (eu (.inr z) z) (TL.nil (B.n (S.n (η (ω z (OpVal.succ z z z (by omega)) (ξ z z (ε ?_)))))))
   obtain ⟨hh,X5⟩:=dO hR1 hh
   exact lf ((v55,Bf,(aT+1)),()) X5 hh (Θ [1] 1)
  refine η (ω z (eu (.inl z) z) (ω z (eu (.inr z) z) (TL.j z z (TL.nil (B.n (S.n (η (ω z (OpVal.succ z z z (by omega)) (ξ z z (ε ?_))))))))))
  obtain ⟨hh,X4⟩:=dO hR1 hh
  exact lf ((((nth (nth x0.outs x1.toNat []) aT [])++(nth x2 ((nth (nth x0.next x1.toNat []) aT 0).toNat) [])),true,(aT+1)),()) X4 hh (Sub.pre 1 z)
 refine TC.exit (S.x (S.x ?_))
 replace hh:=dG hR1 hh
 refine Δ (S.n (ψ (ω z (eu (.inl z) z) (ω z (eu (.inr z) z) (ε (TC.rt 0 ?_))))))
 obtain rfl:=so hh
 exact rq [8] ⟨z,z,z⟩
def NK(x0:Seq)(dI:Nat)(iy:bZ)(eH:Nat):Option ((bZ×Nat)⊕((bZ×Nat)⊕(aC×B_1))):=
 aN (decide ((eH:Int)<(((nth x0.next dI []).length:Nat):Int))) (aN (decide (0<=(nth (nth x0.next dI []) eH 0))) (grd (0<=(nth (nth x0.next dI []) eH 0)/\(nth (nth x0.next dI []) eH 0)<(iy.length:Int)) (aN (decide ((((nth iy ((nth (nth x0.next dI []) eH 0).toNat) []).length:Nat):Int)=0)) (grd (0<=(nth (nth x0.next dI []) eH 0)/\(nth (nth x0.next dI []) eH 0)<(iy.length:Int)) (grd (((nth iy ((nth (nth x0.next dI []) eH 0).toNat) []).length+[(dI:Int)].length) * 8<=140737488355328) (grd (0<=(nth (nth x0.next dI []) eH 0)/\(nth (nth x0.next dI []) eH 0)<(iy.length:Int)) (nxt ((iy.set ((nth (nth x0.next dI []) eH 0).toNat) ((nth iy ((nth (nth x0.next dI []) eH 0).toNat) [])++[(dI:Int)])),(eH+1)))))) (grd (0<=(nth (nth x0.next dI []) eH 0)/\(nth (nth x0.next dI []) eH 0)<(iy.length:Int)) (grd (0<=(nth (nth x0.next dI []) eH 0)/\(nth (nth x0.next dI []) eH 0)<(iy.length:Int)) (grd (0<=(IntKind.i64.wrap ((((nth iy ((nth (nth x0.next dI []) eH 0).toNat) []).length:Nat):Int) - 1))/\(IntKind.i64.wrap ((((nth iy ((nth (nth x0.next dI []) eH 0).toNat) []).length:Nat):Int) - 1))<((nth iy ((nth (nth x0.next dI []) eH 0).toNat) []).length:Int)) (aN (decide ((nth (nth iy ((nth (nth x0.next dI []) eH 0).toNat) []) ((IntKind.i64.wrap ((((nth iy ((nth (nth x0.next dI []) eH 0).toNat) []).length:Nat):Int) - 1)).toNat) 0)≠(dI:Int))) (grd (0<=(nth (nth x0.next dI []) eH 0)/\(nth (nth x0.next dI []) eH 0)<(iy.length:Int)) (grd (((nth iy ((nth (nth x0.next dI []) eH 0).toNat) []).length+[(dI:Int)].length) * 8<=140737488355328) (grd (0<=(nth (nth x0.next dI []) eH 0)/\(nth (nth x0.next dI []) eH 0)<(iy.length:Int)) (nxt ((iy.set ((nth (nth x0.next dI []) eH 0).toNat) ((nth iy ((nth (nth x0.next dI []) eH 0).toNat) [])++[(dI:Int)])),(eH+1)))))) (nxt (iy,(eH+1))))))))) (nxt (iy,(eH+1)))) (fin (nxt (iy,(dI+1))))
def NJ(dD:bZ)(dQ:ak)(kM:aC)(qI:T_1)(kL:B_1)(Bo:ak)(wR:B_1)(nS:Nat):Option ((ak×B_1×Nat)⊕((aC×B_1×ak×B_1)⊕(aC×B_1))):=
 aN (decide ((nS:Int)<(((nth dD ((nth dQ 0 0).toNat) []).length:Nat):Int))) (grd (0<=(nth (nth dD ((nth dQ 0 0).toNat) []) nS 0)/\(nth (nth dD ((nth dQ 0 0).toNat) []) nS 0)<(wR.length:Int)) (aN (!(nth wR ((nth (nth dD ((nth dQ 0 0).toNat) []) nS 0).toNat) false)) (grd ((Bo.length+[(nth (nth dD ((nth dQ 0 0).toNat) []) nS 0)].length) * 8<=140737488355328) (grd (0<=(nth (nth dD ((nth dQ 0 0).toNat) []) nS 0)/\(nth (nth dD ((nth dQ 0 0).toNat) []) nS 0)<(wR.length:Int)) (grd (nS+1<=9223372036854775807) (nxt ((Bo++[(nth (nth dD ((nth dQ 0 0).toNat) []) nS 0)]),(wR.set ((nth (nth dD ((nth dQ 0 0).toNat) []) nS 0).toNat) true),(nS+1)))))) (grd (nS+1<=9223372036854775807) (nxt (Bo,wR,(nS+1)))))) (fin (nxt ((kM.set ((nth dQ 0 0).toNat) qI),(kL.set ((nth dQ 0 0).toNat) true),Bo,wR)))
def Dh_(dQ:ak)(kM:aC)(kL:B_1)(dD:bZ)(qI:T_1)(uy:B_1):Option ((aC×B_1×ak×B_1)⊕(aC×B_1)):=
 grd (0<=(nth dQ 0 0)/\(nth dQ 0 0)<(kM.length:Int)) (grd (0<=(nth dQ 0 0)/\(nth dQ 0 0)<(kL.length:Int)) (grd (0<=(nth dQ 0 0)/\(nth dQ 0 0)<(dD.length:Int)) (bC (λq:ak×B_1×Nat=>NJ dD dQ kM qI kL q.1 q.2.1 q.2.2) ((dQ.drop 1),(uy.set ((nth dQ 0 0).toNat) false),0))))
def QF(x0:Seq)(dD:bZ)(kM:aC)(kL:B_1)(dQ:ak)(uy:B_1):Option ((aC×B_1×ak×B_1)⊕(aC×B_1)):=
 aN (decide (0<((dQ.length:Nat):Int))) (grd (0<dQ.length/\1<=dQ.length) (grd (0<=(nth dQ 0 0)/\(nth dQ 0 0)<(uy.length:Int)) (bnd (Fg_ x0 (nth dQ 0 0) kM kL) (λqI=>grd (0<=(nth dQ 0 0)/\(nth dQ 0 0)<(kL.length:Int)) (aN (nth kL ((nth dQ 0 0).toNat) false) (grd (0<=(nth dQ 0 0)/\(nth dQ 0 0)<(kM.length:Int)) (aN (decide (qI=(nth kM ((nth dQ 0 0).toNat) []))) (nxt (kM,kL,(dQ.drop 1),(uy.set ((nth dQ 0 0).toNat) false))) (Dh_ dQ kM kL dD qI uy))) (Dh_ dQ kM kL dD qI uy)))))) (fin (some (kM,kL)))
def QH(x0:Seq)(dD:bZ)(Bq:ak)(zS:B_1)(rC:Nat):Option ((ak×B_1×Nat)⊕(aC×B_1)):=
 aN (decide ((rC:Int)<((x0.fin.length:Nat):Int))) (aN (nth x0.fin rC false) (grd ((Bq.length+[(rC:Int)].length) * 8<=140737488355328) (grd (rC<zS.length) (nxt ((Bq++[(rC:Int)]),(zS.set rC true),(rC+1))))) (nxt (Bq,zS,(rC+1)))) (fin (bC (λq:aC×B_1×ak×B_1=>QF x0 dD q.1 q.2.1 q.2.2.1 q.2.2.2) ((replicate x0.next.length ([]:T_1)),(replicate x0.next.length false),Bq,zS)))
def D9_(x0:Seq)(dD:bZ):Option (aC×B_1):=
 bC (λq:ak×B_1×Nat=>QH x0 dD q.1 q.2.1 q.2.2) (([]:ak),(replicate x0.next.length false),0)
def E2_(x0:Seq)(dD:bZ):Option (aC×B_1):=
 grd (1 * x0.next.length<=281474976710656) (D9_ x0 dD)
def QG(x0:Seq)(dD:bZ)(dI:Nat):Option ((bZ×Nat)⊕(aC×B_1)):=
 aN (decide ((dI:Int)<((x0.next.length:Nat):Int))) (bC (λq:bZ×Nat=>NK x0 dI q.1 q.2) (dD,0)) (fin (grd (16 * x0.next.length<=281474976710656) (grd (1 * x0.next.length<=281474976710656) (E2_ x0 dD))))
def E6_(x0:Seq):Option (aC×B_1):=
 grd (24 * x0.next.length<=281474976710656) (bC (λq:bZ×Nat=>QG x0 q.1 q.2) ((replicate x0.next.length ([]:ak)),0))
def Ia_(σ:aj)(r:aC×B_1):Value->aj->List Res->Prop:=λv σ' H'=>
 ∃a1 c1 a2 c2,v= .tuple #[.slice a1 r.1.length c1,.slice a2 r.2.length c2]/\dA σ' aJ a1 c1 r.1/\dA σ' eq_ a2 c2 r.2/\H'=[]
theorem Hz_{σ:aj}{x0:Seq}(au:RZ σ (aB 1 aG bn) (.slice aI x0.next.length aH) x0.next)(aY:RZ σ (aB 1 aJ bF) (.slice aA x0.outs.length aX) x0.outs)(aV:dA σ eq_ aU ay x0.fin)(aQ:dA σ aJ bJ bD x0.tail){r:aC×B_1}(hh:E6_ x0=some r):
  Con prog 70 #[.agg (oI x0 aI aH aA aX aU ay bJ bD)] σ [] (Ia_ σ r):=by
 dsimp only [E6_]at hh
 have f0_0b:=au.big
 have f0_1b:=aY.big
 have f0_2b:=aV.rv.big
 have f0_3b:=aQ.rv.big
 refine Con.mk (n:=160) Tryz.func70 z z z (λw0=> ?_)
 refine ψ (ν z (boxA z z z z (λbG=> ?_)))
 refine Φ z z (Φ z z (ε (ψ (ω z (aS z kS z) (ω z (aZ z jT z (i:=0) z z) (ω z (lenC z eU z) (ξ z z (ε (ψ (ξ z z ?_))))))))))
 obtain ⟨u9,hh⟩:=aP hh
 refine ν z (mX (E:=3) (size:=1) (enc:=aG) z eU fZ mV lq z z z z (by omega) (by decide) z (λjE jD zf105=> ?_))
 refine Φ z z (ε (ζ (ψ (ω z (aS z kS z) (ω z (aZ z jT z (i:=1) z z) (ω z (lenC z eU z) (ξ z z (ε (υ (TC.ig (α:=(bZ×Nat)×((List (NP Int)))) (rgs [(6,2),(9,1),(28,49)]) (λg=>[(28,.int .i64 ((g.1.2:Nat):Int))]) (λg=>[jl bG x0 aI aH aA aX aU ay bJ bD,Res.nest 86 3 1 aG (.slice jE (replicate x0.next.length ([]:ak)).length jD) g.2]) (λg=>σ) (λg=>bC (λq:bZ×Nat=>QG x0 q.1 q.2) g.1=some r/\g.1.1.length=(replicate x0.next.length ([]:ak)).length/\Zn g.2 g.1.1) (λg=>f_ (λq:bZ×Nat=>QG x0 q.1 q.2) g.1) (((replicate x0.next.length ([]:ak)),0),(replicate x0.next.length (ou:NP Int))) (Θ [1] 2) z (by repeat (first|exact trivial|refine ⟨z,?_⟩)) ⟨hh,z,zf105⟩ (λg1 j1 hg1=> ?_)))))))))))
 obtain ⟨⟨dD,dI⟩,uo⟩:=g1
 obtain ⟨hh,GK,lN⟩:=hg1
 try dsimp only at GK lN ⊢
 obtain ⟨z1,hh,hR1⟩:=gJ hh
 dsimp only [QG]at hh
 have zf121b:=lN.len
 refine TC.know (nX (q:=1) z lN) (λ⟨_,hb123⟩=> ?_)
 refine ψ (ω z (OpVal.lss z z z) (ε (ζ (TC.cD z hh (λx9 hh=> ?_) (λx9 hh=> ?_)))))
 ·refine ι (S.n (ζ (υ (ψ (ξ z z (ω z (bU z eU fZ z z au.isSl (by omega)) ?_))))))
  obtain ⟨zL,qp,Lm⟩:=RZ.seg au dI (by omega)
  replace qp:dA _ aG zL.1 zL.2 (nth x0.next dI []):=qp
  have hk125b:=qp.rv.big
  refine ω z (OpVal.of (kZ z hs_ z Lm z) (v':= .slice zL.1 ((nth x0.next dI []).length) zL.2) z) (ξ z z (Φ z z (ε (ψ (Φ z z (ω z (lenC z b_ z) (ξ z z (ε (υ (TC.ig (α:=(bZ×Nat)×((List (NP Int)))) (rgs [(9,1),(35,41)]) (λg=>[(35,.int .i64 ((g.1.2:Nat):Int))]) (λg=>[jl bG x0 aI aH aA aX aU ay bJ bD,Res.nest 86 3 1 aG (.slice jE (replicate x0.next.length ([]:ak)).length jD) g.2]) (λg=>σ) (λg=>bC (λq:bZ×Nat=>NK x0 dI q.1 q.2) g.1=some z1/\g.1.1.length=(replicate x0.next.length ([]:ak)).length/\Zn g.2 g.1.1) (λg=>f_ (λq:bZ×Nat=>NK x0 dI q.1 q.2) g.1) ((dD,0),uo) (Θ [1,1] 2) z (by repeat (first|exact trivial|refine ⟨z,?_⟩)) ⟨hh,GK,lN⟩ (λg2 j2 hg2=> ?_)))))))))))
  obtain ⟨⟨iy,eH⟩,Ji⟩:=g2
  obtain ⟨hh,qX,iq⟩:=hg2
  try dsimp only at qX iq ⊢
  obtain ⟨z2,hh,hR2⟩:=gJ hh
  dsimp only [NK]at hh
  have zf141b:=iq.len
  refine TC.know (nX (q:=1) z iq) (λ⟨_,U6⟩=> ?_)
  refine ψ (ω z (OpVal.lss z z z) (ε (ζ (TC.cD z hh (λYJ hh=> ?_) (λYJ hh=> ?_)))))
  ·refine ι (S.n (ζ (υ (ψ (ω z (bU z b_ dB z z qp.rv.sl (by omega)) (ω z (fF (0:Int) z fJ z qp (by omega) z) (ξ z z (ε (ζ (TC.draw [] (by kernel_rfl) (Ω 0 z (dw (.inl z) z) z (Ω 1 z (OpVal.geq z z z) z (Ω 2 z (moveB (.inl z) z) z (TA.split 41 z (λER=> ?_) (λER=> ?_)))))))))))))))
   ·replace hh:=gZ ER hh
    replace ER:=jg ER
    refine TA.on 3 z z z z (gu (.inl z) z) z (TA.on 4 z z z z (dw (.inl z) z) z ?_)
    obtain ⟨u33,hh⟩:=aP hh
    refine TA.know (nX (q:=1) z iq) (λ⟨hs146,hs146b⟩=> ?_)
    refine TA.on 5 z z z z (OpVal.index z eU fZ z z hs146 u33.1 u33.2) z ?_
    obtain ⟨p147,hz147,hm147⟩:=Zn.at iq (i:=(nth (nth x0.next dI []) eH 0).toNat) (by omega)
    refine TA.on 6 z z z z (Dt z hs_ z (q:=1) z hz147 hm147) z (TA.on 7 z z z z (lenC z b_ z) z (TA.on 8 z z z z (OpVal.eql z z z) z (TA.on 9 z z z z (moveB (.inl z) z) z (TA.split 48 z (λEO=> ?_) (λEO=> ?_)))))
    ·replace hh:=gZ EO hh
     replace EO:=jg EO
     refine TA.off 10 z z z z z z (TA.off 11 z z z z z z (TA.off 12 z z z z z z (TA.off 13 z z z z z z (TA.off 14 z z z z z z (TA.off 15 z z z z z z (TA.off 16 z z z z z z (TA.off 17 z z z z z z (TA.off 18 z z z z z z (TA.off 19 z z z z z z (TA.off 20 z z z z z z (TA.off 21 z z z z z z (TA.off 22 z z z z z z (TA.off 23 z z z z z z (TA.on 24 z z z z (dS z z z) z (Ω 25 z (dS z z z) z ?_)))))))))))))))
     refine TA.dn (S.n (TC.t z (η (Φ z z (ξ z z (Φ z z (ξ z z ?_)))))))
     obtain ⟨u58,hh⟩:=aP hh
     refine TL.know (nX (q:=1) z iq) (λ⟨wW,hs149b⟩=> ?_)
     refine ω z (OpVal.index z eU fZ z z wW u58.1 u58.2) ?_
     obtain ⟨yI,TK,UK⟩:=Zn.at iq (i:=(nth (nth x0.next dI []) eH 0).toNat) (by omega)
     refine ω z (Dt z hs_ z (q:=1) z TK UK) (ξ z z (ν z (OpOk.lit (enc:=aG) [(dI:Int)] z b_ dB lu z z z bn (by decide) (by decide) (0:Int) z (by decide) z (by decide) jS (λa151 c152=> ?_))))
     refine θ 2 z z (TL.by (λw h=>Reach.takeN TK UK h) ?_)
     obtain ⟨u62,hh⟩:=aP hh
     refine ν z (as_ z z b_ dB uV lu z z (by decide) z z z (.inr ⟨_,1,z⟩) (by simpa using u62) (by decide) (λZr c156=> ?_))
     obtain ⟨u63,hh⟩:=aP hh
     refine TL.know (Nz (q:=1) z iq) (λ⟨hs157,hs157b⟩=> ?_)
     refine ω z (OpVal.index z eU fZ z z hs157 u63.1 u63.2) (θ 1 z z (θ 1 z z ?_))
     have BU:(iy.set ((nth (nth x0.next dI []) eH 0).toNat) ((nth iy ((nth (nth x0.next dI []) eH 0).toNat) [])++[(dI:Int)])).length=(replicate x0.next.length ([]:ak)).length:=(gy ..).trans qX
     refine ν rfl (NC (l':=((nth iy ((nth (nth x0.next dI []) eH 0).toNat) [])++[(dI:Int)])) rfl fZ rfl rfl rfl rfl rfl (by rw [iq.len];omega) iq (λsN=> ?_))
     refine TL.nil (B.n (S.n (η (ω z (OpVal.succ z z z (by omega)) (ξ z z (ε ?_))))))
     obtain ⟨hh,XU⟩:=dO hR2 hh
     exact lf (((iy.set ((nth (nth x0.next dI []) eH 0).toNat) ((nth iy ((nth (nth x0.next dI []) eH 0).toNat) [])++[(dI:Int)])),(eH+1)),(Ji.set ((nth (nth x0.next dI []) eH 0).toNat) (((nth iy ((nth (nth x0.next dI []) eH 0).toNat) [])++[(dI:Int)]),(Zr,c156)))) XU ⟨hh,BU,sN⟩ (Θ [2] 2)
    replace hh:=gY EO hh
    replace EO:=jo EO
    refine TA.on 10 z z z z (gu (.inl z) z) z (TA.on 11 z z z z (dw (.inl z) z) z ?_)
    obtain ⟨u40,hh⟩:=aP hh
    refine TA.know (nX (q:=1) z iq) (λ⟨hs161,hs161b⟩=> ?_)
    refine TA.on 12 z z z z (OpVal.index z eU fZ z z hs161 u40.1 u40.2) z ?_
    obtain ⟨JE,JM,KQ⟩:=Zn.at iq (i:=(nth (nth x0.next dI []) eH 0).toNat) (by omega)
    refine TA.on 13 z z z z (Dt z hs_ z (q:=1) z JM KQ) z (TA.on 14 z z z z (gu (.inl z) z) z (TA.on 15 z z z z (dw (.inl z) z) z ?_))
    obtain ⟨u44,hh⟩:=aP hh
    refine TA.know (nX (q:=1) z iq) (λ⟨JV,hs163b⟩=> ?_)
    refine TA.on 16 z z z z (OpVal.index z eU fZ z z JV u44.1 u44.2) z ?_
    obtain ⟨p164,hz164,hm164⟩:=Zn.at iq (i:=(nth (nth x0.next dI []) eH 0).toNat) (by omega)
    refine TA.on 17 z z z z (Dt z hs_ z (q:=1) z hz164 hm164) z (TA.on 18 z z z z (lenC z b_ z) z (TA.on 19 z z z z (subW z z z) z ?_))
    obtain ⟨u48,hh⟩:=aP hh
    refine TA.know (is_ (q:=1) z JM KQ) (λ⟨hs165,hs165b⟩=> ?_)
    refine TA.on 20 z z z z (OpVal.index z b_ dB z z hs165 u48.1 u48.2) z (TA.on 21 z z z z (OpVal.seen (iq_ (q:=1) z JM KQ) (og (0:Int) z fJ z (q:=0) z bn (by omega) z)) z (TA.on 22 z z z z (dw (.inl z) z) z (TA.on 23 z z z z (OpVal.neq z z z) z (TA.on 24 z z z z (dV z z z) z (Ω 25 z (dS z z z) z (TA.dn (S.n (TC.cD z hh (λh166 hh=> ?_) (λh166 hh=> ?_)))))))))
    ·refine η (Φ z z (ξ z z (Φ z z (ξ z z ?_))))
     obtain ⟨u58,hh⟩:=aP hh
     refine TL.know (nX (q:=1) z iq) (λ⟨hs167,hs167b⟩=> ?_)
     refine ω z (OpVal.index z eU fZ z z hs167 u58.1 u58.2) ?_
     obtain ⟨p168,TJ,UJ⟩:=Zn.at iq (i:=(nth (nth x0.next dI []) eH 0).toNat) (by omega)
     refine ω z (Dt z hs_ z (q:=1) z TJ UJ) (ξ z z (ν z (OpOk.lit (enc:=aG) [(dI:Int)] z b_ dB lu z z z bn (by decide) (by decide) (0:Int) z (by decide) z (by decide) jS (λa169 c170=> ?_))))
     refine θ 2 z z (TL.by (λw h=>Reach.takeN TJ UJ h) ?_)
     obtain ⟨u62,hh⟩:=aP hh
     refine ν z (as_ z z b_ dB uV lu z z (by decide) z z z (.inr ⟨_,1,z⟩) (by simpa using u62) (by decide) (λa173 c174=> ?_))
     obtain ⟨u63,hh⟩:=aP hh
     refine TL.know (Nz (q:=1) z iq) (λ⟨hs175,hs175b⟩=> ?_)
     refine ω z (OpVal.index z eU fZ z z hs175 u63.1 u63.2) (θ 1 z z (θ 1 z z ?_))
     have KA:(iy.set ((nth (nth x0.next dI []) eH 0).toNat) ((nth iy ((nth (nth x0.next dI []) eH 0).toNat) [])++[(dI:Int)])).length=(replicate x0.next.length ([]:ak)).length:=(gy ..).trans qX
     refine ν rfl (NC (l':=((nth iy ((nth (nth x0.next dI []) eH 0).toNat) [])++[(dI:Int)])) rfl fZ rfl rfl rfl rfl rfl (by rw [iq.len];omega) iq (λzf176=> ?_))
     refine TL.nil (B.n (S.n (η (ω z (OpVal.succ z z z (by omega)) (ξ z z (ε ?_))))))
     obtain ⟨hh,XM⟩:=dO hR2 hh
     exact lf (((iy.set ((nth (nth x0.next dI []) eH 0).toNat) ((nth iy ((nth (nth x0.next dI []) eH 0).toNat) [])++[(dI:Int)])),(eH+1)),(Ji.set ((nth (nth x0.next dI []) eH 0).toNat) (((nth iy ((nth (nth x0.next dI []) eH 0).toNat) [])++[(dI:Int)]),(a173,c174)))) XM ⟨hh,KA,zf176⟩ (Θ [2] 2)
    refine ι (B.n (S.n (η (ω z (OpVal.succ z z z (by omega)) (ξ z z (ε ?_))))))
    obtain ⟨hh,XL⟩:=dO hR2 hh
    exact lf ((iy,(eH+1)),Ji) XL ⟨hh,qX,iq⟩ (Θ [1,1] 2)
   replace hh:=gY ER hh
   replace ER:=jo ER
   refine TA.off 3 z z z z z z (TA.off 4 z z z z z z (TA.off 5 z z z z z z (TA.off 6 z z z z z z (TA.off 7 z z z z z z (TA.off 8 z z z z z z (TA.off 9 z z z z z z (TA.vH 10 z (by kernel_rfl) (by kernel_rfl) (by kernel_rfl) (by kernel_rfl) z z z z z z z (TA.vH 11 z (by kernel_rfl) (by kernel_rfl) (by kernel_rfl) (by kernel_rfl) z z z z z z z (TA.vH 12 z (by kernel_rfl) (by kernel_rfl) (by kernel_rfl) (by kernel_rfl) z z z z z z z (TA.vH 13 z (by kernel_rfl) (by kernel_rfl) (by kernel_rfl) (by kernel_rfl) z z z z z z z (TA.vH 14 z (by kernel_rfl) (by kernel_rfl) (by kernel_rfl) (by kernel_rfl) z z z z z z z (TA.vH 15 z (by kernel_rfl) (by kernel_rfl) (by kernel_rfl) (by kernel_rfl) z z z z z z z (TA.vH 16 z (by kernel_rfl) (by kernel_rfl) (by kernel_rfl) (by kernel_rfl) z z z z z z z (TA.vH 17 z (by kernel_rfl) (by kernel_rfl) (by kernel_rfl) (by kernel_rfl) z z z z z z z (TA.vH 18 z (by kernel_rfl) (by kernel_rfl) (by kernel_rfl) (by kernel_rfl) z z z z z z z ?_)))))))))))))))
   refine TA.vH 19 z (by kernel_rfl) (by kernel_rfl) (by kernel_rfl) (by kernel_rfl) z z z z z z z (TA.vH 20 z (by kernel_rfl) (by kernel_rfl) (by kernel_rfl) (by kernel_rfl) z z z z z z z (TA.vH 21 z (by kernel_rfl) (by kernel_rfl) (by kernel_rfl) (by kernel_rfl) z z z z z z z (TA.vH 22 z (by kernel_rfl) (by kernel_rfl) (by kernel_rfl) (by kernel_rfl) z z z z z z z (TA.vH 23 z (by kernel_rfl) (by kernel_rfl) (by kernel_rfl) (by kernel_rfl) z z z z z z z (TA.off 24 z z z z z z (Ω 25 z (dV z z z) z (TA.dn (S.n (TC.f z (ι (B.n (S.n (η (ω z (OpVal.succ z z z (by omega)) (ξ z z ?_)))))))))))))))
   refine ε ?_
   obtain ⟨hh,XK⟩:=dO hR2 hh
   exact lf ((iy,(eH+1)),Ji) XK ⟨hh,qX,iq⟩ (Θ [1,1] 2)
  refine TC.exit (S.x (S.x ?_))
  replace hh:=dG hR2 hh
  refine Δ (B.n (S.n (η (ω z (OpVal.succ z z z (by omega)) (ξ z z (ε ?_))))))
  obtain ⟨hh,XJ⟩:=dO hR1 hh
  exact lf ((iy,(dI+1)),Ji) XJ ⟨hh,qX,iq⟩ (Θ [1,1] 2)
 refine TC.exit (S.x (S.x ?_))
 replace hh:=dG hR1 hh
 refine Δ (S.n (TC.cutG (α:=(Unit)×((Option Addr)×Nat×(Option Addr)×Nat)) [10,11,77,78,79,80] (λg=>[(10,.slice g.2.1 ((replicate x0.next.length ([]:T_1)).length) g.2.2.1),(11,.slice g.2.2.2.1 ((replicate x0.next.length false).length) g.2.2.2.2)]) (λg=>[jl bG x0 aI aH aA aX aU ay bJ bD,Res.nest 86 3 1 aG (.slice jE (replicate x0.next.length ([]:ak)).length jD) uo,φ 9 1 aJ (.slice g.2.1 (replicate x0.next.length ([]:T_1)).length g.2.2.1) (replicate x0.next.length ([]:T_1)),φ 4 1 eq_ (.slice g.2.2.2.1 (replicate x0.next.length false).length g.2.2.2.2) (replicate x0.next.length false)]) (λg=>σ) (λg=>E2_ x0 dD=some r/\dD.length=(replicate x0.next.length ([]:ak)).length/\Zn uo dD) ?_ (λg j hg=> ?_)))
 ·skip
  obtain ⟨u70,hh⟩:=aP hh
  obtain ⟨u72,hh⟩:=aP hh
  refine TC.draw [] (by kernel_rfl) (Ω 0 z (dw (.inl z) z) z (Ω 2 z (dw (.inl z) z) z (TA.actN [1,3] (by kernel_rfl) (an z z (pz (enc:=aJ) ([]:T_1) z fK fU zF sQ z z z z (by omega) (by decide) bF (by decide) z rE (λa196 c197=>(k1 ?_))) (an z z (pz (enc:=eq_) false z gI gQ G8 AA z z z z (by omega) (by decide) jc (by decide) z qZ (λa199 c200=>(k1 ?_))) (True.intro))))))
  ·skip
   refine Ω 4 z (gu (.inr z) z) z (TA.ac 3 z (pz (enc:=eq_) false z gI gQ G8 AA z z z z (by omega) (by decide) jc (by decide) z qZ (λa202 c203=>(k2 ?_))))
   exact Ω 5 z (gu (.inr z) z) z (TA.dn (S.n (cf ((),(a196,c197,a202,c203)) ⟨hh,GK,lN⟩ (Θ [1,3,3] 4))))
  skip
  refine TA.ac 1 z (pz (enc:=aJ) ([]:T_1) z fK fU zF sQ z z z z (by omega) (by decide) bF (by decide) z rE (λyS c206=>(k2 ?_)))
  exact Ω 4 z (gu (.inr z) z) z (Ω 5 z (gu (.inr z) z) z (TA.dn (S.n (cf ((),(yS,c206,a199,c200)) ⟨hh,GK,lN⟩ (Θ [1,1,3,3] 4)))))
 skip
 obtain ⟨_,⟨qE,qB,tZ,tX⟩⟩:=g
 obtain ⟨hh,mO,wI⟩:=hg
 try dsimp only at mO wI ⊢
 dsimp only [E2_]at hh
 have zf183b:=wI.len
 refine TC.know (nX (q:=1) z wI) (λ⟨_,U1⟩=> ?_)
 refine χ (i:=2) z (λ_ LH _=> ?_)
 refine χ (i:=3) z (λ_ LG _=> ?_)
 refine TC.cutG (α:=(Unit)×((Option Addr)×Nat×(Option Addr)×Nat)) [12,13,81,82,83] (λg=>[(12,.slice g.2.1 (([]:ak).length) g.2.2.1),(13,.slice g.2.2.2.1 ((replicate x0.next.length false).length) g.2.2.2.2)]) (λg=>[jl bG x0 aI aH aA aX aU ay bJ bD,Res.nest 86 3 1 aG (.slice jE (replicate x0.next.length ([]:ak)).length jD) uo,dW 9 aJ qE qB (replicate x0.next.length ([]:T_1)),dW 4 eq_ tZ tX (replicate x0.next.length false),φ 3 1 aG (.slice g.2.1 ([]:ak).length g.2.2.1) ([]:ak),φ 4 1 eq_ (.slice g.2.2.2.1 (replicate x0.next.length false).length g.2.2.2.2) (replicate x0.next.length false)]) (λg=>σ) (λg=>D9_ x0 dD=some r/\dD.length=(replicate x0.next.length ([]:ak)).length/\Zn uo dD) ?_ (λg j hg=> ?_)
 ·skip
  obtain ⟨u77,hh⟩:=aP hh
  refine TC.draw [] (by kernel_rfl) (Ω 1 z (dw (.inl z) z) z (TA.actN [0,2] (by kernel_rfl) (an z z (Pj (enc:=aG) z z b_ dB z z (λQh c226=>(k1 ?_))) (an z z (pz (enc:=eq_) false z gI gQ G8 AA z z z z (by omega) (by decide) jc (by decide) z qZ (λa228 c229=>(k1 ?_))) (True.intro)))))
  ·skip
   refine Ω 3 z (gu (.inr z) z) z (TA.ac 2 z (pz (enc:=eq_) false z gI gQ G8 AA z z z z (by omega) (by decide) jc (by decide) z qZ (λDy c232=>(k2 ?_))))
   exact Ω 4 z (gu (.inr z) z) z (TA.dn (S.n (cf ((),(Qh,c226,Dy,c232)) ⟨hh,mO,wI⟩ (Θ [1,5,5,5,5] 6))))
  skip
  refine TA.ac 0 z (Pj (enc:=aG) z z b_ dB z z (λa234 c235=>(k2 ?_)))
  exact Ω 3 z (gu (.inr z) z) z (Ω 4 z (gu (.inr z) z) z (TA.dn (S.n (cf ((),(a234,c235,a228,c229)) ⟨hh,mO,wI⟩ (Θ [1,1,5,5,5,5] 6)))))
 skip
 obtain ⟨_,⟨Zo,YV,tY,c218⟩⟩:=g
 obtain ⟨hh,BQ,oL⟩:=hg
 try dsimp only at BQ oL ⊢
 dsimp only [D9_]at hh
 have zf212b:=oL.len
 refine TC.know (nX (q:=1) z oL) (λ⟨_,UU⟩=> ?_)
 refine χ (i:=2) z (λ_ UR _=> ?_)
 refine χ (i:=3) z (λ_ UQ _=> ?_)
 refine χ (i:=4) z (λ_ hb240 _=> ?_)
 refine χ (i:=5) z (λ_ hb241 _=> ?_)
 refine ζ (ψ (ω z (aS z tV z) (ω z (aZ z qV z (i:=0) z z) (ω z (lenC z gI z) (ξ z z (ε (υ (TC.ig (α:=(ak×B_1×Nat)×((Option Addr)×Nat)) (rgs [(12,1),(14,2),(87,14)]) (λg=>[(12,.slice g.2.1 g.1.1.length g.2.2),(87,.int .i64 ((g.1.2.2:Nat):Int))]) (λg=>[jl bG x0 aI aH aA aX aU ay bJ bD,Res.nest 86 3 1 aG (.slice jE (replicate x0.next.length ([]:ak)).length jD) uo,dW 9 aJ qE qB (replicate x0.next.length ([]:T_1)),dW 4 eq_ tZ tX (replicate x0.next.length false),φ 3 1 aG (.slice g.2.1 g.1.1.length g.2.2) g.1.1,φ 4 1 eq_ (.slice tY (replicate x0.next.length false).length c218) g.1.2.1]) (λg=>σ) (λg=>bC (λq:ak×B_1×Nat=>QH x0 dD q.1 q.2.1 q.2.2) g.1=some r/\dD.length=(replicate x0.next.length ([]:ak)).length/\Zn uo dD/\g.1.2.1.length=(replicate x0.next.length false).length) (λg=>f_ (λq:ak×B_1×Nat=>QH x0 dD q.1 q.2.1 q.2.2) g.1) ((([]:ak),(replicate x0.next.length false),0),(Zo,YV)) (Θ [5,5,5,5,5,5] 6) z (by repeat (first|exact trivial|refine ⟨z,?_⟩)) ⟨hh,BQ,oL,z⟩ (λg3 j3 hg3=> ?_)))))))))
 obtain ⟨⟨Bq,zS,rC⟩,⟨a263,c264⟩⟩:=g3
 obtain ⟨hh,Gl,y8,Gj⟩:=hg3
 try dsimp only at Gl y8 Gj ⊢
 obtain ⟨z1,hh,hR1⟩:=gJ hh
 dsimp only [QH]at hh
 have zf261b:=y8.len
 refine TC.know (nX (q:=1) z y8) (λ⟨_,hb268⟩=> ?_)
 refine χ (i:=2) z (λ_ hb269 _=> ?_)
 refine χ (i:=3) z (λ_ hb270 _=> ?_)
 refine χ (i:=4) z (λ_ hb271 _=> ?_)
 refine χ (i:=5) z (λ_ hb272 _=> ?_)
 refine ψ (ω z (OpVal.lss z z z) (ε (ζ (TC.cD z hh (λh273 hh=> ?_) (λh273 hh=> ?_)))))
 ·refine ι (S.n (ζ (υ (ψ (ξ z z (ω z (bU z gI gQ z z aV.rv.sl (by omega)) (ω z (fF false z nG z aV (by omega) z) (ξ z z (TL.j z z (ε (ψ (TL.j z z (ε (TC.cB z hh (λh274 hh=> ?_) (λh274 hh=> ?_)))))))))))))))
  ·refine η (Φ z z (ξ z z (Φ z z (ξ z z (ν z (OpOk.lit (enc:=aG) [(rC:Int)] z b_ dB lu z z z bn (by decide) (by decide) (0:Int) z (by decide) z (by decide) jS (λa275 c276=> ?_)))))))
   refine θ 5 z z ?_
   obtain ⟨u96,hh⟩:=aP hh
   refine ν z (as_ z z b_ dB uV lu z z (by decide) z z z (.inr ⟨_,0,z⟩) (by simpa using u96) (by decide) (λa278 c279=> ?_))
   refine Φ z z ?_
   obtain ⟨u98,hh⟩:=aP hh
   refine TL.isSl (i:=6) z (λhs280 _ _=> ?_)
   refine ω z (bU z gI gQ z z hs280 (by omega)) (θ 6 z z ?_)
   have hn281:(zS.set rC true).length=(replicate x0.next.length false).length:=by rw [gy];exact Gj
   refine ν z (lG true z gQ z z z z jc qZ (by omega) (by omega) ?_)
   refine TL.nil (B.n (S.n (η (ω z (OpVal.succ z z z (by omega)) (ξ z z (ε ?_))))))
   obtain ⟨hh,Xn⟩:=dO hR1 hh
   exact lf (((Bq++[(rC:Int)]),(zS.set rC true),(rC+1)),(a278,c279)) Xn ⟨hh,Gl,y8,hn281⟩ (Θ [1,6,6,6,6] 6)
  refine ι (B.n (S.n (η (ω z (OpVal.succ z z z (by omega)) (ξ z z (ε ?_))))))
  obtain ⟨hh,Xm⟩:=dO hR1 hh
  exact lf ((Bq,zS,(rC+1)),(a263,c264)) Xm ⟨hh,Gl,y8,Gj⟩ (Θ [5,5,5,5,5,5] 6)
 refine TC.exit (S.x (S.x ?_))
 replace hh:=dG hR1 hh
 refine Δ (S.n (ζ (υ (TC.front 4 z z (TC.cz_ (TC.ig (α:=(aC×B_1×ak×B_1)×((Option Addr)×Nat)) (rgs [(12,1),(16,2),(19,1),(101,57)]) (λg=>[(12,.slice g.2.1 g.1.2.2.1.length g.2.2)]) (λg=>[jl bG x0 aI aH aA aX aU ay bJ bD,Res.nest 86 3 1 aG (.slice jE (replicate x0.next.length ([]:ak)).length jD) uo,φ 9 1 aJ (.slice qE (replicate x0.next.length ([]:T_1)).length qB) g.1.1,φ 4 1 eq_ (.slice tZ (replicate x0.next.length false).length tX) g.1.2.1,Res.queS 3 1 aG (.slice g.2.1 g.1.2.2.1.length g.2.2) g.1.2.2.1,φ 4 1 eq_ (.slice tY (replicate x0.next.length false).length c218) g.1.2.2.2]) (λg=>σ) (λg=>bC (λq:aC×B_1×ak×B_1=>QF x0 dD q.1 q.2.1 q.2.2.1 q.2.2.2) g.1=some r/\dD.length=(replicate x0.next.length ([]:ak)).length/\Zn uo dD/\g.1.1.length=(replicate x0.next.length ([]:T_1)).length/\g.1.2.1.length=(replicate x0.next.length false).length/\g.1.2.2.2.length=(replicate x0.next.length false).length) (λg=>f_ (λq:aC×B_1×ak×B_1=>QF x0 dD q.1 q.2.1 q.2.2.1 q.2.2.2) g.1) (((replicate x0.next.length ([]:T_1)),(replicate x0.next.length false),Bq,zS),(a263,c264)) (Θ [5,1,5,5,5,5] 6) z (by repeat (first|exact trivial|refine ⟨z,?_⟩)) ⟨hh,Gl,y8,z,z,Gj⟩ (λg4 j4 hg4=> ?_)))))))
 obtain ⟨⟨kM,kL,dQ,uy⟩,⟨a316,c317⟩⟩:=g4
 obtain ⟨hh,Gi,sH,xq,xk,Ur⟩:=hg4
 try dsimp only at Gi sH xq xk Ur ⊢
 obtain ⟨z1,hh,hR1⟩:=gJ hh
 dsimp only [QF]at hh
 have zf310b:=sH.len
 refine TC.know (nX (q:=1) z sH) (λ⟨_,hb320⟩=> ?_)
 refine χ (i:=2) z (λ_ hb321 _=> ?_)
 refine χ (i:=3) z (λ_ hb322 _=> ?_)
 refine χ (i:=5) z (λ_ hb323 _=> ?_)
 refine ζ (ψ (Φ z z (ω z (lenC z b_ z) (ω z (OpVal.gtr z z z) (ε (TC.cD z hh (λh324 hh=> ?_) (λh324 hh=> ?_)))))))
 ·refine ι (S.n (υ (ψ (Φ z z (TL.know (tm_ (q:=4) z) (λ⟨hs325,hs325b⟩=> ?_))))))
  refine ω z (bU (i:=0) z b_ dB z z hs325 (by omega)) (ω z (da_ (0:Int) z fJ z (q:=4) z bn (by omega) z) (ξ z z (ε (ψ (Φ z z (ξ z z (Φ z z (θ 4 z z ?_))))))))
  obtain ⟨Ht,hh⟩:=aP hh
  refine ν z (popQ (i:=1) z b_ dB z z z z (by omega) (by omega) (λZg YO=> ?_))
  refine Φ z z ?_
  obtain ⟨u114,hh⟩:=aP hh
  refine TL.isSl (i:=5) z (λhs328 _ _=> ?_)
  refine ω z (OpVal.index z gI gQ z z hs328 u114.1 u114.2) (θ 5 z z ?_)
  have Kv:(uy.set ((nth dQ 0 0).toNat) false).length=(replicate x0.next.length false).length:=by rw [gy];exact Ur
  refine ν z (lG false z gQ z z z z jc qZ (by omega) (by omega) ?_)
  refine ε (ψ (ω z (kG z ji fE z (i:=2) z z) (ξ z z (Φ z z (Φ z z ?_)))))
  obtain ⟨qI,u120,hh⟩:=dM hh
  refine θ 5 z z (θ 5 z z ?_)
  rw [show Value.slice qE ((replicate x0.next.length ([]:T_1)).length) qB=Value.slice qE kM.length qB from by rw [xq]]
  rw [show Value.slice tZ ((replicate x0.next.length false).length) tX=Value.slice tZ kL.length tX from by rw [xk]]
  refine ν z (Ve (Con.lend bF (λ_ zZ hr330=>Con.lend jc (λ_ xE hr331=>H0_ (x0:=x0) ((au.mono zZ).mono xE) ((aY.mono zZ).mono xE) ((aV.mono zZ).mono xE) ((aQ.mono zZ).mono xE) (hr330.mono xE) hr331 u120))) z z pf111 z z z z ?_)
  rw [show Value.slice qE kM.length qB=Value.slice qE ((replicate x0.next.length ([]:T_1)).length) qB from by rw [xq]]
  rw [show Value.slice tZ kL.length tX=Value.slice tZ ((replicate x0.next.length false).length) tX from by rw [xk]]
  refine ω z (eu (.inr z) z) (ε (TC.cutG (α:=(Unit)×(Unit)) (rgs [(117,12)]) (λg=>[]) (λg=>[jl bG x0 aI aH aA aX aU ay bJ bD,Res.nest 86 3 1 aG (.slice jE (replicate x0.next.length ([]:ak)).length jD) uo,φ 9 1 aJ (.slice qE (replicate x0.next.length ([]:T_1)).length qB) kM,φ 4 1 eq_ (.slice tZ (replicate x0.next.length false).length tX) kL,Res.queS 3 1 aG (.slice Zg (dQ.drop 1).length YO) (dQ.drop 1),φ 4 1 eq_ (.slice tY (replicate x0.next.length false).length c218) (uy.set ((nth dQ 0 0).toNat) false)]) (λg=>σ) (λg=>Dh_ dQ kM kL dD qI uy=some z1/\dD.length=(replicate x0.next.length ([]:ak)).length/\Zn uo dD/\kM.length=(replicate x0.next.length ([]:T_1)).length/\kL.length=(replicate x0.next.length false).length/\(uy.set ((nth dQ 0 0).toNat) false).length=(replicate x0.next.length false).length) ?_ (λg j hg=> ?_)))
  ·skip
   refine ψ (Φ z z (ξ z z ?_))
   obtain ⟨u124,hh⟩:=aP hh
   refine TL.isSl (i:=1) z (λhs339 _ _=> ?_)
   refine ω z (OpVal.index z gI gQ z z hs339 u124.1 u124.2) (ω z (og false z nG z (q:=1) z jc (by omega) z) (TL.j z z (TL.split 121 z (λYy=> ?_) (λYy=> ?_))))
   ·replace hh:=gZ Yy hh
    refine Ψ z (eu (.inl z) z) (Ψ z (gu (.inl z) z) (Ψ z (dw (.inl z) z) ?_))
    obtain ⟨u130,hh⟩:=aP hh
    refine TL.isSl (i:=0) z (λhs341 _ _=> ?_)
    refine Ψ z (OpVal.index z fK fU z z hs341 u130.1 u130.2) (Ψ z (og ([]:T_1) z iG z (q:=0) z bF (by omega) z) (Ψ z (cw_ z z z) (ω z (dS z z z) (ε (TC.cD z hh (λh342 hh=> ?_) (λh342 hh=> ?_))))))
    ·refine TC.exit (S.x (Δ (S.n ?_)))
     obtain ⟨hh,WX⟩:=dO hR1 hh
     exact lf ((kM,kL,(dQ.drop 1),(uy.set ((nth dQ 0 0).toNat) false)),(Zg,YO)) WX ⟨hh,Gi,sH,xq,xk,Kv⟩ (Θ [2,3,3,3,5,5] 6)
    exact ι (S.n (cf ((),()) ⟨hh,Gi,sH,xq,xk,Kv⟩ (Θ [2,3,3,3,5,5] 6)))
   replace hh:=gY Yy hh
   exact π z (π z (π z (π z (π z (π z (ω z (dV z z z) (ε (TC.f z (ι (S.n (cf ((),()) ⟨hh,Gi,sH,xq,xk,Kv⟩ (Θ [2,3,3,3,5,5] 6))))))))))))
  skip
  obtain ⟨_,_⟩:=g
  obtain ⟨hh,Uo,yZ,Un,Um,Ul⟩:=hg
  try dsimp only at Uo yZ Un Um Ul ⊢
  dsimp only [Dh_]at hh
  have zf335b:=yZ.len
  refine TC.know (nX (q:=1) z yZ) (λ⟨_,hb344⟩=> ?_)
  refine χ (i:=2) z (λ_ hb345 _=> ?_)
  refine χ (i:=3) z (λ_ hb346 _=> ?_)
  refine χ (i:=5) z (λ_ hb347 _=> ?_)
  refine ψ (Φ z z (ξ z z (Φ z z (ξ z z (ω z (eu (.inl z) z) ?_)))))
  obtain ⟨u139,hh⟩:=aP hh
  refine TL.isSl (i:=2) z (λhs348 _ _=> ?_)
  refine ω z (OpVal.index z fK fU z z hs348 u139.1 u139.2) (θ 2 z z ?_)
  have hn349:(kM.set ((nth dQ 0 0).toNat) qI).length=(replicate x0.next.length ([]:T_1)).length:=by rw [gy];exact Un
  refine ν z (lG qI z fU z z z z bF rE (by omega) (by omega) ?_)
  obtain ⟨Jq,hh⟩:=aP hh
  refine TL.isSl (i:=3) z (λhs350 _ _=> ?_)
  refine ω z (OpVal.index z gI gQ z z hs350 Jq.1 Jq.2) (θ 3 z z ?_)
  have hn351:(kL.set ((nth dQ 0 0).toNat) true).length=(replicate x0.next.length false).length:=by rw [gy];exact Um
  refine ν z (lG true z gQ z z z z jc qZ (by omega) (by omega) ?_)
  refine ε (ψ (Φ z z (ξ z z ?_)))
  obtain ⟨Ol,hh⟩:=aP hh
  refine TL.know (nX (q:=3) z yZ) (λ⟨hs352,hs352b⟩=> ?_)
  refine ω z (OpVal.index z eU fZ z z hs352 Ol.1 Ol.2) ?_
  obtain ⟨p353,JJ,KN⟩:=Zn.at yZ (i:=(nth dQ 0 0).toNat) (by omega)
  refine ω z (Dt z hs_ z (q:=3) z JJ KN) (ω z (lenC z b_ z) (ξ z z (ε (υ (TC.ig (α:=(ak×B_1×Nat)×((Option Addr)×Nat)) (rgs [(12,1),(19,1),(141,17)]) (λg=>[(12,.slice g.2.1 g.1.1.length g.2.2),(141,.int .i64 ((g.1.2.2:Nat):Int))]) (λg=>[jl bG x0 aI aH aA aX aU ay bJ bD,Res.nest 86 3 1 aG (.slice jE (replicate x0.next.length ([]:ak)).length jD) uo,φ 9 1 aJ (.slice qE (replicate x0.next.length ([]:T_1)).length qB) (kM.set ((nth dQ 0 0).toNat) qI),φ 4 1 eq_ (.slice tZ (replicate x0.next.length false).length tX) (kL.set ((nth dQ 0 0).toNat) true),Res.queS 3 1 aG (.slice g.2.1 g.1.1.length g.2.2) g.1.1,φ 4 1 eq_ (.slice tY (replicate x0.next.length false).length c218) g.1.2.1]) (λg=>σ) (λg=>bC (λq:ak×B_1×Nat=>NJ dD dQ kM qI kL q.1 q.2.1 q.2.2) g.1=some z1/\dD.length=(replicate x0.next.length ([]:ak)).length/\Zn uo dD/\(kM.set ((nth dQ 0 0).toNat) qI).length=(replicate x0.next.length ([]:T_1)).length/\(kL.set ((nth dQ 0 0).toNat) true).length=(replicate x0.next.length false).length/\g.1.2.1.length=(replicate x0.next.length false).length) (λg=>f_ (λq:ak×B_1×Nat=>NJ dD dQ kM qI kL q.1 q.2.1 q.2.2) g.1) (((dQ.drop 1),(uy.set ((nth dQ 0 0).toNat) false),0),(Zg,YO)) (Θ [5,5,2,3,5,5] 6) z (by repeat (first|exact trivial|refine ⟨z,?_⟩)) ⟨hh,Uo,yZ,hn349,hn351,Ul⟩ (λg5 j5 hg5=> ?_))))))
  obtain ⟨⟨Bo,wR,nS⟩,⟨a384,c385⟩⟩:=g5
  obtain ⟨hh,Gf,yX,F9,F8,F7⟩:=hg5
  try dsimp only at Gf yX F9 F8 F7 ⊢
  obtain ⟨z2,hh,hR2⟩:=gJ hh
  dsimp only [NJ]at hh
  have zf380b:=yX.len
  refine TC.know (nX (q:=1) z yX) (λ⟨_,hb389⟩=> ?_)
  refine χ (i:=2) z (λ_ hb390 _=> ?_)
  refine χ (i:=3) z (λ_ hb391 _=> ?_)
  refine χ (i:=5) z (λ_ hb392 _=> ?_)
  refine ψ (ω z (OpVal.lss z z z) (ε (ζ (TC.cD z hh (λh393 hh=> ?_) (λh393 hh=> ?_)))))
  ·refine ι (S.n (ζ (υ (ψ (TL.know (is_ (q:=1) z JJ KN) (λ⟨hs394,hs394b⟩=> ?_))))))
   refine ω z (bU z b_ dB z z hs394 (by omega)) (ω z (OpVal.seen (iq_ (q:=1) z JJ KN) (og (0:Int) z fJ z (q:=0) z bn (by omega) z)) (ξ z z (ε (ψ (Φ z z (ξ z z ?_))))))
   obtain ⟨Oj,hh⟩:=aP hh
   refine TL.isSl (i:=5) z (λhs395 _ _=> ?_)
   refine ω z (OpVal.index z gI gQ z z hs395 Oj.1 Oj.2) (ω z (og false z nG z (q:=5) z jc (by omega) z) (ω z (OpVal.not z z) (ε (TC.cB z hh (λh396 hh=> ?_) (λh396 hh=> ?_)))))
   ·refine η (Φ z z (ξ z z (Φ z z (ξ z z (ν z (OpOk.lit (enc:=aG) [(nth (nth dD ((nth dQ 0 0).toNat) []) nS 0)] z b_ dB lu z z z bn (by decide) (by decide) (0:Int) z (by decide) z (by decide) jS (λa397 c398=> ?_)))))))
    refine θ 5 z z ?_
    obtain ⟨u163,hh⟩:=aP hh
    refine ν z (cv_ z z b_ dB uV lu z z (by decide) z bn z z (.inr ⟨_,0,z⟩) (by simpa using u163) (by decide) (by simp) (λa400 c401=> ?_))
    refine Φ z z ?_
    obtain ⟨u165,hh⟩:=aP hh
    refine TL.isSl (i:=6) z (λhs402 _ _=> ?_)
    refine ω z (OpVal.index z gI gQ z z hs402 u165.1 u165.2) (θ 6 z z ?_)
    have hn403:(wR.set ((nth (nth dD ((nth dQ 0 0).toNat) []) nS 0).toNat) true).length=(replicate x0.next.length false).length:=by rw [gy];exact F7
    refine ν z (lG true z gQ z z z z jc qZ (by omega) (by omega) ?_)
    refine TL.nil (B.n (S.n (η ?_)))
    obtain ⟨u167,hh⟩:=aP hh
    refine ω z (OpVal.succ z z z (by omega)) (ξ z z (ε ?_))
    obtain ⟨hh,WV⟩:=dO hR2 hh
    exact lf (((Bo++[(nth (nth dD ((nth dQ 0 0).toNat) []) nS 0)]),(wR.set ((nth (nth dD ((nth dQ 0 0).toNat) []) nS 0).toNat) true),(nS+1)),(a400,c401)) WV ⟨hh,Gf,yX,F9,F8,hn403⟩ (Θ [1,6,6,6,6] 6)
   refine ι (B.n (S.n (η ?_)))
   obtain ⟨u167,hh⟩:=aP hh
   refine ω z (OpVal.succ z z z (by omega)) (ξ z z (ε ?_))
   obtain ⟨hh,WU⟩:=dO hR2 hh
   exact lf ((Bo,wR,(nS+1)),(a384,c385)) WU ⟨hh,Gf,yX,F9,F8,F7⟩ (Θ [5,5,5,5,5,5] 6)
  refine TC.exit (S.x (S.x ?_))
  replace hh:=dG hR2 hh
  refine Δ (B.n (S.n ?_))
  obtain ⟨hh,WT⟩:=dO hR1 hh
  exact lf (((kM.set ((nth dQ 0 0).toNat) qI),(kL.set ((nth dQ 0 0).toNat) true),Bo,wR),(a384,c385)) WT ⟨hh,Gf,yX,F9,F8,F7⟩ (Θ [5,5,5,5,5,5] 6)
 refine TC.exit (S.x (S.x ?_))
 replace hh:=dG hR1 hh
 refine Δ (S.n (ψ (Φ z z (Φ z z (Φ z z (Φ z z (ε ?_)))))))
 rw [show Value.slice qE ((replicate x0.next.length ([]:T_1)).length) qB=Value.slice qE kM.length qB from by rw [xq]]
 rw [show Value.slice tZ ((replicate x0.next.length false).length) tX=Value.slice tZ kL.length tX from by rw [xk]]
 refine TC.front 2 z z (TC.oh bF (λτ409 hle408 FU=> ?_))
 have hr407b:=FU.rv.big
 refine TC.front 2 z z (TC.oh jc (λτ412 Yb TQ=> ?_))
 replace FU:=FU.mono Yb
 have hr410b:=TQ.rv.big
 refine TC.rt 0 ?_
 obtain rfl:=so hh
 exact rq [2,3] ⟨qE,qB,tZ,tX,z,FU,TQ,z⟩
def NQ(x0:Seq)(jL:ak)(dY:B_1)(yO:ak)(ng:Nat):Option ((B_1×ak×Nat)⊕((B_1×ak)⊕(B_1))):=
 aN (decide ((ng:Int)<(((nth x0.next ((nth jL 0 0).toNat) []).length:Nat):Int))) (aN (decide (0<=(nth (nth x0.next ((nth jL 0 0).toNat) []) ng 0))) (grd (0<=(nth (nth x0.next ((nth jL 0 0).toNat) []) ng 0)/\(nth (nth x0.next ((nth jL 0 0).toNat) []) ng 0)<(dY.length:Int)) (aN (!(nth dY ((nth (nth x0.next ((nth jL 0 0).toNat) []) ng 0).toNat) false)) (grd (0<=(nth (nth x0.next ((nth jL 0 0).toNat) []) ng 0)/\(nth (nth x0.next ((nth jL 0 0).toNat) []) ng 0)<(dY.length:Int)) (grd ((yO.length+[(nth (nth x0.next ((nth jL 0 0).toNat) []) ng 0)].length) * 8<=140737488355328) (nxt ((dY.set ((nth (nth x0.next ((nth jL 0 0).toNat) []) ng 0).toNat) true),(yO++[(nth (nth x0.next ((nth jL 0 0).toNat) []) ng 0)]),(ng+1))))) (nxt (dY,yO,(ng+1))))) (nxt (dY,yO,(ng+1)))) (fin (nxt (dY,yO)))
def Vr(x0:Seq)(iC:B_1)(jL:ak):Option ((B_1×ak)⊕(B_1)):=
 aN (decide (0<((jL.length:Nat):Int))) (grd (0<jL.length/\1<=jL.length) (grd (0<=(nth jL 0 0)/\(nth jL 0 0)<(x0.next.length:Int)) (bC (λq:B_1×ak×Nat=>NQ x0 jL q.1 q.2.1 q.2.2) (iC,(jL.drop 1),0)))) (fin (some iC))
def Ew_(x0:Seq):Option (B_1):=
 grd (1 * x0.next.length<=281474976710656) (aN (decide ((((replicate x0.next.length false).length:Nat):Int)=0)) (some (replicate x0.next.length false)) (grd (0<(replicate x0.next.length false).length) (bC (λq:B_1×ak=>Vr x0 q.1 q.2) (((replicate x0.next.length false).set 0 true),[0]))))
def H8_(σ:aj)(r:B_1):Value->aj->List Res->Prop:=λv σ' H'=>
 ∃a1 c1,v= .slice a1 r.length c1/\σ=σ'/\H'=[dW 4 eq_ a1 c1 r]
theorem Hr_{σ:aj}{x0:Seq}(au:RZ σ (aB 1 aG bn) (.slice aI x0.next.length aH) x0.next)(aY:RZ σ (aB 1 aJ bF) (.slice aA x0.outs.length aX) x0.outs)(aV:dA σ eq_ aU ay x0.fin)(aQ:dA σ aJ bJ bD x0.tail){r:B_1}(hh:Ew_ x0=some r):
  Con prog 72 #[.agg (oI x0 aI aH aA aX aU ay bJ bD)] σ [] (H8_ σ r):=by
 dsimp only [Ew_]at hh
 have f0_0b:=au.big
 have f0_1b:=aY.big
 have f0_2b:=aV.rv.big
 have f0_3b:=aQ.rv.big
 refine Con.mk (n:=55) Tryz.func72 z z z (λw0=> ?_)
 refine ψ (ν z (boxA z z z z (λbG=> ?_)))
 refine Φ z z (ε (ψ (ω z (aS z kS z) (ω z (aZ z jT z (i:=0) z z) (ω z (lenC z eU z) ?_)))))
 obtain ⟨u6,hh⟩:=aP hh
 refine ν z (pz (enc:=eq_) false z gI gQ G8 AA z z z z (by omega) (by decide) jc (by decide) z qZ (λjE jD=> ?_))
 refine Φ z z (ε (ζ (ψ (Φ z z (ω z (lenC z gI z) (ω z (OpVal.eql z z z) (ε (TC.cD z hh (λdN hh=> ?_) (λdN hh=> ?_)))))))))
 ·refine ψ (Φ z z (Φ z z (ε (TC.rt 1 (S.r ?_)))))
  obtain rfl:=so hh
  exact ro [dW 4 eq_ jE jD (replicate x0.next.length false)] z (RVs.tmp z RVs.nil) ⟨jE,jD,z,z,z⟩
 refine ι (S.n (ψ (ν z (OpOk.lit (enc:=aG) [0] z b_ dB lu z z z bn (by decide) (by decide) (0:Int) z (by decide) z (by decide) jS (λa107 yw=> ?_)))))
 refine Φ z z (ε (ψ (Φ z z ?_)))
 obtain ⟨u16,hh⟩:=aP hh
 refine TL.isSl (i:=1) z (λBJ _ _=> ?_)
 refine ω z (bU (i:=0) z gI gQ z z BJ (by omega)) (θ 1 z z ?_)
 have tC:((replicate x0.next.length false).set 0 true).length=(replicate x0.next.length false).length:=by rw [gy]
 refine ν z (lG true z gQ z z z z jc qZ (by omega) (by omega) ?_)
 refine ε (ζ (υ (TC.front 1 z z (TC.cz_ (TC.ig (α:=(B_1×ak)×((Option Addr)×Nat)) (rgs [(4,2),(7,1),(19,35)]) (λg=>[(4,.slice g.2.1 g.1.2.length g.2.2)]) (λg=>[jl bG x0 aI aH aA aX aU ay bJ bD,φ 4 1 eq_ (.slice jE (replicate x0.next.length false).length jD) g.1.1,Res.queS 3 1 aG (.slice g.2.1 g.1.2.length g.2.2) g.1.2]) (λg=>σ) (λg=>bC (λq:B_1×ak=>Vr x0 q.1 q.2) g.1=some r/\g.1.1.length=(replicate x0.next.length false).length) (λg=>f_ (λq:B_1×ak=>Vr x0 q.1 q.2) g.1) ((((replicate x0.next.length false).set 0 true),[0]),(a107,yw)) (Θ [1,2] 3) z (by repeat (first|exact trivial|refine ⟨z,?_⟩)) ⟨hh,tC⟩ (λg1 j1 hg1=> ?_))))))
 obtain ⟨⟨iC,jL⟩,⟨a126,c127⟩⟩:=g1
 obtain ⟨hh,Cj⟩:=hg1
 try dsimp only at Cj ⊢
 obtain ⟨z1,hh,hR1⟩:=gJ hh
 dsimp only [Vr]at hh
 refine χ (i:=1) z (λ_ Dl _=> ?_)
 refine ζ (ψ (Φ z z (ω z (lenC z b_ z) (ω z (OpVal.gtr z z z) (ε (TC.cD z hh (λrV hh=> ?_) (λrV hh=> ?_)))))))
 ·refine ι (S.n (υ (ψ (Φ z z (TL.know (tm_ (q:=2) z) (λ⟨wX,hs130b⟩=> ?_))))))
  refine ω z (bU (i:=0) z b_ dB z z wX (by omega)) (ω z (da_ (0:Int) z fJ z (q:=2) z bn (by omega) z) (ξ z z (ε (ψ (Φ z z (θ 2 z z ?_))))))
  obtain ⟨u26,hh⟩:=aP hh
  refine ν z (popQ (i:=1) z b_ dB z z z z (by omega) (by omega) (λa131 c132=> ?_))
  refine Φ z z (ε (ψ (ω z (aS z kS z) (ω z (aZ z jT z (i:=1) z z) (ξ z z ?_)))))
  obtain ⟨u31,hh⟩:=aP hh
  refine ω z (OpVal.index z eU fZ z z au.isSl u31.1 u31.2) ?_
  obtain ⟨OY,C9,hg133⟩:=RZ.seg au ((nth jL 0 0).toNat) (by omega)
  replace C9:dA _ aG OY.1 OY.2 (nth x0.next ((nth jL 0 0).toNat) []):=C9
  have hk133b:=C9.rv.big
  refine ω z (OpVal.of (kZ z hs_ z hg133 z) (v':= .slice OY.1 ((nth x0.next ((nth jL 0 0).toNat) []).length) OY.2) z) (ω z (lenC z b_ z) (ξ z z (ε (υ (TC.ig (α:=(B_1×ak×Nat)×((Option Addr)×Nat)) (rgs [(4,1),(7,1),(33,21)]) (λg=>[(4,.slice g.2.1 g.1.2.1.length g.2.2),(33,.int .i64 ((g.1.2.2:Nat):Int))]) (λg=>[jl bG x0 aI aH aA aX aU ay bJ bD,φ 4 1 eq_ (.slice jE (replicate x0.next.length false).length jD) g.1.1,Res.queS 3 1 aG (.slice g.2.1 g.1.2.1.length g.2.2) g.1.2.1]) (λg=>σ) (λg=>bC (λq:B_1×ak×Nat=>NQ x0 jL q.1 q.2.1 q.2.2) g.1=some z1/\g.1.1.length=(replicate x0.next.length false).length) (λg=>f_ (λq:B_1×ak×Nat=>NQ x0 jL q.1 q.2.1 q.2.2) g.1) ((iC,(jL.drop 1),0),(a131,c132)) (Θ [2,2] 3) z (by repeat (first|exact trivial|refine ⟨z,?_⟩)) ⟨hh,Cj⟩ (λg2 j2 hg2=> ?_))))))
  obtain ⟨⟨dY,yO,ng⟩,⟨Zt,YZ⟩⟩:=g2
  obtain ⟨hh,BX⟩:=hg2
  try dsimp only at BX ⊢
  obtain ⟨z2,hh,hR2⟩:=gJ hh
  dsimp only [NQ]at hh
  refine χ (i:=1) z (λ_ U3 _=> ?_)
  refine ψ (ω z (OpVal.lss z z z) (ε (ζ (TC.cD z hh (λYI hh=> ?_) (λYI hh=> ?_)))))
  ·refine ι (S.n (ζ (υ (ψ (ω z (bU z b_ dB z z C9.rv.sl (by omega)) (ω z (fF (0:Int) z fJ z C9 (by omega) z) (ξ z z (ε (ψ (ξ z z (ω z (OpVal.geq z z z) (TL.j z z (TL.split 39 z (λEM=> ?_) (λEM=> ?_))))))))))))))
   ·replace hh:=gZ EM hh
    replace EM:=jg EM
    refine Ψ z (gu (.inl z) z) (Ψ z (dw (.inl z) z) ?_)
    obtain ⟨u44,hh⟩:=aP hh
    refine TL.isSl (i:=1) z (λhs156 _ _=> ?_)
    refine Ψ z (OpVal.index z gI gQ z z hs156 u44.1 u44.2) (Ψ z (og false z nG z (q:=1) z jc (by omega) z) (Ψ z (OpVal.not z z) (ω z (dS z z z) (ε (TC.cB z hh (λYH hh=> ?_) (λYH hh=> ?_))))))
    ·refine ψ (Φ z z (ξ z z ?_))
     obtain ⟨VI,hh⟩:=aP hh
     refine TL.isSl (i:=1) z (λJW _ _=> ?_)
     refine ω z (OpVal.index z gI gQ z z JW VI.1 VI.2) (θ 1 z z ?_)
     have BU:(dY.set ((nth (nth x0.next ((nth jL 0 0).toNat) []) ng 0).toNat) true).length=(replicate x0.next.length false).length:=by rw [gy];exact BX
     refine ν z (lG true z gQ z z z z jc qZ (by omega) (by omega) ?_)
     refine ε (η (Φ z z (ξ z z (ν z (OpOk.lit (enc:=aG) [(nth (nth x0.next ((nth jL 0 0).toNat) []) ng 0)] z b_ dB lu z z z bn (by decide) (by decide) (0:Int) z (by decide) z (by decide) jS (λa160 c161=> ?_))))))
     refine θ 3 z z ?_
     obtain ⟨u55,hh⟩:=aP hh
     refine ν z (cv_ z z b_ dB uV lu z z (by decide) z bn z z (.inr ⟨_,0,z⟩) (by simpa using u55) (by decide) (by simp) (λZq c164=> ?_))
     refine Φ z z (TL.nil (B.n (S.n (η (ω z (OpVal.succ z z z (by omega)) (ξ z z (ε ?_)))))))
     obtain ⟨hh,xB⟩:=dO hR2 hh
     exact lf (((dY.set ((nth (nth x0.next ((nth jL 0 0).toNat) []) ng 0).toNat) true),(yO++[(nth (nth x0.next ((nth jL 0 0).toNat) []) ng 0)]),(ng+1)),(Zq,c164)) xB ⟨hh,BU⟩ (Θ [2,3] 3)
    refine ι (B.n (S.n (η (ω z (OpVal.succ z z z (by omega)) (ξ z z (ε ?_))))))
    obtain ⟨hh,XQ⟩:=dO hR2 hh
    exact lf ((dY,yO,(ng+1)),(Zt,YZ)) XQ ⟨hh,BX⟩ (Θ [2,2,2] 3)
   replace hh:=gY EM hh
   replace EM:=jo EM
   refine π z (π z (π z (π z (π z (ω z (dV z z z) (ε (TC.f z (ι (B.n (S.n (η (ω z (OpVal.succ z z z (by omega)) (ξ z z (ε ?_))))))))))))))
   obtain ⟨hh,XP⟩:=dO hR2 hh
   exact lf ((dY,yO,(ng+1)),(Zt,YZ)) XP ⟨hh,BX⟩ (Θ [2,2,2] 3)
  refine TC.exit (S.x (S.x ?_))
  replace hh:=dG hR2 hh
  refine Δ (B.n (S.n ?_))
  obtain ⟨hh,XO⟩:=dO hR1 hh
  exact lf ((dY,yO),(Zt,YZ)) XO ⟨hh,BX⟩ (Θ [2,2,2] 3)
 refine TC.exit (S.x (S.x ?_))
 replace hh:=dG hR1 hh
 refine Δ (S.n (ψ (Φ z z (Φ z z (ε ?_)))))
 rw [<-Cj]
 refine TC.sG (Θ [1] 1) (TC.ret ?_)
 obtain rfl:=so hh
 exact ro [dW 4 eq_ jE jD iC] z (RVs.tmp z RVs.nil) ⟨jE,jD,z,z,z⟩
def NM(x0:Seq)(x1:Int)(x3:ak)(x2:aC)(gU:ak)(dH:aC)(bY:Nat):Option ((ak×aC×Nat)⊕(ak×aC×Bool)):=
 aN (decide ((bY:Int)<(((nth x0.next x1.toNat []).length:Nat):Int))) (grd (bY<gU.length) (aN (decide ((nth (nth x0.next x1.toNat []) bY 0)<0)) (nxt ((gU.set bY (-1)),dH,(bY+1))) (grd (0<=(nth (nth x0.next x1.toNat []) bY 0)/\(nth (nth x0.next x1.toNat []) bY 0)<(x3.length:Int)) (aN (decide ((nth x3 ((nth (nth x0.next x1.toNat []) bY 0).toNat) 0)<0)) (nxt ((gU.set bY (-1)),dH,(bY+1))) (grd (0<=(nth (nth x0.next x1.toNat []) bY 0)/\(nth (nth x0.next x1.toNat []) bY 0)<(x3.length:Int)) (grd (bY<(gU.set bY (-1)).length) (grd (0<=x1/\x1<(x0.outs.length:Int)) (grd (bY<(nth x0.outs x1.toNat []).length) (grd (0<=(nth (nth x0.next x1.toNat []) bY 0)/\(nth (nth x0.next x1.toNat []) bY 0)<(x2.length:Int)) (grd (0<=x1/\x1<(x2.length:Int)) (aN (decide (4096<(IntKind.i64.wrap ((IntKind.i64.wrap ((((nth (nth x0.outs x1.toNat []) bY []).length:Nat):Int)+(((nth x2 ((nth (nth x0.next x1.toNat []) bY 0).toNat) []).length:Nat):Int))) - (((nth x2 x1.toNat []).length:Nat):Int))))) (fin (some (([]:ak),([]:aC),false))) (grd (0<=x1/\x1<(x0.outs.length:Int)) (grd (bY<(nth x0.outs x1.toNat []).length) (grd (0<=(nth (nth x0.next x1.toNat []) bY 0)/\(nth (nth x0.next x1.toNat []) bY 0)<(x2.length:Int)) (grd ((nth (nth x0.outs x1.toNat []) bY []).length+(nth x2 ((nth (nth x0.next x1.toNat []) bY 0).toNat) []).length<=9223372036854775807) (grd (0<=x1/\x1<(x2.length:Int)) (grd ((nth x2 x1.toNat []).length<=((nth (nth x0.outs x1.toNat []) bY [])++(nth x2 ((nth (nth x0.next x1.toNat []) bY 0).toNat) [])).length/\((nth (nth x0.outs x1.toNat []) bY [])++(nth x2 ((nth (nth x0.next x1.toNat []) bY 0).toNat) [])).length<=((nth (nth x0.outs x1.toNat []) bY [])++(nth x2 ((nth (nth x0.next x1.toNat []) bY 0).toNat) [])).length) (grd (bY<dH.length) (nxt (((gU.set bY (-1)).set bY (nth x3 ((nth (nth x0.next x1.toNat []) bY 0).toNat) 0)),(dH.set bY (((nth (nth x0.outs x1.toNat []) bY [])++(nth x2 ((nth (nth x0.next x1.toNat []) bY 0).toNat) [])).drop ((nth x2 x1.toNat []).length))),(bY+1))))))))))))))))))))) (fin (some (gU,dH,true)))
def E3_(x1:Int)(x0:Seq)(x3:ak)(x2:aC):Option (ak×aC×Bool):=
 grd (0<=x1/\x1<(x0.next.length:Int)) (bC (λq:ak×aC×Nat=>NM x0 x1 x3 x2 q.1 q.2.1 q.2.2) ((replicate 256 (0:Int)),(replicate 256 ([]:T_1)),0))
def E7_(x0:Seq)(x1:Int)(x2:aC)(x3:ak):Option (ak×aC×Bool):=
 E3_ x1 x0 x3 x2
def Ic_(σ:aj)(r:ak×aC×Bool):Value->aj->List Res->Prop:=λv σ' H'=>
 ∃a1 c1 a2 c2,v= .tuple #[.slice a1 r.1.length c1,.slice a2 r.2.1.length c2,.bool r.2.2]/\dA σ' aG a1 c1 r.1/\dA σ' aJ a2 c2 r.2.1/\H'=[]
theorem Hy_{σ:aj}{x0:Seq}{x1:Int}{x2:aC}{x3:ak}(au:RZ σ (aB 1 aG bn) (.slice aI x0.next.length aH) x0.next)(aY:RZ σ (aB 1 aJ bF) (.slice aA x0.outs.length aX) x0.outs)(aV:dA σ eq_ aU ay x0.fin)(aQ:dA σ aJ bJ bD x0.tail)(uS:dA σ aJ Qe PU x2)(Ap:dA σ aG Qd PS x3){r:ak×aC×Bool}(hh:E7_ x0 x1 x2 x3=some r):
  Con prog 73 #[.agg (oI x0 aI aH aA aX aU ay bJ bD),.int .i64 x1,.slice Qe x2.length PU,.slice Qd x3.length PS] σ [] (Ic_ σ r):=by
 dsimp only [E7_]at hh
 have f0_0b:=au.big
 have f0_1b:=aY.big
 have f0_2b:=aV.rv.big
 have f0_3b:=aQ.rv.big
 have f2_0b:=uS.rv.big
 have f3_0b:=Ap.rv.big
 refine Con.mk (n:=94) Tryz.func73 z z z (λw0=> ?_)
 refine ψ (ν z (boxA z z z z (λbG=> ?_)))
 refine Φ z z (Φ z z (TL.j z z (ε (TC.cutG (α:=(Unit)×((Option Addr)×Nat×(Option Addr)×Nat)) [11,12,15,16] (λg=>[(11,.slice g.2.1 ((replicate 256 (0:Int)).length) g.2.2.1),(12,.slice g.2.2.2.1 ((replicate 256 ([]:T_1)).length) g.2.2.2.2)]) (λg=>[jl bG x0 aI aH aA aX aU ay bJ bD,φ 3 1 aG (.slice g.2.1 (replicate 256 (0:Int)).length g.2.2.1) (replicate 256 (0:Int)),φ 9 1 aJ (.slice g.2.2.2.1 (replicate 256 ([]:T_1)).length g.2.2.2.2) (replicate 256 ([]:T_1))]) (λg=>σ) (λg=>E3_ x1 x0 x3 x2=some r) ?_ (λg j hg=> ?_)))))
 ·skip
  refine TC.draw [] (by kernel_rfl) (TA.actN [0,1] (by kernel_rfl) (an z z (pz (m:=256) (enc:=aG) (0:Int) z b_ dB uV lu z z z z (by omega) (by decide) bn (by decide) z jS (λAw c116=>(k1 ?_))) (an z z (pz (m:=256) (enc:=aJ) ([]:T_1) z fK fU zF sQ z z z z (by omega) (by decide) bF (by decide) z rE (λqM c119=>(k1 ?_))) (True.intro))))
  ·skip
   refine Ω 2 z (gu (.inr z) z) z (TA.ac 1 z (pz (m:=256) (enc:=aJ) ([]:T_1) z fK fU zF sQ z z z z (by omega) (by decide) bF (by decide) z rE (λa121 c122=>(k2 ?_))))
   exact Ω 3 z (gu (.inr z) z) z (TA.dn (S.n (cf ((),(Aw,c116,a121,c122)) hh (Θ [1,2] 3))))
  skip
  refine TA.ac 0 z (pz (m:=256) (enc:=aG) (0:Int) z b_ dB uV lu z z z z (by omega) (by decide) bn (by decide) z jS (λa124 Aq=>(k2 ?_)))
  exact Ω 2 z (gu (.inr z) z) z (Ω 3 z (gu (.inr z) z) z (TA.dn (S.n (cf ((),(a124,Aq,qM,c119)) hh (Θ [1,1,2] 3)))))
 skip
 obtain ⟨_,⟨Az,c105,a107,yw⟩⟩:=g
 have hh:=hg;clear hg
 try dsimp only
 dsimp only [E3_]at hh
 refine χ (i:=1) z (λ_ G5 _=> ?_)
 refine χ (i:=2) z (λ_ Dl _=> ?_)
 refine ζ (ψ (ω z (aS z kS z) (ω z (aZ z jT z (i:=0) z z) (ξ z z ?_))))
 obtain ⟨u12,hh⟩:=aP hh
 refine ω z (OpVal.index z eU fZ z z au.isSl u12.1 u12.2) ?_
 obtain ⟨OZ,C_,hg129⟩:=RZ.seg au x1.toNat (by omega)
 replace C_:dA _ aG OZ.1 OZ.2 (nth x0.next x1.toNat []):=C_
 have hk129b:=C_.rv.big
 refine ω z (OpVal.of (kZ z hs_ z hg129 z) (v':= .slice OZ.1 ((nth x0.next x1.toNat []).length) OZ.2) z) (ω z (lenC z b_ z) (ξ z z (ε (υ (TC.ig (α:=(ak×aC×Nat)×(Unit)) (rgs [(8,3),(13,2),(23,69)]) (λg=>[(23,.int .i64 ((g.1.2.2:Nat):Int))]) (λg=>[jl bG x0 aI aH aA aX aU ay bJ bD,φ 3 1 aG (.slice Az (replicate 256 (0:Int)).length c105) g.1.1,φ 9 1 aJ (.slice a107 (replicate 256 ([]:T_1)).length yw) g.1.2.1]) (λg=>σ) (λg=>bC (λq:ak×aC×Nat=>NM x0 x1 x3 x2 q.1 q.2.1 q.2.2) g.1=some r/\g.1.1.length=(replicate 256 (0:Int)).length/\g.1.2.1.length=(replicate 256 ([]:T_1)).length) (λg=>f_ (λq:ak×aC×Nat=>NM x0 x1 x3 x2 q.1 q.2.1 q.2.2) g.1) (((replicate 256 (0:Int)),(replicate 256 ([]:T_1)),0),()) (Θ [2,2,2] 3) z (by repeat (first|exact trivial|refine ⟨z,?_⟩)) ⟨hh,z,z⟩ (λg1 j1 hg1=> ?_))))))
 obtain ⟨⟨gU,dH,bY⟩,_⟩:=g1
 obtain ⟨hh,KD,mP⟩:=hg1
 try dsimp only at KD mP ⊢
 obtain ⟨z1,hh,hR1⟩:=gJ hh
 dsimp only [NM]at hh
 refine χ (i:=1) z (λ_ Dk _=> ?_)
 refine χ (i:=2) z (λ_ hb146 _=> ?_)
 refine ψ (ω z (OpVal.lss z z z) (ε (ζ (TC.cD z hh (λh147 hh=> ?_) (λh147 hh=> ?_)))))
 ·refine ι (S.n (ζ (υ (ψ (ξ z z (ω z (bU z b_ dB z z C_.rv.sl (by omega)) (ω z (fF (0:Int) z fJ z C_ (by omega) z) (ξ z z (ξ z z (ε (ψ (Φ z z (ξ z z ?_)))))))))))))
  obtain ⟨u24,hh⟩:=aP hh
  refine TL.isSl (i:=1) z (λJZ _ _=> ?_)
  refine ω z (bU z b_ dB z z JZ (by omega)) (θ 1 z z ?_)
  have zy:(gU.set bY (-1)).length=(replicate 256 (0:Int)).length:=by rw [gy];exact KD
  refine ν z (lG (-1) z dB z z z z bn jS (by omega) (by omega) ?_)
  refine ε (ζ (ψ (ξ z z (ω z (OpVal.lss z z z) (TL.j z z (TL.split 33 z (λuO=> ?_) (λuO=> ?_)))))))
  ·replace hh:=gZ uO hh
   replace uO:=jg uO
   refine π z (π z (π z (π z (π z (ω z (dS z z z) (ε (TC.t z (TC.exit (S.x (Δ (S.n (η (ω z (OpVal.succ z z z (by omega)) (ξ z z (ε ?_)))))))))))))))
   obtain ⟨hh,XW⟩:=dO hR1 hh
   exact lf (((gU.set bY (-1)),dH,(bY+1)),()) XW ⟨hh,zy,mP⟩ (Θ [2,1,2] 3)
  replace hh:=gY uO hh
  replace uO:=jo uO
  refine Ψ z (gu (.inl z) z) (Ψ z (dw (.inl z) z) ?_)
  obtain ⟨u31,hh⟩:=aP hh
  refine Ψ z (OpVal.index z b_ dB z z Ap.rv.sl u31.1 u31.2) (Ψ z (fF (0:Int) z fJ z Ap (by omega) z) (Ψ z (OpVal.lss z z z) (ω z (dV z z z) (ε (TC.cD z hh (λh152 hh=> ?_) (λh152 hh=> ?_))))))
  ·refine TC.exit (S.x (Δ (S.n (η (ω z (OpVal.succ z z z (by omega)) (ξ z z (ε ?_)))))))
   obtain ⟨hh,XV⟩:=dO hR1 hh
   exact lf (((gU.set bY (-1)),dH,(bY+1)),()) XV ⟨hh,zy,mP⟩ (Θ [2,1,2] 3)
  refine ι (S.n (ψ (Φ z z (ξ z z (Φ z z (ξ z z ?_))))))
  obtain ⟨u39,hh⟩:=aP hh
  refine ω z (OpVal.index z b_ dB z z Ap.rv.sl u39.1 u39.2) (ω z (fF (0:Int) z fJ z Ap (by omega) z) ?_)
  obtain ⟨FB,hh⟩:=aP hh
  refine TL.isSl (i:=0) z (λJX _ _=> ?_)
  refine ω z (bU z b_ dB z z JX (by omega)) ?_
  have KC:((gU.set bY (-1)).set bY (nth x3 ((nth (nth x0.next x1.toNat []) bY 0).toNat) 0)).length=(replicate 256 (0:Int)).length:=by rw [gy];exact zy
  refine ν z (lG (nth x3 ((nth (nth x0.next x1.toNat []) bY 0).toNat) 0) z dB z z z z bn jS (by omega) (by omega) ?_)
  refine ε (ζ (ζ ?_))
  obtain ⟨u46,hh⟩:=aP hh
  obtain ⟨u49,hh⟩:=aP hh
  obtain ⟨Jp,hh⟩:=aP hh
  obtain ⟨u60,hh⟩:=aP hh
  refine TC.draw [] (by kernel_rfl) (Ω 0 z (aS z oQ z) z (TA.b 1 z (aZ z pI z (i:=1) z z) z (Ω 2 z (dw (.inl z) z) z (TA.b 3 z (OpVal.index z lI mM z z aY.isSl u46.1 u46.2) z ?_))))
  obtain ⟨sS,lg,hg157⟩:=RZ.seg aY x1.toNat (by omega)
  replace lg:dA _ aJ sS.1 sS.2 (nth x0.outs x1.toNat []):=lg
  have hk157b:=lg.rv.big
  refine TA.b 4 z (OpVal.of (kZ z lJ z hg157 z) (v':= .slice sS.1 ((nth x0.outs x1.toNat []).length) sS.2) z) z (Ω 5 z (dw (.inl z) z) z (TA.b 6 z (bU z fK fU z z lg.rv.sl (by omega)) z (TA.b 7 z (fF ([]:T_1) z iG z lg (by omega) z) z (TA.b 8 z (rY z kK z) z (Ω 9 z (gu (.inl z) z) z (Ω 10 z (dw (.inl z) z) z (TA.b 11 z (OpVal.index z fK fU z z uS.rv.sl Jp.1 Jp.2) z (TA.b 12 z (fF ([]:T_1) z iG z uS (by omega) z) z (TA.b 13 z (rY z kK z) z (Ω 14 z (addW z z z) z (Ω 15 z (gu (.inl z) z) z (Ω 16 z (dw (.inl z) z) z (TA.b 17 z (OpVal.index z fK fU z z uS.rv.sl u60.1 u60.2) z (TA.b 18 z (fF ([]:T_1) z iG z uS (by omega) z) z (TA.b 19 z (rY z kK z) z ?_)))))))))))))))
  refine Ω 20 z (subW z z z) z (Ω 21 z (OpVal.gtr z z z) z (TA.dn (S.n (TC.cD z hh (λh158 hh=> ?_) (λh158 hh=> ?_)))))
  ·refine ψ (Φ z z (Φ z z (TL.j z z (ε (TC.rt 0 (S.r (B.r (S.r (S.r ?_)))))))))
   replace hh:=dG hR1 hh
   refine B.r (S.r ?_)
   obtain rfl:=so hh
   exact rq [8,9,10] ⟨none,0,none,0,z,(RS.nilF _ aG bn),(RS.nilF _ aJ bF),z⟩
  refine ι (S.n ?_)
  obtain ⟨u73,hh⟩:=aP hh
  obtain ⟨Nc,hh⟩:=aP hh
  obtain ⟨u80,hh⟩:=aP hh
  obtain ⟨Oh,hh⟩:=aP hh
  obtain ⟨u85,hh⟩:=aP hh
  obtain ⟨u88,hh⟩:=aP hh
  obtain ⟨u89,hh⟩:=aP hh
  refine TC.draw [22] (by kernel_rfl) (Ω 0 z (gu (.inl z) z) z (Ω 1 z (dw (.inl z) z) z (Ω 2 z (aS z oQ z) z (TA.b 3 z (aZ z pI z (i:=1) z z) z (Ω 4 z (dw (.inl z) z) z (TA.b 5 z (OpVal.index z lI mM z z aY.isSl u73.1 u73.2) z ?_))))))
  obtain ⟨JE,CW,hg162⟩:=RZ.seg aY x1.toNat (by omega)
  replace CW:dA _ aJ JE.1 JE.2 (nth x0.outs x1.toNat []):=CW
  have hk162b:=CW.rv.big
  refine TA.b 6 z (OpVal.of (kZ z lJ z hg162 z) (v':= .slice JE.1 ((nth x0.outs x1.toNat []).length) JE.2) z) z (Ω 7 z (dw (.inl z) z) z (TA.b 8 z (bU z fK fU z z CW.rv.sl (by omega)) z (TA.b 9 z (fF ([]:T_1) z iG z CW (by omega) z) z (Ω 10 z (gu (.inl z) z) z (Ω 11 z (dw (.inl z) z) z (TA.b 12 z (OpVal.index z fK fU z z uS.rv.sl u80.1 u80.2) z (TA.b 13 z (fF ([]:T_1) z iG z uS (by omega) z) z (Ω 14 z (P8 z z z Oh) z (Ω 15 z (gu (.inl z) z) z (Ω 16 z (dw (.inl z) z) z (TA.b 17 z (OpVal.index z fK fU z z uS.rv.sl u85.1 u85.2) z (TA.b 18 z (fF ([]:T_1) z iG z uS (by omega) z) z (TA.b 19 z (rY z kK z) z (TA.b 20 z (bk_ (l:=((nth (nth x0.outs x1.toNat []) bY [])++(nth x2 ((nth (nth x0.next x1.toNat []) bY 0).toNat) []))) (i:=(nth x2 x1.toNat []).length) z kK z z (by omega) (by omega)) z (TA.isSl (i:=2) z (λJV _ _=> ?_))))))))))))))))
  refine TA.b 21 z (bU z fK fU z z JV (by omega)) z (TA.front 2 z z ?_)
  have zx:(dH.set bY (((nth (nth x0.outs x1.toNat []) bY [])++(nth x2 ((nth (nth x0.next x1.toNat []) bY 0).toNat) [])).drop ((nth x2 x1.toNat []).length))).length=(replicate 256 ([]:T_1)).length:=by rw [gy];exact mP
  refine TA.last 22 (by kernel_rfl) z z z (lG (((nth (nth x0.outs x1.toNat []) bY [])++(nth x2 ((nth (nth x0.next x1.toNat []) bY 0).toNat) [])).drop ((nth x2 x1.toNat []).length)) z fU z z z z bF rE (by omega) (by omega) ?_)
  refine TZ.done (by kernel_rfl) (B.n (S.n (η (ω z (OpVal.succ z z z (by omega)) (ξ z z (ε ?_))))))
  obtain ⟨hh,xB⟩:=dO hR1 hh
  exact lf ((((gU.set bY (-1)).set bY (nth x3 ((nth (nth x0.next x1.toNat []) bY 0).toNat) 0)),(dH.set bY (((nth (nth x0.outs x1.toNat []) bY [])++(nth x2 ((nth (nth x0.next x1.toNat []) bY 0).toNat) [])).drop ((nth x2 x1.toNat []).length))),(bY+1)),()) xB ⟨hh,KC,zx⟩ (Θ [1,2] 3)
 refine TC.exit (S.x (S.x ?_))
 replace hh:=dG hR1 hh
 refine Δ (S.n (ψ (Φ z z (Φ z z (Φ z z (Φ z z (TL.j z z (ε ?_))))))))
 rw [<-KD]
 rw [<-mP]
 refine TC.front 1 z z (TC.oh bn (λτ168 hle167 F6=> ?_))
 have hr166b:=F6.rv.big
 refine TC.front 1 z z (TC.oh bF (λτ171 Yo Uh=> ?_))
 replace F6:=F6.mono Yo
 have hr169b:=Uh.rv.big
 refine TC.rt 0 ?_
 obtain rfl:=so hh
 exact rq [8,9,10] ⟨Az,c105,a107,yw,z,F6,Uh,z⟩
def D7_(iP:bZ)(v89:ak×aC×Bool)(iO:fO)(bH:Nat)(x0:Seq)(eY:B_1)(iY:aC)(Jy:T_1):Option ((bZ×fO×B_1×aC×Nat)⊕(Seq×Int)):=
 grd ((iP.length+[v89.1].length) * 24<=140737488355328) (grd ((iO.length+[v89.2.1].length) * 24<=140737488355328) (grd (bH<x0.fin.length) (grd ((eY.length+[(nth x0.fin bH false)].length) * 1<=140737488355328) (grd ((iY.length+[Jy].length) * 16<=140737488355328) (nxt ((iP++[v89.1]),(iO++[v89.2.1]),(eY++[(nth x0.fin bH false)]),(iY++[Jy]),(bH+1)))))))
def MR(v11:aC×B_1)(aO:ak)(x0:Seq)(iP:bZ)(iO:fO)(eY:B_1)(iY:aC)(bH:Nat):Option ((bZ×fO×B_1×aC×Nat)⊕(Seq×Int)):=
 aN (decide ((bH:Int)<(((replicate v11.2.length (0:Int)).length:Nat):Int))) (grd (bH<aO.length) (aN (decide ((nth aO bH 0)<0)) (nxt (iP,iO,eY,iY,(bH+1))) (bnd (E7_ x0 (bH:Int) v11.1 aO) (λv89=>aN (!v89.2.2) (fin (some ((⟨([]:T_1),([]:bZ),([]:fO),([]:B_1),([]:aC)⟩:Seq),2))) (grd (bH<x0.fin.length) (aN (nth x0.fin bH false) (grd (bH<x0.tail.length) (grd (bH<v11.1.length) (grd ((nth v11.1 bH []).length<=(nth x0.tail bH []).length/\(nth x0.tail bH []).length<=(nth x0.tail bH []).length) (D7_ iP v89 iO bH x0 eY iY ((nth x0.tail bH []).drop ((nth v11.1 bH []).length)))))) (D7_ iP v89 iO bH x0 eY iY ([]:T_1)))))))) (fin (bnd (NG (⟨(x0.front++(nth v11.1 0 [])),iP,iO,eY,iY⟩:Seq)) (λOg=>aN (decide (Og≠0)) (some ((⟨([]:T_1),([]:bZ),([]:fO),([]:B_1),([]:aC)⟩:Seq),2)) (some ((⟨(x0.front++(nth v11.1 0 [])),iP,iO,eY,iY⟩:Seq),0)))))
def Qs(v35:B_1)(v11:aC×B_1)(x0:Seq)(aO:ak)(bV:Nat)(aW:Nat):Option ((ak×Nat×Nat)⊕(Seq×Int)):=
 aN (decide ((aW:Int)<((v35.length:Nat):Int))) (grd (aW<aO.length) (aN (nth v35 aW false) (grd (aW<v11.2.length) (aN (nth v11.2 aW false) (grd (aW<(aO.set aW (-1)).length) (grd (bV+1<=9223372036854775807) (nxt (((aO.set aW (-1)).set aW (bV:Int)),(bV+1),(aW+1))))) (nxt ((aO.set aW (-1)),bV,(aW+1))))) (nxt ((aO.set aW (-1)),bV,(aW+1))))) (fin (grd (0<v11.1.length) (grd (x0.front.length+(nth v11.1 0 []).length<=9223372036854775807) (bC (λq:bZ×fO×B_1×aC×Nat=>MR v11 aO x0 q.1 q.2.1 q.2.2.1 q.2.2.2.1 q.2.2.2.2) (([]:bZ),([]:fO),([]:B_1),([]:aC),0)))))
def Zz(x0:Seq):Option (Seq×Int):=
 bnd (NG x0) (λv5=>aN (decide (v5≠0)) (some ((⟨([]:T_1),([]:bZ),([]:fO),([]:B_1),([]:aC)⟩:Seq),1)) (bnd (E6_ x0) (λv11=>aN (decide (((v11.2.length:Nat):Int)=0)) (some ((⟨([]:T_1),([]:bZ),([]:fO),([]:B_1),([]:aC)⟩:Seq),0)) (grd (0<v11.2.length) (aN (!(nth v11.2 0 false)) (some ((⟨([]:T_1),([]:bZ),([]:fO),([]:B_1),([]:aC)⟩:Seq),0)) (grd (8 * v11.2.length<=281474976710656) (bnd (Ew_ x0) (λv35=>bC (λq:ak×Nat×Nat=>Qs v35 v11 x0 q.1 q.2.1 q.2.2) ((replicate v11.2.length (0:Int)),0,0)))))))))
def Io_(σ:aj)(r:Seq×Int):Value->aj->List Res->Prop:=λv σ' H'=>
 ∃a1 c1 a2 c2 a3 c3 a4 c4,v= .tuple #[.agg (oI r.1 a1 c1 a2 c2 a3 c3 a4 c4),.int .i64 r.2]/\RZ σ' (aB 1 aG bn) (.slice a1 r.1.next.length c1) r.1.next/\RZ σ' (aB 1 aJ bF) (.slice a2 r.1.outs.length c2) r.1.outs/\dA σ' eq_ a3 c3 r.1.fin/\dA σ' aJ a4 c4 r.1.tail/\H'=[]
theorem Ie_{σ:aj}{x0:Seq}(au:RZ σ (aB 1 aG bn) (.slice aI x0.next.length aH) x0.next)(aY:RZ σ (aB 1 aJ bF) (.slice aA x0.outs.length aX) x0.outs)(aV:dA σ eq_ aU ay x0.fin)(aQ:dA σ aJ bJ bD x0.tail){r:Seq×Int}(hh:Zz x0=some r):
  Con prog 35 #[.agg (oI x0 aI aH aA aX aU ay bJ bD)] σ [] (Io_ σ r):=by
 dsimp only [Zz]at hh
 have f0_0b:=au.big
 have f0_1b:=aY.big
 have f0_2b:=aV.rv.big
 have f0_3b:=aQ.rv.big
 refine Con.mk (n:=142) Tryz.func35 z z z (λw0=> ?_)
 refine ψ (ν z (boxA z z z z (λbG=> ?_)))
 refine ν z (OpOk.alloc z if_ z z (λd_=> ?_))
 refine ξ z z (ε (ζ (ψ (ω z (kG z ji fE z (i:=1) z z) ?_))))
 obtain ⟨v5,u5,hh⟩:=dM hh
 refine ν z (jF (Ej_ (x0:=x0) au aY aV aQ u5) z z JC z z z ?_)
 refine ω z (OpVal.neq z z z) (ε (TC.cD z hh (λbW hh=> ?_) (λbW hh=> ?_)))
 ·refine ψ (ω z (nD z wP if_ z) (ν z (storeAll z fE z z z z z z ?_)))
  refine ξ z z (ε (TC.rt 1 (S.r ?_)))
  obtain rfl:=so hh
  exact ro [] z (RVs.agg ji fE z (i:=0) z z (RVs.tmp z RVs.nil)) ⟨none,0,none,0,none,0,none,0,z,(RZ.nilF _ (aB 1 aG bn)),(RZ.nilF _ (aB 1 aJ bF)),(RS.nilF _ eq_ jc),(RS.nilF _ aJ bF),z⟩
 refine ι (S.n (ψ (ω z (kG z ji fE z (i:=1) z z) ?_)))
 obtain ⟨v11,u11,hh⟩:=dM hh
 refine ν z (OpOk.call (Hz_ (x0:=x0) au aY aV aQ u11) z z pf70 z z z z ?_)
 rintro _ τ106 _ xX ⟨a106_1,c106_1,a106_2,c106_2,rfl,hr106_0,hr106_1,rfl⟩
 replace au:=au.mono xX
 replace aY:=aY.mono xX
 replace aV:=aV.mono xX
 replace aQ:=aQ.mono xX
 have hr106_0b:=hr106_0.rv.big
 have hr106_1b:=hr106_1.rv.big
 refine ω z (wC (.inl z) z) (ω z (OpVal.extract z z z) (ω z (OpVal.extract z z z) (Φ z z (Φ z z (ε (ζ (ψ (Φ z z (ω z (lenC z gI z) (ω z (OpVal.eql z z z) (TL.j z z (TL.split 28 z (λdP=> ?_) (λdP=> ?_)))))))))))))
 ·replace hh:=gZ dP hh
  replace dP:=jg dP
  refine π z (π z (π z (π z (ω z (dS z z z) (ε (TC.t z (ψ (ω z (nD z wP if_ z) (ν z (storeAll z fE z z z z z z ?_))))))))))
  refine ξ z z (ε (TC.rt 1 (S.r ?_)))
  obtain rfl:=so hh
  exact ro [] z (RVs.agg ji fE z (i:=0) z z (RVs.tmp z RVs.nil)) ⟨none,0,none,0,none,0,none,0,z,(RZ.nilF _ (aB 1 aG bn)),(RZ.nilF _ (aB 1 aJ bF)),(RS.nilF _ eq_ jc),(RS.nilF _ aJ bF),z⟩
 replace hh:=gY dP hh
 replace dP:=jo dP
 refine Ψ z (gu (.inl z) z) ?_
 obtain ⟨u22,hh⟩:=aP hh
 refine Ψ z (bU (i:=0) z gI gQ z z hr106_1.rv.sl (by omega)) (Ψ z (fF false z nG z hr106_1 (by omega) z) (Ψ z (OpVal.not z z) (ω z (dV z z z) (ε (TC.cB z hh (λdU hh=> ?_) (λdU hh=> ?_))))))
 ·refine ψ (ω z (nD z wP if_ z) (ν z (storeAll z fE z z z z z z ?_)))
  refine ξ z z (ε (TC.rt 1 (S.r ?_)))
  obtain rfl:=so hh
  exact ro [] z (RVs.agg ji fE z (i:=0) z z (RVs.tmp z RVs.nil)) ⟨none,0,none,0,none,0,none,0,z,(RZ.nilF _ (aB 1 aG bn)),(RZ.nilF _ (aB 1 aJ bF)),(RS.nilF _ eq_ jc),(RS.nilF _ aJ bF),z⟩
 refine ι (S.n (ψ (Φ z z (ω z (lenC z gI z) ?_))))
 obtain ⟨u31,hh⟩:=aP hh
 refine ν z (pz (enc:=aG) (0:Int) z b_ dB uV lu z z z z (by omega) (by decide) bn (by decide) z jS (λa109 Dq=> ?_))
 refine Φ z z (ξ z z (ε (ζ (ψ (ω z (kG z ji fE z (i:=2) z z) ?_)))))
 obtain ⟨v35,u35,hh⟩:=dM hh
 refine ν z (OpOk.call (Hr_ (x0:=x0) au aY aV aQ u35) z z pf72 z z z z ?_)
 rintro _ _ _ K_ ⟨a112_1,c112_1,rfl,rfl,rfl⟩
 refine ω z (lenC z gI z) (ξ z z (ε (υ (TC.ig (α:=(ak×Nat×Nat)×(Unit)) (rgs [(7,3),(41,22)]) (λg=>[(7,.int .i64 ((g.1.2.1:Nat):Int)),(41,.int .i64 ((g.1.2.2:Nat):Int))]) (λg=>[jl bG x0 aI aH aA aX aU ay bJ bD,κ d_ #[.string (bs ([]:T_1)),bT,bT,bT,bT] 32,φ 3 1 aG (.slice a109 (replicate v11.2.length (0:Int)).length Dq) g.1.1,dW 4 eq_ a112_1 c112_1 v35]) (λg=>τ106) (λg=>bC (λq:ak×Nat×Nat=>Qs v35 v11 x0 q.1 q.2.1 q.2.2) g.1=some r/\g.1.1.length=(replicate v11.2.length (0:Int)).length) (λg=>f_ (λq:ak×Nat×Nat=>Qs v35 v11 x0 q.1 q.2.1 q.2.2) g.1) (((replicate v11.2.length (0:Int)),0,0),()) (Θ [1,2,3] 4) z (by repeat (first|exact trivial|refine ⟨z,?_⟩)) ⟨hh,z⟩ (λg1 j1 hg1=> ?_)))))
 obtain ⟨⟨aO,bV,aW⟩,_⟩:=g1
 obtain ⟨hh,gG⟩:=hg1
 try dsimp only at gG ⊢
 obtain ⟨z1,hh,hR1⟩:=gJ hh
 dsimp only [Qs]at hh
 refine χ (i:=2) z (λ_ Dn _=> ?_)
 refine χ (i:=3) z (λ_ G5 _=> ?_)
 refine ψ (ω z (OpVal.lss z z z) (ε (ζ (TC.cD z hh (λh128 hh=> ?_) (λh128 hh=> ?_)))))
 ·refine ι (S.n (ζ (υ (ψ (ξ z z (TL.isSl (i:=3) z (λJ4 _ _=> ?_)))))))
  refine ω z (bU z gI gQ z z J4 (by omega)) (ω z (og false z nG z (q:=3) z jc (by omega) z) (ξ z z (TL.j z z (ε (ψ (Φ z z (ξ z z ?_)))))))
  obtain ⟨u46,hh⟩:=aP hh
  refine TL.isSl (i:=2) z (λwX _ _=> ?_)
  refine ω z (bU z b_ dB z z wX (by omega)) (θ 2 z z ?_)
  have Ce:(aO.set aW (-1)).length=(replicate v11.2.length (0:Int)).length:=by rw [gy];exact gG
  refine ν z (lG (-1) z dB z z z z bn jS (by omega) (by omega) ?_)
  refine ε (ψ (TL.j z z (TL.j z z (TL.split 50 z (λuQ=> ?_) (λuQ=> ?_)))))
  ·replace hh:=gZ uQ hh
   refine Ψ z (gu (.inl z) z) (Ψ z (dw (.inl z) z) ?_)
   obtain ⟨Oi,hh⟩:=aP hh
   refine Ψ z (bU z gI gQ z z hr106_1.rv.sl (by omega)) (Ψ z (fF false z nG z hr106_1 (by omega) z) (ω z (dS z z z) (ε (TC.cB z hh (λLM hh=> ?_) (λLM hh=> ?_)))))
   ·refine ψ (Φ z z (ξ z z (ξ z z ?_)))
    obtain ⟨u58,hh⟩:=aP hh
    refine TL.isSl (i:=0) z (λBH _ _=> ?_)
    refine ω z (bU z b_ dB z z BH (by omega)) ?_
    have Cb:((aO.set aW (-1)).set aW (bV:Int)).length=(replicate v11.2.length (0:Int)).length:=by rw [gy];exact Ce
    refine ν z (lG (bV:Int) z dB z z z z bn jS (by omega) (by omega) ?_)
    refine ε (η (ξ z z ?_))
    obtain ⟨u61,hh⟩:=aP hh
    refine ω z (OpVal.succ z z z (by omega)) (ξ z z (TL.nil (B.n (S.n (η (ω z (OpVal.succ z z z (by omega)) (ξ z z (ε ?_))))))))
    obtain ⟨hh,xC⟩:=dO hR1 hh
    exact lf ((((aO.set aW (-1)).set aW (bV:Int)),(bV+1),(aW+1)),()) xC ⟨hh,Cb⟩ (Θ [3,1,3,3] 4)
   refine ι (B.n (S.n (η (ω z (OpVal.succ z z z (by omega)) (ξ z z (ε ?_))))))
   obtain ⟨hh,Ef⟩:=dO hR1 hh
   exact lf (((aO.set aW (-1)),bV,(aW+1)),()) Ef ⟨hh,Ce⟩ (Θ [3,1,3,3] 4)
  replace hh:=gY uQ hh
  refine π z (π z (π z (π z (ω z (dV z z z) (ε (TC.f z (ι (B.n (S.n (η (ω z (OpVal.succ z z z (by omega)) (ξ z z (ε ?_)))))))))))))
  obtain ⟨hh,rF⟩:=dO hR1 hh
  exact lf (((aO.set aW (-1)),bV,(aW+1)),()) rF ⟨hh,Ce⟩ (Θ [3,1,3,3] 4)
 refine TC.exit (S.x (S.x ?_))
 replace hh:=dG hR1 hh
 refine Δ (S.n (ζ ?_))
 obtain ⟨u68,hh⟩:=aP hh
 obtain ⟨u70,hh⟩:=aP hh
 refine TC.draw [8] (by kernel_rfl) (Ω 0 z (aS z DL z) z (TA.b 1 z (aZ z iG z (i:=0) z z) z (Ω 2 z (gu (.inl z) z) z (TA.b 3 z (bU (i:=0) z fK fU z z hr106_0.rv.sl (by omega)) z (TA.b 4 z (fF ([]:T_1) z iG z hr106_0 (by omega) z) z (Ω 5 z (P8 z z z u70) z (Ω 6 z (nD z wP if_ z) z (TA.ac 7 z (OpOk.alloc z if_ z z (λIj=>(k1 ?_)))))))))))
 refine TA.last 8 (by kernel_rfl) z z z (storeAll z fE z z z z z z ?_)
 refine TZ.done (by kernel_rfl) (S.n (ζ (ψ (Φ z z (ω z (lenC z b_ z) (ξ z z (ε (υ ?_))))))))
 rw [show Value.slice a109 ((replicate v11.2.length (0:Int)).length) Dq=Value.slice a109 aO.length Dq from by rw [gG]]
 refine TC.front 3 z z (TC.oh bn (λτ212 xP Uf=> ?_))
 replace au:=au.mono xP
 replace aY:=aY.mono xP
 replace aV:=aV.mono xP
 replace aQ:=aQ.mono xP
 replace hr106_0:=hr106_0.mono xP
 have hr210b:=Uf.rv.big
 refine TC.nilS 86 1 (aB 1 aG bn).en ?_
 have I4:=ZOk.nil τ212 (aB 1 aG bn)
 refine TC.nilS 30 1 (aB 1 aJ bF).en ?_
 have zf215:=ZOk.nil τ212 (aB 1 aJ bF)
 refine TC.nilS 4 1 eq_ (TC.nilS 9 1 aJ (TC.ig (α:=(bZ×fO×B_1×aC×Nat)×((Option Addr)×Nat×(List (ak×(aB 1 aG bn).P))×(Option Addr)×Nat×(List (aC×(aB 1 aJ bF).P))×(Option Addr)×Nat×(Option Addr)×Nat×aj)) (rgs [(3,1),(11,5),(72,65)]) (λg=>[(72,.int .i64 ((g.1.2.2.2.2:Nat):Int))]) (λg=>[jl bG x0 aI aH aA aX aU ay bJ bD,κ d_ #[.string (bs ([]:T_1)),bT,bT,bT,bT] 32,κ Ij #[.string (bs (x0.front++(nth v11.1 0 []))),.slice g.2.1 g.1.1.length g.2.2.1,.slice g.2.2.2.2.1 g.1.2.1.length g.2.2.2.2.2.1,.slice g.2.2.2.2.2.2.2.1 g.1.2.2.1.length g.2.2.2.2.2.2.2.2.1,.slice g.2.2.2.2.2.2.2.2.2.1 g.1.2.2.2.1.length g.2.2.2.2.2.2.2.2.2.2.1] 32,φ 86 1 (aB 1 aG bn).en (.slice g.2.1 g.1.1.length g.2.2.1) g.2.2.2.1,φ 30 1 (aB 1 aJ bF).en (.slice g.2.2.2.2.1 g.1.2.1.length g.2.2.2.2.2.1) g.2.2.2.2.2.2.1,φ 4 1 eq_ (.slice g.2.2.2.2.2.2.2.1 g.1.2.2.1.length g.2.2.2.2.2.2.2.2.1) g.1.2.2.1,φ 9 1 aJ (.slice g.2.2.2.2.2.2.2.2.2.1 g.1.2.2.2.1.length g.2.2.2.2.2.2.2.2.2.2.1) g.1.2.2.2.1]) (λg=>g.2.2.2.2.2.2.2.2.2.2.2) (λg=>bC (λq:bZ×fO×B_1×aC×Nat=>MR v11 aO x0 q.1 q.2.1 q.2.2.1 q.2.2.2.1 q.2.2.2.2) g.1=some r/\RS g.2.2.2.2.2.2.2.2.2.2.2 1 aG (.slice a109 aO.length Dq) aO/\ZOk g.2.2.2.2.2.2.2.2.2.2.2 (aB 1 aG bn) g.2.2.2.1 g.1.1/\ZOk g.2.2.2.2.2.2.2.2.2.2.2 (aB 1 aJ bF) g.2.2.2.2.2.2.1 g.1.2.1/\aj.le τ212 g.2.2.2.2.2.2.2.2.2.2.2) (λg=>f_ (λq:bZ×fO×B_1×aC×Nat=>MR v11 aO x0 q.1 q.2.1 q.2.2.1 q.2.2.2.1 q.2.2.2.2) g.1) ((([]:bZ),([]:fO),([]:B_1),([]:aC),0),(none,0,[],none,0,[],none,0,none,0,τ212)) (Θ [1,2,3,4,6,6] 7) z (by repeat (first|exact trivial|refine ⟨z,?_⟩)) ⟨hh,Uf,I4,zf215,(aj.le.refl _)⟩ (λg2 j2 hg2=> ?_)))
 obtain ⟨⟨iP,iO,eY,iY,bH⟩,⟨uX,uU,z193,oJ,c198,wM,a203,yj,yC,c208,τ219⟩⟩:=g2
 obtain ⟨hh,pU,iD,dF,pX⟩:=hg2
 try dsimp only at pU
 try dsimp only at iD
 try dsimp only at dF
 dsimp only at pX
 replace au:=au.mono pX
 replace aY:=aY.mono pX
 replace aV:=aV.mono pX
 replace aQ:=aQ.mono pX
 replace hr106_0:=hr106_0.mono pX
 try dsimp only
 obtain ⟨z1,hh,hR1⟩:=gJ hh
 dsimp only [MR]at hh
 have hr188b:=pU.rv.big
 have zf194b:=iD.length
 have zf200b:=dF.length
 refine χ (i:=3) z (λ_ UZ _=> ?_)
 refine χ (i:=4) z (λ_ LD _=> ?_)
 refine χ (i:=5) z (λ_ LC _=> ?_)
 refine χ (i:=6) z (λ_ UY _=> ?_)
 refine ψ (ω z (OpVal.lss z z z) (ε (ζ (TC.cD z hh (λYB hh=> ?_) (λYB hh=> ?_)))))
 ·refine ι (S.n (ζ (υ (ψ (ξ z z (ξ z z (ε (ζ (ψ (Φ z z (ξ z z ?_)))))))))))
  obtain ⟨Oh,hh⟩:=aP hh
  refine ω z (bU z b_ dB z z pU.rv.sl (by omega)) (ω z (fF (0:Int) z fJ z pU (by omega) z) (ω z (OpVal.lss z z z) (ε (TC.cD z hh (λYA hh=> ?_) (λYA hh=> ?_)))))
  ·refine TC.exit (S.x (Δ (S.n (η (ω z (OpVal.succ z z z (by omega)) (ξ z z (ε ?_)))))))
   obtain ⟨hh,D8⟩:=dO hR1 hh
   exact lf ((iP,iO,eY,iY,(bH+1)),(uX,uU,z193,oJ,c198,wM,a203,yj,yC,c208,τ219)) D8 ⟨hh,pU,iD,dF,pX⟩ (Θ [6,6,6,6,6,6,6] 7)
  refine ι (S.n (ψ (ω z (kG z ji fE z (i:=0) z z) (ξ z z (Φ z z (Φ z z ?_))))))
  obtain ⟨v89,u89,hh⟩:=dM hh
  refine ν z (OpOk.call (Hy_ (x0:=x0) au aY aV aQ hr106_0 pU u89) z z pf73 z z z z ?_)
  rintro _ τ228 _ rJ ⟨a228_1,c228_1,a228_2,c228_2,rfl,hr228_0,hr228_1,rfl⟩
  replace aV:=aV.mono rJ
  replace aQ:=aQ.mono rJ
  replace hr106_0:=hr106_0.mono rJ
  replace pU:=pU.mono rJ
  replace iD:=iD.mono rJ
  replace dF:=dF.mono rJ
  have hr228_0b:=hr228_0.rv.big
  have hr228_1b:=hr228_1.rv.big
  refine ω z (wC (.inl z) z) (ω z (OpVal.extract z z z) (ω z (OpVal.extract z z z) (ω z (OpVal.extract z z z) (Φ z z (Φ z z (TL.j z z (ε (ζ (ψ (TL.j z z (ω z (OpVal.not z z) (ε (TC.cB z hh (λh229 hh=> ?_) (λh229 hh=> ?_))))))))))))))
  ·refine ψ (ω z (nD z wP if_ z) (θ 1 z z (ν z (storeAll z fE z z z z z z ?_))))
   refine ξ z z (ε (TC.rt 1 (S.r (B.r (S.r (S.r ?_))))))
   replace hh:=dG hR1 hh
   refine B.r (S.r ?_)
   obtain rfl:=so hh
   exact ro [] z (RVs.agg ji fE z (i:=0) z z (RVs.tmp z RVs.nil)) ⟨none,0,none,0,none,0,none,0,z,(RZ.nilF _ (aB 1 aG bn)),(RZ.nilF _ (aB 1 aJ bF)),(RS.nilF _ eq_ jc),(RS.nilF _ aJ bF),z⟩
  refine ι (S.n (ψ (ω z (eu (.inr z) z) (ε (TC.cutG (α:=(T_1)×(aj)) (rgs [(15,1),(92,16)]) (λg=>[(15,.string (bs g.1))]) (λg=>[jl bG x0 aI aH aA aX aU ay bJ bD,κ d_ #[.string (bs ([]:T_1)),bT,bT,bT,bT] 32,κ Ij #[.string (bs (x0.front++(nth v11.1 0 []))),.slice uX iP.length uU,.slice oJ iO.length c198,.slice a203 eY.length yj,.slice yC iY.length c208] 32,φ 86 1 (aB 1 aG bn).en (.slice uX iP.length uU) z193,φ 30 1 (aB 1 aJ bF).en (.slice oJ iO.length c198) wM,dW 4 eq_ a203 yj eY,dW 9 aJ yC c208 iY]) (λg=>g.2) (λg=>D7_ iP v89 iO bH x0 eY iY g.1=some z1/\ZOk g.2 (aB 1 aG bn) z193 iP/\ZOk g.2 (aB 1 aJ bF) wM iO/\aj.le τ228 g.2) ?_ (λg j hg=> ?_))))))
  ·skip
   refine ψ (ω z (aS z tV z) (ω z (aZ z qV z (i:=0) z z) (ξ z z ?_)))
   obtain ⟨Om,hh⟩:=aP hh
   refine ω z (bU z gI gQ z z aV.rv.sl (by omega)) (ω z (fF false z nG z aV (by omega) z) (ε (TC.cB z hh (λh233 hh=> ?_) (λh233 hh=> ?_))))
   ·have u111:=H7 hh
    replace hh:=Hz hh
    obtain ⟨u115,hh⟩:=aP hh
    obtain ⟨u118,hh⟩:=aP hh
    exact TC.draw [] (by kernel_rfl) (Ω 0 z (aS z uh z) z (TA.b 1 z (aZ z lJ z (i:=0) z z) z (Ω 2 z (dw (.inl z) z) z (TA.b 3 z (bU z fK fU z z aQ.rv.sl (by omega)) z (TA.b 4 z (fF ([]:T_1) z iG z aQ (by omega) z) z (Ω 5 z (gu (.inl z) z) z (Ω 6 z (dw (.inl z) z) z (TA.b 7 z (bU z fK fU z z hr106_0.rv.sl (by omega)) z (TA.b 8 z (fF ([]:T_1) z iG z hr106_0 (by omega) z) z (TA.b 9 z (rY z kK z) z (TA.b 10 z (bk_ (l:=(nth x0.tail bH [])) (i:=(nth v11.1 bH []).length) z kK z z (by omega) (by omega)) z (Ω 11 z (eu (.inr z) z) z (TA.dn (S.n (cf (((nth x0.tail bH []).drop ((nth v11.1 bH []).length)),τ228) ⟨hh,iD,dF,(aj.le.refl _)⟩ (Θ [6,6,6,6,6,6,6] 7))))))))))))))))
   exact ι (S.n (cf (([]:T_1),τ228) ⟨hh,iD,dF,(aj.le.refl _)⟩ (Θ [6,6,6,6,6,6,6] 7)))
  skip
  obtain ⟨Jy,τ234⟩:=g
  obtain ⟨hh,IZ,IY,oz⟩:=hg
  try dsimp only at IZ
  try dsimp only at IY
  dsimp only at oz
  replace aV:=aV.mono oz
  replace pU:=pU.mono oz
  replace iD:=iD.mono oz
  replace dF:=dF.mono oz
  replace hr228_0:=hr228_0.mono oz
  replace hr228_1:=hr228_1.mono oz
  try dsimp only
  dsimp only [D7_]at hh
  have zf230b:=IZ.length
  have zf231b:=IY.length
  refine χ (i:=3) z (λ_ GZ _=> ?_)
  refine χ (i:=4) z (λ_ UU _=> ?_)
  refine χ (i:=5) z (λ_ UR _=> ?_)
  refine χ (i:=6) z (λ_ UQ _=> ?_)
  refine ψ (ω z (aS z kS z) (ω z (aZ z jT z (i:=2) z z) (Φ z z ?_)))
  have Rw:ZOk _ (aB 1 aG bn) ([(v89.1,(a228_1,c228_1))]:List (ak×(aB 1 aG bn).P)) [v89.1]:=ZOk.cons (hr228_0) (ZOk.nil _ _)
  refine ν z (litZ Rw z eU fZ z lq z z z (by decide) (by decide) z (by decide) z (by decide) (λa240 c241=> ?_))
  refine θ 4 z z ?_
  obtain ⟨u124,hh⟩:=aP hh
  refine ν z (MJ (k:=(aB 1 aG bn)) IZ Rw z z eU fZ mV lq z z (by decide) z z z (.inr ⟨_,0,z⟩) (by simpa using u124) (by decide) (λa244 c245 zf246=> ?_))
  refine ω z (aS z kS z) (θ 4 z z (ν z (gK z jC z z z z z ?_)))
  refine ε (ψ (ω z (aS z oQ z) (ω z (aZ z pI z (i:=0) z z) (Φ z z ?_))))
  have A8:ZOk _ (aB 1 aJ bF) ([(v89.2.1,(a228_2,c228_2))]:List (aC×(aB 1 aJ bF).P)) [v89.2.1]:=ZOk.cons (hr228_1) (ZOk.nil _ _)
  refine ν z (litZ A8 z lI mM z Hy z z z (by decide) (by decide) z (by decide) z (by decide) (λZj YS=> ?_))
  refine θ 6 z z ?_
  obtain ⟨u131,hh⟩:=aP hh
  refine ν z (MJ (k:=(aB 1 aJ bF)) IY A8 z z lI mM RP Hy z z (by decide) z z z (.inr ⟨_,0,z⟩) (by simpa using u131) (by decide) (λMN L9 nM=> ?_))
  refine ω z (aS z oQ z) (θ 2 z z (ν z (gK z RQ z z z z z ?_)))
  refine ε (ζ ?_)
  obtain ⟨u139,hh⟩:=aP hh
  obtain ⟨VL,hh⟩:=aP hh
  refine TC.draw [8,9,10] (by kernel_rfl) (Ω 0 z (aS z tV z) z (TA.b 1 z (aZ z qV z (i:=0) z z) z (Ω 2 z (aS z tV z) z (TA.b 3 z (aZ z qV z (i:=5) z z) z (Ω 4 z (dw (.inl z) z) z (TA.b 5 z (bU z gI gQ z z aV.rv.sl (by omega)) z (TA.b 6 z (fF false z nG z aV (by omega) z) z (TA.ac 7 z (OpOk.lit (enc:=eq_) [(nth x0.fin bH false)] z gI gQ AA z z z jc (by decide) (by decide) false z (by decide) z (by decide) qZ (λa259 c260=>(k1 ?_)))))))))))
  refine TA.front 8 z z (TA.last 8 (by kernel_rfl) z z z (as_ z z gI gQ G8 AA z z (by decide) z z z (.inr ⟨_,0,z⟩) (by simpa using VL) (by decide) (λMK L6=> ?_)))
  refine TZ.v 9 (by kernel_rfl) z z z (aS z tV z) z z (TZ.front 2 z z (TZ.last 10 (by kernel_rfl) z z z (gK z Js z z z z z ?_)))
  refine TZ.done (by kernel_rfl) (S.n (η (ω z (aS z uh z) (ω z (aZ z lJ z (i:=0) z z) (ω z (eu (.inl z) z) (ν z (OpOk.lit (enc:=aJ) [Jy] z fK fU sQ z z z bF (by decide) (by decide) ([]:T_1) z (by decide) z (by decide) rE (λa264 c265=> ?_))))))))
  refine θ 10 z z ?_
  obtain ⟨u149,hh⟩:=aP hh
  refine ν z (as_ z z fK fU zF sQ z z (by decide) z z z (.inr ⟨_,0,z⟩) (by simpa using u149) (by decide) (λIp Ic=> ?_))
  refine ω z (aS z uh z) (θ 2 z z (ν z (gK z mM z z z z z ?_)))
  refine TL.nil (B.n (S.n (η (ω z (OpVal.succ z z z (by omega)) (ξ z z (ε ?_))))))
  obtain ⟨hh,Xt⟩:=dO hR1 hh
  exact lf (((iP++[v89.1]),(iO++[v89.2.1]),(eY++[(nth x0.fin bH false)]),(iY++[Jy]),(bH+1)),(a244,c245,(z193++([(v89.1,(a228_1,c228_1))]:List (ak×(aB 1 aG bn).P))),MN,L9,(wM++([(v89.2.1,(a228_2,c228_2))]:List (aC×(aB 1 aJ bF).P))),MK,L6,Ip,Ic,τ234)) Xt ⟨hh,pU,zf246,nM,((pX.trans rJ).trans oz)⟩ (Θ [1,3,5,7,4,10,10] 7)
 refine TC.exit (S.x (S.x ?_))
 replace hh:=dG hR1 hh
 refine Δ (S.n (ζ (ψ (ω z (kG z ji fE z (i:=2) z z) (θ 3 z z (TL.Md iD (λτ272 Yk sZ=> ?_)))))))
 replace dF:=dF.mono Yk
 have hr270b:=sZ.big
 refine θ 3 z z (TL.Md dF (λτ275 Yj wZ=> ?_))
 replace sZ:=sZ.mono Yj
 have hr273b:=wZ.big
 refine θ 3 z z (TL.oh jc (λτ278 KY BL=> ?_))
 replace sZ:=sZ.mono KY
 replace wZ:=wZ.mono KY
 have hr276b:=BL.rv.big
 refine θ 3 z z (TL.oh bF (λτ281 EC J9=> ?_))
 replace sZ:=sZ.mono EC
 replace wZ:=wZ.mono EC
 replace BL:=BL.mono EC
 have hr279b:=J9.rv.big
 obtain ⟨Og,Oj,hh⟩:=dM hh
 refine ν z (jF (Ej_ (x0:=(⟨(x0.front++(nth v11.1 0 [])),iP,iO,eY,iY⟩:Seq)) sZ wZ BL J9 Oj) z z JC z z z ?_)
 refine ω z (OpVal.neq z z z) (ε (TC.cD z hh (λh282 hh=> ?_) (λh282 hh=> ?_)))
 ·refine ψ (ω z (nD z wP if_ z) (θ 1 z z (ν z (storeAll z fE z z z z z z ?_))))
  refine ξ z z (ε (TC.rt 1 (S.r ?_)))
  obtain rfl:=so hh
  exact ro [] z (RVs.agg ji fE z (i:=0) z z (RVs.tmp z RVs.nil)) ⟨none,0,none,0,none,0,none,0,z,(RZ.nilF _ (aB 1 aG bn)),(RZ.nilF _ (aB 1 aJ bF)),(RS.nilF _ eq_ jc),(RS.nilF _ aJ bF),z⟩
 refine ι (S.n (ψ (ω z (kG z ji fE z (i:=2) z z) (θ 1 z z (ν z (storeAll z fE z z z z z z ?_))))))
 refine ξ z z (ε (TC.rt 1 ?_))
 obtain rfl:=so hh
 exact ro [] z (RVs.agg ji fE z (i:=0) z z (RVs.tmp z RVs.nil)) ⟨uX,uU,oJ,c198,a203,yj,yC,c208,z,sZ,wZ,BL,J9,z⟩
end Go.Proofs.YtchebnpdnfhenaaGreatDoor
end

noncomputable section
namespace Go.Proofs.YtchebnpdnfhenaaGreatDoor
open Go Go.E
theorem PE {T R : Type} {step : T -> Option (T ⊕ R)} (I : T -> Prop) (μ : T -> Nat) (Q : R -> Prop) (hs : ∀ t, I t -> (∃ t', step t = some (.inl t') /\ I t' /\ μ t' < μ t) \/ ∃ r, step t = some (.inr r) /\ Q r) {t : T} (h : I t) : ∃ r, bC step t = some r /\ Q r := by
  have key: ∀(N:Nat) (t:T),I t->μ t<N-> ∃r,bC step t=some r/\Q r:=by
    intro N
    induction N with
    |zero=>intro t _ h;omega
    |succ N ih=>
      intro t hI hN
      rcases hs t hI with ⟨t',h1,h2,h3⟩|⟨r,h1,h2⟩
      · obtain ⟨r,h4,h5⟩:=ih t' h2 (by omega)
        exact ⟨r,II h1 h4,h5⟩
      exact ⟨r,zD h1,h2⟩
  exact key _ t h (Nat.lt_succ_self _)
def jk(f:Nat->Nat):Nat->Nat
  |0=>0
  |n+1=>jk f n+f n
theorem qi_{f g:Nat->Nat}: ∀{n:Nat},(∀i,i<n->f i<=g i)->jk f n<=jk g n
  |0,_=>Nat.le_refl _
  |n+1,h=>Nat.add_le_add (qi_ λi hi=>h i (by omega)) (h n (by omega))
theorem j8_(c:Nat): ∀n:Nat,jk (λ_=>c) n=n * c
  |0=>by simp [jk]
  |n+1=>by rw [jk,j8_ c n,Nat.add_mul];omega
theorem pr_{f g:Nat->Nat}: ∀{n:Nat},(∀i,i<n->g i=f i)->jk g n=jk f n
  |0,_=>rfl
  |n+1,h=>by rw [jk,jk,pr_ λi hi=>h i (by omega),h n (by omega)]
theorem jc_{f g:Nat->Nat}{s:Nat}: ∀{n:Nat},s<n->(∀i,i<n->i≠s->g i=f i)->jk g n+f s=jk f n+g s
  |0,hs,_=>by omega
  | n + 1, hs, h => by
    rw [jk,jk]
    by_cases c:s=n
    · subst c
      rw [pr_ (f:=f) λi hi=>h i (by omega) (by omega)];omega
    have:=jc_ (f:=f) (g:=g) (s:=s) (n:=n) (by omega) λi hi hne=>h i (by omega) hne
    have h2:=h n (by omega) (by omega)
    omega
theorem x3_{L:aC}(h:L≠[])(g:T_1):jf (L++[g])=jf [jf L,g]:=by
  cases L with
  |nil=>exact absurd rfl h
  |cons x L=>show Jm (L++[g]) x=_;rw [r9_];rfl
theorem w2_{L:aC}{k:Nat}(h: ∀x∈L,x.length<=k):(jf L).length<=k:=by
  cases L with
  |nil=>exact Nat.zero_le _
  |cons x L=>exact Nat.le_trans (LW (jm ..)).length_le (h x (jm ..))
theorem lb_{q:Seq}(hq:eP q=true){l:aC}{m:B_1}{s:Nat}(hs:s<q.next.length){B:Nat}(hB: ∀z,z<q.next.length->nth m z false=true->(nth l z []).length<=B){k:Nat}(hk:k<=256): ∀x∈vV q l m s k,x.length<=4096+B:=λx hx=>by
  unfold vV at hx
  rcases List.mem_append.1 hx with h|h
  · split at h
    · rw [yK]at h
      have:=(Ia hq hs).1
      rw [h];omega
    cases h
  obtain ⟨b,hb,h⟩:=List.mem_flatMap.1 h
  have hb:=List.mem_range.1 hb
  unfold Hq at h
  split at h
  · rename_i c
    rw [yK]at h
    have h1:=oG hq hs (show b<256 by omega)
    have h2:=Pv hq hs (show b<256 by omega)
    have h3:=hB (nxQ q s b).toNat (by omega) c.2
    rw [h,gB];omega
  cases h
theorem vb_ {q : Seq} (hq : eP q = true) {l : aC} {m : B_1} (hl : l.length = q.next.length) (hm : m.length = q.next.length) {s : Nat} (hs : s < q.next.length) (hB : ∀ z, z < q.next.length -> nth m z false = true -> (nth l z []).length <= 4194304) :
    Fg_ q ((s:Nat):Int) l m=some (jf (jU q l m s)):=by
  obtain ⟨q1,q2,q3,q4,q5⟩:=mW hq
  obtain ⟨r1,r2⟩:=vX hq hs
  unfold Fg_
  rw [aF (by omega),aF (by omega),aF (by omega),iW]
  obtain ⟨r,h1,h2⟩:=kT (step:=λz:T_1×Bool×Nat=>QA q ((s:Nat):Int) m l z.1 z.2.1 z.2.2) (λ(z:T_1×Bool) k=>(z.1,z.2,k)) 256 (λk z=>z.1=jf (vV q l m s k)/\z.2= !(vV q l m s k).isEmpty) (λr=>r=jf (jU q l m s))
    (by
      rintro k ⟨f,t⟩ hk ⟨e1,e2⟩
      simp only at e1 e2
      subst e1 e2
      left
      have hz:=oG hq hs hk
      have ho:=Pv hq hs hk
      refine ⟨(jf (vV q l m s (k+1)), !(vV q l m s (k+1)).isEmpty),?_,rfl,rfl⟩
      show QA q ((s:Nat):Int) m l (jf (vV q l m s k)) (!(vV q l m s k).isEmpty) k=_
      unfold QA
      rw [iW,bI (by omega),lv_]
      change aN (decide (nxQ q s k<0)) _ _=_
      unfold Hq
      by_cases c:nxQ q s k<0
      · rw [bI c,if_neg (λh=>by omega),List.append_nil];rfl
      rw [bK c,aF (by show 0<=nxQ q s k/\nxQ q s k<_;omega)]
      change aN (!(nth m (nxQ q s k).toNat false)) _ _=_
      cases d:nth m (nxQ q s k).toNat false with
      |false=>rw [uj,if_neg (λh=>by simp at h),List.append_nil];rfl
      |true=>
        have hlz:=hB _ (show (nxQ q s k).toNat<_ by omega) d
        rw [qK,if_pos ⟨by omega,rfl⟩,aF (by omega),aF (by omega),aF (by show 0<=nxQ q s k/\nxQ q s k<_;omega),aF (by show (otQ q s k).length+(nth l (nxQ q s k).toNat []).length<=_;omega)]
        change aN _ (bnd (Zx [jf (vV q l m s k),otQ q s k++nth l (nxQ q s k).toNat []]) _) (nxt (otQ q s k++nth l (nxQ q s k).toNat [],true,k+1))=_
        have hlen:=lb_ hq hs hB (k:=k) (by omega)
        cases hu:vV q l m s k with
        |nil=>rfl
        |cons x L=>
          rw [hu]at hlen
          rw [show (!(x::L).isEmpty)=true from rfl,iteO_true,pa_ (λy hy=>by
            rcases List.mem_cons.1 hy with rfl|hy
            · have:=w2_ hlen;omega
            rw [yK]at hy
            rw [hy,gB];omega),fD,x3_ (List.cons_ne_nil x L)]
          rfl)
    (by
      rintro ⟨f,t⟩ ⟨e1,e2⟩
      simp only at e1 e2
      subst e1 e2
      refine ⟨_,?_,rfl⟩
      show QA q ((s:Nat):Int) m l _ _ 256=_
      unfold QA
      rw [iW,bK (by omega)];rfl) (s0:=(nth q.tail s [],nth q.fin s false)) (by
        have ht:=(Ia hq hs).2
        unfold vV
        cases hf:nth q.fin s false with
        |true=>exact ⟨rfl,rfl⟩
        |false=>
          rcases ht with ht|ht
          · rw [hf]at ht;cases ht
          exact ⟨ht,rfl⟩)
  rw [<-h2];exact h1
structure BkQ (q:Seq) (k j:Nat) (L:bZ):Prop where
  len:L.length=q.next.length
  mem: ∀z,z<q.next.length-> ∀s:Int,s∈nth L z []↔ ∃t:Nat,s=((t:Nat):Int)/\((t<k/\ ∃b,b<256/\nxQ q t b=((z:Nat):Int))\/(t=k/\ ∃b,b<j/\nxQ q t b=((z:Nat):Int)))
  few: ∀z,z<q.next.length->(nth L z []).length<=256 * k+j
theorem BkQ.skip{q:Seq}{k j:Nat}{L:bZ}(h:BkQ q k j L)(hn:nxQ q k j<0):BkQ q k (j+1) L:=by
  refine ⟨h.len,λz hz s=> ?_,λz hz=>by have:=h.few z hz;omega⟩
  rw [h.mem z hz]
  constructor
  · rintro ⟨t,e,c|⟨c,b,hb,hx⟩⟩
    · exact ⟨t,e,.inl c⟩
    exact ⟨t,e,.inr ⟨c,b,by omega,hx⟩⟩
  rintro ⟨t,e,c|⟨c,b,hb,hx⟩⟩
  · exact ⟨t,e,.inl c⟩
  refine ⟨t,e,.inr ⟨c,b,?_,hx⟩⟩
  by_cases d:b=j
  · subst d;subst c;omega
  omega
theorem BkQ.has{q:Seq}{k j z:Nat}{L:bZ}(h:BkQ q k j L)(hz:z<q.next.length)(hn:nxQ q k j=((z:Nat):Int))(hm:((k:Nat):Int)∈nth L z []):BkQ q k (j+1) L:=by
  refine ⟨h.len,λy hy s=> ?_,λz hz=>by have:=h.few z hz;omega⟩
  constructor
  · intro hs
    obtain ⟨t,e,c|⟨c,b,hb,hx⟩⟩:=(h.mem y hy s).1 hs
    · exact ⟨t,e,.inl c⟩
    exact ⟨t,e,.inr ⟨c,b,by omega,hx⟩⟩
  rintro ⟨t,e,c|⟨c,b,hb,hx⟩⟩
  · exact (h.mem y hy s).2 ⟨t,e,.inl c⟩
  by_cases d:b=j
  · subst d;subst c
    have:y=z:=by omega
    subst this;rw [e];exact hm
  exact (h.mem y hy s).2 ⟨t,e,.inr ⟨c,b,by omega,hx⟩⟩
theorem BkQ.put {q : Seq} {k j z : Nat} {L : bZ} (h : BkQ q k j L) (hz : z < q.next.length) (hn : nxQ q k j = ((z : Nat) : Int)) : BkQ q k (j + 1) (L.set z (nth L z [] ++ [((k : Nat) : Int)])) := by
  have hl:=h.len
  refine ⟨by rw [gy];exact h.len,λy hy s=> ?_,λy hy=> ?_⟩
  · rw [jO]
    by_cases c0:z=y
    · subst c0
      rw [if_pos ⟨rfl,by omega⟩,List.mem_append,yK,h.mem z hz]
      constructor
      · rintro (⟨t,e,c|⟨c,b,hb,hx⟩⟩|e)
        · exact ⟨t,e,.inl c⟩
        · exact ⟨t,e,.inr ⟨c,b,by omega,hx⟩⟩
        exact ⟨k,e,.inr ⟨rfl,j,by omega,hn⟩⟩
      rintro ⟨t,e,c|⟨c,b,hb,hx⟩⟩
      · exact .inl ⟨t,e,.inl c⟩
      exact .inr (by rw [e,c])
    rw [if_neg (λq=>c0 q.1),h.mem y hy]
    constructor
    · rintro ⟨t,e,c|⟨c,b,hb,hx⟩⟩
      · exact ⟨t,e,.inl c⟩
      exact ⟨t,e,.inr ⟨c,b,by omega,hx⟩⟩
    rintro ⟨t,e,c|⟨c,b,hb,hx⟩⟩
    · exact ⟨t,e,.inl c⟩
    refine ⟨t,e,.inr ⟨c,b,?_,hx⟩⟩
    by_cases d:b=j
    · subst d;subst c;omega
    omega
  rw [jO]
  have h1:=h.few y hy
  by_cases c0:z=y
  · subst c0
    rw [if_pos ⟨rfl,by omega⟩,gB,kD];omega
  rw [if_neg (λq=>c0 q.1)];omega
theorem yy_{l:ak}(h:l≠[]):nth l (l.length - 1) 0∈l:=wz _ (by have:=List.length_pos_iff.2 h;omega)
theorem xo_ {q : Seq} (hq : eP q = true) {k : Nat} (hk : k < q.next.length) {L : bZ} (hL : BkQ q k 0 L) :
    ∃L',bC (λz:bZ×Nat=>NK q k z.1 z.2) (L,0)=some (.inl (L',k+1))/\BkQ q (k+1) 0 L':=by
  obtain ⟨q1,q2,q3,q4,q5⟩:=mW hq
  obtain ⟨r1,r2⟩:=vX hq hk
  obtain ⟨r,h1,L',rfl,h2⟩:=kT (step:=λz:bZ×Nat=>NK q k z.1 z.2) (λl j=>(l,j)) 256 (λj L=>BkQ q k j L) (λr=> ∃L',r= .inl (L',k+1)/\BkQ q (k+1) 0 L')
    (by
      intro j L hj hI
      left
      have hz:=oG hq hk hj
      have hlen:=hI.len
      show ∃s',NK q k L j=_/\_
      unfold NK
      have e:nth (nth q.next k []) j 0=nxQ q k j:=rfl
      rw [bI (by omega)]
      simp only [e]
      by_cases c:0<=nxQ q k j
      · have hzl:(nxQ q k j).toNat<q.next.length:=by omega
        have hg:0<=nxQ q k j/\nxQ q k j<(L.length:Int):=by omega
        have hfew:=hI.few _ hzl
        rw [bI c,aF hg]
        by_cases d:(nth L (nxQ q k j).toNat []).length=0
        · rw [bI (by omega),aF hg,aF (by simp only [kD];omega),aF hg]
          exact ⟨_,rfl,hI.put hzl (by omega)⟩
        have hw:IntKind.i64.wrap ((((nth L (nxQ q k j).toNat []).length:Nat):Int) - 1)=(((nth L (nxQ q k j).toNat []).length - 1:Nat):Int):=by
          rw [UM (by omega) (by omega)];omega
        rw [bK (by omega),aF hg,aF hg,hw,aF (by omega),iW]
        by_cases f:nth (nth L (nxQ q k j).toNat []) ((nth L (nxQ q k j).toNat []).length - 1) 0=((k:Nat):Int)
        · rw [bK (λh=>h f)]
          refine ⟨_,rfl,hI.has hzl (by omega) ?_⟩
          have:=yy_ (l:=nth L (nxQ q k j).toNat []) (λh=>d (by rw [h];rfl))
          rw [f]at this;exact this
        rw [bI f,aF hg,aF (by simp only [kD];omega),aF hg]
        exact ⟨_,rfl,hI.put hzl (by omega)⟩
      rw [bK c]
      exact ⟨_,rfl,hI.skip (by omega)⟩)
    (by
      intro L hI
      refine ⟨.inl (L,k+1),?_,L,rfl,hI.len,λz hz s=> ?_,λz hz=>by have:=hI.few z hz;omega⟩
      · show NK q k L 256=_
        unfold NK
        rw [bK (by omega)];rfl
      rw [hI.mem z hz]
      constructor
      · rintro ⟨t,e,⟨c,hx⟩|⟨c,hx⟩⟩
        · exact ⟨t,e,.inl ⟨by omega,hx⟩⟩
        exact ⟨t,e,.inl ⟨by omega,hx⟩⟩
      rintro ⟨t,e,⟨c,hx⟩|⟨c,b,hb,hx⟩⟩
      · by_cases d:t=k
        · exact ⟨t,e,.inr ⟨d,hx⟩⟩
        exact ⟨t,e,.inl ⟨by omega,hx⟩⟩
      omega) (s0:=L) hL
  exact ⟨L',h1,h2⟩
structure PshQ (m:Seq):Prop where
  lt: ∀s b,s<m.next.length->b<256->nxQ m s b<(m.next.length:Int)
  live: ∀s,s<m.next.length->VY m s
  bare: ∀s,s<m.next.length-> ∀p,ComQ m s p->p=[]
def nxC(m:Seq)(c:Nat):Int:=nxQ m (c / 256) (c % 256)
structure CanQ (m:Seq):Prop extends PshQ m where
  right:eP m=true
  first: ∀c j,c<m.next.length * 256->nxC m c=((j:Nat):Int)-> ∀k,0<k->k<j-> ∃c',c'<c/\nxC m c'=((k:Nat):Int)
  come: ∀j,0<j->j<m.next.length-> ∃c,c<j * 256/\nxC m c=((j:Nat):Int)
  apart: ∀s t,s<m.next.length->t<m.next.length->dh m s=dh m t->s=t
theorem jn_{q:Seq}{s b:Nat}(hb:b<256)(h0:0<=nxQ q s b)(w:T_1):dh q s (UInt8.ofNat b::w)=(dh q (nxQ q s b).toNat w).map λy=>otQ q s b++y:=by
  rw [dh,V7 hb,if_neg (by omega)]
theorem q9_{q:Seq}{s b:Nat}(hb:b<256)(h0:nxQ q s b<0)(w:T_1):dh q s (UInt8.ofNat b::w)=none:=by
  rw [dh,V7 hb,if_pos h0]
theorem qh_{m m':Seq}(h:PshQ m){z z':Nat}(hz:z<m.next.length){o r:T_1}(he: ∀w,(dh m z w).map (λy=>o++y)=(dh m' z' w).map λy=>(o++r)++y):r=[]:=by
  refine h.bare z hz r λw y hy=> ?_
  have:=he w
  rw [hy]at this
  cases ho:dh m' z' w with
  |none=>rw [ho]at this;cases this
  |some y'=>
    rw [ho]at this
    have this:o++y=(o++r)++y':=Option.some.inj this
    rw [qH]at this
    exact ⟨y',(List.append_cancel_left this).symm⟩
theorem LV {m m' : Seq} (h : PshQ m) (h' : PshQ m') {s t b : Nat} (hs : s < m.next.length) (ht : t < m'.next.length) (hb : b < 256) (he : dh m s = dh m' t) (h0 : 0 <= nxQ m s b) :
    0<=nxQ m' t b/\otQ m s b=otQ m' t b/\dh m (nxQ m s b).toNat=dh m' (nxQ m' t b).toNat:=by
  have hz:=h.lt _ _ hs hb
  obtain ⟨w,y,hy⟩:=h.live (nxQ m s b).toNat (by omega)
  have h1:dh m s (UInt8.ofNat b::w)=some (otQ m s b++y):=by rw [jn_ hb h0,hy];rfl
  have h0':0<=nxQ m' t b:=by
    by_cases c:0<=nxQ m' t b
    · exact c
    rw [he,q9_ hb (by omega)]at h1;cases h1
  have hz':=h'.lt _ _ ht hb
  have hall: ∀w,(dh m (nxQ m s b).toNat w).map (λy=>otQ m s b++y)=(dh m' (nxQ m' t b).toNat w).map λy=>otQ m' t b++y:=λw=>by
    rw [<-jn_ hb h0,<-jn_ hb h0',he]
  have ho:otQ m s b=otQ m' t b:=by
    have h2:=hall w
    rw [hy]at h2
    cases ho:dh m' (nxQ m' t b).toNat w with
    |none=>rw [ho]at h2;cases h2
    |some y'=>
      rw [ho]at h2
      have h3:otQ m s b++y=otQ m' t b++y':=Option.some.inj h2
      rcases List.prefix_or_prefix_of_prefix (List.prefix_append (otQ m s b) y) (h3▸List.prefix_append (otQ m' t b) y')with ⟨r,hr⟩|⟨r,hr⟩
      · have:r=[]:=qh_ h (show (nxQ m s b).toNat<_ by omega) (o:=otQ m s b) (r:=r) (m':=m') (z':=(nxQ m' t b).toNat) λw=>by rw [hr];exact hall w
        rw [<-hr,this,List.append_nil]
      have:r=[]:=qh_ h' (show (nxQ m' t b).toNat<_ by omega) (o:=otQ m' t b) (r:=r) (m':=m) (z':=(nxQ m s b).toNat) λw=>by rw [hr];exact (hall w).symm
      rw [<-hr,this,List.append_nil]
  refine ⟨h0',ho,funext λw=> ?_⟩
  have h2:=hall w
  rw [ho]at h2
  cases h3:dh m (nxQ m s b).toNat w with
  |none=>cases h4:dh m' (nxQ m' t b).toNat w with
    |none=>rfl
    |some y'=>rw [h3,h4]at h2;cases h2
  |some y=>cases h4:dh m' (nxQ m' t b).toNat w with
    |none=>rw [h3,h4]at h2;cases h2
    |some y'=>
      rw [h3,h4]at h2
      have h5:otQ m' t b++y=otQ m' t b++y':=Option.some.inj h2
      rw [List.append_cancel_left h5]
theorem least{P:Nat->Prop}{c:Nat}(h:P c): ∃d,d<=c/\P d/\ ∀e,e<d-> ¬ P e:=by
  induction c using Nat.strongRecOn with
  |ind c ih=>
    by_cases k: ∃e,e<c/\P e
    · obtain ⟨e,k1,k2⟩:=k
      obtain ⟨d,h1,h2⟩:=ih e k1 k2
      exact ⟨d,by omega,h2⟩
    exact ⟨c,Nat.le_refl _,h,λe he hp=>k ⟨e,he,hp⟩⟩
theorem sx_{m m':Seq}(h:CanQ m)(h':CanQ m')(he:dh m 0 =dh m' 0)(j:Nat):j<m.next.length->j<m'.next.length->dh m j=dh m' j:=by
  induction j using Nat.strongRecOn with
  |ind j ih=>
    intro hj hj'
    by_cases c0:j=0
    · rw [c0];exact he
    obtain ⟨c1,hc1,hx1⟩:=h.come j (by omega) hj
    obtain ⟨c,hc,hx,hl⟩:=least (P:=λc=>nxC m c=((j:Nat):Int)) hx1
    have hi:=ih (c / 256) (by omega) (by omega) (by omega)
    have h0 : 0 ≤ nxQ m (c / 256) (c % 256) := by have : nxQ m (c / 256) (c % 256) = ((j : Nat) : Int) := hx
                                                  omega
    obtain ⟨k1,k2,k3⟩:=LV h.toPshQ h'.toPshQ (by omega) (show c / 256<_ by omega) (show c % 256<256 by omega) hi h0
    have kl:=oG h'.right (show c / 256<m'.next.length by omega) (show c % 256<256 by omega)
    rw [show nxQ m (c / 256) (c % 256)=((j:Nat):Int)from hx,iW]at k3
    obtain ⟨k,hk⟩: ∃k:Nat,nxQ m' (c / 256) (c % 256)=((k:Nat):Int):=⟨(nxQ m' (c / 256) (c % 256)).toNat,by omega⟩
    rw [hk,iW]at k3
    by_cases ck:k=j
    · rw [ck]at k3;exact k3
    by_cases ck2:k<j
    · have:=ih k ck2 (by omega) (by omega)
      exact absurd (h.apart k j (by omega) hj (this.trans k3.symm)) ck
    obtain ⟨c',d1,d2⟩:=h'.first c k (by omega) hk j (by omega) (by omega)
    have hi':=ih (c' / 256) (by omega) (by omega) (by omega)
    have h0' : 0 ≤ nxQ m' (c' / 256) (c' % 256) := by have : nxQ m' (c' / 256) (c' % 256) = ((j : Nat) : Int) := d2
                                                      omega
    obtain ⟨e1,e2,e3⟩:=LV h'.toPshQ h.toPshQ (show c' / 256<_ by omega) (show c' / 256<_ by omega) (show c' % 256<256 by omega) hi'.symm h0'
    have el:=oG h.right (show c' / 256<m.next.length by omega) (show c' % 256<256 by omega)
    rw [show nxQ m' (c' / 256) (c' % 256)=((j:Nat):Int)from d2,iW]at e3
    obtain ⟨k',hk'⟩: ∃k:Nat,nxQ m (c' / 256) (c' % 256)=((k:Nat):Int):=⟨(nxQ m (c' / 256) (c' % 256)).toNat,by omega⟩
    rw [hk',iW]at e3
    by_cases cj:k'=j
    · rw [cj]at hk';exact absurd hk' (hl c' d1)
    by_cases cj2:k'<j
    · have:=ih k' cj2 (by omega) (by omega)
      exact absurd (h'.apart j k' hj' (by omega) (e3.trans this)) (by omega)
    obtain ⟨c'',f1,f2⟩:=h.first c' k' (by omega) hk' j (by omega) (by omega)
    exact absurd f2 (hl c'' (by omega))
theorem wt_{m m':Seq}(h:CanQ m)(h':CanQ m')(he:dh  m 0=dh m' 0)(h0:0<m.next.length):m'.next.length<=m.next.length:=by
  by_cases c:m'.next.length<=m.next.length
  · exact c
  obtain ⟨c1,hc,hx⟩:=h'.come m.next.length h0 (by omega)
  have hi:=sx_ h h' he (c1 / 256) (by omega) (by omega)
  have h1 : 0 ≤ nxQ m' (c1 / 256) (c1 % 256) := by have : nxQ m' (c1 / 256) (c1 % 256) = ((m.next.length : Nat) : Int) := hx
                                                   omega
  obtain ⟨e1,e2,e3⟩:=LV h'.toPshQ h.toPshQ (show c1 / 256<_ by omega) (show c1 / 256<_ by omega) (show c1 % 256<256 by omega) hi.symm h1
  have el:=oG h.right (show c1 / 256<m.next.length by omega) (show c1 % 256<256 by omega)
  rw [show nxQ m' (c1 / 256) (c1 % 256)=((m.next.length:Nat):Int)from hx,iW]at e3
  have:=sx_ h h' he (nxQ m (c1 / 256) (c1 % 256)).toNat (by omega) (by omega)
  have:=h'.apart _ _ (by omega) (by omega) (e3.trans this)
  omega
theorem LY{m:Seq}(h:m.next=[])(hf:m.fin=[]): ∀(w:T_1) (s:Nat),dh m s w=none
  |[],s=>by rw [dh,hf,if_neg (by simp [nth])]
  |b::w,s=>by
    rw [dh]
    split
    · rfl
    rw [LY h hf w];rfl
theorem Gc_{m m':Seq}(h1:m.front=m'.front)(h2:m.next=m'.next)(h3:m.outs=m'.outs)(h4:m.fin=m'.fin)(h5:m.tail=m'.tail):m=m':=by
  cases m;cases m';simp only at h1 h2 h3 h4 h5;subst h1 h2 h3 h4 h5;rfl
theorem zo_ {m m' : Seq} (h : CanQ m) (h' : CanQ m') (hf : m.front = m'.front) (he : dh m 0 = dh m' 0) : m = m' := by
  obtain ⟨q1,q2,q3,q4,q5⟩:=mW h.right
  obtain ⟨p1,p2,p3,p4,p5⟩:=mW h'.right
  have hz:m.next.length=0↔m'.next.length=0:=by
    constructor
    · intro h0
      by_cases c:m'.next.length=0
      · exact c
      obtain ⟨w,y,hy⟩:=h'.live 0 (by omega)
      rw [<-he,LY (o7 h0) (o7 (by omega))]at hy
      cases hy
    intro h0
    by_cases c:m.next.length=0
    · exact c
    obtain ⟨w,y,hy⟩:=h.live 0 (by omega)
    rw [he,LY (o7 h0) (o7 (by omega))]at hy
    cases hy
  have hl:m.next.length=m'.next.length:=by
    by_cases c:m.next.length=0
    · rw [c,hz.1 c]
    exact Nat.le_antisymm (wt_ h' h he.symm (by omega)) (wt_ h h' he (by omega))
  have hs: ∀s,s<m.next.length->dh m s=dh m' s:=λs k=>sx_ h h' he s k (by omega)
  have hnx: ∀s b,s<m.next.length->b<256->nxQ m s b=nxQ m' s b:=λs b k hb=>by
    have g1:=sh_ h.right k hb
    have g2:=sh_ h'.right (show s<m'.next.length by omega) hb
    have g3:=oG h.right k hb
    have g4:=oG h'.right (show s<m'.next.length by omega) hb
    by_cases c:0<=nxQ m s b
    · obtain ⟨e1,e2,e3⟩:=LV h.toPshQ h'.toPshQ k (by omega) hb (hs s k) c
      have:=hs _ (show (nxQ m s b).toNat<_ by omega)
      have:=h'.apart _ _ (by omega) (by omega) (this.symm.trans e3)
      omega
    by_cases c':0<=nxQ m' s b
    · obtain ⟨e1,_⟩:=LV h'.toPshQ h.toPshQ (by omega) k hb (hs s k).symm c'
      exact absurd e1 c
    omega
  have hot: ∀s b,s<m.next.length->b<256->otQ m s b=otQ m' s b:=λs b k hb=>by
    by_cases c:0<=nxQ m s b
    · exact (LV h.toPshQ h'.toPshQ k (by omega) hb (hs s k) c).2.1
    rw [Tm h.right k hb (by omega),Tm h'.right (by omega) hb (by rw [<-hnx s b k hb];omega)]
  have hend: ∀s,s<m.next.length->nth m.fin s false=nth m'.fin s false/\nth m.tail s []=nth m'.tail s []:=λs k=>by
    have e:=congrFun (hs s k) []
    rw [dh,dh]at e
    have t1:=(Ia h.right k).2
    have t2:=(Ia h'.right (show s<m'.next.length by omega)).2
    cases c1:nth m.fin s false with
    |true=>cases c2:nth m'.fin s false with
      |true=>rw [c1,c2,if_pos rfl,if_pos rfl]at e;exact ⟨rfl,Option.some.inj e⟩
      |false=>rw [c1,c2,if_pos rfl,if_neg (by decide)]at e;cases e
    |false=>cases c2:nth m'.fin s false with
      |true=>rw [c1,c2,if_pos rfl,if_neg (by decide)]at e;cases e
      |false=>
        rw [c1]at t1;rw [c2]at t2
        rcases t1 with t1|t1
        · cases t1
        rcases t2 with t2|t2
        · cases t2
        exact ⟨rfl,t1.trans t2.symm⟩
  refine Gc_ hf (DK [] hl λs k=> ?_) (DK [] (by omega) λs k=> ?_) (DK false (by omega) λs k=>(hend s (by omega)).1) (DK [] (by omega) λs k=>(hend s (by omega)).2)
  · have r1:=vX h.right k
    have r2:=vX h'.right (show s<m'.next.length by omega)
    exact DK 0 (by omega) λb hb=>hnx s b k (by omega)
  have r1:=vX h.right (show s<m.next.length by omega)
  have r2:=vX h'.right (show s<m'.next.length by omega)
  exact DK [] (by omega) λb hb=>hot s b (by omega) (by omega)
theorem Tn{α:Type}(l:List α){i:Nat}(h:i<l.length)(d:α):nth l i d=l[i]:=by
  have a:=getD_some l h d
  rw [List.getElem?_eq_getElem h]at a
  exact (Option.some.inj a).symm
theorem y9_{l:List Nat}(h: ∀i j,i<l.length->j<l.length->nth l i 0=nth l j 0->i=j):l.Nodup:=
  List.pairwise_iff_getElem.2 λi j hi hj hij e=>by
    have:=h i j hi hj (by rw [Tn l hi,Tn l hj];exact e)
    omega
structure RowK (q:Seq) (s:Nat):Prop where
  tail:(nth q.tail s []).length<=4096
  fin:nth q.fin s false=true\/nth q.tail s []=[]
  n:(nth q.next s []).length=256
  o:(nth q.outs s []).length=256
  lo: ∀b,b<256-> -1<=nxQ q s b
  hi: ∀b,b<256->nxQ q s b<(q.next.length:Int)
  le: ∀b,b<256->(otQ q s b).length<=4096
  no: ∀b,b<256->nxQ q s b= -1->otQ q s b=[]
theorem q7_{q:Seq}(h1:q.next.length<=1024)(h2:q.outs.length=q.next.length)(h3:q.fin.length=q.next.length)(h4:q.tail.length=q.next.length)(h5:q.front.length<=4096)(h6:q.next.length≠0\/q.front=[])
    (h7: ∀s,s<q.next.length->RowK q s):eP q=true:=by
  unfold eP yP
  simp only [Bool.and_eq_true,Bool.or_eq_true,jV]
  refine ⟨⟨⟨⟨⟨⟨h1,h2⟩,h3⟩,h4⟩,h5⟩,h6⟩,Nw.2 λs hs=> ?_⟩
  have k:=h7 s hs
  simp only [EH,N_,Bool.and_eq_true,Bool.or_eq_true,jV]
  refine ⟨⟨k.tail,k.fin⟩,⟨k.n,k.o⟩,Nw.2 λb hb=> ?_⟩
  simp only [FI,Bool.and_eq_true,Bool.or_eq_true,jV]
  refine ⟨⟨⟨k.lo b hb,k.hi b hb⟩,k.le b hb⟩,?_⟩
  by_cases c:nxQ q s b= -1
  · exact .inr (k.no b hb c)
  exact .inl c
theorem rightQ_row{q:Seq}(h:eP q=true){s:Nat}(hs:s<q.next.length):RowK q s:=
  ⟨(Ia h hs).1,(Ia h hs).2,(vX h hs).1,(vX h hs).2,λ_ hb=>sh_ h hs hb,λ_ hb=>oG h hs hb,λ_ hb=>Pv h hs hb,λ_ hb c=>Tm h hs hb (by omega)⟩
structure MinQ (r m:Seq) (st:List Nat):Prop where
  front:m.front=r.front
  n:m.next.length=st.length
  o:m.outs.length=st.length
  f:m.fin.length=st.length
  t:m.tail.length=st.length
  pos:0<st.length
  rng: ∀i,i<st.length->nth st i 0<r.next.length
  zero:dh r (nth st 0 0)=dh r 0
  dist: ∀i j,i<st.length->j<st.length->dh r (nth st i 0)=dh r (nth st j 0)->i=j
  len: ∀i,i<st.length->(nth m.next i []).length=256
  outs: ∀i,i<st.length->nth m.outs i []=nth r.outs (nth st i 0) []
  fin: ∀i,i<st.length->nth m.fin i false=nth r.fin (nth st i 0) false
  tail: ∀i,i<st.length->nth m.tail i []=nth r.tail (nth st i 0) []
  none: ∀i b,i<st.length->b<256->nxQ r (nth st i 0) b<0->nxQ m i b= -1
  some: ∀i b,i<st.length->b<256->0<=nxQ r (nth st i 0) b-> ∃j:Nat,j<st.length/\nxQ m i b=((j:Nat):Int)/\dh r (nth st j 0)=dh r (nxQ r (nth st i 0) b).toNat
  first: ∀c j,c<st.length * 256->nxC m c=((j:Nat):Int)-> ∀k,0<k->k<j-> ∃c',c'<c/\nxC m c'=((k:Nat):Int)
  come: ∀j,0<j->j<st.length-> ∃c,c<j * 256/\nxC m c=((j:Nat):Int)
theorem MinQ.out{r m:Seq}{st:List Nat}(h:MinQ r m st): ∀(w:T_1) (i:Nat),i<st.length->dh m i w=dh r (nth st i 0) w
  |[],i,hi=>by rw [dh,dh,h.fin i hi,h.tail i hi]
  |b::w,i,hi=>by
    have hb:b.toNat<256:=by have:=UInt8.toNat_lt b;omega
    rw [dh,dh]
    by_cases c:nxQ r (nth st i 0) b.toNat<0
    · rw [if_pos c,if_pos (by rw [h.none i _ hi hb c];decide)]
    obtain ⟨j,h1,h2,h3⟩:=h.some i _ hi hb (by omega)
    rw [if_neg c,if_neg (by omega),h2,iW,h.out w j h1,h3]
    rw [show otQ m i b.toNat=otQ r (nth st i 0) b.toNat by unfold otQ;rw [h.outs i hi]]
theorem MinQ.nodup{r m:Seq}{st:List Nat}(h:MinQ r m st):st.Nodup:=y9_ λi j hi hj e=>h.dist i j hi hj (by rw [e])
theorem MinQ.le{r m:Seq}{st:List Nat}(h:MinQ r m st):st.length<=r.next.length:=by
  have h2:=hx_ h.nodup (m:=List.range r.next.length) λx hx=>by
    obtain ⟨i,hi,rfl⟩:=List.getElem_of_mem hx
    rw [<-Tn st hi 0]
    exact List.mem_range.2 (h.rng i hi)
  rw [List.length_range]at h2;exact h2
theorem MinQ.right{r m:Seq}{st:List Nat}(h:MinQ r m st)(hr:eP r=true):eP m=true:=by
  obtain ⟨q1,q2,q3,q4,q5⟩:=mW hr
  have h0:=h.le
  have hn:=h.n
  have ho:=h.o
  have hf:=h.f
  have ht:=h.t
  have hp:=h.pos
  refine q7_ (by omega) (by omega) (by omega) (by omega) (by rw [h.front];exact q5) (.inl (by omega)) λs hs=> ?_
  have hs:s<st.length:=by omega
  have k:=rightQ_row hr (h.rng s hs)
  have eo: ∀b,otQ m s b=otQ r (nth st s 0) b:=λb=>by unfold otQ;rw [h.outs s hs]
  refine ⟨by rw [h.tail s hs];exact k.tail,by rw [h.tail s hs,h.fin s hs];exact k.fin,h.len s hs,by rw [h.outs s hs];exact k.o,λb hb=> ?_,λb hb=> ?_,λb hb=>by rw [eo];exact k.le b hb,λb hb c=> ?_⟩
  · by_cases c:nxQ r (nth st s 0) b<0
    · rw [h.none s b hs hb c];omega
    obtain ⟨j,h1,h2,h3⟩:=h.some s b hs hb (by omega)
    omega
  · by_cases c:nxQ r (nth st s 0) b<0
    · rw [h.none s b hs hb c];omega
    obtain ⟨j,h1,h2,h3⟩:=h.some s b hs hb (by omega)
    omega
  rw [eo]
  by_cases c':nxQ r (nth st s 0) b<0
  · exact Tm hr (h.rng s hs) hb c'
  obtain ⟨j,h1,h2,h3⟩:=h.some s b hs hb (by omega)
  omega
theorem MinQ.can{r m:Seq}{st:List Nat}(h:MinQ r m st)(hr:PshQ r)(hR:eP r=true):CanQ m/\dh m 0=dh r 0/\m.next.length<=r.next.length:=by
  have hn:=h.n
  have ho: ∀i,i<st.length->dh m i=dh r (nth st i 0):=λi hi=>funext λw=>h.out w i hi
  refine ⟨⟨⟨λs b hs hb=>oG (h.right hR) hs hb,λs hs=> ?_,λs hs p hp=> ?_⟩,h.right hR,λc j hc=>h.first c j (by omega),λj h1 h2=>h.come j h1 (by omega),λs t hs ht e=> ?_⟩,(ho 0 h.pos).trans h.zero,by have:=h.le;omega⟩
  · obtain ⟨w,y,hy⟩:=hr.live _ (h.rng s (by omega))
    exact ⟨w,y,by rw [ho s (by omega)];exact hy⟩
  · refine hr.bare _ (h.rng s (by omega)) p λw y hy=>hp w y ?_
    rw [ho s (by omega)];exact hy
  rw [ho s (by omega),ho t (by omega)]at e
  exact h.dist s t (by omega) (by omega) e
theorem DI{α:Type}{l:List α}{s i:Nat}{x d:α}(h:i≠s):nth (l.set s x) i d=nth l i d:=by rw [jO,if_neg (λk=>h k.1.symm)]
theorem G6{α:Type}{l:List α}{s:Nat}{x d:α}(h:s<l.length):nth (l.set s x) s d=x:=by rw [jO,if_pos ⟨rfl,h⟩]
structure WtQ (n:Nat) (w:ak) (ws:B_1):Prop where
  nd:w.Nodup
  rng: ∀z∈w,0<=z/\z<(n:Int)
  ln:ws.length=n
  wm: ∀s,s<n->(nth ws s false=true↔((s:Nat):Int)∈w)
theorem WtQ.len{n:Nat}{w:ak}{ws:B_1}(h:WtQ n w ws):w.length<=n:=by
  have h2:=hx_ h.nd (m:=(List.range n).map λi:Nat=>((i:Nat):Int)) λz hz=>by
    have:=h.rng z hz
    exact List.mem_map.2 ⟨z.toNat,List.mem_range.2 (by omega),by omega⟩
  rw [List.length_map,List.length_range]at h2;exact h2
theorem WtQ.push{n:Nat}{w:ak}{ws:B_1}(h:WtQ n w ws){s:Nat}(hs:s<n)(hn:nth ws s false=false):WtQ n (w++[((s:Nat):Int)]) (ws.set s true):=by
  have hl:=h.ln
  have hnm:((s:Nat):Int)∉w:=λhm=>by
    have:=(h.wm s hs).2 hm
    rw [hn]at this;cases this
  refine ⟨?_,λz hz=> ?_,by rw [gy];exact hl,λz hz=> ?_⟩
  · rw [List.nodup_append]
    refine ⟨h.nd,List.pairwise_singleton _ _,λa ha b hb e=> ?_⟩
    rw [yK]at hb
    rw [e,hb]at ha;exact hnm ha
  · rcases List.mem_append.1 hz with hz|hz
    · exact h.rng z hz
    rw [yK]at hz;omega
  rw [jO,List.mem_append,yK]
  by_cases c:s=z
  · subst c
    rw [if_pos ⟨rfl,by omega⟩];simp
  rw [if_neg (λq=>c q.1),h.wm z hz]
  constructor
  · exact .inl
  rintro (k|k)
  · exact k
  omega
theorem WtQ.pop{n:Nat}{s:Nat}{w:ak}{ws:B_1}(h:WtQ n (((s:Nat):Int)::w) ws):WtQ n w (ws.set s false):=by
  have hs:=(h.rng _ (jm ..)).2
  have hl:=h.ln
  have hnd:=List.nodup_cons.1 h.nd
  refine ⟨hnd.2,λz hz=>h.rng z (pF _ hz),by rw [gy];exact hl,λz hz=> ?_⟩
  rw [jO]
  by_cases c:s=z
  · subst c
    rw [if_pos ⟨rfl,by omega⟩]
    exact ⟨λq=>(by cases q),λq=>absurd q hnd.1⟩
  rw [if_neg (λq=>c q.1),h.wm z hz,List.mem_cons]
  constructor
  · rintro (k|k)
    · omega
    exact k
  exact .inr
def Bj(m:B_1)(i:Nat):Nat:=if nth m i false=true then 1 else 0
theorem cntM_le(m:B_1)(n:Nat):jk (Bj m) n<=n:=by
  have:=qi_ (f:=Bj m) (g:=λ_=>1) (n:=n) λi _=>by unfold Bj;split<;>omega
  rw [j8_]at this;omega
structure FrB (q:Seq) (l:aC) (m:B_1):Prop where
  fr:FrI q l m
  dn:v9_ q l m
  len: ∀s,s<q.next.length->nth m s false=true->(nth l s []).length<=4096 * jk (Bj m) q.next.length
theorem FrB.le{q:Seq}(hq:eP q=true){l:aC}{m:B_1}(h:FrB q l m): ∀s,s<q.next.length->nth m s false=true->(nth l s []).length<=4194304:=λs hs hm=>by
  have h1:=h.len s hs hm
  have h2:=cntM_le m q.next.length
  have h3:=(mW hq).1
  omega
theorem FrB.put{q:Seq}(hq:eP q=true){l:aC}{m:B_1}(h:FrB q l m){s:Nat}(hs:s<q.next.length)(hn:jU q l m s≠[]):FrB q (l.set s (jf (jU q l m s))) (m.set s true):=by
  have hl:=h.fr.ln
  have hm:=h.fr.mn
  have hcnt:jk (Bj (m.set s true)) q.next.length+Bj m s=jk (Bj m) q.next.length+1:=by
    have:=jc_ (f:=Bj m) (g:=Bj (m.set s true)) (s:=s) (n:=q.next.length) hs λi hi hne=>by
      unfold Bj;rw [DI hne]
    have e:Bj (m.set s true) s=1:=by unfold Bj;rw [G6 (by omega)];rfl
    omega
  have hc1:Bj m s<=1:=by unfold Bj;split<;>omega
  refine ⟨h.fr.put hq hs hn,h.dn.put hq hs hl hm hn,λz hz hz2=> ?_⟩
  rw [jO]at hz2 ⊢
  by_cases c:s=z
  · subst c
    rw [if_pos ⟨rfl,by omega⟩]
    cases hms:nth m s false with
    |true=>
      have k1:=(h.dn s hs hms).2.length_le
      have k2:=h.len s hs hms
      omega
    |false=>
      have e0:Bj m s=0:=by unfold Bj;rw [hms];rfl
      have:=w2_ (L:=jU q l m s) (k:=4096+4096 * jk (Bj m) q.next.length) (lb_ hq hs (λz hz hz2=>h.len z hz hz2) (Nat.le_refl _))
      omega
  rw [if_neg (λk=>c k.1)]at hz2 ⊢
  have:=h.len z hz hz2
  omega
def zf(l:aC)(m:B_1)(i:Nat):Nat:=if nth m i false=true then (nth l i []).length else 4200000
theorem FrB.mea{q:Seq}(hq:eP q=true){l:aC}{m:B_1}(h:FrB q l m){s:Nat}(hs:s<q.next.length)(hc:nth m s false=true->jf (jU q l m s)≠nth l s []):
    jk (zf (l.set s (jf (jU q l m s))) (m.set s true)) q.next.length<jk (zf l m) q.next.length:=by
  have hl:=h.fr.ln
  have hm:=h.fr.mn
  have h1:=jc_ (f:=zf l m) (g:=zf (l.set s (jf (jU q l m s))) (m.set s true)) (s:=s) hs λi hi hne=>by
    unfold zf;rw [DI hne,DI hne]
  have e:zf (l.set s (jf (jU q l m s))) (m.set s true) s=(jf (jU q l m s)).length:=by
    unfold zf;rw [G6 (by omega),G6 (by omega),if_pos rfl]
  have e2:(jf (jU q l m s)).length<zf l m s:=by
    unfold zf
    cases hms:nth m s false with
    |true=>
      rw [if_pos rfl]
      have k1:=(h.dn s hs hms).2
      refine Nat.lt_of_le_of_ne k1.length_le λk2=>hc hms (k1.eq_of_length k2)
    |false=>
      rw [if_neg (by decide)]
      have:=w2_ (L:=jU q l m s) (k:=4096+4194304) (lb_ hq hs (h.le hq) (Nat.le_refl _))
      omega
  omega
structure WkQ (q:Seq) (l:aC) (m:B_1) (w:ak) (ws:B_1):Prop extends FrB q l m where
  wt:WtQ q.next.length w ws
  ne: ∀z∈w,jU q l m z.toNat≠[]
  done: ∀s,s<q.next.length->((s:Nat):Int)∉w->Np q l m s
theorem yr_{q:Seq}{l l':aC}{m m':B_1}{s z:Nat}(h: ∀b,b<256->nxQ q z b≠((s:Nat):Int))(hl: ∀i,i≠s->nth l' i []=nth l i [])(hm: ∀i,i≠s->nth m' i false=nth m i false):jU q l' m' z=jU q l m z:=by
  unfold jU vV
  congr 1
  have key: ∀b∈List.range 256,Hq q l' m' z b=Hq q l m z b:=λb hb=>by
    have hb:=List.mem_range.1 hb
    unfold Hq
    by_cases c:0<=nxQ q z b
    · have hne:(nxQ q z b).toNat≠s:=λe=>h b hb (by omega)
      rw [hl _ hne,hm _ hne]
    rw [if_neg (λk=>c k.1),if_neg (λk=>c k.1)]
  rw [List.flatMap_def,List.flatMap_def,List.map_congr_left key]
theorem WkQ.put {q : Seq} (hq : eP q = true) {L : bZ} (hL : BkQ q q.next.length 0 L) {l : aC} {m : B_1} {s : Nat} {w w' : ak} {ws ws' : B_1} (h : WkQ q l m (((s : Nat) : Int) :: w) ws)
    (hw:WtQ q.next.length w' ws') (h1: ∀z∈w,z∈w') (h2: ∀z∈nth L s [],z∈w') (h3: ∀z∈w',z∈w\/z∈nth L s []):WkQ q (l.set s (jf (jU q l m s))) (m.set s true) w' ws':=by
  have hs:=(h.wt.rng _ (jm ..)).2
  have hs:s<q.next.length:=by omega
  have hn:=h.ne _ (jm ..)
  rw [iW]at hn
  have hl:=h.fr.ln
  have hm:=h.fr.mn
  have hle:=z8_ h.dn hs hl hm
  have hcov: ∀z,z<q.next.length-> ∀b,b<256->nxQ q z b=((s:Nat):Int)->((z:Nat):Int)∈nth L s []:=λz hz b hb hx=>(hL.mem s hs _).2 ⟨z,rfl,.inl ⟨hz,b,hb,hx⟩⟩
  refine ⟨h.toFrB.put hq hs hn,hw,λz hz=> ?_,λz hz hz2=> ?_⟩
  · have hzr:=hw.rng z hz
    rcases h3 z hz with hz|hz
    · obtain ⟨x,hx⟩:=List.exists_mem_of_ne_nil _ (h.ne z (pF _ hz))
      obtain ⟨x',hx',_⟩:=hle.all hq (show z.toNat<_ by omega) x hx
      exact List.ne_nil_of_mem hx'
    obtain ⟨t,rfl,⟨c,b,hb,hx⟩|⟨_,b,hb,_⟩⟩:=(hL.mem s hs _).1 hz
    · rw [iW]
      have hmem:otQ q t b++nth (l.set s (jf (jU q l m s))) (nxQ q t b).toNat []∈jU q (l.set s (jf (jU q l m s))) (m.set s true) t:=Tj.2 (.inr ⟨b,hb,by omega,by
        rw [hx,iW,jO,if_pos ⟨rfl,by omega⟩],rfl⟩)
      exact List.ne_nil_of_mem hmem
    omega
  have hno: ∀b,b<256->nxQ q z b≠((s:Nat):Int):=λb hb hx=>hz2 (h2 _ (hcov z hz b hb hx))
  have hsame:=yr_ (l:=l) (l':=l.set s (jf (jU q l m s))) (m:=m) (m':=m.set s true) hno (λi hi=>by rw [jO,if_neg (λk=>hi k.1.symm)]) (λi hi=>by rw [jO,if_neg (λk=>hi k.1.symm)])
  unfold Np
  rw [hsame,jO,jO]
  by_cases c:s=z
  · subst c
    rw [if_pos ⟨rfl,by omega⟩,if_pos ⟨rfl,by omega⟩]
    exact ⟨λ_=>rfl,λk=>by cases k⟩
  rw [if_neg (λk=>c k.1),if_neg (λk=>c k.1)]
  refine h.done z hz λhm2=> ?_
  rcases List.mem_cons.1 hm2 with e|e
  · omega
  exact hz2 (h1 _ e)
theorem WkQ.drop{q:Seq}{l:aC}{m:B_1}{s:Nat}{w:ak}{ws:B_1}(h:WkQ q l m (((s:Nat):Int)::w) ws)(h1:nth m s false=true)(h2:jf (jU q l m s)=nth l s []):WkQ q l m w (ws.set s false):=by
  refine ⟨h.toFrB,h.wt.pop,λz hz=>h.ne z (pF _ hz),λz hz hz2=> ?_⟩
  by_cases c:z=s
  · subst c
    exact ⟨λ_=>h2.symm,λk=>by rw [h1]at k;cases k⟩
  refine h.done z hz λhm=> ?_
  rcases List.mem_cons.1 hm with e|e
  · omega
  exact hz2 e
theorem fr_in {q : Seq} {L : bZ} (hL : BkQ q q.next.length 0 L) (hn : q.next.length <= 1024) {l : aC} {m : B_1} {s : Nat} (hs : s < q.next.length) {w : ak} {ws : B_1} (hw : WtQ q.next.length w ws) (f : T_1) (z0 : ak) (hz0 : (nth z0 0 0).toNat = s) :
    ∃w' ws',bC (λz:ak×B_1×Nat=>NJ L z0 l f m z.1 z.2.1 z.2.2) (w,ws,0)=some (.inl (l.set s f,m.set s true,w',ws'))/\WtQ q.next.length w' ws'/\(∀z∈w,z∈w')/\(∀z∈nth L s [],z∈w')/\ ∀z∈w',z∈w\/z∈nth L s []:=by
  obtain ⟨r,h1,w',ws',rfl,h2⟩:=kT (step:=λz:ak×B_1×Nat=>NJ L z0 l f m z.1 z.2.1 z.2.2) (λ(z:ak×B_1) k=>(z.1,z.2,k)) (nth L s []).length
    (λk z=>WtQ q.next.length z.1 z.2/\(∀y∈w,y∈z.1)/\(∀j,j<k->nth (nth L s []) j 0∈z.1)/\ ∀y∈z.1,y∈w\/y∈nth L s [])
    (λr=> ∃w' ws',r= .inl (l.set s f,m.set s true,w',ws')/\WtQ q.next.length w' ws'/\(∀z∈w,z∈w')/\(∀z∈nth L s [],z∈w')/\ ∀z∈w',z∈w\/z∈nth L s [])
    (by
      rintro k ⟨v,vs⟩ hk ⟨k1,k2,k3,k4⟩
      simp only at k1 k2 k3 k4
      left
      have hmem:=wz (0:Int) hk
      obtain ⟨t,e,⟨c,_⟩|⟨_,b,hb,_⟩⟩:=(hL.mem s hs _).1 hmem
      rotate_left
      · omega
      have hvl:=k1.len
      have hln:=k1.ln
      have hfew:=hL.few s hs
      show ∃s':ak×B_1,NJ L z0 l f m v vs k=some (.inl (s'.1,s'.2,k+1))/\_
      unfold NJ
      rw [hz0,bI (by omega),aF (by omega),e,iW]
      cases d:nth vs t false with
      |true=>
        rw [qK,aF (by omega)]
        refine ⟨(v,vs),rfl,k1,k2,λj hj=> ?_,k4⟩
        by_cases cj:j<k
        · exact k3 j cj
        have:j=k:=by omega
        subst this
        show nth (nth L s []) j 0∈v
        rw [e];exact (k1.wm t c).1 d
      |false=>
        rw [uj,aF (by simp only [kD];omega),aF (by omega),aF (by omega)]
        refine ⟨(v++[((t:Nat):Int)],vs.set t true),rfl,k1.push c d,λy hy=>List.mem_append_left _ (k2 y hy),λj hj=> ?_,λy hy=> ?_⟩
        · by_cases cj:j<k
          · exact List.mem_append_left _ (k3 j cj)
          have:j=k:=by omega
          subst this
          show nth (nth L s []) j 0∈v++_
          rw [e];exact List.mem_append_right _ (List.mem_singleton.2 rfl)
        rcases List.mem_append.1 hy with hy|hy
        · exact k4 y hy
        rw [yK]at hy
        rw [hy,<-e];exact .inr hmem)
    (by
      rintro ⟨v,vs⟩ ⟨k1,k2,k3,k4⟩
      simp only at k1 k2 k3 k4
      refine ⟨.inl (l.set s f,m.set s true,v,vs),?_,v,vs,rfl,k1,k2,λz hz=> ?_,k4⟩
      · show NJ L z0 l f m v vs (nth L s []).length=_
        unfold NJ
        rw [hz0,bK (by omega)];rfl
      obtain ⟨j,hj,rfl⟩:=List.getElem_of_mem hz
      have:=k3 j hj
      rwa [Tn _ hj]at this) (s0:=(w,ws)) ⟨hw,λy hy=>hy,λj hj=>by omega,λy hy=> .inl hy⟩
  exact ⟨w',ws',h1,h2⟩
theorem fr_run {q : Seq} (hq : eP q = true) {L : bZ} (hL : BkQ q q.next.length 0 L) {l : aC} {m : B_1} {w : ak} {ws : B_1} (h : WkQ q l m w ws) :
    ∃r,bC (λz:aC×B_1×ak×B_1=>QF q L z.1 z.2.1 z.2.2.1 z.2.2.2) (l,m,w,ws)=some r/\FrOk q r.1 r.2:=by
  refine PE (step:=λz:aC×B_1×ak×B_1=>QF q L z.1 z.2.1 z.2.2.1 z.2.2.2) (λz=>WkQ q z.1 z.2.1 z.2.2.1 z.2.2.2) (λz=>jk (zf z.1 z.2.1) q.next.length * (q.next.length+1)+z.2.2.1.length) (λr=>FrOk q r.1 r.2) ?_ h
  rintro ⟨l,m,w,ws⟩ hI
  simp only at hI
  have hn:=(mW hq).1
  show (∃t',QF q L l m w ws=some (.inl t')/\WkQ q t'.1 t'.2.1 t'.2.2.1 t'.2.2.2/\jk (zf t'.1 t'.2.1) q.next.length * (q.next.length+1)+t'.2.2.1.length<jk (zf l m) q.next.length * (q.next.length+1)+w.length)\/ ∃r,QF q L l m w ws=some (.inr r)/\FrOk q r.1 r.2
  unfold QF
  cases w with
  |nil=>
    right
    rw [bK (by simp)]
    exact ⟨_,rfl,hI.fr.ok hq (hI.le hq) λs hs=>hI.done s hs (by simp)⟩
  |cons z w=>
    left
    have hz:=hI.wt.rng z (jm ..)
    obtain ⟨s,rfl⟩: ∃s:Nat,z=((s:Nat):Int):=⟨z.toNat,by omega⟩
    have hs:s<q.next.length:=by omega
    have hws:=hI.wt.ln
    have hml:=hI.fr.mn
    have hll:=hI.fr.ln
    have hLl:=hL.len
    have hfr:=vb_ hq hll hml hs (hI.le hq)
    have e0:nth (((s:Nat):Int)::w) 0 0=((s:Nat):Int):=rfl
    have e1:(((s:Nat):Int)::w).drop 1=w:=rfl
    rw [bI (by simp only [List.length_cons];omega),aF (by simp)]
    simp only [e0,e1]
    rw [aF (by omega),hfr,fD,aF (by omega),iW]
    have hgo:(nth m s false=true->jf (jU q l m s)≠nth l s [])-> ∃t',Dh_ (((s:Nat):Int)::w) l m L (jf (jU q l m s)) ws=some (.inl t')/\WkQ q t'.1 t'.2.1 t'.2.2.1 t'.2.2.2/\jk (zf t'.1 t'.2.1) q.next.length * (q.next.length+1)+t'.2.2.1.length<jk (zf l m) q.next.length * (q.next.length+1)+(((s:Nat):Int)::w).length:=by
      intro hc
      unfold Dh_
      simp only [e0,e1]
      rw [aF (by omega),aF (by omega),aF (by omega),iW]
      obtain ⟨w',ws',k1,k2,k3,k4,k5⟩:=fr_in hL hn (l:=l) (m:=m) hs hI.wt.pop (jf (jU q l m s)) (((s:Nat):Int)::w) (by rw [e0,iW])
      refine ⟨_,k1,hI.put hq hL k2 k3 k4 k5,?_⟩
      have h1:=hI.mea hq hs hc
      have h2:=k2.len
      show jk (zf (l.set s (jf (jU q l m s))) (m.set s true)) q.next.length * (q.next.length+1)+w'.length<_
      have h3:=Nat.mul_le_mul_right (q.next.length+1) (Nat.succ_le_of_lt h1)
      rw [Nat.succ_mul]at h3
      omega
    cases hm:nth m s false with
    |true=>
      rw [iteO_true,aF (by omega)]
      by_cases c:jf (jU q l m s)=nth l s []
      · rw [bI c]
        refine ⟨_,rfl,hI.drop hm c,?_⟩
        simp only [List.length_cons];omega
      rw [bK c];exact hgo λ_=>c
    |false=>
      rw [iteO_false];exact hgo λk=>by rw [hm]at k;cases k
theorem fr_ends {q : Seq} (hq : eP q = true) {L : bZ} (hL : BkQ q q.next.length 0 L) : ∃ r, D9_ q L = some r /\ FrOk q r.1 r.2 := by
  obtain ⟨q1,q2,q3,q4,q5⟩:=mW hq
  unfold D9_
  refine kT (step:=λz:ak×B_1×Nat=>QH q L z.1 z.2.1 z.2.2) (λ(z:ak×B_1) k=>(z.1,z.2,k)) q.fin.length (λk z=>WtQ q.next.length z.1 z.2/\ ∀s:Nat,((s:Nat):Int)∈z.1↔s<k/\nth q.fin s false=true) (λr=>FrOk q r.1 r.2) ?_ ?_ (s0:=([],List.replicate q.next.length false)) ⟨⟨List.nodup_nil,by simp,by simp,λs hs=>by rw [AV];simp⟩,by simp⟩
  · rintro k ⟨v,vs⟩ hk ⟨k1,k2⟩
    simp only at k1 k2
    left
    have hln:=k1.ln
    have hvl:=k1.len
    show ∃s':ak×B_1,QH q L v vs k=some (.inl (s'.1,s'.2,k+1))/\_
    unfold QH
    rw [bI (by omega)]
    cases hf:nth q.fin k false with
    |true=>
      rw [iteO_true,aF (by simp only [kD];omega),aF (by omega)]
      have hnk:nth vs k false=false:=by
        cases c:nth vs k false with
        |false=>rfl
        |true=>have:=(k2 k).1 ((k1.wm k (by omega)).1 c);omega
      refine ⟨(v++[((k:Nat):Int)],vs.set k true),rfl,k1.push (by omega) hnk,λs=> ?_⟩
      show ((s:Nat):Int)∈v++_↔_
      rw [List.mem_append,yK,k2]
      constructor
      · rintro (⟨c,d⟩|c)
        · exact ⟨by omega,d⟩
        have:s=k:=by omega
        subst this;exact ⟨by omega,hf⟩
      rintro ⟨c,d⟩
      by_cases e:s=k
      · subst e;exact .inr rfl
      exact .inl ⟨by omega,d⟩
    |false=>
      rw [iteO_false]
      refine ⟨(v,vs),rfl,k1,λs=> ?_⟩
      rw [k2]
      constructor
      · rintro ⟨c,d⟩;exact ⟨by omega,d⟩
      rintro ⟨c,d⟩
      refine ⟨?_,d⟩
      by_cases e:s=k
      · subst e;rw [hf]at d;cases d
      omega
  rintro ⟨v,vs⟩ ⟨k1,k2⟩
  simp only at k1 k2
  have hmf: ∀s,nth (List.replicate q.next.length false) s false=false:=λs=>AV _ _ _
  have hall: ∀s,jU q (List.replicate q.next.length []) (List.replicate q.next.length false) s=if nth q.fin s false=true then [nth q.tail s []] else []:=λs=>by
    unfold jU vV
    have:(List.range 256).flatMap (Hq q (List.replicate q.next.length []) (List.replicate q.next.length false) s)=[]:=List.flatMap_eq_nil_iff.2 λb _=>by
      unfold Hq
      rw [if_neg (λk=>by rw [hmf]at k;cases k.2)]
    rw [this,List.append_nil]
  have hI:WkQ q (List.replicate q.next.length []) (List.replicate q.next.length false) v vs:=
    ⟨⟨⟨by simp,by simp,λs _ _=>AV _ _ _,λs _ k=>(by rw [hmf]at k;cases k),λs _ k=>(by rw [hmf]at k;cases k)⟩,λs _ k=>(by rw [hmf]at k;cases k),λs _ k=>(by rw [hmf]at k;cases k)⟩,k1,λz hz=>(by
        have hzr:=k1.rng z hz
        have:=(k2 z.toNat).1 (by rw [show ((z.toNat:Nat):Int)=z by omega];exact hz)
        rw [hall,if_pos this.2];simp),λs hs hn=>⟨λk=>(by rw [hmf]at k;cases k),λ_=>(by
        rw [hall,if_neg]
        exact λhf=>hn ((k2 s).2 ⟨by omega,hf⟩))⟩⟩
  obtain ⟨r,h1,h2⟩:=fr_run hq hL hI
  refine ⟨r,?_,h2⟩
  show QH q L v vs q.fin.length=_
  unfold QH
  rw [bK (by omega),h1];rfl
theorem wc_{q:Seq}(hq:eP q=true): ∃r,E6_ q=some r/\FrOk q r.1 r.2:=by
  obtain ⟨q1,q2,q3,q4,q5⟩:=mW hq
  unfold E6_
  rw [aF (by omega)]
  refine kT (step:=λz:bZ×Nat=>QG q z.1 z.2) (λL k=>(L,k)) q.next.length (λk L=>BkQ q k 0 L) (λr=>FrOk q r.1 r.2) ?_ ?_ (s0:=List.replicate q.next.length []) ⟨by simp,λz hz s=>by
      rw [AV]
      constructor
      · intro k;cases k
      rintro ⟨t,_,⟨c,_⟩|⟨_,b,hb,_⟩⟩<;>omega,λz hz=>by rw [AV];simp⟩
  · intro k L hk hI
    left
    show ∃s',QG q L k=_/\_
    unfold QG
    rw [bI (by omega)]
    obtain ⟨L',h1,h2⟩:=xo_ hq hk hI
    exact ⟨L',h1,h2⟩
  intro L hI
  obtain ⟨r,h1,h2⟩:=fr_ends hq hI
  refine ⟨r,?_,h2⟩
  show QG q L q.next.length=_
  unfold QG E2_
  rw [bK (by omega),aF (by omega),aF (by omega),aF (by omega),h1];rfl
section
variable {α:Type} [DecidableEq α] (d:α)
def ddN(l:List α):Nat->List α
  |0=>[]
  |n+1=>ddN l n++(if n=0\/nth l n d≠nth l (n - 1) d then [nth l n d] else [])
theorem s7_(l:List α): ∀n,n<=l.length-> ∀x,x∈ddN d l n↔x∈l.take n
  |0,_,x=>by simp [ddN]
  | n + 1, h, x => by
    rw [ddN,yH l (by omega) d,List.mem_append,List.mem_append,s7_ l n (by omega)]
    by_cases hc:n=0\/nth l n d≠nth l (n - 1) d
    · rw [if_pos hc]
    rw [if_neg hc]
    simp only [not_or,ne_eq,Decidable.not_not]at hc
    have:nth l n d∈l.take n:=by
      rw [hc.2]
      have h1:(l.take n)[n - 1]? =some (nth l (n - 1) d):=by rw [List.getElem?_take,if_pos (by omega)];exact getD_some l (by omega) d
      exact List.mem_of_getElem? h1
    constructor
    · rintro (h|h)
      · exact .inl h
      cases h
    rintro (h|h)
    · exact .inl h
    rw [List.mem_singleton.1 h];exact .inl this
theorem u4_{l:List α}{k i:Nat}{v:α}(h:i≠k):nth (l.set k v) i d=nth l i d:=by
  simp [nth,List.getD,List.getElem?_set,Ne.symm h]
include d in
theorem qt_{l:List α}{k:Nat}{v:α}(h:k<l.length):(l.set k v).take (k+1)=l.take k++[v]:=by
  rw [yH (l.set k v) (by simpa using h) d]
  congr 1
  · rw [List.take_set_of_le (Nat.le_refl _)]
  simp [nth,List.getD,h]
def gC_j(aW:Nat)(zT:List α)(fH:Nat):Option ((List α×Nat×Nat)⊕(Nat⊕List α)):=
  nxt (zT,fH,(aW+1))
def vw_(x0:List α)(bQ:Nat)(aO:List α)(bV:Nat)(aW:Nat):Option ((List α×Nat×Nat)⊕(Nat⊕List α)):=
  aN (decide (((aW:Nat):Int)<(((x0.length - bQ):Nat):Int))) (grd (aW<(x0.length - bQ)) (grd (0<=(IntKind.i64.wrap (((aW:Nat):Int) - 1))/\(IntKind.i64.wrap (((aW:Nat):Int) - 1))<((x0.length - bQ):Nat)) (aN (decide (¬ ((nth aO (bQ+aW) d)=(nth aO (bQ+(IntKind.i64.wrap (((aW:Nat):Int) - 1)).toNat) d)))) (grd (aW<(x0.length - bQ)) (grd (bV<aO.length) (gC_j aW (aO.set bV (nth aO (bQ+aW) d)) (bV+1)))) (gC_j aW aO bV)))) (fin (grd (bV<=x0.length) (grd (bV<=(aO.take bV++List.replicate (aO.length - bV) d).length) (fin (some ((aO.take bV++List.replicate (aO.length - bV) d).take bV))))))
def yi_(x0:List α)(bQ:Nat):Option ((Nat)⊕(List α)):=
  aN (decide (((bQ:Nat):Int)<((x0.length:Nat):Int))) (grd (0<=(IntKind.i64.wrap (((bQ:Nat):Int) - 1))/\(IntKind.i64.wrap (((bQ:Nat):Int) - 1))<(x0.length:Int)) (aN (decide ((nth x0 bQ d)=(nth x0 ((IntKind.i64.wrap (((bQ:Nat):Int) - 1)).toNat) d))) (grd (bQ<=x0.length) (bC (λq:(List α)×Nat×Nat=>vw_ d x0 bQ q.1 q.2.1 q.2.2) (x0,bQ,1))) (nxt (bQ+1)))) (fin (some x0))
def gC(x0:List α):Option (List α):=
  aN (decide (((x0.length:Nat):Int)<2)) (some x0) (bC (λq:Nat=>yi_ d x0 q) 1)
theorem rq_{k:Nat}(h1:1<=k)(h2:k<=281474976710656):IntKind.i64.wrap ((k:Int) - 1)=((k - 1:Nat):Int):=by
  rw [UM (by omega) (by omega)];omega
theorem gC_in {l : List α} (hl : l.length <= 281474976710656) {k0 : Nat} (h0 : 1 <= k0) (hk : k0 < l.length) (he : nth l k0 d = nth l (k0 - 1) d) (hd : ddN d l k0 = l.take k0) :
    bC (λq:(List α)×Nat×Nat=>vw_ d l k0 q.1 q.2.1 q.2.2) (l,k0,1)=some (.inr (ddN d l l.length)):=by
  refine Exists.elim (tw_ (step:=λq:(List α)×Nat×Nat=>vw_ d l k0 q.1 q.2.1 q.2.2)
    (λq=>1<=q.2.2/\k0+q.2.2<=l.length/\q.1.length=l.length/\q.2.1<=k0+q.2.2 - 1/\(∀i,k0+q.2.2 - 1<=i->nth q.1 i d=nth l i d)/\q.1.take q.2.1=ddN d l (k0+q.2.2))
    (λr=>r= .inr (ddN d l l.length)) (λq=>l.length - q.2.2) ?_ (l,k0,1) ⟨Nat.le_refl _,hk,rfl,by simp only;omega,λ_ _=>rfl,?_⟩) (λr hr=>by rw [hr.1,hr.2])
  · rintro ⟨l2,k,j⟩ ⟨hj,hjl,hlen,hkj,hI,ht⟩
    simp only at hj hjl hlen hkj hI ht
    have hw:IntKind.i64.wrap ((j:Int) - 1)=((j - 1:Nat):Int):=rq_ hj (by omega)
    by_cases hlt:k0+j<l.length
    · left
      have e1:=hI (k0+j) (by omega)
      have e2:=hI (k0+(j - 1)) (by omega)
      simp only [vw_,hw,iW,decide_eq_true (show ((j:Nat):Int)<((l.length - k0:Nat):Int) by omega),iteO_true,
        aF (show j<l.length - k0 by omega),aF (show (0:Int)<=((j - 1:Nat):Int)/\((j - 1:Nat):Int)<((l.length - k0:Nat):Int) by omega),e1,e2]
      have e3:k0+(j - 1)=k0+j - 1:=by omega
      by_cases hc:nth l (k0+j) d=nth l (k0+(j - 1)) d
      · simp only [hc,not_true_eq_false,decide_false,iteO_false,gC_j]
        refine ⟨_,rfl,⟨by simp only;omega,by simp only;omega,hlen,by simp only;omega,λi hi=>hI i (by simp only at hi;omega),?_⟩,by simp only;omega⟩
        simp only
        rw [ht,<-Nat.add_assoc,ddN,if_neg,List.append_nil]
        rw [hc,e3];simp;omega
      simp only [hc,not_false_eq_true,decide_true,iteO_true,aF (show k<l2.length by omega),gC_j]
      refine ⟨_,rfl,⟨by simp only;omega,by simp only;omega,by simp only [gy];exact hlen,by simp only;omega,λi hi=> ?_,?_⟩,by simp only;omega⟩
      · simp only at hi ⊢
        rw [u4_ d (by omega)];exact hI i (by omega)
      simp only
      rw [qt_ d (by omega),ht,<-Nat.add_assoc,ddN,if_pos]
      rw [e3]at hc;exact .inr hc
    right
    have hjl':k0+j=l.length:=by omega
    have hkl:(l2.take k).length=k:=by rw [List.length_take];omega
    refine ⟨.inr (ddN d l l.length),?_,rfl⟩
    simp only [vw_,decide_eq_false (show ¬ ((j:Nat):Int)<((l.length - k0:Nat):Int) by omega),iteO_false,aF (show k<=l.length by omega)]
    rw [aF (by rw [gB,hkl];omega),List.take_append_of_le_length (by omega),List.take_of_length_le (by omega),ht,hjl']
    rfl
  simp only
  rw [ddN,if_neg (by rw [he];simp;omega),List.append_nil,hd]
theorem gC_eq {l : List α} (hl : l.length <= 281474976710656) : gC d l = some (ddN d l l.length) := by
  unfold gC
  by_cases h2:l.length<2
  · rw [decide_eq_true (by omega),iteO_true]
    match l,h2 with
    |[],_=>rfl
    |[x],_=>rfl
  rw [decide_eq_false (by omega),iteO_false]
  refine Exists.elim (tw_ (step:=λq:Nat=>yi_ d l q) (λk=>1<=k/\k<=l.length/\ddN d l k=l.take k) (λr=>r=ddN d l l.length) (λk=>l.length - k) ?_ 1 ⟨Nat.le_refl _,by omega,?_⟩) (λr hr=>by rw [hr.1,hr.2])
  · rintro k ⟨h1,hk,hd⟩
    by_cases hlt:k<l.length
    · simp only [yi_,rq_ h1 (show k<=281474976710656 by omega),iW,decide_eq_true (show ((k:Nat):Int)<((l.length:Nat):Int) by omega),iteO_true,
        aF (show (0:Int)<=((k - 1:Nat):Int)/\((k - 1:Nat):Int)<(l.length:Int) by omega)]
      by_cases hc:nth l k d=nth l (k - 1) d
      · right
        simp only [hc,decide_true,iteO_true,aF hk]
        exact ⟨_,gC_in d hl h1 hlt hc hd,rfl⟩
      left
      simp only [hc,decide_false,iteO_false]
      refine ⟨k+1,rfl,⟨by omega,by omega,?_⟩,by omega⟩
      rw [ddN,if_pos (.inr hc),hd,yH l hlt d]
    right
    have:k=l.length:=by omega
    refine ⟨l,?_,?_⟩
    · simp only [yi_,decide_eq_false (show ¬ ((k:Nat):Int)<((l.length:Nat):Int) by omega),iteO_false];rfl
    rw [<-this,hd,List.take_of_length_le (by omega)]
  rw [ddN,if_pos (.inl rfl),yH l (by omega) d];simp [ddN]
end
def ug{α:Type}[DecidableEq α](d:α)(cf:α->α->Int)(l:List α):List α:=ddN d (sF cf l) l.length
section
variable {α:Type} [DecidableEq α] {d:α} {cf:α->α->Int}
theorem Qo(l:List α):(sF cf l).length=l.length:=List.length_mergeSort _
theorem DN{l:List α}{x:α}:x∈ug d cf l↔x∈l:=by
  have h:=Qo (cf:=cf) l
  rw [ug,s7_ d _ _ (by omega),List.take_of_length_le (by omega),sF,List.mem_mergeSort]
theorem GoodCmp.le_trans(hc:GoodCmp cf){x y z:α}(h1: ¬ cf y x<0)(h2: ¬ cf z y<0): ¬ cf z x<0:=λh3=>by
  by_cases e:x=y
  · subst e;exact h2 h3
  by_cases e':y=z
  · subst e';exact h1 h3
  have a:=hc.anti y x;have b:=hc.anti z y;have a':=hc.eq y x;have b':=hc.eq z y
  have h4:cf y z<0:=by
    rw [hc.anti]
    have:cf z y≠0:=λh=>e' ((b'.1 h).symm)
    omega
  exact h1 (hc.trans _ _ _ h4 h3)
theorem Hk_(hc:GoodCmp cf)(l:List α):(sF cf l).Pairwise λx y=> ¬ cf y x<0:=by
  have:=List.pairwise_mergeSort (le:=λx y=> !decide (cf y x<0)) (λa b c h1 h2=>by
    simp only [Bool.not_eq_true',decide_eq_false_iff_not]at *
    exact hc.le_trans h1 h2) (λa b=>by
    have:=hc.anti a b
    simp only [Bool.or_eq_true,Bool.not_eq_true',decide_eq_false_iff_not];omega) l
  exact this.imp λh=>by simpa using h
theorem hj_ (hc : GoodCmp cf) (l : List α) : (ug d cf l).Pairwise λx y => cf x y < 0 := by
  have hs:=Hk_ hc l
  have hlen:=Qo (cf:=cf) l
  unfold ug
  generalize sF cf l=s at hs hlen
  have key: ∀n,n<=s.length->(ddN d s n).Pairwise λx y=>cf x y<0:=by
    intro n
    induction n with
    |zero=>intro _;exact List.Pairwise.nil
    |succ n ih=>
      intro h
      rw [ddN]
      split
      · rename_i hn
        rw [List.pairwise_append]
        refine ⟨ih (by omega),List.pairwise_singleton ..,λx hx y hy=> ?_⟩
        rw [List.mem_singleton.1 hy]
        rw [s7_ d s n (by omega)]at hx
        have hn0:n≠0:=λe=>by subst e;simp at hx
        have hne:nth s n d≠nth s (n - 1) d:=by rcases hn with h|h;exact absurd h hn0;exact h
        obtain ⟨i,hi,hxi⟩:=List.mem_iff_getElem.1 hx
        have hi':i<n:=by simp at hi;omega
        have hxi:s[i]'(by omega)=x:=by rw [<-hxi,List.getElem_take]
        have hp:=List.pairwise_iff_getElem.1 hs
        have eN: ∀{k:Nat} (hk:k<s.length),nth s k d=s[k]:=λhk=>by simp [nth,List.getD,hk]
        rw [eN (by omega),eN (by omega)]at hne
        rw [eN (by omega)]
        have h1:cf (s[n - 1]'(by omega)) (s[n]'(by omega))<0:=by
          have:=hp (n - 1) n (by omega) (by omega) (by omega)
          have a:=hc.anti (s[n - 1]'(by omega)) (s[n]'(by omega))
          have b:=hc.eq (s[n]'(by omega)) (s[n - 1]'(by omega))
          have:cf (s[n]'(by omega)) (s[n - 1]'(by omega))≠0:=λh=>hne (b.1 h)
          omega
        by_cases hin:i=n - 1
        · subst hin;rw [<-hxi];exact h1
        have h2:=hp i (n - 1) (by omega) (by omega) (by omega)
        rw [hxi]at h2
        by_cases e:x=s[n - 1]'(by omega)
        · rw [e];exact h1
        refine hc.trans _ _ _ ?_ h1
        have a:=hc.anti x (s[n - 1]'(by omega))
        have b:=hc.eq (s[n - 1]'(by omega)) x
        have:cf (s[n - 1]'(by omega)) x≠0:=λh=>e (b.1 h).symm
        omega
      rw [List.append_nil];exact ih (by omega)
  exact key _ (by omega)
theorem pq_{R:α->α->Prop}(hi: ∀x, ¬ R x x)(ht: ∀x y z,R x y->R y z->R x z): ∀{l m:List α},l.Pairwise R->m.Pairwise R->(∀x,x∈l↔x∈m)->l=m
  |[],[],_,_,_=>rfl
  |[],y::m,_,_,h=>by have:=(h y).2 (jm ..);cases this
  |x::l,[],_,_,h=>by have:=(h x).1 (jm ..);cases this
  | x :: l, y :: m, hl, hm, h => by
    rw [List.pairwise_cons]at hl hm
    have e:x=y:=by
      have h1:=(h x).1 (jm ..)
      have h2:=(h y).2 (jm ..)
      rw [List.mem_cons]at h1 h2
      rcases h1 with h1|h1
      · exact h1
      rcases h2 with h2|h2
      · exact h2.symm
      exact absurd (ht _ _ _ (hm.1 x h1) (hl.1 y h2)) (hi y)
    subst e
    rw [pq_ hi ht hl.2 hm.2 λz=> ?_]
    have:=h z
    simp only [List.mem_cons]at this
    constructor
    · intro hz
      rcases this.1 (.inr hz)with e|h'
      · subst e;exact absurd (hl.1 z hz) (hi z)
      exact h'
    intro hz
    rcases this.2 (.inr hz)with e|h'
    · subst e;exact absurd (hm.1 z hz) (hi z)
    exact h'
theorem GoodCmp.irr(hc:GoodCmp cf)(x:α): ¬ cf x x<0:=by have:=(hc.eq x x).2 rfl;omega
theorem n1_(hc:GoodCmp cf){l m:List α}(hl:l.Pairwise λx y=>cf x y<0)(hm:m.Pairwise λx y=>cf x y<0)(h: ∀x,x∈l↔x∈m):l=m:=
  pq_ (R:=λx y=>cf x y<0) hc.irr hc.trans hl hm h
theorem Hs_(hc:GoodCmp cf){l:List α}(h:l.Pairwise λx y=>cf x y<0):ug d cf l=l:=n1_ hc (hj_ hc l) h λx=>DN
theorem Gl_(l:List α):(ug d cf l).length<=l.length:=by
  have h: ∀(s:List α) n,(ddN d s n).length<=n:=λs n=>by
    induction n with
    |zero=>exact Nat.le_refl _
    |succ n ih=>rw [ddN,gB];split<;>simp<;>omega
  exact h _ _
end
theorem Hx_:jp_=gC aK:=rfl
theorem Iu_:m4_=gC bg:=rfl
theorem In_{l:List Tip}(h:l.length * 24<=140737488355328):ZU l=some (ug aK nI l):=by
  rw [ZU,aF h,Hx_,gC_eq aK (by rw [Qo];omega),Qo];rfl
theorem I7_{l:List Arc}(h:l.length * 72<=140737488355328):wr_ l=some (ug bg Nq l):=by
  rw [wr_,aF h,Iu_,gC_eq bg (by rw [Qo];omega),Qo];rfl
def RG(n:Int)(p:Tip):Bool:=decide (0<=p.state) && decide (p.state<n) && decide ((p.out.length:Int)<=1024)
def IE(l:List Tip)(n:Int):Bool:=decide ((l.length:Int)<=1024) && l.all (RG n)
def RF(n:Int)(a:Arc):Bool:=decide (0<=a.frm) && decide (a.frm<n) && decide (0<=a.to) && decide (a.to<n) && decide (a.set≠BSet.zero) && decide ((a.out.length:Int)<=1024)
def AB(t:Fst):Bool:=decide (0<=t.states) && decide (t.states<=1024) && decide ((t.arcs.length:Int)<=16384) && IE t.starts t.states && IE t.ends t.states && t.arcs.all (RF t.states)
theorem Ff_(s n:Int):Zy s n=some (decide (0<=s) && decide (s<n)):=by
  unfold Zy
  by_cases h:0<=s<;>simp [h]
theorem l7_ (l : List Tip) (n : Int) : Dt_ l n = some (IE l n) := by
  unfold Dt_ IE
  by_cases h:(l.length:Int)<=1024
  · rw [decide_eq_false (by omega),iteO_false,t7_ (y:=true) (no:=false) l aK (RG n)]
    · rw [decide_eq_true h,Bool.true_and];cases l.all (RG n)<;>rfl
    · intro k hk hp
      simp only [RG,Bool.and_eq_true,jV]at hp
      simp only [ZG,Ws hk,iteO_true,Ff_,bnd,Option.bind_some,hp.1.1,hp.1.2,decide_true,Bool.and_self,Bool.not_true,iteO_false,decide_eq_false (show ¬ (1024:Int)<((nth l k aK).out.length:Int) by omega)];rfl
    · intro k hk hp
      simp only [ZG,Ws hk,iteO_true,Ff_,bnd,Option.bind_some]
      by_cases hc:(decide (0<=(nth l k aK).state) && decide ((nth l k aK).state<n))=true
      · rw [hc]
        simp only [RG,hc,Bool.true_and,decide_eq_false_iff_not]at hp
        simp only [Bool.not_true,iteO_false,decide_eq_true (show (1024:Int)<((nth l k aK).out.length:Int) by omega),iteO_true];rfl
      simp only [Bool.not_eq_true]at hc
      rw [hc];rfl
    simp only [ZG,Int.lt_irrefl,decide_false,iteO_false];rfl
  rw [decide_eq_true (by omega),iteO_true];simp [h]
theorem Gg_(t:Fst):ZA t=some (errB (AB t)):=by
  unfold ZA
  by_cases h1:t.states<0
  · rw [decide_eq_true h1,iteO_true];simp [AB,errB,show ¬ 0<=t.states by omega]
  rw [decide_eq_false h1,iteO_false]
  by_cases h2:1024<t.states
  · rw [decide_eq_true h2,iteO_true];simp [AB,errB,show ¬ t.states<=1024 by omega]
  rw [decide_eq_false h2,iteO_false]
  by_cases h3:(16384:Int)<(t.arcs.length:Int)
  · rw [decide_eq_true h3,iteO_true];simp only [AB,decide_eq_false (show ¬ (t.arcs.length:Int)<=16384 by omega),Bool.and_false,Bool.false_and];rfl
  rw [decide_eq_false h3,iteO_false,l7_,bnd,Option.bind_some]
  have e0:AB t=(IE t.starts t.states && IE t.ends t.states && t.arcs.all (RF t.states)):=by
    simp only [AB,decide_eq_true (show 0<=t.states by omega),decide_eq_true (show t.states<=1024 by omega),decide_eq_true (show (t.arcs.length:Int)<=16384 by omega),Bool.true_and]
  rw [e0]
  cases h4:IE t.starts t.states
  · rfl
  simp only [Bool.not_true,iteO_false,l7_,bnd,Option.bind_some]
  cases h5:IE t.ends t.states
  · rfl
  simp only [Bool.not_true,iteO_false,Bool.and_self,Bool.true_and]
  rw [t7_ (y:=0) (no:=1) t.arcs bg (RF t.states)]
  · rfl
  · intro k hk hp
    simp only [RF,Bool.and_eq_true,jV]at hp
    obtain ⟨⟨⟨⟨⟨p1,p2⟩,p3⟩,p4⟩,p5⟩,p6⟩:=hp
    simp only [ZC,Ws hk,iteO_true,Ff_,bnd,Option.bind_some,p1,p2,p3,p4,p5,decide_true,decide_false,Bool.and_self,Bool.not_true,iteO_false,decide_eq_false (show ¬ (1024:Int)<((nth t.arcs k bg).out.length:Int) by omega)];rfl
  · intro k hk hp
    simp only [ZC,Ws hk,iteO_true,Ff_,bnd,Option.bind_some]
    cases hc:(decide (0<=(nth t.arcs k bg).frm) && decide ((nth t.arcs k bg).frm<t.states))
    · rfl
    cases hd:(decide (0<=(nth t.arcs k bg).to) && decide ((nth t.arcs k bg).to<t.states))
    · rfl
    simp only [Bool.not_true,iteO_false]
    by_cases he:(nth t.arcs k bg).set=BSet.zero
    · rw [decide_eq_true he];rfl
    rw [decide_eq_false he,iteO_false]
    have hd':(decide (0<=(nth t.arcs k bg).frm) && decide ((nth t.arcs k bg).frm<t.states) && decide (0<=(nth t.arcs k bg).to) && decide ((nth t.arcs k bg).to<t.states))=true:=by rw [Bool.and_assoc,hc,hd];rfl
    simp only [RF,hd',Bool.true_and,ne_eq,he,not_false_eq_true,decide_true,decide_eq_false_iff_not]at hp
    rw [decide_eq_true (by omega)];rfl
  simp only [ZC,Int.lt_irrefl,decide_false,iteO_false];rfl
theorem w0_{b:Bool}:decide (errB b≠0)= !b:=by cases b<;>rfl
def outOf(p:FPair)(a:Arc)(b:UInt8):T_1:=if a.copy then (p.out++a.out)++[b] else p.out++a.out
def aftA(g:List Arc)(p:FPair)(b:UInt8):List FPair:=(g.filter λa=>a.set.has b.toNat).map λa=>⟨a.to,outOf p a b⟩
def aftP(t:Fst)(S:List FPair)(b:UInt8):List FPair:=S.flatMap λp=>aftA (t.arcs.filter λa=>decide (a.frm=p.state)) p b
def tp(x:Tip):FPair:=⟨x.state,x.out⟩
def Wp(t:Fst)(w:T_1):List FPair:=w.foldl (aftP t) (t.starts.map tp)
def endT(t:Fst)(S:List FPair):aC:=S.flatMap λp=>((t.ends.filter λe=>decide (e.state=p.state)).map Tip.out).map λo=>p.out++o
def VX(t:Fst)(w:T_1):aC:=ug [] Lib.compareBytes (endT t (Wp t w))
theorem yj_{g:List Arc}{p q:FPair}{b:UInt8}:q∈aftA g p b↔ ∃a∈g,a.set.has b.toNat=true/\q=⟨a.to,outOf p a b⟩:=by
  simp only [aftA,List.mem_map,List.mem_filter]
  constructor
  · rintro ⟨a,⟨h1,h2⟩,h3⟩;exact ⟨a,h1,h2,h3.symm⟩
  rintro ⟨a,h1,h2,h3⟩;exact ⟨a,⟨h1,h2⟩,h3.symm⟩
theorem ze_{t:Fst}{S:List FPair}{b:UInt8}{q:FPair}:q∈aftP t S b↔ ∃p∈S, ∃a∈t.arcs,a.frm=p.state/\a.set.has b.toNat=true/\q=⟨a.to,outOf p a b⟩:=by
  simp only [aftP,List.mem_flatMap,yj_,List.mem_filter,jV]
  constructor
  · rintro ⟨p,h1,a,⟨h2,h3⟩,h4,h5⟩;exact ⟨p,h1,a,h2,h3,h4,h5⟩
  rintro ⟨p,h1,a,h2,h3,h4,h5⟩;exact ⟨p,h1,a,⟨h2,h3⟩,h4,h5⟩
theorem tipB_ok{n:Int}{p:Tip}(h:RG n p=true):(0<=p.state/\p.state<n)/\p.out.length<=1024:=by
  simp only [RG,Bool.and_eq_true,jV]at h;exact ⟨h.1,by omega⟩
theorem m7_{n:Int}{l:List Tip}(h:IE l n=true):l.length<=1024/\ ∀p∈l,(0<=p.state/\p.state<n)/\p.out.length<=1024:=by
  simp only [IE,Bool.and_eq_true,jV,List.all_eq_true]at h
  exact ⟨by omega,λp hp=>tipB_ok (h.2 p hp)⟩
theorem arcB_ok{n:Int}{a:Arc}(h:RF n a=true):(0<=a.frm/\a.frm<n)/\(0<=a.to/\a.to<n)/\a.set≠BSet.zero/\a.out.length<=1024:=by
  simp only [RF,Bool.and_eq_true,jV]at h
  obtain ⟨⟨⟨⟨⟨p1,p2⟩,p3⟩,p4⟩,p5⟩,p6⟩:=h
  exact ⟨⟨p1,p2⟩,⟨p3,p4⟩,p5,by omega⟩
structure FstOk (t:Fst):Prop where
  st0:0<=t.states
  st1:t.states<=1024
  arcsN:t.arcs.length<=16384
  startsN:t.starts.length<=1024
  endsN:t.ends.length<=1024
  starts: ∀p∈t.starts,(0<=p.state/\p.state<t.states)/\p.out.length<=1024
  ends: ∀p∈t.ends,(0<=p.state/\p.state<t.states)/\p.out.length<=1024
  arcs: ∀a∈t.arcs,(0<=a.frm/\a.frm<t.states)/\(0<=a.to/\a.to<t.states)/\a.set≠BSet.zero/\a.out.length<=1024
theorem kz_(t:Fst):AB t=true↔FstOk t:=by
  constructor
  · intro h
    simp only [AB,Bool.and_eq_true,jV,List.all_eq_true]at h
    obtain ⟨⟨⟨⟨⟨h1,h2⟩,h3⟩,h4⟩,h5⟩,h6⟩:=h
    exact ⟨h1,h2,by omega,(m7_ h4).1,(m7_ h5).1,(m7_ h4).2,(m7_ h5).2,λa ha=>arcB_ok (h6 a ha)⟩
  rintro ⟨h1,h2,h3,h4,h5,h6,h7,h8⟩
  have hT: ∀l:List Tip,l.length<=1024->(∀p∈l,(0<=p.state/\p.state<t.states)/\p.out.length<=1024)->IE l t.states=true:=λl hl hp=>by
    simp only [IE,Bool.and_eq_true,jV,List.all_eq_true]
    refine ⟨by omega,λp hq=> ?_⟩
    have:=hp p hq
    simp only [RG,Bool.and_eq_true,jV];omega
  simp only [AB,Bool.and_eq_true,jV,List.all_eq_true]
  refine ⟨⟨⟨⟨⟨h1,h2⟩,by omega⟩,hT _ h4 h6⟩,hT _ h5 h7⟩,λa ha=> ?_⟩
  obtain ⟨p1,p2,p3,p4⟩:=h8 a ha
  simp only [RF,Bool.and_eq_true,jV]
  exact ⟨⟨⟨⟨p1,p2.1⟩,p2.2⟩,p3⟩,by omega⟩
theorem s6_(t:Fst)(w:T_1)(b:UInt8):Wp t (w++[b])=aftP t (Wp t w) b:=by simp [Wp]
def srt(t:Fst):Fst:=⟨t.states,ug aK nI t.starts,ug aK nI t.ends,ug bg Nq t.arcs⟩
theorem ql_(t:Fst):MP t=some (if AB t=true then (srt t,0) else (⟨0,[],[],[]⟩,1)):=by
  unfold MP
  rw [Gg_,bnd,Option.bind_some,w0_]
  by_cases h:AB t=true
  · have ht:=(kz_ t).1 h
    have h1:=ht.startsN
    have h2:=ht.endsN
    have h3:=ht.arcsN
    rw [h,if_pos rfl,Bool.not_true,iteO_false]
    simp only [In_ (l:=t.starts) (by omega),In_ (l:=t.ends) (by omega),I7_ (l:=t.arcs) (by omega),bnd,Option.bind_some]
    rfl
  simp only [Bool.not_eq_true]at h
  rw [h];rfl
structure Alike (s t:Fst):Prop where
  states:s.states=t.states
  starts: ∀x,x∈s.starts↔x∈t.starts
  ends: ∀x,x∈s.ends↔x∈t.ends
  arcs: ∀x,x∈s.arcs↔x∈t.arcs
theorem srt_ok{t:Fst}(ht:FstOk t):FstOk (srt t) where
  st0:=ht.st0
  st1:=ht.st1
  arcsN:=Nat.le_trans (Gl_ _) ht.arcsN
  startsN:=Nat.le_trans (Gl_ _) ht.startsN
  endsN:=Nat.le_trans (Gl_ _) ht.endsN
  starts p hp:=ht.starts p (DN.1 hp)
  ends p hp:=ht.ends p (DN.1 hp)
  arcs a ha:=ht.arcs a (DN.1 ha)
structure Within (s t:Fst):Prop where
  starts: ∀x∈s.starts,x∈t.starts
  ends: ∀x∈s.ends,x∈t.ends
  arcs: ∀x∈s.arcs,x∈t.arcs
theorem Alike.within{s t:Fst}(h:Alike s t):Within s t:=⟨λx=>(h.starts x).1,λx=>(h.ends x).1,λx=>(h.arcs x).1⟩
theorem Alike.symm{s t:Fst}(h:Alike s t):Alike t s:=⟨h.states.symm,λx=>(h.starts x).symm,λx=>(h.ends x).symm,λx=>(h.arcs x).symm⟩
theorem Within.pairs{s t:Fst}(h:Within s t)(w:T_1): ∀p∈Wp s w,p∈Wp t w:=by
  induction w using rev_ind with
  |h0=>
    intro p hp
    obtain ⟨x,hx,rfl⟩:=List.mem_map.1 hp
    exact List.mem_map.2 ⟨x,h.starts x hx,rfl⟩
  |h1 w b ih=>
    intro q hq
    rw [s6_,ze_]at *
    obtain ⟨p,hp,a,ha,r⟩:=hq
    exact ⟨p,ih p hp,a,h.arcs a ha,r⟩
theorem yf_{t:Fst}{S:List FPair}{o:T_1}:o∈endT t S↔ ∃p∈S, ∃e∈t.ends,e.state=p.state/\o=p.out++e.out:=by
  simp only [endT,List.mem_flatMap,List.mem_map,List.mem_filter,jV]
  constructor
  · rintro ⟨p,hp,_,⟨e,⟨he,h1⟩,rfl⟩,h2⟩;exact ⟨p,hp,e,he,h1,h2.symm⟩
  rintro ⟨p,hp,e,he,h1,h2⟩;exact ⟨p,hp,_,⟨e,⟨he,h1⟩,rfl⟩,h2.symm⟩
theorem vy_{t:Fst}{w o:T_1}:o∈VX t w↔ ∃p∈Wp t w, ∃e∈t.ends,e.state=p.state/\o=p.out++e.out:=by rw [VX,DN,yf_]
theorem Within.outs{s t:Fst}(h:Within s t)(w:T_1): ∀o∈VX s w,o∈VX t w:=by
  intro o ho
  rw [vy_]at *
  obtain ⟨p,hp,e,he,r⟩:=ho
  exact ⟨p,h.pairs w p hp,e,h.ends e he,r⟩
theorem pu_(t:Fst)(w:T_1):(VX t w).Pairwise λx y=>Lib.compareBytes x y<0:=hj_ k3_ _
theorem Alike.outs{s t:Fst}(h:Alike s t)(w:T_1):VX s w=VX t w:=n1_ k3_ (pu_ s w) (pu_ t w) λx=>⟨h.within.outs w x,h.symm.within.outs w x⟩
theorem m5_{α R:Type}{step:Nat->Option (Nat⊕R)}{y:R}(n:Nat)(hs: ∀k,k<n->step k=some (.inl (k+1)))(hd:step n=some (.inr y)):bC step 0=some y:=ry_ (λk=>k) n hs hd
theorem ll_(l:aC):Rf l l=some true:=by
  unfold Rf
  rw [decide_eq_false (by simp),iteO_false]
  refine m5_ (α:=Unit) l.length (λk hk=> ?_) ?_
  · simp only [Iy,Ws hk,iteO_true,aF hk,ne_eq,not_true_eq_false,decide_false,iteO_false];rfl
  simp only [Iy,Int.lt_irrefl,decide_false,iteO_false];rfl
section
variable {α:Type} [DecidableEq α] {d:α} {cf:α->α->Int}
end
theorem r8_(l:ak):ZQ l l=some true:=by
  unfold ZQ
  rw [decide_eq_false (by simp),iteO_false]
  refine m5_ (α:=Unit) l.length (λk hk=> ?_) ?_
  · simp only [ZL,Ws hk,iteO_true,aF hk,ne_eq,not_true_eq_false,decide_false,iteO_false];rfl
  simp only [ZL,Int.lt_irrefl,decide_false,iteO_false];rfl
theorem p9_{x:T_1}(h:x.length<=281474976710656):Vh x=some (if 4096<x.length then .inl 2 else .inr ()):=by
  unfold Vh
  rw [aF h]
  by_cases c:4096<x.length
  · rw [bI (by omega),if_pos c]
  rw [bK (by omega),if_neg c]
def FC:List Tip->Bool
  |a::b::l=>decide (a.state=b.state) || FC (b::l)
  |_=>false
theorem qg_: ∀l:List Tip,FC l=true↔ ∃k,k+1<l.length/\(nth l k aK).state=(nth l (k+1) aK).state
  |[]=>by simp [FC]
  |[a]=>by simp [FC]
  | a :: b :: l => by
    rw [FC,Bool.or_eq_true,jV,qg_ (b::l)]
    constructor
    · rintro (h|⟨k,h1,h2⟩)
      · exact ⟨0,by simp,h⟩
      exact ⟨k+1,by simpa using h1,h2⟩
    rintro ⟨k,h1,h2⟩
    cases k with
    |zero=>exact .inl h2
    |succ k=>exact .inr ⟨k,by simpa using h1,h2⟩
def zh(n:Nat)(x:Tip):Tip:=⟨x.state,x.out.drop n⟩
def IG(l:List Tip):Int⊕(T_1×List Tip):=
  let m:=ug aK nI l
  if FC m=true then .inl 12 else
  let f:=jf (m.map Tip.out)
  if 4096<f.length then .inl 2 else
  if ∃x∈m,4096<(x.out.drop f.length).length then .inl 2 else .inr (f,m.map (zh f.length))
theorem Ix_{α β:Type}(f:α->α)(l:List α)(k:Nat)(hk:k<l.length)(d:α):((l.take k).map f++l.drop k).set k (f (nth l k d))=(l.take (k+1)).map f++l.drop (k+1):=by
  have h1:((l.take k).map f).length=k:=by rw [List.length_map,List.length_take];omega
  rw [List.set_append_right _ _ (by omega),h1,Nat.sub_self,ty_ l hk d,List.set_cons_zero,yH l hk d,List.map_append]
  simp
theorem nth_mid{α:Type}(f:α->α)(l:List α)(k:Nat)(hk:k<l.length)(d:α):nth ((l.take k).map f++l.drop k) k d=nth l k d:=by
  have h1:((l.take k).map f).length=k:=by rw [List.length_map,List.length_take];omega
  unfold nth
  rw [List.getD_eq_getElem?_getD,List.getElem?_append_right (by omega),h1,Nat.sub_self,ty_ l hk d]
  simp [nth]
theorem q6_{α:Type}(l:List α)(k:Nat)(hk:k<l.length)(x d:α):nth (l.set k x) k d=x:=by rw [jO,if_pos ⟨rfl,hk⟩]
theorem wa_{α:Type}(l:List α)(k:Nat)(hk:k<l.length)(d z:α):(l.take k++List.replicate (l.length - k) z).set k (nth l k d)=l.take (k+1)++List.replicate (l.length - (k+1)) z:=by
  have h1:(l.take k).length=k:=by rw [List.length_take];omega
  rw [List.set_append_right _ _ (by omega),h1,Nat.sub_self,show l.length - k=(l.length - (k+1))+1 by omega,List.replicate_succ,List.set_cons_zero,yH l hk d]
  simp
theorem xe_ {m : List Tip} {f : T_1} (hf : ∀ x ∈ m, f.length <= x.out.length) (hb : ∀ x ∈ m, x.out.length <= 281474976710656) :
    bC (λq:(List Tip)×Nat=>NR m f q.1 q.2) (m,0)=some (if ∃x∈m,4096<(x.out.drop f.length).length then .inl 2 else .inr (f,m.map (zh f.length))):=by
  obtain ⟨r,h1,h2⟩:=kT (step:=λq:(List Tip)×Nat=>NR m f q.1 q.2) (λs k=>(s,k)) m.length (λk s=>s=(m.take k).map (zh f.length)++m.drop k/\ ∀x∈m.take k, ¬ 4096<(x.out.drop f.length).length)
    (λr=>r=(if ∃x∈m,4096<(x.out.drop f.length).length then .inl 2 else .inr (f,m.map (zh f.length))))
    (λk s hk hI=>by
      obtain ⟨rfl,hI⟩:=hI
      have hl:k<((m.take k).map (zh f.length)++m.drop k).length:=by
        rw [gB,List.length_map,List.length_take,List.length_drop];omega
      have hm:nth m k aK∈m:=wz _ hk
      have hs:=hf _ hm
      have hbb:=hb _ hm
      have hst:NR m f ((m.take k).map (zh f.length)++m.drop k) k=some (if 4096<((nth m k aK).out.drop f.length).length then .inr (.inl 2) else .inl ((m.take (k+1)).map (zh f.length)++m.drop (k+1),k+1)):=by
        unfold NR
        rw [bI (by omega),aF hl,nth_mid (zh f.length) m k hk,aF ⟨hs,Nat.le_refl _⟩,aF hl,aF (by rw [gy];exact hl),q6_ _ k hl]
        show bnd (Vh ((nth m k aK).out.drop f.length)) _=_
        rw [p9_ (by rw [List.length_drop];omega),fD]
        by_cases c:4096<((nth m k aK).out.drop f.length).length
        · rw [if_pos c,if_pos c];rfl
        rw [if_neg c,if_neg c]
        show nxt (_,_)=_
        rw [show (⟨(nth m k aK).state,(nth m k aK).out.drop f.length⟩:Tip)=zh f.length (nth m k aK)from rfl,Ix_ (β:=Tip) (zh f.length) m k hk];rfl
      by_cases c:4096<((nth m k aK).out.drop f.length).length
      · rw [if_pos c]at hst
        exact .inr ⟨_,hst,by rw [if_pos ⟨_,hm,c⟩]⟩
      rw [if_neg c]at hst
      refine .inl ⟨_,hst,rfl,λx hx=> ?_⟩
      rw [yH m hk aK]at hx
      rcases List.mem_append.1 hx with hx|hx
      · exact hI x hx
      rw [List.mem_singleton.1 hx];exact c)
    (λs hI=>by
      obtain ⟨rfl,hI⟩:=hI
      rw [List.take_length]at hI
      refine ⟨_,?_,rfl⟩
      rw [if_neg (by rintro ⟨x,h1,h2⟩;exact hI x h1 h2),List.take_length,List.drop_length,List.append_nil]
      show NR m f _ m.length=_
      unfold NR
      rw [bK (by omega)];rfl) (s0:=m) ⟨by simp,by simp⟩
  rw [<-h2];exact h1
theorem uj_ {l : List Tip} (hl : l.length <= 1000000) (hb : ∀ x ∈ l, x.out.length <= 281474976710656) : Fd_ l = some (IG l) := by
  unfold Fd_
  have e0:jp_ (sF nI l)=some (ug aK nI l):=by
    rw [Hx_,gC_eq aK (by rw [Qo];omega),Qo]
    rfl
  rw [e0,fD]
  have hm:(ug aK nI l).length<=l.length:=Gl_ ..
  have hbm: ∀x∈ug aK nI l,x.out.length<=281474976710656:=λx hx=>hb x ((DN ..).1 hx)
  unfold IG
  generalize ug aK nI l=m at hm hbm ⊢
  rw [aF (by omega)]
  have hlast:IJ m (m.map Tip.out) m.length=some (.inr (if 4096<(jf (m.map Tip.out)).length then .inl 2 else if ∃x∈m,4096<(x.out.drop (jf (m.map Tip.out)).length).length then .inl 2 else .inr (jf (m.map Tip.out),m.map (zh (jf (m.map Tip.out)).length)))):=by
    have hbx: ∀x∈m.map Tip.out,x.length<=281474976710656:=λx hx=>by
      obtain ⟨y,hy,rfl⟩:=List.mem_map.1 hx;exact hbm y hy
    have hfl:(jf (m.map Tip.out)).length<=281474976710656:=by
      cases h:m with
      |nil=>simp [jf]
      |cons x t=>
        have:jf ((x::t).map Tip.out) <+: x.out:=LW (by simp)
        exact Nat.le_trans this.length_le (hbm x (by rw [h];exact jm ..))
    unfold IJ
    rw [bK (by omega),pa_ hbx,fD,p9_ hfl,fD]
    by_cases c:4096<(jf (m.map Tip.out)).length
    · rw [if_pos c,if_pos c];rfl
    rw [if_neg c,if_neg c]
    show fin (bC _ (m,0))=_
    rw [xe_ (λx hx=>(LW (List.mem_map.2 ⟨x,hx,rfl⟩)).length_le) hbm];rfl
  obtain ⟨r,h1,h2⟩:=kT (step:=λq:aC×Nat=>IJ m q.1 q.2) (λs k=>(s,k)) m.length (λk s=>s=(m.map Tip.out).take k++List.replicate ((m.map Tip.out).length - k) []/\ ∀j,j+1<k+0\/j+1<k->(nth m j aK).state≠(nth m (j+1) aK).state)
    (λr=>r=(if FC m=true then .inl 12 else if 4096<(jf (m.map Tip.out)).length then .inl 2 else if ∃x∈m,4096<(x.out.drop (jf (m.map Tip.out)).length).length then .inl 2 else .inr (jf (m.map Tip.out),m.map (zh (jf (m.map Tip.out)).length))))
    (λk s hk hI=>by
      obtain ⟨rfl,hI⟩:=hI
      have hkm:k<(m.map Tip.out).length:=by rw [List.length_map];exact hk
      have hlen:k<((m.map Tip.out).take k++List.replicate ((m.map Tip.out).length - k) []).length:=by
        rw [gB,List.length_take,r_];omega
      have hnx:Ea_ k ((m.map Tip.out).take k++List.replicate ((m.map Tip.out).length - k) []) m=some (.inl ((m.map Tip.out).take (k+1)++List.replicate ((m.map Tip.out).length - (k+1)) [],k+1)):=by
        unfold Ea_
        rw [aF hlen,<-wa_ (m.map Tip.out) k hkm ([]:T_1) [],zB Tip.out m k aK [] hk];rfl
      by_cases c0:k=0
      · subst c0
        refine .inl ⟨_,?_,rfl,λj hj=>by omega⟩
        show IJ m _ 0=_
        unfold IJ
        rw [bI (by omega),bK (by omega)];exact hnx
      obtain ⟨j,rfl⟩: ∃j,k=j+1:=⟨k - 1,by omega⟩
      have hw:IntKind.i64.wrap (((j+1:Nat):Int) - 1)=((j:Nat):Int):=by rw [show ((j+1:Nat):Int) - 1=(j:Int) by omega,UM (by omega) (by omega)]
      have hst:IJ m ((m.map Tip.out).take (j+1)++List.replicate ((m.map Tip.out).length - (j+1)) []) (j+1)=if (nth m j aK).state=(nth m (j+1) aK).state then some (.inr (.inl 12)) else some (.inl ((m.map Tip.out).take (j+1+1)++List.replicate ((m.map Tip.out).length - (j+1+1)) [],j+1+1)):=by
        unfold IJ
        rw [bI (by omega),bI (by omega),hw,aF ⟨by omega,by omega⟩,iW]
        by_cases c:(nth m j aK).state=(nth m (j+1) aK).state
        · rw [bI c,if_pos c];rfl
        rw [bK c,if_neg c];exact hnx
      by_cases c:(nth m j aK).state=(nth m (j+1) aK).state
      · rw [if_pos c]at hst
        refine .inr ⟨_,hst,?_⟩
        rw [if_pos ((qg_ m).2 ⟨j,hk,c⟩)]
      rw [if_neg c]at hst
      refine .inl ⟨_,hst,rfl,λi hi=> ?_⟩
      by_cases e:i=j
      · subst e;exact c
      exact hI i (by omega))
    (λs hI=>by
      obtain ⟨rfl,hI⟩:=hI
      have hd: ¬ FC m=true:=λh=>by
        obtain ⟨j,h1,h2⟩:=(qg_ m).1 h
        exact hI j (.inr h1) h2
      refine ⟨_,?_,rfl⟩
      rw [if_neg hd]
      have e:(m.map Tip.out).take m.length++List.replicate ((m.map Tip.out).length - m.length) []=m.map Tip.out:=by
        rw [List.length_map,Nat.sub_self,List.replicate_zero,List.append_nil,show m.length=(m.map Tip.out).length by rw [List.length_map],List.take_length]
      show IJ m _ m.length=_
      rw [e];exact hlast) (s0:=List.replicate m.length []) ⟨by simp,λj hj=>by omega⟩
  rw [<-h2];exact h1
def valD(l:T_1):Nat:=l.foldl (λv d=>v * 10+(d.toNat - 48)) 0
theorem xb_(l:T_1)(d:UInt8):valD (l++[d])=valD l * 10+(d.toNat - 48):=by simp [valD]
theorem n4_{k:Nat}(h:k<10):(UInt8.ofNat (48+k)).toNat=48+k:=by
  rw [UInt8.toNat_ofNat'];omega
theorem x5_(u:Nat):valD (Lib.decDigits u)=u:=by
  induction u using Nat.strongRecOn with
  |ind u ih=>
    rw [Lib.decDigits]
    split
    · rename_i h
      show 0 * 10+((UInt8.ofNat (48+u)).toNat - 48)=u
      rw [n4_ h];omega
    rename_i h
    rw [xb_,ih (u / 10) (by omega),n4_ (by omega)];omega
theorem Nv(u:Nat): ∀c∈Lib.decDigits u,c≠58:=by
  induction u using Nat.strongRecOn with
  |ind u ih=>
    rw [Lib.decDigits]
    have hd: ∀k,k<10->UInt8.ofNat (48+k)≠58:=λk hk e=>by
      have:=congrArg UInt8.toNat e
      rw [n4_ hk]at this
      have h2:(58:UInt8).toNat=58:=rfl
      omega
    split
    · rename_i h
      intro c hc
      rw [List.mem_singleton.1 hc];exact hd u h
    rename_i h
    intro c hc
    rcases List.mem_append.1 hc with hc|hc
    · exact ih (u / 10) (by omega) c hc
    rw [List.mem_singleton.1 hc];exact hd _ (by omega)
theorem l0_: ∀{a b x y:T_1},(∀c∈a,c≠58)->(∀c∈b,c≠58)->a++58::x=b++58::y->a=b/\x=y
  |[],[],x,y,_,_,h=>by simp at h;exact ⟨rfl,h⟩
  |[],d::b,x,y,_,hb,h=>by
    simp only [List.nil_append,List.cons_append,List.cons.injEq]at h
    exact absurd h.1.symm (hb d (jm ..))
  |d::a,[],x,y,ha,_,h=>by
    simp only [List.nil_append,List.cons_append,List.cons.injEq]at h
    exact absurd h.1 (ha d (jm ..))
  |d::a,e::b,x,y,ha,hb,h=>by
    simp only [List.cons_append,List.cons.injEq]at h
    obtain ⟨rfl,h⟩:=h
    obtain ⟨rfl,rfl⟩:=l0_ (λc hc=>ha c (pF _ hc)) (λc hc=>hb c (pF _ hc)) h
    exact ⟨rfl,rfl⟩
theorem p6_{u v:Nat}(h:Lib.decDigits u=Lib.decDigits v):u=v:=by rw [<-x5_ u,h,x5_]
def Jk(x:Tip)(r:T_1):T_1:=Lib.decDigits x.state.toNat++58::(Lib.decDigits x.out.length++58::(x.out++r))
def sD:List Tip->T_1
  |[]=>[]
  |x::l=>Jk x (sD l)
theorem rm_(x:Tip): ∀l:List Tip,sD (l++[x])=sD l++Jk x []
  |[]=>rfl
  |y::l=>by
    show Jk y (sD (l++[x]))=Jk y (sD l)++Jk x []
    rw [rm_ x l]
    unfold Jk
    simp
theorem qd_: ∀{l m:List Tip},(∀x∈l,0<=x.state)->(∀x∈m,0<=x.state)->sD l=sD m->l=m
  |[],[],_,_,_=>rfl
  |[],y::m,_,_,h=>by
    have:=congrArg List.length h
    simp [sD,Jk]at this
  |x::l,[],_,_,h=>by
    have:=congrArg List.length h
    simp [sD,Jk]at this
  | x :: l, y :: m, hl, hm, h => by
    obtain ⟨h1,h2⟩:=l0_ (Nv _) (Nv _) (show Lib.decDigits x.state.toNat++58::_=Lib.decDigits y.state.toNat++58::_ from h)
    obtain ⟨h3,h4⟩:=l0_ (Nv _) (Nv _) h2
    have h5:=p6_ h1
    have h6:=p6_ h3
    obtain ⟨h7,h8⟩:=List.append_inj h4 h6
    have hx:=hl x (jm ..)
    have hy:=hm y (jm ..)
    have e:x=y:=by
      cases x;cases y
      simp only at h5 h7 hx hy
      simp only [Tip.mk.injEq]
      exact ⟨by omega,h7⟩
    rw [e,qd_ (λz hz=>hl z (pF _ hz)) (λz hz=>hm z (pF _ hz)) h8]
theorem m1_{n:Int}(h:0<=n):Lib.itoa n=Lib.decDigits n.toNat:=by unfold Lib.itoa;rw [if_neg (by omega)]
theorem tp_: ∀(k u:Nat),u<10 ^ (k+1)->(Lib.decDigits u).length<=k+1
  |0,u,h=>by
    rw [Lib.decDigits,dif_pos (by simpa using h)];simp
  |k+1,u,h=>by
    rw [Lib.decDigits]
    split
    · simp
    have:=tp_ k (u / 10) (by rw [Nat.div_lt_iff_lt_mul (by decide),<-Nat.pow_succ];exact h)
    rw [gB,kD];omega
theorem lq_{u:Nat}(h:u<=9223372036854775807):(Lib.decDigits u).length<=21:=by
  have:=tp_ 18 u (by omega)
  omega
structure RowOk (n:Int) (l:List Tip):Prop where
  len:l.length<=1000000
  inc:l.Pairwise λx y=>x.state<y.state
  st: ∀x∈l,0<=x.state/\x.state<n
  out: ∀x∈l,x.out.length<=4096
theorem Z4(b x:T_1)(hx:x.length<=281474976710656)(h:b.length+x.length<=140737488355328):zA ⟨b⟩ x=some (((x.length:Nat):Int),(),⟨b++x⟩):=by
  unfold zA it_ ip_
  rw [aF hx,fD,aF h]
theorem in_(b:T_1)(x:UInt8)(h:b.length+1<=140737488355328):FN ⟨b⟩ x=some ((),⟨b++[x]⟩):=by
  unfold FN it_ ip_
  rw [fD,aF (by simpa using h)]
theorem key_eq {n : Int} (hn : n <= 1024) {l : List Tip} (h : RowOk n l) : G1_ l = some (sD l) := by
  unfold G1_
  obtain ⟨r,h1,h2⟩:=kT (step:=λq:T_1×Nat=>Qn l q.1 q.2) (λs k=>(s,k)) l.length (λk s=>s=sD (l.take k)/\s.length<=k * 4200) (λr=>r=sD l)
    (λk s hk hI=>by
      obtain ⟨rfl,hI⟩:=hI
      have hm:=wz aK hk
      have hst:=h.st _ hm
      have hout:=h.out _ hm
      have hlen:=h.len
      have hd1:=lq_ (u:=(nth l k aK).state.toNat) (by omega)
      have hd2:=lq_ (u:=(nth l k aK).out.length) (by omega)
      refine .inl ⟨sD (l.take k)++Jk (nth l k aK) [],?_,by rw [yH l hk aK,rm_],?_⟩
      · show Qn l (sD (l.take k)) k=_
        unfold Qn
        have hk1:k<=1000000:=by omega
        have hk2:k * 4200<=4200000000:=by omega
        rw [bI (by omega),aF ⟨by omega,by omega⟩,m1_ hst.1,Z4 _ _ (by omega) (by omega),fD]
        show bnd (FN ⟨sD (l.take k)++Lib.decDigits (nth l k aK).state.toNat⟩ 58) _=_
        rw [in_ _ _ (by rw [gB];omega),fD,aF ⟨by omega,by omega⟩,m1_ (by omega),iW]
        show bnd (zA ⟨sD (l.take k)++Lib.decDigits (nth l k aK).state.toNat++[58]⟩ (Lib.decDigits (nth l k aK).out.length)) _=_
        rw [Z4 _ _ (by omega) (by simp only [gB,kD];omega),fD]
        show bnd (FN ⟨sD (l.take k)++Lib.decDigits (nth l k aK).state.toNat++[58]++Lib.decDigits (nth l k aK).out.length⟩ 58) _=_
        rw [in_ _ _ (by simp only [gB,kD];omega),fD]
        show bnd (zA ⟨sD (l.take k)++Lib.decDigits (nth l k aK).state.toNat++[58]++Lib.decDigits (nth l k aK).out.length++[58]⟩ (nth l k aK).out) _=_
        rw [Z4 _ _ (by omega) (by simp only [gB,kD];omega),fD]
        show nxt (_,_)=some (.inl (_,_))
        unfold Jk
        simp [nxt]
      rw [gB]
      unfold Jk
      simp only [gB,List.length_cons,List.length_nil]
      omega)
    (λs hI=>by
      obtain ⟨rfl,hI⟩:=hI
      refine ⟨_,?_,rfl⟩
      rw [List.take_length]
      show Qn l (sD l) l.length=_
      unfold Qn WJ
      rw [bK (by omega),fD];rfl) (s0:=[]) ⟨rfl,by simp⟩
  rw [<-h2];exact h1
def Ns(most:Int)(R:List (List Tip))(r:List Tip):Int⊕(Nat×List (List Tip)):=
  if r∈R then .inr (R.idxOf r,R) else if most<=(R.length:Int) then .inl 2 else .inr (R.length,R++[r])
theorem re_{R:List (List Tip)}{r:List Tip}(h:r∈R):R.idxOf r<R.length:=List.idxOf_lt_length_iff.2 h
theorem w5_{R:List (List Tip)}{r:List Tip}(h:r∈R):nth R (R.idxOf r) []=r:=by
  unfold nth
  rw [List.getD_eq_getElem?_getD,List.getElem?_eq_getElem (re_ h)]
  exact List.getElem_idxOf (re_ h)
structure Places (n:Int) (m:FM T_1 Int) (R:List (List Tip)):Prop where
  ok: ∀r∈R,RowOk n r
  nd:R.Nodup
  at': ∀i,i<R.length->m.f (sD (nth R i []))=some ((i:Nat):Int)
  is: ∀k v,m.f k=some v-> ∃i,i<R.length/\sD (nth R i [])=k
theorem Places.nil(n:Int):Places n FM.emp []:=⟨by simp,List.nodup_nil,by simp,λk v h=>by cases h⟩
theorem G7{α:Type}{l m:List α}{i:Nat}(h:i<l.length)(d:α):nth (l++m) i d=nth l i d:=by
  unfold nth
  rw [List.getD_eq_getElem?_getD,List.getD_eq_getElem?_getD,List.getElem?_append_left h]
theorem LX{α:Type}(l:List α)(x d:α):nth (l++[x]) l.length d=x:=by
  unfold nth
  rw [List.getD_eq_getElem?_getD,List.getElem?_append_right (Nat.le_refl _),Nat.sub_self];rfl
theorem Places.key{n:Int}{m:FM T_1 Int}{R:List (List Tip)}(h:Places n m R){r:List Tip}(hr:RowOk n r):m.has (sD r)=decide (r∈R):=by
  unfold FM.has
  rw [Bool.eq_iff_iff,jV]
  constructor
  · intro hs
    obtain ⟨v,hv⟩:=Option.isSome_iff_exists.1 hs
    obtain ⟨i,h1,h2⟩:=h.is _ _ hv
    have h3:=wz [] h1
    have:=qd_ (λx hx=>((h.ok _ h3).st x hx).1) (λx hx=>(hr.st x hx).1) h2
    rw [<-this];exact h3
  intro hm
  have:=h.at' _ (re_ hm)
  rw [w5_ hm]at this
  rw [this];rfl
theorem Places.get{n:Int}{m:FM T_1 Int}{R:List (List Tip)}(h:Places n m R){r:List Tip}(hm:r∈R):m.get (sD r) 0=((R.idxOf r:Nat):Int):=by
  have:=h.at' _ (re_ hm)
  rw [w5_ hm]at this
  unfold FM.get
  rw [this];rfl
theorem Places.put{n:Int}{m:FM T_1 Int}{R:List (List Tip)}(h:Places n m R){r:List Tip}(hr:RowOk n r)(hm:r∉R):Places n (m.put (sD r) ((R.length:Nat):Int)) (R++[r]):=by
  refine ⟨λx hx=> ?_,?_,λi hi=> ?_,λk v hk=> ?_⟩
  · rcases List.mem_append.1 hx with hx|hx
    · exact h.ok x hx
    rw [List.mem_singleton.1 hx];exact hr
  · rw [List.nodup_append]
    refine ⟨h.nd,by simp,λa ha b hb e=> ?_⟩
    rw [List.mem_singleton.1 hb]at e
    exact hm (e▸ha)
  · rw [gB,kD]at hi
    show (if sD (nth (R++[r]) i [])=sD r then _ else _)=_
    by_cases e:i=R.length
    · subst e
      rw [LX,if_pos rfl]
    have hl:i<R.length:=by omega
    rw [G7 hl]
    have h3:=wz [] hl
    rw [if_neg λq=> ?_]
    · exact h.at' i hl
    have:=qd_ (λx hx=>((h.ok _ h3).st x hx).1) (λx hx=>(hr.st x hx).1) q
    exact hm (this▸h3)
  change (if k=sD r then _ else _)=_ at hk
  rw [gB,kD]
  by_cases e:k=sD r
  · exact ⟨R.length,by omega,by rw [LX];exact e.symm⟩
  rw [if_neg e]at hk
  obtain ⟨i,h1,h2⟩:=h.is _ _ hk
  exact ⟨i,by omega,by rw [G7 h1];exact h2⟩
def putR(x:Maker)(R:List (List Tip))(m:FM T_1 Int):Maker:=⟨x.arcs,x.ends,x.most,R,m,x.q⟩
theorem ub_{n:Int}(hn:n<=1024){x0:Maker}(h:Places n x0.places x0.rows){r:List Tip}(hr:RowOk n r)(hl:x0.rows.length<=1000000):
    (∀k,Ns x0.most x0.rows r= .inl k->IK x0 r=some (.inl k))/\ ∀i R',Ns x0.most x0.rows r= .inr (i,R')-> ∃m',IK x0 r=some (.inr (((i:Nat):Int),putR x0 R' m'))/\Places n m' R':=by
  have hst:IK x0 r=aN (decide (r∈x0.rows)) (some (.inr ((x0.places.get (sD r) 0),x0))) (aN (decide (x0.most<=((x0.rows.length:Nat):Int))) (some (.inl 2)) (some (.inr (((x0.rows.length:Nat):Int),(⟨x0.arcs,x0.ends,x0.most,(x0.rows++[r]),(x0.places.put (sD r) ((x0.rows.length:Nat):Int)),x0.q⟩:Maker))))):=by
    unfold IK
    rw [key_eq hn hr,fD,h.key hr,aF (by simp;omega)]
  rw [hst]
  unfold Ns
  by_cases c:r∈x0.rows
  · rw [if_pos c,bI c]
    refine ⟨λk e=>(by cases e),λi R' e=> ?_⟩
    cases e
    exact ⟨x0.places,by rw [h.get c];rfl,h⟩
  rw [if_neg c,bK c]
  by_cases d:x0.most<=(x0.rows.length:Int)
  · rw [if_pos d,bI d]
    exact ⟨λk e=>(by cases e;rfl),λi R' e=>(by cases e)⟩
  rw [if_neg d,bK d]
  refine ⟨λk e=>(by cases e),λi R' e=> ?_⟩
  cases e
  exact ⟨_,rfl,h.put hr c⟩
inductive RchQ (q:Seq):Nat->Prop
  |zero:RchQ q 0
  |step {s b:Nat}:RchQ q s->b<256->0<=nxQ q s b->RchQ q (nxQ q s b).toNat
def IC(k:Nat->Bool)(n:Nat):List Nat:=(List.range n).filter k
theorem js_(k:Nat->Bool)(n:Nat):IC k (n+1)=IC k n++if k n=true then [n] else []:=by
  unfold IC
  rw [List.range_succ,List.filter_append]
  congr 1
  by_cases c:k n=true
  · rw [if_pos c,List.filter_cons_of_pos c];rfl
  rw [if_neg c,List.filter_cons_of_neg c];rfl
theorem Yx(k:Nat->Bool): ∀n,(IC k n).length=jA k n
  |0=>rfl
  |n+1=>by
    rw [js_,gB,Yx k n,jA]
    cases k n<;>rfl
theorem kx_(k:Nat->Bool){s:Nat}(hk:k s=true): ∀{n:Nat},s<n->nth (IC k n) (jA k s) 0=s
  |n+1,hs=>by
    rw [js_]
    by_cases c:s<n
    · rw [G7 (by rw [Yx];exact Z9 k c hk)];exact kx_ k hk c
    have:s=n:=by omega
    subst this
    rw [if_pos hk,<-Yx k s];exact LX _ _ _
def nxP(q:Seq)(k:Nat->Bool)(s b:Nat):Int:=if nxQ q s b<0 then -1 else if k (nxQ q s b).toNat=true then ((jA k (nxQ q s b).toNat:Nat):Int) else -1
def otP(q:Seq)(l:aC)(k:Nat->Bool)(s b:Nat):T_1:=if nxQ q s b<0 then [] else if k (nxQ q s b).toNat=true then (otQ q s b++nth l (nxQ q s b).toNat []).drop (nth l s []).length else []
def tlP(q:Seq)(l:aC)(s:Nat):T_1:=if nth q.fin s false=true then (nth q.tail s []).drop (nth l s []).length else []
def pJ(q:Seq)(l:aC)(k:Nat->Bool):Seq:=
  ⟨q.front++nth l 0 [],(IC k q.next.length).map λs=>(List.range 256).map (nxP q k s),(IC k q.next.length).map λs=>(List.range 256).map (otP q l k s),(IC k q.next.length).map λs=>nth q.fin s false,(IC k q.next.length).map (tlP q l)⟩
theorem Yw{n i:Nat}(h:i<n):nth (List.range n) i 0=i:=by
  rw [Tn _ (by rw [List.length_range];exact h),List.getElem_range]
section
variable {q:Seq} {l:aC} {k:Nat->Bool} {s:Nat}
theorem n5_(hs:s<q.next.length)(hk:k s=true):jA k s<(IC k q.next.length).length:=by rw [Yx];exact Z9 k hs hk
theorem qo_(hs:s<q.next.length)(hk:k s=true){b:Nat}(hb:b<256):nxQ (pJ q l k) (jA k s) b=nxP q k s b:=by
  unfold nxQ pJ
  rw [zB _ _ _ 0 _ (n5_ hs hk),kx_ k hk hs,zB _ _ _ 0 _ (by rw [List.length_range];exact hb),Yw hb]
theorem qj_(hs:s<q.next.length)(hk:k s=true){b:Nat}(hb:b<256):otQ (pJ q l k) (jA k s) b=otP q l k s b:=by
  unfold otQ pJ
  rw [zB _ _ _ 0 _ (n5_ hs hk),kx_ k hk hs,zB _ _ _ 0 _ (by rw [List.length_range];exact hb),Yw hb]
theorem sb_(hs:s<q.next.length)(hk:k s=true):nth (pJ q l k).fin (jA k s) false=nth q.fin s false:=by
  unfold pJ
  rw [zB _ _ _ 0 _ (n5_ hs hk),kx_ k hk hs]
theorem pe_(hs:s<q.next.length)(hk:k s=true):nth (pJ q l k).tail (jA k s) []=tlP q l s:=by
  unfold pJ
  rw [zB _ _ _ 0 _ (n5_ hs hk),kx_ k hk hs]
end
theorem Yv(q:Seq)(l:aC)(k:Nat->Bool):(pJ q l k).next.length=jA k q.next.length:=by
  unfold pJ;rw [List.length_map,Yx]
theorem nf_{q:Seq}(hq:eP q=true){l:aC}{m:B_1}(h:FrOk q l m){s b:Nat}(hs:s<q.next.length)(hb:b<256)(h0:0<=nxQ q s b)(hm:nth m (nxQ q s b).toNat false=true):
    nth l s [] <+: otQ q s b++nth l (nxQ q s b).toNat []:=by
  have hz:=oG hq hs hb
  have hv:=xu_ hb h0 (h.com s hs)
  obtain ⟨w,y,hy⟩:=(h.live (nxQ q s b).toNat (by omega)).1 hm
  have h1:=hv w y hy
  rcases List.prefix_or_prefix_of_prefix h1 (List.prefix_append (otQ q s b) y)with h2|⟨r,hr⟩
  · exact h2.trans (List.prefix_append _ _)
  rw [<-hr,List.prefix_append_right_inj]
  refine h.up _ (by omega) hm r λw y hy=> ?_
  have:=hv w y hy
  rwa [<-hr,List.prefix_append_right_inj]at this
def V5(q:Seq)(m:B_1)(k:Nat->Bool):Prop:= ∀s,s<q.next.length->(k s=true↔RchQ q s/\nth m s false=true)
theorem G5_ {q : Seq} (hq : eP q = true) {l : aC} {m : B_1} (h : FrOk q l m) {k : Nat -> Bool} (hk : V5 q m k) : ∀ (w : T_1) (s : Nat), s < q.next.length -> k s = true -> dh (pJ q l k) (jA k s) w = (dh q s w).map λy => y.drop (nth l s []).length
  |[],s,hs,hks=>by
    rw [dh,dh,sb_ hs hks,pe_ hs hks]
    unfold tlP
    by_cases c:nth q.fin s false=true
    · rw [if_pos c,if_pos c,if_pos c];rfl
    rw [if_neg c,if_neg c];rfl
  | b :: w, s, hs, hks => by
    have hb:b.toNat<256:=by have:=UInt8.toNat_lt b;omega
    rw [dh,dh,qo_ hs hks hb,qj_ hs hks hb]
    unfold nxP otP
    have hz:=oG hq hs hb
    by_cases c:nxQ q s b.toNat<0
    · rw [if_pos c,if_pos c,if_pos c,if_pos (by decide)];rfl
    rw [if_neg c,if_neg c,if_neg c]
    have hzl:(nxQ q s b.toNat).toNat<q.next.length:=by omega
    by_cases d:k (nxQ q s b.toNat).toNat=true
    · rw [if_pos d,if_pos d,if_neg (by omega),iW,G5_ hq h hk w _ hzl d]
      cases ho:dh q (nxQ q s b.toNat).toNat w with
      |none=>rfl
      |some y=>
        show some _=some _
        congr 1
        obtain ⟨y',hy'⟩:=h.com _ hzl w y ho
        have hf:=(nf_ hq h hs hb (by omega) ((hk _ hzl).1 d).2).length_le
        show (otQ q s b.toNat++nth l (nxQ q s b.toNat).toNat []).drop (nth l s []).length++y.drop (nth l (nxQ q s b.toNat).toNat []).length=(otQ q s b.toNat++y).drop (nth l s []).length
        rw [<-hy',List.drop_left,<-qH,List.drop_append_of_le_length hf]
    rw [if_neg d,if_neg d,if_pos (by decide)]
    have hr:=((hk s hs).1 hks).1
    cases ho:dh q (nxQ q s b.toNat).toNat w with
    |none=>rfl
    |some y=>
      have:=(h.live _ hzl).2 ⟨w,y,ho⟩
      exact absurd ((hk _ hzl).2 ⟨hr.step hb (by omega),this⟩) d
theorem rch_lt{q:Seq}(hlt: ∀s b,s<q.next.length->b<256->nxQ q s b<(q.next.length:Int))(h0:0<q.next.length){s:Nat}(h:RchQ q s):s<q.next.length:=by
  induction h with
  |zero=>exact h0
  |step _ hb h1 ih=>have:=hlt _ _ ih hb;omega
theorem uq_(q:Seq)(l:aC){k:Nat->Bool}(hq:eP q=true){s b:Nat}(hs:s<q.next.length)(hb:b<256):nxP q k s b<((pJ q l k).next.length:Int):=by
  rw [Yv]
  have hz:=oG hq hs hb
  unfold nxP
  split
  · omega
  split
  · rename_i c
    have:=Z9 k (m:=(nxQ q s b).toNat) (n:=q.next.length) (by omega) c
    omega
  omega
theorem I8_{q:Seq}(hq:eP q=true){l:aC}{m:B_1}(h:FrOk q l m){k:Nat->Bool}(hk:V5 q m k):PshQ (pJ q l k):=by
  have hl:=Yv q l k
  refine ⟨λp b hp hb=> ?_,λp hp=> ?_,λp hp x hx=> ?_⟩
  · obtain ⟨s,h1,h2,h3⟩:=kh_ k q.next.length p (by omega)
    rw [<-h3,qo_ h1 h2 hb]
    exact uq_ q l hq h1 hb
  · obtain ⟨s,h1,h2,h3⟩:=kh_ k q.next.length p (by omega)
    obtain ⟨w,y,hy⟩:=(h.live s h1).1 ((hk s h1).1 h2).2
    refine ⟨w,y.drop (nth l s []).length,?_⟩
    rw [<-h3,G5_ hq h hk w s h1 h2,hy];rfl
  obtain ⟨s,h1,h2,h3⟩:=kh_ k q.next.length p (by omega)
  have hc:ComQ q s (nth l s []++x):=λw y hy=>by
    obtain ⟨y',hy'⟩:=h.com s h1 w y hy
    rw [<-hy',List.prefix_append_right_inj]
    refine hx w y' ?_
    rw [<-h3,G5_ hq h hk w s h1 h2,hy,<-hy']
    show some ((nth l s []++y').drop (nth l s []).length)=some y'
    rw [List.drop_left]
  have:=(h.up s h1 ((hk s h1).1 h2).2 _ hc).length_le
  rw [gB]at this
  exact o7 (by omega)
def uf(q:Seq)(w:T_1):Option T_1:=(dh q 0 w).map λy=>q.front++y
theorem I5_{q:Seq}(hq:eP q=true){l:aC}{m:B_1}(h:FrOk q l m){k:Nat->Bool}(hk:V5 q m k)(h0:0<q.next.length)(hk0:k 0=true)(w:T_1):uf (pJ q l k) w=uf q w:=by
  have:=G5_ hq h hk w 0 h0 hk0
  rw [show jA k 0=0 from rfl]at this
  unfold uf
  rw [this]
  cases ho:dh q 0 w with
  |none=>rfl
  |some y=>
    obtain ⟨y',hy'⟩:=h.com 0 h0 w y ho
    rw [<-hy']
    show some ((q.front++nth l 0 [])++(nth l 0 []++y').drop (nth l 0 []).length)=some (q.front++(nth l 0 []++y'))
    rw [List.drop_left,qH]
theorem qc_{q:Seq}: ∀(w:T_1) (i s:Nat) (acc:T_1),(DC q w i ((s:Nat):Int) acc).1=(((dh q s w).map λy=>acc++y).getD [])/\(DC q w i ((s:Nat):Int) acc).2.2=(dh q s w).isSome
  |[],i,s,acc=>by
    rw [DC,dh,iW]
    by_cases c:nth q.fin s false=true
    · rw [if_pos c,if_pos c];exact ⟨rfl,rfl⟩
    rw [if_neg c,if_neg c];exact ⟨rfl,rfl⟩
  |b::w,i,s,acc=>by
    rw [DC,dh,iW]
    change (if nxQ q s b.toNat<0 then _ else DC q w (i+1) (nxQ q s b.toNat) (acc++otQ q s b.toNat)).1=_/\(if nxQ q s b.toNat<0 then _ else DC q w (i+1) (nxQ q s b.toNat) (acc++otQ q s b.toNat)).2.2=_
    by_cases c:nxQ q s b.toNat<0
    · rw [if_pos c,if_pos c];exact ⟨rfl,rfl⟩
    rw [if_neg c,if_neg c]
    have:=qc_ (q:=q) w (i+1) (nxQ q s b.toNat).toNat (acc++otQ q s b.toNat)
    rw [show (((nxQ q s b.toNat).toNat:Nat):Int)=nxQ q s b.toNat by omega]at this
    rw [this.1,this.2]
    cases dh q (nxQ q s b.toNat).toNat w with
    |none=>exact ⟨rfl,rfl⟩
    |some y=>exact ⟨by show (acc++_)++y=acc++(_++y);rw [qH],rfl⟩
theorem vr_{q:Seq}(hq:eP q=true)(w:T_1):(Nu q w).1=(uf q w).getD []/\(Nu q w).2.2.1=(uf q w).isSome/\(Nu q w).2.2.2=0:=by
  refine ⟨?_,?_,q3_ hq w⟩<;>unfold Nu uf<;>rw [if_pos hq]
  · by_cases c:q.next.length=0
    · rw [if_pos c,LY (o7 c) (o7 (by have:=(mW hq).2.2.1;omega))];rfl
    rw [if_neg c];exact (qc_ (q:=q) w 0 0 q.front).1
  by_cases c:q.next.length=0
  · rw [if_pos c,LY (o7 c) (o7 (by have:=(mW hq).2.2.1;omega))];rfl
  rw [if_neg c]
  have:=(qc_ (q:=q) w 0 0 q.front).2
  show (DC q w 0 0 q.front).2.2=_
  refine this.trans ?_
  cases dh q 0 w<;>rfl
theorem qf_:CanQ Seq.zero:=by
  refine ⟨⟨λs b hs=> ?_,λs hs=> ?_,λs hs=> ?_⟩,by decide+kernel,λc j hc=> ?_,λj _ hj=> ?_,λs t hs=> ?_⟩
  · exact absurd hs (Nat.not_lt_zero _)
  · exact absurd hs (Nat.not_lt_zero _)
  · exact absurd hs (Nat.not_lt_zero _)
  · exact absurd hc (by show ¬ c<0 * 256;omega)
  · exact absurd hj (Nat.not_lt_zero _)
  exact absurd hs (Nat.not_lt_zero _)
theorem vi_ {m m' : Seq} (h : PshQ m) (h' : PshQ m') (c : 0 < m.next.length) (c' : 0 < m'.next.length) (he : ∀ w, uf m w = uf m' w) : m.front = m'.front /\ dh m 0 = dh m' 0 := by
  have hall: ∀w,(dh m 0 w).map (λy=>m.front++y)=(dh m' 0 w).map λy=>m'.front++y:=he
  have hf:m.front=m'.front:=by
    obtain ⟨w,y,hy⟩:=h.live 0 (by omega)
    have h2:=hall w
    rw [hy]at h2
    cases ho:dh m' 0 w with
    |none=>rw [ho]at h2;cases h2
    |some y'=>
      rw [ho]at h2
      have h3:m.front++y=m'.front++y':=Option.some.inj h2
      rcases List.prefix_or_prefix_of_prefix (List.prefix_append m.front y) (h3▸List.prefix_append m'.front y')with ⟨r,hr⟩|⟨r,hr⟩
      · have:r=[]:=qh_ h (show 0<_ by omega) (o:=m.front) (r:=r) (m':=m') (z':=0) λw=>by rw [hr];exact hall w
        rw [<-hr,this,List.append_nil]
      have:r=[]:=qh_ h' (show 0<_ by omega) (o:=m'.front) (r:=r) (m':=m) (z':=0) λw=>by rw [hr];exact (hall w).symm
      rw [<-hr,this,List.append_nil]
  refine ⟨hf,funext λw=> ?_⟩
  have h2:=hall w
  rw [hf]at h2
  cases h3:dh m 0 w with
  |none=>cases h4:dh m' 0 w with
    |none=>rfl
    |some y'=>rw [h3,h4]at h2;cases h2
  |some y=>cases h4:dh m' 0 w with
    |none=>rw [h3,h4]at h2;cases h2
    |some y'=>
      rw [h3,h4]at h2
      have h5:m'.front++y=m'.front++y':=Option.some.inj h2
      rw [List.append_cancel_left h5]
theorem xz_{m m':Seq}(h:CanQ m)(h':CanQ m')(he: ∀w,uf m w=uf m' w):m=m':=by
  obtain ⟨q1,q2,q3,q4,q5⟩:=mW h.right
  obtain ⟨p1,p2,p3,p4,p5⟩:=mW h'.right
  have hno: ∀{n:Seq},eP n=true->n.next.length=0->n=Seq.zero:=λ{n} hn h0=>by
    obtain ⟨q1,q2,q3,q4,q5⟩:=mW hn
    have hf:n.front=[]:=by
      simp only [eP,yP,Bool.and_eq_true,Bool.or_eq_true,jV]at hn
      rcases hn.1.2 with c|c
      · exact absurd h0 c
      exact c
    exact Gc_ hf (o7 h0) (o7 (by omega)) (o7 (by omega)) (o7 (by omega))
  have hem: ∀w,uf Seq.zero w=none:=λw=>by unfold uf;rw [LY rfl rfl];rfl
  have hlive: ∀{n:Seq},CanQ n->0<n.next.length-> ∃w y,uf n w=some y:=λ{n} hn h0=>by
    obtain ⟨w,y,hy⟩:=hn.live 0 h0
    exact ⟨w,_,by unfold uf;rw [hy];rfl⟩
  by_cases c:m.next.length=0
  · have e:=hno h.right c
    by_cases c':m'.next.length=0
    · rw [e,hno h'.right c']
    obtain ⟨w,y,hy⟩:=hlive h' (by omega)
    rw [<-he,e,hem]at hy;cases hy
  by_cases c':m'.next.length=0
  · obtain ⟨w,y,hy⟩:=hlive h (by omega)
    rw [he,hno h'.right c',hem]at hy;cases hy
  obtain ⟨e1,e2⟩:=vi_ h.toPshQ h'.toPshQ (by omega) (by omega) he
  exact zo_ h h' e1 e2
theorem un_{q:Seq}{k:Nat->Bool}(h0:0<q.next.length)(hk:k 0=true):0<jA k q.next.length:=by have:=Z9 _ h0 hk;omega
theorem Iv_{p:Seq}(hp:eP p=true){lp:aC}{kp:Nat->Bool}(np:0<p.next.length)(kp0:kp 0=true)(hf:(pJ p lp kp).front.length<=4096)(hle: ∀a,a<p.next.length->kp a=true-> ∀b,b<256->(otP p lp kp a b).length<=4096):eP (pJ p lp kp)=true:=by
  have lP:=Yv p lp kp
  have posP:=un_ np kp0
  have hself:=PI kp p.next.length
  have hp1:=(mW hp).1
  have hlk:(IC kp p.next.length).length=(pJ p lp kp).next.length:=by rw [Yx,lP]
  refine q7_ (by omega) ?_ ?_ ?_ hf (.inl (by omega)) λi hi=> ?_
  · show (List.map _ _).length=_
    rw [List.length_map,hlk]
  · show (List.map _ _).length=_
    rw [List.length_map,hlk]
  · show (List.map _ _).length=_
    rw [List.length_map,hlk]
  obtain ⟨a,h1,h2,h3⟩:=kh_ kp p.next.length i (by omega)
  have hkl:=n5_ h1 h2
  rw [h3]at hkl
  have hnx: ∀b,b<256->nxQ (pJ p lp kp) i b=nxP p kp a b:=λb hb=>by rw [<-h3];exact qo_ h1 h2 hb
  have hot: ∀b,b<256->otQ (pJ p lp kp) i b=otP p lp kp a b:=λb hb=>by rw [<-h3];exact qj_ h1 h2 hb
  have hno: ∀b,b<256->nxP p kp a b<0->otP p lp kp a b=[]:=λb hb c=>by
    unfold nxP at c
    unfold otP
    split
    · rfl
    rename_i d
    rw [if_neg d]at c
    split
    · rename_i f;rw [if_pos f]at c;omega
    rfl
  have hfin:nth (pJ p lp kp).fin i false=nth p.fin a false:=by rw [<-h3];exact sb_ h1 h2
  have htl:nth (pJ p lp kp).tail i []=tlP p lp a:=by rw [<-h3];exact pe_ h1 h2
  have ht:=(Ia hp h1).1
  refine ⟨?_,?_,?_,?_,λb hb=> ?_,λb hb=> ?_,λb hb=> ?_,λb hb c=> ?_⟩
  · rw [htl];unfold tlP
    split
    · rw [List.length_drop];omega
    exact Nat.zero_le _
  · rw [hfin,htl];unfold tlP
    cases nth p.fin a false with
    |true=>exact .inl rfl
    |false=>exact .inr (if_neg (by decide))
  · show (nth (List.map _ _) i []).length=_
    rw [zB _ _ _ 0 _ hkl,List.length_map,List.length_range]
  · show (nth (List.map _ _) i []).length=_
    rw [zB _ _ _ 0 _ hkl,List.length_map,List.length_range]
  · rw [hnx b hb];unfold nxP
    split
    · omega
    split<;>omega
  · rw [hnx b hb];exact uq_ p lp hp h1 hb
  · rw [hot b hb];exact hle a h1 h2 b hb
  rw [hot b hb];exact hno b hb (by rw [<-hnx b hb];omega)
structure RchOk (q:Seq) (v:B_1):Prop where
  len:v.length=q.next.length
  iff: ∀s,s<q.next.length->(nth v s false=true↔RchQ q s)
theorem RchOk.uniq{q:Seq}{v v':B_1}(h:RchOk q v)(k:RchOk q v'):v=v':=
  DK false (by rw [h.len,k.len]) λs hs=>by
    have hs:s<q.next.length:=by rw [<-h.len];exact hs
    rw [Bool.eq_iff_iff,h.iff s hs,k.iff s hs]
def unM(v:B_1)(i:Nat):Nat:=if nth v i false=true then 0 else 1
theorem x2_(v:B_1)(n:Nat):jk (unM v) n<=n:=by
  have:=qi_ (f:=unM v) (g:=λ_=>1) (n:=n) λi _=>by unfold unM;split<;>omega
  rw [j8_]at this;omega
theorem sn_{v:B_1}{n s:Nat}(hs:s<n)(hl:v.length=n)(h:nth v s false=false):jk (unM (v.set s true)) n+1=jk (unM v) n:=by
  have:=jc_ (f:=unM v) (g:=unM (v.set s true)) (s:=s) (n:=n) hs λi hi hne=>by
    unfold unM;rw [DI hne]
  have e1:unM (v.set s true) s=0:=by unfold unM;rw [G6 (by omega)];rfl
  have e2:unM v s=1:=by unfold unM;rw [h];rfl
  omega
theorem ue_{q:Seq}(hq:eP q=true){v:B_1}(hl:v.length=q.next.length)(h0:0<q.next.length)(hz:nth v 0 false=true)(hr: ∀s,s<q.next.length->nth v s false=true->RchQ q s)
    (hc: ∀s,s<q.next.length->nth v s false=true-> ∀b,b<256->0<=nxQ q s b->nth v (nxQ q s b).toNat false=true):RchOk q v:=by
  refine ⟨hl,λs hs=>⟨hr s hs,λh=> ?_⟩⟩
  clear hs
  induction h with
  |zero=>exact hz
  |step h1 hb h2 ih=>exact hc _ (rch_lt (λs b hs hb=>oG hq hs hb) h0 h1) ih _ hb h2
structure RIn (q:Seq) (v:B_1) (w:ak) (s j:Nat) (v':B_1) (w':ak):Prop where
  len:v'.length=q.next.length
  old: ∀i,nth v i false=true->nth v' i false=true
  ow: ∀x∈w,x∈w'
  nw: ∀x∈w',x∈w\/(0<=x/\x<(q.next.length:Int)/\nth v' x.toNat false=true)
  fr: ∀i,nth v' i false=true->nth v i false=true\/(((i:Nat):Int)∈w'/\ ∃b,b<256/\nxQ q s b=((i:Nat):Int))
  to: ∀b,b<j->0<=nxQ q s b->nth v' (nxQ q s b).toNat false=true
  mu:2 * jk (unM v') q.next.length+w'.length<=2 * jk (unM v) q.next.length+w.length
theorem rch_in {q : Seq} (hq : eP q = true) {s : Nat} (hs : s < q.next.length) (z0 : ak) (hz0 : (nth z0 0 0).toNat = s) {v : B_1} (hv : v.length = q.next.length) (w : ak) (hw : w.length <= 1000000) :
    ∃v' w',bC (λz:B_1×ak×Nat=>NQ q z0 z.1 z.2.1 z.2.2) (v,w,0)=some (.inl (v',w'))/\RIn q v w s 256 v' w':=by
  obtain ⟨r1,r2⟩:=vX hq hs
  have hn1:=(mW hq).1
  obtain ⟨r,h1,v',w',rfl,h2⟩:=kT (step:=λz:B_1×ak×Nat=>NQ q z0 z.1 z.2.1 z.2.2) (λ(z:B_1×ak) k=>(z.1,z.2,k)) 256 (λk z=>RIn q v w s k z.1 z.2) (λr=> ∃v' w',r= .inl (v',w')/\RIn q v w s 256 v' w')
    (by
      rintro k ⟨v1,w1⟩ hk hI
      simp only at hI
      left
      have hlt:=oG hq hs hk
      have hl:=hI.len
      have hu:=x2_ v q.next.length
      have hmu:=hI.mu
      show ∃s':B_1×ak,NQ q z0 v1 w1 k=some (.inl (s'.1,s'.2,k+1))/\_
      unfold NQ
      have e1:nth (nth q.next s []) k 0=nxQ q s k:=rfl
      rw [hz0,bI (by omega)]
      simp only [e1]
      by_cases c:0<=nxQ q s k
      · rw [bI c,aF (show 0<=nxQ q s k/\nxQ q s k<(v1.length:Int) by omega)]
        cases d:nth v1 (nxQ q s k).toNat false with
        |true=>
          rw [qK]
          refine ⟨(v1,w1),rfl,hI.len,hI.old,hI.ow,hI.nw,hI.fr,λb hb hb0=> ?_,hI.mu⟩
          by_cases e:b<k
          · exact hI.to b e hb0
          have:b=k:=by omega
          subst this;exact d
        |false=>
          rw [uj,aF (show 0<=nxQ q s k/\nxQ q s k<(v1.length:Int) by omega),aF (by simp only [kD];omega)]
          have hset:=sn_ (show (nxQ q s k).toNat<q.next.length by omega) hl d
          refine ⟨(v1.set (nxQ q s k).toNat true,w1++[nxQ q s k]),rfl,by simp [hl],λi hi=> ?_,λx hx=>List.mem_append_left _ (hI.ow x hx),λx hx=> ?_,λi hi=> ?_,λb hb hb0=> ?_,?_⟩
          · show nth (v1.set _ _) _ _=_
            rw [jO];split
            · rfl
            exact hI.old i hi
          · show _\/(_/\_/\nth (v1.set _ _) _ _=_)
            rcases List.mem_append.1 hx with hx|hx
            · rcases hI.nw x hx with h|⟨a1,a2,a3⟩
              · exact .inl h
              refine .inr ⟨a1,a2,?_⟩
              rw [jO];split
              · rfl
              exact a3
            rw [yK]at hx
            subst hx
            exact .inr ⟨c,hlt,by rw [jO,if_pos ⟨rfl,by omega⟩]⟩
          · have hi:nth (v1.set (nxQ q s k).toNat true) i false=true:=hi
            rw [jO]at hi
            by_cases e:(nxQ q s k).toNat=i
            · refine .inr ⟨?_,k,hk,by omega⟩
              show _∈w1++[nxQ q s k]
              rw [show ((i:Nat):Int)=nxQ q s k by omega]
              exact List.mem_append_right _ (List.mem_singleton.2 rfl)
            rw [if_neg (λh=>e h.1)]at hi
            rcases hI.fr i hi with h|⟨h,h'⟩
            · exact .inl h
            exact .inr ⟨List.mem_append_left _ h,h'⟩
          · show nth (v1.set _ _) _ _=_
            rw [jO];split
            · rfl
            rename_i e
            by_cases f:b<k
            · exact hI.to b f hb0
            have:b=k:=by omega
            subst this
            exact absurd ⟨rfl,by omega⟩ e
          show 2 * jk (unM (v1.set _ _)) _+(w1++[nxQ q s k]).length<=_
          rw [gB,kD];omega
      rw [bK c]
      refine ⟨(v1,w1),rfl,hI.len,hI.old,hI.ow,hI.nw,hI.fr,λb hb hb0=> ?_,hI.mu⟩
      by_cases e:b<k
      · exact hI.to b e hb0
      have:b=k:=by omega
      subst this;exact absurd hb0 c)
    (by
      rintro ⟨v1,w1⟩ hI
      simp only at hI
      refine ⟨.inl (v1,w1),?_,v1,w1,rfl,hI⟩
      show NQ q z0 v1 w1 256=_
      unfold NQ
      rw [hz0,bK (by omega)];rfl) (s0:=(v,w)) ⟨hv,λ_ h=>h,λ_ h=>h,λ_ h=> .inl h,λ_ h=> .inl h,λb hb=>by omega,Nat.le_refl _⟩
  exact ⟨v',w',h1,h2⟩
structure RchI (q:Seq) (v:B_1) (w:ak):Prop where
  len:v.length=q.next.length
  zero:nth v 0 false=true
  rng: ∀x∈w,0<=x/\x<(q.next.length:Int)/\nth v x.toNat false=true
  rch: ∀s,s<q.next.length->nth v s false=true->RchQ q s
  cl: ∀s,s<q.next.length->nth v s false=true->((s:Nat):Int)∈w\/ ∀b,b<256->0<=nxQ q s b->nth v (nxQ q s b).toNat false=true
  mu:2 * jk (unM v) q.next.length+w.length<=4096
theorem vd_ {q : Seq} (hq : eP q = true) (h0 : 0 < q.next.length) : ∃ v, Ew_ q = some v /\ RchOk q v := by
  have hn1:=(mW hq).1
  unfold Ew_
  rw [aF (by omega),bK (by simp only [r_];omega),aF (by simp only [r_];omega)]
  refine PE (step:=λz:B_1×ak=>Vr q z.1 z.2) (λz=>RchI q z.1 z.2) (λz=>2 * jk (unM z.1) q.next.length+z.2.length) (λr=>RchOk q r) ?_ ?_
  · rintro ⟨v,w⟩ hI
    simp only at hI
    show (∃t',Vr q v w=some (.inl t')/\_/\_)\/ ∃r,Vr q v w=some (.inr r)/\_
    unfold Vr
    cases w with
    |nil=>
      right
      rw [bK (by simp)]
      refine ⟨_,rfl,ue_ hq hI.len h0 hI.zero hI.rch λs hs h=> ?_⟩
      rcases hI.cl s hs h with c|c
      · cases c
      exact c
    |cons z w=>
      left
      have hz:=hI.rng z (jm ..)
      obtain ⟨s,rfl⟩: ∃s:Nat,z=((s:Nat):Int):=⟨z.toNat,by omega⟩
      have hs:s<q.next.length:=by omega
      have hmu:=hI.mu
      rw [List.length_cons]at hmu
      have e0:nth (((s:Nat):Int)::w) 0 0=((s:Nat):Int):=rfl
      have e1:(((s:Nat):Int)::w).drop 1=w:=rfl
      rw [bI (by simp only [List.length_cons];omega),aF (by simp)]
      simp only [e0,e1]
      rw [aF (by omega)]
      obtain ⟨v',w',h1,h2⟩:=rch_in hq hs (((s:Nat):Int)::w) (by rw [e0,iW]) hI.len w (by omega)
      have hm2:=h2.mu
      refine ⟨_,h1,⟨h2.len,h2.old _ hI.zero,λx hx=> ?_,λi hi hi2=> ?_,λi hi hi2=> ?_,?_⟩,?_⟩
      · rcases h2.nw x hx with h|h
        · have:=hI.rng x (pF _ h)
          exact ⟨this.1,this.2.1,h2.old _ this.2.2⟩
        exact h
      · rcases h2.fr i hi2 with h|⟨_,b,hb,hx⟩
        · exact hI.rch i hi h
        have:=(hI.rch s hs (by have:=hz.2.2;rwa [iW]at this)).step hb (by omega)
        rw [hx,iW]at this;exact this
      · rcases h2.fr i hi2 with h|⟨h,_⟩
        · rcases hI.cl i hi h with c|c
          · rcases List.mem_cons.1 c with c|c
            · have:i=s:=by omega
              subst this
              exact .inr λb hb hb0=>h2.to b hb hb0
            exact .inl (h2.ow _ c)
          exact .inr λb hb hb0=>h2.old _ (c b hb hb0)
        exact .inl h
      · show 2 * jk (unM v') _+w'.length<=_
        omega
      show 2 * jk (unM v') _+w'.length<2 * jk (unM v) _+(((s:Nat):Int)::w).length
      rw [List.length_cons];omega
  show RchI q ((List.replicate q.next.length false).set 0 true) [0]
  have hf: ∀i,nth ((List.replicate q.next.length false).set 0 true) i false=true↔i=0:=λi=>by
    rw [jO,AV]
    constructor
    · intro h
      split at h
      · rename_i c;exact c.1.symm
      cases h
    intro h
    rw [if_pos ⟨h.symm,by simp;omega⟩]
  have hu:=x2_ ((List.replicate q.next.length false).set 0 true) q.next.length
  refine ⟨by simp,(hf 0).2 rfl,λx hx=> ?_,λs hs h=> ?_,λs hs h=> ?_,?_⟩
  · rw [yK]at hx
    subst hx
    exact ⟨Int.le_refl _,by omega,(hf _).2 rfl⟩
  · rw [(hf s).1 h];exact .zero
  · rw [(hf s).1 h];exact .inl (List.mem_singleton.2 rfl)
  show _+([0]:ak).length<=_
  rw [kD];omega
def sm_(n:Nat)(k:Nat->Bool)(P:ak):Prop:=P.length=n/\ ∀s,s<n->nth P s 0=if k s=true then ((jA k s:Nat):Int) else -1
def v5_(q:Seq)(l:aC)(k:Nat->Bool)(s:Nat):Prop:= ∀b,b<256->(otP q l k s b).length<=4096
def nxR(q:Seq)(k:Nat->Bool)(s:Nat):ak:=(List.range 256).map (nxP q k s)
def otR(q:Seq)(l:aC)(k:Nat->Bool)(s:Nat):aC:=(List.range 256).map (otP q l k s)
theorem ky_{α:Type}{f:Nat->α}{l:List α}(d:α)(hl:l.length=256)(h: ∀b,b<256->nth l b d=f b):l=(List.range 256).map f:=
  DK d (by simp [hl]) λb hb=>by
    have hb:b<256:=by omega
    rw [h b hb,zB _ _ _ 0 _ (by rw [List.length_range];exact hb),Yw hb]
theorem G9_{α:Type}{f:Nat->α}{l:List α}(d:α){k:Nat}(hl:l.length=256)(hk:k<256)(h: ∀b,b<k->nth l b d=f b){x:α}(hx:x=f k): ∀b,b<k+1->nth (l.set k x) b d=f b:=λb hb=>by
  rw [jO]
  by_cases c:k=b
  · subst c;rw [if_pos ⟨rfl,by omega⟩,hx]
  rw [if_neg (λe=>c e.1)];exact h b (by omega)
structure TuI (q:Seq) (l:aC) (k:Nat->Bool) (s j:Nat) (N:ak) (O:aC):Prop where
  n:N.length=256
  o:O.length=256
  nx: ∀b,b<j->nth N b 0=nxP q k s b
  ot: ∀b,b<j->nth O b []=otP q l k s b
  rest: ∀b,j<=b->nth O b []=[]
  le: ∀b,b<j->(otP q l k s b).length<=4096
theorem TuI.none{q:Seq}{l:aC}{k:Nat->Bool}{s j:Nat}{N:ak}{O:aC}(h:TuI q l k s j N O)(hj:j<256)(h1:nxP q k s j= -1)(h2:otP q l k s j=[]):TuI q l k s (j+1) (N.set j (-1)) O:=by
  refine ⟨by rw [gy];exact h.n,h.o,G9_ 0 h.n hj h.nx h1.symm,λb hb=> ?_,λb hb=>h.rest b (by omega),λb hb=> ?_⟩
  · by_cases c:b<j
    · exact h.ot b c
    have:b=j:=by omega
    subst this;rw [h2];exact h.rest b (Nat.le_refl _)
  by_cases c:b<j
  · exact h.le b c
  have:b=j:=by omega
  subst this;rw [h2];exact Nat.zero_le _
theorem TuI.some{q:Seq}{l:aC}{k:Nat->Bool}{s j:Nat}{N:ak}{O:aC}(h:TuI q l k s j N O)(hj:j<256){z:Int}{o:T_1}(h1:nxP q k s j=z)(h2:otP q l k s j=o)(hl:o.length<=4096):TuI q l k s (j+1) ((N.set j (-1)).set j z) (O.set j o):=by
  have h3:=h.n
  have h4:=h.o
  refine ⟨by simp [h3],by simp [h4],λb hb=> ?_,G9_ [] h4 hj h.ot h2.symm,λb hb=> ?_,λb hb=> ?_⟩
  · rw [jO,jO]
    by_cases c:j=b
    · subst c;rw [if_pos ⟨rfl,by simp;omega⟩,h1]
    rw [if_neg (λe=>c e.1),if_neg (λe=>c e.1)];exact h.nx b (by omega)
  · rw [jO,if_neg (λe=>by omega)];exact h.rest b (by omega)
  by_cases c:b<j
  · exact h.le b c
  have:b=j:=by omega
  subst this;rw [h2];exact hl
theorem TuI.rows{q:Seq}{l:aC}{k:Nat->Bool}{s:Nat}{N:ak}{O:aC}(h:TuI q l k s 256 N O):N=nxR q k s/\O=otR q l k s:=⟨ky_ 0 h.n h.nx,ky_ [] h.o h.ot⟩
theorem wb_ {q : Seq} (hq : eP q = true) {l : aC} {m : B_1} (h : FrOk q l m) {k : Nat -> Bool} (hk : V5 q m k) {P : ak} (hP : sm_ q.next.length k P) {s : Nat} (hs : s < q.next.length) :
    ∃r,E7_ q ((s:Nat):Int) l P=some r/\((v5_ q l k s/\r=(nxR q k s,otR q l k s,true))\/(¬ v5_ q l k s/\r.2.2=false)):=by
  obtain ⟨q1,q2,q3,q4,q5⟩:=mW hq
  obtain ⟨r1,r2⟩:=vX hq hs
  have hll:=h.ln
  have hPl:=hP.1
  have hls:=h.le s hs
  unfold E7_ E3_
  rw [aF (by omega)]
  refine kT (step:=λz:ak×aC×Nat=>NM q ((s:Nat):Int) P l z.1 z.2.1 z.2.2) (λ(z:ak×aC) j=>(z.1,z.2,j)) 256 (λj z=>TuI q l k s j z.1 z.2) (λr=>(v5_ q l k s/\r=(nxR q k s,otR q l k s,true))\/(¬ v5_ q l k s/\r.2.2=false)) ?_ ?_ (s0:=(List.replicate 256 0,List.replicate 256 [])) ⟨by simp,by simp,λb hb=>by omega,λb hb=>by omega,λb _=>AV _ _ _,λb hb=>by omega⟩
  · rintro j ⟨N,O⟩ hj hI
    simp only at hI
    have hNl:=hI.n
    have hOl:=hI.o
    have hlt:=oG hq hs hj
    have hol:=Pv hq hs hj
    show (∃s':ak×aC,NM q ((s:Nat):Int) P l N O j=some (.inl (s'.1,s'.2,j+1))/\_)\/ ∃r,NM q ((s:Nat):Int) P l N O j=some (.inr r)/\_
    unfold NM
    have e1:nth (nth q.next s []) j 0=nxQ q s j:=rfl
    have e2:nth (nth q.outs s []) j []=otQ q s j:=rfl
    rw [iW,bI (by omega),aF (by omega)]
    simp only [e1,e2]
    by_cases c:nxQ q s j<0
    · left
      rw [bI c]
      exact ⟨(_,_),rfl,hI.none hj (by unfold nxP;rw [if_pos c]) (by unfold otP;rw [if_pos c])⟩
    have hz:(nxQ q s j).toNat<q.next.length:=by omega
    have hlz:=h.le _ hz
    have hg:0<=nxQ q s j/\nxQ q s j<(P.length:Int):=by omega
    have hg2:0<=nxQ q s j/\nxQ q s j<(l.length:Int):=by omega
    rw [bK c,aF hg]
    have hPz:=hP.2 _ hz
    by_cases d:k (nxQ q s j).toNat=true
    · rw [if_pos d]at hPz
      rw [bK (by omega),aF hg,aF (by simp;omega),aF (by omega),aF (by omega),aF hg2,aF (by omega)]
      have hfv:=(nf_ hq h hs hj (by omega) ((hk _ hz).1 d).2).length_le
      rw [gB]at hfv
      rw [UM (show -9223372036854775808<=(((otQ q s j).length:Nat):Int)+(((nth l (nxQ q s j).toNat []).length:Nat):Int) by omega) (by omega),UM (by omega) (by omega)]
      have ho:otP q l k s j=(otQ q s j++nth l (nxQ q s j).toNat []).drop (nth l s []).length:=by unfold otP;rw [if_neg c,if_pos d]
      have hol2:(otP q l k s j).length=(otQ q s j).length+(nth l (nxQ q s j).toNat []).length - (nth l s []).length:=by rw [ho,List.length_drop,gB]
      by_cases e:4096<(otQ q s j).length+(nth l (nxQ q s j).toNat []).length - (nth l s []).length
      · right
        rw [bI (by omega)]
        exact ⟨_,rfl,.inr ⟨λhr=>by have:=hr j hj;omega,rfl⟩⟩
      left
      rw [bK (by omega),aF (by omega),aF (by omega),aF hg2,aF (by omega),aF (by omega),aF (by rw [gB];omega),aF (by omega)]
      refine ⟨(_,_),rfl,hI.some hj ?_ ho (by rw [<-ho];omega)⟩
      unfold nxP;rw [if_neg c,if_pos d,hPz]
    rw [if_neg d]at hPz
    left
    rw [bI (by omega)]
    exact ⟨(_,_),rfl,hI.none hj (by unfold nxP;rw [if_neg c,if_neg d]) (by unfold otP;rw [if_neg c,if_neg d])⟩
  rintro ⟨N,O⟩ hI
  simp only at hI
  obtain ⟨e1,e2⟩:=hI.rows
  refine ⟨(N,O,true),?_,.inl ⟨λb hb=>hI.le b hb,by rw [e1,e2]⟩⟩
  show NM q ((s:Nat):Int) P l N O 256=_
  unfold NM
  rw [iW,bK (by omega)];rfl
def oZ(v m:B_1)(s:Nat):Bool:=nth v s false && nth m s false
theorem m9_{q:Seq}{v m:B_1}(hv:RchOk q v):V5 q m (oZ v m):=λs hs=>by
  unfold oZ
  rw [Bool.and_eq_true,hv.iff s hs]
structure NuI (n:Nat) (k:Nat->Bool) (j:Nat) (P:ak):Prop where
  len:P.length=n
  at': ∀s,s<j->nth P s 0=if k s=true then ((jA k s:Nat):Int) else -1
theorem NuI.put{n:Nat}{k:Nat->Bool}{j:Nat}{P:ak}(h:NuI n k j P)(hj:j<n)(hk:k j=true):NuI n k (j+1) ((P.set j (-1)).set j ((jA k j:Nat):Int)):=by
  have hl:=h.len
  refine ⟨by simp [hl],λs hs=> ?_⟩
  rw [jO,jO]
  by_cases c:j=s
  · subst c;rw [if_pos ⟨rfl,by simp;omega⟩,if_pos hk]
  rw [if_neg (λe=>c e.1),if_neg (λe=>c e.1)];exact h.at' s (by omega)
theorem NuI.no{n:Nat}{k:Nat->Bool}{j:Nat}{P:ak}(h:NuI n k j P)(hj:j<n)(hk: ¬ k j=true):NuI n k (j+1) (P.set j (-1)):=by
  have hl:=h.len
  refine ⟨by simp [hl],λs hs=> ?_⟩
  rw [jO]
  by_cases c:j=s
  · subst c;rw [if_pos ⟨rfl,by omega⟩,if_neg hk]
  rw [if_neg (λe=>c e.1)];exact h.at' s (by omega)
def zk(q:Seq)(l:aC)(k:Nat->Bool):Seq×Int:=if eP (pJ q l k)=true then (pJ q l k,0) else (Seq.zero,2)
theorem I0_{q:Seq}{l:aC}{k:Nat->Bool}{s:Nat}(hs:s<q.next.length)(hk:k s=true)(h: ¬ v5_ q l k s): ¬ eP (pJ q l k)=true:=λhr=>h λb hb=>by
  have:=Pv hr (s:=jA k s) (by rw [Yv];exact Z9 k hs hk) hb
  rwa [qj_ hs hk hb]at this
def kR{α:Type}(k:Nat->Bool)(j:Nat)(f:Nat->α):List α:=(IC k j).map f
theorem Tc{α:Type}{k:Nat->Bool}{j:Nat}(h:k j=true)(f:Nat->α):kR k j f++[f j]=kR k (j+1) f:=by unfold kR;rw [js_,if_pos h,List.map_append];rfl
theorem Si{α:Type}{k:Nat->Bool}{j:Nat}(h: ¬ k j=true)(f:Nat->α):kR k j f=kR k (j+1) f:=by unfold kR;rw [js_,if_neg h,List.append_nil]
theorem S_{α:Type}(k:Nat->Bool)(j:Nat)(f:Nat->α):(kR k j f).length<=j:=by unfold kR;rw [List.length_map,Yx];exact PI k j
theorem yz_ {q : Seq} (hq : eP q = true) {l : aC} {m : B_1} (h : FrOk q l m) {k : Nat -> Bool} (hk : V5 q m k) {P : ak} (hP : sm_ q.next.length k P) (v11 : aC × B_1) (e11 : v11 = (l, m)) :
    bC (λz:bZ×fO×B_1×aC×Nat=>MR v11 P q z.1 z.2.1 z.2.2.1 z.2.2.2.1 z.2.2.2.2) (([]:bZ),([]:fO),([]:B_1),([]:aC),0)=some (zk q l k):=by
  subst e11
  obtain ⟨q1,q2,q3,q4,q5⟩:=mW hq
  have hll:=h.ln
  have hml:=h.mn
  have hPl:=hP.1
  refine Exists.elim (kT (step:=λz:bZ×fO×B_1×aC×Nat=>MR (l,m) P q z.1 z.2.1 z.2.2.1 z.2.2.2.1 z.2.2.2.2) (λ(z:bZ×fO×B_1×aC) j=>(z.1,z.2.1,z.2.2.1,z.2.2.2,j)) q.next.length (λj z=>z=(kR k j (nxR q k),kR k j (otR q l k),kR k j (λs=>nth q.fin s false),kR k j (tlP q l))) (λr=>r=zk q l k) ?_ ?_ (s0:=([],[],[],[])) rfl) (λr l7=> ?_)
  · rintro j ⟨N,O,F,T⟩ hj hI
    cases hI
    have hls:=h.le j hj
    have g1:=S_ k j (nxR q k)
    have g2:=S_ k j (otR q l k)
    have g3:=S_ k j (λs=>nth q.fin s false)
    have g4:=S_ k j (tlP q l)
    show (∃s':bZ×fO×B_1×aC,MR (l,m) P q _ _ _ _ j=some (.inl (s'.1,s'.2.1,s'.2.2.1,s'.2.2.2,j+1))/\_)\/ ∃r,MR (l,m) P q _ _ _ _ j=some (.inr r)/\_
    unfold MR
    rw [bI (by simp only [r_];omega),aF (by omega)]
    have hPj:=hP.2 j hj
    by_cases c:k j=true
    · rw [if_pos c]at hPj
      rw [bK (by omega)]
      obtain ⟨r,t1,t2⟩:=wb_ hq h hk hP hj
      rw [t1,fD]
      rcases t2 with ⟨t2,rfl⟩|⟨t2,t3⟩
      · left
        have hj3: ∀T':T_1,T'=tlP q l j->D7_ (kR k j (nxR q k)) (nxR q k j,otR q l k j,true) (kR k j (otR q l k)) j q (kR k j (λs=>nth q.fin s false)) (kR k j (tlP q l)) T'=some (.inl (kR k (j+1) (nxR q k),kR k (j+1) (otR q l k),kR k (j+1) (λs=>nth q.fin s false),kR k (j+1) (tlP q l),j+1)):=by
          rintro _ rfl
          unfold D7_
          rw [aF (by simp only [kD];omega),aF (by simp only [kD];omega),aF (by omega),aF (by simp only [kD];omega),aF (by simp only [kD];omega),Tc c,Tc c,Tc c (λs=>nth q.fin s false),Tc c (tlP q l)];rfl
        rw [qK,aF (by omega)]
        refine ⟨(kR k (j+1) (nxR q k),kR k (j+1) (otR q l k),kR k (j+1) (λs=>nth q.fin s false),kR k (j+1) (tlP q l)),?_,rfl⟩
        cases hf:nth q.fin j false with
        |true=>
          have hcom:=(h.com j hj [] (nth q.tail j []) (by rw [dh,if_pos hf])).length_le
          rw [iteO_true,aF (by omega),aF (by show j<l.length;omega),aF (by show (nth l j []).length<=_/\_;omega)]
          exact hj3 _ (by unfold tlP;rw [if_pos hf])
        |false=>
          rw [iteO_false]
          exact hj3 _ (by unfold tlP;rw [if_neg (by rw [hf];decide)])
      right
      rw [t3,uj]
      refine ⟨_,rfl,?_⟩
      unfold zk
      rw [if_neg (I0_ hj c t2)];rfl
    rw [if_neg c]at hPj
    left
    rw [bI (by omega)]
    exact ⟨(_,_,_,_),rfl,by rw [Si c,Si c,Si c,Si c (tlP q l)]⟩
  · rintro ⟨N,O,F,T⟩ hI
    cases hI
    refine ⟨_,?_,rfl⟩
    show MR (l,m) P q _ _ _ _ q.next.length=_
    unfold MR
    rw [bK (by simp only [r_];omega)]
    change fin (bnd (NG (pJ q l k)) λOg=>aN (decide (Og≠0)) (some (Seq.zero,2)) (some (pJ q l k,0)))=_
    rw [Ev_,fD]
    unfold zk
    by_cases c:eP (pJ q l k)=true
    · rw [if_pos c,if_pos c,bK (by decide)];rfl
    rw [if_neg c,if_neg c,bI (by decide)];rfl
  obtain ⟨h1,rfl⟩:=l7
  exact h1
inductive PushR (q:Seq):Seq×Int->Prop
  |wrong: ¬ eP q=true->PushR q (Seq.zero,1)
  |none:eP q=true->(q.next.length=0\/ ¬ VY q 0)->PushR q (Seq.zero,0)
  |made (l:aC) (m v:B_1):eP q=true->0<q.next.length->VY q 0->FrOk q l m->RchOk q v->PushR q (zk q l (oZ v m))
theorem PushR.uniq{q:Seq}{r r':Seq×Int}(h:PushR q r)(k:PushR q r'):r=r':=by
  cases h with
  |wrong h1=>cases k with
    |wrong _=>rfl
    |none h2 _=>exact absurd h2 h1
    |made _ _ _ h2=>exact absurd h2 h1
  |none h1 h2=>cases k with
    |wrong h3=>exact absurd h1 h3
    |none _ _=>rfl
    |made _ _ _ _ h4 h5=>
      rcases h2 with h2|h2
      · omega
      exact absurd h5 h2
  |made l m v h1 h2 h3 h4 h5=>cases k with
    |wrong h6=>exact absurd h1 h6
    |none _ h6=>
      rcases h6 with h6|h6
      · omega
      exact absurd h3 h6
    |made l' m' v' _ _ _ k4 k5=>
      obtain ⟨rfl,rfl⟩:=h4.uniq k4
      rw [h5.uniq k5]
theorem Jc_ (q : Seq) : ∃ r, Zz q = some r /\ PushR q r := by
  unfold Zz
  rw [Ev_,fD]
  by_cases hq:eP q=true
  rotate_left
  · rw [if_neg hq,bI (by decide)]
    exact ⟨_,rfl,.wrong hq⟩
  rw [if_pos hq,bK (by decide)]
  obtain ⟨q1,q2,q3,q4,q5⟩:=mW hq
  obtain ⟨⟨l,m⟩,f1,f2⟩:=wc_ hq
  simp only at f2
  have hll:=f2.ln
  have hml:=f2.mn
  rw [f1,fD]
  by_cases c0:q.next.length=0
  · rw [bI (by show ((m.length:Nat):Int)=0;omega)]
    exact ⟨_,rfl,.none hq (.inl c0)⟩
  have h0:0<q.next.length:=by omega
  rw [bK (by show ¬ ((m.length:Nat):Int)=0;omega),aF (by show 0<m.length;omega)]
  cases hm:nth m 0 false with
  |false=>
    rw [uj]
    exact ⟨_,rfl,.none hq (.inr λh=>by have:=(f2.live 0 h0).2 h;rw [hm]at this;cases this)⟩
  |true=>
    rw [qK,aF (by show 8 * m.length<=_;omega)]
    obtain ⟨v,v1,v2⟩:=vd_ hq h0
    have hvl:=v2.len
    have hls:=f2.le 0 h0
    rw [v1,fD]
    refine ⟨zk q l (oZ v m),?_,.made l m v hq h0 ((f2.live 0 h0).1 hm) f2 v2⟩
    have hk:=m9_ (m:=m) v2
    refine Exists.elim (kT (step:=λz:ak×Nat×Nat=>Qs v (l,m) q z.1 z.2.1 z.2.2) (λ(z:ak×Nat) j=>(z.1,z.2,j)) q.next.length (λj z=>NuI q.next.length (oZ v m) j z.1/\z.2=jA (oZ v m) j) (λr=>r=zk q l (oZ v m)) ?_ ?_ (s0:=(List.replicate m.length 0,0)) ⟨⟨by simp [hml],λs hs=>by omega⟩,rfl⟩) (λr l7=> ?_)
    · rintro j ⟨P,c⟩ hj ⟨hI,hc⟩
      simp only at hI hc
      subst hc
      have hPl:=hI.len
      have hcj:=PI (oZ v m) j
      left
      show ∃s':ak×Nat,Qs v (l,m) q P _ j=some (.inl (s'.1,s'.2,j+1))/\_
      unfold Qs
      rw [bI (by omega),aF (by omega)]
      cases d1:nth v j false with
      |false=>
        have hkj: ¬ oZ v m j=true:=by unfold oZ;rw [d1];simp
        rw [iteO_false]
        exact ⟨(_,_),rfl,hI.no hj hkj,by simp only [jA];rw [if_neg hkj];rfl⟩
      |true=>
        rw [iteO_true,aF (by show j<m.length;omega)]
        change ∃s':ak×Nat,aN (nth m j false) _ _=_/\_
        cases d2:nth m j false with
        |false=>
          have hkj: ¬ oZ v m j=true:=by unfold oZ;rw [d1,d2];simp
          rw [iteO_false]
          exact ⟨(_,_),rfl,hI.no hj hkj,by simp only [jA];rw [if_neg hkj];rfl⟩
        |true=>
          have hkj:oZ v m j=true:=by unfold oZ;rw [d1,d2];rfl
          rw [iteO_true,aF (by simp;omega),aF (show jA (oZ v m) j+1<=_ by omega)]
          exact ⟨(_,_),rfl,hI.put hj hkj,by simp only [jA];rw [if_pos hkj]⟩
    · rintro ⟨P,c⟩ ⟨hI,hc⟩
      simp only at hI hc
      refine ⟨zk q l (oZ v m),?_,rfl⟩
      show Qs v (l,m) q P c q.next.length=_
      unfold Qs
      rw [bK (by omega),aF (by show 0<l.length;omega),aF (by show q.front.length+(nth l 0 []).length<=_;omega),yz_ hq f2 hk ⟨hI.len,λs hs=>hI.at' s hs⟩ (l,m) rfl];rfl
    obtain ⟨h1,rfl⟩:=l7
    exact h1
structure LikeQ (r:Seq) (s t:Nat):Prop where
  fin:nth r.fin s false=nth r.fin t false
  tail:nth r.tail s []=nth r.tail t []
  neg: ∀b,b<256->(nxQ r s b<0↔nxQ r t b<0)
  out: ∀b,b<256->otQ r s b=otQ r t b
theorem bisim{r:Seq}{n:Nat}(hlt: ∀s b,s<n->b<256->nxQ r s b<((n:Nat):Int)){R:Nat->Nat->Prop}(hL: ∀s t,s<n->t<n->R s t->LikeQ r s t)(hR: ∀s t b,s<n->t<n->R s t->b<256->0<=nxQ r s b->R (nxQ r s b).toNat (nxQ r t b).toNat):
    ∀(w:T_1) (s t:Nat),s<n->t<n->R s t->dh r s w=dh r t w
  |[],s,t,hs,ht,h=>by
    have k:=hL s t hs ht h
    rw [dh,dh,k.fin,k.tail]
  |b::w,s,t,hs,ht,h=>by
    have hb:b.toNat<256:=by have:=UInt8.toNat_lt b;omega
    have k:=hL s t hs ht h
    have kn:=k.neg _ hb
    rw [dh,dh]
    by_cases c:nxQ r s b.toNat<0
    · rw [if_pos c,if_pos (kn.1 c)]
    have h1:=hlt s _ hs hb
    have h2:=hlt t _ ht hb
    have c': ¬ nxQ r t b.toNat<0:=λh=>c (kn.2 h)
    rw [if_neg c,if_neg c',k.out _ hb,bisim hlt hL hR w _ _ (by omega) (by omega) (hR s t _ hs ht h hb (by omega))]
theorem tj_ {r : Seq} (h : PshQ r) (hr : eP r = true) {s t : Nat} (hs : s < r.next.length) (ht : t < r.next.length) (he : dh r s = dh r t) : LikeQ r s t := by
  have hn: ∀b,b<256->(nxQ r s b<0↔nxQ r t b<0):=λb hb=>by
    constructor
    · intro c
      by_cases d:0<=nxQ r t b
      · have:=(LV h h ht hs hb he.symm d).1;omega
      omega
    intro c
    by_cases d:0<=nxQ r s b
    · have:=(LV h h hs ht hb he d).1;omega
    omega
  have e:=congrFun he []
  rw [dh,dh]at e
  have t1:=(Ia hr hs).2
  have t2:=(Ia hr ht).2
  have hft:nth r.fin s false=nth r.fin t false/\nth r.tail s []=nth r.tail t []:=by
    cases c1:nth r.fin s false with
    |true=>cases c2:nth r.fin t false with
      |true=>rw [c1,c2,if_pos rfl,if_pos rfl]at e;exact ⟨rfl,Option.some.inj e⟩
      |false=>rw [c1,c2,if_pos rfl,if_neg (by decide)]at e;cases e
    |false=>cases c2:nth r.fin t false with
      |true=>rw [c1,c2,if_pos rfl,if_neg (by decide)]at e;cases e
      |false=>
        rw [c1]at t1;rw [c2]at t2
        rcases t1 with t1|t1
        · cases t1
        rcases t2 with t2|t2
        · cases t2
        exact ⟨rfl,t1.trans t2.symm⟩
  refine ⟨hft.1,hft.2,hn,λb hb=> ?_⟩
  by_cases c:0<=nxQ r s b
  · exact (LV h h hs ht hb he c).2.1
  rw [Tm hr hs hb (by omega),Tm hr ht hb ((hn b hb).1 (by omega))]
theorem reps{n c:Nat}{f:Nat->Nat}(hs: ∀k,k<c-> ∃s,s<n/\f s=k): ∃rep:Nat->Nat, ∀k,k<c->rep k<n/\f (rep k)=k:=
  ⟨λk=>if h:k<c then Classical.choose (hs k h) else 0,λk hk=>by
    have:=Classical.choose_spec (hs k hk)
    simp only [dif_pos hk];exact this⟩
theorem r6_{n c:Nat}{f g:Nat->Nat}{rep:Nat->Nat}(h: ∀k,k<c->rep k<n/\f (rep k)=k)(hr: ∀s t,s<n->t<n->g s=g t->f s=f t):((List.range c).map λk=>g (rep k)).Nodup:=by
  rw [List.Nodup,List.pairwise_map]
  refine List.Pairwise.imp_of_mem ?_ (List.nodup_range (n:=c))
  intro a b ha hb hne e
  have ha:=List.mem_range.1 ha
  have hb:=List.mem_range.1 hb
  have:=hr _ _ (h a ha).1 (h b hb).1 e
  rw [(h a ha).2,(h b hb).2]at this
  exact hne this
theorem uf_{n c d:Nat}{f g:Nat->Nat}(hs: ∀k,k<c-> ∃s,s<n/\f s=k)(hg: ∀s,s<n->g s<d)(hr: ∀s t,s<n->t<n->g s=g t->f s=f t):c<=d:=by
  obtain ⟨rep,h⟩:=reps hs
  have h2:=hx_ (r6_ h hr) (m:=List.range d) λx hx=>by
    obtain ⟨k,hk,rfl⟩:=List.mem_map.1 hx
    exact List.mem_range.2 (hg _ (h k (List.mem_range.1 hk)).1)
  rw [List.length_map,List.length_range,List.length_range]at h2;exact h2
theorem pigeon{n c:Nat}{f g:Nat->Nat}(hs: ∀k,k<c-> ∃s,s<n/\f s=k)(hg: ∀s,s<n->g s<c)(hr: ∀s t,s<n->t<n->g s=g t->f s=f t){s t:Nat}(hsn:s<n)(htn:t<n)(he:f s=f t):g s=g t:=by
  obtain ⟨rep,h⟩:=reps hs
  have key: ∀s,s<n-> ∃k,k<c/\g (rep k)=g s:=λs hs=>by
    by_cases q:g s∈(List.range c).map λk=>g (rep k)
    · obtain ⟨k,hk,e⟩:=List.mem_map.1 q
      exact ⟨k,List.mem_range.1 hk,e⟩
    exfalso
    have h2:=hx_ (l:=g s::(List.range c).map λk=>g (rep k)) (List.nodup_cons.2 ⟨q,r6_ h hr⟩) (m:=List.range c) λx hx=>by
      rcases List.mem_cons.1 hx with rfl|hx
      · exact List.mem_range.2 (hg _ hs)
      obtain ⟨k,hk,rfl⟩:=List.mem_map.1 hx
      exact List.mem_range.2 (hg _ (h k (List.mem_range.1 hk)).1)
    rw [List.length_cons,List.length_map,List.length_range]at h2
    omega
  obtain ⟨k,hk,e1⟩:=key s hsn
  obtain ⟨k',hk',e2⟩:=key t htn
  have f1:=hr _ _ (h k hk).1 hsn e1
  have f2:=hr _ _ (h k' hk').1 htn e2
  rw [(h k hk).2]at f1
  rw [(h k' hk').2]at f2
  have:k=k':=by omega
  rw [<-e1,<-e2,this]
end Go.Proofs.YtchebnpdnfhenaaGreatDoor
end

noncomputable section
namespace Go.E
open Go
def Hl(k:IntKind)(a:Int)(b:Nat):Int:=a.fdiv (2 ^ min b k.bits)
theorem OpVal.shrI{P:Program}{n:Nat}{o:Oper}{e:Env}{σ:aj}{H:List Res}{x y:Operand}{T T':TypeId}{k k':IntKind}{a:Int}{b:Nat}(ho:o.op= .binOp .shr T x y T')(hx:ev e x= .int k a)(hy:ev e y= .int k' (b:Nat)):OpVal P n o e σ H (.int k (Hl k a b)):=λw _=>by
  have h0: ¬ (b:Int)<0:=by omega
  simp only [execOp,ho,hx,hy,Sem.run_bind,gx_,Result.andThen_ok,binOp,Op.shift,h0,if_false,iW,Hl];rfl
end Go.E
end

noncomputable section
namespace Go.Proofs.YtchebnpdnfhenaaGreatDoor
open Go Go.E
def key2(n:Int):T_1:=[qR (Hl .i64 n 8),qR n]
def DV(l:ak):T_1:=l.flatMap key2
def Sml(l:ak):Prop:= ∀x∈l,0<=x/\x<65536
theorem y1_{x y:Int}(hx:0<=x/\x<65536)(hy:0<=y/\y<65536)(h:key2 x=key2 y):x=y:=by
  unfold key2 at h
  rw [List.cons.injEq,List.cons.injEq]at h
  obtain ⟨h1,h2, -⟩:=h
  have e1:=congrArg (λb:UInt8=>((b.toNat:Nat):Int)) h1
  have e2:=congrArg (λb:UInt8=>((b.toNat:Nat):Int)) h2
  rw [qm_,qm_,tf_,tf_]at e1 e2
  have s1: ∀z:Int,Hl .i64 z 8=z / 256:=λz=>by
    unfold Hl
    rw [show min 8 (IntKind.bits .i64)=8 from rfl,show ((2:Int) ^ 8)=256 from rfl,Int.fdiv_eq_ediv_of_nonneg _ (by decide)]
  rw [s1,s1]at e1
  omega
theorem r4_: ∀{l m:ak},Sml l->Sml m->DV l=DV m->l=m
  |[],[],_,_,_=>rfl
  |[],y::m,_,_,h=>by cases h
  |x::l,[],_,_,h=>by cases h
  |x::l,y::m,hl,hm,h=>by
    have h':key2 x++DV l=key2 y++DV m:=h
    obtain ⟨h1,h2⟩:=List.append_inj h' rfl
    rw [y1_ (hl x (jm ..)) (hm y (jm ..)) h1,r4_ (λz hz=>hl z (pF _ hz)) (λz hz=>hm z (pF _ hz)) h2]
theorem nq_: ∀l:ak,(DV l).length=l.length * 2
  |[]=>rfl
  |x::l=>by
    have:=nq_ l
    show (key2 x++DV l).length=_
    rw [gB,this]
    show 2+l.length * 2=(l.length+1) * 2
    omega
end Go.Proofs.YtchebnpdnfhenaaGreatDoor
end

noncomputable section
namespace Go.Proofs.YtchebnpdnfhenaaGreatDoor
open Go Go.E Go.E.OpVal Go.E.OpOk Go.Proofs.Tryz
open List (replicate)
theorem l2_:foOf Tryz.prog 167 0=some 0:=by kernel_rfl
theorem SV:plainF Tryz.prog 109=true:=by kernel_rfl
theorem pf110:plainF Tryz.prog 110=true:=by kernel_rfl
theorem SG:plainF Tryz.prog 149=true:=by kernel_rfl
theorem Sr:plOf Tryz.prog 167=some #[(0,1)]:=by kernel_rfl
theorem RX:szOf Tryz.prog 167=some 1:=by kernel_rfl
theorem yg_:zeroOf Tryz.prog 167=some (.agg #[.map none]):=by kernel_rfl
def ZE(x0:T_1)(x1:SB):Option (SB):=
 grd (x0.length<=281474976710656) (grd (-9223372036854775808<=((x0.length:Nat):Int)/\((x0.length:Nat):Int)<=9223372036854775807) (bnd (zA (⟨x1.buf⟩:SB) (Lib.itoa ((x0.length:Nat):Int))) (λv4=>bnd (FN (⟨v4.2.2.buf⟩:SB) (58:UInt8)) (λv5=>bnd (zA (⟨v5.2.buf⟩:SB) x0) (λv7=>some (⟨v7.2.2.buf⟩:SB))))))
theorem Gd_{σ:aj}{x0:T_1}{x1:SB}{u1_1:Bool}(hgl:Dz σ 1 2){r:SB}(hh:ZE x0 x1=some r):
  Con prog 149 #[.string (bs x0),loc fQ 0] σ [κ fQ #[uq u1_1 fQ,.slice nH x1.buf.length o8] 92,dW 5 kE nH o8 x1.buf] (λv σ' H'=> ∃(Jo:Bool), ∃Dw co3,v= .tuple #[]/\σ=σ'/\H'=[κ fQ #[uq Jo fQ,.slice Dw r.buf.length co3] 92,dW 5 kE Dw co3 r.buf]):=by
 dsimp only [ZE]at hh
 refine Con.mk (n:=10) Tryz.func149 z z z (λw0=> ?_)
 have x0b:=H7 hh
 replace hh:=Hz hh
 refine ψ (ω z (eu (.inl z) z) (ω z (rY z kK z) ?_))
 obtain ⟨u3,hh⟩:=aP hh
 refine ν z (jF (m0_ hgl u3) z z wd_ z z z ?_)
 refine θ 1 z z (θ 1 z z ?_)
 obtain ⟨v4,u4,hh⟩:=dM hh
 refine ν z (OpOk.call (PK u4) z z Oc z z z z ?_)
 rintro _ _ _ La ⟨u104_1,a104_2,c104_3,rfl,rfl,rfl⟩
 refine ε (ψ (θ 1 z z (θ 1 z z ?_)))
 obtain ⟨v5,u5,hh⟩:=dM hh
 refine ν z (OpOk.call (hv_ u5) z z ZY z z z z ?_)
 rintro _ _ _ xX ⟨u106_1,a106_2,c106_3,rfl,rfl,rfl⟩
 refine ε (η (ω z (eu (.inl z) z) (θ 1 z z (θ 1 z z ?_))))
 obtain ⟨v7,u7,hh⟩:=dM hh
 refine ν z (OpOk.call (PK u7) z z Oc z z z z ?_)
 rintro _ _ _ ql ⟨u108_1,a108_2,c108_3,rfl,rfl,rfl⟩
 refine TL.nil ?_
 obtain rfl:=so hh
 exact RetOk.mk' (rs:=[]) [κ fQ #[uq u108_1 fQ,.slice a108_2 v7.2.2.buf.length c108_3] 92,dW 5 kE a108_2 c108_3 v7.2.2.buf] z (.inr z) RVs.nil (List.sublist_append_left _ _) ⟨u108_1,a108_2,c108_3,z,z,z⟩
def El_(fB:Nat)(mZ:T_1):Option ((T_1×Nat)⊕(T_1)):=
 nxt (mZ,(fB+1))
def QN(x0:Seq)(x1:Int)(vK:T_1)(fB:Nat):Option ((T_1×Nat)⊕(T_1)):=
 aN (decide ((fB:Int)<(((nth x0.next x1.toNat []).length:Nat):Int))) (aN (decide (0<=(nth (nth x0.next x1.toNat []) fB 0))) (bnd (FN (⟨vK⟩:SB) (103:UInt8)) (λv34=>grd (-9223372036854775808<=(fB:Int)/\(fB:Int)<=9223372036854775807) (bnd (zA (⟨v34.2.buf⟩:SB) (Lib.itoa (fB:Int))) (λv37=>bnd (FN (⟨v37.2.2.buf⟩:SB) (58:UInt8)) (λv38=>grd (0<=x1/\x1<(x0.outs.length:Int)) (grd (fB<(nth x0.outs x1.toNat []).length) (bnd (ZE (nth (nth x0.outs x1.toNat []) fB []) (⟨v38.2.buf⟩:SB)) (λv48=>El_ fB v48.buf)))))))) (El_ fB vK)) (fin (bnd (WJ (⟨vK⟩:SB)) (λv51=>some v51)))
def Dv_(x1:Int)(x0:Seq)(WH:T_1):Option (T_1):=
 grd (0<=x1/\x1<(x0.next.length:Int)) (bC (λq:T_1×Nat=>QN x0 x1 q.1 q.2) (WH,0))
def Fp_(x0:Seq)(x1:Int):Option (T_1):=
 grd (0<=x1/\x1<(x0.fin.length:Int)) (aN (nth x0.fin x1.toNat false) (bnd (FN (⟨([]:T_1)⟩:SB) (101:UInt8)) (λv11=>grd (0<=x1/\x1<(x0.tail.length:Int)) (bnd (ZE (nth x0.tail x1.toNat []) (⟨v11.2.buf⟩:SB)) (λv18=>Dv_ x1 x0 v18.buf)))) (Dv_ x1 x0 ([]:T_1)))
theorem H2_{σ:aj}{x0:Seq}{x1:Int}(hgl:Dz σ 1 2)(au:RZ σ (aB 1 aG bn) (.slice aI x0.next.length aH) x0.next)(aY:RZ σ (aB 1 aJ bF) (.slice aA x0.outs.length aX) x0.outs)(aV:dA σ eq_ aU ay x0.fin)(aQ:dA σ aJ bJ bD x0.tail){r:T_1}(hh:Fp_ x0 x1=some r):
  Con prog 110 #[.agg (oI x0 aI aH aA aX aU ay bJ bD),.int .i64 x1] σ [] (jQ (.string (bs r)) σ):=by
 dsimp only [Fp_]at hh
 have f0_0b:=au.big
 have f0_1b:=aY.big
 have f0_2b:=aV.rv.big
 have f0_3b:=aQ.rv.big
 refine Con.mk (n:=53) Tryz.func110 z z z (λw0=> ?_)
 refine ψ (ν z (boxA z z z z (λbG=> ?_)))
 refine ω z (eu (.inr z) z) (ε (ψ (ν z (OpOk.alloc z Vz z z (λd_=> ?_)))))
 refine TL.asH (H':=[κ d_ #[uq false d_,bT] 92,jl bG x0 aI aH aA aX aU ay bJ bD]) z (ε (ψ (ω z (ce_ z) (ω z (Vb (.inr z) z) (ε (TC.cutG (α:=(T_1)×(Bool×(Option Addr)×Nat)) (rgs [(10,13)]) (λg=>[]) (λg=>[jl bG x0 aI aH aA aX aU ay bJ bD,κ d_ #[uq g.2.1 d_,.slice g.2.2.1 g.1.length g.2.2.2] 92,φ 5 1 kE (.slice g.2.2.1 g.1.length g.2.2.2) g.1]) (λg=>σ) (λg=>Dv_ x1 x0 g.1=some r) ?_ (λg j hg=> ?_)))))))
 ·skip
  refine ψ (ω z (aS z tV z) (ω z (aZ z qV z (i:=1) z z) (ξ z z ?_)))
  obtain ⟨u9,hh⟩:=aP hh
  refine ω z (OpVal.index z gI gQ z z aV.rv.sl u9.1 u9.2) (ω z (fF false z nG z aV (by omega) z) (ε (TC.cB z hh (λyc hh=> ?_) (λyc hh=> ?_))))
  ·refine ψ (TL.nilS 5 1 kE (θ 1 z z ?_))
   obtain ⟨v11,u11,hh⟩:=dM hh
   refine ν z (OpOk.call (hv_ u11) z z ZY z z z z ?_)
   rintro _ _ _ K_ ⟨u112_1,a112_2,c112_3,rfl,rfl,rfl⟩
   refine ε (η (ω z (Vb (.inl z) z) (ω z (aS z uh z) (ω z (aZ z lJ z (i:=2) z z) (ξ z z ?_)))))
   obtain ⟨u16,hh⟩:=aP hh
   refine ω z (OpVal.index z fK fU z z aQ.rv.sl u16.1 u16.2) (ω z (fF ([]:T_1) z iG z aQ (by omega) z) (θ 1 z z (θ 1 z z ?_)))
   obtain ⟨v18,RU,hh⟩:=dM hh
   refine ν z (OpOk.call (Gd_ hgl RU) z z SG z z z z ?_)
   rintro _ _ _ EG ⟨u114_1,a114_2,c114_3,rfl,rfl,rfl⟩
   exact ε (cf (v18.buf,(u114_1,a114_2,c114_3)) hh (Θ [1,1,2] 3))
  exact TC.nilS 5 1 kE (ι (S.n (cf (([]:T_1),(false,none,0)) hh (Θ [1,2] 3))))
 skip
 obtain ⟨WH,⟨u105,a108,c109⟩⟩:=g
 have hh:=hg;clear hg
 try dsimp only
 dsimp only [Dv_]at hh
 refine χ (i:=2) z (λ_ hb117 _=> ?_)
 refine ζ (ψ (ω z (aS z kS z) (ω z (aZ z jT z (i:=0) z z) (ξ z z ?_))))
 obtain ⟨u22,hh⟩:=aP hh
 refine ω z (OpVal.index z eU fZ z z au.isSl u22.1 u22.2) ?_
 obtain ⟨sV,mQ,Dj⟩:=RZ.seg au x1.toNat (by omega)
 replace mQ:dA _ aG sV.1 sV.2 (nth x0.next x1.toNat []):=mQ
 have hk118b:=mQ.rv.big
 refine ω z (OpVal.of (kZ z hs_ z Dj z) (v':= .slice sV.1 ((nth x0.next x1.toNat []).length) sV.2) z) (ω z (lenC z b_ z) (ξ z z (ε (υ (TC.ig (α:=(T_1×Nat)×(Bool×(Option Addr)×Nat)) (rgs [(7,2),(29,23)]) (λg=>[(29,.int .i64 ((g.1.2:Nat):Int))]) (λg=>[jl bG x0 aI aH aA aX aU ay bJ bD,κ d_ #[uq g.2.1 d_,.slice g.2.2.1 g.1.1.length g.2.2.2] 92,φ 5 1 kE (.slice g.2.2.1 g.1.1.length g.2.2.2) g.1.1]) (λg=>σ) (λg=>bC (λq:T_1×Nat=>QN x0 x1 q.1 q.2) g.1=some r) (λg=>f_ (λq:T_1×Nat=>QN x0 x1 q.1 q.2) g.1) ((WH,0),(u105,a108,c109)) (Θ [2,2,2] 3) z (by repeat (first|exact trivial|refine ⟨z,?_⟩)) hh (λg1 j1 hg1=> ?_))))))
 obtain ⟨⟨vK,fB⟩,⟨u131,Fq,Fb⟩⟩:=g1
 have hh:=hg1;clear hg1
 try dsimp only
 obtain ⟨z1,hh,hR1⟩:=gJ hh
 dsimp only [QN]at hh
 refine χ (i:=2) z (λ_ U7 _=> ?_)
 refine ψ (ω z (OpVal.lss z z z) (ε (ζ (TC.cD z hh (λqx hh=> ?_) (λqx hh=> ?_)))))
 ·refine ι (S.n (TC.cutG (α:=(T_1)×(Bool×(Option Addr)×Nat)) (rgs [(7,2),(31,20)]) (λg=>[]) (λg=>[jl bG x0 aI aH aA aX aU ay bJ bD,κ d_ #[uq g.2.1 d_,.slice g.2.2.1 g.1.length g.2.2.2] 92,φ 5 1 kE (.slice g.2.2.1 g.1.length g.2.2.2) g.1]) (λg=>σ) (λg=>El_ fB g.1=some z1) ?_ (λg j hg=> ?_)))
  ·skip
   refine υ (ψ (ξ z z (ω z (bU z b_ dB z z mQ.rv.sl (by omega)) (ω z (fF (0:Int) z fJ z mQ (by omega) z) (ξ z z (ξ z z (ε (ψ (ξ z z (ω z (OpVal.geq z z z) (ε (TC.cD z hh (λYJ hh=> ?_) (λYJ hh=> ?_)))))))))))))
   ·refine ψ (θ 2 z z (θ 2 z z ?_))
    obtain ⟨v34,u34,hh⟩:=dM hh
    refine ν z (OpOk.call (hv_ u34) z z ZY z z z z ?_)
    rintro _ _ _ hle145 ⟨u145_1,a145_2,c145_3,rfl,rfl,rfl⟩
    refine ε (ψ (ξ z z ?_))
    obtain ⟨u36,hh⟩:=aP hh
    refine ν z (jF (m0_ hgl u36) z z wd_ z z z ?_)
    refine θ 1 z z (θ 1 z z ?_)
    obtain ⟨v37,u37,hh⟩:=dM hh
    refine ν z (OpOk.call (PK u37) z z Oc z z z z ?_)
    rintro _ _ _ qg ⟨u147_1,a147_2,c147_3,rfl,rfl,rfl⟩
    refine ε (ψ (θ 1 z z (θ 1 z z ?_)))
    obtain ⟨v38,u38,hh⟩:=dM hh
    refine ν z (OpOk.call (hv_ u38) z z ZY z z z z ?_)
    rintro _ _ _ hle149 ⟨u149_1,a149_2,c149_3,rfl,rfl,rfl⟩
    refine ε (η (ω z (Vb (.inl z) z) (ω z (aS z oQ z) (ω z (aZ z pI z (i:=2) z z) (ξ z z ?_)))))
    obtain ⟨Nj,hh⟩:=aP hh
    refine ω z (OpVal.index z lI mM z z aY.isSl Nj.1 Nj.2) ?_
    obtain ⟨OV,CY,hg151⟩:=RZ.seg aY x1.toNat (by omega)
    replace CY:dA _ aJ OV.1 OV.2 (nth x0.outs x1.toNat []):=CY
    have hk151b:=CY.rv.big
    refine ω z (OpVal.of (kZ z lJ z hg151 z) (v':= .slice OV.1 ((nth x0.outs x1.toNat []).length) OV.2) z) (ξ z z ?_)
    obtain ⟨u46,hh⟩:=aP hh
    refine ω z (bU z fK fU z z CY.rv.sl (by omega)) (ω z (fF ([]:T_1) z iG z CY (by omega) z) (θ 1 z z (θ 1 z z ?_)))
    obtain ⟨v48,u48,hh⟩:=dM hh
    refine ν z (OpOk.call (Gd_ hgl u48) z z SG z z z z ?_)
    rintro _ _ _ hle152 ⟨u152_1,a152_2,c152_3,rfl,rfl,rfl⟩
    exact TL.nil (B.n (S.n (cf (v48.buf,(u152_1,a152_2,c152_3)) hh (Θ [1,1,2] 3))))
   exact ι (B.n (S.n (cf (vK,(u131,Fq,Fb)) hh (Θ [2,2,2] 3))))
  skip
  obtain ⟨mZ,⟨u139,Zu,c143⟩⟩:=g
  have hh:=hg;clear hg
  try dsimp only
  dsimp only [El_]at hh
  refine χ (i:=2) z (λ_ hb154 _=> ?_)
  refine η (ω z (OpVal.succ z z z (by omega)) (ξ z z (ε ?_)))
  obtain ⟨hh,Ed⟩:=dO hR1 hh
  exact lf ((mZ,(fB+1)),(u139,Zu,c143)) Ed hh (Θ [2,2,2] 3)
 refine TC.exit (S.x (S.x ?_))
 replace hh:=dG hR1 hh
 refine Δ (S.n (ψ (θ 2 z z (θ 2 z z ?_))))
 obtain ⟨v51,u51,hh⟩:=dM hh
 refine ν z (OpOk.call (ka_ u51) z z V_ z z z z ?_)
 rintro _ _ _ hle156 ⟨rfl,rfl,rfl⟩
 refine ω z (eu (.inr z) z) (ε (TC.rt 0 ?_))
 obtain rfl:=so hh
 exact rq [4] ⟨z,z,z⟩
def D5_(ni:Int)(Wu:FM T_1 Int):Option (Int×Numb):=
 some (ni,(⟨Wu⟩:Numb))
def Di_(x0:Numb)(x1:T_1):Option (Int×Numb):=
 grd (x1.length<=281474976710656) (aN (!(x0.places.has x1)) (D5_ ((x0.places.n:Nat):Int) (x0.places.put x1 ((x0.places.n:Nat):Int))) (D5_ (x0.places.get x1 0) x0.places))
theorem F2_{σ:aj}{x0:Numb}{x1:T_1}{r:Int×Numb}(hh:Di_ x0 x1=some r):
  Con prog 109 #[loc cO 0,.string (bs x1)] σ [κ cO #[.map (some Fg)] pK,Res.mapB mg nT (some Fg) x0.places] (λv σ' H'=> ∃bo1,v= .int .i64 r.1/\σ=σ'/\H'=[κ cO #[.map (some bo1)] pK,Res.mapB mg nT (some bo1) r.2.places]):=by
 dsimp only [Di_]at hh
 refine Con.mk (n:=30) Tryz.func109 z z z (λw0=> ?_)
 have x1b:=H7 hh
 replace hh:=Hz hh
 refine ψ (ξ z z (ε (ψ (TL.l z z (ω z (nJ z z) (ω z (aS z l2_ z) (ω z (aZ z RJ z (i:=0) z z) (ω z (eu (.inl z) z) (ω z (OpVal.of (lookB 0 (q:=x1) z underlying70 lu z (i:=1) z z (m3_ kK)) (v':= .tuple #[.int .i64 (x0.places.get x1 0),.bool (x0.places.has x1)]) z) (ω z (wC (.inl z) z) (ω z (OpVal.extract z z z) (ω z (OpVal.extract z z z) (ξ z z (TL.j z z (ε ?_)))))))))))))))
 refine TC.cutG (α:=(Int×(FM T_1 Int))×(Unit)) (rgs [(5,1),(16,13)]) (λg=>[(5,.int .i64 g.1.1)]) (λg=>[κ cO #[.map (some Fg)] pK,Res.mapB mg nT (some Fg) g.1.2]) (λg=>σ) (λg=>D5_ g.1.1 g.1.2=some r) ?_ (λg j hg=> ?_)
 ·skip
  refine ψ (TL.j z z (ω z (OpVal.not z z) (ε (TC.cB z hh (λdN hh=> ?_) (λdN hh=> ?_)))))
  ·refine ψ (TL.l z z (ω z (nJ z z) (ω z (aS z l2_ z) (ω z (aZ z RJ z (i:=0) z z) (ω z (lenB z underlying70 z (i:=1) z) (ξ z z (ε (η (TL.l z z (ω z (nJ z z) (ω z (aS z l2_ z) (ω z (aZ z RJ z (i:=0) z z) (ω z (eu (.inl z) z) (ξ z z (θ 1 z z ?_)))))))))))))))
   refine ν z (updB x1 ((x0.places.n:Nat):Int) z underlying70 z z z z (m3_ kK) ?_)
   exact ε (cf ((((x0.places.n:Nat):Int),(x0.places.put x1 ((x0.places.n:Nat):Int))),()) hh (Θ [1] 2))
  exact ι (S.n (cf (((x0.places.get x1 0),x0.places),()) hh (Θ [1,1] 2)))
 skip
 obtain ⟨⟨ni,Wu⟩,_⟩:=g
 have hh:=hg;clear hg
 try dsimp only
 dsimp only [D5_]at hh
 refine ψ (ξ z z (ξ z z (ε (TC.ret ?_))))
 obtain rfl:=so hh
 exact ro [κ cO #[.map (some Fg)] pK,Res.mapB mg nT (some Fg) Wu] z (RVs.tmp z RVs.nil) ⟨Fg,z,z,z⟩
def Ei_(gV:Nat)(WA:T_1):Option ((T_1×Nat)⊕((ak×(FM T_1 Int)×Nat)⊕((ak×Nat)⊕(ak×Int)))):=
 nxt (WA,(gV+1))
def QD(x0:Seq)(iV:Nat)(dY:ak)(wQ:FM T_1 Int)(fM:ak)(Bv:T_1)(gV:Nat):Option ((T_1×Nat)⊕((ak×(FM T_1 Int)×Nat)⊕((ak×Nat)⊕(ak×Int)))):=
 aN (decide ((gV:Int)<(((nth x0.next iV []).length:Nat):Int))) (aN (decide (0<=(nth (nth x0.next iV []) gV 0))) (grd (0<=(nth (nth x0.next iV []) gV 0)/\(nth (nth x0.next iV []) gV 0)<(dY.length:Int)) (grd (0<=(nth (nth x0.next iV []) gV 0)/\(nth (nth x0.next iV []) gV 0)<(dY.length:Int)) (grd ((Bv.length+[(qR (Hl .i64 (nth dY ((nth (nth x0.next iV []) gV 0).toNat) 0) 8)),(qR (nth dY ((nth (nth x0.next iV []) gV 0).toNat) 0))].length) * 1<=140737488355328) (Ei_ gV (Bv++[(qR (Hl .i64 (nth dY ((nth (nth x0.next iV []) gV 0).toNat) 0) 8)),(qR (nth dY ((nth (nth x0.next iV []) gV 0).toNat) 0))]))))) (Ei_ gV Bv)) (fin (bnd (Di_ (⟨wQ⟩:Numb) Bv) (λVF=>grd (iV<fM.length) (nxt ((fM.set iV VF.1),VF.2.places,(iV+1))))))
def QS(dY:ak)(x0:Seq)(DW:Nat)(fM:ak)(wQ:FM T_1 Int)(iV:Nat):Option ((ak×(FM T_1 Int)×Nat)⊕((ak×Nat)⊕(ak×Int))):=
 aN (decide ((iV:Int)<(((replicate dY.length (0:Int)).length:Nat):Int))) (grd (iV<dY.length) (grd (iV<dY.length) (grd (iV<x0.next.length) (bC (λq:T_1×Nat=>QD x0 iV dY wQ fM q.1 q.2) ([(qR (Hl .i64 (nth dY iV 0) 8)),(qR (nth dY iV 0))],0))))) (fin (aN (decide (((wQ.n:Nat):Int)=(DW:Int))) (fin (some (fM,(DW:Int)))) (nxt (fM,wQ.n))))
def ZF(x0:Seq)(dY:ak)(DW:Nat):Option ((ak×Nat)⊕(ak×Int)):=
 grd (8 * dY.length<=281474976710656) (bC (λq:ak×(FM T_1 Int)×Nat=>QS dY x0 DW q.1 q.2.1 q.2.2) ((replicate dY.length (0:Int)),(FM.emp:FM T_1 Int),0))
def QC(x0:Seq)(aO:ak)(Ph:FM T_1 Int)(rD:Nat):Option ((ak×(FM T_1 Int)×Nat)⊕(ak×Int)):=
 aN (decide ((rD:Int)<(((replicate x0.next.length (0:Int)).length:Nat):Int))) (bnd (Fp_ x0 (rD:Int)) (λv23=>bnd (Di_ (⟨Ph⟩:Numb) v23) (λv24=>grd (rD<aO.length) (nxt ((aO.set rD v24.1),v24.2.places,(rD+1)))))) (fin (bC (λq:ak×Nat=>ZF x0 q.1 q.2) (aO,Ph.n)))
def Fj_(x0:Seq):Option (ak×Int):=
 grd (8 * x0.next.length<=281474976710656) (bC (λq:ak×(FM T_1 Int)×Nat=>QC x0 q.1 q.2.1 q.2.2) ((replicate x0.next.length (0:Int)),(FM.emp:FM T_1 Int),0))
def Ii_(σ:aj)(r:ak×Int):Value->aj->List Res->Prop:=λv σ' H'=>
 ∃a1 c1,v= .tuple #[.slice a1 r.1.length c1,.int .i64 r.2]/\dA σ' aG a1 c1 r.1/\H'=[]
theorem H1_{σ:aj}{x0:Seq}(hgl:Dz σ 1 2)(au:RZ σ (aB 1 aG bn) (.slice aI x0.next.length aH) x0.next)(aY:RZ σ (aB 1 aJ bF) (.slice aA x0.outs.length aX) x0.outs)(aV:dA σ eq_ aU ay x0.fin)(aQ:dA σ aJ bJ bD x0.tail){r:ak×Int}(hh:Fj_ x0=some r):
  Con prog 66 #[.agg (oI x0 aI aH aA aX aU ay bJ bD)] σ [] (Ii_ σ r):=by
 dsimp only [Fj_]at hh
 have f0_0b:=au.big
 have f0_1b:=aY.big
 have f0_2b:=aV.rv.big
 have f0_3b:=aQ.rv.big
 refine Con.mk (n:=103) Tryz.func66 z z z (λw0=> ?_)
 refine ψ (ν z (boxA z z z z (λbG=> ?_)))
 refine Φ z z (ξ z z (ε (ψ (ω z (aS z kS z) (ω z (aZ z jT z (i:=0) z z) (ω z (lenC z eU z) ?_))))))
 obtain ⟨u7,hh⟩:=aP hh
 refine ν z (pz (enc:=aG) (0:Int) z b_ dB uV lu z z z z (by omega) (by decide) bn (by decide) z jS (λjE jD=> ?_))
 refine ν z (bv_ (enc:=mg) (encV:=nT) z z z (λyA=> ?_))
 refine ω z (nD z Sr yg_ z) (ν z (OpOk.alloc z yg_ z z (λMC=> ?_)))
 refine Φ z z (ν z (storeAll z RX z z z z z z ?_))
 refine ε (ζ (ψ (Φ z z (ω z (lenC z b_ z) (ξ z z (ε (υ (TC.ig (α:=(ak×(FM T_1 Int)×Nat)×(Nat)) (rgs [(6,1),(22,11)]) (λg=>[(22,.int .i64 ((g.1.2.2:Nat):Int))]) (λg=>[jl bG x0 aI aH aA aX aU ay bJ bD,φ 3 1 aG (.slice jE (replicate x0.next.length (0:Int)).length jD) g.1.1,κ MC #[.map (some g.2)] 167,Res.mapB mg nT (some g.2) g.1.2.1]) (λg=>σ) (λg=>bC (λq:ak×(FM T_1 Int)×Nat=>QC x0 q.1 q.2.1 q.2.2) g.1=some r/\g.1.1.length=(replicate x0.next.length (0:Int)).length) (λg=>f_ (λq:ak×(FM T_1 Int)×Nat=>QC x0 q.1 q.2.1 q.2.2) g.1) (((replicate x0.next.length (0:Int)),(FM.emp:FM T_1 Int),0),yA) (Θ [1,1,2,3] 4) z (by repeat (first|exact trivial|refine ⟨z,?_⟩)) ⟨hh,z⟩ (λg1 j1 hg1=> ?_)))))))))
 obtain ⟨⟨aO,Ph,rD⟩,b126⟩:=g1
 obtain ⟨hh,gG⟩:=hg1
 try dsimp only at gG ⊢
 obtain ⟨z1,hh,hR1⟩:=gJ hh
 dsimp only [QC]at hh
 refine χ (i:=1) z (λ_ Dl _=> ?_)
 refine ψ (ω z (OpVal.lss z z z) (ε (ζ (TC.cD z hh (λrV hh=> ?_) (λrV hh=> ?_)))))
 ·refine ι (S.n (ζ (υ (ψ (ξ z z (ξ z z (ε (η (Φ z z (ξ z z (ω z (kG z ji fE z (i:=0) z z) (ξ z z ?_))))))))))))
  obtain ⟨v23,u23,hh⟩:=dM hh
  refine ν z (jF (H2_ (x0:=x0) hgl au aY aV aQ u23) z z pf110 z z z ?_)
  refine θ 3 z z (θ 3 z z ?_)
  obtain ⟨v24,u24,hh⟩:=dM hh
  refine ν z (OpOk.call (F2_ u24) z z SV z z z z ?_)
  rintro _ _ _ qh ⟨b130_1,rfl,rfl,rfl⟩
  obtain ⟨u25,hh⟩:=aP hh
  refine TL.isSl (i:=3) z (λBI _ _=> ?_)
  refine ω z (bU z b_ dB z z BI (by omega)) (θ 3 z z ?_)
  have Cc:(aO.set rD v24.1).length=(replicate x0.next.length (0:Int)).length:=by rw [gy];exact gG
  refine ν z (lG v24.1 z dB z z z z bn jS (by omega) (by omega) ?_)
  refine TL.nil (B.n (S.n (η (ω z (OpVal.succ z z z (by omega)) (ξ z z (ε ?_))))))
  obtain ⟨hh,Ei⟩:=dO hR1 hh
  exact lf (((aO.set rD v24.1),v24.2.places,(rD+1)),b130_1) Ei ⟨hh,Cc⟩ (Θ [2,2,2,3] 4)
 refine TC.exit (S.x (S.x ?_))
 replace hh:=dG hR1 hh
 refine Δ (S.n (ψ (ω z (aS z l2_ z) (ω z (aZ z RJ z (i:=2) z z) (ω z (lenB z underlying70 z (i:=3) z) (ξ z z (ε (υ ?_))))))))
 rw [show Value.slice jE ((replicate x0.next.length (0:Int)).length) jD=Value.slice jE aO.length jD from by rw [gG]]
 refine TC.ig (α:=(ak×Nat)×((Option Addr)×Nat)) (rgs [(2,3),(7,5),(13,1),(36,67)]) (λg=>[(4,.slice g.2.1 g.1.1.length g.2.2),(7,.int .i64 ((g.1.2:Nat):Int))]) (λg=>[jl bG x0 aI aH aA aX aU ay bJ bD,φ 3 1 aG (.slice g.2.1 g.1.1.length g.2.2) g.1.1]) (λg=>σ) (λg=>bC (λq:ak×Nat=>ZF x0 q.1 q.2) g.1=some r) (λg=>f_ (λq:ak×Nat=>ZF x0 q.1 q.2) g.1) ((aO,Ph.n),(jE,jD)) (Θ [1,1] 2) z (by repeat (first|exact trivial|refine ⟨z,?_⟩)) hh (λg2 j2 hg2=> ?_)
 obtain ⟨⟨dY,DW⟩,⟨a148,Y0⟩⟩:=g2
 have hh:=hg2;clear hg2
 try dsimp only
 obtain ⟨z1,hh,hR1⟩:=gJ hh
 dsimp only [ZF]at hh
 refine χ (i:=1) z (λ_ U4 _=> ?_)
 refine υ (ψ (Φ z z (ω z (lenC z b_ z) ?_)))
 obtain ⟨u35,hh⟩:=aP hh
 refine ν z (pz (enc:=aG) (0:Int) z b_ dB uV lu z z z z (by omega) (by decide) bn (by decide) z jS (λa152 yt=> ?_))
 refine ν z (bv_ (enc:=mg) (encV:=nT) z z z (λY9=> ?_))
 refine ω z (nD z Sr yg_ z) (ν z (OpOk.alloc z yg_ z z (λMB=> ?_)))
 refine Φ z z (ν z (storeAll z RX z z z z z z ?_))
 refine ε (ζ (ψ (Φ z z (ω z (lenC z b_ z) (ξ z z (ε (υ (TC.ig (α:=(ak×(FM T_1 Int)×Nat)×(Nat)) (rgs [(10,2),(13,1),(43,49)]) (λg=>[(43,.int .i64 ((g.1.2.2:Nat):Int))]) (λg=>[jl bG x0 aI aH aA aX aU ay bJ bD,dW 3 aG a148 Y0 dY,φ 3 1 aG (.slice a152 (replicate dY.length (0:Int)).length yt) g.1.1,κ MB #[.map (some g.2)] 167,Res.mapB mg nT (some g.2) g.1.2.1]) (λg=>σ) (λg=>bC (λq:ak×(FM T_1 Int)×Nat=>QS dY x0 DW q.1 q.2.1 q.2.2) g.1=some z1/\g.1.1.length=(replicate dY.length (0:Int)).length) (λg=>f_ (λq:ak×(FM T_1 Int)×Nat=>QS dY x0 DW q.1 q.2.1 q.2.2) g.1) (((replicate dY.length (0:Int)),(FM.emp:FM T_1 Int),0),Y9) (Θ [1,1,2,4,4] 5) z (by repeat (first|exact trivial|refine ⟨z,?_⟩)) ⟨hh,z⟩ (λg3 j3 hg3=> ?_)))))))))
 obtain ⟨⟨fM,wQ,iV⟩,Ii⟩:=g3
 obtain ⟨hh,Gu⟩:=hg3
 try dsimp only at Gu ⊢
 obtain ⟨z2,hh,hR2⟩:=gJ hh
 dsimp only [QS]at hh
 refine χ (i:=1) z (λ_ U2 _=> ?_)
 refine χ (i:=2) z (λ_ hb178 _=> ?_)
 refine ψ (ω z (OpVal.lss z z z) (ε (ζ (TC.cD z hh (λh179 hh=> ?_) (λh179 hh=> ?_)))))
 ·refine ι (S.n (ζ (υ (ψ (ξ z z (ξ z z (ε (ζ ?_))))))))
  obtain ⟨u49,hh⟩:=aP hh
  obtain ⟨u55,hh⟩:=aP hh
  refine TC.draw [] (by kernel_rfl) (Ω 0 z (gu (.inl z) z) z (Ω 1 z (dw (.inl z) z) z (TA.isSl (i:=1) z (λhs185 _ _=> ?_))))
  refine TA.b 2 z (bU z b_ dB z z hs185 (by omega)) z (TA.b 3 z (og (0:Int) z fJ z (q:=1) z bn (by omega) z) z (Ω 4 z (shrI (b:=8) z z z) z (Ω 5 z (bz_ z underlying3 underlying5 z) z (Ω 6 z (gu (.inl z) z) z (Ω 7 z (dw (.inl z) z) z (TA.isSl (i:=1) z (λJU _ _=> ?_)))))))
  refine TA.b 8 z (bU z b_ dB z z JU (by omega)) z (TA.b 9 z (og (0:Int) z fJ z (q:=1) z bn (by omega) z) z (Ω 10 z (bz_ z underlying3 underlying5 z) z (TA.ac 11 z (OpOk.lit (enc:=kE) [(qR (Hl .i64 (nth dY iV 0) 8)),(qR (nth dY iV 0))] z Ho Ju MX z z z UL (by decide) (by decide) (0:UInt8) z (by decide) z (by decide) UO (λZp YX=>(k1 ?_))))))
  refine Ω 12 z (gu (.inr z) z) z (TA.dn (S.n (ζ (ψ (ω z (aS z kS z) (ω z (aZ z jT z (i:=1) z z) (ξ z z ?_)))))))
  obtain ⟨u63,hh⟩:=aP hh
  refine ω z (bU z eU fZ z z au.isSl (by omega)) ?_
  obtain ⟨OM,CS,hg190⟩:=RZ.seg au iV (by omega)
  replace CS:dA _ aG OM.1 OM.2 (nth x0.next iV []):=CS
  have hk190b:=CS.rv.big
  refine ω z (OpVal.of (kZ z hs_ z hg190 z) (v':= .slice OM.1 ((nth x0.next iV []).length) OM.2) z) (ω z (lenC z b_ z) (ξ z z (ε (υ (TC.ig (α:=(T_1×Nat)×((Option Addr)×Nat)) (rgs [(11,1),(13,1),(64,21)]) (λg=>[(11,.slice g.2.1 g.1.1.length g.2.2),(64,.int .i64 ((g.1.2:Nat):Int))]) (λg=>[jl bG x0 aI aH aA aX aU ay bJ bD,dW 3 aG a148 Y0 dY,φ 3 1 aG (.slice a152 (replicate dY.length (0:Int)).length yt) fM,κ MB #[.map (some Ii)] 167,Res.mapB mg nT (some Ii) wQ,φ 5 1 kE (.slice g.2.1 g.1.1.length g.2.2) g.1.1]) (λg=>σ) (λg=>bC (λq:T_1×Nat=>QD x0 iV dY wQ fM q.1 q.2) g.1=some z2/\fM.length=(replicate dY.length (0:Int)).length) (λg=>f_ (λq:T_1×Nat=>QD x0 iV dY wQ fM q.1 q.2) g.1) (([(qR (Hl .i64 (nth dY iV 0) 8)),(qR (nth dY iV 0))],0),(Zp,YX)) (Θ [5,5,5,5,5] 6) z (by repeat (first|exact trivial|refine ⟨z,?_⟩)) ⟨hh,Gu⟩ (λg4 j4 hg4=> ?_))))))
  obtain ⟨⟨Bv,gV⟩,⟨a204,c205⟩⟩:=g4
  obtain ⟨hh,Gt⟩:=hg4
  try dsimp only at Gt ⊢
  obtain ⟨z3,hh,Ag⟩:=gJ hh
  dsimp only [QD]at hh
  refine χ (i:=1) z (λ_ hb207 _=> ?_)
  refine χ (i:=2) z (λ_ U1 _=> ?_)
  refine χ (i:=5) z (λ_ LH _=> ?_)
  refine ψ (ω z (OpVal.lss z z z) (ε (ζ (TC.cD z hh (λh210 hh=> ?_) (λh210 hh=> ?_)))))
  ·refine ι (S.n (TC.cutG (α:=(T_1)×((Option Addr)×Nat)) (rgs [(11,1),(13,1),(66,18)]) (λg=>[(11,.slice g.2.1 g.1.length g.2.2)]) (λg=>[jl bG x0 aI aH aA aX aU ay bJ bD,dW 3 aG a148 Y0 dY,φ 3 1 aG (.slice a152 (replicate dY.length (0:Int)).length yt) fM,κ MB #[.map (some Ii)] 167,Res.mapB mg nT (some Ii) wQ,φ 5 1 kE (.slice g.2.1 g.1.length g.2.2) g.1]) (λg=>σ) (λg=>Ei_ gV g.1=some z3/\fM.length=(replicate dY.length (0:Int)).length) ?_ (λg j hg=> ?_)))
   ·skip
    refine υ (ψ (ω z (bU z b_ dB z z CS.rv.sl (by omega)) (ω z (fF (0:Int) z fJ z CS (by omega) z) (ξ z z (ε (ψ (ξ z z (ω z (OpVal.geq z z z) (ε (TC.cD z hh (λYE hh=> ?_) (λYE hh=> ?_)))))))))))
    ·have Nc:=H7 hh
     replace hh:=Hz hh
     obtain ⟨Oh,hh⟩:=aP hh
     obtain ⟨u86,hh⟩:=aP hh
     refine TC.draw [13,14] (by kernel_rfl) (Ω 0 z (gu (.inl z) z) z (Ω 1 z (gu (.inl z) z) z (Ω 2 z (dw (.inl z) z) z (TA.isSl (i:=1) z (λhs223 _ _=> ?_)))))
     refine TA.b 3 z (OpVal.index z b_ dB z z hs223 Nc.1 Nc.2) z (TA.b 4 z (og (0:Int) z fJ z (q:=1) z bn (by omega) z) z (Ω 5 z (shrI (b:=8) z z z) z (Ω 6 z (bz_ z underlying3 underlying5 z) z (Ω 7 z (gu (.inl z) z) z (Ω 8 z (dw (.inl z) z) z (TA.isSl (i:=1) z (λBF _ _=> ?_)))))))
     refine TA.b 9 z (OpVal.index z b_ dB z z BF Oh.1 Oh.2) z (TA.b 10 z (og (0:Int) z fJ z (q:=1) z bn (by omega) z) z (Ω 11 z (bz_ z underlying3 underlying5 z) z (TA.ac 12 z (OpOk.lit (enc:=kE) [(qR (Hl .i64 (nth dY ((nth (nth x0.next iV []) gV 0).toNat) 0) 8)),(qR (nth dY ((nth (nth x0.next iV []) gV 0).toNat) 0))] z Ho Ju MX z z z UL (by decide) (by decide) (0:UInt8) z (by decide) z (by decide) UO (λQh c226=>(k1 ?_))))))
     refine TA.front 6 z z (TA.last 13 (by kernel_rfl) z z z (as_ z z Ho Ju by5 MX z z (by decide) z z z (.inr ⟨_,0,z⟩) (by simpa using u86) (by decide) (λa228 c229=> ?_)))
     exact TZ.v 14 (by kernel_rfl) z z z (gu (.inr z) z) z z (TZ.done (by kernel_rfl) (B.n (S.n (cf ((Bv++[(qR (Hl .i64 (nth dY ((nth (nth x0.next iV []) gV 0).toNat) 0) 8)),(qR (nth dY ((nth (nth x0.next iV []) gV 0).toNat) 0))]),(a228,c229)) ⟨hh,Gt⟩ (Θ [6,6,6,6,6] 6)))))
    exact ι (B.n (S.n (cf (Bv,(a204,c205)) ⟨hh,Gt⟩ (Θ [5,5,5,5,5,5] 6))))
   skip
   obtain ⟨WA,⟨a213,c214⟩⟩:=g
   obtain ⟨hh,BQ⟩:=hg
   try dsimp only at BQ ⊢
   dsimp only [Ei_]at hh
   refine χ (i:=1) z (λ_ hb230 _=> ?_)
   refine χ (i:=2) z (λ_ hb231 _=> ?_)
   refine χ (i:=5) z (λ_ hb232 _=> ?_)
   refine η (ω z (OpVal.succ z z z (by omega)) (ξ z z (ε ?_)))
   obtain ⟨hh,D5⟩:=dO Ag hh
   exact lf ((WA,(gV+1)),(a213,c214)) D5 ⟨hh,BQ⟩ (Θ [5,5,5,5,5,5] 6)
  refine TC.exit (S.x (S.x ?_))
  replace hh:=dG Ag hh
  refine Δ (S.n (η (Φ z z (ξ z z (Φ z z (TL.isSl (i:=5) z (λhs234 _ _=> ?_)))))))
  refine ω z (b9_ (l:=Bv) z Ho underlying5 kK z hs234 (λw hw=>rdb_row (q:=5) z hw)) (θ 4 z z (θ 4 z z ?_))
  obtain ⟨VF,u94,hh⟩:=dM hh
  refine ν z (OpOk.call (F2_ u94) z z SV z z z z ?_)
  rintro _ _ _ oz ⟨b235_1,rfl,rfl,rfl⟩
  obtain ⟨u95,hh⟩:=aP hh
  refine TL.isSl (i:=4) z (λhs237 _ _=> ?_)
  refine ω z (bU z b_ dB z z hs237 (by omega)) (θ 4 z z ?_)
  have hn238:(fM.set iV VF.1).length=(replicate dY.length (0:Int)).length:=by rw [gy];exact Gt
  refine ν z (lG VF.1 z dB z z z z bn jS (by omega) (by omega) ?_)
  refine TL.nil (B.n (S.n (η (ω z (OpVal.succ z z z (by omega)) (ξ z z (ε ?_))))))
  obtain ⟨hh,Xx⟩:=dO hR2 hh
  exact lf (((fM.set iV VF.1),VF.2.places,(iV+1)),b235_1) Xx ⟨hh,hn238⟩ (Θ [2,2,2,4,4] 5)
 refine TC.exit (S.x (S.x ?_))
 replace hh:=dG hR2 hh
 refine Δ (S.n (ψ (Φ z z (Φ z z (ε (ζ (ψ (ω z (aS z l2_ z) (ω z (aZ z RJ z (i:=3) z z) (ω z (lenB z underlying70 z (i:=4) z) (ξ z z (ω z (OpVal.eql z z z) (ε (TC.cD z hh (λh240 hh=> ?_) (λh240 hh=> ?_)))))))))))))))
 ·refine ψ (Φ z z (ξ z z (Φ z z (ξ z z (ε ?_)))))
  rw [show Value.slice a152 ((replicate dY.length (0:Int)).length) yt=Value.slice a152 fM.length yt from by rw [Gu]]
  refine TC.front 2 z z (TC.oh bn (λτ243 hle242 Ue=> ?_))
  have hr241b:=Ue.rv.big
  refine TC.rt 0 (S.r (B.r (S.r ?_)))
  replace hh:=dG hR1 hh
  refine B.r ?_
  obtain rfl:=so hh
  exact rq [2,3] ⟨a152,yt,z,Ue,z⟩
 refine ι (S.n (η (ω z (aS z l2_ z) (ω z (aZ z RJ z (i:=3) z z) (ω z (lenB z underlying70 z (i:=4) z) (ξ z z ?_))))))
 rw [show Value.slice a152 ((replicate dY.length (0:Int)).length) yt=Value.slice a152 fM.length yt from by rw [Gu]]
 refine TL.nil (B.n (S.n ?_))
 obtain ⟨hh,Xw⟩:=dO hR1 hh
 exact lf ((fM,wQ.n),(a152,yt)) Xw hh (Θ [2,1] 2)
end Go.Proofs.YtchebnpdnfhenaaGreatDoor
end

noncomputable section
namespace Go.Proofs.YtchebnpdnfhenaaGreatDoor
open Go Go.E
def MZ(t:T_1):T_1:=Lib.decDigits t.length++58::t
theorem p1_{t:T_1}(h:t.length<=4096):(MZ t).length<=4200:=by
  have:=lq_ (u:=t.length) (by omega)
  unfold MZ
  simp only [gB,List.length_cons];omega
theorem uh_{t u x y:T_1}(h:MZ t++x=MZ u++y):t=u/\x=y:=by
  unfold MZ at h
  rw [qH,qH,List.cons_append,List.cons_append]at h
  obtain ⟨h1,h2⟩:=l0_ (Nv _) (Nv _) h
  exact List.append_inj h2 (p6_ h1)
theorem sg_{t b:T_1}(h:t.length<=4096)(hb:b.length<=1000000000):ZE t ⟨b⟩=some ⟨b++MZ t⟩:=by
  have hd:=lq_ (u:=t.length) (by omega)
  unfold ZE
  rw [aF (by omega),aF (by omega),m1_ (by omega),iW]
  show bnd (zA ⟨b⟩ _) _=_
  rw [Z4 _ _ (by omega) (by omega),fD]
  show bnd (FN ⟨b++Lib.decDigits t.length⟩ 58) _=_
  rw [in_ _ _ (by rw [gB];omega),fD]
  show bnd (zA ⟨b++Lib.decDigits t.length++[58]⟩ t) _=_
  rw [Z4 _ _ (by omega) (by simp only [gB,kD];omega),fD]
  show some _=some _
  unfold MZ
  simp [qH]
def HY(q:Seq)(s b:Nat):T_1:=if 0<=nxQ q s b then 103::(Lib.decDigits b++58::MZ (otQ q s b)) else []
def N9(q:Seq)(s:Nat):T_1:=if nth q.fin s false=true then 101::MZ (nth q.tail s []) else []
def Bh(q:Seq)(s k:Nat):T_1:=(List.range k).flatMap (HY q s)
def Pz(q:Seq)(s:Nat):T_1:=N9 q s++Bh q s 256
theorem n3_(q:Seq)(s k:Nat):Bh q s (k+1)=Bh q s k++HY q s k:=by
  unfold Bh;rw [List.range_succ,List.flatMap_append,List.flatMap_singleton]
theorem ru_{q:Seq}(hq:eP q=true){s b:Nat}(hs:s<q.next.length)(hb:b<256):(HY q s b).length<=5000:=by
  have h1:=p1_ (Pv hq hs hb)
  have h2:=lq_ (u:=b) (by omega)
  unfold HY
  split
  · simp only [List.length_cons,gB];omega
  simp
theorem yk_ {q : Seq} (hq : eP q = true) {s : Nat} (hs : s < q.next.length) : Fp_ q ((s : Nat) : Int) = some (Pz q s) := by
  obtain ⟨q1,q2,q3,q4,q5⟩:=mW hq
  obtain ⟨r1,r2⟩:=vX hq hs
  have hj: ∀E:T_1,E.length<=5000->Dv_ ((s:Nat):Int) q E=some (E++Bh q s 256):=λE hE=>by
    unfold Dv_
    rw [aF (by omega)]
    refine Exists.elim (kT (step:=λz:T_1×Nat=>QN q ((s:Nat):Int) z.1 z.2) (λz k=>(z,k)) 256 (λk z=>z=E++Bh q s k/\z.length<=5000 * (k+1)) (λr=>r=E++Bh q s 256) ?_ ?_ (s0:=E) ⟨by simp [Bh],by omega⟩) (λr l7=> ?_)
    · rintro k _ hk ⟨rfl,hl⟩
      left
      have hol:=Pv hq hs hk
      have hcl:=ru_ hq hs hk
      have hd:=lq_ (u:=k) (by omega)
      refine ⟨E++Bh q s (k+1),?_,rfl,by rw [n3_,<-qH,gB];omega⟩
      show QN q ((s:Nat):Int) (E++Bh q s k) k=_
      unfold QN El_
      have e1:nth (nth q.next s []) k 0=nxQ q s k:=rfl
      have e2:nth (nth q.outs s []) k []=otQ q s k:=rfl
      rw [iW,bI (by omega)]
      simp only [e1,e2]
      rw [n3_,<-qH]
      generalize hB:E++Bh q s k=B at hl ⊢
      by_cases c:0<=nxQ q s k
      · rw [bI c,in_ _ _ (by omega),fD,aF (by omega),m1_ (by omega),iW]
        show bnd (zA ⟨B++[103]⟩ _) _=_
        rw [Z4 _ _ (by omega) (by simp only [gB,kD];omega),fD]
        show bnd (FN ⟨B++[103]++Lib.decDigits k⟩ 58) _=_
        rw [in_ _ _ (by simp only [gB,kD];omega),fD,aF (by omega),aF (by omega)]
        show bnd (ZE (otQ q s k) ⟨B++[103]++Lib.decDigits k++[58]⟩) _=_
        rw [sg_ hol (by simp only [gB,kD];omega),fD]
        show some (Sum.inl (_,_))=_
        unfold HY
        rw [if_pos c]
        simp [qH]
      rw [bK c]
      unfold HY
      rw [if_neg c,List.append_nil];rfl
    · rintro _ ⟨rfl,_⟩
      refine ⟨_,?_,rfl⟩
      show QN q ((s:Nat):Int) (E++Bh q s 256) 256=_
      unfold QN WJ
      rw [iW,bK (by omega),fD];rfl
    obtain ⟨h1,rfl⟩:=l7
    exact h1
  have ht:=(Ia hq hs).1
  unfold Fp_ Pz N9
  rw [aF (by omega),iW]
  cases nth q.fin s false with
  |true=>
    have:=p1_ ht
    rw [iteO_true,in_ _ _ (by simp),fD,aF (by omega),sg_ ht (by simp),fD,if_pos rfl]
    exact hj _ (by simp only [gB,List.length_cons,List.length_nil];omega)
  |false=>
    rw [iteO_false,if_neg (by decide)]
    exact hj [] (by simp)
def yE(q:Seq)(s:Nat):Nat->Nat->T_1
  |_,0=>[]
  |b,n+1=>HY q s b++yE q s (b+1) n
theorem x4_(q:Seq)(s b:Nat): ∀n,yE q s b n=(List.range' b n).flatMap (HY q s)
  |0=>rfl
  |n+1=>by rw [yE,x4_ q s (b+1) n,List.range'_succ,List.flatMap_cons]
theorem ut_(q:Seq)(s:Nat):Bh q s 256=yE q s 0 256:=by rw [x4_,Bh,List.range_eq_range']
theorem tc_(q:Seq)(s:Nat): ∀n b,yE q s b n=[]\/ ∃c X,b<=c/\yE q s b n=103::(Lib.decDigits c++58::X)
  |0,_=> .inl rfl
  | n + 1, b => by
    rw [yE]
    unfold HY
    by_cases c:0<=nxQ q s b
    · rw [if_pos c]
      exact .inr ⟨b,MZ (otQ q s b)++yE q s (b+1) n,Nat.le_refl _,by simp only [List.cons_append,qH]⟩
    rw [if_neg c,List.nil_append]
    rcases tc_ q s n (b+1)with h|⟨d,X,h1,h2⟩
    · exact .inl h
    exact .inr ⟨d,X,by omega,h2⟩
theorem qe_ {q : Seq} {s t : Nat} : ∀ {n b : Nat}, yE q s b n = yE q t b n -> ∀ i, i < n -> (0 <= nxQ q s (b + i) ↔ 0 <= nxQ q t (b + i)) /\ (0 <= nxQ q s (b + i) -> otQ q s (b + i) = otQ q t (b + i))
  |0,b,_,i,hi=>absurd hi (Nat.not_lt_zero _)
  | n + 1, b, h, i, hi => by
    have one: ∀{s t:Nat},0<=nxQ q s b-> ¬ 0<=nxQ q t b->yE q s b (n+1)≠yE q t b (n+1):=λ{s t} c d h=>by
      rw [yE,yE]at h
      unfold HY at h
      rw [if_pos c,if_neg d,List.nil_append,List.cons_append,qH,List.cons_append]at h
      rcases tc_ q t n (b+1)with e|⟨f,X,h1,h2⟩
      · rw [e]at h;cases h
      rw [h2]at h
      obtain ⟨_,h⟩:=List.cons.inj h
      have:=p6_ (l0_ (Nv _) (Nv _) h).1
      omega
    by_cases c:0<=nxQ q s b
    · by_cases d:0<=nxQ q t b
      · rw [yE,yE]at h
        unfold HY at h
        rw [if_pos c,if_pos d,List.cons_append,List.cons_append,qH,qH,List.cons_append,List.cons_append]at h
        obtain ⟨_,h⟩:=List.cons.inj h
        obtain ⟨h1,h2⟩:=uh_ (l0_ (Nv _) (Nv _) h).2
        by_cases e:i=0
        · subst e;exact ⟨⟨λ_=>d,λ_=>c⟩,λ_=>h1⟩
        have:=qe_ h2 (i - 1) (by omega)
        rwa [show b+1+(i - 1)=b+i by omega]at this
      exact absurd h (one c d)
    by_cases d:0<=nxQ q t b
    · exact absurd h.symm (one d c)
    rw [yE,yE]at h
    unfold HY at h
    rw [if_neg c,if_neg d,List.nil_append,List.nil_append]at h
    by_cases e:i=0
    · subst e;exact ⟨⟨λk=>absurd k c,λk=>absurd k d⟩,λk=>absurd k c⟩
    have:=qe_ h (i - 1) (by omega)
    rwa [show b+1+(i - 1)=b+i by omega]at this
theorem pp_ {q : Seq} (hq : eP q = true) {s t : Nat} (hs : s < q.next.length) (ht : t < q.next.length) : Pz q s = Pz q t ↔ LikeQ q s t := by
  constructor
  · intro h
    unfold Pz at h
    rw [ut_,ut_]at h
    have hno: ∀{s t:Nat},nth q.fin s false=true-> ¬ nth q.fin t false=true->N9 q s++yE q s 0 256≠N9 q t++yE q t 0 256:=λ{s t} c d h=>by
      unfold N9 at h
      rw [if_pos c,if_neg d,List.nil_append,List.cons_append]at h
      rcases tc_ q t 256 0 with e|⟨f,X,_,e⟩
      · rw [e]at h;cases h
      rw [e]at h
      have:=(List.cons.inj h).1
      exact absurd this (by decide)
    have key:nth q.fin s false=nth q.fin t false/\nth q.tail s []=nth q.tail t []/\yE q s 0 256=yE q t 0 256:=by
      by_cases c:nth q.fin s false=true
      · by_cases d:nth q.fin t false=true
        · unfold N9 at h
          rw [if_pos c,if_pos d,List.cons_append,List.cons_append]at h
          obtain ⟨h1,h2⟩:=uh_ (List.cons.inj h).2
          exact ⟨c.trans d.symm,h1,h2⟩
        exact absurd h (hno c d)
      by_cases d:nth q.fin t false=true
      · exact absurd h.symm (hno d c)
      unfold N9 at h
      rw [if_neg c,if_neg d,List.nil_append,List.nil_append]at h
      refine ⟨(Bool.eq_false_iff.2 c).trans (Bool.eq_false_iff.2 d).symm,?_,h⟩
      rcases (Ia hq hs).2 with e|e
      · exact absurd e c
      rcases (Ia hq ht).2 with f|f
      · exact absurd f d
      rw [e,f]
    have hrow:=qe_ key.2.2
    refine ⟨key.1,key.2.1,λb hb=> ?_,λb hb=> ?_⟩
    · have:=(hrow b hb).1
      rw [Nat.zero_add]at this;omega
    have:=hrow b hb
    rw [Nat.zero_add]at this
    by_cases c:0<=nxQ q s b
    · exact this.2 c
    rw [Tm hq hs hb (by omega),Tm hq ht hb (by have:=this.1;omega)]
  intro h
  unfold Pz N9 Bh
  rw [h.fin,h.tail]
  congr 1
  rw [List.flatMap_def,List.flatMap_def,List.map_congr_left λb hb=> ?_]
  have hb:=List.mem_range.1 hb
  have h1:=h.neg b hb
  unfold HY
  rw [h.out b hb]
  by_cases c:0<=nxQ q s b
  · rw [if_pos c,if_pos (by omega)]
  rw [if_neg c,if_neg (by omega)]
structure NumI (K:Nat->T_1) (N k:Nat) (L:ak) (m:FM T_1 Int):Prop where
  len:L.length=N
  rng: ∀s,s<k->0<=nth L s 0/\nth L s 0<((m.n:Nat):Int)
  same: ∀s t,s<k->t<k->(nth L s 0=nth L t 0↔K s=K t)
  onto: ∀i,i<m.n-> ∃s,s<k/\nth L s 0=((i:Nat):Int)
  at': ∀s,s<k->m.f (K s)=some (nth L s 0)
  is: ∀y v,m.f y=some v-> ∃s,s<k/\y=K s
  le:m.n<=k
theorem NumI.nil(K:Nat->T_1){N:Nat}{L:ak}(h:L.length=N):NumI K N 0 L FM.emp:=
  ⟨h,λs hs=>absurd hs (Nat.not_lt_zero _),λs t hs=>absurd hs (Nat.not_lt_zero _),λi hi=>absurd hi (Nat.not_lt_zero _),λs hs=>absurd hs (Nat.not_lt_zero _),λy v h=>(by cases h),Nat.le_refl _⟩
theorem qz_ {K : Nat -> T_1} {N k : Nat} {L : ak} {m : FM T_1 Int} (h : NumI K N k L m) (hk : k < N) (hl : (K k).length <= 281474976710656) : ∃ i m', Di_ ⟨m⟩ (K k) = some (i, ⟨m'⟩) /\ NumI K N (k + 1) (L.set k i) m' := by
  have hlen:=h.len
  unfold Di_
  rw [aF hl]
  have hold: ∀{i:Int} {s:Nat},s<k->nth (L.set k i) s 0=nth L s 0:=λ{i s} hs=>by rw [jO,if_neg (λe=>by omega)]
  have hnew: ∀{i:Int},nth (L.set k i) k 0=i:=λ{i}=>by rw [jO,if_pos ⟨rfl,by omega⟩]
  cases c:m.f (K k)with
  |some v=>
    have hh:m.has (K k)=true:=by unfold FM.has;rw [c];rfl
    have hg:m.get (K k) 0=v:=by unfold FM.get;rw [c];rfl
    rw [show (⟨m⟩:Numb).places=m from rfl,hh,hg,qK]
    obtain ⟨s0,hs0,e0⟩:=h.is _ _ c
    have hv:v=nth L s0 0:=by
      have:=h.at' s0 hs0
      rw [<-e0,c]at this;exact Option.some.inj this
    have hsame0: ∀s,s<k->(nth L s 0=v↔K s=K k):=λs hs=>by rw [hv,h.same s s0 hs hs0,e0]
    refine ⟨v,m,rfl,by rw [gy];exact hlen,λs hs=> ?_,λs t hs ht=> ?_,λi hi=> ?_,λs hs=> ?_,λy v' hy=> ?_,by have:=h.le;omega⟩
    · by_cases e:s=k
      · subst e;rw [hnew,hv];exact h.rng s0 hs0
      rw [hold (by omega)];exact h.rng s (by omega)
    · by_cases e:s=k
      · subst e
        by_cases f:t=s
        · subst f;exact ⟨λ_=>rfl,λ_=>rfl⟩
        rw [hnew,hold (by omega)]
        have:=hsame0 t (by omega)
        exact ⟨λg=>(this.1 g.symm).symm,λg=>(this.2 g.symm).symm⟩
      by_cases f:t=k
      · subst f;rw [hnew,hold (by omega)];exact hsame0 s (by omega)
      rw [hold (by omega),hold (by omega)];exact h.same s t (by omega) (by omega)
    · obtain ⟨s,hs,e⟩:=h.onto i hi
      exact ⟨s,by omega,by rw [hold hs];exact e⟩
    · by_cases e:s=k
      · subst e;rw [hnew];exact c
      rw [hold (by omega)];exact h.at' s (by omega)
    obtain ⟨s,hs,e⟩:=h.is y v' hy
    exact ⟨s,by omega,e⟩
  |none=>
    have hh:m.has (K k)=false:=by unfold FM.has;rw [c];rfl
    rw [show (⟨m⟩:Numb).places=m from rfl,hh,uj]
    have hne: ∀s,s<k->K s≠K k:=λs hs e=>by
      have:=h.at' s hs
      rw [e,c]at this;cases this
    have hn:(m.put (K k) ((m.n:Nat):Int)).n=m.n+1:=by unfold FM.put;simp [c]
    have hf: ∀y,(m.put (K k) ((m.n:Nat):Int)).f y=if y=K k then some ((m.n:Nat):Int) else m.f y:=λy=>rfl
    refine ⟨((m.n:Nat):Int),m.put (K k) ((m.n:Nat):Int),rfl,by rw [gy];exact hlen,λs hs=> ?_,λs t hs ht=> ?_,λi hi=> ?_,λs hs=> ?_,λy v' hy=> ?_,by rw [hn];have:=h.le;omega⟩
    · rw [hn]
      by_cases e:s=k
      · subst e;rw [hnew];omega
      rw [hold (by omega)];have:=h.rng s (by omega);omega
    · by_cases e:s=k
      · subst e
        by_cases f:t=s
        · subst f;exact ⟨λ_=>rfl,λ_=>rfl⟩
        rw [hnew,hold (by omega)]
        have:=h.rng t (by omega)
        exact ⟨λg=>by omega,λg=>absurd g.symm (hne t (by omega))⟩
      by_cases f:t=k
      · subst f;rw [hnew,hold (by omega)]
        have:=h.rng s (by omega)
        exact ⟨λg=>by omega,λg=>absurd g (hne s (by omega))⟩
      rw [hold (by omega),hold (by omega)];exact h.same s t (by omega) (by omega)
    · rw [hn]at hi
      by_cases e:i=m.n
      · exact ⟨k,by omega,by rw [hnew,e]⟩
      obtain ⟨s,hs,e⟩:=h.onto i (by omega)
      exact ⟨s,by omega,by rw [hold hs];exact e⟩
    · rw [hf]
      by_cases e:s=k
      · subst e;rw [hnew,if_pos rfl]
      rw [hold (by omega),if_neg (hne s (by omega))];exact h.at' s (by omega)
    rw [hf]at hy
    by_cases e:y=K k
    · exact ⟨k,by omega,e⟩
    rw [if_neg e]at hy
    obtain ⟨s,hs,e⟩:=h.is y v' hy
    exact ⟨s,by omega,e⟩
def Nk(q:Seq)(L:ak)(s b:Nat):ak:=if 0<=nxQ q s b then [nth L (nxQ q s b).toNat 0] else []
def yJ(q:Seq)(L:ak)(s k:Nat):ak:=nth L s 0::(List.range k).flatMap (Nk q L s)
theorem ji_(q:Seq)(L:ak)(s k:Nat):yJ q L s (k+1)=yJ q L s k++Nk q L s k:=by
  unfold yJ;rw [List.range_succ,List.flatMap_append,List.flatMap_singleton];rfl
theorem qu_(q:Seq)(L:ak)(s:Nat): ∀k,(yJ q L s k).length<=k+1
  |0=>by simp [yJ]
  |k+1=>by
    have:=qu_ q L s k
    rw [ji_,gB]
    unfold Nk
    split<;>simp<;>omega
theorem qq_{q:Seq}{L:ak}{s t:Nat}(hn: ∀b,b<256->(nxQ q s b<0↔nxQ q t b<0)): ∀k,k<=256->(yJ q L s k=yJ q L t k↔nth L s 0=nth L t 0/\ ∀b,b<k->0<=nxQ q s b->nth L (nxQ q s b).toNat 0=nth L (nxQ q t b).toNat 0)
  |0,_=>by
    unfold yJ
    simp
  | k + 1, hk => by
    have ih:=qq_ (L:=L) hn k (by omega)
    have hnk:=hn k (by omega)
    rw [ji_,ji_]
    have hlc:(Nk q L s k).length=(Nk q L t k).length:=by
      unfold Nk
      by_cases c:0<=nxQ q s k
      · rw [if_pos c,if_pos (by omega)];rfl
      rw [if_neg c,if_neg (by omega)]
    constructor
    · intro h
      obtain ⟨h1,h2⟩:=List.append_inj' h hlc
      obtain ⟨h3,h4⟩:=ih.1 h1
      refine ⟨h3,λb hb h0=> ?_⟩
      by_cases c:b<k
      · exact h4 b c h0
      have:b=k:=by omega
      subst this
      unfold Nk at h2
      rw [if_pos h0,if_pos (by omega)]at h2
      exact List.head_eq_of_cons_eq h2
    rintro ⟨h1,h2⟩
    rw [ih.2 ⟨h1,λb hb=>h2 b (by omega)⟩]
    congr 1
    unfold Nk
    by_cases c:0<=nxQ q s k
    · rw [if_pos c,if_pos (by omega),h2 k (by omega) c]
    rw [if_neg c,if_neg (by omega)]
structure PrtI (q:Seq) (L:ak) (c:Nat):Prop where
  len:L.length=q.next.length
  rng: ∀s,s<q.next.length->0<=nth L s 0/\nth L s 0<((c:Nat):Int)
  onto: ∀i,i<c-> ∃s,s<q.next.length/\nth L s 0=((i:Nat):Int)
  like: ∀s t,s<q.next.length->t<q.next.length->nth L s 0=nth L t 0->LikeQ q s t
  same: ∀s t,s<q.next.length->t<q.next.length->dh q s=dh q t->nth L s 0=nth L t 0
theorem PrtI.le{q:Seq}{L:ak}{c:Nat}(h:PrtI q L c):c<=q.next.length:=
  uf_ (f:=λs=>(nth L s 0).toNat) (g:=λs=>s) (λk hk=>by obtain ⟨s,h1,h2⟩:=h.onto k hk;exact ⟨s,h1,by show (nth L s 0).toNat=k;omega⟩) (λs hs=>hs) (λs t _ _ e=>by rw [e])
structure PrtR (q:Seq) (L:ak) (c:Nat):Prop where
  len:L.length=q.next.length
  rng: ∀s,s<q.next.length->0<=nth L s 0/\nth L s 0<((c:Nat):Int)
  iff: ∀s t,s<q.next.length->t<q.next.length->(nth L s 0=nth L t 0↔dh q s=dh q t)
  le:c<=q.next.length
theorem yt_ {q : Seq} (hq : eP q = true) (hp : PshQ q) : ∃ L c, Fj_ q = some (L, ((c : Nat) : Int)) /\ PrtR q L c := by
  obtain ⟨q1,q2,q3,q4,q5⟩:=mW hq
  -- one round
  have round: ∀L c,PrtI q L c-> ∃r,ZF q L c=some r/\((∃L',r= .inr (L',((c:Nat):Int))/\PrtR q L' c)\/ ∃L' c',r= .inl (L',c')/\PrtI q L' c'/\c<c'):=by
    intro L c hI
    have hL:=hI.len
    have hle:=hI.le
    have hsml: ∀s k,s<q.next.length->k<=256->Sml (yJ q L s k):=λs k hs=>by
      induction k with
      |zero=>intro _ x hx;rw [show yJ q L s 0=[nth L s 0]from rfl,yK]at hx;rw [hx];have:=hI.rng s hs;omega
      |succ k ih=>
        intro hk x hx
        rw [ji_,List.mem_append]at hx
        rcases hx with hx|hx
        · exact ih (by omega) x hx
        unfold Nk at hx
        split at hx
        · rw [yK]at hx
          have h1:=oG hq hs (show k<256 by omega)
          have:=hI.rng (nxQ q s k).toNat (by omega)
          rw [hx];omega
        cases hx
    unfold ZF
    rw [aF (by omega)]
    refine kT (step:=λz:ak×(FM T_1 Int)×Nat=>QS L q c z.1 z.2.1 z.2.2) (λ(z:ak×FM T_1 Int) k=>(z.1,z.2,k)) q.next.length (λk z=>NumI (λs=>DV (yJ q L s 256)) q.next.length k z.1 z.2) _ ?_ ?_ (s0:=(List.replicate L.length 0,FM.emp)) (NumI.nil _ (by simp [hL]))
    · rintro k ⟨M,m⟩ hk hN
      simp only at hN
      left
      have hMl:=hN.len
      obtain ⟨r1,r2⟩:=vX hq hk
      have hkl:(DV (yJ q L k 256)).length<=600:=by rw [nq_];have:=qu_ q L k 256;omega
      obtain ⟨i,m',n1,n2⟩:=qz_ hN hk (by show (DV (yJ q L k 256)).length<=_;omega)
      show ∃s':ak×FM T_1 Int,QS L q c M m k=some (.inl (s'.1,s'.2,k+1))/\_
      refine ⟨(M.set k i,m'),?_,n2⟩
      unfold QS
      rw [bI (by simp only [r_];omega),aF (by omega),aF (by omega),aF hk]
      refine Exists.elim (kT (step:=λz:T_1×Nat=>QD q k L m M z.1 z.2) (λz j=>(z,j)) 256 (λj z=>z=DV (yJ q L k j)) (λr=>r= .inl (M.set k i,m',k+1)) ?_ ?_ (s0:=[qR (Hl .i64 (nth L k 0) 8),qR (nth L k 0)]) (by simp [yJ,DV,key2])) (λr l7=> ?_)
      · rintro j _ hj rfl
        left
        have h1:=oG hq hk hj
        have h3:(DV (yJ q L k j)).length<=600:=by rw [nq_];have:=qu_ q L k j;omega
        refine ⟨_,?_,rfl⟩
        show QD q k L m M (DV (yJ q L k j)) j=_
        unfold QD Ei_
        have e1:nth (nth q.next k []) j 0=nxQ q k j:=rfl
        rw [bI (by omega),ji_]
        simp only [e1]
        unfold Nk
        by_cases d:0<=nxQ q k j
        · have hg:0<=nxQ q k j/\nxQ q k j<(L.length:Int):=by omega
          rw [bI d,aF hg,aF hg,aF (by simp only [List.length_cons,List.length_nil];omega),if_pos d]
          unfold DV
          rw [List.flatMap_append,List.flatMap_singleton];rfl
        rw [bK d,if_neg d,List.append_nil];rfl
      · rintro _ rfl
        refine ⟨_,?_,rfl⟩
        show QD q k L m M (DV (yJ q L k 256)) 256=_
        unfold QD
        rw [bK (by omega),n1,fD,aF (by omega)];rfl
      obtain ⟨h1,rfl⟩:=l7
      exact h1
    rintro ⟨M,m⟩ hN
    simp only at hN
    have hiff: ∀s t,s<q.next.length->t<q.next.length->(nth M s 0=nth M t 0↔yJ q L s 256=yJ q L t 256):=λs t hs ht=>by
      rw [hN.same s t hs ht]
      exact ⟨r4_ (hsml s 256 hs (Nat.le_refl _)) (hsml t 256 ht (Nat.le_refl _)),λe=>by rw [e]⟩
    have hfine: ∀s t,s<q.next.length->t<q.next.length->nth M s 0=nth M t 0->nth L s 0=nth L t 0:=λs t hs ht e=>by
      have:=(hiff s t hs ht).1 e
      unfold yJ at this
      exact (List.cons.inj this).1
    have hsame: ∀s t,s<q.next.length->t<q.next.length->dh q s=dh q t->nth M s 0=nth M t 0:=λs t hs ht e=>by
      have hlk:=tj_ hp hq hs ht e
      rw [hiff s t hs ht,qq_ hlk.neg 256 (Nat.le_refl _)]
      refine ⟨hI.same s t hs ht e,λb hb h0=> ?_⟩
      obtain ⟨k1,_,k3⟩:=LV hp hp hs ht hb e h0
      have h1:=oG hq hs hb
      have h2:=oG hq ht hb
      exact hI.same _ _ (by omega) (by omega) k3
    have hcc:c<=m.n:=uf_ (n:=q.next.length) (f:=λs=>(nth L s 0).toNat) (g:=λs=>(nth M s 0).toNat) (λk hk=>by obtain ⟨s,h1,h2⟩:=hI.onto k hk;exact ⟨s,h1,by show (nth L s 0).toNat=k;omega⟩) (λs hs=>by have:=hN.rng s hs;show (nth M s 0).toNat<_;omega) (λs t hs ht e=>by
      have h1:=hN.rng s hs
      have h2:=hN.rng t ht
      have e:(nth M s 0).toNat=(nth M t 0).toNat:=e
      show (nth L s 0).toNat=(nth L t 0).toNat
      rw [hfine s t hs ht (by omega)])
    show ∃r,QS L q c M m q.next.length=some (.inr r)/\_
    unfold QS
    rw [bK (by simp only [r_];omega)]
    by_cases e:m.n=c
    · rw [bI (by omega)]
      refine ⟨_,rfl,.inl ⟨M,rfl,hN.len,λs hs=>by have:=hN.rng s hs;omega,λs t hs ht=>⟨λh=> ?_,hsame s t hs ht⟩,hle⟩⟩
      have hback: ∀s t,s<q.next.length->t<q.next.length->nth L s 0=nth L t 0->nth M s 0=nth M t 0:=λs t hs ht e'=>by
        have h1:=hN.rng s hs
        have h2:=hN.rng t ht
        have:=pigeon (n:=q.next.length) (c:=c) (f:=λs=>(nth L s 0).toNat) (g:=λs=>(nth M s 0).toNat) (λk hk=>by obtain ⟨s,h1,h2⟩:=hI.onto k hk;exact ⟨s,h1,by show (nth L s 0).toNat=k;omega⟩) (λs hs=>by have:=hN.rng s hs;show (nth M s 0).toNat<_;omega) (λs t hs ht e=>by
          have h1:=hN.rng s hs
          have h2:=hN.rng t ht
          have e:(nth M s 0).toNat=(nth M t 0).toNat:=e
          show (nth L s 0).toNat=(nth L t 0).toNat
          rw [hfine s t hs ht (by omega)]) hs ht (by show (nth L s 0).toNat=(nth L t 0).toNat;rw [e'])
        have this:(nth M s 0).toNat=(nth M t 0).toNat:=this
        omega
      refine funext λw=>bisim (n:=q.next.length) (λs b hs hb=>oG hq hs hb) (R:=λs t=>nth M s 0=nth M t 0) (λs t hs ht h=>hI.like s t hs ht (hfine s t hs ht h)) (λs t b hs ht h hb h0=> ?_) w s t hs ht h
      have hlk:=hI.like s t hs ht (hfine s t hs ht h)
      have h1:=oG hq hs hb
      have h2:=oG hq ht hb
      have h3:=hlk.neg b hb
      exact hback _ _ (by omega) (by omega) (((qq_ hlk.neg 256 (Nat.le_refl _)).1 ((hiff s t hs ht).1 h)).2 b hb h0)
    rw [bK (by omega)]
    exact ⟨_,rfl,.inr ⟨M,m.n,rfl,⟨hN.len,hN.rng,hN.onto,λs t hs ht h=>hI.like s t hs ht (hfine s t hs ht h),hsame⟩,by omega⟩⟩
  unfold Fj_
  rw [aF (by omega)]
  refine Exists.elim (kT (step:=λz:ak×(FM T_1 Int)×Nat=>QC q z.1 z.2.1 z.2.2) (λ(z:ak×FM T_1 Int) k=>(z.1,z.2,k)) q.next.length (λk z=>NumI (Pz q) q.next.length k z.1 z.2) (λr=> ∃L c,r=(L,((c:Nat):Int))/\PrtR q L c) ?_ ?_ (s0:=(List.replicate q.next.length 0,FM.emp)) (NumI.nil _ (by simp))) (λr l7=> ?_)
  · rintro k ⟨M,m⟩ hk hN
    simp only at hN
    left
    have hMl:=hN.len
    have hlen:(Pz q k).length<=281474976710656:=by
      have h1: ∀j,j<=256->(Bh q k j).length<=5000 * j:=λj=>by
        induction j with
        |zero=>intro _;simp [Bh]
        |succ j ih=>
          intro hj
          have:=ih (by omega)
          have:=ru_ hq hk (show j<256 by omega)
          rw [n3_,gB];omega
      have h2:=h1 256 (Nat.le_refl _)
      have h3:=p1_ (Ia hq hk).1
      unfold Pz N9
      rw [gB]
      split
      · rw [List.length_cons];omega
      rw [List.length_nil];omega
    obtain ⟨i,m',n1,n2⟩:=qz_ hN hk hlen
    show ∃s':ak×FM T_1 Int,QC q M m k=some (.inl (s'.1,s'.2,k+1))/\_
    refine ⟨(M.set k i,m'),?_,n2⟩
    unfold QC
    rw [bI (by simp only [r_];omega),yk_ hq hk,fD,n1,fD,aF (by omega)];rfl
  · rintro ⟨M,m⟩ hN
    simp only at hN
    show ∃r,QC q M m q.next.length=some (.inr r)/\_
    have h0:PrtI q M m.n:=⟨hN.len,hN.rng,hN.onto,λs t hs ht h=>(pp_ hq hs ht).1 ((hN.same s t hs ht).1 h),λs t hs ht h=>(hN.same s t hs ht).2 ((pp_ hq hs ht).2 (tj_ hp hq hs ht h))⟩
    obtain ⟨r,k1,k2⟩:=PE (step:=λz:ak×Nat=>ZF q z.1 z.2) (λz=>PrtI q z.1 z.2) (λz=>q.next.length - z.2) (λr=> ∃L c,r=(L,((c:Nat):Int))/\PrtR q L c) (λ⟨L,c⟩ hI=>by
      obtain ⟨r,r1,r2⟩:=round L c hI
      rcases r2 with ⟨L',rfl,r3⟩|⟨L',c',rfl,r3,r4⟩
      · exact .inr ⟨_,r1,L',c,rfl,r3⟩
      refine .inl ⟨_,r1,r3,?_⟩
      have:=r3.le
      show q.next.length - c'<q.next.length - c
      omega) (t:=(M,m.n)) h0
    refine ⟨r,?_,k2⟩
    unfold QC
    rw [bK (by simp only [r_];omega),k1];rfl
  obtain ⟨h1,L,c,rfl,h2⟩:=l7
  exact ⟨L,c,h1,h2⟩
end Go.Proofs.YtchebnpdnfhenaaGreatDoor
end
