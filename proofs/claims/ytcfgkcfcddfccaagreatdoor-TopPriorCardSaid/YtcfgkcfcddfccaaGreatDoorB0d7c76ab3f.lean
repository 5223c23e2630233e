/- Parts of a proof, one behind the other: what a machine reaches, functions decompiled, plain lemmas. Conditions stand with each lemma. -/
import Derived.Test.YtcfgkcfcddfccaaGreatDoorB147a8df593
import Derived.Test.YtcfgkcfcddfccaaGreatDoorBb70fbe2253
import Derived.Test.YtcfgkcfcddfccaaGreatDoorB334a0c3166
import Derived.Test.YtcfgkcfcddfccaaGreatDoorB0186e8dc91
import Derived.Lib.Builder
import Derived.Lib.AppendStr
import Derived.Lib.UnsafeStr
import Derived.Shelf.SlSortCmp.NoneTotal
import Derived.Shelf.Sort.Plain
import Derived.Shelf.Strconv.Itoa3
import Derived.Test.YtcfgkcfcddfccaaGreatDoorChecked
import Derived.RecoverIn

set_option linter.unusedVariables false
set_option linter.unusedSimpArgs false
set_option linter.unusedSectionVars false
set_option maxRecDepth 100000
set_option maxHeartbeats 8000000
variable {aB ay a0_10 a0_12 a0_16 aG a0_20 a0_22 dh kQ jf bY dV iI uU lD O9:Option Go.Addr}{kE wK aZ b0_11 fG aA aH c0_11 c0_13 c0_17 au c0_21 c0_23 dN kL je bW iR dU uO OC lu:Nat}

noncomputable section
namespace Go.Proofs.YtcfgkcfcddfccaaGreatDoor
open Go Go.E Go.E.OpVal Go.E.OpOk Go.Proofs.Tryz
open List (replicate)
theorem ag153:aggOf Tryz.prog 153=some true:=by kernel_rfl
theorem ag69:aggOf Tryz.prog 69=some false:=by kernel_rfl
theorem by153:byOf Tryz.prog 153=some 16:=by kernel_rfl
theorem fo71_0:foOf Tryz.prog 71 0=some 0:=by kernel_rfl
theorem pf154:plainF Tryz.prog 154=true:=by kernel_rfl
theorem pf191:plainF Tryz.prog 191=true:=by kernel_rfl
theorem pf32:plainF Tryz.prog 32=true:=by kernel_rfl
theorem pf33:plainF Tryz.prog 33=true:=by kernel_rfl
theorem pf34:plainF Tryz.prog 34=true:=by kernel_rfl
theorem pf35:plainF Tryz.prog 35=true:=by kernel_rfl
theorem pf36:plainF Tryz.prog 36=true:=by kernel_rfl
theorem pf37:plainF Tryz.prog 37=true:=by kernel_rfl
theorem pf95:plainF Tryz.prog 95=true:=by kernel_rfl
theorem pl71:plOf Tryz.prog 71=some #[(0,1)]:=by kernel_rfl
theorem Ua:szOf Tryz.prog 131=some 1:=by kernel_rfl
theorem TY:szOf Tryz.prog 153=some 2:=by kernel_rfl
theorem TR:zeroOf Tryz.prog 131=some (aW):=by kernel_rfl
theorem yu_:zeroOf Tryz.prog 153=some (.agg #[.int .i64 0,.int .i64 0]):=by kernel_rfl
theorem ze71:zeroOf Tryz.prog 71=some (.agg #[.nilFunc]):=by kernel_rfl
def k5_(l103:List BSet):Option ((List BSet)):=
 some l103
def xv_(x1:Int):Option ((List BSet)):=
 iteO (decide (x1<0)) (none) (iteO (decide (0<(IntKind.i64.wrap (x1 - (IntKind.i64.wrap (((0:Nat):Int) - ((0:Nat):Int))))))) (grd (0<IntKind.i64.wrap (x1 - (IntKind.i64.wrap (((0:Nat):Int) - ((0:Nat):Int))))/\(IntKind.i64.wrap (x1 - (IntKind.i64.wrap (((0:Nat):Int) - ((0:Nat):Int))))).toNat * 32<=140737488355328) (grd (0<=(replicate ((IntKind.i64.wrap (x1 - (IntKind.i64.wrap (((0:Nat):Int) - ((0:Nat):Int))))).toNat) BSet.zero).length) (k5_ ((replicate ((IntKind.i64.wrap (x1 - (IntKind.i64.wrap (((0:Nat):Int) - ((0:Nat):Int))))).toNat) BSet.zero).take 0)))) (k5_ ([]:List BSet)))
def xl_(σ:aj)(r:(List BSet)):Value->aj->List Res->Prop:=λv σ' H'=>
 ∃a1 c1,v= .slice a1 r.length c1/\σ=σ'/\H'=[ε 47 4 oQ (.slice a1 r.length c1) r]
theorem xq_{σ:aj}{x1:Int}{r:(List BSet)}(hh:xv_ x1=some r):
  Con prog 191 #[aW,.int .i64 x1] σ [] (xl_ σ r):=by
 dsimp only [xv_]at hh;refine cM 27 Tryz.func191 (λw0=> ?_);refine R10 ?_;refine π z hh (λgW hh=> ?_) (λgW hh=> ?_)
 ·cases hh
 refine R1 ?_;refine TC.cutG (α:=((List BSet))×((Option Addr)×Nat)) (rgs [(0,2),(8,18)]) (λg=>[(0,.slice g.2.1 g.1.length g.2.2)]) (λg=>[ε 47 4 oQ (.slice g.2.1 g.1.length g.2.2) g.1]) (λg=>σ) (λg=>k5_ g.1=some r) ?_ (λg j hg=> ?_)
 ·refine R4 ?_;refine ι z (capC z underlying131 z) (R11 ?_);refine π z hh (λfM hh=> ?_) (λfM hh=> ?_)
  ·refine R3 ?_;refine ι z (capC z underlying131 z) (ι z (dh_ z underlying131 PL z z) (TL.i z z ?_));obtain ⟨u21,hh⟩:=gd hh;refine φ rfl (ct_ (m:=(IntKind.i64.wrap (x1 - (IntKind.i64.wrap (((0:Nat):Int) - ((0:Nat):Int))))).toNat) (enc:=oQ) BSet.zero rfl underlying131 um PL by47 PK rfl rfl rfl (by show Value.int _ _=_;rw [Int.toNat_of_nonneg (by omega)]) (by omega) (by decide) Ei (by decide) rfl vz_ (λa107 Jh=> ?_));refine R2 ?_;obtain ⟨u24,hh⟩:=gd hh;refine φ z (cutS z underlying131 PL z z z z z (by omega) Ei ?_);refine R2 ?_;exact cf (((replicate ((IntKind.i64.wrap (x1 - (IntKind.i64.wrap (((0:Nat):Int) - ((0:Nat):Int))))).toNat) BSet.zero).take 0),(a107,Jh)) hh (θ 1 z)
  refine TC.nilS 47 4 oQ (R1 ?_);exact cf (([]:List BSet),(none,0)) hh (θ 1 z)
 obtain ⟨l103,⟨a104,c105⟩⟩:=g;have hh:=hg;clear hg
 try dsimp only
 dsimp only [k5_]at hh;refine ζ 0 z (λhb111=> ?_);refine R5 ?_;refine η ?_;obtain rfl:=so hh;exact rz
def JJ(x0:List (List BSet))(lg:List BSet)(aX:Nat):Option (((List BSet)×Nat)⊕((List BSet))):=
 iteO (decide ((aX:Int)<(x0.length:Int))) (grd ((lg.length+(nth x0 aX []).length) * 32<=140737488355328) (nxt ((lg++(nth x0 aX [])),(aX+1)))) (fin (some lg))
def Oq(x0:List (List BSet))(i105:Int)(yO:Nat):Option ((Int×Nat)⊕((List BSet))):=
 iteO (decide ((yO:Int)<(x0.length:Int))) (iteO (decide ((IntKind.i64.wrap (i105+((nth x0 yO []).length:Int)))<0)) (none) (nxt ((IntKind.i64.wrap (i105+((nth x0 yO []).length:Int))),(yO+1)))) (fin (bnd (xv_ i105) (λv22=>iter (λq:(List BSet)×Nat=>JJ x0 q.1 q.2) (v22,0))))
def os_(x0:List (List BSet)):Option ((List BSet)):=
 iter (λq:Int×Nat=>Oq x0 q.1 q.2) (0,0)
theorem td_{σ:aj}{x0:List (List BSet)}(aC:RZ σ (aF 4 oQ Ei) (.slice aB x0.length aA) x0){r:(List BSet)}(hh:os_ x0=some r):
  Con prog 154 #[.slice aB x0.length aA] σ [] (xl_ σ r):=by
 dsimp only [os_]at hh;have f0_0b:=aC.big;refine cM 36 Tryz.func154 (λw0=> ?_);refine R16 ?_;refine TC.lp hh () (rgs [(3,1),(5,1),(11,12)]) (λ⟨i105,yO⟩ _=>([(3,.int .i64 i105),(11,.int .i64 (yO:Int))],[])) (θ 0 z) ?_;rintro ⟨i105,yO⟩ _ _ z1 hh hR1;dsimp only [Oq]at hh ⊢;refine R5 ?_;refine π z hh (λgq hh=> ?_) (λgq hh=> ?_)
 ·refine R6 ?_;obtain ⟨QV,WB,hg108⟩:=RZ.seg aC yO (by omega);replace WB:RS _ 4 oQ (.slice QV.1 (nth x0 yO []).length QV.2) (nth x0 yO []):=WB;refine ι z (OpVal.of (qw z aas_ z hg108 z) (v':= .slice QV.1 ((nth x0 yO []).length) QV.2) z) (R15 ?_);refine π z hh (λiE hh=> ?_) (λiE hh=> ?_)
  ·cases hh
  refine R5 ?_;exact nxq hR1 hh () (θ 0 z)
 refine R1 ?_;replace hh:=bJ hR1 hh;refine R4 ?_;obtain ⟨v22,u22,hh⟩:=bg hh;refine φ z (OpOk.call (xq_ u22) z z pf191 z z z z ?_);rintro _ _ _ jG ⟨a111_1,c111_1,rfl,rfl,rfl⟩;refine R10 ?_;refine TC.lp hh (a111_1,c111_1) (rgs [(6,1),(8,1),(27,8)]) (λ⟨lg,aX⟩ ⟨CY,CO⟩=>([(6,.slice CY lg.length CO),(27,.int .i64 (aX:Int))],[ε 47 4 oQ (.slice CY lg.length CO) lg])) (θ 1 z) ?_;rintro ⟨lg,aX⟩ ⟨CY,CO⟩ _ z1 hh hR1;dsimp only [JJ]at hh ⊢;refine ζ 0 z (λhb125=> ?_);refine R5 ?_;refine π z hh (λZE hh=> ?_) (λZE hh=> ?_)
 ·refine R6 ?_;obtain ⟨QK,Il,hg127⟩:=RZ.seg aC aX (by omega);replace Il:RS _ 4 oQ (.slice QK.1 (nth x0 aX []).length QK.2) (nth x0 aX []):=Il;have hk127b:=Il.rv.big;refine ι z (OpVal.of (qw z aas_ z hg127 z) (v':= .slice QK.1 ((nth x0 aX []).length) QK.2) z) (R5 ?_);obtain ⟨u33,hh⟩:=gd hh;refine φ z (apF (.inl Il) u33 (λa128 ZY=> ?_));refine R6 ?_;exact nxq hR1 hh (a128,ZY) (θ 1 z)
 refine R1 ?_;replace hh:=bJ hR1 hh;refine R6 ?_;refine η ?_;obtain rfl:=so hh;exact rz
def hs_(x0:Dfa)(x1:Dfa):Option ((List BSet)×ah×Int):=
 bnd (Tc x0.cls) (λv8=>iteO (decide (v8.2≠0)) (some (([]:List BSet),([]:ah),v8.2)) (bnd (Tc x1.cls) (λv22=>iteO (decide (v22.2≠0)) (some (([]:List BSet),([]:ah),v22.2)) (bnd (os_ [v8.1,v22.1]) (λv37=>bnd (E9_ v37) (λv38=>iteO (decide (v38.2≠0)) (some (([]:List BSet),([]:ah),v38.2)) (bnd (Xo v38.1) (λv51=>iteO (decide (v51.2≠0)) (some (([]:List BSet),([]:ah),v51.2)) (some (v38.1,v51.1,0))))))))))
def pe_(σ:aj)(r:(List BSet)×ah×Int):Value->aj->List Res->Prop:=λv σ' H'=>
 ∃a1 c1 a2 c2,v= .tuple #[.slice a1 r.1.length c1,.slice a2 r.2.1.length c2,.int .i64 r.2.2]/\RS σ' 4 oQ (.slice a1 r.1.length c1) r.1/\dH σ' ak a2 c2 r.2.1/\H'=[]
theorem mv_{σ:aj}{x0:Dfa}{x1:Dfa}(hgl:xu σ 0 2)(aC:dH σ ak aB aA x0.cls)(aV:RZ σ (aF 1 ak aT) (.slice ay x0.next.length aH) x0.next)(aS:dH σ dG aG au x0.fin)(bn:dH σ ak bY bW x1.cls)(gu:RZ σ (aF 1 ak aT) (.slice dV x1.next.length iR) x1.next)(fF:dH σ dG iI dU x1.fin){r:(List BSet)×ah×Int}(hh:hs_ x0 x1=some r):
  Con prog 95 #[.agg #[.slice aB x0.cls.length aA,.slice ay x0.next.length aH,.slice aG x0.fin.length au],.agg #[.slice bY x1.cls.length bW,.slice dV x1.next.length iR,.slice iI x1.fin.length dU]] σ [] (pe_ σ r):=by
 dsimp only [hs_]at hh;refine cM 51 Tryz.func95 (λw0=> ?_);refine R2 ?_;refine TL.bx (λaP=> ?_);refine TL.bx (λbK=> ?_);refine R8 ?_;obtain ⟨v8,u8,hh⟩:=bg hh;refine φ z (OpOk.call (I0_ aC u8) z z aak_ z z z z ?_);rintro _ τ105 _ jH ⟨a105_1,c105_1,rfl,hr105_0,rfl⟩;replace bn:=bn.mono jH;replace hgl:=hgl.mono jH;refine R12 ?_;refine π z hh (λfM hh=> ?_) (λfM hh=> ?_)
 ·refine R7 ?_;refine Ψ 0 ?_;obtain rfl:=so hh;exact rq [4,5,6] ⟨none,0,none,0,z,(RS.nilF _ oQ Ei),(RS.nilF _ ak aT),z⟩
 refine R5 ?_;obtain ⟨v22,u22,hh⟩:=bg hh;refine φ z (OpOk.call (I0_ bn u22) z z aak_ z z z z ?_);rintro _ τ107 _ lV ⟨a107_1,c107_1,rfl,hr107_0,rfl⟩;replace hgl:=hgl.mono lV;replace hr105_0:=hr105_0.mono lV;refine R12 ?_;refine π z hh (λiG hh=> ?_) (λiG hh=> ?_)
 ·refine R7 ?_;refine Ψ 0 ?_;obtain rfl:=so hh;exact rq [4,5,6] ⟨none,0,none,0,z,(RS.nilF _ oQ Ei),(RS.nilF _ ak aT),z⟩
 refine R5 ?_;have TP:ZOk _ (aF 4 oQ Ei) ([(v8.1,(a105_1,c105_1)),(v22.1,(a107_1,c107_1))]:List (List BSet×(aF 4 oQ Ei).P)) [v8.1,v22.1]:=ZOk.cons (hr105_0) (ZOk.cons (hr107_0) (ZOk.nil _ _));refine φ z (litZ TP z underlying248 Ua z TR z z z (by decide) (by decide) z (by decide) z (by decide) (λa109 F5=> ?_));refine TL.Ji TP (λτ115 tV yS=> ?_);replace hgl:=hgl.mono tV;obtain ⟨v37,u37,hh⟩:=bg hh;refine φ z (OpOk.call (td_ yS u37) z z pf154 z z z z ?_);rintro _ _ _ og ⟨a116_1,c116_1,rfl,rfl,rfl⟩;refine TL.jO Ei (λτ120 nZ su=> ?_);replace hgl:=hgl.mono nZ;obtain ⟨v38,u38,hh⟩:=bg hh;refine φ z (OpOk.call (Ks_ su u38) z z pf83 z z z z ?_);rintro _ τ121 _ qW ⟨a121_1,c121_1,rfl,hr121_0,rfl⟩;replace hgl:=hgl.mono qW;refine R12 ?_;refine π z hh (λh122 hh=> ?_) (λh122 hh=> ?_)
 ·refine R7 ?_;refine Ψ 0 ?_;obtain rfl:=so hh;exact rq [4,5,6] ⟨none,0,none,0,z,(RS.nilF _ oQ Ei),(RS.nilF _ ak aT),z⟩
 refine R4 ?_;obtain ⟨v51,u51,hh⟩:=bg hh;refine φ z (OpOk.call (Kv_ hgl hr121_0 u51) z z pf85 z z z z ?_);rintro _ τ123 _ Nb ⟨a123_1,c123_1,rfl,hr123_0,rfl⟩;replace hr121_0:=hr121_0.mono Nb;refine R12 ?_;refine π z hh (λwz hh=> ?_) (λwz hh=> ?_)
 ·refine R7 ?_;refine Ψ 0 ?_;obtain rfl:=so hh;exact rq [4,5,6] ⟨none,0,none,0,z,(RS.nilF _ oQ Ei),(RS.nilF _ ak aT),z⟩
 refine R9 ?_;refine Ψ 0 ?_;obtain rfl:=so hh;exact rq [4,5,6] ⟨a121_1,c121_1,a123_1,c123_1,z,hr121_0,hr123_0,z⟩
def j6_(x0:Bool)(x1:Bool):Option (Bool):=
 iteO x0 (some true) (some x1)
theorem o2_{σ:aj}{x0:Bool}{x1:Bool}{r:Bool}(hh:j6_ x0 x1=some r):
  Con prog 32 #[.bool x0,.bool x1] σ [] (jq (.bool r) σ):=by
 dsimp only [j6_]at hh;refine cM 9 Tryz.func32 (λw0=> ?_);refine R8 ?_;refine δ 6 z (λgW=> ?_) (λgW=> ?_)
 ·replace hh:=uZ gW hh;refine R4 ?_;refine η ?_;obtain rfl:=so hh;exact rq [4] ⟨z,z,z⟩
 replace hh:=u_ gW hh;refine R4 ?_;refine η ?_;obtain rfl:=so hh;exact rq [4] ⟨z,z,z⟩
def fo_(dK:Nat)(jh:ah)(Yo:List FPr)(Ym:FM FPr Int)(i233:Int):Option (((List FPr)×(FM FPr Int)×ah×Nat)⊕(((List FPr)×(FM FPr Int)×aO×B_1×Nat)⊕(Dfa×Int))):=
 grd (dK<jh.length) (nxt (Yo,Ym,(jh.set dK i233),(dK+1)))
def Ou(v19:(List BSet)×ah×Int)(bZ:List FPr)(bP:Nat)(x1:Dfa)(x2:Dfa)(sQ:aO)(mD:B_1)(cO:List FPr)(xG:FM FPr Int)(jh:ah)(dK:Nat):Option (((List FPr)×(FM FPr Int)×ah×Nat)⊕(((List FPr)×(FM FPr Int)×aO×B_1×Nat)⊕(Dfa×Int))):=
 iteO (decide ((dK:Int)<(v19.1.length:Int))) (bnd (JQ (nth v19.1 dK BSet.zero)) (λv77=>grd (0<=((nth bZ bP fH).p)/\((nth bZ bP fH).p)<(x1.next.length:Int)) (grd (v77.1.toNat<x1.cls.length) (grd (0<=(nth x1.cls v77.1.toNat 0)/\(nth x1.cls v77.1.toNat 0)<((nth x1.next (((nth bZ bP fH).p).toNat) []).length:Int)) (grd (0<=((nth bZ bP fH).q)/\((nth bZ bP fH).q)<(x2.next.length:Int)) (grd (v77.1.toNat<x2.cls.length) (grd (0<=(nth x2.cls v77.1.toNat 0)/\(nth x2.cls v77.1.toNat 0)<((nth x2.next (((nth bZ bP fH).q).toNat) []).length:Int)) (iteO (!(xG.has (⟨(nth (nth x1.next (((nth bZ bP fH).p).toNat) []) ((nth x1.cls v77.1.toNat 0).toNat) 0),(nth (nth x2.next (((nth bZ bP fH).q).toNat) []) ((nth x2.cls v77.1.toNat 0).toNat) 0)⟩:FPr))) (iteO (decide (1024<=(cO.length:Int))) (fin (fin (some ((⟨([]:ah),([]:aO),([]:B_1)⟩:Dfa),2)))) (grd ((cO.length+[(⟨(nth (nth x1.next (((nth bZ bP fH).p).toNat) []) ((nth x1.cls v77.1.toNat 0).toNat) 0),(nth (nth x2.next (((nth bZ bP fH).q).toNat) []) ((nth x2.cls v77.1.toNat 0).toNat) 0)⟩:FPr)].length) * 16<=140737488355328) (fo_ dK jh (cO++[(⟨(nth (nth x1.next (((nth bZ bP fH).p).toNat) []) ((nth x1.cls v77.1.toNat 0).toNat) 0),(nth (nth x2.next (((nth bZ bP fH).q).toNat) []) ((nth x2.cls v77.1.toNat 0).toNat) 0)⟩:FPr)]) (xG.put (⟨(nth (nth x1.next (((nth bZ bP fH).p).toNat) []) ((nth x1.cls v77.1.toNat 0).toNat) 0),(nth (nth x2.next (((nth bZ bP fH).q).toNat) []) ((nth x2.cls v77.1.toNat 0).toNat) 0)⟩:FPr) (cO.length:Int)) (cO.length:Int)))) (fo_ dK jh cO xG (xG.get (⟨(nth (nth x1.next (((nth bZ bP fH).p).toNat) []) ((nth x1.cls v77.1.toNat 0).toNat) 0),(nth (nth x2.next (((nth bZ bP fH).q).toNat) []) ((nth x2.cls v77.1.toNat 0).toNat) 0)⟩:FPr) 0)))))))))) (fin (grd ((sQ.length+[jh].length) * 24<=140737488355328) (grd (0<=((nth bZ bP fH).p)/\((nth bZ bP fH).p)<(x1.fin.length:Int)) (grd (0<=((nth bZ bP fH).q)/\((nth bZ bP fH).q)<(x2.fin.length:Int)) (bnd (j6_ (nth x1.fin (((nth bZ bP fH).p).toNat) false) (nth x2.fin (((nth bZ bP fH).q).toNat) false)) (λKH=>grd ((mD.length+[KH].length) * 1<=140737488355328) (nxt (cO,xG,(sQ++[jh]),(mD++[KH]),(bP+1)))))))))
def Rl(v19:(List BSet)×ah×Int)(x1:Dfa)(x2:Dfa)(bZ:List FPr)(Yn:FM FPr Int)(sQ:aO)(mD:B_1)(bP:Nat):Option (((List FPr)×(FM FPr Int)×aO×B_1×Nat)⊕(Dfa×Int)):=
 iteO (decide ((bP:Int)<(bZ.length:Int))) (grd (8 * v19.1.length<=281474976710656) (iter (λq:(List FPr)×(FM FPr Int)×ah×Nat=>Ou v19 bZ bP x1 x2 sQ mD q.1 q.2.1 q.2.2.1 q.2.2.2) (bZ,Yn,(replicate v19.1.length (0:Int)),0))) (fin (some ((⟨v19.2.1,sQ,mD⟩:Dfa),0)))
def gt_(x1:Dfa)(x2:Dfa):Option (Dfa×Int):=
 bnd (S_ x1) (λv7=>iteO (decide (v7≠0)) (some ((⟨([]:ah),([]:aO),([]:B_1)⟩:Dfa),1)) (bnd (S_ x2) (λv11=>iteO (decide (v11≠0)) (some ((⟨([]:ah),([]:aO),([]:B_1)⟩:Dfa),1)) (bnd (hs_ x1 x2) (λv19=>iteO (decide (v19.2.2≠0)) (some ((⟨([]:ah),([]:aO),([]:B_1)⟩:Dfa),v19.2.2)) (iter (λq:(List FPr)×(FM FPr Int)×aO×B_1×Nat=>Rl v19 x1 x2 q.1 q.2.1 q.2.2.1 q.2.2.2.1 q.2.2.2.2) ([(⟨0,0⟩:FPr)],((FM.emp:FM FPr Int).put (⟨0,0⟩:FPr) 0),([]:aO),([]:B_1),0)))))))
theorem ju_{σ:aj}{x1:Dfa}{x2:Dfa}(hgl:xu σ 0 2)(bn:dH σ ak bY bW x1.cls)(gu:RZ σ (aF 1 ak aT) (.slice dV x1.next.length iR) x1.next)(fF:dH σ dG iI dU x1.fin)(xW:dH σ ak uU uO x2.cls)(Cm:RZ σ (aF 1 ak aT) (.slice lD x2.next.length OC) x2.next)(xU:dH σ dG O9 lu x2.fin){r:Dfa×Int}(hh:gt_ x1 x2=some r):
  Con prog 33 #[.agg #[.func (.func 32) #[] #[]],.agg #[.slice bY x1.cls.length bW,.slice dV x1.next.length iR,.slice iI x1.fin.length dU],.agg #[.slice uU x2.cls.length uO,.slice lD x2.next.length OC,.slice O9 x2.fin.length lu]] σ [] (Ia_ σ r):=by
 dsimp only [gt_]at hh;refine cM 158 Tryz.func33 (λw0=> ?_);refine R2 ?_;refine TL.bx (λaP=> ?_);refine TL.bx (λbK=> ?_);refine TL.bx (λiq=> ?_);refine TL.al (λnG=> ?_);refine R6 ?_;obtain ⟨v7,u7,hh⟩:=bg hh;refine φ z (gI (Ef_ (x0:=x1) bn gu fF u7) z z KZ z z z ?_);refine R2 ?_;refine δ 28 z (λiE=> ?_) (λiE=> ?_)
 ·obtain ⟨iE,hh⟩:=iT iE hh;refine R12 ?_;refine Ψ 1 ?_;obtain rfl:=so hh;exact rz
 obtain ⟨iE,hh⟩:=iF iE hh;refine TL.g z lA ?_;obtain ⟨v11,u11,hh⟩:=bg hh;refine TL.gon z z z z z (gI (Ef_ (x0:=x2) xW Cm xU u11) z z KZ z z z ?_);refine R3 ?_;refine π z hh (λfD hh=> ?_) (λfD hh=> ?_)
 ·refine R6 ?_;refine Ψ 1 ?_;obtain rfl:=so hh;exact rz
 refine R5 ?_;obtain ⟨v19,yG,hh⟩:=bg hh;refine φ z (OpOk.call (mv_ (x0:=x1) (x1:=x2) hgl bn gu fF xW Cm xU yG) z z pf95 z z z z ?_);rintro _ τ111 _ jG ⟨a111_1,c111_1,a111_2,c111_2,rfl,hr111_0,hr111_1,rfl⟩;replace bn:=bn.mono jG;replace gu:=gu.mono jG;replace fF:=fF.mono jG;replace xW:=xW.mono jG;replace Cm:=Cm.mono jG;replace xU:=xU.mono jG;replace hgl:=hgl.mono jG;refine R14 ?_;refine π z hh (λh112 hh=> ?_) (λh112 hh=> ?_)
 ·refine R7 ?_;refine Ψ 1 ?_;obtain rfl:=so hh;exact rz
 refine R3 ?_;refine ι z (a4_ z underlying153 oq yu_ z) (φ z (jc (enc:=UO) [(⟨0,0⟩:FPr)] (λjl jR=> ?_)));refine R4 ?_;refine φ z (as_ (enc:=keyF) (encV:=gX) z z z (λOY=> ?_));refine ι z (a4_ z underlying153 oq yu_ z) (φ z (insB (⟨0,0⟩:FPr) 0 z underlying155 z z z z (rf_ underlying153 um CW oq) ?_));refine R7 ?_;refine TL.al (λCU=> ?_);refine R8 ?_;refine TC.nilS 31 1 (aF 1 ak aT).en ?_;have Dt:=ZOk.nil τ111 (aF 1 ak aT);refine TC.nilS 4 1 dG (TC.Ak (α:=((List FPr)×(FM FPr Int)×aO×B_1×Nat)×((Option Addr)×Nat×(Option Addr)×Nat×(List (ah×(aF 1 ak aT).P))×(Option Addr)×Nat×aj)) (rgs [(7,1),(11,1),(14,11),(52,105)]) (λg=>[(11,.slice g.2.1 g.1.1.length g.2.2.1),(14,.int .i64 (g.1.2.2.2.2:Int))]) (λg=>[ω aP #[.func (.func 32) #[] #[]] 71,ω bK #[.slice bY x1.cls.length bW,.slice dV x1.next.length iR,.slice iI x1.fin.length dU] 35,ω iq #[.slice uU x2.cls.length uO,.slice lD x2.next.length OC,.slice O9 x2.fin.length lu] 35,ω nG #[aW,aW,aW] 35,ε 153 2 UO (.slice g.2.1 g.1.1.length g.2.2.1) g.1.1,Γ keyF gX (some OY) g.1.2.1,ω CU #[.slice a111_2 v19.2.1.length c111_2,.slice g.2.2.2.1 g.1.2.2.1.length g.2.2.2.2.1,.slice g.2.2.2.2.2.2.1 g.1.2.2.2.1.length g.2.2.2.2.2.2.2.1] 35,ε 31 1 (aF 1 ak aT).en (.slice g.2.2.2.1 g.1.2.2.1.length g.2.2.2.2.1) g.2.2.2.2.2.1,ε 4 1 dG (.slice g.2.2.2.2.2.2.1 g.1.2.2.2.1.length g.2.2.2.2.2.2.2.1) g.1.2.2.2.1]) (λg=>g.2.2.2.2.2.2.2.2) (λg=>iter (λq:(List FPr)×(FM FPr Int)×aO×B_1×Nat=>Rl v19 x1 x2 q.1 q.2.1 q.2.2.1 q.2.2.2.1 q.2.2.2.2) g.1=some r/\ZOk g.2.2.2.2.2.2.2.2 (aF 1 ak aT) g.2.2.2.2.2.1 g.1.2.2.1/\aj.le τ111 g.2.2.2.2.2.2.2.2) (λg=>rQ (λq:(List FPr)×(FM FPr Int)×aO×B_1×Nat=>Rl v19 x1 x2 q.1 q.2.1 q.2.2.1 q.2.2.2.1 q.2.2.2.2) g.1) (([(⟨0,0⟩:FPr)],((FM.emp:FM FPr Int).put (⟨0,0⟩:FPr) 0),([]:aO),([]:B_1),0),(jl,jR,none,0,[],none,0,τ111)) (ψ (rgs [(1,8)]) 9) z (by repeat (first|exact trivial|refine ⟨z,?_⟩)) ⟨hh,Dt,(aj.le.refl _)⟩ (λg1 j1 hg1=> ?_));obtain ⟨⟨bZ,Yn,sQ,mD,bP⟩,⟨Js,c152,a156,c157,KD,a162,uQ,τ168⟩⟩:=g1;obtain ⟨hh,kG,lQ⟩:=hg1
 try dsimp only at kG
 dsimp only at lQ;replace bn:=bn.mono lQ;replace gu:=gu.mono lQ;replace fF:=fF.mono lQ;replace xW:=xW.mono lQ;replace Cm:=Cm.mono lQ;replace xU:=xU.mono lQ;replace hgl:=hgl.mono lQ;replace hr111_0:=hr111_0.mono lQ;replace hr111_1:=hr111_1.mono lQ
 try dsimp only
 obtain ⟨z1,hh,hR1⟩:=zQ hh;dsimp only [Rl]at hh;have zf159b:=kG.length;refine ζ 4 z (λIp=> ?_);refine ζ 7 z (λNR=> ?_);refine ζ 8 z (λWU=> ?_);refine R8 ?_;refine π z hh (λzC hh=> ?_) (λzC hh=> ?_)
 ·refine R4 ?_;refine TC.dw [] (ν 0 z mS z (ν 1 z mI z (TA.isSl (i:=4) z (λhs178 _ _=> ?_))));refine χ 2 z iN z (TA.isSl (i:=4) z (λhs179 _ _=> ?_));refine χ 3 z (bj_ (i:=0) (f:=0) z underlying153 oq z z (by decide) z hs179 (by omega)) z (χ 4 z (ZJ fH z CW z (q:=4) z pr_ (by omega) (by omega) z) z (ν 5 z mS z (ν 6 z mI z (TA.isSl (i:=4) z (λhs180 _ _=> ?_)))));refine χ 7 z iN z (TA.isSl (i:=4) z (λhs181 _ _=> ?_));refine χ 8 z (bj_ (i:=1) (f:=1) z underlying153 oq z z (by decide) z hs181 (by omega)) z (χ 9 z (ZJ fH z CW z (q:=4) z pr_ (by omega) (by omega) z) z (ν 10 z mI z (ν 11 z mI z (R5 ?_))));obtain ⟨u64,hh⟩:=gd hh;refine φ z (mk2 (enc:=ak) (0:Int) (λa182 c183=> ?_));refine R10 ?_;refine TC.Ak (α:=((List FPr)×(FM FPr Int)×ah×Nat)×((Option Addr)×Nat×aj)) (rgs [(7,1),(11,1),(18,7),(73,60)]) (λg=>[(11,.slice g.2.1 g.1.1.length g.2.2.1),(73,.int .i64 (g.1.2.2.2:Int))]) (λg=>[ω aP #[.func (.func 32) #[] #[]] 71,ω bK #[.slice bY x1.cls.length bW,.slice dV x1.next.length iR,.slice iI x1.fin.length dU] 35,ω iq #[.slice uU x2.cls.length uO,.slice lD x2.next.length OC,.slice O9 x2.fin.length lu] 35,ω nG #[aW,aW,aW] 35,ε 153 2 UO (.slice g.2.1 g.1.1.length g.2.2.1) g.1.1,Γ keyF gX (some OY) g.1.2.1,ω CU #[.slice a111_2 v19.2.1.length c111_2,.slice a156 sQ.length c157,.slice a162 mD.length uQ] 35,ε 31 1 (aF 1 ak aT).en (.slice a156 sQ.length c157) KD,dO 4 dG a162 uQ mD,ε 3 1 ak (.slice a182 (replicate v19.1.length (0:Int)).length c183) g.1.2.2.1]) (λg=>g.2.2.2) (λg=>iter (λq:(List FPr)×(FM FPr Int)×ah×Nat=>Ou v19 bZ bP x1 x2 sQ mD q.1 q.2.1 q.2.2.1 q.2.2.2) g.1=some z1/\ZOk g.2.2.2 (aF 1 ak aT) KD sQ/\g.1.2.2.1.length=(replicate v19.1.length (0:Int)).length/\aj.le τ168 g.2.2.2) (λg=>rQ (λq:(List FPr)×(FM FPr Int)×ah×Nat=>Ou v19 bZ bP x1 x2 sQ mD q.1 q.2.1 q.2.2.1 q.2.2.2) g.1) ((bZ,Yn,(replicate v19.1.length (0:Int)),0),(Js,c152,τ168)) (ψ [9,9,9,9,9,9,9,9,9] 10) z (by repeat (first|exact trivial|refine ⟨z,?_⟩)) ⟨hh,kG,z,(aj.le.refl _)⟩ (λg2 j2 hg2=> ?_);obtain ⟨⟨cO,xG,jh,dK⟩,⟨a203,CG,τ210⟩⟩:=g2;obtain ⟨hh,uq,y7,ig⟩:=hg2
  try dsimp only at uq
  try dsimp only at y7
  dsimp only at ig;replace bn:=bn.mono ig;replace gu:=gu.mono ig;replace fF:=fF.mono ig;replace xW:=xW.mono ig;replace Cm:=Cm.mono ig;replace xU:=xU.mono ig;replace hgl:=hgl.mono ig;replace hr111_0:=hr111_0.mono ig;replace hr111_1:=hr111_1.mono ig;replace kG:=kG.mono ig
  try dsimp only
  obtain ⟨z2,hh,hR2⟩:=zQ hh;dsimp only [Ou]at hh;have zf206b:=uq.length;refine ζ 4 z (λNJ=> ?_);refine ζ 7 z (λhb213=> ?_);refine ζ 8 z (λWQ=> ?_);refine ζ 9 z (λWO=> ?_);refine R5 ?_;refine π z hh (λN9 hh=> ?_) (λN9 hh=> ?_)
  ·refine R8 ?_;refine TL.al (λb217=> ?_);refine R6 ?_;obtain ⟨v77,u77,hh⟩:=bg hh;refine φ z (gI (Ja_ hgl u77) z z X_ z z z ?_);refine R7 ?_;obtain ⟨u86,hh⟩:=gd hh;obtain ⟨u91,hh⟩:=gd hh;obtain ⟨u93,hh⟩:=gd hh;obtain ⟨u98,hh⟩:=gd hh;obtain ⟨u103,hh⟩:=gd hh;obtain ⟨u105,hh⟩:=gd hh;refine TC.dw [26] (ν 0 z fL z (χ 1 z lL z (ν 2 z mI z (χ 3 z iX z ?_))));obtain ⟨Qw,Wn,hg223⟩:=RZ.seg gu (((nth bZ bP fH).p).toNat) (by omega);replace Wn:RS _ 1 ak (.slice Qw.1 (nth x1.next (((nth bZ bP fH).p).toNat) []).length Qw.2) (nth x1.next (((nth bZ bP fH).p).toNat) []):=Wn;refine χ 4 z (OpVal.of (qw z pV z hg223 z) (v':= .slice Qw.1 ((nth x1.next (((nth bZ bP fH).p).toNat) []).length) Qw.2) z) z (ν 5 z fL z (χ 6 z lL z (ν 7 z mI z (χ 8 z iN z (χ 9 z l1 z (χ 10 z iX z (χ 11 z l1 z (ν 12 z fL z (χ 13 z lL z (ν 14 z mI z (χ 15 z iX z ?_)))))))))));obtain ⟨Qv,Wj,hg224⟩:=RZ.seg Cm (((nth bZ bP fH).q).toNat) (by omega);replace Wj:RS _ 1 ak (.slice Qv.1 (nth x2.next (((nth bZ bP fH).q).toNat) []).length Qv.2) (nth x2.next (((nth bZ bP fH).q).toNat) []):=Wj;refine χ 16 z (OpVal.of (qw z pV z hg224 z) (v':= .slice Qv.1 ((nth x2.next (((nth bZ bP fH).q).toNat) []).length) Qv.2) z) z (ν 17 z fL z (χ 18 z lL z (ν 19 z mI z (χ 20 z iN z (χ 21 z l1 z (χ 22 z iX z (χ 23 z l1 z (ν 24 z (a4_ z underlying153 oq yu_ z) z (υ 25 z (OpOk.alloc z yu_ z z (λb225=>(k1 ?_))))))))))));refine TA.la 26 z z z (storeAll z TY z z z z z z ?_);refine R5 ?_;refine ι z (OpVal.of (Xh 0 (q:=(⟨(nth (nth x1.next (((nth bZ bP fH).p).toNat) []) ((nth x1.cls v77.1.toNat 0).toNat) 0),(nth (nth x2.next (((nth bZ bP fH).q).toNat) []) ((nth x2.cls v77.1.toNat 0).toNat) 0)⟩:FPr)) z underlying155 yF z (i:=7) z z (rf_ underlying153 um CW oq)) (v':= .tuple #[.int .i64 (xG.get (⟨(nth (nth x1.next (((nth bZ bP fH).p).toNat) []) ((nth x1.cls v77.1.toNat 0).toNat) 0),(nth (nth x2.next (((nth bZ bP fH).q).toNat) []) ((nth x2.cls v77.1.toNat 0).toNat) 0)⟩:FPr) 0),.bool (xG.has (⟨(nth (nth x1.next (((nth bZ bP fH).p).toNat) []) ((nth x1.cls v77.1.toNat 0).toNat) 0),(nth (nth x2.next (((nth bZ bP fH).q).toNat) []) ((nth x2.cls v77.1.toNat 0).toNat) 0)⟩:FPr))]) z) (R6 ?_);refine TC.cutG (α:=((List FPr)×(FM FPr Int)×Int)×((Option Addr)×Nat×aj)) (rgs [(7,1),(11,1),(23,1),(114,14)]) (λg=>[(11,.slice g.2.1 g.1.1.length g.2.2.1),(23,.int .i64 g.1.2.2)]) (λg=>[ω aP #[.func (.func 32) #[] #[]] 71,ω bK #[.slice bY x1.cls.length bW,.slice dV x1.next.length iR,.slice iI x1.fin.length dU] 35,ω iq #[.slice uU x2.cls.length uO,.slice lD x2.next.length OC,.slice O9 x2.fin.length lu] 35,ω nG #[aW,aW,aW] 35,ε 153 2 UO (.slice g.2.1 g.1.1.length g.2.2.1) g.1.1,Γ keyF gX (some OY) g.1.2.1,ω CU #[.slice a111_2 v19.2.1.length c111_2,.slice a156 sQ.length c157,.slice a162 mD.length uQ] 35,ε 31 1 (aF 1 ak aT).en (.slice a156 sQ.length c157) KD,dO 4 dG a162 uQ mD,ε 3 1 ak (.slice a182 (replicate v19.1.length (0:Int)).length c183) jh]) (λg=>g.2.2.2) (λg=>fo_ dK jh g.1.1 g.1.2.1 g.1.2.2=some z2/\ZOk g.2.2.2 (aF 1 ak aT) KD sQ/\jh.length=(replicate v19.1.length (0:Int)).length/\aj.le τ210 g.2.2.2) ?_ (λg j hg=> ?_)
   ·refine R5 ?_;refine TC.cB z hh (λh234 hh=> ?_) (λh234 hh=> ?_)
    ·refine R12 ?_;refine π z hh (λh235 hh=> ?_) (λh235 hh=> ?_)
     ·refine R3 ?_;refine κ 5 (R3 ?_);refine Ψ 1 ?_;replace hh:=bJ hR2 hh;replace hh:=bJ hR1 hh;obtain rfl:=so hh;exact rz
     refine R6 ?_;refine κ 7 (φ z (updB (⟨(nth (nth x1.next (((nth bZ bP fH).p).toNat) []) ((nth x1.cls v77.1.toNat 0).toNat) 0),(nth (nth x2.next (((nth bZ bP fH).q).toNat) []) ((nth x2.cls v77.1.toNat 0).toNat) 0)⟩:FPr) (cO.length:Int) z underlying155 z z z z (rf_ underlying153 um CW oq) ?_));refine R4 ?_;refine φ z (jc (enc:=UO) [(⟨(nth (nth x1.next (((nth bZ bP fH).p).toNat) []) ((nth x1.cls v77.1.toNat 0).toNat) 0),(nth (nth x2.next (((nth bZ bP fH).q).toNat) []) ((nth x2.cls v77.1.toNat 0).toNat) 0)⟩:FPr)] (λa236 c237=> ?_));refine κ 8 ?_;obtain ⟨u135,hh⟩:=gd hh;refine φ z (apF (.inr ⟨_,0,z⟩) u135 (λSH RD=> ?_));refine R2 ?_;exact cf (((cO++[(⟨(nth (nth x1.next (((nth bZ bP fH).p).toNat) []) ((nth x1.cls v77.1.toNat 0).toNat) 0),(nth (nth x2.next (((nth bZ bP fH).q).toNat) []) ((nth x2.cls v77.1.toNat 0).toNat) 0)⟩:FPr)]),(xG.put (⟨(nth (nth x1.next (((nth bZ bP fH).p).toNat) []) ((nth x1.cls v77.1.toNat 0).toNat) 0),(nth (nth x2.next (((nth bZ bP fH).q).toNat) []) ((nth x2.cls v77.1.toNat 0).toNat) 0)⟩:FPr) (cO.length:Int)),(cO.length:Int)),(SH,RD,τ210)) ⟨hh,uq,y7,(aj.le.refl _)⟩ (ψ [12,12,12,12,6,5,12,12,12,12] 10)
    refine R1 ?_;exact cf ((cO,xG,(xG.get (⟨(nth (nth x1.next (((nth bZ bP fH).p).toNat) []) ((nth x1.cls v77.1.toNat 0).toNat) 0),(nth (nth x2.next (((nth bZ bP fH).q).toNat) []) ((nth x2.cls v77.1.toNat 0).toNat) 0)⟩:FPr) 0)),(a203,CG,τ210)) ⟨hh,uq,y7,(aj.le.refl _)⟩ (ψ [11,11,11,11,11,11,11,11,11,11] 10)
   obtain ⟨⟨Yo,Ym,i233⟩,⟨a228,c229,τ241⟩⟩:=g;obtain ⟨hh,yA,VO,qM⟩:=hg
   try dsimp only at yA
   try dsimp only at VO
   dsimp only at qM;replace fF:=fF.mono qM;replace xU:=xU.mono qM;replace hr111_1:=hr111_1.mono qM;replace kG:=kG.mono qM;replace uq:=uq.mono qM
   try dsimp only
   dsimp only [fo_]at hh;have zf231b:=yA.length;refine ζ 4 z (λhb243=> ?_);refine ζ 7 z (λhb244=> ?_);refine ζ 8 z (λhb245=> ?_);refine ζ 9 z (λhb246=> ?_);refine R4 ?_;obtain ⟨u140,hh⟩:=gd hh;refine TL.iS 9 z (λhs247=> ?_);refine ι z iN (κ 9 ?_);have hn248:(jh.set dK i233).length=(replicate v19.1.length (0:Int)).length:=by rw [fV];exact VO
   refine φ z (sS i233 ?_);refine R5 ?_;obtain ⟨hh,YP⟩:=xP hR2 hh;exact lf ((Yo,Ym,(jh.set dK i233),(dK+1)),(a228,c229,τ241)) YP ⟨hh,yA,hn248,(ig.trans qM)⟩ (ψ [9,9,9,9,9,9,9,9,9] 10)
  refine R1 ?_;replace hh:=bJ hR2 hh;refine R6 ?_;rw [<-y7];refine κ 9 (TL.jO aT (λτ254 qL uK=> ?_));replace fF:=fF.mono qL;replace xU:=xU.mono qL;replace hr111_1:=hr111_1.mono qL;replace kG:=kG.mono qL;replace uq:=uq.mono qL;have Gu:ZOk _ (aF 1 ak aT) ([(jh,(a182,c183))]:List (ah×(aF 1 ak aT).P)) [jh]:=ZOk.cons (uK) (ZOk.nil _ _);refine φ z (litZ Gu z jZ jy z ku z z z (by decide) (by decide) z (by decide) z (by decide) (λa250 c251=> ?_));refine κ 8 ?_;obtain ⟨u148,hh⟩:=gd hh;refine φ z (Jk (k:=(aF 1 ak aT)) uq Gu z z jZ jy mG ku z z (by decide) z z z (.inr ⟨_,0,z⟩) (by simpa using u148) (by decide) (λSE Ry JY=> ?_));refine ι z fL (κ 8 (R2 ?_));obtain ⟨u158,hh⟩:=gd hh;obtain ⟨u163,hh⟩:=gd hh;obtain ⟨KH,u165,hh⟩:=bg hh;obtain ⟨XW,hh⟩:=gd hh;refine TC.dw [16,17,18] (ν 0 z fL z (χ 1 z lL z (ν 2 z fL z (χ 3 z lL z (ν 4 z fL z (χ 5 z lL z (ν 6 z mI z (χ 7 z iX z (χ 8 z l1 z (ν 9 z fL z (χ 10 z lL z (ν 11 z mI z (χ 12 z iX z (χ 13 z l1 z (υ 14 z (gI (o2_ u165) z z pf32 z z z (k0 ?_)))))))))))))))));refine υ 15 z (jc (enc:=dG) [KH] (λa265 c266=>(k1 ?_)));refine Ω 10 (TA.la 16 z z z (apF (.inr ⟨_,0,z⟩) XW (λAm Ag=> ?_)));refine TZ.w 17 z z z fL z z (TZ.fr 2 (TZ.la 18 z z z (iH z xs_ z z z z z ?_)));refine R6 ?_;obtain ⟨hh,YL⟩:=xP hR1 hh;exact lf ((cO,xG,(sQ++[jh]),(mD++[KH]),(bP+1)),(a203,CG,SE,Ry,(KD++([(jh,(a182,c183))]:List (ah×(aF 1 ak aT).P))),Am,Ag,τ254)) YL ⟨hh,JY,((lQ.trans ig).trans qL)⟩ (ψ [1,3,2,10,10,10,10,10,10] 9)
 refine R1 ?_;replace hh:=bJ hR1 hh;refine R4 ?_;refine κ 3 (R3 ?_);refine TC.fr 7 (TC.Ji kG (λτ273 Y_ Vx=> ?_));replace hr111_1:=hr111_1.mono Y_;refine TC.fr 7 (TC.jO NH (λτ276 tC He=> ?_));replace hr111_1:=hr111_1.mono tC;replace Vx:=Vx.mono tC;refine Ψ 1 ?_;obtain rfl:=so hh;exact rz
def kw_(x0:Dfa)(x1:Dfa):Option (Dfa×Int):=
 bnd (gt_ x0 x1) (λv8=>some (v8.1,v8.2))
theorem sj_{σ:aj}{x0:Dfa}{x1:Dfa}(hgl:xu σ 0 2)(aC:dH σ ak aB aA x0.cls)(aV:RZ σ (aF 1 ak aT) (.slice ay x0.next.length aH) x0.next)(aS:dH σ dG aG au x0.fin)(bn:dH σ ak bY bW x1.cls)(gu:RZ σ (aF 1 ak aT) (.slice dV x1.next.length iR) x1.next)(fF:dH σ dG iI dU x1.fin){r:Dfa×Int}(hh:kw_ x0 x1=some r):
  Con prog 9 #[.agg #[.slice aB x0.cls.length aA,.slice ay x0.next.length aH,.slice aG x0.fin.length au],.agg #[.slice bY x1.cls.length bW,.slice dV x1.next.length iR,.slice iI x1.fin.length dU]] σ [] (Ia_ σ r):=by
 dsimp only [kw_]at hh;refine cM 12 Tryz.func9 (λw0=> ?_);refine R2 ?_;refine TL.bx (λaP=> ?_);refine TL.bx (λbK=> ?_);refine TL.al (λiq=> ?_);refine R7 ?_;obtain ⟨v8,u8,hh⟩:=bg hh;refine φ z (OpOk.call (ju_ (x1:=x0) (x2:=x1) hgl aC aV aS bn gu fF u8) z z pf33 z z z z ?_);rintro _ τ107 _ lV ⟨a107_1,c107_1,a107_2,c107_2,a107_3,c107_3,rfl,hr107_0,hr107_1,hr107_2,rfl⟩;refine R5 ?_;refine Ψ 1 ?_;obtain rfl:=so hh;exact rz
def Yj(x0:ah)(x1:ah)(fU:Nat):Option ((Nat)⊕(Bool)):=
 iteO (decide ((fU:Int)<(x0.length:Int))) (grd (fU<x1.length) (iteO (decide ((nth x0 fU 0)≠(nth x1 fU 0))) (fin (some false)) (nxt (fU+1)))) (fin (some true))
def eqI(x0:ah)(x1:ah):Option (Bool):=
 iteO (decide ((x0.length:Int)≠(x1.length:Int))) (some false) (iter (λq:Nat=>Yj x0 x1 q) 0)
theorem y1_{σ:aj}{x0:ah}{x1:ah}(aC:dH σ ak aB aA x0)(bn:dH σ ak bY bW x1){r:Bool}(hh:eqI x0 x1=some r):
  Con prog 34 #[.slice aB x0.length aA,.slice bY x1.length bW] σ [] (jq (.bool r) σ):=by
 dsimp only [eqI]at hh;have f1_0b:=bn.rv.big;refine cM 26 Tryz.func34 (λw0=> ?_);refine R13 ?_;refine π z hh (λgW hh=> ?_) (λgW hh=> ?_)
 ·refine R4 ?_;refine η ?_;obtain rfl:=so hh;exact rq [4] ⟨z,z,z⟩
 refine R9 ?_;refine TC.lp hh () (rgs [(4,2),(13,13)]) (λfU _=>([(13,.int .i64 (fU:Int))],[])) (θ 0 z) ?_;rintro fU _ _ z1 hh hR1;dsimp only [Yj]at hh ⊢;refine R5 ?_;refine π z hh (λdL hh=> ?_) (λdL hh=> ?_)
 ·refine R9 ?_;obtain ⟨u20,hh⟩:=gd hh;refine TC.dw [] (ν 0 z mS z (ν 1 z mI z (χ 2 z iN z (χ 3 z l1 z (ν 4 z mS z (ν 5 z mI z (χ 6 z iN z (χ 7 z l1 z (ν 8 z (OpVal.neq z z z) z (R1 ?_))))))))));refine π z hh (λfM hh=> ?_) (λfM hh=> ?_)
  ·refine R4 ?_;refine η ?_;replace hh:=bJ hR1 hh;obtain rfl:=so hh;exact rq [4] ⟨z,z,z⟩
  refine R5 ?_;exact nxq hR1 hh () (θ 0 z)
 refine R1 ?_;replace hh:=bJ hR1 hh;refine R5 ?_;refine η ?_;obtain rfl:=so hh;exact rq [4] ⟨z,z,z⟩
def Yl(x0:B_1)(x1:B_1)(fU:Nat):Option ((Nat)⊕(Bool)):=
 iteO (decide ((fU:Int)<(x0.length:Int))) (grd (fU<x1.length) (iteO ((nth x0 fU false) != (nth x1 fU false)) (fin (some false)) (nxt (fU+1)))) (fin (some true))
def eqB(x0:B_1)(x1:B_1):Option (Bool):=
 iteO (decide ((x0.length:Int)≠(x1.length:Int))) (some false) (iter (λq:Nat=>Yl x0 x1 q) 0)
theorem eqB_con{σ:aj}{x0:B_1}{x1:B_1}(aC:dH σ dG aB aA x0)(bn:dH σ dG bY bW x1){r:Bool}(hh:eqB x0 x1=some r):
  Con prog 35 #[.slice aB x0.length aA,.slice bY x1.length bW] σ [] (jq (.bool r) σ):=by
 dsimp only [eqB]at hh;have f1_0b:=bn.rv.big;refine cM 26 Tryz.func35 (λw0=> ?_);refine R13 ?_;refine π z hh (λgW hh=> ?_) (λgW hh=> ?_)
 ·refine R4 ?_;refine η ?_;obtain rfl:=so hh;exact rq [4] ⟨z,z,z⟩
 refine R9 ?_;refine TC.lp hh () (rgs [(4,2),(13,13)]) (λfU _=>([(13,.int .i64 (fU:Int))],[])) (θ 0 z) ?_;rintro fU _ _ z1 hh hR1;dsimp only [Yl]at hh ⊢;refine R5 ?_;refine π z hh (λdL hh=> ?_) (λdL hh=> ?_)
 ·refine R9 ?_;obtain ⟨u20,hh⟩:=gd hh;refine TC.dw [] (ν 0 z mS z (ν 1 z mI z (χ 2 z iN z (χ 3 z l1 z (ν 4 z mS z (ν 5 z mI z (χ 6 z iN z (χ 7 z l1 z (ν 8 z (neqB z z z underlying4) z (R1 ?_))))))))));refine TC.cB z hh (λfM hh=> ?_) (λfM hh=> ?_)
  ·refine R4 ?_;refine η ?_;replace hh:=bJ hR1 hh;obtain rfl:=so hh;exact rq [4] ⟨z,z,z⟩
  refine R5 ?_;exact nxq hR1 hh () (θ 0 z)
 refine R1 ?_;replace hh:=bJ hR1 hh;refine R5 ?_;refine η ?_;obtain rfl:=so hh;exact rq [4] ⟨z,z,z⟩
def If_(x0:ah)(x1:ah):Option (Bool):=
 bnd (eqI x0 x1) (λv4=>some v4)
theorem L3_{σ:aj}{x0:ah}{x1:ah}(aC:dH σ ak aB aA x0)(bn:dH σ ak bY bW x1){r:Bool}(hh:If_ x0 x1=some r):
  Con prog 37 #[.slice aB x0.length aA,.slice bY x1.length bW] σ [] (jq (.bool r) σ):=by
 dsimp only [If_]at hh;refine cM 8 Tryz.func37 (λw0=> ?_);refine R8 ?_;obtain ⟨v4,u4,hh⟩:=bg hh;refine φ z (gI (y1_ aC bn u4) z z pf34 z z z ?_);refine R2 ?_;refine η ?_;obtain rfl:=so hh;exact rq [4] ⟨z,z,z⟩
def Yr(x0:aO)(x1:aO)(fU:Nat):Option ((Nat)⊕(Bool)):=
 iteO (decide ((fU:Int)<(x0.length:Int))) (grd (fU<x1.length) (bnd (If_ (nth x0 fU []) (nth x1 fU [])) (λv25=>iteO (!v25) (fin (some false)) (nxt (fU+1))))) (fin (some true))
def eqFI(x0:aO)(x1:aO):Option (Bool):=
 iteO (decide ((x0.length:Int)≠(x1.length:Int))) (some false) (iter (λq:Nat=>Yr x0 x1 q) 0)
theorem aar_{σ:aj}{x0:aO}{x1:aO}(aC:RZ σ (aF 1 ak aT) (.slice aB x0.length aA) x0)(bn:RZ σ (aF 1 ak aT) (.slice bY x1.length bW) x1){r:Bool}(hh:eqFI x0 x1=some r):
  Con prog 36 #[.slice aB x0.length aA,.slice bY x1.length bW,.func (.func 37) #[] #[]] σ [] (jq (.bool r) σ):=by
 dsimp only [eqFI]at hh;have f1_0b:=bn.big;refine cM 32 Tryz.func36 (λw0=> ?_);refine R13 ?_;refine π z hh (λgW hh=> ?_) (λgW hh=> ?_)
 ·refine R4 ?_;refine η ?_;obtain rfl:=so hh;exact rq [6] ⟨z,z,z⟩
 refine R9 ?_;refine TC.lp hh () (rgs [(6,4),(17,15)]) (λfU _=>([(17,.int .i64 (fU:Int))],[])) (θ 0 z) ?_;rintro fU _ _ z1 hh hR1;dsimp only [Yr]at hh ⊢;refine R5 ?_;refine π z hh (λdL hh=> ?_) (λdL hh=> ?_)
 ·refine R7 ?_;obtain ⟨QX,Nz,hg106⟩:=RZ.seg aC fU (by omega);replace Nz:dH _ ak QX.1 QX.2 (nth x0 fU []):=Nz;refine ι z (OpVal.of (qw z pV z hg106 z) (v':= .slice QX.1 ((nth x0 fU []).length) QX.2) z) (R7 ?_);obtain ⟨yG,hh⟩:=gd hh;refine ι z iN ?_;obtain ⟨QW,Io,hg107⟩:=RZ.seg bn fU (by omega);replace Io:dH _ ak QW.1 QW.2 (nth x1 fU []):=Io;have hk107b:=Io.rv.big;refine ι z (OpVal.of (qw z pV z hg107 z) (v':= .slice QW.1 ((nth x1 fU []).length) QW.2) z) (R4 ?_);refine ι z (RN (.inl z) z) (R2 ?_);obtain ⟨v25,u25,hh⟩:=bg hh;refine φ z (gI (L3_ Nz Io u25) z z pf37 z z z ?_);refine R2 ?_;refine TC.cB z hh (λiG hh=> ?_) (λiG hh=> ?_)
  ·refine R4 ?_;refine η ?_;replace hh:=bJ hR1 hh;obtain rfl:=so hh;exact rq [6] ⟨z,z,z⟩
  refine R5 ?_;exact nxq hR1 hh () (θ 0 z)
 refine R1 ?_;replace hh:=bJ hR1 hh;refine R5 ?_;refine η ?_;obtain rfl:=so hh;exact rq [6] ⟨z,z,z⟩
def Dm_(t113:Bool):Option (Bool×Int):=
 some (t113,0)
def E4_(x0:Dfa)(x1:Dfa):Option (Bool×Int):=
 bnd (JO x0) (λv6=>iteO (decide (v6.2≠0)) (some (false,v6.2)) (bnd (JO x1) (λv19=>iteO (decide (v19.2≠0)) (some (false,v19.2)) (bnd (eqI v6.1.cls v19.1.cls) (λv35=>iteO v35 (bnd (eqB v6.1.fin v19.1.fin) (λv41=>iteO v41 (bnd (eqFI v6.1.next v19.1.next) (λv48=>Dm_ v48)) (Dm_ false))) (Dm_ false))))))
theorem Mk_{σ:aj}{x0:Dfa}{x1:Dfa}(aC:dH σ ak aB aA x0.cls)(aV:RZ σ (aF 1 ak aT) (.slice ay x0.next.length aH) x0.next)(aS:dH σ dG aG au x0.fin)(bn:dH σ ak bY bW x1.cls)(gu:RZ σ (aF 1 ak aT) (.slice dV x1.next.length iR) x1.next)(fF:dH σ dG iI dU x1.fin){r:Bool×Int}(hh:E4_ x0 x1=some r):
  Con prog 10 #[.agg #[.slice aB x0.cls.length aA,.slice ay x0.next.length aH,.slice aG x0.fin.length au],.agg #[.slice bY x1.cls.length bW,.slice dV x1.next.length iR,.slice iI x1.fin.length dU]] σ [] (jq (.tuple #[.bool r.1,.int .i64 r.2]) σ):=by
 dsimp only [E4_]at hh;refine cM 46 Tryz.func10 (λw0=> ?_);refine R2 ?_;refine TL.bx (λaP=> ?_);refine TL.bx (λbK=> ?_);refine R6 ?_;obtain ⟨v6,u6,hh⟩:=bg hh;refine φ z (OpOk.call (Jv_ (x0:=x0) aC aV aS u6) z z Ye z z z z ?_);rintro _ τ105 _ jH ⟨a105_1,c105_1,a105_2,c105_2,a105_3,c105_3,rfl,hr105_0,hr105_1,hr105_2,rfl⟩;replace bn:=bn.mono jH;replace gu:=gu.mono jH;replace fF:=fF.mono jH;refine R3 ?_;refine TL.al (λyh=> ?_);refine R9 ?_;refine π z hh (λiG hh=> ?_) (λiG hh=> ?_)
 ·refine R6 ?_;refine Θ (θ 0 z) (TC.back (η ?_));obtain rfl:=so hh;exact rq [4,5] ⟨z,z,z⟩
 refine R4 ?_;obtain ⟨v19,yG,hh⟩:=bg hh;refine φ z (OpOk.call (Jv_ (x0:=x1) bn gu fF yG) z z Ye z z z z ?_);rintro _ τ109 _ fK ⟨a109_1,c109_1,a109_2,c109_2,a109_3,c109_3,rfl,hr109_0,hr109_1,hr109_2,rfl⟩;replace hr105_0:=hr105_0.mono fK;replace hr105_1:=hr105_1.mono fK;replace hr105_2:=hr105_2.mono fK;refine R3 ?_;refine TL.al (λb110=> ?_);refine R9 ?_;refine π z hh (λh112 hh=> ?_) (λh112 hh=> ?_)
 ·refine R6 ?_;refine Θ (θ 0 z) (TC.back (η ?_));obtain rfl:=so hh;exact rq [4,5] ⟨z,z,z⟩
 refine R1 ?_;refine TC.cutG (α:=(Bool)×(Unit)) (rgs [(9,1),(26,19)]) (λg=>[(9,.bool g.1)]) (λg=>[]) (λg=>τ109) (λg=>Dm_ g.1=some r) ?_ (λg j hg=> ?_)
 ·refine R5 ?_;obtain ⟨v35,u35,hh⟩:=bg hh;refine φ z (gI (y1_ hr105_0 hr109_0 u35) z z pf34 z z z ?_);refine TL.j z z (δ 31 z (λjI=> ?_) (λjI=> ?_))
  ·replace hh:=uZ jI hh;refine R4 ?_;obtain ⟨v41,PW,hh⟩:=bg hh;refine TL.gon z z z z z (gI (eqB_con hr105_2 hr109_2 PW) z z pf35 z z z ?_);refine R2 ?_;refine δ 38 z (λt_=> ?_) (λt_=> ?_)
   ·replace hh:=uZ t_ hh;refine R4 ?_;obtain ⟨v48,u48,hh⟩:=bg hh;refine TL.gon z z z z z (gI (aar_ hr105_1 hr109_1 u48) z z pf36 z z z ?_);refine R3 ?_;exact cf (v48,()) hh (θ 0 z)
   replace hh:=u_ t_ hh;refine R8 ?_;exact cf (false,()) hh (θ 0 z)
  replace hh:=u_ jI hh;refine R15 ?_;exact cf (false,()) hh (θ 0 z)
 obtain ⟨t113,_⟩:=g;have hh:=hg;clear hg
 try dsimp only
 dsimp only [Dm_]at hh;refine R6 ?_;refine TC.back (η ?_);obtain rfl:=so hh;exact rq [4,5] ⟨z,z,z⟩
end Go.Proofs.YtcfgkcfcddfccaaGreatDoor
end

noncomputable section
namespace Go.Proofs.YtcfgkcfcddfccaaGreatDoor
open Go Go.E
theorem up_(l:ah):eqI l l=some true:=by
  unfold eqI;rw [dM (λh=>h rfl)];obtain ⟨r,e,rfl⟩:=kV (step:=λq:Nat=>Yj l l q) (λ(_:Unit) k=>k) l.length (λ_ _=>True) (λr=>r=true)
    (λk s hk _=>by
      refine .inl ⟨(),?_,trivial⟩;show Yj l l k=_;unfold Yj;rw [eH (by omega),cu hk,dM (λh=>h rfl)];rfl)
    (λs _=>⟨true,by
      show Yj l l l.length=_;unfold Yj;rw [dM (by omega)];rfl,rfl⟩) (s0:=()) trivial
  exact e
theorem eqB_refl(l:B_1):eqB l l=some true:=by
  unfold eqB;rw [dM (λh=>h rfl)];obtain ⟨r,e,rfl⟩:=kV (step:=λq:Nat=>Yl l l q) (λ(_:Unit) k=>k) l.length (λ_ _=>True) (λr=>r=true)
    (λk s hk _=>by
      refine .inl ⟨(),?_,trivial⟩;show Yl l l k=_;unfold Yl;rw [eH (by omega),cu hk,bne_self_eq_false,iteO_false];rfl)
    (λs _=>⟨true,by
      show Yl l l l.length=_;unfold Yl;rw [dM (by omega)];rfl,rfl⟩) (s0:=()) trivial
  exact e
theorem xc_(l:aO):eqFI l l=some true:=by
  unfold eqFI;rw [dM (λh=>h rfl)];obtain ⟨r,e,rfl⟩:=kV (step:=λq:Nat=>Yr l l q) (λ(_:Unit) k=>k) l.length (λ_ _=>True) (λr=>r=true)
    (λk s hk _=>by
      refine .inl ⟨(),?_,trivial⟩;show Yr l l k=_;unfold Yr If_;rw [eH (by omega),cu hk,up_,kT,kT,iteO_nt];rfl)
    (λs _=>⟨true,by
      show Yr l l l.length=_;unfold Yr;rw [dM (by omega)];rfl,rfl⟩) (s0:=()) trivial
  exact e
theorem same_go{x z:Dfa}(hx:kU x=true)(hz:kU z=true)(h:lZ x 0=lZ z 0):E4_ x z=some (true,0):=by
  obtain ⟨m,e1,c1,l1⟩:=xj_ hx;obtain ⟨m',e2,c2,l2⟩:=xj_ hz;obtain rfl:=xh_ c1 c2 (l1.trans (h.trans l2.symm));unfold E4_ Dm_;rw [iM e1,dM (by simp),iM e2,dM (by simp)];dsimp only;rw [up_,kT,iteO_true,eqB_refl,kT,iteO_true,xc_,kT]
theorem growS_go{n:Int}(h0:0<=n)(h:n<=1000000):xv_ n=some []:=by
  have e:IntKind.i64.wrap (n - IntKind.i64.wrap (((0:Nat):Int) - ((0:Nat):Int)))=n:=by
    rw [show IntKind.i64.wrap (((0:Nat):Int) - ((0:Nat):Int))=0 from rfl,Int.sub_zero,Ja (by omega) (by omega)]
  unfold xv_ k5_;rw [e,dM (by omega)]
  by_cases c:0<n
  · rw [eH c,cu ⟨c,by omega⟩,cu (Nat.zero_le _)];rfl
  rw [dM c]
theorem tf_(p q:List BSet)(hp:p.length<=256)(hq:q.length<=256):os_ [p,q]=some (p++q):=by
  have s0:Oq [p,q] 0 0=some (.inl (((p.length:Nat):Int),1)):=by
    unfold Oq;rw [eH (by simp),show nth [p,q] 0 ([]:List BSet)=p from rfl,Int.zero_add,Ja (by omega) (by omega),dM (by omega)];rfl
  have s1:Oq [p,q] ((p.length:Nat):Int) 1=some (.inl (((p.length:Nat):Int)+((q.length:Nat):Int),2)):=by
    unfold Oq;rw [eH (by simp),show nth [p,q] 1 ([]:List BSet)=q from rfl,Ja (by omega) (by omega),dM (by omega)];rfl
  have t0:JJ [p,q] [] 0=some (.inl (p,1)):=by
    unfold JJ;rw [eH (by simp),show nth [p,q] 0 ([]:List BSet)=p from rfl,cu (by simp only [List.length_nil];omega)];rfl
  have t1:JJ [p,q] p 1=some (.inl (p++q,2)):=by
    unfold JJ;rw [eH (by simp),show nth [p,q] 1 ([]:List BSet)=q from rfl,cu (by omega)];rfl
  have t2:JJ [p,q] (p++q) 2=some (.inr (p++q)):=by
    unfold JJ;rw [dM (by simp)];rfl
  have t:iter (λq':(List BSet)×Nat=>JJ [p,q] q'.1 q'.2) ([],0)=some (p++q):=
    (nf_ (step:=λq':(List BSet)×Nat=>JJ [p,q] q'.1 q'.2) t0).trans ((nf_ (step:=λq':(List BSet)×Nat=>JJ [p,q] q'.1 q'.2) t1).trans (u4_ (step:=λq':(List BSet)×Nat=>JJ [p,q] q'.1 q'.2) t2))
  have s2:Oq [p,q] (((p.length:Nat):Int)+((q.length:Nat):Int)) 2=some (.inr (p++q)):=by
    unfold Oq;rw [dM (by simp),growS_go (by omega) (by omega),kT,t];rfl
  unfold os_;exact (nf_ (step:=λq':Int×Nat=>Oq [p,q] q'.1 q'.2) s0).trans ((nf_ (step:=λq':Int×Nat=>Oq [p,q] q'.1 q'.2) s1).trans (u4_ (step:=λq':Int×Nat=>Oq [p,q] q'.1 q'.2) s2))
theorem xx_{d:Dfa}(h:kU d=true): ∃s,Tc d.cls=some (s,0)/\s.length<=256/\ ∀b,b<256-> ∃t∈s, ∀c,c<256->(t.has c=true↔nth d.cls c (0:Int)=nth d.cls b (0:Int)):=by
  obtain ⟨w,h1,h2, -⟩:=JK h;have hw:=ox_ d.cls 0 w h1;obtain ⟨⟨s,e0⟩,e,hs⟩:=k6_ d.cls;rcases hs with ⟨hs|hs, -⟩|⟨-,k1,k2,k3, -⟩
  · exact absurd h2 hs
  · rw [hs]at h1;cases h1
  dsimp only at k1 k2 k3;subst k2;have hl:s.length=w:=by
    rw [k1]at h1;exact Option.some.inj h1
  refine ⟨s,e,by omega,λb hb=> ?_⟩;have hc:=(if_ d.cls 0 w h1).2 _ (UZ (i:=b) (by omega) 0);refine ⟨nth s (nth d.cls b (0:Int)).toNat BSet.zero,UZ (by omega) _,λc hc'=> ?_⟩;rw [k3 _ (by omega),clsS,BSet.Gg _ hc',iL];omega
def Fine(d:Dfa)(p:List BSet):Prop:= ∀i,i<p.length-> ∀b c,b<256->c<256->(nth p i BSet.zero).has b=true->(nth p i BSet.zero).has c=true->nth d.cls b (0:Int)=nth d.cls c (0:Int)
theorem yj_{d:Dfa}{s L:List BSet}{m:FM T_1 Int}{p:List BSet}(hP:PartI L 256 m p)(hL: ∀t∈s,t∈L)(hs: ∀b,b<256-> ∃t∈s, ∀c,c<256->(t.has c=true↔nth d.cls c (0:Int)=nth d.cls b (0:Int))):Fine d p:=λi hi b c hb hc h1 h2=>by
  obtain ⟨t,ht,k⟩:=hs b hb;have:=hP.same hi hb hc h1 h2 t (hL t ht);rw [(k b hb).2 rfl]at this;exact ((k c hc).1 this.symm).symm
structure ShOk (p:List BSet) (cls:ah):Prop where
  len:cls.length=256
  le:p.length<=256
  cnt:jX cls=some p.length
  at_: ∀b,b<256-> ∃i:Nat,nth cls b (0:Int)=((i:Nat):Int)/\i<p.length/\(nth p i BSet.zero).has b=true
  first: ∀i,i<p.length->(nth p i BSet.zero).has (pG (nth p i BSet.zero)).toNat=true
theorem yk_{a b:Dfa}(ha:kU a=true)(hb:kU b=true): ∃p cls,hs_ a b=some (p,cls,0)/\ShOk p cls/\Fine a p/\Fine b p:=by
  obtain ⟨s,e1,l1,k1⟩:=xx_ ha;obtain ⟨t,e2,l2,k2⟩:=xx_ hb;obtain ⟨⟨p,x⟩,e3,hP,hpl,hok⟩:=ui_ (s++t);obtain rfl:x=0:=hok (by rw [iK];omega);obtain ⟨m,hP⟩:=hP rfl;dsimp only at hP hpl;obtain ⟨⟨cls,y⟩,e4,hC⟩:=uz_ p;obtain rfl:y=0:=by
    obtain ⟨l,h5⟩:=qc_ hP.prt;rw [h5]at e4;exact (congrArg Prod.snd (Option.some.inj e4)).symm
  obtain ⟨c1,c2⟩:=hC rfl;dsimp only at c1 c2;have hcls:jX cls=some p.length:=by
    obtain ⟨c,q1,q2,q3⟩:=hP.cn;have:cls=c:=Yx (0:Int) (by omega) λb hb=>by
      obtain ⟨i,r1,r2,r3⟩:=c2 b (by omega);have:=((hP.has i r2 b (by omega)).1 r3).2;rw [q3 b (by omega)]at this;rw [r1,Option.some.inj this]
    rw [this];exact q2
  refine ⟨p,cls,?_,⟨c1,hpl,hcls,c2,λi hi=> ?_⟩,yj_ hP (λt h=>List.mem_append_left _ h) k1,yj_ hP (λt h=>List.mem_append_right _ h) k2⟩
  · unfold hs_
    rw [iM e1,dM (by simp),iM e2,dM (by simp),tf_ s t l1 l2,kT,iM e3,dM (by simp),iM e4,dM (by simp)]
  obtain ⟨β,h1,h2⟩:=hP.prt.ne i hi;refine (YB _).2 λe=> ?_;rw [e,q4_ h1]at h2;cases h2
def stP(a b:Dfa)(x:FPr)(β:UInt8):FPr:=⟨dlt a x.p β,dlt b x.q β⟩
theorem Fine.dlt{d:Dfa}{p:List BSet}(h:Fine d p){i:Nat}(hi:i<p.length){β γ:UInt8}(h1:(nth p i BSet.zero).has β.toNat=true)(h2:(nth p i BSet.zero).has γ.toNat=true)(s:Int):dlt d s β=dlt d s γ:=by
  unfold Go.Proofs.YtcfgkcfcddfccaaGreatDoor.dlt;rw [h i hi _ _ (UInt8.toNat_lt β) (UInt8.toNat_lt γ) h1 h2]
structure OrI (a b:Dfa) (l:List FPr) (m:FM FPr Int):Prop where
  len:l.length<=1024
  pos:0<l.length
  z:nth l 0 fH=⟨0,0⟩
  rng: ∀i,i<l.length->okS a (nth l i fH).p/\okS b (nth l i fH).q
  map: ∀x v,m.f x=some v-> ∃i:Nat,v=((i:Nat):Int)/\i<l.length/\nth l i fH=x
def AtP(a b:Dfa)(p:List BSet)(l:List FPr)(x:FPr)(c:Nat)(v:Int):Prop:= ∃j:Nat,v=((j:Nat):Int)/\j<l.length/\nth l j fH=stP a b x (pG (nth p c BSet.zero))
theorem zb_{l l':List FPr}(h:l <+: l'){i:Nat}(hi:i<l.length):nth l' i fH=nth l i fH:=by
  obtain ⟨t,rfl⟩:=h;exact yx _ _ _ _ hi
theorem AtP.mono{a b:Dfa}{p:List BSet}{l l':List FPr}{x:FPr}{c:Nat}{v:Int}(h:AtP a b p l x c v)(hp:l <+: l'):AtP a b p l' x c v:=by
  obtain ⟨j,h1,h2,h3⟩:=h;have:=hp.length_le;exact ⟨j,h1,by omega,by rw [zb_ hp h2];exact h3⟩
abbrev PSt:Type:=(List FPr)×(FM FPr Int)×aO×B_1×Nat
structure AllP (a b:Dfa) (p:List BSet) (s:PSt):Prop where
  or:OrI a b s.1 s.2.1
  k:s.2.2.2.2<=s.1.length
  lenN:s.2.2.1.length=s.2.2.2.2
  lenF:s.2.2.2.1.length=s.2.2.2.2
  row: ∀i,i<s.2.2.2.2->(nth s.2.2.1 i ([]:ah)).length=p.length/\ ∀c,c<p.length->AtP a b p s.1 (nth s.1 i fH) c (nth (nth s.2.2.1 i ([]:ah)) c (0:Int))
  fin: ∀i,i<s.2.2.2.2->nth s.2.2.2.1 i false=(nth a.fin (nth s.1 i fH).p.toNat false || nth b.fin (nth s.1 i fH).q.toNat false)
structure RowP2 (a b:Dfa) (p:List BSet) (l0:List FPr) (x:FPr) (c:Nat) (s:(List FPr)×(FM FPr Int)×ah):Prop where
  or:OrI a b s.1 s.2.1
  pre:l0 <+: s.1
  len:s.2.2.length=p.length
  at_: ∀i,i<c->AtP a b p s.1 x i (nth s.2.2 i (0:Int))
theorem or1(x y:Bool):j6_ x y=some (x || y):=by cases x<;>rfl
section
variable {a b:Dfa} (ha:kU a=true) (hb:kU b=true) {p:List BSet} {cls:ah} (hS:ShOk p cls)
include ha hb hS
theorem pairs_row {s : PSt} (h : AllP a b p s) (hk : s.2.2.2.2 < s.1.length) :
    ∃r,iter (λq:(List FPr)×(FM FPr Int)×ah×Nat=>Ou (p,cls,0) s.1 s.2.2.2.2 a b s.2.2.1 s.2.2.2.1 q.1 q.2.1 q.2.2.1 q.2.2.2) (s.1,s.2.1,List.replicate p.length (0:Int),0)=some r/\((∃s':PSt,r= .inl s'/\AllP a b p s'/\s'.2.2.2.2=s.2.2.2.2+1)\/r= .inr (⟨[],[],[]⟩,2)):=by
  obtain ⟨l0,m0,N,F,k⟩:=s;dsimp only at hk ⊢;have hpl:=hS.le;have hlenN:N.length=k:=h.lenN;have hlenF:F.length=k:=h.lenF;have hl0:l0.length<=1024:=h.or.len;obtain ⟨o1,o2⟩:okS a (nth l0 k fH).p/\okS b (nth l0 k fH).q:=h.or.rng k hk;refine kV (step:=λq:(List FPr)×(FM FPr Int)×ah×Nat=>Ou (p,cls,0) l0 k a b N F q.1 q.2.1 q.2.2.1 q.2.2.2) (λ(t:(List FPr)×(FM FPr Int)×ah) c=>(t.1,t.2.1,t.2.2,c)) p.length (RowP2 a b p l0 (nth l0 k fH)) _ (λc t hc hI=> ?_) (λt hI=> ?_) (s0:=(l0,m0,List.replicate p.length (0:Int))) ⟨h.or,List.prefix_refl _,by rw [oI],λi hi=>by omega⟩
  · obtain ⟨l,m,row⟩:=t
    have hlen:row.length=p.length:=hI.len;have hor:OrI a b l m:=hI.or;have hll:=hor.len;have g1:=px_ ha o1 (pG (nth p c BSet.zero));have g2:=px_ hb o2 (pG (nth p c BSet.zero));show (∃s',Ou (p,cls,0) l0 k a b N F l m row c=_/\_)\/ ∃r,Ou (p,cls,0) l0 k a b N F l m row c=_/\_;unfold Ou fo_;dsimp only;rw [eH (by omega),(YB _).1,kT];dsimp only;rw [cu (show 0<=(nth l0 k fH).p/\(nth l0 k fH).p<(a.next.length:Int)from o1),cu g1.cl,cu g1.c,cu (show 0<=(nth l0 k fH).q/\(nth l0 k fH).q<(b.next.length:Int)from o2),cu g2.cl,cu g2.c];have done: ∀{l':List FPr} {m':FM FPr Int} {j:Nat},OrI a b l' m'->l <+: l'->j<l'.length->nth l' j fH=stP a b (nth l0 k fH) (pG (nth p c BSet.zero))->RowP2 a b p l0 (nth l0 k fH) (c+1) (l',m',row.set c ((j:Nat):Int)):=λ{l' m' j} q1 q2 q3 q4=>⟨q1,hI.pre.trans q2,by show (row.set c _).length=_;rw [fV];exact hlen,λi hi=>by
      show AtP a b p l' _ i (nth (row.set c _) i (0:Int));rw [Af]
      by_cases e:c=i
      · subst e
        rw [if_pos ⟨rfl,by omega⟩];exact ⟨j,rfl,q3,q4⟩
      rw [if_neg (λq=>e q.1)];exact (hI.at_ i (by omega)).mono q2⟩
    have hst:(⟨nth (nth a.next (nth l0 k fH).p.toNat ([]:ah)) (nth a.cls (pG (nth p c BSet.zero)).toNat (0:Int)).toNat (0:Int),nth (nth b.next (nth l0 k fH).q.toNat ([]:ah)) (nth b.cls (pG (nth p c BSet.zero)).toNat (0:Int)).toNat (0:Int)⟩:FPr)=stP a b (nth l0 k fH) (pG (nth p c BSet.zero)):=rfl;rw [hst];obtain ⟨x,hx⟩: ∃x,stP a b (nth l0 k fH) (pG (nth p c BSet.zero))=x:=⟨_,rfl⟩;have hx1:okS a x.p:=by rw [<-hx];exact g1.nx
    have hx2:okS b x.q:=by rw [<-hx];exact g2.nx
    rw [hx]at done ⊢;cases hm:m.f x with
    |none=>
      rw [show m.has x=false by unfold FM.has;rw [hm];rfl,Bool.not_false,iteO_true]
      by_cases c1:1024<=((l.length:Nat):Int)
      · rw [eH c1];exact .inr ⟨_,rfl,.inr rfl⟩
      rw [dM c1,cu (by rw [jm];omega),cu (by omega)];refine .inl ⟨(l++[x],m.put x ((l.length:Nat):Int),row.set c ((l.length:Nat):Int)),rfl,done ⟨?_,?_,?_,λi hi=> ?_,λy v hv=> ?_⟩ (List.prefix_append _ _) ?_ (zS _ _ _)⟩
      · rw [iK,jm];omega
      · rw [iK,jm];omega
      · rw [yx _ _ _ _ hor.pos];exact hor.z
      · rw [iK,jm]at hi
        by_cases e:i<l.length
        · rw [yx _ _ _ _ e];exact hor.rng i e
        obtain rfl:i=l.length:=by omega
        rw [zS];exact ⟨hx1,hx2⟩
      · unfold FM.put at hv
        dsimp only at hv
        by_cases e:y=x
        · rw [if_pos e]at hv
          refine ⟨l.length,(Option.some.inj hv).symm,by rw [iK,jm];omega,by rw [zS,e]⟩
        rw [if_neg e]at hv;obtain ⟨i,q1,q2,q3⟩:=hor.map y v hv;exact ⟨i,q1,by rw [iK,jm];omega,by rw [yx _ _ _ _ q2];exact q3⟩
      rw [iK,jm];omega
    |some v=>
      obtain ⟨j,rfl,q2,q3⟩:=hor.map x v hm;rw [show m.has x=true by unfold FM.has;rw [hm];rfl,Bool.not_true,iteO_false,cu (by omega),show m.get x 0=((j:Nat):Int) by unfold FM.get;rw [hm];rfl];exact .inl ⟨(l,m,row.set c ((j:Nat):Int)),rfl,done hor (List.prefix_refl _) q2 q3⟩
  obtain ⟨l,m,row⟩:=t;have hor:OrI a b l m:=hI.or;have hpre:l0 <+: l:=hI.pre;have hple:=hpre.length_le;have fa:a.fin.length=a.next.length:=by obtain ⟨_, -, -, -, -,q, -⟩:=JK ha;exact q
  have fb:b.fin.length=b.next.length:=by obtain ⟨_, -, -, -, -,q, -⟩:=JK hb;exact q
  have o1':0<=(nth l0 k fH).p/\(nth l0 k fH).p<(a.fin.length:Int):=⟨o1.1,by have:=o1.2;omega⟩;have o2':0<=(nth l0 k fH).q/\(nth l0 k fH).q<(b.fin.length:Int):=⟨o2.1,by have:=o2.2;omega⟩;refine ⟨.inl (l,m,N++[row],F++[nth a.fin (nth l0 k fH).p.toNat false || nth b.fin (nth l0 k fH).q.toNat false],k+1),?_,.inl ⟨_,rfl,⟨hor,?_,?_,?_,λi hi=> ?_,λi hi=> ?_⟩,rfl⟩⟩
  · show Ou (p,cls,0) l0 k a b N F l m row p.length=_
    unfold Ou;dsimp only;rw [dM (by omega),cu (by rw [jm];omega),cu o1',cu o2',or1,kT,cu (by rw [jm];omega)];rfl
  · show k+1<=l.length
    omega
  · show (N++[row]).length=k+1
    rw [iK,jm,hlenN]
  · show (F++[_]).length=k+1
    rw [iK,jm,hlenF]
  · have hi:i<k+1:=hi
    show (nth (N++[row]) i ([]:ah)).length=_/\ ∀c,c<p.length->AtP a b p l (nth l i fH) c (nth (nth (N++[row]) i ([]:ah)) c (0:Int));rw [zb_ hpre (by omega)]
    by_cases e:i<k
    · rw [yx _ _ _ _ (by omega)]
      obtain ⟨q1,q2⟩:=h.row i e;exact ⟨q1,λc hc=>(q2 c hc).mono hpre⟩
    obtain rfl:i=k:=by omega
    rw [<-hlenN,zS,hlenN];exact ⟨hI.len,λc hc=>hI.at_ c hc⟩
  have hi:i<k+1:=hi;show nth (F++[_]) i false=(nth a.fin (nth l i fH).p.toNat false || nth b.fin (nth l i fH).q.toNat false);rw [zb_ hpre (by omega)]
  by_cases e:i<k
  · rw [yx _ _ _ _ (by omega)]
    exact h.fin i e
  obtain rfl:i=k:=by omega
  rw [<-hlenF,zS]
theorem y5_{s0:PSt}(h0:AllP a b p s0):
    ∃r,iter (λq:(List FPr)×(FM FPr Int)×aO×B_1×Nat=>Rl (p,cls,0) a b q.1 q.2.1 q.2.2.1 q.2.2.2.1 q.2.2.2.2) s0=some r/\(r=(⟨[],[],[]⟩,2)\/r.2=0/\r.1.cls=cls/\ ∃l m,AllP a b p (l,m,r.1.next,r.1.fin,l.length)):=by
  refine Rh (step:=λq:(List FPr)×(FM FPr Int)×aO×B_1×Nat=>Rl (p,cls,0) a b q.1 q.2.1 q.2.2.1 q.2.2.2.1 q.2.2.2.2) (AllP a b p) _ (λs=>5000 - s.2.2.2.2) (λs hI=> ?_) s0 h0;obtain ⟨l,m,N,F,k⟩:=s;have hkl:k<=l.length:=hI.k;have hll:l.length<=1024:=hI.or.len;have hpl:=hS.le;show (∃s',Rl (p,cls,0) a b l m N F k=_/\_)\/ ∃r,Rl (p,cls,0) a b l m N F k=_/\_;unfold Rl
  by_cases hk:k<l.length
  · rw [eH (by omega),cu (by dsimp only;omega)]
    obtain ⟨r,e,h2⟩:=pairs_row ha hb hS hI hk;refine (show _=some r from e)▸ ?_;rcases h2 with ⟨s',rfl,h3,h4⟩|rfl
    · refine .inl ⟨s',rfl,h3,?_⟩
      have h4:s'.2.2.2.2=k+1:=h4;show 5000 - s'.2.2.2.2<5000 - k;omega
    exact .inr ⟨_,rfl,.inl rfl⟩
  rw [dM (by omega)];obtain rfl:k=l.length:=by omega
  exact .inr ⟨_,rfl,.inr ⟨rfl,rfl,l,m,hI⟩⟩
end
section
variable {a b:Dfa} {p:List BSet} {cls:ah} (hS:ShOk p cls)
include hS
theorem AllP.right{d:Dfa}{l:List FPr}{m:FM FPr Int}(hd:d.cls=cls)(h:AllP a b p (l,m,d.next,d.fin,l.length)):kU d=true:=by
  have h1:d.next.length=l.length:=h.lenN;have h2:d.fin.length=l.length:=h.lenF;have h3:l.length<=1024:=h.or.len;have h4:0<l.length:=h.or.pos;refine DR.right (w:=p.length) ⟨by rw [hd];exact hS.cnt,by rw [hd];exact hS.len,by omega,by omega,by omega,λs hs=> ?_⟩;obtain ⟨q1,q2⟩:=h.row s (show s<l.length by omega);refine ⟨q1,λc hc=> ?_⟩;obtain ⟨j,q3,q4, -⟩:=q2 c hc;have q3:nth (nth d.next s ([]:ah)) c (0:Int)=((j:Nat):Int):=q3;have q4:j<l.length:=q4;omega
theorem AllP.run(fa:Fine a p)(fb:Fine b p){d:Dfa}{l:List FPr}{m:FM FPr Int}(hd:d.cls=cls)(h:AllP a b p (l,m,d.next,d.fin,l.length)): ∀(u:T_1) (i:Nat),i<l.length-> ∃j:Nat,qp d ((i:Nat):Int) u=((j:Nat):Int)/\j<l.length/\nth l j fH=⟨qp a (nth l i fH).p u,qp b (nth l i fH).q u⟩
  |[],i,hi=>⟨i,rfl,hi,rfl⟩
  | β :: u, i, hi => by
    obtain ⟨c,q1,q2,q3⟩:=hS.at_ β.toNat (UInt8.toNat_lt β);obtain ⟨j,q4,q5,q6⟩:=(h.row i hi).2 c q2;have q5:j<l.length:=q5;obtain ⟨j',r1,r2,r3⟩:=AllP.run fa fb hd h u j q5;have hdl:dlt d ((i:Nat):Int) β=((j:Nat):Int):=by
      unfold Go.Proofs.YtcfgkcfcddfccaaGreatDoor.dlt;rw [hd,q1,nI,nI];exact q4
    refine ⟨j',?_,r2,?_⟩
    · show qp d (dlt d ((i:Nat):Int) β) u=_
      rw [hdl];exact r1
    rw [r3,show nth l j fH=stP a b (nth l i fH) (pG (nth p c BSet.zero))from q6];unfold stP;dsimp only;rw [fa.dlt q2 (hS.first c q2) q3,fb.dlt q2 (hS.first c q2) q3];rfl
end
theorem or_go {a b : Dfa} (ha : kU a = true) (hb : kU b = true) : ∃ r, kw_ a b = some r /\ (r = (⟨[], [], []⟩, 2) \/ r.2 = 0 /\ kU r.1 = true /\ ∀ u, lZ r.1 0 u = (lZ a 0 u || lZ b 0 u)) := by
  obtain ⟨p,cls,e,hS,fa,fb⟩:=yk_ ha hb;obtain ⟨na, -, -,na1, -⟩:=JK ha;obtain ⟨nb, -, -,nb1, -⟩:=JK hb;obtain ⟨r,e1,h⟩:=y5_ ha hb hS (s0:=([(⟨0,0⟩:FPr)],((FM.emp:FM FPr Int).put (⟨0,0⟩:FPr) 0),([]:aO),([]:B_1),0)) ⟨⟨by simp,by simp,rfl,λi hi=>by
      obtain rfl:i=0:=by simpa using hi
      exact ⟨⟨Int.le_refl _,show (0:Int)<_ by omega⟩,⟨Int.le_refl _,show (0:Int)<_ by omega⟩⟩,λx v hv=>by
      unfold FM.put FM.emp at hv;dsimp only at hv
      by_cases e:x=⟨0,0⟩
      · rw [if_pos e]at hv
        exact ⟨0,(Option.some.inj hv).symm,by simp,e.symm⟩
      rw [if_neg e]at hv;cases hv⟩,Nat.zero_le _,rfl,rfl,λi hi=>absurd hi (Nat.not_lt_zero i),λi hi=>absurd hi (Nat.not_lt_zero i)⟩
  refine ⟨r,?_,h.imp id λ⟨h1,h2,l,m,h3⟩=>⟨h1,AllP.right hS h2 h3,λu=> ?_⟩⟩
  · unfold kw_ gt_
    rw [Rf,kT,if_pos ha,dM (by simp),Rf,kT,if_pos hb,dM (by simp),iM e,dM (by simp),show iter _ _=some r from e1];rfl
  have hpos:0<l.length:=h3.or.pos;have hz:nth l 0 fH=⟨0,0⟩:=h3.or.z;obtain ⟨j,q1,q2,q3⟩:=AllP.run hS fa fb h2 h3 u 0 hpos;have q1:qp r.1 0 u=((j:Nat):Int):=q1;unfold lZ;rw [q1,nI,show nth r.1.fin j false=_ from h3.fin j q2];rw [hz]at q3;show (nth a.fin (nth l j fH).p.toNat false || nth b.fin (nth l j fH).q.toNat false)=_;rw [q3]
end Go.Proofs.YtcfgkcfcddfccaaGreatDoor
end

noncomputable section
namespace Go.E
open Go
structure TLag where
  p:Int
  q:Int
  a:List UInt8
  b:List UInt8
  deriving DecidableEq
def TLag.zero:TLag:=⟨0,0,[],[]⟩
structure Walk where
  t:Fst
  arcs:List (List Arc)
  most:Int
structure ReLeaf where
  kind:Int
  text:List UInt8
  set:BSet
  min:Int
  max:Int
  deriving DecidableEq
def ReLeaf.zero:ReLeaf:=⟨0,[],BSet.zero,0,0⟩
structure ReRoot where
  kind:Int
  text:List UInt8
  set:BSet
  parts:List ReLeaf
  min:Int
  max:Int
def ReRoot.zero:ReRoot:=⟨0,[],BSet.zero,[],0,0⟩
end Go.E
end

noncomputable section
namespace Go.Proofs.YtcfgkcfcddfccaaGreatDoor
open Go Go.E Go.E.OpVal Go.E.OpOk Go.Proofs.Tryz
open List (replicate)
def Iy_(x0:T_1)(x1:T_1)(kD:Nat):Option ((Nat)⊕(Int)):=
 iteO (decide ((kD:Int)<(min (x0.length:Int) (x1.length:Int)))) (grd (kD<x0.length) (grd (kD<x1.length) (iteO (decide (((nth x0 kD 0).toNat:Int)≠((nth x1 kD 0).toNat:Int))) (fin (some (kD:Int))) (nxt (kD+1))))) (fin (some (min (x0.length:Int) (x1.length:Int))))
def Hl_(x0:T_1)(x1:T_1):Option (Int):=
 grd (x0.length<=281474976710656) (grd (x1.length<=281474976710656) (iter (λq:Nat=>Iy_ x0 x1 q) 0))
theorem Me_{σ:aj}{x0:T_1}{x1:T_1}{r:Int}(hh:Hl_ x0 x1=some r):
  Con prog 209 #[.string (bs x0),.string (bs x1)] σ [] (jq (.int .i64 r) σ):=by
 dsimp only [Hl_]at hh;refine cM 26 Tryz.func209 (λw0=> ?_);obtain ⟨x0b,hh⟩:=gd hh;obtain ⟨x1b,hh⟩:=gd hh;refine R7 ?_;refine ι z (xq z kR z) (ι z (IJ (.inl z) z) (ι z (xq z kR z) (ι z (minI z z z) (R9 ?_))));refine TC.lp hh () (rgs [(4,1),(6,1),(13,12)]) (λkD _=>([(13,.int .i64 (kD:Int))],[])) (θ 0 z) ?_;rintro kD _ _ z1 hh hR1;dsimp only [Iy_]at hh ⊢;refine R5 ?_;refine π z hh (λgV hh=> ?_) (λgV hh=> ?_)
 ·refine R9 ?_;obtain ⟨u15,hh⟩:=gd hh;obtain ⟨TV,hh⟩:=gd hh;refine TC.dw [] (ν 0 z (IJ (.inl z) z) z (ν 1 z mI z (ν 2 z (bz_ z kR z z (by omega)) z (ν 3 z (IJ (.inl z) z) z (ν 4 z mI z (ν 5 z (bz_ z kR z z (by omega)) z (ν 6 z (OpVal.neq z z z) z (R1 ?_))))))));refine π z hh (λdL hh=> ?_) (λdL hh=> ?_)
  ·refine R5 ?_;refine η ?_;replace hh:=bJ hR1 hh;obtain rfl:=so hh;exact rq [4] ⟨z,z,z⟩
  refine R5 ?_;exact nxq hR1 hh () (θ 0 z)
 refine R1 ?_;replace hh:=bJ hR1 hh;refine R6 ?_;refine η ?_;obtain rfl:=so hh;exact rq [4] ⟨z,z,z⟩
end Go.Proofs.YtcfgkcfcddfccaaGreatDoor
end

noncomputable section
namespace Go.E
open Go
abbrev Gh:=Nat->Option Addr×Nat
structure PO where
  dst:Nat
  use:List Nat
  val:List (Option Addr×Nat)->Value
  res:List (Option Addr×Nat)->List Res
  eat:List Nat
def PO.no:PO:=⟨0,[],λ_=>undef,λ_=>[],[]⟩
def po(D:List PO)(k:Nat):PO:=D.getD k PO.no
def pv(D:List PO)(k:Nat)(γ:Gh):Value:=(po D k).val ((po D k).use.map γ)
def pr(D:List PO)(k:Nat)(γ:Gh):List Res:=(po D k).res ((po D k).use.map γ)
def eaten(D:List PO)(L:Array Bool)(k:Nat):Bool:=(List.range D.length).any λi=>L.getD i false && (po D i).eat.contains k
def pick(p:Nat->Bool)(f:Nat->List Res)(n:Nat):List Res:=(List.range n).flatMap λk=>if p k=true then f k else []
def pR(D:List PO)(L:Array Bool)(γ:Gh):List Res:=pick (λk=>L.getD k false && !eaten D L k) (λk=>pr D k γ) D.length
section
variable {X:Ctx} {ops:Array Oper} {Q:QP} {e0:Env} {σ:aj} {H0:List Res} {late:List Nat} {f:Nat} {D:List PO}
structure PJ (ops:Array Oper) (e0:Env) (H0:List Res) (D:List PO) (L:Array Bool) (γ:Gh) (e:Env) (H:List Res):Prop where
  size:L.size=ops.size
  on: ∀k,k<D.length->L.getD k false=true->e (po D k).dst=pv D k γ
  off: ∀t,(∀k,k<D.length->L.getD k false=true->(po D k).dst≠t)->e t=e0 t
  rest: ∀j,D.length<=j->L.getD j false=false
  heap:H.Perm (H0++pR D L γ)
structure ChkI (ops:Array Oper) (D:List PO) (i:Nat):Prop where
  deps: ∃o,ops[i]? =some o/\ ∀e∈o.after,Region.binds .any e=true->e.on<i
  use: ∀j∈(po D i).use,j=i\/after? ops ops.size i j=true
  eat: ∀j∈(po D i).eat,j<i/\after? ops ops.size i j=true
  dst: ∀k,k<D.length->k≠i->(po D k).dst≠(po D i).dst
  sep: ∀k,k<D.length->k≠i-> ∀j∈(po D i).eat,(po D k).eat.contains j=false
  ord:(List.range D.length).filter (λk=>(po D i).eat.contains k)=(po D i).eat
end
end Go.E
end

noncomputable section
namespace Go.Proofs.YtcfgkcfcddfccaaGreatDoor
open Go Go.E Go.E.OpVal Go.E.OpOk Go.Proofs.Tryz
open List (replicate)
theorem pf116:plainF Tryz.prog 116=true:=by kernel_rfl
theorem pf38:plainF Tryz.prog 38=true:=by kernel_rfl
theorem pf55:plainF Tryz.prog 55=true:=by kernel_rfl
def A6_(iD:Nat)(lg:T_1):Option ((T_1×Nat)⊕(T_1)):=
 nxt (lg,(iD+1))
def Aj_(x0:BSet)(eU:T_1)(iD:Nat):Option ((T_1×Nat)⊕(T_1)):=
 iteO (decide ((iD:Int)<256)) (grd (iD<256) (iteO (x0.has iD) (grd ((eU.length+[(jd (iD:Int))].length) * 1<=140737488355328) (A6_ iD (eU++[(jd (iD:Int))]))) (A6_ iD eU))) (fin (some eU))
def Br_(x0:BSet):Option (T_1):=
 iter (λq:T_1×Nat=>Aj_ x0 q.1 q.2) (([]:T_1),0)
def K3_(σ:aj)(r:T_1):Value->aj->List Res->Prop:=λv σ' H'=>
 ∃a1 c1,v= .slice a1 r.length c1/\σ=σ'/\H'=[dO 5 jo a1 c1 r]
theorem Kg_{σ:aj}{x0:BSet}{r:T_1}(hh:Br_ x0=some r):
  Con prog 55 #[vk x0] σ [] (K3_ σ r):=by
 dsimp only [Br_]at hh;refine cM 18 Tryz.func55 (λw0=> ?_);refine R2 ?_;refine TL.bx (λaP=> ?_);refine R12 ?_;refine TC.nilS 5 1 jo (TC.lp hh (nO,oO) (rgs [(3,14)]) (λ⟨eU,iD⟩ ⟨pK,c116⟩=>([(3,.slice pK eU.length c116),(4,.int .i64 (iD:Int))],[ω aP (setA x0) 47,dO 5 jo pK c116 eU])) (ψ [1] 2) ?_);rintro ⟨eU,iD⟩ ⟨pK,c116⟩ _ z1 hh hR1;dsimp only [Aj_]at hh ⊢;refine ζ 1 z (λhb119=> ?_);refine R6 ?_;refine π z hh (λqX hh=> ?_) (λqX hh=> ?_)
 ·refine R1 ?_;refine TC.cutG (α:=(T_1)×((Option Addr)×Nat)) (rgs [(3,1),(9,8)]) (λg=>[(3,.slice g.2.1 g.1.length g.2.2)]) (λg=>[ω aP (setA x0) 47,ε 5 1 jo (.slice g.2.1 g.1.length g.2.2) g.1]) (λg=>σ) (λg=>A6_ iD g.1=some z1) ?_ (λg j hg=> ?_)
  ·refine R5 ?_;obtain ⟨u9,hh⟩:=gd hh;refine φ z (gI (z1_ _ x0 iD (BSet.isOk _) u9) z z pf116 z z z ?_);refine R1 ?_;refine TC.cB z hh (λwz hh=> ?_) (λwz hh=> ?_)
   ·refine R3 ?_;refine ι z (EN z um yw z) (φ z (jc (enc:=jo) [(jd (iD:Int))] (λSX RI=> ?_)));refine κ 2 ?_;obtain ⟨u14,hh⟩:=gd hh;refine φ z (apF (.inr ⟨_,0,z⟩) u14 (λa128 ZY=> ?_));refine R2 ?_;exact cf ((eU++[(jd (iD:Int))]),(a128,ZY)) hh (ψ [2] 2)
   refine R1 ?_;exact cf (eU,(pK,c116)) hh (ψ [1,1] 2)
  obtain ⟨lg,⟨CY,CO⟩⟩:=g;have hh:=hg;clear hg
  try dsimp only
  dsimp only [A6_]at hh;refine ζ 1 z (λW9=> ?_);refine R5 ?_;exact nxq hR1 hh (CY,CO) (ψ [1,1] 2)
 refine R1 ?_;replace hh:=bJ hR1 hh;refine R6 ?_;refine Θ (ψ [1] 1) (η ?_);obtain rfl:=so hh;exact rz
def Aw_(x0:Fst)(I9:Int):Option (Bool):=
 bnd (Cn_ x0) (λv29=>iteO v29 (iteO (decide ((x0.arcs.length:Int)<=14)) (iteO (decide (x0.states<=5)) (some (decide (I9<=40))) (iteO (decide (1024<x0.states)) (some (decide (I9<=40))) (some false))) (some false)) (some false))
def XE(x0:Fst)(o7:Int)(vS:Nat):Option ((Int×Nat)⊕(Bool)):=
 iteO (decide ((vS:Int)<(x0.arcs.length:Int))) (iteO (decide (o7<=40)) (bnd (Br_ ((nth x0.arcs vS aQ).set)) (λv21=>nxt ((IntKind.i64.wrap (o7+(v21.length:Int))),(vS+1)))) (fin (Aw_ x0 o7))) (fin (Aw_ x0 o7))
def Cp_(x0:Fst):Option (Bool):=
 iter (λq:Int×Nat=>XE x0 q.1 q.2) (0,0)
theorem Kw_{σ:aj}{x0:Fst}(aC:RS σ 2 bf (.slice aB x0.starts.length aA) x0.starts)(aV:RS σ 2 bf (.slice ay x0.ends.length aH) x0.ends)(aS:RS σ 8 fP (.slice aG x0.arcs.length au) x0.arcs){r:Bool}(hh:Cp_ x0=some r):
  Con prog 19 #[.agg (jB x0 aB aA ay aH aG au)] σ [] (jq (.bool r) σ):=by
 dsimp only [Cp_]at hh;have f0_2b:=aS.rv.big;refine cM 48 Tryz.func19 (λw0=> ?_);refine R2 ?_;refine TL.bx (λaP=> ?_);refine R6 ?_;refine TC.cutG (α:=(Int)×(Unit)) (rgs [(3,23)]) (λg=>[(3,.int .i64 g.1)]) (λg=>[ω aP (jB x0 aB aA ay aH aG au) 25]) (λg=>σ) (λg=>Aw_ x0 g.1=some r) ?_ (λg j hg=> ?_)
 ·refine R5 ?_;refine TC.lp hh () (rgs [(3,23)]) (λ⟨o7,vS⟩ _=>([(3,.int .i64 o7),(4,.int .i64 (vS:Int))],[ω aP (jB x0 aB aA ay aH aG au) 25])) (θ 1 z) ?_;rintro ⟨o7,vS⟩ _ _ z1 hh hR1;dsimp only [XE]at hh ⊢;refine R9 ?_;refine δ 10 z (λfD=> ?_) (λfD=> ?_)
  ·obtain ⟨fD,hh⟩:=iT fD hh;refine R4 ?_;refine π z hh (λgZ hh=> ?_) (λgZ hh=> ?_)
   ·refine R10 ?_;refine ι z (c5_ aQ z Jm PL z aS (by omega) (by omega) (by omega) z z) ?_;obtain ⟨v21,u21,hh⟩:=bg hh;refine φ z (OpOk.call (Kg_ u21) z z pf55 z z z z ?_);rintro _ _ _ lU ⟨a112_1,c112_1,rfl,rfl,rfl⟩;refine R9 ?_;exact nxq hR1 hh () (ψ [1] 1)
   refine R1 ?_;replace hh:=bJ hR1 hh;refine R1 ?_;exact cf (o7,()) hh (θ 1 z)
  obtain ⟨fD,hh⟩:=iF fD hh;refine R6 ?_;replace hh:=bJ hR1 hh;refine R1 ?_;exact cf (o7,()) hh (θ 1 z)
 obtain ⟨I9,_⟩:=g;have hh:=hg;clear hg
 try dsimp only
 dsimp only [Aw_]at hh;refine R3 ?_;obtain ⟨v29,u29,hh⟩:=bg hh;refine φ z (gI (Kx_ (x0:=x0) aC aV aS u29) z z pf38 z z z ?_);refine TL.j z z (δ 28 z (λt_=> ?_) (λt_=> ?_))
 ·replace hh:=uZ t_ hh;refine R6 ?_;refine δ 34 z (λh116=> ?_) (λh116=> ?_)
  ·obtain ⟨h116,hh⟩:=iT h116 hh;refine R4 ?_;refine δ 38 z (λtZ=> ?_) (λtZ=> ?_)
   ·obtain ⟨tZ,hh⟩:=iT tZ hh;refine R11 ?_;refine Ψ 0 ?_;obtain rfl:=so hh;exact rq [2] ⟨z,z,z⟩
   obtain ⟨tZ,hh⟩:=iF tZ hh;refine R6 ?_;refine δ 44 z (λqY=> ?_) (λqY=> ?_)
   ·obtain ⟨qY,hh⟩:=iT qY hh;refine R5 ?_;refine Ψ 0 ?_;obtain rfl:=so hh;exact rq [2] ⟨z,z,z⟩
   obtain ⟨qY,hh⟩:=iF qY hh;refine R5 ?_;refine Ψ 0 ?_;obtain rfl:=so hh;exact rq [2] ⟨z,z,z⟩
  obtain ⟨h116,hh⟩:=iF h116 hh;refine R15 ?_;refine Ψ 0 ?_;obtain rfl:=so hh;exact rq [2] ⟨z,z,z⟩
 replace hh:=u_ t_ hh;refine R21 ?_;refine Ψ 0 ?_;obtain rfl:=so hh;exact rq [2] ⟨z,z,z⟩
end Go.Proofs.YtcfgkcfcddfccaaGreatDoor
end

noncomputable section
namespace Go.Proofs.YtcfgkcfcddfccaaGreatDoor
open Go Go.E
theorem po_{α:Type}{b:Bool}{x y:Option α}(h1:b=true-> ∃r,x=some r)(h2:b=false-> ∃r,y=some r): ∃r,iteO b x y=some r:=by
  cases b with
  |true=>exact h1 rfl
  |false=>exact h2 rfl
theorem UR{α:Type}(x:α): ∃r,some x=some r:=⟨x,rfl⟩
theorem vq_(t:Fst)(i:Int): ∃r,Ax_ t i=some r:=by
  unfold Ax_;exact po_ (λ_=>po_ (λ_=>UR _) (λ_=>UR _)) (λ_=>UR _)
theorem uu_(t:Fst)(i:Int): ∃r,Ay_ t i=some r:=by
  unfold Ay_;obtain ⟨r,h, -⟩:=kV (step:=λq:Int×Nat=>XH t q.1 q.2) (λ(s:Int) k=>(s,k)) t.arcs.length (λ_ _=>True) (λ_=>True)
    (λk s hk _=>by
      show (∃s',XH t s k=_/\_)\/ ∃r,XH t s k=_/\_;unfold XH;rw [eH (by omega)]
      by_cases h:s<=60
      · rw [eH h];exact .inl ⟨_,rfl,trivial⟩
      rw [dM h];obtain ⟨r,hr⟩:=vq_ t s;exact .inr ⟨r,by rw [hr];rfl,trivial⟩)
    (λs _=>by
      show ∃r,XH t s _=_/\_;unfold XH;rw [dM (by omega)];obtain ⟨r,hr⟩:=vq_ t s;exact ⟨r,by rw [hr];rfl,trivial⟩) (s0:=i) trivial
  exact ⟨r,h⟩
theorem vo_(t:Fst)(i:Int): ∃r,Au_ t i=some r:=by
  unfold Au_;obtain ⟨r,h, -⟩:=kV (step:=λq:Int×Nat=>XG t q.1 q.2) (λ(s:Int) k=>(s,k)) t.ends.length (λ_ _=>True) (λ_=>True)
    (λk s hk _=>by
      show (∃s',XG t s k=_/\_)\/ ∃r,XG t s k=_/\_;unfold XG;rw [eH (by omega)]
      by_cases h:s<=60
      · rw [eH h];exact .inl ⟨_,rfl,trivial⟩
      rw [dM h];obtain ⟨r,hr⟩:=uu_ t s;exact .inr ⟨r,by rw [hr];rfl,trivial⟩)
    (λs _=>by
      show ∃r,XG t s _=_/\_;unfold XG;rw [dM (by omega)];obtain ⟨r,hr⟩:=uu_ t s;exact ⟨r,by rw [hr];rfl,trivial⟩) (s0:=i) trivial
  exact ⟨r,h⟩
theorem t7_(t:Fst): ∃r,Cn_ t=some r:=by
  unfold Cn_;obtain ⟨r,h, -⟩:=kV (step:=λq:Int×Nat=>XF t q.1 q.2) (λ(s:Int) k=>(s,k)) t.starts.length (λ_ _=>True) (λ_=>True)
    (λk s hk _=>by
      show (∃s',XF t s k=_/\_)\/ ∃r,XF t s k=_/\_;unfold XF;rw [eH (by omega)]
      by_cases h:s<=60
      · rw [eH h];exact .inl ⟨_,rfl,trivial⟩
      rw [dM h];obtain ⟨r,hr⟩:=vo_ t s;exact .inr ⟨r,by rw [hr];rfl,trivial⟩)
    (λs _=>by
      show ∃r,XF t s _=_/\_;unfold XF;rw [dM (by omega)];obtain ⟨r,hr⟩:=vo_ t s;exact ⟨r,by rw [hr];rfl,trivial⟩) trivial
  exact ⟨r,h⟩
theorem t3_(s:BSet): ∃r,Br_ s=some r:=by
  unfold Br_;obtain ⟨r,h, -⟩:=kV (step:=λq:T_1×Nat=>Aj_ s q.1 q.2) (λ(l:T_1) k=>(l,k)) 256 (λk l=>l.length<=k) (λ_=>True)
    (λk l hk hI=>by
      refine .inl ?_;show ∃s',Aj_ s l k=_/\_;unfold Aj_ A6_;rw [eH (by omega),cu hk];cases s.has k with
      |true=>exact ⟨_,by rw [iteO_true,cu (by simp only [jm];omega)];rfl,by simp only [iK,jm];omega⟩
      |false=>exact ⟨l,rfl,by omega⟩)
    (λl hI=>⟨l,by
      show Aj_ s l 256=_;unfold Aj_;rw [dM (by omega)];rfl,trivial⟩) (s0:=[]) (Nat.le_refl _)
  exact ⟨r,h⟩
theorem ve_(t:Fst)(i:Int): ∃r,Aw_ t i=some r:=by
  unfold Aw_;obtain ⟨b,hb⟩:=t7_ t;rw [iM hb];exact po_ (λ_=>po_ (λ_=>po_ (λ_=>UR _) (λ_=>po_ (λ_=>UR _) (λ_=>UR _))) (λ_=>UR _)) (λ_=>UR _)
theorem to_ (t : Fst) : ∃ r, Cp_ t = some r := by
  unfold Cp_;obtain ⟨r,h, -⟩:=kV (step:=λq:Int×Nat=>XE t q.1 q.2) (λ(s:Int) k=>(s,k)) t.arcs.length (λ_ _=>True) (λ_=>True)
    (λk s hk _=>by
      show (∃s',XE t s k=_/\_)\/ ∃r,XE t s k=_/\_;unfold XE;rw [eH (by omega)]
      by_cases h:s<=40
      · obtain ⟨b,hb⟩:=t3_ (nth t.arcs k aQ).set
        rw [eH h,iM hb];exact .inl ⟨_,rfl,trivial⟩
      rw [dM h];obtain ⟨r,hr⟩:=ve_ t s;exact .inr ⟨r,by rw [hr];rfl,trivial⟩)
    (λs _=>by
      show ∃r,XE t s _=_/\_;unfold XE;rw [dM (by omega)];obtain ⟨r,hr⟩:=ve_ t s;exact ⟨r,by rw [hr];rfl,trivial⟩) (s0:=0) trivial
  exact ⟨r,h⟩
end Go.Proofs.YtcfgkcfcddfccaaGreatDoor
end

noncomputable section
namespace Go.E
open Go
structure Seq where
  front:List UInt8
  next:List (List Int)
  outs:List (List (List UInt8))
  fin:List Bool
  tail:List (List UInt8)
def Seq.zero:Seq:=⟨[],[],[],[],[]⟩
structure SeqP where
  a1:Option Addr
  c1:Nat
  a2:Option Addr
  c2:Nat
  a3:Option Addr
  c3:Nat
  a4:Option Addr
  c4:Nat
def SeqP.zero:SeqP:=⟨none,0,none,0,none,0,none,0⟩
structure RSeq (σ:aj) (x:Seq) (p:SeqP):Prop where
  n:RZ σ (aF 1 ak aT) (.slice p.a1 x.next.length p.c1) x.next
  o:RZ σ (aF 1 bF eu) (.slice p.a2 x.outs.length p.c2) x.outs
  e:RS σ 1 dG (.slice p.a3 x.fin.length p.c3) x.fin
  t:RS σ 1 bF (.slice p.a4 x.tail.length p.c4) x.tail
def Seq.enc(x:Seq)(p:SeqP):List Value:=[.string (bs x.front),.slice p.a1 x.next.length p.c1,.slice p.a2 x.outs.length p.c2,.slice p.a3 x.fin.length p.c3,.slice p.a4 x.tail.length p.c4]
structure Rule where
  of:Dfa
  left:Dfa
  right:Dfa
  out:List UInt8
  mapped:Bool
  by':Seq
def Rule.zero:Rule:=⟨Dfa.zero,Dfa.zero,Dfa.zero,[],false,Seq.zero⟩
structure RuleP where
  of:DfaP
  left:DfaP
  right:DfaP
  by':SeqP
def RuleP.zero:RuleP:=⟨DfaP.zero,DfaP.zero,DfaP.zero,SeqP.zero⟩
structure RRule (σ:aj) (x:Rule) (p:RuleP):Prop where
  o:RDfa σ x.of p.of
  l:RDfa σ x.left p.left
  r:RDfa σ x.right p.right
  b:RSeq σ x.by' p.by'
structure SB where
  buf:List UInt8
structure Turned where
  b:SB
  at':List Span
structure How where
  r:Rule
structure Piece where
  text:List UInt8
  at':List Span
def Piece.zero:Piece:=⟨[],[]⟩
abbrev kN(x:Seq)(a1:Option Addr)(c1:Nat)(a2:Option Addr)(c2:Nat)(a3:Option Addr)(c3:Nat)(a4:Option Addr)(c4:Nat):Array Value:=#[.string (bs x.front),.slice a1 x.next.length c1,.slice a2 x.outs.length c2,.slice a3 x.fin.length c3,.slice a4 x.tail.length c4]
abbrev cq_(b:Nat)(x:Seq)(a1:Option Addr)(c1:Nat)(a2:Option Addr)(c2:Nat)(a3:Option Addr)(c3:Nat)(a4:Option Addr)(c4:Nat):Res:=ω b (kN x a1 c1 a2 c2 a3 c3 a4 c4) 32
def yH(u:Bool)(b:Nat):Value:=match u with|true=>loc b 0|false=> .pointer none
theorem oc_{b E:Nat}{cs:Array Value}{w:World}(h:(ω b cs E).holds w):w.shape? b=some (E,cs.size):=by
  have h1:w.heap[b]? =some (.cells cs E (0,0)):=h;simp [World.shape?,h1]
section
variable {P:Program} {n:Nat} {e:Env} {σ:aj} {H:List Res} {o:Oper} {x y:Operand}
theorem OpVal.cvtUns{S T t b E i sz m:Nat}{cs:Array Value}(ho:o.op= .convert S T x)(hS:P.underlying S=some (.pointer t))(hT:P.underlying T=some .unsafePointer)(hs:szOf P t=some sz)(h0:sz≠0)
    (hx:ev e x=loc b 0) (hi:H[i]? =some (ω b cs E)) (hm:cs.size=m) (hc:0<m):OpVal P n o e σ H (loc b 0):=λw hw=>by
  obtain ⟨j,hj,hjs⟩:=PY hs;have hsh:=oc_ (hw.2 _ (List.mem_of_getElem? hi));have h:=Lib.run_to_unsafe (P:=P) (w:=w) (cells:=cs.size) ⟨b,0,none⟩ hS hT hj (by rw [hjs];exact h0) hsh (by rw [hm];exact hc);simp [execOp,ho,hx,loc,h]
theorem OpVal.cvtPtr{S T t b E i sz m:Nat}{cs:Array Value}(ho:o.op= .convert S T x)(hS:P.underlying S=some .unsafePointer)(hT:P.underlying T=some (.pointer t))(hs:szOf P t=some sz)
    (hx:ev e x=loc b 0) (hi:H[i]? =some (ω b cs E)) (hm:cs.size=m) (hl:liesAt P P.depth E (m / P.cellsOf E) 0 t 1=true):OpVal P n o e σ H (loc b 0):=λw hw=>by
  obtain ⟨j,hj,hjs⟩:=PY hs;have hsh:=oc_ (hw.2 _ (List.mem_of_getElem? hi));have h:=Lib.run_from_unsafe (P:=P) (w:=w) (cells:=cs.size) ⟨b,0,none⟩ hS hT hj hsh (by rw [hm];exact hl);simp [execOp,ho,hx,loc,h]
theorem OpVal.noEsc{p : Operand}{ts : Array TypeId}{J : FuncId}{fn : Func}{v : Value}(ho : o.op = .call { callee := .value x, args := #[p], argTypes := ts })(hx : ev e x = .func (.func J) #[] #[])(hf : P.funcs[J]? = some fn)(hname : (fn.name == "runtime.NumGoroutine") = false)
    (hb:fn.body.isNone=true) (hn:Extern.findNext fn=none) (he:Extern.find fn=some Extern.AbiNoEscape.same) (hp:ev e p=v):OpVal P n o e σ H v:=λw _=>by
  have h:=run_callFunc_extern hf hname hb hn he #[v] w;rw [Lib.run_noEscape]at h;simp [execOp,ho,resolve,Deferred.ofValue,invoke,hx,hp,h,Result.andThen]
theorem OpVal.ea_{T T' t b sz:Nat}(ho:o.op= .binOp .neq T x y T')(hT:P.underlying T=some (.pointer t))(hs:szOf P t=some sz)(hx:ev e x=loc b 0)(hy:ev e y=loc b 0):OpVal P n o e σ H (.bool false):=λw _=>by
  obtain ⟨j,hj,_⟩:=PY hs;have h:=Lib.run_neq_ptr_same (P:=P) (w:=w) ⟨b,0,none⟩ hT hj;simp only [execOp,ho,hx,hy,loc,Sem.run_bind,js_,Result.andThen_ok];rw [h];rfl
end
theorem t8_(l:List UInt8):Lib.strCells (bs l)=l.flatMap jo:=by
  have h: ∀l:List UInt8,l.map (λb=>Value.int IntKind.u8 ((b.toNat:Nat):Int))=l.flatMap jo:=λl=>by
    induction l with
    |nil=>rfl
    |cons x l ih=>rw [List.map_cons,List.flatMap_cons,ih];rfl
  simp [Lib.strCells,bs];exact h l
theorem tp_ {P : Program} {w w' : World} (base : Nat) (t u ty e : TypeId) (i : TypeInfo) (ht : P.underlying t = some (.slice e)) (hu : P.underlying u = some .string) (hi : P.info? e = some i) (hz : i.zero = some (.int .u8 0))
    (hsize:i.size=1) (hby:i.bytes=1) {v v':Value} {n:Nat} {xs:List Value} (hown:w.ownsRow base e 1 v n xs) (s:ByteArray)
    (h63:n+s.size<=maxLen) (hbytes:n+s.size<=140737488355328) (hrun:(Builtin.append_ #[t,u] ty #[v,.string s]).run P w= .ok v' w'):
    (v'.ownBlock=v.ownBlock\/v'.ownBlock=some w.heap.size)/\w.drawn<=w'.drawn:=by
  have hsmall:n+s.size<=9223372036854775807:=by simp only [maxLen]at h63;omega
  have hxl:xs.length=n:=by simpa using hown.1
  rcases hown.2 with ⟨rfl,rfl⟩|⟨g,cap,cur,rfl,hbg,hg,hnc,hcm,hcs,htake⟩
  · by_cases hm:s.size=0
    · have hf:=Lib.run_firstCells_string (P:=P) (w:=w) 1 s
      rw [hm]at hf;have hr:(Builtin.append_ #[t,u] ty #[.slice none 0 0,.string s]).run P w= .ok (.slice none 0 0) w:=by
        simp [Builtin.append_,run_underlying ht,run_underlying hu,sizeOf,typeInfo,hi,hsize,Builtin.lenOf,hm,hf]
      rw [hrun]at hr;cases hr;exact ⟨.inl rfl,Nat.le_refl _⟩
    have hr:=run_append_nil_string (P:=P) w t u ty e i (.int .u8 0) ht hu hi hz s (by omega) (by omega) (by rw [hby];omega);rw [hrun]at hr;cases hr;exact ⟨.inr rfl,Nat.le_succ _⟩
  by_cases hroom:n+s.size<=cap
  · have hcs':cur.size=cap:=by simpa using hcs
    have hr:=Lib.run_append_room_string (P:=P) (w:=w) t u ty e i ht hu hi hsize g n cap cur hg s hroom (by omega);rw [hrun]at hr;cases hr;exact ⟨.inl rfl,Nat.le_refl _⟩
  have holds: ∀j u,xs[j]? =some u->w.cell? ((⟨g,0,none⟩:Addr).add j)=some u:=hown.cells (g:=g) rfl;have hr:=Lib.run_append_grow_string (P:=P) (w:=w) t u ty e i (.int .u8 0) ht hu hi hz ⟨g,0,none⟩ n cap xs (by rw [hsize];simpa using hxl) holds s (by omega) (by omega) (by rw [hby];exact growslice_fits (by omega) (by omega));rw [hrun]at hr;cases hr;exact ⟨.inr rfl,Nat.le_succ _⟩
theorem OpOk.c7_{X:Ctx}{e:Env}{σ:aj}{F:List Res}{o:Oper}{x y:Operand}{K:Env->aj->List Res->Prop}{T ty E d:Nat}{v:Value}{l m:List UInt8}
    (ho:o.op= .call {callee:= .builtin .append,args:= #[x,y],argTypes:= #[T,ty]}) (ht:X.P.underlying T=some (.slice E)) (hu:X.P.underlying ty=some .string) (hs:szOf X.P E=some 1) (hby:byOf X.P E=some 1) (hz:zeroOf X.P E=some (.int .u8 0))
    (hd:o.dst=some d) (hn:Nat.blt d X.n=true) (hx:ev e x=v) (hy:ev e y= .string (bs m)) (hb:l.length+m.length<=140737488355328)
    (k: ∀a c,K (upd e d (.slice a (l++m).length c)) σ (ε E 1 jo (.slice a (l++m).length c) (l++m)::F)):OpOk X o e σ (ε E 1 jo v l::F) K:=by
  obtain ⟨i,hi,hsi⟩:=PY hs;have hiz:i.zero=some (.int .u8 0):=by simpa [zeroOf,hi]using hz
  have hib:i.bytes=1:=by simpa [byOf,hi]using hby
  intro u0 C0 τ0 w a hw ha K' Q hK;obtain ⟨hown,hone,hbg⟩:=hw.holds _ (iU ..);have hsz:(bs m).size=m.length:=by show (bs m).data.size=_;simp [bs]
  have h1:l.length+(bs m).size<=maxLen:=by rw [hsz];unfold maxLen;omega
  have h2:l.length+(bs m).size<=140737488355328:=by rw [hsz];exact hb
  obtain ⟨v',w',hr,hown',hg,_⟩:=Lib.run_append_own_string (P:=X.P) (w:=w) 0 T ty o.type E i ht hu hi hiz hsi hib v l.length _ hown (bs m) h1 h2 (Nat.zero_le _);obtain ⟨hblk,hdr⟩:=tp_ 0 T ty o.type E i ht hu hi hiz hsi hib hown (bs m) h1 h2 hr;rw [hsz,t8_,<-List.flatMap_append,<-iK]at hown';have hbk: ∀b,v'.ownBlock=some b->v.ownBlock=some b\/w.heap.size<=b:=λb hb=>by
    rcases hblk with h|h
    · exact .inl (h▸hb)
    rw [h]at hb;cases hb;exact .inr (Nat.le_refl _)
  have hR:Reach u0 C0 τ0 σ w' (ε E 1 jo v' (l++m)::F):=
    hw.F7 (Value.ownBlock v) (Value.ownBlock v') rfl rfl hg.os hg.tape hg.output hg.size hdr (λq hq hne=>hg.block q hq (λhx=>hne hx.symm)) ⟨hown',λq hq=>by
      obtain ⟨z,_,hz⟩:=List.mem_flatMap.1 hq;exact yf_ z q hz,by rw [iK];omega⟩ hbk
  obtain ⟨av,cv,rfl,_,_⟩:=isSl_row hown';refine Oper.wG (w':=w') (v:= .slice av (l++m).length cv) ?_ (hK _ _ _ _ _ (k av cv) hR (xR ha hd hn _));rw [ha.eval'];simp [execOp,ho,resolve,invoke,builtin,hx,hy,hr]
def Res.any (o : Option Nat) : Res where
  bl:=o.toList
  holds w:= ∀b,o=some b->b<w.heap.size
  lt w b hb h:=h b (by simpa using hb)
  keep w w' hb h:=λb e=>by
    have h1:=h b e;have h2:=hb b (by rw [e];simp);rw [Array.getElem?_eq_getElem h1]at h2;exact (Array.getElem?_eq_some_iff.1 h2).1
def SDat(v:Value)(l:List UInt8)(q:Option Addr):Prop:=l≠[]-> ∃g c,v= .slice (some ⟨g,0,none⟩) l.length c/\q=some ⟨g,0,none⟩
theorem OpOk.dg_{X:Ctx}{e:Env}{σ:aj}{F:List Res}{o:Oper}{x:Operand}{K:Env->aj->List Res->Prop}{T E d D:Nat}{v:Value}{l:List UInt8}
    (ho:o.op= .call {callee:= .builtin .unsafeSliceData,args:= #[x],argTypes:= #[T]}) (hD:o.type=D) (hp:X.P.underlying D=some (.pointer E)) (hd:o.dst=some d) (hn:Nat.blt d X.n=true) (hx:ev e x=v)
    (k: ∀q,SDat v l q->K (upd e d (.pointer q)) σ (ε E 1 jo v l::F)):OpOk X o e σ (ε E 1 jo v l::F) K:=by
  subst hD;intro u0 C0 τ0 w a hw ha K' Q hK;obtain ⟨hown,hone,hbg⟩:=hw.holds _ (iU ..);rcases id hown.2 with ⟨rfl,hl⟩|⟨g,cap,cur,rfl,_,hg,hnc,hcm,hcs,htake⟩
  · have hl0:l=[]:=FV hl
    have hr:=Lib.run_unsafeSliceData_nil (P:=X.P) (w:=w) #[T] o.type 0 0;refine Oper.wG (w':=w) (v:= .pointer none) ?_ (hK _ _ _ _ _ (k none (λh=>absurd hl0 h)) hw (xR ha hd hn _));rw [ha.eval'];simp [execOp,ho,resolve,invoke,builtin,hx,hr]
  by_cases hc:cap=0
  · subst hc
    have hl0:l=[]:=FV (by omega);have hsh:w.shape? g=some (E,cur.size):=by simp [World.shape?,hg]
    have hr:=Lib.run_unsafeSliceData_zero (P:=X.P) (w:=w) #[T] o.type E hp ⟨g,0,none⟩ l.length (E,cur.size) hsh;have hR:Reach u0 C0 τ0 σ (w.alloc (.view ⟨g,0,none⟩ E)) (Res.any none::ε E 1 jo (.slice (some ⟨g,0,none⟩) l.length 0) l::F):=
      hw.OT none rfl rfl rfl rfl (by simp) (Nat.le_refl _) (λk hk=>Ol w _ k hk) (λb hb=>by cases hb) (λb hb=>by cases hb)
    refine Oper.wG (w':=w.alloc (.view ⟨g,0,none⟩ E)) (v:= .pointer (some ⟨w.heap.size,0,none⟩)) ?_ (hK _ _ _ _ _ (k _ (λh=>absurd hl0 h)) (hR.sub (List.sublist_cons_self _ _)) (xR ha hd hn _));rw [ha.eval'];simp [execOp,ho,resolve,invoke,builtin,hx,hr]
  have hr:=Lib.run_unsafeSliceData_row (P:=X.P) (w:=w) #[T] o.type ⟨g,0,none⟩ l.length cap hc;refine Oper.wG (w':=w) (v:= .pointer (some ⟨g,0,none⟩)) ?_ (hK _ _ _ _ _ (k _ (λ_=>⟨g,cap,rfl,rfl⟩)) hw (xR ha hd hn _));rw [ha.eval'];simp [execOp,ho,resolve,invoke,builtin,hx,hr]
theorem OpOk.unsStr{X:Ctx}{e:Env}{σ:aj}{F:List Res}{o:Oper}{x y:Operand}{K:Env->aj->List Res->Prop}{T I E d:Nat}{v:Value}{l:List UInt8}{q:Option Addr}
    (ho:o.op= .call {callee:= .builtin .unsafeString,args:= #[x,y],argTypes:= #[T,I]}) (hp:X.P.underlying T=some (.pointer E)) (hcE:X.P.cellsOf E=1) (hd:o.dst=some d) (hn:Nat.blt d X.n=true) (hx:ev e x= .pointer q) (hq:SDat v l q) (hy:ev e y= .int .i64 (l.length:Nat))
    (k:K (upd e d (.string (bs l))) σ F):OpOk X o e σ (ε E 1 jo v l::F) K:=by
  intro u0 C0 τ0 w a hw ha K' Q hK;obtain ⟨hown,hone,hbg⟩:=hw.holds _ (iU ..)
  by_cases hl:l=[]
  · subst hl
    have hr:=Lib.run_unsafeString_none (P:=X.P) (w:=w) T I o.type q;refine Oper.wG (w':=w) (v:= .string (bs [])) ?_ (hK _ _ _ _ _ k (hw.sub (List.sublist_cons_self _ _)) (xR ha hd hn _));rw [ha.eval'];simp [execOp,ho,resolve,invoke,builtin,hx,hy,hr];rfl
  obtain ⟨g,c,rfl,rfl⟩:=hq hl;rcases id hown.2 with ⟨hv,_⟩|⟨g',cap,cur,hv,_,hg,hnc,hcm,hcs,htake⟩
  · cases hv
  cases hv;have hsh:w.shape? g=some (E,cur.size):=by simp [World.shape?,hg]
  have hr:=Lib.run_unsafeString_row (P:=X.P) (w:=w) T I o.type E hp hcE g cur.size hsh l hl (by omega) (by unfold maxLen at hcm;omega) (λj z hz=>by
    refine hown.cells (g:=g) rfl j (.int .u8 z.toNat) ?_;have hj:j<l.length:=(List.getElem?_eq_some_iff.1 hz).1;rw [qx_ (enc:=jo) (λ_=>rfl) (0:UInt8) l j hj];have h4:=getD_some l hj (0:UInt8);rw [hz]at h4;rw [<-Option.some.inj h4];rfl)
  have hln: ¬ l.length=0:=λh=>hl (FV h);have hfz: ∀b,b≠g->(w.freeze ⟨g,0,none⟩ l.length).heap[b]? =w.heap[b]? :=λb hb=>by
    unfold World.freeze;rw [if_neg hln];simp only [Array.getElem?_modify];rw [if_neg (λh=>hb h.symm)]
  have hsz:(w.freeze ⟨g,0,none⟩ l.length).heap.size=w.heap.size:=by
    unfold World.freeze;rw [if_neg hln];simp
  have hos:(w.freeze ⟨g,0,none⟩ l.length).os=w.os/\(w.freeze ⟨g,0,none⟩ l.length).tape=w.tape/\(w.freeze ⟨g,0,none⟩ l.length).output=w.output/\(w.freeze ⟨g,0,none⟩ l.length).drawn=w.drawn:=by
    unfold World.freeze;rw [if_neg hln];exact ⟨rfl,rfl,rfl,rfl⟩
  have hgl:g<w.heap.size:=(Array.getElem?_eq_some_iff.1 hg).1;have hR:Reach u0 C0 τ0 σ (w.freeze ⟨g,0,none⟩ l.length) (Res.any (some g)::F):=
    hw.F7 (some g) (some g) rfl rfl hos.1 hos.2.1 hos.2.2.1 (by rw [hsz];exact Nat.le_refl _) (by rw [hos.2.2.2];exact Nat.le_refl _) (λk hk hne=>hfz k (λh=>hne (by rw [h]))) (λb hb=>by cases hb;rw [hsz];exact hgl) (λb hb=> .inl hb)
  refine Oper.wG (w':=w.freeze ⟨g,0,none⟩ l.length) (v:= .string (bs l)) ?_ (hK _ _ _ _ _ k (hR.sub (List.sublist_cons_self _ _)) (xR ha hd hn _));rw [ha.eval'];simp [execOp,ho,resolve,invoke,builtin,hx,hy,hr];rfl
end Go.E
end

noncomputable section
namespace Go.Proofs.YtcfgkcfcddfccaaGreatDoor
open Go Go.E Go.E.OpVal Go.E.OpOk Go.Proofs.Tryz
open List (replicate)
theorem ag119:aggOf Tryz.prog 119=some false:=by kernel_rfl
theorem ag53:aggOf Tryz.prog 53=some false:=by kernel_rfl
theorem KN:aggOf Tryz.prog 54=some false:=by kernel_rfl
theorem ag56:aggOf Tryz.prog 56=some true:=by kernel_rfl
theorem ag84:aggOf Tryz.prog 84=some false:=by kernel_rfl
theorem ce5:Tryz.prog.cellsOf 5=1:=by kernel_rfl
theorem fo121_0:foOf Tryz.prog 121 0=some 0:=by kernel_rfl
theorem fo121_1:foOf Tryz.prog 121 1=some 1:=by kernel_rfl
theorem r5_:foOf Tryz.prog 56 0=some 0:=by kernel_rfl
theorem sa_:foOf Tryz.prog 56 1=some 1:=by kernel_rfl
theorem rz_:foOf Tryz.prog 56 2=some 2:=by kernel_rfl
theorem r8_:foOf Tryz.prog 56 3=some 3:=by kernel_rfl
theorem r9_:foOf Tryz.prog 56 4=some 4:=by kernel_rfl
theorem pf140:plainF Tryz.prog 140=true:=by kernel_rfl
theorem UE:plainF Tryz.prog 141=true:=by kernel_rfl
theorem Yb:plainF Tryz.prog 78=true:=by kernel_rfl
theorem Qa:plainF Tryz.prog 79=true:=by kernel_rfl
theorem Ya:plainF Tryz.prog 80=true:=by kernel_rfl
theorem Ub:szOf Tryz.prog 119=some 1:=by kernel_rfl
theorem aaq_:szOf Tryz.prog 121=some 2:=by kernel_rfl
theorem JB:szOf Tryz.prog 54=some 1:=by kernel_rfl
theorem TT:szOf Tryz.prog 56=some 5:=by kernel_rfl
theorem sz84:szOf Tryz.prog 84=some 1:=by kernel_rfl
theorem EU:szOf Tryz.prog 9=some 1:=by kernel_rfl
theorem ze121:zeroOf Tryz.prog 121=some (.agg #[.pointer none,aW]):=by kernel_rfl
def Jn_(aI:Nat):Option ((Nat)⊕(Bool)):=
 nxt (aI+1)
def Ky_(x0:ah)(x2:Int)(x1:bC)(aI:Nat):Option ((Nat)⊕(Bool)):=
 iteO (decide ((aI:Int)<(x0.length:Int))) (iteO (decide ((nth x0 aI 0)<(-1))) (fin (some false)) (iteO (decide (x2<=(nth x0 aI 0))) (fin (some false)) (grd (aI<x1.length) (iteO (decide (4096<((nth x1 aI []).length:Int))) (fin (some false)) (iteO (decide ((nth x0 aI 0)=(-1))) (grd (aI<x1.length) (iteO (decide ((nth x1 aI [])≠([]:T_1))) (fin (some false)) (Jn_ aI))) (Jn_ aI)))))) (fin (some true))
def Kq_(x0:ah)(x1:bC)(x2:Int):Option (Bool):=
 iteO (decide ((x0.length:Int)≠256)) (some false) (iteO (decide ((x1.length:Int)≠256)) (some false) (iter (λq:Nat=>Ky_ x0 x2 x1 q) 0))
theorem M0_{σ:aj}{x0:ah}{x1:bC}{x2:Int}(aC:dH σ ak aB aA x0)(bn:dH σ bF bY bW x1){r:Bool}(hh:Kq_ x0 x1 x2=some r):
  Con prog 140 #[.slice aB x0.length aA,.slice bY x1.length bW,.int .i64 x2] σ [] (jq (.bool r) σ):=by
 dsimp only [Kq_]at hh;refine cM 51 Tryz.func140 (λw0=> ?_);refine R11 ?_;refine δ 12 z (λgW=> ?_) (λgW=> ?_)
 ·obtain ⟨gW,hh⟩:=iT gW hh;refine R10 ?_;refine η ?_;obtain rfl:=so hh;exact rq [6] ⟨z,z,z⟩
 obtain ⟨gW,hh⟩:=iF gW hh;refine R5 ?_;refine π z hh (λwC hh=> ?_) (λwC hh=> ?_)
 ·refine R4 ?_;refine η ?_;obtain rfl:=so hh;exact rq [6] ⟨z,z,z⟩
 refine R9 ?_;refine TC.lp hh () (rgs [(6,3),(19,32)]) (λaI _=>([(19,.int .i64 (aI:Int))],[])) (θ 0 z) ?_;rintro aI _ _ z1 hh hR1;dsimp only [Ky_]at hh ⊢;refine R5 ?_;refine π z hh (λfM hh=> ?_) (λfM hh=> ?_)
 ·refine R1 ?_;refine TC.cutG (α:=(Unit)×(Unit)) (rgs [(6,3),(21,29)]) (λg=>[]) (λg=>[]) (λg=>σ) (λg=>Jn_ aI=some z1) ?_ (λg j hg=> ?_)
  ·refine R14 ?_;refine δ 26 z (λgq=> ?_) (λgq=> ?_)
   ·obtain ⟨gq,hh⟩:=iT gq hh;refine R29 ?_;refine η ?_;replace hh:=bJ hR1 hh;obtain rfl:=so hh;exact rq [6] ⟨z,z,z⟩
   obtain ⟨gq,hh⟩:=iF gq hh;refine R5 ?_;refine δ 31 z (λiG=> ?_) (λiG=> ?_)
   ·obtain ⟨iG,hh⟩:=iT iG hh;refine R24 ?_;refine η ?_;replace hh:=bJ hR1 hh;obtain rfl:=so hh;exact rq [6] ⟨z,z,z⟩
   obtain ⟨iG,hh⟩:=iF iG hh;refine R2 ?_;obtain ⟨u30,hh⟩:=gd hh;refine R2 ?_;refine TL.g z (xq z kR z) (R3 ?_);refine δ 39 z (λiE=> ?_) (λiE=> ?_)
   ·obtain ⟨iE,hh⟩:=iT iE hh;refine R16 ?_;refine η ?_;replace hh:=bJ hR1 hh;obtain rfl:=so hh;exact rq [6] ⟨z,z,z⟩
   obtain ⟨iE,hh⟩:=iF iE hh;refine R3 ?_;refine δ 42 z (λfD=> ?_) (λfD=> ?_)
   ·obtain ⟨fD,hh⟩:=iT fD hh;refine R2 ?_;obtain ⟨PW,hh⟩:=gd hh;refine R2 ?_;refine TL.g z (c6_ z z z) (R3 ?_);refine π z hh (λgZ hh=> ?_) (λgZ hh=> ?_)
    ·refine R4 ?_;refine η ?_;replace hh:=bJ hR1 hh;obtain rfl:=so hh;exact rq [6] ⟨z,z,z⟩
    refine R1 ?_;exact cf ((),()) hh (θ 0 z)
   obtain ⟨fD,hh⟩:=iF fD hh;refine R10 ?_;exact cf ((),()) hh (θ 0 z)
  obtain ⟨_,_⟩:=g;have hh:=hg;clear hg
  try dsimp only
  dsimp only [Jn_]at hh;refine R4 ?_;exact nxq hR1 hh () (θ 0 z)
 refine R1 ?_;replace hh:=bJ hR1 hh;refine R5 ?_;refine η ?_;obtain rfl:=so hh;exact rq [6] ⟨z,z,z⟩
def Dx_(aJ:Nat)(x0:Seq):Option ((Nat)⊕(Int)):=
 grd (aJ<x0.outs.length) (bnd (Kq_ (nth x0.next aJ []) (nth x0.outs aJ []) (x0.next.length:Int)) (λv85=>iteO (!v85) (fin (some 1)) (nxt (aJ+1))))
def G4_(x0:Seq)(aJ:Nat):Option ((Nat)⊕(Int)):=
 iteO (decide ((aJ:Int)<(x0.next.length:Int))) (grd (aJ<x0.tail.length) (iteO (decide (4096<((nth x0.tail aJ []).length:Int))) (fin (some 1)) (grd (aJ<x0.fin.length) (iteO (!(nth x0.fin aJ false)) (grd (aJ<x0.tail.length) (iteO (decide ((nth x0.tail aJ [])≠([]:T_1))) (fin (some 1)) (Dx_ aJ x0))) (Dx_ aJ x0))))) (fin (some 0))
def Dz_(x0:Seq):Option (Int):=
 iter (λq:Nat=>G4_ x0 q) 0
def Ew_(x0:Seq):Option (Int):=
 iteO (decide (1024<(x0.next.length:Int))) (some 1) (iteO (decide ((x0.outs.length:Int)≠(x0.next.length:Int))) (some 1) (iteO (decide ((x0.fin.length:Int)≠(x0.next.length:Int))) (some 1) (iteO (decide ((x0.tail.length:Int)≠(x0.next.length:Int))) (some 1) (iteO (decide (4096<(x0.front.length:Int))) (some 1) (iteO (decide ((x0.next.length:Int)=0)) (iteO (decide (x0.front≠([]:T_1))) (some 1) (Dz_ x0)) (Dz_ x0))))))
theorem I4_{σ:aj}{x0:Seq}(aC:RZ σ (aF 1 ak aT) (.slice aB x0.next.length aA) x0.next)(aV:RZ σ (aF 1 bF eu) (.slice ay x0.outs.length aH) x0.outs)(aS:dH σ dG aG au x0.fin)(dA:dH σ bF dh dN x0.tail){r:Int}(hh:Ew_ x0=some r):
  Con prog 78 #[.agg (kN x0 aB aA ay aH aG au dh dN)] σ [] (jq (.int .i64 r) σ):=by
 dsimp only [Ew_]at hh;refine cM 85 Tryz.func78 (λw0=> ?_);refine R2 ?_;refine TL.bx (λaP=> ?_);refine R15 ?_;refine δ 10 z (λnC=> ?_) (λnC=> ?_)
 ·obtain ⟨nC,hh⟩:=iT nC hh;refine R26 ?_;refine Ψ 0 ?_;obtain rfl:=so hh;exact rq [2] ⟨z,z,z⟩
 obtain ⟨nC,hh⟩:=iF nC hh;refine R7 ?_;refine δ 17 z (λgV=> ?_) (λgV=> ?_)
 ·obtain ⟨gV,hh⟩:=iT gV hh;refine R19 ?_;refine Ψ 0 ?_;obtain rfl:=so hh;exact rq [2] ⟨z,z,z⟩
 obtain ⟨gV,hh⟩:=iF gV hh;refine R7 ?_;refine δ 24 z (λdL=> ?_) (λdL=> ?_)
 ·obtain ⟨dL,hh⟩:=iT dL hh;refine R12 ?_;refine Ψ 0 ?_;obtain rfl:=so hh;exact rq [2] ⟨z,z,z⟩
 obtain ⟨dL,hh⟩:=iF dL hh;refine R7 ?_;refine π z hh (λfM hh=> ?_) (λfM hh=> ?_)
 ·refine R4 ?_;refine Ψ 0 ?_;obtain rfl:=so hh;exact rq [2] ⟨z,z,z⟩
 refine R1 ?_;refine TC.cutG (α:=(Unit)×(Unit)) (rgs [(2,1),(31,13)]) (λg=>[]) (λg=>[ω aP (kN x0 aB aA ay aH aG au dh dN) 56]) (λg=>σ) (λg=>Dz_ x0=some r) ?_ (λg j hg=> ?_)
 ·refine R4 ?_;refine ι z (xq z kR z) (R2 ?_);refine δ 35 z (λgq=> ?_) (λgq=> ?_)
  ·obtain ⟨gq,hh⟩:=iT gq hh;refine R14 ?_;refine Ψ 0 ?_;obtain rfl:=so hh;exact rq [2] ⟨z,z,z⟩
  obtain ⟨gq,hh⟩:=iF gq hh;refine R3 ?_;refine δ 38 z (λiG=> ?_) (λiG=> ?_)
  ·obtain ⟨iG,hh⟩:=iT iG hh;refine R2 ?_;refine TL.g z (c6_ z z z) (R3 ?_);refine π z hh (λiE hh=> ?_) (λiE hh=> ?_)
   ·refine R4 ?_;refine Ψ 0 ?_;obtain rfl:=so hh;exact rq [2] ⟨z,z,z⟩
   refine R1 ?_;exact cf ((),()) hh (θ 1 z)
  obtain ⟨iG,hh⟩:=iF iG hh;refine R8 ?_;exact cf ((),()) hh (θ 1 z)
 obtain ⟨_,_⟩:=g;have hh:=hg;clear hg
 try dsimp only
 dsimp only [Dz_]at hh;refine R7 ?_;refine TC.lp hh () (rgs [(2,1),(4,1),(45,40)]) (λaJ _=>([(45,.int .i64 (aJ:Int))],[ω aP (kN x0 aB aA ay aH aG au dh dN) 56])) (θ 1 z) ?_;rintro aJ _ _ z1 hh hR1;dsimp only [G4_]at hh ⊢;refine R5 ?_;refine π z hh (λwB hh=> ?_) (λwB hh=> ?_)
 ·refine R8 ?_;refine TC.cutG (α:=(Unit)×(Unit)) (rgs [(2,1),(48,23)]) (λg=>[]) (λg=>[ω aP (kN x0 aB aA ay aH aG au dh dN) 56]) (λg=>σ) (λg=>Dx_ aJ x0=some z1) ?_ (λg j hg=> ?_)
  ·refine R5 ?_;obtain ⟨u53,hh⟩:=gd hh;refine R2 ?_;refine ι z (xq z kR z) (R2 ?_);refine δ 55 z (λjI=> ?_) (λjI=> ?_)
   ·obtain ⟨jI,hh⟩:=iT jI hh;refine R21 ?_;refine Ψ 0 ?_;replace hh:=bJ hR1 hh;obtain rfl:=so hh;exact rq [2] ⟨z,z,z⟩
   obtain ⟨jI,hh⟩:=iF jI hh;refine R3 ?_;obtain ⟨u61,hh⟩:=gd hh;refine R4 ?_;refine δ 62 z (λt_=> ?_) (λt_=> ?_)
   ·replace hh:=uZ t_ hh;refine R3 ?_;obtain ⟨u68,hh⟩:=gd hh;refine R2 ?_;refine TL.g z (c6_ z z z) (R3 ?_);refine π z hh (λh116 hh=> ?_) (λh116 hh=> ?_)
    ·refine R4 ?_;refine Ψ 0 ?_;replace hh:=bJ hR1 hh;obtain rfl:=so hh;exact rq [2] ⟨z,z,z⟩
    refine R1 ?_;exact cf ((),()) hh (θ 1 z)
   replace hh:=u_ t_ hh;refine R11 ?_;exact cf ((),()) hh (θ 1 z)
  obtain ⟨_,_⟩:=g;have hh:=hg;clear hg
  try dsimp only
  dsimp only [Dx_]at hh;refine TC.seq ?_;obtain ⟨XV,hh⟩:=gd hh;obtain ⟨v85,u85,hh⟩:=bg hh;refine TC.dw [] (ν 0 z fL z (χ 1 z lL z (ν 2 z mI z (χ 3 z iN z ?_))));obtain ⟨Bl,zA,ND⟩:=RZ.seg aC aJ (by omega);replace zA:dH _ ak Bl.1 Bl.2 (nth x0.next aJ []):=zA;refine χ 4 z (OpVal.of (qw z pV z ND z) (v':= .slice Bl.1 ((nth x0.next aJ []).length) Bl.2) z) z (ν 5 z fL z (χ 6 z lL z (ν 7 z mI z (χ 8 z iN z ?_))));obtain ⟨QN,Nu,hg120⟩:=RZ.seg aV aJ (by omega);replace Nu:dH _ bF QN.1 QN.2 (nth x0.outs aJ []):=Nu;refine χ 9 z (OpVal.of (qw z KN z hg120 z) (v':= .slice QN.1 ((nth x0.outs aJ []).length) QN.2) z) z (ν 10 z mI z (υ 11 z (gI (M0_ zA Nu u85) z z pf140 z z z (k0 ?_))));refine ν 12 z (OpVal.not z z) z (R1 ?_);refine TC.cB z hh (λtY hh=> ?_) (λtY hh=> ?_)
  ·refine R4 ?_;refine Ψ 0 ?_;replace hh:=bJ hR1 hh;obtain rfl:=so hh;exact rq [2] ⟨z,z,z⟩
  refine R5 ?_;exact nxq hR1 hh () (θ 1 z)
 refine R1 ?_;replace hh:=bJ hR1 hh;refine R5 ?_;refine Ψ 0 ?_;obtain rfl:=so hh;exact rq [2] ⟨z,z,z⟩
def lx_(x0:SB):Option (SB):=
 some (⟨x0.buf⟩:SB)
theorem pd_{σ:aj}{x0:SB}{r:SB}(hh:lx_ x0=some r):
  Con prog 141 #[loc aZ 0] σ [ω aZ #[yH false aZ,.slice ay x0.buf.length au] 121,dO 5 jo ay au x0.buf] (λv σ' H'=> ∃(KJ:Bool), ∃Ez co3,v= .tuple #[]/\σ=σ'/\H'=[ω aZ #[yH KJ aZ,.slice Ez r.buf.length co3] 121,dO 5 jo Ez co3 r.buf]):=by
 dsimp only [lx_]at hh;refine cM 20 Tryz.func141 (λw0=> ?_);refine R6 ?_;refine ι z (eqlNil z underlying119 z z) (R5 ?_);refine ι z (cvtUns z underlying119 underlying244 aaq_ (by decide) z (i:=0) z z (by simp)) (ι z (noEsc z z Tryz.func187 (by kernel_rfl) (by kernel_rfl) (by kernel_rfl) (by kernel_rfl) z) (ι z (cvtPtr z underlying244 underlying119 aaq_ z (i:=0) z z (by kernel_rfl)) (R2 ?_)));refine φ z (cm_ z Ub z z z z z ?_);refine TL.nil ?_;obtain rfl:=so hh;exact RetOk.mk' (rs:=[]) [ω aZ #[yH true aZ,.slice ay x0.buf.length au] 121,dO 5 jo ay au x0.buf] z (.inr z) RVs.nil (List.sublist_append_left _ _) ⟨true,ay,au,z,z,z⟩
def pw_(x0:SB):Option (SB):=
 some (⟨x0.buf⟩:SB)
theorem o8_{σ:aj}{x0:SB}{r:SB}(hh:pw_ x0=some r):
  Con prog 141 #[loc aZ 0] σ [ω aZ #[yH true aZ,.slice ay x0.buf.length au] 121,dO 5 jo ay au x0.buf] (λv σ' H'=> ∃(KJ:Bool), ∃Ez co3,v= .tuple #[]/\σ=σ'/\H'=[ω aZ #[yH KJ aZ,.slice Ez r.buf.length co3] 121,dO 5 jo Ez co3 r.buf]):=by
 dsimp only [pw_]at hh;refine cM 20 Tryz.func141 (λw0=> ?_);refine R6 ?_;refine ι z (eqlNil z underlying119 z z) (R9 ?_);refine ι z (ea_ z underlying119 aaq_ z z) (R3 ?_);obtain rfl:=so hh;exact ry
def ny_(x0:SB):Option SB:=lx_ x0
theorem lp_{σ:aj}{x0:SB}{Bg:Bool}{r:SB}(hh:ny_ x0=some r):
  Con prog 141 #[loc aZ 0] σ [ω aZ #[yH Bg aZ,.slice aG x0.buf.length dN] 121,dO 5 jo aG dN x0.buf] (λv σ' H'=> ∃(KJ:Bool), ∃Ez co3,v= .tuple #[]/\σ=σ'/\H'=[ω aZ #[yH KJ aZ,.slice Ez r.buf.length co3] 121,dO 5 jo Ez co3 r.buf]):=by
 cases Bg
 ·exact pd_ hh
 exact o8_ hh
def Df(x0:SB)(x1:T_1):Option (Int×Unit×SB):=
 grd (x1.length<=281474976710656) (bnd (ny_ (⟨x0.buf⟩:SB)) (λv4=>grd (v4.buf.length+x1.length<=140737488355328) (some ((x1.length:Int),(),(⟨(v4.buf++x1)⟩:SB)))))
theorem Ri{σ:aj}{x0:SB}{Bg:Bool}{x1:T_1}{r:Int×Unit×SB}(hh:Df x0 x1=some r):
  Con prog 79 #[loc aZ 0,.string (bs x1)] σ [ω aZ #[yH Bg aZ,.slice aG x0.buf.length dN] 121,dO 5 jo aG dN x0.buf] (λv σ' H'=> ∃(KJ:Bool), ∃Ez co3,v= .tuple #[.int .i64 r.1,.nilIface]/\σ=σ'/\H'=[ω aZ #[yH KJ aZ,.slice Ez r.2.2.buf.length co3] 121,dO 5 jo Ez co3 r.2.2.buf]):=by
 dsimp only [Df]at hh;refine cM 19 Tryz.func79 (λw0=> ?_);obtain ⟨x1b,hh⟩:=gd hh;refine R3 ?_;refine ι z (OpVal.mv (.inr z)) (R4 ?_);refine κ 1 (κ 1 ?_);obtain ⟨v4,u4,hh⟩:=bg hh;refine φ z (OpOk.call (lp_ u4) z z UE z z z z ?_);rintro _ _ _ Nc ⟨u104_1,a104_2,c104_3,rfl,rfl,rfl⟩;refine R9 ?_;refine κ 1 ?_;obtain ⟨u11,hh⟩:=gd hh;refine φ z (c7_ z underlying84 kR sz5 by5 ze5 z z z z u11 (λkP c107=> ?_));refine R2 ?_;refine κ 1 (R5 ?_);refine ι z (xq z kR z) (TL.i z z (ι z (OpVal.mv (.inr z)) (R1 ?_)));refine η ?_;obtain rfl:=so hh;exact rz
def G7(x0:SB)(x1:UInt8):Option (Unit×SB):=
 bnd (ny_ (⟨x0.buf⟩:SB)) (λv3=>grd ((v3.buf.length+[x1].length) * 1<=140737488355328) (some ((),(⟨(v3.buf++[x1])⟩:SB))))
theorem ia_{σ:aj}{x0:SB}{Bg:Bool}{x1:UInt8}{r:Unit×SB}(hh:G7 x0 x1=some r):
  Con prog 186 #[loc aZ 0,.int .u8 (x1.toNat:Int)] σ [ω aZ #[yH Bg aZ,.slice aG x0.buf.length dN] 121,dO 5 jo aG dN x0.buf] (λv σ' H'=> ∃(KJ:Bool), ∃Ez co3,v= .nilIface/\σ=σ'/\H'=[ω aZ #[yH KJ aZ,.slice Ez r.2.buf.length co3] 121,dO 5 jo Ez co3 r.2.buf]):=by
 dsimp only [G7]at hh;refine cM 17 Tryz.func186 (λw0=> ?_);refine R2 ?_;refine ι z (OpVal.mv (.inr z)) (R4 ?_);refine κ 1 (κ 1 ?_);obtain ⟨v3,u3,hh⟩:=bg hh;refine φ z (OpOk.call (lp_ u3) z z UE z z z z ?_);rintro _ _ _ Nc ⟨u104_1,a104_2,c104_3,rfl,rfl,rfl⟩;refine R9 ?_;refine φ z (jc (enc:=jo) [x1] (λkP c107=> ?_));refine κ 2 ?_;obtain ⟨u11,hh⟩:=gd hh;refine φ z (apF (.inr ⟨_,0,z⟩) u11 (λa109 F5=> ?_));refine R2 ?_;refine κ 2 (R4 ?_);refine ι z (OpVal.mv (.inr z)) (R1 ?_);refine Θ (ψ [1,1] 2) (η ?_);obtain rfl:=so hh;exact rz
def Yt(x0:SB):Option (T_1):=
 some x0.buf
theorem km_{σ:aj}{x0:SB}{Bg:Bool}{r:T_1}(hh:Yt x0=some r):
  Con prog 80 #[loc aZ 0] σ [ω aZ #[yH Bg aZ,.slice aG x0.buf.length dN] 121,dO 5 jo aG dN x0.buf] (λv σ' H'=>v= .string (bs r)/\σ=σ'/\H'=[]):=by
 dsimp only [Yt]at hh;refine cM 14 Tryz.func80 (λw0=> ?_);refine R5 ?_;refine TC.OV (Hr:=[ω aZ #[yH Bg aZ,.slice aG x0.buf.length dN] 121]) (λr hr=>oU [0] z hr) [] (by kernel_rfl) (ν 0 z mL z (ν 1 z (Ba z z) z (ν 2 z fL z (χ 3 z lL z (ν 5 z mL z (ν 6 z (Ba z z) z (ν 7 z fL z (χ 8 z lL z (χ 9 z lC z (Ω 1 (υ 4 z (dg_ z z underlying203 z z z (λsq105 sh106=>(k1 ?_))))))))))))));refine υ 10 z (unsStr z underlying203 ce5 z z z sh106 z (k0 ?_));refine ν 11 z (IJ (.inr z) z) z (R1 ?_);refine Ψ 0 ?_;obtain rfl:=so hh;exact rq [2] ⟨z,z,z⟩
def Kb_(x1:T_1)(x0:Seq)(fA:T_1)(iy:Int)(bV:Nat):Option ((T_1×Int×Nat)⊕(T_1×Int×Bool×Int)):=
 iteO (decide ((bV:Int)<(x1.length:Int))) (grd (0<=iy/\iy<(x0.next.length:Int)) (grd ((nth x1 bV 0).toNat<(nth x0.next iy.toNat []).length) (iteO (decide ((nth (nth x0.next iy.toNat []) ((nth x1 bV 0).toNat) 0)<0)) (fin (some (([]:T_1),(bV:Int),false,0))) (grd (0<=iy/\iy<(x0.outs.length:Int)) (grd ((nth x1 bV 0).toNat<(nth x0.outs iy.toNat []).length) (bnd (Df (⟨fA⟩:SB) (nth (nth x0.outs iy.toNat []) ((nth x1 bV 0).toNat) [])) (λv60=>nxt (v60.2.2.buf,(nth (nth x0.next iy.toNat []) ((nth x1 bV 0).toNat) 0),(bV+1))))))))) (fin (grd (0<=iy/\iy<(x0.fin.length:Int)) (iteO (!(nth x0.fin iy.toNat false)) (some (([]:T_1),(x1.length:Int),false,0)) (grd (0<=iy/\iy<(x0.tail.length:Int)) (bnd (Df (⟨fA⟩:SB) (nth x0.tail iy.toNat [])) (λv82=>bnd (Yt (⟨v82.2.2.buf⟩:SB)) (λv83=>some (v83,(x1.length:Int),true,0))))))))
def Gs_(x0:Seq)(x1:T_1):Option (T_1×Int×Bool×Int):=
 grd (x1.length<=281474976710656) (bnd (Ew_ x0) (λv7=>iteO (decide (v7≠0)) (some (([]:T_1),0,false,1)) (iteO (decide ((x0.next.length:Int)=0)) (some (([]:T_1),0,false,0)) (bnd (Df (⟨([]:T_1)⟩:SB) x0.front) (λv24=>iter (λq:T_1×Int×Nat=>Kb_ x1 x0 q.1 q.2.1 q.2.2) (v24.2.2.buf,0,0))))))
theorem Mo_{σ:aj}{x0:Seq}{x1:T_1}(aC:RZ σ (aF 1 ak aT) (.slice aB x0.next.length aA) x0.next)(aV:RZ σ (aF 1 bF eu) (.slice ay x0.outs.length aH) x0.outs)(aS:dH σ dG aG au x0.fin)(dA:dH σ bF dh dN x0.tail){r:T_1×Int×Bool×Int}(hh:Gs_ x0 x1=some r):
  Con prog 28 #[.agg (kN x0 aB aA ay aH aG au dh dN),.string (bs x1)] σ [] (jq (.tuple #[.string (bs r.1),.int .i64 r.2.1,.bool r.2.2.1,.int .i64 r.2.2.2]) σ):=by
 dsimp only [Gs_]at hh;refine cM 70 Tryz.func28 (λw0=> ?_);obtain ⟨x1b,hh⟩:=gd hh;refine R2 ?_;refine TL.bx (λaP=> ?_);refine R9 ?_;obtain ⟨v7,u7,hh⟩:=bg hh;refine φ z (gI (I4_ (x0:=x0) aC aV aS dA u7) z z Yb z z z ?_);refine R2 ?_;refine π z hh (λnC hh=> ?_) (λnC hh=> ?_)
 ·refine R7 ?_;refine Ψ 0 ?_;obtain rfl:=so hh;exact rq [4,5,6,7] ⟨z,z,z⟩
 refine R9 ?_;refine π z hh (λgV hh=> ?_) (λgV hh=> ?_)
 ·refine R7 ?_;refine Ψ 0 ?_;obtain rfl:=so hh;exact rq [4,5,6,7] ⟨z,z,z⟩
 refine R3 ?_;refine TL.al (λiq=> ?_);refine TL.asH (H':=[ω iq #[yH false iq,aW] 121,ω aP (kN x0 aB aA ay aH aG au dh dN) 56]) z (R5 ?_);refine TL.nilS 5 1 jo (κ 1 ?_);obtain ⟨v24,u24,hh⟩:=bg hh;refine φ z (OpOk.call (Ri u24) z z Qa z z z z ?_);rintro _ _ _ kK ⟨u108_1,a108_2,c108_3,rfl,rfl,rfl⟩;refine R9 ?_;refine ι z (xq z kR z) (R3 ?_);refine TC.lp hh (u108_1,a108_2,c108_3) (rgs [(4,4),(9,3),(24,29)]) (λ⟨fA,iy,bV⟩ ⟨u124,a127,ql⟩=>([(9,.int .i64 iy),(24,.int .i64 (bV:Int))],[ω aP (kN x0 aB aA ay aH aG au dh dN) 56,ω iq #[yH u124 iq,.slice a127 fA.length ql] 121,dO 5 jo a127 ql fA])) (ψ [1,1,2] 3) ?_;rintro ⟨fA,iy,bV⟩ ⟨u124,a127,ql⟩ _ z1 hh hR1;dsimp only [Kb_]at hh ⊢;refine ζ 2 z (λIz=> ?_);refine R5 ?_;refine π z hh (λCe hh=> ?_) (λCe hh=> ?_)
 ·refine R9 ?_;obtain ⟨u35,hh⟩:=gd hh;obtain ⟨u40,hh⟩:=gd hh;refine TC.dw [] (ν 0 z fL z (χ 1 z lL z (ν 2 z mI z (χ 3 z iX z ?_))));obtain ⟨QH,Wx,hg134⟩:=RZ.seg aC iy.toNat (by omega);replace Wx:dH _ ak QH.1 QH.2 (nth x0.next iy.toNat []):=Wx;refine χ 4 z (OpVal.of (qw z pV z hg134 z) (v':= .slice QH.1 ((nth x0.next iy.toNat []).length) QH.2) z) z (ν 5 z (IJ (.inl z) z) z (ν 6 z mI z (ν 7 z (bz_ z kR z z (by omega)) z (χ 8 z iN z (χ 9 z l1 z (ν 10 z mI z (R7 ?_)))))));refine π z hh (λFU hh=> ?_) (λFU hh=> ?_)
  ·refine R8 ?_;refine Ψ 0 ?_;replace hh:=bJ hR1 hh;obtain rfl:=so hh;exact rq [4,5,6,7] ⟨z,z,z⟩
  refine R2 ?_;obtain ⟨u53,hh⟩:=gd hh;obtain ⟨u58,hh⟩:=gd hh;obtain ⟨v60,u60,hh⟩:=bg hh;refine TC.OV (Hr:=[ω aP (kN x0 aB aA ay aH aG au dh dN) 56]) (λr hr=>oU [0] z hr) [] (by kernel_rfl) (ν 0 z fL z (χ 1 z lL z (ν 2 z mI z (χ 3 z iX z ?_))));obtain ⟨QF,Wv,hg139⟩:=RZ.seg aV iy.toNat (by omega);replace Wv:dH _ bF QF.1 QF.2 (nth x0.outs iy.toNat []):=Wv;refine χ 4 z (OpVal.of (qw z KN z hg139 z) (v':= .slice QF.1 ((nth x0.outs iy.toNat []).length) QF.2) z) z (ν 5 z (IJ (.inl z) z) z (ν 6 z mI z (ν 7 z (bz_ z kR z z (by omega)) z (χ 8 z iN z (χ 9 z l1 z (Ω 2 (Ω 2 (υ 10 z (OpOk.call (Ri u60) z z Qa z z z z ?_)))))))));rintro _ _ _ Zh ⟨u140_1,a140_2,c140_3,rfl,rfl,rfl⟩;refine k2 (R9 ?_);exact nxq hR1 hh (u140_1,a140_2,c140_3) (ψ [1,1,2] 3)
 refine R1 ?_;replace hh:=bJ hR1 hh;refine R7 ?_;obtain ⟨u68,hh⟩:=gd hh;refine R4 ?_;refine TC.cB z hh (λh143 hh=> ?_) (λh143 hh=> ?_)
 ·refine R3 ?_;refine ι z (xq z kR z) (R5 ?_);refine Ψ 0 ?_;obtain rfl:=so hh;exact rq [4,5,6,7] ⟨z,z,z⟩
 refine R6 ?_;obtain ⟨u80,hh⟩:=gd hh;refine R2 ?_;refine κ 2 (κ 2 ?_);obtain ⟨v82,XV,hh⟩:=bg hh;refine φ z (OpOk.call (Ri XV) z z Qa z z z z ?_);rintro _ _ _ BZ ⟨u144_1,a144_2,c144_3,rfl,rfl,rfl⟩;refine R3 ?_;refine κ 1 (κ 1 ?_);obtain ⟨v83,u83,hh⟩:=bg hh;refine φ z (OpOk.call (km_ u83) z z Ya z z z z ?_);rintro _ _ _ Zf ⟨rfl,rfl,rfl⟩;refine ι z (IJ (.inl z) z) (ι z (xq z kR z) (R5 ?_));refine Ψ 0 ?_;obtain rfl:=so hh;exact rq [4,5,6,7] ⟨z,z,z⟩
end Go.Proofs.YtcfgkcfcddfccaaGreatDoor
end

noncomputable section
namespace Go.E
open Go
theorem OpVal.gtrBs{P:Program}{n:Nat}{e:Env}{σ:aj}{H:List Res}{o:Oper}{x y:Operand}{l m:List UInt8}{T T':TypeId}(ho:o.op= .binOp .gtr T x y T')(hx:ev e x= .string (bs l))(hy:ev e y= .string (bs m)):OpVal P n o e σ H (.bool (!(decide (Lib.compareBytes l m<0) || l == m))):=λw _=>by
  simp only [execOp,ho,hx,hy,Sem.run_bind,gm_,Result.andThen_ok,binOp,Op.stringOp,ByteArray.toList_eq,l8_,jn_,Sem.run_pure]
end Go.E
end

noncomputable section
namespace Go.Proofs.YtcfgkcfcddfccaaGreatDoor
open Go Go.E Go.E.OpVal Go.E.OpOk Go.Proofs.Tryz
open List (replicate)
theorem pf208:plainF Tryz.prog 208=true:=by kernel_rfl
theorem Ui:plainF Tryz.prog 235=true:=by kernel_rfl
def r2_(x0:T_1):Option (Bool):=
 some (decide (x0≠x0))
theorem qk_{σ:aj}{x0:T_1}{r:Bool}(hh:r2_ x0=some r):
  Con prog 235 #[.string (bs x0)] σ [] (jq (.bool r) σ):=by
 dsimp only [r2_]at hh;refine cM 6 Tryz.func235 (λw0=> ?_);refine R8 ?_;refine ι z (c6_ z z z) (R2 ?_);refine η ?_;obtain rfl:=so hh;exact rq [2] ⟨z,z,z⟩
def le_(x0:T_1)(x1:T_1):Option (Int):=
 bnd (r2_ x0) (λv3=>bnd (r2_ x1) (λv6=>iteO v3 (iteO v6 (some 0) (some (-1))) (iteO v6 (some 1) (iteO (decide (Lib.compareBytes x0 x1<0)) (some (-1)) (iteO (!(decide (Lib.compareBytes x0 x1<0) || x0 == x1)) (some 1) (some 0))))))
theorem sy_{σ:aj}{x0:T_1}{x1:T_1}{r:Int}(hh:le_ x0 x1=some r):
  Con prog 208 #[.string (bs x0),.string (bs x1)] σ [] (jq (.int .i64 r) σ):=by
 dsimp only [le_]at hh;refine cM 20 Tryz.func208 (λw0=> ?_);refine R7 ?_;obtain ⟨v3,u3,hh⟩:=bg hh;refine φ z (gI (qk_ u3) z z Ui z z z ?_);refine R5 ?_;obtain ⟨v6,u6,hh⟩:=bg hh;refine φ z (gI (qk_ u6) z z Ui z z z ?_);refine R7 ?_;refine TC.cB z hh (λgW hh=> ?_) (λgW hh=> ?_)
 ·refine R5 ?_;refine TC.cB z hh (λwC hh=> ?_) (λwC hh=> ?_)
  ·refine R4 ?_;refine η ?_;obtain rfl:=so hh;exact rq [4] ⟨z,z,z⟩
  refine R5 ?_;refine η ?_;obtain rfl:=so hh;exact rq [4] ⟨z,z,z⟩
 refine R6 ?_;refine TC.cB z hh (λnC hh=> ?_) (λnC hh=> ?_)
 ·refine R4 ?_;refine η ?_;obtain rfl:=so hh;exact rq [4] ⟨z,z,z⟩
 refine R6 ?_;refine ι z (lssBs z z z) (R1 ?_);refine π z hh (λgV hh=> ?_) (λgV hh=> ?_)
 ·refine R4 ?_;refine η ?_;obtain rfl:=so hh;exact rq [4] ⟨z,z,z⟩
 refine R6 ?_;refine ι z (gtrBs z z z) (R1 ?_);refine TC.cB z hh (λdL hh=> ?_) (λdL hh=> ?_)
 ·refine R4 ?_;refine η ?_;obtain rfl:=so hh;exact rq [4] ⟨z,z,z⟩
 refine R5 ?_;refine η ?_;obtain rfl:=so hh;exact rq [4] ⟨z,z,z⟩
def Ic_(x0:Tip)(x1:Tip):Option (Int):=
 bnd (Tf x0.state x1.state) (λv8=>bnd (le_ x0.out x1.out) (λv13=>bnd (Jw_ [v8,v13]) (λv15=>some v15)))
theorem L4_{σ:aj}{x0:Tip}{x1:Tip}{r:Int}(hh:Ic_ x0 x1=some r):
  Con prog 177 #[.agg #[.int .i64 x0.state,.string (bs x0.out)],.agg #[.int .i64 x1.state,.string (bs x1.out)]] σ [] (jq (.int .i64 r) σ):=by
 dsimp only [Ic_]at hh;refine cM 17 Tryz.func177 (λw0=> ?_);refine R2 ?_;refine TL.bx (λaP=> ?_);refine TL.bx (λbK=> ?_);refine R3 ?_;obtain ⟨v8,u8,hh⟩:=bg hh;obtain ⟨v13,u13,hh⟩:=bg hh;obtain ⟨v15,u15,hh⟩:=bg hh;refine TC.dw [] (ν 0 z fL z (χ 1 z lL z (ν 2 z fL z (χ 3 z lL z (ν 5 z fL z (χ 6 z lL z (ν 7 z fL z (χ 8 z lL z (υ 4 z (gI (B4_ u8) z z wv_ z z z (k0 ?_)))))))))));refine υ 9 z (gI (sy_ u13) z z pf208 z z z (k0 ?_));refine υ 10 z (jc (enc:=ak) [v8,v13] (λJu Jg=>(k1 ?_)));refine υ 11 z (OQ (Con.lend aT (λ_ tV yS=>K0_ yS u15)) z z K_ z z z z (k1 ?_));refine ν 12 z mI z (R1 ?_);refine Ψ 0 ?_;obtain rfl:=so hh;exact rq [4] ⟨z,z,z⟩
end Go.Proofs.YtcfgkcfcddfccaaGreatDoor
end

noncomputable section
namespace Go.Proofs.YtcfgkcfcddfccaaGreatDoor
open Go Go.Shelf
def t0_:Go.Shelf.Ren:=⟨fun|171=>185|243=>210|246=>236|283=>252|284=>253|285=>254|286=>255|129=>207|317=>261|318=>262|319=>263|320=>264|337=>266|338=>155|n=>n,fun|3=>3|9=>9|2=>2|4=>4|171=>296|0=>0|53=>45|37=>84|5=>5|173=>298|212=>305|51=>263|20=>20|213=>306|46=>181|232=>308|233=>250|n=>n,fun|17=>2|18=>3|19=>0|n=>n⟩
theorem layItoa:Go.Proofs.LaysM.n171 Tryz.prog t0_:={
  mixed:=by kernel_rfl,
  f129:=Tryz.func207.trans (congrArg some (by kernel_rfl)),
  f171:=Tryz.func185.trans (congrArg some (by kernel_rfl)),
  f243:=Tryz.func210.trans (congrArg some (by kernel_rfl)),
  f246:=Tryz.func236.trans (congrArg some (by kernel_rfl)),
  f283:=Tryz.func252.trans (congrArg some (by kernel_rfl)),
  f284:=Tryz.func253.trans (congrArg some (by kernel_rfl)),
  f285:=Tryz.func254.trans (congrArg some (by kernel_rfl)),
  f286:=Tryz.func255.trans (congrArg some (by kernel_rfl)),
  f317:=Tryz.func261.trans (congrArg some (by kernel_rfl)),
  f318:=Tryz.func262.trans (congrArg some (by kernel_rfl)),
  f319:=Tryz.func263.trans (congrArg some (by kernel_rfl)),
  f320:=Tryz.func264.trans (congrArg some (by kernel_rfl)),
  f337:=Tryz.func266.trans (congrArg some (by kernel_rfl)),
  f338:=Tryz.func155.trans (congrArg some (by kernel_rfl)),
  t0:=Tryz.underlying0,
  a0:=Tryz.isAgg0,
  z0:=Tryz.sizeOf0,
  v0:=Tryz.zeroValue0,
  t2:=Tryz.underlying2,
  a2:=Tryz.isAgg2,
  z2:=Tryz.sizeOf2,
  v2:=Tryz.zeroValue2,
  t3:=Tryz.underlying3,
  a3:=Tryz.isAgg3,
  z3:=Tryz.sizeOf3,
  v3:=Tryz.zeroValue3,
  t4:=Tryz.underlying4,
  a4:=Tryz.isAgg4,
  z4:=Tryz.sizeOf4,
  v4:=Tryz.zeroValue4,
  t5:=Tryz.underlying5,
  a5:=Tryz.isAgg5,
  z5:=Tryz.sizeOf5,
  v5:=Tryz.zeroValue5,
  t9:=Tryz.underlying9,
  a9:=Tryz.isAgg9,
  z9:=Tryz.sizeOf9,
  v9:=Tryz.zeroValue9,
  t20:=Tryz.underlying20,
  a20:=Tryz.isAgg20,
  z20:=Tryz.sizeOf20,
  v20:=Tryz.zeroValue20,
  t37:=Tryz.underlying84,
  a37:=Tryz.isAgg84,
  z37:=Tryz.sizeOf84,
  v37:=Tryz.zeroValue84,
  t46:=Tryz.underlying181,
  a46:=Tryz.isAgg181,
  z46:=Tryz.sizeOf181,
  v46:=Tryz.zeroValue181,
  t51:=Tryz.underlying263,
  a51:=Tryz.isAgg263,
  z51:=Tryz.sizeOf263,
  v51:=Tryz.zeroValue263,
  t53:=Tryz.underlying45,
  a53:=Tryz.isAgg45,
  z53:=Tryz.sizeOf45,
  v53:=Tryz.zeroValue45,
  t171:=Tryz.underlying296,
  a171:=Tryz.isAgg296,
  z171:=Tryz.sizeOf296,
  v171:=Tryz.zeroValue296,
  t173:=Tryz.underlying298,
  a173:=Tryz.isAgg298,
  z173:=Tryz.sizeOf298,
  v173:=Tryz.zeroValue298,
  t212:=Tryz.underlying305,
  a212:=Tryz.isAgg305,
  z212:=Tryz.sizeOf305,
  v212:=Tryz.zeroValue305,
  t213:=Tryz.underlying306,
  a213:=Tryz.isAgg306,
  z213:=Tryz.sizeOf306,
  t232:=Tryz.underlying308,
  a232:=Tryz.isAgg308,
  z232:=Tryz.sizeOf308,
  v232:=Tryz.zeroValue308,
  t233:=Tryz.underlying250,
  a233:=Tryz.isAgg250,
  z233:=Tryz.sizeOf250,
  v233:=Tryz.zeroValue250,
  g17:=by kernel_rfl,
  g18:=by kernel_rfl,
  g19:=by kernel_rfl,
  i0:=by kernel_rfl,
  i2:=by kernel_rfl,
  i3:=by kernel_rfl,
  i4:=by kernel_rfl,
  i5:=by kernel_rfl,
  i9:=by kernel_rfl,
  i20:=by kernel_rfl,
  i37:=by kernel_rfl,
  i46:=by kernel_rfl,
  i51:=by kernel_rfl,
  i53:=by kernel_rfl,
  i171:=by kernel_rfl,
  i173:=by kernel_rfl,
  i212:=by kernel_rfl,
  i232:=by kernel_rfl,
  i233:=by kernel_rfl,
  m17:=by kernel_rfl,
  m18:=by kernel_rfl,
  m19:=by kernel_rfl}
end Go.Proofs.YtcfgkcfcddfccaaGreatDoor
end

noncomputable section
namespace Go.Proofs.YtcfgkcfcddfccaaGreatDoor
open Go Go.E
theorem s7_ : ∀ x y : T_1, (iteO (decide (Lib.compareBytes x y < 0)) (some (-1 : Int)) (iteO (!(decide (Lib.compareBytes x y < 0) || x == y)) (some 1) (some 0))) = some (Lib.compareBytes x y)
  |[],[]=>rfl
  |[],_::_=>rfl
  |_::_,[]=>rfl
  | a :: x, b :: y => by
    have ih:=s7_ x y;unfold Lib.compareBytes
    by_cases h:a<b
    · rw [if_pos h];rfl
    rw [if_neg h]
    by_cases h2:b<a
    · rw [if_pos h2]
      have:(a::x == b::y)=false:=by
        rw [beq_eq_false_iff_ne];intro e;cases e;exact h h2
      rw [this];rfl
    rw [if_neg h2];have e:a=b:=UInt8.le_antisymm (UInt8.not_lt.1 h2) (UInt8.not_lt.1 h);subst e;have:(a::x == a::y)=(x == y):=by simp
    rw [this];exact ih
theorem t5_(x y:T_1):le_ x y=some (Lib.compareBytes x y):=by
  unfold le_ r2_;rw [<-s7_ x y];simp [bnd,iteO]
theorem Mg_(x y:Tip):Ic_ x y=some (I7 x y):=by
  unfold Ic_;rw [iM (Ck_ _ _),iM (t5_ _ _),iM (Ll_ _)];rfl
theorem Ne_{σ:aj}{a:Option Addr}{c:Nat}{l:List Tip}:Con Tryz.prog 157 #[.slice a l.length c,.func (.func 177) #[] #[]] σ [ε 79 2 bf (.slice a l.length c) l] (Uc 79 2 bf a c l (rF I7 l) σ):=
  Con.sortK (k:=2) layT0 rfl Tryz.isAgg79 Tryz.sizeOf79 iV j2_ of_.total (λargs w=>Rk (by kernel_rfl) args w) (λx y τ=>L4_ (Mg_ x y))
theorem nc_{σ:aj}{n:Int}(hgl:xu σ 0 2)(hn: -9223372036854775808<=n/\n<=9223372036854775807):Con Tryz.prog 185 #[.int .i64 n] σ [] (jq (.string (bs (Lib.itoa n))) σ):=
  itoa_of layItoa rfl (by kernel_rfl) hn hgl.p
end Go.Proofs.YtcfgkcfcddfccaaGreatDoor
end

noncomputable section
namespace Go.E
open Go
def fltV(T:TypeId)(k:Int):Value:= .iface T (.agg #[.int .i64 k])
def ConF(P:Program)(f:FuncId)(args:Array Value)(σ:aj)(H:List Res)(v:Value):Prop:=
  ∀w,Reach w (fJ H) σ σ w H->Calls P f args w λe w'=>e= .panicked [{v:=v,recovered:=false}]/\ ∃σ',Reach w (fJ H) σ σ' w' []
def vO(P:Program)(f:FuncId)(args:Array Value)(σ:aj)(H:List Res){α:Type}(T:TypeId)(Post:α->Value->aj->List Res->Prop):Int⊕α->Prop
  | .inr x=>Con P f args σ H (Post x)
  | .inl k=>ConF P f args σ H (fltV T k)
theorem vO.l{P:Program}{f:FuncId}{args:Array Value}{σ:aj}{H:List Res}{α:Type}{T:TypeId}{Post:α->Value->aj->List Res->Prop}{k:Int}(h:vO P f args σ H T Post (.inl k)):ConF P f args σ H (fltV T k):=h
theorem vO.r{P:Program}{f:FuncId}{args:Array Value}{σ:aj}{H:List Res}{α:Type}{T:TypeId}{Post:α->Value->aj->List Res->Prop}{x:α}(h:vO P f args σ H T Post (.inr x)):Con P f args σ H (Post x):=h
@[reducible]def RetX{α:Type}(P:Program)(fn:Func)(n:Nat)(T:TypeId)(Post:α->Value->aj->List Res->Prop):Int⊕α->QP
  | .inr x=>RetOk P fn n (Post x)
  | .inl k=>λex _ _ _=>ex= .panic [{v:=fltV T k,recovered:=false}]
theorem vO.mk{α:Type}{P:Program}{f:FuncId}{fn:Func}{c:Code}{args:List Value}{n:Nat}{σ:aj}{H:List Res}{T:TypeId}{Post:α->Value->aj->List Res->Prop}{r:Int⊕α}
    (hf:P.funcs[f]? =some fn) (hb:fn.body=some c) (hn:fn.ntmps=n) (ha:Nat.ble args.length n=true)
    (h: ∀w0,TC ⟨P,w0,fJ H,σ,n,none,some []⟩ (RetX P fn n T Post r) c (LC args) σ H):vO P f args.toArray σ H T Post r:=by
  cases r with
  |inr x=>exact Con.mkD hf hb hn ha λw0=>TB.fin UW (h w0)
  |inl k=>
    intro w hw;refine hm_.1 (callsIn_of_wp_marks (F:=fence none) (n:=0) hf hb trivial (Go.wpIn_mono (h w w _ ⟨hw,MarksOk.start⟩ (q2_ hn ha)) ?_));rintro ex a w' ⟨e',σ',H',h1,h2,h3⟩;have h3:ex= .panic [{v:=fltV T k,recovered:=false}]:=h3;subst h3;have hd:a.defers=[]:=h2.marks.is _ rfl;show LeavesInM (fence none) 0 P fn a.tmps _ a.defers _ w';rw [hd];exact ⟨rfl,σ',h2.toReach.sub (List.nil_sublist _)⟩
def sumE{α β γ:Type}(x:α⊕β)(f:α->γ)(g:β->γ):γ:=match x with| .inl a=>f a| .inr b=>g b
section rules
variable {X:Ctx} {ops:Array Oper} {Q:QP} {e:Env} {σ:aj} {H F:List Res} {o:Oper} {rest:List Oper} {x:Operand} {K:Env->aj->List Res->Prop}
theorem OpOk.ZK{α:Type}{y:α}{T:TypeId}{f d:Nat}{opds:Array Operand}{ts:Array TypeId}{first cap:Array Value}{args:List Value}{Post:α->Value->aj->List Res->Prop}{H1:List Res}(hc:vO X.P f args.toArray σ H1 T Post (.inr y))(ho:o.op= .call {callee:= .value x,args:=opds,argTypes:=ts})
    (hx:ev e x= .func (.func f) first cap) (hp:plainF X.P f=true) (hargs:first.toList++(opds.toList.map (ev e)++cap.toList)=args) (hd:o.dst=some d) (hn:Nat.blt d X.n=true) (hH:H1++F=H)
    (k: ∀r σ' Jv,σ.le σ'->Post y r σ' Jv->K (upd e d r) σ' (Jv++F)):OpOk X o e σ H K:=OpOk.call hc ho hx hp hargs hd hn hH k
theorem OpOk.cy_{α:Type}{y:α}{T:TypeId}{f d:Nat}{opds:Array Operand}{ts:Array TypeId}{first cap:Array Value}{args:List Value}{v:Value}{Post:α->Value->aj->List Res->Prop}(hc:vO X.P f args.toArray σ [] T Post (.inr y))(hq:Post y=jq v σ)(ho:o.op= .call {callee:= .value x,args:=opds,argTypes:=ts})
    (hx:ev e x= .func (.func f) first cap) (hp:plainF X.P f=true) (hargs:first.toList++(opds.toList.map (ev e)++cap.toList)=args) (hd:o.dst=some d) (hn:Nat.blt d X.n=true) (k:K (upd e d v) σ H):OpOk X o e σ H K:=
  OpOk.ZK hc ho hx hp hargs hd hn rfl (λr σ' Jv _ h=>by
    rw [hq]at h;obtain ⟨h1,h2,h3⟩:=h;subst h1 h3;rw [h2];exact k)
theorem TL.RQ{f:Nat}{opds:Array Operand}{ts:Array TypeId}{first cap:Array Value}{args:List Value}{v:Value}{H1:List Res}(hg:o.guard=none)(hc:ConF X.P f args.toArray σ H1 v)(ho:o.op= .call {callee:= .value x,args:=opds,argTypes:=ts})
    (hx:ev e x= .func (.func f) first cap) (hp:plainF X.P f=true) (hargs:first.toList++(opds.toList.map (ev e)++cap.toList)=args) (hH:H1++F=H)
    (k: ∀σ',σ.le σ'->Q (.panic [{v:=v,recovered:=false}]) e σ' F):TL X ops Q (o::rest) e σ H:=by
  subst hargs hH;intro w a hw ha;refine wpListIn_plain hg λK hK=> ?_;have hr:(execOp a.eval o).run X.P w= .ok (.enter f (first.toList++(opds.toList.map (ev e)++cap.toList)).toArray) w:=by
    rw [ha.eval'];have hl:(first.toList++(opds.toList.map (ev e)++cap.toList)).toArray=first++(opds.map (ev e)++cap):=by
      apply Array.ext';simp
    rw [hl];simp [execOp,ho,resolve,hx,Deferred.ofValue,invoke,Rk hp,Array.append_assoc]
  refine Oper.b9_ hr (λ_=>by simp) ⟨λh=>(by cases h),hm_.2 ((hc w (hw.toReach.sub (List.sublist_append_left H1 F)).self).mono ?_)⟩;rintro e' w' ⟨rfl,σ',h3⟩;exact ⟨e,σ',F,ha,hw.step (hw.toReach.self.call h3) rfl,k σ' h3.le⟩
theorem TL.panic{T:TypeId}{v:Value}(hg:o.guard=none)(ho:o.op= .panic x)(hx:ev e x= .iface T v)
    (k:Q (.panic [{v:= .iface T v,recovered:=false}]) e σ H):TL X ops Q (o::rest) e σ H:=by
  intro w a hw ha;refine wpListIn_plain hg λK hK=> ?_;have hr:(execOp a.eval o).run X.P w= .halt (.panic (.iface T v)) w:=by
    rw [ha.eval'];have hp:Sem.run X.P (Instr.panic (.iface T v)) w= .halt (.panic (.iface T v)) w:=rfl;simp only [execOp,ho,hx,Sem.run_bind,hp,Result.andThen]
  refine ⟨λ_ _=>trivial,?_⟩;rw [Oper.semAt_eq _ _ _ (λc hc=>by rw [ho]at hc;cases hc),hr];exact ⟨e,σ,H,ha,hw,k⟩
theorem OpVal.b2_{P:Program}{n T:Nat}{v:Value}{fs:Array Field}(ho:o.op= .makeInterface T x)(hu:P.underlying T=some (.struct fs))(hx:ev e x=v):OpVal P n o e σ H (.iface T v):=λw _=>by
  simp [execOp,ho,hx,Instr.makeInterface,run_underlying hu]
theorem OpVal.dz_{P:Program}{n T:Nat}{S:TypeId}{v:Value}{fs:Array Field}(ho:o.op= .typeAssert x S T true)(hu:P.underlying T=some (.struct fs))(hx:ev e x= .iface T v):OpVal P n o e σ H (.tuple #[v,.bool true]):=λw _=>by
  simp [execOp,ho,hx,Instr.typeAssert,run_underlying hu]
theorem OpVal.d8_{P:Program}{n T:Nat}{S:TypeId}{z:Value}{fs:Array Field}(ho:o.op= .typeAssert x S T true)(hu:P.underlying T=some (.struct fs))(hz: ∀w,(zeroValue T).run P w= .ok z w)(hx:ev e x= .nilIface):OpVal P n o e σ H (.tuple #[z,.bool false]):=λw _=>by
  simp [execOp,ho,hx,Instr.typeAssert,run_underlying hu,hz]
end rules
def ConR(P:Program)(f:FuncId)(args:Array Value)(v:Value)(σ:aj)(H:List Res)(Post:Value->aj->List Res->Prop):Prop:=
  ∀w,Reach w (fJ H) σ σ w H->CallsDIn (fence none) 0 P f args (.panicking [{v:=v,recovered:=false}]) w λe u w'=>u= .panicking [{v:=v,recovered:=true}]/\ ∃r σ' H',e= .returned r/\Post r σ' H'/\Reach w (fJ H) σ σ' w' H'
@[reducible]def weakQ(Q:QP):QP:=λex e σ H=> ∃F,Sub F H/\Q ex e σ F
theorem qo_{P:Program}{Q:Exit->Act->List Frame->World->Prop}{Q0:Exit->Act->World->Prop}{a:Act}{cs cs':List Frame}{w:World}{id d:Nat}{o0:Oper}{l:List Oper}{rv:Value}
    (hop:o0.op= .call {callee:= .builtin .recover,args:= #[],argTypes:= #[]}) (hg:o0.guard=none) (hd:o0.dst=some d)
    (hrec:(recoverD cs=some (rv,cs')\/(recoverD cs=none/\rv= .nilIface/\cs'=cs)))
    (h:wpListIn (fence none) 0 P (o0::l).toArray Q0 l (a.put (some d) rv) w) (hQ: ∀e a' w',Q0 e a' w'->Q e a' cs' w'):(Code.region id (o0::l).toArray false).wpSIn (fence none) 0 P Q a cs w:=by
  intro b k hb hro hF hroom;have hlen:cs'.length=cs.length:=by
    rcases hrec with h1|⟨-, -,h1⟩
    · exact recoverD_length h1
    rw [h1]
  have h2:wpOpsIn (fence none) 0 P (o0::l).toArray Q0 (List.range' 1 l.length) (a.put (some d) rv) w:=by
    rw [wpOpsIn_eq_wpListIn l 1 (λj=>by simp [Nat.add_comm 1 j])];exact h
  obtain ⟨e,a',w',hq,harr⟩:=wp_opsIn _ _ _ h2 b k cs' hro trivial (hlen▸hroom);refine ⟨e,a',cs',w',hlen,hQ _ _ _ hq,?_⟩;have hr:List.range (o0::l).toArray.size=0::List.range' 1 l.length:=by
    rw [List.range_eq_range'];simp [List.range'_succ]
  refine ArrivesIn.of_steps (.head (fenced_calm hF hroom rfl) stepR_region (.one ?_ ?_)) harr
  · rw [hr]
    exact fenced_oper (o:=o0) hF hroom rfl (λ_ _=>trivial)
  rw [hr];have hw:Region.wanted o0 (yielded (o0::l).toArray a.tmps)=true:=by simp [Region.wanted,hg]
  have hgr:=stepGR_op (P:=P) (b:=b) (k:=k) (cs:=cs) (w:=w) (rest:=List.range' 1 l.length) (ops:=(o0::l).toArray) (i:=0) (o:=o0) rfl hw;rw [hro,Oper.semAt_none]at hgr;have hfin: ∀v,(b.atR a (.inRegion (o0::l).toArray (0::List.range' 1 l.length)::k)).finish v=b.atR (a.put o0.dst v) (.inRegion (o0::l).toArray (List.range' 1 l.length)::k):=by
    intro v;rw [Frame.finish_atR];rfl
  have hk:(b.atR a (.inRegion (o0::l).toArray (0::List.range' 1 l.length)::k)).kind= .deferred:=hb;have htr:=tryRecover_deferred hk cs;have hrun:(execOp a.eval o0).run P w= .ok .recover w:=by
    simp only [execOp,hop,resolve,Sem.run_bind];rfl
  apply step_lone_go;rw [hgr,<-hd,<-hfin];simp only [Frame.atR,hro]at htr ⊢;rcases hrec with h1|⟨h1,rfl,rfl⟩
  · simp [stepG.apply,hrun,htr,h1]
  simp [stepG.apply,hrun,htr,h1]
theorem recD{P:Program}{f:FuncId}{fn:Func}{c2:Code}{args:List Value}{n d id:Nat}{o0:Oper}{l:List Oper}{σ:aj}{H:List Res}{Post:Value->aj->List Res->Prop}{w:World}{u u':FrameMode}{rv:Value}
    (hw:Reach w (fJ H) σ σ w H) (hf:P.funcs[f]? =some fn) (hb:fn.body=some (.seq (.region id (o0::l).toArray false) c2)) (hn:fn.ntmps=n) (ha:Nat.ble args.length n=true)
    (hop:o0.op= .call {callee:= .builtin .recover,args:= #[],argTypes:= #[]}) (hg:o0.guard=none) (hd:o0.dst=some d) (hdn:Nat.blt d n=true)
    (hrec: ∀(c₀:Frame) (cs:List Frame),c₀.mode=u->(recoverD (c₀::cs)=some (rv,{c₀ with mode:=u'}::cs)\/(recoverD (c₀::cs)=none/\rv= .nilIface/\({c₀ with mode:=u'}:Frame)::cs=c₀::cs)))
    (h:TL ⟨P,w,fJ H,σ,n,none,some []⟩ (o0::l).toArray (seqQ (TC ⟨P,w,fJ H,σ,n,none,some []⟩ (weakQ (retQ P fn n Post)) c2) (weakQ (retQ P fn n Post))) l (upd (LC args) d rv) σ H):
    CallsDIn (fence none) 0 P f args.toArray u w λe u1 w'=>u1=u'/\ ∃r σ' H',e= .returned r/\Post r σ' H'/\Reach w (fJ H) σ σ' w' H':=by
  refine callsDIn_of_wpSIn hf hb trivial λc₀ cs hu=> ?_;apply wpSIn_seq;refine qo_ (cs':={c₀ with mode:=u'}::cs) hop hg hd (hrec c₀ cs hu) (h w _ ⟨hw,MarksOk.start⟩ ((q2_ hn ha).put (by simpa [Nat.blt_eq]using hdn) rv)) ?_
  have hfin: ∀(ex:Exit) (a:Act) (w':World),(ex= .normal\/ex= .ret\/True)->low ⟨P,w,fJ H,σ,n,none,some []⟩ (weakQ (retQ P fn n Post)) ex a w'->bodyPostS P fn c₀ cs (λe u1 w'=>u1=u'/\ ∃r σ' H',e= .returned r/\Post r σ' H'/\Reach w (fJ H) σ σ' w' H') ex a ({c₀ with mode:=u'}::cs) w':=by
    rintro ex a w' - ⟨e',σ',H',h1,h2,F,hs,⟨hex,r,H'',h3,h4,h5⟩⟩;have hd:a.defers=[]:=h2.marks.is _ rfl;have h6:=h2.toReach.cu_ hs;rcases hex with rfl|rfl
    · exact ⟨hd,u',rfl,r,h3 w' a h1 h6.holds,rfl,r,σ',H'',rfl,h5,h6.sub h4⟩
    exact ⟨hd,u',rfl,r,h3 w' a h1 h6.holds,rfl,r,σ',H'',rfl,h5,h6.sub h4⟩
  rintro ex a' w' ⟨e',σ',H',h1,h2,h3⟩;cases ex with
  |normal=>exact wpSIn_of_wpIn rfl (Go.wpIn_mono (h3 w' a' h2 h1) λex a w' hq=>hfin ex a w' (.inr (.inr trivial)) hq)
  |exit id=>exact hfin _ _ _ (.inr (.inr trivial)) ⟨e',σ',H',h1,h2,h3⟩
  |goto l=>exact hfin _ _ _ (.inr (.inr trivial)) ⟨e',σ',H',h1,h2,h3⟩
  |ret=>exact hfin _ _ _ (.inr (.inr trivial)) ⟨e',σ',H',h1,h2,h3⟩
  |panic ch=>exact hfin _ _ _ (.inr (.inr trivial)) ⟨e',σ',H',h1,h2,h3⟩
  |outgrown=>exact hfin _ _ _ (.inr (.inr trivial)) ⟨e',σ',H',h1,h2,h3⟩
theorem Jw.rec{P:Program}{f:FuncId}{fn:Func}{c2:Code}{args:List Value}{n d id:Nat}{o0:Oper}{l:List Oper}{σ:aj}{H:List Res}{Post:Value->aj->List Res->Prop}
    (hf:P.funcs[f]? =some fn) (hb:fn.body=some (.seq (.region id (o0::l).toArray false) c2)) (hn:fn.ntmps=n) (ha:Nat.ble args.length n=true)
    (hop:o0.op= .call {callee:= .builtin .recover,args:= #[],argTypes:= #[]}) (hg:o0.guard=none) (hd:o0.dst=some d) (hdn:Nat.blt d n=true)
    (h: ∀w0,TL ⟨P,w0,fJ H,σ,n,none,some []⟩ (o0::l).toArray (seqQ (TC ⟨P,w0,fJ H,σ,n,none,some []⟩ (weakQ (retQ P fn n Post)) c2) (weakQ (retQ P fn n Post))) l (upd (LC args) d .nilIface) σ H):Jw P f args.toArray σ H Post:=λw hw=>
  recD hw hf hb hn ha hop hg hd hdn (λc₀ cs hu=> .inr ⟨by simp [recoverD,hu],rfl,by cases c₀;simp_all⟩) (h w)
theorem ConR.rec{P:Program}{f:FuncId}{fn:Func}{c2:Code}{args:List Value}{n d id:Nat}{o0:Oper}{l:List Oper}{σ:aj}{H:List Res}{v:Value}{Post:Value->aj->List Res->Prop}
    (hf:P.funcs[f]? =some fn) (hb:fn.body=some (.seq (.region id (o0::l).toArray false) c2)) (hn:fn.ntmps=n) (ha:Nat.ble args.length n=true)
    (hop:o0.op= .call {callee:= .builtin .recover,args:= #[],argTypes:= #[]}) (hg:o0.guard=none) (hd:o0.dst=some d) (hdn:Nat.blt d n=true)
    (h: ∀w0,TL ⟨P,w0,fJ H,σ,n,none,some []⟩ (o0::l).toArray (seqQ (TC ⟨P,w0,fJ H,σ,n,none,some []⟩ (weakQ (retQ P fn n Post)) c2) (weakQ (retQ P fn n Post))) l (upd (LC args) d v) σ H):ConR P f args.toArray v σ H Post:=λw hw=>
  recD hw hf hb hn ha hop hg hd hdn (λc₀ cs hu=> .inl (by simp [recoverD,hu])) (h w)
theorem ConR.mono{P:Program}{f:FuncId}{args:Array Value}{v:Value}{σ:aj}{H:List Res}{Post Post':Value->aj->List Res->Prop}
    (h:ConR P f args v σ H Post) (hp: ∀r σ' H',σ.le σ'->Post r σ' H'->Post' r σ' H'):ConR P f args v σ H Post':=λw hw=>
  (h w hw).mono λ_ _ _ ⟨h0,r,σ',H',h1,h2,h3⟩=>⟨h0,r,σ',H',h1,hp _ _ _ h3.le h2,h3⟩
def dfrX(P:Program)(fn:Func)(n:Nat)(Post:Value->aj->List Res->Prop)(f:FuncId)(args:List Value):QP:=λex e σ H=>
  dfrQ P fn n Post f args ex e σ H\/ ∃v,ex= .panic [{v:=v,recovered:=false}]/\ ∃F,Sub F H/\ConR P f args.toArray v σ F λ_ σ' H'=>RetOk P fn n Post .ret e σ' H'
theorem xu_{P:Program}{fn:Func}{w0:World}{C:List Nat}{σ0:aj}{n:Nat}{Post:Value->aj->List Res->Prop}{f:FuncId}{cap dargs:List Value}(hp:plainF P f=true):
    ∀ex a w,low ⟨P,w0,C,σ0,n,none,some [⟨.fn (.func f) cap.toArray,dargs.toArray⟩]⟩ (dfrX P fn n Post f (dargs++cap)) ex a w->endR P fn w0 C σ0 Post ex a w:=by
  rintro ex a w ⟨e,σ,H,h1,h2,h|⟨v,rfl,F,hs,hcon⟩⟩
  · exact rm_ hp ex a w ⟨e,σ,H,h1,h2,h⟩
  have hd:a.defers=[⟨.fn (.func f) cap.toArray,dargs.toArray⟩]:=h2.marks.is _ rfl;have h3:Reach w0 C σ0 σ w F:=h2.toReach.cu_ hs;show LeavesInM (fence none) 0 P fn a.tmps (endE w0 C σ0 Post) a.defers (.panicking [{v:=v,recovered:=false}]) w;rw [hd];refine ⟨by simp,.inr ⟨(λh=>by cases h),.func f,cap.toArray,f,(dargs++cap).toArray,rfl,?_,(λ_ _=>trivial),(hcon w h3.self).mono ?_⟩⟩
  · simp [invoke,Rk hp]
  rintro _ _ w' ⟨rfl,r,σ',H',rfl,⟨-,v',H'',h4,h5,h6⟩,h7⟩;have h8:Reach w0 C σ0 σ' w' H':=by
    have:=(show Reach w0 C σ0 σ w (F++[]) by rwa [List.append_nil]).call h7
    rwa [List.append_nil]at this
  exact ⟨v',h4 w' a h1 h8.holds,v',σ',H'',rfl,h6,h8.sub h5⟩
structure Flt where
  e:Int
  deriving DecidableEq
def Flt.zero:Flt:=⟨0⟩
structure Maker where
  arcs:List (List Arc)
  ends:List (List (List UInt8))
  most:Int
  rows:List (List Tip)
  places:FM (List UInt8) Int
  q:Seq
def Maker.zero:Maker:=⟨[],[],0,[],FM.emp,Seq.zero⟩
structure RMaker where
  rows:List (List Tip)
  most:Int
  e:Int
def RMaker.zero:RMaker:=⟨[],0,0⟩
structure Numb where
  places:FM (List UInt8) Int
def Numb.zero:Numb:=⟨FM.emp⟩
theorem qa_{α:Type}{enc:α->List Value}{size:Nat}(hl: ∀x,(enc x).length=size)(d q:α)(off:Nat)(u:List Value)(ho:off+u.length<=size):
    ∀(l:List α) (i:Nat),i<l.length->pI (enc (nth l i d)) off u=enc q->pI (l.flatMap enc) (i * size+off) u=(l.set i q).flatMap enc
  |[],i,h,_=>by simp at h
  |y::l,0,_,hq=>by
    have h0:pI (enc y) off u=enc q:=hq;have h1:off+u.length<=(enc y).length:=by rw [hl];exact ho
    rw [Nat.zero_mul,Nat.zero_add,List.set_cons_zero,List.flatMap_cons,List.flatMap_cons,<-h0];simp only [pI];rw [List.take_append_of_le_length (by omega),List.drop_append_of_le_length h1,<-Gf]
  |y::l,i+1,h,hq=>by
    have h0:pI (enc (nth l i d)) off u=enc q:=hq;have ih:=qa_ hl d q off u ho l i (by simpa using h) h0;rw [List.set_cons_succ,List.flatMap_cons,List.flatMap_cons,<-ih];simp only [pI];have e1:(i+1) * size+off=size+(i * size+off):=by rw [Nat.add_mul,Nat.one_mul];omega
    have e2:size+(i * size+off)=(enc y).length+(i * size+off):=by rw [hl]
    have e3:(enc y).length+(i * size+off)+u.length=(enc y).length+(i * size+off+u.length):=by omega
    rw [e1,e2,e3,List.take_length_add_append,List.drop_length_add_append];simp only [Gf]
section
variable {X:Ctx} {e:Env} {σ:aj} {F:List Res} {o:Oper} {x y:Operand} {K:Env->aj->List Res->Prop}
theorem OpOk.di_{α:Type}{T E size i off s:Nat}{enc:α->List Value}{v u:Value}{l:List α}(d q:α)(ho:o.op= .store T x y)(hs:szOf X.P T=some s)(hd:o.dst=none)(hx:ev e x=lF v (i * size+off))(hv:ev e y=u)
    (hu:pI (enc (nth l i d)) off u.cells.toList=enc q) (hus:u.cells.size=s) (h1: ∀c∈u.cells.toList,c.oneCell'=true) (hl: ∀x,(enc x).length=size) (h0:0<s) (hof:off+s<=size) (hi:i<l.length)
    (kk:K e σ (ε E size enc v (l.set i q)::F)):OpOk X o e σ (ε E size enc v l::F) K:=by
  refine OpOk.cr_ ho hs hd hx hv hus h1 h0 ?_ ?_
  · rw [uf hl]
    have h1:(i+1) * size<=l.length * size:=Nat.mul_le_mul_right _ hi;rw [Nat.add_mul]at h1;omega
  rw [qa_ hl d q off u.cells.toList (by rw [Array.length_toList,hus];exact hof) l i hi hu];simpa only [ε,fV]using kk
end
end Go.E
end

noncomputable section
namespace Go.Proofs.YtcfgkcfcddfccaaGreatDoor
open Go Go.E Go.E.OpVal Go.E.OpOk Go.Proofs.Tryz
open List (replicate)
theorem ag107:aggOf Tryz.prog 107=some false:=by kernel_rfl
theorem ag108:aggOf Tryz.prog 108=some false:=by kernel_rfl
theorem by22:byOf Tryz.prog 22=some 24:=by kernel_rfl
theorem Z7:byOf Tryz.prog 23=some 24:=by kernel_rfl
theorem XO:byOf Tryz.prog 54=some 24:=by kernel_rfl
theorem Z5:byOf Tryz.prog 9=some 16:=by kernel_rfl
theorem fo110_0:foOf Tryz.prog 110 0=some 0:=by kernel_rfl
theorem fo110_1:foOf Tryz.prog 110 1=some 1:=by kernel_rfl
theorem fo110_2:foOf Tryz.prog 110 2=some 2:=by kernel_rfl
theorem fo110_3:foOf Tryz.prog 110 3=some 3:=by kernel_rfl
theorem fo110_4:foOf Tryz.prog 110 4=some 4:=by kernel_rfl
theorem fo110_5:foOf Tryz.prog 110 5=some 5:=by kernel_rfl
theorem fo187_0:foOf Tryz.prog 187 0=some 0:=by kernel_rfl
theorem pf12:plainF Tryz.prog 12=true:=by kernel_rfl
theorem pf130:plainF Tryz.prog 130=true:=by kernel_rfl
theorem zr_:plainF Tryz.prog 131=true:=by kernel_rfl
theorem aai_:plainF Tryz.prog 133=true:=by kernel_rfl
theorem UG:plainF Tryz.prog 134=true:=by kernel_rfl
theorem Uo:plainF Tryz.prog 178=true:=by kernel_rfl
theorem v5_:plainF Tryz.prog 179=true:=by kernel_rfl
theorem pf180:plainF Tryz.prog 180=true:=by kernel_rfl
theorem Un:plainF Tryz.prog 181=true:=by kernel_rfl
theorem pf182:plainF Tryz.prog 182=true:=by kernel_rfl
theorem xo_:plainF Tryz.prog 185=true:=by kernel_rfl
theorem tc_:plainF Tryz.prog 186=true:=by kernel_rfl
theorem pf209:plainF Tryz.prog 209=true:=by kernel_rfl
theorem pf72:plainF Tryz.prog 72=true:=by kernel_rfl
theorem pl110:plOf Tryz.prog 110=some #[(0,1),(1,1),(2,1),(3,1),(4,1),(5,5)]:=by kernel_rfl
theorem pl187:plOf Tryz.prog 187=some #[(0,1)]:=by kernel_rfl
theorem pl56:plOf Tryz.prog 56=some #[(0,1),(1,1),(2,1),(3,1),(4,1)]:=by kernel_rfl
theorem zx_:szOf Tryz.prog 107=some 1:=by kernel_rfl
theorem sz108:szOf Tryz.prog 108=some 1:=by kernel_rfl
theorem sz187:szOf Tryz.prog 187=some 1:=by kernel_rfl
theorem Qk:szOf Tryz.prog 53=some 1:=by kernel_rfl
theorem ze110:zeroOf Tryz.prog 110=some (.agg #[aW,aW,.int .i64 0,aW,.map none,.string ByteArray.empty,aW,aW,aW,aW]):=by kernel_rfl
theorem TQ:zeroOf Tryz.prog 187=some (.agg #[.int .i64 0]):=by kernel_rfl
theorem XM:zeroOf Tryz.prog 22=some (aW):=by kernel_rfl
theorem XL:zeroOf Tryz.prog 23=some (aW):=by kernel_rfl
theorem PN:zeroOf Tryz.prog 54=some (aW):=by kernel_rfl
theorem Kw:zeroOf Tryz.prog 56=some (.agg #[.string ByteArray.empty,aW,aW,aW,aW]):=by kernel_rfl
theorem XK:zeroOf Tryz.prog 9=some (.string ByteArray.empty):=by kernel_rfl
def Ig_(x0:bC)(rJ:T_1)(nX:Nat):Option ((T_1×Nat)⊕(T_1)):=
 iteO (decide ((nX:Int)<((x0.drop 1).length:Int))) (bnd (Hl_ rJ (nth (x0.drop 1) nX [])) (λv21=>grd (0<=v21/\0<=v21.toNat/\v21.toNat<=rJ.length) (nxt ((rJ.take v21.toNat),(nX+1))))) (fin (some rJ))
def H4_(x0:bC):Option (T_1):=
 iteO (decide ((x0.length:Int)=0)) (some ([]:T_1)) (grd (0<x0.length) (grd (1<=x0.length/\x0.length<=x0.length) (iter (λq:T_1×Nat=>Ig_ x0 q.1 q.2) ((nth x0 0 []),0))))
theorem Lk_{σ:aj}{x0:bC}(aC:dH σ bF aB aA x0){r:T_1}(hh:H4_ x0=some r):
  Con prog 178 #[.slice aB x0.length aA] σ [] (jq (.string (bs r)) σ):=by
 dsimp only [H4_]at hh;refine cM 26 Tryz.func178 (λw0=> ?_);refine R11 ?_;refine π z hh (λgW hh=> ?_) (λgW hh=> ?_)
 ·refine R4 ?_;refine η ?_;obtain rfl:=so hh;exact rq [2] ⟨z,z,z⟩
 refine R4 ?_;obtain ⟨u7,hh⟩:=gd hh;refine ι z (A_ (i:=0) z PI EU z z aC.rv.sl (by omega)) (R7 ?_);obtain ⟨u11,hh⟩:=gd hh;obtain ⟨a102,nN,hr102,hv102⟩:=aC.subL 1 (by omega);have hr102b:=hr102.rv.big;refine ι z (hv102 z PI EU z z) (R4 ?_);refine TC.lp hh () (rgs [(3,1),(5,1),(15,10)]) (λ⟨rJ,nX⟩ _=>([(3,.string (bs rJ)),(15,.int .i64 (nX:Int))],[])) (θ 0 z) ?_;rintro ⟨rJ,nX⟩ _ _ z1 hh hR1;dsimp only [Ig_]at hh ⊢;refine R5 ?_;refine π z hh (λiE hh=> ?_) (λiE hh=> ?_)
 ·refine R13 ?_;obtain ⟨v21,u21,hh⟩:=bg hh;refine φ z (gI (Me_ u21) z z pf209 z z z ?_);obtain ⟨u22,hh⟩:=gd hh;refine ι rfl (de_ (l:=rJ) (j:=v21.toNat) rfl kR rfl (by show Value.int _ _=_;rw [Int.toNat_of_nonneg (by omega)]) (by omega) (by omega)) (R6 ?_);exact nxq hR1 hh () (θ 0 z)
 refine R1 ?_;replace hh:=bJ hR1 hh;refine R6 ?_;refine η ?_;obtain rfl:=so hh;exact rq [2] ⟨z,z,z⟩
def E1_(x0:T_1):Option (Int⊕(Unit)):=
 grd (x0.length<=281474976710656) (iteO (decide (4096<(x0.length:Int))) (some (.inl 2)) (some (.inr ())))
theorem Cw_{σ:aj}{x0:T_1}{r:Int⊕(Unit)}(hh:E1_ x0=some r):
  vO prog 179 #[.string (bs x0)] σ [] 187 (λr:Unit=>(jq (.tuple #[]) σ)) r:=by
 dsimp only [E1_]at hh;refine vO.mk (n:=7) Tryz.func179 z z z (λw0=> ?_);obtain ⟨x0b,hh⟩:=gd hh;refine R3 ?_;refine ι z (xq z kR z) (R2 ?_);refine π z hh (λgW hh=> ?_) (λgW hh=> ?_)
 ·refine R2 ?_;refine ι z (b2_ (v:= .agg #[.int .i64 2]) z underlying187 z) (TL.panic z z z ?_);obtain rfl:=so hh;exact z
 refine TC.skip ?_;obtain rfl:=so hh;exact rz
def Dp_(cZ:Nat)(eU:bC)(v6:(List Tip)):Option ((bC×Nat)⊕(Int⊕(T_1×(List Tip)))):=
 grd (cZ<eU.length) (nxt ((eU.set cZ ((nth v6 cZ aY).out)),(cZ+1)))
def Ka_(v6:(List Tip))(v47:T_1)(g_:List Tip)(bT:Nat):Option (((List Tip)×Nat)⊕(Int⊕(T_1×(List Tip)))):=
 iteO (decide ((bT:Int)<(v6.length:Int))) (grd (bT<g_.length) (grd (v47.length<=((nth g_ bT aY).out).length/\((nth g_ bT aY).out).length<=((nth g_ bT aY).out).length) (grd (bT<g_.length) (grd (bT<(g_.set bT (⟨(nth g_ bT aY).state,(((nth g_ bT aY).out).drop v47.length)⟩:Tip)).length) (bnd (E1_ ((nth (g_.set bT (⟨(nth g_ bT aY).state,(((nth g_ bT aY).out).drop v47.length)⟩:Tip)) bT aY).out)) (λv75=>sumE v75 (λv75k=>fin (some (.inl v75k))) (λv75r=>nxt ((g_.set bT (⟨(nth g_ bT aY).state,(((nth g_ bT aY).out).drop v47.length)⟩:Tip)),(bT+1))))))))) (fin (some (.inr (v47,g_))))
def G0_(v6:(List Tip))(eU:bC)(cZ:Nat):Option ((bC×Nat)⊕(Int⊕(T_1×(List Tip)))):=
 iteO (decide ((cZ:Int)<(v6.length:Int))) (iteO (decide (0<(cZ:Int))) (grd (0<=(IntKind.i64.wrap ((cZ:Int) - 1))/\(IntKind.i64.wrap ((cZ:Int) - 1))<(v6.length:Int)) (iteO (decide (((nth v6 ((IntKind.i64.wrap ((cZ:Int) - 1)).toNat) aY).state)=((nth v6 cZ aY).state))) (fin (some (.inl 12))) (Dp_ cZ eU v6))) (Dp_ cZ eU v6)) (fin (bnd (H4_ eU) (λv47=>bnd (E1_ v47) (λv50=>sumE v50 (λv50k=>some (.inl v50k)) (λv50r=>iter (λq:(List Tip)×Nat=>Ka_ v6 v47 q.1 q.2) (v6,0))))))
def Gq_(x0:List Tip):Option (Int⊕(T_1×(List Tip))):=
 bnd (jz_ (rF I7 x0)) (λv6=>grd (16 * v6.length<=281474976710656) (iter (λq:bC×Nat=>G0_ v6 q.1 q.2) ((replicate v6.length ([]:T_1)),0)))
theorem F7_{σ:aj}{x0:List Tip}{r:Int⊕(T_1×(List Tip))}(hh:Gq_ x0=some r):
  vO prog 131 #[.slice ay x0.length au] σ [ε 79 2 bf (.slice ay x0.length au) x0] 187 (λr:T_1×(List Tip)=>(λv σ' H'=> ∃a1 c1,v= .tuple #[.string (bs r.1),.slice a1 r.2.length c1]/\RS σ' 2 bf (.slice a1 r.2.length c1) r.2/\H'=[])) r:=by
 dsimp only [Gq_]at hh;refine vO.mk (n:=74) Tryz.func131 z z z (λw0=> ?_);refine R8 ?_;have hn102:(rF I7 x0).length=x0.length:=List.length_mergeSort _;refine φ z (OpOk.call (Ne_ (l:=x0)) z z Uu z z z z ?_);rintro _ _ _ _ ⟨rfl,hz_,rfl⟩;rw [<-hz_];refine R4 ?_;rw [<-hn102];obtain ⟨v6,u6,hh⟩:=bg hh;refine φ z (OpOk.call (La_ u6) z z Ut z z z z ?_);rintro _ _ _ Nh ⟨a103_1,c103_2,rfl,rfl,rfl⟩;refine R6 ?_;obtain ⟨u10,hh⟩:=gd hh;refine φ z (mk2 (enc:=bF) ([]:T_1) (λa105 F6=> ?_));refine R10 ?_;refine TC.lk hh () (rgs [(5,2),(18,26)]) (λ⟨eU,cZ⟩ _=>([(18,.int .i64 (cZ:Int))],[ε 79 2 bf (.slice a103_1 v6.length c103_2) v6,ε 9 1 bF (.slice a105 (replicate v6.length ([]:T_1)).length F6) eU])) (λ⟨eU,_⟩ _=>eU.length=(replicate v6.length ([]:T_1)).length) z (ψ [1] 2) ?_;rintro ⟨eU,cZ⟩ _ _ z1 hh hR1 wZ;dsimp only [G0_]at hh wZ ⊢;refine ζ 0 z (λN7=> ?_);refine ζ 1 z (λhb118=> ?_);refine R5 ?_;refine π z hh (λh119 hh=> ?_) (λh119 hh=> ?_)
 ·refine R6 ?_;refine TL.iS 0 z (λVl=> ?_);refine R2 ?_;refine TL.al (λb121=> ?_);refine R3 ?_;refine TC.cutG (α:=(Unit)×(Unit)) (rgs [(23,15)]) (λg=>[]) (λg=>[ε 79 2 bf (.slice a103_1 v6.length c103_2) v6,ε 9 1 bF (.slice a105 (replicate v6.length ([]:T_1)).length F6) eU,ω b121 #[.int .i64 ((nth v6 cZ aY).state),.string (bs ((nth v6 cZ aY).out))] 79]) (λg=>σ) (λg=>Dp_ cZ eU v6=some z1/\eU.length=(replicate v6.length ([]:T_1)).length) ?_ (λg j hg=> ?_)
  ·refine TC.seq (TC.dw [] (ν 0 z mI z (ν 1 z (OpVal.gtr z z z) z (ν 2 z mB z (TA.split 25 z (λwz=> ?_) (λwz=> ?_))))))
   ·obtain ⟨wz,hh⟩:=iT wz hh;refine TA.oN 3 z z mS (TA.oN 4 z z mI (TA.oN 5 z z (subW z z z) ?_));obtain ⟨u28,hh⟩:=gd hh;refine TA.isSl (i:=1) z (λhs125 _ _=> ?_);refine TA.oN 6 z z iX (TA.isSl (i:=1) z (λhs126 _ _=> ?_));refine TA.oN 7 z z fE (TA.oN 8 z z (ZJ aY z CW z (q:=1) z iV (by omega) (by omega) z) (TA.oN 9 z z fL (TA.oN 10 z z lL (TA.oN 11 z z (OpVal.eql z z z) (ν 12 z (Gj z z z) z (R1 ?_))))));refine π z hh (λh127 hh=> ?_) (λh127 hh=> ?_)
    ·refine R2 ?_;refine ι z (b2_ (v:= .agg #[.int .i64 12]) z underlying187 z) (TL.panic z z z ?_);replace hh:=bJ hR1 hh;obtain rfl:=so hh;exact z
    refine R1 ?_;exact cf ((),()) ⟨hh,wZ⟩ (ψ [2,2] 3)
   obtain ⟨wz,hh⟩:=iF wz hh;refine TA.of 3 z z (TA.of 4 z z (TA.of 5 z z (TA.of 6 z z (TA.of 7 z z (TA.of 8 z z (TA.of 9 z z (TA.of 10 z z (TA.of 11 z z (ν 12 z (Jo z z z) z (R3 ?_))))))))));exact cf ((),()) ⟨hh,wZ⟩ (ψ [2,2] 3)
  obtain ⟨_,_⟩:=g;obtain ⟨hh,gG⟩:=hg
  try dsimp only at gG ⊢
  dsimp only [Dp_]at hh;refine ζ 0 z (λIB=> ?_);refine ζ 1 z (λhb129=> ?_);refine R5 ?_;obtain ⟨u42,hh⟩:=gd hh;refine TL.iS 1 z (λLV=> ?_);refine ι z iN (κ 1 ?_);have sG:(eU.set cZ ((nth v6 cZ aY).out)).length=(replicate v6.length ([]:T_1)).length:=by rw [fV];exact gG
  refine φ z (sS ((nth v6 cZ aY).out) ?_);refine R5 ?_;exact nk hR1 hh () (ψ [1] 2) sG
 refine R1 ?_;replace hh:=bJ hR1 hh;refine R4 ?_;rw [<-wZ];obtain ⟨v47,PU,hh⟩:=bg hh;refine κ 1 (φ z (OQ (Con.lend eu (λ_ qU hr133=>Lk_ hr133 PU)) z z Uo z z z z ?_));refine R5 ?_;obtain ⟨v50,u50,hh⟩:=bg hh;rcases v50 with v50k|v50r
 ·dsimp only [sumE]at hh;refine TL.RQ z (vO.l (Cw_ u50)) z z v5_ z z (λτ135 Zj=> ?_);obtain rfl:=so hh;exact z
 dsimp only [sumE]at hh;refine φ z (cy_ (Cw_ u50) z z z v5_ z z z ?_);refine R9 ?_;refine TC.lk hh () (rgs [(8,1),(50,22)]) (λ⟨g_,bT⟩ _=>([(50,.int .i64 (bT:Int))],[ε 79 2 bf (.slice a103_1 v6.length c103_2) g_])) (λ⟨g_,_⟩ _=>g_.length=v6.length) z (ψ [1] 1) ?_;rintro ⟨g_,bT⟩ _ _ z1 hh hR1 qK;dsimp only [Ka_]at hh qK ⊢;refine ζ 0 z (λIw=> ?_);refine R5 ?_;refine π z hh (λOg hh=> ?_) (λOg hh=> ?_)
 ·refine R14 ?_;obtain ⟨u61,hh⟩:=gd hh;refine TL.iS 0 z (λhs147=> ?_);refine ι z iN (TL.iS 0 z (λhs148=> ?_));refine ι z fE (ι z (ZJ aY z ag9 z (q:=0) z iV (by omega) (by omega) z) (ι z (IJ (.inl z) z) (ι z (xq z kR z) ?_)));obtain ⟨u66,hh⟩:=gd hh;refine ι z (b5_ (l:=(nth g_ bT aY).out) (i:=v47.length) z kR z z (by omega) (by omega)) ?_;obtain ⟨u67,hh⟩:=gd hh;refine TL.iS 0 z (λLQ=> ?_);refine ι z iN (TL.iS 0 z (λhs150=> ?_));refine ι z fE ?_;have AZ:(g_.set bT (⟨(nth g_ bT aY).state,(((nth g_ bT aY).out).drop v47.length)⟩:Tip)).length=v6.length:=by rw [fV];exact qK
  refine φ rfl (di_ (u:= .string (bs (((nth g_ bT aY).out).drop v47.length))) aY (⟨(nth g_ bT aY).state,(((nth g_ bT aY).out).drop v47.length)⟩:Tip) rfl EU rfl rfl rfl rfl rfl (λc hc=>by rw [List.mem_singleton.1 (show c∈[_]from hc)];rfl) iV (by decide) (by decide) (by omega) ?_);refine R4 ?_;obtain ⟨u72,hh⟩:=gd hh;refine TL.iS 0 z (λhs152=> ?_);refine ι z iN (TL.iS 0 z (λhs153=> ?_));refine ι z fE (ι z (ZJ aY z ag9 z (q:=0) z iV (by omega) (by omega) z) ?_);obtain ⟨v75,u75,hh⟩:=bg hh;rcases v75 with v75k|v75r
  ·dsimp only [sumE]at hh;refine TL.RQ z (vO.l (Cw_ u75)) z z v5_ z z (λτ154 hle154=> ?_);replace hh:=bJ hR1 hh;obtain rfl:=so hh;exact z
  dsimp only [sumE]at hh;refine φ z (cy_ (Cw_ u75) z z z v5_ z z z ?_);refine R5 ?_;exact nk hR1 hh () (θ 1 z) AZ
 refine R1 ?_;replace hh:=bJ hR1 hh;refine R8 ?_;rw [<-qK];refine TC.jO iV (λτ158 hle157 hr156=> ?_);refine η ?_;obtain rfl:=so hh;exact rq [2,3] ⟨a103_1,c103_2,z,hr156,z⟩
def Jl_(x0:List Tip)(dF:T_1)(fQ:Nat):Option ((T_1×Nat)⊕(T_1)):=
 iteO (decide ((fQ:Int)<(x0.length:Int))) (grd (-9223372036854775808<=((nth x0 fQ aY).state)/\((nth x0 fQ aY).state)<=9223372036854775807) (bnd (Df (⟨dF⟩:SB) (Lib.itoa ((nth x0 fQ aY).state))) (λv14=>bnd (G7 (⟨v14.2.2.buf⟩:SB) (58:UInt8)) (λv15=>grd (-9223372036854775808<=(((nth x0 fQ aY).out).length:Int)/\(((nth x0 fQ aY).out).length:Int)<=9223372036854775807) (bnd (Df (⟨v15.2.buf⟩:SB) (Lib.itoa (((nth x0 fQ aY).out).length:Int))) (λv20=>bnd (G7 (⟨v20.2.2.buf⟩:SB) (58:UInt8)) (λv21=>bnd (Df (⟨v21.2.buf⟩:SB) ((nth x0 fQ aY).out)) (λv24=>nxt (v24.2.2.buf,(fQ+1)))))))))) (fin (bnd (Yt (⟨dF⟩:SB)) (λv27=>some v27)))
def Kt_(x0:List Tip):Option (T_1):=
 iter (λq:T_1×Nat=>Jl_ x0 q.1 q.2) (([]:T_1),0)
theorem M2_{σ:aj}{x0:List Tip}(hgl:xu σ 0 2)(aC:RS σ 2 bf (.slice aB x0.length aA) x0){r:T_1}(hh:Kt_ x0=some r):
  Con prog 180 #[.slice aB x0.length aA] σ [] (jq (.string (bs r)) σ):=by
 dsimp only [Kt_]at hh;have f0_0b:=aC.rv.big;refine cM 28 Tryz.func180 (λw0=> ?_);refine R6 ?_;refine TL.al (λaP=> ?_);refine TL.asH (H':=[ω aP #[yH false aP,aW] 121]) z (R9 ?_);refine TC.nilS 5 1 jo (TC.lp hh (false,nO,oO) (rgs [(5,1),(8,19)]) (λ⟨dF,fQ⟩ ⟨XZ,lX,c119⟩=>([(8,.int .i64 (fQ:Int))],[ω aP #[yH XZ aP,.slice lX dF.length c119] 121,dO 5 jo lX c119 dF])) (ψ [1] 2) ?_);rintro ⟨dF,fQ⟩ ⟨XZ,lX,c119⟩ _ z1 hh hR1;dsimp only [Jl_]at hh ⊢;refine ζ 1 z (λNZ=> ?_);refine R5 ?_;refine π z hh (λOj hh=> ?_) (λOj hh=> ?_)
 ·refine R7 ?_;refine TL.al (λb124=> ?_);refine R6 ?_;obtain ⟨u13,hh⟩:=gd hh;refine φ z (gI (nc_ hgl u13) z z xo_ z z z ?_);refine κ 2 (κ 2 ?_);obtain ⟨v14,u14,hh⟩:=bg hh;refine φ z (OpOk.call (Ri u14) z z Qa z z z z ?_);rintro _ _ _ Na ⟨u126_1,a126_2,c126_3,rfl,rfl,rfl⟩;refine R3 ?_;refine κ 1 (κ 1 ?_);obtain ⟨v15,u15,hh⟩:=bg hh;refine φ z (OpOk.call (ia_ u15) z z tc_ z z z z ?_);rintro _ _ _ pz ⟨u128_1,a128_2,c128_3,rfl,rfl,rfl⟩;refine R5 ?_;refine ι z (xq z kR z) ?_;obtain ⟨yG,hh⟩:=gd hh;refine φ z (gI (nc_ hgl yG) z z xo_ z z z ?_);refine κ 1 (κ 1 ?_);obtain ⟨v20,u20,hh⟩:=bg hh;refine φ z (OpOk.call (Ri u20) z z Qa z z z z ?_);rintro _ _ _ tN ⟨u130_1,a130_2,c130_3,rfl,rfl,rfl⟩;refine R3 ?_;refine κ 1 (κ 1 ?_);obtain ⟨v21,u21,hh⟩:=bg hh;refine φ z (OpOk.call (ia_ u21) z z tc_ z z z z ?_);rintro _ _ _ wo ⟨u132_1,a132_2,c132_3,rfl,rfl,rfl⟩;refine R4 ?_;refine κ 1 (κ 1 ?_);obtain ⟨v24,u24,hh⟩:=bg hh;refine φ z (OpOk.call (Ri u24) z z Qa z z z z ?_);rintro _ _ _ qU ⟨u134_1,a134_2,c134_3,rfl,rfl,rfl⟩;refine R5 ?_;exact nxq hR1 hh (u134_1,a134_2,c134_3) (ψ [1,1] 2)
 refine R1 ?_;replace hh:=bJ hR1 hh;refine R3 ?_;refine κ 1 (κ 1 ?_);obtain ⟨v27,u27,hh⟩:=bg hh;refine φ z (OpOk.call (km_ u27) z z Ya z z z z ?_);rintro _ _ _ hle137 ⟨rfl,rfl,rfl⟩;refine R2 ?_;refine η ?_;obtain rfl:=so hh;exact rq [2] ⟨z,z,z⟩
def B2_(x0:Maker)(x1:List Tip):Option (Int⊕(Int×Maker)):=
 bnd (Kt_ x1) (λv3=>iteO (x0.places.has v3) (some (.inr ((x0.places.get v3 0),x0))) (iteO (decide (x0.most<=(x0.rows.length:Int))) (some (.inl 2)) (grd ((x0.rows.length+[x1].length) * 24<=140737488355328) (some (.inr ((x0.rows.length:Int),(⟨x0.arcs,x0.ends,x0.most,(x0.rows++[x1]),(x0.places.put v3 (x0.rows.length:Int)),x0.q⟩:Maker)))))))
theorem Cs_{σ:aj}{x0:Maker}{iW:List (List Tip×(aF 2 bf iV).P)}{z0_14:List (ah×(aF 1 ak aT).P)}{z0_18:List (bC×(aF 1 bF eu).P)}{x1:List Tip}(hgl:xu σ 0 2)(dA:RZ σ (aF 8 fP IE) (.slice ay x0.arcs.length au) x0.arcs)(fO:RZ σ (aF 1 bF eu) (.slice kQ x0.ends.length kL) x0.ends)(zf0_10:ZOk σ (aF 2 bf iV) iW x0.rows)(zf0_15:ZOk σ (aF 1 ak aT) z0_14 x0.q.next)(zf0_19:ZOk σ (aF 1 bF eu) z0_18 x0.q.outs)(bn:RS σ 2 bf (.slice bY x1.length bW) x1){r:Int⊕(Int×Maker)}(hh:B2_ x0 x1=some r):
  vO prog 133 #[loc aZ 0,.slice bY x1.length bW] σ [ω aZ #[.slice ay x0.arcs.length au,.slice kQ x0.ends.length kL,.int .i64 x0.most,.slice jf x0.rows.length je,.map (some b0_11),.string (bs x0.q.front),.slice a0_12 x0.q.next.length c0_13,.slice a0_16 x0.q.outs.length c0_17,.slice a0_20 x0.q.fin.length c0_21,.slice a0_22 x0.q.tail.length c0_23] kE,ε 22 1 (aF 2 bf iV).en (.slice jf x0.rows.length je) iW,Γ iQ gX (some b0_11) x0.places,ε 31 1 (aF 1 ak aT).en (.slice a0_12 x0.q.next.length c0_13) z0_14,ε 54 1 (aF 1 bF eu).en (.slice a0_16 x0.q.outs.length c0_17) z0_18,dO 4 dG a0_20 c0_21 x0.q.fin,dO 9 bF a0_22 c0_23 x0.q.tail] 187 (λr:Int×Maker=>(λv σ' H'=> ∃nH nD, ∃(Gt:List (List Tip×(aF 2 bf iV).P)), ∃II,v= .int .i64 r.1/\ZOk σ' (aF 2 bf iV) Gt r.2.rows/\H'=[ω aZ #[.slice ay x0.arcs.length au,.slice kQ x0.ends.length kL,.int .i64 x0.most,.slice nH r.2.rows.length nD,.map (some II),.string (bs x0.q.front),.slice a0_12 x0.q.next.length c0_13,.slice a0_16 x0.q.outs.length c0_17,.slice a0_20 x0.q.fin.length c0_21,.slice a0_22 x0.q.tail.length c0_23] kE,ε 22 1 (aF 2 bf iV).en (.slice nH r.2.rows.length nD) Gt,Γ iQ gX (some II) r.2.places,ε 31 1 (aF 1 ak aT).en (.slice a0_12 x0.q.next.length c0_13) z0_14,ε 54 1 (aF 1 bF eu).en (.slice a0_16 x0.q.outs.length c0_17) z0_18,dO 4 dG a0_20 c0_21 x0.q.fin,dO 9 bF a0_22 c0_23 x0.q.tail])) r:=by
 dsimp only [B2_]at hh;have zf0_10b:=zf0_10.length;have zf0_15b:=zf0_15.length;have zf0_19b:=zf0_19.length;refine vO.mk (n:=52) Tryz.func133 z z z (λw0=> ?_);refine R7 ?_;obtain ⟨v3,u3,hh⟩:=bg hh;refine φ z (gI (M2_ hgl bn u3) z z pf180 z z z ?_);refine R10 ?_;refine ι z (OpVal.of (Xh 0 (q:=v3) z AQ yF z (i:=2) z z (JH kR)) (v':= .tuple #[.int .i64 (x0.places.get v3 0),.bool (x0.places.has v3)]) z) (R10 ?_);refine TC.cB z hh (λh112 hh=> ?_) (λh112 hh=> ?_)
 ·refine R5 ?_;refine η ?_;obtain rfl:=so hh;exact ry
 refine R20 ?_;refine π z hh (λwB hh=> ?_) (λwB hh=> ?_)
 ·refine R2 ?_;refine ι z (b2_ (v:= .agg #[.int .i64 2]) z underlying187 z) (TL.panic z z z ?_);obtain rfl:=so hh;exact z
 refine R9 ?_;refine κ 2 (φ z (updB v3 (x0.rows.length:Int) z AQ z z z z (JH kR) ?_));refine R9 ?_;have yE:ZOk _ (aF 2 bf iV) ([(x1,(bY,bW))]:List (List Tip×(aF 2 bf iV).P)) [x1]:=ZOk.cons (bn) (ZOk.nil _ _);refine φ z (litZ yE z underlying108 KU z XM z z z (by decide) (by decide) z (by decide) z (by decide) (λmM mJ=> ?_));refine κ 3 ?_;obtain ⟨u48,hh⟩:=gd hh;refine φ z (Jk (k:=(aF 2 bf iV)) zf0_10 yE z z underlying108 KU by22 XM z z (by decide) z z z (.inr ⟨_,0,z⟩) (by simpa using u48) (by decide) (λlX c119 Gx=> ?_));refine R2 ?_;refine κ 3 (R7 ?_);refine Θ (ψ [7,7,7,7,7,6,6] 7) (η ?_);obtain rfl:=so hh;exact ry
def Dg_(x1:List Tip)(bV:Nat)(x0:Maker)(eP:Nat):Option ((Bool×T_1×Nat)⊕((Bool×T_1×Nat)⊕(Int⊕(Bool×T_1)))):=
 nxt (true,((nth x1 bV aY).out++(nth (nth x0.ends (((nth x1 bV aY).state).toNat) []) eP [])),(eP+1))
def Cf_(x0:Maker)(x1:List Tip)(bV:Nat)(Qh:Bool)(Qm:T_1)(eP:Nat):Option ((Bool×T_1×Nat)⊕((Bool×T_1×Nat)⊕(Int⊕(Bool×T_1)))):=
 iteO (decide ((eP:Int)<((nth x0.ends (((nth x1 bV aY).state).toNat) []).length:Int))) (grd (((nth x1 bV aY).out).length+(nth (nth x0.ends (((nth x1 bV aY).state).toNat) []) eP []).length<=9223372036854775807) (iteO Qh (iteO (decide (((nth x1 bV aY).out++(nth (nth x0.ends (((nth x1 bV aY).state).toNat) []) eP []))≠Qm)) (fin (fin (some (.inl 12)))) (Dg_ x1 bV x0 eP)) (Dg_ x1 bV x0 eP))) (fin (nxt (Qh,Qm,(bV+1))))
def Bd_(x1:List Tip)(x0:Maker)(zU:Bool)(xA:T_1)(bV:Nat):Option ((Bool×T_1×Nat)⊕(Int⊕(Bool×T_1))):=
 iteO (decide ((bV:Int)<(x1.length:Int))) (grd (0<=((nth x1 bV aY).state)/\((nth x1 bV aY).state)<(x0.ends.length:Int)) (iter (λq:Bool×T_1×Nat=>Cf_ x0 x1 bV q.1 q.2.1 q.2.2) (zU,xA,0))) (fin (bnd (E1_ xA) (λv49=>sumE v49 (λv49k=>some (.inl v49k)) (λv49r=>some (.inr (zU,xA))))))
def D1_(x0:Maker)(x1:List Tip):Option (Int⊕(Bool×T_1)):=
 iter (λq:Bool×T_1×Nat=>Bd_ x1 x0 q.1 q.2.1 q.2.2) (false,([]:T_1),0)
theorem Ir_{σ:aj}{x0:Maker}{iW:List (List Tip×(aF 2 bf iV).P)}{z0_14:List (ah×(aF 1 ak aT).P)}{z0_18:List (bC×(aF 1 bF eu).P)}{x1:List Tip}(dA:RZ σ (aF 8 fP IE) (.slice ay x0.arcs.length au) x0.arcs)(fO:RZ σ (aF 1 bF eu) (.slice kQ x0.ends.length kL) x0.ends)(zf0_10:ZOk σ (aF 2 bf iV) iW x0.rows)(zf0_15:ZOk σ (aF 1 ak aT) z0_14 x0.q.next)(zf0_19:ZOk σ (aF 1 bF eu) z0_18 x0.q.outs)(bn:RS σ 2 bf (.slice bY x1.length bW) x1){r:Int⊕(Bool×T_1)}(hh:D1_ x0 x1=some r):
  vO prog 181 #[loc aZ 0,.slice bY x1.length bW] σ [ω aZ #[.slice ay x0.arcs.length au,.slice kQ x0.ends.length kL,.int .i64 x0.most,.slice jf x0.rows.length je,.map (some b0_11),.string (bs x0.q.front),.slice a0_12 x0.q.next.length c0_13,.slice a0_16 x0.q.outs.length c0_17,.slice a0_20 x0.q.fin.length c0_21,.slice a0_22 x0.q.tail.length c0_23] kE,ε 22 1 (aF 2 bf iV).en (.slice jf x0.rows.length je) iW,Γ iQ gX (some b0_11) x0.places,ε 31 1 (aF 1 ak aT).en (.slice a0_12 x0.q.next.length c0_13) z0_14,ε 54 1 (aF 1 bF eu).en (.slice a0_16 x0.q.outs.length c0_17) z0_18,dO 4 dG a0_20 c0_21 x0.q.fin,dO 9 bF a0_22 c0_23 x0.q.tail] 187 (λr:Bool×T_1=>(λv σ' H'=>v= .tuple #[.bool r.1,.string (bs r.2)]/\σ=σ'/\H'=[ω aZ #[.slice ay x0.arcs.length au,.slice kQ x0.ends.length kL,.int .i64 x0.most,.slice jf x0.rows.length je,.map (some b0_11),.string (bs x0.q.front),.slice a0_12 x0.q.next.length c0_13,.slice a0_16 x0.q.outs.length c0_17,.slice a0_20 x0.q.fin.length c0_21,.slice a0_22 x0.q.tail.length c0_23] kE,ε 22 1 (aF 2 bf iV).en (.slice jf x0.rows.length je) iW,Γ iQ gX (some b0_11) x0.places,ε 31 1 (aF 1 ak aT).en (.slice a0_12 x0.q.next.length c0_13) z0_14,ε 54 1 (aF 1 bF eu).en (.slice a0_16 x0.q.outs.length c0_17) z0_18,dO 4 dG a0_20 c0_21 x0.q.fin,dO 9 bF a0_22 c0_23 x0.q.tail])) r:=by
 dsimp only [D1_]at hh;have zf0_10b:=zf0_10.length;have zf0_15b:=zf0_15.length;have zf0_19b:=zf0_19.length;have f1_0b:=bn.rv.big;refine vO.mk (n:=51) Tryz.func181 z z z (λw0=> ?_);refine R18 ?_;refine TC.Ak (α:=(Bool×T_1×Nat)×(aj)) (rgs [(6,2),(9,1),(11,2),(15,32)]) (λg=>[(6,.bool g.1.1),(7,.string (bs g.1.2.1)),(15,.int .i64 (g.1.2.2:Int))]) (λg=>[ω aZ #[.slice ay x0.arcs.length au,.slice kQ x0.ends.length kL,.int .i64 x0.most,.slice jf x0.rows.length je,.map (some b0_11),.string (bs x0.q.front),.slice a0_12 x0.q.next.length c0_13,.slice a0_16 x0.q.outs.length c0_17,.slice a0_20 x0.q.fin.length c0_21,.slice a0_22 x0.q.tail.length c0_23] kE,ε 22 1 (aF 2 bf iV).en (.slice jf x0.rows.length je) iW,Γ iQ gX (some b0_11) x0.places,ε 31 1 (aF 1 ak aT).en (.slice a0_12 x0.q.next.length c0_13) z0_14,ε 54 1 (aF 1 bF eu).en (.slice a0_16 x0.q.outs.length c0_17) z0_18,dO 4 dG a0_20 c0_21 x0.q.fin,dO 9 bF a0_22 c0_23 x0.q.tail]) (λg=>g.2) (λg=>iter (λq:Bool×T_1×Nat=>Bd_ x1 x0 q.1 q.2.1 q.2.2) g.1=some r/\ZOk g.2 (aF 2 bf iV) iW x0.rows/\ZOk g.2 (aF 1 ak aT) z0_14 x0.q.next/\ZOk g.2 (aF 1 bF eu) z0_18 x0.q.outs/\aj.le σ g.2) (λg=>rQ (λq:Bool×T_1×Nat=>Bd_ x1 x0 q.1 q.2.1 q.2.2) g.1) ((false,([]:T_1),0),σ) (ψ [6,6,6,6,6,6,6] 7) z (by repeat (first|exact trivial|refine ⟨z,?_⟩)) ⟨hh,zf0_10,zf0_15,zf0_19,(aj.le.refl _)⟩ (λg1 j1 hg1=> ?_);obtain ⟨⟨zU,xA,bV⟩,τ131⟩:=g1;obtain ⟨hh,Ku,Kt,Kr,wo⟩:=hg1
 try dsimp only at Ku
 try dsimp only at Kt
 try dsimp only at Kr
 dsimp only at wo;replace fO:=fO.mono wo;replace bn:=bn.mono wo
 try dsimp only
 obtain ⟨z1,hh,hR1⟩:=zQ hh;dsimp only [Bd_]at hh;have zf125b:=Ku.length;have zf126b:=Kt.length;have zf127b:=Kr.length;refine ζ 1 z (λhb133=> ?_);refine ζ 3 z (λIy=> ?_);refine ζ 4 z (λhb135=> ?_);refine ζ 5 z (λNW=> ?_);refine ζ 6 z (λWZ=> ?_);refine R5 ?_;refine π z hh (λCb hh=> ?_) (λCb hh=> ?_)
 ·refine R7 ?_;refine TL.al (λb139=> ?_);refine R3 ?_;obtain ⟨yG,hh⟩:=gd hh;refine TC.dw [] (ν 0 z mL z (ν 1 z (Ba z z) z (ν 2 z fL z (χ 3 z lL z (ν 4 z fL z (χ 5 z lL z (χ 6 z iX z ?_)))))));obtain ⟨QE,Eh,hg142⟩:=RZ.seg fO (((nth x1 bV aY).state).toNat) (by omega);replace Eh:RS _ 1 bF (.slice QE.1 (nth x0.ends (((nth x1 bV aY).state).toNat) []).length QE.2) (nth x0.ends (((nth x1 bV aY).state).toNat) []):=Eh;have hk142b:=Eh.rv.big;refine χ 7 z (OpVal.of (qw z KN z hg142 z) (v':= .slice QE.1 ((nth x0.ends (((nth x1 bV aY).state).toNat) []).length) QE.2) z) z (χ 8 z lC z (ν 9 z mI z (R2 ?_)));refine TC.Ak (α:=(Bool×T_1×Nat)×(aj)) (rgs [(6,2),(11,2),(28,18)]) (λg=>[(6,.bool g.1.1),(7,.string (bs g.1.2.1)),(28,.int .i64 (g.1.2.2:Int))]) (λg=>[ω aZ #[.slice ay x0.arcs.length au,.slice kQ x0.ends.length kL,.int .i64 x0.most,.slice jf x0.rows.length je,.map (some b0_11),.string (bs x0.q.front),.slice a0_12 x0.q.next.length c0_13,.slice a0_16 x0.q.outs.length c0_17,.slice a0_20 x0.q.fin.length c0_21,.slice a0_22 x0.q.tail.length c0_23] kE,ε 22 1 (aF 2 bf iV).en (.slice jf x0.rows.length je) iW,Γ iQ gX (some b0_11) x0.places,ε 31 1 (aF 1 ak aT).en (.slice a0_12 x0.q.next.length c0_13) z0_14,ε 54 1 (aF 1 bF eu).en (.slice a0_16 x0.q.outs.length c0_17) z0_18,dO 4 dG a0_20 c0_21 x0.q.fin,dO 9 bF a0_22 c0_23 x0.q.tail,ω b139 #[.int .i64 ((nth x1 bV aY).state),.string (bs ((nth x1 bV aY).out))] 79]) (λg=>g.2) (λg=>iter (λq:Bool×T_1×Nat=>Cf_ x0 x1 bV q.1 q.2.1 q.2.2) g.1=some z1/\ZOk g.2 (aF 2 bf iV) iW x0.rows/\ZOk g.2 (aF 1 ak aT) z0_14 x0.q.next/\ZOk g.2 (aF 1 bF eu) z0_18 x0.q.outs/\aj.le τ131 g.2) (λg=>rQ (λq:Bool×T_1×Nat=>Cf_ x0 x1 bV q.1 q.2.1 q.2.2) g.1) ((zU,xA,0),τ131) (ψ [7,7,7,7,7,7,7] 8) z (by repeat (first|exact trivial|refine ⟨z,?_⟩)) ⟨hh,Ku,Kt,Kr,(aj.le.refl _)⟩ (λg2 j2 hg2=> ?_);obtain ⟨⟨Qh,Qm,eP⟩,τ164⟩:=g2;obtain ⟨hh,uw,kG,yD,BX⟩:=hg2
  try dsimp only at uw
  try dsimp only at kG
  try dsimp only at yD
  dsimp only at BX;replace Eh:=Eh.mono BX
  try dsimp only
  obtain ⟨z2,hh,hR2⟩:=zQ hh;dsimp only [Cf_]at hh;have zf158b:=uw.length;have zf159b:=kG.length;have zf160b:=yD.length;refine ζ 1 z (λWW=> ?_);refine ζ 3 z (λhb167=> ?_);refine ζ 4 z (λhb168=> ?_);refine ζ 5 z (λWV=> ?_);refine ζ 6 z (λIp=> ?_);refine R5 ?_;refine π z hh (λZx hh=> ?_) (λZx hh=> ?_)
  ·refine R14 ?_;obtain ⟨u30,hh⟩:=gd hh;refine ι z (cs_ z z z u30) (R2 ?_);refine TC.cutG (α:=(Unit)×(aj)) (rgs [(36,8)]) (λg=>[]) (λg=>[ω aZ #[.slice ay x0.arcs.length au,.slice kQ x0.ends.length kL,.int .i64 x0.most,.slice jf x0.rows.length je,.map (some b0_11),.string (bs x0.q.front),.slice a0_12 x0.q.next.length c0_13,.slice a0_16 x0.q.outs.length c0_17,.slice a0_20 x0.q.fin.length c0_21,.slice a0_22 x0.q.tail.length c0_23] kE,ε 22 1 (aF 2 bf iV).en (.slice jf x0.rows.length je) iW,Γ iQ gX (some b0_11) x0.places,ε 31 1 (aF 1 ak aT).en (.slice a0_12 x0.q.next.length c0_13) z0_14,ε 54 1 (aF 1 bF eu).en (.slice a0_16 x0.q.outs.length c0_17) z0_18,dO 4 dG a0_20 c0_21 x0.q.fin,dO 9 bF a0_22 c0_23 x0.q.tail,ω b139 #[.int .i64 ((nth x1 bV aY).state),.string (bs ((nth x1 bV aY).out))] 79]) (λg=>g.2) (λg=>Dg_ x1 bV x0 eP=some z2/\ZOk g.2 (aF 2 bf iV) iW x0.rows/\ZOk g.2 (aF 1 ak aT) z0_14 x0.q.next/\ZOk g.2 (aF 1 bF eu) z0_18 x0.q.outs/\aj.le τ164 g.2) ?_ (λg j hg=> ?_)
   ·refine R4 ?_;refine δ 37 z (λN_=> ?_) (λN_=> ?_)
    ·replace hh:=uZ N_ hh;refine R2 ?_;refine TL.g z (c6_ z z z) (R2 ?_);refine π z hh (λh176 hh=> ?_) (λh176 hh=> ?_)
     ·refine R2 ?_;refine ι z (b2_ (v:= .agg #[.int .i64 12]) z underlying187 z) (TL.panic z z z ?_);replace hh:=bJ hR2 hh;replace hh:=bJ hR1 hh;obtain rfl:=so hh;exact z
     refine R1 ?_;exact cf ((),τ164) ⟨hh,uw,kG,yD,(aj.le.refl _)⟩ (ψ [7,7,7,7,7,7,7,7] 8)
    replace hh:=u_ N_ hh;refine R7 ?_;exact cf ((),τ164) ⟨hh,uw,kG,yD,(aj.le.refl _)⟩ (ψ [7,7,7,7,7,7,7,7] 8)
   obtain ⟨_,τ177⟩:=g;obtain ⟨hh,Dq,Dp,J8,zy⟩:=hg
   try dsimp only at Dq
   try dsimp only at Dp
   try dsimp only at J8
   dsimp only at zy;replace uw:=uw.mono zy;replace kG:=kG.mono zy;replace yD:=yD.mono zy
   try dsimp only
   dsimp only [Dg_]at hh;have zf172b:=Dq.length;have zf173b:=Dp.length;have zf174b:=J8.length;refine ζ 1 z (λWT=> ?_);refine ζ 3 z (λWS=> ?_);refine ζ 4 z (λhb181=> ?_);refine ζ 5 z (λhb182=> ?_);refine ζ 6 z (λhb183=> ?_);refine R9 ?_;obtain ⟨hh,Y0⟩:=xP hR2 hh;exact lf ((true,((nth x1 bV aY).out++(nth (nth x0.ends (((nth x1 bV aY).state).toNat) []) eP [])),(eP+1)),τ177) Y0 ⟨hh,Dq,Dp,J8,(BX.trans zy)⟩ (ψ [7,7,7,7,7,7,7,7] 8)
  refine R1 ?_;replace hh:=bJ hR2 hh;refine R5 ?_;obtain ⟨hh,YZ⟩:=xP hR1 hh;exact lf ((Qh,Qm,(bV+1)),τ164) YZ ⟨hh,uw,kG,yD,(wo.trans BX)⟩ (ψ [6,6,6,6,6,6,6] 7)
 refine R1 ?_;replace hh:=bJ hR1 hh;refine R4 ?_;obtain ⟨v49,u49,hh⟩:=bg hh;rcases v49 with v49k|v49r
 ·dsimp only [sumE]at hh;refine TL.RQ z (vO.l (Cw_ u49)) z z v5_ z z (λτ186 hle186=> ?_);obtain rfl:=so hh;exact z
 dsimp only [sumE]at hh;refine φ z (cy_ (Cw_ u49) z z z v5_ z z z ?_);refine R8 ?_;refine TC.back (η ?_);obtain rfl:=so hh;exact rz
def Cq_(lN:Nat)(Yq:List Tip):Option (((List Tip)×Nat)⊕(((List Tip)×Nat)⊕((List Tip)))):=
 nxt (Yq,(lN+1))
def Cr_(dI:List Tip)(lN:Nat)(KF:Tip):Option (((List Tip)×Nat)⊕(((List Tip)×Nat)⊕((List Tip)))):=
 grd ((dI.length+[KF].length) * 24<=140737488355328) (Cq_ lN (dI++[KF]))
def Bh_(x0:Maker)(x1:List Tip)(b_:Nat)(x2:UInt8)(dI:List Tip)(lN:Nat):Option (((List Tip)×Nat)⊕(((List Tip)×Nat)⊕((List Tip)))):=
 iteO (decide ((lN:Int)<((nth x0.arcs (((nth x1 b_ aY).state).toNat) []).length:Int))) (iteO (!(((nth (nth x0.arcs (((nth x1 b_ aY).state).toNat) []) lN aQ).set).has x2.toNat)) (Cq_ lN dI) (grd (((nth x1 b_ aY).out).length+((nth (nth x0.arcs (((nth x1 b_ aY).state).toNat) []) lN aQ).out).length<=9223372036854775807) (iteO ((nth (nth x0.arcs (((nth x1 b_ aY).state).toNat) []) lN aQ).copy) (grd (((nth x1 b_ aY).out++(nth (nth x0.arcs (((nth x1 b_ aY).state).toNat) []) lN aQ).out).length+[x2].length<=9223372036854775807) (Cr_ dI lN (⟨(nth (nth x0.arcs (((nth x1 b_ aY).state).toNat) []) lN aQ).to,(((nth x1 b_ aY).out++(nth (nth x0.arcs (((nth x1 b_ aY).state).toNat) []) lN aQ).out)++[x2])⟩:Tip))) (Cr_ dI lN (⟨(nth (nth x0.arcs (((nth x1 b_ aY).state).toNat) []) lN aQ).to,((nth x1 b_ aY).out++(nth (nth x0.arcs (((nth x1 b_ aY).state).toNat) []) lN aQ).out)⟩:Tip))))) (fin (nxt (dI,(b_+1))))
def Av_(x1:List Tip)(x0:Maker)(x2:UInt8)(kZ:List Tip)(b_:Nat):Option (((List Tip)×Nat)⊕((List Tip))):=
 iteO (decide ((b_:Int)<(x1.length:Int))) (grd (0<=((nth x1 b_ aY).state)/\((nth x1 b_ aY).state)<(x0.arcs.length:Int)) (iter (λq:(List Tip)×Nat=>Bh_ x0 x1 b_ x2 q.1 q.2) (kZ,0))) (fin (some kZ))
def Co_(x0:Maker)(x1:List Tip)(x2:UInt8):Option ((List Tip)):=
 iter (λq:(List Tip)×Nat=>Av_ x1 x0 x2 q.1 q.2) (([]:List Tip),0)
theorem Kz_{σ:aj}{x0:Maker}{iW:List (List Tip×(aF 2 bf iV).P)}{z0_14:List (ah×(aF 1 ak aT).P)}{z0_18:List (bC×(aF 1 bF eu).P)}{x1:List Tip}{x2:UInt8}(dA:RZ σ (aF 8 fP IE) (.slice ay x0.arcs.length au) x0.arcs)(fO:RZ σ (aF 1 bF eu) (.slice kQ x0.ends.length kL) x0.ends)(zf0_10:ZOk σ (aF 2 bf iV) iW x0.rows)(zf0_15:ZOk σ (aF 1 ak aT) z0_14 x0.q.next)(zf0_19:ZOk σ (aF 1 bF eu) z0_18 x0.q.outs)(bn:RS σ 2 bf (.slice bY x1.length bW) x1){r:(List Tip)}(hh:Co_ x0 x1 x2=some r):
  Con prog 182 #[loc aZ 0,.slice bY x1.length bW,.int .u8 (x2.toNat:Int)] σ [ω aZ #[.slice ay x0.arcs.length au,.slice kQ x0.ends.length kL,.int .i64 x0.most,.slice jf x0.rows.length je,.map (some b0_11),.string (bs x0.q.front),.slice a0_12 x0.q.next.length c0_13,.slice a0_16 x0.q.outs.length c0_17,.slice a0_20 x0.q.fin.length c0_21,.slice a0_22 x0.q.tail.length c0_23] kE,ε 22 1 (aF 2 bf iV).en (.slice jf x0.rows.length je) iW,Γ iQ gX (some b0_11) x0.places,ε 31 1 (aF 1 ak aT).en (.slice a0_12 x0.q.next.length c0_13) z0_14,ε 54 1 (aF 1 bF eu).en (.slice a0_16 x0.q.outs.length c0_17) z0_18,dO 4 dG a0_20 c0_21 x0.q.fin,dO 9 bF a0_22 c0_23 x0.q.tail] (λv σ' H'=> ∃a1 c1,v= .slice a1 r.length c1/\σ=σ'/\H'=[ε 79 2 bf (.slice a1 r.length c1) r,ω aZ #[.slice ay x0.arcs.length au,.slice kQ x0.ends.length kL,.int .i64 x0.most,.slice jf x0.rows.length je,.map (some b0_11),.string (bs x0.q.front),.slice a0_12 x0.q.next.length c0_13,.slice a0_16 x0.q.outs.length c0_17,.slice a0_20 x0.q.fin.length c0_21,.slice a0_22 x0.q.tail.length c0_23] kE,ε 22 1 (aF 2 bf iV).en (.slice jf x0.rows.length je) iW,Γ iQ gX (some b0_11) x0.places,ε 31 1 (aF 1 ak aT).en (.slice a0_12 x0.q.next.length c0_13) z0_14,ε 54 1 (aF 1 bF eu).en (.slice a0_16 x0.q.outs.length c0_17) z0_18,dO 4 dG a0_20 c0_21 x0.q.fin,dO 9 bF a0_22 c0_23 x0.q.tail]):=by
 dsimp only [Co_]at hh;have zf0_10b:=zf0_10.length;have zf0_15b:=zf0_15.length;have zf0_19b:=zf0_19.length;have f1_0b:=bn.rv.big;refine cM 61 Tryz.func182 (λw0=> ?_);refine R16 ?_;refine TC.nilS 79 2 bf (TC.Ak (α:=((List Tip)×Nat)×((Option Addr)×Nat×aj)) (rgs [(7,1),(9,1),(11,2),(15,45)]) (λg=>[(7,.slice g.2.1 g.1.1.length g.2.2.1),(15,.int .i64 (g.1.2:Int))]) (λg=>[ω aZ #[.slice ay x0.arcs.length au,.slice kQ x0.ends.length kL,.int .i64 x0.most,.slice jf x0.rows.length je,.map (some b0_11),.string (bs x0.q.front),.slice a0_12 x0.q.next.length c0_13,.slice a0_16 x0.q.outs.length c0_17,.slice a0_20 x0.q.fin.length c0_21,.slice a0_22 x0.q.tail.length c0_23] kE,ε 22 1 (aF 2 bf iV).en (.slice jf x0.rows.length je) iW,Γ iQ gX (some b0_11) x0.places,ε 31 1 (aF 1 ak aT).en (.slice a0_12 x0.q.next.length c0_13) z0_14,ε 54 1 (aF 1 bF eu).en (.slice a0_16 x0.q.outs.length c0_17) z0_18,dO 4 dG a0_20 c0_21 x0.q.fin,dO 9 bF a0_22 c0_23 x0.q.tail,ε 79 2 bf (.slice g.2.1 g.1.1.length g.2.2.1) g.1.1]) (λg=>g.2.2.2) (λg=>iter (λq:(List Tip)×Nat=>Av_ x1 x0 x2 q.1 q.2) g.1=some r/\ZOk g.2.2.2 (aF 2 bf iV) iW x0.rows/\ZOk g.2.2.2 (aF 1 ak aT) z0_14 x0.q.next/\ZOk g.2.2.2 (aF 1 bF eu) z0_18 x0.q.outs/\aj.le σ g.2.2.2) (λg=>rQ (λq:(List Tip)×Nat=>Av_ x1 x0 x2 q.1 q.2) g.1) ((([]:List Tip),0),(none,0,σ)) (ψ [7,7,7,7,7,7,7] 8) z (by repeat (first|exact trivial|refine ⟨z,?_⟩)) ⟨hh,zf0_10,zf0_15,zf0_19,(aj.le.refl _)⟩ (λg1 j1 hg1=> ?_));obtain ⟨⟨kZ,b_⟩,⟨yu,yc,τ138⟩⟩:=g1;obtain ⟨hh,Kq,Ko,J_,vZ⟩:=hg1
 try dsimp only at Kq
 try dsimp only at Ko
 try dsimp only at J_
 dsimp only at vZ;replace dA:=dA.mono vZ;replace bn:=bn.mono vZ
 try dsimp only
 obtain ⟨z1,hh,hR1⟩:=zQ hh;dsimp only [Av_]at hh;have zf129b:=Kq.length;have zf130b:=Ko.length;have zf131b:=J_.length;refine ζ 1 z (λhb140=> ?_);refine ζ 3 z (λhb141=> ?_);refine ζ 4 z (λhb142=> ?_);refine ζ 5 z (λNV=> ?_);refine ζ 6 z (λhb144=> ?_);refine ζ 7 z (λIw=> ?_);refine R5 ?_;refine π z hh (λOg hh=> ?_) (λOg hh=> ?_)
 ·refine R7 ?_;refine TL.al (λb147=> ?_);refine R3 ?_;obtain ⟨GZ,hh⟩:=gd hh;refine TC.dw [] (ν 0 z mL z (ν 1 z (Ba z z) z (ν 2 z fL z (χ 3 z lL z (ν 4 z fL z (χ 5 z lL z (χ 6 z iX z ?_)))))));obtain ⟨zW,uN,NC⟩:=RZ.seg dA (((nth x1 b_ aY).state).toNat) (by omega);replace uN:RS _ 8 fP (.slice zW.1 (nth x0.arcs (((nth x1 b_ aY).state).toNat) []).length zW.2) (nth x0.arcs (((nth x1 b_ aY).state).toNat) []):=uN;have hk150b:=uN.rv.big;refine χ 7 z (OpVal.of (qw z wt_ z NC z) (v':= .slice zW.1 ((nth x0.arcs (((nth x1 b_ aY).state).toNat) []).length) zW.2) z) z (χ 8 z lC z (ν 9 z mI z (R2 ?_)));refine TC.Ak (α:=((List Tip)×Nat)×((Option Addr)×Nat×aj)) (rgs [(7,1),(11,2),(28,31)]) (λg=>[(7,.slice g.2.1 g.1.1.length g.2.2.1),(28,.int .i64 (g.1.2:Int))]) (λg=>[ω aZ #[.slice ay x0.arcs.length au,.slice kQ x0.ends.length kL,.int .i64 x0.most,.slice jf x0.rows.length je,.map (some b0_11),.string (bs x0.q.front),.slice a0_12 x0.q.next.length c0_13,.slice a0_16 x0.q.outs.length c0_17,.slice a0_20 x0.q.fin.length c0_21,.slice a0_22 x0.q.tail.length c0_23] kE,ε 22 1 (aF 2 bf iV).en (.slice jf x0.rows.length je) iW,Γ iQ gX (some b0_11) x0.places,ε 31 1 (aF 1 ak aT).en (.slice a0_12 x0.q.next.length c0_13) z0_14,ε 54 1 (aF 1 bF eu).en (.slice a0_16 x0.q.outs.length c0_17) z0_18,dO 4 dG a0_20 c0_21 x0.q.fin,dO 9 bF a0_22 c0_23 x0.q.tail,ε 79 2 bf (.slice g.2.1 g.1.1.length g.2.2.1) g.1.1,ω b147 #[.int .i64 ((nth x1 b_ aY).state),.string (bs ((nth x1 b_ aY).out))] 79]) (λg=>g.2.2.2) (λg=>iter (λq:(List Tip)×Nat=>Bh_ x0 x1 b_ x2 q.1 q.2) g.1=some z1/\ZOk g.2.2.2 (aF 2 bf iV) iW x0.rows/\ZOk g.2.2.2 (aF 1 ak aT) z0_14 x0.q.next/\ZOk g.2.2.2 (aF 1 bF eu) z0_18 x0.q.outs/\aj.le τ138 g.2.2.2) (λg=>rQ (λq:(List Tip)×Nat=>Bh_ x0 x1 b_ x2 q.1 q.2) g.1) ((kZ,0),(yu,yc,τ138)) (ψ [8,8,8,8,8,8,8,8] 9) z (by repeat (first|exact trivial|refine ⟨z,?_⟩)) ⟨hh,Kq,Ko,J_,(aj.le.refl _)⟩ (λg2 j2 hg2=> ?_);obtain ⟨⟨dI,lN⟩,⟨EC,c173,τ175⟩⟩:=g2;obtain ⟨hh,rZ,iJ,kX,BR⟩:=hg2
  try dsimp only at rZ
  try dsimp only at iJ
  try dsimp only at kX
  dsimp only at BR;replace uN:=uN.mono BR
  try dsimp only
  obtain ⟨z2,hh,hR2⟩:=zQ hh;dsimp only [Bh_]at hh;have zf168b:=rZ.length;have zf169b:=iJ.length;have zf170b:=kX.length;refine ζ 1 z (λhb177=> ?_);refine ζ 3 z (λhb178=> ?_);refine ζ 4 z (λWT=> ?_);refine ζ 5 z (λWS=> ?_);refine ζ 6 z (λhb181=> ?_);refine ζ 7 z (λhb182=> ?_);refine R5 ?_;refine π z hh (λh183 hh=> ?_) (λh183 hh=> ?_)
  ·refine R1 ?_;refine TC.cutG (α:=((List Tip))×((Option Addr)×Nat×aj)) (rgs [(7,1),(11,2),(30,28)]) (λg=>[(7,.slice g.2.1 g.1.length g.2.2.1)]) (λg=>[ω aZ #[.slice ay x0.arcs.length au,.slice kQ x0.ends.length kL,.int .i64 x0.most,.slice jf x0.rows.length je,.map (some b0_11),.string (bs x0.q.front),.slice a0_12 x0.q.next.length c0_13,.slice a0_16 x0.q.outs.length c0_17,.slice a0_20 x0.q.fin.length c0_21,.slice a0_22 x0.q.tail.length c0_23] kE,ε 22 1 (aF 2 bf iV).en (.slice jf x0.rows.length je) iW,Γ iQ gX (some b0_11) x0.places,ε 31 1 (aF 1 ak aT).en (.slice a0_12 x0.q.next.length c0_13) z0_14,ε 54 1 (aF 1 bF eu).en (.slice a0_16 x0.q.outs.length c0_17) z0_18,dO 4 dG a0_20 c0_21 x0.q.fin,dO 9 bF a0_22 c0_23 x0.q.tail,ε 79 2 bf (.slice g.2.1 g.1.length g.2.2.1) g.1,ω b147 #[.int .i64 ((nth x1 b_ aY).state),.string (bs ((nth x1 b_ aY).out))] 79]) (λg=>g.2.2.2) (λg=>Cq_ lN g.1=some z2/\ZOk g.2.2.2 (aF 2 bf iV) iW x0.rows/\ZOk g.2.2.2 (aF 1 ak aT) z0_14 x0.q.next/\ZOk g.2.2.2 (aF 1 bF eu) z0_18 x0.q.outs/\aj.le τ175 g.2.2.2) ?_ (λg j hg=> ?_)
   ·refine R5 ?_;refine TL.al (λb190=> ?_);refine R8 ?_;refine φ z (gI (np_ _ ((nth (nth x0.arcs (((nth x1 b_ aY).state).toNat) []) lN aQ).set) x2.toNat (BSet.isOk _) (UInt8.toNat_lt _)) z z tu_ z z z ?_);refine R2 ?_;refine TC.cB z hh (λh192 hh=> ?_) (λh192 hh=> ?_)
    ·refine R2 ?_;exact cf (dI,(EC,c173,τ175)) ⟨hh,rZ,iJ,kX,(aj.le.refl _)⟩ (ψ [9,9,9,9,9,9,9,9,9] 9)
    refine R9 ?_;obtain ⟨u37,hh⟩:=gd hh;refine ι z (cs_ z z z u37) (ι z bL (TL.al (λb193=> ?_)));refine R2 ?_;refine TC.cutG (α:=(Tip)×(aj)) (rgs [(45,9)]) (λg=>[]) (λg=>[ω aZ #[.slice ay x0.arcs.length au,.slice kQ x0.ends.length kL,.int .i64 x0.most,.slice jf x0.rows.length je,.map (some b0_11),.string (bs x0.q.front),.slice a0_12 x0.q.next.length c0_13,.slice a0_16 x0.q.outs.length c0_17,.slice a0_20 x0.q.fin.length c0_21,.slice a0_22 x0.q.tail.length c0_23] kE,ε 22 1 (aF 2 bf iV).en (.slice jf x0.rows.length je) iW,Γ iQ gX (some b0_11) x0.places,ε 31 1 (aF 1 ak aT).en (.slice a0_12 x0.q.next.length c0_13) z0_14,ε 54 1 (aF 1 bF eu).en (.slice a0_16 x0.q.outs.length c0_17) z0_18,dO 4 dG a0_20 c0_21 x0.q.fin,dO 9 bF a0_22 c0_23 x0.q.tail,ε 79 2 bf (.slice EC dI.length c173) dI,ω b147 #[.int .i64 ((nth x1 b_ aY).state),.string (bs ((nth x1 b_ aY).out))] 79,ω b193 #[.int .i64 g.1.state,.string (bs g.1.out)] 79]) (λg=>g.2) (λg=>Cr_ dI lN g.1=some z2/\ZOk g.2 (aF 2 bf iV) iW x0.rows/\ZOk g.2 (aF 1 ak aT) z0_14 x0.q.next/\ZOk g.2 (aF 1 bF eu) z0_18 x0.q.outs/\aj.le τ175 g.2) ?_ (λg j hg=> ?_)
    ·refine R5 ?_;refine TC.cB z hh (λh199 hh=> ?_) (λh199 hh=> ?_)
     ·refine R4 ?_;refine φ z (jc (enc:=jo) [x2] (λJq c201=> ?_));refine TL.iS 0 z (λhs203=> ?_);refine ι z (bg_ (l:=[x2]) z underlying84 yw kR z hs203 (λw hw=>rdb_row (q:=0) z hw)) ?_;obtain ⟨u48,hh⟩:=gd hh;refine ι z (cs_ z z z u48) (ι z fL (κ 1 (φ z (cn_ z EU z z z z z ?_))));refine R1 ?_;exact cf ((⟨(nth (nth x0.arcs (((nth x1 b_ aY).state).toNat) []) lN aQ).to,(((nth x1 b_ aY).out++(nth (nth x0.arcs (((nth x1 b_ aY).state).toNat) []) lN aQ).out)++[x2])⟩:Tip),τ175) ⟨hh,rZ,iJ,kX,(aj.le.refl _)⟩ (ψ [11,11,11,11,11,11,11,11,11] 10)
     refine R1 ?_;exact cf ((⟨(nth (nth x0.arcs (((nth x1 b_ aY).state).toNat) []) lN aQ).to,((nth x1 b_ aY).out++(nth (nth x0.arcs (((nth x1 b_ aY).state).toNat) []) lN aQ).out)⟩:Tip),τ175) ⟨hh,rZ,iJ,kX,(aj.le.refl _)⟩ (ψ [10,10,10,10,10,10,10,10,10] 10)
    obtain ⟨KF,τ204⟩:=g;obtain ⟨hh,yB,jg,AO,vY⟩:=hg
    try dsimp only at yB
    try dsimp only at jg
    try dsimp only at AO
    dsimp only at vY;replace rZ:=rZ.mono vY;replace iJ:=iJ.mono vY;replace kX:=kX.mono vY
    try dsimp only
    dsimp only [Cr_]at hh;have zf195b:=yB.length;have zf196b:=jg.length;have zf197b:=AO.length;refine ζ 1 z (λhb206=> ?_);refine ζ 3 z (λhb207=> ?_);refine ζ 4 z (λWR=> ?_);refine ζ 5 z (λNQ=> ?_);refine ζ 6 z (λNM=> ?_);refine ζ 7 z (λNK=> ?_);refine R3 ?_;refine φ z (jc (enc:=bf) [KF] (λa212 c213=> ?_));refine κ 8 ?_;obtain ⟨u54,hh⟩:=gd hh;refine φ z (apF (.inr ⟨_,0,z⟩) u54 (λa215 c216=> ?_));refine R2 ?_;exact cf ((dI++[KF]),(a215,c216,τ204)) ⟨hh,yB,jg,AO,vY⟩ (ψ [9,1,9,9,9,9,9,9,9] 9)
   obtain ⟨Yq,⟨rW,rU,τ217⟩⟩:=g;obtain ⟨hh,J7,Dn,J6,vX⟩:=hg
   try dsimp only at J7
   try dsimp only at Dn
   try dsimp only at J6
   dsimp only at vX;replace rZ:=rZ.mono vX;replace iJ:=iJ.mono vX;replace kX:=kX.mono vX
   try dsimp only
   dsimp only [Cq_]at hh;have zf184b:=J7.length;have zf185b:=Dn.length;have zf186b:=J6.length;refine ζ 1 z (λhb219=> ?_);refine ζ 3 z (λhb220=> ?_);refine ζ 4 z (λhb221=> ?_);refine ζ 5 z (λWM=> ?_);refine ζ 6 z (λWL=> ?_);refine ζ 7 z (λWJ=> ?_);refine R4 ?_;obtain ⟨hh,YW⟩:=xP hR2 hh;exact lf ((Yq,(lN+1)),(rW,rU,τ217)) YW ⟨hh,J7,Dn,J6,(BR.trans vX)⟩ (ψ [8,8,8,8,8,8,8,8,8] 9)
  refine R1 ?_;replace hh:=bJ hR2 hh;refine R5 ?_;obtain ⟨hh,YV⟩:=xP hR1 hh;exact lf ((dI,(b_+1)),(EC,c173,τ175)) YV ⟨hh,rZ,iJ,kX,(vZ.trans BR)⟩ (ψ [7,7,7,7,7,7,7,7] 8)
 refine R1 ?_;replace hh:=bJ hR1 hh;refine R6 ?_;refine Θ (ψ [6,6,6,6,6,6,6,7] 8) (TC.back (η ?_));obtain rfl:=so hh;exact rz
def B0_(x0:Maker)(x1:Int)(v11r:Bool×T_1)(qI:List (List Tip))(qE:FM T_1 Int)(cO:ah)(oJ:bC)(dQ:Nat):Option (((List (List Tip))×(FM T_1 Int)×ah×bC×Nat)⊕(Int⊕(Maker))):=
 iteO (decide ((dQ:Int)<256)) (grd (dQ<cO.length) (bnd (Co_ (⟨x0.arcs,x0.ends,x0.most,qI,qE,x0.q⟩:Maker) (nth x0.rows x1.toNat []) (jd (dQ:Int))) (λv33=>iteO (decide (0<(v33.length:Int))) (bnd (Gq_ v33) (λv41=>sumE v41 (λv41k=>fin (some (.inl v41k))) (λv41r=>grd (dQ<oJ.length) (bnd (B2_ (⟨x0.arcs,x0.ends,x0.most,qI,qE,x0.q⟩:Maker) v41r.2) (λv52=>sumE v52 (λv52k=>fin (some (.inl v52k))) (λv52r=>grd (dQ<(cO.set dQ (-1)).length) (nxt (v52r.2.rows,v52r.2.places,((cO.set dQ (-1)).set dQ v52r.1),(oJ.set dQ v41r.1),(dQ+1))))))))) (nxt (qI,qE,(cO.set dQ (-1)),oJ,(dQ+1)))))) (fin (grd ((x0.q.next.length+[cO].length) * 24<=140737488355328) (grd ((x0.q.outs.length+[oJ].length) * 24<=140737488355328) (grd ((x0.q.fin.length+[v11r.1].length) * 1<=140737488355328) (grd ((x0.q.tail.length+[v11r.2].length) * 16<=140737488355328) (some (.inr (⟨x0.arcs,x0.ends,x0.most,qI,qE,(⟨x0.q.front,(x0.q.next++[cO]),(x0.q.outs++[oJ]),(x0.q.fin++[v11r.1]),(x0.q.tail++[v11r.2])⟩:Seq)⟩:Maker))))))))
def C6_(x0:Maker)(x1:Int)(v11r:Bool×T_1):Option (Int⊕(Maker)):=
 iter (λq:(List (List Tip))×(FM T_1 Int)×ah×bC×Nat=>B0_ x0 x1 v11r q.1 q.2.1 q.2.2.1 q.2.2.2.1 q.2.2.2.2) (x0.rows,x0.places,(replicate 256 (0:Int)),(replicate 256 ([]:T_1)),0)
def Ev_(x0:Maker)(x1:Int):Option (Int⊕(Maker)):=
 grd (0<=x1/\x1<(x0.rows.length:Int)) (bnd (D1_ x0 (nth x0.rows x1.toNat [])) (λv11=>sumE v11 (λv11k=>some (.inl v11k)) (λv11r=>C6_ x0 x1 v11r)))
theorem Jr_{σ:aj}{x0:Maker}{iW:List (List Tip×(aF 2 bf iV).P)}{z0_14:List (ah×(aF 1 ak aT).P)}{z0_18:List (bC×(aF 1 bF eu).P)}{x1:Int}(hgl:xu σ 0 2)(dA:RZ σ (aF 8 fP IE) (.slice ay x0.arcs.length au) x0.arcs)(fO:RZ σ (aF 1 bF eu) (.slice kQ x0.ends.length kL) x0.ends)(zf0_10:ZOk σ (aF 2 bf iV) iW x0.rows)(zf0_15:ZOk σ (aF 1 ak aT) z0_14 x0.q.next)(zf0_19:ZOk σ (aF 1 bF eu) z0_18 x0.q.outs){r:Int⊕(Maker)}(hh:Ev_ x0 x1=some r):
  vO prog 134 #[loc aZ 0,.int .i64 x1] σ [ω aZ #[.slice ay x0.arcs.length au,.slice kQ x0.ends.length kL,.int .i64 x0.most,.slice jf x0.rows.length je,.map (some b0_11),.string (bs x0.q.front),.slice a0_12 x0.q.next.length c0_13,.slice a0_16 x0.q.outs.length c0_17,.slice a0_20 x0.q.fin.length c0_21,.slice a0_22 x0.q.tail.length c0_23] kE,ε 22 1 (aF 2 bf iV).en (.slice jf x0.rows.length je) iW,Γ iQ gX (some b0_11) x0.places,ε 31 1 (aF 1 ak aT).en (.slice a0_12 x0.q.next.length c0_13) z0_14,ε 54 1 (aF 1 bF eu).en (.slice a0_16 x0.q.outs.length c0_17) z0_18,dO 4 dG a0_20 c0_21 x0.q.fin,dO 9 bF a0_22 c0_23 x0.q.tail] 187 (λr:Maker=>(λv σ' H'=> ∃nH nD, ∃(Gt:List (List Tip×(aF 2 bf iV).P)), ∃II ao6 co7, ∃(zo8:List (ah×(aF 1 ak aT).P)), ∃O1 Ox, ∃(zo12:List (bC×(aF 1 bF eu).P)), ∃ao14 co15 ao16 co17,v= .tuple #[]/\ZOk σ' (aF 2 bf iV) Gt r.rows/\ZOk σ' (aF 1 ak aT) zo8 r.q.next/\ZOk σ' (aF 1 bF eu) zo12 r.q.outs/\H'=[ω aZ #[.slice ay x0.arcs.length au,.slice kQ x0.ends.length kL,.int .i64 x0.most,.slice nH r.rows.length nD,.map (some II),.string (bs x0.q.front),.slice ao6 r.q.next.length co7,.slice O1 r.q.outs.length Ox,.slice ao14 r.q.fin.length co15,.slice ao16 r.q.tail.length co17] kE,ε 22 1 (aF 2 bf iV).en (.slice nH r.rows.length nD) Gt,Γ iQ gX (some II) r.places,ε 31 1 (aF 1 ak aT).en (.slice ao6 r.q.next.length co7) zo8,ε 54 1 (aF 1 bF eu).en (.slice O1 r.q.outs.length Ox) zo12,dO 4 dG ao14 co15 r.q.fin,dO 9 bF ao16 co17 r.q.tail])) r:=by
 dsimp only [Ev_]at hh;have zf0_10b:=zf0_10.length;have zf0_15b:=zf0_15.length;have zf0_19b:=zf0_19.length;refine vO.mk (n:=103) Tryz.func134 z z z (λw0=> ?_);refine TC.RJ (R7 ?_);obtain ⟨u6,hh⟩:=gd hh;refine TL.iS 1 z (λhs116=> ?_);refine ι z iX ?_;obtain ⟨Bo,VG⟩: ∃p,p=(nth iW x1.toNat ((aF 2 bf iV).d,(aF 2 bf iV).dp)).2:=⟨_,rfl⟩;have oP:RS σ 2 bf (.slice Bo.1 (nth x0.rows x1.toNat []).length Bo.2) (nth x0.rows x1.toNat []):=by rw [VG];exact (zf0_10.at (by omega)).2
 refine ι z (OpVal.of (VG▸cz_ zf0_10 z z2_ z (q:=1) z (by omega) z) (v':= .slice Bo.1 ((nth x0.rows x1.toNat []).length) Bo.2) z) (R6 ?_);refine κ 6 (κ 6 (κ 6 (κ 6 (κ 6 (κ 6 (κ 6 ?_))))));obtain ⟨v11,u11,hh⟩:=bg hh;rcases v11 with v11k|v11r
 ·dsimp only [sumE]at hh;refine TL.RQ z (vO.l (Ir_ (x0:=x0) dA fO zf0_10 zf0_15 zf0_19 oP u11)) z z Un z z (λτ118 jk=> ?_);replace dA:=dA.mono jk;replace fO:=fO.mono jk;replace zf0_10:=zf0_10.mono jk;replace zf0_15:=zf0_15.mono jk;replace zf0_19:=zf0_19.mono jk;replace hgl:=hgl.mono jk;replace oP:=oP.mono jk;obtain rfl:=so hh;exact ⟨_,θ 0 z,z⟩
 dsimp only [sumE]at hh;refine φ z (ZK (Ir_ (x0:=x0) dA fO zf0_10 zf0_15 zf0_19 oP u11) z z Un z z z z ?_);rintro _ _ _ nZ ⟨rfl,rfl,rfl⟩;refine R6 ?_;refine TC.cutG (α:=(Unit)×((Option Addr)×Nat×(Option Addr)×Nat×aj)) [7,8,24,25] (λg=>[(7,.slice g.2.1 ((replicate 256 (0:Int)).length) g.2.2.1),(8,.slice g.2.2.2.1 ((replicate 256 ([]:T_1)).length) g.2.2.2.2.1)]) (λg=>[ω aZ #[.slice ay x0.arcs.length au,.slice kQ x0.ends.length kL,.int .i64 x0.most,.slice jf x0.rows.length je,.map (some b0_11),.string (bs x0.q.front),.slice a0_12 x0.q.next.length c0_13,.slice a0_16 x0.q.outs.length c0_17,.slice a0_20 x0.q.fin.length c0_21,.slice a0_22 x0.q.tail.length c0_23] kE,ε 22 1 (aF 2 bf iV).en (.slice jf x0.rows.length je) iW,Γ iQ gX (some b0_11) x0.places,ε 31 1 (aF 1 ak aT).en (.slice a0_12 x0.q.next.length c0_13) z0_14,ε 54 1 (aF 1 bF eu).en (.slice a0_16 x0.q.outs.length c0_17) z0_18,dO 4 dG a0_20 c0_21 x0.q.fin,dO 9 bF a0_22 c0_23 x0.q.tail,ε 3 1 ak (.slice g.2.1 (replicate 256 (0:Int)).length g.2.2.1) (replicate 256 (0:Int)),ε 9 1 bF (.slice g.2.2.2.1 (replicate 256 ([]:T_1)).length g.2.2.2.2.1) (replicate 256 ([]:T_1))]) (λg=>g.2.2.2.2.2) (λg=>C6_ x0 x1 v11r=some r/\ZOk g.2.2.2.2.2 (aF 2 bf iV) iW x0.rows/\ZOk g.2.2.2.2.2 (aF 1 ak aT) z0_14 x0.q.next/\ZOk g.2.2.2.2.2 (aF 1 bF eu) z0_18 x0.q.outs/\aj.le σ g.2.2.2.2.2) ?_ (λg j hg=> ?_)
 ·refine TC.dw [] (TA.aN [0,1] (an z z (CV (m:=256) (enc:=ak) (0:Int) z sU oq IG yF z z z z (by omega) (by decide) aT (by decide) z GL (λwI rV=>(k1 ?_))) (an z z (CV (m:=256) (enc:=bF) ([]:T_1) z PI EU Z5 XK z z z z (by omega) (by decide) eu (by decide) z eSo_ (λa138 c139=>(k1 ?_))) (True.intro))))
  ·refine ν 2 z mS z (υ 1 z (CV (m:=256) (enc:=bF) ([]:T_1) z PI EU Z5 XK z z z z (by omega) (by decide) eu (by decide) z eSo_ (λa141 oV=>(k2 ?_))));refine ν 3 z mS z (R1 ?_);exact cf ((),(wI,rV,a141,oV,σ)) ⟨hh,zf0_10,zf0_15,zf0_19,(aj.le.refl _)⟩ (ψ [1,8,8,8,8,8,8,8] 9)
  refine υ 0 z (CV (m:=256) (enc:=ak) (0:Int) z sU oq IG yF z z z z (by omega) (by decide) aT (by decide) z GL (λa144 c145=>(k2 ?_)));refine ν 2 z mS z (ν 3 z mS z (R1 ?_));exact cf ((),(a144,c145,a138,c139,σ)) ⟨hh,zf0_10,zf0_15,zf0_19,(aj.le.refl _)⟩ (ψ [1,1,8,8,8,8,8,8,8] 9)
 obtain ⟨_,⟨a124,Eo,a127,ql,τ147⟩⟩:=g;obtain ⟨hh,Gx,mQ,wO,nY⟩:=hg
 try dsimp only at Gx
 try dsimp only at mQ
 try dsimp only at wO
 dsimp only at nY;replace dA:=dA.mono nY;replace fO:=fO.mono nY;replace hgl:=hgl.mono nY;replace oP:=oP.mono nY
 try dsimp only
 dsimp only [C6_]at hh;have zf120b:=Gx.length;have zf121b:=mQ.length;have zf122b:=wO.length;refine ζ 1 z (λhb149=> ?_);refine ζ 3 z (λWY=> ?_);refine ζ 4 z (λNU=> ?_);refine ζ 5 z (λhb152=> ?_);refine ζ 6 z (λIu=> ?_);refine ζ 7 z (λIr=> ?_);refine ζ 8 z (λIq=> ?_);refine R6 ?_;refine TC.Ak (α:=((List (List Tip))×(FM T_1 Int)×ah×bC×Nat)×((Option Addr)×Nat×(List (List Tip×(aF 2 bf iV).P))×Nat×aj)) (rgs [(9,2),(26,29)]) (λg=>[(26,.int .i64 (g.1.2.2.2.2:Int))]) (λg=>[ω aZ #[.slice ay x0.arcs.length au,.slice kQ x0.ends.length kL,.int .i64 x0.most,.slice g.2.1 g.1.1.length g.2.2.1,.map (some g.2.2.2.2.1),.string (bs x0.q.front),.slice a0_12 x0.q.next.length c0_13,.slice a0_16 x0.q.outs.length c0_17,.slice a0_20 x0.q.fin.length c0_21,.slice a0_22 x0.q.tail.length c0_23] kE,ε 22 1 (aF 2 bf iV).en (.slice g.2.1 g.1.1.length g.2.2.1) g.2.2.2.1,Γ iQ gX (some g.2.2.2.2.1) g.1.2.1,ε 31 1 (aF 1 ak aT).en (.slice a0_12 x0.q.next.length c0_13) z0_14,ε 54 1 (aF 1 bF eu).en (.slice a0_16 x0.q.outs.length c0_17) z0_18,dO 4 dG a0_20 c0_21 x0.q.fin,dO 9 bF a0_22 c0_23 x0.q.tail,ε 3 1 ak (.slice a124 (replicate 256 (0:Int)).length Eo) g.1.2.2.1,ε 9 1 bF (.slice a127 (replicate 256 ([]:T_1)).length ql) g.1.2.2.2.1]) (λg=>g.2.2.2.2.2) (λg=>iter (λq:(List (List Tip))×(FM T_1 Int)×ah×bC×Nat=>B0_ x0 x1 v11r q.1 q.2.1 q.2.2.1 q.2.2.2.1 q.2.2.2.2) g.1=some r/\ZOk g.2.2.2.2.2 (aF 2 bf iV) g.2.2.2.1 g.1.1/\ZOk g.2.2.2.2.2 (aF 1 ak aT) z0_14 x0.q.next/\ZOk g.2.2.2.2.2 (aF 1 bF eu) z0_18 x0.q.outs/\g.1.2.2.1.length=(replicate 256 (0:Int)).length/\g.1.2.2.2.1.length=(replicate 256 ([]:T_1)).length/\aj.le τ147 g.2.2.2.2.2) (λg=>rQ (λq:(List (List Tip))×(FM T_1 Int)×ah×bC×Nat=>B0_ x0 x1 v11r q.1 q.2.1 q.2.2.1 q.2.2.2.1 q.2.2.2.2) g.1) ((x0.rows,x0.places,(replicate 256 (0:Int)),(replicate 256 ([]:T_1)),0),(jf,je,iW,b0_11,τ147)) (ψ [8,8,8,8,8,8,8,8,8] 9) z (by repeat (first|exact trivial|refine ⟨z,?_⟩)) ⟨hh,Gx,mQ,wO,z,z,(aj.le.refl _)⟩ (λg1 j1 hg1=> ?_);obtain ⟨⟨qI,qE,cO,oJ,dQ⟩,⟨a193,c194,z195,RY,τ207⟩⟩:=g1;obtain ⟨hh,jg,eY,jL,wU,H8,ni⟩:=hg1
 try dsimp only at jg
 try dsimp only at eY
 try dsimp only at jL
 try dsimp only at wU
 try dsimp only at H8
 dsimp only at ni;replace dA:=dA.mono ni;replace fO:=fO.mono ni;replace hgl:=hgl.mono ni;replace oP:=oP.mono ni
 try dsimp only
 obtain ⟨z1,hh,hR1⟩:=zQ hh;dsimp only [B0_]at hh;have zf196b:=jg.length;have zf200b:=eY.length;have zf201b:=jL.length;refine ζ 1 z (λNQ=> ?_);refine ζ 3 z (λNM=> ?_);refine ζ 4 z (λNK=> ?_);refine ζ 5 z (λNJ=> ?_);refine ζ 6 z (λhb213=> ?_);refine ζ 7 z (λWQ=> ?_);refine ζ 8 z (λWO=> ?_);refine R5 ?_;refine π z hh (λN9 hh=> ?_) (λN9 hh=> ?_)
 ·refine R12 ?_;obtain ⟨u27,hh⟩:=gd hh;refine TL.iS 7 z (λhs217=> ?_);refine ι z iN (κ 7 ?_);have VQ:(cO.set dQ (-1)).length=(replicate 256 (0:Int)).length:=by rw [fV];exact wU
  refine φ z (sS (-1) ?_);refine R6 ?_;refine ι z (EN z um yw z) (κ 7 (κ 7 (κ 7 (κ 7 (κ 7 (κ 7 (κ 7 ?_)))))));obtain ⟨v33,u33,hh⟩:=bg hh;refine φ z (OpOk.call (Kz_ (x0:=(⟨x0.arcs,x0.ends,x0.most,qI,qE,x0.q⟩:Maker)) dA fO jg eY jL oP u33) z z pf182 z z z z ?_);rintro _ _ _ hle219 ⟨a219_1,c219_2,rfl,rfl,rfl⟩;refine R8 ?_;refine π z hh (λZu hh=> ?_) (λZu hh=> ?_)
  ·refine R5 ?_;obtain ⟨v41,PW,hh⟩:=bg hh;rcases v41 with v41k|v41r
   ·dsimp only [sumE]at hh;refine TL.RQ z (vO.l (F7_ PW)) z z zr_ z z (λτ222 vW=> ?_);replace dA:=dA.mono vW;replace fO:=fO.mono vW;replace hgl:=hgl.mono vW;replace jg:=jg.mono vW;replace eY:=eY.mono vW;replace jL:=jL.mono vW;replace hh:=bJ hR1 hh;obtain rfl:=so hh;exact ⟨_,θ 0 z,z⟩
   dsimp only [sumE]at hh;refine φ z (ZK (F7_ PW) z z zr_ z z z z ?_);rintro _ τ223 _ tK ⟨a223_1,c223_2,rfl,hr223_3,rfl⟩;replace dA:=dA.mono tK;replace fO:=fO.mono tK;replace hgl:=hgl.mono tK;replace jg:=jg.mono tK;replace eY:=eY.mono tK;replace jL:=jL.mono tK;refine R3 ?_;obtain ⟨u45,hh⟩:=gd hh;refine TL.iS 8 z (λhs224=> ?_);refine ι z iN (κ 8 ?_);have hn225:(oJ.set dQ v41r.1).length=(replicate 256 ([]:T_1)).length:=by rw [fV];exact H8
   refine φ z (sS v41r.1 ?_);refine R7 ?_;refine κ 7 (κ 7 (κ 7 (κ 7 (κ 7 (κ 7 (κ 7 ?_))))));obtain ⟨v52,Qe,hh⟩:=bg hh;rcases v52 with v52k|v52r
   ·dsimp only [sumE]at hh;refine TL.RQ z (vO.l (Cs_ (x0:=(⟨x0.arcs,x0.ends,x0.most,qI,qE,x0.q⟩:Maker)) hgl dA fO jg eY jL hr223_3 Qe)) z z aai_ z z (λτ226 tJ=> ?_);replace dA:=dA.mono tJ;replace fO:=fO.mono tJ;replace hgl:=hgl.mono tJ;replace jg:=jg.mono tJ;replace eY:=eY.mono tJ;replace jL:=jL.mono tJ;replace hr223_3:=hr223_3.mono tJ;replace hh:=bJ hR1 hh;obtain rfl:=so hh;exact ⟨_,θ 0 z,z⟩
   dsimp only [sumE]at hh;refine φ z (ZK (Cs_ (x0:=(⟨x0.arcs,x0.ends,x0.most,qI,qE,x0.q⟩:Maker)) hgl dA fO jg eY jL hr223_3 Qe) z z aai_ z z z z ?_);rintro _ τ227 _ BP ⟨a227_1,c227_2,z227_3,b227_5,rfl,zf227_4,rfl⟩;replace jg:=jg.mono BP;replace eY:=eY.mono BP;replace jL:=jL.mono BP;have zf227_4b:=zf227_4.length;obtain ⟨u53,hh⟩:=gd hh;refine TL.iS 8 z (λhs230=> ?_);refine ι z iN (κ 8 ?_);have wS:((cO.set dQ (-1)).set dQ v52r.1).length=(replicate 256 (0:Int)).length:=by rw [fV];exact VQ
   refine φ z (sS v52r.1 ?_);refine R5 ?_;obtain ⟨hh,YT⟩:=xP hR1 hh;exact lf ((v52r.2.rows,v52r.2.places,((cO.set dQ (-1)).set dQ v52r.1),(oJ.set dQ v41r.1),(dQ+1)),(a227_1,c227_2,z227_3,b227_5,τ227)) YT ⟨hh,zf227_4,eY,jL,wS,hn225,((ni.trans tK).trans BP)⟩ (ψ [8,1,8,8,8,8,8,8,8] 9)
  refine R5 ?_;obtain ⟨hh,YS⟩:=xP hR1 hh;exact lf ((qI,qE,(cO.set dQ (-1)),oJ,(dQ+1)),(a193,c194,z195,RY,τ207)) YS ⟨hh,jg,eY,jL,VQ,H8,ni⟩ (ψ [9,9,9,9,9,9,9,9,9] 9)
 refine R1 ?_;replace hh:=bJ hR1 hh;refine R10 ?_;rw [<-wU];refine κ 7 (TL.jO aT (λτ238 FH hr236=> ?_));replace jg:=jg.mono FH;replace eY:=eY.mono FH;replace jL:=jL.mono FH;have TK:ZOk _ (aF 1 ak aT) ([(cO,(a124,Eo))]:List (ah×(aF 1 ak aT).P)) [cO]:=ZOk.cons (hr236) (ZOk.nil _ _);refine φ z (litZ TK z jZ jy z ku z z z (by decide) (by decide) z (by decide) z (by decide) (λa234 c235=> ?_));refine κ 4 ?_;obtain ⟨PS,hh⟩:=gd hh;refine φ z (Jk (k:=(aF 1 ak aT)) eY TK z z jZ jy mG ku z z (by decide) z z z (.inr ⟨_,0,z⟩) (by simpa using PS) (by decide) (λa241 c242 TG=> ?_));refine R3 ?_;refine κ 2 (R11 ?_);rw [<-H8];refine κ 8 (TL.jO eu (λτ248 FC hr246=> ?_));replace jg:=jg.mono FC;replace jL:=jL.mono FC;replace TG:=TG.mono FC;have Dk:ZOk _ (aF 1 bF eu) ([(oJ,(a127,ql))]:List (bC×(aF 1 bF eu).P)) [oJ]:=ZOk.cons (hr246) (ZOk.nil _ _);refine φ z (litZ Dk z underlying53 JB z PN z z z (by decide) (by decide) z (by decide) z (by decide) (λSG Rz=> ?_));refine κ 6 ?_;obtain ⟨u78,hh⟩:=gd hh;refine φ z (Jk (k:=(aF 1 bF eu)) jL Dk z z underlying53 JB XO PN z z (by decide) z z z (.inr ⟨_,0,z⟩) (by simpa using u78) (by decide) (λa251 c252 pU=> ?_));refine R3 ?_;refine κ 2 (R11 ?_);refine φ z (jc (enc:=dG) [v11r.1] (λa254 c255=> ?_));refine κ 8 ?_;obtain ⟨u91,hh⟩:=gd hh;refine φ z (apF (.inr ⟨_,0,z⟩) u91 (λSE Ry=> ?_));refine R3 ?_;refine κ 2 (R10 ?_);refine φ z (jc (enc:=bF) [v11r.2] (λa259 c260=> ?_));refine κ 10 ?_;obtain ⟨u104,hh⟩:=gd hh;refine φ z (apF (.inr ⟨_,0,z⟩) u104 (λCX CB=> ?_));refine R3 ?_;refine κ 2 (R2 ?_);obtain rfl:=so hh;refine ⟨_,ψ [1,3,5,7,10,10,6] 7,?_⟩;exact ry
def Go_(x0:Seq)(x1:Int):Option (Unit):=
 some ()
theorem K5_{σ:aj}{x0:Seq}{x1:Int}(dA:RZ σ (aF 1 ak aT) (.slice ay x0.next.length au) x0.next)(fO:RZ σ (aF 1 bF eu) (.slice kQ x0.outs.length kL) x0.outs)(f0_9:dH σ dG jf je x0.fin)(f0_12:dH σ bF a0_10 c0_11 x0.tail){r:Unit}(hh:Go_ x0 x1=some r):
  Jw prog 130 #[loc aZ 0,loc fG 0] σ [ω aZ (kN x0 ay au kQ kL jf je a0_10 c0_11) kE,ω fG #[.int .i64 x1] wK] (λv σ' H'=>v= .tuple #[]/\σ=σ'/\H'=[ω aZ (kN x0 ay au kQ kL jf je a0_10 c0_11) kE,ω fG #[.int .i64 x1] wK]):=by
 dsimp only [Go_]at hh;refine Jw.rec (n:=13) Tryz.func130 z z z z z z z (λw0=> ?_);refine ι z (d8_ z underlying187 (PZ TQ) z) (R3 ?_);refine TL.al (λnG=> ?_);refine R9 ?_;obtain rfl:=so hh;refine ⟨_,ψ [2,2] 2,?_⟩;exact rz
def Xn(k:Int):Option (Seq×Int):=
 some ((⟨([]:T_1),([]:aO),([]:iC),([]:B_1),([]:bC)⟩:Seq),k)
theorem I3_{σ:aj}{x1g:Int}{k:Int}{r:Seq×Int}(hh:Xn k=some r):
  ConR prog 130 #[loc aZ 0,loc fG 0] (fltV 187 k) σ [ω aZ #[.string (bs ([]:T_1)),aW,aW,aW,aW] kE,ω fG #[.int .i64 x1g] wK] (λv σ' H'=> ∃nH nD ao4 co5 ao7 co8 O1 Ox,v= .tuple #[]/\RZ σ' (aF 1 ak aT) (.slice nH r.1.next.length nD) r.1.next/\RZ σ' (aF 1 bF eu) (.slice ao4 r.1.outs.length co5) r.1.outs/\dH σ' dG ao7 co8 r.1.fin/\dH σ' bF O1 Ox r.1.tail/\H'=[ω aZ (kN r.1 nH nD ao4 co5 ao7 co8 O1 Ox) kE,ω fG #[.int .i64 r.2] wK]):=by
 dsimp only [Xn]at hh;refine ConR.rec (n:=13) Tryz.func130 z z z z z z z (λw0=> ?_);refine ι z (dz_ z underlying187 z) (R3 ?_);refine TL.al (λnG=> ?_);refine R8 ?_;refine TC.OV (Hr:=[ω nG #[.int .i64 k] 187,ω aZ #[.string (bs ([]:T_1)),aW,aW,aW,aW] kE]) (λr hr=>oU [0,1] z hr) [] (by kernel_rfl) (ν 0 z bL z (ν 1 z fL z (χ 2 z lL z (Ω 1 (υ 3 z (storeAll z TT z z z z z z ⟨(λw h=>qj (aj.le.refl _) (λr hr=>oU [1,0] z hr) w h),?_⟩))))));refine Ω 2 (υ 4 z (c9_ z X6 z z z z z ⟨(λw h=>qj (aj.le.refl _) (λr hr=>oU [2,1] z hr) w h),?_⟩));refine TA.dn ?_;obtain rfl:=so hh;refine ⟨_,ψ [1] 2,?_⟩;exact rz
def Bi_(x0:Maker)(v16r:T_1×(List Tip))(yM:List (List Tip))(xE:FM T_1 Int)(vG:aO)(nU:iC)(vC:B_1)(vw:bC)(xM:Nat):Option (((List (List Tip))×(FM T_1 Int)×aO×iC×B_1×bC×Nat)⊕(Seq×Int)):=
 iteO (decide ((xM:Int)<(yM.length:Int))) (bnd (Ev_ (⟨x0.arcs,x0.ends,x0.most,yM,xE,(⟨v16r.1,vG,nU,vC,vw⟩:Seq)⟩:Maker) (xM:Int)) (λv41=>sumE v41 (λv41k=>fin (bnd (Xn v41k) (λv70=>some (v70.1,v70.2)))) (λv41r=>nxt (v41r.rows,v41r.places,v41r.q.next,v41r.q.outs,v41r.q.fin,v41r.q.tail,(xM+1))))) (fin (bnd (Go_ (⟨v16r.1,vG,nU,vC,vw⟩:Seq) 0) (λv71=>some ((⟨v16r.1,vG,nU,vC,vw⟩:Seq),0))))
def Ee_(x0:Maker)(x1:Fst):Option (Seq×Int):=
 iteO (decide ((x1.starts.length:Int)=0)) (bnd (Go_ (⟨([]:T_1),([]:aO),([]:iC),([]:B_1),([]:bC)⟩:Seq) 0) (λv51=>some ((⟨([]:T_1),([]:aO),([]:iC),([]:B_1),([]:bC)⟩:Seq),0))) (grd (x1.starts.length * 24<=140737488355328) (bnd (Gq_ x1.starts) (λv16=>sumE v16 (λv16k=>bnd (Xn v16k) (λv52=>some (v52.1,v52.2))) (λv16r=>bnd (B2_ (⟨x0.arcs,x0.ends,x0.most,x0.rows,x0.places,(⟨v16r.1,x0.q.next,x0.q.outs,x0.q.fin,x0.q.tail⟩:Seq)⟩:Maker) v16r.2) (λv30=>sumE v30 (λv30k=>bnd (Xn v30k) (λv53=>some (v53.1,v53.2))) (λv30r=>iter (λq:(List (List Tip))×(FM T_1 Int)×aO×iC×B_1×bC×Nat=>Bi_ x0 v16r q.1 q.2.1 q.2.2.1 q.2.2.2.1 q.2.2.2.2.1 q.2.2.2.2.2.1 q.2.2.2.2.2.2) (v30r.2.rows,v30r.2.places,x0.q.next,x0.q.outs,x0.q.fin,x0.q.tail,0)))))))
theorem Ln_{σ:aj}{x0:Maker}{iW:List (List Tip×(aF 2 bf iV).P)}{z0_14:List (ah×(aF 1 ak aT).P)}{z0_18:List (bC×(aF 1 bF eu).P)}{x1:Fst}(hgl:xu σ 0 2)(dA:RZ σ (aF 8 fP IE) (.slice ay x0.arcs.length au) x0.arcs)(fO:RZ σ (aF 1 bF eu) (.slice kQ x0.ends.length kL) x0.ends)(zf0_10:ZOk σ (aF 2 bf iV) iW x0.rows)(zf0_15:ZOk σ (aF 1 ak aT) z0_14 x0.q.next)(zf0_19:ZOk σ (aF 1 bF eu) z0_18 x0.q.outs)(bn:RS σ 2 bf (.slice bY x1.starts.length bW) x1.starts)(gu:RS σ 2 bf (.slice dV x1.ends.length iR) x1.ends)(fF:RS σ 8 fP (.slice iI x1.arcs.length dU) x1.arcs){r:Seq×Int}(hh:Ee_ x0 x1=some r):
  Con prog 72 #[loc aZ 0,.agg (jB x1 bY bW dV iR iI dU)] σ [ω aZ #[.slice ay x0.arcs.length au,.slice kQ x0.ends.length kL,.int .i64 x0.most,.slice jf x0.rows.length je,.map (some b0_11),.string (bs x0.q.front),.slice a0_12 x0.q.next.length c0_13,.slice a0_16 x0.q.outs.length c0_17,.slice a0_20 x0.q.fin.length c0_21,.slice a0_22 x0.q.tail.length c0_23] kE,ε 22 1 (aF 2 bf iV).en (.slice jf x0.rows.length je) iW,Γ iQ gX (some b0_11) x0.places,ε 31 1 (aF 1 ak aT).en (.slice a0_12 x0.q.next.length c0_13) z0_14,ε 54 1 (aF 1 bF eu).en (.slice a0_16 x0.q.outs.length c0_17) z0_18,dO 4 dG a0_20 c0_21 x0.q.fin,dO 9 bF a0_22 c0_23 x0.q.tail] (λv σ' H'=> ∃a1 c1 a2 c2 a3 c3 a4 c4,v= .tuple #[.agg (kN r.1 a1 c1 a2 c2 a3 c3 a4 c4),.int .i64 r.2]/\RZ σ' (aF 1 ak aT) (.slice a1 r.1.next.length c1) r.1.next/\RZ σ' (aF 1 bF eu) (.slice a2 r.1.outs.length c2) r.1.outs/\dH σ' dG a3 c3 r.1.fin/\dH σ' bF a4 c4 r.1.tail/\H'=[]):=by
 dsimp only [Ee_]at hh;have zf0_10b:=zf0_10.length;have zf0_15b:=zf0_15.length;have zf0_19b:=zf0_19.length;refine Con.mkD (n:=46) Tryz.func72 z z z (λw0=> ?_);refine TB.seq UW (Ξ (TL.bx (λb110=> ?_)));refine TL.al (λuh=> ?_);refine TL.al (λb114=> ?_);refine R1 ?_;refine TB.seqD (TLB.v z (cb_ z) z z (TLB.dfr (dargs:=[]) z z z z z (λa_ w_ Vg Xa=> ?_)));refine TB.fin (Q:=dfrX _ _ _ _ 130 [loc uh 0,loc b114 0]) (xu_ (cap:=[loc uh 0,loc b114 0]) (dargs:=[]) pf130) ?_ w_ a_ Vg Xa;clear Vg Xa a_ w_;refine R8 ?_;refine π z hh (λh116 hh=> ?_) (λh116 hh=> ?_)
 ·refine R3 ?_;refine κ 1 (φ z (storeAll z TT z z z z z z ?_));refine κ 1 (R2 ?_);refine TC.fr 1 ?_;obtain ⟨v51,u51,hh⟩:=bg hh;refine η (.inl ⟨.inl z,_,θ 2 z,(K5_ (RZ.nilF _ (aF 1 ak aT)) (RZ.nilF _ (aF 1 bF eu)) (RS.nilF _ dG NH) (RS.nilF _ bF eu) u51).mono ?_⟩);rintro _ _ _ jF ⟨rfl,rfl,rfl⟩;obtain rfl:=so hh;exact rz
 refine R5 ?_;obtain ⟨u15,hh⟩:=gd hh;refine φ z (OpOk.call (L0_ bn u15) z z UH z z z z ?_);rintro _ _ _ _ ⟨⟨lX,c119,rfl⟩,rfl,rfl⟩;obtain ⟨v16,u16,hh⟩:=bg hh;rcases v16 with v16k|v16r
 ·dsimp only [sumE]at hh;refine TL.RQ z (vO.l (F7_ u16)) z z zr_ z z (λτ121 qW=> ?_);replace dA:=dA.mono qW;replace fO:=fO.mono qW;replace zf0_10:=zf0_10.mono qW;replace zf0_15:=zf0_15.mono qW;replace zf0_19:=zf0_19.mono qW;replace hgl:=hgl.mono qW;obtain ⟨v52,Qe,hh⟩:=bg hh;refine .inr ⟨_,z,_,ψ [1] 2,(I3_ Qe).mono ?_⟩;rintro _ τ122 _ kJ ⟨a122_1,c122_2,a122_4,c122_5,a122_7,c122_8,a122_10,c122_11,rfl,f122_3,f122_6,f122_9,f122_12,rfl⟩;replace dA:=dA.mono kJ;replace fO:=fO.mono kJ;replace zf0_10:=zf0_10.mono kJ;replace zf0_15:=zf0_15.mono kJ;replace zf0_19:=zf0_19.mono kJ;replace hgl:=hgl.mono kJ;obtain rfl:=so hh;exact rz
 dsimp only [sumE]at hh;refine φ z (ZK (F7_ u16) z z zr_ z z z z ?_);rintro _ τ127 _ ny ⟨a127_1,c127_2,rfl,hr127_3,rfl⟩;replace dA:=dA.mono ny;replace fO:=fO.mono ny;replace zf0_10:=zf0_10.mono ny;replace zf0_15:=zf0_15.mono ny;replace zf0_19:=zf0_19.mono ny;replace hgl:=hgl.mono ny;refine R13 ?_;refine κ 3 (φ z (cn_ z EU z z z z z ?_));refine R5 ?_;refine κ 9 (κ 9 (κ 9 (κ 9 (κ 9 (κ 9 (κ 6 ?_))))));obtain ⟨v30,u30,hh⟩:=bg hh;rcases v30 with v30k|v30r
 ·dsimp only [sumE]at hh;refine TL.RQ z (vO.l (Cs_ (x0:=(⟨x0.arcs,x0.ends,x0.most,x0.rows,x0.places,(⟨v16r.1,x0.q.next,x0.q.outs,x0.q.fin,x0.q.tail⟩:Seq)⟩:Maker)) hgl dA fO zf0_10 zf0_15 zf0_19 hr127_3 u30)) z z aai_ z z (λτ128 pz=> ?_);replace dA:=dA.mono pz;replace fO:=fO.mono pz;replace zf0_10:=zf0_10.mono pz;replace zf0_15:=zf0_15.mono pz;replace zf0_19:=zf0_19.mono pz;replace hgl:=hgl.mono pz;replace hr127_3:=hr127_3.mono pz;obtain ⟨v53,u53,hh⟩:=bg hh;refine .inr ⟨_,z,_,ψ [1] 2,(I3_ u53).mono ?_⟩;rintro _ τ129 _ qV ⟨a129_1,c129_2,a129_4,c129_5,a129_7,c129_8,a129_10,c129_11,rfl,f129_3,f129_6,f129_9,f129_12,rfl⟩;replace dA:=dA.mono qV;replace fO:=fO.mono qV;replace zf0_10:=zf0_10.mono qV;replace zf0_15:=zf0_15.mono qV;replace zf0_19:=zf0_19.mono qV;replace hgl:=hgl.mono qV;replace hr127_3:=hr127_3.mono qV;obtain rfl:=so hh;exact rz
 dsimp only [sumE]at hh;refine φ z (ZK (Cs_ (x0:=(⟨x0.arcs,x0.ends,x0.most,x0.rows,x0.places,(⟨v16r.1,x0.q.next,x0.q.outs,x0.q.fin,x0.q.tail⟩:Seq)⟩:Maker)) hgl dA fO zf0_10 zf0_15 zf0_19 hr127_3 u30) z z aai_ z z z z ?_);rintro _ τ134 _ qU ⟨a134_1,c134_2,z134_3,b134_5,rfl,zf134_4,rfl⟩;replace dA:=dA.mono qU;replace fO:=fO.mono qU;replace zf0_15:=zf0_15.mono qU;replace zf0_19:=zf0_19.mono qU;replace hgl:=hgl.mono qU;have zf134_4b:=zf134_4.length;refine R7 ?_;refine TC.Ak (α:=((List (List Tip))×(FM T_1 Int)×aO×iC×B_1×bC×Nat)×((Option Addr)×Nat×(List (List Tip×(aF 2 bf iV).P))×Nat×(Option Addr)×Nat×(List (ah×(aF 1 ak aT).P))×(Option Addr)×Nat×(List (bC×(aF 1 bF eu).P))×(Option Addr)×Nat×(Option Addr)×Nat×aj)) (rgs [(8,1),(30,12)]) (λg=>[(8,.int .i64 (g.1.2.2.2.2.2.2:Int))]) (λg=>[ω aZ #[.slice ay x0.arcs.length au,.slice kQ x0.ends.length kL,.int .i64 x0.most,.slice g.2.1 g.1.1.length g.2.2.1,.map (some g.2.2.2.2.1),.string (bs v16r.1),.slice g.2.2.2.2.2.1 g.1.2.2.1.length g.2.2.2.2.2.2.1,.slice g.2.2.2.2.2.2.2.2.1 g.1.2.2.2.1.length g.2.2.2.2.2.2.2.2.2.1,.slice g.2.2.2.2.2.2.2.2.2.2.2.1 g.1.2.2.2.2.1.length g.2.2.2.2.2.2.2.2.2.2.2.2.1,.slice g.2.2.2.2.2.2.2.2.2.2.2.2.2.1 g.1.2.2.2.2.2.1.length g.2.2.2.2.2.2.2.2.2.2.2.2.2.2.1] kE,ε 22 1 (aF 2 bf iV).en (.slice g.2.1 g.1.1.length g.2.2.1) g.2.2.2.1,Γ iQ gX (some g.2.2.2.2.1) g.1.2.1,ε 31 1 (aF 1 ak aT).en (.slice g.2.2.2.2.2.1 g.1.2.2.1.length g.2.2.2.2.2.2.1) g.2.2.2.2.2.2.2.1,ε 54 1 (aF 1 bF eu).en (.slice g.2.2.2.2.2.2.2.2.1 g.1.2.2.2.1.length g.2.2.2.2.2.2.2.2.2.1) g.2.2.2.2.2.2.2.2.2.2.1,ε 4 1 dG (.slice g.2.2.2.2.2.2.2.2.2.2.2.1 g.1.2.2.2.2.1.length g.2.2.2.2.2.2.2.2.2.2.2.2.1) g.1.2.2.2.2.1,ε 9 1 bF (.slice g.2.2.2.2.2.2.2.2.2.2.2.2.2.1 g.1.2.2.2.2.2.1.length g.2.2.2.2.2.2.2.2.2.2.2.2.2.2.1) g.1.2.2.2.2.2.1,ω uh #[.string (bs ([]:T_1)),aW,aW,aW,aW] 56,ω b114 #[.int .i64 0] 27]) (λg=>g.2.2.2.2.2.2.2.2.2.2.2.2.2.2.2) (λg=>iter (λq:(List (List Tip))×(FM T_1 Int)×aO×iC×B_1×bC×Nat=>Bi_ x0 v16r q.1 q.2.1 q.2.2.1 q.2.2.2.1 q.2.2.2.2.1 q.2.2.2.2.2.1 q.2.2.2.2.2.2) g.1=some r/\ZOk g.2.2.2.2.2.2.2.2.2.2.2.2.2.2.2 (aF 2 bf iV) g.2.2.2.1 g.1.1/\ZOk g.2.2.2.2.2.2.2.2.2.2.2.2.2.2.2 (aF 1 ak aT) g.2.2.2.2.2.2.2.1 g.1.2.2.1/\ZOk g.2.2.2.2.2.2.2.2.2.2.2.2.2.2.2 (aF 1 bF eu) g.2.2.2.2.2.2.2.2.2.2.1 g.1.2.2.2.1/\aj.le τ134 g.2.2.2.2.2.2.2.2.2.2.2.2.2.2.2) (λg=>rQ (λq:(List (List Tip))×(FM T_1 Int)×aO×iC×B_1×bC×Nat=>Bi_ x0 v16r q.1 q.2.1 q.2.2.1 q.2.2.2.1 q.2.2.2.2.1 q.2.2.2.2.2.1 q.2.2.2.2.2.2) g.1) ((v30r.2.rows,v30r.2.places,x0.q.next,x0.q.outs,x0.q.fin,x0.q.tail,0),(a134_1,c134_2,z134_3,b134_5,a0_12,c0_13,z0_14,a0_16,c0_17,z0_18,a0_20,c0_21,a0_22,c0_23,τ134)) (ψ [7,8,8,8,8,8,8,8,8] 9) z (by repeat (first|exact trivial|refine ⟨z,?_⟩)) ⟨hh,zf134_4,zf0_15,zf0_19,(aj.le.refl _)⟩ (λg1 j1 hg1=> ?_);obtain ⟨⟨yM,xE,vG,nU,vC,vw,xM⟩,⟨a202,c203,z204,b208,SN,c212,z213,wH,c218,z219,a223,c224,a227,c228,τ230⟩⟩:=g1;obtain ⟨hh,kF,qA,oD,zx⟩:=hg1
 try dsimp only at kF
 try dsimp only at qA
 try dsimp only at oD
 dsimp only at zx;replace dA:=dA.mono zx;replace fO:=fO.mono zx;replace hgl:=hgl.mono zx
 try dsimp only
 obtain ⟨z1,hh,hR1⟩:=zQ hh;dsimp only [Bi_]at hh;have zf205b:=kF.length;have zf214b:=qA.length;have zf220b:=oD.length;refine ζ 1 z (λhb232=> ?_);refine ζ 3 z (λhb233=> ?_);refine ζ 4 z (λhb234=> ?_);refine ζ 5 z (λhb235=> ?_);refine ζ 6 z (λNI=> ?_);refine R11 ?_;refine π z hh (λZr hh=> ?_) (λZr hh=> ?_)
 ·refine R6 ?_;refine κ 6 (κ 6 (κ 6 (κ 6 (κ 6 (κ 6 (κ 6 ?_))))));obtain ⟨v41,PW,hh⟩:=bg hh;rcases v41 with v41k|v41r
  ·dsimp only [sumE]at hh;refine TL.RQ z (vO.l (Jr_ (x0:=(⟨x0.arcs,x0.ends,x0.most,yM,xE,(⟨v16r.1,vG,nU,vC,vw⟩:Seq)⟩:Maker)) hgl dA fO kF qA oD PW)) z z UG z z (λτ238 vV=> ?_);replace dA:=dA.mono vV;replace fO:=fO.mono vV;replace hgl:=hgl.mono vV;replace kF:=kF.mono vV;replace qA:=qA.mono vV;replace oD:=oD.mono vV;replace hh:=bJ hR1 hh;obtain ⟨v70,u70,hh⟩:=bg hh;refine .inr ⟨_,z,_,ψ [1,1] 2,(I3_ u70).mono ?_⟩;rintro _ τ239 _ vU ⟨a239_1,c239_2,a239_4,c239_5,a239_7,c239_8,a239_10,c239_11,rfl,f239_3,f239_6,f239_9,f239_12,rfl⟩;replace dA:=dA.mono vU;replace fO:=fO.mono vU;replace hgl:=hgl.mono vU;replace kF:=kF.mono vU;replace qA:=qA.mono vU;replace oD:=oD.mono vU;obtain rfl:=so hh;exact rz
  dsimp only [sumE]at hh;refine φ z (ZK (Jr_ (x0:=(⟨x0.arcs,x0.ends,x0.most,yM,xE,(⟨v16r.1,vG,nU,vC,vw⟩:Seq)⟩:Maker)) hgl dA fO kF qA oD PW) z z UG z z z z ?_);rintro _ τ244 _ FD ⟨a244_1,c244_2,z244_3,b244_5,a244_6,c244_7,z244_8,a244_10,c244_11,z244_12,a244_14,c244_15,a244_16,c244_17,rfl,zf244_4,zf244_9,zf244_13,rfl⟩;replace qA:=qA.mono FD;replace oD:=oD.mono FD;have zf244_4b:=zf244_4.length;have zf244_9b:=zf244_9.length;have zf244_13b:=zf244_13.length;refine R6 ?_;obtain ⟨hh,YO⟩:=xP hR1 hh;exact lf ((v41r.rows,v41r.places,v41r.q.next,v41r.q.outs,v41r.q.fin,v41r.q.tail,(xM+1)),(a244_1,c244_2,z244_3,b244_5,a244_6,c244_7,z244_8,a244_10,c244_11,z244_12,a244_14,c244_15,a244_16,c244_17,τ244)) YO ⟨hh,zf244_4,zf244_9,zf244_13,(zx.trans FD)⟩ (ψ [8,8,8,8,8,8,8,8,8] 9)
 refine R1 ?_;replace hh:=bJ hR1 hh;refine R7 ?_;refine κ 7 (φ z (storeAll z TT z z z z z z ?_));refine κ 8 (R2 ?_);refine TC.fr 5 (TC.Ji qA (λτ254 qL uK=> ?_));replace oD:=oD.mono qL;refine TC.fr 5 (TC.Ji oD (λτ257 Zb DX=> ?_));replace uK:=uK.mono Zb;refine TC.fr 5 (TC.jO NH (λτ260 jW oM=> ?_));replace uK:=uK.mono jW;replace DX:=DX.mono jW;refine TC.fr 5 (TC.jO eu (λτ263 Fz hr261=> ?_));replace uK:=uK.mono Fz;replace DX:=DX.mono Fz;replace oM:=oM.mono Fz;refine TC.fr 1 ?_;obtain ⟨v71,u71,hh⟩:=bg hh;refine η (.inl ⟨.inl z,_,θ 2 z,(K5_ uK DX oM hr261 u71).mono ?_⟩);rintro _ _ _ hle264 ⟨rfl,rfl,rfl⟩;obtain rfl:=so hh;exact rz
def Ke_(v19:Fst×Int)(bD:List (List Arc))(x1:Int)(jS:iC)(eX:Nat):Option ((iC×Nat)⊕(Seq×Int)):=
 iteO (decide ((eX:Int)<(v19.1.ends.length:Int))) (grd (0<=((nth v19.1.ends eX aY).state)/\((nth v19.1.ends eX aY).state)<(jS.length:Int)) (grd (((nth jS (((nth v19.1.ends eX aY).state).toNat) []).length+[(nth v19.1.ends eX aY).out].length) * 16<=140737488355328) (grd (0<=((nth v19.1.ends eX aY).state)/\((nth v19.1.ends eX aY).state)<(jS.length:Int)) (nxt ((jS.set (((nth v19.1.ends eX aY).state).toNat) ((nth jS (((nth v19.1.ends eX aY).state).toNat) [])++[(nth v19.1.ends eX aY).out])),(eX+1)))))) (fin (bnd (Ee_ (⟨bD,jS,x1,([]:List (List Tip)),(FM.emp:FM T_1 Int),(⟨([]:T_1),([]:aO),([]:iC),([]:B_1),([]:bC)⟩:Seq)⟩:Maker) v19.1) (λnT=>some (nT.1,nT.2))))
def Kc_(v19:Fst×Int)(x1:Int)(bD:List (List Arc))(dZ:Nat):Option (((List (List Arc))×Nat)⊕(Seq×Int)):=
 iteO (decide ((dZ:Int)<(v19.1.arcs.length:Int))) (grd (0<=((nth v19.1.arcs dZ aQ).frm)/\((nth v19.1.arcs dZ aQ).frm)<(bD.length:Int)) (grd (((nth bD (((nth v19.1.arcs dZ aQ).frm).toNat) []).length+[(nth v19.1.arcs dZ aQ)].length) * 72<=140737488355328) (grd (0<=((nth v19.1.arcs dZ aQ).frm)/\((nth v19.1.arcs dZ aQ).frm)<(bD.length:Int)) (nxt ((bD.set (((nth v19.1.arcs dZ aQ).frm).toNat) ((nth bD (((nth v19.1.arcs dZ aQ).frm).toNat) [])++[(nth v19.1.arcs dZ aQ)])),(dZ+1)))))) (fin (iter (λq:iC×Nat=>Ke_ v19 bD x1 q.1 q.2) ((replicate v19.1.states.toNat ([]:bC)),0)))
def Io_(v19:Fst×Int)(x1:Int):Option (Seq×Int):=
 iter (λq:(List (List Arc))×Nat=>Kc_ v19 x1 q.1 q.2) ((replicate v19.1.states.toNat ([]:List Arc)),0)
def Kr_(x0:Fst)(x1:Int):Option (Seq×Int):=
 bnd (Gp x0) (λv5=>iteO (decide (v5≠0)) (some ((⟨([]:T_1),([]:aO),([]:iC),([]:B_1),([]:bC)⟩:Seq),1)) (iteO (decide (x1<1)) (some ((⟨([]:T_1),([]:aO),([]:iC),([]:B_1),([]:bC)⟩:Seq),1)) (iteO (decide (1024<x1)) (some ((⟨([]:T_1),([]:aO),([]:iC),([]:B_1),([]:bC)⟩:Seq),1)) (bnd (Gz_ x0) (λv19=>iteO (decide (v19.2≠0)) (some ((⟨([]:T_1),([]:aO),([]:iC),([]:B_1),([]:bC)⟩:Seq),v19.2)) (grd (0<=v19.1.states/\24 * v19.1.states.toNat<=281474976710656) (grd (0<=v19.1.states/\24 * v19.1.states.toNat<=281474976710656) (Io_ v19 x1))))))))
def Lw_(σ:aj)(r:Seq×Int):Value->aj->List Res->Prop:=λv σ' H'=>
 ∃a1 c1 a2 c2 a3 c3 a4 c4,v= .tuple #[.agg (kN r.1 a1 c1 a2 c2 a3 c3 a4 c4),.int .i64 r.2]/\RZ σ' (aF 1 ak aT) (.slice a1 r.1.next.length c1) r.1.next/\RZ σ' (aF 1 bF eu) (.slice a2 r.1.outs.length c2) r.1.outs/\dH σ' dG a3 c3 r.1.fin/\dH σ' bF a4 c4 r.1.tail/\H'=[]
theorem M7_{σ:aj}{x0:Fst}{x1:Int}(hgl:xu σ 0 2)(aC:RS σ 2 bf (.slice aB x0.starts.length aA) x0.starts)(aV:RS σ 2 bf (.slice ay x0.ends.length aH) x0.ends)(aS:RS σ 8 fP (.slice aG x0.arcs.length au) x0.arcs){r:Seq×Int}(hh:Kr_ x0 x1=some r):
  Con prog 25 #[.agg (jB x0 aB aA ay aH aG au),.int .i64 x1] σ [] (Lw_ σ r):=by
 dsimp only [Kr_]at hh;refine cM 107 Tryz.func25 (λw0=> ?_);refine R2 ?_;refine TL.bx (λaP=> ?_);refine TL.al (λbK=> ?_);refine R6 ?_;obtain ⟨v5,u5,hh⟩:=bg hh;refine φ z (gI (Tm (x0:=x0) aC aV aS u5) z z Qb z z z ?_);refine R2 ?_;refine δ 15 z (λdL=> ?_) (λdL=> ?_)
 ·obtain ⟨dL,hh⟩:=iT dL hh;refine R15 ?_;refine Ψ 1 ?_;obtain rfl:=so hh;exact rz
 obtain ⟨dL,hh⟩:=iF dL hh;refine R4 ?_;refine δ 19 z (λfM=> ?_) (λfM=> ?_)
 ·obtain ⟨fM,hh⟩:=iT fM hh;refine R11 ?_;refine Ψ 1 ?_;obtain rfl:=so hh;exact rz
 obtain ⟨fM,hh⟩:=iF fM hh;refine R4 ?_;refine π z hh (λgq hh=> ?_) (λgq hh=> ?_)
 ·refine R6 ?_;refine Ψ 1 ?_;obtain rfl:=so hh;exact rz
 refine R4 ?_;obtain ⟨v19,yG,hh⟩:=bg hh;refine φ z (OpOk.call (Md_ (x0:=x0) aC aV aS yG) z z pf12 z z z z ?_);rintro _ τ108 _ kK ⟨a108_1,c108_1,a108_2,c108_2,a108_3,c108_3,rfl,hr108_0,hr108_1,hr108_2,rfl⟩;replace hgl:=hgl.mono kK;have hr108_0b:=hr108_0.rv.big;have hr108_1b:=hr108_1.rv.big;have hr108_2b:=hr108_2.rv.big;refine R3 ?_;refine κ 1 (R9 ?_);refine π z hh (λiE hh=> ?_) (λiE hh=> ?_)
 ·refine R4 ?_;refine κ 1 (R3 ?_);refine Ψ 1 ?_;obtain rfl:=so hh;exact rz
 refine R4 ?_;refine φ z (as_ (enc:=iQ) (encV:=gX) z z z (λb110=> ?_));refine ι z bL (TL.bx (λuh=> ?_));refine R2 ?_;refine TC.cutG (α:=(Unit)×((Option Addr)×Nat×(Option Addr)×Nat)) (rgs [(37,12)]) (λg=>[]) (λg=>[ω aP (jB v19.1 a108_1 c108_1 a108_2 c108_2 a108_3 c108_3) 25,ω bK #[.string (bs ([]:T_1)),aW,aW,aW,aW] 56,ω uh #[.slice g.2.1 ((replicate v19.1.states.toNat ([]:List Arc)).length) g.2.2.1,.slice g.2.2.2.1 ((replicate v19.1.states.toNat ([]:bC)).length) g.2.2.2.2,.int .i64 x1,aW,.map (some b110),.string (bs ([]:T_1)),aW,aW,aW,aW] 110,Res.nest 23 49 8 fP (.slice g.2.1 (replicate v19.1.states.toNat ([]:List Arc)).length g.2.2.1) (replicate v19.1.states.toNat (qo:NP Arc)),Res.nest 54 9 1 bF (.slice g.2.2.2.1 (replicate v19.1.states.toNat ([]:bC)).length g.2.2.2.2) (replicate v19.1.states.toNat (qo:NP T_1)),Γ iQ gX (some b110) (FM.emp:FM T_1 Int)]) (λg=>τ108) (λg=>Io_ v19 x1=some r/\Zn (replicate v19.1.states.toNat (qo:NP Arc)) (replicate v19.1.states.toNat ([]:List Arc))/\Zn (replicate v19.1.states.toNat (qo:NP T_1)) (replicate v19.1.states.toNat ([]:bC))) ?_ (λg j hg=> ?_)
 ·obtain ⟨u40,hh⟩:=gd hh;obtain ⟨PV,hh⟩:=gd hh;refine TC.OV (Hr:=[Γ iQ gX (some b110) (FM.emp:FM T_1 Int),ω aP (jB v19.1 a108_1 c108_1 a108_2 c108_2 a108_3 c108_3) 25,ω bK #[.string (bs ([]:T_1)),aW,aW,aW,aW] 56]) (λr hr=>oU [1,2,3] z hr) [] (by kernel_rfl) (ν 0 z mL z (ν 1 z mL z (ν 2 z fL z (χ 3 z lL z (ν 5 z fL z (χ 6 z lL z ?_))))));refine TA.aN [4,7] (an rfl rfl (nP (q:=v19.1.states.toNat) (E:=49) (size:=8) (enc:=fP) rfl underlying107 IX Z7 XL rfl rfl (vN u40.1) (vN u40.1) (by omega) (by decide) rfl (λa130 c131 TN=>(k2 ?_))) (an rfl rfl (nP (q:=v19.1.states.toNat) (E:=9) (size:=1) (enc:=bF) rfl underlying53 JB XO PN rfl rfl (vN PV.1) (vN PV.1) (by omega) (by decide) rfl (λyu yc zf136=>(k2 ?_))) (True.intro)))
  ·refine ν 8 z (Ba z z) z (ν 9 z fL z ?_);refine TA.aN [7,10] (an rfl rfl (nP (q:=v19.1.states.toNat) (E:=9) (size:=1) (enc:=bF) rfl underlying53 JB XO PN rfl rfl (vN PV.1) (vN PV.1) (by omega) (by decide) rfl (λa138 c139 zf140=>(k3 ?_))) (an rfl rfl (OpOk.front 1 rfl rfl (iH rfl zx_ rfl rfl rfl rfl rfl (k2 ?_))) (True.intro)))
   ·refine Ω 2 (υ 10 z (iH z zx_ z z z z z (k3 ?_)));refine ν 11 z (Ba z z) z (ν 12 z fL z (υ 13 z (iH z Qk z z z z z (k3 ?_))));refine R1 ?_;exact cf ((),(a130,c131,a138,c139)) ⟨hh,TN,zf140⟩ (ψ [3,2,3,3,5,5] 6)
   refine υ 7 rfl (nP (q:=v19.1.states.toNat) (E:=9) (size:=1) (enc:=bF) rfl underlying53 JB XO PN rfl rfl (vN PV.1) (vN PV.1) (by omega) (by decide) rfl (λSV c143 J9=>(k3 ?_)));refine ν 11 z (Ba z z) z (ν 12 z fL z (Ω 1 (υ 13 z (iH z Qk z z z z z (k3 ?_)))));refine R1 ?_;exact cf ((),(a130,c131,SV,c143)) ⟨hh,TN,J9⟩ (ψ [3,2,3,3,5,5] 6)
  refine υ 4 rfl (nP (q:=v19.1.states.toNat) (E:=49) (size:=8) (enc:=fP) rfl underlying107 IX Z7 XL rfl rfl (vN u40.1) (vN u40.1) (by omega) (by decide) rfl (λa146 FZ zf148=>(k3 ?_)));refine ν 8 z (Ba z z) z (ν 9 z fL z (Ω 2 (υ 10 z (iH z zx_ z z z z z (k3 ?_)))));refine ν 11 z (Ba z z) z (ν 12 z fL z (υ 13 z (iH z Qk z z z z z (k3 ?_))));refine R1 ?_;exact cf ((),(a146,FZ,yu,yc)) ⟨hh,zf148,zf136⟩ (ψ [3,3,3,3,5,5] 6)
 obtain ⟨_,⟨pK,c116,a119,wF⟩⟩:=g;obtain ⟨hh,Gy,mQ⟩:=hg
 try dsimp only at Gy mQ ⊢
 dsimp only [Io_]at hh;have zf117b:=Gy.len;have zf121b:=mQ.len;refine TC.know (rG (q:=3) z Gy) (λ⟨_,WY⟩=> ?_);refine TC.know (rG (q:=4) z mQ) (λ⟨_,NU⟩=> ?_);refine R9 ?_;refine TC.lk hh (replicate v19.1.states.toNat (qo:NP Arc)) (rgs [(9,1),(52,23)]) (λ⟨_,dZ⟩ z168=>([(52,.int .i64 (dZ:Int))],[ω aP (jB v19.1 a108_1 c108_1 a108_2 c108_2 a108_3 c108_3) 25,ω bK #[.string (bs ([]:T_1)),aW,aW,aW,aW] 56,ω uh #[.slice pK ((replicate v19.1.states.toNat ([]:List Arc)).length) c116,.slice a119 ((replicate v19.1.states.toNat ([]:bC)).length) wF,.int .i64 x1,aW,.map (some b110),.string (bs ([]:T_1)),aW,aW,aW,aW] 110,Res.nest 23 49 8 fP (.slice pK (replicate v19.1.states.toNat ([]:List Arc)).length c116) z168,Res.nest 54 9 1 bF (.slice a119 (replicate v19.1.states.toNat ([]:bC)).length wF) (replicate v19.1.states.toNat (qo:NP T_1)),Γ iQ gX (some b110) (FM.emp:FM T_1 Int)])) (λ⟨bD,_⟩ z168=>bD.length=(replicate v19.1.states.toNat ([]:List Arc)).length/\Zn z168 bD/\Zn (replicate v19.1.states.toNat (qo:NP T_1)) (replicate v19.1.states.toNat ([]:bC))) ⟨z,Gy,mQ⟩ (ψ [5,5,5,5,5,5] 6) ?_;rintro ⟨bD,dZ⟩ z168 _ z1 hh hR1 ⟨AY,iJ,kX⟩;dsimp only [Kc_]at hh AY iJ kX ⊢;have zf169b:=iJ.len;have zf170b:=kX.len;refine TC.know (rG (q:=3) z iJ) (λ⟨_,WU⟩=> ?_);refine TC.know (rG (q:=4) z kX) (λ⟨_,hb173⟩=> ?_);refine R5 ?_;refine π z hh (λh174 hh=> ?_) (λh174 hh=> ?_)
 ·refine R7 ?_;refine TL.al (λCS=> ?_);refine R2 ?_;obtain ⟨u71,hh⟩:=gd hh;obtain ⟨u75,hh⟩:=gd hh;obtain ⟨u76,hh⟩:=gd hh;refine TC.OV (Hr:=[ω CS #[.int .i64 ((nth v19.1.arcs dZ aQ).frm),.int .i64 ((nth v19.1.arcs dZ aQ).to),.int .u64 (((nth v19.1.arcs dZ aQ).set).a:Int),.int .u64 (((nth v19.1.arcs dZ aQ).set).b:Int),.int .u64 (((nth v19.1.arcs dZ aQ).set).c:Int),.int .u64 (((nth v19.1.arcs dZ aQ).set).d:Int),.string (bs ((nth v19.1.arcs dZ aQ).out)),.bool ((nth v19.1.arcs dZ aQ).copy)] 49,ω aP (jB v19.1 a108_1 c108_1 a108_2 c108_2 a108_3 c108_3) 25,ω bK #[.string (bs ([]:T_1)),aW,aW,aW,aW] 56,ω uh #[.slice pK ((replicate v19.1.states.toNat ([]:List Arc)).length) c116,.slice a119 ((replicate v19.1.states.toNat ([]:bC)).length) wF,.int .i64 x1,aW,.map (some b110),.string (bs ([]:T_1)),aW,aW,aW,aW] 110,Res.nest 54 9 1 bF (.slice a119 (replicate v19.1.states.toNat ([]:bC)).length wF) (replicate v19.1.states.toNat (qo:NP T_1)),Γ iQ gX (some b110) (FM.emp:FM T_1 Int)]) (λr hr=>oU [0,1,2,3,5,6] z hr) [] (by kernel_rfl) (ν 0 z mL z (ν 1 z (Ba z z) z (ν 2 z fL z (χ 3 z lL z (ν 4 z fL z (χ 5 z lL z (ν 6 z mL z (ν 7 z (Ba z z) z (ν 8 z fL z (χ 9 z lL z (ν 10 z fL z (χ 11 z lL z (TA.know (rG (q:=4) z iJ) (λ⟨hs188,hs188b⟩=> ?_))))))))))))));refine χ 12 z iX z (χ 14 z lA z ?_);obtain ⟨p189,U9,V7⟩:=Zn.at iJ (i:=((nth v19.1.arcs dZ aQ).frm).toNat) (by omega);refine TA.aN [13,15] (an z z (OpVal.ok (EM z wt_ z (q:=4) z U9 V7) z z ⟨(λw h=>qj (aj.le.refl _) (λr hr=>oU [0,1,2,3,5,6] z hr) w h),?_⟩) (an z z (jc (enc:=fP) [(nth v19.1.arcs dZ aQ)] (λSS RG=>⟨(λw h=>qj (aj.le.refl _) (λr hr=>oU [1,2,3,4,6,7] z hr) w h),?_⟩)) (True.intro)))
  ·refine υ 15 z (jc (enc:=fP) [(nth v19.1.arcs dZ aQ)] (λa193 c194=>⟨(λw h=>qj (aj.le.refl _) (λr hr=>oU [1,2,3,4,6,7] z hr) w h),?_⟩));refine Ω 5 (TA.by (λw h=>Reach.takeN U9 V7 h) (υ 16 z (apF (.inr ⟨_,1,z⟩) u75 (λzI c198=>(k3 ?_)))));refine TA.know (JI (q:=1) z iJ) (λ⟨hs199,hs199b⟩=> ?_);refine χ 17 z iX z (Ω 1 (Ω 1 ?_));have AX:(bD.set (((nth v19.1.arcs dZ aQ).frm).toNat) ((nth bD (((nth v19.1.arcs dZ aQ).frm).toNat) [])++[(nth v19.1.arcs dZ aQ)])).length=(replicate v19.1.states.toNat ([]:List Arc)).length:=(fV ..).trans AY;refine υ 18 rfl (JM (l':=((nth bD (((nth v19.1.arcs dZ aQ).frm).toNat) [])++[(nth v19.1.arcs dZ aQ)])) rfl IX rfl rfl rfl rfl rfl (by rw [iJ.len];omega) iJ (λeY=>(k2 ?_)));refine R5 ?_;exact nk hR1 hh (z168.set (((nth v19.1.arcs dZ aQ).frm).toNat) (((nth bD (((nth v19.1.arcs dZ aQ).frm).toNat) [])++[(nth v19.1.arcs dZ aQ)]),(zI,c198))) (ψ [7,7,2,7,7,7] 6) ⟨AX,eY,kX⟩
  obtain ⟨p203,U8,V6⟩:=Zn.at iJ (i:=((nth v19.1.arcs dZ aQ).frm).toNat) (by omega);refine υ 13 z (OpVal.ok (EM z wt_ z (q:=5) z U8 V6) z z ⟨(λw h=>qj (aj.le.refl _) (λr hr=>oU [1,2,3,4,6,7] z hr) w h),?_⟩);refine Ω 5 (TA.by (λw h=>Reach.takeN U8 V6 h) (υ 16 z (apF (.inr ⟨_,1,z⟩) u75 (λa205 c206=>(k3 ?_)))));refine TA.know (JI (q:=1) z iJ) (λ⟨hs207,hs207b⟩=> ?_);refine χ 17 z iX z (Ω 1 (Ω 1 ?_));have hn209:(bD.set (((nth v19.1.arcs dZ aQ).frm).toNat) ((nth bD (((nth v19.1.arcs dZ aQ).frm).toNat) [])++[(nth v19.1.arcs dZ aQ)])).length=(replicate v19.1.states.toNat ([]:List Arc)).length:=(fV ..).trans AY;refine υ 18 rfl (JM (l':=((nth bD (((nth v19.1.arcs dZ aQ).frm).toNat) [])++[(nth v19.1.arcs dZ aQ)])) rfl IX rfl rfl rfl rfl rfl (by rw [iJ.len];omega) iJ (λzf208=>(k2 ?_)));refine R5 ?_;exact nk hR1 hh (z168.set (((nth v19.1.arcs dZ aQ).frm).toNat) (((nth bD (((nth v19.1.arcs dZ aQ).frm).toNat) [])++[(nth v19.1.arcs dZ aQ)]),(a205,c206))) (ψ [7,7,2,7,7,7] 6) ⟨hn209,zf208,kX⟩
 refine R1 ?_;replace hh:=bJ hR1 hh;refine R10 ?_;refine TC.lk hh (replicate v19.1.states.toNat (qo:NP T_1)) (rgs [(11,1),(78,24)]) (λ⟨_,eX⟩ z232=>([(78,.int .i64 (eX:Int))],[ω aP (jB v19.1 a108_1 c108_1 a108_2 c108_2 a108_3 c108_3) 25,ω bK #[.string (bs ([]:T_1)),aW,aW,aW,aW] 56,ω uh #[.slice pK ((replicate v19.1.states.toNat ([]:List Arc)).length) c116,.slice a119 ((replicate v19.1.states.toNat ([]:bC)).length) wF,.int .i64 x1,aW,.map (some b110),.string (bs ([]:T_1)),aW,aW,aW,aW] 110,Res.nest 23 49 8 fP (.slice pK (replicate v19.1.states.toNat ([]:List Arc)).length c116) z168,Res.nest 54 9 1 bF (.slice a119 (replicate v19.1.states.toNat ([]:bC)).length wF) z232,Γ iQ gX (some b110) (FM.emp:FM T_1 Int)])) (λ⟨jS,_⟩ z232=>bD.length=(replicate v19.1.states.toNat ([]:List Arc)).length/\Zn z168 bD/\jS.length=(replicate v19.1.states.toNat ([]:bC)).length/\Zn z232 jS) ⟨AY,iJ,z,kX⟩ (ψ [5,5,5,5,5,5] 6) ?_;rintro ⟨jS,eX⟩ z232 _ z1 hh hR1 ⟨AV,AL,wS,mP⟩;dsimp only [Ke_]at hh AV AL wS mP ⊢;have zf229b:=AL.len;have zf233b:=mP.len;refine TC.know (rG (q:=3) z AL) (λ⟨_,hb235⟩=> ?_);refine TC.know (rG (q:=4) z mP) (λ⟨_,NI⟩=> ?_);refine R5 ?_;refine π z hh (λZr hh=> ?_) (λZr hh=> ?_)
 ·refine R7 ?_;refine TL.al (λb238=> ?_);refine R2 ?_;obtain ⟨u101,hh⟩:=gd hh;obtain ⟨X3,hh⟩:=gd hh;obtain ⟨u107,hh⟩:=gd hh;refine TC.OV (Hr:=[ω b238 #[.int .i64 ((nth v19.1.ends eX aY).state),.string (bs ((nth v19.1.ends eX aY).out))] 79,ω aP (jB v19.1 a108_1 c108_1 a108_2 c108_2 a108_3 c108_3) 25,ω bK #[.string (bs ([]:T_1)),aW,aW,aW,aW] 56,ω uh #[.slice pK ((replicate v19.1.states.toNat ([]:List Arc)).length) c116,.slice a119 ((replicate v19.1.states.toNat ([]:bC)).length) wF,.int .i64 x1,aW,.map (some b110),.string (bs ([]:T_1)),aW,aW,aW,aW] 110,Res.nest 23 49 8 fP (.slice pK (replicate v19.1.states.toNat ([]:List Arc)).length c116) z168,Γ iQ gX (some b110) (FM.emp:FM T_1 Int)]) (λr hr=>oU [0,1,2,3,4,6] z hr) [] (by kernel_rfl) (ν 0 z mL z (ν 1 z (Ba z z) z (ν 2 z fL z (χ 3 z lL z (ν 4 z fL z (χ 5 z lL z (ν 6 z mL z (ν 7 z (Ba z z) z (ν 8 z fL z (χ 9 z lL z (ν 10 z fL z (χ 11 z lL z (TA.know (rG (q:=5) z mP) (λ⟨hs251,hs251b⟩=> ?_))))))))))))));refine χ 12 z iX z (ν 14 z fL z (χ 15 z lL z ?_));obtain ⟨p252,U7,V5⟩:=Zn.at mP (i:=((nth v19.1.ends eX aY).state).toNat) (by omega);refine TA.aN [13,16] (an z z (OpVal.ok (EM z KN z (q:=5) z U7 V5) z z ⟨(λw h=>qj (aj.le.refl _) (λr hr=>oU [0,1,2,3,4,6] z hr) w h),?_⟩) (an z z (jc (enc:=bF) [(nth v19.1.ends eX aY).out] (λa253 c254=>⟨(λw h=>qj (aj.le.refl _) (λr hr=>oU [1,2,3,4,5,7] z hr) w h),?_⟩)) (True.intro)))
  ·refine υ 16 z (jc (enc:=bF) [(nth v19.1.ends eX aY).out] (λa256 c257=>⟨(λw h=>qj (aj.le.refl _) (λr hr=>oU [1,2,3,4,5,7] z hr) w h),?_⟩));refine Ω 6 (TA.by (λw h=>Reach.takeN U7 V5 h) (υ 17 z (apF (.inr ⟨_,1,z⟩) X3 (λa260 c261=>(k3 ?_)))));refine TA.know (JI (q:=1) z mP) (λ⟨hs262,hs262b⟩=> ?_);refine χ 18 z iX z (Ω 1 (Ω 1 ?_));have hn264:(jS.set (((nth v19.1.ends eX aY).state).toNat) ((nth jS (((nth v19.1.ends eX aY).state).toNat) [])++[(nth v19.1.ends eX aY).out])).length=(replicate v19.1.states.toNat ([]:bC)).length:=(fV ..).trans wS;refine υ 19 rfl (JM (l':=((nth jS (((nth v19.1.ends eX aY).state).toNat) [])++[(nth v19.1.ends eX aY).out])) rfl JB rfl rfl rfl rfl rfl (by rw [mP.len];omega) mP (λJX=>(k2 ?_)));refine R5 ?_;exact nk hR1 hh (z232.set (((nth v19.1.ends eX aY).state).toNat) (((nth jS (((nth v19.1.ends eX aY).state).toNat) [])++[(nth v19.1.ends eX aY).out]),(a260,c261))) (ψ [7,1,7,7,7,7] 6) ⟨AV,AL,hn264,JX⟩
  obtain ⟨p266,U5,V4⟩:=Zn.at mP (i:=((nth v19.1.ends eX aY).state).toNat) (by omega);refine υ 13 z (OpVal.ok (EM z KN z (q:=6) z U5 V4) z z ⟨(λw h=>qj (aj.le.refl _) (λr hr=>oU [1,2,3,4,5,7] z hr) w h),?_⟩);refine Ω 6 (TA.by (λw h=>Reach.takeN U5 V4 h) (υ 17 z (apF (.inr ⟨_,1,z⟩) X3 (λAm Ag=>(k3 ?_)))));refine TA.know (JI (q:=1) z mP) (λ⟨hs270,hs270b⟩=> ?_);refine χ 18 z iX z (Ω 1 (Ω 1 ?_));have hn272:(jS.set (((nth v19.1.ends eX aY).state).toNat) ((nth jS (((nth v19.1.ends eX aY).state).toNat) [])++[(nth v19.1.ends eX aY).out])).length=(replicate v19.1.states.toNat ([]:bC)).length:=(fV ..).trans wS;refine υ 19 rfl (JM (l':=((nth jS (((nth v19.1.ends eX aY).state).toNat) [])++[(nth v19.1.ends eX aY).out])) rfl JB rfl rfl rfl rfl rfl (by rw [mP.len];omega) mP (λJW=>(k2 ?_)));refine R5 ?_;exact nk hR1 hh (z232.set (((nth v19.1.ends eX aY).state).toNat) (((nth jS (((nth v19.1.ends eX aY).state).toNat) [])++[(nth v19.1.ends eX aY).out]),(Am,Ag))) (ψ [7,1,7,7,7,7] 6) ⟨AV,AL,hn272,JW⟩
 refine R1 ?_;replace hh:=bJ hR1 hh;refine R5 ?_;rw [<-AV];refine κ 3 (TL.cv_ (λw h=>Reach.bf_ IE AL h) (λτ276 tC He=> ?_));replace hgl:=hgl.mono tC;replace hr108_0:=hr108_0.mono tC;replace hr108_1:=hr108_1.mono tC;replace hr108_2:=hr108_2.mono tC;rw [<-wS];refine κ 3 (TL.cv_ (λw h=>Reach.bf_ eu mP h) (λτ279 zo hr277=> ?_));replace hgl:=hgl.mono zo;replace hr108_0:=hr108_0.mono zo;replace hr108_1:=hr108_1.mono zo;replace hr108_2:=hr108_2.mono zo;replace He:=He.mono zo;refine TL.nilS 22 1 (aF 2 bf iV).en ?_;have zf280:=ZOk.nil τ279 (aF 2 bf iV);refine TL.nilS 31 1 (aF 1 ak aT).en ?_;have Di:=ZOk.nil τ279 (aF 1 ak aT);refine TL.nilS 54 1 (aF 1 bF eu).en ?_;have zf284:=ZOk.nil τ279 (aF 1 bF eu);refine TL.nilS 4 1 dG (TL.nilS 9 1 bF (κ 1 (κ 2 (κ 3 (κ 8 (κ 5 (κ 8 ?_)))))));obtain ⟨nT,X0,hh⟩:=bg hh;refine φ z (OpOk.call (Ln_ (x0:=(⟨bD,jS,x1,([]:List (List Tip)),(FM.emp:FM T_1 Int),(⟨([]:T_1),([]:aO),([]:iC),([]:B_1),([]:bC)⟩:Seq)⟩:Maker)) hgl He hr277 zf280 Di zf284 hr108_0 hr108_1 hr108_2 X0) z z pf72 z z z z ?_);rintro _ τ288 _ zk ⟨a288_1,c288_2,a288_3,c288_4,a288_5,c288_6,a288_7,c288_8,rfl,hr288_9,hr288_10,hr288_11,hr288_12,rfl⟩;have hr288_12b:=hr288_12.rv.big;refine R2 ?_;refine κ 1 (R3 ?_);refine Ψ 1 ?_;obtain rfl:=so hh;exact rz
end Go.Proofs.YtcfgkcfcddfccaaGreatDoor
end

noncomputable section
namespace Go.E
open Go
theorem m0_{P:Program}{w:World}(t ty e:TypeId)(i:TypeInfo)(ht:P.underlying t=some (.slice e))(hi:P.info? e=some i)
    (g o sLen sCap:Nat) (cur:Array Value) (hg:w.heap[g]? =some (.cells cur e (0,0)))
    (a:Addr) (m c:Nat) (news:List Value) (hl:news.length=m * i.size) (hnews: ∀j u,news[j]? =some u->w.cell? (a.add j)=some u) (h1: ∀u∈news,u.oneCell'=true)
    (hroom:sLen+m<=sCap) (hfit:o+sLen * i.size+news.length<=cur.size):
    (Builtin.append_ #[t,t] ty #[.slice (some ⟨g,o,none⟩) sLen sCap,.slice (some a) m c]).run P w=
      .ok (.slice (some ⟨g,o,none⟩) (sLen+m) sCap) (w.setRow g (cur.toList.take (o+sLen * i.size)++news++cur.toList.drop (o+sLen * i.size+news.length)).toArray):=by
  have hf:=run_firstCells_some (P:=P) w i.size m a m c news hl hnews;have hst:=run_storeCells_at P g (o+sLen * i.size) e news 0 cur w hg (by simpa using hfit) h1;simp only [Nat.add_zero]at hst;simp [Builtin.append_,run_underlying ht,sizeOf,typeInfo,hi,Builtin.lenOf,hroom,hf,Addr.add_lit,hst]
def Qp(size k:Nat):Value->Value
  | .slice a n c=> .slice (a.map λb=>b.add (k * size)) (n - k) (c - k)
  |v=>v
theorem pk_(size:Nat)(v:Value):Qp size 0 v=v:=by
  cases v<;>simp only [Qp]
  rename_i a n c
  cases a<;>simp [Addr.add]
theorem th_(size k:Nat)(v:Value):(Qp size k v).ownBlock=v.ownBlock:=by
  cases v<;>simp only [Qp]
  rename_i a n c
  cases a with
  |none=>rfl
  |some b=>simp only [Value.ownBlock,Option.map_some,Addr.add];split<;>rfl
def View(size k:Nat)(v0 v:Value)(n:Nat):Prop:=v=Qp size k v0\/n=0/\v.ownBlock=v0.ownBlock/\ ∃a,v= .slice a 0 0
theorem View.block{size k:Nat}{v0 v:Value}{n:Nat}(h:View size k v0 v n):v.ownBlock=v0.ownBlock:=by
  rcases h with rfl|⟨_,h,_⟩
  · exact th_ ..
  exact h
def SY{α:Type}(E size:Nat)(enc:α->List Value)(v:Value)(L:List α)(w:World):Prop:=w.ownsRow 0 E size v L.length (L.flatMap enc)/\ ∀u∈L.flatMap enc,u.oneCell'=true
def Res.queS {α : Type} (E size : Nat) (enc : α -> List Value) (v : Value) (l : List α) : Res where
  bl:=v.ownBlock.toList
  holds w:= ∃(L:List α) (v0:Value) (k:Nat),SY E size enc v0 L w/\k<=L.length/\l=L.drop k/\View size k v0 v l.length/\l.length<=281474976710656
  lt w b hb h:=by
    obtain ⟨L,v0,k,h,_,_,hv,_⟩:=h;exact (h.1.lt b (by rw [<-hv.block];exact Option.mem_toList.1 hb)).2
  keep w w' hb h:=by
    obtain ⟨L,v0,k,⟨h,ho⟩,h1,h2,hv,h3⟩:=h;refine ⟨L,v0,k,⟨⟨h.1,?_⟩,ho⟩,h1,h2,hv,h3⟩;have hbl:=hv.block;rcases h.2 with hn|⟨g,cap,cur,rfl,h0,hg,rest⟩
    · exact .inl hn
    exact .inr ⟨g,cap,cur,rfl,h0,by rw [hb g (by rw [hbl];exact Option.mem_toList.2 rfl)];exact hg,rest⟩
section
variable {α:Type} {E size:Nat} {enc:α->List Value} {v:Value} {l:List α}
theorem Reach.dm_{w0:World}{C:List Nat}{σ0 σ:aj}{w:World}{F:List Res}(h:Reach w0 C σ0 σ w (ε E size enc v l::F)):Reach w0 C σ0 σ w (Res.queS E size enc v l::F):=
  h.F7 v.ownBlock v.ownBlock rfl rfl rfl rfl rfl (Nat.le_refl _) (Nat.le_refl _) (λ_ _ _=>rfl) ⟨l,v,0,⟨(h.holds _ (iU ..)).1,(h.holds _ (iU ..)).2.1⟩,Nat.zero_le _,rfl,.inl (pk_ size v).symm,(h.holds _ (iU ..)).2.2⟩ (λ_ hb=> .inl hb)
theorem TC.dm_{X:Ctx}{Q:QP}{c:Code}{e:Env}{σ:aj}{F:List Res}(k:TC X Q c e σ (Res.queS E size enc v l::F)):TC X Q c e σ (ε E size enc v l::F):=λw a hw ha=>k w a (hw.by λ_ h=>h.dm_) ha
theorem que_sl{w:World}(h:(Res.queS E size enc v l).holds w):uo v l.length/\l.length<=281474976710656:=by
  obtain ⟨L,v0,k,h,hk,rfl,hv,hb⟩:=h;obtain ⟨a,c,rfl,h0,hc⟩:=isSl_row h.1;rw [List.length_drop]at hv hb ⊢;rcases hv with rfl|⟨h1, -,a',rfl⟩
  · refine ⟨⟨_,_,rfl,λhn=> ?_,by omega⟩,by omega⟩
    cases a with
    |none=>obtain ⟨h1,h2⟩:=h0 rfl;omega
    |some b=>cases hn
  rw [h1];exact ⟨⟨a',0,rfl,λ_=>⟨rfl,rfl⟩,Nat.le_refl _⟩,by omega⟩
theorem uy_{σ:aj}{H:List Res}{q:Nat}(hq:H[q]? =some (Res.queS E size enc v l)): ∀w,kH σ H w->uo v l.length/\l.length<=281474976710656:=λw hw=>que_sl (hw.2 _ (List.mem_of_getElem? hq))
theorem ss_{w:World}(h:(Res.queS E size enc v l).holds w):(∃(L:List α) (g k c:Nat) (cur:Array Value),k<=L.length/\l=L.drop k/\v= .slice (some ⟨g,k * size,none⟩) (L.length - k) (c - k)/\w.heap[g]? =some (.cells cur E (0,0))/\L.length<=c/\c<=maxLen/\cur.size=c * size/\cur.toList.take (L.length * size)=L.flatMap enc/\(L.flatMap enc).length=L.length * size/\(∀u∈L.flatMap enc,u.oneCell'=true)/\l.length<=281474976710656)\/l=[]/\ ∃a,v= .slice a 0 0:=by
  obtain ⟨L,v0,k,h,hk,rfl,hv,hbig⟩:=h;rw [List.length_drop]at hv;obtain ⟨⟨hl,h1⟩,hone⟩:=h;rcases hv with rfl|⟨h7, -,a,rfl⟩
  · rcases h1 with ⟨rfl,hn⟩|⟨g,c,cur,rfl, -,hg,h3,h4,h5,h6⟩
    · refine .inr ⟨FV (by rw [List.length_drop];omega),none,?_⟩
      simp [Qp]
    refine .inl ⟨L,g,k,c,cur,hk,rfl,?_,hg,h3,h4,h5,h6,hl,hone,hbig⟩;unfold Qp;simp only [Option.map_some,EK,Nat.zero_add]
  exact .inr ⟨FV (by rw [List.length_drop];exact h7),a,rfl⟩
theorem vw_{w:World}(h:(Res.queS E size enc v l).holds w)(h0:0<l.length): ∃(L:List α) (g k c:Nat) (cur:Array Value),k<L.length/\l=L.drop k/\v= .slice (some ⟨g,k * size,none⟩) (L.length - k) (c - k)/\w.heap[g]? =some (.cells cur E (0,0))/\L.length<=c/\c<=maxLen/\cur.size=c * size/\cur.toList.take (L.length * size)=L.flatMap enc/\(L.flatMap enc).length=L.length * size/\(∀u∈L.flatMap enc,u.oneCell'=true)/\l.length<=281474976710656:=by
  rcases ss_ h with ⟨L,g,k,c,cur,hk,rfl,h⟩|⟨rfl, -⟩
  · rw [List.length_drop]at h0;exact ⟨L,g,k,c,cur,by omega,rfl,h⟩
  cases h0
theorem og_{size:Nat}(hl: ∀x,(enc x).length=size): ∀(L:List α) (k:Nat),(L.drop k).flatMap enc=(L.flatMap enc).drop (k * size)
  |L,0=>by simp
  |[],k+1=>by simp
  |x::L,k+1=>by
    rw [List.drop_succ_cons,og_ hl L k,List.flatMap_cons,Nat.add_mul,Nat.one_mul,Nat.add_comm,<-hl x,List.drop_length_add_append]
theorem OpVal.dw_{P:Program}{n:Nat}{e:Env}{σ:aj}{H:List Res}{o:Oper}{x:Operand}{T q i:Nat}{u:Value}(d:α)(ho:o.op= .load T x)(hA:aggOf P T=some false)(hx:ev e x=lF v (i * 1))(hq:H[q]? =some (Res.queS E 1 enc v l))(hl: ∀x,(enc x).length=1)(hi:i<l.length)
    (hu:(enc (nth l i d))[0]? =some u):OpVal P n o e σ H u:=λw hw=>by
  have hQ:=hw.2 _ (List.mem_of_getElem? hq);obtain ⟨L,g,k,c,cur,hk,rfl,rfl,hg,h3,h4,h5,h6,h7,h8,h9⟩:=vw_ hQ (by omega);rw [List.length_drop]at hi;have hn:nth (L.drop k) i d=nth L (k+i) d:=by unfold nth;simp [List.getD_eq_getElem?_getD,List.getElem?_drop]
  rw [hn]at hu;have hx':ev e x=loc g (k+i):=by
    rw [hx];unfold lF loc;simp only [EK,Nat.mul_one]
  have hc:cur.toList[k+i]? =some u:=by
    have h10:(L.flatMap enc)[(k+i) * 1+0]? =some u:=by rw [ZG hl L (k+i) 0 _ (getD_some L (by omega) d) (by omega)];exact hu
    rw [<-h6,List.getElem?_take]at h10
    split at h10
    · simpa using h10
    cases h10
  exact OpVal.Aj (n:=n) (H:=[ω g cur E]) (i:=0) ho hA hx' rfl (by simpa using hc) w ⟨hw.1,λr hr=>by rw [List.mem_singleton.1 hr];exact hg⟩
end
section
variable {X:Ctx} {e:Env} {σ:aj} {F:List Res} {o:Oper} {x y:Operand} {K:Env->aj->List Res->Prop} {α:Type} {E size d:Nat} {enc:α->List Value} {v:Value} {l:List α}
theorem OpOk.popQ {T i : Nat} {k : IntKind} (ho : o.op = .slice T x (some y) none none) (ht : X.P.underlying T = some (.slice E)) (hs : szOf X.P E = some size) (hd : o.dst = some d) (hn : Nat.blt d X.n = true) (hx : ev e x = v) (hy : ev e y = .int k (i : Nat)) (hi : i <= l.length) (h0 : 0 < l.length)
    (kk: ∀a c,K (upd e d (.slice a (l.drop i).length c)) σ (Res.queS E size enc (.slice a (l.drop i).length c) (l.drop i)::F)):OpOk X o e σ (Res.queS E size enc v l::F) K:=by
  intro u0 C0 τ0 w a hw ha K' Q hK;have hQ:=hw.holds _ (iU ..);obtain ⟨L,g,q,c,cur,hk,rfl,rfl,hg,h3,h4,h5,h6,h7,h8,h9⟩:=vw_ hQ h0;rw [List.length_drop]at hi;have hlen:((L.drop q).drop i).length=L.length - q - i:=by rw [List.length_drop,List.length_drop]
  have hrow:SY E size enc (.slice (some ⟨g,0,none⟩) L.length c) L w:=⟨⟨h7,.inr ⟨g,c,cur,rfl,Nat.zero_le _,hg,h3,h4,h5,h6⟩⟩,h8⟩;obtain ⟨a',hrun,hV⟩: ∃a',(execOp (ev e) o).run X.P w= .ok (.value (.slice a' (L.length - q - i) (c - q - i))) w/\(Value.slice a' (L.length - q - i) (c - q - i)).ownBlock=(Value.slice (some ⟨g,0,none⟩) L.length c).ownBlock/\View size (q+i) (.slice (some ⟨g,0,none⟩) L.length c) (.slice a' (L.length - q - i) (c - q - i)) (L.length - q - i):=by
    by_cases hc:c - q=i
    · refine ⟨some ⟨g,q * size,none⟩,?_,rfl,.inr ⟨by omega,rfl,?_⟩⟩
      · have h1:(i:Int)<=((c - q:Nat):Int):=by omega
        have h2:(i:Int)<=((L.length - q:Nat):Int):=by omega
        simp [execOp,ho,hx,hy,Instr.sliceAt,Instr.slice,Instr.sliceBounds,Instr.sliceBound,asIntOf,run_underlying ht,xX hs];rw [if_pos hi,if_pos hc]
      rw [show L.length - q - i=0 by omega,show c - q - i=0 by omega];exact ⟨_,rfl⟩
    refine ⟨some ⟨g,(q+i) * size,none⟩,?_,rfl,.inl ?_⟩
    · simp [execOp,ho,hx,hy,Instr.sliceAt,Instr.slice,Instr.sliceBounds,Instr.sliceBound,asIntOf,run_underlying ht,xX hs]
      rw [if_pos hi,if_neg hc,EK,<-Nat.add_mul]
    unfold Qp;simp only [Option.map_some,EK,Nat.zero_add,Nat.sub_sub]
  have hR:Reach u0 C0 τ0 σ w (Res.queS E size enc (.slice a' (L.length - q - i) (c - q - i)) ((L.drop q).drop i)::F):=
    hw.F7 (some g) (some g) rfl (by show (Value.slice a' (L.length - q - i) (c - q - i)).ownBlock.toList=_;rw [hV.1];rfl) rfl rfl rfl (Nat.le_refl _) (Nat.le_refl _) (λ_ _ _=>rfl) ⟨L,_,q+i,hrow,by omega,by rw [List.drop_drop],by rw [hlen];exact hV.2,by rw [List.length_drop]at h9;omega⟩ (λ_ hb=> .inl hb)
  have hk2:=kk a' (c - q - i);rw [hlen]at hk2;refine Oper.wG (w':=w) (v:= .slice a' (L.length - q - i) (c - q - i)) ?_ (hK _ _ _ _ _ hk2 hR (xR ha hd hn _));rw [ha.eval'];exact hrun
theorem OpOk.db_ {T jY : Nat} {z u : Value} {l2 : List α} {ty : TypeId} (ho : o.op = .call { callee := .builtin .append, args := #[x, y], argTypes := #[T, ty] }) (hty : ty = T) (ht : X.P.underlying T = some (.slice E)) (hs : szOf X.P E = some size) (hby : byOf X.P E = some jY) (hz : zeroOf X.P E = some z)
    (hd:o.dst=some d) (hn:Nat.blt d X.n=true) (hsz:0<size) (hzs:z.cells.size=size) (hl: ∀x,(enc x).length=size) (hx:ev e x=v) (hy:ev e y=u) (hsrc:rq_ σ F size enc u l2) (hb0:(l.length+l2.length) * jY<=140737488355328) (lW:0<jY) (h2:0<l2.length)
    (k: ∀a c,K (upd e d (.slice a (l++l2).length c)) σ (Res.queS E size enc (.slice a (l++l2).length c) (l++l2)::F)):OpOk X o e σ (Res.queS E size enc v l::F) K:=by
  subst hty;obtain ⟨i,hi,hsi⟩:=PY hs;have hiz:i.zero=some z:=by simpa [zeroOf,hi]using hz
  have hib:i.bytes=jY:=by simpa [byOf,hi]using hby
  have hm0:l.length+l2.length<=140737488355328:=Nat.le_trans (Nat.le_mul_of_pos_right _ lW) hb0;have hm:l.length+l2.length<=maxLen:=by unfold maxLen;omega
  intro u0 C0 τ0 w a hw ha K' Q hK;have hQ:=hw.holds _ (iU ..);have hF:kH σ F w:=⟨hw.fit,λr hr=>hw.holds r (rM _ hr)⟩;have hsrc':vr_ σ F size u l2.length (l2.flatMap enc):=by
    rcases hsrc with h|⟨E',q,h⟩
    · exact .inl h.rv
    exact .inr ⟨E',q,h⟩
  have hyl:(l2.flatMap enc).length=l2.length * size:=uf hl l2;rcases hsrc'.spec hF with ⟨_,h0,_⟩|⟨ad,c2,rfl,hl2,hc2,h1⟩
  · omega
  have hone2: ∀q∈(l++l2).flatMap enc,(∀u∈l.flatMap enc,u.oneCell'=true)->q.oneCell'=true:=λq hq h0=>by
    rw [List.flatMap_append]at hq;rcases List.mem_append.1 hq with hq|hq
    · exact h0 q hq
    exact h1 q hq
  have hfl:(l.flatMap enc).length=l.length * size:=uf hl l
  -- the end: a new row with all of it
  have fin: ∀(vb:Value) (cap:Nat),v=vb->(∀u∈l.flatMap enc,u.oneCell'=true)->cap<l.length+l2.length->
      (Builtin.append_ #[ty,ty] o.type #[vb,.slice (some ad) l2.length c2]).run X.P w=
        .ok (.slice (some ⟨w.heap.size,0,none⟩) (l.length+l2.length) (grownCap w (l.length+l2.length) cap E)) (w.drew.alloc (.cells ((l.flatMap enc).toArray++(l2.flatMap enc).toArray++Builtin.zeroCells z.cells (grownCap w (l.length+l2.length) cap E - (l.length+l2.length))) E))->
      o.wpIn (fence X.rnd) 0 X.P a w K' Q:=λvb cap hvb hone hcap hrun=>by
    subst hvb;have hge:=grownCap_ge w (l.length+l2.length) cap E;have hcm:grownCap w (l.length+l2.length) cap E<=maxLen:=grownCap_le_maxLen w (l.length+l2.length) cap E hm;have hrow:SY E size enc (.slice (some ⟨w.heap.size,0,none⟩) (l.length+l2.length) (grownCap w (l.length+l2.length) cap E)) (l++l2) (w.drew.alloc (.cells ((l.flatMap enc).toArray++(l2.flatMap enc).toArray++Builtin.zeroCells z.cells (grownCap w (l.length+l2.length) cap E - (l.length+l2.length))) E)):=by
      refine ⟨⟨by rw [uf hl],.inr ⟨w.heap.size,_,_,by rw [iK],Nat.zero_le _,heap_alloc_new w.drew _,by rw [iK];exact hge,hcm,?_,?_⟩⟩,λq hq=>hone2 q hq hone⟩
      · simp only [Array.size_append,List.size_toArray,size_zeroCells,hzs,hfl,hyl,<-Nat.add_mul]
        congr 1;omega
      simp only [Array.toList_append,Gf,List.flatMap_append];rw [<-Gf,iK,Nat.add_mul,<-hfl,<-hyl,<-iK];exact List.take_left
    have hR:Reach u0 C0 τ0 σ (w.drew.alloc (.cells ((l.flatMap enc).toArray++(l2.flatMap enc).toArray++Builtin.zeroCells z.cells (grownCap w (l.length+l2.length) cap E - (l.length+l2.length))) E)) (Res.queS E size enc (.slice (some ⟨w.heap.size,0,none⟩) (l.length+l2.length) (grownCap w (l.length+l2.length) cap E)) (l++l2)::F):=
      hw.F7 (Value.ownBlock v) (some w.heap.size) rfl rfl rfl rfl rfl (by simp) (Nat.le_succ _) (λk hk _=>Ol w.drew _ k hk) ⟨l++l2,_,0,hrow,Nat.zero_le _,rfl,.inl (pk_ size _).symm,by rw [iK];omega⟩ (λb hb=> .inr (by cases hb;exact Nat.le_refl _))
    have hk2:=k (some ⟨w.heap.size,0,none⟩) (grownCap w (l.length+l2.length) cap E);rw [iK]at hk2;refine Oper.wG (w':=_) (v:= .slice (some ⟨w.heap.size,0,none⟩) (l.length+l2.length) (grownCap w (l.length+l2.length) cap E)) ?_ (hK _ _ _ _ _ hk2 hR (xR ha hd hn _));rw [ha.eval'];simp [execOp,ho,resolve,invoke,builtin,hx,hy,hrun]
  subst hsi hib;rcases ss_ hQ with ⟨L,g,q,c,cur,hk,rfl,rfl,hg,h3,h4,h5,h6,h7,h8,h9⟩|⟨rfl,b,rfl⟩
  · rw [List.length_drop]at *
    have holds: ∀j u,((L.drop q).flatMap enc)[j]? =some u->w.cell? ((⟨g,q * i.size,none⟩:Addr).add j)=some u:=λj u hj=>by
      rw [og_ hl,List.getElem?_drop,<-h6,List.getElem?_take]at hj
      split at hj
      · rw [EK]
        simp only [World.cell?,hg,Option.isSome_none,Bool.false_eq_true,if_false];rw [<-Array.getElem?_toList];exact hj
      cases hj
    have hone: ∀u∈(L.drop q).flatMap enc,u.oneCell'=true:=λu hu=>h8 u (by rw [og_ hl]at hu;exact List.mem_of_mem_drop hu)
    by_cases hroom:L.length - q+l2.length<=c - q
    · have e1:q * i.size+(L.length - q) * i.size=L.length * i.size:=by rw [<-Nat.add_mul];congr 1;omega
      have hfit:q * i.size+(L.length - q) * i.size+(l2.flatMap enc).length<=cur.size:=by
        rw [e1,hyl,h5,<-Nat.add_mul];exact Nat.mul_le_mul_right _ (by omega)
      have hr:=m0_ (P:=X.P) ty o.type E i ht hi g (q * i.size) (L.length - q) (c - q) cur hg ad l2.length c2 (l2.flatMap enc) hl2 hc2 h1 hroom hfit;rw [e1]at hr;have hrow:SY E i.size enc (.slice (some ⟨g,0,none⟩) (L.length+l2.length) c) (L++l2) (w.setRow g (cur.toList.take (L.length * i.size)++l2.flatMap enc++cur.toList.drop (L.length * i.size+(l2.flatMap enc).length)).toArray):=by
        refine ⟨⟨by rw [uf hl],.inr ⟨g,c,_,by rw [iK],Nat.zero_le _,setRow_heap w g cur _ E _ hg,by rw [iK];omega,h4,?_,?_⟩⟩,λu hu=> ?_⟩
        · simp only [List.size_toArray,iK,List.length_take,List.length_drop,Array.length_toList]
          omega
        · rw [h6,List.flatMap_append,iK,Nat.add_mul,<-h7,<-hyl,<-iK]
          exact List.take_left
        rw [List.flatMap_append]at hu;rcases List.mem_append.1 hu with hu|hu
        · exact h8 u hu
        exact h1 u hu
      have hR:Reach u0 C0 τ0 σ (w.setRow g (cur.toList.take (L.length * i.size)++l2.flatMap enc++cur.toList.drop (L.length * i.size+(l2.flatMap enc).length)).toArray) (Res.queS E i.size enc (.slice (some ⟨g,q * i.size,none⟩) (L.length - q+l2.length) (c - q)) (L.drop q++l2)::F):=
        hw.F7 (some g) (some g) rfl rfl rfl rfl rfl (by simp) (Nat.le_refl _) (λk hk hn=>setRow_other w g k _ (λe=>hn (by rw [e]))) ⟨L++l2,_,q,hrow,by rw [iK];omega,by rw [List.drop_append_of_le_length (by omega)],.inl (by
          unfold Qp;simp only [Option.map_some,EK,Nat.zero_add];congr 1;omega),by rw [iK,List.length_drop];omega⟩ (λb hb=> .inl hb)
      have hk2:=k (some ⟨g,q * i.size,none⟩) (c - q);rw [iK,List.length_drop]at hk2;refine Oper.wG (w':=_) (v:= .slice (some ⟨g,q * i.size,none⟩) (L.length - q+l2.length) (c - q)) ?_ (hK _ _ _ _ _ hk2 hR (xR ha hd hn _));rw [ha.eval'];simp [execOp,ho,resolve,invoke,builtin,hx,hy,hr]
    have hr:=run_append_grow (P:=X.P) (w:=w) ty o.type E i z ht hi hiz ⟨g,q * i.size,none⟩ (L.length - q) (c - q) ((L.drop q).flatMap enc) hfl holds ad l2.length c2 (l2.flatMap enc) hl2 hc2 (by omega) (by omega) (growslice_fits (by omega) hb0);exact fin _ (c - q) rfl hone (by omega) hr
  simp only [List.length_nil,Nat.zero_add,List.flatMap_nil]at *;cases b with
  |some b=>
    have hr:=run_append_grow (P:=X.P) (w:=w) ty o.type E i z ht hi hiz b 0 0 [] (by simp) (by simp) ad l2.length c2 (l2.flatMap enc) hl2 hc2 (by omega) (by omega) (growslice_fits (by omega) (by simpa using hb0));simp only [Nat.zero_add]at hr;exact fin _ 0 rfl (by simp) h2 hr
  |none=>
    have hr:=run_append_nil (P:=X.P) w ty o.type E i z ht hi hiz ad l2.length c2 (l2.flatMap enc) hl2 hc2 (by omega) (by omega) (by omega);exact fin _ 0 rfl (by simp) h2 (by simpa using hr)
end
end Go.E
end
