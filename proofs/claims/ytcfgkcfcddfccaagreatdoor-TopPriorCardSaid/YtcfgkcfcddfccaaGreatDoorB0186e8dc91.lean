/- Parts of a proof, one behind the other: what a machine reaches, functions decompiled, plain lemmas. Conditions stand with each lemma. -/
import Derived.Test.YtcfgkcfcddfccaaGreatDoorB147a8df593
import Derived.Test.YtcfgkcfcddfccaaGreatDoorBb70fbe2253
import Derived.Test.YtcfgkcfcddfccaaGreatDoorB334a0c3166
import Derived.Shelf.SlSortCmp.NoneTotal
import Derived.Shelf.Sort.Plain
import Derived.Shelf.SlLaysZI
import Derived.Test.YtcfgkcfcddfccaaGreatDoorChecked
import Derived.CallsIn
import Derived.RunT
import Derived.Shelf.SlIterI.Sorted
import Derived.Shelf.SlIterI.Nil
import Derived.WideReads
import Derived.Laws.Append

set_option linter.unusedVariables false
set_option linter.unusedSimpArgs false
set_option linter.unusedSectionVars false
set_option maxRecDepth 100000
set_option maxHeartbeats 8000000
variable {aB ay aG bY dV iI:Option Go.Addr}{aA aH au bW iR dU:Nat}

noncomputable section
namespace Go.Proofs.YtcfgkcfcddfccaaGreatDoor
open Go Go.E Go.E.OpVal Go.E.OpOk Go.Proofs.Tryz
open List (replicate)
theorem Ux:plainF Tryz.prog 152=true:=by kernel_rfl
theorem pf153:plainF Tryz.prog 153=true:=by kernel_rfl
theorem pf29:plainF Tryz.prog 29=true:=by kernel_rfl
theorem pf30:plainF Tryz.prog 30=true:=by kernel_rfl
theorem Ye:plainF Tryz.prog 31=true:=by kernel_rfl
theorem KZ:plainF Tryz.prog 59=true:=by kernel_rfl
theorem pf92:plainF Tryz.prog 92=true:=by kernel_rfl
theorem pf93:plainF Tryz.prog 93=true:=by kernel_rfl
theorem pf94:plainF Tryz.prog 94=true:=by kernel_rfl
def C7_(nV:Nat)(l159:B_1)(mD:ah):Option ((B_1×ah×Nat)⊕((B_1×ah×Nat)⊕(ah))):=
 nxt (l159,mD,(nV+1))
def XB(x0:Dfa)(fA:ah)(gU:Nat)(bZ:B_1)(uz:ah)(nV:Nat):Option ((B_1×ah×Nat)⊕((B_1×ah×Nat)⊕(ah))):=
 iteO (decide ((nV:Int)<((nth x0.next ((nth fA gU 0).toNat) []).length:Int))) (grd (0<=(nth (nth x0.next ((nth fA gU 0).toNat) []) nV 0)/\(nth (nth x0.next ((nth fA gU 0).toNat) []) nV 0)<(bZ.length:Int)) (iteO (!(nth bZ ((nth (nth x0.next ((nth fA gU 0).toNat) []) nV 0).toNat) false)) (grd (0<=(nth (nth x0.next ((nth fA gU 0).toNat) []) nV 0)/\(nth (nth x0.next ((nth fA gU 0).toNat) []) nV 0)<(bZ.length:Int)) (grd ((uz.length+[(nth (nth x0.next ((nth fA gU 0).toNat) []) nV 0)].length) * 8<=140737488355328) (C7_ nV (bZ.set ((nth (nth x0.next ((nth fA gU 0).toNat) []) nV 0).toNat) true) (uz++[(nth (nth x0.next ((nth fA gU 0).toNat) []) nV 0)])))) (C7_ nV bZ uz))) (fin (nxt (bZ,uz,(gU+1))))
def B3_(x0:Dfa)(oW:B_1)(fA:ah)(gU:Nat):Option ((B_1×ah×Nat)⊕(ah)):=
 iteO (decide ((gU:Int)<(fA.length:Int))) (grd (0<=(nth fA gU 0)/\(nth fA gU 0)<(x0.next.length:Int)) (iter (λq:B_1×ah×Nat=>XB x0 fA gU q.1 q.2.1 q.2.2) (oW,fA,0))) (fin (some fA))
def Ex_(x0:Dfa):Option (ah):=
 grd (1 * x0.next.length<=281474976710656) (grd (0<(replicate x0.next.length false).length) (iter (λq:B_1×ah×Nat=>B3_ x0 q.1 q.2.1 q.2.2) (((replicate x0.next.length false).set 0 true),[0],0)))
theorem Lu_{σ:aj}{x0:Dfa}(aC:dH σ ak aB aA x0.cls)(aV:RZ σ (aF 1 ak aT) (.slice ay x0.next.length aH) x0.next)(aS:dH σ dG aG au x0.fin){r:ah}(hh:Ex_ x0=some r):
  Con prog 93 #[.agg #[.slice aB x0.cls.length aA,.slice ay x0.next.length aH,.slice aG x0.fin.length au]] σ [] (gw_ σ r):=by
 dsimp only [Ex_]at hh;refine cM 48 Tryz.func93 (λw0=> ?_);refine R2 ?_;refine TL.bx (λaP=> ?_);refine R7 ?_;obtain ⟨u6,hh⟩:=gd hh;refine φ z (mk2 (enc:=dG) false (λjC jA=> ?_));refine R5 ?_;obtain ⟨u9,hh⟩:=gd hh;refine TL.iS 0 z (λhs106=> ?_);refine ι z (A_ (i:=0) z underlying33 sz4 z z hs106 (by omega)) ?_;have hn107:((replicate x0.next.length false).set 0 true).length=(replicate x0.next.length false).length:=by rw [fV]
 refine φ z (sS true ?_);refine R3 ?_;refine φ z (jc (enc:=ak) [0] (λa108 c109=> ?_));refine R8 ?_;refine TC.lk hh (a108,c109) (rgs [(4,2),(7,1),(15,32)]) (λ⟨oW,fA,gU⟩ ⟨a127,ql⟩=>([(4,.slice a127 fA.length ql),(5,.int .i64 (gU:Int))],[ω aP #[.slice aB x0.cls.length aA,.slice ay x0.next.length aH,.slice aG x0.fin.length au] 35,ε 4 1 dG (.slice jC (replicate x0.next.length false).length jA) oW,dO 3 ak a127 ql fA])) (λ⟨oW,_,_⟩ ⟨_,_⟩=>oW.length=(replicate x0.next.length false).length) hn107 (ψ [1,2] 3) ?_;rintro ⟨oW,fA,gU⟩ ⟨a127,ql⟩ _ z1 hh hR1 VW;dsimp only [B3_]at hh VW ⊢;refine ζ 1 z (λW9=> ?_);refine ζ 2 z (λIz=> ?_);refine R8 ?_;refine π z hh (λCe hh=> ?_) (λCe hh=> ?_)
 ·refine R4 ?_;obtain ⟨u24,hh⟩:=gd hh;refine TC.dw [] (ν 0 z fL z (χ 1 z lL z (ν 2 z mS z (ν 3 z mI z (TA.isSl (i:=2) z (λhs135 _ _=> ?_))))));refine χ 4 z iN z (χ 5 z o1 z (χ 6 z iX z ?_));obtain ⟨QG,Np,hg136⟩:=RZ.seg aV ((nth fA gU 0).toNat) (by omega);replace Np:dH _ ak QG.1 QG.2 (nth x0.next ((nth fA gU 0).toNat) []):=Np;have hk136b:=Np.rv.big;refine χ 7 z (OpVal.of (qw z pV z hg136 z) (v':= .slice QG.1 ((nth x0.next ((nth fA gU 0).toNat) []).length) QG.2) z) z (χ 8 z lC z (ν 9 z mI z (R2 ?_)));refine TC.lk hh (a127,ql) (rgs [(4,1),(7,1),(30,17)]) (λ⟨bZ,uz,nV⟩ ⟨Px,c154⟩=>([(4,.slice Px uz.length c154),(30,.int .i64 (nV:Int))],[ω aP #[.slice aB x0.cls.length aA,.slice ay x0.next.length aH,.slice aG x0.fin.length au] 35,ε 4 1 dG (.slice jC (replicate x0.next.length false).length jA) bZ,dO 3 ak Px c154 uz])) (λ⟨bZ,_,_⟩ ⟨_,_⟩=>bZ.length=(replicate x0.next.length false).length) VW (ψ [2,2,2] 3) ?_;rintro ⟨bZ,uz,nV⟩ ⟨Px,c154⟩ _ z2 hh hR2 AZ;dsimp only [XB]at hh AZ ⊢;refine ζ 1 z (λNT=> ?_);refine ζ 2 z (λWX=> ?_);refine R5 ?_;refine π z hh (λOa hh=> ?_) (λOa hh=> ?_)
  ·refine R1 ?_;refine TC.cutG (α:=(B_1×ah)×((Option Addr)×Nat)) (rgs [(4,1),(7,1),(32,14)]) (λg=>[(4,.slice g.2.1 g.1.2.length g.2.2)]) (λg=>[ω aP #[.slice aB x0.cls.length aA,.slice ay x0.next.length aH,.slice aG x0.fin.length au] 35,ε 4 1 dG (.slice jC (replicate x0.next.length false).length jA) g.1.1,ε 3 1 ak (.slice g.2.1 g.1.2.length g.2.2) g.1.2]) (λg=>σ) (λg=>C7_ nV g.1.1 g.1.2=some z2/\g.1.1.length=(replicate x0.next.length false).length) ?_ (λg j hg=> ?_)
   ·refine R11 ?_;obtain ⟨u34,hh⟩:=gd hh;refine TL.iS 1 z (λhs164=> ?_);refine R4 ?_;refine TC.cB z hh (λh165 hh=> ?_) (λh165 hh=> ?_)
    ·refine R4 ?_;obtain ⟨u39,hh⟩:=gd hh;refine TL.iS 1 z (λhs166=> ?_);refine ι z iX (κ 1 ?_);have AY:(bZ.set ((nth (nth x0.next ((nth fA gU 0).toNat) []) nV 0).toNat) true).length=(replicate x0.next.length false).length:=by rw [fV];exact AZ
     refine φ z (sS true ?_);refine R4 ?_;refine φ z (jc (enc:=ak) [(nth (nth x0.next ((nth fA gU 0).toNat) []) nV 0)] (λa168 c169=> ?_));refine κ 3 ?_;obtain ⟨u44,hh⟩:=gd hh;refine φ z (apF (.inr ⟨_,0,z⟩) u44 (λa171 ZX=> ?_));refine R2 ?_;exact cf (((bZ.set ((nth (nth x0.next ((nth fA gU 0).toNat) []) nV 0).toNat) true),(uz++[(nth (nth x0.next ((nth fA gU 0).toNat) []) nV 0)])),(a171,ZX)) ⟨hh,AY⟩ (ψ [2,3] 3)
    refine R1 ?_;exact cf ((bZ,uz),(Px,c154)) ⟨hh,AZ⟩ (ψ [2,2,2] 3)
   obtain ⟨⟨l159,mD⟩,⟨a162,uQ⟩⟩:=g;obtain ⟨hh,Ec⟩:=hg
   try dsimp only at Ec ⊢
   dsimp only [C7_]at hh;refine ζ 1 z (λhb173=> ?_);refine ζ 2 z (λhb174=> ?_);refine R4 ?_;exact nk hR2 hh (a162,uQ) (ψ [2,2,2] 3) Ec
  refine R1 ?_;replace hh:=bJ hR2 hh;refine R6 ?_;exact nk hR1 hh (Px,c154) (ψ [2,2,2] 3) AZ
 refine R1 ?_;replace hh:=bJ hR1 hh;refine R6 ?_;refine Θ (ψ [2] 1) (η ?_);obtain rfl:=so hh;exact rz
def Dd_(x0:ah)(dY:T_1)(fB:Nat):Option ((T_1×Nat)⊕(T_1)):=
 iteO (decide ((fB:Int)<(x0.length:Int))) (grd ((dY.length+[(jd (ES .i64 (nth x0 fB 0) 8)),(jd (nth x0 fB 0))].length) * 1<=140737488355328) (nxt ((dY++[(jd (ES .i64 (nth x0 fB 0) 8)),(jd (nth x0 fB 0))]),(fB+1)))) (fin (some dY))
def Gj_(x0:ah):Option (T_1):=
 grd (0<=IntKind.i64.wrap (2 * (x0.length:Int))/\1 * (IntKind.i64.wrap (2 * (x0.length:Int))).toNat<=281474976710656) (iter (λq:T_1×Nat=>Dd_ x0 q.1 q.2) (([]:T_1),0))
theorem Lf_{σ:aj}{x0:ah}(aC:dH σ ak aB aA x0){r:T_1}(hh:Gj_ x0=some r):
  Con prog 152 #[.slice aB x0.length aA] σ [] (jq (.string (bs r)) σ):=by
 dsimp only [Gj_]at hh;have f0_0b:=aC.rv.big;refine cM 27 Tryz.func152 (λw0=> ?_);refine R9 ?_;obtain ⟨u5,hh⟩:=gd hh;refine φ rfl (dr_ (enc:=jo) (m:=(IntKind.i64.wrap (2 * (x0.length:Int))).toNat) rfl underlying84 sz5 by5 ze5 rfl rfl rfl (vN u5.1) (by omega) (by decide) (λoh nN=> ?_));refine R10 ?_;refine TC.lp hh (oh,nN) (rgs [(3,1),(5,1),(12,13)]) (λ⟨dY,fB⟩ ⟨jl,jR⟩=>([(3,.slice jl dY.length jR),(12,.int .i64 (fB:Int))],[dO 5 jo jl jR dY])) (θ 1 z) ?_;rintro ⟨dY,fB⟩ ⟨jl,jR⟩ _ z1 hh hR1;dsimp only [Dd_]at hh ⊢;refine ζ 0 z (λhb116=> ?_);refine R5 ?_;refine π z hh (λtZ hh=> ?_) (λtZ hh=> ?_)
 ·refine R12 ?_;refine ι z (shrI (b:=8) z z z) (ι z (EN z um yw z) (TL.i z z (ι z (EN z um yw z) (φ z (jc (enc:=jo) [(jd (ES .i64 (nth x0 fB 0) 8)),(jd (nth x0 fB 0))] (λlX c119=> ?_))))));refine κ 1 ?_;obtain ⟨u21,hh⟩:=gd hh;refine φ z (apF (.inr ⟨_,0,z⟩) u21 (λCZ CP=> ?_));refine R6 ?_;exact nxq hR1 hh (CZ,CP) (θ 1 z)
 refine R1 ?_;replace hh:=bJ hR1 hh;refine R4 ?_;refine TL.iS 0 z (λLW=> ?_);refine ι z (bg_ (l:=dY) z underlying84 yw kR z LW (λw hw=>rdb_row (q:=0) z hw)) (R2 ?_);refine Ψ 0 ?_;obtain rfl:=so hh;exact rq [2] ⟨z,z,z⟩
def Dl_(iZ:Nat)(dF:ah):Option ((ah×Nat)⊕(ah×Int)):=
 nxt (dF,(iZ+1))
def Bj_(x1:ah)(bP:Nat)(oK:ah)(xE:FM T_1 Int)(Q7:Int):Option (((FM T_1 Int)×ah×Nat)⊕((ah×Nat)⊕(ah×Int))):=
 grd (0<=(nth x1 bP 0)/\(nth x1 bP 0)<(oK.length:Int)) (nxt (xE,(oK.set ((nth x1 bP 0).toNat) Q7),(bP+1)))
def XJ(x0:Dfa)(x1:ah)(bP:Nat)(dD:ah)(nM:FM T_1 Int)(oK:ah)(E_:ah)(z_:Nat):Option ((ah×Nat)⊕(((FM T_1 Int)×ah×Nat)⊕((ah×Nat)⊕(ah×Int)))):=
 iteO (decide ((z_:Int)<((nth x0.next ((nth x1 bP 0).toNat) []).length:Int))) (grd (0<=(nth (nth x0.next ((nth x1 bP 0).toNat) []) z_ 0)/\(nth (nth x0.next ((nth x1 bP 0).toNat) []) z_ 0)<(dD.length:Int)) (grd ((E_.length+[(nth dD ((nth (nth x0.next ((nth x1 bP 0).toNat) []) z_ 0).toNat) 0)].length) * 8<=140737488355328) (nxt ((E_++[(nth dD ((nth (nth x0.next ((nth x1 bP 0).toNat) []) z_ 0).toNat) 0)]),(z_+1))))) (fin (bnd (Gj_ E_) (λv70=>iteO (!(nM.has v70)) (Bj_ x1 bP oK (nM.put v70 (nM.n:Int)) (nM.n:Int)) (Bj_ x1 bP oK nM (nM.get v70 0)))))
def Bl_(x1:ah)(dD:ah)(x0:Dfa)(dX:Nat)(nM:FM T_1 Int)(oK:ah)(bP:Nat):Option (((FM T_1 Int)×ah×Nat)⊕((ah×Nat)⊕(ah×Int))):=
 iteO (decide ((bP:Int)<(x1.length:Int))) (grd (0<=(nth x1 bP 0)/\(nth x1 bP 0)<(dD.length:Int)) (grd (0<=(nth x1 bP 0)/\(nth x1 bP 0)<(x0.next.length:Int)) (iter (λq:ah×Nat=>XJ x0 x1 bP dD nM oK q.1 q.2) ([(nth dD ((nth x1 bP 0).toNat) 0)],0)))) (fin (iteO (decide ((nM.n:Int)=(dX:Int))) (fin (some (oK,(dX:Int)))) (nxt (oK,nM.n))))
def XI(x0:Dfa)(x1:ah)(dD:ah)(dX:Nat):Option ((ah×Nat)⊕(ah×Int)):=
 grd (8 * x0.next.length<=281474976710656) (iter (λq:(FM T_1 Int)×ah×Nat=>Bl_ x1 dD x0 dX q.1 q.2.1 q.2.2) ((FM.emp:FM T_1 Int),(replicate x0.next.length (0:Int)),0))
def Bm_(x1:ah)(x0:Dfa)(dY:ah)(iZ:Nat):Option ((ah×Nat)⊕(ah×Int)):=
 iteO (decide ((iZ:Int)<(x1.length:Int))) (grd (0<=(nth x1 iZ 0)/\(nth x1 iZ 0)<(x0.fin.length:Int)) (iteO (nth x0.fin ((nth x1 iZ 0).toNat) false) (grd (0<=(nth x1 iZ 0)/\(nth x1 iZ 0)<(dY.length:Int)) (Dl_ iZ (dY.set ((nth x1 iZ 0).toNat) 1))) (Dl_ iZ dY))) (fin (iter (λq:ah×Nat=>XI x0 x1 q.1 q.2) (dY,0)))
def Fr_(x0:Dfa)(x1:ah):Option (ah×Int):=
 grd (8 * x0.next.length<=281474976710656) (iter (λq:ah×Nat=>Bm_ x1 x0 q.1 q.2) ((replicate x0.next.length (0:Int)),0))
theorem L2_{σ:aj}{x0:Dfa}{x1:ah}(aC:dH σ ak aB aA x0.cls)(aV:RZ σ (aF 1 ak aT) (.slice ay x0.next.length aH) x0.next)(aS:dH σ dG aG au x0.fin)(bn:dH σ ak bY bW x1){r:ah×Int}(hh:Fr_ x0 x1=some r):
  Con prog 92 #[.agg #[.slice aB x0.cls.length aA,.slice ay x0.next.length aH,.slice aG x0.fin.length au],.slice bY x1.length bW] σ [] (Jz_ σ r):=by
 dsimp only [Fr_]at hh;have f1_0b:=bn.rv.big;refine cM 102 Tryz.func92 (λw0=> ?_);refine R2 ?_;refine TL.bx (λaP=> ?_);refine R3 ?_;refine TC.scope (R5 ?_);obtain ⟨u7,hh⟩:=gd hh;refine φ z (mk2 (enc:=ak) (0:Int) (λjC jA=> ?_));refine R10 ?_;refine TC.lk hh () (rgs [(8,1),(26,13)]) (λ⟨dY,iZ⟩ _=>([(26,.int .i64 (iZ:Int))],[ω aP #[.slice aB x0.cls.length aA,.slice ay x0.next.length aH,.slice aG x0.fin.length au] 35,ε 3 1 ak (.slice jC (replicate x0.next.length (0:Int)).length jA) dY])) (λ⟨dY,_⟩ _=>dY.length=(replicate x0.next.length (0:Int)).length) z (ψ [1] 2) ?_;rintro ⟨dY,iZ⟩ _ _ z1 hh hR1 xg;dsimp only [Bm_]at hh xg ⊢;refine ζ 1 z (λhb115=> ?_);refine R5 ?_;refine π z hh (λh116 hh=> ?_) (λh116 hh=> ?_)
 ·refine R1 ?_;refine TC.cutG (α:=(ah)×(Unit)) (rgs [(8,1),(28,10)]) (λg=>[]) (λg=>[ω aP #[.slice aB x0.cls.length aA,.slice ay x0.next.length aH,.slice aG x0.fin.length au] 35,ε 3 1 ak (.slice jC (replicate x0.next.length (0:Int)).length jA) g.1]) (λg=>σ) (λg=>Dl_ iZ g.1=some z1/\g.1.length=(replicate x0.next.length (0:Int)).length) ?_ (λg j hg=> ?_)
  ·refine R12 ?_;obtain ⟨yG,hh⟩:=gd hh;refine R3 ?_;refine TC.cB z hh (λh119 hh=> ?_) (λh119 hh=> ?_)
   ·refine R3 ?_;obtain ⟨u23,hh⟩:=gd hh;refine TL.iS 1 z (λVl=> ?_);refine ι z iX (κ 1 ?_);have MN:(dY.set ((nth x1 iZ 0).toNat) 1).length=(replicate x0.next.length (0:Int)).length:=by rw [fV];exact xg
    refine φ z (sS 1 ?_);refine R1 ?_;exact cf ((dY.set ((nth x1 iZ 0).toNat) 1),()) ⟨hh,MN⟩ (ψ [1] 2)
   refine R1 ?_;exact cf (dY,()) ⟨hh,xg⟩ (ψ [1,1] 2)
  obtain ⟨dF,_⟩:=g;obtain ⟨hh,wX⟩:=hg
  try dsimp only at wX ⊢
  dsimp only [Dl_]at hh;refine ζ 1 z (λNZ=> ?_);refine R4 ?_;exact nk hR1 hh () (ψ [1,1] 2) wX
 refine R1 ?_;replace hh:=bJ hR1 hh;refine R6 ?_;refine TC.label (R2 ?_);refine TC.lk hh (jC,jA) (rgs [(6,1),(9,3),(13,2),(16,4),(39,61)]) (λ⟨dD,dX⟩ ⟨a139,uS⟩=>([(6,.slice a139 ((replicate x0.next.length (0:Int)).length) uS),(9,.int .i64 (dX:Int))],[ω aP #[.slice aB x0.cls.length aA,.slice ay x0.next.length aH,.slice aG x0.fin.length au] 35,ε 3 1 ak (.slice a139 (replicate x0.next.length (0:Int)).length uS) dD])) (λ⟨dD,_⟩ ⟨_,_⟩=>dD.length=(replicate x0.next.length (0:Int)).length) xg (ψ [1,1] 2) ?_;rintro ⟨dD,dX⟩ ⟨a139,uS⟩ _ z1 hh hR1 A8;dsimp only [XI]at hh A8 ⊢;refine ζ 1 z (λNV=> ?_);refine R3 ?_;refine φ z (as_ (enc:=iQ) (encV:=gX) z z z (λb144=> ?_));refine R7 ?_;obtain ⟨u33,hh⟩:=gd hh;refine φ z (mk2 (enc:=ak) (0:Int) (λa146 FZ=> ?_));refine R10 ?_;refine TC.lk hh () (rgs [(13,2),(16,4),(46,47)]) (λ⟨nM,oK,bP⟩ _=>([(46,.int .i64 (bP:Int))],[ω aP #[.slice aB x0.cls.length aA,.slice ay x0.next.length aH,.slice aG x0.fin.length au] 35,ε 3 1 ak (.slice a139 (replicate x0.next.length (0:Int)).length uS) dD,Γ iQ gX (some b144) nM,ε 3 1 ak (.slice a146 (replicate x0.next.length (0:Int)).length FZ) oK])) (λ⟨_,oK,_⟩ _=>dD.length=(replicate x0.next.length (0:Int)).length/\oK.length=(replicate x0.next.length (0:Int)).length) ⟨A8,z⟩ (ψ [1,3,3] 4) ?_;rintro ⟨nM,oK,bP⟩ _ _ z2 hh hR2 ⟨Ec,Ic⟩;dsimp only [Bl_]at hh Ec Ic ⊢;refine ζ 1 z (λhb165=> ?_);refine ζ 3 z (λWW=> ?_);refine R5 ?_;refine π z hh (λZy hh=> ?_) (λZy hh=> ?_)
 ·refine R13 ?_;obtain ⟨u44,hh⟩:=gd hh;refine TL.iS 1 z (λhs168=> ?_);refine R2 ?_;refine φ z (jc (enc:=ak) [(nth dD ((nth x1 bP 0).toNat) 0)] (λJr Jd=> ?_));refine R8 ?_;obtain ⟨u51,hh⟩:=gd hh;refine ι z iX ?_;obtain ⟨Qz,Nk,hg172⟩:=RZ.seg aV ((nth x1 bP 0).toNat) (by omega);replace Nk:dH _ ak Qz.1 Qz.2 (nth x0.next ((nth x1 bP 0).toNat) []):=Nk;have hk172b:=Nk.rv.big;refine ι z (OpVal.of (qw z pV z hg172 z) (v':= .slice Qz.1 ((nth x0.next ((nth x1 bP 0).toNat) []).length) Qz.2) z) (R4 ?_);refine TC.lk hh (Jr,Jd) (rgs [(14,1),(16,1),(61,12)]) (λ⟨E_,z_⟩ ⟨SS,RG⟩=>([(14,.slice SS E_.length RG),(61,.int .i64 (z_:Int))],[ω aP #[.slice aB x0.cls.length aA,.slice ay x0.next.length aH,.slice aG x0.fin.length au] 35,ε 3 1 ak (.slice a139 (replicate x0.next.length (0:Int)).length uS) dD,Γ iQ gX (some b144) nM,ε 3 1 ak (.slice a146 (replicate x0.next.length (0:Int)).length FZ) oK,dO 3 ak SS RG E_])) (λ⟨_,_⟩ ⟨_,_⟩=>dD.length=(replicate x0.next.length (0:Int)).length/\oK.length=(replicate x0.next.length (0:Int)).length) ⟨Ec,Ic⟩ (ψ [4,4,4,4] 5) ?_;rintro ⟨E_,z_⟩ ⟨SS,RG⟩ _ z3 hh Xb ⟨Ia,H_⟩;dsimp only [XJ]at hh Ia H_ ⊢;refine ζ 1 z (λhb193=> ?_);refine ζ 3 z (λhb194=> ?_);refine ζ 4 z (λhb195=> ?_);refine R5 ?_;refine π z hh (λh196 hh=> ?_) (λh196 hh=> ?_)
  ·refine R13 ?_;obtain ⟨TU,hh⟩:=gd hh;refine TL.iS 1 z (λhs197=> ?_);refine R2 ?_;refine φ z (jc (enc:=ak) [(nth dD ((nth (nth x0.next ((nth x1 bP 0).toNat) []) z_ 0).toNat) 0)] (λa198 c199=> ?_));refine κ 5 ?_;obtain ⟨PS,hh⟩:=gd hh;refine φ z (apF (.inr ⟨_,0,z⟩) PS (λa201 c202=> ?_));refine R6 ?_;exact nk Xb hh (a201,c202) (ψ [5,5,5,5] 5) ⟨Ia,H_⟩
  refine R1 ?_;replace hh:=bJ Xb hh;refine R4 ?_;obtain ⟨v70,u70,hh⟩:=bg hh;refine κ 4 (φ z (OQ (Con.lend aT (λ_ vY hr204=>Lf_ hr204 u70)) z z Ux z z z z ?_));refine R6 ?_;refine ι z (OpVal.of (Xh 0 (q:=v70) z AQ yF z (i:=3) z z (JH kR)) (v':= .tuple #[.int .i64 (nM.get v70 0),.bool (nM.has v70)]) z) (R6 ?_);refine TC.cutG (α:=((FM T_1 Int)×Int)×(Unit)) (rgs [(18,1),(81,7)]) (λg=>[(18,.int .i64 g.1.2)]) (λg=>[ω aP #[.slice aB x0.cls.length aA,.slice ay x0.next.length aH,.slice aG x0.fin.length au] 35,ε 3 1 ak (.slice a139 (replicate x0.next.length (0:Int)).length uS) dD,Γ iQ gX (some b144) g.1.1,ε 3 1 ak (.slice a146 (replicate x0.next.length (0:Int)).length FZ) oK]) (λg=>σ) (λg=>Bj_ x1 bP oK g.1.1 g.1.2=some z2/\dD.length=(replicate x0.next.length (0:Int)).length/\oK.length=(replicate x0.next.length (0:Int)).length) ?_ (λg j hg=> ?_)
  ·refine R5 ?_;refine TC.cB z hh (λZv hh=> ?_) (λZv hh=> ?_)
   ·refine R3 ?_;refine ι z (lenB z AQ z (i:=3) z) (R6 ?_);refine κ 3 (φ z (updB v70 (nM.n:Int) z AQ z z z z (JH kR) ?_));refine R1 ?_;exact cf (((nM.put v70 (nM.n:Int)),(nM.n:Int)),()) ⟨hh,Ia,H_⟩ (ψ [4,1,4,4] 4)
   refine R1 ?_;exact cf ((nM,(nM.get v70 0)),()) ⟨hh,Ia,H_⟩ (ψ [4,4,4,4] 4)
  obtain ⟨⟨xE,Q7⟩,_⟩:=g;obtain ⟨hh,VR,y7⟩:=hg
  try dsimp only at VR y7 ⊢
  dsimp only [Bj_]at hh;refine ζ 1 z (λNK=> ?_);refine ζ 3 z (λNJ=> ?_);refine R4 ?_;obtain ⟨u92,hh⟩:=gd hh;refine TL.iS 3 z (λhs213=> ?_);refine ι z iX (κ 3 ?_);have H7:(oK.set ((nth x1 bP 0).toNat) Q7).length=(replicate x0.next.length (0:Int)).length:=by rw [fV];exact y7
  refine φ z (sS Q7 ?_);refine R5 ?_;exact nk hR2 hh () (ψ [3,3,3] 4) ⟨VR,H7⟩
 refine R1 ?_;replace hh:=bJ hR2 hh;refine R10 ?_;refine ι z (lenB z AQ z (i:=2) z) (R3 ?_);refine π z hh (λN9 hh=> ?_) (λN9 hh=> ?_)
 ·refine R1 ?_;refine TC.exitOn z ?_;replace hh:=bJ hR1 hh;refine R8 ?_;rw [<-Ic];refine TC.fr 3 (TC.jO aT (λτ219 vX VA=> ?_));have hr217b:=VA.rv.big;refine Ψ 0 (P.r ?_);obtain rfl:=so hh;exact rq [4,5] ⟨a146,FZ,z,VA,z⟩
 refine R3 ?_;refine ι z (lenB z AQ z (i:=2) z) (R2 ?_);exact nk hR1 hh (a146,FZ) (ψ [3,1] 2) Ic
def XC(dW:ah)(iO:Nat)(l168:ah)(m171:FM T_1 Int)(Q9:Int):Option ((ah×ah×(FM T_1 Int)×Nat)⊕(ah×ah)):=
 grd ((dW.length+[Q9].length) * 8<=140737488355328) (nxt ((dW++[Q9]),l168,m171,(iO+1)))
def Ba_(x0:aO)(iO:Nat)(oH:FM T_1 Int)(vJ:ah)(dW:ah)(bZ:ah)(xO:Nat):Option ((ah×Nat)⊕((ah×ah×(FM T_1 Int)×Nat)⊕(ah×ah))):=
 iteO (decide ((xO:Int)<(x0.length:Int))) (grd (iO<(nth x0 xO []).length) (grd ((bZ.length+[(nth (nth x0 xO []) iO 0)].length) * 8<=140737488355328) (nxt ((bZ++[(nth (nth x0 xO []) iO 0)]),(xO+1))))) (fin (bnd (Gj_ bZ) (λv32=>iteO (!(oH.has v32)) (grd ((vJ.length+[(iO:Int)].length) * 8<=140737488355328) (XC dW iO (vJ++[(iO:Int)]) (oH.put v32 (oH.n:Int)) (oH.n:Int))) (XC dW iO vJ oH (oH.get v32 0)))))
def Bb_(x0:aO)(dW:ah)(vJ:ah)(oH:FM T_1 Int)(iO:Nat):Option ((ah×ah×(FM T_1 Int)×Nat)⊕(ah×ah)):=
 iteO (decide ((iO:Int)<((nth x0 0 []).length:Int))) (iter (λq:ah×Nat=>Ba_ x0 iO oH vJ dW q.1 q.2) (([]:ah),0)) (fin (some (dW,vJ)))
def E2_(x0:aO):Option (ah×ah):=
 grd (0<x0.length) (iter (λq:ah×ah×(FM T_1 Int)×Nat=>Bb_ x0 q.1 q.2.1 q.2.2.1 q.2.2.2) (([]:ah),([]:ah),(FM.emp:FM T_1 Int),0))
def Ko_(σ:aj)(r:ah×ah):Value->aj->List Res->Prop:=λv σ' H'=>
 ∃a1 c1 a2 c2,v= .tuple #[.slice a1 r.1.length c1,.slice a2 r.2.length c2]/\dH σ' ak a1 c1 r.1/\dH σ' ak a2 c2 r.2/\H'=[]
theorem Lt_{σ:aj}{x0:aO}(aC:RZ σ (aF 1 ak aT) (.slice aB x0.length aA) x0){r:ah×ah}(hh:E2_ x0=some r):
  Con prog 153 #[.slice aB x0.length aA] σ [] (Ko_ σ r):=by
 dsimp only [E2_]at hh;have f0_0b:=aC.big;refine cM 60 Tryz.func153 (λw0=> ?_);refine R7 ?_;refine φ z (as_ (enc:=iQ) (encV:=gX) z z z (λaP=> ?_));refine R6 ?_;obtain ⟨u6,hh⟩:=gd hh;refine ι z (A_ (i:=0) z jZ jy z z aC.isSl (by omega)) ?_;obtain ⟨Bq,zB,NG⟩:=RZ.seg aC 0 (by omega);replace zB:dH _ ak Bq.1 Bq.2 (nth x0 0 []):=zB;have hk103b:=zB.rv.big;refine ι z (OpVal.of (qw z pV z NG z) (v':= .slice Bq.1 ((nth x0 0 []).length) Bq.2) z) (R4 ?_);refine TC.nilS 3 1 ak (TC.nilS 3 1 ak (TC.lp hh (nO,oO,nO,oO) (rgs [(2,2),(5,2),(8,4),(17,41)]) (λ⟨dW,vJ,oH,iO⟩ ⟨wJ,c127,a130,c131⟩=>([(2,.slice wJ dW.length c127),(3,.slice a130 vJ.length c131),(17,.int .i64 (iO:Int))],[dO 3 ak wJ c127 dW,dO 3 ak a130 c131 vJ,Γ iQ gX (some aP) oH])) (ψ [2,1,2] 3) ?_));rintro ⟨dW,vJ,oH,iO⟩ ⟨wJ,c127,a130,c131⟩ _ z1 hh hR1;dsimp only [Bb_]at hh ⊢;refine ζ 0 z (λNW=> ?_);refine ζ 1 z (λWZ=> ?_);refine R5 ?_;refine π z hh (λCb hh=> ?_) (λCb hh=> ?_)
 ·refine R20 ?_;refine TC.nilS 3 1 ak (TC.lp hh (nO,oO) (rgs [(6,1),(8,1),(22,12)]) (λ⟨bZ,xO⟩ ⟨Js,c152⟩=>([(6,.slice Js bZ.length c152),(22,.int .i64 (xO:Int))],[dO 3 ak wJ c127 dW,dO 3 ak a130 c131 vJ,Γ iQ gX (some aP) oH,dO 3 ak Js c152 bZ])) (ψ [3,3,3] 4) ?_);rintro ⟨bZ,xO⟩ ⟨Js,c152⟩ _ z2 hh hR2;dsimp only [Ba_]at hh ⊢;refine ζ 0 z (λIq=> ?_);refine ζ 1 z (λNT=> ?_);refine ζ 3 z (λWX=> ?_);refine R5 ?_;refine π z hh (λOa hh=> ?_) (λOa hh=> ?_)
  ·refine R6 ?_;obtain ⟨QA,Ws,hg159⟩:=RZ.seg aC xO (by omega);replace Ws:dH _ ak QA.1 QA.2 (nth x0 xO []):=Ws;refine ι z (OpVal.of (qw z pV z hg159 z) (v':= .slice QA.1 ((nth x0 xO []).length) QA.2) z) (R6 ?_);obtain ⟨u24,hh⟩:=gd hh;refine R2 ?_;refine φ z (jc (enc:=ak) [(nth (nth x0 xO []) iO 0)] (λa160 c161=> ?_));refine κ 4 ?_;obtain ⟨u27,hh⟩:=gd hh;refine φ z (apF (.inr ⟨_,0,z⟩) u27 (λPq c164=> ?_));refine R6 ?_;exact nxq hR2 hh (Pq,c164) (ψ [4,4,4] 4)
  refine R1 ?_;replace hh:=bJ hR2 hh;refine R4 ?_;obtain ⟨v32,u32,hh⟩:=bg hh;refine κ 3 (φ z (OQ (Con.lend aT (λ_ qQ D6=>Lf_ D6 u32)) z z Ux z z z z ?_));refine R6 ?_;refine ι z (OpVal.of (Xh 0 (q:=v32) z AQ yF z (i:=3) z z (JH kR)) (v':= .tuple #[.int .i64 (oH.get v32 0),.bool (oH.has v32)]) z) (R6 ?_);refine TC.cutG (α:=(ah×(FM T_1 Int)×Int)×((Option Addr)×Nat)) (rgs [(3,1),(10,1),(42,11)]) (λg=>[(3,.slice g.2.1 g.1.1.length g.2.2),(10,.int .i64 g.1.2.2)]) (λg=>[dO 3 ak wJ c127 dW,ε 3 1 ak (.slice g.2.1 g.1.1.length g.2.2) g.1.1,Γ iQ gX (some aP) g.1.2.1]) (λg=>σ) (λg=>XC dW iO g.1.1 g.1.2.1 g.1.2.2=some z1) ?_ (λg j hg=> ?_)
  ·refine R5 ?_;refine TC.cB z hh (λzC hh=> ?_) (λzC hh=> ?_)
   ·refine R3 ?_;refine ι z (lenB z AQ z (i:=3) z) (R7 ?_);refine κ 3 (φ z (updB v32 (oH.n:Int) z AQ z z z z (JH kR) ?_));refine R4 ?_;refine φ z (jc (enc:=ak) [(iO:Int)] (λa174 c175=> ?_));refine κ 4 ?_;obtain ⟨u54,hh⟩:=gd hh;refine φ z (apF (.inr ⟨_,0,z⟩) u54 (λa177 ZW=> ?_));refine R2 ?_;exact cf (((vJ++[(iO:Int)]),(oH.put v32 (oH.n:Int)),(oH.n:Int)),(a177,ZW)) hh (ψ [2,1,4] 3)
   refine R1 ?_;exact cf ((vJ,oH,(oH.get v32 0)),(a130,c131)) hh (ψ [3,3,3] 3)
  obtain ⟨⟨l168,m171,Q9⟩,⟨Jr,Jd⟩⟩:=g;have hh:=hg;clear hg
  try dsimp only
  dsimp only [XC]at hh;refine ζ 0 z (λWT=> ?_);refine ζ 1 z (λWS=> ?_);refine R3 ?_;refine φ z (jc (enc:=ak) [Q9] (λa181 c182=> ?_));refine κ 1 ?_;obtain ⟨u59,hh⟩:=gd hh;refine φ z (apF (.inr ⟨_,0,z⟩) u59 (λa184 c185=> ?_));refine R6 ?_;exact nxq hR1 hh (a184,c185,Jr,Jd) (ψ [3,3,2] 3)
 refine R1 ?_;replace hh:=bJ hR1 hh;refine R8 ?_;refine TC.jO aT (λτ189 pq yR=> ?_);refine TC.jO aT (λτ192 FI DZ=> ?_);replace yR:=yR.mono FI;have hr190b:=DZ.rv.big;refine Ψ 0 ?_;obtain rfl:=so hh;exact rq [2,3] ⟨wJ,c127,a130,c131,z,yR,DZ,z⟩
def Cx_(x0:Dfa)(dP:ah)(eP:Nat)(jr:Nat)(x1:ah)(jh:ah)(DJ:ah)(Yp:ah):Option ((ah×ah×ah×Nat)⊕((ah×ah×aO×Nat)⊕(Dfa))):=
 grd (0<=(nth (nth x0.next ((nth dP eP 0).toNat) []) jr 0)/\(nth (nth x0.next ((nth dP eP 0).toNat) []) jr 0)<(x1.length:Int)) (grd (0<=(nth x1 ((nth (nth x0.next ((nth dP eP 0).toNat) []) jr 0).toNat) 0)/\(nth x1 ((nth (nth x0.next ((nth dP eP 0).toNat) []) jr 0).toNat) 0)<(DJ.length:Int)) (grd ((jh.length+[(nth DJ ((nth x1 ((nth (nth x0.next ((nth dP eP 0).toNat) []) jr 0).toNat) 0).toNat) 0)].length) * 8<=140737488355328) (nxt (DJ,Yp,(jh++[(nth DJ ((nth x1 ((nth (nth x0.next ((nth dP eP 0).toNat) []) jr 0).toNat) 0).toNat) 0)]),(jr+1)))))
def P6(x0:Dfa)(dP:ah)(eP:Nat)(x1:ah)(jE:aO)(yN:ah)(cO:ah)(jh:ah)(jr:Nat):Option ((ah×ah×ah×Nat)⊕((ah×ah×aO×Nat)⊕(Dfa))):=
 iteO (decide ((jr:Int)<((nth x0.next ((nth dP eP 0).toNat) []).length:Int))) (grd (0<=(nth (nth x0.next ((nth dP eP 0).toNat) []) jr 0)/\(nth (nth x0.next ((nth dP eP 0).toNat) []) jr 0)<(x1.length:Int)) (grd (0<=(nth x1 ((nth (nth x0.next ((nth dP eP 0).toNat) []) jr 0).toNat) 0)/\(nth x1 ((nth (nth x0.next ((nth dP eP 0).toNat) []) jr 0).toNat) 0)<(yN.length:Int)) (iteO (decide ((nth yN ((nth x1 ((nth (nth x0.next ((nth dP eP 0).toNat) []) jr 0).toNat) 0).toNat) 0)<0)) (grd (0<=(nth (nth x0.next ((nth dP eP 0).toNat) []) jr 0)/\(nth (nth x0.next ((nth dP eP 0).toNat) []) jr 0)<(x1.length:Int)) (grd (0<=(nth x1 ((nth (nth x0.next ((nth dP eP 0).toNat) []) jr 0).toNat) 0)/\(nth x1 ((nth (nth x0.next ((nth dP eP 0).toNat) []) jr 0).toNat) 0)<(yN.length:Int)) (grd ((cO.length+[(nth (nth x0.next ((nth dP eP 0).toNat) []) jr 0)].length) * 8<=140737488355328) (Cx_ x0 dP eP jr x1 jh (yN.set ((nth x1 ((nth (nth x0.next ((nth dP eP 0).toNat) []) jr 0).toNat) 0).toNat) (cO.length:Int)) (cO++[(nth (nth x0.next ((nth dP eP 0).toNat) []) jr 0)]))))) (Cx_ x0 dP eP jr x1 jh yN cO)))) (fin (grd ((jE.length+[jh].length) * 24<=140737488355328) (nxt (yN,cO,(jE++[jh]),(eP+1)))))
def Ti(v91:ah×ah)(mY:Nat)(jE:aO)(eF:aO)(dP:ah)(x0:Dfa)(yK:B_1)(yJ:ah)(uF:Nat):Option ((ah×Nat)⊕((aO×B_1×Nat)⊕(Dfa))):=
 iteO (decide ((uF:Int)<(v91.2.length:Int))) (grd (mY<jE.length) (grd (0<=(nth v91.2 uF 0)/\(nth v91.2 uF 0)<((nth jE mY []).length:Int)) (grd (uF<yJ.length) (nxt ((yJ.set uF (nth (nth jE mY []) ((nth v91.2 uF 0).toNat) 0)),(uF+1)))))) (fin (grd ((eF.length+[yJ].length) * 24<=140737488355328) (grd (0<=(nth dP mY 0)/\(nth dP mY 0)<(x0.fin.length:Int)) (grd ((yK.length+[(nth x0.fin ((nth dP mY 0).toNat) false)].length) * 1<=140737488355328) (nxt ((eF++[yJ]),(yK++[(nth x0.fin ((nth dP mY 0).toNat) false)]),(mY+1)))))))
def P5(dP:ah)(v91:ah×ah)(jE:aO)(x0:Dfa)(qH:ah)(eF:aO)(yK:B_1)(mY:Nat):Option ((aO×B_1×Nat)⊕(Dfa)):=
 iteO (decide ((mY:Int)<(dP.length:Int))) (grd (8 * v91.2.length<=281474976710656) (iter (λq:ah×Nat=>Ti v91 mY jE eF dP x0 yK q.1 q.2) ((replicate v91.2.length (0:Int)),0))) (fin (some (⟨qH,eF,yK⟩:Dfa)))
def Cc_(x0:Dfa)(v91:ah×ah)(dP:ah)(jE:aO)(qH:ah)(lK:Nat):Option ((ah×Nat)⊕(Dfa)):=
 iteO (decide ((lK:Int)<(x0.cls.length:Int))) (grd (0<=(nth x0.cls lK 0)/\(nth x0.cls lK 0)<(v91.1.length:Int)) (grd (lK<qH.length) (nxt ((qH.set lK (nth v91.1 ((nth x0.cls lK 0).toNat) 0)),(lK+1))))) (fin (iter (λq:aO×B_1×Nat=>P5 dP v91 jE x0 qH q.1 q.2.1 q.2.2) (([]:aO),([]:B_1),0)))
def Tn(x0:Dfa)(x1:ah)(uz:ah)(dP:ah)(jE:aO)(eP:Nat):Option ((ah×ah×aO×Nat)⊕(Dfa)):=
 iteO (decide ((eP:Int)<(dP.length:Int))) (grd (0<=(nth dP eP 0)/\(nth dP eP 0)<(x0.next.length:Int)) (iter (λq:ah×ah×ah×Nat=>P6 x0 dP eP x1 jE q.1 q.2.1 q.2.2.1 q.2.2.2) (uz,dP,([]:ah),0))) (fin (bnd (E2_ jE) (λv91=>grd (8 * x0.cls.length<=281474976710656) (iter (λq:ah×Nat=>Cc_ x0 v91 dP jE q.1 q.2) ((replicate x0.cls.length (0:Int)),0)))))
def Ca_(x2:Int)(x1:ah)(x0:Dfa)(eU:ah)(cZ:Nat):Option ((ah×Nat)⊕(Dfa)):=
 iteO (decide ((cZ:Int)<((replicate x2.toNat (0:Int)).length:Int))) (grd (cZ<eU.length) (nxt ((eU.set cZ (-1)),(cZ+1)))) (fin (grd (0<x1.length) (grd (0<=(nth x1 0 0)/\(nth x1 0 0)<(eU.length:Int)) (iter (λq:ah×ah×aO×Nat=>Tn x0 x1 q.1 q.2.1 q.2.2.1 q.2.2.2) ((eU.set ((nth x1 0 0).toNat) 0),[0],([]:aO),0)))))
def Hj_(x0:Dfa)(x1:ah)(x2:Int):Option (Dfa):=
 grd (0<=x2/\8 * x2.toNat<=281474976710656) (iter (λq:ah×Nat=>Ca_ x2 x1 x0 q.1 q.2) ((replicate x2.toNat (0:Int)),0))
def Ms_(σ:aj)(r:Dfa):Value->aj->List Res->Prop:=λv σ' H'=>
 ∃a1 c1 a2 c2 a3 c3,v= .agg #[.slice a1 r.cls.length c1,.slice a2 r.next.length c2,.slice a3 r.fin.length c3]/\dH σ' ak a1 c1 r.cls/\RZ σ' (aF 1 ak aT) (.slice a2 r.next.length c2) r.next/\dH σ' dG a3 c3 r.fin/\H'=[]
theorem Mc_{σ:aj}{x0:Dfa}{x1:ah}{x2:Int}(aC:dH σ ak aB aA x0.cls)(aV:RZ σ (aF 1 ak aT) (.slice ay x0.next.length aH) x0.next)(aS:dH σ dG aG au x0.fin)(bn:dH σ ak bY bW x1){r:Dfa}(hh:Hj_ x0 x1 x2=some r):
  Con prog 94 #[.agg #[.slice aB x0.cls.length aA,.slice ay x0.next.length aH,.slice aG x0.fin.length au],.slice bY x1.length bW,.int .i64 x2] σ [] (Ms_ σ r):=by
 dsimp only [Hj_]at hh;have f0_0b:=aC.rv.big;have f0_1b:=aV.big;have f0_2b:=aS.rv.big;have f1_0b:=bn.rv.big;refine cM 169 Tryz.func94 (λw0=> ?_);refine R2 ?_;refine TL.bx (λaP=> ?_);refine TL.al (λbK=> ?_);refine R4 ?_;obtain ⟨u4,hh⟩:=gd hh;refine φ rfl (CV (m:=x2.toNat) (enc:=ak) (0:Int) rfl sU oq IG yF rfl rfl (vN u4.1) (vN u4.1) (by omega) (by decide) aT (by decide) rfl GL (λa105 F6=> ?_));refine R10 ?_;refine TC.lk hh () (rgs [(8,1),(29,7)]) (λ⟨eU,cZ⟩ _=>([(29,.int .i64 (cZ:Int))],[ω aP #[.slice aB x0.cls.length aA,.slice ay x0.next.length aH,.slice aG x0.fin.length au] 35,ω bK #[aW,aW,aW] 35,ε 3 1 ak (.slice a105 (replicate x2.toNat (0:Int)).length F6) eU])) (λ⟨eU,_⟩ _=>eU.length=(replicate x2.toNat (0:Int)).length) z (ψ [1,2] 3) ?_;rintro ⟨eU,cZ⟩ _ _ z1 hh hR1 wZ;dsimp only [Ca_]at hh wZ ⊢;refine ζ 2 z (λN7=> ?_);refine R5 ?_;refine π z hh (λqY hh=> ?_) (λqY hh=> ?_)
 ·refine R11 ?_;obtain ⟨u14,hh⟩:=gd hh;refine TL.iS 2 z (λhs119=> ?_);refine ι z iN (κ 2 ?_);have hn120:(eU.set cZ (-1)).length=(replicate x2.toNat (0:Int)).length:=by rw [fV];exact wZ
  refine φ z (sS (-1) ?_);refine R5 ?_;exact nk hR1 hh () (ψ [2,2] 3) hn120
 refine R1 ?_;replace hh:=bJ hR1 hh;refine R5 ?_;obtain ⟨u20,hh⟩:=gd hh;refine ι z (A_ (i:=0) z sU oq z z bn.rv.sl (by omega)) (ι z l1 ?_);obtain ⟨u22,hh⟩:=gd hh;refine TL.iS 2 z (λhs122=> ?_);refine ι z iX (κ 2 ?_);have gG:(eU.set ((nth x1 0 0).toNat) 0).length=(replicate x2.toNat (0:Int)).length:=by rw [fV];exact wZ
 refine φ z (sS 0 ?_);refine R3 ?_;refine φ z (jc (enc:=ak) [0] (λa124 Eo=> ?_));refine R12 ?_;refine TC.nilS 31 1 (aF 1 ak aT).en ?_;have zf164:=ZOk.nil σ (aF 1 ak aT);refine TC.Ak (α:=(ah×ah×aO×Nat)×((Option Addr)×Nat×(Option Addr)×Nat×(List (ah×(aF 1 ak aT).P))×aj)) (rgs [(9,4),(14,1),(42,54)]) (λg=>[(9,.slice g.2.1 g.1.2.1.length g.2.2.1),(10,.slice g.2.2.2.1 g.1.2.2.1.length g.2.2.2.2.1),(11,.int .i64 (g.1.2.2.2:Int))]) (λg=>[ω aP #[.slice aB x0.cls.length aA,.slice ay x0.next.length aH,.slice aG x0.fin.length au] 35,ω bK #[aW,aW,aW] 35,ε 3 1 ak (.slice a105 (replicate x2.toNat (0:Int)).length F6) g.1.1,ε 3 1 ak (.slice g.2.1 g.1.2.1.length g.2.2.1) g.1.2.1,ε 31 1 (aF 1 ak aT).en (.slice g.2.2.2.1 g.1.2.2.1.length g.2.2.2.2.1) g.2.2.2.2.2.1]) (λg=>g.2.2.2.2.2.2) (λg=>iter (λq:ah×ah×aO×Nat=>Tn x0 x1 q.1 q.2.1 q.2.2.1 q.2.2.2) g.1=some r/\g.1.1.length=(replicate x2.toNat (0:Int)).length/\ZOk g.2.2.2.2.2.2 (aF 1 ak aT) g.2.2.2.2.2.1 g.1.2.2.1/\aj.le σ g.2.2.2.2.2.2) (λg=>rQ (λq:ah×ah×aO×Nat=>Tn x0 x1 q.1 q.2.1 q.2.2.1 q.2.2.2) g.1) (((eU.set ((nth x1 0 0).toNat) 0),[0],([]:aO),0),(a124,Eo,none,0,[],σ)) (ψ [1,2,4,4] 5) z (by repeat (first|exact trivial|refine ⟨z,?_⟩)) ⟨hh,gG,zf164,(aj.le.refl _)⟩ (λg2 j2 hg2=> ?_);obtain ⟨⟨uz,dP,jE,eP⟩,⟨Gn,c156,a159,c160,KC,τ166⟩⟩:=g2;obtain ⟨hh,VU,r_,qQ⟩:=hg2
 try dsimp only at VU
 try dsimp only at r_
 dsimp only at qQ;replace aC:=aC.mono qQ;replace aV:=aV.mono qQ;replace aS:=aS.mono qQ;replace bn:=bn.mono qQ
 try dsimp only
 obtain ⟨z1,hh,hR1⟩:=zQ hh;dsimp only [Tn]at hh;have zf162b:=r_.length;refine ζ 2 z (λhb168=> ?_);refine ζ 3 z (λWV=> ?_);refine ζ 4 z (λIp=> ?_);refine R8 ?_;refine π z hh (λZx hh=> ?_) (λZx hh=> ?_)
 ·refine R9 ?_;obtain ⟨u39,hh⟩:=gd hh;refine TC.dw [] (ν 0 z fL z (χ 1 z lL z (ν 2 z mS z (ν 3 z mI z (TA.isSl (i:=3) z (λhs174 _ _=> ?_))))));refine χ 4 z iN z (χ 5 z o1 z (χ 6 z iX z ?_));obtain ⟨Qy,Ef,hg175⟩:=RZ.seg aV ((nth dP eP 0).toNat) (by omega);replace Ef:dH _ ak Qy.1 Qy.2 (nth x0.next ((nth dP eP 0).toNat) []):=Ef;have hk175b:=Ef.rv.big;refine χ 7 z (OpVal.of (qw z pV z hg175 z) (v':= .slice Qy.1 ((nth x0.next ((nth dP eP 0).toNat) []).length) Qy.2) z) z (χ 8 z lC z (ν 9 z mI z (R2 ?_)));refine TC.nilS 3 1 ak (TC.Ak (α:=(ah×ah×ah×Nat)×((Option Addr)×Nat×(Option Addr)×Nat×aj)) (rgs [(9,1),(12,1),(14,1),(57,35)]) (λg=>[(9,.slice g.2.1 g.1.2.1.length g.2.2.1),(12,.slice g.2.2.2.1 g.1.2.2.1.length g.2.2.2.2.1),(57,.int .i64 (g.1.2.2.2:Int))]) (λg=>[ω aP #[.slice aB x0.cls.length aA,.slice ay x0.next.length aH,.slice aG x0.fin.length au] 35,ω bK #[aW,aW,aW] 35,ε 3 1 ak (.slice a105 (replicate x2.toNat (0:Int)).length F6) g.1.1,ε 3 1 ak (.slice g.2.1 g.1.2.1.length g.2.2.1) g.1.2.1,ε 31 1 (aF 1 ak aT).en (.slice a159 jE.length c160) KC,ε 3 1 ak (.slice g.2.2.2.1 g.1.2.2.1.length g.2.2.2.2.1) g.1.2.2.1]) (λg=>g.2.2.2.2.2) (λg=>iter (λq:ah×ah×ah×Nat=>P6 x0 dP eP x1 jE q.1 q.2.1 q.2.2.1 q.2.2.2) g.1=some z1/\g.1.1.length=(replicate x2.toNat (0:Int)).length/\ZOk g.2.2.2.2.2 (aF 1 ak aT) KC jE/\aj.le τ166 g.2.2.2.2.2) (λg=>rQ (λq:ah×ah×ah×Nat=>P6 x0 dP eP x1 jE q.1 q.2.1 q.2.2.1 q.2.2.2) g.1) ((uz,dP,([]:ah),0),(Gn,c156,none,0,τ166)) (ψ [5,5,5,5,5] 6) z (by repeat (first|exact trivial|refine ⟨z,?_⟩)) ⟨hh,VU,r_,(aj.le.refl _)⟩ (λg3 j3 hg3=> ?_));obtain ⟨⟨yN,cO,jh,jr⟩,⟨a203,CG,a208,OG,τ212⟩⟩:=g3;obtain ⟨hh,AX,kF,qP⟩:=hg3
  try dsimp only at AX
  try dsimp only at kF
  dsimp only at qP;replace aC:=aC.mono qP;replace aS:=aS.mono qP;replace bn:=bn.mono qP;replace r_:=r_.mono qP;replace Ef:=Ef.mono qP
  try dsimp only
  obtain ⟨z2,hh,hR2⟩:=zQ hh;dsimp only [P6]at hh;have zf205b:=kF.length;refine ζ 2 z (λWQ=> ?_);refine ζ 3 z (λWO=> ?_);refine ζ 4 z (λhb216=> ?_);refine ζ 5 z (λhb217=> ?_);refine R5 ?_;refine π z hh (λh218 hh=> ?_) (λh218 hh=> ?_)
  ·refine R9 ?_;refine TC.cutG (α:=(ah×ah)×((Option Addr)×Nat×aj)) (rgs [(9,1),(61,20)]) (λg=>[(9,.slice g.2.1 g.1.2.length g.2.2.1)]) (λg=>[ω aP #[.slice aB x0.cls.length aA,.slice ay x0.next.length aH,.slice aG x0.fin.length au] 35,ω bK #[aW,aW,aW] 35,ε 3 1 ak (.slice a105 (replicate x2.toNat (0:Int)).length F6) g.1.1,ε 3 1 ak (.slice g.2.1 g.1.2.length g.2.2.1) g.1.2,ε 31 1 (aF 1 ak aT).en (.slice a159 jE.length c160) KC,dO 3 ak a208 OG jh]) (λg=>g.2.2.2) (λg=>Cx_ x0 dP eP jr x1 jh g.1.1 g.1.2=some z2/\g.1.1.length=(replicate x2.toNat (0:Int)).length/\ZOk g.2.2.2 (aF 1 ak aT) KC jE/\aj.le τ212 g.2.2.2) ?_ (λg j hg=> ?_)
   ·refine R5 ?_;obtain ⟨u50,hh⟩:=gd hh;refine R2 ?_;obtain ⟨Qe,hh⟩:=gd hh;refine TL.iS 2 z (λhs225=> ?_);refine R4 ?_;refine π z hh (λZt hh=> ?_) (λZt hh=> ?_)
    ·refine R5 ?_;obtain ⟨u58,hh⟩:=gd hh;refine R4 ?_;obtain ⟨TU,hh⟩:=gd hh;refine TL.iS 2 z (λhs227=> ?_);refine ι z iX (κ 2 ?_);have AV:(yN.set ((nth x1 ((nth (nth x0.next ((nth dP eP 0).toNat) []) jr 0).toNat) 0).toNat) (cO.length:Int)).length=(replicate x2.toNat (0:Int)).length:=by rw [fV];exact AX
     refine φ z (sS (cO.length:Int) ?_);refine R4 ?_;refine φ z (jc (enc:=ak) [(nth (nth x0.next ((nth dP eP 0).toNat) []) jr 0)] (λa229 c230=> ?_));refine κ 4 ?_;obtain ⟨u67,hh⟩:=gd hh;refine φ z (apF (.inr ⟨_,0,z⟩) u67 (λa232 c233=> ?_));refine R2 ?_;exact cf (((yN.set ((nth x1 ((nth (nth x0.next ((nth dP eP 0).toNat) []) jr 0).toNat) 0).toNat) (cO.length:Int)),(cO++[(nth (nth x0.next ((nth dP eP 0).toNat) []) jr 0)])),(a232,c233,τ212)) ⟨hh,AV,kF,(aj.le.refl _)⟩ (ψ [6,6,2,4,6,6] 6)
    refine R1 ?_;exact cf ((yN,cO),(a203,CG,τ212)) ⟨hh,AX,kF,(aj.le.refl _)⟩ (ψ [5,5,5,5,5,5] 6)
   obtain ⟨⟨DJ,Yp⟩,⟨a222,c223,τ234⟩⟩:=g;obtain ⟨hh,VP,J4,iP⟩:=hg
   try dsimp only at VP
   try dsimp only at J4
   dsimp only at iP;replace aC:=aC.mono iP;replace aS:=aS.mono iP;replace bn:=bn.mono iP;replace r_:=r_.mono iP;replace kF:=kF.mono iP
   try dsimp only
   dsimp only [Cx_]at hh;have zf224b:=J4.length;refine ζ 2 z (λNI=> ?_);refine ζ 3 z (λWH=> ?_);refine ζ 4 z (λWG=> ?_);refine ζ 5 z (λWE=> ?_);refine R5 ?_;obtain ⟨u73,hh⟩:=gd hh;refine R2 ?_;obtain ⟨u75,hh⟩:=gd hh;refine TL.iS 2 z (λhs240=> ?_);refine R2 ?_;refine φ z (jc (enc:=ak) [(nth DJ ((nth x1 ((nth (nth x0.next ((nth dP eP 0).toNat) []) jr 0).toNat) 0).toNat) 0)] (λa241 c242=> ?_));refine κ 6 ?_;obtain ⟨u78,hh⟩:=gd hh;refine φ z (apF (.inr ⟨_,0,z⟩) u78 (λSG Rz=> ?_));refine R6 ?_;obtain ⟨hh,YQ⟩:=xP hR2 hh;exact lf ((DJ,Yp,(jh++[(nth DJ ((nth x1 ((nth (nth x0.next ((nth dP eP 0).toNat) []) jr 0).toNat) 0).toNat) 0)]),(jr+1)),(a222,c223,SG,Rz,τ234)) YQ ⟨hh,VP,J4,(qP.trans iP)⟩ (ψ [6,6,6,6,6] 6)
  refine R1 ?_;replace hh:=bJ hR2 hh;refine R4 ?_;refine κ 5 (TL.jO aT (λτ251 zu Vy=> ?_));replace aC:=aC.mono zu;replace aS:=aS.mono zu;replace r_:=r_.mono zu;replace kF:=kF.mono zu;have hr249b:=Vy.rv.big;have rY:ZOk _ (aF 1 ak aT) ([(jh,(a208,OG))]:List (ah×(aF 1 ak aT).P)) [jh]:=ZOk.cons (Vy) (ZOk.nil _ _);refine φ z (litZ rY z jZ jy z ku z z z (by decide) (by decide) z (by decide) z (by decide) (λGm FX=> ?_));refine κ 5 ?_;obtain ⟨u85,hh⟩:=gd hh;refine φ z (Jk (k:=(aF 1 ak aT)) kF rY z z jZ jy mG ku z z (by decide) z z z (.inr ⟨_,0,z⟩) (by simpa using u85) (by decide) (λa254 c255 zf256=> ?_));refine R7 ?_;obtain ⟨hh,YN⟩:=xP hR1 hh;exact lf ((yN,cO,(jE++[jh]),(eP+1)),(a203,CG,a254,c255,(KC++([(jh,(a208,OG))]:List (ah×(aF 1 ak aT).P))),τ251)) YN ⟨hh,AX,zf256,((qQ.trans qP).trans zu)⟩ (ψ [5,5,5,5] 5)
 refine R1 ?_;replace hh:=bJ hR1 hh;refine R4 ?_;refine κ 4 (TL.Ji r_ (λτ260 jW oM=> ?_));replace aC:=aC.mono jW;replace aS:=aS.mono jW;have hr258b:=oM.big;obtain ⟨v91,u91,hh⟩:=bg hh;refine φ z (OpOk.call (Lt_ oM u91) z z pf153 z z z z ?_);rintro _ τ261 _ FB ⟨a261_1,c261_1,a261_2,c261_2,rfl,hr261_0,hr261_1,rfl⟩;replace aC:=aC.mono FB;replace aS:=aS.mono FB;replace oM:=oM.mono FB;refine R11 ?_;obtain ⟨u100,hh⟩:=gd hh;refine φ z (mk2 (enc:=ak) (0:Int) (λCX CB=> ?_));refine ι z bL (TL.al (λOX=> ?_));refine R11 ?_;refine TC.lk hh () (rgs [(18,2),(109,14)]) (λ⟨qH,lK⟩ _=>([(109,.int .i64 (lK:Int))],[ω aP #[.slice aB x0.cls.length aA,.slice ay x0.next.length aH,.slice aG x0.fin.length au] 35,ω bK #[aW,aW,aW] 35,dO 3 ak Gn c156 dP,ω OX #[.slice CX ((replicate x0.cls.length (0:Int)).length) CB,aW,aW] 35,ε 3 1 ak (.slice CX (replicate x0.cls.length (0:Int)).length CB) qH])) (λ⟨qH,_⟩ _=>qH.length=(replicate x0.cls.length (0:Int)).length) z (ψ [1,1,5,4,4] 5) ?_;rintro ⟨qH,lK⟩ _ _ z1 hh hR1 Me;dsimp only [Cc_]at hh Me ⊢;refine ζ 2 z (λWC=> ?_);refine ζ 4 z (λhb277=> ?_);refine R5 ?_;refine π z hh (λh278 hh=> ?_) (λh278 hh=> ?_)
 ·refine R11 ?_;obtain ⟨u119,hh⟩:=gd hh;obtain ⟨u121,hh⟩:=gd hh;refine TC.dw [8] (ν 0 z fL z (χ 1 z lL z (ν 2 z mI z (ν 3 z mS z (ν 4 z mI z (χ 5 z iX z (χ 6 z l1 z (TA.isSl (i:=4) z (λhs281 _ _=> ?_)))))))));refine χ 7 z iN z (Ω 4 ?_);have hn282:(qH.set lK (nth v91.1 ((nth x0.cls lK 0).toNat) 0)).length=(replicate x0.cls.length (0:Int)).length:=by rw [fV];exact Me
  refine TA.la 8 z z z (sS (nth v91.1 ((nth x0.cls lK 0).toNat) 0) ?_);refine R5 ?_;exact nk hR1 hh () (ψ [4,4,4,4] 5) hn282
 refine R1 ?_;replace hh:=bJ hR1 hh;refine R9 ?_;refine TC.nilS 31 1 (aF 1 ak aT).en ?_;have mO:=ZOk.nil τ261 (aF 1 ak aT);refine TC.nilS 4 1 dG (TC.Ak (α:=(aO×B_1×Nat)×((Option Addr)×Nat×(List (ah×(aF 1 ak aT).P))×(Option Addr)×Nat×aj)) (rgs [(20,5),(125,43)]) (λg=>[(125,.int .i64 (g.1.2.2:Int))]) (λg=>[ω aP #[.slice aB x0.cls.length aA,.slice ay x0.next.length aH,.slice aG x0.fin.length au] 35,ω bK #[aW,aW,aW] 35,ω OX #[.slice CX ((replicate x0.cls.length (0:Int)).length) CB,.slice g.2.1 g.1.1.length g.2.2.1,.slice g.2.2.2.2.1 g.1.2.1.length g.2.2.2.2.2.1] 35,ε 3 1 ak (.slice CX (replicate x0.cls.length (0:Int)).length CB) qH,ε 31 1 (aF 1 ak aT).en (.slice g.2.1 g.1.1.length g.2.2.1) g.2.2.2.1,ε 4 1 dG (.slice g.2.2.2.2.1 g.1.2.1.length g.2.2.2.2.2.1) g.1.2.1,dO 3 ak Gn c156 dP]) (λg=>g.2.2.2.2.2.2) (λg=>iter (λq:aO×B_1×Nat=>P5 dP v91 jE x0 qH q.1 q.2.1 q.2.2) g.1=some r/\qH.length=(replicate x0.cls.length (0:Int)).length/\ZOk g.2.2.2.2.2.2 (aF 1 ak aT) g.2.2.2.1 g.1.1/\aj.le τ261 g.2.2.2.2.2.2) (λg=>rQ (λq:aO×B_1×Nat=>P5 dP v91 jE x0 qH q.1 q.2.1 q.2.2) g.1) ((([]:aO),([]:B_1),0),(none,0,[],none,0,τ261)) (ψ [4,1,2,6,6,6,6] 7) z (by repeat (first|exact trivial|refine ⟨z,?_⟩)) ⟨hh,Me,mO,(aj.le.refl _)⟩ (λg5 j5 hg5=> ?_));obtain ⟨⟨eF,yK,mY⟩,⟨a312,c313,XQ,a318,c319,τ324⟩⟩:=g5;obtain ⟨hh,wR,rX,jV⟩:=hg5
 try dsimp only at wR
 try dsimp only at rX
 dsimp only at jV;replace aS:=aS.mono jV;replace oM:=oM.mono jV;replace hr261_1:=hr261_1.mono jV
 try dsimp only
 obtain ⟨z1,hh,hR1⟩:=zQ hh;dsimp only [P5]at hh;have zf315b:=rX.length;refine ζ 3 z (λhb326=> ?_);refine ζ 4 z (λhb327=> ?_);refine ζ 5 z (λhb328=> ?_);refine ζ 6 z (λhb329=> ?_);refine R5 ?_;refine π z hh (λh330 hh=> ?_) (λh330 hh=> ?_)
 ·refine R6 ?_;refine TL.iS 6 z (λhs331=> ?_);refine R9 ?_;obtain ⟨u136,hh⟩:=gd hh;refine φ z (mk2 (enc:=ak) (0:Int) (λa332 ZO=> ?_));refine R10 ?_;refine TC.Ak (α:=(ah×Nat)×(aj)) (rgs [(23,2),(135,16)]) (λg=>[(135,.int .i64 (g.1.2:Int))]) (λg=>[ω aP #[.slice aB x0.cls.length aA,.slice ay x0.next.length aH,.slice aG x0.fin.length au] 35,ω bK #[aW,aW,aW] 35,ω OX #[.slice CX ((replicate x0.cls.length (0:Int)).length) CB,.slice a312 eF.length c313,.slice a318 yK.length c319] 35,ε 3 1 ak (.slice CX (replicate x0.cls.length (0:Int)).length CB) qH,ε 31 1 (aF 1 ak aT).en (.slice a312 eF.length c313) XQ,dO 4 dG a318 c319 yK,ε 3 1 ak (.slice a332 (replicate v91.2.length (0:Int)).length ZO) g.1.1,dO 3 ak Gn c156 dP]) (λg=>g.2) (λg=>iter (λq:ah×Nat=>Ti v91 mY jE eF dP x0 yK q.1 q.2) g.1=some z1/\qH.length=(replicate x0.cls.length (0:Int)).length/\ZOk g.2 (aF 1 ak aT) XQ eF/\g.1.1.length=(replicate v91.2.length (0:Int)).length/\aj.le τ324 g.2) (λg=>rQ (λq:ah×Nat=>Ti v91 mY jE eF dP x0 yK q.1 q.2) g.1) (((replicate v91.2.length (0:Int)),0),τ324) (ψ [7,1,7,7,7,7,7,7] 8) z (by repeat (first|exact trivial|refine ⟨z,?_⟩)) ⟨hh,wR,rX,z,(aj.le.refl _)⟩ (λg6 j6 hg6=> ?_);obtain ⟨⟨yJ,uF⟩,τ352⟩:=g6;obtain ⟨hh,Mc,Au,L_,tq⟩:=hg6
  try dsimp only at Mc
  try dsimp only at Au
  try dsimp only at L_
  dsimp only at tq;replace aS:=aS.mono tq;replace oM:=oM.mono tq;replace hr261_1:=hr261_1.mono tq;replace rX:=rX.mono tq
  try dsimp only
  obtain ⟨z2,hh,hR2⟩:=zQ hh;dsimp only [Ti]at hh;have zf348b:=Au.length;refine ζ 3 z (λhb354=> ?_);refine ζ 4 z (λhb355=> ?_);refine ζ 5 z (λhb356=> ?_);refine ζ 6 z (λhb357=> ?_);refine ζ 7 z (λhb358=> ?_);refine R5 ?_;refine π z hh (λh359 hh=> ?_) (λh359 hh=> ?_)
  ·refine R16 ?_;obtain ⟨u151,hh⟩:=gd hh;refine ι z iN ?_;obtain ⟨Qr,Wi,hg360⟩:=RZ.seg oM mY (by omega);replace Wi:dH _ ak Qr.1 Qr.2 (nth jE mY []):=Wi;refine ι z (OpVal.of (qw z pV z hg360 z) (v':= .slice Qr.1 ((nth jE mY []).length) Qr.2) z) (TL.i z z ?_);obtain ⟨u154,hh⟩:=gd hh;refine R2 ?_;obtain ⟨u156,hh⟩:=gd hh;refine TL.iS 6 z (λhs361=> ?_);refine ι z iN (κ 6 ?_);have hn362:(yJ.set uF (nth (nth jE mY []) ((nth v91.2 uF 0).toNat) 0)).length=(replicate v91.2.length (0:Int)).length:=by rw [fV];exact L_
   refine φ z (sS (nth (nth jE mY []) ((nth v91.2 uF 0).toNat) 0) ?_);refine R5 ?_;obtain ⟨hh,YG⟩:=xP hR2 hh;exact lf (((yJ.set uF (nth (nth jE mY []) ((nth v91.2 uF 0).toNat) 0)),(uF+1)),τ352) YG ⟨hh,Mc,Au,hn362,tq⟩ (ψ [7,1,7,7,7,7,7,7] 8)
  refine R1 ?_;replace hh:=bJ hR2 hh;refine R6 ?_;rw [<-L_];refine κ 6 (TL.jO aT (λτ368 BN hr366=> ?_));replace aS:=aS.mono BN;replace rX:=rX.mono BN;replace Au:=Au.mono BN;have Tt:ZOk _ (aF 1 ak aT) ([(yJ,(a332,ZO))]:List (ah×(aF 1 ak aT).P)) [yJ]:=ZOk.cons (hr366) (ZOk.nil _ _);refine φ z (litZ Tt z jZ jy z ku z z z (by decide) (by decide) z (by decide) z (by decide) (λa364 c365=> ?_));refine κ 5 ?_;obtain ⟨u164,hh⟩:=gd hh;refine φ z (Jk (k:=(aF 1 ak aT)) Au Tt z z jZ jy mG ku z z (by decide) z z z (.inr ⟨_,0,z⟩) (by simpa using u164) (by decide) (λa371 c372 zf373=> ?_));refine ι z fL (κ 4 (R2 ?_));obtain ⟨u172,hh⟩:=gd hh;obtain ⟨u175,hh⟩:=gd hh;refine TC.dw [8,9,10] (ν 0 z fL z (χ 1 z lL z (ν 2 z fL z (χ 3 z lL z (ν 4 z mI z (χ 5 z iX z (χ 6 z l1 z (υ 7 z (jc (enc:=dG) [(nth x0.fin ((nth dP mY 0).toNat) false)] (λa379 c380=>(k1 ?_)))))))))));refine Ω 7 (TA.la 8 z z z (apF (.inr ⟨_,0,z⟩) u175 (λa382 c383=> ?_)));refine TZ.w 9 z z z fL z z (TZ.fr 2 (TZ.la 10 z z z (iH z xs_ z z z z z ?_)));refine R5 ?_;obtain ⟨hh,YF⟩:=xP hR1 hh;exact lf (((eF++[yJ]),(yK++[(nth x0.fin ((nth dP mY 0).toNat) false)]),(mY+1)),(a371,c372,(XQ++([(yJ,(a332,ZO))]:List (ah×(aF 1 ak aT).P))),a382,c383,τ368)) YF ⟨hh,Mc,zf373,((jV.trans tq).trans BN)⟩ (ψ [8,2,4,8,4,8,8] 7)
 refine R1 ?_;replace hh:=bJ hR1 hh;refine R4 ?_;refine κ 1 (R2 ?_);rw [<-wR];refine TC.fr 3 (TC.jO aT (λτ387 Y6 G9=> ?_));replace rX:=rX.mono Y6;refine TC.fr 3 (TC.Ji rX (λτ390 Y5 Vs=> ?_));replace G9:=G9.mono Y5;refine TC.fr 3 (TC.jO NH (λτ393 MR hr391=> ?_));replace G9:=G9.mono MR;replace Vs:=Vs.mono MR;have hr391b:=hr391.rv.big;refine Ψ 1 ?_;obtain rfl:=so hh;exact rz
def JO(x0:Dfa):Option (Dfa×Int):=
 bnd (S_ x0) (λv5=>iteO (decide (v5≠0)) (some ((⟨([]:ah),([]:aO),([]:B_1)⟩:Dfa),1)) (bnd (Ex_ x0) (λv12=>bnd (Fr_ x0 v12) (λv13=>bnd (Hj_ x0 v13.1 v13.2) (λv22=>some (v22,0))))))
theorem Jv_{σ:aj}{x0:Dfa}(aC:dH σ ak aB aA x0.cls)(aV:RZ σ (aF 1 ak aT) (.slice ay x0.next.length aH) x0.next)(aS:dH σ dG aG au x0.fin){r:Dfa×Int}(hh:JO x0=some r):
  Con prog 31 #[.agg #[.slice aB x0.cls.length aA,.slice ay x0.next.length aH,.slice aG x0.fin.length au]] σ [] (Ia_ σ r):=by
 dsimp only [JO]at hh;refine cM 21 Tryz.func31 (λw0=> ?_);refine R2 ?_;refine TL.bx (λaP=> ?_);refine TL.al (λbK=> ?_);refine R6 ?_;obtain ⟨v5,u5,hh⟩:=bg hh;refine φ z (gI (Ef_ (x0:=x0) aC aV aS u5) z z KZ z z z ?_);refine R2 ?_;refine π z hh (λdL hh=> ?_) (λdL hh=> ?_)
 ·refine R6 ?_;refine Ψ 1 ?_;obtain rfl:=so hh;exact rz
 refine R2 ?_;obtain ⟨v12,u12,hh⟩:=bg hh;obtain ⟨v13,u13,hh⟩:=bg hh;refine TC.dw [] (χ 0 z lA z (χ 1 z lA z (υ 2 z (OpOk.call (Lu_ (x0:=x0) aC aV aS u12) z z pf93 z z z z ?_))));rintro _ _ _ lU ⟨a112_1,c112_1,rfl,rfl,rfl⟩;refine k1 (TA.jO aT (λτ116 gY D8=> ?_));replace aC:=aC.mono gY;replace aV:=aV.mono gY;replace aS:=aS.mono gY;refine υ 3 z (OpOk.call (L2_ (x0:=x0) aC aV aS D8 u13) z z pf92 z z z z ?_);rintro _ τ117 _ jF ⟨a117_1,c117_1,rfl,hr117_0,rfl⟩;replace aC:=aC.mono jF;replace aV:=aV.mono jF;replace aS:=aS.mono jF;refine kl 0 (gY.trans jF) (ν 4 z mT z (ν 5 z (OpVal.extract z z z) z (ν 6 z (OpVal.extract z z z) z (ν 7 z mS z (ν 8 z mI z (R6 ?_))))));obtain ⟨v22,u22,hh⟩:=bg hh;refine φ z (OpOk.call (Mc_ (x0:=x0) aC aV aS hr117_0 u22) z z pf94 z z z z ?_);rintro _ τ118 _ jk ⟨a118_1,c118_1,a118_2,c118_2,a118_3,c118_3,rfl,hr118_0,hr118_1,hr118_2,rfl⟩;refine R3 ?_;refine Ψ 1 ?_;obtain rfl:=so hh;exact rz
def Xu(x0:Fst):Option (Dfa×Int):=
 bnd (Lc_ x0) (λv5=>iteO (decide (v5.2≠0)) (some ((⟨([]:ah),([]:aO),([]:B_1)⟩:Dfa),v5.2)) (bnd (Le_ v5.1) (λv19=>iteO (decide (v19.2≠0)) (some ((⟨([]:ah),([]:aO),([]:B_1)⟩:Dfa),v19.2)) (bnd (JO v19.1) (λv33=>some (v33.1,v33.2))))))
theorem Ea_{σ:aj}{x0:Fst}(hgl:xu σ 0 2)(aC:RS σ 2 bf (.slice aB x0.starts.length aA) x0.starts)(aV:RS σ 2 bf (.slice ay x0.ends.length aH) x0.ends)(aS:RS σ 8 fP (.slice aG x0.arcs.length au) x0.arcs){r:Dfa×Int}(hh:Xu x0=some r):
  Con prog 8 #[.agg (jB x0 aB aA ay aH aG au)] σ [] (Ia_ σ r):=by
 dsimp only [Xu]at hh;refine cM 29 Tryz.func8 (λw0=> ?_);refine R2 ?_;refine TL.bx (λaP=> ?_);refine TL.al (λbK=> ?_);refine R5 ?_;obtain ⟨v5,u5,hh⟩:=bg hh;refine φ z (OpOk.call (M9_ (x0:=x0) aC aV aS u5) z z pf29 z z z z ?_);rintro _ τ105 _ jH ⟨a105_1,c105_1,a105_2,c105_2,a105_3,c105_3,rfl,hr105_0,hr105_1,hr105_2,rfl⟩;replace hgl:=hgl.mono jH;refine R3 ?_;refine TL.al (λyh=> ?_);refine R9 ?_;refine π z hh (λiG hh=> ?_) (λiG hh=> ?_)
 ·refine R4 ?_;refine κ 1 (R3 ?_);refine Ψ 1 ?_;obtain rfl:=so hh;exact rz
 refine R4 ?_;obtain ⟨v19,yG,hh⟩:=bg hh;refine φ z (OpOk.call (M6_ (x0:=v5.1) hgl hr105_0 hr105_1 hr105_2 yG) z z pf30 z z z z ?_);rintro _ τ109 _ fK ⟨a109_1,c109_1,a109_2,c109_2,a109_3,c109_3,rfl,hr109_0,hr109_1,hr109_2,rfl⟩;refine R3 ?_;refine TL.al (λb110=> ?_);refine R9 ?_;refine π z hh (λh112 hh=> ?_) (λh112 hh=> ?_)
 ·refine R4 ?_;refine κ 2 (R3 ?_);refine Ψ 1 ?_;obtain rfl:=so hh;exact rz
 refine R4 ?_;obtain ⟨v33,u33,hh⟩:=bg hh;refine φ z (OpOk.call (Jv_ (x0:=v19.1) hr109_0 hr109_1 hr109_2 u33) z z Ye z z z z ?_);rintro _ τ113 _ pF ⟨a113_1,c113_1,a113_2,c113_2,a113_3,c113_3,rfl,hr113_0,hr113_1,hr113_2,rfl⟩;refine R2 ?_;refine κ 2 (R3 ?_);refine Ψ 1 ?_;obtain rfl:=so hh;exact rz
end Go.Proofs.YtcfgkcfcddfccaaGreatDoor
end

noncomputable section
namespace Go.Proofs.YtcfgkcfcddfccaaGreatDoor
open Go Go.E
inductive Rch (S:Int->Prop) (E:Int->Int->Prop):Int->Prop
  |base {s:Int}:S s->Rch S E s
  |step {a b:Int}:Rch S E a->E a b->Rch S E b
structure Rng (t:Fst):Prop where
  starts: ∀x∈t.starts,0<=x.state/\x.state<t.states
  ends: ∀x∈t.ends,0<=x.state/\x.state<t.states
  arcs: ∀x∈t.arcs,(0<=x.frm/\x.frm<t.states)/\(0<=x.to/\x.to<t.states)
def Le(l r:B_1):Prop:= ∀v,nth l v false=true->nth r v false=true
theorem Le.trans{l r s:B_1}(h:Le l r)(k:Le r s):Le l s:=λv hv=>k v (h v hv)
def stE(st:aO)(a b:Int):Prop:=0<=a/\b∈nth st a.toNat []
theorem Rch.trans{S:Int->Prop}{E:Int->Int->Prop}{a b:Int}(h:Rch (λc=>c=a) E b)(k:Rch S E a):Rch S E b:=by
  induction h with
  |base e=>subst e;exact k
  |step _ e ih=>exact .step ih e
theorem Q5{α:Type}{l:List α}{x d:α}(h:x∈l): ∃j,j<l.length/\nth l j d=x:=by
  obtain ⟨j,hj,e⟩:=List.getElem_of_mem h;refine ⟨j,hj,?_⟩;have:=getD_some l hj d;rw [List.getElem?_eq_getElem hj,Option.some.injEq]at this;rw [<-this];exact e
structure Vis (st:aO) (n:Nat) (s:Int) (seen r:B_1):Prop where
  len:r.length=n
  le:Le seen r
  at':nth r s.toNat false=true
  out: ∀v,nth r v false=true->nth seen v false=true\/Rch (λc=>c=s) (stE st) v
  cl: ∀v,nth r v false=true->nth seen v false=false-> ∀z∈nth st v [],nth r z.toNat false=true
def key2(n:Int):T_1:=[jd (ES .i64 n 8),jd n]
def nJ(l:ah):T_1:=l.flatMap key2
def Sml(l:ah):Prop:= ∀x∈l,0<=x/\x<65536
theorem key2_inj{x y:Int}(hx:0<=x/\x<65536)(hy:0<=y/\y<65536)(h:key2 x=key2 y):x=y:=by
  unfold key2 at h;rw [List.cons.injEq,List.cons.injEq]at h;obtain ⟨h1,h2, -⟩:=h;have e1:=congrArg (λb:UInt8=>((b.toNat:Nat):Int)) h1;have e2:=congrArg (λb:UInt8=>((b.toNat:Nat):Int)) h2;rw [Yy,Yy,Yw,Yw]at e1 e2;have s1: ∀z:Int,ES .i64 z 8=z / 256:=λz=>by
    unfold ES;rw [show min 8 (IntKind.bits .i64)=8 from rfl,show ((2:Int) ^ 8)=256 from rfl,Int.fdiv_eq_ediv_of_nonneg _ (by decide)]
  rw [s1,s1]at e1;omega
theorem n6_: ∀{l m:ah},Sml l->Sml m->nJ l=nJ m->l=m
  |[],[],_,_,_=>rfl
  |[],y::m,_,_,h=>by cases h
  |x::l,[],_,_,h=>by cases h
  |x::l,y::m,hl,hm,h=>by
    have h':key2 x++nJ l=key2 y++nJ m:=h;obtain ⟨h1,h2⟩:=List.append_inj h' rfl;rw [key2_inj (hl x (iU ..)) (hm y (iU ..)) h1,n6_ (λz hz=>hl z (rM _ hz)) (λz hz=>hm z (rM _ hz)) h2]
theorem r1_: ∀l:ah,(nJ l).length=l.length * 2
  |[]=>rfl
  |x::l=>by
    have:=r1_ l;show (key2 x++nJ l).length=_;rw [iK,this];show 2+l.length * 2=(l.length+1) * 2;omega
end Go.Proofs.YtcfgkcfcddfccaaGreatDoor
end

noncomputable section
namespace Go.Proofs.YtcfgkcfcddfccaaGreatDoor
open Go Go.E
structure DR (d:Dfa) (w:Nat):Prop where
  cnt:jX d.cls=some w
  cl:d.cls.length=256
  n1:1<=d.next.length
  n2:d.next.length<=1024
  fin:d.fin.length=d.next.length
  row: ∀s,s<d.next.length->(nth d.next s ([]:ah)).length=w/\ ∀c,c<w->0<=nth (nth d.next s ([]:ah)) c (0:Int)/\nth (nth d.next s ([]:ah)) c (0:Int)<((d.next.length:Nat):Int)
theorem DR.of{d:Dfa}(h:kU d=true): ∃w,DR d w:=by
  obtain ⟨w,h1,h2,h3,h4,h5,h6⟩:=JK h;exact ⟨w,h1,h2,h3,h4,h5,h6⟩
theorem DR.right{d:Dfa}{w:Nat}(h:DR d w):kU d=true:=by
  unfold kU;rw [h.cnt];simp only [Bool.and_eq_true,iL,List.all_eq_true];refine ⟨⟨⟨h.cl,λr hr=> ?_⟩,h.n1,h.n2⟩,h.fin⟩;obtain ⟨k,hk,rfl⟩:=Q5 (d:=([]:ah)) hr;obtain ⟨h1,h2⟩:=h.row k hk;unfold G6;rw [Bool.and_eq_true,iL,List.all_eq_true];refine ⟨h1,λx hx=> ?_⟩;obtain ⟨j,hj,rfl⟩:=Q5 (d:=(0:Int)) hx;have:=h2 j (by omega);unfold IY;rw [Bool.and_eq_true,iL,iL];exact this
theorem DR.XR{d:Dfa}{w:Nat}(h:DR d w):w<=256:=by
  have:=ox_ d.cls 0 w h.cnt;have:=h.cl;omega
def nx(d:Dfa)(s:Int)(c:Nat):Int:=nth (nth d.next s.toNat ([]:ah)) c (0:Int)
def lZ(d:Dfa)(s:Int)(u:T_1):Bool:=nth d.fin (qp d s u).toNat false
theorem lan_nx{d:Dfa}{w:Nat}(h:DR d w){s t:Int}(e:lZ d s=lZ d t){c:Nat}(hc:c<w):lZ d (nx d s c)=lZ d (nx d t c):=by
  obtain ⟨b,hb,hv⟩:=Q8 h.cnt c hc;have hcl:=h.cl;have k: ∀s,dlt d s (UInt8.ofNat b)=nx d s c:=λs=>by
    unfold dlt nx;rw [u8nat (by omega),hv,nI]
  funext u
  have:=congrFun e (UInt8.ofNat b::u);unfold lZ qp at this ⊢;rw [List.foldl_cons,List.foldl_cons,k,k]at this;exact this
theorem DR.nx_ok{d:Dfa}{w:Nat}(h:DR d w){s:Int}(hs:okS d s){c:Nat}(hc:c<w):okS d (nx d s c):=by
  obtain ⟨h0,h1⟩:=hs;exact (h.row s.toNat (by omega)).2 c hc
theorem DR.len{d:Dfa}{w:Nat}(h:DR d w){s:Int}(hs:okS d s):(nth d.next s.toNat ([]:ah)).length=w:=by
  obtain ⟨h0,h1⟩:=hs;exact (h.row s.toNat (by omega)).1
theorem nthP{R R':ah}(h:R <+: R'){s:Nat}(hs:s<R.length):nth R' s (0:Int)=nth R s (0:Int):=by
  obtain ⟨t,rfl⟩:=h;exact yx _ _ _ _ hs
theorem qf_{d:Dfa}{l:ah}(h:l.Nodup)(hs: ∀s∈l,okS d s):l.length<=d.next.length:=by
  have:=h8_ (m:=(List.range d.next.length).map λi:Nat=>((i:Nat):Int)) h λx hx=>by
    obtain ⟨h0,h1⟩:=hs x hx;exact List.mem_map.2 ⟨x.toNat,List.mem_range.2 (by omega),by omega⟩
  rwa [List.length_map,List.length_range]at this
structure RchB (d:Dfa) (seen:B_1) (l:ah):Prop where
  len:seen.length=d.next.length
  nd:l.Nodup
  ok: ∀s∈l,okS d s
  mem: ∀s,okS d s->(nth seen s.toNat false=true↔s∈l)
structure Reached (d:Dfa) (w:Nat) (l:ah):Prop where
  nd:l.Nodup
  ok: ∀s∈l,okS d s
  zero:(0:Int)∈l
  cl: ∀s∈l, ∀c,c<w->nx d s c∈l
theorem RchB.more{d:Dfa}{seen:B_1}{l:ah}(h:RchB d seen l){s:Int}(hs:okS d s)(hn:nth seen s.toNat false=false):RchB d (seen.set s.toNat true) (l++[s]):=by
  obtain ⟨h0,h1⟩:=hs;have hl:=h.len;have hnm:s∉l:=λhm=>by rw [(h.mem s ⟨h0,h1⟩).2 hm]at hn;cases hn
  refine ⟨by rw [fV];exact hl,?_,λx hx=> ?_,λx hx=> ?_⟩
  · rw [List.nodup_append]
    exact ⟨h.nd,by simp,λa ha b hb=>by rw [List.mem_singleton.1 hb];intro e;subst e;exact hnm ha⟩
  · rcases List.mem_append.1 hx with hx|hx
    · exact h.ok x hx
    rw [List.mem_singleton.1 hx];exact ⟨h0,h1⟩
  rw [Af,List.mem_append,JC];obtain ⟨h2,h3⟩:=hx
  by_cases e:x=s
  · rw [if_pos ⟨by rw [e],by omega⟩];exact ⟨λ_=> .inr e,λ_=>rfl⟩
  rw [if_neg (λq=>e (by omega)),h.mem x ⟨h2,h3⟩];exact ⟨.inl,λk=>k.elim id λk=>absurd k e⟩
theorem rch_b2{d:Dfa}{w:Nat}(hd:DR d w){l0:ah}{k:Nat}(hk:k<l0.length){seen:B_1}(h:RchB d seen l0):
    ∃r,iter (λq:B_1×ah×Nat=>XB d l0 k q.1 q.2.1 q.2.2) (seen,l0,0)=some r/\ ∃seen' l',r= .inl (seen',l',k+1)/\RchB d seen' l'/\l0 <+: l'/\ ∀c,c<w->nx d (nth l0 k (0:Int)) c∈l':=by
  have hs:=h.ok _ (sH hk (0:Int));have hlen:=hd.len hs;have hn2:=hd.n2;refine kV (step:=λq:B_1×ah×Nat=>XB d l0 k q.1 q.2.1 q.2.2) (λ(s:B_1×ah) c=>(s.1,s.2,c)) w (λc s=>RchB d s.1 s.2/\l0 <+: s.2/\ ∀i,i<c->nx d (nth l0 k (0:Int)) i∈s.2) _ (λc s hc hI=> ?_) (λs hI=> ?_) (s0:=(seen,l0)) ⟨h,List.prefix_refl _,λi hi=>by omega⟩
  · obtain ⟨se,l⟩:=s
    obtain ⟨hB,hP,hM⟩:=hI;have hx:=hd.nx_ok hs hc;have hx':0<=nth (nth d.next ((nth l0 k (0:Int)).toNat) ([]:ah)) c (0:Int)/\nth (nth d.next ((nth l0 k (0:Int)).toNat) ([]:ah)) c (0:Int)<((d.next.length:Nat):Int):=hx;have hsl:se.length=d.next.length:=hB.len;have hll:l.length<=d.next.length:=qf_ hB.nd hB.ok;show (∃s',XB d l0 k se l c=_/\_)\/_;unfold XB C7_;rw [hlen,eH (by omega),cu (by omega)];cases hh:nth se ((nth (nth d.next ((nth l0 k (0:Int)).toNat) ([]:ah)) c (0:Int)).toNat) false with
    |true=>
      rw [Bool.not_true,iteO_false];refine .inl ⟨(se,l),rfl,hB,hP,λi hi=> ?_⟩
      by_cases e:i=c
      · subst e;exact (hB.mem _ hx).1 hh
      exact hM i (by omega)
    |false=>
      rw [Bool.not_false,iteO_true,cu (by omega),cu (by rw [jm];omega)];refine .inl ⟨(_,_),rfl,hB.more hx hh,hP.trans (List.prefix_append _ _),λi hi=> ?_⟩
      by_cases e:i=c
      · subst e;exact List.mem_append_right _ (List.mem_singleton.2 rfl)
      exact List.mem_append_left _ (hM i (by omega))
  obtain ⟨se,l⟩:=s;obtain ⟨hB,hP,hM⟩:=hI;refine ⟨.inl (se,l,k+1),?_,se,l,rfl,hB,hP,hM⟩;show XB d l0 k se l w=_;unfold XB;rw [hlen,dM (by omega)];rfl
theorem p0_{d:Dfa}{w:Nat}(hd:DR d w): ∃l,Ex_ d=some l/\Reached d w l:=by
  have h1:=hd.n1;have h2:=hd.n2;unfold Ex_;rw [cu (by omega),cu (by rw [oI];omega)];refine Rh (step:=λq:B_1×ah×Nat=>B3_ d q.1 q.2.1 q.2.2) (λs=>RchB d s.1 s.2.1/\s.2.2<=s.2.1.length/\(0:Int)∈s.2.1/\ ∀j,j<s.2.2-> ∀c,c<w->nx d (nth s.2.1 j (0:Int)) c∈s.2.1) (Reached d w) (λs=>5000 - s.2.2) (λs hI=> ?_)
    ((List.replicate d.next.length false).set 0 true,[0],0) ⟨⟨by rw [fV,oI],by simp,λs hs=>by rw [List.mem_singleton.1 hs];exact ⟨Int.le_refl _,by omega⟩,λs hs=> ?_⟩,Nat.zero_le _,List.mem_singleton.2 rfl,λj hj=>by cases hj⟩
  · obtain ⟨se,l,k⟩:=s
    obtain ⟨hB,hk,hz,hM⟩:=hI;dsimp only at hB hk hz hM;have hll:l.length<=d.next.length:=qf_ hB.nd hB.ok;show (∃s',B3_ d se l k=_/\_)\/ ∃r,B3_ d se l k=_/\_;unfold B3_
    by_cases hkl:k<l.length
    · have hs:=hB.ok _ (sH hkl (0:Int))
      obtain ⟨r,e,se',l',rfl,hB',hP,hN⟩:=rch_b2 hd hkl hB;rw [eH (by omega),cu (by exact hs),e];have hle:=hP.length_le;refine .inl ⟨_,rfl,⟨hB',by show k+1<=l'.length;omega,hP.subset hz,λj hj c hc=> ?_⟩,by show 5000 - (k+1)<5000 - k;omega⟩;show nx d (nth l' j (0:Int)) c∈l';have hj':j<k+1:=hj;rw [nthP hP (by omega)]
      by_cases e:j=k
      · subst e;exact hN c hc
      exact hP.subset (hM j (by omega) c hc)
    rw [dM (by omega)];refine .inr ⟨l,rfl,hB.nd,hB.ok,hz,λs hs c hc=> ?_⟩;obtain ⟨j,hj,rfl⟩:=Q5 (d:=(0:Int)) hs;exact hM j (by omega) c hc
  rw [Af,JC];obtain ⟨h0,h3⟩:=hs
  by_cases e:s=0
  · subst e
    rw [if_pos ⟨rfl,by rw [oI];omega⟩];exact ⟨λ_=>rfl,λ_=>rfl⟩
  rw [if_neg (λq=>e (by omega)),qt_];exact ⟨λh=>(by cases h),λh=>absurd h e⟩
theorem xk_{l:ah}(h:l.length<=1000000):Gj_ l=some (nJ l):=by
  unfold Gj_;have hw0:IntKind.i64.wrap (2 * ((l.length:Nat):Int))=((2 * l.length:Nat):Int):=by rw [Ja (by omega) (by omega)];omega
  rw [hw0,cu (by omega)];refine k9_ (step:=λq:T_1×Nat=>Dd_ l q.1 q.2) l (0:Int) (λk=>nJ (l.take k)) ?_ ?_
  · intro k hk
    have hlen:(nJ (l.take k)).length<=2 * 1000000:=by rw [r1_,List.length_take];omega
    show Dd_ l (nJ (l.take k)) k=_;unfold Dd_;rw [eH (by omega),cu (by simp only [List.length_cons,List.length_nil];omega),qh l hk (0:Int)];unfold nJ;rw [List.flatMap_append,List.flatMap_singleton];rfl
  show Dd_ l (nJ (l.take l.length)) l.length=_;unfold Dd_;rw [dM (by omega),List.take_length];rfl
def gv(g:ah)(s:Int):Int:=nth g s.toNat (0:Int)
def zM(d:Dfa)(w:Nat)(g:ah)(s:Int):ah:=gv g s::(List.range w).map λc=>gv g (nx d s c)
structure KeyI (d:Dfa) (w:Nat) (g:ah) (l:ah) (k:Nat) (m:FM T_1 Int) (x:ah):Prop where
  len:x.length=d.next.length
  n:m.n<=k
  at_: ∀s∈l.take k,m.f (nJ (zM d w g s))=some (gv x s)
  val: ∀y v,m.f y=some v->(0<=v/\v<((m.n:Nat):Int))/\ ∃s∈l.take k,y=nJ (zM d w g s)
  inj: ∀y z v,m.f y=some v->m.f z=some v->y=z
  hit: ∀v:Nat,v<m.n-> ∃y,m.f y=some ((v:Nat):Int)
theorem pl_{g:ah}{s t:Int}(hs:0<=s/\s<(g.length:Int))(ht:0<=t)(v:Int):gv (g.set s.toNat v) t=if t=s then v else gv g t:=by
  unfold gv;rw [Af]
  by_cases e:t=s
  · rw [if_pos e,if_pos ⟨by rw [e],by omega⟩]
  rw [if_neg e,if_neg (λq=>e (by omega))]
section
variable {d:Dfa} {w:Nat} (hd:DR d w) {l:ah} (hR:Reached d w l) {g:ah} (hg:g.length=d.next.length)
include hd hR hg
theorem grp_b4 {k : Nat} (hk : k < l.length) {m : FM T_1 Int} {x : ah} (h : KeyI d w g l k m x) :
    ∃m' x',iter (λq:ah×Nat=>XJ d l k g m x q.1 q.2) ([gv g (nth l k (0:Int))],0)=some (.inl (m',x',k+1))/\KeyI d w g l (k+1) m' x':=by
  have hs:=hR.ok _ (sH hk (0:Int));have hlen:=hd.len hs;have hw:=hd.XR;have hxl:=h.len;obtain ⟨s,hse⟩: ∃s,nth l k (0:Int)=s:=⟨_,rfl⟩;have hfresh:s∉l.take k:=λhm=>by
    have hnd:=hR.nd;rw [<-List.take_append_drop k l]at hnd;have h1:=(List.nodup_append.1 hnd).2.2 s hm s (by
      rw [<-hse];have:(l.drop k)=nth l k (0:Int)::l.drop (k+1):=by
        have:=pn_ l hk (0:Int);have h2:l.drop k=(l.take k++nth l k (0:Int)::l.drop (k+1)).drop k:=by rw [<-this]
        rw [h2,List.drop_left' (by rw [List.length_take];omega)]
      rw [this];exact iU ..)
    exact h1 rfl
  have key: ∃m' x',(bnd (Gj_ (zM d w g s)) (λv70=>iteO (!(m.has v70)) (Bj_ l k x (m.put v70 ((m.n:Nat):Int)) ((m.n:Nat):Int)) (Bj_ l k x m (m.get v70 0))))=some (.inl (m',x',k+1))/\KeyI d w g l (k+1) m' x':=by
    rw [xk_ (by unfold zM;rw [List.length_cons,List.length_map,List.length_range];omega),kT];unfold Bj_;rw [hse];have hs':okS d s:=by rw [<-hse];exact hs
    obtain ⟨h0,h1⟩:=hs';have hne: ∀t∈l.take k,t≠s:=λt ht e=>hfresh (e▸ht);have hok: ∀t∈l.take k,0<=t:=λt ht=>(hR.ok t (List.mem_of_mem_take ht)).1;cases hh:m.has (nJ (zM d w g s))with
    |true=>
      rw [Bool.not_true,iteO_false,cu ⟨h0,by omega⟩];obtain ⟨v,hv⟩: ∃v,m.f (nJ (zM d w g s))=some v:=by
        unfold FM.has at hh;exact Option.isSome_iff_exists.1 hh
      have hget:m.get (nJ (zM d w g s)) 0=v:=by unfold FM.get;rw [hv];rfl
      rw [hget];have hn:=h.n;refine ⟨m,_,rfl,by rw [fV];exact hxl,by omega,λt ht=> ?_,λy v hy=> ?_,h.inj,h.hit⟩
      · rw [qh l hk (0:Int),hse]at ht
        rcases List.mem_append.1 ht with ht|ht
        · rw [pl_ ⟨h0,by omega⟩ (hok t ht),if_neg (hne t ht)];exact h.at_ t ht
        rw [List.mem_singleton.1 ht,pl_ ⟨h0,by omega⟩ h0,if_pos rfl];exact hv
      obtain ⟨h2,t,ht,h3⟩:=h.val y v hy;exact ⟨h2,t,by rw [qh l hk (0:Int)];exact List.mem_append_left _ ht,h3⟩
    |false=>
      rw [Bool.not_false,iteO_true,cu ⟨h0,by omega⟩];have hnone:m.f (nJ (zM d w g s))=none:=by
        unfold FM.has at hh;cases e:m.f (nJ (zM d w g s))with
        |none=>rfl
        |some v=>rw [e]at hh;cases hh
      have hput: ∀y,(m.put (nJ (zM d w g s)) ((m.n:Nat):Int)).f y=if y=nJ (zM d w g s) then some ((m.n:Nat):Int) else m.f y:=λy=>rfl;have hpn:(m.put (nJ (zM d w g s)) ((m.n:Nat):Int)).n=m.n+1:=by
        show (if (m.f (nJ (zM d w g s))).isSome then m.n else m.n+1)=_;rw [hnone];rfl
      have hn:=h.n;refine ⟨_,_,rfl,by rw [fV];exact hxl,by omega,λt ht=> ?_,λy v hy=> ?_,λy z v hy hz=> ?_,λv hv=> ?_⟩
      · rw [qh l hk (0:Int),hse]at ht
        rcases List.mem_append.1 ht with ht|ht
        · have h2:=h.at_ t ht
          rw [pl_ ⟨h0,by omega⟩ (hok t ht),if_neg (hne t ht),hput,if_neg (λe=>by rw [e,hnone]at h2;cases h2)];exact h2
        rw [List.mem_singleton.1 ht,pl_ ⟨h0,by omega⟩ h0,if_pos rfl,hput,if_pos rfl]
      · rw [hput]at hy
        rw [hpn]
        by_cases e:y=nJ (zM d w g s)
        · rw [if_pos e]at hy
          have:=Option.some.inj hy;exact ⟨by omega,s,by rw [qh l hk (0:Int),hse];exact List.mem_append_right _ (List.mem_singleton.2 rfl),e⟩
        rw [if_neg e]at hy;obtain ⟨h2,t,ht,h3⟩:=h.val y v hy;exact ⟨by omega,t,by rw [qh l hk (0:Int)];exact List.mem_append_left _ ht,h3⟩
      · rw [hput]at hy hz
        by_cases e:y=nJ (zM d w g s)
        · by_cases e2:z=nJ (zM d w g s)
          · rw [e,e2]
          rw [if_pos e]at hy;rw [if_neg e2]at hz;have:=(h.val z v hz).1;have:=Option.some.inj hy;omega
        by_cases e2:z=nJ (zM d w g s)
        · rw [if_neg e]at hy
          rw [if_pos e2]at hz;have:=(h.val y v hy).1;have:=Option.some.inj hz;omega
        rw [if_neg e]at hy;rw [if_neg e2]at hz;exact h.inj y z v hy hz
      rw [hpn]at hv
      by_cases e:v=m.n
      · exact ⟨_,by rw [hput,if_pos rfl,e]⟩
      obtain ⟨y,hy⟩:=h.hit v (by omega);refine ⟨y,?_⟩;rw [hput,if_neg (λe=>by rw [e,hnone]at hy;cases hy)];exact hy
  obtain ⟨m',x',e,hK⟩:=key;refine ⟨m',x',?_,hK⟩;obtain ⟨r,e2,rfl⟩:=kV (step:=λq:ah×Nat=>XJ d l k g m x q.1 q.2) (λ(r:ah) c=>(r,c)) w (λc r=>r=gv g s::(List.range c).map λc=>gv g (nx d s c)) (λr=>r= .inl (m',x',k+1))
    (λc r hc hI=>by
      subst hI;have hx:okS d (nx d s c):=by rw [<-hse];exact hd.nx_ok hs hc
      obtain ⟨hx0,hx1⟩:=hx;have hx0':0<=nth (nth d.next s.toNat ([]:ah)) c (0:Int):=hx0;have hx1':nth (nth d.next s.toNat ([]:ah)) c (0:Int)<((d.next.length:Nat):Int):=hx1;refine .inl ⟨_,?_,rfl⟩;show XJ d l k g m x _ c=_;unfold XJ;rw [hlen,eH (by omega),hse,cu (by omega),cu (by simp only [List.length_cons,List.length_map,List.length_range,List.length_nil];omega),List.range_succ,List.map_append,List.map_singleton];rfl)
    (λr hI=>by
      subst hI;refine ⟨_,?_,rfl⟩;show XJ d l k g m x _ w=_;unfold XJ;rw [hlen,dM (by omega)];exact congrArg fin e)
    (s0:=[gv g s]) (by simp)
  rw [hse];exact e2
structure Round (d:Dfa) (w:Nat) (l g:ah) (n:Nat) (x:ah):Prop where
  len:x.length=d.next.length
  n1:n<=l.length
  rg: ∀s∈l,0<=gv x s/\gv x s<((n:Nat):Int)
  hit: ∀v:Nat,v<n-> ∃s∈l,gv x s=((v:Nat):Int)
  same: ∀s∈l, ∀t∈l,gv x s=gv x t->gv g s=gv g t/\ ∀c,c<w->gv g (nx d s c)=gv g (nx d t c)
  eqv: ∀s∈l, ∀t∈l,gv g s=gv g t->(∀c,c<w->gv g (nx d s c)=gv g (nx d t c))->gv x s=gv x t
omit hd hg in
theorem aae_(hgs: ∀s∈l,0<=gv g s/\gv g s<65536){m:FM T_1 Int}{x:ah}(h:KeyI d w g l l.length m x):Round d w l g m.n x:=by
  have hat:=h.at_;have hval:=h.val;rw [List.take_length]at hat hval;have sml: ∀s∈l,Sml (zM d w g s):=λs hs y hy=>by
    rcases List.mem_cons.1 hy with rfl|hy
    · exact hgs s hs
    obtain ⟨c,hc,rfl⟩:=List.mem_map.1 hy;exact hgs _ (hR.cl s hs c (List.mem_range.1 hc))
  refine ⟨h.len,h.n,λs hs=>(hval _ _ (hat s hs)).1,λv hv=> ?_,λs hs t ht e=> ?_,λs hs t ht e1 e2=> ?_⟩
  · obtain ⟨y,hy⟩:=h.hit v hv
    obtain ⟨-,s,hs,rfl⟩:=hval _ _ hy;rw [hat s hs]at hy;exact ⟨s,hs,Option.some.inj hy⟩
  · have e1:=n6_ (sml s hs) (sml t ht) (h.inj _ _ _ (hat s hs) (by rw [e];exact hat t ht))
    unfold zM at e1;rw [List.cons.injEq]at e1;refine ⟨e1.1,λc hc=> ?_⟩;exact List.map_inj_left.1 e1.2 c (List.mem_range.2 hc)
  have e:zM d w g s=zM d w g t:=by
    unfold zM;rw [e1,List.map_inj_left.2 λc hc=>e2 c (List.mem_range.1 hc)]
  have h1:=hat s hs;rw [e,hat t ht]at h1;exact (Option.some.inj h1).symm
theorem grp_b2{many:Nat}(hgs: ∀s∈l,0<=gv g s/\gv g s<65536):
    ∃n x,XI d l g many=iteO (decide (((n:Nat):Int)=((many:Nat):Int))) (some (.inr (x,((many:Nat):Int)))) (some (.inl (x,n)))/\Round d w l g n x:=by
  have hn2:=hd.n2;unfold XI;rw [cu (by omega)];obtain ⟨r,e,n,x,rfl,h⟩:=kV (step:=λq:(FM T_1 Int)×ah×Nat=>Bl_ l g d many q.1 q.2.1 q.2.2) (λ(s:(FM T_1 Int)×ah) k=>(s.1,s.2,k)) l.length (λk s=>KeyI d w g l k s.1 s.2)
    (λr=> ∃(n:Nat) (x:ah),r=(if ((n:Nat):Int)=((many:Nat):Int) then .inr (x,((many:Nat):Int)) else .inl (x,n))/\Round d w l g n x)
    (λk s hk hI=>by
      obtain ⟨m,x⟩:=s;have hs:=hR.ok _ (sH hk (0:Int));obtain ⟨h0,h1⟩:=hs;obtain ⟨m',x',e,hK⟩:=grp_b4 hd hR hg hk hI;refine .inl ⟨(m',x'),?_,hK⟩;show Bl_ l g d many m x k=_;unfold Bl_;rw [eH (by omega),cu (by omega),cu (by omega)];exact e)
    (λs hI=>by
      obtain ⟨m,x⟩:=s;refine ⟨_,?_,m.n,x,rfl,aae_ hR hgs hI⟩;show Bl_ l g d many m x l.length=_;unfold Bl_;rw [dM (by omega)]
      by_cases c:((m.n:Nat):Int)=((many:Nat):Int)
      · rw [eH c,if_pos c];rfl
      rw [dM c,if_neg c];rfl)
    (s0:=(FM.emp,List.replicate d.next.length 0)) ⟨oI,Nat.zero_le _,λs hs=>(by cases hs),λy v hy=>(by cases hy),λy z v hy=>(by cases hy),λv hv=>by cases hv⟩
  refine ⟨n,x,?_,h⟩;refine Eq.trans e ?_
  by_cases c:((n:Nat):Int)=((many:Nat):Int)
  · rw [eH c,if_pos c]
  rw [dM c,if_neg c]
end
theorem pigeon{n:Nat}(f:Nat->Nat)(h2: ∀v,v<n-> ∃i,i<n/\f i=v){i j:Nat}(hi:i<n)(hj:j<n)(e:f i=f j):i=j:=by
  apply Decidable.byContradiction;intro hne;have h:=h8_ (l:=List.range n) (m:=((List.range n).erase i).map f) List.nodup_range λv hv=>by
    obtain ⟨k,hk,rfl⟩:=h2 v (List.mem_range.1 hv)
    by_cases ek:k=i
    · subst ek
      exact List.mem_map.2 ⟨j,(List.mem_erase_of_ne (λq=>hne q.symm)).2 (List.mem_range.2 hj),e.symm⟩
    exact List.mem_map.2 ⟨k,(List.mem_erase_of_ne ek).2 (List.mem_range.2 hk),rfl⟩
  rw [List.length_map,List.length_range,List.length_erase_of_mem (List.mem_range.2 hi),List.length_range]at h;omega
structure Grps (d:Dfa) (w:Nat) (l g:ah) (n:Nat):Prop where
  len:g.length=d.next.length
  n1:n<=l.length
  rg: ∀s∈l,0<=gv g s/\gv g s<((n:Nat):Int)
  fin: ∀s∈l, ∀t∈l,gv g s=gv g t->nth d.fin s.toNat false=nth d.fin t.toNat false
  same: ∀s∈l, ∀t∈l,gv g s=gv g t-> ∀c,c<w->gv g (nx d s c)=gv g (nx d t c)
  like: ∀s∈l, ∀t∈l,lZ d s=lZ d t->gv g s=gv g t
structure GI (d:Dfa) (l g:ah) (n:Nat):Prop where
  len:g.length=d.next.length
  n1:n<=l.length
  rg: ∀s∈l,0<=gv g s/\gv g s<65536
  fin: ∀s∈l, ∀t∈l,gv g s=gv g t->nth d.fin s.toNat false=nth d.fin t.toNat false
  like: ∀s∈l, ∀t∈l,lZ d s=lZ d t->gv g s=gv g t
  full:n=0\/(∀s∈l,gv g s<((n:Nat):Int))/\ ∀v:Nat,v<n-> ∃s∈l,gv g s=((v:Nat):Int)
open Classical in
def oldN(l g x:ah)(i:Nat):Nat:=if h: ∃s,s∈l/\gv x s=((i:Nat):Int) then (gv g (Classical.choose h)).toNat else 0
theorem old_at{d:Dfa}{w:Nat}{l g x:ah}{n:Nat}(hgs: ∀s∈l,0<=gv g s)(h:Round d w l g n x){s:Int}(hs:s∈l):((oldN l g x (gv x s).toNat:Nat):Int)=gv g s:=by
  have h0:=(h.rg s hs).1;have hex: ∃t,t∈l/\gv x t=(((gv x s).toNat:Nat):Int):=⟨s,hs,by omega⟩;unfold oldN;rw [dif_pos hex];obtain ⟨h1,h2⟩:=Classical.choose_spec hex;have h3:=(h.same _ h1 s hs (by omega)).1;have h4:=hgs _ h1;omega
theorem se_ {d : Dfa} {w : Nat} (hd : DR d w) {l : ah} (hR : Reached d w l) : ∃ g n, Fr_ d l = some (g, ((n : Nat) : Int)) /\ Grps d w l g n := by
  have hn2:=hd.n2;have hll:l.length<=d.next.length:=qf_ hR.nd hR.ok;have hpos:0<l.length:=List.length_pos_of_mem hR.zero;unfold Fr_;rw [cu (by omega)];have outer: ∀g:ah,GI d l g 0-> ∃r,iter (λq:ah×Nat=>XI d l q.1 q.2) (g,0)=some r/\ ∃g n,r=(g,((n:Nat):Int))/\Grps d w l g n:=λg hg=>by
    refine Rh (step:=λq:ah×Nat=>XI d l q.1 q.2) (λs=>GI d l s.1 s.2) (λr=> ∃g n,r=(g,((n:Nat):Int))/\Grps d w l g n) (λs=>l.length+1 - s.2) (λs hI=> ?_) (g,0) hg;obtain ⟨g,many⟩:=s;have hlen:g.length=d.next.length:=hI.len;have hmany:many<=l.length:=hI.n1;have hrg: ∀s∈l,0<=gv g s/\gv g s<65536:=hI.rg;have hfin:=hI.fin;have hfull:=hI.full;have hlike:=hI.like;dsimp only at hfin hfull hlike;obtain ⟨n,x,e,hr⟩:=grp_b2 hd hR hlen (many:=many) hrg;have hold:=λs (hs:s∈l)=>old_at (λs hs=>(hrg s hs).1) hr hs;have hn0:0<n:=by
      have:=hr.rg 0 hR.zero;omega
    have hsurj: ∀v,v<many-> ∃i,i<n/\oldN l g x i=v:=λv hv=>by
      rcases hfull with h|⟨-,h⟩
      · omega
      obtain ⟨s,hs,h1⟩:=h v hv;have h2:=hold s hs;have h3:=hr.rg s hs;exact ⟨(gv x s).toNat,by omega,by omega⟩
    have hge:many<=n:=by
      have h:=h8_ (l:=List.range many) (m:=(List.range n).map (oldN l g x)) List.nodup_range λv hv=>by
        obtain ⟨i,hi,h1⟩:=hsurj v (List.mem_range.1 hv);exact List.mem_map.2 ⟨i,List.mem_range.2 hi,h1⟩
      rwa [List.length_map,List.length_range,List.length_range]at h
    show (∃s',XI d l g many=_/\_)\/ ∃r,XI d l g many=_/\_;rw [e];have hlk: ∀s∈l, ∀t∈l,lZ d s=lZ d t->gv x s=gv x t:=λs hs t ht e=>hr.eqv s hs t ht (hlike s hs t ht e) λc hc=>hlike _ (hR.cl s hs c hc) _ (hR.cl t ht c hc) (lan_nx hd e hc)
    by_cases c:((n:Nat):Int)=((many:Nat):Int)
    · have hnm:n=many:=by omega
      subst hnm;rw [eH c];refine .inr ⟨_,rfl,x,n,rfl,hr.len,hr.n1,hr.rg,λs hs t ht e=>hfin s hs t ht (hr.same s hs t ht e).1,λs hs t ht e c hc=> ?_,hlk⟩;have h1:=(hr.same s hs t ht e).2 c hc;have ms:=hR.cl s hs c hc;have mt:=hR.cl t ht c hc;have h2:=hold _ ms;have h3:=hold _ mt;have r1:=hr.rg _ ms;have r2:=hr.rg _ mt;have h4:=pigeon (oldN l g x) hsurj (i:=(gv x (nx d s c)).toNat) (j:=(gv x (nx d t c)).toNat) (by omega) (by omega) (by omega);omega
    rw [dM c];refine .inl ⟨(x,n),rfl,⟨hr.len,hr.n1,λs hs=> ?_,λs hs t ht e=>hfin s hs t ht (hr.same s hs t ht e).1,hlk,.inr ⟨λs hs=>(hr.rg s hs).2,hr.hit⟩⟩,?_⟩
    · have h1:=hr.rg s hs
      have h2:=hr.n1;show 0<=gv x s/\gv x s<65536;omega
    show l.length+1 - n<l.length+1 - many;have:=hr.n1;omega
  obtain ⟨r,e,g,n,rfl,h⟩:=kV (step:=λq:ah×Nat=>Bm_ l d q.1 q.2) (λ(g:ah) k=>(g,k)) l.length (λk g=>g.length=d.next.length/\(∀s∈l.take k,gv g s=if nth d.fin s.toNat false=true then 1 else 0)/\ ∀s,okS d s->s∉l.take k->gv g s=0)
    (λr=> ∃g n,r=(g,((n:Nat):Int))/\Grps d w l g n)
    (λk g hk hI=>by
      obtain ⟨h1,h2,h3⟩:=hI;have hs:=hR.ok _ (sH hk (0:Int));obtain ⟨s,hse⟩: ∃s,nth l k (0:Int)=s:=⟨_,rfl⟩;rw [hse]at hs;have hs':=hs;obtain ⟨h4,h5⟩:=hs';have hf:=hd.fin;show (∃s',Bm_ l d g k=_/\_)\/_;unfold Bm_ Dl_;rw [eH (by omega),hse,cu (by omega),qh l hk (0:Int),hse];cases hh:nth d.fin s.toNat false with
      |true=>
        rw [iteO_true,cu (by omega)];refine .inl ⟨_,rfl,by rw [fV];exact h1,λt ht=> ?_,λt ht hn=> ?_⟩
        · have ht0:0<=t:=by
            rcases List.mem_append.1 ht with ht|ht
            · exact (hR.ok t (List.mem_of_mem_take ht)).1
            rw [List.mem_singleton.1 ht];exact h4
          rw [pl_ ⟨h4,by omega⟩ ht0]
          by_cases e:t=s
          · rw [if_pos e,e,hh,if_pos rfl]
          rw [if_neg e];rcases List.mem_append.1 ht with ht|ht
          · exact h2 t ht
          exact absurd (List.mem_singleton.1 ht) e
        rw [pl_ ⟨h4,by omega⟩ ht.1,if_neg (λe=>hn (List.mem_append_right _ (List.mem_singleton.2 e)))];exact h3 t ht λq=>hn (List.mem_append_left _ q)
      |false=>
        rw [iteO_false];refine .inl ⟨g,rfl,h1,λt ht=> ?_,λt ht hn=>h3 t ht λq=>hn (List.mem_append_left _ q)⟩;rcases List.mem_append.1 ht with ht|ht
        · exact h2 t ht
        rw [List.mem_singleton.1 ht,hh,if_neg (by simp)]
        by_cases hm:s∈l.take k
        · have:=h2 s hm
          rw [hh,if_neg (by simp)]at this;exact this
        exact h3 s hs hm)
    (λg hI=>by
      obtain ⟨h1,h2,h3⟩:=hI;rw [List.take_length]at h2;obtain ⟨r,e,h⟩:=outer g ⟨h1,Nat.zero_le _,λs hs=>by rw [h2 s hs];split<;>omega,λs hs t ht e=>by
        rw [h2 s hs,h2 t ht]at e;cases a:nth d.fin s.toNat false<;>cases b:nth d.fin t.toNat false<;>rw [a,b]at e<;>simp at e ⊢,λs hs t ht e=>by
        have h1:nth d.fin s.toNat false=nth d.fin t.toNat false:=congrFun e [];rw [h2 s hs,h2 t ht,h1],.inl rfl⟩
      refine ⟨r,?_,h⟩;show Bm_ l d g l.length=_;unfold Bm_;rw [dM (by omega),e];rfl)
    (s0:=List.replicate d.next.length 0) ⟨oI,λs hs=>(by cases hs),λs hs hn=>by unfold gv;exact qt_ _ _ _⟩
  exact ⟨g,n,e,h⟩
end Go.Proofs.YtcfgkcfcddfccaaGreatDoor
end

noncomputable section
namespace Go.Proofs.YtcfgkcfcddfccaaGreatDoor
open Go Go.E
def zL(R:aO)(c:Nat):ah:=R.map λr=>nth r c (0:Int)
structure ColI (R:aO) (c:Nat) (merged kept:ah) (m:FM T_1 Int):Prop where
  lenM:merged.length=c
  cnt:jX merged=some kept.length
  n:m.n=kept.length
  nk:kept.length<=c
  kp: ∀j,j<kept.length-> ∃e:Nat,nth kept j (0:Int)=((e:Nat):Int)/\e<c/\m.f (nJ (zL R e))=some ((j:Nat):Int)
  at_: ∀e,e<c-> ∃j:Nat,j<kept.length/\nth merged e (0:Int)=((j:Nat):Int)/\m.f (nJ (zL R e))=some ((j:Nat):Int)
  val: ∀y v,m.f y=some v-> ∃j:Nat,j<kept.length/\v=((j:Nat):Int)
  inj: ∀y z v,m.f y=some v->m.f z=some v->y=z
theorem nthA{l:ah}{x:Int}{j:Nat}(h:j<l.length):nth (l++[x]) j (0:Int)=nth l j (0:Int):=yx _ _ _ _ h
theorem col_step {R : aO} {w c : Nat} (hc : c < w) (hw : w <= 256) {merged kept : ah} {m : FM T_1 Int} (h : ColI R c merged kept m) :
    ∃merged' kept' m',iteO (!(m.has (nJ (zL R c)))) (grd ((kept.length+[((c:Nat):Int)].length) * 8<=140737488355328) (XC merged c (kept++[((c:Nat):Int)]) (m.put (nJ (zL R c)) ((m.n:Nat):Int)) ((m.n:Nat):Int))) (XC merged c kept m (m.get (nJ (zL R c)) 0))=some (.inl (merged',kept',m',c+1))/\ColI R (c+1) merged' kept' m':=by
  have hnk:=h.nk;have hM:=h.lenM;have hn:=h.n;cases hh:m.has (nJ (zL R c))with
  |true=>
    obtain ⟨v,hv⟩: ∃v,m.f (nJ (zL R c))=some v:=by
      unfold FM.has at hh;exact Option.isSome_iff_exists.1 hh
    obtain ⟨j,hj,rfl⟩:=h.val _ _ hv;have hget:m.get (nJ (zL R c)) 0=((j:Nat):Int):=by unfold FM.get;rw [hv];rfl
    rw [Bool.not_true,iteO_false,hget];unfold XC;rw [cu (by rw [jm];omega)];refine ⟨_,_,_,rfl,by rw [iK,jm];omega,?_,hn,by omega,λi hi=> ?_,λe he=> ?_,h.val,h.inj⟩
    · rw [IC,h.cnt]
      unfold uX;rw [Option.bind_some,if_neg (by omega),if_neg (by omega)]
    · obtain ⟨e,h1,h2,h3⟩:=h.kp i hi
      exact ⟨e,h1,by omega,h3⟩
    by_cases ec:e=c
    · subst ec
      exact ⟨j,hj,by rw [<-hM];exact zS _ _ _,hv⟩
    obtain ⟨i,h1,h2,h3⟩:=h.at_ e (by omega);exact ⟨i,h1,by rw [nthA (by omega)];exact h2,h3⟩
  |false=>
    have hnone:m.f (nJ (zL R c))=none:=by
      unfold FM.has at hh;cases e:m.f (nJ (zL R c))with
      |none=>rfl
      |some v=>rw [e]at hh;cases hh
    have hput: ∀y,(m.put (nJ (zL R c)) ((m.n:Nat):Int)).f y=if y=nJ (zL R c) then some ((m.n:Nat):Int) else m.f y:=λy=>rfl;have hpn:(m.put (nJ (zL R c)) ((m.n:Nat):Int)).n=m.n+1:=by
      show (if (m.f (nJ (zL R c))).isSome then m.n else m.n+1)=_;rw [hnone];rfl
    have hlen:(kept++[((c:Nat):Int)]).length=kept.length+1:=by rw [iK,jm]
    have hold: ∀y v,m.f y=some v->y≠nJ (zL R c):=λy v hy e=>by rw [e,hnone]at hy;cases hy
    rw [Bool.not_false,iteO_true,cu (by rw [jm];omega)];unfold XC;rw [cu (by rw [jm];omega)];refine ⟨_,_,_,rfl,by rw [iK,jm];omega,?_,by rw [hpn,hlen,hn],by rw [hlen];omega,λi hi=> ?_,λe he=> ?_,λy v hy=> ?_,λy z v hy hz=> ?_⟩
    · rw [IC,h.cnt,hlen]
      unfold uX;rw [Option.bind_some,if_neg (by omega),if_pos (by omega)]
    · rw [hlen]at hi
      by_cases ei:i=kept.length
      · subst ei
        exact ⟨c,zS _ _ _,by omega,by rw [hput,if_pos rfl,hn]⟩
      obtain ⟨e,h1,h2,h3⟩:=h.kp i (by omega);exact ⟨e,by rw [nthA (by omega)];exact h1,by omega,by rw [hput,if_neg (hold _ _ h3)];exact h3⟩
    · by_cases ec:e=c
      · subst ec
        exact ⟨kept.length,by omega,by rw [<-hn,<-hM];exact zS _ _ _,by rw [hput,if_pos rfl,hn]⟩
      obtain ⟨i,h1,h2,h3⟩:=h.at_ e (by omega);exact ⟨i,by omega,by rw [nthA (by omega)];exact h2,by rw [hput,if_neg (hold _ _ h3)];exact h3⟩
    · rw [hput]at hy
      by_cases e:y=nJ (zL R c)
      · rw [if_pos e]at hy
        exact ⟨m.n,by omega,(Option.some.inj hy).symm⟩
      rw [if_neg e]at hy;obtain ⟨j,h1,h2⟩:=h.val y v hy;exact ⟨j,by omega,h2⟩
    rw [hput]at hy hz
    by_cases e:y=nJ (zL R c)
    · by_cases e2:z=nJ (zL R c)
      · rw [e,e2]
      rw [if_pos e]at hy;rw [if_neg e2]at hz;obtain ⟨j,h1,h2⟩:=h.val z v hz;have:=Option.some.inj hy;omega
    by_cases e2:z=nJ (zL R c)
    · rw [if_neg e]at hy
      rw [if_pos e2]at hz;obtain ⟨j,h1,h2⟩:=h.val y v hy;have:=Option.some.inj hz;omega
    rw [if_neg e]at hy;rw [if_neg e2]at hz;exact h.inj y z v hy hz
structure Cols (R:aO) (w:Nat) (v:ah×ah):Prop where
  len:v.1.length=w
  cnt:jX v.1=some v.2.length
  nk:v.2.length<=w
  kp: ∀j,j<v.2.length-> ∃e:Nat,nth v.2 j (0:Int)=((e:Nat):Int)/\e<w
  at_: ∀e,e<w-> ∃j f:Nat,j<v.2.length/\nth v.1 e (0:Int)=((j:Nat):Int)/\nth v.2 j (0:Int)=((f:Nat):Int)/\f<w/\ ∀r∈R,nth r f (0:Int)=nth r e (0:Int)
  eq_: ∀e f,e<w->f<w->(∀r∈R,nth r e (0:Int)=nth r f (0:Int))->nth v.1 e (0:Int)=nth v.1 f (0:Int)
theorem ww_ {R : aO} {w : Nat} (hw : w <= 256) (h0 : 0 < R.length) (hl : R.length <= 100000) (hR : ∀ r ∈ R, r.length = w /\ ∀ c, c < w -> 0 <= nth r c (0 : Int) /\ nth r c (0 : Int) < 65536) : ∃ v, E2_ R = some v /\ Cols R w v := by
  unfold E2_;rw [cu h0];have hfirst:=(hR _ (sH h0 ([]:ah))).1;refine kV (step:=λq:ah×ah×(FM T_1 Int)×Nat=>Bb_ R q.1 q.2.1 q.2.2.1 q.2.2.2) (λ(s:ah×ah×FM T_1 Int) c=>(s.1,s.2.1,s.2.2,c)) w (λc s=>ColI R c s.1 s.2.1 s.2.2) _ (λc s hc hI=> ?_) (λs hI=> ?_) (s0:=([],[],FM.emp)) ⟨rfl,rfl,rfl,Nat.le_refl _,λj hj=>(by cases hj),λe he=>by omega,λy v hy=>(by cases hy),λy z v hy=>by cases hy⟩
  · obtain ⟨merged,kept,m⟩:=s
    obtain ⟨merged',kept',m',e,hC⟩:=col_step hc hw hI;refine .inl ⟨(merged',kept',m'),?_,hC⟩;show Bb_ R merged kept m c=_;unfold Bb_;rw [hfirst,eH (by omega)];obtain ⟨r,e2,rfl⟩:=kV (step:=λq:ah×Nat=>Ba_ R c m kept merged q.1 q.2) (λ(x:ah) k=>(x,k)) R.length (λk x=>x=(R.take k).map λr=>nth r c (0:Int)) (λr=>r= .inl (merged',kept',m',c+1))
      (λk x hk hI=>by
        subst hI;have h1:=(hR _ (sH hk ([]:ah))).1;refine .inl ⟨_,?_,rfl⟩;show Ba_ R c m kept merged _ k=_;unfold Ba_;rw [eH (by omega),cu (by omega),cu (by simp only [List.length_map,List.length_take,jm];omega),qh _ hk ([]:ah),List.map_append,List.map_singleton];rfl)
      (λx hI=>by
        subst hI;refine ⟨_,?_,rfl⟩;show Ba_ R c m kept merged _ R.length=_;unfold Ba_;rw [dM (by omega),List.take_length,xk_ (by rw [List.length_map];omega),kT];exact congrArg fin e)
      (s0:=[]) (by simp)
    exact e2
  obtain ⟨merged,kept,m⟩:=s;have hC:ColI R w merged kept m:=hI;refine ⟨(merged,kept),?_,hC.lenM,hC.cnt,hC.nk,λj hj=> ?_,λe he=> ?_,λe f he hf hx=> ?_⟩
  · show Bb_ R merged kept m w=_
    unfold Bb_;rw [hfirst,dM (by omega)];rfl
  · obtain ⟨e,h1,h2, -⟩:=hC.kp j hj
    exact ⟨e,h1,h2⟩
  · obtain ⟨j,h1,h2,h3⟩:=hC.at_ e he
    obtain ⟨f,h4,h5,h6⟩:=hC.kp j h1;refine ⟨j,f,h1,h2,h4,h5,?_⟩;have sml: ∀c,c<w->Sml (zL R c):=λc hc y hy=>by
      obtain ⟨r,hr,rfl⟩:=List.mem_map.1 hy;exact (hR r hr).2 c hc
    have h7:=n6_ (sml f h5) (sml e he) (hC.inj _ _ _ h6 h3);exact List.map_inj_left.1 h7
  obtain ⟨j, -,h2,h3⟩:=hC.at_ e he;obtain ⟨i, -,h5,h6⟩:=hC.at_ f hf;rw [show zL R e=zL R f from List.map_inj_left.2 hx,h6]at h3;rw [h2,h5,Option.some.inj h3]
structure SI (d:Dfa) (l g:ah) (n:Nat) (place states:ah):Prop where
  len:place.length=n
  st: ∀j,j<states.length->nth states j (0:Int)∈l/\nth place (gv g (nth states j (0:Int))).toNat (0:Int)=((j:Nat):Int)
  pl: ∀v:Nat,v<n->nth place v (0:Int)= -1\/ ∃j:Nat,j<states.length/\nth place v (0:Int)=((j:Nat):Int)/\gv g (nth states j (0:Int))=((v:Nat):Int)
  zero:0<states.length/\nth states 0 (0:Int)=0
section
variable {d:Dfa} {w:Nat} (hd:DR d w) {l:ah} (hR:Reached d w l) {g:ah} {n:Nat} (hG:Grps d w l g n)
include hd hR hG
omit hd hR in
theorem SI.le{place states:ah}(h:SI d l g n place states):states.length<=n:=by
  have h1:=h8_ (l:=List.range states.length) (m:=(List.range n).map λv=>(nth place v (0:Int)).toNat) List.nodup_range λj hj=>by
    obtain ⟨h1,h2⟩:=h.st j (List.mem_range.1 hj);have h3:=hG.rg _ h1;exact List.mem_map.2 ⟨(gv g (nth states j (0:Int))).toNat,List.mem_range.2 (by omega),by rw [h2,nI]⟩
  rwa [List.length_map,List.length_range,List.length_range]at h1
def Ud(d:Dfa)(w:Nat)(g states:ah)(s:Int)(row:ah):Prop:=row.length=w/\ ∀c,c<w-> ∃j:Nat,j<states.length/\nth row c (0:Int)=((j:Nat):Int)/\gv g (nth states j (0:Int))=gv g (nx d s c)
omit hd hR hG in
theorem Ud.mono{states states':ah}{s:Int}{row:ah}(h:Ud d w g states s row)(hp:states <+: states'):Ud d w g states' s row:=by
  refine ⟨h.1,λc hc=> ?_⟩;obtain ⟨j,h1,h2,h3⟩:=h.2 c hc;have:=hp.length_le;exact ⟨j,by omega,h2,by rw [nthP hp h1];exact h3⟩
theorem small_b3 {place states : ah} {k : Nat} (hk : k < states.length) (h : SI d l g n place states) (rows : aO) (hrl : rows.length <= 100000) (hF : jX ((0 : Int) :: rows.flatten) = some states.length) :
    ∃place' states' row,iter (λq:ah×ah×ah×Nat=>P6 d states k g rows q.1 q.2.1 q.2.2.1 q.2.2.2) (place,states,[],0)=some (.inl (place',states',rows++[row],k+1))/\SI d l g n place' states'/\states <+: states'/\Ud d w g states' (nth states k (0:Int)) row/\jX ((0:Int)::rows.flatten++row)=some states'.length:=by
  obtain ⟨hsl, -⟩:=h.st k hk;have hs:=hR.ok _ hsl;have hlen:=hd.len hs;have hgl:=hG.len;have hn1:=hG.n1;have hll:l.length<=d.next.length:=qf_ hR.nd hR.ok;have hn2:=hd.n2;have hw:=hd.XR;obtain ⟨r,e,place',states',row,rfl,h1,h2,h3,h4⟩:=kV (step:=λq:ah×ah×ah×Nat=>P6 d states k g rows q.1 q.2.1 q.2.2.1 q.2.2.2) (λ(s:ah×ah×ah) c=>(s.1,s.2.1,s.2.2,c)) w
    (λc s=>SI d l g n s.1 s.2.1/\states <+: s.2.1/\s.2.2.length=c/\jX ((0:Int)::rows.flatten++s.2.2)=some s.2.1.length/\ ∀i,i<c-> ∃j:Nat,j<s.2.1.length/\nth s.2.2 i (0:Int)=((j:Nat):Int)/\gv g (nth s.2.1 j (0:Int))=gv g (nx d (nth states k (0:Int)) i))
    (λr=> ∃place' states' row,r= .inl (place',states',rows++[row],k+1)/\SI d l g n place' states'/\states <+: states'/\Ud d w g states' (nth states k (0:Int)) row/\jX ((0:Int)::rows.flatten++row)=some states'.length)
    (λc s hc hI=>by
      obtain ⟨p,st,row⟩:=s;obtain ⟨hS,hP,hL,hCt,hM⟩:=hI;dsimp only at hS hP hL hCt hM;have htl:=hR.cl _ hsl c hc;have ht:=hR.ok _ htl;have hg:=hG.rg _ htl;have hpl:=hS.len;have hle:=SI.le hG hS;obtain ⟨t,hte⟩: ∃t,nth (nth d.next ((nth states k (0:Int)).toNat) ([]:ah)) c (0:Int)=t:=⟨_,rfl⟩;have hte':nx d (nth states k (0:Int)) c=t:=hte;rw [hte']at htl ht hg;obtain ⟨ht0,ht1⟩:=ht;obtain ⟨v,hv⟩: ∃v:Nat,gv g t=((v:Nat):Int):=⟨(gv g t).toNat,by omega⟩;have hv':nth g t.toNat (0:Int)=((v:Nat):Int):=hv;rw [hv]at hg;have j1: ∀p' st',SI d l g n p' st'->states <+: st'->st <+: st'->(∃j:Nat,j<st'.length/\nth p' v (0:Int)=((j:Nat):Int)/\gv g (nth st' j (0:Int))=((v:Nat):Int)/\uX (some st.length) ((j:Nat):Int)=some st'.length)->
          ∃s':ah×ah×ah,Cx_ d states k c g row p' st'=some (.inl (s'.1,s'.2.1,s'.2.2,c+1))/\SI d l g n s'.1 s'.2.1/\states <+: s'.2.1/\s'.2.2.length=c+1/\jX ((0:Int)::rows.flatten++s'.2.2)=some s'.2.1.length/\ ∀i,i<c+1-> ∃j:Nat,j<s'.2.1.length/\nth s'.2.2 i (0:Int)=((j:Nat):Int)/\gv g (nth s'.2.1 j (0:Int))=gv g (nx d (nth states k (0:Int)) i):=by
        intro p' st' hS' hP' hQ' hj;obtain ⟨j,h4,h5,h6,h6b⟩:=hj;have hpl':=hS'.len;have hle':=hQ'.length_le;unfold Cx_;rw [hte,cu ⟨ht0,by omega⟩,hv',cu (by omega),cu (by rw [jm];omega),nI,h5];refine ⟨(p',st',row++[((j:Nat):Int)]),rfl,hS',hP',by show (row++[_]).length=_;rw [iK,jm];omega,by show jX ((0:Int)::rows.flatten++(row++[_]))=_;rw [<-Gf,IC,hCt];exact h6b,λi hi=> ?_⟩;show ∃q:Nat,q<st'.length/\nth (row++[((j:Nat):Int)]) i (0:Int)=((q:Nat):Int)/\gv g (nth st' q (0:Int))=_
        by_cases e:i=c
        · subst e
          exact ⟨j,h4,by rw [<-hL];exact zS _ _ _,by rw [hte',h6,hv]⟩
        obtain ⟨q,h7,h8,h9⟩:=hM i (by omega);exact ⟨q,by omega,by rw [nthA (by omega)];exact h8,by rw [nthP hQ' h7];exact h9⟩
      show (∃s',P6 d states k g rows p st row c=_/\_)\/_;left;unfold P6;rw [hlen,eH (by omega),hte,cu ⟨ht0,by omega⟩,hv',cu (by omega),nI];rcases hS.pl v (by omega)with h4|h4
      · rw [eH (by omega),cu ⟨ht0,by omega⟩,cu (by omega),cu (by rw [jm];omega)]
        have hlen2:(st++[t]).length=st.length+1:=by rw [iK,jm]
        have hnot: ∀j,j<st.length->(gv g (nth st j (0:Int))).toNat≠v:=λj hj e=>by
          have:=(hS.st j hj).2;rw [e,h4]at this;omega
        refine j1 _ _ ⟨by rw [fV];exact hpl,λj hj=> ?_,λu hu=> ?_,by omega,by rw [nthA hS.zero.1];exact hS.zero.2⟩ (hP.trans (List.prefix_append _ _)) (List.prefix_append _ _) ⟨st.length,by omega,?_,?_,?_⟩
        · rw [hlen2]at hj
          by_cases e:j=st.length
          · subst e
            rw [zS,hv,nI,Af,if_pos ⟨rfl,by omega⟩];exact ⟨htl,rfl⟩
          rw [nthA (by omega),Af,if_neg (λq=>hnot j (by omega) q.1.symm)];exact hS.st j (by omega)
        · rw [Af,hlen2]
          by_cases e:v=u
          · subst e
            rw [if_pos ⟨rfl,by omega⟩];exact .inr ⟨st.length,by omega,rfl,by rw [zS,hv]⟩
          rw [if_neg (λq=>e q.1)];refine (hS.pl u hu).imp id λ⟨j,h5,h6,h7⟩=>⟨j,by omega,h6,by rw [nthA h5];exact h7⟩
        · rw [Af,if_pos ⟨rfl,by omega⟩]
        · rw [zS,hv]
        unfold uX;rw [Option.bind_some,if_neg (by omega),if_pos rfl,hlen2]
      obtain ⟨j,h5,h6,h7⟩:=h4;rw [dM (by omega)];exact j1 _ _ hS hP (List.prefix_refl _) ⟨j,h5,h6,h7,by unfold uX;rw [Option.bind_some,if_neg (by omega),if_neg (by omega)]⟩)
    (λs hI=>by
      obtain ⟨p,st,row⟩:=s;obtain ⟨hS,hP,hL,hCt,hM⟩:=hI;dsimp only at hS hP hL hCt hM;refine ⟨.inl (p,st,rows++[row],k+1),?_,p,st,row,rfl,hS,hP,⟨hL,hM⟩,hCt⟩;show P6 d states k g rows p st row w=_;unfold P6;rw [hlen,dM (by omega),cu (by rw [jm];omega)];rfl)
    (s0:=(place,states,[])) ⟨h,List.prefix_refl _,rfl,(by show jX ((0:Int)::rows.flatten++[])=_;rw [List.append_nil];exact hF),λi hi=>by omega⟩
  exact ⟨place',states',row,e,h1,h2,h3,h4⟩
def zV(d:Dfa)(states:ah)(rows:aO)(v:ah×ah):Dfa:=
  ⟨d.cls.map λc=>nth v.1 c.toNat (0:Int),rows.map λr=>v.2.map λe=>nth r e.toNat (0:Int),states.map λs=>nth d.fin s.toNat false⟩
structure AllR (d:Dfa) (w:Nat) (l g:ah) (n:Nat) (states:ah) (rows:aO):Prop where
  si: ∃place,SI d l g n place states
  len:rows.length=states.length
  row: ∀k,k<states.length->Ud d w g states (nth states k (0:Int)) (nth rows k ([]:ah))
  fc:jX ((0:Int)::rows.flatten)=some states.length
  cm: ∀k,k<states.length-> ∃m,jX ((0:Int)::(rows.take k).flatten)=some m/\k<m
omit hd hR hG in
theorem small_b5 {states : ah} {rows : aO} {v : ah × ah} (hl : rows.length = states.length) (hs : ∀ s ∈ states, 0 <= s /\ s < (d.fin.length : Int)) (hsl : states.length <= 100000) (hv : v.2.length <= 256) (hw : w <= 256) (hkp : ∀ j, j < v.2.length -> ∃ e : Nat, nth v.2 j (0 : Int) = ((e : Nat) : Int) /\ e < w) (hrow : ∀ r ∈ rows, r.length = w) (cls : ah) :
    iter (λq:aO×B_1×Nat=>P5 states v rows d cls q.1 q.2.1 q.2.2) ([],[],0)=some ⟨cls,rows.map λr=>v.2.map λe=>nth r e.toNat (0:Int),states.map λs=>nth d.fin s.toNat false⟩:=by
  obtain ⟨r,e,rfl⟩:=kV (step:=λq:aO×B_1×Nat=>P5 states v rows d cls q.1 q.2.1 q.2.2) (λ(s:aO×B_1) k=>(s.1,s.2,k)) states.length
    (λk s=>s=((rows.take k).map (λr=>v.2.map λe=>nth r e.toNat (0:Int)),(states.take k).map λs=>nth d.fin s.toNat false)) (λr=>r=⟨cls,rows.map λr=>v.2.map λe=>nth r e.toNat (0:Int),states.map λs=>nth d.fin s.toNat false⟩)
    (λk s hk hI=>by
      subst hI;have hk2:k<rows.length:=by omega
      have hst:=hs _ (sH hk (0:Int));have hrl:=hrow _ (sH hk2 ([]:ah));refine .inl ⟨_,?_,rfl⟩;show P5 states v rows d cls _ _ k=_;unfold P5;rw [eH (by omega),cu (by omega)];obtain ⟨r,e,rfl⟩:=kV (step:=λq:ah×Nat=>Ti v k rows ((rows.take k).map (λr=>v.2.map λe=>nth r e.toNat (0:Int))) states d ((states.take k).map λs=>nth d.fin s.toNat false) q.1 q.2) (λ(x:ah) j=>(x,j)) v.2.length
        (λj x=>x.length=v.2.length/\ ∀i,i<j->nth x i (0:Int)=nth (nth rows k ([]:ah)) (nth v.2 i (0:Int)).toNat (0:Int))
        (λr=>r= .inl ((rows.take (k+1)).map (λr=>v.2.map λe=>nth r e.toNat (0:Int)),(states.take (k+1)).map (λs=>nth d.fin s.toNat false),k+1))
        (λj x hj hI=>by
          obtain ⟨h1,h2⟩:=hI;obtain ⟨e,h3,h4⟩:=hkp j hj;refine .inl ⟨x.set j (nth (nth rows k ([]:ah)) (nth v.2 j (0:Int)).toNat (0:Int)),?_,by rw [fV];exact h1,λi hi=> ?_⟩
          · show Ti v k rows _ states d _ x j=_
            unfold Ti;rw [eH (by omega),cu hk2,cu (by omega),cu (by omega)];rfl
          rw [Af]
          by_cases e:j=i
          · subst e;rw [if_pos ⟨rfl,by omega⟩]
          rw [if_neg (λq=>e q.1)];exact h2 i (by omega))
        (λx hI=>by
          obtain ⟨h1,h2⟩:=hI;have hx:x=v.2.map λe=>nth (nth rows k ([]:ah)) e.toNat (0:Int):=Yx (0:Int) (by rw [List.length_map];exact h1) λi hi=>by
            rw [h2 i (by omega),I_ _ _ _ (0:Int) (0:Int) (by omega)]
          refine ⟨_,?_,rfl⟩;show Ti v k rows _ states d _ x v.2.length=_;unfold Ti;rw [dM (by omega),cu (by simp only [List.length_map,List.length_take,jm];omega),cu hst,cu (by simp only [List.length_map,List.length_take,jm];omega),qh rows hk2 ([]:ah),qh states hk (0:Int),List.map_append,List.map_append,List.map_singleton,List.map_singleton,hx];rfl)
        (s0:=List.replicate v.2.length 0) ⟨oI,λi hi=>by omega⟩
      exact e)
    (λs hI=>by
      subst hI;refine ⟨_,?_,rfl⟩;show P5 states v rows d cls _ _ states.length=_;unfold P5;rw [dM (by omega),List.take_length,List.take_of_length_le (by omega)];rfl)
    (s0:=([],[])) (by simp)
  exact e
theorem uq_ : ∃ states rows v, Hj_ d g ((n : Nat) : Int) = some (zV d states rows v) /\ AllR d w l g n states rows /\ Cols rows w v := by
  have hgl:=hG.len;have hn1:=hG.n1;have hll:l.length<=d.next.length:=qf_ hR.nd hR.ok;have hd2:=hd.n2;have hd1:=hd.n1;have hw:=hd.XR;have hcl:=hd.cl;have hf:=hd.fin;have hg0:=hG.rg 0 hR.zero;have hg0':0<=nth g 0 (0:Int)/\nth g 0 (0:Int)<((n:Nat):Int):=hg0;unfold Hj_;rw [cu (by omega),nI];have Aa: ∀place:ah,SI d l g n place [0]-> ∃r,iter (λq:ah×ah×aO×Nat=>Tn d g q.1 q.2.1 q.2.2.1 q.2.2.2) (place,[0],[],0)=some r/\ ∃states rows v,r=zV d states rows v/\AllR d w l g n states rows/\Cols rows w v:=λplace hp=>by
    refine Rh (step:=λq:ah×ah×aO×Nat=>Tn d g q.1 q.2.1 q.2.2.1 q.2.2.2) (λs=>SI d l g n s.1 s.2.1/\s.2.2.1.length=s.2.2.2/\s.2.2.2<=s.2.1.length/\jX ((0:Int)::s.2.2.1.flatten)=some s.2.1.length/\(∀k,k<s.2.2.2-> ∃m,jX ((0:Int)::(s.2.2.1.take k).flatten)=some m/\k<m)/\ ∀i,i<s.2.2.2->Ud d w g s.2.1 (nth s.2.1 i (0:Int)) (nth s.2.2.1 i ([]:ah)))
      (λr=> ∃states rows v,r=zV d states rows v/\AllR d w l g n states rows/\Cols rows w v) (λs=>5000 - s.2.2.2) (λs hI=> ?_) (place,[0],[],0) ⟨hp,rfl,Nat.zero_le _,rfl,λi hi=>(by cases hi),λi hi=>by cases hi⟩
    obtain ⟨p,st,rows,k⟩:=s;obtain ⟨hS,hL,hK,hF,hT,hM⟩:=hI;dsimp only at hS hL hK hF hT hM;have hle:=SI.le hG hS;show (∃s',Tn d g p st rows k=_/\_)\/ ∃r,Tn d g p st rows k=_/\_;unfold Tn
    by_cases hk:k<st.length
    · have hs:=hR.ok _ (hS.st k hk).1
      obtain ⟨p',st',row,e,hS',hP',hW,hF'⟩:=small_b3 hd hR hG hk hS rows (by omega) hF;have hle':=hP'.length_le;rw [eH (by omega),cu (by exact hs),e];refine .inl ⟨_,rfl,⟨hS',?_,?_,?_,λi hi=> ?_,λi hi=> ?_⟩,by show 5000 - (k+1)<5000 - k;omega⟩
      · show (rows++[row]).length=k+1
        rw [iK,jm];omega
      · show k+1<=st'.length
        omega
      · show jX ((0:Int)::(rows++[row]).flatten)=some st'.length
        rw [List.flatten_append,List.flatten_cons,List.flatten_nil,List.append_nil];exact hF'
      · show ∃m,jX ((0:Int)::((rows++[row]).take i).flatten)=some m/\i<m
        have hi':i<k+1:=hi
        by_cases ei:i=k
        · subst ei
          exact ⟨st.length,by rw [List.take_left' hL];exact hF,hk⟩
        obtain ⟨m,h1,h2⟩:=hT i (by omega);exact ⟨m,by rw [List.take_append_of_le_length (by omega)];exact h1,h2⟩
      show Ud d w g st' (nth st' i (0:Int)) (nth (rows++[row]) i ([]:ah));have hi':i<k+1:=hi;rw [nthP hP' (by omega)]
      by_cases ei:i=k
      · subst ei
        rw [show nth (rows++[row]) i ([]:ah)=row by rw [<-hL];exact zS _ _ _];exact hW
      rw [yx _ _ _ _ (by omega)];exact (hM i (by omega)).mono hP'
    obtain rfl:k=st.length:=by omega
    have hrows: ∀r∈rows,r.length=w/\ ∀c,c<w->0<=nth r c (0:Int)/\nth r c (0:Int)<65536:=λr hr=>by
      obtain ⟨i,hi,rfl⟩:=Q5 (d:=([]:ah)) hr;have h1:=hM i (by omega);refine ⟨h1.1,λc hc=> ?_⟩;obtain ⟨j,h2,h3, -⟩:=h1.2 c hc;omega
    obtain ⟨v,e,hC⟩:=ww_ hw (by have:=hS.zero.1;omega) (by omega) hrows;rw [dM (by omega),iM e,cu (by omega)];refine .inr ⟨zV d st rows v,?_,st,rows,v,rfl,⟨⟨p,hS⟩,hL,hM,hF,hT⟩,hC⟩;have hCl:=hC.len;have hCn:=hC.nk;obtain ⟨r,e2,rfl⟩:=kV (step:=λq:ah×Nat=>Cc_ d v st rows q.1 q.2) (λ(x:ah) j=>(x,j)) d.cls.length
      (λj x=>x.length=d.cls.length/\ ∀i,i<j->nth x i (0:Int)=nth v.1 (nth d.cls i (0:Int)).toNat (0:Int)) (λr=>r=zV d st rows v)
      (λj x hj hI=>by
        obtain ⟨h1,h2⟩:=hI;have h3:=(if_ d.cls 0 w hd.cnt).2 _ (sH hj (0:Int));refine .inl ⟨x.set j (nth v.1 (nth d.cls j (0:Int)).toNat (0:Int)),?_,by rw [fV];exact h1,λi hi=> ?_⟩
        · show Cc_ d v st rows x j=_
          unfold Cc_;rw [eH (by omega),cu (by omega),cu (by omega)];rfl
        rw [Af]
        by_cases e:j=i
        · subst e;rw [if_pos ⟨rfl,by omega⟩]
        rw [if_neg (λq=>e q.1)];exact h2 i (by omega))
      (λx hI=>by
        obtain ⟨h1,h2⟩:=hI;have hx:x=d.cls.map λc=>nth v.1 c.toNat (0:Int):=Yx (0:Int) (by rw [List.length_map];exact h1) λi hi=>by
          rw [h2 i (by omega),I_ _ _ _ (0:Int) (0:Int) (by omega)]
        refine ⟨_,?_,rfl⟩;show Cc_ d v st rows x d.cls.length=_;unfold Cc_;rw [dM (by omega),small_b5 hL (λs hs=>by
          obtain ⟨i,hi,rfl⟩:=Q5 (d:=(0:Int)) hs;have:=hR.ok _ (hS.st i hi).1;obtain ⟨h3,h4⟩:=this;omega) (by omega) (by omega) hw hC.kp (λr hr=>(hrows r hr).1) x,hx];rfl)
      (s0:=List.replicate d.cls.length 0) ⟨oI,λi hi=>by omega⟩
    exact congrArg fin e2
  obtain ⟨r,e,states,rows,v,rfl,h1,h2⟩:=kV (step:=λq:ah×Nat=>Ca_ ((n:Nat):Int) g d q.1 q.2) (λ(x:ah) j=>(x,j)) n (λj x=>x.length=n/\ ∀i,i<j->nth x i (0:Int)= -1) (λr=> ∃states rows v,r=zV d states rows v/\AllR d w l g n states rows/\Cols rows w v)
    (λj x hj hI=>by
      obtain ⟨h1,h2⟩:=hI;refine .inl ⟨x.set j (-1),?_,by rw [fV];exact h1,λi hi=> ?_⟩
      · show Ca_ ((n:Nat):Int) g d x j=_
        unfold Ca_;rw [oI,nI,eH (by omega),cu (by omega)];rfl
      rw [Af]
      by_cases e:j=i
      · rw [if_pos ⟨e,by omega⟩]
      rw [if_neg (λq=>e q.1)];exact h2 i (by omega))
    (λx hI=>by
      obtain ⟨h1,h2⟩:=hI;obtain ⟨r,e,h⟩:=Aa (x.set (nth g 0 (0:Int)).toNat 0) ⟨by rw [fV];exact h1,λj hj=>by
        have hj0:j=0:=by
          have:j<1:=hj;omega
        subst hj0;refine ⟨hR.zero,?_⟩;show nth (x.set (nth g 0 (0:Int)).toNat 0) (gv g 0).toNat (0:Int)=0;rw [Af,if_pos ⟨rfl,by show (gv g 0).toNat<x.length;omega⟩],λu hu=>by
        rw [Af]
        by_cases e:(nth g 0 (0:Int)).toNat=u
        · rw [if_pos ⟨e,by omega⟩]
          refine .inr ⟨0,Nat.zero_lt_one,rfl,?_⟩;show nth g 0 (0:Int)=_;omega
        rw [if_neg (λq=>e q.1)];exact .inl (h2 u hu),Nat.zero_lt_one,rfl⟩
      refine ⟨r,?_,h⟩;show Ca_ ((n:Nat):Int) g d x n=_;unfold Ca_;rw [oI,nI,dM (by omega),cu (by omega),cu (by omega),e];rfl)
    (s0:=List.replicate n 0) ⟨oI,λi hi=>by omega⟩
  exact ⟨states,rows,v,e,h1,h2⟩
end
theorem aaa_ {l m : ah} {k : Nat} (hm : jX m ≠ none) (h : jX l = some k) (hk : k <= m.length) : jX (l.map λc => nth m c.toNat (0 : Int)) = jX (m.take k) := by
  induction l using no_ generalizing k with
  |h0=>
    have h0:some 0=some k:=h;have:=Option.some.inj h0;subst this;rw [List.take_zero];rfl
  |h1 l n ih=>
    rw [IC]at h;cases hl:jX l with
    |none=>rw [hl]at h;cases h
    |some j=>
      rw [hl]at h;unfold uX at h;rw [Option.bind_some]at h
      by_cases c:n<0\/((j:Nat):Int)<n
      · rw [if_pos c]at h;cases h
      rw [if_neg c]at h;have hjk:=Option.some.inj h;rw [List.map_append,List.map_singleton,IC]
      by_cases e:n=((j:Nat):Int)
      · rw [if_pos e]at hjk
        rw [ih hl (by omega),<-hjk,j1_ (by omega),IC,e,nI]
      rw [if_neg e]at hjk;subst hjk;rw [ih hl hk];cases hc:jX (m.take j)with
      |none=>
        have:jX m=none:=by
          have:=n9_ (m:=m.drop j) hc
          rwa [List.take_append_drop]at this
        exact absurd this hm
      |some q=>
        have hmem:nth m n.toNat (0:Int)∈m.take j:=by
          have h1:n.toNat<(m.take j).length:=by rw [List.length_take];omega
          have h2:=sH h1 (0:Int);have h3:nth (m.take j) n.toNat (0:Int)=nth m n.toNat (0:Int):=by
            unfold nth;rw [List.getD_eq_getElem?_getD,List.getD_eq_getElem?_getD,List.getElem?_take,if_pos (by omega)]
          rwa [h3]at h2
        have h4:=(if_ (m.take j) 0 q hc).2 _ hmem;unfold uX;rw [Option.bind_some,if_neg (by omega),if_neg (by omega)]
theorem min_ok {d : Dfa} {w : Nat} (hd : DR d w) {l : ah} (hR : Reached d w l) {g : ah} {n : Nat} (hG : Grps d w l g n) {states : ah} {rows : aO} {v : ah × ah} (hA : AllR d w l g n states rows) (hC : Cols rows w v) :
    kU (zV d states rows v)=true/\ ∀i:Nat,i<states.length->lZ (zV d states rows v) ((i:Nat):Int)=lZ d (nth states i (0:Int)):=by
  obtain ⟨place,hS⟩:=hA.si;have hle:=SI.le hG hS;have hn1:=hG.n1;have hll:l.length<=d.next.length:=qf_ hR.nd hR.ok;have hd2:=hd.n2;have hz:=hS.zero;have hlen:=hA.len;have hcl:=hd.cl;have hCl:=hC.len;have hnext:(zV d states rows v).next.length=states.length:=by
    show (rows.map _).length=_;rw [List.length_map];exact hlen
  have hrow: ∀k,k<states.length->nth (zV d states rows v).next k ([]:ah)=v.2.map λe=>nth (nth rows k ([]:ah)) e.toNat (0:Int):=λk hk=>by
    show nth (rows.map _) k ([]:ah)=_;rw [I_ _ _ _ ([]:ah) ([]:ah) (by omega)]
  constructor
  · have hcnt:jX (zV d states rows v).cls=some v.2.length:=by
      show jX (d.cls.map _)=_;rw [aaa_ (by rw [hC.cnt];exact λh=>by cases h) hd.cnt (by omega),List.take_of_length_le (by omega)];exact hC.cnt
    unfold kU;rw [hcnt,hnext];simp only [Bool.and_eq_true,iL,List.all_eq_true];refine ⟨⟨⟨?_,λr hr=> ?_⟩,by omega,by omega⟩,?_⟩
    · show (d.cls.map _).length=256
      rw [List.length_map];exact hcl
    · obtain ⟨q,hq,rfl⟩:=List.mem_map.1 hr
      obtain ⟨k,hk,rfl⟩:=Q5 (d:=([]:ah)) hq;have h1:=hA.row k (by omega);unfold G6;rw [Bool.and_eq_true,iL,List.length_map,List.all_eq_true];refine ⟨rfl,λx hx=> ?_⟩;obtain ⟨e,he,rfl⟩:=List.mem_map.1 hx;obtain ⟨j,hj,rfl⟩:=Q5 (d:=(0:Int)) he;obtain ⟨f,h2,h3⟩:=hC.kp j hj;rw [h2,nI];obtain ⟨i,h4,h5, -⟩:=h1.2 f h3;unfold IY;rw [Bool.and_eq_true,iL,iL];omega
    show (states.map _).length=states.length;rw [List.length_map]
  have key: ∀(u:T_1) (i:Nat) (s:Int),i<states.length->s∈l->gv g (nth states i (0:Int))=gv g s-> ∃j:Nat,qp (zV d states rows v) ((i:Nat):Int) u=((j:Nat):Int)/\j<states.length/\qp d s u∈l/\gv g (nth states j (0:Int))=gv g (qp d s u):=by
    intro u
    induction u with
    |nil=>exact λi s hi hs e=>⟨i,rfl,hi,hs,e⟩
    |cons b u ih=>
      intro i s hi hs e;have hb:=UInt8.toNat_lt b;have hc:=(if_ d.cls 0 w hd.cnt).2 _ (sH (l:=d.cls) (i:=b.toNat) (by omega) (0:Int));obtain ⟨c,hce⟩: ∃c:Nat,nth d.cls b.toNat (0:Int)=((c:Nat):Int):=⟨(nth d.cls b.toNat (0:Int)).toNat,by omega⟩;have hcw:c<w:=by omega
      obtain ⟨j,f,h1,h2,h3,h4,h5⟩:=hC.at_ c hcw;obtain ⟨q,h6,h7,h8⟩:=(hA.row i hi).2 c hcw;have e1:dlt (zV d states rows v) ((i:Nat):Int) b=((q:Nat):Int):=by
        unfold dlt;rw [nI,hrow i hi];have e2:nth (zV d states rows v).cls b.toNat (0:Int)=((j:Nat):Int):=by
          show nth (d.cls.map _) b.toNat (0:Int)=_;rw [I_ _ _ _ (0:Int) (0:Int) (by omega),hce,nI,h2]
        rw [e2,nI,I_ _ _ _ (0:Int) (0:Int) h1,h3,nI,h5 _ (sH (by omega) ([]:ah))];exact h7
      have e3:dlt d s b=nx d s c:=by
        unfold dlt nx;rw [hce,nI]
      obtain ⟨j',h9,h10,h11,h12⟩:=ih q (nx d s c) h6 (hR.cl s hs c hcw) (by rw [h8];exact hG.same _ (hS.st i hi).1 s hs e c hcw);refine ⟨j',?_,h10,?_,?_⟩
      · show qp (zV d states rows v) (dlt (zV d states rows v) ((i:Nat):Int) b) u=_
        rw [e1];exact h9
      · show qp d (dlt d s b) u∈l
        rw [e3];exact h11
      show _=gv g (qp d (dlt d s b) u);rw [e3];exact h12
  intro i hi
  funext u
  obtain ⟨j,h1,h2,h3,h4⟩:=key u i _ hi (hS.st i hi).1 rfl;unfold lZ;rw [h1,nI];show nth (states.map _) j false=_;rw [I_ _ _ _ (0:Int) false h2];exact hG.fin _ (hS.st j h2).1 _ h3 h4
theorem min_go{d:Dfa}(h:kU d=true): ∃m,JO d=some (m,0)/\kU m=true/\ ∀u,nth m.fin (qp m 0 u).toNat false=nth d.fin (qp d 0 u).toNat false:=by
  obtain ⟨w,hd⟩:=DR.of h;obtain ⟨l,el,hR⟩:=p0_ hd;obtain ⟨g,n,eg,hG⟩:=se_ hd hR;obtain ⟨states,rows,v,es,hA,hC⟩:=uq_ hd hR hG;obtain ⟨k1,k2⟩:=min_ok hd hR hG hA hC;obtain ⟨place,hS⟩:=hA.si;have k3:=k2 0 hS.zero.1;rw [hS.zero.2]at k3;refine ⟨zV d states rows v,?_,k1,congrFun k3⟩;unfold JO;rw [Rf,kT,if_pos h,dM (by simp),iM el,iM eg];dsimp only;rw [iM es]
theorem min_any(d:Dfa): ∃r,JO d=some r/\(r.2≠0\/r.2=0/\kU d=true/\kU r.1=true/\ ∀u,nth r.1.fin (qp r.1 0 u).toNat false=nth d.fin (qp d 0 u).toNat false):=by
  by_cases h:kU d=true
  · obtain ⟨m,e,h1,h2⟩:=min_go h
    exact ⟨_,e,.inr ⟨rfl,h,h1,h2⟩⟩
  refine ⟨(⟨[],[],[]⟩,1),?_,.inl (by decide)⟩;unfold JO;rw [Rf,kT,if_neg h];rfl
structure Alike (s t:Fst):Prop where
  states:s.states=t.states
  starts: ∀x,x∈s.starts↔x∈t.starts
  ends: ∀x,x∈s.ends↔x∈t.ends
  arcs: ∀x,x∈s.arcs↔x∈t.arcs
structure Within (s t:Fst):Prop where
  starts: ∀x∈s.starts,x∈t.starts
  ends: ∀x∈s.ends,x∈t.ends
  arcs: ∀x∈s.arcs,x∈t.arcs
theorem Alike.within{s t:Fst}(h:Alike s t):Within s t:=⟨λx=>(h.starts x).1,λx=>(h.ends x).1,λx=>(h.arcs x).1⟩
theorem Alike.symm{s t:Fst}(h:Alike s t):Alike t s:=⟨h.states.symm,λx=>(h.starts x).symm,λx=>(h.ends x).symm,λx=>(h.arcs x).symm⟩
theorem Within.pairs{s t:Fst}(h:Within s t)(w:T_1): ∀p∈Yh s w,p∈Yh t w:=by
  induction w using no_ with
  |h0=>
    intro p hp;obtain ⟨x,hx,rfl⟩:=List.mem_map.1 hp;exact List.mem_map.2 ⟨x,h.starts x hx,rfl⟩
  |h1 w b ih=>
    intro q hq;rw [tl_,z7_]at *;obtain ⟨p,hp,a,ha,r⟩:=hq;exact ⟨p,ih p hp,a,h.arcs a ha,r⟩
theorem mem_endT{t:Fst}{S:List FPair}{o:T_1}:o∈endT t S↔ ∃p∈S, ∃e∈t.ends,e.state=p.state/\o=p.out++e.out:=by
  simp only [endT,List.mem_flatMap,List.mem_map,List.mem_filter,iL];constructor
  · rintro ⟨p,hp,_,⟨e,⟨he,h1⟩,rfl⟩,h2⟩;exact ⟨p,hp,e,he,h1,h2.symm⟩
  rintro ⟨p,hp,e,he,h1,h2⟩;exact ⟨p,hp,_,⟨e,⟨he,h1⟩,rfl⟩,h2.symm⟩
theorem yd_{t:Fst}{w o:T_1}:o∈X4 t w↔ ∃p∈Yh t w, ∃e∈t.ends,e.state=p.state/\o=p.out++e.out:=by rw [X4,Vf,mem_endT]
theorem Within.outs{s t:Fst}(h:Within s t)(w:T_1): ∀o∈X4 s w,o∈X4 t w:=by
  intro o ho;rw [yd_]at *;obtain ⟨p,hp,e,he,r⟩:=ho;exact ⟨p,h.pairs w p hp,e,h.ends e he,r⟩
theorem p8_(t:Fst)(w:T_1):(X4 t w).Pairwise λx y=>Lib.compareBytes x y<0:=io_ lb_ _
theorem Alike.outs{s t:Fst}(h:Alike s t)(w:T_1):X4 s w=X4 t w:=r3_ lb_ (p8_ s w) (p8_ t w) λx=>⟨h.within.outs w x,h.symm.within.outs w x⟩
theorem same_run{α R:Type}{step:Nat->Option (Nat⊕R)}{y:R}(n:Nat)(hs: ∀k,k<n->step k=some (.inl (k+1)))(hd:step n=some (.inr y)):iter step 0=some y:=n8_ (λk=>k) n hs hd
theorem sameTips_refl(l:List Tip):Gp_ l l=some true:=by
  unfold Gp_;rw [decide_eq_false (by simp),iteO_false];refine same_run (α:=Unit) l.length (λk hk=> ?_) ?_
  · simp only [Cm_,JG hk,iteO_true,cu hk,not_true_eq_false,decide_false,iteO_false];rfl
  simp only [Cm_,Int.lt_irrefl,decide_false,iteO_false];rfl
def inN(t:Fst):Nfa:=⟨t.states,zO 0 qg (t.starts.map Tip.state),zO 0 qg (t.ends.map Tip.state),t.arcs.map λa=>⟨a.frm,a.to,a.set⟩⟩
theorem sf_{l:List Tip}(h:l.length<=1024):Ff_ l=some (zO 0 qg (l.map Tip.state)):=by
  unfold Ff_;refine k9_ (step:=λq:ah×Nat=>Eh_ l q.1 q.2) l aY (λk=>(l.take k).map Tip.state) ?_ ?_
  · intro k hk
    simp only [Eh_,JG hk,iteO_true];rw [cu (by simp only [List.length_map,List.length_take,jm];omega),qh l hk aY,List.map_append];rfl
  simp only [Eh_,Int.lt_irrefl,decide_false,iteO_false,List.take_length];rw [Nh_ (by rw [List.length_map];omega)];rfl
theorem in_eq(t:Fst):Lc_ t=some (if xC t=true then (inN t,0) else (⟨0,[],[],[]⟩,1)):=by
  unfold Lc_;rw [Xw,bnd,Option.bind_some,l4_]
  by_cases h:xC t=true
  · have ht:=(UY t).1 h
    have h3:=ht.arcsN;rw [h,if_pos rfl,Bool.not_true,iteO_false];simp only [sf_ ht.startsN,sf_ ht.endsN,bnd,Option.bind_some];unfold Kf_;refine k9_ (step:=λq:(List Arrow)×Nat=>Iq_ t (zO 0 qg (t.starts.map Tip.state)) (zO 0 qg (t.ends.map Tip.state)) q.1 q.2) t.arcs aQ (λk=>(t.arcs.take k).map λa=>(⟨a.frm,a.to,a.set⟩:Arrow)) ?_ ?_
    · intro k hk
      simp only [Iq_,JG hk,iteO_true];rw [cu (by simp only [List.length_map,List.length_take,jm];omega),qh t.arcs hk aQ,List.map_append];rfl
    simp only [Iq_,Int.lt_irrefl,decide_false,iteO_false,List.take_length];rfl
  simp only [Bool.not_eq_true]at h;rw [h];rfl
def em(a:Arc)(b:UInt8):T_1:=if a.copy then a.out++[b] else a.out
inductive Wy (t:Fst):Int->T_1->T_1->Int->Prop
  |nil (s:Int):Wy t s [] [] s
  |cons {w o:T_1} {q:Int} (a:Arc) (b:UInt8):a∈t.arcs->a.set.has b.toNat=true->Wy t a.to w o q->Wy t a.frm (b::w) (em a b++o) q
theorem Wy.d0_{t:Fst}{s q:Int}{o:T_1}(h:Wy t s [] o q):o=[]/\q=s:=by
  cases h;exact ⟨rfl,rfl⟩
theorem Wy.cons_inv{t:Fst}{s q:Int}{b:UInt8}{w o:T_1}(h:Wy t s (b::w) o q): ∃a∈t.arcs,a.frm=s/\a.set.has b.toNat=true/\ ∃o',Wy t a.to w o' q/\o=em a b++o':=by
  cases h with
  |cons a b ha hb hw=>exact ⟨a,ha,rfl,hb,_,hw,rfl⟩
theorem Wy.split{t:Fst}: ∀{u v o:T_1} {s q:Int},Wy t s (u++v) o q-> ∃m o1 o2,Wy t s u o1 m/\Wy t m v o2 q/\o=o1++o2
  |[],v,o,s,q,h=>⟨s,[],o,.nil s,h,rfl⟩
  |b::u,v,o,s,q,h=>by
    obtain ⟨a,ha,rfl,hb,o',hw,rfl⟩:=Wy.cons_inv h;obtain ⟨m,o1,o2,h1,h2,rfl⟩:=Wy.split hw;exact ⟨m,em a b++o1,o2,.cons a b ha hb h1,h2,by rw [Gf]⟩
def Rel(t:Fst)(w o:T_1):Prop:= ∃x∈t.starts, ∃e∈t.ends, ∃m,Wy t x.state w m e.state/\o=x.out++(m++e.out)
theorem Wy.map{t T:Fst}(f:Int->Int)(h: ∀a∈t.arcs,(⟨f a.frm,f a.to,a.set,a.out,a.copy⟩:Arc)∈T.arcs){s q:Int}{w o:T_1}(k:Wy t s w o q):Wy T (f s) w o (f q):=by
  induction k with
  |nil s=>exact .nil _
  |cons a b ha hb _ ih=>exact Wy.cons (⟨f a.frm,f a.to,a.set,a.out,a.copy⟩:Arc) b (h a ha) hb ih
theorem Wy.unmap{t T:Fst}(P:Int->Prop)(g:Int->Int)(h: ∀a∈T.arcs,P a.frm->P a.to/\(⟨g a.frm,g a.to,a.set,a.out,a.copy⟩:Arc)∈t.arcs){s q:Int}{w o:T_1}(k:Wy T s w o q)(hs:P s):P q/\Wy t (g s) w o (g q):=by
  induction k with
  |nil s=>exact ⟨hs,.nil _⟩
  |cons a b ha hb _ ih=>
    obtain ⟨h1,h2⟩:=h a ha hs;obtain ⟨h3,h4⟩:=ih h1;exact ⟨h3,Wy.cons (⟨g a.frm,g a.to,a.set,a.out,a.copy⟩:Arc) b h2 hb h4⟩
def shT(n:Int)(l:List Tip):List Tip:=l.map λx=>⟨x.state+n,x.out⟩
def shA(n:Int)(l:List Arc):List Arc:=l.map λx=>⟨x.frm+n,x.to+n,x.set,x.out,x.copy⟩
def fAlt(a b:Fst):Fst:=⟨a.states+b.states,a.starts++shT a.states b.starts,a.ends++shT a.states b.ends,a.arcs++shA a.states b.arcs⟩
theorem Yu{n:Int}{l:List Tip}{y:Tip}:y∈shT n l↔ ∃x∈l,y=⟨x.state+n,x.out⟩:=by
  unfold shT;rw [List.mem_map];exact ⟨λ⟨x,h,e⟩=>⟨x,h,e.symm⟩,λ⟨x,h,e⟩=>⟨x,h,e.symm⟩⟩
theorem rg_{n:Int}{l:List Arc}{y:Arc}:y∈shA n l↔ ∃x∈l,y=⟨x.frm+n,x.to+n,x.set,x.out,x.copy⟩:=by
  unfold shA;rw [List.mem_map];exact ⟨λ⟨x,h,e⟩=>⟨x,h,e.symm⟩,λ⟨x,h,e⟩=>⟨x,h,e.symm⟩⟩
theorem aaj_{a b:Fst}(ha:FstOk a)(hb:FstOk b): ∀x∈(fAlt a b).arcs,x.frm<a.states->x.to<a.states/\(⟨id x.frm,id x.to,x.set,x.out,x.copy⟩:Arc)∈a.arcs:=λx hx h=>by
  rcases List.mem_append.1 hx with hx|hx
  · exact ⟨(ha.arcs x hx).2.1.2,hx⟩
  obtain ⟨y,hy,rfl⟩:=rg_.1 hx;have:=(hb.arcs y hy).1.1;dsimp only at h;omega
theorem xb_{a b:Fst}(ha:FstOk a)(hb:FstOk b): ∀x∈(fAlt a b).arcs,a.states<=x.frm->a.states<=x.to/\(⟨x.frm - a.states,x.to - a.states,x.set,x.out,x.copy⟩:Arc)∈b.arcs:=λx hx h=>by
  rcases List.mem_append.1 hx with hx|hx
  · have:=(ha.arcs x hx).1.2;omega
  obtain ⟨y,hy,rfl⟩:=rg_.1 hx;have:=(hb.arcs y hy).2.1.1;dsimp only;refine ⟨by omega,?_⟩;rw [show y.frm+a.states - a.states=y.frm by omega,show y.to+a.states - a.states=y.to by omega];exact hy
theorem rel_alt{a b:Fst}(ha:FstOk a)(hb:FstOk b){w o:T_1}:Rel (fAlt a b) w o↔Rel a w o\/Rel b w o:=by
  constructor
  · rintro ⟨x,hx,e,he,m,hw,rfl⟩
    rcases List.mem_append.1 hx with hx|hx
    · obtain ⟨h1,h2⟩:=Wy.unmap (λs=>s<a.states) id (aaj_ ha hb) hw (ha.starts x hx).1.2
      rcases List.mem_append.1 he with he|he
      · exact .inl ⟨x,hx,e,he,m,h2,rfl⟩
      obtain ⟨y,hy,rfl⟩:=Yu.1 he;have:=(hb.ends y hy).1.1;dsimp only at h1;omega
    obtain ⟨x',hx',rfl⟩:=Yu.1 hx;obtain ⟨h1,h2⟩:=Wy.unmap (λs=>a.states<=s) (λs=>s - a.states) (xb_ ha hb) hw (by have:=(hb.starts x' hx').1.1;dsimp only;omega);dsimp only at h2;rw [show x'.state+a.states - a.states=x'.state by omega]at h2;rcases List.mem_append.1 he with he|he
    · have:=(ha.ends e he).1.2;omega
    obtain ⟨y,hy,rfl⟩:=Yu.1 he;dsimp only at h2;rw [show y.state+a.states - a.states=y.state by omega]at h2;exact .inr ⟨x',hx',y,hy,m,h2,rfl⟩
  rintro (⟨x,hx,e,he,m,hw,rfl⟩|⟨x,hx,e,he,m,hw,rfl⟩)
  · exact ⟨x,List.mem_append_left _ hx,e,List.mem_append_left _ he,m,hw.map id (λy hy=>List.mem_append_left _ hy),rfl⟩
  exact ⟨_,List.mem_append_right _ (Yu.2 ⟨x,hx,rfl⟩),_,List.mem_append_right _ (Yu.2 ⟨e,he,rfl⟩),m,hw.map (λs=>s+a.states) (λy hy=>List.mem_append_right _ (rg_.2 ⟨y,hy,rfl⟩)),rfl⟩
structure GB (F:Fst):Prop where
  sN:F.starts.length<=1024
  eN:F.ends.length<=1024
  aN:F.arcs.length<=16384
  s: ∀x∈F.starts,x.out.length<=1024
  e: ∀x∈F.ends,x.out.length<=1024
  a: ∀x∈F.arcs,x.out.length<=1024
def Gr(g:Grow)(F:Fst):Prop:=g.over=true/\ ¬ GB F\/g=⟨F,false⟩/\GB F
theorem Gr.nil(n:Int):Gr ⟨⟨n,[],[],[]⟩,false⟩ ⟨n,[],[],[]⟩:= .inr ⟨rfl,by simp,by simp,by simp,by simp,by simp,by simp⟩
theorem Gr.st{g:Grow}{F:Fst}(h:Gr g F)(x:Tip):Gr (qe_ g x) ⟨F.states,F.starts++[x],F.ends,F.arcs⟩:=by
  unfold qe_
  split
  · rename_i hn
    refine .inl ⟨rfl,λq=> ?_⟩;have hl:(F.starts++[x]).length<=1024:=q.sN;rw [iK,jm]at hl;have hx:=q.s x (List.mem_append_right _ (List.mem_singleton.2 rfl));rcases h with ⟨h,h2⟩|⟨rfl,h⟩
    · exact h2 ⟨by omega,q.eN,q.aN,λy hy=>q.s y (List.mem_append_left _ hy),q.e,q.a⟩
    rcases hn with hn|hn|hn
    · cases hn
    · have hn':1024<=F.starts.length:=hn
      omega
    omega
  rename_i hn
  rcases h with ⟨h, -⟩|⟨rfl,h⟩
  · exact absurd (.inl h) hn
  simp only [Bool.false_eq_true,false_or,not_or,Nat.not_le,Nat.not_lt]at hn;refine .inr ⟨rfl,?_,h.eN,h.aN,λy hy=> ?_,h.e,h.a⟩
  · simp only [iK,jm];omega
  rcases List.mem_append.1 hy with hy|hy
  · exact h.s y hy
  rw [List.mem_singleton.1 hy];exact hn.2
theorem Gr.en{g:Grow}{F:Fst}(h:Gr g F)(x:Tip):Gr (p6_ g x) ⟨F.states,F.starts,F.ends++[x],F.arcs⟩:=by
  unfold p6_
  split
  · rename_i hn
    refine .inl ⟨rfl,λq=> ?_⟩;have hl:(F.ends++[x]).length<=1024:=q.eN;rw [iK,jm]at hl;have hx:=q.e x (List.mem_append_right _ (List.mem_singleton.2 rfl));rcases h with ⟨h,h2⟩|⟨rfl,h⟩
    · exact h2 ⟨q.sN,by omega,q.aN,q.s,λy hy=>q.e y (List.mem_append_left _ hy),q.a⟩
    rcases hn with hn|hn|hn
    · cases hn
    · have hn':1024<=F.ends.length:=hn
      omega
    omega
  rename_i hn
  rcases h with ⟨h, -⟩|⟨rfl,h⟩
  · exact absurd (.inl h) hn
  simp only [Bool.false_eq_true,false_or,not_or,Nat.not_le,Nat.not_lt]at hn;refine .inr ⟨rfl,h.sN,?_,h.aN,h.s,λy hy=> ?_,h.a⟩
  · simp only [iK,jm];omega
  rcases List.mem_append.1 hy with hy|hy
  · exact h.e y hy
  rw [List.mem_singleton.1 hy];exact hn.2
theorem Gr.ar{g:Grow}{F:Fst}(h:Gr g F)(x:Arc):Gr (py_ g x) ⟨F.states,F.starts,F.ends,F.arcs++[x]⟩:=by
  unfold py_
  split
  · rename_i hn
    refine .inl ⟨rfl,λq=> ?_⟩;have hl:(F.arcs++[x]).length<=16384:=q.aN;rw [iK,jm]at hl;have hx:=q.a x (List.mem_append_right _ (List.mem_singleton.2 rfl));rcases h with ⟨h,h2⟩|⟨rfl,h⟩
    · exact h2 ⟨q.sN,q.eN,by omega,q.s,q.e,λy hy=>q.a y (List.mem_append_left _ hy)⟩
    rcases hn with hn|hn|hn
    · cases hn
    · have hn':16384<=F.arcs.length:=hn
      omega
    omega
  rename_i hn
  rcases h with ⟨h, -⟩|⟨rfl,h⟩
  · exact absurd (.inl h) hn
  simp only [Bool.false_eq_true,false_or,not_or,Nat.not_le,Nat.not_lt]at hn;refine .inr ⟨rfl,h.sN,h.eN,?_,h.s,h.e,λy hy=> ?_⟩
  · simp only [iK,jm];omega
  rcases List.mem_append.1 hy with hy|hy
  · exact h.a y hy
  rw [List.mem_singleton.1 hy];exact hn.2
def pS(F:Fst)(l:List Tip):Fst:=⟨F.states,F.starts++l,F.ends,F.arcs⟩
def pE(F:Fst)(l:List Tip):Fst:=⟨F.states,F.starts,F.ends++l,F.arcs⟩
def pA(F:Fst)(l:List Arc):Fst:=⟨F.states,F.starts,F.ends,F.arcs++l⟩
theorem pS_nil(F:Fst):pS F []=F:=by simp [pS]
theorem yg_(F:Fst):pE F []=F:=by simp [pE]
theorem vf_(F:Fst):pA F []=F:=by simp [pA]
theorem ye_(F:Fst)(l:List Tip)(x:Tip):pS F (l++[x])=⟨(pS F l).states,(pS F l).starts++[x],(pS F l).ends,(pS F l).arcs⟩:=by simp [pS]
theorem xt_(F:Fst)(l:List Tip)(x:Tip):pE F (l++[x])=⟨(pE F l).states,(pE F l).starts,(pE F l).ends++[x],(pE F l).arcs⟩:=by simp [pE]
theorem yl_(F:Fst)(l:List Arc)(x:Arc):pA F (l++[x])=⟨(pA F l).states,(pA F l).starts,(pA F l).ends,(pA F l).arcs++[x]⟩:=by simp [pA]
theorem vv_(F:Fst)(l m:List Arc):pA (pA F l) m=pA F (l++m):=by simp [pA]
theorem pE_app(F:Fst)(l m:List Tip):pE (pE F l) m=pE F (l++m):=by simp [pE]
theorem vk_(n:Int)(l:List Tip){k:Nat}(h:k<l.length):shT n (l.take (k+1))=shT n (l.take k)++[⟨(nth l k aY).state+n,(nth l k aY).out⟩]:=by
  rw [qh l h aY];unfold shT;rw [List.map_append];rfl
theorem aag_(n:Int)(l:List Arc){k:Nat}(h:k<l.length):shA n (l.take (k+1))=shA n (l.take k)++[⟨(nth l k aQ).frm+n,(nth l k aQ).to+n,(nth l k aQ).set,(nth l k aQ).out,(nth l k aQ).copy⟩]:=by
  rw [qh l h aQ];unfold shA;rw [List.map_append];rfl
theorem JD{a:Int}(h: -100000<=a/\a<=100000):IntKind.i64.wrap a=a:=Ja (by omega) (by omega)
theorem s5_{l:List Tip}{up:Int}(hr: ∀x∈l, -100000<=x.state+up/\x.state+up<=100000){g:Grow}{F:Fst}(h:Gr g F): ∃g',B1_ g l up=some g'/\Gr g' (pS F (shT up l)):=by
  unfold B1_;refine kV (step:=λq:Int×(List Tip)×(List Tip)×(List Arc)×Bool×Nat=>An_ l up q.1 q.2.1 q.2.2.1 q.2.2.2.1 q.2.2.2.2.1 q.2.2.2.2.2) (λ(s:Grow) k=>(s.f.states,s.f.starts,s.f.ends,s.f.arcs,s.over,k)) l.length
    (λk s=>Gr s (pS F (shT up (l.take k)))) _ (λk s hk hI=> ?_) (λs hI=> ?_) (s0:=g) (by simpa [shT,pS_nil]using h)
  · refine .inl ⟨qe_ s ⟨(nth l k aY).state+up,(nth l k aY).out⟩,?_,?_⟩
    · show An_ l up s.f.states s.f.starts s.f.ends s.f.arcs s.over k=_
      unfold An_;rw [eH (by omega),vi_,kT,JD (hr _ (sH hk _))];rfl
    rw [vk_ up l hk,ye_];exact hI.st _
  rw [List.take_length]at hI;refine ⟨s,?_,hI⟩;show An_ l up s.f.states s.f.starts s.f.ends s.f.arcs s.over l.length=_;unfold An_;rw [dM (by omega)];rfl
theorem yy_{l:List Tip}{up:Int}(hr: ∀x∈l, -100000<=x.state+up/\x.state+up<=100000){g:Grow}{F:Fst}(h:Gr g F): ∃g',C1_ g l up=some g'/\Gr g' (pE F (shT up l)):=by
  unfold C1_;refine kV (step:=λq:Int×(List Tip)×(List Tip)×(List Arc)×Bool×Nat=>A4_ l up q.1 q.2.1 q.2.2.1 q.2.2.2.1 q.2.2.2.2.1 q.2.2.2.2.2) (λ(s:Grow) k=>(s.f.states,s.f.starts,s.f.ends,s.f.arcs,s.over,k)) l.length
    (λk s=>Gr s (pE F (shT up (l.take k)))) _ (λk s hk hI=> ?_) (λs hI=> ?_) (s0:=g) (by simpa [shT,yg_]using h)
  · refine .inl ⟨p6_ s ⟨(nth l k aY).state+up,(nth l k aY).out⟩,?_,?_⟩
    · show A4_ l up s.f.states s.f.starts s.f.ends s.f.arcs s.over k=_
      unfold A4_;rw [eH (by omega),end_eq,kT,JD (hr _ (sH hk _))];rfl
    rw [vk_ up l hk,xt_];exact hI.en _
  rw [List.take_length]at hI;refine ⟨s,?_,hI⟩;show A4_ l up s.f.states s.f.starts s.f.ends s.f.arcs s.over l.length=_;unfold A4_;rw [dM (by omega)];rfl
theorem xw_{l:List Arc}{up:Int}(hr: ∀x∈l,(-100000<=x.frm+up/\x.frm+up<=100000)/\ -100000<=x.to+up/\x.to+up<=100000){g:Grow}{F:Fst}(h:Gr g F): ∃g',C2_ g l up=some g'/\Gr g' (pA F (shA up l)):=by
  unfold C2_;refine kV (step:=λq:Int×(List Tip)×(List Tip)×(List Arc)×Bool×Nat=>A3_ l up q.1 q.2.1 q.2.2.1 q.2.2.2.1 q.2.2.2.2.1 q.2.2.2.2.2) (λ(s:Grow) k=>(s.f.states,s.f.starts,s.f.ends,s.f.arcs,s.over,k)) l.length
    (λk s=>Gr s (pA F (shA up (l.take k)))) _ (λk s hk hI=> ?_) (λs hI=> ?_) (s0:=g) (by simpa [shA,vf_]using h)
  · have hm:=hr _ (sH hk aQ)
    refine .inl ⟨py_ s ⟨(nth l k aQ).frm+up,(nth l k aQ).to+up,(nth l k aQ).set,(nth l k aQ).out,(nth l k aQ).copy⟩,?_,?_⟩
    · show A3_ l up s.f.states s.f.starts s.f.ends s.f.arcs s.over k=_
      unfold A3_;rw [eH (by omega),arc_eq,kT,JD hm.1,JD hm.2];rfl
    rw [aag_ up l hk,yl_];exact hI.ar _
  rw [List.take_length]at hI;refine ⟨s,?_,hI⟩;show A3_ l up s.f.states s.f.starts s.f.ends s.f.arcs s.over l.length=_;unfold A3_;rw [dM (by omega)];rfl
def GEnd(F:Fst)(r:Fst×Int):Prop:=r=(⟨0,[],[],[]⟩,2)/\(¬ GB F\/1024<F.states)\/r=(F,0)/\GB F/\F.states<=1024
theorem gend{g:Grow}{F:Fst}(h:Gr g F):GEnd F (XT g):=by
  unfold XT
  split
  · rename_i hn
    refine .inl ⟨rfl,?_⟩;rcases h with ⟨-,h⟩|⟨rfl,h⟩
    · exact .inl h
    rcases hn with hn|hn
    · cases hn
    exact .inr hn
  rename_i hn
  rcases h with ⟨h, -⟩|⟨rfl,h⟩
  · exact absurd (.inl h) hn
  simp only [Bool.false_eq_true,false_or,Int.not_lt]at hn;exact .inr ⟨rfl,h,hn⟩
theorem u8_(l:List Tip):shT 0 l=l:=by
  unfold shT;have:(λx:Tip=>(⟨x.state+0,x.out⟩:Tip))=id:=funext λx=>by rw [Int.add_zero];rfl
  rw [this,List.map_id]
theorem shA_zero(l:List Arc):shA 0 l=l:=by
  unfold shA;have:(λx:Arc=>(⟨x.frm+0,x.to+0,x.set,x.out,x.copy⟩:Arc))=id:=funext λx=>by rw [Int.add_zero,Int.add_zero];rfl
  rw [this,List.map_id]
theorem zf_(a b:Fst):J5_ a b=some (xC a && xC b):=by
  unfold J5_;rw [Xw,kT];cases ha:xC a
  · rfl
  rw [Xw,kT];cases hb:xC b<;>rfl
theorem alt_go{a b:Fst}(ha:FstOk a)(hb:FstOk b): ∃r,H1_ a b=some r/\GEnd (fAlt a b) r:=by
  have a0:=ha.st0;have a1:=ha.st1;have b0:=hb.st0;have b1:=hb.st1;have rT0: ∀l:List Tip,(∀x∈l,(0<=x.state/\x.state<a.states)/\x.out.length<=1024)-> ∀x∈l, -100000<=x.state+0/\x.state+0<=100000:=λl hl x hx=>by have:=hl x hx;omega
  have rT1: ∀l:List Tip,(∀x∈l,(0<=x.state/\x.state<b.states)/\x.out.length<=1024)-> ∀x∈l, -100000<=x.state+a.states/\x.state+a.states<=100000:=λl hl x hx=>by have:=hl x hx;omega
  unfold H1_;rw [zf_,(UY a).2 ha,(UY b).2 hb,kT];simp only [Bool.and_self,Bool.not_true,iteO_false];rw [JD (by omega)];obtain ⟨g1,e1,h1⟩:=s5_ (rT0 _ ha.starts) (Gr.nil (a.states+b.states));rw [iM e1];obtain ⟨g2,e2,h2⟩:=s5_ (rT1 _ hb.starts) h1;rw [iM e2];obtain ⟨g3,e3,h3⟩:=yy_ (rT0 _ ha.ends) h2;rw [iM e3];obtain ⟨g4,e4,h4⟩:=yy_ (rT1 _ hb.ends) h3;rw [iM e4];obtain ⟨g5,e5,h5⟩:=xw_ (l:=a.arcs) (up:=0) (λx hx=>by have:=ha.arcs x hx;omega) h4;rw [iM e5];obtain ⟨g6,e6,h6⟩:=xw_ (l:=b.arcs) (up:=a.states) (λx hx=>by have:=hb.arcs x hx;omega) h5;rw [iM e6,iM (rr_ g6)];refine ⟨XT g6,rfl,?_⟩;have:=gend h6;rw [u8_,u8_,shA_zero]at this;exact this
def zF:Fst:=⟨0,[],[],[]⟩
theorem zF_ok:FstOk zF:=⟨by decide,by decide,by decide,by decide,by decide,λ_ h=>(by cases h),λ_ h=>(by cases h),λ_ h=>(by cases h)⟩
def oZ(d:Dfa)(s:Int)(b:Nat):Int:=nth (nth d.next s.toNat ([]:ah)) ((nth d.cls b (0:Int)).toNat) (0:Int)
theorem dlt_N(d:Dfa)(s:Int)(b:UInt8):oZ d s b.toNat=dlt d s b:=rfl
def EF(d:Dfa)(y:Int)(s:BSet)(z:Int):BSet:=BSet.make λb=>s.has b && decide (oZ d y b=z)
theorem nb_{d:Dfa}{y z:Int}{s:BSet}{b:UInt8}:(EF d y s z).has b.toNat=true↔s.has b.toNat=true/\dlt d y b=z:=by
  unfold EF;rw [BSet.Gg _ (UInt8.toNat_lt b),dlt_N,Bool.and_eq_true,iL]
theorem hasZ(b:Nat)(hb:b<256):BSet.zero.has b=false:=by
  rw [<-BSet.a3_,BSet.Gg _ hb]
theorem lset_ne{d:Dfa}{y z:Int}{s:BSet}{b:UInt8}(h:s.has b.toNat=true)(h2:dlt d y b=z):EF d y s z≠BSet.zero:=λe=>by
  have h3:=nb_.2 ⟨h,h2⟩;rw [e,hasZ _ (UInt8.toNat_lt b)]at h3;cases h3
def limS(n:Nat)(l:List Tip):List Tip:=l.map λx=>⟨x.state * ((n:Nat):Int),x.out⟩
def limE1(d:Dfa)(x:Tip):List Tip:=((List.range d.next.length).filter λy=>nth d.fin y false).map λy=>⟨x.state * ((d.next.length:Nat):Int)+((y:Nat):Int),x.out⟩
def limE(d:Dfa)(l:List Tip):List Tip:=l.flatMap (limE1 d)
def limZ(d:Dfa)(x:Arc)(y:Nat):List Arc:=((List.range d.next.length).filter λz=>decide (EF d ((y:Nat):Int) x.set ((z:Nat):Int)≠BSet.zero)).map λz=>
  ⟨x.frm * ((d.next.length:Nat):Int)+((y:Nat):Int),x.to * ((d.next.length:Nat):Int)+((z:Nat):Int),EF d ((y:Nat):Int) x.set ((z:Nat):Int),x.out,x.copy⟩
def Jy(d:Dfa)(x:Arc)(k:Nat):List Arc:=(List.range k).flatMap (limZ d x)
def GR(d:Dfa)(l:List Arc):List Arc:=l.flatMap λx=>Jy d x d.next.length
def IV(t:Fst)(d:Dfa):Fst:=⟨t.states * ((d.next.length:Nat):Int),limS d.next.length t.starts,limE d t.ends,GR d t.arcs⟩
theorem ra_{n:Nat}{l:List Tip}{a:Tip}:a∈limS n l↔ ∃x∈l,a=⟨x.state * ((n:Nat):Int),x.out⟩:=by
  unfold limS;rw [List.mem_map];exact ⟨λ⟨x,h,e⟩=>⟨x,h,e.symm⟩,λ⟨x,h,e⟩=>⟨x,h,e.symm⟩⟩
theorem rh_{d:Dfa}{l:List Tip}{a:Tip}:a∈limE d l↔ ∃x∈l, ∃y:Nat,y<d.next.length/\nth d.fin y false=true/\a=⟨x.state * ((d.next.length:Nat):Int)+((y:Nat):Int),x.out⟩:=by
  unfold limE limE1;simp only [List.mem_flatMap,List.mem_map,List.mem_filter,List.mem_range];exact ⟨λ⟨x,hx,y,⟨h1,h2⟩,e⟩=>⟨x,hx,y,h1,h2,e.symm⟩,λ⟨x,hx,y,h1,h2,e⟩=>⟨x,hx,y,⟨h1,h2⟩,e.symm⟩⟩
theorem qu_{d:Dfa}{l:List Arc}{a:Arc}:a∈GR d l↔ ∃x∈l, ∃y:Nat,y<d.next.length/\ ∃z:Nat,z<d.next.length/\EF d ((y:Nat):Int) x.set ((z:Nat):Int)≠BSet.zero/\
    a=⟨x.frm * ((d.next.length:Nat):Int)+((y:Nat):Int),x.to * ((d.next.length:Nat):Int)+((z:Nat):Int),EF d ((y:Nat):Int) x.set ((z:Nat):Int),x.out,x.copy⟩:=by
  unfold GR Jy limZ;simp only [List.mem_flatMap,List.mem_map,List.mem_filter,List.mem_range,iL];exact ⟨λ⟨x,hx,y,hy,z,⟨h1,h2⟩,e⟩=>⟨x,hx,y,hy,z,h1,h2,e.symm⟩,λ⟨x,hx,y,hy,z,h1,h2,e⟩=>⟨x,hx,y,hy,z,⟨h1,h2⟩,e.symm⟩⟩
theorem y9_{n s s' y y':Int}(h0:0<=y/\y<n)(h1:0<=y'/\y'<n)(h:s * n+y=s' * n+y'):s=s'/\y=y':=by
  have hn:n≠0:=by omega
  have e1:(y+s * n) / n=s:=by rw [Int.add_mul_ediv_right _ _ hn,Int.ediv_eq_zero_of_lt h0.1 h0.2,Int.zero_add]
  have e2:(y'+s' * n) / n=s':=by rw [Int.add_mul_ediv_right _ _ hn,Int.ediv_eq_zero_of_lt h1.1 h1.2,Int.zero_add]
  have e3:s=s':=by rw [<-e1,<-e2,Int.add_comm y,Int.add_comm y',h]
  subst e3;exact ⟨rfl,by omega⟩
theorem qq_{d:Dfa}{y:Int}(h:okS d y): ∃k:Nat,y=((k:Nat):Int)/\k<d.next.length:=by
  obtain ⟨h1,h2⟩:=h;exact ⟨y.toNat,by omega,by omega⟩
theorem sz_(d:Dfa)(y:Int)(b:UInt8)(w:T_1):qp d y (b::w)=qp d (dlt d y b) w:=rfl
theorem lim_fwd{t:Fst}{d:Dfa}(hd:kU d=true){s q:Int}{w o:T_1}(h:Wy t s w o q): ∀y,okS d y->Wy (IV t d) (s * ((d.next.length:Nat):Int)+y) w o (q * ((d.next.length:Nat):Int)+qp d y w):=by
  induction h with
  |nil s=>exact λy _=> .nil _
  | @cons w o q a b ha hb hw ih=>
    intro y hy;have hs:=(px_ hd hy b).nx;have k:=ih _ hs;obtain ⟨i,rfl,hi⟩:=qq_ hy;obtain ⟨j,ej,hj⟩:=qq_ hs;rw [sz_];have hA:(⟨a.frm * ((d.next.length:Nat):Int)+((i:Nat):Int),a.to * ((d.next.length:Nat):Int)+dlt d ((i:Nat):Int) b,EF d ((i:Nat):Int) a.set (dlt d ((i:Nat):Int) b),a.out,a.copy⟩:Arc)∈(IV t d).arcs:=
      qu_.2 ⟨a,ha,i,hi,j,hj,by rw [<-ej];exact lset_ne hb rfl,by rw [ej]⟩
    exact Wy.cons (t:=IV t d) _ b hA (nb_.2 ⟨hb,rfl⟩) k
theorem z9_{t:Fst}{d:Dfa}{s' q':Int}{w o:T_1}(h:Wy (IV t d) s' w o q'): ∀s y,okS d y->s'=s * ((d.next.length:Nat):Int)+y->okS d (qp d y w)/\ ∃q,q'=q * ((d.next.length:Nat):Int)+qp d y w/\Wy t s w o q:=by
  induction h with
  |nil s'=>exact λs y hy e=>⟨hy,s,e,.nil s⟩
  | @cons w o q' a b ha hb hw ih=>
    intro s y hy e;obtain ⟨x,hx,i,hi,j,hj,hz,rfl⟩:=qu_.1 ha;dsimp only at hb ih e;obtain ⟨h1,h2⟩:=nb_.1 hb;obtain ⟨rfl,rfl⟩:=y9_ ⟨Int.natCast_nonneg i,by omega⟩ hy e;obtain ⟨h3,q,h4,h5⟩:=ih x.to ((j:Nat):Int) ⟨Int.natCast_nonneg j,by omega⟩ rfl;rw [sz_,h2];exact ⟨h3,q,h4,Wy.cons x b hx h1 h5⟩
theorem rel_lim{t:Fst}{d:Dfa}(hd:kU d=true){w o:T_1}:Rel (IV t d) w o↔Rel t w o/\nth d.fin (qp d 0 w).toNat false=true:=by
  have h0:=ok0 hd;constructor
  · rintro ⟨x',hx',e',he',m,hw,rfl⟩
    obtain ⟨x,hx,rfl⟩:=ra_.1 hx';obtain ⟨e,he,y,hy,hf,rfl⟩:=rh_.1 he';dsimp only at hw ⊢;obtain ⟨h1,q,h2,h3⟩:=z9_ hw x.state 0 h0 (by omega);obtain ⟨rfl,h5⟩:=y9_ ⟨Int.natCast_nonneg y,by omega⟩ h1 h2;refine ⟨⟨x,hx,e,he,m,h3,rfl⟩,?_⟩;rw [<-h5,nI];exact hf
  rintro ⟨⟨x,hx,e,he,m,hw,rfl⟩,hf⟩;have k:=lim_fwd hd hw 0 h0;rw [Int.add_zero]at k;obtain ⟨j,ej,hj⟩:=qq_ (tx_ hd w h0);rw [ej]at hf k;rw [nI]at hf;exact ⟨_,ra_.2 ⟨x,hx,rfl⟩,_,rh_.2 ⟨e,he,j,hj,hf,rfl⟩,m,k,rfl⟩
theorem Lr{n s y m:Int}(hs:0<=s/\s<m)(hy:0<=y/\y<n):0<=s * n+y/\s * n+y<m * n:=by
  have h1:0<=s * n:=Int.mul_nonneg hs.1 (by omega);have h2:(s+1) * n<=m * n:=Int.mul_le_mul_of_nonneg_right (by omega) (by omega);rw [Int.add_mul,Int.one_mul]at h2;omega
end Go.Proofs.YtcfgkcfcddfccaaGreatDoor
end

noncomputable section
namespace Go.Proofs.YtcfgkcfcddfccaaGreatDoor
open Go Go.E Go.E.OpVal Go.E.OpOk Go.Proofs.Tryz
open List (replicate)
def Ez_(ng:Nat)(vg:FM Int BSet):Option (((FM Int BSet)×Nat)⊕((FM Int BSet))):=
 nxt (vg,(ng+1))
def Cl_(x0:Dfa)(x2:BSet)(x1:Int)(zX:FM Int BSet)(ng:Nat):Option (((FM Int BSet)×Nat)⊕((FM Int BSet))):=
 iteO (decide ((ng:Int)<(x0.cls.length:Int))) (iteO (x2.has (jd (ng:Int)).toNat) (grd (0<=x1/\x1<(x0.next.length:Int)) (grd (0<=(nth x0.cls ng 0)/\(nth x0.cls ng 0)<((nth x0.next x1.toNat []).length:Int)) (grd ([(jd (ng:Int))].length<=1000000000000) (bnd (Xl (zX.get (nth (nth x0.next x1.toNat []) ((nth x0.cls ng 0).toNat) 0) BSet.zero) (BSet.ofL [(jd (ng:Int))])) (λv38=>Ez_ ng (zX.put (nth (nth x0.next x1.toNat []) ((nth x0.cls ng 0).toNat) 0) v38)))))) (Ez_ ng zX)) (fin (some zX))
def In_(x0:Dfa)(x1:Int)(x2:BSet):Option ((FM Int BSet)):=
 iter (λq:(FM Int BSet)×Nat=>Cl_ x0 x2 x1 q.1 q.2) ((FM.emp:FM Int BSet),0)
theorem Mn_{σ:aj}{x0:Dfa}{x1:Int}{x2:BSet}(aC:dH σ ak aB aA x0.cls)(aV:RZ σ (aF 1 ak aT) (.slice ay x0.next.length aH) x0.next)(aS:dH σ dG aG au x0.fin){r:(FM Int BSet)}(hh:In_ x0 x1 x2=some r):
  Con prog 64 #[.agg #[.slice aB x0.cls.length aA,.slice ay x0.next.length aH,.slice aG x0.fin.length au],.int .i64 x1,vk x2] σ [] (λv σ' H'=> ∃(br1:Option Nat),v= .map br1/\σ=σ'/\H'=[Γ gX vk br1 r]):=by
 dsimp only [In_]at hh;have f0_0b:=aC.rv.big;have f0_1b:=aV.big;refine cM 44 Tryz.func64 (λw0=> ?_);refine R2 ?_;refine TL.bx (λOZ=> ?_);refine TL.bx (λb104=> ?_);refine R4 ?_;refine φ z (as_ (enc:=gX) (encV:=vk) z z z (λyh=> ?_));refine R11 ?_;refine TC.lp hh () (rgs [(8,3),(15,28)]) (λ⟨zX,ng⟩ _=>([(15,.int .i64 (ng:Int))],[ω OZ #[.slice aB x0.cls.length aA,.slice ay x0.next.length aH,.slice aG x0.fin.length au] 35,ω b104 (setA x2) 47,Γ gX vk (some yh) zX])) (ψ [1,2] 3) ?_;rintro ⟨zX,ng⟩ _ _ z1 hh hR1;dsimp only [Cl_]at hh ⊢;refine R5 ?_;refine π z hh (λjI hh=> ?_) (λjI hh=> ?_)
 ·refine R1 ?_;refine TC.cutG (α:=((FM Int BSet))×(Unit)) (rgs [(8,3),(17,25)]) (λg=>[]) (λg=>[ω OZ #[.slice aB x0.cls.length aA,.slice ay x0.next.length aH,.slice aG x0.fin.length au] 35,ω b104 (setA x2) 47,Γ gX vk (some yh) g.1]) (λg=>σ) (λg=>Ez_ ng g.1=some z1) ?_ (λg j hg=> ?_)
  ·refine R13 ?_;refine ι z (EN z um yw z) (φ z (gI (np_ _ x2 (jd (ng:Int)).toNat (BSet.isOk _) (UInt8.toNat_lt _)) z z tu_ z z z ?_));refine R1 ?_;refine TC.cB z hh (λh116 hh=> ?_) (λh116 hh=> ?_)
   ·refine R5 ?_;obtain ⟨u23,hh⟩:=gd hh;refine ι z iX ?_;obtain ⟨Bo,oP,hg117⟩:=RZ.seg aV x1.toNat (by omega);replace oP:dH _ ak Bo.1 Bo.2 (nth x0.next x1.toNat []):=oP;have hk117b:=oP.rv.big;refine ι z (OpVal.of (qw z pV z hg117 z) (v':= .slice Bo.1 ((nth x0.next x1.toNat []).length) Bo.2) z) (TL.i z z ?_);obtain ⟨u26,hh⟩:=gd hh;refine R4 ?_;obtain ⟨u37,hh⟩:=gd hh;obtain ⟨v38,u38,hh⟩:=bg hh;refine TC.dw [10] (ν 0 z (bv_ (.inl z) z) z (ν 1 z mI z (ν 2 z (bv_ (.inl z) z) z (ν 3 z mI z (χ 4 z (OpVal.of (ds_ BSet.zero (q:=(nth (nth x0.next x1.toNat []) ((nth x0.cls ng 0).toNat) 0)) z underlying98 PK z (i:=2) z z (ri_ um)) (v':=vk (zX.get (nth (nth x0.next x1.toNat []) ((nth x0.cls ng 0).toNat) 0) BSet.zero)) z) z (ν 5 z mI z (ν 6 z (EN z um yw z) z (υ 7 z (jc (enc:=jo) [(jd (ng:Int))] (λCZ CP=>(k1 ?_)))))))))));refine υ 8 z (ZL (u0_ _ _ _ [(jd (ng:Int))] u37) z z Qq z z z z (k0 ?_));refine υ 9 z (gI (Km_ u38) z z Lc z z z (k0 ?_));refine Ω 2 (TA.la 10 z z z (updB (nth (nth x0.next x1.toNat []) ((nth x0.cls ng 0).toNat) 0) v38 z underlying98 z z z z (ri_ um) ?_));refine R1 ?_;exact cf ((zX.put (nth (nth x0.next x1.toNat []) ((nth x0.cls ng 0).toNat) 0) v38),()) hh (ψ [2,2] 3)
   refine R1 ?_;exact cf (zX,()) hh (ψ [2,2,2] 3)
  obtain ⟨vg,_⟩:=g;have hh:=hg;clear hg
  try dsimp only
  dsimp only [Ez_]at hh;refine R4 ?_;exact nxq hR1 hh () (ψ [2,2,2] 3)
 refine R1 ?_;replace hh:=bJ hR1 hh;refine R6 ?_;refine Θ (ψ [2] 1) (η ?_);obtain rfl:=so hh;exact rz
end Go.Proofs.YtcfgkcfcddfccaaGreatDoor
end

noncomputable section
namespace Go.Proofs.YtcfgkcfcddfccaaGreatDoor
open Go Go.Shelf
def aaf_:Go.Shelf.Ren:=⟨fun|7=>66|10=>129|n=>n,fun|23=>98|26=>3|3=>47|28=>76|0=>0|27=>75|33=>159|4=>4|n=>n,fun|n=>n⟩
theorem layK:Go.Proofs.SlLaysZI.n7 Tryz.prog aaf_:={
  mixed:=by kernel_rfl,
  f7:=⟨Tryz.f66.name,by decide,Tryz.func66.trans (congrArg some (by kernel_rfl))⟩,
  f10:=⟨Tryz.f129.name,by decide,Tryz.func129.trans (congrArg some (by kernel_rfl))⟩,
  t0:=Tryz.underlying0,
  a0:=Tryz.isAgg0,
  z0:=Tryz.sizeOf0,
  v0:=Tryz.zeroValue0,
  t4:=Tryz.underlying4,
  a4:=Tryz.isAgg4,
  z4:=Tryz.sizeOf4,
  v4:=Tryz.zeroValue4,
  t23:=Tryz.underlying98,
  a23:=Tryz.isAgg98,
  z23:=Tryz.sizeOf98,
  v23:=Tryz.zeroValue98,
  t26:=Tryz.underlying3,
  a26:=Tryz.isAgg3,
  z26:=Tryz.sizeOf3,
  v26:=Tryz.zeroValue3,
  t27:=Tryz.underlying75,
  a27:=Tryz.isAgg75,
  z27:=Tryz.sizeOf75,
  v27:=Tryz.zeroValue75,
  t28:=Tryz.underlying76,
  a28:=Tryz.isAgg76,
  z28:=Tryz.sizeOf76,
  v28:=Tryz.zeroValue76,
  t33:=Tryz.underlying159,
  a33:=Tryz.isAgg159,
  z33:=Tryz.sizeOf159,
  v33:=Tryz.zeroValue159}
def x6_:Go.Shelf.Ren:=⟨fun|10=>129|n=>n,fun|33=>159|23=>98|0=>0|4=>4|26=>3|3=>47|n=>n,fun|n=>n⟩
theorem layK1:Go.Proofs.SlLaysZI.n10 Tryz.prog x6_:={
  mixed:=by kernel_rfl,
  f10:=⟨Tryz.f129.name,by decide,Tryz.func129.trans (congrArg some (by kernel_rfl))⟩,
  t0:=Tryz.underlying0,
  a0:=Tryz.isAgg0,
  z0:=Tryz.sizeOf0,
  v0:=Tryz.zeroValue0,
  t4:=Tryz.underlying4,
  a4:=Tryz.isAgg4,
  z4:=Tryz.sizeOf4,
  v4:=Tryz.zeroValue4,
  t23:=Tryz.underlying98,
  a23:=Tryz.isAgg98,
  z23:=Tryz.sizeOf98,
  v23:=Tryz.zeroValue98,
  t26:=Tryz.underlying3,
  a26:=Tryz.isAgg3,
  z26:=Tryz.sizeOf3,
  v26:=Tryz.zeroValue3,
  t33:=Tryz.underlying159,
  a33:=Tryz.isAgg159,
  z33:=Tryz.sizeOf159,
  v33:=Tryz.zeroValue159}
def x9_:Go.Shelf.Ren:=⟨fun|6=>65|8=>127|9=>128|11=>174|13=>176|12=>175|23=>206|24=>207|14=>197|15=>198|16=>199|17=>200|18=>201|19=>202|20=>203|21=>204|22=>205|25=>230|26=>231|27=>232|28=>233|29=>234|30=>190|31=>251|n=>n,fun|26=>3|28=>76|24=>31|0=>0|3=>3|37=>181|48=>263|50=>45|4=>4|40=>257|39=>256|45=>158|5=>5|9=>9|51=>276|55=>280|57=>293|58=>294|33=>159|n=>n,fun|n=>n⟩
theorem layK6:Go.Proofs.SlLaysZI.n6 Tryz.prog x9_:={
  mixed:=by kernel_rfl,
  f6:=⟨Tryz.f65.name,by decide,Tryz.func65.trans (congrArg some (by kernel_rfl))⟩,
  f8:=⟨Tryz.f127.name,by decide,Tryz.func127.trans (congrArg some (by kernel_rfl))⟩,
  f11:=⟨Tryz.f174.name,by decide,Tryz.func174.trans (congrArg some (by kernel_rfl))⟩,
  t0:=Tryz.underlying0,
  a0:=Tryz.isAgg0,
  z0:=Tryz.sizeOf0,
  v0:=Tryz.zeroValue0,
  t24:=Tryz.underlying31,
  a24:=Tryz.isAgg31,
  z24:=Tryz.sizeOf31,
  v24:=Tryz.zeroValue31,
  t26:=Tryz.underlying3,
  a26:=Tryz.isAgg3,
  z26:=Tryz.sizeOf3,
  v26:=Tryz.zeroValue3,
  t28:=Tryz.underlying76,
  a28:=Tryz.isAgg76,
  z28:=Tryz.sizeOf76,
  v28:=Tryz.zeroValue76,
  i26:=by kernel_rfl}
end Go.Proofs.YtcfgkcfcddfccaaGreatDoor
end

noncomputable section
namespace Go.E
open Go
def _root_.Go.Result.w{α:Type}:Result α->World
  | .ok _ w=>w
  | .halt _ w=>w
theorem ow_{p:Program}{w:World}{at_ u a v b}{r:World×List Addr}(h:w.viewStore p at_ u a v b= .ok r):r.1.drawn=w.drawn:=by
  unfold World.viewStore at h;simp only [bind,Except.bind,pure,Except.pure]at h
  repeat (split at h<;>try (cases h;done))
  all_goals (first|(cases h;rfl)|skip)
theorem o4_{p:Program}{w:World}{a v b}{r:World×List Addr}(h:w.farStore p a v b= .ok r):r.1.drawn=w.drawn:=by
  unfold World.farStore at h
  split at h
  · split at h
    · rename_i h2;cases h;exact ow_ h2
    cases h
  cases h
theorem zh_{α:Type}: ∀(a:Ask α) (w:World),w.drawn<=(w.ask a).2.drawn:=by
  intro a
  induction a with
  |done a=>intro w;exact Nat.le_refl _
  |ask what range k ih=>
    intro w;unfold World.ask;dsimp only
    split
    · exact ih _ w
    exact Nat.le_trans (Nat.le_succ _) (ih _ {w with drawn:=w.drawn+1})
theorem sp_(w:World)(c:Sys):w.drawn<=(w.sys c).2.drawn:=by
  unfold World.sys;have:=zh_ (Kernel.perform c w.os) w
  split
  · exact Nat.le_refl _
  rename_i h;rw [h]at this;exact this
theorem kz_ {α : Type} (p : Program) : ∀ (m : Sem α) (w : World), w.drawn <= (m.run p w).w.drawn := by
  intro m
  induction m with
  |pure a=>intro w;exact Nat.le_refl _
  |load m a k ih=>
    intro w;unfold Sem.run
    split
    · exact ih _ w
    split
    · exact ih _ w
    exact Nat.le_refl _
  | store m a v k ih =>
    intro w;have go:w.drawn<=(match w.cell? a with
        | some _ => if w.frozen? a then Result.halt (.unsupported (.unsafePointer "a write to bytes that a string shares")) w else k.run p (w.setCell a v)
        |none=>match w.farStore p a v (m == Mode.atomic)with
          | .ok (w,_)=>k.run p w
          | .error h=> .halt h w).w.drawn:=by
      split
      · split
        · exact Nat.le_refl _
        exact ih (w.setCell _ _)
      split
      · rename_i h;have:=o4_ h;dsimp only at this;rw [<-this];exact ih _
      exact Nat.le_refl _
    cases v<;>first|exact go|exact Nat.le_refl _
  |new o k ih=>intro w;exact ih _ {w with heap:=w.heap.push o}
  |shape r k ih=>intro w;exact ih _ _
  |freeze a n k ih=>
    intro w;have h:(w.freeze a n).drawn=w.drawn:=by unfold World.freeze;split<;>rfl
    show _<=(k.run p (w.freeze a n)).w.drawn;rw [<-h];exact ih _
  |frozen a k ih=>intro w;exact ih _ _
  |getObj r k ih=>intro w;unfold Sem.run;split<;>first|exact Nat.le_refl _|exact ih _ w
  |setObj r o k ih=>intro w;unfold Sem.run;split<;>first|exact Nat.le_refl _|exact ih {w with heap:=w.heap.setIfInBounds r o}
  |choose q k ih=>
    intro w;unfold Sem.run
    split
    · exact ih _ w
    exact Nat.le_trans (Nat.le_succ _) (ih _ {w with drawn:=w.drawn+1})
  |sys c k ih=>intro w;exact Nat.le_trans (sp_ w c) (ih _ _)
  |program k ih=>intro w;exact ih _ _
  |mark m k ih=>intro w;exact ih _
  |halt h=>intro w;exact Nat.le_refl _
theorem pu_{α:Type}(p:Program)(m:Sem α)(w:World)(es:Array Event):w.drawn<=(m.runT p w es).1.w.drawn:=by
  rw [Sem.runT_fst];exact kz_ p m w
theorem xg_{α:Type}{p:Program}{m:Sem α}{w:World}{es es':Array Event}{r:Result α}(h:m.runT p w es=(r,es')):w.drawn<=r.w.drawn:=by
  have:=pu_ p m w es;rw [h]at this;exact this
theorem xQ{α:Type}{p:Program}{m:Sem α}{w w':World}{v:α}(h:m.run p w= .ok v w'):w.drawn<=w'.drawn:=by
  have:=kz_ p m w;rw [h]at this;exact this
theorem EL{α:Type}{p:Program}{m:Sem α}{w w':World}{v:Halt}(h:m.run p w= .halt v w'):w.drawn<=w'.drawn:=by
  have:=kz_ p m w;rw [h]at this;exact this
def _root_.Go.GStep.w:GStep->World
  | .go _ w _=>w
  | .comm _ _ _ _ w _=>w
  | .spawn _ _ w _=>w
  | .count _ w _=>w
  | .timer _ _ w _=>w
  | .alone _ _ w _=>w
  | .newcoro _ _ _ w _=>w
  | .coroswitch _ _ _ w _=>w
  | .collect _ w _=>w
  | .watch _ w _=>w
  | .ended _ w _=>w
theorem LD(es:Array Event)(s:GStep):(GStep.after es s).w=s.w:=by cases s<;>rfl
theorem rp_(w:World)(fd:Nat)(t:ByteArray)(o:Outcome):w.drawn<=(endWith w fd t o).w.drawn:=by
  unfold endWith;have h:=sp_ w (.write fd t);dsimp only
  split<;>rename_i h2<;>rw [h2]at h
  · split<;>exact h
  · exact h
  exact h
theorem lf_(p:Program)(fr:Frame)(v:Value)(w:World):(endPrinting p fr v w).w=w:=by
  unfold endPrinting;dsimp only
  repeat (first|rfl|split)
theorem kg_(p:Program)(fr:Frame)(cs:List Frame)(d:Option Dying)(m:String)(w:World):w.drawn<=(endFatal p fr cs d m w).w.drawn:=by
  unfold endFatal;dsimp only
  split<;>rename_i h2
  · exact xQ h2
  · exact EL h2
  exact EL h2
theorem h9_(p:Program)(main:Bool)(fr:Frame)(cs:List Frame)(d:Option Dying)(v:Value)(w:World):(doReturn p main fr cs d v w).w=w:=by
  unfold doReturn
  repeat (first|rfl|split)
theorem UJ{c:Prop}[Decidable c]{a b:GStep}{n:Nat}(h1:n<=a.w.drawn)(h2:n<=b.w.drawn):n<=(if c then a else b).w.drawn:=by
  split
  · exact h1
  exact h2
theorem lc_(p:Program)(fr:Frame)(cs:List Frame)(dy:Option Dying)(d:Deferred)(w:World):w.drawn<=(callDeferred p fr cs dy d w).w.drawn:=by
  unfold callDeferred;refine UJ (Nat.le_refl _) ?_;have h:=pu_ p (invoke d.target d.args) w #[];generalize (invoke d.target d.args).runT p w #[]=q at h ⊢;obtain ⟨r,es⟩:=q;dsimp only at h ⊢;rw [LD]
  split<;>first|exact h|(exact Nat.le_trans h (kg_ ..))|(split<;>exact h)
theorem sn_(p:Program)(main:Bool)(fr:Frame)(cs:List Frame)(dy:Option Dying)(w:World):w.drawn<=(unwind p main fr cs dy w).w.drawn:=by
  unfold unwind
  split
  · split
    rename_i r es hq
    have h0:=xg_ hq;rw [LD]
    split<;>exact h0
  · exact lc_ ..
  split
  · exact Nat.le_refl _
  · split
    · exact Nat.le_refl _
    split
    · exact Nat.le_refl _
    split
    · split
      · exact Nat.le_refl _
      split<;>rename_i h2<;>first|exact xQ h2|exact EL h2
    split
    · rw [lf_];exact Nat.le_refl _
    exact Nat.le_refl _
  split
  · rw [h9_];exact Nat.le_refl _
  split
  rename_i r es hq
  have h0:=xg_ hq;rw [LD]
  split
  · rw [h9_];exact h0
  · exact h0
  exact h0
theorem te_(p:Program)(fr:Frame)(cs:List Frame)(dy:Option Dying)(g:Nat)(w:World):w.drawn<=(early p fr cs dy g w).w.drawn:=by
  unfold early;dsimp only
  repeat (first|exact Nat.le_refl _|split)
  all_goals (dsimp only [GStep.w];first|exact xQ (by assumption)|exact EL (by assumption))
theorem rb_(p:Program)(fr:Frame)(d:Dying)(f:Fatal)(w:World):w.drawn<=(writeOn p fr d f w).w.drawn:=by
  unfold writeOn;dsimp only
  split
  · exact Nat.le_refl _
  split<;>rename_i hq<;>exact xg_ hq
theorem zc_(p:Program)(fr:Frame)(d:Dying)(w:World):w.drawn<=(die p fr d w).w.drawn:=by
  unfold die
  split
  · exact rb_ ..
  split
  · split
    · exact Nat.le_refl _
    exact rp_ ..
  dsimp only
  split
  · exact Nat.le_refl _
  · split<;>rename_i h2<;>first|exact xQ h2|exact EL h2
  · rw [LD]
    split<;>first|exact Nat.le_refl _|(rename_i hq;rw [Sem.runT_fst]at hq;first|exact xQ hq|exact EL hq|(rw [lf_];exact EL hq))
  exact Nat.le_refl _
theorem qr_(p:Program)(fr:Frame)(cs:List Frame)(dy:Option Dying)(s:Sem Next)(w:World)(li:Bool):w.drawn<=(stepG.apply p li fr cs dy s w).w.drawn:=by
  unfold stepG.apply;have e:(if li=true then s.runT p w #[] else (s.run p w, #[])).1=s.run p w:=by
    split
    · exact Sem.runT_fst ..
    rfl
  dsimp only;rw [LD,e];have h:=kz_ p s w;generalize s.run p w=r at h ⊢
  split<;>first|exact h|(split<;>exact h)|exact Nat.le_trans h (kg_ ..)|exact Nat.le_trans h (te_ ..)|(split<;>first|exact h|(split<;>exact h))|exact UJ h h
theorem p1_(p:Program)(fr:Frame)(cs:List Frame)(dy:Option Dying)(w:World)(li:Bool):w.drawn<=(stepG.oper p li fr cs dy w).w.drawn:=by
  unfold stepG.oper
  split
  · exact Nat.le_refl _
  split<;>exact qr_ ..
theorem wb_ (p : Program) (main : Bool) (fr : Frame) (cs : List Frame) (dy : Option Dying) (w : World) (li : Bool) : w.drawn <= (stepG.exec p main li fr cs dy w).w.drawn := by
  unfold stepG.exec;dsimp only
  split
  all_goals try (with_reducible exact qr_ ..)
  all_goals try (with_reducible exact p1_ ..)
  all_goals try (dsimp only [GStep.w];with_reducible exact Nat.le_refl _)
  · split
    · exact UJ (Nat.le_refl _) (Nat.le_refl _)
    rw [LD]
    split
    · rename_i hq
      rw [Sem.runT_fst]at hq;rw [h9_];exact xQ hq
    rename_i hq
    rw [Sem.runT_fst]at hq;exact EL hq
  · split
    · exact UJ (Nat.le_refl _) (Nat.le_refl _)
    rw [LD]
    split
    · rename_i hq
      rw [Sem.runT_fst]at hq;rw [h9_];exact xQ hq
    rename_i hq
    rw [Sem.runT_fst]at hq;exact EL hq
  · split<;>exact Nat.le_refl _
  · generalize exitTo _ _=q
    cases q with
    |some t=>exact Nat.le_refl _
    |none=>
      dsimp only [Option.elim]
      split
      · exact UJ (Nat.le_refl _) (Nat.le_refl _)
      rw [LD]
      split
      · rename_i hq
        rw [Sem.runT_fst]at hq;rw [h9_];exact xQ hq
      rename_i hq
      rw [Sem.runT_fst]at hq;exact EL hq
  · generalize gotoIn _ _=q
    cases q with
    |some t=>exact Nat.le_refl _
    |none=>
      dsimp only [Option.elim]
      split
      · exact UJ (Nat.le_refl _) (Nat.le_refl _)
      rw [LD]
      split
      · rename_i hq
        rw [Sem.runT_fst]at hq;rw [h9_];exact xQ hq
      rename_i hq
      rw [Sem.runT_fst]at hq;exact EL hq
  · rw [LD]
    split
    · rename_i hq
      rw [Sem.runT_fst]at hq;exact Nat.le_trans (xQ hq) (qr_ ..)
    rename_i hq
    rw [Sem.runT_fst]at hq;exact EL hq
  · rw [LD]
    split
    · rename_i hq
      rw [Sem.runT_fst]at hq;exact xQ hq
    · rename_i hq
      rw [Sem.runT_fst]at hq;exact EL hq
    rename_i hq
    rw [Sem.runT_fst]at hq;exact EL hq
  · generalize Extern.next _=q
    cases q with
    |none=>exact Nat.le_refl _
    |some e=>exact qr_ ..
  · refine UJ (Nat.le_refl _) ?_
    split
    · rename_i hq
      exact xQ hq
    rename_i hq
    exact EL hq
  exact UJ (p1_ ..) (Nat.le_refl _)
theorem step_le(p:Program)(main:Bool)(g:Goroutine)(w:World)(li:Bool):w.drawn<=(stepG p main g w li).w.drawn:=by
  unfold stepG;dsimp only
  split
  · exact zc_ ..
  · exact wb_ ..
  exact sn_ ..
def SL(n:Nat):Stepped->Prop
  | .next m=>n<=m.world.drawn
  | .ended _ _=>True
theorem pp_(p:Program)(gs:Array Goroutine)(rest:Rest)(w:World):SL w.drawn (look p gs rest w):=by
  unfold look
  split
  · dsimp only
    split
    · trivial
    split
    · trivial
    split
    · rename_i hq;exact Nat.le_trans (xQ hq) (Nat.le_refl _)
    · trivial
    trivial
  trivial
theorem oa_{rest:Rest}{cases:Array CommCase}{w w':World}(h:waitingAt rest cases w=some w'):w'.drawn=w.drawn:=by
  unfold waitingAt at h
  split at h
  · split at h
    · cases h;rfl
    cases h
  cases h;rfl
theorem t9_(p:Program)(m:Machine)(k:Nat):SL m.world.drawn (serve p m k):=by
  unfold serve
  split
  · trivial
  · exact Nat.le_refl _
  dsimp only
  split
  · trivial
  exact Nat.le_refl _
theorem l2_(p:Program)(rest:Rest)(gs:Array Goroutine)(i:Nat)(g:Goroutine)(cases:Array CommCase)(bl:Bool)(sh:CommShape)(w:World):SL w.drawn (communicate p rest gs i g cases bl sh w).1:=by
  unfold communicate;dsimp only
  split
  · trivial
  split
  · split
    · split
      · rename_i h;show w.drawn<=_;exact Nat.le_of_eq (oa_ h).symm
      trivial
    exact Nat.le_refl _
  split
  · trivial
  rename_i hq
  have h:=xQ hq
  split
  · split
    · rename_i hr;exact Nat.le_trans (Nat.le_trans h (EL hr)) (Nat.le_refl _)
    trivial
  · exact h
  · exact h
  · split
    · exact h
    split
    · rename_i hr;exact Nat.le_trans (Nat.le_trans h (xQ hr)) (Nat.le_refl _)
    trivial
  · exact h
  · exact h
  trivial
theorem drain_w(w:World)(c:Nat):(drain w c).2.drawn=w.drawn:=by
  unfold drain
  split<;>rfl
theorem uw_(m:Machine)(k:Nat)(t:Timer)(a b:Nat):(retime m k t a b).2.world.drawn=m.world.drawn:=by
  unfold retime;dsimp only;cases t.chan with
  |none=>rfl
  |some c=>exact drain_w ..
theorem ys_ {m m' : Machine} {op : TimerOp} {v : Value} (h : timerOp m op = .ok (v, m')) : m'.world.drawn = m.world.drawn := by
  have named: ∀{m0:Machine} {var:Addr} {f:Nat->Timer->Value×Machine},(∀k t,(f k t).2.world.drawn=m.world.drawn)->timerOp.named m0 var f= .ok (v,m')->m'.world.drawn=m.world.drawn:=λ{m0 var f} hf h=>by
    unfold timerOp.named at h
    split at h
    · rename_i k _
      have:=hf k (m0.rest.timers.getD k default);have h2:=Except.ok.inj h;rw [h2]at this;exact this
    cases h
  unfold timerOp at h
  split at h
  · split at h
    · cases h;rfl
    split at h
    · split at h
      · cases h
      cases h;rfl
    cases h
  · exact named (λk t=>uw_ ..) h
  · split at h
    · rename_i hm
      refine named (λk t=> ?_) h;rw [uw_];unfold timerOp.opened at hm
      split at hm
      · split at hm
        · cases hm;rfl
        cases hm
      cases hm;rfl
    cases h
  cases h;rfl
theorem runT_le(p:Program)(m:Machine)(i:Nat)(li:Bool):SL m.world.drawn (runT p m i li).1:=by
  unfold runT;dsimp only;generalize m.gs.swapAt! i {(default:Goroutine)with status:= .finished}=q
  obtain ⟨g,gs⟩:=q;dsimp only;have h:=step_le p (i == 0) g m.world li;generalize stepG p (i == 0) g m.world li=s at h ⊢;cases s with
  |ended o w es=>trivial
  |comm g cases bl sh w es=>
    have:=l2_ p m.rest gs i g cases bl sh w;dsimp only [GStep.w]at h ⊢;generalize (communicate p m.rest gs i g cases bl sh w).1=r at this ⊢;cases r with
    |next m'=>exact Nat.le_trans h this
    |ended _ _=>trivial
  |go g w es=>exact h
  |spawn g c w es=>exact h
  |count g w es=>
    dsimp only
    split
    · trivial
    exact h
  |alone g on w es=>exact h
  |collect g w es=>
    have:=pp_ p (gs.setIfInBounds i g) m.rest w;dsimp only [GStep.w]at h ⊢;generalize look p (gs.setIfInBounds i g) m.rest w=r at this ⊢;cases r with
    |next m'=>exact Nat.le_trans h this
    |ended _ _=>trivial
  |watch g w es=>exact h
  |newcoro g c d w es=>exact h
  |coroswitch g c ex w es=>
    dsimp only
    split
    · exact h
    · exact h
    trivial
  |timer g op w es=>
    dsimp only
    split
    · rename_i hq
      have:=ys_ hq;exact Nat.le_trans h (Nat.le_of_eq this.symm)
    · exact h
    · trivial
    trivial
def ML(n:Nat):Move->Prop
  | .goroutine m _=>n<=m.world.drawn
  | .machine s _=>SL n s
theorem SL.mono{n k:Nat}{s:Stepped}(h:SL k s)(hn:n<=k):SL n s:=by
  cases s with
  |next m=>exact Nat.le_trans hn h
  |ended _ _=>trivial
theorem ks_ (p : Program) (m : Machine) : ML m.world.drawn (askOn p m) := by
  unfold askOn;dsimp only;have pick: ∀(m0:Machine) (rs:List Nat),m.world.drawn<=m0.world.drawn->ML m.world.drawn (match (choose (.sched rs.length)).run p m0.world with
      | .halt _ w => .machine (.ended (.stuck "sched" "") w)
      | .ok k world=>
        if rs.length<=1 then .goroutine {m0 with world} (rs.getD k 0) else
        match (choose (.extern "sched.slice" 65536)).run p world with
        | .halt _ w => .machine (.ended (.stuck "sched.slice" "") w)
        | .ok n world=> .goroutine {m0 with world,rest:={m0.rest with slice:=if n=0 then none else some (rs.getD k 0,n)}} (rs.getD k 0)):=λm0 rs h=>by
    split
    · trivial
    rename_i hq
    split
    · exact Nat.le_trans h (xQ hq)
    split
    · trivial
    rename_i hr
    exact Nat.le_trans (Nat.le_trans h (xQ hq)) (xQ hr)
  split
  · trivial
  rename_i k wd hq
  have h:=xQ hq
  split
  · exact SL.mono (t9_ p _ _) h
  split
  · split
    · exact h
    split
    · exact h
    split<;>trivial
  split
  · exact pick {m with world:=wd} _ h
  split
  · trivial
  · rename_i w2 hr
    exact pick {m with world:=w2} _ (Nat.le_trans h (xQ hr))
  · rename_i w2 hr
    exact Nat.le_trans (Nat.le_trans h (xQ hr)) (Nat.le_refl _)
  rename_i k2 w2 hr
  exact pick (Machine.advanceTo {m with world:=w2} _) _ (Nat.le_trans (Nat.le_trans h (xQ hr)) (Nat.le_refl _))
theorem ML.mono{n k:Nat}{s:Move}(h:ML k s)(hn:n<=k):ML n s:=by
  cases s with
  |goroutine m _=>exact Nat.le_trans hn h
  |machine s _=>exact SL.mono h hn
theorem ask_m (p : Program) (m : Machine) : ML m.world.drawn (ask p m) := by
  unfold ask
  split
  · split
    · trivial
    · rename_i w2 hq
      have:=pp_ p m.gs m.rest w2
      split
      · rename_i hl
        rw [hl]at this;exact ML.mono (ks_ p _) (Nat.le_trans (xQ hq) this)
      exact SL.mono this (xQ hq)
    rename_i hq
    exact ML.mono (ks_ p _) (xQ hq)
  exact ks_ p m
theorem v1_(p:Program)(m:Machine):ML m.world.drawn (move p m):=by
  unfold move
  split
  · split
    · exact Nat.le_refl _
    trivial
  split
  · split
    · exact Nat.le_refl _
    exact ask_m p _
  exact ask_m p m
theorem wa_{p:Program}{m m':Machine}(h:step p m= .next m'):m.world.drawn<=m'.world.drawn:=by
  have hm:=v1_ p m;unfold step stepT at h;generalize move p m=mv at hm h;cases mv with
  |goroutine m0 i=>
    have:=runT_le p m0 i true;dsimp only at h;rw [h]at this;exact Nat.le_trans hm this
  |machine s ops=>
    dsimp only at h;rw [h]at hm;exact hm
theorem t4_{p:Program}{m m':Machine}(h:Steps p m m'):m.world.drawn<=m'.world.drawn:=by
  have h':=StepsIn.of_steps h;clear h
  induction h' with
  |refl=>exact Nat.le_refl _
  |head _ hs _ ih=>exact Nat.le_trans (wa_ hs) ih
theorem od_{P:Program}{f:FuncId}{args:Array Value}{w:World}{R:Ending->World->Prop}(h:Calls P f args w R)(hr: ∀e w',R e w'-> ∃v,e= .returned v):Calls P f args w λe w'=>R e w'/\w.drawn<=w'.drawn:=λcs=>by
  obtain ⟨e,w',fr,h1,h2,h3⟩:=h cs;obtain ⟨v,rfl⟩:=hr e w' h1;exact ⟨_,w',fr,⟨h1,t4_ (m:=lone _ cs w) h2⟩,h2,h3⟩
end Go.E
end

noncomputable section
namespace Go.E
open Go Go.RowKit Go.Maps Go.Sort Go.Shelf Go.Proofs
theorem Con.keysI{P:Program}{ρ:Ren}(L:SlLaysZI.n7 P ρ){σ:aj}{f g E:Nat}(hf:ρ.f 7=f)(hg:ρ.f 10=g)(hE:ρ.t 23=E)(b:Option Nat):
    Con P f #[.map b] σ [] (λv σ' H'=> ∃bm,v= .func (.func g) #[] #[.pointer (some ⟨bm,0,none⟩)]/\σ=σ'/\H'=[ω bm #[.map b] E]):=by
  subst hf hg hE;intro w hw;refine ((callsIn_wide (n:=5)).1 (AnyZI.keys_in L Fence.wide 5 trivial rfl b w)).mono λe w' ⟨h1,h2⟩=>⟨_,σ,_,h1,⟨w.heap.size,rfl,rfl,rfl⟩,?_⟩;subst h2;exact hw.b1_ _ _
def yP{V:Type}(m:FM Int V):List Int:=open Classical in if h: ∃l:List Int,l.Pairwise (· < ·)/\ ∀k,k∈l↔m.f k≠none then Classical.choose h else []
theorem w4_ : ∀ {l m : List Int}, l.Pairwise (· < ·) -> m.Pairwise (· < ·) -> (∀ k, k ∈ l ↔ k ∈ m) -> l = m
  |[],[],_,_,_=>rfl
  |[],y::m,_,_,h=>absurd ((h y).2 (iU ..)) List.not_mem_nil
  |x::l,[],_,_,h=>absurd ((h x).1 (iU ..)) List.not_mem_nil
  | x :: l, y :: m, h1, h2, h => by
    have a1:=List.pairwise_cons.1 h1;have a2:=List.pairwise_cons.1 h2;have e:x=y:=by
      rcases List.mem_cons.1 ((h x).1 (iU ..))with e|e
      · exact e
      rcases List.mem_cons.1 ((h y).2 (iU ..))with e2|e2
      · exact e2.symm
      have b1:=a2.1 x e;have b2:=a1.1 y e2;omega
    subst e;rw [w4_ a1.2 a2.2 λk=> ?_];constructor
    · intro hk
      rcases List.mem_cons.1 ((h k).1 (rM _ hk))with e|e
      · have:=a1.1 k hk
        omega
      exact e
    intro hk;rcases List.mem_cons.1 ((h k).2 (rM _ hk))with e|e
    · have:=a2.1 k hk
      omega
    exact e
theorem q3_{V:Type}{m:FM Int V}{l:List Int}(h1:l.Pairwise (· < ·))(h2: ∀k,k∈l↔m.f k≠none):yP m=l:=by
  unfold yP;have h: ∃l:List Int,l.Pairwise (· < ·)/\ ∀k,k∈l↔m.f k≠none:=⟨l,h1,h2⟩;rw [dif_pos h];obtain ⟨g1,g2⟩:=Classical.choose_spec h;exact w4_ g1 h1 λk=>(g2 k).trans (h2 k).symm
end Go.E
namespace Go.E
open Go Go.RowKit Go.Maps Go.Sort Go.Shelf Go.Proofs
abbrev RK:Value->Option (DataW Unit×List MemPlace):=λ_=>some (.lit (.bool true),[])
theorem own_of{V:Type}{P:Program}{K:Nat}(hK:P.underlying K=some (.int .i64)){encV:V->Value}{w:World}{b:Nat}{m:FM Int V}{zs:List (MapEntry×(Int×V))}{clock:Nat}(hR:Rep (zs.map Prod.snd) m)(hM:MapAt (Value.int .i64) encV w b zs clock)(hk: ∀k,m.f k≠none->(Lit.int .i64 k).wf=true)(hn:m.n<=1000000):
    ∃D:DataW Unit,w.ownsMap P K RK b m.n D/\Maps.size D=m.n/\(∀k,k∈intKeys D↔m.f k≠none)/\(intKeys D).Nodup:=by
  obtain ⟨⟨es,h1,h2⟩,h3,h4,h5,h6⟩:=hM;have hlen:es.size=m.n:=by rw [<-Array.length_toList,h2,List.length_map,<-hR.len,List.length_map]
  have hrd: ∀z∈zs,Go.WideElems.rd P K RK z.1=some ((.int .i64 z.2.1,.lit (.bool true)):Lit×DataW Unit):=λz hz=>by
    have hkey:keyOf P K z.1.key=some (.int .i64 z.2.1):=by
      rw [h3 z hz];have hw:=hk z.2.1 (by rw [(hR.mem z.2.1 z.2.2).1 (List.mem_map.2 ⟨z,hz,rfl⟩)];simp);simp [keyOf,hK,mapKey,hw]
    unfold Go.WideElems.rd;rw [hkey];rfl
  have mem_f: ∀(l:List (Lit×DataW Unit)) (y:Lit×DataW Unit),y∈l.foldr DataW.insert []↔y∈l:=λl y=>by
    induction l with
    |nil=>exact Iff.rfl
    |cons x l ih=>rw [List.foldr_cons,ChangeMaps.mem_insert_iff,ih,List.mem_cons]
  have len_f: ∀l:List (Lit×DataW Unit),(l.foldr DataW.insert []).length=l.length:=λl=>by
    induction l with
    |nil=>rfl
    |cons x l ih=>rw [List.foldr_cons,DataW.length_insert,ih,List.length_cons]
  refine ⟨_,⟨es,clock,h1,⟨by rw [hlen];unfold maxLen;omega,⟨λx hx=> ?_,?_,?_⟩,λx hx=> ?_⟩,Nat.le_of_eq hlen,rfl⟩,?_,λk=> ?_,?_⟩
  · rw [h2,List.mem_map]at hx
    obtain ⟨z,hz,rfl⟩:=hx;exact h5 z hz
  · rw [h2,List.map_map];exact h6
  · rw [h2,List.map_map]
    have hnd:=hR.nodup;rw [List.map_map]at hnd;have e:zs.map ((λx=>x.key) ∘ Prod.fst)=(zs.map (Prod.fst ∘ Prod.snd)).map (Value.int .i64):=by
      rw [List.map_map];exact List.map_congr_left λz hz=>h3 z hz
    rw [e];exact List.Pairwise.map _ (λa b hne hq=>hne (by cases hq;rfl)) hnd
  · rw [h2,List.mem_map]at hx
    obtain ⟨z,hz,rfl⟩:=hx;exact ⟨_,hrd z hz⟩
  · show (List.foldr DataW.insert [] _).length=_
    rw [len_f,List.length_map,Array.length_toList,hlen]
  · show k∈List.map _ (List.foldr DataW.insert [] _)↔_
    rw [List.mem_map];constructor
    · rintro ⟨y,hy,rfl⟩
      rw [mem_f,List.mem_map]at hy;obtain ⟨x,hx,rfl⟩:=hy;rw [h2,List.mem_map]at hx;obtain ⟨z,hz,rfl⟩:=hx;have e:Go.WideElems.rg P K RK z.1=(.int .i64 z.2.1,.lit (.bool true)):=by unfold Go.WideElems.rg;rw [hrd z hz];rfl
      rw [e];show m.f z.2.1≠none;rw [(hR.mem z.2.1 z.2.2).1 (List.mem_map.2 ⟨z,hz,rfl⟩)];simp
    intro hne;cases hv:m.f k with
    |none=>exact absurd hv hne
    |some v=>
      obtain ⟨z,hz,e⟩:=List.mem_map.1 ((hR.mem k v).2 hv);refine ⟨Go.WideElems.rg P K RK z.1,(mem_f _ _).2 (List.mem_map.2 ⟨z.1,by rw [h2];exact List.mem_map.2 ⟨z,hz,rfl⟩,rfl⟩),?_⟩;have e2:Go.WideElems.rg P K RK z.1=(.int .i64 z.2.1,.lit (.bool true)):=by unfold Go.WideElems.rg;rw [hrd z hz];rfl
      rw [e2];show z.2.1=k;rw [e]
  show (List.map _ (List.foldr DataW.insert [] _)).Nodup;have perm_f: ∀l:List (Lit×DataW Unit),(l.foldr DataW.insert []).Perm l:=λl=>by
    induction l with
    |nil=>exact List.Perm.refl _
    |cons x l ih=>exact (WideShapes.insert_perm x _).trans (ih.cons x)
  refine ((perm_f _).map _).nodup_iff.2 ?_;have hnd:=hR.nodup;rw [List.map_map]at hnd;rw [h2,List.map_map,List.map_map];have e:zs.map (((λp:Lit×DataW Unit=>intOf p.1) ∘ Go.WideElems.rg P K RK) ∘ Prod.fst)=zs.map (Prod.fst ∘ Prod.snd):=List.map_congr_left λz hz=>by
    show intOf (Go.WideElems.rg P K RK z.1).1=z.2.1;unfold Go.WideElems.rg;rw [hrd z hz];rfl
  rw [e];exact hnd
theorem sr_{V:Type}{m:FM Int V}{ss L:List Int}(hp:ss.Perm L)(hm: ∀k,k∈L↔m.f k≠none)(hnd:L.Nodup):ss.mergeSort (λx y=>decide (x<=y))=yP m:=by
  have hps:=List.mergeSort_perm ss (λx y=>decide (x<=y));have hn:(ss.mergeSort λx y=>decide (x<=y)).Nodup:=(hps.trans hp).nodup_iff.2 hnd;have hs:(ss.mergeSort λx y=>decide (x<=y)).Pairwise λx y=>decide (x<=y)=true:=List.pairwise_mergeSort (λa b c h1 h2=>by simp at *;omega) (λa b=>by simp;omega) ss;refine (q3_ ?_ λk=> ?_).symm
  · refine List.Pairwise.imp₂ (R:=λx y=>decide (x<=y)=true) (S:=λx y=>x≠y) (λa b h1 h2=>by simp at h1;omega) hs hn
  rw [(hps.trans hp).mem_iff];exact hm k
theorem Con.d7_{V:Type}{P:Program}{ρk ρs ρ9:Ren}(Lk:SlLaysZI.n10 P ρk)(Ls:SlLaysZI.n6 P ρs)(L9:Lays.n189 P ρ9)(h9:ρs.f 9=ρ9.f 189){encV:V->Value}{b bm T f g E:Nat}{m:FM Int V}{σ:aj}(hf:ρs.f 6=f)(hg:ρk.f 10=g)(hE:ρs.t 26=E)
    (e9: ∀args w,(callFunc (ρ9.f 189) args).run P w= .ok (.enter (ρ9.f 189) args) w) (eg: ∀args w,(callFunc g args).run P w= .ok (.enter g args) w) (hk: ∀k,m.f k≠none->(Lit.int .i64 k).wf=true) (hn:m.n<=1000000):
    Con P f #[.func (.func g) #[] #[.pointer (some ⟨bm,0,none⟩)]] σ [ω bm #[.map (some b)] T,Γ (Value.int .i64) encV (some b) m]
      (λv σ' H'=> ∃a c,v= .slice a (yP m).length c/\σ=σ'/\H'=[ε E 1 ak (.slice a (yP m).length c) (yP m),ω bm #[.map (some b)] T,Γ (Value.int .i64) encV (some b) m]):=by
  subst hf hg hE;intro w hw;have hc:w.heap[bm]? =some (.cells #[.map (some b)] T (0,0)):=hw.holds _ (iU ..);obtain ⟨zs,clock,hR,hM⟩:=(hw.holds _ (rM _ (iU ..))).2 b rfl;obtain ⟨D,hown,hsz,hkeys,hnd⟩:=own_of Lk.t26 hR hM hk hn;have hbm:bm<w.heap.size:=(Array.getElem?_eq_some_iff.1 hc).1;have hcell:w.cell? ⟨bm,0,none⟩=some (.map (some b)):=by simp [World.cell?,hc]
  have hseq:=AnyZI.keys_gives (ρ:=ρk) Lk Fence.wide 2 trivial rfl (by omega) bm b m.n D w hbm hcell hown;have hsorts:AnyZI.SortsIn P ρs Fence.wide 4:=⟨λblk off cap ss W h1 h2 h3=>by rw [h9];exact callsIn_wide.2 (Any.slices_Sort_int L9 blk off cap ss W h1 h2 h3),λp cap W=>by rw [h9];exact callsIn_wide.2 (Any.slices_Sort_int_none L9 p cap W)⟩;have cS:=AnyZI.sorted_in Ls Fence.wide 5 trivial trivial trivial trivial rfl (by omega) hsorts (by rw [h9];exact e9) (ρk.f 10) #[.pointer (some ⟨bm,0,none⟩)] trivial eg _ (Maps.size D) (by rw [hsz];unfold maxLen;omega) (by rw [hsz];omega) w hseq;refine (od_ (callsIn_wide.1 cS) (λe w' h=>by obtain ⟨v,ss,h,_⟩:=h;exact ⟨v,h⟩)).mono λe w' h=> ?_;obtain ⟨⟨v,ss,h1,h2,h3,h4,h5⟩,hdr⟩:=h;have hsk:=sr_ h2 hkeys hnd;have hlen:ss.length=(yP m).length:=by rw [<-hsk,List.length_mergeSort]
  rw [hsk,hlen]at h3;have hshape: ∃a c,v= .slice a (yP m).length c:=by
    rcases h3.2 with ⟨h,h0⟩|⟨gb,cap,cur,h,_⟩
    · exact ⟨none,0,by rw [h,h0]⟩
    exact ⟨_,_,h⟩
  obtain ⟨a,c,hv⟩:=hshape;subst hv;refine ⟨_,σ,_,h1,⟨a,c,rfl,rfl,rfl⟩,?_⟩;have hone: ∀u∈(yP m).flatMap ak,u.oneCell'=true:=λu hu=>by
    rw [iu_]at hu;obtain ⟨k,_,rfl⟩:=List.mem_map.1 hu;rfl
  refine hw.OT (r':=ε (ρs.t 26) 1 ak (.slice a (yP m).length c) (yP m)) (Value.slice a (yP m).length c).ownBlock rfl h5.os h5.tape h5.output h5.size hdr (λk hk=>h5.block k hk) ⟨⟨?_,?_⟩,hone,?_⟩ ?_
  · rw [iu_,List.length_map,Nat.mul_one]
  · rw [iu_]
    rcases h3.2 with h|⟨gb,cap,cur,h,_,r⟩
    · exact .inl h
    exact .inr ⟨gb,cap,cur,h,Nat.zero_le _,r⟩
  · have hl:(intKeys D).length=Maps.size D:=by
      obtain ⟨_,_,_,_,_,hD⟩:=hown;rw [hD];exact List.length_map ..
    have:=h2.length_eq;omega
  intro k hk;rcases h3.2 with ⟨h,h0⟩|⟨gb,cap,cur,h,hb,_⟩
  · rw [h]at hk;cases hk
  rw [h]at hk;cases hk;exact hb
theorem Con.d3_{V:Type}{P:Program}{ρk ρs ρ9:Ren}(Lk:SlLaysZI.n10 P ρk)(Ls:SlLaysZI.n6 P ρs)(L9:Lays.n189 P ρ9)(h9:ρs.f 9=ρ9.f 189){encV:V->Value}{b:Option Nat}{bm T f g E:Nat}{m:FM Int V}{σ:aj}(hf:ρs.f 6=f)(hg:ρk.f 10=g)(hE:ρs.t 26=E)
    (e9: ∀args w,(callFunc (ρ9.f 189) args).run P w= .ok (.enter (ρ9.f 189) args) w) (eg: ∀args w,(callFunc g args).run P w= .ok (.enter g args) w) (hk: ∀k,m.f k≠none->(Lit.int .i64 k).wf=true) (hn:m.n<=1000000):
    Con P f #[.func (.func g) #[] #[.pointer (some ⟨bm,0,none⟩)]] σ [ω bm #[.map b] T,Γ (Value.int .i64) encV b m]
      (λv σ' H'=> ∃a c,v= .slice a (yP m).length c/\σ=σ'/\H'=[ε E 1 ak (.slice a (yP m).length c) (yP m),ω bm #[.map b] T,Γ (Value.int .i64) encV b m]):=by
  cases b with
  |some b=>exact Con.d7_ Lk Ls L9 h9 hf hg hE e9 eg hk hn
  |none=>
    subst hf hg hE;intro w hw;have hc:w.heap[bm]? =some (.cells #[.map none] T (0,0)):=hw.holds _ (iU ..);have hm:m=FM.emp:=(hw.holds _ (rM _ (iU ..))).1 rfl;have hsk0:yP m=[]:=q3_ List.Pairwise.nil λk=>by rw [hm];simp [FM.emp]
    have hbm:bm<w.heap.size:=(Array.getElem?_eq_some_iff.1 hc).1;have hcell:w.cell? ⟨bm,0,none⟩=some (.map none):=by simp [World.cell?,hc]
    have hseq:=AnyZI.keys_gives_nil (ρ:=ρk) Lk Fence.wide 2 trivial rfl bm w hbm hcell;have hsorts:AnyZI.SortsIn P ρs Fence.wide 4:=⟨λblk off cap ss W h1 h2 h3=>by rw [h9];exact callsIn_wide.2 (Any.slices_Sort_int L9 blk off cap ss W h1 h2 h3),λp cap W=>by rw [h9];exact callsIn_wide.2 (Any.slices_Sort_int_none L9 p cap W)⟩;have cS:=AnyZI.sorted_in Ls Fence.wide 5 trivial trivial trivial trivial rfl (by omega) hsorts (by rw [h9];exact e9) (ρk.f 10) #[.pointer (some ⟨bm,0,none⟩)] trivial eg _ 0 (Nat.zero_le _) (by omega) w hseq;refine (od_ (callsIn_wide.1 cS) (λe w' h=>by obtain ⟨v,ss,h,_⟩:=h;exact ⟨v,h⟩)).mono λe w' h=> ?_;obtain ⟨⟨v,ss,h1,h2,h3,h4,h5⟩,hdr⟩:=h;subst h2;obtain rfl:=h4.2 rfl;refine ⟨_,σ,_,h1,⟨none,0,by rw [hsk0];rfl,rfl,rfl⟩,?_⟩;rw [hsk0];exact hw.OT (r':=ε (ρs.t 26) 1 ak (.slice none 0 0) []) none rfl h5.os h5.tape h5.output h5.size hdr (λk hk=>h5.block k hk) ⟨⟨rfl,.inl ⟨rfl,rfl⟩⟩,λu hu=>absurd hu List.not_mem_nil,Nat.zero_le _⟩ (λk hk=>by cases hk)
def xi_{V:Type}(m:FM Int V):Prop:= ∀k,m.f k≠none->(Lit.int .i64 k).wf=true
instance {V:Type} (m:FM Int V):Decidable (xi_ m):=Classical.propDecidable _
end Go.E
end

noncomputable section
namespace Go.Proofs.YtcfgkcfcddfccaaGreatDoor
open Go Go.E Go.E.OpVal Go.E.OpOk Go.Proofs.Tryz
open List (replicate)
theorem pf64:plainF Tryz.prog 64=true:=by kernel_rfl
theorem pf65:plainF Tryz.prog 65=true:=by kernel_rfl
theorem pf66:plainF Tryz.prog 66=true:=by kernel_rfl
def Et_(lK:Nat)(i280:Int)(l282:List Tip)(l286:List Tip)(l290:List Arc)(t293:Bool):Option ((Int×(List Tip)×(List Tip)×(List Arc)×Bool×Nat)⊕((Int×(List Tip)×(List Tip)×(List Arc)×Bool×Nat)⊕(Fst×Int))):=
 nxt (i280,l282,l286,l290,t293,(lK+1))
def Xy(x1:Dfa)(x0:Fst)(vP:Nat)(Fh:Int)(BD:List Tip)(BA:List Tip)(Bz:List Arc)(ER:Bool)(lK:Nat):Option ((Int×(List Tip)×(List Tip)×(List Arc)×Bool×Nat)⊕((Int×(List Tip)×(List Tip)×(List Arc)×Bool×Nat)⊕(Fst×Int))):=
 iteO (decide ((lK:Int)<(x1.fin.length:Int))) (iteO (nth x1.fin lK false) (bnd (Dn_ (⟨(⟨Fh,BD,BA,Bz⟩:Fst),ER⟩:Grow) (⟨IntKind.i64.wrap ((IntKind.i64.wrap (((nth x0.ends vP aY).state) * (x1.next.length:Int)))+(lK:Int)),(nth x0.ends vP aY).out⟩:Tip)) (λKG=>Et_ lK KG.f.states KG.f.starts KG.f.ends KG.f.arcs KG.over)) (Et_ lK Fh BD BA Bz ER)) (fin (nxt (Fh,BD,BA,Bz,ER,(vP+1))))
def Xv(nT:(FM Int BSet))(x0:Fst)(jQ:Nat)(x1:Dfa)(BG:Nat)(I8:Int)(DI:List Tip)(DF:List Tip)(DC:List Arc)(EP:Bool)(BF:Nat):Option ((Int×(List Tip)×(List Tip)×(List Arc)×Bool×Nat)⊕((Int×(List Tip)×(List Tip)×(List Arc)×Bool×Nat)⊕((Int×(List Tip)×(List Tip)×(List Arc)×Bool×Nat)⊕(Fst×Int)))):=
 iteO (decide ((BF:Int)<((yP nT).length:Int))) (bnd (D0_ (⟨(⟨I8,DI,DF,DC⟩:Fst),EP⟩:Grow) (⟨IntKind.i64.wrap ((IntKind.i64.wrap (((nth x0.arcs jQ aQ).frm) * (x1.next.length:Int)))+(BG:Int)),IntKind.i64.wrap ((IntKind.i64.wrap (((nth x0.arcs jQ aQ).to) * (x1.next.length:Int)))+(nth (yP nT) BF 0)),(nT.get (nth (yP nT) BF 0) BSet.zero),(nth x0.arcs jQ aQ).out,(nth x0.arcs jQ aQ).copy⟩:Arc)) (λv145=>nxt (v145.f.states,v145.f.starts,v145.f.ends,v145.f.arcs,v145.over,(BF+1)))) (fin (iteO EP (bnd (Tj (⟨(⟨I8,DI,DF,DC⟩:Fst),EP⟩:Grow)) (λxw=>fin (fin (some ((⟨xw.1.states,xw.1.starts,xw.1.ends,xw.1.arcs⟩:Fst),xw.2))))) (nxt (I8,DI,DF,DC,EP,(BG+1)))))
def Xx(x1:Dfa)(x0:Fst)(jQ:Nat)(LG:Int)(EX:List Tip)(pW:List Tip)(EW:List Arc)(KP:Bool)(BG:Nat):Option ((Int×(List Tip)×(List Tip)×(List Arc)×Bool×Nat)⊕((Int×(List Tip)×(List Tip)×(List Arc)×Bool×Nat)⊕(Fst×Int))):=
 iteO (decide ((BG:Int)<(x1.next.length:Int))) (bnd (In_ x1 (BG:Int) ((nth x0.arcs jQ aQ).set)) (λnT=>grd (xi_ nT/\nT.n<=1000000) (iter (λq:Int×(List Tip)×(List Tip)×(List Arc)×Bool×Nat=>Xv nT x0 jQ x1 BG q.1 q.2.1 q.2.2.1 q.2.2.2.1 q.2.2.2.2.1 q.2.2.2.2.2) (LG,EX,pW,EW,KP,0)))) (fin (nxt (LG,EX,pW,EW,KP,(jQ+1))))
def Xq(x0:Fst)(x1:Dfa)(LH:Int)(E5:List Tip)(EZ:List Tip)(EY:List Arc)(KQ:Bool)(jQ:Nat):Option ((Int×(List Tip)×(List Tip)×(List Arc)×Bool×Nat)⊕(Fst×Int)):=
 iteO (decide ((jQ:Int)<(x0.arcs.length:Int))) (iter (λq:Int×(List Tip)×(List Tip)×(List Arc)×Bool×Nat=>Xx x1 x0 jQ q.1 q.2.1 q.2.2.1 q.2.2.2.1 q.2.2.2.2.1 q.2.2.2.2.2) (LH,E5,EZ,EY,KQ,0)) (fin (bnd (Tj (⟨(⟨LH,E5,EZ,EY⟩:Fst),KQ⟩:Grow)) (λv196=>some ((⟨v196.1.states,v196.1.starts,v196.1.ends,v196.1.arcs⟩:Fst),v196.2))))
def Xt(x0:Fst)(x1:Dfa)(i210:Int)(zY:List Tip)(nU:List Tip)(E8:List Arc)(KR:Bool)(vP:Nat):Option ((Int×(List Tip)×(List Tip)×(List Arc)×Bool×Nat)⊕(Fst×Int)):=
 iteO (decide ((vP:Int)<(x0.ends.length:Int))) (iter (λq:Int×(List Tip)×(List Tip)×(List Arc)×Bool×Nat=>Xy x1 x0 vP q.1 q.2.1 q.2.2.1 q.2.2.2.1 q.2.2.2.2.1 q.2.2.2.2.2) (i210,zY,nU,E8,KR,0)) (fin (iter (λq:Int×(List Tip)×(List Tip)×(List Arc)×Bool×Nat=>Xq x0 x1 q.1 q.2.1 q.2.2.1 q.2.2.2.1 q.2.2.2.2.1 q.2.2.2.2.2) (i210,zY,nU,E8,KR,0)))
def Xr(x0:Fst)(x1:Dfa)(LJ:Int)(Fb:List Tip)(Fa:List Tip)(mD:List Arc)(t164:Bool)(sW:Nat):Option ((Int×(List Tip)×(List Tip)×(List Arc)×Bool×Nat)⊕(Fst×Int)):=
 iteO (decide ((sW:Int)<(x0.starts.length:Int))) (bnd (Ci_ (⟨(⟨LJ,Fb,Fa,mD⟩:Fst),t164⟩:Grow) (⟨IntKind.i64.wrap (((nth x0.starts sW aY).state) * (x1.next.length:Int)),(nth x0.starts sW aY).out⟩:Tip)) (λv57=>nxt (v57.f.states,v57.f.starts,v57.f.ends,v57.f.arcs,v57.over,(sW+1)))) (fin (iter (λq:Int×(List Tip)×(List Tip)×(List Arc)×Bool×Nat=>Xt x0 x1 q.1 q.2.1 q.2.2.1 q.2.2.2.1 q.2.2.2.2.1 q.2.2.2.2.2) (LJ,Fb,Fa,mD,t164,0)))
def Xm(x0:Fst)(x1:Dfa):Option (Fst×Int):=
 bnd (Gp x0) (λv6=>iteO (decide (v6≠0)) (some ((⟨0,([]:List Tip),([]:List Tip),([]:List Arc)⟩:Fst),1)) (bnd (S_ x1) (λv10=>iteO (decide (v10≠0)) (some ((⟨0,([]:List Tip),([]:List Tip),([]:List Arc)⟩:Fst),1)) (iteO (decide (1024<(IntKind.i64.wrap (x0.states * (x1.next.length:Int))))) (bnd (Tj (⟨(⟨IntKind.i64.wrap (x0.states * (x1.next.length:Int)),([]:List Tip),([]:List Tip),([]:List Arc)⟩:Fst),false⟩:Grow)) (λIW=>some ((⟨IW.1.states,IW.1.starts,IW.1.ends,IW.1.arcs⟩:Fst),IW.2))) (iter (λq:Int×(List Tip)×(List Tip)×(List Arc)×Bool×Nat=>Xr x0 x1 q.1 q.2.1 q.2.2.1 q.2.2.2.1 q.2.2.2.2.1 q.2.2.2.2.2) ((IntKind.i64.wrap (x0.states * (x1.next.length:Int))),([]:List Tip),([]:List Tip),([]:List Arc),false,0))))))
theorem Ml_{σ:aj}{x0:Fst}{x1:Dfa}(aC:RS σ 2 bf (.slice aB x0.starts.length aA) x0.starts)(aV:RS σ 2 bf (.slice ay x0.ends.length aH) x0.ends)(aS:RS σ 8 fP (.slice aG x0.arcs.length au) x0.arcs)(bn:dH σ ak bY bW x1.cls)(gu:RZ σ (aF 1 ak aT) (.slice dV x1.next.length iR) x1.next)(fF:dH σ dG iI dU x1.fin){r:Fst×Int}(hh:Xm x0 x1=some r):
  Con prog 23 #[.agg (jB x0 aB aA ay aH aG au),.agg #[.slice bY x1.cls.length bW,.slice dV x1.next.length iR,.slice iI x1.fin.length dU]] σ [] (Iu_ σ r):=by
 dsimp only [Xm]at hh;have f0_0b:=aC.rv.big;have f0_1b:=aV.rv.big;have f0_2b:=aS.rv.big;have f1_0b:=bn.rv.big;have f1_1b:=gu.big;have f1_2b:=fF.rv.big;refine Con.mkD (n:=148) Tryz.func23 z z z (λw0=> ?_);refine TB.seq UW (Ξ (TL.bx (λaP=> ?_)));refine TL.bx (λbK=> ?_);refine TL.al (λiq=> ?_);refine TL.al (λnG=> ?_);refine R1 ?_;refine TB.seq UW (R3 ?_);obtain ⟨v6,u6,hh⟩:=bg hh;refine φ z (gI (Tm (x0:=x0) aC aV aS u6) z z Qb z z z ?_);refine R2 ?_;refine δ 23 z (λiE=> ?_) (λiE=> ?_)
 ·obtain ⟨iE,hh⟩:=iT iE hh;refine R9 ?_;refine κ 1 (φ z (storeAll z uh_ z z z z z z ?_));refine κ 1 (R2 ?_);refine Θ (ψ [1] 2) (η ?_);obtain rfl:=so hh;exact rz
 obtain ⟨iE,hh⟩:=iF iE hh;refine TL.g z lA ?_;obtain ⟨v10,u10,hh⟩:=bg hh;refine TL.gon z z z z z (gI (Ef_ (x0:=x1) bn gu fF u10) z z KZ z z z ?_);refine R3 ?_;refine π z hh (λfD hh=> ?_) (λfD hh=> ?_)
 ·refine R3 ?_;refine κ 1 (φ z (storeAll z uh_ z z z z z z ?_));refine κ 1 (R2 ?_);refine Θ (ψ [1] 2) (η ?_);obtain rfl:=so hh;exact rz
 refine R1 ?_;refine TB.seq UW (R2 ?_);refine TL.bx (λuT=> ?_);refine R2 ?_;refine TB.seqD (TLB.v z mL z z (TLB.dfr (dargs:=[loc uT 0,loc iq 0,loc nG 0]) z z z z z (λa_ w_ Vg Xa=> ?_)));refine TB.fin (Q:=dfrQ _ _ _ _ 61 [loc uT 0,loc iq 0,loc nG 0]) (rm_ (cap:=[]) (dargs:=[loc uT 0,loc iq 0,loc nG 0]) pf61) ?_ w_ a_ Vg Xa;clear Vg Xa a_ w_;refine R29 ?_;refine π z hh (λwB hh=> ?_) (λwB hh=> ?_)
 ·refine TC.nilS 79 2 bf (TC.nilS 79 2 bf (TC.nilS 49 8 fP (TC.fr 4 (TC.fr 5 (TC.fr 2 (TC.fr 3 (TC.fr 4 (TC.fr 5 ?_))))))));obtain ⟨IW,u156,hh⟩:=bg hh;refine η (⟨.inl z,_,θ 6 z,(Dh_ u156).mono ?_⟩);rintro _ τ117 _ jF ⟨a117_1,c117_2,a117_4,c117_5,a117_7,c117_8,rfl,f117_3,f117_6,f117_9,rfl⟩;replace aC:=aC.mono jF;replace aV:=aV.mono jF;replace aS:=aS.mono jF;replace bn:=bn.mono jF;replace gu:=gu.mono jF;replace fF:=fF.mono jF;have f117_3b:=f117_3.rv.big;obtain rfl:=so hh;exact rz
 refine R10 ?_;refine TC.nilS 79 2 bf (TC.nilS 79 2 bf (TC.nilS 49 8 fP (TC.lp hh (nO,oO,nO,oO,nO,oO) (rgs [(9,1),(52,14)]) (λ⟨LJ,Fb,Fa,mD,t164,sW⟩ ⟨a154,RH,Pv,c159,a162,uQ⟩=>([(52,.int .i64 (sW:Int))],[ω aP (jB x0 aB aA ay aH aG au) 25,ω bK #[.slice bY x1.cls.length bW,.slice dV x1.next.length iR,.slice iI x1.fin.length dU] 35,ω iq #[.int .i64 0,aW,aW,aW] 25,ω nG #[.int .i64 0] 27,ω uT #[.int .i64 LJ,.slice a154 Fb.length RH,.slice Pv Fa.length c159,.slice a162 mD.length uQ,.bool t164] 93,ε 79 2 bf (.slice a154 Fb.length RH) Fb,ε 79 2 bf (.slice Pv Fa.length c159) Fa,ε 49 8 fP (.slice a162 mD.length uQ) mD])) (ψ [1,2,3,4,5,6,7] 8) ?_)));rintro ⟨LJ,Fb,Fa,mD,t164,sW⟩ ⟨a154,RH,Pv,c159,a162,uQ⟩ _ z1 hh hR1;dsimp only [Xr]at hh ⊢;refine ζ 5 z (λWV=> ?_);refine ζ 6 z (λIp=> ?_);refine ζ 7 z (λNR=> ?_);refine R5 ?_;refine π z hh (λZw hh=> ?_) (λZw hh=> ?_)
 ·refine R7 ?_;refine TL.al (λb173=> ?_);refine R11 ?_;refine κ 8 (κ 8 (κ 8 (κ 8 ?_)));obtain ⟨v57,u57,hh⟩:=bg hh;refine φ z (OpOk.call (Is_ u57) z z pf62 z z z z ?_);rintro _ _ _ FK ⟨a175_1,c175_2,a175_3,c175_4,a175_5,c175_6,rfl,rfl,rfl⟩;refine R5 ?_;exact nxq hR1 hh (a175_1,c175_2,a175_3,c175_4,a175_5,c175_6) (ψ [3,3,3,3,8,8,8,8] 8)
 refine R1 ?_;replace hh:=bJ hR1 hh;refine R10 ?_;refine TC.lp hh (a154,RH,Pv,c159,a162,uQ) (rgs [(11,3),(69,26)]) (λ⟨i210,zY,nU,E8,KR,vP⟩ ⟨a213,FY,wH,c218,Ph,c222⟩=>([(69,.int .i64 (vP:Int))],[ω aP (jB x0 aB aA ay aH aG au) 25,ω bK #[.slice bY x1.cls.length bW,.slice dV x1.next.length iR,.slice iI x1.fin.length dU] 35,ω iq #[.int .i64 0,aW,aW,aW] 25,ω nG #[.int .i64 0] 27,ω uT #[.int .i64 i210,.slice a213 zY.length FY,.slice wH nU.length c218,.slice Ph E8.length c222,.bool KR] 93,ε 79 2 bf (.slice a213 zY.length FY) zY,ε 79 2 bf (.slice wH nU.length c218) nU,ε 49 8 fP (.slice Ph E8.length c222) E8])) (ψ [7,7,7,7,7,7,7,7] 8) ?_;rintro ⟨i210,zY,nU,E8,KR,vP⟩ ⟨a213,FY,wH,c218,Ph,c222⟩ _ z1 hh hR1;dsimp only [Xt]at hh ⊢;refine ζ 5 z (λhb225=> ?_);refine ζ 6 z (λhb226=> ?_);refine ζ 7 z (λWI=> ?_);refine R5 ?_;refine π z hh (λh228 hh=> ?_) (λh228 hh=> ?_)
 ·refine R7 ?_;refine TL.al (λRX=> ?_);refine R10 ?_;refine TC.lp hh (a213,FY,wH,c218,Ph,c222) (rgs [(12,2),(76,18)]) (λ⟨Fh,BD,BA,Bz,ER,lK⟩ ⟨Jp,Jc,Am,Ag,O_,OD⟩=>([(76,.int .i64 (lK:Int))],[ω aP (jB x0 aB aA ay aH aG au) 25,ω bK #[.slice bY x1.cls.length bW,.slice dV x1.next.length iR,.slice iI x1.fin.length dU] 35,ω iq #[.int .i64 0,aW,aW,aW] 25,ω nG #[.int .i64 0] 27,ω uT #[.int .i64 Fh,.slice Jp BD.length Jc,.slice Am BA.length Ag,.slice O_ Bz.length OD,.bool ER] 93,ε 79 2 bf (.slice Jp BD.length Jc) BD,ε 79 2 bf (.slice Am BA.length Ag) BA,ε 49 8 fP (.slice O_ Bz.length OD) Bz,ω RX #[.int .i64 ((nth x0.ends vP aY).state),.string (bs ((nth x0.ends vP aY).out))] 79])) (ψ [8,8,8,8,8,8,8,8] 9) ?_;rintro ⟨Fh,BD,BA,Bz,ER,lK⟩ ⟨Jp,Jc,Am,Ag,O_,OD⟩ _ z2 hh hR2;dsimp only [Xy]at hh ⊢;refine ζ 5 z (λWC=> ?_);refine ζ 6 z (λhb277=> ?_);refine ζ 7 z (λhb278=> ?_);refine R5 ?_;refine π z hh (λh279 hh=> ?_) (λh279 hh=> ?_)
  ·refine R1 ?_;refine TC.cutG (α:=(Int×(List Tip)×(List Tip)×(List Arc)×Bool)×((Option Addr)×Nat×(Option Addr)×Nat×(Option Addr)×Nat)) (rgs [(12,2),(78,15)]) (λg=>[]) (λg=>[ω aP (jB x0 aB aA ay aH aG au) 25,ω bK #[.slice bY x1.cls.length bW,.slice dV x1.next.length iR,.slice iI x1.fin.length dU] 35,ω iq #[.int .i64 0,aW,aW,aW] 25,ω nG #[.int .i64 0] 27,ω uT #[.int .i64 g.1.1,.slice g.2.1 g.1.2.1.length g.2.2.1,.slice g.2.2.2.1 g.1.2.2.1.length g.2.2.2.2.1,.slice g.2.2.2.2.2.1 g.1.2.2.2.1.length g.2.2.2.2.2.2,.bool g.1.2.2.2.2] 93,ε 79 2 bf (.slice g.2.1 g.1.2.1.length g.2.2.1) g.1.2.1,ε 79 2 bf (.slice g.2.2.2.1 g.1.2.2.1.length g.2.2.2.2.1) g.1.2.2.1,ε 49 8 fP (.slice g.2.2.2.2.2.1 g.1.2.2.2.1.length g.2.2.2.2.2.2) g.1.2.2.2.1,ω RX #[.int .i64 ((nth x0.ends vP aY).state),.string (bs ((nth x0.ends vP aY).out))] 79]) (λg=>σ) (λg=>Et_ lK g.1.1 g.1.2.1 g.1.2.2.1 g.1.2.2.2.1 g.1.2.2.2.2=some z2) ?_ (λg j hg=> ?_)
   ·refine R13 ?_;refine TC.cB z hh (λh294 hh=> ?_) (λh294 hh=> ?_)
    ·refine R11 ?_;refine κ 7 (κ 7 (κ 7 (κ 7 ?_)));obtain ⟨KG,u90,hh⟩:=bg hh;refine φ z (OpOk.call (J3_ u90) z z pf63 z z z z ?_);rintro _ _ _ MS ⟨a295_1,c295_2,a295_3,c295_4,a295_5,c295_6,rfl,rfl,rfl⟩;refine R1 ?_;exact cf ((KG.f.states,KG.f.starts,KG.f.ends,KG.f.arcs,KG.over),(a295_1,c295_2,a295_3,c295_4,a295_5,c295_6)) hh (ψ [8,4,4,4,4,8,8,8,8] 9)
    refine R1 ?_;exact cf ((Fh,BD,BA,Bz,ER),(Jp,Jc,Am,Ag,O_,OD)) hh (ψ [8,8,8,8,8,8,8,8,8] 9)
   obtain ⟨⟨i280,l282,l286,l290,t293⟩,⟨a283,c284,a287,c288,a291,c292⟩⟩:=g;have hh:=hg;clear hg
   try dsimp only
   dsimp only [Et_]at hh;refine ζ 5 z (λhb299=> ?_);refine ζ 6 z (λhb300=> ?_);refine ζ 7 z (λhb301=> ?_);refine R4 ?_;exact nxq hR2 hh (a283,c284,a287,c288,a291,c292) (ψ [8,8,8,8,8,8,8,8,8] 9)
  refine R1 ?_;replace hh:=bJ hR2 hh;refine R5 ?_;exact nxq hR1 hh (Jp,Jc,Am,Ag,O_,OD) (ψ [7,7,7,7,7,7,7,7] 8)
 refine R1 ?_;replace hh:=bJ hR1 hh;refine R10 ?_;refine TC.lp hh (a213,FY,wH,c218,Ph,c222) (rgs [(15,3),(19,1),(98,50)]) (λ⟨LH,E5,EZ,EY,KQ,jQ⟩ ⟨SA,Rx,Sz,Rw,Sv,Ru⟩=>([(98,.int .i64 (jQ:Int))],[ω bK #[.slice bY x1.cls.length bW,.slice dV x1.next.length iR,.slice iI x1.fin.length dU] 35,ω iq #[.int .i64 0,aW,aW,aW] 25,ω nG #[.int .i64 0] 27,ω uT #[.int .i64 LH,.slice SA E5.length Rx,.slice Sz EZ.length Rw,.slice Sv EY.length Ru,.bool KQ] 93,ε 79 2 bf (.slice SA E5.length Rx) E5,ε 79 2 bf (.slice Sz EZ.length Rw) EZ,ε 49 8 fP (.slice Sv EY.length Ru) EY])) (ψ [7,7,7,7,7,7,7] 7) ?_;rintro ⟨LH,E5,EZ,EY,KQ,jQ⟩ ⟨SA,Rx,Sz,Rw,Sv,Ru⟩ _ z1 hh hR1;dsimp only [Xq]at hh ⊢;refine ζ 4 z (λhb349=> ?_);refine ζ 5 z (λhb350=> ?_);refine ζ 6 z (λhb351=> ?_);refine R5 ?_;refine π z hh (λh352 hh=> ?_) (λh352 hh=> ?_)
 ·refine R7 ?_;refine TL.al (λb353=> ?_);refine R8 ?_;refine TC.lp hh (SA,Rx,Sz,Rw,Sv,Ru) (rgs [(16,2),(19,1),(103,44)]) (λ⟨LG,EX,pW,EW,KP,BG⟩ ⟨O7,OA,rD,qZ,O6,Oz⟩=>([(103,.int .i64 (BG:Int))],[ω bK #[.slice bY x1.cls.length bW,.slice dV x1.next.length iR,.slice iI x1.fin.length dU] 35,ω iq #[.int .i64 0,aW,aW,aW] 25,ω nG #[.int .i64 0] 27,ω uT #[.int .i64 LG,.slice O7 EX.length OA,.slice rD pW.length qZ,.slice O6 EW.length Oz,.bool KP] 93,ε 79 2 bf (.slice O7 EX.length OA) EX,ε 79 2 bf (.slice rD pW.length qZ) pW,ε 49 8 fP (.slice O6 EW.length Oz) EW,ω b353 #[.int .i64 ((nth x0.arcs jQ aQ).frm),.int .i64 ((nth x0.arcs jQ aQ).to),.int .u64 (((nth x0.arcs jQ aQ).set).a:Int),.int .u64 (((nth x0.arcs jQ aQ).set).b:Int),.int .u64 (((nth x0.arcs jQ aQ).set).c:Int),.int .u64 (((nth x0.arcs jQ aQ).set).d:Int),.string (bs ((nth x0.arcs jQ aQ).out)),.bool ((nth x0.arcs jQ aQ).copy)] 49])) (ψ [7,7,7,7,7,7,7] 8) ?_;rintro ⟨LG,EX,pW,EW,KP,BG⟩ ⟨O7,OA,rD,qZ,O6,Oz⟩ _ z2 hh hR2;dsimp only [Xx]at hh ⊢;refine ζ 4 z (λhb400=> ?_);refine ζ 5 z (λhb401=> ?_);refine ζ 6 z (λhb402=> ?_);refine R5 ?_;refine π z hh (λh403 hh=> ?_) (λh403 hh=> ?_)
  ·refine R14 ?_;obtain ⟨nT,X0,hh⟩:=bg hh;refine φ z (OpOk.call (Mn_ bn gu fF X0) z z pf64 z z z z ?_);rintro _ _ _ o9 ⟨b404_1,rfl,rfl,rfl⟩;refine R6 ?_;refine φ z (OpOk.call (Con.keysI layK z z z _) z z pf66 z z z z ?_);rintro _ _ _ _ ⟨bm406,rfl,rfl,rfl⟩;obtain ⟨XY,hh⟩:=gd hh;refine κ 1 (κ 1 (φ z (OpOk.call (Con.d3_ layK1 layK6 layInt z z z z (enters_of Tryz.func128 (by kernel_rfl) z) (layK1.f10.enters z) XY.1 XY.2) z z pf65 z z z z ?_)));rintro _ _ _ _ ⟨a408,ZN,rfl,rfl,rfl⟩;refine R4 ?_;refine TC.lp hh (O7,OA,rD,qZ,O6,Oz) (rgs [(19,1),(115,27)]) (λ⟨I8,DI,DF,DC,EP,BF⟩ ⟨Sm,Rq,Sl,Ro,Sj,Rn⟩=>([(115,.int .i64 (BF:Int))],[ω bK #[.slice bY x1.cls.length bW,.slice dV x1.next.length iR,.slice iI x1.fin.length dU] 35,ω iq #[.int .i64 0,aW,aW,aW] 25,ω nG #[.int .i64 0] 27,ω uT #[.int .i64 I8,.slice Sm DI.length Rq,.slice Sl DF.length Ro,.slice Sj DC.length Rn,.bool EP] 93,ε 79 2 bf (.slice Sm DI.length Rq) DI,ε 79 2 bf (.slice Sl DF.length Ro) DF,ε 49 8 fP (.slice Sj DC.length Rn) DC,ω b353 #[.int .i64 ((nth x0.arcs jQ aQ).frm),.int .i64 ((nth x0.arcs jQ aQ).to),.int .u64 (((nth x0.arcs jQ aQ).set).a:Int),.int .u64 (((nth x0.arcs jQ aQ).set).b:Int),.int .u64 (((nth x0.arcs jQ aQ).set).c:Int),.int .u64 (((nth x0.arcs jQ aQ).set).d:Int),.string (bs ((nth x0.arcs jQ aQ).out)),.bool ((nth x0.arcs jQ aQ).copy)] 49,Γ gX vk b404_1 nT,dO 3 ak a408 ZN (yP nT)])) (ψ [2,10,10,10,10,10,10,10,10] 10) ?_;rintro ⟨I8,DI,DF,DC,EP,BF⟩ ⟨Sm,Rq,Sl,Ro,Sj,Rn⟩ _ z3 hh Xb;dsimp only [Xv]at hh ⊢;refine ζ 4 z (λhb456=> ?_);refine ζ 5 z (λhb457=> ?_);refine ζ 6 z (λhb458=> ?_);refine ζ 9 z (λhb459=> ?_);refine R5 ?_;refine π z hh (λh460 hh=> ?_) (λh460 hh=> ?_)
   ·refine R5 ?_;refine TL.iS 9 z (λhs461=> ?_);refine R20 ?_;refine ι z (OpVal.of (ds_ BSet.zero (q:=(nth (yP nT) BF 0)) z underlying98 PK z (i:=8) z z (ri_ um)) (v':=vk (nT.get (nth (yP nT) BF 0) BSet.zero)) z) (R5 ?_);refine κ 6 (κ 6 (κ 6 (κ 6 ?_)));obtain ⟨v145,Qg,hh⟩:=bg hh;refine φ z (OpOk.call (Jy_ Qg) z z pf67 z z z z ?_);rintro _ _ _ hle462 ⟨a462_1,c462_2,a462_3,c462_4,a462_5,c462_6,rfl,rfl,rfl⟩;refine R5 ?_;exact nxq Xb hh (a462_1,c462_2,a462_3,c462_4,a462_5,c462_6) (ψ [9,9,9,6,6,6,6,9,9,9] 10)
   refine R1 ?_;replace hh:=bJ Xb hh;refine R8 ?_;refine TC.cB z hh (λh467 hh=> ?_) (λh467 hh=> ?_)
   ·refine TC.fr 2 (TC.fr 2 (TC.fr 6 (TC.fr 6 (TC.fr 6 (TC.fr 6 ?_)))));obtain ⟨xw,u195,hh⟩:=bg hh;refine η ?_;replace hh:=bJ hR2 hh;replace hh:=bJ hR1 hh;refine ⟨.inl z,_,θ 6 z,(Dh_ u195).mono ?_⟩;rintro _ τ468 _ hle468 ⟨a468_1,c468_2,a468_4,c468_5,a468_7,c468_8,rfl,f468_3,f468_6,f468_9,rfl⟩;obtain rfl:=so hh;exact rz
   refine R5 ?_;exact nxq hR2 hh (Sm,Rq,Sl,Ro,Sj,Rn) (ψ [7,7,7,7,7,7,7,7] 8)
  refine R1 ?_;replace hh:=bJ hR2 hh;refine R5 ?_;exact nxq hR1 hh (O7,OA,rD,qZ,O6,Oz) (ψ [6,6,6,6,6,6,6] 7)
 refine R1 ?_;replace hh:=bJ hR1 hh;refine R1 ?_;refine TC.fr 2 (TC.fr 2 (TC.fr 6 (TC.fr 6 (TC.fr 6 (TC.fr 6 ?_)))));obtain ⟨v196,u196,hh⟩:=bg hh;refine η (⟨.inl z,_,θ 6 z,(Dh_ u196).mono ?_⟩);rintro _ τ474 _ hle474 ⟨a474_1,c474_2,a474_4,c474_5,a474_7,c474_8,rfl,f474_3,f474_6,f474_9,rfl⟩;have f474_9b:=f474_9.rv.big;obtain rfl:=so hh;exact rz
end Go.Proofs.YtcfgkcfcddfccaaGreatDoor
end

noncomputable section
namespace Go.Proofs.YtcfgkcfcddfccaaGreatDoor
open Go Go.E
theorem lim_ok{t:Fst}{d:Dfa}(ht:FstOk t)(hd:kU d=true)(h:GB (IV t d))(hn:(IV t d).states<=1024):FstOk (IV t d):=by
  have h0:=ok0 hd;refine ⟨Int.mul_nonneg ht.st0 (Int.natCast_nonneg _),hn,h.aN,h.sN,h.eN,λx hx=>⟨?_,h.s x hx⟩,λx hx=>⟨?_,h.e x hx⟩,λx hx=> ?_⟩
  · obtain ⟨y,hy,rfl⟩:=ra_.1 hx
    have:=Lr (n:=((d.next.length:Nat):Int)) (y:=0) (ht.starts y hy).1 h0;rw [Int.add_zero]at this;exact this
  · obtain ⟨y,hy,i,hi, -,rfl⟩:=rh_.1 hx
    exact Lr (ht.ends y hy).1 ⟨Int.natCast_nonneg i,by omega⟩
  have hl:=h.a x hx;obtain ⟨y,hy,i,hi,j,hj,hz,rfl⟩:=qu_.1 hx;have:=ht.arcs y hy;exact ⟨Lr this.1 ⟨Int.natCast_nonneg i,by omega⟩,Lr this.2.1 ⟨Int.natCast_nonneg j,by omega⟩,hz,hl⟩
def BL(d:Dfa)(y:Int)(s:BSet)(k:Nat)(z:Int):BSet:=BSet.make λb=>decide (b<k) && (s.has b && decide (oZ d y b=z))
structure StK (d:Dfa) (y:Int) (s:BSet) (k:Nat) (m:FM Int BSet):Prop where
  f: ∀z,m.f z=if BL d y s k z=BSet.zero then none else some (BL d y s k z)
  n:m.n<=k
theorem yq_{k:Nat}(hk:k<256):(jd ((k:Nat):Int)).toNat=k:=by
  have:=Yy ((k:Nat):Int);rw [Yw]at this;omega
theorem oo_(d:Dfa)(y:Int)(s:BSet)(z:Int):BL d y s 256 z=EF d y s z:=by
  unfold BL EF;exact BSet.a0_ λb hb=>by rw [decide_eq_true hb,Bool.true_and]
theorem v0_(d:Dfa)(y:Int)(s:BSet)(z:Int):BL d y s 0 z=BSet.zero:=by
  unfold BL;rw [<-BSet.a3_];exact BSet.a0_ λb hb=>by rw [decide_eq_false (by omega),Bool.false_and]
theorem qj_{d:Dfa}{y:Int}{s:BSet}{k:Nat}{z:Int}(h:s.has k=false\/oZ d y k≠z):BL d y s (k+1) z=BL d y s k z:=by
  unfold BL;refine BSet.a0_ λb hb=> ?_
  by_cases e:b=k
  · subst e
    rcases h with h|h
    · rw [h];simp
    rw [decide_eq_false h];simp
  by_cases e2:b<k
  · rw [decide_eq_true e2,decide_eq_true (show b<k+1 by omega)]
  rw [decide_eq_false e2,decide_eq_false (show ¬ b<k+1 by omega)]
theorem yt_{d:Dfa}{y:Int}{s:BSet}{k:Nat}(hk:k<256)(h:s.has k=true):(BSet.make λn=>(BL d y s k (oZ d y k)).has n || (BSet.ofL [jd ((k:Nat):Int)]).has n)=BL d y s (k+1) (oZ d y k):=by
  refine L6_ λn hn=> ?_;unfold BL;rw [BSet.Gg _ hn,BSet.Gg _ hn,BSet.Gg _ hn,Yg k hk hn]
  by_cases e:n=k
  · subst e;rw [h];simp
  rw [decide_eq_false e,Bool.or_false]
  by_cases e2:n<k
  · rw [decide_eq_true e2,decide_eq_true (show n<k+1 by omega)]
  rw [decide_eq_false e2,decide_eq_false (show ¬ n<k+1 by omega)]
theorem z5_{d:Dfa}{y:Int}{s:BSet}{k:Nat}(hk:k<256)(h:s.has k=true):BL d y s (k+1) (oZ d y k)≠BSet.zero:=λe=>by
  have h1:(BL d y s (k+1) (oZ d y k)).has k=true:=by
    unfold BL;rw [BSet.Gg _ hk,h];simp
  rw [e,hasZ k hk]at h1;cases h1
theorem StK.get{d:Dfa}{y:Int}{s:BSet}{k:Nat}{m:FM Int BSet}(h:StK d y s k m)(z:Int):m.get z BSet.zero=BL d y s k z:=by
  unfold FM.get;rw [h.f z]
  by_cases e:BL d y s k z=BSet.zero
  · rw [if_pos e,e];rfl
  rw [if_neg e];rfl
theorem StK.put{d:Dfa}{y:Int}{s:BSet}{k:Nat}{m:FM Int BSet}(h:StK d y s k m)(hk:k<256)(hs:s.has k=true):StK d y s (k+1) (m.put (oZ d y k) (BL d y s (k+1) (oZ d y k))):=by
  refine ⟨λz=> ?_,?_⟩
  · show (if z=oZ d y k then _ else _)=_
    by_cases e:z=oZ d y k
    · subst e;rw [if_pos rfl,if_neg (z5_ hk hs)]
    rw [if_neg e,h.f z,qj_ (.inr λq=>e q.symm)]
  show (if (m.f (oZ d y k)).isSome then m.n else m.n+1)<=k+1;have:=h.n
  split<;>omega
theorem steps_go{d:Dfa}(hd:kU d=true){y:Int}(hy:okS d y)(s:BSet): ∃m,In_ d y s=some m/\StK d y s 256 m:=by
  obtain ⟨c,hc1,hc2,hn1,hn2,hfl,hrow⟩:=JK hd;have hcm:=(if_ d.cls 0 c hc1).2;unfold In_;obtain ⟨hy0,hy1⟩:=hy;refine kV (step:=λq:(FM Int BSet)×Nat=>Cl_ d s y q.1 q.2) (λ(m:FM Int BSet) k=>(m,k)) 256 (λk m=>StK d y s k m) _ (λk m hk hI=> ?_) (λm hI=> ?_) (s0:=FM.emp) ⟨λz=>by rw [if_pos (v0_ d y s z)];rfl,Nat.le_refl _⟩
  · left
    show ∃m',Cl_ d s y m k=some (.inl (m',k+1))/\_;unfold Cl_ Ez_;rw [eH (by omega),yq_ hk]
    by_cases h:s.has k=true
    · have hm:=hcm _ (UZ (l:=d.cls) (i:=k) (by omega) 0)
      have hr:=(hrow y.toNat (by omega)).1;refine ⟨_,?_,hI.put hk h⟩;rw [h,iteO_true,cu ⟨hy0,hy1⟩,cu ⟨hm.1,by omega⟩,cu (by simp),xd_,kT];show nxt (m.put (oZ d y k) _,k+1)=_;rw [show m.get (nth (nth d.next y.toNat ([]:ah)) ((nth d.cls k (0:Int)).toNat) (0:Int)) BSet.zero=BL d y s k (oZ d y k)from hI.get _,yt_ hk h];rfl
    simp only [Bool.not_eq_true]at h;refine ⟨m,by rw [h,iteO_false];rfl,λz=> ?_,by have:=hI.n;omega⟩;rw [hI.f z,qj_ (.inl h)]
  refine ⟨m,?_,hI⟩;show Cl_ d s y m 256=_;unfold Cl_;rw [dM (by omega)];rfl
def Jz(d:Dfa)(y:Int)(s:BSet):ah:=((List.range d.next.length).filter λz=>decide (EF d y s ((z:Nat):Int)≠BSet.zero)).map λz:Nat=>((z:Nat):Int)
theorem Nj_{s:BSet}(h:s≠BSet.zero): ∃b:Nat,b<256/\s.has b=true:=by
  apply Decidable.byContradiction;intro hc;refine h (L6_ λn hn=> ?_);rw [hasZ n hn];cases e:s.has n
  · rfl
  exact absurd ⟨n,hn,e⟩ hc
theorem xn_{d:Dfa}(hd:kU d=true){y:Int}(hy:okS d y){s:BSet}{z:Int}(h:EF d y s z≠BSet.zero):okS d z:=by
  obtain ⟨b,hb,h1⟩:=Nj_ h;have e:(UInt8.ofNat b).toNat=b:=by rw [UInt8.toNat_ofNat'];omega
  have h2:(EF d y s z).has (UInt8.ofNat b).toNat=true:=by rw [e];exact h1
  obtain ⟨-,h3⟩:=nb_.1 h2;rw [<-h3];exact (px_ hd hy _).nx
theorem yn_{d:Dfa}(hd:kU d=true){y:Int}(hy:okS d y){s:BSet}{m:FM Int BSet}(hm:StK d y s 256 m):yP m=Jz d y s:=by
  refine q3_ ?_ λk=> ?_
  · unfold Jz
    rw [List.pairwise_map];exact (List.Pairwise.filter _ List.pairwise_lt_range).imp λ{a b} h=>by omega
  unfold Jz;rw [List.mem_map,hm.f k,oo_];constructor
  · rintro ⟨z,hz,rfl⟩
    have:=Xf (List.mem_filter.1 hz).2;rw [if_neg this];exact λh=>by cases h
  intro h
  by_cases e:EF d y s k=BSet.zero
  · rw [if_pos e]at h;exact absurd rfl h
  obtain ⟨j,rfl,hj⟩:=qq_ (xn_ hd hy e);exact ⟨j,List.mem_filter.2 ⟨List.mem_range.2 hj,decide_eq_true e⟩,rfl⟩
theorem keys_in{d:Dfa}(hd:kU d=true){y:Int}(hy:okS d y){s:BSet}{m:FM Int BSet}(hm:StK d y s 256 m):xi_ m/\m.n<=1000000:=by
  refine ⟨λk hk=> ?_,by have:=hm.n;omega⟩;rw [hm.f k,oo_]at hk;have h:okS d k:=by
    by_cases e:EF d y s k=BSet.zero
    · rw [if_pos e]at hk;exact absurd rfl hk
    exact xn_ hd hy e
  obtain ⟨m, -, -, -,hn2, -⟩:=JK hd;obtain ⟨h0,h1⟩:=h;show (decide (IntKind.i64.min<=k) && decide (k<=IntKind.i64.max))=true;rw [show IntKind.i64.min= -9223372036854775808 from by decide,show IntKind.i64.max=9223372036854775807 from by decide,decide_eq_true (by omega),decide_eq_true (by omega)];rfl
def zArc(d:Dfa)(x:Arc)(y:Nat)(z:Int):Arc:=⟨x.frm * ((d.next.length:Nat):Int)+((y:Nat):Int),x.to * ((d.next.length:Nat):Int)+z,EF d ((y:Nat):Int) x.set z,x.out,x.copy⟩
theorem limZ_map(d:Dfa)(x:Arc)(y:Nat):limZ d x y=(Jz d ((y:Nat):Int) x.set).map (zArc d x y):=by
  unfold limZ Jz;rw [List.map_map];rfl
theorem oe_(d:Dfa)(x:Arc)(k:Nat):Jy d x (k+1)=Jy d x k++limZ d x k:=by
  unfold Jy;rw [List.range_succ,List.flatMap_append];simp
theorem sk_(d:Dfa)(l:List Arc){k:Nat}(h:k<l.length):GR d (l.take (k+1))=GR d (l.take k)++Jy d (nth l k aQ) d.next.length:=by
  rw [qh l h aQ];unfold GR;rw [List.flatMap_append];simp
theorem xz_(n:Nat)(l:List Tip){k:Nat}(h:k<l.length):limS n (l.take (k+1))=limS n (l.take k)++[⟨(nth l k aY).state * ((n:Nat):Int),(nth l k aY).out⟩]:=by
  rw [qh l h aY];unfold limS;rw [List.map_append];rfl
def Ue(d:Dfa)(x:Tip)(k:Nat):List Tip:=((List.range k).filter λy=>nth d.fin y false).map λy=>⟨x.state * ((d.next.length:Nat):Int)+((y:Nat):Int),x.out⟩
theorem ws_(d:Dfa)(x:Tip)(k:Nat):Ue d x (k+1)=Ue d x k++(if nth d.fin k false=true then [⟨x.state * ((d.next.length:Nat):Int)+((k:Nat):Int),x.out⟩] else []):=by
  unfold Ue;rw [List.range_succ,List.filter_append,List.map_append];congr 1;cases h:nth d.fin k false<;>simp [h]
theorem x7_(d:Dfa)(l:List Tip){k:Nat}(h:k<l.length):limE d (l.take (k+1))=limE d (l.take k)++Ue d (nth l k aY) d.next.length:=by
  rw [qh l h aY];unfold limE;rw [List.flatMap_append];simp [limE1,Ue]
theorem GB.preA{F:Fst}{l m:List Arc}(h:GB (pA F (l++m))):GB (pA F l):=⟨h.sN,h.eN,by
  have:(F.arcs++(l++m)).length<=16384:=h.aN;show (F.arcs++l).length<=16384;simp only [iK]at this ⊢;omega,h.s,h.e,λx hx=>h.a x (by
  have hx':x∈F.arcs++l:=hx;show x∈F.arcs++(l++m);rw [<-Gf];exact List.mem_append_left _ hx')⟩
theorem limY_le(d:Dfa)(x:Arc){k n:Nat}(h:k<=n): ∃m,Jy d x n=Jy d x k++m:=by
  induction n with
  |zero=>exact ⟨[],by rw [show k=0 by omega,List.append_nil]⟩
  |succ n ih=>
    by_cases e:k=n+1
    · exact ⟨[],by rw [e,List.append_nil]⟩
    obtain ⟨m,hm⟩:=ih (by omega);exact ⟨m++limZ d x n,by rw [oe_,hm,Gf]⟩
theorem limA_le(d:Dfa)(l:List Arc)(k:Nat):GR d l=GR d (l.take k)++GR d (l.drop k):=by
  unfold GR;rw [<-List.flatMap_append,List.take_append_drop]
section
variable {t:Fst} {d:Dfa} (ht:FstOk t) (hd:kU d=true) (hN:t.states * ((d.next.length:Nat):Int)<=1024)
include ht hd hN
theorem lim_b6{i y:Nat}(hi:i<t.arcs.length)(hy:y<d.next.length){m:FM Int BSet}(hm:StK d ((y:Nat):Int) (nth t.arcs i aQ).set 256 m){g:Grow}{F:Fst}(hg:Gr g F):
    ∃r,iter (λq:Int×(List Tip)×(List Tip)×(List Arc)×Bool×Nat=>Xv m t i d y q.1 q.2.1 q.2.2.1 q.2.2.2.1 q.2.2.2.2.1 q.2.2.2.2.2) (g.f.states,g.f.starts,g.f.ends,g.f.arcs,g.over,0)=some r/\
      ((∃g':Grow,r= .inl (g'.f.states,g'.f.starts,g'.f.ends,g'.f.arcs,g'.over,y+1)/\Gr g' (pA F (limZ d (nth t.arcs i aQ) y)))\/r= .inr (.inr (⟨0,[],[],[]⟩,2))/\ ¬ GB (pA F (limZ d (nth t.arcs i aQ) y))):=by
  have hyS:okS d ((y:Nat):Int):=⟨Int.natCast_nonneg y,by omega⟩;have hk:=yn_ hd hyS hm;have hx:=ht.arcs _ (sH hi aQ);obtain ⟨x,hxe⟩: ∃x,nth t.arcs i aQ=x:=⟨_,rfl⟩;rw [hxe]at hm hk hx ⊢;rw [limZ_map];refine kV (step:=λq:Int×(List Tip)×(List Tip)×(List Arc)×Bool×Nat=>Xv m t i d y q.1 q.2.1 q.2.2.1 q.2.2.2.1 q.2.2.2.2.1 q.2.2.2.2.2) (λ(s:Grow) k=>(s.f.states,s.f.starts,s.f.ends,s.f.arcs,s.over,k)) (Jz d ((y:Nat):Int) x.set).length
    (λk s=>Gr s (pA F (((Jz d ((y:Nat):Int) x.set).take k).map (zArc d x y)))) _ (λk s hk2 hI=> ?_) (λs hI=> ?_) (s0:=g) (by simpa [vf_]using hg)
  · have hz:=sH hk2 (0:Int)
    have hzS:okS d (nth (Jz d ((y:Nat):Int) x.set) k (0:Int)):=by
      unfold Jz at hz;obtain ⟨j,hj,e⟩:=List.mem_map.1 hz;have hj1:=List.mem_range.1 (List.mem_filter.1 hj).1;unfold Jz;rw [<-e];exact ⟨Int.natCast_nonneg j,by omega⟩
    have r1:=Lr hx.1 hyS;have r2:=Lr hx.2.1 hzS;have r3:=Lr (n:=((d.next.length:Nat):Int)) (y:=0) hx.1 ⟨Int.le_refl _,by omega⟩;have r4:=Lr (n:=((d.next.length:Nat):Int)) (y:=0) hx.2.1 ⟨Int.le_refl _,by omega⟩;refine .inl ⟨py_ s (zArc d x y (nth (Jz d ((y:Nat):Int) x.set) k 0)),?_,?_⟩
    · show Xv m t i d y s.f.states s.f.starts s.f.ends s.f.arcs s.over k=_
      unfold Xv;rw [hk,eH (by omega),hxe,arc_eq,kT,hm.get,oo_,JD (a:=x.frm * ((d.next.length:Nat):Int)) (by omega),JD (a:=x.to * ((d.next.length:Nat):Int)) (by omega),JD (by omega),JD (by omega)];rfl
    rw [qh _ hk2 (0:Int),List.map_append,List.map_singleton,yl_];exact hI.ar _
  rw [List.take_length]at hI;have hs:Xv m t i d y s.f.states s.f.starts s.f.ends s.f.arcs s.over (Jz d ((y:Nat):Int) x.set).length=fin (iteO s.over (bnd (Tj (⟨(⟨s.f.states,s.f.starts,s.f.ends,s.f.arcs⟩:Fst),s.over⟩:Grow)) (λxw=>fin (fin (some ((⟨xw.1.states,xw.1.starts,xw.1.ends,xw.1.arcs⟩:Fst),xw.2))))) (nxt (s.f.states,s.f.starts,s.f.ends,s.f.arcs,s.over,(y+1)))):=by
    unfold Xv;rw [hk,dM (by omega)]
  cases ho:s.over with
  |true=>
    rw [ho]at hs;refine ⟨.inr (.inr (⟨0,[],[],[]⟩,2)),Eq.trans hs ?_,.inr ⟨rfl,by
      rcases hI with ⟨-,h⟩|⟨h, -⟩
      · exact h
      rw [h]at ho;cases ho⟩⟩
    rw [iteO_true,iM (rr_ ⟨s.f,true⟩)];rfl
  |false=>
    rw [ho]at hs;exact ⟨.inl (s.f.states,s.f.starts,s.f.ends,s.f.arcs,false,y+1),Eq.trans hs rfl,.inl ⟨s,by rw [ho],hI⟩⟩
theorem lim_b5{i:Nat}(hi:i<t.arcs.length){g:Grow}{F:Fst}(hg:Gr g F):
    ∃r,iter (λq:Int×(List Tip)×(List Tip)×(List Arc)×Bool×Nat=>Xx d t i q.1 q.2.1 q.2.2.1 q.2.2.2.1 q.2.2.2.2.1 q.2.2.2.2.2) (g.f.states,g.f.starts,g.f.ends,g.f.arcs,g.over,0)=some r/\
      ((∃g':Grow,r= .inl (g'.f.states,g'.f.starts,g'.f.ends,g'.f.arcs,g'.over,i+1)/\Gr g' (pA F (Jy d (nth t.arcs i aQ) d.next.length)))\/r= .inr (⟨0,[],[],[]⟩,2)/\ ¬ GB (pA F (Jy d (nth t.arcs i aQ) d.next.length))):=by
  refine kV (step:=λq:Int×(List Tip)×(List Tip)×(List Arc)×Bool×Nat=>Xx d t i q.1 q.2.1 q.2.2.1 q.2.2.2.1 q.2.2.2.2.1 q.2.2.2.2.2) (λ(s:Grow) k=>(s.f.states,s.f.starts,s.f.ends,s.f.arcs,s.over,k)) d.next.length
    (λk s=>Gr s (pA F (Jy d (nth t.arcs i aQ) k))) _ (λk s hk hI=> ?_) (λs hI=> ?_) (s0:=g) (by simpa [Jy,vf_]using hg)
  · have hkS:okS d ((k:Nat):Int):=⟨Int.natCast_nonneg k,by omega⟩
    obtain ⟨m,e1,hm⟩:=steps_go hd hkS (nth t.arcs i aQ).set;obtain ⟨r,e2,h2⟩:=lim_b6 ht hd hN hi hk hm hI;have hs:Xx d t i s.f.states s.f.starts s.f.ends s.f.arcs s.over k=some r:=by
      unfold Xx;rw [eH (by omega),iM e1,cu (keys_in hd hkS hm)];exact e2
    rcases h2 with ⟨g',rfl,hG⟩|⟨rfl,hG⟩
    · refine .inl ⟨g',hs,?_⟩
      rw [oe_,<-vv_];exact hG
    refine .inr ⟨_,hs,.inr ⟨rfl,λq=>hG ?_⟩⟩;obtain ⟨m,hm⟩:=limY_le d (nth t.arcs i aQ) (show k+1<=d.next.length by omega);rw [hm]at q;have q':=q.preA;rw [oe_,<-vv_]at q';exact q'
  refine ⟨_,?_,.inl ⟨s,rfl,hI⟩⟩;show Xx d t i s.f.states s.f.starts s.f.ends s.f.arcs s.over d.next.length=_;unfold Xx;rw [dM (by omega)];rfl
theorem lim_b4{g:Grow}{F:Fst}(hg:Gr g F):
    ∃r,iter (λq:Int×(List Tip)×(List Tip)×(List Arc)×Bool×Nat=>Xq t d q.1 q.2.1 q.2.2.1 q.2.2.2.1 q.2.2.2.2.1 q.2.2.2.2.2) (g.f.states,g.f.starts,g.f.ends,g.f.arcs,g.over,0)=some r/\GEnd (pA F (GR d t.arcs)) r:=by
  refine kV (step:=λq:Int×(List Tip)×(List Tip)×(List Arc)×Bool×Nat=>Xq t d q.1 q.2.1 q.2.2.1 q.2.2.2.1 q.2.2.2.2.1 q.2.2.2.2.2) (λ(s:Grow) k=>(s.f.states,s.f.starts,s.f.ends,s.f.arcs,s.over,k)) t.arcs.length
    (λk s=>Gr s (pA F (GR d (t.arcs.take k)))) _ (λk s hk hI=> ?_) (λs hI=> ?_) (s0:=g) (by simpa [GR,vf_]using hg)
  · obtain ⟨r,e2,h2⟩:=lim_b5 ht hd hN hk hI
    have hs:Xq t d s.f.states s.f.starts s.f.ends s.f.arcs s.over k=some r:=by
      unfold Xq;rw [eH (by omega)];exact e2
    rcases h2 with ⟨g',rfl,hG⟩|⟨rfl,hG⟩
    · refine .inl ⟨g',hs,?_⟩
      rw [sk_ d t.arcs hk,<-vv_];exact hG
    refine .inr ⟨_,hs,.inl ⟨rfl,.inl λq=>hG ?_⟩⟩;rw [limA_le d t.arcs (k+1)]at q;have q':=q.preA;rw [sk_ d t.arcs hk,<-vv_]at q';exact q'
  rw [List.take_length]at hI;refine ⟨XT s,?_,gend hI⟩;show Xq t d s.f.states s.f.starts s.f.ends s.f.arcs s.over t.arcs.length=_;unfold Xq;rw [dM (by omega),iM (rr_ s)];rfl
theorem lim_b3{i:Nat}(hi:i<t.ends.length){g:Grow}{F:Fst}(hg:Gr g F):
    ∃r,iter (λq:Int×(List Tip)×(List Tip)×(List Arc)×Bool×Nat=>Xy d t i q.1 q.2.1 q.2.2.1 q.2.2.2.1 q.2.2.2.2.1 q.2.2.2.2.2) (g.f.states,g.f.starts,g.f.ends,g.f.arcs,g.over,0)=some r/\
      (∃g':Grow,r= .inl (g'.f.states,g'.f.starts,g'.f.ends,g'.f.arcs,g'.over,i+1)/\Gr g' (pE F (Ue d (nth t.ends i aY) d.next.length))):=by
  obtain ⟨c, -, -, -, -,hfl, -⟩:=JK hd;have hx:=ht.ends _ (sH hi aY);obtain ⟨x,hxe⟩: ∃x,nth t.ends i aY=x:=⟨_,rfl⟩;rw [hxe]at hx ⊢;refine kV (step:=λq:Int×(List Tip)×(List Tip)×(List Arc)×Bool×Nat=>Xy d t i q.1 q.2.1 q.2.2.1 q.2.2.2.1 q.2.2.2.2.1 q.2.2.2.2.2) (λ(s:Grow) k=>(s.f.states,s.f.starts,s.f.ends,s.f.arcs,s.over,k)) d.next.length
    (λk s=>Gr s (pE F (Ue d x k))) _ (λk s hk hI=> ?_) (λs hI=> ?_) (s0:=g) (by simpa [Ue,yg_]using hg)
  · left
    have r1:=Lr hx.1 (show 0<=((k:Nat):Int)/\((k:Nat):Int)<((d.next.length:Nat):Int) by omega);have r3:=Lr (n:=((d.next.length:Nat):Int)) (y:=0) hx.1 ⟨Int.le_refl _,by omega⟩;show ∃s',Xy d t i s.f.states s.f.starts s.f.ends s.f.arcs s.over k=_/\_;unfold Xy Et_;rw [eH (by omega),hxe,ws_];cases h:nth d.fin k false with
    |true=>
      refine ⟨p6_ s ⟨x.state * ((d.next.length:Nat):Int)+((k:Nat):Int),x.out⟩,?_,?_⟩
      · rw [iteO_true,end_eq,kT,JD (a:=x.state * ((d.next.length:Nat):Int)) (by omega),JD (by omega)];rfl
      rw [if_pos rfl,xt_];exact hI.en _
    |false=>
      refine ⟨s,by rw [iteO_false];rfl,?_⟩;rw [if_neg (by simp),List.append_nil];exact hI
  refine ⟨_,?_,s,rfl,hI⟩;show Xy d t i s.f.states s.f.starts s.f.ends s.f.arcs s.over d.next.length=_;unfold Xy;rw [dM (by omega)];rfl
theorem lim_b2{g:Grow}{F:Fst}(hg:Gr g F):
    ∃r,iter (λq:Int×(List Tip)×(List Tip)×(List Arc)×Bool×Nat=>Xt t d q.1 q.2.1 q.2.2.1 q.2.2.2.1 q.2.2.2.2.1 q.2.2.2.2.2) (g.f.states,g.f.starts,g.f.ends,g.f.arcs,g.over,0)=some r/\GEnd (pA (pE F (limE d t.ends)) (GR d t.arcs)) r:=by
  refine kV (step:=λq:Int×(List Tip)×(List Tip)×(List Arc)×Bool×Nat=>Xt t d q.1 q.2.1 q.2.2.1 q.2.2.2.1 q.2.2.2.2.1 q.2.2.2.2.2) (λ(s:Grow) k=>(s.f.states,s.f.starts,s.f.ends,s.f.arcs,s.over,k)) t.ends.length
    (λk s=>Gr s (pE F (limE d (t.ends.take k)))) _ (λk s hk hI=> ?_) (λs hI=> ?_) (s0:=g) (by simpa [limE,yg_]using hg)
  · obtain ⟨r,e2,g',rfl,hG⟩:=lim_b3 ht hd hN hk hI
    refine .inl ⟨g',?_,by rw [x7_ d t.ends hk,<-pE_app];exact hG⟩;show Xt t d s.f.states s.f.starts s.f.ends s.f.arcs s.over k=_;unfold Xt;rw [eH (by omega)];exact e2
  rw [List.take_length]at hI;obtain ⟨r,e2,h2⟩:=lim_b4 ht hd hN hI;refine ⟨r,?_,h2⟩;show Xt t d s.f.states s.f.starts s.f.ends s.f.arcs s.over t.ends.length=_;unfold Xt;rw [dM (by omega),e2];rfl
theorem lim_b1: ∃r,iter (λq:Int×(List Tip)×(List Tip)×(List Arc)×Bool×Nat=>Xr t d q.1 q.2.1 q.2.2.1 q.2.2.2.1 q.2.2.2.2.1 q.2.2.2.2.2) (t.states * ((d.next.length:Nat):Int),[],[],[],false,0)=some r/\GEnd (IV t d) r:=by
  refine kV (step:=λq:Int×(List Tip)×(List Tip)×(List Arc)×Bool×Nat=>Xr t d q.1 q.2.1 q.2.2.1 q.2.2.2.1 q.2.2.2.2.1 q.2.2.2.2.2) (λ(s:Grow) k=>(s.f.states,s.f.starts,s.f.ends,s.f.arcs,s.over,k)) t.starts.length
    (λk s=>Gr s (pS ⟨t.states * ((d.next.length:Nat):Int),[],[],[]⟩ (limS d.next.length (t.starts.take k)))) _ (λk s hk hI=> ?_) (λs hI=> ?_) (s0:=⟨⟨t.states * ((d.next.length:Nat):Int),[],[],[]⟩,false⟩) (by simpa [limS,pS_nil]using Gr.nil _)
  · have hx:=ht.starts _ (sH hk aY)
    have r3:=Lr (n:=((d.next.length:Nat):Int)) (y:=0) hx.1 (ok0 hd);refine .inl ⟨qe_ s ⟨(nth t.starts k aY).state * ((d.next.length:Nat):Int),(nth t.starts k aY).out⟩,?_,?_⟩
    · show Xr t d s.f.states s.f.starts s.f.ends s.f.arcs s.over k=_
      unfold Xr;rw [eH (by omega),vi_,kT,JD (by omega)];rfl
    rw [xz_ _ t.starts hk,ye_];exact hI.st _
  rw [List.take_length]at hI;obtain ⟨r,e2,h2⟩:=lim_b2 ht hd hN hI;refine ⟨r,?_,h2⟩;show Xr t d s.f.states s.f.starts s.f.ends s.f.arcs s.over t.starts.length=_;unfold Xr;rw [dM (by omega),e2];rfl
end
theorem lim_go{t:Fst}{d:Dfa}(ht:FstOk t)(hd:kU d=true): ∃r,Xm t d=some r/\GEnd (IV t d) r:=by
  obtain ⟨c, -, -,hn1,hn2, -, -⟩:=JK hd;have h0:=ht.st0;have h1:=ht.st1;have p0:0<=t.states * ((d.next.length:Nat):Int):=Int.mul_nonneg h0 (Int.natCast_nonneg _);have p1:t.states * ((d.next.length:Nat):Int)<=1024 * ((d.next.length:Nat):Int):=Int.mul_le_mul_of_nonneg_right h1 (Int.natCast_nonneg _);unfold Xm;rw [Xw,kT,l4_,(UY t).2 ht,Bool.not_true,iteO_false,Rf,kT,if_pos hd,dM (by simp),Ja (by omega) (by omega)]
  by_cases h:1024<t.states * ((d.next.length:Nat):Int)
  · rw [eH h,iM (rr_ ⟨⟨t.states * ((d.next.length:Nat):Int),[],[],[]⟩,false⟩)]
    refine ⟨_,rfl,.inl ⟨?_,.inr h⟩⟩;unfold XT;rw [if_pos (.inr h)]
  rw [dM h];exact lim_b1 ht hd (by omega)
theorem lim_any(t:Fst)(d:Dfa): ∃r,Xm t d=some r/\FstOk r.1/\(r.2≠0\/FstOk t/\kU d=true/\r=(IV t d,0)/\FstOk (IV t d)):=by
  by_cases h:xC t=true
  · by_cases hd:kU d=true
    · have ht:=(UY t).1 h
      obtain ⟨r,e,hr⟩:=lim_go ht hd;refine ⟨r,e,?_⟩;rcases hr with ⟨rfl, -⟩|⟨rfl,h1,h2⟩
      · exact ⟨zF_ok,.inl (by decide)⟩
      exact ⟨lim_ok ht hd h1 h2,.inr ⟨ht,hd,rfl,lim_ok ht hd h1 h2⟩⟩
    refine ⟨(zF,1),?_,zF_ok,.inl (by decide)⟩;unfold Xm;rw [Xw,kT,l4_,h,Bool.not_true,iteO_false,Rf,kT,if_neg hd];rfl
  refine ⟨(zF,1),?_,zF_ok,.inl (by decide)⟩;simp only [Bool.not_eq_true]at h;unfold Xm;rw [Xw,kT,l4_,h];rfl
end Go.Proofs.YtcfgkcfcddfccaaGreatDoor
end

noncomputable section
namespace Go.Proofs.YtcfgkcfcddfccaaGreatDoor
open Go Go.E Go.E.OpVal Go.E.OpOk Go.Proofs.Tryz
open List (replicate)
theorem pf22:plainF Tryz.prog 22=true:=by kernel_rfl
theorem pf23:plainF Tryz.prog 23=true:=by kernel_rfl
theorem pf24:plainF Tryz.prog 24=true:=by kernel_rfl
theorem pf8:plainF Tryz.prog 8=true:=by kernel_rfl
def Rj(x0:Dfa)(Lm:aO)(bQ:B_1)(eG:Nat):Option ((aO×B_1×Nat)⊕(Dfa×Int)):=
 iteO (decide ((eG:Int)<(x0.next.length:Int))) (grd ((nth x0.next eG []).length * 8<=140737488355328) (grd ((Lm.length+[(nth x0.next eG [])].length) * 24<=140737488355328) (grd (eG<x0.fin.length) (grd ((bQ.length+[(!(nth x0.fin eG false))].length) * 1<=140737488355328) (nxt ((Lm++[(nth x0.next eG [])]),(bQ++[(!(nth x0.fin eG false))]),(eG+1))))))) (fin (some ((⟨x0.cls,Lm,bQ⟩:Dfa),0)))
def jq_(x0:Dfa):Option (Dfa×Int):=
 bnd (S_ x0) (λv5=>iteO (decide (v5≠0)) (some ((⟨([]:ah),([]:aO),([]:B_1)⟩:Dfa),1)) (grd (x0.cls.length * 8<=140737488355328) (iter (λq:aO×B_1×Nat=>Rj x0 q.1 q.2.1 q.2.2) (([]:aO),([]:B_1),0))))
theorem re_{σ:aj}{x0:Dfa}(aC:dH σ ak aB aA x0.cls)(aV:RZ σ (aF 1 ak aT) (.slice ay x0.next.length aH) x0.next)(aS:dH σ dG aG au x0.fin){r:Dfa×Int}(hh:jq_ x0=some r):
  Con prog 22 #[.agg #[.slice aB x0.cls.length aA,.slice ay x0.next.length aH,.slice aG x0.fin.length au]] σ [] (Ia_ σ r):=by
 dsimp only [jq_]at hh;have f0_0b:=aC.rv.big;have f0_1b:=aV.big;have f0_2b:=aS.rv.big;refine cM 43 Tryz.func22 (λw0=> ?_);refine R2 ?_;refine TL.bx (λaP=> ?_);refine TL.al (λbK=> ?_);refine R6 ?_;obtain ⟨v5,u5,hh⟩:=bg hh;refine φ z (gI (Ef_ (x0:=x0) aC aV aS u5) z z KZ z z z ?_);refine R2 ?_;refine π z hh (λdL hh=> ?_) (λdL hh=> ?_)
 ·refine R6 ?_;refine Ψ 1 ?_;obtain rfl:=so hh;exact rz
 refine R5 ?_;obtain ⟨u12,hh⟩:=gd hh;refine φ z (OpOk.call (Ho_ aC u12) z z KY z z z z ?_);rintro _ σ _ _ ⟨⟨kP,c107,rfl⟩,rfl,rfl⟩;refine ι z bL (TL.al (λpJ=> ?_));refine R11 ?_;refine TC.nilS 31 1 (aF 1 ak aT).en ?_;have J9:=ZOk.nil σ (aF 1 ak aT);refine TC.nilS 4 1 dG (TC.Ak (α:=(aO×B_1×Nat)×((Option Addr)×Nat×(List (ah×(aF 1 ak aT).P))×(Option Addr)×Nat×aj)) (rgs [(5,2),(18,24)]) (λg=>[(18,.int .i64 (g.1.2.2:Int))]) (λg=>[ω aP #[.slice aB x0.cls.length aA,.slice ay x0.next.length aH,.slice aG x0.fin.length au] 35,ω bK #[aW,aW,aW] 35,ω pJ #[.slice kP x0.cls.length c107,.slice g.2.1 g.1.1.length g.2.2.1,.slice g.2.2.2.2.1 g.1.2.1.length g.2.2.2.2.2.1] 35,dO 3 ak kP c107 x0.cls,ε 31 1 (aF 1 ak aT).en (.slice g.2.1 g.1.1.length g.2.2.1) g.2.2.2.1,ε 4 1 dG (.slice g.2.2.2.2.1 g.1.2.1.length g.2.2.2.2.2.1) g.1.2.1]) (λg=>g.2.2.2.2.2.2) (λg=>iter (λq:aO×B_1×Nat=>Rj x0 q.1 q.2.1 q.2.2) g.1=some r/\ZOk g.2.2.2.2.2.2 (aF 1 ak aT) g.2.2.2.1 g.1.1/\aj.le σ g.2.2.2.2.2.2) (λg=>rQ (λq:aO×B_1×Nat=>Rj x0 q.1 q.2.1 q.2.2) g.1) ((([]:aO),([]:B_1),0),(none,0,[],none,0,σ)) (ψ [1,3,3,4,5] 6) z (by repeat (first|exact trivial|refine ⟨z,?_⟩)) ⟨hh,J9,(aj.le.refl _)⟩ (λg1 j1 hg1=> ?_));obtain ⟨⟨Lm,bQ,eG⟩,⟨wI,rV,z137,a141,oV,τ147⟩⟩:=g1;obtain ⟨hh,wL,nY⟩:=hg1
 try dsimp only at wL
 dsimp only at nY;replace aV:=aV.mono nY;replace aS:=aS.mono nY
 try dsimp only
 have hhI:=hh;clear hh;obtain ⟨z1,hh,hR1⟩:=zQ hhI;dsimp only [Rj]at hh;have zf138b:=wL.length;refine ζ 3 z (λhb149=> ?_);refine ζ 4 z (λWY=> ?_);refine ζ 5 z (λNU=> ?_);refine R5 ?_;refine π z hh (λZz hh=> ?_) (λZz hh=> ?_)
 ·refine R7 ?_;obtain ⟨QC,Ik,hg153⟩:=RZ.seg aV eG (by omega);replace Ik:dH _ ak QC.1 QC.2 (nth x0.next eG []):=Ik;have hk153b:=Ik.rv.big;refine ι z (OpVal.of (qw z pV z hg153 z) (v':= .slice QC.1 ((nth x0.next eG []).length) QC.2) z) (R4 ?_);obtain ⟨u29,hh⟩:=gd hh;obtain ⟨u31,hh⟩:=gd hh;refine TC.dw [5,6,7] (ν 0 z fL z (χ 1 z lL z (ν 2 z mS z (υ 3 z (OpOk.call (Ho_ Ik u29) z z KY z z z z ?_)))));rintro _ τ147 _ _ ⟨⟨a167,c168,rfl⟩,rfl,rfl⟩;refine k1 (TA.jO aT (λτ174 BU VB=> ?_));replace aS:=aS.mono BU;replace wL:=wL.mono BU;have hr172b:=VB.rv.big;have lY:ZOk _ (aF 1 ak aT) ([((nth x0.next eG []),(a167,c168))]:List (ah×(aF 1 ak aT).P)) [(nth x0.next eG [])]:=ZOk.cons (VB) (ZOk.nil _ _);refine υ 4 z (litZ lY z jZ jy z ku z z z (by decide) (by decide) z (by decide) z (by decide) (λa170 c171=>(kl 1 BU ?_)));refine Ω 5 (TA.la 5 z z z (Jk (k:=(aF 1 ak aT)) wL lY z z jZ jy mG ku z z (by decide) z z z (.inr ⟨_,0,z⟩) (by simpa using u31) (by decide) (λa177 ZW zf179=> ?_)));refine TZ.w 6 z z z fL z z (TZ.fr 4 (TZ.la 7 z z z (iH z jM z z z z z ?_)));refine R1 ?_;obtain ⟨u39,hh⟩:=gd hh;obtain ⟨PV,hh⟩:=gd hh;refine TC.dw [9,10,11] (ν 0 z fL z (χ 1 z lL z (ν 2 z fL z (χ 3 z lL z (ν 4 z mI z (χ 5 z iN z (χ 6 z l1 z (ν 7 z (OpVal.not z z) z (υ 8 z (jc (enc:=dG) [(!(nth x0.fin eG false))] (λuj ug=>(k1 ?_))))))))))));refine Ω 7 (TA.la 9 z z z (apF (.inr ⟨_,0,z⟩) PV (λrW rU=> ?_)));refine TZ.w 10 z z z fL z z (TZ.fr 2 (TZ.la 11 z z z (iH z xs_ z z z z z ?_)));refine R5 ?_;obtain ⟨hh,YX⟩:=xP hR1 hh;exact lf (((Lm++[(nth x0.next eG [])]),(bQ++[(!(nth x0.fin eG false))]),(eG+1)),(a177,ZW,(z137++([((nth x0.next eG []),(a167,c168))]:List (ah×(aF 1 ak aT).P))),rW,rU,τ174)) YX ⟨hh,zf179,(nY.trans BU)⟩ (ψ [1,3,7,3,7,7] 6)
 refine R1 ?_;replace hh:=bJ hR1 hh;refine R4 ?_;refine κ 1 (R3 ?_);refine TC.fr 3 (TC.jO aT (λτ193 Zd DY=> ?_));replace wL:=wL.mono Zd;have hr191b:=DY.rv.big;refine TC.fr 3 (TC.Ji wL (λτ196 Zc L6=> ?_));replace DY:=DY.mono Zc;have hr194b:=L6.big;refine TC.fr 3 (TC.jO NH (λτ199 MX hr197=> ?_));replace DY:=DY.mono MX;replace L6:=L6.mono MX;have hr197b:=hr197.rv.big;refine Ψ 1 ?_;obtain rfl:=so hh;exact rz
def Fp_(x0:Fst)(x1:Fst):Option (Fst×Int):=
 bnd (Gp x0) (λv6=>iteO (decide (v6≠0)) (some ((⟨0,([]:List Tip),([]:List Tip),([]:List Arc)⟩:Fst),1)) (bnd (Gp x1) (λv10=>iteO (decide (v10≠0)) (some ((⟨0,([]:List Tip),([]:List Tip),([]:List Arc)⟩:Fst),1)) (bnd (Xu x0) (λv17=>iteO (decide (v17.2≠0)) (some ((⟨0,([]:List Tip),([]:List Tip),([]:List Arc)⟩:Fst),v17.2)) (bnd (jq_ v17.1) (λv31=>iteO (decide (v31.2≠0)) (some ((⟨0,([]:List Tip),([]:List Tip),([]:List Arc)⟩:Fst),v31.2)) (bnd (Xm x1 v31.1) (λv45=>iteO (decide (v45.2≠0)) (some ((⟨0,([]:List Tip),([]:List Tip),([]:List Arc)⟩:Fst),v45.2)) (bnd (H1_ x0 v45.1) (λv60=>some (v60.1,v60.2))))))))))))
theorem L1_{σ:aj}{x0:Fst}{x1:Fst}(hgl:xu σ 0 2)(aC:RS σ 2 bf (.slice aB x0.starts.length aA) x0.starts)(aV:RS σ 2 bf (.slice ay x0.ends.length aH) x0.ends)(aS:RS σ 8 fP (.slice aG x0.arcs.length au) x0.arcs)(bn:RS σ 2 bf (.slice bY x1.starts.length bW) x1.starts)(gu:RS σ 2 bf (.slice dV x1.ends.length iR) x1.ends)(fF:RS σ 8 fP (.slice iI x1.arcs.length dU) x1.arcs){r:Fst×Int}(hh:Fp_ x0 x1=some r):
  Con prog 6 #[.agg (jB x0 aB aA ay aH aG au),.agg (jB x1 bY bW dV iR iI dU)] σ [] (Iu_ σ r):=by
 dsimp only [Fp_]at hh;refine cM 51 Tryz.func6 (λw0=> ?_);refine R2 ?_;refine TL.bx (λaP=> ?_);refine TL.bx (λbK=> ?_);refine TL.al (λiq=> ?_);refine R6 ?_;obtain ⟨v6,u6,hh⟩:=bg hh;refine φ z (gI (Tm (x0:=x0) aC aV aS u6) z z Qb z z z ?_);refine R2 ?_;refine δ 12 z (λgq=> ?_) (λgq=> ?_)
 ·obtain ⟨gq,hh⟩:=iT gq hh;refine R12 ?_;refine Ψ 1 ?_;obtain rfl:=so hh;exact rz
 obtain ⟨gq,hh⟩:=iF gq hh;refine TL.g z lA ?_;obtain ⟨v10,u10,hh⟩:=bg hh;refine TL.gon z z z z z (gI (Tm (x0:=x1) bn gu fF u10) z z Qb z z z ?_);refine R3 ?_;refine π z hh (λiG hh=> ?_) (λiG hh=> ?_)
 ·refine R6 ?_;refine Ψ 1 ?_;obtain rfl:=so hh;exact rz
 refine R4 ?_;obtain ⟨v17,GZ,hh⟩:=bg hh;refine φ z (OpOk.call (Ea_ (x0:=x0) hgl aC aV aS GZ) z z pf8 z z z z ?_);rintro _ τ109 _ fK ⟨a109_1,c109_1,a109_2,c109_2,a109_3,c109_3,rfl,hr109_0,hr109_1,hr109_2,rfl⟩;replace aC:=aC.mono fK;replace aV:=aV.mono fK;replace aS:=aS.mono fK;replace bn:=bn.mono fK;replace gu:=gu.mono fK;replace fF:=fF.mono fK;refine R3 ?_;refine TL.al (λb110=> ?_);refine R9 ?_;refine π z hh (λh112 hh=> ?_) (λh112 hh=> ?_)
 ·refine R4 ?_;refine κ 1 (R3 ?_);refine Ψ 1 ?_;obtain rfl:=so hh;exact rz
 refine R4 ?_;obtain ⟨v31,u31,hh⟩:=bg hh;refine φ z (OpOk.call (re_ (x0:=v17.1) hr109_0 hr109_1 hr109_2 u31) z z pf22 z z z z ?_);rintro _ τ113 _ pF ⟨a113_1,c113_1,a113_2,c113_2,a113_3,c113_3,rfl,hr113_0,hr113_1,hr113_2,rfl⟩;replace aC:=aC.mono pF;replace aV:=aV.mono pF;replace aS:=aS.mono pF;replace bn:=bn.mono pF;replace gu:=gu.mono pF;replace fF:=fF.mono pF;refine R12 ?_;refine π z hh (λjI hh=> ?_) (λjI hh=> ?_)
 ·refine R4 ?_;refine κ 1 (R3 ?_);refine Ψ 1 ?_;obtain rfl:=so hh;exact rz
 refine R5 ?_;obtain ⟨v45,u45,hh⟩:=bg hh;refine φ z (OpOk.call (Ml_ (x0:=x1) (x1:=v31.1) bn gu fF hr113_0 hr113_1 hr113_2 u45) z z pf23 z z z z ?_);rintro _ τ115 _ gY ⟨a115_1,c115_1,a115_2,c115_2,a115_3,c115_3,rfl,hr115_0,hr115_1,hr115_2,rfl⟩;replace aC:=aC.mono gY;replace aV:=aV.mono gY;replace aS:=aS.mono gY;refine R3 ?_;refine TL.al (λOY=> ?_);refine R9 ?_;refine π z hh (λqY hh=> ?_) (λqY hh=> ?_)
 ·refine R4 ?_;refine κ 2 (R3 ?_);refine Ψ 1 ?_;obtain rfl:=so hh;exact rz
 refine R5 ?_;obtain ⟨v60,u60,hh⟩:=bg hh;refine φ z (OpOk.call (M4_ (x0:=x0) (x1:=v45.1) aC aV aS hr115_0 hr115_1 hr115_2 u60) z z pf24 z z z z ?_);rintro _ τ119 _ nZ ⟨a119_1,c119_1,a119_2,c119_2,a119_3,c119_3,rfl,hr119_0,hr119_1,hr119_2,rfl⟩;refine R2 ?_;refine κ 2 (R3 ?_);refine Ψ 1 ?_;obtain rfl:=so hh;exact rz
end Go.Proofs.YtcfgkcfcddfccaaGreatDoor
end

noncomputable section
namespace Go.Proofs.YtcfgkcfcddfccaaGreatDoor
open Go Go.E
theorem ro_{t:Fst}: ∀(w:T_1) (P:Int->Prop) (q:Int),nrun (inN t) P w q↔ ∃s,P s/\ ∃o,Wy t s w o q
  |[],P,q=>⟨λh=>⟨q,h,[],.nil q⟩,λ⟨s,h,o,hw⟩=>by
    obtain ⟨-,rfl⟩:=hw.d0_;exact h⟩
  | b :: w, P, q => by
    show nrun (inN t) (nst (inN t) P b) w q↔_;rw [ro_ w];constructor
    · rintro ⟨s,⟨e,he,h1,h2,rfl⟩,o,hw⟩
      obtain ⟨a,ha,rfl⟩:=List.mem_map.1 (show e∈t.arcs.map λa=>(⟨a.frm,a.to,a.set⟩:Arrow)from he);exact ⟨a.frm,h1,em a b++o,.cons a b ha h2 hw⟩
    rintro ⟨s,h1,o,hw⟩;obtain ⟨a,ha,rfl,h2,o',hw', -⟩:=hw.cons_inv;exact ⟨a.to,⟨⟨a.frm,a.to,a.set⟩,List.mem_map.2 ⟨a,ha,rfl⟩,h1,h2,rfl⟩,o',hw'⟩
theorem z8_{t:Fst}(w:T_1):(∃q∈(inN t).ends,nrun (inN t) (λq=>q∈(inN t).starts) w q)↔ ∃o,Rel t w o:=by
  constructor
  · rintro ⟨q,hq,h⟩
    obtain ⟨s,hs,o,hw⟩:=(ro_ w _ q).1 h;have hs':s∈zO 0 qg (t.starts.map Tip.state):=hs;have hq':q∈zO 0 qg (t.ends.map Tip.state):=hq;rw [Vf]at hs' hq';obtain ⟨x,hx,rfl⟩:=List.mem_map.1 hs';obtain ⟨e,he,rfl⟩:=List.mem_map.1 hq';exact ⟨_,x,hx,e,he,o,hw,rfl⟩
  rintro ⟨o,x,hx,e,he,m,hw, -⟩;refine ⟨e.state,?_,(ro_ w _ _).2 ⟨x.state,?_,m,hw⟩⟩
  · show e.state∈zO 0 qg (t.ends.map Tip.state)
    rw [Vf];exact List.mem_map.2 ⟨e,he,rfl⟩
  show x.state∈zO 0 qg (t.starts.map Tip.state);rw [Vf];exact List.mem_map.2 ⟨x,hx,rfl⟩
theorem inN_ns{t:Fst}(ht:FstOk t):NS (inN t):=by
  have h5:=ht.st1;refine ⟨ht.st0,?_,?_,λe he=> ?_,λx hx=> ?_,?_,λx hx=> ?_⟩
  · show t.states<=1024
    omega
  · show (t.arcs.map _).length<=16384
    rw [List.length_map];exact ht.arcsN
  · obtain ⟨a,ha,rfl⟩:=List.mem_map.1 (show e∈t.arcs.map λa=>(⟨a.frm,a.to,a.set⟩:Arrow)from he)
    exact ⟨(ht.arcs a ha).1,(ht.arcs a ha).2.1⟩
  · have hx':x∈zO 0 qg (t.starts.map Tip.state):=hx
    rw [Vf]at hx';obtain ⟨y,hy,rfl⟩:=List.mem_map.1 hx';exact (ht.starts y hy).1
  · show (zO 0 qg (t.starts.map Tip.state)).length<=1000000
    have h1:=Mh_ (d:=(0:Int)) (cf:=qg) (t.starts.map Tip.state);rw [List.length_map]at h1;have:=ht.startsN;omega
  have hx':x∈zO 0 qg (t.ends.map Tip.state):=hx;rw [Vf]at hx';obtain ⟨y,hy,rfl⟩:=List.mem_map.1 hx';exact (ht.ends y hy).1
theorem j3_(t:Fst): ∃r,Xu t=some r/\(r.2≠0\/FstOk t/\r.2=0/\kU r.1=true/\ ∀w,nth r.1.fin (qp r.1 0 w).toNat false=true↔ ∃o,Rel t w o):=by
  unfold Xu;rw [in_eq,kT]
  by_cases h:xC t=true
  · have ht:=(UY t).1 h
    have hns:=inN_ns ht;obtain ⟨r,e,hr⟩:=of_go hns;rw [if_pos h];dsimp only;rw [dM (by simp),iM e]
    by_cases c:r.2≠0
    · rw [eH c];exact ⟨_,rfl,.inl c⟩
    obtain ⟨d,e2⟩:=r;obtain rfl:e2=0:=by
      apply Decidable.byContradiction;exact λq=>c q
    rw [dM c];obtain ⟨m,em,hm⟩:=min_any d;rw [iM em];rcases hm with hm|⟨h2,h3,h4,h5⟩
    · exact ⟨_,rfl,.inl hm⟩
    exact ⟨_,rfl,.inr ⟨ht,h2,h4,λw=>by rw [h5 w,aat_ hr w,z8_ w]⟩⟩
  rw [if_neg h];exact ⟨_,rfl,.inl (by decide)⟩
def notD(d:Dfa):Dfa:=⟨d.cls,d.next,d.fin.map (!·)⟩
theorem aac_(d:Dfa)(w:T_1)(s:Int):qp (notD d) s w=qp d s w:=by
  induction w generalizing s with
  |nil=>rfl
  |cons b w ih=>exact ih (dlt d s b)
theorem wi_{d:Dfa}(h:kU d=true)(w:T_1):nth (notD d).fin (qp (notD d) 0 w).toNat false=true↔ ¬ nth d.fin (qp d 0 w).toNat false=true:=by
  obtain ⟨m, -, -, -, -,hf, -⟩:=JK h;obtain ⟨h0,h1⟩:=tx_ h w (ok0 h);rw [aac_];show nth (d.fin.map (!·)) _ false=true↔_;rw [I_ _ _ _ false false (by omega)];cases nth d.fin (qp d 0 w).toNat false<;>simp
theorem not_go{d:Dfa}(h:kU d=true):jq_ d=some (notD d,0):=by
  obtain ⟨m,hm,hcl,hn1,hn2,hf,hrow⟩:=JK h;have hm256:=ox_ d.cls 0 m hm;unfold jq_;rw [Rf,kT,if_pos h,dM (by simp),cu (by omega)];obtain ⟨r,e,rfl⟩:=kV (step:=λq:aO×B_1×Nat=>Rj d q.1 q.2.1 q.2.2) (λ(s:aO×B_1) k=>(s.1,s.2,k)) d.next.length (λk s=>s=(d.next.take k,(d.fin.take k).map (!·))) (λr=>r=(notD d,0))
    (λk s hk hI=>by
      subst hI;have hr:=(hrow k hk).1;refine .inl ⟨_,?_,rfl⟩;show Rj d _ _ k=_;unfold Rj;rw [eH (by omega),cu (by omega),cu (by simp only [List.length_take,jm];omega),cu (by omega),cu (by simp only [List.length_map,List.length_take,jm];omega),qh d.next hk ([]:ah),qh d.fin (by omega) false,List.map_append,List.map_singleton];rfl)
    (λs hI=>by
      subst hI;refine ⟨_,?_,rfl⟩;show Rj d _ _ d.next.length=_;unfold Rj;rw [dM (by omega),List.take_length,List.take_of_length_le (by omega)];rfl)
    (s0:=([],[])) (by simp)
  exact e
theorem alt_ok{a b:Fst}(ha:FstOk a)(hb:FstOk b)(h:GB (fAlt a b))(hn:(fAlt a b).states<=1024):FstOk (fAlt a b):=by
  have a0:=ha.st0;have b0:=hb.st0;refine ⟨by show 0<=a.states+b.states;omega,hn,h.aN,h.sN,h.eN,λx hx=>⟨?_,h.s x hx⟩,λx hx=>⟨?_,h.e x hx⟩,λx hx=> ?_⟩
  · show 0<=x.state/\x.state<a.states+b.states
    rcases List.mem_append.1 hx with hx|hx
    · have:=ha.starts x hx;omega
    obtain ⟨y,hy,rfl⟩:=Yu.1 hx;have:=hb.starts y hy;dsimp only;omega
  · show 0<=x.state/\x.state<a.states+b.states
    rcases List.mem_append.1 hx with hx|hx
    · have:=ha.ends x hx;omega
    obtain ⟨y,hy,rfl⟩:=Yu.1 hx;have:=hb.ends y hy;dsimp only;omega
  show (0<=x.frm/\x.frm<a.states+b.states)/\(0<=x.to/\x.to<a.states+b.states)/\x.set≠BSet.zero/\x.out.length<=1024;have hl:=h.a x hx;rcases List.mem_append.1 hx with hx|hx
  · have:=ha.arcs x hx;exact ⟨by omega,by omega,this.2.2.1,hl⟩
  obtain ⟨y,hy,rfl⟩:=rg_.1 hx;have:=hb.arcs y hy;exact ⟨by dsimp only;omega,by dsimp only;omega,this.2.2.1,hl⟩
theorem aau_(a b:Fst): ∃r,H1_ a b=some r/\(r.2≠0/\r.1.states=0\/FstOk a/\FstOk b/\r=(fAlt a b,0)/\FstOk (fAlt a b)):=by
  by_cases h:xC a=true/\xC b=true
  · have ha:=(UY a).1 h.1
    have hb:=(UY b).1 h.2;obtain ⟨r,e,hr⟩:=alt_go ha hb;refine ⟨r,e,?_⟩;rcases hr with ⟨rfl, -⟩|⟨rfl,h1,h2⟩
    · exact .inl ⟨by decide,rfl⟩
    exact .inr ⟨ha,hb,rfl,alt_ok ha hb h1 h2⟩
  refine ⟨(⟨0,[],[],[]⟩,1),?_,.inl ⟨by decide,rfl⟩⟩;unfold H1_;rw [zf_,kT];have:(xC a && xC b)=false:=by
    cases ha:xC a<;>cases hb:xC b<;>first|rfl|exact absurd ⟨ha,hb⟩ h
  rw [this];rfl
theorem yi_(a b:Fst): ∃r,Fp_ a b=some r/\(r.2≠0/\r.1.states=0\/FstOk a/\FstOk b/\r.2=0/\FstOk r.1/\ ∀w o,Rel r.1 w o↔Rel a w o\/Rel b w o/\ ¬ ∃o,Rel a w o):=by
  unfold Fp_;rw [Xw,kT,l4_];cases ha:xC a with
  |false=>exact ⟨_,rfl,.inl ⟨by decide,rfl⟩⟩
  |true=>
  rw [Bool.not_true,iteO_false,Xw,kT,l4_];cases hb:xC b with
  |false=>exact ⟨_,rfl,.inl ⟨by decide,rfl⟩⟩
  |true=>
  obtain ⟨r,e,hr⟩:=j3_ a;rw [Bool.not_true,iteO_false,iM e];rcases hr with hr|⟨hA,h1,h2,h3⟩
  · rw [eH hr];exact ⟨_,rfl,.inl ⟨hr,rfl⟩⟩
  rw [dM (λh=>h h1),not_go h2,kT];dsimp only;rw [dM (by simp)];obtain ⟨l,el,okl,hl⟩:=lim_any b (notD r.1);rw [iM el];rcases hl with hl|⟨hB,hd,rfl,hlo⟩
  · rw [eH hl];exact ⟨_,rfl,.inl ⟨hl,rfl⟩⟩
  dsimp only;rw [dM (by simp)];obtain ⟨m,em,hm⟩:=aau_ a (IV b (notD r.1));rw [iM em];rcases hm with hm|⟨-, -,rfl,hmo⟩
  · exact ⟨_,rfl,.inl hm⟩
  refine ⟨_,rfl,.inr ⟨hA,hB,rfl,hmo,λw o=> ?_⟩⟩;rw [rel_alt hA hlo,rel_lim hd,wi_ h2,h3 w]
def JE(d:Dfa)(c:Nat):Int:=oZ d ((c / 256:Nat):Int) (c % 256)
structure CanD (d:Dfa):Prop where
  right:kU d=true
  first: ∀c j,c<d.next.length * 256->JE d c=((j:Nat):Int)-> ∀k,0<k->k<j-> ∃c',c'<c/\JE d c'=((k:Nat):Int)
  come: ∀j,0<j->j<d.next.length-> ∃c,c<j * 256/\JE d c=((j:Nat):Int)
  apart: ∀s t:Nat,s<d.next.length->t<d.next.length->lZ d ((s:Nat):Int)=lZ d ((t:Nat):Int)->s=t
  cls: ∀b c,b<256->c<256->(∀s,s<d.next.length->oZ d ((s:Nat):Int) b=oZ d ((s:Nat):Int) c)->nth d.cls b (0:Int)=nth d.cls c (0:Int)
theorem vb_{d:Dfa}{s:Int}{b:Nat}(hb:b<256)(u:T_1):lZ d s (UInt8.ofNat b::u)=lZ d (oZ d s b) u:=by
  unfold lZ qp;rw [List.foldl_cons,<-dlt_N,u8nat hb]
theorem vp_{d d':Dfa}{s t:Int}{b:Nat}(hb:b<256)(h:lZ d s=lZ d' t):lZ d (oZ d s b)=lZ d' (oZ d' t b):=funext λu=>by
  rw [<-vb_ hb,<-vb_ hb,h]
theorem ty_{d:Dfa}(h:kU d=true){s b:Nat}(hs:s<d.next.length)(hb:b<256):0<=oZ d ((s:Nat):Int) b/\oZ d ((s:Nat):Int) b<(d.next.length:Int):=by
  have:=(px_ h (s:=((s:Nat):Int)) ⟨by omega,by omega⟩ (UInt8.ofNat b)).nx;rw [<-dlt_N,u8nat hb]at this;exact this
theorem leastD{P:Nat->Prop}{c:Nat}(h:P c): ∃d,d<=c/\P d/\ ∀e,e<d-> ¬ P e:=by
  induction c using Nat.strongRecOn with
  |ind c ih=>
    by_cases k: ∃e,e<c/\P e
    · obtain ⟨e,k1,k2⟩:=k
      obtain ⟨d,h1,h2⟩:=ih e k1 k2;exact ⟨d,by omega,h2⟩
    exact ⟨c,Nat.le_refl _,h,λe he hp=>k ⟨e,he,hp⟩⟩
theorem t2_{d d':Dfa}(h':kU d'=true){c:Nat}(hc:c / 256<d'.next.length){j:Nat}(hx:JE d c=((j:Nat):Int))(he:lZ d ((c / 256:Nat):Int)=lZ d' ((c / 256:Nat):Int)):
    ∃k:Nat,JE d' c=((k:Nat):Int)/\k<d'.next.length/\lZ d ((j:Nat):Int)=lZ d' ((k:Nat):Int):=by
  have hb:c % 256<256:=by omega
  have hk:=ty_ h' hc hb;have h1:=vp_ hb he;rw [show oZ d ((c / 256:Nat):Int) (c % 256)=((j:Nat):Int)from hx]at h1;obtain ⟨k,hk2⟩: ∃k:Nat,oZ d' ((c / 256:Nat):Int) (c % 256)=((k:Nat):Int):=⟨(oZ d' ((c / 256:Nat):Int) (c % 256)).toNat,by omega⟩;rw [hk2]at h1;exact ⟨k,hk2,by omega,h1⟩
theorem rl_{d d':Dfa}(h:CanD d)(h':CanD d')(he:lZ d 0=lZ d' 0)(j:Nat):j<d.next.length->j<d'.next.length->lZ d ((j:Nat):Int)=lZ d' ((j:Nat):Int):=by
  induction j using Nat.strongRecOn with
  |ind j ih=>
    intro hj hj'
    by_cases c0:j=0
    · rw [c0];exact he
    obtain ⟨c1,hc1,hx1⟩:=h.come j (by omega) hj;obtain ⟨c,hc,hx,hl⟩:=leastD (P:=λc=>JE d c=((j:Nat):Int)) hx1;have hi:=ih (c / 256) (by omega) (by omega) (by omega);obtain ⟨k,hk,hkl,k3⟩:=t2_ h'.right (by omega) hx hi
    by_cases ck:k=j
    · rw [ck]at k3;exact k3
    by_cases ck2:k<j
    · have:=ih k ck2 (by omega) (by omega)
      exact absurd (h.apart k j (by omega) hj (this.trans k3.symm)) ck
    obtain ⟨c',d1,d2⟩:=h'.first c k (by omega) hk j (by omega) (by omega);have hi':=ih (c' / 256) (by omega) (by omega) (by omega);obtain ⟨k',hk',hkl',e3⟩:=t2_ h.right (by omega) d2 hi'.symm
    by_cases cj:k'=j
    · rw [cj]at hk';exact absurd hk' (hl c' d1)
    by_cases cj2:k'<j
    · have:=ih k' cj2 (by omega) (by omega)
      exact absurd (h'.apart j k' hj' (by omega) (e3.trans this)) (by omega)
    obtain ⟨c'',f1,f2⟩:=h.first c' k' (by omega) hk' j (by omega) (by omega);exact absurd f2 (hl c'' (by omega))
theorem ut_{d d':Dfa}(h:CanD d)(h':CanD d')(he:lZ d 0=lZ d' 0)(h0:0<d.next.length):d'.next.length<=d.next.length:=by
  by_cases c:d'.next.length<=d.next.length
  · exact c
  obtain ⟨c1,hc,hx⟩:=h'.come d.next.length h0 (by omega);have hi:=rl_ h h' he (c1 / 256) (by omega) (by omega);obtain ⟨k,hk,hkl,e3⟩:=t2_ h.right (by omega) hx hi.symm;have:=rl_ h h' he k (by omega) (by omega);have:=h'.apart _ _ (by omega) (by omega) (e3.trans this);omega
theorem Nk_{d d':Dfa}(h1:d.cls=d'.cls)(h2:d.next=d'.next)(h3:d.fin=d'.fin):d=d':=by
  cases d;cases d';simp only at h1 h2 h3;subst h1 h2 h3;rfl
theorem xh_{d d':Dfa}(h:CanD d)(h':CanD d')(he:lZ d 0=lZ d' 0):d=d':=by
  obtain ⟨w,hd⟩:=DR.of h.right;obtain ⟨w',hd'⟩:=DR.of h'.right;have n1:=hd.n1;have n1':=hd'.n1;have hl:d.next.length=d'.next.length:=Nat.le_antisymm (ut_ h' h he.symm (by omega)) (ut_ h h' he (by omega));have hs: ∀s:Nat,s<d.next.length->lZ d ((s:Nat):Int)=lZ d' ((s:Nat):Int):=λs k=>rl_ h h' he s k (by omega);have hnx: ∀s b:Nat,s<d.next.length->b<256->oZ d ((s:Nat):Int) b=oZ d' ((s:Nat):Int) b:=λs b k hb=>by
    have g1:=ty_ h.right k hb;have g2:=ty_ h'.right (show s<d'.next.length by omega) hb;obtain ⟨x,hx⟩: ∃x:Nat,oZ d ((s:Nat):Int) b=((x:Nat):Int):=⟨(oZ d ((s:Nat):Int) b).toNat,by omega⟩;obtain ⟨y,hy⟩: ∃y:Nat,oZ d' ((s:Nat):Int) b=((y:Nat):Int):=⟨(oZ d' ((s:Nat):Int) b).toNat,by omega⟩;have h1:=vp_ hb (hs s k);rw [hx]at g1 h1 ⊢;rw [hy]at g2 h1 ⊢;have:=h'.apart x y (by omega) (by omega) ((hs x (by omega)).symm.trans h1);rw [this]
  have same: ∀{d:Dfa}, ∀b c,nth d.cls b (0:Int)=nth d.cls c 0-> ∀s:Nat,oZ d ((s:Nat):Int) b=oZ d ((s:Nat):Int) c:=λb c e s=>by
    unfold oZ;rw [e]
  have hc:d.cls=d'.cls/\w=w':=y8_ (by rw [hd.cl,hd'.cl]) hd.cnt hd'.cnt λa b ha hb=>by
    have hcl:=hd.cl;constructor
    · intro e
      exact h'.cls a b (by omega) (by omega) λs k=>by rw [<-hnx s a (by omega) (by omega),<-hnx s b (by omega) (by omega)];exact same a b e s
    intro e;exact h.cls a b (by omega) (by omega) λs k=>by rw [hnx s a (by omega) (by omega),hnx s b (by omega) (by omega)];exact same a b e s
  obtain ⟨hc,hw⟩:=hc;subst hw;refine Nk_ hc (Yx [] hl λs k=> ?_) (Yx false (by rw [hd.fin,hd'.fin];exact hl) λs k=> ?_)
  · have r1:=hd.row s k
    have r2:=hd'.row s (by omega);refine Yx 0 (by omega) λc hcw=> ?_;obtain ⟨b,hb,hv⟩:=Q8 hd.cnt c (by omega);have hcl:=hd.cl;have e:=hnx s b k (by omega);unfold oZ at e;rw [nI,<-hc,hv,nI]at e;exact e
  have hf:=hd.fin;have e:=congrFun (hs s (by omega)) [];exact e
theorem wd_{α:Type}(l m:List α)(j:Nat)(d:α):nth (l++m) (l.length+j) d=nth m j d:=by
  unfold nth;rw [List.getD_eq_getElem?_getD,List.getD_eq_getElem?_getD,List.getElem?_append_right (by omega),Nat.add_sub_cancel_left]
theorem oj_{w:Nat}: ∀{R:aO},(∀r∈R,r.length=w)->R.flatten.length=R.length * w
  |[],_=>by simp
  |r::R,h=>by
    rw [List.flatten_cons,iK,oj_ λq hq=>h q (rM _ hq),h r iU,List.length_cons,Nat.succ_mul,Nat.add_comm]
theorem lv_{w:Nat}: ∀{R:aO},(∀r∈R,r.length=w)-> ∀{s c:Nat},s<R.length->c<w->nth R.flatten (s * w+c) (0:Int)=nth (nth R s ([]:ah)) c (0:Int)
  |[],_,s,c,hs,_=>absurd hs (Nat.not_lt_zero _)
  | r :: R, h, s, c, hs, hc => by
    have hr:=h r iU;rw [List.flatten_cons];cases s with
    |zero=>rw [Nat.zero_mul,Nat.zero_add,yx _ _ _ _ (by omega)];rfl
    |succ s=>
      rw [show (s+1) * w+c=r.length+(s * w+c) by rw [Nat.succ_mul,hr];omega,wd_,lv_ (λq hq=>h q (rM _ hq)) (by rw [List.length_cons]at hs;omega) hc];rfl
theorem x2_{w n p:Nat}(h:p<n * w): ∃s c,s<n/\c<w/\p=s * w+c:=by
  have hw:0<w:=by
    apply Nat.pos_of_ne_zero;intro e;rw [e,Nat.mul_zero]at h;cases h
  refine ⟨p / w,p % w,Nat.div_lt_of_lt_mul (by rw [Nat.mul_comm];exact h),Nat.mod_lt _ hw,?_⟩;rw [Nat.mul_comm];exact (Nat.div_add_mod p w).symm
structure Fc (d:Dfa) (cls:ah) (w:Nat) (R:aO):Prop where
  cl:cls.length=256
  cnt:jX cls=some w
  len:R.length=d.next.length
  row: ∀r∈R,r.length=w
  at_: ∀s b,s<R.length->b<256->oZ d ((s:Nat):Int) b=nth (nth R s ([]:ah)) (nth cls b (0:Int)).toNat (0:Int)
  fc:jX ((0:Int)::R.flatten)=some R.length
  cm: ∀k,k<R.length-> ∃m,jX ((0:Int)::(R.take k).flatten)=some m/\k<m
theorem Fc.cls_at{d:Dfa}{cls:ah}{w:Nat}{R:aO}(h:Fc d cls w R){b:Nat}(hb:b<256): ∃e:Nat,e<w/\nth cls b (0:Int)=((e:Nat):Int):=by
  have hcl:=h.cl;have:=(if_ cls 0 w h.cnt).2 _ (sH (l:=cls) (i:=b) (by omega) (0:Int));exact ⟨(nth cls b (0:Int)).toNat,by omega,by omega⟩
theorem Fc.first {d : Dfa} {cls : ah} {w : Nat} {R : aO} (h : Fc d cls w R) : ∀ c j, c < d.next.length * 256 -> JE d c = ((j : Nat) : Int) -> ∀ k, 0 < k -> k < j -> ∃ c', c' < c /\ JE d c' = ((k : Nat) : Int) := by
  intro c j hc hx k hk hkj;have hl:=h.len;have hcl:=h.cl;have hb:c % 256<256:=Nat.mod_lt _ (by omega);have hs:c / 256<R.length:=by omega
  obtain ⟨e,he,hce⟩:=h.cls_at hb;have hval:nth R.flatten (c / 256 * w+e) (0:Int)=((j:Nat):Int):=by
    rw [lv_ h.row hs he,<-hx];unfold JE;rw [h.at_ _ _ hs hb,hce,nI]
  have hpl:c / 256 * w+e<R.length * w:=by
    have:=Nat.mul_le_mul_right w (show c / 256+1<=R.length by omega);rw [Nat.succ_mul]at this;omega
  obtain ⟨a,ha,hv⟩:=l1_ h.fc (p:=c / 256 * w+e+1) (by rw [List.length_cons,oj_ h.row];omega) (k:=k) (by
    show ((k:Nat):Int)<nth R.flatten (c / 256 * w+e) (0:Int);rw [hval];omega)
  cases a with
  |zero=>
    have h0:(0:Int)=((k:Nat):Int):=hv;omega
  |succ a=>
    have hv':nth R.flatten a (0:Int)=((k:Nat):Int):=hv;obtain ⟨s',c',h1,h2,rfl⟩:=x2_ (w:=w) (n:=R.length) (p:=a) (by omega);rw [lv_ h.row h1 h2]at hv';have hss:s'<=c / 256:=by
      apply Decidable.byContradiction;intro q;have:=Nat.mul_le_mul_right w (show c / 256+1<=s' by omega);rw [Nat.succ_mul]at this;omega
    obtain ⟨b',k1,k2,k3⟩: ∃b',b'<256/\nth cls b' (0:Int)=((c':Nat):Int)/\(s'=c / 256->b'<c % 256):=by
      by_cases es:s'=c / 256
      · obtain ⟨b',q1,q2⟩:=l1_ h.cnt (p:=c % 256) (by omega) (k:=c') (by rw [hce];rw [es]at ha;omega)
        exact ⟨b',by omega,q2,λ_=>q1⟩
      obtain ⟨b',q1,q2⟩:=Q8 h.cnt c' h2;exact ⟨b',by omega,q2,λq=>absurd q es⟩
    refine ⟨s' * 256+b',by omega,?_⟩;unfold JE;rw [show (s' * 256+b') / 256=s' by omega,show (s' * 256+b') % 256=b' by omega,h.at_ _ _ h1 k1,k2,nI];exact hv'
theorem Fc.come{d:Dfa}{cls:ah}{w:Nat}{R:aO}(h:Fc d cls w R): ∀j,0<j->j<d.next.length-> ∃c,c<j * 256/\JE d c=((j:Nat):Int):=by
  intro j h0 hj;have hl:=h.len;have hcl:=h.cl;obtain ⟨m,h1,h2⟩:=h.cm j (by omega);obtain ⟨a,ha,hv⟩:=Q8 h1 j h2;have hrow: ∀r∈R.take j,r.length=w:=λr hr=>h.row r (List.mem_of_mem_take hr);rw [List.length_cons,oj_ hrow]at ha;cases a with
  |zero=>
    have h0:(0:Int)=((j:Nat):Int):=hv;omega
  |succ a=>
    have hv':nth (R.take j).flatten a (0:Int)=((j:Nat):Int):=hv;obtain ⟨s',c',k1,k2,rfl⟩:=x2_ (w:=w) (n:=(R.take j).length) (p:=a) (by omega);rw [lv_ hrow k1 k2]at hv';rw [List.length_take]at k1;obtain ⟨b',q1,q2⟩:=Q8 h.cnt c' k2;refine ⟨s' * 256+b',by omega,?_⟩;unfold JE;rw [show (s' * 256+b') / 256=s' by omega,show (s' * 256+b') % 256=b' by omega,h.at_ _ _ (by omega) (by omega),q2,nI,<-hv'];congr 1;unfold nth;rw [List.getD_eq_getElem?_getD,List.getD_eq_getElem?_getD,List.getElem?_take_of_lt (by omega)]
theorem xj_{d:Dfa}(h:kU d=true): ∃m,JO d=some (m,0)/\CanD m/\lZ m 0=lZ d 0:=by
  obtain ⟨w,hd⟩:=DR.of h;obtain ⟨l,el,hR⟩:=p0_ hd;obtain ⟨g,n,eg,hG⟩:=se_ hd hR;obtain ⟨states,rows,v,es,hA,hC⟩:=uq_ hd hR hG;obtain ⟨k1,k2⟩:=min_ok hd hR hG hA hC;obtain ⟨place,hS⟩:=hA.si;have k3:=k2 0 hS.zero.1;rw [hS.zero.2]at k3;have hlen:=hA.len;have hcl:=hd.cl;have hCl:=hC.len;have hnext:(zV d states rows v).next.length=states.length:=by
    show (rows.map _).length=_;rw [List.length_map];exact hlen
  have hrw: ∀r∈rows,r.length=w:=λr hr=>by
    obtain ⟨k,hk,rfl⟩:=Q5 (d:=([]:ah)) hr;exact (hA.row k (by omega)).1
  have hdl: ∀s b,s<rows.length->b<256->oZ (zV d states rows v) ((s:Nat):Int) b=nth (nth rows s ([]:ah)) (nth d.cls b (0:Int)).toNat (0:Int):=λs b hs hb=>by
    have hc:=(if_ d.cls 0 w hd.cnt).2 _ (sH (l:=d.cls) (i:=b) (by omega) (0:Int));obtain ⟨c,hce⟩: ∃c:Nat,nth d.cls b (0:Int)=((c:Nat):Int):=⟨(nth d.cls b (0:Int)).toNat,by omega⟩;obtain ⟨j,f,h1,h2,h3,h4,h5⟩:=hC.at_ c (by omega);unfold oZ;rw [nI];show nth (nth (rows.map _) s ([]:ah)) (nth (d.cls.map _) b (0:Int)).toNat (0:Int)=_;rw [I_ _ _ _ (0:Int) (0:Int) (by omega),I_ _ _ _ ([]:ah) ([]:ah) hs,hce,nI,h2,nI,I_ _ _ _ (0:Int) (0:Int) h1,h3,nI];exact h5 _ (sH hs ([]:ah))
  have hfc:Fc (zV d states rows v) d.cls w rows:=⟨hcl,hd.cnt,by rw [hnext];exact hlen,hrw,hdl,by rw [hlen];exact hA.fc,λk hk=>hA.cm k (by omega)⟩;refine ⟨zV d states rows v,?_,⟨k1,hfc.first,hfc.come,λs t hs ht e=> ?_,λb c hb hc e=> ?_⟩,k3⟩
  · unfold JO
    rw [Rf,kT,if_pos h,dM (by simp),iM el,iM eg];dsimp only;rw [iM es]
  · rw [k2 s (by omega),k2 t (by omega)]at e
    obtain ⟨h1,h2⟩:=hS.st s (by omega);obtain ⟨h3,h4⟩:=hS.st t (by omega);rw [hG.like _ h1 _ h3 e,h4]at h2;omega
  have hb':=(if_ d.cls 0 w hd.cnt).2 _ (sH (l:=d.cls) (i:=b) (by omega) (0:Int));have hc':=(if_ d.cls 0 w hd.cnt).2 _ (sH (l:=d.cls) (i:=c) (by omega) (0:Int));show nth (d.cls.map _) b (0:Int)=nth (d.cls.map _) c (0:Int);rw [I_ _ _ _ (0:Int) (0:Int) (by omega),I_ _ _ _ (0:Int) (0:Int) (by omega)];refine hC.eq_ _ _ (by omega) (by omega) λr hr=> ?_;obtain ⟨s,hs,rfl⟩:=Q5 (d:=([]:ah)) hr;rw [<-hdl s b hs hb,<-hdl s c hs hc];exact e s (by omega)
end Go.Proofs.YtcfgkcfcddfccaaGreatDoor
end

noncomputable section
namespace Go.E
open Go
theorem EqAt.arr2{P:Program}{n:Nat}{T E:TypeId}{a0 a1 b0 b1:Value}{p q:Bool}(hT:P.underlying T=some (.array 2 E))(hA:aggOf P E=some false)(hz:szOf P E=some 1)(h0:EqAt P n E a0 b0 p)(h1:EqAt P n E a1 b1 q):EqAt P (n+1) T (.agg #[a0,a1]) (.agg #[b0,b1]) (p && q):=λd w=>by
  have g: ∀(cs:Array Value) (i:Nat) (u:Value),cs[i]? =some u->(part E cs i).run P w= .ok u w:=λcs i u h=>ZF hA h w;rw [<-Nat.add_assoc,Op.equalIn];simp only [Sem.run_bind,run_underlying hT,Result.andThen_ok,xX hz,Std.Legacy.Range.forIn_eq_forIn_range',Std.Legacy.Range.size,Nat.sub_zero,Nat.add_sub_cancel,Nat.div_one,List.range'_succ,List.range'_zero,List.forIn_cons,List.forIn_nil,Nat.mul_one,Nat.zero_add];rw [g _ 0 a0 rfl,Result.andThen_ok,g _ 0 b0 rfl,Result.andThen_ok,h0 d w,Result.andThen_ok];cases p
  · simp
  simp only [Bool.not_true,Bool.false_eq_true,if_false,Sem.run_pure,Result.andThen_ok,Sem.run_bind];rw [g _ 1 a1 rfl,Result.andThen_ok,g _ 1 b1 rfl,Result.andThen_ok,h1 d w,Result.andThen_ok];cases q<;>simp
structure FPr where
  p:Int
  q:Int
  deriving DecidableEq
def fH:FPr:=⟨0,0⟩
def UO(x:FPr):List Value:=[.int .i64 x.p,.int .i64 x.q]
theorem pr_(x:FPr):(UO x).length=2:=rfl
theorem encFPr_one: ∀x, ∀u∈UO x,u.oneCell'=true:=λx u hu=>by
  simp [UO]at hu;rcases hu with rfl|rfl<;>rfl
structure SPr where
  a:List UInt8
  b:List UInt8
  deriving DecidableEq
def SPr.zero:SPr:=⟨[],[]⟩
structure Visit where
  at':FPr
  lag:SPr
  deriving DecidableEq
def Visit.zero:Visit:=⟨fH,SPr.zero⟩
structure FBox where
  what:Visit
  frm:Int
  by':UInt8
  deriving DecidableEq
def FBox.zero:FBox:=⟨Visit.zero,0,0⟩
structure Hop where
  live:Bool
  last:Bool
  x:Int
  y:Int
  by':UInt8
  deriving DecidableEq
def Hop.zero:Hop:=⟨false,false,0,0,0⟩
structure FBack where
  frm:Int
  x:Int
  y:Int
  deriving DecidableEq
def FBack.zero:FBack:=⟨0,0,0⟩
structure Search where
  t:Fst
  arcs:List (List Int)
  ends:List (List (List UInt8))
  hops:List Hop
  row:List FBox
  place:List Int
  text:List UInt8
  found:Bool
section
variable {X:Ctx} {e:Env} {σ:aj} {H F:List Res} {o:Oper} {x y z:Operand} {C:Env->aj->List Res->Prop} {K V:Type} {enc:K->Value} {encV:V->Value}
theorem OpOk.insB [DecidableEq K] {T KT ET : Nat} {b : Nat} {m : FM K V} (q : K) (v : V) (ho : o.op = .insert T x y z) (ht : X.P.underlying T = some (.map KT ET)) (hd : o.dst = none) (hx : ev e x = .map (some b)) (hy : ev e y = enc q) (hz : ev e z = encV v) (KL : KeyL X.P KT enc)
    (k:C e σ (Γ enc encV (some b) (m.put q v)::F)):OpOk X o e σ (Γ enc encV (some b) m::F) C:=by
  intro u0 C0 τ0 w a hw ha K' Q hK;obtain ⟨zs,clock,hR,hM⟩:=(hw.holds _ (iU ..)).2 b rfl;obtain ⟨es,h1,h2⟩:=hM.at_;have hg:(getObj b).run X.P w= .ok (.map es clock) w:=go_ h1;have hblt:b<w.heap.size:=(Array.getElem?_eq_some_iff.1 h1).1;have key: ∀es' clock' (zs':List (MapEntry×(K×V))),es'.toList=zs'.map Prod.fst->Rep (zs'.map Prod.snd) (m.put q v)->(∀z∈zs',z.1.key=enc z.2.1)->(∀z∈zs',z.1.val=encV z.2.2)->(∀z∈zs',z.1.born<clock')->(zs'.map (·.1.born)).Nodup->
      Reach u0 C0 τ0 σ {w with heap:=w.heap.setIfInBounds b (.map es' clock')} (Γ enc encV (some b) (m.put q v)::F):=λes' clock' zs' g1 g2 g3 g4 g5 g6=>
    hw.F7 (some _) (some _) rfl rfl rfl rfl rfl (by simp) (Nat.le_refl _) (λk hk hne=>by
      have:b≠k:=λhx=>hne (by rw [hx]);simp [Array.getElem?_setIfInBounds,this]) ⟨λh=>(by cases h),λk hk=>by cases hk;exact ⟨zs',clock',g2,⟨es',by simp [Array.getElem?_setIfInBounds,hblt],g1⟩,g3,g4,g5,g6⟩⟩ (λc hc=> .inl (by cases hc;rfl))
  rcases nj_ hR hM KL q h2 with ⟨h3,h4⟩|⟨j,u,h3,hj,hu,h4⟩
  · refine Oper.a1_ (w':={w with heap:=w.heap.setIfInBounds b (.map (es.push {key:=enc q,val:=encV v,born:=clock}) (clock+1))}) ?_ (hK _ _ _ _ _ k (key _ _ (zs++[({key:=enc q,val:=encV v,born:=clock},(q,v))]) ?_ ?_ ?_ ?_ ?_ ?_) (jx_ ha hd _))
    · rw [ha.eval']
      simp [execOp,ho,hx,hy,hz,Instr.mapUpdate,run_underlying ht,hg,KL.check,h4,g7_ _ h1]
    · simp [h2]
    · rw [List.map_append]
      refine ⟨λk' v'=> ?_,?_,?_⟩
      · have:=hR.mem k' v'
        simp only [FM.put,List.mem_append,this,List.map_cons,List.map_nil,JC,Prod.mk.injEq]
        by_cases hk:k'=q
        · subst hk;simp [h3];exact eq_comm
        simp [hk]
      · have:=hR.len
        simp only [iK,FM.put,h3,List.length_map,jm]at this ⊢;simp;omega
      have:=hR.not.2 h3;rw [List.map_append,List.nodup_append];refine ⟨hR.nodup,by simp,λa ha c hc=> ?_⟩;simp at hc;subst hc;intro e;subst e;exact this ha
    · intro z hz
      rcases List.mem_append.1 hz with hz|hz
      · exact hM.key z hz
      simp at hz;subst hz;rfl
    · intro z hz
      rcases List.mem_append.1 hz with hz|hz
      · exact hM.val z hz
      simp at hz;subst hz;rfl
    · intro z hz
      rcases List.mem_append.1 hz with hz|hz
      · have:=hM.born z hz;omega
      simp at hz;subst hz;simp
    rw [List.map_append,List.nodup_append];refine ⟨hM.nodup,by simp,λa ha c hc=> ?_⟩;simp at hc;subst hc;obtain ⟨z,hz,rfl⟩:=List.mem_map.1 ha;have:=hM.born z hz;omega
  have hum:=List.mem_of_getElem? hj;have hes:es[j]? =some u.1:=by
    rw [<-Array.getElem?_toList,h2,List.getElem?_map,hj];rfl
  have hlt:j<es.size:=(Array.getElem?_eq_some_iff.1 hes).1;have huk:u.1.key=enc q:=by rw [hM.key u hum,hu]
  have hfst: ∀i z,(zs.modify j λp=>({p.1 with key:=enc q,val:=encV v},(q,v)))[i]? =some z-> ∃p,zs[i]? =some p/\((i=j/\z=({p.1 with key:=enc q,val:=encV v},(q,v)))\/(i≠j/\z=p)):=by
    intro i z hz;rw [List.getElem?_modify]at hz;cases hp:zs[i]? with
    |none=>rw [hp]at hz;simp at hz
    |some p=>
      rw [hp]at hz;refine ⟨p,rfl,?_⟩
      by_cases hij:j=i
      · subst hij;simp at hz;exact .inl ⟨rfl,hz.symm⟩
      simp [hij]at hz;exact .inr ⟨λh=>hij h.symm,hz.symm⟩
  have hkeys:((zs.modify j λp=>({p.1 with key:=enc q,val:=encV v},(q,v))).map Prod.snd).map Prod.fst=(zs.map Prod.snd).map Prod.fst:=by
    apply List.ext_getElem?;intro i;simp only [List.getElem?_map,List.getElem?_modify]
    by_cases hij:j=i
    · subst hij;simp [hj,hu]
    simp [hij]
  refine Oper.a1_ (w':={w with heap:=w.heap.setIfInBounds b (.map (es.modify j λm=>{m with key:=enc q,val:=encV v}) clock)}) ?_ (hK _ _ _ _ _ k (key _ _ (zs.modify j λp=>({p.1 with key:=enc q,val:=encV v},(q,v))) ?_ ?_ ?_ ?_ ?_ ?_) (jx_ ha hd _))
  · rw [ha.eval']
    simp [execOp,ho,hx,hy,hz,Instr.mapUpdate,run_underlying ht,hg,KL.check,h4,g7_ _ h1,hes,huk,KL.stays]
  · apply List.ext_getElem?
    intro i;rw [Array.getElem?_toList,Array.getElem?_modify,List.getElem?_map,List.getElem?_modify,<-Array.getElem?_toList,h2,List.getElem?_map]
    by_cases hij:j=i
    · subst hij;simp [hj]
    simp [hij]
  · refine ⟨λk' v'=> ?_,?_,by rw [hkeys];exact hR.nodup⟩
    · simp only [FM.put]
      have hin: ∀k' v',(k',v')∈(zs.modify j λp=>({p.1 with key:=enc q,val:=encV v},(q,v))).map Prod.snd->(k'=q/\v'=v)\/(k'≠q/\(k',v')∈zs.map Prod.snd):=by
        intro k' v' hm;obtain ⟨z,hz,hzk⟩:=List.mem_map.1 hm;obtain ⟨i,hi⟩:=List.mem_iff_getElem?.1 hz;obtain ⟨p,hp,⟨_,rfl⟩|⟨hij,rfl⟩⟩:=hfst i z hi
        · simp at hzk;exact .inl ⟨hzk.1.symm,hzk.2.symm⟩
        refine .inr ⟨λhk=> ?_,List.mem_map.2 ⟨z,List.mem_of_getElem? hp,hzk⟩⟩;have h5:((zs.map Prod.snd).map Prod.fst)[i]? =some q:=by simp [hp,hzk,hk]
        have h6:((zs.map Prod.snd).map Prod.fst)[j]? =some q:=by simp [hj,hu]
        obtain ⟨hi5,e5⟩:=List.getElem?_eq_some_iff.1 h5;obtain ⟨hi6,e6⟩:=List.getElem?_eq_some_iff.1 h6;exact hij ((List.nodup_iff_pairwise_ne.1 hR.nodup |> List.pairwise_iff_getElem.1) |> λhpw=>by
          rcases Nat.lt_trichotomy i j with h|h|h
          · exact absurd (e5.trans e6.symm) (hpw i j hi5 hi6 h)
          · exact h
          exact absurd (e6.trans e5.symm) (hpw j i hi6 hi5 h))
      have hout1:(q,v)∈(zs.modify j λp=>({p.1 with key:=enc q,val:=encV v},(q,v))).map Prod.snd:=
        List.mem_of_getElem? (i:=j) (by simp [List.getElem?_modify,hj])
      by_cases hk:k'=q
      · subst hk
        simp only [if_true,Option.some.injEq];constructor
        · intro hm
          rcases hin _ _ hm with h|h
          · exact h.2.symm
          exact absurd rfl h.1
        rintro rfl;exact hout1
      rw [if_neg hk,<-hR.mem];constructor
      · intro hm
        rcases hin _ _ hm with h|h
        · exact absurd h.1 hk
        exact h.2
      intro hm;obtain ⟨z,hz,hzk⟩:=List.mem_map.1 hm;obtain ⟨i,hi⟩:=List.mem_iff_getElem?.1 hz;have hij:j≠i:=by
        rintro rfl;rw [hj]at hi;cases hi;rw [hzk]at hu;exact hk hu
      exact List.mem_of_getElem? (i:=i) (by simp [List.getElem?_modify,hij,hi,hzk])
    have:=hR.len;simp only [FM.put,h3,Option.isSome_some,if_true,List.length_map,List.length_modify]at this ⊢;exact this
  · intro z hz
    obtain ⟨i,hi⟩:=List.mem_iff_getElem?.1 hz;obtain ⟨p,hp,⟨_,rfl⟩|⟨_,rfl⟩⟩:=hfst i z hi
    · rfl
    exact hM.key z (List.mem_of_getElem? hp)
  · intro z hz
    obtain ⟨i,hi⟩:=List.mem_iff_getElem?.1 hz;obtain ⟨p,hp,⟨_,rfl⟩|⟨_,rfl⟩⟩:=hfst i z hi
    · rfl
    exact hM.val z (List.mem_of_getElem? hp)
  · intro z hz
    obtain ⟨i,hi⟩:=List.mem_iff_getElem?.1 hz;obtain ⟨p,hp,⟨_,rfl⟩|⟨_,rfl⟩⟩:=hfst i z hi
    · exact hM.born p (List.mem_of_getElem? hp)
    exact hM.born z (List.mem_of_getElem? hp)
  have:(zs.modify j λp=>({p.1 with key:=enc q,val:=encV v},(q,v))).map (·.1.born)=zs.map (·.1.born):=by
    apply List.ext_getElem?;intro i;simp only [List.getElem?_map,List.getElem?_modify]
    by_cases hij:j=i
    · subst hij;simp [hj]
    simp [hij]
  rw [this];exact hM.nodup
end
theorem Dy.two{P:Program}{T E:TypeId}(hT:P.underlying T=some (.array 2 E))(hE:P.underlying E=some (.int .i64))(hA:aggOf P E=some false)(hz:szOf P E=some 1)(p q:Int):Dy P 2 T (.agg #[.int .i64 p,.int .i64 q]):=λd c w=>by
  have h0: ∀a,(Instr.checkKey c (d+1) E (.int .i64 a)).run P w= .ok () w:=λa=>Dy.int hE a d c w;rw [Instr.checkKey];simp only [Sem.run_bind,run_underlying hT,Result.andThen_ok,Std.Legacy.Range.forIn_eq_forIn_range',Std.Legacy.Range.size,Nat.sub_zero,Nat.add_sub_cancel,Nat.div_one];rw [iq_]
  · rfl
  intro i hi;have hi2:i=0\/i=1:=by
    have:=List.mem_range'.1 hi;omega
  have hp: ∃a:Int,(part E #[.int .i64 p,.int .i64 q] i).run P w= .ok (.int .i64 a) w:=by
    rcases hi2 with rfl|rfl
    · exact ⟨p,ZF hA rfl w⟩
    exact ⟨q,ZF hA rfl w⟩
  obtain ⟨a,hp⟩:=hp;simp only [Sem.run_bind,xX hz,Result.andThen_ok,Nat.mul_one,hp,h0,Sem.run_pure]
def keyF(x:FPr):Value:= .agg #[.int .i64 x.p,.int .i64 x.q]
theorem rf_{P:Program}{T E:TypeId}(hT:P.underlying T=some (.array 2 E))(hE:P.underlying E=some (.int .i64))(hA:aggOf P E=some false)(hz:szOf P E=some 1):KeyL P T keyF:=
  KeyL.asking hT (λx y=>rfl) (λx y w=>by
    have h1:=EqAt.arr2 hT hA hz (EqAt.int hE x.p y.p) (EqAt.int hE x.q y.q) 9998 w;have e:decide (x=y)=(decide (x.p=y.p) && decide (x.q=y.q)):=by
      cases x;cases y;simp
    rw [e];show (Op.equal T _ _).run P w=_;simpa [Op.equal,Op.maxDepth,keyF]using h1) (λx c w=>Dy.two hT hE hA hz x.p x.q 9998 c w) (λx=>mb_ (by
    intro u hu;simp at hu;rcases hu with rfl|rfl<;>exact Bits.int _ _) 9999)
def SrcC{α:Type}(σ:aj)(H:List Res)(size:Nat)(enc:α->List Value)(s:Value)(ls:List α):Prop:=
  ∃a c,s= .slice a ls.length c/\ ∀(P:Program) (w:World),kH σ H w-> ∀n,n<=ls.length->(Builtin.firstCells size n s).run P w= .ok ((ls.take n).flatMap enc).toArray w
theorem s4_{α:Type}{enc:α->List Value}{size:Nat}(hl: ∀x,(enc x).length=size)(l:List α)(n:Nat):(l.take n).flatMap enc=(l.flatMap enc).take (n * size):=k2_ hl l n
theorem SrcC.sealed{α:Type}{σ:aj}{H:List Res}{size:Nat}{enc:α->List Value}{s:Value}{ls:List α}(h:RS σ size enc s ls)(hl: ∀x,(enc x).length=size):SrcC σ H size enc s ls:=by
  obtain ⟨a,c,rfl,hn,hc⟩:=h.rv.sl;refine ⟨a,c,rfl,λP w hw n hle=> ?_⟩;cases a with
  |none=>
    obtain ⟨h1,_⟩:=hn rfl;have:ls=[]:=FV h1;subst this;simp [Builtin.firstCells]
  |some ad=>
    refine run_firstCells_some w size n ad _ _ _ (by rw [uf hl,List.length_take];congr 1;omega) λj v hj=> ?_;rw [s4_ hl,List.getElem?_take]at hj
    split at hj
    · exact hw.cell (h.rv.cell ad _ c rfl j v hj)
    cases hj
theorem wf_{α:Type}{enc:α->List Value}{size:Nat}(hl: ∀x,(enc x).length=size)(l m:List α)(k:Nat)(hk:k+m.length<=l.length):
    pI (l.flatMap enc) (k * size) (m.flatMap enc)=(l.take k++(m++l.drop (k+m.length))).flatMap enc:=by
  rw [List.flatMap_append,List.flatMap_append,pI,s4_ hl l k,uf hl m,<-Nat.add_mul];have h1:l.flatMap enc=(l.take (k+m.length)).flatMap enc++(l.drop (k+m.length)).flatMap enc:=by rw [<-List.flatMap_append,List.take_append_drop]
  have h2:(l.flatMap enc).drop ((k+m.length) * size)=(l.drop (k+m.length)).flatMap enc:=by
    rw [h1,List.drop_append_of_le_length (by rw [uf hl,List.length_take,Nat.min_eq_left hk];exact Nat.le_refl _),List.drop_of_length_le (by rw [uf hl,List.length_take,Nat.min_eq_left hk];exact Nat.le_refl _),List.nil_append]
  rw [h2];try rw [Gf]
theorem OpOk.copyV {X : Ctx} {e : Env} {σ : aj} {F : List Res} {o : Oper} {x y : Operand} {K : Env -> aj -> List Res -> Prop} {α : Type} {T ty E size k m' d : Nat} {enc : α -> List Value} {v u s : Value} {l ls : List α}
    (ho:o.op= .call {callee:= .builtin .copy,args:= #[x,y],argTypes:= #[T,ty]}) (ht:X.P.underlying T=some (.slice E)) (hs:szOf X.P E=some size) (hd:o.dst=some d) (hn:Nat.blt d X.n=true)
    (hx:ev e x=u) (hv:VwOk v u size k m') (hm:l.length - k=m') (hk:k<=l.length) (hy:ev e y=s) (hsrc:SrcC σ (ε E size enc v l::F) size enc s ls) (hl: ∀x,(enc x).length=size) (h0:0<size) (h1: ∀x, ∀u∈enc x,u.oneCell'=true)
    (kk:K (upd e d (.int .i64 ((min ls.length (l.length - k):Nat):Int))) σ (ε E size enc v (l.take k++(ls.take (min ls.length (l.length - k))++l.drop (k+min ls.length (l.length - k))))::F)):OpOk X o e σ (ε E size enc v l::F) K:=by
  subst hm;intro u0 C0 τ0 w a hw ha K' Q hK;obtain ⟨hown,hone,hbg⟩:=hw.holds _ (iU ..);have hsees:kH σ (ε E size enc v l::F) w:=⟨hw.fit,hw.holds⟩;obtain ⟨as',cs',rfl,hfirst⟩:=hsrc;obtain ⟨a',c',rfl,hnn,hc⟩:=hv.sl;have hmin: ∀p q:Nat,Nat.min p q=min p q:=λ_ _=>rfl;generalize hN:min ls.length (l.length - k)=N at kk;have hN1:N<=ls.length:=by omega
  have hN2:N<=l.length - k:=by omega
  have hlenN:(ls.take N).length=N:=by rw [List.length_take];omega
  have hlen:(l.take k++(ls.take N++l.drop (k+N))).length=l.length:=by simp only [iK,List.length_take,List.length_drop];omega
  have hf:=hfirst X.P w hsees N hN1;have hsz:=xX (P:=X.P) hs;have hgo:goInt N= .int .i64 ((N:Nat):Int):=rfl;cases a' with
  |none=>
    obtain ⟨h2,_⟩:=hnn rfl;have hN0:N=0:=by omega
    subst hN0;have e1:l.take k++(ls.take 0++l.drop (k+0))=l:=by rw [List.take_zero,List.nil_append,Nat.add_zero,List.take_append_drop]
    rw [e1]at kk;have hrun:(Builtin.copy_ #[T,ty] o.type #[.slice none (l.length - k) c',.slice as' ls.length cs']).run X.P w= .ok (.int .i64 ((0:Nat):Int)) w:=by
      simp [Builtin.copy_,run_underlying ht,Builtin.lenOf,hsz,hmin,hN,hf,goInt]
    refine Oper.wG (v:= .int .i64 ((0:Nat):Int)) (w':=w) ?_ (hK _ _ _ _ _ kk hw (xR ha hd hn _));rw [ha.eval'];simp [execOp,ho,resolve,invoke,builtin,hx,hy,hrun]
  |some ad=>
    by_cases hj:0<l.length - k
    · have hel:=hv.el 0 hj
      rcases id hown.2 with ⟨hvn,hmn⟩|⟨g,cap,cur,rfl,_⟩
      · omega
      simp only [lF,Nat.zero_mul,Nat.add_zero]at hel;have had:ad=⟨g,k * size,none⟩:=by
        have h3:(ad.add 0)=(⟨g,0,none⟩:Addr).add (k * size):=by injection hel with h;injection h
        rw [EK]at h3;simpa [Addr.add]using h3
      subst had;obtain ⟨w',hst,hown',hgr,hdr⟩:=World.ownsRow.spliced X.P hown (k:=k * size) (vs:=(ls.take N).flatMap enc) (by rw [uf hl,uf hl,hlenN,<-Nat.add_mul];exact Nat.mul_le_mul_right _ (by omega)) (λu hu=>by
        obtain ⟨q,_,hq⟩:=List.mem_flatMap.1 hu;exact h1 q u hq)
      have hsp:=wf_ hl l (ls.take N) k (by rw [hlenN];omega);rw [hlenN]at hsp;rw [hsp]at hown';have hrun:(Builtin.copy_ #[T,ty] o.type #[.slice (some ⟨g,k * size,none⟩) (l.length - k) c',.slice as' ls.length cs']).run X.P w= .ok (.int .i64 ((N:Nat):Int)) w':=by
        simp [Builtin.copy_,run_underlying ht,Builtin.lenOf,hsz,hmin,hN,hf,hst,goInt]
      have hR:Reach u0 C0 τ0 σ w' (ε E size enc (.slice (some ⟨g,0,none⟩) l.length cap) (l.take k++(ls.take N++l.drop (k+N)))::F):=by
        refine hw.F7 (some g) (some g) rfl rfl hgr.os hgr.tape hgr.output hgr.size hdr (λq hq hne=>hgr.block q hq (λhx=>hne (by cases hx;rfl))) ?_ (λq hq=> .inl hq);show _/\_/\_;rw [hlen];refine ⟨hown',λu hu=> ?_,hbg⟩;obtain ⟨q,_,hq⟩:=List.mem_flatMap.1 hu;exact h1 q u hq
      refine Oper.wG (v:= .int .i64 ((N:Nat):Int)) (w':=w') ?_ (hK _ _ _ _ _ kk hR (xR ha hd hn _));rw [ha.eval'];simp [execOp,ho,resolve,invoke,builtin,hx,hy,hrun]
    have hN0:N=0:=by omega
    subst hN0;have e1:l.take k++(ls.take 0++l.drop (k+0))=l:=by rw [List.take_zero,List.nil_append,Nat.add_zero,List.take_append_drop]
    rw [e1]at kk;have hrun:(Builtin.copy_ #[T,ty] o.type #[.slice (some ad) (l.length - k) c',.slice as' ls.length cs']).run X.P w= .ok (.int .i64 ((0:Nat):Int)) w:=by
      simp [Builtin.copy_,run_underlying ht,Builtin.lenOf,hsz,hmin,hN,hf,goInt,storeCells]
    refine Oper.wG (v:= .int .i64 ((0:Nat):Int)) (w':=w) ?_ (hK _ _ _ _ _ kk hw (xR ha hd hn _));rw [ha.eval'];simp [execOp,ho,resolve,invoke,builtin,hx,hy,hrun]
section
variable {α:Type} {σ:aj} {k:Pk α} {z w:List (α×k.P)} {l m:List α}
theorem ZOk.take(h:ZOk σ k z l)(n:Nat):ZOk σ k (z.take n) (l.take n):=⟨by rw [List.map_take,h.eq],λu hu=>h.ok u (List.mem_of_mem_take hu)⟩
end
theorem OpOk.dp_{X:Ctx}{e:Env}{σ:aj}{F:List Res}{o:Oper}{x y:Operand}{K:Env->aj->List Res->Prop}{α:Type}{T ty E size p m' d N q:Nat}{enc:α->List Value}{v u s:Value}{l ls:List α}
    (ho:o.op= .call {callee:= .builtin .copy,args:= #[x,y],argTypes:= #[T,ty]}) (ht:X.P.underlying T=some (.slice E)) (hs:szOf X.P E=some size) (hd:o.dst=some d) (hn:Nat.blt d X.n=true)
    (hx:ev e x=u) (hv:VwOk v u size p m') (hq:l.length=q) (hm:q - p=m') (hk:p<=q) (hy:ev e y=s) (hsrc:SrcC σ (ε E size enc v l::F) size enc s ls) (hl: ∀x,(enc x).length=size) (h0:0<size) (h1: ∀x, ∀u∈enc x,u.oneCell'=true) (hN:min ls.length (q - p)=N)
    (kk:K (upd e d (.int .i64 ((N:Nat):Int))) σ (ε E size enc v (l.take p++(ls.take N++l.drop (p+N)))::F)):OpOk X o e σ (ε E size enc v l::F) K:=by
  subst hq;subst hN;exact OpOk.copyV ho ht hs hd hn hx hv hm hk hy hsrc hl h0 h1 kk
theorem OpVal.bj_{P:Program}{n:Nat}{e:Env}{σ:aj}{H:List Res}{o:Oper}{x y:Operand}{T E size m q k i f:Nat}{kk:IntKind}{v:Value}(ho:o.op= .indexAddr T x y)(ht:P.underlying T=some (.array m E))(hz:szOf P E=some size)(hx:ev e x=lF v q)(hy:ev e y= .int kk (i:Nat))(hi:i<m)(hf:i * size=f)(hs:uo v k)(hj:0<k):OpVal P n o e σ H (lF v (q+f)):=λw _=>by
  subst hf;obtain ⟨a,c,rfl,_⟩:=hs.some hj;have h0:(i:Int)<(m:Int):=by omega
  simp [execOp,ho,hx,hy,Instr.indexAt,asIntOf,run_underlying ht,xX hz,h0,lF,Instr.sureAddr,Yv];intro h;omega
end Go.E
end
