/- Parts of a proof, one behind the other: what a machine reaches, functions decompiled, plain lemmas. Conditions stand with each lemma. -/
import Derived.Test.YtchebnpdnfhenaaGreatDoorBb501fecef1
import Derived.Shelf.SlSortCmp.NoneTotal
import Derived.Lib.Builder
import Derived.Lib.AppendStr
import Derived.Lib.UnsafeStr
import Derived.Shelf.Sort.Plain
import Derived.Shelf.Slices.In.SortNone
import Derived.Shelf.Strconv.Itoa3
import Derived.Test.YtchebnpdnfhenaaGreatDoorChecked
import Derived.RangeFuncLeaves

set_option linter.unusedVariables false
set_option linter.unusedSimpArgs false
set_option linter.unusedSectionVars false
set_option maxRecDepth 100000
set_option maxHeartbeats 8000000
variable {aN aA aW bI jd jL E_ E8 lH E5:Option Go.Addr}{uM zu zq b_ fG jq jo aK aY ay bD jc jK ES ER lD EP:Nat}

noncomputable section
namespace Go.Proofs.YtchebnpdnfhenaaGreatDoor
open Go Go.E Go.E.OpVal Go.E.OpOk Go.Proofs.Tryz
open List (replicate)
theorem pf_:foOf Tryz.prog 66 4=some 7:=by kernel_rfl
theorem pf106:plainF Tryz.prog 106=true:=by kernel_rfl
theorem y8_:plainF Tryz.prog 134=true:=by kernel_rfl
theorem uy_:plainF Tryz.prog 135=true:=by kernel_rfl
theorem pf139:plainF Tryz.prog 139=true:=by kernel_rfl
theorem SG:plainF Tryz.prog 140=true:=by kernel_rfl
theorem Sz:plainF Tryz.prog 156=true:=by kernel_rfl
theorem pf158:plainF Tryz.prog 158=true:=by kernel_rfl
theorem Sr:plainF Tryz.prog 195=true:=by kernel_rfl
theorem pf64:plainF Tryz.prog 64=true:=by kernel_rfl
theorem dh:szOf Tryz.prog 3=some 1:=by kernel_rfl
theorem lq:zeroOf Tryz.prog 3=some (.int .i64 0):=by kernel_rfl
def Cj_(x0:T_1)(x1:T_1):Option (Int):=
 some (Lib.compareBytes x0 x1)
theorem Es_{σ:aj}{x0:T_1}{x1:T_1}{r:Int}(hh:Cj_ x0 x1=some r):
  Con prog 106 #[.string (bs x0),.string (bs x1)] σ [] (kZ (.int .i64 r) σ):=by
 dsimp only [Cj_]at hh
 refine Con.mk (n:=8) Tryz.func106 z z z (λw0=> ?_)
 refine ξ (ψ z z (ε (ξ (ω z (dX (.inl z) z) (ω z (dX (.inl z) z) (ω z (cmpStr z z Tryz.func144 (by kernel_rfl) (by kernel_rfl) (by kernel_rfl) (by kernel_rfl) z z) (ψ z z (ε (TC.ret ?_)))))))))
 obtain rfl:=so hh
 exact rq [4] ⟨z,z,z⟩
def Ds_(x0:T_1)(x1:T_1):Option (Int):=
 bnd (Cj_ x0 x1) (λv4=>some v4)
theorem Fh_{σ:aj}{x0:T_1}{x1:T_1}{r:Int}(hh:Ds_ x0 x1=some r):
  Con prog 64 #[.string (bs x0),.string (bs x1)] σ [] (kZ (.int .i64 r) σ):=by
 dsimp only [Ds_]at hh
 refine Con.mk (n:=8) Tryz.func64 z z z (λw0=> ?_)
 refine ξ (ψ z z (ε (ξ (ω z (dX (.inl z) z) (ω z (dX (.inl z) z) ?_)))))
 obtain ⟨v4,u4,hh⟩:=dJ hh
 refine ν z (kD (Es_ u4) z z pf106 z z z ?_)
 refine ψ z z (ε (TC.ret ?_))
 obtain rfl:=so hh
 exact rq [4] ⟨z,z,z⟩
def Ft_(x0:Int):Option (Bool):=
 some (decide (x0≠x0))
theorem Gv_{σ:aj}{x0:Int}{r:Bool}(hh:Ft_ x0=some r):
  Con prog 156 #[.int .i64 x0] σ [] (kZ (.bool r) σ):=by
 dsimp only [Ft_]at hh
 refine Con.mk (n:=6) Tryz.func156 z z z (λw0=> ?_)
 refine ξ (TL.j z z (ε (ξ (ψ z z (ψ z z (ω z (OpVal.neq z z z) (TL.j z z (ε (TC.ret ?_)))))))))
 obtain rfl:=so hh
 exact rq [2] ⟨z,z,z⟩
def Qm(x0:Int)(x1:Int):Option (Int):=
 bnd (Ft_ x0) (λv3=>bnd (Ft_ x1) (λv6=>aQ v3 (aQ v6 (some 0) (some (-1))) (aQ v6 (some 1) (aQ (decide (x0<x1)) (some (-1)) (aQ (decide (x1<x0)) (some 1) (some 0))))))
theorem Dp_{σ:aj}{x0:Int}{x1:Int}{r:Int}(hh:Qm x0 x1=some r):
  Con prog 135 #[.int .i64 x0,.int .i64 x1] σ [] (kZ (.int .i64 r) σ):=by
 dsimp only [Qm]at hh
 refine Con.mk (n:=20) Tryz.func135 z z z (λw0=> ?_)
 refine ξ (ψ z z (ε (ξ (ψ z z ?_))))
 obtain ⟨v3,u3,hh⟩:=dJ hh
 refine ν z (kD (Gv_ u3) z z Sz z z z ?_)
 refine TL.j z z (ε (ξ (ψ z z ?_)))
 obtain ⟨v6,u6,hh⟩:=dJ hh
 refine ν z (kD (Gv_ u6) z z Sz z z z ?_)
 refine TL.j z z (ε (θ (ξ (TL.j z z (ε (TC.cB z hh (λgI hh=> ?_) (λgI hh=> ?_)))))))
 ·refine θ (ξ (TL.j z z (ε (TC.cB z hh (λxP hh=> ?_) (λxP hh=> ?_)))))
  ·refine ξ (ψ z z (ε (TC.ret (S.r (S.r ?_)))))
   obtain rfl:=so hh
   exact rq [4] ⟨z,z,z⟩
  refine ι (S.n (ξ (ψ z z (ε (TC.ret (S.r ?_))))))
  obtain rfl:=so hh
  exact rq [4] ⟨z,z,z⟩
 refine ι (S.n (θ (ξ (TL.j z z (ε (TC.cB z hh (λgG hh=> ?_) (λgG hh=> ?_)))))))
 ·refine ξ (ψ z z (ε (TC.ret (S.r ?_))))
  obtain rfl:=so hh
  exact rq [4] ⟨z,z,z⟩
 refine ι (S.n (θ (ξ (ψ z z (ψ z z (ω z (OpVal.lss z z z) (ε (TC.cD z hh (λgB hh=> ?_) (λgB hh=> ?_)))))))))
 ·refine ξ (ψ z z (ε (TC.ret (S.r ?_))))
  obtain rfl:=so hh
  exact rq [4] ⟨z,z,z⟩
 refine ι (S.n (θ (ξ (ψ z z (ψ z z (ω z (OpVal.gtr z z z) (ε (TC.cD z hh (λdM hh=> ?_) (λdM hh=> ?_)))))))))
 ·refine ξ (ψ z z (ε (TC.ret (S.r ?_))))
  obtain rfl:=so hh
  exact rq [4] ⟨z,z,z⟩
 refine ι (S.n (ξ (ψ z z (ε (TC.ret ?_)))))
 obtain rfl:=so hh
 exact rq [4] ⟨z,z,z⟩
def q9_(x0:Nat):Option (Bool):=
 some (decide (x0≠x0))
theorem pu_{σ:aj}{x0:Nat}{r:Bool}(hh:q9_ x0=some r):
  Con prog 195 #[.int .u64 (x0:Int)] σ [] (kZ (.bool r) σ):=by
 dsimp only [q9_]at hh
 refine Con.mk (n:=6) Tryz.func195 z z z (λw0=> ?_)
 refine ξ (TL.j z z (ε (ξ (ψ z z (ψ z z (ω z (neqU z z z) (TL.j z z (ε (TC.ret ?_)))))))))
 obtain rfl:=so hh
 exact rq [2] ⟨z,z,z⟩
def ka_(x0:Nat)(x1:Nat):Option (Int):=
 bnd (q9_ x0) (λv3=>bnd (q9_ x1) (λv6=>aQ v3 (aQ v6 (some 0) (some (-1))) (aQ v6 (some 1) (aQ (decide (x0<x1)) (some (-1)) (aQ (decide (x1<x0)) (some 1) (some 0))))))
theorem rz_{σ:aj}{x0:Nat}{x1:Nat}{r:Int}(hh:ka_ x0 x1=some r):
  Con prog 158 #[.int .u64 (x0:Int),.int .u64 (x1:Int)] σ [] (kZ (.int .i64 r) σ):=by
 dsimp only [ka_]at hh
 refine Con.mk (n:=20) Tryz.func158 z z z (λw0=> ?_)
 refine ξ (ψ z z (ε (ξ (ψ z z ?_))))
 obtain ⟨v3,u3,hh⟩:=dJ hh
 refine ν z (kD (pu_ u3) z z Sr z z z ?_)
 refine TL.j z z (ε (ξ (ψ z z ?_)))
 obtain ⟨v6,u6,hh⟩:=dJ hh
 refine ν z (kD (pu_ u6) z z Sr z z z ?_)
 refine TL.j z z (ε (θ (ξ (TL.j z z (ε (TC.cB z hh (λgI hh=> ?_) (λgI hh=> ?_)))))))
 ·refine θ (ξ (TL.j z z (ε (TC.cB z hh (λxP hh=> ?_) (λxP hh=> ?_)))))
  ·refine ξ (ψ z z (ε (TC.ret (S.r (S.r ?_)))))
   obtain rfl:=so hh
   exact rq [4] ⟨z,z,z⟩
  refine ι (S.n (ξ (ψ z z (ε (TC.ret (S.r ?_))))))
  obtain rfl:=so hh
  exact rq [4] ⟨z,z,z⟩
 refine ι (S.n (θ (ξ (TL.j z z (ε (TC.cB z hh (λgG hh=> ?_) (λgG hh=> ?_)))))))
 ·refine ξ (ψ z z (ε (TC.ret (S.r ?_))))
  obtain rfl:=so hh
  exact rq [4] ⟨z,z,z⟩
 refine ι (S.n (θ (ξ (ψ z z (ψ z z (ω z (lssU z z z) (ε (TC.cD z hh (λgB hh=> ?_) (λgB hh=> ?_)))))))))
 ·refine ξ (ψ z z (ε (TC.ret (S.r ?_))))
  obtain rfl:=so hh
  exact rq [4] ⟨z,z,z⟩
 refine ι (S.n (θ (ξ (ψ z z (ψ z z (ω z (gtrU z z z) (ε (TC.cD z hh (λdM hh=> ?_) (λdM hh=> ?_)))))))))
 ·refine ξ (ψ z z (ε (TC.ret (S.r ?_))))
  obtain rfl:=so hh
  exact rq [4] ⟨z,z,z⟩
 refine ι (S.n (ξ (ψ z z (ε (TC.ret ?_)))))
 obtain rfl:=so hh
 exact rq [4] ⟨z,z,z⟩
def Ff_(x0:Bool):Option (Int):=
 aQ x0 (some 1) (some 0)
theorem Gj_{σ:aj}{x0:Bool}{r:Int}(hh:Ff_ x0=some r):
  Con prog 140 #[.bool x0] σ [] (kZ (.int .i64 r) σ):=by
 dsimp only [Ff_]at hh
 refine Con.mk (n:=4) Tryz.func140 z z z (λw0=> ?_)
 refine ξ (ψ z z (ε (θ (ξ (TL.j z z (ε (TC.cB z hh (λgI hh=> ?_) (λgI hh=> ?_))))))))
 ·refine ξ (ψ z z (ε (TC.ret (S.r ?_))))
  obtain rfl:=so hh
  exact rq [2] ⟨z,z,z⟩
 refine ι (S.n (ξ (ψ z z (ε (TC.ret ?_)))))
 obtain rfl:=so hh
 exact rq [2] ⟨z,z,z⟩
def Vf(x0:ak)(kQ:Nat):Option ((Nat)⊕(Int)):=
 aQ (decide ((kQ:Int)<((x0.length:Nat):Int))) (aQ (decide ((nth x0 kQ 0)≠0)) (fin (some (nth x0 kQ 0))) (nxt (kQ+1))) (fin (some 0))
def Zp(x0:ak):Option (Int):=
 bC (λq:Nat=>Vf x0 q) 0
theorem Gq_{σ:aj}{x0:ak}(au:dH σ aF aN aK x0){r:Int}(hh:Zp x0=some r):
  Con prog 134 #[.slice aN x0.length aK] σ [] (kZ (.int .i64 r) σ):=by
 dsimp only [Zp]at hh
 have f0_0b:=au.rv.big
 refine Con.mk (n:=18) Tryz.func134 z z z (λw0=> ?_)
 refine ξ (ψ z z (ε (ξ (ψ z z (ε (θ (ξ (Ξ z z (ω z (lenC z bY z) (ψ z z (ε (υ (TC.iE (α:=(Nat)×(Unit)) (rgs [(2,1),(5,1),(8,9)]) (λg=>[(8,.int .i64 ((g.1:Nat):Int))]) (λg=>[]) (λg=>σ) (λg=>bC (λq:Nat=>Vf x0 q) g.1=some r) (λg=>fZ (λq:Nat=>Vf x0 q) g.1) (0,()) (Sub.pre 0 z) z (by repeat (first|exact trivial|refine ⟨z,?_⟩)) hh (λg1 j1 hg1=> ?_))))))))))))))
 obtain ⟨kQ,_⟩:=g1
 have hh:=hg1;clear hg1
 try dsimp only
 obtain ⟨z1,hh,hR1⟩:=iq hh
 dsimp only [Vf]at hh
 refine ξ (ω z (OpVal.lss z z z) (ε (θ (TC.cD z hh (λgB hh=> ?_) (λgB hh=> ?_)))))
 ·refine ι (S.n (θ (υ (ξ (ω z (bT z bY dh z z au.rv.sl (by omega)) (ω z (fD (0:Int) z fC z au (by omega) z) (ψ z z (ε (ξ (ψ z z (ψ z z (ω z (OpVal.neq z z z) (ε (TC.cD z hh (λdM hh=> ?_) (λdM hh=> ?_)))))))))))))))
  ·refine ξ (ψ z z (ψ z z (ε (TC.ret (B.r (S.r (S.r ?_)))))))
   replace hh:=dI hR1 hh
   refine B.r (S.r ?_)
   obtain rfl:=so hh
   exact rq [2] ⟨z,z,z⟩
  refine ι (B.n (S.n (η (ω z (OpVal.succ z z z (by omega)) (ψ z z (ε ?_))))))
  obtain ⟨hh,Ee⟩:=dL hR1 hh
  exact lf ((kQ+1),()) Ee hh (Sub.pre 0 z)
 refine TC.exit (S.x (S.x ?_))
 replace hh:=dI hR1 hh
 refine Δ (S.n (ξ (ψ z z (ψ z z (ε (TC.ret ?_))))))
 obtain rfl:=so hh
 exact rq [2] ⟨z,z,z⟩
def Ef_(x0:Tip)(x1:Tip):Option (Int):=
 bnd (Qm x0.state x1.state) (λv8=>bnd (Ds_ x0.out x1.out) (λv13=>bnd (Zp [v8,v13]) (λv15=>some v15)))
theorem Gx_{σ:aj}{x0:Tip}{x1:Tip}{r:Int}(hh:Ef_ x0 x1=some r):
  Con prog 96 #[.agg #[.int .i64 x0.state,.string (bs x0.out)],.agg #[.int .i64 x1.state,.string (bs x1.out)]] σ [] (kZ (.int .i64 r) σ):=by
 dsimp only [Ef_]at hh
 refine Con.mk (n:=17) Tryz.func96 z z z (λw0=> ?_)
 refine ξ (ν z (boxA z z z z (λbG=> ?_)))
 refine ν z (boxA z z z z (λeY=> ?_))
 refine ψ z z (ε (θ ?_))
 obtain ⟨v8,u8,hh⟩:=dJ hh
 obtain ⟨v13,u13,hh⟩:=dJ hh
 obtain ⟨v15,u15,hh⟩:=dJ hh
 refine TC.draw [] (by kernel_rfl) (TA.a 0 z (aU z EN z) z (TA.b 1 z (bg z fC z (i:=1) z z) z (TA.a 2 z (aU z EN z) z (TA.b 3 z (bg z fC z (i:=0) z z) z (TA.a 5 z (aU z Az z) z (TA.b 6 z (bg z iK z (i:=1) z z) z (TA.a 7 z (aU z Az z) z (TA.b 8 z (bg z iK z (i:=0) z z) z (TA.ac 4 z (kD (Dp_ u8) z z uy_ z z z (k0 ?_)))))))))))
 refine TA.ac 9 z (kD (Fh_ u13) z z pf64 z z z (k0 ?_))
 refine TA.ac 10 z (OpOk.lit (enc:=aF) [v8,v13] z bY dh lq z z z bn (by decide) (by decide) (0:Int) z (by decide) z (by decide) jR (λa110 c111=>(k1 ?_)))
 refine TA.ac 11 z (U_ (Con.lend bn (λ_ Ep J3=>Gq_ J3 u15)) z z y8_ z z z z (k1 ?_))
 refine TA.a 12 z (cO (.inr z) z) z (TA.dn (S.n (TC.rt 0 ?_)))
 obtain rfl:=so hh
 exact rq [4] ⟨z,z,z⟩
def H6(x0:List Nat)(x1:List Nat)(kQ:Nat):Option ((Nat)⊕(Int)):=
 aQ (decide ((kQ:Int)<((x0.length:Nat):Int))) (aQ (decide (((x1.length:Nat):Int)<=(kQ:Int))) (fin (some 1)) (grd (kQ<x1.length) (bnd (ka_ (nth x0 kQ (0:Nat)) (nth x1 kQ (0:Nat))) (λv23=>aQ (decide (v23≠0)) (fin (some v23)) (nxt (kQ+1)))))) (fin (aQ (decide (((x0.length:Nat):Int)<((x1.length:Nat):Int))) (some (-1)) (some 0)))
def kj_(x0:List Nat)(x1:List Nat):Option (Int):=
 bC (λq:Nat=>H6 x0 x1 q) 0
theorem qr_{σ:aj}{x0:List Nat}{x1:List Nat}(au:dH σ encW aN aK x0)(dN:dH σ encW jd jc x1){r:Int}(hh:kj_ x0 x1=some r):
  Con prog 139 #[.slice aN x0.length aK,.slice jd x1.length jc] σ [] (kZ (.int .i64 r) σ):=by
 dsimp only [kj_]at hh
 have f0_0b:=au.rv.big
 have f1_0b:=dN.rv.big
 refine Con.mk (n:=36) Tryz.func139 z z z (λw0=> ?_)
 refine ξ (ψ z z (ε (θ (ξ (Ξ z z (ω z (lenC z underlying194 z) (ψ z z (ε (υ (TC.iE (α:=(Nat)×(Unit)) (rgs [(4,5),(11,20)]) (λg=>[(11,.int .i64 ((g.1:Nat):Int))]) (λg=>[]) (λg=>σ) (λg=>bC (λq:Nat=>H6 x0 x1 q) g.1=some r) (λg=>fZ (λq:Nat=>H6 x0 x1 q) g.1) (0,()) (Sub.pre 0 z) z (by repeat (first|exact trivial|refine ⟨z,?_⟩)) hh (λg1 j1 hg1=> ?_)))))))))))
 obtain ⟨kQ,_⟩:=g1
 have hh:=hg1;clear hg1
 try dsimp only
 obtain ⟨z1,hh,hR1⟩:=iq hh
 dsimp only [H6]at hh
 refine ξ (ω z (OpVal.lss z z z) (ε (θ (TC.cD z hh (λgB hh=> ?_) (λgB hh=> ?_)))))
 ·refine ι (S.n (θ (υ (ξ (ψ z z (ω z (bT z underlying194 MK z z au.rv.sl (by omega)) (ω z (fD (0:Nat) z L6 z au (by omega) z) (ψ z z (ψ z z (ε (θ (ξ (ψ z z (Ξ z z (ω z (lenC z underlying194 z) ?_)))))))))))))))
  refine ω z (OpVal.geq z z z) (ε (TC.cD z hh (λdM hh=> ?_) (λdM hh=> ?_)))
  ·refine ξ (ψ z z (ε (TC.ret (S.r (B.r (S.r (S.r ?_)))))))
   replace hh:=dI hR1 hh
   refine B.r (S.r ?_)
   obtain rfl:=so hh
   exact rq [4] ⟨z,z,z⟩
  refine ι (S.n (ξ (Ξ z z (ψ z z ?_))))
  obtain ⟨RP,hh⟩:=aP hh
  refine ω z (bT z underlying194 MK z z dN.rv.sl (by omega)) (ω z (fD (0:Nat) z L6 z dN (by omega) z) (ψ z z (ε (ξ (ψ z z (ψ z z ?_))))))
  obtain ⟨v23,u23,hh⟩:=dJ hh
  refine ν z (kD (rz_ u23) z z pf158 z z z ?_)
  refine ψ z z (ε (ξ (ψ z z (ω z (OpVal.neq z z z) (ε (TC.cD z hh (λdW hh=> ?_) (λdW hh=> ?_)))))))
  ·refine ξ (ψ z z (ψ z z (ε (TC.ret (B.r (S.r (S.r ?_)))))))
   replace hh:=dI hR1 hh
   refine B.r (S.r ?_)
   obtain rfl:=so hh
   exact rq [4] ⟨z,z,z⟩
  refine ι (B.n (S.n (η (ω z (OpVal.succ z z z (by omega)) (ψ z z (ε ?_))))))
  obtain ⟨hh,ru⟩:=dL hR1 hh
  exact lf ((kQ+1),()) ru hh (Sub.pre 0 z)
 refine TC.exit (S.x (S.x ?_))
 replace hh:=dI hR1 hh
 refine Δ (S.n (θ (ξ (Ξ z z (ω z (lenC z underlying194 z) (Ξ z z (ω z (lenC z underlying194 z) (ω z (OpVal.lss z z z) (ε (TC.cD z hh (λfH hh=> ?_) (λfH hh=> ?_)))))))))))
 ·refine ξ (ψ z z (ε (TC.ret (S.r ?_))))
  obtain rfl:=so hh
  exact rq [4] ⟨z,z,z⟩
 refine ι (S.n (ξ (ψ z z (ε (TC.ret ?_)))))
 obtain rfl:=so hh
 exact rq [4] ⟨z,z,z⟩
def Eh_(x0:Arc)(x1:Arc):Option (Int):=
 bnd (Qm x0.frm x1.frm) (λv8=>bnd (Qm x0.to x1.to) (λv13=>bnd (kj_ [x0.set.a,x0.set.b,x0.set.c,x0.set.d] [x1.set.a,x1.set.b,x1.set.c,x1.set.d]) (λv18=>bnd (Ds_ x0.out x1.out) (λv23=>bnd (Ff_ x0.copy) (λv26=>bnd (Ff_ x1.copy) (λv29=>bnd (Qm v26 v29) (λv30=>bnd (Zp [v8,v13,v18,v23,v30]) (λv32=>some v32))))))))
theorem Gy_{σ:aj}{x0:Arc}{x1:Arc}{r:Int}(hh:Eh_ x0 x1=some r):
  Con prog 98 #[.agg #[.int .i64 x0.frm,.int .i64 x0.to,.int .u64 ((x0.set.a:Nat):Int),.int .u64 ((x0.set.b:Nat):Int),.int .u64 ((x0.set.c:Nat):Int),.int .u64 ((x0.set.d:Nat):Int),.string (bs x0.out),.bool x0.copy],.agg #[.int .i64 x1.frm,.int .i64 x1.to,.int .u64 ((x1.set.a:Nat):Int),.int .u64 ((x1.set.b:Nat):Int),.int .u64 ((x1.set.c:Nat):Int),.int .u64 ((x1.set.d:Nat):Int),.string (bs x1.out),.bool x1.copy]] σ [] (kZ (.int .i64 r) σ):=by
 dsimp only [Eh_]at hh
 refine Con.mk (n:=34) Tryz.func98 z z z (λw0=> ?_)
 refine ξ (ν z (boxA z z z z (λbG=> ?_)))
 refine ν z (boxA z z z z (λeY=> ?_))
 refine ψ z z (ε (θ ?_))
 obtain ⟨v8,u8,hh⟩:=dJ hh
 obtain ⟨v13,u13,hh⟩:=dJ hh
 obtain ⟨v18,RP,hh⟩:=dJ hh
 obtain ⟨v23,u23,hh⟩:=dJ hh
 obtain ⟨v26,u26,hh⟩:=dJ hh
 obtain ⟨v29,u29,hh⟩:=dJ hh
 obtain ⟨v30,u30,hh⟩:=dJ hh
 obtain ⟨v32,u32,hh⟩:=dJ hh
 refine TC.draw [] (by kernel_rfl) (TA.a 0 z (aU z Pm z) z (TA.b 1 z (bg z fC z (i:=1) z z) z (TA.a 2 z (aU z Pm z) z (TA.b 3 z (bg z fC z (i:=0) z z) z (TA.a 5 z (aU z S_ z) z (TA.b 6 z (bg z fC z (i:=1) z z) z (TA.a 7 z (aU z S_ z) z (TA.b 8 z (bg z fC z (i:=0) z z) z (TA.a 10 z (aU z l3_ z) z (TA.b 11 z (b7_ z underlying64 MK z) z (TA.a 12 z (aU z l3_ z) z (TA.b 13 z (b7_ z underlying64 MK z) z (TA.a 15 z (aU z l1_ z) z (TA.b 16 z (bg z iK z (i:=1) z z) z (TA.a 17 z (aU z l1_ z) z ?_)))))))))))))))
 refine TA.b 18 z (bg z iK z (i:=0) z z) z (TA.a 20 z (aU z pf_ z) z (TA.b 21 z (bg z nX z (i:=1) z z) z (TA.a 23 z (aU z pf_ z) z (TA.b 24 z (bg z nX z (i:=0) z z) z (TA.ac 4 z (kD (Dp_ u8) z z uy_ z z z (k0 ?_)))))))
 refine TA.ac 9 z (kD (Dp_ u13) z z uy_ z z z (k0 ?_))
 refine TA.front 1 z z (TA.ac 14 z (U_ (Con.lendC (λ_ Yo hr114=>Con.lendC (λ_ KO hr115=>qr_ (RS.cx_ (l:=[x0.set.a,x0.set.b,x0.set.c,x0.set.d]) (KO _ _ hr114) t7_ ty_ z z z) (RS.cx_ (l:=[x1.set.a,x1.set.b,x1.set.c,x1.set.d]) hr115 t7_ ty_ z z z) RP))) z z pf139 z z z z ⟨(λw h=>rP (aj.le.refl _) (λr hr=>qy [1,0] z hr) w h),?_⟩))
 refine TA.ac 19 z (kD (Fh_ u23) z z pf64 z z z ⟨(λw h=>rP (aj.le.refl _) (λr hr=>qy [1,0] z hr) w h),?_⟩)
 refine TA.ac 22 z (kD (Gj_ u26) z z SG z z z ⟨(λw h=>rP (aj.le.refl _) (λr hr=>qy [1,0] z hr) w h),?_⟩)
 refine TA.ac 25 z (kD (Gj_ u29) z z SG z z z ⟨(λw h=>rP (aj.le.refl _) (λr hr=>qy [1,0] z hr) w h),?_⟩)
 refine TA.ac 26 z (kD (Dp_ u30) z z uy_ z z z ⟨(λw h=>rP (aj.le.refl _) (λr hr=>qy [1,0] z hr) w h),?_⟩)
 refine TA.ac 27 z (OpOk.lit (enc:=aF) [v8,v13,v18,v23,v30] z bY dh lq z z z bn (by decide) (by decide) (0:Int) z (by decide) z (by decide) jR (λqG c119=>⟨(λw h=>rP (aj.le.refl _) (λr hr=>qy [2,1] z hr) w h),?_⟩))
 refine TA.ac 28 z (U_ (Con.lend bn (λ_ lV nS=>Gq_ nS u32)) z z y8_ z z z z ⟨(λw h=>rP (aj.le.refl _) (λr hr=>qy [2,1] z hr) w h),?_⟩)
 refine TA.a 29 z (cO (.inr z) z) z (TA.dn (S.n (TC.rt 0 ?_)))
 obtain rfl:=so hh
 exact rq [4] ⟨z,z,z⟩
end Go.Proofs.YtchebnpdnfhenaaGreatDoor
end

noncomputable section
namespace Go.E
open Go Go.Sort Go.Proofs Go.Shelf
theorem Reach.grown{w w':World}{σ:aj}{H:List Res}(h:Reach w [] (λ_=>none) σ w' H): ∃q os',w'=grow (w.drewN q) os':=by
  refine ⟨w'.drawn - w.drawn,w'.heap.extract w.heap.size w'.heap.size,?_⟩
  have h1:w'.heap=w.heap++w'.heap.extract w.heap.size w'.heap.size:=by
    apply Array.ext_getElem?
    intro i
    rw [Array.getElem?_append]
    split
    · rename_i hi;exact h.frame i hi (by simp)
    rename_i hi
    by_cases hl:i<w'.heap.size
    · rw [Array.getElem?_extract_of_lt (by omega)];simp only [show w.heap.size+(i - w.heap.size)=i by omega];exact Array.getElem?_eq_getElem hl
    rw [Array.getElem?_eq_none (by omega),Array.getElem?_eq_none (by simp;omega)]
  have h2:=h.drawn
  cases w' with
  |mk heap tape drawn os output=>
    have e1:=h.os;have e2:=h.tape;have e3:=h.output
    simp only at h1 h2 e1 e2 e3
    simp only [grow,World.drewN]
    rw [World.mk.injEq]
    exact ⟨h1,e2,by omega,e1,e3⟩
theorem q4_(w:World):Reach w [] (λ_=>none) (λ_=>none) w []:=
  ⟨rfl,rfl,rfl,Nat.le_refl _,λ_ _ _=>rfl,aj.le.refl _,(λ_ _ h=>by cases h),(λ_ _ h=>by cases h),by simp,by simp,by simp [iG],by simp,Nat.le_refl _⟩
section
variable {α:Type} [Inhabited α] {P:Program}
theorem s5_{g:Nat}{enc:α->Value}{cf:α->α->Int}{blk off size:Nat}{w:World}(h: ∀x y τ,Con P g #[enc x,enc y] τ [] (kZ (.int .i64 (cf x y)) τ)):CmpLays1 P g #[] enc cf blk off size w:=by
  intro m os dk _ x y
  refine (h x y (λ_=>none) _ (q4_ _)).mono λe w' ⟨r,σ',H',he,⟨hr,_,_⟩,k⟩=>⟨by rw [he,hr],Reach.grown k⟩
theorem vf_{g k:Nat}{enc:α->List Value}{cf:α->α->Int}{blk off size:Nat}{w:World}(h: ∀x y τ,Con P g #[.agg (enc x).toArray,.agg (enc y).toArray] τ [] (kZ (.int .i64 (cf x y)) τ)):CmpLays P g #[] enc k cf blk off size w:=by
  intro m os dk _ x y
  refine (h x y (λ_=>none) _ (q4_ _)).mono λe w' ⟨r,σ',H',he,⟨hr,_,_⟩,k⟩=>⟨by rw [he,hr],Reach.grown k⟩
end
theorem getBang{α:Type}[Inhabited α](l:List α)(i:Nat)(h:i<l.length):l.toArray[i]! =l[i]:=by simp [h]
theorem Reach.sorted{w0:World}{C:List Nat}{σ0 σ:aj}{w:World}{F:List Res}{E size n cap g m:Nat}{xs xs':List Value}{os:Array Obj}(h:Reach w0 C σ0 σ w (Res.row E size (.slice (some ⟨g,0,none⟩) n cap) n xs::F))(hl:xs'.length=xs.length)(h1: ∀u∈xs',u.oneCell'=true):
    Reach w0 C σ0 σ (grow (putRow (id:Value->Value) (Sort.ahead w m) g 0 xs'.toArray) os) (Res.row E size (.slice (some ⟨g,0,none⟩) n cap) n xs'::F):=by
  obtain ⟨hown,hone,hbg⟩:=h.holds _ (ji ..)
  obtain ⟨hlen,hc⟩:=hown
  rcases hc with ⟨hc,_⟩|⟨g',cap',cur,hv,hb0,hg,h3,h4,h5,h6⟩
  · cases hc
  cases hv
  have hgl:g<w.heap.size:=(Array.getElem?_eq_some_iff.1 hg).1
  have hnew:(grow (putRow (id:Value->Value) (Sort.ahead w m) g 0 xs'.toArray) os).heap[g]? =some (.cells (putCells (id:Value->Value) 0 xs'.toArray cur) E):=by
    rw [heap_grow_old _ _ (by simpa using hgl)]
    simp [putRow,mapBlock,Sort.ahead,Array.getElem?_modify,hg,onCells]
  have hold: ∀k,k<w.heap.size->k≠g->(grow (putRow (id:Value->Value) (Sort.ahead w m) g 0 xs'.toArray) os).heap[k]? =w.heap[k]? :=by
    intro k hk hne
    rw [heap_grow_old _ _ (by simpa using hk)]
    have:g≠k:=λe=>hne e.symm
    simp [putRow,mapBlock,Sort.ahead,Array.getElem?_modify,this]
  have hcur:xs.length<=cur.size:=by
    have:=congrArg List.length h6
    simp at this;omega
  refine h.GX (some g) (some g) rfl rfl rfl rfl rfl (by simp [grow]) (by simp [grow,putRow,mapBlock,Sort.ahead]) (λk hk hne=>hold k hk λe=>hne (by rw [e])) ⟨⟨by rw [hl];exact hlen,.inr ⟨g,cap,_,rfl,hb0,hnew,h3,h4,by simp [putCells,h5],?_⟩⟩,h1,hbg⟩ (λb hb=> .inl hb)
  apply List.ext_getElem?
  intro i
  by_cases hi:i<n * size
  · have hi2:i<xs'.length:=by rw [hl,hlen];exact hi
    rw [List.getElem?_take_of_lt hi,Array.getElem?_toList]
    simp [putCells,hi2,show i<cur.size by omega]
  rw [List.getElem?_take_eq_none (by omega),List.getElem?_eq_none (by omega)]
theorem holds_row{w:World}{E size n cap g:Nat}{xs:List Value}(h:w.ownsRow 0 E size (.slice (some ⟨g,0,none⟩) n cap) n xs):Holds (id:Value->Value) w g 0 xs.toArray/\g<w.heap.size:=by
  obtain ⟨hlen,hc⟩:=h
  rcases hc with ⟨hc,_⟩|⟨g',cap',cur,hv,hb0,hg,h3,h4,h5,h6⟩
  · cases hc
  cases hv
  refine ⟨λj hj=> ?_,(Array.getElem?_eq_some_iff.1 hg).1⟩
  have hj':j<xs.length:=by simpa using hj
  refine ⟨?_,by simp [World.frozen?,hg]⟩
  have h7:(cur.toList.take (n * size))[j]? =xs[j]? :=by rw [h6]
  rw [List.getElem?_take_of_lt (by omega)]at h7
  simp only [World.cell?,hg,Nat.zero_add,Option.isSome_none,Bool.false_eq_true,if_false]
  rw [<-Array.getElem?_toList,h7]
  simp [hj']
theorem xi_{α:Type}[Inhabited α](enc:α->Value)(w:World)(g:Nat)(l:List α):putRow enc w g 0 l.toArray=putRow (id:Value->Value) w g 0 (l.map enc).toArray:=by
  unfold putRow
  congr 1
  funext c
  unfold putCells
  apply Array.ext_getElem?
  intro i
  simp only [Array.getElem?_mapIdx]
  cases hc:c[i]? with
  |none=>rfl
  |some v=>
    simp only [Option.map_some,Nat.zero_le,true_and,Nat.zero_add,Nat.sub_zero,List.size_toArray,List.length_map]
    split
    · rename_i hi;simp [hi]
    rfl
theorem o5_ {α : Type} [Inhabited α] {enc : α -> List Value} {k : Nat} (hk : ∀ x, (enc x).length = k) (l : List α) : flatK enc k l.toArray = (l.flatMap enc).toArray := by
  have hl:(l.flatMap enc).length=l.length * k:=tK hk l
  refine ext_get! (by simp [hl]) λt ht=> ?_
  have ht':t<l.length * k:=by simpa using ht
  have k0 : 0 < k := by rcases Nat.eq_zero_or_pos k with h | h
                        · subst h;simp at ht'
                        exact h
  have hd:t / k<l.length:=Nat.div_lt_of_lt_mul (by rw [Nat.mul_comm];exact ht')
  have hm:t % k<k:=Nat.mod_lt _ k0
  rw [get_flatK _ _ _ _ (by simpa using ht'),getBang l _ hd]
  have h2:=YF hk l (t / k) (t % k) l[t / k] (List.getElem?_eq_getElem hd) hm
  rw [Nat.div_add_mod' t k]at h2
  have hb:t<(l.flatMap enc).toArray.size:=by simpa [hl]using ht'
  have h3:(l.flatMap enc).toArray[t]! =(enc l[t / k])[t % k]! :=by
    rw [getElem!_pos (l.flatMap enc).toArray t hb]
    have h4:(l.flatMap enc)[t]? =some ((l.flatMap enc).toArray[t]'hb):=by rw [<-List.getElem?_toArray];exact Array.getElem?_eq_getElem hb
    rw [h2]at h4
    have hlt:t % k<(enc l[t / k]).length:=by rw [hk];exact hm
    rw [List.getElem?_eq_getElem hlt,Option.some.injEq]at h4
    rw [getElem!_pos (enc l[t / k]) (t % k) hlt,h4]
  rw [h3]
def rY{α:Type}(cf:α->α->Int)(l:List α):List α:=l.mergeSort λx y=> !decide (cf y x<0)
def wy_{α:Type}(E size:Nat)(enc:α->List Value)(a:Option Addr)(c:Nat)(l l':List α)(σ:aj):Value->aj->List Res->Prop:=λv σ' H'=>v= .tuple #[]/\σ=σ'/\H'=[φ E size enc (.slice a l.length c) l']
structure TotalCmp {α:Type} (cf:α->α->Int):Prop where
  swo:SWO (ltOf cf)
  tot: ∀x y,ltOf cf x y=false->ltOf cf y x=false->x=y
section
variable {α:Type} [Inhabited α] {P:Program} {ρ:Ren}
theorem Con.sort1(L:SlLaysF.n6 P ρ)(L0:SlLaysF0.n6 P ρ){enc:α->Value}{encL:α->List Value}{cf:α->α->Int}{f g E c:Nat}{a:Option Addr}{l:List α}{σ:aj}(hf:ρ.f 6=f)(he: ∀x,encL x=[enc x])(h1:OneCell enc)(hO:TotalCmp cf)
    (eg: ∀args w,(callFunc g args).run P w= .ok (.enter g args) w) (hc: ∀x y τ,Con P g #[enc x,enc y] τ [] (kZ (.int .i64 (cf x y)) τ)):
    Con P f #[.slice a l.length c,.func (.func g) #[] #[]] σ [φ E 1 encL (.slice a l.length c) l] (wy_ E 1 encL a c l (rY cf l) σ):=by
  subst hf
  have hflat: ∀l:List α,l.flatMap encL=l.map enc:=λl=>by
    induction l with
    |nil=>rfl
    |cons x l ih=>rw [List.flatMap_cons,ih,he];rfl
  have hlen:(rY cf l).length=l.length:=List.length_mergeSort _
  intro w hw
  obtain ⟨hown,hone,hbg⟩:=hw.holds _ (ji ..)
  have hsl:=isSl_row hown
  rcases id hown.2 with ⟨hn,hm⟩|⟨g',cap',cur,hv,hb0,hg,h3,h4,h5,h6⟩
  · have hl0:l=[]:=oU hm
    subst hl0
    refine (AnyF.slices_SortFunc_none L0 a c (.func (.func g) #[] #[]) w).mono λe w' ⟨h1,h2⟩=>⟨_,σ,_,h1,⟨rfl,rfl,rfl⟩,?_⟩
    subst h2
    rw [show rY cf ([]:List α)=[]from by simp [rY]]
    exact hw
  cases hv
  have hH:=holds_row hown
  rw [hflat]at hH
  have hHe:Holds enc w g' 0 l.toArray:=λj hj=>by
    have:=hH.1 j (by simpa using hj)
    have hj':j<l.length:=by simpa using hj
    simpa [hj']using this
  have hsz:l.toArray.size<4611686018427387904:=by simp;omega
  have:=Any.slices_SortFunc_total L enc h1 cf hO.swo g #[] g' 0 c l.toArray w eg (s5_ hc) hHe hH.2 hsz hO.tot
  refine this.mono λe w' ⟨h7,n,os,h8⟩=>⟨_,σ,_,h7,⟨rfl,rfl,rfl⟩,?_⟩
  subst h8
  have h9:(l.toArray.toList.mergeSort λx y=> !(ltOf cf) y x)=rY cf l:=rfl
  rw [h9]
  unfold sortWorld
  rw [xi_]
  have:=Reach.sorted (h:=hw) (m:=n) (os:=os) (xs':=(rY cf l).map enc) (by rw [hflat,List.length_map,List.length_map,hlen]) (λu hu=>by
    obtain ⟨x,_,rfl⟩:=List.mem_map.1 hu
    exact h1 x)
  unfold φ
  rw [hflat (rY cf l),hlen]
  exact this
theorem Con.sortK(L:SlLaysF0.n6 P ρ){k:Nat}{enc:α->List Value}{cf:α->α->Int}{f g E c:Nat}{a:Option Addr}{l:List α}{σ:aj}(hf:ρ.f 6=f)(aE: ∀w,(isAgg (ρ.t 24)).run P w= .ok true w)(zE: ∀w,(Go.sizeOf (ρ.t 24)).run P w= .ok k w)(hk: ∀x,(enc x).length=k)(h1: ∀x, ∀u∈enc x,u.oneCell'=true)(hO:TotalCmp cf)
    (eg: ∀args w,(callFunc g args).run P w= .ok (.enter g args) w) (hc: ∀x y τ,Con P g #[.agg (enc x).toArray,.agg (enc y).toArray] τ [] (kZ (.int .i64 (cf x y)) τ)):
    Con P f #[.slice a l.length c,.func (.func g) #[] #[]] σ [φ E k enc (.slice a l.length c) l] (wy_ E k enc a c l (rY cf l) σ):=by
  subst hf
  have hlen:(rY cf l).length=l.length:=List.length_mergeSort _
  intro w hw
  obtain ⟨hown,hone,hbg⟩:=hw.holds _ (ji ..)
  rcases id hown.2 with ⟨hn,hm⟩|⟨g',cap',cur,hv,hb0,hg,h3,h4,h5,h6⟩
  · have hl0:l=[]:=oU hm
    subst hl0
    refine (AnyF.slices_SortFunc_none L a c (.func (.func g) #[] #[]) w).mono λe w' ⟨h1,h2⟩=>⟨_,σ,_,h1,⟨rfl,rfl,rfl⟩,?_⟩
    subst h2
    rw [show rY cf ([]:List α)=[]from by simp [rY]]
    exact hw
  cases hv
  have hH:=holds_row hown
  have hHe:HoldsK enc k w g' 0 l.toArray:=by
    unfold HoldsK;rw [o5_ hk];exact hH.1
  have hsz:l.toArray.size<4611686018427387904:=by simp;omega
  have:=AnyQ.slices_SortFunc_total L k aE zE enc hk h1 cf hO.swo g #[] g' 0 c l.toArray w eg (vf_ hc) hHe hH.2 hsz hO.tot
  refine this.mono λe w' ⟨h7,n,os,h8⟩=>⟨_,σ,_,h7,⟨rfl,rfl,rfl⟩,?_⟩
  subst h8
  have h9:(l.toArray.toList.mergeSort λx y=> !(ltOf cf) y x)=rY cf l:=rfl
  rw [h9]
  unfold sortWorldK putRowK
  rw [o5_ hk]
  have:=Reach.sorted (h:=hw) (m:=n) (os:=os) (xs':=(rY cf l).flatMap enc) (by rw [tK hk,tK hk,hlen]) (λu hu=>by
    obtain ⟨x,_,hx⟩:=List.mem_flatMap.1 hu
    exact h1 x u hx)
  unfold φ
  rw [hlen]
  exact this
end
end Go.E
end

noncomputable section
namespace Go.E
open Go
section
variable {S R:Type} {step:S->Option (S⊕R)}
theorem za_ {y no : R} (f : Nat -> S) (p : Nat -> Bool) (n : Nat) (hs : ∀ k, k < n -> p k = false -> step (f k) = some (.inl (f (k + 1)))) (hy : ∀ k, k < n -> p k = true -> step (f k) = some (.inr y))
    (hd:step (f n)=some (.inr no)): ∀k,k<=n->bC step (f k)=some (bif (List.range n).any (λi=>decide (k<=i) && p i) then y else no):=by
  intro k hk
  obtain ⟨m,rfl⟩: ∃m,k=n - m:=⟨n - k,by omega⟩
  induction m with
  |zero=>
    have:(List.range n).any (λi=>decide (n - 0<=i) && p i)=false:=by
      rw [List.any_eq_false];intro i hi;have:=List.mem_range.1 hi;simp;omega
    rw [this];exact zn hd
  |succ m ih=>
    by_cases h:m<n
    · have e:n - (m+1)+1=n - m:=by omega
      cases hp:p (n - (m+1))with
      |true=>
        have:(List.range n).any (λi=>decide (n - (m+1)<=i) && p i)=true:=by
          rw [List.any_eq_true];exact ⟨n - (m+1),List.mem_range.2 (by omega),by simp [hp]⟩
        rw [this];exact zn (hy _ (by omega) hp)
      |false=>
        have h1:=hs (n - (m+1)) (by omega) hp
        rw [e]at h1
        have:(List.range n).any (λi=>decide (n - (m+1)<=i) && p i)=(List.range n).any (λi=>decide (n - m<=i) && p i):=by
          rw [Bool.eq_iff_iff,List.any_eq_true,List.any_eq_true]
          constructor
          · rintro ⟨i,hi,hx⟩
            simp only [Bool.and_eq_true,lg]at hx
            refine ⟨i,hi,?_⟩
            have:i≠n - (m+1):=λh=>by rw [h,hp]at hx;exact absurd hx.2 Bool.false_ne_true
            simp [hx.2];omega
          rintro ⟨i,hi,hx⟩
          simp only [Bool.and_eq_true,lg]at hx
          exact ⟨i,hi,by simp [hx.2];omega⟩
        rw [this]
        exact Iu h1 (ih (by omega))
    have e:n - (m+1)=n - m:=by omega
    rw [e];exact ih (by omega)
theorem q5_{y no:R}(f:Nat->S)(p:Nat->Bool)(n:Nat)(hs: ∀k,k<n->p k=false->step (f k)=some (.inl (f (k+1))))(hy: ∀k,k<n->p k=true->step (f k)=some (.inr y))
    (hd:step (f n)=some (.inr no)):bC step (f 0)=some (bif (List.range n).any p then y else no):=by
  have:=za_ f p n hs hy hd 0 (by omega)
  simpa using this
theorem ra_{r:R}(f:Nat->S)(n:Nat)(hs: ∀k,k<n->step (f k)=some (.inl (f (k+1))))(hd:step (f n)=some (.inr r)):bC step (f 0)=some r:=yd_ f n hs hd 0 (by omega)
end
theorem xm_{α:Type}(l:List α)(d:α)(p:α->Bool):(List.range l.length).any (λi=>p (nth l i d))=l.any p:=by
  rw [Bool.eq_iff_iff,List.any_eq_true,List.any_eq_true]
  constructor
  · rintro ⟨i,hi,h⟩
    have hi:=List.mem_range.1 hi
    exact ⟨nth l i d,List.mem_of_getElem? (getD_some l hi d),h⟩
  rintro ⟨x,hx,h⟩
  obtain ⟨i,hi,rfl⟩:=List.getElem_of_mem hx
  refine ⟨i,List.mem_range.2 hi,?_⟩
  have:nth l i d=l[i]:=by have:=getD_some l hi d;rw [List.getElem?_eq_getElem hi]at this;exact (Option.some.inj this).symm
  rw [this];exact h
theorem yw{α:Type}(l:List α){k:Nat}(h:k<l.length)(d:α):l.take (k+1)=l.take k++[nth l k d]:=by
  rw [List.take_add_one,getD_some l h d];rfl
end Go.E
end

noncomputable section
namespace Go.Proofs.YtchebnpdnfhenaaGreatDoor
open Go Go.E Go.Sort
structure GoodCmp {α:Type} (c:α->α->Int):Prop where
  eq: ∀x y,c x y=0↔x=y
  anti: ∀x y,c x y<0↔0<c y x
  trans: ∀x y z,c x y<0->c y z<0->c x z<0
theorem GoodCmp.total{α:Type}{c:α->α->Int}(h:GoodCmp c):TotalCmp c where
  swo := {
    irrefl:=λx=>by have:=(h.eq x x).2 rfl;simp [ltOf,this]
    trans:=λx y z h1 h2=>by
      simp only [ltOf,lg]at *
      exact h.trans x y z h1 h2
    ntrans:=λx y z h1 h2=>by
      simp only [ltOf,decide_eq_false_iff_not]at *
      intro h3
      by_cases e1:x=y
      · subst e1;exact h2 h3
      by_cases e2:y=z
      · subst e2;exact h1 h3
      have n1:c x y≠0:=λe=>e1 ((h.eq _ _).1 e)
      have n2:c y z≠0:=λe=>e2 ((h.eq _ _).1 e)
      have h4:c z y<0:=(h.anti _ _).2 (by omega)
      exact h1 (h.trans _ _ _ h3 h4)}
  tot:=λx y h1 h2=>by
    simp only [ltOf,decide_eq_false_iff_not]at *
    refine (h.eq x y).1 ?_
    have:=(h.anti y x)
    omega
def qL(a b:Int):Int:=if a≠0 then a else b
theorem GoodCmp.lex {α β γ : Type} {c : β -> β -> Int} {d : γ -> γ -> Int} (hc : GoodCmp c) (hd : GoodCmp d) (f : α -> β) (g : α -> γ) (hfg : ∀ x y, f x = f y -> g x = g y -> x = y) : GoodCmp λx y => qL (c (f x) (f y)) (d (g x) (g y)) where
  eq x y:=by
    unfold qL
    by_cases h:c (f x) (f y)=0
    · have hf:=(hc.eq _ _).1 h
      simp only [h,ne_eq,not_true_eq_false,if_false,hd.eq]
      exact ⟨λhg=>hfg x y hf hg,λe=>by rw [e]⟩
    simp only [ne_eq,h,not_false_eq_true,if_true,false_iff]
    intro e;subst e;exact h ((hc.eq _ _).2 rfl)
  anti x y:=by
    unfold qL
    have h1:=hc.anti (f x) (f y)
    have h2:=hc.anti (f y) (f x)
    have h3:=hd.anti (g x) (g y)
    by_cases h:c (f x) (f y)=0
    · have hf:=(hc.eq _ _).1 h
      have h':c (f y) (f x)=0:=(hc.eq _ _).2 hf.symm
      simp only [h,h',ne_eq,not_true_eq_false,if_false];exact h3
    have h':c (f y) (f x)≠0:=λe=>h ((hc.eq _ _).2 ((hc.eq _ _).1 e).symm)
    simp only [h,h',ne_eq,not_false_eq_true,if_true];exact h1
  trans x y z := by
    unfold qL
    intro h1 h2
    by_cases a:c (f x) (f y)=0
    · have ea:=(hc.eq _ _).1 a
      rw [a]at h1;simp only [ne_eq,not_true_eq_false,if_false]at h1
      rw [ea]
      by_cases b:c (f y) (f z)=0
      · rw [b]at h2 ⊢
        simp only [ne_eq,not_true_eq_false,if_false]at h2 ⊢
        exact hd.trans _ _ _ h1 h2
      simp only [ne_eq,b,not_false_eq_true,if_true]at h2 ⊢;exact h2
    simp only [ne_eq,a,not_false_eq_true,if_true]at h1
    by_cases b:c (f y) (f z)=0
    · have eb:=(hc.eq _ _).1 b
      rw [<-eb]
      simp only [ne_eq,a,not_false_eq_true,if_true];exact h1
    simp only [ne_eq,b,not_false_eq_true,if_true]at h2
    have h3:=hc.trans _ _ _ h1 h2
    have h4:c (f x) (f z)≠0:=by omega
    simp only [ne_eq,h4,not_false_eq_true,if_true];exact h3
def Fg(x y:Int):Int:=if x<y then -1 else if y<x then 1 else 0
theorem ng_:GoodCmp Fg where
  eq x y:=by unfold Fg;(repeat' split)<;>omega
  anti x y:=by unfold Fg;(repeat' split)<;>omega
  trans x y z:=by unfold Fg;(repeat' split)<;>omega
def yt(x y:Nat):Int:=if x<y then -1 else if y<x then 1 else 0
theorem kc_:GoodCmp yt where
  eq x y:=by unfold yt;(repeat' split)<;>omega
  anti x y:=by unfold yt;(repeat' split)<;>omega
  trans x y z:=by unfold yt;(repeat' split)<;>omega
theorem wl_: ∀a b:T_1,Lib.compareBytes a b=0↔a=b
  |[],[]=>by simp [Lib.compareBytes]
  |[],_::_=>by simp [Lib.compareBytes]
  |_::_,[]=>by simp [Lib.compareBytes]
  |x::a,y::b=>by
    simp only [Lib.compareBytes]
    split
    · rename_i h;simp;intro e;subst e;exact absurd h (UInt8.lt_irrefl _)
    rename_i h
    split
    · rename_i h';simp;intro e;subst e;exact absurd h' (UInt8.lt_irrefl _)
    rename_i h'
    have:x=y:=UInt8.le_antisymm (UInt8.not_lt.1 h') (UInt8.not_lt.1 h)
    subst this
    simp [wl_ a b]
theorem r7_: ∀a b:T_1,Lib.compareBytes a b<0↔0<Lib.compareBytes b a
  |[],[]=>by simp [Lib.compareBytes]
  |[],_::_=>by simp [Lib.compareBytes]
  |_::_,[]=>by simp [Lib.compareBytes]
  | x :: a, y :: b => by
    simp only [Lib.compareBytes]
    by_cases h:x<y
    · have h': ¬ y<x:=λh2=>UInt8.lt_irrefl _ (UInt8.lt_trans h h2)
      simp [h,h']
    by_cases h':y<x
    · simp [h,h']
    simp [h,h',r7_ a b]
theorem pa_: ∀a b c:T_1,Lib.compareBytes a b<0->Lib.compareBytes b c<0->Lib.compareBytes a c<0
  |[],[],c,h,_=>by simp [Lib.compareBytes]at h
  |[],_::_,[],_,h=>by simp [Lib.compareBytes]at h
  |[],_::_,_::_,_,_=>by simp [Lib.compareBytes]
  |_::_,[],c,h,_=>by simp [Lib.compareBytes]at h
  |_::_,_::_,[],_,h=>by simp [Lib.compareBytes]at h
  | x :: a, y :: b, z :: c, h1, h2 => by
    simp only [Lib.compareBytes]at *
    by_cases hxy:x<y
    · by_cases hyz:y<z
      · have:=UInt8.lt_trans hxy hyz;simp [this]
      by_cases hzy:z<y
      · simp [hyz,hzy]at h2
      have:y=z:=UInt8.le_antisymm (UInt8.not_lt.1 hzy) (UInt8.not_lt.1 hyz)
      subst this;simp [hxy]
    by_cases hyx:y<x
    · simp [hxy,hyx]at h1
    have:x=y:=UInt8.le_antisymm (UInt8.not_lt.1 hyx) (UInt8.not_lt.1 hxy)
    subst this
    simp only [UInt8.lt_irrefl,if_false]at h1
    by_cases hyz:x<z
    · simp [hyz]
    by_cases hzy:z<x
    · simp [hyz,hzy]at h2
    simp only [hyz,hzy,if_false]at h2 ⊢
    exact pa_ a b c h1 h2
theorem kg_:GoodCmp Lib.compareBytes:=⟨wl_,r7_,pa_⟩
def s7_(x y:Bool):Int:=Fg (if x then 1 else 0) (if y then 1 else 0)
theorem qy_:GoodCmp s7_ where
  eq x y:=by cases x<;>cases y<;>decide
  anti x y:=by cases x<;>cases y<;>decide
  trans x y z:=by cases x<;>cases y<;>cases z<;>decide
theorem Wj{k n:Nat}(h:k<n):decide (((k:Nat):Int)<((n:Nat):Int))=true:=decide_eq_true (by omega)
theorem Dv_(x y:Int):Qm x y=some (Fg x y):=by
  unfold Qm Ft_ Fg
  simp only [bnd,Option.bind_some,ne_eq,not_true_eq_false,decide_false,iteO_false]
  by_cases h:x<y
  · simp [h]
  by_cases h':y<x<;>simp [h,h']
theorem n3_(x y:Nat):ka_ x y=some (yt x y):=by
  unfold ka_ q9_ yt
  simp only [bnd,Option.bind_some,ne_eq,not_true_eq_false,decide_false,iteO_false]
  by_cases h:x<y
  · simp [h]
  by_cases h':y<x<;>simp [h,h']
theorem Fs_(x y:T_1):Ds_ x y=some (Lib.compareBytes x y):=rfl
def orL:ak->Int
  |[]=>0
  |a::l=>qL a (orL l)
theorem H7_(l:ak): ∀m k,l.length=k+m->bC (λq:Nat=>Vf l q) k=some (orL (l.drop k)):=by
  intro m
  induction m with
  |zero=>
    intro k hk
    refine zn ?_
    rw [List.drop_of_length_le (by omega)]
    simp only [Vf,decide_eq_false (show ¬ ((k:Nat):Int)<((l.length:Nat):Int) by omega),iteO_false];rfl
  |succ m ih=>
    intro k hk
    have hlt:k<l.length:=by omega
    have hd:l.drop k=nth l k 0::l.drop (k+1):=by
      rw [List.drop_eq_getElem_cons hlt]
      have:=getD_some l hlt 0
      rw [List.getElem?_eq_getElem hlt,Option.some.injEq]at this
      rw [this]
    rw [hd,orL,qL]
    by_cases h:nth l k 0≠0
    · rw [if_pos h]
      refine zn ?_
      simp only [Vf,decide_eq_true (show ((k:Nat):Int)<((l.length:Nat):Int) by omega),iteO_true,decide_eq_true h];rfl
    rw [if_neg h]
    refine Iu (s':=k+1) ?_ (ih (k+1) (by omega))
    simp only [Vf,decide_eq_true (show ((k:Nat):Int)<((l.length:Nat):Int) by omega),iteO_true,decide_eq_false h];rfl
theorem G3_(l:ak):Zp l=some (orL l):=by
  unfold Zp;rw [H7_ l l.length 0 (by omega),List.drop_zero]
def nG(x y:Tip):Int:=qL (Fg x.state y.state) (qL (Lib.compareBytes x.out y.out) 0)
theorem os_(x y:Tip):Ef_ x y=some (nG x y):=by
  unfold Ef_
  rw [yH (Dv_ _ _),yH (Fs_ _ _),yH (G3_ _)];rfl
theorem n8_(a:Int):qL a 0=a:=by unfold qL;split<;>omega
theorem Pv:GoodCmp nG:=by
  have:=GoodCmp.lex ng_ kg_ Tip.state Tip.out (λx y h1 h2=>by cases x;cases y;simp_all)
  have e:nG=λx y=>qL (Fg x.state y.state) (Lib.compareBytes x.out y.out):=by
    funext x y;unfold nG;rw [n8_]
  rw [e];exact this
def wz_(s t:BSet):Int:=qL (yt s.a t.a) (qL (yt s.b t.b) (qL (yt s.c t.c) (yt s.d t.d)))
theorem om_(a b c d a' b' c' d':Nat):kj_ [a,b,c,d] [a',b',c',d']=some (qL (yt a a') (qL (yt b b') (qL (yt c c') (yt d d')))):=by
  have st: ∀(k x y:Nat),k<4->nth [a,b,c,d] k 0=x->nth [a',b',c',d'] k 0=y->(yt x y≠0->bC (λq:Nat=>H6 [a,b,c,d] [a',b',c',d'] q) k=some (yt x y))/\(∀r,yt x y=0->bC (λq:Nat=>H6 [a,b,c,d] [a',b',c',d'] q) (k+1)=some r->bC (λq:Nat=>H6 [a,b,c,d] [a',b',c',d'] q) k=some r):=by
    intro k x y hk hx hy
    have e1:((k:Nat):Int)<(([a,b,c,d].length:Nat):Int):=by simp;omega
    have e2: ¬ (([a',b',c',d'].length:Nat):Int)<=((k:Nat):Int):=by simp;omega
    refine ⟨λh=>zn ?_,λr h hr=>Iu (s':=k+1) ?_ hr⟩
    · simp only [H6,decide_eq_true e1,iteO_true,decide_eq_false e2,iteO_false]
      rw [aH (by simp;omega),hx,hy,yH (n3_ _ _),decide_eq_true h];rfl
    simp only [H6,decide_eq_true e1,iteO_true,decide_eq_false e2,iteO_false]
    rw [aH (by simp;omega),hx,hy,yH (n3_ _ _),h];rfl
  have fi:bC (λq:Nat=>H6 [a,b,c,d] [a',b',c',d'] q) 4=some 0:=zn (by simp [H6])
  have go: ∀(k x y:Nat) (r:Int),k<4->nth [a,b,c,d] k 0=x->nth [a',b',c',d'] k 0=y->bC (λq:Nat=>H6 [a,b,c,d] [a',b',c',d'] q) (k+1)=some r->bC (λq:Nat=>H6 [a,b,c,d] [a',b',c',d'] q) k=some (qL (yt x y) r):=by
    intro k x y r hk hx hy hr
    obtain ⟨h1,h2⟩:=st k x y hk hx hy
    by_cases h:yt x y=0
    · rw [show qL (yt x y) r=r from by simp [qL,h]];exact h2 r h hr
    rw [show qL (yt x y) r=yt x y from by simp [qL,h]];exact h1 h
  have h3:=go 3 d d' 0 (by omega) rfl rfl fi
  rw [n8_]at h3
  exact go 0 a a' _ (by omega) rfl rfl (go 1 b b' _ (by omega) rfl rfl (go 2 c c' _ (by omega) rfl rfl h3))
theorem ss_:GoodCmp wz_:=by
  have h1:=GoodCmp.lex (α:=Nat×Nat) kc_ kc_ Prod.fst Prod.snd (λx y h1 h2=>Prod.ext h1 h2)
  have h2:=GoodCmp.lex (α:=Nat×Nat×Nat) kc_ h1 Prod.fst Prod.snd (λx y h1 h2=>Prod.ext h1 h2)
  have h3:=GoodCmp.lex (α:=BSet) kc_ h2 BSet.a (λs=>(s.b,s.c,s.d)) (λx y h1 h2=>by
    cases x;cases y;simp_all)
  exact h3
def Nb(x y:Arc):Int:=qL (Fg x.frm y.frm) (qL (Fg x.to y.to) (qL (wz_ x.set y.set) (qL (Lib.compareBytes x.out y.out) (qL (s7_ x.copy y.copy) 0))))
theorem Gt_(b:Bool):Ff_ b=some (if b then 1 else 0):=by cases b<;>rfl
theorem oq_(x y:Arc):Eh_ x y=some (Nb x y):=by
  unfold Eh_
  rw [yH (Dv_ _ _),yH (Dv_ _ _),yH (om_ ..),yH (Fs_ _ _),yH (Gt_ _),yH (Gt_ _),yH (Dv_ _ _),yH (G3_ _)];rfl
theorem m7_:GoodCmp Nb:=by
  have h1:=GoodCmp.lex (α:=T_1×Bool) kg_ qy_ Prod.fst Prod.snd (λx y h1 h2=>Prod.ext h1 h2)
  have h2:=GoodCmp.lex (α:=BSet×T_1×Bool) ss_ h1 Prod.fst Prod.snd (λx y h1 h2=>Prod.ext h1 h2)
  have h3:=GoodCmp.lex (α:=Int×BSet×T_1×Bool) ng_ h2 Prod.fst Prod.snd (λx y h1 h2=>Prod.ext h1 h2)
  have h4:=GoodCmp.lex (α:=Arc) ng_ h3 Arc.frm (λs=>(s.to,s.set,s.out,s.copy)) (λx y h1 h2=>by
    cases x;cases y;simp_all)
  have e:Nb=λx y=>qL (Fg x.frm y.frm) (qL (Fg x.to y.to) (qL (wz_ x.set y.set) (qL (Lib.compareBytes x.out y.out) (s7_ x.copy y.copy)))):=by
    funext x y;unfold Nb;rw [n8_]
  rw [e];exact h4
end Go.Proofs.YtchebnpdnfhenaaGreatDoor
end

noncomputable section
namespace Go.Proofs.YtchebnpdnfhenaaGreatDoor
open Go Go.E
instance:Inhabited Tip:=⟨aG⟩
instance:Inhabited Arc:=⟨aZ⟩
theorem Ik_{σ:aj}{a:Option Addr}{c:Nat}{l:List Tip}:Con Tryz.prog 124 #[.slice a l.length c,.func (.func 96) #[] #[]] σ [φ 76 2 dD (.slice a l.length c) l] (wy_ 76 2 dD a c l (rY nG l) σ):=
  Con.sortK (k:=2) layT0 rfl Tryz.isAgg76 Tryz.sizeOf76 gQ Px Pv.total (λargs w=>U8 (by kernel_rfl) args w) (λx y τ=>Gx_ (os_ x y))
theorem In_{σ:aj}{a:Option Addr}{c:Nat}{l:List Arc}:Con Tryz.prog 137 #[.slice a l.length c,.func (.func 98) #[] #[]] σ [φ 66 8 kC (.slice a l.length c) l] (wy_ 66 8 kC a c l (rY Nb l) σ):=
  Con.sortK (k:=8) layA0 rfl Tryz.isAgg66 Tryz.sizeOf66 vV YG m7_.total (λargs w=>U8 (by kernel_rfl) args w) (λx y τ=>Gy_ (oq_ x y))
end Go.Proofs.YtchebnpdnfhenaaGreatDoor
end

noncomputable section
namespace Go.E
open Go
section
variable {β:Type} {E' E size:Nat} {enc:β->List Value} {v:Value}
theorem va_{σ:aj}{H:List Res}{q i:Nat}{z:List (NP β)}(hq:H[q]? =some (Res.cw_ E' E size enc v z i))(w:World)(h:jS σ H w):jS σ [φ E' 1 o8 v z] w:=
  ⟨h.1,λr hr=>by
    simp at hr;subst hr
    exact h.2 _ (List.mem_of_getElem? hq) _ (ji ..)⟩
theorem Nj{σ:aj}{H:List Res}{q i:Nat}{z:List (NP β)}{l:List (List β)}(hq:H[q]? =some (Res.cw_ E' E size enc v z i))(hZ:Zn z l)(w:World)(h:jS σ H w):wF v l.length/\l.length<=281474976710656:=by
  have:=nb_ (H:=H) (va_ hq w h)
  rw [hZ.len]at this;exact this
end
theorem TC.PS{X:Ctx}{Q:QP}{id:Nat}{ops:Array Oper}{e:Env}{σ:aj}{H Hr:List Res}(hs: ∀r∈Hr,r∈H)(late:List Nat)(hm:X.P.follows .mixedOrders=true)(h:TA X ops Q σ Hr late ops.size (Array.replicate ops.size false) e σ H)(hnd:qv_ ops=true:=by kernel_rfl):TC X Q (.region id ops true) e σ H:=λw a hw ha=>
  Go.wpIn_mono (wpIn_region_any hm (i0_ _ _ _ _ (h (pn_ hnd) w.drew a hw.drew (rP (aj.le.refl _) hs _ hw.drew.sees) (mg_ _ _) ha))) λex a w h=>by
    cases ex<;>first|exact h|exact h.elim
section
variable {P:Program} {n:Nat} {e:Env} {σ:aj} {H:List Res} {o:Oper} {x y:Operand} {T T':TypeId} {k:IntKind} {a b:Int}
end
theorem i9_: ∀l m:List UInt8,Op.bytesLess l m=decide (Lib.compareBytes l m<0)
  |[],[]=>by simp [Op.bytesLess,Lib.compareBytes]
  |_::_,[]=>by simp [Op.bytesLess,Lib.compareBytes]
  |[],_::_=>by simp [Op.bytesLess,Lib.compareBytes]
  | a :: x, b :: y => by
    simp only [Op.bytesLess,Lib.compareBytes,i9_ x y]
    by_cases h:a<b
    · simp [h]
    by_cases h':b<a
    · have: ¬ a=b:=λe=>by subst e;exact h h'
      simp [h,h',this]
    have:a=b:=UInt8.le_antisymm (UInt8.not_lt.1 h') (UInt8.not_lt.1 h)
    subst this
    simp [h]
theorem OpVal.lssBs{P:Program}{n:Nat}{e:Env}{σ:aj}{H:List Res}{o:Oper}{x y:Operand}{l m:List UInt8}{T T':TypeId}(ho:o.op= .binOp .lss T x y T')(hx:ev e x= .string (bs l))(hy:ev e y= .string (bs m)):OpVal P n o e σ H (.bool (decide (Lib.compareBytes l m<0))):=λw _=>by
  simp only [execOp,ho,hx,hy,Sem.run_bind,f6_,Result.andThen_ok,binOp,Op.stringOp,ByteArray.toList_eq,ZO,i9_,Sem.run_pure]
end Go.E
end

noncomputable section
namespace Go.Proofs.YtchebnpdnfhenaaGreatDoor
open Go Go.E Go.E.OpVal Go.E.OpOk Go.Proofs.Tryz
open List (replicate)
theorem Io:aggOf Tryz.prog 25=some true:=by kernel_rfl
theorem PN:byOf Tryz.prog 66=some 72:=by kernel_rfl
theorem PL:byOf Tryz.prog 76=some 24:=by kernel_rfl
theorem eg66:Tryz.prog.eqGuardType Tryz.prog.depth 66=false:=by kernel_rfl
theorem eg76:Tryz.prog.eqGuardType Tryz.prog.depth 76=false:=by kernel_rfl
theorem es66(x y:Arc):Go.E.EqAt Tryz.prog 3 66 (.agg (kC x).toArray) (.agg (kC y).toArray) (decide (x=y)):=
 (EqAt.struct (ts:=[(false,3,0),(false,3,1),(false,64,2),(false,9,6),(false,4,7)]) (by kernel_rfl) (by kernel_rfl) (by kernel_rfl) (EqC.one (by kernel_rfl) rfl rfl (EqAt.int underlying3 x.frm y.frm |>.up (by decide)) (EqC.one (by kernel_rfl) rfl rfl (EqAt.int underlying3 x.to y.to |>.up (by decide)) (EqC.agg (s:=4) (us:=Go.E.setA x.set) (vs:=Go.E.setA y.set) (by kernel_rfl) (by kernel_rfl) rfl rfl (EqAt.set underlying64 underlying62 (by kernel_rfl) (by kernel_rfl) x.set y.set) (EqC.one (by kernel_rfl) rfl rfl (EqAt.str kG x.out y.out |>.up (by decide)) (EqC.one (by kernel_rfl) rfl rfl (EqAt.bool underlying4 x.copy y.copy |>.up (by decide)) EqC.nil)))))).of (by rw [Bool.eq_iff_iff];cases x;cases y;simp)
theorem es76(x y:Tip):Go.E.EqAt Tryz.prog 2 76 (.agg (dD x).toArray) (.agg (dD y).toArray) (decide (x=y)):=
 (EqAt.struct (ts:=[(false,3,0),(false,9,1)]) (by kernel_rfl) (by kernel_rfl) (by kernel_rfl) (EqC.one (by kernel_rfl) rfl rfl (EqAt.int underlying3 x.state y.state) (EqC.one (by kernel_rfl) rfl rfl (EqAt.str kG x.out y.out) EqC.nil))).of (by rw [Bool.eq_iff_iff];cases x;cases y;simp)
theorem SL:plainF Tryz.prog 124=true:=by kernel_rfl
theorem SK:plainF Tryz.prog 126=true:=by kernel_rfl
theorem pf136:plainF Tryz.prog 136=true:=by kernel_rfl
theorem pf137:plainF Tryz.prog 137=true:=by kernel_rfl
theorem pf138:plainF Tryz.prog 138=true:=by kernel_rfl
theorem V_:plainF Tryz.prog 43=true:=by kernel_rfl
theorem pf88:plainF Tryz.prog 88=true:=by kernel_rfl
theorem pf95:plainF Tryz.prog 95=true:=by kernel_rfl
theorem pf97:plainF Tryz.prog 97=true:=by kernel_rfl
theorem Ol:plOf Tryz.prog 25=some #[(0,1),(1,1),(2,1),(3,1)]:=by kernel_rfl
theorem Ar:szOf Tryz.prog 25=some 4:=by kernel_rfl
theorem RI:zeroOf Tryz.prog 25=some (.agg #[.int .i64 0,bM,bM,bM]):=by kernel_rfl
theorem Hj_{σ:aj}{a:Option Addr}{c:Nat}{l:List Tip}(hl:RS σ 2 dD (.slice a l.length c) l)(hsz:l.length * 24<=140737488355328):
  Con prog 88 #[.slice a l.length c] σ [] (RowP 76 2 dD l σ):=by
 have hb:=hl.rv.big
 refine Con.mk (n:=8) Tryz.func88 z z z (λw0=> ?_)
 refine ξ (Ξ z z (TL.nilS 76 2 dD (ε (θ (ξ (Ξ z z (ω z (cd_ z kS z z) (ε (TC.cond z (λh2=> ?_) (λh2=> ?_))))))))))
 ·refine ξ (Ξ z z (TL.nilS 76 2 dD (ε (TC.ret (S.r ?_)))))
  cases a with
  |some _=>simp at h2
  |none=>
   obtain rfl:=hl.b8_
   exact yu_ z z
 refine ι (S.n (ξ (ν z (O5 (enc:=dD) z z kS jQ z z (λa4 c5=> ?_)))))
 refine Ξ z z (ν z (as_ z z kS jQ PL vC z z (by decide) z z z (.inl hl) (by simpa using hsz) (by decide) (λa7 c8=> ?_)))
 exact Ξ z z (ε (TC.ret (yu_ z z)))
def Fp_(aX:Nat)(zG:List Tip)(eU:Nat):Option (((List Tip)×Nat×Nat)⊕((Nat)⊕((List Tip)))):=
 nxt (zG,eU,(aX+1))
def Fl_(x0:List Tip)(bK:Nat)(aJ:List Tip)(bP:Nat)(aX:Nat):Option (((List Tip)×Nat×Nat)⊕((Nat)⊕((List Tip)))):=
 aQ (decide ((aX:Int)<(((x0.length - bK):Nat):Int))) (grd (aX<(x0.length - bK)) (grd (0<=(IntKind.i64.wrap ((aX:Int) - 1))/\(IntKind.i64.wrap ((aX:Int) - 1))<((x0.length - bK):Nat)) (aQ (decide (¬ ((nth aJ (bK+aX) aG)=(nth aJ (bK+(IntKind.i64.wrap ((aX:Int) - 1)).toNat) aG)))) (grd (aX<(x0.length - bK)) (grd (bP<aJ.length) (Fp_ aX (aJ.set bP (nth aJ (bK+aX) aG)) (bP+1)))) (Fp_ aX aJ bP)))) (fin (grd (bP<=x0.length) (grd (bP<=(aJ.take bP++replicate (aJ.length - bP) aG).length) (fin (some ((aJ.take bP++replicate (aJ.length - bP) aG).take bP))))))
def Fk_(x0:List Tip)(bK:Nat):Option ((Nat)⊕((List Tip))):=
 aQ (decide ((bK:Int)<((x0.length:Nat):Int))) (grd (0<=(IntKind.i64.wrap ((bK:Int) - 1))/\(IntKind.i64.wrap ((bK:Int) - 1))<(x0.length:Int)) (aQ (decide ((nth x0 bK aG)=(nth x0 ((IntKind.i64.wrap ((bK:Int) - 1)).toNat) aG))) (grd (bK<=x0.length) (bC (λq:(List Tip)×Nat×Nat=>Fl_ x0 bK q.1 q.2.1 q.2.2) (x0,bK,1))) (nxt (bK+1)))) (fin (some x0))
def ZT(x0:List Tip):Option ((List Tip)):=
 aQ (decide (((x0.length:Nat):Int)<2)) (some x0) (bC (λq:Nat=>Fk_ x0 q) 1)
theorem G7_{σ:aj}{x0:List Tip}{r:(List Tip)}(hh:ZT x0=some r):
  Con prog 126 #[.slice aA x0.length ay] σ [φ 76 2 dD (.slice aA x0.length ay) x0] (λv σ' H'=> ∃a1 c1,v= .slice a1 r.length c1/\σ=σ'/\H'=[φ 76 2 dD (.slice a1 r.length c1) r]):=by
 dsimp only [ZT]at hh
 refine Con.mk (n:=61) Tryz.func126 z z z (λw0=> ?_)
 refine ξ (Ξ z z (ε (θ (ξ (Ξ z z (ω z (lenC z kS z) (ω z (OpVal.lss z z z) (ε (TC.cD z hh (λxP hh=> ?_) (λxP hh=> ?_))))))))))
 ·refine ξ (Ξ z z (Ξ z z (ε (TC.ret (S.r ?_)))))
  obtain rfl:=so hh
  exact ro [φ 76 2 dD (.slice aA x0.length ay) x0] z (RVs.tmp z RVs.nil) ⟨aA,ay,z,z,z⟩
 refine ι (S.n (θ (ξ (ψ z z (ε (υ (TC.iE (α:=(Nat)×(Unit)) (rgs [(2,4),(10,50)]) (λg=>[(3,.int .i64 ((g.1:Nat):Int))]) (λg=>[φ 76 2 dD (.slice aA x0.length ay) x0]) (λg=>σ) (λg=>bC (λq:Nat=>Fk_ x0 q) g.1=some r) (λg=>fZ (λq:Nat=>Fk_ x0 q) g.1) (1,()) (Sub.pre 1 z) z (by repeat (first|exact trivial|refine ⟨z,?_⟩)) hh (λg1 j1 hg1=> ?_))))))))
 obtain ⟨bK,_⟩:=g1
 have hh:=hg1;clear hg1
 try dsimp only
 obtain ⟨z1,hh,hR1⟩:=iq hh
 dsimp only [Fk_]at hh
 refine χ (i:=0) z (λ_ hb106 _=> ?_)
 refine θ (ξ (ψ z z (Ξ z z (ω z (lenC z kS z) (ω z (OpVal.lss z z z) (ε (TC.cD z hh (λdP hh=> ?_) (λdP hh=> ?_))))))))
 ·refine ι (S.n (θ (υ (θ ?_))))
  obtain ⟨yh,hh⟩:=aP hh
  refine TC.draw [] (by kernel_rfl) (TA.a 0 z (gK (.inl z) z) z (TA.a 1 z (cO (.inl z) z) z (TA.isSl (i:=0) z (λBA _ _=> ?_))))
  refine TA.b 2 z (bT z kS jQ z z BA (by omega)) z (TA.b 3 z (LW aG z DC jQ z (q:=0) z gQ (by omega) (by omega)) z (TA.a 4 z (gK (.inl z) z) z (TA.a 5 z (cO (.inl z) z) z (TA.a 6 z (subW z z z) z (TA.isSl (i:=0) z (λJW _ _=> ?_))))))
  refine TA.b 7 z (OpVal.index z kS jQ z z JW yh.1 yh.2) z (TA.b 8 z (LW aG z DC jQ z (q:=0) z gQ (by omega) (by omega)) z (TA.a 9 z (eqlSt (p:=(nth x0 bK aG)=(nth x0 ((IntKind.i64.wrap ((bK:Int) - 1)).toNat) aG)) z z z eg76 (es76 (nth x0 bK aG) (nth x0 ((IntKind.i64.wrap ((bK:Int) - 1)).toNat) aG)) z) z (TA.dn (S.n (TC.cD z hh (λh112 hh=> ?_) (λh112 hh=> ?_))))))
  ·refine ξ (Ξ z z (ψ z z ?_))
   obtain ⟨u24,hh⟩:=aP hh
   refine TL.isSl (i:=0) z (λJV _ _=> ?_)
   obtain ⟨a113,c113,hv113,J6⟩:=y2_ (k:=bK) (size:=2) JV (by omega)
   refine ω z (J6 z kS jQ z z) (Ξ z z (ε (θ (ξ (ψ z z (ε (υ (TC.iE (α:=((List Tip)×Nat×Nat)×(Unit)) (rgs [(3,1),(5,1),(29,25)]) (λg=>[(3,.int .i64 ((g.1.2.1:Nat):Int)),(5,.int .i64 ((g.1.2.2:Nat):Int))]) (λg=>[φ 76 2 dD (.slice aA x0.length ay) g.1.1]) (λg=>σ) (λg=>bC (λq:(List Tip)×Nat×Nat=>Fl_ x0 bK q.1 q.2.1 q.2.2) g.1=some z1/\g.1.1.length=x0.length) (λg=>fZ (λq:(List Tip)×Nat×Nat=>Fl_ x0 bK q.1 q.2.1 q.2.2) g.1) ((x0,bK,1),()) (Sub.pre 1 z) z (by repeat (first|exact trivial|refine ⟨z,?_⟩)) ⟨hh,z⟩ (λg2 j2 hg2=> ?_)))))))))
   obtain ⟨⟨aJ,bP,aX⟩,_⟩:=g2
   obtain ⟨hh,fV⟩:=hg2
   try dsimp only at fV ⊢
   obtain ⟨z2,hh,hR2⟩:=iq hh
   dsimp only [Fl_]at hh
   refine χ (i:=0) z (λ_ Df _=> ?_)
   refine θ (ξ (ψ z z (Ξ z z (ω z (lenC z kS z) (ω z (OpVal.lss z z z) (ε (TC.cD z hh (λh127 hh=> ?_) (λh127 hh=> ?_))))))))
   ·refine ι (S.n (TC.cutG (α:=((List Tip)×Nat)×(Unit)) (rgs [(3,1),(35,19)]) (λg=>[(3,.int .i64 ((g.1.2:Nat):Int))]) (λg=>[φ 76 2 dD (.slice aA x0.length ay) g.1.1]) (λg=>σ) (λg=>Fp_ aX g.1.1 g.1.2=some z2/\g.1.1.length=x0.length) ?_ (λg j hg=> ?_)))
    ·skip
     refine υ (θ ?_)
     obtain ⟨u33,hh⟩:=aP hh
     obtain ⟨u38,hh⟩:=aP hh
     refine TC.draw [] (by kernel_rfl) (TA.a 0 z (gK (.inl z) z) z (TA.a 1 z (cO (.inl z) z) z (TA.b 2 z (elVw hv113 (by omega) (bT z kS jQ z z hv113.sl (by omega))) z (TA.b 3 z (LW aG z DC jQ z (q:=0) z gQ (by omega) (by omega)) z (TA.a 4 z (gK (.inl z) z) z (TA.a 5 z (cO (.inl z) z) z (TA.a 6 z (subW z z z) z (TA.b 7 z (elVw hv113 (by omega) (OpVal.index z kS jQ z z hv113.sl u38.1 u38.2)) z (TA.b 8 z (LW aG z DC jQ z (q:=0) z gQ (by omega) (by omega)) z (TA.a 9 z (neqSt (p:=(nth aJ (bK+aX) aG)=(nth aJ (bK+(IntKind.i64.wrap ((aX:Int) - 1)).toNat) aG)) z z z eg76 (es76 (nth aJ (bK+aX) aG) (nth aJ (bK+(IntKind.i64.wrap ((aX:Int) - 1)).toNat) aG)) z) z (TA.dn (S.n (TC.cD z hh (λLm hh=> ?_) (λLm hh=> ?_))))))))))))))
     ·refine ξ (Ξ z z (ψ z z (Ξ z z (ψ z z ?_))))
      obtain ⟨u45,hh⟩:=aP hh
      refine ω z (elVw hv113 (by omega) (bT z kS jQ z z hv113.sl (by omega))) (ω z (LW aG z DC jQ z (q:=0) z gQ (by omega) (by omega)) ?_)
      obtain ⟨MQ,hh⟩:=aP hh
      refine TL.isSl (i:=0) z (λBz _ _=> ?_)
      refine ω z (bT z kS jQ z z Bz (by omega)) ?_
      have BR:(aJ.set bP (nth aJ (bK+aX) aG)).length=x0.length:=by rw [fQ];exact fV
      refine ν z (lF (nth aJ (bK+aX) aG) z jQ z z z z gQ Px (by omega) (by omega) ?_)
      exact ε (η (ψ z z (ω z (OpVal.succ z z z (by omega)) (ψ z z (TL.nil (B.n (S.n (cf (((aJ.set bP (nth aJ (bK+aX) aG)),(bP+1)),()) ⟨hh,BR⟩ (Sub.pre 1 z)))))))))
     exact ι (B.n (S.n (cf ((aJ,bP),()) ⟨hh,fV⟩ (Sub.pre 1 z))))
    skip
    obtain ⟨⟨zG,eU⟩,_⟩:=g
    obtain ⟨hh,BX⟩:=hg
    try dsimp only at BX ⊢
    dsimp only [Fp_]at hh
    refine χ (i:=0) z (λ_ U6 _=> ?_)
    refine η (ψ z z (ω z (OpVal.succ z z z (by omega)) (ψ z z (ε ?_))))
    obtain ⟨hh,D8⟩:=dL hR2 hh
    exact lf ((zG,eU,(aX+1)),()) D8 ⟨hh,BX⟩ (Sub.pre 1 z)
   refine TC.exit (S.x (S.x ?_))
   replace hh:=dI hR2 hh
   refine Δ (S.n (ξ (Ξ z z (ψ z z ?_))))
   obtain ⟨u57,hh⟩:=aP hh
   refine TL.isSl (i:=0) z (λBq _ _=> ?_)
   rw [fV]at Bq
   obtain ⟨a136,vO,JF,J5⟩:=y2_ (k:=bP) (size:=2) Bq (by omega)
   refine ω z (J5 z kS jQ z z) ?_
   have Ku:(aJ.take bP++replicate (aJ.length - bP) aG).length=x0.length:=by simp only [fU,List.length_take,rU];try simp only [rU]at *;omega
   refine ν z (db_ (k:=bP) aG z kS vC z z JF (by omega) (by omega) gQ (by decide) z Px ?_)
   refine ε (ξ (Ξ z z (ψ z z ?_)))
   rw [<-Ku]
   obtain ⟨u61,hh⟩:=aP hh
   refine ν z (cutS z kS jQ z z z z z (by omega) gQ ?_)
   refine Ξ z z (ε (TC.ret (B.r (S.r (S.r ?_)))))
   replace hh:=dI hR1 hh
   refine B.r (S.r ?_)
   obtain rfl:=so hh
   exact ro [φ 76 2 dD (.slice aA ((aJ.take bP++replicate (aJ.length - bP) aG).take bP).length ay) ((aJ.take bP++replicate (aJ.length - bP) aG).take bP)] z (RVs.tmp z RVs.nil) ⟨aA,ay,z,z,z⟩
  refine ι (B.n (S.n (η (ψ z z (ω z (OpVal.succ z z z (by omega)) (ψ z z (ε ?_)))))))
  obtain ⟨hh,qY⟩:=dL hR1 hh
  exact lf ((bK+1),()) qY hh (Sub.pre 1 z)
 refine TC.exit (S.x (S.x ?_))
 replace hh:=dI hR1 hh
 refine Δ (S.n (ξ (Ξ z z (Ξ z z (ε (TC.ret ?_))))))
 obtain rfl:=so hh
 exact ro [φ 76 2 dD (.slice aA x0.length ay) x0] z (RVs.tmp z RVs.nil) ⟨aA,ay,z,z,z⟩
theorem Ig_{σ:aj}{a:Option Addr}{c:Nat}{l:List Arc}(hl:RS σ 8 kC (.slice a l.length c) l)(hsz:l.length * 72<=140737488355328):
  Con prog 136 #[.slice a l.length c] σ [] (RowP 66 8 kC l σ):=by
 have hb:=hl.rv.big
 refine Con.mk (n:=8) Tryz.func136 z z z (λw0=> ?_)
 refine ξ (Ξ z z (TL.nilS 66 8 kC (ε (θ (ξ (Ξ z z (ω z (cd_ z qw z z) (ε (TC.cond z (λh2=> ?_) (λh2=> ?_))))))))))
 ·refine ξ (Ξ z z (TL.nilS 66 8 kC (ε (TC.ret (S.r ?_)))))
  cases a with
  |some _=>simp at h2
  |none=>
   obtain rfl:=hl.b8_
   exact yu_ z z
 refine ι (S.n (ξ (ν z (O5 (enc:=kC) z z qw nY z z (λa4 c5=> ?_)))))
 refine Ξ z z (ν z (as_ z z qw nY PN Au z z (by decide) z z z (.inl hl) (by simpa using hsz) (by decide) (λa7 c8=> ?_)))
 exact Ξ z z (ε (TC.ret (yu_ z z)))
def Fq_(aX:Nat)(zG:List Arc)(eU:Nat):Option (((List Arc)×Nat×Nat)⊕((Nat)⊕((List Arc)))):=
 nxt (zG,eU,(aX+1))
def Fn_(x0:List Arc)(bK:Nat)(aJ:List Arc)(bP:Nat)(aX:Nat):Option (((List Arc)×Nat×Nat)⊕((Nat)⊕((List Arc)))):=
 aQ (decide ((aX:Int)<(((x0.length - bK):Nat):Int))) (grd (aX<(x0.length - bK)) (grd (0<=(IntKind.i64.wrap ((aX:Int) - 1))/\(IntKind.i64.wrap ((aX:Int) - 1))<((x0.length - bK):Nat)) (aQ (decide (¬ ((nth aJ (bK+aX) aZ)=(nth aJ (bK+(IntKind.i64.wrap ((aX:Int) - 1)).toNat) aZ)))) (grd (aX<(x0.length - bK)) (grd (bP<aJ.length) (Fq_ aX (aJ.set bP (nth aJ (bK+aX) aZ)) (bP+1)))) (Fq_ aX aJ bP)))) (fin (grd (bP<=x0.length) (grd (bP<=(aJ.take bP++replicate (aJ.length - bP) aZ).length) (fin (some ((aJ.take bP++replicate (aJ.length - bP) aZ).take bP))))))
def Fj_(x0:List Arc)(bK:Nat):Option ((Nat)⊕((List Arc))):=
 aQ (decide ((bK:Int)<((x0.length:Nat):Int))) (grd (0<=(IntKind.i64.wrap ((bK:Int) - 1))/\(IntKind.i64.wrap ((bK:Int) - 1))<(x0.length:Int)) (aQ (decide ((nth x0 bK aZ)=(nth x0 ((IntKind.i64.wrap ((bK:Int) - 1)).toNat) aZ))) (grd (bK<=x0.length) (bC (λq:(List Arc)×Nat×Nat=>Fn_ x0 bK q.1 q.2.1 q.2.2) (x0,bK,1))) (nxt (bK+1)))) (fin (some x0))
def m5_(x0:List Arc):Option ((List Arc)):=
 aQ (decide (((x0.length:Nat):Int)<2)) (some x0) (bC (λq:Nat=>Fj_ x0 q) 1)
theorem H4_{σ:aj}{x0:List Arc}{r:(List Arc)}(hh:m5_ x0=some r):
  Con prog 138 #[.slice aA x0.length ay] σ [φ 66 8 kC (.slice aA x0.length ay) x0] (λv σ' H'=> ∃a1 c1,v= .slice a1 r.length c1/\σ=σ'/\H'=[φ 66 8 kC (.slice a1 r.length c1) r]):=by
 dsimp only [m5_]at hh
 refine Con.mk (n:=61) Tryz.func138 z z z (λw0=> ?_)
 refine ξ (Ξ z z (ε (θ (ξ (Ξ z z (ω z (lenC z qw z) (ω z (OpVal.lss z z z) (ε (TC.cD z hh (λxP hh=> ?_) (λxP hh=> ?_))))))))))
 ·refine ξ (Ξ z z (Ξ z z (ε (TC.ret (S.r ?_)))))
  obtain rfl:=so hh
  exact ro [φ 66 8 kC (.slice aA x0.length ay) x0] z (RVs.tmp z RVs.nil) ⟨aA,ay,z,z,z⟩
 refine ι (S.n (θ (ξ (ψ z z (ε (υ (TC.iE (α:=(Nat)×(Unit)) (rgs [(2,4),(10,50)]) (λg=>[(3,.int .i64 ((g.1:Nat):Int))]) (λg=>[φ 66 8 kC (.slice aA x0.length ay) x0]) (λg=>σ) (λg=>bC (λq:Nat=>Fj_ x0 q) g.1=some r) (λg=>fZ (λq:Nat=>Fj_ x0 q) g.1) (1,()) (Sub.pre 1 z) z (by repeat (first|exact trivial|refine ⟨z,?_⟩)) hh (λg1 j1 hg1=> ?_))))))))
 obtain ⟨bK,_⟩:=g1
 have hh:=hg1;clear hg1
 try dsimp only
 obtain ⟨z1,hh,hR1⟩:=iq hh
 dsimp only [Fj_]at hh
 refine χ (i:=0) z (λ_ hb106 _=> ?_)
 refine θ (ξ (ψ z z (Ξ z z (ω z (lenC z qw z) (ω z (OpVal.lss z z z) (ε (TC.cD z hh (λdP hh=> ?_) (λdP hh=> ?_))))))))
 ·refine ι (S.n (θ (υ (θ ?_))))
  obtain ⟨yh,hh⟩:=aP hh
  refine TC.draw [] (by kernel_rfl) (TA.a 0 z (gK (.inl z) z) z (TA.a 1 z (cO (.inl z) z) z (TA.isSl (i:=0) z (λBA _ _=> ?_))))
  refine TA.b 2 z (bT z qw nY z z BA (by omega)) z (TA.b 3 z (LW aZ z Ji nY z (q:=0) z vV (by omega) (by omega)) z (TA.a 4 z (gK (.inl z) z) z (TA.a 5 z (cO (.inl z) z) z (TA.a 6 z (subW z z z) z (TA.isSl (i:=0) z (λJW _ _=> ?_))))))
  refine TA.b 7 z (OpVal.index z qw nY z z JW yh.1 yh.2) z (TA.b 8 z (LW aZ z Ji nY z (q:=0) z vV (by omega) (by omega)) z (TA.a 9 z (eqlSt (p:=(nth x0 bK aZ)=(nth x0 ((IntKind.i64.wrap ((bK:Int) - 1)).toNat) aZ)) z z z eg66 (es66 (nth x0 bK aZ) (nth x0 ((IntKind.i64.wrap ((bK:Int) - 1)).toNat) aZ)) z) z (TA.dn (S.n (TC.cD z hh (λh112 hh=> ?_) (λh112 hh=> ?_))))))
  ·refine ξ (Ξ z z (ψ z z ?_))
   obtain ⟨u24,hh⟩:=aP hh
   refine TL.isSl (i:=0) z (λJV _ _=> ?_)
   obtain ⟨a113,c113,hv113,J6⟩:=y2_ (k:=bK) (size:=8) JV (by omega)
   refine ω z (J6 z qw nY z z) (Ξ z z (ε (θ (ξ (ψ z z (ε (υ (TC.iE (α:=((List Arc)×Nat×Nat)×(Unit)) (rgs [(3,1),(5,1),(29,25)]) (λg=>[(3,.int .i64 ((g.1.2.1:Nat):Int)),(5,.int .i64 ((g.1.2.2:Nat):Int))]) (λg=>[φ 66 8 kC (.slice aA x0.length ay) g.1.1]) (λg=>σ) (λg=>bC (λq:(List Arc)×Nat×Nat=>Fn_ x0 bK q.1 q.2.1 q.2.2) g.1=some z1/\g.1.1.length=x0.length) (λg=>fZ (λq:(List Arc)×Nat×Nat=>Fn_ x0 bK q.1 q.2.1 q.2.2) g.1) ((x0,bK,1),()) (Sub.pre 1 z) z (by repeat (first|exact trivial|refine ⟨z,?_⟩)) ⟨hh,z⟩ (λg2 j2 hg2=> ?_)))))))))
   obtain ⟨⟨aJ,bP,aX⟩,_⟩:=g2
   obtain ⟨hh,fV⟩:=hg2
   try dsimp only at fV ⊢
   obtain ⟨z2,hh,hR2⟩:=iq hh
   dsimp only [Fn_]at hh
   refine χ (i:=0) z (λ_ Df _=> ?_)
   refine θ (ξ (ψ z z (Ξ z z (ω z (lenC z qw z) (ω z (OpVal.lss z z z) (ε (TC.cD z hh (λh127 hh=> ?_) (λh127 hh=> ?_))))))))
   ·refine ι (S.n (TC.cutG (α:=((List Arc)×Nat)×(Unit)) (rgs [(3,1),(35,19)]) (λg=>[(3,.int .i64 ((g.1.2:Nat):Int))]) (λg=>[φ 66 8 kC (.slice aA x0.length ay) g.1.1]) (λg=>σ) (λg=>Fq_ aX g.1.1 g.1.2=some z2/\g.1.1.length=x0.length) ?_ (λg j hg=> ?_)))
    ·skip
     refine υ (θ ?_)
     obtain ⟨u33,hh⟩:=aP hh
     obtain ⟨u38,hh⟩:=aP hh
     refine TC.draw [] (by kernel_rfl) (TA.a 0 z (gK (.inl z) z) z (TA.a 1 z (cO (.inl z) z) z (TA.b 2 z (elVw hv113 (by omega) (bT z qw nY z z hv113.sl (by omega))) z (TA.b 3 z (LW aZ z Ji nY z (q:=0) z vV (by omega) (by omega)) z (TA.a 4 z (gK (.inl z) z) z (TA.a 5 z (cO (.inl z) z) z (TA.a 6 z (subW z z z) z (TA.b 7 z (elVw hv113 (by omega) (OpVal.index z qw nY z z hv113.sl u38.1 u38.2)) z (TA.b 8 z (LW aZ z Ji nY z (q:=0) z vV (by omega) (by omega)) z (TA.a 9 z (neqSt (p:=(nth aJ (bK+aX) aZ)=(nth aJ (bK+(IntKind.i64.wrap ((aX:Int) - 1)).toNat) aZ)) z z z eg66 (es66 (nth aJ (bK+aX) aZ) (nth aJ (bK+(IntKind.i64.wrap ((aX:Int) - 1)).toNat) aZ)) z) z (TA.dn (S.n (TC.cD z hh (λLm hh=> ?_) (λLm hh=> ?_))))))))))))))
     ·refine ξ (Ξ z z (ψ z z (Ξ z z (ψ z z ?_))))
      obtain ⟨u45,hh⟩:=aP hh
      refine ω z (elVw hv113 (by omega) (bT z qw nY z z hv113.sl (by omega))) (ω z (LW aZ z Ji nY z (q:=0) z vV (by omega) (by omega)) ?_)
      obtain ⟨MQ,hh⟩:=aP hh
      refine TL.isSl (i:=0) z (λBz _ _=> ?_)
      refine ω z (bT z qw nY z z Bz (by omega)) ?_
      have BR:(aJ.set bP (nth aJ (bK+aX) aZ)).length=x0.length:=by rw [fQ];exact fV
      refine ν z (lF (nth aJ (bK+aX) aZ) z nY z z z z vV YG (by omega) (by omega) ?_)
      exact ε (η (ψ z z (ω z (OpVal.succ z z z (by omega)) (ψ z z (TL.nil (B.n (S.n (cf (((aJ.set bP (nth aJ (bK+aX) aZ)),(bP+1)),()) ⟨hh,BR⟩ (Sub.pre 1 z)))))))))
     exact ι (B.n (S.n (cf ((aJ,bP),()) ⟨hh,fV⟩ (Sub.pre 1 z))))
    skip
    obtain ⟨⟨zG,eU⟩,_⟩:=g
    obtain ⟨hh,BX⟩:=hg
    try dsimp only at BX ⊢
    dsimp only [Fq_]at hh
    refine χ (i:=0) z (λ_ U6 _=> ?_)
    refine η (ψ z z (ω z (OpVal.succ z z z (by omega)) (ψ z z (ε ?_))))
    obtain ⟨hh,D8⟩:=dL hR2 hh
    exact lf ((zG,eU,(aX+1)),()) D8 ⟨hh,BX⟩ (Sub.pre 1 z)
   refine TC.exit (S.x (S.x ?_))
   replace hh:=dI hR2 hh
   refine Δ (S.n (ξ (Ξ z z (ψ z z ?_))))
   obtain ⟨u57,hh⟩:=aP hh
   refine TL.isSl (i:=0) z (λBq _ _=> ?_)
   rw [fV]at Bq
   obtain ⟨a136,vO,JF,J5⟩:=y2_ (k:=bP) (size:=8) Bq (by omega)
   refine ω z (J5 z qw nY z z) ?_
   have Ku:(aJ.take bP++replicate (aJ.length - bP) aZ).length=x0.length:=by simp only [fU,List.length_take,rU];try simp only [rU]at *;omega
   refine ν z (db_ (k:=bP) aZ z qw Au z z JF (by omega) (by omega) vV (by decide) z YG ?_)
   refine ε (ξ (Ξ z z (ψ z z ?_)))
   rw [<-Ku]
   obtain ⟨u61,hh⟩:=aP hh
   refine ν z (cutS z qw nY z z z z z (by omega) vV ?_)
   refine Ξ z z (ε (TC.ret (B.r (S.r (S.r ?_)))))
   replace hh:=dI hR1 hh
   refine B.r (S.r ?_)
   obtain rfl:=so hh
   exact ro [φ 66 8 kC (.slice aA ((aJ.take bP++replicate (aJ.length - bP) aZ).take bP).length ay) ((aJ.take bP++replicate (aJ.length - bP) aZ).take bP)] z (RVs.tmp z RVs.nil) ⟨aA,ay,z,z,z⟩
  refine ι (B.n (S.n (η (ψ z z (ω z (OpVal.succ z z z (by omega)) (ψ z z (ε ?_)))))))
  obtain ⟨hh,qY⟩:=dL hR1 hh
  exact lf ((bK+1),()) qY hh (Sub.pre 1 z)
 refine TC.exit (S.x (S.x ?_))
 replace hh:=dI hR1 hh
 refine Δ (S.n (ξ (Ξ z z (Ξ z z (ε (TC.ret ?_))))))
 obtain rfl:=so hh
 exact ro [φ 66 8 kC (.slice aA x0.length ay) x0] z (RVs.tmp z RVs.nil) ⟨aA,ay,z,z,z⟩
def ZE(x0:List Tip):Option ((List Tip)):=
 grd (x0.length * 24<=140737488355328) (bnd (ZT (rY nG x0)) (λv9=>some v9))
def It_(σ:aj)(r:(List Tip)):Value->aj->List Res->Prop:=λv σ' H'=>
 ∃a1 c1,v= .slice a1 r.length c1/\σ=σ'/\H'=[φ 76 2 dD (.slice a1 r.length c1) r]
theorem Hs_{σ:aj}{x0:List Tip}(au:RS σ 2 dD (.slice aN x0.length aK) x0){r:(List Tip)}(hh:ZE x0=some r):
  Con prog 95 #[.slice aN x0.length aK,.func (.func 96) #[] #[]] σ [] (It_ σ r):=by
 dsimp only [ZE]at hh
 have f0_0b:=au.rv.big
 refine Con.mk (n:=13) Tryz.func95 z z z (λw0=> ?_)
 refine ξ (Ξ z z (ε (ξ (Ξ z z ?_))))
 obtain ⟨u3,hh⟩:=aP hh
 refine ν z (OpOk.call (Hj_ au u3) z z pf88 z z z z ?_)
 rintro _ _ _ _ ⟨⟨yL,xY,rfl⟩,rfl,rfl⟩
 refine Ξ z z (ε (ξ (Ξ z z (ω z (Z_ (.inl z) z) ?_))))
 have KA:(rY nG x0).length=x0.length:=List.length_mergeSort _
 refine ν z (OpOk.call (Ik_ (l:=x0)) z z SL z z z z ?_)
 rintro _ _ _ _ ⟨rfl,rfl,rfl⟩
 refine ε (ξ (Ξ z z ?_))
 rw [<-KA]
 obtain ⟨v9,u9,hh⟩:=dJ hh
 refine ν z (OpOk.call (G7_ u9) z z SK z z z z ?_)
 rintro _ _ _ jf ⟨a105_1,c105_2,rfl,rfl,rfl⟩
 refine Ξ z z (ε (TC.ret ?_))
 obtain rfl:=so hh
 exact ro [φ 76 2 dD (.slice a105_1 v9.length c105_2) v9] z (RVs.tmp z RVs.nil) ⟨a105_1,c105_2,z,z,z⟩
def xg_(x0:List Arc):Option ((List Arc)):=
 grd (x0.length * 72<=140737488355328) (bnd (m5_ (rY Nb x0)) (λv9=>some v9))
def Iv_(σ:aj)(r:(List Arc)):Value->aj->List Res->Prop:=λv σ' H'=>
 ∃a1 c1,v= .slice a1 r.length c1/\σ=σ'/\H'=[φ 66 8 kC (.slice a1 r.length c1) r]
theorem Ij_{σ:aj}{x0:List Arc}(au:RS σ 8 kC (.slice aN x0.length aK) x0){r:(List Arc)}(hh:xg_ x0=some r):
  Con prog 97 #[.slice aN x0.length aK,.func (.func 98) #[] #[]] σ [] (Iv_ σ r):=by
 dsimp only [xg_]at hh
 have f0_0b:=au.rv.big
 refine Con.mk (n:=13) Tryz.func97 z z z (λw0=> ?_)
 refine ξ (Ξ z z (ε (ξ (Ξ z z ?_))))
 obtain ⟨u3,hh⟩:=aP hh
 refine ν z (OpOk.call (Ig_ au u3) z z pf136 z z z z ?_)
 rintro _ _ _ _ ⟨⟨yL,xY,rfl⟩,rfl,rfl⟩
 refine Ξ z z (ε (ξ (Ξ z z (ω z (Z_ (.inl z) z) ?_))))
 have KA:(rY Nb x0).length=x0.length:=List.length_mergeSort _
 refine ν z (OpOk.call (In_ (l:=x0)) z z pf137 z z z z ?_)
 rintro _ _ _ _ ⟨rfl,rfl,rfl⟩
 refine ε (ξ (Ξ z z ?_))
 rw [<-KA]
 obtain ⟨v9,u9,hh⟩:=dJ hh
 refine ν z (OpOk.call (H4_ u9) z z pf138 z z z z ?_)
 rintro _ _ _ jf ⟨a105_1,c105_2,rfl,rfl,rfl⟩
 refine Ξ z z (ε (TC.ret ?_))
 obtain rfl:=so hh
 exact ro [φ 66 8 kC (.slice a105_1 v9.length c105_2) v9] z (RVs.tmp z RVs.nil) ⟨a105_1,c105_2,z,z,z⟩
def MB(x0:Fst):Option (Fst×Int):=
 bnd (Zr x0) (λv5=>aQ (decide (v5≠0)) (some ((⟨0,([]:List Tip),([]:List Tip),([]:List Arc)⟩:Fst),1)) (bnd (ZE x0.starts) (λv14=>bnd (ZE x0.ends) (λv17=>bnd (xg_ x0.arcs) (λv20=>some ((⟨x0.states,v14,v17,v20⟩:Fst),0))))))
def If_(σ:aj)(r:Fst×Int):Value->aj->List Res->Prop:=λv σ' H'=>
 ∃a1 c1 a2 c2 a3 c3,v= .tuple #[.agg (oN r.1 a1 c1 a2 c2 a3 c3),.int .i64 r.2]/\RS σ' 2 dD (.slice a1 r.1.starts.length c1) r.1.starts/\RS σ' 2 dD (.slice a2 r.1.ends.length c2) r.1.ends/\RS σ' 8 kC (.slice a3 r.1.arcs.length c3) r.1.arcs/\H'=[]
theorem Hy_{σ:aj}{x0:Fst}(au:RS σ 2 dD (.slice aN x0.starts.length aK) x0.starts)(aV:RS σ 2 dD (.slice aA x0.ends.length aY) x0.ends)(aS:RS σ 8 kC (.slice aW x0.arcs.length ay) x0.arcs){r:Fst×Int}(hh:MB x0=some r):
  Con prog 56 #[.agg (oN x0 aN aK aA aY aW ay)] σ [] (If_ σ r):=by
 dsimp only [MB]at hh
 have f0_0b:=au.rv.big
 have f0_1b:=aV.rv.big
 have f0_2b:=aS.rv.big
 refine Con.mk (n:=20) Tryz.func56 z z z (λw0=> ?_)
 refine ξ (ν z (boxA z z z z (λbG=> ?_)))
 refine ν z (OpOk.alloc z RI z z (λeY=> ?_))
 refine ψ z z (ε (θ (ξ (ω z (lG z Io Ar z (i:=1) z z) ?_))))
 obtain ⟨v5,u5,hh⟩:=dJ hh
 refine ν z (kD (Fw_ (x0:=x0) au aV aS u5) z z V_ z z z ?_)
 refine ω z (OpVal.neq z z z) (ε (TC.cD z hh (λdM hh=> ?_) (λdM hh=> ?_)))
 ·refine ξ (ω z (ny z Ol RI z) (ν z (storeAll z Ar z z z z z z ?_)))
  refine ψ z z (ε (TC.rt 1 (S.r ?_)))
  obtain rfl:=so hh
  exact ro [] z (RVs.agg Io Ar z (i:=0) z z (RVs.tmp z RVs.nil)) ⟨none,0,none,0,none,0,z,(RS.nilF _ dD gQ),(RS.nilF _ dD gQ),(RS.nilF _ kC vV),z⟩
 refine ι (S.n (θ ?_))
 obtain ⟨v14,u14,hh⟩:=dJ hh
 obtain ⟨v17,RQ,hh⟩:=dJ hh
 obtain ⟨v20,u20,hh⟩:=dJ hh
 refine TC.draw [12,13] (by kernel_rfl) (TA.a 0 z (aU z EO z) z (TA.b 1 z (bg z fC z (i:=1) z z) z (TA.a 2 z (aU z Tc z) z (TA.b 3 z (bg z Fj z (i:=1) z z) z (TA.a 5 z (aU z WC z) z (TA.b 6 z (bg z Fj z (i:=1) z z) z (TA.a 8 z (aU z Td z) z (TA.b 9 z (bg z MO z (i:=1) z z) z (TA.ac 4 z (OpOk.call (Hs_ au u14) z z pf95 z z z z ?_))))))))))
 rintro _ _ _ kU ⟨a112_1,c112_1,rfl,rfl,rfl⟩
 refine k1 (TA.ac 7 z (OpOk.call (Hs_ aV RQ) z z pf95 z z z z ?_))
 rintro _ _ _ Ep ⟨a114_1,c114_1,rfl,rfl,rfl⟩
 refine k2 (TA.ac 10 z (OpOk.call (Ij_ aS u20) z z pf97 z z z z ?_))
 rintro _ _ _ Yo ⟨a116_1,c116_1,rfl,rfl,rfl⟩
 refine k3 (TA.a 11 z (ny z Ol RI z) z (TA.front 3 z z (TA.last 12 (by kernel_rfl) z z z (storeAll z Ar z z z z z z ?_))))
 refine TZ.v 13 (by kernel_rfl) z z z (cO (.inr z) z) z z (TZ.done (by kernel_rfl) (S.n (TC.front 3 z z (TC.og gQ (λτ120 Yn y7=> ?_)))))
 have hr118b:=y7.rv.big
 refine TC.front 2 z z (TC.og gQ (λτ123 lV nS=> ?_))
 replace y7:=y7.mono lV
 have hr121b:=nS.rv.big
 refine TC.front 1 z z (TC.og vV (λτ126 uq sS=> ?_))
 replace y7:=y7.mono uq
 replace nS:=nS.mono uq
 have hr124b:=sS.rv.big
 refine TC.rt 1 ?_
 obtain rfl:=so hh
 exact ro [] z (RVs.agg Io Ar z (i:=0) z z (RVs.tmp z RVs.nil)) ⟨a112_1,c112_1,a114_1,c114_1,a116_1,c116_1,z,y7,nS,sS,z⟩
end Go.Proofs.YtchebnpdnfhenaaGreatDoor
end

noncomputable section
namespace Go.E
open Go
structure Dfa where
  cls:List Int
  next:List (List Int)
  fin:List Bool
def Dfa.zero:Dfa:=⟨[],[],[]⟩
structure DfaP where
  a1:Option Addr
  c1:Nat
  a2:Option Addr
  c2:Nat
  a3:Option Addr
  c3:Nat
def DfaP.zero:DfaP:=⟨none,0,none,0,none,0⟩
structure RDfa (σ:aj) (x:Dfa) (p:DfaP):Prop where
  c:RS σ 1 aF (.slice p.a1 x.cls.length p.c1) x.cls
  n:RZ σ (aC 1 aF bn) (.slice p.a2 x.next.length p.c2) x.next
  e:RS σ 1 eq_ (.slice p.a3 x.fin.length p.c3) x.fin
structure Seq where
  front:List UInt8
  next:List (List Int)
  outs:List (List (List UInt8))
  fin:List Bool
  tail:List (List UInt8)
def Seq.zero:Seq:=⟨[],[],[],[],[]⟩
structure SeqP where
  a1:Option Addr
  c1:Nat
  a2:Option Addr
  c2:Nat
  a3:Option Addr
  c3:Nat
  a4:Option Addr
  c4:Nat
def SeqP.zero:SeqP:=⟨none,0,none,0,none,0,none,0⟩
structure RSeq (σ:aj) (x:Seq) (p:SeqP):Prop where
  n:RZ σ (aC 1 aF bn) (.slice p.a1 x.next.length p.c1) x.next
  o:RZ σ (aC 1 aI bF) (.slice p.a2 x.outs.length p.c2) x.outs
  e:RS σ 1 eq_ (.slice p.a3 x.fin.length p.c3) x.fin
  t:RS σ 1 aI (.slice p.a4 x.tail.length p.c4) x.tail
def Seq.enc(x:Seq)(p:SeqP):List Value:=[.string (bs x.front),.slice p.a1 x.next.length p.c1,.slice p.a2 x.outs.length p.c2,.slice p.a3 x.fin.length p.c3,.slice p.a4 x.tail.length p.c4]
structure Rule where
  of:Dfa
  left:Dfa
  right:Dfa
  out:List UInt8
  mapped:Bool
  by':Seq
def Rule.zero:Rule:=⟨Dfa.zero,Dfa.zero,Dfa.zero,[],false,Seq.zero⟩
structure RuleP where
  of:DfaP
  left:DfaP
  right:DfaP
  by':SeqP
def RuleP.zero:RuleP:=⟨DfaP.zero,DfaP.zero,DfaP.zero,SeqP.zero⟩
structure RRule (σ:aj) (x:Rule) (p:RuleP):Prop where
  o:RDfa σ x.of p.of
  l:RDfa σ x.left p.left
  r:RDfa σ x.right p.right
  b:RSeq σ x.by' p.by'
structure SB where
  buf:List UInt8
structure Turned where
  b:SB
  at':List Span
structure How where
  r:Rule
structure Piece where
  text:List UInt8
  at':List Span
def Piece.zero:Piece:=⟨[],[]⟩
abbrev qF(x:Seq)(a1:Option Addr)(c1:Nat)(a2:Option Addr)(c2:Nat)(a3:Option Addr)(c3:Nat)(a4:Option Addr)(c4:Nat):Array Value:=#[.string (bs x.front),.slice a1 x.next.length c1,.slice a2 x.outs.length c2,.slice a3 x.fin.length c3,.slice a4 x.tail.length c4]
abbrev jh(b:Nat)(x:Seq)(a1:Option Addr)(c1:Nat)(a2:Option Addr)(c2:Nat)(a3:Option Addr)(c3:Nat)(a4:Option Addr)(c4:Nat):Res:=κ b (qF x a1 c1 a2 c2 a3 c3 a4 c4) 32
def GT{α:Type}(σ:aj)(g:Nat)(enc:α->List Value)(l:List α):Prop:= ∃E,σ g=some (.cells (l.flatMap enc).toArray E)
theorem GT.mono{α:Type}{σ τ:aj}{g:Nat}{enc:α->List Value}{l:List α}(h:GT σ g enc l)(hle:σ.le τ):GT τ g enc l:=let ⟨E,h⟩:=h;⟨E,hle _ _ h⟩
theorem ti_{α:Type}{enc:α->List Value}(hl: ∀x,(enc x).length=1)(d:α): ∀(l:List α) (i:Nat),i<l.length->(l.flatMap enc)[i]? =(enc (nth l i d))[0]?
  |[],i,h=>by simp at h
  |x::l,0,_=>by
    have:=hl x
    rw [List.flatMap_cons,List.getElem?_append_left (by omega)]
    simp [nth]
  |x::l,i+1,h=>by
    have h1:=hl x
    rw [List.flatMap_cons,List.getElem?_append_right (by omega),h1,Nat.add_sub_cancel,ti_ hl d l i (by simpa using h)]
    simp [nth]
def deB:List UInt8:=[0,1,56,2,57,49,28,3,61,58,42,50,38,29,17,4,62,47,59,36,45,43,51,22,53,39,33,30,24,18,12,5,63,55,48,27,60,41,37,16,46,35,44,21,52,32,23,11,54,26,40,15,34,20,31,10,25,14,19,9,13,8,7,6]
def tV(u:Bool)(b:Nat):Value:=match u with|true=>loc b 0|false=> .pointer none
theorem nr_{b E:Nat}{cs:Array Value}{w:World}(h:(κ b cs E).holds w):w.shape? b=some (E,cs.size):=by
  have h1:w.heap[b]? =some (.cells cs E (0,0)):=h
  simp [World.shape?,h1]
section
variable {P:Program} {n:Nat} {e:Env} {σ:aj} {H:List Res} {o:Oper} {x y:Operand}
theorem OpVal.cvtUns{S T t b E i sz m:Nat}{cs:Array Value}(ho:o.op= .convert S T x)(hS:P.underlying S=some (.pointer t))(hT:P.underlying T=some .unsafePointer)(hs:szOf P t=some sz)(h0:sz≠0)
    (hx:ev e x=loc b 0) (hi:H[i]? =some (κ b cs E)) (hm:cs.size=m) (hc:0<m):OpVal P n o e σ H (loc b 0):=λw hw=>by
  obtain ⟨j,hj,hjs⟩:=UM hs
  have hsh:=nr_ (hw.2 _ (List.mem_of_getElem? hi))
  have h:=Lib.run_to_unsafe (P:=P) (w:=w) (cells:=cs.size) ⟨b,0,none⟩ hS hT hj (by rw [hjs];exact h0) hsh (by rw [hm];exact hc)
  simp [execOp,ho,hx,loc,h]
theorem OpVal.cvtPtr{S T t b E i sz m:Nat}{cs:Array Value}(ho:o.op= .convert S T x)(hS:P.underlying S=some .unsafePointer)(hT:P.underlying T=some (.pointer t))(hs:szOf P t=some sz)
    (hx:ev e x=loc b 0) (hi:H[i]? =some (κ b cs E)) (hm:cs.size=m) (hl:liesAt P P.depth E (m / P.cellsOf E) 0 t 1=true):OpVal P n o e σ H (loc b 0):=λw hw=>by
  obtain ⟨j,hj,hjs⟩:=UM hs
  have hsh:=nr_ (hw.2 _ (List.mem_of_getElem? hi))
  have h:=Lib.run_from_unsafe (P:=P) (w:=w) (cells:=cs.size) ⟨b,0,none⟩ hS hT hj hsh (by rw [hm];exact hl)
  simp [execOp,ho,hx,loc,h]
theorem OpVal.noEsc{p : Operand}{ts : Array TypeId}{J : FuncId}{fn : Func}{v : Value}(ho : o.op = .call { callee := .value x, args := #[p], argTypes := ts })(hx : ev e x = .func (.func J) #[] #[])(hf : P.funcs[J]? = some fn)(hname : (fn.name == "runtime.NumGoroutine") = false)
    (hb:fn.body.isNone=true) (hn:Extern.findNext fn=none) (he:Extern.find fn=some Extern.AbiNoEscape.same) (hp:ev e p=v):OpVal P n o e σ H v:=λw _=>by
  have h:=run_callFunc_extern hf hname hb hn he #[v] w
  rw [Lib.run_noEscape]at h
  simp [execOp,ho,resolve,Deferred.ofValue,invoke,hx,hp,h,Result.andThen]
theorem OpVal.du_{T T' t b sz:Nat}(ho:o.op= .binOp .neq T x y T')(hT:P.underlying T=some (.pointer t))(hs:szOf P t=some sz)(hx:ev e x=loc b 0)(hy:ev e y=loc b 0):OpVal P n o e σ H (.bool false):=λw _=>by
  obtain ⟨j,hj,_⟩:=UM hs
  have h:=Lib.run_neq_ptr_same (P:=P) (w:=w) ⟨b,0,none⟩ hT hj
  simp only [execOp,ho,hx,hy,loc,Sem.run_bind,jb_,Result.andThen_ok]
  rw [h];rfl
end
theorem sq_(l:List UInt8):Lib.strCells (bs l)=l.flatMap ku:=by
  have h: ∀l:List UInt8,l.map (λb=>Value.int IntKind.u8 ((b.toNat:Nat):Int))=l.flatMap ku:=λl=>by
    induction l with
    |nil=>rfl
    |cons x l ih=>rw [List.map_cons,List.flatMap_cons,ih];rfl
  simp [Lib.strCells,bs]
  exact h l
theorem te_ {P : Program} {w w' : World} (base : Nat) (t u ty e : TypeId) (i : TypeInfo) (ht : P.underlying t = some (.slice e)) (hu : P.underlying u = some .string) (hi : P.info? e = some i) (hz : i.zero = some (.int .u8 0))
    (hsize:i.size=1) (hby:i.bytes=1) {v v':Value} {n:Nat} {xs:List Value} (hown:w.ownsRow base e 1 v n xs) (s:ByteArray)
    (h63:n+s.size<=maxLen) (hbytes:n+s.size<=140737488355328) (hrun:(Builtin.append_ #[t,u] ty #[v,.string s]).run P w= .ok v' w'):
    (v'.ownBlock=v.ownBlock\/v'.ownBlock=some w.heap.size)/\w.drawn<=w'.drawn:=by
  have hsmall:n+s.size<=9223372036854775807:=by simp only [maxLen]at h63;omega
  have hxl:xs.length=n:=by simpa using hown.1
  rcases hown.2 with ⟨rfl,rfl⟩|⟨g,cap,cur,rfl,hbg,hg,hnc,hcm,hcs,htake⟩
  · by_cases hm:s.size=0
    · have hf:=Lib.run_firstCells_string (P:=P) (w:=w) 1 s
      rw [hm]at hf
      have hr:(Builtin.append_ #[t,u] ty #[.slice none 0 0,.string s]).run P w= .ok (.slice none 0 0) w:=by
        simp [Builtin.append_,run_underlying ht,run_underlying hu,sizeOf,typeInfo,hi,hsize,Builtin.lenOf,hm,hf]
      rw [hrun]at hr;cases hr;exact ⟨.inl rfl,Nat.le_refl _⟩
    have hr:=run_append_nil_string (P:=P) w t u ty e i (.int .u8 0) ht hu hi hz s (by omega) (by omega) (by rw [hby];omega)
    rw [hrun]at hr;cases hr;exact ⟨.inr rfl,Nat.le_succ _⟩
  by_cases hroom:n+s.size<=cap
  · have hcs':cur.size=cap:=by simpa using hcs
    have hr:=Lib.run_append_room_string (P:=P) (w:=w) t u ty e i ht hu hi hsize g n cap cur hg s hroom (by omega)
    rw [hrun]at hr;cases hr;exact ⟨.inl rfl,Nat.le_refl _⟩
  have holds: ∀j u,xs[j]? =some u->w.cell? ((⟨g,0,none⟩:Addr).add j)=some u:=hown.cells (g:=g) rfl
  have hr:=Lib.run_append_grow_string (P:=P) (w:=w) t u ty e i (.int .u8 0) ht hu hi hz ⟨g,0,none⟩ n cap xs (by rw [hsize];simpa using hxl) holds s (by omega) (by omega) (by rw [hby];exact growslice_fits (by omega) (by omega))
  rw [hrun]at hr;cases hr;exact ⟨.inr rfl,Nat.le_succ _⟩
theorem OpOk.cu_{X:Ctx}{e:Env}{σ:aj}{F:List Res}{o:Oper}{x y:Operand}{K:Env->aj->List Res->Prop}{T ty E d:Nat}{v:Value}{l m:List UInt8}
    (ho:o.op= .call {callee:= .builtin .append,args:= #[x,y],argTypes:= #[T,ty]}) (ht:X.P.underlying T=some (.slice E)) (hu:X.P.underlying ty=some .string) (hs:szOf X.P E=some 1) (hby:byOf X.P E=some 1) (hz:zeroOf X.P E=some (.int .u8 0))
    (hd:o.dst=some d) (hn:Nat.blt d X.n=true) (hx:ev e x=v) (hy:ev e y= .string (bs m)) (hb:l.length+m.length<=140737488355328)
    (k: ∀a c,K (upd e d (.slice a (l++m).length c)) σ (φ E 1 ku (.slice a (l++m).length c) (l++m)::F)):OpOk X o e σ (φ E 1 ku v l::F) K:=by
  obtain ⟨i,hi,hsi⟩:=UM hs
  have hiz:i.zero=some (.int .u8 0):=by simpa [zeroOf,hi]using hz
  have hib:i.bytes=1:=by simpa [byOf,hi]using hby
  intro u0 C0 τ0 w a hw ha K' Q hK
  obtain ⟨hown,hone,hbg⟩:=hw.holds _ (ji ..)
  have hsz:(bs m).size=m.length:=by show (bs m).data.size=_;simp [bs]
  have h1:l.length+(bs m).size<=maxLen:=by rw [hsz];unfold maxLen;omega
  have h2:l.length+(bs m).size<=140737488355328:=by rw [hsz];exact hb
  obtain ⟨v',w',hr,hown',hg,_⟩:=Lib.run_append_own_string (P:=X.P) (w:=w) 0 T ty o.type E i ht hu hi hiz hsi hib v l.length _ hown (bs m) h1 h2 (Nat.zero_le _)
  obtain ⟨hblk,hdr⟩:=te_ 0 T ty o.type E i ht hu hi hiz hsi hib hown (bs m) h1 h2 hr
  rw [hsz,sq_,<-List.flatMap_append,<-fU]at hown'
  have hbk: ∀b,v'.ownBlock=some b->v.ownBlock=some b\/w.heap.size<=b:=λb hb=>by
    rcases hblk with h|h
    · exact .inl (h▸hb)
    rw [h]at hb;cases hb;exact .inr (Nat.le_refl _)
  have hR:Reach u0 C0 τ0 σ w' (φ E 1 ku v' (l++m)::F):=
    hw.GX (Value.ownBlock v) (Value.ownBlock v') rfl rfl hg.os hg.tape hg.output hg.size hdr (λq hq hne=>hg.block q hq (λhx=>hne hx.symm)) ⟨hown',λq hq=>by
      obtain ⟨z,_,hz⟩:=List.mem_flatMap.1 hq
      exact UL z q hz,by rw [fU];omega⟩ hbk
  obtain ⟨av,cv,rfl,_,_⟩:=isSl_row hown'
  refine Oper.vP (w':=w') (v:= .slice av (l++m).length cv) ?_ (hK _ _ _ _ _ (k av cv) hR (xQ ha hd hn _))
  rw [ha.eval']
  simp [execOp,ho,resolve,invoke,builtin,hx,hy,hr]
def Res.any (o : Option Nat) : Res where
  bl:=o.toList
  holds w:= ∀b,o=some b->b<w.heap.size
  lt w b hb h:=h b (by simpa using hb)
  keep w w' hb h:=λb e=>by
    have h1:=h b e
    have h2:=hb b (by rw [e];simp)
    rw [Array.getElem?_eq_getElem h1]at h2
    exact (Array.getElem?_eq_some_iff.1 h2).1
def SDat(v:Value)(l:List UInt8)(q:Option Addr):Prop:=l≠[]-> ∃g c,v= .slice (some ⟨g,0,none⟩) l.length c/\q=some ⟨g,0,none⟩
theorem OpOk.c7_{X:Ctx}{e:Env}{σ:aj}{F:List Res}{o:Oper}{x:Operand}{K:Env->aj->List Res->Prop}{T E d D:Nat}{v:Value}{l:List UInt8}
    (ho:o.op= .call {callee:= .builtin .unsafeSliceData,args:= #[x],argTypes:= #[T]}) (hD:o.type=D) (hp:X.P.underlying D=some (.pointer E)) (hd:o.dst=some d) (hn:Nat.blt d X.n=true) (hx:ev e x=v)
    (k: ∀q,SDat v l q->K (upd e d (.pointer q)) σ (φ E 1 ku v l::F)):OpOk X o e σ (φ E 1 ku v l::F) K:=by
  subst hD
  intro u0 C0 τ0 w a hw ha K' Q hK
  obtain ⟨hown,hone,hbg⟩:=hw.holds _ (ji ..)
  rcases id hown.2 with ⟨rfl,hl⟩|⟨g,cap,cur,rfl,_,hg,hnc,hcm,hcs,htake⟩
  · have hl0:l=[]:=oU hl
    have hr:=Lib.run_unsafeSliceData_nil (P:=X.P) (w:=w) #[T] o.type 0 0
    refine Oper.vP (w':=w) (v:= .pointer none) ?_ (hK _ _ _ _ _ (k none (λh=>absurd hl0 h)) hw (xQ ha hd hn _))
    rw [ha.eval']
    simp [execOp,ho,resolve,invoke,builtin,hx,hr]
  by_cases hc:cap=0
  · subst hc
    have hl0:l=[]:=oU (by omega)
    have hsh:w.shape? g=some (E,cur.size):=by simp [World.shape?,hg]
    have hr:=Lib.run_unsafeSliceData_zero (P:=X.P) (w:=w) #[T] o.type E hp ⟨g,0,none⟩ l.length (E,cur.size) hsh
    have hR:Reach u0 C0 τ0 σ (w.alloc (.view ⟨g,0,none⟩ E)) (Res.any none::φ E 1 ku (.slice (some ⟨g,0,none⟩) l.length 0) l::F):=
      hw.YX none rfl rfl rfl rfl (by simp) (Nat.le_refl _) (λk hk=>Nh w _ k hk) (λb hb=>by cases hb) (λb hb=>by cases hb)
    refine Oper.vP (w':=w.alloc (.view ⟨g,0,none⟩ E)) (v:= .pointer (some ⟨w.heap.size,0,none⟩)) ?_ (hK _ _ _ _ _ (k _ (λh=>absurd hl0 h)) (hR.sub (List.sublist_cons_self _ _)) (xQ ha hd hn _))
    rw [ha.eval']
    simp [execOp,ho,resolve,invoke,builtin,hx,hr]
  have hr:=Lib.run_unsafeSliceData_row (P:=X.P) (w:=w) #[T] o.type ⟨g,0,none⟩ l.length cap hc
  refine Oper.vP (w':=w) (v:= .pointer (some ⟨g,0,none⟩)) ?_ (hK _ _ _ _ _ (k _ (λ_=>⟨g,cap,rfl,rfl⟩)) hw (xQ ha hd hn _))
  rw [ha.eval']
  simp [execOp,ho,resolve,invoke,builtin,hx,hr]
theorem OpOk.unsStr{X:Ctx}{e:Env}{σ:aj}{F:List Res}{o:Oper}{x y:Operand}{K:Env->aj->List Res->Prop}{T I E d:Nat}{v:Value}{l:List UInt8}{q:Option Addr}
    (ho:o.op= .call {callee:= .builtin .unsafeString,args:= #[x,y],argTypes:= #[T,I]}) (hp:X.P.underlying T=some (.pointer E)) (hcE:X.P.cellsOf E=1) (hd:o.dst=some d) (hn:Nat.blt d X.n=true) (hx:ev e x= .pointer q) (hq:SDat v l q) (hy:ev e y= .int .i64 (l.length:Nat))
    (k:K (upd e d (.string (bs l))) σ F):OpOk X o e σ (φ E 1 ku v l::F) K:=by
  intro u0 C0 τ0 w a hw ha K' Q hK
  obtain ⟨hown,hone,hbg⟩:=hw.holds _ (ji ..)
  by_cases hl:l=[]
  · subst hl
    have hr:=Lib.run_unsafeString_none (P:=X.P) (w:=w) T I o.type q
    refine Oper.vP (w':=w) (v:= .string (bs [])) ?_ (hK _ _ _ _ _ k (hw.sub (List.sublist_cons_self _ _)) (xQ ha hd hn _))
    rw [ha.eval']
    simp [execOp,ho,resolve,invoke,builtin,hx,hy,hr]
    rfl
  obtain ⟨g,c,rfl,rfl⟩:=hq hl
  rcases id hown.2 with ⟨hv,_⟩|⟨g',cap,cur,hv,_,hg,hnc,hcm,hcs,htake⟩
  · cases hv
  cases hv
  have hsh:w.shape? g=some (E,cur.size):=by simp [World.shape?,hg]
  have hr:=Lib.run_unsafeString_row (P:=X.P) (w:=w) T I o.type E hp hcE g cur.size hsh l hl (by omega) (by unfold maxLen at hcm;omega) (λj z hz=>by
    refine hown.cells (g:=g) rfl j (.int .u8 z.toNat) ?_
    have hj:j<l.length:=(List.getElem?_eq_some_iff.1 hz).1
    rw [ti_ (enc:=ku) (λ_=>rfl) (0:UInt8) l j hj]
    have h4:=getD_some l hj (0:UInt8)
    rw [hz]at h4
    rw [<-Option.some.inj h4];rfl)
  have hln: ¬ l.length=0:=λh=>hl (oU h)
  have hfz: ∀b,b≠g->(w.freeze ⟨g,0,none⟩ l.length).heap[b]? =w.heap[b]? :=λb hb=>by
    unfold World.freeze
    rw [if_neg hln]
    simp only [Array.getElem?_modify]
    rw [if_neg (λh=>hb h.symm)]
  have hsz:(w.freeze ⟨g,0,none⟩ l.length).heap.size=w.heap.size:=by
    unfold World.freeze
    rw [if_neg hln];simp
  have hos:(w.freeze ⟨g,0,none⟩ l.length).os=w.os/\(w.freeze ⟨g,0,none⟩ l.length).tape=w.tape/\(w.freeze ⟨g,0,none⟩ l.length).output=w.output/\(w.freeze ⟨g,0,none⟩ l.length).drawn=w.drawn:=by
    unfold World.freeze
    rw [if_neg hln];exact ⟨rfl,rfl,rfl,rfl⟩
  have hgl:g<w.heap.size:=(Array.getElem?_eq_some_iff.1 hg).1
  have hR:Reach u0 C0 τ0 σ (w.freeze ⟨g,0,none⟩ l.length) (Res.any (some g)::F):=
    hw.GX (some g) (some g) rfl rfl hos.1 hos.2.1 hos.2.2.1 (by rw [hsz];exact Nat.le_refl _) (by rw [hos.2.2.2];exact Nat.le_refl _) (λk hk hne=>hfz k (λh=>hne (by rw [h]))) (λb hb=>by cases hb;rw [hsz];exact hgl) (λb hb=> .inl hb)
  refine Oper.vP (w':=w.freeze ⟨g,0,none⟩ l.length) (v:= .string (bs l)) ?_ (hK _ _ _ _ _ k (hR.sub (List.sublist_cons_self _ _)) (xQ ha hd hn _))
  rw [ha.eval']
  simp [execOp,ho,resolve,invoke,builtin,hx,hy,hr]
  rfl
end Go.E
end

noncomputable section
namespace Go.Proofs.YtchebnpdnfhenaaGreatDoor
open Go Go.E Go.E.OpVal Go.E.OpOk Go.Proofs.Tryz
open List (replicate)
theorem j_:aggOf Tryz.prog 27=some false:=by kernel_rfl
theorem qx:aggOf Tryz.prog 28=some false:=by kernel_rfl
theorem rX:aggOf Tryz.prog 29=some false:=by kernel_rfl
theorem mJ:aggOf Tryz.prog 30=some false:=by kernel_rfl
theorem jw:aggOf Tryz.prog 32=some true:=by kernel_rfl
theorem P5:aggOf Tryz.prog 60=some false:=by kernel_rfl
theorem hs_:aggOf Tryz.prog 86=some false:=by kernel_rfl
theorem Y9:aggOf Tryz.prog 90=some false:=by kernel_rfl
theorem by5:byOf Tryz.prog 5=some 1:=by kernel_rfl
theorem ce5:Tryz.prog.cellsOf 5=1:=by kernel_rfl
theorem GR:foOf Tryz.prog 32 0=some 0:=by kernel_rfl
theorem kW:foOf Tryz.prog 32 1=some 1:=by kernel_rfl
theorem o_:foOf Tryz.prog 32 2=some 2:=by kernel_rfl
theorem uF:foOf Tryz.prog 32 3=some 3:=by kernel_rfl
theorem uX:foOf Tryz.prog 32 4=some 4:=by kernel_rfl
theorem t4_:foOf Tryz.prog 92 0=some 0:=by kernel_rfl
theorem ZJ:foOf Tryz.prog 92 1=some 1:=by kernel_rfl
theorem Ot:plainF Tryz.prog 23=true:=by kernel_rfl
theorem NT:plainF Tryz.prog 53=true:=by kernel_rfl
theorem V8:plainF Tryz.prog 54=true:=by kernel_rfl
theorem pf60:plainF Tryz.prog 60=true:=by kernel_rfl
theorem pf94:plainF Tryz.prog 94=true:=by kernel_rfl
theorem nC:szOf Tryz.prog 30=some 1:=by kernel_rfl
theorem fB:szOf Tryz.prog 32=some 5:=by kernel_rfl
theorem sz60:szOf Tryz.prog 60=some 1:=by kernel_rfl
theorem fP:szOf Tryz.prog 86=some 1:=by kernel_rfl
theorem fK:szOf Tryz.prog 9=some 1:=by kernel_rfl
theorem sz90:szOf Tryz.prog 90=some 1:=by kernel_rfl
theorem VR:szOf Tryz.prog 92=some 2:=by kernel_rfl
theorem MJ:zeroOf Tryz.prog 5=some (.int .u8 0):=by kernel_rfl
theorem Vy:zeroOf Tryz.prog 92=some (.agg #[.pointer none,bM]):=by kernel_rfl
def Ep_(bK:Nat):Option ((Nat)⊕(Bool)):=
 nxt (bK+1)
def Vd(x0:ak)(x2:Int)(x1:aB)(bK:Nat):Option ((Nat)⊕(Bool)):=
 aQ (decide ((bK:Int)<((x0.length:Nat):Int))) (aQ (decide ((nth x0 bK 0)<(-1))) (fin (some false)) (aQ (decide (x2<=(nth x0 bK 0))) (fin (some false)) (grd (bK<x1.length) (aQ (decide (4096<(((nth x1 bK []).length:Nat):Int))) (fin (some false)) (aQ (decide ((nth x0 bK 0)=(-1))) (grd (bK<x1.length) (aQ (decide ((nth x1 bK [])≠([]:T_1))) (fin (some false)) (Ep_ bK))) (Ep_ bK)))))) (fin (some true))
def Gk_(x0:ak)(x1:aB)(x2:Int):Option (Bool):=
 aQ (decide (((x0.length:Nat):Int)≠256)) (some false) (aQ (decide (((x1.length:Nat):Int)≠256)) (some false) (bC (λq:Nat=>Vd x0 x2 x1 q) 0))
theorem H6_{σ:aj}{x0:ak}{x1:aB}{x2:Int}(au:dH σ aF aN aK x0)(dN:dH σ aI jd jc x1){r:Bool}(hh:Gk_ x0 x1 x2=some r):
  Con prog 60 #[.slice aN x0.length aK,.slice jd x1.length jc,.int .i64 x2] σ [] (kZ (.bool r) σ):=by
 dsimp only [Gk_]at hh
 have f0_0b:=au.rv.big
 have f1_0b:=dN.rv.big
 refine Con.mk (n:=51) Tryz.func60 z z z (λw0=> ?_)
 refine ξ (TL.j z z (ε (θ (ξ (Ξ z z (ω z (lenC z bY z) (ω z (OpVal.neq z z z) (TL.j z z (TL.split 12 z (λgI=> ?_) (λgI=> ?_))))))))))
 ·replace hh:=ig gI hh
  replace gI:=jk gI
  refine π z (π z (π z (ω z (dQ z z z) (ε (TC.t z (ξ (TL.j z z (ε (TC.ret (S.r ?_))))))))))
  obtain rfl:=so hh
  exact rq [6] ⟨z,z,z⟩
 replace hh:=iw gI hh
 replace gI:=jy gI
 refine Ψ z (gK (.inl z) z) (Ψ z (lenC z fF z) (Ψ z (OpVal.neq z z z) (ω z (dU z z z) (ε (TC.cD z hh (λxP hh=> ?_) (λxP hh=> ?_))))))
 ·refine ξ (TL.j z z (ε (TC.ret (S.r ?_))))
  obtain rfl:=so hh
  exact rq [6] ⟨z,z,z⟩
 refine ι (S.n (θ (ξ (Ξ z z (ω z (lenC z bY z) (ψ z z (ε (υ (TC.iE (α:=(Nat)×(Unit)) (rgs [(6,3),(19,32)]) (λg=>[(19,.int .i64 ((g.1:Nat):Int))]) (λg=>[]) (λg=>σ) (λg=>bC (λq:Nat=>Vd x0 x2 x1 q) g.1=some r) (λg=>fZ (λq:Nat=>Vd x0 x2 x1 q) g.1) (0,()) (Sub.pre 0 z) z (by repeat (first|exact trivial|refine ⟨z,?_⟩)) hh (λg1 j1 hg1=> ?_))))))))))
 obtain ⟨bK,_⟩:=g1
 have hh:=hg1;clear hg1
 try dsimp only
 obtain ⟨z1,hh,hR1⟩:=iq hh
 dsimp only [Vd]at hh
 refine ξ (ω z (OpVal.lss z z z) (ε (θ (TC.cD z hh (λdW hh=> ?_) (λdW hh=> ?_)))))
 ·refine ι (S.n (TC.cutG (α:=(Unit)×(Unit)) (rgs [(6,3),(21,29)]) (λg=>[]) (λg=>[]) (λg=>σ) (λg=>Ep_ bK=some z1) ?_ (λg j hg=> ?_)))
  ·skip
   refine υ (ξ (ψ z z (ω z (bT z bY dh z z au.rv.sl (by omega)) (ω z (fD (0:Int) z fC z au (by omega) z) (ψ z z (ψ z z (ε (ξ (ψ z z (ω z (OpVal.lss z z z) (TL.j z z (TL.split 26 z (λdP=> ?_) (λdP=> ?_)))))))))))))
   ·replace hh:=ig dP hh
    replace dP:=jk dP
    refine π z (π z (π z (ω z (dQ z z z) (TL.j z z (π z (π z (π z (π z (π z (π z (ω z (dQ z z z) (TL.j z z (π z (π z (π z ?_)))))))))))))))
    refine π z (π z (π z (π z (π z (π z (ω z (dQ z z z) (ε (TC.t z (ξ (TL.j z z (ε (TC.ret (B.r (S.r (S.r ?_)))))))))))))))
    replace hh:=dI hR1 hh
    refine B.r (S.r ?_)
    obtain rfl:=so hh
    exact rq [6] ⟨z,z,z⟩
   replace hh:=iw dP hh
   replace dP:=jy dP
   refine Ψ z (cO (.inl z) z) (Ψ z (cO (.inl z) z) (Ψ z (OpVal.geq z z z) (ω z (dU z z z) (TL.j z z (TL.split 31 z (λfH=> ?_) (λfH=> ?_))))))
   ·replace hh:=ig fH hh
    replace fH:=jk fH
    refine π z (π z (π z (π z (π z (π z (ω z (dQ z z z) (TL.j z z (π z (π z (π z (π z (π z (π z (π z (π z ?_)))))))))))))))
    refine π z (ω z (dQ z z z) (ε (TC.t z (ξ (TL.j z z (ε (TC.ret (B.r (S.r (S.r ?_))))))))))
    replace hh:=dI hR1 hh
    refine B.r (S.r ?_)
    obtain rfl:=so hh
    exact rq [6] ⟨z,z,z⟩
   replace hh:=iw fH hh
   replace fH:=jy fH
   refine Ψ z (gK (.inl z) z) (Ψ z (cO (.inl z) z) ?_)
   obtain ⟨u30,hh⟩:=aP hh
   refine Ψ z (bT z fF fK z z dN.rv.sl (by omega)) (Ψ z (fD ([]:T_1) z iK z dN (by omega) z) (Ψ z (rQ z kG z) (Ψ z (OpVal.gtr z z z) (ω z (dU z z z) (TL.j z z (TL.split 39 z (λlY=> ?_) (λlY=> ?_)))))))
   ·replace hh:=ig lY hh
    replace lY:=jk lY
    refine π z (π z (π z (π z (π z (π z (π z (π z (π z (ω z (dQ z z z) (ε (TC.t z (ξ (TL.j z z (ε (TC.ret ?_)))))))))))))))
    refine B.r (S.r (S.r ?_))
    replace hh:=dI hR1 hh
    refine B.r (S.r ?_)
    obtain rfl:=so hh
    exact rq [6] ⟨z,z,z⟩
   replace hh:=iw lY hh
   replace lY:=jy lY
   refine Ψ z (cO (.inl z) z) (Ψ z (OpVal.eql z z z) (Ψ z (moveB (.inl z) z) (TL.split 42 z (λAe=> ?_) (λAe=> ?_))))
   ·replace hh:=ig Ae hh
    replace Ae:=jk Ae
    refine Ψ z (gK (.inl z) z) (Ψ z (cO (.inl z) z) ?_)
    obtain ⟨MS,hh⟩:=aP hh
    refine Ψ z (bT z fF fK z z dN.rv.sl (by omega)) (Ψ z (fD ([]:T_1) z iK z dN (by omega) z) (Ψ z (Iw z z z) (Ψ z (dQ z z z) (ω z (dU z z z) (ε (TC.cD z hh (λLr hh=> ?_) (λLr hh=> ?_)))))))
    ·refine ξ (TL.j z z (ε (TC.ret (B.r (S.r (S.r ?_))))))
     replace hh:=dI hR1 hh
     refine B.r (S.r ?_)
     obtain rfl:=so hh
     exact rq [6] ⟨z,z,z⟩
    exact ι (B.n (S.n (cf ((),()) hh (Sub.pre 0 z))))
   replace hh:=iw Ae hh
   replace Ae:=jy Ae
   exact π z (π z (π z (π z (π z (Ψ z (dU z z z) (ω z (dU z z z) (ε (TC.f z (ι (B.n (S.n (cf ((),()) hh (Sub.pre 0 z)))))))))))))
  skip
  obtain ⟨_,_⟩:=g
  have hh:=hg;clear hg
  try dsimp only
  dsimp only [Ep_]at hh
  refine η (ω z (OpVal.succ z z z (by omega)) (ψ z z (ε ?_)))
  obtain ⟨hh,X6⟩:=dL hR1 hh
  exact lf ((bK+1),()) X6 hh (Sub.pre 0 z)
 refine TC.exit (S.x (S.x ?_))
 replace hh:=dI hR1 hh
 refine Δ (S.n (ξ (TL.j z z (ε (TC.ret ?_)))))
 obtain rfl:=so hh
 exact rq [6] ⟨z,z,z⟩
def Vk(aT:Nat)(x0:Seq):Option ((Nat)⊕(Int)):=
 grd (aT<x0.outs.length) (bnd (Gk_ (nth x0.next aT []) (nth x0.outs aT []) ((x0.next.length:Nat):Int)) (λv85=>aQ (!v85) (fin (some 1)) (nxt (aT+1))))
def Vm(x0:Seq)(aT:Nat):Option ((Nat)⊕(Int)):=
 aQ (decide ((aT:Int)<((x0.next.length:Nat):Int))) (grd (aT<x0.tail.length) (aQ (decide (4096<(((nth x0.tail aT []).length:Nat):Int))) (fin (some 1)) (grd (aT<x0.fin.length) (aQ (!(nth x0.fin aT false)) (grd (aT<x0.tail.length) (aQ (decide ((nth x0.tail aT [])≠([]:T_1))) (fin (some 1)) (Vk aT x0))) (Vk aT x0))))) (fin (some 0))
def D1_(x0:Seq):Option (Int):=
 bC (λq:Nat=>Vm x0 q) 0
def Qh(x0:Seq):Option (Int):=
 aQ (decide (1024<((x0.next.length:Nat):Int))) (some 1) (aQ (decide (((x0.outs.length:Nat):Int)≠((x0.next.length:Nat):Int))) (some 1) (aQ (decide (((x0.fin.length:Nat):Int)≠((x0.next.length:Nat):Int))) (some 1) (aQ (decide (((x0.tail.length:Nat):Int)≠((x0.next.length:Nat):Int))) (some 1) (aQ (decide (4096<((x0.front.length:Nat):Int))) (some 1) (aQ (decide (((x0.next.length:Nat):Int)=0)) (aQ (decide (x0.front≠([]:T_1))) (some 1) (D1_ x0)) (D1_ x0))))))
theorem Ez_{σ:aj}{x0:Seq}(au:RZ σ (aC 1 aF bn) (.slice aN x0.next.length aK) x0.next)(aV:RZ σ (aC 1 aI bF) (.slice aA x0.outs.length aY) x0.outs)(aS:dH σ eq_ aW ay x0.fin)(aO:dH σ aI bI bD x0.tail){r:Int}(hh:Qh x0=some r):
  Con prog 23 #[.agg (qF x0 aN aK aA aY aW ay bI bD)] σ [] (kZ (.int .i64 r) σ):=by
 dsimp only [Qh]at hh
 have f0_0b:=au.big
 have f0_1b:=aV.big
 have f0_2b:=aS.rv.big
 have f0_3b:=aO.rv.big
 refine Con.mk (n:=85) Tryz.func23 z z z (λw0=> ?_)
 refine ξ (ν z (boxA z z z z (λbG=> ?_)))
 refine ψ z z (ε (ξ (ω z (aU z kW z) (ω z (bg z j_ z (i:=0) z z) (ω z (lenC z eX z) (ψ z z (ε (θ (ξ (ψ z z (ω z (OpVal.gtr z z z) (TL.j z z (TL.split 10 z (λgG=> ?_) (λgG=> ?_))))))))))))))
 ·replace hh:=ig gG hh
  replace gG:=jk gG
  refine π z (π z (π z (π z (π z (ω z (dQ z z z) (TL.j z z (π z (π z (π z (π z (π z (ω z (dQ z z z) (TL.j z z (π z (π z ?_)))))))))))))))
  refine π z (π z (π z (ω z (dQ z z z) (ε (TC.t z (ξ (ψ z z (ε (TC.rt 0 (S.r ?_))))))))))
  obtain rfl:=so hh
  exact rq [2] ⟨z,z,z⟩
 replace hh:=iw gG hh
 replace gG:=jy gG
 refine Ψ z (aU z o_ z) (Ψ z (bg z qx z (i:=0) z z) (Ψ z (lenC z mY z) (Ψ z (cO (.inl z) z) (Ψ z (OpVal.neq z z z) (ω z (dU z z z) (TL.j z z (TL.split 17 z (λgB=> ?_) (λgB=> ?_))))))))
 ·replace hh:=ig gB hh
  replace gB:=jk gB
  refine π z (π z (π z (π z (π z (ω z (dQ z z z) (TL.j z z (π z (π z (π z (π z (π z (ω z (dQ z z z) (ε (TC.t z (ξ ?_)))))))))))))))
  refine ψ z z (ε (TC.rt 0 (S.r ?_)))
  obtain rfl:=so hh
  exact rq [2] ⟨z,z,z⟩
 replace hh:=iw gB hh
 replace gB:=jy gB
 refine Ψ z (aU z uF z) (Ψ z (bg z rX z (i:=0) z z) (Ψ z (lenC z g_ z) (Ψ z (cO (.inl z) z) (Ψ z (OpVal.neq z z z) (ω z (dU z z z) (TL.j z z (TL.split 24 z (λdM=> ?_) (λdM=> ?_))))))))
 ·replace hh:=ig dM hh
  replace dM:=jk dM
  refine π z (π z (π z (π z (π z (ω z (dQ z z z) (ε (TC.t z (ξ (ψ z z (ε (TC.rt 0 (S.r ?_))))))))))))
  obtain rfl:=so hh
  exact rq [2] ⟨z,z,z⟩
 replace hh:=iw dM hh
 replace dM:=jy dM
 refine Ψ z (aU z uX z) (Ψ z (bg z mJ z (i:=0) z z) (Ψ z (lenC z fF z) (Ψ z (cO (.inl z) z) (Ψ z (OpVal.neq z z z) (ω z (dU z z z) (ε (TC.cD z hh (λdW hh=> ?_) (λdW hh=> ?_))))))))
 ·refine ξ (ψ z z (ε (TC.rt 0 (S.r ?_))))
  obtain rfl:=so hh
  exact rq [2] ⟨z,z,z⟩
 refine ι (S.n (TC.cutG (α:=(Unit)×(Unit)) (rgs [(2,1),(31,13)]) (λg=>[]) (λg=>[jh bG x0 aN aK aA aY aW ay bI bD]) (λg=>σ) (λg=>D1_ x0=some r) ?_ (λg j hg=> ?_)))
 ·skip
  refine ξ (ω z (aU z GR z) (ω z (bg z iK z (i:=0) z z) (ω z (rQ z kG z) (ω z (OpVal.gtr z z z) (TL.j z z (TL.split 35 z (λdP=> ?_) (λdP=> ?_)))))))
  ·replace hh:=ig dP hh
   replace dP:=jk dP
   refine π z (π z (π z (π z (π z (π z (π z (ω z (dQ z z z) (ε (TC.t z (ξ (ψ z z (ε (TC.rt 0 (S.r ?_))))))))))))))
   obtain rfl:=so hh
   exact rq [2] ⟨z,z,z⟩
  replace hh:=iw dP hh
  replace dP:=jy dP
  refine Ψ z (cO (.inl z) z) (Ψ z (OpVal.eql z z z) (Ψ z (moveB (.inl z) z) (TL.split 38 z (λfH=> ?_) (λfH=> ?_))))
  ·replace hh:=ig fH hh
   replace fH:=jk fH
   refine Ψ z (aU z GR z) (Ψ z (bg z iK z (i:=0) z z) (Ψ z (Iw z z z) (Ψ z (dQ z z z) (ω z (dU z z z) (ε (TC.cD z hh (λlY hh=> ?_) (λlY hh=> ?_)))))))
   ·refine ξ (ψ z z (ε (TC.rt 0 (S.r ?_))))
    obtain rfl:=so hh
    exact rq [2] ⟨z,z,z⟩
   exact ι (S.n (cf ((),()) hh (Sub.pre 1 z)))
  replace hh:=iw fH hh
  replace fH:=jy fH
  exact π z (π z (π z (Ψ z (dU z z z) (ω z (dU z z z) (ε (TC.f z (ι (S.n (cf ((),()) hh (Sub.pre 1 z))))))))))
 skip
 obtain ⟨_,_⟩:=g
 have hh:=hg;clear hg
 try dsimp only
 dsimp only [D1_]at hh
 refine θ (ξ (ψ z z (ψ z z (ε (υ (TC.iE (α:=(Nat)×(Unit)) (rgs [(2,1),(4,1),(45,40)]) (λg=>[(45,.int .i64 ((g.1:Nat):Int))]) (λg=>[jh bG x0 aN aK aA aY aW ay bI bD]) (λg=>σ) (λg=>bC (λq:Nat=>Vm x0 q) g.1=some r) (λg=>fZ (λq:Nat=>Vm x0 q) g.1) (0,()) (Sub.pre 1 z) z (by repeat (first|exact trivial|refine ⟨z,?_⟩)) hh (λg1 j1 hg1=> ?_)))))))
 obtain ⟨aT,_⟩:=g1
 have hh:=hg1;clear hg1
 try dsimp only
 obtain ⟨z1,hh,hR1⟩:=iq hh
 dsimp only [Vm]at hh
 refine ξ (ω z (OpVal.lss z z z) (ε (θ (TC.cD z hh (λAd hh=> ?_) (λAd hh=> ?_)))))
 ·refine ι (S.n (θ (υ (ξ (ψ z z (ψ z z (ε (TC.cutG (α:=(Unit)×(Unit)) (rgs [(2,1),(48,23)]) (λg=>[]) (λg=>[jh bG x0 aN aK aA aY aW ay bI bD]) (λg=>σ) (λg=>Vk aT x0=some z1) ?_ (λg j hg=> ?_)))))))))
  ·skip
   refine ξ (ω z (aU z uX z) (ω z (bg z mJ z (i:=0) z z) (ψ z z ?_)))
   obtain ⟨u53,hh⟩:=aP hh
   refine ω z (bT z fF fK z z aO.rv.sl (by omega)) (ω z (fD ([]:T_1) z iK z aO (by omega) z) (ω z (rQ z kG z) (ω z (OpVal.gtr z z z) (TL.j z z (TL.split 55 z (λjX=> ?_) (λjX=> ?_))))))
   ·replace hh:=ig jX hh
    replace jX:=jk jX
    refine π z (π z (π z (π z (π z (π z (π z (π z (π z (π z (π z (π z (π z (π z (ω z (dQ z z z) (ε ?_)))))))))))))))
    refine TC.t z (ξ (ψ z z (ε (TC.rt 0 (S.r (B.r (S.r (S.r ?_))))))))
    replace hh:=dI hR1 hh
    refine B.r (S.r ?_)
    obtain rfl:=so hh
    exact rq [2] ⟨z,z,z⟩
   replace hh:=iw jX hh
   replace jX:=jy jX
   refine Ψ z (aU z uF z) (Ψ z (bg z rX z (i:=0) z z) (Ψ z (cO (.inl z) z) ?_))
   obtain ⟨u61,hh⟩:=aP hh
   refine Ψ z (bT z g_ gV z z aS.rv.sl (by omega)) (Ψ z (fD false z nX z aS (by omega) z) (Ψ z (OpVal.not z z) (Ψ z (moveB (.inl z) z) (TL.split 62 z (λrO=> ?_) (λrO=> ?_)))))
   ·replace hh:=ig rO hh
    refine Ψ z (aU z uX z) (Ψ z (bg z mJ z (i:=0) z z) (Ψ z (cO (.inl z) z) ?_))
    obtain ⟨u68,hh⟩:=aP hh
    refine Ψ z (bT z fF fK z z aO.rv.sl (by omega)) (Ψ z (fD ([]:T_1) z iK z aO (by omega) z) (Ψ z (Iw z z z) (Ψ z (dQ z z z) (ω z (dU z z z) (ε (TC.cD z hh (λh116 hh=> ?_) (λh116 hh=> ?_)))))))
    ·refine ξ (ψ z z (ε (TC.rt 0 (S.r (B.r (S.r (S.r ?_)))))))
     replace hh:=dI hR1 hh
     refine B.r (S.r ?_)
     obtain rfl:=so hh
     exact rq [2] ⟨z,z,z⟩
    exact ι (S.n (cf ((),()) hh (Sub.pre 1 z)))
   replace hh:=iw rO hh
   exact π z (π z (π z (π z (π z (π z (Ψ z (dU z z z) (ω z (dU z z z) (ε (TC.f z (ι (S.n (cf ((),()) hh (Sub.pre 1 z)))))))))))))
  skip
  obtain ⟨_,_⟩:=g
  have hh:=hg;clear hg
  try dsimp only
  dsimp only [Vk]at hh
  refine θ ?_
  obtain ⟨NY,hh⟩:=aP hh
  obtain ⟨v85,u85,hh⟩:=dJ hh
  refine TC.draw [] (by kernel_rfl) (TA.a 0 z (aU z kW z) z (TA.b 1 z (bg z j_ z (i:=0) z z) z (TA.a 2 z (cO (.inl z) z) z (TA.b 3 z (bT z eX fP z z au.isSl (by omega)) z ?_))))
  obtain ⟨sJ,lW,CZ⟩:=RZ.seg au aT (by omega)
  replace lW:dH _ aF sJ.1 sJ.2 (nth x0.next aT []):=lW
  have hk119b:=lW.rv.big
  refine TA.b 4 z (OpVal.of (lZ z hs_ z CZ z) (v':= .slice sJ.1 ((nth x0.next aT []).length) sJ.2) z) z (TA.a 5 z (aU z o_ z) z (TA.b 6 z (bg z qx z (i:=0) z z) z (TA.a 7 z (cO (.inl z) z) z (TA.b 8 z (bT z mY nC z z aV.isSl (by omega)) z ?_))))
  obtain ⟨zC,qO,KY⟩:=RZ.seg aV aT (by omega)
  replace qO:dH _ aI zC.1 zC.2 (nth x0.outs aT []):=qO
  have hk120b:=qO.rv.big
  refine TA.b 9 z (OpVal.of (lZ z mJ z KY z) (v':= .slice zC.1 ((nth x0.outs aT []).length) zC.2) z) z (TA.a 10 z (cO (.inl z) z) z (TA.ac 11 z (kD (H6_ lW qO u85) z z pf60 z z z (k0 ?_))))
  refine TA.a 12 z (OpVal.not z z) z (TA.dn (S.n (TC.cB z hh (λEL hh=> ?_) (λEL hh=> ?_))))
  ·refine ξ (ψ z z (ε (TC.rt 0 (B.r (S.r (S.r ?_))))))
   replace hh:=dI hR1 hh
   refine B.r (S.r ?_)
   obtain rfl:=so hh
   exact rq [2] ⟨z,z,z⟩
  refine ι (B.n (S.n (η (ω z (OpVal.succ z z z (by omega)) (ψ z z (ε ?_))))))
  obtain ⟨hh,X3⟩:=dL hR1 hh
  exact lf ((aT+1),()) X3 hh (Sub.pre 1 z)
 refine TC.exit (S.x (S.x ?_))
 replace hh:=dI hR1 hh
 refine Δ (S.n (ξ (ψ z z (ε (TC.rt 0 ?_)))))
 obtain rfl:=so hh
 exact rq [2] ⟨z,z,z⟩
def NG(x0:Seq)(jW:Nat)(Pn:Int)(Hy:Nat):Option ((Int×Nat)⊕((Nat)⊕(Bool))):=
 aQ (decide ((Hy:Int)<(((nth x0.outs jW []).length:Nat):Int))) (nxt ((IntKind.i64.wrap (Pn+(((nth (nth x0.outs jW []) Hy []).length:Nat):Int))),(Hy+1))) (fin (aQ (decide (20000<Pn)) (fin (some false)) (nxt (jW+1))))
def QN(x0:Seq)(jW:Nat):Option ((Nat)⊕(Bool)):=
 aQ (decide ((jW:Int)<((x0.outs.length:Nat):Int))) (aQ (decide (300<(((nth x0.outs jW []).length:Nat):Int))) (fin (some false)) (bC (λq:Int×Nat=>NG x0 jW q.1 q.2) (0,0))) (fin (some true))
def Dh_(x0:Seq):Option (Bool):=
 aQ (decide (12<((x0.next.length:Nat):Int))) (some false) (aQ (decide (13<((x0.outs.length:Nat):Int))) (some false) (aQ (decide (5000<((x0.front.length:Nat):Int))) (some false) (bC (λq:Nat=>QN x0 q) 0)))
theorem Gr_{σ:aj}{x0:Seq}(au:RZ σ (aC 1 aF bn) (.slice aN x0.next.length aK) x0.next)(aV:RZ σ (aC 1 aI bF) (.slice aA x0.outs.length aY) x0.outs)(aS:dH σ eq_ aW ay x0.fin)(aO:dH σ aI bI bD x0.tail){r:Bool}(hh:Dh_ x0=some r):
  Con prog 18 #[.agg (qF x0 aN aK aA aY aW ay bI bD)] σ [] (kZ (.bool r) σ):=by
 dsimp only [Dh_]at hh
 have f0_0b:=au.big
 have f0_1b:=aV.big
 have f0_2b:=aS.rv.big
 have f0_3b:=aO.rv.big
 refine Con.mk (n:=59) Tryz.func18 z z z (λw0=> ?_)
 refine ξ (ν z (boxA z z z z (λbG=> ?_)))
 refine TL.j z z (ε (θ (ξ (ω z (aU z kW z) (ω z (bg z j_ z (i:=0) z z) (ω z (lenC z eX z) (ω z (OpVal.gtr z z z) (TL.j z z (TL.split 10 z (λgG=> ?_) (λgG=> ?_))))))))))
 ·replace hh:=ig gG hh
  replace gG:=jk gG
  refine π z (π z (π z (π z (ω z (dQ z z z) (TL.j z z (π z (π z (π z (π z (ω z (dQ z z z) (ε (TC.t z (ξ (TL.j z z (ε ?_)))))))))))))))
  refine TC.rt 0 (S.r ?_)
  obtain rfl:=so hh
  exact rq [2] ⟨z,z,z⟩
 replace hh:=iw gG hh
 replace gG:=jy gG
 refine Ψ z (aU z o_ z) (Ψ z (bg z qx z (i:=0) z z) (Ψ z (lenC z mY z) (Ψ z (OpVal.gtr z z z) (ω z (dU z z z) (TL.j z z (TL.split 16 z (λgB=> ?_) (λgB=> ?_)))))))
 ·replace hh:=ig gB hh
  replace gB:=jk gB
  refine π z (π z (π z (π z (ω z (dQ z z z) (ε (TC.t z (ξ (TL.j z z (ε (TC.rt 0 (S.r ?_)))))))))))
  obtain rfl:=so hh
  exact rq [2] ⟨z,z,z⟩
 replace hh:=iw gB hh
 replace gB:=jy gB
 refine Ψ z (aU z GR z) (Ψ z (bg z iK z (i:=0) z z) (Ψ z (rQ z kG z) (Ψ z (OpVal.gtr z z z) (ω z (dU z z z) (ε (TC.cD z hh (λdM hh=> ?_) (λdM hh=> ?_)))))))
 ·refine ξ (TL.j z z (ε (TC.rt 0 (S.r ?_))))
  obtain rfl:=so hh
  exact rq [2] ⟨z,z,z⟩
 refine ι (S.n (θ (ξ (ψ z z (ε (υ (TC.iE (α:=(Nat)×(Unit)) (rgs [(2,4),(22,37)]) (λg=>[(3,.int .i64 ((g.1:Nat):Int))]) (λg=>[jh bG x0 aN aK aA aY aW ay bI bD]) (λg=>σ) (λg=>bC (λq:Nat=>QN x0 q) g.1=some r) (λg=>fZ (λq:Nat=>QN x0 q) g.1) (0,()) (Sub.pre 1 z) z (by repeat (first|exact trivial|refine ⟨z,?_⟩)) hh (λg1 j1 hg1=> ?_))))))))
 obtain ⟨jW,_⟩:=g1
 have hh:=hg1;clear hg1
 try dsimp only
 obtain ⟨z1,hh,hR1⟩:=iq hh
 dsimp only [QN]at hh
 refine θ (ξ (ψ z z (ω z (aU z o_ z) (ω z (bg z qx z (i:=0) z z) (ω z (lenC z mY z) (ω z (OpVal.lss z z z) (ε (TC.cD z hh (λlY hh=> ?_) (λlY hh=> ?_)))))))))
 ·refine ι (S.n (θ (υ (θ (ξ (ω z (aU z o_ z) (ω z (bg z qx z (i:=0) z z) (ψ z z (ω z (bT z mY nC z z aV.isSl (by omega)) ?_)))))))))
  obtain ⟨OX,KQ,hg110⟩:=RZ.seg aV jW (by omega)
  replace KQ:dH _ aI OX.1 OX.2 (nth x0.outs jW []):=KQ
  have hk110b:=KQ.rv.big
  refine ω z (OpVal.of (lZ z mJ z hg110 z) (v':= .slice OX.1 ((nth x0.outs jW []).length) OX.2) z) (ω z (lenC z fF z) (ω z (OpVal.gtr z z z) (ε (TC.cD z hh (λLr hh=> ?_) (λLr hh=> ?_)))))
  ·refine ξ (TL.j z z (ε (TC.rt 0 (S.r (B.r (S.r (S.r ?_)))))))
   replace hh:=dI hR1 hh
   refine B.r (S.r ?_)
   obtain rfl:=so hh
   exact rq [2] ⟨z,z,z⟩
  refine ι (S.n (ξ (ψ z z (ε (θ (ξ (ψ z z (ε (υ (TC.iE (α:=(Int×Nat)×(Unit)) (rgs [(4,2),(36,21)]) (λg=>[(4,.int .i64 g.1.1),(5,.int .i64 ((g.1.2:Nat):Int))]) (λg=>[jh bG x0 aN aK aA aY aW ay bI bD]) (λg=>σ) (λg=>bC (λq:Int×Nat=>NG x0 jW q.1 q.2) g.1=some z1) (λg=>fZ (λq:Int×Nat=>NG x0 jW q.1 q.2) g.1) ((0,0),()) (Sub.pre 1 z) z (by repeat (first|exact trivial|refine ⟨z,?_⟩)) hh (λg2 j2 hg2=> ?_)))))))))))
  obtain ⟨⟨Pn,Hy⟩,_⟩:=g2
  have hh:=hg2;clear hg2
  try dsimp only
  obtain ⟨z2,hh,hR2⟩:=iq hh
  dsimp only [NG]at hh
  refine θ (ξ (ψ z z (ω z (aU z o_ z) (ω z (bg z qx z (i:=0) z z) (ψ z z (ω z (bT z mY nC z z aV.isSl (by omega)) ?_))))))
  obtain ⟨sK,mP,C9⟩:=RZ.seg aV jW (by omega)
  replace mP:dH _ aI sK.1 sK.2 (nth x0.outs jW []):=mP
  have hk118b:=mP.rv.big
  refine ω z (OpVal.of (lZ z mJ z C9 z) (v':= .slice sK.1 ((nth x0.outs jW []).length) sK.2) z) (ω z (lenC z fF z) (ω z (OpVal.lss z z z) (ε (TC.cD z hh (λh119 hh=> ?_) (λh119 hh=> ?_)))))
  ·refine ι (S.n (θ (υ (η (ψ z z (ω z (aU z o_ z) (ω z (bg z qx z (i:=0) z z) (ψ z z (ω z (bT z mY nC z z aV.isSl (by omega)) ?_)))))))))
   obtain ⟨zC,qO,KY⟩:=RZ.seg aV jW (by omega)
   replace qO:dH _ aI zC.1 zC.2 (nth x0.outs jW []):=qO
   have hk120b:=qO.rv.big
   refine ω z (OpVal.of (lZ z mJ z KY z) (v':= .slice zC.1 ((nth x0.outs jW []).length) zC.2) z) (ψ z z (ω z (bT z fF fK z z qO.rv.sl (by omega)) (ω z (fD ([]:T_1) z iK z qO (by omega) z) (ω z (rQ z kG z) (ω z (addW z z z) (ψ z z (TL.nil (B.n (S.n (η (ψ z z (ω z (OpVal.succ z z z (by omega)) (ψ z z (ε ?_))))))))))))))
   obtain ⟨hh,Eb⟩:=dL hR2 hh
   exact lf (((IntKind.i64.wrap (Pn+(((nth (nth x0.outs jW []) Hy []).length:Nat):Int))),(Hy+1)),()) Eb hh (Sub.pre 1 z)
  refine TC.exit (S.x (S.x ?_))
  replace hh:=dI hR2 hh
  refine Δ (S.n (ξ (ψ z z (ω z (OpVal.gtr z z z) (ε (TC.cD z hh (λh122 hh=> ?_) (λh122 hh=> ?_)))))))
  ·refine ξ (TL.j z z (ε (TC.rt 0 (B.r (S.r (S.r ?_))))))
   replace hh:=dI hR1 hh
   refine B.r (S.r ?_)
   obtain rfl:=so hh
   exact rq [2] ⟨z,z,z⟩
  refine ι (B.n (S.n (η (ψ z z (ω z (OpVal.succ z z z (by omega)) (ψ z z (ε ?_)))))))
  obtain ⟨hh,X0⟩:=dL hR1 hh
  exact lf ((jW+1),()) X0 hh (Sub.pre 1 z)
 refine TC.exit (S.x (S.x ?_))
 replace hh:=dI hR1 hh
 refine Δ (S.n (ξ (TL.j z z (ε (TC.rt 0 ?_)))))
 obtain rfl:=so hh
 exact rq [2] ⟨z,z,z⟩
def Bo_(fE:Nat):Option ((Nat)⊕((Nat)⊕(Bool))):=
 nxt (fE+1)
def Vu(x0:Seq)(aT:Nat)(fE:Nat):Option ((Nat)⊕((Nat)⊕(Bool))):=
 aQ (decide ((fE:Int)<256)) (grd (fE<(nth x0.next aT []).length) (grd (aT<x0.outs.length) (grd (fE<(nth x0.outs aT []).length) (aQ (decide ((nth (nth x0.next aT []) fE 0)<(-1))) (fin (fin (some false))) (aQ (decide (((x0.next.length:Nat):Int)<=(nth (nth x0.next aT []) fE 0))) (fin (fin (some false))) (aQ (decide ((nth (nth x0.next aT []) fE 0)=(-1))) (aQ (decide ((nth (nth x0.outs aT []) fE [])≠([]:T_1))) (fin (fin (some false))) (aQ (decide (4096<(((nth (nth x0.outs aT []) fE []).length:Nat):Int))) (fin (fin (some false))) (Bo_ fE))) (aQ (decide (4096<(((nth (nth x0.outs aT []) fE []).length:Nat):Int))) (fin (fin (some false))) (Bo_ fE)))))))) (fin (nxt (aT+1)))
def ZC(x0:Seq)(aT:Nat):Option ((Nat)⊕(Bool)):=
 bC (λq:Nat=>Vu x0 aT q) 0
def Vt(x0:Seq)(aT:Nat):Option ((Nat)⊕(Bool)):=
 aQ (decide ((aT:Int)<((x0.next.length:Nat):Int))) (aQ (decide ((((nth x0.next aT []).length:Nat):Int)≠256)) (fin (some false)) (grd (aT<x0.outs.length) (aQ (decide ((((nth x0.outs aT []).length:Nat):Int)≠256)) (fin (some false)) (grd (aT<x0.tail.length) (aQ (decide (4096<(((nth x0.tail aT []).length:Nat):Int))) (fin (some false)) (grd (aT<x0.fin.length) (aQ (!(nth x0.fin aT false)) (grd (aT<x0.tail.length) (aQ (decide ((nth x0.tail aT [])≠([]:T_1))) (fin (some false)) (ZC x0 aT))) (ZC x0 aT)))))))) (fin (some true))
def Bp_(x0:Seq):Option (Bool):=
 bC (λq:Nat=>Vt x0 q) 0
def Zz(x0:Seq):Option (Bool):=
 aQ (decide (1024<((x0.next.length:Nat):Int))) (some false) (aQ (decide (((x0.outs.length:Nat):Int)≠((x0.next.length:Nat):Int))) (some false) (aQ (decide (((x0.fin.length:Nat):Int)≠((x0.next.length:Nat):Int))) (some false) (aQ (decide (((x0.tail.length:Nat):Int)≠((x0.next.length:Nat):Int))) (some false) (aQ (decide (4096<((x0.front.length:Nat):Int))) (some false) (aQ (decide (((x0.next.length:Nat):Int)=0)) (aQ (decide (x0.front≠([]:T_1))) (some false) (Bp_ x0)) (Bp_ x0))))))
theorem Et_{σ:aj}{x0:Seq}(au:RZ σ (aC 1 aF bn) (.slice aN x0.next.length aK) x0.next)(aV:RZ σ (aC 1 aI bF) (.slice aA x0.outs.length aY) x0.outs)(aS:dH σ eq_ aW ay x0.fin)(aO:dH σ aI bI bD x0.tail){r:Bool}(hh:Zz x0=some r):
  Con prog 55 #[.agg (qF x0 aN aK aA aY aW ay bI bD)] σ [] (kZ (.bool r) σ):=by
 dsimp only [Zz]at hh
 have f0_0b:=au.big
 have f0_1b:=aV.big
 have f0_2b:=aS.rv.big
 have f0_3b:=aO.rv.big
 refine Con.mk (n:=135) Tryz.func55 z z z (λw0=> ?_)
 refine ξ (ν z (boxA z z z z (λbG=> ?_)))
 refine TL.j z z (ε (ξ (ω z (aU z kW z) (ω z (bg z j_ z (i:=0) z z) (ω z (lenC z eX z) (ψ z z (ε (TC.cutG (α:=(Unit)×(Unit)) (rgs [(2,1),(11,38)]) (λg=>[]) (λg=>[jh bG x0 aN aK aA aY aW ay bI bD]) (λg=>σ) (λg=>Bp_ x0=some r) ?_ (λg j hg=> ?_)))))))))
 ·skip
  refine ξ (ψ z z (ω z (OpVal.gtr z z z) (TL.j z z (TL.split 13 z (λgG=> ?_) (λgG=> ?_)))))
  ·replace hh:=ig gG hh
   replace gG:=jk gG
   refine π z (π z (π z (π z (π z (ω z (dQ z z z) (TL.j z z (π z (π z (π z (π z (π z (ω z (dQ z z z) (TL.j z z (π z (π z ?_)))))))))))))))
   refine π z (π z (π z (ω z (dQ z z z) (TL.j z z (π z (π z (π z (π z (ω z (dQ z z z) (TL.j z z (π z (π z (π z (π z (π z ?_)))))))))))))))
   refine π z (π z (ω z (dQ z z z) (ε (TC.t z (ξ (TL.j z z (ε (TC.rt 0 (S.r ?_)))))))))
   obtain rfl:=so hh
   exact rq [2] ⟨z,z,z⟩
  replace hh:=iw gG hh
  replace gG:=jy gG
  refine Ψ z (aU z o_ z) (Ψ z (bg z qx z (i:=0) z z) (Ψ z (lenC z mY z) (Ψ z (cO (.inl z) z) (Ψ z (OpVal.neq z z z) (ω z (dU z z z) (TL.j z z (TL.split 20 z (λgB=> ?_) (λgB=> ?_))))))))
  ·replace hh:=ig gB hh
   replace gB:=jk gB
   refine π z (π z (π z (π z (π z (ω z (dQ z z z) (TL.j z z (π z (π z (π z (π z (π z (ω z (dQ z z z) (TL.j z z (π z (π z ?_)))))))))))))))
   refine π z (π z (ω z (dQ z z z) (TL.j z z (π z (π z (π z (π z (π z (π z (π z (ω z (dQ z z z) (ε (TC.t z (ξ (TL.j z z ?_)))))))))))))))
   refine ε (TC.rt 0 (S.r ?_))
   obtain rfl:=so hh
   exact rq [2] ⟨z,z,z⟩
  replace hh:=iw gB hh
  replace gB:=jy gB
  refine Ψ z (aU z uF z) (Ψ z (bg z rX z (i:=0) z z) (Ψ z (lenC z g_ z) (Ψ z (cO (.inl z) z) (Ψ z (OpVal.neq z z z) (ω z (dU z z z) (TL.j z z (TL.split 27 z (λdM=> ?_) (λdM=> ?_))))))))
  ·replace hh:=ig dM hh
   replace dM:=jk dM
   refine π z (π z (π z (π z (π z (ω z (dQ z z z) (TL.j z z (π z (π z (π z (π z (ω z (dQ z z z) (TL.j z z (π z (π z (π z ?_)))))))))))))))
   refine π z (π z (π z (π z (ω z (dQ z z z) (ε (TC.t z (ξ (TL.j z z (ε (TC.rt 0 (S.r ?_)))))))))))
   obtain rfl:=so hh
   exact rq [2] ⟨z,z,z⟩
  replace hh:=iw dM hh
  replace dM:=jy dM
  refine Ψ z (aU z uX z) (Ψ z (bg z mJ z (i:=0) z z) (Ψ z (lenC z fF z) (Ψ z (cO (.inl z) z) (Ψ z (OpVal.neq z z z) (ω z (dU z z z) (TL.j z z (TL.split 34 z (λdW=> ?_) (λdW=> ?_))))))))
  ·replace hh:=ig dW hh
   replace dW:=jk dW
   refine π z (π z (π z (π z (ω z (dQ z z z) (TL.j z z (π z (π z (π z (π z (π z (π z (π z (ω z (dQ z z z) (ε (TC.t z ?_)))))))))))))))
   refine ξ (TL.j z z (ε (TC.rt 0 (S.r ?_))))
   obtain rfl:=so hh
   exact rq [2] ⟨z,z,z⟩
  replace hh:=iw dW hh
  replace dW:=jy dW
  refine Ψ z (aU z GR z) (Ψ z (bg z iK z (i:=0) z z) (Ψ z (rQ z kG z) (Ψ z (OpVal.gtr z z z) (ω z (dU z z z) (TL.j z z (TL.split 40 z (λdP=> ?_) (λdP=> ?_)))))))
  ·replace hh:=ig dP hh
   replace dP:=jk dP
   refine π z (π z (π z (π z (π z (π z (π z (ω z (dQ z z z) (ε (TC.t z (ξ (TL.j z z (ε (TC.rt 0 (S.r ?_))))))))))))))
   obtain rfl:=so hh
   exact rq [2] ⟨z,z,z⟩
  replace hh:=iw dP hh
  replace dP:=jy dP
  refine Ψ z (cO (.inl z) z) (Ψ z (OpVal.eql z z z) (Ψ z (moveB (.inl z) z) (TL.split 43 z (λfH=> ?_) (λfH=> ?_))))
  ·replace hh:=ig fH hh
   replace fH:=jk fH
   refine Ψ z (aU z GR z) (Ψ z (bg z iK z (i:=0) z z) (Ψ z (Iw z z z) (Ψ z (dQ z z z) (ω z (dU z z z) (ε (TC.cD z hh (λlY hh=> ?_) (λlY hh=> ?_)))))))
   ·refine ξ (TL.j z z (ε (TC.rt 0 (S.r ?_))))
    obtain rfl:=so hh
    exact rq [2] ⟨z,z,z⟩
   exact ι (S.n (cf ((),()) hh (Sub.pre 1 z)))
  replace hh:=iw fH hh
  replace fH:=jy fH
  exact π z (π z (π z (Ψ z (dU z z z) (ω z (dU z z z) (ε (TC.f z (ι (S.n (cf ((),()) hh (Sub.pre 1 z))))))))))
 skip
 obtain ⟨_,_⟩:=g
 have hh:=hg;clear hg
 try dsimp only
 dsimp only [Bp_]at hh
 refine θ (ξ (ψ z z (ε (υ (TC.iE (α:=(Nat)×(Unit)) (rgs [(2,1),(4,4),(49,86)]) (λg=>[(4,.int .i64 ((g.1:Nat):Int))]) (λg=>[jh bG x0 aN aK aA aY aW ay bI bD]) (λg=>σ) (λg=>bC (λq:Nat=>Vt x0 q) g.1=some r) (λg=>fZ (λq:Nat=>Vt x0 q) g.1) (0,()) (Sub.pre 1 z) z (by repeat (first|exact trivial|refine ⟨z,?_⟩)) hh (λg1 j1 hg1=> ?_))))))
 obtain ⟨aT,_⟩:=g1
 have hh:=hg1;clear hg1
 try dsimp only
 obtain ⟨z1,hh,hR1⟩:=iq hh
 dsimp only [Vt]at hh
 refine θ (ξ (ψ z z (ψ z z (ω z (OpVal.lss z z z) (ε (TC.cD z hh (λAd hh=> ?_) (λAd hh=> ?_)))))))
 ·refine ι (S.n (θ (υ (TC.cutG (α:=(Unit)×(Unit)) (rgs [(2,1),(54,41)]) (λg=>[]) (λg=>[jh bG x0 aN aK aA aY aW ay bI bD]) (λg=>σ) (λg=>ZC x0 aT=some z1) ?_ (λg j hg=> ?_)))))
  ·skip
   refine ξ (ω z (aU z kW z) (ω z (bg z j_ z (i:=0) z z) (ψ z z (ω z (bT z eX fP z z au.isSl (by omega)) ?_))))
   obtain ⟨zD,uV,KZ⟩:=RZ.seg au aT (by omega)
   replace uV:dH _ aF zD.1 zD.2 (nth x0.next aT []):=uV
   have hk114b:=uV.rv.big
   refine ω z (OpVal.of (lZ z hs_ z KZ z) (v':= .slice zD.1 ((nth x0.next aT []).length) zD.2) z) (ω z (lenC z bY z) (ω z (OpVal.neq z z z) (TL.j z z (TL.split 61 z (λrO=> ?_) (λrO=> ?_)))))
   ·replace hh:=ig rO hh
    replace rO:=jk rO
    refine π z (π z (π z (π z (π z (π z (π z (ω z (dQ z z z) (TL.j z z (π z (π z (π z (π z (π z (π z (π z ?_)))))))))))))))
    refine ω z (dQ z z z) (TL.j z z (π z (π z (π z (π z (π z (π z (π z (π z (π z (π z (π z (π z (π z (π z ?_)))))))))))))))
    refine ω z (dQ z z z) (ε (TC.t z (ξ (TL.j z z (ε (TC.rt 0 (S.r (B.r (S.r (S.r ?_))))))))))
    replace hh:=dI hR1 hh
    refine B.r (S.r ?_)
    obtain rfl:=so hh
    exact rq [2] ⟨z,z,z⟩
   replace hh:=iw rO hh
   replace rO:=jy rO
   refine Ψ z (aU z o_ z) (Ψ z (bg z qx z (i:=0) z z) (Ψ z (cO (.inl z) z) ?_))
   obtain ⟨u61,hh⟩:=aP hh
   refine Ψ z (bT z mY nC z z aV.isSl (by omega)) ?_
   obtain ⟨OU,KP,hg116⟩:=RZ.seg aV aT (by omega)
   replace KP:dH _ aI OU.1 OU.2 (nth x0.outs aT []):=KP
   have hk116b:=KP.rv.big
   refine Ψ z (OpVal.of (lZ z mJ z hg116 z) (v':= .slice OU.1 ((nth x0.outs aT []).length) OU.2) z) (Ψ z (lenC z fF z) (Ψ z (OpVal.neq z z z) (ω z (dU z z z) (TL.j z z (TL.split 70 z (λql=> ?_) (λql=> ?_))))))
   ·replace hh:=ig ql hh
    replace ql:=jk ql
    refine π z (π z (π z (π z (π z (π z (π z (ω z (dQ z z z) (TL.j z z (π z (π z (π z (π z (π z (π z (π z ?_)))))))))))))))
    refine π z (π z (π z (π z (π z (π z (π z (ω z (dQ z z z) (ε (TC.t z (ξ (TL.j z z (ε (TC.rt 0 (S.r (B.r ?_)))))))))))))))
    refine S.r (S.r ?_)
    replace hh:=dI hR1 hh
    refine B.r (S.r ?_)
    obtain rfl:=so hh
    exact rq [2] ⟨z,z,z⟩
   replace hh:=iw ql hh
   replace ql:=jy ql
   refine Ψ z (aU z uX z) (Ψ z (bg z mJ z (i:=0) z z) (Ψ z (cO (.inl z) z) ?_))
   obtain ⟨u70,hh⟩:=aP hh
   refine Ψ z (bT z fF fK z z aO.rv.sl (by omega)) (Ψ z (fD ([]:T_1) z iK z aO (by omega) z) (Ψ z (rQ z kG z) (Ψ z (OpVal.gtr z z z) (ω z (dU z z z) (TL.j z z (TL.split 79 z (λEM=> ?_) (λEM=> ?_)))))))
   ·replace hh:=ig EM hh
    replace EM:=jk EM
    refine π z (π z (π z (π z (π z (π z (π z (π z (π z (π z (π z (π z (π z (π z (ω z (dQ z z z) (ε ?_)))))))))))))))
    refine TC.t z (ξ (TL.j z z (ε (TC.rt 0 (S.r (B.r (S.r (S.r ?_))))))))
    replace hh:=dI hR1 hh
    refine B.r (S.r ?_)
    obtain rfl:=so hh
    exact rq [2] ⟨z,z,z⟩
   replace hh:=iw EM hh
   replace EM:=jy EM
   refine Ψ z (aU z uF z) (Ψ z (bg z rX z (i:=0) z z) (Ψ z (cO (.inl z) z) ?_))
   obtain ⟨u79,hh⟩:=aP hh
   refine Ψ z (bT z g_ gV z z aS.rv.sl (by omega)) (Ψ z (fD false z nX z aS (by omega) z) (Ψ z (OpVal.not z z) (Ψ z (moveB (.inl z) z) (TL.split 86 z (λh119=> ?_) (λh119=> ?_)))))
   ·replace hh:=ig h119 hh
    refine Ψ z (aU z uX z) (Ψ z (bg z mJ z (i:=0) z z) (Ψ z (cO (.inl z) z) ?_))
    obtain ⟨u86,hh⟩:=aP hh
    refine Ψ z (bT z fF fK z z aO.rv.sl (by omega)) (Ψ z (fD ([]:T_1) z iK z aO (by omega) z) (Ψ z (Iw z z z) (Ψ z (dQ z z z) (ω z (dU z z z) (ε (TC.cD z hh (λLp hh=> ?_) (λLp hh=> ?_)))))))
    ·refine ξ (TL.j z z (ε (TC.rt 0 (S.r (B.r (S.r (S.r ?_)))))))
     replace hh:=dI hR1 hh
     refine B.r (S.r ?_)
     obtain rfl:=so hh
     exact rq [2] ⟨z,z,z⟩
    exact ι (S.n (cf ((),()) hh (Sub.pre 1 z)))
   replace hh:=iw h119 hh
   exact π z (π z (π z (π z (π z (π z (Ψ z (dU z z z) (ω z (dU z z z) (ε (TC.f z (ι (S.n (cf ((),()) hh (Sub.pre 1 z)))))))))))))
  skip
  obtain ⟨_,_⟩:=g
  have hh:=hg;clear hg
  try dsimp only
  dsimp only [ZC]at hh
  refine ξ (ψ z z (ε (υ (TC.iE (α:=(Nat)×(Unit)) (rgs [(2,1),(5,3),(95,40)]) (λg=>[(5,.int .i64 ((g.1:Nat):Int))]) (λg=>[jh bG x0 aN aK aA aY aW ay bI bD]) (λg=>σ) (λg=>bC (λq:Nat=>Vu x0 aT q) g.1=some z1) (λg=>fZ (λq:Nat=>Vu x0 aT q) g.1) (0,()) (Sub.pre 1 z) z (by repeat (first|exact trivial|refine ⟨z,?_⟩)) hh (λg2 j2 hg2=> ?_)))))
  obtain ⟨fE,_⟩:=g2
  have hh:=hg2;clear hg2
  try dsimp only
  obtain ⟨z2,hh,hR2⟩:=iq hh
  dsimp only [Vu]at hh
  refine θ (ξ (ψ z z (ω z (OpVal.lss z z z) (ε (TC.cD z hh (λrM hh=> ?_) (λrM hh=> ?_))))))
  ·refine ι (S.n (TC.cutG (α:=(Unit)×(Unit)) (rgs [(2,1),(6,2),(99,36)]) (λg=>[]) (λg=>[jh bG x0 aN aK aA aY aW ay bI bD]) (λg=>σ) (λg=>Bo_ fE=some z2) ?_ (λg j hg=> ?_)))
   ·skip
    refine υ (ξ (ω z (aU z kW z) (ω z (bg z j_ z (i:=0) z z) (ψ z z (ω z (bT z eX fP z z au.isSl (by omega)) ?_)))))
    obtain ⟨zB,qg,KX⟩:=RZ.seg au aT (by omega)
    replace qg:dH _ aF zB.1 zB.2 (nth x0.next aT []):=qg
    have hk125b:=qg.rv.big
    refine ω z (OpVal.of (lZ z hs_ z KX z) (v':= .slice zB.1 ((nth x0.next aT []).length) zB.2) z) (ψ z z ?_)
    obtain ⟨VL,hh⟩:=aP hh
    refine ω z (bT z bY dh z z qg.rv.sl (by omega)) (ω z (fD (0:Int) z fC z qg (by omega) z) (ψ z z (ε (ξ (ω z (aU z o_ z) (ω z (bg z qx z (i:=0) z z) (ψ z z ?_)))))))
    obtain ⟨G_,hh⟩:=aP hh
    refine ω z (bT z mY nC z z aV.isSl (by omega)) ?_
    obtain ⟨OQ,CW,hg126⟩:=RZ.seg aV aT (by omega)
    replace CW:dH _ aI OQ.1 OQ.2 (nth x0.outs aT []):=CW
    have hk126b:=CW.rv.big
    refine ω z (OpVal.of (lZ z mJ z hg126 z) (v':= .slice OQ.1 ((nth x0.outs aT []).length) OQ.2) z) (ψ z z ?_)
    obtain ⟨u110,hh⟩:=aP hh
    refine ω z (bT z fF fK z z CW.rv.sl (by omega)) (ω z (fD ([]:T_1) z iK z CW (by omega) z) (ω z (dX (.inr z) z) (ε (ξ (ψ z z (ω z (OpVal.lss z z z) (TL.j z z (TL.split 117 z (λh127=> ?_) (λh127=> ?_)))))))))
    ·replace hh:=ig h127 hh
     replace h127:=jk h127
     refine π z (π z (π z (ω z (dQ z z z) (TL.j z z (π z (π z (π z (π z (π z (π z (ω z (dQ z z z) (TL.j z z (π z (π z (π z ?_)))))))))))))))
     refine ω z (dQ z z z) (ε (TC.t z (ξ (TL.j z z (ε (TC.rt 0 (B.r (S.r (S.r ?_)))))))))
     replace hh:=dI hR2 hh
     refine B.r (B.r (S.r (S.r ?_)))
     replace hh:=dI hR1 hh
     refine B.r (S.r ?_)
     obtain rfl:=so hh
     exact rq [2] ⟨z,z,z⟩
    replace hh:=iw h127 hh
    replace h127:=jy h127
    refine Ψ z (cO (.inl z) z) (Ψ z (cO (.inl z) z) (Ψ z (OpVal.geq z z z) (ω z (dU z z z) (TL.j z z (TL.split 122 z (λh128=> ?_) (λh128=> ?_))))))
    ·replace hh:=ig h128 hh
     replace h128:=jk h128
     refine π z (π z (π z (π z (π z (π z (ω z (dQ z z z) (TL.j z z (π z (π z (π z (ω z (dQ z z z) (ε (TC.t z (ξ (TL.j z z ?_)))))))))))))))
     refine ε (TC.rt 0 (B.r (S.r (S.r ?_))))
     replace hh:=dI hR2 hh
     refine B.r (B.r (S.r (S.r ?_)))
     replace hh:=dI hR1 hh
     refine B.r (S.r ?_)
     obtain rfl:=so hh
     exact rq [2] ⟨z,z,z⟩
    replace hh:=iw h128 hh
    replace h128:=jy h128
    refine Ψ z (cO (.inl z) z) (Ψ z (OpVal.eql z z z) (Ψ z (moveB (.inl z) z) (TL.split 125 z (λrJ=> ?_) (λrJ=> ?_))))
    ·replace hh:=ig rJ hh
     replace rJ:=jk rJ
     refine Ψ z (dX (.inl z) z) (Ψ z (Iw z z z) (Ψ z (dQ z z z) (ω z (dU z z z) (TL.j z z (TL.split 130 z (λEK=> ?_) (λEK=> ?_))))))
     ·replace hh:=ig EK hh
      replace EK:=jk EK
      refine π z (π z (π z (ω z (dQ z z z) (ε (TC.t z (ξ (TL.j z z (ε (TC.rt 0 (B.r (S.r (S.r ?_))))))))))))
      replace hh:=dI hR2 hh
      refine B.r (B.r (S.r (S.r ?_)))
      replace hh:=dI hR1 hh
      refine B.r (S.r ?_)
      obtain rfl:=so hh
      exact rq [2] ⟨z,z,z⟩
     replace hh:=iw EK hh
     replace EK:=jy EK
     refine Ψ z (dX (.inl z) z) (Ψ z (rQ z kG z) (Ψ z (OpVal.gtr z z z) (ω z (dU z z z) (ε (TC.cD z hh (λLm hh=> ?_) (λLm hh=> ?_))))))
     ·refine ξ (TL.j z z (ε (TC.rt 0 (B.r (S.r (S.r ?_))))))
      replace hh:=dI hR2 hh
      refine B.r (B.r (S.r (S.r ?_)))
      replace hh:=dI hR1 hh
      refine B.r (S.r ?_)
      obtain rfl:=so hh
      exact rq [2] ⟨z,z,z⟩
     exact ι (B.n (S.n (cf ((),()) hh (Sub.pre 1 z))))
    replace hh:=iw rJ hh
    replace rJ:=jy rJ
    refine π z (π z (Ψ z (dU z z z) (ω z (dU z z z) (TL.j z z (Ψ z (dX (.inl z) z) (Ψ z (rQ z kG z) (Ψ z (OpVal.gtr z z z) (ω z (dU z z z) (ε (TC.cD z hh (λuD hh=> ?_) (λuD hh=> ?_)))))))))))
    ·refine ξ (TL.j z z (ε (TC.rt 0 (B.r (S.r (S.r ?_))))))
     replace hh:=dI hR2 hh
     refine B.r (B.r (S.r (S.r ?_)))
     replace hh:=dI hR1 hh
     refine B.r (S.r ?_)
     obtain rfl:=so hh
     exact rq [2] ⟨z,z,z⟩
    exact ι (B.n (S.n (cf ((),()) hh (Sub.pre 1 z))))
   skip
   obtain ⟨_,_⟩:=g
   have hh:=hg;clear hg
   try dsimp only
   dsimp only [Bo_]at hh
   refine η (ψ z z (ω z (OpVal.succ z z z (by omega)) (ψ z z (ε ?_))))
   obtain ⟨hh,D_⟩:=dL hR2 hh
   exact lf ((fE+1),()) D_ hh (Sub.pre 1 z)
  refine TC.exit (S.x (S.x ?_))
  replace hh:=dI hR2 hh
  refine Δ (B.n (S.n (η (ψ z z (ω z (OpVal.succ z z z (by omega)) (ψ z z (ε ?_)))))))
  obtain ⟨hh,D9⟩:=dL hR1 hh
  exact lf ((aT+1),()) D9 hh (Sub.pre 1 z)
 refine TC.exit (S.x (S.x ?_))
 replace hh:=dI hR1 hh
 refine Δ (S.n (ξ (TL.j z z (ε (TC.rt 0 ?_)))))
 obtain rfl:=so hh
 exact rq [2] ⟨z,z,z⟩
def io_(x0:SB):Option (SB):=
 some (⟨x0.buf⟩:SB)
theorem o1_{σ:aj}{x0:SB}{r:SB}(hh:io_ x0=some r):
  Con prog 94 #[loc b_ 0] σ [κ b_ #[tV false b_,.slice aA x0.buf.length ay] 92,dR 5 ku aA ay x0.buf] (λv σ' H'=> ∃(Jg:Bool), ∃Dn co3,v= .tuple #[]/\σ=σ'/\H'=[κ b_ #[tV Jg b_,.slice Dn r.buf.length co3] 92,dR 5 ku Dn co3 r.buf]):=by
 dsimp only [io_]at hh
 refine Con.mk (n:=20) Tryz.func94 z z z (λw0=> ?_)
 refine ξ (TL.l z z (ω z (nH z z) (ω z (aU z t4_ z) (ω z (bg z Y9 z (i:=0) z z) (ω z (eqlNil z underlying90 z z) (ε (TC.t z (η (TL.l z z (TL.l z z (ω z (cvtUns z underlying90 underlying188 VR (by decide) z (i:=0) z z (by simp)) (ω z (noEsc z z Tryz.func133 (by kernel_rfl) (by kernel_rfl) (by kernel_rfl) (by kernel_rfl) z) (ω z (cvtPtr z underlying188 underlying90 VR z (i:=0) z z (by kernel_rfl)) (ω z (nH z z) (ω z (aU z t4_ z) ?_)))))))))))))))
 refine ν z (cy_ z sz90 z z z z z ?_)
 refine TL.nil ?_
 obtain rfl:=so hh
 exact RetOk.mk' (rs:=[]) [κ b_ #[tV true b_,.slice aA x0.buf.length ay] 92,dR 5 ku aA ay x0.buf] z (.inr z) RVs.nil (List.sublist_append_left _ _) ⟨true,aA,ay,z,z,z⟩
def o6_(x0:SB):Option (SB):=
 some (⟨x0.buf⟩:SB)
theorem ow_{σ:aj}{x0:SB}{r:SB}(hh:o6_ x0=some r):
  Con prog 94 #[loc b_ 0] σ [κ b_ #[tV true b_,.slice aA x0.buf.length ay] 92,dR 5 ku aA ay x0.buf] (λv σ' H'=> ∃(Jg:Bool), ∃Dn co3,v= .tuple #[]/\σ=σ'/\H'=[κ b_ #[tV Jg b_,.slice Dn r.buf.length co3] 92,dR 5 ku Dn co3 r.buf]):=by
 dsimp only [o6_]at hh
 refine Con.mk (n:=20) Tryz.func94 z z z (λw0=> ?_)
 refine ξ (TL.l z z (ω z (nH z z) (ω z (aU z t4_ z) (ω z (bg z Y9 z (i:=0) z z) (ω z (eqlNil z underlying90 z z) (ε (TC.f z (ξ (TL.l z z (ω z (nH z z) (ω z (aU z t4_ z) (ω z (bg z Y9 z (i:=0) z z) (TL.l z z (ω z (du_ z underlying90 VR z z) (ε ?_)))))))))))))))
 refine TC.f z (ι ?_)
 obtain rfl:=so hh
 exact RetOk.mk' (rs:=[]) [κ b_ #[tV true b_,.slice aA x0.buf.length ay] 92,dR 5 ku aA ay x0.buf] z (.inr z) RVs.nil (List.sublist_append_left _ _) ⟨true,aA,ay,z,z,z⟩
def ZX(x0:SB):Option SB:=io_ x0
theorem kn_{σ:aj}{x0:SB}{zx:Bool}{r:SB}(hh:ZX x0=some r):
  Con prog 94 #[loc b_ 0] σ [κ b_ #[tV zx b_,.slice aW x0.buf.length bD] 92,dR 5 ku aW bD x0.buf] (λv σ' H'=> ∃(Jg:Bool), ∃Dn co3,v= .tuple #[]/\σ=σ'/\H'=[κ b_ #[tV Jg b_,.slice Dn r.buf.length co3] 92,dR 5 ku Dn co3 r.buf]):=by
 cases zx
 ·exact o1_ hh
 exact ow_ hh
def zh(x0:SB)(x1:T_1):Option (Int×Unit×SB):=
 grd (x1.length<=281474976710656) (bnd (ZX (⟨x0.buf⟩:SB)) (λv4=>grd (v4.buf.length+x1.length<=140737488355328) (some (((x1.length:Nat):Int),(),(⟨(v4.buf++x1)⟩:SB)))))
theorem Pq{σ:aj}{x0:SB}{zx:Bool}{x1:T_1}{r:Int×Unit×SB}(hh:zh x0 x1=some r):
  Con prog 53 #[loc b_ 0,.string (bs x1)] σ [κ b_ #[tV zx b_,.slice aW x0.buf.length bD] 92,dR 5 ku aW bD x0.buf] (λv σ' H'=> ∃(Jg:Bool), ∃Dn co3,v= .tuple #[.int .i64 r.1,.nilIface]/\σ=σ'/\H'=[κ b_ #[tV Jg b_,.slice Dn r.2.2.buf.length co3] 92,dR 5 ku Dn co3 r.2.2.buf]):=by
 dsimp only [zh]at hh
 refine Con.mk (n:=19) Tryz.func53 z z z (λw0=> ?_)
 have x1b:=Hl hh
 replace hh:=Hw hh
 refine ξ (ψ z z (ω z (OpVal.mv (.inr z)) (ε (ξ (TL.l z z (ζ 1 z z (ζ 1 z z ?_)))))))
 obtain ⟨v4,u4,hh⟩:=dJ hh
 refine ν z (OpOk.call (kn_ u4) z z pf94 z z z z ?_)
 rintro _ _ _ oz ⟨u104_1,a104_2,c104_3,rfl,rfl,rfl⟩
 refine ε (ξ (TL.l z z (TL.l z z (ω z (nH z z) (ω z (aU z ZJ z) (ω z (bg z P5 z (i:=0) z z) (ω z (dX (.inl z) z) (ζ 1 z z ?_))))))))
 obtain ⟨u11,hh⟩:=aP hh
 refine ν z (cu_ z G7 kG Jm by5 MJ z z z z u11 (λjY c107=> ?_))
 refine ω z (nH z z) (ω z (aU z ZJ z) (ζ 1 z z (ν z (f_ z sz60 z z z z z ?_))))
 refine ε (ξ (ω z (dX (.inl z) z) (ω z (rQ z kG z) (ψ z z (ω z (OpVal.mv (.inr z)) (ε (TC.ret ?_)))))))
 obtain rfl:=so hh
 exact ro [κ b_ #[tV u104_1 b_,.slice jY ((v4.buf++x1).length) c107] 92,dR 5 ku jY c107 (v4.buf++x1)] z (RVs.tmp z (RVs.tmp z RVs.nil)) ⟨u104_1,jY,c107,z,z,z⟩
def GL(x0:SB)(x1:UInt8):Option (Unit×SB):=
 bnd (ZX (⟨x0.buf⟩:SB)) (λv3=>grd ((v3.buf.length+[x1].length) * 1<=140737488355328) (some ((),(⟨(v3.buf++[x1])⟩:SB))))
theorem ZY{σ:aj}{x0:SB}{zx:Bool}{x1:UInt8}{r:Unit×SB}(hh:GL x0 x1=some r):
  Con prog 151 #[loc b_ 0,.int .u8 ((x1.toNat:Nat):Int)] σ [κ b_ #[tV zx b_,.slice aW x0.buf.length bD] 92,dR 5 ku aW bD x0.buf] (λv σ' H'=> ∃(Jg:Bool), ∃Dn co3,v= .nilIface/\σ=σ'/\H'=[κ b_ #[tV Jg b_,.slice Dn r.2.buf.length co3] 92,dR 5 ku Dn co3 r.2.buf]):=by
 dsimp only [GL]at hh
 refine Con.mk (n:=17) Tryz.func151 z z z (λw0=> ?_)
 refine ξ (ω z (OpVal.mv (.inr z)) (ε (ξ (TL.l z z (ζ 1 z z (ζ 1 z z ?_))))))
 obtain ⟨v3,u3,hh⟩:=dJ hh
 refine ν z (OpOk.call (kn_ u3) z z pf94 z z z z ?_)
 rintro _ _ _ oz ⟨u104_1,a104_2,c104_3,rfl,rfl,rfl⟩
 refine ε (ξ (TL.l z z (TL.l z z (ω z (nH z z) (ω z (aU z ZJ z) (ω z (bg z P5 z (i:=0) z z) (ψ z z (ν z (OpOk.lit (enc:=ku) [x1] z G7 Jm MJ z z z UJ (by decide) (by decide) (0:UInt8) z (by decide) z (by decide) UL (λjY c107=> ?_))))))))))
 refine ζ 2 z z ?_
 obtain ⟨u11,hh⟩:=aP hh
 refine ν z (as_ z z G7 Jm by5 MJ z z (by decide) z z z (.inr ⟨_,0,z⟩) (by simpa using u11) (by decide) (λa109 Di=> ?_))
 refine ω z (nH z z) (ω z (aU z ZJ z) (ζ 2 z z (ν z (f_ z sz60 z z z z z ?_))))
 refine ε (ξ (ω z (OpVal.mv (.inr z)) (ε (TC.qR (Θ [1,1] 2) (TC.ret ?_)))))
 obtain rfl:=so hh
 exact ro [κ b_ #[tV u104_1 b_,.slice a109 ((v3.buf++[x1]).length) Di] 92,dR 5 ku a109 Di (v3.buf++[x1])] z (RVs.tmp z RVs.nil) ⟨u104_1,a109,Di,z,z,z⟩
def WE(x0:SB):Option (T_1):=
 some x0.buf
theorem j2_{σ:aj}{x0:SB}{zx:Bool}{r:T_1}(hh:WE x0=some r):
  Con prog 54 #[loc b_ 0] σ [κ b_ #[tV zx b_,.slice aW x0.buf.length bD] 92,dR 5 ku aW bD x0.buf] (λv σ' H'=>v= .string (bs r)/\σ=σ'/\H'=[]):=by
 dsimp only [WE]at hh
 refine Con.mk (n:=14) Tryz.func54 z z z (λw0=> ?_)
 refine ξ (ω z (dX (.inr z) z) (ε (θ (TC.PS (Hr:=[κ b_ #[tV zx b_,.slice aW x0.buf.length bD] 92]) (λr hr=>qy [0] z hr) [] (by kernel_rfl) (TA.a 0 z (L9 (.inl z) z) z (TA.a 1 z (nH z z) z (TA.a 2 z (aU z ZJ z) z (TA.b 3 z (bg z P5 z (i:=0) z z) z (TA.a 5 z (L9 (.inl z) z) z (TA.a 6 z (nH z z) z (TA.a 7 z (aU z ZJ z) z (TA.b 8 z (bg z P5 z (i:=0) z z) z (TA.b 9 z (lenC z G7 z) z (TA.front 1 z z (TA.ac 4 z (c7_ z z underlying150 z z z (λsq105 sh106=>(k1 ?_))))))))))))))))))
 refine TA.ac 10 z (unsStr z underlying150 ce5 z z z sh106 z (k0 ?_))
 refine TA.a 11 z (dX (.inr z) z) z (TA.dn (S.n (TC.rt 0 ?_)))
 obtain rfl:=so hh
 exact rq [2] ⟨z,z,z⟩
def Vl(x1:T_1)(x0:Seq)(WA:T_1)(lS:Int)(eU:Nat):Option ((T_1×Int×Nat)⊕(T_1×Int×Bool×Int)):=
 aQ (decide ((eU:Int)<((x1.length:Nat):Int))) (grd (0<=lS/\lS<(x0.next.length:Int)) (grd ((nth x1 eU 0).toNat<(nth x0.next lS.toNat []).length) (aQ (decide ((nth (nth x0.next lS.toNat []) ((nth x1 eU 0).toNat) 0)<0)) (fin (some (([]:T_1),(eU:Int),false,0))) (grd (0<=lS/\lS<(x0.outs.length:Int)) (grd ((nth x1 eU 0).toNat<(nth x0.outs lS.toNat []).length) (bnd (zh (⟨WA⟩:SB) (nth (nth x0.outs lS.toNat []) ((nth x1 eU 0).toNat) [])) (λv60=>nxt (v60.2.2.buf,(nth (nth x0.next lS.toNat []) ((nth x1 eU 0).toNat) 0),(eU+1))))))))) (fin (grd (0<=lS/\lS<(x0.fin.length:Int)) (aQ (!(nth x0.fin lS.toNat false)) (some (([]:T_1),((x1.length:Nat):Int),false,0)) (grd (0<=lS/\lS<(x0.tail.length:Int)) (bnd (zh (⟨WA⟩:SB) (nth x0.tail lS.toNat [])) (λv82=>bnd (WE (⟨v82.2.2.buf⟩:SB)) (λv83=>some (v83,((x1.length:Nat):Int),true,0))))))))
def E4_(x0:Seq)(x1:T_1):Option (T_1×Int×Bool×Int):=
 grd (x1.length<=281474976710656) (bnd (Qh x0) (λv7=>aQ (decide (v7≠0)) (some (([]:T_1),0,false,1)) (aQ (decide (((x0.next.length:Nat):Int)=0)) (some (([]:T_1),0,false,0)) (bnd (zh (⟨([]:T_1)⟩:SB) x0.front) (λv24=>bC (λq:T_1×Int×Nat=>Vl x1 x0 q.1 q.2.1 q.2.2) (v24.2.2.buf,0,0))))))
theorem Ht_{σ:aj}{x0:Seq}{x1:T_1}(au:RZ σ (aC 1 aF bn) (.slice aN x0.next.length aK) x0.next)(aV:RZ σ (aC 1 aI bF) (.slice aA x0.outs.length aY) x0.outs)(aS:dH σ eq_ aW ay x0.fin)(aO:dH σ aI bI bD x0.tail){r:T_1×Int×Bool×Int}(hh:E4_ x0 x1=some r):
  Con prog 19 #[.agg (qF x0 aN aK aA aY aW ay bI bD),.string (bs x1)] σ [] (kZ (.tuple #[.string (bs r.1),.int .i64 r.2.1,.bool r.2.2.1,.int .i64 r.2.2.2]) σ):=by
 dsimp only [E4_]at hh
 have f0_0b:=au.big
 have f0_1b:=aV.big
 have f0_2b:=aS.rv.big
 have f0_3b:=aO.rv.big
 refine Con.mk (n:=70) Tryz.func19 z z z (λw0=> ?_)
 have x1b:=Hl hh
 replace hh:=Hw hh
 refine ξ (ν z (boxA z z z z (λbG=> ?_)))
 refine ω z (dX (.inr z) z) (ψ z z (TL.j z z (ψ z z (ε (θ (ξ (ω z (lG z jw fB z (i:=0) z z) ?_)))))))
 obtain ⟨v7,u7,hh⟩:=dJ hh
 refine ν z (kD (Ez_ (x0:=x0) au aV aS aO u7) z z Ot z z z ?_)
 refine ω z (OpVal.neq z z z) (ε (TC.cD z hh (λgG hh=> ?_) (λgG hh=> ?_)))
 ·refine ξ (ω z (dX (.inr z) z) (ψ z z (TL.j z z (ψ z z (ε (TC.rt 0 (S.r ?_)))))))
  obtain rfl:=so hh
  exact rq [4,5,6,7] ⟨z,z,z⟩
 refine ι (S.n (θ (ξ (ω z (aU z kW z) (ω z (bg z j_ z (i:=0) z z) (ω z (lenC z eX z) (ω z (OpVal.eql z z z) (ε (TC.cD z hh (λgB hh=> ?_) (λgB hh=> ?_))))))))))
 ·refine ξ (ω z (dX (.inr z) z) (ψ z z (TL.j z z (ψ z z (ε (TC.rt 0 (S.r ?_)))))))
  obtain rfl:=so hh
  exact rq [4,5,6,7] ⟨z,z,z⟩
 refine ι (S.n (ξ (ν z (OpOk.alloc z Vy z z (λPY=> ?_)))))
 refine TL.asH (H':=[κ PY #[tV false PY,bM] 92,jh bG x0 aN aK aA aY aW ay bI bD]) z (ε (ξ (ω z (aU z GR z) (ω z (bg z iK z (i:=1) z z) (TL.nilS 5 1 ku (ζ 1 z z ?_))))))
 obtain ⟨v24,u24,hh⟩:=dJ hh
 refine ν z (OpOk.call (Pq u24) z z NT z z z z ?_)
 rintro _ _ _ pX ⟨u108_1,a108_2,c108_3,rfl,rfl,rfl⟩
 refine ε (ξ (ψ z z (ε (θ (ξ (ω z (dX (.inl z) z) (ω z (rQ z kG z) (ψ z z (ε (υ (TC.iE (α:=(T_1×Int×Nat)×(Bool×(Option Addr)×Nat)) (rgs [(4,4),(9,3),(24,29)]) (λg=>[(9,.int .i64 g.1.2.1),(24,.int .i64 ((g.1.2.2:Nat):Int))]) (λg=>[jh bG x0 aN aK aA aY aW ay bI bD,κ PY #[tV g.2.1 PY,.slice g.2.2.1 g.1.1.length g.2.2.2] 92,φ 5 1 ku (.slice g.2.2.1 g.1.1.length g.2.2.2) g.1.1]) (λg=>σ) (λg=>bC (λq:T_1×Int×Nat=>Vl x1 x0 q.1 q.2.1 q.2.2) g.1=some r) (λg=>fZ (λq:T_1×Int×Nat=>Vl x1 x0 q.1 q.2.1 q.2.2) g.1) ((v24.2.2.buf,0,0),(u108_1,a108_2,c108_3)) (Θ [1,1,2] 3) z (by repeat (first|exact trivial|refine ⟨z,?_⟩)) hh (λg1 j1 hg1=> ?_))))))))))))
 obtain ⟨⟨WA,lS,eU⟩,⟨u124,a127,LU⟩⟩:=g1
 have hh:=hg1;clear hg1
 try dsimp only
 obtain ⟨z1,hh,hR1⟩:=iq hh
 dsimp only [Vl]at hh
 refine χ (i:=2) z (λ_ hb131 _=> ?_)
 refine ξ (ω z (OpVal.lss z z z) (ε (θ (TC.cD z hh (λuD hh=> ?_) (λuD hh=> ?_)))))
 ·refine ι (S.n (θ (υ (ξ (ψ z z (ψ z z (ε (θ ?_))))))))
  obtain ⟨u35,hh⟩:=aP hh
  obtain ⟨u40,hh⟩:=aP hh
  refine TC.draw [] (by kernel_rfl) (TA.a 0 z (aU z kW z) z (TA.b 1 z (bg z j_ z (i:=0) z z) z (TA.a 2 z (cO (.inl z) z) z (TA.b 3 z (OpVal.index z eX fP z z au.isSl u35.1 u35.2) z ?_))))
  obtain ⟨OL,CS,hg134⟩:=RZ.seg au lS.toNat (by omega)
  replace CS:dH _ aF OL.1 OL.2 (nth x0.next lS.toNat []):=CS
  have hk134b:=CS.rv.big
  refine TA.b 4 z (OpVal.of (lZ z hs_ z hg134 z) (v':= .slice OL.1 ((nth x0.next lS.toNat []).length) OL.2) z) z (TA.a 5 z (dX (.inl z) z) z (TA.a 6 z (cO (.inl z) z) z (TA.a 7 z (bs_ z kG z z (by omega)) z (TA.b 8 z (bT z bY dh z z CS.rv.sl (by omega)) z (TA.b 9 z (fD (0:Int) z fC z CS (by omega) z) z (TA.a 10 z (cO (.inr z) z) z (TA.dn (S.n (θ (ξ (ψ z z (ω z (OpVal.lss z z z) (ε (TC.cD z hh (λh135 hh=> ?_) (λh135 hh=> ?_)))))))))))))))
  ·refine ξ (ψ z z (ω z (dX (.inr z) z) (ψ z z (TL.j z z (ψ z z (ε (TC.rt 0 (S.r (B.r (S.r (S.r ?_)))))))))))
   replace hh:=dI hR1 hh
   refine B.r (S.r ?_)
   obtain rfl:=so hh
   exact rq [4,5,6,7] ⟨z,z,z⟩
  refine ι (S.n (θ ?_))
  obtain ⟨u53,hh⟩:=aP hh
  obtain ⟨u58,hh⟩:=aP hh
  obtain ⟨v60,u60,hh⟩:=dJ hh
  refine TC.PS (Hr:=[jh bG x0 aN aK aA aY aW ay bI bD]) (λr hr=>qy [0] z hr) [] (by kernel_rfl) (TA.a 0 z (aU z o_ z) z (TA.b 1 z (bg z qx z (i:=0) z z) z (TA.a 2 z (cO (.inl z) z) z (TA.b 3 z (OpVal.index z mY nC z z aV.isSl u53.1 u53.2) z ?_))))
  obtain ⟨zA,qc,KW⟩:=RZ.seg aV lS.toNat (by omega)
  replace qc:dH _ aI zA.1 zA.2 (nth x0.outs lS.toNat []):=qc
  have hk139b:=qc.rv.big
  refine TA.b 4 z (OpVal.of (lZ z mJ z KW z) (v':= .slice zA.1 ((nth x0.outs lS.toNat []).length) zA.2) z) z (TA.a 5 z (dX (.inl z) z) z (TA.a 6 z (cO (.inl z) z) z (TA.a 7 z (bs_ z kG z z (by omega)) z (TA.b 8 z (bT z fF fK z z qc.rv.sl (by omega)) z (TA.b 9 z (fD ([]:T_1) z iK z qc (by omega) z) z (TA.front 2 z z (TA.front 2 z z (TA.ac 10 z (OpOk.call (Pq u60) z z NT z z z z ?_)))))))))
  rintro _ _ _ Yl ⟨u140_1,a140_2,c140_3,rfl,rfl,rfl⟩
  refine k2 (TA.dn (S.n (η (ψ z z (ψ z z (TL.nil (B.n (S.n (η (ω z (OpVal.succ z z z (by omega)) (ψ z z (ε ?_))))))))))))
  obtain ⟨hh,D6⟩:=dL hR1 hh
  exact lf ((v60.2.2.buf,(nth (nth x0.next lS.toNat []) ((nth x1 eU 0).toNat) 0),(eU+1)),(u140_1,a140_2,c140_3)) D6 hh (Θ [1,1,2] 3)
 refine TC.exit (S.x (S.x ?_))
 replace hh:=dI hR1 hh
 refine Δ (S.n (θ (ξ (ω z (aU z uF z) (ω z (bg z rX z (i:=0) z z) (ψ z z ?_))))))
 obtain ⟨u68,hh⟩:=aP hh
 refine ω z (OpVal.index z g_ gV z z aS.rv.sl u68.1 u68.2) (ω z (fD false z nX z aS (by omega) z) (ω z (OpVal.not z z) (ε (TC.cB z hh (λh143 hh=> ?_) (λh143 hh=> ?_)))))
 ·refine ξ (ω z (dX (.inl z) z) (ω z (rQ z kG z) (ω z (dX (.inr z) z) (ψ z z (TL.j z z (ψ z z (ε (TC.rt 0 (S.r ?_)))))))))
  obtain rfl:=so hh
  exact rq [4,5,6,7] ⟨z,z,z⟩
 refine ι (S.n (ξ (ω z (aU z uX z) (ω z (bg z mJ z (i:=0) z z) (ψ z z ?_)))))
 obtain ⟨u80,hh⟩:=aP hh
 refine ω z (OpVal.index z fF fK z z aO.rv.sl u80.1 u80.2) (ω z (fD ([]:T_1) z iK z aO (by omega) z) (ζ 2 z z (ζ 2 z z ?_)))
 obtain ⟨v82,NY,hh⟩:=dJ hh
 refine ν z (OpOk.call (Pq NY) z z NT z z z z ?_)
 rintro _ _ _ zU ⟨u144_1,a144_2,c144_3,rfl,rfl,rfl⟩
 refine ε (ξ (ζ 1 z z (ζ 1 z z ?_)))
 obtain ⟨v83,u83,hh⟩:=dJ hh
 refine ν z (OpOk.call (j2_ u83) z z V8 z z z z ?_)
 rintro _ _ _ hle146 ⟨rfl,rfl,rfl⟩
 refine ω z (dX (.inl z) z) (ω z (rQ z kG z) (ω z (dX (.inr z) z) (ψ z z (TL.j z z (ψ z z (ε (TC.rt 0 ?_)))))))
 obtain rfl:=so hh
 exact rq [4,5,6,7] ⟨z,z,z⟩
end Go.Proofs.YtchebnpdnfhenaaGreatDoor
end

noncomputable section
namespace Go.E
open Go
section
variable {α:Type} {σ:aj} {size m c:Nat} {enc:α->List Value} {a:Option Addr} {l:List α}
end
theorem OpOk.dd_{X:Ctx}{e:Env}{σ:aj}{F:List Res}{o:Oper}{x y:Operand}{K:Env->aj->List Res->Prop}{T b k:Nat}{E:TypeId}{cs cs':Array Value}{f:Fn}{xs ys:Array Value}(ho:o.op= .store T x y)(hs:szOf X.P T=some 1)(hd:o.dst=none)(hx:ev e x=loc b k)(hfit:Nat.ble (k+1) cs.size=true)
    (hv:ev e y= .func f xs ys) (hcs:(oM cs.toList k [.func f xs ys]).toArray=cs') (kk:K e σ (κ b cs' E::F)):OpOk X o e σ (κ b cs E::F) K:=OpOk.store1 ho hs hd hx hv rfl rfl hfit hcs kk
def SC(σ:aj)(b:Nat)(cs:Array Value)(E:TypeId):Prop:=σ b=some (.cells cs E (0,0))
theorem SC.big{σ:aj}{b:Nat}{cs:Array Value}{E:TypeId}(_:SC σ b cs E):True:=True.intro
structure YSpec (S:Type) where
  R:S->aj->Res->Prop
  mono: ∀{s σ σ' r},R s σ r->σ.le σ'->R s σ' r
def YR{S:Type}(Z:YSpec S)(s:S)(σ:aj)(r:Res):Prop:=Z.R s σ r
theorem YR.mono{S:Type}{Z:YSpec S}{s:S}{σ σ':aj}{r:Res}(h:YR Z s σ r)(hle:σ.le σ'):YR Z s σ' r:=Z.mono h hle
def YOk (P : Program) (l : Nat) {S α : Type} (A : α -> aj -> List Value -> Prop) (Z : YSpec S) (Y : S -> α -> Option (S × Bool)) : Prop :=
  ∀s x σ r args w s' b,Y s x=some (s',b)->A x σ args->YR Z s σ r->Reach w r.bl σ σ w [r]->
    YieldAt (fence none) 0 P l args.toArray w λe w'=>e= .returned (.bool b)/\ ∃σ' r',YR Z s' σ' r'/\Reach w r.bl σ σ' w' [r']
def xw_ (P : Program) (f : FuncId) (lb : List Value) {S α : Type} (A : α -> aj -> List Value -> Prop) (Y : S -> α -> Option (S × Bool)) (σ : aj) (Hc : List Res) (s s' : S) (Post : aj -> List Res -> Prop) : Prop :=
  ∀(l:Nat) (Z:YSpec S) (r:Res),YOk P l A Z Y->YR Z s σ r->
    Con P f (.func (.yield l) #[] #[]::lb).toArray σ (r::Hc) λ_ σ' H'=> ∃r' Hc',H'=r'::Hc'/\YR Z s' σ' r'/\Post σ' Hc'
theorem OpOk.callY{X:Ctx}{e:Env}{σ:aj}{H F:List Res}{o:Oper}{x:Operand}{K:Env->aj->List Res->Prop}{l d:Nat}{opds:Array Operand}{ts:Array TypeId}{S α:Type}{A:α->aj->List Value->Prop}{Z:YSpec S}{Y:S->α->Option (S×Bool)}{s:S}{q:S×Bool}{v:α}{r:Res}
    (hY:YOk X.P l A Z Y) (hs:YR Z s σ r) (he:Y s v=some q) (ho:o.op= .call {callee:= .value x,args:=opds,argTypes:=ts})
    (hx:ev e x= .func (.yield l) #[] #[]) (hA:A v σ (opds.toList.map (ev e))) (hd:o.dst=some d) (hn:Nat.blt d X.n=true) (hH:r::F=H)
    (k: ∀σ' r',σ.le σ'->YR Z q.1 σ' r'->K (upd e d (.bool q.2)) σ' (r'::F)):OpOk X o e σ H K:=by
  subst hH
  obtain ⟨s',b⟩:=q
  intro u0 C0 τ0 w a hw ha K' Q hK
  have hbl:iG [r]=r.bl:=by simp [iG]
  have hself:Reach w r.bl σ σ w [r]:=by
    have:=(hw.sub (H':=[r]) (by simp)).self
    rwa [hbl]at this
  obtain ⟨fn,tmps,assign,body,hrun,hround⟩:=hY s v σ r _ w s' b he hA hs hself
  have hr:(execOp a.eval o).run X.P w= .ok (.round l fn tmps assign body) w:=by
    rw [ha.eval']
    have hl:(opds.toList.map (ev e)).toArray=opds.map (ev e):=by apply Array.ext';simp
    rw [hl]at hrun
    simp [execOp,ho,resolve,hx,Deferred.ofValue,invoke,hrun]
  refine Oper.b0_ hr (λ_=>by simp) ?_
  rw [Oper.uponIn_round]
  refine ⟨λh=>(by cases h),RoundIn.mono (R:=λe w'=>e= .returned (.bool b)/\ ∃σ' r',YR Z s' σ' r'/\Reach w r.bl σ σ' w' [r']) hround ?_⟩
  rintro ex w' ⟨rfl,σ',r',h1,h2⟩
  refine hK _ _ _ _ _ (k σ' r' h2.le h1) (Reach.call (H1:=[r]) (Ij:=[r']) hw (by rw [hbl];exact h2)) (xQ ha hd hn _)
def Res.lrec(b:Nat)(o:Obj):Res:=⟨[b],λw=>w.heap[b]? =some o,λw k hk h=>by simp at hk;subst hk;exact (Array.getElem?_eq_some_iff.1 h).1,λw w' hb h=>by rw [hb b (by simp)];exact h⟩
theorem Reach.b4_{w0:World}{C:List Nat}{σ0 σ:aj}{w:World}{l:Nat}{o o':Obj}{F:List Res}(h:Reach w0 C σ0 σ w (Res.lrec l o::F)):Reach w0 C σ0 σ (w.putObj l o') (Res.lrec l o'::F):=by
  have hl:w.heap[l]? =some o:=h.holds _ (ji ..)
  refine h.turn rfl rfl rfl (by simp [World.putObj]) (Nat.le_refl _) (λk _ hk=>World.putObj_heap_other (λe=>hk (by simp [Res.lrec,e]))) (World.putObj_heap_same (Array.getElem?_eq_some_iff.1 hl).1) (λb hb=> .inl hb) (by simp [Res.lrec])
theorem Reach.tail{w0:World}{C:List Nat}{σ0 σ:aj}{w:World}{r:Res}{F:List Res}(h:Reach w0 C σ0 σ w (r::F)):Reach w (iG F) σ σ w F:=(h.sub (List.sublist_cons_self ..)).self
theorem Reach.Z9{w0:World}{C:List Nat}{σ0 σ σ':aj}{w w':World}{r:Res}{F F':List Res}(h:Reach w0 C σ0 σ w (r::F))(k:Reach w (iG F) σ σ' w' F'):Reach w0 C σ0 σ' w' (r::F'):=by
  have h1:Reach w0 C σ0 σ w (F++[r]):=h.perm (List.perm_append_singleton r F)
  exact (h1.call k).perm (List.perm_append_singleton r F').symm
def v9_(e:Env)(ps:List Tmp)(vs:List Value):Env:=(ps.zip vs).foldl (λe p=>upd e p.1 p.2) e
theorem St.binds{n:Nat}: ∀(ps:List Tmp) (vs:List Value) {e:Env} {t:Array Value},(∀p∈ps,p<n)->St n e {tmps:=t,defers:=[]}->St n (v9_ e ps vs) {tmps:=(ps.zip vs).foldl (λt p=>t.setIfInBounds p.1 p.2) t,defers:=[]}
  |[],_,_,_,_,h=>h
  |_::_,[],_,_,_,h=>h
  |p::ps,v::vs,e,t,hp,h=>by
    have h1:=h.put (hp p (ji ..)) v
    exact St.binds ps vs (λq hq=>hp q (o7 _ hq)) h1
@[reducible]def asgQ(K:Env->aj->List Res->Prop):QP:=λex=>match ex with
  | .normal=>K
  |_=>λ_ _ _=>False
@[reducible]def rndQ(J:List Code)(K:Nat->aj->List Res->Prop):QP:=λex _ σ H=>match ex with
  | .normal=>K 0 σ H
  | .ret=> ∃j,J[j]? =some .ret/\K (j+1) σ H
  | .exit i=> ∃j,J[j]? =some (.exit i)/\K (j+1) σ H
  | .goto i=> ∃j,J[j]? =some (.goto i)/\K (j+1) σ H
  |_=>False
def MW{S α:Type}(B:S->α->Option (Nat×S))(p:Nat×S)(x:α):Option ((Nat×S)×Bool):=
  if p.1=0 then (B p.2 x).bind λq=>some (q,q.1 == 0) else none
theorem vb_{S α:Type}{B:S->α->Option (Nat×S)}{p p':Nat×S}{x:α}{b:Bool}(h:MW B p x=some (p',b)):p.1=0/\B p.2 x=some p'/\b=(p'.1 == 0):=by
  unfold MW at h
  split at h
  · rename_i h0
    cases hb:B p.2 x with
    |none=>simp [hb]at h
    |some q=>simp [hb]at h;exact ⟨h0,by rw [h.1],by rw [<-h.2,h.1]⟩
  cases h
abbrev tC(fn:FuncId)(tmps:Array Value)(ps:Array Tmp)(assign body:Code)(D:Nat)(st:LoopState)(pe:Option Code):Loop:={state:=st,pending:=pe,fn,tmps,params:=ps,assign,body,defers:=D}
def Hq(rec:LoopState->Option Code->Loop)(J:List Code)(j:Nat):Obj:= .loop (if j=0 then rec .ready none else rec .done (J[j - 1]?))
def rndZ{S:Type}(l:Nat)(rec:LoopState->Option Code->Loop)(J:List Code)(σs:aj)(G:S->aj->List Res->Prop)(hG: ∀{s σ σ' H},G s σ H->σ.le σ'->G s σ' H):YSpec (Nat×S) where
  R p σ r:= ∃Hs,r=Res.star (Res.lrec l (Hq rec J p.1)::Hs)/\G p.2 σ Hs/\σs.le σ/\(p.1≠0-> ∃c,J[p.1 - 1]? =some c)
  mono:=λ⟨Hs,h1,h2,h3,h4⟩ hle=>⟨Hs,h1,hG h2 hle,h3.trans hle,h4⟩
theorem qa_{w0:World}{C:List Nat}{σ0 σ:aj}{w:World}{l:Nat}{o:Obj}{F:List Res}(h:Reach w0 C σ0 σ w (Res.lrec l o::F)):l∉iG F/\σ l=none:=by
  have hn:=h.nodup
  simp only [iG,List.flatMap_cons,Res.lrec,List.cons_append,List.nil_append,List.nodup_cons]at hn
  exact ⟨hn.1,h.apart _ (ji ..) l (by simp [Res.lrec])⟩
theorem yOk_of {P : Program} {n l : Nat} {S α : Type} {A : α -> aj -> List Value -> Prop} {J : List Code} {B : S -> α -> Option (Nat × S)} {σs : aj} {G : S -> aj -> List Res -> Prop} {hG : ∀ {s σ σ' H}, G s σ H -> σ.le σ' -> G s σ' H} {fn : FuncId} {ps : Array Tmp} {assign body : Code} {e : Env} {tmps : Array Value} {D : Nat}
    (hst:St n e {tmps:=tmps,defers:=[]}) (hps: ∀p∈ps.toList,p<n) (hA: ∀x σ vs,A x σ vs->vs.length=ps.size)
    (hbody: ∀(w0:World) (C:List Nat) (τ σ:aj) (s:S) (x:α) (q:Nat×S) (vs:List Value) (Hs:List Res),B s x=some q->σs.le σ->A x σ vs->G s σ Hs->
      TC ⟨P,w0,C,τ,n,some l,none⟩ (asgQ λe σ H=> ∀w0 C τ,TC ⟨P,w0,C,τ,n,some l,none⟩ (rndQ J λj σ H=>q.1=j/\G q.2 σ H) body e σ H) assign (v9_ e ps.toList vs) σ Hs):
    YOk P l A (rndZ l (tC fn tmps ps assign body D) J σs G hG) (MW B):=by
  rintro p x σ r args w p' b hy hax ⟨Hs,rfl,hg,hle, -⟩ hw
  obtain ⟨hp0,hB,rfl⟩:=vb_ hy
  rw [hp0]at hw
  have hw1:Reach w (Res.star (Res.lrec l (Hq (tC fn tmps ps assign body D) J 0)::Hs)).bl σ σ w (Res.lrec l (.loop (tC fn tmps ps assign body D .ready none))::Hs):=by
    have:=hw.Va
    rw [List.append_nil]at this
    exact this
  have hlen:=hA x σ args hax
  have hl1:w.heap[l]? =some (.loop (tC fn tmps ps assign body D .ready none)):=hw1.holds _ (ji ..)
  have hy:=run_yield (P:=P) (args:=args.toArray) hl1 (by simpa using hlen)
  refine ⟨fn,_,assign,body,hy,roundIn_of_wpIn trivial ?_⟩
  have hz:(ps.zip args.toArray).foldl (λt (p,v)=>t.setIfInBounds p v) tmps=(ps.toList.zip args).foldl (λt p=>t.setIfInBounds p.1 p.2) tmps:=by
    rw [<-Array.foldl_toList,Array.toList_zip]
  have hS:St n (v9_ e ps.toList args) {tmps:=(ps.zip args.toArray).foldl (λt (p,v)=>t.setIfInBounds p v) tmps,defers:=[]}:=by
    rw [hz];exact St.binds _ _ hps hst
  refine wpIn_mono (hbody w (iG Hs) σ σ p.2 x p' args Hs hB hle hax hg w _ ⟨hw1.tail,⟨λ_=>⟨[],rfl,List.nodup_nil,by simp⟩,(λ_ h=>by cases h),λl' hl'=> ?_⟩⟩ hS) ?_
  · cases hl';exact ⟨rfl,⟨_,hl1⟩,(qa_ hw1).1,(qa_ hw1).2⟩
  rintro ex a2 w2 ⟨e2,σ2,H2,hS2,hw2,hq2⟩
  cases ex with
  |normal=>
    have hw2':=hw1.Z9 hw2.toReach
    have hl2:w2.heap[l]? =some (.loop (tC fn tmps ps assign body D .ready none)):=hw2'.holds _ (ji ..)
    have hw3:=hw2'.b4_ (o':= .loop (tC fn tmps ps assign body D .busy none))
    have hl3:(w2.putObj l (.loop (tC fn tmps ps assign body D .busy none))).heap[l]? =some (.loop (tC fn tmps ps assign body D .busy none)):=hw3.holds _ (ji ..)
    have hd2:a2.defers=[]:=(hw2.marks.rc l rfl).1
    refine ⟨_,run_beginRound hl2 rfl,?_⟩
    refine wpIn_mono (hq2 _ (iG H2) σ2 _ a2 ⟨hw3.tail,⟨λ_=>⟨[],by rw [hd2];rfl,List.nodup_nil,by simp⟩,(λ_ h=>by cases h),λl' hl'=> ?_⟩⟩ hS2) ?_
    · cases hl';exact ⟨hd2,⟨_,hl3⟩,(qa_ hw3).1,(qa_ hw3).2⟩
    rintro ex a4 w4 ⟨e4,σ4,H4,hS4,hw4,hq4⟩
    have WI:=hw3.Z9 hw4.toReach
    have hl4:w4.heap[l]? =some (.loop (tC fn tmps ps assign body D .busy none)):=WI.holds _ (ji ..)
    have fin: ∀(jump:Option Code) (j:Nat),p'.1=j->(j=0->jump=none)->(j≠0->jump=J[j - 1]? /\ ∃c,jump=some c)->G p'.2 σ4 H4-> ∃v w',(Instr.endRound l jump).run P w4= .ok v w'/\(Ending.returned v= .returned (.bool (p'.1 == 0))/\ ∃σ' r',YR (rndZ l (tC fn tmps ps assign body D) J σs G hG) p' σ' r'/\Reach w (Res.star (Res.lrec l (Hq (tC fn tmps ps assign body D) J p.1)::Hs)).bl σ σ' w' [r']):=λjump j h1 h2 h3 h4=>by
      have h6:Obj.loop (tC fn tmps ps assign body D (if jump.isNone then .ready else .done) jump)=Hq (tC fn tmps ps assign body D) J p'.1:=by
        unfold Hq
        rw [h1]
        by_cases h0:j=0
        · rw [if_pos h0,h2 h0];rfl
        obtain ⟨h7,c,h8⟩:=h3 h0
        rw [if_neg h0,<-h7,h8];rfl
      refine ⟨_,_,run_endRound jump hl4,?_,σ4,Res.star (Res.lrec l (Hq (tC fn tmps ps assign body D) J p'.1)::H4),⟨H4,rfl,h4,hle.trans WI.le,λh=> ?_⟩,?_⟩
      · rw [h1]
        by_cases h0:j=0
        · rw [h2 h0,h0];rfl
        obtain ⟨_,c,hc⟩:=h3 h0
        rw [hc];simp [h0]
      · rw [h1]at h ⊢
        obtain ⟨h5,c,h6⟩:=h3 h
        exact ⟨c,by rw [<-h5,h6]⟩
      have h5:=WI.b4_ (o':= .loop (tC fn tmps ps assign body D (if jump.isNone then .ready else .done) jump))
      show Reach w _ σ σ4 (w4.putObj l (.loop (tC fn tmps ps assign body D (if jump.isNone then .ready else .done) jump))) _
      rw [h6]at h5 ⊢
      rw [hp0]
      exact Reach.star (G:=Res.lrec l (Hq (tC fn tmps ps assign body D) J p'.1)::H4) (F:=[]) (by rw [List.append_nil];exact h5)
    cases ex with
    |normal=>exact fin none 0 hq4.1 (λ_=>rfl) (λh=>absurd rfl h) hq4.2
    |ret=>obtain ⟨j,hj,h1,h2⟩:=hq4;exact fin (some .ret) (j+1) h1 (λh=>by cases h) (λ_=>⟨by simpa using hj.symm,_,rfl⟩) h2
    |exit i=>obtain ⟨j,hj,h1,h2⟩:=hq4;exact fin (some (.exit i)) (j+1) h1 (λh=>by cases h) (λ_=>⟨by simpa using hj.symm,_,rfl⟩) h2
    |goto i=>obtain ⟨j,hj,h1,h2⟩:=hq4;exact fin (some (.goto i)) (j+1) h1 (λh=>by cases h) (λ_=>⟨by simpa using hj.symm,_,rfl⟩) h2
    |panic c=>exact hq4.elim
    |outgrown=>exact hq4.elim
  |exit i=>exact hq2.elim
  |goto i=>exact hq2.elim
  |ret=>exact hq2.elim
  |panic c=>exact hq2.elim
  |outgrown=>exact hq2.elim
@[reducible]def jmpQ(X:Ctx)(Q:QP)(J:List Code):Nat->Env->aj->List Res->Prop
  |0=>Q .normal
  |j+1=>λe σ H=> ∀c,J[j]? =some c->TC X Q c e σ H
theorem TC.rangeFunc {X : Ctx} {Q : QP} {e : Env} {σ : aj} {H Hs Hc : List Res} {S α : Type} {g : Operand} {ps : Array Tmp} {assign body : Code} {f : Nat} {lb : List Value} {A : α -> aj -> List Value -> Prop}
    (J:List Code) (B:S->α->Option (Nat×S)) (G:S->aj->List Res->Prop) {s:S} {q:Nat×S} {PostC:aj->List Res->Prop}
    (hg:ev e g= .func (.func f) #[] lb.toArray) (hp:plainF X.P f=true) (hH:Hs++Hc=H) (hps:ps.toList.all (λp=>Nat.blt p X.n)=true)
    (hG: ∀{s σ σ' H},G s σ H->σ.le σ'->G s σ' H) (h0:G s σ Hs) (hA: ∀x σ vs,A x σ vs->vs.length=ps.size)
    (hit:xw_ X.P f lb A (MW B) σ Hc (0,s) q PostC)
    (hbody: ∀(l:Nat) (w0:World) (C:List Nat) (τ σ':aj) (s:S) (x:α) (q:Nat×S) (vs:List Value) (Hs:List Res),B s x=some q->σ.le σ'->A x σ' vs->G s σ' Hs->
      TC ⟨X.P,w0,C,τ,X.n,some l,none⟩ (asgQ λe σ H=> ∀w0 C τ,TC ⟨X.P,w0,C,τ,X.n,some l,none⟩ (rndQ J λj σ H=>q.1=j/\G q.2 σ H) body e σ H) assign (v9_ e ps.toList vs) σ' Hs)
    (hdone: ∀σ' Hs' Hc',σ.le σ'->G q.2 σ' Hs'->PostC σ' Hc'->jmpQ X Q J q.1 e σ' (Hs'++Hc')) (hown:X.own=none:=by rfl):TC X Q (.rangeFunc g ps assign body) e σ H:=by
  subst hH
  intro w a hw ha
  have hps': ∀p∈ps.toList,p<X.n:=λp hp=>by
    have:=List.all_eq_true.1 hps p hp
    simpa [Nat.blt_eq]using this
  refine wpIn_rangeFunc λfn _=> ?_
  have key: ∀(l D:Nat) (w1:World) (a1:Act),a1.tmps=a.tmps->RM X a1 σ w1 (Res.lrec l (.loop (tC fn a.tmps ps assign body D .ready none))::(Hs++Hc))->
      CallsIn (fence X.rnd) 0 X.P f (#[.func (.yield l) #[] #[]]++lb.toArray) w1 (rangePost (fence X.rnd) 0 X.P l (low X Q) a1):=by
    intro l D w1 a1 ht hw1
    have hcon:=hit l (rndZ l (tC fn a.tmps ps assign body D) J σ G hG) (Res.star (Res.lrec l (Hq (tC fn a.tmps ps assign body D) J 0)::Hs))
      (yOk_of ⟨ha.size,ha.get⟩ hps' hA (hbody l)) ⟨Hs,rfl,h0,aj.le.refl _,λh=>absurd rfl h⟩
    have hst:RM X a1 σ w1 (Res.star (Res.lrec l (Hq (tC fn a.tmps ps assign body D) J 0)::Hs)::Hc):=hw1.by λ_ k=>Reach.star (G:=Res.lrec l (Hq (tC fn a.tmps ps assign body D) J 0)::Hs) (F:=Hc) k
    have hcall:=hcon w1 hst.self
    have hargs:(Value.func (.yield l) #[] #[]::lb).toArray= #[.func (.yield l) #[] #[]]++lb.toArray:=by apply Array.ext';simp
    rw [hargs]at hcall
    refine Z7.2 (hcall.mono ?_)
    rintro ex w2 ⟨v,σ2,H2,rfl,⟨r',Hc',rfl,⟨Hs',rfl,hg2,hle,hJ⟩,hpc⟩,hw2⟩
    have hw3:RM X a1 σ2 w2 (Res.lrec l (Hq (tC fn a.tmps ps assign body D) J q.1)::(Hs'++Hc')):=(hst.step hw2 rfl).by λ_ k=>k.Va
    have hl:w2.heap[l]? =some (Hq (tC fn a.tmps ps assign body D) J q.1):=hw3.holds _ (ji ..)
    have hS1:St X.n e a1:=⟨by rw [ht];exact ha.size,λt=>by rw [ht];exact ha.get t⟩
    have hw5: ∀o',RM X a1 σ2 (w2.putObj l o') (Hs'++Hc'):=λo'=>hw3.step ((hw3.self.b4_ (o':=o')).sub (List.sublist_cons_self ..)) rfl
    have hfin:=hdone σ2 Hs' Hc' hle hg2 hpc
    unfold Hq at hl
    cases hq:q.1 with
    |zero=>
      rw [hq]at hl hfin
      exact ⟨none,_,run_endLoop hl (by simp),e,σ2,_,hS1,hw5 _,hfin⟩
    |succ j=>
      rw [hq]at hl hfin hJ
      obtain ⟨c,hc⟩:=hJ (by simp)
      simp only [Nat.add_sub_cancel,Nat.succ_ne_zero,if_false]at hl hc
      rw [hc]at hl
      exact ⟨some c,_,run_endLoop hl (by simp),hfin c hc _ a1 (hw5 _) hS1⟩
  have hnew: ∀k,k<w.heap.size\/True:=λ_=> .inr trivial
  have hres: ∀l w1,(resolve a.eval (rangeCall g l) 0).run X.P w1= .ok {target:= .fn (.func f) lb.toArray,args:= #[.func (.yield l) #[] #[]]} w1:=λl w1=>by
    rw [ha.eval']
    simp only [resolve,hg]
    simp [go_sem,Deferred.ofValue,ev]
  have hinv: ∀l w1,(invoke (.fn (.func f) lb.toArray) #[.func (.yield l) #[] #[]]).run X.P w1= .ok (.enter f (#[.func (.yield l) #[] #[]]++lb.toArray)) w1:=λl w1=>by
    simp [invoke,U8 hp]
  cases hr:X.rnd with
  |none=>
    refine ⟨w.heap.size+1,_,_,_,_,f,_,_,run_enterLoop_outer _ _ _ _ _,hres _ _,λ_ _=>trivial,hinv _ _,(λh=>by cases h),hr▸key (w.heap.size+1) w.heap.size _ _ rfl ?_⟩
    have hsz:((w.alloc (.deferred (some []))).heap.size)=w.heap.size+1:=by simp
    have hold: ∀k,k<w.heap.size->((w.alloc (.deferred (some []))).alloc (.loop (tC fn a.tmps ps assign body w.heap.size .ready none))).heap[k]? =w.heap[k]? :=λk hk=>by
      rw [Nh _ _ _ (by omega),Nh _ _ _ hk]
    have hR:Reach w (iG (Hs++Hc)) σ σ ((w.alloc (.deferred (some []))).alloc (.loop (tC fn a.tmps ps assign body w.heap.size .ready none))) (Res.lrec (w.heap.size+1) (.loop (tC fn a.tmps ps assign body w.heap.size .ready none))::(Hs++Hc)):=
      hw.self.gain rfl rfl rfl (by simp;omega) (Nat.le_refl _) hold (by
        have:=World.alloc_heap_new (w.alloc (.deferred (some []))) (.loop (tC fn a.tmps ps assign body w.heap.size .ready none))
        rw [hsz]at this;exact this) (λb hb=>by simp [Res.lrec]at hb;omega) (by simp [Res.lrec])
    have h1:=hw.step hR (a':=a) rfl
    refine ⟨h1.toReach,⟨λ_=> ?_,(λ_ h=>by rw [hown]at h;cases h),λl hl=>by rw [hr]at hl;cases hl⟩⟩
    obtain ⟨Ds,g1,g2,g3⟩:=h1.marks.ex hown
    obtain ⟨Ds0,g10,g20,g30⟩:=hw.marks.ex hown
    have hDs:Ds=Ds0:=by
      have:=g1.symm.trans g10
      have h2: ∀(A B:List Nat),A.map (λD=>({target:= .collected D,args:= #[]}:Deferred))=B.map (λD=>({target:= .collected D,args:= #[]}:Deferred))->A=B:=λA=>by
        induction A with
        |nil=>intro B h;cases B with
          |nil=>rfl
          |cons b B=>simp at h
        |cons a A ih=>intro B h;cases B with
          |nil=>simp at h
          |cons b B=>simp only [List.map_cons,List.cons.injEq,Deferred.mk.injEq,Target.collected.injEq,and_true]at h;rw [h.1,ih B h.2]
      exact h2 _ _ this
    subst hDs
    refine ⟨w.heap.size::Ds,by simp [g1],List.nodup_cons.2 ⟨λhx=> ?_,g2⟩,λD hD=> ?_⟩
    · have:=(Array.getElem?_eq_some_iff.1 (g30 _ hx).1).1;omega
    rcases List.mem_cons.1 hD with rfl|hD
    · refine ⟨?_,hw.size,λhx=> ?_,?_⟩
      · rw [Nh _ _ _ (by omega)];exact World.alloc_heap_new w _
      · simp only [iG,List.flatMap_cons,Res.lrec,List.cons_append,List.nil_append,List.mem_cons]at hx
        rcases hx with hx|hx
        · omega
        obtain ⟨r,hr',hb⟩:=yG.1 hx
        have:=hw.block_lt hr' hb;omega
      cases hs:σ w.heap.size with
      |none=>rfl
      |some o=>have:=(Array.getElem?_eq_some_iff.1 (hw.fit _ _ hs)).1;omega
    exact g3 D hD
  |some l0=>
    obtain ⟨hd0,⟨r0,h1⟩,h2,h3⟩:=hw.marks.rc l0 hr
    refine ⟨w.heap.size,_,_,_,_,f,_,_,run_enterLoop_inner h1 _ _ _ _ _,hres _ _,λ_ _=>trivial,hinv _ _,(λh=>by cases h),hr▸key w.heap.size r0.defers _ a rfl ?_⟩
    refine hw.step (hw.self.gain rfl rfl rfl (by simp) (Nat.le_refl _) (λk hk=>Nh _ _ _ hk) (World.alloc_heap_new w _) (λb hb=>by simp [Res.lrec]at hb;omega) (by simp [Res.lrec])) rfl
theorem TC.rangeG{X:Ctx}{Q:QP}{e:Env}{σ:aj}{H Hs Hc:List Res}{S α:Type}{g:Operand}{ps:Array Tmp}{assign body:Code}{f:Nat}{lb:List Value}{A:α->aj->List Value->Prop}
    (J:List Code) (B:S->α->Option (Nat×S)) (G:S->aj->List Res->Prop) {s:S} {q:Nat×S} {PostC:aj->List Res->Prop}
    (hg:ev e g= .func (.func f) #[] lb.toArray) (hp:plainF X.P f=true) (hH:Hs++Hc=H) (hps:ps.toList.all (λp=>Nat.blt p X.n)=true)
    (hG: ∀{s σ σ' H},G s σ H->σ.le σ'->G s σ' H) (h0:G s σ Hs) (hA: ∀x σ vs,A x σ vs->vs.length=ps.size)
    (hit:xw_ X.P f lb A (MW B) σ Hc (0,s) q PostC)
    (hbody: ∀(l:Nat) (w0:World) (C:List Nat) (τ σ':aj) (s:S) (x:α) (q:Nat×S) (vs:List Value) (Hs:List Res),B s x=some q->σ.le σ'->A x σ' vs->G s σ' Hs->
      TC ⟨X.P,w0,C,τ,X.n,some l,none⟩ (asgQ λe σ H=> ∀w0 C τ,TC ⟨X.P,w0,C,τ,X.n,some l,none⟩ (rndQ J λj σ H=>q.1=j/\ ∃F,Sub F H/\G q.2 σ F) body e σ H) assign (v9_ e ps.toList vs) σ' Hs)
    (hdone: ∀σ' Hs' Hc',σ.le σ'->G q.2 σ' Hs'->PostC σ' Hc'->jmpQ X Q J q.1 e σ' (Hs'++Hc')) (hown:X.own=none:=by rfl):TC X Q (.rangeFunc g ps assign body) e σ H:=by
  refine TC.rangeFunc J B G hg hp hH hps hG h0 hA hit (λl w0 C τ σ' s x q vs Hs h1 h2 h3 h4=>(hbody l w0 C τ σ' s x q vs Hs h1 h2 h3 h4).weak λex e σ H h=> ?_) hdone hown
  cases ex with
  |normal=>
    refine λw0 C τ=>TC.c3_ ((h w0 C τ).weak λex e σ H h=> ?_)
    cases ex with
    |normal=>obtain ⟨h1,F,hs,hg⟩:=h;exact ⟨F,hs,h1,hg⟩
    |ret=>obtain ⟨j,hj,h1,F,hs,hg⟩:=h;exact ⟨F,hs,j,hj,h1,hg⟩
    |exit i=>obtain ⟨j,hj,h1,F,hs,hg⟩:=h;exact ⟨F,hs,j,hj,h1,hg⟩
    |goto i=>obtain ⟨j,hj,h1,F,hs,hg⟩:=h;exact ⟨F,hs,j,hj,h1,hg⟩
    |panic c=>exact h.elim
    |outgrown=>exact h.elim
  |exit i=>exact h
  |goto i=>exact h
  |ret=>exact h
  |panic c=>exact h
  |outgrown=>exact h
theorem asg_n{K:Env->aj->List Res->Prop}{e:Env}{σ:aj}{H:List Res}(h:K e σ H):asgQ K .normal e σ H:=h
theorem rnd_n{J:List Code}{K:Nat->aj->List Res->Prop}{e:Env}{σ:aj}{H:List Res}(h:K 0 σ H):rndQ J K .normal e σ H:=h
def jsel{α:Type}:Nat->Option α->(Nat->Option α)->Option α
  |0,a,_=>a
  |n+1,_,b=>b n
theorem w5_{X:Ctx}{Q:QP}{J:List Code}{n:Nat}{e:Env}{σ:aj}{H:List Res}{α:Type}{a:Option α}{b:Nat->Option α}{r:α}(hh:jsel n a b=some r)
    (h0:a=some r->Q .normal e σ H) (h1: ∀m c,b m=some r->J[m]? =some c->TC X Q c e σ H):jmpQ X Q J n e σ H:=by
  cases n with
  |zero=>exact h0 hh
  |succ m=>exact λc hc=>h1 m c hh hc
theorem jl_nil{X:Ctx}{Q:QP}{c:Code}{m:Nat}{e:Env}{σ:aj}{H:List Res}(hc:([]:List Code)[m]? =some c):TC X Q c e σ H:=by simp at hc
end Go.E
end

noncomputable section
namespace Go.Proofs.YtchebnpdnfhenaaGreatDoor
open Go Go.E Go.E.OpVal Go.E.OpOk Go.Proofs.Tryz
open List (replicate)
theorem Vb:aggOf Tryz.prog 147=some false:=by kernel_rfl
theorem uJ:byOf Tryz.prog 3=some 8:=by kernel_rfl
theorem mG:byOf Tryz.prog 86=some 24:=by kernel_rfl
theorem pf122:plainF Tryz.prog 122=true:=by kernel_rfl
theorem SN:plainF Tryz.prog 123=true:=by kernel_rfl
theorem SA:plainF Tryz.prog 152=true:=by kernel_rfl
theorem pf56:plainF Tryz.prog 56=true:=by kernel_rfl
theorem pf85:plainF Tryz.prog 85=true:=by kernel_rfl
theorem Oj:plOf Tryz.prog 66=some #[(0,1),(1,1),(2,4),(6,1),(7,1)]:=by kernel_rfl
theorem Jt:plOf Tryz.prog 76=some #[(0,1),(1,1)]:=by kernel_rfl
theorem sz147:szOf Tryz.prog 147=some 1:=by kernel_rfl
theorem Jo:szOf Tryz.prog 22=some 1:=by kernel_rfl
theorem NU:szOf Tryz.prog 23=some 1:=by kernel_rfl
theorem jB:szOf Tryz.prog 27=some 1:=by kernel_rfl
theorem Jh:szOf Tryz.prog 29=some 1:=by kernel_rfl
theorem ze147:zeroOf Tryz.prog 147=some (.nilFunc):=by kernel_rfl
theorem qJ:zeroOf Tryz.prog 27=some (bM):=by kernel_rfl
theorem VA:zeroOf Tryz.prog 29=some (bM):=by kernel_rfl
theorem kY:zeroOf Tryz.prog 86=some (bM):=by kernel_rfl
def QB(x2:bW)(x0:Int)(self_:Int->B_1->bW->Option B_1)(Jz:B_1)(qW:Nat):Option ((B_1×Nat)⊕(B_1)):=
 aQ (decide ((qW:Int)<(((nth x2 x0.toNat []).length:Nat):Int))) (bnd (self_ (nth (nth x2 x0.toNat []) qW 0) Jz x2) (λv21=>nxt (v21,(qW+1)))) (fin (some Jz))
def Dy_(self_:Int->B_1->bW->Option B_1)(x0:Int)(x1:B_1)(x2:bW):Option (B_1):=
 grd (0<=x0/\x0<(x1.length:Int)) (aQ (nth x1 x0.toNat false) (some x1) (grd (0<=x0/\x0<(x1.length:Int)) (grd (0<=x0/\x0<(x2.length:Int)) (bC (λq:B_1×Nat=>QB x2 x0 self_ q.1 q.2) ((x1.set x0.toNat true),0)))))
def Qp:Nat->Int->B_1->bW->Option B_1
 |0=>λ_ _ _=>none
 |n+1=>Dy_ (Qp n)
theorem G1_ {self_:Int->B_1->bW->Option B_1} (self__con: ∀{σ:aj} {x0:Int} {x1:B_1} {fG:Nat} {uM:Nat} {jL:Option Addr} {jK:Nat} {x2:bW} {jq:Nat} {zu:Nat} {lH:Option Addr} {lD:Nat} {jo:Nat} {zq:Nat} (vK:RZ σ (aC 1 aF bn) (.slice lH x2.length lD) x2) {r:B_1} (hh:self_ x0 x1 x2=some r),
  Con prog 152 #[.int .i64 x0,loc fG 0,loc jq 0,loc jo 0] σ [κ fG #[.slice jL x1.length jK] uM,dR 4 eq_ jL jK x1,κ jq #[.slice lH x2.length lD] zu,κ jo #[.func (.func 152) #[] #[loc fG 0,loc jq 0,loc jo 0]] zq] (λv σ' H'=> ∃Dp Dh,v= .tuple #[]/\σ=σ'/\H'=[κ fG #[.slice Dp r.length Dh] uM,dR 4 eq_ Dp Dh r,κ jq #[.slice lH x2.length lD] zu,κ jo #[.func (.func 152) #[] #[loc fG 0,loc jq 0,loc jo 0]] zq])) {σ:aj} {x0:Int} {x1:B_1} {fG:Nat} {uM:Nat} {jL:Option Addr} {jK:Nat} {x2:bW} {jq:Nat} {zu:Nat} {lH:Option Addr} {lD:Nat} {jo:Nat} {zq:Nat} (vK:RZ σ (aC 1 aF bn) (.slice lH x2.length lD) x2) {r:B_1} (hh:Dy_ self_ x0 x1 x2=some r):
  Con prog 152 #[.int .i64 x0,loc fG 0,loc jq 0,loc jo 0] σ [κ fG #[.slice jL x1.length jK] uM,dR 4 eq_ jL jK x1,κ jq #[.slice lH x2.length lD] zu,κ jo #[.func (.func 152) #[] #[loc fG 0,loc jq 0,loc jo 0]] zq] (λv σ' H'=> ∃Dp Dh,v= .tuple #[]/\σ=σ'/\H'=[κ fG #[.slice Dp r.length Dh] uM,dR 4 eq_ Dp Dh r,κ jq #[.slice lH x2.length lD] zu,κ jo #[.func (.func 152) #[] #[loc fG 0,loc jq 0,loc jo 0]] zq]):=by
 dsimp only [Dy_]at hh
 have f2_3b:=vK.big
 refine Con.mk (n:=27) Tryz.func152 z z z (λw0=> ?_)
 refine TC.c3_ (θ (ξ (ω z (bg z rX z (i:=0) z z) (ψ z z ?_))))
 obtain ⟨u3,hh⟩:=aP hh
 refine TL.isSl (i:=1) z (λhs107 _ _=> ?_)
 refine ω z (OpVal.index z g_ gV z z hs107 u3.1 u3.2) (ω z (nZ false z nX z (q:=1) z iQ (by omega) z) (ε (TC.cB z hh (λfH hh=> ?_) (λfH hh=> ?_))))
 ·refine TC.ret (S.r ?_)
  obtain rfl:=so hh
  refine ⟨_,Θ [3,3,3,3] 4,?_⟩
  exact ro [κ fG #[.slice jL x1.length jK] uM,dR 4 eq_ jL jK x1,κ jq #[.slice lH x2.length lD] zu,κ jo #[.func (.func 152) #[] #[loc fG 0,loc jq 0,loc jo 0]] zq] z RVs.nil ⟨jL,jK,z,z,z⟩
 refine ι (S.n (ξ (ω z (bg z rX z (i:=0) z z) (ψ z z ?_))))
 obtain ⟨u7,hh⟩:=aP hh
 refine TL.isSl (i:=1) z (λhs109 _ _=> ?_)
 refine ω z (OpVal.index z g_ gV z z hs109 u7.1 u7.2) (ζ 1 z z ?_)
 have hn110:(x1.set x0.toNat true).length=x1.length:=by rw [fQ]
 refine ν z (lF true z gV z z z z iQ qQ (by omega) (by omega) ?_)
 refine ε (ξ (ω z (bg z j_ z (i:=2) z z) (ψ z z ?_)))
 obtain ⟨u11,hh⟩:=aP hh
 refine ω z (OpVal.index z eX fP z z vK.isSl u11.1 u11.2) ?_
 obtain ⟨OW,CX,hg111⟩:=RZ.seg vK x0.toNat (by omega)
 replace CX:dH _ aF OW.1 OW.2 (nth x2 x0.toNat []):=CX
 have hk111b:=CX.rv.big
 refine ω z (OpVal.of (lZ z hs_ z hg111 z) (v':= .slice OW.1 ((nth x2 x0.toNat []).length) OW.2) z) (ω z (lenC z bY z) (ψ z z (ε (υ ?_))))
 rw [<-hn110]
 refine TC.iE (α:=(B_1×Nat)×((Option Addr)×Nat)) (rgs [(6,1),(19,8)]) (λg=>[(19,.int .i64 ((g.1.2:Nat):Int))]) (λg=>[κ jo #[.func (.func 152) #[] #[loc fG 0,loc jq 0,loc jo 0]] zq,κ fG #[.slice g.2.1 g.1.1.length g.2.2] uM,φ 4 1 eq_ (.slice g.2.1 g.1.1.length g.2.2) g.1.1,κ jq #[.slice lH x2.length lD] zu]) (λg=>σ) (λg=>bC (λq:B_1×Nat=>QB x2 x0 self_ q.1 q.2) g.1=some r) (λg=>fZ (λq:B_1×Nat=>QB x2 x0 self_ q.1 q.2) g.1) (((x1.set x0.toNat true),0),(jL,jK)) (Θ [2,1,2,3] 4) z (by repeat (first|exact trivial|refine ⟨z,?_⟩)) hh (λg1 j1 hg1=> ?_)
 obtain ⟨⟨Jz,qW⟩,⟨Zo,YU⟩⟩:=g1
 have hh:=hg1;clear hg1
 try dsimp only
 obtain ⟨z1,hh,hR1⟩:=iq hh
 dsimp only [QB]at hh
 refine χ (i:=2) z (λ_ Dc _=> ?_)
 refine ξ (ω z (OpVal.lss z z z) (ε (θ (TC.cD z hh (λrJ hh=> ?_) (λrJ hh=> ?_)))))
 ·refine ι (S.n (θ (υ (ξ (ω z (bT z bY dh z z CX.rv.sl (by omega)) (ω z (fD (0:Int) z fC z CX (by omega) z) (ψ z z (ε (η (ω z (bg z Vb z (i:=0) z z) (ψ z z (ζ 3 z z (ζ 3 z z (ζ 3 z z ?_))))))))))))))
  obtain ⟨v21,u21,hh⟩:=dJ hh
  refine ν z (OpOk.call (self__con vK u21) z z SA z z z z ?_)
  rintro _ _ _ pV ⟨a130_1,c130_2,rfl,rfl,rfl⟩
  refine TL.nil (B.n (S.n (η (ω z (OpVal.succ z z z (by omega)) (ψ z z (ε ?_))))))
  obtain ⟨hh,Ea⟩:=dL hR1 hh
  exact lf ((v21,(qW+1)),(a130_1,c130_2)) Ea hh (Θ [2,2,2,3] 4)
 refine TC.exit (S.x (S.x ?_))
 replace hh:=dI hR1 hh
 refine Δ ?_
 obtain rfl:=so hh
 refine ⟨_,Θ [3,3,3] 4,?_⟩
 exact RetOk.mk' (rs:=[]) [κ fG #[.slice Zo Jz.length YU] uM,dR 4 eq_ Zo YU Jz,κ jq #[.slice lH x2.length lD] zu,κ jo #[.func (.func 152) #[] #[loc fG 0,loc jq 0,loc jo 0]] zq] z (.inr z) RVs.nil (List.sublist_append_left _ _) ⟨Zo,YU,z,z,z⟩
theorem Ha_{n_:Nat}: ∀{σ:aj} {x0:Int} {x1:B_1} {fG:Nat} {uM:Nat} {jL:Option Addr} {jK:Nat} {x2:bW} {jq:Nat} {zu:Nat} {lH:Option Addr} {lD:Nat} {jo:Nat} {zq:Nat} (vK:RZ σ (aC 1 aF bn) (.slice lH x2.length lD) x2) {r:B_1} (hh:Qp n_ x0 x1 x2=some r),
  Con prog 152 #[.int .i64 x0,loc fG 0,loc jq 0,loc jo 0] σ [κ fG #[.slice jL x1.length jK] uM,dR 4 eq_ jL jK x1,κ jq #[.slice lH x2.length lD] zu,κ jo #[.func (.func 152) #[] #[loc fG 0,loc jq 0,loc jo 0]] zq] (λv σ' H'=> ∃Dp Dh,v= .tuple #[]/\σ=σ'/\H'=[κ fG #[.slice Dp r.length Dh] uM,dR 4 eq_ Dp Dh r,κ jq #[.slice lH x2.length lD] zu,κ jo #[.func (.func 152) #[] #[loc fG 0,loc jq 0,loc jo 0]] zq]):=by
 induction n_ with
 |zero=>intro σ x0 x1 fG uM jL jK x2 jq zu lH lD jo zq vK r hh;exact absurd hh (by intro h_;cases h_)
 |succ k_ ih_=>
  intro σ x0 x1 fG uM jL jK x2 jq zu lH lD jo zq vK r hh
  exact G1_ (self_:=Qp k_) @ih_ vK hh
def Qw(x0:List Tip)(x1:bW)(lN:B_1)(bP:Nat):Option ((B_1×Nat)⊕(B_1)):=
 aQ (decide ((bP:Int)<((x0.length:Nat):Int))) (bnd (Qp (lN.length+1) ((nth x0 bP aG).state) lN x1) (λv22=>nxt (v22,(bP+1)))) (fin (some lN))
def Ec_(x0:List Tip)(x1:bW):Option (B_1):=
 grd (1 * x1.length<=281474976710656) (bC (λq:B_1×Nat=>Qw x0 x1 q.1 q.2) ((replicate x1.length false),0))
def Hu_(σ:aj)(r:B_1):Value->aj->List Res->Prop:=λv σ' H'=>
 ∃a1 c1,v= .slice a1 r.length c1/\σ=σ'/\H'=[dR 4 eq_ a1 c1 r]
theorem F8_{σ:aj}{x0:List Tip}{x1:bW}(au:RS σ 2 dD (.slice aN x0.length aK) x0)(dN:RZ σ (aC 1 aF bn) (.slice jd x1.length jc) x1){r:B_1}(hh:Ec_ x0 x1=some r):
  Con prog 123 #[.slice aN x0.length aK,.slice jd x1.length jc] σ [] (Hu_ σ r):=by
 dsimp only [Ec_]at hh
 have f0_0b:=au.rv.big
 have f1_0b:=dN.big
 refine Con.mk (n:=25) Tryz.func123 z z z (λw0=> ?_)
 refine ξ (ν z (OpOk.box z z z z (λbG=> ?_)))
 refine Ξ z z (ε (ξ (ω z (bg z j_ z (i:=0) z z) (ω z (lenC z eX z) ?_))))
 obtain ⟨u5,hh⟩:=aP hh
 refine ν z (oW (enc:=eq_) false z g_ gV GV Ap z z z z (by omega) (by decide) iQ (by decide) z qQ (λjD jC=> ?_))
 refine ν z (OpOk.alloc z VA z z (λxZ=> ?_))
 refine ν z (f_ z Jh z z z z z ?_)
 refine ε (ξ (ν z (OpOk.alloc z ze147 z z (λPX=> ?_))))
 refine ε (ξ (ω z (b9_ z) (ν z (dd_ z sz147 z z z z z ?_))))
 refine ε (θ (ξ (Ξ z z (ω z (lenC z kS z) (ψ z z (ε (υ (TC.iE (α:=(B_1×Nat)×((Option Addr)×Nat)) (rgs [(8,1),(15,9)]) (λg=>[(15,.int .i64 ((g.1.2:Nat):Int))]) (λg=>[κ xZ #[.slice g.2.1 g.1.1.length g.2.2] 29,φ 4 1 eq_ (.slice g.2.1 g.1.1.length g.2.2) g.1.1,κ PX #[.func (.func 152) #[] #[loc xZ 0,loc bG 0,loc PX 0]] 147,κ bG #[.slice jd x1.length jc] 27]) (λg=>σ) (λg=>bC (λq:B_1×Nat=>Qw x0 x1 q.1 q.2) g.1=some r) (λg=>fZ (λq:B_1×Nat=>Qw x0 x1 q.1 q.2) g.1) (((replicate x1.length false),0),(jD,jC)) (Θ [3,1,3,3] 4) z (by repeat (first|exact trivial|refine ⟨z,?_⟩)) hh (λg1 j1 hg1=> ?_)))))))))
 obtain ⟨⟨lN,bP⟩,⟨a122,c123⟩⟩:=g1
 have hh:=hg1;clear hg1
 try dsimp only
 obtain ⟨z1,hh,hR1⟩:=iq hh
 dsimp only [Qw]at hh
 refine χ (i:=1) z (λ_ hb125 _=> ?_)
 refine ξ (ω z (OpVal.lss z z z) (ε (θ (TC.cD z hh (λh126 hh=> ?_) (λh126 hh=> ?_)))))
 ·refine ι (S.n (θ (υ (ξ (ω z (bT z kS jQ z z au.rv.sl (by omega)) (ω z (Ie aG z DC jQ z au (by omega) (by omega)) (ν z (OpOk.alloc z vC z z (λb127=> ?_)))))))))
  refine ν z (storeAll z jQ z z z z z z ?_)
  refine ε (η (ω z (bg z Vb z (i:=3) z z) (ω z (aU z EN z) (ω z (bg z fC z (i:=0) z z) (ζ 3 z z (ζ 4 z z (ζ 4 z z (ζ 4 z z ?_))))))))
  obtain ⟨v22,u22,hh⟩:=dJ hh
  refine ν z (OpOk.call (Ha_ dN u22) z z SA z z z z ?_)
  rintro _ _ _ pW ⟨a129_1,c129_2,rfl,rfl,rfl⟩
  refine TL.nil (B.n (S.n (η (ω z (OpVal.succ z z z (by omega)) (ψ z z (ε ?_))))))
  obtain ⟨hh,XV⟩:=dL hR1 hh
  exact lf ((v22,(bP+1)),(a129_1,c129_2)) XV hh (Θ [2,3,3,3] 4)
 refine TC.exit (S.x (S.x ?_))
 replace hh:=dI hR1 hh
 refine Δ (S.n (ξ (ω z (bg z rX z (i:=0) z z) (Ξ z z (ε (TC.qR (Θ [1] 1) (TC.ret ?_)))))))
 obtain rfl:=so hh
 exact ro [dR 4 eq_ a122 c123 lN] z (RVs.tmp z RVs.nil) ⟨a122,c123,z,z,z⟩
def Cn_{Sy:Type}(aX:Nat)(V5:Sy):Option ((Nat×Sy)⊕(Sy)):=
 nxt ((aX+1),V5)
def QC{Sy:Type}(v4:B_1)(v8:B_1)(Y:Sy->Int->Option (Sy×Bool))(aX:Nat)(Dy:Sy):Option ((Nat×Sy)⊕(Sy)):=
 aQ (decide ((aX:Int)<((v4.length:Nat):Int))) (aQ (nth v4 aX false) (grd (aX<v8.length) (aQ (nth v8 aX false) (bnd (Y Dy (aX:Int)) (λv30=>aQ (!v30.2) (fin (some v30.1)) (Cn_ aX v30.1))) (Cn_ aX Dy))) (Cn_ aX Dy)) (fin (some Dy))
def Dx_{Sy:Type}(Y:Sy->Int->Option (Sy×Bool))(s0:Sy)(x1:Fst)(x2:bW)(x3:bW):Option (Sy):=
 bnd (Ec_ x1.starts x2) (λv4=>bnd (Ec_ x1.ends x3) (λv8=>bC (λq:Nat×Sy=>QC v4 v8 Y q.1 q.2) (0,s0)))
theorem G5_{Sy:Type}{σ:aj}{Y:Sy->Int->Option (Sy×Bool)}{s0:Sy}{x1:Fst}{x2:bW}{x3:bW}(LG:RS σ 2 dD (.slice jL x1.starts.length jK) x1.starts)(f1_6:RS σ 2 dD (.slice E_ x1.ends.length ES) x1.ends)(f1_9:RS σ 8 kC (.slice E8 x1.arcs.length ER) x1.arcs)(vK:RZ σ (aC 1 aF bn) (.slice lH x2.length lD) x2)(f3_3:RZ σ (aC 1 aF bn) (.slice E5 x3.length EP) x3){r:Sy}(hh:Dx_ Y s0 x1 x2 x3=some r):
  xw_ prog 122 [loc fG 0,loc jq 0,loc jo 0] (λ(x:Int) _ vs=>vs=[.int .i64 x]) Y σ [κ fG (oN x1 jL jK E_ ES E8 ER) uM,κ jq #[.slice lH x2.length lD] zu,κ jo #[.slice E5 x3.length EP] zq] s0 r (λσ' H'=>H'=[κ fG (oN x1 jL jK E_ ES E8 ER) uM,κ jq #[.slice lH x2.length lD] zu,κ jo #[.slice E5 x3.length EP] zq]):=by
 intro l Z ry0 hY hys
 dsimp only [Dx_]at hh
 have f1_3b:=LG.rv.big
 have f1_6b:=f1_6.rv.big
 have f1_9b:=f1_9.rv.big
 have f2_3b:=vK.big
 have f3_3b:=f3_3.big
 refine Con.mk (n:=38) Tryz.func122 z z z (λw0=> ?_)
 refine TC.c3_ (θ ?_)
 obtain ⟨v4,u4,hh⟩:=dJ hh
 obtain ⟨v8,u8,hh⟩:=dJ hh
 refine TC.draw [] (by kernel_rfl) (TA.a 0 z (aU z Tc z) z (TA.b 1 z (bg z Fj z (i:=1) z z) z (TA.b 2 z (bg z j_ z (i:=2) z z) z (TA.a 4 z (aU z WC z) z (TA.b 5 z (bg z Fj z (i:=1) z z) z (TA.b 6 z (bg z j_ z (i:=3) z z) z (TA.ac 3 z (OpOk.call (F8_ LG vK u4) z z SN z z z z ?_))))))))
 rintro _ _ _ hle113 ⟨a113_1,c113_1,rfl,rfl,rfl⟩
 refine k1 (TA.ac 7 z (OpOk.call (F8_ f1_6 f3_3 u8) z z SN z z z z ?_))
 rintro _ _ _ jO ⟨a115_1,c115_1,rfl,rfl,rfl⟩
 refine k2 (TA.a 8 z (gK (.inr z) z) z (TA.a 9 z (gK (.inr z) z) z (TA.dn (S.n (ξ (Ξ z z (ω z (lenC z g_ z) (ψ z z (ε (υ (TC.iE (α:=(Nat×Sy)×(Res×aj)) (rgs [(7,1),(18,20)]) (λg=>[(18,.int .i64 ((g.1.1:Nat):Int))]) (λg=>[dR 4 eq_ a113_1 c113_1 v4,dR 4 eq_ a115_1 c115_1 v8,κ fG (oN x1 jL jK E_ ES E8 ER) uM,κ jq #[.slice lH x2.length lD] zu,κ jo #[.slice E5 x3.length EP] zq,g.2.1]) (λg=>g.2.2) (λg=>bC (λq:Nat×Sy=>QC v4 v8 Y q.1 q.2) g.1=some r/\YR Z g.1.2 g.2.2 g.2.1/\aj.le σ g.2.2) (λg=>fZ (λq:Nat×Sy=>QC v4 v8 Y q.1 q.2) g.1) ((0,s0),(ry0,σ)) (Θ [2,5,5,5,4,5] 6) z (by repeat (first|exact trivial|refine ⟨z,?_⟩)) ⟨hh,hys,(aj.le.refl _)⟩ (λg1 j1 hg1=> ?_))))))))))))
 obtain ⟨⟨aX,Dy⟩,⟨Js,τ129⟩⟩:=g1
 obtain ⟨hh,hy128,pV⟩:=hg1
 try dsimp only at hy128 pV ⊢
 obtain ⟨z1,hh,hR1⟩:=iq hh
 dsimp only [QC]at hh
 skip
 refine χ (i:=0) z (λ_ hb131 _=> ?_)
 refine χ (i:=1) z (λ_ hb132 _=> ?_)
 refine ξ (ω z (OpVal.lss z z z) (ε (θ (TC.cD z hh (λLl hh=> ?_) (λLl hh=> ?_)))))
 ·refine ι (S.n (TC.cutG (α:=(Sy)×(Res×aj)) (rgs [(7,1),(20,17)]) (λg=>[]) (λg=>[dR 4 eq_ a113_1 c113_1 v4,dR 4 eq_ a115_1 c115_1 v8,κ fG (oN x1 jL jK E_ ES E8 ER) uM,κ jq #[.slice lH x2.length lD] zu,κ jo #[.slice E5 x3.length EP] zq,g.2.1]) (λg=>g.2.2) (λg=>Cn_ aX g.1=some z1/\YR Z g.1 g.2.2 g.2.1/\aj.le τ129 g.2.2) ?_ (λg j hg=> ?_)))
  ·skip
   refine υ (ξ (ψ z z (ψ z z (ε (ξ (Ξ z z (ψ z z (TL.isSl (i:=0) z (λhs137 _ _=> ?_)))))))))
   refine ω z (bT z g_ gV z z hs137 (by omega)) (ω z (nZ false z nX z (q:=0) z iQ (by omega) z) (TL.j z z (TL.split 25 z (λqj=> ?_) (λqj=> ?_))))
   ·replace hh:=ig qj hh
    refine Ψ z (gK (.inl z) z) (Ψ z (cO (.inl z) z) ?_)
    obtain ⟨u24,hh⟩:=aP hh
    refine TL.isSl (i:=1) z (λhs139 _ _=> ?_)
    refine Ψ z (bT z g_ gV z z hs139 (by omega)) (Ψ z (nZ false z nX z (q:=1) z iQ (by omega) z) (ω z (dQ z z z) (TL.j z z (TL.split 31 z (λuz=> ?_) (λuz=> ?_)))))
    ·replace hh:=ig uz hh
     refine Ψ z (OpVal.mv (.inl z)) (Ψ z (cO (.inl z) z) ?_)
     obtain ⟨v30,u30,hh⟩:=dJ hh
     refine ζ 5 z z (TL.gon z z z z z (callY hY hy128 u30 z z z z z z ?_))
     rintro τ141 RY Yk TJ
     refine Ψ z (OpVal.not z z) (ω z (dQ z z z) (ε (TC.cB z hh (λh142 hh=> ?_) (λh142 hh=> ?_))))
     ·refine TC.qR (Θ [5,5,5,3] 4) (TC.ret (B.r (S.r (S.r ?_))))
      replace hh:=dI hR1 hh
      refine B.r ?_
      obtain rfl:=so hh
      refine ⟨_,Θ [3,3,3,3] 4,?_⟩
      exact ro [RY,κ fG (oN x1 jL jK E_ ES E8 ER) uM,κ jq #[.slice lH x2.length lD] zu,κ jo #[.slice E5 x3.length EP] zq] z RVs.nil ⟨_,_,z,TJ,z⟩
     exact ι (B.n (S.n (cf (v30.1,(RY,τ141)) ⟨hh,TJ,Yk⟩ (Θ [5,5,5,5,5] 6))))
    replace hh:=iw uz hh
    exact π z (π z (π z (π z (ω z (dU z z z) (ε (TC.f z (ι (B.n (S.n (cf (Dy,(Js,τ129)) ⟨hh,hy128,(aj.le.refl _)⟩ (Θ [5,5,5,5,5,5] 6)))))))))))
   replace hh:=iw qj hh
   refine π z (π z (π z (π z (ω z (dU z z z) (TL.j z z (π z (π z (π z (π z (ω z (dU z z z) (ε (TC.f z (ι (B.n (S.n ?_)))))))))))))))
   exact cf (Dy,(Js,τ129)) ⟨hh,hy128,(aj.le.refl _)⟩ (Θ [5,5,5,5,5,5] 6)
  skip
  obtain ⟨V5,⟨ry135,τ143⟩⟩:=g
  obtain ⟨hh,TK,zU⟩:=hg
  try dsimp only at TK
  dsimp only at zU
  replace hy128:=hy128.mono zU
  try dsimp only
  dsimp only [Cn_]at hh
  skip
  refine χ (i:=0) z (λ_ C_ _=> ?_)
  refine χ (i:=1) z (λ_ hb146 _=> ?_)
  refine η (ω z (OpVal.succ z z z (by omega)) (ψ z z (ε ?_)))
  obtain ⟨hh,XT⟩:=dL hR1 hh
  exact lf (((aX+1),V5),(ry135,τ143)) XT ⟨hh,TK,(pV.trans zU)⟩ (Θ [5,5,5,5,5,5] 6)
 refine TC.exit (S.x (S.x ?_))
 replace hh:=dI hR1 hh
 refine Δ ?_
 obtain rfl:=so hh
 refine ⟨_,Θ [4,4,4,5] 4,?_⟩
 exact RetOk.mk' (rs:=[]) [Js,κ fG (oN x1 jL jK E_ ES E8 ER) uM,κ jq #[.slice lH x2.length lD] zu,κ jo #[.slice E5 x3.length EP] zq] z (.inr z) RVs.nil (List.sublist_append_left _ _) ⟨_,_,z,hy128,z⟩
def Ee_(x0:Fst)(bJ:Nat)(jE:bW)(jU:bW):Option ((bW×bW×Nat)⊕((Fst×bW×bW))):=
 grd (0<=((nth x0.arcs bJ aZ).to)/\((nth x0.arcs bJ aZ).to)<(jE.length:Int)) (grd (((nth jE (((nth x0.arcs bJ aZ).to).toNat) []).length+[(nth x0.arcs bJ aZ).frm].length) * 8<=140737488355328) (grd (0<=((nth x0.arcs bJ aZ).to)/\((nth x0.arcs bJ aZ).to)<(jE.length:Int)) (nxt ((jU.set (((nth x0.arcs bJ aZ).frm).toNat) ((nth jU (((nth x0.arcs bJ aZ).frm).toNat) [])++[(nth x0.arcs bJ aZ).to])),(jE.set (((nth x0.arcs bJ aZ).to).toNat) ((nth jE (((nth x0.arcs bJ aZ).to).toNat) [])++[(nth x0.arcs bJ aZ).frm])),(bJ+1)))))
def QA(x0:Fst)(jU:bW)(jE:bW)(bJ:Nat):Option ((bW×bW×Nat)⊕((Fst×bW×bW))):=
 aQ (decide ((bJ:Int)<((x0.arcs.length:Nat):Int))) (grd (0<=((nth x0.arcs bJ aZ).frm)/\((nth x0.arcs bJ aZ).frm)<(jU.length:Int)) (grd (((nth jU (((nth x0.arcs bJ aZ).frm).toNat) []).length+[(nth x0.arcs bJ aZ).to].length) * 8<=140737488355328) (grd (0<=((nth x0.arcs bJ aZ).frm)/\((nth x0.arcs bJ aZ).frm)<(jU.length:Int)) (Ee_ x0 bJ jE jU)))) (fin (some (x0,jU,jE)))
def Eg_(x0:Fst):Option ((Fst×bW×bW)):=
 bC (λq:bW×bW×Nat=>QA x0 q.1 q.2.1 q.2.2) ((replicate x0.states.toNat ([]:ak)),(replicate x0.states.toNat ([]:ak)),0)
def Ei_(x0:Fst):Option ((Fst×bW×bW)):=
 grd (0<=x0.states/\24 * x0.states.toNat<=281474976710656) (grd (0<=x0.states/\24 * x0.states.toNat<=281474976710656) (Eg_ x0))
theorem Hb_{σ:aj}{x0:Fst}(au:RS σ 2 dD (.slice aN x0.starts.length aK) x0.starts)(aV:RS σ 2 dD (.slice aA x0.ends.length aY) x0.ends)(aS:RS σ 8 kC (.slice aW x0.arcs.length ay) x0.arcs){r:(Fst×bW×bW)}(hh:Ei_ x0=some r):
  Con prog 85 #[.agg (oN x0 aN aK aA aY aW ay)] σ [] (λv σ' H'=> ∃br10 ar1 cr2 ar4 cr5 ar7 cr8 br14 ar11 cr12 br18 ar15 cr16,v= .func (.func 122) #[] #[loc br10 0,loc br14 0,loc br18 0]/\RS σ' 2 dD (.slice ar1 r.1.starts.length cr2) r.1.starts/\RS σ' 2 dD (.slice ar4 r.1.ends.length cr5) r.1.ends/\RS σ' 8 kC (.slice ar7 r.1.arcs.length cr8) r.1.arcs/\RZ σ' (aC 1 aF bn) (.slice ar11 r.2.1.length cr12) r.2.1/\RZ σ' (aC 1 aF bn) (.slice ar15 r.2.2.length cr16) r.2.2/\H'=[κ br10 (oN r.1 ar1 cr2 ar4 cr5 ar7 cr8) 25,κ br14 #[.slice ar11 r.2.1.length cr12] 27,κ br18 #[.slice ar15 r.2.2.length cr16] 27]):=by
 dsimp only [Ei_]at hh
 have f0_0b:=au.rv.big
 have f0_1b:=aV.rv.big
 have f0_2b:=aS.rv.big
 refine Con.mk (n:=48) Tryz.func85 z z z (λw0=> ?_)
 refine ξ (ν z (boxA z z z z (λoD=> ?_)))
 refine ω z (OpVal.mv (.inr z)) (ε (TC.cutG (α:=(Unit)×(Nat×(Option Addr)×Nat×Nat×(Option Addr)×Nat)) (rgs [(3,2),(7,6)]) (λg=>[(3,loc g.2.1 0),(4,loc g.2.2.2.2.1 0)]) (λg=>[κ oD (oN x0 aN aK aA aY aW ay) 25,κ g.2.1 #[.slice g.2.2.1 ((replicate x0.states.toNat ([]:ak)).length) g.2.2.2.1] 27,Res.nest 86 3 1 aF (.slice g.2.2.1 (replicate x0.states.toNat ([]:ak)).length g.2.2.2.1) (replicate x0.states.toNat (oq:NP Int)),κ g.2.2.2.2.1 #[.slice g.2.2.2.2.2.1 ((replicate x0.states.toNat ([]:ak)).length) g.2.2.2.2.2.2] 27,Res.nest 86 3 1 aF (.slice g.2.2.2.2.2.1 (replicate x0.states.toNat ([]:ak)).length g.2.2.2.2.2.2) (replicate x0.states.toNat (oq:NP Int))]) (λg=>σ) (λg=>Eg_ x0=some r/\Zn (replicate x0.states.toNat (oq:NP Int)) (replicate x0.states.toNat ([]:ak))/\Zn (replicate x0.states.toNat (oq:NP Int)) (replicate x0.states.toNat ([]:ak))) ?_ (λg j hg=> ?_)))
 ·skip
  obtain ⟨u5,hh⟩:=aP hh
  obtain ⟨u8,hh⟩:=aP hh
  refine TC.PS (Hr:=[κ oD (oN x0 aN aK aA aY aW ay) 25]) (λr hr=>qy [0] z hr) [] (by kernel_rfl) (TA.a 0 z (aU z EO z) z (TA.b 1 z (bg z fC z (i:=0) z z) z (TA.a 3 z (aU z EO z) z (TA.b 4 z (bg z fC z (i:=0) z z) z ?_))))
  refine TA.actN [2,5,6,7] (by kernel_rfl) (an rfl rfl (mQ (q:=x0.states.toNat) (E:=3) (size:=1) (enc:=aF) rfl eX fP mG kY rfl rfl (vN u5.1) (vN u5.1) (by omega) (by decide) rfl (λyK vO uP=>(k1 ?_))) (an rfl rfl (mQ (q:=x0.states.toNat) (E:=3) (size:=1) (enc:=aF) rfl eX fP mG kY rfl rfl (vN u8.1) (vN u8.1) (by omega) (by decide) rfl (λa139 H9 gU=>(k1 ?_))) (an rfl rfl (OpOk.alloc rfl qJ rfl rfl (λDl=>(k1 ?_))) (an rfl rfl (OpOk.alloc rfl qJ rfl rfl (λDk=>(k1 ?_))) (True.intro)))))
  ·skip
   refine TA.actN [5,6,7] (by kernel_rfl) (an rfl rfl (mQ (q:=x0.states.toNat) (E:=3) (size:=1) (enc:=aF) rfl eX fP mG kY rfl rfl (vN u8.1) (vN u8.1) (by omega) (by decide) rfl (λa147 c148 Rw=>(k2 ?_))) (an rfl rfl (OpOk.alloc rfl qJ rfl rfl (λY4=>(k2 ?_))) (an rfl rfl (OpOk.alloc rfl qJ rfl rfl (λY3=>(k2 ?_))) (True.intro))))
   ·skip
    refine TA.actN [6,7] (by kernel_rfl) (an z z (OpOk.alloc z qJ z z (λY2=>(k3 ?_))) (an z z (OpOk.alloc z qJ z z (λLX=>(k3 ?_))) (True.intro)))
    ·skip
     refine TA.ac 7 z (OpOk.alloc z qJ z z (λb159=>(kc 4 ?_)))
     refine TA.front 1 z z (TA.ac 8 z (f_ z jB z z z z z (kc 4 ?_)))
     refine TA.front 1 z z (TA.ac 9 z (f_ z jB z z z z z (kc 4 ?_)))
     exact TA.dn (S.n (cf ((),(Y2,yK,vO,b159,a147,c148)) ⟨hh,uP,Rw⟩ (Θ [2,1,3,3,4] 5)))
    skip
    refine TA.ac 6 z (OpOk.alloc z qJ z z (λb161=>(kc 4 ?_)))
    refine TA.ac 8 z (f_ z jB z z z z z (kc 4 ?_))
    refine TA.front 1 z z (TA.ac 9 z (f_ z jB z z z z z (kc 4 ?_)))
    exact TA.dn (S.n (cf ((),(b161,yK,vO,LX,a147,c148)) ⟨hh,uP,Rw⟩ (Θ [2,1,3,3,4] 5)))
   ·skip
    refine TA.actN [5,7] (by kernel_rfl) (an rfl rfl (mQ (q:=x0.states.toNat) (E:=3) (size:=1) (enc:=aF) rfl eX fP mG kY rfl rfl (vN u8.1) (vN u8.1) (by omega) (by decide) rfl (λZj c164 zf165=>(k3 ?_))) (an rfl rfl (OpOk.alloc rfl qJ rfl rfl (λb167=>(k3 ?_))) (True.intro)))
    ·skip
     refine TA.ac 7 z (OpOk.alloc z qJ z z (λb169=>(kc 4 ?_)))
     refine TA.front 2 z z (TA.ac 8 z (f_ z jB z z z z z (kc 4 ?_)))
     refine TA.front 1 z z (TA.ac 9 z (f_ z jB z z z z z (kc 4 ?_)))
     exact TA.dn (S.n (cf ((),(Y4,yK,vO,b169,Zj,c164)) ⟨hh,uP,zf165⟩ (Θ [2,1,3,3,4] 5)))
    skip
    refine TA.actN [5,8] (by kernel_rfl) (an rfl rfl (mQ (q:=x0.states.toNat) (E:=3) (size:=1) (enc:=aF) rfl eX fP mG kY rfl rfl (vN u8.1) (vN u8.1) (by omega) (by decide) rfl (λa171 c172 AV=>(kc 4 ?_))) (an rfl rfl (OpOk.front 1 rfl rfl (f_ rfl jB rfl rfl rfl rfl rfl (k3 ?_))) (True.intro)))
    ·skip
     refine TA.front 2 z z (TA.ac 8 z (f_ z jB z z z z z (kc 4 ?_)))
     refine TA.front 2 z z (TA.ac 9 z (f_ z jB z z z z z (kc 4 ?_)))
     exact TA.dn (S.n (cf ((),(Y4,yK,vO,b167,a171,c172)) ⟨hh,uP,AV⟩ (Θ [2,1,3,3,4] 5)))
    skip
    refine TA.ac 5 rfl (mQ (q:=x0.states.toNat) (E:=3) (size:=1) (enc:=aF) rfl eX fP mG kY rfl rfl (vN u8.1) (vN u8.1) (by omega) (by decide) rfl (λa175 c176 zf177=>(kc 4 ?_)))
    refine TA.front 2 z z (TA.ac 9 z (f_ z jB z z z z z (kc 4 ?_)))
    exact TA.dn (S.n (cf ((),(Y4,yK,vO,b167,a175,c176)) ⟨hh,uP,zf177⟩ (Θ [1,1,3,3,4] 5)))
   skip
   refine TA.actN [5,6] (by kernel_rfl) (an rfl rfl (mQ (q:=x0.states.toNat) (E:=3) (size:=1) (enc:=aF) rfl eX fP mG kY rfl rfl (vN u8.1) (vN u8.1) (by omega) (by decide) rfl (λa179 c180 kE=>(k3 ?_))) (an rfl rfl (OpOk.alloc rfl qJ rfl rfl (λb183=>(k3 ?_))) (True.intro)))
   ·skip
    refine TA.ac 6 z (OpOk.alloc z qJ z z (λb185=>(kc 4 ?_)))
    refine TA.ac 8 z (f_ z jB z z z z z (kc 4 ?_))
    refine TA.front 2 z z (TA.ac 9 z (f_ z jB z z z z z (kc 4 ?_)))
    exact TA.dn (S.n (cf ((),(b185,yK,vO,Y3,a179,c180)) ⟨hh,uP,kE⟩ (Θ [2,1,3,3,4] 5)))
   skip
   refine TA.actN [5,8] (by kernel_rfl) (an rfl rfl (mQ (q:=x0.states.toNat) (E:=3) (size:=1) (enc:=aF) rfl eX fP mG kY rfl rfl (vN u8.1) (vN u8.1) (by omega) (by decide) rfl (λZi YP zf189=>(kc 4 ?_))) (an rfl rfl (f_ rfl jB rfl rfl rfl rfl rfl (k3 ?_)) (True.intro)))
   ·skip
    refine TA.front 1 z z (TA.ac 8 z (f_ z jB z z z z z (kc 4 ?_)))
    refine TA.front 2 z z (TA.ac 9 z (f_ z jB z z z z z (kc 4 ?_)))
    exact TA.dn (S.n (cf ((),(b183,yK,vO,Y3,Zi,YP)) ⟨hh,uP,zf189⟩ (Θ [2,1,3,3,4] 5)))
   skip
   refine TA.ac 5 rfl (mQ (q:=x0.states.toNat) (E:=3) (size:=1) (enc:=aF) rfl eX fP mG kY rfl rfl (vN u8.1) (vN u8.1) (by omega) (by decide) rfl (λuK uI zf193=>(kc 4 ?_)))
   refine TA.front 2 z z (TA.ac 9 z (f_ z jB z z z z z (kc 4 ?_)))
   exact TA.dn (S.n (cf ((),(b183,yK,vO,Y3,uK,uI)) ⟨hh,uP,zf193⟩ (Θ [1,1,3,3,4] 5)))
  ·skip
   refine TA.actN [2,6,7] (by kernel_rfl) (an rfl rfl (mQ (q:=x0.states.toNat) (E:=3) (size:=1) (enc:=aF) rfl eX fP mG kY rfl rfl (vN u5.1) (vN u5.1) (by omega) (by decide) rfl (λa195 c196 yT=>(k2 ?_))) (an rfl rfl (OpOk.alloc rfl qJ rfl rfl (λEY=>(k2 ?_))) (an rfl rfl (OpOk.alloc rfl qJ rfl rfl (λb201=>(k2 ?_))) (True.intro))))
   ·skip
    refine TA.actN [6,7] (by kernel_rfl) (an z z (OpOk.alloc z qJ z z (λb203=>(k3 ?_))) (an z z (OpOk.alloc z qJ z z (λb205=>(k3 ?_))) (True.intro)))
    ·skip
     refine TA.ac 7 z (OpOk.alloc z qJ z z (λb207=>(kc 4 ?_)))
     refine TA.front 1 z z (TA.ac 8 z (f_ z jB z z z z z (kc 4 ?_)))
     refine TA.front 1 z z (TA.ac 9 z (f_ z jB z z z z z (kc 4 ?_)))
     exact TA.dn (S.n (cf ((),(b203,a195,c196,b207,a139,H9)) ⟨hh,yT,gU⟩ (Θ [3,1,3,3,4] 5)))
    skip
    refine TA.ac 6 z (OpOk.alloc z qJ z z (λb209=>(kc 4 ?_)))
    refine TA.ac 8 z (f_ z jB z z z z z (kc 4 ?_))
    refine TA.front 1 z z (TA.ac 9 z (f_ z jB z z z z z (kc 4 ?_)))
    exact TA.dn (S.n (cf ((),(b209,a195,c196,b205,a139,H9)) ⟨hh,yT,gU⟩ (Θ [3,1,3,3,4] 5)))
   ·skip
    refine TA.actN [2,7] (by kernel_rfl) (an rfl rfl (mQ (q:=x0.states.toNat) (E:=3) (size:=1) (enc:=aF) rfl eX fP mG kY rfl rfl (vN u5.1) (vN u5.1) (by omega) (by decide) rfl (λx9 c212 IQ=>(k3 ?_))) (an rfl rfl (OpOk.alloc rfl qJ rfl rfl (λb215=>(k3 ?_))) (True.intro)))
    ·skip
     refine TA.ac 7 z (OpOk.alloc z qJ z z (λb217=>(kc 4 ?_)))
     refine TA.front 2 z z (TA.ac 8 z (f_ z jB z z z z z (kc 4 ?_)))
     refine TA.front 1 z z (TA.ac 9 z (f_ z jB z z z z z (kc 4 ?_)))
     exact TA.dn (S.n (cf ((),(EY,x9,c212,b217,a139,H9)) ⟨hh,IQ,gU⟩ (Θ [3,1,3,3,4] 5)))
    skip
    refine TA.ac 2 rfl (mQ (q:=x0.states.toNat) (E:=3) (size:=1) (enc:=aF) rfl eX fP mG kY rfl rfl (vN u5.1) (vN u5.1) (by omega) (by decide) rfl (λa219 c220 zf221=>(kc 4 ?_)))
    refine TA.front 2 z z (TA.ac 8 z (f_ z jB z z z z z (kc 4 ?_)))
    refine TA.front 2 z z (TA.ac 9 z (f_ z jB z z z z z (kc 4 ?_)))
    exact TA.dn (S.n (cf ((),(EY,a219,c220,b215,a139,H9)) ⟨hh,zf221,gU⟩ (Θ [3,1,3,3,4] 5)))
   skip
   refine TA.actN [2,6] (by kernel_rfl) (an rfl rfl (mQ (q:=x0.states.toNat) (E:=3) (size:=1) (enc:=aF) rfl eX fP mG kY rfl rfl (vN u5.1) (vN u5.1) (by omega) (by decide) rfl (λZg YM zf225=>(k3 ?_))) (an rfl rfl (OpOk.alloc rfl qJ rfl rfl (λb227=>(k3 ?_))) (True.intro)))
   ·skip
    refine TA.ac 6 z (OpOk.alloc z qJ z z (λb229=>(kc 4 ?_)))
    refine TA.ac 8 z (f_ z jB z z z z z (kc 4 ?_))
    refine TA.front 2 z z (TA.ac 9 z (f_ z jB z z z z z (kc 4 ?_)))
    exact TA.dn (S.n (cf ((),(b229,Zg,YM,b201,a139,H9)) ⟨hh,zf225,gU⟩ (Θ [3,1,3,3,4] 5)))
   skip
   refine TA.ac 2 rfl (mQ (q:=x0.states.toNat) (E:=3) (size:=1) (enc:=aF) rfl eX fP mG kY rfl rfl (vN u5.1) (vN u5.1) (by omega) (by decide) rfl (λDq c232 jA=>(kc 4 ?_)))
   refine TA.front 1 z z (TA.ac 8 z (f_ z jB z z z z z (kc 4 ?_)))
   refine TA.front 2 z z (TA.ac 9 z (f_ z jB z z z z z (kc 4 ?_)))
   exact TA.dn (S.n (cf ((),(b227,Dq,c232,b201,a139,H9)) ⟨hh,jA,gU⟩ (Θ [3,1,3,3,4] 5)))
  ·skip
   refine TA.actN [2,5,7] (by kernel_rfl) (an rfl rfl (mQ (q:=x0.states.toNat) (E:=3) (size:=1) (enc:=aF) rfl eX fP mG kY rfl rfl (vN u5.1) (vN u5.1) (by omega) (by decide) rfl (λZf c236 IJ=>(k2 ?_))) (an rfl rfl (mQ (q:=x0.states.toNat) (E:=3) (size:=1) (enc:=aF) rfl eX fP mG kY rfl rfl (vN u8.1) (vN u8.1) (by omega) (by decide) rfl (λa239 c240 Rt=>(k2 ?_))) (an rfl rfl (OpOk.alloc rfl qJ rfl rfl (λY1=>(k2 ?_))) (True.intro))))
   ·skip
    refine TA.actN [5,7] (by kernel_rfl) (an rfl rfl (mQ (q:=x0.states.toNat) (E:=3) (size:=1) (enc:=aF) rfl eX fP mG kY rfl rfl (vN u8.1) (vN u8.1) (by omega) (by decide) rfl (λa245 c246 zf247=>(k3 ?_))) (an rfl rfl (OpOk.alloc rfl qJ rfl rfl (λb249=>(k3 ?_))) (True.intro)))
    ·skip
     refine TA.ac 7 z (OpOk.alloc z qJ z z (λb251=>(kc 4 ?_)))
     refine TA.front 3 z z (TA.ac 8 z (f_ z jB z z z z z (kc 4 ?_)))
     refine TA.front 1 z z (TA.ac 9 z (f_ z jB z z z z z (kc 4 ?_)))
     exact TA.dn (S.n (cf ((),(Dl,Zf,c236,b251,a245,c246)) ⟨hh,IJ,zf247⟩ (Θ [2,1,3,3,4] 5)))
    skip
    refine TA.actN [5,8] (by kernel_rfl) (an rfl rfl (mQ (q:=x0.states.toNat) (E:=3) (size:=1) (enc:=aF) rfl eX fP mG kY rfl rfl (vN u8.1) (vN u8.1) (by omega) (by decide) rfl (λa253 c254 lJ=>(kc 4 ?_))) (an rfl rfl (OpOk.front 2 rfl rfl (f_ rfl jB rfl rfl rfl rfl rfl (k3 ?_))) (True.intro)))
    ·skip
     refine TA.front 3 z z (TA.ac 8 z (f_ z jB z z z z z (kc 4 ?_)))
     refine TA.front 2 z z (TA.ac 9 z (f_ z jB z z z z z (kc 4 ?_)))
     exact TA.dn (S.n (cf ((),(Dl,Zf,c236,b249,a253,c254)) ⟨hh,IJ,lJ⟩ (Θ [2,1,3,3,4] 5)))
    skip
    refine TA.ac 5 rfl (mQ (q:=x0.states.toNat) (E:=3) (size:=1) (enc:=aF) rfl eX fP mG kY rfl rfl (vN u8.1) (vN u8.1) (by omega) (by decide) rfl (λMc LM zf259=>(kc 4 ?_)))
    refine TA.front 2 z z (TA.ac 9 z (f_ z jB z z z z z (kc 4 ?_)))
    exact TA.dn (S.n (cf ((),(Dl,Zf,c236,b249,Mc,LM)) ⟨hh,IJ,zf259⟩ (Θ [1,1,3,3,4] 5)))
   ·skip
    refine TA.actN [2,7] (by kernel_rfl) (an rfl rfl (mQ (q:=x0.states.toNat) (E:=3) (size:=1) (enc:=aF) rfl eX fP mG kY rfl rfl (vN u5.1) (vN u5.1) (by omega) (by decide) rfl (λa261 c262 IG=>(k3 ?_))) (an rfl rfl (OpOk.alloc rfl qJ rfl rfl (λb265=>(k3 ?_))) (True.intro)))
    ·skip
     refine TA.ac 7 z (OpOk.alloc z qJ z z (λb267=>(kc 4 ?_)))
     refine TA.front 3 z z (TA.ac 8 z (f_ z jB z z z z z (kc 4 ?_)))
     refine TA.front 1 z z (TA.ac 9 z (f_ z jB z z z z z (kc 4 ?_)))
     exact TA.dn (S.n (cf ((),(Dl,a261,c262,b267,a239,c240)) ⟨hh,IG,Rt⟩ (Θ [3,1,3,3,4] 5)))
    skip
    refine TA.ac 2 rfl (mQ (q:=x0.states.toNat) (E:=3) (size:=1) (enc:=aF) rfl eX fP mG kY rfl rfl (vN u5.1) (vN u5.1) (by omega) (by decide) rfl (λa269 c270 IE=>(kc 4 ?_)))
    refine TA.front 3 z z (TA.ac 8 z (f_ z jB z z z z z (kc 4 ?_)))
    refine TA.front 2 z z (TA.ac 9 z (f_ z jB z z z z z (kc 4 ?_)))
    exact TA.dn (S.n (cf ((),(Dl,a269,c270,b265,a239,c240)) ⟨hh,IE,Rt⟩ (Θ [3,1,3,3,4] 5)))
   skip
   refine TA.actN [2,5] (by kernel_rfl) (an rfl rfl (mQ (q:=x0.states.toNat) (E:=3) (size:=1) (enc:=aF) rfl eX fP mG kY rfl rfl (vN u5.1) (vN u5.1) (by omega) (by decide) rfl (λZc YJ Ro=>(k3 ?_))) (an rfl rfl (mQ (q:=x0.states.toNat) (E:=3) (size:=1) (enc:=aF) rfl eX fP mG kY rfl rfl (vN u8.1) (vN u8.1) (by omega) (by decide) rfl (λa277 c278 zf279=>(k3 ?_))) (True.intro)))
   ·skip
    refine TA.actN [5,8] (by kernel_rfl) (an rfl rfl (mQ (q:=x0.states.toNat) (E:=3) (size:=1) (enc:=aF) rfl eX fP mG kY rfl rfl (vN u8.1) (vN u8.1) (by omega) (by decide) rfl (λa281 c282 zf283=>(kc 4 ?_))) (an rfl rfl (OpOk.front 2 rfl rfl (f_ rfl jB rfl rfl rfl rfl rfl (k3 ?_))) (True.intro)))
    ·skip
     refine TA.front 3 z z (TA.ac 8 z (f_ z jB z z z z z (kc 4 ?_)))
     refine TA.front 3 z z (TA.ac 9 z (f_ z jB z z z z z (kc 4 ?_)))
     exact TA.dn (S.n (cf ((),(Dl,Zc,YJ,Y1,a281,c282)) ⟨hh,Ro,zf283⟩ (Θ [2,1,3,3,4] 5)))
    skip
    refine TA.ac 5 rfl (mQ (q:=x0.states.toNat) (E:=3) (size:=1) (enc:=aF) rfl eX fP mG kY rfl rfl (vN u8.1) (vN u8.1) (by omega) (by decide) rfl (λa285 c286 zf287=>(kc 4 ?_)))
    refine TA.front 3 z z (TA.ac 9 z (f_ z jB z z z z z (kc 4 ?_)))
    exact TA.dn (S.n (cf ((),(Dl,Zc,YJ,Y1,a285,c286)) ⟨hh,Ro,zf287⟩ (Θ [1,1,3,3,4] 5)))
   skip
   refine TA.ac 2 rfl (mQ (q:=x0.states.toNat) (E:=3) (size:=1) (enc:=aF) rfl eX fP mG kY rfl rfl (vN u5.1) (vN u5.1) (by omega) (by decide) rfl (λa289 c290 zf291=>(kc 4 ?_)))
   refine TA.front 3 z z (TA.ac 8 z (f_ z jB z z z z z (kc 4 ?_)))
   refine TA.front 3 z z (TA.ac 9 z (f_ z jB z z z z z (kc 4 ?_)))
   exact TA.dn (S.n (cf ((),(Dl,a289,c290,Y1,a277,c278)) ⟨hh,zf291,zf279⟩ (Θ [3,1,3,3,4] 5)))
  skip
  refine TA.actN [2,5,6] (by kernel_rfl) (an rfl rfl (mQ (q:=x0.states.toNat) (E:=3) (size:=1) (enc:=aF) rfl eX fP mG kY rfl rfl (vN u5.1) (vN u5.1) (by omega) (by decide) rfl (λZb YI IC=>(k2 ?_))) (an rfl rfl (mQ (q:=x0.states.toNat) (E:=3) (size:=1) (enc:=aF) rfl eX fP mG kY rfl rfl (vN u8.1) (vN u8.1) (by omega) (by decide) rfl (λa297 c298 Rk=>(k2 ?_))) (an rfl rfl (OpOk.alloc rfl qJ rfl rfl (λY0=>(k2 ?_))) (True.intro))))
  ·skip
   refine TA.actN [5,6] (by kernel_rfl) (an rfl rfl (mQ (q:=x0.states.toNat) (E:=3) (size:=1) (enc:=aF) rfl eX fP mG kY rfl rfl (vN u8.1) (vN u8.1) (by omega) (by decide) rfl (λa303 c304 zf305=>(k3 ?_))) (an rfl rfl (OpOk.alloc rfl qJ rfl rfl (λb307=>(k3 ?_))) (True.intro)))
   ·skip
    refine TA.ac 6 z (OpOk.alloc z qJ z z (λb309=>(kc 4 ?_)))
    refine TA.ac 8 z (f_ z jB z z z z z (kc 4 ?_))
    refine TA.front 3 z z (TA.ac 9 z (f_ z jB z z z z z (kc 4 ?_)))
    exact TA.dn (S.n (cf ((),(b309,Zb,YI,Dk,a303,c304)) ⟨hh,IC,zf305⟩ (Θ [2,1,3,3,4] 5)))
   skip
   refine TA.actN [5,8] (by kernel_rfl) (an rfl rfl (mQ (q:=x0.states.toNat) (E:=3) (size:=1) (enc:=aF) rfl eX fP mG kY rfl rfl (vN u8.1) (vN u8.1) (by omega) (by decide) rfl (λa311 c312 zf313=>(kc 4 ?_))) (an rfl rfl (f_ rfl jB rfl rfl rfl rfl rfl (k3 ?_)) (True.intro)))
   ·skip
    refine TA.front 1 z z (TA.ac 8 z (f_ z jB z z z z z (kc 4 ?_)))
    refine TA.front 3 z z (TA.ac 9 z (f_ z jB z z z z z (kc 4 ?_)))
    exact TA.dn (S.n (cf ((),(b307,Zb,YI,Dk,a311,c312)) ⟨hh,IC,zf313⟩ (Θ [2,1,3,3,4] 5)))
   skip
   refine TA.ac 5 rfl (mQ (q:=x0.states.toNat) (E:=3) (size:=1) (enc:=aF) rfl eX fP mG kY rfl rfl (vN u8.1) (vN u8.1) (by omega) (by decide) rfl (λa315 c316 zf317=>(kc 4 ?_)))
   refine TA.front 3 z z (TA.ac 9 z (f_ z jB z z z z z (kc 4 ?_)))
   exact TA.dn (S.n (cf ((),(b307,Zb,YI,Dk,a315,c316)) ⟨hh,IC,zf317⟩ (Θ [1,1,3,3,4] 5)))
  ·skip
   refine TA.actN [2,6] (by kernel_rfl) (an rfl rfl (mQ (q:=x0.states.toNat) (E:=3) (size:=1) (enc:=aF) rfl eX fP mG kY rfl rfl (vN u5.1) (vN u5.1) (by omega) (by decide) rfl (λa319 c320 zf321=>(k3 ?_))) (an rfl rfl (OpOk.alloc rfl qJ rfl rfl (λb323=>(k3 ?_))) (True.intro)))
   ·skip
    refine TA.ac 6 z (OpOk.alloc z qJ z z (λb325=>(kc 4 ?_)))
    refine TA.ac 8 z (f_ z jB z z z z z (kc 4 ?_))
    refine TA.front 3 z z (TA.ac 9 z (f_ z jB z z z z z (kc 4 ?_)))
    exact TA.dn (S.n (cf ((),(b325,a319,c320,Dk,a297,c298)) ⟨hh,zf321,Rk⟩ (Θ [3,1,3,3,4] 5)))
   skip
   refine TA.ac 2 rfl (mQ (q:=x0.states.toNat) (E:=3) (size:=1) (enc:=aF) rfl eX fP mG kY rfl rfl (vN u5.1) (vN u5.1) (by omega) (by decide) rfl (λa327 c328 zf329=>(kc 4 ?_)))
   refine TA.front 1 z z (TA.ac 8 z (f_ z jB z z z z z (kc 4 ?_)))
   refine TA.front 3 z z (TA.ac 9 z (f_ z jB z z z z z (kc 4 ?_)))
   exact TA.dn (S.n (cf ((),(b323,a327,c328,Dk,a297,c298)) ⟨hh,zf329,Rk⟩ (Θ [3,1,3,3,4] 5)))
  skip
  refine TA.actN [2,5] (by kernel_rfl) (an rfl rfl (mQ (q:=x0.states.toNat) (E:=3) (size:=1) (enc:=aF) rfl eX fP mG kY rfl rfl (vN u5.1) (vN u5.1) (by omega) (by decide) rfl (λa331 c332 Ri=>(k3 ?_))) (an rfl rfl (mQ (q:=x0.states.toNat) (E:=3) (size:=1) (enc:=aF) rfl eX fP mG kY rfl rfl (vN u8.1) (vN u8.1) (by omega) (by decide) rfl (λa335 c336 zf337=>(k3 ?_))) (True.intro)))
  ·skip
   refine TA.actN [5,8] (by kernel_rfl) (an rfl rfl (mQ (q:=x0.states.toNat) (E:=3) (size:=1) (enc:=aF) rfl eX fP mG kY rfl rfl (vN u8.1) (vN u8.1) (by omega) (by decide) rfl (λa339 c340 zf341=>(kc 4 ?_))) (an rfl rfl (OpOk.front 1 rfl rfl (f_ rfl jB rfl rfl rfl rfl rfl (k3 ?_))) (True.intro)))
   ·skip
    refine TA.front 2 z z (TA.ac 8 z (f_ z jB z z z z z (kc 4 ?_)))
    refine TA.front 3 z z (TA.ac 9 z (f_ z jB z z z z z (kc 4 ?_)))
    exact TA.dn (S.n (cf ((),(Y0,a331,c332,Dk,a339,c340)) ⟨hh,Ri,zf341⟩ (Θ [2,1,3,3,4] 5)))
   skip
   refine TA.ac 5 rfl (mQ (q:=x0.states.toNat) (E:=3) (size:=1) (enc:=aF) rfl eX fP mG kY rfl rfl (vN u8.1) (vN u8.1) (by omega) (by decide) rfl (λa343 c344 zf345=>(kc 4 ?_)))
   refine TA.front 3 z z (TA.ac 9 z (f_ z jB z z z z z (kc 4 ?_)))
   exact TA.dn (S.n (cf ((),(Y0,a331,c332,Dk,a343,c344)) ⟨hh,Ri,zf345⟩ (Θ [1,1,3,3,4] 5)))
  skip
  refine TA.ac 2 rfl (mQ (q:=x0.states.toNat) (E:=3) (size:=1) (enc:=aF) rfl eX fP mG kY rfl rfl (vN u5.1) (vN u5.1) (by omega) (by decide) rfl (λa347 c348 zf349=>(kc 4 ?_)))
  refine TA.front 2 z z (TA.ac 8 z (f_ z jB z z z z z (kc 4 ?_)))
  refine TA.front 3 z z (TA.ac 9 z (f_ z jB z z z z z (kc 4 ?_)))
  exact TA.dn (S.n (cf ((),(Y0,a347,c348,Dk,a335,c336)) ⟨hh,zf349,zf337⟩ (Θ [3,1,3,3,4] 5)))
 skip
 obtain ⟨_,⟨qo,oZ,oV,Ib,yg,xW⟩⟩:=g
 obtain ⟨hh,wB,mF⟩:=hg
 try dsimp only at wB mF ⊢
 dsimp only [Eg_]at hh
 have zf116b:=wB.len
 have zf122b:=mF.len
 refine TC.know (nU (q:=2) z wB) (λ⟨_,hb351⟩=> ?_)
 refine TC.know (nU (q:=4) z mF) (λ⟨_,hb352⟩=> ?_)
 refine θ (ξ (ω z (aU z Td z) (ω z (bg z MO z (i:=0) z z) (ω z (lenC z qw z) (ψ z z (ε (υ (TC.iE (α:=(bW×bW×Nat)×((List (NP Int))×(List (NP Int)))) (rgs [(6,1),(16,31)]) (λg=>[(16,.int .i64 ((g.1.2.2:Nat):Int))]) (λg=>[κ oD (oN x0 aN aK aA aY aW ay) 25,κ qo #[.slice oZ ((replicate x0.states.toNat ([]:ak)).length) oV] 27,Res.nest 86 3 1 aF (.slice oZ (replicate x0.states.toNat ([]:ak)).length oV) g.2.1,κ Ib #[.slice yg g.1.2.1.length xW] 27,Res.nest 86 3 1 aF (.slice yg g.1.2.1.length xW) g.2.2]) (λg=>σ) (λg=>bC (λq:bW×bW×Nat=>QA x0 q.1 q.2.1 q.2.2) g.1=some r/\g.1.1.length=(replicate x0.states.toNat ([]:ak)).length/\Zn g.2.1 g.1.1/\Zn g.2.2 g.1.2.1) (λg=>fZ (λq:bW×bW×Nat=>QA x0 q.1 q.2.1 q.2.2) g.1) (((replicate x0.states.toNat ([]:ak)),(replicate x0.states.toNat ([]:ak)),0),((replicate x0.states.toNat (oq:NP Int)),(replicate x0.states.toNat (oq:NP Int)))) (Θ [4,4,4,4,4] 5) z (by repeat (first|exact trivial|refine ⟨z,?_⟩)) ⟨hh,z,wB,mF⟩ (λg1 j1 hg1=> ?_)))))))))
 obtain ⟨⟨jU,jE,bJ⟩,⟨z373,I8⟩⟩:=g1
 obtain ⟨hh,FX,nI,yO⟩:=hg1
 try dsimp only at FX nI yO ⊢
 obtain ⟨z1,hh,hR1⟩:=iq hh
 dsimp only [QA]at hh
 have zf374b:=nI.len
 have zf377b:=yO.len
 refine TC.know (nU (q:=2) z nI) (λ⟨_,hb379⟩=> ?_)
 refine TC.know (nU (q:=4) z yO) (λ⟨_,hb380⟩=> ?_)
 refine ξ (ω z (OpVal.lss z z z) (ε (θ (TC.cD z hh (λh381 hh=> ?_) (λh381 hh=> ?_)))))
 ·refine ι (S.n (θ (υ (ξ (ω z (bT z qw nY z z aS.rv.sl (by omega)) (ω z (Ie aZ z Ji nY z aS (by omega) (by omega)) (ν z (OpOk.alloc z Au z z (λYZ=> ?_)))))))))
  refine ν z (storeAll z nY z z z z z z ?_)
  refine ε (TC.cutG (α:=(Unit)×((List (NP Int)))) (rgs [(20,13)]) (λg=>[]) (λg=>[κ oD (oN x0 aN aK aA aY aW ay) 25,κ qo #[.slice oZ ((replicate x0.states.toNat ([]:ak)).length) oV] 27,Res.nest 86 3 1 aF (.slice oZ (replicate x0.states.toNat ([]:ak)).length oV) g.2,κ Ib #[.slice yg jE.length xW] 27,Res.nest 86 3 1 aF (.slice yg jE.length xW) I8,κ YZ #[.int .i64 ((nth x0.arcs bJ aZ).frm),.int .i64 ((nth x0.arcs bJ aZ).to),.int .u64 ((((nth x0.arcs bJ aZ).set).a:Nat):Int),.int .u64 ((((nth x0.arcs bJ aZ).set).b:Nat):Int),.int .u64 ((((nth x0.arcs bJ aZ).set).c:Nat):Int),.int .u64 ((((nth x0.arcs bJ aZ).set).d:Nat):Int),.string (bs ((nth x0.arcs bJ aZ).out)),.bool ((nth x0.arcs bJ aZ).copy)] 66]) (λg=>σ) (λg=>Ee_ x0 bJ jE jU=some z1/\(jU.set (((nth x0.arcs bJ aZ).frm).toNat) ((nth jU (((nth x0.arcs bJ aZ).frm).toNat) [])++[(nth x0.arcs bJ aZ).to])).length=(replicate x0.states.toNat ([]:ak)).length/\Zn g.2 (jU.set (((nth x0.arcs bJ aZ).frm).toNat) ((nth jU (((nth x0.arcs bJ aZ).frm).toNat) [])++[(nth x0.arcs bJ aZ).to]))/\Zn I8 jE) ?_ (λg j hg=> ?_))
  ·skip
   obtain ⟨u28,hh⟩:=aP hh
   obtain ⟨u33,hh⟩:=aP hh
   obtain ⟨u34,hh⟩:=aP hh
   refine TC.PS (Hr:=[κ YZ #[.int .i64 ((nth x0.arcs bJ aZ).frm),.int .i64 ((nth x0.arcs bJ aZ).to),.int .u64 ((((nth x0.arcs bJ aZ).set).a:Nat):Int),.int .u64 ((((nth x0.arcs bJ aZ).set).b:Nat):Int),.int .u64 ((((nth x0.arcs bJ aZ).set).c:Nat):Int),.int .u64 ((((nth x0.arcs bJ aZ).set).d:Nat):Int),.string (bs ((nth x0.arcs bJ aZ).out)),.bool ((nth x0.arcs bJ aZ).copy)] 66,κ oD (oN x0 aN aK aA aY aW ay) 25,κ qo #[.slice oZ ((replicate x0.states.toNat ([]:ak)).length) oV] 27,κ Ib #[.slice yg jE.length xW] 27,Res.nest 86 3 1 aF (.slice yg jE.length xW) I8]) (λr hr=>qy [0,1,2,4,5] z hr) [] (by kernel_rfl) (TA.b 0 z (bg z j_ z (i:=2) z z) z (TA.a 1 z (aU z Pm z) z (TA.b 2 z (bg z fC z (i:=0) z z) z (TA.b 3 z (bg z j_ z (i:=2) z z) z (TA.a 4 z (aU z Pm z) z (TA.b 5 z (bg z fC z (i:=0) z z) z (TA.know (nU (q:=3) z nI) (λ⟨hs399,hs399b⟩=> ?_))))))))
   refine TA.b 6 z (OpVal.index z eX fP z z hs399 u28.1 u28.2) z (TA.a 8 z (aU z S_ z) z (TA.b 9 z (bg z fC z (i:=0) z z) z ?_))
   obtain ⟨p400,Tt,UA⟩:=Zn.at nI (i:=((nth x0.arcs bJ aZ).frm).toNat) (by omega)
   refine TA.actN [7,10] (by kernel_rfl) (an z z (OpVal.ok (Dj z hs_ z (q:=3) z Tt UA) z z ⟨(λw h=>rP (aj.le.refl _) (λr hr=>qy [0,1,2,4,5] z hr) w h),?_⟩) (an z z (OpOk.lit (enc:=aF) [(nth x0.arcs bJ aZ).to] z bY dh lq z z z bn (by decide) (by decide) (0:Int) z (by decide) z (by decide) jR (λa401 c402=>⟨(λw h=>rP (aj.le.refl _) (λr hr=>qy [1,2,3,5,6] z hr) w h),?_⟩)) (True.intro)))
   ·skip
    refine TA.ac 10 z (OpOk.lit (enc:=aF) [(nth x0.arcs bJ aZ).to] z bY dh lq z z z bn (by decide) (by decide) (0:Int) z (by decide) z (by decide) jR (λa404 c405=>⟨(λw h=>rP (aj.le.refl _) (λr hr=>qy [1,2,3,5,6] z hr) w h),?_⟩))
    refine TA.front 4 z z (TA.by (λw h=>Reach.takeN Tt UA h) (TA.ac 11 z (as_ z z bY dh uJ lq z z (by decide) z z z (.inr ⟨_,1,z⟩) (by simpa using u33) (by decide) (λa408 c409=>(k3 ?_)))))
    refine TA.know (Nj (q:=1) z nI) (λ⟨hs410,hs410b⟩=> ?_)
    refine TA.b 12 z (OpVal.index z eX fP z z hs410 u34.1 u34.2) z (TA.front 1 z z (TA.front 1 z z ?_))
    have hn412:(jU.set (((nth x0.arcs bJ aZ).frm).toNat) ((nth jU (((nth x0.arcs bJ aZ).frm).toNat) [])++[(nth x0.arcs bJ aZ).to])).length=(replicate x0.states.toNat ([]:ak)).length:=(fQ ..).trans FX
    refine TA.ac 13 rfl (Nl (l':=((nth jU (((nth x0.arcs bJ aZ).frm).toNat) [])++[(nth x0.arcs bJ aZ).to])) rfl fP rfl rfl rfl rfl rfl (by rw [nI.len];omega) nI (λzf411=>(k2 ?_)))
    exact TA.dn (S.n (cf ((),(z373.set (((nth x0.arcs bJ aZ).frm).toNat) (((nth jU (((nth x0.arcs bJ aZ).frm).toNat) [])++[(nth x0.arcs bJ aZ).to]),(a408,c409)))) ⟨hh,hn412,zf411,yO⟩ (Θ [2,6,6,3,6,6] 6)))
   skip
   obtain ⟨p413,Tq,Uz⟩:=Zn.at nI (i:=((nth x0.arcs bJ aZ).frm).toNat) (by omega)
   refine TA.ac 7 z (OpVal.ok (Dj z hs_ z (q:=4) z Tq Uz) z z ⟨(λw h=>rP (aj.le.refl _) (λr hr=>qy [1,2,3,5,6] z hr) w h),?_⟩)
   refine TA.front 4 z z (TA.by (λw h=>Reach.takeN Tq Uz h) (TA.ac 11 z (as_ z z bY dh uJ lq z z (by decide) z z z (.inr ⟨_,1,z⟩) (by simpa using u33) (by decide) (λa415 c416=>(k3 ?_)))))
   refine TA.know (Nj (q:=1) z nI) (λ⟨hs417,hs417b⟩=> ?_)
   refine TA.b 12 z (OpVal.index z eX fP z z hs417 u34.1 u34.2) z (TA.front 1 z z (TA.front 1 z z ?_))
   have hn419:(jU.set (((nth x0.arcs bJ aZ).frm).toNat) ((nth jU (((nth x0.arcs bJ aZ).frm).toNat) [])++[(nth x0.arcs bJ aZ).to])).length=(replicate x0.states.toNat ([]:ak)).length:=(fQ ..).trans FX
   refine TA.ac 13 rfl (Nl (l':=((nth jU (((nth x0.arcs bJ aZ).frm).toNat) [])++[(nth x0.arcs bJ aZ).to])) rfl fP rfl rfl rfl rfl rfl (by rw [nI.len];omega) nI (λzf418=>(k2 ?_)))
   exact TA.dn (S.n (cf ((),(z373.set (((nth x0.arcs bJ aZ).frm).toNat) (((nth jU (((nth x0.arcs bJ aZ).frm).toNat) [])++[(nth x0.arcs bJ aZ).to]),(a415,c416)))) ⟨hh,hn419,zf418,yO⟩ (Θ [2,6,6,3,6,6] 6)))
  skip
  obtain ⟨_,VB⟩:=g
  obtain ⟨hh,J7,AL,oH⟩:=hg
  try dsimp only at J7 AL oH ⊢
  dsimp only [Ee_]at hh
  have zf386b:=AL.len
  have zf387b:=oH.len
  refine TC.know (nU (q:=2) z AL) (λ⟨_,hb420⟩=> ?_)
  refine TC.know (nU (q:=4) z oH) (λ⟨_,hb421⟩=> ?_)
  obtain ⟨u42,hh⟩:=aP hh
  obtain ⟨MQ,hh⟩:=aP hh
  obtain ⟨u48,hh⟩:=aP hh
  refine TC.PS (Hr:=[κ oD (oN x0 aN aK aA aY aW ay) 25,κ qo #[.slice oZ ((replicate x0.states.toNat ([]:ak)).length) oV] 27,Res.nest 86 3 1 aF (.slice oZ (replicate x0.states.toNat ([]:ak)).length oV) VB,κ Ib #[.slice yg jE.length xW] 27,κ YZ #[.int .i64 ((nth x0.arcs bJ aZ).frm),.int .i64 ((nth x0.arcs bJ aZ).to),.int .u64 ((((nth x0.arcs bJ aZ).set).a:Nat):Int),.int .u64 ((((nth x0.arcs bJ aZ).set).b:Nat):Int),.int .u64 ((((nth x0.arcs bJ aZ).set).c:Nat):Int),.int .u64 ((((nth x0.arcs bJ aZ).set).d:Nat):Int),.string (bs ((nth x0.arcs bJ aZ).out)),.bool ((nth x0.arcs bJ aZ).copy)] 66]) (λr hr=>qy [0,1,2,3,5] z hr) [] (by kernel_rfl) (TA.b 0 z (bg z j_ z (i:=3) z z) z (TA.a 1 z (aU z S_ z) z (TA.b 2 z (bg z fC z (i:=4) z z) z (TA.b 3 z (bg z j_ z (i:=3) z z) z (TA.a 4 z (aU z S_ z) z (TA.b 5 z (bg z fC z (i:=4) z z) z (TA.know (nU (q:=4) z oH) (λ⟨hs433,hs433b⟩=> ?_))))))))
  refine TA.b 6 z (OpVal.index z eX fP z z hs433 u42.1 u42.2) z (TA.a 8 z (aU z Pm z) z (TA.b 9 z (bg z fC z (i:=4) z z) z ?_))
  obtain ⟨p434,Tn,Uy⟩:=Zn.at oH (i:=((nth x0.arcs bJ aZ).to).toNat) (by omega)
  refine TA.actN [7,10] (by kernel_rfl) (an z z (OpVal.ok (Dj z hs_ z (q:=4) z Tn Uy) z z ⟨(λw h=>rP (aj.le.refl _) (λr hr=>qy [0,1,2,3,5] z hr) w h),?_⟩) (an z z (OpOk.lit (enc:=aF) [(nth x0.arcs bJ aZ).frm] z bY dh lq z z z bn (by decide) (by decide) (0:Int) z (by decide) z (by decide) jR (λa435 c436=>⟨(λw h=>rP (aj.le.refl _) (λr hr=>qy [1,2,3,4,6] z hr) w h),?_⟩)) (True.intro)))
  ·skip
   refine TA.ac 10 z (OpOk.lit (enc:=aF) [(nth x0.arcs bJ aZ).frm] z bY dh lq z z z bn (by decide) (by decide) (0:Int) z (by decide) z (by decide) jR (λa438 c439=>⟨(λw h=>rP (aj.le.refl _) (λr hr=>qy [1,2,3,4,6] z hr) w h),?_⟩))
   refine TA.front 5 z z (TA.by (λw h=>Reach.takeN Tn Uy h) (TA.ac 11 z (as_ z z bY dh uJ lq z z (by decide) z z z (.inr ⟨_,1,z⟩) (by simpa using MQ) (by decide) (λa442 c443=>(k3 ?_)))))
   refine TA.know (Nj (q:=1) z oH) (λ⟨hs444,hs444b⟩=> ?_)
   refine TA.b 12 z (OpVal.index z eX fP z z hs444 u48.1 u48.2) z (TA.front 1 z z (TA.front 1 z z ?_))
   have hn446:(jE.set (((nth x0.arcs bJ aZ).to).toNat) ((nth jE (((nth x0.arcs bJ aZ).to).toNat) [])++[(nth x0.arcs bJ aZ).frm])).length=jE.length:=(fQ ..).trans rfl
   refine TA.ac 13 rfl (Nl (l':=((nth jE (((nth x0.arcs bJ aZ).to).toNat) [])++[(nth x0.arcs bJ aZ).frm])) rfl fP rfl rfl rfl rfl rfl (by rw [oH.len];omega) oH (λzf445=>(k2 ?_)))
   refine TA.dn (B.n (S.n (η (ω z (OpVal.succ z z z (by omega)) (ψ z z ?_)))))
   rw [<-hn446]
   refine ε ?_
   obtain ⟨hh,WL⟩:=dL hR1 hh
   exact lf (((jU.set (((nth x0.arcs bJ aZ).frm).toNat) ((nth jU (((nth x0.arcs bJ aZ).frm).toNat) [])++[(nth x0.arcs bJ aZ).to])),(jE.set (((nth x0.arcs bJ aZ).to).toNat) ((nth jE (((nth x0.arcs bJ aZ).to).toNat) [])++[(nth x0.arcs bJ aZ).frm])),(bJ+1)),(VB,(I8.set (((nth x0.arcs bJ aZ).to).toNat) (((nth jE (((nth x0.arcs bJ aZ).to).toNat) [])++[(nth x0.arcs bJ aZ).frm]),(a442,c443))))) WL ⟨hh,J7,AL,zf445⟩ (Θ [5,5,5,5] 5)
  skip
  obtain ⟨p448,Tm,Ux⟩:=Zn.at oH (i:=((nth x0.arcs bJ aZ).to).toNat) (by omega)
  refine TA.ac 7 z (OpVal.ok (Dj z hs_ z (q:=5) z Tm Ux) z z ⟨(λw h=>rP (aj.le.refl _) (λr hr=>qy [1,2,3,4,6] z hr) w h),?_⟩)
  refine TA.front 5 z z (TA.by (λw h=>Reach.takeN Tm Ux h) (TA.ac 11 z (as_ z z bY dh uJ lq z z (by decide) z z z (.inr ⟨_,1,z⟩) (by simpa using MQ) (by decide) (λa450 c451=>(k3 ?_)))))
  refine TA.know (Nj (q:=1) z oH) (λ⟨hs452,hs452b⟩=> ?_)
  refine TA.b 12 z (OpVal.index z eX fP z z hs452 u48.1 u48.2) z (TA.front 1 z z (TA.front 1 z z ?_))
  have hn454:(jE.set (((nth x0.arcs bJ aZ).to).toNat) ((nth jE (((nth x0.arcs bJ aZ).to).toNat) [])++[(nth x0.arcs bJ aZ).frm])).length=jE.length:=(fQ ..).trans rfl
  refine TA.ac 13 rfl (Nl (l':=((nth jE (((nth x0.arcs bJ aZ).to).toNat) [])++[(nth x0.arcs bJ aZ).frm])) rfl fP rfl rfl rfl rfl rfl (by rw [oH.len];omega) oH (λzf453=>(k2 ?_)))
  refine TA.dn (B.n (S.n (η (ω z (OpVal.succ z z z (by omega)) (ψ z z ?_)))))
  rw [<-hn454]
  refine ε ?_
  obtain ⟨hh,WJ⟩:=dL hR1 hh
  exact lf (((jU.set (((nth x0.arcs bJ aZ).frm).toNat) ((nth jU (((nth x0.arcs bJ aZ).frm).toNat) [])++[(nth x0.arcs bJ aZ).to])),(jE.set (((nth x0.arcs bJ aZ).to).toNat) ((nth jE (((nth x0.arcs bJ aZ).to).toNat) [])++[(nth x0.arcs bJ aZ).frm])),(bJ+1)),(VB,(I8.set (((nth x0.arcs bJ aZ).to).toNat) (((nth jE (((nth x0.arcs bJ aZ).to).toNat) [])++[(nth x0.arcs bJ aZ).frm]),(a450,c451))))) WJ ⟨hh,J7,AL,zf453⟩ (Θ [5,5,5,5] 5)
 refine TC.exit (S.x (S.x ?_))
 replace hh:=dI hR1 hh
 refine Δ (S.n (ξ (ω z (b9_ z) (ω z (Z_ (.inr z) z) (ε ?_)))))
 rw [<-FX]
 refine TC.front 2 z z (TC.Z8 (λw h=>Reach.bj_ bn nI h) (λτ458 Ef Fz=> ?_))
 replace au:=au.mono Ef
 replace aV:=aV.mono Ef
 replace aS:=aS.mono Ef
 have hr456b:=Fz.big
 refine TC.front 3 z z (TC.Z8 (λw h=>Reach.bj_ bn yO h) (λτ461 zM TM=> ?_))
 replace au:=au.mono zM
 replace aV:=aV.mono zM
 replace aS:=aS.mono zM
 replace Fz:=Fz.mono zM
 have hr459b:=TM.big
 refine TC.ret ?_
 obtain rfl:=so hh
 exact ro [κ oD (oN x0 aN aK aA aY aW ay) 25,κ qo #[.slice oZ jU.length oV] 27,κ Ib #[.slice yg jE.length xW] 27] z (RVs.tmp z RVs.nil) ⟨oD,aN,aK,aA,aY,aW,ay,qo,oZ,oV,Ib,yg,xW,z,au,aV,aS,Fz,TM,z⟩
def Vj(dY:ak)(jI:Nat)(G5:Int):Option (Nat×(ak×Nat)):=
 grd (0<=G5/\G5<(dY.length:Int)) (grd (jI+1<=9223372036854775807) (some (0,((dY.set G5.toNat (jI:Int)),(jI+1)))))
def D8_(gy:Nat)(Wv:List Tip):Option (((List Tip)×Nat)⊕(Fst×Int)):=
 nxt (Wv,(gy+1))
def D9_(oh:Nat)(Wq:List Tip):Option (((List Tip)×Nat)⊕(Fst×Int)):=
 nxt (Wq,(oh+1))
def Dm_(je:Nat)(Wp:List Arc):Option (((List Arc)×Nat)⊕(Fst×Int)):=
 nxt (Wp,(je+1))
def QE(x0:Fst)(dY:ak)(jI:Nat)(dF:List Tip)(oO:List Tip)(yD:List Arc)(je:Nat):Option (((List Arc)×Nat)⊕(Fst×Int)):=
 aQ (decide ((je:Int)<((x0.arcs.length:Nat):Int))) (grd (0<=((nth x0.arcs je aZ).frm)/\((nth x0.arcs je aZ).frm)<(dY.length:Int)) (grd (0<=((nth x0.arcs je aZ).to)/\((nth x0.arcs je aZ).to)<(dY.length:Int)) (aQ (decide (0<=(nth dY (((nth x0.arcs je aZ).frm).toNat) 0))) (aQ (decide (0<=(nth dY (((nth x0.arcs je aZ).to).toNat) 0))) (grd ((yD.length+[(⟨(nth dY (((nth x0.arcs je aZ).frm).toNat) 0),(nth dY (((nth x0.arcs je aZ).to).toNat) 0),(nth x0.arcs je aZ).set,(nth x0.arcs je aZ).out,(nth x0.arcs je aZ).copy⟩:Arc)].length) * 72<=140737488355328) (Dm_ je (yD++[(⟨(nth dY (((nth x0.arcs je aZ).frm).toNat) 0),(nth dY (((nth x0.arcs je aZ).to).toNat) 0),(nth x0.arcs je aZ).set,(nth x0.arcs je aZ).out,(nth x0.arcs je aZ).copy⟩:Arc)]))) (Dm_ je yD)) (Dm_ je yD)))) (fin (bnd (MB (⟨(jI:Int),dF,oO,yD⟩:Fst)) (λv145=>some (v145.1,v145.2))))
def QH(x0:Fst)(dY:ak)(jI:Nat)(dF:List Tip)(oO:List Tip)(oh:Nat):Option (((List Tip)×Nat)⊕(Fst×Int)):=
 aQ (decide ((oh:Int)<((x0.ends.length:Nat):Int))) (grd (0<=((nth x0.ends oh aG).state)/\((nth x0.ends oh aG).state)<(dY.length:Int)) (aQ (decide (0<=(nth dY (((nth x0.ends oh aG).state).toNat) 0))) (grd ((oO.length+[(⟨(nth dY (((nth x0.ends oh aG).state).toNat) 0),(nth x0.ends oh aG).out⟩:Tip)].length) * 24<=140737488355328) (D9_ oh (oO++[(⟨(nth dY (((nth x0.ends oh aG).state).toNat) 0),(nth x0.ends oh aG).out⟩:Tip)]))) (D9_ oh oO))) (fin (bC (λq:(List Arc)×Nat=>QE x0 dY jI dF oO q.1 q.2) (([]:List Arc),0)))
def QJ(x0:Fst)(dY:ak)(jI:Nat)(dF:List Tip)(gy:Nat):Option (((List Tip)×Nat)⊕(Fst×Int)):=
 aQ (decide ((gy:Int)<((x0.starts.length:Nat):Int))) (grd (0<=((nth x0.starts gy aG).state)/\((nth x0.starts gy aG).state)<(dY.length:Int)) (aQ (decide (0<=(nth dY (((nth x0.starts gy aG).state).toNat) 0))) (grd ((dF.length+[(⟨(nth dY (((nth x0.starts gy aG).state).toNat) 0),(nth x0.starts gy aG).out⟩:Tip)].length) * 24<=140737488355328) (D8_ gy (dF++[(⟨(nth dY (((nth x0.starts gy aG).state).toNat) 0),(nth x0.starts gy aG).out⟩:Tip)]))) (D8_ gy dF))) (fin (bC (λq:(List Tip)×Nat=>QH x0 dY jI dF q.1 q.2) (([]:List Tip),0)))
def Fy_(x0:Fst)(jz:Nat)(dY:ak)(jI:Nat):Option (Fst×Int):=
 jsel jz (bC (λq:(List Tip)×Nat=>QJ x0 dY jI q.1 q.2) (([]:List Tip),0)) (λ_=>none)
def Qu(x0:Fst)(lC:ak)(Bh:Nat):Option ((ak×Nat)⊕(Fst×Int)):=
 aQ (decide ((Bh:Int)<(((replicate x0.states.toNat (0:Int)).length:Nat):Int))) (grd (Bh<lC.length) (nxt ((lC.set Bh (-1)),(Bh+1)))) (fin (bnd (Ei_ x0) (λv29=>bnd (Dx_ (MW (λ(q:ak×Nat) (x:Int)=>Vj q.1 q.2 x)) (0,(lC,0)) (⟨v29.1.states,v29.1.starts,v29.1.ends,v29.1.arcs⟩:Fst) v29.2.1 v29.2.2) (λzr4=>Fy_ x0 zr4.1 zr4.2.1 zr4.2.2))))
def Fg_(x0:Fst):Option (Fst×Int):=
 bnd (Zr x0) (λv5=>aQ (decide (v5≠0)) (some ((⟨0,([]:List Tip),([]:List Tip),([]:List Arc)⟩:Fst),1)) (grd (0<=x0.states/\8 * x0.states.toNat<=281474976710656) (bC (λq:ak×Nat=>Qu x0 q.1 q.2) ((replicate x0.states.toNat (0:Int)),0))))
def H1_(σ:aj)(r:Fst×Int):Value->aj->List Res->Prop:=λv σ' H'=>
 ∃a1 c1 a2 c2 a3 c3,v= .tuple #[.agg (oN r.1 a1 c1 a2 c2 a3 c3),.int .i64 r.2]/\RS σ' 2 dD (.slice a1 r.1.starts.length c1) r.1.starts/\RS σ' 2 dD (.slice a2 r.1.ends.length c2) r.1.ends/\RS σ' 8 kC (.slice a3 r.1.arcs.length c3) r.1.arcs/\H'=[]
theorem Hk_{σ:aj}{x0:Fst}(au:RS σ 2 dD (.slice aN x0.starts.length aK) x0.starts)(aV:RS σ 2 dD (.slice aA x0.ends.length aY) x0.ends)(aS:RS σ 8 kC (.slice aW x0.arcs.length ay) x0.arcs){r:Fst×Int}(hh:Fg_ x0=some r):
  Con prog 44 #[.agg (oN x0 aN aK aA aY aW ay)] σ [] (H1_ σ r):=by
 dsimp only [Fg_]at hh
 have f0_0b:=au.rv.big
 have f0_1b:=aV.rv.big
 have f0_2b:=aS.rv.big
 refine Con.mk (n:=136) Tryz.func44 z z z (λw0=> ?_)
 refine ξ (ν z (boxA z z z z (λbG=> ?_)))
 refine ν z (OpOk.alloc z RI z z (λeY=> ?_))
 refine ψ z z (ε (θ (ξ (ω z (lG z Io Ar z (i:=1) z z) ?_))))
 obtain ⟨v5,u5,hh⟩:=dJ hh
 refine ν z (kD (Fw_ (x0:=x0) au aV aS u5) z z V_ z z z ?_)
 refine ω z (OpVal.neq z z z) (ε (TC.cD z hh (λdM hh=> ?_) (λdM hh=> ?_)))
 ·refine ξ (ω z (ny z Ol RI z) (ν z (storeAll z Ar z z z z z z ?_)))
  refine ψ z z (ε (TC.rt 1 (S.r ?_)))
  obtain rfl:=so hh
  exact ro [] z (RVs.agg Io Ar z (i:=0) z z (RVs.tmp z RVs.nil)) ⟨none,0,none,0,none,0,z,(RS.nilF _ dD gQ),(RS.nilF _ dD gQ),(RS.nilF _ kC vV),z⟩
 refine ι (S.n (ξ (ω z (aU z EO z) (ω z (bg z fC z (i:=1) z z) ?_))))
 obtain ⟨u12,hh⟩:=aP hh
 refine ν rfl (oW (m:=x0.states.toNat) (enc:=aF) (0:Int) rfl bY dh uJ lq rfl rfl (vN u12.1) (vN u12.1) (by omega) (by decide) bn (by decide) rfl jR (λjY c107=> ?_))
 refine ν z (OpOk.alloc z kY z z (λoD=> ?_))
 refine ν z (f_ z fP z z z z z ?_)
 refine ε (θ (ξ (ω z (bg z hs_ z (i:=0) z z) (ω z (lenC z bY z) (ψ z z (ε (υ (TC.iE (α:=(ak×Nat)×(Unit)) (rgs [(5,1),(27,7)]) (λg=>[(27,.int .i64 ((g.1.2:Nat):Int))]) (λg=>[κ bG (oN x0 aN aK aA aY aW ay) 25,κ eY #[.int .i64 0,bM,bM,bM] 25,κ oD #[.slice jY ((replicate x0.states.toNat (0:Int)).length) c107] 86,φ 3 1 aF (.slice jY (replicate x0.states.toNat (0:Int)).length c107) g.1.1]) (λg=>σ) (λg=>bC (λq:ak×Nat=>Qu x0 q.1 q.2) g.1=some r/\g.1.1.length=(replicate x0.states.toNat (0:Int)).length) (λg=>fZ (λq:ak×Nat=>Qu x0 q.1 q.2) g.1) (((replicate x0.states.toNat (0:Int)),0),()) (Θ [1,1,2,3] 4) z (by repeat (first|exact trivial|refine ⟨z,?_⟩)) ⟨hh,z⟩ (λg1 j1 hg1=> ?_)))))))))
 obtain ⟨⟨lC,Bh⟩,_⟩:=g1
 obtain ⟨hh,B_⟩:=hg1
 try dsimp only at B_ ⊢
 obtain ⟨z1,hh,hR1⟩:=iq hh
 dsimp only [Qu]at hh
 refine χ (i:=3) z (λ_ hb120 _=> ?_)
 refine ξ (ω z (OpVal.lss z z z) (ε (θ (TC.cD z hh (λEL hh=> ?_) (λEL hh=> ?_)))))
 ·refine ι (S.n (θ (υ (ξ (ψ z z (ψ z z (ε (η (ω z (bg z hs_ z (i:=2) z z) (ψ z z ?_))))))))))
  obtain ⟨u23,hh⟩:=aP hh
  refine TL.isSl (i:=3) z (λhs122 _ _=> ?_)
  refine ω z (bT z bY dh z z hs122 (by omega)) (ζ 3 z z ?_)
  have fV:(lC.set Bh (-1)).length=(replicate x0.states.toNat (0:Int)).length:=by rw [fQ];exact B_
  refine ν z (lF (-1) z dh z z z z bn jR (by omega) (by omega) ?_)
  refine TL.nil (B.n (S.n (η (ω z (OpVal.succ z z z (by omega)) (ψ z z (ε ?_))))))
  obtain ⟨hh,XZ⟩:=dL hR1 hh
  exact lf (((lC.set Bh (-1)),(Bh+1)),()) XZ ⟨hh,fV⟩ (Θ [3,3,3] 4)
 refine TC.exit (S.x (S.x ?_))
 replace hh:=dI hR1 hh
 refine Δ (S.n (ξ (ν z (OpOk.alloc z RI z z (λAi=> ?_)))))
 refine ε (θ (ξ (ω z (lG z Io Ar z (i:=1) z z) ?_)))
 obtain ⟨v29,u29,hh⟩:=dJ hh
 refine ν z (OpOk.call (Hb_ au aV aS u29) z z pf85 z z z z ?_)
 rintro _ τ127 _ ng ⟨b127_10,a127_1,c127_2,a127_4,c127_5,a127_7,c127_8,b127_14,a127_11,c127_12,b127_18,a127_15,c127_16,rfl,f127_3,f127_6,f127_9,f127_13,f127_17,rfl⟩
 replace au:=au.mono ng
 replace aV:=aV.mono ng
 replace aS:=aS.mono ng
 have f127_3b:=f127_3.rv.big
 have f127_6b:=f127_6.rv.big
 have f127_9b:=f127_9.rv.big
 have f127_13b:=f127_13.big
 have f127_17b:=f127_17.big
 refine ε (υ (TC.qR (Θ [2,2,2,3,7,7,7,7] 8) ?_))
 obtain ⟨zr4,hz4,hh⟩:=dJ hh
 obtain ⟨jz4,⟨dY,jI⟩⟩:=zr4
 dsimp only at hh
 refine TC.rangeG (A:=(λ(x:Int) _ vs=>vs=[.int .i64 x])) [] (λ(q:ak×Nat) (x:Int)=>Vj q.1 q.2 x) (λ(q:ak×Nat) (τ146:aj) Hs=>Hs=[κ bG (oN x0 aN aK aA aY aW ay) 25,κ eY #[.int .i64 0,bM,bM,bM] 25,κ oD #[.slice jY ((replicate x0.states.toNat (0:Int)).length) c107] 86,φ 3 1 aF (.slice jY (replicate x0.states.toNat (0:Int)).length c107) q.1,κ Ai #[.int .i64 ((q.2:Nat):Int),bM,bM,bM] 25]/\q.1.length=(replicate x0.states.toNat (0:Int)).length) (s:=(lC,0)) rfl pf122 rfl rfl (by rintro _ _ _ _ ⟨rfl,BO⟩ hle_;exact ⟨rfl,BO⟩) ⟨rfl,B_⟩ (λ_ _ _ h_=>by subst h_;rfl) (G5_ f127_3 f127_6 f127_9 f127_13 f127_17 hz4) ?_ ?_
 ·clear hh hz4
  rintro l_ _ _ _ τ146 ⟨dY,jI⟩ G5 z4 _ _ hh pU rfl ⟨rfl,BO⟩
  dsimp only [Vj]at hh
  replace au:=au.mono pU
  replace aV:=aV.mono pU
  replace aS:=aS.mono pU
  show TC _ _ _ (upds _ [(36,.int .i64 G5)]) τ146 [κ bG (oN x0 aN aK aA aY aW ay) 25,κ eY #[.int .i64 0,bM,bM,bM] 25,κ oD #[.slice jY ((replicate x0.states.toNat (0:Int)).length) c107] 86,φ 3 1 aF (.slice jY (replicate x0.states.toNat (0:Int)).length c107) dY,κ Ai #[.int .i64 (jI:Int),bM,bM,bM] 25]
  refine χ (i:=3) z (λ_ hb148 _=> ?_)
  refine η (ψ z z (TL.nil (asg_n (λ_ _ _=> ?_))))
  refine υ (ξ (ω z (bg z hs_ z (i:=2) z z) (ψ z z (ω z (aU z EO z) (ω z (bg z fC z (i:=4) z z) ?_)))))
  obtain ⟨u35,hh⟩:=aP hh
  refine TL.isSl (i:=3) z (λwO _ _=> ?_)
  refine ω z (OpVal.index z bY dh z z wO u35.1 u35.2) (ζ 3 z z ?_)
  have hn150:(dY.set G5.toNat (jI:Int)).length=(replicate x0.states.toNat (0:Int)).length:=by rw [fQ];exact BO
  refine ν z (lF (jI:Int) z dh z z z z bn jR (by omega) (by omega) ?_)
  refine ε (η (ω z (aU z EO z) (ω z (bg z fC z (i:=4) z z) ?_)))
  obtain ⟨u39,hh⟩:=aP hh
  refine ω z (OpVal.succ z z z (by omega)) (ω z (aU z EO z) (ζ 4 z z (ν z (cg_ z dh z z z z z ?_))))
  refine TL.nil (B.n ?_)
  obtain rfl:=so hh
  exact rnd_n ⟨z,_,Θ [1,4,4,4] 5,⟨z,hn150⟩⟩
 rintro τ146 _ _ pU ⟨rfl,BO⟩ ⟨rfl⟩
 replace au:=au.mono pU
 replace aV:=aV.mono pU
 replace aS:=aS.mono pU
 dsimp only [Fy_]at hh
 show jmpQ _ _ _ _ _ τ146 [κ bG (oN x0 aN aK aA aY aW ay) 25,κ eY #[.int .i64 0,bM,bM,bM] 25,κ oD #[.slice jY ((replicate x0.states.toNat (0:Int)).length) c107] 86,φ 3 1 aF (.slice jY (replicate x0.states.toNat (0:Int)).length c107) dY,κ Ai #[.int .i64 (jI:Int),bM,bM,bM] 25,κ b127_10 (oN v29.1 a127_1 c127_2 a127_4 c127_5 a127_7 c127_8) 25,κ b127_14 #[.slice a127_11 v29.2.1.length c127_12] 27,κ b127_18 #[.slice a127_15 v29.2.2.length c127_16] 27]
 refine w5_ hh ?_ ?_ <;>clear hh
 ·intro hh
  refine B.n (S.n (θ (ξ (ω z (aU z Tc z) (ω z (bg z Fj z (i:=0) z z) (ω z (lenC z kS z) (ψ z z (ε (υ (TC.nilS 76 2 dD (TC.iE (α:=((List Tip)×Nat)×((Option Addr)×Nat)) (rgs [(9,2),(49,21)]) (λg=>[(49,.int .i64 ((g.1.2:Nat):Int))]) (λg=>[κ bG (oN x0 aN aK aA aY aW ay) 25,κ eY #[.int .i64 0,bM,bM,bM] 25,κ oD #[.slice jY ((replicate x0.states.toNat (0:Int)).length) c107] 86,φ 3 1 aF (.slice jY (replicate x0.states.toNat (0:Int)).length c107) dY,κ Ai #[.int .i64 (jI:Int),.slice g.2.1 g.1.1.length g.2.2,bM,bM] 25,φ 76 2 dD (.slice g.2.1 g.1.1.length g.2.2) g.1.1]) (λg=>τ146) (λg=>bC (λq:(List Tip)×Nat=>QJ x0 dY jI q.1 q.2) g.1=some r/\dY.length=(replicate x0.states.toNat (0:Int)).length) (λg=>fZ (λq:(List Tip)×Nat=>QJ x0 dY jI q.1 q.2) g.1) ((([]:List Tip),0),(none,0)) (Θ [5,5,5,5,5] 6) z (by repeat (first|exact trivial|refine ⟨z,?_⟩)) ⟨hh,BO⟩ (λg2 j2 hg2=> ?_))))))))))))
  obtain ⟨⟨dF,gy⟩,⟨a167,c168⟩⟩:=g2
  obtain ⟨hh,y9⟩:=hg2
  try dsimp only at y9 ⊢
  obtain ⟨z1,hh,hR1⟩:=iq hh
  dsimp only [QJ]at hh
  refine χ (i:=3) z (λ_ hb171 _=> ?_)
  refine χ (i:=5) z (λ_ hb172 _=> ?_)
  refine ξ (ω z (OpVal.lss z z z) (ε (θ (TC.cD z hh (λAa hh=> ?_) (λAa hh=> ?_)))))
  ·refine ι (S.n (TC.cutG (α:=((List Tip))×((Option Addr)×Nat)) (rgs [(9,2),(51,18)]) (λg=>[]) (λg=>[κ bG (oN x0 aN aK aA aY aW ay) 25,κ eY #[.int .i64 0,bM,bM,bM] 25,κ oD #[.slice jY ((replicate x0.states.toNat (0:Int)).length) c107] 86,φ 3 1 aF (.slice jY (replicate x0.states.toNat (0:Int)).length c107) dY,κ Ai #[.int .i64 (jI:Int),.slice g.2.1 g.1.length g.2.2,bM,bM] 25,φ 76 2 dD (.slice g.2.1 g.1.length g.2.2) g.1]) (λg=>τ146) (λg=>D8_ gy g.1=some z1/\dY.length=(replicate x0.states.toNat (0:Int)).length) ?_ (λg j hg=> ?_)))
   ·skip
    refine υ (ξ (ω z (bT z kS jQ z z au.rv.sl (by omega)) (ω z (Ie aG z DC jQ z au (by omega) (by omega)) (ν z (OpOk.alloc z vC z z (λb178=> ?_))))))
    refine ν z (storeAll z jQ z z z z z z ?_)
    refine ε (ξ (ω z (bg z hs_ z (i:=3) z z) (ω z (aU z EN z) (ω z (bg z fC z (i:=0) z z) ?_))))
    obtain ⟨Jj,hh⟩:=aP hh
    refine TL.isSl (i:=4) z (λhs180 _ _=> ?_)
    refine ω z (OpVal.index z bY dh z z hs180 Jj.1 Jj.2) (ω z (nZ (0:Int) z fC z (q:=4) z bn (by omega) z) (ψ z z (ε (ξ (ψ z z (ω z (OpVal.geq z z z) (ε (TC.cD z hh (λh181 hh=> ?_) (λh181 hh=> ?_)))))))))
    ·refine η (ω z (aU z Tc z) (ω z (bg z Fj z (i:=5) z z) (ψ z z (ω z (aU z Az z) (ω z (bg z iK z (i:=0) z z) (ω z (ny z Jt vC z) (ν z (OpOk.lit (enc:=dD) [(⟨(nth dY (((nth x0.starts gy aG).state).toNat) 0),(nth x0.starts gy aG).out⟩:Tip)] z kS jQ vC z z z gQ (by decide) (by decide) aG z (by decide) z (by decide) Px (λa182 c183=> ?_)))))))))
     refine ζ 7 z z ?_
     obtain ⟨u66,hh⟩:=aP hh
     refine ν z (as_ z z kS jQ PL vC z z (by decide) z z z (.inr ⟨_,0,z⟩) (by simpa using u66) (by decide) (λqp qm=> ?_))
     refine ω z (aU z Tc z) (ζ 7 z z (ν z (f_ z Jo z z z z z ?_)))
     exact TL.nil (B.n (S.n (cf ((dF++[(⟨(nth dY (((nth x0.starts gy aG).state).toNat) 0),(nth x0.starts gy aG).out⟩:Tip)]),(qp,qm)) ⟨hh,y9⟩ (Θ [1,1,7,7,7,7] 6))))
    exact ι (B.n (S.n (cf (dF,(a167,c168)) ⟨hh,y9⟩ (Θ [6,6,6,6,6,6] 6))))
   skip
   obtain ⟨Wv,⟨a176,c177⟩⟩:=g
   obtain ⟨hh,wY⟩:=hg
   try dsimp only at wY ⊢
   dsimp only [D8_]at hh
   refine χ (i:=3) z (λ_ hb187 _=> ?_)
   refine χ (i:=5) z (λ_ hb188 _=> ?_)
   refine η (ω z (OpVal.succ z z z (by omega)) (ψ z z (ε ?_)))
   obtain ⟨hh,DW⟩:=dL hR1 hh
   exact lf ((Wv,(gy+1)),(a176,c177)) DW ⟨hh,wY⟩ (Θ [5,5,5,5,5,5] 6)
  refine TC.exit (S.x (S.x ?_))
  replace hh:=dI hR1 hh
  refine Δ (S.n (θ (ξ (ω z (aU z WC z) (ω z (bg z Fj z (i:=0) z z) (ω z (lenC z kS z) (ψ z z (ε (υ (TC.nilS 76 2 dD (TC.iE (α:=((List Tip)×Nat)×((Option Addr)×Nat)) (rgs [(12,2),(73,21)]) (λg=>[(73,.int .i64 ((g.1.2:Nat):Int))]) (λg=>[κ bG (oN x0 aN aK aA aY aW ay) 25,κ eY #[.int .i64 0,bM,bM,bM] 25,κ oD #[.slice jY ((replicate x0.states.toNat (0:Int)).length) c107] 86,φ 3 1 aF (.slice jY (replicate x0.states.toNat (0:Int)).length c107) dY,κ Ai #[.int .i64 (jI:Int),.slice a167 dF.length c168,.slice g.2.1 g.1.1.length g.2.2,bM] 25,φ 76 2 dD (.slice a167 dF.length c168) dF,φ 76 2 dD (.slice g.2.1 g.1.1.length g.2.2) g.1.1]) (λg=>τ146) (λg=>bC (λq:(List Tip)×Nat=>QH x0 dY jI dF q.1 q.2) g.1=some r/\dY.length=(replicate x0.states.toNat (0:Int)).length) (λg=>fZ (λq:(List Tip)×Nat=>QH x0 dY jI dF q.1 q.2) g.1) ((([]:List Tip),0),(none,0)) (Θ [6,6,6,6,6,6] 7) z (by repeat (first|exact trivial|refine ⟨z,?_⟩)) ⟨hh,y9⟩ (λg3 j3 hg3=> ?_))))))))))))
  obtain ⟨⟨oO,oh⟩,⟨a206,LQ⟩⟩:=g3
  obtain ⟨hh,uT⟩:=hg3
  try dsimp only at uT ⊢
  obtain ⟨z1,hh,hR1⟩:=iq hh
  dsimp only [QH]at hh
  refine χ (i:=3) z (λ_ Lc _=> ?_)
  refine χ (i:=5) z (λ_ UY _=> ?_)
  refine χ (i:=6) z (λ_ hb212 _=> ?_)
  refine ξ (ω z (OpVal.lss z z z) (ε (θ (TC.cD z hh (λYx hh=> ?_) (λYx hh=> ?_)))))
  ·refine ι (S.n (TC.cutG (α:=((List Tip))×((Option Addr)×Nat)) (rgs [(12,2),(75,18)]) (λg=>[]) (λg=>[κ bG (oN x0 aN aK aA aY aW ay) 25,κ eY #[.int .i64 0,bM,bM,bM] 25,κ oD #[.slice jY ((replicate x0.states.toNat (0:Int)).length) c107] 86,φ 3 1 aF (.slice jY (replicate x0.states.toNat (0:Int)).length c107) dY,κ Ai #[.int .i64 (jI:Int),.slice a167 dF.length c168,.slice g.2.1 g.1.length g.2.2,bM] 25,φ 76 2 dD (.slice a167 dF.length c168) dF,φ 76 2 dD (.slice g.2.1 g.1.length g.2.2) g.1]) (λg=>τ146) (λg=>D9_ oh g.1=some z1/\dY.length=(replicate x0.states.toNat (0:Int)).length) ?_ (λg j hg=> ?_)))
   ·skip
    refine υ (ξ (ω z (bT z kS jQ z z aV.rv.sl (by omega)) (ω z (Ie aG z DC jQ z aV (by omega) (by omega)) (ν z (OpOk.alloc z vC z z (λb218=> ?_))))))
    refine ν z (storeAll z jQ z z z z z z ?_)
    refine ε (ξ (ω z (bg z hs_ z (i:=3) z z) (ω z (aU z EN z) (ω z (bg z fC z (i:=0) z z) ?_))))
    obtain ⟨u83,hh⟩:=aP hh
    refine TL.isSl (i:=4) z (λhs220 _ _=> ?_)
    refine ω z (OpVal.index z bY dh z z hs220 u83.1 u83.2) (ω z (nZ (0:Int) z fC z (q:=4) z bn (by omega) z) (ψ z z (ε (ξ (ψ z z (ω z (OpVal.geq z z z) (ε (TC.cD z hh (λYu hh=> ?_) (λYu hh=> ?_)))))))))
    ·refine η (ω z (aU z WC z) (ω z (bg z Fj z (i:=5) z z) (ψ z z (ω z (aU z Az z) (ω z (bg z iK z (i:=0) z z) (ω z (ny z Jt vC z) (ν z (OpOk.lit (enc:=dD) [(⟨(nth dY (((nth x0.ends oh aG).state).toNat) 0),(nth x0.ends oh aG).out⟩:Tip)] z kS jQ vC z z z gQ (by decide) (by decide) aG z (by decide) z (by decide) Px (λa222 c223=> ?_)))))))))
     refine ζ 8 z z ?_
     obtain ⟨u95,hh⟩:=aP hh
     refine ν z (as_ z z kS jQ PL vC z z (by decide) z z z (.inr ⟨_,0,z⟩) (by simpa using u95) (by decide) (λP9 c226=> ?_))
     refine ω z (aU z WC z) (ζ 7 z z (ν z (f_ z Jo z z z z z ?_)))
     exact TL.nil (B.n (S.n (cf ((oO++[(⟨(nth dY (((nth x0.ends oh aG).state).toNat) 0),(nth x0.ends oh aG).out⟩:Tip)]),(P9,c226)) ⟨hh,uT⟩ (Θ [1,8,2,8,8,8,8] 7))))
    exact ι (B.n (S.n (cf (oO,(a206,LQ)) ⟨hh,uT⟩ (Θ [7,7,7,7,7,7,7] 7))))
   skip
   obtain ⟨Wq,⟨a216,c217⟩⟩:=g
   obtain ⟨hh,Uw⟩:=hg
   try dsimp only at Uw ⊢
   dsimp only [D9_]at hh
   refine χ (i:=3) z (λ_ hb227 _=> ?_)
   refine χ (i:=5) z (λ_ hb228 _=> ?_)
   refine χ (i:=6) z (λ_ hb229 _=> ?_)
   refine η (ω z (OpVal.succ z z z (by omega)) (ψ z z (ε ?_)))
   obtain ⟨hh,DT⟩:=dL hR1 hh
   exact lf ((Wq,(oh+1)),(a216,c217)) DT ⟨hh,Uw⟩ (Θ [6,6,6,6,6,6,6] 7)
  refine TC.exit (S.x (S.x ?_))
  replace hh:=dI hR1 hh
  refine Δ (S.n (θ (ξ (ω z (aU z Td z) (ω z (bg z MO z (i:=0) z z) (ω z (lenC z qw z) (ψ z z (ε (υ (TC.nilS 66 8 kC (TC.iE (α:=((List Arc)×Nat)×((Option Addr)×Nat)) (rgs [(15,3),(97,35)]) (λg=>[(97,.int .i64 ((g.1.2:Nat):Int))]) (λg=>[κ eY #[.int .i64 0,bM,bM,bM] 25,κ oD #[.slice jY ((replicate x0.states.toNat (0:Int)).length) c107] 86,φ 3 1 aF (.slice jY (replicate x0.states.toNat (0:Int)).length c107) dY,κ Ai #[.int .i64 (jI:Int),.slice a167 dF.length c168,.slice a206 oO.length LQ,.slice g.2.1 g.1.1.length g.2.2] 25,φ 76 2 dD (.slice a167 dF.length c168) dF,φ 76 2 dD (.slice a206 oO.length LQ) oO,φ 66 8 kC (.slice g.2.1 g.1.1.length g.2.2) g.1.1]) (λg=>τ146) (λg=>bC (λq:(List Arc)×Nat=>QE x0 dY jI dF oO q.1 q.2) g.1=some r/\dY.length=(replicate x0.states.toNat (0:Int)).length) (λg=>fZ (λq:(List Arc)×Nat=>QE x0 dY jI dF oO q.1 q.2) g.1) ((([]:List Arc),0),(none,0)) (Θ [7,7,7,7,7,7] 7) z (by repeat (first|exact trivial|refine ⟨z,?_⟩)) ⟨hh,uT⟩ (λg4 j4 hg4=> ?_))))))))))))
  obtain ⟨⟨yD,je⟩,⟨Zd,YK⟩⟩:=g4
  obtain ⟨hh,F8⟩:=hg4
  try dsimp only at F8 ⊢
  obtain ⟨z1,hh,hR1⟩:=iq hh
  dsimp only [QE]at hh
  refine χ (i:=2) z (λ_ hb251 _=> ?_)
  refine χ (i:=4) z (λ_ hb252 _=> ?_)
  refine χ (i:=5) z (λ_ hb253 _=> ?_)
  refine χ (i:=6) z (λ_ hb254 _=> ?_)
  refine ξ (ω z (OpVal.lss z z z) (ε (θ (TC.cD z hh (λh255 hh=> ?_) (λh255 hh=> ?_)))))
  ·refine ι (S.n (TC.cutG (α:=((List Arc))×((Option Addr)×Nat)) (rgs [(15,3),(99,32)]) (λg=>[]) (λg=>[κ eY #[.int .i64 0,bM,bM,bM] 25,κ oD #[.slice jY ((replicate x0.states.toNat (0:Int)).length) c107] 86,φ 3 1 aF (.slice jY (replicate x0.states.toNat (0:Int)).length c107) dY,κ Ai #[.int .i64 (jI:Int),.slice a167 dF.length c168,.slice a206 oO.length LQ,.slice g.2.1 g.1.length g.2.2] 25,φ 76 2 dD (.slice a167 dF.length c168) dF,φ 76 2 dD (.slice a206 oO.length LQ) oO,φ 66 8 kC (.slice g.2.1 g.1.length g.2.2) g.1]) (λg=>τ146) (λg=>Dm_ je g.1=some z1/\dY.length=(replicate x0.states.toNat (0:Int)).length) ?_ (λg j hg=> ?_)))
   ·skip
    refine υ (ξ (ω z (bT z qw nY z z aS.rv.sl (by omega)) (ω z (Ie aZ z Ji nY z aS (by omega) (by omega)) (ν z (OpOk.alloc z Au z z (λb260=> ?_))))))
    refine ν z (storeAll z nY z z z z z z ?_)
    refine ε (θ ?_)
    obtain ⟨G9,hh⟩:=aP hh
    obtain ⟨u117,hh⟩:=aP hh
    refine TC.draw [] (by kernel_rfl) (TA.b 0 z (bg z hs_ z (i:=2) z z) z (TA.a 1 z (aU z Pm z) z (TA.b 2 z (bg z fC z (i:=0) z z) z (TA.isSl (i:=3) z (λhs264 _ _=> ?_)))))
    refine TA.b 3 z (OpVal.index z bY dh z z hs264 G9.1 G9.2) z (TA.b 4 z (nZ (0:Int) z fC z (q:=3) z bn (by omega) z) z (TA.b 5 z (bg z hs_ z (i:=2) z z) z (TA.a 6 z (aU z S_ z) z (TA.b 7 z (bg z fC z (i:=0) z z) z (TA.isSl (i:=3) z (λhs265 _ _=> ?_))))))
    refine TA.b 8 z (OpVal.index z bY dh z z hs265 u117.1 u117.2) z (TA.b 9 z (nZ (0:Int) z fC z (q:=3) z bn (by omega) z) z (TA.a 10 z (cO (.inr z) z) z (TA.a 11 z (cO (.inr z) z) z (TA.dn (S.n (ξ (ψ z z (ω z (OpVal.geq z z z) (TL.j z z (TL.split 113 z (λzZ=> ?_) (λzZ=> ?_)))))))))))
    ·replace hh:=ig zZ hh
     replace zZ:=jk zZ
     refine Ψ z (cO (.inl z) z) (Ψ z (OpVal.geq z z z) (ω z (dQ z z z) (ε (TC.cD z hh (λh267 hh=> ?_) (λh267 hh=> ?_)))))
     ·refine η (ω z (aU z Td z) (ω z (bg z MO z (i:=4) z z) (ψ z z (ψ z z (ω z (aU z l3_ z) (ω z (bg_ z LZ He z (i:=0) z z z) (ω z (aU z l1_ z) (ω z (bg z iK z (i:=0) z z) (ω z (aU z pf_ z) (ω z (bg z nX z (i:=0) z z) (ω z (ny z Oj Au z) (ν z (OpOk.lit (enc:=kC) [(⟨(nth dY (((nth x0.arcs je aZ).frm).toNat) 0),(nth dY (((nth x0.arcs je aZ).to).toNat) 0),(nth x0.arcs je aZ).set,(nth x0.arcs je aZ).out,(nth x0.arcs je aZ).copy⟩:Arc)] z qw nY Au z z z vV (by decide) (by decide) aZ z (by decide) z (by decide) YG (λa268 c269=> ?_))))))))))))))
      refine ζ 8 z z ?_
      obtain ⟨u139,hh⟩:=aP hh
      refine ν z (as_ z z qw nY PN Au z z (by decide) z z z (.inr ⟨_,0,z⟩) (by simpa using u139) (by decide) (λa271 c272=> ?_))
      refine ω z (aU z Td z) (ζ 6 z z (ν z (f_ z NU z z z z z ?_)))
      exact TL.nil (B.n (S.n (cf ((yD++[(⟨(nth dY (((nth x0.arcs je aZ).frm).toNat) 0),(nth dY (((nth x0.arcs je aZ).to).toNat) 0),(nth x0.arcs je aZ).set,(nth x0.arcs je aZ).out,(nth x0.arcs je aZ).copy⟩:Arc)]),(a271,c272)) ⟨hh,F8⟩ (Θ [1,8,8,3,8,8,8] 7))))
     exact ι (B.n (S.n (cf (yD,(Zd,YK)) ⟨hh,F8⟩ (Θ [7,7,7,7,7,7,7] 7))))
    replace hh:=iw zZ hh
    replace zZ:=jy zZ
    exact π z (π z (ω z (dU z z z) (ε (TC.f z (ι (B.n (S.n (cf (yD,(Zd,YK)) ⟨hh,F8⟩ (Θ [7,7,7,7,7,7,7] 7)))))))))
   skip
   obtain ⟨Wp,⟨a258,c259⟩⟩:=g
   obtain ⟨hh,wX⟩:=hg
   try dsimp only at wX ⊢
   dsimp only [Dm_]at hh
   refine χ (i:=2) z (λ_ hb273 _=> ?_)
   refine χ (i:=4) z (λ_ hb274 _=> ?_)
   refine χ (i:=5) z (λ_ hb275 _=> ?_)
   refine χ (i:=6) z (λ_ hb276 _=> ?_)
   refine η (ω z (OpVal.succ z z z (by omega)) (ψ z z (ε ?_)))
   obtain ⟨hh,Xj⟩:=dL hR1 hh
   exact lf ((Wp,(je+1)),(a258,c259)) Xj ⟨hh,wX⟩ (Θ [6,6,6,6,6,6,6] 7)
  refine TC.exit (S.x (S.x ?_))
  replace hh:=dI hR1 hh
  refine Δ (S.n (ξ (ω z (lG z Io Ar z (i:=3) z z) (ζ 4 z z (TL.og gQ (λτ280 hle279 y5=> ?_))))))
  have hr278b:=y5.rv.big
  refine ζ 4 z z (TL.og gQ (λτ283 Yd FH=> ?_))
  replace y5:=y5.mono Yd
  have hr281b:=FH.rv.big
  refine ζ 4 z z (TL.og vV (λτ286 KJ TY=> ?_))
  replace y5:=y5.mono KJ
  replace FH:=FH.mono KJ
  have hr284b:=TY.rv.big
  obtain ⟨v145,N9,hh⟩:=dJ hh
  refine ν z (OpOk.call (Hy_ (x0:=(⟨(jI:Int),dF,oO,yD⟩:Fst)) y5 FH TY N9) z z pf56 z z z z ?_)
  rintro _ τ287 _ hle287 ⟨a287_1,c287_1,a287_2,c287_2,a287_3,c287_3,rfl,hr287_0,hr287_1,hr287_2,rfl⟩
  have hr287_0b:=hr287_0.rv.big
  have hr287_1b:=hr287_1.rv.big
  have hr287_2b:=hr287_2.rv.big
  refine ω z (OpVal.extract z z z) (ω z (OpVal.extract z z z) (ν z (storeAll z Ar z z z z z z ?_)))
  refine ψ z z (ε (TC.rt 1 ?_))
  obtain rfl:=so hh
  exact ro [] z (RVs.agg Io Ar z (i:=0) z z (RVs.tmp z RVs.nil)) ⟨a287_1,c287_1,a287_2,c287_2,a287_3,c287_3,z,hr287_0,hr287_1,hr287_2,z⟩
 intro m_ c_ hh hc_
 exact jl_nil hc_
end Go.Proofs.YtchebnpdnfhenaaGreatDoor
end

noncomputable section
namespace Go.E
open Go
structure TLag where
  p:Int
  q:Int
  a:List UInt8
  b:List UInt8
  deriving DecidableEq
def TLag.zero:TLag:=⟨0,0,[],[]⟩
structure Walk where
  t:Fst
  arcs:List (List Arc)
  most:Int
end Go.E
end

noncomputable section
namespace Go.E
open Go Go.Sort Go.Proofs Go.Shelf
theorem OpVal.minI{P:Program}{n:Nat}{e:Env}{σ:aj}{H:List Res}{o:Oper}{x y:Operand}{ts:Array TypeId}{k k':IntKind}{a b:Int}(ho:o.op= .call {callee:= .builtin .min,args:= #[x,y],argTypes:=ts})(hx:ev e x= .int k a)(hy:ev e y= .int k' b):OpVal P n o e σ H (.int k (min a b)):=λw _=>by
  have h:(if b<a then b else a)=min a b:=by rw [Int.min_def];split<;>split<;>omega
  simp [execOp,ho,resolve,invoke,builtin,hx,hy,Builtin.min_,Builtin.min2,h]
end Go.E
end

noncomputable section
namespace Go.E
open Go
structure ReLeaf where
  kind:Int
  text:List UInt8
  set:BSet
  min:Int
  max:Int
  deriving DecidableEq
def ReLeaf.zero:ReLeaf:=⟨0,[],BSet.zero,0,0⟩
structure ReRoot where
  kind:Int
  text:List UInt8
  set:BSet
  parts:List ReLeaf
  min:Int
  max:Int
def ReRoot.zero:ReRoot:=⟨0,[],BSet.zero,[],0,0⟩
end Go.E
end

noncomputable section
namespace Go.Proofs.YtchebnpdnfhenaaGreatDoor
open Go Go.E Go.E.OpVal Go.E.OpOk Go.Proofs.Tryz
open List (replicate)
def Zy(x0:T_1)(x1:T_1)(kQ:Nat):Option ((Nat)⊕(Int)):=
 aQ (decide ((kQ:Int)<(min ((x0.length:Nat):Int) ((x1.length:Nat):Int)))) (grd (kQ<x0.length) (grd (kQ<x1.length) (aQ (decide ((((nth x0 kQ 0).toNat:Nat):Int)≠(((nth x1 kQ 0).toNat:Nat):Int))) (fin (some (kQ:Int))) (nxt (kQ+1))))) (fin (some (min ((x0.length:Nat):Int) ((x1.length:Nat):Int))))
def E8_(x0:T_1)(x1:T_1):Option (Int):=
 grd (x0.length<=281474976710656) (grd (x1.length<=281474976710656) (bC (λq:Nat=>Zy x0 x1 q) 0))
theorem Ho_{σ:aj}{x0:T_1}{x1:T_1}{r:Int}(hh:E8_ x0 x1=some r):
  Con prog 155 #[.string (bs x0),.string (bs x1)] σ [] (kZ (.int .i64 r) σ):=by
 dsimp only [E8_]at hh
 refine Con.mk (n:=26) Tryz.func155 z z z (λw0=> ?_)
 have x0b:=Hl hh
 replace hh:=Hw hh
 have x1b:=Hl hh
 replace hh:=Hw hh
 refine ξ (ψ z z (ε (ξ (ω z (dX (.inl z) z) (ω z (rQ z kG z) (ω z (dX (.inl z) z) (ω z (rQ z kG z) (ω z (minI z z z) (ψ z z (ε (θ (ξ (ψ z z (ψ z z (ε ?_)))))))))))))))
 refine υ (TC.iE (α:=(Nat)×(Unit)) (rgs [(4,1),(6,1),(13,12)]) (λg=>[(13,.int .i64 ((g.1:Nat):Int))]) (λg=>[]) (λg=>σ) (λg=>bC (λq:Nat=>Zy x0 x1 q) g.1=some r) (λg=>fZ (λq:Nat=>Zy x0 x1 q) g.1) (0,()) (Sub.pre 0 z) z (by repeat (first|exact trivial|refine ⟨z,?_⟩)) hh (λg1 j1 hg1=> ?_))
 obtain ⟨kQ,_⟩:=g1
 have hh:=hg1;clear hg1
 try dsimp only
 obtain ⟨z1,hh,hR1⟩:=iq hh
 dsimp only [Zy]at hh
 refine ξ (ω z (OpVal.lss z z z) (ε (θ (TC.cD z hh (λgB hh=> ?_) (λgB hh=> ?_)))))
 ·refine ι (S.n (θ (υ (ξ (ψ z z (ψ z z (ε (θ ?_))))))))
  obtain ⟨u15,hh⟩:=aP hh
  obtain ⟨RP,hh⟩:=aP hh
  refine TC.draw [] (by kernel_rfl) (TA.a 0 z (dX (.inl z) z) z (TA.a 1 z (cO (.inl z) z) z (TA.a 2 z (bs_ z kG z z (by omega)) z (TA.a 3 z (dX (.inl z) z) z (TA.a 4 z (cO (.inl z) z) z (TA.a 5 z (bs_ z kG z z (by omega)) z (TA.a 6 z (OpVal.neq z z z) z (TA.dn (S.n (TC.cD z hh (λdM hh=> ?_) (λdM hh=> ?_)))))))))))
  ·refine ξ (ψ z z (ψ z z (ε (TC.ret (B.r (S.r (S.r ?_)))))))
   replace hh:=dI hR1 hh
   refine B.r (S.r ?_)
   obtain rfl:=so hh
   exact rq [4] ⟨z,z,z⟩
  refine ι (B.n (S.n (η (ω z (OpVal.succ z z z (by omega)) (ψ z z (ε ?_))))))
  obtain ⟨hh,Ee⟩:=dL hR1 hh
  exact lf ((kQ+1),()) Ee hh (Sub.pre 0 z)
 refine TC.exit (S.x (S.x ?_))
 replace hh:=dI hR1 hh
 refine Δ (S.n (ξ (ψ z z (ψ z z (ε (TC.ret ?_))))))
 obtain rfl:=so hh
 exact rq [4] ⟨z,z,z⟩
end Go.Proofs.YtchebnpdnfhenaaGreatDoor
end

noncomputable section
namespace Go.E
open Go
theorem OpVal.gtrBs{P:Program}{n:Nat}{e:Env}{σ:aj}{H:List Res}{o:Oper}{x y:Operand}{l m:List UInt8}{T T':TypeId}(ho:o.op= .binOp .gtr T x y T')(hx:ev e x= .string (bs l))(hy:ev e y= .string (bs m)):OpVal P n o e σ H (.bool (!(decide (Lib.compareBytes l m<0) || l == m))):=λw _=>by
  simp only [execOp,ho,hx,hy,Sem.run_bind,f6_,Result.andThen_ok,binOp,Op.stringOp,ByteArray.toList_eq,ZO,i9_,Sem.run_pure]
end Go.E
end

noncomputable section
namespace Go.Proofs.YtchebnpdnfhenaaGreatDoor
open Go Go.E Go.E.OpVal Go.E.OpOk Go.Proofs.Tryz
open List (replicate)
theorem pf154:plainF Tryz.prog 154=true:=by kernel_rfl
theorem Sv:plainF Tryz.prog 186=true:=by kernel_rfl
def r8_(x0:T_1):Option (Bool):=
 some (decide (x0≠x0))
theorem pw_{σ:aj}{x0:T_1}{r:Bool}(hh:r8_ x0=some r):
  Con prog 186 #[.string (bs x0)] σ [] (kZ (.bool r) σ):=by
 dsimp only [r8_]at hh
 refine Con.mk (n:=6) Tryz.func186 z z z (λw0=> ?_)
 refine ξ (TL.j z z (ε (ξ (ω z (dX (.inl z) z) (ω z (dX (.inl z) z) (ω z (Iw z z z) (TL.j z z (ε (TC.ret ?_)))))))))
 obtain rfl:=so hh
 exact rq [2] ⟨z,z,z⟩
def km_(x0:T_1)(x1:T_1):Option (Int):=
 bnd (r8_ x0) (λv3=>bnd (r8_ x1) (λv6=>aQ v3 (aQ v6 (some 0) (some (-1))) (aQ v6 (some 1) (aQ (decide (Lib.compareBytes x0 x1<0)) (some (-1)) (aQ (!(decide (Lib.compareBytes x0 x1<0) || x0 == x1)) (some 1) (some 0))))))
theorem q8_{σ:aj}{x0:T_1}{x1:T_1}{r:Int}(hh:km_ x0 x1=some r):
  Con prog 154 #[.string (bs x0),.string (bs x1)] σ [] (kZ (.int .i64 r) σ):=by
 dsimp only [km_]at hh
 refine Con.mk (n:=20) Tryz.func154 z z z (λw0=> ?_)
 refine ξ (ψ z z (ε (ξ (ω z (dX (.inl z) z) ?_))))
 obtain ⟨v3,u3,hh⟩:=dJ hh
 refine ν z (kD (pw_ u3) z z Sv z z z ?_)
 refine TL.j z z (ε (ξ (ω z (dX (.inl z) z) ?_)))
 obtain ⟨v6,u6,hh⟩:=dJ hh
 refine ν z (kD (pw_ u6) z z Sv z z z ?_)
 refine TL.j z z (ε (θ (ξ (TL.j z z (ε (TC.cB z hh (λgI hh=> ?_) (λgI hh=> ?_)))))))
 ·refine θ (ξ (TL.j z z (ε (TC.cB z hh (λxP hh=> ?_) (λxP hh=> ?_)))))
  ·refine ξ (ψ z z (ε (TC.ret (S.r (S.r ?_)))))
   obtain rfl:=so hh
   exact rq [4] ⟨z,z,z⟩
  refine ι (S.n (ξ (ψ z z (ε (TC.ret (S.r ?_))))))
  obtain rfl:=so hh
  exact rq [4] ⟨z,z,z⟩
 refine ι (S.n (θ (ξ (TL.j z z (ε (TC.cB z hh (λgG hh=> ?_) (λgG hh=> ?_)))))))
 ·refine ξ (ψ z z (ε (TC.ret (S.r ?_))))
  obtain rfl:=so hh
  exact rq [4] ⟨z,z,z⟩
 refine ι (S.n (θ (ξ (ω z (dX (.inl z) z) (ω z (dX (.inl z) z) (ω z (lssBs z z z) (ε (TC.cD z hh (λgB hh=> ?_) (λgB hh=> ?_)))))))))
 ·refine ξ (ψ z z (ε (TC.ret (S.r ?_))))
  obtain rfl:=so hh
  exact rq [4] ⟨z,z,z⟩
 refine ι (S.n (θ (ξ (ω z (dX (.inl z) z) (ω z (dX (.inl z) z) (ω z (gtrBs z z z) (ε (TC.cB z hh (λdM hh=> ?_) (λdM hh=> ?_)))))))))
 ·refine ξ (ψ z z (ε (TC.ret (S.r ?_))))
  obtain rfl:=so hh
  exact rq [4] ⟨z,z,z⟩
 refine ι (S.n (ξ (ψ z z (ε (TC.ret ?_)))))
 obtain rfl:=so hh
 exact rq [4] ⟨z,z,z⟩
def Fo_(x0:Tip)(x1:Tip):Option (Int):=
 bnd (Qm x0.state x1.state) (λv8=>bnd (km_ x0.out x1.out) (λv13=>bnd (Zp [v8,v13]) (λv15=>some v15)))
theorem Hg_{σ:aj}{x0:Tip}{x1:Tip}{r:Int}(hh:Fo_ x0 x1=some r):
  Con prog 125 #[.agg #[.int .i64 x0.state,.string (bs x0.out)],.agg #[.int .i64 x1.state,.string (bs x1.out)]] σ [] (kZ (.int .i64 r) σ):=by
 dsimp only [Fo_]at hh
 refine Con.mk (n:=17) Tryz.func125 z z z (λw0=> ?_)
 refine ξ (ν z (boxA z z z z (λbG=> ?_)))
 refine ν z (boxA z z z z (λeY=> ?_))
 refine ψ z z (ε (θ ?_))
 obtain ⟨v8,u8,hh⟩:=dJ hh
 obtain ⟨v13,u13,hh⟩:=dJ hh
 obtain ⟨v15,u15,hh⟩:=dJ hh
 refine TC.draw [] (by kernel_rfl) (TA.a 0 z (aU z EN z) z (TA.b 1 z (bg z fC z (i:=1) z z) z (TA.a 2 z (aU z EN z) z (TA.b 3 z (bg z fC z (i:=0) z z) z (TA.a 5 z (aU z Az z) z (TA.b 6 z (bg z iK z (i:=1) z z) z (TA.a 7 z (aU z Az z) z (TA.b 8 z (bg z iK z (i:=0) z z) z (TA.ac 4 z (kD (Dp_ u8) z z uy_ z z z (k0 ?_)))))))))))
 refine TA.ac 9 z (kD (q8_ u13) z z pf154 z z z (k0 ?_))
 refine TA.ac 10 z (OpOk.lit (enc:=aF) [v8,v13] z bY dh lq z z z bn (by decide) (by decide) (0:Int) z (by decide) z (by decide) jR (λa110 c111=>(k1 ?_)))
 refine TA.ac 11 z (U_ (Con.lend bn (λ_ Ep J3=>Gq_ J3 u15)) z z y8_ z z z z (k1 ?_))
 refine TA.a 12 z (cO (.inr z) z) z (TA.dn (S.n (TC.rt 0 ?_)))
 obtain rfl:=so hh
 exact rq [4] ⟨z,z,z⟩
end Go.Proofs.YtchebnpdnfhenaaGreatDoor
end

noncomputable section
namespace Go.Proofs.YtchebnpdnfhenaaGreatDoor
open Go Go.Shelf
def sp_:Go.Shelf.Ren:=⟨fun|171=>150|243=>177|246=>203|283=>211|284=>212|285=>213|286=>214|129=>168|317=>217|318=>218|319=>219|320=>220|337=>221|338=>201|n=>n,fun|3=>3|9=>9|2=>2|4=>4|171=>267|0=>0|53=>62|37=>60|5=>5|173=>269|212=>274|51=>222|20=>20|213=>275|46=>170|232=>276|233=>266|n=>n,fun|17=>2|18=>3|19=>1|n=>n⟩
theorem layItoa:Go.Proofs.LaysM.n171 Tryz.prog sp_:={
  mixed:=by kernel_rfl,
  f129:=Tryz.func168.trans (congrArg some (by kernel_rfl)),
  f171:=Tryz.func150.trans (congrArg some (by kernel_rfl)),
  f243:=Tryz.func177.trans (congrArg some (by kernel_rfl)),
  f246:=Tryz.func203.trans (congrArg some (by kernel_rfl)),
  f283:=Tryz.func211.trans (congrArg some (by kernel_rfl)),
  f284:=Tryz.func212.trans (congrArg some (by kernel_rfl)),
  f285:=Tryz.func213.trans (congrArg some (by kernel_rfl)),
  f286:=Tryz.func214.trans (congrArg some (by kernel_rfl)),
  f317:=Tryz.func217.trans (congrArg some (by kernel_rfl)),
  f318:=Tryz.func218.trans (congrArg some (by kernel_rfl)),
  f319:=Tryz.func219.trans (congrArg some (by kernel_rfl)),
  f320:=Tryz.func220.trans (congrArg some (by kernel_rfl)),
  f337:=Tryz.func221.trans (congrArg some (by kernel_rfl)),
  f338:=Tryz.func201.trans (congrArg some (by kernel_rfl)),
  t0:=Tryz.underlying0,
  a0:=Tryz.isAgg0,
  z0:=Tryz.sizeOf0,
  v0:=Tryz.zeroValue0,
  t2:=Tryz.underlying2,
  a2:=Tryz.isAgg2,
  z2:=Tryz.sizeOf2,
  v2:=Tryz.zeroValue2,
  t3:=Tryz.underlying3,
  a3:=Tryz.isAgg3,
  z3:=Tryz.sizeOf3,
  v3:=Tryz.zeroValue3,
  t4:=Tryz.underlying4,
  a4:=Tryz.isAgg4,
  z4:=Tryz.sizeOf4,
  v4:=Tryz.zeroValue4,
  t5:=Tryz.underlying5,
  a5:=Tryz.isAgg5,
  z5:=Tryz.sizeOf5,
  v5:=Tryz.zeroValue5,
  t9:=Tryz.underlying9,
  a9:=Tryz.isAgg9,
  z9:=Tryz.sizeOf9,
  v9:=Tryz.zeroValue9,
  t20:=Tryz.underlying20,
  a20:=Tryz.isAgg20,
  z20:=Tryz.sizeOf20,
  v20:=Tryz.zeroValue20,
  t37:=Tryz.underlying60,
  a37:=Tryz.isAgg60,
  z37:=Tryz.sizeOf60,
  v37:=Tryz.zeroValue60,
  t46:=Tryz.underlying170,
  a46:=Tryz.isAgg170,
  z46:=Tryz.sizeOf170,
  v46:=Tryz.zeroValue170,
  t51:=Tryz.underlying222,
  a51:=Tryz.isAgg222,
  z51:=Tryz.sizeOf222,
  v51:=Tryz.zeroValue222,
  t53:=Tryz.underlying62,
  a53:=Tryz.isAgg62,
  z53:=Tryz.sizeOf62,
  v53:=Tryz.zeroValue62,
  t171:=Tryz.underlying267,
  a171:=Tryz.isAgg267,
  z171:=Tryz.sizeOf267,
  v171:=Tryz.zeroValue267,
  t173:=Tryz.underlying269,
  a173:=Tryz.isAgg269,
  z173:=Tryz.sizeOf269,
  v173:=Tryz.zeroValue269,
  t212:=Tryz.underlying274,
  a212:=Tryz.isAgg274,
  z212:=Tryz.sizeOf274,
  v212:=Tryz.zeroValue274,
  t213:=Tryz.underlying275,
  a213:=Tryz.isAgg275,
  z213:=Tryz.sizeOf275,
  t232:=Tryz.underlying276,
  a232:=Tryz.isAgg276,
  z232:=Tryz.sizeOf276,
  v232:=Tryz.zeroValue276,
  t233:=Tryz.underlying266,
  a233:=Tryz.isAgg266,
  z233:=Tryz.sizeOf266,
  v233:=Tryz.zeroValue266,
  g17:=by kernel_rfl,
  g18:=by kernel_rfl,
  g19:=by kernel_rfl,
  i0:=by kernel_rfl,
  i2:=by kernel_rfl,
  i3:=by kernel_rfl,
  i4:=by kernel_rfl,
  i5:=by kernel_rfl,
  i9:=by kernel_rfl,
  i20:=by kernel_rfl,
  i37:=by kernel_rfl,
  i46:=by kernel_rfl,
  i51:=by kernel_rfl,
  i53:=by kernel_rfl,
  i171:=by kernel_rfl,
  i173:=by kernel_rfl,
  i212:=by kernel_rfl,
  i232:=by kernel_rfl,
  i233:=by kernel_rfl,
  m17:=by kernel_rfl,
  m18:=by kernel_rfl,
  m19:=by kernel_rfl}
end Go.Proofs.YtchebnpdnfhenaaGreatDoor
end

noncomputable section
namespace Go.E
open Go Go.Sort Go.Proofs Go.Shelf
def p10:List Nat:=[1,10,100,1000,10000,100000,1000000,10000000,100000000,1000000000,10000000000,100000000000,1000000000000,10000000000000,100000000000000,1000000000000000,10000000000000000,100000000000000000,1000000000000000000,10000000000000000000]
theorem Reach.laterI{w:World}{σ:aj}(h:Reach w [] σ σ w [])(k:Nat)(os:Array Obj):Reach w [] σ σ (grow (w.drewN k) os) []:=by
  have hh: ∀i,i<w.heap.size->(grow (w.drewN k) os).heap[i]? =w.heap[i]? :=λi hi=>by
    show (w.heap++os)[i]? =_
    rw [Array.getElem?_append_left hi]
  refine ⟨rfl,rfl,rfl,?_,λi hi _=>hh i hi,aj.le.refl _,λb o hb=> ?_,λb o hb=> .inl hb,by simp,by simp,by simp [iG],by simp,?_⟩
  · show w.heap.size<=(w.heap++os).size
    simp
  · have h1:=h.fit b o hb
    have hlt:=(Array.getElem?_eq_some_iff.1 h1).1
    rw [hh b hlt];exact h1
  show w.drawn<=w.drawn+k
  omega
theorem itoa_of{P : Program}{ρ : Ren}{f g : Nat}(L : LaysM.n171 P ρ)(hf : ρ.f 171 = f)(hg : P.globalNamed "internal/strconv.uint64pow10" = some g){n : Int}{σ : aj}(hn : -9223372036854775808 ≤ n ∧ n ≤ 9223372036854775807)(h : GT σ g encW p10) :
    Con P f #[.int .i64 n] σ [] (kZ (.string (bs (Lib.itoa n))) σ):=by
  subst hf
  intro w hw
  obtain ⟨E,hE⟩:=h
  have htab : Lib.TabIs P w "internal/strconv.uint64pow10" .u64 Lib.pow10Tab := by
    unfold Lib.TabIs World.var?
    rw [hg]
    have h1:=hw.fit _ _ hE
    simp only [Option.bind_some,h1]
    rfl
  refine (Any.strconv_Itoa L n hn.1 hn.2 w htab).mono ?_
  rintro e w' ⟨rfl,k,os,rfl⟩
  exact ⟨_,σ,[],rfl,⟨rfl,rfl,rfl⟩,hw.laterI k os⟩
structure Dx (σ:aj) (g1 g2:Nat):Prop where
  b:GT σ g1 ku deB
  p:GT σ g2 encW p10
theorem Dx.mono{σ τ:aj}{g1 g2:Nat}(h:Dx σ g1 g2)(hle:σ.le τ):Dx τ g1 g2:=⟨h.b.mono hle,h.p.mono hle⟩
end Go.E
end

noncomputable section
namespace Go.Proofs.YtchebnpdnfhenaaGreatDoor
open Go Go.E
theorem rq_ : ∀ x y : T_1, (aQ (decide (Lib.compareBytes x y < 0)) (some (-1 : Int)) (aQ (!(decide (Lib.compareBytes x y < 0) || x == y)) (some 1) (some 0))) = some (Lib.compareBytes x y)
  |[],[]=>rfl
  |[],_::_=>rfl
  |_::_,[]=>rfl
  | a :: x, b :: y => by
    have ih:=rq_ x y
    unfold Lib.compareBytes
    by_cases h:a<b
    · rw [if_pos h];rfl
    rw [if_neg h]
    by_cases h2:b<a
    · rw [if_pos h2]
      have:(a::x == b::y)=false:=by
        rw [beq_eq_false_iff_ne]
        intro e;cases e;exact h h2
      rw [this];rfl
    rw [if_neg h2]
    have e:a=b:=UInt8.le_antisymm (UInt8.not_lt.1 h2) (UInt8.not_lt.1 h)
    subst e
    have:(a::x == a::y)=(x == y):=by simp
    rw [this];exact ih
theorem sn_(x y:T_1):km_ x y=some (Lib.compareBytes x y):=by
  unfold km_ r8_
  rw [<-rq_ x y]
  simp [bnd,aQ]
theorem Hl_(x y:Tip):Fo_ x y=some (nG x y):=by
  unfold Fo_
  rw [yH (Dv_ _ _),yH (sn_ _ _),yH (G3_ _)];rfl
theorem Il_{σ:aj}{a:Option Addr}{c:Nat}{l:List Tip}:Con Tryz.prog 124 #[.slice a l.length c,.func (.func 125) #[] #[]] σ [φ 76 2 dD (.slice a l.length c) l] (wy_ 76 2 dD a c l (rY nG l) σ):=
  Con.sortK (k:=2) layT0 rfl Tryz.isAgg76 Tryz.sizeOf76 gQ Px Pv.total (λargs w=>U8 (by kernel_rfl) args w) (λx y τ=>Hg_ (Hl_ x y))
theorem mx_{σ:aj}{n:Int}(hgl:Dx σ 1 2)(hn: -9223372036854775808<=n/\n<=9223372036854775807):Con Tryz.prog 150 #[.int .i64 n] σ [] (kZ (.string (bs (Lib.itoa n))) σ):=
  itoa_of layItoa rfl (by kernel_rfl) hn hgl.p
end Go.Proofs.YtchebnpdnfhenaaGreatDoor
end

noncomputable section
namespace Go.E
open Go
def TB(X:Ctx)(R:Exit->Act->World->Prop)(c:Code)(e:Env)(σ:aj)(H:List Res):Prop:=
  ∀w a,RM X a σ w H->St X.n e a->c.wpIn (fence X.rnd) 0 X.P R a w
def TLB(X:Ctx)(ops:Array Oper)(R:Exit->Act->World->Prop)(l:List Oper)(e:Env)(σ:aj)(H:List Res):Prop:=
  ∀w a,RM X a σ w H->St X.n e a->wpListIn (fence X.rnd) 0 X.P ops R l a w
def endE(w0:World)(C:List Nat)(σ0:aj)(Post:Value->aj->List Res->Prop):Ending->World->Prop:=
  λe w'=> ∃r σ' H',e= .returned r/\Post r σ' H'/\Reach w0 C σ0 σ' w' H'
def endR(P:Program)(fn:Func)(w0:World)(C:List Nat)(σ0:aj)(Post:Value->aj->List Res->Prop):Exit->Act->World->Prop:=
  bodyPostM (fence none) 0 P fn (endE w0 C σ0 Post)
theorem s4_{args:List Value}{n:Nat}{fn:Func}(hn:fn.ntmps=n)(ha:Nat.ble args.length n=true):St n (Ph args) {tmps:=args.toArray++Array.replicate (fn.ntmps - args.toArray.size) undef,defers:=[]}:=by
  have:=Nat.le_of_ble_eq_true ha
  refine ⟨?_,λt=> ?_⟩
  · simp [hn];omega
  simp only [Array.getD_eq_getD_getElem?,Array.getElem?_append,Ph,List.getElem?_toArray,List.size_toArray,Array.getElem?_replicate]
  split
  · rfl
  rename_i hlt
  rw [List.getElem?_eq_none (by omega)]
  split<;>rfl
theorem MarksOk.start{w0:World}{σ:aj}{H:List Res}{w:World}:MarksOk w0 none (some []) [] σ H w:=⟨(λh=>by cases h),(λ_ h=>by cases h;rfl),λ_ h=>by cases h⟩
theorem Con.mkD{P:Program}{f:FuncId}{fn:Func}{c:Code}{args:List Value}{n:Nat}{σ:aj}{H:List Res}{Post:Value->aj->List Res->Prop}
    (hf:P.funcs[f]? =some fn) (hb:fn.body=some c) (hn:fn.ntmps=n) (ha:Nat.ble args.length n=true)
    (h: ∀w0,TB ⟨P,w0,iG H,σ,n,none,some []⟩ (endR P fn w0 (iG H) σ Post) c (Ph args) σ H):Con P f args.toArray σ H Post:=by
  intro w hw
  exact Z7.1 (callsIn_of_wp_marks (F:=fence none) (n:=0) hf hb trivial (h w w _ ⟨hw,MarksOk.start⟩ (s4_ hn ha)))
def RD(P:Program)(f:FuncId)(args:Array Value)(σ:aj)(H:List Res)(Post:Value->aj->List Res->Prop):Prop:=
  ∀w,Reach w (iG H) σ σ w H->CallsDIn (fence none) 0 P f args .returning w λe u w'=>u= .returning/\ ∃r σ' H',e= .returned r/\Post r σ' H'/\Reach w (iG H) σ σ' w' H'
theorem RD.mono{P:Program}{f:FuncId}{args:Array Value}{σ:aj}{H:List Res}{Post Post':Value->aj->List Res->Prop}
    (h:RD P f args σ H Post) (hp: ∀r σ' H',σ.le σ'->Post r σ' H'->Post' r σ' H'):RD P f args σ H Post':=λw hw=>
  (h w hw).mono λ_ _ _ ⟨h0,r,σ',H',h1,h2,h3⟩=>⟨h0,r,σ',H',h1,hp _ _ _ h3.le h2,h3⟩
section rules
variable {X:Ctx} {ops:Array Oper} {R:Exit->Act->World->Prop} {Q:QP} {e:Env} {σ:aj} {H F:List Res} {o:Oper} {rest:List Oper} {c c1 c2:Code} {fn:Func} {Post:Value->aj->List Res->Prop}
theorem tr_{P:Program}{w0:World}{C:List Nat}{σ0:aj}{n:Nat}: ∀ex a w,low ⟨P,w0,C,σ0,n,none,some []⟩ (retQ P fn n Post) ex a w->endR P fn w0 C σ0 Post ex a w:=by
  rintro ex a w ⟨e,σ,H,h1,h2,⟨hex,r,H',h3,h4,h5⟩⟩
  have hd:a.defers=[]:=h2.marks.is _ rfl
  have hfin:LeavesInM (fence none) 0 P fn a.tmps (endE w0 C σ0 Post) a.defers .returning w:=by
    rw [hd];exact ⟨r,h3 w a h1 h2.holds,r,σ,H',rfl,h5,h2.toReach.sub h4⟩
  rcases hex with rfl|rfl
  · exact hfin
  exact hfin
def dfrQ(P:Program)(fn:Func)(n:Nat)(Post:Value->aj->List Res->Prop)(f:FuncId)(args:List Value):QP:=λex e σ H=>
  (ex= .ret\/ex= .normal)/\ ∃F,Sub F H/\RD P f args.toArray σ F λ_ σ' H'=>RetOk P fn n Post .ret e σ' H'
theorem y6_{P:Program}{w0:World}{C:List Nat}{σ0:aj}{n:Nat}{f:FuncId}{cap dargs:List Value}(hp:plainF P f=true):
    ∀ex a w,low ⟨P,w0,C,σ0,n,none,some [⟨.fn (.func f) cap.toArray,dargs.toArray⟩]⟩ (dfrQ P fn n Post f (dargs++cap)) ex a w->endR P fn w0 C σ0 Post ex a w:=by
  rintro ex a w ⟨e,σ,H,h1,h2,hex,F,hs,hcon⟩
  have hd:a.defers=[⟨.fn (.func f) cap.toArray,dargs.toArray⟩]:=h2.marks.is _ rfl
  have h3:Reach w0 C σ0 σ w F:=h2.toReach.qR hs
  have hfin:LeavesInM (fence none) 0 P fn a.tmps (endE w0 C σ0 Post) a.defers .returning w:=by
    rw [hd]
    refine ⟨by simp,.inr ⟨(λh=>by cases h),.func f,cap.toArray,f,(dargs++cap).toArray,rfl,?_,(λ_ _=>trivial),(hcon w h3.self).mono ?_⟩⟩
    · simp [invoke,U8 hp]
    rintro _ _ w' ⟨rfl,r,σ',H',rfl,⟨-,v,H'',h4,h5,h6⟩,h7⟩
    have h8:Reach w0 C σ0 σ' w' H':=by
      have:=(show Reach w0 C σ0 σ w (F++[]) by rwa [List.append_nil]).call h7
      rwa [List.append_nil]at this
    exact ⟨v,h4 w' a h1 h8.holds,v,σ',H'',rfl,h6,h8.sub h5⟩
  rcases hex with rfl|rfl
  · exact hfin
  exact hfin
theorem TB.seq(hR: ∀ex a w,low X Q ex a w->R ex a w)(h:TC X (seqQ (TB X R c2) Q) c1 e σ H):TB X R (.seq c1 c2) e σ H:=λw a hw ha=>
  Go.wpIn_seq (Go.wpIn_mono (h w a hw ha) λex a' w' ⟨e',σ',H',h1,h2,h3⟩=>by
    cases ex
    case normal=>exact h3 w' a' h2 h1
    all_goals exact hR _ _ _ ⟨e',σ',H',h1,h2,h3⟩)
theorem TB.fin(hR: ∀ex a w,low X Q ex a w->R ex a w)(h:TC X Q c e σ H):TB X R c e σ H:=λw a hw ha=>Go.wpIn_mono (h w a hw ha) (hR)
theorem TLB.v{v:Value}{d:Nat}(hg:o.guard=none)(h:OpVal X.P X.n o e σ H v)(hd:o.dst=some d)(hn:Nat.blt d X.n=true)(k:TLB X ops R rest (upd e d v) σ H):TLB X ops R (o::rest) e σ H:=λw a hw ha=>
  wpListIn_plain hg λK hK=>(OpVal.ok h hd hn (K:=λe' σ' H'=>TLB X ops R rest e' σ' H') k).at hw ha λe' σ' H' a' w' hk hw' ha'=>hK a' w' (hk w' a' hw' ha')
theorem TLB.front(i:Nat){r:Res}{l:List Oper}(hi:H[i]? =some r)(hF:H.eraseIdx i=F)(h:TLB X ops R l e σ (r::F)):TLB X ops R l e σ H:=λw a hw ha=>h w a (hw.perm (Nk hi hF)) ha
theorem TLB.dfr{P:Program}{w0:World}{C:List Nat}{σ0:aj}{n:Nat}{f:FuncId}{cap first:Array Value}{x:Operand}{opds:Array Operand}{ts:Array TypeId}{dargs:List Value}
    (hg:o.guard=none) (hop:o.op= .defer {callee:= .value x,args:=opds,argTypes:=ts}) (hx:ev e x= .func (.func f) first cap) (hd:o.dst=none) (ha:first.toList++opds.toList.map (ev e)=dargs)
    (hK: ∀a w,RM ⟨P,w0,C,σ0,n,none,some [⟨.fn (.func f) cap,dargs.toArray⟩]⟩ a σ w H->St n e a->R .normal a w):
    TLB ⟨P,w0,C,σ0,n,none,some []⟩ ops R [o] e σ H:=λw a hw hst=>by
  have ha':first++opds.map (ev e)=dargs.toArray:=by apply Array.ext';rw [<-ha];simp
  refine wpListIn_plain hg λK hK'=>⟨(λ_ _=>trivial),?_⟩
  have hs:(o.semAt (fence none).round a.eval).run P w= .ok (.defer ⟨.fn (.func f) cap,dargs.toArray⟩) w:=by
    rw [hst.eval',<-ha']
    simp [Oper.semAt,execOp,hop,resolve,hx,Deferred.ofValue]
  show Oper.uponIn _ _ _ _ _ _ _ ((o.semAt (fence none).round a.eval).run P w)
  rw [hs,Oper.uponIn_defer,hd]
  have h0:a.defers=[]:=hw.marks.is _ rfl
  refine hK' _ _ (hK _ _ ⟨?_,⟨(λh=>by cases h),(λl h=> ?_),λ_ h=>by cases h⟩⟩ ⟨hst.size,hst.get⟩)
  · exact hw.toReach
  cases h;show _::a.defers=_;rw [h0]
theorem TB.seqD{id:Nat}{l:List Oper}(h:TLB X l.toArray (λex a w=>match ex with| .normal=>c2.wpIn (fence X.rnd) 0 X.P R a w|ex=>R ex a w) l e σ H):TB X R (.seq (.region id l.toArray false) c2) e σ H:=λw a hw ha=>
  Go.wpIn_seq (Go.wpIn_mono (wpIn_region_lit (h w a hw ha)) λex a' w' hq=>by cases ex<;>exact hq)
end rules
end Go.E
end
