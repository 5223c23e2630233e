/- Parts of a proof, one behind the other: what a machine reaches, functions decompiled, plain lemmas. Conditions stand with each lemma. -/
import Derived.Test.YtchebnpdnfhenaaGreatDoorB24214c72ff
import Derived.Shelf.SlSortCmp.NoneTotal
import Derived.Lib.Builder
import Derived.Lib.AppendStr
import Derived.Lib.UnsafeStr
import Derived.Shelf.Sort.Plain
import Derived.Shelf.Slices.In.SortNone
import Derived.Shelf.Strconv.Itoa3
import Derived.Test.YtchebnpdnfhenaaGreatDoorChecked
import Derived.RangeFuncLeaves

set_option linter.unusedVariables false
set_option linter.unusedSimpArgs false
set_option linter.unusedSectionVars false
set_option maxRecDepth 100000
set_option maxHeartbeats 8000000
variable {aI aA aU bJ eF iL Fp Fj lH Fh:Option Go.Addr}{uY zH zG cO fQ jw jv aH aX ay bD dZ iK Fa E_ lF E8:Nat}

noncomputable section
namespace Go.Proofs.YtchebnpdnfhenaaGreatDoor
open Go Go.E Go.E.OpVal Go.E.OpOk Go.Proofs.Tryz
open List (replicate)
theorem pt_:foOf Tryz.prog 66 4=some 7:=by kernel_rfl
theorem pf106:plainF Tryz.prog 106=true:=by kernel_rfl
theorem zq_:plainF Tryz.prog 134=true:=by kernel_rfl
theorem vc_:plainF Tryz.prog 135=true:=by kernel_rfl
theorem pf139:plainF Tryz.prog 139=true:=by kernel_rfl
theorem SH:plainF Tryz.prog 140=true:=by kernel_rfl
theorem SA:plainF Tryz.prog 156=true:=by kernel_rfl
theorem pf158:plainF Tryz.prog 158=true:=by kernel_rfl
theorem Sv:plainF Tryz.prog 195=true:=by kernel_rfl
theorem pf64:plainF Tryz.prog 64=true:=by kernel_rfl
theorem dB:szOf Tryz.prog 3=some 1:=by kernel_rfl
theorem lu:zeroOf Tryz.prog 3=some (.int .i64 0):=by kernel_rfl
def Cq_(x0:T_1)(x1:T_1):Option (Int):=
 some (Lib.compareBytes x0 x1)
theorem E5_{σ:aj}{x0:T_1}{x1:T_1}{r:Int}(hh:Cq_ x0 x1=some r):
  Con prog 106 #[.string (bs x0),.string (bs x1)] σ [] (jQ (.int .i64 r) σ):=by
 dsimp only [Cq_]at hh
 refine Con.mk (n:=8) Tryz.func106 z z z (λw0=> ?_)
 refine ψ (ξ z z (ε (ψ (ω z (eu (.inl z) z) (ω z (eu (.inl z) z) (ω z (cmpStr z z Tryz.func144 (by kernel_rfl) (by kernel_rfl) (by kernel_rfl) (by kernel_rfl) z z) (ξ z z (ε (TC.ret ?_)))))))))
 obtain rfl:=so hh
 exact rq [4] ⟨z,z,z⟩
def D1_(x0:T_1)(x1:T_1):Option (Int):=
 bnd (Cq_ x0 x1) (λv4=>some v4)
theorem Fq_{σ:aj}{x0:T_1}{x1:T_1}{r:Int}(hh:D1_ x0 x1=some r):
  Con prog 64 #[.string (bs x0),.string (bs x1)] σ [] (jQ (.int .i64 r) σ):=by
 dsimp only [D1_]at hh
 refine Con.mk (n:=8) Tryz.func64 z z z (λw0=> ?_)
 refine ψ (ξ z z (ε (ψ (ω z (eu (.inl z) z) (ω z (eu (.inl z) z) ?_)))))
 obtain ⟨v4,u4,hh⟩:=dM hh
 refine ν z (jF (E5_ u4) z z pf106 z z z ?_)
 refine ξ z z (ε (TC.ret ?_))
 obtain rfl:=so hh
 exact rq [4] ⟨z,z,z⟩
def F1_(x0:Int):Option (Bool):=
 some (decide (x0≠x0))
theorem Hc_{σ:aj}{x0:Int}{r:Bool}(hh:F1_ x0=some r):
  Con prog 156 #[.int .i64 x0] σ [] (jQ (.bool r) σ):=by
 dsimp only [F1_]at hh
 refine Con.mk (n:=6) Tryz.func156 z z z (λw0=> ?_)
 refine ψ (TL.j z z (ε (ψ (ξ z z (ξ z z (ω z (OpVal.neq z z z) (TL.j z z (ε (TC.ret ?_)))))))))
 obtain rfl:=so hh
 exact rq [2] ⟨z,z,z⟩
def Qq(x0:Int)(x1:Int):Option (Int):=
 bnd (F1_ x0) (λv3=>bnd (F1_ x1) (λv6=>aN v3 (aN v6 (some 0) (some (-1))) (aN v6 (some 1) (aN (decide (x0<x1)) (some (-1)) (aN (decide (x1<x0)) (some 1) (some 0))))))
theorem Dy_{σ:aj}{x0:Int}{x1:Int}{r:Int}(hh:Qq x0 x1=some r):
  Con prog 135 #[.int .i64 x0,.int .i64 x1] σ [] (jQ (.int .i64 r) σ):=by
 dsimp only [Qq]at hh
 refine Con.mk (n:=20) Tryz.func135 z z z (λw0=> ?_)
 refine ψ (ξ z z (ε (ψ (ξ z z ?_))))
 obtain ⟨v3,u3,hh⟩:=dM hh
 refine ν z (jF (Hc_ u3) z z SA z z z ?_)
 refine TL.j z z (ε (ψ (ξ z z ?_)))
 obtain ⟨v6,u6,hh⟩:=dM hh
 refine ν z (jF (Hc_ u6) z z SA z z z ?_)
 refine TL.j z z (ε (ζ (ψ (TL.j z z (ε (TC.cB z hh (λfC hh=> ?_) (λfC hh=> ?_)))))))
 ·refine ζ (ψ (TL.j z z (ε (TC.cB z hh (λyg hh=> ?_) (λyg hh=> ?_)))))
  ·refine ψ (ξ z z (ε (TC.ret (S.r (S.r ?_)))))
   obtain rfl:=so hh
   exact rq [4] ⟨z,z,z⟩
  refine ι (S.n (ψ (ξ z z (ε (TC.ret (S.r ?_))))))
  obtain rfl:=so hh
  exact rq [4] ⟨z,z,z⟩
 refine ι (S.n (ζ (ψ (TL.j z z (ε (TC.cB z hh (λiI hh=> ?_) (λiI hh=> ?_)))))))
 ·refine ψ (ξ z z (ε (TC.ret (S.r ?_))))
  obtain rfl:=so hh
  exact rq [4] ⟨z,z,z⟩
 refine ι (S.n (ζ (ψ (ξ z z (ξ z z (ω z (OpVal.lss z z z) (ε (TC.cD z hh (λgX hh=> ?_) (λgX hh=> ?_)))))))))
 ·refine ψ (ξ z z (ε (TC.ret (S.r ?_))))
  obtain rfl:=so hh
  exact rq [4] ⟨z,z,z⟩
 refine ι (S.n (ζ (ψ (ξ z z (ξ z z (ω z (OpVal.gtr z z z) (ε (TC.cD z hh (λbW hh=> ?_) (λbW hh=> ?_)))))))))
 ·refine ψ (ξ z z (ε (TC.ret (S.r ?_))))
  obtain rfl:=so hh
  exact rq [4] ⟨z,z,z⟩
 refine ι (S.n (ψ (ξ z z (ε (TC.ret ?_)))))
 obtain rfl:=so hh
 exact rq [4] ⟨z,z,z⟩
def q2_(x0:Nat):Option (Bool):=
 some (decide (x0≠x0))
theorem ph_{σ:aj}{x0:Nat}{r:Bool}(hh:q2_ x0=some r):
  Con prog 195 #[.int .u64 (x0:Int)] σ [] (jQ (.bool r) σ):=by
 dsimp only [q2_]at hh
 refine Con.mk (n:=6) Tryz.func195 z z z (λw0=> ?_)
 refine ψ (TL.j z z (ε (ψ (ξ z z (ξ z z (ω z (neqU z z z) (TL.j z z (ε (TC.ret ?_)))))))))
 obtain rfl:=so hh
 exact rq [2] ⟨z,z,z⟩
def kf_(x0:Nat)(x1:Nat):Option (Int):=
 bnd (q2_ x0) (λv3=>bnd (q2_ x1) (λv6=>aN v3 (aN v6 (some 0) (some (-1))) (aN v6 (some 1) (aN (decide (x0<x1)) (some (-1)) (aN (decide (x1<x0)) (some 1) (some 0))))))
theorem r2_{σ:aj}{x0:Nat}{x1:Nat}{r:Int}(hh:kf_ x0 x1=some r):
  Con prog 158 #[.int .u64 (x0:Int),.int .u64 (x1:Int)] σ [] (jQ (.int .i64 r) σ):=by
 dsimp only [kf_]at hh
 refine Con.mk (n:=20) Tryz.func158 z z z (λw0=> ?_)
 refine ψ (ξ z z (ε (ψ (ξ z z ?_))))
 obtain ⟨v3,u3,hh⟩:=dM hh
 refine ν z (jF (ph_ u3) z z Sv z z z ?_)
 refine TL.j z z (ε (ψ (ξ z z ?_)))
 obtain ⟨v6,u6,hh⟩:=dM hh
 refine ν z (jF (ph_ u6) z z Sv z z z ?_)
 refine TL.j z z (ε (ζ (ψ (TL.j z z (ε (TC.cB z hh (λfC hh=> ?_) (λfC hh=> ?_)))))))
 ·refine ζ (ψ (TL.j z z (ε (TC.cB z hh (λyg hh=> ?_) (λyg hh=> ?_)))))
  ·refine ψ (ξ z z (ε (TC.ret (S.r (S.r ?_)))))
   obtain rfl:=so hh
   exact rq [4] ⟨z,z,z⟩
  refine ι (S.n (ψ (ξ z z (ε (TC.ret (S.r ?_))))))
  obtain rfl:=so hh
  exact rq [4] ⟨z,z,z⟩
 refine ι (S.n (ζ (ψ (TL.j z z (ε (TC.cB z hh (λiI hh=> ?_) (λiI hh=> ?_)))))))
 ·refine ψ (ξ z z (ε (TC.ret (S.r ?_))))
  obtain rfl:=so hh
  exact rq [4] ⟨z,z,z⟩
 refine ι (S.n (ζ (ψ (ξ z z (ξ z z (ω z (lssU z z z) (ε (TC.cD z hh (λgX hh=> ?_) (λgX hh=> ?_)))))))))
 ·refine ψ (ξ z z (ε (TC.ret (S.r ?_))))
  obtain rfl:=so hh
  exact rq [4] ⟨z,z,z⟩
 refine ι (S.n (ζ (ψ (ξ z z (ξ z z (ω z (gtrU z z z) (ε (TC.cD z hh (λbW hh=> ?_) (λbW hh=> ?_)))))))))
 ·refine ψ (ξ z z (ε (TC.ret (S.r ?_))))
  obtain rfl:=so hh
  exact rq [4] ⟨z,z,z⟩
 refine ι (S.n (ψ (ξ z z (ε (TC.ret ?_)))))
 obtain rfl:=so hh
 exact rq [4] ⟨z,z,z⟩
def Fm_(x0:Bool):Option (Int):=
 aN x0 (some 1) (some 0)
theorem G0_{σ:aj}{x0:Bool}{r:Int}(hh:Fm_ x0=some r):
  Con prog 140 #[.bool x0] σ [] (jQ (.int .i64 r) σ):=by
 dsimp only [Fm_]at hh
 refine Con.mk (n:=4) Tryz.func140 z z z (λw0=> ?_)
 refine ψ (ξ z z (ε (ζ (ψ (TL.j z z (ε (TC.cB z hh (λfC hh=> ?_) (λfC hh=> ?_))))))))
 ·refine ψ (ξ z z (ε (TC.ret (S.r ?_))))
  obtain rfl:=so hh
  exact rq [2] ⟨z,z,z⟩
 refine ι (S.n (ψ (ξ z z (ε (TC.ret ?_)))))
 obtain rfl:=so hh
 exact rq [2] ⟨z,z,z⟩
def Vg(x0:ak)(kW:Nat):Option ((Nat)⊕(Int)):=
 aN (decide ((kW:Int)<((x0.length:Nat):Int))) (aN (decide ((nth x0 kW 0)≠0)) (fin (some (nth x0 kW 0))) (nxt (kW+1))) (fin (some 0))
def Zw(x0:ak):Option (Int):=
 bC (λq:Nat=>Vg x0 q) 0
theorem G7_{σ:aj}{x0:ak}(au:dA σ aG aI aH x0){r:Int}(hh:Zw x0=some r):
  Con prog 134 #[.slice aI x0.length aH] σ [] (jQ (.int .i64 r) σ):=by
 dsimp only [Zw]at hh
 have f0_0b:=au.rv.big
 refine Con.mk (n:=18) Tryz.func134 z z z (λw0=> ?_)
 refine ψ (ξ z z (ε (ψ (ξ z z (ε (ζ (ψ (Φ z z (ω z (lenC z b_ z) (ξ z z (ε (υ (TC.ig (α:=(Nat)×(Unit)) (rgs [(2,1),(5,1),(8,9)]) (λg=>[(8,.int .i64 ((g.1:Nat):Int))]) (λg=>[]) (λg=>σ) (λg=>bC (λq:Nat=>Vg x0 q) g.1=some r) (λg=>f_ (λq:Nat=>Vg x0 q) g.1) (0,()) (Sub.pre 0 z) z (by repeat (first|exact trivial|refine ⟨z,?_⟩)) hh (λg1 j1 hg1=> ?_))))))))))))))
 obtain ⟨kW,_⟩:=g1
 have hh:=hg1;clear hg1
 try dsimp only
 obtain ⟨z1,hh,hR1⟩:=gJ hh
 dsimp only [Vg]at hh
 refine ψ (ω z (OpVal.lss z z z) (ε (ζ (TC.cD z hh (λgX hh=> ?_) (λgX hh=> ?_)))))
 ·refine ι (S.n (ζ (υ (ψ (ω z (bU z b_ dB z z au.rv.sl (by omega)) (ω z (fF (0:Int) z fJ z au (by omega) z) (ξ z z (ε (ψ (ξ z z (ξ z z (ω z (OpVal.neq z z z) (ε (TC.cD z hh (λbW hh=> ?_) (λbW hh=> ?_)))))))))))))))
  ·refine ψ (ξ z z (ξ z z (ε (TC.ret (B.r (S.r (S.r ?_)))))))
   replace hh:=dG hR1 hh
   refine B.r (S.r ?_)
   obtain rfl:=so hh
   exact rq [2] ⟨z,z,z⟩
  refine ι (B.n (S.n (η (ω z (OpVal.succ z z z (by omega)) (ξ z z (ε ?_))))))
  obtain ⟨hh,Et⟩:=dO hR1 hh
  exact lf ((kW+1),()) Et hh (Sub.pre 0 z)
 refine TC.exit (S.x (S.x ?_))
 replace hh:=dG hR1 hh
 refine Δ (S.n (ψ (ξ z z (ξ z z (ε (TC.ret ?_))))))
 obtain rfl:=so hh
 exact rq [2] ⟨z,z,z⟩
def Es_(x0:Tip)(x1:Tip):Option (Int):=
 bnd (Qq x0.state x1.state) (λv8=>bnd (D1_ x0.out x1.out) (λv13=>bnd (Zw [v8,v13]) (λv15=>some v15)))
theorem Hf_{σ:aj}{x0:Tip}{x1:Tip}{r:Int}(hh:Es_ x0 x1=some r):
  Con prog 96 #[.agg #[.int .i64 x0.state,.string (bs x0.out)],.agg #[.int .i64 x1.state,.string (bs x1.out)]] σ [] (jQ (.int .i64 r) σ):=by
 dsimp only [Es_]at hh
 refine Con.mk (n:=17) Tryz.func96 z z z (λw0=> ?_)
 refine ψ (ν z (boxA z z z z (λbG=> ?_)))
 refine ν z (boxA z z z z (λd_=> ?_))
 refine ξ z z (ε (ζ ?_))
 obtain ⟨v8,u8,hh⟩:=dM hh
 obtain ⟨v13,u13,hh⟩:=dM hh
 obtain ⟨v15,u15,hh⟩:=dM hh
 refine TC.draw [] (by kernel_rfl) (Ω 0 z (aS z EZ z) z (TA.b 1 z (aZ z fJ z (i:=1) z z) z (Ω 2 z (aS z EZ z) z (TA.b 3 z (aZ z fJ z (i:=0) z z) z (Ω 5 z (aS z AQ z) z (TA.b 6 z (aZ z iG z (i:=1) z z) z (Ω 7 z (aS z AQ z) z (TA.b 8 z (aZ z iG z (i:=0) z z) z (TA.ac 4 z (jF (Dy_ u8) z z vc_ z z z (k0 ?_)))))))))))
 refine TA.ac 9 z (jF (Fq_ u13) z z pf64 z z z (k0 ?_))
 refine TA.ac 10 z (OpOk.lit (enc:=aG) [v8,v13] z b_ dB lu z z z bn (by decide) (by decide) (0:Int) z (by decide) z (by decide) jS (λa110 c111=>(k1 ?_)))
 refine TA.ac 11 z (Ve (Con.lend bn (λ_ EG Ko=>G7_ Ko u15)) z z zq_ z z z z (k1 ?_))
 refine Ω 12 z (dw (.inr z) z) z (TA.dn (S.n (TC.rt 0 ?_)))
 obtain rfl:=so hh
 exact rq [4] ⟨z,z,z⟩
def Ib(x0:List Nat)(x1:List Nat)(kW:Nat):Option ((Nat)⊕(Int)):=
 aN (decide ((kW:Int)<((x0.length:Nat):Int))) (aN (decide (((x1.length:Nat):Int)<=(kW:Int))) (fin (some 1)) (grd (kW<x1.length) (bnd (kf_ (nth x0 kW (0:Nat)) (nth x1 kW (0:Nat))) (λv23=>aN (decide (v23≠0)) (fin (some v23)) (nxt (kW+1)))))) (fin (aN (decide (((x0.length:Nat):Int)<((x1.length:Nat):Int))) (some (-1)) (some 0)))
def kp_(x0:List Nat)(x1:List Nat):Option (Int):=
 bC (λq:Nat=>Ib x0 x1 q) 0
theorem p4_{σ:aj}{x0:List Nat}{x1:List Nat}(au:dA σ encW aI aH x0)(bP:dA σ encW eF dZ x1){r:Int}(hh:kp_ x0 x1=some r):
  Con prog 139 #[.slice aI x0.length aH,.slice eF x1.length dZ] σ [] (jQ (.int .i64 r) σ):=by
 dsimp only [kp_]at hh
 have f0_0b:=au.rv.big
 have f1_0b:=bP.rv.big
 refine Con.mk (n:=36) Tryz.func139 z z z (λw0=> ?_)
 refine ψ (ξ z z (ε (ζ (ψ (Φ z z (ω z (lenC z underlying194 z) (ξ z z (ε (υ (TC.ig (α:=(Nat)×(Unit)) (rgs [(4,5),(11,20)]) (λg=>[(11,.int .i64 ((g.1:Nat):Int))]) (λg=>[]) (λg=>σ) (λg=>bC (λq:Nat=>Ib x0 x1 q) g.1=some r) (λg=>f_ (λq:Nat=>Ib x0 x1 q) g.1) (0,()) (Sub.pre 0 z) z (by repeat (first|exact trivial|refine ⟨z,?_⟩)) hh (λg1 j1 hg1=> ?_)))))))))))
 obtain ⟨kW,_⟩:=g1
 have hh:=hg1;clear hg1
 try dsimp only
 obtain ⟨z1,hh,hR1⟩:=gJ hh
 dsimp only [Ib]at hh
 refine ψ (ω z (OpVal.lss z z z) (ε (ζ (TC.cD z hh (λgX hh=> ?_) (λgX hh=> ?_)))))
 ·refine ι (S.n (ζ (υ (ψ (ξ z z (ω z (bU z underlying194 Na z z au.rv.sl (by omega)) (ω z (fF (0:Nat) z MH z au (by omega) z) (ξ z z (ξ z z (ε (ζ (ψ (ξ z z (Φ z z (ω z (lenC z underlying194 z) ?_)))))))))))))))
  refine ω z (OpVal.geq z z z) (ε (TC.cD z hh (λbW hh=> ?_) (λbW hh=> ?_)))
  ·refine ψ (ξ z z (ε (TC.ret (S.r (B.r (S.r (S.r ?_)))))))
   replace hh:=dG hR1 hh
   refine B.r (S.r ?_)
   obtain rfl:=so hh
   exact rq [4] ⟨z,z,z⟩
  refine ι (S.n (ψ (Φ z z (ξ z z ?_))))
  obtain ⟨RU,hh⟩:=aP hh
  refine ω z (bU z underlying194 Na z z bP.rv.sl (by omega)) (ω z (fF (0:Nat) z MH z bP (by omega) z) (ξ z z (ε (ψ (ξ z z (ξ z z ?_))))))
  obtain ⟨v23,u23,hh⟩:=dM hh
  refine ν z (jF (r2_ u23) z z pf158 z z z ?_)
  refine ξ z z (ε (ψ (ξ z z (ω z (OpVal.neq z z z) (ε (TC.cD z hh (λdN hh=> ?_) (λdN hh=> ?_)))))))
  ·refine ψ (ξ z z (ξ z z (ε (TC.ret (B.r (S.r (S.r ?_)))))))
   replace hh:=dG hR1 hh
   refine B.r (S.r ?_)
   obtain rfl:=so hh
   exact rq [4] ⟨z,z,z⟩
  refine ι (B.n (S.n (η (ω z (OpVal.succ z z z (by omega)) (ξ z z (ε ?_))))))
  obtain ⟨hh,jZ⟩:=dO hR1 hh
  exact lf ((kW+1),()) jZ hh (Sub.pre 0 z)
 refine TC.exit (S.x (S.x ?_))
 replace hh:=dG hR1 hh
 refine Δ (S.n (ζ (ψ (Φ z z (ω z (lenC z underlying194 z) (Φ z z (ω z (lenC z underlying194 z) (ω z (OpVal.lss z z z) (ε (TC.cD z hh (λdU hh=> ?_) (λdU hh=> ?_)))))))))))
 ·refine ψ (ξ z z (ε (TC.ret (S.r ?_))))
  obtain rfl:=so hh
  exact rq [4] ⟨z,z,z⟩
 refine ι (S.n (ψ (ξ z z (ε (TC.ret ?_)))))
 obtain rfl:=so hh
 exact rq [4] ⟨z,z,z⟩
def Eq_(x0:Arc)(x1:Arc):Option (Int):=
 bnd (Qq x0.frm x1.frm) (λv8=>bnd (Qq x0.to x1.to) (λv13=>bnd (kp_ [x0.set.a,x0.set.b,x0.set.c,x0.set.d] [x1.set.a,x1.set.b,x1.set.c,x1.set.d]) (λv18=>bnd (D1_ x0.out x1.out) (λv23=>bnd (Fm_ x0.copy) (λv26=>bnd (Fm_ x1.copy) (λv29=>bnd (Qq v26 v29) (λv30=>bnd (Zw [v8,v13,v18,v23,v30]) (λv32=>some v32))))))))
theorem He_{σ:aj}{x0:Arc}{x1:Arc}{r:Int}(hh:Eq_ x0 x1=some r):
  Con prog 98 #[.agg #[.int .i64 x0.frm,.int .i64 x0.to,.int .u64 ((x0.set.a:Nat):Int),.int .u64 ((x0.set.b:Nat):Int),.int .u64 ((x0.set.c:Nat):Int),.int .u64 ((x0.set.d:Nat):Int),.string (bs x0.out),.bool x0.copy],.agg #[.int .i64 x1.frm,.int .i64 x1.to,.int .u64 ((x1.set.a:Nat):Int),.int .u64 ((x1.set.b:Nat):Int),.int .u64 ((x1.set.c:Nat):Int),.int .u64 ((x1.set.d:Nat):Int),.string (bs x1.out),.bool x1.copy]] σ [] (jQ (.int .i64 r) σ):=by
 dsimp only [Eq_]at hh
 refine Con.mk (n:=34) Tryz.func98 z z z (λw0=> ?_)
 refine ψ (ν z (boxA z z z z (λbG=> ?_)))
 refine ν z (boxA z z z z (λd_=> ?_))
 refine ξ z z (ε (ζ ?_))
 obtain ⟨v8,u8,hh⟩:=dM hh
 obtain ⟨v13,u13,hh⟩:=dM hh
 obtain ⟨v18,RU,hh⟩:=dM hh
 obtain ⟨v23,u23,hh⟩:=dM hh
 obtain ⟨v26,u26,hh⟩:=dM hh
 obtain ⟨v29,u29,hh⟩:=dM hh
 obtain ⟨v30,u30,hh⟩:=dM hh
 obtain ⟨v32,u32,hh⟩:=dM hh
 refine TC.draw [] (by kernel_rfl) (Ω 0 z (aS z PD z) z (TA.b 1 z (aZ z fJ z (i:=1) z z) z (Ω 2 z (aS z PD z) z (TA.b 3 z (aZ z fJ z (i:=0) z z) z (Ω 5 z (aS z Ti z) z (TA.b 6 z (aZ z fJ z (i:=1) z z) z (Ω 7 z (aS z Ti z) z (TA.b 8 z (aZ z fJ z (i:=0) z z) z (Ω 10 z (aS z l5_ z) z (TA.b 11 z (cg_ z underlying64 Na z) z (Ω 12 z (aS z l5_ z) z (TA.b 13 z (cg_ z underlying64 Na z) z (Ω 15 z (aS z l8_ z) z (TA.b 16 z (aZ z iG z (i:=1) z z) z (Ω 17 z (aS z l8_ z) z ?_)))))))))))))))
 refine TA.b 18 z (aZ z iG z (i:=0) z z) z (Ω 20 z (aS z pt_ z) z (TA.b 21 z (aZ z nG z (i:=1) z z) z (Ω 23 z (aS z pt_ z) z (TA.b 24 z (aZ z nG z (i:=0) z z) z (TA.ac 4 z (jF (Dy_ u8) z z vc_ z z z (k0 ?_)))))))
 refine TA.ac 9 z (jF (Dy_ u13) z z vc_ z z z (k0 ?_))
 refine TA.front 1 z z (TA.ac 14 z (Ve (Con.lendC (λ_ Yu hr114=>Con.lendC (λ_ KZ hr115=>p4_ (RS.cl_ (l:=[x0.set.a,x0.set.b,x0.set.c,x0.set.d]) (KZ _ _ hr114) ts_ t6_ z z z) (RS.cl_ (l:=[x1.set.a,x1.set.b,x1.set.c,x1.set.d]) hr115 ts_ t6_ z z z) RU))) z z pf139 z z z z ⟨(λw h=>rX (aj.le.refl _) (λr hr=>qG [1,0] z hr) w h),?_⟩))
 refine TA.ac 19 z (jF (Fq_ u23) z z pf64 z z z ⟨(λw h=>rX (aj.le.refl _) (λr hr=>qG [1,0] z hr) w h),?_⟩)
 refine TA.ac 22 z (jF (G0_ u26) z z SH z z z ⟨(λw h=>rX (aj.le.refl _) (λr hr=>qG [1,0] z hr) w h),?_⟩)
 refine TA.ac 25 z (jF (G0_ u29) z z SH z z z ⟨(λw h=>rX (aj.le.refl _) (λr hr=>qG [1,0] z hr) w h),?_⟩)
 refine TA.ac 26 z (jF (Dy_ u30) z z vc_ z z z ⟨(λw h=>rX (aj.le.refl _) (λr hr=>qG [1,0] z hr) w h),?_⟩)
 refine TA.ac 27 z (OpOk.lit (enc:=aG) [v8,v13,v18,v23,v30] z b_ dB lu z z z bn (by decide) (by decide) (0:Int) z (by decide) z (by decide) jS (λqM c119=>⟨(λw h=>rX (aj.le.refl _) (λr hr=>qG [2,1] z hr) w h),?_⟩))
 refine TA.ac 28 z (Ve (Con.lend bn (λ_ lX nU=>G7_ nU u32)) z z zq_ z z z z ⟨(λw h=>rX (aj.le.refl _) (λr hr=>qG [2,1] z hr) w h),?_⟩)
 refine Ω 29 z (dw (.inr z) z) z (TA.dn (S.n (TC.rt 0 ?_)))
 obtain rfl:=so hh
 exact rq [4] ⟨z,z,z⟩
end Go.Proofs.YtchebnpdnfhenaaGreatDoor
end

noncomputable section
namespace Go.E
open Go Go.Sort Go.Proofs Go.Shelf
theorem Reach.grown{w w':World}{σ:aj}{H:List Res}(h:Reach w [] (λ_=>none) σ w' H): ∃q os',w'=grow (w.drewN q) os':=by
  refine ⟨w'.drawn - w.drawn,w'.heap.extract w.heap.size w'.heap.size,?_⟩
  have h1:w'.heap=w.heap++w'.heap.extract w.heap.size w'.heap.size:=by
    apply Array.ext_getElem?
    intro i
    rw [Array.getElem?_append]
    split
    · rename_i hi;exact h.frame i hi (by simp)
    rename_i hi
    by_cases hl:i<w'.heap.size
    · rw [Array.getElem?_extract_of_lt (by omega)];simp only [show w.heap.size+(i - w.heap.size)=i by omega];exact Array.getElem?_eq_getElem hl
    rw [Array.getElem?_eq_none (by omega),Array.getElem?_eq_none (by simp;omega)]
  have h2:=h.drawn
  cases w' with
  |mk heap tape drawn os output=>
    have e1:=h.os;have e2:=h.tape;have e3:=h.output
    simp only at h1 h2 e1 e2 e3
    simp only [grow,World.drewN]
    rw [World.mk.injEq]
    exact ⟨h1,e2,by omega,e1,e3⟩
theorem r0_(w:World):Reach w [] (λ_=>none) (λ_=>none) w []:=
  ⟨rfl,rfl,rfl,Nat.le_refl _,λ_ _ _=>rfl,aj.le.refl _,(λ_ _ h=>by cases h),(λ_ _ h=>by cases h),by simp,by simp,by simp [iJ],by simp,Nat.le_refl _⟩
section
variable {α:Type} [Inhabited α] {P:Program}
theorem tk_{g:Nat}{enc:α->Value}{cf:α->α->Int}{blk off size:Nat}{w:World}(h: ∀x y τ,Con P g #[enc x,enc y] τ [] (jQ (.int .i64 (cf x y)) τ)):CmpLays1 P g #[] enc cf blk off size w:=by
  intro m os dk _ x y
  refine (h x y (λ_=>none) _ (r0_ _)).mono λe w' ⟨r,σ',H',he,⟨hr,_,_⟩,k⟩=>⟨by rw [he,hr],Reach.grown k⟩
theorem uu_{g k:Nat}{enc:α->List Value}{cf:α->α->Int}{blk off size:Nat}{w:World}(h: ∀x y τ,Con P g #[.agg (enc x).toArray,.agg (enc y).toArray] τ [] (jQ (.int .i64 (cf x y)) τ)):CmpLays P g #[] enc k cf blk off size w:=by
  intro m os dk _ x y
  refine (h x y (λ_=>none) _ (r0_ _)).mono λe w' ⟨r,σ',H',he,⟨hr,_,_⟩,k⟩=>⟨by rw [he,hr],Reach.grown k⟩
end
theorem getBang{α:Type}[Inhabited α](l:List α)(i:Nat)(h:i<l.length):l.toArray[i]! =l[i]:=by simp [h]
theorem Reach.sorted{w0:World}{C:List Nat}{σ0 σ:aj}{w:World}{F:List Res}{E size n cap g m:Nat}{xs xs':List Value}{os:Array Obj}(h:Reach w0 C σ0 σ w (Res.row E size (.slice (some ⟨g,0,none⟩) n cap) n xs::F))(hl:xs'.length=xs.length)(h1: ∀u∈xs',u.oneCell'=true):
    Reach w0 C σ0 σ (grow (putRow (id:Value->Value) (Sort.ahead w m) g 0 xs'.toArray) os) (Res.row E size (.slice (some ⟨g,0,none⟩) n cap) n xs'::F):=by
  obtain ⟨hown,hone,hbg⟩:=h.holds _ (jm ..)
  obtain ⟨hlen,hc⟩:=hown
  rcases hc with ⟨hc,_⟩|⟨g',cap',cur,hv,hb0,hg,h3,h4,h5,h6⟩
  · cases hc
  cases hv
  have hgl:g<w.heap.size:=(Array.getElem?_eq_some_iff.1 hg).1
  have hnew:(grow (putRow (id:Value->Value) (Sort.ahead w m) g 0 xs'.toArray) os).heap[g]? =some (.cells (putCells (id:Value->Value) 0 xs'.toArray cur) E):=by
    rw [heap_grow_old _ _ (by simpa using hgl)]
    simp [putRow,mapBlock,Sort.ahead,Array.getElem?_modify,hg,onCells]
  have hold: ∀k,k<w.heap.size->k≠g->(grow (putRow (id:Value->Value) (Sort.ahead w m) g 0 xs'.toArray) os).heap[k]? =w.heap[k]? :=by
    intro k hk hne
    rw [heap_grow_old _ _ (by simpa using hk)]
    have:g≠k:=λe=>hne e.symm
    simp [putRow,mapBlock,Sort.ahead,Array.getElem?_modify,this]
  have hcur:xs.length<=cur.size:=by
    have:=congrArg List.length h6
    simp at this;omega
  refine h.G9 (some g) (some g) rfl rfl rfl rfl rfl (by simp [grow]) (by simp [grow,putRow,mapBlock,Sort.ahead]) (λk hk hne=>hold k hk λe=>hne (by rw [e])) ⟨⟨by rw [hl];exact hlen,.inr ⟨g,cap,_,rfl,hb0,hnew,h3,h4,by simp [putCells,h5],?_⟩⟩,h1,hbg⟩ (λb hb=> .inl hb)
  apply List.ext_getElem?
  intro i
  by_cases hi:i<n * size
  · have hi2:i<xs'.length:=by rw [hl,hlen];exact hi
    rw [List.getElem?_take_of_lt hi,Array.getElem?_toList]
    simp [putCells,hi2,show i<cur.size by omega]
  rw [List.getElem?_take_eq_none (by omega),List.getElem?_eq_none (by omega)]
theorem holds_row{w:World}{E size n cap g:Nat}{xs:List Value}(h:w.ownsRow 0 E size (.slice (some ⟨g,0,none⟩) n cap) n xs):Holds (id:Value->Value) w g 0 xs.toArray/\g<w.heap.size:=by
  obtain ⟨hlen,hc⟩:=h
  rcases hc with ⟨hc,_⟩|⟨g',cap',cur,hv,hb0,hg,h3,h4,h5,h6⟩
  · cases hc
  cases hv
  refine ⟨λj hj=> ?_,(Array.getElem?_eq_some_iff.1 hg).1⟩
  have hj':j<xs.length:=by simpa using hj
  refine ⟨?_,by simp [World.frozen?,hg]⟩
  have h7:(cur.toList.take (n * size))[j]? =xs[j]? :=by rw [h6]
  rw [List.getElem?_take_of_lt (by omega)]at h7
  simp only [World.cell?,hg,Nat.zero_add,Option.isSome_none,Bool.false_eq_true,if_false]
  rw [<-Array.getElem?_toList,h7]
  simp [hj']
theorem w9_{α:Type}[Inhabited α](enc:α->Value)(w:World)(g:Nat)(l:List α):putRow enc w g 0 l.toArray=putRow (id:Value->Value) w g 0 (l.map enc).toArray:=by
  unfold putRow
  congr 1
  funext c
  unfold putCells
  apply Array.ext_getElem?
  intro i
  simp only [Array.getElem?_mapIdx]
  cases hc:c[i]? with
  |none=>rfl
  |some v=>
    simp only [Option.map_some,Nat.zero_le,true_and,Nat.zero_add,Nat.sub_zero,List.size_toArray,List.length_map]
    split
    · rename_i hi;simp [hi]
    rfl
theorem o7_ {α : Type} [Inhabited α] {enc : α -> List Value} {k : Nat} (hk : ∀ x, (enc x).length = k) (l : List α) : flatK enc k l.toArray = (l.flatMap enc).toArray := by
  have hl:(l.flatMap enc).length=l.length * k:=um hk l
  refine ext_get! (by simp [hl]) λt ht=> ?_
  have ht':t<l.length * k:=by simpa using ht
  have k0 : 0 < k := by rcases Nat.eq_zero_or_pos k with h | h
                        · subst h;simp at ht'
                        exact h
  have hd:t / k<l.length:=Nat.div_lt_of_lt_mul (by rw [Nat.mul_comm];exact ht')
  have hm:t % k<k:=Nat.mod_lt _ k0
  rw [get_flatK _ _ _ _ (by simpa using ht'),getBang l _ hd]
  have h2:=YM hk l (t / k) (t % k) l[t / k] (List.getElem?_eq_getElem hd) hm
  rw [Nat.div_add_mod' t k]at h2
  have hb:t<(l.flatMap enc).toArray.size:=by simpa [hl]using ht'
  have h3:(l.flatMap enc).toArray[t]! =(enc l[t / k])[t % k]! :=by
    rw [getElem!_pos (l.flatMap enc).toArray t hb]
    have h4:(l.flatMap enc)[t]? =some ((l.flatMap enc).toArray[t]'hb):=by rw [<-List.getElem?_toArray];exact Array.getElem?_eq_getElem hb
    rw [h2]at h4
    have hlt:t % k<(enc l[t / k]).length:=by rw [hk];exact hm
    rw [List.getElem?_eq_getElem hlt,Option.some.injEq]at h4
    rw [getElem!_pos (enc l[t / k]) (t % k) hlt,h4]
  rw [h3]
def sF{α:Type}(cf:α->α->Int)(l:List α):List α:=l.mergeSort λx y=> !decide (cf y x<0)
def xt_{α:Type}(E size:Nat)(enc:α->List Value)(a:Option Addr)(c:Nat)(l l':List α)(σ:aj):Value->aj->List Res->Prop:=λv σ' H'=>v= .tuple #[]/\σ=σ'/\H'=[φ E size enc (.slice a l.length c) l']
structure TotalCmp {α:Type} (cf:α->α->Int):Prop where
  swo:SWO (ltOf cf)
  tot: ∀x y,ltOf cf x y=false->ltOf cf y x=false->x=y
section
variable {α:Type} [Inhabited α] {P:Program} {ρ:Ren}
theorem Con.sort1(L:SlLaysF.n6 P ρ)(L0:SlLaysF0.n6 P ρ){enc:α->Value}{encL:α->List Value}{cf:α->α->Int}{f g E c:Nat}{a:Option Addr}{l:List α}{σ:aj}(hf:ρ.f 6=f)(he: ∀x,encL x=[enc x])(h1:OneCell enc)(hO:TotalCmp cf)
    (eg: ∀args w,(callFunc g args).run P w= .ok (.enter g args) w) (hc: ∀x y τ,Con P g #[enc x,enc y] τ [] (jQ (.int .i64 (cf x y)) τ)):
    Con P f #[.slice a l.length c,.func (.func g) #[] #[]] σ [φ E 1 encL (.slice a l.length c) l] (xt_ E 1 encL a c l (sF cf l) σ):=by
  subst hf
  have hflat: ∀l:List α,l.flatMap encL=l.map enc:=λl=>by
    induction l with
    |nil=>rfl
    |cons x l ih=>rw [List.flatMap_cons,ih,he];rfl
  have hlen:(sF cf l).length=l.length:=List.length_mergeSort _
  intro w hw
  obtain ⟨hown,hone,hbg⟩:=hw.holds _ (jm ..)
  have hsl:=isSl_row hown
  rcases id hown.2 with ⟨hn,hm⟩|⟨g',cap',cur,hv,hb0,hg,h3,h4,h5,h6⟩
  · have hl0:l=[]:=o7 hm
    subst hl0
    refine (AnyF.slices_SortFunc_none L0 a c (.func (.func g) #[] #[]) w).mono λe w' ⟨h1,h2⟩=>⟨_,σ,_,h1,⟨rfl,rfl,rfl⟩,?_⟩
    subst h2
    rw [show sF cf ([]:List α)=[]from by simp [sF]]
    exact hw
  cases hv
  have hH:=holds_row hown
  rw [hflat]at hH
  have hHe:Holds enc w g' 0 l.toArray:=λj hj=>by
    have:=hH.1 j (by simpa using hj)
    have hj':j<l.length:=by simpa using hj
    simpa [hj']using this
  have hsz:l.toArray.size<4611686018427387904:=by simp;omega
  have:=Any.slices_SortFunc_total L enc h1 cf hO.swo g #[] g' 0 c l.toArray w eg (tk_ hc) hHe hH.2 hsz hO.tot
  refine this.mono λe w' ⟨h7,n,os,h8⟩=>⟨_,σ,_,h7,⟨rfl,rfl,rfl⟩,?_⟩
  subst h8
  have h9:(l.toArray.toList.mergeSort λx y=> !(ltOf cf) y x)=sF cf l:=rfl
  rw [h9]
  unfold sortWorld
  rw [w9_]
  have:=Reach.sorted (h:=hw) (m:=n) (os:=os) (xs':=(sF cf l).map enc) (by rw [hflat,List.length_map,List.length_map,hlen]) (λu hu=>by
    obtain ⟨x,_,rfl⟩:=List.mem_map.1 hu
    exact h1 x)
  unfold φ
  rw [hflat (sF cf l),hlen]
  exact this
theorem Con.sortK(L:SlLaysF0.n6 P ρ){k:Nat}{enc:α->List Value}{cf:α->α->Int}{f g E c:Nat}{a:Option Addr}{l:List α}{σ:aj}(hf:ρ.f 6=f)(aE: ∀w,(isAgg (ρ.t 24)).run P w= .ok true w)(zE: ∀w,(Go.sizeOf (ρ.t 24)).run P w= .ok k w)(hk: ∀x,(enc x).length=k)(h1: ∀x, ∀u∈enc x,u.oneCell'=true)(hO:TotalCmp cf)
    (eg: ∀args w,(callFunc g args).run P w= .ok (.enter g args) w) (hc: ∀x y τ,Con P g #[.agg (enc x).toArray,.agg (enc y).toArray] τ [] (jQ (.int .i64 (cf x y)) τ)):
    Con P f #[.slice a l.length c,.func (.func g) #[] #[]] σ [φ E k enc (.slice a l.length c) l] (xt_ E k enc a c l (sF cf l) σ):=by
  subst hf
  have hlen:(sF cf l).length=l.length:=List.length_mergeSort _
  intro w hw
  obtain ⟨hown,hone,hbg⟩:=hw.holds _ (jm ..)
  rcases id hown.2 with ⟨hn,hm⟩|⟨g',cap',cur,hv,hb0,hg,h3,h4,h5,h6⟩
  · have hl0:l=[]:=o7 hm
    subst hl0
    refine (AnyF.slices_SortFunc_none L a c (.func (.func g) #[] #[]) w).mono λe w' ⟨h1,h2⟩=>⟨_,σ,_,h1,⟨rfl,rfl,rfl⟩,?_⟩
    subst h2
    rw [show sF cf ([]:List α)=[]from by simp [sF]]
    exact hw
  cases hv
  have hH:=holds_row hown
  have hHe:HoldsK enc k w g' 0 l.toArray:=by
    unfold HoldsK;rw [o7_ hk];exact hH.1
  have hsz:l.toArray.size<4611686018427387904:=by simp;omega
  have:=AnyQ.slices_SortFunc_total L k aE zE enc hk h1 cf hO.swo g #[] g' 0 c l.toArray w eg (uu_ hc) hHe hH.2 hsz hO.tot
  refine this.mono λe w' ⟨h7,n,os,h8⟩=>⟨_,σ,_,h7,⟨rfl,rfl,rfl⟩,?_⟩
  subst h8
  have h9:(l.toArray.toList.mergeSort λx y=> !(ltOf cf) y x)=sF cf l:=rfl
  rw [h9]
  unfold sortWorldK putRowK
  rw [o7_ hk]
  have:=Reach.sorted (h:=hw) (m:=n) (os:=os) (xs':=(sF cf l).flatMap enc) (by rw [um hk,um hk,hlen]) (λu hu=>by
    obtain ⟨x,_,hx⟩:=List.mem_flatMap.1 hu
    exact h1 x u hx)
  unfold φ
  rw [hlen]
  exact this
end
end Go.E
end

noncomputable section
namespace Go.E
open Go
section
variable {S R:Type} {step:S->Option (S⊕R)}
theorem yp_ {y no : R} (f : Nat -> S) (p : Nat -> Bool) (n : Nat) (hs : ∀ k, k < n -> p k = false -> step (f k) = some (.inl (f (k + 1)))) (hy : ∀ k, k < n -> p k = true -> step (f k) = some (.inr y))
    (hd:step (f n)=some (.inr no)): ∀k,k<=n->bC step (f k)=some (bif (List.range n).any (λi=>decide (k<=i) && p i) then y else no):=by
  intro k hk
  obtain ⟨m,rfl⟩: ∃m,k=n - m:=⟨n - k,by omega⟩
  induction m with
  |zero=>
    have:(List.range n).any (λi=>decide (n - 0<=i) && p i)=false:=by
      rw [List.any_eq_false];intro i hi;have:=List.mem_range.1 hi;simp;omega
    rw [this];exact zD hd
  |succ m ih=>
    by_cases h:m<n
    · have e:n - (m+1)+1=n - m:=by omega
      cases hp:p (n - (m+1))with
      |true=>
        have:(List.range n).any (λi=>decide (n - (m+1)<=i) && p i)=true:=by
          rw [List.any_eq_true];exact ⟨n - (m+1),List.mem_range.2 (by omega),by simp [hp]⟩
        rw [this];exact zD (hy _ (by omega) hp)
      |false=>
        have h1:=hs (n - (m+1)) (by omega) hp
        rw [e]at h1
        have:(List.range n).any (λi=>decide (n - (m+1)<=i) && p i)=(List.range n).any (λi=>decide (n - m<=i) && p i):=by
          rw [Bool.eq_iff_iff,List.any_eq_true,List.any_eq_true]
          constructor
          · rintro ⟨i,hi,hx⟩
            simp only [Bool.and_eq_true,jV]at hx
            refine ⟨i,hi,?_⟩
            have:i≠n - (m+1):=λh=>by rw [h,hp]at hx;exact absurd hx.2 Bool.false_ne_true
            simp [hx.2];omega
          rintro ⟨i,hi,hx⟩
          simp only [Bool.and_eq_true,jV]at hx
          exact ⟨i,hi,by simp [hx.2];omega⟩
        rw [this]
        exact II h1 (ih (by omega))
    have e:n - (m+1)=n - m:=by omega
    rw [e];exact ih (by omega)
theorem rd_{y no:R}(f:Nat->S)(p:Nat->Bool)(n:Nat)(hs: ∀k,k<n->p k=false->step (f k)=some (.inl (f (k+1))))(hy: ∀k,k<n->p k=true->step (f k)=some (.inr y))
    (hd:step (f n)=some (.inr no)):bC step (f 0)=some (bif (List.range n).any p then y else no):=by
  have:=yp_ f p n hs hy hd 0 (by omega)
  simpa using this
theorem ry_{r:R}(f:Nat->S)(n:Nat)(hs: ∀k,k<n->step (f k)=some (.inl (f (k+1))))(hd:step (f n)=some (.inr r)):bC step (f 0)=some r:=yw_ f n hs hd 0 (by omega)
end
theorem wi_{α:Type}(l:List α)(d:α)(p:α->Bool):(List.range l.length).any (λi=>p (nth l i d))=l.any p:=by
  rw [Bool.eq_iff_iff,List.any_eq_true,List.any_eq_true]
  constructor
  · rintro ⟨i,hi,h⟩
    have hi:=List.mem_range.1 hi
    exact ⟨nth l i d,List.mem_of_getElem? (getD_some l hi d),h⟩
  rintro ⟨x,hx,h⟩
  obtain ⟨i,hi,rfl⟩:=List.getElem_of_mem hx
  refine ⟨i,List.mem_range.2 hi,?_⟩
  have:nth l i d=l[i]:=by have:=getD_some l hi d;rw [List.getElem?_eq_getElem hi]at this;exact (Option.some.inj this).symm
  rw [this];exact h
theorem yH{α:Type}(l:List α){k:Nat}(h:k<l.length)(d:α):l.take (k+1)=l.take k++[nth l k d]:=by
  rw [List.take_add_one,getD_some l h d];rfl
end Go.E
end

noncomputable section
namespace Go.Proofs.YtchebnpdnfhenaaGreatDoor
open Go Go.E Go.Sort
structure GoodCmp {α:Type} (c:α->α->Int):Prop where
  eq: ∀x y,c x y=0↔x=y
  anti: ∀x y,c x y<0↔0<c y x
  trans: ∀x y z,c x y<0->c y z<0->c x z<0
theorem GoodCmp.total{α:Type}{c:α->α->Int}(h:GoodCmp c):TotalCmp c where
  swo := {
    irrefl:=λx=>by have:=(h.eq x x).2 rfl;simp [ltOf,this]
    trans:=λx y z h1 h2=>by
      simp only [ltOf,jV]at *
      exact h.trans x y z h1 h2
    ntrans:=λx y z h1 h2=>by
      simp only [ltOf,decide_eq_false_iff_not]at *
      intro h3
      by_cases e1:x=y
      · subst e1;exact h2 h3
      by_cases e2:y=z
      · subst e2;exact h1 h3
      have n1:c x y≠0:=λe=>e1 ((h.eq _ _).1 e)
      have n2:c y z≠0:=λe=>e2 ((h.eq _ _).1 e)
      have h4:c z y<0:=(h.anti _ _).2 (by omega)
      exact h1 (h.trans _ _ _ h3 h4)}
  tot:=λx y h1 h2=>by
    simp only [ltOf,decide_eq_false_iff_not]at *
    refine (h.eq x y).1 ?_
    have:=(h.anti y x)
    omega
def qU(a b:Int):Int:=if a≠0 then a else b
theorem GoodCmp.lex {α β γ : Type} {c : β -> β -> Int} {d : γ -> γ -> Int} (hc : GoodCmp c) (hd : GoodCmp d) (f : α -> β) (g : α -> γ) (hfg : ∀ x y, f x = f y -> g x = g y -> x = y) : GoodCmp λx y => qU (c (f x) (f y)) (d (g x) (g y)) where
  eq x y:=by
    unfold qU
    by_cases h:c (f x) (f y)=0
    · have hf:=(hc.eq _ _).1 h
      simp only [h,ne_eq,not_true_eq_false,if_false,hd.eq]
      exact ⟨λhg=>hfg x y hf hg,λe=>by rw [e]⟩
    simp only [ne_eq,h,not_false_eq_true,if_true,false_iff]
    intro e;subst e;exact h ((hc.eq _ _).2 rfl)
  anti x y:=by
    unfold qU
    have h1:=hc.anti (f x) (f y)
    have h2:=hc.anti (f y) (f x)
    have h3:=hd.anti (g x) (g y)
    by_cases h:c (f x) (f y)=0
    · have hf:=(hc.eq _ _).1 h
      have h':c (f y) (f x)=0:=(hc.eq _ _).2 hf.symm
      simp only [h,h',ne_eq,not_true_eq_false,if_false];exact h3
    have h':c (f y) (f x)≠0:=λe=>h ((hc.eq _ _).2 ((hc.eq _ _).1 e).symm)
    simp only [h,h',ne_eq,not_false_eq_true,if_true];exact h1
  trans x y z := by
    unfold qU
    intro h1 h2
    by_cases a:c (f x) (f y)=0
    · have ea:=(hc.eq _ _).1 a
      rw [a]at h1;simp only [ne_eq,not_true_eq_false,if_false]at h1
      rw [ea]
      by_cases b:c (f y) (f z)=0
      · rw [b]at h2 ⊢
        simp only [ne_eq,not_true_eq_false,if_false]at h2 ⊢
        exact hd.trans _ _ _ h1 h2
      simp only [ne_eq,b,not_false_eq_true,if_true]at h2 ⊢;exact h2
    simp only [ne_eq,a,not_false_eq_true,if_true]at h1
    by_cases b:c (f y) (f z)=0
    · have eb:=(hc.eq _ _).1 b
      rw [<-eb]
      simp only [ne_eq,a,not_false_eq_true,if_true];exact h1
    simp only [ne_eq,b,not_false_eq_true,if_true]at h2
    have h3:=hc.trans _ _ _ h1 h2
    have h4:c (f x) (f z)≠0:=by omega
    simp only [ne_eq,h4,not_false_eq_true,if_true];exact h3
def FD(x y:Int):Int:=if x<y then -1 else if y<x then 1 else 0
theorem nn_:GoodCmp FD where
  eq x y:=by unfold FD;(repeat' split)<;>omega
  anti x y:=by unfold FD;(repeat' split)<;>omega
  trans x y z:=by unfold FD;(repeat' split)<;>omega
def yF(x y:Nat):Int:=if x<y then -1 else if y<x then 1 else 0
theorem kn_:GoodCmp yF where
  eq x y:=by unfold yF;(repeat' split)<;>omega
  anti x y:=by unfold yF;(repeat' split)<;>omega
  trans x y z:=by unfold yF;(repeat' split)<;>omega
theorem xk_: ∀a b:T_1,Lib.compareBytes a b=0↔a=b
  |[],[]=>by simp [Lib.compareBytes]
  |[],_::_=>by simp [Lib.compareBytes]
  |_::_,[]=>by simp [Lib.compareBytes]
  |x::a,y::b=>by
    simp only [Lib.compareBytes]
    split
    · rename_i h;simp;intro e;subst e;exact absurd h (UInt8.lt_irrefl _)
    rename_i h
    split
    · rename_i h';simp;intro e;subst e;exact absurd h' (UInt8.lt_irrefl _)
    rename_i h'
    have:x=y:=UInt8.le_antisymm (UInt8.not_lt.1 h') (UInt8.not_lt.1 h)
    subst this
    simp [xk_ a b]
theorem rt_: ∀a b:T_1,Lib.compareBytes a b<0↔0<Lib.compareBytes b a
  |[],[]=>by simp [Lib.compareBytes]
  |[],_::_=>by simp [Lib.compareBytes]
  |_::_,[]=>by simp [Lib.compareBytes]
  | x :: a, y :: b => by
    simp only [Lib.compareBytes]
    by_cases h:x<y
    · have h': ¬ y<x:=λh2=>UInt8.lt_irrefl _ (UInt8.lt_trans h h2)
      simp [h,h']
    by_cases h':y<x
    · simp [h,h']
    simp [h,h',rt_ a b]
theorem pj_: ∀a b c:T_1,Lib.compareBytes a b<0->Lib.compareBytes b c<0->Lib.compareBytes a c<0
  |[],[],c,h,_=>by simp [Lib.compareBytes]at h
  |[],_::_,[],_,h=>by simp [Lib.compareBytes]at h
  |[],_::_,_::_,_,_=>by simp [Lib.compareBytes]
  |_::_,[],c,h,_=>by simp [Lib.compareBytes]at h
  |_::_,_::_,[],_,h=>by simp [Lib.compareBytes]at h
  | x :: a, y :: b, z :: c, h1, h2 => by
    simp only [Lib.compareBytes]at *
    by_cases hxy:x<y
    · by_cases hyz:y<z
      · have:=UInt8.lt_trans hxy hyz;simp [this]
      by_cases hzy:z<y
      · simp [hyz,hzy]at h2
      have:y=z:=UInt8.le_antisymm (UInt8.not_lt.1 hzy) (UInt8.not_lt.1 hyz)
      subst this;simp [hxy]
    by_cases hyx:y<x
    · simp [hxy,hyx]at h1
    have:x=y:=UInt8.le_antisymm (UInt8.not_lt.1 hyx) (UInt8.not_lt.1 hxy)
    subst this
    simp only [UInt8.lt_irrefl,if_false]at h1
    by_cases hyz:x<z
    · simp [hyz]
    by_cases hzy:z<x
    · simp [hyz,hzy]at h2
    simp only [hyz,hzy,if_false]at h2 ⊢
    exact pj_ a b c h1 h2
theorem k3_:GoodCmp Lib.compareBytes:=⟨xk_,rt_,pj_⟩
def tg_(x y:Bool):Int:=FD (if x then 1 else 0) (if y then 1 else 0)
theorem rk_:GoodCmp tg_ where
  eq x y:=by cases x<;>cases y<;>decide
  anti x y:=by cases x<;>cases y<;>decide
  trans x y z:=by cases x<;>cases y<;>cases z<;>decide
theorem Ws{k n:Nat}(h:k<n):decide (((k:Nat):Int)<((n:Nat):Int))=true:=decide_eq_true (by omega)
theorem D6_(x y:Int):Qq x y=some (FD x y):=by
  unfold Qq F1_ FD
  simp only [bnd,Option.bind_some,ne_eq,not_true_eq_false,decide_false,iteO_false]
  by_cases h:x<y
  · simp [h]
  by_cases h':y<x<;>simp [h,h']
theorem og_(x y:Nat):kf_ x y=some (yF x y):=by
  unfold kf_ q2_ yF
  simp only [bnd,Option.bind_some,ne_eq,not_true_eq_false,decide_false,iteO_false]
  by_cases h:x<y
  · simp [h]
  by_cases h':y<x<;>simp [h,h']
theorem F4_(x y:T_1):D1_ x y=some (Lib.compareBytes x y):=rfl
def orL:ak->Int
  |[]=>0
  |a::l=>qU a (orL l)
theorem Ir_(l:ak): ∀m k,l.length=k+m->bC (λq:Nat=>Vg l q) k=some (orL (l.drop k)):=by
  intro m
  induction m with
  |zero=>
    intro k hk
    refine zD ?_
    rw [List.drop_of_length_le (by omega)]
    simp only [Vg,decide_eq_false (show ¬ ((k:Nat):Int)<((l.length:Nat):Int) by omega),iteO_false];rfl
  |succ m ih=>
    intro k hk
    have hlt:k<l.length:=by omega
    have hd:l.drop k=nth l k 0::l.drop (k+1):=by
      rw [List.drop_eq_getElem_cons hlt]
      have:=getD_some l hlt 0
      rw [List.getElem?_eq_getElem hlt,Option.some.injEq]at this
      rw [this]
    rw [hd,orL,qU]
    by_cases h:nth l k 0≠0
    · rw [if_pos h]
      refine zD ?_
      simp only [Vg,decide_eq_true (show ((k:Nat):Int)<((l.length:Nat):Int) by omega),iteO_true,decide_eq_true h];rfl
    rw [if_neg h]
    refine II (s':=k+1) ?_ (ih (k+1) (by omega))
    simp only [Vg,decide_eq_true (show ((k:Nat):Int)<((l.length:Nat):Int) by omega),iteO_true,decide_eq_false h];rfl
theorem Hl_(l:ak):Zw l=some (orL l):=by
  unfold Zw;rw [Ir_ l l.length 0 (by omega),List.drop_zero]
def nI(x y:Tip):Int:=qU (FD x.state y.state) (qU (Lib.compareBytes x.out y.out) 0)
theorem oq_(x y:Tip):Es_ x y=some (nI x y):=by
  unfold Es_
  rw [yR (D6_ _ _),yR (F4_ _ _),yR (Hl_ _)];rfl
theorem nh_(a:Int):qU a 0=a:=by unfold qU;split<;>omega
theorem PN:GoodCmp nI:=by
  have:=GoodCmp.lex nn_ k3_ Tip.state Tip.out (λx y h1 h2=>by cases x;cases y;simp_all)
  have e:nI=λx y=>qU (FD x.state y.state) (Lib.compareBytes x.out y.out):=by
    funext x y;unfold nI;rw [nh_]
  rw [e];exact this
def wm_(s t:BSet):Int:=qU (yF s.a t.a) (qU (yF s.b t.b) (qU (yF s.c t.c) (yF s.d t.d)))
theorem ox_(a b c d a' b' c' d':Nat):kp_ [a,b,c,d] [a',b',c',d']=some (qU (yF a a') (qU (yF b b') (qU (yF c c') (yF d d')))):=by
  have st: ∀(k x y:Nat),k<4->nth [a,b,c,d] k 0=x->nth [a',b',c',d'] k 0=y->(yF x y≠0->bC (λq:Nat=>Ib [a,b,c,d] [a',b',c',d'] q) k=some (yF x y))/\(∀r,yF x y=0->bC (λq:Nat=>Ib [a,b,c,d] [a',b',c',d'] q) (k+1)=some r->bC (λq:Nat=>Ib [a,b,c,d] [a',b',c',d'] q) k=some r):=by
    intro k x y hk hx hy
    have e1:((k:Nat):Int)<(([a,b,c,d].length:Nat):Int):=by simp;omega
    have e2: ¬ (([a',b',c',d'].length:Nat):Int)<=((k:Nat):Int):=by simp;omega
    refine ⟨λh=>zD ?_,λr h hr=>II (s':=k+1) ?_ hr⟩
    · simp only [Ib,decide_eq_true e1,iteO_true,decide_eq_false e2,iteO_false]
      rw [aF (by simp;omega),hx,hy,yR (og_ _ _),decide_eq_true h];rfl
    simp only [Ib,decide_eq_true e1,iteO_true,decide_eq_false e2,iteO_false]
    rw [aF (by simp;omega),hx,hy,yR (og_ _ _),h];rfl
  have fi:bC (λq:Nat=>Ib [a,b,c,d] [a',b',c',d'] q) 4=some 0:=zD (by simp [Ib])
  have go: ∀(k x y:Nat) (r:Int),k<4->nth [a,b,c,d] k 0=x->nth [a',b',c',d'] k 0=y->bC (λq:Nat=>Ib [a,b,c,d] [a',b',c',d'] q) (k+1)=some r->bC (λq:Nat=>Ib [a,b,c,d] [a',b',c',d'] q) k=some (qU (yF x y) r):=by
    intro k x y r hk hx hy hr
    obtain ⟨h1,h2⟩:=st k x y hk hx hy
    by_cases h:yF x y=0
    · rw [show qU (yF x y) r=r from by simp [qU,h]];exact h2 r h hr
    rw [show qU (yF x y) r=yF x y from by simp [qU,h]];exact h1 h
  have h3:=go 3 d d' 0 (by omega) rfl rfl fi
  rw [nh_]at h3
  exact go 0 a a' _ (by omega) rfl rfl (go 1 b b' _ (by omega) rfl rfl (go 2 c c' _ (by omega) rfl rfl h3))
theorem so_:GoodCmp wm_:=by
  have h1:=GoodCmp.lex (α:=Nat×Nat) kn_ kn_ Prod.fst Prod.snd (λx y h1 h2=>Prod.ext h1 h2)
  have h2:=GoodCmp.lex (α:=Nat×Nat×Nat) kn_ h1 Prod.fst Prod.snd (λx y h1 h2=>Prod.ext h1 h2)
  have h3:=GoodCmp.lex (α:=BSet) kn_ h2 BSet.a (λs=>(s.b,s.c,s.d)) (λx y h1 h2=>by
    cases x;cases y;simp_all)
  exact h3
def Nq(x y:Arc):Int:=qU (FD x.frm y.frm) (qU (FD x.to y.to) (qU (wm_ x.set y.set) (qU (Lib.compareBytes x.out y.out) (qU (tg_ x.copy y.copy) 0))))
theorem Hb_(b:Bool):Fm_ b=some (if b then 1 else 0):=by cases b<;>rfl
theorem o1_(x y:Arc):Eq_ x y=some (Nq x y):=by
  unfold Eq_
  rw [yR (D6_ _ _),yR (D6_ _ _),yR (ox_ ..),yR (F4_ _ _),yR (Hb_ _),yR (Hb_ _),yR (D6_ _ _),yR (Hl_ _)];rfl
theorem nt_:GoodCmp Nq:=by
  have h1:=GoodCmp.lex (α:=T_1×Bool) k3_ rk_ Prod.fst Prod.snd (λx y h1 h2=>Prod.ext h1 h2)
  have h2:=GoodCmp.lex (α:=BSet×T_1×Bool) so_ h1 Prod.fst Prod.snd (λx y h1 h2=>Prod.ext h1 h2)
  have h3:=GoodCmp.lex (α:=Int×BSet×T_1×Bool) nn_ h2 Prod.fst Prod.snd (λx y h1 h2=>Prod.ext h1 h2)
  have h4:=GoodCmp.lex (α:=Arc) nn_ h3 Arc.frm (λs=>(s.to,s.set,s.out,s.copy)) (λx y h1 h2=>by
    cases x;cases y;simp_all)
  have e:Nq=λx y=>qU (FD x.frm y.frm) (qU (FD x.to y.to) (qU (wm_ x.set y.set) (qU (Lib.compareBytes x.out y.out) (tg_ x.copy y.copy)))):=by
    funext x y;unfold Nq;rw [nh_]
  rw [e];exact h4
end Go.Proofs.YtchebnpdnfhenaaGreatDoor
end

noncomputable section
namespace Go.Proofs.YtchebnpdnfhenaaGreatDoor
open Go Go.E
instance:Inhabited Tip:=⟨aK⟩
instance:Inhabited Arc:=⟨bg⟩
theorem I4_{σ:aj}{a:Option Addr}{c:Nat}{l:List Tip}:Con Tryz.prog 124 #[.slice a l.length c,.func (.func 96) #[] #[]] σ [φ 76 2 dJ (.slice a l.length c) l] (xt_ 76 2 dJ a c l (sF nI l) σ):=
  Con.sortK (k:=2) layT0 rfl Tryz.isAgg76 Tryz.sizeOf76 g_ PL PN.total (λargs w=>U_ (by kernel_rfl) args w) (λx y τ=>Hf_ (oq_ x y))
theorem I2_{σ:aj}{a:Option Addr}{c:Nat}{l:List Arc}:Con Tryz.prog 137 #[.slice a l.length c,.func (.func 98) #[] #[]] σ [φ 66 8 kF (.slice a l.length c) l] (xt_ 66 8 kF a c l (sF Nq l) σ):=
  Con.sortK (k:=8) layA0 rfl Tryz.isAgg66 Tryz.sizeOf66 wB YN nt_.total (λargs w=>U_ (by kernel_rfl) args w) (λx y τ=>He_ (o1_ x y))
end Go.Proofs.YtchebnpdnfhenaaGreatDoor
end

noncomputable section
namespace Go.E
open Go
section
variable {β:Type} {E' E size:Nat} {enc:β->List Value} {v:Value}
theorem vn_{σ:aj}{H:List Res}{q i:Nat}{z:List (NP β)}(hq:H[q]? =some (Res.ct_ E' E size enc v z i))(w:World)(h:jR σ H w):jR σ [φ E' 1 pG v z] w:=
  ⟨h.1,λr hr=>by
    simp at hr;subst hr
    exact h.2 _ (List.mem_of_getElem? hq) _ (jm ..)⟩
theorem Nz{σ:aj}{H:List Res}{q i:Nat}{z:List (NP β)}{l:List (List β)}(hq:H[q]? =some (Res.ct_ E' E size enc v z i))(hZ:Zn z l)(w:World)(h:jR σ H w):nb_ v l.length/\l.length<=281474976710656:=by
  have:=oj_ (H:=H) (vn_ hq w h)
  rw [hZ.len]at this;exact this
end
theorem TC.P6{X:Ctx}{Q:QP}{id:Nat}{ops:Array Oper}{e:Env}{σ:aj}{H Hr:List Res}(hs: ∀r∈Hr,r∈H)(late:List Nat)(hm:X.P.follows .mixedOrders=true)(h:TA X ops Q σ Hr late ops.size (Array.replicate ops.size false) e σ H)(hnd:qp_ ops=true:=by kernel_rfl):TC X Q (.region id ops true) e σ H:=λw a hw ha=>
  Go.wpIn_mono (wpIn_region_any hm (i0_ _ _ _ _ (h (pb_ hnd) w.drew a hw.drew (rX (aj.le.refl _) hs _ hw.drew.sees) (l9_ _ _) ha))) λex a w h=>by
    cases ex<;>first|exact h|exact h.elim
section
variable {P:Program} {n:Nat} {e:Env} {σ:aj} {H:List Res} {o:Oper} {x y:Operand} {T T':TypeId} {k:IntKind} {a b:Int}
end
theorem jg_: ∀l m:List UInt8,Op.bytesLess l m=decide (Lib.compareBytes l m<0)
  |[],[]=>by simp [Op.bytesLess,Lib.compareBytes]
  |_::_,[]=>by simp [Op.bytesLess,Lib.compareBytes]
  |[],_::_=>by simp [Op.bytesLess,Lib.compareBytes]
  | a :: x, b :: y => by
    simp only [Op.bytesLess,Lib.compareBytes,jg_ x y]
    by_cases h:a<b
    · simp [h]
    by_cases h':b<a
    · have: ¬ a=b:=λe=>by subst e;exact h h'
      simp [h,h',this]
    have:a=b:=UInt8.le_antisymm (UInt8.not_lt.1 h') (UInt8.not_lt.1 h)
    subst this
    simp [h]
theorem OpVal.lssBs{P:Program}{n:Nat}{e:Env}{σ:aj}{H:List Res}{o:Oper}{x y:Operand}{l m:List UInt8}{T T':TypeId}(ho:o.op= .binOp .lss T x y T')(hx:ev e x= .string (bs l))(hy:ev e y= .string (bs m)):OpVal P n o e σ H (.bool (decide (Lib.compareBytes l m<0))):=λw _=>by
  simp only [execOp,ho,hx,hy,Sem.run_bind,f7_,Result.andThen_ok,binOp,Op.stringOp,ByteArray.toList_eq,Z_,jg_,Sem.run_pure]
end Go.E
end

noncomputable section
namespace Go.Proofs.YtchebnpdnfhenaaGreatDoor
open Go Go.E Go.E.OpVal Go.E.OpOk Go.Proofs.Tryz
open List (replicate)
theorem IB:aggOf Tryz.prog 25=some true:=by kernel_rfl
theorem P5:byOf Tryz.prog 66=some 72:=by kernel_rfl
theorem PZ:byOf Tryz.prog 76=some 24:=by kernel_rfl
theorem eg66:Tryz.prog.eqGuardType Tryz.prog.depth 66=false:=by kernel_rfl
theorem eg76:Tryz.prog.eqGuardType Tryz.prog.depth 76=false:=by kernel_rfl
theorem es66(x y:Arc):Go.E.EqAt Tryz.prog 3 66 (.agg (kF x).toArray) (.agg (kF y).toArray) (decide (x=y)):=
 (EqAt.struct (ts:=[(false,3,0),(false,3,1),(false,64,2),(false,9,6),(false,4,7)]) (by kernel_rfl) (by kernel_rfl) (by kernel_rfl) (EqC.one (by kernel_rfl) rfl rfl (EqAt.int underlying3 x.frm y.frm |>.up (by decide)) (EqC.one (by kernel_rfl) rfl rfl (EqAt.int underlying3 x.to y.to |>.up (by decide)) (EqC.agg (s:=4) (us:=Go.E.setA x.set) (vs:=Go.E.setA y.set) (by kernel_rfl) (by kernel_rfl) rfl rfl (EqAt.set underlying64 underlying62 (by kernel_rfl) (by kernel_rfl) x.set y.set) (EqC.one (by kernel_rfl) rfl rfl (EqAt.str kK x.out y.out |>.up (by decide)) (EqC.one (by kernel_rfl) rfl rfl (EqAt.bool underlying4 x.copy y.copy |>.up (by decide)) EqC.nil)))))).of (by rw [Bool.eq_iff_iff];cases x;cases y;simp)
theorem es76(x y:Tip):Go.E.EqAt Tryz.prog 2 76 (.agg (dJ x).toArray) (.agg (dJ y).toArray) (decide (x=y)):=
 (EqAt.struct (ts:=[(false,3,0),(false,9,1)]) (by kernel_rfl) (by kernel_rfl) (by kernel_rfl) (EqC.one (by kernel_rfl) rfl rfl (EqAt.int underlying3 x.state y.state) (EqC.one (by kernel_rfl) rfl rfl (EqAt.str kK x.out y.out) EqC.nil))).of (by rw [Bool.eq_iff_iff];cases x;cases y;simp)
theorem SN:plainF Tryz.prog 124=true:=by kernel_rfl
theorem SL:plainF Tryz.prog 126=true:=by kernel_rfl
theorem pf136:plainF Tryz.prog 136=true:=by kernel_rfl
theorem pf137:plainF Tryz.prog 137=true:=by kernel_rfl
theorem pf138:plainF Tryz.prog 138=true:=by kernel_rfl
theorem Wi:plainF Tryz.prog 43=true:=by kernel_rfl
theorem pf88:plainF Tryz.prog 88=true:=by kernel_rfl
theorem pf95:plainF Tryz.prog 95=true:=by kernel_rfl
theorem pf97:plainF Tryz.prog 97=true:=by kernel_rfl
theorem Ox:plOf Tryz.prog 25=some #[(0,1),(1,1),(2,1),(3,1)]:=by kernel_rfl
theorem AL:szOf Tryz.prog 25=some 4:=by kernel_rfl
theorem RN:zeroOf Tryz.prog 25=some (.agg #[.int .i64 0,bT,bT,bT]):=by kernel_rfl
theorem Hu_{σ:aj}{a:Option Addr}{c:Nat}{l:List Tip}(hl:RS σ 2 dJ (.slice a l.length c) l)(hsz:l.length * 24<=140737488355328):
  Con prog 88 #[.slice a l.length c] σ [] (RowP 76 2 dJ l σ):=by
 have hb:=hl.rv.big
 refine Con.mk (n:=8) Tryz.func88 z z z (λw0=> ?_)
 refine ψ (Φ z z (TL.nilS 76 2 dJ (ε (ζ (ψ (Φ z z (ω z (cb_ z kX z z) (ε (TC.cond z (λh2=> ?_) (λh2=> ?_))))))))))
 ·refine ψ (Φ z z (TL.nilS 76 2 dJ (ε (TC.ret (S.r ?_)))))
  cases a with
  |some _=>simp at h2
  |none=>
   obtain rfl:=hl.ca_
   exact zf_ z z
 refine ι (S.n (ψ (ν z (Pj (enc:=dJ) z z kX jP z z (λa4 c5=> ?_)))))
 refine Φ z z (ν z (as_ z z kX jP PZ vP z z (by decide) z z z (.inl hl) (by simpa using hsz) (by decide) (λa7 c8=> ?_)))
 exact Φ z z (ε (TC.ret (zf_ z z)))
def Ft_(aW:Nat)(zT:List Tip)(fH:Nat):Option (((List Tip)×Nat×Nat)⊕((Nat)⊕((List Tip)))):=
 nxt (zT,fH,(aW+1))
def Fx_(x0:List Tip)(bQ:Nat)(aO:List Tip)(bV:Nat)(aW:Nat):Option (((List Tip)×Nat×Nat)⊕((Nat)⊕((List Tip)))):=
 aN (decide ((aW:Int)<(((x0.length - bQ):Nat):Int))) (grd (aW<(x0.length - bQ)) (grd (0<=(IntKind.i64.wrap ((aW:Int) - 1))/\(IntKind.i64.wrap ((aW:Int) - 1))<((x0.length - bQ):Nat)) (aN (decide (¬ ((nth aO (bQ+aW) aK)=(nth aO (bQ+(IntKind.i64.wrap ((aW:Int) - 1)).toNat) aK)))) (grd (aW<(x0.length - bQ)) (grd (bV<aO.length) (Ft_ aW (aO.set bV (nth aO (bQ+aW) aK)) (bV+1)))) (Ft_ aW aO bV)))) (fin (grd (bV<=x0.length) (grd (bV<=(aO.take bV++replicate (aO.length - bV) aK).length) (fin (some ((aO.take bV++replicate (aO.length - bV) aK).take bV))))))
def Fz_(x0:List Tip)(bQ:Nat):Option ((Nat)⊕((List Tip))):=
 aN (decide ((bQ:Int)<((x0.length:Nat):Int))) (grd (0<=(IntKind.i64.wrap ((bQ:Int) - 1))/\(IntKind.i64.wrap ((bQ:Int) - 1))<(x0.length:Int)) (aN (decide ((nth x0 bQ aK)=(nth x0 ((IntKind.i64.wrap ((bQ:Int) - 1)).toNat) aK))) (grd (bQ<=x0.length) (bC (λq:(List Tip)×Nat×Nat=>Fx_ x0 bQ q.1 q.2.1 q.2.2) (x0,bQ,1))) (nxt (bQ+1)))) (fin (some x0))
def jp_(x0:List Tip):Option ((List Tip)):=
 aN (decide (((x0.length:Nat):Int)<2)) (some x0) (bC (λq:Nat=>Fz_ x0 q) 1)
theorem Hh_{σ:aj}{x0:List Tip}{r:(List Tip)}(hh:jp_ x0=some r):
  Con prog 126 #[.slice aA x0.length ay] σ [φ 76 2 dJ (.slice aA x0.length ay) x0] (λv σ' H'=> ∃a1 c1,v= .slice a1 r.length c1/\σ=σ'/\H'=[φ 76 2 dJ (.slice a1 r.length c1) r]):=by
 dsimp only [jp_]at hh
 refine Con.mk (n:=61) Tryz.func126 z z z (λw0=> ?_)
 refine ψ (Φ z z (ε (ζ (ψ (Φ z z (ω z (lenC z kX z) (ω z (OpVal.lss z z z) (ε (TC.cD z hh (λyg hh=> ?_) (λyg hh=> ?_))))))))))
 ·refine ψ (Φ z z (Φ z z (ε (TC.ret (S.r ?_)))))
  obtain rfl:=so hh
  exact ro [φ 76 2 dJ (.slice aA x0.length ay) x0] z (RVs.tmp z RVs.nil) ⟨aA,ay,z,z,z⟩
 refine ι (S.n (ζ (ψ (ξ z z (ε (υ (TC.ig (α:=(Nat)×(Unit)) (rgs [(2,4),(10,50)]) (λg=>[(3,.int .i64 ((g.1:Nat):Int))]) (λg=>[φ 76 2 dJ (.slice aA x0.length ay) x0]) (λg=>σ) (λg=>bC (λq:Nat=>Fz_ x0 q) g.1=some r) (λg=>f_ (λq:Nat=>Fz_ x0 q) g.1) (1,()) (Sub.pre 1 z) z (by repeat (first|exact trivial|refine ⟨z,?_⟩)) hh (λg1 j1 hg1=> ?_))))))))
 obtain ⟨bQ,_⟩:=g1
 have hh:=hg1;clear hg1
 try dsimp only
 obtain ⟨z1,hh,hR1⟩:=gJ hh
 dsimp only [Fz_]at hh
 refine χ (i:=0) z (λ_ hb106 _=> ?_)
 refine ζ (ψ (ξ z z (Φ z z (ω z (lenC z kX z) (ω z (OpVal.lss z z z) (ε (TC.cD z hh (λdP hh=> ?_) (λdP hh=> ?_))))))))
 ·refine ι (S.n (ζ (υ (ζ ?_))))
  obtain ⟨wo,hh⟩:=aP hh
  refine TC.draw [] (by kernel_rfl) (Ω 0 z (gu (.inl z) z) z (Ω 1 z (dw (.inl z) z) z (TA.isSl (i:=0) z (λBJ _ _=> ?_))))
  refine TA.b 2 z (bU z kX jP z z BJ (by omega)) z (TA.b 3 z (Me aK z DU jP z (q:=0) z g_ (by omega) (by omega)) z (Ω 4 z (gu (.inl z) z) z (Ω 5 z (dw (.inl z) z) z (Ω 6 z (subW z z z) z (TA.isSl (i:=0) z (λJ7 _ _=> ?_))))))
  refine TA.b 7 z (OpVal.index z kX jP z z J7 wo.1 wo.2) z (TA.b 8 z (Me aK z DU jP z (q:=0) z g_ (by omega) (by omega)) z (Ω 9 z (eqlSt (p:=(nth x0 bQ aK)=(nth x0 ((IntKind.i64.wrap ((bQ:Int) - 1)).toNat) aK)) z z z eg76 (es76 (nth x0 bQ aK) (nth x0 ((IntKind.i64.wrap ((bQ:Int) - 1)).toNat) aK)) z) z (TA.dn (S.n (TC.cD z hh (λh112 hh=> ?_) (λh112 hh=> ?_))))))
  ·refine ψ (Φ z z (ξ z z ?_))
   obtain ⟨u24,hh⟩:=aP hh
   refine TL.isSl (i:=0) z (λJ6 _ _=> ?_)
   obtain ⟨a113,c113,hv113,Kt⟩:=zv_ (k:=bQ) (size:=2) J6 (by omega)
   refine ω z (Kt z kX jP z z) (Φ z z (ε (ζ (ψ (ξ z z (ε (υ (TC.ig (α:=((List Tip)×Nat×Nat)×(Unit)) (rgs [(3,1),(5,1),(29,25)]) (λg=>[(3,.int .i64 ((g.1.2.1:Nat):Int)),(5,.int .i64 ((g.1.2.2:Nat):Int))]) (λg=>[φ 76 2 dJ (.slice aA x0.length ay) g.1.1]) (λg=>σ) (λg=>bC (λq:(List Tip)×Nat×Nat=>Fx_ x0 bQ q.1 q.2.1 q.2.2) g.1=some z1/\g.1.1.length=x0.length) (λg=>f_ (λq:(List Tip)×Nat×Nat=>Fx_ x0 bQ q.1 q.2.1 q.2.2) g.1) ((x0,bQ,1),()) (Sub.pre 1 z) z (by repeat (first|exact trivial|refine ⟨z,?_⟩)) ⟨hh,z⟩ (λg2 j2 hg2=> ?_)))))))))
   obtain ⟨⟨aO,bV,aW⟩,_⟩:=g2
   obtain ⟨hh,gG⟩:=hg2
   try dsimp only at gG ⊢
   obtain ⟨z2,hh,hR2⟩:=gJ hh
   dsimp only [Fx_]at hh
   refine χ (i:=0) z (λ_ Dn _=> ?_)
   refine ζ (ψ (ξ z z (Φ z z (ω z (lenC z kX z) (ω z (OpVal.lss z z z) (ε (TC.cD z hh (λh127 hh=> ?_) (λh127 hh=> ?_))))))))
   ·refine ι (S.n (TC.cutG (α:=((List Tip)×Nat)×(Unit)) (rgs [(3,1),(35,19)]) (λg=>[(3,.int .i64 ((g.1.2:Nat):Int))]) (λg=>[φ 76 2 dJ (.slice aA x0.length ay) g.1.1]) (λg=>σ) (λg=>Ft_ aW g.1.1 g.1.2=some z2/\g.1.1.length=x0.length) ?_ (λg j hg=> ?_)))
    ·skip
     refine υ (ζ ?_)
     obtain ⟨u33,hh⟩:=aP hh
     obtain ⟨u38,hh⟩:=aP hh
     refine TC.draw [] (by kernel_rfl) (Ω 0 z (gu (.inl z) z) z (Ω 1 z (dw (.inl z) z) z (TA.b 2 z (elVw hv113 (by omega) (bU z kX jP z z hv113.sl (by omega))) z (TA.b 3 z (Me aK z DU jP z (q:=0) z g_ (by omega) (by omega)) z (Ω 4 z (gu (.inl z) z) z (Ω 5 z (dw (.inl z) z) z (Ω 6 z (subW z z z) z (TA.b 7 z (elVw hv113 (by omega) (OpVal.index z kX jP z z hv113.sl u38.1 u38.2)) z (TA.b 8 z (Me aK z DU jP z (q:=0) z g_ (by omega) (by omega)) z (Ω 9 z (neqSt (p:=(nth aO (bQ+aW) aK)=(nth aO (bQ+(IntKind.i64.wrap ((aW:Int) - 1)).toNat) aK)) z z z eg76 (es76 (nth aO (bQ+aW) aK) (nth aO (bQ+(IntKind.i64.wrap ((aW:Int) - 1)).toNat) aK)) z) z (TA.dn (S.n (TC.cD z hh (λLP hh=> ?_) (λLP hh=> ?_))))))))))))))
     ·refine ψ (Φ z z (ξ z z (Φ z z (ξ z z ?_))))
      obtain ⟨u45,hh⟩:=aP hh
      refine ω z (elVw hv113 (by omega) (bU z kX jP z z hv113.sl (by omega))) (ω z (Me aK z DU jP z (q:=0) z g_ (by omega) (by omega)) ?_)
      obtain ⟨Nh,hh⟩:=aP hh
      refine TL.isSl (i:=0) z (λBI _ _=> ?_)
      refine ω z (bU z kX jP z z BI (by omega)) ?_
      have Cc:(aO.set bV (nth aO (bQ+aW) aK)).length=x0.length:=by rw [gy];exact gG
      refine ν z (lG (nth aO (bQ+aW) aK) z jP z z z z g_ PL (by omega) (by omega) ?_)
      exact ε (η (ξ z z (ω z (OpVal.succ z z z (by omega)) (ξ z z (TL.nil (B.n (S.n (cf (((aO.set bV (nth aO (bQ+aW) aK)),(bV+1)),()) ⟨hh,Cc⟩ (Sub.pre 1 z)))))))))
     exact ι (B.n (S.n (cf ((aO,bV),()) ⟨hh,gG⟩ (Sub.pre 1 z))))
    skip
    obtain ⟨⟨zT,fH⟩,_⟩:=g
    obtain ⟨hh,Ci⟩:=hg
    try dsimp only at Ci ⊢
    dsimp only [Ft_]at hh
    refine χ (i:=0) z (λ_ U8 _=> ?_)
    refine η (ξ z z (ω z (OpVal.succ z z z (by omega)) (ξ z z (ε ?_))))
    obtain ⟨hh,Eh⟩:=dO hR2 hh
    exact lf ((zT,fH,(aW+1)),()) Eh ⟨hh,Ci⟩ (Sub.pre 1 z)
   refine TC.exit (S.x (S.x ?_))
   replace hh:=dG hR2 hh
   refine Δ (S.n (ψ (Φ z z (ξ z z ?_))))
   obtain ⟨u57,hh⟩:=aP hh
   refine TL.isSl (i:=0) z (λBG _ _=> ?_)
   rw [gG]at BG
   obtain ⟨a136,vY,JO,Kr⟩:=zv_ (k:=bV) (size:=2) BG (by omega)
   refine ω z (Kr z kX jP z z) ?_
   have KE:(aO.take bV++replicate (aO.length - bV) aK).length=x0.length:=by simp only [gB,List.length_take,r_];try simp only [r_]at *;omega
   refine ν z (c9_ (k:=bV) aK z kX vP z z JO (by omega) (by omega) g_ (by decide) z PL ?_)
   refine ε (ψ (Φ z z (ξ z z ?_)))
   rw [<-KE]
   obtain ⟨u61,hh⟩:=aP hh
   refine ν z (cutS z kX jP z z z z z (by omega) g_ ?_)
   refine Φ z z (ε (TC.ret (B.r (S.r (S.r ?_)))))
   replace hh:=dG hR1 hh
   refine B.r (S.r ?_)
   obtain rfl:=so hh
   exact ro [φ 76 2 dJ (.slice aA ((aO.take bV++replicate (aO.length - bV) aK).take bV).length ay) ((aO.take bV++replicate (aO.length - bV) aK).take bV)] z (RVs.tmp z RVs.nil) ⟨aA,ay,z,z,z⟩
  refine ι (B.n (S.n (η (ξ z z (ω z (OpVal.succ z z z (by omega)) (ξ z z (ε ?_)))))))
  obtain ⟨hh,rF⟩:=dO hR1 hh
  exact lf ((bQ+1),()) rF hh (Sub.pre 1 z)
 refine TC.exit (S.x (S.x ?_))
 replace hh:=dG hR1 hh
 refine Δ (S.n (ψ (Φ z z (Φ z z (ε (TC.ret ?_))))))
 obtain rfl:=so hh
 exact ro [φ 76 2 dJ (.slice aA x0.length ay) x0] z (RVs.tmp z RVs.nil) ⟨aA,ay,z,z,z⟩
theorem Is_{σ:aj}{a:Option Addr}{c:Nat}{l:List Arc}(hl:RS σ 8 kF (.slice a l.length c) l)(hsz:l.length * 72<=140737488355328):
  Con prog 136 #[.slice a l.length c] σ [] (RowP 66 8 kF l σ):=by
 have hb:=hl.rv.big
 refine Con.mk (n:=8) Tryz.func136 z z z (λw0=> ?_)
 refine ψ (Φ z z (TL.nilS 66 8 kF (ε (ζ (ψ (Φ z z (ω z (cb_ z qF z z) (ε (TC.cond z (λh2=> ?_) (λh2=> ?_))))))))))
 ·refine ψ (Φ z z (TL.nilS 66 8 kF (ε (TC.ret (S.r ?_)))))
  cases a with
  |some _=>simp at h2
  |none=>
   obtain rfl:=hl.ca_
   exact zf_ z z
 refine ι (S.n (ψ (ν z (Pj (enc:=kF) z z qF nZ z z (λa4 c5=> ?_)))))
 refine Φ z z (ν z (as_ z z qF nZ P5 AO z z (by decide) z z z (.inl hl) (by simpa using hsz) (by decide) (λa7 c8=> ?_)))
 exact Φ z z (ε (TC.ret (zf_ z z)))
def Fu_(aW:Nat)(zT:List Arc)(fH:Nat):Option (((List Arc)×Nat×Nat)⊕((Nat)⊕((List Arc)))):=
 nxt (zT,fH,(aW+1))
def Fw_(x0:List Arc)(bQ:Nat)(aO:List Arc)(bV:Nat)(aW:Nat):Option (((List Arc)×Nat×Nat)⊕((Nat)⊕((List Arc)))):=
 aN (decide ((aW:Int)<(((x0.length - bQ):Nat):Int))) (grd (aW<(x0.length - bQ)) (grd (0<=(IntKind.i64.wrap ((aW:Int) - 1))/\(IntKind.i64.wrap ((aW:Int) - 1))<((x0.length - bQ):Nat)) (aN (decide (¬ ((nth aO (bQ+aW) bg)=(nth aO (bQ+(IntKind.i64.wrap ((aW:Int) - 1)).toNat) bg)))) (grd (aW<(x0.length - bQ)) (grd (bV<aO.length) (Fu_ aW (aO.set bV (nth aO (bQ+aW) bg)) (bV+1)))) (Fu_ aW aO bV)))) (fin (grd (bV<=x0.length) (grd (bV<=(aO.take bV++replicate (aO.length - bV) bg).length) (fin (some ((aO.take bV++replicate (aO.length - bV) bg).take bV))))))
def Fy_(x0:List Arc)(bQ:Nat):Option ((Nat)⊕((List Arc))):=
 aN (decide ((bQ:Int)<((x0.length:Nat):Int))) (grd (0<=(IntKind.i64.wrap ((bQ:Int) - 1))/\(IntKind.i64.wrap ((bQ:Int) - 1))<(x0.length:Int)) (aN (decide ((nth x0 bQ bg)=(nth x0 ((IntKind.i64.wrap ((bQ:Int) - 1)).toNat) bg))) (grd (bQ<=x0.length) (bC (λq:(List Arc)×Nat×Nat=>Fw_ x0 bQ q.1 q.2.1 q.2.2) (x0,bQ,1))) (nxt (bQ+1)))) (fin (some x0))
def m4_(x0:List Arc):Option ((List Arc)):=
 aN (decide (((x0.length:Nat):Int)<2)) (some x0) (bC (λq:Nat=>Fy_ x0 q) 1)
theorem Ig_{σ:aj}{x0:List Arc}{r:(List Arc)}(hh:m4_ x0=some r):
  Con prog 138 #[.slice aA x0.length ay] σ [φ 66 8 kF (.slice aA x0.length ay) x0] (λv σ' H'=> ∃a1 c1,v= .slice a1 r.length c1/\σ=σ'/\H'=[φ 66 8 kF (.slice a1 r.length c1) r]):=by
 dsimp only [m4_]at hh
 refine Con.mk (n:=61) Tryz.func138 z z z (λw0=> ?_)
 refine ψ (Φ z z (ε (ζ (ψ (Φ z z (ω z (lenC z qF z) (ω z (OpVal.lss z z z) (ε (TC.cD z hh (λyg hh=> ?_) (λyg hh=> ?_))))))))))
 ·refine ψ (Φ z z (Φ z z (ε (TC.ret (S.r ?_)))))
  obtain rfl:=so hh
  exact ro [φ 66 8 kF (.slice aA x0.length ay) x0] z (RVs.tmp z RVs.nil) ⟨aA,ay,z,z,z⟩
 refine ι (S.n (ζ (ψ (ξ z z (ε (υ (TC.ig (α:=(Nat)×(Unit)) (rgs [(2,4),(10,50)]) (λg=>[(3,.int .i64 ((g.1:Nat):Int))]) (λg=>[φ 66 8 kF (.slice aA x0.length ay) x0]) (λg=>σ) (λg=>bC (λq:Nat=>Fy_ x0 q) g.1=some r) (λg=>f_ (λq:Nat=>Fy_ x0 q) g.1) (1,()) (Sub.pre 1 z) z (by repeat (first|exact trivial|refine ⟨z,?_⟩)) hh (λg1 j1 hg1=> ?_))))))))
 obtain ⟨bQ,_⟩:=g1
 have hh:=hg1;clear hg1
 try dsimp only
 obtain ⟨z1,hh,hR1⟩:=gJ hh
 dsimp only [Fy_]at hh
 refine χ (i:=0) z (λ_ hb106 _=> ?_)
 refine ζ (ψ (ξ z z (Φ z z (ω z (lenC z qF z) (ω z (OpVal.lss z z z) (ε (TC.cD z hh (λdP hh=> ?_) (λdP hh=> ?_))))))))
 ·refine ι (S.n (ζ (υ (ζ ?_))))
  obtain ⟨wo,hh⟩:=aP hh
  refine TC.draw [] (by kernel_rfl) (Ω 0 z (gu (.inl z) z) z (Ω 1 z (dw (.inl z) z) z (TA.isSl (i:=0) z (λBJ _ _=> ?_))))
  refine TA.b 2 z (bU z qF nZ z z BJ (by omega)) z (TA.b 3 z (Me bg z Jr nZ z (q:=0) z wB (by omega) (by omega)) z (Ω 4 z (gu (.inl z) z) z (Ω 5 z (dw (.inl z) z) z (Ω 6 z (subW z z z) z (TA.isSl (i:=0) z (λJ7 _ _=> ?_))))))
  refine TA.b 7 z (OpVal.index z qF nZ z z J7 wo.1 wo.2) z (TA.b 8 z (Me bg z Jr nZ z (q:=0) z wB (by omega) (by omega)) z (Ω 9 z (eqlSt (p:=(nth x0 bQ bg)=(nth x0 ((IntKind.i64.wrap ((bQ:Int) - 1)).toNat) bg)) z z z eg66 (es66 (nth x0 bQ bg) (nth x0 ((IntKind.i64.wrap ((bQ:Int) - 1)).toNat) bg)) z) z (TA.dn (S.n (TC.cD z hh (λh112 hh=> ?_) (λh112 hh=> ?_))))))
  ·refine ψ (Φ z z (ξ z z ?_))
   obtain ⟨u24,hh⟩:=aP hh
   refine TL.isSl (i:=0) z (λJ6 _ _=> ?_)
   obtain ⟨a113,c113,hv113,Kt⟩:=zv_ (k:=bQ) (size:=8) J6 (by omega)
   refine ω z (Kt z qF nZ z z) (Φ z z (ε (ζ (ψ (ξ z z (ε (υ (TC.ig (α:=((List Arc)×Nat×Nat)×(Unit)) (rgs [(3,1),(5,1),(29,25)]) (λg=>[(3,.int .i64 ((g.1.2.1:Nat):Int)),(5,.int .i64 ((g.1.2.2:Nat):Int))]) (λg=>[φ 66 8 kF (.slice aA x0.length ay) g.1.1]) (λg=>σ) (λg=>bC (λq:(List Arc)×Nat×Nat=>Fw_ x0 bQ q.1 q.2.1 q.2.2) g.1=some z1/\g.1.1.length=x0.length) (λg=>f_ (λq:(List Arc)×Nat×Nat=>Fw_ x0 bQ q.1 q.2.1 q.2.2) g.1) ((x0,bQ,1),()) (Sub.pre 1 z) z (by repeat (first|exact trivial|refine ⟨z,?_⟩)) ⟨hh,z⟩ (λg2 j2 hg2=> ?_)))))))))
   obtain ⟨⟨aO,bV,aW⟩,_⟩:=g2
   obtain ⟨hh,gG⟩:=hg2
   try dsimp only at gG ⊢
   obtain ⟨z2,hh,hR2⟩:=gJ hh
   dsimp only [Fw_]at hh
   refine χ (i:=0) z (λ_ Dn _=> ?_)
   refine ζ (ψ (ξ z z (Φ z z (ω z (lenC z qF z) (ω z (OpVal.lss z z z) (ε (TC.cD z hh (λh127 hh=> ?_) (λh127 hh=> ?_))))))))
   ·refine ι (S.n (TC.cutG (α:=((List Arc)×Nat)×(Unit)) (rgs [(3,1),(35,19)]) (λg=>[(3,.int .i64 ((g.1.2:Nat):Int))]) (λg=>[φ 66 8 kF (.slice aA x0.length ay) g.1.1]) (λg=>σ) (λg=>Fu_ aW g.1.1 g.1.2=some z2/\g.1.1.length=x0.length) ?_ (λg j hg=> ?_)))
    ·skip
     refine υ (ζ ?_)
     obtain ⟨u33,hh⟩:=aP hh
     obtain ⟨u38,hh⟩:=aP hh
     refine TC.draw [] (by kernel_rfl) (Ω 0 z (gu (.inl z) z) z (Ω 1 z (dw (.inl z) z) z (TA.b 2 z (elVw hv113 (by omega) (bU z qF nZ z z hv113.sl (by omega))) z (TA.b 3 z (Me bg z Jr nZ z (q:=0) z wB (by omega) (by omega)) z (Ω 4 z (gu (.inl z) z) z (Ω 5 z (dw (.inl z) z) z (Ω 6 z (subW z z z) z (TA.b 7 z (elVw hv113 (by omega) (OpVal.index z qF nZ z z hv113.sl u38.1 u38.2)) z (TA.b 8 z (Me bg z Jr nZ z (q:=0) z wB (by omega) (by omega)) z (Ω 9 z (neqSt (p:=(nth aO (bQ+aW) bg)=(nth aO (bQ+(IntKind.i64.wrap ((aW:Int) - 1)).toNat) bg)) z z z eg66 (es66 (nth aO (bQ+aW) bg) (nth aO (bQ+(IntKind.i64.wrap ((aW:Int) - 1)).toNat) bg)) z) z (TA.dn (S.n (TC.cD z hh (λLP hh=> ?_) (λLP hh=> ?_))))))))))))))
     ·refine ψ (Φ z z (ξ z z (Φ z z (ξ z z ?_))))
      obtain ⟨u45,hh⟩:=aP hh
      refine ω z (elVw hv113 (by omega) (bU z qF nZ z z hv113.sl (by omega))) (ω z (Me bg z Jr nZ z (q:=0) z wB (by omega) (by omega)) ?_)
      obtain ⟨Nh,hh⟩:=aP hh
      refine TL.isSl (i:=0) z (λBI _ _=> ?_)
      refine ω z (bU z qF nZ z z BI (by omega)) ?_
      have Cc:(aO.set bV (nth aO (bQ+aW) bg)).length=x0.length:=by rw [gy];exact gG
      refine ν z (lG (nth aO (bQ+aW) bg) z nZ z z z z wB YN (by omega) (by omega) ?_)
      exact ε (η (ξ z z (ω z (OpVal.succ z z z (by omega)) (ξ z z (TL.nil (B.n (S.n (cf (((aO.set bV (nth aO (bQ+aW) bg)),(bV+1)),()) ⟨hh,Cc⟩ (Sub.pre 1 z)))))))))
     exact ι (B.n (S.n (cf ((aO,bV),()) ⟨hh,gG⟩ (Sub.pre 1 z))))
    skip
    obtain ⟨⟨zT,fH⟩,_⟩:=g
    obtain ⟨hh,Ci⟩:=hg
    try dsimp only at Ci ⊢
    dsimp only [Fu_]at hh
    refine χ (i:=0) z (λ_ U8 _=> ?_)
    refine η (ξ z z (ω z (OpVal.succ z z z (by omega)) (ξ z z (ε ?_))))
    obtain ⟨hh,Eh⟩:=dO hR2 hh
    exact lf ((zT,fH,(aW+1)),()) Eh ⟨hh,Ci⟩ (Sub.pre 1 z)
   refine TC.exit (S.x (S.x ?_))
   replace hh:=dG hR2 hh
   refine Δ (S.n (ψ (Φ z z (ξ z z ?_))))
   obtain ⟨u57,hh⟩:=aP hh
   refine TL.isSl (i:=0) z (λBG _ _=> ?_)
   rw [gG]at BG
   obtain ⟨a136,vY,JO,Kr⟩:=zv_ (k:=bV) (size:=8) BG (by omega)
   refine ω z (Kr z qF nZ z z) ?_
   have KE:(aO.take bV++replicate (aO.length - bV) bg).length=x0.length:=by simp only [gB,List.length_take,r_];try simp only [r_]at *;omega
   refine ν z (c9_ (k:=bV) bg z qF AO z z JO (by omega) (by omega) wB (by decide) z YN ?_)
   refine ε (ψ (Φ z z (ξ z z ?_)))
   rw [<-KE]
   obtain ⟨u61,hh⟩:=aP hh
   refine ν z (cutS z qF nZ z z z z z (by omega) wB ?_)
   refine Φ z z (ε (TC.ret (B.r (S.r (S.r ?_)))))
   replace hh:=dG hR1 hh
   refine B.r (S.r ?_)
   obtain rfl:=so hh
   exact ro [φ 66 8 kF (.slice aA ((aO.take bV++replicate (aO.length - bV) bg).take bV).length ay) ((aO.take bV++replicate (aO.length - bV) bg).take bV)] z (RVs.tmp z RVs.nil) ⟨aA,ay,z,z,z⟩
  refine ι (B.n (S.n (η (ξ z z (ω z (OpVal.succ z z z (by omega)) (ξ z z (ε ?_)))))))
  obtain ⟨hh,rF⟩:=dO hR1 hh
  exact lf ((bQ+1),()) rF hh (Sub.pre 1 z)
 refine TC.exit (S.x (S.x ?_))
 replace hh:=dG hR1 hh
 refine Δ (S.n (ψ (Φ z z (Φ z z (ε (TC.ret ?_))))))
 obtain rfl:=so hh
 exact ro [φ 66 8 kF (.slice aA x0.length ay) x0] z (RVs.tmp z RVs.nil) ⟨aA,ay,z,z,z⟩
def ZU(x0:List Tip):Option ((List Tip)):=
 grd (x0.length * 24<=140737488355328) (bnd (jp_ (sF nI x0)) (λv9=>some v9))
def Jb_(σ:aj)(r:(List Tip)):Value->aj->List Res->Prop:=λv σ' H'=>
 ∃a1 c1,v= .slice a1 r.length c1/\σ=σ'/\H'=[φ 76 2 dJ (.slice a1 r.length c1) r]
theorem H9_{σ:aj}{x0:List Tip}(au:RS σ 2 dJ (.slice aI x0.length aH) x0){r:(List Tip)}(hh:ZU x0=some r):
  Con prog 95 #[.slice aI x0.length aH,.func (.func 96) #[] #[]] σ [] (Jb_ σ r):=by
 dsimp only [ZU]at hh
 have f0_0b:=au.rv.big
 refine Con.mk (n:=13) Tryz.func95 z z z (λw0=> ?_)
 refine ψ (Φ z z (ε (ψ (Φ z z ?_))))
 obtain ⟨u3,hh⟩:=aP hh
 refine ν z (OpOk.call (Hu_ au u3) z z pf88 z z z z ?_)
 rintro _ _ _ _ ⟨⟨yU,yx,rfl⟩,rfl,rfl⟩
 refine Φ z z (ε (ψ (Φ z z (ω z (Vb (.inl z) z) ?_))))
 have KJ:(sF nI x0).length=x0.length:=List.length_mergeSort _
 refine ν z (OpOk.call (I4_ (l:=x0)) z z SN z z z z ?_)
 rintro _ _ _ _ ⟨rfl,rfl,rfl⟩
 refine ε (ψ (Φ z z ?_))
 rw [<-KJ]
 obtain ⟨v9,u9,hh⟩:=dM hh
 refine ν z (OpOk.call (Hh_ u9) z z SL z z z z ?_)
 rintro _ _ _ oD ⟨a105_1,c105_2,rfl,rfl,rfl⟩
 refine Φ z z (ε (TC.ret ?_))
 obtain rfl:=so hh
 exact ro [φ 76 2 dJ (.slice a105_1 v9.length c105_2) v9] z (RVs.tmp z RVs.nil) ⟨a105_1,c105_2,z,z,z⟩
def wr_(x0:List Arc):Option ((List Arc)):=
 grd (x0.length * 72<=140737488355328) (bnd (m4_ (sF Nq x0)) (λv9=>some v9))
def Ja_(σ:aj)(r:(List Arc)):Value->aj->List Res->Prop:=λv σ' H'=>
 ∃a1 c1,v= .slice a1 r.length c1/\σ=σ'/\H'=[φ 66 8 kF (.slice a1 r.length c1) r]
theorem I3_{σ:aj}{x0:List Arc}(au:RS σ 8 kF (.slice aI x0.length aH) x0){r:(List Arc)}(hh:wr_ x0=some r):
  Con prog 97 #[.slice aI x0.length aH,.func (.func 98) #[] #[]] σ [] (Ja_ σ r):=by
 dsimp only [wr_]at hh
 have f0_0b:=au.rv.big
 refine Con.mk (n:=13) Tryz.func97 z z z (λw0=> ?_)
 refine ψ (Φ z z (ε (ψ (Φ z z ?_))))
 obtain ⟨u3,hh⟩:=aP hh
 refine ν z (OpOk.call (Is_ au u3) z z pf136 z z z z ?_)
 rintro _ _ _ _ ⟨⟨yU,yx,rfl⟩,rfl,rfl⟩
 refine Φ z z (ε (ψ (Φ z z (ω z (Vb (.inl z) z) ?_))))
 have KJ:(sF Nq x0).length=x0.length:=List.length_mergeSort _
 refine ν z (OpOk.call (I2_ (l:=x0)) z z pf137 z z z z ?_)
 rintro _ _ _ _ ⟨rfl,rfl,rfl⟩
 refine ε (ψ (Φ z z ?_))
 rw [<-KJ]
 obtain ⟨v9,u9,hh⟩:=dM hh
 refine ν z (OpOk.call (Ig_ u9) z z pf138 z z z z ?_)
 rintro _ _ _ oD ⟨a105_1,c105_2,rfl,rfl,rfl⟩
 refine Φ z z (ε (TC.ret ?_))
 obtain rfl:=so hh
 exact ro [φ 66 8 kF (.slice a105_1 v9.length c105_2) v9] z (RVs.tmp z RVs.nil) ⟨a105_1,c105_2,z,z,z⟩
def MP(x0:Fst):Option (Fst×Int):=
 bnd (ZA x0) (λv5=>aN (decide (v5≠0)) (some ((⟨0,([]:List Tip),([]:List Tip),([]:List Arc)⟩:Fst),1)) (bnd (ZU x0.starts) (λv14=>bnd (ZU x0.ends) (λv17=>bnd (wr_ x0.arcs) (λv20=>some ((⟨x0.states,v14,v17,v20⟩:Fst),0))))))
def Iy_(σ:aj)(r:Fst×Int):Value->aj->List Res->Prop:=λv σ' H'=>
 ∃a1 c1 a2 c2 a3 c3,v= .tuple #[.agg (oU r.1 a1 c1 a2 c2 a3 c3),.int .i64 r.2]/\RS σ' 2 dJ (.slice a1 r.1.starts.length c1) r.1.starts/\RS σ' 2 dJ (.slice a2 r.1.ends.length c2) r.1.ends/\RS σ' 8 kF (.slice a3 r.1.arcs.length c3) r.1.arcs/\H'=[]
theorem Ik_{σ:aj}{x0:Fst}(au:RS σ 2 dJ (.slice aI x0.starts.length aH) x0.starts)(aY:RS σ 2 dJ (.slice aA x0.ends.length aX) x0.ends)(aV:RS σ 8 kF (.slice aU x0.arcs.length ay) x0.arcs){r:Fst×Int}(hh:MP x0=some r):
  Con prog 56 #[.agg (oU x0 aI aH aA aX aU ay)] σ [] (Iy_ σ r):=by
 dsimp only [MP]at hh
 have f0_0b:=au.rv.big
 have f0_1b:=aY.rv.big
 have f0_2b:=aV.rv.big
 refine Con.mk (n:=20) Tryz.func56 z z z (λw0=> ?_)
 refine ψ (ν z (boxA z z z z (λbG=> ?_)))
 refine ν z (OpOk.alloc z RN z z (λd_=> ?_))
 refine ξ z z (ε (ζ (ψ (ω z (kG z IB AL z (i:=1) z z) ?_))))
 obtain ⟨v5,u5,hh⟩:=dM hh
 refine ν z (jF (F8_ (x0:=x0) au aY aV u5) z z Wi z z z ?_)
 refine ω z (OpVal.neq z z z) (ε (TC.cD z hh (λbW hh=> ?_) (λbW hh=> ?_)))
 ·refine ψ (ω z (nD z Ox RN z) (ν z (storeAll z AL z z z z z z ?_)))
  refine ξ z z (ε (TC.rt 1 (S.r ?_)))
  obtain rfl:=so hh
  exact ro [] z (RVs.agg IB AL z (i:=0) z z (RVs.tmp z RVs.nil)) ⟨none,0,none,0,none,0,z,(RS.nilF _ dJ g_),(RS.nilF _ dJ g_),(RS.nilF _ kF wB),z⟩
 refine ι (S.n (ζ ?_))
 obtain ⟨v14,u14,hh⟩:=dM hh
 obtain ⟨v17,ZX,hh⟩:=dM hh
 obtain ⟨v20,u20,hh⟩:=dM hh
 refine TC.draw [12,13] (by kernel_rfl) (Ω 0 z (aS z E5 z) z (TA.b 1 z (aZ z fJ z (i:=1) z z) z (Ω 2 z (aS z Td z) z (TA.b 3 z (aZ z FH z (i:=1) z z) z (Ω 5 z (aS z WI z) z (TA.b 6 z (aZ z FH z (i:=1) z z) z (Ω 8 z (aS z Tf z) z (TA.b 9 z (aZ z Nb z (i:=1) z z) z (TA.ac 4 z (OpOk.call (H9_ au u14) z z pf95 z z z z ?_))))))))))
 rintro _ _ _ K_ ⟨a112_1,c112_1,rfl,rfl,rfl⟩
 refine k1 (TA.ac 7 z (OpOk.call (H9_ aY ZX) z z pf95 z z z z ?_))
 rintro _ _ _ EG ⟨a114_1,c114_1,rfl,rfl,rfl⟩
 refine k2 (TA.ac 10 z (OpOk.call (I3_ aV u20) z z pf97 z z z z ?_))
 rintro _ _ _ Yu ⟨a116_1,c116_1,rfl,rfl,rfl⟩
 refine k3 (Ω 11 z (nD z Ox RN z) z (TA.front 3 z z (TA.last 12 (by kernel_rfl) z z z (storeAll z AL z z z z z z ?_))))
 refine TZ.v 13 (by kernel_rfl) z z z (dw (.inr z) z) z z (TZ.done (by kernel_rfl) (S.n (TC.front 3 z z (TC.oh g_ (λτ120 Yt zq=> ?_)))))
 have hr118b:=zq.rv.big
 refine TC.front 2 z z (TC.oh g_ (λτ123 lX nU=> ?_))
 replace zq:=zq.mono lX
 have hr121b:=nU.rv.big
 refine TC.front 1 z z (TC.oh wB (λτ126 uM tu=> ?_))
 replace zq:=zq.mono uM
 replace nU:=nU.mono uM
 have hr124b:=tu.rv.big
 refine TC.rt 1 ?_
 obtain rfl:=so hh
 exact ro [] z (RVs.agg IB AL z (i:=0) z z (RVs.tmp z RVs.nil)) ⟨a112_1,c112_1,a114_1,c114_1,a116_1,c116_1,z,zq,nU,tu,z⟩
end Go.Proofs.YtchebnpdnfhenaaGreatDoor
end

noncomputable section
namespace Go.E
open Go
structure Dfa where
  cls:List Int
  next:List (List Int)
  fin:List Bool
def Dfa.zero:Dfa:=⟨[],[],[]⟩
structure DfaP where
  a1:Option Addr
  c1:Nat
  a2:Option Addr
  c2:Nat
  a3:Option Addr
  c3:Nat
def DfaP.zero:DfaP:=⟨none,0,none,0,none,0⟩
structure RDfa (σ:aj) (x:Dfa) (p:DfaP):Prop where
  c:RS σ 1 aG (.slice p.a1 x.cls.length p.c1) x.cls
  n:RZ σ (aB 1 aG bn) (.slice p.a2 x.next.length p.c2) x.next
  e:RS σ 1 eq_ (.slice p.a3 x.fin.length p.c3) x.fin
structure Seq where
  front:List UInt8
  next:List (List Int)
  outs:List (List (List UInt8))
  fin:List Bool
  tail:List (List UInt8)
def Seq.zero:Seq:=⟨[],[],[],[],[]⟩
structure SeqP where
  a1:Option Addr
  c1:Nat
  a2:Option Addr
  c2:Nat
  a3:Option Addr
  c3:Nat
  a4:Option Addr
  c4:Nat
def SeqP.zero:SeqP:=⟨none,0,none,0,none,0,none,0⟩
structure RSeq (σ:aj) (x:Seq) (p:SeqP):Prop where
  n:RZ σ (aB 1 aG bn) (.slice p.a1 x.next.length p.c1) x.next
  o:RZ σ (aB 1 aJ bF) (.slice p.a2 x.outs.length p.c2) x.outs
  e:RS σ 1 eq_ (.slice p.a3 x.fin.length p.c3) x.fin
  t:RS σ 1 aJ (.slice p.a4 x.tail.length p.c4) x.tail
def Seq.enc(x:Seq)(p:SeqP):List Value:=[.string (bs x.front),.slice p.a1 x.next.length p.c1,.slice p.a2 x.outs.length p.c2,.slice p.a3 x.fin.length p.c3,.slice p.a4 x.tail.length p.c4]
structure Rule where
  of:Dfa
  left:Dfa
  right:Dfa
  out:List UInt8
  mapped:Bool
  by':Seq
def Rule.zero:Rule:=⟨Dfa.zero,Dfa.zero,Dfa.zero,[],false,Seq.zero⟩
structure RuleP where
  of:DfaP
  left:DfaP
  right:DfaP
  by':SeqP
def RuleP.zero:RuleP:=⟨DfaP.zero,DfaP.zero,DfaP.zero,SeqP.zero⟩
structure RRule (σ:aj) (x:Rule) (p:RuleP):Prop where
  o:RDfa σ x.of p.of
  l:RDfa σ x.left p.left
  r:RDfa σ x.right p.right
  b:RSeq σ x.by' p.by'
structure SB where
  buf:List UInt8
structure Turned where
  b:SB
  at':List Span
structure How where
  r:Rule
structure Piece where
  text:List UInt8
  at':List Span
def Piece.zero:Piece:=⟨[],[]⟩
abbrev oI(x:Seq)(a1:Option Addr)(c1:Nat)(a2:Option Addr)(c2:Nat)(a3:Option Addr)(c3:Nat)(a4:Option Addr)(c4:Nat):Array Value:=#[.string (bs x.front),.slice a1 x.next.length c1,.slice a2 x.outs.length c2,.slice a3 x.fin.length c3,.slice a4 x.tail.length c4]
abbrev jl(b:Nat)(x:Seq)(a1:Option Addr)(c1:Nat)(a2:Option Addr)(c2:Nat)(a3:Option Addr)(c3:Nat)(a4:Option Addr)(c4:Nat):Res:=κ b (oI x a1 c1 a2 c2 a3 c3 a4 c4) 32
def GT{α:Type}(σ:aj)(g:Nat)(enc:α->List Value)(l:List α):Prop:= ∃E,σ g=some (.cells (l.flatMap enc).toArray E)
theorem GT.mono{α:Type}{σ τ:aj}{g:Nat}{enc:α->List Value}{l:List α}(h:GT σ g enc l)(hle:σ.le τ):GT τ g enc l:=let ⟨E,h⟩:=h;⟨E,hle _ _ h⟩
theorem ud_{α:Type}{enc:α->List Value}(hl: ∀x,(enc x).length=1)(d:α): ∀(l:List α) (i:Nat),i<l.length->(l.flatMap enc)[i]? =(enc (nth l i d))[0]?
  |[],i,h=>by simp at h
  |x::l,0,_=>by
    have:=hl x
    rw [List.flatMap_cons,List.getElem?_append_left (by omega)]
    simp [nth]
  |x::l,i+1,h=>by
    have h1:=hl x
    rw [List.flatMap_cons,List.getElem?_append_right (by omega),h1,Nat.add_sub_cancel,ud_ hl d l i (by simpa using h)]
    simp [nth]
def deB:List UInt8:=[0,1,56,2,57,49,28,3,61,58,42,50,38,29,17,4,62,47,59,36,45,43,51,22,53,39,33,30,24,18,12,5,63,55,48,27,60,41,37,16,46,35,44,21,52,32,23,11,54,26,40,15,34,20,31,10,25,14,19,9,13,8,7,6]
def uq(u:Bool)(b:Nat):Value:=match u with|true=>loc b 0|false=> .pointer none
theorem ob_{b E:Nat}{cs:Array Value}{w:World}(h:(κ b cs E).holds w):w.shape? b=some (E,cs.size):=by
  have h1:w.heap[b]? =some (.cells cs E (0,0)):=h
  simp [World.shape?,h1]
section
variable {P:Program} {n:Nat} {e:Env} {σ:aj} {H:List Res} {o:Oper} {x y:Operand}
theorem OpVal.cvtUns{S T t b E i sz m:Nat}{cs:Array Value}(ho:o.op= .convert S T x)(hS:P.underlying S=some (.pointer t))(hT:P.underlying T=some .unsafePointer)(hs:szOf P t=some sz)(h0:sz≠0)
    (hx:ev e x=loc b 0) (hi:H[i]? =some (κ b cs E)) (hm:cs.size=m) (hc:0<m):OpVal P n o e σ H (loc b 0):=λw hw=>by
  obtain ⟨j,hj,hjs⟩:=UN hs
  have hsh:=ob_ (hw.2 _ (List.mem_of_getElem? hi))
  have h:=Lib.run_to_unsafe (P:=P) (w:=w) (cells:=cs.size) ⟨b,0,none⟩ hS hT hj (by rw [hjs];exact h0) hsh (by rw [hm];exact hc)
  simp [execOp,ho,hx,loc,h]
theorem OpVal.cvtPtr{S T t b E i sz m:Nat}{cs:Array Value}(ho:o.op= .convert S T x)(hS:P.underlying S=some .unsafePointer)(hT:P.underlying T=some (.pointer t))(hs:szOf P t=some sz)
    (hx:ev e x=loc b 0) (hi:H[i]? =some (κ b cs E)) (hm:cs.size=m) (hl:liesAt P P.depth E (m / P.cellsOf E) 0 t 1=true):OpVal P n o e σ H (loc b 0):=λw hw=>by
  obtain ⟨j,hj,hjs⟩:=UN hs
  have hsh:=ob_ (hw.2 _ (List.mem_of_getElem? hi))
  have h:=Lib.run_from_unsafe (P:=P) (w:=w) (cells:=cs.size) ⟨b,0,none⟩ hS hT hj hsh (by rw [hm];exact hl)
  simp [execOp,ho,hx,loc,h]
theorem OpVal.noEsc{p : Operand}{ts : Array TypeId}{J : FuncId}{fn : Func}{v : Value}(ho : o.op = .call { callee := .value x, args := #[p], argTypes := ts })(hx : ev e x = .func (.func J) #[] #[])(hf : P.funcs[J]? = some fn)(hname : (fn.name == "runtime.NumGoroutine") = false)
    (hb:fn.body.isNone=true) (hn:Extern.findNext fn=none) (he:Extern.find fn=some Extern.AbiNoEscape.same) (hp:ev e p=v):OpVal P n o e σ H v:=λw _=>by
  have h:=run_callFunc_extern hf hname hb hn he #[v] w
  rw [Lib.run_noEscape]at h
  simp [execOp,ho,resolve,Deferred.ofValue,invoke,hx,hp,h,Result.andThen]
theorem OpVal.dh_{T T' t b sz:Nat}(ho:o.op= .binOp .neq T x y T')(hT:P.underlying T=some (.pointer t))(hs:szOf P t=some sz)(hx:ev e x=loc b 0)(hy:ev e y=loc b 0):OpVal P n o e σ H (.bool false):=λw _=>by
  obtain ⟨j,hj,_⟩:=UN hs
  have h:=Lib.run_neq_ptr_same (P:=P) (w:=w) ⟨b,0,none⟩ hT hj
  simp only [execOp,ho,hx,hy,loc,Sem.run_bind,jl_,Result.andThen_ok]
  rw [h];rfl
end
theorem td_(l:List UInt8):Lib.strCells (bs l)=l.flatMap kE:=by
  have h: ∀l:List UInt8,l.map (λb=>Value.int IntKind.u8 ((b.toNat:Nat):Int))=l.flatMap kE:=λl=>by
    induction l with
    |nil=>rfl
    |cons x l ih=>rw [List.map_cons,List.flatMap_cons,ih];rfl
  simp [Lib.strCells,bs]
  exact h l
theorem sk_ {P : Program} {w w' : World} (base : Nat) (t u ty e : TypeId) (i : TypeInfo) (ht : P.underlying t = some (.slice e)) (hu : P.underlying u = some .string) (hi : P.info? e = some i) (hz : i.zero = some (.int .u8 0))
    (hsize:i.size=1) (hby:i.bytes=1) {v v':Value} {n:Nat} {xs:List Value} (hown:w.ownsRow base e 1 v n xs) (s:ByteArray)
    (h63:n+s.size<=maxLen) (hbytes:n+s.size<=140737488355328) (hrun:(Builtin.append_ #[t,u] ty #[v,.string s]).run P w= .ok v' w'):
    (v'.ownBlock=v.ownBlock\/v'.ownBlock=some w.heap.size)/\w.drawn<=w'.drawn:=by
  have hsmall:n+s.size<=9223372036854775807:=by simp only [maxLen]at h63;omega
  have hxl:xs.length=n:=by simpa using hown.1
  rcases hown.2 with ⟨rfl,rfl⟩|⟨g,cap,cur,rfl,hbg,hg,hnc,hcm,hcs,htake⟩
  · by_cases hm:s.size=0
    · have hf:=Lib.run_firstCells_string (P:=P) (w:=w) 1 s
      rw [hm]at hf
      have hr:(Builtin.append_ #[t,u] ty #[.slice none 0 0,.string s]).run P w= .ok (.slice none 0 0) w:=by
        simp [Builtin.append_,run_underlying ht,run_underlying hu,sizeOf,typeInfo,hi,hsize,Builtin.lenOf,hm,hf]
      rw [hrun]at hr;cases hr;exact ⟨.inl rfl,Nat.le_refl _⟩
    have hr:=run_append_nil_string (P:=P) w t u ty e i (.int .u8 0) ht hu hi hz s (by omega) (by omega) (by rw [hby];omega)
    rw [hrun]at hr;cases hr;exact ⟨.inr rfl,Nat.le_succ _⟩
  by_cases hroom:n+s.size<=cap
  · have hcs':cur.size=cap:=by simpa using hcs
    have hr:=Lib.run_append_room_string (P:=P) (w:=w) t u ty e i ht hu hi hsize g n cap cur hg s hroom (by omega)
    rw [hrun]at hr;cases hr;exact ⟨.inl rfl,Nat.le_refl _⟩
  have holds: ∀j u,xs[j]? =some u->w.cell? ((⟨g,0,none⟩:Addr).add j)=some u:=hown.cells (g:=g) rfl
  have hr:=Lib.run_append_grow_string (P:=P) (w:=w) t u ty e i (.int .u8 0) ht hu hi hz ⟨g,0,none⟩ n cap xs (by rw [hsize];simpa using hxl) holds s (by omega) (by omega) (by rw [hby];exact growslice_fits (by omega) (by omega))
  rw [hrun]at hr;cases hr;exact ⟨.inr rfl,Nat.le_succ _⟩
theorem OpOk.cu_{X:Ctx}{e:Env}{σ:aj}{F:List Res}{o:Oper}{x y:Operand}{K:Env->aj->List Res->Prop}{T ty E d:Nat}{v:Value}{l m:List UInt8}
    (ho:o.op= .call {callee:= .builtin .append,args:= #[x,y],argTypes:= #[T,ty]}) (ht:X.P.underlying T=some (.slice E)) (hu:X.P.underlying ty=some .string) (hs:szOf X.P E=some 1) (hby:byOf X.P E=some 1) (hz:zeroOf X.P E=some (.int .u8 0))
    (hd:o.dst=some d) (hn:Nat.blt d X.n=true) (hx:ev e x=v) (hy:ev e y= .string (bs m)) (hb:l.length+m.length<=140737488355328)
    (k: ∀a c,K (upd e d (.slice a (l++m).length c)) σ (φ E 1 kE (.slice a (l++m).length c) (l++m)::F)):OpOk X o e σ (φ E 1 kE v l::F) K:=by
  obtain ⟨i,hi,hsi⟩:=UN hs
  have hiz:i.zero=some (.int .u8 0):=by simpa [zeroOf,hi]using hz
  have hib:i.bytes=1:=by simpa [byOf,hi]using hby
  intro u0 C0 τ0 w a hw ha K' Q hK
  obtain ⟨hown,hone,hbg⟩:=hw.holds _ (jm ..)
  have hsz:(bs m).size=m.length:=by show (bs m).data.size=_;simp [bs]
  have h1:l.length+(bs m).size<=maxLen:=by rw [hsz];unfold maxLen;omega
  have h2:l.length+(bs m).size<=140737488355328:=by rw [hsz];exact hb
  obtain ⟨v',w',hr,hown',hg,_⟩:=Lib.run_append_own_string (P:=X.P) (w:=w) 0 T ty o.type E i ht hu hi hiz hsi hib v l.length _ hown (bs m) h1 h2 (Nat.zero_le _)
  obtain ⟨hblk,hdr⟩:=sk_ 0 T ty o.type E i ht hu hi hiz hsi hib hown (bs m) h1 h2 hr
  rw [hsz,td_,<-List.flatMap_append,<-gB]at hown'
  have hbk: ∀b,v'.ownBlock=some b->v.ownBlock=some b\/w.heap.size<=b:=λb hb=>by
    rcases hblk with h|h
    · exact .inl (h▸hb)
    rw [h]at hb;cases hb;exact .inr (Nat.le_refl _)
  have hR:Reach u0 C0 τ0 σ w' (φ E 1 kE v' (l++m)::F):=
    hw.G9 (Value.ownBlock v) (Value.ownBlock v') rfl rfl hg.os hg.tape hg.output hg.size hdr (λq hq hne=>hg.block q hq (λhx=>hne hx.symm)) ⟨hown',λq hq=>by
      obtain ⟨z,_,hz⟩:=List.mem_flatMap.1 hq
      exact UO z q hz,by rw [gB];omega⟩ hbk
  obtain ⟨av,cv,rfl,_,_⟩:=isSl_row hown'
  refine Oper.vZ (w':=w') (v:= .slice av (l++m).length cv) ?_ (hK _ _ _ _ _ (k av cv) hR (yh ha hd hn _))
  rw [ha.eval']
  simp [execOp,ho,resolve,invoke,builtin,hx,hy,hr]
def Res.any (o : Option Nat) : Res where
  bl:=o.toList
  holds w:= ∀b,o=some b->b<w.heap.size
  lt w b hb h:=h b (by simpa using hb)
  keep w w' hb h:=λb e=>by
    have h1:=h b e
    have h2:=hb b (by rw [e];simp)
    rw [Array.getElem?_eq_getElem h1]at h2
    exact (Array.getElem?_eq_some_iff.1 h2).1
def SDat(v:Value)(l:List UInt8)(q:Option Addr):Prop:=l≠[]-> ∃g c,v= .slice (some ⟨g,0,none⟩) l.length c/\q=some ⟨g,0,none⟩
theorem OpOk.c2_{X:Ctx}{e:Env}{σ:aj}{F:List Res}{o:Oper}{x:Operand}{K:Env->aj->List Res->Prop}{T E d D:Nat}{v:Value}{l:List UInt8}
    (ho:o.op= .call {callee:= .builtin .unsafeSliceData,args:= #[x],argTypes:= #[T]}) (hD:o.type=D) (hp:X.P.underlying D=some (.pointer E)) (hd:o.dst=some d) (hn:Nat.blt d X.n=true) (hx:ev e x=v)
    (k: ∀q,SDat v l q->K (upd e d (.pointer q)) σ (φ E 1 kE v l::F)):OpOk X o e σ (φ E 1 kE v l::F) K:=by
  subst hD
  intro u0 C0 τ0 w a hw ha K' Q hK
  obtain ⟨hown,hone,hbg⟩:=hw.holds _ (jm ..)
  rcases id hown.2 with ⟨rfl,hl⟩|⟨g,cap,cur,rfl,_,hg,hnc,hcm,hcs,htake⟩
  · have hl0:l=[]:=o7 hl
    have hr:=Lib.run_unsafeSliceData_nil (P:=X.P) (w:=w) #[T] o.type 0 0
    refine Oper.vZ (w':=w) (v:= .pointer none) ?_ (hK _ _ _ _ _ (k none (λh=>absurd hl0 h)) hw (yh ha hd hn _))
    rw [ha.eval']
    simp [execOp,ho,resolve,invoke,builtin,hx,hr]
  by_cases hc:cap=0
  · subst hc
    have hl0:l=[]:=o7 (by omega)
    have hsh:w.shape? g=some (E,cur.size):=by simp [World.shape?,hg]
    have hr:=Lib.run_unsafeSliceData_zero (P:=X.P) (w:=w) #[T] o.type E hp ⟨g,0,none⟩ l.length (E,cur.size) hsh
    have hR:Reach u0 C0 τ0 σ (w.alloc (.view ⟨g,0,none⟩ E)) (Res.any none::φ E 1 kE (.slice (some ⟨g,0,none⟩) l.length 0) l::F):=
      hw.Y5 none rfl rfl rfl rfl (by simp) (Nat.le_refl _) (λk hk=>gi_ w _ k hk) (λb hb=>by cases hb) (λb hb=>by cases hb)
    refine Oper.vZ (w':=w.alloc (.view ⟨g,0,none⟩ E)) (v:= .pointer (some ⟨w.heap.size,0,none⟩)) ?_ (hK _ _ _ _ _ (k _ (λh=>absurd hl0 h)) (hR.sub (List.sublist_cons_self _ _)) (yh ha hd hn _))
    rw [ha.eval']
    simp [execOp,ho,resolve,invoke,builtin,hx,hr]
  have hr:=Lib.run_unsafeSliceData_row (P:=X.P) (w:=w) #[T] o.type ⟨g,0,none⟩ l.length cap hc
  refine Oper.vZ (w':=w) (v:= .pointer (some ⟨g,0,none⟩)) ?_ (hK _ _ _ _ _ (k _ (λ_=>⟨g,cap,rfl,rfl⟩)) hw (yh ha hd hn _))
  rw [ha.eval']
  simp [execOp,ho,resolve,invoke,builtin,hx,hr]
theorem OpOk.unsStr{X:Ctx}{e:Env}{σ:aj}{F:List Res}{o:Oper}{x y:Operand}{K:Env->aj->List Res->Prop}{T I E d:Nat}{v:Value}{l:List UInt8}{q:Option Addr}
    (ho:o.op= .call {callee:= .builtin .unsafeString,args:= #[x,y],argTypes:= #[T,I]}) (hp:X.P.underlying T=some (.pointer E)) (hcE:X.P.cellsOf E=1) (hd:o.dst=some d) (hn:Nat.blt d X.n=true) (hx:ev e x= .pointer q) (hq:SDat v l q) (hy:ev e y= .int .i64 (l.length:Nat))
    (k:K (upd e d (.string (bs l))) σ F):OpOk X o e σ (φ E 1 kE v l::F) K:=by
  intro u0 C0 τ0 w a hw ha K' Q hK
  obtain ⟨hown,hone,hbg⟩:=hw.holds _ (jm ..)
  by_cases hl:l=[]
  · subst hl
    have hr:=Lib.run_unsafeString_none (P:=X.P) (w:=w) T I o.type q
    refine Oper.vZ (w':=w) (v:= .string (bs [])) ?_ (hK _ _ _ _ _ k (hw.sub (List.sublist_cons_self _ _)) (yh ha hd hn _))
    rw [ha.eval']
    simp [execOp,ho,resolve,invoke,builtin,hx,hy,hr]
    rfl
  obtain ⟨g,c,rfl,rfl⟩:=hq hl
  rcases id hown.2 with ⟨hv,_⟩|⟨g',cap,cur,hv,_,hg,hnc,hcm,hcs,htake⟩
  · cases hv
  cases hv
  have hsh:w.shape? g=some (E,cur.size):=by simp [World.shape?,hg]
  have hr:=Lib.run_unsafeString_row (P:=X.P) (w:=w) T I o.type E hp hcE g cur.size hsh l hl (by omega) (by unfold maxLen at hcm;omega) (λj z hz=>by
    refine hown.cells (g:=g) rfl j (.int .u8 z.toNat) ?_
    have hj:j<l.length:=(List.getElem?_eq_some_iff.1 hz).1
    rw [ud_ (enc:=kE) (λ_=>rfl) (0:UInt8) l j hj]
    have h4:=getD_some l hj (0:UInt8)
    rw [hz]at h4
    rw [<-Option.some.inj h4];rfl)
  have hln: ¬ l.length=0:=λh=>hl (o7 h)
  have hfz: ∀b,b≠g->(w.freeze ⟨g,0,none⟩ l.length).heap[b]? =w.heap[b]? :=λb hb=>by
    unfold World.freeze
    rw [if_neg hln]
    simp only [Array.getElem?_modify]
    rw [if_neg (λh=>hb h.symm)]
  have hsz:(w.freeze ⟨g,0,none⟩ l.length).heap.size=w.heap.size:=by
    unfold World.freeze
    rw [if_neg hln];simp
  have hos:(w.freeze ⟨g,0,none⟩ l.length).os=w.os/\(w.freeze ⟨g,0,none⟩ l.length).tape=w.tape/\(w.freeze ⟨g,0,none⟩ l.length).output=w.output/\(w.freeze ⟨g,0,none⟩ l.length).drawn=w.drawn:=by
    unfold World.freeze
    rw [if_neg hln];exact ⟨rfl,rfl,rfl,rfl⟩
  have hgl:g<w.heap.size:=(Array.getElem?_eq_some_iff.1 hg).1
  have hR:Reach u0 C0 τ0 σ (w.freeze ⟨g,0,none⟩ l.length) (Res.any (some g)::F):=
    hw.G9 (some g) (some g) rfl rfl hos.1 hos.2.1 hos.2.2.1 (by rw [hsz];exact Nat.le_refl _) (by rw [hos.2.2.2];exact Nat.le_refl _) (λk hk hne=>hfz k (λh=>hne (by rw [h]))) (λb hb=>by cases hb;rw [hsz];exact hgl) (λb hb=> .inl hb)
  refine Oper.vZ (w':=w.freeze ⟨g,0,none⟩ l.length) (v:= .string (bs l)) ?_ (hK _ _ _ _ _ k (hR.sub (List.sublist_cons_self _ _)) (yh ha hd hn _))
  rw [ha.eval']
  simp [execOp,ho,resolve,invoke,builtin,hx,hy,hr]
  rfl
end Go.E
end

noncomputable section
namespace Go.Proofs.YtchebnpdnfhenaaGreatDoor
open Go Go.E Go.E.OpVal Go.E.OpOk Go.Proofs.Tryz
open List (replicate)
theorem jT:aggOf Tryz.prog 27=some false:=by kernel_rfl
theorem pI:aggOf Tryz.prog 28=some false:=by kernel_rfl
theorem qV:aggOf Tryz.prog 29=some false:=by kernel_rfl
theorem lJ:aggOf Tryz.prog 30=some false:=by kernel_rfl
theorem ji:aggOf Tryz.prog 32=some true:=by kernel_rfl
theorem Qc:aggOf Tryz.prog 60=some false:=by kernel_rfl
theorem hs_:aggOf Tryz.prog 86=some false:=by kernel_rfl
theorem Ze:aggOf Tryz.prog 90=some false:=by kernel_rfl
theorem by5:byOf Tryz.prog 5=some 1:=by kernel_rfl
theorem ce5:Tryz.prog.cellsOf 5=1:=by kernel_rfl
theorem DL:foOf Tryz.prog 32 0=some 0:=by kernel_rfl
theorem kS:foOf Tryz.prog 32 1=some 1:=by kernel_rfl
theorem oQ:foOf Tryz.prog 32 2=some 2:=by kernel_rfl
theorem tV:foOf Tryz.prog 32 3=some 3:=by kernel_rfl
theorem uh:foOf Tryz.prog 32 4=some 4:=by kernel_rfl
theorem um_:foOf Tryz.prog 92 0=some 0:=by kernel_rfl
theorem Z7:foOf Tryz.prog 92 1=some 1:=by kernel_rfl
theorem JC:plainF Tryz.prog 23=true:=by kernel_rfl
theorem Oc:plainF Tryz.prog 53=true:=by kernel_rfl
theorem V_:plainF Tryz.prog 54=true:=by kernel_rfl
theorem pf60:plainF Tryz.prog 60=true:=by kernel_rfl
theorem pf94:plainF Tryz.prog 94=true:=by kernel_rfl
theorem mM:szOf Tryz.prog 30=some 1:=by kernel_rfl
theorem fE:szOf Tryz.prog 32=some 5:=by kernel_rfl
theorem sz60:szOf Tryz.prog 60=some 1:=by kernel_rfl
theorem fZ:szOf Tryz.prog 86=some 1:=by kernel_rfl
theorem fU:szOf Tryz.prog 9=some 1:=by kernel_rfl
theorem sz90:szOf Tryz.prog 90=some 1:=by kernel_rfl
theorem VR:szOf Tryz.prog 92=some 2:=by kernel_rfl
theorem MX:zeroOf Tryz.prog 5=some (.int .u8 0):=by kernel_rfl
theorem Vz:zeroOf Tryz.prog 92=some (.agg #[.pointer none,bT]):=by kernel_rfl
def E4_(bQ:Nat):Option ((Nat)⊕(Bool)):=
 nxt (bQ+1)
def Vj(x0:ak)(x2:Int)(x1:aC)(bQ:Nat):Option ((Nat)⊕(Bool)):=
 aN (decide ((bQ:Int)<((x0.length:Nat):Int))) (aN (decide ((nth x0 bQ 0)<(-1))) (fin (some false)) (aN (decide (x2<=(nth x0 bQ 0))) (fin (some false)) (grd (bQ<x1.length) (aN (decide (4096<(((nth x1 bQ []).length:Nat):Int))) (fin (some false)) (aN (decide ((nth x0 bQ 0)=(-1))) (grd (bQ<x1.length) (aN (decide ((nth x1 bQ [])≠([]:T_1))) (fin (some false)) (E4_ bQ))) (E4_ bQ)))))) (fin (some true))
def G3_(x0:ak)(x1:aC)(x2:Int):Option (Bool):=
 aN (decide (((x0.length:Nat):Int)≠256)) (some false) (aN (decide (((x1.length:Nat):Int)≠256)) (some false) (bC (λq:Nat=>Vj x0 x2 x1 q) 0))
theorem Ip_{σ:aj}{x0:ak}{x1:aC}{x2:Int}(au:dA σ aG aI aH x0)(bP:dA σ aJ eF dZ x1){r:Bool}(hh:G3_ x0 x1 x2=some r):
  Con prog 60 #[.slice aI x0.length aH,.slice eF x1.length dZ,.int .i64 x2] σ [] (jQ (.bool r) σ):=by
 dsimp only [G3_]at hh
 have f0_0b:=au.rv.big
 have f1_0b:=bP.rv.big
 refine Con.mk (n:=51) Tryz.func60 z z z (λw0=> ?_)
 refine ψ (TL.j z z (ε (ζ (ψ (Φ z z (ω z (lenC z b_ z) (ω z (OpVal.neq z z z) (TL.j z z (TL.split 12 z (λfC=> ?_) (λfC=> ?_))))))))))
 ·replace hh:=gZ fC hh
  replace fC:=jg fC
  refine π z (π z (π z (ω z (dS z z z) (ε (TC.t z (ψ (TL.j z z (ε (TC.ret (S.r ?_))))))))))
  obtain rfl:=so hh
  exact rq [6] ⟨z,z,z⟩
 replace hh:=gY fC hh
 replace fC:=jo fC
 refine Ψ z (gu (.inl z) z) (Ψ z (lenC z fK z) (Ψ z (OpVal.neq z z z) (ω z (dV z z z) (ε (TC.cD z hh (λyg hh=> ?_) (λyg hh=> ?_))))))
 ·refine ψ (TL.j z z (ε (TC.ret (S.r ?_))))
  obtain rfl:=so hh
  exact rq [6] ⟨z,z,z⟩
 refine ι (S.n (ζ (ψ (Φ z z (ω z (lenC z b_ z) (ξ z z (ε (υ (TC.ig (α:=(Nat)×(Unit)) (rgs [(6,3),(19,32)]) (λg=>[(19,.int .i64 ((g.1:Nat):Int))]) (λg=>[]) (λg=>σ) (λg=>bC (λq:Nat=>Vj x0 x2 x1 q) g.1=some r) (λg=>f_ (λq:Nat=>Vj x0 x2 x1 q) g.1) (0,()) (Sub.pre 0 z) z (by repeat (first|exact trivial|refine ⟨z,?_⟩)) hh (λg1 j1 hg1=> ?_))))))))))
 obtain ⟨bQ,_⟩:=g1
 have hh:=hg1;clear hg1
 try dsimp only
 obtain ⟨z1,hh,hR1⟩:=gJ hh
 dsimp only [Vj]at hh
 refine ψ (ω z (OpVal.lss z z z) (ε (ζ (TC.cD z hh (λdN hh=> ?_) (λdN hh=> ?_)))))
 ·refine ι (S.n (TC.cutG (α:=(Unit)×(Unit)) (rgs [(6,3),(21,29)]) (λg=>[]) (λg=>[]) (λg=>σ) (λg=>E4_ bQ=some z1) ?_ (λg j hg=> ?_)))
  ·skip
   refine υ (ψ (ξ z z (ω z (bU z b_ dB z z au.rv.sl (by omega)) (ω z (fF (0:Int) z fJ z au (by omega) z) (ξ z z (ξ z z (ε (ψ (ξ z z (ω z (OpVal.lss z z z) (TL.j z z (TL.split 26 z (λdP=> ?_) (λdP=> ?_)))))))))))))
   ·replace hh:=gZ dP hh
    replace dP:=jg dP
    refine π z (π z (π z (ω z (dS z z z) (TL.j z z (π z (π z (π z (π z (π z (π z (ω z (dS z z z) (TL.j z z (π z (π z (π z ?_)))))))))))))))
    refine π z (π z (π z (π z (π z (π z (ω z (dS z z z) (ε (TC.t z (ψ (TL.j z z (ε (TC.ret (B.r (S.r (S.r ?_)))))))))))))))
    replace hh:=dG hR1 hh
    refine B.r (S.r ?_)
    obtain rfl:=so hh
    exact rq [6] ⟨z,z,z⟩
   replace hh:=gY dP hh
   replace dP:=jo dP
   refine Ψ z (dw (.inl z) z) (Ψ z (dw (.inl z) z) (Ψ z (OpVal.geq z z z) (ω z (dV z z z) (TL.j z z (TL.split 31 z (λdU=> ?_) (λdU=> ?_))))))
   ·replace hh:=gZ dU hh
    replace dU:=jg dU
    refine π z (π z (π z (π z (π z (π z (ω z (dS z z z) (TL.j z z (π z (π z (π z (π z (π z (π z (π z (π z ?_)))))))))))))))
    refine π z (ω z (dS z z z) (ε (TC.t z (ψ (TL.j z z (ε (TC.ret (B.r (S.r (S.r ?_))))))))))
    replace hh:=dG hR1 hh
    refine B.r (S.r ?_)
    obtain rfl:=so hh
    exact rq [6] ⟨z,z,z⟩
   replace hh:=gY dU hh
   replace dU:=jo dU
   refine Ψ z (gu (.inl z) z) (Ψ z (dw (.inl z) z) ?_)
   obtain ⟨u30,hh⟩:=aP hh
   refine Ψ z (bU z fK fU z z bP.rv.sl (by omega)) (Ψ z (fF ([]:T_1) z iG z bP (by omega) z) (Ψ z (rY z kK z) (Ψ z (OpVal.gtr z z z) (ω z (dV z z z) (TL.j z z (TL.split 39 z (λl9=> ?_) (λl9=> ?_)))))))
   ·replace hh:=gZ l9 hh
    replace l9:=jg l9
    refine π z (π z (π z (π z (π z (π z (π z (π z (π z (ω z (dS z z z) (ε (TC.t z (ψ (TL.j z z (ε (TC.ret ?_)))))))))))))))
    refine B.r (S.r (S.r ?_))
    replace hh:=dG hR1 hh
    refine B.r (S.r ?_)
    obtain rfl:=so hh
    exact rq [6] ⟨z,z,z⟩
   replace hh:=gY l9 hh
   replace l9:=jo l9
   refine Ψ z (dw (.inl z) z) (Ψ z (OpVal.eql z z z) (Ψ z (moveB (.inl z) z) (TL.split 42 z (λyc=> ?_) (λyc=> ?_))))
   ·replace hh:=gZ yc hh
    replace yc:=jg yc
    refine Ψ z (gu (.inl z) z) (Ψ z (dw (.inl z) z) ?_)
    obtain ⟨FB,hh⟩:=aP hh
    refine Ψ z (bU z fK fU z z bP.rv.sl (by omega)) (Ψ z (fF ([]:T_1) z iG z bP (by omega) z) (Ψ z (Ih z z z) (Ψ z (dS z z z) (ω z (dV z z z) (ε (TC.cD z hh (λLU hh=> ?_) (λLU hh=> ?_)))))))
    ·refine ψ (TL.j z z (ε (TC.ret (B.r (S.r (S.r ?_))))))
     replace hh:=dG hR1 hh
     refine B.r (S.r ?_)
     obtain rfl:=so hh
     exact rq [6] ⟨z,z,z⟩
    exact ι (B.n (S.n (cf ((),()) hh (Sub.pre 0 z))))
   replace hh:=gY yc hh
   replace yc:=jo yc
   exact π z (π z (π z (π z (π z (Ψ z (dV z z z) (ω z (dV z z z) (ε (TC.f z (ι (B.n (S.n (cf ((),()) hh (Sub.pre 0 z)))))))))))))
  skip
  obtain ⟨_,_⟩:=g
  have hh:=hg;clear hg
  try dsimp only
  dsimp only [E4_]at hh
  refine η (ω z (OpVal.succ z z z (by omega)) (ξ z z (ε ?_)))
  obtain ⟨hh,Ya⟩:=dO hR1 hh
  exact lf ((bQ+1),()) Ya hh (Sub.pre 0 z)
 refine TC.exit (S.x (S.x ?_))
 replace hh:=dG hR1 hh
 refine Δ (S.n (ψ (TL.j z z (ε (TC.ret ?_)))))
 obtain rfl:=so hh
 exact rq [6] ⟨z,z,z⟩
def Vm(aT:Nat)(x0:Seq):Option ((Nat)⊕(Int)):=
 grd (aT<x0.outs.length) (bnd (G3_ (nth x0.next aT []) (nth x0.outs aT []) ((x0.next.length:Nat):Int)) (λv85=>aN (!v85) (fin (some 1)) (nxt (aT+1))))
def Vo(x0:Seq)(aT:Nat):Option ((Nat)⊕(Int)):=
 aN (decide ((aT:Int)<((x0.next.length:Nat):Int))) (grd (aT<x0.tail.length) (aN (decide (4096<(((nth x0.tail aT []).length:Nat):Int))) (fin (some 1)) (grd (aT<x0.fin.length) (aN (!(nth x0.fin aT false)) (grd (aT<x0.tail.length) (aN (decide ((nth x0.tail aT [])≠([]:T_1))) (fin (some 1)) (Vm aT x0))) (Vm aT x0))))) (fin (some 0))
def D8_(x0:Seq):Option (Int):=
 bC (λq:Nat=>Vo x0 q) 0
def NG(x0:Seq):Option (Int):=
 aN (decide (1024<((x0.next.length:Nat):Int))) (some 1) (aN (decide (((x0.outs.length:Nat):Int)≠((x0.next.length:Nat):Int))) (some 1) (aN (decide (((x0.fin.length:Nat):Int)≠((x0.next.length:Nat):Int))) (some 1) (aN (decide (((x0.tail.length:Nat):Int)≠((x0.next.length:Nat):Int))) (some 1) (aN (decide (4096<((x0.front.length:Nat):Int))) (some 1) (aN (decide (((x0.next.length:Nat):Int)=0)) (aN (decide (x0.front≠([]:T_1))) (some 1) (D8_ x0)) (D8_ x0))))))
theorem Ej_{σ:aj}{x0:Seq}(au:RZ σ (aB 1 aG bn) (.slice aI x0.next.length aH) x0.next)(aY:RZ σ (aB 1 aJ bF) (.slice aA x0.outs.length aX) x0.outs)(aV:dA σ eq_ aU ay x0.fin)(aQ:dA σ aJ bJ bD x0.tail){r:Int}(hh:NG x0=some r):
  Con prog 23 #[.agg (oI x0 aI aH aA aX aU ay bJ bD)] σ [] (jQ (.int .i64 r) σ):=by
 dsimp only [NG]at hh
 have f0_0b:=au.big
 have f0_1b:=aY.big
 have f0_2b:=aV.rv.big
 have f0_3b:=aQ.rv.big
 refine Con.mk (n:=85) Tryz.func23 z z z (λw0=> ?_)
 refine ψ (ν z (boxA z z z z (λbG=> ?_)))
 refine ξ z z (ε (ψ (ω z (aS z kS z) (ω z (aZ z jT z (i:=0) z z) (ω z (lenC z eU z) (ξ z z (ε (ζ (ψ (ξ z z (ω z (OpVal.gtr z z z) (TL.j z z (TL.split 10 z (λiI=> ?_) (λiI=> ?_))))))))))))))
 ·replace hh:=gZ iI hh
  replace iI:=jg iI
  refine π z (π z (π z (π z (π z (ω z (dS z z z) (TL.j z z (π z (π z (π z (π z (π z (ω z (dS z z z) (TL.j z z (π z (π z ?_)))))))))))))))
  refine π z (π z (π z (ω z (dS z z z) (ε (TC.t z (ψ (ξ z z (ε (TC.rt 0 (S.r ?_))))))))))
  obtain rfl:=so hh
  exact rq [2] ⟨z,z,z⟩
 replace hh:=gY iI hh
 replace iI:=jo iI
 refine Ψ z (aS z oQ z) (Ψ z (aZ z pI z (i:=0) z z) (Ψ z (lenC z lI z) (Ψ z (dw (.inl z) z) (Ψ z (OpVal.neq z z z) (ω z (dV z z z) (TL.j z z (TL.split 17 z (λgX=> ?_) (λgX=> ?_))))))))
 ·replace hh:=gZ gX hh
  replace gX:=jg gX
  refine π z (π z (π z (π z (π z (ω z (dS z z z) (TL.j z z (π z (π z (π z (π z (π z (ω z (dS z z z) (ε (TC.t z (ψ ?_)))))))))))))))
  refine ξ z z (ε (TC.rt 0 (S.r ?_)))
  obtain rfl:=so hh
  exact rq [2] ⟨z,z,z⟩
 replace hh:=gY gX hh
 replace gX:=jo gX
 refine Ψ z (aS z tV z) (Ψ z (aZ z qV z (i:=0) z z) (Ψ z (lenC z gI z) (Ψ z (dw (.inl z) z) (Ψ z (OpVal.neq z z z) (ω z (dV z z z) (TL.j z z (TL.split 24 z (λbW=> ?_) (λbW=> ?_))))))))
 ·replace hh:=gZ bW hh
  replace bW:=jg bW
  refine π z (π z (π z (π z (π z (ω z (dS z z z) (ε (TC.t z (ψ (ξ z z (ε (TC.rt 0 (S.r ?_))))))))))))
  obtain rfl:=so hh
  exact rq [2] ⟨z,z,z⟩
 replace hh:=gY bW hh
 replace bW:=jo bW
 refine Ψ z (aS z uh z) (Ψ z (aZ z lJ z (i:=0) z z) (Ψ z (lenC z fK z) (Ψ z (dw (.inl z) z) (Ψ z (OpVal.neq z z z) (ω z (dV z z z) (ε (TC.cD z hh (λdN hh=> ?_) (λdN hh=> ?_))))))))
 ·refine ψ (ξ z z (ε (TC.rt 0 (S.r ?_))))
  obtain rfl:=so hh
  exact rq [2] ⟨z,z,z⟩
 refine ι (S.n (TC.cutG (α:=(Unit)×(Unit)) (rgs [(2,1),(31,13)]) (λg=>[]) (λg=>[jl bG x0 aI aH aA aX aU ay bJ bD]) (λg=>σ) (λg=>D8_ x0=some r) ?_ (λg j hg=> ?_)))
 ·skip
  refine ψ (ω z (aS z DL z) (ω z (aZ z iG z (i:=0) z z) (ω z (rY z kK z) (ω z (OpVal.gtr z z z) (TL.j z z (TL.split 35 z (λdP=> ?_) (λdP=> ?_)))))))
  ·replace hh:=gZ dP hh
   replace dP:=jg dP
   refine π z (π z (π z (π z (π z (π z (π z (ω z (dS z z z) (ε (TC.t z (ψ (ξ z z (ε (TC.rt 0 (S.r ?_))))))))))))))
   obtain rfl:=so hh
   exact rq [2] ⟨z,z,z⟩
  replace hh:=gY dP hh
  replace dP:=jo dP
  refine Ψ z (dw (.inl z) z) (Ψ z (OpVal.eql z z z) (Ψ z (moveB (.inl z) z) (TL.split 38 z (λdU=> ?_) (λdU=> ?_))))
  ·replace hh:=gZ dU hh
   replace dU:=jg dU
   refine Ψ z (aS z DL z) (Ψ z (aZ z iG z (i:=0) z z) (Ψ z (Ih z z z) (Ψ z (dS z z z) (ω z (dV z z z) (ε (TC.cD z hh (λl9 hh=> ?_) (λl9 hh=> ?_)))))))
   ·refine ψ (ξ z z (ε (TC.rt 0 (S.r ?_))))
    obtain rfl:=so hh
    exact rq [2] ⟨z,z,z⟩
   exact ι (S.n (cf ((),()) hh (Sub.pre 1 z)))
  replace hh:=gY dU hh
  replace dU:=jo dU
  exact π z (π z (π z (Ψ z (dV z z z) (ω z (dV z z z) (ε (TC.f z (ι (S.n (cf ((),()) hh (Sub.pre 1 z))))))))))
 skip
 obtain ⟨_,_⟩:=g
 have hh:=hg;clear hg
 try dsimp only
 dsimp only [D8_]at hh
 refine ζ (ψ (ξ z z (ξ z z (ε (υ (TC.ig (α:=(Nat)×(Unit)) (rgs [(2,1),(4,1),(45,40)]) (λg=>[(45,.int .i64 ((g.1:Nat):Int))]) (λg=>[jl bG x0 aI aH aA aX aU ay bJ bD]) (λg=>σ) (λg=>bC (λq:Nat=>Vo x0 q) g.1=some r) (λg=>f_ (λq:Nat=>Vo x0 q) g.1) (0,()) (Sub.pre 1 z) z (by repeat (first|exact trivial|refine ⟨z,?_⟩)) hh (λg1 j1 hg1=> ?_)))))))
 obtain ⟨aT,_⟩:=g1
 have hh:=hg1;clear hg1
 try dsimp only
 obtain ⟨z1,hh,hR1⟩:=gJ hh
 dsimp only [Vo]at hh
 refine ψ (ω z (OpVal.lss z z z) (ε (ζ (TC.cD z hh (λqA hh=> ?_) (λqA hh=> ?_)))))
 ·refine ι (S.n (ζ (υ (ψ (ξ z z (ξ z z (ε (TC.cutG (α:=(Unit)×(Unit)) (rgs [(2,1),(48,23)]) (λg=>[]) (λg=>[jl bG x0 aI aH aA aX aU ay bJ bD]) (λg=>σ) (λg=>Vm aT x0=some z1) ?_ (λg j hg=> ?_)))))))))
  ·skip
   refine ψ (ω z (aS z uh z) (ω z (aZ z lJ z (i:=0) z z) (ξ z z ?_)))
   obtain ⟨u53,hh⟩:=aP hh
   refine ω z (bU z fK fU z z aQ.rv.sl (by omega)) (ω z (fF ([]:T_1) z iG z aQ (by omega) z) (ω z (rY z kK z) (ω z (OpVal.gtr z z z) (TL.j z z (TL.split 55 z (λjM=> ?_) (λjM=> ?_))))))
   ·replace hh:=gZ jM hh
    replace jM:=jg jM
    refine π z (π z (π z (π z (π z (π z (π z (π z (π z (π z (π z (π z (π z (π z (ω z (dS z z z) (ε ?_)))))))))))))))
    refine TC.t z (ψ (ξ z z (ε (TC.rt 0 (S.r (B.r (S.r (S.r ?_))))))))
    replace hh:=dG hR1 hh
    refine B.r (S.r ?_)
    obtain rfl:=so hh
    exact rq [2] ⟨z,z,z⟩
   replace hh:=gY jM hh
   replace jM:=jo jM
   refine Ψ z (aS z tV z) (Ψ z (aZ z qV z (i:=0) z z) (Ψ z (dw (.inl z) z) ?_))
   obtain ⟨u61,hh⟩:=aP hh
   refine Ψ z (bU z gI gQ z z aV.rv.sl (by omega)) (Ψ z (fF false z nG z aV (by omega) z) (Ψ z (OpVal.not z z) (Ψ z (moveB (.inl z) z) (TL.split 62 z (λrW=> ?_) (λrW=> ?_)))))
   ·replace hh:=gZ rW hh
    refine Ψ z (aS z uh z) (Ψ z (aZ z lJ z (i:=0) z z) (Ψ z (dw (.inl z) z) ?_))
    obtain ⟨u68,hh⟩:=aP hh
    refine Ψ z (bU z fK fU z z aQ.rv.sl (by omega)) (Ψ z (fF ([]:T_1) z iG z aQ (by omega) z) (Ψ z (Ih z z z) (Ψ z (dS z z z) (ω z (dV z z z) (ε (TC.cD z hh (λh116 hh=> ?_) (λh116 hh=> ?_)))))))
    ·refine ψ (ξ z z (ε (TC.rt 0 (S.r (B.r (S.r (S.r ?_)))))))
     replace hh:=dG hR1 hh
     refine B.r (S.r ?_)
     obtain rfl:=so hh
     exact rq [2] ⟨z,z,z⟩
    exact ι (S.n (cf ((),()) hh (Sub.pre 1 z)))
   replace hh:=gY rW hh
   exact π z (π z (π z (π z (π z (π z (Ψ z (dV z z z) (ω z (dV z z z) (ε (TC.f z (ι (S.n (cf ((),()) hh (Sub.pre 1 z)))))))))))))
  skip
  obtain ⟨_,_⟩:=g
  have hh:=hg;clear hg
  try dsimp only
  dsimp only [Vm]at hh
  refine ζ ?_
  obtain ⟨Oh,hh⟩:=aP hh
  obtain ⟨v85,u85,hh⟩:=dM hh
  refine TC.draw [] (by kernel_rfl) (Ω 0 z (aS z kS z) z (TA.b 1 z (aZ z jT z (i:=0) z z) z (Ω 2 z (dw (.inl z) z) z (TA.b 3 z (bU z eU fZ z z au.isSl (by omega)) z ?_))))
  obtain ⟨sU,lZ,Di⟩:=RZ.seg au aT (by omega)
  replace lZ:dA _ aG sU.1 sU.2 (nth x0.next aT []):=lZ
  have hk119b:=lZ.rv.big
  refine TA.b 4 z (OpVal.of (kZ z hs_ z Di z) (v':= .slice sU.1 ((nth x0.next aT []).length) sU.2) z) z (Ω 5 z (aS z oQ z) z (TA.b 6 z (aZ z pI z (i:=0) z z) z (Ω 7 z (dw (.inl z) z) z (TA.b 8 z (bU z lI mM z z aY.isSl (by omega)) z ?_))))
  obtain ⟨zM,qY,Lp⟩:=RZ.seg aY aT (by omega)
  replace qY:dA _ aJ zM.1 zM.2 (nth x0.outs aT []):=qY
  have hk120b:=qY.rv.big
  refine TA.b 9 z (OpVal.of (kZ z lJ z Lp z) (v':= .slice zM.1 ((nth x0.outs aT []).length) zM.2) z) z (Ω 10 z (dw (.inl z) z) z (TA.ac 11 z (jF (Ip_ lZ qY u85) z z pf60 z z z (k0 ?_))))
  refine Ω 12 z (OpVal.not z z) z (TA.dn (S.n (TC.cB z hh (λYL hh=> ?_) (λYL hh=> ?_))))
  ·refine ψ (ξ z z (ε (TC.rt 0 (B.r (S.r (S.r ?_))))))
   replace hh:=dG hR1 hh
   refine B.r (S.r ?_)
   obtain rfl:=so hh
   exact rq [2] ⟨z,z,z⟩
  refine ι (B.n (S.n (η (ω z (OpVal.succ z z z (by omega)) (ξ z z (ε ?_))))))
  obtain ⟨hh,X8⟩:=dO hR1 hh
  exact lf ((aT+1),()) X8 hh (Sub.pre 1 z)
 refine TC.exit (S.x (S.x ?_))
 replace hh:=dG hR1 hh
 refine Δ (S.n (ψ (ξ z z (ε (TC.rt 0 ?_)))))
 obtain rfl:=so hh
 exact rq [2] ⟨z,z,z⟩
def NU(x0:Seq)(jY:Nat)(PG:Int)(H_:Nat):Option ((Int×Nat)⊕((Nat)⊕(Bool))):=
 aN (decide ((H_:Int)<(((nth x0.outs jY []).length:Nat):Int))) (nxt ((IntKind.i64.wrap (PG+(((nth (nth x0.outs jY []) H_ []).length:Nat):Int))),(H_+1))) (fin (aN (decide (20000<PG)) (fin (some false)) (nxt (jY+1))))
def Rh(x0:Seq)(jY:Nat):Option ((Nat)⊕(Bool)):=
 aN (decide ((jY:Int)<((x0.outs.length:Nat):Int))) (aN (decide (300<(((nth x0.outs jY []).length:Nat):Int))) (fin (some false)) (bC (λq:Int×Nat=>NU x0 jY q.1 q.2) (0,0))) (fin (some true))
def Cw_(x0:Seq):Option (Bool):=
 aN (decide (12<((x0.next.length:Nat):Int))) (some false) (aN (decide (13<((x0.outs.length:Nat):Int))) (some false) (aN (decide (5000<((x0.front.length:Nat):Int))) (some false) (bC (λq:Nat=>Rh x0 q) 0)))
theorem Fo_{σ:aj}{x0:Seq}(au:RZ σ (aB 1 aG bn) (.slice aI x0.next.length aH) x0.next)(aY:RZ σ (aB 1 aJ bF) (.slice aA x0.outs.length aX) x0.outs)(aV:dA σ eq_ aU ay x0.fin)(aQ:dA σ aJ bJ bD x0.tail){r:Bool}(hh:Cw_ x0=some r):
  Con prog 18 #[.agg (oI x0 aI aH aA aX aU ay bJ bD)] σ [] (jQ (.bool r) σ):=by
 dsimp only [Cw_]at hh
 have f0_0b:=au.big
 have f0_1b:=aY.big
 have f0_2b:=aV.rv.big
 have f0_3b:=aQ.rv.big
 refine Con.mk (n:=59) Tryz.func18 z z z (λw0=> ?_)
 refine ψ (ν z (boxA z z z z (λbG=> ?_)))
 refine TL.j z z (ε (ζ (ψ (ω z (aS z kS z) (ω z (aZ z jT z (i:=0) z z) (ω z (lenC z eU z) (ω z (OpVal.gtr z z z) (TL.j z z (TL.split 10 z (λiI=> ?_) (λiI=> ?_))))))))))
 ·replace hh:=gZ iI hh
  replace iI:=jg iI
  refine π z (π z (π z (π z (ω z (dS z z z) (TL.j z z (π z (π z (π z (π z (ω z (dS z z z) (ε (TC.t z (ψ (TL.j z z (ε ?_)))))))))))))))
  refine TC.rt 0 (S.r ?_)
  obtain rfl:=so hh
  exact rq [2] ⟨z,z,z⟩
 replace hh:=gY iI hh
 replace iI:=jo iI
 refine Ψ z (aS z oQ z) (Ψ z (aZ z pI z (i:=0) z z) (Ψ z (lenC z lI z) (Ψ z (OpVal.gtr z z z) (ω z (dV z z z) (TL.j z z (TL.split 16 z (λgX=> ?_) (λgX=> ?_)))))))
 ·replace hh:=gZ gX hh
  replace gX:=jg gX
  refine π z (π z (π z (π z (ω z (dS z z z) (ε (TC.t z (ψ (TL.j z z (ε (TC.rt 0 (S.r ?_)))))))))))
  obtain rfl:=so hh
  exact rq [2] ⟨z,z,z⟩
 replace hh:=gY gX hh
 replace gX:=jo gX
 refine Ψ z (aS z DL z) (Ψ z (aZ z iG z (i:=0) z z) (Ψ z (rY z kK z) (Ψ z (OpVal.gtr z z z) (ω z (dV z z z) (ε (TC.cD z hh (λbW hh=> ?_) (λbW hh=> ?_)))))))
 ·refine ψ (TL.j z z (ε (TC.rt 0 (S.r ?_))))
  obtain rfl:=so hh
  exact rq [2] ⟨z,z,z⟩
 refine ι (S.n (ζ (ψ (ξ z z (ε (υ (TC.ig (α:=(Nat)×(Unit)) (rgs [(2,4),(22,37)]) (λg=>[(3,.int .i64 ((g.1:Nat):Int))]) (λg=>[jl bG x0 aI aH aA aX aU ay bJ bD]) (λg=>σ) (λg=>bC (λq:Nat=>Rh x0 q) g.1=some r) (λg=>f_ (λq:Nat=>Rh x0 q) g.1) (0,()) (Sub.pre 1 z) z (by repeat (first|exact trivial|refine ⟨z,?_⟩)) hh (λg1 j1 hg1=> ?_))))))))
 obtain ⟨jY,_⟩:=g1
 have hh:=hg1;clear hg1
 try dsimp only
 obtain ⟨z1,hh,hR1⟩:=gJ hh
 dsimp only [Rh]at hh
 refine ζ (ψ (ξ z z (ω z (aS z oQ z) (ω z (aZ z pI z (i:=0) z z) (ω z (lenC z lI z) (ω z (OpVal.lss z z z) (ε (TC.cD z hh (λl9 hh=> ?_) (λl9 hh=> ?_)))))))))
 ·refine ι (S.n (ζ (υ (ζ (ψ (ω z (aS z oQ z) (ω z (aZ z pI z (i:=0) z z) (ξ z z (ω z (bU z lI mM z z aY.isSl (by omega)) ?_)))))))))
  obtain ⟨O9,Ld,hg110⟩:=RZ.seg aY jY (by omega)
  replace Ld:dA _ aJ O9.1 O9.2 (nth x0.outs jY []):=Ld
  have hk110b:=Ld.rv.big
  refine ω z (OpVal.of (kZ z lJ z hg110 z) (v':= .slice O9.1 ((nth x0.outs jY []).length) O9.2) z) (ω z (lenC z fK z) (ω z (OpVal.gtr z z z) (ε (TC.cD z hh (λLU hh=> ?_) (λLU hh=> ?_)))))
  ·refine ψ (TL.j z z (ε (TC.rt 0 (S.r (B.r (S.r (S.r ?_)))))))
   replace hh:=dG hR1 hh
   refine B.r (S.r ?_)
   obtain rfl:=so hh
   exact rq [2] ⟨z,z,z⟩
  refine ι (S.n (ψ (ξ z z (ε (ζ (ψ (ξ z z (ε (υ (TC.ig (α:=(Int×Nat)×(Unit)) (rgs [(4,2),(36,21)]) (λg=>[(4,.int .i64 g.1.1),(5,.int .i64 ((g.1.2:Nat):Int))]) (λg=>[jl bG x0 aI aH aA aX aU ay bJ bD]) (λg=>σ) (λg=>bC (λq:Int×Nat=>NU x0 jY q.1 q.2) g.1=some z1) (λg=>f_ (λq:Int×Nat=>NU x0 jY q.1 q.2) g.1) ((0,0),()) (Sub.pre 1 z) z (by repeat (first|exact trivial|refine ⟨z,?_⟩)) hh (λg2 j2 hg2=> ?_)))))))))))
  obtain ⟨⟨PG,H_⟩,_⟩:=g2
  have hh:=hg2;clear hg2
  try dsimp only
  obtain ⟨z2,hh,hR2⟩:=gJ hh
  dsimp only [NU]at hh
  refine ζ (ψ (ξ z z (ω z (aS z oQ z) (ω z (aZ z pI z (i:=0) z z) (ξ z z (ω z (bU z lI mM z z aY.isSl (by omega)) ?_))))))
  obtain ⟨sV,mQ,Dj⟩:=RZ.seg aY jY (by omega)
  replace mQ:dA _ aJ sV.1 sV.2 (nth x0.outs jY []):=mQ
  have hk118b:=mQ.rv.big
  refine ω z (OpVal.of (kZ z lJ z Dj z) (v':= .slice sV.1 ((nth x0.outs jY []).length) sV.2) z) (ω z (lenC z fK z) (ω z (OpVal.lss z z z) (ε (TC.cD z hh (λh119 hh=> ?_) (λh119 hh=> ?_)))))
  ·refine ι (S.n (ζ (υ (η (ξ z z (ω z (aS z oQ z) (ω z (aZ z pI z (i:=0) z z) (ξ z z (ω z (bU z lI mM z z aY.isSl (by omega)) ?_)))))))))
   obtain ⟨zM,qY,Lp⟩:=RZ.seg aY jY (by omega)
   replace qY:dA _ aJ zM.1 zM.2 (nth x0.outs jY []):=qY
   have hk120b:=qY.rv.big
   refine ω z (OpVal.of (kZ z lJ z Lp z) (v':= .slice zM.1 ((nth x0.outs jY []).length) zM.2) z) (ξ z z (ω z (bU z fK fU z z qY.rv.sl (by omega)) (ω z (fF ([]:T_1) z iG z qY (by omega) z) (ω z (rY z kK z) (ω z (addW z z z) (ξ z z (TL.nil (B.n (S.n (η (ξ z z (ω z (OpVal.succ z z z (by omega)) (ξ z z (ε ?_))))))))))))))
   obtain ⟨hh,En⟩:=dO hR2 hh
   exact lf (((IntKind.i64.wrap (PG+(((nth (nth x0.outs jY []) H_ []).length:Nat):Int))),(H_+1)),()) En hh (Sub.pre 1 z)
  refine TC.exit (S.x (S.x ?_))
  replace hh:=dG hR2 hh
  refine Δ (S.n (ψ (ξ z z (ω z (OpVal.gtr z z z) (ε (TC.cD z hh (λh122 hh=> ?_) (λh122 hh=> ?_)))))))
  ·refine ψ (TL.j z z (ε (TC.rt 0 (B.r (S.r (S.r ?_))))))
   replace hh:=dG hR1 hh
   refine B.r (S.r ?_)
   obtain rfl:=so hh
   exact rq [2] ⟨z,z,z⟩
  refine ι (B.n (S.n (η (ξ z z (ω z (OpVal.succ z z z (by omega)) (ξ z z (ε ?_)))))))
  obtain ⟨hh,X7⟩:=dO hR1 hh
  exact lf ((jY+1),()) X7 hh (Sub.pre 1 z)
 refine TC.exit (S.x (S.x ?_))
 replace hh:=dG hR1 hh
 refine Δ (S.n (ψ (TL.j z z (ε (TC.rt 0 ?_)))))
 obtain rfl:=so hh
 exact rq [2] ⟨z,z,z⟩
def Br_(fP:Nat):Option ((Nat)⊕((Nat)⊕(Bool))):=
 nxt (fP+1)
def Vu(x0:Seq)(aT:Nat)(fP:Nat):Option ((Nat)⊕((Nat)⊕(Bool))):=
 aN (decide ((fP:Int)<256)) (grd (fP<(nth x0.next aT []).length) (grd (aT<x0.outs.length) (grd (fP<(nth x0.outs aT []).length) (aN (decide ((nth (nth x0.next aT []) fP 0)<(-1))) (fin (fin (some false))) (aN (decide (((x0.next.length:Nat):Int)<=(nth (nth x0.next aT []) fP 0))) (fin (fin (some false))) (aN (decide ((nth (nth x0.next aT []) fP 0)=(-1))) (aN (decide ((nth (nth x0.outs aT []) fP [])≠([]:T_1))) (fin (fin (some false))) (aN (decide (4096<(((nth (nth x0.outs aT []) fP []).length:Nat):Int))) (fin (fin (some false))) (Br_ fP))) (aN (decide (4096<(((nth (nth x0.outs aT []) fP []).length:Nat):Int))) (fin (fin (some false))) (Br_ fP)))))))) (fin (nxt (aT+1)))
def ZO(x0:Seq)(aT:Nat):Option ((Nat)⊕(Bool)):=
 bC (λq:Nat=>Vu x0 aT q) 0
def Vx(x0:Seq)(aT:Nat):Option ((Nat)⊕(Bool)):=
 aN (decide ((aT:Int)<((x0.next.length:Nat):Int))) (aN (decide ((((nth x0.next aT []).length:Nat):Int)≠256)) (fin (some false)) (grd (aT<x0.outs.length) (aN (decide ((((nth x0.outs aT []).length:Nat):Int)≠256)) (fin (some false)) (grd (aT<x0.tail.length) (aN (decide (4096<(((nth x0.tail aT []).length:Nat):Int))) (fin (some false)) (grd (aT<x0.fin.length) (aN (!(nth x0.fin aT false)) (grd (aT<x0.tail.length) (aN (decide ((nth x0.tail aT [])≠([]:T_1))) (fin (some false)) (ZO x0 aT))) (ZO x0 aT)))))))) (fin (some true))
def Bs_(x0:Seq):Option (Bool):=
 bC (λq:Nat=>Vx x0 q) 0
def Q_(x0:Seq):Option (Bool):=
 aN (decide (1024<((x0.next.length:Nat):Int))) (some false) (aN (decide (((x0.outs.length:Nat):Int)≠((x0.next.length:Nat):Int))) (some false) (aN (decide (((x0.fin.length:Nat):Int)≠((x0.next.length:Nat):Int))) (some false) (aN (decide (((x0.tail.length:Nat):Int)≠((x0.next.length:Nat):Int))) (some false) (aN (decide (4096<((x0.front.length:Nat):Int))) (some false) (aN (decide (((x0.next.length:Nat):Int)=0)) (aN (decide (x0.front≠([]:T_1))) (some false) (Bs_ x0)) (Bs_ x0))))))
theorem C1_{σ:aj}{x0:Seq}(au:RZ σ (aB 1 aG bn) (.slice aI x0.next.length aH) x0.next)(aY:RZ σ (aB 1 aJ bF) (.slice aA x0.outs.length aX) x0.outs)(aV:dA σ eq_ aU ay x0.fin)(aQ:dA σ aJ bJ bD x0.tail){r:Bool}(hh:Q_ x0=some r):
  Con prog 55 #[.agg (oI x0 aI aH aA aX aU ay bJ bD)] σ [] (jQ (.bool r) σ):=by
 dsimp only [Q_]at hh
 have f0_0b:=au.big
 have f0_1b:=aY.big
 have f0_2b:=aV.rv.big
 have f0_3b:=aQ.rv.big
 refine Con.mk (n:=135) Tryz.func55 z z z (λw0=> ?_)
 refine ψ (ν z (boxA z z z z (λbG=> ?_)))
 refine TL.j z z (ε (ψ (ω z (aS z kS z) (ω z (aZ z jT z (i:=0) z z) (ω z (lenC z eU z) (ξ z z (ε (TC.cutG (α:=(Unit)×(Unit)) (rgs [(2,1),(11,38)]) (λg=>[]) (λg=>[jl bG x0 aI aH aA aX aU ay bJ bD]) (λg=>σ) (λg=>Bs_ x0=some r) ?_ (λg j hg=> ?_)))))))))
 ·skip
  refine ψ (ξ z z (ω z (OpVal.gtr z z z) (TL.j z z (TL.split 13 z (λiI=> ?_) (λiI=> ?_)))))
  ·replace hh:=gZ iI hh
   replace iI:=jg iI
   refine π z (π z (π z (π z (π z (ω z (dS z z z) (TL.j z z (π z (π z (π z (π z (π z (ω z (dS z z z) (TL.j z z (π z (π z ?_)))))))))))))))
   refine π z (π z (π z (ω z (dS z z z) (TL.j z z (π z (π z (π z (π z (ω z (dS z z z) (TL.j z z (π z (π z (π z (π z (π z ?_)))))))))))))))
   refine π z (π z (ω z (dS z z z) (ε (TC.t z (ψ (TL.j z z (ε (TC.rt 0 (S.r ?_)))))))))
   obtain rfl:=so hh
   exact rq [2] ⟨z,z,z⟩
  replace hh:=gY iI hh
  replace iI:=jo iI
  refine Ψ z (aS z oQ z) (Ψ z (aZ z pI z (i:=0) z z) (Ψ z (lenC z lI z) (Ψ z (dw (.inl z) z) (Ψ z (OpVal.neq z z z) (ω z (dV z z z) (TL.j z z (TL.split 20 z (λgX=> ?_) (λgX=> ?_))))))))
  ·replace hh:=gZ gX hh
   replace gX:=jg gX
   refine π z (π z (π z (π z (π z (ω z (dS z z z) (TL.j z z (π z (π z (π z (π z (π z (ω z (dS z z z) (TL.j z z (π z (π z ?_)))))))))))))))
   refine π z (π z (ω z (dS z z z) (TL.j z z (π z (π z (π z (π z (π z (π z (π z (ω z (dS z z z) (ε (TC.t z (ψ (TL.j z z ?_)))))))))))))))
   refine ε (TC.rt 0 (S.r ?_))
   obtain rfl:=so hh
   exact rq [2] ⟨z,z,z⟩
  replace hh:=gY gX hh
  replace gX:=jo gX
  refine Ψ z (aS z tV z) (Ψ z (aZ z qV z (i:=0) z z) (Ψ z (lenC z gI z) (Ψ z (dw (.inl z) z) (Ψ z (OpVal.neq z z z) (ω z (dV z z z) (TL.j z z (TL.split 27 z (λbW=> ?_) (λbW=> ?_))))))))
  ·replace hh:=gZ bW hh
   replace bW:=jg bW
   refine π z (π z (π z (π z (π z (ω z (dS z z z) (TL.j z z (π z (π z (π z (π z (ω z (dS z z z) (TL.j z z (π z (π z (π z ?_)))))))))))))))
   refine π z (π z (π z (π z (ω z (dS z z z) (ε (TC.t z (ψ (TL.j z z (ε (TC.rt 0 (S.r ?_)))))))))))
   obtain rfl:=so hh
   exact rq [2] ⟨z,z,z⟩
  replace hh:=gY bW hh
  replace bW:=jo bW
  refine Ψ z (aS z uh z) (Ψ z (aZ z lJ z (i:=0) z z) (Ψ z (lenC z fK z) (Ψ z (dw (.inl z) z) (Ψ z (OpVal.neq z z z) (ω z (dV z z z) (TL.j z z (TL.split 34 z (λdN=> ?_) (λdN=> ?_))))))))
  ·replace hh:=gZ dN hh
   replace dN:=jg dN
   refine π z (π z (π z (π z (ω z (dS z z z) (TL.j z z (π z (π z (π z (π z (π z (π z (π z (ω z (dS z z z) (ε (TC.t z ?_)))))))))))))))
   refine ψ (TL.j z z (ε (TC.rt 0 (S.r ?_))))
   obtain rfl:=so hh
   exact rq [2] ⟨z,z,z⟩
  replace hh:=gY dN hh
  replace dN:=jo dN
  refine Ψ z (aS z DL z) (Ψ z (aZ z iG z (i:=0) z z) (Ψ z (rY z kK z) (Ψ z (OpVal.gtr z z z) (ω z (dV z z z) (TL.j z z (TL.split 40 z (λdP=> ?_) (λdP=> ?_)))))))
  ·replace hh:=gZ dP hh
   replace dP:=jg dP
   refine π z (π z (π z (π z (π z (π z (π z (ω z (dS z z z) (ε (TC.t z (ψ (TL.j z z (ε (TC.rt 0 (S.r ?_))))))))))))))
   obtain rfl:=so hh
   exact rq [2] ⟨z,z,z⟩
  replace hh:=gY dP hh
  replace dP:=jo dP
  refine Ψ z (dw (.inl z) z) (Ψ z (OpVal.eql z z z) (Ψ z (moveB (.inl z) z) (TL.split 43 z (λdU=> ?_) (λdU=> ?_))))
  ·replace hh:=gZ dU hh
   replace dU:=jg dU
   refine Ψ z (aS z DL z) (Ψ z (aZ z iG z (i:=0) z z) (Ψ z (Ih z z z) (Ψ z (dS z z z) (ω z (dV z z z) (ε (TC.cD z hh (λl9 hh=> ?_) (λl9 hh=> ?_)))))))
   ·refine ψ (TL.j z z (ε (TC.rt 0 (S.r ?_))))
    obtain rfl:=so hh
    exact rq [2] ⟨z,z,z⟩
   exact ι (S.n (cf ((),()) hh (Sub.pre 1 z)))
  replace hh:=gY dU hh
  replace dU:=jo dU
  exact π z (π z (π z (Ψ z (dV z z z) (ω z (dV z z z) (ε (TC.f z (ι (S.n (cf ((),()) hh (Sub.pre 1 z))))))))))
 skip
 obtain ⟨_,_⟩:=g
 have hh:=hg;clear hg
 try dsimp only
 dsimp only [Bs_]at hh
 refine ζ (ψ (ξ z z (ε (υ (TC.ig (α:=(Nat)×(Unit)) (rgs [(2,1),(4,4),(49,86)]) (λg=>[(4,.int .i64 ((g.1:Nat):Int))]) (λg=>[jl bG x0 aI aH aA aX aU ay bJ bD]) (λg=>σ) (λg=>bC (λq:Nat=>Vx x0 q) g.1=some r) (λg=>f_ (λq:Nat=>Vx x0 q) g.1) (0,()) (Sub.pre 1 z) z (by repeat (first|exact trivial|refine ⟨z,?_⟩)) hh (λg1 j1 hg1=> ?_))))))
 obtain ⟨aT,_⟩:=g1
 have hh:=hg1;clear hg1
 try dsimp only
 obtain ⟨z1,hh,hR1⟩:=gJ hh
 dsimp only [Vx]at hh
 refine ζ (ψ (ξ z z (ξ z z (ω z (OpVal.lss z z z) (ε (TC.cD z hh (λqA hh=> ?_) (λqA hh=> ?_)))))))
 ·refine ι (S.n (ζ (υ (TC.cutG (α:=(Unit)×(Unit)) (rgs [(2,1),(54,41)]) (λg=>[]) (λg=>[jl bG x0 aI aH aA aX aU ay bJ bD]) (λg=>σ) (λg=>ZO x0 aT=some z1) ?_ (λg j hg=> ?_)))))
  ·skip
   refine ψ (ω z (aS z kS z) (ω z (aZ z jT z (i:=0) z z) (ξ z z (ω z (bU z eU fZ z z au.isSl (by omega)) ?_))))
   obtain ⟨zN,vG,Lr⟩:=RZ.seg au aT (by omega)
   replace vG:dA _ aG zN.1 zN.2 (nth x0.next aT []):=vG
   have hk114b:=vG.rv.big
   refine ω z (OpVal.of (kZ z hs_ z Lr z) (v':= .slice zN.1 ((nth x0.next aT []).length) zN.2) z) (ω z (lenC z b_ z) (ω z (OpVal.neq z z z) (TL.j z z (TL.split 61 z (λrW=> ?_) (λrW=> ?_)))))
   ·replace hh:=gZ rW hh
    replace rW:=jg rW
    refine π z (π z (π z (π z (π z (π z (π z (ω z (dS z z z) (TL.j z z (π z (π z (π z (π z (π z (π z (π z ?_)))))))))))))))
    refine ω z (dS z z z) (TL.j z z (π z (π z (π z (π z (π z (π z (π z (π z (π z (π z (π z (π z (π z (π z ?_)))))))))))))))
    refine ω z (dS z z z) (ε (TC.t z (ψ (TL.j z z (ε (TC.rt 0 (S.r (B.r (S.r (S.r ?_))))))))))
    replace hh:=dG hR1 hh
    refine B.r (S.r ?_)
    obtain rfl:=so hh
    exact rq [2] ⟨z,z,z⟩
   replace hh:=gY rW hh
   replace rW:=jo rW
   refine Ψ z (aS z oQ z) (Ψ z (aZ z pI z (i:=0) z z) (Ψ z (dw (.inl z) z) ?_))
   obtain ⟨u61,hh⟩:=aP hh
   refine Ψ z (bU z lI mM z z aY.isSl (by omega)) ?_
   obtain ⟨O6,Lc,hg116⟩:=RZ.seg aY aT (by omega)
   replace Lc:dA _ aJ O6.1 O6.2 (nth x0.outs aT []):=Lc
   have hk116b:=Lc.rv.big
   refine Ψ z (OpVal.of (kZ z lJ z hg116 z) (v':= .slice O6.1 ((nth x0.outs aT []).length) O6.2) z) (Ψ z (lenC z fK z) (Ψ z (OpVal.neq z z z) (ω z (dV z z z) (TL.j z z (TL.split 70 z (λqy=> ?_) (λqy=> ?_))))))
   ·replace hh:=gZ qy hh
    replace qy:=jg qy
    refine π z (π z (π z (π z (π z (π z (π z (ω z (dS z z z) (TL.j z z (π z (π z (π z (π z (π z (π z (π z ?_)))))))))))))))
    refine π z (π z (π z (π z (π z (π z (π z (ω z (dS z z z) (ε (TC.t z (ψ (TL.j z z (ε (TC.rt 0 (S.r (B.r ?_)))))))))))))))
    refine S.r (S.r ?_)
    replace hh:=dG hR1 hh
    refine B.r (S.r ?_)
    obtain rfl:=so hh
    exact rq [2] ⟨z,z,z⟩
   replace hh:=gY qy hh
   replace qy:=jo qy
   refine Ψ z (aS z uh z) (Ψ z (aZ z lJ z (i:=0) z z) (Ψ z (dw (.inl z) z) ?_))
   obtain ⟨u70,hh⟩:=aP hh
   refine Ψ z (bU z fK fU z z aQ.rv.sl (by omega)) (Ψ z (fF ([]:T_1) z iG z aQ (by omega) z) (Ψ z (rY z kK z) (Ψ z (OpVal.gtr z z z) (ω z (dV z z z) (TL.j z z (TL.split 79 z (λEY=> ?_) (λEY=> ?_)))))))
   ·replace hh:=gZ EY hh
    replace EY:=jg EY
    refine π z (π z (π z (π z (π z (π z (π z (π z (π z (π z (π z (π z (π z (π z (ω z (dS z z z) (ε ?_)))))))))))))))
    refine TC.t z (ψ (TL.j z z (ε (TC.rt 0 (S.r (B.r (S.r (S.r ?_))))))))
    replace hh:=dG hR1 hh
    refine B.r (S.r ?_)
    obtain rfl:=so hh
    exact rq [2] ⟨z,z,z⟩
   replace hh:=gY EY hh
   replace EY:=jo EY
   refine Ψ z (aS z tV z) (Ψ z (aZ z qV z (i:=0) z z) (Ψ z (dw (.inl z) z) ?_))
   obtain ⟨u79,hh⟩:=aP hh
   refine Ψ z (bU z gI gQ z z aV.rv.sl (by omega)) (Ψ z (fF false z nG z aV (by omega) z) (Ψ z (OpVal.not z z) (Ψ z (moveB (.inl z) z) (TL.split 86 z (λh119=> ?_) (λh119=> ?_)))))
   ·replace hh:=gZ h119 hh
    refine Ψ z (aS z uh z) (Ψ z (aZ z lJ z (i:=0) z z) (Ψ z (dw (.inl z) z) ?_))
    obtain ⟨u86,hh⟩:=aP hh
    refine Ψ z (bU z fK fU z z aQ.rv.sl (by omega)) (Ψ z (fF ([]:T_1) z iG z aQ (by omega) z) (Ψ z (Ih z z z) (Ψ z (dS z z z) (ω z (dV z z z) (ε (TC.cD z hh (λLQ hh=> ?_) (λLQ hh=> ?_)))))))
    ·refine ψ (TL.j z z (ε (TC.rt 0 (S.r (B.r (S.r (S.r ?_)))))))
     replace hh:=dG hR1 hh
     refine B.r (S.r ?_)
     obtain rfl:=so hh
     exact rq [2] ⟨z,z,z⟩
    exact ι (S.n (cf ((),()) hh (Sub.pre 1 z)))
   replace hh:=gY h119 hh
   exact π z (π z (π z (π z (π z (π z (Ψ z (dV z z z) (ω z (dV z z z) (ε (TC.f z (ι (S.n (cf ((),()) hh (Sub.pre 1 z)))))))))))))
  skip
  obtain ⟨_,_⟩:=g
  have hh:=hg;clear hg
  try dsimp only
  dsimp only [ZO]at hh
  refine ψ (ξ z z (ε (υ (TC.ig (α:=(Nat)×(Unit)) (rgs [(2,1),(5,3),(95,40)]) (λg=>[(5,.int .i64 ((g.1:Nat):Int))]) (λg=>[jl bG x0 aI aH aA aX aU ay bJ bD]) (λg=>σ) (λg=>bC (λq:Nat=>Vu x0 aT q) g.1=some z1) (λg=>f_ (λq:Nat=>Vu x0 aT q) g.1) (0,()) (Sub.pre 1 z) z (by repeat (first|exact trivial|refine ⟨z,?_⟩)) hh (λg2 j2 hg2=> ?_)))))
  obtain ⟨fP,_⟩:=g2
  have hh:=hg2;clear hg2
  try dsimp only
  obtain ⟨z2,hh,hR2⟩:=gJ hh
  dsimp only [Vu]at hh
  refine ζ (ψ (ξ z z (ω z (OpVal.lss z z z) (ε (TC.cD z hh (λx9 hh=> ?_) (λx9 hh=> ?_))))))
  ·refine ι (S.n (TC.cutG (α:=(Unit)×(Unit)) (rgs [(2,1),(6,2),(99,36)]) (λg=>[]) (λg=>[jl bG x0 aI aH aA aX aU ay bJ bD]) (λg=>σ) (λg=>Br_ fP=some z2) ?_ (λg j hg=> ?_)))
   ·skip
    refine υ (ψ (ω z (aS z kS z) (ω z (aZ z jT z (i:=0) z z) (ξ z z (ω z (bU z eU fZ z z au.isSl (by omega)) ?_)))))
    obtain ⟨zL,qp,Lm⟩:=RZ.seg au aT (by omega)
    replace qp:dA _ aG zL.1 zL.2 (nth x0.next aT []):=qp
    have hk125b:=qp.rv.big
    refine ω z (OpVal.of (kZ z hs_ z Lm z) (v':= .slice zL.1 ((nth x0.next aT []).length) zL.2) z) (ξ z z ?_)
    obtain ⟨VO,hh⟩:=aP hh
    refine ω z (bU z b_ dB z z qp.rv.sl (by omega)) (ω z (fF (0:Int) z fJ z qp (by omega) z) (ξ z z (ε (ψ (ω z (aS z oQ z) (ω z (aZ z pI z (i:=0) z z) (ξ z z ?_)))))))
    obtain ⟨Hu,hh⟩:=aP hh
    refine ω z (bU z lI mM z z aY.isSl (by omega)) ?_
    obtain ⟨O4,Dc,hg126⟩:=RZ.seg aY aT (by omega)
    replace Dc:dA _ aJ O4.1 O4.2 (nth x0.outs aT []):=Dc
    have hk126b:=Dc.rv.big
    refine ω z (OpVal.of (kZ z lJ z hg126 z) (v':= .slice O4.1 ((nth x0.outs aT []).length) O4.2) z) (ξ z z ?_)
    obtain ⟨u110,hh⟩:=aP hh
    refine ω z (bU z fK fU z z Dc.rv.sl (by omega)) (ω z (fF ([]:T_1) z iG z Dc (by omega) z) (ω z (eu (.inr z) z) (ε (ψ (ξ z z (ω z (OpVal.lss z z z) (TL.j z z (TL.split 117 z (λh127=> ?_) (λh127=> ?_)))))))))
    ·replace hh:=gZ h127 hh
     replace h127:=jg h127
     refine π z (π z (π z (ω z (dS z z z) (TL.j z z (π z (π z (π z (π z (π z (π z (ω z (dS z z z) (TL.j z z (π z (π z (π z ?_)))))))))))))))
     refine ω z (dS z z z) (ε (TC.t z (ψ (TL.j z z (ε (TC.rt 0 (B.r (S.r (S.r ?_)))))))))
     replace hh:=dG hR2 hh
     refine B.r (B.r (S.r (S.r ?_)))
     replace hh:=dG hR1 hh
     refine B.r (S.r ?_)
     obtain rfl:=so hh
     exact rq [2] ⟨z,z,z⟩
    replace hh:=gY h127 hh
    replace h127:=jo h127
    refine Ψ z (dw (.inl z) z) (Ψ z (dw (.inl z) z) (Ψ z (OpVal.geq z z z) (ω z (dV z z z) (TL.j z z (TL.split 122 z (λh128=> ?_) (λh128=> ?_))))))
    ·replace hh:=gZ h128 hh
     replace h128:=jg h128
     refine π z (π z (π z (π z (π z (π z (ω z (dS z z z) (TL.j z z (π z (π z (π z (ω z (dS z z z) (ε (TC.t z (ψ (TL.j z z ?_)))))))))))))))
     refine ε (TC.rt 0 (B.r (S.r (S.r ?_))))
     replace hh:=dG hR2 hh
     refine B.r (B.r (S.r (S.r ?_)))
     replace hh:=dG hR1 hh
     refine B.r (S.r ?_)
     obtain rfl:=so hh
     exact rq [2] ⟨z,z,z⟩
    replace hh:=gY h128 hh
    replace h128:=jo h128
    refine Ψ z (dw (.inl z) z) (Ψ z (OpVal.eql z z z) (Ψ z (moveB (.inl z) z) (TL.split 125 z (λrV=> ?_) (λrV=> ?_))))
    ·replace hh:=gZ rV hh
     replace rV:=jg rV
     refine Ψ z (eu (.inl z) z) (Ψ z (Ih z z z) (Ψ z (dS z z z) (ω z (dV z z z) (TL.j z z (TL.split 130 z (λEX=> ?_) (λEX=> ?_))))))
     ·replace hh:=gZ EX hh
      replace EX:=jg EX
      refine π z (π z (π z (ω z (dS z z z) (ε (TC.t z (ψ (TL.j z z (ε (TC.rt 0 (B.r (S.r (S.r ?_))))))))))))
      replace hh:=dG hR2 hh
      refine B.r (B.r (S.r (S.r ?_)))
      replace hh:=dG hR1 hh
      refine B.r (S.r ?_)
      obtain rfl:=so hh
      exact rq [2] ⟨z,z,z⟩
     replace hh:=gY EX hh
     replace EX:=jo EX
     refine Ψ z (eu (.inl z) z) (Ψ z (rY z kK z) (Ψ z (OpVal.gtr z z z) (ω z (dV z z z) (ε (TC.cD z hh (λLP hh=> ?_) (λLP hh=> ?_))))))
     ·refine ψ (TL.j z z (ε (TC.rt 0 (B.r (S.r (S.r ?_))))))
      replace hh:=dG hR2 hh
      refine B.r (B.r (S.r (S.r ?_)))
      replace hh:=dG hR1 hh
      refine B.r (S.r ?_)
      obtain rfl:=so hh
      exact rq [2] ⟨z,z,z⟩
     exact ι (B.n (S.n (cf ((),()) hh (Sub.pre 1 z))))
    replace hh:=gY rV hh
    replace rV:=jo rV
    refine π z (π z (Ψ z (dV z z z) (ω z (dV z z z) (TL.j z z (Ψ z (eu (.inl z) z) (Ψ z (rY z kK z) (Ψ z (OpVal.gtr z z z) (ω z (dV z z z) (ε (TC.cD z hh (λuQ hh=> ?_) (λuQ hh=> ?_)))))))))))
    ·refine ψ (TL.j z z (ε (TC.rt 0 (B.r (S.r (S.r ?_))))))
     replace hh:=dG hR2 hh
     refine B.r (B.r (S.r (S.r ?_)))
     replace hh:=dG hR1 hh
     refine B.r (S.r ?_)
     obtain rfl:=so hh
     exact rq [2] ⟨z,z,z⟩
    exact ι (B.n (S.n (cf ((),()) hh (Sub.pre 1 z))))
   skip
   obtain ⟨_,_⟩:=g
   have hh:=hg;clear hg
   try dsimp only
   dsimp only [Br_]at hh
   refine η (ξ z z (ω z (OpVal.succ z z z (by omega)) (ξ z z (ε ?_))))
   obtain ⟨hh,Ej⟩:=dO hR2 hh
   exact lf ((fP+1),()) Ej hh (Sub.pre 1 z)
  refine TC.exit (S.x (S.x ?_))
  replace hh:=dG hR2 hh
  refine Δ (B.n (S.n (η (ξ z z (ω z (OpVal.succ z z z (by omega)) (ξ z z (ε ?_)))))))
  obtain ⟨hh,Ei⟩:=dO hR1 hh
  exact lf ((aT+1),()) Ei hh (Sub.pre 1 z)
 refine TC.exit (S.x (S.x ?_))
 replace hh:=dG hR1 hh
 refine Δ (S.n (ψ (TL.j z z (ε (TC.rt 0 ?_)))))
 obtain rfl:=so hh
 exact rq [2] ⟨z,z,z⟩
def ip_(x0:SB):Option (SB):=
 some (⟨x0.buf⟩:SB)
theorem on_{σ:aj}{x0:SB}{r:SB}(hh:ip_ x0=some r):
  Con prog 94 #[loc cO 0] σ [κ cO #[uq false cO,.slice aA x0.buf.length ay] 92,dW 5 kE aA ay x0.buf] (λv σ' H'=> ∃(Jo:Bool), ∃Dw co3,v= .tuple #[]/\σ=σ'/\H'=[κ cO #[uq Jo cO,.slice Dw r.buf.length co3] 92,dW 5 kE Dw co3 r.buf]):=by
 dsimp only [ip_]at hh
 refine Con.mk (n:=20) Tryz.func94 z z z (λw0=> ?_)
 refine ψ (TL.l z z (ω z (nJ z z) (ω z (aS z um_ z) (ω z (aZ z Ze z (i:=0) z z) (ω z (eqlNil z underlying90 z z) (ε (TC.t z (η (TL.l z z (TL.l z z (ω z (cvtUns z underlying90 underlying188 VR (by decide) z (i:=0) z z (by simp)) (ω z (noEsc z z Tryz.func133 (by kernel_rfl) (by kernel_rfl) (by kernel_rfl) (by kernel_rfl) z) (ω z (cvtPtr z underlying188 underlying90 VR z (i:=0) z z (by kernel_rfl)) (ω z (nJ z z) (ω z (aS z um_ z) ?_)))))))))))))))
 refine ν z (c3_ z sz90 z z z z z ?_)
 refine TL.nil ?_
 obtain rfl:=so hh
 exact RetOk.mk' (rs:=[]) [κ cO #[uq true cO,.slice aA x0.buf.length ay] 92,dW 5 kE aA ay x0.buf] z (.inr z) RVs.nil (List.sublist_append_left _ _) ⟨true,aA,ay,z,z,z⟩
def o8_(x0:SB):Option (SB):=
 some (⟨x0.buf⟩:SB)
theorem oo_{σ:aj}{x0:SB}{r:SB}(hh:o8_ x0=some r):
  Con prog 94 #[loc cO 0] σ [κ cO #[uq true cO,.slice aA x0.buf.length ay] 92,dW 5 kE aA ay x0.buf] (λv σ' H'=> ∃(Jo:Bool), ∃Dw co3,v= .tuple #[]/\σ=σ'/\H'=[κ cO #[uq Jo cO,.slice Dw r.buf.length co3] 92,dW 5 kE Dw co3 r.buf]):=by
 dsimp only [o8_]at hh
 refine Con.mk (n:=20) Tryz.func94 z z z (λw0=> ?_)
 refine ψ (TL.l z z (ω z (nJ z z) (ω z (aS z um_ z) (ω z (aZ z Ze z (i:=0) z z) (ω z (eqlNil z underlying90 z z) (ε (TC.f z (ψ (TL.l z z (ω z (nJ z z) (ω z (aS z um_ z) (ω z (aZ z Ze z (i:=0) z z) (TL.l z z (ω z (dh_ z underlying90 VR z z) (ε ?_)))))))))))))))
 refine TC.f z (ι ?_)
 obtain rfl:=so hh
 exact RetOk.mk' (rs:=[]) [κ cO #[uq true cO,.slice aA x0.buf.length ay] 92,dW 5 kE aA ay x0.buf] z (.inr z) RVs.nil (List.sublist_append_left _ _) ⟨true,aA,ay,z,z,z⟩
def it_(x0:SB):Option SB:=ip_ x0
theorem kr_{σ:aj}{x0:SB}{zI:Bool}{r:SB}(hh:it_ x0=some r):
  Con prog 94 #[loc cO 0] σ [κ cO #[uq zI cO,.slice aU x0.buf.length bD] 92,dW 5 kE aU bD x0.buf] (λv σ' H'=> ∃(Jo:Bool), ∃Dw co3,v= .tuple #[]/\σ=σ'/\H'=[κ cO #[uq Jo cO,.slice Dw r.buf.length co3] 92,dW 5 kE Dw co3 r.buf]):=by
 cases zI
 ·exact on_ hh
 exact oo_ hh
def zA(x0:SB)(x1:T_1):Option (Int×Unit×SB):=
 grd (x1.length<=281474976710656) (bnd (it_ (⟨x0.buf⟩:SB)) (λv4=>grd (v4.buf.length+x1.length<=140737488355328) (some (((x1.length:Nat):Int),(),(⟨(v4.buf++x1)⟩:SB)))))
theorem PK{σ:aj}{x0:SB}{zI:Bool}{x1:T_1}{r:Int×Unit×SB}(hh:zA x0 x1=some r):
  Con prog 53 #[loc cO 0,.string (bs x1)] σ [κ cO #[uq zI cO,.slice aU x0.buf.length bD] 92,dW 5 kE aU bD x0.buf] (λv σ' H'=> ∃(Jo:Bool), ∃Dw co3,v= .tuple #[.int .i64 r.1,.nilIface]/\σ=σ'/\H'=[κ cO #[uq Jo cO,.slice Dw r.2.2.buf.length co3] 92,dW 5 kE Dw co3 r.2.2.buf]):=by
 dsimp only [zA]at hh
 refine Con.mk (n:=19) Tryz.func53 z z z (λw0=> ?_)
 have x1b:=H7 hh
 replace hh:=Hz hh
 refine ψ (ξ z z (ω z (OpVal.mv (.inr z)) (ε (ψ (TL.l z z (θ 1 z z (θ 1 z z ?_)))))))
 obtain ⟨v4,u4,hh⟩:=dM hh
 refine ν z (OpOk.call (kr_ u4) z z pf94 z z z z ?_)
 rintro _ _ _ La ⟨u104_1,a104_2,c104_3,rfl,rfl,rfl⟩
 refine ε (ψ (TL.l z z (TL.l z z (ω z (nJ z z) (ω z (aS z Z7 z) (ω z (aZ z Qc z (i:=0) z z) (ω z (eu (.inl z) z) (θ 1 z z ?_))))))))
 obtain ⟨u11,hh⟩:=aP hh
 refine ν z (cu_ z Ho kK Ju by5 MX z z z z u11 (λkC c107=> ?_))
 refine ω z (nJ z z) (ω z (aS z Z7 z) (θ 1 z z (ν z (gK z sz60 z z z z z ?_))))
 refine ε (ψ (ω z (eu (.inl z) z) (ω z (rY z kK z) (ξ z z (ω z (OpVal.mv (.inr z)) (ε (TC.ret ?_)))))))
 obtain rfl:=so hh
 exact ro [κ cO #[uq u104_1 cO,.slice kC ((v4.buf++x1).length) c107] 92,dW 5 kE kC c107 (v4.buf++x1)] z (RVs.tmp z (RVs.tmp z RVs.nil)) ⟨u104_1,kC,c107,z,z,z⟩
def FN(x0:SB)(x1:UInt8):Option (Unit×SB):=
 bnd (it_ (⟨x0.buf⟩:SB)) (λv3=>grd ((v3.buf.length+[x1].length) * 1<=140737488355328) (some ((),(⟨(v3.buf++[x1])⟩:SB))))
theorem hv_{σ:aj}{x0:SB}{zI:Bool}{x1:UInt8}{r:Unit×SB}(hh:FN x0 x1=some r):
  Con prog 151 #[loc cO 0,.int .u8 ((x1.toNat:Nat):Int)] σ [κ cO #[uq zI cO,.slice aU x0.buf.length bD] 92,dW 5 kE aU bD x0.buf] (λv σ' H'=> ∃(Jo:Bool), ∃Dw co3,v= .nilIface/\σ=σ'/\H'=[κ cO #[uq Jo cO,.slice Dw r.2.buf.length co3] 92,dW 5 kE Dw co3 r.2.buf]):=by
 dsimp only [FN]at hh
 refine Con.mk (n:=17) Tryz.func151 z z z (λw0=> ?_)
 refine ψ (ω z (OpVal.mv (.inr z)) (ε (ψ (TL.l z z (θ 1 z z (θ 1 z z ?_))))))
 obtain ⟨v3,u3,hh⟩:=dM hh
 refine ν z (OpOk.call (kr_ u3) z z pf94 z z z z ?_)
 rintro _ _ _ La ⟨u104_1,a104_2,c104_3,rfl,rfl,rfl⟩
 refine ε (ψ (TL.l z z (TL.l z z (ω z (nJ z z) (ω z (aS z Z7 z) (ω z (aZ z Qc z (i:=0) z z) (ξ z z (ν z (OpOk.lit (enc:=kE) [x1] z Ho Ju MX z z z UL (by decide) (by decide) (0:UInt8) z (by decide) z (by decide) UO (λkC c107=> ?_))))))))))
 refine θ 2 z z ?_
 obtain ⟨u11,hh⟩:=aP hh
 refine ν z (as_ z z Ho Ju by5 MX z z (by decide) z z z (.inr ⟨_,0,z⟩) (by simpa using u11) (by decide) (λa109 Dq=> ?_))
 refine ω z (nJ z z) (ω z (aS z Z7 z) (θ 2 z z (ν z (gK z sz60 z z z z z ?_))))
 refine ε (ψ (ω z (OpVal.mv (.inr z)) (ε (TC.sG (Θ [1,1] 2) (TC.ret ?_)))))
 obtain rfl:=so hh
 exact ro [κ cO #[uq u104_1 cO,.slice a109 ((v3.buf++[x1]).length) Dq] 92,dW 5 kE a109 Dq (v3.buf++[x1])] z (RVs.tmp z RVs.nil) ⟨u104_1,a109,Dq,z,z,z⟩
def WJ(x0:SB):Option (T_1):=
 some x0.buf
theorem ka_{σ:aj}{x0:SB}{zI:Bool}{r:T_1}(hh:WJ x0=some r):
  Con prog 54 #[loc cO 0] σ [κ cO #[uq zI cO,.slice aU x0.buf.length bD] 92,dW 5 kE aU bD x0.buf] (λv σ' H'=>v= .string (bs r)/\σ=σ'/\H'=[]):=by
 dsimp only [WJ]at hh
 refine Con.mk (n:=14) Tryz.func54 z z z (λw0=> ?_)
 refine ψ (ω z (eu (.inr z) z) (ε (ζ (TC.P6 (Hr:=[κ cO #[uq zI cO,.slice aU x0.buf.length bD] 92]) (λr hr=>qG [0] z hr) [] (by kernel_rfl) (Ω 0 z (MI (.inl z) z) z (Ω 1 z (nJ z z) z (Ω 2 z (aS z Z7 z) z (TA.b 3 z (aZ z Qc z (i:=0) z z) z (Ω 5 z (MI (.inl z) z) z (Ω 6 z (nJ z z) z (Ω 7 z (aS z Z7 z) z (TA.b 8 z (aZ z Qc z (i:=0) z z) z (TA.b 9 z (lenC z Ho z) z (TA.front 1 z z (TA.ac 4 z (c2_ z z underlying150 z z z (λsq105 sh106=>(k1 ?_))))))))))))))))))
 refine TA.ac 10 z (unsStr z underlying150 ce5 z z z sh106 z (k0 ?_))
 refine Ω 11 z (eu (.inr z) z) z (TA.dn (S.n (TC.rt 0 ?_)))
 obtain rfl:=so hh
 exact rq [2] ⟨z,z,z⟩
def Vp(x1:T_1)(x0:Seq)(WG:T_1)(lU:Int)(fH:Nat):Option ((T_1×Int×Nat)⊕(T_1×Int×Bool×Int)):=
 aN (decide ((fH:Int)<((x1.length:Nat):Int))) (grd (0<=lU/\lU<(x0.next.length:Int)) (grd ((nth x1 fH 0).toNat<(nth x0.next lU.toNat []).length) (aN (decide ((nth (nth x0.next lU.toNat []) ((nth x1 fH 0).toNat) 0)<0)) (fin (some (([]:T_1),(fH:Int),false,0))) (grd (0<=lU/\lU<(x0.outs.length:Int)) (grd ((nth x1 fH 0).toNat<(nth x0.outs lU.toNat []).length) (bnd (zA (⟨WG⟩:SB) (nth (nth x0.outs lU.toNat []) ((nth x1 fH 0).toNat) [])) (λv60=>nxt (v60.2.2.buf,(nth (nth x0.next lU.toNat []) ((nth x1 fH 0).toNat) 0),(fH+1))))))))) (fin (grd (0<=lU/\lU<(x0.fin.length:Int)) (aN (!(nth x0.fin lU.toNat false)) (some (([]:T_1),((x1.length:Nat):Int),false,0)) (grd (0<=lU/\lU<(x0.tail.length:Int)) (bnd (zA (⟨WG⟩:SB) (nth x0.tail lU.toNat [])) (λv82=>bnd (WJ (⟨v82.2.2.buf⟩:SB)) (λv83=>some (v83,((x1.length:Nat):Int),true,0))))))))
def Fc_(x0:Seq)(x1:T_1):Option (T_1×Int×Bool×Int):=
 grd (x1.length<=281474976710656) (bnd (NG x0) (λv7=>aN (decide (v7≠0)) (some (([]:T_1),0,false,1)) (aN (decide (((x0.next.length:Nat):Int)=0)) (some (([]:T_1),0,false,0)) (bnd (zA (⟨([]:T_1)⟩:SB) x0.front) (λv24=>bC (λq:T_1×Int×Nat=>Vp x1 x0 q.1 q.2.1 q.2.2) (v24.2.2.buf,0,0))))))
theorem Id_{σ:aj}{x0:Seq}{x1:T_1}(au:RZ σ (aB 1 aG bn) (.slice aI x0.next.length aH) x0.next)(aY:RZ σ (aB 1 aJ bF) (.slice aA x0.outs.length aX) x0.outs)(aV:dA σ eq_ aU ay x0.fin)(aQ:dA σ aJ bJ bD x0.tail){r:T_1×Int×Bool×Int}(hh:Fc_ x0 x1=some r):
  Con prog 19 #[.agg (oI x0 aI aH aA aX aU ay bJ bD),.string (bs x1)] σ [] (jQ (.tuple #[.string (bs r.1),.int .i64 r.2.1,.bool r.2.2.1,.int .i64 r.2.2.2]) σ):=by
 dsimp only [Fc_]at hh
 have f0_0b:=au.big
 have f0_1b:=aY.big
 have f0_2b:=aV.rv.big
 have f0_3b:=aQ.rv.big
 refine Con.mk (n:=70) Tryz.func19 z z z (λw0=> ?_)
 have x1b:=H7 hh
 replace hh:=Hz hh
 refine ψ (ν z (boxA z z z z (λbG=> ?_)))
 refine ω z (eu (.inr z) z) (ξ z z (TL.j z z (ξ z z (ε (ζ (ψ (ω z (kG z ji fE z (i:=0) z z) ?_)))))))
 obtain ⟨v7,u7,hh⟩:=dM hh
 refine ν z (jF (Ej_ (x0:=x0) au aY aV aQ u7) z z JC z z z ?_)
 refine ω z (OpVal.neq z z z) (ε (TC.cD z hh (λiI hh=> ?_) (λiI hh=> ?_)))
 ·refine ψ (ω z (eu (.inr z) z) (ξ z z (TL.j z z (ξ z z (ε (TC.rt 0 (S.r ?_)))))))
  obtain rfl:=so hh
  exact rq [4,5,6,7] ⟨z,z,z⟩
 refine ι (S.n (ζ (ψ (ω z (aS z kS z) (ω z (aZ z jT z (i:=0) z z) (ω z (lenC z eU z) (ω z (OpVal.eql z z z) (ε (TC.cD z hh (λgX hh=> ?_) (λgX hh=> ?_))))))))))
 ·refine ψ (ω z (eu (.inr z) z) (ξ z z (TL.j z z (ξ z z (ε (TC.rt 0 (S.r ?_)))))))
  obtain rfl:=so hh
  exact rq [4,5,6,7] ⟨z,z,z⟩
 refine ι (S.n (ψ (ν z (OpOk.alloc z Vz z z (λQa=> ?_)))))
 refine TL.asH (H':=[κ Qa #[uq false Qa,bT] 92,jl bG x0 aI aH aA aX aU ay bJ bD]) z (ε (ψ (ω z (aS z DL z) (ω z (aZ z iG z (i:=1) z z) (TL.nilS 5 1 kE (θ 1 z z ?_))))))
 obtain ⟨v24,u24,hh⟩:=dM hh
 refine ν z (OpOk.call (PK u24) z z Oc z z z z ?_)
 rintro _ _ _ ql ⟨u108_1,a108_2,c108_3,rfl,rfl,rfl⟩
 refine ε (ψ (ξ z z (ε (ζ (ψ (ω z (eu (.inl z) z) (ω z (rY z kK z) (ξ z z (ε (υ (TC.ig (α:=(T_1×Int×Nat)×(Bool×(Option Addr)×Nat)) (rgs [(4,4),(9,3),(24,29)]) (λg=>[(9,.int .i64 g.1.2.1),(24,.int .i64 ((g.1.2.2:Nat):Int))]) (λg=>[jl bG x0 aI aH aA aX aU ay bJ bD,κ Qa #[uq g.2.1 Qa,.slice g.2.2.1 g.1.1.length g.2.2.2] 92,φ 5 1 kE (.slice g.2.2.1 g.1.1.length g.2.2.2) g.1.1]) (λg=>σ) (λg=>bC (λq:T_1×Int×Nat=>Vp x1 x0 q.1 q.2.1 q.2.2) g.1=some r) (λg=>f_ (λq:T_1×Int×Nat=>Vp x1 x0 q.1 q.2.1 q.2.2) g.1) ((v24.2.2.buf,0,0),(u108_1,a108_2,c108_3)) (Θ [1,1,2] 3) z (by repeat (first|exact trivial|refine ⟨z,?_⟩)) hh (λg1 j1 hg1=> ?_))))))))))))
 obtain ⟨⟨WG,lU,fH⟩,⟨u124,a127,Mc⟩⟩:=g1
 have hh:=hg1;clear hg1
 try dsimp only
 obtain ⟨z1,hh,hR1⟩:=gJ hh
 dsimp only [Vp]at hh
 refine χ (i:=2) z (λ_ hb131 _=> ?_)
 refine ψ (ω z (OpVal.lss z z z) (ε (ζ (TC.cD z hh (λuQ hh=> ?_) (λuQ hh=> ?_)))))
 ·refine ι (S.n (ζ (υ (ψ (ξ z z (ξ z z (ε (ζ ?_))))))))
  obtain ⟨u35,hh⟩:=aP hh
  obtain ⟨u40,hh⟩:=aP hh
  refine TC.draw [] (by kernel_rfl) (Ω 0 z (aS z kS z) z (TA.b 1 z (aZ z jT z (i:=0) z z) z (Ω 2 z (dw (.inl z) z) z (TA.b 3 z (OpVal.index z eU fZ z z au.isSl u35.1 u35.2) z ?_))))
  obtain ⟨OX,CZ,hg134⟩:=RZ.seg au lU.toNat (by omega)
  replace CZ:dA _ aG OX.1 OX.2 (nth x0.next lU.toNat []):=CZ
  have hk134b:=CZ.rv.big
  refine TA.b 4 z (OpVal.of (kZ z hs_ z hg134 z) (v':= .slice OX.1 ((nth x0.next lU.toNat []).length) OX.2) z) z (Ω 5 z (eu (.inl z) z) z (Ω 6 z (dw (.inl z) z) z (Ω 7 z (bw_ z kK z z (by omega)) z (TA.b 8 z (bU z b_ dB z z CZ.rv.sl (by omega)) z (TA.b 9 z (fF (0:Int) z fJ z CZ (by omega) z) z (Ω 10 z (dw (.inr z) z) z (TA.dn (S.n (ζ (ψ (ξ z z (ω z (OpVal.lss z z z) (ε (TC.cD z hh (λh135 hh=> ?_) (λh135 hh=> ?_)))))))))))))))
  ·refine ψ (ξ z z (ω z (eu (.inr z) z) (ξ z z (TL.j z z (ξ z z (ε (TC.rt 0 (S.r (B.r (S.r (S.r ?_)))))))))))
   replace hh:=dG hR1 hh
   refine B.r (S.r ?_)
   obtain rfl:=so hh
   exact rq [4,5,6,7] ⟨z,z,z⟩
  refine ι (S.n (ζ ?_))
  obtain ⟨u53,hh⟩:=aP hh
  obtain ⟨u58,hh⟩:=aP hh
  obtain ⟨v60,u60,hh⟩:=dM hh
  refine TC.P6 (Hr:=[jl bG x0 aI aH aA aX aU ay bJ bD]) (λr hr=>qG [0] z hr) [] (by kernel_rfl) (Ω 0 z (aS z oQ z) z (TA.b 1 z (aZ z pI z (i:=0) z z) z (Ω 2 z (dw (.inl z) z) z (TA.b 3 z (OpVal.index z lI mM z z aY.isSl u53.1 u53.2) z ?_))))
  obtain ⟨zK,qo,Ll⟩:=RZ.seg aY lU.toNat (by omega)
  replace qo:dA _ aJ zK.1 zK.2 (nth x0.outs lU.toNat []):=qo
  have hk139b:=qo.rv.big
  refine TA.b 4 z (OpVal.of (kZ z lJ z Ll z) (v':= .slice zK.1 ((nth x0.outs lU.toNat []).length) zK.2) z) z (Ω 5 z (eu (.inl z) z) z (Ω 6 z (dw (.inl z) z) z (Ω 7 z (bw_ z kK z z (by omega)) z (TA.b 8 z (bU z fK fU z z qo.rv.sl (by omega)) z (TA.b 9 z (fF ([]:T_1) z iG z qo (by omega) z) z (TA.front 2 z z (TA.front 2 z z (TA.ac 10 z (OpOk.call (PK u60) z z Oc z z z z ?_)))))))))
  rintro _ _ _ Yq ⟨u140_1,a140_2,c140_3,rfl,rfl,rfl⟩
  refine k2 (TA.dn (S.n (η (ξ z z (ξ z z (TL.nil (B.n (S.n (η (ω z (OpVal.succ z z z (by omega)) (ξ z z (ε ?_))))))))))))
  obtain ⟨hh,Ee⟩:=dO hR1 hh
  exact lf ((v60.2.2.buf,(nth (nth x0.next lU.toNat []) ((nth x1 fH 0).toNat) 0),(fH+1)),(u140_1,a140_2,c140_3)) Ee hh (Θ [1,1,2] 3)
 refine TC.exit (S.x (S.x ?_))
 replace hh:=dG hR1 hh
 refine Δ (S.n (ζ (ψ (ω z (aS z tV z) (ω z (aZ z qV z (i:=0) z z) (ξ z z ?_))))))
 obtain ⟨u68,hh⟩:=aP hh
 refine ω z (OpVal.index z gI gQ z z aV.rv.sl u68.1 u68.2) (ω z (fF false z nG z aV (by omega) z) (ω z (OpVal.not z z) (ε (TC.cB z hh (λh143 hh=> ?_) (λh143 hh=> ?_)))))
 ·refine ψ (ω z (eu (.inl z) z) (ω z (rY z kK z) (ω z (eu (.inr z) z) (ξ z z (TL.j z z (ξ z z (ε (TC.rt 0 (S.r ?_)))))))))
  obtain rfl:=so hh
  exact rq [4,5,6,7] ⟨z,z,z⟩
 refine ι (S.n (ψ (ω z (aS z uh z) (ω z (aZ z lJ z (i:=0) z z) (ξ z z ?_)))))
 obtain ⟨u80,hh⟩:=aP hh
 refine ω z (OpVal.index z fK fU z z aQ.rv.sl u80.1 u80.2) (ω z (fF ([]:T_1) z iG z aQ (by omega) z) (θ 2 z z (θ 2 z z ?_)))
 obtain ⟨v82,Oh,hh⟩:=dM hh
 refine ν z (OpOk.call (PK Oh) z z Oc z z z z ?_)
 rintro _ _ _ Ae ⟨u144_1,a144_2,c144_3,rfl,rfl,rfl⟩
 refine ε (ψ (θ 1 z z (θ 1 z z ?_)))
 obtain ⟨v83,u83,hh⟩:=dM hh
 refine ν z (OpOk.call (ka_ u83) z z V_ z z z z ?_)
 rintro _ _ _ hle146 ⟨rfl,rfl,rfl⟩
 refine ω z (eu (.inl z) z) (ω z (rY z kK z) (ω z (eu (.inr z) z) (ξ z z (TL.j z z (ξ z z (ε (TC.rt 0 ?_)))))))
 obtain rfl:=so hh
 exact rq [4,5,6,7] ⟨z,z,z⟩
end Go.Proofs.YtchebnpdnfhenaaGreatDoor
end

noncomputable section
namespace Go.E
open Go
section
variable {α:Type} {σ:aj} {size m c:Nat} {enc:α->List Value} {a:Option Addr} {l:List α}
end
theorem OpOk.do_{X:Ctx}{e:Env}{σ:aj}{F:List Res}{o:Oper}{x y:Operand}{K:Env->aj->List Res->Prop}{T b k:Nat}{E:TypeId}{cs cs':Array Value}{f:Fn}{xs ys:Array Value}(ho:o.op= .store T x y)(hs:szOf X.P T=some 1)(hd:o.dst=none)(hx:ev e x=loc b k)(hfit:Nat.ble (k+1) cs.size=true)
    (hv:ev e y= .func f xs ys) (hcs:(oP cs.toList k [.func f xs ys]).toArray=cs') (kk:K e σ (κ b cs' E::F)):OpOk X o e σ (κ b cs E::F) K:=OpOk.store1 ho hs hd hx hv rfl rfl hfit hcs kk
def SC(σ:aj)(b:Nat)(cs:Array Value)(E:TypeId):Prop:=σ b=some (.cells cs E (0,0))
theorem SC.big{σ:aj}{b:Nat}{cs:Array Value}{E:TypeId}(_:SC σ b cs E):True:=True.intro
structure YSpec (S:Type) where
  R:S->aj->Res->Prop
  mono: ∀{s σ σ' r},R s σ r->σ.le σ'->R s σ' r
def YR{S:Type}(Z:YSpec S)(s:S)(σ:aj)(r:Res):Prop:=Z.R s σ r
theorem YR.mono{S:Type}{Z:YSpec S}{s:S}{σ σ':aj}{r:Res}(h:YR Z s σ r)(hle:σ.le σ'):YR Z s σ' r:=Z.mono h hle
def YOk (P : Program) (l : Nat) {S α : Type} (A : α -> aj -> List Value -> Prop) (Z : YSpec S) (Y : S -> α -> Option (S × Bool)) : Prop :=
  ∀s x σ r args w s' b,Y s x=some (s',b)->A x σ args->YR Z s σ r->Reach w r.bl σ σ w [r]->
    YieldAt (fence none) 0 P l args.toArray w λe w'=>e= .returned (.bool b)/\ ∃σ' r',YR Z s' σ' r'/\Reach w r.bl σ σ' w' [r']
def x7_ (P : Program) (f : FuncId) (lb : List Value) {S α : Type} (A : α -> aj -> List Value -> Prop) (Y : S -> α -> Option (S × Bool)) (σ : aj) (Hc : List Res) (s s' : S) (Post : aj -> List Res -> Prop) : Prop :=
  ∀(l:Nat) (Z:YSpec S) (r:Res),YOk P l A Z Y->YR Z s σ r->
    Con P f (.func (.yield l) #[] #[]::lb).toArray σ (r::Hc) λ_ σ' H'=> ∃r' Hc',H'=r'::Hc'/\YR Z s' σ' r'/\Post σ' Hc'
theorem OpOk.callY{X:Ctx}{e:Env}{σ:aj}{H F:List Res}{o:Oper}{x:Operand}{K:Env->aj->List Res->Prop}{l d:Nat}{opds:Array Operand}{ts:Array TypeId}{S α:Type}{A:α->aj->List Value->Prop}{Z:YSpec S}{Y:S->α->Option (S×Bool)}{s:S}{q:S×Bool}{v:α}{r:Res}
    (hY:YOk X.P l A Z Y) (hs:YR Z s σ r) (he:Y s v=some q) (ho:o.op= .call {callee:= .value x,args:=opds,argTypes:=ts})
    (hx:ev e x= .func (.yield l) #[] #[]) (hA:A v σ (opds.toList.map (ev e))) (hd:o.dst=some d) (hn:Nat.blt d X.n=true) (hH:r::F=H)
    (k: ∀σ' r',σ.le σ'->YR Z q.1 σ' r'->K (upd e d (.bool q.2)) σ' (r'::F)):OpOk X o e σ H K:=by
  subst hH
  obtain ⟨s',b⟩:=q
  intro u0 C0 τ0 w a hw ha K' Q hK
  have hbl:iJ [r]=r.bl:=by simp [iJ]
  have hself:Reach w r.bl σ σ w [r]:=by
    have:=(hw.sub (H':=[r]) (by simp)).self
    rwa [hbl]at this
  obtain ⟨fn,tmps,assign,body,hrun,hround⟩:=hY s v σ r _ w s' b he hA hs hself
  have hr:(execOp a.eval o).run X.P w= .ok (.round l fn tmps assign body) w:=by
    rw [ha.eval']
    have hl:(opds.toList.map (ev e)).toArray=opds.map (ev e):=by apply Array.ext';simp
    rw [hl]at hrun
    simp [execOp,ho,resolve,hx,Deferred.ofValue,invoke,hrun]
  refine Oper.b1_ hr (λ_=>by simp) ?_
  rw [Oper.uponIn_round]
  refine ⟨λh=>(by cases h),RoundIn.mono (R:=λe w'=>e= .returned (.bool b)/\ ∃σ' r',YR Z s' σ' r'/\Reach w r.bl σ σ' w' [r']) hround ?_⟩
  rintro ex w' ⟨rfl,σ',r',h1,h2⟩
  refine hK _ _ _ _ _ (k σ' r' h2.le h1) (Reach.call (H1:=[r]) (Iu:=[r']) hw (by rw [hbl];exact h2)) (yh ha hd hn _)
def Res.lrec(b:Nat)(o:Obj):Res:=⟨[b],λw=>w.heap[b]? =some o,λw k hk h=>by simp at hk;subst hk;exact (Array.getElem?_eq_some_iff.1 h).1,λw w' hb h=>by rw [hb b (by simp)];exact h⟩
theorem Reach.b2_{w0:World}{C:List Nat}{σ0 σ:aj}{w:World}{l:Nat}{o o':Obj}{F:List Res}(h:Reach w0 C σ0 σ w (Res.lrec l o::F)):Reach w0 C σ0 σ (w.putObj l o') (Res.lrec l o'::F):=by
  have hl:w.heap[l]? =some o:=h.holds _ (jm ..)
  refine h.turn rfl rfl rfl (by simp [World.putObj]) (Nat.le_refl _) (λk _ hk=>World.putObj_heap_other (λe=>hk (by simp [Res.lrec,e]))) (World.putObj_heap_same (Array.getElem?_eq_some_iff.1 hl).1) (λb hb=> .inl hb) (by simp [Res.lrec])
theorem Reach.tail{w0:World}{C:List Nat}{σ0 σ:aj}{w:World}{r:Res}{F:List Res}(h:Reach w0 C σ0 σ w (r::F)):Reach w (iJ F) σ σ w F:=(h.sub (List.sublist_cons_self ..)).self
theorem Reach.ch_{w0:World}{C:List Nat}{σ0 σ σ':aj}{w w':World}{r:Res}{F F':List Res}(h:Reach w0 C σ0 σ w (r::F))(k:Reach w (iJ F) σ σ' w' F'):Reach w0 C σ0 σ' w' (r::F'):=by
  have h1:Reach w0 C σ0 σ w (F++[r]):=h.perm (List.perm_append_singleton r F)
  exact (h1.call k).perm (List.perm_append_singleton r F').symm
def wx_(e:Env)(ps:List Tmp)(vs:List Value):Env:=(ps.zip vs).foldl (λe p=>upd e p.1 p.2) e
theorem St.binds{n:Nat}: ∀(ps:List Tmp) (vs:List Value) {e:Env} {t:Array Value},(∀p∈ps,p<n)->St n e {tmps:=t,defers:=[]}->St n (wx_ e ps vs) {tmps:=(ps.zip vs).foldl (λt p=>t.setIfInBounds p.1 p.2) t,defers:=[]}
  |[],_,_,_,_,h=>h
  |_::_,[],_,_,_,h=>h
  |p::ps,v::vs,e,t,hp,h=>by
    have h1:=h.put (hp p (jm ..)) v
    exact St.binds ps vs (λq hq=>hp q (pF _ hq)) h1
@[reducible]def asgQ(K:Env->aj->List Res->Prop):QP:=λex=>match ex with
  | .normal=>K
  |_=>λ_ _ _=>False
@[reducible]def rndQ(J:List Code)(K:Nat->aj->List Res->Prop):QP:=λex _ σ H=>match ex with
  | .normal=>K 0 σ H
  | .ret=> ∃j,J[j]? =some .ret/\K (j+1) σ H
  | .exit i=> ∃j,J[j]? =some (.exit i)/\K (j+1) σ H
  | .goto i=> ∃j,J[j]? =some (.goto i)/\K (j+1) σ H
  |_=>False
def Nl{S α:Type}(B:S->α->Option (Nat×S))(p:Nat×S)(x:α):Option ((Nat×S)×Bool):=
  if p.1=0 then (B p.2 x).bind λq=>some (q,q.1 == 0) else none
theorem vh_{S α:Type}{B:S->α->Option (Nat×S)}{p p':Nat×S}{x:α}{b:Bool}(h:Nl B p x=some (p',b)):p.1=0/\B p.2 x=some p'/\b=(p'.1 == 0):=by
  unfold Nl at h
  split at h
  · rename_i h0
    cases hb:B p.2 x with
    |none=>simp [hb]at h
    |some q=>simp [hb]at h;exact ⟨h0,by rw [h.1],by rw [<-h.2,h.1]⟩
  cases h
abbrev t_(fn:FuncId)(tmps:Array Value)(ps:Array Tmp)(assign body:Code)(D:Nat)(st:LoopState)(pe:Option Code):Loop:={state:=st,pending:=pe,fn,tmps,params:=ps,assign,body,defers:=D}
def H6(rec:LoopState->Option Code->Loop)(J:List Code)(j:Nat):Obj:= .loop (if j=0 then rec .ready none else rec .done (J[j - 1]?))
def rndZ{S:Type}(l:Nat)(rec:LoopState->Option Code->Loop)(J:List Code)(σs:aj)(G:S->aj->List Res->Prop)(hG: ∀{s σ σ' H},G s σ H->σ.le σ'->G s σ' H):YSpec (Nat×S) where
  R p σ r:= ∃Hs,r=Res.star (Res.lrec l (H6 rec J p.1)::Hs)/\G p.2 σ Hs/\σs.le σ/\(p.1≠0-> ∃c,J[p.1 - 1]? =some c)
  mono:=λ⟨Hs,h1,h2,h3,h4⟩ hle=>⟨Hs,h1,hG h2 hle,h3.trans hle,h4⟩
theorem p8_{w0:World}{C:List Nat}{σ0 σ:aj}{w:World}{l:Nat}{o:Obj}{F:List Res}(h:Reach w0 C σ0 σ w (Res.lrec l o::F)):l∉iJ F/\σ l=none:=by
  have hn:=h.nodup
  simp only [iJ,List.flatMap_cons,Res.lrec,List.cons_append,List.nil_append,List.nodup_cons]at hn
  exact ⟨hn.1,h.apart _ (jm ..) l (by simp [Res.lrec])⟩
theorem yOk_of {P : Program} {n l : Nat} {S α : Type} {A : α -> aj -> List Value -> Prop} {J : List Code} {B : S -> α -> Option (Nat × S)} {σs : aj} {G : S -> aj -> List Res -> Prop} {hG : ∀ {s σ σ' H}, G s σ H -> σ.le σ' -> G s σ' H} {fn : FuncId} {ps : Array Tmp} {assign body : Code} {e : Env} {tmps : Array Value} {D : Nat}
    (hst:St n e {tmps:=tmps,defers:=[]}) (hps: ∀p∈ps.toList,p<n) (hA: ∀x σ vs,A x σ vs->vs.length=ps.size)
    (hbody: ∀(w0:World) (C:List Nat) (τ σ:aj) (s:S) (x:α) (q:Nat×S) (vs:List Value) (Hs:List Res),B s x=some q->σs.le σ->A x σ vs->G s σ Hs->
      TC ⟨P,w0,C,τ,n,some l,none⟩ (asgQ λe σ H=> ∀w0 C τ,TC ⟨P,w0,C,τ,n,some l,none⟩ (rndQ J λj σ H=>q.1=j/\G q.2 σ H) body e σ H) assign (wx_ e ps.toList vs) σ Hs):
    YOk P l A (rndZ l (t_ fn tmps ps assign body D) J σs G hG) (Nl B):=by
  rintro p x σ r args w p' b hy hax ⟨Hs,rfl,hg,hle, -⟩ hw
  obtain ⟨hp0,hB,rfl⟩:=vh_ hy
  rw [hp0]at hw
  have hw1:Reach w (Res.star (Res.lrec l (H6 (t_ fn tmps ps assign body D) J 0)::Hs)).bl σ σ w (Res.lrec l (.loop (t_ fn tmps ps assign body D .ready none))::Hs):=by
    have:=hw.Vd
    rw [List.append_nil]at this
    exact this
  have hlen:=hA x σ args hax
  have hl1:w.heap[l]? =some (.loop (t_ fn tmps ps assign body D .ready none)):=hw1.holds _ (jm ..)
  have hy:=run_yield (P:=P) (args:=args.toArray) hl1 (by simpa using hlen)
  refine ⟨fn,_,assign,body,hy,roundIn_of_wpIn trivial ?_⟩
  have hz:(ps.zip args.toArray).foldl (λt (p,v)=>t.setIfInBounds p v) tmps=(ps.toList.zip args).foldl (λt p=>t.setIfInBounds p.1 p.2) tmps:=by
    rw [<-Array.foldl_toList,Array.toList_zip]
  have hS:St n (wx_ e ps.toList args) {tmps:=(ps.zip args.toArray).foldl (λt (p,v)=>t.setIfInBounds p v) tmps,defers:=[]}:=by
    rw [hz];exact St.binds _ _ hps hst
  refine wpIn_mono (hbody w (iJ Hs) σ σ p.2 x p' args Hs hB hle hax hg w _ ⟨hw1.tail,⟨λ_=>⟨[],rfl,List.nodup_nil,by simp⟩,(λ_ h=>by cases h),λl' hl'=> ?_⟩⟩ hS) ?_
  · cases hl';exact ⟨rfl,⟨_,hl1⟩,(p8_ hw1).1,(p8_ hw1).2⟩
  rintro ex a2 w2 ⟨e2,σ2,H2,hS2,hw2,hq2⟩
  cases ex with
  |normal=>
    have hw2':=hw1.ch_ hw2.toReach
    have hl2:w2.heap[l]? =some (.loop (t_ fn tmps ps assign body D .ready none)):=hw2'.holds _ (jm ..)
    have hw3:=hw2'.b2_ (o':= .loop (t_ fn tmps ps assign body D .busy none))
    have hl3:(w2.putObj l (.loop (t_ fn tmps ps assign body D .busy none))).heap[l]? =some (.loop (t_ fn tmps ps assign body D .busy none)):=hw3.holds _ (jm ..)
    have hd2:a2.defers=[]:=(hw2.marks.rc l rfl).1
    refine ⟨_,run_beginRound hl2 rfl,?_⟩
    refine wpIn_mono (hq2 _ (iJ H2) σ2 _ a2 ⟨hw3.tail,⟨λ_=>⟨[],by rw [hd2];rfl,List.nodup_nil,by simp⟩,(λ_ h=>by cases h),λl' hl'=> ?_⟩⟩ hS2) ?_
    · cases hl';exact ⟨hd2,⟨_,hl3⟩,(p8_ hw3).1,(p8_ hw3).2⟩
    rintro ex a4 w4 ⟨e4,σ4,H4,hS4,hw4,hq4⟩
    have WQ:=hw3.ch_ hw4.toReach
    have hl4:w4.heap[l]? =some (.loop (t_ fn tmps ps assign body D .busy none)):=WQ.holds _ (jm ..)
    have fin: ∀(jump:Option Code) (j:Nat),p'.1=j->(j=0->jump=none)->(j≠0->jump=J[j - 1]? /\ ∃c,jump=some c)->G p'.2 σ4 H4-> ∃v w',(Instr.endRound l jump).run P w4= .ok v w'/\(Ending.returned v= .returned (.bool (p'.1 == 0))/\ ∃σ' r',YR (rndZ l (t_ fn tmps ps assign body D) J σs G hG) p' σ' r'/\Reach w (Res.star (Res.lrec l (H6 (t_ fn tmps ps assign body D) J p.1)::Hs)).bl σ σ' w' [r']):=λjump j h1 h2 h3 h4=>by
      have h6:Obj.loop (t_ fn tmps ps assign body D (if jump.isNone then .ready else .done) jump)=H6 (t_ fn tmps ps assign body D) J p'.1:=by
        unfold H6
        rw [h1]
        by_cases h0:j=0
        · rw [if_pos h0,h2 h0];rfl
        obtain ⟨h7,c,h8⟩:=h3 h0
        rw [if_neg h0,<-h7,h8];rfl
      refine ⟨_,_,run_endRound jump hl4,?_,σ4,Res.star (Res.lrec l (H6 (t_ fn tmps ps assign body D) J p'.1)::H4),⟨H4,rfl,h4,hle.trans WQ.le,λh=> ?_⟩,?_⟩
      · rw [h1]
        by_cases h0:j=0
        · rw [h2 h0,h0];rfl
        obtain ⟨_,c,hc⟩:=h3 h0
        rw [hc];simp [h0]
      · rw [h1]at h ⊢
        obtain ⟨h5,c,h6⟩:=h3 h
        exact ⟨c,by rw [<-h5,h6]⟩
      have h5:=WQ.b2_ (o':= .loop (t_ fn tmps ps assign body D (if jump.isNone then .ready else .done) jump))
      show Reach w _ σ σ4 (w4.putObj l (.loop (t_ fn tmps ps assign body D (if jump.isNone then .ready else .done) jump))) _
      rw [h6]at h5 ⊢
      rw [hp0]
      exact Reach.star (G:=Res.lrec l (H6 (t_ fn tmps ps assign body D) J p'.1)::H4) (F:=[]) (by rw [List.append_nil];exact h5)
    cases ex with
    |normal=>exact fin none 0 hq4.1 (λ_=>rfl) (λh=>absurd rfl h) hq4.2
    |ret=>obtain ⟨j,hj,h1,h2⟩:=hq4;exact fin (some .ret) (j+1) h1 (λh=>by cases h) (λ_=>⟨by simpa using hj.symm,_,rfl⟩) h2
    |exit i=>obtain ⟨j,hj,h1,h2⟩:=hq4;exact fin (some (.exit i)) (j+1) h1 (λh=>by cases h) (λ_=>⟨by simpa using hj.symm,_,rfl⟩) h2
    |goto i=>obtain ⟨j,hj,h1,h2⟩:=hq4;exact fin (some (.goto i)) (j+1) h1 (λh=>by cases h) (λ_=>⟨by simpa using hj.symm,_,rfl⟩) h2
    |panic c=>exact hq4.elim
    |outgrown=>exact hq4.elim
  |exit i=>exact hq2.elim
  |goto i=>exact hq2.elim
  |ret=>exact hq2.elim
  |panic c=>exact hq2.elim
  |outgrown=>exact hq2.elim
@[reducible]def jmpQ(X:Ctx)(Q:QP)(J:List Code):Nat->Env->aj->List Res->Prop
  |0=>Q .normal
  |j+1=>λe σ H=> ∀c,J[j]? =some c->TC X Q c e σ H
theorem TC.rangeFunc {X : Ctx} {Q : QP} {e : Env} {σ : aj} {H Hs Hc : List Res} {S α : Type} {g : Operand} {ps : Array Tmp} {assign body : Code} {f : Nat} {lb : List Value} {A : α -> aj -> List Value -> Prop}
    (J:List Code) (B:S->α->Option (Nat×S)) (G:S->aj->List Res->Prop) {s:S} {q:Nat×S} {PostC:aj->List Res->Prop}
    (hg:ev e g= .func (.func f) #[] lb.toArray) (hp:plainF X.P f=true) (hH:Hs++Hc=H) (hps:ps.toList.all (λp=>Nat.blt p X.n)=true)
    (hG: ∀{s σ σ' H},G s σ H->σ.le σ'->G s σ' H) (h0:G s σ Hs) (hA: ∀x σ vs,A x σ vs->vs.length=ps.size)
    (hit:x7_ X.P f lb A (Nl B) σ Hc (0,s) q PostC)
    (hbody: ∀(l:Nat) (w0:World) (C:List Nat) (τ σ':aj) (s:S) (x:α) (q:Nat×S) (vs:List Value) (Hs:List Res),B s x=some q->σ.le σ'->A x σ' vs->G s σ' Hs->
      TC ⟨X.P,w0,C,τ,X.n,some l,none⟩ (asgQ λe σ H=> ∀w0 C τ,TC ⟨X.P,w0,C,τ,X.n,some l,none⟩ (rndQ J λj σ H=>q.1=j/\G q.2 σ H) body e σ H) assign (wx_ e ps.toList vs) σ' Hs)
    (hdone: ∀σ' Hs' Hc',σ.le σ'->G q.2 σ' Hs'->PostC σ' Hc'->jmpQ X Q J q.1 e σ' (Hs'++Hc')) (hown:X.own=none:=by rfl):TC X Q (.rangeFunc g ps assign body) e σ H:=by
  subst hH
  intro w a hw ha
  have hps': ∀p∈ps.toList,p<X.n:=λp hp=>by
    have:=List.all_eq_true.1 hps p hp
    simpa [Nat.blt_eq]using this
  refine wpIn_rangeFunc λfn _=> ?_
  have key: ∀(l D:Nat) (w1:World) (a1:Act),a1.tmps=a.tmps->RM X a1 σ w1 (Res.lrec l (.loop (t_ fn a.tmps ps assign body D .ready none))::(Hs++Hc))->
      CallsIn (fence X.rnd) 0 X.P f (#[.func (.yield l) #[] #[]]++lb.toArray) w1 (rangePost (fence X.rnd) 0 X.P l (low X Q) a1):=by
    intro l D w1 a1 ht hw1
    have hcon:=hit l (rndZ l (t_ fn a.tmps ps assign body D) J σ G hG) (Res.star (Res.lrec l (H6 (t_ fn a.tmps ps assign body D) J 0)::Hs))
      (yOk_of ⟨ha.size,ha.get⟩ hps' hA (hbody l)) ⟨Hs,rfl,h0,aj.le.refl _,λh=>absurd rfl h⟩
    have hst:RM X a1 σ w1 (Res.star (Res.lrec l (H6 (t_ fn a.tmps ps assign body D) J 0)::Hs)::Hc):=hw1.by λ_ k=>Reach.star (G:=Res.lrec l (H6 (t_ fn a.tmps ps assign body D) J 0)::Hs) (F:=Hc) k
    have hcall:=hcon w1 hst.self
    have hargs:(Value.func (.yield l) #[] #[]::lb).toArray= #[.func (.yield l) #[] #[]]++lb.toArray:=by apply Array.ext';simp
    rw [hargs]at hcall
    refine hb_.2 (hcall.mono ?_)
    rintro ex w2 ⟨v,σ2,H2,rfl,⟨r',Hc',rfl,⟨Hs',rfl,hg2,hle,hJ⟩,hpc⟩,hw2⟩
    have hw3:RM X a1 σ2 w2 (Res.lrec l (H6 (t_ fn a.tmps ps assign body D) J q.1)::(Hs'++Hc')):=(hst.step hw2 rfl).by λ_ k=>k.Vd
    have hl:w2.heap[l]? =some (H6 (t_ fn a.tmps ps assign body D) J q.1):=hw3.holds _ (jm ..)
    have hS1:St X.n e a1:=⟨by rw [ht];exact ha.size,λt=>by rw [ht];exact ha.get t⟩
    have hw5: ∀o',RM X a1 σ2 (w2.putObj l o') (Hs'++Hc'):=λo'=>hw3.step ((hw3.self.b2_ (o':=o')).sub (List.sublist_cons_self ..)) rfl
    have hfin:=hdone σ2 Hs' Hc' hle hg2 hpc
    unfold H6 at hl
    cases hq:q.1 with
    |zero=>
      rw [hq]at hl hfin
      exact ⟨none,_,run_endLoop hl (by simp),e,σ2,_,hS1,hw5 _,hfin⟩
    |succ j=>
      rw [hq]at hl hfin hJ
      obtain ⟨c,hc⟩:=hJ (by simp)
      simp only [Nat.add_sub_cancel,Nat.succ_ne_zero,if_false]at hl hc
      rw [hc]at hl
      exact ⟨some c,_,run_endLoop hl (by simp),hfin c hc _ a1 (hw5 _) hS1⟩
  have hnew: ∀k,k<w.heap.size\/True:=λ_=> .inr trivial
  have hres: ∀l w1,(resolve a.eval (rangeCall g l) 0).run X.P w1= .ok {target:= .fn (.func f) lb.toArray,args:= #[.func (.yield l) #[] #[]]} w1:=λl w1=>by
    rw [ha.eval']
    simp only [resolve,hg]
    simp [go_sem,Deferred.ofValue,ev]
  have hinv: ∀l w1,(invoke (.fn (.func f) lb.toArray) #[.func (.yield l) #[] #[]]).run X.P w1= .ok (.enter f (#[.func (.yield l) #[] #[]]++lb.toArray)) w1:=λl w1=>by
    simp [invoke,U_ hp]
  cases hr:X.rnd with
  |none=>
    refine ⟨w.heap.size+1,_,_,_,_,f,_,_,run_enterLoop_outer _ _ _ _ _,hres _ _,λ_ _=>trivial,hinv _ _,(λh=>by cases h),hr▸key (w.heap.size+1) w.heap.size _ _ rfl ?_⟩
    have hsz:((w.alloc (.deferred (some []))).heap.size)=w.heap.size+1:=by simp
    have hold: ∀k,k<w.heap.size->((w.alloc (.deferred (some []))).alloc (.loop (t_ fn a.tmps ps assign body w.heap.size .ready none))).heap[k]? =w.heap[k]? :=λk hk=>by
      rw [gi_ _ _ _ (by omega),gi_ _ _ _ hk]
    have hR:Reach w (iJ (Hs++Hc)) σ σ ((w.alloc (.deferred (some []))).alloc (.loop (t_ fn a.tmps ps assign body w.heap.size .ready none))) (Res.lrec (w.heap.size+1) (.loop (t_ fn a.tmps ps assign body w.heap.size .ready none))::(Hs++Hc)):=
      hw.self.gain rfl rfl rfl (by simp;omega) (Nat.le_refl _) hold (by
        have:=World.alloc_heap_new (w.alloc (.deferred (some []))) (.loop (t_ fn a.tmps ps assign body w.heap.size .ready none))
        rw [hsz]at this;exact this) (λb hb=>by simp [Res.lrec]at hb;omega) (by simp [Res.lrec])
    have h1:=hw.step hR (a':=a) rfl
    refine ⟨h1.toReach,⟨λ_=> ?_,(λ_ h=>by rw [hown]at h;cases h),λl hl=>by rw [hr]at hl;cases hl⟩⟩
    obtain ⟨Ds,g1,g2,g3⟩:=h1.marks.ex hown
    obtain ⟨Ds0,g10,g20,g30⟩:=hw.marks.ex hown
    have hDs:Ds=Ds0:=by
      have:=g1.symm.trans g10
      have h2: ∀(A B:List Nat),A.map (λD=>({target:= .collected D,args:= #[]}:Deferred))=B.map (λD=>({target:= .collected D,args:= #[]}:Deferred))->A=B:=λA=>by
        induction A with
        |nil=>intro B h;cases B with
          |nil=>rfl
          |cons b B=>simp at h
        |cons a A ih=>intro B h;cases B with
          |nil=>simp at h
          |cons b B=>simp only [List.map_cons,List.cons.injEq,Deferred.mk.injEq,Target.collected.injEq,and_true]at h;rw [h.1,ih B h.2]
      exact h2 _ _ this
    subst hDs
    refine ⟨w.heap.size::Ds,by simp [g1],List.nodup_cons.2 ⟨λhx=> ?_,g2⟩,λD hD=> ?_⟩
    · have:=(Array.getElem?_eq_some_iff.1 (g30 _ hx).1).1;omega
    rcases List.mem_cons.1 hD with rfl|hD
    · refine ⟨?_,hw.size,λhx=> ?_,?_⟩
      · rw [gi_ _ _ _ (by omega)];exact World.alloc_heap_new w _
      · simp only [iJ,List.flatMap_cons,Res.lrec,List.cons_append,List.nil_append,List.mem_cons]at hx
        rcases hx with hx|hx
        · omega
        obtain ⟨r,hr',hb⟩:=yQ.1 hx
        have:=hw.block_lt hr' hb;omega
      cases hs:σ w.heap.size with
      |none=>rfl
      |some o=>have:=(Array.getElem?_eq_some_iff.1 (hw.fit _ _ hs)).1;omega
    exact g3 D hD
  |some l0=>
    obtain ⟨hd0,⟨r0,h1⟩,h2,h3⟩:=hw.marks.rc l0 hr
    refine ⟨w.heap.size,_,_,_,_,f,_,_,run_enterLoop_inner h1 _ _ _ _ _,hres _ _,λ_ _=>trivial,hinv _ _,(λh=>by cases h),hr▸key w.heap.size r0.defers _ a rfl ?_⟩
    refine hw.step (hw.self.gain rfl rfl rfl (by simp) (Nat.le_refl _) (λk hk=>gi_ _ _ _ hk) (World.alloc_heap_new w _) (λb hb=>by simp [Res.lrec]at hb;omega) (by simp [Res.lrec])) rfl
theorem TC.rangeG{X:Ctx}{Q:QP}{e:Env}{σ:aj}{H Hs Hc:List Res}{S α:Type}{g:Operand}{ps:Array Tmp}{assign body:Code}{f:Nat}{lb:List Value}{A:α->aj->List Value->Prop}
    (J:List Code) (B:S->α->Option (Nat×S)) (G:S->aj->List Res->Prop) {s:S} {q:Nat×S} {PostC:aj->List Res->Prop}
    (hg:ev e g= .func (.func f) #[] lb.toArray) (hp:plainF X.P f=true) (hH:Hs++Hc=H) (hps:ps.toList.all (λp=>Nat.blt p X.n)=true)
    (hG: ∀{s σ σ' H},G s σ H->σ.le σ'->G s σ' H) (h0:G s σ Hs) (hA: ∀x σ vs,A x σ vs->vs.length=ps.size)
    (hit:x7_ X.P f lb A (Nl B) σ Hc (0,s) q PostC)
    (hbody: ∀(l:Nat) (w0:World) (C:List Nat) (τ σ':aj) (s:S) (x:α) (q:Nat×S) (vs:List Value) (Hs:List Res),B s x=some q->σ.le σ'->A x σ' vs->G s σ' Hs->
      TC ⟨X.P,w0,C,τ,X.n,some l,none⟩ (asgQ λe σ H=> ∀w0 C τ,TC ⟨X.P,w0,C,τ,X.n,some l,none⟩ (rndQ J λj σ H=>q.1=j/\ ∃F,Sub F H/\G q.2 σ F) body e σ H) assign (wx_ e ps.toList vs) σ' Hs)
    (hdone: ∀σ' Hs' Hc',σ.le σ'->G q.2 σ' Hs'->PostC σ' Hc'->jmpQ X Q J q.1 e σ' (Hs'++Hc')) (hown:X.own=none:=by rfl):TC X Q (.rangeFunc g ps assign body) e σ H:=by
  refine TC.rangeFunc J B G hg hp hH hps hG h0 hA hit (λl w0 C τ σ' s x q vs Hs h1 h2 h3 h4=>(hbody l w0 C τ σ' s x q vs Hs h1 h2 h3 h4).weak λex e σ H h=> ?_) hdone hown
  cases ex with
  |normal=>
    refine λw0 C τ=>TC.c4_ ((h w0 C τ).weak λex e σ H h=> ?_)
    cases ex with
    |normal=>obtain ⟨h1,F,hs,hg⟩:=h;exact ⟨F,hs,h1,hg⟩
    |ret=>obtain ⟨j,hj,h1,F,hs,hg⟩:=h;exact ⟨F,hs,j,hj,h1,hg⟩
    |exit i=>obtain ⟨j,hj,h1,F,hs,hg⟩:=h;exact ⟨F,hs,j,hj,h1,hg⟩
    |goto i=>obtain ⟨j,hj,h1,F,hs,hg⟩:=h;exact ⟨F,hs,j,hj,h1,hg⟩
    |panic c=>exact h.elim
    |outgrown=>exact h.elim
  |exit i=>exact h
  |goto i=>exact h
  |ret=>exact h
  |panic c=>exact h
  |outgrown=>exact h
theorem asg_n{K:Env->aj->List Res->Prop}{e:Env}{σ:aj}{H:List Res}(h:K e σ H):asgQ K .normal e σ H:=h
theorem rnd_n{J:List Code}{K:Nat->aj->List Res->Prop}{e:Env}{σ:aj}{H:List Res}(h:K 0 σ H):rndQ J K .normal e σ H:=h
def jsel{α:Type}:Nat->Option α->(Nat->Option α)->Option α
  |0,a,_=>a
  |n+1,_,b=>b n
theorem xn_{X:Ctx}{Q:QP}{J:List Code}{n:Nat}{e:Env}{σ:aj}{H:List Res}{α:Type}{a:Option α}{b:Nat->Option α}{r:α}(hh:jsel n a b=some r)
    (h0:a=some r->Q .normal e σ H) (h1: ∀m c,b m=some r->J[m]? =some c->TC X Q c e σ H):jmpQ X Q J n e σ H:=by
  cases n with
  |zero=>exact h0 hh
  |succ m=>exact λc hc=>h1 m c hh hc
theorem jl_nil{X:Ctx}{Q:QP}{c:Code}{m:Nat}{e:Env}{σ:aj}{H:List Res}(hc:([]:List Code)[m]? =some c):TC X Q c e σ H:=by simp at hc
end Go.E
end

noncomputable section
namespace Go.Proofs.YtchebnpdnfhenaaGreatDoor
open Go Go.E Go.E.OpVal Go.E.OpOk Go.Proofs.Tryz
open List (replicate)
theorem Vf:aggOf Tryz.prog 147=some false:=by kernel_rfl
theorem uV:byOf Tryz.prog 3=some 8:=by kernel_rfl
theorem mV:byOf Tryz.prog 86=some 24:=by kernel_rfl
theorem pf122:plainF Tryz.prog 122=true:=by kernel_rfl
theorem SQ:plainF Tryz.prog 123=true:=by kernel_rfl
theorem SE:plainF Tryz.prog 152=true:=by kernel_rfl
theorem pf56:plainF Tryz.prog 56=true:=by kernel_rfl
theorem pf85:plainF Tryz.prog 85=true:=by kernel_rfl
theorem Ov:plOf Tryz.prog 66=some #[(0,1),(1,1),(2,4),(6,1),(7,1)]:=by kernel_rfl
theorem JB:plOf Tryz.prog 76=some #[(0,1),(1,1)]:=by kernel_rfl
theorem sz147:szOf Tryz.prog 147=some 1:=by kernel_rfl
theorem Jv:szOf Tryz.prog 22=some 1:=by kernel_rfl
theorem Oa:szOf Tryz.prog 23=some 1:=by kernel_rfl
theorem jC:szOf Tryz.prog 27=some 1:=by kernel_rfl
theorem Js:szOf Tryz.prog 29=some 1:=by kernel_rfl
theorem ze147:zeroOf Tryz.prog 147=some (.nilFunc):=by kernel_rfl
theorem qQ:zeroOf Tryz.prog 27=some (bT):=by kernel_rfl
theorem VB:zeroOf Tryz.prog 29=some (bT):=by kernel_rfl
theorem lq:zeroOf Tryz.prog 86=some (bT):=by kernel_rfl
def QK(x2:bZ)(x0:Int)(self_:Int->B_1->bZ->Option B_1)(JH:B_1)(rD:Nat):Option ((B_1×Nat)⊕(B_1)):=
 aN (decide ((rD:Int)<(((nth x2 x0.toNat []).length:Nat):Int))) (bnd (self_ (nth (nth x2 x0.toNat []) rD 0) JH x2) (λv21=>nxt (v21,(rD+1)))) (fin (some JH))
def Eb_(self_:Int->B_1->bZ->Option B_1)(x0:Int)(x1:B_1)(x2:bZ):Option (B_1):=
 grd (0<=x0/\x0<(x1.length:Int)) (aN (nth x1 x0.toNat false) (some x1) (grd (0<=x0/\x0<(x1.length:Int)) (grd (0<=x0/\x0<(x2.length:Int)) (bC (λq:B_1×Nat=>QK x2 x0 self_ q.1 q.2) ((x1.set x0.toNat true),0)))))
def QO:Nat->Int->B_1->bZ->Option B_1
 |0=>λ_ _ _=>none
 |n+1=>Eb_ (QO n)
theorem Hm_ {self_:Int->B_1->bZ->Option B_1} (self__con: ∀{σ:aj} {x0:Int} {x1:B_1} {fQ:Nat} {uY:Nat} {iL:Option Addr} {iK:Nat} {x2:bZ} {jw:Nat} {zH:Nat} {lH:Option Addr} {lF:Nat} {jv:Nat} {zG:Nat} (vW:RZ σ (aB 1 aG bn) (.slice lH x2.length lF) x2) {r:B_1} (hh:self_ x0 x1 x2=some r),
  Con prog 152 #[.int .i64 x0,loc fQ 0,loc jw 0,loc jv 0] σ [κ fQ #[.slice iL x1.length iK] uY,dW 4 eq_ iL iK x1,κ jw #[.slice lH x2.length lF] zH,κ jv #[.func (.func 152) #[] #[loc fQ 0,loc jw 0,loc jv 0]] zG] (λv σ' H'=> ∃Dx Dp,v= .tuple #[]/\σ=σ'/\H'=[κ fQ #[.slice Dx r.length Dp] uY,dW 4 eq_ Dx Dp r,κ jw #[.slice lH x2.length lF] zH,κ jv #[.func (.func 152) #[] #[loc fQ 0,loc jw 0,loc jv 0]] zG])) {σ:aj} {x0:Int} {x1:B_1} {fQ:Nat} {uY:Nat} {iL:Option Addr} {iK:Nat} {x2:bZ} {jw:Nat} {zH:Nat} {lH:Option Addr} {lF:Nat} {jv:Nat} {zG:Nat} (vW:RZ σ (aB 1 aG bn) (.slice lH x2.length lF) x2) {r:B_1} (hh:Eb_ self_ x0 x1 x2=some r):
  Con prog 152 #[.int .i64 x0,loc fQ 0,loc jw 0,loc jv 0] σ [κ fQ #[.slice iL x1.length iK] uY,dW 4 eq_ iL iK x1,κ jw #[.slice lH x2.length lF] zH,κ jv #[.func (.func 152) #[] #[loc fQ 0,loc jw 0,loc jv 0]] zG] (λv σ' H'=> ∃Dx Dp,v= .tuple #[]/\σ=σ'/\H'=[κ fQ #[.slice Dx r.length Dp] uY,dW 4 eq_ Dx Dp r,κ jw #[.slice lH x2.length lF] zH,κ jv #[.func (.func 152) #[] #[loc fQ 0,loc jw 0,loc jv 0]] zG]):=by
 dsimp only [Eb_]at hh
 have f2_3b:=vW.big
 refine Con.mk (n:=27) Tryz.func152 z z z (λw0=> ?_)
 refine TC.c4_ (ζ (ψ (ω z (aZ z qV z (i:=0) z z) (ξ z z ?_))))
 obtain ⟨u3,hh⟩:=aP hh
 refine TL.isSl (i:=1) z (λhs107 _ _=> ?_)
 refine ω z (OpVal.index z gI gQ z z hs107 u3.1 u3.2) (ω z (og false z nG z (q:=1) z jc (by omega) z) (ε (TC.cB z hh (λdU hh=> ?_) (λdU hh=> ?_))))
 ·refine TC.ret (S.r ?_)
  obtain rfl:=so hh
  refine ⟨_,Θ [3,3,3,3] 4,?_⟩
  exact ro [κ fQ #[.slice iL x1.length iK] uY,dW 4 eq_ iL iK x1,κ jw #[.slice lH x2.length lF] zH,κ jv #[.func (.func 152) #[] #[loc fQ 0,loc jw 0,loc jv 0]] zG] z RVs.nil ⟨iL,iK,z,z,z⟩
 refine ι (S.n (ψ (ω z (aZ z qV z (i:=0) z z) (ξ z z ?_))))
 obtain ⟨u7,hh⟩:=aP hh
 refine TL.isSl (i:=1) z (λhs109 _ _=> ?_)
 refine ω z (OpVal.index z gI gQ z z hs109 u7.1 u7.2) (θ 1 z z ?_)
 have hn110:(x1.set x0.toNat true).length=x1.length:=by rw [gy]
 refine ν z (lG true z gQ z z z z jc qZ (by omega) (by omega) ?_)
 refine ε (ψ (ω z (aZ z jT z (i:=2) z z) (ξ z z ?_)))
 obtain ⟨u11,hh⟩:=aP hh
 refine ω z (OpVal.index z eU fZ z z vW.isSl u11.1 u11.2) ?_
 obtain ⟨O8,Df,hg111⟩:=RZ.seg vW x0.toNat (by omega)
 replace Df:dA _ aG O8.1 O8.2 (nth x2 x0.toNat []):=Df
 have hk111b:=Df.rv.big
 refine ω z (OpVal.of (kZ z hs_ z hg111 z) (v':= .slice O8.1 ((nth x2 x0.toNat []).length) O8.2) z) (ω z (lenC z b_ z) (ξ z z (ε (υ ?_))))
 rw [<-hn110]
 refine TC.ig (α:=(B_1×Nat)×((Option Addr)×Nat)) (rgs [(6,1),(19,8)]) (λg=>[(19,.int .i64 ((g.1.2:Nat):Int))]) (λg=>[κ jv #[.func (.func 152) #[] #[loc fQ 0,loc jw 0,loc jv 0]] zG,κ fQ #[.slice g.2.1 g.1.1.length g.2.2] uY,φ 4 1 eq_ (.slice g.2.1 g.1.1.length g.2.2) g.1.1,κ jw #[.slice lH x2.length lF] zH]) (λg=>σ) (λg=>bC (λq:B_1×Nat=>QK x2 x0 self_ q.1 q.2) g.1=some r) (λg=>f_ (λq:B_1×Nat=>QK x2 x0 self_ q.1 q.2) g.1) (((x1.set x0.toNat true),0),(iL,iK)) (Θ [2,1,2,3] 4) z (by repeat (first|exact trivial|refine ⟨z,?_⟩)) hh (λg1 j1 hg1=> ?_)
 obtain ⟨⟨JH,rD⟩,⟨Zv,Y2⟩⟩:=g1
 have hh:=hg1;clear hg1
 try dsimp only
 obtain ⟨z1,hh,hR1⟩:=gJ hh
 dsimp only [QK]at hh
 refine χ (i:=2) z (λ_ Dl _=> ?_)
 refine ψ (ω z (OpVal.lss z z z) (ε (ζ (TC.cD z hh (λrV hh=> ?_) (λrV hh=> ?_)))))
 ·refine ι (S.n (ζ (υ (ψ (ω z (bU z b_ dB z z Df.rv.sl (by omega)) (ω z (fF (0:Int) z fJ z Df (by omega) z) (ξ z z (ε (η (ω z (aZ z Vf z (i:=0) z z) (ξ z z (θ 3 z z (θ 3 z z (θ 3 z z ?_))))))))))))))
  obtain ⟨v21,u21,hh⟩:=dM hh
  refine ν z (OpOk.call (self__con vW u21) z z SE z z z z ?_)
  rintro _ _ _ qh ⟨a130_1,c130_2,rfl,rfl,rfl⟩
  refine TL.nil (B.n (S.n (η (ω z (OpVal.succ z z z (by omega)) (ξ z z (ε ?_))))))
  obtain ⟨hh,Em⟩:=dO hR1 hh
  exact lf ((v21,(rD+1)),(a130_1,c130_2)) Em hh (Θ [2,2,2,3] 4)
 refine TC.exit (S.x (S.x ?_))
 replace hh:=dG hR1 hh
 refine Δ ?_
 obtain rfl:=so hh
 refine ⟨_,Θ [3,3,3] 4,?_⟩
 exact RetOk.mk' (rs:=[]) [κ fQ #[.slice Zv JH.length Y2] uY,dW 4 eq_ Zv Y2 JH,κ jw #[.slice lH x2.length lF] zH,κ jv #[.func (.func 152) #[] #[loc fQ 0,loc jw 0,loc jv 0]] zG] z (.inr z) RVs.nil (List.sublist_append_left _ _) ⟨Zv,Y2,z,z,z⟩
theorem Ho_{n_:Nat}: ∀{σ:aj} {x0:Int} {x1:B_1} {fQ:Nat} {uY:Nat} {iL:Option Addr} {iK:Nat} {x2:bZ} {jw:Nat} {zH:Nat} {lH:Option Addr} {lF:Nat} {jv:Nat} {zG:Nat} (vW:RZ σ (aB 1 aG bn) (.slice lH x2.length lF) x2) {r:B_1} (hh:QO n_ x0 x1 x2=some r),
  Con prog 152 #[.int .i64 x0,loc fQ 0,loc jw 0,loc jv 0] σ [κ fQ #[.slice iL x1.length iK] uY,dW 4 eq_ iL iK x1,κ jw #[.slice lH x2.length lF] zH,κ jv #[.func (.func 152) #[] #[loc fQ 0,loc jw 0,loc jv 0]] zG] (λv σ' H'=> ∃Dx Dp,v= .tuple #[]/\σ=σ'/\H'=[κ fQ #[.slice Dx r.length Dp] uY,dW 4 eq_ Dx Dp r,κ jw #[.slice lH x2.length lF] zH,κ jv #[.func (.func 152) #[] #[loc fQ 0,loc jw 0,loc jv 0]] zG]):=by
 induction n_ with
 |zero=>intro σ x0 x1 fQ uY iL iK x2 jw zH lH lF jv zG vW r hh;exact absurd hh (by intro h_;cases h_)
 |succ k_ ih_=>
  intro σ x0 x1 fQ uY iL iK x2 jw zH lH lF jv zG vW r hh
  exact Hm_ (self_:=QO k_) @ih_ vW hh
def QI(x0:List Tip)(x1:bZ)(lS:B_1)(bV:Nat):Option ((B_1×Nat)⊕(B_1)):=
 aN (decide ((bV:Int)<((x0.length:Nat):Int))) (bnd (QO (lS.length+1) ((nth x0 bV aK).state) lS x1) (λv22=>nxt (v22,(bV+1)))) (fin (some lS))
def Ep_(x0:List Tip)(x1:bZ):Option (B_1):=
 grd (1 * x1.length<=281474976710656) (bC (λq:B_1×Nat=>QI x0 x1 q.1 q.2) ((replicate x1.length false),0))
def If_(σ:aj)(r:B_1):Value->aj->List Res->Prop:=λv σ' H'=>
 ∃a1 c1,v= .slice a1 r.length c1/\σ=σ'/\H'=[dW 4 eq_ a1 c1 r]
theorem Gm_{σ:aj}{x0:List Tip}{x1:bZ}(au:RS σ 2 dJ (.slice aI x0.length aH) x0)(bP:RZ σ (aB 1 aG bn) (.slice eF x1.length dZ) x1){r:B_1}(hh:Ep_ x0 x1=some r):
  Con prog 123 #[.slice aI x0.length aH,.slice eF x1.length dZ] σ [] (If_ σ r):=by
 dsimp only [Ep_]at hh
 have f0_0b:=au.rv.big
 have f1_0b:=bP.big
 refine Con.mk (n:=25) Tryz.func123 z z z (λw0=> ?_)
 refine ψ (ν z (OpOk.box z z z z (λbG=> ?_)))
 refine Φ z z (ε (ψ (ω z (aZ z jT z (i:=0) z z) (ω z (lenC z eU z) ?_))))
 obtain ⟨u5,hh⟩:=aP hh
 refine ν z (pz (enc:=eq_) false z gI gQ G8 AA z z z z (by omega) (by decide) jc (by decide) z qZ (λjE jD=> ?_))
 refine ν z (OpOk.alloc z VB z z (λyA=> ?_))
 refine ν z (gK z Js z z z z z ?_)
 refine ε (ψ (ν z (OpOk.alloc z ze147 z z (λMC=> ?_))))
 refine ε (ψ (ω z (ce_ z) (ν z (do_ z sz147 z z z z z ?_))))
 refine ε (ζ (ψ (Φ z z (ω z (lenC z kX z) (ξ z z (ε (υ (TC.ig (α:=(B_1×Nat)×((Option Addr)×Nat)) (rgs [(8,1),(15,9)]) (λg=>[(15,.int .i64 ((g.1.2:Nat):Int))]) (λg=>[κ yA #[.slice g.2.1 g.1.1.length g.2.2] 29,φ 4 1 eq_ (.slice g.2.1 g.1.1.length g.2.2) g.1.1,κ MC #[.func (.func 152) #[] #[loc yA 0,loc bG 0,loc MC 0]] 147,κ bG #[.slice eF x1.length dZ] 27]) (λg=>σ) (λg=>bC (λq:B_1×Nat=>QI x0 x1 q.1 q.2) g.1=some r) (λg=>f_ (λq:B_1×Nat=>QI x0 x1 q.1 q.2) g.1) (((replicate x1.length false),0),(jE,jD)) (Θ [3,1,3,3] 4) z (by repeat (first|exact trivial|refine ⟨z,?_⟩)) hh (λg1 j1 hg1=> ?_)))))))))
 obtain ⟨⟨lS,bV⟩,⟨a122,c123⟩⟩:=g1
 have hh:=hg1;clear hg1
 try dsimp only
 obtain ⟨z1,hh,hR1⟩:=gJ hh
 dsimp only [QI]at hh
 refine χ (i:=1) z (λ_ hb125 _=> ?_)
 refine ψ (ω z (OpVal.lss z z z) (ε (ζ (TC.cD z hh (λh126 hh=> ?_) (λh126 hh=> ?_)))))
 ·refine ι (S.n (ζ (υ (ψ (ω z (bU z kX jP z z au.rv.sl (by omega)) (ω z (Io aK z DU jP z au (by omega) (by omega)) (ν z (OpOk.alloc z vP z z (λb127=> ?_)))))))))
  refine ν z (storeAll z jP z z z z z z ?_)
  refine ε (η (ω z (aZ z Vf z (i:=3) z z) (ω z (aS z EZ z) (ω z (aZ z fJ z (i:=0) z z) (θ 3 z z (θ 4 z z (θ 4 z z (θ 4 z z ?_))))))))
  obtain ⟨v22,u22,hh⟩:=dM hh
  refine ν z (OpOk.call (Ho_ bP u22) z z SE z z z z ?_)
  rintro _ _ _ qj ⟨a129_1,c129_2,rfl,rfl,rfl⟩
  refine TL.nil (B.n (S.n (η (ω z (OpVal.succ z z z (by omega)) (ξ z z (ε ?_))))))
  obtain ⟨hh,X3⟩:=dO hR1 hh
  exact lf ((v22,(bV+1)),(a129_1,c129_2)) X3 hh (Θ [2,3,3,3] 4)
 refine TC.exit (S.x (S.x ?_))
 replace hh:=dG hR1 hh
 refine Δ (S.n (ψ (ω z (aZ z qV z (i:=0) z z) (Φ z z (ε (TC.sG (Θ [1] 1) (TC.ret ?_)))))))
 obtain rfl:=so hh
 exact ro [dW 4 eq_ a122 c123 lS] z (RVs.tmp z RVs.nil) ⟨a122,c123,z,z,z⟩
def Cr_{Sy:Type}(aW:Nat)(V6:Sy):Option ((Nat×Sy)⊕(Sy)):=
 nxt ((aW+1),V6)
def QL{Sy:Type}(v4:B_1)(v8:B_1)(Y:Sy->Int->Option (Sy×Bool))(aW:Nat)(DR:Sy):Option ((Nat×Sy)⊕(Sy)):=
 aN (decide ((aW:Int)<((v4.length:Nat):Int))) (aN (nth v4 aW false) (grd (aW<v8.length) (aN (nth v8 aW false) (bnd (Y DR (aW:Int)) (λv30=>aN (!v30.2) (fin (some v30.1)) (Cr_ aW v30.1))) (Cr_ aW DR))) (Cr_ aW DR)) (fin (some DR))
def Ec_{Sy:Type}(Y:Sy->Int->Option (Sy×Bool))(s0:Sy)(x1:Fst)(x2:bZ)(x3:bZ):Option (Sy):=
 bnd (Ep_ x1.starts x2) (λv4=>bnd (Ep_ x1.ends x3) (λv8=>bC (λq:Nat×Sy=>QL v4 v8 Y q.1 q.2) (0,s0)))
theorem Hi_{Sy:Type}{σ:aj}{Y:Sy->Int->Option (Sy×Bool)}{s0:Sy}{x1:Fst}{x2:bZ}{x3:bZ}(j_:RS σ 2 dJ (.slice iL x1.starts.length iK) x1.starts)(f1_6:RS σ 2 dJ (.slice Fp x1.ends.length Fa) x1.ends)(f1_9:RS σ 8 kF (.slice Fj x1.arcs.length E_) x1.arcs)(vW:RZ σ (aB 1 aG bn) (.slice lH x2.length lF) x2)(f3_3:RZ σ (aB 1 aG bn) (.slice Fh x3.length E8) x3){r:Sy}(hh:Ec_ Y s0 x1 x2 x3=some r):
  x7_ prog 122 [loc fQ 0,loc jw 0,loc jv 0] (λ(x:Int) _ vs=>vs=[.int .i64 x]) Y σ [κ fQ (oU x1 iL iK Fp Fa Fj E_) uY,κ jw #[.slice lH x2.length lF] zH,κ jv #[.slice Fh x3.length E8] zG] s0 r (λσ' H'=>H'=[κ fQ (oU x1 iL iK Fp Fa Fj E_) uY,κ jw #[.slice lH x2.length lF] zH,κ jv #[.slice Fh x3.length E8] zG]):=by
 intro l Z ry0 hY hys
 dsimp only [Ec_]at hh
 have f1_3b:=j_.rv.big
 have f1_6b:=f1_6.rv.big
 have f1_9b:=f1_9.rv.big
 have f2_3b:=vW.big
 have f3_3b:=f3_3.big
 refine Con.mk (n:=38) Tryz.func122 z z z (λw0=> ?_)
 refine TC.c4_ (ζ ?_)
 obtain ⟨v4,u4,hh⟩:=dM hh
 obtain ⟨v8,u8,hh⟩:=dM hh
 refine TC.draw [] (by kernel_rfl) (Ω 0 z (aS z Td z) z (TA.b 1 z (aZ z FH z (i:=1) z z) z (TA.b 2 z (aZ z jT z (i:=2) z z) z (Ω 4 z (aS z WI z) z (TA.b 5 z (aZ z FH z (i:=1) z z) z (TA.b 6 z (aZ z jT z (i:=3) z z) z (TA.ac 3 z (OpOk.call (Gm_ j_ vW u4) z z SQ z z z z ?_))))))))
 rintro _ _ _ hle113 ⟨a113_1,c113_1,rfl,rfl,rfl⟩
 refine k1 (TA.ac 7 z (OpOk.call (Gm_ f1_6 f3_3 u8) z z SQ z z z z ?_))
 rintro _ _ _ hle115 ⟨a115_1,c115_1,rfl,rfl,rfl⟩
 refine k2 (Ω 8 z (gu (.inr z) z) z (Ω 9 z (gu (.inr z) z) z (TA.dn (S.n (ψ (Φ z z (ω z (lenC z gI z) (ξ z z (ε (υ (TC.ig (α:=(Nat×Sy)×(Res×aj)) (rgs [(7,1),(18,20)]) (λg=>[(18,.int .i64 ((g.1.1:Nat):Int))]) (λg=>[dW 4 eq_ a113_1 c113_1 v4,dW 4 eq_ a115_1 c115_1 v8,κ fQ (oU x1 iL iK Fp Fa Fj E_) uY,κ jw #[.slice lH x2.length lF] zH,κ jv #[.slice Fh x3.length E8] zG,g.2.1]) (λg=>g.2.2) (λg=>bC (λq:Nat×Sy=>QL v4 v8 Y q.1 q.2) g.1=some r/\YR Z g.1.2 g.2.2 g.2.1/\aj.le σ g.2.2) (λg=>f_ (λq:Nat×Sy=>QL v4 v8 Y q.1 q.2) g.1) ((0,s0),(ry0,σ)) (Θ [2,5,5,5,4,5] 6) z (by repeat (first|exact trivial|refine ⟨z,?_⟩)) ⟨hh,hys,(aj.le.refl _)⟩ (λg1 j1 hg1=> ?_))))))))))))
 obtain ⟨⟨aW,DR⟩,⟨JA,τ129⟩⟩:=g1
 obtain ⟨hh,hy128,qh⟩:=hg1
 try dsimp only at hy128 qh ⊢
 obtain ⟨z1,hh,hR1⟩:=gJ hh
 dsimp only [QL]at hh
 skip
 refine χ (i:=0) z (λ_ hb131 _=> ?_)
 refine χ (i:=1) z (λ_ hb132 _=> ?_)
 refine ψ (ω z (OpVal.lss z z z) (ε (ζ (TC.cD z hh (λLM hh=> ?_) (λLM hh=> ?_)))))
 ·refine ι (S.n (TC.cutG (α:=(Sy)×(Res×aj)) (rgs [(7,1),(20,17)]) (λg=>[]) (λg=>[dW 4 eq_ a113_1 c113_1 v4,dW 4 eq_ a115_1 c115_1 v8,κ fQ (oU x1 iL iK Fp Fa Fj E_) uY,κ jw #[.slice lH x2.length lF] zH,κ jv #[.slice Fh x3.length E8] zG,g.2.1]) (λg=>g.2.2) (λg=>Cr_ aW g.1=some z1/\YR Z g.1 g.2.2 g.2.1/\aj.le τ129 g.2.2) ?_ (λg j hg=> ?_)))
  ·skip
   refine υ (ψ (ξ z z (ξ z z (ε (ψ (Φ z z (ξ z z (TL.isSl (i:=0) z (λhs137 _ _=> ?_)))))))))
   refine ω z (bU z gI gQ z z hs137 (by omega)) (ω z (og false z nG z (q:=0) z jc (by omega) z) (TL.j z z (TL.split 25 z (λqx=> ?_) (λqx=> ?_))))
   ·replace hh:=gZ qx hh
    refine Ψ z (gu (.inl z) z) (Ψ z (dw (.inl z) z) ?_)
    obtain ⟨u24,hh⟩:=aP hh
    refine TL.isSl (i:=1) z (λhs139 _ _=> ?_)
    refine Ψ z (bU z gI gQ z z hs139 (by omega)) (Ψ z (og false z nG z (q:=1) z jc (by omega) z) (ω z (dS z z z) (TL.j z z (TL.split 31 z (λuP=> ?_) (λuP=> ?_)))))
    ·replace hh:=gZ uP hh
     refine Ψ z (OpVal.mv (.inl z)) (Ψ z (dw (.inl z) z) ?_)
     obtain ⟨v30,u30,hh⟩:=dM hh
     refine θ 5 z z (TL.gon z z z z z (callY hY hy128 u30 z z z z z z ?_))
     rintro τ141 R_ Yp TM
     refine Ψ z (OpVal.not z z) (ω z (dS z z z) (ε (TC.cB z hh (λh142 hh=> ?_) (λh142 hh=> ?_))))
     ·refine TC.sG (Θ [5,5,5,3] 4) (TC.ret (B.r (S.r (S.r ?_))))
      replace hh:=dG hR1 hh
      refine B.r ?_
      obtain rfl:=so hh
      refine ⟨_,Θ [3,3,3,3] 4,?_⟩
      exact ro [R_,κ fQ (oU x1 iL iK Fp Fa Fj E_) uY,κ jw #[.slice lH x2.length lF] zH,κ jv #[.slice Fh x3.length E8] zG] z RVs.nil ⟨_,_,z,TM,z⟩
     exact ι (B.n (S.n (cf (v30.1,(R_,τ141)) ⟨hh,TM,Yp⟩ (Θ [5,5,5,5,5] 6))))
    replace hh:=gY uP hh
    exact π z (π z (π z (π z (ω z (dV z z z) (ε (TC.f z (ι (B.n (S.n (cf (DR,(JA,τ129)) ⟨hh,hy128,(aj.le.refl _)⟩ (Θ [5,5,5,5,5,5] 6)))))))))))
   replace hh:=gY qx hh
   refine π z (π z (π z (π z (ω z (dV z z z) (TL.j z z (π z (π z (π z (π z (ω z (dV z z z) (ε (TC.f z (ι (B.n (S.n ?_)))))))))))))))
   exact cf (DR,(JA,τ129)) ⟨hh,hy128,(aj.le.refl _)⟩ (Θ [5,5,5,5,5,5] 6)
  skip
  obtain ⟨V6,⟨ry135,τ143⟩⟩:=g
  obtain ⟨hh,TN,Ae⟩:=hg
  try dsimp only at TN
  dsimp only at Ae
  replace hy128:=hy128.mono Ae
  try dsimp only
  dsimp only [Cr_]at hh
  skip
  refine χ (i:=0) z (λ_ Dk _=> ?_)
  refine χ (i:=1) z (λ_ hb146 _=> ?_)
  refine η (ω z (OpVal.succ z z z (by omega)) (ξ z z (ε ?_)))
  obtain ⟨hh,XZ⟩:=dO hR1 hh
  exact lf (((aW+1),V6),(ry135,τ143)) XZ ⟨hh,TN,(qh.trans Ae)⟩ (Θ [5,5,5,5,5,5] 6)
 refine TC.exit (S.x (S.x ?_))
 replace hh:=dG hR1 hh
 refine Δ ?_
 obtain rfl:=so hh
 refine ⟨_,Θ [4,4,4,5] 4,?_⟩
 exact RetOk.mk' (rs:=[]) [JA,κ fQ (oU x1 iL iK Fp Fa Fj E_) uY,κ jw #[.slice lH x2.length lF] zH,κ jv #[.slice Fh x3.length E8] zG] z (.inr z) RVs.nil (List.sublist_append_left _ _) ⟨_,_,z,hy128,z⟩
def Er_(x0:Fst)(bM:Nat)(jG:bZ)(jW:bZ):Option ((bZ×bZ×Nat)⊕((Fst×bZ×bZ))):=
 grd (0<=((nth x0.arcs bM bg).to)/\((nth x0.arcs bM bg).to)<(jG.length:Int)) (grd (((nth jG (((nth x0.arcs bM bg).to).toNat) []).length+[(nth x0.arcs bM bg).frm].length) * 8<=140737488355328) (grd (0<=((nth x0.arcs bM bg).to)/\((nth x0.arcs bM bg).to)<(jG.length:Int)) (nxt ((jW.set (((nth x0.arcs bM bg).frm).toNat) ((nth jW (((nth x0.arcs bM bg).frm).toNat) [])++[(nth x0.arcs bM bg).to])),(jG.set (((nth x0.arcs bM bg).to).toNat) ((nth jG (((nth x0.arcs bM bg).to).toNat) [])++[(nth x0.arcs bM bg).frm])),(bM+1)))))
def QJ(x0:Fst)(jW:bZ)(jG:bZ)(bM:Nat):Option ((bZ×bZ×Nat)⊕((Fst×bZ×bZ))):=
 aN (decide ((bM:Int)<((x0.arcs.length:Nat):Int))) (grd (0<=((nth x0.arcs bM bg).frm)/\((nth x0.arcs bM bg).frm)<(jW.length:Int)) (grd (((nth jW (((nth x0.arcs bM bg).frm).toNat) []).length+[(nth x0.arcs bM bg).to].length) * 8<=140737488355328) (grd (0<=((nth x0.arcs bM bg).frm)/\((nth x0.arcs bM bg).frm)<(jW.length:Int)) (Er_ x0 bM jG jW)))) (fin (some (x0,jW,jG)))
def Et_(x0:Fst):Option ((Fst×bZ×bZ)):=
 bC (λq:bZ×bZ×Nat=>QJ x0 q.1 q.2.1 q.2.2) ((replicate x0.states.toNat ([]:ak)),(replicate x0.states.toNat ([]:ak)),0)
def E0_(x0:Fst):Option ((Fst×bZ×bZ)):=
 grd (0<=x0.states/\24 * x0.states.toNat<=281474976710656) (grd (0<=x0.states/\24 * x0.states.toNat<=281474976710656) (Et_ x0))
theorem Ht_{σ:aj}{x0:Fst}(au:RS σ 2 dJ (.slice aI x0.starts.length aH) x0.starts)(aY:RS σ 2 dJ (.slice aA x0.ends.length aX) x0.ends)(aV:RS σ 8 kF (.slice aU x0.arcs.length ay) x0.arcs){r:(Fst×bZ×bZ)}(hh:E0_ x0=some r):
  Con prog 85 #[.agg (oU x0 aI aH aA aX aU ay)] σ [] (λv σ' H'=> ∃br10 ar1 cr2 ar4 cr5 ar7 cr8 br14 ar11 cr12 br18 ar15 cr16,v= .func (.func 122) #[] #[loc br10 0,loc br14 0,loc br18 0]/\RS σ' 2 dJ (.slice ar1 r.1.starts.length cr2) r.1.starts/\RS σ' 2 dJ (.slice ar4 r.1.ends.length cr5) r.1.ends/\RS σ' 8 kF (.slice ar7 r.1.arcs.length cr8) r.1.arcs/\RZ σ' (aB 1 aG bn) (.slice ar11 r.2.1.length cr12) r.2.1/\RZ σ' (aB 1 aG bn) (.slice ar15 r.2.2.length cr16) r.2.2/\H'=[κ br10 (oU r.1 ar1 cr2 ar4 cr5 ar7 cr8) 25,κ br14 #[.slice ar11 r.2.1.length cr12] 27,κ br18 #[.slice ar15 r.2.2.length cr16] 27]):=by
 dsimp only [E0_]at hh
 have f0_0b:=au.rv.big
 have f0_1b:=aY.rv.big
 have f0_2b:=aV.rv.big
 refine Con.mk (n:=48) Tryz.func85 z z z (λw0=> ?_)
 refine ψ (ν z (boxA z z z z (λoH=> ?_)))
 refine ω z (OpVal.mv (.inr z)) (ε (TC.cutG (α:=(Unit)×(Nat×(Option Addr)×Nat×Nat×(Option Addr)×Nat)) (rgs [(3,2),(7,6)]) (λg=>[(3,loc g.2.1 0),(4,loc g.2.2.2.2.1 0)]) (λg=>[κ oH (oU x0 aI aH aA aX aU ay) 25,κ g.2.1 #[.slice g.2.2.1 ((replicate x0.states.toNat ([]:ak)).length) g.2.2.2.1] 27,Res.nest 86 3 1 aG (.slice g.2.2.1 (replicate x0.states.toNat ([]:ak)).length g.2.2.2.1) (replicate x0.states.toNat (ou:NP Int)),κ g.2.2.2.2.1 #[.slice g.2.2.2.2.2.1 ((replicate x0.states.toNat ([]:ak)).length) g.2.2.2.2.2.2] 27,Res.nest 86 3 1 aG (.slice g.2.2.2.2.2.1 (replicate x0.states.toNat ([]:ak)).length g.2.2.2.2.2.2) (replicate x0.states.toNat (ou:NP Int))]) (λg=>σ) (λg=>Et_ x0=some r/\Zn (replicate x0.states.toNat (ou:NP Int)) (replicate x0.states.toNat ([]:ak))/\Zn (replicate x0.states.toNat (ou:NP Int)) (replicate x0.states.toNat ([]:ak))) ?_ (λg j hg=> ?_)))
 ·skip
  obtain ⟨u5,hh⟩:=aP hh
  obtain ⟨u8,hh⟩:=aP hh
  refine TC.P6 (Hr:=[κ oH (oU x0 aI aH aA aX aU ay) 25]) (λr hr=>qG [0] z hr) [] (by kernel_rfl) (Ω 0 z (aS z E5 z) z (TA.b 1 z (aZ z fJ z (i:=0) z z) z (Ω 3 z (aS z E5 z) z (TA.b 4 z (aZ z fJ z (i:=0) z z) z ?_))))
  refine TA.actN [2,5,6,7] (by kernel_rfl) (an rfl rfl (mX (q:=x0.states.toNat) (E:=3) (size:=1) (enc:=aG) rfl eU fZ mV lq rfl rfl (vN u5.1) (vN u5.1) (by omega) (by decide) rfl (λyT vY vg=>(k1 ?_))) (an rfl rfl (mX (q:=x0.states.toNat) (E:=3) (size:=1) (enc:=aG) rfl eU fZ mV lq rfl rfl (vN u8.1) (vN u8.1) (by omega) (by decide) rfl (λa139 Ig iq=>(k1 ?_))) (an rfl rfl (OpOk.alloc rfl qQ rfl rfl (λDv=>(k1 ?_))) (an rfl rfl (OpOk.alloc rfl qQ rfl rfl (λDu=>(k1 ?_))) (True.intro)))))
  ·skip
   refine TA.actN [5,6,7] (by kernel_rfl) (an rfl rfl (mX (q:=x0.states.toNat) (E:=3) (size:=1) (enc:=aG) rfl eU fZ mV lq rfl rfl (vN u8.1) (vN u8.1) (by omega) (by decide) rfl (λa147 c148 Rz=>(k2 ?_))) (an rfl rfl (OpOk.alloc rfl qQ rfl rfl (λZa=>(k2 ?_))) (an rfl rfl (OpOk.alloc rfl qQ rfl rfl (λY_=>(k2 ?_))) (True.intro))))
   ·skip
    refine TA.actN [6,7] (by kernel_rfl) (an z z (OpOk.alloc z qQ z z (λY9=>(k3 ?_))) (an z z (OpOk.alloc z qQ z z (λMB=>(k3 ?_))) (True.intro)))
    ·skip
     refine TA.ac 7 z (OpOk.alloc z qQ z z (λb159=>(kc 4 ?_)))
     refine TA.front 1 z z (TA.ac 8 z (gK z jC z z z z z (kc 4 ?_)))
     refine TA.front 1 z z (TA.ac 9 z (gK z jC z z z z z (kc 4 ?_)))
     exact TA.dn (S.n (cf ((),(Y9,yT,vY,b159,a147,c148)) ⟨hh,vg,Rz⟩ (Θ [2,1,3,3,4] 5)))
    skip
    refine TA.ac 6 z (OpOk.alloc z qQ z z (λb161=>(kc 4 ?_)))
    refine TA.ac 8 z (gK z jC z z z z z (kc 4 ?_))
    refine TA.front 1 z z (TA.ac 9 z (gK z jC z z z z z (kc 4 ?_)))
    exact TA.dn (S.n (cf ((),(b161,yT,vY,MB,a147,c148)) ⟨hh,vg,Rz⟩ (Θ [2,1,3,3,4] 5)))
   ·skip
    refine TA.actN [5,7] (by kernel_rfl) (an rfl rfl (mX (q:=x0.states.toNat) (E:=3) (size:=1) (enc:=aG) rfl eU fZ mV lq rfl rfl (vN u8.1) (vN u8.1) (by omega) (by decide) rfl (λZq c164 zf165=>(k3 ?_))) (an rfl rfl (OpOk.alloc rfl qQ rfl rfl (λb167=>(k3 ?_))) (True.intro)))
    ·skip
     refine TA.ac 7 z (OpOk.alloc z qQ z z (λb169=>(kc 4 ?_)))
     refine TA.front 2 z z (TA.ac 8 z (gK z jC z z z z z (kc 4 ?_)))
     refine TA.front 1 z z (TA.ac 9 z (gK z jC z z z z z (kc 4 ?_)))
     exact TA.dn (S.n (cf ((),(Za,yT,vY,b169,Zq,c164)) ⟨hh,vg,zf165⟩ (Θ [2,1,3,3,4] 5)))
    skip
    refine TA.actN [5,8] (by kernel_rfl) (an rfl rfl (mX (q:=x0.states.toNat) (E:=3) (size:=1) (enc:=aG) rfl eU fZ mV lq rfl rfl (vN u8.1) (vN u8.1) (by omega) (by decide) rfl (λa171 c172 Ba=>(kc 4 ?_))) (an rfl rfl (OpOk.front 1 rfl rfl (gK rfl jC rfl rfl rfl rfl rfl (k3 ?_))) (True.intro)))
    ·skip
     refine TA.front 2 z z (TA.ac 8 z (gK z jC z z z z z (kc 4 ?_)))
     refine TA.front 2 z z (TA.ac 9 z (gK z jC z z z z z (kc 4 ?_)))
     exact TA.dn (S.n (cf ((),(Za,yT,vY,b167,a171,c172)) ⟨hh,vg,Ba⟩ (Θ [2,1,3,3,4] 5)))
    skip
    refine TA.ac 5 rfl (mX (q:=x0.states.toNat) (E:=3) (size:=1) (enc:=aG) rfl eU fZ mV lq rfl rfl (vN u8.1) (vN u8.1) (by omega) (by decide) rfl (λa175 c176 zf177=>(kc 4 ?_)))
    refine TA.front 2 z z (TA.ac 9 z (gK z jC z z z z z (kc 4 ?_)))
    exact TA.dn (S.n (cf ((),(Za,yT,vY,b167,a175,c176)) ⟨hh,vg,zf177⟩ (Θ [1,1,3,3,4] 5)))
   skip
   refine TA.actN [5,6] (by kernel_rfl) (an rfl rfl (mX (q:=x0.states.toNat) (E:=3) (size:=1) (enc:=aG) rfl eU fZ mV lq rfl rfl (vN u8.1) (vN u8.1) (by omega) (by decide) rfl (λa179 c180 kH=>(k3 ?_))) (an rfl rfl (OpOk.alloc rfl qQ rfl rfl (λb183=>(k3 ?_))) (True.intro)))
   ·skip
    refine TA.ac 6 z (OpOk.alloc z qQ z z (λb185=>(kc 4 ?_)))
    refine TA.ac 8 z (gK z jC z z z z z (kc 4 ?_))
    refine TA.front 2 z z (TA.ac 9 z (gK z jC z z z z z (kc 4 ?_)))
    exact TA.dn (S.n (cf ((),(b185,yT,vY,Y_,a179,c180)) ⟨hh,vg,kH⟩ (Θ [2,1,3,3,4] 5)))
   skip
   refine TA.actN [5,8] (by kernel_rfl) (an rfl rfl (mX (q:=x0.states.toNat) (E:=3) (size:=1) (enc:=aG) rfl eU fZ mV lq rfl rfl (vN u8.1) (vN u8.1) (by omega) (by decide) rfl (λZp YX zf189=>(kc 4 ?_))) (an rfl rfl (gK rfl jC rfl rfl rfl rfl rfl (k3 ?_)) (True.intro)))
   ·skip
    refine TA.front 1 z z (TA.ac 8 z (gK z jC z z z z z (kc 4 ?_)))
    refine TA.front 2 z z (TA.ac 9 z (gK z jC z z z z z (kc 4 ?_)))
    exact TA.dn (S.n (cf ((),(b183,yT,vY,Y_,Zp,YX)) ⟨hh,vg,zf189⟩ (Θ [2,1,3,3,4] 5)))
   skip
   refine TA.ac 5 rfl (mX (q:=x0.states.toNat) (E:=3) (size:=1) (enc:=aG) rfl eU fZ mV lq rfl rfl (vN u8.1) (vN u8.1) (by omega) (by decide) rfl (λuX uU zf193=>(kc 4 ?_)))
   refine TA.front 2 z z (TA.ac 9 z (gK z jC z z z z z (kc 4 ?_)))
   exact TA.dn (S.n (cf ((),(b183,yT,vY,Y_,uX,uU)) ⟨hh,vg,zf193⟩ (Θ [1,1,3,3,4] 5)))
  ·skip
   refine TA.actN [2,6,7] (by kernel_rfl) (an rfl rfl (mX (q:=x0.states.toNat) (E:=3) (size:=1) (enc:=aG) rfl eU fZ mV lq rfl rfl (vN u5.1) (vN u5.1) (by omega) (by decide) rfl (λa195 c196 y9=>(k2 ?_))) (an rfl rfl (OpOk.alloc rfl qQ rfl rfl (λFe=>(k2 ?_))) (an rfl rfl (OpOk.alloc rfl qQ rfl rfl (λb201=>(k2 ?_))) (True.intro))))
   ·skip
    refine TA.actN [6,7] (by kernel_rfl) (an z z (OpOk.alloc z qQ z z (λb203=>(k3 ?_))) (an z z (OpOk.alloc z qQ z z (λb205=>(k3 ?_))) (True.intro)))
    ·skip
     refine TA.ac 7 z (OpOk.alloc z qQ z z (λb207=>(kc 4 ?_)))
     refine TA.front 1 z z (TA.ac 8 z (gK z jC z z z z z (kc 4 ?_)))
     refine TA.front 1 z z (TA.ac 9 z (gK z jC z z z z z (kc 4 ?_)))
     exact TA.dn (S.n (cf ((),(b203,a195,c196,b207,a139,Ig)) ⟨hh,y9,iq⟩ (Θ [3,1,3,3,4] 5)))
    skip
    refine TA.ac 6 z (OpOk.alloc z qQ z z (λb209=>(kc 4 ?_)))
    refine TA.ac 8 z (gK z jC z z z z z (kc 4 ?_))
    refine TA.front 1 z z (TA.ac 9 z (gK z jC z z z z z (kc 4 ?_)))
    exact TA.dn (S.n (cf ((),(b209,a195,c196,b205,a139,Ig)) ⟨hh,y9,iq⟩ (Θ [3,1,3,3,4] 5)))
   ·skip
    refine TA.actN [2,7] (by kernel_rfl) (an rfl rfl (mX (q:=x0.states.toNat) (E:=3) (size:=1) (enc:=aG) rfl eU fZ mV lq rfl rfl (vN u5.1) (vN u5.1) (by omega) (by decide) rfl (λyB c212 I4=>(k3 ?_))) (an rfl rfl (OpOk.alloc rfl qQ rfl rfl (λb215=>(k3 ?_))) (True.intro)))
    ·skip
     refine TA.ac 7 z (OpOk.alloc z qQ z z (λb217=>(kc 4 ?_)))
     refine TA.front 2 z z (TA.ac 8 z (gK z jC z z z z z (kc 4 ?_)))
     refine TA.front 1 z z (TA.ac 9 z (gK z jC z z z z z (kc 4 ?_)))
     exact TA.dn (S.n (cf ((),(Fe,yB,c212,b217,a139,Ig)) ⟨hh,I4,iq⟩ (Θ [3,1,3,3,4] 5)))
    skip
    refine TA.ac 2 rfl (mX (q:=x0.states.toNat) (E:=3) (size:=1) (enc:=aG) rfl eU fZ mV lq rfl rfl (vN u5.1) (vN u5.1) (by omega) (by decide) rfl (λa219 c220 zf221=>(kc 4 ?_)))
    refine TA.front 2 z z (TA.ac 8 z (gK z jC z z z z z (kc 4 ?_)))
    refine TA.front 2 z z (TA.ac 9 z (gK z jC z z z z z (kc 4 ?_)))
    exact TA.dn (S.n (cf ((),(Fe,a219,c220,b215,a139,Ig)) ⟨hh,zf221,iq⟩ (Θ [3,1,3,3,4] 5)))
   skip
   refine TA.actN [2,6] (by kernel_rfl) (an rfl rfl (mX (q:=x0.states.toNat) (E:=3) (size:=1) (enc:=aG) rfl eU fZ mV lq rfl rfl (vN u5.1) (vN u5.1) (by omega) (by decide) rfl (λZm YU zf225=>(k3 ?_))) (an rfl rfl (OpOk.alloc rfl qQ rfl rfl (λb227=>(k3 ?_))) (True.intro)))
   ·skip
    refine TA.ac 6 z (OpOk.alloc z qQ z z (λb229=>(kc 4 ?_)))
    refine TA.ac 8 z (gK z jC z z z z z (kc 4 ?_))
    refine TA.front 2 z z (TA.ac 9 z (gK z jC z z z z z (kc 4 ?_)))
    exact TA.dn (S.n (cf ((),(b229,Zm,YU,b201,a139,Ig)) ⟨hh,zf225,iq⟩ (Θ [3,1,3,3,4] 5)))
   skip
   refine TA.ac 2 rfl (mX (q:=x0.states.toNat) (E:=3) (size:=1) (enc:=aG) rfl eU fZ mV lq rfl rfl (vN u5.1) (vN u5.1) (by omega) (by decide) rfl (λDy c232 jB=>(kc 4 ?_)))
   refine TA.front 1 z z (TA.ac 8 z (gK z jC z z z z z (kc 4 ?_)))
   refine TA.front 2 z z (TA.ac 9 z (gK z jC z z z z z (kc 4 ?_)))
   exact TA.dn (S.n (cf ((),(b227,Dy,c232,b201,a139,Ig)) ⟨hh,jB,iq⟩ (Θ [3,1,3,3,4] 5)))
  ·skip
   refine TA.actN [2,5,7] (by kernel_rfl) (an rfl rfl (mX (q:=x0.states.toNat) (E:=3) (size:=1) (enc:=aG) rfl eU fZ mV lq rfl rfl (vN u5.1) (vN u5.1) (by omega) (by decide) rfl (λZl c236 IX=>(k2 ?_))) (an rfl rfl (mX (q:=x0.states.toNat) (E:=3) (size:=1) (enc:=aG) rfl eU fZ mV lq rfl rfl (vN u8.1) (vN u8.1) (by omega) (by decide) rfl (λa239 c240 Rx=>(k2 ?_))) (an rfl rfl (OpOk.alloc rfl qQ rfl rfl (λY8=>(k2 ?_))) (True.intro))))
   ·skip
    refine TA.actN [5,7] (by kernel_rfl) (an rfl rfl (mX (q:=x0.states.toNat) (E:=3) (size:=1) (enc:=aG) rfl eU fZ mV lq rfl rfl (vN u8.1) (vN u8.1) (by omega) (by decide) rfl (λa245 c246 zf247=>(k3 ?_))) (an rfl rfl (OpOk.alloc rfl qQ rfl rfl (λb249=>(k3 ?_))) (True.intro)))
    ·skip
     refine TA.ac 7 z (OpOk.alloc z qQ z z (λb251=>(kc 4 ?_)))
     refine TA.front 3 z z (TA.ac 8 z (gK z jC z z z z z (kc 4 ?_)))
     refine TA.front 1 z z (TA.ac 9 z (gK z jC z z z z z (kc 4 ?_)))
     exact TA.dn (S.n (cf ((),(Dv,Zl,c236,b251,a245,c246)) ⟨hh,IX,zf247⟩ (Θ [2,1,3,3,4] 5)))
    skip
    refine TA.actN [5,8] (by kernel_rfl) (an rfl rfl (mX (q:=x0.states.toNat) (E:=3) (size:=1) (enc:=aG) rfl eU fZ mV lq rfl rfl (vN u8.1) (vN u8.1) (by omega) (by decide) rfl (λa253 c254 lM=>(kc 4 ?_))) (an rfl rfl (OpOk.front 2 rfl rfl (gK rfl jC rfl rfl rfl rfl rfl (k3 ?_))) (True.intro)))
    ·skip
     refine TA.front 3 z z (TA.ac 8 z (gK z jC z z z z z (kc 4 ?_)))
     refine TA.front 2 z z (TA.ac 9 z (gK z jC z z z z z (kc 4 ?_)))
     exact TA.dn (S.n (cf ((),(Dv,Zl,c236,b249,a253,c254)) ⟨hh,IX,lM⟩ (Θ [2,1,3,3,4] 5)))
    skip
    refine TA.ac 5 rfl (mX (q:=x0.states.toNat) (E:=3) (size:=1) (enc:=aG) rfl eU fZ mV lq rfl rfl (vN u8.1) (vN u8.1) (by omega) (by decide) rfl (λML L8 zf259=>(kc 4 ?_)))
    refine TA.front 2 z z (TA.ac 9 z (gK z jC z z z z z (kc 4 ?_)))
    exact TA.dn (S.n (cf ((),(Dv,Zl,c236,b249,ML,L8)) ⟨hh,IX,zf259⟩ (Θ [1,1,3,3,4] 5)))
   ·skip
    refine TA.actN [2,7] (by kernel_rfl) (an rfl rfl (mX (q:=x0.states.toNat) (E:=3) (size:=1) (enc:=aG) rfl eU fZ mV lq rfl rfl (vN u5.1) (vN u5.1) (by omega) (by decide) rfl (λa261 c262 IV=>(k3 ?_))) (an rfl rfl (OpOk.alloc rfl qQ rfl rfl (λb265=>(k3 ?_))) (True.intro)))
    ·skip
     refine TA.ac 7 z (OpOk.alloc z qQ z z (λb267=>(kc 4 ?_)))
     refine TA.front 3 z z (TA.ac 8 z (gK z jC z z z z z (kc 4 ?_)))
     refine TA.front 1 z z (TA.ac 9 z (gK z jC z z z z z (kc 4 ?_)))
     exact TA.dn (S.n (cf ((),(Dv,a261,c262,b267,a239,c240)) ⟨hh,IV,Rx⟩ (Θ [3,1,3,3,4] 5)))
    skip
    refine TA.ac 2 rfl (mX (q:=x0.states.toNat) (E:=3) (size:=1) (enc:=aG) rfl eU fZ mV lq rfl rfl (vN u5.1) (vN u5.1) (by omega) (by decide) rfl (λa269 c270 IU=>(kc 4 ?_)))
    refine TA.front 3 z z (TA.ac 8 z (gK z jC z z z z z (kc 4 ?_)))
    refine TA.front 2 z z (TA.ac 9 z (gK z jC z z z z z (kc 4 ?_)))
    exact TA.dn (S.n (cf ((),(Dv,a269,c270,b265,a239,c240)) ⟨hh,IU,Rx⟩ (Θ [3,1,3,3,4] 5)))
   skip
   refine TA.actN [2,5] (by kernel_rfl) (an rfl rfl (mX (q:=x0.states.toNat) (E:=3) (size:=1) (enc:=aG) rfl eU fZ mV lq rfl rfl (vN u5.1) (vN u5.1) (by omega) (by decide) rfl (λZi YQ Ru=>(k3 ?_))) (an rfl rfl (mX (q:=x0.states.toNat) (E:=3) (size:=1) (enc:=aG) rfl eU fZ mV lq rfl rfl (vN u8.1) (vN u8.1) (by omega) (by decide) rfl (λa277 c278 zf279=>(k3 ?_))) (True.intro)))
   ·skip
    refine TA.actN [5,8] (by kernel_rfl) (an rfl rfl (mX (q:=x0.states.toNat) (E:=3) (size:=1) (enc:=aG) rfl eU fZ mV lq rfl rfl (vN u8.1) (vN u8.1) (by omega) (by decide) rfl (λa281 c282 zf283=>(kc 4 ?_))) (an rfl rfl (OpOk.front 2 rfl rfl (gK rfl jC rfl rfl rfl rfl rfl (k3 ?_))) (True.intro)))
    ·skip
     refine TA.front 3 z z (TA.ac 8 z (gK z jC z z z z z (kc 4 ?_)))
     refine TA.front 3 z z (TA.ac 9 z (gK z jC z z z z z (kc 4 ?_)))
     exact TA.dn (S.n (cf ((),(Dv,Zi,YQ,Y8,a281,c282)) ⟨hh,Ru,zf283⟩ (Θ [2,1,3,3,4] 5)))
    skip
    refine TA.ac 5 rfl (mX (q:=x0.states.toNat) (E:=3) (size:=1) (enc:=aG) rfl eU fZ mV lq rfl rfl (vN u8.1) (vN u8.1) (by omega) (by decide) rfl (λa285 c286 zf287=>(kc 4 ?_)))
    refine TA.front 3 z z (TA.ac 9 z (gK z jC z z z z z (kc 4 ?_)))
    exact TA.dn (S.n (cf ((),(Dv,Zi,YQ,Y8,a285,c286)) ⟨hh,Ru,zf287⟩ (Θ [1,1,3,3,4] 5)))
   skip
   refine TA.ac 2 rfl (mX (q:=x0.states.toNat) (E:=3) (size:=1) (enc:=aG) rfl eU fZ mV lq rfl rfl (vN u5.1) (vN u5.1) (by omega) (by decide) rfl (λa289 c290 zf291=>(kc 4 ?_)))
   refine TA.front 3 z z (TA.ac 8 z (gK z jC z z z z z (kc 4 ?_)))
   refine TA.front 3 z z (TA.ac 9 z (gK z jC z z z z z (kc 4 ?_)))
   exact TA.dn (S.n (cf ((),(Dv,a289,c290,Y8,a277,c278)) ⟨hh,zf291,zf279⟩ (Θ [3,1,3,3,4] 5)))
  skip
  refine TA.actN [2,5,6] (by kernel_rfl) (an rfl rfl (mX (q:=x0.states.toNat) (E:=3) (size:=1) (enc:=aG) rfl eU fZ mV lq rfl rfl (vN u5.1) (vN u5.1) (by omega) (by decide) rfl (λZh YP IQ=>(k2 ?_))) (an rfl rfl (mX (q:=x0.states.toNat) (E:=3) (size:=1) (enc:=aG) rfl eU fZ mV lq rfl rfl (vN u8.1) (vN u8.1) (by omega) (by decide) rfl (λa297 c298 Ro=>(k2 ?_))) (an rfl rfl (OpOk.alloc rfl qQ rfl rfl (λY7=>(k2 ?_))) (True.intro))))
  ·skip
   refine TA.actN [5,6] (by kernel_rfl) (an rfl rfl (mX (q:=x0.states.toNat) (E:=3) (size:=1) (enc:=aG) rfl eU fZ mV lq rfl rfl (vN u8.1) (vN u8.1) (by omega) (by decide) rfl (λa303 c304 zf305=>(k3 ?_))) (an rfl rfl (OpOk.alloc rfl qQ rfl rfl (λb307=>(k3 ?_))) (True.intro)))
   ·skip
    refine TA.ac 6 z (OpOk.alloc z qQ z z (λb309=>(kc 4 ?_)))
    refine TA.ac 8 z (gK z jC z z z z z (kc 4 ?_))
    refine TA.front 3 z z (TA.ac 9 z (gK z jC z z z z z (kc 4 ?_)))
    exact TA.dn (S.n (cf ((),(b309,Zh,YP,Du,a303,c304)) ⟨hh,IQ,zf305⟩ (Θ [2,1,3,3,4] 5)))
   skip
   refine TA.actN [5,8] (by kernel_rfl) (an rfl rfl (mX (q:=x0.states.toNat) (E:=3) (size:=1) (enc:=aG) rfl eU fZ mV lq rfl rfl (vN u8.1) (vN u8.1) (by omega) (by decide) rfl (λa311 c312 zf313=>(kc 4 ?_))) (an rfl rfl (gK rfl jC rfl rfl rfl rfl rfl (k3 ?_)) (True.intro)))
   ·skip
    refine TA.front 1 z z (TA.ac 8 z (gK z jC z z z z z (kc 4 ?_)))
    refine TA.front 3 z z (TA.ac 9 z (gK z jC z z z z z (kc 4 ?_)))
    exact TA.dn (S.n (cf ((),(b307,Zh,YP,Du,a311,c312)) ⟨hh,IQ,zf313⟩ (Θ [2,1,3,3,4] 5)))
   skip
   refine TA.ac 5 rfl (mX (q:=x0.states.toNat) (E:=3) (size:=1) (enc:=aG) rfl eU fZ mV lq rfl rfl (vN u8.1) (vN u8.1) (by omega) (by decide) rfl (λa315 c316 zf317=>(kc 4 ?_)))
   refine TA.front 3 z z (TA.ac 9 z (gK z jC z z z z z (kc 4 ?_)))
   exact TA.dn (S.n (cf ((),(b307,Zh,YP,Du,a315,c316)) ⟨hh,IQ,zf317⟩ (Θ [1,1,3,3,4] 5)))
  ·skip
   refine TA.actN [2,6] (by kernel_rfl) (an rfl rfl (mX (q:=x0.states.toNat) (E:=3) (size:=1) (enc:=aG) rfl eU fZ mV lq rfl rfl (vN u5.1) (vN u5.1) (by omega) (by decide) rfl (λa319 c320 zf321=>(k3 ?_))) (an rfl rfl (OpOk.alloc rfl qQ rfl rfl (λb323=>(k3 ?_))) (True.intro)))
   ·skip
    refine TA.ac 6 z (OpOk.alloc z qQ z z (λb325=>(kc 4 ?_)))
    refine TA.ac 8 z (gK z jC z z z z z (kc 4 ?_))
    refine TA.front 3 z z (TA.ac 9 z (gK z jC z z z z z (kc 4 ?_)))
    exact TA.dn (S.n (cf ((),(b325,a319,c320,Du,a297,c298)) ⟨hh,zf321,Ro⟩ (Θ [3,1,3,3,4] 5)))
   skip
   refine TA.ac 2 rfl (mX (q:=x0.states.toNat) (E:=3) (size:=1) (enc:=aG) rfl eU fZ mV lq rfl rfl (vN u5.1) (vN u5.1) (by omega) (by decide) rfl (λa327 c328 zf329=>(kc 4 ?_)))
   refine TA.front 1 z z (TA.ac 8 z (gK z jC z z z z z (kc 4 ?_)))
   refine TA.front 3 z z (TA.ac 9 z (gK z jC z z z z z (kc 4 ?_)))
   exact TA.dn (S.n (cf ((),(b323,a327,c328,Du,a297,c298)) ⟨hh,zf329,Ro⟩ (Θ [3,1,3,3,4] 5)))
  skip
  refine TA.actN [2,5] (by kernel_rfl) (an rfl rfl (mX (q:=x0.states.toNat) (E:=3) (size:=1) (enc:=aG) rfl eU fZ mV lq rfl rfl (vN u5.1) (vN u5.1) (by omega) (by decide) rfl (λa331 c332 Rl=>(k3 ?_))) (an rfl rfl (mX (q:=x0.states.toNat) (E:=3) (size:=1) (enc:=aG) rfl eU fZ mV lq rfl rfl (vN u8.1) (vN u8.1) (by omega) (by decide) rfl (λa335 c336 zf337=>(k3 ?_))) (True.intro)))
  ·skip
   refine TA.actN [5,8] (by kernel_rfl) (an rfl rfl (mX (q:=x0.states.toNat) (E:=3) (size:=1) (enc:=aG) rfl eU fZ mV lq rfl rfl (vN u8.1) (vN u8.1) (by omega) (by decide) rfl (λa339 c340 zf341=>(kc 4 ?_))) (an rfl rfl (OpOk.front 1 rfl rfl (gK rfl jC rfl rfl rfl rfl rfl (k3 ?_))) (True.intro)))
   ·skip
    refine TA.front 2 z z (TA.ac 8 z (gK z jC z z z z z (kc 4 ?_)))
    refine TA.front 3 z z (TA.ac 9 z (gK z jC z z z z z (kc 4 ?_)))
    exact TA.dn (S.n (cf ((),(Y7,a331,c332,Du,a339,c340)) ⟨hh,Rl,zf341⟩ (Θ [2,1,3,3,4] 5)))
   skip
   refine TA.ac 5 rfl (mX (q:=x0.states.toNat) (E:=3) (size:=1) (enc:=aG) rfl eU fZ mV lq rfl rfl (vN u8.1) (vN u8.1) (by omega) (by decide) rfl (λa343 c344 zf345=>(kc 4 ?_)))
   refine TA.front 3 z z (TA.ac 9 z (gK z jC z z z z z (kc 4 ?_)))
   exact TA.dn (S.n (cf ((),(Y7,a331,c332,Du,a343,c344)) ⟨hh,Rl,zf345⟩ (Θ [1,1,3,3,4] 5)))
  skip
  refine TA.ac 2 rfl (mX (q:=x0.states.toNat) (E:=3) (size:=1) (enc:=aG) rfl eU fZ mV lq rfl rfl (vN u5.1) (vN u5.1) (by omega) (by decide) rfl (λa347 c348 zf349=>(kc 4 ?_)))
  refine TA.front 2 z z (TA.ac 8 z (gK z jC z z z z z (kc 4 ?_)))
  refine TA.front 3 z z (TA.ac 9 z (gK z jC z z z z z (kc 4 ?_)))
  exact TA.dn (S.n (cf ((),(Y7,a347,c348,Du,a335,c336)) ⟨hh,zf349,zf337⟩ (Θ [3,1,3,3,4] 5)))
 skip
 obtain ⟨_,⟨qC,pq,o_,Ik,yD,yu⟩⟩:=g
 obtain ⟨hh,wL,mJ⟩:=hg
 try dsimp only at wL mJ ⊢
 dsimp only [Et_]at hh
 have zf116b:=wL.len
 have zf122b:=mJ.len
 refine TC.know (nX (q:=2) z wL) (λ⟨_,hb351⟩=> ?_)
 refine TC.know (nX (q:=4) z mJ) (λ⟨_,hb352⟩=> ?_)
 refine ζ (ψ (ω z (aS z Tf z) (ω z (aZ z Nb z (i:=0) z z) (ω z (lenC z qF z) (ξ z z (ε (υ (TC.ig (α:=(bZ×bZ×Nat)×((List (NP Int))×(List (NP Int)))) (rgs [(6,1),(16,31)]) (λg=>[(16,.int .i64 ((g.1.2.2:Nat):Int))]) (λg=>[κ oH (oU x0 aI aH aA aX aU ay) 25,κ qC #[.slice pq ((replicate x0.states.toNat ([]:ak)).length) o_] 27,Res.nest 86 3 1 aG (.slice pq (replicate x0.states.toNat ([]:ak)).length o_) g.2.1,κ Ik #[.slice yD g.1.2.1.length yu] 27,Res.nest 86 3 1 aG (.slice yD g.1.2.1.length yu) g.2.2]) (λg=>σ) (λg=>bC (λq:bZ×bZ×Nat=>QJ x0 q.1 q.2.1 q.2.2) g.1=some r/\g.1.1.length=(replicate x0.states.toNat ([]:ak)).length/\Zn g.2.1 g.1.1/\Zn g.2.2 g.1.2.1) (λg=>f_ (λq:bZ×bZ×Nat=>QJ x0 q.1 q.2.1 q.2.2) g.1) (((replicate x0.states.toNat ([]:ak)),(replicate x0.states.toNat ([]:ak)),0),((replicate x0.states.toNat (ou:NP Int)),(replicate x0.states.toNat (ou:NP Int)))) (Θ [4,4,4,4,4] 5) z (by repeat (first|exact trivial|refine ⟨z,?_⟩)) ⟨hh,z,wL,mJ⟩ (λg1 j1 hg1=> ?_)))))))))
 obtain ⟨⟨jW,jG,bM⟩,⟨z373,Je⟩⟩:=g1
 obtain ⟨hh,Gg,nK,yY⟩:=hg1
 try dsimp only at Gg nK yY ⊢
 obtain ⟨z1,hh,hR1⟩:=gJ hh
 dsimp only [QJ]at hh
 have zf374b:=nK.len
 have zf377b:=yY.len
 refine TC.know (nX (q:=2) z nK) (λ⟨_,hb379⟩=> ?_)
 refine TC.know (nX (q:=4) z yY) (λ⟨_,hb380⟩=> ?_)
 refine ψ (ω z (OpVal.lss z z z) (ε (ζ (TC.cD z hh (λh381 hh=> ?_) (λh381 hh=> ?_)))))
 ·refine ι (S.n (ζ (υ (ψ (ω z (bU z qF nZ z z aV.rv.sl (by omega)) (ω z (Io bg z Jr nZ z aV (by omega) (by omega)) (ν z (OpOk.alloc z AO z z (λY6=> ?_)))))))))
  refine ν z (storeAll z nZ z z z z z z ?_)
  refine ε (TC.cutG (α:=(Unit)×((List (NP Int)))) (rgs [(20,13)]) (λg=>[]) (λg=>[κ oH (oU x0 aI aH aA aX aU ay) 25,κ qC #[.slice pq ((replicate x0.states.toNat ([]:ak)).length) o_] 27,Res.nest 86 3 1 aG (.slice pq (replicate x0.states.toNat ([]:ak)).length o_) g.2,κ Ik #[.slice yD jG.length yu] 27,Res.nest 86 3 1 aG (.slice yD jG.length yu) Je,κ Y6 #[.int .i64 ((nth x0.arcs bM bg).frm),.int .i64 ((nth x0.arcs bM bg).to),.int .u64 ((((nth x0.arcs bM bg).set).a:Nat):Int),.int .u64 ((((nth x0.arcs bM bg).set).b:Nat):Int),.int .u64 ((((nth x0.arcs bM bg).set).c:Nat):Int),.int .u64 ((((nth x0.arcs bM bg).set).d:Nat):Int),.string (bs ((nth x0.arcs bM bg).out)),.bool ((nth x0.arcs bM bg).copy)] 66]) (λg=>σ) (λg=>Er_ x0 bM jG jW=some z1/\(jW.set (((nth x0.arcs bM bg).frm).toNat) ((nth jW (((nth x0.arcs bM bg).frm).toNat) [])++[(nth x0.arcs bM bg).to])).length=(replicate x0.states.toNat ([]:ak)).length/\Zn g.2 (jW.set (((nth x0.arcs bM bg).frm).toNat) ((nth jW (((nth x0.arcs bM bg).frm).toNat) [])++[(nth x0.arcs bM bg).to]))/\Zn Je jG) ?_ (λg j hg=> ?_))
  ·skip
   obtain ⟨u28,hh⟩:=aP hh
   obtain ⟨u33,hh⟩:=aP hh
   obtain ⟨u34,hh⟩:=aP hh
   refine TC.P6 (Hr:=[κ Y6 #[.int .i64 ((nth x0.arcs bM bg).frm),.int .i64 ((nth x0.arcs bM bg).to),.int .u64 ((((nth x0.arcs bM bg).set).a:Nat):Int),.int .u64 ((((nth x0.arcs bM bg).set).b:Nat):Int),.int .u64 ((((nth x0.arcs bM bg).set).c:Nat):Int),.int .u64 ((((nth x0.arcs bM bg).set).d:Nat):Int),.string (bs ((nth x0.arcs bM bg).out)),.bool ((nth x0.arcs bM bg).copy)] 66,κ oH (oU x0 aI aH aA aX aU ay) 25,κ qC #[.slice pq ((replicate x0.states.toNat ([]:ak)).length) o_] 27,κ Ik #[.slice yD jG.length yu] 27,Res.nest 86 3 1 aG (.slice yD jG.length yu) Je]) (λr hr=>qG [0,1,2,4,5] z hr) [] (by kernel_rfl) (TA.b 0 z (aZ z jT z (i:=2) z z) z (Ω 1 z (aS z PD z) z (TA.b 2 z (aZ z fJ z (i:=0) z z) z (TA.b 3 z (aZ z jT z (i:=2) z z) z (Ω 4 z (aS z PD z) z (TA.b 5 z (aZ z fJ z (i:=0) z z) z (TA.know (nX (q:=3) z nK) (λ⟨hs399,hs399b⟩=> ?_))))))))
   refine TA.b 6 z (OpVal.index z eU fZ z z hs399 u28.1 u28.2) z (Ω 8 z (aS z Ti z) z (TA.b 9 z (aZ z fJ z (i:=0) z z) z ?_))
   obtain ⟨p400,Tz,UD⟩:=Zn.at nK (i:=((nth x0.arcs bM bg).frm).toNat) (by omega)
   refine TA.actN [7,10] (by kernel_rfl) (an z z (OpVal.ok (Dt z hs_ z (q:=3) z Tz UD) z z ⟨(λw h=>rX (aj.le.refl _) (λr hr=>qG [0,1,2,4,5] z hr) w h),?_⟩) (an z z (OpOk.lit (enc:=aG) [(nth x0.arcs bM bg).to] z b_ dB lu z z z bn (by decide) (by decide) (0:Int) z (by decide) z (by decide) jS (λa401 c402=>⟨(λw h=>rX (aj.le.refl _) (λr hr=>qG [1,2,3,5,6] z hr) w h),?_⟩)) (True.intro)))
   ·skip
    refine TA.ac 10 z (OpOk.lit (enc:=aG) [(nth x0.arcs bM bg).to] z b_ dB lu z z z bn (by decide) (by decide) (0:Int) z (by decide) z (by decide) jS (λa404 c405=>⟨(λw h=>rX (aj.le.refl _) (λr hr=>qG [1,2,3,5,6] z hr) w h),?_⟩))
    refine TA.front 4 z z (TA.by (λw h=>Reach.takeN Tz UD h) (TA.ac 11 z (as_ z z b_ dB uV lu z z (by decide) z z z (.inr ⟨_,1,z⟩) (by simpa using u33) (by decide) (λa408 c409=>(k3 ?_)))))
    refine TA.know (Nz (q:=1) z nK) (λ⟨hs410,hs410b⟩=> ?_)
    refine TA.b 12 z (OpVal.index z eU fZ z z hs410 u34.1 u34.2) z (TA.front 1 z z (TA.front 1 z z ?_))
    have hn412:(jW.set (((nth x0.arcs bM bg).frm).toNat) ((nth jW (((nth x0.arcs bM bg).frm).toNat) [])++[(nth x0.arcs bM bg).to])).length=(replicate x0.states.toNat ([]:ak)).length:=(gy ..).trans Gg
    refine TA.ac 13 rfl (NC (l':=((nth jW (((nth x0.arcs bM bg).frm).toNat) [])++[(nth x0.arcs bM bg).to])) rfl fZ rfl rfl rfl rfl rfl (by rw [nK.len];omega) nK (λzf411=>(k2 ?_)))
    exact TA.dn (S.n (cf ((),(z373.set (((nth x0.arcs bM bg).frm).toNat) (((nth jW (((nth x0.arcs bM bg).frm).toNat) [])++[(nth x0.arcs bM bg).to]),(a408,c409)))) ⟨hh,hn412,zf411,yY⟩ (Θ [2,6,6,3,6,6] 6)))
   skip
   obtain ⟨p413,Tv,UC⟩:=Zn.at nK (i:=((nth x0.arcs bM bg).frm).toNat) (by omega)
   refine TA.ac 7 z (OpVal.ok (Dt z hs_ z (q:=4) z Tv UC) z z ⟨(λw h=>rX (aj.le.refl _) (λr hr=>qG [1,2,3,5,6] z hr) w h),?_⟩)
   refine TA.front 4 z z (TA.by (λw h=>Reach.takeN Tv UC h) (TA.ac 11 z (as_ z z b_ dB uV lu z z (by decide) z z z (.inr ⟨_,1,z⟩) (by simpa using u33) (by decide) (λa415 c416=>(k3 ?_)))))
   refine TA.know (Nz (q:=1) z nK) (λ⟨hs417,hs417b⟩=> ?_)
   refine TA.b 12 z (OpVal.index z eU fZ z z hs417 u34.1 u34.2) z (TA.front 1 z z (TA.front 1 z z ?_))
   have hn419:(jW.set (((nth x0.arcs bM bg).frm).toNat) ((nth jW (((nth x0.arcs bM bg).frm).toNat) [])++[(nth x0.arcs bM bg).to])).length=(replicate x0.states.toNat ([]:ak)).length:=(gy ..).trans Gg
   refine TA.ac 13 rfl (NC (l':=((nth jW (((nth x0.arcs bM bg).frm).toNat) [])++[(nth x0.arcs bM bg).to])) rfl fZ rfl rfl rfl rfl rfl (by rw [nK.len];omega) nK (λzf418=>(k2 ?_)))
   exact TA.dn (S.n (cf ((),(z373.set (((nth x0.arcs bM bg).frm).toNat) (((nth jW (((nth x0.arcs bM bg).frm).toNat) [])++[(nth x0.arcs bM bg).to]),(a415,c416)))) ⟨hh,hn419,zf418,yY⟩ (Θ [2,6,6,3,6,6] 6)))
  skip
  obtain ⟨_,VD⟩:=g
  obtain ⟨hh,Ku,AX,oK⟩:=hg
  try dsimp only at Ku AX oK ⊢
  dsimp only [Er_]at hh
  have zf386b:=AX.len
  have zf387b:=oK.len
  refine TC.know (nX (q:=2) z AX) (λ⟨_,hb420⟩=> ?_)
  refine TC.know (nX (q:=4) z oK) (λ⟨_,hb421⟩=> ?_)
  obtain ⟨u42,hh⟩:=aP hh
  obtain ⟨Nh,hh⟩:=aP hh
  obtain ⟨u48,hh⟩:=aP hh
  refine TC.P6 (Hr:=[κ oH (oU x0 aI aH aA aX aU ay) 25,κ qC #[.slice pq ((replicate x0.states.toNat ([]:ak)).length) o_] 27,Res.nest 86 3 1 aG (.slice pq (replicate x0.states.toNat ([]:ak)).length o_) VD,κ Ik #[.slice yD jG.length yu] 27,κ Y6 #[.int .i64 ((nth x0.arcs bM bg).frm),.int .i64 ((nth x0.arcs bM bg).to),.int .u64 ((((nth x0.arcs bM bg).set).a:Nat):Int),.int .u64 ((((nth x0.arcs bM bg).set).b:Nat):Int),.int .u64 ((((nth x0.arcs bM bg).set).c:Nat):Int),.int .u64 ((((nth x0.arcs bM bg).set).d:Nat):Int),.string (bs ((nth x0.arcs bM bg).out)),.bool ((nth x0.arcs bM bg).copy)] 66]) (λr hr=>qG [0,1,2,3,5] z hr) [] (by kernel_rfl) (TA.b 0 z (aZ z jT z (i:=3) z z) z (Ω 1 z (aS z Ti z) z (TA.b 2 z (aZ z fJ z (i:=4) z z) z (TA.b 3 z (aZ z jT z (i:=3) z z) z (Ω 4 z (aS z Ti z) z (TA.b 5 z (aZ z fJ z (i:=4) z z) z (TA.know (nX (q:=4) z oK) (λ⟨hs433,hs433b⟩=> ?_))))))))
  refine TA.b 6 z (OpVal.index z eU fZ z z hs433 u42.1 u42.2) z (Ω 8 z (aS z PD z) z (TA.b 9 z (aZ z fJ z (i:=4) z z) z ?_))
  obtain ⟨p434,Tt,UA⟩:=Zn.at oK (i:=((nth x0.arcs bM bg).to).toNat) (by omega)
  refine TA.actN [7,10] (by kernel_rfl) (an z z (OpVal.ok (Dt z hs_ z (q:=4) z Tt UA) z z ⟨(λw h=>rX (aj.le.refl _) (λr hr=>qG [0,1,2,3,5] z hr) w h),?_⟩) (an z z (OpOk.lit (enc:=aG) [(nth x0.arcs bM bg).frm] z b_ dB lu z z z bn (by decide) (by decide) (0:Int) z (by decide) z (by decide) jS (λa435 c436=>⟨(λw h=>rX (aj.le.refl _) (λr hr=>qG [1,2,3,4,6] z hr) w h),?_⟩)) (True.intro)))
  ·skip
   refine TA.ac 10 z (OpOk.lit (enc:=aG) [(nth x0.arcs bM bg).frm] z b_ dB lu z z z bn (by decide) (by decide) (0:Int) z (by decide) z (by decide) jS (λa438 c439=>⟨(λw h=>rX (aj.le.refl _) (λr hr=>qG [1,2,3,4,6] z hr) w h),?_⟩))
   refine TA.front 5 z z (TA.by (λw h=>Reach.takeN Tt UA h) (TA.ac 11 z (as_ z z b_ dB uV lu z z (by decide) z z z (.inr ⟨_,1,z⟩) (by simpa using Nh) (by decide) (λa442 c443=>(k3 ?_)))))
   refine TA.know (Nz (q:=1) z oK) (λ⟨hs444,hs444b⟩=> ?_)
   refine TA.b 12 z (OpVal.index z eU fZ z z hs444 u48.1 u48.2) z (TA.front 1 z z (TA.front 1 z z ?_))
   have hn446:(jG.set (((nth x0.arcs bM bg).to).toNat) ((nth jG (((nth x0.arcs bM bg).to).toNat) [])++[(nth x0.arcs bM bg).frm])).length=jG.length:=(gy ..).trans rfl
   refine TA.ac 13 rfl (NC (l':=((nth jG (((nth x0.arcs bM bg).to).toNat) [])++[(nth x0.arcs bM bg).frm])) rfl fZ rfl rfl rfl rfl rfl (by rw [oK.len];omega) oK (λzf445=>(k2 ?_)))
   refine TA.dn (B.n (S.n (η (ω z (OpVal.succ z z z (by omega)) (ξ z z ?_)))))
   rw [<-hn446]
   refine ε ?_
   obtain ⟨hh,WS⟩:=dO hR1 hh
   exact lf (((jW.set (((nth x0.arcs bM bg).frm).toNat) ((nth jW (((nth x0.arcs bM bg).frm).toNat) [])++[(nth x0.arcs bM bg).to])),(jG.set (((nth x0.arcs bM bg).to).toNat) ((nth jG (((nth x0.arcs bM bg).to).toNat) [])++[(nth x0.arcs bM bg).frm])),(bM+1)),(VD,(Je.set (((nth x0.arcs bM bg).to).toNat) (((nth jG (((nth x0.arcs bM bg).to).toNat) [])++[(nth x0.arcs bM bg).frm]),(a442,c443))))) WS ⟨hh,Ku,AX,zf445⟩ (Θ [5,5,5,5] 5)
  skip
  obtain ⟨p448,Tq,Uz⟩:=Zn.at oK (i:=((nth x0.arcs bM bg).to).toNat) (by omega)
  refine TA.ac 7 z (OpVal.ok (Dt z hs_ z (q:=5) z Tq Uz) z z ⟨(λw h=>rX (aj.le.refl _) (λr hr=>qG [1,2,3,4,6] z hr) w h),?_⟩)
  refine TA.front 5 z z (TA.by (λw h=>Reach.takeN Tq Uz h) (TA.ac 11 z (as_ z z b_ dB uV lu z z (by decide) z z z (.inr ⟨_,1,z⟩) (by simpa using Nh) (by decide) (λa450 c451=>(k3 ?_)))))
  refine TA.know (Nz (q:=1) z oK) (λ⟨hs452,hs452b⟩=> ?_)
  refine TA.b 12 z (OpVal.index z eU fZ z z hs452 u48.1 u48.2) z (TA.front 1 z z (TA.front 1 z z ?_))
  have hn454:(jG.set (((nth x0.arcs bM bg).to).toNat) ((nth jG (((nth x0.arcs bM bg).to).toNat) [])++[(nth x0.arcs bM bg).frm])).length=jG.length:=(gy ..).trans rfl
  refine TA.ac 13 rfl (NC (l':=((nth jG (((nth x0.arcs bM bg).to).toNat) [])++[(nth x0.arcs bM bg).frm])) rfl fZ rfl rfl rfl rfl rfl (by rw [oK.len];omega) oK (λzf453=>(k2 ?_)))
  refine TA.dn (B.n (S.n (η (ω z (OpVal.succ z z z (by omega)) (ξ z z ?_)))))
  rw [<-hn454]
  refine ε ?_
  obtain ⟨hh,WR⟩:=dO hR1 hh
  exact lf (((jW.set (((nth x0.arcs bM bg).frm).toNat) ((nth jW (((nth x0.arcs bM bg).frm).toNat) [])++[(nth x0.arcs bM bg).to])),(jG.set (((nth x0.arcs bM bg).to).toNat) ((nth jG (((nth x0.arcs bM bg).to).toNat) [])++[(nth x0.arcs bM bg).frm])),(bM+1)),(VD,(Je.set (((nth x0.arcs bM bg).to).toNat) (((nth jG (((nth x0.arcs bM bg).to).toNat) [])++[(nth x0.arcs bM bg).frm]),(a450,c451))))) WR ⟨hh,Ku,AX,zf453⟩ (Θ [5,5,5,5] 5)
 refine TC.exit (S.x (S.x ?_))
 replace hh:=dG hR1 hh
 refine Δ (S.n (ψ (ω z (ce_ z) (ω z (Vb (.inr z) z) (ε ?_)))))
 rw [<-Gg]
 refine TC.front 2 z z (TC.ci_ (λw h=>Reach.bg_ bn nK h) (λτ458 Eu FQ=> ?_))
 replace au:=au.mono Eu
 replace aY:=aY.mono Eu
 replace aV:=aV.mono Eu
 have hr456b:=FQ.big
 refine TC.front 3 z z (TC.ci_ (λw h=>Reach.bg_ bn yY h) (λτ461 zY TP=> ?_))
 replace au:=au.mono zY
 replace aY:=aY.mono zY
 replace aV:=aV.mono zY
 replace FQ:=FQ.mono zY
 have hr459b:=TP.big
 refine TC.ret ?_
 obtain rfl:=so hh
 exact ro [κ oH (oU x0 aI aH aA aX aU ay) 25,κ qC #[.slice pq jW.length o_] 27,κ Ik #[.slice yD jG.length yu] 27] z (RVs.tmp z RVs.nil) ⟨oH,aI,aH,aA,aX,aU,ay,qC,pq,o_,Ik,yD,yu,z,au,aY,aV,FQ,TP,z⟩
def Vl(eG:ak)(jK:Nat)(Hg:Int):Option (Nat×(ak×Nat)):=
 grd (0<=Hg/\Hg<(eG.length:Int)) (grd (jK+1<=9223372036854775807) (some (0,((eG.set Hg.toNat (jK:Int)),(jK+1)))))
def Em_(gW:Nat)(WC:List Tip):Option (((List Tip)×Nat)⊕(Fst×Int)):=
 nxt (WC,(gW+1))
def Ek_(oq:Nat)(Wx:List Tip):Option (((List Tip)×Nat)⊕(Fst×Int)):=
 nxt (Wx,(oq+1))
def Du_(jh:Nat)(Wv:List Arc):Option (((List Arc)×Nat)⊕(Fst×Int)):=
 nxt (Wv,(jh+1))
def QB(x0:Fst)(eG:ak)(jK:Nat)(dK:List Tip)(oV:List Tip)(yM:List Arc)(jh:Nat):Option (((List Arc)×Nat)⊕(Fst×Int)):=
 aN (decide ((jh:Int)<((x0.arcs.length:Nat):Int))) (grd (0<=((nth x0.arcs jh bg).frm)/\((nth x0.arcs jh bg).frm)<(eG.length:Int)) (grd (0<=((nth x0.arcs jh bg).to)/\((nth x0.arcs jh bg).to)<(eG.length:Int)) (aN (decide (0<=(nth eG (((nth x0.arcs jh bg).frm).toNat) 0))) (aN (decide (0<=(nth eG (((nth x0.arcs jh bg).to).toNat) 0))) (grd ((yM.length+[(⟨(nth eG (((nth x0.arcs jh bg).frm).toNat) 0),(nth eG (((nth x0.arcs jh bg).to).toNat) 0),(nth x0.arcs jh bg).set,(nth x0.arcs jh bg).out,(nth x0.arcs jh bg).copy⟩:Arc)].length) * 72<=140737488355328) (Du_ jh (yM++[(⟨(nth eG (((nth x0.arcs jh bg).frm).toNat) 0),(nth eG (((nth x0.arcs jh bg).to).toNat) 0),(nth x0.arcs jh bg).set,(nth x0.arcs jh bg).out,(nth x0.arcs jh bg).copy⟩:Arc)]))) (Du_ jh yM)) (Du_ jh yM)))) (fin (bnd (MP (⟨(jK:Int),dK,oV,yM⟩:Fst)) (λv145=>some (v145.1,v145.2))))
def Qu(x0:Fst)(eG:ak)(jK:Nat)(dK:List Tip)(oV:List Tip)(oq:Nat):Option (((List Tip)×Nat)⊕(Fst×Int)):=
 aN (decide ((oq:Int)<((x0.ends.length:Nat):Int))) (grd (0<=((nth x0.ends oq aK).state)/\((nth x0.ends oq aK).state)<(eG.length:Int)) (aN (decide (0<=(nth eG (((nth x0.ends oq aK).state).toNat) 0))) (grd ((oV.length+[(⟨(nth eG (((nth x0.ends oq aK).state).toNat) 0),(nth x0.ends oq aK).out⟩:Tip)].length) * 24<=140737488355328) (Ek_ oq (oV++[(⟨(nth eG (((nth x0.ends oq aK).state).toNat) 0),(nth x0.ends oq aK).out⟩:Tip)]))) (Ek_ oq oV))) (fin (bC (λq:(List Arc)×Nat=>QB x0 eG jK dK oV q.1 q.2) (([]:List Arc),0)))
def Qx(x0:Fst)(eG:ak)(jK:Nat)(dK:List Tip)(gW:Nat):Option (((List Tip)×Nat)⊕(Fst×Int)):=
 aN (decide ((gW:Int)<((x0.starts.length:Nat):Int))) (grd (0<=((nth x0.starts gW aK).state)/\((nth x0.starts gW aK).state)<(eG.length:Int)) (aN (decide (0<=(nth eG (((nth x0.starts gW aK).state).toNat) 0))) (grd ((dK.length+[(⟨(nth eG (((nth x0.starts gW aK).state).toNat) 0),(nth x0.starts gW aK).out⟩:Tip)].length) * 24<=140737488355328) (Em_ gW (dK++[(⟨(nth eG (((nth x0.starts gW aK).state).toNat) 0),(nth x0.starts gW aK).out⟩:Tip)]))) (Em_ gW dK))) (fin (bC (λq:(List Tip)×Nat=>Qu x0 eG jK dK q.1 q.2) (([]:List Tip),0)))
def F9_(x0:Fst)(jz:Nat)(eG:ak)(jK:Nat):Option (Fst×Int):=
 jsel jz (bC (λq:(List Tip)×Nat=>Qx x0 eG jK q.1 q.2) (([]:List Tip),0)) (λ_=>none)
def Qv(x0:Fst)(lD:ak)(Bz:Nat):Option ((ak×Nat)⊕(Fst×Int)):=
 aN (decide ((Bz:Int)<(((replicate x0.states.toNat (0:Int)).length:Nat):Int))) (grd (Bz<lD.length) (nxt ((lD.set Bz (-1)),(Bz+1)))) (fin (bnd (E0_ x0) (λv29=>bnd (Ec_ (Nl (λ(q:ak×Nat) (x:Int)=>Vl q.1 q.2 x)) (0,(lD,0)) (⟨v29.1.states,v29.1.starts,v29.1.ends,v29.1.arcs⟩:Fst) v29.2.1 v29.2.2) (λzr4=>F9_ x0 zr4.1 zr4.2.1 zr4.2.2))))
def Fk_(x0:Fst):Option (Fst×Int):=
 bnd (ZA x0) (λv5=>aN (decide (v5≠0)) (some ((⟨0,([]:List Tip),([]:List Tip),([]:List Arc)⟩:Fst),1)) (grd (0<=x0.states/\8 * x0.states.toNat<=281474976710656) (bC (λq:ak×Nat=>Qv x0 q.1 q.2) ((replicate x0.states.toNat (0:Int)),0))))
def Ih_(σ:aj)(r:Fst×Int):Value->aj->List Res->Prop:=λv σ' H'=>
 ∃a1 c1 a2 c2 a3 c3,v= .tuple #[.agg (oU r.1 a1 c1 a2 c2 a3 c3),.int .i64 r.2]/\RS σ' 2 dJ (.slice a1 r.1.starts.length c1) r.1.starts/\RS σ' 2 dJ (.slice a2 r.1.ends.length c2) r.1.ends/\RS σ' 8 kF (.slice a3 r.1.arcs.length c3) r.1.arcs/\H'=[]
theorem H4_{σ:aj}{x0:Fst}(au:RS σ 2 dJ (.slice aI x0.starts.length aH) x0.starts)(aY:RS σ 2 dJ (.slice aA x0.ends.length aX) x0.ends)(aV:RS σ 8 kF (.slice aU x0.arcs.length ay) x0.arcs){r:Fst×Int}(hh:Fk_ x0=some r):
  Con prog 44 #[.agg (oU x0 aI aH aA aX aU ay)] σ [] (Ih_ σ r):=by
 dsimp only [Fk_]at hh
 have f0_0b:=au.rv.big
 have f0_1b:=aY.rv.big
 have f0_2b:=aV.rv.big
 refine Con.mk (n:=136) Tryz.func44 z z z (λw0=> ?_)
 refine ψ (ν z (boxA z z z z (λbG=> ?_)))
 refine ν z (OpOk.alloc z RN z z (λd_=> ?_))
 refine ξ z z (ε (ζ (ψ (ω z (kG z IB AL z (i:=1) z z) ?_))))
 obtain ⟨v5,u5,hh⟩:=dM hh
 refine ν z (jF (F8_ (x0:=x0) au aY aV u5) z z Wi z z z ?_)
 refine ω z (OpVal.neq z z z) (ε (TC.cD z hh (λbW hh=> ?_) (λbW hh=> ?_)))
 ·refine ψ (ω z (nD z Ox RN z) (ν z (storeAll z AL z z z z z z ?_)))
  refine ξ z z (ε (TC.rt 1 (S.r ?_)))
  obtain rfl:=so hh
  exact ro [] z (RVs.agg IB AL z (i:=0) z z (RVs.tmp z RVs.nil)) ⟨none,0,none,0,none,0,z,(RS.nilF _ dJ g_),(RS.nilF _ dJ g_),(RS.nilF _ kF wB),z⟩
 refine ι (S.n (ψ (ω z (aS z E5 z) (ω z (aZ z fJ z (i:=1) z z) ?_))))
 obtain ⟨u12,hh⟩:=aP hh
 refine ν rfl (pz (m:=x0.states.toNat) (enc:=aG) (0:Int) rfl b_ dB uV lu rfl rfl (vN u12.1) (vN u12.1) (by omega) (by decide) bn (by decide) rfl jS (λkC c107=> ?_))
 refine ν z (OpOk.alloc z lq z z (λoH=> ?_))
 refine ν z (gK z fZ z z z z z ?_)
 refine ε (ζ (ψ (ω z (aZ z hs_ z (i:=0) z z) (ω z (lenC z b_ z) (ξ z z (ε (υ (TC.ig (α:=(ak×Nat)×(Unit)) (rgs [(5,1),(27,7)]) (λg=>[(27,.int .i64 ((g.1.2:Nat):Int))]) (λg=>[κ bG (oU x0 aI aH aA aX aU ay) 25,κ d_ #[.int .i64 0,bT,bT,bT] 25,κ oH #[.slice kC ((replicate x0.states.toNat (0:Int)).length) c107] 86,φ 3 1 aG (.slice kC (replicate x0.states.toNat (0:Int)).length c107) g.1.1]) (λg=>σ) (λg=>bC (λq:ak×Nat=>Qv x0 q.1 q.2) g.1=some r/\g.1.1.length=(replicate x0.states.toNat (0:Int)).length) (λg=>f_ (λq:ak×Nat=>Qv x0 q.1 q.2) g.1) (((replicate x0.states.toNat (0:Int)),0),()) (Θ [1,1,2,3] 4) z (by repeat (first|exact trivial|refine ⟨z,?_⟩)) ⟨hh,z⟩ (λg1 j1 hg1=> ?_)))))))))
 obtain ⟨⟨lD,Bz⟩,_⟩:=g1
 obtain ⟨hh,Cm⟩:=hg1
 try dsimp only at Cm ⊢
 obtain ⟨z1,hh,hR1⟩:=gJ hh
 dsimp only [Qv]at hh
 refine χ (i:=3) z (λ_ hb120 _=> ?_)
 refine ψ (ω z (OpVal.lss z z z) (ε (ζ (TC.cD z hh (λYL hh=> ?_) (λYL hh=> ?_)))))
 ·refine ι (S.n (ζ (υ (ψ (ξ z z (ξ z z (ε (η (ω z (aZ z hs_ z (i:=2) z z) (ξ z z ?_))))))))))
  obtain ⟨u23,hh⟩:=aP hh
  refine TL.isSl (i:=3) z (λhs122 _ _=> ?_)
  refine ω z (bU z b_ dB z z hs122 (by omega)) (θ 3 z z ?_)
  have gG:(lD.set Bz (-1)).length=(replicate x0.states.toNat (0:Int)).length:=by rw [gy];exact Cm
  refine ν z (lG (-1) z dB z z z z bn jS (by omega) (by omega) ?_)
  refine TL.nil (B.n (S.n (η (ω z (OpVal.succ z z z (by omega)) (ξ z z (ε ?_))))))
  obtain ⟨hh,X6⟩:=dO hR1 hh
  exact lf (((lD.set Bz (-1)),(Bz+1)),()) X6 ⟨hh,gG⟩ (Θ [3,3,3] 4)
 refine TC.exit (S.x (S.x ?_))
 replace hh:=dG hR1 hh
 refine Δ (S.n (ψ (ν z (OpOk.alloc z RN z z (λAr=> ?_)))))
 refine ε (ζ (ψ (ω z (kG z IB AL z (i:=1) z z) ?_)))
 obtain ⟨v29,u29,hh⟩:=dM hh
 refine ν z (OpOk.call (Ht_ au aY aV u29) z z pf85 z z z z ?_)
 rintro _ τ127 _ ny ⟨b127_10,a127_1,c127_2,a127_4,c127_5,a127_7,c127_8,b127_14,a127_11,c127_12,b127_18,a127_15,c127_16,rfl,f127_3,f127_6,f127_9,f127_13,f127_17,rfl⟩
 replace au:=au.mono ny
 replace aY:=aY.mono ny
 replace aV:=aV.mono ny
 have f127_3b:=f127_3.rv.big
 have f127_6b:=f127_6.rv.big
 have f127_9b:=f127_9.rv.big
 have f127_13b:=f127_13.big
 have f127_17b:=f127_17.big
 refine ε (υ (TC.sG (Θ [2,2,2,3,7,7,7,7] 8) ?_))
 obtain ⟨zr4,hz4,hh⟩:=dM hh
 obtain ⟨jz4,⟨eG,jK⟩⟩:=zr4
 dsimp only at hh
 refine TC.rangeG (A:=(λ(x:Int) _ vs=>vs=[.int .i64 x])) [] (λ(q:ak×Nat) (x:Int)=>Vl q.1 q.2 x) (λ(q:ak×Nat) (τ146:aj) Hs=>Hs=[κ bG (oU x0 aI aH aA aX aU ay) 25,κ d_ #[.int .i64 0,bT,bT,bT] 25,κ oH #[.slice kC ((replicate x0.states.toNat (0:Int)).length) c107] 86,φ 3 1 aG (.slice kC (replicate x0.states.toNat (0:Int)).length c107) q.1,κ Ar #[.int .i64 ((q.2:Nat):Int),bT,bT,bT] 25]/\q.1.length=(replicate x0.states.toNat (0:Int)).length) (s:=(lD,0)) rfl pf122 rfl rfl (by rintro _ _ _ _ ⟨rfl,BZ⟩ hle_;exact ⟨rfl,BZ⟩) ⟨rfl,Cm⟩ (λ_ _ _ h_=>by subst h_;rfl) (Hi_ f127_3 f127_6 f127_9 f127_13 f127_17 hz4) ?_ ?_
 ·clear hh hz4
  rintro l_ _ _ _ τ146 ⟨eG,jK⟩ Hg z4 _ _ hh qg rfl ⟨rfl,BZ⟩
  dsimp only [Vl]at hh
  replace au:=au.mono qg
  replace aY:=aY.mono qg
  replace aV:=aV.mono qg
  show TC _ _ _ (upds _ [(36,.int .i64 Hg)]) τ146 [κ bG (oU x0 aI aH aA aX aU ay) 25,κ d_ #[.int .i64 0,bT,bT,bT] 25,κ oH #[.slice kC ((replicate x0.states.toNat (0:Int)).length) c107] 86,φ 3 1 aG (.slice kC (replicate x0.states.toNat (0:Int)).length c107) eG,κ Ar #[.int .i64 (jK:Int),bT,bT,bT] 25]
  refine χ (i:=3) z (λ_ hb148 _=> ?_)
  refine η (ξ z z (TL.nil (asg_n (λ_ _ _=> ?_))))
  refine υ (ψ (ω z (aZ z hs_ z (i:=2) z z) (ξ z z (ω z (aS z E5 z) (ω z (aZ z fJ z (i:=4) z z) ?_)))))
  obtain ⟨u35,hh⟩:=aP hh
  refine TL.isSl (i:=3) z (λwW _ _=> ?_)
  refine ω z (OpVal.index z b_ dB z z wW u35.1 u35.2) (θ 3 z z ?_)
  have hn150:(eG.set Hg.toNat (jK:Int)).length=(replicate x0.states.toNat (0:Int)).length:=by rw [gy];exact BZ
  refine ν z (lG (jK:Int) z dB z z z z bn jS (by omega) (by omega) ?_)
  refine ε (η (ω z (aS z E5 z) (ω z (aZ z fJ z (i:=4) z z) ?_)))
  obtain ⟨u39,hh⟩:=aP hh
  refine ω z (OpVal.succ z z z (by omega)) (ω z (aS z E5 z) (θ 4 z z (ν z (b8_ z dB z z z z z ?_))))
  refine TL.nil (B.n ?_)
  obtain rfl:=so hh
  exact rnd_n ⟨z,_,Θ [1,4,4,4] 5,⟨z,hn150⟩⟩
 rintro τ146 _ _ qg ⟨rfl,BZ⟩ ⟨rfl⟩
 replace au:=au.mono qg
 replace aY:=aY.mono qg
 replace aV:=aV.mono qg
 dsimp only [F9_]at hh
 show jmpQ _ _ _ _ _ τ146 [κ bG (oU x0 aI aH aA aX aU ay) 25,κ d_ #[.int .i64 0,bT,bT,bT] 25,κ oH #[.slice kC ((replicate x0.states.toNat (0:Int)).length) c107] 86,φ 3 1 aG (.slice kC (replicate x0.states.toNat (0:Int)).length c107) eG,κ Ar #[.int .i64 (jK:Int),bT,bT,bT] 25,κ b127_10 (oU v29.1 a127_1 c127_2 a127_4 c127_5 a127_7 c127_8) 25,κ b127_14 #[.slice a127_11 v29.2.1.length c127_12] 27,κ b127_18 #[.slice a127_15 v29.2.2.length c127_16] 27]
 refine xn_ hh ?_ ?_ <;>clear hh
 ·intro hh
  refine B.n (S.n (ζ (ψ (ω z (aS z Td z) (ω z (aZ z FH z (i:=0) z z) (ω z (lenC z kX z) (ξ z z (ε (υ (TC.nilS 76 2 dJ (TC.ig (α:=((List Tip)×Nat)×((Option Addr)×Nat)) (rgs [(9,2),(49,21)]) (λg=>[(49,.int .i64 ((g.1.2:Nat):Int))]) (λg=>[κ bG (oU x0 aI aH aA aX aU ay) 25,κ d_ #[.int .i64 0,bT,bT,bT] 25,κ oH #[.slice kC ((replicate x0.states.toNat (0:Int)).length) c107] 86,φ 3 1 aG (.slice kC (replicate x0.states.toNat (0:Int)).length c107) eG,κ Ar #[.int .i64 (jK:Int),.slice g.2.1 g.1.1.length g.2.2,bT,bT] 25,φ 76 2 dJ (.slice g.2.1 g.1.1.length g.2.2) g.1.1]) (λg=>τ146) (λg=>bC (λq:(List Tip)×Nat=>Qx x0 eG jK q.1 q.2) g.1=some r/\eG.length=(replicate x0.states.toNat (0:Int)).length) (λg=>f_ (λq:(List Tip)×Nat=>Qx x0 eG jK q.1 q.2) g.1) ((([]:List Tip),0),(none,0)) (Θ [5,5,5,5,5] 6) z (by repeat (first|exact trivial|refine ⟨z,?_⟩)) ⟨hh,BZ⟩ (λg2 j2 hg2=> ?_))))))))))))
  obtain ⟨⟨dK,gW⟩,⟨a167,c168⟩⟩:=g2
  obtain ⟨hh,zx⟩:=hg2
  try dsimp only at zx ⊢
  obtain ⟨z1,hh,hR1⟩:=gJ hh
  dsimp only [Qx]at hh
  refine χ (i:=3) z (λ_ hb171 _=> ?_)
  refine χ (i:=5) z (λ_ hb172 _=> ?_)
  refine ψ (ω z (OpVal.lss z z z) (ε (ζ (TC.cD z hh (λAk hh=> ?_) (λAk hh=> ?_)))))
  ·refine ι (S.n (TC.cutG (α:=((List Tip))×((Option Addr)×Nat)) (rgs [(9,2),(51,18)]) (λg=>[]) (λg=>[κ bG (oU x0 aI aH aA aX aU ay) 25,κ d_ #[.int .i64 0,bT,bT,bT] 25,κ oH #[.slice kC ((replicate x0.states.toNat (0:Int)).length) c107] 86,φ 3 1 aG (.slice kC (replicate x0.states.toNat (0:Int)).length c107) eG,κ Ar #[.int .i64 (jK:Int),.slice g.2.1 g.1.length g.2.2,bT,bT] 25,φ 76 2 dJ (.slice g.2.1 g.1.length g.2.2) g.1]) (λg=>τ146) (λg=>Em_ gW g.1=some z1/\eG.length=(replicate x0.states.toNat (0:Int)).length) ?_ (λg j hg=> ?_)))
   ·skip
    refine υ (ψ (ω z (bU z kX jP z z au.rv.sl (by omega)) (ω z (Io aK z DU jP z au (by omega) (by omega)) (ν z (OpOk.alloc z vP z z (λb178=> ?_))))))
    refine ν z (storeAll z jP z z z z z z ?_)
    refine ε (ψ (ω z (aZ z hs_ z (i:=3) z z) (ω z (aS z EZ z) (ω z (aZ z fJ z (i:=0) z z) ?_))))
    obtain ⟨Jp,hh⟩:=aP hh
    refine TL.isSl (i:=4) z (λhs180 _ _=> ?_)
    refine ω z (OpVal.index z b_ dB z z hs180 Jp.1 Jp.2) (ω z (og (0:Int) z fJ z (q:=4) z bn (by omega) z) (ξ z z (ε (ψ (ξ z z (ω z (OpVal.geq z z z) (ε (TC.cD z hh (λh181 hh=> ?_) (λh181 hh=> ?_)))))))))
    ·refine η (ω z (aS z Td z) (ω z (aZ z FH z (i:=5) z z) (ξ z z (ω z (aS z AQ z) (ω z (aZ z iG z (i:=0) z z) (ω z (nD z JB vP z) (ν z (OpOk.lit (enc:=dJ) [(⟨(nth eG (((nth x0.starts gW aK).state).toNat) 0),(nth x0.starts gW aK).out⟩:Tip)] z kX jP vP z z z g_ (by decide) (by decide) aK z (by decide) z (by decide) PL (λa182 c183=> ?_)))))))))
     refine θ 7 z z ?_
     obtain ⟨u66,hh⟩:=aP hh
     refine ν z (as_ z z kX jP PZ vP z z (by decide) z z z (.inr ⟨_,0,z⟩) (by simpa using u66) (by decide) (λqE qB=> ?_))
     refine ω z (aS z Td z) (θ 7 z z (ν z (gK z Jv z z z z z ?_)))
     exact TL.nil (B.n (S.n (cf ((dK++[(⟨(nth eG (((nth x0.starts gW aK).state).toNat) 0),(nth x0.starts gW aK).out⟩:Tip)]),(qE,qB)) ⟨hh,zx⟩ (Θ [1,1,7,7,7,7] 6))))
    exact ι (B.n (S.n (cf (dK,(a167,c168)) ⟨hh,zx⟩ (Θ [6,6,6,6,6,6] 6))))
   skip
   obtain ⟨WC,⟨a176,c177⟩⟩:=g
   obtain ⟨hh,xA⟩:=hg
   try dsimp only at xA ⊢
   dsimp only [Em_]at hh
   refine χ (i:=3) z (λ_ hb187 _=> ?_)
   refine χ (i:=5) z (λ_ hb188 _=> ?_)
   refine η (ω z (OpVal.succ z z z (by omega)) (ξ z z (ε ?_)))
   obtain ⟨hh,D_⟩:=dO hR1 hh
   exact lf ((WC,(gW+1)),(a176,c177)) D_ ⟨hh,xA⟩ (Θ [5,5,5,5,5,5] 6)
  refine TC.exit (S.x (S.x ?_))
  replace hh:=dG hR1 hh
  refine Δ (S.n (ζ (ψ (ω z (aS z WI z) (ω z (aZ z FH z (i:=0) z z) (ω z (lenC z kX z) (ξ z z (ε (υ (TC.nilS 76 2 dJ (TC.ig (α:=((List Tip)×Nat)×((Option Addr)×Nat)) (rgs [(12,2),(73,21)]) (λg=>[(73,.int .i64 ((g.1.2:Nat):Int))]) (λg=>[κ bG (oU x0 aI aH aA aX aU ay) 25,κ d_ #[.int .i64 0,bT,bT,bT] 25,κ oH #[.slice kC ((replicate x0.states.toNat (0:Int)).length) c107] 86,φ 3 1 aG (.slice kC (replicate x0.states.toNat (0:Int)).length c107) eG,κ Ar #[.int .i64 (jK:Int),.slice a167 dK.length c168,.slice g.2.1 g.1.1.length g.2.2,bT] 25,φ 76 2 dJ (.slice a167 dK.length c168) dK,φ 76 2 dJ (.slice g.2.1 g.1.1.length g.2.2) g.1.1]) (λg=>τ146) (λg=>bC (λq:(List Tip)×Nat=>Qu x0 eG jK dK q.1 q.2) g.1=some r/\eG.length=(replicate x0.states.toNat (0:Int)).length) (λg=>f_ (λq:(List Tip)×Nat=>Qu x0 eG jK dK q.1 q.2) g.1) ((([]:List Tip),0),(none,0)) (Θ [6,6,6,6,6,6] 7) z (by repeat (first|exact trivial|refine ⟨z,?_⟩)) ⟨hh,zx⟩ (λg3 j3 hg3=> ?_))))))))))))
  obtain ⟨⟨oV,oq⟩,⟨a206,L_⟩⟩:=g3
  obtain ⟨hh,vC⟩:=hg3
  try dsimp only at vC ⊢
  obtain ⟨z1,hh,hR1⟩:=gJ hh
  dsimp only [Qu]at hh
  refine χ (i:=3) z (λ_ LG _=> ?_)
  refine χ (i:=5) z (λ_ U0 _=> ?_)
  refine χ (i:=6) z (λ_ hb212 _=> ?_)
  refine ψ (ω z (OpVal.lss z z z) (ε (ζ (TC.cD z hh (λYF hh=> ?_) (λYF hh=> ?_)))))
  ·refine ι (S.n (TC.cutG (α:=((List Tip))×((Option Addr)×Nat)) (rgs [(12,2),(75,18)]) (λg=>[]) (λg=>[κ bG (oU x0 aI aH aA aX aU ay) 25,κ d_ #[.int .i64 0,bT,bT,bT] 25,κ oH #[.slice kC ((replicate x0.states.toNat (0:Int)).length) c107] 86,φ 3 1 aG (.slice kC (replicate x0.states.toNat (0:Int)).length c107) eG,κ Ar #[.int .i64 (jK:Int),.slice a167 dK.length c168,.slice g.2.1 g.1.length g.2.2,bT] 25,φ 76 2 dJ (.slice a167 dK.length c168) dK,φ 76 2 dJ (.slice g.2.1 g.1.length g.2.2) g.1]) (λg=>τ146) (λg=>Ek_ oq g.1=some z1/\eG.length=(replicate x0.states.toNat (0:Int)).length) ?_ (λg j hg=> ?_)))
   ·skip
    refine υ (ψ (ω z (bU z kX jP z z aY.rv.sl (by omega)) (ω z (Io aK z DU jP z aY (by omega) (by omega)) (ν z (OpOk.alloc z vP z z (λb218=> ?_))))))
    refine ν z (storeAll z jP z z z z z z ?_)
    refine ε (ψ (ω z (aZ z hs_ z (i:=3) z z) (ω z (aS z EZ z) (ω z (aZ z fJ z (i:=0) z z) ?_))))
    obtain ⟨u83,hh⟩:=aP hh
    refine TL.isSl (i:=4) z (λhs220 _ _=> ?_)
    refine ω z (OpVal.index z b_ dB z z hs220 u83.1 u83.2) (ω z (og (0:Int) z fJ z (q:=4) z bn (by omega) z) (ξ z z (ε (ψ (ξ z z (ω z (OpVal.geq z z z) (ε (TC.cD z hh (λYC hh=> ?_) (λYC hh=> ?_)))))))))
    ·refine η (ω z (aS z WI z) (ω z (aZ z FH z (i:=5) z z) (ξ z z (ω z (aS z AQ z) (ω z (aZ z iG z (i:=0) z z) (ω z (nD z JB vP z) (ν z (OpOk.lit (enc:=dJ) [(⟨(nth eG (((nth x0.ends oq aK).state).toNat) 0),(nth x0.ends oq aK).out⟩:Tip)] z kX jP vP z z z g_ (by decide) (by decide) aK z (by decide) z (by decide) PL (λa222 c223=> ?_)))))))))
     refine θ 8 z z ?_
     obtain ⟨u95,hh⟩:=aP hh
     refine ν z (as_ z z kX jP PZ vP z z (by decide) z z z (.inr ⟨_,0,z⟩) (by simpa using u95) (by decide) (λQh c226=> ?_))
     refine ω z (aS z WI z) (θ 7 z z (ν z (gK z Jv z z z z z ?_)))
     exact TL.nil (B.n (S.n (cf ((oV++[(⟨(nth eG (((nth x0.ends oq aK).state).toNat) 0),(nth x0.ends oq aK).out⟩:Tip)]),(Qh,c226)) ⟨hh,vC⟩ (Θ [1,8,2,8,8,8,8] 7))))
    exact ι (B.n (S.n (cf (oV,(a206,L_)) ⟨hh,vC⟩ (Θ [7,7,7,7,7,7,7] 7))))
   skip
   obtain ⟨Wx,⟨a216,c217⟩⟩:=g
   obtain ⟨hh,Uy⟩:=hg
   try dsimp only at Uy ⊢
   dsimp only [Ek_]at hh
   refine χ (i:=3) z (λ_ hb227 _=> ?_)
   refine χ (i:=5) z (λ_ hb228 _=> ?_)
   refine χ (i:=6) z (λ_ hb229 _=> ?_)
   refine η (ω z (OpVal.succ z z z (by omega)) (ξ z z (ε ?_)))
   obtain ⟨hh,D7⟩:=dO hR1 hh
   exact lf ((Wx,(oq+1)),(a216,c217)) D7 ⟨hh,Uy⟩ (Θ [6,6,6,6,6,6,6] 7)
  refine TC.exit (S.x (S.x ?_))
  replace hh:=dG hR1 hh
  refine Δ (S.n (ζ (ψ (ω z (aS z Tf z) (ω z (aZ z Nb z (i:=0) z z) (ω z (lenC z qF z) (ξ z z (ε (υ (TC.nilS 66 8 kF (TC.ig (α:=((List Arc)×Nat)×((Option Addr)×Nat)) (rgs [(15,3),(97,35)]) (λg=>[(97,.int .i64 ((g.1.2:Nat):Int))]) (λg=>[κ d_ #[.int .i64 0,bT,bT,bT] 25,κ oH #[.slice kC ((replicate x0.states.toNat (0:Int)).length) c107] 86,φ 3 1 aG (.slice kC (replicate x0.states.toNat (0:Int)).length c107) eG,κ Ar #[.int .i64 (jK:Int),.slice a167 dK.length c168,.slice a206 oV.length L_,.slice g.2.1 g.1.1.length g.2.2] 25,φ 76 2 dJ (.slice a167 dK.length c168) dK,φ 76 2 dJ (.slice a206 oV.length L_) oV,φ 66 8 kF (.slice g.2.1 g.1.1.length g.2.2) g.1.1]) (λg=>τ146) (λg=>bC (λq:(List Arc)×Nat=>QB x0 eG jK dK oV q.1 q.2) g.1=some r/\eG.length=(replicate x0.states.toNat (0:Int)).length) (λg=>f_ (λq:(List Arc)×Nat=>QB x0 eG jK dK oV q.1 q.2) g.1) ((([]:List Arc),0),(none,0)) (Θ [7,7,7,7,7,7] 7) z (by repeat (first|exact trivial|refine ⟨z,?_⟩)) ⟨hh,vC⟩ (λg4 j4 hg4=> ?_))))))))))))
  obtain ⟨⟨yM,jh⟩,⟨Zj,YS⟩⟩:=g4
  obtain ⟨hh,Gp⟩:=hg4
  try dsimp only at Gp ⊢
  obtain ⟨z1,hh,hR1⟩:=gJ hh
  dsimp only [QB]at hh
  refine χ (i:=2) z (λ_ hb251 _=> ?_)
  refine χ (i:=4) z (λ_ hb252 _=> ?_)
  refine χ (i:=5) z (λ_ hb253 _=> ?_)
  refine χ (i:=6) z (λ_ hb254 _=> ?_)
  refine ψ (ω z (OpVal.lss z z z) (ε (ζ (TC.cD z hh (λh255 hh=> ?_) (λh255 hh=> ?_)))))
  ·refine ι (S.n (TC.cutG (α:=((List Arc))×((Option Addr)×Nat)) (rgs [(15,3),(99,32)]) (λg=>[]) (λg=>[κ d_ #[.int .i64 0,bT,bT,bT] 25,κ oH #[.slice kC ((replicate x0.states.toNat (0:Int)).length) c107] 86,φ 3 1 aG (.slice kC (replicate x0.states.toNat (0:Int)).length c107) eG,κ Ar #[.int .i64 (jK:Int),.slice a167 dK.length c168,.slice a206 oV.length L_,.slice g.2.1 g.1.length g.2.2] 25,φ 76 2 dJ (.slice a167 dK.length c168) dK,φ 76 2 dJ (.slice a206 oV.length L_) oV,φ 66 8 kF (.slice g.2.1 g.1.length g.2.2) g.1]) (λg=>τ146) (λg=>Du_ jh g.1=some z1/\eG.length=(replicate x0.states.toNat (0:Int)).length) ?_ (λg j hg=> ?_)))
   ·skip
    refine υ (ψ (ω z (bU z qF nZ z z aV.rv.sl (by omega)) (ω z (Io bg z Jr nZ z aV (by omega) (by omega)) (ν z (OpOk.alloc z AO z z (λb260=> ?_))))))
    refine ν z (storeAll z nZ z z z z z z ?_)
    refine ε (ζ ?_)
    obtain ⟨Ht,hh⟩:=aP hh
    obtain ⟨u117,hh⟩:=aP hh
    refine TC.draw [] (by kernel_rfl) (TA.b 0 z (aZ z hs_ z (i:=2) z z) z (Ω 1 z (aS z PD z) z (TA.b 2 z (aZ z fJ z (i:=0) z z) z (TA.isSl (i:=3) z (λhs264 _ _=> ?_)))))
    refine TA.b 3 z (OpVal.index z b_ dB z z hs264 Ht.1 Ht.2) z (TA.b 4 z (og (0:Int) z fJ z (q:=3) z bn (by omega) z) z (TA.b 5 z (aZ z hs_ z (i:=2) z z) z (Ω 6 z (aS z Ti z) z (TA.b 7 z (aZ z fJ z (i:=0) z z) z (TA.isSl (i:=3) z (λhs265 _ _=> ?_))))))
    refine TA.b 8 z (OpVal.index z b_ dB z z hs265 u117.1 u117.2) z (TA.b 9 z (og (0:Int) z fJ z (q:=3) z bn (by omega) z) z (Ω 10 z (dw (.inr z) z) z (Ω 11 z (dw (.inr z) z) z (TA.dn (S.n (ψ (ξ z z (ω z (OpVal.geq z z z) (TL.j z z (TL.split 113 z (λAi=> ?_) (λAi=> ?_)))))))))))
    ·replace hh:=gZ Ai hh
     replace Ai:=jg Ai
     refine Ψ z (dw (.inl z) z) (Ψ z (OpVal.geq z z z) (ω z (dS z z z) (ε (TC.cD z hh (λh267 hh=> ?_) (λh267 hh=> ?_)))))
     ·refine η (ω z (aS z Tf z) (ω z (aZ z Nb z (i:=4) z z) (ξ z z (ξ z z (ω z (aS z l5_ z) (ω z (bj_ z MG Hw z (i:=0) z z z) (ω z (aS z l8_ z) (ω z (aZ z iG z (i:=0) z z) (ω z (aS z pt_ z) (ω z (aZ z nG z (i:=0) z z) (ω z (nD z Ov AO z) (ν z (OpOk.lit (enc:=kF) [(⟨(nth eG (((nth x0.arcs jh bg).frm).toNat) 0),(nth eG (((nth x0.arcs jh bg).to).toNat) 0),(nth x0.arcs jh bg).set,(nth x0.arcs jh bg).out,(nth x0.arcs jh bg).copy⟩:Arc)] z qF nZ AO z z z wB (by decide) (by decide) bg z (by decide) z (by decide) YN (λa268 c269=> ?_))))))))))))))
      refine θ 8 z z ?_
      obtain ⟨u139,hh⟩:=aP hh
      refine ν z (as_ z z qF nZ P5 AO z z (by decide) z z z (.inr ⟨_,0,z⟩) (by simpa using u139) (by decide) (λa271 c272=> ?_))
      refine ω z (aS z Tf z) (θ 6 z z (ν z (gK z Oa z z z z z ?_)))
      exact TL.nil (B.n (S.n (cf ((yM++[(⟨(nth eG (((nth x0.arcs jh bg).frm).toNat) 0),(nth eG (((nth x0.arcs jh bg).to).toNat) 0),(nth x0.arcs jh bg).set,(nth x0.arcs jh bg).out,(nth x0.arcs jh bg).copy⟩:Arc)]),(a271,c272)) ⟨hh,Gp⟩ (Θ [1,8,8,3,8,8,8] 7))))
     exact ι (B.n (S.n (cf (yM,(Zj,YS)) ⟨hh,Gp⟩ (Θ [7,7,7,7,7,7,7] 7))))
    replace hh:=gY Ai hh
    replace Ai:=jo Ai
    exact π z (π z (ω z (dV z z z) (ε (TC.f z (ι (B.n (S.n (cf (yM,(Zj,YS)) ⟨hh,Gp⟩ (Θ [7,7,7,7,7,7,7] 7)))))))))
   skip
   obtain ⟨Wv,⟨a258,c259⟩⟩:=g
   obtain ⟨hh,xw⟩:=hg
   try dsimp only at xw ⊢
   dsimp only [Du_]at hh
   refine χ (i:=2) z (λ_ hb273 _=> ?_)
   refine χ (i:=4) z (λ_ hb274 _=> ?_)
   refine χ (i:=5) z (λ_ hb275 _=> ?_)
   refine χ (i:=6) z (λ_ hb276 _=> ?_)
   refine η (ω z (OpVal.succ z z z (by omega)) (ξ z z (ε ?_)))
   obtain ⟨hh,Xo⟩:=dO hR1 hh
   exact lf ((Wv,(jh+1)),(a258,c259)) Xo ⟨hh,xw⟩ (Θ [6,6,6,6,6,6,6] 7)
  refine TC.exit (S.x (S.x ?_))
  replace hh:=dG hR1 hh
  refine Δ (S.n (ψ (ω z (kG z IB AL z (i:=3) z z) (θ 4 z z (TL.oh g_ (λτ280 hle279 zo=> ?_))))))
  have hr278b:=zo.rv.big
  refine θ 4 z z (TL.oh g_ (λτ283 Yi FX=> ?_))
  replace zo:=zo.mono Yi
  have hr281b:=FX.rv.big
  refine θ 4 z z (TL.oh wB (λτ286 KX Ua=> ?_))
  replace zo:=zo.mono KX
  replace FX:=FX.mono KX
  have hr284b:=Ua.rv.big
  obtain ⟨v145,Ol,hh⟩:=dM hh
  refine ν z (OpOk.call (Ik_ (x0:=(⟨(jK:Int),dK,oV,yM⟩:Fst)) zo FX Ua Ol) z z pf56 z z z z ?_)
  rintro _ τ287 _ hle287 ⟨a287_1,c287_1,a287_2,c287_2,a287_3,c287_3,rfl,hr287_0,hr287_1,hr287_2,rfl⟩
  have hr287_0b:=hr287_0.rv.big
  have hr287_1b:=hr287_1.rv.big
  have hr287_2b:=hr287_2.rv.big
  refine ω z (OpVal.extract z z z) (ω z (OpVal.extract z z z) (ν z (storeAll z AL z z z z z z ?_)))
  refine ξ z z (ε (TC.rt 1 ?_))
  obtain rfl:=so hh
  exact ro [] z (RVs.agg IB AL z (i:=0) z z (RVs.tmp z RVs.nil)) ⟨a287_1,c287_1,a287_2,c287_2,a287_3,c287_3,z,hr287_0,hr287_1,hr287_2,z⟩
 intro m_ c_ hh hc_
 exact jl_nil hc_
end Go.Proofs.YtchebnpdnfhenaaGreatDoor
end

noncomputable section
namespace Go.E
open Go
structure TLag where
  p:Int
  q:Int
  a:List UInt8
  b:List UInt8
  deriving DecidableEq
def TLag.zero:TLag:=⟨0,0,[],[]⟩
structure Walk where
  t:Fst
  arcs:List (List Arc)
  most:Int
end Go.E
end

noncomputable section
namespace Go.E
open Go Go.Sort Go.Proofs Go.Shelf
theorem OpVal.minI{P:Program}{n:Nat}{e:Env}{σ:aj}{H:List Res}{o:Oper}{x y:Operand}{ts:Array TypeId}{k k':IntKind}{a b:Int}(ho:o.op= .call {callee:= .builtin .min,args:= #[x,y],argTypes:=ts})(hx:ev e x= .int k a)(hy:ev e y= .int k' b):OpVal P n o e σ H (.int k (min a b)):=λw _=>by
  have h:(if b<a then b else a)=min a b:=by rw [Int.min_def];split<;>split<;>omega
  simp [execOp,ho,resolve,invoke,builtin,hx,hy,Builtin.min_,Builtin.min2,h]
end Go.E
end

noncomputable section
namespace Go.E
open Go
structure ReLeaf where
  kind:Int
  text:List UInt8
  set:BSet
  min:Int
  max:Int
  deriving DecidableEq
def ReLeaf.zero:ReLeaf:=⟨0,[],BSet.zero,0,0⟩
structure ReRoot where
  kind:Int
  text:List UInt8
  set:BSet
  parts:List ReLeaf
  min:Int
  max:Int
def ReRoot.zero:ReRoot:=⟨0,[],BSet.zero,[],0,0⟩
end Go.E
end

noncomputable section
namespace Go.Proofs.YtchebnpdnfhenaaGreatDoor
open Go Go.E Go.E.OpVal Go.E.OpOk Go.Proofs.Tryz
open List (replicate)
def ZI(x0:T_1)(x1:T_1)(kW:Nat):Option ((Nat)⊕(Int)):=
 aN (decide ((kW:Int)<(min ((x0.length:Nat):Int) ((x1.length:Nat):Int)))) (grd (kW<x0.length) (grd (kW<x1.length) (aN (decide ((((nth x0 kW 0).toNat:Nat):Int)≠(((nth x1 kW 0).toNat:Nat):Int))) (fin (some (kW:Int))) (nxt (kW+1))))) (fin (some (min ((x0.length:Nat):Int) ((x1.length:Nat):Int))))
def Fh_(x0:T_1)(x1:T_1):Option (Int):=
 grd (x0.length<=281474976710656) (grd (x1.length<=281474976710656) (bC (λq:Nat=>ZI x0 x1 q) 0))
theorem H5_{σ:aj}{x0:T_1}{x1:T_1}{r:Int}(hh:Fh_ x0 x1=some r):
  Con prog 155 #[.string (bs x0),.string (bs x1)] σ [] (jQ (.int .i64 r) σ):=by
 dsimp only [Fh_]at hh
 refine Con.mk (n:=26) Tryz.func155 z z z (λw0=> ?_)
 have x0b:=H7 hh
 replace hh:=Hz hh
 have x1b:=H7 hh
 replace hh:=Hz hh
 refine ψ (ξ z z (ε (ψ (ω z (eu (.inl z) z) (ω z (rY z kK z) (ω z (eu (.inl z) z) (ω z (rY z kK z) (ω z (minI z z z) (ξ z z (ε (ζ (ψ (ξ z z (ξ z z (ε ?_)))))))))))))))
 refine υ (TC.ig (α:=(Nat)×(Unit)) (rgs [(4,1),(6,1),(13,12)]) (λg=>[(13,.int .i64 ((g.1:Nat):Int))]) (λg=>[]) (λg=>σ) (λg=>bC (λq:Nat=>ZI x0 x1 q) g.1=some r) (λg=>f_ (λq:Nat=>ZI x0 x1 q) g.1) (0,()) (Sub.pre 0 z) z (by repeat (first|exact trivial|refine ⟨z,?_⟩)) hh (λg1 j1 hg1=> ?_))
 obtain ⟨kW,_⟩:=g1
 have hh:=hg1;clear hg1
 try dsimp only
 obtain ⟨z1,hh,hR1⟩:=gJ hh
 dsimp only [ZI]at hh
 refine ψ (ω z (OpVal.lss z z z) (ε (ζ (TC.cD z hh (λgX hh=> ?_) (λgX hh=> ?_)))))
 ·refine ι (S.n (ζ (υ (ψ (ξ z z (ξ z z (ε (ζ ?_))))))))
  obtain ⟨u15,hh⟩:=aP hh
  obtain ⟨RU,hh⟩:=aP hh
  refine TC.draw [] (by kernel_rfl) (Ω 0 z (eu (.inl z) z) z (Ω 1 z (dw (.inl z) z) z (Ω 2 z (bw_ z kK z z (by omega)) z (Ω 3 z (eu (.inl z) z) z (Ω 4 z (dw (.inl z) z) z (Ω 5 z (bw_ z kK z z (by omega)) z (Ω 6 z (OpVal.neq z z z) z (TA.dn (S.n (TC.cD z hh (λbW hh=> ?_) (λbW hh=> ?_)))))))))))
  ·refine ψ (ξ z z (ξ z z (ε (TC.ret (B.r (S.r (S.r ?_)))))))
   replace hh:=dG hR1 hh
   refine B.r (S.r ?_)
   obtain rfl:=so hh
   exact rq [4] ⟨z,z,z⟩
  refine ι (B.n (S.n (η (ω z (OpVal.succ z z z (by omega)) (ξ z z (ε ?_))))))
  obtain ⟨hh,Et⟩:=dO hR1 hh
  exact lf ((kW+1),()) Et hh (Sub.pre 0 z)
 refine TC.exit (S.x (S.x ?_))
 replace hh:=dG hR1 hh
 refine Δ (S.n (ψ (ξ z z (ξ z z (ε (TC.ret ?_))))))
 obtain rfl:=so hh
 exact rq [4] ⟨z,z,z⟩
end Go.Proofs.YtchebnpdnfhenaaGreatDoor
end

noncomputable section
namespace Go.E
open Go
theorem OpVal.gtrBs{P:Program}{n:Nat}{e:Env}{σ:aj}{H:List Res}{o:Oper}{x y:Operand}{l m:List UInt8}{T T':TypeId}(ho:o.op= .binOp .gtr T x y T')(hx:ev e x= .string (bs l))(hy:ev e y= .string (bs m)):OpVal P n o e σ H (.bool (!(decide (Lib.compareBytes l m<0) || l == m))):=λw _=>by
  simp only [execOp,ho,hx,hy,Sem.run_bind,f7_,Result.andThen_ok,binOp,Op.stringOp,ByteArray.toList_eq,Z_,jg_,Sem.run_pure]
end Go.E
end

noncomputable section
namespace Go.Proofs.YtchebnpdnfhenaaGreatDoor
open Go Go.E Go.E.OpVal Go.E.OpOk Go.Proofs.Tryz
open List (replicate)
theorem pf154:plainF Tryz.prog 154=true:=by kernel_rfl
theorem Sz:plainF Tryz.prog 186=true:=by kernel_rfl
def rg_(x0:T_1):Option (Bool):=
 some (decide (x0≠x0))
theorem o4_{σ:aj}{x0:T_1}{r:Bool}(hh:rg_ x0=some r):
  Con prog 186 #[.string (bs x0)] σ [] (jQ (.bool r) σ):=by
 dsimp only [rg_]at hh
 refine Con.mk (n:=6) Tryz.func186 z z z (λw0=> ?_)
 refine ψ (TL.j z z (ε (ψ (ω z (eu (.inl z) z) (ω z (eu (.inl z) z) (ω z (Ih z z z) (TL.j z z (ε (TC.ret ?_)))))))))
 obtain rfl:=so hh
 exact rq [2] ⟨z,z,z⟩
def kw_(x0:T_1)(x1:T_1):Option (Int):=
 bnd (rg_ x0) (λv3=>bnd (rg_ x1) (λv6=>aN v3 (aN v6 (some 0) (some (-1))) (aN v6 (some 1) (aN (decide (Lib.compareBytes x0 x1<0)) (some (-1)) (aN (!(decide (Lib.compareBytes x0 x1<0) || x0 == x1)) (some 1) (some 0))))))
theorem rh_{σ:aj}{x0:T_1}{x1:T_1}{r:Int}(hh:kw_ x0 x1=some r):
  Con prog 154 #[.string (bs x0),.string (bs x1)] σ [] (jQ (.int .i64 r) σ):=by
 dsimp only [kw_]at hh
 refine Con.mk (n:=20) Tryz.func154 z z z (λw0=> ?_)
 refine ψ (ξ z z (ε (ψ (ω z (eu (.inl z) z) ?_))))
 obtain ⟨v3,u3,hh⟩:=dM hh
 refine ν z (jF (o4_ u3) z z Sz z z z ?_)
 refine TL.j z z (ε (ψ (ω z (eu (.inl z) z) ?_)))
 obtain ⟨v6,u6,hh⟩:=dM hh
 refine ν z (jF (o4_ u6) z z Sz z z z ?_)
 refine TL.j z z (ε (ζ (ψ (TL.j z z (ε (TC.cB z hh (λfC hh=> ?_) (λfC hh=> ?_)))))))
 ·refine ζ (ψ (TL.j z z (ε (TC.cB z hh (λyg hh=> ?_) (λyg hh=> ?_)))))
  ·refine ψ (ξ z z (ε (TC.ret (S.r (S.r ?_)))))
   obtain rfl:=so hh
   exact rq [4] ⟨z,z,z⟩
  refine ι (S.n (ψ (ξ z z (ε (TC.ret (S.r ?_))))))
  obtain rfl:=so hh
  exact rq [4] ⟨z,z,z⟩
 refine ι (S.n (ζ (ψ (TL.j z z (ε (TC.cB z hh (λiI hh=> ?_) (λiI hh=> ?_)))))))
 ·refine ψ (ξ z z (ε (TC.ret (S.r ?_))))
  obtain rfl:=so hh
  exact rq [4] ⟨z,z,z⟩
 refine ι (S.n (ζ (ψ (ω z (eu (.inl z) z) (ω z (eu (.inl z) z) (ω z (lssBs z z z) (ε (TC.cD z hh (λgX hh=> ?_) (λgX hh=> ?_)))))))))
 ·refine ψ (ξ z z (ε (TC.ret (S.r ?_))))
  obtain rfl:=so hh
  exact rq [4] ⟨z,z,z⟩
 refine ι (S.n (ζ (ψ (ω z (eu (.inl z) z) (ω z (eu (.inl z) z) (ω z (gtrBs z z z) (ε (TC.cB z hh (λbW hh=> ?_) (λbW hh=> ?_)))))))))
 ·refine ψ (ξ z z (ε (TC.ret (S.r ?_))))
  obtain rfl:=so hh
  exact rq [4] ⟨z,z,z⟩
 refine ι (S.n (ψ (ξ z z (ε (TC.ret ?_)))))
 obtain rfl:=so hh
 exact rq [4] ⟨z,z,z⟩
def Fs_(x0:Tip)(x1:Tip):Option (Int):=
 bnd (Qq x0.state x1.state) (λv8=>bnd (kw_ x0.out x1.out) (λv13=>bnd (Zw [v8,v13]) (λv15=>some v15)))
theorem Hv_{σ:aj}{x0:Tip}{x1:Tip}{r:Int}(hh:Fs_ x0 x1=some r):
  Con prog 125 #[.agg #[.int .i64 x0.state,.string (bs x0.out)],.agg #[.int .i64 x1.state,.string (bs x1.out)]] σ [] (jQ (.int .i64 r) σ):=by
 dsimp only [Fs_]at hh
 refine Con.mk (n:=17) Tryz.func125 z z z (λw0=> ?_)
 refine ψ (ν z (boxA z z z z (λbG=> ?_)))
 refine ν z (boxA z z z z (λd_=> ?_))
 refine ξ z z (ε (ζ ?_))
 obtain ⟨v8,u8,hh⟩:=dM hh
 obtain ⟨v13,u13,hh⟩:=dM hh
 obtain ⟨v15,u15,hh⟩:=dM hh
 refine TC.draw [] (by kernel_rfl) (Ω 0 z (aS z EZ z) z (TA.b 1 z (aZ z fJ z (i:=1) z z) z (Ω 2 z (aS z EZ z) z (TA.b 3 z (aZ z fJ z (i:=0) z z) z (Ω 5 z (aS z AQ z) z (TA.b 6 z (aZ z iG z (i:=1) z z) z (Ω 7 z (aS z AQ z) z (TA.b 8 z (aZ z iG z (i:=0) z z) z (TA.ac 4 z (jF (Dy_ u8) z z vc_ z z z (k0 ?_)))))))))))
 refine TA.ac 9 z (jF (rh_ u13) z z pf154 z z z (k0 ?_))
 refine TA.ac 10 z (OpOk.lit (enc:=aG) [v8,v13] z b_ dB lu z z z bn (by decide) (by decide) (0:Int) z (by decide) z (by decide) jS (λa110 c111=>(k1 ?_)))
 refine TA.ac 11 z (Ve (Con.lend bn (λ_ EG Ko=>G7_ Ko u15)) z z zq_ z z z z (k1 ?_))
 refine Ω 12 z (dw (.inr z) z) z (TA.dn (S.n (TC.rt 0 ?_)))
 obtain rfl:=so hh
 exact rq [4] ⟨z,z,z⟩
end Go.Proofs.YtchebnpdnfhenaaGreatDoor
end

noncomputable section
namespace Go.Proofs.YtchebnpdnfhenaaGreatDoor
open Go Go.Shelf
def s4_:Go.Shelf.Ren:=⟨fun|171=>150|243=>177|246=>203|283=>211|284=>212|285=>213|286=>214|129=>168|317=>217|318=>218|319=>219|320=>220|337=>221|338=>201|n=>n,fun|3=>3|9=>9|2=>2|4=>4|171=>267|0=>0|53=>62|37=>60|5=>5|173=>269|212=>274|51=>222|20=>20|213=>275|46=>170|232=>276|233=>266|n=>n,fun|17=>2|18=>3|19=>1|n=>n⟩
theorem layItoa:Go.Proofs.LaysM.n171 Tryz.prog s4_:={
  mixed:=by kernel_rfl,
  f129:=Tryz.func168.trans (congrArg some (by kernel_rfl)),
  f171:=Tryz.func150.trans (congrArg some (by kernel_rfl)),
  f243:=Tryz.func177.trans (congrArg some (by kernel_rfl)),
  f246:=Tryz.func203.trans (congrArg some (by kernel_rfl)),
  f283:=Tryz.func211.trans (congrArg some (by kernel_rfl)),
  f284:=Tryz.func212.trans (congrArg some (by kernel_rfl)),
  f285:=Tryz.func213.trans (congrArg some (by kernel_rfl)),
  f286:=Tryz.func214.trans (congrArg some (by kernel_rfl)),
  f317:=Tryz.func217.trans (congrArg some (by kernel_rfl)),
  f318:=Tryz.func218.trans (congrArg some (by kernel_rfl)),
  f319:=Tryz.func219.trans (congrArg some (by kernel_rfl)),
  f320:=Tryz.func220.trans (congrArg some (by kernel_rfl)),
  f337:=Tryz.func221.trans (congrArg some (by kernel_rfl)),
  f338:=Tryz.func201.trans (congrArg some (by kernel_rfl)),
  t0:=Tryz.underlying0,
  a0:=Tryz.isAgg0,
  z0:=Tryz.sizeOf0,
  v0:=Tryz.zeroValue0,
  t2:=Tryz.underlying2,
  a2:=Tryz.isAgg2,
  z2:=Tryz.sizeOf2,
  v2:=Tryz.zeroValue2,
  t3:=Tryz.underlying3,
  a3:=Tryz.isAgg3,
  z3:=Tryz.sizeOf3,
  v3:=Tryz.zeroValue3,
  t4:=Tryz.underlying4,
  a4:=Tryz.isAgg4,
  z4:=Tryz.sizeOf4,
  v4:=Tryz.zeroValue4,
  t5:=Tryz.underlying5,
  a5:=Tryz.isAgg5,
  z5:=Tryz.sizeOf5,
  v5:=Tryz.zeroValue5,
  t9:=Tryz.underlying9,
  a9:=Tryz.isAgg9,
  z9:=Tryz.sizeOf9,
  v9:=Tryz.zeroValue9,
  t20:=Tryz.underlying20,
  a20:=Tryz.isAgg20,
  z20:=Tryz.sizeOf20,
  v20:=Tryz.zeroValue20,
  t37:=Tryz.underlying60,
  a37:=Tryz.isAgg60,
  z37:=Tryz.sizeOf60,
  v37:=Tryz.zeroValue60,
  t46:=Tryz.underlying170,
  a46:=Tryz.isAgg170,
  z46:=Tryz.sizeOf170,
  v46:=Tryz.zeroValue170,
  t51:=Tryz.underlying222,
  a51:=Tryz.isAgg222,
  z51:=Tryz.sizeOf222,
  v51:=Tryz.zeroValue222,
  t53:=Tryz.underlying62,
  a53:=Tryz.isAgg62,
  z53:=Tryz.sizeOf62,
  v53:=Tryz.zeroValue62,
  t171:=Tryz.underlying267,
  a171:=Tryz.isAgg267,
  z171:=Tryz.sizeOf267,
  v171:=Tryz.zeroValue267,
  t173:=Tryz.underlying269,
  a173:=Tryz.isAgg269,
  z173:=Tryz.sizeOf269,
  v173:=Tryz.zeroValue269,
  t212:=Tryz.underlying274,
  a212:=Tryz.isAgg274,
  z212:=Tryz.sizeOf274,
  v212:=Tryz.zeroValue274,
  t213:=Tryz.underlying275,
  a213:=Tryz.isAgg275,
  z213:=Tryz.sizeOf275,
  t232:=Tryz.underlying276,
  a232:=Tryz.isAgg276,
  z232:=Tryz.sizeOf276,
  v232:=Tryz.zeroValue276,
  t233:=Tryz.underlying266,
  a233:=Tryz.isAgg266,
  z233:=Tryz.sizeOf266,
  v233:=Tryz.zeroValue266,
  g17:=by kernel_rfl,
  g18:=by kernel_rfl,
  g19:=by kernel_rfl,
  i0:=by kernel_rfl,
  i2:=by kernel_rfl,
  i3:=by kernel_rfl,
  i4:=by kernel_rfl,
  i5:=by kernel_rfl,
  i9:=by kernel_rfl,
  i20:=by kernel_rfl,
  i37:=by kernel_rfl,
  i46:=by kernel_rfl,
  i51:=by kernel_rfl,
  i53:=by kernel_rfl,
  i171:=by kernel_rfl,
  i173:=by kernel_rfl,
  i212:=by kernel_rfl,
  i232:=by kernel_rfl,
  i233:=by kernel_rfl,
  m17:=by kernel_rfl,
  m18:=by kernel_rfl,
  m19:=by kernel_rfl}
end Go.Proofs.YtchebnpdnfhenaaGreatDoor
end

noncomputable section
namespace Go.E
open Go Go.Sort Go.Proofs Go.Shelf
def p10:List Nat:=[1,10,100,1000,10000,100000,1000000,10000000,100000000,1000000000,10000000000,100000000000,1000000000000,10000000000000,100000000000000,1000000000000000,10000000000000000,100000000000000000,1000000000000000000,10000000000000000000]
theorem Reach.laterI{w:World}{σ:aj}(h:Reach w [] σ σ w [])(k:Nat)(os:Array Obj):Reach w [] σ σ (grow (w.drewN k) os) []:=by
  have hh: ∀i,i<w.heap.size->(grow (w.drewN k) os).heap[i]? =w.heap[i]? :=λi hi=>by
    show (w.heap++os)[i]? =_
    rw [Array.getElem?_append_left hi]
  refine ⟨rfl,rfl,rfl,?_,λi hi _=>hh i hi,aj.le.refl _,λb o hb=> ?_,λb o hb=> .inl hb,by simp,by simp,by simp [iJ],by simp,?_⟩
  · show w.heap.size<=(w.heap++os).size
    simp
  · have h1:=h.fit b o hb
    have hlt:=(Array.getElem?_eq_some_iff.1 h1).1
    rw [hh b hlt];exact h1
  show w.drawn<=w.drawn+k
  omega
theorem itoa_of{P : Program}{ρ : Ren}{f g : Nat}(L : LaysM.n171 P ρ)(hf : ρ.f 171 = f)(hg : P.globalNamed "internal/strconv.uint64pow10" = some g){n : Int}{σ : aj}(hn : -9223372036854775808 ≤ n ∧ n ≤ 9223372036854775807)(h : GT σ g encW p10) :
    Con P f #[.int .i64 n] σ [] (jQ (.string (bs (Lib.itoa n))) σ):=by
  subst hf
  intro w hw
  obtain ⟨E,hE⟩:=h
  have htab : Lib.TabIs P w "internal/strconv.uint64pow10" .u64 Lib.pow10Tab := by
    unfold Lib.TabIs World.var?
    rw [hg]
    have h1:=hw.fit _ _ hE
    simp only [Option.bind_some,h1]
    rfl
  refine (Any.strconv_Itoa L n hn.1 hn.2 w htab).mono ?_
  rintro e w' ⟨rfl,k,os,rfl⟩
  exact ⟨_,σ,[],rfl,⟨rfl,rfl,rfl⟩,hw.laterI k os⟩
structure Dz (σ:aj) (g1 g2:Nat):Prop where
  b:GT σ g1 kE deB
  p:GT σ g2 encW p10
theorem Dz.mono{σ τ:aj}{g1 g2:Nat}(h:Dz σ g1 g2)(hle:σ.le τ):Dz τ g1 g2:=⟨h.b.mono hle,h.p.mono hle⟩
end Go.E
end

noncomputable section
namespace Go.Proofs.YtchebnpdnfhenaaGreatDoor
open Go Go.E
theorem rc_ : ∀ x y : T_1, (aN (decide (Lib.compareBytes x y < 0)) (some (-1 : Int)) (aN (!(decide (Lib.compareBytes x y < 0) || x == y)) (some 1) (some 0))) = some (Lib.compareBytes x y)
  |[],[]=>rfl
  |[],_::_=>rfl
  |_::_,[]=>rfl
  | a :: x, b :: y => by
    have ih:=rc_ x y
    unfold Lib.compareBytes
    by_cases h:a<b
    · rw [if_pos h];rfl
    rw [if_neg h]
    by_cases h2:b<a
    · rw [if_pos h2]
      have:(a::x == b::y)=false:=by
        rw [beq_eq_false_iff_ne]
        intro e;cases e;exact h h2
      rw [this];rfl
    rw [if_neg h2]
    have e:a=b:=UInt8.le_antisymm (UInt8.not_lt.1 h2) (UInt8.not_lt.1 h)
    subst e
    have:(a::x == a::y)=(x == y):=by simp
    rw [this];exact ih
theorem ti_(x y:T_1):kw_ x y=some (Lib.compareBytes x y):=by
  unfold kw_ rg_
  rw [<-rc_ x y]
  simp [bnd,aN]
theorem H6_(x y:Tip):Fs_ x y=some (nI x y):=by
  unfold Fs_
  rw [yR (D6_ _ _),yR (ti_ _ _),yR (Hl_ _)];rfl
theorem Iz_{σ:aj}{a:Option Addr}{c:Nat}{l:List Tip}:Con Tryz.prog 124 #[.slice a l.length c,.func (.func 125) #[] #[]] σ [φ 76 2 dJ (.slice a l.length c) l] (xt_ 76 2 dJ a c l (sF nI l) σ):=
  Con.sortK (k:=2) layT0 rfl Tryz.isAgg76 Tryz.sizeOf76 g_ PL PN.total (λargs w=>U_ (by kernel_rfl) args w) (λx y τ=>Hv_ (H6_ x y))
theorem m0_{σ:aj}{n:Int}(hgl:Dz σ 1 2)(hn: -9223372036854775808<=n/\n<=9223372036854775807):Con Tryz.prog 150 #[.int .i64 n] σ [] (jQ (.string (bs (Lib.itoa n))) σ):=
  itoa_of layItoa rfl (by kernel_rfl) hn hgl.p
end Go.Proofs.YtchebnpdnfhenaaGreatDoor
end

noncomputable section
namespace Go.E
open Go
def TB(X:Ctx)(R:Exit->Act->World->Prop)(c:Code)(e:Env)(σ:aj)(H:List Res):Prop:=
  ∀w a,RM X a σ w H->St X.n e a->c.wpIn (fence X.rnd) 0 X.P R a w
def TLB(X:Ctx)(ops:Array Oper)(R:Exit->Act->World->Prop)(l:List Oper)(e:Env)(σ:aj)(H:List Res):Prop:=
  ∀w a,RM X a σ w H->St X.n e a->wpListIn (fence X.rnd) 0 X.P ops R l a w
def endE(w0:World)(C:List Nat)(σ0:aj)(Post:Value->aj->List Res->Prop):Ending->World->Prop:=
  λe w'=> ∃r σ' H',e= .returned r/\Post r σ' H'/\Reach w0 C σ0 σ' w' H'
def endR(P:Program)(fn:Func)(w0:World)(C:List Nat)(σ0:aj)(Post:Value->aj->List Res->Prop):Exit->Act->World->Prop:=
  bodyPostM (fence none) 0 P fn (endE w0 C σ0 Post)
theorem sv_{args:List Value}{n:Nat}{fn:Func}(hn:fn.ntmps=n)(ha:Nat.ble args.length n=true):St n (Py args) {tmps:=args.toArray++Array.replicate (fn.ntmps - args.toArray.size) undef,defers:=[]}:=by
  have:=Nat.le_of_ble_eq_true ha
  refine ⟨?_,λt=> ?_⟩
  · simp [hn];omega
  simp only [Array.getD_eq_getD_getElem?,Array.getElem?_append,Py,List.getElem?_toArray,List.size_toArray,Array.getElem?_replicate]
  split
  · rfl
  rename_i hlt
  rw [List.getElem?_eq_none (by omega)]
  split<;>rfl
theorem MarksOk.start{w0:World}{σ:aj}{H:List Res}{w:World}:MarksOk w0 none (some []) [] σ H w:=⟨(λh=>by cases h),(λ_ h=>by cases h;rfl),λ_ h=>by cases h⟩
theorem Con.mkD{P:Program}{f:FuncId}{fn:Func}{c:Code}{args:List Value}{n:Nat}{σ:aj}{H:List Res}{Post:Value->aj->List Res->Prop}
    (hf:P.funcs[f]? =some fn) (hb:fn.body=some c) (hn:fn.ntmps=n) (ha:Nat.ble args.length n=true)
    (h: ∀w0,TB ⟨P,w0,iJ H,σ,n,none,some []⟩ (endR P fn w0 (iJ H) σ Post) c (Py args) σ H):Con P f args.toArray σ H Post:=by
  intro w hw
  exact hb_.1 (callsIn_of_wp_marks (F:=fence none) (n:=0) hf hb trivial (h w w _ ⟨hw,MarksOk.start⟩ (sv_ hn ha)))
def RH(P:Program)(f:FuncId)(args:Array Value)(σ:aj)(H:List Res)(Post:Value->aj->List Res->Prop):Prop:=
  ∀w,Reach w (iJ H) σ σ w H->CallsDIn (fence none) 0 P f args .returning w λe u w'=>u= .returning/\ ∃r σ' H',e= .returned r/\Post r σ' H'/\Reach w (iJ H) σ σ' w' H'
theorem RH.mono{P:Program}{f:FuncId}{args:Array Value}{σ:aj}{H:List Res}{Post Post':Value->aj->List Res->Prop}
    (h:RH P f args σ H Post) (hp: ∀r σ' H',σ.le σ'->Post r σ' H'->Post' r σ' H'):RH P f args σ H Post':=λw hw=>
  (h w hw).mono λ_ _ _ ⟨h0,r,σ',H',h1,h2,h3⟩=>⟨h0,r,σ',H',h1,hp _ _ _ h3.le h2,h3⟩
section rules
variable {X:Ctx} {ops:Array Oper} {R:Exit->Act->World->Prop} {Q:QP} {e:Env} {σ:aj} {H F:List Res} {o:Oper} {rest:List Oper} {c c1 c2:Code} {fn:Func} {Post:Value->aj->List Res->Prop}
theorem t2_{P:Program}{w0:World}{C:List Nat}{σ0:aj}{n:Nat}: ∀ex a w,low ⟨P,w0,C,σ0,n,none,some []⟩ (retQ P fn n Post) ex a w->endR P fn w0 C σ0 Post ex a w:=by
  rintro ex a w ⟨e,σ,H,h1,h2,⟨hex,r,H',h3,h4,h5⟩⟩
  have hd:a.defers=[]:=h2.marks.is _ rfl
  have hfin:LeavesInM (fence none) 0 P fn a.tmps (endE w0 C σ0 Post) a.defers .returning w:=by
    rw [hd];exact ⟨r,h3 w a h1 h2.holds,r,σ,H',rfl,h5,h2.toReach.sub h4⟩
  rcases hex with rfl|rfl
  · exact hfin
  exact hfin
def dfrQ(P:Program)(fn:Func)(n:Nat)(Post:Value->aj->List Res->Prop)(f:FuncId)(args:List Value):QP:=λex e σ H=>
  (ex= .ret\/ex= .normal)/\ ∃F,Sub F H/\RH P f args.toArray σ F λ_ σ' H'=>RetOk P fn n Post .ret e σ' H'
theorem ye_{P:Program}{w0:World}{C:List Nat}{σ0:aj}{n:Nat}{f:FuncId}{cap dargs:List Value}(hp:plainF P f=true):
    ∀ex a w,low ⟨P,w0,C,σ0,n,none,some [⟨.fn (.func f) cap.toArray,dargs.toArray⟩]⟩ (dfrQ P fn n Post f (dargs++cap)) ex a w->endR P fn w0 C σ0 Post ex a w:=by
  rintro ex a w ⟨e,σ,H,h1,h2,hex,F,hs,hcon⟩
  have hd:a.defers=[⟨.fn (.func f) cap.toArray,dargs.toArray⟩]:=h2.marks.is _ rfl
  have h3:Reach w0 C σ0 σ w F:=h2.toReach.sG hs
  have hfin:LeavesInM (fence none) 0 P fn a.tmps (endE w0 C σ0 Post) a.defers .returning w:=by
    rw [hd]
    refine ⟨by simp,.inr ⟨(λh=>by cases h),.func f,cap.toArray,f,(dargs++cap).toArray,rfl,?_,(λ_ _=>trivial),(hcon w h3.self).mono ?_⟩⟩
    · simp [invoke,U_ hp]
    rintro _ _ w' ⟨rfl,r,σ',H',rfl,⟨-,v,H'',h4,h5,h6⟩,h7⟩
    have h8:Reach w0 C σ0 σ' w' H':=by
      have:=(show Reach w0 C σ0 σ w (F++[]) by rwa [List.append_nil]).call h7
      rwa [List.append_nil]at this
    exact ⟨v,h4 w' a h1 h8.holds,v,σ',H'',rfl,h6,h8.sub h5⟩
  rcases hex with rfl|rfl
  · exact hfin
  exact hfin
theorem TB.seq(hR: ∀ex a w,low X Q ex a w->R ex a w)(h:TC X (seqQ (TB X R c2) Q) c1 e σ H):TB X R (.seq c1 c2) e σ H:=λw a hw ha=>
  Go.wpIn_seq (Go.wpIn_mono (h w a hw ha) λex a' w' ⟨e',σ',H',h1,h2,h3⟩=>by
    cases ex
    case normal=>exact h3 w' a' h2 h1
    all_goals exact hR _ _ _ ⟨e',σ',H',h1,h2,h3⟩)
theorem TB.fin(hR: ∀ex a w,low X Q ex a w->R ex a w)(h:TC X Q c e σ H):TB X R c e σ H:=λw a hw ha=>Go.wpIn_mono (h w a hw ha) (hR)
theorem TLB.v{v:Value}{d:Nat}(hg:o.guard=none)(h:OpVal X.P X.n o e σ H v)(hd:o.dst=some d)(hn:Nat.blt d X.n=true)(k:TLB X ops R rest (upd e d v) σ H):TLB X ops R (o::rest) e σ H:=λw a hw ha=>
  wpListIn_plain hg λK hK=>(OpVal.ok h hd hn (K:=λe' σ' H'=>TLB X ops R rest e' σ' H') k).at hw ha λe' σ' H' a' w' hk hw' ha'=>hK a' w' (hk w' a' hw' ha')
theorem TLB.front(i:Nat){r:Res}{l:List Oper}(hi:H[i]? =some r)(hF:H.eraseIdx i=F)(h:TLB X ops R l e σ (r::F)):TLB X ops R l e σ H:=λw a hw ha=>h w a (hw.perm (Ny hi hF)) ha
theorem TLB.dfr{P:Program}{w0:World}{C:List Nat}{σ0:aj}{n:Nat}{f:FuncId}{cap first:Array Value}{x:Operand}{opds:Array Operand}{ts:Array TypeId}{dargs:List Value}
    (hg:o.guard=none) (hop:o.op= .defer {callee:= .value x,args:=opds,argTypes:=ts}) (hx:ev e x= .func (.func f) first cap) (hd:o.dst=none) (ha:first.toList++opds.toList.map (ev e)=dargs)
    (hK: ∀a w,RM ⟨P,w0,C,σ0,n,none,some [⟨.fn (.func f) cap,dargs.toArray⟩]⟩ a σ w H->St n e a->R .normal a w):
    TLB ⟨P,w0,C,σ0,n,none,some []⟩ ops R [o] e σ H:=λw a hw hst=>by
  have ha':first++opds.map (ev e)=dargs.toArray:=by apply Array.ext';rw [<-ha];simp
  refine wpListIn_plain hg λK hK'=>⟨(λ_ _=>trivial),?_⟩
  have hs:(o.semAt (fence none).round a.eval).run P w= .ok (.defer ⟨.fn (.func f) cap,dargs.toArray⟩) w:=by
    rw [hst.eval',<-ha']
    simp [Oper.semAt,execOp,hop,resolve,hx,Deferred.ofValue]
  show Oper.uponIn _ _ _ _ _ _ _ ((o.semAt (fence none).round a.eval).run P w)
  rw [hs,Oper.uponIn_defer,hd]
  have h0:a.defers=[]:=hw.marks.is _ rfl
  refine hK' _ _ (hK _ _ ⟨?_,⟨(λh=>by cases h),(λl h=> ?_),λ_ h=>by cases h⟩⟩ ⟨hst.size,hst.get⟩)
  · exact hw.toReach
  cases h;show _::a.defers=_;rw [h0]
theorem TB.seqD{id:Nat}{l:List Oper}(h:TLB X l.toArray (λex a w=>match ex with| .normal=>c2.wpIn (fence X.rnd) 0 X.P R a w|ex=>R ex a w) l e σ H):TB X R (.seq (.region id l.toArray false) c2) e σ H:=λw a hw ha=>
  Go.wpIn_seq (Go.wpIn_mono (wpIn_region_lit (h w a hw ha)) λex a' w' hq=>by cases ex<;>exact hq)
end rules
end Go.E
end
