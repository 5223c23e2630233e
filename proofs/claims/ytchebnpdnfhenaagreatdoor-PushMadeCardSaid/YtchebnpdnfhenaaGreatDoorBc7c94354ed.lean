/- Parts of a proof, one behind the other: what a machine reaches, functions decompiled, plain lemmas. Conditions stand with each lemma. -/
import Derived.Test.YtchebnpdnfhenaaGreatDoorBe54edaa7b1
import Derived.Shelf.SlSortCmp.NoneTotal
import Derived.Lib.Builder
import Derived.Lib.AppendStr
import Derived.Lib.UnsafeStr
import Derived.Shelf.Sort.Plain
import Derived.Shelf.Slices.In.SortNone
import Derived.Shelf.Strconv.Itoa3
import Derived.Test.YtchebnpdnfhenaaGreatDoorChecked
import Derived.RangeFuncLeaves
import Derived.RecoverIn

set_option linter.unusedVariables false
set_option linter.unusedSimpArgs false
set_option linter.unusedSectionVars false
set_option maxRecDepth 100000
set_option maxHeartbeats 8000000
variable {a0_0 a0_1 a0_2 a0_3 a1_0 a1_1 a1_4 a1_7 a2_1 a3_1:Option Go.Addr}{Eb1 Eb2 Eb3 b0_0 b1_0 b2_0 b3_0 c0_0 c0_1 c0_2 c0_3 c1_0 c1_2 c1_5 c1_8 c2_2 c3_2:Nat}

noncomputable section
namespace Go.Proofs.YtchebnpdnfhenaaGreatDoor
open Go Go.E Go.E.OpVal Go.E.OpOk Go.Proofs.Tryz
open List (replicate)
theorem m1_:foOf Tryz.prog 66 4=some 7:=by kernel_rfl
theorem pf106:plainF Tryz.prog 106=true:=by kernel_rfl
theorem pf134:plainF Tryz.prog 134=true:=by kernel_rfl
theorem wh_:plainF Tryz.prog 135=true:=by kernel_rfl
theorem pf139:plainF Tryz.prog 139=true:=by kernel_rfl
theorem pf140:plainF Tryz.prog 140=true:=by kernel_rfl
theorem pf156:plainF Tryz.prog 156=true:=by kernel_rfl
theorem pf158:plainF Tryz.prog 158=true:=by kernel_rfl
theorem pf195:plainF Tryz.prog 195=true:=by kernel_rfl
theorem pf64:plainF Tryz.prog 64=true:=by kernel_rfl
theorem sz3:szOf Tryz.prog 3=some 1:=by kernel_rfl
theorem ze3:zeroOf Tryz.prog 3=some (.int .i64 0):=by kernel_rfl
def B4_(x0:T_1)(x1:T_1):Option (Int):=
 some (Lib.compareBytes x0 x1)
theorem Eo_{σ:d0_}{x0:T_1}{x1:T_1}{r:Int}(hh:B4_ x0 x1=some r):
  Con prog 106 #[.string (bs x0),.string (bs x1)] σ [] (fd_ (.int .i64 r) σ):=by
 dsimp only [B4_]at hh
 refine Con.mk (n:=8) Tryz.func106 z z z (fun w0=> ?_)
 refine ξ (θ z z (κ (ξ (ω z (ad_ (.inl z) z) (ω z (ad_ (.inl z) z) (ω z (cmpStr z z Tryz.func144 (by kernel_rfl) (by kernel_rfl) (by kernel_rfl) (by kernel_rfl) z z) (θ z z (κ (TC.ret ?_)))))))))
 obtain rfl:=so hh
 exact rq [4] ⟨z,z,z⟩
def Dd_(x0:T_1)(x1:T_1):Option (Int):=
 bnd (B4_ x0 x1) (fun v4=>some v4)
theorem Fh_{σ:d0_}{x0:T_1}{x1:T_1}{r:Int}(hh:Dd_ x0 x1=some r):
  Con prog 64 #[.string (bs x0),.string (bs x1)] σ [] (fd_ (.int .i64 r) σ):=by
 dsimp only [Dd_]at hh
 refine Con.mk (n:=8) Tryz.func64 z z z (fun w0=> ?_)
 refine ξ (θ z z (κ (ξ (ω z (ad_ (.inl z) z) (ω z (ad_ (.inl z) z) ?_)))))
 obtain ⟨v4,u4,hh⟩:=eb_ hh
 refine ζ z (aw_ (Eo_ u4) z z pf106 z z z ?_)
 refine θ z z (κ (TC.ret ?_))
 obtain rfl:=so hh
 exact rq [4] ⟨z,z,z⟩
def Fv_(x0:Int):Option (Bool):=
 some (decide (x0≠x0))
theorem Gu_{σ:d0_}{x0:Int}{r:Bool}(hh:Fv_ x0=some r):
  Con prog 156 #[.int .i64 x0] σ [] (fd_ (.bool r) σ):=by
 dsimp only [Fv_]at hh
 refine Con.mk (n:=6) Tryz.func156 z z z (fun w0=> ?_)
 refine ξ (TL.j z z (κ (ξ (θ z z (θ z z (ω z (OpVal.neq z z z) (TL.j z z (κ (TC.ret ?_)))))))))
 obtain rfl:=so hh
 exact rq [2] ⟨z,z,z⟩
def Cc_(x0:Int)(x1:Int):Option (Int):=
 bnd (Fv_ x0) (fun v3=>bnd (Fv_ x1) (fun v6=>ec_ v3 (ec_ v6 (some 0) (some (-1))) (ec_ v6 (some 1) (ec_ (decide (x0<x1)) (some (-1)) (ec_ (decide (x1<x0)) (some 1) (some 0))))))
theorem Df_{σ:d0_}{x0:Int}{x1:Int}{r:Int}(hh:Cc_ x0 x1=some r):
  Con prog 135 #[.int .i64 x0,.int .i64 x1] σ [] (fd_ (.int .i64 r) σ):=by
 dsimp only [Cc_]at hh
 refine Con.mk (n:=20) Tryz.func135 z z z (fun w0=> ?_)
 refine ξ (θ z z (κ (ξ (θ z z ?_))))
 obtain ⟨v3,u3,hh⟩:=eb_ hh
 refine ζ z (aw_ (Gu_ u3) z z pf156 z z z ?_)
 refine TL.j z z (κ (ξ (θ z z ?_)))
 obtain ⟨v6,u6,hh⟩:=eb_ hh
 refine ζ z (aw_ (Gu_ u6) z z pf156 z z z ?_)
 refine TL.j z z (κ (ν (ξ (TL.j z z (κ (TC.cB z hh (fun h101 hh=> ?_) (fun h101 hh=> ?_)))))))
 ·refine ν (ξ (TL.j z z (κ (TC.cB z hh (fun h102 hh=> ?_) (fun h102 hh=> ?_)))))
  ·refine ξ (θ z z (κ (TC.ret (S.r (S.r ?_)))))
   obtain rfl:=so hh
   exact rq [4] ⟨z,z,z⟩
  refine ι (S.n (ξ (θ z z (κ (TC.ret (S.r ?_))))))
  obtain rfl:=so hh
  exact rq [4] ⟨z,z,z⟩
 refine ι (S.n (ν (ξ (TL.j z z (κ (TC.cB z hh (fun h103 hh=> ?_) (fun h103 hh=> ?_)))))))
 ·refine ξ (θ z z (κ (TC.ret (S.r ?_))))
  obtain rfl:=so hh
  exact rq [4] ⟨z,z,z⟩
 refine ι (S.n (ν (ξ (θ z z (θ z z (ω z (OpVal.lss z z z) (κ (TC.cD z hh (fun h104 hh=> ?_) (fun h104 hh=> ?_)))))))))
 ·refine ξ (θ z z (κ (TC.ret (S.r ?_))))
  obtain rfl:=so hh
  exact rq [4] ⟨z,z,z⟩
 refine ι (S.n (ν (ξ (θ z z (θ z z (ω z (OpVal.gtr z z z) (κ (TC.cD z hh (fun h105 hh=> ?_) (fun h105 hh=> ?_)))))))))
 ·refine ξ (θ z z (κ (TC.ret (S.r ?_))))
  obtain rfl:=so hh
  exact rq [4] ⟨z,z,z⟩
 refine ι (S.n (ξ (θ z z (κ (TC.ret ?_)))))
 obtain rfl:=so hh
 exact rq [4] ⟨z,z,z⟩
def s4_(x0:Nat):Option (Bool):=
 some (decide (x0≠x0))
theorem p3_{σ:d0_}{x0:Nat}{r:Bool}(hh:s4_ x0=some r):
  Con prog 195 #[.int .u64 (x0:Int)] σ [] (fd_ (.bool r) σ):=by
 dsimp only [s4_]at hh
 refine Con.mk (n:=6) Tryz.func195 z z z (fun w0=> ?_)
 refine ξ (TL.j z z (κ (ξ (θ z z (θ z z (ω z (neqU z z z) (TL.j z z (κ (TC.ret ?_)))))))))
 obtain rfl:=so hh
 exact rq [2] ⟨z,z,z⟩
def lm_(x0:Nat)(x1:Nat):Option (Int):=
 bnd (s4_ x0) (fun v3=>bnd (s4_ x1) (fun v6=>ec_ v3 (ec_ v6 (some 0) (some (-1))) (ec_ v6 (some 1) (ec_ (decide (x0<x1)) (some (-1)) (ec_ (decide (x1<x0)) (some 1) (some 0))))))
theorem tl_{σ:d0_}{x0:Nat}{x1:Nat}{r:Int}(hh:lm_ x0 x1=some r):
  Con prog 158 #[.int .u64 (x0:Int),.int .u64 (x1:Int)] σ [] (fd_ (.int .i64 r) σ):=by
 dsimp only [lm_]at hh
 refine Con.mk (n:=20) Tryz.func158 z z z (fun w0=> ?_)
 refine ξ (θ z z (κ (ξ (θ z z ?_))))
 obtain ⟨v3,u3,hh⟩:=eb_ hh
 refine ζ z (aw_ (p3_ u3) z z pf195 z z z ?_)
 refine TL.j z z (κ (ξ (θ z z ?_)))
 obtain ⟨v6,u6,hh⟩:=eb_ hh
 refine ζ z (aw_ (p3_ u6) z z pf195 z z z ?_)
 refine TL.j z z (κ (ν (ξ (TL.j z z (κ (TC.cB z hh (fun h101 hh=> ?_) (fun h101 hh=> ?_)))))))
 ·refine ν (ξ (TL.j z z (κ (TC.cB z hh (fun h102 hh=> ?_) (fun h102 hh=> ?_)))))
  ·refine ξ (θ z z (κ (TC.ret (S.r (S.r ?_)))))
   obtain rfl:=so hh
   exact rq [4] ⟨z,z,z⟩
  refine ι (S.n (ξ (θ z z (κ (TC.ret (S.r ?_))))))
  obtain rfl:=so hh
  exact rq [4] ⟨z,z,z⟩
 refine ι (S.n (ν (ξ (TL.j z z (κ (TC.cB z hh (fun h103 hh=> ?_) (fun h103 hh=> ?_)))))))
 ·refine ξ (θ z z (κ (TC.ret (S.r ?_))))
  obtain rfl:=so hh
  exact rq [4] ⟨z,z,z⟩
 refine ι (S.n (ν (ξ (θ z z (θ z z (ω z (lssU z z z) (κ (TC.cD z hh (fun h104 hh=> ?_) (fun h104 hh=> ?_)))))))))
 ·refine ξ (θ z z (κ (TC.ret (S.r ?_))))
  obtain rfl:=so hh
  exact rq [4] ⟨z,z,z⟩
 refine ι (S.n (ν (ξ (θ z z (θ z z (ω z (gtrU z z z) (κ (TC.cD z hh (fun h105 hh=> ?_) (fun h105 hh=> ?_)))))))))
 ·refine ξ (θ z z (κ (TC.ret (S.r ?_))))
  obtain rfl:=so hh
  exact rq [4] ⟨z,z,z⟩
 refine ι (S.n (ξ (θ z z (κ (TC.ret ?_)))))
 obtain rfl:=so hh
 exact rq [4] ⟨z,z,z⟩
def Fb_(x0:Bool):Option (Int):=
 ec_ x0 (some 1) (some 0)
theorem Gg_{σ:d0_}{x0:Bool}{r:Int}(hh:Fb_ x0=some r):
  Con prog 140 #[.bool x0] σ [] (fd_ (.int .i64 r) σ):=by
 dsimp only [Fb_]at hh
 refine Con.mk (n:=4) Tryz.func140 z z z (fun w0=> ?_)
 refine ξ (θ z z (κ (ν (ξ (TL.j z z (κ (TC.cB z hh (fun h101 hh=> ?_) (fun h101 hh=> ?_))))))))
 ·refine ξ (θ z z (κ (TC.ret (S.r ?_))))
  obtain rfl:=so hh
  exact rq [2] ⟨z,z,z⟩
 refine ι (S.n (ξ (θ z z (κ (TC.ret ?_)))))
 obtain rfl:=so hh
 exact rq [2] ⟨z,z,z⟩
def Dz_(x0:N_1)(k103:Nat):Option ((Nat)⊕(Int)):=
 ec_ (decide ((k103:Int)<((x0.length:Nat):Int))) (ec_ (decide ((nth x0 k103 0)≠0)) (fin (some (nth x0 k103 0))) (nxt (k103+1))) (fin (some 0))
def F9_(x0:N_1):Option (Int):=
 eq_ (fun q:Nat=>Dz_ x0 q) 0
theorem Go_{σ:d0_}{x0:N_1}(f0_0:rS_ σ eI_ a0_0 c0_0 x0){r:Int}(hh:F9_ x0=some r):
  Con prog 134 #[.slice a0_0 x0.length c0_0] σ [] (fd_ (.int .i64 r) σ):=by
 dsimp only [F9_]at hh
 have f0_0b:=f0_0.rv.big
 refine Con.mk (n:=18) Tryz.func134 z z z (fun w0=> ?_)
 refine ξ (θ z z (κ (ξ (θ z z (κ (ν (ξ (TL.s z z (ω z (lenC z e2_ z) (θ z z (κ (υ (TC.ao_ (α:=(Nat)×(Unit)) (rgs [(2,1),(5,1),(8,9)]) (fun g=>[(8,.int .i64 ((g.1:Nat):Int))]) (fun g=>[]) (fun g=>σ) (fun g=>eq_ (fun q:Nat=>Dz_ x0 q) g.1=some r) (fun g=>eh_ (fun q:Nat=>Dz_ x0 q) g.1) (0,()) (Sub.pre 0 z) z (by repeat (first|exact trivial|refine ⟨z,?_⟩)) hh (fun g1 j1 hg1=> ?_))))))))))))))
 obtain ⟨k103,_⟩:=g1
 have hh:=hg1;clear hg1
 try dsimp only
 obtain ⟨z1,hh,hR1⟩:=eo_ hh
 dsimp only [Dz_]at hh
 refine ξ (ω z (OpVal.lss z z z) (κ (ν (TC.cD z hh (fun h104 hh=> ?_) (fun h104 hh=> ?_)))))
 ·refine ι (S.n (ν (υ (ξ (ω z (af_ z e2_ sz3 z z f0_0.rv.sl (by omega)) (ω z (al_ (0:Int) z ag3 z f0_0 (by omega) z) (θ z z (κ (ξ (θ z z (θ z z (ω z (OpVal.neq z z z) (κ (TC.cD z hh (fun h105 hh=> ?_) (fun h105 hh=> ?_)))))))))))))))
  ·refine ξ (θ z z (θ z z (κ (TC.ret (B.r (S.r (S.r ?_)))))))
   replace hh:=el_ hR1 hh
   refine B.r (S.r ?_)
   obtain rfl:=so hh
   exact rq [2] ⟨z,z,z⟩
  refine ι (B.n (S.n (π (ω z (OpVal.succ z z z (by omega)) (θ z z (κ ?_))))))
  obtain ⟨hh,hlt106⟩:=ey_ hR1 hh
  exact lf ((k103+1),()) hlt106 hh (Sub.pre 0 z)
 refine TC.exit (S.x (S.x ?_))
 replace hh:=el_ hR1 hh
 refine Δ (S.n (ξ (θ z z (θ z z (κ (TC.ret ?_))))))
 obtain rfl:=so hh
 exact rq [2] ⟨z,z,z⟩
def Ea_(x0:Tip)(x1:Tip):Option (Int):=
 bnd (Cc_ x0.state x1.state) (fun v8=>bnd (Dd_ x0.out x1.out) (fun v13=>bnd (F9_ [v8,v13]) (fun v15=>some v15)))
theorem Gw_{σ:d0_}{x0:Tip}{x1:Tip}{r:Int}(hh:Ea_ x0 x1=some r):
  Con prog 96 #[.agg #[.int .i64 x0.state,.string (bs x0.out)],.agg #[.int .i64 x1.state,.string (bs x1.out)]] σ [] (fd_ (.int .i64 r) σ):=by
 dsimp only [Ea_]at hh
 refine Con.mk (n:=17) Tryz.func96 z z z (fun w0=> ?_)
 refine ξ (ζ z (boxA z z z z (fun b101=> ?_)))
 refine ζ z (boxA z z z z (fun b103=> ?_))
 refine θ z z (κ (ν ?_))
 obtain ⟨v8,u8,hh⟩:=eb_ hh
 obtain ⟨v13,u13,hh⟩:=eb_ hh
 obtain ⟨v15,u15,hh⟩:=eb_ hh
 refine TC.draw [] (by kernel_rfl) (Ψ 0 z (aa_ z gj_ z) z (TA.b 1 z (ab_ z ag3 z (i:=1) z z) z (Ψ 2 z (aa_ z gj_ z) z (TA.b 3 z (ab_ z ag3 z (i:=0) z z) z (Ψ 5 z (aa_ z fh_ z) z (TA.b 6 z (ab_ z ag9 z (i:=1) z z) z (Ψ 7 z (aa_ z fh_ z) z (TA.b 8 z (ab_ z ag9 z (i:=0) z z) z (TA.ac 4 z (aw_ (Df_ u8) z z wh_ z z z (k0 ?_)))))))))))
 refine TA.ac 9 z (aw_ (Fh_ u13) z z pf64 z z z (k0 ?_))
 refine TA.ac 10 z (OpOk.lit (enc:=eI_) [v8,v13] z e2_ sz3 ze3 z z z ep_ (by decide) (by decide) (0:Int) z (by decide) z (by decide) i2_ (fun a110 c111=>(k1 ?_)))
 refine TA.ac 11 z (b2_ (Con.lend ep_ (fun _ hle114 hr113=>Go_ hr113 u15)) z z pf134 z z z z (k1 ?_))
 refine Ψ 12 z (ai_ (.inr z) z) z (TA.dn (S.n (TC.rt 0 ?_)))
 obtain rfl:=so hh
 exact rq [4] ⟨z,z,z⟩
def e3_(x0:List Nat)(x1:List Nat)(k103:Nat):Option ((Nat)⊕(Int)):=
 ec_ (decide ((k103:Int)<((x0.length:Nat):Int))) (ec_ (decide (((x1.length:Nat):Int)≤(k103:Int))) (fin (some 1)) (grd (k103<x1.length) (bnd (lm_ (nth x0 k103 (0:Nat)) (nth x1 k103 (0:Nat))) (fun v23=>ec_ (decide (v23≠0)) (fin (some v23)) (nxt (k103+1)))))) (fin (ec_ (decide (((x0.length:Nat):Int)<((x1.length:Nat):Int))) (some (-1)) (some 0)))
def k8_(x0:List Nat)(x1:List Nat):Option (Int):=
 eq_ (fun q:Nat=>e3_ x0 x1 q) 0
theorem rg_{σ:d0_}{x0:List Nat}{x1:List Nat}(f0_0:rS_ σ encW a0_0 c0_0 x0)(f1_0:rS_ σ encW a1_0 c1_0 x1){r:Int}(hh:k8_ x0 x1=some r):
  Con prog 139 #[.slice a0_0 x0.length c0_0,.slice a1_0 x1.length c1_0] σ [] (fd_ (.int .i64 r) σ):=by
 dsimp only [k8_]at hh
 have f0_0b:=f0_0.rv.big
 have f1_0b:=f1_0.rv.big
 refine Con.mk (n:=36) Tryz.func139 z z z (fun w0=> ?_)
 refine ξ (θ z z (κ (ν (ξ (TL.s z z (ω z (lenC z underlying194 z) (θ z z (κ (υ (TC.ao_ (α:=(Nat)×(Unit)) (rgs [(4,5),(11,20)]) (fun g=>[(11,.int .i64 ((g.1:Nat):Int))]) (fun g=>[]) (fun g=>σ) (fun g=>eq_ (fun q:Nat=>e3_ x0 x1 q) g.1=some r) (fun g=>eh_ (fun q:Nat=>e3_ x0 x1 q) g.1) (0,()) (Sub.pre 0 z) z (by repeat (first|exact trivial|refine ⟨z,?_⟩)) hh (fun g1 j1 hg1=> ?_)))))))))))
 obtain ⟨k103,_⟩:=g1
 have hh:=hg1;clear hg1
 try dsimp only
 obtain ⟨z1,hh,hR1⟩:=eo_ hh
 dsimp only [e3_]at hh
 refine ξ (ω z (OpVal.lss z z z) (κ (ν (TC.cD z hh (fun h104 hh=> ?_) (fun h104 hh=> ?_)))))
 ·refine ι (S.n (ν (υ (ξ (θ z z (ω z (af_ z underlying194 zq_ z z f0_0.rv.sl (by omega)) (ω z (al_ (0:Nat) z ag62 z f0_0 (by omega) z) (θ z z (θ z z (κ (ν (ξ (θ z z (TL.s z z (ω z (lenC z underlying194 z) ?_)))))))))))))))
  refine ω z (OpVal.geq z z z) (κ (TC.cD z hh (fun h105 hh=> ?_) (fun h105 hh=> ?_)))
  ·refine ξ (θ z z (κ (TC.ret (S.r (B.r (S.r (S.r ?_)))))))
   replace hh:=el_ hR1 hh
   refine B.r (S.r ?_)
   obtain rfl:=so hh
   exact rq [4] ⟨z,z,z⟩
  refine ι (S.n (ξ (TL.s z z (θ z z ?_))))
  obtain ⟨u18,hh⟩:=d6_ hh
  refine ω z (af_ z underlying194 zq_ z z f1_0.rv.sl (by omega)) (ω z (al_ (0:Nat) z ag62 z f1_0 (by omega) z) (θ z z (κ (ξ (θ z z (θ z z ?_))))))
  obtain ⟨v23,u23,hh⟩:=eb_ hh
  refine ζ z (aw_ (tl_ u23) z z pf158 z z z ?_)
  refine θ z z (κ (ξ (θ z z (ω z (OpVal.neq z z z) (κ (TC.cD z hh (fun h106 hh=> ?_) (fun h106 hh=> ?_)))))))
  ·refine ξ (θ z z (θ z z (κ (TC.ret (B.r (S.r (S.r ?_)))))))
   replace hh:=el_ hR1 hh
   refine B.r (S.r ?_)
   obtain rfl:=so hh
   exact rq [4] ⟨z,z,z⟩
  refine ι (B.n (S.n (π (ω z (OpVal.succ z z z (by omega)) (θ z z (κ ?_))))))
  obtain ⟨hh,hlt107⟩:=ey_ hR1 hh
  exact lf ((k103+1),()) hlt107 hh (Sub.pre 0 z)
 refine TC.exit (S.x (S.x ?_))
 replace hh:=el_ hR1 hh
 refine Δ (S.n (ν (ξ (TL.s z z (ω z (lenC z underlying194 z) (TL.s z z (ω z (lenC z underlying194 z) (ω z (OpVal.lss z z z) (κ (TC.cD z hh (fun h108 hh=> ?_) (fun h108 hh=> ?_)))))))))))
 ·refine ξ (θ z z (κ (TC.ret (S.r ?_))))
  obtain rfl:=so hh
  exact rq [4] ⟨z,z,z⟩
 refine ι (S.n (ξ (θ z z (κ (TC.ret ?_)))))
 obtain rfl:=so hh
 exact rq [4] ⟨z,z,z⟩
def Ed_(x0:Arc)(x1:Arc):Option (Int):=
 bnd (Cc_ x0.frm x1.frm) (fun v8=>bnd (Cc_ x0.to x1.to) (fun v13=>bnd (k8_ [x0.set.a,x0.set.b,x0.set.c,x0.set.d] [x1.set.a,x1.set.b,x1.set.c,x1.set.d]) (fun v18=>bnd (Dd_ x0.out x1.out) (fun v23=>bnd (Fb_ x0.copy) (fun v26=>bnd (Fb_ x1.copy) (fun v29=>bnd (Cc_ v26 v29) (fun v30=>bnd (F9_ [v8,v13,v18,v23,v30]) (fun v32=>some v32))))))))
theorem Gv_{σ:d0_}{x0:Arc}{x1:Arc}{r:Int}(hh:Ed_ x0 x1=some r):
  Con prog 98 #[.agg #[.int .i64 x0.frm,.int .i64 x0.to,.int .u64 ((x0.set.a:Nat):Int),.int .u64 ((x0.set.b:Nat):Int),.int .u64 ((x0.set.c:Nat):Int),.int .u64 ((x0.set.d:Nat):Int),.string (bs x0.out),.bool x0.copy],.agg #[.int .i64 x1.frm,.int .i64 x1.to,.int .u64 ((x1.set.a:Nat):Int),.int .u64 ((x1.set.b:Nat):Int),.int .u64 ((x1.set.c:Nat):Int),.int .u64 ((x1.set.d:Nat):Int),.string (bs x1.out),.bool x1.copy]] σ [] (fd_ (.int .i64 r) σ):=by
 dsimp only [Ed_]at hh
 refine Con.mk (n:=34) Tryz.func98 z z z (fun w0=> ?_)
 refine ξ (ζ z (boxA z z z z (fun b101=> ?_)))
 refine ζ z (boxA z z z z (fun b103=> ?_))
 refine θ z z (κ (ν ?_))
 obtain ⟨v8,u8,hh⟩:=eb_ hh
 obtain ⟨v13,u13,hh⟩:=eb_ hh
 obtain ⟨v18,u18,hh⟩:=eb_ hh
 obtain ⟨v23,u23,hh⟩:=eb_ hh
 obtain ⟨v26,u26,hh⟩:=eb_ hh
 obtain ⟨v29,u29,hh⟩:=eb_ hh
 obtain ⟨v30,u30,hh⟩:=eb_ hh
 obtain ⟨v32,u32,hh⟩:=eb_ hh
 refine TC.draw [] (by kernel_rfl) (Ψ 0 z (aa_ z ip_ z) z (TA.b 1 z (ab_ z ag3 z (i:=1) z z) z (Ψ 2 z (aa_ z ip_ z) z (TA.b 3 z (ab_ z ag3 z (i:=0) z z) z (Ψ 5 z (aa_ z i3_ z) z (TA.b 6 z (ab_ z ag3 z (i:=1) z z) z (Ψ 7 z (aa_ z i3_ z) z (TA.b 8 z (ab_ z ag3 z (i:=0) z z) z (Ψ 10 z (aa_ z jp_ z) z (TA.b 11 z (cf_ z underlying64 zq_ z) z (Ψ 12 z (aa_ z jp_ z) z (TA.b 13 z (cf_ z underlying64 zq_ z) z (Ψ 15 z (aa_ z it_ z) z (TA.b 16 z (ab_ z ag9 z (i:=1) z z) z (Ψ 17 z (aa_ z it_ z) z ?_)))))))))))))))
 refine TA.b 18 z (ab_ z ag9 z (i:=0) z z) z (Ψ 20 z (aa_ z m1_ z) z (TA.b 21 z (ab_ z ag4 z (i:=1) z z) z (Ψ 23 z (aa_ z m1_ z) z (TA.b 24 z (ab_ z ag4 z (i:=0) z z) z (TA.ac 4 z (aw_ (Df_ u8) z z wh_ z z z (k0 ?_)))))))
 refine TA.ac 9 z (aw_ (Df_ u13) z z wh_ z z z (k0 ?_))
 refine TA.front 1 z z (TA.ac 14 z (b2_ (Con.lendC (fun _ hle116 hr114=>Con.lendC (fun _ hle117 hr115=>rg_ (RS.cx_ (l:=[x0.set.a,x0.set.b,x0.set.c,x0.set.d]) (hle117 _ _ hr114) ut_ vm_ z z z) (RS.cx_ (l:=[x1.set.a,x1.set.b,x1.set.c,x1.set.d]) hr115 ut_ vm_ z z z) u18))) z z pf139 z z z z ⟨(fun w h=>ez_ (d0_.le.refl _) (fun r hr=>et_ [1,0] z hr) w h),?_⟩))
 refine TA.ac 19 z (aw_ (Fh_ u23) z z pf64 z z z ⟨(fun w h=>ez_ (d0_.le.refl _) (fun r hr=>et_ [1,0] z hr) w h),?_⟩)
 refine TA.ac 22 z (aw_ (Gg_ u26) z z pf140 z z z ⟨(fun w h=>ez_ (d0_.le.refl _) (fun r hr=>et_ [1,0] z hr) w h),?_⟩)
 refine TA.ac 25 z (aw_ (Gg_ u29) z z pf140 z z z ⟨(fun w h=>ez_ (d0_.le.refl _) (fun r hr=>et_ [1,0] z hr) w h),?_⟩)
 refine TA.ac 26 z (aw_ (Df_ u30) z z wh_ z z z ⟨(fun w h=>ez_ (d0_.le.refl _) (fun r hr=>et_ [1,0] z hr) w h),?_⟩)
 refine TA.ac 27 z (OpOk.lit (enc:=eI_) [v8,v13,v18,v23,v30] z e2_ sz3 ze3 z z z ep_ (by decide) (by decide) (0:Int) z (by decide) z (by decide) i2_ (fun a118 c119=>⟨(fun w h=>ez_ (d0_.le.refl _) (fun r hr=>et_ [2,1] z hr) w h),?_⟩))
 refine TA.ac 28 z (b2_ (Con.lend ep_ (fun _ hle122 hr121=>Go_ hr121 u32)) z z pf134 z z z z ⟨(fun w h=>ez_ (d0_.le.refl _) (fun r hr=>et_ [2,1] z hr) w h),?_⟩)
 refine Ψ 29 z (ai_ (.inr z) z) z (TA.dn (S.n (TC.rt 0 ?_)))
 obtain rfl:=so hh
 exact rq [4] ⟨z,z,z⟩
end Go.Proofs.YtchebnpdnfhenaaGreatDoor
end

noncomputable section
namespace Go.E
open Go Go.Sort Go.Proofs Go.Shelf
theorem Reach.grown{w w':World}{σ:d0_}{H:List Res}(h:Reach w [] (fun _=>none) σ w' H): ∃q os',w'=grow (w.drewN q) os':=by
  refine ⟨w'.drawn - w.drawn,w'.heap.extract w.heap.size w'.heap.size,?_⟩
  have h1:w'.heap=w.heap++w'.heap.extract w.heap.size w'.heap.size:=by
    apply Array.ext_getElem?
    intro i
    rw [Array.getElem?_append]
    split
    · rename_i hi;exact h.frame i hi (by simp)
    rename_i hi
    by_cases hl:i<w'.heap.size
    · rw [Array.getElem?_extract_of_lt (by omega)];simp only [show w.heap.size+(i - w.heap.size)=i by omega];exact Array.getElem?_eq_getElem hl
    rw [Array.getElem?_eq_none (by omega),Array.getElem?_eq_none (by simp;omega)]
  have h2:=h.drawn
  cases w' with
  |mk heap tape drawn os output=>
    have e1:=h.os;have e2:=h.tape;have e3:=h.output
    simp only at h1 h2 e1 e2 e3
    simp only [grow,World.drewN]
    rw [World.mk.injEq]
    exact ⟨h1,e2,by omega,e1,e3⟩
theorem tw_(w:World):Reach w [] (fun _=>none) (fun _=>none) w []:=
  ⟨rfl,rfl,rfl,Nat.le_refl _,fun _ _ _=>rfl,d0_.le.refl _,(fun _ _ h=>by cases h),(fun _ _ h=>by cases h),by simp,by simp,by simp [fq_],by simp,Nat.le_refl _⟩
section
variable {α:Type} [Inhabited α] {P:Program}
theorem ua_{g:Nat}{enc:α→Value}{cf:α→α→Int}{blk off size:Nat}{w:World}(h: ∀x y τ,Con P g #[enc x,enc y] τ [] (fd_ (.int .i64 (cf x y)) τ)):CmpLays1 P g #[] enc cf blk off size w:=by
  intro m os dk _ x y
  refine (h x y (fun _=>none) _ (tw_ _)).mono fun e w' ⟨r,σ',H',he,⟨hr,_,_⟩,k⟩=>⟨by rw [he,hr],Reach.grown k⟩
theorem wx_{g k:Nat}{enc:α→List Value}{cf:α→α→Int}{blk off size:Nat}{w:World}(h: ∀x y τ,Con P g #[.agg (enc x).toArray,.agg (enc y).toArray] τ [] (fd_ (.int .i64 (cf x y)) τ)):CmpLays P g #[] enc k cf blk off size w:=by
  intro m os dk _ x y
  refine (h x y (fun _=>none) _ (tw_ _)).mono fun e w' ⟨r,σ',H',he,⟨hr,_,_⟩,k⟩=>⟨by rw [he,hr],Reach.grown k⟩
end
theorem getBang{α:Type}[Inhabited α](l:List α)(i:Nat)(h:i<l.length):l.toArray[i]! =l[i]:=by simp [h]
theorem Reach.sorted{w0:World}{C:List Nat}{σ0 σ:d0_}{w:World}{F:List Res}{E size n cap g m:Nat}{xs xs':List Value}{os:Array Obj}(h:Reach w0 C σ0 σ w (Res.row E size (.slice (some ⟨g,0,none⟩) n cap) n xs::F))(hl:xs'.length=xs.length)(h1: ∀u∈xs',u.oneCell'=true):
    Reach w0 C σ0 σ (grow (putRow (id:Value→Value) (Sort.ahead w m) g 0 xs'.toArray) os) (Res.row E size (.slice (some ⟨g,0,none⟩) n cap) n xs'::F):=by
  obtain ⟨hown,hone,hbg⟩:=h.holds _ (mc_ ..)
  obtain ⟨hlen,hc⟩:=hown
  rcases hc with ⟨hc,_⟩|⟨g',cap',cur,hv,hb0,hg,h3,h4,h5,h6⟩
  · cases hc
  cases hv
  have hgl:g<w.heap.size:=(Array.getElem?_eq_some_iff.1 hg).1
  have hnew:(grow (putRow (id:Value→Value) (Sort.ahead w m) g 0 xs'.toArray) os).heap[g]? =some (.cells (putCells (id:Value→Value) 0 xs'.toArray cur) E):=by
    rw [heap_grow_old _ _ (by simpa using hgl)]
    simp [putRow,mapBlock,Sort.ahead,Array.getElem?_modify,hg,onCells]
  have hold: ∀k,k<w.heap.size→k≠g→(grow (putRow (id:Value→Value) (Sort.ahead w m) g 0 xs'.toArray) os).heap[k]? =w.heap[k]? :=by
    intro k hk hne
    rw [heap_grow_old _ _ (by simpa using hk)]
    have:g≠k:=fun e=>hne e.symm
    simp [putRow,mapBlock,Sort.ahead,Array.getElem?_modify,this]
  have hcur:xs.length≤cur.size:=by
    have:=congrArg List.length h6
    simp at this;omega
  refine h.bk_ (some g) (some g) rfl rfl rfl rfl rfl (by simp [grow]) (by simp [grow,putRow,mapBlock,Sort.ahead]) (fun k hk hne=>hold k hk fun e=>hne (by rw [e])) ⟨⟨by rw [hl];exact hlen,.inr ⟨g,cap,_,rfl,hb0,hnew,h3,h4,by simp [putCells,h5],?_⟩⟩,h1,hbg⟩ (fun b hb=> .inl hb)
  apply List.ext_getElem?
  intro i
  by_cases hi:i<n * size
  · have hi2:i<xs'.length:=by rw [hl,hlen];exact hi
    rw [List.getElem?_take_of_lt hi,Array.getElem?_toList]
    simp [putCells,hi2,show i<cur.size by omega]
  rw [List.getElem?_take_eq_none (by omega),List.getElem?_eq_none (by omega)]
theorem holds_row{w:World}{E size n cap g:Nat}{xs:List Value}(h:w.ownsRow 0 E size (.slice (some ⟨g,0,none⟩) n cap) n xs):Holds (id:Value→Value) w g 0 xs.toArray∧g<w.heap.size:=by
  obtain ⟨hlen,hc⟩:=h
  rcases hc with ⟨hc,_⟩|⟨g',cap',cur,hv,hb0,hg,h3,h4,h5,h6⟩
  · cases hc
  cases hv
  refine ⟨fun j hj=> ?_,(Array.getElem?_eq_some_iff.1 hg).1⟩
  have hj':j<xs.length:=by simpa using hj
  refine ⟨?_,by simp [World.frozen?,hg]⟩
  have h7:(cur.toList.take (n * size))[j]? =xs[j]? :=by rw [h6]
  rw [List.getElem?_take_of_lt (by omega)]at h7
  simp only [World.cell?,hg,Nat.zero_add,Option.isSome_none,Bool.false_eq_true,if_false]
  rw [←Array.getElem?_toList,h7]
  simp [hj']
theorem xe_{α:Type}[Inhabited α](enc:α→Value)(w:World)(g:Nat)(l:List α):putRow enc w g 0 l.toArray=putRow (id:Value→Value) w g 0 (l.map enc).toArray:=by
  unfold putRow
  congr 1
  funext c
  unfold putCells
  apply Array.ext_getElem?
  intro i
  simp only [Array.getElem?_mapIdx]
  cases hc:c[i]? with
  |none=>rfl
  |some v=>
    simp only [Option.map_some,Nat.zero_le,true_and,Nat.zero_add,Nat.sub_zero,List.size_toArray,List.length_map]
    split
    · rename_i hi;simp [hi]
    rfl
theorem qj_ {α : Type} [Inhabited α] {enc : α → List Value} {k : Nat} (hk : ∀ x, (enc x).length = k) (l : List α) : flatK enc k l.toArray = (l.flatMap enc).toArray := by
  have hl:(l.flatMap enc).length=l.length * k:=eg_ hk l
  refine ext_get! (by simp [hl]) fun t ht=> ?_
  have ht':t<l.length * k:=by simpa using ht
  have k0 : 0 < k := by rcases Nat.eq_zero_or_pos k with h | h
                        · subst h;simp at ht'
                        exact h
  have hd:t / k<l.length:=Nat.div_lt_of_lt_mul (by rw [Nat.mul_comm];exact ht')
  have hm:t % k<k:=Nat.mod_lt _ k0
  rw [get_flatK _ _ _ _ (by simpa using ht'),getBang l _ hd]
  have h2:=gx_ hk l (t / k) (t % k) l[t / k] (List.getElem?_eq_getElem hd) hm
  rw [Nat.div_add_mod' t k]at h2
  have hb:t<(l.flatMap enc).toArray.size:=by simpa [hl]using ht'
  have h3:(l.flatMap enc).toArray[t]! =(enc l[t / k])[t % k]! :=by
    rw [getElem!_pos (l.flatMap enc).toArray t hb]
    have h4:(l.flatMap enc)[t]? =some ((l.flatMap enc).toArray[t]'hb):=by rw [←List.getElem?_toArray];exact Array.getElem?_eq_getElem hb
    rw [h2]at h4
    have hlt:t % k<(enc l[t / k]).length:=by rw [hk];exact hm
    rw [List.getElem?_eq_getElem hlt,Option.some.injEq]at h4
    rw [getElem!_pos (enc l[t / k]) (t % k) hlt,h4]
  rw [h3]
def g3_{α:Type}(cf:α→α→Int)(l:List α):List α:=l.mergeSort fun x y=> !decide (cf y x<0)
def xj_{α:Type}(E size:Nat)(enc:α→List Value)(a:Option Addr)(c:Nat)(l l':List α)(σ:d0_):Value→d0_→List Res→Prop:=fun v σ' H'=>v= .tuple #[]∧σ=σ'∧H'=[ε E size enc (.slice a l.length c) l']
structure TotalCmp {α:Type} (cf:α→α→Int):Prop where
  swo:SWO (ltOf cf)
  tot: ∀x y,ltOf cf x y=false→ltOf cf y x=false→x=y
section
variable {α:Type} [Inhabited α] {P:Program} {ρ:Ren}
theorem Con.sort1(L:SlLaysF.n6 P ρ)(L0:SlLaysF0.n6 P ρ){enc:α→Value}{encL:α→List Value}{cf:α→α→Int}{f g E c:Nat}{a:Option Addr}{l:List α}{σ:d0_}(hf:ρ.f 6=f)(he: ∀x,encL x=[enc x])(h1:OneCell enc)(hO:TotalCmp cf)
    (eg: ∀args w,(callFunc g args).run P w= .ok (.enter g args) w) (hc: ∀x y τ,Con P g #[enc x,enc y] τ [] (fd_ (.int .i64 (cf x y)) τ)):
    Con P f #[.slice a l.length c,.func (.func g) #[] #[]] σ [ε E 1 encL (.slice a l.length c) l] (xj_ E 1 encL a c l (g3_ cf l) σ):=by
  subst hf
  have hflat: ∀l:List α,l.flatMap encL=l.map enc:=fun l=>by
    induction l with
    |nil=>rfl
    |cons x l ih=>rw [List.flatMap_cons,ih,he];rfl
  have hlen:(g3_ cf l).length=l.length:=List.length_mergeSort _
  intro w hw
  obtain ⟨hown,hone,hbg⟩:=hw.holds _ (mc_ ..)
  have hsl:=isSl_row hown
  rcases id hown.2 with ⟨hn,hm⟩|⟨g',cap',cur,hv,hb0,hg,h3,h4,h5,h6⟩
  · have hl0:l=[]:=en_ hm
    subst hl0
    refine (AnyF.slices_SortFunc_none L0 a c (.func (.func g) #[] #[]) w).mono fun e w' ⟨h1,h2⟩=>⟨_,σ,_,h1,⟨rfl,rfl,rfl⟩,?_⟩
    subst h2
    rw [show g3_ cf ([]:List α)=[]from by simp [g3_]]
    exact hw
  cases hv
  have hH:=holds_row hown
  rw [hflat]at hH
  have hHe:Holds enc w g' 0 l.toArray:=fun j hj=>by
    have:=hH.1 j (by simpa using hj)
    have hj':j<l.length:=by simpa using hj
    simpa [hj']using this
  have hsz:l.toArray.size<4611686018427387904:=by simp;omega
  have:=Any.slices_SortFunc_total L enc h1 cf hO.swo g #[] g' 0 c l.toArray w eg (ua_ hc) hHe hH.2 hsz hO.tot
  refine this.mono fun e w' ⟨h7,n,os,h8⟩=>⟨_,σ,_,h7,⟨rfl,rfl,rfl⟩,?_⟩
  subst h8
  have h9:(l.toArray.toList.mergeSort fun x y=> !(ltOf cf) y x)=g3_ cf l:=rfl
  rw [h9]
  unfold sortWorld
  rw [xe_]
  have:=Reach.sorted (h:=hw) (m:=n) (os:=os) (xs':=(g3_ cf l).map enc) (by rw [hflat,List.length_map,List.length_map,hlen]) (fun u hu=>by
    obtain ⟨x,_,rfl⟩:=List.mem_map.1 hu
    exact h1 x)
  unfold ε
  rw [hflat (g3_ cf l),hlen]
  exact this
theorem Con.sortK(L:SlLaysF0.n6 P ρ){k:Nat}{enc:α→List Value}{cf:α→α→Int}{f g E c:Nat}{a:Option Addr}{l:List α}{σ:d0_}(hf:ρ.f 6=f)(aE: ∀w,(isAgg (ρ.t 24)).run P w= .ok true w)(zE: ∀w,(Go.sizeOf (ρ.t 24)).run P w= .ok k w)(hk: ∀x,(enc x).length=k)(h1: ∀x, ∀u∈enc x,u.oneCell'=true)(hO:TotalCmp cf)
    (eg: ∀args w,(callFunc g args).run P w= .ok (.enter g args) w) (hc: ∀x y τ,Con P g #[.agg (enc x).toArray,.agg (enc y).toArray] τ [] (fd_ (.int .i64 (cf x y)) τ)):
    Con P f #[.slice a l.length c,.func (.func g) #[] #[]] σ [ε E k enc (.slice a l.length c) l] (xj_ E k enc a c l (g3_ cf l) σ):=by
  subst hf
  have hlen:(g3_ cf l).length=l.length:=List.length_mergeSort _
  intro w hw
  obtain ⟨hown,hone,hbg⟩:=hw.holds _ (mc_ ..)
  rcases id hown.2 with ⟨hn,hm⟩|⟨g',cap',cur,hv,hb0,hg,h3,h4,h5,h6⟩
  · have hl0:l=[]:=en_ hm
    subst hl0
    refine (AnyF.slices_SortFunc_none L a c (.func (.func g) #[] #[]) w).mono fun e w' ⟨h1,h2⟩=>⟨_,σ,_,h1,⟨rfl,rfl,rfl⟩,?_⟩
    subst h2
    rw [show g3_ cf ([]:List α)=[]from by simp [g3_]]
    exact hw
  cases hv
  have hH:=holds_row hown
  have hHe:HoldsK enc k w g' 0 l.toArray:=by
    unfold HoldsK;rw [qj_ hk];exact hH.1
  have hsz:l.toArray.size<4611686018427387904:=by simp;omega
  have:=AnyQ.slices_SortFunc_total L k aE zE enc hk h1 cf hO.swo g #[] g' 0 c l.toArray w eg (wx_ hc) hHe hH.2 hsz hO.tot
  refine this.mono fun e w' ⟨h7,n,os,h8⟩=>⟨_,σ,_,h7,⟨rfl,rfl,rfl⟩,?_⟩
  subst h8
  have h9:(l.toArray.toList.mergeSort fun x y=> !(ltOf cf) y x)=g3_ cf l:=rfl
  rw [h9]
  unfold sortWorldK putRowK
  rw [qj_ hk]
  have:=Reach.sorted (h:=hw) (m:=n) (os:=os) (xs':=(g3_ cf l).flatMap enc) (by rw [eg_ hk,eg_ hk,hlen]) (fun u hu=>by
    obtain ⟨x,_,hx⟩:=List.mem_flatMap.1 hu
    exact h1 x u hx)
  unfold ε
  rw [hlen]
  exact this
end
end Go.E
end

noncomputable section
namespace Go.E
open Go
section
variable {S R:Type} {step:S→Option (S⊕R)}
theorem iter_any {y no : R} (f : Nat → S) (p : Nat → Bool) (n : Nat) (hs : ∀ k, k < n → p k = false → step (f k) = some (.inl (f (k + 1)))) (hy : ∀ k, k < n → p k = true → step (f k) = some (.inr y))
    (hd:step (f n)=some (.inr no)): ∀k,k≤n→eq_ step (f k)=some (bif (List.range n).any (fun i=>decide (k≤i) && p i) then y else no):=by
  intro k hk
  obtain ⟨m,rfl⟩: ∃m,k=n - m:=⟨n - k,by omega⟩
  induction m with
  |zero=>
    have:(List.range n).any (fun i=>decide (n - 0≤i) && p i)=false:=by
      rw [List.any_eq_false];intro i hi;have:=List.mem_range.1 hi;simp;omega
    rw [this];exact fb_ hd
  |succ m ih=>
    by_cases h:m<n
    · have e:n - (m+1)+1=n - m:=by omega
      cases hp:p (n - (m+1))with
      |true=>
        have:(List.range n).any (fun i=>decide (n - (m+1)≤i) && p i)=true:=by
          rw [List.any_eq_true];exact ⟨n - (m+1),List.mem_range.2 (by omega),by simp [hp]⟩
        rw [this];exact fb_ (hy _ (by omega) hp)
      |false=>
        have h1:=hs (n - (m+1)) (by omega) hp
        rw [e]at h1
        have:(List.range n).any (fun i=>decide (n - (m+1)≤i) && p i)=(List.range n).any (fun i=>decide (n - m≤i) && p i):=by
          rw [Bool.eq_iff_iff,List.any_eq_true,List.any_eq_true]
          constructor
          · rintro ⟨i,hi,hx⟩
            simp only [Bool.and_eq_true,dq_]at hx
            refine ⟨i,hi,?_⟩
            have:i≠n - (m+1):=fun h=>by rw [h,hp]at hx;exact absurd hx.2 Bool.false_ne_true
            simp [hx.2];omega
          rintro ⟨i,hi,hx⟩
          simp only [Bool.and_eq_true,dq_]at hx
          exact ⟨i,hi,by simp [hx.2];omega⟩
        rw [this]
        exact gp_ h1 (ih (by omega))
    have e:n - (m+1)=n - m:=by omega
    rw [e];exact ih (by omega)
theorem s2_{y no:R}(f:Nat→S)(p:Nat→Bool)(n:Nat)(hs: ∀k,k<n→p k=false→step (f k)=some (.inl (f (k+1))))(hy: ∀k,k<n→p k=true→step (f k)=some (.inr y))
    (hd:step (f n)=some (.inr no)):eq_ step (f 0)=some (bif (List.range n).any p then y else no):=by
  have:=iter_any f p n hs hy hd 0 (by omega)
  simpa using this
theorem r8_{r:R}(f:Nat→S)(n:Nat)(hs: ∀k,k<n→step (f k)=some (.inl (f (k+1))))(hd:step (f n)=some (.inr r)):eq_ step (f 0)=some r:=iter_seq f n hs hd 0 (by omega)
end
theorem yh_{α:Type}(l:List α)(d:α)(p:α→Bool):(List.range l.length).any (fun i=>p (nth l i d))=l.any p:=by
  rw [Bool.eq_iff_iff,List.any_eq_true,List.any_eq_true]
  constructor
  · rintro ⟨i,hi,h⟩
    have hi:=List.mem_range.1 hi
    exact ⟨nth l i d,List.mem_of_getElem? (getD_some l hi d),h⟩
  rintro ⟨x,hx,h⟩
  obtain ⟨i,hi,rfl⟩:=List.getElem_of_mem hx
  refine ⟨i,List.mem_range.2 hi,?_⟩
  have:nth l i d=l[i]:=by have:=getD_some l hi d;rw [List.getElem?_eq_getElem hi]at this;exact (Option.some.inj this).symm
  rw [this];exact h
theorem ex_{α:Type}(l:List α){k:Nat}(h:k<l.length)(d:α):l.take (k+1)=l.take k++[nth l k d]:=by
  rw [List.take_add_one,getD_some l h d];rfl
theorem rq_{α:Type}{l:List α}{i:Nat}(h:i<l.length)(d:α):nth l i d∈l:=List.mem_of_getElem? (getD_some l h d)
end Go.E
end

noncomputable section
namespace Go.Proofs.YtchebnpdnfhenaaGreatDoor
open Go Go.E Go.Sort
structure GoodCmp {α:Type} (c:α→α→Int):Prop where
  eq: ∀x y,c x y=0↔x=y
  anti: ∀x y,c x y<0↔0<c y x
  trans: ∀x y z,c x y<0→c y z<0→c x z<0
theorem GoodCmp.total{α:Type}{c:α→α→Int}(h:GoodCmp c):TotalCmp c where
  swo := {
    irrefl:=fun x=>by have:=(h.eq x x).2 rfl;simp [ltOf,this]
    trans:=fun x y z h1 h2=>by
      simp only [ltOf,dq_]at *
      exact h.trans x y z h1 h2
    ntrans:=fun x y z h1 h2=>by
      simp only [ltOf,decide_eq_false_iff_not]at *
      intro h3
      by_cases e1:x=y
      · subst e1;exact h2 h3
      by_cases e2:y=z
      · subst e2;exact h1 h3
      have n1:c x y≠0:=fun e=>e1 ((h.eq _ _).1 e)
      have n2:c y z≠0:=fun e=>e2 ((h.eq _ _).1 e)
      have h4:c z y<0:=(h.anti _ _).2 (by omega)
      exact h1 (h.trans _ _ _ h3 h4)}
  tot:=fun x y h1 h2=>by
    simp only [ltOf,decide_eq_false_iff_not]at *
    refine (h.eq x y).1 ?_
    have:=(h.anti y x)
    omega
def kl_(a b:Int):Int:=if a≠0 then a else b
theorem GoodCmp.lex {α β γ : Type} {c : β → β → Int} {d : γ → γ → Int} (hc : GoodCmp c) (hd : GoodCmp d) (f : α → β) (g : α → γ) (hfg : ∀ x y, f x = f y → g x = g y → x = y) : GoodCmp fun x y => kl_ (c (f x) (f y)) (d (g x) (g y)) where
  eq x y:=by
    unfold kl_
    by_cases h:c (f x) (f y)=0
    · have hf:=(hc.eq _ _).1 h
      simp only [h,ne_eq,not_true_eq_false,if_false,hd.eq]
      exact ⟨fun hg=>hfg x y hf hg,fun e=>by rw [e]⟩
    simp only [ne_eq,h,not_false_eq_true,if_true,false_iff]
    intro e;subst e;exact h ((hc.eq _ _).2 rfl)
  anti x y:=by
    unfold kl_
    have h1:=hc.anti (f x) (f y)
    have h2:=hc.anti (f y) (f x)
    have h3:=hd.anti (g x) (g y)
    by_cases h:c (f x) (f y)=0
    · have hf:=(hc.eq _ _).1 h
      have h':c (f y) (f x)=0:=(hc.eq _ _).2 hf.symm
      simp only [h,h',ne_eq,not_true_eq_false,if_false];exact h3
    have h':c (f y) (f x)≠0:=fun e=>h ((hc.eq _ _).2 ((hc.eq _ _).1 e).symm)
    simp only [h,h',ne_eq,not_false_eq_true,if_true];exact h1
  trans x y z := by
    unfold kl_
    intro h1 h2
    by_cases a:c (f x) (f y)=0
    · have ea:=(hc.eq _ _).1 a
      rw [a]at h1;simp only [ne_eq,not_true_eq_false,if_false]at h1
      rw [ea]
      by_cases b:c (f y) (f z)=0
      · rw [b]at h2 ⊢
        simp only [ne_eq,not_true_eq_false,if_false]at h2 ⊢
        exact hd.trans _ _ _ h1 h2
      simp only [ne_eq,b,not_false_eq_true,if_true]at h2 ⊢;exact h2
    simp only [ne_eq,a,not_false_eq_true,if_true]at h1
    by_cases b:c (f y) (f z)=0
    · have eb:=(hc.eq _ _).1 b
      rw [←eb]
      simp only [ne_eq,a,not_false_eq_true,if_true];exact h1
    simp only [ne_eq,b,not_false_eq_true,if_true]at h2
    have h3:=hc.trans _ _ _ h1 h2
    have h4:c (f x) (f z)≠0:=by omega
    simp only [ne_eq,h4,not_false_eq_true,if_true];exact h3
def vq_(x y:Int):Int:=if x<y then -1 else if y<x then 1 else 0
theorem ox_:GoodCmp vq_ where
  eq x y:=by unfold vq_;(repeat' split)<;>omega
  anti x y:=by unfold vq_;(repeat' split)<;>omega
  trans x y z:=by unfold vq_;(repeat' split)<;>omega
def pe_(x y:Nat):Int:=if x<y then -1 else if y<x then 1 else 0
theorem k7_:GoodCmp pe_ where
  eq x y:=by unfold pe_;(repeat' split)<;>omega
  anti x y:=by unfold pe_;(repeat' split)<;>omega
  trans x y z:=by unfold pe_;(repeat' split)<;>omega
theorem xi_: ∀a b:T_1,Lib.compareBytes a b=0↔a=b
  |[],[]=>by simp [Lib.compareBytes]
  |[],_::_=>by simp [Lib.compareBytes]
  |_::_,[]=>by simp [Lib.compareBytes]
  |x::a,y::b=>by
    simp only [Lib.compareBytes]
    split
    · rename_i h;simp;intro e;subst e;exact absurd h (UInt8.lt_irrefl _)
    rename_i h
    split
    · rename_i h';simp;intro e;subst e;exact absurd h' (UInt8.lt_irrefl _)
    rename_i h'
    have:x=y:=UInt8.le_antisymm (UInt8.not_lt.1 h') (UInt8.not_lt.1 h)
    subst this
    simp [xi_ a b]
theorem s7_: ∀a b:T_1,Lib.compareBytes a b<0↔0<Lib.compareBytes b a
  |[],[]=>by simp [Lib.compareBytes]
  |[],_::_=>by simp [Lib.compareBytes]
  |_::_,[]=>by simp [Lib.compareBytes]
  | x :: a, y :: b => by
    simp only [Lib.compareBytes]
    by_cases h:x<y
    · have h': ¬ y<x:=fun h2=>UInt8.lt_irrefl _ (UInt8.lt_trans h h2)
      simp [h,h']
    by_cases h':y<x
    · simp [h,h']
    simp [h,h',s7_ a b]
theorem qi_: ∀a b c:T_1,Lib.compareBytes a b<0→Lib.compareBytes b c<0→Lib.compareBytes a c<0
  |[],[],c,h,_=>by simp [Lib.compareBytes]at h
  |[],_::_,[],_,h=>by simp [Lib.compareBytes]at h
  |[],_::_,_::_,_,_=>by simp [Lib.compareBytes]
  |_::_,[],c,h,_=>by simp [Lib.compareBytes]at h
  |_::_,_::_,[],_,h=>by simp [Lib.compareBytes]at h
  | x :: a, y :: b, z :: c, h1, h2 => by
    simp only [Lib.compareBytes]at *
    by_cases hxy:x<y
    · by_cases hyz:y<z
      · have:=UInt8.lt_trans hxy hyz;simp [this]
      by_cases hzy:z<y
      · simp [hyz,hzy]at h2
      have:y=z:=UInt8.le_antisymm (UInt8.not_lt.1 hzy) (UInt8.not_lt.1 hyz)
      subst this;simp [hxy]
    by_cases hyx:y<x
    · simp [hxy,hyx]at h1
    have:x=y:=UInt8.le_antisymm (UInt8.not_lt.1 hyx) (UInt8.not_lt.1 hxy)
    subst this
    simp only [UInt8.lt_irrefl,if_false]at h1
    by_cases hyz:x<z
    · simp [hyz]
    by_cases hzy:z<x
    · simp [hyz,hzy]at h2
    simp only [hyz,hzy,if_false]at h2 ⊢
    exact qi_ a b c h1 h2
theorem ld_:GoodCmp Lib.compareBytes:=⟨xi_,s7_,qi_⟩
def uh_(x y:Bool):Int:=vq_ (if x then 1 else 0) (if y then 1 else 0)
theorem s9_:GoodCmp uh_ where
  eq x y:=by cases x<;>cases y<;>decide
  anti x y:=by cases x<;>cases y<;>decide
  trans x y z:=by cases x<;>cases y<;>cases z<;>decide
theorem oa_{k n:Nat}(h:k<n):decide (((k:Nat):Int)<((n:Nat):Int))=true:=decide_eq_true (by omega)
theorem Dn_(x y:Int):Cc_ x y=some (vq_ x y):=by
  unfold Cc_ Fv_ vq_
  simp only [bnd,Option.bind_some,ne_eq,not_true_eq_false,decide_false,iteO_false]
  by_cases h:x<y
  · simp [h]
  by_cases h':y<x<;>simp [h,h']
theorem ow_(x y:Nat):lm_ x y=some (pe_ x y):=by
  unfold lm_ s4_ pe_
  simp only [bnd,Option.bind_some,ne_eq,not_true_eq_false,decide_false,iteO_false]
  by_cases h:x<y
  · simp [h]
  by_cases h':y<x<;>simp [h,h']
theorem Fw_(x y:T_1):Dd_ x y=some (Lib.compareBytes x y):=rfl
def orL:N_1→Int
  |[]=>0
  |a::l=>kl_ a (orL l)
theorem Ie_(l:N_1): ∀m k,l.length=k+m→eq_ (fun q:Nat=>Dz_ l q) k=some (orL (l.drop k)):=by
  intro m
  induction m with
  |zero=>
    intro k hk
    refine fb_ ?_
    rw [List.drop_of_length_le (by omega)]
    simp only [Dz_,decide_eq_false (show ¬ ((k:Nat):Int)<((l.length:Nat):Int) by omega),iteO_false];rfl
  |succ m ih=>
    intro k hk
    have hlt:k<l.length:=by omega
    have hd:l.drop k=nth l k 0::l.drop (k+1):=by
      rw [List.drop_eq_getElem_cons hlt]
      have:=getD_some l hlt 0
      rw [List.getElem?_eq_getElem hlt,Option.some.injEq]at this
      rw [this]
    rw [hd,orL,kl_]
    by_cases h:nth l k 0≠0
    · rw [if_pos h]
      refine fb_ ?_
      simp only [Dz_,decide_eq_true (show ((k:Nat):Int)<((l.length:Nat):Int) by omega),iteO_true,decide_eq_true h];rfl
    rw [if_neg h]
    refine gp_ (s':=k+1) ?_ (ih (k+1) (by omega))
    simp only [Dz_,decide_eq_true (show ((k:Nat):Int)<((l.length:Nat):Int) by omega),iteO_true,decide_eq_false h];rfl
theorem G5_(l:N_1):F9_ l=some (orL l):=by
  unfold F9_;rw [Ie_ l l.length 0 (by omega),List.drop_zero]
def e0_(x y:Tip):Int:=kl_ (vq_ x.state y.state) (kl_ (Lib.compareBytes x.out y.out) 0)
theorem pq_(x y:Tip):Ea_ x y=some (e0_ x y):=by
  unfold Ea_
  rw [eu_ (Dn_ _ _),eu_ (Fw_ _ _),eu_ (G5_ _)];rfl
theorem oe_(a:Int):kl_ a 0=a:=by unfold kl_;split<;>omega
theorem fg_:GoodCmp e0_:=by
  have:=GoodCmp.lex ox_ ld_ Tip.state Tip.out (fun x y h1 h2=>by cases x;cases y;simp_all)
  have e:e0_=fun x y=>kl_ (vq_ x.state y.state) (Lib.compareBytes x.out y.out):=by
    funext x y;unfold e0_;rw [oe_]
  rw [e];exact this
def zz_(s t:BSet):Int:=kl_ (pe_ s.a t.a) (kl_ (pe_ s.b t.b) (kl_ (pe_ s.c t.c) (pe_ s.d t.d)))
theorem pg_(a b c d a' b' c' d':Nat):k8_ [a,b,c,d] [a',b',c',d']=some (kl_ (pe_ a a') (kl_ (pe_ b b') (kl_ (pe_ c c') (pe_ d d')))):=by
  have st: ∀(k x y:Nat),k<4→nth [a,b,c,d] k 0=x→nth [a',b',c',d'] k 0=y→(pe_ x y≠0→eq_ (fun q:Nat=>e3_ [a,b,c,d] [a',b',c',d'] q) k=some (pe_ x y))∧(∀r,pe_ x y=0→eq_ (fun q:Nat=>e3_ [a,b,c,d] [a',b',c',d'] q) (k+1)=some r→eq_ (fun q:Nat=>e3_ [a,b,c,d] [a',b',c',d'] q) k=some r):=by
    intro k x y hk hx hy
    have e1:((k:Nat):Int)<(([a,b,c,d].length:Nat):Int):=by simp;omega
    have e2: ¬ (([a',b',c',d'].length:Nat):Int)≤((k:Nat):Int):=by simp;omega
    refine ⟨fun h=>fb_ ?_,fun r h hr=>gp_ (s':=k+1) ?_ hr⟩
    · simp only [e3_,decide_eq_true e1,iteO_true,decide_eq_false e2,iteO_false]
      rw [d3_ (by simp;omega),hx,hy,eu_ (ow_ _ _),decide_eq_true h];rfl
    simp only [e3_,decide_eq_true e1,iteO_true,decide_eq_false e2,iteO_false]
    rw [d3_ (by simp;omega),hx,hy,eu_ (ow_ _ _),h];rfl
  have fi:eq_ (fun q:Nat=>e3_ [a,b,c,d] [a',b',c',d'] q) 4=some 0:=fb_ (by simp [e3_])
  have go: ∀(k x y:Nat) (r:Int),k<4→nth [a,b,c,d] k 0=x→nth [a',b',c',d'] k 0=y→eq_ (fun q:Nat=>e3_ [a,b,c,d] [a',b',c',d'] q) (k+1)=some r→eq_ (fun q:Nat=>e3_ [a,b,c,d] [a',b',c',d'] q) k=some (kl_ (pe_ x y) r):=by
    intro k x y r hk hx hy hr
    obtain ⟨h1,h2⟩:=st k x y hk hx hy
    by_cases h:pe_ x y=0
    · rw [show kl_ (pe_ x y) r=r from by simp [kl_,h]];exact h2 r h hr
    rw [show kl_ (pe_ x y) r=pe_ x y from by simp [kl_,h]];exact h1 h
  have h3:=go 3 d d' 0 (by omega) rfl rfl fi
  rw [oe_]at h3
  exact go 0 a a' _ (by omega) rfl rfl (go 1 b b' _ (by omega) rfl rfl (go 2 c c' _ (by omega) rfl rfl h3))
theorem up_:GoodCmp zz_:=by
  have h1:=GoodCmp.lex (α:=Nat×Nat) k7_ k7_ Prod.fst Prod.snd (fun x y h1 h2=>Prod.ext h1 h2)
  have h2:=GoodCmp.lex (α:=Nat×Nat×Nat) k7_ h1 Prod.fst Prod.snd (fun x y h1 h2=>Prod.ext h1 h2)
  have h3:=GoodCmp.lex (α:=BSet) k7_ h2 BSet.a (fun s=>(s.b,s.c,s.d)) (fun x y h1 h2=>by
    cases x;cases y;simp_all)
  exact h3
def in_(x y:Arc):Int:=kl_ (vq_ x.frm y.frm) (kl_ (vq_ x.to y.to) (kl_ (zz_ x.set y.set) (kl_ (Lib.compareBytes x.out y.out) (kl_ (uh_ x.copy y.copy) 0))))
theorem Gs_(b:Bool):Fb_ b=some (if b then 1 else 0):=by cases b<;>rfl
theorem pl_(x y:Arc):Ed_ x y=some (in_ x y):=by
  unfold Ed_
  rw [eu_ (Dn_ _ _),eu_ (Dn_ _ _),eu_ (pg_ ..),eu_ (Fw_ _ _),eu_ (Gs_ _),eu_ (Gs_ _),eu_ (Dn_ _ _),eu_ (G5_ _)];rfl
theorem ot_:GoodCmp in_:=by
  have h1:=GoodCmp.lex (α:=T_1×Bool) ld_ s9_ Prod.fst Prod.snd (fun x y h1 h2=>Prod.ext h1 h2)
  have h2:=GoodCmp.lex (α:=BSet×T_1×Bool) up_ h1 Prod.fst Prod.snd (fun x y h1 h2=>Prod.ext h1 h2)
  have h3:=GoodCmp.lex (α:=Int×BSet×T_1×Bool) ox_ h2 Prod.fst Prod.snd (fun x y h1 h2=>Prod.ext h1 h2)
  have h4:=GoodCmp.lex (α:=Arc) ox_ h3 Arc.frm (fun s=>(s.to,s.set,s.out,s.copy)) (fun x y h1 h2=>by
    cases x;cases y;simp_all)
  have e:in_=fun x y=>kl_ (vq_ x.frm y.frm) (kl_ (vq_ x.to y.to) (kl_ (zz_ x.set y.set) (kl_ (Lib.compareBytes x.out y.out) (uh_ x.copy y.copy)))):=by
    funext x y;unfold in_;rw [oe_]
  rw [e];exact h4
end Go.Proofs.YtchebnpdnfhenaaGreatDoor
end

noncomputable section
namespace Go.Proofs.YtchebnpdnfhenaaGreatDoor
open Go Go.E
instance:Inhabited Tip:=⟨tz_⟩
instance:Inhabited Arc:=⟨az_⟩
theorem Ir_{σ:d0_}{a:Option Addr}{c:Nat}{l:List Tip}:Con Tryz.prog 124 #[.slice a l.length c,.func (.func 96) #[] #[]] σ [ε 76 2 d2_ (.slice a l.length c) l] (xj_ 76 2 d2_ a c l (g3_ e0_ l) σ):=
  Con.sortK (k:=2) layT0 rfl Tryz.isAgg76 Tryz.sizeOf76 d1_ fc_ fg_.total (fun args w=>ft_ (by kernel_rfl) args w) (fun x y τ=>Gw_ (pq_ x y))
theorem Io_{σ:d0_}{a:Option Addr}{c:Nat}{l:List Arc}:Con Tryz.prog 137 #[.slice a l.length c,.func (.func 98) #[] #[]] σ [ε 66 8 d8_ (.slice a l.length c) l] (xj_ 66 8 d8_ a c l (g3_ in_ l) σ):=
  Con.sortK (k:=8) layA0 rfl Tryz.isAgg66 Tryz.sizeOf66 ee_ f5_ ot_.total (fun args w=>ft_ (by kernel_rfl) args w) (fun x y τ=>Gv_ (pl_ x y))
end Go.Proofs.YtchebnpdnfhenaaGreatDoor
end

noncomputable section
namespace Go.E
open Go
section
variable {β:Type} {E' E size:Nat} {enc:β→List Value} {v:Value}
theorem wc_{σ:d0_}{H:List Res}{q i:Nat}{z:List (NP β)}(hq:H[q]? =some (Res.da_ E' E size enc v z i))(w:World)(h:hk_ σ H w):hk_ σ [ε E' 1 r6_ v z] w:=
  ⟨h.1,fun r hr=>by
    simp at hr;subst hr
    exact h.2 _ (List.mem_of_getElem? hq) _ (mc_ ..)⟩
theorem f4_{σ:d0_}{H:List Res}{q i:Nat}{z:List (NP β)}{l:List (List β)}(hq:H[q]? =some (Res.da_ E' E size enc v z i))(hZ:Zn z l)(w:World)(h:hk_ σ H w):o7_ v l.length∧l.length≤281474976710656:=by
  have:=n4_ (H:=H) (wc_ hq w h)
  rw [hZ.len]at this;exact this
end
theorem TC.bv_{X:Ctx}{Q:QP}{id:Nat}{ops:Array Oper}{e:Env}{σ:d0_}{H Hr:List Res}(hs: ∀r∈Hr,r∈H)(late:List Nat)(hm:X.P.follows .mixedOrders=true)(h:TA X ops Q σ Hr late ops.size (Array.replicate ops.size false) e σ H)(hnd:rx_ ops=true:=by kernel_rfl):TC X Q (.region id ops true) e σ H:=fun w a hw ha=>
  Go.wpIn_mono (wpIn_region_any hm (ji_ _ _ _ _ (h (qs_ hnd) w.drew a hw.drew (ez_ (d0_.le.refl _) hs _ hw.drew.sees) (mu_ _ _) ha))) fun ex a w h=>by
    cases ex<;>first|exact h|exact h.elim
section
variable {P:Program} {n:Nat} {e:Env} {σ:d0_} {H:List Res} {o:Oper} {x y:Operand} {T T':TypeId} {k:IntKind} {a b:Int}
theorem OpVal.quoW(ho:o.op= .binOp .quo T x y T')(hx:ev e x= .int k a)(hy:ev e y= .int k b)(h:b≠0):OpVal P n o e σ H (.int k (k.wrap (a.tdiv b))):= .bin ho hx hy fun w=>by simp [binOp,Op.intDiv,h]
end
theorem j3_: ∀l m:List UInt8,Op.bytesLess l m=decide (Lib.compareBytes l m<0)
  |[],[]=>by simp [Op.bytesLess,Lib.compareBytes]
  |_::_,[]=>by simp [Op.bytesLess,Lib.compareBytes]
  |[],_::_=>by simp [Op.bytesLess,Lib.compareBytes]
  | a :: x, b :: y => by
    simp only [Op.bytesLess,Lib.compareBytes,j3_ x y]
    by_cases h:a<b
    · simp [h]
    by_cases h':b<a
    · have: ¬ a=b:=fun e=>by subst e;exact h h'
      simp [h,h',this]
    have:a=b:=UInt8.le_antisymm (UInt8.not_lt.1 h') (UInt8.not_lt.1 h)
    subst this
    simp [h]
theorem OpVal.lssBs{P:Program}{n:Nat}{e:Env}{σ:d0_}{H:List Res}{o:Oper}{x y:Operand}{l m:List UInt8}{T T':TypeId}(ho:o.op= .binOp .lss T x y T')(hx:ev e x= .string (bs l))(hy:ev e y= .string (bs m)):OpVal P n o e σ H (.bool (decide (Lib.compareBytes l m<0))):=fun w _=>by
  simp only [execOp,ho,hx,hy,Sem.run_bind,f8_,Result.andThen_ok,binOp,Op.stringOp,ByteArray.toList_eq,l7_,j3_,Sem.run_pure]
end Go.E
end

noncomputable section
namespace Go.Proofs.YtchebnpdnfhenaaGreatDoor
open Go Go.E Go.E.OpVal Go.E.OpOk Go.Proofs.Tryz
open List (replicate)
theorem jc_:aggOf Tryz.prog 25=some true:=by kernel_rfl
theorem z8_:byOf Tryz.prog 66=some 72:=by kernel_rfl
theorem w4_:byOf Tryz.prog 76=some 24:=by kernel_rfl
theorem eg66:Tryz.prog.eqGuardType Tryz.prog.depth 66=false:=by kernel_rfl
theorem eg76:Tryz.prog.eqGuardType Tryz.prog.depth 76=false:=by kernel_rfl
theorem es66(x y:Arc):Go.E.EqAt Tryz.prog 3 66 (.agg (d8_ x).toArray) (.agg (d8_ y).toArray) (decide (x=y)):=
 (EqAt.struct (ts:=[(false,3,0),(false,3,1),(false,64,2),(false,9,6),(false,4,7)]) (by kernel_rfl) (by kernel_rfl) (by kernel_rfl) (EqC.one (by kernel_rfl) rfl rfl (EqAt.int underlying3 x.frm y.frm |>.up (by decide)) (EqC.one (by kernel_rfl) rfl rfl (EqAt.int underlying3 x.to y.to |>.up (by decide)) (EqC.agg (s:=4) (us:=Go.E.setA x.set) (vs:=Go.E.setA y.set) (by kernel_rfl) (by kernel_rfl) rfl rfl (EqAt.set underlying64 underlying62 (by kernel_rfl) (by kernel_rfl) x.set y.set) (EqC.one (by kernel_rfl) rfl rfl (EqAt.str u9_ x.out y.out |>.up (by decide)) (EqC.one (by kernel_rfl) rfl rfl (EqAt.bool underlying4 x.copy y.copy |>.up (by decide)) EqC.nil)))))).of (by rw [Bool.eq_iff_iff];cases x;cases y;simp)
theorem es76(x y:Tip):Go.E.EqAt Tryz.prog 2 76 (.agg (d2_ x).toArray) (.agg (d2_ y).toArray) (decide (x=y)):=
 (EqAt.struct (ts:=[(false,3,0),(false,9,1)]) (by kernel_rfl) (by kernel_rfl) (by kernel_rfl) (EqC.one (by kernel_rfl) rfl rfl (EqAt.int underlying3 x.state y.state) (EqC.one (by kernel_rfl) rfl rfl (EqAt.str u9_ x.out y.out) EqC.nil))).of (by rw [Bool.eq_iff_iff];cases x;cases y;simp)
theorem pf124:plainF Tryz.prog 124=true:=by kernel_rfl
theorem pf126:plainF Tryz.prog 126=true:=by kernel_rfl
theorem pf136:plainF Tryz.prog 136=true:=by kernel_rfl
theorem pf137:plainF Tryz.prog 137=true:=by kernel_rfl
theorem pf138:plainF Tryz.prog 138=true:=by kernel_rfl
theorem z7_:plainF Tryz.prog 43=true:=by kernel_rfl
theorem pf88:plainF Tryz.prog 88=true:=by kernel_rfl
theorem pf95:plainF Tryz.prog 95=true:=by kernel_rfl
theorem pf97:plainF Tryz.prog 97=true:=by kernel_rfl
theorem tx_:plOf Tryz.prog 25=some #[(0,1),(1,1),(2,1),(3,1)]:=by kernel_rfl
theorem hi_:szOf Tryz.prog 25=some 4:=by kernel_rfl
theorem m2_:zeroOf Tryz.prog 25=some (.agg #[.int .i64 0,nl_,nl_,nl_]):=by kernel_rfl
theorem Hk_{σ:d0_}{a:Option Addr}{c:Nat}{l:List Tip}(hl:RS σ 2 d2_ (.slice a l.length c) l)(hsz:l.length * 24≤140737488355328):
  Con prog 88 #[.slice a l.length c] σ [] (RowP 76 2 d2_ l σ):=by
 have hb:=hl.rv.big
 refine Con.mk (n:=8) Tryz.func88 z z z (fun w0=> ?_)
 refine ξ (TL.s z z (TL.nilS 76 2 d2_ (κ (ν (ξ (TL.s z z (ω z (ce_ z ge_ z z) (κ (TC.cond z (fun h2=> ?_) (fun h2=> ?_))))))))))
 ·refine ξ (TL.s z z (TL.nilS 76 2 d2_ (κ (TC.ret (S.r ?_)))))
  cases a with
  |some _=>simp at h2
  |none=>
   obtain rfl:=hl.ch_
   exact ret1R z z
 refine ι (S.n (ξ (ζ z (lit0 (enc:=d2_) z z ge_ fr_ z z (fun a4 c5=> ?_)))))
 refine TL.s z z (ζ z (av_ z z ge_ fr_ w4_ ik_ z z (by decide) z z z (.inl hl) (by simpa using hsz) (by decide) (fun a7 c8=> ?_)))
 exact TL.s z z (κ (TC.ret (ret1R z z)))
def Fl_(k125:Nat)(l128:List Tip)(k130:Nat):Option (((List Tip)×Nat×Nat)⊕((Nat)⊕((List Tip)))):=
 nxt (l128,k130,(k125+1))
def Fp_(x0:List Tip)(k105:Nat)(l122:List Tip)(k124:Nat)(k125:Nat):Option (((List Tip)×Nat×Nat)⊕((Nat)⊕((List Tip)))):=
 ec_ (decide ((k125:Int)<(((x0.length - k105):Nat):Int))) (grd (k125<(x0.length - k105)) (grd (0≤(IntKind.i64.wrap ((k125:Int) - 1))∧(IntKind.i64.wrap ((k125:Int) - 1))<((x0.length - k105):Nat)) (ec_ (decide (¬ ((nth l122 (k105+k125) tz_)=(nth l122 (k105+(IntKind.i64.wrap ((k125:Int) - 1)).toNat) tz_)))) (grd (k125<(x0.length - k105)) (grd (k124<l122.length) (Fl_ k125 (l122.set k124 (nth l122 (k105+k125) tz_)) (k124+1)))) (Fl_ k125 l122 k124)))) (fin (grd (k124≤x0.length) (grd (k124≤(l122.take k124++replicate (l122.length - k124) tz_).length) (fin (some ((l122.take k124++replicate (l122.length - k124) tz_).take k124))))))
def Fm_(x0:List Tip)(k105:Nat):Option ((Nat)⊕((List Tip))):=
 ec_ (decide ((k105:Int)<((x0.length:Nat):Int))) (grd (0≤(IntKind.i64.wrap ((k105:Int) - 1))∧(IntKind.i64.wrap ((k105:Int) - 1))<(x0.length:Int)) (ec_ (decide ((nth x0 k105 tz_)=(nth x0 ((IntKind.i64.wrap ((k105:Int) - 1)).toNat) tz_))) (grd (k105≤x0.length) (eq_ (fun q:(List Tip)×Nat×Nat=>Fp_ x0 k105 q.1 q.2.1 q.2.2) (x0,k105,1))) (nxt (k105+1)))) (fin (some x0))
def kc_(x0:List Tip):Option ((List Tip)):=
 ec_ (decide (((x0.length:Nat):Int)<2)) (some x0) (eq_ (fun q:Nat=>Fm_ x0 q) 1)
theorem G1_{σ:d0_}{x0:List Tip}{r:(List Tip)}(hh:kc_ x0=some r):
  Con prog 126 #[.slice a0_1 x0.length c0_2] σ [ε 76 2 d2_ (.slice a0_1 x0.length c0_2) x0] (fun v σ' H'=> ∃a1 c1,v= .slice a1 r.length c1∧σ=σ'∧H'=[ε 76 2 d2_ (.slice a1 r.length c1) r]):=by
 dsimp only [kc_]at hh
 refine Con.mk (n:=61) Tryz.func126 z z z (fun w0=> ?_)
 refine ξ (TL.s z z (κ (ν (ξ (TL.s z z (ω z (lenC z ge_ z) (ω z (OpVal.lss z z z) (κ (TC.cD z hh (fun h102 hh=> ?_) (fun h102 hh=> ?_))))))))))
 ·refine ξ (TL.s z z (TL.s z z (κ (TC.ret (S.r ?_)))))
  obtain rfl:=so hh
  exact ro [ε 76 2 d2_ (.slice a0_1 x0.length c0_2) x0] z (RVs.tmp z RVs.nil) ⟨a0_1,c0_2,z,z,z⟩
 refine ι (S.n (ν (ξ (θ z z (κ (υ (TC.ao_ (α:=(Nat)×(Unit)) (rgs [(2,4),(10,50)]) (fun g=>[(3,.int .i64 ((g.1:Nat):Int))]) (fun g=>[ε 76 2 d2_ (.slice a0_1 x0.length c0_2) x0]) (fun g=>σ) (fun g=>eq_ (fun q:Nat=>Fm_ x0 q) g.1=some r) (fun g=>eh_ (fun q:Nat=>Fm_ x0 q) g.1) (1,()) (Sub.pre 1 z) z (by repeat (first|exact trivial|refine ⟨z,?_⟩)) hh (fun g1 j1 hg1=> ?_))))))))
 obtain ⟨k105,_⟩:=g1
 have hh:=hg1;clear hg1
 try dsimp only
 obtain ⟨z1,hh,hR1⟩:=eo_ hh
 dsimp only [Fm_]at hh
 refine η (i:=0) z (fun _ hb106 _=> ?_)
 refine ν (ξ (θ z z (TL.s z z (ω z (lenC z ge_ z) (ω z (OpVal.lss z z z) (κ (TC.cD z hh (fun h107 hh=> ?_) (fun h107 hh=> ?_))))))))
 ·refine ι (S.n (ν (υ (ν ?_))))
  obtain ⟨u19,hh⟩:=d6_ hh
  refine TC.draw [] (by kernel_rfl) (Ψ 0 z (aj_ (.inl z) z) z (Ψ 1 z (ai_ (.inl z) z) z (TA.isSl (i:=0) z (fun hs110 _ _=> ?_))))
  refine TA.b 2 z (af_ z ge_ fr_ z z hs110 (by omega)) z (TA.b 3 z (bd_ tz_ z ni_ fr_ z (q:=0) z d1_ (by omega) (by omega)) z (Ψ 4 z (aj_ (.inl z) z) z (Ψ 5 z (ai_ (.inl z) z) z (Ψ 6 z (subW z z z) z (TA.isSl (i:=0) z (fun hs111 _ _=> ?_))))))
  refine TA.b 7 z (OpVal.index z ge_ fr_ z z hs111 u19.1 u19.2) z (TA.b 8 z (bd_ tz_ z ni_ fr_ z (q:=0) z d1_ (by omega) (by omega)) z (Ψ 9 z (eqlSt (p:=(nth x0 k105 tz_)=(nth x0 ((IntKind.i64.wrap ((k105:Int) - 1)).toNat) tz_)) z z z eg76 (es76 (nth x0 k105 tz_) (nth x0 ((IntKind.i64.wrap ((k105:Int) - 1)).toNat) tz_)) z) z (TA.dn (S.n (TC.cD z hh (fun h112 hh=> ?_) (fun h112 hh=> ?_))))))
  ·refine ξ (TL.s z z (θ z z ?_))
   obtain ⟨u24,hh⟩:=d6_ hh
   refine TL.isSl (i:=0) z (fun hs113 _ _=> ?_)
   obtain ⟨a113,c113,hv113,ho113⟩:=vw_of (k:=k105) (size:=2) hs113 (by omega)
   refine ω z (ho113 z ge_ fr_ z z) (TL.s z z (κ (ν (ξ (θ z z (κ (υ (TC.ao_ (α:=((List Tip)×Nat×Nat)×(Unit)) (rgs [(3,1),(5,1),(29,25)]) (fun g=>[(3,.int .i64 ((g.1.2.1:Nat):Int)),(5,.int .i64 ((g.1.2.2:Nat):Int))]) (fun g=>[ε 76 2 d2_ (.slice a0_1 x0.length c0_2) g.1.1]) (fun g=>σ) (fun g=>eq_ (fun q:(List Tip)×Nat×Nat=>Fp_ x0 k105 q.1 q.2.1 q.2.2) g.1=some z1∧g.1.1.length=x0.length) (fun g=>eh_ (fun q:(List Tip)×Nat×Nat=>Fp_ x0 k105 q.1 q.2.1 q.2.2) g.1) ((x0,k105,1),()) (Sub.pre 1 z) z (by repeat (first|exact trivial|refine ⟨z,?_⟩)) ⟨hh,z⟩ (fun g2 j2 hg2=> ?_)))))))))
   obtain ⟨⟨l122,k124,k125⟩,_⟩:=g2
   obtain ⟨hh,hn123⟩:=hg2
   try dsimp only at hn123 ⊢
   obtain ⟨z2,hh,hR2⟩:=eo_ hh
   dsimp only [Fp_]at hh
   refine η (i:=0) z (fun _ hb126 _=> ?_)
   refine ν (ξ (θ z z (TL.s z z (ω z (lenC z ge_ z) (ω z (OpVal.lss z z z) (κ (TC.cD z hh (fun h127 hh=> ?_) (fun h127 hh=> ?_))))))))
   ·refine ι (S.n (TC.cutG (α:=((List Tip)×Nat)×(Unit)) (rgs [(3,1),(35,19)]) (fun g=>[(3,.int .i64 ((g.1.2:Nat):Int))]) (fun g=>[ε 76 2 d2_ (.slice a0_1 x0.length c0_2) g.1.1]) (fun g=>σ) (fun g=>Fl_ k125 g.1.1 g.1.2=some z2∧g.1.1.length=x0.length) ?_ (fun g j hg=> ?_)))
    ·skip
     refine υ (ν ?_)
     obtain ⟨u33,hh⟩:=d6_ hh
     obtain ⟨u38,hh⟩:=d6_ hh
     refine TC.draw [] (by kernel_rfl) (Ψ 0 z (aj_ (.inl z) z) z (Ψ 1 z (ai_ (.inl z) z) z (TA.b 2 z (elVw hv113 (by omega) (af_ z ge_ fr_ z z hv113.sl (by omega))) z (TA.b 3 z (bd_ tz_ z ni_ fr_ z (q:=0) z d1_ (by omega) (by omega)) z (Ψ 4 z (aj_ (.inl z) z) z (Ψ 5 z (ai_ (.inl z) z) z (Ψ 6 z (subW z z z) z (TA.b 7 z (elVw hv113 (by omega) (OpVal.index z ge_ fr_ z z hv113.sl u38.1 u38.2)) z (TA.b 8 z (bd_ tz_ z ni_ fr_ z (q:=0) z d1_ (by omega) (by omega)) z (Ψ 9 z (neqSt (p:=(nth l122 (k105+k125) tz_)=(nth l122 (k105+(IntKind.i64.wrap ((k125:Int) - 1)).toNat) tz_)) z z z eg76 (es76 (nth l122 (k105+k125) tz_) (nth l122 (k105+(IntKind.i64.wrap ((k125:Int) - 1)).toNat) tz_)) z) z (TA.dn (S.n (TC.cD z hh (fun h131 hh=> ?_) (fun h131 hh=> ?_))))))))))))))
     ·refine ξ (TL.s z z (θ z z (TL.s z z (θ z z ?_))))
      obtain ⟨u45,hh⟩:=d6_ hh
      refine ω z (elVw hv113 (by omega) (af_ z ge_ fr_ z z hv113.sl (by omega))) (ω z (bd_ tz_ z ni_ fr_ z (q:=0) z d1_ (by omega) (by omega)) ?_)
      obtain ⟨u47,hh⟩:=d6_ hh
      refine TL.isSl (i:=0) z (fun hs132 _ _=> ?_)
      refine ω z (af_ z ge_ fr_ z z hs132 (by omega)) ?_
      have hn133:(l122.set k124 (nth l122 (k105+k125) tz_)).length=x0.length:=by rw [ls_];exact hn123
      refine ζ z (ay_ (nth l122 (k105+k125) tz_) z fr_ z z z z d1_ fc_ (by omega) (by omega) ?_)
      exact κ (π (θ z z (ω z (OpVal.succ z z z (by omega)) (θ z z (TL.nil (B.n (S.n (cf (((l122.set k124 (nth l122 (k105+k125) tz_)),(k124+1)),()) ⟨hh,hn133⟩ (Sub.pre 1 z)))))))))
     exact ι (B.n (S.n (cf ((l122,k124),()) ⟨hh,hn123⟩ (Sub.pre 1 z))))
    skip
    obtain ⟨⟨l128,k130⟩,_⟩:=g
    obtain ⟨hh,hn129⟩:=hg
    try dsimp only at hn129 ⊢
    dsimp only [Fl_]at hh
    refine η (i:=0) z (fun _ hb134 _=> ?_)
    refine π (θ z z (ω z (OpVal.succ z z z (by omega)) (θ z z (κ ?_))))
    obtain ⟨hh,hlt135⟩:=ey_ hR2 hh
    exact lf ((l128,k130,(k125+1)),()) hlt135 ⟨hh,hn129⟩ (Sub.pre 1 z)
   refine TC.exit (S.x (S.x ?_))
   replace hh:=el_ hR2 hh
   refine Δ (S.n (ξ (TL.s z z (θ z z ?_))))
   obtain ⟨u57,hh⟩:=d6_ hh
   refine TL.isSl (i:=0) z (fun hs136 _ _=> ?_)
   rw [hn123]at hs136
   obtain ⟨a136,c136,hv136,ho136⟩:=vw_of (k:=k124) (size:=2) hs136 (by omega)
   refine ω z (ho136 z ge_ fr_ z z) ?_
   have hn137:(l122.take k124++replicate (l122.length - k124) tz_).length=x0.length:=by simp only [la_,List.length_take,lr_];try simp only [lr_]at *;omega
   refine ζ z (dg_ (k:=k124) tz_ z ge_ ik_ z z hv136 (by omega) (by omega) d1_ (by decide) z fc_ ?_)
   refine κ (ξ (TL.s z z (θ z z ?_)))
   rw [←hn137]
   obtain ⟨u61,hh⟩:=d6_ hh
   refine ζ z (cutS z ge_ fr_ z z z z z (by omega) d1_ ?_)
   refine TL.s z z (κ (TC.ret (B.r (S.r (S.r ?_)))))
   replace hh:=el_ hR1 hh
   refine B.r (S.r ?_)
   obtain rfl:=so hh
   exact ro [ε 76 2 d2_ (.slice a0_1 ((l122.take k124++replicate (l122.length - k124) tz_).take k124).length c0_2) ((l122.take k124++replicate (l122.length - k124) tz_).take k124)] z (RVs.tmp z RVs.nil) ⟨a0_1,c0_2,z,z,z⟩
  refine ι (B.n (S.n (π (θ z z (ω z (OpVal.succ z z z (by omega)) (θ z z (κ ?_)))))))
  obtain ⟨hh,hlt138⟩:=ey_ hR1 hh
  exact lf ((k105+1),()) hlt138 hh (Sub.pre 1 z)
 refine TC.exit (S.x (S.x ?_))
 replace hh:=el_ hR1 hh
 refine Δ (S.n (ξ (TL.s z z (TL.s z z (κ (TC.ret ?_))))))
 obtain rfl:=so hh
 exact ro [ε 76 2 d2_ (.slice a0_1 x0.length c0_2) x0] z (RVs.tmp z RVs.nil) ⟨a0_1,c0_2,z,z,z⟩
theorem Il_{σ:d0_}{a:Option Addr}{c:Nat}{l:List Arc}(hl:RS σ 8 d8_ (.slice a l.length c) l)(hsz:l.length * 72≤140737488355328):
  Con prog 136 #[.slice a l.length c] σ [] (RowP 66 8 d8_ l σ):=by
 have hb:=hl.rv.big
 refine Con.mk (n:=8) Tryz.func136 z z z (fun w0=> ?_)
 refine ξ (TL.s z z (TL.nilS 66 8 d8_ (κ (ν (ξ (TL.s z z (ω z (ce_ z h9_ z z) (κ (TC.cond z (fun h2=> ?_) (fun h2=> ?_))))))))))
 ·refine ξ (TL.s z z (TL.nilS 66 8 d8_ (κ (TC.ret (S.r ?_)))))
  cases a with
  |some _=>simp at h2
  |none=>
   obtain rfl:=hl.ch_
   exact ret1R z z
 refine ι (S.n (ξ (ζ z (lit0 (enc:=d8_) z z h9_ g5_ z z (fun a4 c5=> ?_)))))
 refine TL.s z z (ζ z (av_ z z h9_ g5_ z8_ ki_ z z (by decide) z z z (.inl hl) (by simpa using hsz) (by decide) (fun a7 c8=> ?_)))
 exact TL.s z z (κ (TC.ret (ret1R z z)))
def Fo_(k125:Nat)(l128:List Arc)(k130:Nat):Option (((List Arc)×Nat×Nat)⊕((Nat)⊕((List Arc)))):=
 nxt (l128,k130,(k125+1))
def Fn_(x0:List Arc)(k105:Nat)(l122:List Arc)(k124:Nat)(k125:Nat):Option (((List Arc)×Nat×Nat)⊕((Nat)⊕((List Arc)))):=
 ec_ (decide ((k125:Int)<(((x0.length - k105):Nat):Int))) (grd (k125<(x0.length - k105)) (grd (0≤(IntKind.i64.wrap ((k125:Int) - 1))∧(IntKind.i64.wrap ((k125:Int) - 1))<((x0.length - k105):Nat)) (ec_ (decide (¬ ((nth l122 (k105+k125) az_)=(nth l122 (k105+(IntKind.i64.wrap ((k125:Int) - 1)).toNat) az_)))) (grd (k125<(x0.length - k105)) (grd (k124<l122.length) (Fo_ k125 (l122.set k124 (nth l122 (k105+k125) az_)) (k124+1)))) (Fo_ k125 l122 k124)))) (fin (grd (k124≤x0.length) (grd (k124≤(l122.take k124++replicate (l122.length - k124) az_).length) (fin (some ((l122.take k124++replicate (l122.length - k124) az_).take k124))))))
def Fr_(x0:List Arc)(k105:Nat):Option ((Nat)⊕((List Arc))):=
 ec_ (decide ((k105:Int)<((x0.length:Nat):Int))) (grd (0≤(IntKind.i64.wrap ((k105:Int) - 1))∧(IntKind.i64.wrap ((k105:Int) - 1))<(x0.length:Int)) (ec_ (decide ((nth x0 k105 az_)=(nth x0 ((IntKind.i64.wrap ((k105:Int) - 1)).toNat) az_))) (grd (k105≤x0.length) (eq_ (fun q:(List Arc)×Nat×Nat=>Fn_ x0 k105 q.1 q.2.1 q.2.2) (x0,k105,1))) (nxt (k105+1)))) (fin (some x0))
def np_(x0:List Arc):Option ((List Arc)):=
 ec_ (decide (((x0.length:Nat):Int)<2)) (some x0) (eq_ (fun q:Nat=>Fr_ x0 q) 1)
theorem H6_{σ:d0_}{x0:List Arc}{r:(List Arc)}(hh:np_ x0=some r):
  Con prog 138 #[.slice a0_1 x0.length c0_2] σ [ε 66 8 d8_ (.slice a0_1 x0.length c0_2) x0] (fun v σ' H'=> ∃a1 c1,v= .slice a1 r.length c1∧σ=σ'∧H'=[ε 66 8 d8_ (.slice a1 r.length c1) r]):=by
 dsimp only [np_]at hh
 refine Con.mk (n:=61) Tryz.func138 z z z (fun w0=> ?_)
 refine ξ (TL.s z z (κ (ν (ξ (TL.s z z (ω z (lenC z h9_ z) (ω z (OpVal.lss z z z) (κ (TC.cD z hh (fun h102 hh=> ?_) (fun h102 hh=> ?_))))))))))
 ·refine ξ (TL.s z z (TL.s z z (κ (TC.ret (S.r ?_)))))
  obtain rfl:=so hh
  exact ro [ε 66 8 d8_ (.slice a0_1 x0.length c0_2) x0] z (RVs.tmp z RVs.nil) ⟨a0_1,c0_2,z,z,z⟩
 refine ι (S.n (ν (ξ (θ z z (κ (υ (TC.ao_ (α:=(Nat)×(Unit)) (rgs [(2,4),(10,50)]) (fun g=>[(3,.int .i64 ((g.1:Nat):Int))]) (fun g=>[ε 66 8 d8_ (.slice a0_1 x0.length c0_2) x0]) (fun g=>σ) (fun g=>eq_ (fun q:Nat=>Fr_ x0 q) g.1=some r) (fun g=>eh_ (fun q:Nat=>Fr_ x0 q) g.1) (1,()) (Sub.pre 1 z) z (by repeat (first|exact trivial|refine ⟨z,?_⟩)) hh (fun g1 j1 hg1=> ?_))))))))
 obtain ⟨k105,_⟩:=g1
 have hh:=hg1;clear hg1
 try dsimp only
 obtain ⟨z1,hh,hR1⟩:=eo_ hh
 dsimp only [Fr_]at hh
 refine η (i:=0) z (fun _ hb106 _=> ?_)
 refine ν (ξ (θ z z (TL.s z z (ω z (lenC z h9_ z) (ω z (OpVal.lss z z z) (κ (TC.cD z hh (fun h107 hh=> ?_) (fun h107 hh=> ?_))))))))
 ·refine ι (S.n (ν (υ (ν ?_))))
  obtain ⟨u19,hh⟩:=d6_ hh
  refine TC.draw [] (by kernel_rfl) (Ψ 0 z (aj_ (.inl z) z) z (Ψ 1 z (ai_ (.inl z) z) z (TA.isSl (i:=0) z (fun hs110 _ _=> ?_))))
  refine TA.b 2 z (af_ z h9_ g5_ z z hs110 (by omega)) z (TA.b 3 z (bd_ az_ z r7_ g5_ z (q:=0) z ee_ (by omega) (by omega)) z (Ψ 4 z (aj_ (.inl z) z) z (Ψ 5 z (ai_ (.inl z) z) z (Ψ 6 z (subW z z z) z (TA.isSl (i:=0) z (fun hs111 _ _=> ?_))))))
  refine TA.b 7 z (OpVal.index z h9_ g5_ z z hs111 u19.1 u19.2) z (TA.b 8 z (bd_ az_ z r7_ g5_ z (q:=0) z ee_ (by omega) (by omega)) z (Ψ 9 z (eqlSt (p:=(nth x0 k105 az_)=(nth x0 ((IntKind.i64.wrap ((k105:Int) - 1)).toNat) az_)) z z z eg66 (es66 (nth x0 k105 az_) (nth x0 ((IntKind.i64.wrap ((k105:Int) - 1)).toNat) az_)) z) z (TA.dn (S.n (TC.cD z hh (fun h112 hh=> ?_) (fun h112 hh=> ?_))))))
  ·refine ξ (TL.s z z (θ z z ?_))
   obtain ⟨u24,hh⟩:=d6_ hh
   refine TL.isSl (i:=0) z (fun hs113 _ _=> ?_)
   obtain ⟨a113,c113,hv113,ho113⟩:=vw_of (k:=k105) (size:=8) hs113 (by omega)
   refine ω z (ho113 z h9_ g5_ z z) (TL.s z z (κ (ν (ξ (θ z z (κ (υ (TC.ao_ (α:=((List Arc)×Nat×Nat)×(Unit)) (rgs [(3,1),(5,1),(29,25)]) (fun g=>[(3,.int .i64 ((g.1.2.1:Nat):Int)),(5,.int .i64 ((g.1.2.2:Nat):Int))]) (fun g=>[ε 66 8 d8_ (.slice a0_1 x0.length c0_2) g.1.1]) (fun g=>σ) (fun g=>eq_ (fun q:(List Arc)×Nat×Nat=>Fn_ x0 k105 q.1 q.2.1 q.2.2) g.1=some z1∧g.1.1.length=x0.length) (fun g=>eh_ (fun q:(List Arc)×Nat×Nat=>Fn_ x0 k105 q.1 q.2.1 q.2.2) g.1) ((x0,k105,1),()) (Sub.pre 1 z) z (by repeat (first|exact trivial|refine ⟨z,?_⟩)) ⟨hh,z⟩ (fun g2 j2 hg2=> ?_)))))))))
   obtain ⟨⟨l122,k124,k125⟩,_⟩:=g2
   obtain ⟨hh,hn123⟩:=hg2
   try dsimp only at hn123 ⊢
   obtain ⟨z2,hh,hR2⟩:=eo_ hh
   dsimp only [Fn_]at hh
   refine η (i:=0) z (fun _ hb126 _=> ?_)
   refine ν (ξ (θ z z (TL.s z z (ω z (lenC z h9_ z) (ω z (OpVal.lss z z z) (κ (TC.cD z hh (fun h127 hh=> ?_) (fun h127 hh=> ?_))))))))
   ·refine ι (S.n (TC.cutG (α:=((List Arc)×Nat)×(Unit)) (rgs [(3,1),(35,19)]) (fun g=>[(3,.int .i64 ((g.1.2:Nat):Int))]) (fun g=>[ε 66 8 d8_ (.slice a0_1 x0.length c0_2) g.1.1]) (fun g=>σ) (fun g=>Fo_ k125 g.1.1 g.1.2=some z2∧g.1.1.length=x0.length) ?_ (fun g j hg=> ?_)))
    ·skip
     refine υ (ν ?_)
     obtain ⟨u33,hh⟩:=d6_ hh
     obtain ⟨u38,hh⟩:=d6_ hh
     refine TC.draw [] (by kernel_rfl) (Ψ 0 z (aj_ (.inl z) z) z (Ψ 1 z (ai_ (.inl z) z) z (TA.b 2 z (elVw hv113 (by omega) (af_ z h9_ g5_ z z hv113.sl (by omega))) z (TA.b 3 z (bd_ az_ z r7_ g5_ z (q:=0) z ee_ (by omega) (by omega)) z (Ψ 4 z (aj_ (.inl z) z) z (Ψ 5 z (ai_ (.inl z) z) z (Ψ 6 z (subW z z z) z (TA.b 7 z (elVw hv113 (by omega) (OpVal.index z h9_ g5_ z z hv113.sl u38.1 u38.2)) z (TA.b 8 z (bd_ az_ z r7_ g5_ z (q:=0) z ee_ (by omega) (by omega)) z (Ψ 9 z (neqSt (p:=(nth l122 (k105+k125) az_)=(nth l122 (k105+(IntKind.i64.wrap ((k125:Int) - 1)).toNat) az_)) z z z eg66 (es66 (nth l122 (k105+k125) az_) (nth l122 (k105+(IntKind.i64.wrap ((k125:Int) - 1)).toNat) az_)) z) z (TA.dn (S.n (TC.cD z hh (fun h131 hh=> ?_) (fun h131 hh=> ?_))))))))))))))
     ·refine ξ (TL.s z z (θ z z (TL.s z z (θ z z ?_))))
      obtain ⟨u45,hh⟩:=d6_ hh
      refine ω z (elVw hv113 (by omega) (af_ z h9_ g5_ z z hv113.sl (by omega))) (ω z (bd_ az_ z r7_ g5_ z (q:=0) z ee_ (by omega) (by omega)) ?_)
      obtain ⟨u47,hh⟩:=d6_ hh
      refine TL.isSl (i:=0) z (fun hs132 _ _=> ?_)
      refine ω z (af_ z h9_ g5_ z z hs132 (by omega)) ?_
      have hn133:(l122.set k124 (nth l122 (k105+k125) az_)).length=x0.length:=by rw [ls_];exact hn123
      refine ζ z (ay_ (nth l122 (k105+k125) az_) z g5_ z z z z ee_ f5_ (by omega) (by omega) ?_)
      exact κ (π (θ z z (ω z (OpVal.succ z z z (by omega)) (θ z z (TL.nil (B.n (S.n (cf (((l122.set k124 (nth l122 (k105+k125) az_)),(k124+1)),()) ⟨hh,hn133⟩ (Sub.pre 1 z)))))))))
     exact ι (B.n (S.n (cf ((l122,k124),()) ⟨hh,hn123⟩ (Sub.pre 1 z))))
    skip
    obtain ⟨⟨l128,k130⟩,_⟩:=g
    obtain ⟨hh,hn129⟩:=hg
    try dsimp only at hn129 ⊢
    dsimp only [Fo_]at hh
    refine η (i:=0) z (fun _ hb134 _=> ?_)
    refine π (θ z z (ω z (OpVal.succ z z z (by omega)) (θ z z (κ ?_))))
    obtain ⟨hh,hlt135⟩:=ey_ hR2 hh
    exact lf ((l128,k130,(k125+1)),()) hlt135 ⟨hh,hn129⟩ (Sub.pre 1 z)
   refine TC.exit (S.x (S.x ?_))
   replace hh:=el_ hR2 hh
   refine Δ (S.n (ξ (TL.s z z (θ z z ?_))))
   obtain ⟨u57,hh⟩:=d6_ hh
   refine TL.isSl (i:=0) z (fun hs136 _ _=> ?_)
   rw [hn123]at hs136
   obtain ⟨a136,c136,hv136,ho136⟩:=vw_of (k:=k124) (size:=8) hs136 (by omega)
   refine ω z (ho136 z h9_ g5_ z z) ?_
   have hn137:(l122.take k124++replicate (l122.length - k124) az_).length=x0.length:=by simp only [la_,List.length_take,lr_];try simp only [lr_]at *;omega
   refine ζ z (dg_ (k:=k124) az_ z h9_ ki_ z z hv136 (by omega) (by omega) ee_ (by decide) z f5_ ?_)
   refine κ (ξ (TL.s z z (θ z z ?_)))
   rw [←hn137]
   obtain ⟨u61,hh⟩:=d6_ hh
   refine ζ z (cutS z h9_ g5_ z z z z z (by omega) ee_ ?_)
   refine TL.s z z (κ (TC.ret (B.r (S.r (S.r ?_)))))
   replace hh:=el_ hR1 hh
   refine B.r (S.r ?_)
   obtain rfl:=so hh
   exact ro [ε 66 8 d8_ (.slice a0_1 ((l122.take k124++replicate (l122.length - k124) az_).take k124).length c0_2) ((l122.take k124++replicate (l122.length - k124) az_).take k124)] z (RVs.tmp z RVs.nil) ⟨a0_1,c0_2,z,z,z⟩
  refine ι (B.n (S.n (π (θ z z (ω z (OpVal.succ z z z (by omega)) (θ z z (κ ?_)))))))
  obtain ⟨hh,hlt138⟩:=ey_ hR1 hh
  exact lf ((k105+1),()) hlt138 hh (Sub.pre 1 z)
 refine TC.exit (S.x (S.x ?_))
 replace hh:=el_ hR1 hh
 refine Δ (S.n (ξ (TL.s z z (TL.s z z (κ (TC.ret ?_))))))
 obtain rfl:=so hh
 exact ro [ε 66 8 d8_ (.slice a0_1 x0.length c0_2) x0] z (RVs.tmp z RVs.nil) ⟨a0_1,c0_2,z,z,z⟩
def wp_(x0:List Tip):Option ((List Tip)):=
 grd (x0.length * 24≤140737488355328) (bnd (kc_ (g3_ e0_ x0)) (fun v9=>some v9))
def I0_(σ:d0_)(r:(List Tip)):Value→d0_→List Res→Prop:=fun v σ' H'=>
 ∃a1 c1,v= .slice a1 r.length c1∧σ=σ'∧H'=[ε 76 2 d2_ (.slice a1 r.length c1) r]
theorem Hx_{σ:d0_}{x0:List Tip}(f0_0:RS σ 2 d2_ (.slice a0_0 x0.length c0_0) x0){r:(List Tip)}(hh:wp_ x0=some r):
  Con prog 95 #[.slice a0_0 x0.length c0_0,.func (.func 96) #[] #[]] σ [] (I0_ σ r):=by
 dsimp only [wp_]at hh
 have f0_0b:=f0_0.rv.big
 refine Con.mk (n:=13) Tryz.func95 z z z (fun w0=> ?_)
 refine ξ (TL.s z z (κ (ξ (TL.s z z ?_))))
 obtain ⟨u3,hh⟩:=d6_ hh
 refine ζ z (OpOk.call (Hk_ f0_0 u3) z z pf88 z z z z ?_)
 rintro _ _ _ _ ⟨⟨a101,c102,rfl⟩,rfl,rfl⟩
 refine TL.s z z (κ (ξ (TL.s z z (ω z (bp_ (.inl z) z) ?_))))
 have hn104:(g3_ e0_ x0).length=x0.length:=List.length_mergeSort _
 refine ζ z (OpOk.call (Ir_ (l:=x0)) z z pf124 z z z z ?_)
 rintro _ _ _ _ ⟨rfl,rfl,rfl⟩
 refine κ (ξ (TL.s z z ?_))
 rw [←hn104]
 obtain ⟨v9,u9,hh⟩:=eb_ hh
 refine ζ z (OpOk.call (G1_ u9) z z pf126 z z z z ?_)
 rintro _ _ _ hle105 ⟨a105_1,c105_2,rfl,rfl,rfl⟩
 refine TL.s z z (κ (TC.ret ?_))
 obtain rfl:=so hh
 exact ro [ε 76 2 d2_ (.slice a105_1 v9.length c105_2) v9] z (RVs.tmp z RVs.nil) ⟨a105_1,c105_2,z,z,z⟩
def z3_(x0:List Arc):Option ((List Arc)):=
 grd (x0.length * 72≤140737488355328) (bnd (np_ (g3_ in_ x0)) (fun v9=>some v9))
def I2_(σ:d0_)(r:(List Arc)):Value→d0_→List Res→Prop:=fun v σ' H'=>
 ∃a1 c1,v= .slice a1 r.length c1∧σ=σ'∧H'=[ε 66 8 d8_ (.slice a1 r.length c1) r]
theorem It_{σ:d0_}{x0:List Arc}(f0_0:RS σ 8 d8_ (.slice a0_0 x0.length c0_0) x0){r:(List Arc)}(hh:z3_ x0=some r):
  Con prog 97 #[.slice a0_0 x0.length c0_0,.func (.func 98) #[] #[]] σ [] (I2_ σ r):=by
 dsimp only [z3_]at hh
 have f0_0b:=f0_0.rv.big
 refine Con.mk (n:=13) Tryz.func97 z z z (fun w0=> ?_)
 refine ξ (TL.s z z (κ (ξ (TL.s z z ?_))))
 obtain ⟨u3,hh⟩:=d6_ hh
 refine ζ z (OpOk.call (Il_ f0_0 u3) z z pf136 z z z z ?_)
 rintro _ _ _ _ ⟨⟨a101,c102,rfl⟩,rfl,rfl⟩
 refine TL.s z z (κ (ξ (TL.s z z (ω z (bp_ (.inl z) z) ?_))))
 have hn104:(g3_ in_ x0).length=x0.length:=List.length_mergeSort _
 refine ζ z (OpOk.call (Io_ (l:=x0)) z z pf137 z z z z ?_)
 rintro _ _ _ _ ⟨rfl,rfl,rfl⟩
 refine κ (ξ (TL.s z z ?_))
 rw [←hn104]
 obtain ⟨v9,u9,hh⟩:=eb_ hh
 refine ζ z (OpOk.call (H6_ u9) z z pf138 z z z z ?_)
 rintro _ _ _ hle105 ⟨a105_1,c105_2,rfl,rfl,rfl⟩
 refine TL.s z z (κ (TC.ret ?_))
 obtain rfl:=so hh
 exact ro [ε 66 8 d8_ (.slice a105_1 v9.length c105_2) v9] z (RVs.tmp z RVs.nil) ⟨a105_1,c105_2,z,z,z⟩
def B5_(x0:Fst):Option (Fst×Int):=
 bnd (B8_ x0) (fun v5=>ec_ (decide (v5≠0)) (some ((⟨0,([]:List Tip),([]:List Tip),([]:List Arc)⟩:Fst),1)) (bnd (wp_ x0.starts) (fun v14=>bnd (wp_ x0.ends) (fun v17=>bnd (z3_ x0.arcs) (fun v20=>some ((⟨x0.states,v14,v17,v20⟩:Fst),0))))))
def Ii_(σ:d0_)(r:Fst×Int):Value→d0_→List Res→Prop:=fun v σ' H'=>
 ∃a1 c1 a2 c2 a3 c3,v= .tuple #[.agg (au_ r.1 a1 c1 a2 c2 a3 c3),.int .i64 r.2]∧RS σ' 2 d2_ (.slice a1 r.1.starts.length c1) r.1.starts∧RS σ' 2 d2_ (.slice a2 r.1.ends.length c2) r.1.ends∧RS σ' 8 d8_ (.slice a3 r.1.arcs.length c3) r.1.arcs∧H'=[]
theorem Gz_{σ:d0_}{x0:Fst}(f0_0:RS σ 2 d2_ (.slice a0_0 x0.starts.length c0_0) x0.starts)(f0_1:RS σ 2 d2_ (.slice a0_1 x0.ends.length c0_1) x0.ends)(f0_2:RS σ 8 d8_ (.slice a0_2 x0.arcs.length c0_2) x0.arcs){r:Fst×Int}(hh:B5_ x0=some r):
  Con prog 56 #[.agg (au_ x0 a0_0 c0_0 a0_1 c0_1 a0_2 c0_2)] σ [] (Ii_ σ r):=by
 dsimp only [B5_]at hh
 have f0_0b:=f0_0.rv.big
 have f0_1b:=f0_1.rv.big
 have f0_2b:=f0_2.rv.big
 refine Con.mk (n:=20) Tryz.func56 z z z (fun w0=> ?_)
 refine ξ (ζ z (boxA z z z z (fun b101=> ?_)))
 refine ζ z (OpOk.alloc z m2_ z z (fun b103=> ?_))
 refine θ z z (κ (ν (ξ (ω z (ak_ z jc_ hi_ z (i:=1) z z) ?_))))
 obtain ⟨v5,u5,hh⟩:=eb_ hh
 refine ζ z (aw_ (C7_ (x0:=x0) f0_0 f0_1 f0_2 u5) z z z7_ z z z ?_)
 refine ω z (OpVal.neq z z z) (κ (TC.cD z hh (fun h105 hh=> ?_) (fun h105 hh=> ?_)))
 ·refine ξ (ω z (an_ z tx_ m2_ z) (ζ z (storeAll z hi_ z z z z z z ?_)))
  refine θ z z (κ (TC.rt 1 (S.r ?_)))
  obtain rfl:=so hh
  exact ro [] z (RVs.agg jc_ hi_ z (i:=0) z z (RVs.tmp z RVs.nil)) ⟨none,0,none,0,none,0,z,(RS.nilF _ d2_ d1_),(RS.nilF _ d2_ d1_),(RS.nilF _ d8_ ee_),z⟩
 refine ι (S.n (ν ?_))
 obtain ⟨v14,u14,hh⟩:=eb_ hh
 obtain ⟨v17,u17,hh⟩:=eb_ hh
 obtain ⟨v20,u20,hh⟩:=eb_ hh
 refine TC.draw [12,13] (by kernel_rfl) (Ψ 0 z (aa_ z fa_ z) z (TA.b 1 z (ab_ z ag3 z (i:=1) z z) z (Ψ 2 z (aa_ z f2_ z) z (TA.b 3 z (ab_ z jv_ z (i:=1) z z) z (Ψ 5 z (aa_ z f6_ z) z (TA.b 6 z (ab_ z jv_ z (i:=1) z z) z (Ψ 8 z (aa_ z fk_ z) z (TA.b 9 z (ab_ z k0_ z (i:=1) z z) z (TA.ac 4 z (OpOk.call (Hx_ f0_0 u14) z z pf95 z z z z ?_))))))))))
 rintro _ _ _ hle112 ⟨a112_1,c112_1,rfl,rfl,rfl⟩
 refine k1 (TA.ac 7 z (OpOk.call (Hx_ f0_1 u17) z z pf95 z z z z ?_))
 rintro _ _ _ hle114 ⟨a114_1,c114_1,rfl,rfl,rfl⟩
 refine k2 (TA.ac 10 z (OpOk.call (It_ f0_2 u20) z z pf97 z z z z ?_))
 rintro _ _ _ hle116 ⟨a116_1,c116_1,rfl,rfl,rfl⟩
 refine k3 (Ψ 11 z (an_ z tx_ m2_ z) z (TA.front 3 z z (TA.last 12 (by kernel_rfl) z z z (storeAll z hi_ z z z z z z ?_))))
 refine TZ.v 13 (by kernel_rfl) z z z (ai_ (.inr z) z) z z (TZ.done (by kernel_rfl) (S.n (TC.front 3 z z (TC.a3_ d1_ (fun τ120 hle119 hr118=> ?_)))))
 have hr118b:=hr118.rv.big
 refine TC.front 2 z z (TC.a3_ d1_ (fun τ123 hle122 hr121=> ?_))
 replace hr118:=hr118.mono hle122
 have hr121b:=hr121.rv.big
 refine TC.front 1 z z (TC.a3_ ee_ (fun τ126 hle125 hr124=> ?_))
 replace hr118:=hr118.mono hle125
 replace hr121:=hr121.mono hle125
 have hr124b:=hr124.rv.big
 refine TC.rt 1 ?_
 obtain rfl:=so hh
 exact ro [] z (RVs.agg jc_ hi_ z (i:=0) z z (RVs.tmp z RVs.nil)) ⟨a112_1,c112_1,a114_1,c114_1,a116_1,c116_1,z,hr118,hr121,hr124,z⟩
end Go.Proofs.YtchebnpdnfhenaaGreatDoor
end

noncomputable section
namespace Go.E
open Go
structure Dfa where
  cls:List Int
  next:List (List Int)
  fin:List Bool
def Dfa.zero:Dfa:=⟨[],[],[]⟩
structure DfaP where
  a1:Option Addr
  c1:Nat
  a2:Option Addr
  c2:Nat
  a3:Option Addr
  c3:Nat
def DfaP.zero:DfaP:=⟨none,0,none,0,none,0⟩
structure RDfa (σ:d0_) (x:Dfa) (p:DfaP):Prop where
  c:RS σ 1 eI_ (.slice p.a1 x.cls.length p.c1) x.cls
  n:RZ σ (ea_ 1 eI_ ep_) (.slice p.a2 x.next.length p.c2) x.next
  e:RS σ 1 e1_ (.slice p.a3 x.fin.length p.c3) x.fin
structure Seq where
  front:List UInt8
  next:List (List Int)
  outs:List (List (List UInt8))
  fin:List Bool
  tail:List (List UInt8)
def Seq.zero:Seq:=⟨[],[],[],[],[]⟩
structure SeqP where
  a1:Option Addr
  c1:Nat
  a2:Option Addr
  c2:Nat
  a3:Option Addr
  c3:Nat
  a4:Option Addr
  c4:Nat
def SeqP.zero:SeqP:=⟨none,0,none,0,none,0,none,0⟩
structure RSeq (σ:d0_) (x:Seq) (p:SeqP):Prop where
  n:RZ σ (ea_ 1 eI_ ep_) (.slice p.a1 x.next.length p.c1) x.next
  o:RZ σ (ea_ 1 eS_ es_) (.slice p.a2 x.outs.length p.c2) x.outs
  e:RS σ 1 e1_ (.slice p.a3 x.fin.length p.c3) x.fin
  t:RS σ 1 eS_ (.slice p.a4 x.tail.length p.c4) x.tail
def Seq.enc(x:Seq)(p:SeqP):List Value:=[.string (bs x.front),.slice p.a1 x.next.length p.c1,.slice p.a2 x.outs.length p.c2,.slice p.a3 x.fin.length p.c3,.slice p.a4 x.tail.length p.c4]
structure Rule where
  of:Dfa
  left:Dfa
  right:Dfa
  out:List UInt8
  mapped:Bool
  by':Seq
def Rule.zero:Rule:=⟨Dfa.zero,Dfa.zero,Dfa.zero,[],false,Seq.zero⟩
structure RuleP where
  of:DfaP
  left:DfaP
  right:DfaP
  by':SeqP
def RuleP.zero:RuleP:=⟨DfaP.zero,DfaP.zero,DfaP.zero,SeqP.zero⟩
structure RRule (σ:d0_) (x:Rule) (p:RuleP):Prop where
  o:RDfa σ x.of p.of
  l:RDfa σ x.left p.left
  r:RDfa σ x.right p.right
  b:RSeq σ x.by' p.by'
structure SB where
  buf:List UInt8
structure Turned where
  b:SB
  at':List Span
structure How where
  r:Rule
structure Piece where
  text:List UInt8
  at':List Span
def Piece.zero:Piece:=⟨[],[]⟩
abbrev aq_(x:Seq)(a1:Option Addr)(c1:Nat)(a2:Option Addr)(c2:Nat)(a3:Option Addr)(c3:Nat)(a4:Option Addr)(c4:Nat):Array Value:=#[.string (bs x.front),.slice a1 x.next.length c1,.slice a2 x.outs.length c2,.slice a3 x.fin.length c3,.slice a4 x.tail.length c4]
abbrev cq_(b:Nat)(x:Seq)(a1:Option Addr)(c1:Nat)(a2:Option Addr)(c2:Nat)(a3:Option Addr)(c3:Nat)(a4:Option Addr)(c4:Nat):Res:=φ b (aq_ x a1 c1 a2 c2 a3 c3 a4 c4) 32
def GT{α:Type}(σ:d0_)(g:Nat)(enc:α→List Value)(l:List α):Prop:= ∃E,σ g=some (.cells (l.flatMap enc).toArray E)
theorem GT.mono{α:Type}{σ τ:d0_}{g:Nat}{enc:α→List Value}{l:List α}(h:GT σ g enc l)(hle:σ.le τ):GT τ g enc l:=let ⟨E,h⟩:=h;⟨E,hle _ _ h⟩
theorem vc_{α:Type}{enc:α→List Value}(hl: ∀x,(enc x).length=1)(d:α): ∀(l:List α) (i:Nat),i<l.length→(l.flatMap enc)[i]? =(enc (nth l i d))[0]?
  |[],i,h=>by simp at h
  |x::l,0,_=>by
    have:=hl x
    rw [List.flatMap_cons,List.getElem?_append_left (by omega)]
    simp [nth]
  |x::l,i+1,h=>by
    have h1:=hl x
    rw [List.flatMap_cons,List.getElem?_append_right (by omega),h1,Nat.add_sub_cancel,vc_ hl d l i (by simpa using h)]
    simp [nth]
def deB:List UInt8:=[0,1,56,2,57,49,28,3,61,58,42,50,38,29,17,4,62,47,59,36,45,43,51,22,53,39,33,30,24,18,12,5,63,55,48,27,60,41,37,16,46,35,44,21,52,32,23,11,54,26,40,15,34,20,31,10,25,14,19,9,13,8,7,6]
def mi_(u:Bool)(b:Nat):Value:=match u with|true=>loc b 0|false=> .pointer none
theorem ol_{b E:Nat}{cs:Array Value}{w:World}(h:(φ b cs E).holds w):w.shape? b=some (E,cs.size):=by
  have h1:w.heap[b]? =some (.cells cs E (0,0)):=h
  simp [World.shape?,h1]
section
variable {P:Program} {n:Nat} {e:Env} {σ:d0_} {H:List Res} {o:Oper} {x y:Operand}
theorem OpVal.cvtUns{S T t b E i sz m:Nat}{cs:Array Value}(ho:o.op= .convert S T x)(hS:P.underlying S=some (.pointer t))(hT:P.underlying T=some .unsafePointer)(hs:szOf P t=some sz)(h0:sz≠0)
    (hx:ev e x=loc b 0) (hi:H[i]? =some (φ b cs E)) (hm:cs.size=m) (hc:0<m):OpVal P n o e σ H (loc b 0):=fun w hw=>by
  obtain ⟨j,hj,hjs⟩:=hx_ hs
  have hsh:=ol_ (hw.2 _ (List.mem_of_getElem? hi))
  have h:=Lib.run_to_unsafe (P:=P) (w:=w) (cells:=cs.size) ⟨b,0,none⟩ hS hT hj (by rw [hjs];exact h0) hsh (by rw [hm];exact hc)
  simp [execOp,ho,hx,loc,h]
theorem OpVal.cvtPtr{S T t b E i sz m:Nat}{cs:Array Value}(ho:o.op= .convert S T x)(hS:P.underlying S=some .unsafePointer)(hT:P.underlying T=some (.pointer t))(hs:szOf P t=some sz)
    (hx:ev e x=loc b 0) (hi:H[i]? =some (φ b cs E)) (hm:cs.size=m) (hl:liesAt P P.depth E (m / P.cellsOf E) 0 t 1=true):OpVal P n o e σ H (loc b 0):=fun w hw=>by
  obtain ⟨j,hj,hjs⟩:=hx_ hs
  have hsh:=ol_ (hw.2 _ (List.mem_of_getElem? hi))
  have h:=Lib.run_from_unsafe (P:=P) (w:=w) (cells:=cs.size) ⟨b,0,none⟩ hS hT hj hsh (by rw [hm];exact hl)
  simp [execOp,ho,hx,loc,h]
theorem OpVal.noEsc{p : Operand}{ts : Array TypeId}{J : FuncId}{fn : Func}{v : Value}(ho : o.op = .call { callee := .value x, args := #[p], argTypes := ts })(hx : ev e x = .func (.func J) #[] #[])(hf : P.funcs[J]? = some fn)(hname : (fn.name == "runtime.NumGoroutine") = false)
    (hb:fn.body.isNone=true) (hn:Extern.findNext fn=none) (he:Extern.find fn=some Extern.AbiNoEscape.same) (hp:ev e p=v):OpVal P n o e σ H v:=fun w _=>by
  have h:=run_callFunc_extern hf hname hb hn he #[v] w
  rw [Lib.run_noEscape]at h
  simp [execOp,ho,resolve,Deferred.ofValue,invoke,hx,hp,h,Result.andThen]
theorem OpVal.dr_{T T' t b sz:Nat}(ho:o.op= .binOp .neq T x y T')(hT:P.underlying T=some (.pointer t))(hs:szOf P t=some sz)(hx:ev e x=loc b 0)(hy:ev e y=loc b 0):OpVal P n o e σ H (.bool false):=fun w _=>by
  obtain ⟨j,hj,_⟩:=hx_ hs
  have h:=Lib.run_neq_ptr_same (P:=P) (w:=w) ⟨b,0,none⟩ hT hj
  simp only [execOp,ho,hx,hy,loc,Sem.run_bind,jy_,Result.andThen_ok]
  rw [h];rfl
end
theorem t1_(l:List UInt8):Lib.strCells (bs l)=l.flatMap e5_:=by
  have h: ∀l:List UInt8,l.map (fun b=>Value.int IntKind.u8 ((b.toNat:Nat):Int))=l.flatMap e5_:=fun l=>by
    induction l with
    |nil=>rfl
    |cons x l ih=>rw [List.map_cons,List.flatMap_cons,ih];rfl
  simp [Lib.strCells,bs]
  exact h l
theorem t9_ {P : Program} {w w' : World} (base : Nat) (t u ty e : TypeId) (i : TypeInfo) (ht : P.underlying t = some (.slice e)) (hu : P.underlying u = some .string) (hi : P.info? e = some i) (hz : i.zero = some (.int .u8 0))
    (hsize:i.size=1) (hby:i.bytes=1) {v v':Value} {n:Nat} {xs:List Value} (hown:w.ownsRow base e 1 v n xs) (s:ByteArray)
    (h63:n+s.size≤maxLen) (hbytes:n+s.size≤140737488355328) (hrun:(Builtin.append_ #[t,u] ty #[v,.string s]).run P w= .ok v' w'):
    (v'.ownBlock=v.ownBlock∨v'.ownBlock=some w.heap.size)∧w.drawn≤w'.drawn:=by
  have hsmall:n+s.size≤9223372036854775807:=by simp only [maxLen]at h63;omega
  have hxl:xs.length=n:=by simpa using hown.1
  rcases hown.2 with ⟨rfl,rfl⟩|⟨g,cap,cur,rfl,hbg,hg,hnc,hcm,hcs,htake⟩
  · by_cases hm:s.size=0
    · have hf:=Lib.run_firstCells_string (P:=P) (w:=w) 1 s
      rw [hm]at hf
      have hr:(Builtin.append_ #[t,u] ty #[.slice none 0 0,.string s]).run P w= .ok (.slice none 0 0) w:=by
        simp [Builtin.append_,run_underlying ht,run_underlying hu,sizeOf,typeInfo,hi,hsize,Builtin.lenOf,hm,hf]
      rw [hrun]at hr;cases hr;exact ⟨.inl rfl,Nat.le_refl _⟩
    have hr:=run_append_nil_string (P:=P) w t u ty e i (.int .u8 0) ht hu hi hz s (by omega) (by omega) (by rw [hby];omega)
    rw [hrun]at hr;cases hr;exact ⟨.inr rfl,Nat.le_succ _⟩
  by_cases hroom:n+s.size≤cap
  · have hcs':cur.size=cap:=by simpa using hcs
    have hr:=Lib.run_append_room_string (P:=P) (w:=w) t u ty e i ht hu hi hsize g n cap cur hg s hroom (by omega)
    rw [hrun]at hr;cases hr;exact ⟨.inl rfl,Nat.le_refl _⟩
  have holds: ∀j u,xs[j]? =some u→w.cell? ((⟨g,0,none⟩:Addr).add j)=some u:=hown.cells (g:=g) rfl
  have hr:=Lib.run_append_grow_string (P:=P) (w:=w) t u ty e i (.int .u8 0) ht hu hi hz ⟨g,0,none⟩ n cap xs (by rw [hsize];simpa using hxl) holds s (by omega) (by omega) (by rw [hby];exact growslice_fits (by omega) (by omega))
  rw [hrun]at hr;cases hr;exact ⟨.inr rfl,Nat.le_succ _⟩
theorem OpOk.cp_{X:Ctx}{e:Env}{σ:d0_}{F:List Res}{o:Oper}{x y:Operand}{K:Env→d0_→List Res→Prop}{T ty E d:Nat}{v:Value}{l m:List UInt8}
    (ho:o.op= .call {callee:= .builtin .append,args:= #[x,y],argTypes:= #[T,ty]}) (ht:X.P.underlying T=some (.slice E)) (hu:X.P.underlying ty=some .string) (hs:szOf X.P E=some 1) (hby:byOf X.P E=some 1) (hz:zeroOf X.P E=some (.int .u8 0))
    (hd:o.dst=some d) (hn:Nat.blt d X.n=true) (hx:ev e x=v) (hy:ev e y= .string (bs m)) (hb:l.length+m.length≤140737488355328)
    (k: ∀a c,K (upd e d (.slice a (l++m).length c)) σ (ε E 1 e5_ (.slice a (l++m).length c) (l++m)::F)):OpOk X o e σ (ε E 1 e5_ v l::F) K:=by
  obtain ⟨i,hi,hsi⟩:=hx_ hs
  have hiz:i.zero=some (.int .u8 0):=by simpa [zeroOf,hi]using hz
  have hib:i.bytes=1:=by simpa [byOf,hi]using hby
  intro u0 C0 τ0 w a hw ha K' Q hK
  obtain ⟨hown,hone,hbg⟩:=hw.holds _ (mc_ ..)
  have hsz:(bs m).size=m.length:=by show (bs m).data.size=_;simp [bs]
  have h1:l.length+(bs m).size≤maxLen:=by rw [hsz];unfold maxLen;omega
  have h2:l.length+(bs m).size≤140737488355328:=by rw [hsz];exact hb
  obtain ⟨v',w',hr,hown',hg,_⟩:=Lib.run_append_own_string (P:=X.P) (w:=w) 0 T ty o.type E i ht hu hi hiz hsi hib v l.length _ hown (bs m) h1 h2 (Nat.zero_le _)
  obtain ⟨hblk,hdr⟩:=t9_ 0 T ty o.type E i ht hu hi hiz hsi hib hown (bs m) h1 h2 hr
  rw [hsz,t1_,←List.flatMap_append,←la_]at hown'
  have hbk: ∀b,v'.ownBlock=some b→v.ownBlock=some b∨w.heap.size≤b:=fun b hb=>by
    rcases hblk with h|h
    · exact .inl (h▸hb)
    rw [h]at hb;cases hb;exact .inr (Nat.le_refl _)
  have hR:Reach u0 C0 τ0 σ w' (ε E 1 e5_ v' (l++m)::F):=
    hw.bk_ (Value.ownBlock v) (Value.ownBlock v') rfl rfl hg.os hg.tape hg.output hg.size hdr (fun q hq hne=>hg.block q hq (fun hx=>hne hx.symm)) ⟨hown',fun q hq=>by
      obtain ⟨z,_,hz⟩:=List.mem_flatMap.1 hq
      exact gt_ z q hz,by rw [la_];omega⟩ hbk
  obtain ⟨av,cv,rfl,_,_⟩:=isSl_row hown'
  refine Oper.am_ (w':=w') (v:= .slice av (l++m).length cv) ?_ (hK _ _ _ _ _ (k av cv) hR (fi_ ha hd hn _))
  rw [ha.eval']
  simp [execOp,ho,resolve,invoke,builtin,hx,hy,hr]
def Res.any (o : Option Nat) : Res where
  bl:=o.toList
  holds w:= ∀b,o=some b→b<w.heap.size
  lt w b hb h:=h b (by simpa using hb)
  keep w w' hb h:=fun b e=>by
    have h1:=h b e
    have h2:=hb b (by rw [e];simp)
    rw [Array.getElem?_eq_getElem h1]at h2
    exact (Array.getElem?_eq_some_iff.1 h2).1
def SDat(v:Value)(l:List UInt8)(q:Option Addr):Prop:=l≠[]→ ∃g c,v= .slice (some ⟨g,0,none⟩) l.length c∧q=some ⟨g,0,none⟩
theorem OpOk.c7_{X:Ctx}{e:Env}{σ:d0_}{F:List Res}{o:Oper}{x:Operand}{K:Env→d0_→List Res→Prop}{T E d D:Nat}{v:Value}{l:List UInt8}
    (ho:o.op= .call {callee:= .builtin .unsafeSliceData,args:= #[x],argTypes:= #[T]}) (hD:o.type=D) (hp:X.P.underlying D=some (.pointer E)) (hd:o.dst=some d) (hn:Nat.blt d X.n=true) (hx:ev e x=v)
    (k: ∀q,SDat v l q→K (upd e d (.pointer q)) σ (ε E 1 e5_ v l::F)):OpOk X o e σ (ε E 1 e5_ v l::F) K:=by
  subst hD
  intro u0 C0 τ0 w a hw ha K' Q hK
  obtain ⟨hown,hone,hbg⟩:=hw.holds _ (mc_ ..)
  rcases id hown.2 with ⟨rfl,hl⟩|⟨g,cap,cur,rfl,_,hg,hnc,hcm,hcs,htake⟩
  · have hl0:l=[]:=en_ hl
    have hr:=Lib.run_unsafeSliceData_nil (P:=X.P) (w:=w) #[T] o.type 0 0
    refine Oper.am_ (w':=w) (v:= .pointer none) ?_ (hK _ _ _ _ _ (k none (fun h=>absurd hl0 h)) hw (fi_ ha hd hn _))
    rw [ha.eval']
    simp [execOp,ho,resolve,invoke,builtin,hx,hr]
  by_cases hc:cap=0
  · subst hc
    have hl0:l=[]:=en_ (by omega)
    have hsh:w.shape? g=some (E,cur.size):=by simp [World.shape?,hg]
    have hr:=Lib.run_unsafeSliceData_zero (P:=X.P) (w:=w) #[T] o.type E hp ⟨g,0,none⟩ l.length (E,cur.size) hsh
    have hR:Reach u0 C0 τ0 σ (w.alloc (.view ⟨g,0,none⟩ E)) (Res.any none::ε E 1 e5_ (.slice (some ⟨g,0,none⟩) l.length 0) l::F):=
      hw.ca_ none rfl rfl rfl rfl (by simp) (Nat.le_refl _) (fun k hk=>gu_ w _ k hk) (fun b hb=>by cases hb) (fun b hb=>by cases hb)
    refine Oper.am_ (w':=w.alloc (.view ⟨g,0,none⟩ E)) (v:= .pointer (some ⟨w.heap.size,0,none⟩)) ?_ (hK _ _ _ _ _ (k _ (fun h=>absurd hl0 h)) (hR.sub (List.sublist_cons_self _ _)) (fi_ ha hd hn _))
    rw [ha.eval']
    simp [execOp,ho,resolve,invoke,builtin,hx,hr]
  have hr:=Lib.run_unsafeSliceData_row (P:=X.P) (w:=w) #[T] o.type ⟨g,0,none⟩ l.length cap hc
  refine Oper.am_ (w':=w) (v:= .pointer (some ⟨g,0,none⟩)) ?_ (hK _ _ _ _ _ (k _ (fun _=>⟨g,cap,rfl,rfl⟩)) hw (fi_ ha hd hn _))
  rw [ha.eval']
  simp [execOp,ho,resolve,invoke,builtin,hx,hr]
theorem OpOk.unsStr{X:Ctx}{e:Env}{σ:d0_}{F:List Res}{o:Oper}{x y:Operand}{K:Env→d0_→List Res→Prop}{T I E d:Nat}{v:Value}{l:List UInt8}{q:Option Addr}
    (ho:o.op= .call {callee:= .builtin .unsafeString,args:= #[x,y],argTypes:= #[T,I]}) (hp:X.P.underlying T=some (.pointer E)) (hcE:X.P.cellsOf E=1) (hd:o.dst=some d) (hn:Nat.blt d X.n=true) (hx:ev e x= .pointer q) (hq:SDat v l q) (hy:ev e y= .int .i64 (l.length:Nat))
    (k:K (upd e d (.string (bs l))) σ F):OpOk X o e σ (ε E 1 e5_ v l::F) K:=by
  intro u0 C0 τ0 w a hw ha K' Q hK
  obtain ⟨hown,hone,hbg⟩:=hw.holds _ (mc_ ..)
  by_cases hl:l=[]
  · subst hl
    have hr:=Lib.run_unsafeString_none (P:=X.P) (w:=w) T I o.type q
    refine Oper.am_ (w':=w) (v:= .string (bs [])) ?_ (hK _ _ _ _ _ k (hw.sub (List.sublist_cons_self _ _)) (fi_ ha hd hn _))
    rw [ha.eval']
    simp [execOp,ho,resolve,invoke,builtin,hx,hy,hr]
    rfl
  obtain ⟨g,c,rfl,rfl⟩:=hq hl
  rcases id hown.2 with ⟨hv,_⟩|⟨g',cap,cur,hv,_,hg,hnc,hcm,hcs,htake⟩
  · cases hv
  cases hv
  have hsh:w.shape? g=some (E,cur.size):=by simp [World.shape?,hg]
  have hr:=Lib.run_unsafeString_row (P:=X.P) (w:=w) T I o.type E hp hcE g cur.size hsh l hl (by omega) (by unfold maxLen at hcm;omega) (fun j z hz=>by
    refine hown.cells (g:=g) rfl j (.int .u8 z.toNat) ?_
    have hj:j<l.length:=(List.getElem?_eq_some_iff.1 hz).1
    rw [vc_ (enc:=e5_) (fun _=>rfl) (0:UInt8) l j hj]
    have h4:=getD_some l hj (0:UInt8)
    rw [hz]at h4
    rw [←Option.some.inj h4];rfl)
  have hln: ¬ l.length=0:=fun h=>hl (en_ h)
  have hfz: ∀b,b≠g→(w.freeze ⟨g,0,none⟩ l.length).heap[b]? =w.heap[b]? :=fun b hb=>by
    unfold World.freeze
    rw [if_neg hln]
    simp only [Array.getElem?_modify]
    rw [if_neg (fun h=>hb h.symm)]
  have hsz:(w.freeze ⟨g,0,none⟩ l.length).heap.size=w.heap.size:=by
    unfold World.freeze
    rw [if_neg hln];simp
  have hos:(w.freeze ⟨g,0,none⟩ l.length).os=w.os∧(w.freeze ⟨g,0,none⟩ l.length).tape=w.tape∧(w.freeze ⟨g,0,none⟩ l.length).output=w.output∧(w.freeze ⟨g,0,none⟩ l.length).drawn=w.drawn:=by
    unfold World.freeze
    rw [if_neg hln];exact ⟨rfl,rfl,rfl,rfl⟩
  have hgl:g<w.heap.size:=(Array.getElem?_eq_some_iff.1 hg).1
  have hR:Reach u0 C0 τ0 σ (w.freeze ⟨g,0,none⟩ l.length) (Res.any (some g)::F):=
    hw.bk_ (some g) (some g) rfl rfl hos.1 hos.2.1 hos.2.2.1 (by rw [hsz];exact Nat.le_refl _) (by rw [hos.2.2.2];exact Nat.le_refl _) (fun k hk hne=>hfz k (fun h=>hne (by rw [h]))) (fun b hb=>by cases hb;rw [hsz];exact hgl) (fun b hb=> .inl hb)
  refine Oper.am_ (w':=w.freeze ⟨g,0,none⟩ l.length) (v:= .string (bs l)) ?_ (hK _ _ _ _ _ k (hR.sub (List.sublist_cons_self _ _)) (fi_ ha hd hn _))
  rw [ha.eval']
  simp [execOp,ho,resolve,invoke,builtin,hx,hy,hr]
  rfl
end Go.E
end

noncomputable section
namespace Go.Proofs.YtchebnpdnfhenaaGreatDoor
open Go Go.E Go.E.OpVal Go.E.OpOk Go.Proofs.Tryz
open List (replicate)
theorem i0_:aggOf Tryz.prog 27=some false:=by kernel_rfl
theorem m4_:aggOf Tryz.prog 28=some false:=by kernel_rfl
theorem nz_:aggOf Tryz.prog 29=some false:=by kernel_rfl
theorem kv_:aggOf Tryz.prog 30=some false:=by kernel_rfl
theorem h1_:aggOf Tryz.prog 32=some true:=by kernel_rfl
theorem ag60:aggOf Tryz.prog 60=some false:=by kernel_rfl
theorem jx_:aggOf Tryz.prog 86=some false:=by kernel_rfl
theorem ag90:aggOf Tryz.prog 90=some false:=by kernel_rfl
theorem by5:byOf Tryz.prog 5=some 1:=by kernel_rfl
theorem ce5:Tryz.prog.cellsOf 5=1:=by kernel_rfl
theorem ib_:foOf Tryz.prog 32 0=some 0:=by kernel_rfl
theorem e8_:foOf Tryz.prog 32 1=some 1:=by kernel_rfl
theorem fy_:foOf Tryz.prog 32 2=some 2:=by kernel_rfl
theorem gq_:foOf Tryz.prog 32 3=some 3:=by kernel_rfl
theorem g0_:foOf Tryz.prog 32 4=some 4:=by kernel_rfl
theorem vs_:foOf Tryz.prog 92 0=some 0:=by kernel_rfl
theorem qd_:foOf Tryz.prog 92 1=some 1:=by kernel_rfl
theorem pf23:plainF Tryz.prog 23=true:=by kernel_rfl
theorem zs_:plainF Tryz.prog 53=true:=by kernel_rfl
theorem pf54:plainF Tryz.prog 54=true:=by kernel_rfl
theorem pf60:plainF Tryz.prog 60=true:=by kernel_rfl
theorem pf94:plainF Tryz.prog 94=true:=by kernel_rfl
theorem kn_:szOf Tryz.prog 30=some 1:=by kernel_rfl
theorem fs_:szOf Tryz.prog 32=some 5:=by kernel_rfl
theorem sz60:szOf Tryz.prog 60=some 1:=by kernel_rfl
theorem fp_:szOf Tryz.prog 86=some 1:=by kernel_rfl
theorem sz9:szOf Tryz.prog 9=some 1:=by kernel_rfl
theorem sz90:szOf Tryz.prog 90=some 1:=by kernel_rfl
theorem sz92:szOf Tryz.prog 92=some 2:=by kernel_rfl
theorem ze5:zeroOf Tryz.prog 5=some (.int .u8 0):=by kernel_rfl
theorem ze92:zeroOf Tryz.prog 92=some (.agg #[.pointer none,nl_]):=by kernel_rfl
def Ek_(k105:Nat):Option ((Nat)⊕(Bool)):=
 nxt (k105+1)
def Dh_(x0:N_1)(x2:Int)(x1:T_2)(k105:Nat):Option ((Nat)⊕(Bool)):=
 ec_ (decide ((k105:Int)<((x0.length:Nat):Int))) (ec_ (decide ((nth x0 k105 0)<(-1))) (fin (some false)) (ec_ (decide (x2≤(nth x0 k105 0))) (fin (some false)) (grd (k105<x1.length) (ec_ (decide (4096<(((nth x1 k105 []).length:Nat):Int))) (fin (some false)) (ec_ (decide ((nth x0 k105 0)=(-1))) (grd (k105<x1.length) (ec_ (decide ((nth x1 k105 [])≠([]:T_1))) (fin (some false)) (Ek_ k105))) (Ek_ k105)))))) (fin (some true))
def Gi_(x0:N_1)(x1:T_2)(x2:Int):Option (Bool):=
 ec_ (decide (((x0.length:Nat):Int)≠256)) (some false) (ec_ (decide (((x1.length:Nat):Int)≠256)) (some false) (eq_ (fun q:Nat=>Dh_ x0 x2 x1 q) 0))
theorem Ic_{σ:d0_}{x0:N_1}{x1:T_2}{x2:Int}(f0_0:rS_ σ eI_ a0_0 c0_0 x0)(f1_0:rS_ σ eS_ a1_0 c1_0 x1){r:Bool}(hh:Gi_ x0 x1 x2=some r):
  Con prog 60 #[.slice a0_0 x0.length c0_0,.slice a1_0 x1.length c1_0,.int .i64 x2] σ [] (fd_ (.bool r) σ):=by
 dsimp only [Gi_]at hh
 have f0_0b:=f0_0.rv.big
 have f1_0b:=f1_0.rv.big
 refine Con.mk (n:=51) Tryz.func60 z z z (fun w0=> ?_)
 refine ξ (TL.j z z (κ (ν (ξ (TL.s z z (ω z (lenC z e2_ z) (ω z (OpVal.neq z z z) (TL.j z z (TL.split 12 z (fun h101=> ?_) (fun h101=> ?_))))))))))
 ·replace hh:=ej_ h101 hh
  replace h101:=dt_ h101
  refine χ z (χ z (χ z (ω z (ah_ z z z) (κ (TC.t z (ξ (TL.j z z (κ (TC.ret (S.r ?_))))))))))
  obtain rfl:=so hh
  exact rq [6] ⟨z,z,z⟩
 replace hh:=ei_ h101 hh
 replace h101:=df_ h101
 refine TL.g z (aj_ (.inl z) z) (TL.g z (lenC z gw_ z) (TL.g z (OpVal.neq z z z) (ω z (ag_ z z z) (κ (TC.cD z hh (fun h102 hh=> ?_) (fun h102 hh=> ?_))))))
 ·refine ξ (TL.j z z (κ (TC.ret (S.r ?_))))
  obtain rfl:=so hh
  exact rq [6] ⟨z,z,z⟩
 refine ι (S.n (ν (ξ (TL.s z z (ω z (lenC z e2_ z) (θ z z (κ (υ (TC.ao_ (α:=(Nat)×(Unit)) (rgs [(6,3),(19,32)]) (fun g=>[(19,.int .i64 ((g.1:Nat):Int))]) (fun g=>[]) (fun g=>σ) (fun g=>eq_ (fun q:Nat=>Dh_ x0 x2 x1 q) g.1=some r) (fun g=>eh_ (fun q:Nat=>Dh_ x0 x2 x1 q) g.1) (0,()) (Sub.pre 0 z) z (by repeat (first|exact trivial|refine ⟨z,?_⟩)) hh (fun g1 j1 hg1=> ?_))))))))))
 obtain ⟨k105,_⟩:=g1
 have hh:=hg1;clear hg1
 try dsimp only
 obtain ⟨z1,hh,hR1⟩:=eo_ hh
 dsimp only [Dh_]at hh
 refine ξ (ω z (OpVal.lss z z z) (κ (ν (TC.cD z hh (fun h106 hh=> ?_) (fun h106 hh=> ?_)))))
 ·refine ι (S.n (TC.cutG (α:=(Unit)×(Unit)) (rgs [(6,3),(21,29)]) (fun g=>[]) (fun g=>[]) (fun g=>σ) (fun g=>Ek_ k105=some z1) ?_ (fun g j hg=> ?_)))
  ·skip
   refine υ (ξ (θ z z (ω z (af_ z e2_ sz3 z z f0_0.rv.sl (by omega)) (ω z (al_ (0:Int) z ag3 z f0_0 (by omega) z) (θ z z (θ z z (κ (ξ (θ z z (ω z (OpVal.lss z z z) (TL.j z z (TL.split 26 z (fun h107=> ?_) (fun h107=> ?_)))))))))))))
   ·replace hh:=ej_ h107 hh
    replace h107:=dt_ h107
    refine χ z (χ z (χ z (ω z (ah_ z z z) (TL.j z z (χ z (χ z (χ z (χ z (χ z (χ z (ω z (ah_ z z z) (TL.j z z (χ z (χ z (χ z ?_)))))))))))))))
    refine χ z (χ z (χ z (χ z (χ z (χ z (ω z (ah_ z z z) (κ (TC.t z (ξ (TL.j z z (κ (TC.ret (B.r (S.r (S.r ?_)))))))))))))))
    replace hh:=el_ hR1 hh
    refine B.r (S.r ?_)
    obtain rfl:=so hh
    exact rq [6] ⟨z,z,z⟩
   replace hh:=ei_ h107 hh
   replace h107:=df_ h107
   refine TL.g z (ai_ (.inl z) z) (TL.g z (ai_ (.inl z) z) (TL.g z (OpVal.geq z z z) (ω z (ag_ z z z) (TL.j z z (TL.split 31 z (fun h108=> ?_) (fun h108=> ?_))))))
   ·replace hh:=ej_ h108 hh
    replace h108:=dt_ h108
    refine χ z (χ z (χ z (χ z (χ z (χ z (ω z (ah_ z z z) (TL.j z z (χ z (χ z (χ z (χ z (χ z (χ z (χ z (χ z ?_)))))))))))))))
    refine χ z (ω z (ah_ z z z) (κ (TC.t z (ξ (TL.j z z (κ (TC.ret (B.r (S.r (S.r ?_))))))))))
    replace hh:=el_ hR1 hh
    refine B.r (S.r ?_)
    obtain rfl:=so hh
    exact rq [6] ⟨z,z,z⟩
   replace hh:=ei_ h108 hh
   replace h108:=df_ h108
   refine TL.g z (aj_ (.inl z) z) (TL.g z (ai_ (.inl z) z) ?_)
   obtain ⟨u30,hh⟩:=d6_ hh
   refine TL.g z (af_ z gw_ sz9 z z f1_0.rv.sl (by omega)) (TL.g z (al_ ([]:T_1) z ag9 z f1_0 (by omega) z) (TL.g z (a5_ z u9_ z) (TL.g z (OpVal.gtr z z z) (ω z (ag_ z z z) (TL.j z z (TL.split 39 z (fun h109=> ?_) (fun h109=> ?_)))))))
   ·replace hh:=ej_ h109 hh
    replace h109:=dt_ h109
    refine χ z (χ z (χ z (χ z (χ z (χ z (χ z (χ z (χ z (ω z (ah_ z z z) (κ (TC.t z (ξ (TL.j z z (κ (TC.ret ?_)))))))))))))))
    refine B.r (S.r (S.r ?_))
    replace hh:=el_ hR1 hh
    refine B.r (S.r ?_)
    obtain rfl:=so hh
    exact rq [6] ⟨z,z,z⟩
   replace hh:=ei_ h109 hh
   replace h109:=df_ h109
   refine TL.g z (ai_ (.inl z) z) (TL.g z (OpVal.eql z z z) (TL.g z (moveB (.inl z) z) (TL.split 42 z (fun h110=> ?_) (fun h110=> ?_))))
   ·replace hh:=ej_ h110 hh
    replace h110:=dt_ h110
    refine TL.g z (aj_ (.inl z) z) (TL.g z (ai_ (.inl z) z) ?_)
    obtain ⟨u41,hh⟩:=d6_ hh
    refine TL.g z (af_ z gw_ sz9 z z f1_0.rv.sl (by omega)) (TL.g z (al_ ([]:T_1) z ag9 z f1_0 (by omega) z) (TL.g z (b3_ z z z) (TL.g z (ah_ z z z) (ω z (ag_ z z z) (κ (TC.cD z hh (fun h111 hh=> ?_) (fun h111 hh=> ?_)))))))
    ·refine ξ (TL.j z z (κ (TC.ret (B.r (S.r (S.r ?_))))))
     replace hh:=el_ hR1 hh
     refine B.r (S.r ?_)
     obtain rfl:=so hh
     exact rq [6] ⟨z,z,z⟩
    exact ι (B.n (S.n (cf ((),()) hh (Sub.pre 0 z))))
   replace hh:=ei_ h110 hh
   replace h110:=df_ h110
   exact χ z (χ z (χ z (χ z (χ z (TL.g z (ag_ z z z) (ω z (ag_ z z z) (κ (TC.f z (ι (B.n (S.n (cf ((),()) hh (Sub.pre 0 z)))))))))))))
  skip
  obtain ⟨_,_⟩:=g
  have hh:=hg;clear hg
  try dsimp only
  dsimp only [Ek_]at hh
  refine π (ω z (OpVal.succ z z z (by omega)) (θ z z (κ ?_)))
  obtain ⟨hh,hlt112⟩:=ey_ hR1 hh
  exact lf ((k105+1),()) hlt112 hh (Sub.pre 0 z)
 refine TC.exit (S.x (S.x ?_))
 replace hh:=el_ hR1 hh
 refine Δ (S.n (ξ (TL.j z z (κ (TC.ret ?_)))))
 obtain rfl:=so hh
 exact rq [6] ⟨z,z,z⟩
def Ck_(k112:Nat)(x0:Seq):Option ((Nat)⊕(Int)):=
 grd (k112<x0.outs.length) (bnd (Gi_ (nth x0.next k112 []) (nth x0.outs k112 []) ((x0.next.length:Nat):Int)) (fun v85=>ec_ (!v85) (fin (some 1)) (nxt (k112+1))))
def Cl_(x0:Seq)(k112:Nat):Option ((Nat)⊕(Int)):=
 ec_ (decide ((k112:Int)<((x0.next.length:Nat):Int))) (grd (k112<x0.tail.length) (ec_ (decide (4096<(((nth x0.tail k112 []).length:Nat):Int))) (fin (some 1)) (grd (k112<x0.fin.length) (ec_ (!(nth x0.fin k112 false)) (grd (k112<x0.tail.length) (ec_ (decide ((nth x0.tail k112 [])≠([]:T_1))) (fin (some 1)) (Ck_ k112 x0))) (Ck_ k112 x0))))) (fin (some 0))
def Dy_(x0:Seq):Option (Int):=
 eq_ (fun q:Nat=>Cl_ x0 q) 0
def Dc_(x0:Seq):Option (Int):=
 ec_ (decide (1024<((x0.next.length:Nat):Int))) (some 1) (ec_ (decide (((x0.outs.length:Nat):Int)≠((x0.next.length:Nat):Int))) (some 1) (ec_ (decide (((x0.fin.length:Nat):Int)≠((x0.next.length:Nat):Int))) (some 1) (ec_ (decide (((x0.tail.length:Nat):Int)≠((x0.next.length:Nat):Int))) (some 1) (ec_ (decide (4096<((x0.front.length:Nat):Int))) (some 1) (ec_ (decide (((x0.next.length:Nat):Int)=0)) (ec_ (decide (x0.front≠([]:T_1))) (some 1) (Dy_ x0)) (Dy_ x0))))))
theorem Ev_{σ:d0_}{x0:Seq}(f0_0:RZ σ (ea_ 1 eI_ ep_) (.slice a0_0 x0.next.length c0_0) x0.next)(f0_1:RZ σ (ea_ 1 eS_ es_) (.slice a0_1 x0.outs.length c0_1) x0.outs)(f0_2:rS_ σ e1_ a0_2 c0_2 x0.fin)(f0_3:rS_ σ eS_ a0_3 c0_3 x0.tail){r:Int}(hh:Dc_ x0=some r):
  Con prog 23 #[.agg (aq_ x0 a0_0 c0_0 a0_1 c0_1 a0_2 c0_2 a0_3 c0_3)] σ [] (fd_ (.int .i64 r) σ):=by
 dsimp only [Dc_]at hh
 have f0_0b:=f0_0.big
 have f0_1b:=f0_1.big
 have f0_2b:=f0_2.rv.big
 have f0_3b:=f0_3.rv.big
 refine Con.mk (n:=85) Tryz.func23 z z z (fun w0=> ?_)
 refine ξ (ζ z (boxA z z z z (fun b101=> ?_)))
 refine θ z z (κ (ξ (ω z (aa_ z e8_ z) (ω z (ab_ z i0_ z (i:=0) z z) (ω z (lenC z fn_ z) (θ z z (κ (ν (ξ (θ z z (ω z (OpVal.gtr z z z) (TL.j z z (TL.split 10 z (fun h103=> ?_) (fun h103=> ?_))))))))))))))
 ·replace hh:=ej_ h103 hh
  replace h103:=dt_ h103
  refine χ z (χ z (χ z (χ z (χ z (ω z (ah_ z z z) (TL.j z z (χ z (χ z (χ z (χ z (χ z (ω z (ah_ z z z) (TL.j z z (χ z (χ z ?_)))))))))))))))
  refine χ z (χ z (χ z (ω z (ah_ z z z) (κ (TC.t z (ξ (θ z z (κ (TC.rt 0 (S.r ?_))))))))))
  obtain rfl:=so hh
  exact rq [2] ⟨z,z,z⟩
 replace hh:=ei_ h103 hh
 replace h103:=df_ h103
 refine TL.g z (aa_ z fy_ z) (TL.g z (ab_ z m4_ z (i:=0) z z) (TL.g z (lenC z l4_ z) (TL.g z (ai_ (.inl z) z) (TL.g z (OpVal.neq z z z) (ω z (ag_ z z z) (TL.j z z (TL.split 17 z (fun h104=> ?_) (fun h104=> ?_))))))))
 ·replace hh:=ej_ h104 hh
  replace h104:=dt_ h104
  refine χ z (χ z (χ z (χ z (χ z (ω z (ah_ z z z) (TL.j z z (χ z (χ z (χ z (χ z (χ z (ω z (ah_ z z z) (κ (TC.t z (ξ ?_)))))))))))))))
  refine θ z z (κ (TC.rt 0 (S.r ?_)))
  obtain rfl:=so hh
  exact rq [2] ⟨z,z,z⟩
 replace hh:=ei_ h104 hh
 replace h104:=df_ h104
 refine TL.g z (aa_ z gq_ z) (TL.g z (ab_ z nz_ z (i:=0) z z) (TL.g z (lenC z h2_ z) (TL.g z (ai_ (.inl z) z) (TL.g z (OpVal.neq z z z) (ω z (ag_ z z z) (TL.j z z (TL.split 24 z (fun h105=> ?_) (fun h105=> ?_))))))))
 ·replace hh:=ej_ h105 hh
  replace h105:=dt_ h105
  refine χ z (χ z (χ z (χ z (χ z (ω z (ah_ z z z) (κ (TC.t z (ξ (θ z z (κ (TC.rt 0 (S.r ?_))))))))))))
  obtain rfl:=so hh
  exact rq [2] ⟨z,z,z⟩
 replace hh:=ei_ h105 hh
 replace h105:=df_ h105
 refine TL.g z (aa_ z g0_ z) (TL.g z (ab_ z kv_ z (i:=0) z z) (TL.g z (lenC z gw_ z) (TL.g z (ai_ (.inl z) z) (TL.g z (OpVal.neq z z z) (ω z (ag_ z z z) (κ (TC.cD z hh (fun h106 hh=> ?_) (fun h106 hh=> ?_))))))))
 ·refine ξ (θ z z (κ (TC.rt 0 (S.r ?_))))
  obtain rfl:=so hh
  exact rq [2] ⟨z,z,z⟩
 refine ι (S.n (TC.cutG (α:=(Unit)×(Unit)) (rgs [(2,1),(31,13)]) (fun g=>[]) (fun g=>[cq_ b101 x0 a0_0 c0_0 a0_1 c0_1 a0_2 c0_2 a0_3 c0_3]) (fun g=>σ) (fun g=>Dy_ x0=some r) ?_ (fun g j hg=> ?_)))
 ·skip
  refine ξ (ω z (aa_ z ib_ z) (ω z (ab_ z ag9 z (i:=0) z z) (ω z (a5_ z u9_ z) (ω z (OpVal.gtr z z z) (TL.j z z (TL.split 35 z (fun h107=> ?_) (fun h107=> ?_)))))))
  ·replace hh:=ej_ h107 hh
   replace h107:=dt_ h107
   refine χ z (χ z (χ z (χ z (χ z (χ z (χ z (ω z (ah_ z z z) (κ (TC.t z (ξ (θ z z (κ (TC.rt 0 (S.r ?_))))))))))))))
   obtain rfl:=so hh
   exact rq [2] ⟨z,z,z⟩
  replace hh:=ei_ h107 hh
  replace h107:=df_ h107
  refine TL.g z (ai_ (.inl z) z) (TL.g z (OpVal.eql z z z) (TL.g z (moveB (.inl z) z) (TL.split 38 z (fun h108=> ?_) (fun h108=> ?_))))
  ·replace hh:=ej_ h108 hh
   replace h108:=dt_ h108
   refine TL.g z (aa_ z ib_ z) (TL.g z (ab_ z ag9 z (i:=0) z z) (TL.g z (b3_ z z z) (TL.g z (ah_ z z z) (ω z (ag_ z z z) (κ (TC.cD z hh (fun h109 hh=> ?_) (fun h109 hh=> ?_)))))))
   ·refine ξ (θ z z (κ (TC.rt 0 (S.r ?_))))
    obtain rfl:=so hh
    exact rq [2] ⟨z,z,z⟩
   exact ι (S.n (cf ((),()) hh (Sub.pre 1 z)))
  replace hh:=ei_ h108 hh
  replace h108:=df_ h108
  exact χ z (χ z (χ z (TL.g z (ag_ z z z) (ω z (ag_ z z z) (κ (TC.f z (ι (S.n (cf ((),()) hh (Sub.pre 1 z))))))))))
 skip
 obtain ⟨_,_⟩:=g
 have hh:=hg;clear hg
 try dsimp only
 dsimp only [Dy_]at hh
 refine ν (ξ (θ z z (θ z z (κ (υ (TC.ao_ (α:=(Nat)×(Unit)) (rgs [(2,1),(4,1),(45,40)]) (fun g=>[(45,.int .i64 ((g.1:Nat):Int))]) (fun g=>[cq_ b101 x0 a0_0 c0_0 a0_1 c0_1 a0_2 c0_2 a0_3 c0_3]) (fun g=>σ) (fun g=>eq_ (fun q:Nat=>Cl_ x0 q) g.1=some r) (fun g=>eh_ (fun q:Nat=>Cl_ x0 q) g.1) (0,()) (Sub.pre 1 z) z (by repeat (first|exact trivial|refine ⟨z,?_⟩)) hh (fun g1 j1 hg1=> ?_)))))))
 obtain ⟨k112,_⟩:=g1
 have hh:=hg1;clear hg1
 try dsimp only
 obtain ⟨z1,hh,hR1⟩:=eo_ hh
 dsimp only [Cl_]at hh
 refine ξ (ω z (OpVal.lss z z z) (κ (ν (TC.cD z hh (fun h113 hh=> ?_) (fun h113 hh=> ?_)))))
 ·refine ι (S.n (ν (υ (ξ (θ z z (θ z z (κ (TC.cutG (α:=(Unit)×(Unit)) (rgs [(2,1),(48,23)]) (fun g=>[]) (fun g=>[cq_ b101 x0 a0_0 c0_0 a0_1 c0_1 a0_2 c0_2 a0_3 c0_3]) (fun g=>σ) (fun g=>Ck_ k112 x0=some z1) ?_ (fun g j hg=> ?_)))))))))
  ·skip
   refine ξ (ω z (aa_ z g0_ z) (ω z (ab_ z kv_ z (i:=0) z z) (θ z z ?_)))
   obtain ⟨u53,hh⟩:=d6_ hh
   refine ω z (af_ z gw_ sz9 z z f0_3.rv.sl (by omega)) (ω z (al_ ([]:T_1) z ag9 z f0_3 (by omega) z) (ω z (a5_ z u9_ z) (ω z (OpVal.gtr z z z) (TL.j z z (TL.split 55 z (fun h114=> ?_) (fun h114=> ?_))))))
   ·replace hh:=ej_ h114 hh
    replace h114:=dt_ h114
    refine χ z (χ z (χ z (χ z (χ z (χ z (χ z (χ z (χ z (χ z (χ z (χ z (χ z (χ z (ω z (ah_ z z z) (κ ?_)))))))))))))))
    refine TC.t z (ξ (θ z z (κ (TC.rt 0 (S.r (B.r (S.r (S.r ?_))))))))
    replace hh:=el_ hR1 hh
    refine B.r (S.r ?_)
    obtain rfl:=so hh
    exact rq [2] ⟨z,z,z⟩
   replace hh:=ei_ h114 hh
   replace h114:=df_ h114
   refine TL.g z (aa_ z gq_ z) (TL.g z (ab_ z nz_ z (i:=0) z z) (TL.g z (ai_ (.inl z) z) ?_))
   obtain ⟨u61,hh⟩:=d6_ hh
   refine TL.g z (af_ z h2_ sz4 z z f0_2.rv.sl (by omega)) (TL.g z (al_ false z ag4 z f0_2 (by omega) z) (TL.g z (OpVal.not z z) (TL.g z (moveB (.inl z) z) (TL.split 62 z (fun h115=> ?_) (fun h115=> ?_)))))
   ·replace hh:=ej_ h115 hh
    refine TL.g z (aa_ z g0_ z) (TL.g z (ab_ z kv_ z (i:=0) z z) (TL.g z (ai_ (.inl z) z) ?_))
    obtain ⟨u68,hh⟩:=d6_ hh
    refine TL.g z (af_ z gw_ sz9 z z f0_3.rv.sl (by omega)) (TL.g z (al_ ([]:T_1) z ag9 z f0_3 (by omega) z) (TL.g z (b3_ z z z) (TL.g z (ah_ z z z) (ω z (ag_ z z z) (κ (TC.cD z hh (fun h116 hh=> ?_) (fun h116 hh=> ?_)))))))
    ·refine ξ (θ z z (κ (TC.rt 0 (S.r (B.r (S.r (S.r ?_)))))))
     replace hh:=el_ hR1 hh
     refine B.r (S.r ?_)
     obtain rfl:=so hh
     exact rq [2] ⟨z,z,z⟩
    exact ι (S.n (cf ((),()) hh (Sub.pre 1 z)))
   replace hh:=ei_ h115 hh
   exact χ z (χ z (χ z (χ z (χ z (χ z (TL.g z (ag_ z z z) (ω z (ag_ z z z) (κ (TC.f z (ι (S.n (cf ((),()) hh (Sub.pre 1 z)))))))))))))
  skip
  obtain ⟨_,_⟩:=g
  have hh:=hg;clear hg
  try dsimp only
  dsimp only [Ck_]at hh
  refine ν ?_
  obtain ⟨u82,hh⟩:=d6_ hh
  obtain ⟨v85,u85,hh⟩:=eb_ hh
  refine TC.draw [] (by kernel_rfl) (Ψ 0 z (aa_ z e8_ z) z (TA.b 1 z (ab_ z i0_ z (i:=0) z z) z (Ψ 2 z (ai_ (.inl z) z) z (TA.b 3 z (af_ z fn_ fp_ z z f0_0.isSl (by omega)) z ?_))))
  obtain ⟨p119,hk119,hg119⟩:=RZ.seg f0_0 k112 (by omega)
  replace hk119:rS_ _ eI_ p119.1 p119.2 (nth x0.next k112 []):=hk119
  have hk119b:=hk119.rv.big
  refine TA.b 4 z (OpVal.of (as_ z jx_ z hg119 z) (v':= .slice p119.1 ((nth x0.next k112 []).length) p119.2) z) z (Ψ 5 z (aa_ z fy_ z) z (TA.b 6 z (ab_ z m4_ z (i:=0) z z) z (Ψ 7 z (ai_ (.inl z) z) z (TA.b 8 z (af_ z l4_ kn_ z z f0_1.isSl (by omega)) z ?_))))
  obtain ⟨p120,hk120,hg120⟩:=RZ.seg f0_1 k112 (by omega)
  replace hk120:rS_ _ eS_ p120.1 p120.2 (nth x0.outs k112 []):=hk120
  have hk120b:=hk120.rv.big
  refine TA.b 9 z (OpVal.of (as_ z kv_ z hg120 z) (v':= .slice p120.1 ((nth x0.outs k112 []).length) p120.2) z) z (Ψ 10 z (ai_ (.inl z) z) z (TA.ac 11 z (aw_ (Ic_ hk119 hk120 u85) z z pf60 z z z (k0 ?_))))
  refine Ψ 12 z (OpVal.not z z) z (TA.dn (S.n (TC.cB z hh (fun h121 hh=> ?_) (fun h121 hh=> ?_))))
  ·refine ξ (θ z z (κ (TC.rt 0 (B.r (S.r (S.r ?_))))))
   replace hh:=el_ hR1 hh
   refine B.r (S.r ?_)
   obtain rfl:=so hh
   exact rq [2] ⟨z,z,z⟩
  refine ι (B.n (S.n (π (ω z (OpVal.succ z z z (by omega)) (θ z z (κ ?_))))))
  obtain ⟨hh,hlt122⟩:=ey_ hR1 hh
  exact lf ((k112+1),()) hlt122 hh (Sub.pre 1 z)
 refine TC.exit (S.x (S.x ?_))
 replace hh:=el_ hR1 hh
 refine Δ (S.n (ξ (θ z z (κ (TC.rt 0 ?_)))))
 obtain rfl:=so hh
 exact rq [2] ⟨z,z,z⟩
def ja_(x0:SB):Option (SB):=
 some (⟨x0.buf⟩:SB)
theorem pi_{σ:d0_}{x0:SB}{r:SB}(hh:ja_ x0=some r):
  Con prog 94 #[loc b0_0 0] σ [φ b0_0 #[mi_ false b0_0,.slice a0_1 x0.buf.length c0_2] 92,rs_ 5 e5_ a0_1 c0_2 x0.buf] (fun v σ' H'=> ∃(uo1:Bool), ∃ao2 co3,v= .tuple #[]∧σ=σ'∧H'=[φ b0_0 #[mi_ uo1 b0_0,.slice ao2 r.buf.length co3] 92,rs_ 5 e5_ ao2 co3 r.buf]):=by
 dsimp only [ja_]at hh
 refine Con.mk (n:=20) Tryz.func94 z z z (fun w0=> ?_)
 refine ξ (TL.l z z (ω z (ac_ z z) (ω z (aa_ z vs_ z) (ω z (ab_ z ag90 z (i:=0) z z) (ω z (eqlNil z underlying90 z z) (κ (TC.t z (π (TL.l z z (TL.l z z (ω z (cvtUns z underlying90 underlying188 sz92 (by decide) z (i:=0) z z (by simp)) (ω z (noEsc z z Tryz.func133 (by kernel_rfl) (by kernel_rfl) (by kernel_rfl) (by kernel_rfl) z) (ω z (cvtPtr z underlying188 underlying90 sz92 z (i:=0) z z (by kernel_rfl)) (ω z (ac_ z z) (ω z (aa_ z vs_ z) ?_)))))))))))))))
 refine ζ z (c8_ z sz90 z z z z z ?_)
 refine TL.nil ?_
 obtain rfl:=so hh
 exact RetOk.mk' (rs:=[]) [φ b0_0 #[mi_ true b0_0,.slice a0_1 x0.buf.length c0_2] 92,rs_ 5 e5_ a0_1 c0_2 x0.buf] z (.inr z) RVs.nil (List.sublist_append_left _ _) ⟨true,a0_1,c0_2,z,z,z⟩
def ql_(x0:SB):Option (SB):=
 some (⟨x0.buf⟩:SB)
theorem pv_{σ:d0_}{x0:SB}{r:SB}(hh:ql_ x0=some r):
  Con prog 94 #[loc b0_0 0] σ [φ b0_0 #[mi_ true b0_0,.slice a0_1 x0.buf.length c0_2] 92,rs_ 5 e5_ a0_1 c0_2 x0.buf] (fun v σ' H'=> ∃(uo1:Bool), ∃ao2 co3,v= .tuple #[]∧σ=σ'∧H'=[φ b0_0 #[mi_ uo1 b0_0,.slice ao2 r.buf.length co3] 92,rs_ 5 e5_ ao2 co3 r.buf]):=by
 dsimp only [ql_]at hh
 refine Con.mk (n:=20) Tryz.func94 z z z (fun w0=> ?_)
 refine ξ (TL.l z z (ω z (ac_ z z) (ω z (aa_ z vs_ z) (ω z (ab_ z ag90 z (i:=0) z z) (ω z (eqlNil z underlying90 z z) (κ (TC.f z (ξ (TL.l z z (ω z (ac_ z z) (ω z (aa_ z vs_ z) (ω z (ab_ z ag90 z (i:=0) z z) (TL.l z z (ω z (dr_ z underlying90 sz92 z z) (κ ?_)))))))))))))))
 refine TC.f z (ι ?_)
 obtain rfl:=so hh
 exact RetOk.mk' (rs:=[]) [φ b0_0 #[mi_ true b0_0,.slice a0_1 x0.buf.length c0_2] 92,rs_ 5 e5_ a0_1 c0_2 x0.buf] z (.inr z) RVs.nil (List.sublist_append_left _ _) ⟨true,a0_1,c0_2,z,z,z⟩
def i4_(x0:SB):Option SB:=ja_ x0
theorem k2_{σ:d0_}{x0:SB}{u0_1:Bool}{r:SB}(hh:i4_ x0=some r):
  Con prog 94 #[loc b0_0 0] σ [φ b0_0 #[mi_ u0_1 b0_0,.slice a0_2 x0.buf.length c0_3] 92,rs_ 5 e5_ a0_2 c0_3 x0.buf] (fun v σ' H'=> ∃(uo1:Bool), ∃ao2 co3,v= .tuple #[]∧σ=σ'∧H'=[φ b0_0 #[mi_ uo1 b0_0,.slice ao2 r.buf.length co3] 92,rs_ 5 e5_ ao2 co3 r.buf]):=by
 cases u0_1
 ·exact pi_ hh
 exact pv_ hh
def gz_(x0:SB)(x1:T_1):Option (Int×Unit×SB):=
 grd (x1.length≤281474976710656) (bnd (i4_ (⟨x0.buf⟩:SB)) (fun v4=>grd (v4.buf.length+x1.length≤140737488355328) (some (((x1.length:Nat):Int),(),(⟨(v4.buf++x1)⟩:SB)))))
theorem gh_{σ:d0_}{x0:SB}{u0_1:Bool}{x1:T_1}{r:Int×Unit×SB}(hh:gz_ x0 x1=some r):
  Con prog 53 #[loc b0_0 0,.string (bs x1)] σ [φ b0_0 #[mi_ u0_1 b0_0,.slice a0_2 x0.buf.length c0_3] 92,rs_ 5 e5_ a0_2 c0_3 x0.buf] (fun v σ' H'=> ∃(uo1:Bool), ∃ao2 co3,v= .tuple #[.int .i64 r.1,.nilIface]∧σ=σ'∧H'=[φ b0_0 #[mi_ uo1 b0_0,.slice ao2 r.2.2.buf.length co3] 92,rs_ 5 e5_ ao2 co3 r.2.2.buf]):=by
 dsimp only [gz_]at hh
 refine Con.mk (n:=19) Tryz.func53 z z z (fun w0=> ?_)
 have x1b:=n8_ hh
 replace hh:=or_ hh
 refine ξ (θ z z (ω z (OpVal.mv (.inr z)) (κ (ξ (TL.l z z (ψ 1 z z (ψ 1 z z ?_)))))))
 obtain ⟨v4,u4,hh⟩:=eb_ hh
 refine ζ z (OpOk.call (k2_ u4) z z pf94 z z z z ?_)
 rintro _ _ _ hle104 ⟨u104_1,a104_2,c104_3,rfl,rfl,rfl⟩
 refine κ (ξ (TL.l z z (TL.l z z (ω z (ac_ z z) (ω z (aa_ z qd_ z) (ω z (ab_ z ag60 z (i:=0) z z) (ω z (ad_ (.inl z) z) (ψ 1 z z ?_))))))))
 obtain ⟨u11,hh⟩:=d6_ hh
 refine ζ z (cp_ z th_ u9_ sz5 by5 ze5 z z z z u11 (fun a106 c107=> ?_))
 refine ω z (ac_ z z) (ω z (aa_ z qd_ z) (ψ 1 z z (ζ z (ae_ z sz60 z z z z z ?_))))
 refine κ (ξ (ω z (ad_ (.inl z) z) (ω z (a5_ z u9_ z) (θ z z (ω z (OpVal.mv (.inr z)) (κ (TC.ret ?_)))))))
 obtain rfl:=so hh
 exact ro [φ b0_0 #[mi_ u104_1 b0_0,.slice a106 ((v4.buf++x1).length) c107] 92,rs_ 5 e5_ a106 c107 (v4.buf++x1)] z (RVs.tmp z (RVs.tmp z RVs.nil)) ⟨u104_1,a106,c107,z,z,z⟩
def iv_(x0:SB)(x1:UInt8):Option (Unit×SB):=
 bnd (i4_ (⟨x0.buf⟩:SB)) (fun v3=>grd ((v3.buf.length+[x1].length) * 1≤140737488355328) (some ((),(⟨(v3.buf++[x1])⟩:SB))))
theorem ia_{σ:d0_}{x0:SB}{u0_1:Bool}{x1:UInt8}{r:Unit×SB}(hh:iv_ x0 x1=some r):
  Con prog 151 #[loc b0_0 0,.int .u8 ((x1.toNat:Nat):Int)] σ [φ b0_0 #[mi_ u0_1 b0_0,.slice a0_2 x0.buf.length c0_3] 92,rs_ 5 e5_ a0_2 c0_3 x0.buf] (fun v σ' H'=> ∃(uo1:Bool), ∃ao2 co3,v= .nilIface∧σ=σ'∧H'=[φ b0_0 #[mi_ uo1 b0_0,.slice ao2 r.2.buf.length co3] 92,rs_ 5 e5_ ao2 co3 r.2.buf]):=by
 dsimp only [iv_]at hh
 refine Con.mk (n:=17) Tryz.func151 z z z (fun w0=> ?_)
 refine ξ (ω z (OpVal.mv (.inr z)) (κ (ξ (TL.l z z (ψ 1 z z (ψ 1 z z ?_))))))
 obtain ⟨v3,u3,hh⟩:=eb_ hh
 refine ζ z (OpOk.call (k2_ u3) z z pf94 z z z z ?_)
 rintro _ _ _ hle104 ⟨u104_1,a104_2,c104_3,rfl,rfl,rfl⟩
 refine κ (ξ (TL.l z z (TL.l z z (ω z (ac_ z z) (ω z (aa_ z qd_ z) (ω z (ab_ z ag60 z (i:=0) z z) (θ z z (ζ z (OpOk.lit (enc:=e5_) [x1] z th_ sz5 ze5 z z z gr_ (by decide) (by decide) (0:UInt8) z (by decide) z (by decide) gt_ (fun a106 c107=> ?_))))))))))
 refine ψ 2 z z ?_
 obtain ⟨u11,hh⟩:=d6_ hh
 refine ζ z (av_ z z th_ sz5 by5 ze5 z z (by decide) z z z (.inr ⟨_,0,z⟩) (by simpa using u11) (by decide) (fun a109 c110=> ?_))
 refine ω z (ac_ z z) (ω z (aa_ z qd_ z) (ψ 2 z z (ζ z (ae_ z sz60 z z z z z ?_))))
 refine κ (ξ (ω z (OpVal.mv (.inr z)) (κ (TC.ax_ (δ [1,1] 2) (TC.ret ?_)))))
 obtain rfl:=so hh
 exact ro [φ b0_0 #[mi_ u104_1 b0_0,.slice a109 ((v3.buf++[x1]).length) c110] 92,rs_ 5 e5_ a109 c110 (v3.buf++[x1])] z (RVs.tmp z RVs.nil) ⟨u104_1,a109,c110,z,z,z⟩
def kp_(x0:SB):Option (T_1):=
 some x0.buf
theorem kw_{σ:d0_}{x0:SB}{u0_1:Bool}{r:T_1}(hh:kp_ x0=some r):
  Con prog 54 #[loc b0_0 0] σ [φ b0_0 #[mi_ u0_1 b0_0,.slice a0_2 x0.buf.length c0_3] 92,rs_ 5 e5_ a0_2 c0_3 x0.buf] (fun v σ' H'=>v= .string (bs r)∧σ=σ'∧H'=[]):=by
 dsimp only [kp_]at hh
 refine Con.mk (n:=14) Tryz.func54 z z z (fun w0=> ?_)
 refine ξ (ω z (ad_ (.inr z) z) (κ (ν (TC.bv_ (Hr:=[φ b0_0 #[mi_ u0_1 b0_0,.slice a0_2 x0.buf.length c0_3] 92]) (fun r hr=>et_ [0] z hr) [] (by kernel_rfl) (Ψ 0 z (a0_ (.inl z) z) z (Ψ 1 z (ac_ z z) z (Ψ 2 z (aa_ z qd_ z) z (TA.b 3 z (ab_ z ag60 z (i:=0) z z) z (Ψ 5 z (a0_ (.inl z) z) z (Ψ 6 z (ac_ z z) z (Ψ 7 z (aa_ z qd_ z) z (TA.b 8 z (ab_ z ag60 z (i:=0) z z) z (TA.b 9 z (lenC z th_ z) z (TA.front 1 z z (TA.ac 4 z (c7_ z z underlying150 z z z (fun sq105 sh106=>(k1 ?_))))))))))))))))))
 refine TA.ac 10 z (unsStr z underlying150 ce5 z z z sh106 z (k0 ?_))
 refine Ψ 11 z (ad_ (.inr z) z) z (TA.dn (S.n (TC.rt 0 ?_)))
 obtain rfl:=so hh
 exact rq [2] ⟨z,z,z⟩
def Ci_(x1:T_1)(x0:Seq)(l126:T_1)(i129:Int)(k130:Nat):Option ((T_1×Int×Nat)⊕(T_1×Int×Bool×Int)):=
 ec_ (decide ((k130:Int)<((x1.length:Nat):Int))) (grd (0≤i129∧i129<(x0.next.length:Int)) (grd ((nth x1 k130 0).toNat<(nth x0.next i129.toNat []).length) (ec_ (decide ((nth (nth x0.next i129.toNat []) ((nth x1 k130 0).toNat) 0)<0)) (fin (some (([]:T_1),(k130:Int),false,0))) (grd (0≤i129∧i129<(x0.outs.length:Int)) (grd ((nth x1 k130 0).toNat<(nth x0.outs i129.toNat []).length) (bnd (gz_ (⟨l126⟩:SB) (nth (nth x0.outs i129.toNat []) ((nth x1 k130 0).toNat) [])) (fun v60=>nxt (v60.2.2.buf,(nth (nth x0.next i129.toNat []) ((nth x1 k130 0).toNat) 0),(k130+1))))))))) (fin (grd (0≤i129∧i129<(x0.fin.length:Int)) (ec_ (!(nth x0.fin i129.toNat false)) (some (([]:T_1),((x1.length:Nat):Int),false,0)) (grd (0≤i129∧i129<(x0.tail.length:Int)) (bnd (gz_ (⟨l126⟩:SB) (nth x0.tail i129.toNat [])) (fun v82=>bnd (kp_ (⟨v82.2.2.buf⟩:SB)) (fun v83=>some (v83,((x1.length:Nat):Int),true,0))))))))
def Ez_(x0:Seq)(x1:T_1):Option (T_1×Int×Bool×Int):=
 grd (x1.length≤281474976710656) (bnd (Dc_ x0) (fun v7=>ec_ (decide (v7≠0)) (some (([]:T_1),0,false,1)) (ec_ (decide (((x0.next.length:Nat):Int)=0)) (some (([]:T_1),0,false,0)) (bnd (gz_ (⟨([]:T_1)⟩:SB) x0.front) (fun v24=>eq_ (fun q:T_1×Int×Nat=>Ci_ x1 x0 q.1 q.2.1 q.2.2) (v24.2.2.buf,0,0))))))
theorem Hy_{σ:d0_}{x0:Seq}{x1:T_1}(f0_0:RZ σ (ea_ 1 eI_ ep_) (.slice a0_0 x0.next.length c0_0) x0.next)(f0_1:RZ σ (ea_ 1 eS_ es_) (.slice a0_1 x0.outs.length c0_1) x0.outs)(f0_2:rS_ σ e1_ a0_2 c0_2 x0.fin)(f0_3:rS_ σ eS_ a0_3 c0_3 x0.tail){r:T_1×Int×Bool×Int}(hh:Ez_ x0 x1=some r):
  Con prog 19 #[.agg (aq_ x0 a0_0 c0_0 a0_1 c0_1 a0_2 c0_2 a0_3 c0_3),.string (bs x1)] σ [] (fd_ (.tuple #[.string (bs r.1),.int .i64 r.2.1,.bool r.2.2.1,.int .i64 r.2.2.2]) σ):=by
 dsimp only [Ez_]at hh
 have f0_0b:=f0_0.big
 have f0_1b:=f0_1.big
 have f0_2b:=f0_2.rv.big
 have f0_3b:=f0_3.rv.big
 refine Con.mk (n:=70) Tryz.func19 z z z (fun w0=> ?_)
 have x1b:=n8_ hh
 replace hh:=or_ hh
 refine ξ (ζ z (boxA z z z z (fun b101=> ?_)))
 refine ω z (ad_ (.inr z) z) (θ z z (TL.j z z (θ z z (κ (ν (ξ (ω z (ak_ z h1_ fs_ z (i:=0) z z) ?_)))))))
 obtain ⟨v7,u7,hh⟩:=eb_ hh
 refine ζ z (aw_ (Ev_ (x0:=x0) f0_0 f0_1 f0_2 f0_3 u7) z z pf23 z z z ?_)
 refine ω z (OpVal.neq z z z) (κ (TC.cD z hh (fun h103 hh=> ?_) (fun h103 hh=> ?_)))
 ·refine ξ (ω z (ad_ (.inr z) z) (θ z z (TL.j z z (θ z z (κ (TC.rt 0 (S.r ?_)))))))
  obtain rfl:=so hh
  exact rq [4,5,6,7] ⟨z,z,z⟩
 refine ι (S.n (ν (ξ (ω z (aa_ z e8_ z) (ω z (ab_ z i0_ z (i:=0) z z) (ω z (lenC z fn_ z) (ω z (OpVal.eql z z z) (κ (TC.cD z hh (fun h104 hh=> ?_) (fun h104 hh=> ?_))))))))))
 ·refine ξ (ω z (ad_ (.inr z) z) (θ z z (TL.j z z (θ z z (κ (TC.rt 0 (S.r ?_)))))))
  obtain rfl:=so hh
  exact rq [4,5,6,7] ⟨z,z,z⟩
 refine ι (S.n (ξ (ζ z (OpOk.alloc z ze92 z z (fun b105=> ?_)))))
 refine TL.asH (H':=[φ b105 #[mi_ false b105,nl_] 92,cq_ b101 x0 a0_0 c0_0 a0_1 c0_1 a0_2 c0_2 a0_3 c0_3]) z (κ (ξ (ω z (aa_ z ib_ z) (ω z (ab_ z ag9 z (i:=1) z z) (TL.nilS 5 1 e5_ (ψ 1 z z ?_))))))
 obtain ⟨v24,u24,hh⟩:=eb_ hh
 refine ζ z (OpOk.call (gh_ u24) z z zs_ z z z z ?_)
 rintro _ _ _ hle108 ⟨u108_1,a108_2,c108_3,rfl,rfl,rfl⟩
 refine κ (ξ (θ z z (κ (ν (ξ (ω z (ad_ (.inl z) z) (ω z (a5_ z u9_ z) (θ z z (κ (υ (TC.ao_ (α:=(T_1×Int×Nat)×(Bool×(Option Addr)×Nat)) (rgs [(4,4),(9,3),(24,29)]) (fun g=>[(9,.int .i64 g.1.2.1),(24,.int .i64 ((g.1.2.2:Nat):Int))]) (fun g=>[cq_ b101 x0 a0_0 c0_0 a0_1 c0_1 a0_2 c0_2 a0_3 c0_3,φ b105 #[mi_ g.2.1 b105,.slice g.2.2.1 g.1.1.length g.2.2.2] 92,ε 5 1 e5_ (.slice g.2.2.1 g.1.1.length g.2.2.2) g.1.1]) (fun g=>σ) (fun g=>eq_ (fun q:T_1×Int×Nat=>Ci_ x1 x0 q.1 q.2.1 q.2.2) g.1=some r) (fun g=>eh_ (fun q:T_1×Int×Nat=>Ci_ x1 x0 q.1 q.2.1 q.2.2) g.1) ((v24.2.2.buf,0,0),(u108_1,a108_2,c108_3)) (δ [1,1,2] 3) z (by repeat (first|exact trivial|refine ⟨z,?_⟩)) hh (fun g1 j1 hg1=> ?_))))))))))))
 obtain ⟨⟨l126,i129,k130⟩,⟨u124,a127,c128⟩⟩:=g1
 have hh:=hg1;clear hg1
 try dsimp only
 obtain ⟨z1,hh,hR1⟩:=eo_ hh
 dsimp only [Ci_]at hh
 refine η (i:=2) z (fun _ hb131 _=> ?_)
 refine ξ (ω z (OpVal.lss z z z) (κ (ν (TC.cD z hh (fun h132 hh=> ?_) (fun h132 hh=> ?_)))))
 ·refine ι (S.n (ν (υ (ξ (θ z z (θ z z (κ (ν ?_))))))))
  obtain ⟨u35,hh⟩:=d6_ hh
  obtain ⟨u40,hh⟩:=d6_ hh
  refine TC.draw [] (by kernel_rfl) (Ψ 0 z (aa_ z e8_ z) z (TA.b 1 z (ab_ z i0_ z (i:=0) z z) z (Ψ 2 z (ai_ (.inl z) z) z (TA.b 3 z (OpVal.index z fn_ fp_ z z f0_0.isSl u35.1 u35.2) z ?_))))
  obtain ⟨p134,hk134,hg134⟩:=RZ.seg f0_0 i129.toNat (by omega)
  replace hk134:rS_ _ eI_ p134.1 p134.2 (nth x0.next i129.toNat []):=hk134
  have hk134b:=hk134.rv.big
  refine TA.b 4 z (OpVal.of (as_ z jx_ z hg134 z) (v':= .slice p134.1 ((nth x0.next i129.toNat []).length) p134.2) z) z (Ψ 5 z (ad_ (.inl z) z) z (Ψ 6 z (ai_ (.inl z) z) z (Ψ 7 z (bx_ z u9_ z z (by omega)) z (TA.b 8 z (af_ z e2_ sz3 z z hk134.rv.sl (by omega)) z (TA.b 9 z (al_ (0:Int) z ag3 z hk134 (by omega) z) z (Ψ 10 z (ai_ (.inr z) z) z (TA.dn (S.n (ν (ξ (θ z z (ω z (OpVal.lss z z z) (κ (TC.cD z hh (fun h135 hh=> ?_) (fun h135 hh=> ?_)))))))))))))))
  ·refine ξ (θ z z (ω z (ad_ (.inr z) z) (θ z z (TL.j z z (θ z z (κ (TC.rt 0 (S.r (B.r (S.r (S.r ?_)))))))))))
   replace hh:=el_ hR1 hh
   refine B.r (S.r ?_)
   obtain rfl:=so hh
   exact rq [4,5,6,7] ⟨z,z,z⟩
  refine ι (S.n (ν ?_))
  obtain ⟨u53,hh⟩:=d6_ hh
  obtain ⟨u58,hh⟩:=d6_ hh
  obtain ⟨v60,u60,hh⟩:=eb_ hh
  refine TC.bv_ (Hr:=[cq_ b101 x0 a0_0 c0_0 a0_1 c0_1 a0_2 c0_2 a0_3 c0_3]) (fun r hr=>et_ [0] z hr) [] (by kernel_rfl) (Ψ 0 z (aa_ z fy_ z) z (TA.b 1 z (ab_ z m4_ z (i:=0) z z) z (Ψ 2 z (ai_ (.inl z) z) z (TA.b 3 z (OpVal.index z l4_ kn_ z z f0_1.isSl u53.1 u53.2) z ?_))))
  obtain ⟨p139,hk139,hg139⟩:=RZ.seg f0_1 i129.toNat (by omega)
  replace hk139:rS_ _ eS_ p139.1 p139.2 (nth x0.outs i129.toNat []):=hk139
  have hk139b:=hk139.rv.big
  refine TA.b 4 z (OpVal.of (as_ z kv_ z hg139 z) (v':= .slice p139.1 ((nth x0.outs i129.toNat []).length) p139.2) z) z (Ψ 5 z (ad_ (.inl z) z) z (Ψ 6 z (ai_ (.inl z) z) z (Ψ 7 z (bx_ z u9_ z z (by omega)) z (TA.b 8 z (af_ z gw_ sz9 z z hk139.rv.sl (by omega)) z (TA.b 9 z (al_ ([]:T_1) z ag9 z hk139 (by omega) z) z (TA.front 2 z z (TA.front 2 z z (TA.ac 10 z (OpOk.call (gh_ u60) z z zs_ z z z z ?_)))))))))
  rintro _ _ _ hle140 ⟨u140_1,a140_2,c140_3,rfl,rfl,rfl⟩
  refine k2 (TA.dn (S.n (π (θ z z (θ z z (TL.nil (B.n (S.n (π (ω z (OpVal.succ z z z (by omega)) (θ z z (κ ?_))))))))))))
  obtain ⟨hh,hlt142⟩:=ey_ hR1 hh
  exact lf ((v60.2.2.buf,(nth (nth x0.next i129.toNat []) ((nth x1 k130 0).toNat) 0),(k130+1)),(u140_1,a140_2,c140_3)) hlt142 hh (δ [1,1,2] 3)
 refine TC.exit (S.x (S.x ?_))
 replace hh:=el_ hR1 hh
 refine Δ (S.n (ν (ξ (ω z (aa_ z gq_ z) (ω z (ab_ z nz_ z (i:=0) z z) (θ z z ?_))))))
 obtain ⟨u68,hh⟩:=d6_ hh
 refine ω z (OpVal.index z h2_ sz4 z z f0_2.rv.sl u68.1 u68.2) (ω z (al_ false z ag4 z f0_2 (by omega) z) (ω z (OpVal.not z z) (κ (TC.cB z hh (fun h143 hh=> ?_) (fun h143 hh=> ?_)))))
 ·refine ξ (ω z (ad_ (.inl z) z) (ω z (a5_ z u9_ z) (ω z (ad_ (.inr z) z) (θ z z (TL.j z z (θ z z (κ (TC.rt 0 (S.r ?_)))))))))
  obtain rfl:=so hh
  exact rq [4,5,6,7] ⟨z,z,z⟩
 refine ι (S.n (ξ (ω z (aa_ z g0_ z) (ω z (ab_ z kv_ z (i:=0) z z) (θ z z ?_)))))
 obtain ⟨u80,hh⟩:=d6_ hh
 refine ω z (OpVal.index z gw_ sz9 z z f0_3.rv.sl u80.1 u80.2) (ω z (al_ ([]:T_1) z ag9 z f0_3 (by omega) z) (ψ 2 z z (ψ 2 z z ?_)))
 obtain ⟨v82,u82,hh⟩:=eb_ hh
 refine ζ z (OpOk.call (gh_ u82) z z zs_ z z z z ?_)
 rintro _ _ _ hle144 ⟨u144_1,a144_2,c144_3,rfl,rfl,rfl⟩
 refine κ (ξ (ψ 1 z z (ψ 1 z z ?_)))
 obtain ⟨v83,u83,hh⟩:=eb_ hh
 refine ζ z (OpOk.call (kw_ u83) z z pf54 z z z z ?_)
 rintro _ _ _ hle146 ⟨rfl,rfl,rfl⟩
 refine ω z (ad_ (.inl z) z) (ω z (a5_ z u9_ z) (ω z (ad_ (.inr z) z) (θ z z (TL.j z z (θ z z (κ (TC.rt 0 ?_)))))))
 obtain rfl:=so hh
 exact rq [4,5,6,7] ⟨z,z,z⟩
end Go.Proofs.YtchebnpdnfhenaaGreatDoor
end

noncomputable section
namespace Go.E
open Go
section
variable {α:Type} {σ:d0_} {size m c:Nat} {enc:α→List Value} {a:Option Addr} {l:List α}
end
theorem OpOk.dz_{X:Ctx}{e:Env}{σ:d0_}{F:List Res}{o:Oper}{x y:Operand}{K:Env→d0_→List Res→Prop}{T b k:Nat}{E:TypeId}{cs cs':Array Value}{f:Fn}{xs ys:Array Value}(ho:o.op= .store T x y)(hs:szOf X.P T=some 1)(hd:o.dst=none)(hx:ev e x=loc b k)(hfit:Nat.ble (k+1) cs.size=true)
    (hv:ev e y= .func f xs ys) (hcs:(e7_ cs.toList k [.func f xs ys]).toArray=cs') (kk:K e σ (φ b cs' E::F)):OpOk X o e σ (φ b cs E::F) K:=OpOk.store1 ho hs hd hx hv rfl rfl hfit hcs kk
def SC(σ:d0_)(b:Nat)(cs:Array Value)(E:TypeId):Prop:=σ b=some (.cells cs E (0,0))
theorem SC.big{σ:d0_}{b:Nat}{cs:Array Value}{E:TypeId}(_:SC σ b cs E):True:=True.intro
structure YSpec (S:Type) where
  R:S→d0_→Res→Prop
  mono: ∀{s σ σ' r},R s σ r→σ.le σ'→R s σ' r
def YR{S:Type}(Z:YSpec S)(s:S)(σ:d0_)(r:Res):Prop:=Z.R s σ r
theorem YR.mono{S:Type}{Z:YSpec S}{s:S}{σ σ':d0_}{r:Res}(h:YR Z s σ r)(hle:σ.le σ'):YR Z s σ' r:=Z.mono h hle
def YOk (P : Program) (l : Nat) {S α : Type} (A : α → d0_ → List Value → Prop) (Z : YSpec S) (Y : S → α → Option (S × Bool)) : Prop :=
  ∀s x σ r args w s' b,Y s x=some (s',b)→A x σ args→YR Z s σ r→Reach w r.bl σ σ w [r]→
    YieldAt (fence none) 0 P l args.toArray w fun e w'=>e= .returned (.bool b)∧ ∃σ' r',YR Z s' σ' r'∧Reach w r.bl σ σ' w' [r']
def x3_ (P : Program) (f : FuncId) (lb : List Value) {S α : Type} (A : α → d0_ → List Value → Prop) (Y : S → α → Option (S × Bool)) (σ : d0_) (Hc : List Res) (s s' : S) (Post : d0_ → List Res → Prop) : Prop :=
  ∀(l:Nat) (Z:YSpec S) (r:Res),YOk P l A Z Y→YR Z s σ r→
    Con P f (.func (.yield l) #[] #[]::lb).toArray σ (r::Hc) fun _ σ' H'=> ∃r' Hc',H'=r'::Hc'∧YR Z s' σ' r'∧Post σ' Hc'
theorem OpOk.callY{X:Ctx}{e:Env}{σ:d0_}{H F:List Res}{o:Oper}{x:Operand}{K:Env→d0_→List Res→Prop}{l d:Nat}{opds:Array Operand}{ts:Array TypeId}{S α:Type}{A:α→d0_→List Value→Prop}{Z:YSpec S}{Y:S→α→Option (S×Bool)}{s:S}{q:S×Bool}{v:α}{r:Res}
    (hY:YOk X.P l A Z Y) (hs:YR Z s σ r) (he:Y s v=some q) (ho:o.op= .call {callee:= .value x,args:=opds,argTypes:=ts})
    (hx:ev e x= .func (.yield l) #[] #[]) (hA:A v σ (opds.toList.map (ev e))) (hd:o.dst=some d) (hn:Nat.blt d X.n=true) (hH:r::F=H)
    (k: ∀σ' r',σ.le σ'→YR Z q.1 σ' r'→K (upd e d (.bool q.2)) σ' (r'::F)):OpOk X o e σ H K:=by
  subst hH
  obtain ⟨s',b⟩:=q
  intro u0 C0 τ0 w a hw ha K' Q hK
  have hbl:fq_ [r]=r.bl:=by simp [fq_]
  have hself:Reach w r.bl σ σ w [r]:=by
    have:=(hw.sub (H':=[r]) (by simp)).self
    rwa [hbl]at this
  obtain ⟨fn,tmps,assign,body,hrun,hround⟩:=hY s v σ r _ w s' b he hA hs hself
  have hr:(execOp a.eval o).run X.P w= .ok (.round l fn tmps assign body) w:=by
    rw [ha.eval']
    have hl:(opds.toList.map (ev e)).toArray=opds.map (ev e):=by apply Array.ext';simp
    rw [hl]at hrun
    simp [execOp,ho,resolve,hx,Deferred.ofValue,invoke,hrun]
  refine Oper.b1_ hr (fun _=>by simp) ?_
  rw [Oper.uponIn_round]
  refine ⟨fun h=>(by cases h),RoundIn.mono (R:=fun e w'=>e= .returned (.bool b)∧ ∃σ' r',YR Z s' σ' r'∧Reach w r.bl σ σ' w' [r']) hround ?_⟩
  rintro ex w' ⟨rfl,σ',r',h1,h2⟩
  refine hK _ _ _ _ _ (k σ' r' h2.le h1) (Reach.call (H1:=[r]) (H1':=[r']) hw (by rw [hbl];exact h2)) (fi_ ha hd hn _)
def Res.lrec(b:Nat)(o:Obj):Res:=⟨[b],fun w=>w.heap[b]? =some o,fun w k hk h=>by simp at hk;subst hk;exact (Array.getElem?_eq_some_iff.1 h).1,fun w w' hb h=>by rw [hb b (by simp)];exact h⟩
theorem Reach.b4_{w0:World}{C:List Nat}{σ0 σ:d0_}{w:World}{l:Nat}{o o':Obj}{F:List Res}(h:Reach w0 C σ0 σ w (Res.lrec l o::F)):Reach w0 C σ0 σ (w.putObj l o') (Res.lrec l o'::F):=by
  have hl:w.heap[l]? =some o:=h.holds _ (mc_ ..)
  refine h.turn rfl rfl rfl (by simp [World.putObj]) (Nat.le_refl _) (fun k _ hk=>World.putObj_heap_other (fun e=>hk (by simp [Res.lrec,e]))) (World.putObj_heap_same (Array.getElem?_eq_some_iff.1 hl).1) (fun b hb=> .inl hb) (by simp [Res.lrec])
theorem Reach.tail{w0:World}{C:List Nat}{σ0 σ:d0_}{w:World}{r:Res}{F:List Res}(h:Reach w0 C σ0 σ w (r::F)):Reach w (fq_ F) σ σ w F:=(h.sub (List.sublist_cons_self ..)).self
theorem Reach.b5_{w0:World}{C:List Nat}{σ0 σ σ':d0_}{w w':World}{r:Res}{F F':List Res}(h:Reach w0 C σ0 σ w (r::F))(k:Reach w (fq_ F) σ σ' w' F'):Reach w0 C σ0 σ' w' (r::F'):=by
  have h1:Reach w0 C σ0 σ w (F++[r]):=h.perm (List.perm_append_singleton r F)
  exact (h1.call k).perm (List.perm_append_singleton r F').symm
def y3_(e:Env)(ps:List Tmp)(vs:List Value):Env:=(ps.zip vs).foldl (fun e p=>upd e p.1 p.2) e
theorem St.binds{n:Nat}: ∀(ps:List Tmp) (vs:List Value) {e:Env} {t:Array Value},(∀p∈ps,p<n)→St n e {tmps:=t,defers:=[]}→St n (y3_ e ps vs) {tmps:=(ps.zip vs).foldl (fun t p=>t.setIfInBounds p.1 p.2) t,defers:=[]}
  |[],_,_,_,_,h=>h
  |_::_,[],_,_,_,h=>h
  |p::ps,v::vs,e,t,hp,h=>by
    have h1:=h.put (hp p (mc_ ..)) v
    exact St.binds ps vs (fun q hq=>hp q (mm_ _ hq)) h1
@[reducible]def asgQ(K:Env→d0_→List Res→Prop):QP:=fun ex=>match ex with
  | .normal=>K
  |_=>fun _ _ _=>False
@[reducible]def rndQ(J:List Code)(K:Nat→d0_→List Res→Prop):QP:=fun ex _ σ H=>match ex with
  | .normal=>K 0 σ H
  | .ret=> ∃j,J[j]? =some .ret∧K (j+1) σ H
  | .exit i=> ∃j,J[j]? =some (.exit i)∧K (j+1) σ H
  | .goto i=> ∃j,J[j]? =some (.goto i)∧K (j+1) σ H
  |_=>False
def pw_{S α:Type}(B:S→α→Option (Nat×S))(p:Nat×S)(x:α):Option ((Nat×S)×Bool):=
  if p.1=0 then (B p.2 x).bind fun q=>some (q,q.1 == 0) else none
theorem w1_{S α:Type}{B:S→α→Option (Nat×S)}{p p':Nat×S}{x:α}{b:Bool}(h:pw_ B p x=some (p',b)):p.1=0∧B p.2 x=some p'∧b=(p'.1 == 0):=by
  unfold pw_ at h
  split at h
  · rename_i h0
    cases hb:B p.2 x with
    |none=>simp [hb]at h
    |some q=>simp [hb]at h;exact ⟨h0,by rw [h.1],by rw [←h.2,h.1]⟩
  cases h
abbrev hj_(fn:FuncId)(tmps:Array Value)(ps:Array Tmp)(assign body:Code)(D:Nat)(st:LoopState)(pe:Option Code):Loop:={state:=st,pending:=pe,fn,tmps,params:=ps,assign,body,defers:=D}
def l5_(rec:LoopState→Option Code→Loop)(J:List Code)(j:Nat):Obj:= .loop (if j=0 then rec .ready none else rec .done (J[j - 1]?))
def rndZ{S:Type}(l:Nat)(rec:LoopState→Option Code→Loop)(J:List Code)(σs:d0_)(G:S→d0_→List Res→Prop)(hG: ∀{s σ σ' H},G s σ H→σ.le σ'→G s σ' H):YSpec (Nat×S) where
  R p σ r:= ∃Hs,r=Res.star (Res.lrec l (l5_ rec J p.1)::Hs)∧G p.2 σ Hs∧σs.le σ∧(p.1≠0→ ∃c,J[p.1 - 1]? =some c)
  mono:=fun ⟨Hs,h1,h2,h3,h4⟩ hle=>⟨Hs,h1,hG h2 hle,h3.trans hle,h4⟩
theorem rm_{w0:World}{C:List Nat}{σ0 σ:d0_}{w:World}{l:Nat}{o:Obj}{F:List Res}(h:Reach w0 C σ0 σ w (Res.lrec l o::F)):l∉fq_ F∧σ l=none:=by
  have hn:=h.nodup
  simp only [fq_,List.flatMap_cons,Res.lrec,List.cons_append,List.nil_append,List.nodup_cons]at hn
  exact ⟨hn.1,h.apart _ (mc_ ..) l (by simp [Res.lrec])⟩
theorem yOk_of {P : Program} {n l : Nat} {S α : Type} {A : α → d0_ → List Value → Prop} {J : List Code} {B : S → α → Option (Nat × S)} {σs : d0_} {G : S → d0_ → List Res → Prop} {hG : ∀ {s σ σ' H}, G s σ H → σ.le σ' → G s σ' H} {fn : FuncId} {ps : Array Tmp} {assign body : Code} {e : Env} {tmps : Array Value} {D : Nat}
    (hst:St n e {tmps:=tmps,defers:=[]}) (hps: ∀p∈ps.toList,p<n) (hA: ∀x σ vs,A x σ vs→vs.length=ps.size)
    (hbody: ∀(w0:World) (C:List Nat) (τ σ:d0_) (s:S) (x:α) (q:Nat×S) (vs:List Value) (Hs:List Res),B s x=some q→σs.le σ→A x σ vs→G s σ Hs→
      TC ⟨P,w0,C,τ,n,some l,none⟩ (asgQ fun e σ H=> ∀w0 C τ,TC ⟨P,w0,C,τ,n,some l,none⟩ (rndQ J fun j σ H=>q.1=j∧G q.2 σ H) body e σ H) assign (y3_ e ps.toList vs) σ Hs):
    YOk P l A (rndZ l (hj_ fn tmps ps assign body D) J σs G hG) (pw_ B):=by
  rintro p x σ r args w p' b hy hax ⟨Hs,rfl,hg,hle, -⟩ hw
  obtain ⟨hp0,hB,rfl⟩:=w1_ hy
  rw [hp0]at hw
  have hw1:Reach w (Res.star (Res.lrec l (l5_ (hj_ fn tmps ps assign body D) J 0)::Hs)).bl σ σ w (Res.lrec l (.loop (hj_ fn tmps ps assign body D .ready none))::Hs):=by
    have:=hw.b0_
    rw [List.append_nil]at this
    exact this
  have hlen:=hA x σ args hax
  have hl1:w.heap[l]? =some (.loop (hj_ fn tmps ps assign body D .ready none)):=hw1.holds _ (mc_ ..)
  have hy:=run_yield (P:=P) (args:=args.toArray) hl1 (by simpa using hlen)
  refine ⟨fn,_,assign,body,hy,roundIn_of_wpIn trivial ?_⟩
  have hz:(ps.zip args.toArray).foldl (fun t (p,v)=>t.setIfInBounds p v) tmps=(ps.toList.zip args).foldl (fun t p=>t.setIfInBounds p.1 p.2) tmps:=by
    rw [←Array.foldl_toList,Array.toList_zip]
  have hS:St n (y3_ e ps.toList args) {tmps:=(ps.zip args.toArray).foldl (fun t (p,v)=>t.setIfInBounds p v) tmps,defers:=[]}:=by
    rw [hz];exact St.binds _ _ hps hst
  refine wpIn_mono (hbody w (fq_ Hs) σ σ p.2 x p' args Hs hB hle hax hg w _ ⟨hw1.tail,⟨fun _=>⟨[],rfl,List.nodup_nil,by simp⟩,(fun _ h=>by cases h),fun l' hl'=> ?_⟩⟩ hS) ?_
  · cases hl';exact ⟨rfl,⟨_,hl1⟩,(rm_ hw1).1,(rm_ hw1).2⟩
  rintro ex a2 w2 ⟨e2,σ2,H2,hS2,hw2,hq2⟩
  cases ex with
  |normal=>
    have hw2':=hw1.b5_ hw2.toReach
    have hl2:w2.heap[l]? =some (.loop (hj_ fn tmps ps assign body D .ready none)):=hw2'.holds _ (mc_ ..)
    have hw3:=hw2'.b4_ (o':= .loop (hj_ fn tmps ps assign body D .busy none))
    have hl3:(w2.putObj l (.loop (hj_ fn tmps ps assign body D .busy none))).heap[l]? =some (.loop (hj_ fn tmps ps assign body D .busy none)):=hw3.holds _ (mc_ ..)
    have hd2:a2.defers=[]:=(hw2.marks.rc l rfl).1
    refine ⟨_,run_beginRound hl2 rfl,?_⟩
    refine wpIn_mono (hq2 _ (fq_ H2) σ2 _ a2 ⟨hw3.tail,⟨fun _=>⟨[],by rw [hd2];rfl,List.nodup_nil,by simp⟩,(fun _ h=>by cases h),fun l' hl'=> ?_⟩⟩ hS2) ?_
    · cases hl';exact ⟨hd2,⟨_,hl3⟩,(rm_ hw3).1,(rm_ hw3).2⟩
    rintro ex a4 w4 ⟨e4,σ4,H4,hS4,hw4,hq4⟩
    have hw4':=hw3.b5_ hw4.toReach
    have hl4:w4.heap[l]? =some (.loop (hj_ fn tmps ps assign body D .busy none)):=hw4'.holds _ (mc_ ..)
    have fin: ∀(jump:Option Code) (j:Nat),p'.1=j→(j=0→jump=none)→(j≠0→jump=J[j - 1]? ∧ ∃c,jump=some c)→G p'.2 σ4 H4→ ∃v w',(Instr.endRound l jump).run P w4= .ok v w'∧(Ending.returned v= .returned (.bool (p'.1 == 0))∧ ∃σ' r',YR (rndZ l (hj_ fn tmps ps assign body D) J σs G hG) p' σ' r'∧Reach w (Res.star (Res.lrec l (l5_ (hj_ fn tmps ps assign body D) J p.1)::Hs)).bl σ σ' w' [r']):=fun jump j h1 h2 h3 h4=>by
      have h6:Obj.loop (hj_ fn tmps ps assign body D (if jump.isNone then .ready else .done) jump)=l5_ (hj_ fn tmps ps assign body D) J p'.1:=by
        unfold l5_
        rw [h1]
        by_cases h0:j=0
        · rw [if_pos h0,h2 h0];rfl
        obtain ⟨h7,c,h8⟩:=h3 h0
        rw [if_neg h0,←h7,h8];rfl
      refine ⟨_,_,run_endRound jump hl4,?_,σ4,Res.star (Res.lrec l (l5_ (hj_ fn tmps ps assign body D) J p'.1)::H4),⟨H4,rfl,h4,hle.trans hw4'.le,fun h=> ?_⟩,?_⟩
      · rw [h1]
        by_cases h0:j=0
        · rw [h2 h0,h0];rfl
        obtain ⟨_,c,hc⟩:=h3 h0
        rw [hc];simp [h0]
      · rw [h1]at h ⊢
        obtain ⟨h5,c,h6⟩:=h3 h
        exact ⟨c,by rw [←h5,h6]⟩
      have h5:=hw4'.b4_ (o':= .loop (hj_ fn tmps ps assign body D (if jump.isNone then .ready else .done) jump))
      show Reach w _ σ σ4 (w4.putObj l (.loop (hj_ fn tmps ps assign body D (if jump.isNone then .ready else .done) jump))) _
      rw [h6]at h5 ⊢
      rw [hp0]
      exact Reach.star (G:=Res.lrec l (l5_ (hj_ fn tmps ps assign body D) J p'.1)::H4) (F:=[]) (by rw [List.append_nil];exact h5)
    cases ex with
    |normal=>exact fin none 0 hq4.1 (fun _=>rfl) (fun h=>absurd rfl h) hq4.2
    |ret=>obtain ⟨j,hj,h1,h2⟩:=hq4;exact fin (some .ret) (j+1) h1 (fun h=>by cases h) (fun _=>⟨by simpa using hj.symm,_,rfl⟩) h2
    |exit i=>obtain ⟨j,hj,h1,h2⟩:=hq4;exact fin (some (.exit i)) (j+1) h1 (fun h=>by cases h) (fun _=>⟨by simpa using hj.symm,_,rfl⟩) h2
    |goto i=>obtain ⟨j,hj,h1,h2⟩:=hq4;exact fin (some (.goto i)) (j+1) h1 (fun h=>by cases h) (fun _=>⟨by simpa using hj.symm,_,rfl⟩) h2
    |panic c=>exact hq4.elim
    |outgrown=>exact hq4.elim
  |exit i=>exact hq2.elim
  |goto i=>exact hq2.elim
  |ret=>exact hq2.elim
  |panic c=>exact hq2.elim
  |outgrown=>exact hq2.elim
@[reducible]def jmpQ(X:Ctx)(Q:QP)(J:List Code):Nat→Env→d0_→List Res→Prop
  |0=>Q .normal
  |j+1=>fun e σ H=> ∀c,J[j]? =some c→TC X Q c e σ H
theorem TC.rangeFunc {X : Ctx} {Q : QP} {e : Env} {σ : d0_} {H Hs Hc : List Res} {S α : Type} {g : Operand} {ps : Array Tmp} {assign body : Code} {f : Nat} {lb : List Value} {A : α → d0_ → List Value → Prop}
    (J:List Code) (B:S→α→Option (Nat×S)) (G:S→d0_→List Res→Prop) {s:S} {q:Nat×S} {PostC:d0_→List Res→Prop}
    (hg:ev e g= .func (.func f) #[] lb.toArray) (hp:plainF X.P f=true) (hH:Hs++Hc=H) (hps:ps.toList.all (fun p=>Nat.blt p X.n)=true)
    (hG: ∀{s σ σ' H},G s σ H→σ.le σ'→G s σ' H) (h0:G s σ Hs) (hA: ∀x σ vs,A x σ vs→vs.length=ps.size)
    (hit:x3_ X.P f lb A (pw_ B) σ Hc (0,s) q PostC)
    (hbody: ∀(l:Nat) (w0:World) (C:List Nat) (τ σ':d0_) (s:S) (x:α) (q:Nat×S) (vs:List Value) (Hs:List Res),B s x=some q→σ.le σ'→A x σ' vs→G s σ' Hs→
      TC ⟨X.P,w0,C,τ,X.n,some l,none⟩ (asgQ fun e σ H=> ∀w0 C τ,TC ⟨X.P,w0,C,τ,X.n,some l,none⟩ (rndQ J fun j σ H=>q.1=j∧G q.2 σ H) body e σ H) assign (y3_ e ps.toList vs) σ' Hs)
    (hdone: ∀σ' Hs' Hc',σ.le σ'→G q.2 σ' Hs'→PostC σ' Hc'→jmpQ X Q J q.1 e σ' (Hs'++Hc')) (hown:X.own=none:=by rfl):TC X Q (.rangeFunc g ps assign body) e σ H:=by
  subst hH
  intro w a hw ha
  have hps': ∀p∈ps.toList,p<X.n:=fun p hp=>by
    have:=List.all_eq_true.1 hps p hp
    simpa [Nat.blt_eq]using this
  refine wpIn_rangeFunc fun fn _=> ?_
  have key: ∀(l D:Nat) (w1:World) (a1:Act),a1.tmps=a.tmps→RM X a1 σ w1 (Res.lrec l (.loop (hj_ fn a.tmps ps assign body D .ready none))::(Hs++Hc))→
      CallsIn (fence X.rnd) 0 X.P f (#[.func (.yield l) #[] #[]]++lb.toArray) w1 (rangePost (fence X.rnd) 0 X.P l (low X Q) a1):=by
    intro l D w1 a1 ht hw1
    have hcon:=hit l (rndZ l (hj_ fn a.tmps ps assign body D) J σ G hG) (Res.star (Res.lrec l (l5_ (hj_ fn a.tmps ps assign body D) J 0)::Hs))
      (yOk_of ⟨ha.size,ha.get⟩ hps' hA (hbody l)) ⟨Hs,rfl,h0,d0_.le.refl _,fun h=>absurd rfl h⟩
    have hst:RM X a1 σ w1 (Res.star (Res.lrec l (l5_ (hj_ fn a.tmps ps assign body D) J 0)::Hs)::Hc):=hw1.by fun _ k=>Reach.star (G:=Res.lrec l (l5_ (hj_ fn a.tmps ps assign body D) J 0)::Hs) (F:=Hc) k
    have hcall:=hcon w1 hst.self
    have hargs:(Value.func (.yield l) #[] #[]::lb).toArray= #[.func (.yield l) #[] #[]]++lb.toArray:=by apply Array.ext';simp
    rw [hargs]at hcall
    refine ht_.2 (hcall.mono ?_)
    rintro ex w2 ⟨v,σ2,H2,rfl,⟨r',Hc',rfl,⟨Hs',rfl,hg2,hle,hJ⟩,hpc⟩,hw2⟩
    have hw3:RM X a1 σ2 w2 (Res.lrec l (l5_ (hj_ fn a.tmps ps assign body D) J q.1)::(Hs'++Hc')):=(hst.step hw2 rfl).by fun _ k=>k.b0_
    have hl:w2.heap[l]? =some (l5_ (hj_ fn a.tmps ps assign body D) J q.1):=hw3.holds _ (mc_ ..)
    have hS1:St X.n e a1:=⟨by rw [ht];exact ha.size,fun t=>by rw [ht];exact ha.get t⟩
    have hw5: ∀o',RM X a1 σ2 (w2.putObj l o') (Hs'++Hc'):=fun o'=>hw3.step ((hw3.self.b4_ (o':=o')).sub (List.sublist_cons_self ..)) rfl
    have hfin:=hdone σ2 Hs' Hc' hle hg2 hpc
    unfold l5_ at hl
    cases hq:q.1 with
    |zero=>
      rw [hq]at hl hfin
      exact ⟨none,_,run_endLoop hl (by simp),e,σ2,_,hS1,hw5 _,hfin⟩
    |succ j=>
      rw [hq]at hl hfin hJ
      obtain ⟨c,hc⟩:=hJ (by simp)
      simp only [Nat.add_sub_cancel,Nat.succ_ne_zero,if_false]at hl hc
      rw [hc]at hl
      exact ⟨some c,_,run_endLoop hl (by simp),hfin c hc _ a1 (hw5 _) hS1⟩
  have hnew: ∀k,k<w.heap.size∨True:=fun _=> .inr trivial
  have hres: ∀l w1,(resolve a.eval (rangeCall g l) 0).run X.P w1= .ok {target:= .fn (.func f) lb.toArray,args:= #[.func (.yield l) #[] #[]]} w1:=fun l w1=>by
    rw [ha.eval']
    simp only [resolve,hg]
    simp [go_sem,Deferred.ofValue,ev]
  have hinv: ∀l w1,(invoke (.fn (.func f) lb.toArray) #[.func (.yield l) #[] #[]]).run X.P w1= .ok (.enter f (#[.func (.yield l) #[] #[]]++lb.toArray)) w1:=fun l w1=>by
    simp [invoke,ft_ hp]
  cases hr:X.rnd with
  |none=>
    refine ⟨w.heap.size+1,_,_,_,_,f,_,_,run_enterLoop_outer _ _ _ _ _,hres _ _,fun _ _=>trivial,hinv _ _,(fun h=>by cases h),hr▸key (w.heap.size+1) w.heap.size _ _ rfl ?_⟩
    have hsz:((w.alloc (.deferred (some []))).heap.size)=w.heap.size+1:=by simp
    have hold: ∀k,k<w.heap.size→((w.alloc (.deferred (some []))).alloc (.loop (hj_ fn a.tmps ps assign body w.heap.size .ready none))).heap[k]? =w.heap[k]? :=fun k hk=>by
      rw [gu_ _ _ _ (by omega),gu_ _ _ _ hk]
    have hR:Reach w (fq_ (Hs++Hc)) σ σ ((w.alloc (.deferred (some []))).alloc (.loop (hj_ fn a.tmps ps assign body w.heap.size .ready none))) (Res.lrec (w.heap.size+1) (.loop (hj_ fn a.tmps ps assign body w.heap.size .ready none))::(Hs++Hc)):=
      hw.self.gain rfl rfl rfl (by simp;omega) (Nat.le_refl _) hold (by
        have:=World.alloc_heap_new (w.alloc (.deferred (some []))) (.loop (hj_ fn a.tmps ps assign body w.heap.size .ready none))
        rw [hsz]at this;exact this) (fun b hb=>by simp [Res.lrec]at hb;omega) (by simp [Res.lrec])
    have h1:=hw.step hR (a':=a) rfl
    refine ⟨h1.toReach,⟨fun _=> ?_,(fun _ h=>by rw [hown]at h;cases h),fun l hl=>by rw [hr]at hl;cases hl⟩⟩
    obtain ⟨Ds,g1,g2,g3⟩:=h1.marks.ex hown
    obtain ⟨Ds0,g10,g20,g30⟩:=hw.marks.ex hown
    have hDs:Ds=Ds0:=by
      have:=g1.symm.trans g10
      have h2: ∀(A B:List Nat),A.map (fun D=>({target:= .collected D,args:= #[]}:Deferred))=B.map (fun D=>({target:= .collected D,args:= #[]}:Deferred))→A=B:=fun A=>by
        induction A with
        |nil=>intro B h;cases B with
          |nil=>rfl
          |cons b B=>simp at h
        |cons a A ih=>intro B h;cases B with
          |nil=>simp at h
          |cons b B=>simp only [List.map_cons,List.cons.injEq,Deferred.mk.injEq,Target.collected.injEq,and_true]at h;rw [h.1,ih B h.2]
      exact h2 _ _ this
    subst hDs
    refine ⟨w.heap.size::Ds,by simp [g1],List.nodup_cons.2 ⟨fun hx=> ?_,g2⟩,fun D hD=> ?_⟩
    · have:=(Array.getElem?_eq_some_iff.1 (g30 _ hx).1).1;omega
    rcases List.mem_cons.1 hD with rfl|hD
    · refine ⟨?_,hw.size,fun hx=> ?_,?_⟩
      · rw [gu_ _ _ _ (by omega)];exact World.alloc_heap_new w _
      · simp only [fq_,List.flatMap_cons,Res.lrec,List.cons_append,List.nil_append,List.mem_cons]at hx
        rcases hx with hx|hx
        · omega
        obtain ⟨r,hr',hb⟩:=e9_.1 hx
        have:=hw.block_lt hr' hb;omega
      cases hs:σ w.heap.size with
      |none=>rfl
      |some o=>have:=(Array.getElem?_eq_some_iff.1 (hw.fit _ _ hs)).1;omega
    exact g3 D hD
  |some l0=>
    obtain ⟨hd0,⟨r0,h1⟩,h2,h3⟩:=hw.marks.rc l0 hr
    refine ⟨w.heap.size,_,_,_,_,f,_,_,run_enterLoop_inner h1 _ _ _ _ _,hres _ _,fun _ _=>trivial,hinv _ _,(fun h=>by cases h),hr▸key w.heap.size r0.defers _ a rfl ?_⟩
    refine hw.step (hw.self.gain rfl rfl rfl (by simp) (Nat.le_refl _) (fun k hk=>gu_ _ _ _ hk) (World.alloc_heap_new w _) (fun b hb=>by simp [Res.lrec]at hb;omega) (by simp [Res.lrec])) rfl
theorem TC.rangeG{X:Ctx}{Q:QP}{e:Env}{σ:d0_}{H Hs Hc:List Res}{S α:Type}{g:Operand}{ps:Array Tmp}{assign body:Code}{f:Nat}{lb:List Value}{A:α→d0_→List Value→Prop}
    (J:List Code) (B:S→α→Option (Nat×S)) (G:S→d0_→List Res→Prop) {s:S} {q:Nat×S} {PostC:d0_→List Res→Prop}
    (hg:ev e g= .func (.func f) #[] lb.toArray) (hp:plainF X.P f=true) (hH:Hs++Hc=H) (hps:ps.toList.all (fun p=>Nat.blt p X.n)=true)
    (hG: ∀{s σ σ' H},G s σ H→σ.le σ'→G s σ' H) (h0:G s σ Hs) (hA: ∀x σ vs,A x σ vs→vs.length=ps.size)
    (hit:x3_ X.P f lb A (pw_ B) σ Hc (0,s) q PostC)
    (hbody: ∀(l:Nat) (w0:World) (C:List Nat) (τ σ':d0_) (s:S) (x:α) (q:Nat×S) (vs:List Value) (Hs:List Res),B s x=some q→σ.le σ'→A x σ' vs→G s σ' Hs→
      TC ⟨X.P,w0,C,τ,X.n,some l,none⟩ (asgQ fun e σ H=> ∀w0 C τ,TC ⟨X.P,w0,C,τ,X.n,some l,none⟩ (rndQ J fun j σ H=>q.1=j∧ ∃F,Sub F H∧G q.2 σ F) body e σ H) assign (y3_ e ps.toList vs) σ' Hs)
    (hdone: ∀σ' Hs' Hc',σ.le σ'→G q.2 σ' Hs'→PostC σ' Hc'→jmpQ X Q J q.1 e σ' (Hs'++Hc')) (hown:X.own=none:=by rfl):TC X Q (.rangeFunc g ps assign body) e σ H:=by
  refine TC.rangeFunc J B G hg hp hH hps hG h0 hA hit (fun l w0 C τ σ' s x q vs Hs h1 h2 h3 h4=>(hbody l w0 C τ σ' s x q vs Hs h1 h2 h3 h4).weak fun ex e σ H h=> ?_) hdone hown
  cases ex with
  |normal=>
    refine fun w0 C τ=>TC.bz_ ((h w0 C τ).weak fun ex e σ H h=> ?_)
    cases ex with
    |normal=>obtain ⟨h1,F,hs,hg⟩:=h;exact ⟨F,hs,h1,hg⟩
    |ret=>obtain ⟨j,hj,h1,F,hs,hg⟩:=h;exact ⟨F,hs,j,hj,h1,hg⟩
    |exit i=>obtain ⟨j,hj,h1,F,hs,hg⟩:=h;exact ⟨F,hs,j,hj,h1,hg⟩
    |goto i=>obtain ⟨j,hj,h1,F,hs,hg⟩:=h;exact ⟨F,hs,j,hj,h1,hg⟩
    |panic c=>exact h.elim
    |outgrown=>exact h.elim
  |exit i=>exact h
  |goto i=>exact h
  |ret=>exact h
  |panic c=>exact h
  |outgrown=>exact h
theorem asg_n{K:Env→d0_→List Res→Prop}{e:Env}{σ:d0_}{H:List Res}(h:K e σ H):asgQ K .normal e σ H:=h
theorem rnd_n{J:List Code}{K:Nat→d0_→List Res→Prop}{e:Env}{σ:d0_}{H:List Res}(h:K 0 σ H):rndQ J K .normal e σ H:=h
def jsel{α:Type}:Nat→Option α→(Nat→Option α)→Option α
  |0,a,_=>a
  |n+1,_,b=>b n
theorem yg_{X:Ctx}{Q:QP}{J:List Code}{n:Nat}{e:Env}{σ:d0_}{H:List Res}{α:Type}{a:Option α}{b:Nat→Option α}{r:α}(hh:jsel n a b=some r)
    (h0:a=some r→Q .normal e σ H) (h1: ∀m c,b m=some r→J[m]? =some c→TC X Q c e σ H):jmpQ X Q J n e σ H:=by
  cases n with
  |zero=>exact h0 hh
  |succ m=>exact fun c hc=>h1 m c hh hc
theorem jl_nil{X:Ctx}{Q:QP}{c:Code}{m:Nat}{e:Env}{σ:d0_}{H:List Res}(hc:([]:List Code)[m]? =some c):TC X Q c e σ H:=by simp at hc
end Go.E
end

noncomputable section
namespace Go.Proofs.YtchebnpdnfhenaaGreatDoor
open Go Go.E Go.E.OpVal Go.E.OpOk Go.Proofs.Tryz
open List (replicate)
theorem ag147:aggOf Tryz.prog 147=some false:=by kernel_rfl
theorem by3:byOf Tryz.prog 3=some 8:=by kernel_rfl
theorem im_:byOf Tryz.prog 86=some 24:=by kernel_rfl
theorem pf122:plainF Tryz.prog 122=true:=by kernel_rfl
theorem pf123:plainF Tryz.prog 123=true:=by kernel_rfl
theorem pf152:plainF Tryz.prog 152=true:=by kernel_rfl
theorem pf56:plainF Tryz.prog 56=true:=by kernel_rfl
theorem pf85:plainF Tryz.prog 85=true:=by kernel_rfl
theorem pl66:plOf Tryz.prog 66=some #[(0,1),(1,1),(2,4),(6,1),(7,1)]:=by kernel_rfl
theorem wl_:plOf Tryz.prog 76=some #[(0,1),(1,1)]:=by kernel_rfl
theorem sz147:szOf Tryz.prog 147=some 1:=by kernel_rfl
theorem w3_:szOf Tryz.prog 22=some 1:=by kernel_rfl
theorem u4_:szOf Tryz.prog 23=some 1:=by kernel_rfl
theorem go_:szOf Tryz.prog 27=some 1:=by kernel_rfl
theorem sz29:szOf Tryz.prog 29=some 1:=by kernel_rfl
theorem ze147:zeroOf Tryz.prog 147=some (.nilFunc):=by kernel_rfl
theorem kg_:zeroOf Tryz.prog 27=some (nl_):=by kernel_rfl
theorem ze29:zeroOf Tryz.prog 29=some (nl_):=by kernel_rfl
theorem h4_:zeroOf Tryz.prog 86=some (nl_):=by kernel_rfl
def Ar_(x2:N_2)(x0:Int)(self_:Int→B_1→N_2→Option B_1)(l124:B_1)(k127:Nat):Option ((B_1×Nat)⊕(B_1)):=
 ec_ (decide ((k127:Int)<(((nth x2 x0.toNat []).length:Nat):Int))) (bnd (self_ (nth (nth x2 x0.toNat []) k127 0) l124 x2) (fun v21=>nxt (v21,(k127+1)))) (fin (some l124))
def Dv_(self_:Int→B_1→N_2→Option B_1)(x0:Int)(x1:B_1)(x2:N_2):Option (B_1):=
 grd (0≤x0∧x0<(x1.length:Int)) (ec_ (nth x1 x0.toNat false) (some x1) (grd (0≤x0∧x0<(x1.length:Int)) (grd (0≤x0∧x0<(x2.length:Int)) (eq_ (fun q:B_1×Nat=>Ar_ x2 x0 self_ q.1 q.2) ((x1.set x0.toNat true),0)))))
def Bm_:Nat→Int→B_1→N_2→Option B_1
 |0=>fun _ _ _=>none
 |n+1=>Dv_ (Bm_ n)
theorem G2_ {self_:Int→B_1→N_2→Option B_1} (self__con: ∀{σ:d0_} {x0:Int} {x1:B_1} {b1_0:Nat} {Eb1:Nat} {a1_1:Option Addr} {c1_2:Nat} {x2:N_2} {b2_0:Nat} {Eb2:Nat} {a2_1:Option Addr} {c2_2:Nat} {b3_0:Nat} {Eb3:Nat} (f2_3:RZ σ (ea_ 1 eI_ ep_) (.slice a2_1 x2.length c2_2) x2) {r:B_1} (hh:self_ x0 x1 x2=some r),
  Con prog 152 #[.int .i64 x0,loc b1_0 0,loc b2_0 0,loc b3_0 0] σ [φ b1_0 #[.slice a1_1 x1.length c1_2] Eb1,rs_ 4 e1_ a1_1 c1_2 x1,φ b2_0 #[.slice a2_1 x2.length c2_2] Eb2,φ b3_0 #[.func (.func 152) #[] #[loc b1_0 0,loc b2_0 0,loc b3_0 0]] Eb3] (fun v σ' H'=> ∃ao1 co2,v= .tuple #[]∧σ=σ'∧H'=[φ b1_0 #[.slice ao1 r.length co2] Eb1,rs_ 4 e1_ ao1 co2 r,φ b2_0 #[.slice a2_1 x2.length c2_2] Eb2,φ b3_0 #[.func (.func 152) #[] #[loc b1_0 0,loc b2_0 0,loc b3_0 0]] Eb3])) {σ:d0_} {x0:Int} {x1:B_1} {b1_0:Nat} {Eb1:Nat} {a1_1:Option Addr} {c1_2:Nat} {x2:N_2} {b2_0:Nat} {Eb2:Nat} {a2_1:Option Addr} {c2_2:Nat} {b3_0:Nat} {Eb3:Nat} (f2_3:RZ σ (ea_ 1 eI_ ep_) (.slice a2_1 x2.length c2_2) x2) {r:B_1} (hh:Dv_ self_ x0 x1 x2=some r):
  Con prog 152 #[.int .i64 x0,loc b1_0 0,loc b2_0 0,loc b3_0 0] σ [φ b1_0 #[.slice a1_1 x1.length c1_2] Eb1,rs_ 4 e1_ a1_1 c1_2 x1,φ b2_0 #[.slice a2_1 x2.length c2_2] Eb2,φ b3_0 #[.func (.func 152) #[] #[loc b1_0 0,loc b2_0 0,loc b3_0 0]] Eb3] (fun v σ' H'=> ∃ao1 co2,v= .tuple #[]∧σ=σ'∧H'=[φ b1_0 #[.slice ao1 r.length co2] Eb1,rs_ 4 e1_ ao1 co2 r,φ b2_0 #[.slice a2_1 x2.length c2_2] Eb2,φ b3_0 #[.func (.func 152) #[] #[loc b1_0 0,loc b2_0 0,loc b3_0 0]] Eb3]):=by
 dsimp only [Dv_]at hh
 have f2_3b:=f2_3.big
 refine Con.mk (n:=27) Tryz.func152 z z z (fun w0=> ?_)
 refine TC.bz_ (ν (ξ (ω z (ab_ z nz_ z (i:=0) z z) (θ z z ?_))))
 obtain ⟨u3,hh⟩:=d6_ hh
 refine TL.isSl (i:=1) z (fun hs107 _ _=> ?_)
 refine ω z (OpVal.index z h2_ sz4 z z hs107 u3.1 u3.2) (ω z (a4_ false z ag4 z (q:=1) z em_ (by omega) z) (κ (TC.cB z hh (fun h108 hh=> ?_) (fun h108 hh=> ?_))))
 ·refine TC.ret (S.r ?_)
  obtain rfl:=so hh
  refine ⟨_,δ [3,3,3,3] 4,?_⟩
  exact ro [φ b1_0 #[.slice a1_1 x1.length c1_2] Eb1,rs_ 4 e1_ a1_1 c1_2 x1,φ b2_0 #[.slice a2_1 x2.length c2_2] Eb2,φ b3_0 #[.func (.func 152) #[] #[loc b1_0 0,loc b2_0 0,loc b3_0 0]] Eb3] z RVs.nil ⟨a1_1,c1_2,z,z,z⟩
 refine ι (S.n (ξ (ω z (ab_ z nz_ z (i:=0) z z) (θ z z ?_))))
 obtain ⟨u7,hh⟩:=d6_ hh
 refine TL.isSl (i:=1) z (fun hs109 _ _=> ?_)
 refine ω z (OpVal.index z h2_ sz4 z z hs109 u7.1 u7.2) (ψ 1 z z ?_)
 have hn110:(x1.set x0.toNat true).length=x1.length:=by rw [ls_]
 refine ζ z (ay_ true z sz4 z z z z em_ fm_ (by omega) (by omega) ?_)
 refine κ (ξ (ω z (ab_ z i0_ z (i:=2) z z) (θ z z ?_)))
 obtain ⟨u11,hh⟩:=d6_ hh
 refine ω z (OpVal.index z fn_ fp_ z z f2_3.isSl u11.1 u11.2) ?_
 obtain ⟨p111,hk111,hg111⟩:=RZ.seg f2_3 x0.toNat (by omega)
 replace hk111:rS_ _ eI_ p111.1 p111.2 (nth x2 x0.toNat []):=hk111
 have hk111b:=hk111.rv.big
 refine ω z (OpVal.of (as_ z jx_ z hg111 z) (v':= .slice p111.1 ((nth x2 x0.toNat []).length) p111.2) z) (ω z (lenC z e2_ z) (θ z z (κ (υ ?_))))
 rw [←hn110]
 refine TC.ao_ (α:=(B_1×Nat)×((Option Addr)×Nat)) (rgs [(6,1),(19,8)]) (fun g=>[(19,.int .i64 ((g.1.2:Nat):Int))]) (fun g=>[φ b3_0 #[.func (.func 152) #[] #[loc b1_0 0,loc b2_0 0,loc b3_0 0]] Eb3,φ b1_0 #[.slice g.2.1 g.1.1.length g.2.2] Eb1,ε 4 1 e1_ (.slice g.2.1 g.1.1.length g.2.2) g.1.1,φ b2_0 #[.slice a2_1 x2.length c2_2] Eb2]) (fun g=>σ) (fun g=>eq_ (fun q:B_1×Nat=>Ar_ x2 x0 self_ q.1 q.2) g.1=some r) (fun g=>eh_ (fun q:B_1×Nat=>Ar_ x2 x0 self_ q.1 q.2) g.1) (((x1.set x0.toNat true),0),(a1_1,c1_2)) (δ [2,1,2,3] 4) z (by repeat (first|exact trivial|refine ⟨z,?_⟩)) hh (fun g1 j1 hg1=> ?_)
 obtain ⟨⟨l124,k127⟩,⟨a125,c126⟩⟩:=g1
 have hh:=hg1;clear hg1
 try dsimp only
 obtain ⟨z1,hh,hR1⟩:=eo_ hh
 dsimp only [Ar_]at hh
 refine η (i:=2) z (fun _ hb128 _=> ?_)
 refine ξ (ω z (OpVal.lss z z z) (κ (ν (TC.cD z hh (fun h129 hh=> ?_) (fun h129 hh=> ?_)))))
 ·refine ι (S.n (ν (υ (ξ (ω z (af_ z e2_ sz3 z z hk111.rv.sl (by omega)) (ω z (al_ (0:Int) z ag3 z hk111 (by omega) z) (θ z z (κ (π (ω z (ab_ z ag147 z (i:=0) z z) (θ z z (ψ 3 z z (ψ 3 z z (ψ 3 z z ?_))))))))))))))
  obtain ⟨v21,u21,hh⟩:=eb_ hh
  refine ζ z (OpOk.call (self__con f2_3 u21) z z pf152 z z z z ?_)
  rintro _ _ _ hle130 ⟨a130_1,c130_2,rfl,rfl,rfl⟩
  refine TL.nil (B.n (S.n (π (ω z (OpVal.succ z z z (by omega)) (θ z z (κ ?_))))))
  obtain ⟨hh,hlt132⟩:=ey_ hR1 hh
  exact lf ((v21,(k127+1)),(a130_1,c130_2)) hlt132 hh (δ [2,2,2,3] 4)
 refine TC.exit (S.x (S.x ?_))
 replace hh:=el_ hR1 hh
 refine Δ ?_
 obtain rfl:=so hh
 refine ⟨_,δ [3,3,3] 4,?_⟩
 exact RetOk.mk' (rs:=[]) [φ b1_0 #[.slice a125 l124.length c126] Eb1,rs_ 4 e1_ a125 c126 l124,φ b2_0 #[.slice a2_1 x2.length c2_2] Eb2,φ b3_0 #[.func (.func 152) #[] #[loc b1_0 0,loc b2_0 0,loc b3_0 0]] Eb3] z (.inr z) RVs.nil (List.sublist_append_left _ _) ⟨a125,c126,z,z,z⟩
theorem G9_{n_:Nat}: ∀{σ:d0_} {x0:Int} {x1:B_1} {b1_0:Nat} {Eb1:Nat} {a1_1:Option Addr} {c1_2:Nat} {x2:N_2} {b2_0:Nat} {Eb2:Nat} {a2_1:Option Addr} {c2_2:Nat} {b3_0:Nat} {Eb3:Nat} (f2_3:RZ σ (ea_ 1 eI_ ep_) (.slice a2_1 x2.length c2_2) x2) {r:B_1} (hh:Bm_ n_ x0 x1 x2=some r),
  Con prog 152 #[.int .i64 x0,loc b1_0 0,loc b2_0 0,loc b3_0 0] σ [φ b1_0 #[.slice a1_1 x1.length c1_2] Eb1,rs_ 4 e1_ a1_1 c1_2 x1,φ b2_0 #[.slice a2_1 x2.length c2_2] Eb2,φ b3_0 #[.func (.func 152) #[] #[loc b1_0 0,loc b2_0 0,loc b3_0 0]] Eb3] (fun v σ' H'=> ∃ao1 co2,v= .tuple #[]∧σ=σ'∧H'=[φ b1_0 #[.slice ao1 r.length co2] Eb1,rs_ 4 e1_ ao1 co2 r,φ b2_0 #[.slice a2_1 x2.length c2_2] Eb2,φ b3_0 #[.func (.func 152) #[] #[loc b1_0 0,loc b2_0 0,loc b3_0 0]] Eb3]):=by
 induction n_ with
 |zero=>intro σ x0 x1 b1_0 Eb1 a1_1 c1_2 x2 b2_0 Eb2 a2_1 c2_2 b3_0 Eb3 f2_3 r hh;exact absurd hh (by intro h_;cases h_)
 |succ k_ ih_=>
  intro σ x0 x1 b1_0 Eb1 a1_1 c1_2 x2 b2_0 Eb2 a2_1 c2_2 b3_0 Eb3 f2_3 r hh
  exact G2_ (self_:=Bm_ k_) @ih_ f2_3 hh
def Ba_(x0:List Tip)(x1:N_2)(l121:B_1)(k124:Nat):Option ((B_1×Nat)⊕(B_1)):=
 ec_ (decide ((k124:Int)<((x0.length:Nat):Int))) (bnd (Bm_ (l121.length+1) ((nth x0 k124 tz_).state) l121 x1) (fun v22=>nxt (v22,(k124+1)))) (fin (some l121))
def D8_(x0:List Tip)(x1:N_2):Option (B_1):=
 grd (1 * x1.length≤281474976710656) (eq_ (fun q:B_1×Nat=>Ba_ x0 x1 q.1 q.2) ((replicate x1.length false),0))
def H2_(σ:d0_)(r:B_1):Value→d0_→List Res→Prop:=fun v σ' H'=>
 ∃a1 c1,v= .slice a1 r.length c1∧σ=σ'∧H'=[rs_ 4 e1_ a1 c1 r]
theorem Ga_{σ:d0_}{x0:List Tip}{x1:N_2}(f0_0:RS σ 2 d2_ (.slice a0_0 x0.length c0_0) x0)(f1_0:RZ σ (ea_ 1 eI_ ep_) (.slice a1_0 x1.length c1_0) x1){r:B_1}(hh:D8_ x0 x1=some r):
  Con prog 123 #[.slice a0_0 x0.length c0_0,.slice a1_0 x1.length c1_0] σ [] (H2_ σ r):=by
 dsimp only [D8_]at hh
 have f0_0b:=f0_0.rv.big
 have f1_0b:=f1_0.big
 refine Con.mk (n:=25) Tryz.func123 z z z (fun w0=> ?_)
 refine ξ (ζ z (OpOk.box z z z z (fun b101=> ?_)))
 refine TL.s z z (κ (ξ (ω z (ab_ z i0_ z (i:=0) z z) (ω z (lenC z fn_ z) ?_))))
 obtain ⟨u5,hh⟩:=d6_ hh
 refine ζ z (a2_ (enc:=e1_) false z h2_ sz4 by4 ze4 z z z z (by omega) (by decide) em_ (by decide) z fm_ (fun a103 c104=> ?_))
 refine ζ z (OpOk.alloc z ze29 z z (fun b106=> ?_))
 refine ζ z (ae_ z sz29 z z z z z ?_)
 refine κ (ξ (ζ z (OpOk.alloc z ze147 z z (fun b108=> ?_))))
 refine κ (ξ (ω z (cc_ z) (ζ z (dz_ z sz147 z z z z z ?_))))
 refine κ (ν (ξ (TL.s z z (ω z (lenC z ge_ z) (θ z z (κ (υ (TC.ao_ (α:=(B_1×Nat)×((Option Addr)×Nat)) (rgs [(8,1),(15,9)]) (fun g=>[(15,.int .i64 ((g.1.2:Nat):Int))]) (fun g=>[φ b106 #[.slice g.2.1 g.1.1.length g.2.2] 29,ε 4 1 e1_ (.slice g.2.1 g.1.1.length g.2.2) g.1.1,φ b108 #[.func (.func 152) #[] #[loc b106 0,loc b101 0,loc b108 0]] 147,φ b101 #[.slice a1_0 x1.length c1_0] 27]) (fun g=>σ) (fun g=>eq_ (fun q:B_1×Nat=>Ba_ x0 x1 q.1 q.2) g.1=some r) (fun g=>eh_ (fun q:B_1×Nat=>Ba_ x0 x1 q.1 q.2) g.1) (((replicate x1.length false),0),(a103,c104)) (δ [3,1,3,3] 4) z (by repeat (first|exact trivial|refine ⟨z,?_⟩)) hh (fun g1 j1 hg1=> ?_)))))))))
 obtain ⟨⟨l121,k124⟩,⟨a122,c123⟩⟩:=g1
 have hh:=hg1;clear hg1
 try dsimp only
 obtain ⟨z1,hh,hR1⟩:=eo_ hh
 dsimp only [Ba_]at hh
 refine η (i:=1) z (fun _ hb125 _=> ?_)
 refine ξ (ω z (OpVal.lss z z z) (κ (ν (TC.cD z hh (fun h126 hh=> ?_) (fun h126 hh=> ?_)))))
 ·refine ι (S.n (ν (υ (ξ (ω z (af_ z ge_ fr_ z z f0_0.rv.sl (by omega)) (ω z (a7_ tz_ z ni_ fr_ z f0_0 (by omega) (by omega)) (ζ z (OpOk.alloc z ik_ z z (fun b127=> ?_)))))))))
  refine ζ z (storeAll z fr_ z z z z z z ?_)
  refine κ (π (ω z (ab_ z ag147 z (i:=3) z z) (ω z (aa_ z gj_ z) (ω z (ab_ z ag3 z (i:=0) z z) (ψ 3 z z (ψ 4 z z (ψ 4 z z (ψ 4 z z ?_))))))))
  obtain ⟨v22,u22,hh⟩:=eb_ hh
  refine ζ z (OpOk.call (G9_ f1_0 u22) z z pf152 z z z z ?_)
  rintro _ _ _ hle129 ⟨a129_1,c129_2,rfl,rfl,rfl⟩
  refine TL.nil (B.n (S.n (π (ω z (OpVal.succ z z z (by omega)) (θ z z (κ ?_))))))
  obtain ⟨hh,hlt131⟩:=ey_ hR1 hh
  exact lf ((v22,(k124+1)),(a129_1,c129_2)) hlt131 hh (δ [2,3,3,3] 4)
 refine TC.exit (S.x (S.x ?_))
 replace hh:=el_ hR1 hh
 refine Δ (S.n (ξ (ω z (ab_ z nz_ z (i:=0) z z) (TL.s z z (κ (TC.ax_ (δ [1] 1) (TC.ret ?_)))))))
 obtain rfl:=so hh
 exact ro [rs_ 4 e1_ a122 c123 l121] z (RVs.tmp z RVs.nil) ⟨a122,c123,z,z,z⟩
def B6_{Sy:Type}(k125:Nat)(s134:Sy):Option ((Nat×Sy)⊕(Sy)):=
 nxt ((k125+1),s134)
def Ao_{Sy:Type}(v4:B_1)(v8:B_1)(Y:Sy→Int→Option (Sy×Bool))(k125:Nat)(s126:Sy):Option ((Nat×Sy)⊕(Sy)):=
 ec_ (decide ((k125:Int)<((v4.length:Nat):Int))) (ec_ (nth v4 k125 false) (grd (k125<v8.length) (ec_ (nth v8 k125 false) (bnd (Y s126 (k125:Int)) (fun v30=>ec_ (!v30.2) (fin (some v30.1)) (B6_ k125 v30.1))) (B6_ k125 s126))) (B6_ k125 s126)) (fin (some s126))
def Dx_{Sy:Type}(Y:Sy→Int→Option (Sy×Bool))(s0:Sy)(x1:Fst)(x2:N_2)(x3:N_2):Option (Sy):=
 bnd (D8_ x1.starts x2) (fun v4=>bnd (D8_ x1.ends x3) (fun v8=>eq_ (fun q:Nat×Sy=>Ao_ v4 v8 Y q.1 q.2) (0,s0)))
theorem G0_{Sy:Type}{σ:d0_}{Y:Sy→Int→Option (Sy×Bool)}{s0:Sy}{x1:Fst}{x2:N_2}{x3:N_2}(f1_3:RS σ 2 d2_ (.slice a1_1 x1.starts.length c1_2) x1.starts)(f1_6:RS σ 2 d2_ (.slice a1_4 x1.ends.length c1_5) x1.ends)(f1_9:RS σ 8 d8_ (.slice a1_7 x1.arcs.length c1_8) x1.arcs)(f2_3:RZ σ (ea_ 1 eI_ ep_) (.slice a2_1 x2.length c2_2) x2)(f3_3:RZ σ (ea_ 1 eI_ ep_) (.slice a3_1 x3.length c3_2) x3){r:Sy}(hh:Dx_ Y s0 x1 x2 x3=some r):
  x3_ prog 122 [loc b1_0 0,loc b2_0 0,loc b3_0 0] (fun (x:Int) _ vs=>vs=[.int .i64 x]) Y σ [φ b1_0 (au_ x1 a1_1 c1_2 a1_4 c1_5 a1_7 c1_8) Eb1,φ b2_0 #[.slice a2_1 x2.length c2_2] Eb2,φ b3_0 #[.slice a3_1 x3.length c3_2] Eb3] s0 r (fun σ' H'=>H'=[φ b1_0 (au_ x1 a1_1 c1_2 a1_4 c1_5 a1_7 c1_8) Eb1,φ b2_0 #[.slice a2_1 x2.length c2_2] Eb2,φ b3_0 #[.slice a3_1 x3.length c3_2] Eb3]):=by
 intro l Z ry0 hY hys
 dsimp only [Dx_]at hh
 have f1_3b:=f1_3.rv.big
 have f1_6b:=f1_6.rv.big
 have f1_9b:=f1_9.rv.big
 have f2_3b:=f2_3.big
 have f3_3b:=f3_3.big
 refine Con.mk (n:=38) Tryz.func122 z z z (fun w0=> ?_)
 refine TC.bz_ (ν ?_)
 obtain ⟨v4,u4,hh⟩:=eb_ hh
 obtain ⟨v8,u8,hh⟩:=eb_ hh
 refine TC.draw [] (by kernel_rfl) (Ψ 0 z (aa_ z f2_ z) z (TA.b 1 z (ab_ z jv_ z (i:=1) z z) z (TA.b 2 z (ab_ z i0_ z (i:=2) z z) z (Ψ 4 z (aa_ z f6_ z) z (TA.b 5 z (ab_ z jv_ z (i:=1) z z) z (TA.b 6 z (ab_ z i0_ z (i:=3) z z) z (TA.ac 3 z (OpOk.call (Ga_ f1_3 f2_3 u4) z z pf123 z z z z ?_))))))))
 rintro _ _ _ hle113 ⟨a113_1,c113_1,rfl,rfl,rfl⟩
 refine k1 (TA.ac 7 z (OpOk.call (Ga_ f1_6 f3_3 u8) z z pf123 z z z z ?_))
 rintro _ _ _ hle115 ⟨a115_1,c115_1,rfl,rfl,rfl⟩
 refine k2 (Ψ 8 z (aj_ (.inr z) z) z (Ψ 9 z (aj_ (.inr z) z) z (TA.dn (S.n (ξ (TL.s z z (ω z (lenC z h2_ z) (θ z z (κ (υ (TC.ao_ (α:=(Nat×Sy)×(Res×d0_)) (rgs [(7,1),(18,20)]) (fun g=>[(18,.int .i64 ((g.1.1:Nat):Int))]) (fun g=>[rs_ 4 e1_ a113_1 c113_1 v4,rs_ 4 e1_ a115_1 c115_1 v8,φ b1_0 (au_ x1 a1_1 c1_2 a1_4 c1_5 a1_7 c1_8) Eb1,φ b2_0 #[.slice a2_1 x2.length c2_2] Eb2,φ b3_0 #[.slice a3_1 x3.length c3_2] Eb3,g.2.1]) (fun g=>g.2.2) (fun g=>eq_ (fun q:Nat×Sy=>Ao_ v4 v8 Y q.1 q.2) g.1=some r∧YR Z g.1.2 g.2.2 g.2.1∧d0_.le σ g.2.2) (fun g=>eh_ (fun q:Nat×Sy=>Ao_ v4 v8 Y q.1 q.2) g.1) ((0,s0),(ry0,σ)) (δ [2,5,5,5,4,5] 6) z (by repeat (first|exact trivial|refine ⟨z,?_⟩)) ⟨hh,hys,(d0_.le.refl _)⟩ (fun g1 j1 hg1=> ?_))))))))))))
 obtain ⟨⟨k125,s126⟩,⟨ry127,τ129⟩⟩:=g1
 obtain ⟨hh,hy128,hle130⟩:=hg1
 try dsimp only at hy128 hle130 ⊢
 obtain ⟨z1,hh,hR1⟩:=eo_ hh
 dsimp only [Ao_]at hh
 skip
 refine η (i:=0) z (fun _ hb131 _=> ?_)
 refine η (i:=1) z (fun _ hb132 _=> ?_)
 refine ξ (ω z (OpVal.lss z z z) (κ (ν (TC.cD z hh (fun h133 hh=> ?_) (fun h133 hh=> ?_)))))
 ·refine ι (S.n (TC.cutG (α:=(Sy)×(Res×d0_)) (rgs [(7,1),(20,17)]) (fun g=>[]) (fun g=>[rs_ 4 e1_ a113_1 c113_1 v4,rs_ 4 e1_ a115_1 c115_1 v8,φ b1_0 (au_ x1 a1_1 c1_2 a1_4 c1_5 a1_7 c1_8) Eb1,φ b2_0 #[.slice a2_1 x2.length c2_2] Eb2,φ b3_0 #[.slice a3_1 x3.length c3_2] Eb3,g.2.1]) (fun g=>g.2.2) (fun g=>B6_ k125 g.1=some z1∧YR Z g.1 g.2.2 g.2.1∧d0_.le τ129 g.2.2) ?_ (fun g j hg=> ?_)))
  ·skip
   refine υ (ξ (θ z z (θ z z (κ (ξ (TL.s z z (θ z z (TL.isSl (i:=0) z (fun hs137 _ _=> ?_)))))))))
   refine ω z (af_ z h2_ sz4 z z hs137 (by omega)) (ω z (a4_ false z ag4 z (q:=0) z em_ (by omega) z) (TL.j z z (TL.split 25 z (fun h138=> ?_) (fun h138=> ?_))))
   ·replace hh:=ej_ h138 hh
    refine TL.g z (aj_ (.inl z) z) (TL.g z (ai_ (.inl z) z) ?_)
    obtain ⟨u24,hh⟩:=d6_ hh
    refine TL.isSl (i:=1) z (fun hs139 _ _=> ?_)
    refine TL.g z (af_ z h2_ sz4 z z hs139 (by omega)) (TL.g z (a4_ false z ag4 z (q:=1) z em_ (by omega) z) (ω z (ah_ z z z) (TL.j z z (TL.split 31 z (fun h140=> ?_) (fun h140=> ?_)))))
    ·replace hh:=ej_ h140 hh
     refine TL.g z (OpVal.mv (.inl z)) (TL.g z (ai_ (.inl z) z) ?_)
     obtain ⟨v30,u30,hh⟩:=eb_ hh
     refine ψ 5 z z (TL.gon z z z z z (callY hY hy128 u30 z z z z z z ?_))
     rintro τ141 ry141 hle141 hy141
     refine TL.g z (OpVal.not z z) (ω z (ah_ z z z) (κ (TC.cB z hh (fun h142 hh=> ?_) (fun h142 hh=> ?_))))
     ·refine TC.ax_ (δ [5,5,5,3] 4) (TC.ret (B.r (S.r (S.r ?_))))
      replace hh:=el_ hR1 hh
      refine B.r ?_
      obtain rfl:=so hh
      refine ⟨_,δ [3,3,3,3] 4,?_⟩
      exact ro [ry141,φ b1_0 (au_ x1 a1_1 c1_2 a1_4 c1_5 a1_7 c1_8) Eb1,φ b2_0 #[.slice a2_1 x2.length c2_2] Eb2,φ b3_0 #[.slice a3_1 x3.length c3_2] Eb3] z RVs.nil ⟨_,_,z,hy141,z⟩
     exact ι (B.n (S.n (cf (v30.1,(ry141,τ141)) ⟨hh,hy141,hle141⟩ (δ [5,5,5,5,5] 6))))
    replace hh:=ei_ h140 hh
    exact χ z (χ z (χ z (χ z (ω z (ag_ z z z) (κ (TC.f z (ι (B.n (S.n (cf (s126,(ry127,τ129)) ⟨hh,hy128,(d0_.le.refl _)⟩ (δ [5,5,5,5,5,5] 6)))))))))))
   replace hh:=ei_ h138 hh
   refine χ z (χ z (χ z (χ z (ω z (ag_ z z z) (TL.j z z (χ z (χ z (χ z (χ z (ω z (ag_ z z z) (κ (TC.f z (ι (B.n (S.n ?_)))))))))))))))
   exact cf (s126,(ry127,τ129)) ⟨hh,hy128,(d0_.le.refl _)⟩ (δ [5,5,5,5,5,5] 6)
  skip
  obtain ⟨s134,⟨ry135,τ143⟩⟩:=g
  obtain ⟨hh,hy136,hle144⟩:=hg
  try dsimp only at hy136
  dsimp only at hle144
  replace hy128:=hy128.mono hle144
  try dsimp only
  dsimp only [B6_]at hh
  skip
  refine η (i:=0) z (fun _ hb145 _=> ?_)
  refine η (i:=1) z (fun _ hb146 _=> ?_)
  refine π (ω z (OpVal.succ z z z (by omega)) (θ z z (κ ?_)))
  obtain ⟨hh,hlt147⟩:=ey_ hR1 hh
  exact lf (((k125+1),s134),(ry135,τ143)) hlt147 ⟨hh,hy136,(hle130.trans hle144)⟩ (δ [5,5,5,5,5,5] 6)
 refine TC.exit (S.x (S.x ?_))
 replace hh:=el_ hR1 hh
 refine Δ ?_
 obtain rfl:=so hh
 refine ⟨_,δ [4,4,4,5] 4,?_⟩
 exact RetOk.mk' (rs:=[]) [ry127,φ b1_0 (au_ x1 a1_1 c1_2 a1_4 c1_5 a1_7 c1_8) Eb1,φ b2_0 #[.slice a2_1 x2.length c2_2] Eb2,φ b3_0 #[.slice a3_1 x3.length c3_2] Eb3] z (.inr z) RVs.nil (List.sublist_append_left _ _) ⟨_,_,z,hy128,z⟩
def Ec_(l387:N_2)(x0:Fst)(k394:Nat)(l391:N_2):Option ((N_2×N_2×Nat)⊕((Fst×N_2×N_2))):=
 nxt ((l387.set (((nth x0.arcs k394 az_).frm).toNat) ((nth l387 (((nth x0.arcs k394 az_).frm).toNat) [])++[(nth x0.arcs k394 az_).to])),(l391.set (((nth x0.arcs k394 az_).to).toNat) ((nth l391 (((nth x0.arcs k394 az_).to).toNat) [])++[(nth x0.arcs k394 az_).frm])),(k394+1))
def D9_(x0:Fst)(k394:Nat)(l391:N_2)(l387:N_2):Option ((N_2×N_2×Nat)⊕((Fst×N_2×N_2))):=
 grd (0≤((nth x0.arcs k394 az_).to)∧((nth x0.arcs k394 az_).to)<(l391.length:Int)) (grd (((nth l391 (((nth x0.arcs k394 az_).to).toNat) []).length+[(nth x0.arcs k394 az_).frm].length) * 8≤140737488355328) (grd (0≤((nth x0.arcs k394 az_).to)∧((nth x0.arcs k394 az_).to)<(l391.length:Int)) (Ec_ l387 x0 k394 l391)))
def A0_(x0:Fst)(l387:N_2)(l391:N_2)(k394:Nat):Option ((N_2×N_2×Nat)⊕((Fst×N_2×N_2))):=
 ec_ (decide ((k394:Int)<((x0.arcs.length:Nat):Int))) (grd (0≤((nth x0.arcs k394 az_).frm)∧((nth x0.arcs k394 az_).frm)<(l387.length:Int)) (grd (((nth l387 (((nth x0.arcs k394 az_).frm).toNat) []).length+[(nth x0.arcs k394 az_).to].length) * 8≤140737488355328) (grd (0≤((nth x0.arcs k394 az_).frm)∧((nth x0.arcs k394 az_).frm)<(l387.length:Int)) (D9_ x0 k394 l391 l387)))) (fin (some (x0,l387,l391)))
def Eb_(x0:Fst):Option ((Fst×N_2×N_2)):=
 eq_ (fun q:N_2×N_2×Nat=>A0_ x0 q.1 q.2.1 q.2.2) ((replicate x0.states.toNat ([]:N_1)),(replicate x0.states.toNat ([]:N_1)),0)
def Ef_(x0:Fst):Option ((Fst×N_2×N_2)):=
 grd (0≤x0.states∧24 * x0.states.toNat≤281474976710656) (grd (0≤x0.states∧24 * x0.states.toNat≤281474976710656) (Eb_ x0))
theorem Hc_{σ:d0_}{x0:Fst}(f0_0:RS σ 2 d2_ (.slice a0_0 x0.starts.length c0_0) x0.starts)(f0_1:RS σ 2 d2_ (.slice a0_1 x0.ends.length c0_1) x0.ends)(f0_2:RS σ 8 d8_ (.slice a0_2 x0.arcs.length c0_2) x0.arcs){r:(Fst×N_2×N_2)}(hh:Ef_ x0=some r):
  Con prog 85 #[.agg (au_ x0 a0_0 c0_0 a0_1 c0_1 a0_2 c0_2)] σ [] (fun v σ' H'=> ∃br10 ar1 cr2 ar4 cr5 ar7 cr8 br14 ar11 cr12 br18 ar15 cr16,v= .func (.func 122) #[] #[loc br10 0,loc br14 0,loc br18 0]∧RS σ' 2 d2_ (.slice ar1 r.1.starts.length cr2) r.1.starts∧RS σ' 2 d2_ (.slice ar4 r.1.ends.length cr5) r.1.ends∧RS σ' 8 d8_ (.slice ar7 r.1.arcs.length cr8) r.1.arcs∧RZ σ' (ea_ 1 eI_ ep_) (.slice ar11 r.2.1.length cr12) r.2.1∧RZ σ' (ea_ 1 eI_ ep_) (.slice ar15 r.2.2.length cr16) r.2.2∧H'=[φ br10 (au_ r.1 ar1 cr2 ar4 cr5 ar7 cr8) 25,φ br14 #[.slice ar11 r.2.1.length cr12] 27,φ br18 #[.slice ar15 r.2.2.length cr16] 27]):=by
 dsimp only [Ef_]at hh
 have f0_0b:=f0_0.rv.big
 have f0_1b:=f0_1.rv.big
 have f0_2b:=f0_2.rv.big
 refine Con.mk (n:=48) Tryz.func85 z z z (fun w0=> ?_)
 refine ξ (ζ z (boxA z z z z (fun b109=> ?_)))
 refine ω z (OpVal.mv (.inr z)) (κ (TC.cutG (α:=(Unit)×(Nat×(Option Addr)×Nat×Nat×(Option Addr)×Nat)) (rgs [(3,2),(7,6)]) (fun g=>[(3,loc g.2.1 0),(4,loc g.2.2.2.2.1 0)]) (fun g=>[φ b109 (au_ x0 a0_0 c0_0 a0_1 c0_1 a0_2 c0_2) 25,φ g.2.1 #[.slice g.2.2.1 ((replicate x0.states.toNat ([]:N_1)).length) g.2.2.2.1] 27,Res.nest 86 3 1 eI_ (.slice g.2.2.1 (replicate x0.states.toNat ([]:N_1)).length g.2.2.2.1) (replicate x0.states.toNat (jt_:NP Int)),φ g.2.2.2.2.1 #[.slice g.2.2.2.2.2.1 ((replicate x0.states.toNat ([]:N_1)).length) g.2.2.2.2.2.2] 27,Res.nest 86 3 1 eI_ (.slice g.2.2.2.2.2.1 (replicate x0.states.toNat ([]:N_1)).length g.2.2.2.2.2.2) (replicate x0.states.toNat (jt_:NP Int))]) (fun g=>σ) (fun g=>Eb_ x0=some r∧Zn (replicate x0.states.toNat (jt_:NP Int)) (replicate x0.states.toNat ([]:N_1))∧Zn (replicate x0.states.toNat (jt_:NP Int)) (replicate x0.states.toNat ([]:N_1))) ?_ (fun g j hg=> ?_)))
 ·skip
  obtain ⟨u5,hh⟩:=d6_ hh
  obtain ⟨u8,hh⟩:=d6_ hh
  refine TC.bv_ (Hr:=[φ b109 (au_ x0 a0_0 c0_0 a0_1 c0_1 a0_2 c0_2) 25]) (fun r hr=>et_ [0] z hr) [] (by kernel_rfl) (Ψ 0 z (aa_ z fa_ z) z (TA.b 1 z (ab_ z ag3 z (i:=0) z z) z (Ψ 3 z (aa_ z fa_ z) z (TA.b 4 z (ab_ z ag3 z (i:=0) z z) z ?_))))
  refine TA.actN [2,5,6,7] (by kernel_rfl) (an rfl rfl (a1_ (q:=x0.states.toNat) (E:=3) (size:=1) (enc:=eI_) rfl fn_ fp_ im_ h4_ rfl rfl (vN u5.1) (vN u5.1) (by omega) (by decide) rfl (fun a135 c136 zf137=>(k1 ?_))) (an rfl rfl (a1_ (q:=x0.states.toNat) (E:=3) (size:=1) (enc:=eI_) rfl fn_ fp_ im_ h4_ rfl rfl (vN u8.1) (vN u8.1) (by omega) (by decide) rfl (fun a139 c140 zf141=>(k1 ?_))) (an rfl rfl (OpOk.alloc rfl kg_ rfl rfl (fun b143=>(k1 ?_))) (an rfl rfl (OpOk.alloc rfl kg_ rfl rfl (fun b145=>(k1 ?_))) (True.intro)))))
  ·skip
   refine TA.actN [5,6,7] (by kernel_rfl) (an rfl rfl (a1_ (q:=x0.states.toNat) (E:=3) (size:=1) (enc:=eI_) rfl fn_ fp_ im_ h4_ rfl rfl (vN u8.1) (vN u8.1) (by omega) (by decide) rfl (fun a147 c148 zf149=>(k2 ?_))) (an rfl rfl (OpOk.alloc rfl kg_ rfl rfl (fun b151=>(k2 ?_))) (an rfl rfl (OpOk.alloc rfl kg_ rfl rfl (fun b153=>(k2 ?_))) (True.intro))))
   ·skip
    refine TA.actN [6,7] (by kernel_rfl) (an z z (OpOk.alloc z kg_ z z (fun b155=>(k3 ?_))) (an z z (OpOk.alloc z kg_ z z (fun b157=>(k3 ?_))) (True.intro)))
    ·skip
     refine TA.ac 7 z (OpOk.alloc z kg_ z z (fun b159=>(kc 4 ?_)))
     refine TA.front 1 z z (TA.ac 8 z (ae_ z go_ z z z z z (kc 4 ?_)))
     refine TA.front 1 z z (TA.ac 9 z (ae_ z go_ z z z z z (kc 4 ?_)))
     exact TA.dn (S.n (cf ((),(b155,a135,c136,b159,a147,c148)) ⟨hh,zf137,zf149⟩ (δ [2,1,3,3,4] 5)))
    skip
    refine TA.ac 6 z (OpOk.alloc z kg_ z z (fun b161=>(kc 4 ?_)))
    refine TA.ac 8 z (ae_ z go_ z z z z z (kc 4 ?_))
    refine TA.front 1 z z (TA.ac 9 z (ae_ z go_ z z z z z (kc 4 ?_)))
    exact TA.dn (S.n (cf ((),(b161,a135,c136,b157,a147,c148)) ⟨hh,zf137,zf149⟩ (δ [2,1,3,3,4] 5)))
   ·skip
    refine TA.actN [5,7] (by kernel_rfl) (an rfl rfl (a1_ (q:=x0.states.toNat) (E:=3) (size:=1) (enc:=eI_) rfl fn_ fp_ im_ h4_ rfl rfl (vN u8.1) (vN u8.1) (by omega) (by decide) rfl (fun a163 c164 zf165=>(k3 ?_))) (an rfl rfl (OpOk.alloc rfl kg_ rfl rfl (fun b167=>(k3 ?_))) (True.intro)))
    ·skip
     refine TA.ac 7 z (OpOk.alloc z kg_ z z (fun b169=>(kc 4 ?_)))
     refine TA.front 2 z z (TA.ac 8 z (ae_ z go_ z z z z z (kc 4 ?_)))
     refine TA.front 1 z z (TA.ac 9 z (ae_ z go_ z z z z z (kc 4 ?_)))
     exact TA.dn (S.n (cf ((),(b151,a135,c136,b169,a163,c164)) ⟨hh,zf137,zf165⟩ (δ [2,1,3,3,4] 5)))
    skip
    refine TA.actN [5,8] (by kernel_rfl) (an rfl rfl (a1_ (q:=x0.states.toNat) (E:=3) (size:=1) (enc:=eI_) rfl fn_ fp_ im_ h4_ rfl rfl (vN u8.1) (vN u8.1) (by omega) (by decide) rfl (fun a171 c172 zf173=>(kc 4 ?_))) (an rfl rfl (OpOk.front 1 rfl rfl (ae_ rfl go_ rfl rfl rfl rfl rfl (k3 ?_))) (True.intro)))
    ·skip
     refine TA.front 2 z z (TA.ac 8 z (ae_ z go_ z z z z z (kc 4 ?_)))
     refine TA.front 2 z z (TA.ac 9 z (ae_ z go_ z z z z z (kc 4 ?_)))
     exact TA.dn (S.n (cf ((),(b151,a135,c136,b167,a171,c172)) ⟨hh,zf137,zf173⟩ (δ [2,1,3,3,4] 5)))
    skip
    refine TA.ac 5 rfl (a1_ (q:=x0.states.toNat) (E:=3) (size:=1) (enc:=eI_) rfl fn_ fp_ im_ h4_ rfl rfl (vN u8.1) (vN u8.1) (by omega) (by decide) rfl (fun a175 c176 zf177=>(kc 4 ?_)))
    refine TA.front 2 z z (TA.ac 9 z (ae_ z go_ z z z z z (kc 4 ?_)))
    exact TA.dn (S.n (cf ((),(b151,a135,c136,b167,a175,c176)) ⟨hh,zf137,zf177⟩ (δ [1,1,3,3,4] 5)))
   skip
   refine TA.actN [5,6] (by kernel_rfl) (an rfl rfl (a1_ (q:=x0.states.toNat) (E:=3) (size:=1) (enc:=eI_) rfl fn_ fp_ im_ h4_ rfl rfl (vN u8.1) (vN u8.1) (by omega) (by decide) rfl (fun a179 c180 zf181=>(k3 ?_))) (an rfl rfl (OpOk.alloc rfl kg_ rfl rfl (fun b183=>(k3 ?_))) (True.intro)))
   ·skip
    refine TA.ac 6 z (OpOk.alloc z kg_ z z (fun b185=>(kc 4 ?_)))
    refine TA.ac 8 z (ae_ z go_ z z z z z (kc 4 ?_))
    refine TA.front 2 z z (TA.ac 9 z (ae_ z go_ z z z z z (kc 4 ?_)))
    exact TA.dn (S.n (cf ((),(b185,a135,c136,b153,a179,c180)) ⟨hh,zf137,zf181⟩ (δ [2,1,3,3,4] 5)))
   skip
   refine TA.actN [5,8] (by kernel_rfl) (an rfl rfl (a1_ (q:=x0.states.toNat) (E:=3) (size:=1) (enc:=eI_) rfl fn_ fp_ im_ h4_ rfl rfl (vN u8.1) (vN u8.1) (by omega) (by decide) rfl (fun a187 c188 zf189=>(kc 4 ?_))) (an rfl rfl (ae_ rfl go_ rfl rfl rfl rfl rfl (k3 ?_)) (True.intro)))
   ·skip
    refine TA.front 1 z z (TA.ac 8 z (ae_ z go_ z z z z z (kc 4 ?_)))
    refine TA.front 2 z z (TA.ac 9 z (ae_ z go_ z z z z z (kc 4 ?_)))
    exact TA.dn (S.n (cf ((),(b183,a135,c136,b153,a187,c188)) ⟨hh,zf137,zf189⟩ (δ [2,1,3,3,4] 5)))
   skip
   refine TA.ac 5 rfl (a1_ (q:=x0.states.toNat) (E:=3) (size:=1) (enc:=eI_) rfl fn_ fp_ im_ h4_ rfl rfl (vN u8.1) (vN u8.1) (by omega) (by decide) rfl (fun a191 c192 zf193=>(kc 4 ?_)))
   refine TA.front 2 z z (TA.ac 9 z (ae_ z go_ z z z z z (kc 4 ?_)))
   exact TA.dn (S.n (cf ((),(b183,a135,c136,b153,a191,c192)) ⟨hh,zf137,zf193⟩ (δ [1,1,3,3,4] 5)))
  ·skip
   refine TA.actN [2,6,7] (by kernel_rfl) (an rfl rfl (a1_ (q:=x0.states.toNat) (E:=3) (size:=1) (enc:=eI_) rfl fn_ fp_ im_ h4_ rfl rfl (vN u5.1) (vN u5.1) (by omega) (by decide) rfl (fun a195 c196 zf197=>(k2 ?_))) (an rfl rfl (OpOk.alloc rfl kg_ rfl rfl (fun b199=>(k2 ?_))) (an rfl rfl (OpOk.alloc rfl kg_ rfl rfl (fun b201=>(k2 ?_))) (True.intro))))
   ·skip
    refine TA.actN [6,7] (by kernel_rfl) (an z z (OpOk.alloc z kg_ z z (fun b203=>(k3 ?_))) (an z z (OpOk.alloc z kg_ z z (fun b205=>(k3 ?_))) (True.intro)))
    ·skip
     refine TA.ac 7 z (OpOk.alloc z kg_ z z (fun b207=>(kc 4 ?_)))
     refine TA.front 1 z z (TA.ac 8 z (ae_ z go_ z z z z z (kc 4 ?_)))
     refine TA.front 1 z z (TA.ac 9 z (ae_ z go_ z z z z z (kc 4 ?_)))
     exact TA.dn (S.n (cf ((),(b203,a195,c196,b207,a139,c140)) ⟨hh,zf197,zf141⟩ (δ [3,1,3,3,4] 5)))
    skip
    refine TA.ac 6 z (OpOk.alloc z kg_ z z (fun b209=>(kc 4 ?_)))
    refine TA.ac 8 z (ae_ z go_ z z z z z (kc 4 ?_))
    refine TA.front 1 z z (TA.ac 9 z (ae_ z go_ z z z z z (kc 4 ?_)))
    exact TA.dn (S.n (cf ((),(b209,a195,c196,b205,a139,c140)) ⟨hh,zf197,zf141⟩ (δ [3,1,3,3,4] 5)))
   ·skip
    refine TA.actN [2,7] (by kernel_rfl) (an rfl rfl (a1_ (q:=x0.states.toNat) (E:=3) (size:=1) (enc:=eI_) rfl fn_ fp_ im_ h4_ rfl rfl (vN u5.1) (vN u5.1) (by omega) (by decide) rfl (fun a211 c212 zf213=>(k3 ?_))) (an rfl rfl (OpOk.alloc rfl kg_ rfl rfl (fun b215=>(k3 ?_))) (True.intro)))
    ·skip
     refine TA.ac 7 z (OpOk.alloc z kg_ z z (fun b217=>(kc 4 ?_)))
     refine TA.front 2 z z (TA.ac 8 z (ae_ z go_ z z z z z (kc 4 ?_)))
     refine TA.front 1 z z (TA.ac 9 z (ae_ z go_ z z z z z (kc 4 ?_)))
     exact TA.dn (S.n (cf ((),(b199,a211,c212,b217,a139,c140)) ⟨hh,zf213,zf141⟩ (δ [3,1,3,3,4] 5)))
    skip
    refine TA.ac 2 rfl (a1_ (q:=x0.states.toNat) (E:=3) (size:=1) (enc:=eI_) rfl fn_ fp_ im_ h4_ rfl rfl (vN u5.1) (vN u5.1) (by omega) (by decide) rfl (fun a219 c220 zf221=>(kc 4 ?_)))
    refine TA.front 2 z z (TA.ac 8 z (ae_ z go_ z z z z z (kc 4 ?_)))
    refine TA.front 2 z z (TA.ac 9 z (ae_ z go_ z z z z z (kc 4 ?_)))
    exact TA.dn (S.n (cf ((),(b199,a219,c220,b215,a139,c140)) ⟨hh,zf221,zf141⟩ (δ [3,1,3,3,4] 5)))
   skip
   refine TA.actN [2,6] (by kernel_rfl) (an rfl rfl (a1_ (q:=x0.states.toNat) (E:=3) (size:=1) (enc:=eI_) rfl fn_ fp_ im_ h4_ rfl rfl (vN u5.1) (vN u5.1) (by omega) (by decide) rfl (fun a223 c224 zf225=>(k3 ?_))) (an rfl rfl (OpOk.alloc rfl kg_ rfl rfl (fun b227=>(k3 ?_))) (True.intro)))
   ·skip
    refine TA.ac 6 z (OpOk.alloc z kg_ z z (fun b229=>(kc 4 ?_)))
    refine TA.ac 8 z (ae_ z go_ z z z z z (kc 4 ?_))
    refine TA.front 2 z z (TA.ac 9 z (ae_ z go_ z z z z z (kc 4 ?_)))
    exact TA.dn (S.n (cf ((),(b229,a223,c224,b201,a139,c140)) ⟨hh,zf225,zf141⟩ (δ [3,1,3,3,4] 5)))
   skip
   refine TA.ac 2 rfl (a1_ (q:=x0.states.toNat) (E:=3) (size:=1) (enc:=eI_) rfl fn_ fp_ im_ h4_ rfl rfl (vN u5.1) (vN u5.1) (by omega) (by decide) rfl (fun a231 c232 zf233=>(kc 4 ?_)))
   refine TA.front 1 z z (TA.ac 8 z (ae_ z go_ z z z z z (kc 4 ?_)))
   refine TA.front 2 z z (TA.ac 9 z (ae_ z go_ z z z z z (kc 4 ?_)))
   exact TA.dn (S.n (cf ((),(b227,a231,c232,b201,a139,c140)) ⟨hh,zf233,zf141⟩ (δ [3,1,3,3,4] 5)))
  ·skip
   refine TA.actN [2,5,7] (by kernel_rfl) (an rfl rfl (a1_ (q:=x0.states.toNat) (E:=3) (size:=1) (enc:=eI_) rfl fn_ fp_ im_ h4_ rfl rfl (vN u5.1) (vN u5.1) (by omega) (by decide) rfl (fun a235 c236 zf237=>(k2 ?_))) (an rfl rfl (a1_ (q:=x0.states.toNat) (E:=3) (size:=1) (enc:=eI_) rfl fn_ fp_ im_ h4_ rfl rfl (vN u8.1) (vN u8.1) (by omega) (by decide) rfl (fun a239 c240 zf241=>(k2 ?_))) (an rfl rfl (OpOk.alloc rfl kg_ rfl rfl (fun b243=>(k2 ?_))) (True.intro))))
   ·skip
    refine TA.actN [5,7] (by kernel_rfl) (an rfl rfl (a1_ (q:=x0.states.toNat) (E:=3) (size:=1) (enc:=eI_) rfl fn_ fp_ im_ h4_ rfl rfl (vN u8.1) (vN u8.1) (by omega) (by decide) rfl (fun a245 c246 zf247=>(k3 ?_))) (an rfl rfl (OpOk.alloc rfl kg_ rfl rfl (fun b249=>(k3 ?_))) (True.intro)))
    ·skip
     refine TA.ac 7 z (OpOk.alloc z kg_ z z (fun b251=>(kc 4 ?_)))
     refine TA.front 3 z z (TA.ac 8 z (ae_ z go_ z z z z z (kc 4 ?_)))
     refine TA.front 1 z z (TA.ac 9 z (ae_ z go_ z z z z z (kc 4 ?_)))
     exact TA.dn (S.n (cf ((),(b143,a235,c236,b251,a245,c246)) ⟨hh,zf237,zf247⟩ (δ [2,1,3,3,4] 5)))
    skip
    refine TA.actN [5,8] (by kernel_rfl) (an rfl rfl (a1_ (q:=x0.states.toNat) (E:=3) (size:=1) (enc:=eI_) rfl fn_ fp_ im_ h4_ rfl rfl (vN u8.1) (vN u8.1) (by omega) (by decide) rfl (fun a253 c254 zf255=>(kc 4 ?_))) (an rfl rfl (OpOk.front 2 rfl rfl (ae_ rfl go_ rfl rfl rfl rfl rfl (k3 ?_))) (True.intro)))
    ·skip
     refine TA.front 3 z z (TA.ac 8 z (ae_ z go_ z z z z z (kc 4 ?_)))
     refine TA.front 2 z z (TA.ac 9 z (ae_ z go_ z z z z z (kc 4 ?_)))
     exact TA.dn (S.n (cf ((),(b143,a235,c236,b249,a253,c254)) ⟨hh,zf237,zf255⟩ (δ [2,1,3,3,4] 5)))
    skip
    refine TA.ac 5 rfl (a1_ (q:=x0.states.toNat) (E:=3) (size:=1) (enc:=eI_) rfl fn_ fp_ im_ h4_ rfl rfl (vN u8.1) (vN u8.1) (by omega) (by decide) rfl (fun a257 c258 zf259=>(kc 4 ?_)))
    refine TA.front 2 z z (TA.ac 9 z (ae_ z go_ z z z z z (kc 4 ?_)))
    exact TA.dn (S.n (cf ((),(b143,a235,c236,b249,a257,c258)) ⟨hh,zf237,zf259⟩ (δ [1,1,3,3,4] 5)))
   ·skip
    refine TA.actN [2,7] (by kernel_rfl) (an rfl rfl (a1_ (q:=x0.states.toNat) (E:=3) (size:=1) (enc:=eI_) rfl fn_ fp_ im_ h4_ rfl rfl (vN u5.1) (vN u5.1) (by omega) (by decide) rfl (fun a261 c262 zf263=>(k3 ?_))) (an rfl rfl (OpOk.alloc rfl kg_ rfl rfl (fun b265=>(k3 ?_))) (True.intro)))
    ·skip
     refine TA.ac 7 z (OpOk.alloc z kg_ z z (fun b267=>(kc 4 ?_)))
     refine TA.front 3 z z (TA.ac 8 z (ae_ z go_ z z z z z (kc 4 ?_)))
     refine TA.front 1 z z (TA.ac 9 z (ae_ z go_ z z z z z (kc 4 ?_)))
     exact TA.dn (S.n (cf ((),(b143,a261,c262,b267,a239,c240)) ⟨hh,zf263,zf241⟩ (δ [3,1,3,3,4] 5)))
    skip
    refine TA.ac 2 rfl (a1_ (q:=x0.states.toNat) (E:=3) (size:=1) (enc:=eI_) rfl fn_ fp_ im_ h4_ rfl rfl (vN u5.1) (vN u5.1) (by omega) (by decide) rfl (fun a269 c270 zf271=>(kc 4 ?_)))
    refine TA.front 3 z z (TA.ac 8 z (ae_ z go_ z z z z z (kc 4 ?_)))
    refine TA.front 2 z z (TA.ac 9 z (ae_ z go_ z z z z z (kc 4 ?_)))
    exact TA.dn (S.n (cf ((),(b143,a269,c270,b265,a239,c240)) ⟨hh,zf271,zf241⟩ (δ [3,1,3,3,4] 5)))
   skip
   refine TA.actN [2,5] (by kernel_rfl) (an rfl rfl (a1_ (q:=x0.states.toNat) (E:=3) (size:=1) (enc:=eI_) rfl fn_ fp_ im_ h4_ rfl rfl (vN u5.1) (vN u5.1) (by omega) (by decide) rfl (fun a273 c274 zf275=>(k3 ?_))) (an rfl rfl (a1_ (q:=x0.states.toNat) (E:=3) (size:=1) (enc:=eI_) rfl fn_ fp_ im_ h4_ rfl rfl (vN u8.1) (vN u8.1) (by omega) (by decide) rfl (fun a277 c278 zf279=>(k3 ?_))) (True.intro)))
   ·skip
    refine TA.actN [5,8] (by kernel_rfl) (an rfl rfl (a1_ (q:=x0.states.toNat) (E:=3) (size:=1) (enc:=eI_) rfl fn_ fp_ im_ h4_ rfl rfl (vN u8.1) (vN u8.1) (by omega) (by decide) rfl (fun a281 c282 zf283=>(kc 4 ?_))) (an rfl rfl (OpOk.front 2 rfl rfl (ae_ rfl go_ rfl rfl rfl rfl rfl (k3 ?_))) (True.intro)))
    ·skip
     refine TA.front 3 z z (TA.ac 8 z (ae_ z go_ z z z z z (kc 4 ?_)))
     refine TA.front 3 z z (TA.ac 9 z (ae_ z go_ z z z z z (kc 4 ?_)))
     exact TA.dn (S.n (cf ((),(b143,a273,c274,b243,a281,c282)) ⟨hh,zf275,zf283⟩ (δ [2,1,3,3,4] 5)))
    skip
    refine TA.ac 5 rfl (a1_ (q:=x0.states.toNat) (E:=3) (size:=1) (enc:=eI_) rfl fn_ fp_ im_ h4_ rfl rfl (vN u8.1) (vN u8.1) (by omega) (by decide) rfl (fun a285 c286 zf287=>(kc 4 ?_)))
    refine TA.front 3 z z (TA.ac 9 z (ae_ z go_ z z z z z (kc 4 ?_)))
    exact TA.dn (S.n (cf ((),(b143,a273,c274,b243,a285,c286)) ⟨hh,zf275,zf287⟩ (δ [1,1,3,3,4] 5)))
   skip
   refine TA.ac 2 rfl (a1_ (q:=x0.states.toNat) (E:=3) (size:=1) (enc:=eI_) rfl fn_ fp_ im_ h4_ rfl rfl (vN u5.1) (vN u5.1) (by omega) (by decide) rfl (fun a289 c290 zf291=>(kc 4 ?_)))
   refine TA.front 3 z z (TA.ac 8 z (ae_ z go_ z z z z z (kc 4 ?_)))
   refine TA.front 3 z z (TA.ac 9 z (ae_ z go_ z z z z z (kc 4 ?_)))
   exact TA.dn (S.n (cf ((),(b143,a289,c290,b243,a277,c278)) ⟨hh,zf291,zf279⟩ (δ [3,1,3,3,4] 5)))
  skip
  refine TA.actN [2,5,6] (by kernel_rfl) (an rfl rfl (a1_ (q:=x0.states.toNat) (E:=3) (size:=1) (enc:=eI_) rfl fn_ fp_ im_ h4_ rfl rfl (vN u5.1) (vN u5.1) (by omega) (by decide) rfl (fun a293 c294 zf295=>(k2 ?_))) (an rfl rfl (a1_ (q:=x0.states.toNat) (E:=3) (size:=1) (enc:=eI_) rfl fn_ fp_ im_ h4_ rfl rfl (vN u8.1) (vN u8.1) (by omega) (by decide) rfl (fun a297 c298 zf299=>(k2 ?_))) (an rfl rfl (OpOk.alloc rfl kg_ rfl rfl (fun b301=>(k2 ?_))) (True.intro))))
  ·skip
   refine TA.actN [5,6] (by kernel_rfl) (an rfl rfl (a1_ (q:=x0.states.toNat) (E:=3) (size:=1) (enc:=eI_) rfl fn_ fp_ im_ h4_ rfl rfl (vN u8.1) (vN u8.1) (by omega) (by decide) rfl (fun a303 c304 zf305=>(k3 ?_))) (an rfl rfl (OpOk.alloc rfl kg_ rfl rfl (fun b307=>(k3 ?_))) (True.intro)))
   ·skip
    refine TA.ac 6 z (OpOk.alloc z kg_ z z (fun b309=>(kc 4 ?_)))
    refine TA.ac 8 z (ae_ z go_ z z z z z (kc 4 ?_))
    refine TA.front 3 z z (TA.ac 9 z (ae_ z go_ z z z z z (kc 4 ?_)))
    exact TA.dn (S.n (cf ((),(b309,a293,c294,b145,a303,c304)) ⟨hh,zf295,zf305⟩ (δ [2,1,3,3,4] 5)))
   skip
   refine TA.actN [5,8] (by kernel_rfl) (an rfl rfl (a1_ (q:=x0.states.toNat) (E:=3) (size:=1) (enc:=eI_) rfl fn_ fp_ im_ h4_ rfl rfl (vN u8.1) (vN u8.1) (by omega) (by decide) rfl (fun a311 c312 zf313=>(kc 4 ?_))) (an rfl rfl (ae_ rfl go_ rfl rfl rfl rfl rfl (k3 ?_)) (True.intro)))
   ·skip
    refine TA.front 1 z z (TA.ac 8 z (ae_ z go_ z z z z z (kc 4 ?_)))
    refine TA.front 3 z z (TA.ac 9 z (ae_ z go_ z z z z z (kc 4 ?_)))
    exact TA.dn (S.n (cf ((),(b307,a293,c294,b145,a311,c312)) ⟨hh,zf295,zf313⟩ (δ [2,1,3,3,4] 5)))
   skip
   refine TA.ac 5 rfl (a1_ (q:=x0.states.toNat) (E:=3) (size:=1) (enc:=eI_) rfl fn_ fp_ im_ h4_ rfl rfl (vN u8.1) (vN u8.1) (by omega) (by decide) rfl (fun a315 c316 zf317=>(kc 4 ?_)))
   refine TA.front 3 z z (TA.ac 9 z (ae_ z go_ z z z z z (kc 4 ?_)))
   exact TA.dn (S.n (cf ((),(b307,a293,c294,b145,a315,c316)) ⟨hh,zf295,zf317⟩ (δ [1,1,3,3,4] 5)))
  ·skip
   refine TA.actN [2,6] (by kernel_rfl) (an rfl rfl (a1_ (q:=x0.states.toNat) (E:=3) (size:=1) (enc:=eI_) rfl fn_ fp_ im_ h4_ rfl rfl (vN u5.1) (vN u5.1) (by omega) (by decide) rfl (fun a319 c320 zf321=>(k3 ?_))) (an rfl rfl (OpOk.alloc rfl kg_ rfl rfl (fun b323=>(k3 ?_))) (True.intro)))
   ·skip
    refine TA.ac 6 z (OpOk.alloc z kg_ z z (fun b325=>(kc 4 ?_)))
    refine TA.ac 8 z (ae_ z go_ z z z z z (kc 4 ?_))
    refine TA.front 3 z z (TA.ac 9 z (ae_ z go_ z z z z z (kc 4 ?_)))
    exact TA.dn (S.n (cf ((),(b325,a319,c320,b145,a297,c298)) ⟨hh,zf321,zf299⟩ (δ [3,1,3,3,4] 5)))
   skip
   refine TA.ac 2 rfl (a1_ (q:=x0.states.toNat) (E:=3) (size:=1) (enc:=eI_) rfl fn_ fp_ im_ h4_ rfl rfl (vN u5.1) (vN u5.1) (by omega) (by decide) rfl (fun a327 c328 zf329=>(kc 4 ?_)))
   refine TA.front 1 z z (TA.ac 8 z (ae_ z go_ z z z z z (kc 4 ?_)))
   refine TA.front 3 z z (TA.ac 9 z (ae_ z go_ z z z z z (kc 4 ?_)))
   exact TA.dn (S.n (cf ((),(b323,a327,c328,b145,a297,c298)) ⟨hh,zf329,zf299⟩ (δ [3,1,3,3,4] 5)))
  skip
  refine TA.actN [2,5] (by kernel_rfl) (an rfl rfl (a1_ (q:=x0.states.toNat) (E:=3) (size:=1) (enc:=eI_) rfl fn_ fp_ im_ h4_ rfl rfl (vN u5.1) (vN u5.1) (by omega) (by decide) rfl (fun a331 c332 zf333=>(k3 ?_))) (an rfl rfl (a1_ (q:=x0.states.toNat) (E:=3) (size:=1) (enc:=eI_) rfl fn_ fp_ im_ h4_ rfl rfl (vN u8.1) (vN u8.1) (by omega) (by decide) rfl (fun a335 c336 zf337=>(k3 ?_))) (True.intro)))
  ·skip
   refine TA.actN [5,8] (by kernel_rfl) (an rfl rfl (a1_ (q:=x0.states.toNat) (E:=3) (size:=1) (enc:=eI_) rfl fn_ fp_ im_ h4_ rfl rfl (vN u8.1) (vN u8.1) (by omega) (by decide) rfl (fun a339 c340 zf341=>(kc 4 ?_))) (an rfl rfl (OpOk.front 1 rfl rfl (ae_ rfl go_ rfl rfl rfl rfl rfl (k3 ?_))) (True.intro)))
   ·skip
    refine TA.front 2 z z (TA.ac 8 z (ae_ z go_ z z z z z (kc 4 ?_)))
    refine TA.front 3 z z (TA.ac 9 z (ae_ z go_ z z z z z (kc 4 ?_)))
    exact TA.dn (S.n (cf ((),(b301,a331,c332,b145,a339,c340)) ⟨hh,zf333,zf341⟩ (δ [2,1,3,3,4] 5)))
   skip
   refine TA.ac 5 rfl (a1_ (q:=x0.states.toNat) (E:=3) (size:=1) (enc:=eI_) rfl fn_ fp_ im_ h4_ rfl rfl (vN u8.1) (vN u8.1) (by omega) (by decide) rfl (fun a343 c344 zf345=>(kc 4 ?_)))
   refine TA.front 3 z z (TA.ac 9 z (ae_ z go_ z z z z z (kc 4 ?_)))
   exact TA.dn (S.n (cf ((),(b301,a331,c332,b145,a343,c344)) ⟨hh,zf333,zf345⟩ (δ [1,1,3,3,4] 5)))
  skip
  refine TA.ac 2 rfl (a1_ (q:=x0.states.toNat) (E:=3) (size:=1) (enc:=eI_) rfl fn_ fp_ im_ h4_ rfl rfl (vN u5.1) (vN u5.1) (by omega) (by decide) rfl (fun a347 c348 zf349=>(kc 4 ?_)))
  refine TA.front 2 z z (TA.ac 8 z (ae_ z go_ z z z z z (kc 4 ?_)))
  refine TA.front 3 z z (TA.ac 9 z (ae_ z go_ z z z z z (kc 4 ?_)))
  exact TA.dn (S.n (cf ((),(b301,a347,c348,b145,a335,c336)) ⟨hh,zf349,zf337⟩ (δ [3,1,3,3,4] 5)))
 skip
 obtain ⟨_,⟨b112,a114,c115,b118,a120,c121⟩⟩:=g
 obtain ⟨hh,zf116,zf122⟩:=hg
 try dsimp only at zf116 zf122 ⊢
 dsimp only [Eb_]at hh
 have zf116b:=zf116.len
 have zf122b:=zf122.len
 refine TC.know (ef_ (q:=2) z zf116) (fun ⟨_,hb351⟩=> ?_)
 refine TC.know (ef_ (q:=4) z zf122) (fun ⟨_,hb352⟩=> ?_)
 refine ν (ξ (ω z (aa_ z fk_ z) (ω z (ab_ z k0_ z (i:=0) z z) (ω z (lenC z h9_ z) (θ z z (κ (υ (TC.ao_ (α:=(N_2×N_2×Nat)×((List (NP Int))×(List (NP Int)))) (rgs [(6,1),(16,31)]) (fun g=>[(16,.int .i64 ((g.1.2.2:Nat):Int))]) (fun g=>[φ b109 (au_ x0 a0_0 c0_0 a0_1 c0_1 a0_2 c0_2) 25,φ b112 #[.slice a114 ((replicate x0.states.toNat ([]:N_1)).length) c115] 27,Res.nest 86 3 1 eI_ (.slice a114 (replicate x0.states.toNat ([]:N_1)).length c115) g.2.1,φ b118 #[.slice a120 g.1.2.1.length c121] 27,Res.nest 86 3 1 eI_ (.slice a120 g.1.2.1.length c121) g.2.2]) (fun g=>σ) (fun g=>eq_ (fun q:N_2×N_2×Nat=>A0_ x0 q.1 q.2.1 q.2.2) g.1=some r∧g.1.1.length=(replicate x0.states.toNat ([]:N_1)).length∧Zn g.2.1 g.1.1∧Zn g.2.2 g.1.2.1) (fun g=>eh_ (fun q:N_2×N_2×Nat=>A0_ x0 q.1 q.2.1 q.2.2) g.1) (((replicate x0.states.toNat ([]:N_1)),(replicate x0.states.toNat ([]:N_1)),0),((replicate x0.states.toNat (jt_:NP Int)),(replicate x0.states.toNat (jt_:NP Int)))) (δ [4,4,4,4,4] 5) z (by repeat (first|exact trivial|refine ⟨z,?_⟩)) ⟨hh,z,zf116,zf122⟩ (fun g1 j1 hg1=> ?_)))))))))
 obtain ⟨⟨l387,l391,k394⟩,⟨z389,z392⟩⟩:=g1
 obtain ⟨hh,hn388,zf390,zf393⟩:=hg1
 try dsimp only at hn388 zf390 zf393 ⊢
 obtain ⟨z1,hh,hR1⟩:=eo_ hh
 dsimp only [A0_]at hh
 have zf390b:=zf390.len
 have zf393b:=zf393.len
 refine TC.know (ef_ (q:=2) z zf390) (fun ⟨_,hb395⟩=> ?_)
 refine TC.know (ef_ (q:=4) z zf393) (fun ⟨_,hb396⟩=> ?_)
 refine ξ (ω z (OpVal.lss z z z) (κ (ν (TC.cD z hh (fun h397 hh=> ?_) (fun h397 hh=> ?_)))))
 ·refine ι (S.n (TC.cutG (α:=(Unit)×((List (NP Int))×(List (NP Int)))) (rgs [(6,1),(18,28)]) (fun g=>[]) (fun g=>[φ b109 (au_ x0 a0_0 c0_0 a0_1 c0_1 a0_2 c0_2) 25,φ b112 #[.slice a114 ((replicate x0.states.toNat ([]:N_1)).length) c115] 27,Res.nest 86 3 1 eI_ (.slice a114 (replicate x0.states.toNat ([]:N_1)).length c115) g.2.1,φ b118 #[.slice a120 l391.length c121] 27,Res.nest 86 3 1 eI_ (.slice a120 l391.length c121) g.2.2]) (fun g=>σ) (fun g=>Ec_ l387 x0 k394 l391=some z1∧(l387.set (((nth x0.arcs k394 az_).frm).toNat) ((nth l387 (((nth x0.arcs k394 az_).frm).toNat) [])++[(nth x0.arcs k394 az_).to])).length=(replicate x0.states.toNat ([]:N_1)).length∧Zn g.2.1 (l387.set (((nth x0.arcs k394 az_).frm).toNat) ((nth l387 (((nth x0.arcs k394 az_).frm).toNat) [])++[(nth x0.arcs k394 az_).to]))∧(l391.set (((nth x0.arcs k394 az_).to).toNat) ((nth l391 (((nth x0.arcs k394 az_).to).toNat) [])++[(nth x0.arcs k394 az_).frm])).length=l391.length∧Zn g.2.2 (l391.set (((nth x0.arcs k394 az_).to).toNat) ((nth l391 (((nth x0.arcs k394 az_).to).toNat) [])++[(nth x0.arcs k394 az_).frm]))) ?_ (fun g j hg=> ?_)))
  ·skip
   refine υ (ξ (ω z (af_ z h9_ g5_ z z f0_2.rv.sl (by omega)) (ω z (a7_ az_ z r7_ g5_ z f0_2 (by omega) (by omega)) (ζ z (OpOk.alloc z ki_ z z (fun b404=> ?_))))))
   refine ζ z (storeAll z g5_ z z z z z z ?_)
   refine κ (TC.cutG (α:=(Unit)×((List (NP Int)))) (rgs [(20,13)]) (fun g=>[]) (fun g=>[φ b109 (au_ x0 a0_0 c0_0 a0_1 c0_1 a0_2 c0_2) 25,φ b112 #[.slice a114 ((replicate x0.states.toNat ([]:N_1)).length) c115] 27,Res.nest 86 3 1 eI_ (.slice a114 (replicate x0.states.toNat ([]:N_1)).length c115) g.2,φ b118 #[.slice a120 l391.length c121] 27,Res.nest 86 3 1 eI_ (.slice a120 l391.length c121) z392,φ b404 #[.int .i64 ((nth x0.arcs k394 az_).frm),.int .i64 ((nth x0.arcs k394 az_).to),.int .u64 ((((nth x0.arcs k394 az_).set).a:Nat):Int),.int .u64 ((((nth x0.arcs k394 az_).set).b:Nat):Int),.int .u64 ((((nth x0.arcs k394 az_).set).c:Nat):Int),.int .u64 ((((nth x0.arcs k394 az_).set).d:Nat):Int),.string (bs ((nth x0.arcs k394 az_).out)),.bool ((nth x0.arcs k394 az_).copy)] 66]) (fun g=>σ) (fun g=>D9_ x0 k394 l391 l387=some z1∧(l387.set (((nth x0.arcs k394 az_).frm).toNat) ((nth l387 (((nth x0.arcs k394 az_).frm).toNat) [])++[(nth x0.arcs k394 az_).to])).length=(replicate x0.states.toNat ([]:N_1)).length∧Zn g.2 (l387.set (((nth x0.arcs k394 az_).frm).toNat) ((nth l387 (((nth x0.arcs k394 az_).frm).toNat) [])++[(nth x0.arcs k394 az_).to]))∧Zn z392 l391) ?_ (fun g j hg=> ?_))
   ·skip
    obtain ⟨u28,hh⟩:=d6_ hh
    obtain ⟨u33,hh⟩:=d6_ hh
    obtain ⟨u34,hh⟩:=d6_ hh
    refine TC.bv_ (Hr:=[φ b404 #[.int .i64 ((nth x0.arcs k394 az_).frm),.int .i64 ((nth x0.arcs k394 az_).to),.int .u64 ((((nth x0.arcs k394 az_).set).a:Nat):Int),.int .u64 ((((nth x0.arcs k394 az_).set).b:Nat):Int),.int .u64 ((((nth x0.arcs k394 az_).set).c:Nat):Int),.int .u64 ((((nth x0.arcs k394 az_).set).d:Nat):Int),.string (bs ((nth x0.arcs k394 az_).out)),.bool ((nth x0.arcs k394 az_).copy)] 66,φ b109 (au_ x0 a0_0 c0_0 a0_1 c0_1 a0_2 c0_2) 25,φ b112 #[.slice a114 ((replicate x0.states.toNat ([]:N_1)).length) c115] 27,φ b118 #[.slice a120 l391.length c121] 27,Res.nest 86 3 1 eI_ (.slice a120 l391.length c121) z392]) (fun r hr=>et_ [0,1,2,4,5] z hr) [] (by kernel_rfl) (TA.b 0 z (ab_ z i0_ z (i:=2) z z) z (Ψ 1 z (aa_ z ip_ z) z (TA.b 2 z (ab_ z ag3 z (i:=0) z z) z (TA.b 3 z (ab_ z i0_ z (i:=2) z z) z (Ψ 4 z (aa_ z ip_ z) z (TA.b 5 z (ab_ z ag3 z (i:=0) z z) z (TA.know (ef_ (q:=3) z zf390) (fun ⟨hs421,hs421b⟩=> ?_))))))))
    refine TA.b 6 z (OpVal.index z fn_ fp_ z z hs421 u28.1 u28.2) z (Ψ 8 z (aa_ z i3_ z) z (TA.b 9 z (ab_ z ag3 z (i:=0) z z) z ?_))
    obtain ⟨p422,hz422,hm422⟩:=Zn.at zf390 (i:=((nth x0.arcs k394 az_).frm).toNat) (by omega)
    refine TA.actN [7,10] (by kernel_rfl) (an z z (OpVal.ok (bh_ z jx_ z (q:=3) z hz422 hm422) z z ⟨(fun w h=>ez_ (d0_.le.refl _) (fun r hr=>et_ [0,1,2,4,5] z hr) w h),?_⟩) (an z z (OpOk.lit (enc:=eI_) [(nth x0.arcs k394 az_).to] z e2_ sz3 ze3 z z z ep_ (by decide) (by decide) (0:Int) z (by decide) z (by decide) i2_ (fun a423 c424=>⟨(fun w h=>ez_ (d0_.le.refl _) (fun r hr=>et_ [1,2,3,5,6] z hr) w h),?_⟩)) (True.intro)))
    ·skip
     refine TA.ac 10 z (OpOk.lit (enc:=eI_) [(nth x0.arcs k394 az_).to] z e2_ sz3 ze3 z z z ep_ (by decide) (by decide) (0:Int) z (by decide) z (by decide) i2_ (fun a426 c427=>⟨(fun w h=>ez_ (d0_.le.refl _) (fun r hr=>et_ [1,2,3,5,6] z hr) w h),?_⟩))
     refine TA.front 4 z z (TA.by (fun w h=>Reach.takeN hz422 hm422 h) (TA.ac 11 z (av_ z z e2_ sz3 by3 ze3 z z (by decide) z z z (.inr ⟨_,1,z⟩) (by simpa using u33) (by decide) (fun a430 c431=>(k3 ?_)))))
     refine TA.know (f4_ (q:=1) z zf390) (fun ⟨hs432,hs432b⟩=> ?_)
     refine TA.b 12 z (OpVal.index z fn_ fp_ z z hs432 u34.1 u34.2) z (TA.front 1 z z (TA.front 1 z z ?_))
     have hn434:(l387.set (((nth x0.arcs k394 az_).frm).toNat) ((nth l387 (((nth x0.arcs k394 az_).frm).toNat) [])++[(nth x0.arcs k394 az_).to])).length=(replicate x0.states.toNat ([]:N_1)).length:=(ls_ ..).trans hn388
     refine TA.ac 13 rfl (bf_ (l':=((nth l387 (((nth x0.arcs k394 az_).frm).toNat) [])++[(nth x0.arcs k394 az_).to])) rfl fp_ rfl rfl rfl rfl rfl (by rw [zf390.len];omega) zf390 (fun zf433=>(k2 ?_)))
     exact TA.dn (S.n (cf ((),(z389.set (((nth x0.arcs k394 az_).frm).toNat) (((nth l387 (((nth x0.arcs k394 az_).frm).toNat) [])++[(nth x0.arcs k394 az_).to]),(a430,c431)))) ⟨hh,hn434,zf433,zf393⟩ (δ [2,6,6,3,6,6] 6)))
    skip
    obtain ⟨p435,hz435,hm435⟩:=Zn.at zf390 (i:=((nth x0.arcs k394 az_).frm).toNat) (by omega)
    refine TA.ac 7 z (OpVal.ok (bh_ z jx_ z (q:=4) z hz435 hm435) z z ⟨(fun w h=>ez_ (d0_.le.refl _) (fun r hr=>et_ [1,2,3,5,6] z hr) w h),?_⟩)
    refine TA.front 4 z z (TA.by (fun w h=>Reach.takeN hz435 hm435 h) (TA.ac 11 z (av_ z z e2_ sz3 by3 ze3 z z (by decide) z z z (.inr ⟨_,1,z⟩) (by simpa using u33) (by decide) (fun a437 c438=>(k3 ?_)))))
    refine TA.know (f4_ (q:=1) z zf390) (fun ⟨hs439,hs439b⟩=> ?_)
    refine TA.b 12 z (OpVal.index z fn_ fp_ z z hs439 u34.1 u34.2) z (TA.front 1 z z (TA.front 1 z z ?_))
    have hn441:(l387.set (((nth x0.arcs k394 az_).frm).toNat) ((nth l387 (((nth x0.arcs k394 az_).frm).toNat) [])++[(nth x0.arcs k394 az_).to])).length=(replicate x0.states.toNat ([]:N_1)).length:=(ls_ ..).trans hn388
    refine TA.ac 13 rfl (bf_ (l':=((nth l387 (((nth x0.arcs k394 az_).frm).toNat) [])++[(nth x0.arcs k394 az_).to])) rfl fp_ rfl rfl rfl rfl rfl (by rw [zf390.len];omega) zf390 (fun zf440=>(k2 ?_)))
    exact TA.dn (S.n (cf ((),(z389.set (((nth x0.arcs k394 az_).frm).toNat) (((nth l387 (((nth x0.arcs k394 az_).frm).toNat) [])++[(nth x0.arcs k394 az_).to]),(a437,c438)))) ⟨hh,hn441,zf440,zf393⟩ (δ [2,6,6,3,6,6] 6)))
   skip
   obtain ⟨_,z407⟩:=g
   obtain ⟨hh,hn406,zf408,zf409⟩:=hg
   try dsimp only at hn406 zf408 zf409 ⊢
   dsimp only [D9_]at hh
   have zf408b:=zf408.len
   have zf409b:=zf409.len
   refine TC.know (ef_ (q:=2) z zf408) (fun ⟨_,hb442⟩=> ?_)
   refine TC.know (ef_ (q:=4) z zf409) (fun ⟨_,hb443⟩=> ?_)
   obtain ⟨u42,hh⟩:=d6_ hh
   obtain ⟨u47,hh⟩:=d6_ hh
   obtain ⟨u48,hh⟩:=d6_ hh
   refine TC.bv_ (Hr:=[φ b109 (au_ x0 a0_0 c0_0 a0_1 c0_1 a0_2 c0_2) 25,φ b112 #[.slice a114 ((replicate x0.states.toNat ([]:N_1)).length) c115] 27,Res.nest 86 3 1 eI_ (.slice a114 (replicate x0.states.toNat ([]:N_1)).length c115) z407,φ b118 #[.slice a120 l391.length c121] 27,φ b404 #[.int .i64 ((nth x0.arcs k394 az_).frm),.int .i64 ((nth x0.arcs k394 az_).to),.int .u64 ((((nth x0.arcs k394 az_).set).a:Nat):Int),.int .u64 ((((nth x0.arcs k394 az_).set).b:Nat):Int),.int .u64 ((((nth x0.arcs k394 az_).set).c:Nat):Int),.int .u64 ((((nth x0.arcs k394 az_).set).d:Nat):Int),.string (bs ((nth x0.arcs k394 az_).out)),.bool ((nth x0.arcs k394 az_).copy)] 66]) (fun r hr=>et_ [0,1,2,3,5] z hr) [] (by kernel_rfl) (TA.b 0 z (ab_ z i0_ z (i:=3) z z) z (Ψ 1 z (aa_ z i3_ z) z (TA.b 2 z (ab_ z ag3 z (i:=4) z z) z (TA.b 3 z (ab_ z i0_ z (i:=3) z z) z (Ψ 4 z (aa_ z i3_ z) z (TA.b 5 z (ab_ z ag3 z (i:=4) z z) z (TA.know (ef_ (q:=4) z zf409) (fun ⟨hs455,hs455b⟩=> ?_))))))))
   refine TA.b 6 z (OpVal.index z fn_ fp_ z z hs455 u42.1 u42.2) z (Ψ 8 z (aa_ z ip_ z) z (TA.b 9 z (ab_ z ag3 z (i:=4) z z) z ?_))
   obtain ⟨p456,hz456,hm456⟩:=Zn.at zf409 (i:=((nth x0.arcs k394 az_).to).toNat) (by omega)
   refine TA.actN [7,10] (by kernel_rfl) (an z z (OpVal.ok (bh_ z jx_ z (q:=4) z hz456 hm456) z z ⟨(fun w h=>ez_ (d0_.le.refl _) (fun r hr=>et_ [0,1,2,3,5] z hr) w h),?_⟩) (an z z (OpOk.lit (enc:=eI_) [(nth x0.arcs k394 az_).frm] z e2_ sz3 ze3 z z z ep_ (by decide) (by decide) (0:Int) z (by decide) z (by decide) i2_ (fun a457 c458=>⟨(fun w h=>ez_ (d0_.le.refl _) (fun r hr=>et_ [1,2,3,4,6] z hr) w h),?_⟩)) (True.intro)))
   ·skip
    refine TA.ac 10 z (OpOk.lit (enc:=eI_) [(nth x0.arcs k394 az_).frm] z e2_ sz3 ze3 z z z ep_ (by decide) (by decide) (0:Int) z (by decide) z (by decide) i2_ (fun a460 c461=>⟨(fun w h=>ez_ (d0_.le.refl _) (fun r hr=>et_ [1,2,3,4,6] z hr) w h),?_⟩))
    refine TA.front 5 z z (TA.by (fun w h=>Reach.takeN hz456 hm456 h) (TA.ac 11 z (av_ z z e2_ sz3 by3 ze3 z z (by decide) z z z (.inr ⟨_,1,z⟩) (by simpa using u47) (by decide) (fun a464 c465=>(k3 ?_)))))
    refine TA.know (f4_ (q:=1) z zf409) (fun ⟨hs466,hs466b⟩=> ?_)
    refine TA.b 12 z (OpVal.index z fn_ fp_ z z hs466 u48.1 u48.2) z (TA.front 1 z z (TA.front 1 z z ?_))
    have hn468:(l391.set (((nth x0.arcs k394 az_).to).toNat) ((nth l391 (((nth x0.arcs k394 az_).to).toNat) [])++[(nth x0.arcs k394 az_).frm])).length=l391.length:=(ls_ ..).trans rfl
    refine TA.ac 13 rfl (bf_ (l':=((nth l391 (((nth x0.arcs k394 az_).to).toNat) [])++[(nth x0.arcs k394 az_).frm])) rfl fp_ rfl rfl rfl rfl rfl (by rw [zf409.len];omega) zf409 (fun zf467=>(k2 ?_)))
    exact TA.dn (B.n (S.n (cf ((),(z407,(z392.set (((nth x0.arcs k394 az_).to).toNat) (((nth l391 (((nth x0.arcs k394 az_).to).toNat) [])++[(nth x0.arcs k394 az_).frm]),(a464,c465))))) ⟨hh,hn406,zf408,hn468,zf467⟩ (δ [5,5,5,5] 5))))
   skip
   obtain ⟨p469,hz469,hm469⟩:=Zn.at zf409 (i:=((nth x0.arcs k394 az_).to).toNat) (by omega)
   refine TA.ac 7 z (OpVal.ok (bh_ z jx_ z (q:=5) z hz469 hm469) z z ⟨(fun w h=>ez_ (d0_.le.refl _) (fun r hr=>et_ [1,2,3,4,6] z hr) w h),?_⟩)
   refine TA.front 5 z z (TA.by (fun w h=>Reach.takeN hz469 hm469 h) (TA.ac 11 z (av_ z z e2_ sz3 by3 ze3 z z (by decide) z z z (.inr ⟨_,1,z⟩) (by simpa using u47) (by decide) (fun a471 c472=>(k3 ?_)))))
   refine TA.know (f4_ (q:=1) z zf409) (fun ⟨hs473,hs473b⟩=> ?_)
   refine TA.b 12 z (OpVal.index z fn_ fp_ z z hs473 u48.1 u48.2) z (TA.front 1 z z (TA.front 1 z z ?_))
   have hn475:(l391.set (((nth x0.arcs k394 az_).to).toNat) ((nth l391 (((nth x0.arcs k394 az_).to).toNat) [])++[(nth x0.arcs k394 az_).frm])).length=l391.length:=(ls_ ..).trans rfl
   refine TA.ac 13 rfl (bf_ (l':=((nth l391 (((nth x0.arcs k394 az_).to).toNat) [])++[(nth x0.arcs k394 az_).frm])) rfl fp_ rfl rfl rfl rfl rfl (by rw [zf409.len];omega) zf409 (fun zf474=>(k2 ?_)))
   exact TA.dn (B.n (S.n (cf ((),(z407,(z392.set (((nth x0.arcs k394 az_).to).toNat) (((nth l391 (((nth x0.arcs k394 az_).to).toNat) [])++[(nth x0.arcs k394 az_).frm]),(a471,c472))))) ⟨hh,hn406,zf408,hn475,zf474⟩ (δ [5,5,5,5] 5))))
  skip
  obtain ⟨_,⟨z399,z402⟩⟩:=g
  obtain ⟨hh,hn398,zf400,hn401,zf403⟩:=hg
  try dsimp only at hn398 zf400 hn401 zf403 ⊢
  dsimp only [Ec_]at hh
  have zf400b:=zf400.len
  have zf403b:=zf403.len
  refine TC.know (ef_ (q:=2) z zf400) (fun ⟨_,hb476⟩=> ?_)
  refine TC.know (ef_ (q:=4) z zf403) (fun ⟨_,hb477⟩=> ?_)
  refine π (ω z (OpVal.succ z z z (by omega)) (θ z z ?_))
  rw [←hn401]
  refine κ ?_
  obtain ⟨hh,hlt478⟩:=ey_ hR1 hh
  exact lf (((l387.set (((nth x0.arcs k394 az_).frm).toNat) ((nth l387 (((nth x0.arcs k394 az_).frm).toNat) [])++[(nth x0.arcs k394 az_).to])),(l391.set (((nth x0.arcs k394 az_).to).toNat) ((nth l391 (((nth x0.arcs k394 az_).to).toNat) [])++[(nth x0.arcs k394 az_).frm])),(k394+1)),(z399,z402)) hlt478 ⟨hh,hn398,zf400,zf403⟩ (δ [4,4,4,4,4] 5)
 refine TC.exit (S.x (S.x ?_))
 replace hh:=el_ hR1 hh
 refine Δ (S.n (ξ (ω z (cc_ z) (ω z (bp_ (.inr z) z) (κ ?_)))))
 rw [←hn388]
 refine TC.front 2 z z (TC.cm_ (fun w h=>Reach.bm_ ep_ zf390 h) (fun τ481 hle480 hr479=> ?_))
 replace f0_0:=f0_0.mono hle480
 replace f0_1:=f0_1.mono hle480
 replace f0_2:=f0_2.mono hle480
 have hr479b:=hr479.big
 refine TC.front 3 z z (TC.cm_ (fun w h=>Reach.bm_ ep_ zf393 h) (fun τ484 hle483 hr482=> ?_))
 replace f0_0:=f0_0.mono hle483
 replace f0_1:=f0_1.mono hle483
 replace f0_2:=f0_2.mono hle483
 replace hr479:=hr479.mono hle483
 have hr482b:=hr482.big
 refine TC.ret ?_
 obtain rfl:=so hh
 exact ro [φ b109 (au_ x0 a0_0 c0_0 a0_1 c0_1 a0_2 c0_2) 25,φ b112 #[.slice a114 l387.length c115] 27,φ b118 #[.slice a120 l391.length c121] 27] z (RVs.tmp z RVs.nil) ⟨b109,a0_0,c0_0,a0_1,c0_1,a0_2,c0_2,b112,a114,c115,b118,a120,c121,z,f0_0,f0_1,f0_2,hr479,hr482,z⟩
def B7_(l143:N_1)(k145:Nat)(y4_0:Int):Option (Nat×(N_1×Nat)):=
 grd (0≤y4_0∧y4_0<(l143.length:Int)) (grd (k145+1≤9223372036854775807) (some (0,((l143.set y4_0.toNat (k145:Int)),(k145+1)))))
def D1_(k169:Nat)(l175:List Tip):Option (((List Tip)×Nat)⊕(Fst×Int)):=
 nxt (l175,(k169+1))
def D6_(k208:Nat)(l215:List Tip):Option (((List Tip)×Nat)⊕(Fst×Int)):=
 nxt (l215,(k208+1))
def C8_(k249:Nat)(l257:List Arc):Option (((List Arc)×Nat)⊕(Fst×Int)):=
 nxt (l257,(k249+1))
def Bk_(x0:Fst)(l143:N_1)(k145:Nat)(l166:List Tip)(l205:List Tip)(l246:List Arc)(k249:Nat):Option (((List Arc)×Nat)⊕(Fst×Int)):=
 ec_ (decide ((k249:Int)<((x0.arcs.length:Nat):Int))) (grd (0≤((nth x0.arcs k249 az_).frm)∧((nth x0.arcs k249 az_).frm)<(l143.length:Int)) (grd (0≤((nth x0.arcs k249 az_).to)∧((nth x0.arcs k249 az_).to)<(l143.length:Int)) (ec_ (decide (0≤(nth l143 (((nth x0.arcs k249 az_).frm).toNat) 0))) (ec_ (decide (0≤(nth l143 (((nth x0.arcs k249 az_).to).toNat) 0))) (grd ((l246.length+[(⟨(nth l143 (((nth x0.arcs k249 az_).frm).toNat) 0),(nth l143 (((nth x0.arcs k249 az_).to).toNat) 0),(nth x0.arcs k249 az_).set,(nth x0.arcs k249 az_).out,(nth x0.arcs k249 az_).copy⟩:Arc)].length) * 72≤140737488355328) (C8_ k249 (l246++[(⟨(nth l143 (((nth x0.arcs k249 az_).frm).toNat) 0),(nth l143 (((nth x0.arcs k249 az_).to).toNat) 0),(nth x0.arcs k249 az_).set,(nth x0.arcs k249 az_).out,(nth x0.arcs k249 az_).copy⟩:Arc)]))) (C8_ k249 l246)) (C8_ k249 l246)))) (fin (bnd (B5_ (⟨(k145:Int),l166,l205,l246⟩:Fst)) (fun v145=>some (v145.1,v145.2))))
def Bp_(x0:Fst)(l143:N_1)(k145:Nat)(l166:List Tip)(l205:List Tip)(k208:Nat):Option (((List Tip)×Nat)⊕(Fst×Int)):=
 ec_ (decide ((k208:Int)<((x0.ends.length:Nat):Int))) (grd (0≤((nth x0.ends k208 tz_).state)∧((nth x0.ends k208 tz_).state)<(l143.length:Int)) (ec_ (decide (0≤(nth l143 (((nth x0.ends k208 tz_).state).toNat) 0))) (grd ((l205.length+[(⟨(nth l143 (((nth x0.ends k208 tz_).state).toNat) 0),(nth x0.ends k208 tz_).out⟩:Tip)].length) * 24≤140737488355328) (D6_ k208 (l205++[(⟨(nth l143 (((nth x0.ends k208 tz_).state).toNat) 0),(nth x0.ends k208 tz_).out⟩:Tip)]))) (D6_ k208 l205))) (fin (eq_ (fun q:(List Arc)×Nat=>Bk_ x0 l143 k145 l166 l205 q.1 q.2) (([]:List Arc),0)))
def Bn_(x0:Fst)(l143:N_1)(k145:Nat)(l166:List Tip)(k169:Nat):Option (((List Tip)×Nat)⊕(Fst×Int)):=
 ec_ (decide ((k169:Int)<((x0.starts.length:Nat):Int))) (grd (0≤((nth x0.starts k169 tz_).state)∧((nth x0.starts k169 tz_).state)<(l143.length:Int)) (ec_ (decide (0≤(nth l143 (((nth x0.starts k169 tz_).state).toNat) 0))) (grd ((l166.length+[(⟨(nth l143 (((nth x0.starts k169 tz_).state).toNat) 0),(nth x0.starts k169 tz_).out⟩:Tip)].length) * 24≤140737488355328) (D1_ k169 (l166++[(⟨(nth l143 (((nth x0.starts k169 tz_).state).toNat) 0),(nth x0.starts k169 tz_).out⟩:Tip)]))) (D1_ k169 l166))) (fin (eq_ (fun q:(List Tip)×Nat=>Bp_ x0 l143 k145 l166 q.1 q.2) (([]:List Tip),0)))
def Fx_(x0:Fst)(jz:Nat)(l143:N_1)(k145:Nat):Option (Fst×Int):=
 jsel jz (eq_ (fun q:(List Tip)×Nat=>Bn_ x0 l143 k145 q.1 q.2) (([]:List Tip),0)) (fun _=>none)
def Bq_(x0:Fst)(l117:N_1)(k119:Nat):Option ((N_1×Nat)⊕(Fst×Int)):=
 ec_ (decide ((k119:Int)<(((replicate x0.states.toNat (0:Int)).length:Nat):Int))) (grd (k119<l117.length) (nxt ((l117.set k119 (-1)),(k119+1)))) (fin (bnd (Ef_ x0) (fun v29=>bnd (Dx_ (pw_ (fun (q:N_1×Nat) (x:Int)=>B7_ q.1 q.2 x)) (0,(l117,0)) (⟨v29.1.states,v29.1.starts,v29.1.ends,v29.1.arcs⟩:Fst) v29.2.1 v29.2.2) (fun zr4=>Fx_ x0 zr4.1 zr4.2.1 zr4.2.2))))
def Fd_(x0:Fst):Option (Fst×Int):=
 bnd (B8_ x0) (fun v5=>ec_ (decide (v5≠0)) (some ((⟨0,([]:List Tip),([]:List Tip),([]:List Arc)⟩:Fst),1)) (grd (0≤x0.states∧8 * x0.states.toNat≤281474976710656) (eq_ (fun q:N_1×Nat=>Bq_ x0 q.1 q.2) ((replicate x0.states.toNat (0:Int)),0))))
def H8_(σ:d0_)(r:Fst×Int):Value→d0_→List Res→Prop:=fun v σ' H'=>
 ∃a1 c1 a2 c2 a3 c3,v= .tuple #[.agg (au_ r.1 a1 c1 a2 c2 a3 c3),.int .i64 r.2]∧RS σ' 2 d2_ (.slice a1 r.1.starts.length c1) r.1.starts∧RS σ' 2 d2_ (.slice a2 r.1.ends.length c2) r.1.ends∧RS σ' 8 d8_ (.slice a3 r.1.arcs.length c3) r.1.arcs∧H'=[]
theorem Hn_{σ:d0_}{x0:Fst}(f0_0:RS σ 2 d2_ (.slice a0_0 x0.starts.length c0_0) x0.starts)(f0_1:RS σ 2 d2_ (.slice a0_1 x0.ends.length c0_1) x0.ends)(f0_2:RS σ 8 d8_ (.slice a0_2 x0.arcs.length c0_2) x0.arcs){r:Fst×Int}(hh:Fd_ x0=some r):
  Con prog 44 #[.agg (au_ x0 a0_0 c0_0 a0_1 c0_1 a0_2 c0_2)] σ [] (H8_ σ r):=by
 dsimp only [Fd_]at hh
 have f0_0b:=f0_0.rv.big
 have f0_1b:=f0_1.rv.big
 have f0_2b:=f0_2.rv.big
 refine Con.mk (n:=136) Tryz.func44 z z z (fun w0=> ?_)
 refine ξ (ζ z (boxA z z z z (fun b101=> ?_)))
 refine ζ z (OpOk.alloc z m2_ z z (fun b103=> ?_))
 refine θ z z (κ (ν (ξ (ω z (ak_ z jc_ hi_ z (i:=1) z z) ?_))))
 obtain ⟨v5,u5,hh⟩:=eb_ hh
 refine ζ z (aw_ (C7_ (x0:=x0) f0_0 f0_1 f0_2 u5) z z z7_ z z z ?_)
 refine ω z (OpVal.neq z z z) (κ (TC.cD z hh (fun h105 hh=> ?_) (fun h105 hh=> ?_)))
 ·refine ξ (ω z (an_ z tx_ m2_ z) (ζ z (storeAll z hi_ z z z z z z ?_)))
  refine θ z z (κ (TC.rt 1 (S.r ?_)))
  obtain rfl:=so hh
  exact ro [] z (RVs.agg jc_ hi_ z (i:=0) z z (RVs.tmp z RVs.nil)) ⟨none,0,none,0,none,0,z,(RS.nilF _ d2_ d1_),(RS.nilF _ d2_ d1_),(RS.nilF _ d8_ ee_),z⟩
 refine ι (S.n (ξ (ω z (aa_ z fa_ z) (ω z (ab_ z ag3 z (i:=1) z z) ?_))))
 obtain ⟨u12,hh⟩:=d6_ hh
 refine ζ rfl (a2_ (m:=x0.states.toNat) (enc:=eI_) (0:Int) rfl e2_ sz3 by3 ze3 rfl rfl (vN u12.1) (vN u12.1) (by omega) (by decide) ep_ (by decide) rfl i2_ (fun a106 c107=> ?_))
 refine ζ z (OpOk.alloc z h4_ z z (fun b109=> ?_))
 refine ζ z (ae_ z fp_ z z z z z ?_)
 refine κ (ν (ξ (ω z (ab_ z jx_ z (i:=0) z z) (ω z (lenC z e2_ z) (θ z z (κ (υ (TC.ao_ (α:=(N_1×Nat)×(Unit)) (rgs [(5,1),(27,7)]) (fun g=>[(27,.int .i64 ((g.1.2:Nat):Int))]) (fun g=>[φ b101 (au_ x0 a0_0 c0_0 a0_1 c0_1 a0_2 c0_2) 25,φ b103 #[.int .i64 0,nl_,nl_,nl_] 25,φ b109 #[.slice a106 ((replicate x0.states.toNat (0:Int)).length) c107] 86,ε 3 1 eI_ (.slice a106 (replicate x0.states.toNat (0:Int)).length c107) g.1.1]) (fun g=>σ) (fun g=>eq_ (fun q:N_1×Nat=>Bq_ x0 q.1 q.2) g.1=some r∧g.1.1.length=(replicate x0.states.toNat (0:Int)).length) (fun g=>eh_ (fun q:N_1×Nat=>Bq_ x0 q.1 q.2) g.1) (((replicate x0.states.toNat (0:Int)),0),()) (δ [1,1,2,3] 4) z (by repeat (first|exact trivial|refine ⟨z,?_⟩)) ⟨hh,z⟩ (fun g1 j1 hg1=> ?_)))))))))
 obtain ⟨⟨l117,k119⟩,_⟩:=g1
 obtain ⟨hh,hn118⟩:=hg1
 try dsimp only at hn118 ⊢
 obtain ⟨z1,hh,hR1⟩:=eo_ hh
 dsimp only [Bq_]at hh
 refine η (i:=3) z (fun _ hb120 _=> ?_)
 refine ξ (ω z (OpVal.lss z z z) (κ (ν (TC.cD z hh (fun h121 hh=> ?_) (fun h121 hh=> ?_)))))
 ·refine ι (S.n (ν (υ (ξ (θ z z (θ z z (κ (π (ω z (ab_ z jx_ z (i:=2) z z) (θ z z ?_))))))))))
  obtain ⟨u23,hh⟩:=d6_ hh
  refine TL.isSl (i:=3) z (fun hs122 _ _=> ?_)
  refine ω z (af_ z e2_ sz3 z z hs122 (by omega)) (ψ 3 z z ?_)
  have hn123:(l117.set k119 (-1)).length=(replicate x0.states.toNat (0:Int)).length:=by rw [ls_];exact hn118
  refine ζ z (ay_ (-1) z sz3 z z z z ep_ i2_ (by omega) (by omega) ?_)
  refine TL.nil (B.n (S.n (π (ω z (OpVal.succ z z z (by omega)) (θ z z (κ ?_))))))
  obtain ⟨hh,hlt124⟩:=ey_ hR1 hh
  exact lf (((l117.set k119 (-1)),(k119+1)),()) hlt124 ⟨hh,hn123⟩ (δ [3,3,3] 4)
 refine TC.exit (S.x (S.x ?_))
 replace hh:=el_ hR1 hh
 refine Δ (S.n (ξ (ζ z (OpOk.alloc z m2_ z z (fun b125=> ?_)))))
 refine κ (ν (ξ (ω z (ak_ z jc_ hi_ z (i:=1) z z) ?_)))
 obtain ⟨v29,u29,hh⟩:=eb_ hh
 refine ζ z (OpOk.call (Hc_ f0_0 f0_1 f0_2 u29) z z pf85 z z z z ?_)
 rintro _ τ127 _ hle127 ⟨b127_10,a127_1,c127_2,a127_4,c127_5,a127_7,c127_8,b127_14,a127_11,c127_12,b127_18,a127_15,c127_16,rfl,f127_3,f127_6,f127_9,f127_13,f127_17,rfl⟩
 replace f0_0:=f0_0.mono hle127
 replace f0_1:=f0_1.mono hle127
 replace f0_2:=f0_2.mono hle127
 have f127_3b:=f127_3.rv.big
 have f127_6b:=f127_6.rv.big
 have f127_9b:=f127_9.rv.big
 have f127_13b:=f127_13.big
 have f127_17b:=f127_17.big
 refine κ (υ (TC.ax_ (δ [2,2,2,3,7,7,7,7] 8) ?_))
 obtain ⟨zr4,hz4,hh⟩:=eb_ hh
 obtain ⟨jz4,⟨l143,k145⟩⟩:=zr4
 dsimp only at hh
 refine TC.rangeG (A:=(fun (x:Int) _ vs=>vs=[.int .i64 x])) [] (fun (q:N_1×Nat) (x:Int)=>B7_ q.1 q.2 x) (fun (q:N_1×Nat) (τ146:d0_) Hs=>Hs=[φ b101 (au_ x0 a0_0 c0_0 a0_1 c0_1 a0_2 c0_2) 25,φ b103 #[.int .i64 0,nl_,nl_,nl_] 25,φ b109 #[.slice a106 ((replicate x0.states.toNat (0:Int)).length) c107] 86,ε 3 1 eI_ (.slice a106 (replicate x0.states.toNat (0:Int)).length c107) q.1,φ b125 #[.int .i64 ((q.2:Nat):Int),nl_,nl_,nl_] 25]∧q.1.length=(replicate x0.states.toNat (0:Int)).length) (s:=(l117,0)) rfl pf122 rfl rfl (by rintro _ _ _ _ ⟨rfl,hn144⟩ hle_;exact ⟨rfl,hn144⟩) ⟨rfl,hn118⟩ (fun _ _ _ h_=>by subst h_;rfl) (G0_ f127_3 f127_6 f127_9 f127_13 f127_17 hz4) ?_ ?_
 ·clear hh hz4
  rintro l_ _ _ _ τ146 ⟨l143,k145⟩ y4_0 z4 _ _ hh hle147 rfl ⟨rfl,hn144⟩
  dsimp only [B7_]at hh
  replace f0_0:=f0_0.mono hle147
  replace f0_1:=f0_1.mono hle147
  replace f0_2:=f0_2.mono hle147
  show TC _ _ _ (upds _ [(36,.int .i64 y4_0)]) τ146 [φ b101 (au_ x0 a0_0 c0_0 a0_1 c0_1 a0_2 c0_2) 25,φ b103 #[.int .i64 0,nl_,nl_,nl_] 25,φ b109 #[.slice a106 ((replicate x0.states.toNat (0:Int)).length) c107] 86,ε 3 1 eI_ (.slice a106 (replicate x0.states.toNat (0:Int)).length c107) l143,φ b125 #[.int .i64 (k145:Int),nl_,nl_,nl_] 25]
  refine η (i:=3) z (fun _ hb148 _=> ?_)
  refine π (θ z z (TL.nil (asg_n (fun _ _ _=> ?_))))
  refine υ (ξ (ω z (ab_ z jx_ z (i:=2) z z) (θ z z (ω z (aa_ z fa_ z) (ω z (ab_ z ag3 z (i:=4) z z) ?_)))))
  obtain ⟨u35,hh⟩:=d6_ hh
  refine TL.isSl (i:=3) z (fun hs149 _ _=> ?_)
  refine ω z (OpVal.index z e2_ sz3 z z hs149 u35.1 u35.2) (ψ 3 z z ?_)
  have hn150:(l143.set y4_0.toNat (k145:Int)).length=(replicate x0.states.toNat (0:Int)).length:=by rw [ls_];exact hn144
  refine ζ z (ay_ (k145:Int) z sz3 z z z z ep_ i2_ (by omega) (by omega) ?_)
  refine κ (π (ω z (aa_ z fa_ z) (ω z (ab_ z ag3 z (i:=4) z z) ?_)))
  obtain ⟨u39,hh⟩:=d6_ hh
  refine ω z (OpVal.succ z z z (by omega)) (ω z (aa_ z fa_ z) (ψ 4 z z (ζ z (bj_ z sz3 z z z z z ?_))))
  refine TL.nil (B.n ?_)
  obtain rfl:=so hh
  exact rnd_n ⟨z,_,δ [1,4,4,4] 5,⟨z,hn150⟩⟩
 rintro τ146 _ _ hle147 ⟨rfl,hn144⟩ ⟨rfl⟩
 replace f0_0:=f0_0.mono hle147
 replace f0_1:=f0_1.mono hle147
 replace f0_2:=f0_2.mono hle147
 dsimp only [Fx_]at hh
 show jmpQ _ _ _ _ _ τ146 [φ b101 (au_ x0 a0_0 c0_0 a0_1 c0_1 a0_2 c0_2) 25,φ b103 #[.int .i64 0,nl_,nl_,nl_] 25,φ b109 #[.slice a106 ((replicate x0.states.toNat (0:Int)).length) c107] 86,ε 3 1 eI_ (.slice a106 (replicate x0.states.toNat (0:Int)).length c107) l143,φ b125 #[.int .i64 (k145:Int),nl_,nl_,nl_] 25,φ b127_10 (au_ v29.1 a127_1 c127_2 a127_4 c127_5 a127_7 c127_8) 25,φ b127_14 #[.slice a127_11 v29.2.1.length c127_12] 27,φ b127_18 #[.slice a127_15 v29.2.2.length c127_16] 27]
 refine yg_ hh ?_ ?_ <;>clear hh
 ·intro hh
  refine B.n (S.n (ν (ξ (ω z (aa_ z f2_ z) (ω z (ab_ z jv_ z (i:=0) z z) (ω z (lenC z ge_ z) (θ z z (κ (υ (TC.nilS 76 2 d2_ (TC.ao_ (α:=((List Tip)×Nat)×((Option Addr)×Nat)) (rgs [(9,2),(49,21)]) (fun g=>[(49,.int .i64 ((g.1.2:Nat):Int))]) (fun g=>[φ b101 (au_ x0 a0_0 c0_0 a0_1 c0_1 a0_2 c0_2) 25,φ b103 #[.int .i64 0,nl_,nl_,nl_] 25,φ b109 #[.slice a106 ((replicate x0.states.toNat (0:Int)).length) c107] 86,ε 3 1 eI_ (.slice a106 (replicate x0.states.toNat (0:Int)).length c107) l143,φ b125 #[.int .i64 (k145:Int),.slice g.2.1 g.1.1.length g.2.2,nl_,nl_] 25,ε 76 2 d2_ (.slice g.2.1 g.1.1.length g.2.2) g.1.1]) (fun g=>τ146) (fun g=>eq_ (fun q:(List Tip)×Nat=>Bn_ x0 l143 k145 q.1 q.2) g.1=some r∧l143.length=(replicate x0.states.toNat (0:Int)).length) (fun g=>eh_ (fun q:(List Tip)×Nat=>Bn_ x0 l143 k145 q.1 q.2) g.1) ((([]:List Tip),0),(none,0)) (δ [5,5,5,5,5] 6) z (by repeat (first|exact trivial|refine ⟨z,?_⟩)) ⟨hh,hn144⟩ (fun g2 j2 hg2=> ?_))))))))))))
  obtain ⟨⟨l166,k169⟩,⟨a167,c168⟩⟩:=g2
  obtain ⟨hh,hn164⟩:=hg2
  try dsimp only at hn164 ⊢
  obtain ⟨z1,hh,hR1⟩:=eo_ hh
  dsimp only [Bn_]at hh
  refine η (i:=3) z (fun _ hb171 _=> ?_)
  refine η (i:=5) z (fun _ hb172 _=> ?_)
  refine ξ (ω z (OpVal.lss z z z) (κ (ν (TC.cD z hh (fun h173 hh=> ?_) (fun h173 hh=> ?_)))))
  ·refine ι (S.n (TC.cutG (α:=((List Tip))×((Option Addr)×Nat)) (rgs [(9,2),(51,18)]) (fun g=>[]) (fun g=>[φ b101 (au_ x0 a0_0 c0_0 a0_1 c0_1 a0_2 c0_2) 25,φ b103 #[.int .i64 0,nl_,nl_,nl_] 25,φ b109 #[.slice a106 ((replicate x0.states.toNat (0:Int)).length) c107] 86,ε 3 1 eI_ (.slice a106 (replicate x0.states.toNat (0:Int)).length c107) l143,φ b125 #[.int .i64 (k145:Int),.slice g.2.1 g.1.length g.2.2,nl_,nl_] 25,ε 76 2 d2_ (.slice g.2.1 g.1.length g.2.2) g.1]) (fun g=>τ146) (fun g=>D1_ k169 g.1=some z1∧l143.length=(replicate x0.states.toNat (0:Int)).length) ?_ (fun g j hg=> ?_)))
   ·skip
    refine υ (ξ (ω z (af_ z ge_ fr_ z z f0_0.rv.sl (by omega)) (ω z (a7_ tz_ z ni_ fr_ z f0_0 (by omega) (by omega)) (ζ z (OpOk.alloc z ik_ z z (fun b178=> ?_))))))
    refine ζ z (storeAll z fr_ z z z z z z ?_)
    refine κ (ξ (ω z (ab_ z jx_ z (i:=3) z z) (ω z (aa_ z gj_ z) (ω z (ab_ z ag3 z (i:=0) z z) ?_))))
    obtain ⟨u54,hh⟩:=d6_ hh
    refine TL.isSl (i:=4) z (fun hs180 _ _=> ?_)
    refine ω z (OpVal.index z e2_ sz3 z z hs180 u54.1 u54.2) (ω z (a4_ (0:Int) z ag3 z (q:=4) z ep_ (by omega) z) (θ z z (κ (ξ (θ z z (ω z (OpVal.geq z z z) (κ (TC.cD z hh (fun h181 hh=> ?_) (fun h181 hh=> ?_)))))))))
    ·refine π (ω z (aa_ z f2_ z) (ω z (ab_ z jv_ z (i:=5) z z) (θ z z (ω z (aa_ z fh_ z) (ω z (ab_ z ag9 z (i:=0) z z) (ω z (an_ z wl_ ik_ z) (ζ z (OpOk.lit (enc:=d2_) [(⟨(nth l143 (((nth x0.starts k169 tz_).state).toNat) 0),(nth x0.starts k169 tz_).out⟩:Tip)] z ge_ fr_ ik_ z z z d1_ (by decide) (by decide) tz_ z (by decide) z (by decide) fc_ (fun a182 c183=> ?_)))))))))
     refine ψ 7 z z ?_
     obtain ⟨u66,hh⟩:=d6_ hh
     refine ζ z (av_ z z ge_ fr_ w4_ ik_ z z (by decide) z z z (.inr ⟨_,0,z⟩) (by simpa using u66) (by decide) (fun a185 c186=> ?_))
     refine ω z (aa_ z f2_ z) (ψ 7 z z (ζ z (ae_ z w3_ z z z z z ?_)))
     exact TL.nil (B.n (S.n (cf ((l166++[(⟨(nth l143 (((nth x0.starts k169 tz_).state).toNat) 0),(nth x0.starts k169 tz_).out⟩:Tip)]),(a185,c186)) ⟨hh,hn164⟩ (δ [1,1,7,7,7,7] 6))))
    exact ι (B.n (S.n (cf (l166,(a167,c168)) ⟨hh,hn164⟩ (δ [6,6,6,6,6,6] 6))))
   skip
   obtain ⟨l175,⟨a176,c177⟩⟩:=g
   obtain ⟨hh,hn174⟩:=hg
   try dsimp only at hn174 ⊢
   dsimp only [D1_]at hh
   refine η (i:=3) z (fun _ hb187 _=> ?_)
   refine η (i:=5) z (fun _ hb188 _=> ?_)
   refine π (ω z (OpVal.succ z z z (by omega)) (θ z z (κ ?_)))
   obtain ⟨hh,hlt189⟩:=ey_ hR1 hh
   exact lf ((l175,(k169+1)),(a176,c177)) hlt189 ⟨hh,hn174⟩ (δ [5,5,5,5,5,5] 6)
  refine TC.exit (S.x (S.x ?_))
  replace hh:=el_ hR1 hh
  refine Δ (S.n (ν (ξ (ω z (aa_ z f6_ z) (ω z (ab_ z jv_ z (i:=0) z z) (ω z (lenC z ge_ z) (θ z z (κ (υ (TC.nilS 76 2 d2_ (TC.ao_ (α:=((List Tip)×Nat)×((Option Addr)×Nat)) (rgs [(12,2),(73,21)]) (fun g=>[(73,.int .i64 ((g.1.2:Nat):Int))]) (fun g=>[φ b101 (au_ x0 a0_0 c0_0 a0_1 c0_1 a0_2 c0_2) 25,φ b103 #[.int .i64 0,nl_,nl_,nl_] 25,φ b109 #[.slice a106 ((replicate x0.states.toNat (0:Int)).length) c107] 86,ε 3 1 eI_ (.slice a106 (replicate x0.states.toNat (0:Int)).length c107) l143,φ b125 #[.int .i64 (k145:Int),.slice a167 l166.length c168,.slice g.2.1 g.1.1.length g.2.2,nl_] 25,ε 76 2 d2_ (.slice a167 l166.length c168) l166,ε 76 2 d2_ (.slice g.2.1 g.1.1.length g.2.2) g.1.1]) (fun g=>τ146) (fun g=>eq_ (fun q:(List Tip)×Nat=>Bp_ x0 l143 k145 l166 q.1 q.2) g.1=some r∧l143.length=(replicate x0.states.toNat (0:Int)).length) (fun g=>eh_ (fun q:(List Tip)×Nat=>Bp_ x0 l143 k145 l166 q.1 q.2) g.1) ((([]:List Tip),0),(none,0)) (δ [6,6,6,6,6,6] 7) z (by repeat (first|exact trivial|refine ⟨z,?_⟩)) ⟨hh,hn164⟩ (fun g3 j3 hg3=> ?_))))))))))))
  obtain ⟨⟨l205,k208⟩,⟨a206,c207⟩⟩:=g3
  obtain ⟨hh,hn203⟩:=hg3
  try dsimp only at hn203 ⊢
  obtain ⟨z1,hh,hR1⟩:=eo_ hh
  dsimp only [Bp_]at hh
  refine η (i:=3) z (fun _ hb210 _=> ?_)
  refine η (i:=5) z (fun _ hb211 _=> ?_)
  refine η (i:=6) z (fun _ hb212 _=> ?_)
  refine ξ (ω z (OpVal.lss z z z) (κ (ν (TC.cD z hh (fun h213 hh=> ?_) (fun h213 hh=> ?_)))))
  ·refine ι (S.n (TC.cutG (α:=((List Tip))×((Option Addr)×Nat)) (rgs [(12,2),(75,18)]) (fun g=>[]) (fun g=>[φ b101 (au_ x0 a0_0 c0_0 a0_1 c0_1 a0_2 c0_2) 25,φ b103 #[.int .i64 0,nl_,nl_,nl_] 25,φ b109 #[.slice a106 ((replicate x0.states.toNat (0:Int)).length) c107] 86,ε 3 1 eI_ (.slice a106 (replicate x0.states.toNat (0:Int)).length c107) l143,φ b125 #[.int .i64 (k145:Int),.slice a167 l166.length c168,.slice g.2.1 g.1.length g.2.2,nl_] 25,ε 76 2 d2_ (.slice a167 l166.length c168) l166,ε 76 2 d2_ (.slice g.2.1 g.1.length g.2.2) g.1]) (fun g=>τ146) (fun g=>D6_ k208 g.1=some z1∧l143.length=(replicate x0.states.toNat (0:Int)).length) ?_ (fun g j hg=> ?_)))
   ·skip
    refine υ (ξ (ω z (af_ z ge_ fr_ z z f0_1.rv.sl (by omega)) (ω z (a7_ tz_ z ni_ fr_ z f0_1 (by omega) (by omega)) (ζ z (OpOk.alloc z ik_ z z (fun b218=> ?_))))))
    refine ζ z (storeAll z fr_ z z z z z z ?_)
    refine κ (ξ (ω z (ab_ z jx_ z (i:=3) z z) (ω z (aa_ z gj_ z) (ω z (ab_ z ag3 z (i:=0) z z) ?_))))
    obtain ⟨u83,hh⟩:=d6_ hh
    refine TL.isSl (i:=4) z (fun hs220 _ _=> ?_)
    refine ω z (OpVal.index z e2_ sz3 z z hs220 u83.1 u83.2) (ω z (a4_ (0:Int) z ag3 z (q:=4) z ep_ (by omega) z) (θ z z (κ (ξ (θ z z (ω z (OpVal.geq z z z) (κ (TC.cD z hh (fun h221 hh=> ?_) (fun h221 hh=> ?_)))))))))
    ·refine π (ω z (aa_ z f6_ z) (ω z (ab_ z jv_ z (i:=5) z z) (θ z z (ω z (aa_ z fh_ z) (ω z (ab_ z ag9 z (i:=0) z z) (ω z (an_ z wl_ ik_ z) (ζ z (OpOk.lit (enc:=d2_) [(⟨(nth l143 (((nth x0.ends k208 tz_).state).toNat) 0),(nth x0.ends k208 tz_).out⟩:Tip)] z ge_ fr_ ik_ z z z d1_ (by decide) (by decide) tz_ z (by decide) z (by decide) fc_ (fun a222 c223=> ?_)))))))))
     refine ψ 8 z z ?_
     obtain ⟨u95,hh⟩:=d6_ hh
     refine ζ z (av_ z z ge_ fr_ w4_ ik_ z z (by decide) z z z (.inr ⟨_,0,z⟩) (by simpa using u95) (by decide) (fun a225 c226=> ?_))
     refine ω z (aa_ z f6_ z) (ψ 7 z z (ζ z (ae_ z w3_ z z z z z ?_)))
     exact TL.nil (B.n (S.n (cf ((l205++[(⟨(nth l143 (((nth x0.ends k208 tz_).state).toNat) 0),(nth x0.ends k208 tz_).out⟩:Tip)]),(a225,c226)) ⟨hh,hn203⟩ (δ [1,8,2,8,8,8,8] 7))))
    exact ι (B.n (S.n (cf (l205,(a206,c207)) ⟨hh,hn203⟩ (δ [7,7,7,7,7,7,7] 7))))
   skip
   obtain ⟨l215,⟨a216,c217⟩⟩:=g
   obtain ⟨hh,hn214⟩:=hg
   try dsimp only at hn214 ⊢
   dsimp only [D6_]at hh
   refine η (i:=3) z (fun _ hb227 _=> ?_)
   refine η (i:=5) z (fun _ hb228 _=> ?_)
   refine η (i:=6) z (fun _ hb229 _=> ?_)
   refine π (ω z (OpVal.succ z z z (by omega)) (θ z z (κ ?_)))
   obtain ⟨hh,hlt230⟩:=ey_ hR1 hh
   exact lf ((l215,(k208+1)),(a216,c217)) hlt230 ⟨hh,hn214⟩ (δ [6,6,6,6,6,6,6] 7)
  refine TC.exit (S.x (S.x ?_))
  replace hh:=el_ hR1 hh
  refine Δ (S.n (ν (ξ (ω z (aa_ z fk_ z) (ω z (ab_ z k0_ z (i:=0) z z) (ω z (lenC z h9_ z) (θ z z (κ (υ (TC.nilS 66 8 d8_ (TC.ao_ (α:=((List Arc)×Nat)×((Option Addr)×Nat)) (rgs [(15,3),(97,35)]) (fun g=>[(97,.int .i64 ((g.1.2:Nat):Int))]) (fun g=>[φ b103 #[.int .i64 0,nl_,nl_,nl_] 25,φ b109 #[.slice a106 ((replicate x0.states.toNat (0:Int)).length) c107] 86,ε 3 1 eI_ (.slice a106 (replicate x0.states.toNat (0:Int)).length c107) l143,φ b125 #[.int .i64 (k145:Int),.slice a167 l166.length c168,.slice a206 l205.length c207,.slice g.2.1 g.1.1.length g.2.2] 25,ε 76 2 d2_ (.slice a167 l166.length c168) l166,ε 76 2 d2_ (.slice a206 l205.length c207) l205,ε 66 8 d8_ (.slice g.2.1 g.1.1.length g.2.2) g.1.1]) (fun g=>τ146) (fun g=>eq_ (fun q:(List Arc)×Nat=>Bk_ x0 l143 k145 l166 l205 q.1 q.2) g.1=some r∧l143.length=(replicate x0.states.toNat (0:Int)).length) (fun g=>eh_ (fun q:(List Arc)×Nat=>Bk_ x0 l143 k145 l166 l205 q.1 q.2) g.1) ((([]:List Arc),0),(none,0)) (δ [7,7,7,7,7,7] 7) z (by repeat (first|exact trivial|refine ⟨z,?_⟩)) ⟨hh,hn203⟩ (fun g4 j4 hg4=> ?_))))))))))))
  obtain ⟨⟨l246,k249⟩,⟨a247,c248⟩⟩:=g4
  obtain ⟨hh,hn244⟩:=hg4
  try dsimp only at hn244 ⊢
  obtain ⟨z1,hh,hR1⟩:=eo_ hh
  dsimp only [Bk_]at hh
  refine η (i:=2) z (fun _ hb251 _=> ?_)
  refine η (i:=4) z (fun _ hb252 _=> ?_)
  refine η (i:=5) z (fun _ hb253 _=> ?_)
  refine η (i:=6) z (fun _ hb254 _=> ?_)
  refine ξ (ω z (OpVal.lss z z z) (κ (ν (TC.cD z hh (fun h255 hh=> ?_) (fun h255 hh=> ?_)))))
  ·refine ι (S.n (TC.cutG (α:=((List Arc))×((Option Addr)×Nat)) (rgs [(15,3),(99,32)]) (fun g=>[]) (fun g=>[φ b103 #[.int .i64 0,nl_,nl_,nl_] 25,φ b109 #[.slice a106 ((replicate x0.states.toNat (0:Int)).length) c107] 86,ε 3 1 eI_ (.slice a106 (replicate x0.states.toNat (0:Int)).length c107) l143,φ b125 #[.int .i64 (k145:Int),.slice a167 l166.length c168,.slice a206 l205.length c207,.slice g.2.1 g.1.length g.2.2] 25,ε 76 2 d2_ (.slice a167 l166.length c168) l166,ε 76 2 d2_ (.slice a206 l205.length c207) l205,ε 66 8 d8_ (.slice g.2.1 g.1.length g.2.2) g.1]) (fun g=>τ146) (fun g=>C8_ k249 g.1=some z1∧l143.length=(replicate x0.states.toNat (0:Int)).length) ?_ (fun g j hg=> ?_)))
   ·skip
    refine υ (ξ (ω z (af_ z h9_ g5_ z z f0_2.rv.sl (by omega)) (ω z (a7_ az_ z r7_ g5_ z f0_2 (by omega) (by omega)) (ζ z (OpOk.alloc z ki_ z z (fun b260=> ?_))))))
    refine ζ z (storeAll z g5_ z z z z z z ?_)
    refine κ (ν ?_)
    obtain ⟨u112,hh⟩:=d6_ hh
    obtain ⟨u117,hh⟩:=d6_ hh
    refine TC.draw [] (by kernel_rfl) (TA.b 0 z (ab_ z jx_ z (i:=2) z z) z (Ψ 1 z (aa_ z ip_ z) z (TA.b 2 z (ab_ z ag3 z (i:=0) z z) z (TA.isSl (i:=3) z (fun hs264 _ _=> ?_)))))
    refine TA.b 3 z (OpVal.index z e2_ sz3 z z hs264 u112.1 u112.2) z (TA.b 4 z (a4_ (0:Int) z ag3 z (q:=3) z ep_ (by omega) z) z (TA.b 5 z (ab_ z jx_ z (i:=2) z z) z (Ψ 6 z (aa_ z i3_ z) z (TA.b 7 z (ab_ z ag3 z (i:=0) z z) z (TA.isSl (i:=3) z (fun hs265 _ _=> ?_))))))
    refine TA.b 8 z (OpVal.index z e2_ sz3 z z hs265 u117.1 u117.2) z (TA.b 9 z (a4_ (0:Int) z ag3 z (q:=3) z ep_ (by omega) z) z (Ψ 10 z (ai_ (.inr z) z) z (Ψ 11 z (ai_ (.inr z) z) z (TA.dn (S.n (ξ (θ z z (ω z (OpVal.geq z z z) (TL.j z z (TL.split 113 z (fun h266=> ?_) (fun h266=> ?_)))))))))))
    ·replace hh:=ej_ h266 hh
     replace h266:=dt_ h266
     refine TL.g z (ai_ (.inl z) z) (TL.g z (OpVal.geq z z z) (ω z (ah_ z z z) (κ (TC.cD z hh (fun h267 hh=> ?_) (fun h267 hh=> ?_)))))
     ·refine π (ω z (aa_ z fk_ z) (ω z (ab_ z k0_ z (i:=4) z z) (θ z z (θ z z (ω z (aa_ z jp_ z) (ω z (bb_ z ag64 sz64 z (i:=0) z z z) (ω z (aa_ z it_ z) (ω z (ab_ z ag9 z (i:=0) z z) (ω z (aa_ z m1_ z) (ω z (ab_ z ag4 z (i:=0) z z) (ω z (an_ z pl66 ki_ z) (ζ z (OpOk.lit (enc:=d8_) [(⟨(nth l143 (((nth x0.arcs k249 az_).frm).toNat) 0),(nth l143 (((nth x0.arcs k249 az_).to).toNat) 0),(nth x0.arcs k249 az_).set,(nth x0.arcs k249 az_).out,(nth x0.arcs k249 az_).copy⟩:Arc)] z h9_ g5_ ki_ z z z ee_ (by decide) (by decide) az_ z (by decide) z (by decide) f5_ (fun a268 c269=> ?_))))))))))))))
      refine ψ 8 z z ?_
      obtain ⟨u139,hh⟩:=d6_ hh
      refine ζ z (av_ z z h9_ g5_ z8_ ki_ z z (by decide) z z z (.inr ⟨_,0,z⟩) (by simpa using u139) (by decide) (fun a271 c272=> ?_))
      refine ω z (aa_ z fk_ z) (ψ 6 z z (ζ z (ae_ z u4_ z z z z z ?_)))
      exact TL.nil (B.n (S.n (cf ((l246++[(⟨(nth l143 (((nth x0.arcs k249 az_).frm).toNat) 0),(nth l143 (((nth x0.arcs k249 az_).to).toNat) 0),(nth x0.arcs k249 az_).set,(nth x0.arcs k249 az_).out,(nth x0.arcs k249 az_).copy⟩:Arc)]),(a271,c272)) ⟨hh,hn244⟩ (δ [1,8,8,3,8,8,8] 7))))
     exact ι (B.n (S.n (cf (l246,(a247,c248)) ⟨hh,hn244⟩ (δ [7,7,7,7,7,7,7] 7))))
    replace hh:=ei_ h266 hh
    replace h266:=df_ h266
    exact χ z (χ z (ω z (ag_ z z z) (κ (TC.f z (ι (B.n (S.n (cf (l246,(a247,c248)) ⟨hh,hn244⟩ (δ [7,7,7,7,7,7,7] 7)))))))))
   skip
   obtain ⟨l257,⟨a258,c259⟩⟩:=g
   obtain ⟨hh,hn256⟩:=hg
   try dsimp only at hn256 ⊢
   dsimp only [C8_]at hh
   refine η (i:=2) z (fun _ hb273 _=> ?_)
   refine η (i:=4) z (fun _ hb274 _=> ?_)
   refine η (i:=5) z (fun _ hb275 _=> ?_)
   refine η (i:=6) z (fun _ hb276 _=> ?_)
   refine π (ω z (OpVal.succ z z z (by omega)) (θ z z (κ ?_)))
   obtain ⟨hh,hlt277⟩:=ey_ hR1 hh
   exact lf ((l257,(k249+1)),(a258,c259)) hlt277 ⟨hh,hn256⟩ (δ [6,6,6,6,6,6,6] 7)
  refine TC.exit (S.x (S.x ?_))
  replace hh:=el_ hR1 hh
  refine Δ (S.n (ξ (ω z (ak_ z jc_ hi_ z (i:=3) z z) (ψ 4 z z (TL.a3_ d1_ (fun τ280 hle279 hr278=> ?_))))))
  have hr278b:=hr278.rv.big
  refine ψ 4 z z (TL.a3_ d1_ (fun τ283 hle282 hr281=> ?_))
  replace hr278:=hr278.mono hle282
  have hr281b:=hr281.rv.big
  refine ψ 4 z z (TL.a3_ ee_ (fun τ286 hle285 hr284=> ?_))
  replace hr278:=hr278.mono hle285
  replace hr281:=hr281.mono hle285
  have hr284b:=hr284.rv.big
  obtain ⟨v145,u145,hh⟩:=eb_ hh
  refine ζ z (OpOk.call (Gz_ (x0:=(⟨(k145:Int),l166,l205,l246⟩:Fst)) hr278 hr281 hr284 u145) z z pf56 z z z z ?_)
  rintro _ τ287 _ hle287 ⟨a287_1,c287_1,a287_2,c287_2,a287_3,c287_3,rfl,hr287_0,hr287_1,hr287_2,rfl⟩
  have hr287_0b:=hr287_0.rv.big
  have hr287_1b:=hr287_1.rv.big
  have hr287_2b:=hr287_2.rv.big
  refine ω z (OpVal.extract z z z) (ω z (OpVal.extract z z z) (ζ z (storeAll z hi_ z z z z z z ?_)))
  refine θ z z (κ (TC.rt 1 ?_))
  obtain rfl:=so hh
  exact ro [] z (RVs.agg jc_ hi_ z (i:=0) z z (RVs.tmp z RVs.nil)) ⟨a287_1,c287_1,a287_2,c287_2,a287_3,c287_3,z,hr287_0,hr287_1,hr287_2,z⟩
 intro m_ c_ hh hc_
 exact jl_nil hc_
end Go.Proofs.YtchebnpdnfhenaaGreatDoor
end

noncomputable section
namespace Go.E
open Go
structure TLag where
  p:Int
  q:Int
  a:List UInt8
  b:List UInt8
  deriving DecidableEq
def TLag.zero:TLag:=⟨0,0,[],[]⟩
structure Walk where
  t:Fst
  arcs:List (List Arc)
  most:Int
end Go.E
end

noncomputable section
namespace Go.E
open Go Go.Sort Go.Proofs Go.Shelf
theorem OpVal.minI{P:Program}{n:Nat}{e:Env}{σ:d0_}{H:List Res}{o:Oper}{x y:Operand}{ts:Array TypeId}{k k':IntKind}{a b:Int}(ho:o.op= .call {callee:= .builtin .min,args:= #[x,y],argTypes:=ts})(hx:ev e x= .int k a)(hy:ev e y= .int k' b):OpVal P n o e σ H (.int k (min a b)):=fun w _=>by
  have h:(if b<a then b else a)=min a b:=by rw [Int.min_def];split<;>split<;>omega
  simp [execOp,ho,resolve,invoke,builtin,hx,hy,Builtin.min_,Builtin.min2,h]
end Go.E
end

noncomputable section
namespace Go.E
open Go
structure ReLeaf where
  kind:Int
  text:List UInt8
  set:BSet
  min:Int
  max:Int
  deriving DecidableEq
def ReLeaf.zero:ReLeaf:=⟨0,[],BSet.zero,0,0⟩
structure ReRoot where
  kind:Int
  text:List UInt8
  set:BSet
  parts:List ReLeaf
  min:Int
  max:Int
def ReRoot.zero:ReRoot:=⟨0,[],BSet.zero,[],0,0⟩
end Go.E
end

noncomputable section
namespace Go.Proofs.YtchebnpdnfhenaaGreatDoor
open Go Go.E Go.E.OpVal Go.E.OpOk Go.Proofs.Tryz
open List (replicate)
def Cr_(x0:T_1)(x1:T_1)(k103:Nat):Option ((Nat)⊕(Int)):=
 ec_ (decide ((k103:Int)<(min ((x0.length:Nat):Int) ((x1.length:Nat):Int)))) (grd (k103<x0.length) (grd (k103<x1.length) (ec_ (decide ((((nth x0 k103 0).toNat:Nat):Int)≠(((nth x1 k103 0).toNat:Nat):Int))) (fin (some (k103:Int))) (nxt (k103+1))))) (fin (some (min ((x0.length:Nat):Int) ((x1.length:Nat):Int))))
def E7_(x0:T_1)(x1:T_1):Option (Int):=
 grd (x0.length≤281474976710656) (grd (x1.length≤281474976710656) (eq_ (fun q:Nat=>Cr_ x0 x1 q) 0))
theorem Hs_{σ:d0_}{x0:T_1}{x1:T_1}{r:Int}(hh:E7_ x0 x1=some r):
  Con prog 155 #[.string (bs x0),.string (bs x1)] σ [] (fd_ (.int .i64 r) σ):=by
 dsimp only [E7_]at hh
 refine Con.mk (n:=26) Tryz.func155 z z z (fun w0=> ?_)
 have x0b:=n8_ hh
 replace hh:=or_ hh
 have x1b:=n8_ hh
 replace hh:=or_ hh
 refine ξ (θ z z (κ (ξ (ω z (ad_ (.inl z) z) (ω z (a5_ z u9_ z) (ω z (ad_ (.inl z) z) (ω z (a5_ z u9_ z) (ω z (minI z z z) (θ z z (κ (ν (ξ (θ z z (θ z z (κ ?_)))))))))))))))
 refine υ (TC.ao_ (α:=(Nat)×(Unit)) (rgs [(4,1),(6,1),(13,12)]) (fun g=>[(13,.int .i64 ((g.1:Nat):Int))]) (fun g=>[]) (fun g=>σ) (fun g=>eq_ (fun q:Nat=>Cr_ x0 x1 q) g.1=some r) (fun g=>eh_ (fun q:Nat=>Cr_ x0 x1 q) g.1) (0,()) (Sub.pre 0 z) z (by repeat (first|exact trivial|refine ⟨z,?_⟩)) hh (fun g1 j1 hg1=> ?_))
 obtain ⟨k103,_⟩:=g1
 have hh:=hg1;clear hg1
 try dsimp only
 obtain ⟨z1,hh,hR1⟩:=eo_ hh
 dsimp only [Cr_]at hh
 refine ξ (ω z (OpVal.lss z z z) (κ (ν (TC.cD z hh (fun h104 hh=> ?_) (fun h104 hh=> ?_)))))
 ·refine ι (S.n (ν (υ (ξ (θ z z (θ z z (κ (ν ?_))))))))
  obtain ⟨u15,hh⟩:=d6_ hh
  obtain ⟨u18,hh⟩:=d6_ hh
  refine TC.draw [] (by kernel_rfl) (Ψ 0 z (ad_ (.inl z) z) z (Ψ 1 z (ai_ (.inl z) z) z (Ψ 2 z (bx_ z u9_ z z (by omega)) z (Ψ 3 z (ad_ (.inl z) z) z (Ψ 4 z (ai_ (.inl z) z) z (Ψ 5 z (bx_ z u9_ z z (by omega)) z (Ψ 6 z (OpVal.neq z z z) z (TA.dn (S.n (TC.cD z hh (fun h105 hh=> ?_) (fun h105 hh=> ?_)))))))))))
  ·refine ξ (θ z z (θ z z (κ (TC.ret (B.r (S.r (S.r ?_)))))))
   replace hh:=el_ hR1 hh
   refine B.r (S.r ?_)
   obtain rfl:=so hh
   exact rq [4] ⟨z,z,z⟩
  refine ι (B.n (S.n (π (ω z (OpVal.succ z z z (by omega)) (θ z z (κ ?_))))))
  obtain ⟨hh,hlt106⟩:=ey_ hR1 hh
  exact lf ((k103+1),()) hlt106 hh (Sub.pre 0 z)
 refine TC.exit (S.x (S.x ?_))
 replace hh:=el_ hR1 hh
 refine Δ (S.n (ξ (θ z z (θ z z (κ (TC.ret ?_))))))
 obtain rfl:=so hh
 exact rq [4] ⟨z,z,z⟩
end Go.Proofs.YtchebnpdnfhenaaGreatDoor
end

noncomputable section
namespace Go.E
open Go
theorem OpVal.gtrBs{P:Program}{n:Nat}{e:Env}{σ:d0_}{H:List Res}{o:Oper}{x y:Operand}{l m:List UInt8}{T T':TypeId}(ho:o.op= .binOp .gtr T x y T')(hx:ev e x= .string (bs l))(hy:ev e y= .string (bs m)):OpVal P n o e σ H (.bool (!(decide (Lib.compareBytes l m<0) || l == m))):=fun w _=>by
  simp only [execOp,ho,hx,hy,Sem.run_bind,f8_,Result.andThen_ok,binOp,Op.stringOp,ByteArray.toList_eq,l7_,j3_,Sem.run_pure]
end Go.E
end

noncomputable section
namespace Go.Proofs.YtchebnpdnfhenaaGreatDoor
open Go Go.E Go.E.OpVal Go.E.OpOk Go.Proofs.Tryz
open List (replicate)
theorem pf154:plainF Tryz.prog 154=true:=by kernel_rfl
theorem pf186:plainF Tryz.prog 186=true:=by kernel_rfl
def sl_(x0:T_1):Option (Bool):=
 some (decide (x0≠x0))
theorem qk_{σ:d0_}{x0:T_1}{r:Bool}(hh:sl_ x0=some r):
  Con prog 186 #[.string (bs x0)] σ [] (fd_ (.bool r) σ):=by
 dsimp only [sl_]at hh
 refine Con.mk (n:=6) Tryz.func186 z z z (fun w0=> ?_)
 refine ξ (TL.j z z (κ (ξ (ω z (ad_ (.inl z) z) (ω z (ad_ (.inl z) z) (ω z (b3_ z z z) (TL.j z z (κ (TC.ret ?_)))))))))
 obtain rfl:=so hh
 exact rq [2] ⟨z,z,z⟩
def k6_(x0:T_1)(x1:T_1):Option (Int):=
 bnd (sl_ x0) (fun v3=>bnd (sl_ x1) (fun v6=>ec_ v3 (ec_ v6 (some 0) (some (-1))) (ec_ v6 (some 1) (ec_ (decide (Lib.compareBytes x0 x1<0)) (some (-1)) (ec_ (!(decide (Lib.compareBytes x0 x1<0) || x0 == x1)) (some 1) (some 0))))))
theorem sk_{σ:d0_}{x0:T_1}{x1:T_1}{r:Int}(hh:k6_ x0 x1=some r):
  Con prog 154 #[.string (bs x0),.string (bs x1)] σ [] (fd_ (.int .i64 r) σ):=by
 dsimp only [k6_]at hh
 refine Con.mk (n:=20) Tryz.func154 z z z (fun w0=> ?_)
 refine ξ (θ z z (κ (ξ (ω z (ad_ (.inl z) z) ?_))))
 obtain ⟨v3,u3,hh⟩:=eb_ hh
 refine ζ z (aw_ (qk_ u3) z z pf186 z z z ?_)
 refine TL.j z z (κ (ξ (ω z (ad_ (.inl z) z) ?_)))
 obtain ⟨v6,u6,hh⟩:=eb_ hh
 refine ζ z (aw_ (qk_ u6) z z pf186 z z z ?_)
 refine TL.j z z (κ (ν (ξ (TL.j z z (κ (TC.cB z hh (fun h101 hh=> ?_) (fun h101 hh=> ?_)))))))
 ·refine ν (ξ (TL.j z z (κ (TC.cB z hh (fun h102 hh=> ?_) (fun h102 hh=> ?_)))))
  ·refine ξ (θ z z (κ (TC.ret (S.r (S.r ?_)))))
   obtain rfl:=so hh
   exact rq [4] ⟨z,z,z⟩
  refine ι (S.n (ξ (θ z z (κ (TC.ret (S.r ?_))))))
  obtain rfl:=so hh
  exact rq [4] ⟨z,z,z⟩
 refine ι (S.n (ν (ξ (TL.j z z (κ (TC.cB z hh (fun h103 hh=> ?_) (fun h103 hh=> ?_)))))))
 ·refine ξ (θ z z (κ (TC.ret (S.r ?_))))
  obtain rfl:=so hh
  exact rq [4] ⟨z,z,z⟩
 refine ι (S.n (ν (ξ (ω z (ad_ (.inl z) z) (ω z (ad_ (.inl z) z) (ω z (lssBs z z z) (κ (TC.cD z hh (fun h104 hh=> ?_) (fun h104 hh=> ?_)))))))))
 ·refine ξ (θ z z (κ (TC.ret (S.r ?_))))
  obtain rfl:=so hh
  exact rq [4] ⟨z,z,z⟩
 refine ι (S.n (ν (ξ (ω z (ad_ (.inl z) z) (ω z (ad_ (.inl z) z) (ω z (gtrBs z z z) (κ (TC.cB z hh (fun h105 hh=> ?_) (fun h105 hh=> ?_)))))))))
 ·refine ξ (θ z z (κ (TC.ret (S.r ?_))))
  obtain rfl:=so hh
  exact rq [4] ⟨z,z,z⟩
 refine ι (S.n (ξ (θ z z (κ (TC.ret ?_)))))
 obtain rfl:=so hh
 exact rq [4] ⟨z,z,z⟩
def Fs_(x0:Tip)(x1:Tip):Option (Int):=
 bnd (Cc_ x0.state x1.state) (fun v8=>bnd (k6_ x0.out x1.out) (fun v13=>bnd (F9_ [v8,v13]) (fun v15=>some v15)))
theorem Hi_{σ:d0_}{x0:Tip}{x1:Tip}{r:Int}(hh:Fs_ x0 x1=some r):
  Con prog 125 #[.agg #[.int .i64 x0.state,.string (bs x0.out)],.agg #[.int .i64 x1.state,.string (bs x1.out)]] σ [] (fd_ (.int .i64 r) σ):=by
 dsimp only [Fs_]at hh
 refine Con.mk (n:=17) Tryz.func125 z z z (fun w0=> ?_)
 refine ξ (ζ z (boxA z z z z (fun b101=> ?_)))
 refine ζ z (boxA z z z z (fun b103=> ?_))
 refine θ z z (κ (ν ?_))
 obtain ⟨v8,u8,hh⟩:=eb_ hh
 obtain ⟨v13,u13,hh⟩:=eb_ hh
 obtain ⟨v15,u15,hh⟩:=eb_ hh
 refine TC.draw [] (by kernel_rfl) (Ψ 0 z (aa_ z gj_ z) z (TA.b 1 z (ab_ z ag3 z (i:=1) z z) z (Ψ 2 z (aa_ z gj_ z) z (TA.b 3 z (ab_ z ag3 z (i:=0) z z) z (Ψ 5 z (aa_ z fh_ z) z (TA.b 6 z (ab_ z ag9 z (i:=1) z z) z (Ψ 7 z (aa_ z fh_ z) z (TA.b 8 z (ab_ z ag9 z (i:=0) z z) z (TA.ac 4 z (aw_ (Df_ u8) z z wh_ z z z (k0 ?_)))))))))))
 refine TA.ac 9 z (aw_ (sk_ u13) z z pf154 z z z (k0 ?_))
 refine TA.ac 10 z (OpOk.lit (enc:=eI_) [v8,v13] z e2_ sz3 ze3 z z z ep_ (by decide) (by decide) (0:Int) z (by decide) z (by decide) i2_ (fun a110 c111=>(k1 ?_)))
 refine TA.ac 11 z (b2_ (Con.lend ep_ (fun _ hle114 hr113=>Go_ hr113 u15)) z z pf134 z z z z (k1 ?_))
 refine Ψ 12 z (ai_ (.inr z) z) z (TA.dn (S.n (TC.rt 0 ?_)))
 obtain rfl:=so hh
 exact rq [4] ⟨z,z,z⟩
end Go.Proofs.YtchebnpdnfhenaaGreatDoor
end

noncomputable section
namespace Go.Proofs.YtchebnpdnfhenaaGreatDoor
open Go Go.Shelf
def t4_:Go.Shelf.Ren:=⟨fun|171=>150|243=>177|246=>203|283=>211|284=>212|285=>213|286=>214|129=>168|317=>217|318=>218|319=>219|320=>220|337=>221|338=>201|n=>n,fun|3=>3|9=>9|2=>2|4=>4|171=>267|0=>0|53=>62|37=>60|5=>5|173=>269|212=>274|51=>222|20=>20|213=>275|46=>170|232=>276|233=>266|n=>n,fun|17=>2|18=>3|19=>1|n=>n⟩
theorem layItoa:Go.Proofs.LaysM.n171 Tryz.prog t4_:={
  mixed:=by kernel_rfl,
  f129:=Tryz.func168.trans (congrArg some (by kernel_rfl)),
  f171:=Tryz.func150.trans (congrArg some (by kernel_rfl)),
  f243:=Tryz.func177.trans (congrArg some (by kernel_rfl)),
  f246:=Tryz.func203.trans (congrArg some (by kernel_rfl)),
  f283:=Tryz.func211.trans (congrArg some (by kernel_rfl)),
  f284:=Tryz.func212.trans (congrArg some (by kernel_rfl)),
  f285:=Tryz.func213.trans (congrArg some (by kernel_rfl)),
  f286:=Tryz.func214.trans (congrArg some (by kernel_rfl)),
  f317:=Tryz.func217.trans (congrArg some (by kernel_rfl)),
  f318:=Tryz.func218.trans (congrArg some (by kernel_rfl)),
  f319:=Tryz.func219.trans (congrArg some (by kernel_rfl)),
  f320:=Tryz.func220.trans (congrArg some (by kernel_rfl)),
  f337:=Tryz.func221.trans (congrArg some (by kernel_rfl)),
  f338:=Tryz.func201.trans (congrArg some (by kernel_rfl)),
  t0:=Tryz.underlying0,
  a0:=Tryz.isAgg0,
  z0:=Tryz.sizeOf0,
  v0:=Tryz.zeroValue0,
  t2:=Tryz.underlying2,
  a2:=Tryz.isAgg2,
  z2:=Tryz.sizeOf2,
  v2:=Tryz.zeroValue2,
  t3:=Tryz.underlying3,
  a3:=Tryz.isAgg3,
  z3:=Tryz.sizeOf3,
  v3:=Tryz.zeroValue3,
  t4:=Tryz.underlying4,
  a4:=Tryz.isAgg4,
  z4:=Tryz.sizeOf4,
  v4:=Tryz.zeroValue4,
  t5:=Tryz.underlying5,
  a5:=Tryz.isAgg5,
  z5:=Tryz.sizeOf5,
  v5:=Tryz.zeroValue5,
  t9:=Tryz.underlying9,
  a9:=Tryz.isAgg9,
  z9:=Tryz.sizeOf9,
  v9:=Tryz.zeroValue9,
  t20:=Tryz.underlying20,
  a20:=Tryz.isAgg20,
  z20:=Tryz.sizeOf20,
  v20:=Tryz.zeroValue20,
  t37:=Tryz.underlying60,
  a37:=Tryz.isAgg60,
  z37:=Tryz.sizeOf60,
  v37:=Tryz.zeroValue60,
  t46:=Tryz.underlying170,
  a46:=Tryz.isAgg170,
  z46:=Tryz.sizeOf170,
  v46:=Tryz.zeroValue170,
  t51:=Tryz.underlying222,
  a51:=Tryz.isAgg222,
  z51:=Tryz.sizeOf222,
  v51:=Tryz.zeroValue222,
  t53:=Tryz.underlying62,
  a53:=Tryz.isAgg62,
  z53:=Tryz.sizeOf62,
  v53:=Tryz.zeroValue62,
  t171:=Tryz.underlying267,
  a171:=Tryz.isAgg267,
  z171:=Tryz.sizeOf267,
  v171:=Tryz.zeroValue267,
  t173:=Tryz.underlying269,
  a173:=Tryz.isAgg269,
  z173:=Tryz.sizeOf269,
  v173:=Tryz.zeroValue269,
  t212:=Tryz.underlying274,
  a212:=Tryz.isAgg274,
  z212:=Tryz.sizeOf274,
  v212:=Tryz.zeroValue274,
  t213:=Tryz.underlying275,
  a213:=Tryz.isAgg275,
  z213:=Tryz.sizeOf275,
  t232:=Tryz.underlying276,
  a232:=Tryz.isAgg276,
  z232:=Tryz.sizeOf276,
  v232:=Tryz.zeroValue276,
  t233:=Tryz.underlying266,
  a233:=Tryz.isAgg266,
  z233:=Tryz.sizeOf266,
  v233:=Tryz.zeroValue266,
  g17:=by kernel_rfl,
  g18:=by kernel_rfl,
  g19:=by kernel_rfl,
  i0:=by kernel_rfl,
  i2:=by kernel_rfl,
  i3:=by kernel_rfl,
  i4:=by kernel_rfl,
  i5:=by kernel_rfl,
  i9:=by kernel_rfl,
  i20:=by kernel_rfl,
  i37:=by kernel_rfl,
  i46:=by kernel_rfl,
  i51:=by kernel_rfl,
  i53:=by kernel_rfl,
  i171:=by kernel_rfl,
  i173:=by kernel_rfl,
  i212:=by kernel_rfl,
  i232:=by kernel_rfl,
  i233:=by kernel_rfl,
  m17:=by kernel_rfl,
  m18:=by kernel_rfl,
  m19:=by kernel_rfl}
end Go.Proofs.YtchebnpdnfhenaaGreatDoor
end

noncomputable section
namespace Go.E
open Go Go.Sort Go.Proofs Go.Shelf
def p10:List Nat:=[1,10,100,1000,10000,100000,1000000,10000000,100000000,1000000000,10000000000,100000000000,1000000000000,10000000000000,100000000000000,1000000000000000,10000000000000000,100000000000000000,1000000000000000000,10000000000000000000]
theorem Reach.laterI{w:World}{σ:d0_}(h:Reach w [] σ σ w [])(k:Nat)(os:Array Obj):Reach w [] σ σ (grow (w.drewN k) os) []:=by
  have hh: ∀i,i<w.heap.size→(grow (w.drewN k) os).heap[i]? =w.heap[i]? :=fun i hi=>by
    show (w.heap++os)[i]? =_
    rw [Array.getElem?_append_left hi]
  refine ⟨rfl,rfl,rfl,?_,fun i hi _=>hh i hi,d0_.le.refl _,fun b o hb=> ?_,fun b o hb=> .inl hb,by simp,by simp,by simp [fq_],by simp,?_⟩
  · show w.heap.size≤(w.heap++os).size
    simp
  · have h1:=h.fit b o hb
    have hlt:=(Array.getElem?_eq_some_iff.1 h1).1
    rw [hh b hlt];exact h1
  show w.drawn≤w.drawn+k
  omega
theorem itoa_of{P : Program}{ρ : Ren}{f g : Nat}(L : LaysM.n171 P ρ)(hf : ρ.f 171 = f)(hg : P.globalNamed "internal/strconv.uint64pow10" = some g){n : Int}{σ : d0_}(hn : -9223372036854775808 ≤ n ∧ n ≤ 9223372036854775807)(h : GT σ g encW p10) :
    Con P f #[.int .i64 n] σ [] (fd_ (.string (bs (Lib.itoa n))) σ):=by
  subst hf
  intro w hw
  obtain ⟨E,hE⟩:=h
  have htab : Lib.TabIs P w "internal/strconv.uint64pow10" .u64 Lib.pow10Tab := by
    unfold Lib.TabIs World.var?
    rw [hg]
    have h1:=hw.fit _ _ hE
    simp only [Option.bind_some,h1]
    rfl
  refine (Any.strconv_Itoa L n hn.1 hn.2 w htab).mono ?_
  rintro e w' ⟨rfl,k,os,rfl⟩
  exact ⟨_,σ,[],rfl,⟨rfl,rfl,rfl⟩,hw.laterI k os⟩
structure GT2 (σ:d0_) (g1 g2:Nat):Prop where
  b:GT σ g1 e5_ deB
  p:GT σ g2 encW p10
theorem GT2.mono{σ τ:d0_}{g1 g2:Nat}(h:GT2 σ g1 g2)(hle:σ.le τ):GT2 τ g1 g2:=⟨h.b.mono hle,h.p.mono hle⟩
end Go.E
end

noncomputable section
namespace Go.Proofs.YtchebnpdnfhenaaGreatDoor
open Go Go.E
theorem td_ : ∀ x y : T_1, (ec_ (decide (Lib.compareBytes x y < 0)) (some (-1 : Int)) (ec_ (!(decide (Lib.compareBytes x y < 0) || x == y)) (some 1) (some 0))) = some (Lib.compareBytes x y)
  |[],[]=>rfl
  |[],_::_=>rfl
  |_::_,[]=>rfl
  | a :: x, b :: y => by
    have ih:=td_ x y
    unfold Lib.compareBytes
    by_cases h:a<b
    · rw [if_pos h];rfl
    rw [if_neg h]
    by_cases h2:b<a
    · rw [if_pos h2]
      have:(a::x == b::y)=false:=by
        rw [beq_eq_false_iff_ne]
        intro e;cases e;exact h h2
      rw [this];rfl
    rw [if_neg h2]
    have e:a=b:=UInt8.le_antisymm (UInt8.not_lt.1 h2) (UInt8.not_lt.1 h)
    subst e
    have:(a::x == a::y)=(x == y):=by simp
    rw [this];exact ih
theorem uk_(x y:T_1):k6_ x y=some (Lib.compareBytes x y):=by
  unfold k6_ sl_
  rw [←td_ x y]
  simp [bnd,ec_]
theorem Hv_(x y:Tip):Fs_ x y=some (e0_ x y):=by
  unfold Fs_
  rw [eu_ (Dn_ _ _),eu_ (uk_ _ _),eu_ (G5_ _)];rfl
theorem Iq_{σ:d0_}{a:Option Addr}{c:Nat}{l:List Tip}:Con Tryz.prog 124 #[.slice a l.length c,.func (.func 125) #[] #[]] σ [ε 76 2 d2_ (.slice a l.length c) l] (xj_ 76 2 d2_ a c l (g3_ e0_ l) σ):=
  Con.sortK (k:=2) layT0 rfl Tryz.isAgg76 Tryz.sizeOf76 d1_ fc_ fg_.total (fun args w=>ft_ (by kernel_rfl) args w) (fun x y τ=>Hi_ (Hv_ x y))
theorem no_{σ:d0_}{n:Int}(hgl:GT2 σ 1 2)(hn: -9223372036854775808≤n∧n≤9223372036854775807):Con Tryz.prog 150 #[.int .i64 n] σ [] (fd_ (.string (bs (Lib.itoa n))) σ):=
  itoa_of layItoa rfl (by kernel_rfl) hn hgl.p
end Go.Proofs.YtchebnpdnfhenaaGreatDoor
end

noncomputable section
namespace Go.E
open Go
def TB(X:Ctx)(R:Exit→Act→World→Prop)(c:Code)(e:Env)(σ:d0_)(H:List Res):Prop:=
  ∀w a,RM X a σ w H→St X.n e a→c.wpIn (fence X.rnd) 0 X.P R a w
def TLB(X:Ctx)(ops:Array Oper)(R:Exit→Act→World→Prop)(l:List Oper)(e:Env)(σ:d0_)(H:List Res):Prop:=
  ∀w a,RM X a σ w H→St X.n e a→wpListIn (fence X.rnd) 0 X.P ops R l a w
def endE(w0:World)(C:List Nat)(σ0:d0_)(Post:Value→d0_→List Res→Prop):Ending→World→Prop:=
  fun e w'=> ∃r σ' H',e= .returned r∧Post r σ' H'∧Reach w0 C σ0 σ' w' H'
def endR(P:Program)(fn:Func)(w0:World)(C:List Nat)(σ0:d0_)(Post:Value→d0_→List Res→Prop):Exit→Act→World→Prop:=
  bodyPostM (fence none) 0 P fn (endE w0 C σ0 Post)
theorem rz_{args:List Value}{n:Nat}{fn:Func}(hn:fn.ntmps=n)(ha:Nat.ble args.length n=true):St n (kk_ args) {tmps:=args.toArray++Array.replicate (fn.ntmps - args.toArray.size) undef,defers:=[]}:=by
  have:=Nat.le_of_ble_eq_true ha
  refine ⟨?_,fun t=> ?_⟩
  · simp [hn];omega
  simp only [Array.getD_eq_getD_getElem?,Array.getElem?_append,kk_,List.getElem?_toArray,List.size_toArray,Array.getElem?_replicate]
  split
  · rfl
  rename_i hlt
  rw [List.getElem?_eq_none (by omega)]
  split<;>rfl
theorem MarksOk.start{w0:World}{σ:d0_}{H:List Res}{w:World}:MarksOk w0 none (some []) [] σ H w:=⟨(fun h=>by cases h),(fun _ h=>by cases h;rfl),fun _ h=>by cases h⟩
theorem Con.mkD{P:Program}{f:FuncId}{fn:Func}{c:Code}{args:List Value}{n:Nat}{σ:d0_}{H:List Res}{Post:Value→d0_→List Res→Prop}
    (hf:P.funcs[f]? =some fn) (hb:fn.body=some c) (hn:fn.ntmps=n) (ha:Nat.ble args.length n=true)
    (h: ∀w0,TB ⟨P,w0,fq_ H,σ,n,none,some []⟩ (endR P fn w0 (fq_ H) σ Post) c (kk_ args) σ H):Con P f args.toArray σ H Post:=by
  intro w hw
  exact ht_.1 (callsIn_of_wp_marks (F:=fence none) (n:=0) hf hb trivial (h w w _ ⟨hw,MarksOk.start⟩ (rz_ hn ha)))
def w5_(P:Program)(f:FuncId)(args:Array Value)(σ:d0_)(H:List Res)(Post:Value→d0_→List Res→Prop):Prop:=
  ∀w,Reach w (fq_ H) σ σ w H→CallsDIn (fence none) 0 P f args .returning w fun e u w'=>u= .returning∧ ∃r σ' H',e= .returned r∧Post r σ' H'∧Reach w (fq_ H) σ σ' w' H'
theorem w5_.mono{P:Program}{f:FuncId}{args:Array Value}{σ:d0_}{H:List Res}{Post Post':Value→d0_→List Res→Prop}
    (h:w5_ P f args σ H Post) (hp: ∀r σ' H',σ.le σ'→Post r σ' H'→Post' r σ' H'):w5_ P f args σ H Post':=fun w hw=>
  (h w hw).mono fun _ _ _ ⟨h0,r,σ',H',h1,h2,h3⟩=>⟨h0,r,σ',H',h1,hp _ _ _ h3.le h2,h3⟩
theorem w5_.mk{P:Program}{f:FuncId}{fn:Func}{c:Code}{args:List Value}{n:Nat}{σ:d0_}{H:List Res}{Post:Value→d0_→List Res→Prop}
    (hf:P.funcs[f]? =some fn) (hb:fn.body=some c) (hn:fn.ntmps=n) (ha:Nat.ble args.length n=true)
    (h: ∀w0,TC ⟨P,w0,fq_ H,σ,n,none,some []⟩ (retQ P fn n Post) c (kk_ args) σ H):w5_ P f args.toArray σ H Post:=by
  intro w hw
  refine callsDIn_of_wp hf hb trivial (Go.wpIn_mono (h w w _ ⟨hw,MarksOk.start⟩ (rz_ hn ha)) ?_)
  rintro ex a w' ⟨e',σ',H',h1,h2,⟨hex,r,H'',h3,h4,h5⟩⟩
  have hd:a.defers=[]:=h2.marks.is _ rfl
  have hfin:a.defers=[]∧ ∃v,(results fn a.tmps).run P w'= .ok v w'∧(∃r σ' H',Ending.returned v= .returned r∧Post r σ' H'∧Reach w (fq_ H) σ σ' w' H'):=
    ⟨hd,r,h3 w' a h1 h2.holds,r,σ',H'',rfl,h5,h2.toReach.sub h4⟩
  rcases hex with rfl|rfl
  · exact hfin
  exact hfin
section rules
variable {X:Ctx} {ops:Array Oper} {R:Exit→Act→World→Prop} {Q:QP} {e:Env} {σ:d0_} {H F:List Res} {o:Oper} {rest:List Oper} {c c1 c2:Code} {fn:Func} {Post:Value→d0_→List Res→Prop}
theorem lp_{P:Program}{w0:World}{C:List Nat}{σ0:d0_}{n:Nat}: ∀ex a w,low ⟨P,w0,C,σ0,n,none,some []⟩ (retQ P fn n Post) ex a w→endR P fn w0 C σ0 Post ex a w:=by
  rintro ex a w ⟨e,σ,H,h1,h2,⟨hex,r,H',h3,h4,h5⟩⟩
  have hd:a.defers=[]:=h2.marks.is _ rfl
  have hfin:LeavesInM (fence none) 0 P fn a.tmps (endE w0 C σ0 Post) a.defers .returning w:=by
    rw [hd];exact ⟨r,h3 w a h1 h2.holds,r,σ,H',rfl,h5,h2.toReach.sub h4⟩
  rcases hex with rfl|rfl
  · exact hfin
  exact hfin
def dfrQ(P:Program)(fn:Func)(n:Nat)(Post:Value→d0_→List Res→Prop)(f:FuncId)(args:List Value):QP:=fun ex e σ H=>
  (ex= .ret∨ex= .normal)∧ ∃F,Sub F H∧w5_ P f args.toArray σ F fun _ σ' H'=>RetOk P fn n Post .ret e σ' H'
theorem us_{P:Program}{w0:World}{C:List Nat}{σ0:d0_}{n:Nat}{f:FuncId}{cap dargs:List Value}(hp:plainF P f=true):
    ∀ex a w,low ⟨P,w0,C,σ0,n,none,some [⟨.fn (.func f) cap.toArray,dargs.toArray⟩]⟩ (dfrQ P fn n Post f (dargs++cap)) ex a w→endR P fn w0 C σ0 Post ex a w:=by
  rintro ex a w ⟨e,σ,H,h1,h2,hex,F,hs,hcon⟩
  have hd:a.defers=[⟨.fn (.func f) cap.toArray,dargs.toArray⟩]:=h2.marks.is _ rfl
  have h3:Reach w0 C σ0 σ w F:=h2.toReach.ax_ hs
  have hfin:LeavesInM (fence none) 0 P fn a.tmps (endE w0 C σ0 Post) a.defers .returning w:=by
    rw [hd]
    refine ⟨by simp,.inr ⟨(fun h=>by cases h),.func f,cap.toArray,f,(dargs++cap).toArray,rfl,?_,(fun _ _=>trivial),(hcon w h3.self).mono ?_⟩⟩
    · simp [invoke,ft_ hp]
    rintro _ _ w' ⟨rfl,r,σ',H',rfl,⟨-,v,H'',h4,h5,h6⟩,h7⟩
    have h8:Reach w0 C σ0 σ' w' H':=by
      have:=(show Reach w0 C σ0 σ w (F++[]) by rwa [List.append_nil]).call h7
      rwa [List.append_nil]at this
    exact ⟨v,h4 w' a h1 h8.holds,v,σ',H'',rfl,h6,h8.sub h5⟩
  rcases hex with rfl|rfl
  · exact hfin
  exact hfin
theorem TB.seq(hR: ∀ex a w,low X Q ex a w→R ex a w)(h:TC X (seqQ (TB X R c2) Q) c1 e σ H):TB X R (.seq c1 c2) e σ H:=fun w a hw ha=>
  Go.wpIn_seq (Go.wpIn_mono (h w a hw ha) fun ex a' w' ⟨e',σ',H',h1,h2,h3⟩=>by
    cases ex
    case normal=>exact h3 w' a' h2 h1
    all_goals exact hR _ _ _ ⟨e',σ',H',h1,h2,h3⟩)
theorem TB.fin(hR: ∀ex a w,low X Q ex a w→R ex a w)(h:TC X Q c e σ H):TB X R c e σ H:=fun w a hw ha=>Go.wpIn_mono (h w a hw ha) (hR)
theorem TLB.v{v:Value}{d:Nat}(hg:o.guard=none)(h:OpVal X.P X.n o e σ H v)(hd:o.dst=some d)(hn:Nat.blt d X.n=true)(k:TLB X ops R rest (upd e d v) σ H):TLB X ops R (o::rest) e σ H:=fun w a hw ha=>
  wpListIn_plain hg fun K hK=>(OpVal.ok h hd hn (K:=fun e' σ' H'=>TLB X ops R rest e' σ' H') k).at hw ha fun e' σ' H' a' w' hk hw' ha'=>hK a' w' (hk w' a' hw' ha')
theorem TLB.front(i:Nat){r:Res}{l:List Oper}(hi:H[i]? =some r)(hF:H.eraseIdx i=F)(h:TLB X ops R l e σ (r::F)):TLB X ops R l e σ H:=fun w a hw ha=>h w a (hw.perm (f3_ hi hF)) ha
theorem TLB.dfr{P:Program}{w0:World}{C:List Nat}{σ0:d0_}{n:Nat}{f:FuncId}{cap first:Array Value}{x:Operand}{opds:Array Operand}{ts:Array TypeId}{dargs:List Value}
    (hg:o.guard=none) (hop:o.op= .defer {callee:= .value x,args:=opds,argTypes:=ts}) (hx:ev e x= .func (.func f) first cap) (hd:o.dst=none) (ha:first.toList++opds.toList.map (ev e)=dargs)
    (hK: ∀a w,RM ⟨P,w0,C,σ0,n,none,some [⟨.fn (.func f) cap,dargs.toArray⟩]⟩ a σ w H→St n e a→R .normal a w):
    TLB ⟨P,w0,C,σ0,n,none,some []⟩ ops R [o] e σ H:=fun w a hw hst=>by
  have ha':first++opds.map (ev e)=dargs.toArray:=by apply Array.ext';rw [←ha];simp
  refine wpListIn_plain hg fun K hK'=>⟨(fun _ _=>trivial),?_⟩
  have hs:(o.semAt (fence none).round a.eval).run P w= .ok (.defer ⟨.fn (.func f) cap,dargs.toArray⟩) w:=by
    rw [hst.eval',←ha']
    simp [Oper.semAt,execOp,hop,resolve,hx,Deferred.ofValue]
  show Oper.uponIn _ _ _ _ _ _ _ ((o.semAt (fence none).round a.eval).run P w)
  rw [hs,Oper.uponIn_defer,hd]
  have h0:a.defers=[]:=hw.marks.is _ rfl
  refine hK' _ _ (hK _ _ ⟨?_,⟨(fun h=>by cases h),(fun l h=> ?_),fun _ h=>by cases h⟩⟩ ⟨hst.size,hst.get⟩)
  · exact hw.toReach
  cases h;show _::a.defers=_;rw [h0]
theorem TB.seqD{id:Nat}{l:List Oper}(h:TLB X l.toArray (fun ex a w=>match ex with| .normal=>c2.wpIn (fence X.rnd) 0 X.P R a w|ex=>R ex a w) l e σ H):TB X R (.seq (.region id l.toArray false) c2) e σ H:=fun w a hw ha=>
  Go.wpIn_seq (Go.wpIn_mono (wpIn_region_lit (h w a hw ha)) fun ex a' w' hq=>by cases ex<;>exact hq)
end rules
def fltV(T:TypeId)(k:Int):Value:= .iface T (.agg #[.int .i64 k])
def ConF(P:Program)(f:FuncId)(args:Array Value)(σ:d0_)(H:List Res)(v:Value):Prop:=
  ∀w,Reach w (fq_ H) σ σ w H→Calls P f args w fun e w'=>e= .panicked [{v:=v,recovered:=false}]∧ ∃σ',Reach w (fq_ H) σ σ' w' []
def mk_(P:Program)(f:FuncId)(args:Array Value)(σ:d0_)(H:List Res){α:Type}(T:TypeId)(Post:α→Value→d0_→List Res→Prop):Int⊕α→Prop
  | .inr x=>Con P f args σ H (Post x)
  | .inl k=>ConF P f args σ H (fltV T k)
theorem mk_.l{P:Program}{f:FuncId}{args:Array Value}{σ:d0_}{H:List Res}{α:Type}{T:TypeId}{Post:α→Value→d0_→List Res→Prop}{k:Int}(h:mk_ P f args σ H T Post (.inl k)):ConF P f args σ H (fltV T k):=h
theorem mk_.r{P:Program}{f:FuncId}{args:Array Value}{σ:d0_}{H:List Res}{α:Type}{T:TypeId}{Post:α→Value→d0_→List Res→Prop}{x:α}(h:mk_ P f args σ H T Post (.inr x)):Con P f args σ H (Post x):=h
@[reducible]def RetX{α:Type}(P:Program)(fn:Func)(n:Nat)(T:TypeId)(Post:α→Value→d0_→List Res→Prop):Int⊕α→QP
  | .inr x=>RetOk P fn n (Post x)
  | .inl k=>fun ex _ _ _=>ex= .panic [{v:=fltV T k,recovered:=false}]
theorem mk_.mk{α:Type}{P:Program}{f:FuncId}{fn:Func}{c:Code}{args:List Value}{n:Nat}{σ:d0_}{H:List Res}{T:TypeId}{Post:α→Value→d0_→List Res→Prop}{r:Int⊕α}
    (hf:P.funcs[f]? =some fn) (hb:fn.body=some c) (hn:fn.ntmps=n) (ha:Nat.ble args.length n=true)
    (h: ∀w0,TC ⟨P,w0,fq_ H,σ,n,none,some []⟩ (RetX P fn n T Post r) c (kk_ args) σ H):mk_ P f args.toArray σ H T Post r:=by
  cases r with
  |inr x=>exact Con.mkD hf hb hn ha fun w0=>TB.fin lp_ (h w0)
  |inl k=>
    intro w hw
    refine ht_.1 (callsIn_of_wp_marks (F:=fence none) (n:=0) hf hb trivial (Go.wpIn_mono (h w w _ ⟨hw,MarksOk.start⟩ (rz_ hn ha)) ?_))
    rintro ex a w' ⟨e',σ',H',h1,h2,h3⟩
    have h3:ex= .panic [{v:=fltV T k,recovered:=false}]:=h3
    subst h3
    have hd:a.defers=[]:=h2.marks.is _ rfl
    show LeavesInM (fence none) 0 P fn a.tmps _ a.defers _ w'
    rw [hd]
    exact ⟨rfl,σ',h2.toReach.sub (List.nil_sublist _)⟩
def ky_{α β γ:Type}(x:α⊕β)(f:α→γ)(g:β→γ):γ:=match x with| .inl a=>f a| .inr b=>g b
section rules
variable {X:Ctx} {ops:Array Oper} {Q:QP} {e:Env} {σ:d0_} {H F:List Res} {o:Oper} {rest:List Oper} {x:Operand} {K:Env→d0_→List Res→Prop}
theorem OpOk.b6_{α:Type}{y:α}{T:TypeId}{f d:Nat}{opds:Array Operand}{ts:Array TypeId}{first cap:Array Value}{args:List Value}{Post:α→Value→d0_→List Res→Prop}{H1:List Res}(hc:mk_ X.P f args.toArray σ H1 T Post (.inr y))(ho:o.op= .call {callee:= .value x,args:=opds,argTypes:=ts})
    (hx:ev e x= .func (.func f) first cap) (hp:plainF X.P f=true) (hargs:first.toList++(opds.toList.map (ev e)++cap.toList)=args) (hd:o.dst=some d) (hn:Nat.blt d X.n=true) (hH:H1++F=H)
    (k: ∀r σ' H1',σ.le σ'→Post y r σ' H1'→K (upd e d r) σ' (H1'++F)):OpOk X o e σ H K:=OpOk.call hc ho hx hp hargs hd hn hH k
theorem OpOk.cn_{α:Type}{y:α}{T:TypeId}{f d:Nat}{opds:Array Operand}{ts:Array TypeId}{first cap:Array Value}{args:List Value}{v:Value}{Post:α→Value→d0_→List Res→Prop}(hc:mk_ X.P f args.toArray σ [] T Post (.inr y))(hq:Post y=fd_ v σ)(ho:o.op= .call {callee:= .value x,args:=opds,argTypes:=ts})
    (hx:ev e x= .func (.func f) first cap) (hp:plainF X.P f=true) (hargs:first.toList++(opds.toList.map (ev e)++cap.toList)=args) (hd:o.dst=some d) (hn:Nat.blt d X.n=true) (k:K (upd e d v) σ H):OpOk X o e σ H K:=
  OpOk.b6_ hc ho hx hp hargs hd hn rfl (fun r σ' H1' _ h=>by
    rw [hq]at h
    obtain ⟨h1,h2,h3⟩:=h
    subst h1 h3
    rw [h2]
    exact k)
theorem TL.bt_{f:Nat}{opds:Array Operand}{ts:Array TypeId}{first cap:Array Value}{args:List Value}{v:Value}{H1:List Res}(hg:o.guard=none)(hc:ConF X.P f args.toArray σ H1 v)(ho:o.op= .call {callee:= .value x,args:=opds,argTypes:=ts})
    (hx:ev e x= .func (.func f) first cap) (hp:plainF X.P f=true) (hargs:first.toList++(opds.toList.map (ev e)++cap.toList)=args) (hH:H1++F=H)
    (k: ∀σ',σ.le σ'→Q (.panic [{v:=v,recovered:=false}]) e σ' F):TL X ops Q (o::rest) e σ H:=by
  subst hargs hH
  intro w a hw ha
  refine wpListIn_plain hg fun K hK=> ?_
  have hr:(execOp a.eval o).run X.P w= .ok (.enter f (first.toList++(opds.toList.map (ev e)++cap.toList)).toArray) w:=by
    rw [ha.eval']
    have hl:(first.toList++(opds.toList.map (ev e)++cap.toList)).toArray=first++(opds.map (ev e)++cap):=by
      apply Array.ext';simp
    rw [hl]
    simp [execOp,ho,resolve,hx,Deferred.ofValue,invoke,ft_ hp,Array.append_assoc]
  refine Oper.b1_ hr (fun _=>by simp) ⟨fun h=>(by cases h),ht_.2 ((hc w (hw.toReach.sub (List.sublist_append_left H1 F)).self).mono ?_)⟩
  rintro e' w' ⟨rfl,σ',h3⟩
  exact ⟨e,σ',F,ha,hw.step (hw.toReach.self.call h3) rfl,k σ' h3.le⟩
theorem TL.panic{T:TypeId}{v:Value}(hg:o.guard=none)(ho:o.op= .panic x)(hx:ev e x= .iface T v)
    (k:Q (.panic [{v:= .iface T v,recovered:=false}]) e σ H):TL X ops Q (o::rest) e σ H:=by
  intro w a hw ha
  refine wpListIn_plain hg fun K hK=> ?_
  have hr:(execOp a.eval o).run X.P w= .halt (.panic (.iface T v)) w:=by
    rw [ha.eval']
    have hp:Sem.run X.P (Instr.panic (.iface T v)) w= .halt (.panic (.iface T v)) w:=rfl
    simp only [execOp,ho,hx,Sem.run_bind,hp,Result.andThen]
  refine ⟨fun _ _=>trivial,?_⟩
  rw [Oper.semAt_eq _ _ _ (fun c hc=>by rw [ho]at hc;cases hc),hr]
  exact ⟨e,σ,H,ha,hw,k⟩
theorem OpVal.br_{P:Program}{n T:Nat}{v:Value}{fs:Array Field}(ho:o.op= .makeInterface T x)(hu:P.underlying T=some (.struct fs))(hx:ev e x=v):OpVal P n o e σ H (.iface T v):=fun w _=>by
  simp [execOp,ho,hx,Instr.makeInterface,run_underlying hu]
theorem OpVal.di_{P:Program}{n T:Nat}{S:TypeId}{v:Value}{fs:Array Field}(ho:o.op= .typeAssert x S T true)(hu:P.underlying T=some (.struct fs))(hx:ev e x= .iface T v):OpVal P n o e σ H (.tuple #[v,.bool true]):=fun w _=>by
  simp [execOp,ho,hx,Instr.typeAssert,run_underlying hu]
theorem OpVal.dn_{P:Program}{n T:Nat}{S:TypeId}{z:Value}{fs:Array Field}(ho:o.op= .typeAssert x S T true)(hu:P.underlying T=some (.struct fs))(hz: ∀w,(zeroValue T).run P w= .ok z w)(hx:ev e x= .nilIface):OpVal P n o e σ H (.tuple #[z,.bool false]):=fun w _=>by
  simp [execOp,ho,hx,Instr.typeAssert,run_underlying hu,hz]
end rules
def ConR(P:Program)(f:FuncId)(args:Array Value)(v:Value)(σ:d0_)(H:List Res)(Post:Value→d0_→List Res→Prop):Prop:=
  ∀w,Reach w (fq_ H) σ σ w H→CallsDIn (fence none) 0 P f args (.panicking [{v:=v,recovered:=false}]) w fun e u w'=>u= .panicking [{v:=v,recovered:=true}]∧ ∃r σ' H',e= .returned r∧Post r σ' H'∧Reach w (fq_ H) σ σ' w' H'
@[reducible]def weakQ(Q:QP):QP:=fun ex e σ H=> ∃F,Sub F H∧Q ex e σ F
theorem ru_{P:Program}{Q:Exit→Act→List Frame→World→Prop}{Q0:Exit→Act→World→Prop}{a:Act}{cs cs':List Frame}{w:World}{id d:Nat}{o0:Oper}{l:List Oper}{rv:Value}
    (hop:o0.op= .call {callee:= .builtin .recover,args:= #[],argTypes:= #[]}) (hg:o0.guard=none) (hd:o0.dst=some d)
    (hrec:(recoverD cs=some (rv,cs')∨(recoverD cs=none∧rv= .nilIface∧cs'=cs)))
    (h:wpListIn (fence none) 0 P (o0::l).toArray Q0 l (a.put (some d) rv) w) (hQ: ∀e a' w',Q0 e a' w'→Q e a' cs' w'):(Code.region id (o0::l).toArray false).wpSIn (fence none) 0 P Q a cs w:=by
  intro b k hb hro hF hroom
  have hlen:cs'.length=cs.length:=by
    rcases hrec with h1|⟨-, -,h1⟩
    · exact recoverD_length h1
    rw [h1]
  have h2:wpOpsIn (fence none) 0 P (o0::l).toArray Q0 (List.range' 1 l.length) (a.put (some d) rv) w:=by
    rw [wpOpsIn_eq_wpListIn l 1 (fun j=>by simp [Nat.add_comm 1 j])]
    exact h
  obtain ⟨e,a',w',hq,harr⟩:=wp_opsIn _ _ _ h2 b k cs' hro trivial (hlen▸hroom)
  refine ⟨e,a',cs',w',hlen,hQ _ _ _ hq,?_⟩
  have hr:List.range (o0::l).toArray.size=0::List.range' 1 l.length:=by
    rw [List.range_eq_range'];simp [List.range'_succ]
  refine ArrivesIn.of_steps (.head (fenced_calm hF hroom rfl) stepR_region (.one ?_ ?_)) harr
  · rw [hr]
    exact fenced_oper (o:=o0) hF hroom rfl (fun _ _=>trivial)
  rw [hr]
  have hw:Region.wanted o0 (yielded (o0::l).toArray a.tmps)=true:=by simp [Region.wanted,hg]
  have hgr:=stepGR_op (P:=P) (b:=b) (k:=k) (cs:=cs) (w:=w) (rest:=List.range' 1 l.length) (ops:=(o0::l).toArray) (i:=0) (o:=o0) rfl hw
  rw [hro,Oper.semAt_none]at hgr
  have hfin: ∀v,(b.atR a (.inRegion (o0::l).toArray (0::List.range' 1 l.length)::k)).finish v=b.atR (a.put o0.dst v) (.inRegion (o0::l).toArray (List.range' 1 l.length)::k):=by
    intro v;rw [Frame.finish_atR];rfl
  have hk:(b.atR a (.inRegion (o0::l).toArray (0::List.range' 1 l.length)::k)).kind= .deferred:=hb
  have htr:=tryRecover_deferred hk cs
  have hrun:(execOp a.eval o0).run P w= .ok .recover w:=by
    simp only [execOp,hop,resolve,Sem.run_bind];rfl
  apply step_lone_go
  rw [hgr,←hd,←hfin]
  simp only [Frame.atR,hro]at htr ⊢
  rcases hrec with h1|⟨h1,rfl,rfl⟩
  · simp [stepG.apply,hrun,htr,h1]
  simp [stepG.apply,hrun,htr,h1]
theorem recD{P:Program}{f:FuncId}{fn:Func}{c2:Code}{args:List Value}{n d id:Nat}{o0:Oper}{l:List Oper}{σ:d0_}{H:List Res}{Post:Value→d0_→List Res→Prop}{w:World}{u u':FrameMode}{rv:Value}
    (hw:Reach w (fq_ H) σ σ w H) (hf:P.funcs[f]? =some fn) (hb:fn.body=some (.seq (.region id (o0::l).toArray false) c2)) (hn:fn.ntmps=n) (ha:Nat.ble args.length n=true)
    (hop:o0.op= .call {callee:= .builtin .recover,args:= #[],argTypes:= #[]}) (hg:o0.guard=none) (hd:o0.dst=some d) (hdn:Nat.blt d n=true)
    (hrec: ∀(c₀:Frame) (cs:List Frame),c₀.mode=u→(recoverD (c₀::cs)=some (rv,{c₀ with mode:=u'}::cs)∨(recoverD (c₀::cs)=none∧rv= .nilIface∧({c₀ with mode:=u'}:Frame)::cs=c₀::cs)))
    (h:TL ⟨P,w,fq_ H,σ,n,none,some []⟩ (o0::l).toArray (seqQ (TC ⟨P,w,fq_ H,σ,n,none,some []⟩ (weakQ (retQ P fn n Post)) c2) (weakQ (retQ P fn n Post))) l (upd (kk_ args) d rv) σ H):
    CallsDIn (fence none) 0 P f args.toArray u w fun e u1 w'=>u1=u'∧ ∃r σ' H',e= .returned r∧Post r σ' H'∧Reach w (fq_ H) σ σ' w' H':=by
  refine callsDIn_of_wpSIn hf hb trivial fun c₀ cs hu=> ?_
  apply wpSIn_seq
  refine ru_ (cs':={c₀ with mode:=u'}::cs) hop hg hd (hrec c₀ cs hu) (h w _ ⟨hw,MarksOk.start⟩ ((rz_ hn ha).put (by simpa [Nat.blt_eq]using hdn) rv)) ?_
  have hfin: ∀(ex:Exit) (a:Act) (w':World),(ex= .normal∨ex= .ret∨True)→low ⟨P,w,fq_ H,σ,n,none,some []⟩ (weakQ (retQ P fn n Post)) ex a w'→bodyPostS P fn c₀ cs (fun e u1 w'=>u1=u'∧ ∃r σ' H',e= .returned r∧Post r σ' H'∧Reach w (fq_ H) σ σ' w' H') ex a ({c₀ with mode:=u'}::cs) w':=by
    rintro ex a w' - ⟨e',σ',H',h1,h2,F,hs,⟨hex,r,H'',h3,h4,h5⟩⟩
    have hd:a.defers=[]:=h2.marks.is _ rfl
    have h6:=h2.toReach.ax_ hs
    rcases hex with rfl|rfl
    · exact ⟨hd,u',rfl,r,h3 w' a h1 h6.holds,rfl,r,σ',H'',rfl,h5,h6.sub h4⟩
    exact ⟨hd,u',rfl,r,h3 w' a h1 h6.holds,rfl,r,σ',H'',rfl,h5,h6.sub h4⟩
  rintro ex a' w' ⟨e',σ',H',h1,h2,h3⟩
  cases ex with
  |normal=>exact wpSIn_of_wpIn rfl (Go.wpIn_mono (h3 w' a' h2 h1) fun ex a w' hq=>hfin ex a w' (.inr (.inr trivial)) hq)
  |exit id=>exact hfin _ _ _ (.inr (.inr trivial)) ⟨e',σ',H',h1,h2,h3⟩
  |goto l=>exact hfin _ _ _ (.inr (.inr trivial)) ⟨e',σ',H',h1,h2,h3⟩
  |ret=>exact hfin _ _ _ (.inr (.inr trivial)) ⟨e',σ',H',h1,h2,h3⟩
  |panic ch=>exact hfin _ _ _ (.inr (.inr trivial)) ⟨e',σ',H',h1,h2,h3⟩
  |outgrown=>exact hfin _ _ _ (.inr (.inr trivial)) ⟨e',σ',H',h1,h2,h3⟩
theorem w5_.rec{P:Program}{f:FuncId}{fn:Func}{c2:Code}{args:List Value}{n d id:Nat}{o0:Oper}{l:List Oper}{σ:d0_}{H:List Res}{Post:Value→d0_→List Res→Prop}
    (hf:P.funcs[f]? =some fn) (hb:fn.body=some (.seq (.region id (o0::l).toArray false) c2)) (hn:fn.ntmps=n) (ha:Nat.ble args.length n=true)
    (hop:o0.op= .call {callee:= .builtin .recover,args:= #[],argTypes:= #[]}) (hg:o0.guard=none) (hd:o0.dst=some d) (hdn:Nat.blt d n=true)
    (h: ∀w0,TL ⟨P,w0,fq_ H,σ,n,none,some []⟩ (o0::l).toArray (seqQ (TC ⟨P,w0,fq_ H,σ,n,none,some []⟩ (weakQ (retQ P fn n Post)) c2) (weakQ (retQ P fn n Post))) l (upd (kk_ args) d .nilIface) σ H):w5_ P f args.toArray σ H Post:=fun w hw=>
  recD hw hf hb hn ha hop hg hd hdn (fun c₀ cs hu=> .inr ⟨by simp [recoverD,hu],rfl,by cases c₀;simp_all⟩) (h w)
theorem ConR.rec{P:Program}{f:FuncId}{fn:Func}{c2:Code}{args:List Value}{n d id:Nat}{o0:Oper}{l:List Oper}{σ:d0_}{H:List Res}{v:Value}{Post:Value→d0_→List Res→Prop}
    (hf:P.funcs[f]? =some fn) (hb:fn.body=some (.seq (.region id (o0::l).toArray false) c2)) (hn:fn.ntmps=n) (ha:Nat.ble args.length n=true)
    (hop:o0.op= .call {callee:= .builtin .recover,args:= #[],argTypes:= #[]}) (hg:o0.guard=none) (hd:o0.dst=some d) (hdn:Nat.blt d n=true)
    (h: ∀w0,TL ⟨P,w0,fq_ H,σ,n,none,some []⟩ (o0::l).toArray (seqQ (TC ⟨P,w0,fq_ H,σ,n,none,some []⟩ (weakQ (retQ P fn n Post)) c2) (weakQ (retQ P fn n Post))) l (upd (kk_ args) d v) σ H):ConR P f args.toArray v σ H Post:=fun w hw=>
  recD hw hf hb hn ha hop hg hd hdn (fun c₀ cs hu=> .inl (by simp [recoverD,hu])) (h w)
theorem ConR.mono{P:Program}{f:FuncId}{args:Array Value}{v:Value}{σ:d0_}{H:List Res}{Post Post':Value→d0_→List Res→Prop}
    (h:ConR P f args v σ H Post) (hp: ∀r σ' H',σ.le σ'→Post r σ' H'→Post' r σ' H'):ConR P f args v σ H Post':=fun w hw=>
  (h w hw).mono fun _ _ _ ⟨h0,r,σ',H',h1,h2,h3⟩=>⟨h0,r,σ',H',h1,hp _ _ _ h3.le h2,h3⟩
def dfrX(P:Program)(fn:Func)(n:Nat)(Post:Value→d0_→List Res→Prop)(f:FuncId)(args:List Value):QP:=fun ex e σ H=>
  dfrQ P fn n Post f args ex e σ H∨ ∃v,ex= .panic [{v:=v,recovered:=false}]∧ ∃F,Sub F H∧ConR P f args.toArray v σ F fun _ σ' H'=>RetOk P fn n Post .ret e σ' H'
theorem x8_{P:Program}{fn:Func}{w0:World}{C:List Nat}{σ0:d0_}{n:Nat}{Post:Value→d0_→List Res→Prop}{f:FuncId}{cap dargs:List Value}(hp:plainF P f=true):
    ∀ex a w,low ⟨P,w0,C,σ0,n,none,some [⟨.fn (.func f) cap.toArray,dargs.toArray⟩]⟩ (dfrX P fn n Post f (dargs++cap)) ex a w→endR P fn w0 C σ0 Post ex a w:=by
  rintro ex a w ⟨e,σ,H,h1,h2,h|⟨v,rfl,F,hs,hcon⟩⟩
  · exact us_ hp ex a w ⟨e,σ,H,h1,h2,h⟩
  have hd:a.defers=[⟨.fn (.func f) cap.toArray,dargs.toArray⟩]:=h2.marks.is _ rfl
  have h3:Reach w0 C σ0 σ w F:=h2.toReach.ax_ hs
  show LeavesInM (fence none) 0 P fn a.tmps (endE w0 C σ0 Post) a.defers (.panicking [{v:=v,recovered:=false}]) w
  rw [hd]
  refine ⟨by simp,.inr ⟨(fun h=>by cases h),.func f,cap.toArray,f,(dargs++cap).toArray,rfl,?_,(fun _ _=>trivial),(hcon w h3.self).mono ?_⟩⟩
  · simp [invoke,ft_ hp]
  rintro _ _ w' ⟨rfl,r,σ',H',rfl,⟨-,v',H'',h4,h5,h6⟩,h7⟩
  have h8:Reach w0 C σ0 σ' w' H':=by
    have:=(show Reach w0 C σ0 σ w (F++[]) by rwa [List.append_nil]).call h7
    rwa [List.append_nil]at this
  exact ⟨v',h4 w' a h1 h8.holds,v',σ',H'',rfl,h6,h8.sub h5⟩
structure Flt where
  e:Int
  deriving DecidableEq
def Flt.zero:Flt:=⟨0⟩
structure Maker where
  arcs:List (List Arc)
  ends:List (List (List UInt8))
  most:Int
  rows:List (List Tip)
  places:FM (List UInt8) Int
  q:Seq
def Maker.zero:Maker:=⟨[],[],0,[],FM.emp,Seq.zero⟩
structure RMaker where
  rows:List (List Tip)
  most:Int
  e:Int
def RMaker.zero:RMaker:=⟨[],0,0⟩
structure Numb where
  places:FM (List UInt8) Int
def Numb.zero:Numb:=⟨FM.emp⟩
theorem p4_{α:Type}{enc:α→List Value}{size:Nat}(hl: ∀x,(enc x).length=size)(d q:α)(off:Nat)(u:List Value)(ho:off+u.length≤size):
    ∀(l:List α) (i:Nat),i<l.length→e7_ (enc (nth l i d)) off u=enc q→e7_ (l.flatMap enc) (i * size+off) u=(l.set i q).flatMap enc
  |[],i,h,_=>by simp at h
  |y::l,0,_,hq=>by
    have h0:e7_ (enc y) off u=enc q:=hq
    have h1:off+u.length≤(enc y).length:=by rw [hl];exact ho
    rw [Nat.zero_mul,Nat.zero_add,List.set_cons_zero,List.flatMap_cons,List.flatMap_cons,←h0]
    simp only [e7_]
    rw [List.take_append_of_le_length (by omega),List.drop_append_of_le_length h1,←ap_]
  |y::l,i+1,h,hq=>by
    have h0:e7_ (enc (nth l i d)) off u=enc q:=hq
    have ih:=p4_ hl d q off u ho l i (by simpa using h) h0
    rw [List.set_cons_succ,List.flatMap_cons,List.flatMap_cons,←ih]
    simp only [e7_]
    have e1:(i+1) * size+off=size+(i * size+off):=by rw [Nat.add_mul,Nat.one_mul];omega
    have e2:size+(i * size+off)=(enc y).length+(i * size+off):=by rw [hl]
    have e3:(enc y).length+(i * size+off)+u.length=(enc y).length+(i * size+off+u.length):=by omega
    rw [e1,e2,e3,List.take_length_add_append,List.drop_length_add_append]
    simp only [ap_]
section
variable {X:Ctx} {e:Env} {σ:d0_} {F:List Res} {o:Oper} {x y:Operand} {K:Env→d0_→List Res→Prop}
theorem OpOk.c4_{α:Type}{T E size i off s:Nat}{enc:α→List Value}{v u:Value}{l:List α}(d q:α)(ho:o.op= .store T x y)(hs:szOf X.P T=some s)(hd:o.dst=none)(hx:ev e x=jj_ v (i * size+off))(hv:ev e y=u)
    (hu:e7_ (enc (nth l i d)) off u.cells.toList=enc q) (hus:u.cells.size=s) (h1: ∀c∈u.cells.toList,c.oneCell'=true) (hl: ∀x,(enc x).length=size) (h0:0<s) (hof:off+s≤size) (hi:i<l.length)
    (kk:K e σ (ε E size enc v (l.set i q)::F)):OpOk X o e σ (ε E size enc v l::F) K:=by
  refine OpOk.ci_ ho hs hd hx hv hus h1 h0 ?_ ?_
  · rw [eg_ hl]
    have h1:(i+1) * size≤l.length * size:=Nat.mul_le_mul_right _ hi
    rw [Nat.add_mul]at h1;omega
  rw [p4_ hl d q off u.cells.toList (by rw [Array.length_toList,hus];exact hof) l i hi hu]
  simpa only [ε,ls_]using kk
end
end Go.E
end
