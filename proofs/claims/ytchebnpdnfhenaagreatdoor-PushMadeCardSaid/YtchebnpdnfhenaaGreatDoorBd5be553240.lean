/- Parts of a proof, one behind the other: what a machine reaches, functions decompiled, plain lemmas. Conditions stand with each lemma. -/
import Derived.Test.YtchebnpdnfhenaaGreatDoorBe54edaa7b1
import Derived.Test.YtchebnpdnfhenaaGreatDoorBc7c94354ed
import Derived.Test.YtchebnpdnfhenaaGreatDoorB49fafd953b

set_option linter.unusedVariables false
set_option linter.unusedSimpArgs false
set_option linter.unusedSectionVars false
set_option maxRecDepth 100000
set_option maxHeartbeats 8000000
variable {a0_0 a0_1 a0_2 a0_3 a1_2 a2_0 a3_0:Option Go.Addr}{Eb0 b0_0 b0_1 b1_0 c0_0 c0_1 c0_2 c0_3 c1_3 c2_0 c3_0:Nat}

noncomputable section
namespace Go.Proofs.YtchebnpdnfhenaaGreatDoor
open Go Go.E Go.E.OpVal Go.E.OpOk Go.Proofs.Tryz
open List (replicate)
theorem pf111:plainF Tryz.prog 111=true:=by kernel_rfl
theorem pf70:plainF Tryz.prog 70=true:=by kernel_rfl
theorem pf72:plainF Tryz.prog 72=true:=by kernel_rfl
theorem pf73:plainF Tryz.prog 73=true:=by kernel_rfl
def Cp_(k112:Nat)(s114:T_1)(t115:Bool):Option ((T_1×Bool×Nat)⊕(T_1)):=
 nxt (s114,t115,(k112+1))
def Bj_(x0:Seq)(x1:Int)(x3:B_1)(x2:T_2)(s110:T_1)(t111:Bool)(k112:Nat):Option ((T_1×Bool×Nat)⊕(T_1)):=
 ec_ (decide ((k112:Int)<(((nth x0.next x1.toNat []).length:Nat):Int))) (ec_ (decide ((nth (nth x0.next x1.toNat []) k112 0)<0)) (Cp_ k112 s110 t111) (grd (0≤(nth (nth x0.next x1.toNat []) k112 0)∧(nth (nth x0.next x1.toNat []) k112 0)<(x3.length:Int)) (ec_ (!(nth x3 ((nth (nth x0.next x1.toNat []) k112 0).toNat) false)) (Cp_ k112 s110 t111) (grd (0≤x1∧x1<(x0.outs.length:Int)) (grd (k112<(nth x0.outs x1.toNat []).length) (grd (0≤(nth (nth x0.next x1.toNat []) k112 0)∧(nth (nth x0.next x1.toNat []) k112 0)<(x2.length:Int)) (grd ((nth (nth x0.outs x1.toNat []) k112 []).length+(nth x2 ((nth (nth x0.next x1.toNat []) k112 0).toNat) []).length≤9223372036854775807) (ec_ t111 (bnd (Ex_ [s110,((nth (nth x0.outs x1.toNat []) k112 [])++(nth x2 ((nth (nth x0.next x1.toNat []) k112 0).toNat) []))]) (fun v55=>Cp_ k112 v55 t111)) (Cp_ k112 ((nth (nth x0.outs x1.toNat []) k112 [])++(nth x2 ((nth (nth x0.next x1.toNat []) k112 0).toNat) [])) true))))))))) (fin (some s110))
def E6_(x0:Seq)(x1:Int)(x2:T_2)(x3:B_1):Option (T_1):=
 grd (0≤x1∧x1<(x0.tail.length:Int)) (grd (0≤x1∧x1<(x0.fin.length:Int)) (grd (0≤x1∧x1<(x0.next.length:Int)) (eq_ (fun q:T_1×Bool×Nat=>Bj_ x0 x1 x3 x2 q.1 q.2.1 q.2.2) ((nth x0.tail x1.toNat []),(nth x0.fin x1.toNat false),0))))
theorem Hw_{σ:d0_}{x0:Seq}{x1:Int}{x2:T_2}{x3:B_1}(f0_0:RZ σ (ea_ 1 eI_ ep_) (.slice a0_0 x0.next.length c0_0) x0.next)(f0_1:RZ σ (ea_ 1 eS_ es_) (.slice a0_1 x0.outs.length c0_1) x0.outs)(f0_2:rS_ σ e1_ a0_2 c0_2 x0.fin)(f0_3:rS_ σ eS_ a0_3 c0_3 x0.tail)(f2_0:rS_ σ eS_ a2_0 c2_0 x2)(f3_0:rS_ σ e1_ a3_0 c3_0 x3){r:T_1}(hh:E6_ x0 x1 x2 x3=some r):
  Con prog 111 #[.agg (aq_ x0 a0_0 c0_0 a0_1 c0_1 a0_2 c0_2 a0_3 c0_3),.int .i64 x1,.slice a2_0 x2.length c2_0,.slice a3_0 x3.length c3_0] σ [] (fd_ (.string (bs r)) σ):=by
 dsimp only [E6_]at hh
 have f0_0b:=f0_0.big
 have f0_1b:=f0_1.big
 have f0_2b:=f0_2.rv.big
 have f0_3b:=f0_3.rv.big
 have f2_0b:=f2_0.rv.big
 have f3_0b:=f3_0.rv.big
 refine Con.mk (n:=65) Tryz.func111 z z z (fun w0=> ?_)
 refine ξ (ζ z (boxA z z z z (fun b101=> ?_)))
 refine ω z (ad_ (.inr z) z) (κ (ν ?_))
 obtain ⟨u6,hh⟩:=d6_ hh
 obtain ⟨u11,hh⟩:=d6_ hh
 refine TC.draw [] (by kernel_rfl) (Ψ 0 z (aa_ z g0_ z) z (TA.b 1 z (ab_ z kv_ z (i:=0) z z) z (Ψ 2 z (ai_ (.inl z) z) z (TA.b 3 z (OpVal.index z gw_ sz9 z z f0_3.rv.sl u6.1 u6.2) z (TA.b 4 z (al_ ([]:T_1) z ag9 z f0_3 (by omega) z) z (Ψ 5 z (aa_ z gq_ z) z (TA.b 6 z (ab_ z nz_ z (i:=0) z z) z (Ψ 7 z (ai_ (.inl z) z) z (TA.b 8 z (OpVal.index z h2_ sz4 z z f0_2.rv.sl u11.1 u11.2) z (TA.b 9 z (al_ false z ag4 z f0_2 (by omega) z) z (Ψ 10 z (ad_ (.inr z) z) z (Ψ 11 z (moveB (.inr z) z) z (TA.dn (S.n (ν ?_)))))))))))))))
 refine ξ (ω z (aa_ z e8_ z) (ω z (ab_ z i0_ z (i:=0) z z) (θ z z ?_)))
 obtain ⟨u18,hh⟩:=d6_ hh
 refine ω z (OpVal.index z fn_ fp_ z z f0_0.isSl u18.1 u18.2) ?_
 obtain ⟨p103,hk103,hg103⟩:=RZ.seg f0_0 x1.toNat (by omega)
 replace hk103:rS_ _ eI_ p103.1 p103.2 (nth x0.next x1.toNat []):=hk103
 have hk103b:=hk103.rv.big
 refine ω z (OpVal.of (as_ z jx_ z hg103 z) (v':= .slice p103.1 ((nth x0.next x1.toNat []).length) p103.2) z) (ω z (lenC z e2_ z) (θ z z (κ (υ (TC.ao_ (α:=(T_1×Bool×Nat)×(Unit)) (rgs [(9,5),(30,34)]) (fun g=>[(9,.string (bs g.1.1)),(10,.bool g.1.2.1),(30,.int .i64 ((g.1.2.2:Nat):Int))]) (fun g=>[cq_ b101 x0 a0_0 c0_0 a0_1 c0_1 a0_2 c0_2 a0_3 c0_3]) (fun g=>σ) (fun g=>eq_ (fun q:T_1×Bool×Nat=>Bj_ x0 x1 x3 x2 q.1 q.2.1 q.2.2) g.1=some r) (fun g=>eh_ (fun q:T_1×Bool×Nat=>Bj_ x0 x1 x3 x2 q.1 q.2.1 q.2.2) g.1) (((nth x0.tail x1.toNat []),(nth x0.fin x1.toNat false),0),()) (Sub.pre 1 z) z (by repeat (first|exact trivial|refine ⟨z,?_⟩)) hh (fun g1 j1 hg1=> ?_))))))
 obtain ⟨⟨s110,t111,k112⟩,_⟩:=g1
 have hh:=hg1;clear hg1
 try dsimp only
 obtain ⟨z1,hh,hR1⟩:=eo_ hh
 dsimp only [Bj_]at hh
 refine ξ (ω z (OpVal.lss z z z) (κ (ν (TC.cD z hh (fun h113 hh=> ?_) (fun h113 hh=> ?_)))))
 ·refine ι (S.n (TC.cutG (α:=(T_1×Bool)×(Unit)) (rgs [(9,5),(32,31)]) (fun g=>[(9,.string (bs g.1.1)),(10,.bool g.1.2)]) (fun g=>[cq_ b101 x0 a0_0 c0_0 a0_1 c0_1 a0_2 c0_2 a0_3 c0_3]) (fun g=>σ) (fun g=>Cp_ k112 g.1.1 g.1.2=some z1) ?_ (fun g j hg=> ?_)))
  ·skip
   refine υ (ξ (θ z z (ω z (af_ z e2_ sz3 z z hk103.rv.sl (by omega)) (ω z (al_ (0:Int) z ag3 z hk103 (by omega) z) (θ z z (θ z z (κ (ν (ξ (θ z z (ω z (OpVal.lss z z z) (TL.j z z (TL.split 37 z (fun h116=> ?_) (fun h116=> ?_))))))))))))))
   ·replace hh:=ej_ h116 hh
    replace h116:=dt_ h116
    exact χ z (χ z (χ z (χ z (χ z (ω z (ah_ z z z) (κ (TC.t z (TC.exit (S.x (Δ (S.n (cf ((s110,t111),()) hh (Sub.pre 1 z)))))))))))))
   replace hh:=ei_ h116 hh
   replace h116:=df_ h116
   refine TL.g z (aj_ (.inl z) z) (TL.g z (ai_ (.inl z) z) ?_)
   obtain ⟨u33,hh⟩:=d6_ hh
   refine TL.g z (OpVal.index z h2_ sz4 z z f3_0.rv.sl u33.1 u33.2) (TL.g z (al_ false z ag4 z f3_0 (by omega) z) (TL.g z (OpVal.not z z) (ω z (ag_ z z z) (κ (TC.cB z hh (fun h117 hh=> ?_) (fun h117 hh=> ?_))))))
   ·exact TC.exit (S.x (Δ (S.n (cf ((s110,t111),()) hh (Sub.pre 1 z)))))
   refine ι (S.n (ν ?_))
   obtain ⟨u40,hh⟩:=d6_ hh
   obtain ⟨u43,hh⟩:=d6_ hh
   obtain ⟨u47,hh⟩:=d6_ hh
   obtain ⟨u49,hh⟩:=d6_ hh
   refine TC.draw [] (by kernel_rfl) (Ψ 0 z (aa_ z fy_ z) z (TA.b 1 z (ab_ z m4_ z (i:=0) z z) z (Ψ 2 z (ai_ (.inl z) z) z (TA.b 3 z (OpVal.index z l4_ kn_ z z f0_1.isSl u40.1 u40.2) z ?_))))
   obtain ⟨p119,hk119,hg119⟩:=RZ.seg f0_1 x1.toNat (by omega)
   replace hk119:rS_ _ eS_ p119.1 p119.2 (nth x0.outs x1.toNat []):=hk119
   have hk119b:=hk119.rv.big
   refine TA.b 4 z (OpVal.of (as_ z kv_ z hg119 z) (v':= .slice p119.1 ((nth x0.outs x1.toNat []).length) p119.2) z) z (Ψ 5 z (ai_ (.inl z) z) z (TA.b 6 z (af_ z gw_ sz9 z z hk119.rv.sl (by omega)) z (TA.b 7 z (al_ ([]:T_1) z ag9 z hk119 (by omega) z) z (Ψ 8 z (aj_ (.inl z) z) z (Ψ 9 z (ai_ (.inl z) z) z (TA.b 10 z (OpVal.index z gw_ sz9 z z f2_0.rv.sl u47.1 u47.2) z (TA.b 11 z (al_ ([]:T_1) z ag9 z f2_0 (by omega) z) z (Ψ 12 z (cl_ z z z u49) z (Ψ 13 z (ad_ (.inr z) z) z (TA.dn (S.n (ξ (TL.j z z (κ (TC.cB z hh (fun h120 hh=> ?_) (fun h120 hh=> ?_))))))))))))))))
   ·refine π (ω z (ad_ (.inl z) z) (ω z (ad_ (.inl z) z) (ζ z (OpOk.lit (enc:=eS_) [s110,((nth (nth x0.outs x1.toNat []) k112 [])++(nth x2 ((nth (nth x0.next x1.toNat []) k112 0).toNat) []))] z gw_ sz9 ze9 z z z es_ (by decide) (by decide) ([]:T_1) z (by decide) z (by decide) pn_ (fun a121 c122=> ?_)))))
    obtain ⟨v55,u55,hh⟩:=eb_ hh
    refine ζ z (b2_ (Con.lend es_ (fun _ hle125 hr124=>Gy_ hr124 u55)) z z pf127 z z z z ?_)
    exact ω z (ad_ (.inr z) z) (TL.nil (B.n (S.n (cf ((v55,t111),()) hh (δ [1] 1)))))
   exact π (ω z (ad_ (.inl z) z) (ω z (ad_ (.inr z) z) (TL.j z z (TL.nil (B.n (S.n (cf ((((nth (nth x0.outs x1.toNat []) k112 [])++(nth x2 ((nth (nth x0.next x1.toNat []) k112 0).toNat) [])),true),()) hh (Sub.pre 1 z))))))))
  skip
  obtain ⟨⟨s114,t115⟩,_⟩:=g
  have hh:=hg;clear hg
  try dsimp only
  dsimp only [Cp_]at hh
  refine π (ω z (OpVal.succ z z z (by omega)) (θ z z (κ ?_)))
  obtain ⟨hh,hlt126⟩:=ey_ hR1 hh
  exact lf ((s114,t115,(k112+1)),()) hlt126 hh (Sub.pre 1 z)
 refine TC.exit (S.x (S.x ?_))
 replace hh:=el_ hR1 hh
 refine Δ (S.n (ξ (ω z (ad_ (.inl z) z) (ω z (ad_ (.inr z) z) (κ (TC.rt 0 ?_))))))
 obtain rfl:=so hh
 exact rq [8] ⟨z,z,z⟩
def Cb_(k142:Nat)(l145:N_2):Option ((N_2×Nat)⊕((N_2×Nat)⊕(T_2×B_1))):=
 nxt (l145,(k142+1))
def Ax_(x0:Seq)(k122:Nat)(l138:N_2)(k142:Nat):Option ((N_2×Nat)⊕((N_2×Nat)⊕(T_2×B_1))):=
 ec_ (decide ((k142:Int)<(((nth x0.next k122 []).length:Nat):Int))) (ec_ (decide (0≤(nth (nth x0.next k122 []) k142 0))) (grd (0≤(nth (nth x0.next k122 []) k142 0)∧(nth (nth x0.next k122 []) k142 0)<(l138.length:Int)) (ec_ (decide ((((nth l138 ((nth (nth x0.next k122 []) k142 0).toNat) []).length:Nat):Int)=0)) (grd (0≤(nth (nth x0.next k122 []) k142 0)∧(nth (nth x0.next k122 []) k142 0)<(l138.length:Int)) (grd (((nth l138 ((nth (nth x0.next k122 []) k142 0).toNat) []).length+[(k122:Int)].length) * 8≤140737488355328) (grd (0≤(nth (nth x0.next k122 []) k142 0)∧(nth (nth x0.next k122 []) k142 0)<(l138.length:Int)) (Cb_ k142 (l138.set ((nth (nth x0.next k122 []) k142 0).toNat) ((nth l138 ((nth (nth x0.next k122 []) k142 0).toNat) [])++[(k122:Int)])))))) (grd (0≤(nth (nth x0.next k122 []) k142 0)∧(nth (nth x0.next k122 []) k142 0)<(l138.length:Int)) (grd (0≤(nth (nth x0.next k122 []) k142 0)∧(nth (nth x0.next k122 []) k142 0)<(l138.length:Int)) (grd (0≤(IntKind.i64.wrap ((((nth l138 ((nth (nth x0.next k122 []) k142 0).toNat) []).length:Nat):Int) - 1))∧(IntKind.i64.wrap ((((nth l138 ((nth (nth x0.next k122 []) k142 0).toNat) []).length:Nat):Int) - 1))<((nth l138 ((nth (nth x0.next k122 []) k142 0).toNat) []).length:Int)) (ec_ (decide ((nth (nth l138 ((nth (nth x0.next k122 []) k142 0).toNat) []) ((IntKind.i64.wrap ((((nth l138 ((nth (nth x0.next k122 []) k142 0).toNat) []).length:Nat):Int) - 1)).toNat) 0)≠(k122:Int))) (grd (0≤(nth (nth x0.next k122 []) k142 0)∧(nth (nth x0.next k122 []) k142 0)<(l138.length:Int)) (grd (((nth l138 ((nth (nth x0.next k122 []) k142 0).toNat) []).length+[(k122:Int)].length) * 8≤140737488355328) (grd (0≤(nth (nth x0.next k122 []) k142 0)∧(nth (nth x0.next k122 []) k142 0)<(l138.length:Int)) (Cb_ k142 (l138.set ((nth (nth x0.next k122 []) k142 0).toNat) ((nth l138 ((nth (nth x0.next k122 []) k142 0).toNat) [])++[(k122:Int)])))))) (Cb_ k142 l138))))))) (Cb_ k142 l138)) (fin (nxt (l138,(k122+1))))
def Dt_(k269:Nat)(l278:N_1)(l281:B_1):Option ((N_1×B_1×Nat)⊕(T_2×B_1)):=
 nxt (l278,l281,(k269+1))
def Dw_(k401:Nat)(l411:N_1)(l414:B_1):Option ((N_1×B_1×Nat)⊕((T_2×B_1×N_1×B_1)⊕(T_2×B_1))):=
 grd (k401+1≤9223372036854775807) (nxt (l411,l414,(k401+1)))
def Av_(l118:N_2)(l328:N_1)(l324:T_2)(v120:T_1)(l326:B_1)(l396:N_1)(l399:B_1)(k401:Nat):Option ((N_1×B_1×Nat)⊕((T_2×B_1×N_1×B_1)⊕(T_2×B_1))):=
 ec_ (decide ((k401:Int)<(((nth l118 ((nth l328 0 0).toNat) []).length:Nat):Int))) (grd (0≤(nth (nth l118 ((nth l328 0 0).toNat) []) k401 0)∧(nth (nth l118 ((nth l328 0 0).toNat) []) k401 0)<(l399.length:Int)) (ec_ (!(nth l399 ((nth (nth l118 ((nth l328 0 0).toNat) []) k401 0).toNat) false)) (grd ((l396.length+[(nth (nth l118 ((nth l328 0 0).toNat) []) k401 0)].length) * 8≤140737488355328) (grd (0≤(nth (nth l118 ((nth l328 0 0).toNat) []) k401 0)∧(nth (nth l118 ((nth l328 0 0).toNat) []) k401 0)<(l399.length:Int)) (Dw_ k401 (l396++[(nth (nth l118 ((nth l328 0 0).toNat) []) k401 0)]) (l399.set ((nth (nth l118 ((nth l328 0 0).toNat) []) k401 0).toNat) true)))) (Dw_ k401 l396 l399))) (fin (nxt ((l324.set ((nth l328 0 0).toNat) v120),(l326.set ((nth l328 0 0).toNat) true),l396,l399)))
def Cw_(l328:N_1)(l324:T_2)(l326:B_1)(l118:N_2)(v120:T_1)(l331:B_1):Option ((T_2×B_1×N_1×B_1)⊕(T_2×B_1)):=
 grd (0≤(nth l328 0 0)∧(nth l328 0 0)<(l324.length:Int)) (grd (0≤(nth l328 0 0)∧(nth l328 0 0)<(l326.length:Int)) (grd (0≤(nth l328 0 0)∧(nth l328 0 0)<(l118.length:Int)) (eq_ (fun q:N_1×B_1×Nat=>Av_ l118 l328 l324 v120 l326 q.1 q.2.1 q.2.2) ((l328.drop 1),(l331.set ((nth l328 0 0).toNat) false),0))))
def A8_(x0:Seq)(l118:N_2)(l324:T_2)(l326:B_1)(l328:N_1)(l331:B_1):Option ((T_2×B_1×N_1×B_1)⊕(T_2×B_1)):=
 ec_ (decide (0<((l328.length:Nat):Int))) (grd (0<l328.length∧1≤l328.length) (grd (0≤(nth l328 0 0)∧(nth l328 0 0)<(l331.length:Int)) (bnd (E6_ x0 (nth l328 0 0) l324 l326) (fun v120=>grd (0≤(nth l328 0 0)∧(nth l328 0 0)<(l326.length:Int)) (ec_ (nth l326 ((nth l328 0 0).toNat) false) (grd (0≤(nth l328 0 0)∧(nth l328 0 0)<(l324.length:Int)) (ec_ (decide (v120=(nth l324 ((nth l328 0 0).toNat) []))) (nxt (l324,l326,(l328.drop 1),(l331.set ((nth l328 0 0).toNat) false))) (Cw_ l328 l324 l326 l118 v120 l331))) (Cw_ l328 l324 l326 l118 v120 l331)))))) (fin (some (l324,l326)))
def A6_(x0:Seq)(l118:N_2)(l264:N_1)(l267:B_1)(k269:Nat):Option ((N_1×B_1×Nat)⊕(T_2×B_1)):=
 ec_ (decide ((k269:Int)<((x0.fin.length:Nat):Int))) (ec_ (nth x0.fin k269 false) (grd ((l264.length+[(k269:Int)].length) * 8≤140737488355328) (grd (k269<l267.length) (Dt_ k269 (l264++[(k269:Int)]) (l267.set k269 true)))) (Dt_ k269 l264 l267)) (fin (eq_ (fun q:T_2×B_1×N_1×B_1=>A8_ x0 l118 q.1 q.2.1 q.2.2.1 q.2.2.2) ((replicate x0.next.length ([]:T_1)),(replicate x0.next.length false),l264,l267)))
def Dp_(x0:Seq)(l118:N_2):Option (T_2×B_1):=
 eq_ (fun q:N_1×B_1×Nat=>A6_ x0 l118 q.1 q.2.1 q.2.2) (([]:N_1),(replicate x0.next.length false),0)
def El_(x0:Seq)(l118:N_2):Option (T_2×B_1):=
 grd (1 * x0.next.length≤281474976710656) (Dp_ x0 l118)
def A7_(x0:Seq)(l118:N_2)(k122:Nat):Option ((N_2×Nat)⊕(T_2×B_1)):=
 ec_ (decide ((k122:Int)<((x0.next.length:Nat):Int))) (eq_ (fun q:N_2×Nat=>Ax_ x0 k122 q.1 q.2) (l118,0)) (fin (grd (16 * x0.next.length≤281474976710656) (grd (1 * x0.next.length≤281474976710656) (El_ x0 l118))))
def Er_(x0:Seq):Option (T_2×B_1):=
 grd (24 * x0.next.length≤281474976710656) (eq_ (fun q:N_2×Nat=>A7_ x0 q.1 q.2) ((replicate x0.next.length ([]:N_1)),0))
def H1_(σ:d0_)(r:T_2×B_1):Value→d0_→List Res→Prop:=fun v σ' H'=>
 ∃a1 c1 a2 c2,v= .tuple #[.slice a1 r.1.length c1,.slice a2 r.2.length c2]∧rS_ σ' eS_ a1 c1 r.1∧rS_ σ' e1_ a2 c2 r.2∧H'=[]
theorem Hg_{σ:d0_}{x0:Seq}(f0_0:RZ σ (ea_ 1 eI_ ep_) (.slice a0_0 x0.next.length c0_0) x0.next)(f0_1:RZ σ (ea_ 1 eS_ es_) (.slice a0_1 x0.outs.length c0_1) x0.outs)(f0_2:rS_ σ e1_ a0_2 c0_2 x0.fin)(f0_3:rS_ σ eS_ a0_3 c0_3 x0.tail){r:T_2×B_1}(hh:Er_ x0=some r):
  Con prog 70 #[.agg (aq_ x0 a0_0 c0_0 a0_1 c0_1 a0_2 c0_2 a0_3 c0_3)] σ [] (H1_ σ r):=by
 dsimp only [Er_]at hh
 have f0_0b:=f0_0.big
 have f0_1b:=f0_1.big
 have f0_2b:=f0_2.rv.big
 have f0_3b:=f0_3.rv.big
 refine Con.mk (n:=160) Tryz.func70 z z z (fun w0=> ?_)
 refine ξ (ζ z (boxA z z z z (fun b101=> ?_)))
 refine TL.s z z (TL.s z z (κ (ξ (ω z (aa_ z e8_ z) (ω z (ab_ z i0_ z (i:=0) z z) (ω z (lenC z fn_ z) (θ z z (κ (ξ (θ z z ?_))))))))))
 obtain ⟨u9,hh⟩:=d6_ hh
 refine ζ z (a1_ (E:=3) (size:=1) (enc:=eI_) z fn_ fp_ im_ h4_ z z z z (by omega) (by decide) z (fun a103 c104 zf105=> ?_))
 refine TL.s z z (κ (ν (ξ (ω z (aa_ z e8_ z) (ω z (ab_ z i0_ z (i:=1) z z) (ω z (lenC z fn_ z) (θ z z (κ (υ (TC.ao_ (α:=(N_2×Nat)×((List (NP Int)))) (rgs [(6,2),(9,1),(28,49)]) (fun g=>[(28,.int .i64 ((g.1.2:Nat):Int))]) (fun g=>[cq_ b101 x0 a0_0 c0_0 a0_1 c0_1 a0_2 c0_2 a0_3 c0_3,Res.nest 86 3 1 eI_ (.slice a103 (replicate x0.next.length ([]:N_1)).length c104) g.2]) (fun g=>σ) (fun g=>eq_ (fun q:N_2×Nat=>A7_ x0 q.1 q.2) g.1=some r∧g.1.1.length=(replicate x0.next.length ([]:N_1)).length∧Zn g.2 g.1.1) (fun g=>eh_ (fun q:N_2×Nat=>A7_ x0 q.1 q.2) g.1) (((replicate x0.next.length ([]:N_1)),0),(replicate x0.next.length (jt_:NP Int))) (δ [1] 2) z (by repeat (first|exact trivial|refine ⟨z,?_⟩)) ⟨hh,z,zf105⟩ (fun g1 j1 hg1=> ?_)))))))))))
 obtain ⟨⟨l118,k122⟩,z120⟩:=g1
 obtain ⟨hh,hn119,zf121⟩:=hg1
 try dsimp only at hn119 zf121 ⊢
 obtain ⟨z1,hh,hR1⟩:=eo_ hh
 dsimp only [A7_]at hh
 have zf121b:=zf121.len
 refine TC.know (ef_ (q:=1) z zf121) (fun ⟨_,hb123⟩=> ?_)
 refine ξ (ω z (OpVal.lss z z z) (κ (ν (TC.cD z hh (fun h124 hh=> ?_) (fun h124 hh=> ?_)))))
 ·refine ι (S.n (ν (υ (ξ (θ z z (ω z (af_ z fn_ fp_ z z f0_0.isSl (by omega)) ?_))))))
  obtain ⟨p125,hk125,hg125⟩:=RZ.seg f0_0 k122 (by omega)
  replace hk125:rS_ _ eI_ p125.1 p125.2 (nth x0.next k122 []):=hk125
  have hk125b:=hk125.rv.big
  refine ω z (OpVal.of (as_ z jx_ z hg125 z) (v':= .slice p125.1 ((nth x0.next k122 []).length) p125.2) z) (θ z z (TL.s z z (κ (ξ (TL.s z z (ω z (lenC z e2_ z) (θ z z (κ (υ (TC.ao_ (α:=(N_2×Nat)×((List (NP Int)))) (rgs [(9,1),(35,41)]) (fun g=>[(35,.int .i64 ((g.1.2:Nat):Int))]) (fun g=>[cq_ b101 x0 a0_0 c0_0 a0_1 c0_1 a0_2 c0_2 a0_3 c0_3,Res.nest 86 3 1 eI_ (.slice a103 (replicate x0.next.length ([]:N_1)).length c104) g.2]) (fun g=>σ) (fun g=>eq_ (fun q:N_2×Nat=>Ax_ x0 k122 q.1 q.2) g.1=some z1∧g.1.1.length=(replicate x0.next.length ([]:N_1)).length∧Zn g.2 g.1.1) (fun g=>eh_ (fun q:N_2×Nat=>Ax_ x0 k122 q.1 q.2) g.1) ((l118,0),z120) (δ [1,1] 2) z (by repeat (first|exact trivial|refine ⟨z,?_⟩)) ⟨hh,hn119,zf121⟩ (fun g2 j2 hg2=> ?_)))))))))))
  obtain ⟨⟨l138,k142⟩,z140⟩:=g2
  obtain ⟨hh,hn139,zf141⟩:=hg2
  try dsimp only at hn139 zf141 ⊢
  obtain ⟨z2,hh,hR2⟩:=eo_ hh
  dsimp only [Ax_]at hh
  have zf141b:=zf141.len
  refine TC.know (ef_ (q:=1) z zf141) (fun ⟨_,hb143⟩=> ?_)
  refine ξ (ω z (OpVal.lss z z z) (κ (ν (TC.cD z hh (fun h144 hh=> ?_) (fun h144 hh=> ?_)))))
  ·refine ι (S.n (TC.cutG (α:=(N_2)×((List (NP Int)))) (rgs [(9,1),(37,38)]) (fun g=>[]) (fun g=>[cq_ b101 x0 a0_0 c0_0 a0_1 c0_1 a0_2 c0_2 a0_3 c0_3,Res.nest 86 3 1 eI_ (.slice a103 (replicate x0.next.length ([]:N_1)).length c104) g.2]) (fun g=>σ) (fun g=>Cb_ k142 g.1=some z2∧g.1.length=(replicate x0.next.length ([]:N_1)).length∧Zn g.2 g.1) ?_ (fun g j hg=> ?_)))
   ·skip
    refine υ (ξ (ω z (af_ z e2_ sz3 z z hk125.rv.sl (by omega)) (ω z (al_ (0:Int) z ag3 z hk125 (by omega) z) (θ z z (κ (ν (TC.draw [] (by kernel_rfl) (Ψ 0 z (ai_ (.inl z) z) z (Ψ 1 z (OpVal.geq z z z) z (Ψ 2 z (moveB (.inl z) z) z (TA.split 41 z (fun h149=> ?_) (fun h149=> ?_))))))))))))
    ·replace hh:=ej_ h149 hh
     replace h149:=dt_ h149
     refine TA.on 3 z z z z (aj_ (.inl z) z) z (TA.on 4 z z z z (ai_ (.inl z) z) z ?_)
     obtain ⟨u33,hh⟩:=d6_ hh
     refine TA.know (ef_ (q:=1) z zf141) (fun ⟨hs150,hs150b⟩=> ?_)
     refine TA.on 5 z z z z (OpVal.index z fn_ fp_ z z hs150 u33.1 u33.2) z ?_
     obtain ⟨p151,hz151,hm151⟩:=Zn.at zf141 (i:=(nth (nth x0.next k122 []) k142 0).toNat) (by omega)
     refine TA.on 6 z z z z (bh_ z jx_ z (q:=1) z hz151 hm151) z (TA.on 7 z z z z (lenC z e2_ z) z (TA.on 8 z z z z (OpVal.eql z z z) z (TA.on 9 z z z z (moveB (.inl z) z) z (TA.split 48 z (fun h152=> ?_) (fun h152=> ?_)))))
     ·replace hh:=ej_ h152 hh
      replace h152:=dt_ h152
      refine TA.off 10 z z z z z z (TA.off 11 z z z z z z (TA.off 12 z z z z z z (TA.off 13 z z z z z z (TA.off 14 z z z z z z (TA.off 15 z z z z z z (TA.off 16 z z z z z z (TA.off 17 z z z z z z (TA.off 18 z z z z z z (TA.off 19 z z z z z z (TA.off 20 z z z z z z (TA.off 21 z z z z z z (TA.off 22 z z z z z z (TA.off 23 z z z z z z (TA.on 24 z z z z (ah_ z z z) z (Ψ 25 z (ah_ z z z) z ?_)))))))))))))))
      refine TA.dn (S.n (TC.t z (π (TL.s z z (θ z z (TL.s z z (θ z z ?_)))))))
      obtain ⟨u58,hh⟩:=d6_ hh
      refine TL.know (ef_ (q:=1) z zf141) (fun ⟨hs153,hs153b⟩=> ?_)
      refine ω z (OpVal.index z fn_ fp_ z z hs153 u58.1 u58.2) ?_
      obtain ⟨p154,hz154,hm154⟩:=Zn.at zf141 (i:=(nth (nth x0.next k122 []) k142 0).toNat) (by omega)
      refine ω z (bh_ z jx_ z (q:=1) z hz154 hm154) (θ z z (ζ z (OpOk.lit (enc:=eI_) [(k122:Int)] z e2_ sz3 ze3 z z z ep_ (by decide) (by decide) (0:Int) z (by decide) z (by decide) i2_ (fun a155 c156=> ?_))))
      refine ψ 2 z z (TL.by (fun w h=>Reach.takeN hz154 hm154 h) ?_)
      obtain ⟨u62,hh⟩:=d6_ hh
      refine ζ z (av_ z z e2_ sz3 by3 ze3 z z (by decide) z z z (.inr ⟨_,1,z⟩) (by simpa using u62) (by decide) (fun a159 c160=> ?_))
      obtain ⟨u63,hh⟩:=d6_ hh
      refine TL.know (f4_ (q:=1) z zf141) (fun ⟨hs161,hs161b⟩=> ?_)
      refine ω z (OpVal.index z fn_ fp_ z z hs161 u63.1 u63.2) (ψ 1 z z (ψ 1 z z ?_))
      have hn163:(l138.set ((nth (nth x0.next k122 []) k142 0).toNat) ((nth l138 ((nth (nth x0.next k122 []) k142 0).toNat) [])++[(k122:Int)])).length=(replicate x0.next.length ([]:N_1)).length:=(ls_ ..).trans hn139
      refine ζ rfl (bf_ (l':=((nth l138 ((nth (nth x0.next k122 []) k142 0).toNat) [])++[(k122:Int)])) rfl fp_ rfl rfl rfl rfl rfl (by rw [zf141.len];omega) zf141 (fun zf162=> ?_))
      exact TL.nil (B.n (S.n (cf ((l138.set ((nth (nth x0.next k122 []) k142 0).toNat) ((nth l138 ((nth (nth x0.next k122 []) k142 0).toNat) [])++[(k122:Int)])),(z140.set ((nth (nth x0.next k122 []) k142 0).toNat) (((nth l138 ((nth (nth x0.next k122 []) k142 0).toNat) [])++[(k122:Int)]),(a159,c160)))) ⟨hh,hn163,zf162⟩ (δ [2] 2))))
     replace hh:=ei_ h152 hh
     replace h152:=df_ h152
     refine TA.on 10 z z z z (aj_ (.inl z) z) z (TA.on 11 z z z z (ai_ (.inl z) z) z ?_)
     obtain ⟨u40,hh⟩:=d6_ hh
     refine TA.know (ef_ (q:=1) z zf141) (fun ⟨hs164,hs164b⟩=> ?_)
     refine TA.on 12 z z z z (OpVal.index z fn_ fp_ z z hs164 u40.1 u40.2) z ?_
     obtain ⟨p165,hz165,hm165⟩:=Zn.at zf141 (i:=(nth (nth x0.next k122 []) k142 0).toNat) (by omega)
     refine TA.on 13 z z z z (bh_ z jx_ z (q:=1) z hz165 hm165) z (TA.on 14 z z z z (aj_ (.inl z) z) z (TA.on 15 z z z z (ai_ (.inl z) z) z ?_))
     obtain ⟨u44,hh⟩:=d6_ hh
     refine TA.know (ef_ (q:=1) z zf141) (fun ⟨hs166,hs166b⟩=> ?_)
     refine TA.on 16 z z z z (OpVal.index z fn_ fp_ z z hs166 u44.1 u44.2) z ?_
     obtain ⟨p167,hz167,hm167⟩:=Zn.at zf141 (i:=(nth (nth x0.next k122 []) k142 0).toNat) (by omega)
     refine TA.on 17 z z z z (bh_ z jx_ z (q:=1) z hz167 hm167) z (TA.on 18 z z z z (lenC z e2_ z) z (TA.on 19 z z z z (subW z z z) z ?_))
     obtain ⟨u48,hh⟩:=d6_ hh
     refine TA.know (qu_ (q:=1) z hz165 hm165) (fun ⟨hs168,hs168b⟩=> ?_)
     refine TA.on 20 z z z z (OpVal.index z e2_ sz3 z z hs168 u48.1 u48.2) z (TA.on 21 z z z z (OpVal.seen (l8_ (q:=1) z hz165 hm165) (a4_ (0:Int) z ag3 z (q:=0) z ep_ (by omega) z)) z (TA.on 22 z z z z (ai_ (.inl z) z) z (TA.on 23 z z z z (OpVal.neq z z z) z (TA.on 24 z z z z (ag_ z z z) z (Ψ 25 z (ah_ z z z) z (TA.dn (S.n (TC.cD z hh (fun h169 hh=> ?_) (fun h169 hh=> ?_)))))))))
     ·refine π (TL.s z z (θ z z (TL.s z z (θ z z ?_))))
      obtain ⟨u58,hh⟩:=d6_ hh
      refine TL.know (ef_ (q:=1) z zf141) (fun ⟨hs170,hs170b⟩=> ?_)
      refine ω z (OpVal.index z fn_ fp_ z z hs170 u58.1 u58.2) ?_
      obtain ⟨p171,hz171,hm171⟩:=Zn.at zf141 (i:=(nth (nth x0.next k122 []) k142 0).toNat) (by omega)
      refine ω z (bh_ z jx_ z (q:=1) z hz171 hm171) (θ z z (ζ z (OpOk.lit (enc:=eI_) [(k122:Int)] z e2_ sz3 ze3 z z z ep_ (by decide) (by decide) (0:Int) z (by decide) z (by decide) i2_ (fun a172 c173=> ?_))))
      refine ψ 2 z z (TL.by (fun w h=>Reach.takeN hz171 hm171 h) ?_)
      obtain ⟨u62,hh⟩:=d6_ hh
      refine ζ z (av_ z z e2_ sz3 by3 ze3 z z (by decide) z z z (.inr ⟨_,1,z⟩) (by simpa using u62) (by decide) (fun a176 c177=> ?_))
      obtain ⟨u63,hh⟩:=d6_ hh
      refine TL.know (f4_ (q:=1) z zf141) (fun ⟨hs178,hs178b⟩=> ?_)
      refine ω z (OpVal.index z fn_ fp_ z z hs178 u63.1 u63.2) (ψ 1 z z (ψ 1 z z ?_))
      have hn180:(l138.set ((nth (nth x0.next k122 []) k142 0).toNat) ((nth l138 ((nth (nth x0.next k122 []) k142 0).toNat) [])++[(k122:Int)])).length=(replicate x0.next.length ([]:N_1)).length:=(ls_ ..).trans hn139
      refine ζ rfl (bf_ (l':=((nth l138 ((nth (nth x0.next k122 []) k142 0).toNat) [])++[(k122:Int)])) rfl fp_ rfl rfl rfl rfl rfl (by rw [zf141.len];omega) zf141 (fun zf179=> ?_))
      exact TL.nil (B.n (S.n (cf ((l138.set ((nth (nth x0.next k122 []) k142 0).toNat) ((nth l138 ((nth (nth x0.next k122 []) k142 0).toNat) [])++[(k122:Int)])),(z140.set ((nth (nth x0.next k122 []) k142 0).toNat) (((nth l138 ((nth (nth x0.next k122 []) k142 0).toNat) [])++[(k122:Int)]),(a176,c177)))) ⟨hh,hn180,zf179⟩ (δ [2] 2))))
     exact ι (B.n (S.n (cf (l138,z140) ⟨hh,hn139,zf141⟩ (δ [1,1] 2))))
    replace hh:=ei_ h149 hh
    replace h149:=df_ h149
    refine TA.off 3 z z z z z z (TA.off 4 z z z z z z (TA.off 5 z z z z z z (TA.off 6 z z z z z z (TA.off 7 z z z z z z (TA.off 8 z z z z z z (TA.off 9 z z z z z z (TA.ar_ 10 z (by kernel_rfl) (by kernel_rfl) (by kernel_rfl) (by kernel_rfl) z z z z z z z (TA.ar_ 11 z (by kernel_rfl) (by kernel_rfl) (by kernel_rfl) (by kernel_rfl) z z z z z z z (TA.ar_ 12 z (by kernel_rfl) (by kernel_rfl) (by kernel_rfl) (by kernel_rfl) z z z z z z z (TA.ar_ 13 z (by kernel_rfl) (by kernel_rfl) (by kernel_rfl) (by kernel_rfl) z z z z z z z (TA.ar_ 14 z (by kernel_rfl) (by kernel_rfl) (by kernel_rfl) (by kernel_rfl) z z z z z z z (TA.ar_ 15 z (by kernel_rfl) (by kernel_rfl) (by kernel_rfl) (by kernel_rfl) z z z z z z z (TA.ar_ 16 z (by kernel_rfl) (by kernel_rfl) (by kernel_rfl) (by kernel_rfl) z z z z z z z (TA.ar_ 17 z (by kernel_rfl) (by kernel_rfl) (by kernel_rfl) (by kernel_rfl) z z z z z z z (TA.ar_ 18 z (by kernel_rfl) (by kernel_rfl) (by kernel_rfl) (by kernel_rfl) z z z z z z z ?_)))))))))))))))
    exact TA.ar_ 19 z (by kernel_rfl) (by kernel_rfl) (by kernel_rfl) (by kernel_rfl) z z z z z z z (TA.ar_ 20 z (by kernel_rfl) (by kernel_rfl) (by kernel_rfl) (by kernel_rfl) z z z z z z z (TA.ar_ 21 z (by kernel_rfl) (by kernel_rfl) (by kernel_rfl) (by kernel_rfl) z z z z z z z (TA.ar_ 22 z (by kernel_rfl) (by kernel_rfl) (by kernel_rfl) (by kernel_rfl) z z z z z z z (TA.ar_ 23 z (by kernel_rfl) (by kernel_rfl) (by kernel_rfl) (by kernel_rfl) z z z z z z z (TA.off 24 z z z z z z (Ψ 25 z (ag_ z z z) z (TA.dn (S.n (TC.f z (ι (B.n (S.n (cf (l138,z140) ⟨hh,hn139,zf141⟩ (δ [1,1] 2))))))))))))))
   skip
   obtain ⟨l145,z147⟩:=g
   obtain ⟨hh,hn146,zf148⟩:=hg
   try dsimp only at hn146 zf148 ⊢
   dsimp only [Cb_]at hh
   have zf148b:=zf148.len
   refine TC.know (ef_ (q:=1) z zf148) (fun ⟨_,hb181⟩=> ?_)
   refine π (ω z (OpVal.succ z z z (by omega)) (θ z z (κ ?_)))
   obtain ⟨hh,hlt182⟩:=ey_ hR2 hh
   exact lf ((l145,(k142+1)),z147) hlt182 ⟨hh,hn146,zf148⟩ (δ [1,1] 2)
  refine TC.exit (S.x (S.x ?_))
  replace hh:=el_ hR2 hh
  refine Δ (B.n (S.n (π (ω z (OpVal.succ z z z (by omega)) (θ z z (κ ?_))))))
  obtain ⟨hh,hlt183⟩:=ey_ hR1 hh
  exact lf ((l138,(k122+1)),z140) hlt183 ⟨hh,hn139,zf141⟩ (δ [1,1] 2)
 refine TC.exit (S.x (S.x ?_))
 replace hh:=el_ hR1 hh
 refine Δ (S.n (TC.cutG (α:=(Unit)×((Option Addr)×Nat×(Option Addr)×Nat)) [10,11,77,78,79,80] (fun g=>[(10,.slice g.2.1 ((replicate x0.next.length ([]:T_1)).length) g.2.2.1),(11,.slice g.2.2.2.1 ((replicate x0.next.length false).length) g.2.2.2.2)]) (fun g=>[cq_ b101 x0 a0_0 c0_0 a0_1 c0_1 a0_2 c0_2 a0_3 c0_3,Res.nest 86 3 1 eI_ (.slice a103 (replicate x0.next.length ([]:N_1)).length c104) z120,ε 9 1 eS_ (.slice g.2.1 (replicate x0.next.length ([]:T_1)).length g.2.2.1) (replicate x0.next.length ([]:T_1)),ε 4 1 e1_ (.slice g.2.2.2.1 (replicate x0.next.length false).length g.2.2.2.2) (replicate x0.next.length false)]) (fun g=>σ) (fun g=>El_ x0 l118=some r∧l118.length=(replicate x0.next.length ([]:N_1)).length∧Zn z120 l118) ?_ (fun g j hg=> ?_)))
 ·skip
  obtain ⟨u70,hh⟩:=d6_ hh
  obtain ⟨u72,hh⟩:=d6_ hh
  refine TC.draw [] (by kernel_rfl) (Ψ 0 z (ai_ (.inl z) z) z (Ψ 2 z (ai_ (.inl z) z) z (TA.actN [1,3] (by kernel_rfl) (an z z (a2_ (enc:=eS_) ([]:T_1) z gw_ sz9 by9 ze9 z z z z (by omega) (by decide) es_ (by decide) z pn_ (fun a198 c199=>(k1 ?_))) (an z z (a2_ (enc:=e1_) false z h2_ sz4 by4 ze4 z z z z (by omega) (by decide) em_ (by decide) z fm_ (fun a201 c202=>(k1 ?_))) (True.intro))))))
  ·skip
   refine Ψ 4 z (aj_ (.inr z) z) z (TA.ac 3 z (a2_ (enc:=e1_) false z h2_ sz4 by4 ze4 z z z z (by omega) (by decide) em_ (by decide) z fm_ (fun a204 c205=>(k2 ?_))))
   exact Ψ 5 z (aj_ (.inr z) z) z (TA.dn (S.n (cf ((),(a198,c199,a204,c205)) ⟨hh,hn119,zf121⟩ (δ [1,3,3] 4))))
  skip
  refine TA.ac 1 z (a2_ (enc:=eS_) ([]:T_1) z gw_ sz9 by9 ze9 z z z z (by omega) (by decide) es_ (by decide) z pn_ (fun a207 c208=>(k2 ?_)))
  exact Ψ 4 z (aj_ (.inr z) z) z (Ψ 5 z (aj_ (.inr z) z) z (TA.dn (S.n (cf ((),(a207,c208,a201,c202)) ⟨hh,hn119,zf121⟩ (δ [1,1,3,3] 4)))))
 skip
 obtain ⟨_,⟨a187,c188,a190,c191⟩⟩:=g
 obtain ⟨hh,hn184,zf185⟩:=hg
 try dsimp only at hn184 zf185 ⊢
 dsimp only [El_]at hh
 have zf185b:=zf185.len
 refine TC.know (ef_ (q:=1) z zf185) (fun ⟨_,hb210⟩=> ?_)
 refine η (i:=2) z (fun _ hb211 _=> ?_)
 refine η (i:=3) z (fun _ hb212 _=> ?_)
 refine TC.cutG (α:=(Unit)×((Option Addr)×Nat×(Option Addr)×Nat)) [12,13,81,82,83] (fun g=>[(12,.slice g.2.1 (([]:N_1).length) g.2.2.1),(13,.slice g.2.2.2.1 ((replicate x0.next.length false).length) g.2.2.2.2)]) (fun g=>[cq_ b101 x0 a0_0 c0_0 a0_1 c0_1 a0_2 c0_2 a0_3 c0_3,Res.nest 86 3 1 eI_ (.slice a103 (replicate x0.next.length ([]:N_1)).length c104) z120,rs_ 9 eS_ a187 c188 (replicate x0.next.length ([]:T_1)),rs_ 4 e1_ a190 c191 (replicate x0.next.length false),ε 3 1 eI_ (.slice g.2.1 ([]:N_1).length g.2.2.1) ([]:N_1),ε 4 1 e1_ (.slice g.2.2.2.1 (replicate x0.next.length false).length g.2.2.2.2) (replicate x0.next.length false)]) (fun g=>σ) (fun g=>Dp_ x0 l118=some r∧l118.length=(replicate x0.next.length ([]:N_1)).length∧Zn z120 l118) ?_ (fun g j hg=> ?_)
 ·skip
  obtain ⟨u77,hh⟩:=d6_ hh
  refine TC.draw [] (by kernel_rfl) (Ψ 1 z (ai_ (.inl z) z) z (TA.actN [0,2] (by kernel_rfl) (an z z (lit0 (enc:=eI_) z z e2_ sz3 z z (fun a227 c228=>(k1 ?_))) (an z z (a2_ (enc:=e1_) false z h2_ sz4 by4 ze4 z z z z (by omega) (by decide) em_ (by decide) z fm_ (fun a230 c231=>(k1 ?_))) (True.intro)))))
  ·skip
   refine Ψ 3 z (aj_ (.inr z) z) z (TA.ac 2 z (a2_ (enc:=e1_) false z h2_ sz4 by4 ze4 z z z z (by omega) (by decide) em_ (by decide) z fm_ (fun a233 c234=>(k2 ?_))))
   exact Ψ 4 z (aj_ (.inr z) z) z (TA.dn (S.n (cf ((),(a227,c228,a233,c234)) ⟨hh,hn184,zf185⟩ (δ [1,5,5,5,5] 6))))
  skip
  refine TA.ac 0 z (lit0 (enc:=eI_) z z e2_ sz3 z z (fun a236 c237=>(k2 ?_)))
  exact Ψ 3 z (aj_ (.inr z) z) z (Ψ 4 z (aj_ (.inr z) z) z (TA.dn (S.n (cf ((),(a236,c237,a230,c231)) ⟨hh,hn184,zf185⟩ (δ [1,1,5,5,5,5] 6)))))
 skip
 obtain ⟨_,⟨a216,c217,a219,c220⟩⟩:=g
 obtain ⟨hh,hn213,zf214⟩:=hg
 try dsimp only at hn213 zf214 ⊢
 dsimp only [Dp_]at hh
 have zf214b:=zf214.len
 refine TC.know (ef_ (q:=1) z zf214) (fun ⟨_,hb239⟩=> ?_)
 refine η (i:=2) z (fun _ hb240 _=> ?_)
 refine η (i:=3) z (fun _ hb241 _=> ?_)
 refine η (i:=4) z (fun _ hb242 _=> ?_)
 refine η (i:=5) z (fun _ hb243 _=> ?_)
 refine ν (ξ (ω z (aa_ z gq_ z) (ω z (ab_ z nz_ z (i:=0) z z) (ω z (lenC z h2_ z) (θ z z (κ (υ (TC.ao_ (α:=(N_1×B_1×Nat)×((Option Addr)×Nat)) (rgs [(12,1),(14,2),(87,14)]) (fun g=>[(12,.slice g.2.1 g.1.1.length g.2.2),(87,.int .i64 ((g.1.2.2:Nat):Int))]) (fun g=>[cq_ b101 x0 a0_0 c0_0 a0_1 c0_1 a0_2 c0_2 a0_3 c0_3,Res.nest 86 3 1 eI_ (.slice a103 (replicate x0.next.length ([]:N_1)).length c104) z120,rs_ 9 eS_ a187 c188 (replicate x0.next.length ([]:T_1)),rs_ 4 e1_ a190 c191 (replicate x0.next.length false),ε 3 1 eI_ (.slice g.2.1 g.1.1.length g.2.2) g.1.1,ε 4 1 e1_ (.slice a219 (replicate x0.next.length false).length c220) g.1.2.1]) (fun g=>σ) (fun g=>eq_ (fun q:N_1×B_1×Nat=>A6_ x0 l118 q.1 q.2.1 q.2.2) g.1=some r∧l118.length=(replicate x0.next.length ([]:N_1)).length∧Zn z120 l118∧g.1.2.1.length=(replicate x0.next.length false).length) (fun g=>eh_ (fun q:N_1×B_1×Nat=>A6_ x0 l118 q.1 q.2.1 q.2.2) g.1) ((([]:N_1),(replicate x0.next.length false),0),(a216,c217)) (δ [5,5,5,5,5,5] 6) z (by repeat (first|exact trivial|refine ⟨z,?_⟩)) ⟨hh,hn213,zf214,z⟩ (fun g3 j3 hg3=> ?_)))))))))
 obtain ⟨⟨l264,l267,k269⟩,⟨a265,c266⟩⟩:=g3
 obtain ⟨hh,hn262,zf263,hn268⟩:=hg3
 try dsimp only at hn262 zf263 hn268 ⊢
 obtain ⟨z1,hh,hR1⟩:=eo_ hh
 dsimp only [A6_]at hh
 have zf263b:=zf263.len
 refine TC.know (ef_ (q:=1) z zf263) (fun ⟨_,hb270⟩=> ?_)
 refine η (i:=2) z (fun _ hb271 _=> ?_)
 refine η (i:=3) z (fun _ hb272 _=> ?_)
 refine η (i:=4) z (fun _ hb273 _=> ?_)
 refine η (i:=5) z (fun _ hb274 _=> ?_)
 refine ξ (ω z (OpVal.lss z z z) (κ (ν (TC.cD z hh (fun h275 hh=> ?_) (fun h275 hh=> ?_)))))
 ·refine ι (S.n (TC.cutG (α:=(N_1×B_1)×((Option Addr)×Nat)) (rgs [(12,1),(14,2),(89,11)]) (fun g=>[(12,.slice g.2.1 g.1.1.length g.2.2)]) (fun g=>[cq_ b101 x0 a0_0 c0_0 a0_1 c0_1 a0_2 c0_2 a0_3 c0_3,Res.nest 86 3 1 eI_ (.slice a103 (replicate x0.next.length ([]:N_1)).length c104) z120,rs_ 9 eS_ a187 c188 (replicate x0.next.length ([]:T_1)),rs_ 4 e1_ a190 c191 (replicate x0.next.length false),ε 3 1 eI_ (.slice g.2.1 g.1.1.length g.2.2) g.1.1,ε 4 1 e1_ (.slice a219 (replicate x0.next.length false).length c220) g.1.2]) (fun g=>σ) (fun g=>Dt_ k269 g.1.1 g.1.2=some z1∧l118.length=(replicate x0.next.length ([]:N_1)).length∧Zn z120 l118∧g.1.2.length=(replicate x0.next.length false).length) ?_ (fun g j hg=> ?_)))
  ·skip
   refine υ (ξ (θ z z (ω z (af_ z h2_ sz4 z z f0_2.rv.sl (by omega)) (ω z (al_ false z ag4 z f0_2 (by omega) z) (θ z z (TL.j z z (κ (ξ (TL.j z z (κ (TC.cB z hh (fun h283 hh=> ?_) (fun h283 hh=> ?_))))))))))))
   ·refine π (TL.s z z (θ z z (TL.s z z (θ z z (ζ z (OpOk.lit (enc:=eI_) [(k269:Int)] z e2_ sz3 ze3 z z z ep_ (by decide) (by decide) (0:Int) z (by decide) z (by decide) i2_ (fun a284 c285=> ?_)))))))
    refine ψ 5 z z ?_
    obtain ⟨u96,hh⟩:=d6_ hh
    refine ζ z (av_ z z e2_ sz3 by3 ze3 z z (by decide) z z z (.inr ⟨_,0,z⟩) (by simpa using u96) (by decide) (fun a287 c288=> ?_))
    refine TL.s z z ?_
    obtain ⟨u98,hh⟩:=d6_ hh
    refine TL.isSl (i:=6) z (fun hs289 _ _=> ?_)
    refine ω z (af_ z h2_ sz4 z z hs289 (by omega)) (ψ 6 z z ?_)
    have hn290:(l267.set k269 true).length=(replicate x0.next.length false).length:=by rw [ls_];exact hn268
    refine ζ z (ay_ true z sz4 z z z z em_ fm_ (by omega) (by omega) ?_)
    exact TL.nil (B.n (S.n (cf (((l264++[(k269:Int)]),(l267.set k269 true)),(a287,c288)) ⟨hh,hn262,zf263,hn290⟩ (δ [1,6,6,6,6] 6))))
   exact ι (B.n (S.n (cf ((l264,l267),(a265,c266)) ⟨hh,hn262,zf263,hn268⟩ (δ [5,5,5,5,5,5] 6))))
  skip
  obtain ⟨⟨l278,l281⟩,⟨a279,c280⟩⟩:=g
  obtain ⟨hh,hn276,zf277,hn282⟩:=hg
  try dsimp only at hn276 zf277 hn282 ⊢
  dsimp only [Dt_]at hh
  have zf277b:=zf277.len
  refine TC.know (ef_ (q:=1) z zf277) (fun ⟨_,hb291⟩=> ?_)
  refine η (i:=2) z (fun _ hb292 _=> ?_)
  refine η (i:=3) z (fun _ hb293 _=> ?_)
  refine η (i:=4) z (fun _ hb294 _=> ?_)
  refine η (i:=5) z (fun _ hb295 _=> ?_)
  refine π (ω z (OpVal.succ z z z (by omega)) (θ z z (κ ?_)))
  obtain ⟨hh,hlt296⟩:=ey_ hR1 hh
  exact lf ((l278,l281,(k269+1)),(a279,c280)) hlt296 ⟨hh,hn276,zf277,hn282⟩ (δ [5,5,5,5,5,5] 6)
 refine TC.exit (S.x (S.x ?_))
 replace hh:=el_ hR1 hh
 refine Δ (S.n (ν (υ (TC.front 4 z z (TC.c5_ (TC.ao_ (α:=(T_2×B_1×N_1×B_1)×((Option Addr)×Nat)) (rgs [(12,1),(16,2),(19,1),(101,57)]) (fun g=>[(12,.slice g.2.1 g.1.2.2.1.length g.2.2)]) (fun g=>[cq_ b101 x0 a0_0 c0_0 a0_1 c0_1 a0_2 c0_2 a0_3 c0_3,Res.nest 86 3 1 eI_ (.slice a103 (replicate x0.next.length ([]:N_1)).length c104) z120,ε 9 1 eS_ (.slice a187 (replicate x0.next.length ([]:T_1)).length c188) g.1.1,ε 4 1 e1_ (.slice a190 (replicate x0.next.length false).length c191) g.1.2.1,Res.queS 3 1 eI_ (.slice g.2.1 g.1.2.2.1.length g.2.2) g.1.2.2.1,ε 4 1 e1_ (.slice a219 (replicate x0.next.length false).length c220) g.1.2.2.2]) (fun g=>σ) (fun g=>eq_ (fun q:T_2×B_1×N_1×B_1=>A8_ x0 l118 q.1 q.2.1 q.2.2.1 q.2.2.2) g.1=some r∧l118.length=(replicate x0.next.length ([]:N_1)).length∧Zn z120 l118∧g.1.1.length=(replicate x0.next.length ([]:T_1)).length∧g.1.2.1.length=(replicate x0.next.length false).length∧g.1.2.2.2.length=(replicate x0.next.length false).length) (fun g=>eh_ (fun q:T_2×B_1×N_1×B_1=>A8_ x0 l118 q.1 q.2.1 q.2.2.1 q.2.2.2) g.1) (((replicate x0.next.length ([]:T_1)),(replicate x0.next.length false),l264,l267),(a265,c266)) (δ [5,1,5,5,5,5] 6) z (by repeat (first|exact trivial|refine ⟨z,?_⟩)) ⟨hh,hn262,zf263,z,z,hn268⟩ (fun g4 j4 hg4=> ?_)))))))
 obtain ⟨⟨l324,l326,l328,l331⟩,⟨a329,c330⟩⟩:=g4
 obtain ⟨hh,hn322,zf323,hn325,hn327,hn332⟩:=hg4
 try dsimp only at hn322 zf323 hn325 hn327 hn332 ⊢
 obtain ⟨z1,hh,hR1⟩:=eo_ hh
 dsimp only [A8_]at hh
 have zf323b:=zf323.len
 refine TC.know (ef_ (q:=1) z zf323) (fun ⟨_,hb333⟩=> ?_)
 refine η (i:=2) z (fun _ hb334 _=> ?_)
 refine η (i:=3) z (fun _ hb335 _=> ?_)
 refine η (i:=5) z (fun _ hb336 _=> ?_)
 refine ν (ξ (TL.s z z (ω z (lenC z e2_ z) (ω z (OpVal.gtr z z z) (κ (TC.cD z hh (fun h337 hh=> ?_) (fun h337 hh=> ?_)))))))
 ·refine ι (S.n (υ (ξ (TL.s z z (TL.know (vt_ (q:=4) z) (fun ⟨hs338,hs338b⟩=> ?_))))))
  refine ω z (af_ (i:=0) z e2_ sz3 z z hs338 (by omega)) (ω z (de_ (0:Int) z ag3 z (q:=4) z ep_ (by omega) z) (θ z z (κ (ξ (TL.s z z (θ z z (TL.s z z (ψ 4 z z ?_))))))))
  obtain ⟨u112,hh⟩:=d6_ hh
  refine ζ z (popQ (i:=1) z e2_ sz3 z z z z (by omega) (by omega) (fun a339 c340=> ?_))
  refine TL.s z z ?_
  obtain ⟨u114,hh⟩:=d6_ hh
  refine TL.isSl (i:=5) z (fun hs341 _ _=> ?_)
  refine ω z (OpVal.index z h2_ sz4 z z hs341 u114.1 u114.2) (ψ 5 z z ?_)
  have hn342:(l331.set ((nth l328 0 0).toNat) false).length=(replicate x0.next.length false).length:=by rw [ls_];exact hn332
  refine ζ z (ay_ false z sz4 z z z z em_ fm_ (by omega) (by omega) ?_)
  refine κ (ξ (ω z (ak_ z h1_ fs_ z (i:=2) z z) (θ z z (TL.s z z (TL.s z z ?_)))))
  obtain ⟨v120,u120,hh⟩:=eb_ hh
  refine ψ 5 z z (ψ 5 z z ?_)
  rw [show Value.slice a187 ((replicate x0.next.length ([]:T_1)).length) c188=Value.slice a187 l324.length c188 from by rw [hn325]]
  rw [show Value.slice a190 ((replicate x0.next.length false).length) c191=Value.slice a190 l326.length c191 from by rw [hn327]]
  refine ζ z (b2_ (Con.lend es_ (fun _ hle345 hr343=>Con.lend em_ (fun _ hle346 hr344=>Hw_ (x0:=x0) ((f0_0.mono hle345).mono hle346) ((f0_1.mono hle345).mono hle346) ((f0_2.mono hle345).mono hle346) ((f0_3.mono hle345).mono hle346) (hr343.mono hle346) hr344 u120))) z z pf111 z z z z ?_)
  rw [show Value.slice a187 l324.length c188=Value.slice a187 ((replicate x0.next.length ([]:T_1)).length) c188 from by rw [hn325]]
  rw [show Value.slice a190 l326.length c191=Value.slice a190 ((replicate x0.next.length false).length) c191 from by rw [hn327]]
  refine ω z (ad_ (.inr z) z) (κ (TC.cutG (α:=(Unit)×(Unit)) (rgs [(117,12)]) (fun g=>[]) (fun g=>[cq_ b101 x0 a0_0 c0_0 a0_1 c0_1 a0_2 c0_2 a0_3 c0_3,Res.nest 86 3 1 eI_ (.slice a103 (replicate x0.next.length ([]:N_1)).length c104) z120,ε 9 1 eS_ (.slice a187 (replicate x0.next.length ([]:T_1)).length c188) l324,ε 4 1 e1_ (.slice a190 (replicate x0.next.length false).length c191) l326,Res.queS 3 1 eI_ (.slice a339 (l328.drop 1).length c340) (l328.drop 1),ε 4 1 e1_ (.slice a219 (replicate x0.next.length false).length c220) (l331.set ((nth l328 0 0).toNat) false)]) (fun g=>σ) (fun g=>Cw_ l328 l324 l326 l118 v120 l331=some z1∧l118.length=(replicate x0.next.length ([]:N_1)).length∧Zn z120 l118∧l324.length=(replicate x0.next.length ([]:T_1)).length∧l326.length=(replicate x0.next.length false).length∧(l331.set ((nth l328 0 0).toNat) false).length=(replicate x0.next.length false).length) ?_ (fun g j hg=> ?_)))
  ·skip
   refine ξ (TL.s z z (θ z z ?_))
   obtain ⟨u124,hh⟩:=d6_ hh
   refine TL.isSl (i:=1) z (fun hs352 _ _=> ?_)
   refine ω z (OpVal.index z h2_ sz4 z z hs352 u124.1 u124.2) (ω z (a4_ false z ag4 z (q:=1) z em_ (by omega) z) (TL.j z z (TL.split 121 z (fun h353=> ?_) (fun h353=> ?_))))
   ·replace hh:=ej_ h353 hh
    refine TL.g z (ad_ (.inl z) z) (TL.g z (aj_ (.inl z) z) (TL.g z (ai_ (.inl z) z) ?_))
    obtain ⟨u130,hh⟩:=d6_ hh
    refine TL.isSl (i:=0) z (fun hs354 _ _=> ?_)
    refine TL.g z (OpVal.index z gw_ sz9 z z hs354 u130.1 u130.2) (TL.g z (a4_ ([]:T_1) z ag9 z (q:=0) z es_ (by omega) z) (TL.g z (dm_ z z z) (ω z (ah_ z z z) (κ (TC.cD z hh (fun h355 hh=> ?_) (fun h355 hh=> ?_))))))
    ·refine TC.exit (S.x (Δ (S.n ?_)))
     obtain ⟨hh,hlt356⟩:=ey_ hR1 hh
     exact lf ((l324,l326,(l328.drop 1),(l331.set ((nth l328 0 0).toNat) false)),(a339,c340)) hlt356 ⟨hh,hn322,zf323,hn325,hn327,hn342⟩ (δ [2,3,3,3,5,5] 6)
    exact ι (S.n (cf ((),()) ⟨hh,hn322,zf323,hn325,hn327,hn342⟩ (δ [2,3,3,3,5,5] 6)))
   replace hh:=ei_ h353 hh
   exact χ z (χ z (χ z (χ z (χ z (χ z (ω z (ag_ z z z) (κ (TC.f z (ι (S.n (cf ((),()) ⟨hh,hn322,zf323,hn325,hn327,hn342⟩ (δ [2,3,3,3,5,5] 6))))))))))))
  skip
  obtain ⟨_,_⟩:=g
  obtain ⟨hh,hn347,zf348,hn349,hn350,hn351⟩:=hg
  try dsimp only at hn347 zf348 hn349 hn350 hn351 ⊢
  dsimp only [Cw_]at hh
  have zf348b:=zf348.len
  refine TC.know (ef_ (q:=1) z zf348) (fun ⟨_,hb357⟩=> ?_)
  refine η (i:=2) z (fun _ hb358 _=> ?_)
  refine η (i:=3) z (fun _ hb359 _=> ?_)
  refine η (i:=5) z (fun _ hb360 _=> ?_)
  refine ξ (TL.s z z (θ z z (TL.s z z (θ z z (ω z (ad_ (.inl z) z) ?_)))))
  obtain ⟨u139,hh⟩:=d6_ hh
  refine TL.isSl (i:=2) z (fun hs361 _ _=> ?_)
  refine ω z (OpVal.index z gw_ sz9 z z hs361 u139.1 u139.2) (ψ 2 z z ?_)
  have hn362:(l324.set ((nth l328 0 0).toNat) v120).length=(replicate x0.next.length ([]:T_1)).length:=by rw [ls_];exact hn349
  refine ζ z (ay_ v120 z sz9 z z z z es_ pn_ (by omega) (by omega) ?_)
  obtain ⟨u141,hh⟩:=d6_ hh
  refine TL.isSl (i:=3) z (fun hs363 _ _=> ?_)
  refine ω z (OpVal.index z h2_ sz4 z z hs363 u141.1 u141.2) (ψ 3 z z ?_)
  have hn364:(l326.set ((nth l328 0 0).toNat) true).length=(replicate x0.next.length false).length:=by rw [ls_];exact hn350
  refine ζ z (ay_ true z sz4 z z z z em_ fm_ (by omega) (by omega) ?_)
  refine κ (ξ (TL.s z z (θ z z ?_)))
  obtain ⟨u145,hh⟩:=d6_ hh
  refine TL.know (ef_ (q:=3) z zf348) (fun ⟨hs365,hs365b⟩=> ?_)
  refine ω z (OpVal.index z fn_ fp_ z z hs365 u145.1 u145.2) ?_
  obtain ⟨p366,hz366,hm366⟩:=Zn.at zf348 (i:=(nth l328 0 0).toNat) (by omega)
  refine ω z (bh_ z jx_ z (q:=3) z hz366 hm366) (ω z (lenC z e2_ z) (θ z z (κ (υ (TC.ao_ (α:=(N_1×B_1×Nat)×((Option Addr)×Nat)) (rgs [(12,1),(19,1),(141,17)]) (fun g=>[(12,.slice g.2.1 g.1.1.length g.2.2),(141,.int .i64 ((g.1.2.2:Nat):Int))]) (fun g=>[cq_ b101 x0 a0_0 c0_0 a0_1 c0_1 a0_2 c0_2 a0_3 c0_3,Res.nest 86 3 1 eI_ (.slice a103 (replicate x0.next.length ([]:N_1)).length c104) z120,ε 9 1 eS_ (.slice a187 (replicate x0.next.length ([]:T_1)).length c188) (l324.set ((nth l328 0 0).toNat) v120),ε 4 1 e1_ (.slice a190 (replicate x0.next.length false).length c191) (l326.set ((nth l328 0 0).toNat) true),Res.queS 3 1 eI_ (.slice g.2.1 g.1.1.length g.2.2) g.1.1,ε 4 1 e1_ (.slice a219 (replicate x0.next.length false).length c220) g.1.2.1]) (fun g=>σ) (fun g=>eq_ (fun q:N_1×B_1×Nat=>Av_ l118 l328 l324 v120 l326 q.1 q.2.1 q.2.2) g.1=some z1∧l118.length=(replicate x0.next.length ([]:N_1)).length∧Zn z120 l118∧(l324.set ((nth l328 0 0).toNat) v120).length=(replicate x0.next.length ([]:T_1)).length∧(l326.set ((nth l328 0 0).toNat) true).length=(replicate x0.next.length false).length∧g.1.2.1.length=(replicate x0.next.length false).length) (fun g=>eh_ (fun q:N_1×B_1×Nat=>Av_ l118 l328 l324 v120 l326 q.1 q.2.1 q.2.2) g.1) (((l328.drop 1),(l331.set ((nth l328 0 0).toNat) false),0),(a339,c340)) (δ [5,5,2,3,5,5] 6) z (by repeat (first|exact trivial|refine ⟨z,?_⟩)) ⟨hh,hn347,zf348,hn362,hn364,hn351⟩ (fun g5 j5 hg5=> ?_))))))
  obtain ⟨⟨l396,l399,k401⟩,⟨a397,c398⟩⟩:=g5
  obtain ⟨hh,hn392,zf393,hn394,hn395,hn400⟩:=hg5
  try dsimp only at hn392 zf393 hn394 hn395 hn400 ⊢
  obtain ⟨z2,hh,hR2⟩:=eo_ hh
  dsimp only [Av_]at hh
  have zf393b:=zf393.len
  refine TC.know (ef_ (q:=1) z zf393) (fun ⟨_,hb402⟩=> ?_)
  refine η (i:=2) z (fun _ hb403 _=> ?_)
  refine η (i:=3) z (fun _ hb404 _=> ?_)
  refine η (i:=5) z (fun _ hb405 _=> ?_)
  refine ξ (ω z (OpVal.lss z z z) (κ (ν (TC.cD z hh (fun h406 hh=> ?_) (fun h406 hh=> ?_)))))
  ·refine ι (S.n (TC.cutG (α:=(N_1×B_1)×((Option Addr)×Nat)) (rgs [(12,1),(19,1),(143,14)]) (fun g=>[(12,.slice g.2.1 g.1.1.length g.2.2)]) (fun g=>[cq_ b101 x0 a0_0 c0_0 a0_1 c0_1 a0_2 c0_2 a0_3 c0_3,Res.nest 86 3 1 eI_ (.slice a103 (replicate x0.next.length ([]:N_1)).length c104) z120,ε 9 1 eS_ (.slice a187 (replicate x0.next.length ([]:T_1)).length c188) (l324.set ((nth l328 0 0).toNat) v120),ε 4 1 e1_ (.slice a190 (replicate x0.next.length false).length c191) (l326.set ((nth l328 0 0).toNat) true),Res.queS 3 1 eI_ (.slice g.2.1 g.1.1.length g.2.2) g.1.1,ε 4 1 e1_ (.slice a219 (replicate x0.next.length false).length c220) g.1.2]) (fun g=>σ) (fun g=>Dw_ k401 g.1.1 g.1.2=some z2∧l118.length=(replicate x0.next.length ([]:N_1)).length∧Zn z120 l118∧(l324.set ((nth l328 0 0).toNat) v120).length=(replicate x0.next.length ([]:T_1)).length∧(l326.set ((nth l328 0 0).toNat) true).length=(replicate x0.next.length false).length∧g.1.2.length=(replicate x0.next.length false).length) ?_ (fun g j hg=> ?_)))
   ·skip
    refine υ (ξ (TL.know (qu_ (q:=1) z hz366 hm366) (fun ⟨hs416,hs416b⟩=> ?_)))
    refine ω z (af_ z e2_ sz3 z z hs416 (by omega)) (ω z (OpVal.seen (l8_ (q:=1) z hz366 hm366) (a4_ (0:Int) z ag3 z (q:=0) z ep_ (by omega) z)) (θ z z (κ (ξ (TL.s z z (θ z z ?_))))))
    obtain ⟨u155,hh⟩:=d6_ hh
    refine TL.isSl (i:=5) z (fun hs417 _ _=> ?_)
    refine ω z (OpVal.index z h2_ sz4 z z hs417 u155.1 u155.2) (ω z (a4_ false z ag4 z (q:=5) z em_ (by omega) z) (ω z (OpVal.not z z) (κ (TC.cB z hh (fun h418 hh=> ?_) (fun h418 hh=> ?_)))))
    ·refine π (TL.s z z (θ z z (TL.s z z (θ z z (ζ z (OpOk.lit (enc:=eI_) [(nth (nth l118 ((nth l328 0 0).toNat) []) k401 0)] z e2_ sz3 ze3 z z z ep_ (by decide) (by decide) (0:Int) z (by decide) z (by decide) i2_ (fun a419 c420=> ?_)))))))
     refine ψ 5 z z ?_
     obtain ⟨u163,hh⟩:=d6_ hh
     refine ζ z (cw_ z z e2_ sz3 by3 ze3 z z (by decide) z ep_ z z (.inr ⟨_,0,z⟩) (by simpa using u163) (by decide) (by simp) (fun a422 c423=> ?_))
     refine TL.s z z ?_
     obtain ⟨u165,hh⟩:=d6_ hh
     refine TL.isSl (i:=6) z (fun hs424 _ _=> ?_)
     refine ω z (OpVal.index z h2_ sz4 z z hs424 u165.1 u165.2) (ψ 6 z z ?_)
     have hn425:(l399.set ((nth (nth l118 ((nth l328 0 0).toNat) []) k401 0).toNat) true).length=(replicate x0.next.length false).length:=by rw [ls_];exact hn400
     refine ζ z (ay_ true z sz4 z z z z em_ fm_ (by omega) (by omega) ?_)
     exact TL.nil (B.n (S.n (cf (((l396++[(nth (nth l118 ((nth l328 0 0).toNat) []) k401 0)]),(l399.set ((nth (nth l118 ((nth l328 0 0).toNat) []) k401 0).toNat) true)),(a422,c423)) ⟨hh,hn392,zf393,hn394,hn395,hn425⟩ (δ [1,6,6,6,6] 6))))
    exact ι (B.n (S.n (cf ((l396,l399),(a397,c398)) ⟨hh,hn392,zf393,hn394,hn395,hn400⟩ (δ [5,5,5,5,5,5] 6))))
   skip
   obtain ⟨⟨l411,l414⟩,⟨a412,c413⟩⟩:=g
   obtain ⟨hh,hn407,zf408,hn409,hn410,hn415⟩:=hg
   try dsimp only at hn407 zf408 hn409 hn410 hn415 ⊢
   dsimp only [Dw_]at hh
   have zf408b:=zf408.len
   refine TC.know (ef_ (q:=1) z zf408) (fun ⟨_,hb426⟩=> ?_)
   refine η (i:=2) z (fun _ hb427 _=> ?_)
   refine η (i:=3) z (fun _ hb428 _=> ?_)
   refine η (i:=5) z (fun _ hb429 _=> ?_)
   refine π ?_
   obtain ⟨u167,hh⟩:=d6_ hh
   refine ω z (OpVal.succ z z z (by omega)) (θ z z (κ ?_))
   obtain ⟨hh,hlt430⟩:=ey_ hR2 hh
   exact lf ((l411,l414,(k401+1)),(a412,c413)) hlt430 ⟨hh,hn407,zf408,hn409,hn410,hn415⟩ (δ [5,5,5,5,5,5] 6)
  refine TC.exit (S.x (S.x ?_))
  replace hh:=el_ hR2 hh
  refine Δ (B.n (S.n ?_))
  obtain ⟨hh,hlt431⟩:=ey_ hR1 hh
  exact lf (((l324.set ((nth l328 0 0).toNat) v120),(l326.set ((nth l328 0 0).toNat) true),l396,l399),(a397,c398)) hlt431 ⟨hh,hn392,zf393,hn394,hn395,hn400⟩ (δ [5,5,5,5,5,5] 6)
 refine TC.exit (S.x (S.x ?_))
 replace hh:=el_ hR1 hh
 refine Δ (S.n (ξ (TL.s z z (TL.s z z (TL.s z z (TL.s z z (κ ?_)))))))
 rw [show Value.slice a187 ((replicate x0.next.length ([]:T_1)).length) c188=Value.slice a187 l324.length c188 from by rw [hn325]]
 rw [show Value.slice a190 ((replicate x0.next.length false).length) c191=Value.slice a190 l326.length c191 from by rw [hn327]]
 refine TC.front 2 z z (TC.a3_ es_ (fun τ434 hle433 hr432=> ?_))
 have hr432b:=hr432.rv.big
 refine TC.front 2 z z (TC.a3_ em_ (fun τ437 hle436 hr435=> ?_))
 replace hr432:=hr432.mono hle436
 have hr435b:=hr435.rv.big
 refine TC.rt 0 ?_
 obtain rfl:=so hh
 exact rq [2,3] ⟨a187,c188,a190,c191,z,hr432,hr435,z⟩
def Co_(k152:Nat)(l155:B_1)(l157:N_1):Option ((B_1×N_1×Nat)⊕((B_1×N_1)⊕(B_1))):=
 nxt (l155,l157,(k152+1))
def Aq_(x0:Seq)(l125:N_1)(l147:B_1)(l149:N_1)(k152:Nat):Option ((B_1×N_1×Nat)⊕((B_1×N_1)⊕(B_1))):=
 ec_ (decide ((k152:Int)<(((nth x0.next ((nth l125 0 0).toNat) []).length:Nat):Int))) (ec_ (decide (0≤(nth (nth x0.next ((nth l125 0 0).toNat) []) k152 0))) (grd (0≤(nth (nth x0.next ((nth l125 0 0).toNat) []) k152 0)∧(nth (nth x0.next ((nth l125 0 0).toNat) []) k152 0)<(l147.length:Int)) (ec_ (!(nth l147 ((nth (nth x0.next ((nth l125 0 0).toNat) []) k152 0).toNat) false)) (grd (0≤(nth (nth x0.next ((nth l125 0 0).toNat) []) k152 0)∧(nth (nth x0.next ((nth l125 0 0).toNat) []) k152 0)<(l147.length:Int)) (grd ((l149.length+[(nth (nth x0.next ((nth l125 0 0).toNat) []) k152 0)].length) * 8≤140737488355328) (Co_ k152 (l147.set ((nth (nth x0.next ((nth l125 0 0).toNat) []) k152 0).toNat) true) (l149++[(nth (nth x0.next ((nth l125 0 0).toNat) []) k152 0)])))) (Co_ k152 l147 l149))) (Co_ k152 l147 l149)) (fin (nxt (l147,l149)))
def Bb_(x0:Seq)(l123:B_1)(l125:N_1):Option ((B_1×N_1)⊕(B_1)):=
 ec_ (decide (0<((l125.length:Nat):Int))) (grd (0<l125.length∧1≤l125.length) (grd (0≤(nth l125 0 0)∧(nth l125 0 0)<(x0.next.length:Int)) (eq_ (fun q:B_1×N_1×Nat=>Aq_ x0 l125 q.1 q.2.1 q.2.2) (l123,(l125.drop 1),0)))) (fin (some l123))
def Ej_(x0:Seq):Option (B_1):=
 grd (1 * x0.next.length≤281474976710656) (ec_ (decide ((((replicate x0.next.length false).length:Nat):Int)=0)) (some (replicate x0.next.length false)) (grd (0<(replicate x0.next.length false).length) (eq_ (fun q:B_1×N_1=>Bb_ x0 q.1 q.2) (((replicate x0.next.length false).set 0 true),[0]))))
def Ho_(σ:d0_)(r:B_1):Value→d0_→List Res→Prop:=fun v σ' H'=>
 ∃a1 c1,v= .slice a1 r.length c1∧σ=σ'∧H'=[rs_ 4 e1_ a1 c1 r]
theorem Hb_{σ:d0_}{x0:Seq}(f0_0:RZ σ (ea_ 1 eI_ ep_) (.slice a0_0 x0.next.length c0_0) x0.next)(f0_1:RZ σ (ea_ 1 eS_ es_) (.slice a0_1 x0.outs.length c0_1) x0.outs)(f0_2:rS_ σ e1_ a0_2 c0_2 x0.fin)(f0_3:rS_ σ eS_ a0_3 c0_3 x0.tail){r:B_1}(hh:Ej_ x0=some r):
  Con prog 72 #[.agg (aq_ x0 a0_0 c0_0 a0_1 c0_1 a0_2 c0_2 a0_3 c0_3)] σ [] (Ho_ σ r):=by
 dsimp only [Ej_]at hh
 have f0_0b:=f0_0.big
 have f0_1b:=f0_1.big
 have f0_2b:=f0_2.rv.big
 have f0_3b:=f0_3.rv.big
 refine Con.mk (n:=55) Tryz.func72 z z z (fun w0=> ?_)
 refine ξ (ζ z (boxA z z z z (fun b101=> ?_)))
 refine TL.s z z (κ (ξ (ω z (aa_ z e8_ z) (ω z (ab_ z i0_ z (i:=0) z z) (ω z (lenC z fn_ z) ?_)))))
 obtain ⟨u6,hh⟩:=d6_ hh
 refine ζ z (a2_ (enc:=e1_) false z h2_ sz4 by4 ze4 z z z z (by omega) (by decide) em_ (by decide) z fm_ (fun a103 c104=> ?_))
 refine TL.s z z (κ (ν (ξ (TL.s z z (ω z (lenC z h2_ z) (ω z (OpVal.eql z z z) (κ (TC.cD z hh (fun h106 hh=> ?_) (fun h106 hh=> ?_)))))))))
 ·refine ξ (TL.s z z (TL.s z z (κ (TC.rt 1 (S.r ?_)))))
  obtain rfl:=so hh
  exact ro [rs_ 4 e1_ a103 c104 (replicate x0.next.length false)] z (RVs.tmp z RVs.nil) ⟨a103,c104,z,z,z⟩
 refine ι (S.n (ξ (ζ z (OpOk.lit (enc:=eI_) [0] z e2_ sz3 ze3 z z z ep_ (by decide) (by decide) (0:Int) z (by decide) z (by decide) i2_ (fun a107 c108=> ?_)))))
 refine TL.s z z (κ (ξ (TL.s z z ?_)))
 obtain ⟨u16,hh⟩:=d6_ hh
 refine TL.isSl (i:=1) z (fun hs110 _ _=> ?_)
 refine ω z (af_ (i:=0) z h2_ sz4 z z hs110 (by omega)) (ψ 1 z z ?_)
 have hn111:((replicate x0.next.length false).set 0 true).length=(replicate x0.next.length false).length:=by rw [ls_]
 refine ζ z (ay_ true z sz4 z z z z em_ fm_ (by omega) (by omega) ?_)
 refine κ (ν (υ (TC.front 1 z z (TC.c5_ (TC.ao_ (α:=(B_1×N_1)×((Option Addr)×Nat)) (rgs [(4,2),(7,1),(19,35)]) (fun g=>[(4,.slice g.2.1 g.1.2.length g.2.2)]) (fun g=>[cq_ b101 x0 a0_0 c0_0 a0_1 c0_1 a0_2 c0_2 a0_3 c0_3,ε 4 1 e1_ (.slice a103 (replicate x0.next.length false).length c104) g.1.1,Res.queS 3 1 eI_ (.slice g.2.1 g.1.2.length g.2.2) g.1.2]) (fun g=>σ) (fun g=>eq_ (fun q:B_1×N_1=>Bb_ x0 q.1 q.2) g.1=some r∧g.1.1.length=(replicate x0.next.length false).length) (fun g=>eh_ (fun q:B_1×N_1=>Bb_ x0 q.1 q.2) g.1) ((((replicate x0.next.length false).set 0 true),[0]),(a107,c108)) (δ [1,2] 3) z (by repeat (first|exact trivial|refine ⟨z,?_⟩)) ⟨hh,hn111⟩ (fun g1 j1 hg1=> ?_))))))
 obtain ⟨⟨l123,l125⟩,⟨a126,c127⟩⟩:=g1
 obtain ⟨hh,hn124⟩:=hg1
 try dsimp only at hn124 ⊢
 obtain ⟨z1,hh,hR1⟩:=eo_ hh
 dsimp only [Bb_]at hh
 refine η (i:=1) z (fun _ hb128 _=> ?_)
 refine ν (ξ (TL.s z z (ω z (lenC z e2_ z) (ω z (OpVal.gtr z z z) (κ (TC.cD z hh (fun h129 hh=> ?_) (fun h129 hh=> ?_)))))))
 ·refine ι (S.n (υ (ξ (TL.s z z (TL.know (vt_ (q:=2) z) (fun ⟨hs130,hs130b⟩=> ?_))))))
  refine ω z (af_ (i:=0) z e2_ sz3 z z hs130 (by omega)) (ω z (de_ (0:Int) z ag3 z (q:=2) z ep_ (by omega) z) (θ z z (κ (ξ (TL.s z z (ψ 2 z z ?_))))))
  obtain ⟨u26,hh⟩:=d6_ hh
  refine ζ z (popQ (i:=1) z e2_ sz3 z z z z (by omega) (by omega) (fun a131 c132=> ?_))
  refine TL.s z z (κ (ξ (ω z (aa_ z e8_ z) (ω z (ab_ z i0_ z (i:=1) z z) (θ z z ?_)))))
  obtain ⟨u31,hh⟩:=d6_ hh
  refine ω z (OpVal.index z fn_ fp_ z z f0_0.isSl u31.1 u31.2) ?_
  obtain ⟨p133,hk133,hg133⟩:=RZ.seg f0_0 ((nth l125 0 0).toNat) (by omega)
  replace hk133:rS_ _ eI_ p133.1 p133.2 (nth x0.next ((nth l125 0 0).toNat) []):=hk133
  have hk133b:=hk133.rv.big
  refine ω z (OpVal.of (as_ z jx_ z hg133 z) (v':= .slice p133.1 ((nth x0.next ((nth l125 0 0).toNat) []).length) p133.2) z) (ω z (lenC z e2_ z) (θ z z (κ (υ (TC.ao_ (α:=(B_1×N_1×Nat)×((Option Addr)×Nat)) (rgs [(4,1),(7,1),(33,21)]) (fun g=>[(4,.slice g.2.1 g.1.2.1.length g.2.2),(33,.int .i64 ((g.1.2.2:Nat):Int))]) (fun g=>[cq_ b101 x0 a0_0 c0_0 a0_1 c0_1 a0_2 c0_2 a0_3 c0_3,ε 4 1 e1_ (.slice a103 (replicate x0.next.length false).length c104) g.1.1,Res.queS 3 1 eI_ (.slice g.2.1 g.1.2.1.length g.2.2) g.1.2.1]) (fun g=>σ) (fun g=>eq_ (fun q:B_1×N_1×Nat=>Aq_ x0 l125 q.1 q.2.1 q.2.2) g.1=some z1∧g.1.1.length=(replicate x0.next.length false).length) (fun g=>eh_ (fun q:B_1×N_1×Nat=>Aq_ x0 l125 q.1 q.2.1 q.2.2) g.1) ((l123,(l125.drop 1),0),(a131,c132)) (δ [2,2] 3) z (by repeat (first|exact trivial|refine ⟨z,?_⟩)) ⟨hh,hn124⟩ (fun g2 j2 hg2=> ?_))))))
  obtain ⟨⟨l147,l149,k152⟩,⟨a150,c151⟩⟩:=g2
  obtain ⟨hh,hn148⟩:=hg2
  try dsimp only at hn148 ⊢
  obtain ⟨z2,hh,hR2⟩:=eo_ hh
  dsimp only [Aq_]at hh
  refine η (i:=1) z (fun _ hb153 _=> ?_)
  refine ξ (ω z (OpVal.lss z z z) (κ (ν (TC.cD z hh (fun h154 hh=> ?_) (fun h154 hh=> ?_)))))
  ·refine ι (S.n (TC.cutG (α:=(B_1×N_1)×((Option Addr)×Nat)) (rgs [(4,1),(7,1),(35,18)]) (fun g=>[(4,.slice g.2.1 g.1.2.length g.2.2)]) (fun g=>[cq_ b101 x0 a0_0 c0_0 a0_1 c0_1 a0_2 c0_2 a0_3 c0_3,ε 4 1 e1_ (.slice a103 (replicate x0.next.length false).length c104) g.1.1,Res.queS 3 1 eI_ (.slice g.2.1 g.1.2.length g.2.2) g.1.2]) (fun g=>σ) (fun g=>Co_ k152 g.1.1 g.1.2=some z2∧g.1.1.length=(replicate x0.next.length false).length) ?_ (fun g j hg=> ?_)))
   ·skip
    refine υ (ξ (ω z (af_ z e2_ sz3 z z hk133.rv.sl (by omega)) (ω z (al_ (0:Int) z ag3 z hk133 (by omega) z) (θ z z (κ (ξ (θ z z (ω z (OpVal.geq z z z) (TL.j z z (TL.split 39 z (fun h160=> ?_) (fun h160=> ?_)))))))))))
    ·replace hh:=ej_ h160 hh
     replace h160:=dt_ h160
     refine TL.g z (aj_ (.inl z) z) (TL.g z (ai_ (.inl z) z) ?_)
     obtain ⟨u44,hh⟩:=d6_ hh
     refine TL.isSl (i:=1) z (fun hs161 _ _=> ?_)
     refine TL.g z (OpVal.index z h2_ sz4 z z hs161 u44.1 u44.2) (TL.g z (a4_ false z ag4 z (q:=1) z em_ (by omega) z) (TL.g z (OpVal.not z z) (ω z (ah_ z z z) (κ (TC.cB z hh (fun h162 hh=> ?_) (fun h162 hh=> ?_))))))
     ·refine ξ (TL.s z z (θ z z ?_))
      obtain ⟨u50,hh⟩:=d6_ hh
      refine TL.isSl (i:=1) z (fun hs163 _ _=> ?_)
      refine ω z (OpVal.index z h2_ sz4 z z hs163 u50.1 u50.2) (ψ 1 z z ?_)
      have hn164:(l147.set ((nth (nth x0.next ((nth l125 0 0).toNat) []) k152 0).toNat) true).length=(replicate x0.next.length false).length:=by rw [ls_];exact hn148
      refine ζ z (ay_ true z sz4 z z z z em_ fm_ (by omega) (by omega) ?_)
      refine κ (π (TL.s z z (θ z z (ζ z (OpOk.lit (enc:=eI_) [(nth (nth x0.next ((nth l125 0 0).toNat) []) k152 0)] z e2_ sz3 ze3 z z z ep_ (by decide) (by decide) (0:Int) z (by decide) z (by decide) i2_ (fun a165 c166=> ?_))))))
      refine ψ 3 z z ?_
      obtain ⟨u55,hh⟩:=d6_ hh
      refine ζ z (cw_ z z e2_ sz3 by3 ze3 z z (by decide) z ep_ z z (.inr ⟨_,0,z⟩) (by simpa using u55) (by decide) (by simp) (fun a168 c169=> ?_))
      exact TL.s z z (TL.nil (B.n (S.n (cf (((l147.set ((nth (nth x0.next ((nth l125 0 0).toNat) []) k152 0).toNat) true),(l149++[(nth (nth x0.next ((nth l125 0 0).toNat) []) k152 0)])),(a168,c169)) ⟨hh,hn164⟩ (δ [2,3] 3)))))
     exact ι (B.n (S.n (cf ((l147,l149),(a150,c151)) ⟨hh,hn148⟩ (δ [2,2,2] 3))))
    replace hh:=ei_ h160 hh
    replace h160:=df_ h160
    exact χ z (χ z (χ z (χ z (χ z (ω z (ag_ z z z) (κ (TC.f z (ι (B.n (S.n (cf ((l147,l149),(a150,c151)) ⟨hh,hn148⟩ (δ [2,2,2] 3))))))))))))
   skip
   obtain ⟨⟨l155,l157⟩,⟨a158,c159⟩⟩:=g
   obtain ⟨hh,hn156⟩:=hg
   try dsimp only at hn156 ⊢
   dsimp only [Co_]at hh
   refine η (i:=1) z (fun _ hb170 _=> ?_)
   refine π (ω z (OpVal.succ z z z (by omega)) (θ z z (κ ?_)))
   obtain ⟨hh,hlt171⟩:=ey_ hR2 hh
   exact lf ((l155,l157,(k152+1)),(a158,c159)) hlt171 ⟨hh,hn156⟩ (δ [2,2,2] 3)
  refine TC.exit (S.x (S.x ?_))
  replace hh:=el_ hR2 hh
  refine Δ (B.n (S.n ?_))
  obtain ⟨hh,hlt172⟩:=ey_ hR1 hh
  exact lf ((l147,l149),(a150,c151)) hlt172 ⟨hh,hn148⟩ (δ [2,2,2] 3)
 refine TC.exit (S.x (S.x ?_))
 replace hh:=el_ hR1 hh
 refine Δ (S.n (ξ (TL.s z z (TL.s z z (κ ?_)))))
 rw [←hn124]
 refine TC.ax_ (δ [1] 1) (TC.ret ?_)
 obtain rfl:=so hh
 exact ro [rs_ 4 e1_ a103 c104 l123] z (RVs.tmp z RVs.nil) ⟨a103,c104,z,z,z⟩
def Cx_(k144:Nat)(l148:N_1)(l150:T_2):Option ((N_1×T_2×Nat)⊕(N_1×T_2×Bool)):=
 nxt (l148,l150,(k144+1))
def Aw_(x0:Seq)(x1:Int)(x3:N_1)(x2:T_2)(l140:N_1)(l142:T_2)(k144:Nat):Option ((N_1×T_2×Nat)⊕(N_1×T_2×Bool)):=
 ec_ (decide ((k144:Int)<(((nth x0.next x1.toNat []).length:Nat):Int))) (grd (k144<l140.length) (ec_ (decide ((nth (nth x0.next x1.toNat []) k144 0)<0)) (Cx_ k144 (l140.set k144 (-1)) l142) (grd (0≤(nth (nth x0.next x1.toNat []) k144 0)∧(nth (nth x0.next x1.toNat []) k144 0)<(x3.length:Int)) (ec_ (decide ((nth x3 ((nth (nth x0.next x1.toNat []) k144 0).toNat) 0)<0)) (Cx_ k144 (l140.set k144 (-1)) l142) (grd (0≤(nth (nth x0.next x1.toNat []) k144 0)∧(nth (nth x0.next x1.toNat []) k144 0)<(x3.length:Int)) (grd (k144<(l140.set k144 (-1)).length) (grd (0≤x1∧x1<(x0.outs.length:Int)) (grd (k144<(nth x0.outs x1.toNat []).length) (grd (0≤(nth (nth x0.next x1.toNat []) k144 0)∧(nth (nth x0.next x1.toNat []) k144 0)<(x2.length:Int)) (grd (0≤x1∧x1<(x2.length:Int)) (ec_ (decide (4096<(IntKind.i64.wrap ((IntKind.i64.wrap ((((nth (nth x0.outs x1.toNat []) k144 []).length:Nat):Int)+(((nth x2 ((nth (nth x0.next x1.toNat []) k144 0).toNat) []).length:Nat):Int))) - (((nth x2 x1.toNat []).length:Nat):Int))))) (fin (some (([]:N_1),([]:T_2),false))) (grd (0≤x1∧x1<(x0.outs.length:Int)) (grd (k144<(nth x0.outs x1.toNat []).length) (grd (0≤(nth (nth x0.next x1.toNat []) k144 0)∧(nth (nth x0.next x1.toNat []) k144 0)<(x2.length:Int)) (grd ((nth (nth x0.outs x1.toNat []) k144 []).length+(nth x2 ((nth (nth x0.next x1.toNat []) k144 0).toNat) []).length≤9223372036854775807) (grd (0≤x1∧x1<(x2.length:Int)) (grd ((nth x2 x1.toNat []).length≤((nth (nth x0.outs x1.toNat []) k144 [])++(nth x2 ((nth (nth x0.next x1.toNat []) k144 0).toNat) [])).length∧((nth (nth x0.outs x1.toNat []) k144 [])++(nth x2 ((nth (nth x0.next x1.toNat []) k144 0).toNat) [])).length≤((nth (nth x0.outs x1.toNat []) k144 [])++(nth x2 ((nth (nth x0.next x1.toNat []) k144 0).toNat) [])).length) (grd (k144<l142.length) (Cx_ k144 ((l140.set k144 (-1)).set k144 (nth x3 ((nth (nth x0.next x1.toNat []) k144 0).toNat) 0)) (l142.set k144 (((nth (nth x0.outs x1.toNat []) k144 [])++(nth x2 ((nth (nth x0.next x1.toNat []) k144 0).toNat) [])).drop ((nth x2 x1.toNat []).length)))))))))))))))))))))) (fin (some (l140,l142,true)))
def Em_(x1:Int)(x0:Seq)(x3:N_1)(x2:T_2):Option (N_1×T_2×Bool):=
 grd (0≤x1∧x1<(x0.next.length:Int)) (eq_ (fun q:N_1×T_2×Nat=>Aw_ x0 x1 x3 x2 q.1 q.2.1 q.2.2) ((replicate 256 (0:Int)),(replicate 256 ([]:T_1)),0))
def Eu_(x0:Seq)(x1:Int)(x2:T_2)(x3:N_1):Option (N_1×T_2×Bool):=
 Em_ x1 x0 x3 x2
def Hz_(σ:d0_)(r:N_1×T_2×Bool):Value→d0_→List Res→Prop:=fun v σ' H'=>
 ∃a1 c1 a2 c2,v= .tuple #[.slice a1 r.1.length c1,.slice a2 r.2.1.length c2,.bool r.2.2]∧rS_ σ' eI_ a1 c1 r.1∧rS_ σ' eS_ a2 c2 r.2.1∧H'=[]
theorem Hl_{σ:d0_}{x0:Seq}{x1:Int}{x2:T_2}{x3:N_1}(f0_0:RZ σ (ea_ 1 eI_ ep_) (.slice a0_0 x0.next.length c0_0) x0.next)(f0_1:RZ σ (ea_ 1 eS_ es_) (.slice a0_1 x0.outs.length c0_1) x0.outs)(f0_2:rS_ σ e1_ a0_2 c0_2 x0.fin)(f0_3:rS_ σ eS_ a0_3 c0_3 x0.tail)(f2_0:rS_ σ eS_ a2_0 c2_0 x2)(f3_0:rS_ σ eI_ a3_0 c3_0 x3){r:N_1×T_2×Bool}(hh:Eu_ x0 x1 x2 x3=some r):
  Con prog 73 #[.agg (aq_ x0 a0_0 c0_0 a0_1 c0_1 a0_2 c0_2 a0_3 c0_3),.int .i64 x1,.slice a2_0 x2.length c2_0,.slice a3_0 x3.length c3_0] σ [] (Hz_ σ r):=by
 dsimp only [Eu_]at hh
 have f0_0b:=f0_0.big
 have f0_1b:=f0_1.big
 have f0_2b:=f0_2.rv.big
 have f0_3b:=f0_3.rv.big
 have f2_0b:=f2_0.rv.big
 have f3_0b:=f3_0.rv.big
 refine Con.mk (n:=94) Tryz.func73 z z z (fun w0=> ?_)
 refine ξ (ζ z (boxA z z z z (fun b101=> ?_)))
 refine TL.s z z (TL.s z z (TL.j z z (κ (TC.cutG (α:=(Unit)×((Option Addr)×Nat×(Option Addr)×Nat)) [11,12,15,16] (fun g=>[(11,.slice g.2.1 ((replicate 256 (0:Int)).length) g.2.2.1),(12,.slice g.2.2.2.1 ((replicate 256 ([]:T_1)).length) g.2.2.2.2)]) (fun g=>[cq_ b101 x0 a0_0 c0_0 a0_1 c0_1 a0_2 c0_2 a0_3 c0_3,ε 3 1 eI_ (.slice g.2.1 (replicate 256 (0:Int)).length g.2.2.1) (replicate 256 (0:Int)),ε 9 1 eS_ (.slice g.2.2.2.1 (replicate 256 ([]:T_1)).length g.2.2.2.2) (replicate 256 ([]:T_1))]) (fun g=>σ) (fun g=>Em_ x1 x0 x3 x2=some r) ?_ (fun g j hg=> ?_)))))
 ·skip
  refine TC.draw [] (by kernel_rfl) (TA.actN [0,1] (by kernel_rfl) (an z z (a2_ (m:=256) (enc:=eI_) (0:Int) z e2_ sz3 by3 ze3 z z z z (by omega) (by decide) ep_ (by decide) z i2_ (fun a115 c116=>(k1 ?_))) (an z z (a2_ (m:=256) (enc:=eS_) ([]:T_1) z gw_ sz9 by9 ze9 z z z z (by omega) (by decide) es_ (by decide) z pn_ (fun a118 c119=>(k1 ?_))) (True.intro))))
  ·skip
   refine Ψ 2 z (aj_ (.inr z) z) z (TA.ac 1 z (a2_ (m:=256) (enc:=eS_) ([]:T_1) z gw_ sz9 by9 ze9 z z z z (by omega) (by decide) es_ (by decide) z pn_ (fun a121 c122=>(k2 ?_))))
   exact Ψ 3 z (aj_ (.inr z) z) z (TA.dn (S.n (cf ((),(a115,c116,a121,c122)) hh (δ [1,2] 3))))
  skip
  refine TA.ac 0 z (a2_ (m:=256) (enc:=eI_) (0:Int) z e2_ sz3 by3 ze3 z z z z (by omega) (by decide) ep_ (by decide) z i2_ (fun a124 c125=>(k2 ?_)))
  exact Ψ 2 z (aj_ (.inr z) z) z (Ψ 3 z (aj_ (.inr z) z) z (TA.dn (S.n (cf ((),(a124,c125,a118,c119)) hh (δ [1,1,2] 3)))))
 skip
 obtain ⟨_,⟨a104,c105,a107,c108⟩⟩:=g
 have hh:=hg;clear hg
 try dsimp only
 dsimp only [Em_]at hh
 refine η (i:=1) z (fun _ hb127 _=> ?_)
 refine η (i:=2) z (fun _ hb128 _=> ?_)
 refine ν (ξ (ω z (aa_ z e8_ z) (ω z (ab_ z i0_ z (i:=0) z z) (θ z z ?_))))
 obtain ⟨u12,hh⟩:=d6_ hh
 refine ω z (OpVal.index z fn_ fp_ z z f0_0.isSl u12.1 u12.2) ?_
 obtain ⟨p129,hk129,hg129⟩:=RZ.seg f0_0 x1.toNat (by omega)
 replace hk129:rS_ _ eI_ p129.1 p129.2 (nth x0.next x1.toNat []):=hk129
 have hk129b:=hk129.rv.big
 refine ω z (OpVal.of (as_ z jx_ z hg129 z) (v':= .slice p129.1 ((nth x0.next x1.toNat []).length) p129.2) z) (ω z (lenC z e2_ z) (θ z z (κ (υ (TC.ao_ (α:=(N_1×T_2×Nat)×(Unit)) (rgs [(8,3),(13,2),(23,69)]) (fun g=>[(23,.int .i64 ((g.1.2.2:Nat):Int))]) (fun g=>[cq_ b101 x0 a0_0 c0_0 a0_1 c0_1 a0_2 c0_2 a0_3 c0_3,ε 3 1 eI_ (.slice a104 (replicate 256 (0:Int)).length c105) g.1.1,ε 9 1 eS_ (.slice a107 (replicate 256 ([]:T_1)).length c108) g.1.2.1]) (fun g=>σ) (fun g=>eq_ (fun q:N_1×T_2×Nat=>Aw_ x0 x1 x3 x2 q.1 q.2.1 q.2.2) g.1=some r∧g.1.1.length=(replicate 256 (0:Int)).length∧g.1.2.1.length=(replicate 256 ([]:T_1)).length) (fun g=>eh_ (fun q:N_1×T_2×Nat=>Aw_ x0 x1 x3 x2 q.1 q.2.1 q.2.2) g.1) (((replicate 256 (0:Int)),(replicate 256 ([]:T_1)),0),()) (δ [2,2,2] 3) z (by repeat (first|exact trivial|refine ⟨z,?_⟩)) ⟨hh,z,z⟩ (fun g1 j1 hg1=> ?_))))))
 obtain ⟨⟨l140,l142,k144⟩,_⟩:=g1
 obtain ⟨hh,hn141,hn143⟩:=hg1
 try dsimp only at hn141 hn143 ⊢
 obtain ⟨z1,hh,hR1⟩:=eo_ hh
 dsimp only [Aw_]at hh
 refine η (i:=1) z (fun _ hb145 _=> ?_)
 refine η (i:=2) z (fun _ hb146 _=> ?_)
 refine ξ (ω z (OpVal.lss z z z) (κ (ν (TC.cD z hh (fun h147 hh=> ?_) (fun h147 hh=> ?_)))))
 ·refine ι (S.n (TC.cutG (α:=(N_1×T_2)×(Unit)) (rgs [(8,3),(13,2),(25,66)]) (fun g=>[]) (fun g=>[cq_ b101 x0 a0_0 c0_0 a0_1 c0_1 a0_2 c0_2 a0_3 c0_3,ε 3 1 eI_ (.slice a104 (replicate 256 (0:Int)).length c105) g.1.1,ε 9 1 eS_ (.slice a107 (replicate 256 ([]:T_1)).length c108) g.1.2]) (fun g=>σ) (fun g=>Cx_ k144 g.1.1 g.1.2=some z1∧g.1.1.length=(replicate 256 (0:Int)).length∧g.1.2.length=(replicate 256 ([]:T_1)).length) ?_ (fun g j hg=> ?_)))
  ·skip
   refine υ (ξ (θ z z (ω z (af_ z e2_ sz3 z z hk129.rv.sl (by omega)) (ω z (al_ (0:Int) z ag3 z hk129 (by omega) z) (θ z z (θ z z (κ (ξ (TL.s z z (θ z z ?_))))))))))
   obtain ⟨u24,hh⟩:=d6_ hh
   refine TL.isSl (i:=1) z (fun hs152 _ _=> ?_)
   refine ω z (af_ z e2_ sz3 z z hs152 (by omega)) (ψ 1 z z ?_)
   have hn153:(l140.set k144 (-1)).length=(replicate 256 (0:Int)).length:=by rw [ls_];exact hn141
   refine ζ z (ay_ (-1) z sz3 z z z z ep_ i2_ (by omega) (by omega) ?_)
   refine κ (ν (ξ (θ z z (ω z (OpVal.lss z z z) (TL.j z z (TL.split 33 z (fun h154=> ?_) (fun h154=> ?_)))))))
   ·replace hh:=ej_ h154 hh
    replace h154:=dt_ h154
    exact χ z (χ z (χ z (χ z (χ z (ω z (ah_ z z z) (κ (TC.t z (TC.exit (S.x (Δ (S.n (cf (((l140.set k144 (-1)),l142),()) ⟨hh,hn153,hn143⟩ (δ [2,1,2] 3)))))))))))))
   replace hh:=ei_ h154 hh
   replace h154:=df_ h154
   refine TL.g z (aj_ (.inl z) z) (TL.g z (ai_ (.inl z) z) ?_)
   obtain ⟨u31,hh⟩:=d6_ hh
   refine TL.g z (OpVal.index z e2_ sz3 z z f3_0.rv.sl u31.1 u31.2) (TL.g z (al_ (0:Int) z ag3 z f3_0 (by omega) z) (TL.g z (OpVal.lss z z z) (ω z (ag_ z z z) (κ (TC.cD z hh (fun h155 hh=> ?_) (fun h155 hh=> ?_))))))
   ·exact TC.exit (S.x (Δ (S.n (cf (((l140.set k144 (-1)),l142),()) ⟨hh,hn153,hn143⟩ (δ [2,1,2] 3)))))
   refine ι (S.n (ξ (TL.s z z (θ z z (TL.s z z (θ z z ?_))))))
   obtain ⟨u39,hh⟩:=d6_ hh
   refine ω z (OpVal.index z e2_ sz3 z z f3_0.rv.sl u39.1 u39.2) (ω z (al_ (0:Int) z ag3 z f3_0 (by omega) z) ?_)
   obtain ⟨u41,hh⟩:=d6_ hh
   refine TL.isSl (i:=0) z (fun hs156 _ _=> ?_)
   refine ω z (af_ z e2_ sz3 z z hs156 (by omega)) ?_
   have hn157:((l140.set k144 (-1)).set k144 (nth x3 ((nth (nth x0.next x1.toNat []) k144 0).toNat) 0)).length=(replicate 256 (0:Int)).length:=by rw [ls_];exact hn153
   refine ζ z (ay_ (nth x3 ((nth (nth x0.next x1.toNat []) k144 0).toNat) 0) z sz3 z z z z ep_ i2_ (by omega) (by omega) ?_)
   refine κ (ν (ν ?_))
   obtain ⟨u46,hh⟩:=d6_ hh
   obtain ⟨u49,hh⟩:=d6_ hh
   obtain ⟨u54,hh⟩:=d6_ hh
   obtain ⟨u60,hh⟩:=d6_ hh
   refine TC.draw [] (by kernel_rfl) (Ψ 0 z (aa_ z fy_ z) z (TA.b 1 z (ab_ z m4_ z (i:=1) z z) z (Ψ 2 z (ai_ (.inl z) z) z (TA.b 3 z (OpVal.index z l4_ kn_ z z f0_1.isSl u46.1 u46.2) z ?_))))
   obtain ⟨p159,hk159,hg159⟩:=RZ.seg f0_1 x1.toNat (by omega)
   replace hk159:rS_ _ eS_ p159.1 p159.2 (nth x0.outs x1.toNat []):=hk159
   have hk159b:=hk159.rv.big
   refine TA.b 4 z (OpVal.of (as_ z kv_ z hg159 z) (v':= .slice p159.1 ((nth x0.outs x1.toNat []).length) p159.2) z) z (Ψ 5 z (ai_ (.inl z) z) z (TA.b 6 z (af_ z gw_ sz9 z z hk159.rv.sl (by omega)) z (TA.b 7 z (al_ ([]:T_1) z ag9 z hk159 (by omega) z) z (TA.b 8 z (a5_ z u9_ z) z (Ψ 9 z (aj_ (.inl z) z) z (Ψ 10 z (ai_ (.inl z) z) z (TA.b 11 z (OpVal.index z gw_ sz9 z z f2_0.rv.sl u54.1 u54.2) z (TA.b 12 z (al_ ([]:T_1) z ag9 z f2_0 (by omega) z) z (TA.b 13 z (a5_ z u9_ z) z (Ψ 14 z (addW z z z) z (Ψ 15 z (aj_ (.inl z) z) z (Ψ 16 z (ai_ (.inl z) z) z (TA.b 17 z (OpVal.index z gw_ sz9 z z f2_0.rv.sl u60.1 u60.2) z (TA.b 18 z (al_ ([]:T_1) z ag9 z f2_0 (by omega) z) z (TA.b 19 z (a5_ z u9_ z) z ?_)))))))))))))))
   refine Ψ 20 z (subW z z z) z (Ψ 21 z (OpVal.gtr z z z) z (TA.dn (S.n (TC.cD z hh (fun h160 hh=> ?_) (fun h160 hh=> ?_)))))
   ·refine ξ (TL.s z z (TL.s z z (TL.j z z (κ (TC.rt 0 (S.r (B.r (S.r (S.r ?_)))))))))
    replace hh:=el_ hR1 hh
    refine B.r (S.r ?_)
    obtain rfl:=so hh
    exact rq [8,9,10] ⟨none,0,none,0,z,(RS.nilF _ eI_ ep_),(RS.nilF _ eS_ es_),z⟩
   refine ι (S.n ?_)
   obtain ⟨u73,hh⟩:=d6_ hh
   obtain ⟨u76,hh⟩:=d6_ hh
   obtain ⟨u80,hh⟩:=d6_ hh
   obtain ⟨u82,hh⟩:=d6_ hh
   obtain ⟨u85,hh⟩:=d6_ hh
   obtain ⟨u88,hh⟩:=d6_ hh
   obtain ⟨u89,hh⟩:=d6_ hh
   refine TC.draw [22] (by kernel_rfl) (Ψ 0 z (aj_ (.inl z) z) z (Ψ 1 z (ai_ (.inl z) z) z (Ψ 2 z (aa_ z fy_ z) z (TA.b 3 z (ab_ z m4_ z (i:=1) z z) z (Ψ 4 z (ai_ (.inl z) z) z (TA.b 5 z (OpVal.index z l4_ kn_ z z f0_1.isSl u73.1 u73.2) z ?_))))))
   obtain ⟨p164,hk164,hg164⟩:=RZ.seg f0_1 x1.toNat (by omega)
   replace hk164:rS_ _ eS_ p164.1 p164.2 (nth x0.outs x1.toNat []):=hk164
   have hk164b:=hk164.rv.big
   refine TA.b 6 z (OpVal.of (as_ z kv_ z hg164 z) (v':= .slice p164.1 ((nth x0.outs x1.toNat []).length) p164.2) z) z (Ψ 7 z (ai_ (.inl z) z) z (TA.b 8 z (af_ z gw_ sz9 z z hk164.rv.sl (by omega)) z (TA.b 9 z (al_ ([]:T_1) z ag9 z hk164 (by omega) z) z (Ψ 10 z (aj_ (.inl z) z) z (Ψ 11 z (ai_ (.inl z) z) z (TA.b 12 z (OpVal.index z gw_ sz9 z z f2_0.rv.sl u80.1 u80.2) z (TA.b 13 z (al_ ([]:T_1) z ag9 z f2_0 (by omega) z) z (Ψ 14 z (cl_ z z z u82) z (Ψ 15 z (aj_ (.inl z) z) z (Ψ 16 z (ai_ (.inl z) z) z (TA.b 17 z (OpVal.index z gw_ sz9 z z f2_0.rv.sl u85.1 u85.2) z (TA.b 18 z (al_ ([]:T_1) z ag9 z f2_0 (by omega) z) z (TA.b 19 z (a5_ z u9_ z) z (TA.b 20 z (bw_ (l:=((nth (nth x0.outs x1.toNat []) k144 [])++(nth x2 ((nth (nth x0.next x1.toNat []) k144 0).toNat) []))) (i:=(nth x2 x1.toNat []).length) z u9_ z z (by omega) (by omega)) z (TA.isSl (i:=2) z (fun hs165 _ _=> ?_))))))))))))))))
   refine TA.b 21 z (af_ z gw_ sz9 z z hs165 (by omega)) z (TA.front 2 z z ?_)
   have hn166:(l142.set k144 (((nth (nth x0.outs x1.toNat []) k144 [])++(nth x2 ((nth (nth x0.next x1.toNat []) k144 0).toNat) [])).drop ((nth x2 x1.toNat []).length))).length=(replicate 256 ([]:T_1)).length:=by rw [ls_];exact hn143
   refine TA.last 22 (by kernel_rfl) z z z (ay_ (((nth (nth x0.outs x1.toNat []) k144 [])++(nth x2 ((nth (nth x0.next x1.toNat []) k144 0).toNat) [])).drop ((nth x2 x1.toNat []).length)) z sz9 z z z z es_ pn_ (by omega) (by omega) ?_)
   exact TZ.done (by kernel_rfl) (B.n (S.n (cf ((((l140.set k144 (-1)).set k144 (nth x3 ((nth (nth x0.next x1.toNat []) k144 0).toNat) 0)),(l142.set k144 (((nth (nth x0.outs x1.toNat []) k144 [])++(nth x2 ((nth (nth x0.next x1.toNat []) k144 0).toNat) [])).drop ((nth x2 x1.toNat []).length)))),()) ⟨hh,hn157,hn166⟩ (δ [1,2] 3))))
  skip
  obtain ⟨⟨l148,l150⟩,_⟩:=g
  obtain ⟨hh,hn149,hn151⟩:=hg
  try dsimp only at hn149 hn151 ⊢
  dsimp only [Cx_]at hh
  refine η (i:=1) z (fun _ hb167 _=> ?_)
  refine η (i:=2) z (fun _ hb168 _=> ?_)
  refine π (ω z (OpVal.succ z z z (by omega)) (θ z z (κ ?_)))
  obtain ⟨hh,hlt169⟩:=ey_ hR1 hh
  exact lf ((l148,l150,(k144+1)),()) hlt169 ⟨hh,hn149,hn151⟩ (δ [2,2,2] 3)
 refine TC.exit (S.x (S.x ?_))
 replace hh:=el_ hR1 hh
 refine Δ (S.n (ξ (TL.s z z (TL.s z z (TL.s z z (TL.s z z (TL.j z z (κ ?_))))))))
 rw [←hn141]
 rw [←hn143]
 refine TC.front 1 z z (TC.a3_ ep_ (fun τ172 hle171 hr170=> ?_))
 have hr170b:=hr170.rv.big
 refine TC.front 1 z z (TC.a3_ es_ (fun τ175 hle174 hr173=> ?_))
 replace hr170:=hr170.mono hle174
 have hr173b:=hr173.rv.big
 refine TC.rt 0 ?_
 obtain rfl:=so hh
 exact rq [8,9,10] ⟨a104,c105,a107,c108,z,hr170,hr173,z⟩
def Dm_(k125:Nat)(l129:N_1)(k131:Nat):Option ((N_1×Nat×Nat)⊕(Seq×Int)):=
 nxt (l129,k131,(k125+1))
def Do_(k212:Nat)(l229:N_2)(l234:T_3)(l239:B_1)(l242:T_2):Option ((N_2×T_3×B_1×T_2×Nat)⊕(Seq×Int)):=
 nxt (l229,l234,l239,l242,(k212+1))
def Dr_(l193:N_2)(v89:N_1×T_2×Bool)(l199:T_3)(k212:Nat)(x0:Seq)(l205:B_1)(l209:T_2)(s250:T_1):Option ((N_2×T_3×B_1×T_2×Nat)⊕(Seq×Int)):=
 grd ((l193.length+[v89.1].length) * 24≤140737488355328) (grd ((l199.length+[v89.2.1].length) * 24≤140737488355328) (grd (k212<x0.fin.length) (grd ((l205.length+[(nth x0.fin k212 false)].length) * 1≤140737488355328) (grd ((l209.length+[s250].length) * 16≤140737488355328) (Do_ k212 (l193++[v89.1]) (l199++[v89.2.1]) (l205++[(nth x0.fin k212 false)]) (l209++[s250]))))))
def A3_(v11:T_2×B_1)(l122:N_1)(x0:Seq)(l193:N_2)(l199:T_3)(l205:B_1)(l209:T_2)(k212:Nat):Option ((N_2×T_3×B_1×T_2×Nat)⊕(Seq×Int)):=
 ec_ (decide ((k212:Int)<(((replicate v11.2.length (0:Int)).length:Nat):Int))) (grd (k212<l122.length) (ec_ (decide ((nth l122 k212 0)<0)) (Do_ k212 l193 l199 l205 l209) (bnd (Eu_ x0 (k212:Int) v11.1 l122) (fun v89=>ec_ (!v89.2.2) (fin (some ((⟨([]:T_1),([]:N_2),([]:T_3),([]:B_1),([]:T_2)⟩:Seq),2))) (grd (k212<x0.fin.length) (ec_ (nth x0.fin k212 false) (grd (k212<x0.tail.length) (grd (k212<v11.1.length) (grd ((nth v11.1 k212 []).length≤(nth x0.tail k212 []).length∧(nth x0.tail k212 []).length≤(nth x0.tail k212 []).length) (Dr_ l193 v89 l199 k212 x0 l205 l209 ((nth x0.tail k212 []).drop ((nth v11.1 k212 []).length)))))) (Dr_ l193 v89 l199 k212 x0 l205 l209 ([]:T_1)))))))) (fin (bnd (Dc_ (⟨(x0.front++(nth v11.1 0 [])),l193,l199,l205,l209⟩:Seq)) (fun v155=>ec_ (decide (v155≠0)) (some ((⟨([]:T_1),([]:N_2),([]:T_3),([]:B_1),([]:T_2)⟩:Seq),2)) (some ((⟨(x0.front++(nth v11.1 0 [])),l193,l199,l205,l209⟩:Seq),0)))))
def B1_(v35:B_1)(v11:T_2×B_1)(x0:Seq)(l122:N_1)(k124:Nat)(k125:Nat):Option ((N_1×Nat×Nat)⊕(Seq×Int)):=
 ec_ (decide ((k125:Int)<((v35.length:Nat):Int))) (grd (k125<l122.length) (ec_ (nth v35 k125 false) (grd (k125<v11.2.length) (ec_ (nth v11.2 k125 false) (grd (k125<(l122.set k125 (-1)).length) (grd (k124+1≤9223372036854775807) (Dm_ k125 ((l122.set k125 (-1)).set k125 (k124:Int)) (k124+1)))) (Dm_ k125 (l122.set k125 (-1)) k124))) (Dm_ k125 (l122.set k125 (-1)) k124))) (fin (grd (0<v11.1.length) (grd (x0.front.length+(nth v11.1 0 []).length≤9223372036854775807) (eq_ (fun q:N_2×T_3×B_1×T_2×Nat=>A3_ v11 l122 x0 q.1 q.2.1 q.2.2.1 q.2.2.2.1 q.2.2.2.2) (([]:N_2),([]:T_3),([]:B_1),([]:T_2),0)))))
def E1_(x0:Seq):Option (Seq×Int):=
 bnd (Dc_ x0) (fun v5=>ec_ (decide (v5≠0)) (some ((⟨([]:T_1),([]:N_2),([]:T_3),([]:B_1),([]:T_2)⟩:Seq),1)) (bnd (Er_ x0) (fun v11=>ec_ (decide (((v11.2.length:Nat):Int)=0)) (some ((⟨([]:T_1),([]:N_2),([]:T_3),([]:B_1),([]:T_2)⟩:Seq),0)) (grd (0<v11.2.length) (ec_ (!(nth v11.2 0 false)) (some ((⟨([]:T_1),([]:N_2),([]:T_3),([]:B_1),([]:T_2)⟩:Seq),0)) (grd (8 * v11.2.length≤281474976710656) (bnd (Ej_ x0) (fun v35=>eq_ (fun q:N_1×Nat×Nat=>B1_ v35 v11 x0 q.1 q.2.1 q.2.2) ((replicate v11.2.length (0:Int)),0,0)))))))))
def If_(σ:d0_)(r:Seq×Int):Value→d0_→List Res→Prop:=fun v σ' H'=>
 ∃a1 c1 a2 c2 a3 c3 a4 c4,v= .tuple #[.agg (aq_ r.1 a1 c1 a2 c2 a3 c3 a4 c4),.int .i64 r.2]∧RZ σ' (ea_ 1 eI_ ep_) (.slice a1 r.1.next.length c1) r.1.next∧RZ σ' (ea_ 1 eS_ es_) (.slice a2 r.1.outs.length c2) r.1.outs∧rS_ σ' e1_ a3 c3 r.1.fin∧rS_ σ' eS_ a4 c4 r.1.tail∧H'=[]
theorem H0_{σ:d0_}{x0:Seq}(f0_0:RZ σ (ea_ 1 eI_ ep_) (.slice a0_0 x0.next.length c0_0) x0.next)(f0_1:RZ σ (ea_ 1 eS_ es_) (.slice a0_1 x0.outs.length c0_1) x0.outs)(f0_2:rS_ σ e1_ a0_2 c0_2 x0.fin)(f0_3:rS_ σ eS_ a0_3 c0_3 x0.tail){r:Seq×Int}(hh:E1_ x0=some r):
  Con prog 35 #[.agg (aq_ x0 a0_0 c0_0 a0_1 c0_1 a0_2 c0_2 a0_3 c0_3)] σ [] (If_ σ r):=by
 dsimp only [E1_]at hh
 have f0_0b:=f0_0.big
 have f0_1b:=f0_1.big
 have f0_2b:=f0_2.rv.big
 have f0_3b:=f0_3.rv.big
 refine Con.mk (n:=142) Tryz.func35 z z z (fun w0=> ?_)
 refine ξ (ζ z (boxA z z z z (fun b101=> ?_)))
 refine ζ z (OpOk.alloc z ju_ z z (fun b103=> ?_))
 refine θ z z (κ (ν (ξ (ω z (ak_ z h1_ fs_ z (i:=1) z z) ?_))))
 obtain ⟨v5,u5,hh⟩:=eb_ hh
 refine ζ z (aw_ (Ev_ (x0:=x0) f0_0 f0_1 f0_2 f0_3 u5) z z pf23 z z z ?_)
 refine ω z (OpVal.neq z z z) (κ (TC.cD z hh (fun h105 hh=> ?_) (fun h105 hh=> ?_)))
 ·refine ξ (ω z (an_ z q5_ ju_ z) (ζ z (storeAll z fs_ z z z z z z ?_)))
  refine θ z z (κ (TC.rt 1 (S.r ?_)))
  obtain rfl:=so hh
  exact ro [] z (RVs.agg h1_ fs_ z (i:=0) z z (RVs.tmp z RVs.nil)) ⟨none,0,none,0,none,0,none,0,z,(RZ.nilF _ (ea_ 1 eI_ ep_)),(RZ.nilF _ (ea_ 1 eS_ es_)),(RS.nilF _ e1_ em_),(RS.nilF _ eS_ es_),z⟩
 refine ι (S.n (ξ (ω z (ak_ z h1_ fs_ z (i:=1) z z) ?_)))
 obtain ⟨v11,u11,hh⟩:=eb_ hh
 refine ζ z (OpOk.call (Hg_ (x0:=x0) f0_0 f0_1 f0_2 f0_3 u11) z z pf70 z z z z ?_)
 rintro _ τ106 _ hle106 ⟨a106_1,c106_1,a106_2,c106_2,rfl,hr106_0,hr106_1,rfl⟩
 replace f0_0:=f0_0.mono hle106
 replace f0_1:=f0_1.mono hle106
 replace f0_2:=f0_2.mono hle106
 replace f0_3:=f0_3.mono hle106
 have hr106_0b:=hr106_0.rv.big
 have hr106_1b:=hr106_1.rv.big
 refine ω z (a8_ (.inl z) z) (ω z (OpVal.extract z z z) (ω z (OpVal.extract z z z) (TL.s z z (TL.s z z (κ (ν (ξ (TL.s z z (ω z (lenC z h2_ z) (ω z (OpVal.eql z z z) (TL.j z z (TL.split 28 z (fun h107=> ?_) (fun h107=> ?_)))))))))))))
 ·replace hh:=ej_ h107 hh
  replace h107:=dt_ h107
  refine χ z (χ z (χ z (χ z (ω z (ah_ z z z) (κ (TC.t z (ξ (ω z (an_ z q5_ ju_ z) (ζ z (storeAll z fs_ z z z z z z ?_))))))))))
  refine θ z z (κ (TC.rt 1 (S.r ?_)))
  obtain rfl:=so hh
  exact ro [] z (RVs.agg h1_ fs_ z (i:=0) z z (RVs.tmp z RVs.nil)) ⟨none,0,none,0,none,0,none,0,z,(RZ.nilF _ (ea_ 1 eI_ ep_)),(RZ.nilF _ (ea_ 1 eS_ es_)),(RS.nilF _ e1_ em_),(RS.nilF _ eS_ es_),z⟩
 replace hh:=ei_ h107 hh
 replace h107:=df_ h107
 refine TL.g z (aj_ (.inl z) z) ?_
 obtain ⟨u22,hh⟩:=d6_ hh
 refine TL.g z (af_ (i:=0) z h2_ sz4 z z hr106_1.rv.sl (by omega)) (TL.g z (al_ false z ag4 z hr106_1 (by omega) z) (TL.g z (OpVal.not z z) (ω z (ag_ z z z) (κ (TC.cB z hh (fun h108 hh=> ?_) (fun h108 hh=> ?_))))))
 ·refine ξ (ω z (an_ z q5_ ju_ z) (ζ z (storeAll z fs_ z z z z z z ?_)))
  refine θ z z (κ (TC.rt 1 (S.r ?_)))
  obtain rfl:=so hh
  exact ro [] z (RVs.agg h1_ fs_ z (i:=0) z z (RVs.tmp z RVs.nil)) ⟨none,0,none,0,none,0,none,0,z,(RZ.nilF _ (ea_ 1 eI_ ep_)),(RZ.nilF _ (ea_ 1 eS_ es_)),(RS.nilF _ e1_ em_),(RS.nilF _ eS_ es_),z⟩
 refine ι (S.n (ξ (TL.s z z (ω z (lenC z h2_ z) ?_))))
 obtain ⟨u31,hh⟩:=d6_ hh
 refine ζ z (a2_ (enc:=eI_) (0:Int) z e2_ sz3 by3 ze3 z z z z (by omega) (by decide) ep_ (by decide) z i2_ (fun a109 c110=> ?_))
 refine TL.s z z (θ z z (κ (ν (ξ (ω z (ak_ z h1_ fs_ z (i:=2) z z) ?_)))))
 obtain ⟨v35,u35,hh⟩:=eb_ hh
 refine ζ z (OpOk.call (Hb_ (x0:=x0) f0_0 f0_1 f0_2 f0_3 u35) z z pf72 z z z z ?_)
 rintro _ _ _ hle112 ⟨a112_1,c112_1,rfl,rfl,rfl⟩
 refine ω z (lenC z h2_ z) (θ z z (κ (υ (TC.ao_ (α:=(N_1×Nat×Nat)×(Unit)) (rgs [(7,3),(41,22)]) (fun g=>[(7,.int .i64 ((g.1.2.1:Nat):Int)),(41,.int .i64 ((g.1.2.2:Nat):Int))]) (fun g=>[cq_ b101 x0 a0_0 c0_0 a0_1 c0_1 a0_2 c0_2 a0_3 c0_3,φ b103 #[.string (bs ([]:T_1)),nl_,nl_,nl_,nl_] 32,ε 3 1 eI_ (.slice a109 (replicate v11.2.length (0:Int)).length c110) g.1.1,rs_ 4 e1_ a112_1 c112_1 v35]) (fun g=>τ106) (fun g=>eq_ (fun q:N_1×Nat×Nat=>B1_ v35 v11 x0 q.1 q.2.1 q.2.2) g.1=some r∧g.1.1.length=(replicate v11.2.length (0:Int)).length) (fun g=>eh_ (fun q:N_1×Nat×Nat=>B1_ v35 v11 x0 q.1 q.2.1 q.2.2) g.1) (((replicate v11.2.length (0:Int)),0,0),()) (δ [1,2,3] 4) z (by repeat (first|exact trivial|refine ⟨z,?_⟩)) ⟨hh,z⟩ (fun g1 j1 hg1=> ?_)))))
 obtain ⟨⟨l122,k124,k125⟩,_⟩:=g1
 obtain ⟨hh,hn123⟩:=hg1
 try dsimp only at hn123 ⊢
 obtain ⟨z1,hh,hR1⟩:=eo_ hh
 dsimp only [B1_]at hh
 refine η (i:=2) z (fun _ hb126 _=> ?_)
 refine η (i:=3) z (fun _ hb127 _=> ?_)
 refine ξ (ω z (OpVal.lss z z z) (κ (ν (TC.cD z hh (fun h128 hh=> ?_) (fun h128 hh=> ?_)))))
 ·refine ι (S.n (TC.cutG (α:=(N_1×Nat)×(Unit)) (rgs [(7,3),(43,19)]) (fun g=>[(7,.int .i64 ((g.1.2:Nat):Int))]) (fun g=>[cq_ b101 x0 a0_0 c0_0 a0_1 c0_1 a0_2 c0_2 a0_3 c0_3,φ b103 #[.string (bs ([]:T_1)),nl_,nl_,nl_,nl_] 32,ε 3 1 eI_ (.slice a109 (replicate v11.2.length (0:Int)).length c110) g.1.1,rs_ 4 e1_ a112_1 c112_1 v35]) (fun g=>τ106) (fun g=>Dm_ k125 g.1.1 g.1.2=some z1∧g.1.1.length=(replicate v11.2.length (0:Int)).length) ?_ (fun g j hg=> ?_)))
  ·skip
   refine υ (ξ (θ z z (TL.isSl (i:=3) z (fun hs132 _ _=> ?_))))
   refine ω z (af_ z h2_ sz4 z z hs132 (by omega)) (ω z (a4_ false z ag4 z (q:=3) z em_ (by omega) z) (θ z z (TL.j z z (κ (ξ (TL.s z z (θ z z ?_)))))))
   obtain ⟨u46,hh⟩:=d6_ hh
   refine TL.isSl (i:=2) z (fun hs133 _ _=> ?_)
   refine ω z (af_ z e2_ sz3 z z hs133 (by omega)) (ψ 2 z z ?_)
   have hn134:(l122.set k125 (-1)).length=(replicate v11.2.length (0:Int)).length:=by rw [ls_];exact hn123
   refine ζ z (ay_ (-1) z sz3 z z z z ep_ i2_ (by omega) (by omega) ?_)
   refine κ (ξ (TL.j z z (TL.j z z (TL.split 50 z (fun h135=> ?_) (fun h135=> ?_)))))
   ·replace hh:=ej_ h135 hh
    refine TL.g z (aj_ (.inl z) z) (TL.g z (ai_ (.inl z) z) ?_)
    obtain ⟨u52,hh⟩:=d6_ hh
    refine TL.g z (af_ z h2_ sz4 z z hr106_1.rv.sl (by omega)) (TL.g z (al_ false z ag4 z hr106_1 (by omega) z) (ω z (ah_ z z z) (κ (TC.cB z hh (fun h136 hh=> ?_) (fun h136 hh=> ?_)))))
    ·refine ξ (TL.s z z (θ z z (θ z z ?_)))
     obtain ⟨u58,hh⟩:=d6_ hh
     refine TL.isSl (i:=0) z (fun hs137 _ _=> ?_)
     refine ω z (af_ z e2_ sz3 z z hs137 (by omega)) ?_
     have hn138:((l122.set k125 (-1)).set k125 (k124:Int)).length=(replicate v11.2.length (0:Int)).length:=by rw [ls_];exact hn134
     refine ζ z (ay_ (k124:Int) z sz3 z z z z ep_ i2_ (by omega) (by omega) ?_)
     refine κ (π (θ z z ?_))
     obtain ⟨u61,hh⟩:=d6_ hh
     exact ω z (OpVal.succ z z z (by omega)) (θ z z (TL.nil (B.n (S.n (cf ((((l122.set k125 (-1)).set k125 (k124:Int)),(k124+1)),()) ⟨hh,hn138⟩ (δ [3,1,3,3] 4))))))
    exact ι (B.n (S.n (cf (((l122.set k125 (-1)),k124),()) ⟨hh,hn134⟩ (δ [3,1,3,3] 4))))
   replace hh:=ei_ h135 hh
   exact χ z (χ z (χ z (χ z (ω z (ag_ z z z) (κ (TC.f z (ι (B.n (S.n (cf (((l122.set k125 (-1)),k124),()) ⟨hh,hn134⟩ (δ [3,1,3,3] 4)))))))))))
  skip
  obtain ⟨⟨l129,k131⟩,_⟩:=g
  obtain ⟨hh,hn130⟩:=hg
  try dsimp only at hn130 ⊢
  dsimp only [Dm_]at hh
  refine η (i:=2) z (fun _ hb139 _=> ?_)
  refine η (i:=3) z (fun _ hb140 _=> ?_)
  refine π (ω z (OpVal.succ z z z (by omega)) (θ z z (κ ?_)))
  obtain ⟨hh,hlt141⟩:=ey_ hR1 hh
  exact lf ((l129,k131,(k125+1)),()) hlt141 ⟨hh,hn130⟩ (δ [3,3,3,3] 4)
 refine TC.exit (S.x (S.x ?_))
 replace hh:=el_ hR1 hh
 refine Δ (S.n (ν ?_))
 obtain ⟨u68,hh⟩:=d6_ hh
 obtain ⟨u70,hh⟩:=d6_ hh
 refine TC.draw [8] (by kernel_rfl) (Ψ 0 z (aa_ z ib_ z) z (TA.b 1 z (ab_ z ag9 z (i:=0) z z) z (Ψ 2 z (aj_ (.inl z) z) z (TA.b 3 z (af_ (i:=0) z gw_ sz9 z z hr106_0.rv.sl (by omega)) z (TA.b 4 z (al_ ([]:T_1) z ag9 z hr106_0 (by omega) z) z (Ψ 5 z (cl_ z z z u70) z (Ψ 6 z (an_ z q5_ ju_ z) z (TA.ac 7 z (OpOk.alloc z ju_ z z (fun b144=>(k1 ?_)))))))))))
 refine TA.last 8 (by kernel_rfl) z z z (storeAll z fs_ z z z z z z ?_)
 refine TZ.done (by kernel_rfl) (S.n (ν (ξ (TL.s z z (ω z (lenC z e2_ z) (θ z z (κ (υ ?_))))))))
 rw [show Value.slice a109 ((replicate v11.2.length (0:Int)).length) c110=Value.slice a109 l122.length c110 from by rw [hn123]]
 refine TC.front 3 z z (TC.a3_ ep_ (fun τ215 hle214 hr213=> ?_))
 replace f0_0:=f0_0.mono hle214
 replace f0_1:=f0_1.mono hle214
 replace f0_2:=f0_2.mono hle214
 replace f0_3:=f0_3.mono hle214
 replace hr106_0:=hr106_0.mono hle214
 have hr213b:=hr213.rv.big
 refine TC.nilS 86 1 (ea_ 1 eI_ ep_).en ?_
 have zf216:=ZOk.nil τ215 (ea_ 1 eI_ ep_)
 refine TC.nilS 30 1 (ea_ 1 eS_ es_).en ?_
 have zf218:=ZOk.nil τ215 (ea_ 1 eS_ es_)
 refine TC.nilS 4 1 e1_ (TC.nilS 9 1 eS_ (TC.ao_ (α:=(N_2×T_3×B_1×T_2×Nat)×((Option Addr)×Nat×(List (N_1×(ea_ 1 eI_ ep_).P))×(Option Addr)×Nat×(List (T_2×(ea_ 1 eS_ es_).P))×(Option Addr)×Nat×(Option Addr)×Nat×d0_)) (rgs [(3,1),(11,5),(72,65)]) (fun g=>[(72,.int .i64 ((g.1.2.2.2.2:Nat):Int))]) (fun g=>[cq_ b101 x0 a0_0 c0_0 a0_1 c0_1 a0_2 c0_2 a0_3 c0_3,φ b103 #[.string (bs ([]:T_1)),nl_,nl_,nl_,nl_] 32,φ b144 #[.string (bs (x0.front++(nth v11.1 0 []))),.slice g.2.1 g.1.1.length g.2.2.1,.slice g.2.2.2.2.1 g.1.2.1.length g.2.2.2.2.2.1,.slice g.2.2.2.2.2.2.2.1 g.1.2.2.1.length g.2.2.2.2.2.2.2.2.1,.slice g.2.2.2.2.2.2.2.2.2.1 g.1.2.2.2.1.length g.2.2.2.2.2.2.2.2.2.2.1] 32,ε 86 1 (ea_ 1 eI_ ep_).en (.slice g.2.1 g.1.1.length g.2.2.1) g.2.2.2.1,ε 30 1 (ea_ 1 eS_ es_).en (.slice g.2.2.2.2.1 g.1.2.1.length g.2.2.2.2.2.1) g.2.2.2.2.2.2.1,ε 4 1 e1_ (.slice g.2.2.2.2.2.2.2.1 g.1.2.2.1.length g.2.2.2.2.2.2.2.2.1) g.1.2.2.1,ε 9 1 eS_ (.slice g.2.2.2.2.2.2.2.2.2.1 g.1.2.2.2.1.length g.2.2.2.2.2.2.2.2.2.2.1) g.1.2.2.2.1]) (fun g=>g.2.2.2.2.2.2.2.2.2.2.2) (fun g=>eq_ (fun q:N_2×T_3×B_1×T_2×Nat=>A3_ v11 l122 x0 q.1 q.2.1 q.2.2.1 q.2.2.2.1 q.2.2.2.2) g.1=some r∧RS g.2.2.2.2.2.2.2.2.2.2.2 1 eI_ (.slice a109 l122.length c110) l122∧ZOk g.2.2.2.2.2.2.2.2.2.2.2 (ea_ 1 eI_ ep_) g.2.2.2.1 g.1.1∧ZOk g.2.2.2.2.2.2.2.2.2.2.2 (ea_ 1 eS_ es_) g.2.2.2.2.2.2.1 g.1.2.1∧d0_.le τ215 g.2.2.2.2.2.2.2.2.2.2.2) (fun g=>eh_ (fun q:N_2×T_3×B_1×T_2×Nat=>A3_ v11 l122 x0 q.1 q.2.1 q.2.2.1 q.2.2.2.1 q.2.2.2.2) g.1) ((([]:N_2),([]:T_3),([]:B_1),([]:T_2),0),(none,0,[],none,0,[],none,0,none,0,τ215)) (δ [1,2,3,4,6,6] 7) z (by repeat (first|exact trivial|refine ⟨z,?_⟩)) ⟨hh,hr213,zf216,zf218,(d0_.le.refl _)⟩ (fun g2 j2 hg2=> ?_)))
 obtain ⟨⟨l193,l199,l205,l209,k212⟩,⟨a194,c195,z196,a200,c201,z202,a206,c207,a210,c211,τ222⟩⟩:=g2
 obtain ⟨hh,hr191,zf197,zf203,hle223⟩:=hg2
 try dsimp only at hr191
 try dsimp only at zf197
 try dsimp only at zf203
 dsimp only at hle223
 replace f0_0:=f0_0.mono hle223
 replace f0_1:=f0_1.mono hle223
 replace f0_2:=f0_2.mono hle223
 replace f0_3:=f0_3.mono hle223
 replace hr106_0:=hr106_0.mono hle223
 try dsimp only
 obtain ⟨z1,hh,hR1⟩:=eo_ hh
 dsimp only [A3_]at hh
 have hr191b:=hr191.rv.big
 have zf197b:=zf197.length
 have zf203b:=zf203.length
 refine η (i:=3) z (fun _ hb224 _=> ?_)
 refine η (i:=4) z (fun _ hb225 _=> ?_)
 refine η (i:=5) z (fun _ hb226 _=> ?_)
 refine η (i:=6) z (fun _ hb227 _=> ?_)
 refine ξ (ω z (OpVal.lss z z z) (κ (ν (TC.cD z hh (fun h228 hh=> ?_) (fun h228 hh=> ?_)))))
 ·refine ι (S.n (TC.cutG (α:=(N_2×T_3×B_1×T_2)×((Option Addr)×Nat×(List (N_1×(ea_ 1 eI_ ep_).P))×(Option Addr)×Nat×(List (T_2×(ea_ 1 eS_ es_).P))×(Option Addr)×Nat×(Option Addr)×Nat×d0_)) (rgs [(3,1),(11,5),(74,62)]) (fun g=>[]) (fun g=>[cq_ b101 x0 a0_0 c0_0 a0_1 c0_1 a0_2 c0_2 a0_3 c0_3,φ b103 #[.string (bs ([]:T_1)),nl_,nl_,nl_,nl_] 32,φ b144 #[.string (bs (x0.front++(nth v11.1 0 []))),.slice g.2.1 g.1.1.length g.2.2.1,.slice g.2.2.2.2.1 g.1.2.1.length g.2.2.2.2.2.1,.slice g.2.2.2.2.2.2.2.1 g.1.2.2.1.length g.2.2.2.2.2.2.2.2.1,.slice g.2.2.2.2.2.2.2.2.2.1 g.1.2.2.2.length g.2.2.2.2.2.2.2.2.2.2.1] 32,ε 86 1 (ea_ 1 eI_ ep_).en (.slice g.2.1 g.1.1.length g.2.2.1) g.2.2.2.1,ε 30 1 (ea_ 1 eS_ es_).en (.slice g.2.2.2.2.1 g.1.2.1.length g.2.2.2.2.2.1) g.2.2.2.2.2.2.1,ε 4 1 e1_ (.slice g.2.2.2.2.2.2.2.1 g.1.2.2.1.length g.2.2.2.2.2.2.2.2.1) g.1.2.2.1,ε 9 1 eS_ (.slice g.2.2.2.2.2.2.2.2.2.1 g.1.2.2.2.length g.2.2.2.2.2.2.2.2.2.2.1) g.1.2.2.2]) (fun g=>g.2.2.2.2.2.2.2.2.2.2.2) (fun g=>Do_ k212 g.1.1 g.1.2.1 g.1.2.2.1 g.1.2.2.2=some z1∧ZOk g.2.2.2.2.2.2.2.2.2.2.2 (ea_ 1 eI_ ep_) g.2.2.2.1 g.1.1∧ZOk g.2.2.2.2.2.2.2.2.2.2.2 (ea_ 1 eS_ es_) g.2.2.2.2.2.2.1 g.1.2.1∧d0_.le τ222 g.2.2.2.2.2.2.2.2.2.2.2) ?_ (fun g j hg=> ?_)))
  ·skip
   refine υ (ξ (θ z z (θ z z (κ (ν (ξ (TL.s z z (θ z z ?_))))))))
   obtain ⟨u82,hh⟩:=d6_ hh
   refine ω z (af_ z e2_ sz3 z z hr191.rv.sl (by omega)) (ω z (al_ (0:Int) z ag3 z hr191 (by omega) z) (ω z (OpVal.lss z z z) (κ (TC.cD z hh (fun h245 hh=> ?_) (fun h245 hh=> ?_)))))
   ·exact TC.exit (S.x (Δ (S.n (cf ((l193,l199,l205,l209),(a194,c195,z196,a200,c201,z202,a206,c207,a210,c211,τ222)) ⟨hh,zf197,zf203,(d0_.le.refl _)⟩ (δ [6,6,6,6,6,6,6] 7)))))
   refine ι (S.n (ξ (ω z (ak_ z h1_ fs_ z (i:=0) z z) (θ z z (TL.s z z (TL.s z z ?_))))))
   obtain ⟨v89,u89,hh⟩:=eb_ hh
   refine ζ z (OpOk.call (Hl_ (x0:=x0) f0_0 f0_1 f0_2 f0_3 hr106_0 hr191 u89) z z pf73 z z z z ?_)
   rintro _ τ246 _ hle246 ⟨a246_1,c246_1,a246_2,c246_2,rfl,hr246_0,hr246_1,rfl⟩
   replace f0_2:=f0_2.mono hle246
   replace f0_3:=f0_3.mono hle246
   replace hr106_0:=hr106_0.mono hle246
   replace hr191:=hr191.mono hle246
   replace zf197:=zf197.mono hle246
   replace zf203:=zf203.mono hle246
   have hr246_0b:=hr246_0.rv.big
   have hr246_1b:=hr246_1.rv.big
   refine ω z (a8_ (.inl z) z) (ω z (OpVal.extract z z z) (ω z (OpVal.extract z z z) (ω z (OpVal.extract z z z) (TL.s z z (TL.s z z (TL.j z z (κ (ν (ξ (TL.j z z (ω z (OpVal.not z z) (κ (TC.cB z hh (fun h247 hh=> ?_) (fun h247 hh=> ?_))))))))))))))
   ·refine ξ (ω z (an_ z q5_ ju_ z) (ψ 1 z z (ζ z (storeAll z fs_ z z z z z z ?_))))
    refine θ z z (κ (TC.rt 1 (S.r (B.r (S.r (S.r ?_))))))
    replace hh:=el_ hR1 hh
    refine B.r (S.r ?_)
    obtain rfl:=so hh
    exact ro [] z (RVs.agg h1_ fs_ z (i:=0) z z (RVs.tmp z RVs.nil)) ⟨none,0,none,0,none,0,none,0,z,(RZ.nilF _ (ea_ 1 eI_ ep_)),(RZ.nilF _ (ea_ 1 eS_ es_)),(RS.nilF _ e1_ em_),(RS.nilF _ eS_ es_),z⟩
   refine ι (S.n (ξ (ω z (ad_ (.inr z) z) (κ (TC.cutG (α:=(T_1)×(d0_)) (rgs [(15,1),(92,16)]) (fun g=>[(15,.string (bs g.1))]) (fun g=>[cq_ b101 x0 a0_0 c0_0 a0_1 c0_1 a0_2 c0_2 a0_3 c0_3,φ b103 #[.string (bs ([]:T_1)),nl_,nl_,nl_,nl_] 32,φ b144 #[.string (bs (x0.front++(nth v11.1 0 []))),.slice a194 l193.length c195,.slice a200 l199.length c201,.slice a206 l205.length c207,.slice a210 l209.length c211] 32,ε 86 1 (ea_ 1 eI_ ep_).en (.slice a194 l193.length c195) z196,ε 30 1 (ea_ 1 eS_ es_).en (.slice a200 l199.length c201) z202,rs_ 4 e1_ a206 c207 l205,rs_ 9 eS_ a210 c211 l209]) (fun g=>g.2) (fun g=>Dr_ l193 v89 l199 k212 x0 l205 l209 g.1=some z1∧ZOk g.2 (ea_ 1 eI_ ep_) z196 l193∧ZOk g.2 (ea_ 1 eS_ es_) z202 l199∧d0_.le τ246 g.2) ?_ (fun g j hg=> ?_))))))
   ·skip
    refine ξ (ω z (aa_ z gq_ z) (ω z (ab_ z nz_ z (i:=0) z z) (θ z z ?_)))
    obtain ⟨u106,hh⟩:=d6_ hh
    refine ω z (af_ z h2_ sz4 z z f0_2.rv.sl (by omega)) (ω z (al_ false z ag4 z f0_2 (by omega) z) (κ (TC.cB z hh (fun h251 hh=> ?_) (fun h251 hh=> ?_))))
    ·have u111:=n8_ hh
     replace hh:=or_ hh
     obtain ⟨u115,hh⟩:=d6_ hh
     obtain ⟨u118,hh⟩:=d6_ hh
     exact TC.draw [] (by kernel_rfl) (Ψ 0 z (aa_ z g0_ z) z (TA.b 1 z (ab_ z kv_ z (i:=0) z z) z (Ψ 2 z (ai_ (.inl z) z) z (TA.b 3 z (af_ z gw_ sz9 z z f0_3.rv.sl (by omega)) z (TA.b 4 z (al_ ([]:T_1) z ag9 z f0_3 (by omega) z) z (Ψ 5 z (aj_ (.inl z) z) z (Ψ 6 z (ai_ (.inl z) z) z (TA.b 7 z (af_ z gw_ sz9 z z hr106_0.rv.sl (by omega)) z (TA.b 8 z (al_ ([]:T_1) z ag9 z hr106_0 (by omega) z) z (TA.b 9 z (a5_ z u9_ z) z (TA.b 10 z (bw_ (l:=(nth x0.tail k212 [])) (i:=(nth v11.1 k212 []).length) z u9_ z z (by omega) (by omega)) z (Ψ 11 z (ad_ (.inr z) z) z (TA.dn (S.n (cf (((nth x0.tail k212 []).drop ((nth v11.1 k212 []).length)),τ246) ⟨hh,zf197,zf203,(d0_.le.refl _)⟩ (δ [6,6,6,6,6,6,6] 7))))))))))))))))
    exact ι (S.n (cf (([]:T_1),τ246) ⟨hh,zf197,zf203,(d0_.le.refl _)⟩ (δ [6,6,6,6,6,6,6] 7)))
   skip
   obtain ⟨s250,τ252⟩:=g
   obtain ⟨hh,zf248,zf249,hle253⟩:=hg
   try dsimp only at zf248
   try dsimp only at zf249
   dsimp only at hle253
   replace f0_2:=f0_2.mono hle253
   replace hr191:=hr191.mono hle253
   replace zf197:=zf197.mono hle253
   replace zf203:=zf203.mono hle253
   replace hr246_0:=hr246_0.mono hle253
   replace hr246_1:=hr246_1.mono hle253
   try dsimp only
   dsimp only [Dr_]at hh
   have zf248b:=zf248.length
   have zf249b:=zf249.length
   refine η (i:=3) z (fun _ hb254 _=> ?_)
   refine η (i:=4) z (fun _ hb255 _=> ?_)
   refine η (i:=5) z (fun _ hb256 _=> ?_)
   refine η (i:=6) z (fun _ hb257 _=> ?_)
   refine ξ (ω z (aa_ z e8_ z) (ω z (ab_ z i0_ z (i:=2) z z) (TL.s z z ?_)))
   have zf260:ZOk _ (ea_ 1 eI_ ep_) ([(v89.1,(a246_1,c246_1))]:List (N_1×(ea_ 1 eI_ ep_).P)) [v89.1]:=ZOk.cons (hr246_0) (ZOk.nil _ _)
   refine ζ z (litZ zf260 z fn_ fp_ z h4_ z z z (by decide) (by decide) z (by decide) z (by decide) (fun a258 c259=> ?_))
   refine ψ 4 z z ?_
   obtain ⟨u124,hh⟩:=d6_ hh
   refine ζ z (bg_ (k:=(ea_ 1 eI_ ep_)) zf248 zf260 z z fn_ fp_ im_ h4_ z z (by decide) z z z (.inr ⟨_,0,z⟩) (by simpa using u124) (by decide) (fun a262 c263 zf264=> ?_))
   refine ω z (aa_ z e8_ z) (ψ 4 z z (ζ z (ae_ z go_ z z z z z ?_)))
   refine κ (ξ (ω z (aa_ z fy_ z) (ω z (ab_ z m4_ z (i:=0) z z) (TL.s z z ?_))))
   have zf267:ZOk _ (ea_ 1 eS_ es_) ([(v89.2.1,(a246_2,c246_2))]:List (T_2×(ea_ 1 eS_ es_).P)) [v89.2.1]:=ZOk.cons (hr246_1) (ZOk.nil _ _)
   refine ζ z (litZ zf267 z l4_ kn_ z yb_ z z z (by decide) (by decide) z (by decide) z (by decide) (fun a265 c266=> ?_))
   refine ψ 6 z z ?_
   obtain ⟨u131,hh⟩:=d6_ hh
   refine ζ z (bg_ (k:=(ea_ 1 eS_ es_)) zf249 zf267 z z l4_ kn_ by30 yb_ z z (by decide) z z z (.inr ⟨_,0,z⟩) (by simpa using u131) (by decide) (fun a269 c270 zf271=> ?_))
   refine ω z (aa_ z fy_ z) (ψ 2 z z (ζ z (ae_ z sz28 z z z z z ?_)))
   refine κ (ν ?_)
   obtain ⟨u139,hh⟩:=d6_ hh
   obtain ⟨u142,hh⟩:=d6_ hh
   refine TC.draw [8,9,10] (by kernel_rfl) (Ψ 0 z (aa_ z gq_ z) z (TA.b 1 z (ab_ z nz_ z (i:=0) z z) z (Ψ 2 z (aa_ z gq_ z) z (TA.b 3 z (ab_ z nz_ z (i:=5) z z) z (Ψ 4 z (ai_ (.inl z) z) z (TA.b 5 z (af_ z h2_ sz4 z z f0_2.rv.sl (by omega)) z (TA.b 6 z (al_ false z ag4 z f0_2 (by omega) z) z (TA.ac 7 z (OpOk.lit (enc:=e1_) [(nth x0.fin k212 false)] z h2_ sz4 ze4 z z z em_ (by decide) (by decide) false z (by decide) z (by decide) fm_ (fun a277 c278=>(k1 ?_)))))))))))
   refine TA.front 8 z z (TA.last 8 (by kernel_rfl) z z z (av_ z z h2_ sz4 by4 ze4 z z (by decide) z z z (.inr ⟨_,0,z⟩) (by simpa using u142) (by decide) (fun a280 c281=> ?_)))
   refine TZ.v 9 (by kernel_rfl) z z z (aa_ z gq_ z) z z (TZ.front 2 z z (TZ.last 10 (by kernel_rfl) z z z (ae_ z sz29 z z z z z ?_)))
   refine TZ.done (by kernel_rfl) (S.n (π (ω z (aa_ z g0_ z) (ω z (ab_ z kv_ z (i:=0) z z) (ω z (ad_ (.inl z) z) (ζ z (OpOk.lit (enc:=eS_) [s250] z gw_ sz9 ze9 z z z es_ (by decide) (by decide) ([]:T_1) z (by decide) z (by decide) pn_ (fun a282 c283=> ?_))))))))
   refine ψ 10 z z ?_
   obtain ⟨u149,hh⟩:=d6_ hh
   refine ζ z (av_ z z gw_ sz9 by9 ze9 z z (by decide) z z z (.inr ⟨_,0,z⟩) (by simpa using u149) (by decide) (fun a285 c286=> ?_))
   refine ω z (aa_ z g0_ z) (ψ 2 z z (ζ z (ae_ z kn_ z z z z z ?_)))
   exact TL.nil (B.n (S.n (cf (((l193++[v89.1]),(l199++[v89.2.1]),(l205++[(nth x0.fin k212 false)]),(l209++[s250])),(a262,c263,(z196++([(v89.1,(a246_1,c246_1))]:List (N_1×(ea_ 1 eI_ ep_).P))),a269,c270,(z202++([(v89.2.1,(a246_2,c246_2))]:List (T_2×(ea_ 1 eS_ es_).P))),a280,c281,a285,c286,τ252)) ⟨hh,zf264,zf271,(hle246.trans hle253)⟩ (δ [1,3,5,7,4,10,10] 7))))
  skip
  obtain ⟨⟨l229,l234,l239,l242⟩,⟨a230,c231,z232,a235,c236,z237,a240,c241,a243,c244,τ287⟩⟩:=g
  obtain ⟨hh,zf233,zf238,hle288⟩:=hg
  try dsimp only at zf233
  try dsimp only at zf238
  dsimp only at hle288
  replace hr191:=hr191.mono hle288
  replace zf197:=zf197.mono hle288
  replace zf203:=zf203.mono hle288
  try dsimp only
  dsimp only [Do_]at hh
  have zf233b:=zf233.length
  have zf238b:=zf238.length
  refine η (i:=3) z (fun _ hb289 _=> ?_)
  refine η (i:=4) z (fun _ hb290 _=> ?_)
  refine η (i:=5) z (fun _ hb291 _=> ?_)
  refine η (i:=6) z (fun _ hb292 _=> ?_)
  refine π (ω z (OpVal.succ z z z (by omega)) (θ z z (κ ?_)))
  obtain ⟨hh,hlt293⟩:=ey_ hR1 hh
  exact lf ((l229,l234,l239,l242,(k212+1)),(a230,c231,z232,a235,c236,z237,a240,c241,a243,c244,τ287)) hlt293 ⟨hh,hr191,zf233,zf238,(hle223.trans hle288)⟩ (δ [6,6,6,6,6,6,6] 7)
 refine TC.exit (S.x (S.x ?_))
 replace hh:=el_ hR1 hh
 refine Δ (S.n (ν (ξ (ω z (ak_ z h1_ fs_ z (i:=2) z z) (ψ 3 z z (TL.b8_ zf197 (fun τ296 hle295 hr294=> ?_)))))))
 replace zf203:=zf203.mono hle295
 have hr294b:=hr294.big
 refine ψ 3 z z (TL.b8_ zf203 (fun τ299 hle298 hr297=> ?_))
 replace hr294:=hr294.mono hle298
 have hr297b:=hr297.big
 refine ψ 3 z z (TL.a3_ em_ (fun τ302 hle301 hr300=> ?_))
 replace hr294:=hr294.mono hle301
 replace hr297:=hr297.mono hle301
 have hr300b:=hr300.rv.big
 refine ψ 3 z z (TL.a3_ es_ (fun τ305 hle304 hr303=> ?_))
 replace hr294:=hr294.mono hle304
 replace hr297:=hr297.mono hle304
 replace hr300:=hr300.mono hle304
 have hr303b:=hr303.rv.big
 obtain ⟨v155,u155,hh⟩:=eb_ hh
 refine ζ z (aw_ (Ev_ (x0:=(⟨(x0.front++(nth v11.1 0 [])),l193,l199,l205,l209⟩:Seq)) hr294 hr297 hr300 hr303 u155) z z pf23 z z z ?_)
 refine ω z (OpVal.neq z z z) (κ (TC.cD z hh (fun h306 hh=> ?_) (fun h306 hh=> ?_)))
 ·refine ξ (ω z (an_ z q5_ ju_ z) (ψ 1 z z (ζ z (storeAll z fs_ z z z z z z ?_))))
  refine θ z z (κ (TC.rt 1 (S.r ?_)))
  obtain rfl:=so hh
  exact ro [] z (RVs.agg h1_ fs_ z (i:=0) z z (RVs.tmp z RVs.nil)) ⟨none,0,none,0,none,0,none,0,z,(RZ.nilF _ (ea_ 1 eI_ ep_)),(RZ.nilF _ (ea_ 1 eS_ es_)),(RS.nilF _ e1_ em_),(RS.nilF _ eS_ es_),z⟩
 refine ι (S.n (ξ (ω z (ak_ z h1_ fs_ z (i:=2) z z) (ψ 1 z z (ζ z (storeAll z fs_ z z z z z z ?_))))))
 refine θ z z (κ (TC.rt 1 ?_))
 obtain rfl:=so hh
 exact ro [] z (RVs.agg h1_ fs_ z (i:=0) z z (RVs.tmp z RVs.nil)) ⟨a194,c195,a200,c201,a206,c207,a210,c211,z,hr294,hr297,hr300,hr303,z⟩
end Go.Proofs.YtchebnpdnfhenaaGreatDoor
end

noncomputable section
namespace Go.Proofs.YtchebnpdnfhenaaGreatDoor
open Go Go.E
theorem r0_ {T R : Type} {step : T → Option (T ⊕ R)} (I : T → Prop) (μ : T → Nat) (Q : R → Prop) (hs : ∀ t, I t → (∃ t', step t = some (.inl t') ∧ I t' ∧ μ t' < μ t) ∨ ∃ r, step t = some (.inr r) ∧ Q r) {t : T} (h : I t) : ∃ r, eq_ step t = some r ∧ Q r := by
  have key: ∀(N:Nat) (t:T),I t→μ t<N→ ∃r,eq_ step t=some r∧Q r:=by
    intro N
    induction N with
    |zero=>intro t _ h;omega
    |succ N ih=>
      intro t hI hN
      rcases hs t hI with ⟨t',h1,h2,h3⟩|⟨r,h1,h2⟩
      · obtain ⟨r,h4,h5⟩:=ih t' h2 (by omega)
        exact ⟨r,gp_ h1 h4,h5⟩
      exact ⟨r,fb_ h1,h2⟩
  exact key _ t h (Nat.lt_succ_self _)
def e6_(f:Nat→Nat):Nat→Nat
  |0=>0
  |n+1=>e6_ f n+f n
theorem rd_{f g:Nat→Nat}: ∀{n:Nat},(∀i,i<n→f i≤g i)→e6_ f n≤e6_ g n
  |0,_=>Nat.le_refl _
  |n+1,h=>Nat.add_le_add (rd_ fun i hi=>h i (by omega)) (h n (by omega))
theorem ku_(c:Nat): ∀n:Nat,e6_ (fun _=>c) n=n * c
  |0=>by simp [e6_]
  |n+1=>by rw [e6_,ku_ c n,Nat.add_mul];omega
theorem qt_{f g:Nat→Nat}: ∀{n:Nat},(∀i,i<n→g i=f i)→e6_ g n=e6_ f n
  |0,_=>rfl
  |n+1,h=>by rw [e6_,e6_,qt_ fun i hi=>h i (by omega),h n (by omega)]
theorem lv_{f g:Nat→Nat}{s:Nat}: ∀{n:Nat},s<n→(∀i,i<n→i≠s→g i=f i)→e6_ g n+f s=e6_ f n+g s
  |0,hs,_=>by omega
  | n + 1, hs, h => by
    rw [e6_,e6_]
    by_cases c:s=n
    · subst c
      rw [qt_ (f:=f) fun i hi=>h i (by omega) (by omega)];omega
    have:=lv_ (f:=f) (g:=g) (s:=s) (n:=n) (by omega) fun i hi hne=>h i (by omega) hne
    have h2:=h n (by omega) (by omega)
    omega
theorem zj_{L:T_2}(h:L≠[])(g:T_1):gn_ (L++[g])=gn_ [gn_ L,g]:=by
  cases L with
  |nil=>exact absurd rfl h
  |cons x L=>show ye_ (L++[g]) x=_;rw [ss_];rfl
theorem yp_{L:T_2}{k:Nat}(h: ∀x∈L,x.length≤k):(gn_ L).length≤k:=by
  cases L with
  |nil=>exact Nat.zero_le _
  |cons x L=>exact Nat.le_trans (hu_ (mc_ ..)).length_le (h x (mc_ ..))
theorem o3_{q:Seq}(hq:d9_ q=true){l:T_2}{m:B_1}{s:Nat}(hs:s<q.next.length){B:Nat}(hB: ∀z,z<q.next.length→nth m z false=true→(nth l z []).length≤B){k:Nat}(hk:k≤256): ∀x∈js_ q l m s k,x.length≤4096+B:=fun x hx=>by
  unfold js_ at hx
  rcases List.mem_append.1 hx with h|h
  · split at h
    · rw [mo_]at h
      have:=(gg_ hq hs).1
      rw [h];omega
    cases h
  obtain ⟨b,hb,h⟩:=List.mem_flatMap.1 h
  have hb:=List.mem_range.1 hb
  unfold y2_ at h
  split at h
  · rename_i c
    rw [mo_]at h
    have h1:=fe_ hq hs (show b<256 by omega)
    have h2:=n9_ hq hs (show b<256 by omega)
    have h3:=hB (nxQ q s b).toNat (by omega) c.2
    rw [h,la_];omega
  cases h
theorem wa_ {q : Seq} (hq : d9_ q = true) {l : T_2} {m : B_1} (hl : l.length = q.next.length) (hm : m.length = q.next.length) {s : Nat} (hs : s < q.next.length) (hB : ∀ z, z < q.next.length → nth m z false = true → (nth l z []).length ≤ 4194304) :
    E6_ q ((s:Nat):Int) l m=some (gn_ (h7_ q l m s)):=by
  obtain ⟨q1,q2,q3,q4,q5⟩:=d7_ hq
  obtain ⟨r1,r2⟩:=f7_ hq hs
  unfold E6_
  rw [d3_ (by omega),d3_ (by omega),d3_ (by omega),tn_]
  obtain ⟨r,h1,h2⟩:=er_ (step:=fun z:T_1×Bool×Nat=>Bj_ q ((s:Nat):Int) m l z.1 z.2.1 z.2.2) (fun (z:T_1×Bool) k=>(z.1,z.2,k)) 256 (fun k z=>z.1=gn_ (js_ q l m s k)∧z.2= !(js_ q l m s k).isEmpty) (fun r=>r=gn_ (h7_ q l m s))
    (by
      rintro k ⟨f,t⟩ hk ⟨e1,e2⟩
      simp only at e1 e2
      subst e1 e2
      left
      have hz:=fe_ hq hs hk
      have ho:=n9_ hq hs hk
      refine ⟨(gn_ (js_ q l m s (k+1)), !(js_ q l m s (k+1)).isEmpty),?_,rfl,rfl⟩
      show Bj_ q ((s:Nat):Int) m l (gn_ (js_ q l m s k)) (!(js_ q l m s k).isEmpty) k=_
      unfold Bj_ Cp_
      rw [tn_,d4_ (by omega),wk_]
      change ec_ (decide (nxQ q s k<0)) _ _=_
      unfold y2_
      by_cases c:nxQ q s k<0
      · rw [d4_ c,if_neg (fun h=>by omega),List.append_nil];rfl
      rw [d5_ c,d3_ (by show 0≤nxQ q s k∧nxQ q s k<_;omega)]
      change ec_ (!(nth m (nxQ q s k).toNat false)) _ _=_
      cases d:nth m (nxQ q s k).toNat false with
      |false=>rw [id_,if_neg (fun h=>by simp at h),List.append_nil];rfl
      |true=>
        have hlz:=hB _ (show (nxQ q s k).toNat<_ by omega) d
        rw [gk_,if_pos ⟨by omega,rfl⟩,d3_ (by omega),d3_ (by omega),d3_ (by show 0≤nxQ q s k∧nxQ q s k<_;omega),d3_ (by show (otQ q s k).length+(nth l (nxQ q s k).toNat []).length≤_;omega)]
        change ec_ _ (bnd (Ex_ [gn_ (js_ q l m s k),otQ q s k++nth l (nxQ q s k).toNat []]) _) (nxt (otQ q s k++nth l (nxQ q s k).toNat [],true,k+1))=_
        have hlen:=o3_ hq hs hB (k:=k) (by omega)
        cases hu:js_ q l m s k with
        |nil=>rfl
        |cons x L=>
          rw [hu]at hlen
          rw [show (!(x::L).isEmpty)=true from rfl,iteO_true,qo_ (fun y hy=>by
            rcases List.mem_cons.1 hy with rfl|hy
            · have:=yp_ hlen;omega
            rw [mo_]at hy
            rw [hy,la_];omega),ed_,zj_ (List.cons_ne_nil x L)]
          rfl)
    (by
      rintro ⟨f,t⟩ ⟨e1,e2⟩
      simp only at e1 e2
      subst e1 e2
      refine ⟨_,?_,rfl⟩
      show Bj_ q ((s:Nat):Int) m l _ _ 256=_
      unfold Bj_
      rw [tn_,d5_ (by omega)];rfl) (s0:=(nth q.tail s [],nth q.fin s false)) (by
        have ht:=(gg_ hq hs).2
        unfold js_
        cases hf:nth q.fin s false with
        |true=>exact ⟨rfl,rfl⟩
        |false=>
          rcases ht with ht|ht
          · rw [hf]at ht;cases ht
          exact ⟨ht,rfl⟩)
  rw [←h2];exact h1
structure BkQ (q:Seq) (k j:Nat) (L:N_2):Prop where
  len:L.length=q.next.length
  mem: ∀z,z<q.next.length→ ∀s:Int,s∈nth L z []↔ ∃t:Nat,s=((t:Nat):Int)∧((t<k∧ ∃b,b<256∧nxQ q t b=((z:Nat):Int))∨(t=k∧ ∃b,b<j∧nxQ q t b=((z:Nat):Int)))
  few: ∀z,z<q.next.length→(nth L z []).length≤256 * k+j
theorem BkQ.skip{q:Seq}{k j:Nat}{L:N_2}(h:BkQ q k j L)(hn:nxQ q k j<0):BkQ q k (j+1) L:=by
  refine ⟨h.len,fun z hz s=> ?_,fun z hz=>by have:=h.few z hz;omega⟩
  rw [h.mem z hz]
  constructor
  · rintro ⟨t,e,c|⟨c,b,hb,hx⟩⟩
    · exact ⟨t,e,.inl c⟩
    exact ⟨t,e,.inr ⟨c,b,by omega,hx⟩⟩
  rintro ⟨t,e,c|⟨c,b,hb,hx⟩⟩
  · exact ⟨t,e,.inl c⟩
  refine ⟨t,e,.inr ⟨c,b,?_,hx⟩⟩
  by_cases d:b=j
  · subst d;subst c;omega
  omega
theorem BkQ.has{q:Seq}{k j z:Nat}{L:N_2}(h:BkQ q k j L)(hz:z<q.next.length)(hn:nxQ q k j=((z:Nat):Int))(hm:((k:Nat):Int)∈nth L z []):BkQ q k (j+1) L:=by
  refine ⟨h.len,fun y hy s=> ?_,fun z hz=>by have:=h.few z hz;omega⟩
  constructor
  · intro hs
    obtain ⟨t,e,c|⟨c,b,hb,hx⟩⟩:=(h.mem y hy s).1 hs
    · exact ⟨t,e,.inl c⟩
    exact ⟨t,e,.inr ⟨c,b,by omega,hx⟩⟩
  rintro ⟨t,e,c|⟨c,b,hb,hx⟩⟩
  · exact (h.mem y hy s).2 ⟨t,e,.inl c⟩
  by_cases d:b=j
  · subst d;subst c
    have:y=z:=by omega
    subst this;rw [e];exact hm
  exact (h.mem y hy s).2 ⟨t,e,.inr ⟨c,b,by omega,hx⟩⟩
theorem BkQ.put {q : Seq} {k j z : Nat} {L : N_2} (h : BkQ q k j L) (hz : z < q.next.length) (hn : nxQ q k j = ((z : Nat) : Int)) : BkQ q k (j + 1) (L.set z (nth L z [] ++ [((k : Nat) : Int)])) := by
  have hl:=h.len
  refine ⟨by rw [ls_];exact h.len,fun y hy s=> ?_,fun y hy=> ?_⟩
  · rw [ek_]
    by_cases c0:z=y
    · subst c0
      rw [if_pos ⟨rfl,by omega⟩,List.mem_append,mo_,h.mem z hz]
      constructor
      · rintro (⟨t,e,c|⟨c,b,hb,hx⟩⟩|e)
        · exact ⟨t,e,.inl c⟩
        · exact ⟨t,e,.inr ⟨c,b,by omega,hx⟩⟩
        exact ⟨k,e,.inr ⟨rfl,j,by omega,hn⟩⟩
      rintro ⟨t,e,c|⟨c,b,hb,hx⟩⟩
      · exact .inl ⟨t,e,.inl c⟩
      exact .inr (by rw [e,c])
    rw [if_neg (fun q=>c0 q.1),h.mem y hy]
    constructor
    · rintro ⟨t,e,c|⟨c,b,hb,hx⟩⟩
      · exact ⟨t,e,.inl c⟩
      exact ⟨t,e,.inr ⟨c,b,by omega,hx⟩⟩
    rintro ⟨t,e,c|⟨c,b,hb,hx⟩⟩
    · exact ⟨t,e,.inl c⟩
    refine ⟨t,e,.inr ⟨c,b,?_,hx⟩⟩
    by_cases d:b=j
    · subst d;subst c;omega
    omega
  rw [ek_]
  have h1:=h.few y hy
  by_cases c0:z=y
  · subst c0
    rw [if_pos ⟨rfl,by omega⟩,la_,lo_];omega
  rw [if_neg (fun q=>c0 q.1)];omega
theorem last_mem{l:N_1}(h:l≠[]):nth l (l.length - 1) 0∈l:=gf_ _ (by have:=List.length_pos_iff.2 h;omega)
theorem zf_ {q : Seq} (hq : d9_ q = true) {k : Nat} (hk : k < q.next.length) {L : N_2} (hL : BkQ q k 0 L) :
    ∃L',eq_ (fun z:N_2×Nat=>Ax_ q k z.1 z.2) (L,0)=some (.inl (L',k+1))∧BkQ q (k+1) 0 L':=by
  obtain ⟨q1,q2,q3,q4,q5⟩:=d7_ hq
  obtain ⟨r1,r2⟩:=f7_ hq hk
  obtain ⟨r,h1,L',rfl,h2⟩:=er_ (step:=fun z:N_2×Nat=>Ax_ q k z.1 z.2) (fun l j=>(l,j)) 256 (fun j L=>BkQ q k j L) (fun r=> ∃L',r= .inl (L',k+1)∧BkQ q (k+1) 0 L')
    (by
      intro j L hj hI
      left
      have hz:=fe_ hq hk hj
      have hlen:=hI.len
      show ∃s',Ax_ q k L j=_∧_
      unfold Ax_ Cb_
      have e:nth (nth q.next k []) j 0=nxQ q k j:=rfl
      rw [d4_ (by omega)]
      simp only [e]
      by_cases c:0≤nxQ q k j
      · have hzl:(nxQ q k j).toNat<q.next.length:=by omega
        have hg:0≤nxQ q k j∧nxQ q k j<(L.length:Int):=by omega
        have hfew:=hI.few _ hzl
        rw [d4_ c,d3_ hg]
        by_cases d:(nth L (nxQ q k j).toNat []).length=0
        · rw [d4_ (by omega),d3_ hg,d3_ (by simp only [lo_];omega),d3_ hg]
          exact ⟨_,rfl,hI.put hzl (by omega)⟩
        have hw:IntKind.i64.wrap ((((nth L (nxQ q k j).toNat []).length:Nat):Int) - 1)=(((nth L (nxQ q k j).toNat []).length - 1:Nat):Int):=by
          rw [ic_ (by omega) (by omega)];omega
        rw [d5_ (by omega),d3_ hg,d3_ hg,hw,d3_ (by omega),tn_]
        by_cases f:nth (nth L (nxQ q k j).toNat []) ((nth L (nxQ q k j).toNat []).length - 1) 0=((k:Nat):Int)
        · rw [d5_ (fun h=>h f)]
          refine ⟨_,rfl,hI.has hzl (by omega) ?_⟩
          have:=last_mem (l:=nth L (nxQ q k j).toNat []) (fun h=>d (by rw [h];rfl))
          rw [f]at this;exact this
        rw [d4_ f,d3_ hg,d3_ (by simp only [lo_];omega),d3_ hg]
        exact ⟨_,rfl,hI.put hzl (by omega)⟩
      rw [d5_ c]
      exact ⟨_,rfl,hI.skip (by omega)⟩)
    (by
      intro L hI
      refine ⟨.inl (L,k+1),?_,L,rfl,hI.len,fun z hz s=> ?_,fun z hz=>by have:=hI.few z hz;omega⟩
      · show Ax_ q k L 256=_
        unfold Ax_
        rw [d5_ (by omega)];rfl
      rw [hI.mem z hz]
      constructor
      · rintro ⟨t,e,⟨c,hx⟩|⟨c,hx⟩⟩
        · exact ⟨t,e,.inl ⟨by omega,hx⟩⟩
        exact ⟨t,e,.inl ⟨by omega,hx⟩⟩
      rintro ⟨t,e,⟨c,hx⟩|⟨c,b,hb,hx⟩⟩
      · by_cases d:t=k
        · exact ⟨t,e,.inr ⟨d,hx⟩⟩
        exact ⟨t,e,.inl ⟨by omega,hx⟩⟩
      omega) (s0:=L) hL
  exact ⟨L',h1,h2⟩
structure PshQ (m:Seq):Prop where
  lt: ∀s b,s<m.next.length→b<256→nxQ m s b<(m.next.length:Int)
  live: ∀s,s<m.next.length→rb_ m s
  bare: ∀s,s<m.next.length→ ∀p,ComQ m s p→p=[]
def nxC(m:Seq)(c:Nat):Int:=nxQ m (c / 256) (c % 256)
structure CanQ (m:Seq):Prop extends PshQ m where
  right:d9_ m=true
  first: ∀c j,c<m.next.length * 256→nxC m c=((j:Nat):Int)→ ∀k,0<k→k<j→ ∃c',c'<c∧nxC m c'=((k:Nat):Int)
  come: ∀j,0<j→j<m.next.length→ ∃c,c<j * 256∧nxC m c=((j:Nat):Int)
  apart: ∀s t,s<m.next.length→t<m.next.length→ev_ m s=ev_ m t→s=t
theorem i8_{q:Seq}{s b:Nat}(hb:b<256)(h0:0≤nxQ q s b)(w:T_1):ev_ q s (UInt8.ofNat b::w)=(ev_ q (nxQ q s b).toNat w).map fun y=>otQ q s b++y:=by
  rw [ev_,t2_ hb,if_neg (by omega)]
theorem sh_{q:Seq}{s b:Nat}(hb:b<256)(h0:nxQ q s b<0)(w:T_1):ev_ q s (UInt8.ofNat b::w)=none:=by
  rw [ev_,t2_ hb,if_pos h0]
theorem rw_{m m':Seq}(h:PshQ m){z z':Nat}(hz:z<m.next.length){o r:T_1}(he: ∀w,(ev_ m z w).map (fun y=>o++y)=(ev_ m' z' w).map fun y=>(o++r)++y):r=[]:=by
  refine h.bare z hz r fun w y hy=> ?_
  have:=he w
  rw [hy]at this
  cases ho:ev_ m' z' w with
  |none=>rw [ho]at this;cases this
  |some y'=>
    rw [ho]at this
    have this:o++y=(o++r)++y':=Option.some.inj this
    rw [ap_]at this
    exact ⟨y',(List.append_cancel_left this).symm⟩
theorem gv_ {m m' : Seq} (h : PshQ m) (h' : PshQ m') {s t b : Nat} (hs : s < m.next.length) (ht : t < m'.next.length) (hb : b < 256) (he : ev_ m s = ev_ m' t) (h0 : 0 ≤ nxQ m s b) :
    0≤nxQ m' t b∧otQ m s b=otQ m' t b∧ev_ m (nxQ m s b).toNat=ev_ m' (nxQ m' t b).toNat:=by
  have hz:=h.lt _ _ hs hb
  obtain ⟨w,y,hy⟩:=h.live (nxQ m s b).toNat (by omega)
  have h1:ev_ m s (UInt8.ofNat b::w)=some (otQ m s b++y):=by rw [i8_ hb h0,hy];rfl
  have h0':0≤nxQ m' t b:=by
    by_cases c:0≤nxQ m' t b
    · exact c
    rw [he,sh_ hb (by omega)]at h1;cases h1
  have hz':=h'.lt _ _ ht hb
  have hall: ∀w,(ev_ m (nxQ m s b).toNat w).map (fun y=>otQ m s b++y)=(ev_ m' (nxQ m' t b).toNat w).map fun y=>otQ m' t b++y:=fun w=>by
    rw [←i8_ hb h0,←i8_ hb h0',he]
  have ho:otQ m s b=otQ m' t b:=by
    have h2:=hall w
    rw [hy]at h2
    cases ho:ev_ m' (nxQ m' t b).toNat w with
    |none=>rw [ho]at h2;cases h2
    |some y'=>
      rw [ho]at h2
      have h3:otQ m s b++y=otQ m' t b++y':=Option.some.inj h2
      rcases List.prefix_or_prefix_of_prefix (List.prefix_append (otQ m s b) y) (h3▸List.prefix_append (otQ m' t b) y')with ⟨r,hr⟩|⟨r,hr⟩
      · have:r=[]:=rw_ h (show (nxQ m s b).toNat<_ by omega) (o:=otQ m s b) (r:=r) (m':=m') (z':=(nxQ m' t b).toNat) fun w=>by rw [hr];exact hall w
        rw [←hr,this,List.append_nil]
      have:r=[]:=rw_ h' (show (nxQ m' t b).toNat<_ by omega) (o:=otQ m' t b) (r:=r) (m':=m) (z':=(nxQ m s b).toNat) fun w=>by rw [hr];exact (hall w).symm
      rw [←hr,this,List.append_nil]
  refine ⟨h0',ho,funext fun w=> ?_⟩
  have h2:=hall w
  rw [ho]at h2
  cases h3:ev_ m (nxQ m s b).toNat w with
  |none=>cases h4:ev_ m' (nxQ m' t b).toNat w with
    |none=>rfl
    |some y'=>rw [h3,h4]at h2;cases h2
  |some y=>cases h4:ev_ m' (nxQ m' t b).toNat w with
    |none=>rw [h3,h4]at h2;cases h2
    |some y'=>
      rw [h3,h4]at h2
      have h5:otQ m' t b++y=otQ m' t b++y':=Option.some.inj h2
      rw [List.append_cancel_left h5]
theorem least{P:Nat→Prop}{c:Nat}(h:P c): ∃d,d≤c∧P d∧ ∀e,e<d→ ¬ P e:=by
  induction c using Nat.strongRecOn with
  |ind c ih=>
    by_cases k: ∃e,e<c∧P e
    · obtain ⟨e,k1,k2⟩:=k
      obtain ⟨d,h1,h2⟩:=ih e k1 k2
      exact ⟨d,by omega,h2⟩
    exact ⟨c,Nat.le_refl _,h,fun e he hp=>k ⟨e,he,hp⟩⟩
theorem t3_{m m':Seq}(h:CanQ m)(h':CanQ m')(he:ev_ m 0=ev_ m' 0)(j:Nat):j<m.next.length→j<m'.next.length→ev_ m j=ev_ m' j:=by
  induction j using Nat.strongRecOn with
  |ind j ih=>
    intro hj hj'
    by_cases c0:j=0
    · rw [c0];exact he
    obtain ⟨c1,hc1,hx1⟩:=h.come j (by omega) hj
    obtain ⟨c,hc,hx,hl⟩:=least (P:=fun c=>nxC m c=((j:Nat):Int)) hx1
    have hi:=ih (c / 256) (by omega) (by omega) (by omega)
    have h0 : 0 ≤ nxQ m (c / 256) (c % 256) := by have : nxQ m (c / 256) (c % 256) = ((j : Nat) : Int) := hx
                                                  omega
    obtain ⟨k1,k2,k3⟩:=gv_ h.toPshQ h'.toPshQ (by omega) (show c / 256<_ by omega) (show c % 256<256 by omega) hi h0
    have kl:=fe_ h'.right (show c / 256<m'.next.length by omega) (show c % 256<256 by omega)
    rw [show nxQ m (c / 256) (c % 256)=((j:Nat):Int)from hx,tn_]at k3
    obtain ⟨k,hk⟩: ∃k:Nat,nxQ m' (c / 256) (c % 256)=((k:Nat):Int):=⟨(nxQ m' (c / 256) (c % 256)).toNat,by omega⟩
    rw [hk,tn_]at k3
    by_cases ck:k=j
    · rw [ck]at k3;exact k3
    by_cases ck2:k<j
    · have:=ih k ck2 (by omega) (by omega)
      exact absurd (h.apart k j (by omega) hj (this.trans k3.symm)) ck
    obtain ⟨c',d1,d2⟩:=h'.first c k (by omega) hk j (by omega) (by omega)
    have hi':=ih (c' / 256) (by omega) (by omega) (by omega)
    have h0' : 0 ≤ nxQ m' (c' / 256) (c' % 256) := by have : nxQ m' (c' / 256) (c' % 256) = ((j : Nat) : Int) := d2
                                                      omega
    obtain ⟨e1,e2,e3⟩:=gv_ h'.toPshQ h.toPshQ (show c' / 256<_ by omega) (show c' / 256<_ by omega) (show c' % 256<256 by omega) hi'.symm h0'
    have el:=fe_ h.right (show c' / 256<m.next.length by omega) (show c' % 256<256 by omega)
    rw [show nxQ m' (c' / 256) (c' % 256)=((j:Nat):Int)from d2,tn_]at e3
    obtain ⟨k',hk'⟩: ∃k:Nat,nxQ m (c' / 256) (c' % 256)=((k:Nat):Int):=⟨(nxQ m (c' / 256) (c' % 256)).toNat,by omega⟩
    rw [hk',tn_]at e3
    by_cases cj:k'=j
    · rw [cj]at hk';exact absurd hk' (hl c' d1)
    by_cases cj2:k'<j
    · have:=ih k' cj2 (by omega) (by omega)
      exact absurd (h'.apart j k' hj' (by omega) (e3.trans this)) (by omega)
    obtain ⟨c'',f1,f2⟩:=h.first c' k' (by omega) hk' j (by omega) (by omega)
    exact absurd f2 (hl c'' (by omega))
theorem y7_{m m':Seq}(h:CanQ m)(h':CanQ m')(he:ev_ m 0=ev_ m' 0)(h0:0<m.next.length):m'.next.length≤m.next.length:=by
  by_cases c:m'.next.length≤m.next.length
  · exact c
  obtain ⟨c1,hc,hx⟩:=h'.come m.next.length h0 (by omega)
  have hi:=t3_ h h' he (c1 / 256) (by omega) (by omega)
  have h1 : 0 ≤ nxQ m' (c1 / 256) (c1 % 256) := by have : nxQ m' (c1 / 256) (c1 % 256) = ((m.next.length : Nat) : Int) := hx
                                                   omega
  obtain ⟨e1,e2,e3⟩:=gv_ h'.toPshQ h.toPshQ (show c1 / 256<_ by omega) (show c1 / 256<_ by omega) (show c1 % 256<256 by omega) hi.symm h1
  have el:=fe_ h.right (show c1 / 256<m.next.length by omega) (show c1 % 256<256 by omega)
  rw [show nxQ m' (c1 / 256) (c1 % 256)=((m.next.length:Nat):Int)from hx,tn_]at e3
  have:=t3_ h h' he (nxQ m (c1 / 256) (c1 % 256)).toNat (by omega) (by omega)
  have:=h'.apart _ _ (by omega) (by omega) (e3.trans this)
  omega
theorem f0_{m:Seq}(h:m.next=[])(hf:m.fin=[]): ∀(w:T_1) (s:Nat),ev_ m s w=none
  |[],s=>by rw [ev_,hf,if_neg (by simp [nth])]
  |b::w,s=>by
    rw [ev_]
    split
    · rfl
    rw [f0_ h hf w];rfl
theorem Hp_{m m':Seq}(h1:m.front=m'.front)(h2:m.next=m'.next)(h3:m.outs=m'.outs)(h4:m.fin=m'.fin)(h5:m.tail=m'.tail):m=m':=by
  cases m;cases m';simp only at h1 h2 h3 h4 h5;subst h1 h2 h3 h4 h5;rfl
theorem can_uniq {m m' : Seq} (h : CanQ m) (h' : CanQ m') (hf : m.front = m'.front) (he : ev_ m 0 = ev_ m' 0) : m = m' := by
  obtain ⟨q1,q2,q3,q4,q5⟩:=d7_ h.right
  obtain ⟨p1,p2,p3,p4,p5⟩:=d7_ h'.right
  have hz:m.next.length=0↔m'.next.length=0:=by
    constructor
    · intro h0
      by_cases c:m'.next.length=0
      · exact c
      obtain ⟨w,y,hy⟩:=h'.live 0 (by omega)
      rw [←he,f0_ (en_ h0) (en_ (by omega))]at hy
      cases hy
    intro h0
    by_cases c:m.next.length=0
    · exact c
    obtain ⟨w,y,hy⟩:=h.live 0 (by omega)
    rw [he,f0_ (en_ h0) (en_ (by omega))]at hy
    cases hy
  have hl:m.next.length=m'.next.length:=by
    by_cases c:m.next.length=0
    · rw [c,hz.1 c]
    exact Nat.le_antisymm (y7_ h' h he.symm (by omega)) (y7_ h h' he (by omega))
  have hs: ∀s,s<m.next.length→ev_ m s=ev_ m' s:=fun s k=>t3_ h h' he s k (by omega)
  have hnx: ∀s b,s<m.next.length→b<256→nxQ m s b=nxQ m' s b:=fun s b k hb=>by
    have g1:=u0_ h.right k hb
    have g2:=u0_ h'.right (show s<m'.next.length by omega) hb
    have g3:=fe_ h.right k hb
    have g4:=fe_ h'.right (show s<m'.next.length by omega) hb
    by_cases c:0≤nxQ m s b
    · obtain ⟨e1,e2,e3⟩:=gv_ h.toPshQ h'.toPshQ k (by omega) hb (hs s k) c
      have:=hs _ (show (nxQ m s b).toNat<_ by omega)
      have:=h'.apart _ _ (by omega) (by omega) (this.symm.trans e3)
      omega
    by_cases c':0≤nxQ m' s b
    · obtain ⟨e1,_⟩:=gv_ h'.toPshQ h.toPshQ (by omega) k hb (hs s k).symm c'
      exact absurd e1 c
    omega
  have hot: ∀s b,s<m.next.length→b<256→otQ m s b=otQ m' s b:=fun s b k hb=>by
    by_cases c:0≤nxQ m s b
    · exact (gv_ h.toPshQ h'.toPshQ k (by omega) hb (hs s k) c).2.1
    rw [iw_ h.right k hb (by omega),iw_ h'.right (by omega) hb (by rw [←hnx s b k hb];omega)]
  have hend: ∀s,s<m.next.length→nth m.fin s false=nth m'.fin s false∧nth m.tail s []=nth m'.tail s []:=fun s k=>by
    have e:=congrFun (hs s k) []
    rw [ev_,ev_]at e
    have t1:=(gg_ h.right k).2
    have t2:=(gg_ h'.right (show s<m'.next.length by omega)).2
    cases c1:nth m.fin s false with
    |true=>cases c2:nth m'.fin s false with
      |true=>rw [c1,c2,if_pos rfl,if_pos rfl]at e;exact ⟨rfl,Option.some.inj e⟩
      |false=>rw [c1,c2,if_pos rfl,if_neg (by decide)]at e;cases e
    |false=>cases c2:nth m'.fin s false with
      |true=>rw [c1,c2,if_pos rfl,if_neg (by decide)]at e;cases e
      |false=>
        rw [c1]at t1;rw [c2]at t2
        rcases t1 with t1|t1
        · cases t1
        rcases t2 with t2|t2
        · cases t2
        exact ⟨rfl,t1.trans t2.symm⟩
  refine Hp_ hf (kq_ [] hl fun s k=> ?_) (kq_ [] (by omega) fun s k=> ?_) (kq_ false (by omega) fun s k=>(hend s (by omega)).1) (kq_ [] (by omega) fun s k=>(hend s (by omega)).2)
  · have r1:=f7_ h.right k
    have r2:=f7_ h'.right (show s<m'.next.length by omega)
    exact kq_ 0 (by omega) fun b hb=>hnx s b k (by omega)
  have r1:=f7_ h.right (show s<m.next.length by omega)
  have r2:=f7_ h'.right (show s<m'.next.length by omega)
  exact kq_ [] (by omega) fun b hb=>hot s b (by omega) (by omega)
theorem kd_{α:Type}(l:List α){i:Nat}(h:i<l.length)(d:α):nth l i d=l[i]:=by
  have a:=getD_some l h d
  rw [List.getElem?_eq_getElem h]at a
  exact (Option.some.inj a).symm
theorem nodup_of{l:List Nat}(h: ∀i j,i<l.length→j<l.length→nth l i 0=nth l j 0→i=j):l.Nodup:=
  List.pairwise_iff_getElem.2 fun i j hi hj hij e=>by
    have:=h i j hi hj (by rw [kd_ l hi,kd_ l hj];exact e)
    omega
structure RowK (q:Seq) (s:Nat):Prop where
  tail:(nth q.tail s []).length≤4096
  fin:nth q.fin s false=true∨nth q.tail s []=[]
  n:(nth q.next s []).length=256
  o:(nth q.outs s []).length=256
  lo: ∀b,b<256→ -1≤nxQ q s b
  hi: ∀b,b<256→nxQ q s b<(q.next.length:Int)
  le: ∀b,b<256→(otQ q s b).length≤4096
  no: ∀b,b<256→nxQ q s b= -1→otQ q s b=[]
theorem tm_{q:Seq}(h1:q.next.length≤1024)(h2:q.outs.length=q.next.length)(h3:q.fin.length=q.next.length)(h4:q.tail.length=q.next.length)(h5:q.front.length≤4096)(h6:q.next.length≠0∨q.front=[])
    (h7: ∀s,s<q.next.length→RowK q s):d9_ q=true:=by
  unfold d9_ i7_
  simp only [Bool.and_eq_true,Bool.or_eq_true,dq_]
  refine ⟨⟨⟨⟨⟨⟨h1,h2⟩,h3⟩,h4⟩,h5⟩,h6⟩,hy_.2 fun s hs=> ?_⟩
  have k:=h7 s hs
  simp only [iu_,z5_,Bool.and_eq_true,Bool.or_eq_true,dq_]
  refine ⟨⟨k.tail,k.fin⟩,⟨k.n,k.o⟩,hy_.2 fun b hb=> ?_⟩
  simp only [n2_,Bool.and_eq_true,Bool.or_eq_true,dq_]
  refine ⟨⟨⟨k.lo b hb,k.hi b hb⟩,k.le b hb⟩,?_⟩
  by_cases c:nxQ q s b= -1
  · exact .inr (k.no b hb c)
  exact .inl c
theorem rightQ_row{q:Seq}(h:d9_ q=true){s:Nat}(hs:s<q.next.length):RowK q s:=
  ⟨(gg_ h hs).1,(gg_ h hs).2,(f7_ h hs).1,(f7_ h hs).2,fun _ hb=>u0_ h hs hb,fun _ hb=>fe_ h hs hb,fun _ hb=>n9_ h hs hb,fun _ hb c=>iw_ h hs hb (by omega)⟩
structure MinQ (r m:Seq) (st:List Nat):Prop where
  front:m.front=r.front
  n:m.next.length=st.length
  o:m.outs.length=st.length
  f:m.fin.length=st.length
  t:m.tail.length=st.length
  pos:0<st.length
  rng: ∀i,i<st.length→nth st i 0<r.next.length
  zero:ev_ r (nth st 0 0)=ev_ r 0
  dist: ∀i j,i<st.length→j<st.length→ev_ r (nth st i 0)=ev_ r (nth st j 0)→i=j
  len: ∀i,i<st.length→(nth m.next i []).length=256
  outs: ∀i,i<st.length→nth m.outs i []=nth r.outs (nth st i 0) []
  fin: ∀i,i<st.length→nth m.fin i false=nth r.fin (nth st i 0) false
  tail: ∀i,i<st.length→nth m.tail i []=nth r.tail (nth st i 0) []
  none: ∀i b,i<st.length→b<256→nxQ r (nth st i 0) b<0→nxQ m i b= -1
  some: ∀i b,i<st.length→b<256→0≤nxQ r (nth st i 0) b→ ∃j:Nat,j<st.length∧nxQ m i b=((j:Nat):Int)∧ev_ r (nth st j 0)=ev_ r (nxQ r (nth st i 0) b).toNat
  first: ∀c j,c<st.length * 256→nxC m c=((j:Nat):Int)→ ∀k,0<k→k<j→ ∃c',c'<c∧nxC m c'=((k:Nat):Int)
  come: ∀j,0<j→j<st.length→ ∃c,c<j * 256∧nxC m c=((j:Nat):Int)
theorem MinQ.out{r m:Seq}{st:List Nat}(h:MinQ r m st): ∀(w:T_1) (i:Nat),i<st.length→ev_ m i w=ev_ r (nth st i 0) w
  |[],i,hi=>by rw [ev_,ev_,h.fin i hi,h.tail i hi]
  |b::w,i,hi=>by
    have hb:b.toNat<256:=by have:=UInt8.toNat_lt b;omega
    rw [ev_,ev_]
    by_cases c:nxQ r (nth st i 0) b.toNat<0
    · rw [if_pos c,if_pos (by rw [h.none i _ hi hb c];decide)]
    obtain ⟨j,h1,h2,h3⟩:=h.some i _ hi hb (by omega)
    rw [if_neg c,if_neg (by omega),h2,tn_,h.out w j h1,h3]
    rw [show otQ m i b.toNat=otQ r (nth st i 0) b.toNat by unfold otQ;rw [h.outs i hi]]
theorem MinQ.nodup{r m:Seq}{st:List Nat}(h:MinQ r m st):st.Nodup:=nodup_of fun i j hi hj e=>h.dist i j hi hj (by rw [e])
theorem MinQ.le{r m:Seq}{st:List Nat}(h:MinQ r m st):st.length≤r.next.length:=by
  have h2:=ho_ h.nodup (m:=List.range r.next.length) fun x hx=>by
    obtain ⟨i,hi,rfl⟩:=List.getElem_of_mem hx
    rw [←kd_ st hi 0]
    exact List.mem_range.2 (h.rng i hi)
  rw [List.length_range]at h2;exact h2
theorem MinQ.right{r m:Seq}{st:List Nat}(h:MinQ r m st)(hr:d9_ r=true):d9_ m=true:=by
  obtain ⟨q1,q2,q3,q4,q5⟩:=d7_ hr
  have h0:=h.le
  have hn:=h.n
  have ho:=h.o
  have hf:=h.f
  have ht:=h.t
  have hp:=h.pos
  refine tm_ (by omega) (by omega) (by omega) (by omega) (by rw [h.front];exact q5) (.inl (by omega)) fun s hs=> ?_
  have hs:s<st.length:=by omega
  have k:=rightQ_row hr (h.rng s hs)
  have eo: ∀b,otQ m s b=otQ r (nth st s 0) b:=fun b=>by unfold otQ;rw [h.outs s hs]
  refine ⟨by rw [h.tail s hs];exact k.tail,by rw [h.tail s hs,h.fin s hs];exact k.fin,h.len s hs,by rw [h.outs s hs];exact k.o,fun b hb=> ?_,fun b hb=> ?_,fun b hb=>by rw [eo];exact k.le b hb,fun b hb c=> ?_⟩
  · by_cases c:nxQ r (nth st s 0) b<0
    · rw [h.none s b hs hb c];omega
    obtain ⟨j,h1,h2,h3⟩:=h.some s b hs hb (by omega)
    omega
  · by_cases c:nxQ r (nth st s 0) b<0
    · rw [h.none s b hs hb c];omega
    obtain ⟨j,h1,h2,h3⟩:=h.some s b hs hb (by omega)
    omega
  rw [eo]
  by_cases c':nxQ r (nth st s 0) b<0
  · exact iw_ hr (h.rng s hs) hb c'
  obtain ⟨j,h1,h2,h3⟩:=h.some s b hs hb (by omega)
  omega
theorem MinQ.can{r m:Seq}{st:List Nat}(h:MinQ r m st)(hr:PshQ r)(hR:d9_ r=true):CanQ m∧ev_ m 0=ev_ r 0∧m.next.length≤r.next.length:=by
  have hn:=h.n
  have ho: ∀i,i<st.length→ev_ m i=ev_ r (nth st i 0):=fun i hi=>funext fun w=>h.out w i hi
  refine ⟨⟨⟨fun s b hs hb=>fe_ (h.right hR) hs hb,fun s hs=> ?_,fun s hs p hp=> ?_⟩,h.right hR,fun c j hc=>h.first c j (by omega),fun j h1 h2=>h.come j h1 (by omega),fun s t hs ht e=> ?_⟩,(ho 0 h.pos).trans h.zero,by have:=h.le;omega⟩
  · obtain ⟨w,y,hy⟩:=hr.live _ (h.rng s (by omega))
    exact ⟨w,y,by rw [ho s (by omega)];exact hy⟩
  · refine hr.bare _ (h.rng s (by omega)) p fun w y hy=>hp w y ?_
    rw [ho s (by omega)];exact hy
  rw [ho s (by omega),ho t (by omega)]at e
  exact h.dist s t (by omega) (by omega) e
theorem rp_{α:Type}{l:List α}{s i:Nat}{x d:α}(h:i≠s):nth (l.set s x) i d=nth l i d:=by rw [ek_,if_neg (fun k=>h k.1.symm)]
theorem r2_{α:Type}{l:List α}{s:Nat}{x d:α}(h:s<l.length):nth (l.set s x) s d=x:=by rw [ek_,if_pos ⟨rfl,h⟩]
structure WtQ (n:Nat) (w:N_1) (ws:B_1):Prop where
  nd:w.Nodup
  rng: ∀z∈w,0≤z∧z<(n:Int)
  ln:ws.length=n
  wm: ∀s,s<n→(nth ws s false=true↔((s:Nat):Int)∈w)
theorem WtQ.len{n:Nat}{w:N_1}{ws:B_1}(h:WtQ n w ws):w.length≤n:=by
  have h2:=ho_ h.nd (m:=(List.range n).map fun i:Nat=>((i:Nat):Int)) fun z hz=>by
    have:=h.rng z hz
    exact List.mem_map.2 ⟨z.toNat,List.mem_range.2 (by omega),by omega⟩
  rw [List.length_map,List.length_range]at h2;exact h2
theorem WtQ.push{n:Nat}{w:N_1}{ws:B_1}(h:WtQ n w ws){s:Nat}(hs:s<n)(hn:nth ws s false=false):WtQ n (w++[((s:Nat):Int)]) (ws.set s true):=by
  have hl:=h.ln
  have hnm:((s:Nat):Int)∉w:=fun hm=>by
    have:=(h.wm s hs).2 hm
    rw [hn]at this;cases this
  refine ⟨?_,fun z hz=> ?_,by rw [ls_];exact hl,fun z hz=> ?_⟩
  · rw [List.nodup_append]
    refine ⟨h.nd,List.pairwise_singleton _ _,fun a ha b hb e=> ?_⟩
    rw [mo_]at hb
    rw [e,hb]at ha;exact hnm ha
  · rcases List.mem_append.1 hz with hz|hz
    · exact h.rng z hz
    rw [mo_]at hz;omega
  rw [ek_,List.mem_append,mo_]
  by_cases c:s=z
  · subst c
    rw [if_pos ⟨rfl,by omega⟩];simp
  rw [if_neg (fun q=>c q.1),h.wm z hz]
  constructor
  · exact .inl
  rintro (k|k)
  · exact k
  omega
theorem WtQ.pop{n:Nat}{s:Nat}{w:N_1}{ws:B_1}(h:WtQ n (((s:Nat):Int)::w) ws):WtQ n w (ws.set s false):=by
  have hs:=(h.rng _ (mc_ ..)).2
  have hl:=h.ln
  have hnd:=List.nodup_cons.1 h.nd
  refine ⟨hnd.2,fun z hz=>h.rng z (mm_ _ hz),by rw [ls_];exact hl,fun z hz=> ?_⟩
  rw [ek_]
  by_cases c:s=z
  · subst c
    rw [if_pos ⟨rfl,by omega⟩]
    exact ⟨fun q=>(by cases q),fun q=>absurd q hnd.1⟩
  rw [if_neg (fun q=>c q.1),h.wm z hz,List.mem_cons]
  constructor
  · rintro (k|k)
    · omega
    exact k
  exact .inr
def to_(m:B_1)(i:Nat):Nat:=if nth m i false=true then 1 else 0
theorem cntM_le(m:B_1)(n:Nat):e6_ (to_ m) n≤n:=by
  have:=rd_ (f:=to_ m) (g:=fun _=>1) (n:=n) fun i _=>by unfold to_;split<;>omega
  rw [ku_]at this;omega
structure FrB (q:Seq) (l:T_2) (m:B_1):Prop where
  fr:FrI q l m
  dn:z1_ q l m
  len: ∀s,s<q.next.length→nth m s false=true→(nth l s []).length≤4096 * e6_ (to_ m) q.next.length
theorem FrB.le{q:Seq}(hq:d9_ q=true){l:T_2}{m:B_1}(h:FrB q l m): ∀s,s<q.next.length→nth m s false=true→(nth l s []).length≤4194304:=fun s hs hm=>by
  have h1:=h.len s hs hm
  have h2:=cntM_le m q.next.length
  have h3:=(d7_ hq).1
  omega
theorem FrB.put{q:Seq}(hq:d9_ q=true){l:T_2}{m:B_1}(h:FrB q l m){s:Nat}(hs:s<q.next.length)(hn:h7_ q l m s≠[]):FrB q (l.set s (gn_ (h7_ q l m s))) (m.set s true):=by
  have hl:=h.fr.ln
  have hm:=h.fr.mn
  have hcnt:e6_ (to_ (m.set s true)) q.next.length+to_ m s=e6_ (to_ m) q.next.length+1:=by
    have:=lv_ (f:=to_ m) (g:=to_ (m.set s true)) (s:=s) (n:=q.next.length) hs fun i hi hne=>by
      unfold to_;rw [rp_ hne]
    have e:to_ (m.set s true) s=1:=by unfold to_;rw [r2_ (by omega)];rfl
    omega
  have hc1:to_ m s≤1:=by unfold to_;split<;>omega
  refine ⟨h.fr.put hq hs hn,h.dn.put hq hs hl hm hn,fun z hz hz2=> ?_⟩
  rw [ek_]at hz2 ⊢
  by_cases c:s=z
  · subst c
    rw [if_pos ⟨rfl,by omega⟩]
    cases hms:nth m s false with
    |true=>
      have k1:=(h.dn s hs hms).2.length_le
      have k2:=h.len s hs hms
      omega
    |false=>
      have e0:to_ m s=0:=by unfold to_;rw [hms];rfl
      have:=yp_ (L:=h7_ q l m s) (k:=4096+4096 * e6_ (to_ m) q.next.length) (o3_ hq hs (fun z hz hz2=>h.len z hz hz2) (Nat.le_refl _))
      omega
  rw [if_neg (fun k=>c k.1)]at hz2 ⊢
  have:=h.len z hz hz2
  omega
def ts_(l:T_2)(m:B_1)(i:Nat):Nat:=if nth m i false=true then (nth l i []).length else 4200000
theorem FrB.mea{q:Seq}(hq:d9_ q=true){l:T_2}{m:B_1}(h:FrB q l m){s:Nat}(hs:s<q.next.length)(hc:nth m s false=true→gn_ (h7_ q l m s)≠nth l s []):
    e6_ (ts_ (l.set s (gn_ (h7_ q l m s))) (m.set s true)) q.next.length<e6_ (ts_ l m) q.next.length:=by
  have hl:=h.fr.ln
  have hm:=h.fr.mn
  have h1:=lv_ (f:=ts_ l m) (g:=ts_ (l.set s (gn_ (h7_ q l m s))) (m.set s true)) (s:=s) hs fun i hi hne=>by
    unfold ts_;rw [rp_ hne,rp_ hne]
  have e:ts_ (l.set s (gn_ (h7_ q l m s))) (m.set s true) s=(gn_ (h7_ q l m s)).length:=by
    unfold ts_;rw [r2_ (by omega),r2_ (by omega),if_pos rfl]
  have e2:(gn_ (h7_ q l m s)).length<ts_ l m s:=by
    unfold ts_
    cases hms:nth m s false with
    |true=>
      rw [if_pos rfl]
      have k1:=(h.dn s hs hms).2
      refine Nat.lt_of_le_of_ne k1.length_le fun k2=>hc hms (k1.eq_of_length k2)
    |false=>
      rw [if_neg (by decide)]
      have:=yp_ (L:=h7_ q l m s) (k:=4096+4194304) (o3_ hq hs (h.le hq) (Nat.le_refl _))
      omega
  omega
structure WkQ (q:Seq) (l:T_2) (m:B_1) (w:N_1) (ws:B_1):Prop extends FrB q l m where
  wt:WtQ q.next.length w ws
  ne: ∀z∈w,h7_ q l m z.toNat≠[]
  done: ∀s,s<q.next.length→((s:Nat):Int)∉w→y1_ q l m s
theorem all_same{q:Seq}{l l':T_2}{m m':B_1}{s z:Nat}(h: ∀b,b<256→nxQ q z b≠((s:Nat):Int))(hl: ∀i,i≠s→nth l' i []=nth l i [])(hm: ∀i,i≠s→nth m' i false=nth m i false):h7_ q l' m' z=h7_ q l m z:=by
  unfold h7_ js_
  congr 1
  have key: ∀b∈List.range 256,y2_ q l' m' z b=y2_ q l m z b:=fun b hb=>by
    have hb:=List.mem_range.1 hb
    unfold y2_
    by_cases c:0≤nxQ q z b
    · have hne:(nxQ q z b).toNat≠s:=fun e=>h b hb (by omega)
      rw [hl _ hne,hm _ hne]
    rw [if_neg (fun k=>c k.1),if_neg (fun k=>c k.1)]
  rw [List.flatMap_def,List.flatMap_def,List.map_congr_left key]
theorem WkQ.put {q : Seq} (hq : d9_ q = true) {L : N_2} (hL : BkQ q q.next.length 0 L) {l : T_2} {m : B_1} {s : Nat} {w w' : N_1} {ws ws' : B_1} (h : WkQ q l m (((s : Nat) : Int) :: w) ws)
    (hw:WtQ q.next.length w' ws') (h1: ∀z∈w,z∈w') (h2: ∀z∈nth L s [],z∈w') (h3: ∀z∈w',z∈w∨z∈nth L s []):WkQ q (l.set s (gn_ (h7_ q l m s))) (m.set s true) w' ws':=by
  have hs:=(h.wt.rng _ (mc_ ..)).2
  have hs:s<q.next.length:=by omega
  have hn:=h.ne _ (mc_ ..)
  rw [tn_]at hn
  have hl:=h.fr.ln
  have hm:=h.fr.mn
  have hle:=put_le h.dn hs hl hm
  have hcov: ∀z,z<q.next.length→ ∀b,b<256→nxQ q z b=((s:Nat):Int)→((z:Nat):Int)∈nth L s []:=fun z hz b hb hx=>(hL.mem s hs _).2 ⟨z,rfl,.inl ⟨hz,b,hb,hx⟩⟩
  refine ⟨h.toFrB.put hq hs hn,hw,fun z hz=> ?_,fun z hz hz2=> ?_⟩
  · have hzr:=hw.rng z hz
    rcases h3 z hz with hz|hz
    · obtain ⟨x,hx⟩:=List.exists_mem_of_ne_nil _ (h.ne z (mm_ _ hz))
      obtain ⟨x',hx',_⟩:=hle.all hq (show z.toNat<_ by omega) x hx
      exact List.ne_nil_of_mem hx'
    obtain ⟨t,rfl,⟨c,b,hb,hx⟩|⟨_,b,hb,_⟩⟩:=(hL.mem s hs _).1 hz
    · rw [tn_]
      have hmem:otQ q t b++nth (l.set s (gn_ (h7_ q l m s))) (nxQ q t b).toNat []∈h7_ q (l.set s (gn_ (h7_ q l m s))) (m.set s true) t:=ir_.2 (.inr ⟨b,hb,by omega,by
        rw [hx,tn_,ek_,if_pos ⟨rfl,by omega⟩],rfl⟩)
      exact List.ne_nil_of_mem hmem
    omega
  have hno: ∀b,b<256→nxQ q z b≠((s:Nat):Int):=fun b hb hx=>hz2 (h2 _ (hcov z hz b hb hx))
  have hsame:=all_same (l:=l) (l':=l.set s (gn_ (h7_ q l m s))) (m:=m) (m':=m.set s true) hno (fun i hi=>by rw [ek_,if_neg (fun k=>hi k.1.symm)]) (fun i hi=>by rw [ek_,if_neg (fun k=>hi k.1.symm)])
  unfold y1_
  rw [hsame,ek_,ek_]
  by_cases c:s=z
  · subst c
    rw [if_pos ⟨rfl,by omega⟩,if_pos ⟨rfl,by omega⟩]
    exact ⟨fun _=>rfl,fun k=>by cases k⟩
  rw [if_neg (fun k=>c k.1),if_neg (fun k=>c k.1)]
  refine h.done z hz fun hm2=> ?_
  rcases List.mem_cons.1 hm2 with e|e
  · omega
  exact hz2 (h1 _ e)
theorem WkQ.drop{q:Seq}{l:T_2}{m:B_1}{s:Nat}{w:N_1}{ws:B_1}(h:WkQ q l m (((s:Nat):Int)::w) ws)(h1:nth m s false=true)(h2:gn_ (h7_ q l m s)=nth l s []):WkQ q l m w (ws.set s false):=by
  refine ⟨h.toFrB,h.wt.pop,fun z hz=>h.ne z (mm_ _ hz),fun z hz hz2=> ?_⟩
  by_cases c:z=s
  · subst c
    exact ⟨fun _=>h2.symm,fun k=>by rw [h1]at k;cases k⟩
  refine h.done z hz fun hm=> ?_
  rcases List.mem_cons.1 hm with e|e
  · omega
  exact hz2 e
theorem fr_in {q : Seq} {L : N_2} (hL : BkQ q q.next.length 0 L) (hn : q.next.length ≤ 1024) {l : T_2} {m : B_1} {s : Nat} (hs : s < q.next.length) {w : N_1} {ws : B_1} (hw : WtQ q.next.length w ws) (f : T_1) (z0 : N_1) (hz0 : (nth z0 0 0).toNat = s) :
    ∃w' ws',eq_ (fun z:N_1×B_1×Nat=>Av_ L z0 l f m z.1 z.2.1 z.2.2) (w,ws,0)=some (.inl (l.set s f,m.set s true,w',ws'))∧WtQ q.next.length w' ws'∧(∀z∈w,z∈w')∧(∀z∈nth L s [],z∈w')∧ ∀z∈w',z∈w∨z∈nth L s []:=by
  obtain ⟨r,h1,w',ws',rfl,h2⟩:=er_ (step:=fun z:N_1×B_1×Nat=>Av_ L z0 l f m z.1 z.2.1 z.2.2) (fun (z:N_1×B_1) k=>(z.1,z.2,k)) (nth L s []).length
    (fun k z=>WtQ q.next.length z.1 z.2∧(∀y∈w,y∈z.1)∧(∀j,j<k→nth (nth L s []) j 0∈z.1)∧ ∀y∈z.1,y∈w∨y∈nth L s [])
    (fun r=> ∃w' ws',r= .inl (l.set s f,m.set s true,w',ws')∧WtQ q.next.length w' ws'∧(∀z∈w,z∈w')∧(∀z∈nth L s [],z∈w')∧ ∀z∈w',z∈w∨z∈nth L s [])
    (by
      rintro k ⟨v,vs⟩ hk ⟨k1,k2,k3,k4⟩
      simp only at k1 k2 k3 k4
      left
      have hmem:=gf_ (0:Int) hk
      obtain ⟨t,e,⟨c,_⟩|⟨_,b,hb,_⟩⟩:=(hL.mem s hs _).1 hmem
      rotate_left
      · omega
      have hvl:=k1.len
      have hln:=k1.ln
      have hfew:=hL.few s hs
      show ∃s':N_1×B_1,Av_ L z0 l f m v vs k=some (.inl (s'.1,s'.2,k+1))∧_
      unfold Av_ Dw_
      rw [hz0,d4_ (by omega),d3_ (by omega),e,tn_]
      cases d:nth vs t false with
      |true=>
        rw [gk_,d3_ (by omega)]
        refine ⟨(v,vs),rfl,k1,k2,fun j hj=> ?_,k4⟩
        by_cases cj:j<k
        · exact k3 j cj
        have:j=k:=by omega
        subst this
        show nth (nth L s []) j 0∈v
        rw [e];exact (k1.wm t c).1 d
      |false=>
        rw [id_,d3_ (by simp only [lo_];omega),d3_ (by omega),d3_ (by omega)]
        refine ⟨(v++[((t:Nat):Int)],vs.set t true),rfl,k1.push c d,fun y hy=>List.mem_append_left _ (k2 y hy),fun j hj=> ?_,fun y hy=> ?_⟩
        · by_cases cj:j<k
          · exact List.mem_append_left _ (k3 j cj)
          have:j=k:=by omega
          subst this
          show nth (nth L s []) j 0∈v++_
          rw [e];exact List.mem_append_right _ (List.mem_singleton.2 rfl)
        rcases List.mem_append.1 hy with hy|hy
        · exact k4 y hy
        rw [mo_]at hy
        rw [hy,←e];exact .inr hmem)
    (by
      rintro ⟨v,vs⟩ ⟨k1,k2,k3,k4⟩
      simp only at k1 k2 k3 k4
      refine ⟨.inl (l.set s f,m.set s true,v,vs),?_,v,vs,rfl,k1,k2,fun z hz=> ?_,k4⟩
      · show Av_ L z0 l f m v vs (nth L s []).length=_
        unfold Av_
        rw [hz0,d5_ (by omega)];rfl
      obtain ⟨j,hj,rfl⟩:=List.getElem_of_mem hz
      have:=k3 j hj
      rwa [kd_ _ hj]at this) (s0:=(w,ws)) ⟨hw,fun y hy=>hy,fun j hj=>by omega,fun y hy=> .inl hy⟩
  exact ⟨w',ws',h1,h2⟩
theorem fr_run {q : Seq} (hq : d9_ q = true) {L : N_2} (hL : BkQ q q.next.length 0 L) {l : T_2} {m : B_1} {w : N_1} {ws : B_1} (h : WkQ q l m w ws) :
    ∃r,eq_ (fun z:T_2×B_1×N_1×B_1=>A8_ q L z.1 z.2.1 z.2.2.1 z.2.2.2) (l,m,w,ws)=some r∧FrOk q r.1 r.2:=by
  refine r0_ (step:=fun z:T_2×B_1×N_1×B_1=>A8_ q L z.1 z.2.1 z.2.2.1 z.2.2.2) (fun z=>WkQ q z.1 z.2.1 z.2.2.1 z.2.2.2) (fun z=>e6_ (ts_ z.1 z.2.1) q.next.length * (q.next.length+1)+z.2.2.1.length) (fun r=>FrOk q r.1 r.2) ?_ h
  rintro ⟨l,m,w,ws⟩ hI
  simp only at hI
  have hn:=(d7_ hq).1
  show (∃t',A8_ q L l m w ws=some (.inl t')∧WkQ q t'.1 t'.2.1 t'.2.2.1 t'.2.2.2∧e6_ (ts_ t'.1 t'.2.1) q.next.length * (q.next.length+1)+t'.2.2.1.length<e6_ (ts_ l m) q.next.length * (q.next.length+1)+w.length)∨ ∃r,A8_ q L l m w ws=some (.inr r)∧FrOk q r.1 r.2
  unfold A8_
  cases w with
  |nil=>
    right
    rw [d5_ (by simp)]
    exact ⟨_,rfl,hI.fr.ok hq (hI.le hq) fun s hs=>hI.done s hs (by simp)⟩
  |cons z w=>
    left
    have hz:=hI.wt.rng z (mc_ ..)
    obtain ⟨s,rfl⟩: ∃s:Nat,z=((s:Nat):Int):=⟨z.toNat,by omega⟩
    have hs:s<q.next.length:=by omega
    have hws:=hI.wt.ln
    have hml:=hI.fr.mn
    have hll:=hI.fr.ln
    have hLl:=hL.len
    have hfr:=wa_ hq hll hml hs (hI.le hq)
    have e0:nth (((s:Nat):Int)::w) 0 0=((s:Nat):Int):=rfl
    have e1:(((s:Nat):Int)::w).drop 1=w:=rfl
    rw [d4_ (by simp only [List.length_cons];omega),d3_ (by simp)]
    simp only [e0,e1]
    rw [d3_ (by omega),hfr,ed_,d3_ (by omega),tn_]
    have hgo:(nth m s false=true→gn_ (h7_ q l m s)≠nth l s [])→ ∃t',Cw_ (((s:Nat):Int)::w) l m L (gn_ (h7_ q l m s)) ws=some (.inl t')∧WkQ q t'.1 t'.2.1 t'.2.2.1 t'.2.2.2∧e6_ (ts_ t'.1 t'.2.1) q.next.length * (q.next.length+1)+t'.2.2.1.length<e6_ (ts_ l m) q.next.length * (q.next.length+1)+(((s:Nat):Int)::w).length:=by
      intro hc
      unfold Cw_
      simp only [e0,e1]
      rw [d3_ (by omega),d3_ (by omega),d3_ (by omega),tn_]
      obtain ⟨w',ws',k1,k2,k3,k4,k5⟩:=fr_in hL hn (l:=l) (m:=m) hs hI.wt.pop (gn_ (h7_ q l m s)) (((s:Nat):Int)::w) (by rw [e0,tn_])
      refine ⟨_,k1,hI.put hq hL k2 k3 k4 k5,?_⟩
      have h1:=hI.mea hq hs hc
      have h2:=k2.len
      show e6_ (ts_ (l.set s (gn_ (h7_ q l m s))) (m.set s true)) q.next.length * (q.next.length+1)+w'.length<_
      have h3:=Nat.mul_le_mul_right (q.next.length+1) (Nat.succ_le_of_lt h1)
      rw [Nat.succ_mul]at h3
      omega
    cases hm:nth m s false with
    |true=>
      rw [iteO_true,d3_ (by omega)]
      by_cases c:gn_ (h7_ q l m s)=nth l s []
      · rw [d4_ c]
        refine ⟨_,rfl,hI.drop hm c,?_⟩
        simp only [List.length_cons];omega
      rw [d5_ c];exact hgo fun _=>c
    |false=>
      rw [iteO_false];exact hgo fun k=>by rw [hm]at k;cases k
theorem fr_ends {q : Seq} (hq : d9_ q = true) {L : N_2} (hL : BkQ q q.next.length 0 L) : ∃ r, Dp_ q L = some r ∧ FrOk q r.1 r.2 := by
  obtain ⟨q1,q2,q3,q4,q5⟩:=d7_ hq
  unfold Dp_
  refine er_ (step:=fun z:N_1×B_1×Nat=>A6_ q L z.1 z.2.1 z.2.2) (fun (z:N_1×B_1) k=>(z.1,z.2,k)) q.fin.length (fun k z=>WtQ q.next.length z.1 z.2∧ ∀s:Nat,((s:Nat):Int)∈z.1↔s<k∧nth q.fin s false=true) (fun r=>FrOk q r.1 r.2) ?_ ?_ (s0:=([],List.replicate q.next.length false)) ⟨⟨List.nodup_nil,by simp,by simp,fun s hs=>by rw [g9_];simp⟩,by simp⟩
  · rintro k ⟨v,vs⟩ hk ⟨k1,k2⟩
    simp only at k1 k2
    left
    have hln:=k1.ln
    have hvl:=k1.len
    show ∃s':N_1×B_1,A6_ q L v vs k=some (.inl (s'.1,s'.2,k+1))∧_
    unfold A6_ Dt_
    rw [d4_ (by omega)]
    cases hf:nth q.fin k false with
    |true=>
      rw [iteO_true,d3_ (by simp only [lo_];omega),d3_ (by omega)]
      have hnk:nth vs k false=false:=by
        cases c:nth vs k false with
        |false=>rfl
        |true=>have:=(k2 k).1 ((k1.wm k (by omega)).1 c);omega
      refine ⟨(v++[((k:Nat):Int)],vs.set k true),rfl,k1.push (by omega) hnk,fun s=> ?_⟩
      show ((s:Nat):Int)∈v++_↔_
      rw [List.mem_append,mo_,k2]
      constructor
      · rintro (⟨c,d⟩|c)
        · exact ⟨by omega,d⟩
        have:s=k:=by omega
        subst this;exact ⟨by omega,hf⟩
      rintro ⟨c,d⟩
      by_cases e:s=k
      · subst e;exact .inr rfl
      exact .inl ⟨by omega,d⟩
    |false=>
      rw [iteO_false]
      refine ⟨(v,vs),rfl,k1,fun s=> ?_⟩
      rw [k2]
      constructor
      · rintro ⟨c,d⟩;exact ⟨by omega,d⟩
      rintro ⟨c,d⟩
      refine ⟨?_,d⟩
      by_cases e:s=k
      · subst e;rw [hf]at d;cases d
      omega
  rintro ⟨v,vs⟩ ⟨k1,k2⟩
  simp only at k1 k2
  have hmf: ∀s,nth (List.replicate q.next.length false) s false=false:=fun s=>g9_ _ _ _
  have hall: ∀s,h7_ q (List.replicate q.next.length []) (List.replicate q.next.length false) s=if nth q.fin s false=true then [nth q.tail s []] else []:=fun s=>by
    unfold h7_ js_
    have:(List.range 256).flatMap (y2_ q (List.replicate q.next.length []) (List.replicate q.next.length false) s)=[]:=List.flatMap_eq_nil_iff.2 fun b _=>by
      unfold y2_
      rw [if_neg (fun k=>by rw [hmf]at k;cases k.2)]
    rw [this,List.append_nil]
  have hI:WkQ q (List.replicate q.next.length []) (List.replicate q.next.length false) v vs:=
    ⟨⟨⟨by simp,by simp,fun s _ _=>g9_ _ _ _,fun s _ k=>(by rw [hmf]at k;cases k),fun s _ k=>(by rw [hmf]at k;cases k)⟩,fun s _ k=>(by rw [hmf]at k;cases k),fun s _ k=>(by rw [hmf]at k;cases k)⟩,k1,fun z hz=>(by
        have hzr:=k1.rng z hz
        have:=(k2 z.toNat).1 (by rw [show ((z.toNat:Nat):Int)=z by omega];exact hz)
        rw [hall,if_pos this.2];simp),fun s hs hn=>⟨fun k=>(by rw [hmf]at k;cases k),fun _=>(by
        rw [hall,if_neg]
        exact fun hf=>hn ((k2 s).2 ⟨by omega,hf⟩))⟩⟩
  obtain ⟨r,h1,h2⟩:=fr_run hq hL hI
  refine ⟨r,?_,h2⟩
  show A6_ q L v vs q.fin.length=_
  unfold A6_
  rw [d5_ (by omega),h1];rfl
theorem yq_{q:Seq}(hq:d9_ q=true): ∃r,Er_ q=some r∧FrOk q r.1 r.2:=by
  obtain ⟨q1,q2,q3,q4,q5⟩:=d7_ hq
  unfold Er_
  rw [d3_ (by omega)]
  refine er_ (step:=fun z:N_2×Nat=>A7_ q z.1 z.2) (fun L k=>(L,k)) q.next.length (fun k L=>BkQ q k 0 L) (fun r=>FrOk q r.1 r.2) ?_ ?_ (s0:=List.replicate q.next.length []) ⟨by simp,fun z hz s=>by
      rw [g9_]
      constructor
      · intro k;cases k
      rintro ⟨t,_,⟨c,_⟩|⟨_,b,hb,_⟩⟩<;>omega,fun z hz=>by rw [g9_];simp⟩
  · intro k L hk hI
    left
    show ∃s',A7_ q L k=_∧_
    unfold A7_
    rw [d4_ (by omega)]
    obtain ⟨L',h1,h2⟩:=zf_ hq hk hI
    exact ⟨L',h1,h2⟩
  intro L hI
  obtain ⟨r,h1,h2⟩:=fr_ends hq hI
  refine ⟨r,?_,h2⟩
  show A7_ q L q.next.length=_
  unfold A7_ El_
  rw [d5_ (by omega),d3_ (by omega),d3_ (by omega),d3_ (by omega),h1];rfl
section
variable {α:Type} [DecidableEq α] (d:α)
def ddN(l:List α):Nat→List α
  |0=>[]
  |n+1=>ddN l n++(if n=0∨nth l n d≠nth l (n - 1) d then [nth l n d] else [])
theorem ue_(l:List α): ∀n,n≤l.length→ ∀x,x∈ddN d l n↔x∈l.take n
  |0,_,x=>by simp [ddN]
  | n + 1, h, x => by
    rw [ddN,ex_ l (by omega) d,List.mem_append,List.mem_append,ue_ l n (by omega)]
    by_cases hc:n=0∨nth l n d≠nth l (n - 1) d
    · rw [if_pos hc]
    rw [if_neg hc]
    simp only [not_or,ne_eq,Decidable.not_not]at hc
    have:nth l n d∈l.take n:=by
      rw [hc.2]
      have h1:(l.take n)[n - 1]? =some (nth l (n - 1) d):=by rw [List.getElem?_take,if_pos (by omega)];exact getD_some l (by omega) d
      exact List.mem_of_getElem? h1
    constructor
    · rintro (h|h)
      · exact .inl h
      cases h
    rintro (h|h)
    · exact .inl h
    rw [List.mem_singleton.1 h];exact .inl this
theorem wz_{l:List α}{k i:Nat}{v:α}(h:i≠k):nth (l.set k v) i d=nth l i d:=by
  simp [nth,List.getD,List.getElem?_set,Ne.symm h]
include d in
theorem ra_{l:List α}{k:Nat}{v:α}(h:k<l.length):(l.set k v).take (k+1)=l.take k++[v]:=by
  rw [ex_ (l.set k v) (by simpa using h) d]
  congr 1
  · rw [List.take_set_of_le (Nat.le_refl _)]
  simp [nth,List.getD,h]
def gC_j(k125:Nat)(l128:List α)(k130:Nat):Option ((List α×Nat×Nat)⊕(Nat⊕List α)):=
  nxt (l128,k130,(k125+1))
def x9_(x0:List α)(k105:Nat)(l122:List α)(k124:Nat)(k125:Nat):Option ((List α×Nat×Nat)⊕(Nat⊕List α)):=
  ec_ (decide (((k125:Nat):Int)<(((x0.length - k105):Nat):Int))) (grd (k125<(x0.length - k105)) (grd (0≤(IntKind.i64.wrap (((k125:Nat):Int) - 1))∧(IntKind.i64.wrap (((k125:Nat):Int) - 1))<((x0.length - k105):Nat)) (ec_ (decide (¬ ((nth l122 (k105+k125) d)=(nth l122 (k105+(IntKind.i64.wrap (((k125:Nat):Int) - 1)).toNat) d)))) (grd (k125<(x0.length - k105)) (grd (k124<l122.length) (gC_j k125 (l122.set k124 (nth l122 (k105+k125) d)) (k124+1)))) (gC_j k125 l122 k124)))) (fin (grd (k124≤x0.length) (grd (k124≤(l122.take k124++List.replicate (l122.length - k124) d).length) (fin (some ((l122.take k124++List.replicate (l122.length - k124) d).take k124))))))
def gC_b1(x0:List α)(k105:Nat):Option ((Nat)⊕(List α)):=
  ec_ (decide (((k105:Nat):Int)<((x0.length:Nat):Int))) (grd (0≤(IntKind.i64.wrap (((k105:Nat):Int) - 1))∧(IntKind.i64.wrap (((k105:Nat):Int) - 1))<(x0.length:Int)) (ec_ (decide ((nth x0 k105 d)=(nth x0 ((IntKind.i64.wrap (((k105:Nat):Int) - 1)).toNat) d))) (grd (k105≤x0.length) (eq_ (fun q:(List α)×Nat×Nat=>x9_ d x0 k105 q.1 q.2.1 q.2.2) (x0,k105,1))) (nxt (k105+1)))) (fin (some x0))
def gC(x0:List α):Option (List α):=
  ec_ (decide (((x0.length:Nat):Int)<2)) (some x0) (eq_ (fun q:Nat=>gC_b1 d x0 q) 1)
theorem so_{k:Nat}(h1:1≤k)(h2:k≤281474976710656):IntKind.i64.wrap ((k:Int) - 1)=((k - 1:Nat):Int):=by
  rw [ic_ (by omega) (by omega)];omega
theorem gC_in {l : List α} (hl : l.length ≤ 281474976710656) {k0 : Nat} (h0 : 1 ≤ k0) (hk : k0 < l.length) (he : nth l k0 d = nth l (k0 - 1) d) (hd : ddN d l k0 = l.take k0) :
    eq_ (fun q:(List α)×Nat×Nat=>x9_ d l k0 q.1 q.2.1 q.2.2) (l,k0,1)=some (.inr (ddN d l l.length)):=by
  refine Exists.elim (vz_ (step:=fun q:(List α)×Nat×Nat=>x9_ d l k0 q.1 q.2.1 q.2.2)
    (fun q=>1≤q.2.2∧k0+q.2.2≤l.length∧q.1.length=l.length∧q.2.1≤k0+q.2.2 - 1∧(∀i,k0+q.2.2 - 1≤i→nth q.1 i d=nth l i d)∧q.1.take q.2.1=ddN d l (k0+q.2.2))
    (fun r=>r= .inr (ddN d l l.length)) (fun q=>l.length - q.2.2) ?_ (l,k0,1) ⟨Nat.le_refl _,hk,rfl,by simp only;omega,fun _ _=>rfl,?_⟩) (fun r hr=>by rw [hr.1,hr.2])
  · rintro ⟨l2,k,j⟩ ⟨hj,hjl,hlen,hkj,hI,ht⟩
    simp only at hj hjl hlen hkj hI ht
    have hw:IntKind.i64.wrap ((j:Int) - 1)=((j - 1:Nat):Int):=so_ hj (by omega)
    by_cases hlt:k0+j<l.length
    · left
      have e1:=hI (k0+j) (by omega)
      have e2:=hI (k0+(j - 1)) (by omega)
      simp only [x9_,hw,tn_,decide_eq_true (show ((j:Nat):Int)<((l.length - k0:Nat):Int) by omega),iteO_true,
        d3_ (show j<l.length - k0 by omega),d3_ (show (0:Int)≤((j - 1:Nat):Int)∧((j - 1:Nat):Int)<((l.length - k0:Nat):Int) by omega),e1,e2]
      have e3:k0+(j - 1)=k0+j - 1:=by omega
      by_cases hc:nth l (k0+j) d=nth l (k0+(j - 1)) d
      · simp only [hc,not_true_eq_false,decide_false,iteO_false,gC_j]
        refine ⟨_,rfl,⟨by simp only;omega,by simp only;omega,hlen,by simp only;omega,fun i hi=>hI i (by simp only at hi;omega),?_⟩,by simp only;omega⟩
        simp only
        rw [ht,←Nat.add_assoc,ddN,if_neg,List.append_nil]
        rw [hc,e3];simp;omega
      simp only [hc,not_false_eq_true,decide_true,iteO_true,d3_ (show k<l2.length by omega),gC_j]
      refine ⟨_,rfl,⟨by simp only;omega,by simp only;omega,by simp only [ls_];exact hlen,by simp only;omega,fun i hi=> ?_,?_⟩,by simp only;omega⟩
      · simp only at hi ⊢
        rw [wz_ d (by omega)];exact hI i (by omega)
      simp only
      rw [ra_ d (by omega),ht,←Nat.add_assoc,ddN,if_pos]
      rw [e3]at hc;exact .inr hc
    right
    have hjl':k0+j=l.length:=by omega
    have hkl:(l2.take k).length=k:=by rw [List.length_take];omega
    refine ⟨.inr (ddN d l l.length),?_,rfl⟩
    simp only [x9_,decide_eq_false (show ¬ ((j:Nat):Int)<((l.length - k0:Nat):Int) by omega),iteO_false,d3_ (show k≤l.length by omega)]
    rw [d3_ (by rw [la_,hkl];omega),List.take_append_of_le_length (by omega),List.take_of_length_le (by omega),ht,hjl']
    rfl
  simp only
  rw [ddN,if_neg (by rw [he];simp;omega),List.append_nil,hd]
theorem gC_eq {l : List α} (hl : l.length ≤ 281474976710656) : gC d l = some (ddN d l l.length) := by
  unfold gC
  by_cases h2:l.length<2
  · rw [decide_eq_true (by omega),iteO_true]
    match l,h2 with
    |[],_=>rfl
    |[x],_=>rfl
  rw [decide_eq_false (by omega),iteO_false]
  refine Exists.elim (vz_ (step:=fun q:Nat=>gC_b1 d l q) (fun k=>1≤k∧k≤l.length∧ddN d l k=l.take k) (fun r=>r=ddN d l l.length) (fun k=>l.length - k) ?_ 1 ⟨Nat.le_refl _,by omega,?_⟩) (fun r hr=>by rw [hr.1,hr.2])
  · rintro k ⟨h1,hk,hd⟩
    by_cases hlt:k<l.length
    · simp only [gC_b1,so_ h1 (show k≤281474976710656 by omega),tn_,decide_eq_true (show ((k:Nat):Int)<((l.length:Nat):Int) by omega),iteO_true,
        d3_ (show (0:Int)≤((k - 1:Nat):Int)∧((k - 1:Nat):Int)<(l.length:Int) by omega)]
      by_cases hc:nth l k d=nth l (k - 1) d
      · right
        simp only [hc,decide_true,iteO_true,d3_ hk]
        exact ⟨_,gC_in d hl h1 hlt hc hd,rfl⟩
      left
      simp only [hc,decide_false,iteO_false]
      refine ⟨k+1,rfl,⟨by omega,by omega,?_⟩,by omega⟩
      rw [ddN,if_pos (.inr hc),hd,ex_ l hlt d]
    right
    have:k=l.length:=by omega
    refine ⟨l,?_,?_⟩
    · simp only [gC_b1,decide_eq_false (show ¬ ((k:Nat):Int)<((l.length:Nat):Int) by omega),iteO_false];rfl
    rw [←this,hd,List.take_of_length_le (by omega)]
  rw [ddN,if_pos (.inl rfl),ex_ l (by omega) d];simp [ddN]
end
def gy_{α:Type}[DecidableEq α](d:α)(cf:α→α→Int)(l:List α):List α:=ddN d (g3_ cf l) l.length
section
variable {α:Type} [DecidableEq α] {d:α} {cf:α→α→Int}
theorem De_(l:List α):(g3_ cf l).length=l.length:=List.length_mergeSort _
theorem e4_{l:List α}{x:α}:x∈gy_ d cf l↔x∈l:=by
  have h:=De_ (cf:=cf) l
  rw [gy_,ue_ d _ _ (by omega),List.take_of_length_le (by omega),g3_,List.mem_mergeSort]
theorem GoodCmp.le_trans(hc:GoodCmp cf){x y z:α}(h1: ¬ cf y x<0)(h2: ¬ cf z y<0): ¬ cf z x<0:=fun h3=>by
  by_cases e:x=y
  · subst e;exact h2 h3
  by_cases e':y=z
  · subst e';exact h1 h3
  have a:=hc.anti y x;have b:=hc.anti z y;have a':=hc.eq y x;have b':=hc.eq z y
  have h4:cf y z<0:=by
    rw [hc.anti]
    have:cf z y≠0:=fun h=>e' ((b'.1 h).symm)
    omega
  exact h1 (hc.trans _ _ _ h4 h3)
theorem G3_(hc:GoodCmp cf)(l:List α):(g3_ cf l).Pairwise fun x y=> ¬ cf y x<0:=by
  have:=List.pairwise_mergeSort (le:=fun x y=> !decide (cf y x<0)) (fun a b c h1 h2=>by
    simp only [Bool.not_eq_true',decide_eq_false_iff_not]at *
    exact hc.le_trans h1 h2) (fun a b=>by
    have:=hc.anti a b
    simp only [Bool.or_eq_true,Bool.not_eq_true',decide_eq_false_iff_not];omega) l
  exact this.imp fun h=>by simpa using h
theorem g2_ (hc : GoodCmp cf) (l : List α) : (gy_ d cf l).Pairwise fun x y => cf x y < 0 := by
  have hs:=G3_ hc l
  have hlen:=De_ (cf:=cf) l
  unfold gy_
  generalize g3_ cf l=s at hs hlen
  have key: ∀n,n≤s.length→(ddN d s n).Pairwise fun x y=>cf x y<0:=by
    intro n
    induction n with
    |zero=>intro _;exact List.Pairwise.nil
    |succ n ih=>
      intro h
      rw [ddN]
      split
      · rename_i hn
        rw [List.pairwise_append]
        refine ⟨ih (by omega),List.pairwise_singleton ..,fun x hx y hy=> ?_⟩
        rw [List.mem_singleton.1 hy]
        rw [ue_ d s n (by omega)]at hx
        have hn0:n≠0:=fun e=>by subst e;simp at hx
        have hne:nth s n d≠nth s (n - 1) d:=by rcases hn with h|h;exact absurd h hn0;exact h
        obtain ⟨i,hi,hxi⟩:=List.mem_iff_getElem.1 hx
        have hi':i<n:=by simp at hi;omega
        have hxi:s[i]'(by omega)=x:=by rw [←hxi,List.getElem_take]
        have hp:=List.pairwise_iff_getElem.1 hs
        have eN: ∀{k:Nat} (hk:k<s.length),nth s k d=s[k]:=fun hk=>by simp [nth,List.getD,hk]
        rw [eN (by omega),eN (by omega)]at hne
        rw [eN (by omega)]
        have h1:cf (s[n - 1]'(by omega)) (s[n]'(by omega))<0:=by
          have:=hp (n - 1) n (by omega) (by omega) (by omega)
          have a:=hc.anti (s[n - 1]'(by omega)) (s[n]'(by omega))
          have b:=hc.eq (s[n]'(by omega)) (s[n - 1]'(by omega))
          have:cf (s[n]'(by omega)) (s[n - 1]'(by omega))≠0:=fun h=>hne (b.1 h)
          omega
        by_cases hin:i=n - 1
        · subst hin;rw [←hxi];exact h1
        have h2:=hp i (n - 1) (by omega) (by omega) (by omega)
        rw [hxi]at h2
        by_cases e:x=s[n - 1]'(by omega)
        · rw [e];exact h1
        refine hc.trans _ _ _ ?_ h1
        have a:=hc.anti x (s[n - 1]'(by omega))
        have b:=hc.eq (s[n - 1]'(by omega)) x
        have:cf (s[n - 1]'(by omega)) x≠0:=fun h=>e (b.1 h).symm
        omega
      rw [List.append_nil];exact ih (by omega)
  exact key _ (by omega)
theorem qx_{R:α→α→Prop}(hi: ∀x, ¬ R x x)(ht: ∀x y z,R x y→R y z→R x z): ∀{l m:List α},l.Pairwise R→m.Pairwise R→(∀x,x∈l↔x∈m)→l=m
  |[],[],_,_,_=>rfl
  |[],y::m,_,_,h=>by have:=(h y).2 (mc_ ..);cases this
  |x::l,[],_,_,h=>by have:=(h x).1 (mc_ ..);cases this
  | x :: l, y :: m, hl, hm, h => by
    rw [List.pairwise_cons]at hl hm
    have e:x=y:=by
      have h1:=(h x).1 (mc_ ..)
      have h2:=(h y).2 (mc_ ..)
      rw [List.mem_cons]at h1 h2
      rcases h1 with h1|h1
      · exact h1
      rcases h2 with h2|h2
      · exact h2.symm
      exact absurd (ht _ _ _ (hm.1 x h1) (hl.1 y h2)) (hi y)
    subst e
    rw [qx_ hi ht hl.2 hm.2 fun z=> ?_]
    have:=h z
    simp only [List.mem_cons]at this
    constructor
    · intro hz
      rcases this.1 (.inr hz)with e|h'
      · subst e;exact absurd (hl.1 z hz) (hi z)
      exact h'
    intro hz
    rcases this.2 (.inr hz)with e|h'
    · subst e;exact absurd (hm.1 z hz) (hi z)
    exact h'
theorem GoodCmp.irr(hc:GoodCmp cf)(x:α): ¬ cf x x<0:=by have:=(hc.eq x x).2 rfl;omega
theorem lw_(hc:GoodCmp cf){l m:List α}(hl:l.Pairwise fun x y=>cf x y<0)(hm:m.Pairwise fun x y=>cf x y<0)(h: ∀x,x∈l↔x∈m):l=m:=
  qx_ (R:=fun x y=>cf x y<0) hc.irr hc.trans hl hm h
theorem Hf_(hc:GoodCmp cf){l:List α}(h:l.Pairwise fun x y=>cf x y<0):gy_ d cf l=l:=lw_ hc (g2_ hc l) h fun x=>e4_
theorem E3_(l:List α):(gy_ d cf l).length≤l.length:=by
  have h: ∀(s:List α) n,(ddN d s n).length≤n:=fun s n=>by
    induction n with
    |zero=>exact Nat.le_refl _
    |succ n ih=>rw [ddN,la_];split<;>simp<;>omega
  exact h _ _
end
theorem Hj_:kc_=gC tz_:=rfl
theorem Ij_:np_=gC az_:=rfl
theorem H4_{l:List Tip}(h:l.length * 24≤140737488355328):wp_ l=some (gy_ tz_ e0_ l):=by
  rw [wp_,d3_ h,Hj_,gC_eq tz_ (by rw [De_];omega),De_];rfl
theorem Iw_{l:List Arc}(h:l.length * 72≤140737488355328):z3_ l=some (gy_ az_ in_ l):=by
  rw [z3_,d3_ h,Ij_,gC_eq az_ (by rw [De_];omega),De_];rfl
def tipB(n:Int)(p:Tip):Bool:=decide (0≤p.state) && decide (p.state<n) && decide ((p.out.length:Int)≤1024)
def nf_(l:List Tip)(n:Int):Bool:=decide ((l.length:Int)≤1024) && l.all (tipB n)
def arcB(n:Int)(a:Arc):Bool:=decide (0≤a.frm) && decide (a.frm<n) && decide (0≤a.to) && decide (a.to<n) && decide (a.set≠BSet.zero) && decide ((a.out.length:Int)≤1024)
def jw_(t:Fst):Bool:=decide (0≤t.states) && decide (t.states≤1024) && decide ((t.arcs.length:Int)≤16384) && nf_ t.starts t.states && nf_ t.ends t.states && t.arcs.all (arcB t.states)
theorem E9_(s n:Int):Ei_ s n=some (decide (0≤s) && decide (s<n)):=by
  unfold Ei_
  by_cases h:0≤s<;>simp [h]
theorem mr_ (l : List Tip) (n : Int) : Da_ l n = some (nf_ l n) := by
  unfold Da_ nf_
  by_cases h:(l.length:Int)≤1024
  · rw [decide_eq_false (by omega),iteO_false,vv_ (y:=true) (no:=false) l tz_ (tipB n)]
    · rw [decide_eq_true h,Bool.true_and];cases l.all (tipB n)<;>rfl
    · intro k hk hp
      simp only [tipB,Bool.and_eq_true,dq_]at hp
      simp only [Bw_,oa_ hk,iteO_true,E9_,bnd,Option.bind_some,hp.1.1,hp.1.2,decide_true,Bool.and_self,Bool.not_true,iteO_false,decide_eq_false (show ¬ (1024:Int)<((nth l k tz_).out.length:Int) by omega)];rfl
    · intro k hk hp
      simp only [Bw_,oa_ hk,iteO_true,E9_,bnd,Option.bind_some]
      by_cases hc:(decide (0≤(nth l k tz_).state) && decide ((nth l k tz_).state<n))=true
      · rw [hc]
        simp only [tipB,hc,Bool.true_and,decide_eq_false_iff_not]at hp
        simp only [Bool.not_true,iteO_false,decide_eq_true (show (1024:Int)<((nth l k tz_).out.length:Int) by omega),iteO_true];rfl
      simp only [Bool.not_eq_true]at hc
      rw [hc];rfl
    simp only [Bw_,Int.lt_irrefl,decide_false,iteO_false];rfl
  rw [decide_eq_true (by omega),iteO_true];simp [h]
theorem Dq_(t:Fst):B8_ t=some (errB (jw_ t)):=by
  unfold B8_
  by_cases h1:t.states<0
  · rw [decide_eq_true h1,iteO_true];simp [jw_,errB,show ¬ 0≤t.states by omega]
  rw [decide_eq_false h1,iteO_false]
  by_cases h2:1024<t.states
  · rw [decide_eq_true h2,iteO_true];simp [jw_,errB,show ¬ t.states≤1024 by omega]
  rw [decide_eq_false h2,iteO_false]
  by_cases h3:(16384:Int)<(t.arcs.length:Int)
  · rw [decide_eq_true h3,iteO_true];simp only [jw_,decide_eq_false (show ¬ (t.arcs.length:Int)≤16384 by omega),Bool.and_false,Bool.false_and];rfl
  rw [decide_eq_false h3,iteO_false,mr_,bnd,Option.bind_some]
  have e0:jw_ t=(nf_ t.starts t.states && nf_ t.ends t.states && t.arcs.all (arcB t.states)):=by
    simp only [jw_,decide_eq_true (show 0≤t.states by omega),decide_eq_true (show t.states≤1024 by omega),decide_eq_true (show (t.arcs.length:Int)≤16384 by omega),Bool.true_and]
  rw [e0]
  cases h4:nf_ t.starts t.states
  · rfl
  simp only [Bool.not_true,iteO_false,mr_,bnd,Option.bind_some]
  cases h5:nf_ t.ends t.states
  · rfl
  simp only [Bool.not_true,iteO_false,Bool.and_self,Bool.true_and]
  rw [vv_ (y:=0) (no:=1) t.arcs az_ (arcB t.states)]
  · rfl
  · intro k hk hp
    simp only [arcB,Bool.and_eq_true,dq_]at hp
    obtain ⟨⟨⟨⟨⟨p1,p2⟩,p3⟩,p4⟩,p5⟩,p6⟩:=hp
    simp only [Cy_,oa_ hk,iteO_true,E9_,bnd,Option.bind_some,p1,p2,p3,p4,p5,decide_true,decide_false,Bool.and_self,Bool.not_true,iteO_false,decide_eq_false (show ¬ (1024:Int)<((nth t.arcs k az_).out.length:Int) by omega)];rfl
  · intro k hk hp
    simp only [Cy_,oa_ hk,iteO_true,E9_,bnd,Option.bind_some]
    cases hc:(decide (0≤(nth t.arcs k az_).frm) && decide ((nth t.arcs k az_).frm<t.states))
    · rfl
    cases hd:(decide (0≤(nth t.arcs k az_).to) && decide ((nth t.arcs k az_).to<t.states))
    · rfl
    simp only [Bool.not_true,iteO_false]
    by_cases he:(nth t.arcs k az_).set=BSet.zero
    · rw [decide_eq_true he];rfl
    rw [decide_eq_false he,iteO_false]
    have hd':(decide (0≤(nth t.arcs k az_).frm) && decide ((nth t.arcs k az_).frm<t.states) && decide (0≤(nth t.arcs k az_).to) && decide ((nth t.arcs k az_).to<t.states))=true:=by rw [Bool.and_assoc,hc,hd];rfl
    simp only [arcB,hd',Bool.true_and,ne_eq,he,not_false_eq_true,decide_true,decide_eq_false_iff_not]at hp
    rw [decide_eq_true (by omega)];rfl
  simp only [Cy_,Int.lt_irrefl,decide_false,iteO_false];rfl
theorem ym_{b:Bool}:decide (errB b≠0)= !b:=by cases b<;>rfl
def wg_(p:FPair)(a:Arc)(b:UInt8):T_1:=if a.copy then (p.out++a.out)++[b] else p.out++a.out
def aftA(g:List Arc)(p:FPair)(b:UInt8):List FPair:=(g.filter fun a=>a.set.has b.toNat).map fun a=>⟨a.to,wg_ p a b⟩
def aftP(t:Fst)(S:List FPair)(b:UInt8):List FPair:=S.flatMap fun p=>aftA (t.arcs.filter fun a=>decide (a.frm=p.state)) p b
def tp(x:Tip):FPair:=⟨x.state,x.out⟩
def kh_(t:Fst)(w:T_1):List FPair:=w.foldl (aftP t) (t.starts.map tp)
def endT(t:Fst)(S:List FPair):T_2:=S.flatMap fun p=>((t.ends.filter fun e=>decide (e.state=p.state)).map Tip.out).map fun o=>p.out++o
def sy_(t:Fst)(w:T_1):T_2:=gy_ [] Lib.compareBytes (endT t (kh_ t w))
theorem mem_aftA{g:List Arc}{p q:FPair}{b:UInt8}:q∈aftA g p b↔ ∃a∈g,a.set.has b.toNat=true∧q=⟨a.to,wg_ p a b⟩:=by
  simp only [aftA,List.mem_map,List.mem_filter]
  constructor
  · rintro ⟨a,⟨h1,h2⟩,h3⟩;exact ⟨a,h1,h2,h3.symm⟩
  rintro ⟨a,h1,h2,h3⟩;exact ⟨a,⟨h1,h2⟩,h3.symm⟩
theorem rh_{t:Fst}{S:List FPair}{b:UInt8}{q:FPair}:q∈aftP t S b↔ ∃p∈S, ∃a∈t.arcs,a.frm=p.state∧a.set.has b.toNat=true∧q=⟨a.to,wg_ p a b⟩:=by
  simp only [aftP,List.mem_flatMap,mem_aftA,List.mem_filter,dq_]
  constructor
  · rintro ⟨p,h1,a,⟨h2,h3⟩,h4,h5⟩;exact ⟨p,h1,a,h2,h3,h4,h5⟩
  rintro ⟨p,h1,a,h2,h3,h4,h5⟩;exact ⟨p,h1,a,⟨h2,h3⟩,h4,h5⟩
theorem tipB_ok{n:Int}{p:Tip}(h:tipB n p=true):(0≤p.state∧p.state<n)∧p.out.length≤1024:=by
  simp only [tipB,Bool.and_eq_true,dq_]at h;exact ⟨h.1,by omega⟩
theorem ns_{n:Int}{l:List Tip}(h:nf_ l n=true):l.length≤1024∧ ∀p∈l,(0≤p.state∧p.state<n)∧p.out.length≤1024:=by
  simp only [nf_,Bool.and_eq_true,dq_,List.all_eq_true]at h
  exact ⟨by omega,fun p hp=>tipB_ok (h.2 p hp)⟩
theorem arcB_ok{n:Int}{a:Arc}(h:arcB n a=true):(0≤a.frm∧a.frm<n)∧(0≤a.to∧a.to<n)∧a.set≠BSet.zero∧a.out.length≤1024:=by
  simp only [arcB,Bool.and_eq_true,dq_]at h
  obtain ⟨⟨⟨⟨⟨p1,p2⟩,p3⟩,p4⟩,p5⟩,p6⟩:=h
  exact ⟨⟨p1,p2⟩,⟨p3,p4⟩,p5,by omega⟩
structure FstOk (t:Fst):Prop where
  st0:0≤t.states
  st1:t.states≤1024
  arcsN:t.arcs.length≤16384
  startsN:t.starts.length≤1024
  endsN:t.ends.length≤1024
  starts: ∀p∈t.starts,(0≤p.state∧p.state<t.states)∧p.out.length≤1024
  ends: ∀p∈t.ends,(0≤p.state∧p.state<t.states)∧p.out.length≤1024
  arcs: ∀a∈t.arcs,(0≤a.frm∧a.frm<t.states)∧(0≤a.to∧a.to<t.states)∧a.set≠BSet.zero∧a.out.length≤1024
theorem fw_(t:Fst):jw_ t=true↔FstOk t:=by
  constructor
  · intro h
    simp only [jw_,Bool.and_eq_true,dq_,List.all_eq_true]at h
    obtain ⟨⟨⟨⟨⟨h1,h2⟩,h3⟩,h4⟩,h5⟩,h6⟩:=h
    exact ⟨h1,h2,by omega,(ns_ h4).1,(ns_ h5).1,(ns_ h4).2,(ns_ h5).2,fun a ha=>arcB_ok (h6 a ha)⟩
  rintro ⟨h1,h2,h3,h4,h5,h6,h7,h8⟩
  have hT: ∀l:List Tip,l.length≤1024→(∀p∈l,(0≤p.state∧p.state<t.states)∧p.out.length≤1024)→nf_ l t.states=true:=fun l hl hp=>by
    simp only [nf_,Bool.and_eq_true,dq_,List.all_eq_true]
    refine ⟨by omega,fun p hq=> ?_⟩
    have:=hp p hq
    simp only [tipB,Bool.and_eq_true,dq_];omega
  simp only [jw_,Bool.and_eq_true,dq_,List.all_eq_true]
  refine ⟨⟨⟨⟨⟨h1,h2⟩,by omega⟩,hT _ h4 h6⟩,hT _ h5 h7⟩,fun a ha=> ?_⟩
  obtain ⟨p1,p2,p3,p4⟩:=h8 a ha
  simp only [arcB,Bool.and_eq_true,dq_]
  exact ⟨⟨⟨⟨p1,p2.1⟩,p2.2⟩,p3⟩,by omega⟩
theorem kt_(t:Fst)(w:T_1)(b:UInt8):kh_ t (w++[b])=aftP t (kh_ t w) b:=by simp [kh_]
def srt(t:Fst):Fst:=⟨t.states,gy_ tz_ e0_ t.starts,gy_ tz_ e0_ t.ends,gy_ az_ in_ t.arcs⟩
theorem om_(t:Fst):B5_ t=some (if jw_ t=true then (srt t,0) else (⟨0,[],[],[]⟩,1)):=by
  unfold B5_
  rw [Dq_,bnd,Option.bind_some,ym_]
  by_cases h:jw_ t=true
  · have ht:=(fw_ t).1 h
    have h1:=ht.startsN
    have h2:=ht.endsN
    have h3:=ht.arcsN
    rw [h,if_pos rfl,Bool.not_true,iteO_false]
    simp only [H4_ (l:=t.starts) (by omega),H4_ (l:=t.ends) (by omega),Iw_ (l:=t.arcs) (by omega),bnd,Option.bind_some]
    rfl
  simp only [Bool.not_eq_true]at h
  rw [h];rfl
structure Alike (s t:Fst):Prop where
  states:s.states=t.states
  starts: ∀x,x∈s.starts↔x∈t.starts
  ends: ∀x,x∈s.ends↔x∈t.ends
  arcs: ∀x,x∈s.arcs↔x∈t.arcs
theorem lb_(t:Fst):Alike (srt t) t:=⟨rfl,fun _=>e4_,fun _=>e4_,fun _=>e4_⟩
theorem srt_ok{t:Fst}(ht:FstOk t):FstOk (srt t) where
  st0:=ht.st0
  st1:=ht.st1
  arcsN:=Nat.le_trans (E3_ _) ht.arcsN
  startsN:=Nat.le_trans (E3_ _) ht.startsN
  endsN:=Nat.le_trans (E3_ _) ht.endsN
  starts p hp:=ht.starts p (e4_.1 hp)
  ends p hp:=ht.ends p (e4_.1 hp)
  arcs a ha:=ht.arcs a (e4_.1 ha)
structure Within (s t:Fst):Prop where
  starts: ∀x∈s.starts,x∈t.starts
  ends: ∀x∈s.ends,x∈t.ends
  arcs: ∀x∈s.arcs,x∈t.arcs
theorem Alike.within{s t:Fst}(h:Alike s t):Within s t:=⟨fun x=>(h.starts x).1,fun x=>(h.ends x).1,fun x=>(h.arcs x).1⟩
theorem Alike.symm{s t:Fst}(h:Alike s t):Alike t s:=⟨h.states.symm,fun x=>(h.starts x).symm,fun x=>(h.ends x).symm,fun x=>(h.arcs x).symm⟩
theorem Within.pairs{s t:Fst}(h:Within s t)(w:T_1): ∀p∈kh_ s w,p∈kh_ t w:=by
  induction w using t5_ with
  |h0=>
    intro p hp
    obtain ⟨x,hx,rfl⟩:=List.mem_map.1 hp
    exact List.mem_map.2 ⟨x,h.starts x hx,rfl⟩
  |h1 w b ih=>
    intro q hq
    rw [kt_,rh_]at *
    obtain ⟨p,hp,a,ha,r⟩:=hq
    exact ⟨p,ih p hp,a,h.arcs a ha,r⟩
theorem mem_endT{t:Fst}{S:List FPair}{o:T_1}:o∈endT t S↔ ∃p∈S, ∃e∈t.ends,e.state=p.state∧o=p.out++e.out:=by
  simp only [endT,List.mem_flatMap,List.mem_map,List.mem_filter,dq_]
  constructor
  · rintro ⟨p,hp,_,⟨e,⟨he,h1⟩,rfl⟩,h2⟩;exact ⟨p,hp,e,he,h1,h2.symm⟩
  rintro ⟨p,hp,e,he,h1,h2⟩;exact ⟨p,hp,_,⟨e,⟨he,h1⟩,rfl⟩,h2.symm⟩
theorem tr_{t:Fst}{w o:T_1}:o∈sy_ t w↔ ∃p∈kh_ t w, ∃e∈t.ends,e.state=p.state∧o=p.out++e.out:=by rw [sy_,e4_,mem_endT]
theorem Within.outs{s t:Fst}(h:Within s t)(w:T_1): ∀o∈sy_ s w,o∈sy_ t w:=by
  intro o ho
  rw [tr_]at *
  obtain ⟨p,hp,e,he,r⟩:=ho
  exact ⟨p,h.pairs w p hp,e,h.ends e he,r⟩
theorem qv_(t:Fst)(w:T_1):(sy_ t w).Pairwise fun x y=>Lib.compareBytes x y<0:=g2_ ld_ _
theorem Alike.outs{s t:Fst}(h:Alike s t)(w:T_1):sy_ s w=sy_ t w:=lw_ ld_ (qv_ s w) (qv_ t w) fun x=>⟨h.within.outs w x,h.symm.within.outs w x⟩
theorem nj_{α R:Type}{step:Nat→Option (Nat⊕R)}{y:R}(n:Nat)(hs: ∀k,k<n→step k=some (.inl (k+1)))(hd:step n=some (.inr y)):eq_ step 0=some y:=r8_ (fun k=>k) n hs hd
theorem qm_(l:T_2):Bx_ l l=some true:=by
  unfold Bx_
  rw [decide_eq_false (by simp),iteO_false]
  refine nj_ (α:=Unit) l.length (fun k hk=> ?_) ?_
  · simp only [A2_,oa_ hk,iteO_true,d3_ hk,ne_eq,not_true_eq_false,decide_false,iteO_false];rfl
  simp only [A2_,Int.lt_irrefl,decide_false,iteO_false];rfl
section
variable {α:Type} [DecidableEq α] {d:α} {cf:α→α→Int}
end
theorem zg_(l:N_1):Ct_ l l=some true:=by
  unfold Ct_
  rw [decide_eq_false (by simp),iteO_false]
  refine nj_ (α:=Unit) l.length (fun k hk=> ?_) ?_
  · simp only [A9_,oa_ hk,iteO_true,d3_ hk,ne_eq,not_true_eq_false,decide_false,iteO_false];rfl
  simp only [A9_,Int.lt_irrefl,decide_false,iteO_false];rfl
theorem rn_{x:T_1}(h:x.length≤281474976710656):D0_ x=some (if 4096<x.length then .inl 2 else .inr ()):=by
  unfold D0_
  rw [d3_ h]
  by_cases c:4096<x.length
  · rw [d4_ (by omega),if_pos c]
  rw [d5_ (by omega),if_neg c]
def ud_:List Tip→Bool
  |a::b::l=>decide (a.state=b.state) || ud_ (b::l)
  |_=>false
theorem rt_: ∀l:List Tip,ud_ l=true↔ ∃k,k+1<l.length∧(nth l k tz_).state=(nth l (k+1) tz_).state
  |[]=>by simp [ud_]
  |[a]=>by simp [ud_]
  | a :: b :: l => by
    rw [ud_,Bool.or_eq_true,dq_,rt_ (b::l)]
    constructor
    · rintro (h|⟨k,h1,h2⟩)
      · exact ⟨0,by simp,h⟩
      exact ⟨k+1,by simpa using h1,h2⟩
    rintro ⟨k,h1,h2⟩
    cases k with
    |zero=>exact .inl h2
    |succ k=>exact .inr ⟨k,by simpa using h1,h2⟩
def pu_(n:Nat)(x:Tip):Tip:=⟨x.state,x.out.drop n⟩
def hb_(l:List Tip):Int⊕(T_1×List Tip):=
  let m:=gy_ tz_ e0_ l
  if ud_ m=true then .inl 12 else
  let f:=gn_ (m.map Tip.out)
  if 4096<f.length then .inl 2 else
  if ∃x∈m,4096<(x.out.drop f.length).length then .inl 2 else .inr (f,m.map (pu_ f.length))
theorem Ik_{α β:Type}(f:α→α)(l:List α)(k:Nat)(hk:k<l.length)(d:α):((l.take k).map f++l.drop k).set k (f (nth l k d))=(l.take (k+1)).map f++l.drop (k+1):=by
  have h1:((l.take k).map f).length=k:=by rw [List.length_map,List.length_take];omega
  rw [List.set_append_right _ _ (by omega),h1,Nat.sub_self,v0_ l hk d,List.set_cons_zero,ex_ l hk d,List.map_append]
  simp
theorem nth_mid{α:Type}(f:α→α)(l:List α)(k:Nat)(hk:k<l.length)(d:α):nth ((l.take k).map f++l.drop k) k d=nth l k d:=by
  have h1:((l.take k).map f).length=k:=by rw [List.length_map,List.length_take];omega
  unfold nth
  rw [List.getD_eq_getElem?_getD,List.getElem?_append_right (by omega),h1,Nat.sub_self,v0_ l hk d]
  simp [nth]
theorem tt_{α:Type}(l:List α)(k:Nat)(hk:k<l.length)(x d:α):nth (l.set k x) k d=x:=by rw [ek_,if_pos ⟨rfl,hk⟩]
theorem zi_{α:Type}(l:List α)(k:Nat)(hk:k<l.length)(d z:α):(l.take k++List.replicate (l.length - k) z).set k (nth l k d)=l.take (k+1)++List.replicate (l.length - (k+1)) z:=by
  have h1:(l.take k).length=k:=by rw [List.length_take];omega
  rw [List.set_append_right _ _ (by omega),h1,Nat.sub_self,show l.length - k=(l.length - (k+1))+1 by omega,List.replicate_succ,List.set_cons_zero,ex_ l hk d]
  simp
theorem x1_ {m : List Tip} {f : T_1} (hf : ∀ x ∈ m, f.length ≤ x.out.length) (hb : ∀ x ∈ m, x.out.length ≤ 281474976710656) :
    eq_ (fun q:(List Tip)×Nat=>Bh_ m f q.1 q.2) (m,0)=some (if ∃x∈m,4096<(x.out.drop f.length).length then .inl 2 else .inr (f,m.map (pu_ f.length))):=by
  obtain ⟨r,h1,h2⟩:=er_ (step:=fun q:(List Tip)×Nat=>Bh_ m f q.1 q.2) (fun s k=>(s,k)) m.length (fun k s=>s=(m.take k).map (pu_ f.length)++m.drop k∧ ∀x∈m.take k, ¬ 4096<(x.out.drop f.length).length)
    (fun r=>r=(if ∃x∈m,4096<(x.out.drop f.length).length then .inl 2 else .inr (f,m.map (pu_ f.length))))
    (fun k s hk hI=>by
      obtain ⟨rfl,hI⟩:=hI
      have hl:k<((m.take k).map (pu_ f.length)++m.drop k).length:=by
        rw [la_,List.length_map,List.length_take,List.length_drop];omega
      have hm:nth m k tz_∈m:=gf_ _ hk
      have hs:=hf _ hm
      have hbb:=hb _ hm
      have hst:Bh_ m f ((m.take k).map (pu_ f.length)++m.drop k) k=some (if 4096<((nth m k tz_).out.drop f.length).length then .inr (.inl 2) else .inl ((m.take (k+1)).map (pu_ f.length)++m.drop (k+1),k+1)):=by
        unfold Bh_
        rw [d4_ (by omega),d3_ hl,nth_mid (pu_ f.length) m k hk,d3_ ⟨hs,Nat.le_refl _⟩,d3_ hl,d3_ (by rw [ls_];exact hl),tt_ _ k hl]
        show bnd (D0_ ((nth m k tz_).out.drop f.length)) _=_
        rw [rn_ (by rw [List.length_drop];omega),ed_]
        by_cases c:4096<((nth m k tz_).out.drop f.length).length
        · rw [if_pos c,if_pos c];rfl
        rw [if_neg c,if_neg c]
        show nxt (_,_)=_
        rw [show (⟨(nth m k tz_).state,(nth m k tz_).out.drop f.length⟩:Tip)=pu_ f.length (nth m k tz_)from rfl,Ik_ (β:=Tip) (pu_ f.length) m k hk];rfl
      by_cases c:4096<((nth m k tz_).out.drop f.length).length
      · rw [if_pos c]at hst
        exact .inr ⟨_,hst,by rw [if_pos ⟨_,hm,c⟩]⟩
      rw [if_neg c]at hst
      refine .inl ⟨_,hst,rfl,fun x hx=> ?_⟩
      rw [ex_ m hk tz_]at hx
      rcases List.mem_append.1 hx with hx|hx
      · exact hI x hx
      rw [List.mem_singleton.1 hx];exact c)
    (fun s hI=>by
      obtain ⟨rfl,hI⟩:=hI
      rw [List.take_length]at hI
      refine ⟨_,?_,rfl⟩
      rw [if_neg (by rintro ⟨x,h1,h2⟩;exact hI x h1 h2),List.take_length,List.drop_length,List.append_nil]
      show Bh_ m f _ m.length=_
      unfold Bh_
      rw [d5_ (by omega)];rfl) (s0:=m) ⟨by simp,by simp⟩
  rw [←h2];exact h1
theorem vg_ {l : List Tip} (hl : l.length ≤ 1000000) (hb : ∀ x ∈ l, x.out.length ≤ 281474976710656) : E0_ l = some (hb_ l) := by
  unfold E0_
  have e0:kc_ (g3_ e0_ l)=some (gy_ tz_ e0_ l):=by
    rw [Hj_,gC_eq tz_ (by rw [De_];omega),De_]
    rfl
  rw [e0,ed_]
  have hm:(gy_ tz_ e0_ l).length≤l.length:=E3_ ..
  have hbm: ∀x∈gy_ tz_ e0_ l,x.out.length≤281474976710656:=fun x hx=>hb x ((e4_ ..).1 hx)
  unfold hb_
  generalize gy_ tz_ e0_ l=m at hm hbm ⊢
  rw [d3_ (by omega)]
  have hlast:Au_ m (m.map Tip.out) m.length=some (.inr (if 4096<(gn_ (m.map Tip.out)).length then .inl 2 else if ∃x∈m,4096<(x.out.drop (gn_ (m.map Tip.out)).length).length then .inl 2 else .inr (gn_ (m.map Tip.out),m.map (pu_ (gn_ (m.map Tip.out)).length)))):=by
    have hbx: ∀x∈m.map Tip.out,x.length≤281474976710656:=fun x hx=>by
      obtain ⟨y,hy,rfl⟩:=List.mem_map.1 hx;exact hbm y hy
    have hfl:(gn_ (m.map Tip.out)).length≤281474976710656:=by
      cases h:m with
      |nil=>simp [gn_]
      |cons x t=>
        have:gn_ ((x::t).map Tip.out) <+: x.out:=hu_ (by simp)
        exact Nat.le_trans this.length_le (hbm x (by rw [h];exact mc_ ..))
    unfold Au_
    rw [d5_ (by omega),qo_ hbx,ed_,rn_ hfl,ed_]
    by_cases c:4096<(gn_ (m.map Tip.out)).length
    · rw [if_pos c,if_pos c];rfl
    rw [if_neg c,if_neg c]
    show fin (eq_ _ (m,0))=_
    rw [x1_ (fun x hx=>(hu_ (List.mem_map.2 ⟨x,hx,rfl⟩)).length_le) hbm];rfl
  obtain ⟨r,h1,h2⟩:=er_ (step:=fun q:T_2×Nat=>Au_ m q.1 q.2) (fun s k=>(s,k)) m.length (fun k s=>s=(m.map Tip.out).take k++List.replicate ((m.map Tip.out).length - k) []∧ ∀j,j+1<k+0∨j+1<k→(nth m j tz_).state≠(nth m (j+1) tz_).state)
    (fun r=>r=(if ud_ m=true then .inl 12 else if 4096<(gn_ (m.map Tip.out)).length then .inl 2 else if ∃x∈m,4096<(x.out.drop (gn_ (m.map Tip.out)).length).length then .inl 2 else .inr (gn_ (m.map Tip.out),m.map (pu_ (gn_ (m.map Tip.out)).length))))
    (fun k s hk hI=>by
      obtain ⟨rfl,hI⟩:=hI
      have hkm:k<(m.map Tip.out).length:=by rw [List.length_map];exact hk
      have hlen:k<((m.map Tip.out).take k++List.replicate ((m.map Tip.out).length - k) []).length:=by
        rw [la_,List.length_take,lr_];omega
      have hnx:Dl_ k ((m.map Tip.out).take k++List.replicate ((m.map Tip.out).length - k) []) m=some (.inl ((m.map Tip.out).take (k+1)++List.replicate ((m.map Tip.out).length - (k+1)) [],k+1)):=by
        unfold Dl_
        rw [d3_ hlen,←zi_ (m.map Tip.out) k hkm ([]:T_1) [],gd_ Tip.out m k tz_ [] hk];rfl
      by_cases c0:k=0
      · subst c0
        refine .inl ⟨_,?_,rfl,fun j hj=>by omega⟩
        show Au_ m _ 0=_
        unfold Au_
        rw [d4_ (by omega),d5_ (by omega)];exact hnx
      obtain ⟨j,rfl⟩: ∃j,k=j+1:=⟨k - 1,by omega⟩
      have hw:IntKind.i64.wrap (((j+1:Nat):Int) - 1)=((j:Nat):Int):=by rw [show ((j+1:Nat):Int) - 1=(j:Int) by omega,ic_ (by omega) (by omega)]
      have hst:Au_ m ((m.map Tip.out).take (j+1)++List.replicate ((m.map Tip.out).length - (j+1)) []) (j+1)=if (nth m j tz_).state=(nth m (j+1) tz_).state then some (.inr (.inl 12)) else some (.inl ((m.map Tip.out).take (j+1+1)++List.replicate ((m.map Tip.out).length - (j+1+1)) [],j+1+1)):=by
        unfold Au_
        rw [d4_ (by omega),d4_ (by omega),hw,d3_ ⟨by omega,by omega⟩,tn_]
        by_cases c:(nth m j tz_).state=(nth m (j+1) tz_).state
        · rw [d4_ c,if_pos c];rfl
        rw [d5_ c,if_neg c];exact hnx
      by_cases c:(nth m j tz_).state=(nth m (j+1) tz_).state
      · rw [if_pos c]at hst
        refine .inr ⟨_,hst,?_⟩
        rw [if_pos ((rt_ m).2 ⟨j,hk,c⟩)]
      rw [if_neg c]at hst
      refine .inl ⟨_,hst,rfl,fun i hi=> ?_⟩
      by_cases e:i=j
      · subst e;exact c
      exact hI i (by omega))
    (fun s hI=>by
      obtain ⟨rfl,hI⟩:=hI
      have hd: ¬ ud_ m=true:=fun h=>by
        obtain ⟨j,h1,h2⟩:=(rt_ m).1 h
        exact hI j (.inr h1) h2
      refine ⟨_,?_,rfl⟩
      rw [if_neg hd]
      have e:(m.map Tip.out).take m.length++List.replicate ((m.map Tip.out).length - m.length) []=m.map Tip.out:=by
        rw [List.length_map,Nat.sub_self,List.replicate_zero,List.append_nil,show m.length=(m.map Tip.out).length by rw [List.length_map],List.take_length]
      show Au_ m _ m.length=_
      rw [e];exact hlast) (s0:=List.replicate m.length []) ⟨by simp,fun j hj=>by omega⟩
  rw [←h2];exact h1
def valD(l:T_1):Nat:=l.foldl (fun v d=>v * 10+(d.toNat - 48)) 0
theorem xz_(l:T_1)(d:UInt8):valD (l++[d])=valD l * 10+(d.toNat - 48):=by simp [valD]
theorem od_{k:Nat}(h:k<10):(UInt8.ofNat (48+k)).toNat=48+k:=by
  rw [UInt8.toNat_ofNat'];omega
theorem x6_(u:Nat):valD (Lib.decDigits u)=u:=by
  induction u using Nat.strongRecOn with
  |ind u ih=>
    rw [Lib.decDigits]
    split
    · rename_i h
      show 0 * 10+((UInt8.ofNat (48+u)).toNat - 48)=u
      rw [od_ h];omega
    rename_i h
    rw [xz_,ih (u / 10) (by omega),od_ (by omega)];omega
theorem iz_(u:Nat): ∀c∈Lib.decDigits u,c≠58:=by
  induction u using Nat.strongRecOn with
  |ind u ih=>
    rw [Lib.decDigits]
    have hd: ∀k,k<10→UInt8.ofNat (48+k)≠58:=fun k hk e=>by
      have:=congrArg UInt8.toNat e
      rw [od_ hk]at this
      have h2:(58:UInt8).toNat=58:=rfl
      omega
    split
    · rename_i h
      intro c hc
      rw [List.mem_singleton.1 hc];exact hd u h
    rename_i h
    intro c hc
    rcases List.mem_append.1 hc with hc|hc
    · exact ih (u / 10) (by omega) c hc
    rw [List.mem_singleton.1 hc];exact hd _ (by omega)
theorem mn_: ∀{a b x y:T_1},(∀c∈a,c≠58)→(∀c∈b,c≠58)→a++58::x=b++58::y→a=b∧x=y
  |[],[],x,y,_,_,h=>by simp at h;exact ⟨rfl,h⟩
  |[],d::b,x,y,_,hb,h=>by
    simp only [List.nil_append,List.cons_append,List.cons.injEq]at h
    exact absurd h.1.symm (hb d (mc_ ..))
  |d::a,[],x,y,ha,_,h=>by
    simp only [List.nil_append,List.cons_append,List.cons.injEq]at h
    exact absurd h.1 (ha d (mc_ ..))
  |d::a,e::b,x,y,ha,hb,h=>by
    simp only [List.cons_append,List.cons.injEq]at h
    obtain ⟨rfl,h⟩:=h
    obtain ⟨rfl,rfl⟩:=mn_ (fun c hc=>ha c (mm_ _ hc)) (fun c hc=>hb c (mm_ _ hc)) h
    exact ⟨rfl,rfl⟩
theorem q7_{u v:Nat}(h:Lib.decDigits u=Lib.decDigits v):u=v:=by rw [←x6_ u,h,x6_]
def xp_(x:Tip)(r:T_1):T_1:=Lib.decDigits x.state.toNat++58::(Lib.decDigits x.out.length++58::(x.out++r))
def kz_:List Tip→T_1
  |[]=>[]
  |x::l=>xp_ x (kz_ l)
theorem sb_(x:Tip): ∀l:List Tip,kz_ (l++[x])=kz_ l++xp_ x []
  |[]=>rfl
  |y::l=>by
    show xp_ y (kz_ (l++[x]))=xp_ y (kz_ l)++xp_ x []
    rw [sb_ x l]
    unfold xp_
    simp
theorem rf_: ∀{l m:List Tip},(∀x∈l,0≤x.state)→(∀x∈m,0≤x.state)→kz_ l=kz_ m→l=m
  |[],[],_,_,_=>rfl
  |[],y::m,_,_,h=>by
    have:=congrArg List.length h
    simp [kz_,xp_]at this
  |x::l,[],_,_,h=>by
    have:=congrArg List.length h
    simp [kz_,xp_]at this
  | x :: l, y :: m, hl, hm, h => by
    obtain ⟨h1,h2⟩:=mn_ (iz_ _) (iz_ _) (show Lib.decDigits x.state.toNat++58::_=Lib.decDigits y.state.toNat++58::_ from h)
    obtain ⟨h3,h4⟩:=mn_ (iz_ _) (iz_ _) h2
    have h5:=q7_ h1
    have h6:=q7_ h3
    obtain ⟨h7,h8⟩:=List.append_inj h4 h6
    have hx:=hl x (mc_ ..)
    have hy:=hm y (mc_ ..)
    have e:x=y:=by
      cases x;cases y
      simp only at h5 h7 hx hy
      simp only [Tip.mk.injEq]
      exact ⟨by omega,h7⟩
    rw [e,rf_ (fun z hz=>hl z (mm_ _ hz)) (fun z hz=>hm z (mm_ _ hz)) h8]
theorem nm_{n:Int}(h:0≤n):Lib.itoa n=Lib.decDigits n.toNat:=by unfold Lib.itoa;rw [if_neg (by omega)]
theorem u2_: ∀(k u:Nat),u<10 ^ (k+1)→(Lib.decDigits u).length≤k+1
  |0,u,h=>by
    rw [Lib.decDigits,dif_pos (by simpa using h)];simp
  |k+1,u,h=>by
    rw [Lib.decDigits]
    split
    · simp
    have:=u2_ k (u / 10) (by rw [Nat.div_lt_iff_lt_mul (by decide),←Nat.pow_succ];exact h)
    rw [la_,lo_];omega
theorem md_{u:Nat}(h:u≤9223372036854775807):(Lib.decDigits u).length≤21:=by
  have:=u2_ 18 u (by omega)
  omega
structure RowOk (n:Int) (l:List Tip):Prop where
  len:l.length≤1000000
  inc:l.Pairwise fun x y=>x.state<y.state
  st: ∀x∈l,0≤x.state∧x.state<n
  out: ∀x∈l,x.out.length≤4096
theorem qh_(b x:T_1)(hx:x.length≤281474976710656)(h:b.length+x.length≤140737488355328):gz_ ⟨b⟩ x=some (((x.length:Nat):Int),(),⟨b++x⟩):=by
  unfold gz_ i4_ ja_
  rw [d3_ hx,ed_,d3_ h]
theorem i5_(b:T_1)(x:UInt8)(h:b.length+1≤140737488355328):iv_ ⟨b⟩ x=some ((),⟨b++[x]⟩):=by
  unfold iv_ i4_ ja_
  rw [ed_,d3_ (by simpa using h)]
theorem key_eq {n : Int} (hn : n ≤ 1024) {l : List Tip} (h : RowOk n l) : Gh_ l = some (kz_ l) := by
  unfold Gh_
  obtain ⟨r,h1,h2⟩:=er_ (step:=fun q:T_1×Nat=>Cu_ l q.1 q.2) (fun s k=>(s,k)) l.length (fun k s=>s=kz_ (l.take k)∧s.length≤k * 4200) (fun r=>r=kz_ l)
    (fun k s hk hI=>by
      obtain ⟨rfl,hI⟩:=hI
      have hm:=gf_ tz_ hk
      have hst:=h.st _ hm
      have hout:=h.out _ hm
      have hlen:=h.len
      have hd1:=md_ (u:=(nth l k tz_).state.toNat) (by omega)
      have hd2:=md_ (u:=(nth l k tz_).out.length) (by omega)
      refine .inl ⟨kz_ (l.take k)++xp_ (nth l k tz_) [],?_,by rw [ex_ l hk tz_,sb_],?_⟩
      · show Cu_ l (kz_ (l.take k)) k=_
        unfold Cu_
        have hk1:k≤1000000:=by omega
        have hk2:k * 4200≤4200000000:=by omega
        rw [d4_ (by omega),d3_ ⟨by omega,by omega⟩,nm_ hst.1,qh_ _ _ (by omega) (by omega),ed_]
        show bnd (iv_ ⟨kz_ (l.take k)++Lib.decDigits (nth l k tz_).state.toNat⟩ 58) _=_
        rw [i5_ _ _ (by rw [la_];omega),ed_,d3_ ⟨by omega,by omega⟩,nm_ (by omega),tn_]
        show bnd (gz_ ⟨kz_ (l.take k)++Lib.decDigits (nth l k tz_).state.toNat++[58]⟩ (Lib.decDigits (nth l k tz_).out.length)) _=_
        rw [qh_ _ _ (by omega) (by simp only [la_,lo_];omega),ed_]
        show bnd (iv_ ⟨kz_ (l.take k)++Lib.decDigits (nth l k tz_).state.toNat++[58]++Lib.decDigits (nth l k tz_).out.length⟩ 58) _=_
        rw [i5_ _ _ (by simp only [la_,lo_];omega),ed_]
        show bnd (gz_ ⟨kz_ (l.take k)++Lib.decDigits (nth l k tz_).state.toNat++[58]++Lib.decDigits (nth l k tz_).out.length++[58]⟩ (nth l k tz_).out) _=_
        rw [qh_ _ _ (by omega) (by simp only [la_,lo_];omega),ed_]
        show nxt (_,_)=some (.inl (_,_))
        unfold xp_
        simp [nxt]
      rw [la_]
      unfold xp_
      simp only [la_,List.length_cons,List.length_nil]
      omega)
    (fun s hI=>by
      obtain ⟨rfl,hI⟩:=hI
      refine ⟨_,?_,rfl⟩
      rw [List.take_length]
      show Cu_ l (kz_ l) l.length=_
      unfold Cu_ kp_
      rw [d5_ (by omega),ed_];rfl) (s0:=[]) ⟨rfl,by simp⟩
  rw [←h2];exact h1
def i9_(most:Int)(R:List (List Tip))(r:List Tip):Int⊕(Nat×List (List Tip)):=
  if r∈R then .inr (R.idxOf r,R) else if most≤(R.length:Int) then .inl 2 else .inr (R.length,R++[r])
theorem sj_{R:List (List Tip)}{r:List Tip}(h:r∈R):R.idxOf r<R.length:=List.idxOf_lt_length_iff.2 h
theorem yu_{R:List (List Tip)}{r:List Tip}(h:r∈R):nth R (R.idxOf r) []=r:=by
  unfold nth
  rw [List.getD_eq_getElem?_getD,List.getElem?_eq_getElem (sj_ h)]
  exact List.getElem_idxOf (sj_ h)
structure Places (n:Int) (m:FM T_1 Int) (R:List (List Tip)):Prop where
  ok: ∀r∈R,RowOk n r
  nd:R.Nodup
  at': ∀i,i<R.length→m.f (kz_ (nth R i []))=some ((i:Nat):Int)
  is: ∀k v,m.f k=some v→ ∃i,i<R.length∧kz_ (nth R i [])=k
theorem Places.nil(n:Int):Places n FM.emp []:=⟨by simp,List.nodup_nil,by simp,fun k v h=>by cases h⟩
theorem gb_{α:Type}{l m:List α}{i:Nat}(h:i<l.length)(d:α):nth (l++m) i d=nth l i d:=by
  unfold nth
  rw [List.getD_eq_getElem?_getD,List.getD_eq_getElem?_getD,List.getElem?_append_left h]
theorem ff_{α:Type}(l:List α)(x d:α):nth (l++[x]) l.length d=x:=by
  unfold nth
  rw [List.getD_eq_getElem?_getD,List.getElem?_append_right (Nat.le_refl _),Nat.sub_self];rfl
theorem Places.key{n:Int}{m:FM T_1 Int}{R:List (List Tip)}(h:Places n m R){r:List Tip}(hr:RowOk n r):m.has (kz_ r)=decide (r∈R):=by
  unfold FM.has
  rw [Bool.eq_iff_iff,dq_]
  constructor
  · intro hs
    obtain ⟨v,hv⟩:=Option.isSome_iff_exists.1 hs
    obtain ⟨i,h1,h2⟩:=h.is _ _ hv
    have h3:=gf_ [] h1
    have:=rf_ (fun x hx=>((h.ok _ h3).st x hx).1) (fun x hx=>(hr.st x hx).1) h2
    rw [←this];exact h3
  intro hm
  have:=h.at' _ (sj_ hm)
  rw [yu_ hm]at this
  rw [this];rfl
theorem Places.get{n:Int}{m:FM T_1 Int}{R:List (List Tip)}(h:Places n m R){r:List Tip}(hm:r∈R):m.get (kz_ r) 0=((R.idxOf r:Nat):Int):=by
  have:=h.at' _ (sj_ hm)
  rw [yu_ hm]at this
  unfold FM.get
  rw [this];rfl
theorem Places.put{n:Int}{m:FM T_1 Int}{R:List (List Tip)}(h:Places n m R){r:List Tip}(hr:RowOk n r)(hm:r∉R):Places n (m.put (kz_ r) ((R.length:Nat):Int)) (R++[r]):=by
  refine ⟨fun x hx=> ?_,?_,fun i hi=> ?_,fun k v hk=> ?_⟩
  · rcases List.mem_append.1 hx with hx|hx
    · exact h.ok x hx
    rw [List.mem_singleton.1 hx];exact hr
  · rw [List.nodup_append]
    refine ⟨h.nd,by simp,fun a ha b hb e=> ?_⟩
    rw [List.mem_singleton.1 hb]at e
    exact hm (e▸ha)
  · rw [la_,lo_]at hi
    show (if kz_ (nth (R++[r]) i [])=kz_ r then _ else _)=_
    by_cases e:i=R.length
    · subst e
      rw [ff_,if_pos rfl]
    have hl:i<R.length:=by omega
    rw [gb_ hl]
    have h3:=gf_ [] hl
    rw [if_neg fun q=> ?_]
    · exact h.at' i hl
    have:=rf_ (fun x hx=>((h.ok _ h3).st x hx).1) (fun x hx=>(hr.st x hx).1) q
    exact hm (this▸h3)
  change (if k=kz_ r then _ else _)=_ at hk
  rw [la_,lo_]
  by_cases e:k=kz_ r
  · exact ⟨R.length,by omega,by rw [ff_];exact e.symm⟩
  rw [if_neg e]at hk
  obtain ⟨i,h1,h2⟩:=h.is _ _ hk
  exact ⟨i,by omega,by rw [gb_ h1];exact h2⟩
def putR(x:Maker)(R:List (List Tip))(m:FM T_1 Int):Maker:=⟨x.arcs,x.ends,x.most,R,m,x.q⟩
theorem vu_{n:Int}(hn:n≤1024){x0:Maker}(h:Places n x0.places x0.rows){r:List Tip}(hr:RowOk n r)(hl:x0.rows.length≤1000000):
    (∀k,i9_ x0.most x0.rows r= .inl k→Ag_ x0 r=some (.inl k))∧ ∀i R',i9_ x0.most x0.rows r= .inr (i,R')→ ∃m',Ag_ x0 r=some (.inr (((i:Nat):Int),putR x0 R' m'))∧Places n m' R':=by
  have hst:Ag_ x0 r=ec_ (decide (r∈x0.rows)) (some (.inr ((x0.places.get (kz_ r) 0),x0))) (ec_ (decide (x0.most≤((x0.rows.length:Nat):Int))) (some (.inl 2)) (some (.inr (((x0.rows.length:Nat):Int),(⟨x0.arcs,x0.ends,x0.most,(x0.rows++[r]),(x0.places.put (kz_ r) ((x0.rows.length:Nat):Int)),x0.q⟩:Maker))))):=by
    unfold Ag_
    rw [key_eq hn hr,ed_,h.key hr,d3_ (by simp;omega)]
  rw [hst]
  unfold i9_
  by_cases c:r∈x0.rows
  · rw [if_pos c,d4_ c]
    refine ⟨fun k e=>(by cases e),fun i R' e=> ?_⟩
    cases e
    exact ⟨x0.places,by rw [h.get c];rfl,h⟩
  rw [if_neg c,d5_ c]
  by_cases d:x0.most≤(x0.rows.length:Int)
  · rw [if_pos d,d4_ d]
    exact ⟨fun k e=>(by cases e;rfl),fun i R' e=>(by cases e)⟩
  rw [if_neg d,d5_ d]
  refine ⟨fun k e=>(by cases e),fun i R' e=> ?_⟩
  cases e
  exact ⟨_,rfl,h.put hr c⟩
inductive RchQ (q:Seq):Nat→Prop
  |zero:RchQ q 0
  |step {s b:Nat}:RchQ q s→b<256→0≤nxQ q s b→RchQ q (nxQ q s b).toNat
def nd_(k:Nat→Bool)(n:Nat):List Nat:=(List.range n).filter k
theorem ka_(k:Nat→Bool)(n:Nat):nd_ k (n+1)=nd_ k n++if k n=true then [n] else []:=by
  unfold nd_
  rw [List.range_succ,List.filter_append]
  congr 1
  by_cases c:k n=true
  · rw [if_pos c,List.filter_cons_of_pos c];rfl
  rw [if_neg c,List.filter_cons_of_neg c];rfl
theorem if_(k:Nat→Bool): ∀n,(nd_ k n).length=gl_ k n
  |0=>rfl
  |n+1=>by
    rw [ka_,la_,if_ k n,gl_]
    cases k n<;>rfl
theorem lk_(k:Nat→Bool){s:Nat}(hk:k s=true): ∀{n:Nat},s<n→nth (nd_ k n) (gl_ k s) 0=s
  |n+1,hs=>by
    rw [ka_]
    by_cases c:s<n
    · rw [gb_ (by rw [if_];exact jd_ k c hk)];exact lk_ k hk c
    have:s=n:=by omega
    subst this
    rw [if_pos hk,←if_ k s];exact ff_ _ _ _
def nxP(q:Seq)(k:Nat→Bool)(s b:Nat):Int:=if nxQ q s b<0 then -1 else if k (nxQ q s b).toNat=true then ((gl_ k (nxQ q s b).toNat:Nat):Int) else -1
def otP(q:Seq)(l:T_2)(k:Nat→Bool)(s b:Nat):T_1:=if nxQ q s b<0 then [] else if k (nxQ q s b).toNat=true then (otQ q s b++nth l (nxQ q s b).toNat []).drop (nth l s []).length else []
def tlP(q:Seq)(l:T_2)(s:Nat):T_1:=if nth q.fin s false=true then (nth q.tail s []).drop (nth l s []).length else []
def fo_(q:Seq)(l:T_2)(k:Nat→Bool):Seq:=
  ⟨q.front++nth l 0 [],(nd_ k q.next.length).map fun s=>(List.range 256).map (nxP q k s),(nd_ k q.next.length).map fun s=>(List.range 256).map (otP q l k s),(nd_ k q.next.length).map fun s=>nth q.fin s false,(nd_ k q.next.length).map (tlP q l)⟩
theorem ln_{n i:Nat}(h:i<n):nth (List.range n) i 0=i:=by
  rw [kd_ _ (by rw [List.length_range];exact h),List.getElem_range]
section
variable {q:Seq} {l:T_2} {k:Nat→Bool} {s:Nat}
theorem ov_(hs:s<q.next.length)(hk:k s=true):gl_ k s<(nd_ k q.next.length).length:=by rw [if_];exact jd_ k hs hk
theorem k1_(hs:s<q.next.length)(hk:k s=true){b:Nat}(hb:b<256):nxQ (fo_ q l k) (gl_ k s) b=nxP q k s b:=by
  unfold nxQ fo_
  rw [gd_ _ _ _ 0 _ (ov_ hs hk),lk_ k hk hs,gd_ _ _ _ 0 _ (by rw [List.length_range];exact hb),ln_ hb]
theorem nh_(hs:s<q.next.length)(hk:k s=true){b:Nat}(hb:b<256):otQ (fo_ q l k) (gl_ k s) b=otP q l k s b:=by
  unfold otQ fo_
  rw [gd_ _ _ _ 0 _ (ov_ hs hk),lk_ k hk hs,gd_ _ _ _ 0 _ (by rw [List.length_range];exact hb),ln_ hb]
theorem st_(hs:s<q.next.length)(hk:k s=true):nth (fo_ q l k).fin (gl_ k s) false=nth q.fin s false:=by
  unfold fo_
  rw [gd_ _ _ _ 0 _ (ov_ hs hk),lk_ k hk hs]
theorem qy_(hs:s<q.next.length)(hk:k s=true):nth (fo_ q l k).tail (gl_ k s) []=tlP q l s:=by
  unfold fo_
  rw [gd_ _ _ _ 0 _ (ov_ hs hk),lk_ k hk hs]
end
theorem hd_(q:Seq)(l:T_2)(k:Nat→Bool):(fo_ q l k).next.length=gl_ k q.next.length:=by
  unfold fo_;rw [List.length_map,if_]
theorem s6_{q:Seq}(hq:d9_ q=true){l:T_2}{m:B_1}(h:FrOk q l m){s b:Nat}(hs:s<q.next.length)(hb:b<256)(h0:0≤nxQ q s b)(hm:nth m (nxQ q s b).toNat false=true):
    nth l s [] <+: otQ q s b++nth l (nxQ q s b).toNat []:=by
  have hz:=fe_ hq hs hb
  have hv:=xh_ hb h0 (h.com s hs)
  obtain ⟨w,y,hy⟩:=(h.live (nxQ q s b).toNat (by omega)).1 hm
  have h1:=hv w y hy
  rcases List.prefix_or_prefix_of_prefix h1 (List.prefix_append (otQ q s b) y)with h2|⟨r,hr⟩
  · exact h2.trans (List.prefix_append _ _)
  rw [←hr,List.prefix_append_right_inj]
  refine h.up _ (by omega) hm r fun w y hy=> ?_
  have:=hv w y hy
  rwa [←hr,List.prefix_append_right_inj]at this
def q1_(q:Seq)(m:B_1)(k:Nat→Bool):Prop:= ∀s,s<q.next.length→(k s=true↔RchQ q s∧nth m s false=true)
theorem Gq_ {q : Seq} (hq : d9_ q = true) {l : T_2} {m : B_1} (h : FrOk q l m) {k : Nat → Bool} (hk : q1_ q m k) : ∀ (w : T_1) (s : Nat), s < q.next.length → k s = true → ev_ (fo_ q l k) (gl_ k s) w = (ev_ q s w).map fun y => y.drop (nth l s []).length
  |[],s,hs,hks=>by
    rw [ev_,ev_,st_ hs hks,qy_ hs hks]
    unfold tlP
    by_cases c:nth q.fin s false=true
    · rw [if_pos c,if_pos c,if_pos c];rfl
    rw [if_neg c,if_neg c];rfl
  | b :: w, s, hs, hks => by
    have hb:b.toNat<256:=by have:=UInt8.toNat_lt b;omega
    rw [ev_,ev_,k1_ hs hks hb,nh_ hs hks hb]
    unfold nxP otP
    have hz:=fe_ hq hs hb
    by_cases c:nxQ q s b.toNat<0
    · rw [if_pos c,if_pos c,if_pos c,if_pos (by decide)];rfl
    rw [if_neg c,if_neg c,if_neg c]
    have hzl:(nxQ q s b.toNat).toNat<q.next.length:=by omega
    by_cases d:k (nxQ q s b.toNat).toNat=true
    · rw [if_pos d,if_pos d,if_neg (by omega),tn_,Gq_ hq h hk w _ hzl d]
      cases ho:ev_ q (nxQ q s b.toNat).toNat w with
      |none=>rfl
      |some y=>
        show some _=some _
        congr 1
        obtain ⟨y',hy'⟩:=h.com _ hzl w y ho
        have hf:=(s6_ hq h hs hb (by omega) ((hk _ hzl).1 d).2).length_le
        show (otQ q s b.toNat++nth l (nxQ q s b.toNat).toNat []).drop (nth l s []).length++y.drop (nth l (nxQ q s b.toNat).toNat []).length=(otQ q s b.toNat++y).drop (nth l s []).length
        rw [←hy',List.drop_left,←ap_,List.drop_append_of_le_length hf]
    rw [if_neg d,if_neg d,if_pos (by decide)]
    have hr:=((hk s hs).1 hks).1
    cases ho:ev_ q (nxQ q s b.toNat).toNat w with
    |none=>rfl
    |some y=>
      have:=(h.live _ hzl).2 ⟨w,y,ho⟩
      exact absurd ((hk _ hzl).2 ⟨hr.step hb (by omega),this⟩) d
theorem zh_{q:Seq}(hlt: ∀s b,s<q.next.length→b<256→nxQ q s b<(q.next.length:Int))(h0:0<q.next.length){s:Nat}(h:RchQ q s):s<q.next.length:=by
  induction h with
  |zero=>exact h0
  |step _ hb h1 ih=>have:=hlt _ _ ih hb;omega
theorem u7_(q:Seq)(l:T_2){k:Nat→Bool}(hq:d9_ q=true){s b:Nat}(hs:s<q.next.length)(hb:b<256):nxP q k s b<((fo_ q l k).next.length:Int):=by
  rw [hd_]
  have hz:=fe_ hq hs hb
  unfold nxP
  split
  · omega
  split
  · rename_i c
    have:=jd_ k (m:=(nxQ q s b).toNat) (n:=q.next.length) (by omega) c
    omega
  omega
theorem Ha_{q:Seq}(hq:d9_ q=true){l:T_2}{m:B_1}(h:FrOk q l m){k:Nat→Bool}(hk:q1_ q m k):PshQ (fo_ q l k):=by
  have hl:=hd_ q l k
  refine ⟨fun p b hp hb=> ?_,fun p hp=> ?_,fun p hp x hx=> ?_⟩
  · obtain ⟨s,h1,h2,h3⟩:=lx_ k q.next.length p (by omega)
    rw [←h3,k1_ h1 h2 hb]
    exact u7_ q l hq h1 hb
  · obtain ⟨s,h1,h2,h3⟩:=lx_ k q.next.length p (by omega)
    obtain ⟨w,y,hy⟩:=(h.live s h1).1 ((hk s h1).1 h2).2
    refine ⟨w,y.drop (nth l s []).length,?_⟩
    rw [←h3,Gq_ hq h hk w s h1 h2,hy];rfl
  obtain ⟨s,h1,h2,h3⟩:=lx_ k q.next.length p (by omega)
  have hc:ComQ q s (nth l s []++x):=fun w y hy=>by
    obtain ⟨y',hy'⟩:=h.com s h1 w y hy
    rw [←hy',List.prefix_append_right_inj]
    refine hx w y' ?_
    rw [←h3,Gq_ hq h hk w s h1 h2,hy,←hy']
    show some ((nth l s []++y').drop (nth l s []).length)=some y'
    rw [List.drop_left]
  have:=(h.up s h1 ((hk s h1).1 h2).2 _ hc).length_le
  rw [la_]at this
  exact en_ (by omega)
theorem Ix_{q:Seq}(hq:d9_ q=true){l:T_2}{m:B_1}(h:FrOk q l m){k:Nat→Bool}(hk:q1_ q m k){s:Nat}(hr:RchQ q s):s<q.next.length→rb_ q s→RchQ (fo_ q l k) (gl_ k s):=by
  induction hr with
  |zero=>intro _ _;exact .zero
  |step hr hb h0 ih=>
    rename_i s b
    intro hz hl
    obtain ⟨w,y,hy⟩:=hl
    have hs:=zh_ (q:=q) (fun s b hs hb=>fe_ hq hs hb) (by omega) hr
    have hls:rb_ q s:=⟨UInt8.ofNat b::w,_,by rw [i8_ hb h0,hy];rfl⟩
    have hks:=(hk s hs).2 ⟨hr,(h.live s hs).2 hls⟩
    have hkz:=(hk _ hz).2 ⟨hr.step hb h0,(h.live _ hz).2 ⟨w,y,hy⟩⟩
    have h1:=k1_ (l:=l) hs hks hb
    unfold nxP at h1
    rw [if_neg (by omega),if_pos hkz]at h1
    have:=(ih hs hls).step hb (by omega)
    rw [h1,tn_]at this;exact this
def fj_(q:Seq)(w:T_1):Option T_1:=(ev_ q 0 w).map fun y=>q.front++y
theorem G4_{q:Seq}(hq:d9_ q=true){l:T_2}{m:B_1}(h:FrOk q l m){k:Nat→Bool}(hk:q1_ q m k)(h0:0<q.next.length)(hk0:k 0=true)(w:T_1):fj_ (fo_ q l k) w=fj_ q w:=by
  have:=Gq_ hq h hk w 0 h0 hk0
  rw [show gl_ k 0=0 from rfl]at this
  unfold fj_
  rw [this]
  cases ho:ev_ q 0 w with
  |none=>rfl
  |some y=>
    obtain ⟨y',hy'⟩:=h.com 0 h0 w y ho
    rw [←hy']
    show some ((q.front++nth l 0 [])++(nth l 0 []++y').drop (nth l 0 []).length)=some (q.front++(nth l 0 []++y'))
    rw [List.drop_left,ap_]
theorem ro_{q:Seq}: ∀(w:T_1) (i s:Nat) (acc:T_1),(p1_ q w i ((s:Nat):Int) acc).1=(((ev_ q s w).map fun y=>acc++y).getD [])∧(p1_ q w i ((s:Nat):Int) acc).2.2=(ev_ q s w).isSome
  |[],i,s,acc=>by
    rw [p1_,ev_,tn_]
    by_cases c:nth q.fin s false=true
    · rw [if_pos c,if_pos c];exact ⟨rfl,rfl⟩
    rw [if_neg c,if_neg c];exact ⟨rfl,rfl⟩
  |b::w,i,s,acc=>by
    rw [p1_,ev_,tn_]
    change (if nxQ q s b.toNat<0 then _ else p1_ q w (i+1) (nxQ q s b.toNat) (acc++otQ q s b.toNat)).1=_∧(if nxQ q s b.toNat<0 then _ else p1_ q w (i+1) (nxQ q s b.toNat) (acc++otQ q s b.toNat)).2.2=_
    by_cases c:nxQ q s b.toNat<0
    · rw [if_pos c,if_pos c];exact ⟨rfl,rfl⟩
    rw [if_neg c,if_neg c]
    have:=ro_ (q:=q) w (i+1) (nxQ q s b.toNat).toNat (acc++otQ q s b.toNat)
    rw [show (((nxQ q s b.toNat).toNat:Nat):Int)=nxQ q s b.toNat by omega]at this
    rw [this.1,this.2]
    cases ev_ q (nxQ q s b.toNat).toNat w with
    |none=>exact ⟨rfl,rfl⟩
    |some y=>exact ⟨by show (acc++_)++y=acc++(_++y);rw [ap_],rfl⟩
theorem ma_{q:Seq}(hq:d9_ q=true)(w:T_1):(gi_ q w).1=(fj_ q w).getD []∧(gi_ q w).2.2.1=(fj_ q w).isSome∧(gi_ q w).2.2.2=0:=by
  refine ⟨?_,?_,s5_ hq w⟩<;>unfold gi_ fj_<;>rw [if_pos hq]
  · by_cases c:q.next.length=0
    · rw [if_pos c,f0_ (en_ c) (en_ (by have:=(d7_ hq).2.2.1;omega))];rfl
    rw [if_neg c];exact (ro_ (q:=q) w 0 0 q.front).1
  by_cases c:q.next.length=0
  · rw [if_pos c,f0_ (en_ c) (en_ (by have:=(d7_ hq).2.2.1;omega))];rfl
  rw [if_neg c]
  have:=(ro_ (q:=q) w 0 0 q.front).2
  show (p1_ q w 0 0 q.front).2.2=_
  refine this.trans ?_
  cases ev_ q 0 w<;>rfl
theorem ri_:CanQ Seq.zero:=by
  refine ⟨⟨fun s b hs=> ?_,fun s hs=> ?_,fun s hs=> ?_⟩,by decide+kernel,fun c j hc=> ?_,fun j _ hj=> ?_,fun s t hs=> ?_⟩
  · exact absurd hs (Nat.not_lt_zero _)
  · exact absurd hs (Nat.not_lt_zero _)
  · exact absurd hs (Nat.not_lt_zero _)
  · exact absurd hc (by show ¬ c<0 * 256;omega)
  · exact absurd hj (Nat.not_lt_zero _)
  exact absurd hs (Nat.not_lt_zero _)
theorem qr_ {m m' : Seq} (h : PshQ m) (h' : PshQ m') (c : 0 < m.next.length) (c' : 0 < m'.next.length) (he : ∀ w, fj_ m w = fj_ m' w) : m.front = m'.front ∧ ev_ m 0 = ev_ m' 0 := by
  have hall: ∀w,(ev_ m 0 w).map (fun y=>m.front++y)=(ev_ m' 0 w).map fun y=>m'.front++y:=he
  have hf:m.front=m'.front:=by
    obtain ⟨w,y,hy⟩:=h.live 0 (by omega)
    have h2:=hall w
    rw [hy]at h2
    cases ho:ev_ m' 0 w with
    |none=>rw [ho]at h2;cases h2
    |some y'=>
      rw [ho]at h2
      have h3:m.front++y=m'.front++y':=Option.some.inj h2
      rcases List.prefix_or_prefix_of_prefix (List.prefix_append m.front y) (h3▸List.prefix_append m'.front y')with ⟨r,hr⟩|⟨r,hr⟩
      · have:r=[]:=rw_ h (show 0<_ by omega) (o:=m.front) (r:=r) (m':=m') (z':=0) fun w=>by rw [hr];exact hall w
        rw [←hr,this,List.append_nil]
      have:r=[]:=rw_ h' (show 0<_ by omega) (o:=m'.front) (r:=r) (m':=m) (z':=0) fun w=>by rw [hr];exact (hall w).symm
      rw [←hr,this,List.append_nil]
  refine ⟨hf,funext fun w=> ?_⟩
  have h2:=hall w
  rw [hf]at h2
  cases h3:ev_ m 0 w with
  |none=>cases h4:ev_ m' 0 w with
    |none=>rfl
    |some y'=>rw [h3,h4]at h2;cases h2
  |some y=>cases h4:ev_ m' 0 w with
    |none=>rw [h3,h4]at h2;cases h2
    |some y'=>
      rw [h3,h4]at h2
      have h5:m'.front++y=m'.front++y':=Option.some.inj h2
      rw [List.append_cancel_left h5]
theorem yl_{m m':Seq}(h:CanQ m)(h':CanQ m')(he: ∀w,fj_ m w=fj_ m' w):m=m':=by
  obtain ⟨q1,q2,q3,q4,q5⟩:=d7_ h.right
  obtain ⟨p1,p2,p3,p4,p5⟩:=d7_ h'.right
  have hno: ∀{n:Seq},d9_ n=true→n.next.length=0→n=Seq.zero:=fun {n} hn h0=>by
    obtain ⟨q1,q2,q3,q4,q5⟩:=d7_ hn
    have hf:n.front=[]:=by
      simp only [d9_,i7_,Bool.and_eq_true,Bool.or_eq_true,dq_]at hn
      rcases hn.1.2 with c|c
      · exact absurd h0 c
      exact c
    exact Hp_ hf (en_ h0) (en_ (by omega)) (en_ (by omega)) (en_ (by omega))
  have hem: ∀w,fj_ Seq.zero w=none:=fun w=>by unfold fj_;rw [f0_ rfl rfl];rfl
  have hlive: ∀{n:Seq},CanQ n→0<n.next.length→ ∃w y,fj_ n w=some y:=fun {n} hn h0=>by
    obtain ⟨w,y,hy⟩:=hn.live 0 h0
    exact ⟨w,_,by unfold fj_;rw [hy];rfl⟩
  by_cases c:m.next.length=0
  · have e:=hno h.right c
    by_cases c':m'.next.length=0
    · rw [e,hno h'.right c']
    obtain ⟨w,y,hy⟩:=hlive h' (by omega)
    rw [←he,e,hem]at hy;cases hy
  by_cases c':m'.next.length=0
  · obtain ⟨w,y,hy⟩:=hlive h (by omega)
    rw [he,hno h'.right c',hem]at hy;cases hy
  obtain ⟨e1,e2⟩:=qr_ h.toPshQ h'.toPshQ (by omega) (by omega) he
  exact can_uniq h h' e1 e2
theorem ny_{q:Seq}{k:Nat→Bool}(h0:0<q.next.length)(hk:k 0=true):0<gl_ k q.next.length:=by have:=jd_ _ h0 hk;omega
theorem Hm_{p:Seq}(hp:d9_ p=true){lp:T_2}{kp:Nat→Bool}(np:0<p.next.length)(kp0:kp 0=true)(hf:(fo_ p lp kp).front.length≤4096)(hle: ∀a,a<p.next.length→kp a=true→ ∀b,b<256→(otP p lp kp a b).length≤4096):d9_ (fo_ p lp kp)=true:=by
  have lP:=hd_ p lp kp
  have posP:=ny_ np kp0
  have hself:=he_ kp p.next.length
  have hp1:=(d7_ hp).1
  have hlk:(nd_ kp p.next.length).length=(fo_ p lp kp).next.length:=by rw [if_,lP]
  refine tm_ (by omega) ?_ ?_ ?_ hf (.inl (by omega)) fun i hi=> ?_
  · show (List.map _ _).length=_
    rw [List.length_map,hlk]
  · show (List.map _ _).length=_
    rw [List.length_map,hlk]
  · show (List.map _ _).length=_
    rw [List.length_map,hlk]
  obtain ⟨a,h1,h2,h3⟩:=lx_ kp p.next.length i (by omega)
  have hkl:=ov_ h1 h2
  rw [h3]at hkl
  have hnx: ∀b,b<256→nxQ (fo_ p lp kp) i b=nxP p kp a b:=fun b hb=>by rw [←h3];exact k1_ h1 h2 hb
  have hot: ∀b,b<256→otQ (fo_ p lp kp) i b=otP p lp kp a b:=fun b hb=>by rw [←h3];exact nh_ h1 h2 hb
  have hno: ∀b,b<256→nxP p kp a b<0→otP p lp kp a b=[]:=fun b hb c=>by
    unfold nxP at c
    unfold otP
    split
    · rfl
    rename_i d
    rw [if_neg d]at c
    split
    · rename_i f;rw [if_pos f]at c;omega
    rfl
  have hfin:nth (fo_ p lp kp).fin i false=nth p.fin a false:=by rw [←h3];exact st_ h1 h2
  have htl:nth (fo_ p lp kp).tail i []=tlP p lp a:=by rw [←h3];exact qy_ h1 h2
  have ht:=(gg_ hp h1).1
  refine ⟨?_,?_,?_,?_,fun b hb=> ?_,fun b hb=> ?_,fun b hb=> ?_,fun b hb c=> ?_⟩
  · rw [htl];unfold tlP
    split
    · rw [List.length_drop];omega
    exact Nat.zero_le _
  · rw [hfin,htl];unfold tlP
    cases nth p.fin a false with
    |true=>exact .inl rfl
    |false=>exact .inr (if_neg (by decide))
  · show (nth (List.map _ _) i []).length=_
    rw [gd_ _ _ _ 0 _ hkl,List.length_map,List.length_range]
  · show (nth (List.map _ _) i []).length=_
    rw [gd_ _ _ _ 0 _ hkl,List.length_map,List.length_range]
  · rw [hnx b hb];unfold nxP
    split
    · omega
    split<;>omega
  · rw [hnx b hb];exact u7_ p lp hp h1 hb
  · rw [hot b hb];exact hle a h1 h2 b hb
  rw [hot b hb];exact hno b hb (by rw [←hnx b hb];omega)
theorem Ih_{q p:Seq}(hq:d9_ q=true)(hp:d9_ p=true){lq lp:T_2}{mq mp:B_1}(fq:FrOk q lq mq)(fp:FrOk p lp mp){kq kp:Nat→Bool}(hkq:q1_ q mq kq)(hkp:q1_ p mp kp)
    (nq:0<q.next.length) (np:0<p.next.length) (kq0:kq 0=true) (kp0:kp 0=true) (he: ∀w,fj_ p w=fj_ q w) (hr:d9_ (fo_ q lq kq)=true):d9_ (fo_ p lp kp)=true:=by
  have hP:=Ha_ hp fp hkp
  have hQ:=Ha_ hq fq hkq
  have lP:=hd_ p lp kp
  have lQ:=hd_ q lq kq
  have posP:=ny_ np kp0
  have posQ:=ny_ nq kq0
  obtain ⟨ef,eo⟩:=qr_ hP hQ (by omega) (by omega) fun w=>by rw [G4_ hp fp hkp np kp0,G4_ hq fq hkq nq kq0,he]
  have hall: ∀i,RchQ (fo_ p lp kp) i→i<(fo_ p lp kp).next.length→ ∃s,s<(fo_ q lq kq).next.length∧ev_ (fo_ p lp kp) i=ev_ (fo_ q lq kq) s:=fun i hi=>by
    induction hi with
    |zero=>exact fun _=>⟨0,by omega,eo⟩
    |step hi hb h0 ih=>
      intro hz
      have hlt:=zh_ hP.lt (by omega) hi
      obtain ⟨s,hs,e⟩:=ih hlt
      obtain ⟨k1,k2,k3⟩:=gv_ hP hQ hlt hs hb e h0
      exact ⟨_,by have:=hQ.lt _ _ hs hb;omega,k3⟩
  refine Hm_ hp np kp0 (by rw [ef];exact (d7_ hr).2.2.2.2) fun a h1 h2 b hb=> ?_
  have hi:gl_ kp a<(fo_ p lp kp).next.length:=by rw [lP];exact jd_ kp h1 h2
  obtain ⟨s,hs,e⟩:=hall _ (Ix_ (l:=lp) hp fp hkp ((hkp a h1).1 h2).1 h1 ((fp.live a h1).1 ((hkp a h1).1 h2).2)) hi
  by_cases c:0≤nxQ (fo_ p lp kp) (gl_ kp a) b
  · rw [←nh_ h1 h2 hb,(gv_ hP hQ hi hs hb e c).2.1];exact (rightQ_row hr hs).le b hb
  rw [k1_ h1 h2 hb]at c
  unfold nxP at c
  unfold otP
  split
  · exact Nat.zero_le _
  rename_i d
  rw [if_neg d]at c
  split
  · rename_i f;rw [if_pos f]at c;omega
  exact Nat.zero_le _
structure RchOk (q:Seq) (v:B_1):Prop where
  len:v.length=q.next.length
  iff: ∀s,s<q.next.length→(nth v s false=true↔RchQ q s)
def unM(v:B_1)(i:Nat):Nat:=if nth v i false=true then 0 else 1
theorem unM_le(v:B_1)(n:Nat):e6_ (unM v) n≤n:=by
  have:=rd_ (f:=unM v) (g:=fun _=>1) (n:=n) fun i _=>by unfold unM;split<;>omega
  rw [ku_]at this;omega
theorem unM_set{v:B_1}{n s:Nat}(hs:s<n)(hl:v.length=n)(h:nth v s false=false):e6_ (unM (v.set s true)) n+1=e6_ (unM v) n:=by
  have:=lv_ (f:=unM v) (g:=unM (v.set s true)) (s:=s) (n:=n) hs fun i hi hne=>by
    unfold unM;rw [rp_ hne]
  have e1:unM (v.set s true) s=0:=by unfold unM;rw [r2_ (by omega)];rfl
  have e2:unM v s=1:=by unfold unM;rw [h];rfl
  omega
theorem rch_done{q:Seq}(hq:d9_ q=true){v:B_1}(hl:v.length=q.next.length)(h0:0<q.next.length)(hz:nth v 0 false=true)(hr: ∀s,s<q.next.length→nth v s false=true→RchQ q s)
    (hc: ∀s,s<q.next.length→nth v s false=true→ ∀b,b<256→0≤nxQ q s b→nth v (nxQ q s b).toNat false=true):RchOk q v:=by
  refine ⟨hl,fun s hs=>⟨hr s hs,fun h=> ?_⟩⟩
  clear hs
  induction h with
  |zero=>exact hz
  |step h1 hb h2 ih=>exact hc _ (zh_ (fun s b hs hb=>fe_ hq hs hb) h0 h1) ih _ hb h2
structure RIn (q:Seq) (v:B_1) (w:N_1) (s j:Nat) (v':B_1) (w':N_1):Prop where
  len:v'.length=q.next.length
  old: ∀i,nth v i false=true→nth v' i false=true
  ow: ∀x∈w,x∈w'
  nw: ∀x∈w',x∈w∨(0≤x∧x<(q.next.length:Int)∧nth v' x.toNat false=true)
  fr: ∀i,nth v' i false=true→nth v i false=true∨(((i:Nat):Int)∈w'∧ ∃b,b<256∧nxQ q s b=((i:Nat):Int))
  to: ∀b,b<j→0≤nxQ q s b→nth v' (nxQ q s b).toNat false=true
  mu:2 * e6_ (unM v') q.next.length+w'.length≤2 * e6_ (unM v) q.next.length+w.length
theorem rch_in {q : Seq} (hq : d9_ q = true) {s : Nat} (hs : s < q.next.length) (z0 : N_1) (hz0 : (nth z0 0 0).toNat = s) {v : B_1} (hv : v.length = q.next.length) (w : N_1) (hw : w.length ≤ 1000000) :
    ∃v' w',eq_ (fun z:B_1×N_1×Nat=>Aq_ q z0 z.1 z.2.1 z.2.2) (v,w,0)=some (.inl (v',w'))∧RIn q v w s 256 v' w':=by
  obtain ⟨r1,r2⟩:=f7_ hq hs
  have hn1:=(d7_ hq).1
  obtain ⟨r,h1,v',w',rfl,h2⟩:=er_ (step:=fun z:B_1×N_1×Nat=>Aq_ q z0 z.1 z.2.1 z.2.2) (fun (z:B_1×N_1) k=>(z.1,z.2,k)) 256 (fun k z=>RIn q v w s k z.1 z.2) (fun r=> ∃v' w',r= .inl (v',w')∧RIn q v w s 256 v' w')
    (by
      rintro k ⟨v1,w1⟩ hk hI
      simp only at hI
      left
      have hlt:=fe_ hq hs hk
      have hl:=hI.len
      have hu:=unM_le v q.next.length
      have hmu:=hI.mu
      show ∃s':B_1×N_1,Aq_ q z0 v1 w1 k=some (.inl (s'.1,s'.2,k+1))∧_
      unfold Aq_ Co_
      have e1:nth (nth q.next s []) k 0=nxQ q s k:=rfl
      rw [hz0,d4_ (by omega)]
      simp only [e1]
      by_cases c:0≤nxQ q s k
      · rw [d4_ c,d3_ (show 0≤nxQ q s k∧nxQ q s k<(v1.length:Int) by omega)]
        cases d:nth v1 (nxQ q s k).toNat false with
        |true=>
          rw [gk_]
          refine ⟨(v1,w1),rfl,hI.len,hI.old,hI.ow,hI.nw,hI.fr,fun b hb hb0=> ?_,hI.mu⟩
          by_cases e:b<k
          · exact hI.to b e hb0
          have:b=k:=by omega
          subst this;exact d
        |false=>
          rw [id_,d3_ (show 0≤nxQ q s k∧nxQ q s k<(v1.length:Int) by omega),d3_ (by simp only [lo_];omega)]
          have hset:=unM_set (show (nxQ q s k).toNat<q.next.length by omega) hl d
          refine ⟨(v1.set (nxQ q s k).toNat true,w1++[nxQ q s k]),rfl,by simp [hl],fun i hi=> ?_,fun x hx=>List.mem_append_left _ (hI.ow x hx),fun x hx=> ?_,fun i hi=> ?_,fun b hb hb0=> ?_,?_⟩
          · show nth (v1.set _ _) _ _=_
            rw [ek_];split
            · rfl
            exact hI.old i hi
          · show _∨(_∧_∧nth (v1.set _ _) _ _=_)
            rcases List.mem_append.1 hx with hx|hx
            · rcases hI.nw x hx with h|⟨a1,a2,a3⟩
              · exact .inl h
              refine .inr ⟨a1,a2,?_⟩
              rw [ek_];split
              · rfl
              exact a3
            rw [mo_]at hx
            subst hx
            exact .inr ⟨c,hlt,by rw [ek_,if_pos ⟨rfl,by omega⟩]⟩
          · have hi:nth (v1.set (nxQ q s k).toNat true) i false=true:=hi
            rw [ek_]at hi
            by_cases e:(nxQ q s k).toNat=i
            · refine .inr ⟨?_,k,hk,by omega⟩
              show _∈w1++[nxQ q s k]
              rw [show ((i:Nat):Int)=nxQ q s k by omega]
              exact List.mem_append_right _ (List.mem_singleton.2 rfl)
            rw [if_neg (fun h=>e h.1)]at hi
            rcases hI.fr i hi with h|⟨h,h'⟩
            · exact .inl h
            exact .inr ⟨List.mem_append_left _ h,h'⟩
          · show nth (v1.set _ _) _ _=_
            rw [ek_];split
            · rfl
            rename_i e
            by_cases f:b<k
            · exact hI.to b f hb0
            have:b=k:=by omega
            subst this
            exact absurd ⟨rfl,by omega⟩ e
          show 2 * e6_ (unM (v1.set _ _)) _+(w1++[nxQ q s k]).length≤_
          rw [la_,lo_];omega
      rw [d5_ c]
      refine ⟨(v1,w1),rfl,hI.len,hI.old,hI.ow,hI.nw,hI.fr,fun b hb hb0=> ?_,hI.mu⟩
      by_cases e:b<k
      · exact hI.to b e hb0
      have:b=k:=by omega
      subst this;exact absurd hb0 c)
    (by
      rintro ⟨v1,w1⟩ hI
      simp only at hI
      refine ⟨.inl (v1,w1),?_,v1,w1,rfl,hI⟩
      show Aq_ q z0 v1 w1 256=_
      unfold Aq_
      rw [hz0,d5_ (by omega)];rfl) (s0:=(v,w)) ⟨hv,fun _ h=>h,fun _ h=>h,fun _ h=> .inl h,fun _ h=> .inl h,fun b hb=>by omega,Nat.le_refl _⟩
  exact ⟨v',w',h1,h2⟩
structure RchI (q:Seq) (v:B_1) (w:N_1):Prop where
  len:v.length=q.next.length
  zero:nth v 0 false=true
  rng: ∀x∈w,0≤x∧x<(q.next.length:Int)∧nth v x.toNat false=true
  rch: ∀s,s<q.next.length→nth v s false=true→RchQ q s
  cl: ∀s,s<q.next.length→nth v s false=true→((s:Nat):Int)∈w∨ ∀b,b<256→0≤nxQ q s b→nth v (nxQ q s b).toNat false=true
  mu:2 * e6_ (unM v) q.next.length+w.length≤4096
theorem wj_ {q : Seq} (hq : d9_ q = true) (h0 : 0 < q.next.length) : ∃ v, Ej_ q = some v ∧ RchOk q v := by
  have hn1:=(d7_ hq).1
  unfold Ej_
  rw [d3_ (by omega),d5_ (by simp only [lr_];omega),d3_ (by simp only [lr_];omega)]
  refine r0_ (step:=fun z:B_1×N_1=>Bb_ q z.1 z.2) (fun z=>RchI q z.1 z.2) (fun z=>2 * e6_ (unM z.1) q.next.length+z.2.length) (fun r=>RchOk q r) ?_ ?_
  · rintro ⟨v,w⟩ hI
    simp only at hI
    show (∃t',Bb_ q v w=some (.inl t')∧_∧_)∨ ∃r,Bb_ q v w=some (.inr r)∧_
    unfold Bb_
    cases w with
    |nil=>
      right
      rw [d5_ (by simp)]
      refine ⟨_,rfl,rch_done hq hI.len h0 hI.zero hI.rch fun s hs h=> ?_⟩
      rcases hI.cl s hs h with c|c
      · cases c
      exact c
    |cons z w=>
      left
      have hz:=hI.rng z (mc_ ..)
      obtain ⟨s,rfl⟩: ∃s:Nat,z=((s:Nat):Int):=⟨z.toNat,by omega⟩
      have hs:s<q.next.length:=by omega
      have hmu:=hI.mu
      rw [List.length_cons]at hmu
      have e0:nth (((s:Nat):Int)::w) 0 0=((s:Nat):Int):=rfl
      have e1:(((s:Nat):Int)::w).drop 1=w:=rfl
      rw [d4_ (by simp only [List.length_cons];omega),d3_ (by simp)]
      simp only [e0,e1]
      rw [d3_ (by omega)]
      obtain ⟨v',w',h1,h2⟩:=rch_in hq hs (((s:Nat):Int)::w) (by rw [e0,tn_]) hI.len w (by omega)
      have hm2:=h2.mu
      refine ⟨_,h1,⟨h2.len,h2.old _ hI.zero,fun x hx=> ?_,fun i hi hi2=> ?_,fun i hi hi2=> ?_,?_⟩,?_⟩
      · rcases h2.nw x hx with h|h
        · have:=hI.rng x (mm_ _ h)
          exact ⟨this.1,this.2.1,h2.old _ this.2.2⟩
        exact h
      · rcases h2.fr i hi2 with h|⟨_,b,hb,hx⟩
        · exact hI.rch i hi h
        have:=(hI.rch s hs (by have:=hz.2.2;rwa [tn_]at this)).step hb (by omega)
        rw [hx,tn_]at this;exact this
      · rcases h2.fr i hi2 with h|⟨h,_⟩
        · rcases hI.cl i hi h with c|c
          · rcases List.mem_cons.1 c with c|c
            · have:i=s:=by omega
              subst this
              exact .inr fun b hb hb0=>h2.to b hb hb0
            exact .inl (h2.ow _ c)
          exact .inr fun b hb hb0=>h2.old _ (c b hb hb0)
        exact .inl h
      · show 2 * e6_ (unM v') _+w'.length≤_
        omega
      show 2 * e6_ (unM v') _+w'.length<2 * e6_ (unM v) _+(((s:Nat):Int)::w).length
      rw [List.length_cons];omega
  show RchI q ((List.replicate q.next.length false).set 0 true) [0]
  have hf: ∀i,nth ((List.replicate q.next.length false).set 0 true) i false=true↔i=0:=fun i=>by
    rw [ek_,g9_]
    constructor
    · intro h
      split at h
      · rename_i c;exact c.1.symm
      cases h
    intro h
    rw [if_pos ⟨h.symm,by simp;omega⟩]
  have hu:=unM_le ((List.replicate q.next.length false).set 0 true) q.next.length
  refine ⟨by simp,(hf 0).2 rfl,fun x hx=> ?_,fun s hs h=> ?_,fun s hs h=> ?_,?_⟩
  · rw [mo_]at hx
    subst hx
    exact ⟨Int.le_refl _,by omega,(hf _).2 rfl⟩
  · rw [(hf s).1 h];exact .zero
  · rw [(hf s).1 h];exact .inl (List.mem_singleton.2 rfl)
  show _+([0]:N_1).length≤_
  rw [lo_];omega
def ys_(n:Nat)(k:Nat→Bool)(P:N_1):Prop:=P.length=n∧ ∀s,s<n→nth P s 0=if k s=true then ((gl_ k s:Nat):Int) else -1
def yn_(q:Seq)(l:T_2)(k:Nat→Bool)(s:Nat):Prop:= ∀b,b<256→(otP q l k s b).length≤4096
def nxR(q:Seq)(k:Nat→Bool)(s:Nat):N_1:=(List.range 256).map (nxP q k s)
def otR(q:Seq)(l:T_2)(k:Nat→Bool)(s:Nat):T_2:=(List.range 256).map (otP q l k s)
theorem q3_{α:Type}{f:Nat→α}{l:List α}(d:α)(hl:l.length=256)(h: ∀b,b<256→nth l b d=f b):l=(List.range 256).map f:=
  kq_ d (by simp [hl]) fun b hb=>by
    have hb:b<256:=by omega
    rw [h b hb,gd_ _ _ _ 0 _ (by rw [List.length_range];exact hb),ln_ hb]
theorem Gl_{α:Type}{f:Nat→α}{l:List α}(d:α){k:Nat}(hl:l.length=256)(hk:k<256)(h: ∀b,b<k→nth l b d=f b){x:α}(hx:x=f k): ∀b,b<k+1→nth (l.set k x) b d=f b:=fun b hb=>by
  rw [ek_]
  by_cases c:k=b
  · subst c;rw [if_pos ⟨rfl,by omega⟩,hx]
  rw [if_neg (fun e=>c e.1)];exact h b (by omega)
structure TuI (q:Seq) (l:T_2) (k:Nat→Bool) (s j:Nat) (N:N_1) (O:T_2):Prop where
  n:N.length=256
  o:O.length=256
  nx: ∀b,b<j→nth N b 0=nxP q k s b
  ot: ∀b,b<j→nth O b []=otP q l k s b
  rest: ∀b,j≤b→nth O b []=[]
  le: ∀b,b<j→(otP q l k s b).length≤4096
theorem TuI.none{q:Seq}{l:T_2}{k:Nat→Bool}{s j:Nat}{N:N_1}{O:T_2}(h:TuI q l k s j N O)(hj:j<256)(h1:nxP q k s j= -1)(h2:otP q l k s j=[]):TuI q l k s (j+1) (N.set j (-1)) O:=by
  refine ⟨by rw [ls_];exact h.n,h.o,Gl_ 0 h.n hj h.nx h1.symm,fun b hb=> ?_,fun b hb=>h.rest b (by omega),fun b hb=> ?_⟩
  · by_cases c:b<j
    · exact h.ot b c
    have:b=j:=by omega
    subst this;rw [h2];exact h.rest b (Nat.le_refl _)
  by_cases c:b<j
  · exact h.le b c
  have:b=j:=by omega
  subst this;rw [h2];exact Nat.zero_le _
theorem TuI.some{q:Seq}{l:T_2}{k:Nat→Bool}{s j:Nat}{N:N_1}{O:T_2}(h:TuI q l k s j N O)(hj:j<256){z:Int}{o:T_1}(h1:nxP q k s j=z)(h2:otP q l k s j=o)(hl:o.length≤4096):TuI q l k s (j+1) ((N.set j (-1)).set j z) (O.set j o):=by
  have h3:=h.n
  have h4:=h.o
  refine ⟨by simp [h3],by simp [h4],fun b hb=> ?_,Gl_ [] h4 hj h.ot h2.symm,fun b hb=> ?_,fun b hb=> ?_⟩
  · rw [ek_,ek_]
    by_cases c:j=b
    · subst c;rw [if_pos ⟨rfl,by simp;omega⟩,h1]
    rw [if_neg (fun e=>c e.1),if_neg (fun e=>c e.1)];exact h.nx b (by omega)
  · rw [ek_,if_neg (fun e=>by omega)];exact h.rest b (by omega)
  by_cases c:b<j
  · exact h.le b c
  have:b=j:=by omega
  subst this;rw [h2];exact hl
theorem TuI.rows{q:Seq}{l:T_2}{k:Nat→Bool}{s:Nat}{N:N_1}{O:T_2}(h:TuI q l k s 256 N O):N=nxR q k s∧O=otR q l k s:=⟨q3_ 0 h.n h.nx,q3_ [] h.o h.ot⟩
theorem yc_ {q : Seq} (hq : d9_ q = true) {l : T_2} {m : B_1} (h : FrOk q l m) {k : Nat → Bool} (hk : q1_ q m k) {P : N_1} (hP : ys_ q.next.length k P) {s : Nat} (hs : s < q.next.length) :
    ∃r,Eu_ q ((s:Nat):Int) l P=some r∧((yn_ q l k s∧r=(nxR q k s,otR q l k s,true))∨(¬ yn_ q l k s∧r.2.2=false)):=by
  obtain ⟨q1,q2,q3,q4,q5⟩:=d7_ hq
  obtain ⟨r1,r2⟩:=f7_ hq hs
  have hll:=h.ln
  have hPl:=hP.1
  have hls:=h.le s hs
  unfold Eu_ Em_
  rw [d3_ (by omega)]
  refine er_ (step:=fun z:N_1×T_2×Nat=>Aw_ q ((s:Nat):Int) P l z.1 z.2.1 z.2.2) (fun (z:N_1×T_2) j=>(z.1,z.2,j)) 256 (fun j z=>TuI q l k s j z.1 z.2) (fun r=>(yn_ q l k s∧r=(nxR q k s,otR q l k s,true))∨(¬ yn_ q l k s∧r.2.2=false)) ?_ ?_ (s0:=(List.replicate 256 0,List.replicate 256 [])) ⟨by simp,by simp,fun b hb=>by omega,fun b hb=>by omega,fun b _=>g9_ _ _ _,fun b hb=>by omega⟩
  · rintro j ⟨N,O⟩ hj hI
    simp only at hI
    have hNl:=hI.n
    have hOl:=hI.o
    have hlt:=fe_ hq hs hj
    have hol:=n9_ hq hs hj
    show (∃s':N_1×T_2,Aw_ q ((s:Nat):Int) P l N O j=some (.inl (s'.1,s'.2,j+1))∧_)∨ ∃r,Aw_ q ((s:Nat):Int) P l N O j=some (.inr r)∧_
    unfold Aw_ Cx_
    have e1:nth (nth q.next s []) j 0=nxQ q s j:=rfl
    have e2:nth (nth q.outs s []) j []=otQ q s j:=rfl
    rw [tn_,d4_ (by omega),d3_ (by omega)]
    simp only [e1,e2]
    by_cases c:nxQ q s j<0
    · left
      rw [d4_ c]
      exact ⟨(_,_),rfl,hI.none hj (by unfold nxP;rw [if_pos c]) (by unfold otP;rw [if_pos c])⟩
    have hz:(nxQ q s j).toNat<q.next.length:=by omega
    have hlz:=h.le _ hz
    have hg:0≤nxQ q s j∧nxQ q s j<(P.length:Int):=by omega
    have hg2:0≤nxQ q s j∧nxQ q s j<(l.length:Int):=by omega
    rw [d5_ c,d3_ hg]
    have hPz:=hP.2 _ hz
    by_cases d:k (nxQ q s j).toNat=true
    · rw [if_pos d]at hPz
      rw [d5_ (by omega),d3_ hg,d3_ (by simp;omega),d3_ (by omega),d3_ (by omega),d3_ hg2,d3_ (by omega)]
      have hfv:=(s6_ hq h hs hj (by omega) ((hk _ hz).1 d).2).length_le
      rw [la_]at hfv
      rw [ic_ (show -9223372036854775808≤(((otQ q s j).length:Nat):Int)+(((nth l (nxQ q s j).toNat []).length:Nat):Int) by omega) (by omega),ic_ (by omega) (by omega)]
      have ho:otP q l k s j=(otQ q s j++nth l (nxQ q s j).toNat []).drop (nth l s []).length:=by unfold otP;rw [if_neg c,if_pos d]
      have hol2:(otP q l k s j).length=(otQ q s j).length+(nth l (nxQ q s j).toNat []).length - (nth l s []).length:=by rw [ho,List.length_drop,la_]
      by_cases e:4096<(otQ q s j).length+(nth l (nxQ q s j).toNat []).length - (nth l s []).length
      · right
        rw [d4_ (by omega)]
        exact ⟨_,rfl,.inr ⟨fun hr=>by have:=hr j hj;omega,rfl⟩⟩
      left
      rw [d5_ (by omega),d3_ (by omega),d3_ (by omega),d3_ hg2,d3_ (by omega),d3_ (by omega),d3_ (by rw [la_];omega),d3_ (by omega)]
      refine ⟨(_,_),rfl,hI.some hj ?_ ho (by rw [←ho];omega)⟩
      unfold nxP;rw [if_neg c,if_pos d,hPz]
    rw [if_neg d]at hPz
    left
    rw [d4_ (by omega)]
    exact ⟨(_,_),rfl,hI.none hj (by unfold nxP;rw [if_neg c,if_neg d]) (by unfold otP;rw [if_neg c,if_neg d])⟩
  rintro ⟨N,O⟩ hI
  simp only at hI
  obtain ⟨e1,e2⟩:=hI.rows
  refine ⟨(N,O,true),?_,.inl ⟨fun b hb=>hI.le b hb,by rw [e1,e2]⟩⟩
  show Aw_ q ((s:Nat):Int) P l N O 256=_
  unfold Aw_
  rw [tn_,d5_ (by omega)];rfl
def h6_(v m:B_1)(s:Nat):Bool:=nth v s false && nth m s false
theorem le_{q:Seq}{v m:B_1}(hv:RchOk q v):q1_ q m (h6_ v m):=fun s hs=>by
  unfold h6_
  rw [Bool.and_eq_true,hv.iff s hs]
structure NuI (n:Nat) (k:Nat→Bool) (j:Nat) (P:N_1):Prop where
  len:P.length=n
  at': ∀s,s<j→nth P s 0=if k s=true then ((gl_ k s:Nat):Int) else -1
theorem NuI.put{n:Nat}{k:Nat→Bool}{j:Nat}{P:N_1}(h:NuI n k j P)(hj:j<n)(hk:k j=true):NuI n k (j+1) ((P.set j (-1)).set j ((gl_ k j:Nat):Int)):=by
  have hl:=h.len
  refine ⟨by simp [hl],fun s hs=> ?_⟩
  rw [ek_,ek_]
  by_cases c:j=s
  · subst c;rw [if_pos ⟨rfl,by simp;omega⟩,if_pos hk]
  rw [if_neg (fun e=>c e.1),if_neg (fun e=>c e.1)];exact h.at' s (by omega)
theorem NuI.no{n:Nat}{k:Nat→Bool}{j:Nat}{P:N_1}(h:NuI n k j P)(hj:j<n)(hk: ¬ k j=true):NuI n k (j+1) (P.set j (-1)):=by
  have hl:=h.len
  refine ⟨by simp [hl],fun s hs=> ?_⟩
  rw [ek_]
  by_cases c:j=s
  · subst c;rw [if_pos ⟨rfl,by omega⟩,if_neg hk]
  rw [if_neg (fun e=>c e.1)];exact h.at' s (by omega)
def ml_(q:Seq)(l:T_2)(k:Nat→Bool):Seq×Int:=if d9_ (fo_ q l k)=true then (fo_ q l k,0) else (Seq.zero,2)
theorem Is_{q:Seq}{l:T_2}{k:Nat→Bool}{s:Nat}(hs:s<q.next.length)(hk:k s=true)(h: ¬ yn_ q l k s): ¬ d9_ (fo_ q l k)=true:=fun hr=>h fun b hb=>by
  have:=n9_ hr (s:=gl_ k s) (by rw [hd_];exact jd_ k hs hk) hb
  rwa [nh_ hs hk hb]at this
def kR{α:Type}(k:Nat→Bool)(j:Nat)(f:Nat→α):List α:=(nd_ k j).map f
theorem v8_{α:Type}{k:Nat→Bool}{j:Nat}(h:k j=true)(f:Nat→α):kR k j f++[f j]=kR k (j+1) f:=by unfold kR;rw [ka_,if_pos h,List.map_append];rfl
theorem aaa_{α:Type}{k:Nat→Bool}{j:Nat}(h: ¬ k j=true)(f:Nat→α):kR k j f=kR k (j+1) f:=by unfold kR;rw [ka_,if_neg h,List.append_nil]
theorem uv_{α:Type}(k:Nat→Bool)(j:Nat)(f:Nat→α):(kR k j f).length≤j:=by unfold kR;rw [List.length_map,if_];exact he_ k j
theorem pushE_ok {q : Seq} (hq : d9_ q = true) {l : T_2} {m : B_1} (h : FrOk q l m) {k : Nat → Bool} (hk : q1_ q m k) {P : N_1} (hP : ys_ q.next.length k P) (v11 : T_2 × B_1) (e11 : v11 = (l, m)) :
    eq_ (fun z:N_2×T_3×B_1×T_2×Nat=>A3_ v11 P q z.1 z.2.1 z.2.2.1 z.2.2.2.1 z.2.2.2.2) (([]:N_2),([]:T_3),([]:B_1),([]:T_2),0)=some (ml_ q l k):=by
  subst e11
  obtain ⟨q1,q2,q3,q4,q5⟩:=d7_ hq
  have hll:=h.ln
  have hml:=h.mn
  have hPl:=hP.1
  refine Exists.elim (er_ (step:=fun z:N_2×T_3×B_1×T_2×Nat=>A3_ (l,m) P q z.1 z.2.1 z.2.2.1 z.2.2.2.1 z.2.2.2.2) (fun (z:N_2×T_3×B_1×T_2) j=>(z.1,z.2.1,z.2.2.1,z.2.2.2,j)) q.next.length (fun j z=>z=(kR k j (nxR q k),kR k j (otR q l k),kR k j (fun s=>nth q.fin s false),kR k j (tlP q l))) (fun r=>r=ml_ q l k) ?_ ?_ (s0:=([],[],[],[])) rfl) (fun r hh_=> ?_)
  · rintro j ⟨N,O,F,T⟩ hj hI
    cases hI
    have hls:=h.le j hj
    have g1:=uv_ k j (nxR q k)
    have g2:=uv_ k j (otR q l k)
    have g3:=uv_ k j (fun s=>nth q.fin s false)
    have g4:=uv_ k j (tlP q l)
    show (∃s':N_2×T_3×B_1×T_2,A3_ (l,m) P q _ _ _ _ j=some (.inl (s'.1,s'.2.1,s'.2.2.1,s'.2.2.2,j+1))∧_)∨ ∃r,A3_ (l,m) P q _ _ _ _ j=some (.inr r)∧_
    unfold A3_ Do_
    rw [d4_ (by simp only [lr_];omega),d3_ (by omega)]
    have hPj:=hP.2 j hj
    by_cases c:k j=true
    · rw [if_pos c]at hPj
      rw [d5_ (by omega)]
      obtain ⟨r,t1,t2⟩:=yc_ hq h hk hP hj
      rw [t1,ed_]
      rcases t2 with ⟨t2,rfl⟩|⟨t2,t3⟩
      · left
        have hj3: ∀T':T_1,T'=tlP q l j→Dr_ (kR k j (nxR q k)) (nxR q k j,otR q l k j,true) (kR k j (otR q l k)) j q (kR k j (fun s=>nth q.fin s false)) (kR k j (tlP q l)) T'=some (.inl (kR k (j+1) (nxR q k),kR k (j+1) (otR q l k),kR k (j+1) (fun s=>nth q.fin s false),kR k (j+1) (tlP q l),j+1)):=by
          rintro _ rfl
          unfold Dr_ Do_
          rw [d3_ (by simp only [lo_];omega),d3_ (by simp only [lo_];omega),d3_ (by omega),d3_ (by simp only [lo_];omega),d3_ (by simp only [lo_];omega),v8_ c,v8_ c,v8_ c (fun s=>nth q.fin s false),v8_ c (tlP q l)];rfl
        rw [gk_,d3_ (by omega)]
        refine ⟨(kR k (j+1) (nxR q k),kR k (j+1) (otR q l k),kR k (j+1) (fun s=>nth q.fin s false),kR k (j+1) (tlP q l)),?_,rfl⟩
        cases hf:nth q.fin j false with
        |true=>
          have hcom:=(h.com j hj [] (nth q.tail j []) (by rw [ev_,if_pos hf])).length_le
          rw [iteO_true,d3_ (by omega),d3_ (by show j<l.length;omega),d3_ (by show (nth l j []).length≤_∧_;omega)]
          exact hj3 _ (by unfold tlP;rw [if_pos hf])
        |false=>
          rw [iteO_false]
          exact hj3 _ (by unfold tlP;rw [if_neg (by rw [hf];decide)])
      right
      rw [t3,id_]
      refine ⟨_,rfl,?_⟩
      unfold ml_
      rw [if_neg (Is_ hj c t2)];rfl
    rw [if_neg c]at hPj
    left
    rw [d4_ (by omega)]
    exact ⟨(_,_,_,_),rfl,by rw [aaa_ c,aaa_ c,aaa_ c,aaa_ c (tlP q l)]⟩
  · rintro ⟨N,O,F,T⟩ hI
    cases hI
    refine ⟨_,?_,rfl⟩
    show A3_ (l,m) P q _ _ _ _ q.next.length=_
    unfold A3_
    rw [d5_ (by simp only [lr_];omega)]
    change fin (bnd (Dc_ (fo_ q l k)) fun v155=>ec_ (decide (v155≠0)) (some (Seq.zero,2)) (some (fo_ q l k,0)))=_
    rw [Ff_,ed_]
    unfold ml_
    by_cases c:d9_ (fo_ q l k)=true
    · rw [if_pos c,if_pos c,d5_ (by decide)];rfl
    rw [if_neg c,if_neg c,d4_ (by decide)];rfl
  obtain ⟨h1,rfl⟩:=hh_
  exact h1
inductive PushR (q:Seq):Seq×Int→Prop
  |wrong: ¬ d9_ q=true→PushR q (Seq.zero,1)
  |none:d9_ q=true→(q.next.length=0∨ ¬ rb_ q 0)→PushR q (Seq.zero,0)
  |made (l:T_2) (m v:B_1):d9_ q=true→0<q.next.length→rb_ q 0→FrOk q l m→RchOk q v→PushR q (ml_ q l (h6_ v m))
theorem I1_ (q : Seq) : ∃ r, E1_ q = some r ∧ PushR q r := by
  unfold E1_
  rw [Ff_,ed_]
  by_cases hq:d9_ q=true
  rotate_left
  · rw [if_neg hq,d4_ (by decide)]
    exact ⟨_,rfl,.wrong hq⟩
  rw [if_pos hq,d5_ (by decide)]
  obtain ⟨q1,q2,q3,q4,q5⟩:=d7_ hq
  obtain ⟨⟨l,m⟩,f1,f2⟩:=yq_ hq
  simp only at f2
  have hll:=f2.ln
  have hml:=f2.mn
  rw [f1,ed_]
  by_cases c0:q.next.length=0
  · rw [d4_ (by show ((m.length:Nat):Int)=0;omega)]
    exact ⟨_,rfl,.none hq (.inl c0)⟩
  have h0:0<q.next.length:=by omega
  rw [d5_ (by show ¬ ((m.length:Nat):Int)=0;omega),d3_ (by show 0<m.length;omega)]
  cases hm:nth m 0 false with
  |false=>
    rw [id_]
    exact ⟨_,rfl,.none hq (.inr fun h=>by have:=(f2.live 0 h0).2 h;rw [hm]at this;cases this)⟩
  |true=>
    rw [gk_,d3_ (by show 8 * m.length≤_;omega)]
    obtain ⟨v,v1,v2⟩:=wj_ hq h0
    have hvl:=v2.len
    have hls:=f2.le 0 h0
    rw [v1,ed_]
    refine ⟨ml_ q l (h6_ v m),?_,.made l m v hq h0 ((f2.live 0 h0).1 hm) f2 v2⟩
    have hk:=le_ (m:=m) v2
    refine Exists.elim (er_ (step:=fun z:N_1×Nat×Nat=>B1_ v (l,m) q z.1 z.2.1 z.2.2) (fun (z:N_1×Nat) j=>(z.1,z.2,j)) q.next.length (fun j z=>NuI q.next.length (h6_ v m) j z.1∧z.2=gl_ (h6_ v m) j) (fun r=>r=ml_ q l (h6_ v m)) ?_ ?_ (s0:=(List.replicate m.length 0,0)) ⟨⟨by simp [hml],fun s hs=>by omega⟩,rfl⟩) (fun r hh_=> ?_)
    · rintro j ⟨P,c⟩ hj ⟨hI,hc⟩
      simp only at hI hc
      subst hc
      have hPl:=hI.len
      have hcj:=he_ (h6_ v m) j
      left
      show ∃s':N_1×Nat,B1_ v (l,m) q P _ j=some (.inl (s'.1,s'.2,j+1))∧_
      unfold B1_ Dm_
      rw [d4_ (by omega),d3_ (by omega)]
      cases d1:nth v j false with
      |false=>
        have hkj: ¬ h6_ v m j=true:=by unfold h6_;rw [d1];simp
        rw [iteO_false]
        exact ⟨(_,_),rfl,hI.no hj hkj,by simp only [gl_];rw [if_neg hkj];rfl⟩
      |true=>
        rw [iteO_true,d3_ (by show j<m.length;omega)]
        change ∃s':N_1×Nat,ec_ (nth m j false) _ _=_∧_
        cases d2:nth m j false with
        |false=>
          have hkj: ¬ h6_ v m j=true:=by unfold h6_;rw [d1,d2];simp
          rw [iteO_false]
          exact ⟨(_,_),rfl,hI.no hj hkj,by simp only [gl_];rw [if_neg hkj];rfl⟩
        |true=>
          have hkj:h6_ v m j=true:=by unfold h6_;rw [d1,d2];rfl
          rw [iteO_true,d3_ (by simp;omega),d3_ (show gl_ (h6_ v m) j+1≤_ by omega)]
          exact ⟨(_,_),rfl,hI.put hj hkj,by simp only [gl_];rw [if_pos hkj]⟩
    · rintro ⟨P,c⟩ ⟨hI,hc⟩
      simp only at hI hc
      refine ⟨ml_ q l (h6_ v m),?_,rfl⟩
      show B1_ v (l,m) q P c q.next.length=_
      unfold B1_
      rw [d5_ (by omega),d3_ (by show 0<l.length;omega),d3_ (by show q.front.length+(nth l 0 []).length≤_;omega),pushE_ok hq f2 hk ⟨hI.len,fun s hs=>hI.at' s hs⟩ (l,m) rfl];rfl
    obtain ⟨h1,rfl⟩:=hh_
    exact h1
structure LikeQ (r:Seq) (s t:Nat):Prop where
  fin:nth r.fin s false=nth r.fin t false
  tail:nth r.tail s []=nth r.tail t []
  neg: ∀b,b<256→(nxQ r s b<0↔nxQ r t b<0)
  out: ∀b,b<256→otQ r s b=otQ r t b
theorem bisim{r:Seq}{n:Nat}(hlt: ∀s b,s<n→b<256→nxQ r s b<((n:Nat):Int)){R:Nat→Nat→Prop}(hL: ∀s t,s<n→t<n→R s t→LikeQ r s t)(hR: ∀s t b,s<n→t<n→R s t→b<256→0≤nxQ r s b→R (nxQ r s b).toNat (nxQ r t b).toNat):
    ∀(w:T_1) (s t:Nat),s<n→t<n→R s t→ev_ r s w=ev_ r t w
  |[],s,t,hs,ht,h=>by
    have k:=hL s t hs ht h
    rw [ev_,ev_,k.fin,k.tail]
  |b::w,s,t,hs,ht,h=>by
    have hb:b.toNat<256:=by have:=UInt8.toNat_lt b;omega
    have k:=hL s t hs ht h
    have kn:=k.neg _ hb
    rw [ev_,ev_]
    by_cases c:nxQ r s b.toNat<0
    · rw [if_pos c,if_pos (kn.1 c)]
    have h1:=hlt s _ hs hb
    have h2:=hlt t _ ht hb
    have c': ¬ nxQ r t b.toNat<0:=fun h=>c (kn.2 h)
    rw [if_neg c,if_neg c',k.out _ hb,bisim hlt hL hR w _ _ (by omega) (by omega) (hR s t _ hs ht h hb (by omega))]
theorem yx_ {r : Seq} (h : PshQ r) (hr : d9_ r = true) {s t : Nat} (hs : s < r.next.length) (ht : t < r.next.length) (he : ev_ r s = ev_ r t) : LikeQ r s t := by
  have hn: ∀b,b<256→(nxQ r s b<0↔nxQ r t b<0):=fun b hb=>by
    constructor
    · intro c
      by_cases d:0≤nxQ r t b
      · have:=(gv_ h h ht hs hb he.symm d).1;omega
      omega
    intro c
    by_cases d:0≤nxQ r s b
    · have:=(gv_ h h hs ht hb he d).1;omega
    omega
  have e:=congrFun he []
  rw [ev_,ev_]at e
  have t1:=(gg_ hr hs).2
  have t2:=(gg_ hr ht).2
  have hft:nth r.fin s false=nth r.fin t false∧nth r.tail s []=nth r.tail t []:=by
    cases c1:nth r.fin s false with
    |true=>cases c2:nth r.fin t false with
      |true=>rw [c1,c2,if_pos rfl,if_pos rfl]at e;exact ⟨rfl,Option.some.inj e⟩
      |false=>rw [c1,c2,if_pos rfl,if_neg (by decide)]at e;cases e
    |false=>cases c2:nth r.fin t false with
      |true=>rw [c1,c2,if_pos rfl,if_neg (by decide)]at e;cases e
      |false=>
        rw [c1]at t1;rw [c2]at t2
        rcases t1 with t1|t1
        · cases t1
        rcases t2 with t2|t2
        · cases t2
        exact ⟨rfl,t1.trans t2.symm⟩
  refine ⟨hft.1,hft.2,hn,fun b hb=> ?_⟩
  by_cases c:0≤nxQ r s b
  · exact (gv_ h h hs ht hb he c).2.1
  rw [iw_ hr hs hb (by omega),iw_ hr ht hb ((hn b hb).1 (by omega))]
theorem reps{n c:Nat}{f:Nat→Nat}(hs: ∀k,k<c→ ∃s,s<n∧f s=k): ∃rep:Nat→Nat, ∀k,k<c→rep k<n∧f (rep k)=k:=
  ⟨fun k=>if h:k<c then Classical.choose (hs k h) else 0,fun k hk=>by
    have:=Classical.choose_spec (hs k hk)
    simp only [dif_pos hk];exact this⟩
theorem tq_{n c:Nat}{f g:Nat→Nat}{rep:Nat→Nat}(h: ∀k,k<c→rep k<n∧f (rep k)=k)(hr: ∀s t,s<n→t<n→g s=g t→f s=f t):((List.range c).map fun k=>g (rep k)).Nodup:=by
  rw [List.Nodup,List.pairwise_map]
  refine List.Pairwise.imp_of_mem ?_ (List.nodup_range (n:=c))
  intro a b ha hb hne e
  have ha:=List.mem_range.1 ha
  have hb:=List.mem_range.1 hb
  have:=hr _ _ (h a ha).1 (h b hb).1 e
  rw [(h a ha).2,(h b hb).2]at this
  exact hne this
theorem zn_{n c d:Nat}{f g:Nat→Nat}(hs: ∀k,k<c→ ∃s,s<n∧f s=k)(hg: ∀s,s<n→g s<d)(hr: ∀s t,s<n→t<n→g s=g t→f s=f t):c≤d:=by
  obtain ⟨rep,h⟩:=reps hs
  have h2:=ho_ (tq_ h hr) (m:=List.range d) fun x hx=>by
    obtain ⟨k,hk,rfl⟩:=List.mem_map.1 hx
    exact List.mem_range.2 (hg _ (h k (List.mem_range.1 hk)).1)
  rw [List.length_map,List.length_range,List.length_range]at h2;exact h2
theorem pigeon{n c:Nat}{f g:Nat→Nat}(hs: ∀k,k<c→ ∃s,s<n∧f s=k)(hg: ∀s,s<n→g s<c)(hr: ∀s t,s<n→t<n→g s=g t→f s=f t){s t:Nat}(hsn:s<n)(htn:t<n)(he:f s=f t):g s=g t:=by
  obtain ⟨rep,h⟩:=reps hs
  have key: ∀s,s<n→ ∃k,k<c∧g (rep k)=g s:=fun s hs=>by
    by_cases q:g s∈(List.range c).map fun k=>g (rep k)
    · obtain ⟨k,hk,e⟩:=List.mem_map.1 q
      exact ⟨k,List.mem_range.1 hk,e⟩
    exfalso
    have h2:=ho_ (l:=g s::(List.range c).map fun k=>g (rep k)) (List.nodup_cons.2 ⟨q,tq_ h hr⟩) (m:=List.range c) fun x hx=>by
      rcases List.mem_cons.1 hx with rfl|hx
      · exact List.mem_range.2 (hg _ hs)
      obtain ⟨k,hk,rfl⟩:=List.mem_map.1 hx
      exact List.mem_range.2 (hg _ (h k (List.mem_range.1 hk)).1)
    rw [List.length_cons,List.length_map,List.length_range]at h2
    omega
  obtain ⟨k,hk,e1⟩:=key s hsn
  obtain ⟨k',hk',e2⟩:=key t htn
  have f1:=hr _ _ (h k hk).1 hsn e1
  have f2:=hr _ _ (h k' hk').1 htn e2
  rw [(h k hk).2]at f1
  rw [(h k' hk').2]at f2
  have:k=k':=by omega
  rw [←e1,←e2,this]
end Go.Proofs.YtchebnpdnfhenaaGreatDoor
end

noncomputable section
namespace Go.E
open Go
def ww_(k:IntKind)(a:Int)(b:Nat):Int:=a.fdiv (2 ^ min b k.bits)
theorem OpVal.shrI{P:Program}{n:Nat}{o:Oper}{e:Env}{σ:d0_}{H:List Res}{x y:Operand}{T T':TypeId}{k k':IntKind}{a:Int}{b:Nat}(ho:o.op= .binOp .shr T x y T')(hx:ev e x= .int k a)(hy:ev e y= .int k' (b:Nat)):OpVal P n o e σ H (.int k (ww_ k a b)):=fun w _=>by
  have h0: ¬ (b:Int)<0:=by omega
  simp only [execOp,ho,hx,hy,Sem.run_bind,g8_,Result.andThen_ok,binOp,Op.shift,h0,if_false,tn_,ww_];rfl
end Go.E
end

noncomputable section
namespace Go.Proofs.YtchebnpdnfhenaaGreatDoor
open Go Go.E
def key2(n:Int):T_1:=[hn_ (ww_ .i64 n 8),hn_ n]
def kr_(l:N_1):T_1:=l.flatMap key2
def Sml(l:N_1):Prop:= ∀x∈l,0≤x∧x<65536
theorem key2_inj{x y:Int}(hx:0≤x∧x<65536)(hy:0≤y∧y<65536)(h:key2 x=key2 y):x=y:=by
  unfold key2 at h
  rw [List.cons.injEq,List.cons.injEq]at h
  obtain ⟨h1,h2, -⟩:=h
  have e1:=congrArg (fun b:UInt8=>((b.toNat:Nat):Int)) h1
  have e2:=congrArg (fun b:UInt8=>((b.toNat:Nat):Int)) h2
  rw [rr_,rr_,wrap_u8,wrap_u8]at e1 e2
  have s1: ∀z:Int,ww_ .i64 z 8=z / 256:=fun z=>by
    unfold ww_
    rw [show min 8 (IntKind.bits .i64)=8 from rfl,show ((2:Int) ^ 8)=256 from rfl,Int.fdiv_eq_ediv_of_nonneg _ (by decide)]
  rw [s1,s1]at e1
  omega
theorem tu_: ∀{l m:N_1},Sml l→Sml m→kr_ l=kr_ m→l=m
  |[],[],_,_,_=>rfl
  |[],y::m,_,_,h=>by cases h
  |x::l,[],_,_,h=>by cases h
  |x::l,y::m,hl,hm,h=>by
    have h':key2 x++kr_ l=key2 y++kr_ m:=h
    obtain ⟨h1,h2⟩:=List.append_inj h' rfl
    rw [key2_inj (hl x (mc_ ..)) (hm y (mc_ ..)) h1,tu_ (fun z hz=>hl z (mm_ _ hz)) (fun z hz=>hm z (mm_ _ hz)) h2]
theorem o0_: ∀l:N_1,(kr_ l).length=l.length * 2
  |[]=>rfl
  |x::l=>by
    have:=o0_ l
    show (key2 x++kr_ l).length=_
    rw [la_,this]
    show 2+l.length * 2=(l.length+1) * 2
    omega
end Go.Proofs.YtchebnpdnfhenaaGreatDoor
end

noncomputable section
namespace Go.Proofs.YtchebnpdnfhenaaGreatDoor
open Go Go.E Go.E.OpVal Go.E.OpOk Go.Proofs.Tryz
open List (replicate)
theorem me_:foOf Tryz.prog 167 0=some 0:=by kernel_rfl
theorem pf109:plainF Tryz.prog 109=true:=by kernel_rfl
theorem pf110:plainF Tryz.prog 110=true:=by kernel_rfl
theorem pf149:plainF Tryz.prog 149=true:=by kernel_rfl
theorem pl167:plOf Tryz.prog 167=some #[(0,1)]:=by kernel_rfl
theorem sz167:szOf Tryz.prog 167=some 1:=by kernel_rfl
theorem ze167:zeroOf Tryz.prog 167=some (.agg #[.map none]):=by kernel_rfl
def C2_(x0:T_1)(x1:SB):Option (SB):=
 grd (x0.length≤281474976710656) (grd (-9223372036854775808≤((x0.length:Nat):Int)∧((x0.length:Nat):Int)≤9223372036854775807) (bnd (gz_ (⟨x1.buf⟩:SB) (Lib.itoa ((x0.length:Nat):Int))) (fun v4=>bnd (iv_ (⟨v4.2.2.buf⟩:SB) (58:UInt8)) (fun v5=>bnd (gz_ (⟨v5.2.buf⟩:SB) x0) (fun v7=>some (⟨v7.2.2.buf⟩:SB))))))
theorem F8_{σ:d0_}{x0:T_1}{x1:SB}{u1_1:Bool}(hgl:GT2 σ 1 2){r:SB}(hh:C2_ x0 x1=some r):
  Con prog 149 #[.string (bs x0),loc b1_0 0] σ [φ b1_0 #[mi_ u1_1 b1_0,.slice a1_2 x1.buf.length c1_3] 92,rs_ 5 e5_ a1_2 c1_3 x1.buf] (fun v σ' H'=> ∃(uo1:Bool), ∃ao2 co3,v= .tuple #[]∧σ=σ'∧H'=[φ b1_0 #[mi_ uo1 b1_0,.slice ao2 r.buf.length co3] 92,rs_ 5 e5_ ao2 co3 r.buf]):=by
 dsimp only [C2_]at hh
 refine Con.mk (n:=10) Tryz.func149 z z z (fun w0=> ?_)
 have x0b:=n8_ hh
 replace hh:=or_ hh
 refine ξ (ω z (ad_ (.inl z) z) (ω z (a5_ z u9_ z) ?_))
 obtain ⟨u3,hh⟩:=d6_ hh
 refine ζ z (aw_ (no_ hgl u3) z z x0_ z z z ?_)
 refine ψ 1 z z (ψ 1 z z ?_)
 obtain ⟨v4,u4,hh⟩:=eb_ hh
 refine ζ z (OpOk.call (gh_ u4) z z zs_ z z z z ?_)
 rintro _ _ _ hle104 ⟨u104_1,a104_2,c104_3,rfl,rfl,rfl⟩
 refine κ (ξ (ψ 1 z z (ψ 1 z z ?_)))
 obtain ⟨v5,u5,hh⟩:=eb_ hh
 refine ζ z (OpOk.call (ia_ u5) z z t8_ z z z z ?_)
 rintro _ _ _ hle106 ⟨u106_1,a106_2,c106_3,rfl,rfl,rfl⟩
 refine κ (π (ω z (ad_ (.inl z) z) (ψ 1 z z (ψ 1 z z ?_))))
 obtain ⟨v7,u7,hh⟩:=eb_ hh
 refine ζ z (OpOk.call (gh_ u7) z z zs_ z z z z ?_)
 rintro _ _ _ hle108 ⟨u108_1,a108_2,c108_3,rfl,rfl,rfl⟩
 refine TL.nil ?_
 obtain rfl:=so hh
 exact RetOk.mk' (rs:=[]) [φ b1_0 #[mi_ u108_1 b1_0,.slice a108_2 v7.2.2.buf.length c108_3] 92,rs_ 5 e5_ a108_2 c108_3 v7.2.2.buf] z (.inr z) RVs.nil (List.sublist_append_left _ _) ⟨u108_1,a108_2,c108_3,z,z,z⟩
def D5_(k136:Nat)(l141:T_1):Option ((T_1×Nat)⊕(T_1)):=
 nxt (l141,(k136+1))
def Bl_(x0:Seq)(x1:Int)(l133:T_1)(k136:Nat):Option ((T_1×Nat)⊕(T_1)):=
 ec_ (decide ((k136:Int)<(((nth x0.next x1.toNat []).length:Nat):Int))) (ec_ (decide (0≤(nth (nth x0.next x1.toNat []) k136 0))) (bnd (iv_ (⟨l133⟩:SB) (103:UInt8)) (fun v34=>grd (-9223372036854775808≤(k136:Int)∧(k136:Int)≤9223372036854775807) (bnd (gz_ (⟨v34.2.buf⟩:SB) (Lib.itoa (k136:Int))) (fun v37=>bnd (iv_ (⟨v37.2.2.buf⟩:SB) (58:UInt8)) (fun v38=>grd (0≤x1∧x1<(x0.outs.length:Int)) (grd (k136<(nth x0.outs x1.toNat []).length) (bnd (C2_ (nth (nth x0.outs x1.toNat []) k136 []) (⟨v38.2.buf⟩:SB)) (fun v48=>D5_ k136 v48.buf)))))))) (D5_ k136 l133)) (fin (bnd (kp_ (⟨l133⟩:SB)) (fun v51=>some v51)))
def C4_(x1:Int)(x0:Seq)(l107:T_1):Option (T_1):=
 grd (0≤x1∧x1<(x0.next.length:Int)) (eq_ (fun q:T_1×Nat=>Bl_ x0 x1 q.1 q.2) (l107,0))
def E5_(x0:Seq)(x1:Int):Option (T_1):=
 grd (0≤x1∧x1<(x0.fin.length:Int)) (ec_ (nth x0.fin x1.toNat false) (bnd (iv_ (⟨([]:T_1)⟩:SB) (101:UInt8)) (fun v11=>grd (0≤x1∧x1<(x0.tail.length:Int)) (bnd (C2_ (nth x0.tail x1.toNat []) (⟨v11.2.buf⟩:SB)) (fun v18=>C4_ x1 x0 v18.buf)))) (C4_ x1 x0 ([]:T_1)))
theorem Hu_{σ:d0_}{x0:Seq}{x1:Int}(hgl:GT2 σ 1 2)(f0_0:RZ σ (ea_ 1 eI_ ep_) (.slice a0_0 x0.next.length c0_0) x0.next)(f0_1:RZ σ (ea_ 1 eS_ es_) (.slice a0_1 x0.outs.length c0_1) x0.outs)(f0_2:rS_ σ e1_ a0_2 c0_2 x0.fin)(f0_3:rS_ σ eS_ a0_3 c0_3 x0.tail){r:T_1}(hh:E5_ x0 x1=some r):
  Con prog 110 #[.agg (aq_ x0 a0_0 c0_0 a0_1 c0_1 a0_2 c0_2 a0_3 c0_3),.int .i64 x1] σ [] (fd_ (.string (bs r)) σ):=by
 dsimp only [E5_]at hh
 have f0_0b:=f0_0.big
 have f0_1b:=f0_1.big
 have f0_2b:=f0_2.rv.big
 have f0_3b:=f0_3.rv.big
 refine Con.mk (n:=53) Tryz.func110 z z z (fun w0=> ?_)
 refine ξ (ζ z (boxA z z z z (fun b101=> ?_)))
 refine ω z (ad_ (.inr z) z) (κ (ξ (ζ z (OpOk.alloc z ze92 z z (fun b103=> ?_)))))
 refine TL.asH (H':=[φ b103 #[mi_ false b103,nl_] 92,cq_ b101 x0 a0_0 c0_0 a0_1 c0_1 a0_2 c0_2 a0_3 c0_3]) z (κ (ξ (ω z (cc_ z) (ω z (bp_ (.inr z) z) (κ (TC.cutG (α:=(T_1)×(Bool×(Option Addr)×Nat)) (rgs [(10,13)]) (fun g=>[]) (fun g=>[cq_ b101 x0 a0_0 c0_0 a0_1 c0_1 a0_2 c0_2 a0_3 c0_3,φ b103 #[mi_ g.2.1 b103,.slice g.2.2.1 g.1.length g.2.2.2] 92,ε 5 1 e5_ (.slice g.2.2.1 g.1.length g.2.2.2) g.1]) (fun g=>σ) (fun g=>C4_ x1 x0 g.1=some r) ?_ (fun g j hg=> ?_)))))))
 ·skip
  refine ξ (ω z (aa_ z gq_ z) (ω z (ab_ z nz_ z (i:=1) z z) (θ z z ?_)))
  obtain ⟨u9,hh⟩:=d6_ hh
  refine ω z (OpVal.index z h2_ sz4 z z f0_2.rv.sl u9.1 u9.2) (ω z (al_ false z ag4 z f0_2 (by omega) z) (κ (TC.cB z hh (fun h110 hh=> ?_) (fun h110 hh=> ?_))))
  ·refine ξ (TL.nilS 5 1 e5_ (ψ 1 z z ?_))
   obtain ⟨v11,u11,hh⟩:=eb_ hh
   refine ζ z (OpOk.call (ia_ u11) z z t8_ z z z z ?_)
   rintro _ _ _ hle112 ⟨u112_1,a112_2,c112_3,rfl,rfl,rfl⟩
   refine κ (π (ω z (bp_ (.inl z) z) (ω z (aa_ z g0_ z) (ω z (ab_ z kv_ z (i:=2) z z) (θ z z ?_)))))
   obtain ⟨u16,hh⟩:=d6_ hh
   refine ω z (OpVal.index z gw_ sz9 z z f0_3.rv.sl u16.1 u16.2) (ω z (al_ ([]:T_1) z ag9 z f0_3 (by omega) z) (ψ 1 z z (ψ 1 z z ?_)))
   obtain ⟨v18,u18,hh⟩:=eb_ hh
   refine ζ z (OpOk.call (F8_ hgl u18) z z pf149 z z z z ?_)
   rintro _ _ _ hle114 ⟨u114_1,a114_2,c114_3,rfl,rfl,rfl⟩
   exact κ (cf (v18.buf,(u114_1,a114_2,c114_3)) hh (δ [1,1,2] 3))
  exact TC.nilS 5 1 e5_ (ι (S.n (cf (([]:T_1),(false,none,0)) hh (δ [1,2] 3))))
 skip
 obtain ⟨l107,⟨u105,a108,c109⟩⟩:=g
 have hh:=hg;clear hg
 try dsimp only
 dsimp only [C4_]at hh
 refine η (i:=2) z (fun _ hb117 _=> ?_)
 refine ν (ξ (ω z (aa_ z e8_ z) (ω z (ab_ z i0_ z (i:=0) z z) (θ z z ?_))))
 obtain ⟨u22,hh⟩:=d6_ hh
 refine ω z (OpVal.index z fn_ fp_ z z f0_0.isSl u22.1 u22.2) ?_
 obtain ⟨p118,hk118,hg118⟩:=RZ.seg f0_0 x1.toNat (by omega)
 replace hk118:rS_ _ eI_ p118.1 p118.2 (nth x0.next x1.toNat []):=hk118
 have hk118b:=hk118.rv.big
 refine ω z (OpVal.of (as_ z jx_ z hg118 z) (v':= .slice p118.1 ((nth x0.next x1.toNat []).length) p118.2) z) (ω z (lenC z e2_ z) (θ z z (κ (υ (TC.ao_ (α:=(T_1×Nat)×(Bool×(Option Addr)×Nat)) (rgs [(7,2),(29,23)]) (fun g=>[(29,.int .i64 ((g.1.2:Nat):Int))]) (fun g=>[cq_ b101 x0 a0_0 c0_0 a0_1 c0_1 a0_2 c0_2 a0_3 c0_3,φ b103 #[mi_ g.2.1 b103,.slice g.2.2.1 g.1.1.length g.2.2.2] 92,ε 5 1 e5_ (.slice g.2.2.1 g.1.1.length g.2.2.2) g.1.1]) (fun g=>σ) (fun g=>eq_ (fun q:T_1×Nat=>Bl_ x0 x1 q.1 q.2) g.1=some r) (fun g=>eh_ (fun q:T_1×Nat=>Bl_ x0 x1 q.1 q.2) g.1) ((l107,0),(u105,a108,c109)) (δ [2,2,2] 3) z (by repeat (first|exact trivial|refine ⟨z,?_⟩)) hh (fun g1 j1 hg1=> ?_))))))
 obtain ⟨⟨l133,k136⟩,⟨u131,a134,c135⟩⟩:=g1
 have hh:=hg1;clear hg1
 try dsimp only
 obtain ⟨z1,hh,hR1⟩:=eo_ hh
 dsimp only [Bl_]at hh
 refine η (i:=2) z (fun _ hb137 _=> ?_)
 refine ξ (ω z (OpVal.lss z z z) (κ (ν (TC.cD z hh (fun h138 hh=> ?_) (fun h138 hh=> ?_)))))
 ·refine ι (S.n (TC.cutG (α:=(T_1)×(Bool×(Option Addr)×Nat)) (rgs [(7,2),(31,20)]) (fun g=>[]) (fun g=>[cq_ b101 x0 a0_0 c0_0 a0_1 c0_1 a0_2 c0_2 a0_3 c0_3,φ b103 #[mi_ g.2.1 b103,.slice g.2.2.1 g.1.length g.2.2.2] 92,ε 5 1 e5_ (.slice g.2.2.1 g.1.length g.2.2.2) g.1]) (fun g=>σ) (fun g=>D5_ k136 g.1=some z1) ?_ (fun g j hg=> ?_)))
  ·skip
   refine υ (ξ (θ z z (ω z (af_ z e2_ sz3 z z hk118.rv.sl (by omega)) (ω z (al_ (0:Int) z ag3 z hk118 (by omega) z) (θ z z (θ z z (κ (ξ (θ z z (ω z (OpVal.geq z z z) (κ (TC.cD z hh (fun h144 hh=> ?_) (fun h144 hh=> ?_)))))))))))))
   ·refine ξ (ψ 2 z z (ψ 2 z z ?_))
    obtain ⟨v34,u34,hh⟩:=eb_ hh
    refine ζ z (OpOk.call (ia_ u34) z z t8_ z z z z ?_)
    rintro _ _ _ hle145 ⟨u145_1,a145_2,c145_3,rfl,rfl,rfl⟩
    refine κ (ξ (θ z z ?_))
    obtain ⟨u36,hh⟩:=d6_ hh
    refine ζ z (aw_ (no_ hgl u36) z z x0_ z z z ?_)
    refine ψ 1 z z (ψ 1 z z ?_)
    obtain ⟨v37,u37,hh⟩:=eb_ hh
    refine ζ z (OpOk.call (gh_ u37) z z zs_ z z z z ?_)
    rintro _ _ _ hle147 ⟨u147_1,a147_2,c147_3,rfl,rfl,rfl⟩
    refine κ (ξ (ψ 1 z z (ψ 1 z z ?_)))
    obtain ⟨v38,u38,hh⟩:=eb_ hh
    refine ζ z (OpOk.call (ia_ u38) z z t8_ z z z z ?_)
    rintro _ _ _ hle149 ⟨u149_1,a149_2,c149_3,rfl,rfl,rfl⟩
    refine κ (π (ω z (bp_ (.inl z) z) (ω z (aa_ z fy_ z) (ω z (ab_ z m4_ z (i:=2) z z) (θ z z ?_)))))
    obtain ⟨u43,hh⟩:=d6_ hh
    refine ω z (OpVal.index z l4_ kn_ z z f0_1.isSl u43.1 u43.2) ?_
    obtain ⟨p151,hk151,hg151⟩:=RZ.seg f0_1 x1.toNat (by omega)
    replace hk151:rS_ _ eS_ p151.1 p151.2 (nth x0.outs x1.toNat []):=hk151
    have hk151b:=hk151.rv.big
    refine ω z (OpVal.of (as_ z kv_ z hg151 z) (v':= .slice p151.1 ((nth x0.outs x1.toNat []).length) p151.2) z) (θ z z ?_)
    obtain ⟨u46,hh⟩:=d6_ hh
    refine ω z (af_ z gw_ sz9 z z hk151.rv.sl (by omega)) (ω z (al_ ([]:T_1) z ag9 z hk151 (by omega) z) (ψ 1 z z (ψ 1 z z ?_)))
    obtain ⟨v48,u48,hh⟩:=eb_ hh
    refine ζ z (OpOk.call (F8_ hgl u48) z z pf149 z z z z ?_)
    rintro _ _ _ hle152 ⟨u152_1,a152_2,c152_3,rfl,rfl,rfl⟩
    exact TL.nil (B.n (S.n (cf (v48.buf,(u152_1,a152_2,c152_3)) hh (δ [1,1,2] 3))))
   exact ι (B.n (S.n (cf (l133,(u131,a134,c135)) hh (δ [2,2,2] 3))))
  skip
  obtain ⟨l141,⟨u139,a142,c143⟩⟩:=g
  have hh:=hg;clear hg
  try dsimp only
  dsimp only [D5_]at hh
  refine η (i:=2) z (fun _ hb154 _=> ?_)
  refine π (ω z (OpVal.succ z z z (by omega)) (θ z z (κ ?_)))
  obtain ⟨hh,hlt155⟩:=ey_ hR1 hh
  exact lf ((l141,(k136+1)),(u139,a142,c143)) hlt155 hh (δ [2,2,2] 3)
 refine TC.exit (S.x (S.x ?_))
 replace hh:=el_ hR1 hh
 refine Δ (S.n (ξ (ψ 2 z z (ψ 2 z z ?_))))
 obtain ⟨v51,u51,hh⟩:=eb_ hh
 refine ζ z (OpOk.call (kw_ u51) z z pf54 z z z z ?_)
 rintro _ _ _ hle156 ⟨rfl,rfl,rfl⟩
 refine ω z (ad_ (.inr z) z) (κ (TC.rt 0 ?_))
 obtain rfl:=so hh
 exact rq [4] ⟨z,z,z⟩
def Dk_(i104:Int)(m105:FM T_1 Int):Option (Int×Numb):=
 some (i104,(⟨m105⟩:Numb))
def Cv_(x0:Numb)(x1:T_1):Option (Int×Numb):=
 grd (x1.length≤281474976710656) (ec_ (!(x0.places.has x1)) (Dk_ ((x0.places.n:Nat):Int) (x0.places.put x1 ((x0.places.n:Nat):Int))) (Dk_ (x0.places.get x1 0) x0.places))
theorem Fu_{σ:d0_}{x0:Numb}{x1:T_1}{r:Int×Numb}(hh:Cv_ x0 x1=some r):
  Con prog 109 #[loc b0_0 0,.string (bs x1)] σ [φ b0_0 #[.map (some b0_1)] Eb0,Res.mapB h3_ io_ (some b0_1) x0.places] (fun v σ' H'=> ∃bo1,v= .int .i64 r.1∧σ=σ'∧H'=[φ b0_0 #[.map (some bo1)] Eb0,Res.mapB h3_ io_ (some bo1) r.2.places]):=by
 dsimp only [Cv_]at hh
 refine Con.mk (n:=30) Tryz.func109 z z z (fun w0=> ?_)
 have x1b:=n8_ hh
 replace hh:=or_ hh
 refine ξ (θ z z (κ (ξ (TL.l z z (ω z (ac_ z z) (ω z (aa_ z me_ z) (ω z (ab_ z ag70 z (i:=0) z z) (ω z (ad_ (.inl z) z) (ω z (OpVal.of (lookB 0 (q:=x1) z underlying70 ze3 z (i:=1) z z (nx_ u9_)) (v':= .tuple #[.int .i64 (x0.places.get x1 0),.bool (x0.places.has x1)]) z) (ω z (a8_ (.inl z) z) (ω z (OpVal.extract z z z) (ω z (OpVal.extract z z z) (θ z z (TL.j z z (κ ?_)))))))))))))))
 refine TC.cutG (α:=(Int×(FM T_1 Int))×(Unit)) (rgs [(5,1),(16,13)]) (fun g=>[(5,.int .i64 g.1.1)]) (fun g=>[φ b0_0 #[.map (some b0_1)] Eb0,Res.mapB h3_ io_ (some b0_1) g.1.2]) (fun g=>σ) (fun g=>Dk_ g.1.1 g.1.2=some r) ?_ (fun g j hg=> ?_)
 ·skip
  refine ξ (TL.j z z (ω z (OpVal.not z z) (κ (TC.cB z hh (fun h106 hh=> ?_) (fun h106 hh=> ?_)))))
  ·refine ξ (TL.l z z (ω z (ac_ z z) (ω z (aa_ z me_ z) (ω z (ab_ z ag70 z (i:=0) z z) (ω z (lenB z underlying70 z (i:=1) z) (θ z z (κ (π (TL.l z z (ω z (ac_ z z) (ω z (aa_ z me_ z) (ω z (ab_ z ag70 z (i:=0) z z) (ω z (ad_ (.inl z) z) (θ z z (ψ 1 z z ?_)))))))))))))))
   refine ζ z (updB x1 ((x0.places.n:Nat):Int) z underlying70 z z z z (nx_ u9_) ?_)
   exact κ (cf ((((x0.places.n:Nat):Int),(x0.places.put x1 ((x0.places.n:Nat):Int))),()) hh (δ [1] 2))
  exact ι (S.n (cf (((x0.places.get x1 0),x0.places),()) hh (δ [1,1] 2)))
 skip
 obtain ⟨⟨i104,m105⟩,_⟩:=g
 have hh:=hg;clear hg
 try dsimp only
 dsimp only [Dk_]at hh
 refine ξ (θ z z (θ z z (κ (TC.ret ?_))))
 obtain rfl:=so hh
 exact ro [φ b0_0 #[.map (some b0_1)] Eb0,Res.mapB h3_ io_ (some b0_1) m105] z (RVs.tmp z RVs.nil) ⟨b0_1,z,z,z⟩
def D4_(k206:Nat)(l212:T_1):Option ((T_1×Nat)⊕((N_1×(FM T_1 Int)×Nat)⊕((N_1×Nat)⊕(N_1×Int)))):=
 nxt (l212,(k206+1))
def Bt_(x0:Seq)(k176:Nat)(l147:N_1)(m174:FM T_1 Int)(l171:N_1)(l203:T_1)(k206:Nat):Option ((T_1×Nat)⊕((N_1×(FM T_1 Int)×Nat)⊕((N_1×Nat)⊕(N_1×Int)))):=
 ec_ (decide ((k206:Int)<(((nth x0.next k176 []).length:Nat):Int))) (ec_ (decide (0≤(nth (nth x0.next k176 []) k206 0))) (grd (0≤(nth (nth x0.next k176 []) k206 0)∧(nth (nth x0.next k176 []) k206 0)<(l147.length:Int)) (grd (0≤(nth (nth x0.next k176 []) k206 0)∧(nth (nth x0.next k176 []) k206 0)<(l147.length:Int)) (grd ((l203.length+[(hn_ (ww_ .i64 (nth l147 ((nth (nth x0.next k176 []) k206 0).toNat) 0) 8)),(hn_ (nth l147 ((nth (nth x0.next k176 []) k206 0).toNat) 0))].length) * 1≤140737488355328) (D4_ k206 (l203++[(hn_ (ww_ .i64 (nth l147 ((nth (nth x0.next k176 []) k206 0).toNat) 0) 8)),(hn_ (nth l147 ((nth (nth x0.next k176 []) k206 0).toNat) 0))]))))) (D4_ k206 l203)) (fin (bnd (Cv_ (⟨m174⟩:Numb) l203) (fun v94=>grd (k176<l171.length) (nxt ((l171.set k176 v94.1),v94.2.places,(k176+1))))))
def Br_(l147:N_1)(x0:Seq)(k150:Nat)(l171:N_1)(m174:FM T_1 Int)(k176:Nat):Option ((N_1×(FM T_1 Int)×Nat)⊕((N_1×Nat)⊕(N_1×Int))):=
 ec_ (decide ((k176:Int)<(((replicate l147.length (0:Int)).length:Nat):Int))) (grd (k176<l147.length) (grd (k176<l147.length) (grd (k176<x0.next.length) (eq_ (fun q:T_1×Nat=>Bt_ x0 k176 l147 m174 l171 q.1 q.2) ([(hn_ (ww_ .i64 (nth l147 k176 0) 8)),(hn_ (nth l147 k176 0))],0))))) (fin (ec_ (decide (((m174.n:Nat):Int)=(k150:Int))) (fin (some (l171,(k150:Int)))) (nxt (l171,m174.n))))
def Cq_(x0:Seq)(l147:N_1)(k150:Nat):Option ((N_1×Nat)⊕(N_1×Int)):=
 grd (8 * l147.length≤281474976710656) (eq_ (fun q:N_1×(FM T_1 Int)×Nat=>Br_ l147 x0 k150 q.1 q.2.1 q.2.2) ((replicate l147.length (0:Int)),(FM.emp:FM T_1 Int),0))
def Bo_(x0:Seq)(l122:N_1)(m125:FM T_1 Int)(k127:Nat):Option ((N_1×(FM T_1 Int)×Nat)⊕(N_1×Int)):=
 ec_ (decide ((k127:Int)<(((replicate x0.next.length (0:Int)).length:Nat):Int))) (bnd (E5_ x0 (k127:Int)) (fun v23=>bnd (Cv_ (⟨m125⟩:Numb) v23) (fun v24=>grd (k127<l122.length) (nxt ((l122.set k127 v24.1),v24.2.places,(k127+1)))))) (fin (eq_ (fun q:N_1×Nat=>Cq_ x0 q.1 q.2) (l122,m125.n)))
def Fc_(x0:Seq):Option (N_1×Int):=
 grd (8 * x0.next.length≤281474976710656) (eq_ (fun q:N_1×(FM T_1 Int)×Nat=>Bo_ x0 q.1 q.2.1 q.2.2) ((replicate x0.next.length (0:Int)),(FM.emp:FM T_1 Int),0))
def H7_(σ:d0_)(r:N_1×Int):Value→d0_→List Res→Prop:=fun v σ' H'=>
 ∃a1 c1,v= .tuple #[.slice a1 r.1.length c1,.int .i64 r.2]∧rS_ σ' eI_ a1 c1 r.1∧H'=[]
theorem Ht_{σ:d0_}{x0:Seq}(hgl:GT2 σ 1 2)(f0_0:RZ σ (ea_ 1 eI_ ep_) (.slice a0_0 x0.next.length c0_0) x0.next)(f0_1:RZ σ (ea_ 1 eS_ es_) (.slice a0_1 x0.outs.length c0_1) x0.outs)(f0_2:rS_ σ e1_ a0_2 c0_2 x0.fin)(f0_3:rS_ σ eS_ a0_3 c0_3 x0.tail){r:N_1×Int}(hh:Fc_ x0=some r):
  Con prog 66 #[.agg (aq_ x0 a0_0 c0_0 a0_1 c0_1 a0_2 c0_2 a0_3 c0_3)] σ [] (H7_ σ r):=by
 dsimp only [Fc_]at hh
 have f0_0b:=f0_0.big
 have f0_1b:=f0_1.big
 have f0_2b:=f0_2.rv.big
 have f0_3b:=f0_3.rv.big
 refine Con.mk (n:=103) Tryz.func66 z z z (fun w0=> ?_)
 refine ξ (ζ z (boxA z z z z (fun b101=> ?_)))
 refine TL.s z z (θ z z (κ (ξ (ω z (aa_ z e8_ z) (ω z (ab_ z i0_ z (i:=0) z z) (ω z (lenC z fn_ z) ?_))))))
 obtain ⟨u7,hh⟩:=d6_ hh
 refine ζ z (a2_ (enc:=eI_) (0:Int) z e2_ sz3 by3 ze3 z z z z (by omega) (by decide) ep_ (by decide) z i2_ (fun a103 c104=> ?_))
 refine ζ z (bs_ (enc:=h3_) (encV:=io_) z z z (fun b106=> ?_))
 refine ω z (an_ z pl167 ze167 z) (ζ z (OpOk.alloc z ze167 z z (fun b108=> ?_)))
 refine TL.s z z (ζ z (storeAll z sz167 z z z z z z ?_))
 refine κ (ν (ξ (TL.s z z (ω z (lenC z e2_ z) (θ z z (κ (υ (TC.ao_ (α:=(N_1×(FM T_1 Int)×Nat)×(Nat)) (rgs [(6,1),(22,11)]) (fun g=>[(22,.int .i64 ((g.1.2.2:Nat):Int))]) (fun g=>[cq_ b101 x0 a0_0 c0_0 a0_1 c0_1 a0_2 c0_2 a0_3 c0_3,ε 3 1 eI_ (.slice a103 (replicate x0.next.length (0:Int)).length c104) g.1.1,φ b108 #[.map (some g.2)] 167,Res.mapB h3_ io_ (some g.2) g.1.2.1]) (fun g=>σ) (fun g=>eq_ (fun q:N_1×(FM T_1 Int)×Nat=>Bo_ x0 q.1 q.2.1 q.2.2) g.1=some r∧g.1.1.length=(replicate x0.next.length (0:Int)).length) (fun g=>eh_ (fun q:N_1×(FM T_1 Int)×Nat=>Bo_ x0 q.1 q.2.1 q.2.2) g.1) (((replicate x0.next.length (0:Int)),(FM.emp:FM T_1 Int),0),b106) (δ [1,1,2,3] 4) z (by repeat (first|exact trivial|refine ⟨z,?_⟩)) ⟨hh,z⟩ (fun g1 j1 hg1=> ?_)))))))))
 obtain ⟨⟨l122,m125,k127⟩,b126⟩:=g1
 obtain ⟨hh,hn123⟩:=hg1
 try dsimp only at hn123 ⊢
 obtain ⟨z1,hh,hR1⟩:=eo_ hh
 dsimp only [Bo_]at hh
 refine η (i:=1) z (fun _ hb128 _=> ?_)
 refine ξ (ω z (OpVal.lss z z z) (κ (ν (TC.cD z hh (fun h129 hh=> ?_) (fun h129 hh=> ?_)))))
 ·refine ι (S.n (ν (υ (ξ (θ z z (θ z z (κ (π (TL.s z z (θ z z (ω z (ak_ z h1_ fs_ z (i:=0) z z) (θ z z ?_))))))))))))
  obtain ⟨v23,u23,hh⟩:=eb_ hh
  refine ζ z (aw_ (Hu_ (x0:=x0) hgl f0_0 f0_1 f0_2 f0_3 u23) z z pf110 z z z ?_)
  refine ψ 3 z z (ψ 3 z z ?_)
  obtain ⟨v24,u24,hh⟩:=eb_ hh
  refine ζ z (OpOk.call (Fu_ u24) z z pf109 z z z z ?_)
  rintro _ _ _ hle130 ⟨b130_1,rfl,rfl,rfl⟩
  obtain ⟨u25,hh⟩:=d6_ hh
  refine TL.isSl (i:=3) z (fun hs132 _ _=> ?_)
  refine ω z (af_ z e2_ sz3 z z hs132 (by omega)) (ψ 3 z z ?_)
  have hn133:(l122.set k127 v24.1).length=(replicate x0.next.length (0:Int)).length:=by rw [ls_];exact hn123
  refine ζ z (ay_ v24.1 z sz3 z z z z ep_ i2_ (by omega) (by omega) ?_)
  refine TL.nil (B.n (S.n (π (ω z (OpVal.succ z z z (by omega)) (θ z z (κ ?_))))))
  obtain ⟨hh,hlt134⟩:=ey_ hR1 hh
  exact lf (((l122.set k127 v24.1),v24.2.places,(k127+1)),b130_1) hlt134 ⟨hh,hn133⟩ (δ [2,2,2,3] 4)
 refine TC.exit (S.x (S.x ?_))
 replace hh:=el_ hR1 hh
 refine Δ (S.n (ξ (ω z (aa_ z me_ z) (ω z (ab_ z ag70 z (i:=2) z z) (ω z (lenB z underlying70 z (i:=3) z) (θ z z (κ (υ ?_))))))))
 rw [show Value.slice a103 ((replicate x0.next.length (0:Int)).length) c104=Value.slice a103 l122.length c104 from by rw [hn123]]
 refine TC.ao_ (α:=(N_1×Nat)×((Option Addr)×Nat)) (rgs [(2,3),(7,5),(13,1),(36,67)]) (fun g=>[(4,.slice g.2.1 g.1.1.length g.2.2),(7,.int .i64 ((g.1.2:Nat):Int))]) (fun g=>[cq_ b101 x0 a0_0 c0_0 a0_1 c0_1 a0_2 c0_2 a0_3 c0_3,ε 3 1 eI_ (.slice g.2.1 g.1.1.length g.2.2) g.1.1]) (fun g=>σ) (fun g=>eq_ (fun q:N_1×Nat=>Cq_ x0 q.1 q.2) g.1=some r) (fun g=>eh_ (fun q:N_1×Nat=>Cq_ x0 q.1 q.2) g.1) ((l122,m125.n),(a103,c104)) (δ [1,1] 2) z (by repeat (first|exact trivial|refine ⟨z,?_⟩)) hh (fun g2 j2 hg2=> ?_)
 obtain ⟨⟨l147,k150⟩,⟨a148,c149⟩⟩:=g2
 have hh:=hg2;clear hg2
 try dsimp only
 obtain ⟨z1,hh,hR1⟩:=eo_ hh
 dsimp only [Cq_]at hh
 refine η (i:=1) z (fun _ hb151 _=> ?_)
 refine υ (ξ (TL.s z z (ω z (lenC z e2_ z) ?_)))
 obtain ⟨u35,hh⟩:=d6_ hh
 refine ζ z (a2_ (enc:=eI_) (0:Int) z e2_ sz3 by3 ze3 z z z z (by omega) (by decide) ep_ (by decide) z i2_ (fun a152 c153=> ?_))
 refine ζ z (bs_ (enc:=h3_) (encV:=io_) z z z (fun b155=> ?_))
 refine ω z (an_ z pl167 ze167 z) (ζ z (OpOk.alloc z ze167 z z (fun b157=> ?_)))
 refine TL.s z z (ζ z (storeAll z sz167 z z z z z z ?_))
 refine κ (ν (ξ (TL.s z z (ω z (lenC z e2_ z) (θ z z (κ (υ (TC.ao_ (α:=(N_1×(FM T_1 Int)×Nat)×(Nat)) (rgs [(10,2),(13,1),(43,49)]) (fun g=>[(43,.int .i64 ((g.1.2.2:Nat):Int))]) (fun g=>[cq_ b101 x0 a0_0 c0_0 a0_1 c0_1 a0_2 c0_2 a0_3 c0_3,rs_ 3 eI_ a148 c149 l147,ε 3 1 eI_ (.slice a152 (replicate l147.length (0:Int)).length c153) g.1.1,φ b157 #[.map (some g.2)] 167,Res.mapB h3_ io_ (some g.2) g.1.2.1]) (fun g=>σ) (fun g=>eq_ (fun q:N_1×(FM T_1 Int)×Nat=>Br_ l147 x0 k150 q.1 q.2.1 q.2.2) g.1=some z1∧g.1.1.length=(replicate l147.length (0:Int)).length) (fun g=>eh_ (fun q:N_1×(FM T_1 Int)×Nat=>Br_ l147 x0 k150 q.1 q.2.1 q.2.2) g.1) (((replicate l147.length (0:Int)),(FM.emp:FM T_1 Int),0),b155) (δ [1,1,2,4,4] 5) z (by repeat (first|exact trivial|refine ⟨z,?_⟩)) ⟨hh,z⟩ (fun g3 j3 hg3=> ?_)))))))))
 obtain ⟨⟨l171,m174,k176⟩,b175⟩:=g3
 obtain ⟨hh,hn172⟩:=hg3
 try dsimp only at hn172 ⊢
 obtain ⟨z2,hh,hR2⟩:=eo_ hh
 dsimp only [Br_]at hh
 refine η (i:=1) z (fun _ hb177 _=> ?_)
 refine η (i:=2) z (fun _ hb178 _=> ?_)
 refine ξ (ω z (OpVal.lss z z z) (κ (ν (TC.cD z hh (fun h179 hh=> ?_) (fun h179 hh=> ?_)))))
 ·refine ι (S.n (ν (υ (ξ (θ z z (θ z z (κ (ν ?_))))))))
  obtain ⟨u49,hh⟩:=d6_ hh
  obtain ⟨u55,hh⟩:=d6_ hh
  refine TC.draw [] (by kernel_rfl) (Ψ 0 z (aj_ (.inl z) z) z (Ψ 1 z (ai_ (.inl z) z) z (TA.isSl (i:=1) z (fun hs185 _ _=> ?_))))
  refine TA.b 2 z (af_ z e2_ sz3 z z hs185 (by omega)) z (TA.b 3 z (a4_ (0:Int) z ag3 z (q:=1) z ep_ (by omega) z) z (Ψ 4 z (shrI (b:=8) z z z) z (Ψ 5 z (bn_ z underlying3 underlying5 z) z (Ψ 6 z (aj_ (.inl z) z) z (Ψ 7 z (ai_ (.inl z) z) z (TA.isSl (i:=1) z (fun hs186 _ _=> ?_)))))))
  refine TA.b 8 z (af_ z e2_ sz3 z z hs186 (by omega)) z (TA.b 9 z (a4_ (0:Int) z ag3 z (q:=1) z ep_ (by omega) z) z (Ψ 10 z (bn_ z underlying3 underlying5 z) z (TA.ac 11 z (OpOk.lit (enc:=e5_) [(hn_ (ww_ .i64 (nth l147 k176 0) 8)),(hn_ (nth l147 k176 0))] z th_ sz5 ze5 z z z gr_ (by decide) (by decide) (0:UInt8) z (by decide) z (by decide) gt_ (fun a187 c188=>(k1 ?_))))))
  refine Ψ 12 z (aj_ (.inr z) z) z (TA.dn (S.n (ν (ξ (ω z (aa_ z e8_ z) (ω z (ab_ z i0_ z (i:=1) z z) (θ z z ?_)))))))
  obtain ⟨u63,hh⟩:=d6_ hh
  refine ω z (af_ z fn_ fp_ z z f0_0.isSl (by omega)) ?_
  obtain ⟨p190,hk190,hg190⟩:=RZ.seg f0_0 k176 (by omega)
  replace hk190:rS_ _ eI_ p190.1 p190.2 (nth x0.next k176 []):=hk190
  have hk190b:=hk190.rv.big
  refine ω z (OpVal.of (as_ z jx_ z hg190 z) (v':= .slice p190.1 ((nth x0.next k176 []).length) p190.2) z) (ω z (lenC z e2_ z) (θ z z (κ (υ (TC.ao_ (α:=(T_1×Nat)×((Option Addr)×Nat)) (rgs [(11,1),(13,1),(64,21)]) (fun g=>[(11,.slice g.2.1 g.1.1.length g.2.2),(64,.int .i64 ((g.1.2:Nat):Int))]) (fun g=>[cq_ b101 x0 a0_0 c0_0 a0_1 c0_1 a0_2 c0_2 a0_3 c0_3,rs_ 3 eI_ a148 c149 l147,ε 3 1 eI_ (.slice a152 (replicate l147.length (0:Int)).length c153) l171,φ b157 #[.map (some b175)] 167,Res.mapB h3_ io_ (some b175) m174,ε 5 1 e5_ (.slice g.2.1 g.1.1.length g.2.2) g.1.1]) (fun g=>σ) (fun g=>eq_ (fun q:T_1×Nat=>Bt_ x0 k176 l147 m174 l171 q.1 q.2) g.1=some z2∧l171.length=(replicate l147.length (0:Int)).length) (fun g=>eh_ (fun q:T_1×Nat=>Bt_ x0 k176 l147 m174 l171 q.1 q.2) g.1) (([(hn_ (ww_ .i64 (nth l147 k176 0) 8)),(hn_ (nth l147 k176 0))],0),(a187,c188)) (δ [5,5,5,5,5] 6) z (by repeat (first|exact trivial|refine ⟨z,?_⟩)) ⟨hh,hn172⟩ (fun g4 j4 hg4=> ?_))))))
  obtain ⟨⟨l203,k206⟩,⟨a204,c205⟩⟩:=g4
  obtain ⟨hh,hn202⟩:=hg4
  try dsimp only at hn202 ⊢
  obtain ⟨z3,hh,hR3⟩:=eo_ hh
  dsimp only [Bt_]at hh
  refine η (i:=1) z (fun _ hb207 _=> ?_)
  refine η (i:=2) z (fun _ hb208 _=> ?_)
  refine η (i:=5) z (fun _ hb209 _=> ?_)
  refine ξ (ω z (OpVal.lss z z z) (κ (ν (TC.cD z hh (fun h210 hh=> ?_) (fun h210 hh=> ?_)))))
  ·refine ι (S.n (TC.cutG (α:=(T_1)×((Option Addr)×Nat)) (rgs [(11,1),(13,1),(66,18)]) (fun g=>[(11,.slice g.2.1 g.1.length g.2.2)]) (fun g=>[cq_ b101 x0 a0_0 c0_0 a0_1 c0_1 a0_2 c0_2 a0_3 c0_3,rs_ 3 eI_ a148 c149 l147,ε 3 1 eI_ (.slice a152 (replicate l147.length (0:Int)).length c153) l171,φ b157 #[.map (some b175)] 167,Res.mapB h3_ io_ (some b175) m174,ε 5 1 e5_ (.slice g.2.1 g.1.length g.2.2) g.1]) (fun g=>σ) (fun g=>D4_ k206 g.1=some z3∧l171.length=(replicate l147.length (0:Int)).length) ?_ (fun g j hg=> ?_)))
   ·skip
    refine υ (ξ (ω z (af_ z e2_ sz3 z z hk190.rv.sl (by omega)) (ω z (al_ (0:Int) z ag3 z hk190 (by omega) z) (θ z z (κ (ξ (θ z z (ω z (OpVal.geq z z z) (κ (TC.cD z hh (fun h215 hh=> ?_) (fun h215 hh=> ?_)))))))))))
    ·have u76:=n8_ hh
     replace hh:=or_ hh
     obtain ⟨u82,hh⟩:=d6_ hh
     obtain ⟨u86,hh⟩:=d6_ hh
     refine TC.draw [13,14] (by kernel_rfl) (Ψ 0 z (aj_ (.inl z) z) z (Ψ 1 z (aj_ (.inl z) z) z (Ψ 2 z (ai_ (.inl z) z) z (TA.isSl (i:=1) z (fun hs223 _ _=> ?_)))))
     refine TA.b 3 z (OpVal.index z e2_ sz3 z z hs223 u76.1 u76.2) z (TA.b 4 z (a4_ (0:Int) z ag3 z (q:=1) z ep_ (by omega) z) z (Ψ 5 z (shrI (b:=8) z z z) z (Ψ 6 z (bn_ z underlying3 underlying5 z) z (Ψ 7 z (aj_ (.inl z) z) z (Ψ 8 z (ai_ (.inl z) z) z (TA.isSl (i:=1) z (fun hs224 _ _=> ?_)))))))
     refine TA.b 9 z (OpVal.index z e2_ sz3 z z hs224 u82.1 u82.2) z (TA.b 10 z (a4_ (0:Int) z ag3 z (q:=1) z ep_ (by omega) z) z (Ψ 11 z (bn_ z underlying3 underlying5 z) z (TA.ac 12 z (OpOk.lit (enc:=e5_) [(hn_ (ww_ .i64 (nth l147 ((nth (nth x0.next k176 []) k206 0).toNat) 0) 8)),(hn_ (nth l147 ((nth (nth x0.next k176 []) k206 0).toNat) 0))] z th_ sz5 ze5 z z z gr_ (by decide) (by decide) (0:UInt8) z (by decide) z (by decide) gt_ (fun a225 c226=>(k1 ?_))))))
     refine TA.front 6 z z (TA.last 13 (by kernel_rfl) z z z (av_ z z th_ sz5 by5 ze5 z z (by decide) z z z (.inr ⟨_,0,z⟩) (by simpa using u86) (by decide) (fun a228 c229=> ?_)))
     exact TZ.v 14 (by kernel_rfl) z z z (aj_ (.inr z) z) z z (TZ.done (by kernel_rfl) (B.n (S.n (cf ((l203++[(hn_ (ww_ .i64 (nth l147 ((nth (nth x0.next k176 []) k206 0).toNat) 0) 8)),(hn_ (nth l147 ((nth (nth x0.next k176 []) k206 0).toNat) 0))]),(a228,c229)) ⟨hh,hn202⟩ (δ [6,6,6,6,6] 6)))))
    exact ι (B.n (S.n (cf (l203,(a204,c205)) ⟨hh,hn202⟩ (δ [5,5,5,5,5,5] 6))))
   skip
   obtain ⟨l212,⟨a213,c214⟩⟩:=g
   obtain ⟨hh,hn211⟩:=hg
   try dsimp only at hn211 ⊢
   dsimp only [D4_]at hh
   refine η (i:=1) z (fun _ hb230 _=> ?_)
   refine η (i:=2) z (fun _ hb231 _=> ?_)
   refine η (i:=5) z (fun _ hb232 _=> ?_)
   refine π (ω z (OpVal.succ z z z (by omega)) (θ z z (κ ?_)))
   obtain ⟨hh,hlt233⟩:=ey_ hR3 hh
   exact lf ((l212,(k206+1)),(a213,c214)) hlt233 ⟨hh,hn211⟩ (δ [5,5,5,5,5,5] 6)
  refine TC.exit (S.x (S.x ?_))
  replace hh:=el_ hR3 hh
  refine Δ (S.n (π (TL.s z z (θ z z (TL.s z z (TL.isSl (i:=5) z (fun hs234 _ _=> ?_)))))))
  refine ω z (cj_ (l:=l203) z th_ underlying5 u9_ z hs234 (fun w hw=>rdb_row (q:=5) z hw)) (ψ 4 z z (ψ 4 z z ?_))
  obtain ⟨v94,u94,hh⟩:=eb_ hh
  refine ζ z (OpOk.call (Fu_ u94) z z pf109 z z z z ?_)
  rintro _ _ _ hle235 ⟨b235_1,rfl,rfl,rfl⟩
  obtain ⟨u95,hh⟩:=d6_ hh
  refine TL.isSl (i:=4) z (fun hs237 _ _=> ?_)
  refine ω z (af_ z e2_ sz3 z z hs237 (by omega)) (ψ 4 z z ?_)
  have hn238:(l171.set k176 v94.1).length=(replicate l147.length (0:Int)).length:=by rw [ls_];exact hn202
  refine ζ z (ay_ v94.1 z sz3 z z z z ep_ i2_ (by omega) (by omega) ?_)
  refine TL.nil (B.n (S.n (π (ω z (OpVal.succ z z z (by omega)) (θ z z (κ ?_))))))
  obtain ⟨hh,hlt239⟩:=ey_ hR2 hh
  exact lf (((l171.set k176 v94.1),v94.2.places,(k176+1)),b235_1) hlt239 ⟨hh,hn238⟩ (δ [2,2,2,4,4] 5)
 refine TC.exit (S.x (S.x ?_))
 replace hh:=el_ hR2 hh
 refine Δ (S.n (ξ (TL.s z z (TL.s z z (κ (ν (ξ (ω z (aa_ z me_ z) (ω z (ab_ z ag70 z (i:=3) z z) (ω z (lenB z underlying70 z (i:=4) z) (θ z z (ω z (OpVal.eql z z z) (κ (TC.cD z hh (fun h240 hh=> ?_) (fun h240 hh=> ?_)))))))))))))))
 ·refine ξ (TL.s z z (θ z z (TL.s z z (θ z z (κ ?_)))))
  rw [show Value.slice a152 ((replicate l147.length (0:Int)).length) c153=Value.slice a152 l171.length c153 from by rw [hn172]]
  refine TC.front 2 z z (TC.a3_ ep_ (fun τ243 hle242 hr241=> ?_))
  have hr241b:=hr241.rv.big
  refine TC.rt 0 (S.r (B.r (S.r ?_)))
  replace hh:=el_ hR1 hh
  refine B.r ?_
  obtain rfl:=so hh
  exact rq [2,3] ⟨a152,c153,z,hr241,z⟩
 refine ι (S.n (π (ω z (aa_ z me_ z) (ω z (ab_ z ag70 z (i:=3) z z) (ω z (lenB z underlying70 z (i:=4) z) (θ z z ?_))))))
 rw [show Value.slice a152 ((replicate l147.length (0:Int)).length) c153=Value.slice a152 l171.length c153 from by rw [hn172]]
 refine TL.nil (B.n (S.n ?_))
 obtain ⟨hh,hlt244⟩:=ey_ hR1 hh
 exact lf ((l171,m174.n),(a152,c153)) hlt244 hh (δ [2,1] 2)
end Go.Proofs.YtchebnpdnfhenaaGreatDoor
end
