/- Parts of a proof, one behind the other: what a machine reaches, functions decompiled, plain lemmas. Conditions stand with each lemma. -/
import Derived.Test.YtcfgkcfcddfccaaGreatDoorB436a4c84ed
import Derived.Test.YtcfgkcfcddfccaaGreatDoorB2a01e67502
import Derived.Test.YtcfgkcfcddfccaaGreatDoorBffc86649ad

set_option linter.unusedVariables false
set_option linter.unusedSimpArgs false
set_option linter.unusedSectionVars false
set_option maxRecDepth 100000
set_option maxHeartbeats 8000000
variable {ay aC aK qA qy bW cu d_ MF MC nP L6:Option Go.Addr}{t_ yR Bc DV fM ig jk jO au aJ aF qo qm bV dZ b_ LK LJ nJ Lu:Nat}

noncomputable section
namespace Go.Proofs.YtcfgkcfcddfccaaGreatDoor
open Go Go.E Go.E.OpVal Go.E.OpOk Go.Proofs.Tryz
open List (replicate)
theorem x8_:foOf Tryz.prog 93 0=some 0:=by kernel_rfl
theorem fo93_1:foOf Tryz.prog 93 1=some 4:=by kernel_rfl
theorem U6:szOf Tryz.prog 22=some 1:=by kernel_rfl
theorem sz23:szOf Tryz.prog 23=some 1:=by kernel_rfl
theorem sz27:szOf Tryz.prog 27=some 1:=by kernel_rfl
def Fy_(x0:Grow)(x1:Tip):Option (Grow):=
 aI x0.over (some (⟨(⟨x0.f.states,x0.f.starts,x0.f.ends,x0.f.arcs⟩:Fst),true⟩:Grow)) (aI (decide (1024<=(x0.f.starts.length:Int))) (some (⟨(⟨x0.f.states,x0.f.starts,x0.f.ends,x0.f.arcs⟩:Fst),true⟩:Grow)) (aI (decide (1024<(x1.out.length:Int))) (some (⟨(⟨x0.f.states,x0.f.starts,x0.f.ends,x0.f.arcs⟩:Fst),true⟩:Grow)) (grd ((x0.f.starts.length+[x1].length) * 24<=140737488355328) (some (⟨(⟨x0.f.states,(x0.f.starts++[x1]),x0.f.ends,x0.f.arcs⟩:Fst),x0.over⟩:Grow)))))
theorem I0_{σ:ak}{x0:Grow}{x1:Tip}{r:Grow}(hh:Fy_ x0 x1=some r):
  Con prog 62 #[loc fM 0,.agg #[.int .i64 x1.state,.string (bs x1.out)]] σ [ω fM #[.int .i64 x0.f.states,.slice aC x0.f.starts.length aF,.slice qA x0.f.ends.length qo,.slice qy x0.f.arcs.length qm,.bool x0.over] t_,ε 79 2 bg (.slice aC x0.f.starts.length aF) x0.f.starts,ε 79 2 bg (.slice qA x0.f.ends.length qo) x0.f.ends,ε 49 8 dG (.slice qy x0.f.arcs.length qm) x0.f.arcs] (λv σ' H'=> ∃oL oK Dt Df Dq Dc,v= .tuple #[]/\σ=σ'/\H'=[ω fM #[.int .i64 r.f.states,.slice oL r.f.starts.length oK,.slice Dt r.f.ends.length Df,.slice Dq r.f.arcs.length Dc,.bool r.over] t_,ε 79 2 bg (.slice oL r.f.starts.length oK) r.f.starts,ε 79 2 bg (.slice Dt r.f.ends.length Df) r.f.ends,ε 49 8 dG (.slice Dq r.f.arcs.length Dc) r.f.arcs]):=by
 dsimp only [Fy_]at hh;refine cM 38 Tryz.func62 (λw0=> ?_);refine TC.Uf (R2 ?_);refine TL.bx (λH7=> ?_);refine R9 ?_;refine Γ 8 z (λjA=> ?_) (λjA=> ?_)
 ·replace hh:=nT jA hh;refine R21 ?_;refine φ 1 z z (R2 ?_);refine TC.iH (ψ [4,4,4,3] 4) (θ ?_);obtain rfl:=so hh;refine ⟨_,ψ [3,3,3,3] 4,?_⟩;exact ry
 replace hh:=nS jA hh;refine R9 ?_;refine Γ 17 z (λgI=> ?_) (λgI=> ?_)
 ·obtain ⟨gI,hh⟩:=iT gI hh;refine R12 ?_;refine φ 1 z z (R2 ?_);refine TC.iH (ψ [4,4,4,3] 4) (θ ?_);obtain rfl:=so hh;refine ⟨_,ψ [3,3,3,3] 4,?_⟩;exact ry
 obtain ⟨gI,hh⟩:=iF gI hh;refine R2 ?_;refine TL.g z (LM z vU z) (R3 ?_);refine ι z hh (λh112 hh=> ?_) (λh112 hh=> ?_)
 ·refine R5 ?_;refine φ 1 z z (R2 ?_);refine TC.iH (ψ [4,4,4,3] 4) (θ ?_);obtain rfl:=so hh;refine ⟨_,ψ [3,3,3,3] 4,?_⟩;exact ry
 refine R1 ?_;obtain ⟨u33,hh⟩:=gd hh;refine TC.draw [8,9,10,11,12] (by kernel_rfl) (ν 0 z mL z (ν 1 z mL z (ν 2 z (XO z z) z (ν 3 z fL z (ν 4 z fL z (Δ 5 z lL z (Δ 6 z lA z (Φ 7 z (gX (enc:=bg) [x1] (λwU c119=>(k1 ?_)))))))))));refine Θ 3 z z (TA.last 8 (by kernel_rfl) z z z (apF (.inr ⟨_,0,z⟩) u33 (λE_ ER=> ?_)));refine TZ.v 9 (by kernel_rfl) z z z (XO z z) z z (TZ.v 10 (by kernel_rfl) z z z fL z z (TZ.v 11 (by kernel_rfl) z z z fL z z (TZ.front 3 z z (TZ.last 12 (by kernel_rfl) z z z (gJ z U6 z z z z z ?_)))));refine TZ.done (by kernel_rfl) ?_;obtain rfl:=so hh;refine ⟨_,ψ [5,5,3,3] 4,?_⟩;exact ry
def Gn_(x0:Grow)(x1:Tip):Option (Grow):=
 aI x0.over (some (⟨(⟨x0.f.states,x0.f.starts,x0.f.ends,x0.f.arcs⟩:Fst),true⟩:Grow)) (aI (decide (1024<=(x0.f.ends.length:Int))) (some (⟨(⟨x0.f.states,x0.f.starts,x0.f.ends,x0.f.arcs⟩:Fst),true⟩:Grow)) (aI (decide (1024<(x1.out.length:Int))) (some (⟨(⟨x0.f.states,x0.f.starts,x0.f.ends,x0.f.arcs⟩:Fst),true⟩:Grow)) (grd ((x0.f.ends.length+[x1].length) * 24<=140737488355328) (some (⟨(⟨x0.f.states,x0.f.starts,(x0.f.ends++[x1]),x0.f.arcs⟩:Fst),x0.over⟩:Grow)))))
theorem I9_{σ:ak}{x0:Grow}{x1:Tip}{r:Grow}(hh:Gn_ x0 x1=some r):
  Con prog 63 #[loc fM 0,.agg #[.int .i64 x1.state,.string (bs x1.out)]] σ [ω fM #[.int .i64 x0.f.states,.slice aC x0.f.starts.length aF,.slice qA x0.f.ends.length qo,.slice qy x0.f.arcs.length qm,.bool x0.over] t_,ε 79 2 bg (.slice aC x0.f.starts.length aF) x0.f.starts,ε 79 2 bg (.slice qA x0.f.ends.length qo) x0.f.ends,ε 49 8 dG (.slice qy x0.f.arcs.length qm) x0.f.arcs] (λv σ' H'=> ∃oL oK Dt Df Dq Dc,v= .tuple #[]/\σ=σ'/\H'=[ω fM #[.int .i64 r.f.states,.slice oL r.f.starts.length oK,.slice Dt r.f.ends.length Df,.slice Dq r.f.arcs.length Dc,.bool r.over] t_,ε 79 2 bg (.slice oL r.f.starts.length oK) r.f.starts,ε 79 2 bg (.slice Dt r.f.ends.length Df) r.f.ends,ε 49 8 dG (.slice Dq r.f.arcs.length Dc) r.f.arcs]):=by
 dsimp only [Gn_]at hh;refine cM 38 Tryz.func63 (λw0=> ?_);refine TC.Uf (R2 ?_);refine TL.bx (λH7=> ?_);refine R9 ?_;refine Γ 8 z (λjA=> ?_) (λjA=> ?_)
 ·replace hh:=nT jA hh;refine R21 ?_;refine φ 1 z z (R2 ?_);refine TC.iH (ψ [4,4,4,3] 4) (θ ?_);obtain rfl:=so hh;refine ⟨_,ψ [3,3,3,3] 4,?_⟩;exact ry
 replace hh:=nS jA hh;refine R9 ?_;refine Γ 17 z (λgI=> ?_) (λgI=> ?_)
 ·obtain ⟨gI,hh⟩:=iT gI hh;refine R12 ?_;refine φ 1 z z (R2 ?_);refine TC.iH (ψ [4,4,4,3] 4) (θ ?_);obtain rfl:=so hh;refine ⟨_,ψ [3,3,3,3] 4,?_⟩;exact ry
 obtain ⟨gI,hh⟩:=iF gI hh;refine R2 ?_;refine TL.g z (LM z vU z) (R3 ?_);refine ι z hh (λh112 hh=> ?_) (λh112 hh=> ?_)
 ·refine R5 ?_;refine φ 1 z z (R2 ?_);refine TC.iH (ψ [4,4,4,3] 4) (θ ?_);obtain rfl:=so hh;refine ⟨_,ψ [3,3,3,3] 4,?_⟩;exact ry
 refine R1 ?_;obtain ⟨u33,hh⟩:=gd hh;refine TC.draw [8,9,10,11,12] (by kernel_rfl) (ν 0 z mL z (ν 1 z mL z (ν 2 z (XO z z) z (ν 3 z fL z (ν 4 z fL z (Δ 5 z lL z (Δ 6 z lA z (Φ 7 z (gX (enc:=bg) [x1] (λwU c119=>(k1 ?_)))))))))));refine Θ 4 z z (TA.last 8 (by kernel_rfl) z z z (apF (.inr ⟨_,0,z⟩) u33 (λE_ ER=> ?_)));refine TZ.v 9 (by kernel_rfl) z z z (XO z z) z z (TZ.v 10 (by kernel_rfl) z z z fL z z (TZ.v 11 (by kernel_rfl) z z z fL z z (TZ.front 3 z z (TZ.last 12 (by kernel_rfl) z z z (gJ z U6 z z z z z ?_)))));refine TZ.done (by kernel_rfl) ?_;obtain rfl:=so hh;refine ⟨_,ψ [5,2,5,3] 4,?_⟩;exact ry
def Gq_(x0:Grow)(x1:Arc):Option (Grow):=
 aI x0.over (some (⟨(⟨x0.f.states,x0.f.starts,x0.f.ends,x0.f.arcs⟩:Fst),true⟩:Grow)) (aI (decide (16384<=(x0.f.arcs.length:Int))) (some (⟨(⟨x0.f.states,x0.f.starts,x0.f.ends,x0.f.arcs⟩:Fst),true⟩:Grow)) (aI (decide (1024<(x1.out.length:Int))) (some (⟨(⟨x0.f.states,x0.f.starts,x0.f.ends,x0.f.arcs⟩:Fst),true⟩:Grow)) (grd ((x0.f.arcs.length+[x1].length) * 72<=140737488355328) (some (⟨(⟨x0.f.states,x0.f.starts,x0.f.ends,(x0.f.arcs++[x1])⟩:Fst),x0.over⟩:Grow)))))
theorem I7_{σ:ak}{x0:Grow}{x1:Arc}{r:Grow}(hh:Gq_ x0 x1=some r):
  Con prog 67 #[loc fM 0,.agg #[.int .i64 x1.frm,.int .i64 x1.to,.int .u64 (x1.set.a:Int),.int .u64 (x1.set.b:Int),.int .u64 (x1.set.c:Int),.int .u64 (x1.set.d:Int),.string (bs x1.out),.bool x1.copy]] σ [ω fM #[.int .i64 x0.f.states,.slice aC x0.f.starts.length aF,.slice qA x0.f.ends.length qo,.slice qy x0.f.arcs.length qm,.bool x0.over] t_,ε 79 2 bg (.slice aC x0.f.starts.length aF) x0.f.starts,ε 79 2 bg (.slice qA x0.f.ends.length qo) x0.f.ends,ε 49 8 dG (.slice qy x0.f.arcs.length qm) x0.f.arcs] (λv σ' H'=> ∃oL oK Dt Df Dq Dc,v= .tuple #[]/\σ=σ'/\H'=[ω fM #[.int .i64 r.f.states,.slice oL r.f.starts.length oK,.slice Dt r.f.ends.length Df,.slice Dq r.f.arcs.length Dc,.bool r.over] t_,ε 79 2 bg (.slice oL r.f.starts.length oK) r.f.starts,ε 79 2 bg (.slice Dt r.f.ends.length Df) r.f.ends,ε 49 8 dG (.slice Dq r.f.arcs.length Dc) r.f.arcs]):=by
 dsimp only [Gq_]at hh;refine cM 38 Tryz.func67 (λw0=> ?_);refine TC.Uf (R2 ?_);refine TL.bx (λH7=> ?_);refine R9 ?_;refine Γ 8 z (λjA=> ?_) (λjA=> ?_)
 ·replace hh:=nT jA hh;refine R21 ?_;refine φ 1 z z (R2 ?_);refine TC.iH (ψ [4,4,4,3] 4) (θ ?_);obtain rfl:=so hh;refine ⟨_,ψ [3,3,3,3] 4,?_⟩;exact ry
 replace hh:=nS jA hh;refine R9 ?_;refine Γ 17 z (λgI=> ?_) (λgI=> ?_)
 ·obtain ⟨gI,hh⟩:=iT gI hh;refine R12 ?_;refine φ 1 z z (R2 ?_);refine TC.iH (ψ [4,4,4,3] 4) (θ ?_);obtain rfl:=so hh;refine ⟨_,ψ [3,3,3,3] 4,?_⟩;exact ry
 obtain ⟨gI,hh⟩:=iF gI hh;refine R2 ?_;refine TL.g z (LM z vU z) (R3 ?_);refine ι z hh (λh112 hh=> ?_) (λh112 hh=> ?_)
 ·refine R5 ?_;refine φ 1 z z (R2 ?_);refine TC.iH (ψ [4,4,4,3] 4) (θ ?_);obtain rfl:=so hh;refine ⟨_,ψ [3,3,3,3] 4,?_⟩;exact ry
 refine R1 ?_;obtain ⟨u33,hh⟩:=gd hh;refine TC.draw [8,9,10,11,12] (by kernel_rfl) (ν 0 z mL z (ν 1 z mL z (ν 2 z (XO z z) z (ν 3 z fL z (ν 4 z fL z (Δ 5 z lL z (Δ 6 z lA z (Φ 7 z (gX (enc:=dG) [x1] (λwU c119=>(k1 ?_)))))))))));refine Θ 5 z z (TA.last 8 (by kernel_rfl) z z z (apF (.inr ⟨_,0,z⟩) u33 (λE_ ER=> ?_)));refine TZ.v 9 (by kernel_rfl) z z z (XO z z) z z (TZ.v 10 (by kernel_rfl) z z z fL z z (TZ.v 11 (by kernel_rfl) z z z fL z z (TZ.front 3 z z (TZ.last 12 (by kernel_rfl) z z z (gJ z sz23 z z z z z ?_)))));refine TZ.done (by kernel_rfl) ?_;obtain rfl:=so hh;refine ⟨_,ψ [1,5,5,3] 4,?_⟩;exact ry
def PX(x0:Grow):Option (Fst×Int):=
 aI x0.over (some ((⟨0,([]:List Tip),([]:List Tip),([]:List Arc)⟩:Fst),2)) (aI (decide (1024<x0.f.states)) (some ((⟨0,([]:List Tip),([]:List Tip),([]:List Arc)⟩:Fst),2)) (some ((⟨x0.f.states,x0.f.starts,x0.f.ends,x0.f.arcs⟩:Fst),0)))
theorem Gm_{σ:ak}{x0:Grow}{x2g:Int}{r:Fst×Int}(hh:PX x0=some r):
  ConD prog 61 #[loc fM 0,loc ig 0,loc jk 0] σ [ω fM #[.int .i64 x0.f.states,.slice aC x0.f.starts.length aF,.slice qA x0.f.ends.length qo,.slice qy x0.f.arcs.length qm,.bool x0.over] t_,ε 79 2 bg (.slice aC x0.f.starts.length aF) x0.f.starts,ε 79 2 bg (.slice qA x0.f.ends.length qo) x0.f.ends,ε 49 8 dG (.slice qy x0.f.arcs.length qm) x0.f.arcs,ω ig #[.int .i64 0,aT,aT,aT] yR,ω jk #[.int .i64 x2g] Bc] (λv σ' H'=> ∃oL oK ao4 co5 ao7 co8,v= .tuple #[]/\RS σ' 2 bg (.slice oL r.1.starts.length oK) r.1.starts/\RS σ' 2 bg (.slice ao4 r.1.ends.length co5) r.1.ends/\RS σ' 8 dG (.slice ao7 r.1.arcs.length co8) r.1.arcs/\H'=[ω ig (eP r.1 oL oK ao4 co5 ao7 co8) yR,ω jk #[.int .i64 r.2] Bc]):=by
 dsimp only [PX]at hh;refine ConD.mk (n:=31) Tryz.func61 z z z (λw0=> ?_);refine TC.Uf (R8 ?_);refine Γ 10 z (λjA=> ?_) (λjA=> ?_)
 ·replace hh:=nT jA hh;refine R15 ?_;refine φ 4 z z (R2 ?_);refine φ 5 z z (R2 ?_);refine TC.iH (ψ [1] 2) (θ ?_);obtain rfl:=so hh;refine ⟨_,ψ [1,1] 2,?_⟩;exact rz
 replace hh:=nS jA hh;refine R8 ?_;refine ι z hh (λgI hh=> ?_) (λgI hh=> ?_)
 ·refine R6 ?_;refine φ 4 z z (R2 ?_);refine φ 5 z z (R2 ?_);refine TC.iH (ψ [1] 2) (θ ?_);obtain rfl:=so hh;refine ⟨_,ψ [1,1] 2,?_⟩;exact rz
 refine R9 ?_;refine φ 4 z z (R2 ?_);refine φ 5 z z (κ z (de_ z sz27 z z z z z ?_));refine φ 3 z z (TL.iw yj (λτ114 cO FU=> ?_));refine φ 3 z z (TL.iw yj (λτ117 dw vG=> ?_));replace FU:=FU.mono dw;refine φ 3 z z (TL.iw EM (λτ120 dJ lW=> ?_));replace FU:=FU.mono dJ;replace vG:=vG.mono dJ;refine Ω ?_;obtain rfl:=so hh;refine ⟨_,ψ [1] 2,?_⟩;exact rz
end Go.Proofs.YtcfgkcfcddfccaaGreatDoor
end

noncomputable section
namespace Go.Proofs.YtcfgkcfcddfccaaGreatDoor
open Go Go.E Go.E.OpVal Go.E.OpOk
theorem ag27:aggOf Tryz.prog 27=some false:=by kernel_rfl
theorem pf61:plainF Tryz.prog 61=true:=by kernel_rfl
theorem pf62:plainF Tryz.prog 62=true:=by kernel_rfl
theorem pf63:plainF Tryz.prog 63=true:=by kernel_rfl
theorem pf67:plainF Tryz.prog 67=true:=by kernel_rfl
theorem pf68:plainF Tryz.prog 68=true:=by kernel_rfl
theorem pf69:plainF Tryz.prog 69=true:=by kernel_rfl
theorem pf70:plainF Tryz.prog 70=true:=by kernel_rfl
theorem pf71:plainF Tryz.prog 71=true:=by kernel_rfl
theorem pl49:plOf Tryz.prog 49=some #[(0,1),(1,1),(2,4),(6,1),(7,1)]:=by kernel_rfl
theorem pl79:plOf Tryz.prog 79=some #[(0,1),(1,1)]:=by kernel_rfl
theorem pl93:plOf Tryz.prog 93=some #[(0,4),(4,1)]:=by kernel_rfl
theorem ze27:zeroOf Tryz.prog 27=some (.int .i64 0):=by kernel_rfl
theorem ze93:zeroOf Tryz.prog 93=some (.agg #[.int .i64 0,aT,aT,aT,.bool false]):=by kernel_rfl
def YH(x1:List Tip)(x2:Int)(i138:Int)(jm:List Tip)(eu:List Tip)(kP:List Arc)(pI:Bool)(jQ:Nat):Option ((Int×(List Tip)×(List Tip)×(List Arc)×Bool×Nat)⊕(Grow)):=
 aI (decide ((jQ:Int)<(x1.length:Int))) (bnd (Fy_ (⟨(⟨i138,jm,eu,kP⟩:Fst),pI⟩:Grow) (⟨IntKind.i64.wrap (((nth x1 jQ bD).state)+x2),(nth x1 jQ bD).out⟩:Tip)) (λv17=>nxt (v17.f.states,v17.f.starts,v17.f.ends,v17.f.arcs,v17.over,(jQ+1)))) (fin (some (⟨(⟨i138,jm,eu,kP⟩:Fst),pI⟩:Grow)))
def Fd_(x0:Grow)(x1:List Tip)(x2:Int):Option (Grow):=
 aV (λq:Int×(List Tip)×(List Tip)×(List Arc)×Bool×Nat=>YH x1 x2 q.1 q.2.1 q.2.2.1 q.2.2.2.1 q.2.2.2.2.1 q.2.2.2.2.2) (x0.f.states,x0.f.starts,x0.f.ends,x0.f.arcs,x0.over,0)
theorem In_{σ:ak}{x0:Grow}{x1:List Tip}{x2:Int}(bU:RS σ 2 bg (.slice bW x1.length bV) x1){r:Grow}(hh:Fd_ x0 x1 x2=some r):
  Con Tryz.prog 69 #[loc fM 0,.slice bW x1.length bV,.int .i64 x2] σ [ω fM #[.int .i64 x0.f.states,.slice aC x0.f.starts.length aF,.slice qA x0.f.ends.length qo,.slice qy x0.f.arcs.length qm,.bool x0.over] t_,ε 79 2 bg (.slice aC x0.f.starts.length aF) x0.f.starts,ε 79 2 bg (.slice qA x0.f.ends.length qo) x0.f.ends,ε 49 8 dG (.slice qy x0.f.arcs.length qm) x0.f.arcs] (λv σ' H'=> ∃oL oK Dt Df Dq Dc,v= .tuple #[]/\σ=σ'/\H'=[ω fM #[.int .i64 r.f.states,.slice oL r.f.starts.length oK,.slice Dt r.f.ends.length Df,.slice Dq r.f.arcs.length Dc,.bool r.over] t_,ε 79 2 bg (.slice oL r.f.starts.length oK) r.f.starts,ε 79 2 bg (.slice Dt r.f.ends.length Df) r.f.ends,ε 49 8 dG (.slice Dq r.f.arcs.length Dc) r.f.arcs]):=by
 dsimp only [Fd_]at hh;have f1_0b:=bU.rv.big;refine cM 24 Tryz.func69 (λw0=> ?_);refine R7 ?_;refine TC.lp hh (aC,aF,qA,qo,qy,qm) (rgs [(7,1),(10,14)]) (λ⟨i138,jm,eu,kP,pI,jQ⟩ ⟨a141,wO,a145,c146,yF,yx⟩=>([(10,.int .i64 (jQ:Int))],[ω fM #[.int .i64 i138,.slice a141 jm.length wO,.slice a145 eu.length c146,.slice yF kP.length yx,.bool pI] t_,ε 79 2 bg (.slice a141 jm.length wO) jm,ε 79 2 bg (.slice a145 eu.length c146) eu,ε 49 8 dG (.slice yF kP.length yx) kP])) (ψ [3,3,3,3] 4) ?_;rintro ⟨i138,jm,eu,kP,pI,jQ⟩ ⟨a141,wO,a145,c146,yF,yx⟩ _ z1 hh hR1;dsimp only [YH]at hh ⊢;refine ξ 1 z (λTG=> ?_);refine ξ 2 z (λKX=> ?_);refine ξ 3 z (λKW=> ?_);refine R5 ?_;refine ι z hh (λAw hh=> ?_) (λAw hh=> ?_)
 ·refine R7 ?_;refine TL.al (λPn=> ?_);refine R11 ?_;refine φ 4 z z (φ 4 z z (φ 4 z z (φ 4 z z ?_)));obtain ⟨v17,vV,hh⟩:=bQ hh;refine κ z (OpOk.call (I0_ vV) z z pf62 z z z z ?_);rintro _ _ _ Ez ⟨a159_1,c159_2,a159_3,c159_4,a159_5,c159_6,rfl,rfl,rfl⟩;refine R5 ?_;exact nx hR1 hh (a159_1,c159_2,a159_3,c159_4,a159_5,c159_6) (ψ [3,3,3,3] 4)
 refine R1 ?_;replace hh:=bF hR1 hh;refine R1 ?_;obtain rfl:=so hh;exact ry
def YB(x1:List Tip)(x2:Int)(i138:Int)(jm:List Tip)(eu:List Tip)(kP:List Arc)(pI:Bool)(jQ:Nat):Option ((Int×(List Tip)×(List Tip)×(List Arc)×Bool×Nat)⊕(Grow)):=
 aI (decide ((jQ:Int)<(x1.length:Int))) (bnd (Gn_ (⟨(⟨i138,jm,eu,kP⟩:Fst),pI⟩:Grow) (⟨IntKind.i64.wrap (((nth x1 jQ bD).state)+x2),(nth x1 jQ bD).out⟩:Tip)) (λv17=>nxt (v17.f.states,v17.f.starts,v17.f.ends,v17.f.arcs,v17.over,(jQ+1)))) (fin (some (⟨(⟨i138,jm,eu,kP⟩:Fst),pI⟩:Grow)))
def F5_(x0:Grow)(x1:List Tip)(x2:Int):Option (Grow):=
 aV (λq:Int×(List Tip)×(List Tip)×(List Arc)×Bool×Nat=>YB x1 x2 q.1 q.2.1 q.2.2.1 q.2.2.2.1 q.2.2.2.2.1 q.2.2.2.2.2) (x0.f.states,x0.f.starts,x0.f.ends,x0.f.arcs,x0.over,0)
theorem I5_{σ:ak}{x0:Grow}{x1:List Tip}{x2:Int}(bU:RS σ 2 bg (.slice bW x1.length bV) x1){r:Grow}(hh:F5_ x0 x1 x2=some r):
  Con Tryz.prog 70 #[loc fM 0,.slice bW x1.length bV,.int .i64 x2] σ [ω fM #[.int .i64 x0.f.states,.slice aC x0.f.starts.length aF,.slice qA x0.f.ends.length qo,.slice qy x0.f.arcs.length qm,.bool x0.over] t_,ε 79 2 bg (.slice aC x0.f.starts.length aF) x0.f.starts,ε 79 2 bg (.slice qA x0.f.ends.length qo) x0.f.ends,ε 49 8 dG (.slice qy x0.f.arcs.length qm) x0.f.arcs] (λv σ' H'=> ∃oL oK Dt Df Dq Dc,v= .tuple #[]/\σ=σ'/\H'=[ω fM #[.int .i64 r.f.states,.slice oL r.f.starts.length oK,.slice Dt r.f.ends.length Df,.slice Dq r.f.arcs.length Dc,.bool r.over] t_,ε 79 2 bg (.slice oL r.f.starts.length oK) r.f.starts,ε 79 2 bg (.slice Dt r.f.ends.length Df) r.f.ends,ε 49 8 dG (.slice Dq r.f.arcs.length Dc) r.f.arcs]):=by
 dsimp only [F5_]at hh;have f1_0b:=bU.rv.big;refine cM 24 Tryz.func70 (λw0=> ?_);refine R7 ?_;refine TC.lp hh (aC,aF,qA,qo,qy,qm) (rgs [(7,1),(10,14)]) (λ⟨i138,jm,eu,kP,pI,jQ⟩ ⟨a141,wO,a145,c146,yF,yx⟩=>([(10,.int .i64 (jQ:Int))],[ω fM #[.int .i64 i138,.slice a141 jm.length wO,.slice a145 eu.length c146,.slice yF kP.length yx,.bool pI] t_,ε 79 2 bg (.slice a141 jm.length wO) jm,ε 79 2 bg (.slice a145 eu.length c146) eu,ε 49 8 dG (.slice yF kP.length yx) kP])) (ψ [3,3,3,3] 4) ?_;rintro ⟨i138,jm,eu,kP,pI,jQ⟩ ⟨a141,wO,a145,c146,yF,yx⟩ _ z1 hh hR1;dsimp only [YB]at hh ⊢;refine ξ 1 z (λTG=> ?_);refine ξ 2 z (λKX=> ?_);refine ξ 3 z (λKW=> ?_);refine R5 ?_;refine ι z hh (λAw hh=> ?_) (λAw hh=> ?_)
 ·refine R7 ?_;refine TL.al (λPn=> ?_);refine R11 ?_;refine φ 4 z z (φ 4 z z (φ 4 z z (φ 4 z z ?_)));obtain ⟨v17,vV,hh⟩:=bQ hh;refine κ z (OpOk.call (I9_ vV) z z pf63 z z z z ?_);rintro _ _ _ Ez ⟨a159_1,c159_2,a159_3,c159_4,a159_5,c159_6,rfl,rfl,rfl⟩;refine R5 ?_;exact nx hR1 hh (a159_1,c159_2,a159_3,c159_4,a159_5,c159_6) (ψ [3,3,3,3] 4)
 refine R1 ?_;replace hh:=bF hR1 hh;refine R1 ?_;obtain rfl:=so hh;exact ry
def YD(x1:List Arc)(x2:Int)(i138:Int)(jm:List Tip)(eu:List Tip)(kP:List Arc)(pI:Bool)(jQ:Nat):Option ((Int×(List Tip)×(List Tip)×(List Arc)×Bool×Nat)⊕(Grow)):=
 aI (decide ((jQ:Int)<(x1.length:Int))) (bnd (Gq_ (⟨(⟨i138,jm,eu,kP⟩:Fst),pI⟩:Grow) (⟨IntKind.i64.wrap (((nth x1 jQ aO).frm)+x2),IntKind.i64.wrap (((nth x1 jQ aO).to)+x2),(nth x1 jQ aO).set,(nth x1 jQ aO).out,(nth x1 jQ aO).copy⟩:Arc)) (λv25=>nxt (v25.f.states,v25.f.starts,v25.f.ends,v25.f.arcs,v25.over,(jQ+1)))) (fin (some (⟨(⟨i138,jm,eu,kP⟩:Fst),pI⟩:Grow)))
def Ga_(x0:Grow)(x1:List Arc)(x2:Int):Option (Grow):=
 aV (λq:Int×(List Tip)×(List Tip)×(List Arc)×Bool×Nat=>YD x1 x2 q.1 q.2.1 q.2.2.1 q.2.2.2.1 q.2.2.2.2.1 q.2.2.2.2.2) (x0.f.states,x0.f.starts,x0.f.ends,x0.f.arcs,x0.over,0)
theorem I4_{σ:ak}{x0:Grow}{x1:List Arc}{x2:Int}(bU:RS σ 8 dG (.slice bW x1.length bV) x1){r:Grow}(hh:Ga_ x0 x1 x2=some r):
  Con Tryz.prog 71 #[loc fM 0,.slice bW x1.length bV,.int .i64 x2] σ [ω fM #[.int .i64 x0.f.states,.slice aC x0.f.starts.length aF,.slice qA x0.f.ends.length qo,.slice qy x0.f.arcs.length qm,.bool x0.over] t_,ε 79 2 bg (.slice aC x0.f.starts.length aF) x0.f.starts,ε 79 2 bg (.slice qA x0.f.ends.length qo) x0.f.ends,ε 49 8 dG (.slice qy x0.f.arcs.length qm) x0.f.arcs] (λv σ' H'=> ∃oL oK Dt Df Dq Dc,v= .tuple #[]/\σ=σ'/\H'=[ω fM #[.int .i64 r.f.states,.slice oL r.f.starts.length oK,.slice Dt r.f.ends.length Df,.slice Dq r.f.arcs.length Dc,.bool r.over] t_,ε 79 2 bg (.slice oL r.f.starts.length oK) r.f.starts,ε 79 2 bg (.slice Dt r.f.ends.length Df) r.f.ends,ε 49 8 dG (.slice Dq r.f.arcs.length Dc) r.f.arcs]):=by
 dsimp only [Ga_]at hh;have f1_0b:=bU.rv.big;refine cM 32 Tryz.func71 (λw0=> ?_);refine R7 ?_;refine TC.lp hh (aC,aF,qA,qo,qy,qm) (rgs [(7,1),(10,22)]) (λ⟨i138,jm,eu,kP,pI,jQ⟩ ⟨a141,wO,a145,c146,yF,yx⟩=>([(10,.int .i64 (jQ:Int))],[ω fM #[.int .i64 i138,.slice a141 jm.length wO,.slice a145 eu.length c146,.slice yF kP.length yx,.bool pI] t_,ε 79 2 bg (.slice a141 jm.length wO) jm,ε 79 2 bg (.slice a145 eu.length c146) eu,ε 49 8 dG (.slice yF kP.length yx) kP])) (ψ [3,3,3,3] 4) ?_;rintro ⟨i138,jm,eu,kP,pI,jQ⟩ ⟨a141,wO,a145,c146,yF,yx⟩ _ z1 hh hR1;dsimp only [YD]at hh ⊢;refine ξ 1 z (λTG=> ?_);refine ξ 2 z (λKX=> ?_);refine ξ 3 z (λKW=> ?_);refine R5 ?_;refine ι z hh (λAw hh=> ?_) (λAw hh=> ?_)
 ·refine R7 ?_;refine TL.al (λPn=> ?_);refine X_ ?_;refine φ 4 z z (φ 4 z z (φ 4 z z (φ 4 z z ?_)));obtain ⟨v25,u25,hh⟩:=bQ hh;refine κ z (OpOk.call (I7_ u25) z z pf67 z z z z ?_);rintro _ _ _ Ez ⟨a159_1,c159_2,a159_3,c159_4,a159_5,c159_6,rfl,rfl,rfl⟩;refine R5 ?_;exact nx hR1 hh (a159_1,c159_2,a159_3,c159_4,a159_5,c159_6) (ψ [3,3,3,3] 4)
 refine R1 ?_;replace hh:=bF hR1 hh;refine R1 ?_;obtain rfl:=so hh;exact ry
def Je_(x0:Fst)(x1:Fst):Option (Bool):=
 bnd (IE x0) (λv5=>aI (decide (v5=0)) (bnd (IE x1) (λv9=>some (decide (v9=0)))) (some false))
theorem Lp_{σ:ak}{x0:Fst}{x1:Fst}(aA:RS σ 2 bg (.slice ay x0.starts.length au) x0.starts)(aG:RS σ 2 bg (.slice aC x0.ends.length aJ) x0.ends)(aH:RS σ 8 dG (.slice aK x0.arcs.length aF) x0.arcs)(bU:RS σ 2 bg (.slice bW x1.starts.length bV) x1.starts)(dO:RS σ 2 bg (.slice cu x1.ends.length dZ) x1.ends)(dK:RS σ 8 dG (.slice d_ x1.arcs.length b_) x1.arcs){r:Bool}(hh:Je_ x0 x1=some r):
  Con Tryz.prog 68 #[.agg (eP x0 ay au aC aJ aK aF),.agg (eP x1 bW bV cu dZ d_ b_)] σ [] (iU (.bool r) σ):=by
 dsimp only [Je_]at hh;refine cM 13 Tryz.func68 (λw0=> ?_);refine R2 ?_;refine TL.bx (λaS=> ?_);refine TL.bx (λbn=> ?_);refine R5 ?_;obtain ⟨v5,u5,hh⟩:=bQ hh;refine κ z (eG (Ut (x0:=x0) aA aG aH u5) z z Qn z z z ?_);refine R2 ?_;refine Γ 8 z (λbM=> ?_) (λbM=> ?_)
 ·obtain ⟨bM,hh⟩:=iT bM hh;refine TL.g z lA ?_;obtain ⟨v9,u9,hh⟩:=bQ hh;refine TL.gon z z z z z (eG (Ut (x0:=x1) bU dO dK u9) z z Qn z z z ?_);refine R4 ?_;refine TC.rt 0 ?_;obtain rfl:=so hh;exact rq [4] ⟨z,z,z⟩
 obtain ⟨bM,hh⟩:=iF bM hh;refine R6 ?_;refine TC.rt 0 ?_;obtain rfl:=so hh;exact rq [4] ⟨z,z,z⟩
def J1_(x0:Fst)(x1:Fst):Option (Fst×Int):=
 bnd (Je_ x0 x1) (λv7=>aI (!v7) (some ((⟨0,([]:List Tip),([]:List Tip),([]:List Arc)⟩:Fst),1)) (bnd (Fd_ (⟨(⟨IntKind.i64.wrap (x0.states+x1.states),([]:List Tip),([]:List Tip),([]:List Arc)⟩:Fst),false⟩:Grow) x0.starts 0) (λv30=>bnd (Fd_ (⟨(⟨v30.f.states,v30.f.starts,v30.f.ends,v30.f.arcs⟩:Fst),v30.over⟩:Grow) x1.starts x0.states) (λv36=>bnd (F5_ (⟨(⟨v36.f.states,v36.f.starts,v36.f.ends,v36.f.arcs⟩:Fst),v36.over⟩:Grow) x0.ends 0) (λv40=>bnd (F5_ (⟨(⟨v40.f.states,v40.f.starts,v40.f.ends,v40.f.arcs⟩:Fst),v40.over⟩:Grow) x1.ends x0.states) (λv46=>bnd (Ga_ (⟨(⟨v46.f.states,v46.f.starts,v46.f.ends,v46.f.arcs⟩:Fst),v46.over⟩:Grow) x0.arcs 0) (λv50=>bnd (Ga_ (⟨(⟨v50.f.states,v50.f.starts,v50.f.ends,v50.f.arcs⟩:Fst),v50.over⟩:Grow) x1.arcs x0.states) (λv56=>bnd (PX (⟨(⟨v56.f.states,v56.f.starts,v56.f.ends,v56.f.arcs⟩:Fst),v56.over⟩:Grow)) (λv57=>some ((⟨v57.1.states,v57.1.starts,v57.1.ends,v57.1.arcs⟩:Fst),v57.2))))))))))
theorem L1_{σ:ak}{x0:Fst}{x1:Fst}(aA:RS σ 2 bg (.slice ay x0.starts.length au) x0.starts)(aG:RS σ 2 bg (.slice aC x0.ends.length aJ) x0.ends)(aH:RS σ 8 dG (.slice aK x0.arcs.length aF) x0.arcs)(bU:RS σ 2 bg (.slice bW x1.starts.length bV) x1.starts)(dO:RS σ 2 bg (.slice cu x1.ends.length dZ) x1.ends)(dK:RS σ 8 dG (.slice d_ x1.arcs.length b_) x1.arcs){r:Fst×Int}(hh:J1_ x0 x1=some r):
  Con Tryz.prog 24 #[.agg (eP x0 ay au aC aJ aK aF),.agg (eP x1 bW bV cu dZ d_ b_)] σ [] (MK σ r):=by
 dsimp only [J1_]at hh;refine Con.mkD (n:=54) Tryz.func24 z z z (λw0=> ?_);refine TB.seq ZK (υ (TL.bx (λaS=> ?_)));refine TL.bx (λbn=> ?_);refine TL.al (λfK=> ?_);refine TL.al (λo8=> ?_);refine R1 ?_;refine TB.seq ZK (R4 ?_);obtain ⟨v7,u7,hh⟩:=bQ hh;refine κ z (eG (Lp_ (x0:=x0) (x1:=x1) aA aG aH bU dO dK u7) z z pf68 z z z ?_);refine R2 ?_;refine TC.cB z hh (λrW hh=> ?_) (λrW hh=> ?_)
 ·refine R3 ?_;refine φ 1 z z (κ z (storeAll z Vq z z z z z z ?_));refine φ 1 z z (R2 ?_);refine TC.iH (ψ [1] 2) (θ ?_);obtain rfl:=so hh;exact rz
 refine R1 ?_;refine TB.seq ZK (R2 ?_);refine TL.bx (λb110=> ?_);refine R2 ?_;refine TB.seqD (TLB.v z mL z z (TLB.dfr (dargs:=[loc b110 0,loc fK 0,loc o8 0]) z z z z z (λa_ w_ hw_ ha_=> ?_)));refine TB.fin (Q:=dfrQ _ _ _ _ 61 [loc b110 0,loc fK 0,loc o8 0]) (ul_ (cap:=[]) (dargs:=[loc b110 0,loc fK 0,loc o8 0]) pf61) ?_ w_ a_ hw_ ha_;clear hw_ ha_ a_ w_;refine R18 ?_;refine TL.nilS 79 2 bg (TL.nilS 79 2 bg (TL.nilS 49 8 dG (φ 1 z z (φ 2 z z (φ 3 z z ?_)))));obtain ⟨v30,u30,hh⟩:=bQ hh;refine κ z (OpOk.call (In_ aA u30) z z pf69 z z z z ?_);rintro _ _ _ kC ⟨a115_1,c115_2,a115_3,c115_4,a115_5,c115_6,rfl,rfl,rfl⟩;refine R8 ?_;refine φ 3 z z (φ 3 z z (φ 3 z z (φ 3 z z ?_)));obtain ⟨v36,u36,hh⟩:=bQ hh;refine κ z (OpOk.call (In_ bU u36) z z pf69 z z z z ?_);rintro _ _ _ dJ ⟨a119_1,c119_2,a119_3,c119_4,a119_5,c119_6,rfl,rfl,rfl⟩;refine R6 ?_;refine φ 3 z z (φ 3 z z (φ 3 z z (φ 3 z z ?_)));obtain ⟨v40,u40,hh⟩:=bQ hh;refine κ z (OpOk.call (I5_ aG u40) z z pf70 z z z z ?_);rintro _ _ _ qg ⟨a123_1,c123_2,a123_3,c123_4,a123_5,c123_6,rfl,rfl,rfl⟩;refine R8 ?_;refine φ 3 z z (φ 3 z z (φ 3 z z (φ 3 z z ?_)));obtain ⟨v46,u46,hh⟩:=bQ hh;refine κ z (OpOk.call (I5_ dO u46) z z pf70 z z z z ?_);rintro _ _ _ oC ⟨a127_1,c127_2,a127_3,c127_4,a127_5,c127_6,rfl,rfl,rfl⟩;refine R6 ?_;refine φ 3 z z (φ 3 z z (φ 3 z z (φ 3 z z ?_)));obtain ⟨v50,u50,hh⟩:=bQ hh;refine κ z (OpOk.call (I4_ aH u50) z z pf71 z z z z ?_);rintro _ _ _ hle131 ⟨a131_1,c131_2,a131_3,c131_4,a131_5,c131_6,rfl,rfl,rfl⟩;refine R8 ?_;refine φ 3 z z (φ 3 z z (φ 3 z z (φ 3 z z ?_)));obtain ⟨v56,u56,hh⟩:=bQ hh;refine κ z (OpOk.call (I4_ dK u56) z z pf71 z z z z ?_);rintro _ _ _ hle135 ⟨a135_1,c135_2,a135_3,c135_4,a135_5,c135_6,rfl,rfl,rfl⟩;refine R1 ?_;refine TC.front 4 z z (TC.front 5 z z (TC.front 5 z z (TC.front 5 z z (TC.front 5 z z (TC.front 5 z z ?_)))));obtain ⟨v57,NM,hh⟩:=bQ hh;refine θ (⟨.inl z,_,ζ 6 z,(Gm_ NM).mono ?_⟩);rintro _ τ139 _ WG ⟨a139_1,c139_2,a139_4,c139_5,a139_7,c139_8,rfl,f139_3,f139_6,f139_9,rfl⟩;obtain rfl:=so hh;exact rz
end Go.Proofs.YtcfgkcfcddfccaaGreatDoor
end

noncomputable section
namespace Go.Proofs.YtcfgkcfcddfccaaGreatDoor
open Go Go.E
section
variable {α:Type} [DecidableEq α] (d:α)
def ddN(l:List α):Nat->List α
  |0=>[]
  |n+1=>ddN l n++(if n=0\/nth l n d≠nth l (n - 1) d then [nth l n d] else [])
theorem s6_(l:List α): ∀n,n<=l.length-> ∀x,x∈ddN d l n↔x∈l.take n
  |0,_,x=>by simp [ddN]
  | n + 1, h, x => by
    rw [ddN,jS l (by omega) d,List.mem_append,List.mem_append,s6_ l n (by omega)]
    by_cases hc:n=0\/nth l n d≠nth l (n - 1) d
    · rw [if_pos hc]
    rw [if_neg hc];simp only [not_or,ne_eq,Decidable.not_not]at hc;have:nth l n d∈l.take n:=by
      rw [hc.2];have h1:(l.take n)[n - 1]? =some (nth l (n - 1) d):=by rw [List.getElem?_take,if_pos (by omega)];exact getD_some l (by omega) d
      exact List.mem_of_getElem? h1
    constructor
    · rintro (h|h)
      · exact .inl h
      cases h
    rintro (h|h)
    · exact .inl h
    rw [List.mem_singleton.1 h];exact .inl this
theorem vx_{l:List α}{k i:Nat}{v:α}(h:i≠k):nth (l.set k v) i d=nth l i d:=by
  simp [nth,List.getD,List.getElem?_set,Ne.symm h]
include d in
theorem p8_{l:List α}{k:Nat}{v:α}(h:k<l.length):(l.set k v).take (k+1)=l.take k++[v]:=by
  rw [jS (l.set k v) (by simpa using h) d];congr 1
  · rw [List.take_set_of_le (Nat.le_refl _)]
  simp [nth,List.getD,h]
def gC_j(bP:Nat)(yX:List α)(jK:Nat):Option ((List α×Nat×Nat)⊕(Nat⊕List α)):=
  nxt (yX,jK,(bP+1))
def y2_(x0:List α)(aZ:Nat)(bG:List α)(aU:Nat)(bP:Nat):Option ((List α×Nat×Nat)⊕(Nat⊕List α)):=
  aI (decide (((bP:Nat):Int)<(((x0.length - aZ):Nat):Int))) (grd (bP<(x0.length - aZ)) (grd (0<=(IntKind.i64.wrap (((bP:Nat):Int) - 1))/\(IntKind.i64.wrap (((bP:Nat):Int) - 1))<((x0.length - aZ):Nat)) (aI (decide (¬ ((nth bG (aZ+bP) d)=(nth bG (aZ+(IntKind.i64.wrap (((bP:Nat):Int) - 1)).toNat) d)))) (grd (bP<(x0.length - aZ)) (grd (aU<bG.length) (gC_j bP (bG.set aU (nth bG (aZ+bP) d)) (aU+1)))) (gC_j bP bG aU)))) (fin (grd (aU<=x0.length) (grd (aU<=(bG.take aU++List.replicate (bG.length - aU) d).length) (fin (some ((bG.take aU++List.replicate (bG.length - aU) d).take aU))))))
def gC_b1(x0:List α)(aZ:Nat):Option ((Nat)⊕(List α)):=
  aI (decide (((aZ:Nat):Int)<((x0.length:Nat):Int))) (grd (0<=(IntKind.i64.wrap (((aZ:Nat):Int) - 1))/\(IntKind.i64.wrap (((aZ:Nat):Int) - 1))<(x0.length:Int)) (aI (decide ((nth x0 aZ d)=(nth x0 ((IntKind.i64.wrap (((aZ:Nat):Int) - 1)).toNat) d))) (grd (aZ<=x0.length) (aV (λq:(List α)×Nat×Nat=>y2_ d x0 aZ q.1 q.2.1 q.2.2) (x0,aZ,1))) (nxt (aZ+1)))) (fin (some x0))
def gC(x0:List α):Option (List α):=
  aI (decide (((x0.length:Nat):Int)<2)) (some x0) (aV (λq:Nat=>gC_b1 d x0 q) 1)
theorem rf_{k:Nat}(h1:1<=k)(h2:k<=281474976710656):IntKind.i64.wrap ((k:Int) - 1)=((k - 1:Nat):Int):=by
  rw [tJ (by omega) (by omega)];omega
theorem gC_in {l : List α} (hl : l.length <= 281474976710656) {k0 : Nat} (h0 : 1 <= k0) (hk : k0 < l.length) (he : nth l k0 d = nth l (k0 - 1) d) (hd : ddN d l k0 = l.take k0) :
    aV (λq:(List α)×Nat×Nat=>y2_ d l k0 q.1 q.2.1 q.2.2) (l,k0,1)=some (.inr (ddN d l l.length)):=by
  refine Exists.elim (Ho (step:=λq:(List α)×Nat×Nat=>y2_ d l k0 q.1 q.2.1 q.2.2)
    (λq=>1<=q.2.2/\k0+q.2.2<=l.length/\q.1.length=l.length/\q.2.1<=k0+q.2.2 - 1/\(∀i,k0+q.2.2 - 1<=i->nth q.1 i d=nth l i d)/\q.1.take q.2.1=ddN d l (k0+q.2.2))
    (λr=>r= .inr (ddN d l l.length)) (λq=>l.length - q.2.2) ?_ (l,k0,1) ⟨Nat.le_refl _,hk,rfl,by simp only;omega,λ_ _=>rfl,?_⟩) (λr hr=>by rw [hr.1,hr.2])
  · rintro ⟨l2,k,j⟩ ⟨hj,hjl,hlen,hkj,hI,ht⟩
    simp only at hj hjl hlen hkj hI ht;have hw:IntKind.i64.wrap ((j:Int) - 1)=((j - 1:Nat):Int):=rf_ hj (by omega)
    by_cases hlt:k0+j<l.length
    · left
      have e1:=hI (k0+j) (by omega);have e2:=hI (k0+(j - 1)) (by omega);simp only [y2_,hw,iI,decide_eq_true (show ((j:Nat):Int)<((l.length - k0:Nat):Int) by omega),iteO_true,
        aQ (show j<l.length - k0 by omega),aQ (show (0:Int)<=((j - 1:Nat):Int)/\((j - 1:Nat):Int)<((l.length - k0:Nat):Int) by omega),e1,e2]
      have e3:k0+(j - 1)=k0+j - 1:=by omega
      by_cases hc:nth l (k0+j) d=nth l (k0+(j - 1)) d
      · simp only [hc,not_true_eq_false,decide_false,iteO_false,gC_j]
        refine ⟨_,rfl,⟨by simp only;omega,by simp only;omega,hlen,by simp only;omega,λi hi=>hI i (by simp only at hi;omega),?_⟩,by simp only;omega⟩;simp only;rw [ht,<-Nat.add_assoc,ddN,if_neg,List.append_nil];rw [hc,e3];simp;omega
      simp only [hc,not_false_eq_true,decide_true,iteO_true,aQ (show k<l2.length by omega),gC_j];refine ⟨_,rfl,⟨by simp only;omega,by simp only;omega,by simp only [eX];exact hlen,by simp only;omega,λi hi=> ?_,?_⟩,by simp only;omega⟩
      · simp only at hi ⊢
        rw [vx_ d (by omega)];exact hI i (by omega)
      simp only;rw [p8_ d (by omega),ht,<-Nat.add_assoc,ddN,if_pos];rw [e3]at hc;exact .inr hc
    right;have hjl':k0+j=l.length:=by omega
    have hkl:(l2.take k).length=k:=by rw [List.length_take];omega
    refine ⟨.inr (ddN d l l.length),?_,rfl⟩;simp only [y2_,decide_eq_false (show ¬ ((j:Nat):Int)<((l.length - k0:Nat):Int) by omega),iteO_false,aQ (show k<=l.length by omega)];rw [aQ (by rw [gu,hkl];omega),List.take_append_of_le_length (by omega),List.take_of_length_le (by omega),ht,hjl'];rfl
  simp only;rw [ddN,if_neg (by rw [he];simp;omega),List.append_nil,hd]
theorem zt_ {l : List α} (hl : l.length <= 281474976710656) : gC d l = some (ddN d l l.length) := by
  unfold gC
  by_cases h2:l.length<2
  · rw [decide_eq_true (by omega),iteO_true]
    match l,h2 with
    |[],_=>rfl
    |[x],_=>rfl
  rw [decide_eq_false (by omega),iteO_false];refine Exists.elim (Ho (step:=λq:Nat=>gC_b1 d l q) (λk=>1<=k/\k<=l.length/\ddN d l k=l.take k) (λr=>r=ddN d l l.length) (λk=>l.length - k) ?_ 1 ⟨Nat.le_refl _,by omega,?_⟩) (λr hr=>by rw [hr.1,hr.2])
  · rintro k ⟨h1,hk,hd⟩
    by_cases hlt:k<l.length
    · simp only [gC_b1,rf_ h1 (show k<=281474976710656 by omega),iI,decide_eq_true (show ((k:Nat):Int)<((l.length:Nat):Int) by omega),iteO_true,
        aQ (show (0:Int)<=((k - 1:Nat):Int)/\((k - 1:Nat):Int)<(l.length:Int) by omega)]
      by_cases hc:nth l k d=nth l (k - 1) d
      · right
        simp only [hc,decide_true,iteO_true,aQ hk];exact ⟨_,gC_in d hl h1 hlt hc hd,rfl⟩
      left;simp only [hc,decide_false,iteO_false];refine ⟨k+1,rfl,⟨by omega,by omega,?_⟩,by omega⟩;rw [ddN,if_pos (.inr hc),hd,jS l hlt d]
    right;have:k=l.length:=by omega
    refine ⟨l,?_,?_⟩
    · simp only [gC_b1,decide_eq_false (show ¬ ((k:Nat):Int)<((l.length:Nat):Int) by omega),iteO_false];rfl
    rw [<-this,hd,List.take_of_length_le (by omega)]
  rw [ddN,if_pos (.inl rfl),jS l (by omega) d];simp [ddN]
end
def rX{α:Type}[DecidableEq α](d:α)(cf:α->α->Int)(l:List α):List α:=ddN d (uh cf l) l.length
section
variable {α:Type} [DecidableEq α] {d:α} {cf:α->α->Int}
theorem Nl(l:List α):(uh cf l).length=l.length:=List.length_mergeSort _
theorem ZO{l:List α}{x:α}:x∈rX d cf l↔x∈l:=by
  have h:=Nl (cf:=cf) l;rw [rX,s6_ d _ _ (by omega),List.take_of_length_le (by omega),uh,List.mem_mergeSort]
theorem GoodCmp.le_trans(hc:GoodCmp cf){x y z:α}(h1: ¬ cf y x<0)(h2: ¬ cf z y<0): ¬ cf z x<0:=λh3=>by
  by_cases e:x=y
  · subst e;exact h2 h3
  by_cases e':y=z
  · subst e';exact h1 h3
  have a:=hc.anti y x;have b:=hc.anti z y;have a':=hc.eq y x;have b':=hc.eq z y;have h4:cf y z<0:=by
    rw [hc.anti];have:cf z y≠0:=λh=>e' ((b'.1 h).symm);omega
  exact h1 (hc.trans _ _ _ h4 h3)
theorem Lw_(hc:GoodCmp cf)(l:List α):(uh cf l).Pairwise λx y=> ¬ cf y x<0:=by
  have:=List.pairwise_mergeSort (le:=λx y=> !decide (cf y x<0)) (λa b c h1 h2=>by
    simp only [Bool.not_eq_true',decide_eq_false_iff_not]at *;exact hc.le_trans h1 h2) (λa b=>by
    have:=hc.anti a b;simp only [Bool.or_eq_true,Bool.not_eq_true',decide_eq_false_iff_not];omega) l
  exact this.imp λh=>by simpa using h
theorem g1_ (hc : GoodCmp cf) (l : List α) : (rX d cf l).Pairwise λx y => cf x y < 0 := by
  have hs:=Lw_ hc l;have hlen:=Nl (cf:=cf) l;unfold rX;generalize uh cf l=s at hs hlen;have key: ∀n,n<=s.length->(ddN d s n).Pairwise λx y=>cf x y<0:=by
    intro n
    induction n with
    |zero=>intro _;exact List.Pairwise.nil
    |succ n ih=>
      intro h;rw [ddN]
      split
      · rename_i hn
        rw [List.pairwise_append];refine ⟨ih (by omega),List.pairwise_singleton ..,λx hx y hy=> ?_⟩;rw [List.mem_singleton.1 hy];rw [s6_ d s n (by omega)]at hx;have hn0:n≠0:=λe=>by subst e;simp at hx
        have hne:nth s n d≠nth s (n - 1) d:=by rcases hn with h|h;exact absurd h hn0;exact h
        obtain ⟨i,hi,hxi⟩:=List.mem_iff_getElem.1 hx;have hi':i<n:=by simp at hi;omega
        have hxi:s[i]'(by omega)=x:=by rw [<-hxi,List.getElem_take]
        have hp:=List.pairwise_iff_getElem.1 hs;have eN: ∀{k:Nat} (hk:k<s.length),nth s k d=s[k]:=λhk=>by simp [nth,List.getD,hk]
        rw [eN (by omega),eN (by omega)]at hne;rw [eN (by omega)];have h1:cf (s[n - 1]'(by omega)) (s[n]'(by omega))<0:=by
          have:=hp (n - 1) n (by omega) (by omega) (by omega);have a:=hc.anti (s[n - 1]'(by omega)) (s[n]'(by omega));have b:=hc.eq (s[n]'(by omega)) (s[n - 1]'(by omega));have:cf (s[n]'(by omega)) (s[n - 1]'(by omega))≠0:=λh=>hne (b.1 h);omega
        by_cases hin:i=n - 1
        · subst hin;rw [<-hxi];exact h1
        have h2:=hp i (n - 1) (by omega) (by omega) (by omega);rw [hxi]at h2
        by_cases e:x=s[n - 1]'(by omega)
        · rw [e];exact h1
        refine hc.trans _ _ _ ?_ h1;have a:=hc.anti x (s[n - 1]'(by omega));have b:=hc.eq (s[n - 1]'(by omega)) x;have:cf (s[n - 1]'(by omega)) x≠0:=λh=>e (b.1 h).symm;omega
      rw [List.append_nil];exact ih (by omega)
  exact key _ (by omega)
theorem ph_{R:α->α->Prop}(hi: ∀x, ¬ R x x)(ht: ∀x y z,R x y->R y z->R x z): ∀{l m:List α},l.Pairwise R->m.Pairwise R->(∀x,x∈l↔x∈m)->l=m
  |[],[],_,_,_=>rfl
  |[],y::m,_,_,h=>by have:=(h y).2 (iZ ..);cases this
  |x::l,[],_,_,h=>by have:=(h x).1 (iZ ..);cases this
  | x :: l, y :: m, hl, hm, h => by
    rw [List.pairwise_cons]at hl hm;have e:x=y:=by
      have h1:=(h x).1 (iZ ..);have h2:=(h y).2 (iZ ..);rw [List.mem_cons]at h1 h2;rcases h1 with h1|h1
      · exact h1
      rcases h2 with h2|h2
      · exact h2.symm
      exact absurd (ht _ _ _ (hm.1 x h1) (hl.1 y h2)) (hi y)
    subst e;rw [ph_ hi ht hl.2 hm.2 λz=> ?_];have:=h z;simp only [List.mem_cons]at this;constructor
    · intro hz
      rcases this.1 (.inr hz)with e|h'
      · subst e;exact absurd (hl.1 z hz) (hi z)
      exact h'
    intro hz;rcases this.2 (.inr hz)with e|h'
    · subst e;exact absurd (hm.1 z hz) (hi z)
    exact h'
theorem GoodCmp.irr(hc:GoodCmp cf)(x:α): ¬ cf x x<0:=by have:=(hc.eq x x).2 rfl;omega
theorem rj_(hc:GoodCmp cf){l m:List α}(hl:l.Pairwise λx y=>cf x y<0)(hm:m.Pairwise λx y=>cf x y<0)(h: ∀x,x∈l↔x∈m):l=m:=
  ph_ (R:=λx y=>cf x y<0) hc.irr hc.trans hl hm h
theorem I8_(hc:GoodCmp cf){l:List α}(h:l.Pairwise λx y=>cf x y<0):rX d cf l=l:=rj_ hc (g1_ hc l) h λx=>ZO
theorem Lh_(l:List α):(rX d cf l).length<=l.length:=by
  have h: ∀(s:List α) n,(ddN d s n).length<=n:=λs n=>by
    induction n with
    |zero=>exact Nat.le_refl _
    |succ n ih=>rw [ddN,gu];split<;>simp<;>omega
  exact h _ _
end
theorem L3_:ZH=gC (0:Int):=rfl
theorem L7_:ne_=gC bD:=rfl
theorem L4_:ni_=gC aO:=rfl
theorem Mj_{l:aj}(h:l.length * 8<=140737488355328):yf_ l=some (rX 0 mO l):=by
  rw [yf_,aQ h,L3_,zt_ 0 (by rw [Nl];omega),Nl];rfl
theorem Lx_{l:List Tip}(h:l.length * 24<=140737488355328):Zm l=some (rX bD G_ l):=by
  rw [Zm,aQ h,L7_,zt_ bD (by rw [Nl];omega),Nl];rfl
theorem Mi_{l:List Arc}(h:l.length * 72<=140737488355328):wv_ l=some (rX aO He l):=by
  rw [wv_,aQ h,L4_,zt_ aO (by rw [Nl];omega),Nl];rfl
def Ii(n:Int)(p:Tip):Bool:=decide (0<=p.state) && decide (p.state<n) && decide ((p.out.length:Int)<=1024)
def A_(l:List Tip)(n:Int):Bool:=decide ((l.length:Int)<=1024) && l.all (Ii n)
def Ie(n:Int)(a:Arc):Bool:=decide (0<=a.frm) && decide (a.frm<n) && decide (0<=a.to) && decide (a.to<n) && decide (a.set≠BSet.zero) && decide ((a.out.length:Int)<=1024)
def nR(t:Fst):Bool:=decide (0<=t.states) && decide (t.states<=1024) && decide ((t.arcs.length:Int)<=16384) && A_ t.starts t.states && A_ t.ends t.states && t.arcs.all (Ie t.states)
theorem Ih_(s n:Int):Yc s n=some (decide (0<=s) && decide (s<n)):=by
  unfold Yc
  by_cases h:0<=s<;>simp [h]
theorem mt_ (l : List Tip) (n : Int) : Gb_ l n = some (A_ l n) := by
  unfold Gb_ A_
  by_cases h:(l.length:Int)<=1024
  · rw [decide_eq_false (by omega),iteO_false,ng_ (y:=true) (no:=false) l bD (Ii n)]
    · rw [decide_eq_true h,Bool.true_and];cases l.all (Ii n)<;>rfl
    · intro k hk hp
      simp only [Ii,Bool.and_eq_true,dA]at hp;simp only [F1_,qJ hk,iteO_true,Ih_,bnd,Option.bind_some,hp.1.1,hp.1.2,decide_true,Bool.and_self,Bool.not_true,iteO_false,decide_eq_false (show ¬ (1024:Int)<((nth l k bD).out.length:Int) by omega)];rfl
    · intro k hk hp
      simp only [F1_,qJ hk,iteO_true,Ih_,bnd,Option.bind_some]
      by_cases hc:(decide (0<=(nth l k bD).state) && decide ((nth l k bD).state<n))=true
      · rw [hc]
        simp only [Ii,hc,Bool.true_and,decide_eq_false_iff_not]at hp;simp only [Bool.not_true,iteO_false,decide_eq_true (show (1024:Int)<((nth l k bD).out.length:Int) by omega),iteO_true];rfl
      simp only [Bool.not_eq_true]at hc;rw [hc];rfl
    simp only [F1_,Int.lt_irrefl,decide_false,iteO_false];rfl
  rw [decide_eq_true (by omega),iteO_true];simp [h]
theorem Un(t:Fst):IE t=some (A8 (nR t)):=by
  unfold IE
  by_cases h1:t.states<0
  · rw [decide_eq_true h1,iteO_true];simp [nR,A8,show ¬ 0<=t.states by omega]
  rw [decide_eq_false h1,iteO_false]
  by_cases h2:1024<t.states
  · rw [decide_eq_true h2,iteO_true];simp [nR,A8,show ¬ t.states<=1024 by omega]
  rw [decide_eq_false h2,iteO_false]
  by_cases h3:(16384:Int)<(t.arcs.length:Int)
  · rw [decide_eq_true h3,iteO_true];simp only [nR,decide_eq_false (show ¬ (t.arcs.length:Int)<=16384 by omega),Bool.and_false,Bool.false_and];rfl
  rw [decide_eq_false h3,iteO_false,mt_,bnd,Option.bind_some];have e0:nR t=(A_ t.starts t.states && A_ t.ends t.states && t.arcs.all (Ie t.states)):=by
    simp only [nR,decide_eq_true (show 0<=t.states by omega),decide_eq_true (show t.states<=1024 by omega),decide_eq_true (show (t.arcs.length:Int)<=16384 by omega),Bool.true_and]
  rw [e0];cases h4:A_ t.starts t.states
  · rfl
  simp only [Bool.not_true,iteO_false,mt_,bnd,Option.bind_some];cases h5:A_ t.ends t.states
  · rfl
  simp only [Bool.not_true,iteO_false,Bool.and_self,Bool.true_and];rw [ng_ (y:=0) (no:=1) t.arcs aO (Ie t.states)]
  · rfl
  · intro k hk hp
    simp only [Ie,Bool.and_eq_true,dA]at hp;obtain ⟨⟨⟨⟨⟨p1,p2⟩,p3⟩,p4⟩,p5⟩,p6⟩:=hp;simp only [Hi_,qJ hk,iteO_true,Ih_,bnd,Option.bind_some,p1,p2,p3,p4,p5,decide_true,decide_false,Bool.and_self,Bool.not_true,iteO_false,decide_eq_false (show ¬ (1024:Int)<((nth t.arcs k aO).out.length:Int) by omega)];rfl
  · intro k hk hp
    simp only [Hi_,qJ hk,iteO_true,Ih_,bnd,Option.bind_some];cases hc:(decide (0<=(nth t.arcs k aO).frm) && decide ((nth t.arcs k aO).frm<t.states))
    · rfl
    cases hd:(decide (0<=(nth t.arcs k aO).to) && decide ((nth t.arcs k aO).to<t.states))
    · rfl
    simp only [Bool.not_true,iteO_false]
    by_cases he:(nth t.arcs k aO).set=BSet.zero
    · rw [decide_eq_true he];rfl
    rw [decide_eq_false he,iteO_false];have hd':(decide (0<=(nth t.arcs k aO).frm) && decide ((nth t.arcs k aO).frm<t.states) && decide (0<=(nth t.arcs k aO).to) && decide ((nth t.arcs k aO).to<t.states))=true:=by rw [Bool.and_assoc,hc,hd];rfl
    simp only [Ie,hd',Bool.true_and,ne_eq,he,not_false_eq_true,decide_true,decide_eq_false_iff_not]at hp;rw [decide_eq_true (by omega)];rfl
  simp only [Hi_,Int.lt_irrefl,decide_false,iteO_false];rfl
theorem ZF{b:Bool}:decide (A8 b≠0)= !b:=by cases b<;>rfl
theorem tipB_ok{n:Int}{p:Tip}(h:Ii n p=true):(0<=p.state/\p.state<n)/\p.out.length<=1024:=by
  simp only [Ii,Bool.and_eq_true,dA]at h;exact ⟨h.1,by omega⟩
theorem na_{n:Int}{l:List Tip}(h:A_ l n=true):l.length<=1024/\ ∀p∈l,(0<=p.state/\p.state<n)/\p.out.length<=1024:=by
  simp only [A_,Bool.and_eq_true,dA,List.all_eq_true]at h;exact ⟨by omega,λp hp=>tipB_ok (h.2 p hp)⟩
theorem x7_{n:Int}{a:Arc}(h:Ie n a=true):(0<=a.frm/\a.frm<n)/\(0<=a.to/\a.to<n)/\a.set≠BSet.zero/\a.out.length<=1024:=by
  simp only [Ie,Bool.and_eq_true,dA]at h;obtain ⟨⟨⟨⟨⟨p1,p2⟩,p3⟩,p4⟩,p5⟩,p6⟩:=h;exact ⟨⟨p1,p2⟩,⟨p3,p4⟩,p5,by omega⟩
structure FstOk (t:Fst):Prop where
  st0:0<=t.states
  st1:t.states<=1024
  arcsN:t.arcs.length<=16384
  startsN:t.starts.length<=1024
  endsN:t.ends.length<=1024
  starts: ∀p∈t.starts,(0<=p.state/\p.state<t.states)/\p.out.length<=1024
  ends: ∀p∈t.ends,(0<=p.state/\p.state<t.states)/\p.out.length<=1024
  arcs: ∀a∈t.arcs,(0<=a.frm/\a.frm<t.states)/\(0<=a.to/\a.to<t.states)/\a.set≠BSet.zero/\a.out.length<=1024
theorem yQ(t:Fst):nR t=true↔FstOk t:=by
  constructor
  · intro h
    simp only [nR,Bool.and_eq_true,dA,List.all_eq_true]at h;obtain ⟨⟨⟨⟨⟨h1,h2⟩,h3⟩,h4⟩,h5⟩,h6⟩:=h;exact ⟨h1,h2,by omega,(na_ h4).1,(na_ h5).1,(na_ h4).2,(na_ h5).2,λa ha=>x7_ (h6 a ha)⟩
  rintro ⟨h1,h2,h3,h4,h5,h6,h7,h8⟩;have hT: ∀l:List Tip,l.length<=1024->(∀p∈l,(0<=p.state/\p.state<t.states)/\p.out.length<=1024)->A_ l t.states=true:=λl hl hp=>by
    simp only [A_,Bool.and_eq_true,dA,List.all_eq_true];refine ⟨by omega,λp hq=> ?_⟩;have:=hp p hq;simp only [Ii,Bool.and_eq_true,dA];omega
  simp only [nR,Bool.and_eq_true,dA,List.all_eq_true];refine ⟨⟨⟨⟨⟨h1,h2⟩,by omega⟩,hT _ h4 h6⟩,hT _ h5 h7⟩,λa ha=> ?_⟩;obtain ⟨p1,p2,p3,p4⟩:=h8 a ha;simp only [Ie,Bool.and_eq_true,dA];exact ⟨⟨⟨⟨p1,p2.1⟩,p2.2⟩,p3⟩,by omega⟩
def endsN(d:Dfa)(m:Nat):aj:=(List.range m).flatMap λs=>if nth d.fin s false=true then [((s:Nat):Int)] else []
def Zu(g:Grow)(x:Tip):Grow:=if g.over=true\/1024<=g.f.starts.length\/1024<x.out.length then ⟨g.f,true⟩ else ⟨⟨g.f.states,g.f.starts++[x],g.f.ends,g.f.arcs⟩,false⟩
def Zv(g:Grow)(x:Tip):Grow:=if g.over=true\/1024<=g.f.ends.length\/1024<x.out.length then ⟨g.f,true⟩ else ⟨⟨g.f.states,g.f.starts,g.f.ends++[x],g.f.arcs⟩,false⟩
def Zx(g:Grow)(x:Arc):Grow:=if g.over=true\/16384<=g.f.arcs.length\/1024<x.out.length then ⟨g.f,true⟩ else ⟨⟨g.f.states,g.f.starts,g.f.ends,g.f.arcs++[x]⟩,false⟩
def Vl(g:Grow):Fst×Int:=if g.over=true\/1024<g.f.states then (⟨0,[],[],[]⟩,2) else (g.f,0)
theorem uq_(g:Grow)(x:Tip):Fy_ g x=some (Zu g x):=by
  unfold Fy_ Zu;obtain ⟨⟨n,S,E,A⟩,o⟩:=g;cases o with
  |true=>rw [if_pos (.inl rfl)];rfl
  |false=>
    dsimp only;rw [iteO_false]
    by_cases h1:1024<=S.length
    · rw [bY (by omega),if_pos (.inr (.inl h1))]
    rw [bK (by omega)]
    by_cases h2:1024<x.out.length
    · rw [bY (by omega),if_pos (.inr (.inr h2))]
    rw [bK (by omega),aQ (by simp only [dN];omega),if_neg (by simp;omega)]
theorem end_eq(g:Grow)(x:Tip):Gn_ g x=some (Zv g x):=by
  unfold Gn_ Zv;obtain ⟨⟨n,S,E,A⟩,o⟩:=g;cases o with
  |true=>rw [if_pos (.inl rfl)];rfl
  |false=>
    dsimp only;rw [iteO_false]
    by_cases h1:1024<=E.length
    · rw [bY (by omega),if_pos (.inr (.inl h1))]
    rw [bK (by omega)]
    by_cases h2:1024<x.out.length
    · rw [bY (by omega),if_pos (.inr (.inr h2))]
    rw [bK (by omega),aQ (by simp only [dN];omega),if_neg (by simp;omega)]
theorem arc_eq(g:Grow)(x:Arc):Gq_ g x=some (Zx g x):=by
  unfold Gq_ Zx;obtain ⟨⟨n,S,E,A⟩,o⟩:=g;cases o with
  |true=>rw [if_pos (.inl rfl)];rfl
  |false=>
    dsimp only;rw [iteO_false]
    by_cases h1:16384<=A.length
    · rw [bY (by omega),if_pos (.inr (.inl h1))]
    rw [bK (by omega)]
    by_cases h2:1024<x.out.length
    · rw [bY (by omega),if_pos (.inr (.inr h2))]
    rw [bK (by omega),aQ (by simp only [dN];omega),if_neg (by simp;omega)]
theorem qw_(g:Grow):PX g=some (Vl g):=by
  unfold PX Vl;obtain ⟨⟨n,S,E,A⟩,o⟩:=g;cases o with
  |true=>rw [if_pos (.inl rfl)];rfl
  |false=>
    dsimp only;rw [iteO_false]
    by_cases h:1024<n
    · rw [bY h,if_pos (.inr h)]
    rw [bK h,if_neg (by simp;omega)]
structure RowOk (d:Dfa) (m s b:Nat):Prop where
  cl:b<d.cls.length
  c0:0<=nth d.cls b (0:Int)
  c1:nth d.cls b (0:Int)<((m:Nat):Int)
  n0:0<=nth (nth d.next s ([]:aj)) (nth d.cls b (0:Int)).toNat (0:Int)
  n1:nth (nth d.next s ([]:aj)) (nth d.cls b (0:Int)).toNat (0:Int)<((d.next.length:Nat):Int)
theorem Hu{d:Dfa}(h:jU d=true): ∃m,fH d.cls=some m/\d.cls.length=256/\1<=d.next.length/\d.next.length<=1024/\d.fin.length=d.next.length/\(∀s,s<d.next.length->(nth d.next s ([]:aj)).length=m/\ ∀c,c<m->0<=nth (nth d.next s ([]:aj)) c (0:Int)/\nth (nth d.next s ([]:aj)) c (0:Int)<((d.next.length:Nat):Int)):=by
  simp only [jU,Bool.and_eq_true,dA]at h;obtain ⟨⟨⟨h1,h2⟩,h3⟩,h4⟩:=h;cases hm:fH d.cls with
  |none=>rw [hm]at h2;cases h2
  |some m=>
    rw [hm]at h2;refine ⟨m,rfl,h1,h3.1,h3.2,h4,λs hs=> ?_⟩;have hrow:=List.all_eq_true.1 h2 _ (VI (l:=d.next) (i:=s) hs []);simp only [zH,Bool.and_eq_true,dA]at hrow;refine ⟨hrow.1,λc hc=> ?_⟩;have hx:=List.all_eq_true.1 hrow.2 _ (VI (l:=nth d.next s []) (i:=c) (by omega) 0);simp only [y9,Bool.and_eq_true,dA]at hx;exact hx
structure ByI (d:Dfa) (s k:Nat) (l:List BSet):Prop where
  len:l.length=1024
  at_: ∀z,z<1024->nth l z BSet.zero=BSet.make λb=>decide (nth d.cls b (0:Int)<((k:Nat):Int)) && decide (nth (nth d.next s ([]:aj)) (nth d.cls b (0:Int)).toNat (0:Int)=((z:Nat):Int))
theorem VD{α:Type}(n i:Nat)(x:α):nth (List.replicate n x) i x=x:=by
  unfold nth;rw [List.getD_eq_getElem?_getD,List.getElem?_replicate]
  split<;>rfl
end Go.Proofs.YtcfgkcfcddfccaaGreatDoor
end

noncomputable section
namespace Go.Proofs.YtcfgkcfcddfccaaGreatDoor
open Go Go.E Go.E.OpVal Go.E.OpOk Go.Proofs.Tryz
open List (replicate)
theorem ag137:aggOf Tryz.prog 137=some false:=by kernel_rfl
theorem ag138:aggOf Tryz.prog 138=some false:=by kernel_rfl
theorem by63:byOf Tryz.prog 63=some 24:=by kernel_rfl
theorem pf151:plainF Tryz.prog 151=true:=by kernel_rfl
theorem pf82:plainF Tryz.prog 82=true:=by kernel_rfl
theorem pf83:plainF Tryz.prog 83=true:=by kernel_rfl
theorem pf84:plainF Tryz.prog 84=true:=by kernel_rfl
theorem pf85:plainF Tryz.prog 85=true:=by kernel_rfl
theorem pf86:plainF Tryz.prog 86=true:=by kernel_rfl
theorem pf87:plainF Tryz.prog 87=true:=by kernel_rfl
theorem pf88:plainF Tryz.prog 88=true:=by kernel_rfl
theorem pf89:plainF Tryz.prog 89=true:=by kernel_rfl
theorem pf90:plainF Tryz.prog 90=true:=by kernel_rfl
theorem pf91:plainF Tryz.prog 91=true:=by kernel_rfl
theorem sz137:szOf Tryz.prog 137=some 1:=by kernel_rfl
theorem Qp:szOf Tryz.prog 138=some 1:=by kernel_rfl
theorem ze137:zeroOf Tryz.prog 137=some (aT):=by kernel_rfl
theorem ze138:zeroOf Tryz.prog 138=some (.pointer none):=by kernel_rfl
theorem ze63:zeroOf Tryz.prog 63=some (aT):=by kernel_rfl
def Kl_(dB:List (List Arrow))(x0:Nfa)(dY:Nat):Option (((List (List Arrow))×Nat)⊕(Dfa×Int)):=
 nxt ((dB.set (((nth x0.edges dY Arrow.zero).frm).toNat) ((nth dB (((nth x0.edges dY Arrow.zero).frm).toNat) [])++[(nth x0.edges dY Arrow.zero)])),(dY+1))
def Iv_(wB:Nat)(Vj:Bool):Option ((Bool×Nat)⊕((Int×aY×(FM T_1 Int)×aY×B_1×Nat)⊕(Dfa×Int))):=
 nxt (Vj,(wB+1))
def PS(dB:List (List Arrow))(jV:aj×Int)(y5:Int)(oM:aY)(BF:FM T_1 Int)(pJ:aj)(y256_0:Int)(y256_1:BSet):Option (Nat×(Int×aY×(FM T_1 Int)×aj)):=
 bnd (If_ dB jV.1 y256_1) (λv161=>bnd (qo_ (⟨(⟨oM,BF⟩:IStore)⟩:ITable) v161) (λv162=>aI (decide (v162.2.2.1≠0)) (some (1,(v162.2.2.1,v162.2.2.2.of.rows,v162.2.2.2.of.places,pJ))) (aI (decide (1024<=v162.1)) (some (1,(2,v162.2.2.2.of.rows,v162.2.2.2.of.places,pJ))) (grd (0<=y256_0/\y256_0<(pJ.length:Int)) (some (0,(y5,v162.2.2.2.of.rows,v162.2.2.2.of.places,(pJ.set y256_0.toNat v162.1))))))))
def Iq_(jP:aY)(kN:B_1)(BD:Bool)(wC:Nat)(jz:Nat)(y5:Int)(oM:aY)(BF:FM T_1 Int)(pJ:aj):Option ((Int×aY×(FM T_1 Int)×aY×B_1×Nat)⊕(Dfa×Int)):=
 jsel jz (grd ((jP.length+[pJ].length) * 24<=140737488355328) (grd ((kN.length+[BD].length) * 1<=140737488355328) (grd (wC+1<=9223372036854775807) (nxt (y5,oM,BF,(jP++[pJ]),(kN++[BD]),(wC+1)))))) (λj_=>jsel j_ (fin (some ((⟨([]:aj),([]:aY),([]:B_1)⟩:Dfa),y5))) (λ_=>none))
def MJ(jV:aj×Int)(je:B_1)(v13:(List BSet)×Int)(dB:List (List Arrow))(Ag:Int)(qX:aY)(wY:FM T_1 Int)(jP:aY)(kN:B_1)(wC:Nat)(BD:Bool)(wB:Nat):Option ((Bool×Nat)⊕((Int×aY×(FM T_1 Int)×aY×B_1×Nat)⊕(Dfa×Int))):=
 aI (decide ((wB:Int)<(jV.1.length:Int))) (aI BD (Iv_ wB true) (grd (0<=(nth jV.1 wB 0)/\(nth jV.1 wB 0)<(je.length:Int)) (Iv_ wB (nth je ((nth jV.1 wB 0).toNat) false)))) (fin (grd (8 * v13.1.length<=281474976710656) (bnd (Ht_ v13.1) (λJa=>bnd (Yr (yN (λ(q:Int×aY×(FM T_1 Int)×aj) (x:Int×BSet)=>PS dB jV q.1 q.2.1 q.2.2.1 q.2.2.2 x.1 x.2)) (0,(Ag,qX,wY,(replicate v13.1.length (0:Int)))) Ja) (λmP=>Iq_ jP kN BD wC mP.1 mP.2.1 mP.2.2.1 mP.2.2.2.1 mP.2.2.2.2)))))
def PO(je:B_1)(v13:(List BSet)×Int)(dB:List (List Arrow))(v26:aj×Int)(Ag:Int)(qX:aY)(wY:FM T_1 Int)(jP:aY)(kN:B_1)(wC:Nat):Option ((Int×aY×(FM T_1 Int)×aY×B_1×Nat)⊕(Dfa×Int)):=
 bnd (fi_ (⟨(⟨qX,wY⟩:IStore)⟩:ITable)) (λv112=>aI (decide ((wC:Int)<v112)) (bnd (fp_ (⟨(⟨qX,wY⟩:IStore)⟩:ITable) (wC:Int)) (λjV=>aI (decide (jV.2≠0)) (fin (some ((⟨([]:aj),([]:aY),([]:B_1)⟩:Dfa),jV.2))) (aV (λq:Bool×Nat=>MJ jV je v13 dB Ag qX wY jP kN wC q.1 q.2) (false,0)))) (fin (some ((⟨v26.1,jP,kN⟩:Dfa),0))))
def Yb(x0:Nfa)(v13:(List BSet)×Int)(dB:List (List Arrow))(v26:aj×Int)(je:B_1)(Ae:Nat):Option ((B_1×Nat)⊕(Dfa×Int)):=
 aI (decide ((Ae:Int)<(x0.ends.length:Int))) (grd (0<=(nth x0.ends Ae 0)/\(nth x0.ends Ae 0)<(je.length:Int)) (nxt ((je.set ((nth x0.ends Ae 0).toNat) true),(Ae+1)))) (fin (bnd (jr_) (λv85=>bnd (TW (⟨(⟨v85.of.rows,v85.of.places⟩:IStore)⟩:ITable) x0.starts) (λv91=>aI (decide (v91.2.2.1≠0)) (some ((⟨([]:aj),([]:aY),([]:B_1)⟩:Dfa),v91.2.2.1)) (aV (λq:Int×aY×(FM T_1 Int)×aY×B_1×Nat=>PO je v13 dB v26 q.1 q.2.1 q.2.2.1 q.2.2.2.1 q.2.2.2.2.1 q.2.2.2.2.2) (0,v91.2.2.2.of.rows,v91.2.2.2.of.places,([]:aY),([]:B_1),0))))))
def Ya(x0:Nfa)(v13:(List BSet)×Int)(v26:aj×Int)(dB:List (List Arrow))(dY:Nat):Option (((List (List Arrow))×Nat)⊕(Dfa×Int)):=
 aI (decide ((dY:Int)<(x0.edges.length:Int))) (grd (0<=((nth x0.edges dY Arrow.zero).frm)/\((nth x0.edges dY Arrow.zero).frm)<(dB.length:Int)) (grd (((nth dB (((nth x0.edges dY Arrow.zero).frm).toNat) []).length+[(nth x0.edges dY Arrow.zero)].length) * 48<=140737488355328) (grd (0<=((nth x0.edges dY Arrow.zero).frm)/\((nth x0.edges dY Arrow.zero).frm)<(dB.length:Int)) (Kl_ dB x0 dY)))) (fin (grd (0<=x0.states/\1 * x0.states.toNat<=281474976710656) (aV (λq:B_1×Nat=>Yb x0 v13 dB v26 q.1 q.2) ((replicate x0.states.toNat false),0))))
def J3_(x0:Nfa):Option (Dfa×Int):=
 aI (decide ((A8 (kJ x0))≠0)) (some ((⟨([]:aj),([]:aY),([]:B_1)⟩:Dfa),1)) (bnd (Id_ x0.edges) (λv12=>bnd (Ik_ v12) (λv13=>aI (decide (v13.2≠0)) (some ((⟨([]:aj),([]:aY),([]:B_1)⟩:Dfa),v13.2)) (bnd (Yi v13.1) (λv26=>aI (decide (v26.2≠0)) (some ((⟨([]:aj),([]:aY),([]:B_1)⟩:Dfa),v26.2)) (grd (0<=x0.states/\24 * x0.states.toNat<=281474976710656) (aV (λq:(List (List Arrow))×Nat=>Ya x0 v13 v26 q.1 q.2) ((replicate x0.states.toNat ([]:List Arrow)),0))))))))
theorem L8_{σ:ak}{x0:Nfa}(hgl:GT σ 0 qC deB)(aA:dV σ aB ay au x0.starts)(aG:dV σ aB aC aJ x0.ends)(aH:RS σ 6 vW (.slice aK x0.edges.length aF) x0.edges){r:Dfa×Int}(hh:J3_ x0=some r):
  Con prog 30 #[.agg #[.int .i64 x0.states,.slice ay x0.starts.length au,.slice aC x0.ends.length aJ,.slice aK x0.edges.length aF]] σ [] (UD σ r):=by
 dsimp only [J3_]at hh;have f0_0b:=aA.rv.big;have f0_1b:=aG.rv.big;have f0_2b:=aH.rv.big;refine cM 177 Tryz.func30 (λw0=> ?_);refine R2 ?_;refine TL.bx (λaS=> ?_);refine TL.al (λbn=> ?_);refine TL.al (λfK=> ?_);refine R5 ?_;refine κ z (eG (wz_ _ x0 ⟨ay,au,aC,aJ,aK,aF⟩ ⟨aA,aG,aH,λx _=>x.set.isOk⟩) z z pf82 z z z ?_);refine R2 ?_;refine ι z hh (λfB hh=> ?_) (λfB hh=> ?_)
 ·refine R3 ?_;refine φ 1 z z (κ z (storeAll z NR z z z z z z ?_));refine φ 1 z z (R2 ?_);refine TC.iH (ψ [1] 2) (θ ?_);obtain rfl:=so hh;exact rz
 refine R5 ?_;obtain ⟨v12,u12,hh⟩:=bQ hh;refine κ z (OpOk.call (Ld_ aH u12) z z pf84 z z z z ?_);rintro _ τ108 _ Au ⟨a108_1,c108_1,rfl,hr108_0,rfl⟩;replace aA:=aA.mono Au;replace aG:=aG.mono Au;replace aH:=aH.mono Au;replace hgl:=hgl.mono Au;have hr108_0b:=hr108_0.rv.big;obtain ⟨v13,u13,hh⟩:=bQ hh;refine κ z (OpOk.call (Lc_ hr108_0 u13) z z pf83 z z z z ?_);rintro _ τ109 _ dh ⟨a109_1,c109_1,rfl,hr109_0,rfl⟩;replace aA:=aA.mono dh;replace aG:=aG.mono dh;replace aH:=aH.mono dh;replace hgl:=hgl.mono dh;have hr109_0b:=hr109_0.rv.big;refine R12 ?_;refine ι z hh (λjA hh=> ?_) (λjA hh=> ?_)
 ·refine R4 ?_;refine φ 1 z z (κ z (storeAll z NR z z z z z z ?_));refine φ 1 z z (R2 ?_);refine TC.iH (ψ [1] 2) (θ ?_);obtain rfl:=so hh;exact rz
 refine R4 ?_;obtain ⟨v26,u26,hh⟩:=bQ hh;refine κ z (OpOk.call (Lf_ hgl hr109_0 u26) z z pf85 z z z z ?_);rintro _ τ111 _ jw ⟨a111_1,c111_1,rfl,hr111_0,rfl⟩;replace aA:=aA.mono jw;replace aG:=aG.mono jw;replace aH:=aH.mono jw;replace hgl:=hgl.mono jw;replace hr109_0:=hr109_0.mono jw;have hr111_0b:=hr111_0.rv.big;refine R12 ?_;refine ι z hh (λh112 hh=> ?_) (λh112 hh=> ?_)
 ·refine R4 ?_;refine φ 1 z z (κ z (storeAll z NR z z z z z z ?_));refine φ 1 z z (R2 ?_);refine TC.iH (ψ [1] 2) (θ ?_);obtain rfl:=so hh;exact rz
 refine R5 ?_;obtain ⟨u40,hh⟩:=gd hh;refine κ rfl (oH (q:=x0.states.toNat) (E:=129) (size:=6) (enc:=vW) rfl underlying137 Ji by63 ze63 rfl rfl (vN u40.1) (vN u40.1) (by omega) (by decide) rfl (λdD dM zf115=> ?_));refine TL.al (λtV=> ?_);refine R11 ?_;refine TC.lk hh (replicate x0.states.toNat (sD:NP Arrow)) (rgs [(9,1),(60,17)]) (λ⟨_,dY⟩ Bv=>([(60,.int .i64 (dY:Int))],[ω aS #[.int .i64 x0.states,.slice ay x0.starts.length au,.slice aC x0.ends.length aJ,.slice aK x0.edges.length aF] 65,ω bn #[aT,aT,aT] 35,ω fK #[.int .i64 0] 27,ω tV #[.slice dD ((replicate x0.states.toNat ([]:List Arrow)).length) dM] 137,Res.nest 63 129 6 vW (.slice dD (replicate x0.states.toNat ([]:List Arrow)).length dM) Bv])) (λ⟨dB,_⟩ Bv=>dB.length=(replicate x0.states.toNat ([]:List Arrow)).length/\Zn Bv dB) ⟨z,zf115⟩ (ψ [1,1,2,3,4] 5) ?_;rintro ⟨dB,dY⟩ Bv _ z1 hh hR1 ⟨vJ,mX⟩;dsimp only [Ya]at hh vJ mX ⊢;have zf133b:=mX.len;refine TC.know (zf (q:=4) z mX) (λ⟨_,hb135⟩=> ?_);refine R5 ?_;refine ι z hh (λx9 hh=> ?_) (λx9 hh=> ?_)
 ·refine R1 ?_;refine TC.cutG (α:=(Unit)×((List (NP Arrow)))) (rgs [(9,1),(62,14)]) (λg=>[]) (λg=>[ω aS #[.int .i64 x0.states,.slice ay x0.starts.length au,.slice aC x0.ends.length aJ,.slice aK x0.edges.length aF] 65,ω bn #[aT,aT,aT] 35,ω fK #[.int .i64 0] 27,ω tV #[.slice dD ((replicate x0.states.toNat ([]:List Arrow)).length) dM] 137,Res.nest 63 129 6 vW (.slice dD (replicate x0.states.toNat ([]:List Arrow)).length dM) g.2]) (λg=>τ111) (λg=>Kl_ dB x0 dY=some z1/\(dB.set (((nth x0.edges dY Arrow.zero).frm).toNat) ((nth dB (((nth x0.edges dY Arrow.zero).frm).toNat) [])++[(nth x0.edges dY Arrow.zero)])).length=(replicate x0.states.toNat ([]:List Arrow)).length/\Zn g.2 (dB.set (((nth x0.edges dY Arrow.zero).frm).toNat) ((nth dB (((nth x0.edges dY Arrow.zero).frm).toNat) [])++[(nth x0.edges dY Arrow.zero)]))) ?_ (λg j hg=> ?_)
  ·refine R5 ?_;refine TL.al (λb140=> ?_);refine R2 ?_;obtain ⟨u58,hh⟩:=gd hh;obtain ⟨u62,hh⟩:=gd hh;obtain ⟨u63,hh⟩:=gd hh;refine TC.cw_ (Hr:=[ω b140 #[.int .i64 ((nth x0.edges dY Arrow.zero).frm),.int .i64 ((nth x0.edges dY Arrow.zero).to),.int .u64 (((nth x0.edges dY Arrow.zero).set).a:Int),.int .u64 (((nth x0.edges dY Arrow.zero).set).b:Int),.int .u64 (((nth x0.edges dY Arrow.zero).set).c:Int),.int .u64 (((nth x0.edges dY Arrow.zero).set).d:Int)] 129,ω aS #[.int .i64 x0.states,.slice ay x0.starts.length au,.slice aC x0.ends.length aJ,.slice aK x0.edges.length aF] 65,ω bn #[aT,aT,aT] 35,ω fK #[.int .i64 0] 27,ω tV #[.slice dD ((replicate x0.states.toNat ([]:List Arrow)).length) dM] 137]) (λr hr=>wI [0,1,2,3,4] z hr) [] (by kernel_rfl) (Δ 0 z lL z (ν 1 z fL z (Δ 2 z lL z (Δ 3 z lL z (ν 4 z fL z (Δ 5 z lL z (TA.know (zf (q:=5) z mX) (λ⟨hs153,hs153b⟩=> ?_))))))));refine Δ 6 z iX z (Δ 8 z lA z ?_);obtain ⟨p154,Ri,SY⟩:=Zn.at mX (i:=((nth x0.edges dY Arrow.zero).frm).toNat) (by omega);refine TA.actN [7,9] (by kernel_rfl) (an z z (OpVal.ok (O_ z NH z (q:=5) z Ri SY) z z ⟨(λw h=>um (ak.le.refl _) (λr hr=>wI [0,1,2,3,4] z hr) w h),?_⟩) (an z z (gX (enc:=vW) [(nth x0.edges dY Arrow.zero)] (λMG c156=>⟨(λw h=>um (ak.le.refl _) (λr hr=>wI [1,2,3,4,5] z hr) w h),?_⟩)) (True.intro)))
   ·refine Φ 9 z (gX (enc:=vW) [(nth x0.edges dY Arrow.zero)] (λuX c159=>⟨(λw h=>um (ak.le.refl _) (λr hr=>wI [1,2,3,4,5] z hr) w h),?_⟩));refine Θ 6 z z (TA.by (λw h=>Reach.takeN Ri SY h) (Φ 10 z (apF (.inr ⟨_,1,z⟩) u62 (λa162 AQ=>(k3 ?_)))));refine TA.know (ZT (q:=1) z mX) (λ⟨hs164,hs164b⟩=> ?_);refine Δ 11 z iX z (Θ 1 z z (Θ 1 z z ?_));have hn166:(dB.set (((nth x0.edges dY Arrow.zero).frm).toNat) ((nth dB (((nth x0.edges dY Arrow.zero).frm).toNat) [])++[(nth x0.edges dY Arrow.zero)])).length=(replicate x0.states.toNat ([]:List Arrow)).length:=(eX ..).trans vJ;refine Φ 12 rfl (Z9 (l':=((nth dB (((nth x0.edges dY Arrow.zero).frm).toNat) [])++[(nth x0.edges dY Arrow.zero)])) rfl Ji rfl rfl rfl rfl rfl (by rw [mX.len];omega) mX (λIZ=>(k2 ?_)));refine R1 ?_;exact cf ((),(Bv.set (((nth x0.edges dY Arrow.zero).frm).toNat) (((nth dB (((nth x0.edges dY Arrow.zero).frm).toNat) [])++[(nth x0.edges dY Arrow.zero)]),(a162,AQ)))) ⟨hh,hn166,IZ⟩ (ψ [6,6,6,6] 5)
   obtain ⟨Jp,Rh,SX⟩:=Zn.at mX (i:=((nth x0.edges dY Arrow.zero).frm).toNat) (by omega);refine Φ 7 z (OpVal.ok (O_ z NH z (q:=6) z Rh SX) z z ⟨(λw h=>um (ak.le.refl _) (λr hr=>wI [1,2,3,4,5] z hr) w h),?_⟩);refine Θ 6 z z (TA.by (λw h=>Reach.takeN Rh SX h) (Φ 10 z (apF (.inr ⟨_,1,z⟩) u62 (λyE yw=>(k3 ?_)))));refine TA.know (ZT (q:=1) z mX) (λ⟨hs171,hs171b⟩=> ?_);refine Δ 11 z iX z (Θ 1 z z (Θ 1 z z ?_));have hn173:(dB.set (((nth x0.edges dY Arrow.zero).frm).toNat) ((nth dB (((nth x0.edges dY Arrow.zero).frm).toNat) [])++[(nth x0.edges dY Arrow.zero)])).length=(replicate x0.states.toNat ([]:List Arrow)).length:=(eX ..).trans vJ;refine Φ 12 rfl (Z9 (l':=((nth dB (((nth x0.edges dY Arrow.zero).frm).toNat) [])++[(nth x0.edges dY Arrow.zero)])) rfl Ji rfl rfl rfl rfl rfl (by rw [mX.len];omega) mX (λzf172=>(k2 ?_)));refine R1 ?_;exact cf ((),(Bv.set (((nth x0.edges dY Arrow.zero).frm).toNat) (((nth dB (((nth x0.edges dY Arrow.zero).frm).toNat) [])++[(nth x0.edges dY Arrow.zero)]),(yE,yw)))) ⟨hh,hn173,zf172⟩ (ψ [6,6,6,6] 5)
  obtain ⟨_,z138⟩:=g;obtain ⟨hh,vI,Fe⟩:=hg
  try dsimp only at vI Fe ⊢
  dsimp only [Kl_]at hh;have zf139b:=Fe.len;refine TC.know (zf (q:=4) z Fe) (λ⟨_,hb174⟩=> ?_);refine R4 ?_;exact nk hR1 hh z138 (ψ [4,4,4,4,4] 5) ⟨vI,Fe⟩
 refine R1 ?_;replace hh:=bF hR1 hh;refine R5 ?_;obtain ⟨u69,hh⟩:=gd hh;refine κ rfl (IC (m:=x0.states.toNat) (enc:=dL) false rfl underlying33 AZ by4 ze4 rfl rfl (vN u69.1) (vN u69.1) (by omega) (by decide) wJ (by decide) rfl EL (λuV uS=> ?_));refine R11 ?_;refine TC.lk hh () (rgs [(12,1),(83,8)]) (λ⟨je,Ae⟩ _=>([(83,.int .i64 (Ae:Int))],[ω aS #[.int .i64 x0.states,.slice ay x0.starts.length au,.slice aC x0.ends.length aJ,.slice aK x0.edges.length aF] 65,ω bn #[aT,aT,aT] 35,ω fK #[.int .i64 0] 27,ω tV #[.slice dD ((replicate x0.states.toNat ([]:List Arrow)).length) dM] 137,Res.nest 63 129 6 vW (.slice dD (replicate x0.states.toNat ([]:List Arrow)).length dM) Bv,ε 4 1 dL (.slice uV (replicate x0.states.toNat false).length uS) je])) (λ⟨je,_⟩ _=>dB.length=(replicate x0.states.toNat ([]:List Arrow)).length/\Zn Bv dB/\je.length=(replicate x0.states.toNat false).length) ⟨vJ,mX,z⟩ (ψ [5,5,5,5,5] 6) ?_;rintro ⟨je,Ae⟩ _ _ z1 hh hR1 ⟨JX,Bj,JV⟩;dsimp only [Yb]at hh JX Bj JV ⊢;have zf192b:=Bj.len;refine TC.know (zf (q:=4) z Bj) (λ⟨_,hb196⟩=> ?_);refine ξ 5 z (λhb197=> ?_);refine R5 ?_;refine ι z hh (λh198 hh=> ?_) (λh198 hh=> ?_)
 ·refine R12 ?_;obtain ⟨u81,hh⟩:=gd hh;refine TL.iS 5 z (λhs199=> ?_);refine TL.w z iX (φ 5 z z ?_);have hn200:(je.set ((nth x0.ends Ae 0).toNat) true).length=(replicate x0.states.toNat false).length:=by rw [eX];exact JV
  refine κ z (qp true z AZ z z z z wJ EL (by omega) (by omega) ?_);refine R5 ?_;exact nk hR1 hh () (ψ [5,5,5,5,5] 6) ⟨JX,Bj,hn200⟩
 refine R1 ?_;replace hh:=bF hR1 hh;refine R3 ?_;obtain ⟨v85,u85,hh⟩:=bQ hh;refine κ z (OpOk.call (oz_ u85) z z pf86 z z z z ?_);rintro _ τ202 _ Aq ⟨b202_1,a202_2,c202_3,z202_4,b202_6,rfl,zf202_5,rfl⟩;replace aA:=aA.mono Aq;replace hgl:=hgl.mono Aq;replace hr109_0:=hr109_0.mono Aq;replace hr111_0:=hr111_0.mono Aq;have zf202_5b:=zf202_5.length;refine TL.al (λEU=> ?_);refine κ z (c5_ z Qp z z z z z ?_);refine R7 ?_;refine φ 3 z z (φ 3 z z (φ 3 z z ?_));obtain ⟨v91,u91,hh⟩:=bQ hh;refine κ z (OpOk.call (j6_ zf202_5 aA u91) z z pf87 z z z z ?_);rintro _ τ208 _ Eu ⟨a208_1,c208_2,z208_3,b208_5,rfl,zf208_4,rfl⟩;replace hgl:=hgl.mono Eu;replace hr109_0:=hr109_0.mono Eu;replace hr111_0:=hr111_0.mono Eu;have zf208_4b:=zf208_4.length;refine R13 ?_;refine ι z hh (λh211 hh=> ?_) (λh211 hh=> ?_)
 ·refine R4 ?_;refine φ 5 z z (κ z (storeAll z NR z z z z z z ?_));refine φ 6 z z (R2 ?_);refine TC.iH (ψ [1] 2) (θ ?_);obtain rfl:=so hh;exact rz
 refine R5 ?_;refine TL.al (λDl=> ?_);refine R8 ?_;rw [<-JX];refine TC.front 9 z z (TC.c3_ (λw h=>Reach.bn_ ZI Bj h) (λτ289 xQ Rz=> ?_));replace hgl:=hgl.mono xQ;replace hr109_0:=hr109_0.mono xQ;replace hr111_0:=hr111_0.mono xQ;replace zf208_4:=zf208_4.mono xQ;have hr287b:=Rz.big;refine TC.nilS 31 1 (bH 1 aB aW).en ?_;have zf290:=ZOk.nil τ289 (bH 1 aB aW);refine TC.nilS 4 1 dL (TC.zl (α:=(Int×aY×(FM T_1 Int)×aY×B_1×Nat)×((Option Addr)×Nat×(List (aj×(bH 1 aB aW).P))×Nat×(Option Addr)×Nat×(List (aj×(bH 1 aB aW).P))×(Option Addr)×Nat×ak)) (rgs [(18,4),(23,2),(106,35),(164,12)]) (λg=>[(18,.int .i64 (g.1.2.2.2.2.2:Int))]) (λg=>[ω bn #[aT,aT,aT] 35,ω fK #[.int .i64 g.1.1] 27,ω tV #[.slice dD dB.length dM] 137,ε 4 1 dL (.slice uV (replicate x0.states.toNat false).length uS) je,ω EU #[loc b202_1 0] 138,ω b202_1 #[.slice g.2.1 g.1.2.1.length g.2.2.1,.map (some g.2.2.2.2.1)] 212,ε 31 1 (bH 1 aB aW).en (.slice g.2.1 g.1.2.1.length g.2.2.1) g.2.2.2.1,Res.mapB pq lN (some g.2.2.2.2.1) g.1.2.2.1,ω Dl #[.slice a111_1 v26.1.length c111_1,.slice g.2.2.2.2.2.1 g.1.2.2.2.1.length g.2.2.2.2.2.2.1,.slice g.2.2.2.2.2.2.2.2.1 g.1.2.2.2.2.1.length g.2.2.2.2.2.2.2.2.2.1] 35,ε 31 1 (bH 1 aB aW).en (.slice g.2.2.2.2.2.1 g.1.2.2.2.1.length g.2.2.2.2.2.2.1) g.2.2.2.2.2.2.2.1,ε 4 1 dL (.slice g.2.2.2.2.2.2.2.2.1 g.1.2.2.2.2.1.length g.2.2.2.2.2.2.2.2.2.1) g.1.2.2.2.2.1]) (λg=>g.2.2.2.2.2.2.2.2.2.2) (λg=>aV (λq:Int×aY×(FM T_1 Int)×aY×B_1×Nat=>PO je v13 dB v26 q.1 q.2.1 q.2.2.1 q.2.2.2.1 q.2.2.2.2.1 q.2.2.2.2.2) g.1=some r/\RZ g.2.2.2.2.2.2.2.2.2.2 (bH 6 vW ZI) (.slice dD dB.length dM) dB/\je.length=(replicate x0.states.toNat false).length/\ZOk g.2.2.2.2.2.2.2.2.2.2 (bH 1 aB aW) g.2.2.2.1 g.1.2.1/\ZOk g.2.2.2.2.2.2.2.2.2.2 (bH 1 aB aW) g.2.2.2.2.2.2.2.1 g.1.2.2.2.1/\ak.le τ289 g.2.2.2.2.2.2.2.2.2.2) (λg=>qI (λq:Int×aY×(FM T_1 Int)×aY×B_1×Nat=>PO je v13 dB v26 q.1 q.2.1 q.2.2.1 q.2.2.2.1 q.2.2.2.2.1 q.2.2.2.2.2) g.1) ((0,v91.2.2.2.of.rows,v91.2.2.2.of.places,([]:aY),([]:B_1),0),(a208_1,c208_2,z208_3,b208_5,none,0,[],none,0,τ289)) (ψ [1,2,5,5,5,6,11,11,11,11] 11) z (by repeat (first|exact trivial|refine ⟨z,?_⟩)) ⟨hh,Rz,JV,zf208_4,zf290,(ak.le.refl _)⟩ (λg3 j3 hg3=> ?_));obtain ⟨⟨Ag,qX,wY,jP,kN,wC⟩,⟨Du,Dh,I7,LQ,wR,wM,yS,tX,tK,τ293⟩⟩:=g3;obtain ⟨hh,jr,Sl,Bf,iW,xP⟩:=hg3
 try dsimp only at jr
 try dsimp only at Sl
 try dsimp only at Bf
 try dsimp only at iW
 dsimp only at xP;replace hgl:=hgl.mono xP;replace hr109_0:=hr109_0.mono xP;replace hr111_0:=hr111_0.mono xP
 try dsimp only
 obtain ⟨z1,hh,hR1⟩:=yO hh;dsimp only [PO]at hh;have zf272b:=Bf.length;have zf281b:=iW.length;refine ξ 3 z (λhb295=> ?_);refine ξ 6 z (λhb296=> ?_);refine ξ 9 z (λhb297=> ?_);refine ξ 10 z (λhb298=> ?_);refine R5 ?_;refine φ 7 z z (φ 7 z z (φ 7 z z ?_));obtain ⟨v112,NQ,hh⟩:=bQ hh;refine κ z (OpOk.call (jc_ Bf NQ) z z pf88 z z z z ?_);rintro _ _ _ Es ⟨rfl,rfl,rfl⟩;refine R2 ?_;refine ι z hh (λh300 hh=> ?_) (λh300 hh=> ?_)
 ·refine R7 ?_;refine φ 2 z z (φ 2 z z (φ 2 z z ?_));obtain ⟨jV,u116,hh⟩:=bQ hh;refine κ z (OpOk.call (j3_ Bf u116) z z pf89 z z z z ?_);rintro _ _ _ Wn ⟨a301_1,c301_2,rfl,rfl,rfl⟩;refine R3 ?_;refine TL.al (λHY=> ?_);refine R9 ?_;refine ι z hh (λh305 hh=> ?_) (λh305 hh=> ?_)
  ·refine R4 ?_;refine φ 5 z z (κ z (storeAll z NR z z z z z z ?_));refine φ 6 z z (R2 ?_);refine TC.iH (ψ [1] 2) (θ ?_);replace hh:=bF hR1 hh;obtain rfl:=so hh;exact rz
  refine R13 ?_;refine TC.zl (α:=(Bool×Nat)×(ak)) (rgs [(21,1),(23,1),(124,12)]) (λg=>[(21,.bool g.1.1),(124,.int .i64 (g.1.2:Int))]) (λg=>[ω bn #[aT,aT,aT] 35,ω fK #[.int .i64 Ag] 27,ω tV #[.slice dD dB.length dM] 137,ε 4 1 dL (.slice uV (replicate x0.states.toNat false).length uS) je,ω EU #[loc b202_1 0] 138,ω b202_1 #[.slice Du qX.length Dh,.map (some LQ)] 212,ε 31 1 (bH 1 aB aW).en (.slice Du qX.length Dh) I7,Res.mapB pq lN (some LQ) wY,ω Dl #[.slice a111_1 v26.1.length c111_1,.slice wR jP.length wM,.slice tX kN.length tK] 35,ε 31 1 (bH 1 aB aW).en (.slice wR jP.length wM) yS,dW 4 dL tX tK kN,ω HY #[.slice a301_1 jV.1.length c301_2] 31,dW 3 aB a301_1 c301_2 jV.1]) (λg=>g.2) (λg=>aV (λq:Bool×Nat=>MJ jV je v13 dB Ag qX wY jP kN wC q.1 q.2) g.1=some z1/\je.length=(replicate x0.states.toNat false).length/\ZOk g.2 (bH 1 aB aW) I7 qX/\ZOk g.2 (bH 1 aB aW) yS jP/\ak.le τ293 g.2) (λg=>qI (λq:Bool×Nat=>MJ jV je v13 dB Ag qX wY jP kN wC q.1 q.2) g.1) ((false,0),τ293) (ψ [1,1,12,12,12,7,7,7,12,12,12,12,12] 13) z (by repeat (first|exact trivial|refine ⟨z,?_⟩)) ⟨hh,Sl,Bf,iW,(ak.le.refl _)⟩ (λg4 j4 hg4=> ?_);obtain ⟨⟨BD,wB⟩,τ324⟩:=g4;obtain ⟨hh,FX,pG,kL,jv⟩:=hg4
  try dsimp only at FX
  try dsimp only at pG
  try dsimp only at kL
  dsimp only at jv;replace hgl:=hgl.mono jv;replace hr109_0:=hr109_0.mono jv;replace hr111_0:=hr111_0.mono jv;replace jr:=jr.mono jv;replace iW:=iW.mono jv
  try dsimp only
  obtain ⟨z2,hh,hR2⟩:=yO hh;dsimp only [MJ]at hh;have zf320b:=pG.length;have zf321b:=kL.length;refine ξ 3 z (λhb326=> ?_);refine ξ 6 z (λhb327=> ?_);refine ξ 9 z (λhb328=> ?_);refine ξ 10 z (λhb329=> ?_);refine ξ 12 z (λhb330=> ?_);refine R5 ?_;refine ι z hh (λh331 hh=> ?_) (λh331 hh=> ?_)
  ·refine R1 ?_;refine TC.cutG (α:=(Bool)×(ak)) (rgs [(21,1),(23,1),(126,9)]) (λg=>[(21,.bool g.1)]) (λg=>[ω bn #[aT,aT,aT] 35,ω fK #[.int .i64 Ag] 27,ω tV #[.slice dD dB.length dM] 137,ε 4 1 dL (.slice uV (replicate x0.states.toNat false).length uS) je,ω EU #[loc b202_1 0] 138,ω b202_1 #[.slice Du qX.length Dh,.map (some LQ)] 212,ε 31 1 (bH 1 aB aW).en (.slice Du qX.length Dh) I7,Res.mapB pq lN (some LQ) wY,ω Dl #[.slice a111_1 v26.1.length c111_1,.slice wR jP.length wM,.slice tX kN.length tK] 35,ε 31 1 (bH 1 aB aW).en (.slice wR jP.length wM) yS,dW 4 dL tX tK kN,ω HY #[.slice a301_1 jV.1.length c301_2] 31,dW 3 aB a301_1 c301_2 jV.1]) (λg=>g.2) (λg=>Iv_ wB g.1=some z2/\je.length=(replicate x0.states.toNat false).length/\ZOk g.2 (bH 1 aB aW) I7 qX/\ZOk g.2 (bH 1 aB aW) yS jP/\ak.le τ324 g.2) ?_ (λg j hg=> ?_)
   ·refine R3 ?_;refine TL.iS 12 z (λhs336=> ?_);refine R7 ?_;refine Γ 129 z (λWR=> ?_) (λWR=> ?_)
    ·replace hh:=nT WR hh;refine R7 ?_;exact cf (true,τ324) ⟨hh,FX,pG,kL,(ak.le.refl _)⟩ (ψ [12,12,12,12,12,12,12,12,12,12,12,12,12] 13)
    replace hh:=nS WR hh;refine R2 ?_;obtain ⟨u141,hh⟩:=gd hh;refine TL.iS 3 z (λhs338=> ?_);refine R5 ?_;exact cf ((nth je ((nth jV.1 wB 0).toNat) false),τ324) ⟨hh,FX,pG,kL,(ak.le.refl _)⟩ (ψ [12,12,12,12,12,12,12,12,12,12,12,12,12] 13)
   obtain ⟨Vj,τ339⟩:=g;obtain ⟨hh,Si,zA,jF,oq⟩:=hg
   try dsimp only at Si
   try dsimp only at zA
   try dsimp only at jF
   dsimp only at oq;replace hgl:=hgl.mono oq;replace hr109_0:=hr109_0.mono oq;replace hr111_0:=hr111_0.mono oq;replace jr:=jr.mono oq;replace iW:=iW.mono oq;replace pG:=pG.mono oq;replace kL:=kL.mono oq
   try dsimp only
   dsimp only [Iv_]at hh;have zf333b:=zA.length;have zf334b:=jF.length;refine ξ 3 z (λhb341=> ?_);refine ξ 6 z (λhb342=> ?_);refine ξ 9 z (λhb343=> ?_);refine ξ 10 z (λhb344=> ?_);refine ξ 12 z (λhb345=> ?_);refine R4 ?_;obtain ⟨hh,VT⟩:=wG hR2 hh;exact lf ((Vj,(wB+1)),τ339) VT ⟨hh,Si,zA,jF,(jv.trans oq)⟩ (ψ [12,12,12,12,12,12,12,12,12,12,12,12,12] 13)
  refine R1 ?_;replace hh:=bF hR2 hh;refine R5 ?_;obtain ⟨u149,hh⟩:=gd hh;refine κ z (mk2 (enc:=aB) (0:Int) (λwQ wL=> ?_));refine TL.al (λPg=> ?_);refine R6 ?_;obtain ⟨Ja,u153,hh⟩:=bQ hh;refine κ z (OpOk.call (K5_ hr109_0 u153) z z pf90 z z z z ?_);rintro _ τ352 _ rH ⟨b352_4,a352_1,c352_2,rfl,f352_3,rfl⟩;replace hgl:=hgl.mono rH;replace hr111_0:=hr111_0.mono rH;replace jr:=jr.mono rH;replace iW:=iW.mono rH;replace pG:=pG.mono rH;replace kL:=kL.mono rH;refine R2 ?_;refine TC.front 15 z z (TC.iw aW (λτ405 og hr403=> ?_));replace hgl:=hgl.mono og;replace hr111_0:=hr111_0.mono og;replace jr:=jr.mono og;replace iW:=iW.mono og;replace pG:=pG.mono og;replace kL:=kL.mono og;replace f352_3:=f352_3.mono og;refine TC.iH (ψ [2,2,14,14,14,14,14,14,14,14,14,14,14,14] 15) ?_;obtain ⟨mP,xC,hh⟩:=bQ hh;obtain ⟨jz256,⟨y5,oM,BF,pJ⟩⟩:=mP;dsimp only at hh;refine TC.dc_ (A:=(λ(x:Int×BSet) _ vs=>vs=[.int .i64 x.1,sK x.2])) [.ret] (λ(q:Int×aY×(FM T_1 Int)×aj) (x:Int×BSet)=>PS dB jV q.1 q.2.1 q.2.2.1 q.2.2.2 x.1 x.2) (λ(q:Int×aY×(FM T_1 Int)×aj) (τ406:ak) Hs=> ∃qx ql, ∃(zT:List (aj×(bH 1 aB aW).P)), ∃yB,Hs=[ω bn #[aT,aT,aT] 35,ω fK #[.int .i64 q.1] 27,ω tV #[.slice dD dB.length dM] 137,ε 4 1 dL (.slice uV (replicate x0.states.toNat false).length uS) je,ω EU #[loc b202_1 0] 138,ω b202_1 #[.slice qx q.2.1.length ql,.map (some yB)] 212,ε 31 1 (bH 1 aB aW).en (.slice qx q.2.1.length ql) zT,Res.mapB pq lN (some yB) q.2.2.1,ω Dl #[.slice a111_1 v26.1.length c111_1,.slice wR jP.length wM,.slice tX kN.length tK] 35,ε 31 1 (bH 1 aB aW).en (.slice wR jP.length wM) yS,dW 4 dL tX tK kN,ω HY #[.slice a301_1 jV.1.length c301_2] 31,ω Pg #[.slice wQ ((replicate v13.1.length (0:Int)).length) wL] 31,ε 3 1 aB (.slice wQ (replicate v13.1.length (0:Int)).length wL) q.2.2.2]/\je.length=(replicate x0.states.toNat false).length/\ZOk τ406 (bH 1 aB aW) zT q.2.1/\ZOk τ406 (bH 1 aB aW) yS jP/\dV τ406 aB a301_1 c301_2 jV.1/\q.2.2.2.length=(replicate v13.1.length (0:Int)).length) (s:=(Ag,qX,wY,(replicate v13.1.length (0:Int)))) rfl pf151 rfl rfl (by rintro _ _ _ _ ⟨qx,ql,zT,yB,rfl,xG,pF,mQ,tu,xE⟩ hle_;exact ⟨qx,ql,zT,yB,rfl,xG,pF.mono hle_,mQ.mono hle_,tu.mono hle_,xE⟩) ⟨Du,Dh,I7,LQ,rfl,FX,pG,kL,hr403,rfl⟩ (λ_ _ _ h_=>by subst h_;rfl) (Kt_ f352_3 xC) ?_ ?_
  ·clear hh xC;rintro l_ _ _ _ τ406 ⟨y5,oM,BF,pJ⟩ ⟨y256_0,y256_1⟩ z256 _ _ hh nZ rfl ⟨qx,ql,zT,yB,rfl,xG,pF,mQ,tu,xE⟩;dsimp only [PS]at hh;replace hgl:=hgl.mono nZ;replace hr111_0:=hr111_0.mono nZ;replace jr:=jr.mono nZ;replace iW:=iW.mono nZ;have zf395b:=pF.length;have zf399b:=mQ.length;show TC _ _ _ (upds _ [(142,sK y256_1),(141,.int .i64 y256_0)]) τ406 [ω bn #[aT,aT,aT] 35,ω fK #[.int .i64 y5] 27,ω tV #[.slice dD dB.length dM] 137,ε 4 1 dL (.slice uV (replicate x0.states.toNat false).length uS) je,ω EU #[loc b202_1 0] 138,ω b202_1 #[.slice qx oM.length ql,.map (some yB)] 212,ε 31 1 (bH 1 aB aW).en (.slice qx oM.length ql) zT,Res.mapB pq lN (some yB) BF,ω Dl #[.slice a111_1 v26.1.length c111_1,.slice wR jP.length wM,.slice tX kN.length tK] 35,ε 31 1 (bH 1 aB aW).en (.slice wR jP.length wM) yS,dW 4 dL tX tK kN,ω HY #[.slice a301_1 jV.1.length c301_2] 31,ω Pg #[.slice wQ ((replicate v13.1.length (0:Int)).length) wL] 31,ε 3 1 aB (.slice wQ (replicate v13.1.length (0:Int)).length wL) pJ];refine ξ 3 z (λhb408=> ?_);refine ξ 6 z (λhb409=> ?_);refine ξ 9 z (λhb410=> ?_);refine ξ 10 z (λhb411=> ?_);refine ξ 13 z (λhb412=> ?_);refine R5 ?_;refine TL.al (λb413=> ?_);refine R2 ?_;refine asg_n (λ_ _ _=> ?_);refine R2 ?_;obtain ⟨v161,Vd,hh⟩:=bQ hh;obtain ⟨v162,u162,hh⟩:=bQ hh;refine TC.cw_ (Hr:=[ω b413 (setA y256_1) 47,ω bn #[aT,aT,aT] 35,ω fK #[.int .i64 y5] 27,ω tV #[.slice dD dB.length dM] 137,ε 4 1 dL (.slice uV (replicate x0.states.toNat false).length uS) je,ω EU #[loc b202_1 0] 138,ω Dl #[.slice a111_1 v26.1.length c111_1,.slice wR jP.length wM,.slice tX kN.length tK] 35,ε 31 1 (bH 1 aB aW).en (.slice wR jP.length wM) yS,dW 4 dL tX tK kN,ω HY #[.slice a301_1 jV.1.length c301_2] 31,ω Pg #[.slice wQ ((replicate v13.1.length (0:Int)).length) wL] 31,ε 3 1 aB (.slice wQ (replicate v13.1.length (0:Int)).length wL) pJ]) (λr hr=>wI [0,1,2,3,4,5,9,10,11,12,13,14] z hr) [] (by kernel_rfl) (Δ 0 z lL z (Δ 1 z lL z (Δ 2 z lL z (Δ 3 z lA z (Φ 4 z (OpOk.call (K9_ hgl jr tu Vd) z z pf91 z z z z ?_))))));rintro _ _ _ hle420 ⟨a420_1,c420_1,rfl,rfl,rfl⟩;refine ⟨(λw h=>um (ak.le.refl _) (λr hr=>wI [1,2,3,4,5,6,10,11,12,13,14,15] z hr) w h),?_⟩;refine Θ 9 z z (Θ 9 z z (Θ 9 z z (Φ 5 z (OpOk.call (su_ pF u162) z z pf87 z z z z ?_))));rintro _ τ422 _ rE ⟨a422_1,c422_2,z422_3,b422_5,rfl,zf422_4,rfl⟩;replace hr111_0:=hr111_0.mono rE;replace jr:=jr.mono rE;replace iW:=iW.mono rE;replace pF:=pF.mono rE;replace mQ:=mQ.mono rE;replace tu:=tu.mono rE;have zf422_4b:=zf422_4.length;refine kl 4 rE (ν 6 z mT z (ν 7 z (OpVal.extract z z z) z (ν 8 z (OpVal.extract z z z) z (ν 9 z (OpVal.extract z z z) z (ν 10 z mI z (ν 11 z mB z (ν 12 z mI z (R7 ?_))))))));refine ι z hh (λh425 hh=> ?_) (λh425 hh=> ?_)
   ·refine R4 ?_;refine φ 5 z z (κ z (storeAll z NR z z z z z z ?_));refine φ 6 z z (R2 ?_);refine θ (S.r (B.r ?_));obtain rfl:=so hh;exact rnd_r 0 z ⟨z,_,ψ [15,15,15,15,15,15,10,10,10,15,15,15,12,13] 14,⟨a422_1,c422_2,z422_3,b422_5,z,xG,zf422_4,mQ,tu,xE⟩⟩
   refine R7 ?_;refine ι z hh (λh426 hh=> ?_) (λh426 hh=> ?_)
   ·refine R3 ?_;refine φ 5 z z (κ z (storeAll z NR z z z z z z ?_));refine φ 6 z z (R2 ?_);refine θ (S.r (B.r ?_));obtain rfl:=so hh;exact rnd_r 0 z ⟨z,_,ψ [15,15,15,15,15,15,10,10,10,15,15,15,12,13] 14,⟨a422_1,c422_2,z422_3,b422_5,z,xG,zf422_4,mQ,tu,xE⟩⟩
   refine R5 ?_;obtain ⟨u184,hh⟩:=gd hh;refine TL.iS 15 z (λhs427=> ?_);refine TL.w z iX (φ 15 z z ?_);have hn428:(pJ.set y256_0.toNat v162.1).length=(replicate v13.1.length (0:Int)).length:=by rw [eX];exact xE
   refine κ z (qp v162.1 z lG z z z z aW vX (by omega) (by omega) ?_);refine Ω (B.n ?_);obtain rfl:=so hh;exact rnd_n ⟨z,_,ψ [15,15,15,15,15,8,8,8,15,15,15,15,15] 14,⟨a422_1,c422_2,z422_3,b422_5,z,xG,zf422_4,mQ,tu,hn428⟩⟩
  rintro τ406 _ _ nZ ⟨qx,ql,zT,yB,rfl,xG,pF,mQ,tu,xE⟩ ⟨rfl⟩;replace hr111_0:=hr111_0.mono nZ;replace jr:=jr.mono nZ;replace iW:=iW.mono nZ;have zf395b:=pF.length;have zf399b:=mQ.length;dsimp only [Iq_]at hh;show jmpQ _ _ _ _ _ τ406 [ω bn #[aT,aT,aT] 35,ω fK #[.int .i64 y5] 27,ω tV #[.slice dD dB.length dM] 137,ε 4 1 dL (.slice uV (replicate x0.states.toNat false).length uS) je,ω EU #[loc b202_1 0] 138,ω b202_1 #[.slice qx oM.length ql,.map (some yB)] 212,ε 31 1 (bH 1 aB aW).en (.slice qx oM.length ql) zT,Res.mapB pq lN (some yB) BF,ω Dl #[.slice a111_1 v26.1.length c111_1,.slice wR jP.length wM,.slice tX kN.length tK] 35,ε 31 1 (bH 1 aB aW).en (.slice wR jP.length wM) yS,dW 4 dL tX tK kN,ω HY #[.slice a301_1 jV.1.length c301_2] 31,ω Pg #[.slice wQ ((replicate v13.1.length (0:Int)).length) wL] 31,ε 3 1 aB (.slice wQ (replicate v13.1.length (0:Int)).length wL) pJ,ω b352_4 #[.slice a352_1 Ja.length c352_2] 131];refine rm_ hh ?_ ?_ <;>clear hh
  ·intro hh;refine R5 ?_;rw [<-xE];refine φ 13 z z (TL.iw aW (λτ433 uH hr431=> ?_));replace hr111_0:=hr111_0.mono uH;replace jr:=jr.mono uH;replace iW:=iW.mono uH;replace pF:=pF.mono uH;replace mQ:=mQ.mono uH;have Qb:ZOk _ (bH 1 aB aW) ([(pJ,(wQ,wL))]:List (aj×(bH 1 aB aW).P)) [pJ]:=ZOk.cons (hr431) (ZOk.nil _ _);refine κ z (litZ Qb z jH ji z jI z z z (by decide) (by decide) z (by decide) z (by decide) (λa429 c430=> ?_));refine φ 10 z z ?_;obtain ⟨u190,hh⟩:=gd hh;refine κ z (Ud (k:=(bH 1 aB aW)) mQ Qb z z jH ji kY jI z z (by decide) z z z (.inr ⟨_,0,z⟩) (by simpa using u190) (by decide) (λa436 c437 zf438=> ?_));refine TL.w z fL (φ 10 z z (R6 ?_));refine κ z (gX (enc:=dL) [BD] (λa439 c440=> ?_));refine φ 12 z z ?_;obtain ⟨u197,hh⟩:=gd hh;refine κ z (apF (.inr ⟨_,0,z⟩) u197 (λXR Xm=> ?_));refine TL.w z fL (φ 2 z z (R4 ?_));obtain ⟨u201,hh⟩:=gd hh;refine R3 ?_;obtain ⟨hh,VN⟩:=wG hR1 hh;exact lf ((y5,oM,BF,(jP++[pJ]),(kN++[BD]),(wC+1)),(qx,ql,zT,yB,a436,c437,(yS++([(pJ,(wQ,wL))]:List (aj×(bH 1 aB aW).P))),XR,Xm,τ433)) VN ⟨hh,jr,xG,pF,zf438,(((((xP.trans jv).trans rH).trans og).trans nZ).trans uH)⟩ (ψ [1,3,2,12,12,12,12,12,12,12,12] 11)
  intro m_ c_ hh ZU;refine jl_split hh ZU ?_ ?_ <;>clear hh ZU
  ·intro hh;refine TC.iH (ψ [1,1] 2) (θ ?_);replace hh:=bF hR1 hh;obtain rfl:=so hh;exact rz
  intro m_ hh ZU;exact jl_nil ZU
 refine R1 ?_;replace hh:=bF hR1 hh;refine R4 ?_;refine φ 3 z z (κ z (storeAll z NR z z z z z z ?_));refine φ 4 z z (R2 ?_);refine TC.front 9 z z (TC.Xj iW (λτ447 rD Rw=> ?_));replace hr111_0:=hr111_0.mono rD;refine TC.front 9 z z (TC.iw wJ (λτ450 J_ hr448=> ?_));replace hr111_0:=hr111_0.mono J_;replace Rw:=Rw.mono J_;have hr448b:=hr448.rv.big;refine TC.iH (ψ [1] 2) (θ ?_);obtain rfl:=so hh;exact rz
end Go.Proofs.YtcfgkcfcddfccaaGreatDoor
end

noncomputable section
namespace Go.E
open Go
section
variable {α:Type} {σ:ak} {size m c:Nat} {enc:α->List Value} {a:Option Addr} {l:List α}
theorem RS.takeF(h:RS σ size enc (.slice a m c) l)(j:Nat)(hj:j<=l.length):RS σ size enc (.slice a (l.take j).length c) (l.take j):=by
  have hlj:(l.take j).length=j:=by rw [List.length_take];omega
  obtain ⟨a1,c1,hv,hn,hc⟩:=h.rv.sl;cases hv;rw [hlj];refine ⟨⟨⟨a,c,by rw [hlj],λha=> ?_,by omega⟩,by rw [yP h.len],?_,λu hu=>h.rv.one u (by rw [WO h.len]at hu;exact List.mem_of_mem_take hu),by have:=h.rv.big;omega⟩,h.len⟩
  · obtain ⟨h1,h2⟩:=hn ha;exact ⟨by omega,h2⟩
  intro ad m' c' hv i u hi;cases hv;rw [WO h.len,List.getElem?_take]at hi
  split at hi
  · exact h.rv.cell ad _ c rfl i u hi
  cases hi
theorem RS.dropF(h:RS σ size enc (.slice a m c) l)(i:Nat)(hi:i<=l.length):RS σ size enc (.slice (if c=i then a else a.map (·.add (i * size))) (l.drop i).length (c - i)) (l.drop i):=by
  have hlj:(l.drop i).length=l.length - i:=by rw [List.length_drop]
  obtain ⟨a1,c1,hv,hn,hc⟩:=h.rv.sl;cases hv;rw [hlj];refine ⟨⟨⟨_,_,by rw [hlj],λha=> ?_,by omega⟩,by rw [yP h.len],?_,λu hu=>h.rv.one u (by rw [jj_ h.len]at hu;exact List.mem_of_mem_drop hu),by have:=h.rv.big;omega⟩,h.len⟩
  · split at ha
    · obtain ⟨h1,h2⟩:=hn ha;omega
    cases a with
    |none=>obtain ⟨h1,h2⟩:=hn rfl;omega
    |some ad=>simp at ha
  intro ad m' c' hv j u hj;rw [jj_ h.len,List.getElem?_drop]at hj;have hjl:=(List.getElem?_eq_some_iff.1 hj).1;rw [yP h.len]at hjl;have hil:i<l.length:=by
    rcases Nat.lt_or_ge i l.length with h1|h1
    · exact h1
    have:=Nat.mul_le_mul_right size h1;omega
  have hci: ¬ c=i:=by omega
  rw [if_neg hci]at hv;cases a with
  |none=>simp at hv
  |some a0=>
    simp only [Option.map_some,Value.slice.injEq,Option.some.injEq]at hv;obtain ⟨rfl,_⟩:=hv;rw [VB];exact h.rv.cell a0 _ c rfl _ u hj
theorem RS.sub(h:RS σ size enc (.slice a m c) l)(i j:Nat)(hij:i<=j/\j<=l.length): ∃(a':Option Addr) (c':Nat),RS σ size enc (.slice a' ((l.take j).drop i).length c') ((l.take j).drop i)/\
    ∀{P:Program} {n:Nat} {e:Env} {H:List Res} {o:Oper} {x y z:Operand} {T E:TypeId} {k k':IntKind} (_:o.op= .slice T x (some z) (some y) none) (_:P.underlying T=some (.slice E)) (_:szOf P E=some size) (_:ev e x= .slice a m c) (_:ev e z= .int k (i:Nat)) (_:ev e y= .int k' (j:Nat)),OpVal P n o e σ H (.slice a' ((l.take j).drop i).length c'):=by
  have hlj:(l.take j).length=j:=by rw [List.length_take];omega
  have hll:((l.take j).drop i).length=j - i:=by rw [List.length_drop,hlj]
  refine ⟨_,_,(h.takeF j hij.2).dropF i (by omega),?_⟩;obtain ⟨a1,c1,hv,hn,hc⟩:=h.rv.sl;cases hv;rw [hll];intro P n e H o x y z T E k k' ho hT hs hx hz hy w _;have hsz:=zO (P:=P) hs;have hrun:(Instr.slice T (.slice a l.length c) (some (.int k i)) (some (.int k' j)) none).run P w= .ok (.slice (if c=i then a else a.map (·.add (i * size))) (j - i) (c - i)) w:=by
    simp [Instr.slice,Instr.sliceBounds,Instr.sliceBound,asIntOf,run_underlying hT,hsz];rw [if_pos (show j<=c by omega),if_pos hij.1]
  simp [execOp,ho,hx,hz,hy,Instr.sliceAt,run_underlying hT,hrun]
end
theorem OpOk.do_{X:Ctx}{e:Env}{σ:ak}{F:List Res}{o:Oper}{x y:Operand}{K:Env->ak->List Res->Prop}{T b k:Nat}{E:TypeId}{cs cs':Array Value}{f:Fn}{xs ys:Array Value}(ho:o.op= .store T x y)(hs:szOf X.P T=some 1)(hd:o.dst=none)(hx:ev e x=loc b k)(hfit:Nat.ble (k+1) cs.size=true)
    (hv:ev e y= .func f xs ys) (hcs:(sF cs.toList k [.func f xs ys]).toArray=cs') (kk:K e σ (ω b cs' E::F)):OpOk X o e σ (ω b cs E::F) K:=OpOk.store1 ho hs hd hx hv rfl rfl hfit hcs kk
def SC(σ:ak)(b:Nat)(cs:Array Value)(E:TypeId):Prop:=σ b=some (.cells cs E (0,0))
theorem SC.big{σ:ak}{b:Nat}{cs:Array Value}{E:TypeId}(_:SC σ b cs E):True:=True.intro
end Go.E
end

noncomputable section
namespace Go.Proofs.YtcfgkcfcddfccaaGreatDoor
open Go Go.E Go.E.OpVal Go.E.OpOk Go.Proofs.Tryz
open List (replicate)
theorem ag192:aggOf Tryz.prog 192=some false:=by kernel_rfl
theorem QG:plainF Tryz.prog 156=true:=by kernel_rfl
theorem pf39:plainF Tryz.prog 39=true:=by kernel_rfl
theorem pf40:plainF Tryz.prog 40=true:=by kernel_rfl
theorem pf97:plainF Tryz.prog 97=true:=by kernel_rfl
theorem pf98:plainF Tryz.prog 98=true:=by kernel_rfl
theorem Qo:szOf Tryz.prog 192=some 1:=by kernel_rfl
theorem ze192:zeroOf Tryz.prog 192=some (.nilFunc):=by kernel_rfl
theorem qG:zeroOf Tryz.prog 32=some (aT):=by kernel_rfl
def YC(x2:aY)(x0:Int)(self_:Int->B_1->aY->Option B_1)(uy:B_1)(nY:Nat):Option ((B_1×Nat)⊕(B_1)):=
 aI (decide ((nY:Int)<((nth x2 x0.toNat []).length:Int))) (bnd (self_ (nth (nth x2 x0.toNat []) nY 0) uy x2) (λv21=>nxt (v21,(nY+1)))) (fin (some uy))
def Gr_(self_:Int->B_1->aY->Option B_1)(x0:Int)(x1:B_1)(x2:aY):Option (B_1):=
 grd (0<=x0/\x0<(x1.length:Int)) (aI (nth x1 x0.toNat false) (some x1) (grd (0<=x0/\x0<(x1.length:Int)) (grd (0<=x0/\x0<(x2.length:Int)) (aV (λq:B_1×Nat=>YC x2 x0 self_ q.1 q.2) ((x1.set x0.toNat true),0)))))
def PV:Nat->Int->B_1->aY->Option B_1
 |0=>λ_ _ _=>none
 |n+1=>Gr_ (PV n)
theorem Kq_ {self_:Int->B_1->aY->Option B_1} (self__con: ∀{σ:ak} {x0:Int} {x1:B_1} {ig:Nat} {yR:Nat} {cu:Option Addr} {b_:Nat} {x2:aY} {jk:Nat} {Bc:Nat} {nP:Option Addr} {nJ:Nat} {jO:Nat} {DV:Nat} (AB:RZ σ (bH 1 aB aW) (.slice nP x2.length nJ) x2) {r:B_1} (hh:self_ x0 x1 x2=some r),
  Con prog 156 #[.int .i64 x0,loc ig 0,loc jk 0,loc jO 0] σ [ω ig #[.slice cu x1.length b_] yR,dW 4 dL cu b_ x1,ω jk #[.slice nP x2.length nJ] Bc,ω jO #[.func (.func 156) #[] #[loc ig 0,loc jk 0,loc jO 0]] DV] (λv σ' H'=> ∃oL oK,v= .tuple #[]/\σ=σ'/\H'=[ω ig #[.slice oL r.length oK] yR,dW 4 dL oL oK r,ω jk #[.slice nP x2.length nJ] Bc,ω jO #[.func (.func 156) #[] #[loc ig 0,loc jk 0,loc jO 0]] DV])) {σ:ak} {x0:Int} {x1:B_1} {ig:Nat} {yR:Nat} {cu:Option Addr} {b_:Nat} {x2:aY} {jk:Nat} {Bc:Nat} {nP:Option Addr} {nJ:Nat} {jO:Nat} {DV:Nat} (AB:RZ σ (bH 1 aB aW) (.slice nP x2.length nJ) x2) {r:B_1} (hh:Gr_ self_ x0 x1 x2=some r):
  Con prog 156 #[.int .i64 x0,loc ig 0,loc jk 0,loc jO 0] σ [ω ig #[.slice cu x1.length b_] yR,dW 4 dL cu b_ x1,ω jk #[.slice nP x2.length nJ] Bc,ω jO #[.func (.func 156) #[] #[loc ig 0,loc jk 0,loc jO 0]] DV] (λv σ' H'=> ∃oL oK,v= .tuple #[]/\σ=σ'/\H'=[ω ig #[.slice oL r.length oK] yR,dW 4 dL oL oK r,ω jk #[.slice nP x2.length nJ] Bc,ω jO #[.func (.func 156) #[] #[loc ig 0,loc jk 0,loc jO 0]] DV]):=by
 dsimp only [Gr_]at hh;refine cM 27 Tryz.func156 (λw0=> ?_);refine TC.Uf (R5 ?_);obtain ⟨u3,hh⟩:=gd hh;refine TL.iS 1 z (λhs107=> ?_);refine R3 ?_;refine TC.cB z hh (λkX hh=> ?_) (λkX hh=> ?_)
 ·refine θ ?_;obtain rfl:=so hh;refine ⟨_,ψ [3,3,3,3] 4,?_⟩;exact ry
 refine R5 ?_;obtain ⟨u7,hh⟩:=gd hh;refine TL.iS 1 z (λhs109=> ?_);refine TL.w z iX (φ 1 z z ?_);have hn110:(x1.set x0.toNat true).length=x1.length:=by rw [eX]
 refine κ z (qp true z AZ z z z z wJ EL (by omega) (by omega) ?_);refine R5 ?_;obtain ⟨u11,hh⟩:=gd hh;refine TL.w z iX ?_;obtain ⟨Oy,KN,hg111⟩:=RZ.seg AB x0.toNat (by omega);replace KN:dV _ aB Oy.1 Oy.2 (nth x2 x0.toNat []):=KN;have hk111b:=KN.rv.big;refine TL.w z (OpVal.of (wP z oV z hg111 z) (v':= .slice Oy.1 ((nth x2 x0.toNat []).length) Oy.2) z) (R4 ?_);rw [<-hn110];refine TC.lp hh (cu,b_) (rgs [(6,1),(19,8)]) (λ⟨uy,nY⟩ ⟨X9,XD⟩=>([(19,.int .i64 (nY:Int))],[ω jO #[.func (.func 156) #[] #[loc ig 0,loc jk 0,loc jO 0]] DV,ω ig #[.slice X9 uy.length XD] yR,dW 4 dL X9 XD uy,ω jk #[.slice nP x2.length nJ] Bc])) (ψ [2,1,2,3] 4) ?_;rintro ⟨uy,nY⟩ ⟨X9,XD⟩ _ z1 hh hR1;dsimp only [YC]at hh ⊢;refine ξ 2 z (λGs=> ?_);refine R5 ?_;refine ι z hh (λuO hh=> ?_) (λuO hh=> ?_)
 ·refine R12 ?_;refine φ 3 z z (φ 3 z z (φ 3 z z ?_));obtain ⟨v21,u21,hh⟩:=bQ hh;refine κ z (OpOk.call (self__con AB u21) z z QG z z z z ?_);rintro _ _ _ mF ⟨a130_1,c130_2,rfl,rfl,rfl⟩;refine R5 ?_;exact nx hR1 hh (a130_1,c130_2) (ψ [2,2,2,3] 4)
 refine R1 ?_;replace hh:=bF hR1 hh;refine R1 ?_;obtain rfl:=so hh;refine ⟨_,ψ [3,3,3] 4,?_⟩;exact rz
theorem Ks_{n_:Nat}: ∀{σ:ak} {x0:Int} {x1:B_1} {ig:Nat} {yR:Nat} {cu:Option Addr} {b_:Nat} {x2:aY} {jk:Nat} {Bc:Nat} {nP:Option Addr} {nJ:Nat} {jO:Nat} {DV:Nat} (AB:RZ σ (bH 1 aB aW) (.slice nP x2.length nJ) x2) {r:B_1} (hh:PV n_ x0 x1 x2=some r),
  Con prog 156 #[.int .i64 x0,loc ig 0,loc jk 0,loc jO 0] σ [ω ig #[.slice cu x1.length b_] yR,dW 4 dL cu b_ x1,ω jk #[.slice nP x2.length nJ] Bc,ω jO #[.func (.func 156) #[] #[loc ig 0,loc jk 0,loc jO 0]] DV] (λv σ' H'=> ∃oL oK,v= .tuple #[]/\σ=σ'/\H'=[ω ig #[.slice oL r.length oK] yR,dW 4 dL oL oK r,ω jk #[.slice nP x2.length nJ] Bc,ω jO #[.func (.func 156) #[] #[loc ig 0,loc jk 0,loc jO 0]] DV]):=by
 induction n_ with
 |zero=>intro σ x0 x1 ig yR cu b_ x2 jk Bc nP nJ jO DV AB r hh;exact absurd hh (by intro h_;cases h_)
 |succ k_ ih_=>
  intro σ x0 x1 ig yR cu b_ x2 jk Bc nP nJ jO DV AB r hh;exact Kq_ (self_:=PV k_) @ih_ AB hh
def Yy(x0:List Tip)(x1:aY)(bT:B_1)(aU:Nat):Option ((B_1×Nat)⊕(B_1)):=
 aI (decide ((aU:Int)<(x0.length:Int))) (bnd (PV (bT.length+1) ((nth x0 aU bD).state) bT x1) (λv22=>nxt (v22,(aU+1)))) (fin (some bT))
def G8_(x0:List Tip)(x1:aY):Option (B_1):=
 grd (1 * x1.length<=281474976710656) (aV (λq:B_1×Nat=>Yy x0 x1 q.1 q.2) ((replicate x1.length false),0))
def Lm_(σ:ak)(r:B_1):Value->ak->List Res->Prop:=λv σ' H'=>
 ∃a1 c1,v= .slice a1 r.length c1/\σ=σ'/\H'=[dW 4 dL a1 c1 r]
theorem Jk_{σ:ak}{x0:List Tip}{x1:aY}(aA:RS σ 2 bg (.slice ay x0.length au) x0)(bU:RZ σ (bH 1 aB aW) (.slice bW x1.length bV) x1){r:B_1}(hh:G8_ x0 x1=some r):
  Con prog 98 #[.slice ay x0.length au,.slice bW x1.length bV] σ [] (Lm_ σ r):=by
 dsimp only [G8_]at hh;have f0_0b:=aA.rv.big;have f1_0b:=bU.big;refine cM 25 Tryz.func98 (λw0=> ?_);refine R2 ?_;refine κ z (OpOk.box z z z z (λaS=> ?_));refine R6 ?_;obtain ⟨u5,hh⟩:=gd hh;refine κ z (mk2 (enc:=dL) false (λqP qL=> ?_));refine TL.al (λyC=> ?_);refine R4 ?_;refine TL.al (λH7=> ?_);refine R3 ?_;refine TL.w z (cz_ z) (κ z (do_ z Qo z z z z z ?_));refine R9 ?_;refine TC.lp hh (qP,qL) (rgs [(8,1),(15,9)]) (λ⟨bT,aU⟩ ⟨tZ,tN⟩=>([(15,.int .i64 (aU:Int))],[ω yC #[.slice tZ bT.length tN] 33,dW 4 dL tZ tN bT,ω H7 #[.func (.func 156) #[] #[loc yC 0,loc aS 0,loc H7 0]] 192,ω aS #[.slice bW x1.length bV] 32])) (ψ [3,1,3,3] 4) ?_;rintro ⟨bT,aU⟩ ⟨tZ,tN⟩ _ z1 hh hR1;dsimp only [Yy]at hh ⊢;refine ξ 1 z (λhb125=> ?_);refine R5 ?_;refine ι z hh (λyc hh=> ?_) (λyc hh=> ?_)
 ·refine R7 ?_;refine TL.al (λb127=> ?_);refine R6 ?_;refine φ 3 z z (φ 4 z z (φ 4 z z (φ 4 z z ?_)));obtain ⟨v22,u22,hh⟩:=bQ hh;refine κ z (OpOk.call (Ks_ bU u22) z z QG z z z z ?_);rintro _ _ _ uI ⟨a129_1,c129_2,rfl,rfl,rfl⟩;refine R5 ?_;exact nx hR1 hh (a129_1,c129_2) (ψ [2,3,3,3] 4)
 refine R1 ?_;replace hh:=bF hR1 hh;refine R6 ?_;refine TC.iH (ψ [1] 1) (θ ?_);obtain rfl:=so hh;exact rz
def Ef_{Sy:Type}(bP:Nat)(Vo:Sy):Option ((Nat×Sy)⊕(Sy)):=
 nxt ((bP+1),Vo)
def PZ{Sy:Type}(v4:B_1)(v8:B_1)(Y:Sy->Int->Option (Sy×Bool))(bP:Nat)(D7:Sy):Option ((Nat×Sy)⊕(Sy)):=
 aI (decide ((bP:Int)<(v4.length:Int))) (aI (nth v4 bP false) (grd (bP<v8.length) (aI (nth v8 bP false) (bnd (Y D7 (bP:Int)) (λv30=>aI (!v30.2) (fin (some v30.1)) (Ef_ bP v30.1))) (Ef_ bP D7))) (Ef_ bP D7)) (fin (some D7))
def Gp_{Sy:Type}(Y:Sy->Int->Option (Sy×Bool))(s0:Sy)(x1:Fst)(x2:aY)(x3:aY):Option (Sy):=
 bnd (G8_ x1.starts x2) (λv4=>bnd (G8_ x1.ends x3) (λv8=>aV (λq:Nat×Sy=>PZ v4 v8 Y q.1 q.2) (0,s0)))
theorem Kn_{Sy:Type}{σ:ak}{Y:Sy->Int->Option (Sy×Bool)}{s0:Sy}{x1:Fst}{x2:aY}{x3:aY}(Lp:RS σ 2 bg (.slice cu x1.starts.length b_) x1.starts)(f1_6:RS σ 2 bg (.slice MF x1.ends.length LK) x1.ends)(f1_9:RS σ 8 dG (.slice MC x1.arcs.length LJ) x1.arcs)(AB:RZ σ (bH 1 aB aW) (.slice nP x2.length nJ) x2)(f3_3:RZ σ (bH 1 aB aW) (.slice L6 x3.length Lu) x3){r:Sy}(hh:Gp_ Y s0 x1 x2 x3=some r):
  t2_ prog 97 [loc ig 0,loc jk 0,loc jO 0] (λ(x:Int) _ vs=>vs=[.int .i64 x]) Y σ [ω ig (eP x1 cu b_ MF LK MC LJ) yR,ω jk #[.slice nP x2.length nJ] Bc,ω jO #[.slice L6 x3.length Lu] DV] s0 r (λσ' H'=>H'=[ω ig (eP x1 cu b_ MF LK MC LJ) yR,ω jk #[.slice nP x2.length nJ] Bc,ω jO #[.slice L6 x3.length Lu] DV]):=by
 intro l Z ry0 hY hys;dsimp only [Gp_]at hh;refine cM 38 Tryz.func97 (λw0=> ?_);refine TC.Uf (Ψ ?_);obtain ⟨v4,u4,hh⟩:=bQ hh;obtain ⟨v8,u8,hh⟩:=bQ hh;refine TC.draw [] (by kernel_rfl) (ν 0 z fL z (Δ 1 z lL z (Δ 2 z lL z (ν 4 z fL z (Δ 5 z lL z (Δ 6 z lL z (Φ 3 z (OpOk.call (Jk_ Lp AB u4) z z pf98 z z z z ?_))))))));rintro _ _ _ cO ⟨a113_1,c113_1,rfl,rfl,rfl⟩;refine k1 (Φ 7 z (OpOk.call (Jk_ f1_6 f3_3 u8) z z pf98 z z z z ?_));rintro _ _ _ kC ⟨a115_1,c115_1,rfl,rfl,rfl⟩;refine k2 (ν 8 z mS z (ν 9 z mS z (R8 ?_)));refine TC.zl (α:=(Nat×Sy)×(Res×ak)) (rgs [(7,1),(18,20)]) (λg=>[(18,.int .i64 (g.1.1:Int))]) (λg=>[dW 4 dL a113_1 c113_1 v4,dW 4 dL a115_1 c115_1 v8,ω ig (eP x1 cu b_ MF LK MC LJ) yR,ω jk #[.slice nP x2.length nJ] Bc,ω jO #[.slice L6 x3.length Lu] DV,g.2.1]) (λg=>g.2.2) (λg=>aV (λq:Nat×Sy=>PZ v4 v8 Y q.1 q.2) g.1=some r/\YR Z g.1.2 g.2.2 g.2.1/\ak.le σ g.2.2) (λg=>qI (λq:Nat×Sy=>PZ v4 v8 Y q.1 q.2) g.1) ((0,s0),(ry0,σ)) (ψ [2,5,5,5,4,5] 6) z (by repeat (first|exact trivial|refine ⟨z,?_⟩)) ⟨hh,hys,(ak.le.refl _)⟩ (λg1 j1 hg1=> ?_);obtain ⟨⟨bP,D7⟩,⟨Qr,τ129⟩⟩:=g1;obtain ⟨hh,hy128,mF⟩:=hg1
 try dsimp only at hy128 mF ⊢
 obtain ⟨z1,hh,hR1⟩:=yO hh;dsimp only [PZ]at hh;refine ξ 0 z (λK_=> ?_);refine ξ 1 z (λhb132=> ?_);refine R5 ?_;refine ι z hh (λrV hh=> ?_) (λrV hh=> ?_)
 ·refine R1 ?_;refine TC.cutG (α:=(Sy)×(Res×ak)) (rgs [(7,1),(20,17)]) (λg=>[]) (λg=>[dW 4 dL a113_1 c113_1 v4,dW 4 dL a115_1 c115_1 v8,ω ig (eP x1 cu b_ MF LK MC LJ) yR,ω jk #[.slice nP x2.length nJ] Bc,ω jO #[.slice L6 x3.length Lu] DV,g.2.1]) (λg=>g.2.2) (λg=>Ef_ bP g.1=some z1/\YR Z g.1 g.2.2 g.2.1/\ak.le τ129 g.2.2) ?_ (λg j hg=> ?_)
  ·refine R10 ?_;refine TL.iS 0 z (λhs137=> ?_);refine R3 ?_;refine Γ 25 z (λLh=> ?_) (λLh=> ?_)
   ·replace hh:=nT Lh hh;refine R2 ?_;obtain ⟨u24,hh⟩:=gd hh;refine TL.iS 1 z (λRn=> ?_);refine R4 ?_;refine Γ 31 z (λXg=> ?_) (λXg=> ?_)
    ·replace hh:=nT Xg hh;refine TL.g z (OpVal.mv (.inl z)) (TL.g z mI ?_);obtain ⟨v30,u30,hh⟩:=bQ hh;refine φ 5 z z (TL.gon z z z z z (callY hY hy128 u30 z z z z z z ?_));rintro τ141 ry141 WE hy141;refine R3 ?_;refine TC.cB z hh (λh142 hh=> ?_) (λh142 hh=> ?_)
     ·refine TC.iH (ψ [5,5,5,3] 4) (θ ?_);replace hh:=bF hR1 hh;obtain rfl:=so hh;refine ⟨_,ψ [3,3,3,3] 4,?_⟩;exact rz
     refine R1 ?_;exact cf (v30.1,(ry141,τ141)) ⟨hh,hy141,WE⟩ (ψ [5,5,5,5,5] 6)
    replace hh:=nS Xg hh;refine R8 ?_;exact cf (D7,(Qr,τ129)) ⟨hh,hy128,(ak.le.refl _)⟩ (ψ [5,5,5,5,5,5] 6)
   replace hh:=nS Lh hh;refine R14 ?_;exact cf (D7,(Qr,τ129)) ⟨hh,hy128,(ak.le.refl _)⟩ (ψ [5,5,5,5,5,5] 6)
  obtain ⟨Vo,⟨ry135,τ143⟩⟩:=g;obtain ⟨hh,Rj,ED⟩:=hg
  try dsimp only at Rj
  dsimp only at ED;replace hy128:=hy128.mono ED
  try dsimp only
  dsimp only [Ef_]at hh;refine ξ 0 z (λTJ=> ?_);refine ξ 1 z (λhb146=> ?_);refine R4 ?_;obtain ⟨hh,V7⟩:=wG hR1 hh;exact lf (((bP+1),Vo),(ry135,τ143)) V7 ⟨hh,Rj,(mF.trans ED)⟩ (ψ [5,5,5,5,5,5] 6)
 refine R1 ?_;replace hh:=bF hR1 hh;refine R1 ?_;obtain rfl:=so hh;refine ⟨_,ψ [4,4,4,5] 4,?_⟩;exact rz
def Hf_(x0:Fst)(bJ:Nat)(iO:aY)(jW:aY):Option ((aY×aY×Nat)⊕((Fst×aY×aY))):=
 grd (0<=((nth x0.arcs bJ aO).to)/\((nth x0.arcs bJ aO).to)<(iO.length:Int)) (grd (((nth iO (((nth x0.arcs bJ aO).to).toNat) []).length+[(nth x0.arcs bJ aO).frm].length) * 8<=140737488355328) (grd (0<=((nth x0.arcs bJ aO).to)/\((nth x0.arcs bJ aO).to)<(iO.length:Int)) (nxt ((jW.set (((nth x0.arcs bJ aO).frm).toNat) ((nth jW (((nth x0.arcs bJ aO).frm).toNat) [])++[(nth x0.arcs bJ aO).to])),(iO.set (((nth x0.arcs bJ aO).to).toNat) ((nth iO (((nth x0.arcs bJ aO).to).toNat) [])++[(nth x0.arcs bJ aO).frm])),(bJ+1)))))
def YA(x0:Fst)(jW:aY)(iO:aY)(bJ:Nat):Option ((aY×aY×Nat)⊕((Fst×aY×aY))):=
 aI (decide ((bJ:Int)<(x0.arcs.length:Int))) (grd (0<=((nth x0.arcs bJ aO).frm)/\((nth x0.arcs bJ aO).frm)<(jW.length:Int)) (grd (((nth jW (((nth x0.arcs bJ aO).frm).toNat) []).length+[(nth x0.arcs bJ aO).to].length) * 8<=140737488355328) (grd (0<=((nth x0.arcs bJ aO).frm)/\((nth x0.arcs bJ aO).frm)<(jW.length:Int)) (Hf_ x0 bJ iO jW)))) (fin (some (x0,jW,iO)))
def Hb_(x0:Fst):Option ((Fst×aY×aY)):=
 aV (λq:aY×aY×Nat=>YA x0 q.1 q.2.1 q.2.2) ((replicate x0.states.toNat ([]:aj)),(replicate x0.states.toNat ([]:aj)),0)
def Hn_(x0:Fst):Option ((Fst×aY×aY)):=
 grd (0<=x0.states/\24 * x0.states.toNat<=281474976710656) (grd (0<=x0.states/\24 * x0.states.toNat<=281474976710656) (Hb_ x0))
theorem K1_{σ:ak}{x0:Fst}(aA:RS σ 2 bg (.slice ay x0.starts.length au) x0.starts)(aG:RS σ 2 bg (.slice aC x0.ends.length aJ) x0.ends)(aH:RS σ 8 dG (.slice aK x0.arcs.length aF) x0.arcs){r:(Fst×aY×aY)}(hh:Hn_ x0=some r):
  Con prog 39 #[.agg (eP x0 ay au aC aJ aK aF)] σ [] (λv σ' H'=> ∃br10 Ug TY ar4 cr5 ar7 cr8 br14 ar11 cr12 br18 ar15 cr16,v= .func (.func 97) #[] #[loc br10 0,loc br14 0,loc br18 0]/\RS σ' 2 bg (.slice Ug r.1.starts.length TY) r.1.starts/\RS σ' 2 bg (.slice ar4 r.1.ends.length cr5) r.1.ends/\RS σ' 8 dG (.slice ar7 r.1.arcs.length cr8) r.1.arcs/\RZ σ' (bH 1 aB aW) (.slice ar11 r.2.1.length cr12) r.2.1/\RZ σ' (bH 1 aB aW) (.slice ar15 r.2.2.length cr16) r.2.2/\H'=[ω br10 (eP r.1 Ug TY ar4 cr5 ar7 cr8) 25,ω br14 #[.slice ar11 r.2.1.length cr12] 32,ω br18 #[.slice ar15 r.2.2.length cr16] 32]):=by
 dsimp only [Hn_]at hh;have f0_2b:=aH.rv.big;refine cM 48 Tryz.func39 (λw0=> ?_);refine R2 ?_;refine TL.bx (λjl=> ?_);refine TL.w z (OpVal.mv (.inr z)) (R1 ?_);refine TC.cutG (α:=(Unit)×(Nat×(Option Addr)×Nat×Nat×(Option Addr)×Nat)) (rgs [(3,2),(7,6)]) (λg=>[(3,loc g.2.1 0),(4,loc g.2.2.2.2.1 0)]) (λg=>[ω jl (eP x0 ay au aC aJ aK aF) 25,ω g.2.1 #[.slice g.2.2.1 ((replicate x0.states.toNat ([]:aj)).length) g.2.2.2.1] 32,Res.nest 31 3 1 aB (.slice g.2.2.1 (replicate x0.states.toNat ([]:aj)).length g.2.2.2.1) (replicate x0.states.toNat (sD:NP Int)),ω g.2.2.2.2.1 #[.slice g.2.2.2.2.2.1 ((replicate x0.states.toNat ([]:aj)).length) g.2.2.2.2.2.2] 32,Res.nest 31 3 1 aB (.slice g.2.2.2.2.2.1 (replicate x0.states.toNat ([]:aj)).length g.2.2.2.2.2.2) (replicate x0.states.toNat (sD:NP Int))]) (λg=>σ) (λg=>Hb_ x0=some r/\Zn (replicate x0.states.toNat (sD:NP Int)) (replicate x0.states.toNat ([]:aj))/\Zn (replicate x0.states.toNat (sD:NP Int)) (replicate x0.states.toNat ([]:aj))) ?_ (λg j hg=> ?_)
 ·obtain ⟨u5,hh⟩:=gd hh;obtain ⟨u8,hh⟩:=gd hh;refine TC.cw_ (Hr:=[ω jl (eP x0 ay au aC aJ aK aF) 25]) (λr hr=>wI [0] z hr) [] (by kernel_rfl) (ν 0 z fL z (Δ 1 z lL z (ν 3 z fL z (Δ 4 z lL z ?_))));refine TA.actN [2,5,6,7] (by kernel_rfl) (an rfl rfl (oH (q:=x0.states.toNat) (E:=3) (size:=1) (enc:=aB) rfl jH ji kY jI rfl rfl (vN u5.1) (vN u5.1) (by omega) (by decide) rfl (λwS rZ u_=>(k1 ?_))) (an rfl rfl (oH (q:=x0.states.toNat) (E:=3) (size:=1) (enc:=aB) rfl jH ji kY jI rfl rfl (vN u8.1) (vN u8.1) (by omega) (by decide) rfl (λa139 nM zC=>(k1 ?_))) (an rfl rfl (OpOk.alloc rfl qG rfl rfl (λDp=>(k1 ?_))) (an rfl rfl (OpOk.alloc rfl qG rfl rfl (λDn=>(k1 ?_))) (True.intro)))))
  ·refine TA.actN [5,6,7] (by kernel_rfl) (an rfl rfl (oH (q:=x0.states.toNat) (E:=3) (size:=1) (enc:=aB) rfl jH ji kY jI rfl rfl (vN u8.1) (vN u8.1) (by omega) (by decide) rfl (λa147 c148 Ql=>(k2 ?_))) (an rfl rfl (OpOk.alloc rfl qG rfl rfl (λXJ=>(k2 ?_))) (an rfl rfl (OpOk.alloc rfl qG rfl rfl (λXI=>(k2 ?_))) (True.intro))))
   ·refine TA.actN [6,7] (by kernel_rfl) (an z z (OpOk.alloc z qG z z (λb155=>(k3 ?_))) (an z z (OpOk.alloc z qG z z (λPn=>(k3 ?_))) (True.intro)))
    ·refine Φ 7 z (OpOk.alloc z qG z z (λb159=>(kc 4 ?_)));refine Θ 1 z z (Φ 8 z (gJ z jc z z z z z (kc 4 ?_)));refine Θ 1 z z (Φ 9 z (gJ z jc z z z z z (kc 4 ?_)));refine R1 ?_;exact cf ((),(b155,wS,rZ,b159,a147,c148)) ⟨hh,u_,Ql⟩ (ψ [2,1,3,3,4] 5)
    refine Φ 6 z (OpOk.alloc z qG z z (λb161=>(kc 4 ?_)));refine Φ 8 z (gJ z jc z z z z z (kc 4 ?_));refine Θ 1 z z (Φ 9 z (gJ z jc z z z z z (kc 4 ?_)));refine R1 ?_;exact cf ((),(b161,wS,rZ,Pn,a147,c148)) ⟨hh,u_,Ql⟩ (ψ [2,1,3,3,4] 5)
   ·refine TA.actN [5,7] (by kernel_rfl) (an rfl rfl (oH (q:=x0.states.toNat) (E:=3) (size:=1) (enc:=aB) rfl jH ji kY jI rfl rfl (vN u8.1) (vN u8.1) (by omega) (by decide) rfl (λtY c164 IZ=>(k3 ?_))) (an rfl rfl (OpOk.alloc rfl qG rfl rfl (λb167=>(k3 ?_))) (True.intro)))
    ·refine Φ 7 z (OpOk.alloc z qG z z (λb169=>(kc 4 ?_)));refine Θ 2 z z (Φ 8 z (gJ z jc z z z z z (kc 4 ?_)));refine Θ 1 z z (Φ 9 z (gJ z jc z z z z z (kc 4 ?_)));refine R1 ?_;exact cf ((),(XJ,wS,rZ,b169,tY,c164)) ⟨hh,u_,IZ⟩ (ψ [2,1,3,3,4] 5)
    refine TA.actN [5,8] (by kernel_rfl) (an rfl rfl (oH (q:=x0.states.toNat) (E:=3) (size:=1) (enc:=aB) rfl jH ji kY jI rfl rfl (vN u8.1) (vN u8.1) (by omega) (by decide) rfl (λa171 XA zf173=>(kc 4 ?_))) (an rfl rfl (OpOk.front 1 rfl rfl (gJ rfl jc rfl rfl rfl rfl rfl (k3 ?_))) (True.intro)))
    ·refine Θ 2 z z (Φ 8 z (gJ z jc z z z z z (kc 4 ?_)));refine Θ 2 z z (Φ 9 z (gJ z jc z z z z z (kc 4 ?_)));refine R1 ?_;exact cf ((),(XJ,wS,rZ,b167,a171,XA)) ⟨hh,u_,zf173⟩ (ψ [2,1,3,3,4] 5)
    refine Φ 5 rfl (oH (q:=x0.states.toNat) (E:=3) (size:=1) (enc:=aB) rfl jH ji kY jI rfl rfl (vN u8.1) (vN u8.1) (by omega) (by decide) rfl (λa175 c176 zf177=>(kc 4 ?_)));refine Θ 2 z z (Φ 9 z (gJ z jc z z z z z (kc 4 ?_)));refine R1 ?_;exact cf ((),(XJ,wS,rZ,b167,a175,c176)) ⟨hh,u_,zf177⟩ (ψ [1,1,3,3,4] 5)
   refine TA.actN [5,6] (by kernel_rfl) (an rfl rfl (oH (q:=x0.states.toNat) (E:=3) (size:=1) (enc:=aB) rfl jH ji kY jI rfl rfl (vN u8.1) (vN u8.1) (by omega) (by decide) rfl (λX6 Xz zf181=>(k3 ?_))) (an rfl rfl (OpOk.alloc rfl qG rfl rfl (λb183=>(k3 ?_))) (True.intro)))
   ·refine Φ 6 z (OpOk.alloc z qG z z (λb185=>(kc 4 ?_)));refine Φ 8 z (gJ z jc z z z z z (kc 4 ?_));refine Θ 2 z z (Φ 9 z (gJ z jc z z z z z (kc 4 ?_)));refine R1 ?_;exact cf ((),(b185,wS,rZ,XI,X6,Xz)) ⟨hh,u_,zf181⟩ (ψ [2,1,3,3,4] 5)
   refine TA.actN [5,8] (by kernel_rfl) (an rfl rfl (oH (q:=x0.states.toNat) (E:=3) (size:=1) (enc:=aB) rfl jH ji kY jI rfl rfl (vN u8.1) (vN u8.1) (by omega) (by decide) rfl (λX5 Xy zf189=>(kc 4 ?_))) (an rfl rfl (gJ rfl jc rfl rfl rfl rfl rfl (k3 ?_)) (True.intro)))
   ·refine Θ 1 z z (Φ 8 z (gJ z jc z z z z z (kc 4 ?_)));refine Θ 2 z z (Φ 9 z (gJ z jc z z z z z (kc 4 ?_)));refine R1 ?_;exact cf ((),(b183,wS,rZ,XI,X5,Xy)) ⟨hh,u_,zf189⟩ (ψ [2,1,3,3,4] 5)
   refine Φ 5 rfl (oH (q:=x0.states.toNat) (E:=3) (size:=1) (enc:=aB) rfl jH ji kY jI rfl rfl (vN u8.1) (vN u8.1) (by omega) (by decide) rfl (λa191 c192 zf193=>(kc 4 ?_)));refine Θ 2 z z (Φ 9 z (gJ z jc z z z z z (kc 4 ?_)));refine R1 ?_;exact cf ((),(b183,wS,rZ,XI,a191,c192)) ⟨hh,u_,zf193⟩ (ψ [1,1,3,3,4] 5)
  ·refine TA.actN [2,6,7] (by kernel_rfl) (an rfl rfl (oH (q:=x0.states.toNat) (E:=3) (size:=1) (enc:=aB) rfl jH ji kY jI rfl rfl (vN u5.1) (vN u5.1) (by omega) (by decide) rfl (λa195 c196 Qj=>(k2 ?_))) (an rfl rfl (OpOk.alloc rfl qG rfl rfl (λb199=>(k2 ?_))) (an rfl rfl (OpOk.alloc rfl qG rfl rfl (λb201=>(k2 ?_))) (True.intro))))
   ·refine TA.actN [6,7] (by kernel_rfl) (an z z (OpOk.alloc z qG z z (λb203=>(k3 ?_))) (an z z (OpOk.alloc z qG z z (λb205=>(k3 ?_))) (True.intro)))
    ·refine Φ 7 z (OpOk.alloc z qG z z (λb207=>(kc 4 ?_)));refine Θ 1 z z (Φ 8 z (gJ z jc z z z z z (kc 4 ?_)));refine Θ 1 z z (Φ 9 z (gJ z jc z z z z z (kc 4 ?_)));refine R1 ?_;exact cf ((),(b203,a195,c196,b207,a139,nM)) ⟨hh,Qj,zC⟩ (ψ [3,1,3,3,4] 5)
    refine Φ 6 z (OpOk.alloc z qG z z (λb209=>(kc 4 ?_)));refine Φ 8 z (gJ z jc z z z z z (kc 4 ?_));refine Θ 1 z z (Φ 9 z (gJ z jc z z z z z (kc 4 ?_)));refine R1 ?_;exact cf ((),(b209,a195,c196,b205,a139,nM)) ⟨hh,Qj,zC⟩ (ψ [3,1,3,3,4] 5)
   ·refine TA.actN [2,7] (by kernel_rfl) (an rfl rfl (oH (q:=x0.states.toNat) (E:=3) (size:=1) (enc:=aB) rfl jH ji kY jI rfl rfl (vN u5.1) (vN u5.1) (by omega) (by decide) rfl (λa211 c212 zf213=>(k3 ?_))) (an rfl rfl (OpOk.alloc rfl qG rfl rfl (λb215=>(k3 ?_))) (True.intro)))
    ·refine Φ 7 z (OpOk.alloc z qG z z (λb217=>(kc 4 ?_)));refine Θ 2 z z (Φ 8 z (gJ z jc z z z z z (kc 4 ?_)));refine Θ 1 z z (Φ 9 z (gJ z jc z z z z z (kc 4 ?_)));refine R1 ?_;exact cf ((),(b199,a211,c212,b217,a139,nM)) ⟨hh,zf213,zC⟩ (ψ [3,1,3,3,4] 5)
    refine Φ 2 rfl (oH (q:=x0.states.toNat) (E:=3) (size:=1) (enc:=aB) rfl jH ji kY jI rfl rfl (vN u5.1) (vN u5.1) (by omega) (by decide) rfl (λa219 c220 zf221=>(kc 4 ?_)));refine Θ 2 z z (Φ 8 z (gJ z jc z z z z z (kc 4 ?_)));refine Θ 2 z z (Φ 9 z (gJ z jc z z z z z (kc 4 ?_)));refine R1 ?_;exact cf ((),(b199,a219,c220,b215,a139,nM)) ⟨hh,zf221,zC⟩ (ψ [3,1,3,3,4] 5)
   refine TA.actN [2,6] (by kernel_rfl) (an rfl rfl (oH (q:=x0.states.toNat) (E:=3) (size:=1) (enc:=aB) rfl jH ji kY jI rfl rfl (vN u5.1) (vN u5.1) (by omega) (by decide) rfl (λa223 c224 zf225=>(k3 ?_))) (an rfl rfl (OpOk.alloc rfl qG rfl rfl (λb227=>(k3 ?_))) (True.intro)))
   ·refine Φ 6 z (OpOk.alloc z qG z z (λPm=>(kc 4 ?_)));refine Φ 8 z (gJ z jc z z z z z (kc 4 ?_));refine Θ 2 z z (Φ 9 z (gJ z jc z z z z z (kc 4 ?_)));refine R1 ?_;exact cf ((),(Pm,a223,c224,b201,a139,nM)) ⟨hh,zf225,zC⟩ (ψ [3,1,3,3,4] 5)
   refine Φ 2 rfl (oH (q:=x0.states.toNat) (E:=3) (size:=1) (enc:=aB) rfl jH ji kY jI rfl rfl (vN u5.1) (vN u5.1) (by omega) (by decide) rfl (λa231 c232 zf233=>(kc 4 ?_)));refine Θ 1 z z (Φ 8 z (gJ z jc z z z z z (kc 4 ?_)));refine Θ 2 z z (Φ 9 z (gJ z jc z z z z z (kc 4 ?_)));refine R1 ?_;exact cf ((),(b227,a231,c232,b201,a139,nM)) ⟨hh,zf233,zC⟩ (ψ [3,1,3,3,4] 5)
  ·refine TA.actN [2,5,7] (by kernel_rfl) (an rfl rfl (oH (q:=x0.states.toNat) (E:=3) (size:=1) (enc:=aB) rfl jH ji kY jI rfl rfl (vN u5.1) (vN u5.1) (by omega) (by decide) rfl (λX3 c236 IW=>(k2 ?_))) (an rfl rfl (oH (q:=x0.states.toNat) (E:=3) (size:=1) (enc:=aB) rfl jH ji kY jI rfl rfl (vN u8.1) (vN u8.1) (by omega) (by decide) rfl (λa239 c240 Qi=>(k2 ?_))) (an rfl rfl (OpOk.alloc rfl qG rfl rfl (λXH=>(k2 ?_))) (True.intro))))
   ·refine TA.actN [5,7] (by kernel_rfl) (an rfl rfl (oH (q:=x0.states.toNat) (E:=3) (size:=1) (enc:=aB) rfl jH ji kY jI rfl rfl (vN u8.1) (vN u8.1) (by omega) (by decide) rfl (λa245 c246 zf247=>(k3 ?_))) (an rfl rfl (OpOk.alloc rfl qG rfl rfl (λb249=>(k3 ?_))) (True.intro)))
    ·refine Φ 7 z (OpOk.alloc z qG z z (λb251=>(kc 4 ?_)));refine Θ 3 z z (Φ 8 z (gJ z jc z z z z z (kc 4 ?_)));refine Θ 1 z z (Φ 9 z (gJ z jc z z z z z (kc 4 ?_)));refine R1 ?_;exact cf ((),(Dp,X3,c236,b251,a245,c246)) ⟨hh,IW,zf247⟩ (ψ [2,1,3,3,4] 5)
    refine TA.actN [5,8] (by kernel_rfl) (an rfl rfl (oH (q:=x0.states.toNat) (E:=3) (size:=1) (enc:=aB) rfl jH ji kY jI rfl rfl (vN u8.1) (vN u8.1) (by omega) (by decide) rfl (λa253 c254 zf255=>(kc 4 ?_))) (an rfl rfl (OpOk.front 2 rfl rfl (gJ rfl jc rfl rfl rfl rfl rfl (k3 ?_))) (True.intro)))
    ·refine Θ 3 z z (Φ 8 z (gJ z jc z z z z z (kc 4 ?_)));refine Θ 2 z z (Φ 9 z (gJ z jc z z z z z (kc 4 ?_)));refine R1 ?_;exact cf ((),(Dp,X3,c236,b249,a253,c254)) ⟨hh,IW,zf255⟩ (ψ [2,1,3,3,4] 5)
    refine Φ 5 rfl (oH (q:=x0.states.toNat) (E:=3) (size:=1) (enc:=aB) rfl jH ji kY jI rfl rfl (vN u8.1) (vN u8.1) (by omega) (by decide) rfl (λa257 c258 IV=>(kc 4 ?_)));refine Θ 2 z z (Φ 9 z (gJ z jc z z z z z (kc 4 ?_)));refine R1 ?_;exact cf ((),(Dp,X3,c236,b249,a257,c258)) ⟨hh,IW,IV⟩ (ψ [1,1,3,3,4] 5)
   ·refine TA.actN [2,7] (by kernel_rfl) (an rfl rfl (oH (q:=x0.states.toNat) (E:=3) (size:=1) (enc:=aB) rfl jH ji kY jI rfl rfl (vN u5.1) (vN u5.1) (by omega) (by decide) rfl (λa261 c262 zf263=>(k3 ?_))) (an rfl rfl (OpOk.alloc rfl qG rfl rfl (λLU=>(k3 ?_))) (True.intro)))
    ·refine Φ 7 z (OpOk.alloc z qG z z (λb267=>(kc 4 ?_)));refine Θ 3 z z (Φ 8 z (gJ z jc z z z z z (kc 4 ?_)));refine Θ 1 z z (Φ 9 z (gJ z jc z z z z z (kc 4 ?_)));refine R1 ?_;exact cf ((),(Dp,a261,c262,b267,a239,c240)) ⟨hh,zf263,Qi⟩ (ψ [3,1,3,3,4] 5)
    refine Φ 2 rfl (oH (q:=x0.states.toNat) (E:=3) (size:=1) (enc:=aB) rfl jH ji kY jI rfl rfl (vN u5.1) (vN u5.1) (by omega) (by decide) rfl (λDu Dh zf271=>(kc 4 ?_)));refine Θ 3 z z (Φ 8 z (gJ z jc z z z z z (kc 4 ?_)));refine Θ 2 z z (Φ 9 z (gJ z jc z z z z z (kc 4 ?_)));refine R1 ?_;exact cf ((),(Dp,Du,Dh,LU,a239,c240)) ⟨hh,zf271,Qi⟩ (ψ [3,1,3,3,4] 5)
   refine TA.actN [2,5] (by kernel_rfl) (an rfl rfl (oH (q:=x0.states.toNat) (E:=3) (size:=1) (enc:=aB) rfl jH ji kY jI rfl rfl (vN u5.1) (vN u5.1) (by omega) (by decide) rfl (λa273 c274 Qe=>(k3 ?_))) (an rfl rfl (oH (q:=x0.states.toNat) (E:=3) (size:=1) (enc:=aB) rfl jH ji kY jI rfl rfl (vN u8.1) (vN u8.1) (by omega) (by decide) rfl (λa277 c278 zf279=>(k3 ?_))) (True.intro)))
   ·refine TA.actN [5,8] (by kernel_rfl) (an rfl rfl (oH (q:=x0.states.toNat) (E:=3) (size:=1) (enc:=aB) rfl jH ji kY jI rfl rfl (vN u8.1) (vN u8.1) (by omega) (by decide) rfl (λa281 c282 zf283=>(kc 4 ?_))) (an rfl rfl (OpOk.front 2 rfl rfl (gJ rfl jc rfl rfl rfl rfl rfl (k3 ?_))) (True.intro)))
    ·refine Θ 3 z z (Φ 8 z (gJ z jc z z z z z (kc 4 ?_)));refine Θ 3 z z (Φ 9 z (gJ z jc z z z z z (kc 4 ?_)));refine R1 ?_;exact cf ((),(Dp,a273,c274,XH,a281,c282)) ⟨hh,Qe,zf283⟩ (ψ [2,1,3,3,4] 5)
    refine Φ 5 rfl (oH (q:=x0.states.toNat) (E:=3) (size:=1) (enc:=aB) rfl jH ji kY jI rfl rfl (vN u8.1) (vN u8.1) (by omega) (by decide) rfl (λXZ Xt zf287=>(kc 4 ?_)));refine Θ 3 z z (Φ 9 z (gJ z jc z z z z z (kc 4 ?_)));refine R1 ?_;exact cf ((),(Dp,a273,c274,XH,XZ,Xt)) ⟨hh,Qe,zf287⟩ (ψ [1,1,3,3,4] 5)
   refine Φ 2 rfl (oH (q:=x0.states.toNat) (E:=3) (size:=1) (enc:=aB) rfl jH ji kY jI rfl rfl (vN u5.1) (vN u5.1) (by omega) (by decide) rfl (λa289 c290 zf291=>(kc 4 ?_)));refine Θ 3 z z (Φ 8 z (gJ z jc z z z z z (kc 4 ?_)));refine Θ 3 z z (Φ 9 z (gJ z jc z z z z z (kc 4 ?_)));refine R1 ?_;exact cf ((),(Dp,a289,c290,XH,a277,c278)) ⟨hh,zf291,zf279⟩ (ψ [3,1,3,3,4] 5)
  refine TA.actN [2,5,6] (by kernel_rfl) (an rfl rfl (oH (q:=x0.states.toNat) (E:=3) (size:=1) (enc:=aB) rfl jH ji kY jI rfl rfl (vN u5.1) (vN u5.1) (by omega) (by decide) rfl (λXY Xr IL=>(k2 ?_))) (an rfl rfl (oH (q:=x0.states.toNat) (E:=3) (size:=1) (enc:=aB) rfl jH ji kY jI rfl rfl (vN u8.1) (vN u8.1) (by omega) (by decide) rfl (λa297 c298 lV=>(k2 ?_))) (an rfl rfl (OpOk.alloc rfl qG rfl rfl (λXG=>(k2 ?_))) (True.intro))))
  ·refine TA.actN [5,6] (by kernel_rfl) (an rfl rfl (oH (q:=x0.states.toNat) (E:=3) (size:=1) (enc:=aB) rfl jH ji kY jI rfl rfl (vN u8.1) (vN u8.1) (by omega) (by decide) rfl (λa303 c304 zf305=>(k3 ?_))) (an rfl rfl (OpOk.alloc rfl qG rfl rfl (λb307=>(k3 ?_))) (True.intro)))
   ·refine Φ 6 z (OpOk.alloc z qG z z (λb309=>(kc 4 ?_)));refine Φ 8 z (gJ z jc z z z z z (kc 4 ?_));refine Θ 3 z z (Φ 9 z (gJ z jc z z z z z (kc 4 ?_)));refine R1 ?_;exact cf ((),(b309,XY,Xr,Dn,a303,c304)) ⟨hh,IL,zf305⟩ (ψ [2,1,3,3,4] 5)
   refine TA.actN [5,8] (by kernel_rfl) (an rfl rfl (oH (q:=x0.states.toNat) (E:=3) (size:=1) (enc:=aB) rfl jH ji kY jI rfl rfl (vN u8.1) (vN u8.1) (by omega) (by decide) rfl (λa311 c312 zf313=>(kc 4 ?_))) (an rfl rfl (gJ rfl jc rfl rfl rfl rfl rfl (k3 ?_)) (True.intro)))
   ·refine Θ 1 z z (Φ 8 z (gJ z jc z z z z z (kc 4 ?_)));refine Θ 3 z z (Φ 9 z (gJ z jc z z z z z (kc 4 ?_)));refine R1 ?_;exact cf ((),(b307,XY,Xr,Dn,a311,c312)) ⟨hh,IL,zf313⟩ (ψ [2,1,3,3,4] 5)
   refine Φ 5 rfl (oH (q:=x0.states.toNat) (E:=3) (size:=1) (enc:=aB) rfl jH ji kY jI rfl rfl (vN u8.1) (vN u8.1) (by omega) (by decide) rfl (λa315 c316 zf317=>(kc 4 ?_)));refine Θ 3 z z (Φ 9 z (gJ z jc z z z z z (kc 4 ?_)));refine R1 ?_;exact cf ((),(b307,XY,Xr,Dn,a315,c316)) ⟨hh,IL,zf317⟩ (ψ [1,1,3,3,4] 5)
  ·refine TA.actN [2,6] (by kernel_rfl) (an rfl rfl (oH (q:=x0.states.toNat) (E:=3) (size:=1) (enc:=aB) rfl jH ji kY jI rfl rfl (vN u5.1) (vN u5.1) (by omega) (by decide) rfl (λa319 c320 kL=>(k3 ?_))) (an rfl rfl (OpOk.alloc rfl qG rfl rfl (λb323=>(k3 ?_))) (True.intro)))
   ·refine Φ 6 z (OpOk.alloc z qG z z (λb325=>(kc 4 ?_)));refine Φ 8 z (gJ z jc z z z z z (kc 4 ?_));refine Θ 3 z z (Φ 9 z (gJ z jc z z z z z (kc 4 ?_)));refine R1 ?_;exact cf ((),(b325,a319,c320,Dn,a297,c298)) ⟨hh,kL,lV⟩ (ψ [3,1,3,3,4] 5)
   refine Φ 2 rfl (oH (q:=x0.states.toNat) (E:=3) (size:=1) (enc:=aB) rfl jH ji kY jI rfl rfl (vN u5.1) (vN u5.1) (by omega) (by decide) rfl (λa327 c328 zf329=>(kc 4 ?_)));refine Θ 1 z z (Φ 8 z (gJ z jc z z z z z (kc 4 ?_)));refine Θ 3 z z (Φ 9 z (gJ z jc z z z z z (kc 4 ?_)));refine R1 ?_;exact cf ((),(b323,a327,c328,Dn,a297,c298)) ⟨hh,zf329,lV⟩ (ψ [3,1,3,3,4] 5)
  refine TA.actN [2,5] (by kernel_rfl) (an rfl rfl (oH (q:=x0.states.toNat) (E:=3) (size:=1) (enc:=aB) rfl jH ji kY jI rfl rfl (vN u5.1) (vN u5.1) (by omega) (by decide) rfl (λAV AL zA=>(k3 ?_))) (an rfl rfl (oH (q:=x0.states.toNat) (E:=3) (size:=1) (enc:=aB) rfl jH ji kY jI rfl rfl (vN u8.1) (vN u8.1) (by omega) (by decide) rfl (λa335 c336 zf337=>(k3 ?_))) (True.intro)))
  ·refine TA.actN [5,8] (by kernel_rfl) (an rfl rfl (oH (q:=x0.states.toNat) (E:=3) (size:=1) (enc:=aB) rfl jH ji kY jI rfl rfl (vN u8.1) (vN u8.1) (by omega) (by decide) rfl (λa339 c340 zf341=>(kc 4 ?_))) (an rfl rfl (OpOk.front 1 rfl rfl (gJ rfl jc rfl rfl rfl rfl rfl (k3 ?_))) (True.intro)))
   ·refine Θ 2 z z (Φ 8 z (gJ z jc z z z z z (kc 4 ?_)));refine Θ 3 z z (Φ 9 z (gJ z jc z z z z z (kc 4 ?_)));refine R1 ?_;exact cf ((),(XG,AV,AL,Dn,a339,c340)) ⟨hh,zA,zf341⟩ (ψ [2,1,3,3,4] 5)
   refine Φ 5 rfl (oH (q:=x0.states.toNat) (E:=3) (size:=1) (enc:=aB) rfl jH ji kY jI rfl rfl (vN u8.1) (vN u8.1) (by omega) (by decide) rfl (λa343 c344 zf345=>(kc 4 ?_)));refine Θ 3 z z (Φ 9 z (gJ z jc z z z z z (kc 4 ?_)));refine R1 ?_;exact cf ((),(XG,AV,AL,Dn,a343,c344)) ⟨hh,zA,zf345⟩ (ψ [1,1,3,3,4] 5)
  refine Φ 2 rfl (oH (q:=x0.states.toNat) (E:=3) (size:=1) (enc:=aB) rfl jH ji kY jI rfl rfl (vN u5.1) (vN u5.1) (by omega) (by decide) rfl (λwQ wL zf349=>(kc 4 ?_)));refine Θ 2 z z (Φ 8 z (gJ z jc z z z z z (kc 4 ?_)));refine Θ 3 z z (Φ 9 z (gJ z jc z z z z z (kc 4 ?_)));refine R1 ?_;exact cf ((),(XG,wQ,wL,Dn,a335,c336)) ⟨hh,zf349,zf337⟩ (ψ [3,1,3,3,4] 5)
 obtain ⟨_,⟨H6,qO,qK,LV,o_,o7⟩⟩:=g;obtain ⟨hh,Fg,qV⟩:=hg
 try dsimp only at Fg qV ⊢
 dsimp only [Hb_]at hh;have zf116b:=Fg.len;have zf122b:=qV.len;refine TC.know (zf (q:=2) z Fg) (λ⟨_,Tm⟩=> ?_);refine TC.know (zf (q:=4) z qV) (λ⟨_,hb352⟩=> ?_);refine R9 ?_;refine TC.lk hh ((replicate x0.states.toNat (sD:NP Int)),(replicate x0.states.toNat (sD:NP Int))) (rgs [(6,1),(16,31)]) (λ⟨_,iO,bJ⟩ ⟨GH,zU⟩=>([(16,.int .i64 (bJ:Int))],[ω jl (eP x0 ay au aC aJ aK aF) 25,ω H6 #[.slice qO ((replicate x0.states.toNat ([]:aj)).length) qK] 32,Res.nest 31 3 1 aB (.slice qO (replicate x0.states.toNat ([]:aj)).length qK) GH,ω LV #[.slice o_ iO.length o7] 32,Res.nest 31 3 1 aB (.slice o_ iO.length o7) zU])) (λ⟨jW,iO,_⟩ ⟨GH,zU⟩=>jW.length=(replicate x0.states.toNat ([]:aj)).length/\Zn GH jW/\Zn zU iO) ⟨z,Fg,qV⟩ (ψ [4,4,4,4,4] 5) ?_;rintro ⟨jW,iO,bJ⟩ ⟨GH,zU⟩ _ z1 hh hR1 ⟨FW,mV,zx⟩;dsimp only [YA]at hh FW mV zx ⊢;have zf374b:=mV.len;have zf377b:=zx.len;refine TC.know (zf (q:=2) z mV) (λ⟨_,hb379⟩=> ?_);refine TC.know (zf (q:=4) z zx) (λ⟨_,hb380⟩=> ?_);refine R5 ?_;refine ι z hh (λh381 hh=> ?_) (λh381 hh=> ?_)
 ·refine R7 ?_;refine TL.al (λXF=> ?_);refine R2 ?_;refine TC.cutG (α:=(Unit)×((List (NP Int)))) (rgs [(20,13)]) (λg=>[]) (λg=>[ω jl (eP x0 ay au aC aJ aK aF) 25,ω H6 #[.slice qO ((replicate x0.states.toNat ([]:aj)).length) qK] 32,Res.nest 31 3 1 aB (.slice qO (replicate x0.states.toNat ([]:aj)).length qK) g.2,ω LV #[.slice o_ iO.length o7] 32,Res.nest 31 3 1 aB (.slice o_ iO.length o7) zU,ω XF #[.int .i64 ((nth x0.arcs bJ aO).frm),.int .i64 ((nth x0.arcs bJ aO).to),.int .u64 (((nth x0.arcs bJ aO).set).a:Int),.int .u64 (((nth x0.arcs bJ aO).set).b:Int),.int .u64 (((nth x0.arcs bJ aO).set).c:Int),.int .u64 (((nth x0.arcs bJ aO).set).d:Int),.string (bs ((nth x0.arcs bJ aO).out)),.bool ((nth x0.arcs bJ aO).copy)] 49]) (λg=>σ) (λg=>Hf_ x0 bJ iO jW=some z1/\(jW.set (((nth x0.arcs bJ aO).frm).toNat) ((nth jW (((nth x0.arcs bJ aO).frm).toNat) [])++[(nth x0.arcs bJ aO).to])).length=(replicate x0.states.toNat ([]:aj)).length/\Zn g.2 (jW.set (((nth x0.arcs bJ aO).frm).toNat) ((nth jW (((nth x0.arcs bJ aO).frm).toNat) [])++[(nth x0.arcs bJ aO).to]))/\Zn zU iO) ?_ (λg j hg=> ?_)
  ·obtain ⟨u28,hh⟩:=gd hh;obtain ⟨u33,hh⟩:=gd hh;obtain ⟨u34,hh⟩:=gd hh;refine TC.cw_ (Hr:=[ω XF #[.int .i64 ((nth x0.arcs bJ aO).frm),.int .i64 ((nth x0.arcs bJ aO).to),.int .u64 (((nth x0.arcs bJ aO).set).a:Int),.int .u64 (((nth x0.arcs bJ aO).set).b:Int),.int .u64 (((nth x0.arcs bJ aO).set).c:Int),.int .u64 (((nth x0.arcs bJ aO).set).d:Int),.string (bs ((nth x0.arcs bJ aO).out)),.bool ((nth x0.arcs bJ aO).copy)] 49,ω jl (eP x0 ay au aC aJ aK aF) 25,ω H6 #[.slice qO ((replicate x0.states.toNat ([]:aj)).length) qK] 32,ω LV #[.slice o_ iO.length o7] 32,Res.nest 31 3 1 aB (.slice o_ iO.length o7) zU]) (λr hr=>wI [0,1,2,4,5] z hr) [] (by kernel_rfl) (Δ 0 z lL z (ν 1 z fL z (Δ 2 z lL z (Δ 3 z lL z (ν 4 z fL z (Δ 5 z lL z (TA.know (zf (q:=3) z mV) (λ⟨hs399,hs399b⟩=> ?_))))))));refine Δ 6 z iX z (ν 8 z fL z (Δ 9 z lL z ?_));obtain ⟨p400,Rf,SV⟩:=Zn.at mV (i:=((nth x0.arcs bJ aO).frm).toNat) (by omega);refine TA.actN [7,10] (by kernel_rfl) (an z z (OpVal.ok (O_ z oV z (q:=3) z Rf SV) z z ⟨(λw h=>um (ak.le.refl _) (λr hr=>wI [0,1,2,4,5] z hr) w h),?_⟩) (an z z (gX (enc:=aB) [(nth x0.arcs bJ aO).to] (λa401 c402=>⟨(λw h=>um (ak.le.refl _) (λr hr=>wI [1,2,3,5,6] z hr) w h),?_⟩)) (True.intro)))
   ·refine Φ 10 z (gX (enc:=aB) [(nth x0.arcs bJ aO).to] (λa404 c405=>⟨(λw h=>um (ak.le.refl _) (λr hr=>wI [1,2,3,5,6] z hr) w h),?_⟩));refine Θ 4 z z (TA.by (λw h=>Reach.takeN Rf SV h) (Φ 11 z (apF (.inr ⟨_,1,z⟩) u33 (λXT Xn=>(k3 ?_)))));refine TA.know (ZT (q:=1) z mV) (λ⟨hs410,hs410b⟩=> ?_);refine Δ 12 z iX z (Θ 1 z z (Θ 1 z z ?_));have hn412:(jW.set (((nth x0.arcs bJ aO).frm).toNat) ((nth jW (((nth x0.arcs bJ aO).frm).toNat) [])++[(nth x0.arcs bJ aO).to])).length=(replicate x0.states.toNat ([]:aj)).length:=(eX ..).trans FW;refine Φ 13 rfl (Z9 (l':=((nth jW (((nth x0.arcs bJ aO).frm).toNat) [])++[(nth x0.arcs bJ aO).to])) rfl ji rfl rfl rfl rfl rfl (by rw [mV.len];omega) mV (λzf411=>(k2 ?_)));refine R1 ?_;exact cf ((),(GH.set (((nth x0.arcs bJ aO).frm).toNat) (((nth jW (((nth x0.arcs bJ aO).frm).toNat) [])++[(nth x0.arcs bJ aO).to]),(XT,Xn)))) ⟨hh,hn412,zf411,zx⟩ (ψ [2,6,6,3,6,6] 6)
   obtain ⟨p413,Q_,SS⟩:=Zn.at mV (i:=((nth x0.arcs bJ aO).frm).toNat) (by omega);refine Φ 7 z (OpVal.ok (O_ z oV z (q:=4) z Q_ SS) z z ⟨(λw h=>um (ak.le.refl _) (λr hr=>wI [1,2,3,5,6] z hr) w h),?_⟩);refine Θ 4 z z (TA.by (λw h=>Reach.takeN Q_ SS h) (Φ 11 z (apF (.inr ⟨_,1,z⟩) u33 (λa415 c416=>(k3 ?_)))));refine TA.know (ZT (q:=1) z mV) (λ⟨hs417,hs417b⟩=> ?_);refine Δ 12 z iX z (Θ 1 z z (Θ 1 z z ?_));have hn419:(jW.set (((nth x0.arcs bJ aO).frm).toNat) ((nth jW (((nth x0.arcs bJ aO).frm).toNat) [])++[(nth x0.arcs bJ aO).to])).length=(replicate x0.states.toNat ([]:aj)).length:=(eX ..).trans FW;refine Φ 13 rfl (Z9 (l':=((nth jW (((nth x0.arcs bJ aO).frm).toNat) [])++[(nth x0.arcs bJ aO).to])) rfl ji rfl rfl rfl rfl rfl (by rw [mV.len];omega) mV (λzf418=>(k2 ?_)));refine R1 ?_;exact cf ((),(GH.set (((nth x0.arcs bJ aO).frm).toNat) (((nth jW (((nth x0.arcs bJ aO).frm).toNat) [])++[(nth x0.arcs bJ aO).to]),(a415,c416)))) ⟨hh,hn419,zf418,zx⟩ (ψ [2,6,6,3,6,6] 6)
  obtain ⟨_,U9⟩:=g;obtain ⟨hh,JJ,Bd,oI⟩:=hg
  try dsimp only at JJ Bd oI ⊢
  dsimp only [Hf_]at hh;have zf386b:=Bd.len;have zf387b:=oI.len;refine TC.know (zf (q:=2) z Bd) (λ⟨_,hb420⟩=> ?_);refine TC.know (zf (q:=4) z oI) (λ⟨_,hb421⟩=> ?_);obtain ⟨u42,hh⟩:=gd hh;obtain ⟨DX,hh⟩:=gd hh;obtain ⟨u48,hh⟩:=gd hh;refine TC.cw_ (Hr:=[ω jl (eP x0 ay au aC aJ aK aF) 25,ω H6 #[.slice qO ((replicate x0.states.toNat ([]:aj)).length) qK] 32,Res.nest 31 3 1 aB (.slice qO (replicate x0.states.toNat ([]:aj)).length qK) U9,ω LV #[.slice o_ iO.length o7] 32,ω XF #[.int .i64 ((nth x0.arcs bJ aO).frm),.int .i64 ((nth x0.arcs bJ aO).to),.int .u64 (((nth x0.arcs bJ aO).set).a:Int),.int .u64 (((nth x0.arcs bJ aO).set).b:Int),.int .u64 (((nth x0.arcs bJ aO).set).c:Int),.int .u64 (((nth x0.arcs bJ aO).set).d:Int),.string (bs ((nth x0.arcs bJ aO).out)),.bool ((nth x0.arcs bJ aO).copy)] 49]) (λr hr=>wI [0,1,2,3,5] z hr) [] (by kernel_rfl) (Δ 0 z lL z (ν 1 z fL z (Δ 2 z lL z (Δ 3 z lL z (ν 4 z fL z (Δ 5 z lL z (TA.know (zf (q:=4) z oI) (λ⟨hs433,hs433b⟩=> ?_))))))));refine Δ 6 z iX z (ν 8 z fL z (Δ 9 z lL z ?_));obtain ⟨p434,Q9,SQ⟩:=Zn.at oI (i:=((nth x0.arcs bJ aO).to).toNat) (by omega);refine TA.actN [7,10] (by kernel_rfl) (an z z (OpVal.ok (O_ z oV z (q:=4) z Q9 SQ) z z ⟨(λw h=>um (ak.le.refl _) (λr hr=>wI [0,1,2,3,5] z hr) w h),?_⟩) (an z z (gX (enc:=aB) [(nth x0.arcs bJ aO).frm] (λa435 c436=>⟨(λw h=>um (ak.le.refl _) (λr hr=>wI [1,2,3,4,6] z hr) w h),?_⟩)) (True.intro)))
  ·refine Φ 10 z (gX (enc:=aB) [(nth x0.arcs bJ aO).frm] (λa438 c439=>⟨(λw h=>um (ak.le.refl _) (λr hr=>wI [1,2,3,4,6] z hr) w h),?_⟩));refine Θ 5 z z (TA.by (λw h=>Reach.takeN Q9 SQ h) (Φ 11 z (apF (.inr ⟨_,1,z⟩) DX (λXR Xm=>(k3 ?_)))));refine TA.know (ZT (q:=1) z oI) (λ⟨hs444,hs444b⟩=> ?_);refine Δ 12 z iX z (Θ 1 z z (Θ 1 z z ?_));have hn446:(iO.set (((nth x0.arcs bJ aO).to).toNat) ((nth iO (((nth x0.arcs bJ aO).to).toNat) [])++[(nth x0.arcs bJ aO).frm])).length=iO.length:=(eX ..).trans rfl;refine Φ 13 rfl (Z9 (l':=((nth iO (((nth x0.arcs bJ aO).to).toNat) [])++[(nth x0.arcs bJ aO).frm])) rfl ji rfl rfl rfl rfl rfl (by rw [oI.len];omega) oI (λzf445=>(k2 ?_)));refine R4 ?_;rw [<-hn446];refine R1 ?_;exact nk hR1 hh (U9,(zU.set (((nth x0.arcs bJ aO).to).toNat) (((nth iO (((nth x0.arcs bJ aO).to).toNat) [])++[(nth x0.arcs bJ aO).frm]),(XR,Xm)))) (ψ [5,5,5,5] 5) ⟨JJ,Bd,zf445⟩
  obtain ⟨p448,Q8,SN⟩:=Zn.at oI (i:=((nth x0.arcs bJ aO).to).toNat) (by omega);refine Φ 7 z (OpVal.ok (O_ z oV z (q:=5) z Q8 SN) z z ⟨(λw h=>um (ak.le.refl _) (λr hr=>wI [1,2,3,4,6] z hr) w h),?_⟩);refine Θ 5 z z (TA.by (λw h=>Reach.takeN Q8 SN h) (Φ 11 z (apF (.inr ⟨_,1,z⟩) DX (λa450 c451=>(k3 ?_)))));refine TA.know (ZT (q:=1) z oI) (λ⟨hs452,hs452b⟩=> ?_);refine Δ 12 z iX z (Θ 1 z z (Θ 1 z z ?_));have hn454:(iO.set (((nth x0.arcs bJ aO).to).toNat) ((nth iO (((nth x0.arcs bJ aO).to).toNat) [])++[(nth x0.arcs bJ aO).frm])).length=iO.length:=(eX ..).trans rfl;refine Φ 13 rfl (Z9 (l':=((nth iO (((nth x0.arcs bJ aO).to).toNat) [])++[(nth x0.arcs bJ aO).frm])) rfl ji rfl rfl rfl rfl rfl (by rw [oI.len];omega) oI (λzf453=>(k2 ?_)));refine R4 ?_;rw [<-hn454];refine R1 ?_;exact nk hR1 hh (U9,(zU.set (((nth x0.arcs bJ aO).to).toNat) (((nth iO (((nth x0.arcs bJ aO).to).toNat) [])++[(nth x0.arcs bJ aO).frm]),(a450,c451)))) (ψ [5,5,5,5] 5) ⟨JJ,Bd,zf453⟩
 refine R1 ?_;replace hh:=bF hR1 hh;refine R3 ?_;refine TL.w z (cz_ z) (TL.w z (b6_ (.inr z) z) (R1 ?_));rw [<-FW];refine TC.front 2 z z (TC.c3_ (λw h=>Reach.bn_ aW mV h) (λτ458 Ep Ru=> ?_));replace aA:=aA.mono Ep;replace aG:=aG.mono Ep;replace aH:=aH.mono Ep;refine TC.front 3 z z (TC.c3_ (λw h=>Reach.bn_ aW zx h) (λτ461 Am hr459=> ?_));replace aA:=aA.mono Am;replace aG:=aG.mono Am;replace aH:=aH.mono Am;replace Ru:=Ru.mono Am;have hr459b:=hr459.big;refine θ ?_;obtain rfl:=so hh;exact rz
def Uu(dX:aj)(kG:Nat)(GL:Int):Option (Nat×(aj×Nat)):=
 grd (0<=GL/\GL<(dX.length:Int)) (grd (kG+1<=9223372036854775807) (some (0,((dX.set GL.toNat (kG:Int)),(kG+1)))))
def G7_(nC:Nat)(Jq:List Tip):Option (((List Tip)×Nat)⊕(Fst×Int)):=
 nxt (Jq,(nC+1))
def G5_(ny:Nat)(l215:List Tip):Option (((List Tip)×Nat)⊕(Fst×Int)):=
 nxt (l215,(ny+1))
def F7_(gU:Nat)(l257:List Arc):Option (((List Arc)×Nat)⊕(Fst×Int)):=
 nxt (l257,(gU+1))
def Yn(x0:Fst)(dX:aj)(kG:Nat)(jC:List Tip)(ng:List Tip)(sQ:List Arc)(gU:Nat):Option (((List Arc)×Nat)⊕(Fst×Int)):=
 aI (decide ((gU:Int)<(x0.arcs.length:Int))) (grd (0<=((nth x0.arcs gU aO).frm)/\((nth x0.arcs gU aO).frm)<(dX.length:Int)) (grd (0<=((nth x0.arcs gU aO).to)/\((nth x0.arcs gU aO).to)<(dX.length:Int)) (aI (decide (0<=(nth dX (((nth x0.arcs gU aO).frm).toNat) 0))) (aI (decide (0<=(nth dX (((nth x0.arcs gU aO).to).toNat) 0))) (grd ((sQ.length+[(⟨(nth dX (((nth x0.arcs gU aO).frm).toNat) 0),(nth dX (((nth x0.arcs gU aO).to).toNat) 0),(nth x0.arcs gU aO).set,(nth x0.arcs gU aO).out,(nth x0.arcs gU aO).copy⟩:Arc)].length) * 72<=140737488355328) (F7_ gU (sQ++[(⟨(nth dX (((nth x0.arcs gU aO).frm).toNat) 0),(nth dX (((nth x0.arcs gU aO).to).toNat) 0),(nth x0.arcs gU aO).set,(nth x0.arcs gU aO).out,(nth x0.arcs gU aO).copy⟩:Arc)]))) (F7_ gU sQ)) (F7_ gU sQ)))) (fin (bnd (MH (⟨(kG:Int),jC,ng,sQ⟩:Fst)) (λv145=>some (v145.1,v145.2))))
def Yu(x0:Fst)(dX:aj)(kG:Nat)(jC:List Tip)(ng:List Tip)(ny:Nat):Option (((List Tip)×Nat)⊕(Fst×Int)):=
 aI (decide ((ny:Int)<(x0.ends.length:Int))) (grd (0<=((nth x0.ends ny bD).state)/\((nth x0.ends ny bD).state)<(dX.length:Int)) (aI (decide (0<=(nth dX (((nth x0.ends ny bD).state).toNat) 0))) (grd ((ng.length+[(⟨(nth dX (((nth x0.ends ny bD).state).toNat) 0),(nth x0.ends ny bD).out⟩:Tip)].length) * 24<=140737488355328) (G5_ ny (ng++[(⟨(nth dX (((nth x0.ends ny bD).state).toNat) 0),(nth x0.ends ny bD).out⟩:Tip)]))) (G5_ ny ng))) (fin (aV (λq:(List Arc)×Nat=>Yn x0 dX kG jC ng q.1 q.2) (([]:List Arc),0)))
def Yt(x0:Fst)(dX:aj)(kG:Nat)(jC:List Tip)(nC:Nat):Option (((List Tip)×Nat)⊕(Fst×Int)):=
 aI (decide ((nC:Int)<(x0.starts.length:Int))) (grd (0<=((nth x0.starts nC bD).state)/\((nth x0.starts nC bD).state)<(dX.length:Int)) (aI (decide (0<=(nth dX (((nth x0.starts nC bD).state).toNat) 0))) (grd ((jC.length+[(⟨(nth dX (((nth x0.starts nC bD).state).toNat) 0),(nth x0.starts nC bD).out⟩:Tip)].length) * 24<=140737488355328) (G7_ nC (jC++[(⟨(nth dX (((nth x0.starts nC bD).state).toNat) 0),(nth x0.starts nC bD).out⟩:Tip)]))) (G7_ nC jC))) (fin (aV (λq:(List Tip)×Nat=>Yu x0 dX kG jC q.1 q.2) (([]:List Tip),0)))
def I2_(x0:Fst)(jz:Nat)(dX:aj)(kG:Nat):Option (Fst×Int):=
 jsel jz (aV (λq:(List Tip)×Nat=>Yt x0 dX kG q.1 q.2) (([]:List Tip),0)) (λ_=>none)
def Ym(x0:Fst)(jD:aj)(oU:Nat):Option ((aj×Nat)⊕(Fst×Int)):=
 aI (decide ((oU:Int)<((replicate x0.states.toNat (0:Int)).length:Int))) (grd (oU<jD.length) (nxt ((jD.set oU (-1)),(oU+1)))) (fin (bnd (Hn_ x0) (λv29=>bnd (Gp_ (yN (λ(q:aj×Nat) (x:Int)=>Uu q.1 q.2 x)) (0,(jD,0)) (⟨v29.1.states,v29.1.starts,v29.1.ends,v29.1.arcs⟩:Fst) v29.2.1 v29.2.2) (λzr4=>I2_ x0 zr4.1 zr4.2.1 zr4.2.2))))
def Yh(x0:Fst):Option (Fst×Int):=
 bnd (IE x0) (λv5=>aI (decide (v5≠0)) (some ((⟨0,([]:List Tip),([]:List Tip),([]:List Arc)⟩:Fst),1)) (grd (0<=x0.states/\8 * x0.states.toNat<=281474976710656) (aV (λq:aj×Nat=>Ym x0 q.1 q.2) ((replicate x0.states.toNat (0:Int)),0))))
theorem J6_{σ:ak}{x0:Fst}(aA:RS σ 2 bg (.slice ay x0.starts.length au) x0.starts)(aG:RS σ 2 bg (.slice aC x0.ends.length aJ) x0.ends)(aH:RS σ 8 dG (.slice aK x0.arcs.length aF) x0.arcs){r:Fst×Int}(hh:Yh x0=some r):
  Con prog 12 #[.agg (eP x0 ay au aC aJ aK aF)] σ [] (MK σ r):=by
 dsimp only [Yh]at hh;have f0_0b:=aA.rv.big;have f0_1b:=aG.rv.big;have f0_2b:=aH.rv.big;refine cM 136 Tryz.func12 (λw0=> ?_);refine R2 ?_;refine TL.bx (λaS=> ?_);refine TL.al (λbn=> ?_);refine R6 ?_;obtain ⟨v5,u5,hh⟩:=bQ hh;refine κ z (eG (Ut (x0:=x0) aA aG aH u5) z z Qn z z z ?_);refine R2 ?_;refine ι z hh (λbM hh=> ?_) (λbM hh=> ?_)
 ·refine R6 ?_;refine TC.rt 1 ?_;obtain rfl:=so hh;exact rz
 refine R5 ?_;obtain ⟨u12,hh⟩:=gd hh;refine κ rfl (IC (m:=x0.states.toNat) (enc:=aB) (0:Int) rfl yT lG T_ Fh rfl rfl (vN u12.1) (vN u12.1) (by omega) (by decide) aW (by decide) rfl vX (λkK c107=> ?_));refine TL.al (λjl=> ?_);refine R10 ?_;refine TC.lk hh () (rgs [(5,1),(27,7)]) (λ⟨jD,oU⟩ _=>([(27,.int .i64 (oU:Int))],[ω aS (eP x0 ay au aC aJ aK aF) 25,ω bn #[.int .i64 0,aT,aT,aT] 25,ω jl #[.slice kK ((replicate x0.states.toNat (0:Int)).length) c107] 31,ε 3 1 aB (.slice kK (replicate x0.states.toNat (0:Int)).length c107) jD])) (λ⟨jD,_⟩ _=>jD.length=(replicate x0.states.toNat (0:Int)).length) z (ψ [1,1,2,3] 4) ?_;rintro ⟨jD,oU⟩ _ _ z1 hh hR1 vM;dsimp only [Ym]at hh vM ⊢;refine ξ 3 z (λhb120=> ?_);refine R5 ?_;refine ι z hh (λyg hh=> ?_) (λyg hh=> ?_)
 ·refine R11 ?_;obtain ⟨u23,hh⟩:=gd hh;refine TL.iS 3 z (λhs122=> ?_);refine TL.w z iN (φ 3 z z ?_);have jG:(jD.set oU (-1)).length=(replicate x0.states.toNat (0:Int)).length:=by rw [eX];exact vM
  refine κ z (qp (-1) z lG z z z z aW vX (by omega) (by omega) ?_);refine R5 ?_;exact nk hR1 hh () (ψ [3,3,3] 4) jG
 refine R1 ?_;replace hh:=bF hR1 hh;refine R3 ?_;refine TL.al (λAU=> ?_);refine R5 ?_;obtain ⟨v29,u29,hh⟩:=bQ hh;refine κ z (OpOk.call (K1_ aA aG aH u29) z z pf39 z z z z ?_);rintro _ τ127 _ oC ⟨b127_10,a127_1,c127_2,a127_4,c127_5,a127_7,c127_8,b127_14,a127_11,c127_12,b127_18,a127_15,c127_16,rfl,f127_3,f127_6,f127_9,f127_13,f127_17,rfl⟩;replace aA:=aA.mono oC;replace aG:=aG.mono oC;replace aH:=aH.mono oC;have f127_13b:=f127_13.big;refine R2 ?_;refine TC.iH (ψ [2,2,2,3,7,7,7,7] 8) ?_;obtain ⟨zr4,hz4,hh⟩:=bQ hh;obtain ⟨jz4,⟨dX,kG⟩⟩:=zr4;dsimp only at hh;refine TC.dc_ (A:=(λ(x:Int) _ vs=>vs=[.int .i64 x])) [] (λ(q:aj×Nat) (x:Int)=>Uu q.1 q.2 x) (λ(q:aj×Nat) (τ146:ak) Hs=>Hs=[ω aS (eP x0 ay au aC aJ aK aF) 25,ω bn #[.int .i64 0,aT,aT,aT] 25,ω jl #[.slice kK ((replicate x0.states.toNat (0:Int)).length) c107] 31,ε 3 1 aB (.slice kK (replicate x0.states.toNat (0:Int)).length c107) q.1,ω AU #[.int .i64 (q.2:Int),aT,aT,aT] 25]/\q.1.length=(replicate x0.states.toNat (0:Int)).length) (s:=(jD,0)) rfl pf97 rfl rfl (by rintro _ _ _ _ ⟨rfl,CV⟩ hle_;exact ⟨rfl,CV⟩) ⟨rfl,vM⟩ (λ_ _ _ h_=>by subst h_;rfl) (Kn_ f127_3 f127_6 f127_9 f127_13 f127_17 hz4) ?_ ?_
 ·clear hh hz4;rintro l_ _ _ _ τ146 ⟨dX,kG⟩ GL z4 _ _ hh pY rfl ⟨rfl,CV⟩;dsimp only [Uu]at hh;replace aA:=aA.mono pY;replace aG:=aG.mono pY;replace aH:=aH.mono pY;show TC _ _ _ (upds _ [(36,.int .i64 GL)]) τ146 [ω aS (eP x0 ay au aC aJ aK aF) 25,ω bn #[.int .i64 0,aT,aT,aT] 25,ω jl #[.slice kK ((replicate x0.states.toNat (0:Int)).length) c107] 31,ε 3 1 aB (.slice kK (replicate x0.states.toNat (0:Int)).length c107) dX,ω AU #[.int .i64 (kG:Int),aT,aT,aT] 25];refine ξ 3 z (λhb148=> ?_);refine R3 ?_;refine asg_n (λ_ _ _=> ?_);refine R7 ?_;obtain ⟨u35,hh⟩:=gd hh;refine TL.iS 3 z (λhs149=> ?_);refine TL.w z iX (φ 3 z z ?_);have pV:(dX.set GL.toNat (kG:Int)).length=(replicate x0.states.toNat (0:Int)).length:=by rw [eX];exact CV
  refine κ z (qp (kG:Int) z lG z z z z aW vX (by omega) (by omega) ?_);refine R4 ?_;obtain ⟨u39,hh⟩:=gd hh;refine R2 ?_;refine φ 4 z z (R2 ?_);refine B.n ?_;obtain rfl:=so hh;exact rnd_n ⟨z,_,ψ [1,4,4,4] 5,⟨z,pV⟩⟩
 rintro τ146 _ _ pY ⟨rfl,CV⟩ ⟨rfl⟩;replace aA:=aA.mono pY;replace aG:=aG.mono pY;replace aH:=aH.mono pY;dsimp only [I2_]at hh;show jmpQ _ _ _ _ _ τ146 [ω aS (eP x0 ay au aC aJ aK aF) 25,ω bn #[.int .i64 0,aT,aT,aT] 25,ω jl #[.slice kK ((replicate x0.states.toNat (0:Int)).length) c107] 31,ε 3 1 aB (.slice kK (replicate x0.states.toNat (0:Int)).length c107) dX,ω AU #[.int .i64 (kG:Int),aT,aT,aT] 25,ω b127_10 (eP v29.1 a127_1 c127_2 a127_4 c127_5 a127_7 c127_8) 25,ω b127_14 #[.slice a127_11 v29.2.1.length c127_12] 32,ω b127_18 #[.slice a127_15 v29.2.2.length c127_16] 32];refine rm_ hh ?_ ?_ <;>clear hh
 ·intro hh;refine R9 ?_;refine TC.nilS 79 2 bg (TC.lk hh (nO,oO) (rgs [(9,2),(49,21)]) (λ⟨jC,nC⟩ ⟨a167,c168⟩=>([(49,.int .i64 (nC:Int))],[ω aS (eP x0 ay au aC aJ aK aF) 25,ω bn #[.int .i64 0,aT,aT,aT] 25,ω jl #[.slice kK ((replicate x0.states.toNat (0:Int)).length) c107] 31,ε 3 1 aB (.slice kK (replicate x0.states.toNat (0:Int)).length c107) dX,ω AU #[.int .i64 (kG:Int),.slice a167 jC.length c168,aT,aT] 25,ε 79 2 bg (.slice a167 jC.length c168) jC])) (λ⟨_,_⟩ ⟨_,_⟩=>dX.length=(replicate x0.states.toNat (0:Int)).length) CV (ψ [5,5,5,5,5] 6) ?_);rintro ⟨jC,nC⟩ ⟨a167,c168⟩ _ z1 hh hR1 vH;dsimp only [Yt]at hh vH ⊢;refine ξ 3 z (λhb171=> ?_);refine ξ 5 z (λhb172=> ?_);refine R5 ?_;refine ι z hh (λXb hh=> ?_) (λXb hh=> ?_)
  ·refine R1 ?_;refine TC.cutG (α:=((List Tip))×((Option Addr)×Nat)) (rgs [(9,2),(51,18)]) (λg=>[]) (λg=>[ω aS (eP x0 ay au aC aJ aK aF) 25,ω bn #[.int .i64 0,aT,aT,aT] 25,ω jl #[.slice kK ((replicate x0.states.toNat (0:Int)).length) c107] 31,ε 3 1 aB (.slice kK (replicate x0.states.toNat (0:Int)).length c107) dX,ω AU #[.int .i64 (kG:Int),.slice g.2.1 g.1.length g.2.2,aT,aT] 25,ε 79 2 bg (.slice g.2.1 g.1.length g.2.2) g.1]) (λg=>τ146) (λg=>G7_ nC g.1=some z1/\dX.length=(replicate x0.states.toNat (0:Int)).length) ?_ (λg j hg=> ?_)
   ·refine R5 ?_;refine TL.al (λb178=> ?_);refine R7 ?_;obtain ⟨u54,hh⟩:=gd hh;refine TL.iS 4 z (λhs180=> ?_);refine R9 ?_;refine ι z hh (λh181 hh=> ?_) (λh181 hh=> ?_)
    ·refine R7 ?_;refine κ z (gX (enc:=bg) [(⟨(nth dX (((nth x0.starts nC bD).state).toNat) 0),(nth x0.starts nC bD).out⟩:Tip)] (λa182 c183=> ?_));refine φ 7 z z ?_;obtain ⟨u66,hh⟩:=gd hh;refine κ z (apF (.inr ⟨_,0,z⟩) u66 (λa185 c186=> ?_));refine TL.w z fL (φ 7 z z (R2 ?_));exact cf ((jC++[(⟨(nth dX (((nth x0.starts nC bD).state).toNat) 0),(nth x0.starts nC bD).out⟩:Tip)]),(a185,c186)) ⟨hh,vH⟩ (ψ [1,1,7,7,7,7] 6)
    refine R1 ?_;exact cf (jC,(a167,c168)) ⟨hh,vH⟩ (ψ [6,6,6,6,6,6] 6)
   obtain ⟨Jq,⟨uV,uS⟩⟩:=g;obtain ⟨hh,SA⟩:=hg
   try dsimp only at SA ⊢
   dsimp only [G7_]at hh;refine ξ 3 z (λhb187=> ?_);refine ξ 5 z (λhb188=> ?_);refine R4 ?_;exact nk hR1 hh (uV,uS) (ψ [5,5,5,5,5,5] 6) SA
  refine R1 ?_;replace hh:=bF hR1 hh;refine R10 ?_;refine TC.nilS 79 2 bg (TC.lk hh (nO,oO) (rgs [(12,2),(73,21)]) (λ⟨ng,ny⟩ ⟨a206,nK⟩=>([(73,.int .i64 (ny:Int))],[ω aS (eP x0 ay au aC aJ aK aF) 25,ω bn #[.int .i64 0,aT,aT,aT] 25,ω jl #[.slice kK ((replicate x0.states.toNat (0:Int)).length) c107] 31,ε 3 1 aB (.slice kK (replicate x0.states.toNat (0:Int)).length c107) dX,ω AU #[.int .i64 (kG:Int),.slice a167 jC.length c168,.slice a206 ng.length nK,aT] 25,ε 79 2 bg (.slice a167 jC.length c168) jC,ε 79 2 bg (.slice a206 ng.length nK) ng])) (λ⟨_,_⟩ ⟨_,_⟩=>dX.length=(replicate x0.states.toNat (0:Int)).length) vH (ψ [6,6,6,6,6,6] 7) ?_);rintro ⟨ng,ny⟩ ⟨a206,nK⟩ _ z1 hh hR1 F7;dsimp only [Yu]at hh F7 ⊢;refine ξ 3 z (λhb210=> ?_);refine ξ 5 z (λTD=> ?_);refine ξ 6 z (λhb212=> ?_);refine R5 ?_;refine ι z hh (λh213 hh=> ?_) (λh213 hh=> ?_)
  ·refine R1 ?_;refine TC.cutG (α:=((List Tip))×((Option Addr)×Nat)) (rgs [(12,2),(75,18)]) (λg=>[]) (λg=>[ω aS (eP x0 ay au aC aJ aK aF) 25,ω bn #[.int .i64 0,aT,aT,aT] 25,ω jl #[.slice kK ((replicate x0.states.toNat (0:Int)).length) c107] 31,ε 3 1 aB (.slice kK (replicate x0.states.toNat (0:Int)).length c107) dX,ω AU #[.int .i64 (kG:Int),.slice a167 jC.length c168,.slice g.2.1 g.1.length g.2.2,aT] 25,ε 79 2 bg (.slice a167 jC.length c168) jC,ε 79 2 bg (.slice g.2.1 g.1.length g.2.2) g.1]) (λg=>τ146) (λg=>G5_ ny g.1=some z1/\dX.length=(replicate x0.states.toNat (0:Int)).length) ?_ (λg j hg=> ?_)
   ·refine R5 ?_;refine TL.al (λb218=> ?_);refine R7 ?_;obtain ⟨u83,hh⟩:=gd hh;refine TL.iS 4 z (λhs220=> ?_);refine R9 ?_;refine ι z hh (λW_ hh=> ?_) (λW_ hh=> ?_)
    ·refine R7 ?_;refine κ z (gX (enc:=bg) [(⟨(nth dX (((nth x0.ends ny bD).state).toNat) 0),(nth x0.ends ny bD).out⟩:Tip)] (λa222 Dj=> ?_));refine φ 8 z z ?_;obtain ⟨u95,hh⟩:=gd hh;refine κ z (apF (.inr ⟨_,0,z⟩) u95 (λa225 c226=> ?_));refine TL.w z fL (φ 7 z z (R2 ?_));exact cf ((ng++[(⟨(nth dX (((nth x0.ends ny bD).state).toNat) 0),(nth x0.ends ny bD).out⟩:Tip)]),(a225,c226)) ⟨hh,F7⟩ (ψ [1,8,2,8,8,8,8] 7)
    refine R1 ?_;exact cf (ng,(a206,nK)) ⟨hh,F7⟩ (ψ [7,7,7,7,7,7,7] 7)
   obtain ⟨l215,⟨a216,c217⟩⟩:=g;obtain ⟨hh,F6⟩:=hg
   try dsimp only at F6 ⊢
   dsimp only [G5_]at hh;refine ξ 3 z (λTz=> ?_);refine ξ 5 z (λhb228=> ?_);refine ξ 6 z (λhb229=> ?_);refine R4 ?_;exact nk hR1 hh (a216,c217) (ψ [6,6,6,6,6,6,6] 7) F6
  refine R1 ?_;replace hh:=bF hR1 hh;refine R10 ?_;refine TC.nilS 49 8 dG (TC.lk hh (nO,oO) (rgs [(15,3),(97,35)]) (λ⟨sQ,gU⟩ ⟨H8,Hw⟩=>([(97,.int .i64 (gU:Int))],[ω bn #[.int .i64 0,aT,aT,aT] 25,ω jl #[.slice kK ((replicate x0.states.toNat (0:Int)).length) c107] 31,ε 3 1 aB (.slice kK (replicate x0.states.toNat (0:Int)).length c107) dX,ω AU #[.int .i64 (kG:Int),.slice a167 jC.length c168,.slice a206 ng.length nK,.slice H8 sQ.length Hw] 25,ε 79 2 bg (.slice a167 jC.length c168) jC,ε 79 2 bg (.slice a206 ng.length nK) ng,ε 49 8 dG (.slice H8 sQ.length Hw) sQ])) (λ⟨_,_⟩ ⟨_,_⟩=>dX.length=(replicate x0.states.toNat (0:Int)).length) F7 (ψ [7,7,7,7,7,7] 7) ?_);rintro ⟨sQ,gU⟩ ⟨H8,Hw⟩ _ z1 hh hR1 FZ;dsimp only [Yn]at hh FZ ⊢;refine ξ 2 z (λhb251=> ?_);refine ξ 4 z (λTv=> ?_);refine ξ 5 z (λTt=> ?_);refine ξ 6 z (λhb254=> ?_);refine R5 ?_;refine ι z hh (λh255 hh=> ?_) (λh255 hh=> ?_)
  ·refine R1 ?_;refine TC.cutG (α:=((List Arc))×((Option Addr)×Nat)) (rgs [(15,3),(99,32)]) (λg=>[]) (λg=>[ω bn #[.int .i64 0,aT,aT,aT] 25,ω jl #[.slice kK ((replicate x0.states.toNat (0:Int)).length) c107] 31,ε 3 1 aB (.slice kK (replicate x0.states.toNat (0:Int)).length c107) dX,ω AU #[.int .i64 (kG:Int),.slice a167 jC.length c168,.slice a206 ng.length nK,.slice g.2.1 g.1.length g.2.2] 25,ε 79 2 bg (.slice a167 jC.length c168) jC,ε 79 2 bg (.slice a206 ng.length nK) ng,ε 49 8 dG (.slice g.2.1 g.1.length g.2.2) g.1]) (λg=>τ146) (λg=>F7_ gU g.1=some z1/\dX.length=(replicate x0.states.toNat (0:Int)).length) ?_ (λg j hg=> ?_)
   ·refine R5 ?_;refine TL.al (λb260=> ?_);refine R3 ?_;obtain ⟨NQ,hh⟩:=gd hh;obtain ⟨Vf,hh⟩:=gd hh;refine TC.draw [] (by kernel_rfl) (Δ 0 z lL z (ν 1 z fL z (Δ 2 z lL z (TA.isSl (i:=3) z (λhs264 _ _=> ?_)))));refine Δ 3 z iX z (Δ 4 z o1 z (Δ 5 z lL z (ν 6 z fL z (Δ 7 z lL z (TA.isSl (i:=3) z (λhs265 _ _=> ?_))))));refine Δ 8 z iX z (Δ 9 z o1 z (ν 10 z mI z (ν 11 z mI z (R6 ?_))));refine Γ 113 z (λxZ=> ?_) (λxZ=> ?_)
    ·obtain ⟨xZ,hh⟩:=iT xZ hh;refine R4 ?_;refine ι z hh (λWW hh=> ?_) (λWW hh=> ?_)
     ·refine R12 ?_;refine κ z (gX (enc:=dG) [(⟨(nth dX (((nth x0.arcs gU aO).frm).toNat) 0),(nth dX (((nth x0.arcs gU aO).to).toNat) 0),(nth x0.arcs gU aO).set,(nth x0.arcs gU aO).out,(nth x0.arcs gU aO).copy⟩:Arc)] (λE5 EO=> ?_));refine φ 8 z z ?_;obtain ⟨u139,hh⟩:=gd hh;refine κ z (apF (.inr ⟨_,0,z⟩) u139 (λa271 c272=> ?_));refine TL.w z fL (φ 6 z z (R2 ?_));exact cf ((sQ++[(⟨(nth dX (((nth x0.arcs gU aO).frm).toNat) 0),(nth dX (((nth x0.arcs gU aO).to).toNat) 0),(nth x0.arcs gU aO).set,(nth x0.arcs gU aO).out,(nth x0.arcs gU aO).copy⟩:Arc)]),(a271,c272)) ⟨hh,FZ⟩ (ψ [1,8,8,3,8,8,8] 7)
     refine R1 ?_;exact cf (sQ,(H8,Hw)) ⟨hh,FZ⟩ (ψ [7,7,7,7,7,7,7] 7)
    obtain ⟨xZ,hh⟩:=iF xZ hh;refine R6 ?_;exact cf (sQ,(H8,Hw)) ⟨hh,FZ⟩ (ψ [7,7,7,7,7,7,7] 7)
   obtain ⟨l257,⟨a258,c259⟩⟩:=g;obtain ⟨hh,Sr⟩:=hg
   try dsimp only at Sr ⊢
   dsimp only [F7_]at hh;refine ξ 2 z (λhb273=> ?_);refine ξ 4 z (λhb274=> ?_);refine ξ 5 z (λTq=> ?_);refine ξ 6 z (λGq=> ?_);refine R4 ?_;exact nk hR1 hh (a258,c259) (ψ [6,6,6,6,6,6,6] 7) Sr
  refine R1 ?_;replace hh:=bF hR1 hh;refine R4 ?_;refine φ 4 z z (TL.iw yj (λτ280 hle279 Cb=> ?_));refine φ 4 z z (TL.iw yj (λτ283 Wu JC=> ?_));replace Cb:=Cb.mono Wu;refine φ 4 z z (TL.iw EM (λτ286 Kt hr284=> ?_));replace Cb:=Cb.mono Kt;replace JC:=JC.mono Kt;obtain ⟨v145,Ve,hh⟩:=bQ hh;refine κ z (OpOk.call (Lt_ (x0:=(⟨(kG:Int),jC,ng,sQ⟩:Fst)) Cb JC hr284 Ve) z z pf40 z z z z ?_);rintro _ τ287 _ hle287 ⟨a287_1,c287_1,a287_2,c287_2,a287_3,c287_3,rfl,hr287_0,hr287_1,hr287_2,rfl⟩;have hr287_2b:=hr287_2.rv.big;refine R5 ?_;refine TC.rt 1 ?_;obtain rfl:=so hh;exact rz
 intro m_ c_ hh ZU;exact jl_nil ZU
theorem pf123:plainF Tryz.prog 123=true:=by kernel_rfl
theorem NV:plainF Tryz.prog 59=true:=by kernel_rfl
def Ie_(x2:T_1)(x0:Dfa)(xB:Int)(jq:Nat):Option ((Int×Nat)⊕(Int×Int)):=
 aI (decide ((jq:Int)<(x2.length:Int))) (grd (0<=xB/\xB<(x0.next.length:Int)) (grd ((nth x2 jq 0).toNat<x0.cls.length) (grd (0<=(nth x0.cls ((nth x2 jq 0).toNat) 0)/\(nth x0.cls ((nth x2 jq 0).toNat) 0)<((nth x0.next xB.toNat []).length:Int)) (nxt ((nth (nth x0.next xB.toNat []) ((nth x0.cls ((nth x2 jq 0).toNat) 0).toNat) 0),(jq+1)))))) (fin (some (xB,0)))
def Kr_(x0:Dfa)(x1:Int)(x2:T_1):Option (Int×Int):=
 grd (x2.length<=281474976710656) (bnd (Uj x0) (λv5=>aI (decide (v5≠0)) (some (0,1)) (aI (decide (x1<0)) (some (0,1)) (aI (decide ((x0.next.length:Int)<=x1)) (some (0,1)) (aV (λq:Int×Nat=>Ie_ x2 x0 q.1 q.2) (x1,0))))))
theorem L2_{σ:ak}{x0:Dfa}{x1:Int}{x2:T_1}(aA:dV σ aB ay au x0.cls)(aG:RZ σ (bH 1 aB aW) (.slice aC x0.next.length aJ) x0.next)(aH:dV σ dL aK aF x0.fin){r:Int×Int}(hh:Kr_ x0 x1 x2=some r):
  Con prog 123 #[.agg #[.slice ay x0.cls.length au,.slice aC x0.next.length aJ,.slice aK x0.fin.length aF],.int .i64 x1,.string (bs x2)] σ [] (iU (.tuple #[.int .i64 r.1,.int .i64 r.2]) σ):=by
 dsimp only [Kr_]at hh;refine cM 44 Tryz.func123 (λw0=> ?_);obtain ⟨x2b,hh⟩:=gd hh;refine R2 ?_;refine TL.bx (λaS=> ?_);refine R7 ?_;obtain ⟨v5,u5,hh⟩:=bQ hh;refine κ z (eG (Hz_ (x0:=x0) aA aG aH u5) z z NV z z z ?_);refine R2 ?_;refine Γ 12 z (λjM=> ?_) (λjM=> ?_)
 ·obtain ⟨jM,hh⟩:=iT jM hh;refine R17 ?_;refine TC.rt 0 ?_;obtain rfl:=so hh;exact rq [6,7] ⟨z,z,z⟩
 obtain ⟨jM,hh⟩:=iF jM hh;refine R4 ?_;refine Γ 16 z (λdS=> ?_) (λdS=> ?_)
 ·obtain ⟨dS,hh⟩:=iT dS hh;refine R13 ?_;refine TC.rt 0 ?_;obtain rfl:=so hh;exact rq [6,7] ⟨z,z,z⟩
 obtain ⟨dS,hh⟩:=iF dS hh;refine R7 ?_;refine ι z hh (λbM hh=> ?_) (λbM hh=> ?_)
 ·refine R5 ?_;refine TC.rt 0 ?_;obtain rfl:=so hh;exact rq [6,7] ⟨z,z,z⟩
 refine R5 ?_;refine TL.w z (LM z vU z) (R3 ?_);refine TC.lp hh () (rgs [(1,1),(8,1),(25,18)]) (λ⟨xB,jq⟩ _=>([(1,.int .i64 xB),(25,.int .i64 (jq:Int))],[ω aS #[.slice ay x0.cls.length au,.slice aC x0.next.length aJ,.slice aK x0.fin.length aF] 35])) (ζ 1 z) ?_;rintro ⟨xB,jq⟩ _ _ z1 hh hR1;dsimp only [Ie_]at hh ⊢;refine R5 ?_;refine ι z hh (λh112 hh=> ?_) (λh112 hh=> ?_)
 ·refine R8 ?_;obtain ⟨u29,hh⟩:=gd hh;obtain ⟨u36,hh⟩:=gd hh;obtain ⟨u38,hh⟩:=gd hh;refine TC.draw [] (by kernel_rfl) (ν 0 z fL z (Δ 1 z lL z (ν 2 z mI z (Δ 3 z iX z ?_))));obtain ⟨zX,xW,KP⟩:=RZ.seg aG xB.toNat (by omega);replace xW:dV _ aB zX.1 zX.2 (nth x0.next xB.toNat []):=xW;refine Δ 4 z (OpVal.of (wP z oV z KP z) (v':= .slice zX.1 ((nth x0.next xB.toNat []).length) zX.2) z) z (ν 5 z fL z (Δ 6 z lL z (ν 7 z (b8_ (.inl z) z) z (ν 8 z mI z (ν 9 z (dj_ z vU z z (by omega)) z (Δ 10 z iN z (Δ 11 z l1 z (Δ 12 z iX z (Δ 13 z l1 z (ν 14 z mI z (R5 ?_)))))))))));exact nx hR1 hh () (ζ 1 z)
 refine R1 ?_;replace hh:=bF hR1 hh;refine R7 ?_;refine TC.rt 0 ?_;obtain rfl:=so hh;exact rq [6,7] ⟨z,z,z⟩
def It_(x0:Dfa)(x1:T_1):Option (Bool×Int):=
 grd (x1.length<=281474976710656) (bnd (Kr_ x0 0 x1) (λv6=>aI (decide (v6.2≠0)) (some (false,v6.2)) (grd (0<=v6.1/\v6.1<(x0.fin.length:Int)) (some ((nth x0.fin v6.1.toNat false),0)))))
theorem Lk_{σ:ak}{x0:Dfa}{x1:T_1}(aA:dV σ aB ay au x0.cls)(aG:RZ σ (bH 1 aB aW) (.slice aC x0.next.length aJ) x0.next)(aH:dV σ dL aK aF x0.fin){r:Bool×Int}(hh:It_ x0 x1=some r):
  Con prog 51 #[.agg #[.slice ay x0.cls.length au,.slice aC x0.next.length aJ,.slice aK x0.fin.length aF],.string (bs x1)] σ [] (iU (.tuple #[.bool r.1,.int .i64 r.2]) σ):=by
 dsimp only [It_]at hh;refine cM 22 Tryz.func51 (λw0=> ?_);obtain ⟨x1b,hh⟩:=gd hh;refine R2 ?_;refine TL.bx (λaS=> ?_);refine R7 ?_;obtain ⟨v6,u6,hh⟩:=bQ hh;refine κ z (eG (L2_ (x0:=x0) aA aG aH u6) z z pf123 z z z ?_);refine R12 ?_;refine ι z hh (λjM hh=> ?_) (λjM hh=> ?_)
 ·refine R6 ?_;refine TC.rt 0 ?_;obtain rfl:=so hh;exact rq [4,5] ⟨z,z,z⟩
 refine R6 ?_;obtain ⟨u20,hh⟩:=gd hh;refine R5 ?_;refine TC.rt 0 ?_;obtain rfl:=so hh;exact rq [4,5] ⟨z,z,z⟩
end Go.Proofs.YtcfgkcfcddfccaaGreatDoor
end

noncomputable section
namespace Go.E
open Go
def ishr(k:IntKind)(a:Int)(b:Nat):Int:=a.fdiv (2 ^ min b k.bits)
theorem OpVal.shrI{P:Program}{n:Nat}{o:Oper}{e:Env}{σ:ak}{H:List Res}{x y:Operand}{T T':TypeId}{k k':IntKind}{a:Int}{b:Nat}(ho:o.op= .binOp .shr T x y T')(hx:ev e x= .int k a)(hy:ev e y= .int k' (b:Nat)):OpVal P n o e σ H (.int k (ishr k a b)):=λw _=>by
  have h0: ¬ (b:Int)<0:=by omega
  simp only [execOp,ho,hx,hy,Sem.run_bind,Z4,Result.andThen_ok,binOp,Op.shift,h0,if_false,iI,ishr];rfl
end Go.E
end

noncomputable section
namespace Go.Proofs.YtcfgkcfcddfccaaGreatDoor
open Go Go.E Go.E.OpVal Go.E.OpOk Go.Proofs.Tryz
open List (replicate)
theorem pf12:plainF Tryz.prog 12=true:=by kernel_rfl
theorem QH:plainF Tryz.prog 152=true:=by kernel_rfl
theorem pf153:plainF Tryz.prog 153=true:=by kernel_rfl
theorem pf29:plainF Tryz.prog 29=true:=by kernel_rfl
theorem pf30:plainF Tryz.prog 30=true:=by kernel_rfl
theorem pf31:plainF Tryz.prog 31=true:=by kernel_rfl
theorem pf38:plainF Tryz.prog 38=true:=by kernel_rfl
theorem pf51:plainF Tryz.prog 51=true:=by kernel_rfl
theorem pf8:plainF Tryz.prog 8=true:=by kernel_rfl
theorem pf92:plainF Tryz.prog 92=true:=by kernel_rfl
theorem pf93:plainF Tryz.prog 93=true:=by kernel_rfl
theorem pf94:plainF Tryz.prog 94=true:=by kernel_rfl
def Ge_(gG:Nat)(l159:B_1)(yV:aj):Option ((B_1×aj×Nat)⊕((B_1×aj×Nat)⊕(aj))):=
 nxt (l159,yV,(gG+1))
def UC(x0:Dfa)(fG:aj)(eH:Nat)(jY:B_1)(fF:aj)(gG:Nat):Option ((B_1×aj×Nat)⊕((B_1×aj×Nat)⊕(aj))):=
 aI (decide ((gG:Int)<((nth x0.next ((nth fG eH 0).toNat) []).length:Int))) (grd (0<=(nth (nth x0.next ((nth fG eH 0).toNat) []) gG 0)/\(nth (nth x0.next ((nth fG eH 0).toNat) []) gG 0)<(jY.length:Int)) (aI (!(nth jY ((nth (nth x0.next ((nth fG eH 0).toNat) []) gG 0).toNat) false)) (grd (0<=(nth (nth x0.next ((nth fG eH 0).toNat) []) gG 0)/\(nth (nth x0.next ((nth fG eH 0).toNat) []) gG 0)<(jY.length:Int)) (grd ((fF.length+[(nth (nth x0.next ((nth fG eH 0).toNat) []) gG 0)].length) * 8<=140737488355328) (Ge_ gG (jY.set ((nth (nth x0.next ((nth fG eH 0).toNat) []) gG 0).toNat) true) (fF++[(nth (nth x0.next ((nth fG eH 0).toNat) []) gG 0)])))) (Ge_ gG jY fF))) (fin (nxt (jY,fF,(eH+1))))
def Fe_(x0:Dfa)(uy:B_1)(fG:aj)(eH:Nat):Option ((B_1×aj×Nat)⊕(aj)):=
 aI (decide ((eH:Int)<(fG.length:Int))) (grd (0<=(nth fG eH 0)/\(nth fG eH 0)<(x0.next.length:Int)) (aV (λq:B_1×aj×Nat=>UC x0 fG eH q.1 q.2.1 q.2.2) (uy,fG,0))) (fin (some fG))
def Hg_(x0:Dfa):Option (aj):=
 grd (1 * x0.next.length<=281474976710656) (grd (0<(replicate x0.next.length false).length) (aV (λq:B_1×aj×Nat=>Fe_ x0 q.1 q.2.1 q.2.2) (((replicate x0.next.length false).set 0 true),[0],0)))
theorem K2_{σ:ak}{x0:Dfa}(aA:dV σ aB ay au x0.cls)(aG:RZ σ (bH 1 aB aW) (.slice aC x0.next.length aJ) x0.next)(aH:dV σ dL aK aF x0.fin){r:aj}(hh:Hg_ x0=some r):
  Con prog 93 #[.agg #[.slice ay x0.cls.length au,.slice aC x0.next.length aJ,.slice aK x0.fin.length aF]] σ [] (TV σ r):=by
 dsimp only [Hg_]at hh;refine cM 48 Tryz.func93 (λw0=> ?_);refine R2 ?_;refine TL.bx (λaS=> ?_);refine R7 ?_;obtain ⟨u6,hh⟩:=gd hh;refine κ z (mk2 (enc:=dL) false (λqP qL=> ?_));refine R5 ?_;obtain ⟨u9,hh⟩:=gd hh;refine TL.iS 0 z (λhs106=> ?_);refine TL.w z (zk (i:=0) z underlying33 AZ z z hs106 (by omega)) ?_;have hn107:((replicate x0.next.length false).set 0 true).length=(replicate x0.next.length false).length:=by rw [eX]
 refine κ z (qp true z AZ z z z z wJ EL (by omega) (by omega) ?_);refine R3 ?_;refine κ z (gX (enc:=aB) [0] (λzq c109=> ?_));refine R8 ?_;refine TC.lk hh (zq,c109) (rgs [(4,2),(7,1),(15,32)]) (λ⟨uy,fG,eH⟩ ⟨a127,uU⟩=>([(4,.slice a127 fG.length uU),(5,.int .i64 (eH:Int))],[ω aS #[.slice ay x0.cls.length au,.slice aC x0.next.length aJ,.slice aK x0.fin.length aF] 35,ε 4 1 dL (.slice qP (replicate x0.next.length false).length qL) uy,dW 3 aB a127 uU fG])) (λ⟨uy,_,_⟩ ⟨_,_⟩=>uy.length=(replicate x0.next.length false).length) hn107 (ψ [1,2] 3) ?_;rintro ⟨uy,fG,eH⟩ ⟨a127,uU⟩ _ z1 hh hR1 SK;dsimp only [Fe_]at hh SK ⊢;refine ξ 1 z (λTM=> ?_);refine ξ 2 z (λK_=> ?_);refine R8 ?_;refine ι z hh (λEJ hh=> ?_) (λEJ hh=> ?_)
 ·refine R4 ?_;obtain ⟨u24,hh⟩:=gd hh;refine TC.draw [] (by kernel_rfl) (ν 0 z fL z (Δ 1 z lL z (ν 2 z mS z (ν 3 z mI z (TA.isSl (i:=2) z (λhs135 _ _=> ?_))))));refine Δ 4 z iN z (Δ 5 z o1 z (Δ 6 z iX z ?_));obtain ⟨Om,KF,hg136⟩:=RZ.seg aG ((nth fG eH 0).toNat) (by omega);replace KF:dV _ aB Om.1 Om.2 (nth x0.next ((nth fG eH 0).toNat) []):=KF;have hk136b:=KF.rv.big;refine Δ 7 z (OpVal.of (wP z oV z hg136 z) (v':= .slice Om.1 ((nth x0.next ((nth fG eH 0).toNat) []).length) Om.2) z) z (Δ 8 z lC z (ν 9 z mI z (R2 ?_)));refine TC.lk hh (a127,uU) (rgs [(4,1),(7,1),(30,17)]) (λ⟨jY,fF,gG⟩ ⟨lU,c154⟩=>([(4,.slice lU fF.length c154),(30,.int .i64 (gG:Int))],[ω aS #[.slice ay x0.cls.length au,.slice aC x0.next.length aJ,.slice aK x0.fin.length aF] 35,ε 4 1 dL (.slice qP (replicate x0.next.length false).length qL) jY,dW 3 aB lU c154 fF])) (λ⟨jY,_,_⟩ ⟨_,_⟩=>jY.length=(replicate x0.next.length false).length) SK (ψ [2,2,2] 3) ?_;rintro ⟨jY,fF,gG⟩ ⟨lU,c154⟩ _ z2 hh hR2 tH;dsimp only [UC]at hh tH ⊢;refine ξ 1 z (λKU=> ?_);refine ξ 2 z (λKR=> ?_);refine R5 ?_;refine ι z hh (λLc hh=> ?_) (λLc hh=> ?_)
  ·refine R1 ?_;refine TC.cutG (α:=(B_1×aj)×((Option Addr)×Nat)) (rgs [(4,1),(7,1),(32,14)]) (λg=>[(4,.slice g.2.1 g.1.2.length g.2.2)]) (λg=>[ω aS #[.slice ay x0.cls.length au,.slice aC x0.next.length aJ,.slice aK x0.fin.length aF] 35,ε 4 1 dL (.slice qP (replicate x0.next.length false).length qL) g.1.1,ε 3 1 aB (.slice g.2.1 g.1.2.length g.2.2) g.1.2]) (λg=>σ) (λg=>Ge_ gG g.1.1 g.1.2=some z2/\g.1.1.length=(replicate x0.next.length false).length) ?_ (λg j hg=> ?_)
   ·refine R11 ?_;obtain ⟨u34,hh⟩:=gd hh;refine TL.iS 1 z (λhs164=> ?_);refine R4 ?_;refine TC.cB z hh (λh165 hh=> ?_) (λh165 hh=> ?_)
    ·refine R4 ?_;obtain ⟨u39,hh⟩:=gd hh;refine TL.iS 1 z (λhs166=> ?_);refine TL.w z iX (φ 1 z z ?_);have hn167:(jY.set ((nth (nth x0.next ((nth fG eH 0).toNat) []) gG 0).toNat) true).length=(replicate x0.next.length false).length:=by rw [eX];exact tH
     refine κ z (qp true z AZ z z z z wJ EL (by omega) (by omega) ?_);refine R4 ?_;refine κ z (gX (enc:=aB) [(nth (nth x0.next ((nth fG eH 0).toNat) []) gG 0)] (λa168 c169=> ?_));refine φ 3 z z ?_;obtain ⟨u44,hh⟩:=gd hh;refine κ z (apF (.inr ⟨_,0,z⟩) u44 (λa171 XA=> ?_));refine R2 ?_;exact cf (((jY.set ((nth (nth x0.next ((nth fG eH 0).toNat) []) gG 0).toNat) true),(fF++[(nth (nth x0.next ((nth fG eH 0).toNat) []) gG 0)])),(a171,XA)) ⟨hh,hn167⟩ (ψ [2,3] 3)
    refine R1 ?_;exact cf ((jY,fF),(lU,c154)) ⟨hh,tH⟩ (ψ [2,2,2] 3)
   obtain ⟨⟨l159,yV⟩,⟨a162,AQ⟩⟩:=g;obtain ⟨hh,xH⟩:=hg
   try dsimp only at xH ⊢
   dsimp only [Ge_]at hh;refine ξ 1 z (λhb173=> ?_);refine ξ 2 z (λhb174=> ?_);refine R4 ?_;exact nk hR2 hh (a162,AQ) (ψ [2,2,2] 3) xH
  refine R1 ?_;replace hh:=bF hR2 hh;refine R6 ?_;exact nk hR1 hh (lU,c154) (ψ [2,2,2] 3) tH
 refine R1 ?_;replace hh:=bF hR1 hh;refine R6 ?_;refine TC.iH (ψ [2] 1) (θ ?_);obtain rfl:=so hh;exact rz
def Yg(x0:aj)(bf:T_1)(aP:Nat):Option ((T_1×Nat)⊕(T_1)):=
 aI (decide ((aP:Int)<(x0.length:Int))) (grd ((bf.length+[(kH (ishr .i64 (nth x0 aP 0) 8)),(kH (nth x0 aP 0))].length) * 1<=140737488355328) (nxt ((bf++[(kH (ishr .i64 (nth x0 aP 0) 8)),(kH (nth x0 aP 0))]),(aP+1)))) (fin (some bf))
def Yd(x0:aj):Option (T_1):=
 grd (0<=IntKind.i64.wrap (2 * (x0.length:Int))/\1 * (IntKind.i64.wrap (2 * (x0.length:Int))).toNat<=281474976710656) (aV (λq:T_1×Nat=>Yg x0 q.1 q.2) (([]:T_1),0))
theorem Kp_{σ:ak}{x0:aj}(aA:dV σ aB ay au x0){r:T_1}(hh:Yd x0=some r):
  Con prog 152 #[.slice ay x0.length au] σ [] (iU (.string (bs r)) σ):=by
 dsimp only [Yd]at hh;have f0_0b:=aA.rv.big;refine cM 27 Tryz.func152 (λw0=> ?_);refine R9 ?_;obtain ⟨u5,hh⟩:=gd hh;refine κ rfl (db_ (enc:=qC) (m:=(IntKind.i64.wrap (2 * (x0.length:Int))).toNat) rfl underlying84 sz5 by5 ze5 rfl rfl rfl (vN u5.1) (by omega) (by decide) (λlg kZ=> ?_));refine R10 ?_;refine TC.lp hh (lg,kZ) (rgs [(3,1),(5,1),(12,13)]) (λ⟨bf,aP⟩ ⟨dD,dM⟩=>([(3,.slice dD bf.length dM),(12,.int .i64 (aP:Int))],[dW 5 qC dD dM bf])) (ζ 1 z) ?_;rintro ⟨bf,aP⟩ ⟨dD,dM⟩ _ z1 hh hR1;dsimp only [Yg]at hh ⊢;refine ξ 0 z (λhb116=> ?_);refine R5 ?_;refine ι z hh (λoG hh=> ?_) (λoG hh=> ?_)
 ·refine R12 ?_;refine TL.w z (shrI (b:=8) z z z) (TL.w z (Nk z zV DC z) (TL.i z z (TL.w z (Nk z zV DC z) (κ z (gX (enc:=qC) [(kH (ishr .i64 (nth x0 aP 0) 8)),(kH (nth x0 aP 0))] (λwU c119=> ?_))))));refine φ 1 z z ?_;obtain ⟨u21,hh⟩:=gd hh;refine κ z (apF (.inr ⟨_,0,z⟩) u21 (λE_ ER=> ?_));refine R6 ?_;exact nx hR1 hh (E_,ER) (ζ 1 z)
 refine R1 ?_;replace hh:=bF hR1 hh;refine R4 ?_;refine TL.iS 0 z (λJz=> ?_);refine TL.w z (bx_ (l:=bf) z underlying84 DC vU z Jz (λw hw=>rdb_row (q:=0) z hw)) (R2 ?_);refine TC.rt 0 ?_;obtain rfl:=so hh;exact rq [2] ⟨z,z,z⟩
def Gw_(fO:Nat)(jD:aj):Option ((aj×Nat)⊕(aj×Int)):=
 nxt (jD,(fO+1))
def Yw(x1:aj)(jg:Nat)(eY:aj)(m207:FM T_1 Int)(OH:Int):Option (((FM T_1 Int)×aj×Nat)⊕((aj×Nat)⊕(aj×Int))):=
 grd (0<=(nth x1 jg 0)/\(nth x1 jg 0)<(eY.length:Int)) (nxt (m207,(eY.set ((nth x1 jg 0).toNat) OH),(jg+1)))
def Uz(x0:Dfa)(x1:aj)(jg:Nat)(lI:aj)(lH:FM T_1 Int)(eY:aj)(Eh:aj)(yY:Nat):Option ((aj×Nat)⊕(((FM T_1 Int)×aj×Nat)⊕((aj×Nat)⊕(aj×Int)))):=
 aI (decide ((yY:Int)<((nth x0.next ((nth x1 jg 0).toNat) []).length:Int))) (grd (0<=(nth (nth x0.next ((nth x1 jg 0).toNat) []) yY 0)/\(nth (nth x0.next ((nth x1 jg 0).toNat) []) yY 0)<(lI.length:Int)) (grd ((Eh.length+[(nth lI ((nth (nth x0.next ((nth x1 jg 0).toNat) []) yY 0).toNat) 0)].length) * 8<=140737488355328) (nxt ((Eh++[(nth lI ((nth (nth x0.next ((nth x1 jg 0).toNat) []) yY 0).toNat) 0)]),(yY+1))))) (fin (bnd (Yd Eh) (λv70=>aI (!(lH.has v70)) (Yw x1 jg eY (lH.put v70 (lH.n:Int)) (lH.n:Int)) (Yw x1 jg eY lH (lH.get v70 0)))))
def Yz(x1:aj)(lI:aj)(x0:Dfa)(En:Nat)(lH:FM T_1 Int)(eY:aj)(jg:Nat):Option (((FM T_1 Int)×aj×Nat)⊕((aj×Nat)⊕(aj×Int))):=
 aI (decide ((jg:Int)<(x1.length:Int))) (grd (0<=(nth x1 jg 0)/\(nth x1 jg 0)<(lI.length:Int)) (grd (0<=(nth x1 jg 0)/\(nth x1 jg 0)<(x0.next.length:Int)) (aV (λq:aj×Nat=>Uz x0 x1 jg lI lH eY q.1 q.2) ([(nth lI ((nth x1 jg 0).toNat) 0)],0)))) (fin (aI (decide ((lH.n:Int)=(En:Int))) (fin (some (eY,(En:Int)))) (nxt (eY,lH.n))))
def Uy(x0:Dfa)(x1:aj)(lI:aj)(En:Nat):Option ((aj×Nat)⊕(aj×Int)):=
 grd (8 * x0.next.length<=281474976710656) (aV (λq:(FM T_1 Int)×aj×Nat=>Yz x1 lI x0 En q.1 q.2.1 q.2.2) ((FM.emp:FM T_1 Int),(replicate x0.next.length (0:Int)),0))
def Yx(x1:aj)(x0:Dfa)(bf:aj)(fO:Nat):Option ((aj×Nat)⊕(aj×Int)):=
 aI (decide ((fO:Int)<(x1.length:Int))) (grd (0<=(nth x1 fO 0)/\(nth x1 fO 0)<(x0.fin.length:Int)) (aI (nth x0.fin ((nth x1 fO 0).toNat) false) (grd (0<=(nth x1 fO 0)/\(nth x1 fO 0)<(bf.length:Int)) (Gw_ fO (bf.set ((nth x1 fO 0).toNat) 1))) (Gw_ fO bf))) (fin (aV (λq:aj×Nat=>Uy x0 x1 q.1 q.2) (bf,0)))
def Hx_(x0:Dfa)(x1:aj):Option (aj×Int):=
 grd (8 * x0.next.length<=281474976710656) (aV (λq:aj×Nat=>Yx x1 x0 q.1 q.2) ((replicate x0.next.length (0:Int)),0))
theorem K3_{σ:ak}{x0:Dfa}{x1:aj}(aA:dV σ aB ay au x0.cls)(aG:RZ σ (bH 1 aB aW) (.slice aC x0.next.length aJ) x0.next)(aH:dV σ dL aK aF x0.fin)(bU:dV σ aB bW bV x1){r:aj×Int}(hh:Hx_ x0 x1=some r):
  Con prog 92 #[.agg #[.slice ay x0.cls.length au,.slice aC x0.next.length aJ,.slice aK x0.fin.length aF],.slice bW x1.length bV] σ [] (Jc_ σ r):=by
 dsimp only [Hx_]at hh;have f1_0b:=bU.rv.big;refine cM 102 Tryz.func92 (λw0=> ?_);refine R2 ?_;refine TL.bx (λaS=> ?_);refine R3 ?_;refine TC.scope (R5 ?_);obtain ⟨u7,hh⟩:=gd hh;refine κ z (mk2 (enc:=aB) (0:Int) (λqP qL=> ?_));refine R10 ?_;refine TC.lk hh () (rgs [(8,1),(26,13)]) (λ⟨bf,fO⟩ _=>([(26,.int .i64 (fO:Int))],[ω aS #[.slice ay x0.cls.length au,.slice aC x0.next.length aJ,.slice aK x0.fin.length aF] 35,ε 3 1 aB (.slice qP (replicate x0.next.length (0:Int)).length qL) bf])) (λ⟨bf,_⟩ _=>bf.length=(replicate x0.next.length (0:Int)).length) z (ψ [1] 2) ?_;rintro ⟨bf,fO⟩ _ _ z1 hh hR1 vO;dsimp only [Yx]at hh vO ⊢;refine ξ 1 z (λhb115=> ?_);refine R5 ?_;refine ι z hh (λh116 hh=> ?_) (λh116 hh=> ?_)
 ·refine R1 ?_;refine TC.cutG (α:=(aj)×(Unit)) (rgs [(8,1),(28,10)]) (λg=>[]) (λg=>[ω aS #[.slice ay x0.cls.length au,.slice aC x0.next.length aJ,.slice aK x0.fin.length aF] 35,ε 3 1 aB (.slice qP (replicate x0.next.length (0:Int)).length qL) g.1]) (λg=>σ) (λg=>Gw_ fO g.1=some z1/\g.1.length=(replicate x0.next.length (0:Int)).length) ?_ (λg j hg=> ?_)
  ·refine R12 ?_;obtain ⟨DY,hh⟩:=gd hh;refine R3 ?_;refine TC.cB z hh (λh119 hh=> ?_) (λh119 hh=> ?_)
   ·refine R3 ?_;obtain ⟨u23,hh⟩:=gd hh;refine TL.iS 1 z (λhs120=> ?_);refine TL.w z iX (φ 1 z z ?_);have J4:(bf.set ((nth x1 fO 0).toNat) 1).length=(replicate x0.next.length (0:Int)).length:=by rw [eX];exact vO
    refine κ z (qp 1 z lG z z z z aW vX (by omega) (by omega) ?_);refine R1 ?_;exact cf ((bf.set ((nth x1 fO 0).toNat) 1),()) ⟨hh,J4⟩ (ψ [1] 2)
   refine R1 ?_;exact cf (bf,()) ⟨hh,vO⟩ (ψ [1,1] 2)
  obtain ⟨jD,_⟩:=g;obtain ⟨hh,vM⟩:=hg
  try dsimp only at vM ⊢
  dsimp only [Gw_]at hh;refine ξ 1 z (λTN=> ?_);refine R4 ?_;exact nk hR1 hh () (ψ [1,1] 2) vM
 refine R1 ?_;replace hh:=bF hR1 hh;refine R6 ?_;refine TC.label (R2 ?_);refine TC.lk hh (qP,qL) (rgs [(6,1),(9,3),(13,2),(16,4),(39,61)]) (λ⟨lI,En⟩ ⟨a139,nM⟩=>([(6,.slice a139 ((replicate x0.next.length (0:Int)).length) nM),(9,.int .i64 (En:Int))],[ω aS #[.slice ay x0.cls.length au,.slice aC x0.next.length aJ,.slice aK x0.fin.length aF] 35,ε 3 1 aB (.slice a139 (replicate x0.next.length (0:Int)).length nM) lI])) (λ⟨lI,_⟩ ⟨_,_⟩=>lI.length=(replicate x0.next.length (0:Int)).length) vO (ψ [1,1] 2) ?_;rintro ⟨lI,En⟩ ⟨a139,nM⟩ _ z1 hh hR1 SH;dsimp only [Uy]at hh SH ⊢;refine ξ 1 z (λhb143=> ?_);refine R3 ?_;refine κ z (bd_ (enc:=pq) (encV:=lN) z z z (λXK=> ?_));refine R7 ?_;obtain ⟨u33,hh⟩:=gd hh;refine κ z (mk2 (enc:=aB) (0:Int) (λa146 EP=> ?_));refine R10 ?_;refine TC.lk hh () (rgs [(13,2),(16,4),(46,47)]) (λ⟨lH,eY,jg⟩ _=>([(46,.int .i64 (jg:Int))],[ω aS #[.slice ay x0.cls.length au,.slice aC x0.next.length aJ,.slice aK x0.fin.length aF] 35,ε 3 1 aB (.slice a139 (replicate x0.next.length (0:Int)).length nM) lI,Res.mapB pq lN (some XK) lH,ε 3 1 aB (.slice a146 (replicate x0.next.length (0:Int)).length EP) eY])) (λ⟨_,eY,_⟩ _=>lI.length=(replicate x0.next.length (0:Int)).length/\eY.length=(replicate x0.next.length (0:Int)).length) ⟨SH,z⟩ (ψ [1,3,3] 4) ?_;rintro ⟨lH,eY,jg⟩ _ _ z2 hh hR2 ⟨xH,Gh⟩;dsimp only [Yz]at hh xH Gh ⊢;refine ξ 1 z (λhb165=> ?_);refine ξ 3 z (λhb166=> ?_);refine R5 ?_;refine ι z hh (λXc hh=> ?_) (λXc hh=> ?_)
 ·refine R13 ?_;obtain ⟨u44,hh⟩:=gd hh;refine TL.iS 1 z (λhs168=> ?_);refine R2 ?_;refine κ z (gX (enc:=aB) [(nth lI ((nth x1 jg 0).toNat) 0)] (λyE yw=> ?_));refine R8 ?_;obtain ⟨u51,hh⟩:=gd hh;refine TL.w z iX ?_;obtain ⟨Oi,KD,hg172⟩:=RZ.seg aG ((nth x1 jg 0).toNat) (by omega);replace KD:dV _ aB Oi.1 Oi.2 (nth x0.next ((nth x1 jg 0).toNat) []):=KD;have hk172b:=KD.rv.big;refine TL.w z (OpVal.of (wP z oV z hg172 z) (v':= .slice Oi.1 ((nth x0.next ((nth x1 jg 0).toNat) []).length) Oi.2) z) (R4 ?_);refine TC.lk hh (yE,yw) (rgs [(14,1),(16,1),(61,12)]) (λ⟨Eh,yY⟩ ⟨X4,Xx⟩=>([(14,.slice X4 Eh.length Xx),(61,.int .i64 (yY:Int))],[ω aS #[.slice ay x0.cls.length au,.slice aC x0.next.length aJ,.slice aK x0.fin.length aF] 35,ε 3 1 aB (.slice a139 (replicate x0.next.length (0:Int)).length nM) lI,Res.mapB pq lN (some XK) lH,ε 3 1 aB (.slice a146 (replicate x0.next.length (0:Int)).length EP) eY,dW 3 aB X4 Xx Eh])) (λ⟨_,_⟩ ⟨_,_⟩=>lI.length=(replicate x0.next.length (0:Int)).length/\eY.length=(replicate x0.next.length (0:Int)).length) ⟨xH,Gh⟩ (ψ [4,4,4,4] 5) ?_;rintro ⟨Eh,yY⟩ ⟨X4,Xx⟩ _ z3 hh uK ⟨Gg,Gf⟩;dsimp only [Uz]at hh Gg Gf ⊢;refine ξ 1 z (λhb193=> ?_);refine ξ 3 z (λhb194=> ?_);refine ξ 4 z (λhb195=> ?_);refine R5 ?_;refine ι z hh (λh196 hh=> ?_) (λh196 hh=> ?_)
  ·refine R13 ?_;obtain ⟨u62,hh⟩:=gd hh;refine TL.iS 1 z (λhs197=> ?_);refine R2 ?_;refine κ z (gX (enc:=aB) [(nth lI ((nth (nth x0.next ((nth x1 jg 0).toNat) []) yY 0).toNat) 0)] (λa198 c199=> ?_));refine φ 5 z z ?_;obtain ⟨u65,hh⟩:=gd hh;refine κ z (apF (.inr ⟨_,0,z⟩) u65 (λa201 Xw=> ?_));refine R6 ?_;exact nk uK hh (a201,Xw) (ψ [5,5,5,5] 5) ⟨Gg,Gf⟩
  refine R1 ?_;replace hh:=bF uK hh;refine R4 ?_;obtain ⟨v70,u70,hh⟩:=bQ hh;refine φ 4 z z (κ z (XE (Con.lend aW (λ_ hle205 hr204=>Kp_ hr204 u70)) z z QH z z z z ?_));refine R6 ?_;refine TL.w z (OpVal.of (cx_ 0 (q:=v70) z Ir Fh z (i:=3) z z (Rk vU)) (v':= .tuple #[.int .i64 (lH.get v70 0),.bool (lH.has v70)]) z) (R6 ?_);refine TC.cutG (α:=((FM T_1 Int)×Int)×(Unit)) (rgs [(18,1),(81,7)]) (λg=>[(18,.int .i64 g.1.2)]) (λg=>[ω aS #[.slice ay x0.cls.length au,.slice aC x0.next.length aJ,.slice aK x0.fin.length aF] 35,ε 3 1 aB (.slice a139 (replicate x0.next.length (0:Int)).length nM) lI,Res.mapB pq lN (some XK) g.1.1,ε 3 1 aB (.slice a146 (replicate x0.next.length (0:Int)).length EP) eY]) (λg=>σ) (λg=>Yw x1 jg eY g.1.1 g.1.2=some z2/\lI.length=(replicate x0.next.length (0:Int)).length/\eY.length=(replicate x0.next.length (0:Int)).length) ?_ (λg j hg=> ?_)
  ·refine R5 ?_;refine TC.cB z hh (λh210 hh=> ?_) (λh210 hh=> ?_)
   ·refine R3 ?_;refine TL.w z (lenB z Ir z (i:=3) z) (R6 ?_);refine φ 3 z z (κ z (updB v70 (lH.n:Int) z Ir z z z z (Rk vU) ?_));refine R1 ?_;exact cf (((lH.put v70 (lH.n:Int)),(lH.n:Int)),()) ⟨hh,Gg,Gf⟩ (ψ [4,1,4,4] 4)
   refine R1 ?_;exact cf ((lH,(lH.get v70 0)),()) ⟨hh,Gg,Gf⟩ (ψ [4,4,4,4] 4)
  obtain ⟨⟨m207,OH⟩,_⟩:=g;obtain ⟨hh,Sz,CU⟩:=hg
  try dsimp only at Sz CU ⊢
  dsimp only [Yw]at hh;refine ξ 1 z (λTD=> ?_);refine ξ 3 z (λhb212=> ?_);refine R4 ?_;obtain ⟨u92,hh⟩:=gd hh;refine TL.iS 3 z (λhs213=> ?_);refine TL.w z iX (φ 3 z z ?_);have F6:(eY.set ((nth x1 jg 0).toNat) OH).length=(replicate x0.next.length (0:Int)).length:=by rw [eX];exact CU
  refine κ z (qp OH z lG z z z z aW vX (by omega) (by omega) ?_);refine R5 ?_;exact nk hR2 hh () (ψ [3,3,3] 4) ⟨Sz,F6⟩
 refine R1 ?_;replace hh:=bF hR2 hh;refine R10 ?_;refine TL.w z (lenB z Ir z (i:=2) z) (R3 ?_);refine ι z hh (λh216 hh=> ?_) (λh216 hh=> ?_)
 ·refine R1 ?_;refine TC.exitOn z ?_;replace hh:=bF hR1 hh;refine R8 ?_;rw [<-Gh];refine TC.front 3 z z (TC.iw aW (λτ219 ou RG=> ?_));have hr217b:=RG.rv.big;refine TC.rt 0 (P.r ?_);obtain rfl:=so hh;exact rq [4,5] ⟨a146,EP,z,RG,z⟩
 refine R3 ?_;refine TL.w z (lenB z Ir z (i:=2) z) (R2 ?_);exact nk hR1 hh (a146,EP) (ψ [3,1] 2) Gh
def UA(oQ:aj)(gZ:Nat)(sS:aj)(m171:FM T_1 Int)(OL:Int):Option ((aj×aj×(FM T_1 Int)×Nat)⊕(aj×aj)):=
 grd ((oQ.length+[OL].length) * 8<=140737488355328) (nxt ((oQ++[OL]),sS,m171,(gZ+1)))
def YG(x0:aY)(gZ:Nat)(mY:FM T_1 Int)(uw:aj)(oQ:aj)(jY:aj)(wE:Nat):Option ((aj×Nat)⊕((aj×aj×(FM T_1 Int)×Nat)⊕(aj×aj))):=
 aI (decide ((wE:Int)<(x0.length:Int))) (grd (gZ<(nth x0 wE []).length) (grd ((jY.length+[(nth (nth x0 wE []) gZ 0)].length) * 8<=140737488355328) (nxt ((jY++[(nth (nth x0 wE []) gZ 0)]),(wE+1))))) (fin (bnd (Yd jY) (λv32=>aI (!(mY.has v32)) (grd ((uw.length+[(gZ:Int)].length) * 8<=140737488355328) (UA oQ gZ (uw++[(gZ:Int)]) (mY.put v32 (mY.n:Int)) (mY.n:Int))) (UA oQ gZ uw mY (mY.get v32 0)))))
def YF(x0:aY)(oQ:aj)(uw:aj)(mY:FM T_1 Int)(gZ:Nat):Option ((aj×aj×(FM T_1 Int)×Nat)⊕(aj×aj)):=
 aI (decide ((gZ:Int)<((nth x0 0 []).length:Int))) (aV (λq:aj×Nat=>YG x0 gZ mY uw oQ q.1 q.2) (([]:aj),0)) (fin (some (oQ,uw)))
def Hk_(x0:aY):Option (aj×aj):=
 grd (0<x0.length) (aV (λq:aj×aj×(FM T_1 Int)×Nat=>YF x0 q.1 q.2.1 q.2.2.1 q.2.2.2) (([]:aj),([]:aj),(FM.emp:FM T_1 Int),0))
def La_(σ:ak)(r:aj×aj):Value->ak->List Res->Prop:=λv σ' H'=>
 ∃a1 c1 a2 c2,v= .tuple #[.slice a1 r.1.length c1,.slice a2 r.2.length c2]/\dV σ' aB a1 c1 r.1/\dV σ' aB a2 c2 r.2/\H'=[]
theorem K0_{σ:ak}{x0:aY}(aA:RZ σ (bH 1 aB aW) (.slice ay x0.length au) x0){r:aj×aj}(hh:Hk_ x0=some r):
  Con prog 153 #[.slice ay x0.length au] σ [] (La_ σ r):=by
 dsimp only [Hk_]at hh;have f0_0b:=aA.big;refine cM 60 Tryz.func153 (λw0=> ?_);refine R7 ?_;refine κ z (bd_ (enc:=pq) (encV:=lN) z z z (λaS=> ?_));refine R6 ?_;obtain ⟨u6,hh⟩:=gd hh;refine TL.w z (zk (i:=0) z jH ji z z aA.isSl (by omega)) ?_;obtain ⟨OA,KO,hg103⟩:=RZ.seg aA 0 (by omega);replace KO:dV _ aB OA.1 OA.2 (nth x0 0 []):=KO;have hk103b:=KO.rv.big;refine TL.w z (OpVal.of (wP z oV z hg103 z) (v':= .slice OA.1 ((nth x0 0 []).length) OA.2) z) (R4 ?_);refine TC.nilS 3 1 aB (TC.nilS 3 1 aB (TC.lp hh (nO,oO,nO,oO) (rgs [(2,2),(5,2),(8,4),(17,41)]) (λ⟨oQ,uw,mY,gZ⟩ ⟨yG,c127,a130,c131⟩=>([(2,.slice yG oQ.length c127),(3,.slice a130 uw.length c131),(17,.int .i64 (gZ:Int))],[dW 3 aB yG c127 oQ,dW 3 aB a130 c131 uw,Res.mapB pq lN (some aS) mY])) (ψ [2,1,2] 3) ?_));rintro ⟨oQ,uw,mY,gZ⟩ ⟨yG,c127,a130,c131⟩ _ z1 hh hR1;dsimp only [YF]at hh ⊢;refine ξ 0 z (λKY=> ?_);refine ξ 1 z (λhb137=> ?_);refine R5 ?_;refine ι z hh (λLh hh=> ?_) (λLh hh=> ?_)
 ·refine R20 ?_;refine TC.nilS 3 1 aB (TC.lp hh (nO,oO) (rgs [(6,1),(8,1),(22,12)]) (λ⟨jY,wE⟩ ⟨E8,c152⟩=>([(6,.slice E8 jY.length c152),(22,.int .i64 (wE:Int))],[dW 3 aB yG c127 oQ,dW 3 aB a130 c131 uw,Res.mapB pq lN (some aS) mY,dW 3 aB E8 c152 jY])) (ψ [3,3,3] 4) ?_);rintro ⟨jY,wE⟩ ⟨E8,c152⟩ _ z2 hh hR2;dsimp only [YG]at hh ⊢;refine ξ 0 z (λKW=> ?_);refine ξ 1 z (λKU=> ?_);refine ξ 3 z (λKR=> ?_);refine R5 ?_;refine ι z hh (λLc hh=> ?_) (λLc hh=> ?_)
  ·refine R6 ?_;obtain ⟨Oj,Ti,hg159⟩:=RZ.seg aA wE (by omega);replace Ti:dV _ aB Oj.1 Oj.2 (nth x0 wE []):=Ti;refine TL.w z (OpVal.of (wP z oV z hg159 z) (v':= .slice Oj.1 ((nth x0 wE []).length) Oj.2) z) (R6 ?_);obtain ⟨u24,hh⟩:=gd hh;refine R2 ?_;refine κ z (gX (enc:=aB) [(nth (nth x0 wE []) gZ 0)] (λa160 c161=> ?_));refine φ 4 z z ?_;obtain ⟨u27,hh⟩:=gd hh;refine κ z (apF (.inr ⟨_,0,z⟩) u27 (λtY c164=> ?_));refine R6 ?_;exact nx hR2 hh (tY,c164) (ψ [4,4,4] 4)
  refine R1 ?_;replace hh:=bF hR2 hh;refine R4 ?_;obtain ⟨v32,u32,hh⟩:=bQ hh;refine φ 3 z z (κ z (XE (Con.lend aW (λ_ rQ hr166=>Kp_ hr166 u32)) z z QH z z z z ?_));refine R6 ?_;refine TL.w z (OpVal.of (cx_ 0 (q:=v32) z Ir Fh z (i:=3) z z (Rk vU)) (v':= .tuple #[.int .i64 (mY.get v32 0),.bool (mY.has v32)]) z) (R6 ?_);refine TC.cutG (α:=(aj×(FM T_1 Int)×Int)×((Option Addr)×Nat)) (rgs [(3,1),(10,1),(42,11)]) (λg=>[(3,.slice g.2.1 g.1.1.length g.2.2),(10,.int .i64 g.1.2.2)]) (λg=>[dW 3 aB yG c127 oQ,ε 3 1 aB (.slice g.2.1 g.1.1.length g.2.2) g.1.1,Res.mapB pq lN (some aS) g.1.2.1]) (λg=>σ) (λg=>UA oQ gZ g.1.1 g.1.2.1 g.1.2.2=some z1) ?_ (λg j hg=> ?_)
  ·refine R5 ?_;refine TC.cB z hh (λXb hh=> ?_) (λXb hh=> ?_)
   ·refine R3 ?_;refine TL.w z (lenB z Ir z (i:=3) z) (R7 ?_);refine φ 3 z z (κ z (updB v32 (mY.n:Int) z Ir z z z z (Rk vU) ?_));refine R4 ?_;refine κ z (gX (enc:=aB) [(gZ:Int)] (λa174 c175=> ?_));refine φ 4 z z ?_;obtain ⟨u54,hh⟩:=gd hh;refine κ z (apF (.inr ⟨_,0,z⟩) u54 (λzn zh=> ?_));refine R2 ?_;exact cf (((uw++[(gZ:Int)]),(mY.put v32 (mY.n:Int)),(mY.n:Int)),(zn,zh)) hh (ψ [2,1,4] 3)
   refine R1 ?_;exact cf ((uw,mY,(mY.get v32 0)),(a130,c131)) hh (ψ [3,3,3] 3)
  obtain ⟨⟨sS,m171,OL⟩,⟨yE,yw⟩⟩:=g;have hh:=hg;clear hg
  try dsimp only
  dsimp only [UA]at hh;refine ξ 0 z (λhb179=> ?_);refine ξ 1 z (λhb180=> ?_);refine R3 ?_;refine κ z (gX (enc:=aB) [OL] (λa181 c182=> ?_));refine φ 1 z z ?_;obtain ⟨u59,hh⟩:=gd hh;refine κ z (apF (.inr ⟨_,0,z⟩) u59 (λa184 c185=> ?_));refine R6 ?_;exact nx hR1 hh (a184,c185,yE,yw) (ψ [3,3,2] 3)
 refine R1 ?_;replace hh:=bF hR1 hh;refine R8 ?_;refine TC.iw aW (λτ189 hle188 JE=> ?_);refine TC.iw aW (λτ192 WA RH=> ?_);replace JE:=JE.mono WA;have hr190b:=RH.rv.big;refine TC.rt 0 ?_;obtain rfl:=so hh;exact rq [2,3] ⟨yG,c127,a130,c131,z,JE,RH,z⟩
def F9_(x0:Dfa)(dn:aj)(fJ:Nat)(iK:Nat)(x1:aj)(qY:aj)(BJ:aj)(xk:aj):Option ((aj×aj×aj×Nat)⊕((aj×aj×aY×Nat)⊕(Dfa))):=
 grd (0<=(nth (nth x0.next ((nth dn fJ 0).toNat) []) iK 0)/\(nth (nth x0.next ((nth dn fJ 0).toNat) []) iK 0)<(x1.length:Int)) (grd (0<=(nth x1 ((nth (nth x0.next ((nth dn fJ 0).toNat) []) iK 0).toNat) 0)/\(nth x1 ((nth (nth x0.next ((nth dn fJ 0).toNat) []) iK 0).toNat) 0)<(BJ.length:Int)) (grd ((qY.length+[(nth BJ ((nth x1 ((nth (nth x0.next ((nth dn fJ 0).toNat) []) iK 0).toNat) 0).toNat) 0)].length) * 8<=140737488355328) (nxt (BJ,xk,(qY++[(nth BJ ((nth x1 ((nth (nth x0.next ((nth dn fJ 0).toNat) []) iK 0).toNat) 0).toNat) 0)]),(iK+1)))))
def Nq(x0:Dfa)(dn:aj)(fJ:Nat)(x1:aj)(iP:aY)(xq:aj)(wu:aj)(qY:aj)(iK:Nat):Option ((aj×aj×aj×Nat)⊕((aj×aj×aY×Nat)⊕(Dfa))):=
 aI (decide ((iK:Int)<((nth x0.next ((nth dn fJ 0).toNat) []).length:Int))) (grd (0<=(nth (nth x0.next ((nth dn fJ 0).toNat) []) iK 0)/\(nth (nth x0.next ((nth dn fJ 0).toNat) []) iK 0)<(x1.length:Int)) (grd (0<=(nth x1 ((nth (nth x0.next ((nth dn fJ 0).toNat) []) iK 0).toNat) 0)/\(nth x1 ((nth (nth x0.next ((nth dn fJ 0).toNat) []) iK 0).toNat) 0)<(xq.length:Int)) (aI (decide ((nth xq ((nth x1 ((nth (nth x0.next ((nth dn fJ 0).toNat) []) iK 0).toNat) 0).toNat) 0)<0)) (grd (0<=(nth (nth x0.next ((nth dn fJ 0).toNat) []) iK 0)/\(nth (nth x0.next ((nth dn fJ 0).toNat) []) iK 0)<(x1.length:Int)) (grd (0<=(nth x1 ((nth (nth x0.next ((nth dn fJ 0).toNat) []) iK 0).toNat) 0)/\(nth x1 ((nth (nth x0.next ((nth dn fJ 0).toNat) []) iK 0).toNat) 0)<(xq.length:Int)) (grd ((wu.length+[(nth (nth x0.next ((nth dn fJ 0).toNat) []) iK 0)].length) * 8<=140737488355328) (F9_ x0 dn fJ iK x1 qY (xq.set ((nth x1 ((nth (nth x0.next ((nth dn fJ 0).toNat) []) iK 0).toNat) 0).toNat) (wu.length:Int)) (wu++[(nth (nth x0.next ((nth dn fJ 0).toNat) []) iK 0)]))))) (F9_ x0 dn fJ iK x1 qY xq wu)))) (fin (grd ((iP.length+[qY].length) * 24<=140737488355328) (nxt (xq,wu,(iP++[qY]),(fJ+1)))))
def PW(v91:aj×aj)(kT:Nat)(iP:aY)(vZ:aY)(dn:aj)(x0:Dfa)(xg:B_1)(wZ:aj)(sU:Nat):Option ((aj×Nat)⊕((aY×B_1×Nat)⊕(Dfa))):=
 aI (decide ((sU:Int)<(v91.2.length:Int))) (grd (kT<iP.length) (grd (0<=(nth v91.2 sU 0)/\(nth v91.2 sU 0)<((nth iP kT []).length:Int)) (grd (sU<wZ.length) (nxt ((wZ.set sU (nth (nth iP kT []) ((nth v91.2 sU 0).toNat) 0)),(sU+1)))))) (fin (grd ((vZ.length+[wZ].length) * 24<=140737488355328) (grd (0<=(nth dn kT 0)/\(nth dn kT 0)<(x0.fin.length:Int)) (grd ((xg.length+[(nth x0.fin ((nth dn kT 0).toNat) false)].length) * 1<=140737488355328) (nxt ((vZ++[wZ]),(xg++[(nth x0.fin ((nth dn kT 0).toNat) false)]),(kT+1)))))))
def Nr(dn:aj)(v91:aj×aj)(iP:aY)(x0:Dfa)(pK:aj)(vZ:aY)(xg:B_1)(kT:Nat):Option ((aY×B_1×Nat)⊕(Dfa)):=
 aI (decide ((kT:Int)<(dn.length:Int))) (grd (8 * v91.2.length<=281474976710656) (aV (λq:aj×Nat=>PW v91 kT iP vZ dn x0 xg q.1 q.2) ((replicate v91.2.length (0:Int)),0))) (fin (some (⟨pK,vZ,xg⟩:Dfa)))
def Yq(x0:Dfa)(v91:aj×aj)(dn:aj)(iP:aY)(pK:aj)(jZ:Nat):Option ((aj×Nat)⊕(Dfa)):=
 aI (decide ((jZ:Int)<(x0.cls.length:Int))) (grd (0<=(nth x0.cls jZ 0)/\(nth x0.cls jZ 0)<(v91.1.length:Int)) (grd (jZ<pK.length) (nxt ((pK.set jZ (nth v91.1 ((nth x0.cls jZ 0).toNat) 0)),(jZ+1))))) (fin (aV (λq:aY×B_1×Nat=>Nr dn v91 iP x0 pK q.1 q.2.1 q.2.2) (([]:aY),([]:B_1),0)))
def PU(x0:Dfa)(x1:aj)(fF:aj)(dn:aj)(iP:aY)(fJ:Nat):Option ((aj×aj×aY×Nat)⊕(Dfa)):=
 aI (decide ((fJ:Int)<(dn.length:Int))) (grd (0<=(nth dn fJ 0)/\(nth dn fJ 0)<(x0.next.length:Int)) (aV (λq:aj×aj×aj×Nat=>Nq x0 dn fJ x1 iP q.1 q.2.1 q.2.2.1 q.2.2.2) (fF,dn,([]:aj),0))) (fin (bnd (Hk_ iP) (λv91=>grd (8 * x0.cls.length<=281474976710656) (aV (λq:aj×Nat=>Yq x0 v91 dn iP q.1 q.2) ((replicate x0.cls.length (0:Int)),0)))))
def Yk(x2:Int)(x1:aj)(x0:Dfa)(iJ:aj)(cZ:Nat):Option ((aj×Nat)⊕(Dfa)):=
 aI (decide ((cZ:Int)<((replicate x2.toNat (0:Int)).length:Int))) (grd (cZ<iJ.length) (nxt ((iJ.set cZ (-1)),(cZ+1)))) (fin (grd (0<x1.length) (grd (0<=(nth x1 0 0)/\(nth x1 0 0)<(iJ.length:Int)) (aV (λq:aj×aj×aY×Nat=>PU x0 x1 q.1 q.2.1 q.2.2.1 q.2.2.2) ((iJ.set ((nth x1 0 0).toNat) 0),[0],([]:aY),0)))))
def Ic_(x0:Dfa)(x1:aj)(x2:Int):Option (Dfa):=
 grd (0<=x2/\8 * x2.toNat<=281474976710656) (aV (λq:aj×Nat=>Yk x2 x1 x0 q.1 q.2) ((replicate x2.toNat (0:Int)),0))
def Lo_(σ:ak)(r:Dfa):Value->ak->List Res->Prop:=λv σ' H'=>
 ∃a1 c1 a2 c2 a3 c3,v= .agg #[.slice a1 r.cls.length c1,.slice a2 r.next.length c2,.slice a3 r.fin.length c3]/\dV σ' aB a1 c1 r.cls/\RZ σ' (bH 1 aB aW) (.slice a2 r.next.length c2) r.next/\dV σ' dL a3 c3 r.fin/\H'=[]
theorem K7_{σ:ak}{x0:Dfa}{x1:aj}{x2:Int}(aA:dV σ aB ay au x0.cls)(aG:RZ σ (bH 1 aB aW) (.slice aC x0.next.length aJ) x0.next)(aH:dV σ dL aK aF x0.fin)(bU:dV σ aB bW bV x1){r:Dfa}(hh:Ic_ x0 x1 x2=some r):
  Con prog 94 #[.agg #[.slice ay x0.cls.length au,.slice aC x0.next.length aJ,.slice aK x0.fin.length aF],.slice bW x1.length bV,.int .i64 x2] σ [] (Lo_ σ r):=by
 dsimp only [Ic_]at hh;have f0_0b:=aA.rv.big;have f0_1b:=aG.big;have f0_2b:=aH.rv.big;have f1_0b:=bU.rv.big;refine cM 169 Tryz.func94 (λw0=> ?_);refine R2 ?_;refine TL.bx (λaS=> ?_);refine TL.al (λbn=> ?_);refine R4 ?_;obtain ⟨u4,hh⟩:=gd hh;refine κ rfl (IC (m:=x2.toNat) (enc:=aB) (0:Int) rfl yT lG T_ Fh rfl rfl (vN u4.1) (vN u4.1) (by omega) (by decide) aW (by decide) rfl vX (λa105 O9=> ?_));refine R10 ?_;refine TC.lk hh () (rgs [(8,1),(29,7)]) (λ⟨iJ,cZ⟩ _=>([(29,.int .i64 (cZ:Int))],[ω aS #[.slice ay x0.cls.length au,.slice aC x0.next.length aJ,.slice aK x0.fin.length aF] 35,ω bn #[aT,aT,aT] 35,ε 3 1 aB (.slice a105 (replicate x2.toNat (0:Int)).length O9) iJ])) (λ⟨iJ,_⟩ _=>iJ.length=(replicate x2.toNat (0:Int)).length) z (ψ [1,2] 3) ?_;rintro ⟨iJ,cZ⟩ _ _ z1 hh hR1 J6;dsimp only [Yk]at hh J6 ⊢;refine ξ 2 z (λzM=> ?_);refine R5 ?_;refine ι z hh (λiG hh=> ?_) (λiG hh=> ?_)
 ·refine R11 ?_;obtain ⟨u14,hh⟩:=gd hh;refine TL.iS 2 z (λhs119=> ?_);refine TL.w z iN (φ 2 z z ?_);have hn120:(iJ.set cZ (-1)).length=(replicate x2.toNat (0:Int)).length:=by rw [eX];exact J6
  refine κ z (qp (-1) z lG z z z z aW vX (by omega) (by omega) ?_);refine R5 ?_;exact nk hR1 hh () (ψ [2,2] 3) hn120
 refine R1 ?_;replace hh:=bF hR1 hh;refine R5 ?_;obtain ⟨u20,hh⟩:=gd hh;refine TL.w z (zk (i:=0) z yT lG z z bU.rv.sl (by omega)) (TL.w z l1 ?_);obtain ⟨u22,hh⟩:=gd hh;refine TL.iS 2 z (λhs122=> ?_);refine TL.w z iX (φ 2 z z ?_);have jG:(iJ.set ((nth x1 0 0).toNat) 0).length=(replicate x2.toNat (0:Int)).length:=by rw [eX];exact J6
 refine κ z (qp 0 z lG z z z z aW vX (by omega) (by omega) ?_);refine R3 ?_;refine κ z (gX (enc:=aB) [0] (λa124 iq=> ?_));refine R12 ?_;refine TC.nilS 31 1 (bH 1 aB aW).en ?_;have zf164:=ZOk.nil σ (bH 1 aB aW);refine TC.zl (α:=(aj×aj×aY×Nat)×((Option Addr)×Nat×(Option Addr)×Nat×(List (aj×(bH 1 aB aW).P))×ak)) (rgs [(9,4),(14,1),(42,54)]) (λg=>[(9,.slice g.2.1 g.1.2.1.length g.2.2.1),(10,.slice g.2.2.2.1 g.1.2.2.1.length g.2.2.2.2.1),(11,.int .i64 (g.1.2.2.2:Int))]) (λg=>[ω aS #[.slice ay x0.cls.length au,.slice aC x0.next.length aJ,.slice aK x0.fin.length aF] 35,ω bn #[aT,aT,aT] 35,ε 3 1 aB (.slice a105 (replicate x2.toNat (0:Int)).length O9) g.1.1,ε 3 1 aB (.slice g.2.1 g.1.2.1.length g.2.2.1) g.1.2.1,ε 31 1 (bH 1 aB aW).en (.slice g.2.2.2.1 g.1.2.2.1.length g.2.2.2.2.1) g.2.2.2.2.2.1]) (λg=>g.2.2.2.2.2.2) (λg=>aV (λq:aj×aj×aY×Nat=>PU x0 x1 q.1 q.2.1 q.2.2.1 q.2.2.2) g.1=some r/\g.1.1.length=(replicate x2.toNat (0:Int)).length/\ZOk g.2.2.2.2.2.2 (bH 1 aB aW) g.2.2.2.2.2.1 g.1.2.2.1/\ak.le σ g.2.2.2.2.2.2) (λg=>qI (λq:aj×aj×aY×Nat=>PU x0 x1 q.1 q.2.1 q.2.2.1 q.2.2.2) g.1) (((iJ.set ((nth x1 0 0).toNat) 0),[0],([]:aY),0),(a124,iq,none,0,[],σ)) (ψ [1,2,4,4] 5) z (by repeat (first|exact trivial|refine ⟨z,?_⟩)) ⟨hh,jG,zf164,(ak.le.refl _)⟩ (λg2 j2 hg2=> ?_);obtain ⟨⟨fF,dn,iP,fJ⟩,⟨MG,c156,a159,c160,I8,τ166⟩⟩:=g2;obtain ⟨hh,SE,qU,rQ⟩:=hg2
 try dsimp only at SE
 try dsimp only at qU
 dsimp only at rQ;replace aA:=aA.mono rQ;replace aG:=aG.mono rQ;replace aH:=aH.mono rQ;replace bU:=bU.mono rQ
 try dsimp only
 obtain ⟨z1,hh,hR1⟩:=yO hh;dsimp only [PU]at hh;have zf162b:=qU.length;refine ξ 2 z (λhb168=> ?_);refine ξ 3 z (λhb169=> ?_);refine ξ 4 z (λhb170=> ?_);refine R8 ?_;refine ι z hh (λh171 hh=> ?_) (λh171 hh=> ?_)
 ·refine R9 ?_;obtain ⟨u39,hh⟩:=gd hh;refine TC.draw [] (by kernel_rfl) (ν 0 z fL z (Δ 1 z lL z (ν 2 z mS z (ν 3 z mI z (TA.isSl (i:=3) z (λhs174 _ _=> ?_))))));refine Δ 4 z iN z (Δ 5 z o1 z (Δ 6 z iX z ?_));obtain ⟨Oh,CZ,hg175⟩:=RZ.seg aG ((nth dn fJ 0).toNat) (by omega);replace CZ:dV _ aB Oh.1 Oh.2 (nth x0.next ((nth dn fJ 0).toNat) []):=CZ;have hk175b:=CZ.rv.big;refine Δ 7 z (OpVal.of (wP z oV z hg175 z) (v':= .slice Oh.1 ((nth x0.next ((nth dn fJ 0).toNat) []).length) Oh.2) z) z (Δ 8 z lC z (ν 9 z mI z (R2 ?_)));refine TC.nilS 3 1 aB (TC.zl (α:=(aj×aj×aj×Nat)×((Option Addr)×Nat×(Option Addr)×Nat×ak)) (rgs [(9,1),(12,1),(14,1),(57,35)]) (λg=>[(9,.slice g.2.1 g.1.2.1.length g.2.2.1),(12,.slice g.2.2.2.1 g.1.2.2.1.length g.2.2.2.2.1),(57,.int .i64 (g.1.2.2.2:Int))]) (λg=>[ω aS #[.slice ay x0.cls.length au,.slice aC x0.next.length aJ,.slice aK x0.fin.length aF] 35,ω bn #[aT,aT,aT] 35,ε 3 1 aB (.slice a105 (replicate x2.toNat (0:Int)).length O9) g.1.1,ε 3 1 aB (.slice g.2.1 g.1.2.1.length g.2.2.1) g.1.2.1,ε 31 1 (bH 1 aB aW).en (.slice a159 iP.length c160) I8,ε 3 1 aB (.slice g.2.2.2.1 g.1.2.2.1.length g.2.2.2.2.1) g.1.2.2.1]) (λg=>g.2.2.2.2.2) (λg=>aV (λq:aj×aj×aj×Nat=>Nq x0 dn fJ x1 iP q.1 q.2.1 q.2.2.1 q.2.2.2) g.1=some z1/\g.1.1.length=(replicate x2.toNat (0:Int)).length/\ZOk g.2.2.2.2.2 (bH 1 aB aW) I8 iP/\ak.le τ166 g.2.2.2.2.2) (λg=>qI (λq:aj×aj×aj×Nat=>Nq x0 dn fJ x1 iP q.1 q.2.1 q.2.2.1 q.2.2.2) g.1) ((fF,dn,([]:aj),0),(MG,c156,none,0,τ166)) (ψ [5,5,5,5,5] 6) z (by repeat (first|exact trivial|refine ⟨z,?_⟩)) ⟨hh,SE,qU,(ak.le.refl _)⟩ (λg3 j3 hg3=> ?_));obtain ⟨⟨xq,wu,qY,iK⟩,⟨a203,c204,a208,Xv,τ212⟩⟩:=g3;obtain ⟨hh,F8,iY,pX⟩:=hg3
  try dsimp only at F8
  try dsimp only at iY
  dsimp only at pX;replace aA:=aA.mono pX;replace aH:=aH.mono pX;replace bU:=bU.mono pX;replace qU:=qU.mono pX;replace CZ:=CZ.mono pX
  try dsimp only
  obtain ⟨z2,hh,hR2⟩:=yO hh;dsimp only [Nq]at hh;have zf205b:=iY.length;refine ξ 2 z (λhb214=> ?_);refine ξ 3 z (λhb215=> ?_);refine ξ 4 z (λhb216=> ?_);refine ξ 5 z (λhb217=> ?_);refine R5 ?_;refine ι z hh (λh218 hh=> ?_) (λh218 hh=> ?_)
  ·refine R9 ?_;refine TC.cutG (α:=(aj×aj)×((Option Addr)×Nat×ak)) (rgs [(9,1),(61,20)]) (λg=>[(9,.slice g.2.1 g.1.2.length g.2.2.1)]) (λg=>[ω aS #[.slice ay x0.cls.length au,.slice aC x0.next.length aJ,.slice aK x0.fin.length aF] 35,ω bn #[aT,aT,aT] 35,ε 3 1 aB (.slice a105 (replicate x2.toNat (0:Int)).length O9) g.1.1,ε 3 1 aB (.slice g.2.1 g.1.2.length g.2.2.1) g.1.2,ε 31 1 (bH 1 aB aW).en (.slice a159 iP.length c160) I8,dW 3 aB a208 Xv qY]) (λg=>g.2.2.2) (λg=>F9_ x0 dn fJ iK x1 qY g.1.1 g.1.2=some z2/\g.1.1.length=(replicate x2.toNat (0:Int)).length/\ZOk g.2.2.2 (bH 1 aB aW) I8 iP/\ak.le τ212 g.2.2.2) ?_ (λg j hg=> ?_)
   ·refine R5 ?_;obtain ⟨u50,hh⟩:=gd hh;refine R2 ?_;obtain ⟨u52,hh⟩:=gd hh;refine TL.iS 2 z (λhs225=> ?_);refine R4 ?_;refine ι z hh (λh226 hh=> ?_) (λh226 hh=> ?_)
    ·refine R5 ?_;obtain ⟨u58,hh⟩:=gd hh;refine R4 ?_;obtain ⟨u62,hh⟩:=gd hh;refine TL.iS 2 z (λhs227=> ?_);refine TL.w z iX (φ 2 z z ?_);have hn228:(xq.set ((nth x1 ((nth (nth x0.next ((nth dn fJ 0).toNat) []) iK 0).toNat) 0).toNat) (wu.length:Int)).length=(replicate x2.toNat (0:Int)).length:=by rw [eX];exact F8
     refine κ z (qp (wu.length:Int) z lG z z z z aW vX (by omega) (by omega) ?_);refine R4 ?_;refine κ z (gX (enc:=aB) [(nth (nth x0.next ((nth dn fJ 0).toNat) []) iK 0)] (λa229 c230=> ?_));refine φ 4 z z ?_;obtain ⟨u67,hh⟩:=gd hh;refine κ z (apF (.inr ⟨_,0,z⟩) u67 (λa232 c233=> ?_));refine R2 ?_;exact cf (((xq.set ((nth x1 ((nth (nth x0.next ((nth dn fJ 0).toNat) []) iK 0).toNat) 0).toNat) (wu.length:Int)),(wu++[(nth (nth x0.next ((nth dn fJ 0).toNat) []) iK 0)])),(a232,c233,τ212)) ⟨hh,hn228,iY,(ak.le.refl _)⟩ (ψ [6,6,2,4,6,6] 6)
    refine R1 ?_;exact cf ((xq,wu),(a203,c204,τ212)) ⟨hh,F8,iY,(ak.le.refl _)⟩ (ψ [5,5,5,5,5,5] 6)
   obtain ⟨⟨BJ,xk⟩,⟨a222,Dj,τ234⟩⟩:=g;obtain ⟨hh,Sv,IX,rO⟩:=hg
   try dsimp only at Sv
   try dsimp only at IX
   dsimp only at rO;replace aA:=aA.mono rO;replace aH:=aH.mono rO;replace bU:=bU.mono rO;replace qU:=qU.mono rO;replace iY:=iY.mono rO
   try dsimp only
   dsimp only [F9_]at hh;have zf224b:=IX.length;refine ξ 2 z (λhb236=> ?_);refine ξ 3 z (λhb237=> ?_);refine ξ 4 z (λhb238=> ?_);refine ξ 5 z (λhb239=> ?_);refine R5 ?_;obtain ⟨u73,hh⟩:=gd hh;refine R2 ?_;obtain ⟨u75,hh⟩:=gd hh;refine TL.iS 2 z (λhs240=> ?_);refine R2 ?_;refine κ z (gX (enc:=aB) [(nth BJ ((nth x1 ((nth (nth x0.next ((nth dn fJ 0).toNat) []) iK 0).toNat) 0).toNat) 0)] (λa241 c242=> ?_));refine φ 6 z z ?_;obtain ⟨u78,hh⟩:=gd hh;refine κ z (apF (.inr ⟨_,0,z⟩) u78 (λa244 c245=> ?_));refine R6 ?_;obtain ⟨hh,V5⟩:=wG hR2 hh;exact lf ((BJ,xk,(qY++[(nth BJ ((nth x1 ((nth (nth x0.next ((nth dn fJ 0).toNat) []) iK 0).toNat) 0).toNat) 0)]),(iK+1)),(a222,Dj,a244,c245,τ234)) V5 ⟨hh,Sv,IX,(pX.trans rO)⟩ (ψ [6,6,6,6,6] 6)
  refine R1 ?_;replace hh:=bF hR2 hh;refine R4 ?_;refine φ 5 z z (TL.iw aW (λτ251 xR RF=> ?_));replace aA:=aA.mono xR;replace aH:=aH.mono xR;replace qU:=qU.mono xR;replace iY:=iY.mono xR;have hr249b:=RF.rv.big;have Qh:ZOk _ (bH 1 aB aW) ([(qY,(a208,Xv))]:List (aj×(bH 1 aB aW).P)) [qY]:=ZOk.cons (RF) (ZOk.nil _ _);refine κ z (litZ Qh z jH ji z jI z z z (by decide) (by decide) z (by decide) z (by decide) (λH8 Hw=> ?_));refine φ 5 z z ?_;obtain ⟨u85,hh⟩:=gd hh;refine κ z (Ud (k:=(bH 1 aB aW)) iY Qh z z jH ji kY jI z z (by decide) z z z (.inr ⟨_,0,z⟩) (by simpa using u85) (by decide) (λa254 c255 zf256=> ?_));refine R7 ?_;obtain ⟨hh,V4⟩:=wG hR1 hh;exact lf ((xq,wu,(iP++[qY]),(fJ+1)),(a203,c204,a254,c255,(I8++([(qY,(a208,Xv))]:List (aj×(bH 1 aB aW).P))),τ251)) V4 ⟨hh,F8,zf256,((rQ.trans pX).trans xR)⟩ (ψ [5,5,5,5] 5)
 refine R1 ?_;replace hh:=bF hR1 hh;refine R4 ?_;refine φ 4 z z (TL.Xj qU (λτ260 Ku tC=> ?_));replace aA:=aA.mono Ku;replace aH:=aH.mono Ku;have hr258b:=tC.big;obtain ⟨v91,u91,hh⟩:=bQ hh;refine κ z (OpOk.call (K0_ tC u91) z z pf153 z z z z ?_);rintro _ τ261 _ Et ⟨a261_1,c261_1,a261_2,c261_2,rfl,hr261_0,hr261_1,rfl⟩;replace aA:=aA.mono Et;replace aH:=aH.mono Et;replace tC:=tC.mono Et;refine R11 ?_;obtain ⟨u100,hh⟩:=gd hh;refine κ z (mk2 (enc:=aB) (0:Int) (λDv Di=> ?_));refine TL.w z bL (TL.al (λLU=> ?_));refine R11 ?_;refine TC.lk hh () (rgs [(18,2),(109,14)]) (λ⟨pK,jZ⟩ _=>([(109,.int .i64 (jZ:Int))],[ω aS #[.slice ay x0.cls.length au,.slice aC x0.next.length aJ,.slice aK x0.fin.length aF] 35,ω bn #[aT,aT,aT] 35,dW 3 aB MG c156 dn,ω LU #[.slice Dv ((replicate x0.cls.length (0:Int)).length) Di,aT,aT] 35,ε 3 1 aB (.slice Dv (replicate x0.cls.length (0:Int)).length Di) pK])) (λ⟨pK,_⟩ _=>pK.length=(replicate x0.cls.length (0:Int)).length) z (ψ [1,1,5,4,4] 5) ?_;rintro ⟨pK,jZ⟩ _ _ z1 hh hR1 CP;dsimp only [Yq]at hh CP ⊢;refine ξ 2 z (λGq=> ?_);refine ξ 4 z (λGp=> ?_);refine R5 ?_;refine ι z hh (λh278 hh=> ?_) (λh278 hh=> ?_)
 ·refine R11 ?_;obtain ⟨u119,hh⟩:=gd hh;obtain ⟨u121,hh⟩:=gd hh;refine TC.draw [8] (by kernel_rfl) (ν 0 z fL z (Δ 1 z lL z (ν 2 z mI z (ν 3 z mS z (ν 4 z mI z (Δ 5 z iX z (Δ 6 z l1 z (TA.isSl (i:=4) z (λhs281 _ _=> ?_)))))))));refine Δ 7 z iN z (Θ 4 z z ?_);have hn282:(pK.set jZ (nth v91.1 ((nth x0.cls jZ 0).toNat) 0)).length=(replicate x0.cls.length (0:Int)).length:=by rw [eX];exact CP
  refine TA.last 8 (by kernel_rfl) z z z (qp (nth v91.1 ((nth x0.cls jZ 0).toNat) 0) z lG z z z z aW vX (by omega) (by omega) ?_);refine R5 ?_;exact nk hR1 hh () (ψ [4,4,4,4] 5) hn282
 refine R1 ?_;replace hh:=bF hR1 hh;refine R9 ?_;refine TC.nilS 31 1 (bH 1 aB aW).en ?_;have kL:=ZOk.nil τ261 (bH 1 aB aW);refine TC.nilS 4 1 dL (TC.zl (α:=(aY×B_1×Nat)×((Option Addr)×Nat×(List (aj×(bH 1 aB aW).P))×(Option Addr)×Nat×ak)) (rgs [(20,5),(125,43)]) (λg=>[(125,.int .i64 (g.1.2.2:Int))]) (λg=>[ω aS #[.slice ay x0.cls.length au,.slice aC x0.next.length aJ,.slice aK x0.fin.length aF] 35,ω bn #[aT,aT,aT] 35,ω LU #[.slice Dv ((replicate x0.cls.length (0:Int)).length) Di,.slice g.2.1 g.1.1.length g.2.2.1,.slice g.2.2.2.2.1 g.1.2.1.length g.2.2.2.2.2.1] 35,ε 3 1 aB (.slice Dv (replicate x0.cls.length (0:Int)).length Di) pK,ε 31 1 (bH 1 aB aW).en (.slice g.2.1 g.1.1.length g.2.2.1) g.2.2.2.1,ε 4 1 dL (.slice g.2.2.2.2.1 g.1.2.1.length g.2.2.2.2.2.1) g.1.2.1,dW 3 aB MG c156 dn]) (λg=>g.2.2.2.2.2.2) (λg=>aV (λq:aY×B_1×Nat=>Nr dn v91 iP x0 pK q.1 q.2.1 q.2.2) g.1=some r/\pK.length=(replicate x0.cls.length (0:Int)).length/\ZOk g.2.2.2.2.2.2 (bH 1 aB aW) g.2.2.2.1 g.1.1/\ak.le τ261 g.2.2.2.2.2.2) (λg=>qI (λq:aY×B_1×Nat=>Nr dn v91 iP x0 pK q.1 q.2.1 q.2.2) g.1) ((([]:aY),([]:B_1),0),(none,0,[],none,0,τ261)) (ψ [4,1,2,6,6,6,6] 7) z (by repeat (first|exact trivial|refine ⟨z,?_⟩)) ⟨hh,CP,kL,(ak.le.refl _)⟩ (λg5 j5 hg5=> ?_));obtain ⟨⟨vZ,xg,kT⟩,⟨a312,c313,U_,a318,c319,τ324⟩⟩:=g5;obtain ⟨hh,JQ,qR,jv⟩:=hg5
 try dsimp only at JQ
 try dsimp only at qR
 dsimp only at jv;replace aH:=aH.mono jv;replace tC:=tC.mono jv;replace hr261_1:=hr261_1.mono jv
 try dsimp only
 obtain ⟨z1,hh,hR1⟩:=yO hh;dsimp only [Nr]at hh;have zf315b:=qR.length;refine ξ 3 z (λhb326=> ?_);refine ξ 4 z (λhb327=> ?_);refine ξ 5 z (λhb328=> ?_);refine ξ 6 z (λhb329=> ?_);refine R5 ?_;refine ι z hh (λh330 hh=> ?_) (λh330 hh=> ?_)
 ·refine R6 ?_;refine TL.iS 6 z (λhs331=> ?_);refine R9 ?_;obtain ⟨u136,hh⟩:=gd hh;refine κ z (mk2 (enc:=aB) (0:Int) (λXV Xp=> ?_));refine R10 ?_;refine TC.zl (α:=(aj×Nat)×(ak)) (rgs [(23,2),(135,16)]) (λg=>[(135,.int .i64 (g.1.2:Int))]) (λg=>[ω aS #[.slice ay x0.cls.length au,.slice aC x0.next.length aJ,.slice aK x0.fin.length aF] 35,ω bn #[aT,aT,aT] 35,ω LU #[.slice Dv ((replicate x0.cls.length (0:Int)).length) Di,.slice a312 vZ.length c313,.slice a318 xg.length c319] 35,ε 3 1 aB (.slice Dv (replicate x0.cls.length (0:Int)).length Di) pK,ε 31 1 (bH 1 aB aW).en (.slice a312 vZ.length c313) U_,dW 4 dL a318 c319 xg,ε 3 1 aB (.slice XV (replicate v91.2.length (0:Int)).length Xp) g.1.1,dW 3 aB MG c156 dn]) (λg=>g.2) (λg=>aV (λq:aj×Nat=>PW v91 kT iP vZ dn x0 xg q.1 q.2) g.1=some z1/\pK.length=(replicate x0.cls.length (0:Int)).length/\ZOk g.2 (bH 1 aB aW) U_ vZ/\g.1.1.length=(replicate v91.2.length (0:Int)).length/\ak.le τ324 g.2) (λg=>qI (λq:aj×Nat=>PW v91 kT iP vZ dn x0 xg q.1 q.2) g.1) (((replicate v91.2.length (0:Int)),0),τ324) (ψ [7,1,7,7,7,7,7,7] 8) z (by repeat (first|exact trivial|refine ⟨z,?_⟩)) ⟨hh,JQ,qR,z,(ak.le.refl _)⟩ (λg6 j6 hg6=> ?_);obtain ⟨⟨wZ,sU⟩,τ352⟩:=g6;obtain ⟨hh,JM,zy,JL,rG⟩:=hg6
  try dsimp only at JM
  try dsimp only at zy
  try dsimp only at JL
  dsimp only at rG;replace aH:=aH.mono rG;replace tC:=tC.mono rG;replace hr261_1:=hr261_1.mono rG;replace qR:=qR.mono rG
  try dsimp only
  obtain ⟨z2,hh,hR2⟩:=yO hh;dsimp only [PW]at hh;have zf348b:=zy.length;refine ξ 3 z (λhb354=> ?_);refine ξ 4 z (λhb355=> ?_);refine ξ 5 z (λhb356=> ?_);refine ξ 6 z (λhb357=> ?_);refine ξ 7 z (λhb358=> ?_);refine R5 ?_;refine ι z hh (λh359 hh=> ?_) (λh359 hh=> ?_)
  ·refine R16 ?_;obtain ⟨u151,hh⟩:=gd hh;refine TL.w z iN ?_;obtain ⟨N7,S_,hg360⟩:=RZ.seg tC kT (by omega);replace S_:dV _ aB N7.1 N7.2 (nth iP kT []):=S_;refine TL.w z (OpVal.of (wP z oV z hg360 z) (v':= .slice N7.1 ((nth iP kT []).length) N7.2) z) (TL.i z z ?_);obtain ⟨u154,hh⟩:=gd hh;refine R2 ?_;obtain ⟨u156,hh⟩:=gd hh;refine TL.iS 6 z (λhs361=> ?_);refine TL.w z iN (φ 6 z z ?_);have hn362:(wZ.set sU (nth (nth iP kT []) ((nth v91.2 sU 0).toNat) 0)).length=(replicate v91.2.length (0:Int)).length:=by rw [eX];exact JL
   refine κ z (qp (nth (nth iP kT []) ((nth v91.2 sU 0).toNat) 0) z lG z z z z aW vX (by omega) (by omega) ?_);refine R5 ?_;obtain ⟨hh,VR⟩:=wG hR2 hh;exact lf (((wZ.set sU (nth (nth iP kT []) ((nth v91.2 sU 0).toNat) 0)),(sU+1)),τ352) VR ⟨hh,JM,zy,hn362,rG⟩ (ψ [7,1,7,7,7,7,7,7] 8)
  refine R1 ?_;replace hh:=bF hR2 hh;refine R6 ?_;rw [<-JL];refine φ 6 z z (TL.iw aW (λτ368 Ap hr366=> ?_));replace aH:=aH.mono Ap;replace qR:=qR.mono Ap;replace zy:=zy.mono Ap;have Qc:ZOk _ (bH 1 aB aW) ([(wZ,(XV,Xp))]:List (aj×(bH 1 aB aW).P)) [wZ]:=ZOk.cons (hr366) (ZOk.nil _ _);refine κ z (litZ Qc z jH ji z jI z z z (by decide) (by decide) z (by decide) z (by decide) (λa364 c365=> ?_));refine φ 5 z z ?_;obtain ⟨u164,hh⟩:=gd hh;refine κ z (Ud (k:=(bH 1 aB aW)) zy Qc z z jH ji kY jI z z (by decide) z z z (.inr ⟨_,0,z⟩) (by simpa using u164) (by decide) (λa371 c372 zf373=> ?_));refine TL.w z fL (φ 4 z z (R2 ?_));obtain ⟨u172,hh⟩:=gd hh;obtain ⟨u175,hh⟩:=gd hh;refine TC.draw [8,9,10] (by kernel_rfl) (ν 0 z fL z (Δ 1 z lL z (ν 2 z fL z (Δ 3 z lL z (ν 4 z mI z (Δ 5 z iX z (Δ 6 z l1 z (Φ 7 z (gX (enc:=dL) [(nth x0.fin ((nth dn kT 0).toNat) false)] (λa379 c380=>(k1 ?_)))))))))));refine Θ 7 z z (TA.last 8 (by kernel_rfl) z z z (apF (.inr ⟨_,0,z⟩) u175 (λa382 c383=> ?_)));refine TZ.v 9 (by kernel_rfl) z z z fL z z (TZ.front 2 z z (TZ.last 10 (by kernel_rfl) z z z (gJ z wf_ z z z z z ?_)));refine R5 ?_;obtain ⟨hh,VQ⟩:=wG hR1 hh;exact lf (((vZ++[wZ]),(xg++[(nth x0.fin ((nth dn kT 0).toNat) false)]),(kT+1)),(a371,c372,(U_++([(wZ,(XV,Xp))]:List (aj×(bH 1 aB aW).P))),a382,c383,τ368)) VQ ⟨hh,JM,zf373,((jv.trans rG).trans Ap)⟩ (ψ [8,2,4,8,4,8,8] 7)
 refine R1 ?_;replace hh:=bF hR1 hh;refine R4 ?_;refine φ 1 z z (R2 ?_);rw [<-JQ];refine TC.front 3 z z (TC.iw aW (λτ387 Wi FP=> ?_));replace qR:=qR.mono Wi;refine TC.front 3 z z (TC.Xj qR (λτ390 oh Rx=> ?_));replace FP:=FP.mono oh;refine TC.front 3 z z (TC.iw wJ (λτ393 Ko hr391=> ?_));replace FP:=FP.mono Ko;replace Rx:=Rx.mono Ko;have hr391b:=hr391.rv.big;refine TC.rt 1 ?_;obtain rfl:=so hh;exact rz
def Ja_(x0:Dfa):Option (Dfa×Int):=
 bnd (Uj x0) (λv5=>aI (decide (v5≠0)) (some ((⟨([]:aj),([]:aY),([]:B_1)⟩:Dfa),1)) (bnd (Hg_ x0) (λv12=>bnd (Hx_ x0 v12) (λv13=>bnd (Ic_ x0 v13.1 v13.2) (λv22=>some (v22,0))))))
theorem Lv_{σ:ak}{x0:Dfa}(aA:dV σ aB ay au x0.cls)(aG:RZ σ (bH 1 aB aW) (.slice aC x0.next.length aJ) x0.next)(aH:dV σ dL aK aF x0.fin){r:Dfa×Int}(hh:Ja_ x0=some r):
  Con prog 31 #[.agg #[.slice ay x0.cls.length au,.slice aC x0.next.length aJ,.slice aK x0.fin.length aF]] σ [] (UD σ r):=by
 dsimp only [Ja_]at hh;refine cM 21 Tryz.func31 (λw0=> ?_);refine R2 ?_;refine TL.bx (λaS=> ?_);refine TL.al (λbn=> ?_);refine R6 ?_;obtain ⟨v5,u5,hh⟩:=bQ hh;refine κ z (eG (Hz_ (x0:=x0) aA aG aH u5) z z NV z z z ?_);refine R2 ?_;refine ι z hh (λbM hh=> ?_) (λbM hh=> ?_)
 ·refine R6 ?_;refine TC.rt 1 ?_;obtain rfl:=so hh;exact rz
 refine R2 ?_;obtain ⟨v12,u12,hh⟩:=bQ hh;obtain ⟨v13,u13,hh⟩:=bQ hh;refine TC.draw [] (by kernel_rfl) (Δ 0 z lA z (Δ 1 z lA z (Φ 2 z (OpOk.call (K2_ (x0:=x0) aA aG aH u12) z z pf93 z z z z ?_))));rintro _ _ _ WJ ⟨a112_1,c112_1,rfl,rfl,rfl⟩;refine k1 (TA.iw aW (λτ116 kC dF=> ?_));replace aA:=aA.mono kC;replace aG:=aG.mono kC;replace aH:=aH.mono kC;refine Φ 3 z (OpOk.call (K3_ (x0:=x0) aA aG aH dF u13) z z pf92 z z z z ?_);rintro _ τ117 _ dR ⟨a117_1,c117_1,rfl,hr117_0,rfl⟩;replace aA:=aA.mono dR;replace aG:=aG.mono dR;replace aH:=aH.mono dR;refine kl 0 (kC.trans dR) (ν 4 z mT z (ν 5 z (OpVal.extract z z z) z (ν 6 z (OpVal.extract z z z) z (ν 7 z mS z (ν 8 z mI z (R6 ?_))))));obtain ⟨v22,u22,hh⟩:=bQ hh;refine κ z (OpOk.call (K7_ (x0:=x0) aA aG aH hr117_0 u22) z z pf94 z z z z ?_);rintro _ τ118 _ hle118 ⟨a118_1,c118_1,a118_2,c118_2,a118_3,c118_3,rfl,hr118_0,hr118_1,hr118_2,rfl⟩;refine R3 ?_;refine TC.rt 1 ?_;obtain rfl:=so hh;exact rz
def Np(x0:Fst):Option (Dfa×Int):=
 bnd (Km_ x0) (λv5=>aI (decide (v5.2≠0)) (some ((⟨([]:aj),([]:aY),([]:B_1)⟩:Dfa),v5.2)) (bnd (J3_ v5.1) (λv19=>aI (decide (v19.2≠0)) (some ((⟨([]:aj),([]:aY),([]:B_1)⟩:Dfa),v19.2)) (bnd (Ja_ v19.1) (λv33=>some (v33.1,v33.2))))))
theorem H0_{σ:ak}{x0:Fst}(hgl:GT σ 0 qC deB)(aA:RS σ 2 bg (.slice ay x0.starts.length au) x0.starts)(aG:RS σ 2 bg (.slice aC x0.ends.length aJ) x0.ends)(aH:RS σ 8 dG (.slice aK x0.arcs.length aF) x0.arcs){r:Dfa×Int}(hh:Np x0=some r):
  Con prog 8 #[.agg (eP x0 ay au aC aJ aK aF)] σ [] (UD σ r):=by
 dsimp only [Np]at hh;refine cM 29 Tryz.func8 (λw0=> ?_);refine R2 ?_;refine TL.bx (λaS=> ?_);refine TL.al (λbn=> ?_);refine R5 ?_;obtain ⟨v5,u5,hh⟩:=bQ hh;refine κ z (OpOk.call (L9_ (x0:=x0) aA aG aH u5) z z pf29 z z z z ?_);rintro _ τ105 _ qh ⟨a105_1,c105_1,a105_2,c105_2,a105_3,c105_3,rfl,hr105_0,hr105_1,hr105_2,rfl⟩;replace hgl:=hgl.mono qh;refine R3 ?_;refine TL.al (λyC=> ?_);refine R9 ?_;refine ι z hh (λkX hh=> ?_) (λkX hh=> ?_)
 ·refine R4 ?_;refine φ 1 z z (R3 ?_);refine TC.rt 1 ?_;obtain rfl:=so hh;exact rz
 refine R4 ?_;obtain ⟨v19,DY,hh⟩:=bQ hh;refine κ z (OpOk.call (L8_ (x0:=v5.1) hgl hr105_0 hr105_1 hr105_2 DY) z z pf30 z z z z ?_);rintro _ τ109 _ dh ⟨a109_1,c109_1,a109_2,c109_2,a109_3,c109_3,rfl,hr109_0,hr109_1,hr109_2,rfl⟩;refine R3 ?_;refine TL.al (λb110=> ?_);refine R9 ?_;refine ι z hh (λh112 hh=> ?_) (λh112 hh=> ?_)
 ·refine R4 ?_;refine φ 2 z z (R3 ?_);refine TC.rt 1 ?_;obtain rfl:=so hh;exact rz
 refine R4 ?_;obtain ⟨v33,u33,hh⟩:=bQ hh;refine κ z (OpOk.call (Lv_ (x0:=v19.1) hr109_0 hr109_1 hr109_2 u33) z z pf31 z z z z ?_);rintro _ τ113 _ cO ⟨a113_1,c113_1,a113_2,c113_2,a113_3,c113_3,rfl,hr113_0,hr113_1,hr113_2,rfl⟩;refine R2 ?_;refine φ 2 z z (R3 ?_);refine TC.rt 1 ?_;obtain rfl:=so hh;exact rz
def II(x0:Fst):Option (Bool):=
 bnd (PY x0) (λv4=>aI v4 (aI (decide (x0.states<=5)) (some true) (some (decide (1024<x0.states)))) (some false))
theorem Hu_{σ:ak}{x0:Fst}(aA:RS σ 2 bg (.slice ay x0.starts.length au) x0.starts)(aG:RS σ 2 bg (.slice aC x0.ends.length aJ) x0.ends)(aH:RS σ 8 dG (.slice aK x0.arcs.length aF) x0.arcs){r:Bool}(hh:II x0=some r):
  Con prog 11 #[.agg (eP x0 ay au aC aJ aK aF)] σ [] (iU (.bool r) σ):=by
 dsimp only [II]at hh;refine cM 15 Tryz.func11 (λw0=> ?_);refine R2 ?_;refine TL.bx (λaS=> ?_);refine R5 ?_;obtain ⟨v4,u4,hh⟩:=bQ hh;refine κ z (eG (Kd_ (x0:=x0) aA aG aH u4) z z pf38 z z z ?_);refine TL.j z z (Γ 5 z (λjM=> ?_) (λjM=> ?_))
 ·replace hh:=nT jM hh;refine R4 ?_;refine Γ 9 z (λdS=> ?_) (λdS=> ?_)
  ·obtain ⟨dS,hh⟩:=iT dS hh;refine R7 ?_;refine TC.rt 0 ?_;obtain rfl:=so hh;exact rq [2] ⟨z,z,z⟩
  obtain ⟨dS,hh⟩:=iF dS hh;refine R7 ?_;refine TC.rt 0 ?_;obtain rfl:=so hh;exact rq [2] ⟨z,z,z⟩
 replace hh:=nS jM hh;refine R11 ?_;refine TC.rt 0 ?_;obtain rfl:=so hh;exact rq [2] ⟨z,z,z⟩
def E2_:Option (Bool):=
 grd ([(97:UInt8)].length<=1000000000000) (grd ([(98:UInt8)].length<=1000000000000) (bnd (Yh (⟨3,[(⟨0,([]:T_1)⟩:Tip)],[(⟨2,([]:T_1)⟩:Tip)],[(⟨0,1,(BSet.ofL [(97:UInt8)]),([]:T_1),false⟩:Arc),(⟨0,2,(BSet.ofL [(98:UInt8)]),([]:T_1),false⟩:Arc)]⟩:Fst)) (λv17=>bnd (Np (⟨3,[(⟨0,([]:T_1)⟩:Tip)],[(⟨2,([]:T_1)⟩:Tip)],[(⟨0,1,(BSet.ofL [(97:UInt8)]),([]:T_1),false⟩:Arc),(⟨0,2,(BSet.ofL [(98:UInt8)]),([]:T_1),false⟩:Arc)]⟩:Fst)) (λv25=>bnd (It_ v25.1 ([98]:T_1)) (λv33=>aI (decide (v17.2=0)) (aI (decide (v17.1.states=2)) (aI (decide ((v17.1.arcs.length:Int)=1)) (aI (decide (v25.2=v17.2)) (aI v33.1 (some (decide (v33.2=v17.2))) (some false)) (some false)) (some false)) (some false)) (some false))))))
theorem Jv_{σ:ak}(hgl:GT σ 0 qC deB){r:Bool}(hh:E2_=some r):
  Con prog 16 #[] σ [] (iU (.bool r) σ):=by
 dsimp only [E2_]at hh;refine cM 61 Tryz.func16 (λw0=> ?_);refine R7 ?_;refine κ z (gX (enc:=bg) [(⟨0,([]:T_1)⟩:Tip)] (λlg kZ=> ?_));refine TL.w z bL (κ z (gX (enc:=bg) [(⟨2,([]:T_1)⟩:Tip)] (λa104 c105=> ?_)));refine κ z (gX (enc:=qC) [(97:UInt8)] (λa107 c108=> ?_));obtain ⟨u7,hh⟩:=gd hh;refine κ z (Nj (rv_ _ _ _ [(97:UInt8)] u7) z z Jl z z z z ?_);refine TL.w z bL (κ z (gX (enc:=qC) [(98:UInt8)] (λIa Hy=> ?_)));obtain ⟨u10,hh⟩:=gd hh;refine κ z (Nj (rv_ _ _ _ [(98:UInt8)] u10) z z Jl z z z z ?_);refine TL.w z bL (κ z (gX (enc:=dG) [(⟨0,1,(BSet.ofL [(97:UInt8)]),([]:T_1),false⟩:Arc),(⟨0,2,(BSet.ofL [(98:UInt8)]),([]:T_1),false⟩:Arc)] (λdD dM=> ?_)));refine TL.w z bL (TL.al (λb116=> ?_));refine R5 ?_;refine φ 3 z z (TL.iw yj (λτ120 dJ lW=> ?_));replace hgl:=hgl.mono dJ;refine φ 2 z z (TL.iw yj (λτ123 eF pU=> ?_));replace hgl:=hgl.mono eF;replace lW:=lW.mono eF;refine φ 1 z z (TL.iw EM (λτ126 uJ CB=> ?_));replace hgl:=hgl.mono uJ;replace lW:=lW.mono uJ;replace pU:=pU.mono uJ;obtain ⟨v17,vV,hh⟩:=bQ hh;refine κ z (OpOk.call (J6_ (x0:=(⟨3,[(⟨0,([]:T_1)⟩:Tip)],[(⟨2,([]:T_1)⟩:Tip)],[(⟨0,1,(BSet.ofL [(97:UInt8)]),([]:T_1),false⟩:Arc),(⟨0,2,(BSet.ofL [(98:UInt8)]),([]:T_1),false⟩:Arc)]⟩:Fst)) lW pU CB vV) z z pf12 z z z z ?_);rintro _ τ127 _ oC ⟨a127_1,c127_1,a127_2,c127_2,a127_3,c127_3,rfl,hr127_0,hr127_1,hr127_2,rfl⟩;replace hgl:=hgl.mono oC;replace lW:=lW.mono oC;replace pU:=pU.mono oC;replace CB:=CB.mono oC;refine R3 ?_;refine TL.al (λXL=> ?_);refine R6 ?_;obtain ⟨v25,u25,hh⟩:=bQ hh;refine κ z (OpOk.call (H0_ (x0:=(⟨3,[(⟨0,([]:T_1)⟩:Tip)],[(⟨2,([]:T_1)⟩:Tip)],[(⟨0,1,(BSet.ofL [(97:UInt8)]),([]:T_1),false⟩:Arc),(⟨0,2,(BSet.ofL [(98:UInt8)]),([]:T_1),false⟩:Arc)]⟩:Fst)) hgl lW pU CB u25) z z pf8 z z z z ?_);rintro _ τ130 _ mF ⟨a130_1,c130_1,a130_2,c130_2,a130_3,c130_3,rfl,hr130_0,hr130_1,hr130_2,rfl⟩;refine R3 ?_;refine TL.al (λb131=> ?_);refine R6 ?_;obtain ⟨v33,u33,hh⟩:=bQ hh;refine κ z (eG (Lk_ (x0:=v25.1) hr130_0 hr130_1 hr130_2 u33) z z pf51 z z z ?_);refine R11 ?_;refine Γ 37 z (λrV=> ?_) (λrV=> ?_)
 ·obtain ⟨rV,hh⟩:=iT rV hh;refine R5 ?_;refine Γ 42 z (λuN=> ?_) (λuN=> ?_)
  ·obtain ⟨uN,hh⟩:=iT uN hh;refine R6 ?_;refine Γ 48 z (λuM=> ?_) (λuM=> ?_)
   ·obtain ⟨uM,hh⟩:=iT uM hh;refine R5 ?_;refine Γ 53 z (λx9=> ?_) (λx9=> ?_)
    ·obtain ⟨x9,hh⟩:=iT x9 hh;refine R3 ?_;refine Γ 56 z (λXh=> ?_) (λXh=> ?_)
     ·replace hh:=nT Xh hh;refine R6 ?_;refine TC.iH (ζ 0 z) (TC.back (θ ?_));obtain rfl:=so hh;exact rq [0] ⟨z,z,z⟩
     replace hh:=nS Xh hh;refine R6 ?_;refine TC.iH (ζ 0 z) (TC.back (θ ?_));obtain rfl:=so hh;exact rq [0] ⟨z,z,z⟩
    obtain ⟨x9,hh⟩:=iF x9 hh;refine R9 ?_;refine TC.iH (ζ 0 z) (TC.back (θ ?_));obtain rfl:=so hh;exact rq [0] ⟨z,z,z⟩
   obtain ⟨uM,hh⟩:=iF uM hh;refine R14 ?_;refine TC.iH (ζ 0 z) (TC.back (θ ?_));obtain rfl:=so hh;exact rq [0] ⟨z,z,z⟩
  obtain ⟨uN,hh⟩:=iF uN hh;refine R20 ?_;refine TC.iH (ζ 0 z) (TC.back (θ ?_));obtain rfl:=so hh;exact rq [0] ⟨z,z,z⟩
 obtain ⟨rV,hh⟩:=iF rV hh;refine R25 ?_;refine TC.iH (ζ 0 z) (TC.back (θ ?_));obtain rfl:=so hh;exact rq [0] ⟨z,z,z⟩
end Go.Proofs.YtcfgkcfcddfccaaGreatDoor
end

noncomputable section
namespace Go.Proofs.YtcfgkcfcddfccaaGreatDoor
open Go Go.E
inductive Rch (S:Int->Prop) (E:Int->Int->Prop):Int->Prop
  |base {s:Int}:S s->Rch S E s
  |step {a b:Int}:Rch S E a->E a b->Rch S E b
def onS(t:Fst)(s:Int):Prop:= ∃x∈t.starts,x.state=s
def enS(t:Fst)(s:Int):Prop:= ∃x∈t.ends,x.state=s
def arE(t:Fst)(a b:Int):Prop:= ∃x∈t.arcs,x.frm=a/\x.to=b
def arB(t:Fst)(a b:Int):Prop:= ∃x∈t.arcs,x.to=a/\x.frm=b
def Use(t:Fst)(s:Int):Prop:=Rch (onS t) (arE t) s/\Rch (enS t) (arB t) s
open Classical in
def jE(t:Fst)(s:Nat):Bool:=decide (Use t s)
def nH(p:Nat->Bool):Nat->Nat
  |0=>0
  |n+1=>nH p n+(if p n then 1 else 0)
def lQ(p:Nat->Bool)(s:Int):Int:=if p s.toNat then (nH p s.toNat:Int) else -1
theorem xr_(p:Nat→Bool): ∀{m n:Nat},m<=n->nH p m<=nH p n
  | m, 0, h => by obtain rfl : m = 0 := by omega
                  exact Nat.le_refl _
  |m,n+1,h=>by
    by_cases hm:m=n+1
    · subst hm;exact Nat.le_refl _
    have:=xr_ p (m:=m) (n:=n) (by omega);simp only [nH];omega
theorem cntB_lt(p:Nat->Bool){m n:Nat}(h:m<n)(hp:p m=true):nH p m<nH p n:=by
  have:=xr_ p (m:=m+1) (n:=n) h;simp only [nH,hp,if_true]at this;omega
theorem kx_(p:Nat->Bool): ∀n,nH p n<=n
  |0=>Nat.le_refl _
  |n+1=>by have:=kx_ p n;simp only [nH];split<;>omega
theorem qe_{p:Nat->Bool}{s:Int}(h:p s.toNat=true):lQ p s=nH p s.toNat:=by unfold lQ;rw [if_pos h]
theorem ZB{p:Nat->Bool}{s:Int}:0<=lQ p s↔p s.toNat=true:=by
  unfold lQ;split
  · simp_all
  simp_all
def uQ(p:Nat->Bool)(l:List Tip):List Tip:=l.filterMap λx=>if 0<=lQ p x.state then some ⟨lQ p x.state,x.out⟩ else none
def xX(p:Nat->Bool)(l:List Arc):List Arc:=l.filterMap λx=>if 0<=lQ p x.frm/\0<=lQ p x.to then some ⟨lQ p x.frm,lQ p x.to,x.set,x.out,x.copy⟩ else none
def NW(p:Nat->Bool)(t:Fst):Fst:=⟨nH p t.states.toNat,uQ p t.starts,uQ p t.ends,xX p t.arcs⟩
theorem lw_{p:Nat->Bool}{l:List Tip}{y:Tip}:y∈uQ p l↔ ∃x∈l,p x.state.toNat=true/\y=⟨lQ p x.state,x.out⟩:=by
  unfold uQ;rw [List.mem_filterMap];constructor
  · rintro ⟨x,hx,h⟩
    split at h
    · rename_i h0;exact ⟨x,hx,ZB.1 h0,by cases h;rfl⟩
    cases h
  rintro ⟨x,hx,h0,rfl⟩;exact ⟨x,hx,by rw [if_pos (ZB.2 h0)]⟩
theorem rn_{p:Nat->Bool}{l:List Arc}{y:Arc}:y∈xX p l↔ ∃x∈l,p x.frm.toNat=true/\p x.to.toNat=true/\y=⟨lQ p x.frm,lQ p x.to,x.set,x.out,x.copy⟩:=by
  unfold xX;rw [List.mem_filterMap];constructor
  · rintro ⟨x,hx,h⟩
    split at h
    · rename_i h0;exact ⟨x,hx,ZB.1 h0.1,ZB.1 h0.2,by cases h;rfl⟩
    cases h
  rintro ⟨x,hx,h0,h1,rfl⟩;exact ⟨x,hx,by rw [if_pos ⟨ZB.2 h0,ZB.2 h1⟩]⟩
theorem ZM(p:Nat->Bool)(l:List Tip):(uQ p l).length<=l.length:=List.length_filterMap_le ..
theorem oh_(p:Nat->Bool)(l:List Arc):(xX p l).length<=l.length:=List.length_filterMap_le ..
structure Rng (t:Fst):Prop where
  starts: ∀x∈t.starts,0<=x.state/\x.state<t.states
  ends: ∀x∈t.ends,0<=x.state/\x.state<t.states
  arcs: ∀x∈t.arcs,(0<=x.frm/\x.frm<t.states)/\(0<=x.to/\x.to<t.states)
open Classical in
theorem nf_{t:Fst}{s:Nat}:jE t s=true↔Use t s:=by unfold jE;exact decide_eq_true_iff
theorem keep_rng{t r:Fst}(hS: ∀x,x∈r.starts↔x∈uQ (jE t) t.starts)(hE: ∀x,x∈r.ends↔x∈uQ (jE t) t.ends)(hA: ∀x,x∈r.arcs↔x∈xX (jE t) t.arcs)(hn:r.states=nH (jE t) t.states.toNat)(h:Rng t):Rng r:=by
  have num: ∀{a:Int},0<=a->a<t.states->jE t a.toNat=true->0<=lQ (jE t) a/\lQ (jE t) a<r.states:=λ{a} h0 h1 hu=>by
    rw [qe_ hu,hn];have:=cntB_lt (jE t) (m:=a.toNat) (n:=t.states.toNat) (by omega) hu;omega
  refine ⟨λy hy=> ?_,λy hy=> ?_,λy hy=> ?_⟩
  · obtain ⟨x,hx,hu,rfl⟩:=lw_.1 ((hS y).1 hy);have:=h.starts x hx;exact num this.1 this.2 hu
  · obtain ⟨x,hx,hu,rfl⟩:=lw_.1 ((hE y).1 hy);have:=h.ends x hx;exact num this.1 this.2 hu
  obtain ⟨x,hx,hu,hv,rfl⟩:=rn_.1 ((hA y).1 hy);have:=h.arcs x hx;exact ⟨num this.1.1 this.1.2 hu,num this.2.1 this.2.2 hv⟩
end Go.Proofs.YtcfgkcfcddfccaaGreatDoor
end

noncomputable section
namespace Go.Proofs.YtcfgkcfcddfccaaGreatDoor
open Go Go.E
def uns:B_1->Nat
  |[]=>0
  |b::l=>(if b then 0 else 1)+uns l
theorem yt_: ∀l:B_1,uns l<=l.length
  |[]=>Nat.le_refl _
  |b::l=>by have:=yt_ l;simp only [uns,List.length_cons];split<;>omega
def Le(l r:B_1):Prop:= ∀v,nth l v false=true->nth r v false=true
theorem Le.rfl'(l:B_1):Le l l:=λ_ h=>h
theorem Le.trans{l r s:B_1}(h:Le l r)(k:Le r s):Le l s:=λv hv=>k v (h v hv)
theorem uns_le: ∀{l r:B_1},l.length=r.length->Le l r->uns r<=uns l
  |[],[],_,_=>Nat.le_refl _
  |[],_::_,h,_=>by simp at h
  |_::_,[],h,_=>by simp at h
  |a::l,b::r,h,k=>by
    have h1:=uns_le (l:=l) (r:=r) (by simpa using h) (λv hv=>k (v+1) hv);have h2:a=true->b=true:=λha=>k 0 ha;simp only [uns];cases a<;>cases b<;>simp_all<;>omega
theorem w4_: ∀{l:B_1} {i:Nat},i<l.length->nth l i false=false->uns (l.set i true)+1=uns l
  |[],i,h,_=>by simp at h
  |a::l,0,_,h=>by
    have:a=false:=h;subst this;simp [uns];omega
  |a::l,i+1,h,k=>by
    have:=w4_ (l:=l) (i:=i) (by simpa using h) k;simp only [List.set_cons_succ,uns];omega
theorem le_set{l:B_1}(i:Nat)(h:i<l.length):Le l (l.set i true):=λv hv=>by
  rw [nI];split
  · rfl
  exact hv
def stE(st:aY)(a b:Int):Prop:=0<=a/\b∈nth st a.toNat []
theorem Rch.trans{S:Int->Prop}{E:Int->Int->Prop}{a b:Int}(h:Rch (λc=>c=a) E b)(k:Rch S E a):Rch S E b:=by
  induction h with
  |base e=>subst e;exact k
  |step _ e ih=>exact .step ih e
theorem DN{α:Type}{l:List α}{x d:α}(h:x∈l): ∃j,j<l.length/\nth l j d=x:=by
  obtain ⟨j,hj,e⟩:=List.getElem_of_mem h;refine ⟨j,hj,?_⟩;have:=getD_some l hj d;rw [List.getElem?_eq_getElem hj,Option.some.injEq]at this;rw [<-this];exact e
theorem Iy{α:Type}{l:List α}{j:Nat}(d:α)(h:j<l.length):nth l j d∈l:=by
  have:=getD_some l h d;exact List.mem_of_getElem? this
structure Vis (st:aY) (n:Nat) (s:Int) (seen r:B_1):Prop where
  len:r.length=n
  le:Le seen r
  at':nth r s.toNat false=true
  out: ∀v,nth r v false=true->nth seen v false=true\/Rch (λc=>c=s) (stE st) v
  cl: ∀v,nth r v false=true->nth seen v false=false-> ∀z∈nth st v [],nth r z.toNat false=true
theorem aac_ {st : aY} {n : Nat} (hl : st.length = n) (hst : ∀ a, ∀ z ∈ nth st a [], 0 <= z /\ z < n) :
    ∀k (s:Int) (seen:B_1),0<=s->s<n->seen.length=n->uns seen<k-> ∃r,PV k s seen st=some r/\Vis st n s seen r:=by
  intro k
  induction k with
  |zero=>intro s seen _ _ _ h;omega
  |succ k ih=>
    intro s seen h0 h1 hn hu;show ∃r,Gr_ (PV k) s seen st=some r/\_;unfold Gr_;rw [aQ ⟨h0,by omega⟩];cases hs:nth seen s.toNat false with
    |true=>exact ⟨seen,rfl,hn,Le.rfl' _,hs,λv hv=> .inl hv,λv hv hf=>by rw [hv]at hf;cases hf⟩
    | false =>
      rw [iteO_false,aQ ⟨h0,by omega⟩,aQ ⟨h0,by omega⟩];have hlt:s.toNat<seen.length:=by omega
      have hun:=w4_ hlt hs;have hat:nth (seen.set s.toNat true) s.toNat false=true:=by rw [nI,if_pos ⟨rfl,hlt⟩]
      have hor: ∀v,nth (seen.set s.toNat true) v false=true->nth seen v false=true\/v=s.toNat:=λv hv=>by
        rw [nI]at hv
        split at hv
        · rename_i h;exact .inr h.1.symm
        exact .inl hv
      obtain ⟨r,h2,h3,h4,h5,h6,h7⟩:=fC (step:=λq:B_1×Nat=>YC st s (PV k) q.1 q.2) (λ(l:B_1) j=>(l,j)) (nth st s.toNat []).length
        (λj l=>l.length=n/\Le (seen.set s.toNat true) l/\(∀i,i<j->nth l (nth (nth st s.toNat []) i 0).toNat false=true)/\(∀v,nth l v false=true->nth (seen.set s.toNat true) v false=true\/Rch (λc=>c=s) (stE st) v)/\(∀v,nth l v false=true->nth (seen.set s.toNat true) v false=false-> ∀z∈nth st v [],nth l z.toNat false=true))
        (λl=>l.length=n/\Le (seen.set s.toNat true) l/\(∀i,i<(nth st s.toNat []).length->nth l (nth (nth st s.toNat []) i 0).toNat false=true)/\(∀v,nth l v false=true->nth (seen.set s.toNat true) v false=true\/Rch (λc=>c=s) (stE st) v)/\(∀v,nth l v false=true->nth (seen.set s.toNat true) v false=false-> ∀z∈nth st v [],nth l z.toNat false=true))
        (λj l hj ⟨a1,a2,a3,a4,a5⟩=>by
          have hz:=Iy (0:Int) hj;have hzr:=hst _ _ hz;have hle:=uns_le (by rw [eX];omega) a2;obtain ⟨r,b1,b2⟩:=ih (nth (nth st s.toNat []) j 0) l hzr.1 hzr.2 a1 (by omega);refine .inl ⟨r,?_,b2.len,a2.trans b2.le,λi hi=> ?_,λv hv=> ?_,λv hv hf z hz'=> ?_⟩
          · show YC st s (PV k) l j=_
            unfold YC;rw [bY (by omega),b1];rfl
          · by_cases hij:i=j
            · subst hij;exact b2.at'
            exact b2.le _ (a3 i (by omega))
          · rcases b2.out v hv with h|h
            · exact a4 v h
            exact .inr (h.trans (.step (.base rfl) ⟨h0,hz⟩))
          cases hlv:nth l v false with
          |true=>exact b2.le _ (a5 v hlv hf z hz')
          |false=>exact b2.cl v hv hlv z hz')
        (λl hI=>⟨l,by
          show YC st s (PV k) l _=_;unfold YC;rw [bK (by omega)];rfl,hI⟩)
        (s0:=seen.set s.toNat true) ⟨by rw [eX];exact hn,Le.rfl' _,λi hi=>by omega,λv hv=> .inl hv,λv hv hf=>by rw [hv]at hf;cases hf⟩
      refine ⟨r,h2,h3,(le_set _ hlt).trans h4,h4 _ hat,λv hv=> ?_,λv hv hf z hz=> ?_⟩
      · rcases h6 v hv with h|h
        · rcases hor v h with h|h
          · exact .inl h
          exact .inr (.base (by omega))
        exact .inr h
      cases hsv:nth (seen.set s.toNat true) v false with
      |true=>
        rcases hor v hsv with h|h
        · rw [h]at hf;cases hf
        subst h;obtain ⟨i,hi,e⟩:=DN (d:=(0:Int)) hz;have:=h5 i hi;rw [e]at this;exact this
      |false=>exact h7 v hv hsv z hz
theorem t8_ {st : aY} {n : Nat} {tips : List Tip} (hn : n <= 1024) (hl : st.length = n) (hst : ∀ a, ∀ z ∈ nth st a [], 0 <= z /\ z < n) (ht : ∀ x ∈ tips, 0 <= x.state /\ x.state < n) :
    ∃r,G8_ tips st=some r/\r.length=n/\ ∀v:Nat,nth r v false=true↔Rch (λc=> ∃x∈tips,x.state=c) (stE st) v:=by
  unfold G8_;rw [aQ (by omega)];obtain ⟨r,h1,h2,h3,h4,h5⟩:=fC (step:=λq:B_1×Nat=>Yy tips st q.1 q.2) (λ(l:B_1) j=>(l,j)) tips.length
    (λj l=>l.length=n/\(∀i,i<j->nth l (nth tips i bD).state.toNat false=true)/\(∀v:Nat,nth l v false=true->Rch (λc=> ∃x∈tips,x.state=c) (stE st) v)/\(∀v,nth l v false=true-> ∀z∈nth st v [],nth l z.toNat false=true))
    (λl=>l.length=n/\(∀i,i<tips.length->nth l (nth tips i bD).state.toNat false=true)/\(∀v:Nat,nth l v false=true->Rch (λc=> ∃x∈tips,x.state=c) (stE st) v)/\(∀v,nth l v false=true-> ∀z∈nth st v [],nth l z.toNat false=true))
    (λj l hj ⟨a1,a2,a3,a4⟩=>by
      have hz:=Iy bD hj;have hzr:=ht _ hz;have:=yt_ l;obtain ⟨r,b1,b2⟩:=aac_ hl hst (l.length+1) (nth tips j bD).state l hzr.1 hzr.2 a1 (by omega);refine .inl ⟨r,?_,b2.len,λi hi=> ?_,λv hv=> ?_,λv hv z hz'=> ?_⟩
      · show Yy tips st l j=_
        unfold Yy;rw [bY (by omega),b1];rfl
      · by_cases hij:i=j
        · subst hij;exact b2.at'
        exact b2.le _ (a2 i (by omega))
      · rcases b2.out v hv with h|h
        · exact a3 v h
        exact h.trans (.base ⟨_,hz,rfl⟩)
      cases hlv:nth l v false with
      |true=>exact b2.le _ (a4 v hlv z hz')
      |false=>exact b2.cl v hv hlv z hz')
    (λl hI=>⟨l,by
      show Yy tips st l _=_;unfold Yy;rw [bK (by omega)];rfl,hI⟩)
    (s0:=List.replicate st.length false) ⟨by rw [lq];exact hl,λi hi=>by omega,λv hv=>(by rw [VD]at hv;cases hv),λv hv=>(by rw [VD]at hv;cases hv)⟩
  refine ⟨r,h1,h2,λv=>⟨h4 v,λhv=> ?_⟩⟩;have: ∀c:Int,Rch (λc=> ∃x∈tips,x.state=c) (stE st) c->nth r c.toNat false=true:=λc hc=>by
    induction hc with
    |base h=>
      obtain ⟨x,hx,rfl⟩:=h;obtain ⟨i,hi,e⟩:=DN (d:=bD) hx;have:=h3 i hi;rw [e]at this;exact this
    |step _ e ih=>exact h5 _ ih _ e.2
  have:=this v hv;simpa using this
def key2(n:Int):T_1:=[kH (ishr .i64 n 8),kH n]
def lu(l:aj):T_1:=l.flatMap key2
def Sml(l:aj):Prop:= ∀x∈l,0<=x/\x<65536
theorem key2_inj{x y:Int}(hx:0<=x/\x<65536)(hy:0<=y/\y<65536)(h:key2 x=key2 y):x=y:=by
  unfold key2 at h;rw [List.cons.injEq,List.cons.injEq]at h;obtain ⟨h1,h2, -⟩:=h;have e1:=congrArg (λb:UInt8=>((b.toNat:Nat):Int)) h1;have e2:=congrArg (λb:UInt8=>((b.toNat:Nat):Int)) h2;rw [VG,VG,VE,VE]at e1 e2;have s1: ∀z:Int,ishr .i64 z 8=z / 256:=λz=>by
    unfold ishr;rw [show min 8 (IntKind.bits .i64)=8 from rfl,show ((2:Int) ^ 8)=256 from rfl,Int.fdiv_eq_ediv_of_nonneg _ (by decide)]
  rw [s1,s1]at e1;omega
theorem n4_: ∀{l m:aj},Sml l->Sml m->lu l=lu m->l=m
  |[],[],_,_,_=>rfl
  |[],y::m,_,_,h=>by cases h
  |x::l,[],_,_,h=>by cases h
  |x::l,y::m,hl,hm,h=>by
    have h':key2 x++lu l=key2 y++lu m:=h;obtain ⟨h1,h2⟩:=List.append_inj h' rfl;rw [key2_inj (hl x (iZ ..)) (hm y (iZ ..)) h1,n4_ (λz hz=>hl z (qE _ hz)) (λz hz=>hm z (qE _ hz)) h2]
theorem r0_: ∀l:aj,(lu l).length=l.length * 2
  |[]=>rfl
  |x::l=>by
    have:=r0_ l;show (key2 x++lu l).length=_;rw [gu,this];show 2+l.length * 2=(l.length+1) * 2;omega
end Go.Proofs.YtcfgkcfcddfccaaGreatDoor
end

noncomputable section
namespace Go.Proofs.YtcfgkcfcddfccaaGreatDoor
open Go Go.E
structure DR (d:Dfa) (w:Nat):Prop where
  cnt:fH d.cls=some w
  cl:d.cls.length=256
  n1:1<=d.next.length
  n2:d.next.length<=1024
  fin:d.fin.length=d.next.length
  row: ∀s,s<d.next.length->(nth d.next s ([]:aj)).length=w/\ ∀c,c<w->0<=nth (nth d.next s ([]:aj)) c (0:Int)/\nth (nth d.next s ([]:aj)) c (0:Int)<((d.next.length:Nat):Int)
theorem DR.of{d:Dfa}(h:jU d=true): ∃w,DR d w:=by
  obtain ⟨w,h1,h2,h3,h4,h5,h6⟩:=Hu h;exact ⟨w,h1,h2,h3,h4,h5,h6⟩
theorem DR.right{d:Dfa}{w:Nat}(h:DR d w):jU d=true:=by
  unfold jU;rw [h.cnt];simp only [Bool.and_eq_true,dA,List.all_eq_true];refine ⟨⟨⟨h.cl,λr hr=> ?_⟩,h.n1,h.n2⟩,h.fin⟩;obtain ⟨k,hk,rfl⟩:=DN (d:=([]:aj)) hr;obtain ⟨h1,h2⟩:=h.row k hk;unfold zH;rw [Bool.and_eq_true,dA,List.all_eq_true];refine ⟨h1,λx hx=> ?_⟩;obtain ⟨j,hj,rfl⟩:=DN (d:=(0:Int)) hx;have:=h2 j (by omega);unfold y9;rw [Bool.and_eq_true,dA,dA];exact this
theorem DR.NK{d:Dfa}{w:Nat}(h:DR d w):w<=256:=by
  have:=ZE d.cls 0 w h.cnt;have:=h.cl;omega
def nx(d:Dfa)(s:Int)(c:Nat):Int:=nth (nth d.next s.toNat ([]:aj)) c (0:Int)
def fU(d:Dfa)(s:Int)(u:T_1):Bool:=nth d.fin (yK d s u).toNat false
theorem lan_nx{d:Dfa}{w:Nat}(h:DR d w){s t:Int}(e:fU d s=fU d t){c:Nat}(hc:c<w):fU d (nx d s c)=fU d (nx d t c):=by
  obtain ⟨b,hb,hv⟩:=Na h.cnt c hc;have hcl:=h.cl;have k: ∀s,dlt d s (UInt8.ofNat b)=nx d s c:=λs=>by
    unfold dlt nx;rw [u8nat (by omega),hv,iI]
  funext u
  have:=congrFun e (UInt8.ofNat b::u);unfold fU yK at this ⊢;rw [List.foldl_cons,List.foldl_cons,k,k]at this;exact this
theorem DR.Hz{d:Dfa}{w:Nat}(h:DR d w){s:Int}(hs:okS d s){c:Nat}(hc:c<w):okS d (nx d s c):=by
  obtain ⟨h0,h1⟩:=hs;exact (h.row s.toNat (by omega)).2 c hc
theorem DR.len{d:Dfa}{w:Nat}(h:DR d w){s:Int}(hs:okS d s):(nth d.next s.toNat ([]:aj)).length=w:=by
  obtain ⟨h0,h1⟩:=hs;exact (h.row s.toNat (by omega)).1
theorem Ij{R R':aj}(h:R <+: R'){s:Nat}(hs:s<R.length):nth R' s (0:Int)=nth R s (0:Int):=by
  obtain ⟨t,rfl⟩:=h;exact rY _ _ _ _ hs
theorem MX{d:Dfa}{l:aj}(h:l.Nodup)(hs: ∀s∈l,okS d s):l.length<=d.next.length:=by
  have:=TS (m:=(List.range d.next.length).map λi:Nat=>((i:Nat):Int)) h λx hx=>by
    obtain ⟨h0,h1⟩:=hs x hx;exact List.mem_map.2 ⟨x.toNat,List.mem_range.2 (by omega),by omega⟩
  rwa [List.length_map,List.length_range]at this
structure RchB (d:Dfa) (seen:B_1) (l:aj):Prop where
  len:seen.length=d.next.length
  nd:l.Nodup
  ok: ∀s∈l,okS d s
  mem: ∀s,okS d s->(nth seen s.toNat false=true↔s∈l)
structure Reached (d:Dfa) (w:Nat) (l:aj):Prop where
  nd:l.Nodup
  ok: ∀s∈l,okS d s
  zero:(0:Int)∈l
  cl: ∀s∈l, ∀c,c<w->nx d s c∈l
theorem RchB.more{d:Dfa}{seen:B_1}{l:aj}(h:RchB d seen l){s:Int}(hs:okS d s)(hn:nth seen s.toNat false=false):RchB d (seen.set s.toNat true) (l++[s]):=by
  obtain ⟨h0,h1⟩:=hs;have hl:=h.len;have hnm:s∉l:=λhm=>by rw [(h.mem s ⟨h0,h1⟩).2 hm]at hn;cases hn
  refine ⟨by rw [eX];exact hl,?_,λx hx=> ?_,λx hx=> ?_⟩
  · rw [List.nodup_append]
    exact ⟨h.nd,by simp,λa ha b hb=>by rw [List.mem_singleton.1 hb];intro e;subst e;exact hnm ha⟩
  · rcases List.mem_append.1 hx with hx|hx
    · exact h.ok x hx
    rw [List.mem_singleton.1 hx];exact ⟨h0,h1⟩
  rw [nI,List.mem_append,Ip];obtain ⟨h2,h3⟩:=hx
  by_cases e:x=s
  · rw [if_pos ⟨by rw [e],by omega⟩];exact ⟨λ_=> .inr e,λ_=>rfl⟩
  rw [if_neg (λq=>e (by omega)),h.mem x ⟨h2,h3⟩];exact ⟨.inl,λk=>k.elim id λk=>absurd k e⟩
theorem rch_b2{d:Dfa}{w:Nat}(hd:DR d w){l0:aj}{k:Nat}(hk:k<l0.length){seen:B_1}(h:RchB d seen l0):
    ∃r,aV (λq:B_1×aj×Nat=>UC d l0 k q.1 q.2.1 q.2.2) (seen,l0,0)=some r/\ ∃seen' l',r= .inl (seen',l',k+1)/\RchB d seen' l'/\l0 <+: l'/\ ∀c,c<w->nx d (nth l0 k (0:Int)) c∈l':=by
  have hs:=h.ok _ (jB hk (0:Int));have hlen:=hd.len hs;have hn2:=hd.n2;refine fC (step:=λq:B_1×aj×Nat=>UC d l0 k q.1 q.2.1 q.2.2) (λ(s:B_1×aj) c=>(s.1,s.2,c)) w (λc s=>RchB d s.1 s.2/\l0 <+: s.2/\ ∀i,i<c->nx d (nth l0 k (0:Int)) i∈s.2) _ (λc s hc hI=> ?_) (λs hI=> ?_) (s0:=(seen,l0)) ⟨h,List.prefix_refl _,λi hi=>by omega⟩
  · obtain ⟨se,l⟩:=s
    obtain ⟨hB,hP,hM⟩:=hI;have hx:=hd.Hz hs hc;have hx':0<=nth (nth d.next ((nth l0 k (0:Int)).toNat) ([]:aj)) c (0:Int)/\nth (nth d.next ((nth l0 k (0:Int)).toNat) ([]:aj)) c (0:Int)<((d.next.length:Nat):Int):=hx;have hsl:se.length=d.next.length:=hB.len;have hll:l.length<=d.next.length:=MX hB.nd hB.ok;show (∃s',UC d l0 k se l c=_/\_)\/_;unfold UC Ge_;rw [hlen,bY (by omega),aQ (by omega)];cases hh:nth se ((nth (nth d.next ((nth l0 k (0:Int)).toNat) ([]:aj)) c (0:Int)).toNat) false with
    |true=>
      rw [Bool.not_true,iteO_false];refine .inl ⟨(se,l),rfl,hB,hP,λi hi=> ?_⟩
      by_cases e:i=c
      · subst e;exact (hB.mem _ hx).1 hh
      exact hM i (by omega)
    |false=>
      rw [Bool.not_false,iteO_true,aQ (by omega),aQ (by rw [dN];omega)];refine .inl ⟨(_,_),rfl,hB.more hx hh,hP.trans (List.prefix_append _ _),λi hi=> ?_⟩
      by_cases e:i=c
      · subst e;exact List.mem_append_right _ (List.mem_singleton.2 rfl)
      exact List.mem_append_left _ (hM i (by omega))
  obtain ⟨se,l⟩:=s;obtain ⟨hB,hP,hM⟩:=hI;refine ⟨.inl (se,l,k+1),?_,se,l,rfl,hB,hP,hM⟩;show UC d l0 k se l w=_;unfold UC;rw [hlen,bK (by omega)];rfl
theorem vt_{d:Dfa}{w:Nat}(hd:DR d w): ∃l,Hg_ d=some l/\Reached d w l:=by
  have h1:=hd.n1;have h2:=hd.n2;unfold Hg_;rw [aQ (by omega),aQ (by rw [lq];omega)];refine Ho (step:=λq:B_1×aj×Nat=>Fe_ d q.1 q.2.1 q.2.2) (λs=>RchB d s.1 s.2.1/\s.2.2<=s.2.1.length/\(0:Int)∈s.2.1/\ ∀j,j<s.2.2-> ∀c,c<w->nx d (nth s.2.1 j (0:Int)) c∈s.2.1) (Reached d w) (λs=>5000 - s.2.2) (λs hI=> ?_)
    ((List.replicate d.next.length false).set 0 true,[0],0) ⟨⟨by rw [eX,lq],by simp,λs hs=>by rw [List.mem_singleton.1 hs];exact ⟨Int.le_refl _,by omega⟩,λs hs=> ?_⟩,Nat.zero_le _,List.mem_singleton.2 rfl,λj hj=>by cases hj⟩
  · obtain ⟨se,l,k⟩:=s
    obtain ⟨hB,hk,hz,hM⟩:=hI;dsimp only at hB hk hz hM;have hll:l.length<=d.next.length:=MX hB.nd hB.ok;show (∃s',Fe_ d se l k=_/\_)\/ ∃r,Fe_ d se l k=_/\_;unfold Fe_
    by_cases hkl:k<l.length
    · have hs:=hB.ok _ (jB hkl (0:Int))
      obtain ⟨r,e,se',l',rfl,hB',hP,hN⟩:=rch_b2 hd hkl hB;rw [bY (by omega),aQ (by exact hs),e];have hle:=hP.length_le;refine .inl ⟨_,rfl,⟨hB',by show k+1<=l'.length;omega,hP.subset hz,λj hj c hc=> ?_⟩,by show 5000 - (k+1)<5000 - k;omega⟩;show nx d (nth l' j (0:Int)) c∈l';have hj':j<k+1:=hj;rw [Ij hP (by omega)]
      by_cases e:j=k
      · subst e;exact hN c hc
      exact hP.subset (hM j (by omega) c hc)
    rw [bK (by omega)];refine .inr ⟨l,rfl,hB.nd,hB.ok,hz,λs hs c hc=> ?_⟩;obtain ⟨j,hj,rfl⟩:=DN (d:=(0:Int)) hs;exact hM j (by omega) c hc
  rw [nI,Ip];obtain ⟨h0,h3⟩:=hs
  by_cases e:s=0
  · subst e
    rw [if_pos ⟨rfl,by rw [lq];omega⟩];exact ⟨λ_=>rfl,λ_=>rfl⟩
  rw [if_neg (λq=>e (by omega)),VD];exact ⟨λh=>(by cases h),λh=>absurd h e⟩
theorem yl_{l:aj}(h:l.length<=1000000):Yd l=some (lu l):=by
  unfold Yd;have hw0:IntKind.i64.wrap (2 * ((l.length:Nat):Int))=((2 * l.length:Nat):Int):=by rw [tJ (by omega) (by omega)];omega
  rw [hw0,aQ (by omega)];refine IB (step:=λq:T_1×Nat=>Yg l q.1 q.2) l (0:Int) (λk=>lu (l.take k)) ?_ ?_
  · intro k hk
    have hlen:(lu (l.take k)).length<=2 * 1000000:=by rw [r0_,List.length_take];omega
    show Yg l (lu (l.take k)) k=_;unfold Yg;rw [bY (by omega),aQ (by simp only [List.length_cons,List.length_nil];omega),jS l hk (0:Int)];unfold lu;rw [List.flatMap_append,List.flatMap_singleton];rfl
  show Yg l (lu (l.take l.length)) l.length=_;unfold Yg;rw [bK (by omega),List.take_length];rfl
def gv(g:aj)(s:Int):Int:=nth g s.toNat (0:Int)
def yL(d:Dfa)(w:Nat)(g:aj)(s:Int):aj:=gv g s::(List.range w).map λc=>gv g (nx d s c)
structure KeyI (d:Dfa) (w:Nat) (g:aj) (l:aj) (k:Nat) (m:FM T_1 Int) (x:aj):Prop where
  len:x.length=d.next.length
  n:m.n<=k
  at_: ∀s∈l.take k,m.f (lu (yL d w g s))=some (gv x s)
  val: ∀y v,m.f y=some v->(0<=v/\v<((m.n:Nat):Int))/\ ∃s∈l.take k,y=lu (yL d w g s)
  inj: ∀y z v,m.f y=some v->m.f z=some v->y=z
  hit: ∀v:Nat,v<m.n-> ∃y,m.f y=some ((v:Nat):Int)
theorem ZA{g:aj}{s t:Int}(hs:0<=s/\s<(g.length:Int))(ht:0<=t)(v:Int):gv (g.set s.toNat v) t=if t=s then v else gv g t:=by
  unfold gv;rw [nI]
  by_cases e:t=s
  · rw [if_pos e,if_pos ⟨by rw [e],by omega⟩]
  rw [if_neg e,if_neg (λq=>e (by omega))]
section
variable {d:Dfa} {w:Nat} (hd:DR d w) {l:aj} (hR:Reached d w l) {g:aj} (hg:g.length=d.next.length)
include hd hR hg
theorem grp_b4 {k : Nat} (hk : k < l.length) {m : FM T_1 Int} {x : aj} (h : KeyI d w g l k m x) :
    ∃m' x',aV (λq:aj×Nat=>Uz d l k g m x q.1 q.2) ([gv g (nth l k (0:Int))],0)=some (.inl (m',x',k+1))/\KeyI d w g l (k+1) m' x':=by
  have hs:=hR.ok _ (jB hk (0:Int));have hlen:=hd.len hs;have hw:=hd.NK;have hxl:=h.len;obtain ⟨s,hse⟩: ∃s,nth l k (0:Int)=s:=⟨_,rfl⟩;have hfresh:s∉l.take k:=λhm=>by
    have hnd:=hR.nd;rw [<-List.take_append_drop k l]at hnd;have h1:=(List.nodup_append.1 hnd).2.2 s hm s (by
      rw [<-hse];have:(l.drop k)=nth l k (0:Int)::l.drop (k+1):=by
        have:=jv_ l hk (0:Int);have h2:l.drop k=(l.take k++nth l k (0:Int)::l.drop (k+1)).drop k:=by rw [<-this]
        rw [h2,List.drop_left' (by rw [List.length_take];omega)]
      rw [this];exact iZ ..)
    exact h1 rfl
  have key: ∃m' x',(bnd (Yd (yL d w g s)) (λv70=>aI (!(m.has v70)) (Yw l k x (m.put v70 ((m.n:Nat):Int)) ((m.n:Nat):Int)) (Yw l k x m (m.get v70 0))))=some (.inl (m',x',k+1))/\KeyI d w g l (k+1) m' x':=by
    rw [yl_ (by unfold yL;rw [List.length_cons,List.length_map,List.length_range];omega),gq];unfold Yw;rw [hse];have hs':okS d s:=by rw [<-hse];exact hs
    obtain ⟨h0,h1⟩:=hs';have hne: ∀t∈l.take k,t≠s:=λt ht e=>hfresh (e▸ht);have hok: ∀t∈l.take k,0<=t:=λt ht=>(hR.ok t (List.mem_of_mem_take ht)).1;cases hh:m.has (lu (yL d w g s))with
    |true=>
      rw [Bool.not_true,iteO_false,aQ ⟨h0,by omega⟩];obtain ⟨v,hv⟩: ∃v,m.f (lu (yL d w g s))=some v:=by
        unfold FM.has at hh;exact Option.isSome_iff_exists.1 hh
      have hget:m.get (lu (yL d w g s)) 0=v:=by unfold FM.get;rw [hv];rfl
      rw [hget];have hn:=h.n;refine ⟨m,_,rfl,by rw [eX];exact hxl,by omega,λt ht=> ?_,λy v hy=> ?_,h.inj,h.hit⟩
      · rw [jS l hk (0:Int),hse]at ht
        rcases List.mem_append.1 ht with ht|ht
        · rw [ZA ⟨h0,by omega⟩ (hok t ht),if_neg (hne t ht)];exact h.at_ t ht
        rw [List.mem_singleton.1 ht,ZA ⟨h0,by omega⟩ h0,if_pos rfl];exact hv
      obtain ⟨h2,t,ht,h3⟩:=h.val y v hy;exact ⟨h2,t,by rw [jS l hk (0:Int)];exact List.mem_append_left _ ht,h3⟩
    |false=>
      rw [Bool.not_false,iteO_true,aQ ⟨h0,by omega⟩];have hnone:m.f (lu (yL d w g s))=none:=by
        unfold FM.has at hh;cases e:m.f (lu (yL d w g s))with
        |none=>rfl
        |some v=>rw [e]at hh;cases hh
      have hput: ∀y,(m.put (lu (yL d w g s)) ((m.n:Nat):Int)).f y=if y=lu (yL d w g s) then some ((m.n:Nat):Int) else m.f y:=λy=>rfl;have hpn:(m.put (lu (yL d w g s)) ((m.n:Nat):Int)).n=m.n+1:=by
        show (if (m.f (lu (yL d w g s))).isSome then m.n else m.n+1)=_;rw [hnone];rfl
      have hn:=h.n;refine ⟨_,_,rfl,by rw [eX];exact hxl,by omega,λt ht=> ?_,λy v hy=> ?_,λy z v hy hz=> ?_,λv hv=> ?_⟩
      · rw [jS l hk (0:Int),hse]at ht
        rcases List.mem_append.1 ht with ht|ht
        · have h2:=h.at_ t ht
          rw [ZA ⟨h0,by omega⟩ (hok t ht),if_neg (hne t ht),hput,if_neg (λe=>by rw [e,hnone]at h2;cases h2)];exact h2
        rw [List.mem_singleton.1 ht,ZA ⟨h0,by omega⟩ h0,if_pos rfl,hput,if_pos rfl]
      · rw [hput]at hy
        rw [hpn]
        by_cases e:y=lu (yL d w g s)
        · rw [if_pos e]at hy
          have:=Option.some.inj hy;exact ⟨by omega,s,by rw [jS l hk (0:Int),hse];exact List.mem_append_right _ (List.mem_singleton.2 rfl),e⟩
        rw [if_neg e]at hy;obtain ⟨h2,t,ht,h3⟩:=h.val y v hy;exact ⟨by omega,t,by rw [jS l hk (0:Int)];exact List.mem_append_left _ ht,h3⟩
      · rw [hput]at hy hz
        by_cases e:y=lu (yL d w g s)
        · by_cases e2:z=lu (yL d w g s)
          · rw [e,e2]
          rw [if_pos e]at hy;rw [if_neg e2]at hz;have:=(h.val z v hz).1;have:=Option.some.inj hy;omega
        by_cases e2:z=lu (yL d w g s)
        · rw [if_neg e]at hy
          rw [if_pos e2]at hz;have:=(h.val y v hy).1;have:=Option.some.inj hz;omega
        rw [if_neg e]at hy;rw [if_neg e2]at hz;exact h.inj y z v hy hz
      rw [hpn]at hv
      by_cases e:v=m.n
      · exact ⟨_,by rw [hput,if_pos rfl,e]⟩
      obtain ⟨y,hy⟩:=h.hit v (by omega);refine ⟨y,?_⟩;rw [hput,if_neg (λe=>by rw [e,hnone]at hy;cases hy)];exact hy
  obtain ⟨m',x',e,hK⟩:=key;refine ⟨m',x',?_,hK⟩;obtain ⟨r,e2,rfl⟩:=fC (step:=λq:aj×Nat=>Uz d l k g m x q.1 q.2) (λ(r:aj) c=>(r,c)) w (λc r=>r=gv g s::(List.range c).map λc=>gv g (nx d s c)) (λr=>r= .inl (m',x',k+1))
    (λc r hc hI=>by
      subst hI;have hx:okS d (nx d s c):=by rw [<-hse];exact hd.Hz hs hc
      obtain ⟨hx0,hx1⟩:=hx;have hx0':0<=nth (nth d.next s.toNat ([]:aj)) c (0:Int):=hx0;have hx1':nth (nth d.next s.toNat ([]:aj)) c (0:Int)<((d.next.length:Nat):Int):=hx1;refine .inl ⟨_,?_,rfl⟩;show Uz d l k g m x _ c=_;unfold Uz;rw [hlen,bY (by omega),hse,aQ (by omega),aQ (by simp only [List.length_cons,List.length_map,List.length_range,List.length_nil];omega),List.range_succ,List.map_append,List.map_singleton];rfl)
    (λr hI=>by
      subst hI;refine ⟨_,?_,rfl⟩;show Uz d l k g m x _ w=_;unfold Uz;rw [hlen,bK (by omega)];exact congrArg fin e)
    (s0:=[gv g s]) (by simp)
  rw [hse];exact e2
structure Round (d:Dfa) (w:Nat) (l g:aj) (n:Nat) (x:aj):Prop where
  len:x.length=d.next.length
  n1:n<=l.length
  rg: ∀s∈l,0<=gv x s/\gv x s<((n:Nat):Int)
  hit: ∀v:Nat,v<n-> ∃s∈l,gv x s=((v:Nat):Int)
  same: ∀s∈l, ∀t∈l,gv x s=gv x t->gv g s=gv g t/\ ∀c,c<w->gv g (nx d s c)=gv g (nx d t c)
  eqv: ∀s∈l, ∀t∈l,gv g s=gv g t->(∀c,c<w->gv g (nx d s c)=gv g (nx d t c))->gv x s=gv x t
omit hd hg in
theorem round_of(hgs: ∀s∈l,0<=gv g s/\gv g s<65536){m:FM T_1 Int}{x:aj}(h:KeyI d w g l l.length m x):Round d w l g m.n x:=by
  have hat:=h.at_;have hval:=h.val;rw [List.take_length]at hat hval;have sml: ∀s∈l,Sml (yL d w g s):=λs hs y hy=>by
    rcases List.mem_cons.1 hy with rfl|hy
    · exact hgs s hs
    obtain ⟨c,hc,rfl⟩:=List.mem_map.1 hy;exact hgs _ (hR.cl s hs c (List.mem_range.1 hc))
  refine ⟨h.len,h.n,λs hs=>(hval _ _ (hat s hs)).1,λv hv=> ?_,λs hs t ht e=> ?_,λs hs t ht e1 e2=> ?_⟩
  · obtain ⟨y,hy⟩:=h.hit v hv
    obtain ⟨-,s,hs,rfl⟩:=hval _ _ hy;rw [hat s hs]at hy;exact ⟨s,hs,Option.some.inj hy⟩
  · have e1:=n4_ (sml s hs) (sml t ht) (h.inj _ _ _ (hat s hs) (by rw [e];exact hat t ht))
    unfold yL at e1;rw [List.cons.injEq]at e1;refine ⟨e1.1,λc hc=> ?_⟩;exact List.map_inj_left.1 e1.2 c (List.mem_range.2 hc)
  have e:yL d w g s=yL d w g t:=by
    unfold yL;rw [e1,List.map_inj_left.2 λc hc=>e2 c (List.mem_range.1 hc)]
  have h1:=hat s hs;rw [e,hat t ht]at h1;exact (Option.some.inj h1).symm
theorem grp_b2{many:Nat}(hgs: ∀s∈l,0<=gv g s/\gv g s<65536):
    ∃n x,Uy d l g many=aI (decide (((n:Nat):Int)=((many:Nat):Int))) (some (.inr (x,((many:Nat):Int)))) (some (.inl (x,n)))/\Round d w l g n x:=by
  have hn2:=hd.n2;unfold Uy;rw [aQ (by omega)];obtain ⟨r,e,n,x,rfl,h⟩:=fC (step:=λq:(FM T_1 Int)×aj×Nat=>Yz l g d many q.1 q.2.1 q.2.2) (λ(s:(FM T_1 Int)×aj) k=>(s.1,s.2,k)) l.length (λk s=>KeyI d w g l k s.1 s.2)
    (λr=> ∃(n:Nat) (x:aj),r=(if ((n:Nat):Int)=((many:Nat):Int) then .inr (x,((many:Nat):Int)) else .inl (x,n))/\Round d w l g n x)
    (λk s hk hI=>by
      obtain ⟨m,x⟩:=s;have hs:=hR.ok _ (jB hk (0:Int));obtain ⟨h0,h1⟩:=hs;obtain ⟨m',x',e,hK⟩:=grp_b4 hd hR hg hk hI;refine .inl ⟨(m',x'),?_,hK⟩;show Yz l g d many m x k=_;unfold Yz;rw [bY (by omega),aQ (by omega),aQ (by omega)];exact e)
    (λs hI=>by
      obtain ⟨m,x⟩:=s;refine ⟨_,?_,m.n,x,rfl,round_of hR hgs hI⟩;show Yz l g d many m x l.length=_;unfold Yz;rw [bK (by omega)]
      by_cases c:((m.n:Nat):Int)=((many:Nat):Int)
      · rw [bY c,if_pos c];rfl
      rw [bK c,if_neg c];rfl)
    (s0:=(FM.emp,List.replicate d.next.length 0)) ⟨lq,Nat.zero_le _,λs hs=>(by cases hs),λy v hy=>(by cases hy),λy z v hy=>(by cases hy),λv hv=>by cases hv⟩
  refine ⟨n,x,?_,h⟩;refine Eq.trans e ?_
  by_cases c:((n:Nat):Int)=((many:Nat):Int)
  · rw [bY c,if_pos c]
  rw [bK c,if_neg c]
end
theorem pigeon{n:Nat}(f:Nat->Nat)(h2: ∀v,v<n-> ∃i,i<n/\f i=v){i j:Nat}(hi:i<n)(hj:j<n)(e:f i=f j):i=j:=by
  apply Decidable.byContradiction;intro hne;have h:=TS (l:=List.range n) (m:=((List.range n).erase i).map f) List.nodup_range λv hv=>by
    obtain ⟨k,hk,rfl⟩:=h2 v (List.mem_range.1 hv)
    by_cases ek:k=i
    · subst ek
      exact List.mem_map.2 ⟨j,(List.mem_erase_of_ne (λq=>hne q.symm)).2 (List.mem_range.2 hj),e.symm⟩
    exact List.mem_map.2 ⟨k,(List.mem_erase_of_ne ek).2 (List.mem_range.2 hk),rfl⟩
  rw [List.length_map,List.length_range,List.length_erase_of_mem (List.mem_range.2 hi),List.length_range]at h;omega
structure Grps (d:Dfa) (w:Nat) (l g:aj) (n:Nat):Prop where
  len:g.length=d.next.length
  n1:n<=l.length
  rg: ∀s∈l,0<=gv g s/\gv g s<((n:Nat):Int)
  fin: ∀s∈l, ∀t∈l,gv g s=gv g t->nth d.fin s.toNat false=nth d.fin t.toNat false
  same: ∀s∈l, ∀t∈l,gv g s=gv g t-> ∀c,c<w->gv g (nx d s c)=gv g (nx d t c)
  like: ∀s∈l, ∀t∈l,fU d s=fU d t->gv g s=gv g t
structure GI (d:Dfa) (l g:aj) (n:Nat):Prop where
  len:g.length=d.next.length
  n1:n<=l.length
  rg: ∀s∈l,0<=gv g s/\gv g s<65536
  fin: ∀s∈l, ∀t∈l,gv g s=gv g t->nth d.fin s.toNat false=nth d.fin t.toNat false
  like: ∀s∈l, ∀t∈l,fU d s=fU d t->gv g s=gv g t
  full:n=0\/(∀s∈l,gv g s<((n:Nat):Int))/\ ∀v:Nat,v<n-> ∃s∈l,gv g s=((v:Nat):Int)
open Classical in
def oldN(l g x:aj)(i:Nat):Nat:=if h: ∃s,s∈l/\gv x s=((i:Nat):Int) then (gv g (Classical.choose h)).toNat else 0
theorem old_at{d:Dfa}{w:Nat}{l g x:aj}{n:Nat}(hgs: ∀s∈l,0<=gv g s)(h:Round d w l g n x){s:Int}(hs:s∈l):((oldN l g x (gv x s).toNat:Nat):Int)=gv g s:=by
  have h0:=(h.rg s hs).1;have hex: ∃t,t∈l/\gv x t=(((gv x s).toNat:Nat):Int):=⟨s,hs,by omega⟩;unfold oldN;rw [dif_pos hex];obtain ⟨h1,h2⟩:=Classical.choose_spec hex;have h3:=(h.same _ h1 s hs (by omega)).1;have h4:=hgs _ h1;omega
theorem x0_ {d : Dfa} {w : Nat} (hd : DR d w) {l : aj} (hR : Reached d w l) : ∃ g n, Hx_ d l = some (g, ((n : Nat) : Int)) /\ Grps d w l g n := by
  have hn2:=hd.n2;have hll:l.length<=d.next.length:=MX hR.nd hR.ok;have hpos:0<l.length:=List.length_pos_of_mem hR.zero;unfold Hx_;rw [aQ (by omega)];have outer: ∀g:aj,GI d l g 0-> ∃r,aV (λq:aj×Nat=>Uy d l q.1 q.2) (g,0)=some r/\ ∃g n,r=(g,((n:Nat):Int))/\Grps d w l g n:=λg hg=>by
    refine Ho (step:=λq:aj×Nat=>Uy d l q.1 q.2) (λs=>GI d l s.1 s.2) (λr=> ∃g n,r=(g,((n:Nat):Int))/\Grps d w l g n) (λs=>l.length+1 - s.2) (λs hI=> ?_) (g,0) hg;obtain ⟨g,many⟩:=s;have hlen:g.length=d.next.length:=hI.len;have hmany:many<=l.length:=hI.n1;have hrg: ∀s∈l,0<=gv g s/\gv g s<65536:=hI.rg;have hfin:=hI.fin;have hfull:=hI.full;have hlike:=hI.like;dsimp only at hfin hfull hlike;obtain ⟨n,x,e,hr⟩:=grp_b2 hd hR hlen (many:=many) hrg;have hold:=λs (hs:s∈l)=>old_at (λs hs=>(hrg s hs).1) hr hs;have hn0:0<n:=by
      have:=hr.rg 0 hR.zero;omega
    have hsurj: ∀v,v<many-> ∃i,i<n/\oldN l g x i=v:=λv hv=>by
      rcases hfull with h|⟨-,h⟩
      · omega
      obtain ⟨s,hs,h1⟩:=h v hv;have h2:=hold s hs;have h3:=hr.rg s hs;exact ⟨(gv x s).toNat,by omega,by omega⟩
    have hge:many<=n:=by
      have h:=TS (l:=List.range many) (m:=(List.range n).map (oldN l g x)) List.nodup_range λv hv=>by
        obtain ⟨i,hi,h1⟩:=hsurj v (List.mem_range.1 hv);exact List.mem_map.2 ⟨i,List.mem_range.2 hi,h1⟩
      rwa [List.length_map,List.length_range,List.length_range]at h
    show (∃s',Uy d l g many=_/\_)\/ ∃r,Uy d l g many=_/\_;rw [e];have hlk: ∀s∈l, ∀t∈l,fU d s=fU d t->gv x s=gv x t:=λs hs t ht e=>hr.eqv s hs t ht (hlike s hs t ht e) λc hc=>hlike _ (hR.cl s hs c hc) _ (hR.cl t ht c hc) (lan_nx hd e hc)
    by_cases c:((n:Nat):Int)=((many:Nat):Int)
    · have hnm:n=many:=by omega
      subst hnm;rw [bY c];refine .inr ⟨_,rfl,x,n,rfl,hr.len,hr.n1,hr.rg,λs hs t ht e=>hfin s hs t ht (hr.same s hs t ht e).1,λs hs t ht e c hc=> ?_,hlk⟩;have h1:=(hr.same s hs t ht e).2 c hc;have ms:=hR.cl s hs c hc;have mt:=hR.cl t ht c hc;have h2:=hold _ ms;have h3:=hold _ mt;have r1:=hr.rg _ ms;have r2:=hr.rg _ mt;have h4:=pigeon (oldN l g x) hsurj (i:=(gv x (nx d s c)).toNat) (j:=(gv x (nx d t c)).toNat) (by omega) (by omega) (by omega);omega
    rw [bK c];refine .inl ⟨(x,n),rfl,⟨hr.len,hr.n1,λs hs=> ?_,λs hs t ht e=>hfin s hs t ht (hr.same s hs t ht e).1,hlk,.inr ⟨λs hs=>(hr.rg s hs).2,hr.hit⟩⟩,?_⟩
    · have h1:=hr.rg s hs
      have h2:=hr.n1;show 0<=gv x s/\gv x s<65536;omega
    show l.length+1 - n<l.length+1 - many;have:=hr.n1;omega
  obtain ⟨r,e,g,n,rfl,h⟩:=fC (step:=λq:aj×Nat=>Yx l d q.1 q.2) (λ(g:aj) k=>(g,k)) l.length (λk g=>g.length=d.next.length/\(∀s∈l.take k,gv g s=if nth d.fin s.toNat false=true then 1 else 0)/\ ∀s,okS d s->s∉l.take k->gv g s=0)
    (λr=> ∃g n,r=(g,((n:Nat):Int))/\Grps d w l g n)
    (λk g hk hI=>by
      obtain ⟨h1,h2,h3⟩:=hI;have hs:=hR.ok _ (jB hk (0:Int));obtain ⟨s,hse⟩: ∃s,nth l k (0:Int)=s:=⟨_,rfl⟩;rw [hse]at hs;have hs':=hs;obtain ⟨h4,h5⟩:=hs';have hf:=hd.fin;show (∃s',Yx l d g k=_/\_)\/_;unfold Yx Gw_;rw [bY (by omega),hse,aQ (by omega),jS l hk (0:Int),hse];cases hh:nth d.fin s.toNat false with
      |true=>
        rw [iteO_true,aQ (by omega)];refine .inl ⟨_,rfl,by rw [eX];exact h1,λt ht=> ?_,λt ht hn=> ?_⟩
        · have ht0:0<=t:=by
            rcases List.mem_append.1 ht with ht|ht
            · exact (hR.ok t (List.mem_of_mem_take ht)).1
            rw [List.mem_singleton.1 ht];exact h4
          rw [ZA ⟨h4,by omega⟩ ht0]
          by_cases e:t=s
          · rw [if_pos e,e,hh,if_pos rfl]
          rw [if_neg e];rcases List.mem_append.1 ht with ht|ht
          · exact h2 t ht
          exact absurd (List.mem_singleton.1 ht) e
        rw [ZA ⟨h4,by omega⟩ ht.1,if_neg (λe=>hn (List.mem_append_right _ (List.mem_singleton.2 e)))];exact h3 t ht λq=>hn (List.mem_append_left _ q)
      |false=>
        rw [iteO_false];refine .inl ⟨g,rfl,h1,λt ht=> ?_,λt ht hn=>h3 t ht λq=>hn (List.mem_append_left _ q)⟩;rcases List.mem_append.1 ht with ht|ht
        · exact h2 t ht
        rw [List.mem_singleton.1 ht,hh,if_neg (by simp)]
        by_cases hm:s∈l.take k
        · have:=h2 s hm
          rw [hh,if_neg (by simp)]at this;exact this
        exact h3 s hs hm)
    (λg hI=>by
      obtain ⟨h1,h2,h3⟩:=hI;rw [List.take_length]at h2;obtain ⟨r,e,h⟩:=outer g ⟨h1,Nat.zero_le _,λs hs=>by rw [h2 s hs];split<;>omega,λs hs t ht e=>by
        rw [h2 s hs,h2 t ht]at e;cases a:nth d.fin s.toNat false<;>cases b:nth d.fin t.toNat false<;>rw [a,b]at e<;>simp at e ⊢,λs hs t ht e=>by
        have h1:nth d.fin s.toNat false=nth d.fin t.toNat false:=congrFun e [];rw [h2 s hs,h2 t ht,h1],.inl rfl⟩
      refine ⟨r,?_,h⟩;show Yx l d g l.length=_;unfold Yx;rw [bK (by omega),e];rfl)
    (s0:=List.replicate d.next.length 0) ⟨lq,λs hs=>(by cases hs),λs hs hn=>by unfold gv;exact VD _ _ _⟩
  exact ⟨g,n,e,h⟩
end Go.Proofs.YtcfgkcfcddfccaaGreatDoor
end

noncomputable section
namespace Go.Proofs.YtcfgkcfcddfccaaGreatDoor
open Go Go.E
theorem low_bit: ∀x:Nat,x≠0-> ∃k m,x=2 ^ k * (2 * m+1):=by
 intro x
 induction x using Nat.strongRecOn with
 |_ x ih=>
  intro h0
  by_cases h:x % 2=1
  ·exact ⟨0,x / 2,by rw [Nat.pow_zero];omega⟩
  obtain ⟨k,m,e⟩:=ih (x / 2) (by omega) (by omega);refine ⟨k+1,m,?_⟩;have:x=2 * (x / 2):=by omega
  rw [this,e,Nat.pow_succ,Nat.mul_comm (2 ^ k) 2,Nat.mul_assoc]
theorem low_and{k m:Nat}(h:2 ^ k * (2 * m+1)<18446744073709551616):(2 ^ k * (2 * m+1)) &&& (18446744073709551616 - 2 ^ k * (2 * m+1))=2 ^ k:=by
 have hp:0<2 ^ k:=Nat.two_pow_pos k;have hx:2 ^ k * (2 * m+1)=(2 ^ k * (2 * m)+(2 ^ k - 1))+1:=by rw [Nat.mul_add];omega
 have e2:18446744073709551616 - 2 ^ k * (2 * m+1)=2 ^ 64 - ((2 ^ k * (2 * m)+(2 ^ k - 1))+1):=by rw [<-hx]
 have hlt:2 ^ k * (2 * m)+(2 ^ k - 1)<2 ^ 64:=by
  have:(2:Nat) ^ 64=18446744073709551616:=rfl;omega
 refine Nat.eq_of_testBit_eq λi=> ?_;rw [Nat.testBit_and,e2,Nat.testBit_two_pow_sub_succ hlt,Nat.testBit_two_pow_mul_add _ (by omega),Nat.testBit_two_pow,Nat.testBit_two_pow_mul,Nat.testBit_two_pow_sub_one];have h64:k<64:=by
  apply Decidable.byContradiction;intro hc;have h1:2 ^ 64<=2 ^ k:=Nat.pow_le_pow_right (by omega) (by omega);have h2:2 ^ k * 1<=2 ^ k * (2 * m+1):=Nat.mul_le_mul_left _ (by omega);have h3:(2:Nat) ^ 64=18446744073709551616:=rfl;omega
 by_cases h1:i<k
 ·rw [if_pos h1,decide_eq_false (show ¬ k<=i by omega),decide_eq_false (show ¬ k=i by omega)];rfl
 rw [if_neg h1,decide_eq_true (show k<=i by omega),Bool.true_and]
 by_cases h2:i=k
 ·subst h2;rw [Nat.sub_self,decide_eq_true (show i<64 by omega),decide_eq_true rfl,Nat.testBit_zero,Nat.testBit_zero];rw [decide_eq_true (show (2 * m+1) % 2=1 by omega),decide_eq_false (show ¬ (2 * m) % 2=1 by omega)];rfl
 obtain ⟨j,hj⟩: ∃j,i - k=j+1:=⟨i - k - 1,by omega⟩;rw [hj,Nat.testBit_succ,Nat.testBit_succ,show (2 * m+1) / 2=m by omega,show (2 * m) / 2=m by omega,decide_eq_false (show ¬ k=i by omega)];cases m.testBit j<;>cases decide (i<64)<;>rfl
theorem deB_pow: ∀k:Fin 64,G8 (Q5 (2 ^ k.val) 285870213051353865) 58<64/\(nth deB (G8 (Q5 (2 ^ k.val) 285870213051353865) 58) (0:UInt8)).toNat=k.val:=by decide+kernel
theorem ctz_eq{x:Nat}(h0:x≠0)(h:x<18446744073709551616): ∃k:Nat,k<64/\x.testBit k=true/\Co_ x=some ((k:Nat):Int)/\ ∀i,i<k->x.testBit i=false:=by
 obtain ⟨k,m,rfl⟩:=low_bit x h0;have h64:k<64:=by
  apply Decidable.byContradiction;intro hc;have h1:2 ^ 64<=2 ^ k:=Nat.pow_le_pow_right (by omega) (by omega);have h2:2 ^ k * 1<=2 ^ k * (2 * m+1):=Nat.mul_le_mul_left _ (by omega);have h3:(2:Nat) ^ 64=18446744073709551616:=rfl;omega
 refine ⟨k,h64,?_,?_,λi hi=>by rw [Nat.testBit_two_pow_mul,decide_eq_false (by omega)];rfl⟩
 ·rw [Nat.testBit_two_pow_mul,Nat.sub_self,decide_eq_true (Nat.le_refl k),Nat.testBit_zero,decide_eq_true (show (2 * m+1) % 2=1 by omega)];rfl
 have hn:zI (-((2 ^ k * (2 * m+1):Nat):Int))=18446744073709551616 - 2 ^ k * (2 * m+1):=by
  generalize 2 ^ k * (2 * m+1)=y at h h0 ⊢;unfold zI;omega
 have ha:Zz (2 ^ k * (2 * m+1)) (zI (-((2 ^ k * (2 * m+1):Nat):Int)))=2 ^ k:=by
  rw [hn];unfold Zz;rw [BitVec.toNat_and,BitVec.toNat_ofNat,BitVec.toNat_ofNat,Nat.mod_eq_of_lt h,Nat.mod_eq_of_lt (show 18446744073709551616 - 2 ^ k * (2 * m+1)<2 ^ 64 by
   have:(2:Nat) ^ 64=18446744073709551616:=rfl;omega),low_and h]
 obtain ⟨h1,h2⟩:=deB_pow ⟨k,h64⟩;dsimp only at h1 h2;unfold Co_;rw [bK h0,ha,aQ h1,h2]
theorem aae_(s:BSet)(i:Nat):s.word i<18446744073709551616:=BSet.word_lt s.isOk i
theorem tr_(s:BSet)(n:Nat):s.has n=(s.word (n / 64)).testBit (n % 64):=by
 unfold BSet.has;rw [Nat.testBit_eq_decide_div_mod_eq]
theorem p2_:MI BSet.zero=some (0,false):=by
 have hb: ∀k,k<4->MN BSet.zero k=some (.inl (k+1)):=λk hk=>by
  unfold MN
  have:BSet.zero.word k=0:=by unfold BSet.word BSet.zero;dsimp only;repeat (first|split|rfl)
  rw [bY (by omega),aQ hk,bK (by rw [this];simp)];rfl
 unfold MI;obtain ⟨r,h,e⟩:=fC (step:=λq:Nat=>MN BSet.zero q) (λ(_:Unit) k=>k) 4 (λ_ _=>True) (λr=>r=((0:UInt8),false))
  (λk s hk _=> .inl ⟨(),hb k hk,trivial⟩) (λs _=>⟨_,by
   show MN BSet.zero 4=_;unfold MN;rw [bK (by omega)];rfl,rfl⟩) (s0:=()) trivial
 rw [h,e]
theorem of_{s:BSet}(h0:s≠BSet.zero): ∃b:UInt8,MI s=some (b,true)/\s.has b.toNat=true/\ ∀a,a<b.toNat->s.has a=false:=by
 unfold MI;obtain ⟨r,h,b,rfl,hb⟩:=fC (step:=λq:Nat=>MN s q) (λ(_:Unit) k=>k) 4 (λk _=> ∀i,i<k->s.word i=0) (λr=> ∃b:UInt8,r=(b,true)/\s.has b.toNat=true/\ ∀a,a<b.toNat->s.has a=false)
  (λk u hk hI=>by
   show (∃s',MN s k=_/\_)\/ ∃r,MN s k=_/\_;unfold MN
   by_cases hw:s.word k=0
   ·refine .inl ⟨(),?_,λi hi=> ?_⟩
    ·rw [bY (by omega),aQ hk,bK (by rw [hw];simp)];rfl
    by_cases e:i=k
    ·rw [e];exact hw
    exact hI i (by omega)
   obtain ⟨j,hj,ht,he,hm⟩:=ctz_eq hw (aae_ s k);have hv:(kH (IntKind.i64.wrap ((IntKind.i64.wrap (64 * ((k:Nat):Int)))+((j:Nat):Int)))).toNat=64 * k+j:=by
    rw [tJ (a:=64 * ((k:Nat):Int)) (by omega) (by omega),tJ (by omega) (by omega)];have:=VG (64 * ((k:Nat):Int)+((j:Nat):Int));rw [VE]at this;omega
   refine .inr ⟨(kH (IntKind.i64.wrap ((IntKind.i64.wrap (64 * ((k:Nat):Int)))+((j:Nat):Int))),true),?_,_,rfl,?_,λa ha=> ?_⟩
   ·rw [bY (by omega),aQ hk,bY hw,he];rfl
   ·rw [hv,tr_,show (64 * k+j) / 64=k by omega,show (64 * k+j) % 64=j by omega];exact ht
   rw [hv]at ha;rw [tr_]
   by_cases e:a / 64=k
   ·rw [e];exact hm _ (by omega)
   rw [hI _ (by omega),Nat.zero_testBit])
  (λu hI=>by
   refine absurd ?_ h0;have h1:=hI 0 (by omega);have h2:=hI 1 (by omega);have h3:=hI 2 (by omega);have h4:=hI 3 (by omega);rw [<-BSet.bh_];exact ⟨by rw [show s.a=0 from h1];rfl,by rw [show s.b=0 from h2];rfl,by rw [show s.c=0 from h3];rfl,by rw [show s.d=0 from h4];rfl⟩) (s0:=()) (λi hi=>absurd hi (by omega))
 exact ⟨b,h,hb⟩
theorem v1_{s:BSet}(h0:s≠BSet.zero): ∃b:UInt8,MI s=some (b,true)/\s.has b.toNat=true:=by
 obtain ⟨b,h1,h2, -⟩:=of_ h0;exact ⟨b,h1,h2⟩
end Go.Proofs.YtcfgkcfcddfccaaGreatDoor
end
