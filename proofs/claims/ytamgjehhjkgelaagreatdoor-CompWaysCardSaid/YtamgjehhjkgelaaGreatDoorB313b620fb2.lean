/- Parts of a proof, one behind the other: what a machine reaches, functions decompiled, plain lemmas. Conditions stand with each lemma. -/
import Derived.Test.YtamgjehhjkgelaaGreatDoorBf9458f0793
import Derived.Test.YtamgjehhjkgelaaGreatDoorB1468502e9f
import Derived.Shelf.SlSortCmp.NoneTotal
import Derived.Shelf.Sort.Plain
import Derived.Test.YtamgjehhjkgelaaGreatDoorChecked

set_option linter.unusedVariables false
set_option linter.unusedSimpArgs false
set_option linter.unusedSectionVars false
set_option maxRecDepth 100000
set_option maxHeartbeats 8000000
variable {σ:Go.E.Store}{a0_0 a0_1 a0_2 a0_3 a0_5 a1_0:Option Go.Addr}{Eb0 Eb1 Eb2 b0_0 b1_0 b2_0 c0_0 c0_1 c0_2 c0_4 c0_6 c1_0:Nat}

noncomputable section
namespace Go.Proofs.YtamgjehhjkgelaaGreatDoor
open Go Go.E Go.E.OpVal Go.E.OpOk Go.Proofs.Tryz
theorem ag25:aggOf Tryz.prog 25=some true:=by kernel_rfl
theorem by66:byOf Tryz.prog 66=some 72:=by kernel_rfl
theorem fo163_0:foOf Tryz.prog 163 0=some 0:=by kernel_rfl
theorem fo163_1:foOf Tryz.prog 163 1=some 4:=by kernel_rfl
theorem pl25:plOf Tryz.prog 25=some #[(0,1),(1,1),(2,1),(3,1)]:=by kernel_rfl
theorem sz22:szOf Tryz.prog 22=some 1:=by kernel_rfl
theorem sz25:szOf Tryz.prog 25=some 4:=by kernel_rfl
theorem sz27:szOf Tryz.prog 27=some 1:=by kernel_rfl
theorem sz4:szOf Tryz.prog 4=some 1:=by kernel_rfl
theorem ze25:zeroOf Tryz.prog 25=some (.agg #[.int .i64 0,.slice none 0 0,.slice none 0 0,.slice none 0 0]):=by kernel_rfl
def Ck_(x0:Grow)(x1:Tip):Option (Grow):=
 iteO x0.over (some (⟨(⟨x0.f.states,x0.f.starts,x0.f.ends,x0.f.arcs⟩:Fst),true⟩:Grow)) (iteO (decide (1024≤((x0.f.starts.length:Nat):Int))) (some (⟨(⟨x0.f.states,x0.f.starts,x0.f.ends,x0.f.arcs⟩:Fst),true⟩:Grow)) (iteO (decide (1024<((x1.out.length:Nat):Int))) (some (⟨(⟨x0.f.states,x0.f.starts,x0.f.ends,x0.f.arcs⟩:Fst),true⟩:Grow)) (grd ((x0.f.starts.length+[x1].length) * 24≤140737488355328) (some (⟨(⟨x0.f.states,(x0.f.starts++[x1]),x0.f.ends,x0.f.arcs⟩:Fst),x0.over⟩:Grow)))))
theorem Gv_{x0:Grow}{x1:Tip}{r:Grow}(hh:Ck_ x0 x1=some r):
  Con Tryz.prog 87 #[loc b0_0 0,.agg #[.int .i64 x1.state,.string (bs x1.out)]] σ [Res.cells b0_0 #[.int .i64 x0.f.states,.slice a0_1 x0.f.starts.length c0_2,.slice a0_3 x0.f.ends.length c0_4,.slice a0_5 x0.f.arcs.length c0_6,.bool x0.over] Eb0,Res.rowS 43 2 encTip (.slice a0_1 x0.f.starts.length c0_2) x0.f.starts,Res.rowS 43 2 encTip (.slice a0_3 x0.f.ends.length c0_4) x0.f.ends,Res.rowS 66 8 encArc (.slice a0_5 x0.f.arcs.length c0_6) x0.f.arcs] (fun v σ' H'=> ∃ao1 co2 ao3 co4 ao5 co6,v= .tuple #[]∧σ=σ'∧H'=[Res.cells b0_0 #[.int .i64 r.f.states,.slice ao1 r.f.starts.length co2,.slice ao3 r.f.ends.length co4,.slice ao5 r.f.arcs.length co6,.bool r.over] Eb0,Res.rowS 43 2 encTip (.slice ao1 r.f.starts.length co2) r.f.starts,Res.rowS 43 2 encTip (.slice ao3 r.f.ends.length co4) r.f.ends,Res.rowS 66 8 encArc (.slice ao5 r.f.arcs.length co6) r.f.arcs]):=by
 dsimp only [Ck_]at hh
 refine Con.mk (n:=38) Tryz.func87 z z z (fun w0=> ?_)
 refine TC.weakR (TC.a (TL.op z (boxA z z z z (fun b108=> ?_))))
 refine TL.en (TC.seq (TC.a (TL.l z z (TL.w z (nilCheckLoc z z) (TL.w z (fieldLoc z fo163_1 z) (TL.w z (loadLoc z ag4 z (i:=1) z z) (TL.j z z (TL.split 8 z (fun h110=> ?_) (fun h110=> ?_)))))))))
 ·replace hh:=iteO_t h110 hh
  refine TL.f z (TL.f z (TL.f z (TL.f z (TL.f z (TL.f z (TL.f z (TL.w z (pickTB z z z) (TL.j z z (TL.f z (TL.f z (TL.f z (TL.f z (TL.w z (pickTB z z z) (TL.en (TC.t z ?_)))))))))))))))
  refine TC.a (TL.l z z (TL.w z (nilCheckLoc z z) (TL.w z (fieldLoc z fo163_1 z) (TL.front 1 z z (TL.op z (storeB z sz4 z z z z z ?_))))))
  refine TL.en (TC.ofSub (Sub.f [4,4,4,3] 4) (TC.ret (S.r ?_)))
  obtain rfl:=so hh
  refine ⟨_,Sub.f [3,3,3,3] 4,?_⟩
  exact ro [Res.cells b0_0 #[.int .i64 x0.f.states,.slice a0_1 x0.f.starts.length c0_2,.slice a0_3 x0.f.ends.length c0_4,.slice a0_5 x0.f.arcs.length c0_6,.bool true] Eb0,Res.rowS 43 2 encTip (.slice a0_1 x0.f.starts.length c0_2) x0.f.starts,Res.rowS 43 2 encTip (.slice a0_3 x0.f.ends.length c0_4) x0.f.ends,Res.rowS 66 8 encArc (.slice a0_5 x0.f.arcs.length c0_6) x0.f.arcs] z RVs.nil ⟨a0_1,c0_2,a0_3,c0_4,a0_5,c0_6,z,z,z⟩
 replace hh:=iteO_f h110 hh
 refine TL.g z (moveLoc (.inl z) z) (TL.g z (nilCheckLoc z z) (TL.g z (fieldLoc z fo163_0 z) (TL.g z (fieldLoc z fo25_1 z) (TL.g z (loadLoc z ag22 z (i:=1) z z) (TL.g z (lenC z underlying22 z) (TL.g z (OpVal.geq z z z) (TL.w z (pickFB z z z) (TL.j z z (TL.split 17 z (fun h111=> ?_) (fun h111=> ?_))))))))))
 ·replace hh:=iteO_t h111 hh
  replace h111:=of_decide_eq_true h111
  refine TL.f z (TL.f z (TL.f z (TL.f z (TL.w z (pickTB z z z) (TL.en (TC.t z (TC.a (TL.l z z (TL.w z (nilCheckLoc z z) (TL.w z (fieldLoc z fo163_1 z) (TL.front 1 z z (TL.op z (storeB z sz4 z z z z z ?_)))))))))))))
  refine TL.en (TC.ofSub (Sub.f [4,4,4,3] 4) (TC.ret (S.r ?_)))
  obtain rfl:=so hh
  refine ⟨_,Sub.f [3,3,3,3] 4,?_⟩
  exact ro [Res.cells b0_0 #[.int .i64 x0.f.states,.slice a0_1 x0.f.starts.length c0_2,.slice a0_3 x0.f.ends.length c0_4,.slice a0_5 x0.f.arcs.length c0_6,.bool true] Eb0,Res.rowS 43 2 encTip (.slice a0_1 x0.f.starts.length c0_2) x0.f.starts,Res.rowS 43 2 encTip (.slice a0_3 x0.f.ends.length c0_4) x0.f.ends,Res.rowS 66 8 encArc (.slice a0_5 x0.f.arcs.length c0_6) x0.f.arcs] z RVs.nil ⟨a0_1,c0_2,a0_3,c0_4,a0_5,c0_6,z,z,z⟩
 replace hh:=iteO_f h111 hh
 replace h111:=of_decide_eq_false h111
 refine TL.g z (fieldLoc z fo43_1 z) (TL.g z (loadLoc z ag9 z (i:=0) z z) (TL.g z (lenBs z underlying9 z) (TL.g z (OpVal.gtr z z z) (TL.w z (pickFB z z z) (TL.en (TC.cD z hh (fun h112 hh=> ?_) (fun h112 hh=> ?_)))))))
 ·refine TC.a (TL.l z z (TL.w z (nilCheckLoc z z) (TL.w z (fieldLoc z fo163_1 z) (TL.front 1 z z (TL.op z (storeB z sz4 z z z z z ?_))))))
  refine TL.en (TC.ofSub (Sub.f [4,4,4,3] 4) (TC.ret (S.r ?_)))
  obtain rfl:=so hh
  refine ⟨_,Sub.f [3,3,3,3] 4,?_⟩
  exact ro [Res.cells b0_0 #[.int .i64 x0.f.states,.slice a0_1 x0.f.starts.length c0_2,.slice a0_3 x0.f.ends.length c0_4,.slice a0_5 x0.f.arcs.length c0_6,.bool true] Eb0,Res.rowS 43 2 encTip (.slice a0_1 x0.f.starts.length c0_2) x0.f.starts,Res.rowS 43 2 encTip (.slice a0_3 x0.f.ends.length c0_4) x0.f.ends,Res.rowS 66 8 encArc (.slice a0_5 x0.f.arcs.length c0_6) x0.f.arcs] z RVs.nil ⟨a0_1,c0_2,a0_3,c0_4,a0_5,c0_6,z,z,z⟩
 refine TC.skip (S.n ?_)
 have u33:=grd_c hh
 replace hh:=grd_t hh
 refine TC.draw [8,9,10,11,12] (by kernel_rfl) (TA.a 0 z (moveLoc (.inl z) z) z (TA.a 1 z (moveLoc (.inl z) z) z (TA.a 2 z (nilCheckLoc z z) z (TA.a 3 z (fieldLoc z fo163_0 z) z (TA.a 4 z (fieldLoc z fo25_1 z) z (TA.b 5 z (loadLoc z ag22 z (i:=1) z z) z (TA.b 6 z (loadAll z ag43 sz43 z (i:=0) z z) z (TA.ac 7 z (OpOk.lit (enc:=encTip) [x1] z underlying22 sz43 ze43 z z z encTip_len (by decide) (by decide) Tip.zero z (by decide) z (by decide) encTip_one (fun a118 c119=>(k1 ?_)))))))))))
 refine TA.front 3 z z (TA.last 8 (by kernel_rfl) z z z (appendS z z underlying22 sz43 by43 ze43 z z (by decide) z z z (.inr ⟨_,0,z⟩) (by simpa using u33) (by decide) (fun a121 c122=> ?_)))
 refine TZ.v 9 (by kernel_rfl) z z z (nilCheckLoc z z) z z (TZ.v 10 (by kernel_rfl) z z z (fieldLoc z fo163_0 z) z z (TZ.v 11 (by kernel_rfl) z z z (fieldLoc z fo25_1 z) z z (TZ.front 3 z z (TZ.last 12 (by kernel_rfl) z z z (storeSl z sz22 z z z z z ?_)))))
 refine TZ.done (by kernel_rfl) ?_
 obtain rfl:=so hh
 refine ⟨_,Sub.f [5,5,3,3] 4,?_⟩
 exact RetOk.mk' (rs:=[]) [Res.cells b0_0 #[.int .i64 x0.f.states,.slice a121 ((x0.f.starts++[x1]).length) c122,.slice a0_3 x0.f.ends.length c0_4,.slice a0_5 x0.f.arcs.length c0_6,.bool x0.over] Eb0,Res.rowS 43 2 encTip (.slice a121 (x0.f.starts++[x1]).length c122) (x0.f.starts++[x1]),Res.rowS 43 2 encTip (.slice a0_3 x0.f.ends.length c0_4) x0.f.ends,Res.rowS 66 8 encArc (.slice a0_5 x0.f.arcs.length c0_6) x0.f.arcs] z (.inr z) RVs.nil (List.sublist_append_left _ _) ⟨a121,c122,a0_3,c0_4,a0_5,c0_6,z,z,z⟩
def Df_(x0:Grow)(x1:Tip):Option (Grow):=
 iteO x0.over (some (⟨(⟨x0.f.states,x0.f.starts,x0.f.ends,x0.f.arcs⟩:Fst),true⟩:Grow)) (iteO (decide (1024≤((x0.f.ends.length:Nat):Int))) (some (⟨(⟨x0.f.states,x0.f.starts,x0.f.ends,x0.f.arcs⟩:Fst),true⟩:Grow)) (iteO (decide (1024<((x1.out.length:Nat):Int))) (some (⟨(⟨x0.f.states,x0.f.starts,x0.f.ends,x0.f.arcs⟩:Fst),true⟩:Grow)) (grd ((x0.f.ends.length+[x1].length) * 24≤140737488355328) (some (⟨(⟨x0.f.states,x0.f.starts,(x0.f.ends++[x1]),x0.f.arcs⟩:Fst),x0.over⟩:Grow)))))
theorem G0_{x0:Grow}{x1:Tip}{r:Grow}(hh:Df_ x0 x1=some r):
  Con Tryz.prog 88 #[loc b0_0 0,.agg #[.int .i64 x1.state,.string (bs x1.out)]] σ [Res.cells b0_0 #[.int .i64 x0.f.states,.slice a0_1 x0.f.starts.length c0_2,.slice a0_3 x0.f.ends.length c0_4,.slice a0_5 x0.f.arcs.length c0_6,.bool x0.over] Eb0,Res.rowS 43 2 encTip (.slice a0_1 x0.f.starts.length c0_2) x0.f.starts,Res.rowS 43 2 encTip (.slice a0_3 x0.f.ends.length c0_4) x0.f.ends,Res.rowS 66 8 encArc (.slice a0_5 x0.f.arcs.length c0_6) x0.f.arcs] (fun v σ' H'=> ∃ao1 co2 ao3 co4 ao5 co6,v= .tuple #[]∧σ=σ'∧H'=[Res.cells b0_0 #[.int .i64 r.f.states,.slice ao1 r.f.starts.length co2,.slice ao3 r.f.ends.length co4,.slice ao5 r.f.arcs.length co6,.bool r.over] Eb0,Res.rowS 43 2 encTip (.slice ao1 r.f.starts.length co2) r.f.starts,Res.rowS 43 2 encTip (.slice ao3 r.f.ends.length co4) r.f.ends,Res.rowS 66 8 encArc (.slice ao5 r.f.arcs.length co6) r.f.arcs]):=by
 dsimp only [Df_]at hh
 refine Con.mk (n:=38) Tryz.func88 z z z (fun w0=> ?_)
 refine TC.weakR (TC.a (TL.op z (boxA z z z z (fun b108=> ?_))))
 refine TL.en (TC.seq (TC.a (TL.l z z (TL.w z (nilCheckLoc z z) (TL.w z (fieldLoc z fo163_1 z) (TL.w z (loadLoc z ag4 z (i:=1) z z) (TL.j z z (TL.split 8 z (fun h110=> ?_) (fun h110=> ?_)))))))))
 ·replace hh:=iteO_t h110 hh
  refine TL.f z (TL.f z (TL.f z (TL.f z (TL.f z (TL.f z (TL.f z (TL.w z (pickTB z z z) (TL.j z z (TL.f z (TL.f z (TL.f z (TL.f z (TL.w z (pickTB z z z) (TL.en (TC.t z ?_)))))))))))))))
  refine TC.a (TL.l z z (TL.w z (nilCheckLoc z z) (TL.w z (fieldLoc z fo163_1 z) (TL.front 1 z z (TL.op z (storeB z sz4 z z z z z ?_))))))
  refine TL.en (TC.ofSub (Sub.f [4,4,4,3] 4) (TC.ret (S.r ?_)))
  obtain rfl:=so hh
  refine ⟨_,Sub.f [3,3,3,3] 4,?_⟩
  exact ro [Res.cells b0_0 #[.int .i64 x0.f.states,.slice a0_1 x0.f.starts.length c0_2,.slice a0_3 x0.f.ends.length c0_4,.slice a0_5 x0.f.arcs.length c0_6,.bool true] Eb0,Res.rowS 43 2 encTip (.slice a0_1 x0.f.starts.length c0_2) x0.f.starts,Res.rowS 43 2 encTip (.slice a0_3 x0.f.ends.length c0_4) x0.f.ends,Res.rowS 66 8 encArc (.slice a0_5 x0.f.arcs.length c0_6) x0.f.arcs] z RVs.nil ⟨a0_1,c0_2,a0_3,c0_4,a0_5,c0_6,z,z,z⟩
 replace hh:=iteO_f h110 hh
 refine TL.g z (moveLoc (.inl z) z) (TL.g z (nilCheckLoc z z) (TL.g z (fieldLoc z fo163_0 z) (TL.g z (fieldLoc z fo25_2 z) (TL.g z (loadLoc z ag22 z (i:=1) z z) (TL.g z (lenC z underlying22 z) (TL.g z (OpVal.geq z z z) (TL.w z (pickFB z z z) (TL.j z z (TL.split 17 z (fun h111=> ?_) (fun h111=> ?_))))))))))
 ·replace hh:=iteO_t h111 hh
  replace h111:=of_decide_eq_true h111
  refine TL.f z (TL.f z (TL.f z (TL.f z (TL.w z (pickTB z z z) (TL.en (TC.t z (TC.a (TL.l z z (TL.w z (nilCheckLoc z z) (TL.w z (fieldLoc z fo163_1 z) (TL.front 1 z z (TL.op z (storeB z sz4 z z z z z ?_)))))))))))))
  refine TL.en (TC.ofSub (Sub.f [4,4,4,3] 4) (TC.ret (S.r ?_)))
  obtain rfl:=so hh
  refine ⟨_,Sub.f [3,3,3,3] 4,?_⟩
  exact ro [Res.cells b0_0 #[.int .i64 x0.f.states,.slice a0_1 x0.f.starts.length c0_2,.slice a0_3 x0.f.ends.length c0_4,.slice a0_5 x0.f.arcs.length c0_6,.bool true] Eb0,Res.rowS 43 2 encTip (.slice a0_1 x0.f.starts.length c0_2) x0.f.starts,Res.rowS 43 2 encTip (.slice a0_3 x0.f.ends.length c0_4) x0.f.ends,Res.rowS 66 8 encArc (.slice a0_5 x0.f.arcs.length c0_6) x0.f.arcs] z RVs.nil ⟨a0_1,c0_2,a0_3,c0_4,a0_5,c0_6,z,z,z⟩
 replace hh:=iteO_f h111 hh
 replace h111:=of_decide_eq_false h111
 refine TL.g z (fieldLoc z fo43_1 z) (TL.g z (loadLoc z ag9 z (i:=0) z z) (TL.g z (lenBs z underlying9 z) (TL.g z (OpVal.gtr z z z) (TL.w z (pickFB z z z) (TL.en (TC.cD z hh (fun h112 hh=> ?_) (fun h112 hh=> ?_)))))))
 ·refine TC.a (TL.l z z (TL.w z (nilCheckLoc z z) (TL.w z (fieldLoc z fo163_1 z) (TL.front 1 z z (TL.op z (storeB z sz4 z z z z z ?_))))))
  refine TL.en (TC.ofSub (Sub.f [4,4,4,3] 4) (TC.ret (S.r ?_)))
  obtain rfl:=so hh
  refine ⟨_,Sub.f [3,3,3,3] 4,?_⟩
  exact ro [Res.cells b0_0 #[.int .i64 x0.f.states,.slice a0_1 x0.f.starts.length c0_2,.slice a0_3 x0.f.ends.length c0_4,.slice a0_5 x0.f.arcs.length c0_6,.bool true] Eb0,Res.rowS 43 2 encTip (.slice a0_1 x0.f.starts.length c0_2) x0.f.starts,Res.rowS 43 2 encTip (.slice a0_3 x0.f.ends.length c0_4) x0.f.ends,Res.rowS 66 8 encArc (.slice a0_5 x0.f.arcs.length c0_6) x0.f.arcs] z RVs.nil ⟨a0_1,c0_2,a0_3,c0_4,a0_5,c0_6,z,z,z⟩
 refine TC.skip (S.n ?_)
 have u33:=grd_c hh
 replace hh:=grd_t hh
 refine TC.draw [8,9,10,11,12] (by kernel_rfl) (TA.a 0 z (moveLoc (.inl z) z) z (TA.a 1 z (moveLoc (.inl z) z) z (TA.a 2 z (nilCheckLoc z z) z (TA.a 3 z (fieldLoc z fo163_0 z) z (TA.a 4 z (fieldLoc z fo25_2 z) z (TA.b 5 z (loadLoc z ag22 z (i:=1) z z) z (TA.b 6 z (loadAll z ag43 sz43 z (i:=0) z z) z (TA.ac 7 z (OpOk.lit (enc:=encTip) [x1] z underlying22 sz43 ze43 z z z encTip_len (by decide) (by decide) Tip.zero z (by decide) z (by decide) encTip_one (fun a118 c119=>(k1 ?_)))))))))))
 refine TA.front 4 z z (TA.last 8 (by kernel_rfl) z z z (appendS z z underlying22 sz43 by43 ze43 z z (by decide) z z z (.inr ⟨_,0,z⟩) (by simpa using u33) (by decide) (fun a121 c122=> ?_)))
 refine TZ.v 9 (by kernel_rfl) z z z (nilCheckLoc z z) z z (TZ.v 10 (by kernel_rfl) z z z (fieldLoc z fo163_0 z) z z (TZ.v 11 (by kernel_rfl) z z z (fieldLoc z fo25_2 z) z z (TZ.front 3 z z (TZ.last 12 (by kernel_rfl) z z z (storeSl z sz22 z z z z z ?_)))))
 refine TZ.done (by kernel_rfl) ?_
 obtain rfl:=so hh
 refine ⟨_,Sub.f [5,2,5,3] 4,?_⟩
 exact RetOk.mk' (rs:=[]) [Res.cells b0_0 #[.int .i64 x0.f.states,.slice a0_1 x0.f.starts.length c0_2,.slice a121 ((x0.f.ends++[x1]).length) c122,.slice a0_5 x0.f.arcs.length c0_6,.bool x0.over] Eb0,Res.rowS 43 2 encTip (.slice a0_1 x0.f.starts.length c0_2) x0.f.starts,Res.rowS 43 2 encTip (.slice a121 (x0.f.ends++[x1]).length c122) (x0.f.ends++[x1]),Res.rowS 66 8 encArc (.slice a0_5 x0.f.arcs.length c0_6) x0.f.arcs] z (.inr z) RVs.nil (List.sublist_append_left _ _) ⟨a0_1,c0_2,a121,c122,a0_5,c0_6,z,z,z⟩
def Dd_(x0:Grow)(x1:Arc):Option (Grow):=
 iteO x0.over (some (⟨(⟨x0.f.states,x0.f.starts,x0.f.ends,x0.f.arcs⟩:Fst),true⟩:Grow)) (iteO (decide (16384≤((x0.f.arcs.length:Nat):Int))) (some (⟨(⟨x0.f.states,x0.f.starts,x0.f.ends,x0.f.arcs⟩:Fst),true⟩:Grow)) (iteO (decide (1024<((x1.out.length:Nat):Int))) (some (⟨(⟨x0.f.states,x0.f.starts,x0.f.ends,x0.f.arcs⟩:Fst),true⟩:Grow)) (grd ((x0.f.arcs.length+[x1].length) * 72≤140737488355328) (some (⟨(⟨x0.f.states,x0.f.starts,x0.f.ends,(x0.f.arcs++[x1])⟩:Fst),x0.over⟩:Grow)))))
theorem Gz_{x0:Grow}{x1:Arc}{r:Grow}(hh:Dd_ x0 x1=some r):
  Con Tryz.prog 89 #[loc b0_0 0,.agg #[.int .i64 x1.frm,.int .i64 x1.to,.int .u64 ((x1.set.a:Nat):Int),.int .u64 ((x1.set.b:Nat):Int),.int .u64 ((x1.set.c:Nat):Int),.int .u64 ((x1.set.d:Nat):Int),.string (bs x1.out),.bool x1.copy]] σ [Res.cells b0_0 #[.int .i64 x0.f.states,.slice a0_1 x0.f.starts.length c0_2,.slice a0_3 x0.f.ends.length c0_4,.slice a0_5 x0.f.arcs.length c0_6,.bool x0.over] Eb0,Res.rowS 43 2 encTip (.slice a0_1 x0.f.starts.length c0_2) x0.f.starts,Res.rowS 43 2 encTip (.slice a0_3 x0.f.ends.length c0_4) x0.f.ends,Res.rowS 66 8 encArc (.slice a0_5 x0.f.arcs.length c0_6) x0.f.arcs] (fun v σ' H'=> ∃ao1 co2 ao3 co4 ao5 co6,v= .tuple #[]∧σ=σ'∧H'=[Res.cells b0_0 #[.int .i64 r.f.states,.slice ao1 r.f.starts.length co2,.slice ao3 r.f.ends.length co4,.slice ao5 r.f.arcs.length co6,.bool r.over] Eb0,Res.rowS 43 2 encTip (.slice ao1 r.f.starts.length co2) r.f.starts,Res.rowS 43 2 encTip (.slice ao3 r.f.ends.length co4) r.f.ends,Res.rowS 66 8 encArc (.slice ao5 r.f.arcs.length co6) r.f.arcs]):=by
 dsimp only [Dd_]at hh
 refine Con.mk (n:=38) Tryz.func89 z z z (fun w0=> ?_)
 refine TC.weakR (TC.a (TL.op z (boxA z z z z (fun b108=> ?_))))
 refine TL.en (TC.seq (TC.a (TL.l z z (TL.w z (nilCheckLoc z z) (TL.w z (fieldLoc z fo163_1 z) (TL.w z (loadLoc z ag4 z (i:=1) z z) (TL.j z z (TL.split 8 z (fun h110=> ?_) (fun h110=> ?_)))))))))
 ·replace hh:=iteO_t h110 hh
  refine TL.f z (TL.f z (TL.f z (TL.f z (TL.f z (TL.f z (TL.f z (TL.w z (pickTB z z z) (TL.j z z (TL.f z (TL.f z (TL.f z (TL.f z (TL.w z (pickTB z z z) (TL.en (TC.t z ?_)))))))))))))))
  refine TC.a (TL.l z z (TL.w z (nilCheckLoc z z) (TL.w z (fieldLoc z fo163_1 z) (TL.front 1 z z (TL.op z (storeB z sz4 z z z z z ?_))))))
  refine TL.en (TC.ofSub (Sub.f [4,4,4,3] 4) (TC.ret (S.r ?_)))
  obtain rfl:=so hh
  refine ⟨_,Sub.f [3,3,3,3] 4,?_⟩
  exact ro [Res.cells b0_0 #[.int .i64 x0.f.states,.slice a0_1 x0.f.starts.length c0_2,.slice a0_3 x0.f.ends.length c0_4,.slice a0_5 x0.f.arcs.length c0_6,.bool true] Eb0,Res.rowS 43 2 encTip (.slice a0_1 x0.f.starts.length c0_2) x0.f.starts,Res.rowS 43 2 encTip (.slice a0_3 x0.f.ends.length c0_4) x0.f.ends,Res.rowS 66 8 encArc (.slice a0_5 x0.f.arcs.length c0_6) x0.f.arcs] z RVs.nil ⟨a0_1,c0_2,a0_3,c0_4,a0_5,c0_6,z,z,z⟩
 replace hh:=iteO_f h110 hh
 refine TL.g z (moveLoc (.inl z) z) (TL.g z (nilCheckLoc z z) (TL.g z (fieldLoc z fo163_0 z) (TL.g z (fieldLoc z fo25_3 z) (TL.g z (loadLoc z ag23 z (i:=1) z z) (TL.g z (lenC z underlying23 z) (TL.g z (OpVal.geq z z z) (TL.w z (pickFB z z z) (TL.j z z (TL.split 17 z (fun h111=> ?_) (fun h111=> ?_))))))))))
 ·replace hh:=iteO_t h111 hh
  replace h111:=of_decide_eq_true h111
  refine TL.f z (TL.f z (TL.f z (TL.f z (TL.w z (pickTB z z z) (TL.en (TC.t z (TC.a (TL.l z z (TL.w z (nilCheckLoc z z) (TL.w z (fieldLoc z fo163_1 z) (TL.front 1 z z (TL.op z (storeB z sz4 z z z z z ?_)))))))))))))
  refine TL.en (TC.ofSub (Sub.f [4,4,4,3] 4) (TC.ret (S.r ?_)))
  obtain rfl:=so hh
  refine ⟨_,Sub.f [3,3,3,3] 4,?_⟩
  exact ro [Res.cells b0_0 #[.int .i64 x0.f.states,.slice a0_1 x0.f.starts.length c0_2,.slice a0_3 x0.f.ends.length c0_4,.slice a0_5 x0.f.arcs.length c0_6,.bool true] Eb0,Res.rowS 43 2 encTip (.slice a0_1 x0.f.starts.length c0_2) x0.f.starts,Res.rowS 43 2 encTip (.slice a0_3 x0.f.ends.length c0_4) x0.f.ends,Res.rowS 66 8 encArc (.slice a0_5 x0.f.arcs.length c0_6) x0.f.arcs] z RVs.nil ⟨a0_1,c0_2,a0_3,c0_4,a0_5,c0_6,z,z,z⟩
 replace hh:=iteO_f h111 hh
 replace h111:=of_decide_eq_false h111
 refine TL.g z (fieldLoc z fo66_3 z) (TL.g z (loadLoc z ag9 z (i:=0) z z) (TL.g z (lenBs z underlying9 z) (TL.g z (OpVal.gtr z z z) (TL.w z (pickFB z z z) (TL.en (TC.cD z hh (fun h112 hh=> ?_) (fun h112 hh=> ?_)))))))
 ·refine TC.a (TL.l z z (TL.w z (nilCheckLoc z z) (TL.w z (fieldLoc z fo163_1 z) (TL.front 1 z z (TL.op z (storeB z sz4 z z z z z ?_))))))
  refine TL.en (TC.ofSub (Sub.f [4,4,4,3] 4) (TC.ret (S.r ?_)))
  obtain rfl:=so hh
  refine ⟨_,Sub.f [3,3,3,3] 4,?_⟩
  exact ro [Res.cells b0_0 #[.int .i64 x0.f.states,.slice a0_1 x0.f.starts.length c0_2,.slice a0_3 x0.f.ends.length c0_4,.slice a0_5 x0.f.arcs.length c0_6,.bool true] Eb0,Res.rowS 43 2 encTip (.slice a0_1 x0.f.starts.length c0_2) x0.f.starts,Res.rowS 43 2 encTip (.slice a0_3 x0.f.ends.length c0_4) x0.f.ends,Res.rowS 66 8 encArc (.slice a0_5 x0.f.arcs.length c0_6) x0.f.arcs] z RVs.nil ⟨a0_1,c0_2,a0_3,c0_4,a0_5,c0_6,z,z,z⟩
 refine TC.skip (S.n ?_)
 have u33:=grd_c hh
 replace hh:=grd_t hh
 refine TC.draw [8,9,10,11,12] (by kernel_rfl) (TA.a 0 z (moveLoc (.inl z) z) z (TA.a 1 z (moveLoc (.inl z) z) z (TA.a 2 z (nilCheckLoc z z) z (TA.a 3 z (fieldLoc z fo163_0 z) z (TA.a 4 z (fieldLoc z fo25_3 z) z (TA.b 5 z (loadLoc z ag23 z (i:=1) z z) z (TA.b 6 z (loadAll z ag66 sz66 z (i:=0) z z) z (TA.ac 7 z (OpOk.lit (enc:=encArc) [x1] z underlying23 sz66 ze66 z z z encArc_len (by decide) (by decide) Arc.zero z (by decide) z (by decide) encArc_one (fun a118 c119=>(k1 ?_)))))))))))
 refine TA.front 5 z z (TA.last 8 (by kernel_rfl) z z z (appendS z z underlying23 sz66 by66 ze66 z z (by decide) z z z (.inr ⟨_,0,z⟩) (by simpa using u33) (by decide) (fun a121 c122=> ?_)))
 refine TZ.v 9 (by kernel_rfl) z z z (nilCheckLoc z z) z z (TZ.v 10 (by kernel_rfl) z z z (fieldLoc z fo163_0 z) z z (TZ.v 11 (by kernel_rfl) z z z (fieldLoc z fo25_3 z) z z (TZ.front 3 z z (TZ.last 12 (by kernel_rfl) z z z (storeSl z sz23 z z z z z ?_)))))
 refine TZ.done (by kernel_rfl) ?_
 obtain rfl:=so hh
 refine ⟨_,Sub.f [1,5,5,3] 4,?_⟩
 exact RetOk.mk' (rs:=[]) [Res.cells b0_0 #[.int .i64 x0.f.states,.slice a0_1 x0.f.starts.length c0_2,.slice a0_3 x0.f.ends.length c0_4,.slice a121 ((x0.f.arcs++[x1]).length) c122,.bool x0.over] Eb0,Res.rowS 43 2 encTip (.slice a0_1 x0.f.starts.length c0_2) x0.f.starts,Res.rowS 43 2 encTip (.slice a0_3 x0.f.ends.length c0_4) x0.f.ends,Res.rowS 66 8 encArc (.slice a121 (x0.f.arcs++[x1]).length c122) (x0.f.arcs++[x1])] z (.inr z) RVs.nil (List.sublist_append_left _ _) ⟨a0_1,c0_2,a0_3,c0_4,a121,c122,z,z,z⟩
def Cn_(x0:Grow):Option (Fst×Int):=
 iteO x0.over (some ((⟨0,([]:List Tip),([]:List Tip),([]:List Arc)⟩:Fst),2)) (iteO (decide (1024<x0.f.states)) (some ((⟨0,([]:List Tip),([]:List Tip),([]:List Arc)⟩:Fst),2)) (some ((⟨x0.f.states,x0.f.starts,x0.f.ends,x0.f.arcs⟩:Fst),0)))
theorem Gy_{x0:Grow}{x2g:Int}{r:Fst×Int}(hh:Cn_ x0=some r):
  ConD Tryz.prog 86 #[loc b0_0 0,loc b1_0 0,loc b2_0 0] σ [Res.cells b0_0 #[.int .i64 x0.f.states,.slice a0_1 x0.f.starts.length c0_2,.slice a0_3 x0.f.ends.length c0_4,.slice a0_5 x0.f.arcs.length c0_6,.bool x0.over] Eb0,Res.rowS 43 2 encTip (.slice a0_1 x0.f.starts.length c0_2) x0.f.starts,Res.rowS 43 2 encTip (.slice a0_3 x0.f.ends.length c0_4) x0.f.ends,Res.rowS 66 8 encArc (.slice a0_5 x0.f.arcs.length c0_6) x0.f.arcs,Res.cells b1_0 #[.int .i64 0,.slice none 0 0,.slice none 0 0,.slice none 0 0] Eb1,Res.cells b2_0 #[.int .i64 x2g] Eb2] (fun v σ' H'=> ∃ao1 co2 ao4 co5 ao7 co8,v= .tuple #[]∧RS σ' 2 encTip (.slice ao1 r.1.starts.length co2) r.1.starts∧RS σ' 2 encTip (.slice ao4 r.1.ends.length co5) r.1.ends∧RS σ' 8 encArc (.slice ao7 r.1.arcs.length co8) r.1.arcs∧H'=[Res.cells b1_0 #[.int .i64 r.1.states,.slice ao1 r.1.starts.length co2,.slice ao4 r.1.ends.length co5,.slice ao7 r.1.arcs.length co8] Eb1,Res.cells b2_0 #[.int .i64 r.2] Eb2]):=by
 dsimp only [Cn_]at hh
 refine ConD.mk (n:=31) Tryz.func86 z z z (fun w0=> ?_)
 refine TC.weakR (TC.seq (TC.a (TL.l z z (TL.w z (nilCheckLoc z z) (TL.w z (fieldLoc z fo163_1 z) (TL.w z (loadLoc z ag4 z (i:=0) z z) (TL.j z z (TL.split 10 z (fun h110=> ?_) (fun h110=> ?_)))))))))
 ·replace hh:=iteO_t h110 hh
  refine TL.f z (TL.f z (TL.f z (TL.f z (TL.f z (TL.f z (TL.w z (pickTB z z z) (TL.en (TC.t z (TC.a (TL.l z z (TL.l z z (TL.w z (buildL z pl25 ze25 z) (TL.w z (nilCheckLoc z z) (TL.front 4 z z (TL.op z (storeAll z sz25 z z z z z z ?_))))))))))))))))
  refine TL.w z (nilCheckLoc z z) (TL.front 5 z z (TL.op z (storeI z sz27 z z z z z ?_)))
  refine TL.en (TC.ofSub (Sub.f [1] 2) (TC.ret (S.r ?_)))
  obtain rfl:=so hh
  refine ⟨_,Sub.f [1,1] 2,?_⟩
  exact ro [Res.cells b1_0 #[.int .i64 0,.slice none 0 0,.slice none 0 0,.slice none 0 0] Eb1,Res.cells b2_0 #[.int .i64 2] Eb2] z RVs.nil ⟨none,0,none,0,none,0,z,(RS.nilF _ encTip encTip_len),(RS.nilF _ encTip encTip_len),(RS.nilF _ encArc encArc_len),z⟩
 replace hh:=iteO_f h110 hh
 refine TL.g z (moveLoc (.inl z) z) (TL.g z (nilCheckLoc z z) (TL.g z (fieldLoc z fo163_0 z) (TL.g z (fieldLoc z fo25_0 z) (TL.g z (loadLoc z ag3 z (i:=0) z z) (TL.g z (OpVal.gtr z z z) (TL.w z (pickFB z z z) (TL.en (TC.cD z hh (fun h111 hh=> ?_) (fun h111 hh=> ?_)))))))))
 ·refine TC.a (TL.l z z (TL.l z z (TL.w z (buildL z pl25 ze25 z) (TL.w z (nilCheckLoc z z) (TL.front 4 z z (TL.op z (storeAll z sz25 z z z z z z ?_)))))))
  refine TL.w z (nilCheckLoc z z) (TL.front 5 z z (TL.op z (storeI z sz27 z z z z z ?_)))
  refine TL.en (TC.ofSub (Sub.f [1] 2) (TC.ret (S.r ?_)))
  obtain rfl:=so hh
  refine ⟨_,Sub.f [1,1] 2,?_⟩
  exact ro [Res.cells b1_0 #[.int .i64 0,.slice none 0 0,.slice none 0 0,.slice none 0 0] Eb1,Res.cells b2_0 #[.int .i64 2] Eb2] z RVs.nil ⟨none,0,none,0,none,0,z,(RS.nilF _ encTip encTip_len),(RS.nilF _ encTip encTip_len),(RS.nilF _ encArc encArc_len),z⟩
 refine TC.skip (S.n (TC.region (TL.l z z (TL.l z z (TL.l z z (TL.w z (nilCheckLoc z z) (TL.w z (fieldLoc z fo163_0 z) (TL.w z (loadLocA z ag25 sz25 z (i:=0) z z z) (TL.w z (nilCheckLoc z z) (TL.front 4 z z (TL.op z (storeAll z sz25 z z z z z z ?_))))))))))))
 refine TL.w z (nilCheckLoc z z) (TL.front 5 z z (TL.op z (storeI z sz27 z z z z z ?_)))
 refine TL.front 3 z z (TL.sealS encTip_len (fun τ114 hle113 hr112=> ?_))
 have hr112b:=hr112.rv.big
 refine TL.front 3 z z (TL.sealS encTip_len (fun τ117 hle116 hr115=> ?_))
 replace hr112:=hr112.mono hle116
 have hr115b:=hr115.rv.big
 refine TL.front 3 z z (TL.sealS encArc_len (fun τ120 hle119 hr118=> ?_))
 replace hr112:=hr112.mono hle119
 replace hr115:=hr115.mono hle119
 have hr118b:=hr118.rv.big
 refine TL.nil ?_
 obtain rfl:=so hh
 refine ⟨_,Sub.f [1] 2,?_⟩
 exact RetOk.mk' (rs:=[]) [Res.cells b1_0 #[.int .i64 x0.f.states,.slice a0_1 x0.f.starts.length c0_2,.slice a0_3 x0.f.ends.length c0_4,.slice a0_5 x0.f.arcs.length c0_6] Eb1,Res.cells b2_0 #[.int .i64 0] Eb2] z (.inr z) RVs.nil (List.sublist_append_left _ _) ⟨a0_1,c0_2,a0_3,c0_4,a0_5,c0_6,z,hr112,hr115,hr118,z⟩
end Go.Proofs.YtamgjehhjkgelaaGreatDoor
end

noncomputable section
namespace Go.E
open Go
@[irreducible]def arrA{α:Type}(enc:α→List Value)(l:List α):Array Value:=(l.flatMap enc).toArray
theorem arrA_list{α:Type}{enc:α→List Value}{l:List α}:(arrA enc l).toList=l.flatMap enc:=by unfold arrA;rfl
theorem arrA_size{α:Type}{enc:α→List Value}{s:Nat}(hl: ∀x,(enc x).length=s)(l:List α):(arrA enc l).size=l.length * s:=by
  rw [←Array.length_toList,arrA_list,flatMap_len hl]
theorem arrA_of{α:Type}{enc:α→List Value}{l:List α}:arrA enc l=(l.flatMap enc).toArray:=by unfold arrA;rfl
theorem flat_set{α:Type}{enc:α→List Value}{s:Nat}(hl: ∀x,(enc x).length=s): ∀(l:List α) (i:Nat) (x:α),i<l.length→splice (l.flatMap enc) (i * s) (enc x)=(l.set i x).flatMap enc
  |[],_,_,h=>by cases h
  |y::l,0,x,_=>by
    simp only [splice,Nat.zero_mul,List.take_zero,List.nil_append,Nat.zero_add,List.flatMap_cons,List.set_cons_zero]
    rw [List.drop_append_of_le_length (by rw [hl,hl];exact Nat.le_refl _),List.drop_of_length_le (by rw [hl,hl];exact Nat.le_refl _),List.nil_append]
  |y::l,i+1,x,h=>by
    have ih:=flat_set hl l i x (by simpa using h)
    have e:(i+1) * s=(enc y).length+i * s:=by rw [hl,Nat.add_mul,Nat.one_mul,Nat.add_comm]
    simp only [splice,List.flatMap_cons,List.set_cons_succ]at ih ⊢
    rw [e,List.take_length_add_append,Nat.add_assoc,List.drop_length_add_append,List.append_assoc,List.append_assoc,←ih,List.append_assoc]
theorem nth_got{α:Type}{l:List α}{i:Nat}(h:i<l.length)(d:α):l[i]? =some (nth l i d):=by
  unfold nth;rw [List.getD_eq_getElem?_getD,List.getElem?_eq_getElem h];rfl
section
variable {P:Program} {n:Nat} {e:Env} {σ:Store} {H:List Res} {o:Oper} {x y:Operand} {α:Type} {enc:α→List Value} {l:List α}
theorem OpVal.loadArr{T b i s E j:Nat}(d:α)(ho:o.op= .load T x)(hA:aggOf P T=some true)(hz:szOf P T=some s)(hx:ev e x=loc b (0+i * s))(hi:H[j]? =some (Res.cells b (arrA enc l) E))(hl: ∀x,(enc x).length=s)(hk:i<l.length):
    OpVal P n o e σ H (.agg (enc (nth l i d)).toArray):=
  OpVal.loadLocA ho hA hz (by rw [hx,Nat.zero_add]) hi (hl _) (by rw [arrA_list];exact flatMap_seg hl l i _ (nth_got hk d))
theorem OpVal.indexV{T E s m i:Nat}{k:IntKind}(d:α)(ho:o.op= .index T x y)(ht:P.underlying T=some (.array m E))(hz:szOf P E=some s)(hA:aggOf P E=some true)(hx:ev e x= .agg (arrA enc l))(hy:ev e y= .int k (i:Nat))(hl: ∀x,(enc x).length=s)(hm:l.length=m)(hi:i<m):
    OpVal P n o e σ H (.agg (enc (nth l i d)).toArray):=fun w _=>by
  have h1:(arrA enc l).extract (i * s) (i * s+s)=(enc (nth l i d)).toArray:=by
    apply Array.ext'
    rw [Array.toList_extract,arrA_list,List.extract_eq_take_drop,←flatMap_seg hl l i _ (nth_got (hm▸hi) d)]
    congr 1;omega
  have h2:(i:Int)<(m:Int):=by omega
  simp [execOp,ho,hx,hy,Instr.index,asIntOf,run_underlying ht,run_sizeOf hz,part,run_isAgg hA,h1,h2]
  intro h;omega
theorem OpOk.storeArr{X:Ctx}{F:List Res}{K:Env→Store→List Res→Prop}{T b i s E:Nat}{u:α}(ho:o.op= .store T x y)(hs:szOf X.P T=some s)(hd:o.dst=none)(hx:ev e x=loc b (0+i * s))(hv:ev e y= .agg (enc u).toArray)(hl: ∀x,(enc x).length=s)(h1: ∀x, ∀u∈enc x,u.oneCell'=true)(hi:i<l.length)
    (kk:K e σ (Res.cells b (arrA enc (l.set i u)) E::F)):OpOk X o e σ (Res.cells b (arrA enc l) E::F) K:=by
  refine OpOk.store (k:=i * s) (s:=s) ho hs hd (by rw [hx,Nat.zero_add]) hv (by show (enc u).toArray.size=s;simpa using hl u) (fun v hv=>h1 u v (by simpa [Value.cells]using hv)) ?_ ?_ kk
  · rw [Nat.ble_eq,arrA_size hl]
    have:=Nat.mul_le_mul_right s (show i+1≤l.length by omega)
    rw [Nat.add_mul,Nat.one_mul]at this;exact this
  rw [arrA_list,arrA_of (l:=l.set i u)]
  congr 1
  show splice _ _ (enc u).toArray.toList=_
  rw [List.toList_toArray];exact flat_set hl l i u hi
end
end Go.E
end

noncomputable section
namespace Go.Proofs.YtamgjehhjkgelaaGreatDoor
open Go Go.E Go.E.OpVal Go.E.OpOk Go.Proofs.Tryz
theorem ag183:aggOf Tryz.prog 183=some true:=by kernel_rfl
theorem ag27:aggOf Tryz.prog 27=some false:=by kernel_rfl
theorem ag50:aggOf Tryz.prog 50=some true:=by kernel_rfl
theorem pf46:plainF Tryz.prog 46=true:=by kernel_rfl
theorem pf48:plainF Tryz.prog 48=true:=by kernel_rfl
theorem pf49:plainF Tryz.prog 49=true:=by kernel_rfl
theorem pf83:plainF Tryz.prog 83=true:=by kernel_rfl
theorem pf85:plainF Tryz.prog 85=true:=by kernel_rfl
theorem pf86:plainF Tryz.prog 86=true:=by kernel_rfl
theorem pf87:plainF Tryz.prog 87=true:=by kernel_rfl
theorem pf88:plainF Tryz.prog 88=true:=by kernel_rfl
theorem pf89:plainF Tryz.prog 89=true:=by kernel_rfl
theorem pl163:plOf Tryz.prog 163=some #[(0,4),(4,1)]:=by kernel_rfl
theorem pl66:plOf Tryz.prog 66=some #[(0,1),(1,1),(2,4),(6,1),(7,1)]:=by kernel_rfl
theorem sz183:szOf Tryz.prog 183=some 4096:=by kernel_rfl
theorem sz50:szOf Tryz.prog 50=some 3:=by kernel_rfl
theorem za183:zeroOf Tryz.prog 183=some (.agg (Go.E.arrA Go.E.encSet (List.replicate 1024 BSet.zero))):=by rw [Go.E.arrA_of];kernel_rfl
theorem ze163:zeroOf Tryz.prog 163=some (.agg #[.int .i64 0,.slice none 0 0,.slice none 0 0,.slice none 0 0,.bool false]):=by kernel_rfl
theorem ze27:zeroOf Tryz.prog 27=some (.int .i64 0):=by kernel_rfl
def B1_(x0:Dfa)(k139:Nat)(l172:List BSet)(y64_0:Int)(y64_1:BSet):Option (Nat×(List BSet)):=
 grd (0≤y64_0∧y64_0<((nth x0.next k139 ([]:List Int)).length:Int)) (grd (0≤y64_0∧y64_0<((nth x0.next k139 ([]:List Int)).length:Int)) (grd (0≤(nth (nth x0.next k139 ([]:List Int)) y64_0.toNat (0:Int))∧(nth (nth x0.next k139 ([]:List Int)) y64_0.toNat (0:Int))<(1024:Int)) (bnd (Cz_ (nth l172 ((nth (nth x0.next k139 ([]:List Int)) y64_0.toNat (0:Int)).toNat) BSet.zero) y64_1) (fun v69=>grd (0≤(nth (nth x0.next k139 ([]:List Int)) y64_0.toNat (0:Int))∧(nth (nth x0.next k139 ([]:List Int)) y64_0.toNat (0:Int))<(1024:Int)) (some (0,(l172.set ((nth (nth x0.next k139 ([]:List Int)) y64_0.toNat (0:Int)).toNat) v69)))))))
def Dj_(k194:Nat)(l199:List Arrow):Option (((List Arrow)×Nat)⊕(((List Int)×(List Arrow)×Nat)⊕(Nfa×Int))):=
 nxt (l199,(k194+1))
def A6_(l172:List BSet)(k139:Nat)(l151:List Int)(l191:List Arrow)(k194:Nat):Option (((List Arrow)×Nat)⊕(((List Int)×(List Arrow)×Nat)⊕(Nfa×Int))):=
 iteO (decide (((k194:Nat):Int)<1024)) (iteO (decide ((nth l172 k194 BSet.zero)≠BSet.zero)) (grd ((l191.length+[(⟨((k139:Nat):Int),((k194:Nat):Int),(nth l172 k194 BSet.zero)⟩:Arrow)].length) * 48≤140737488355328) (Dj_ k194 (l191++[(⟨((k139:Nat):Int),((k194:Nat):Int),(nth l172 k194 BSet.zero)⟩:Arrow)]))) (Dj_ k194 l191)) (fin (iteO (decide (65536<((l191.length:Nat):Int))) (fin (some ((⟨0,([]:List Int),([]:List Int),([]:List Arrow)⟩:Nfa),2))) (nxt (l151,l191,(k139+1)))))
def Ee_(k139:Nat)(l151:List Int)(l136:List Arrow)(jz:Nat)(l172:List BSet):Option (((List Int)×(List Arrow)×Nat)⊕(Nfa×Int)):=
 jsel jz (iter (fun q:(List Arrow)×Nat=>A6_ l172 k139 l151 q.1 q.2) (l136,0)) (fun _=>none)
def C3_(v6:(List BSet)×Int)(x0:Dfa)(k139:Nat)(l136:List Arrow)(l151:List Int):Option (((List Int)×(List Arrow)×Nat)⊕(Nfa×Int)):=
 bnd (Ch_ v6.1) (fun v54=>bnd (A1_ (stepY (fun (q:(List BSet)) (x:Int×BSet)=>B1_ x0 k139 q x.1 x.2)) (0,(List.replicate 1024 BSet.zero)) v54) (fun zr64=>Ee_ k139 l151 l136 zr64.1 zr64.2))
def Bh_(x0:Dfa)(v6:(List BSet)×Int)(l132:List Int)(l136:List Arrow)(k139:Nat):Option (((List Int)×(List Arrow)×Nat)⊕(Nfa×Int)):=
 iteO (decide (((k139:Nat):Int)<((x0.next.length:Nat):Int))) (grd (k139<x0.fin.length) (iteO (nth x0.fin k139 false) (grd ((l132.length+[((k139:Nat):Int)].length) * 8≤140737488355328) (C3_ v6 x0 k139 l136 (l132++[((k139:Nat):Int)]))) (C3_ v6 x0 k139 l136 l132))) (fin (some ((⟨((x0.next.length:Nat):Int),[0],l132,l136⟩:Nfa),0)))
def Fo_(x0:Dfa):Option (Nfa×Int):=
 bnd (Dc_ x0.cls) (fun v6=>iteO (decide (v6.2≠0)) (some ((⟨0,([]:List Int),([]:List Int),([]:List Arrow)⟩:Nfa),1)) (bnd (Dw_ x0) (fun v16=>iteO (decide (v16≠0)) (some ((⟨0,([]:List Int),([]:List Int),([]:List Arrow)⟩:Nfa),1)) (iter (fun q:(List Int)×(List Arrow)×Nat=>Bh_ x0 v6 q.1 q.2.1 q.2.2) (([]:List Int),([]:List Arrow),0)))))
def Hv_(σ:Store)(r:Nfa×Int):Value→Store→List Res→Prop:=fun v σ' H'=>
 ∃a1 c1 a2 c2 a3 c3,v= .tuple #[.agg #[.int .i64 r.1.states,.slice a1 r.1.starts.length c1,.slice a2 r.1.ends.length c2,.slice a3 r.1.edges.length c3],.int .i64 r.2]∧RS σ' 1 eI_ (.slice a1 r.1.starts.length c1) r.1.starts∧RS σ' 1 eI_ (.slice a2 r.1.ends.length c2) r.1.ends∧RS σ' 6 encE (.slice a3 r.1.edges.length c3) r.1.edges∧H'=[]
theorem Hl_{x0:Dfa}(f0_0:RS σ 1 eI_ (.slice a0_0 x0.cls.length c0_0) x0.cls)(f0_1:RZ σ (pkSl 1 eI_ eIl_) (.slice a0_1 x0.next.length c0_1) x0.next)(f0_2:RS σ 1 encB (.slice a0_2 x0.fin.length c0_2) x0.fin){r:Nfa×Int}(hh:Fo_ x0=some r):
  Con Tryz.prog 85 #[.agg #[.slice a0_0 x0.cls.length c0_0,.slice a0_1 x0.next.length c0_1,.slice a0_2 x0.fin.length c0_2]] σ [] (Hv_ σ r):=by
 dsimp only [Fo_]at hh
 have f0_0b:=f0_0.rv.big
 have f0_1b:=f0_1.big
 have f0_2b:=f0_2.rv.big
 refine Con.mk (n:=94) Tryz.func85 z z z (fun w0=> ?_)
 refine TC.a (TL.op z (boxA z z z z (fun b101=> ?_)))
 refine TL.op z (OpOk.alloc z ze61 z z (fun b103=> ?_))
 refine TL.i z z (TL.en (TC.a (TL.w z (fieldLoc z fo50_0 z) (TL.w z (loadLoc z ag46 z (i:=1) z z) ?_))))
 obtain ⟨v6,u6,hh⟩:=bnd_e hh
 refine TL.op z (OpOk.call (Gk_ f0_0 u6) z z pf84 z z z z ?_)
 rintro _ τ105 _ hle105 ⟨a105_1,c105_1,rfl,hr105_0,rfl⟩
 replace f0_0:=f0_0.mono hle105
 replace f0_1:=f0_1.mono hle105
 replace f0_2:=f0_2.mono hle105
 have hr105_0b:=hr105_0.rv.big
 refine TL.w z (moveT (.inl z) z) (TL.w z (OpVal.extract z z z) (TL.w z (OpVal.extract z z z) (TL.s z z (TL.i z z (TL.en (TC.seq (TC.a (TL.i z z (TL.w z (OpVal.neq z z z) (TL.j z z (TL.split 22 z (fun h106=> ?_) (fun h106=> ?_))))))))))))
 ·replace hh:=iteO_t h106 hh
  replace h106:=of_decide_eq_true h106
  refine TL.f z (TL.f z (TL.f z (TL.w z (pickTB z z z) (TL.en (TC.t z (TC.a (TL.w z (buildL z pl61 ze61 z) (TL.op z (storeAll z sz61 z z z z z z ?_)))))))))
  refine TL.i z z (TL.en (TC.rt 1 (S.r ?_)))
  obtain rfl:=so hh
  exact ro [] z (RVs.agg ag61 sz61 z (i:=0) z z (RVs.tmp z RVs.nil)) ⟨none,0,none,0,none,0,z,(RS.nilF _ eI_ eIl_),(RS.nilF _ eI_ eIl_),(RS.nilF _ encE encE_len),z⟩
 replace hh:=iteO_f h106 hh
 replace h106:=of_decide_eq_false h106
 refine TL.g z (loadAll z ag50 sz50 z (i:=1) z z) ?_
 obtain ⟨v16,u16,hh⟩:=bnd_e hh
 refine TL.gon z z z z z (callP (Gl_ (x0:=x0) f0_0 f0_1 f0_2 u16) z z pf48 z z z ?_)
 refine TL.g z (OpVal.neq z z z) (TL.w z (pickFB z z z) (TL.en (TC.cD z hh (fun h107 hh=> ?_) (fun h107 hh=> ?_))))
 ·refine TC.a (TL.w z (buildL z pl61 ze61 z) (TL.op z (storeAll z sz61 z z z z z z ?_)))
  refine TL.i z z (TL.en (TC.rt 1 (S.r ?_)))
  obtain rfl:=so hh
  exact ro [] z (RVs.agg ag61 sz61 z (i:=0) z z (RVs.tmp z RVs.nil)) ⟨none,0,none,0,none,0,z,(RS.nilF _ eI_ eIl_),(RS.nilF _ eI_ eIl_),(RS.nilF _ encE encE_len),z⟩
 refine TC.skip (S.n (TC.a (TL.w z (fieldLoc z fo50_1 z) (TL.w z (loadLoc z ag47 z (i:=1) z z) (TL.w z (lenC z underlying47 z) (TL.op z (OpOk.lit (enc:=eI_) [0] z underlying46 sz3 ze3 z z z eIl_ (by decide) (by decide) (0:Int) z (by decide) z (by decide) eIo_ (fun a108 c109=> ?_))))))))
 refine TL.w z (buildL z pl61 ze61 z) (TL.op z (OpOk.alloc z ze61 z z (fun b111=> ?_)))
 refine TL.op z (storeAll z sz61 z z z z z z ?_)
 refine TL.en (TC.seq (TC.a (TL.w z (fieldLoc z fo50_1 z) (TL.w z (loadLoc z ag47 z (i:=3) z z) (TL.w z (lenC z underlying47 z) (TL.i z z (TL.en (TC.block (TC.nilS 3 1 eI_ (TC.nilS 58 6 encE (TC.loopG (α:=((List Int)×(List Arrow)×Nat)×((Option Addr)×Nat×(Option Addr)×Nat×Store)) (rgs [(3,1),(7,3),(12,2),(36,18),(69,24)]) (fun g=>[(36,.int .i64 ((g.1.2.2:Nat):Int))]) (fun g=>[Res.cells b101 #[.slice a0_0 x0.cls.length c0_0,.slice a0_1 x0.next.length c0_1,.slice a0_2 x0.fin.length c0_2] 50,Res.cells b103 #[.int .i64 0,.slice none 0 0,.slice none 0 0,.slice none 0 0] 61,Res.cells b111 #[.int .i64 ((x0.next.length:Nat):Int),.slice a108 [0].length c109,.slice g.2.1 g.1.1.length g.2.2.1,.slice g.2.2.2.1 g.1.2.1.length g.2.2.2.2.1] 61,Res.rowS 3 1 eI_ (.slice a108 [0].length c109) [0],Res.rowS 3 1 eI_ (.slice g.2.1 g.1.1.length g.2.2.1) g.1.1,Res.rowS 58 6 encE (.slice g.2.2.2.1 g.1.2.1.length g.2.2.2.2.1) g.1.2.1]) (fun g=>g.2.2.2.2.2) (fun g=>iter (fun q:(List Int)×(List Arrow)×Nat=>Bh_ x0 v6 q.1 q.2.1 q.2.2) g.1=some r∧Store.le τ105 g.2.2.2.2.2) (fun g=>rounds (fun q:(List Int)×(List Arrow)×Nat=>Bh_ x0 v6 q.1 q.2.1 q.2.2) g.1) ((([]:List Int),([]:List Arrow),0),(none,0,none,0,τ105)) (Sub.f [1,3,3,4,5] 6) z (by repeat (first|exact trivial|refine ⟨z,?_⟩)) ⟨hh,(Store.le.refl _)⟩ (fun g1 j1 hg1=> ?_))))))))))))
 obtain ⟨⟨l132,l136,k139⟩,⟨a133,c134,a137,c138,τ142⟩⟩:=g1
 obtain ⟨hh,hle143⟩:=hg1
 dsimp only at hle143
 replace f0_1:=f0_1.mono hle143
 replace f0_2:=f0_2.mono hle143
 replace hr105_0:=hr105_0.mono hle143
 try dsimp only
 obtain ⟨z1,hh,hR1⟩:=iter_e hh
 dsimp only [Bh_]at hh
 refine TC.isSl (i:=3) z (fun _ hb144 _=> ?_)
 refine TC.isSl (i:=4) z (fun _ hb145 _=> ?_)
 refine TC.isSl (i:=5) z (fun _ hb146 _=> ?_)
 refine TC.a (TL.w z (OpVal.lss z z z) (TL.en (TC.seq (TC.cD z hh (fun h147 hh=> ?_) (fun h147 hh=> ?_)))))
 ·refine TC.skip (S.n (TC.seq (TC.block (TC.a (TL.i z z (TL.w z (indexN z underlying47 sz46 z z f0_1.isSl (by omega)) ?_))))))
  obtain ⟨p148,hk148,hg148⟩:=RZ.seg f0_1 k139 (by omega)
  replace hk148:RS _ 1 eI_ (.slice p148.1 (nth x0.next k139 ([]:List Int)).length p148.2) (nth x0.next k139 ([]:List Int)):=hk148
  have hk148b:=hk148.rv.big
  refine TL.w z (OpVal.of (loadSeg0 z ag46 z hg148 z) (v':= .slice p148.1 ((nth x0.next k139 ([]:List Int)).length) p148.2) z) (TL.op z (OpOk.alloc z ze46 z z (fun b149=> ?_)))
  refine TL.i z z (TL.op z (storeSl z sz46 z z z z z ?_))
  refine TL.en (TC.cutG (α:=((List Int))×((Option Addr)×Nat)) (rgs [(41,11)]) (fun g=>[]) (fun g=>[Res.cells b101 #[.slice a0_0 x0.cls.length c0_0,.slice a0_1 x0.next.length c0_1,.slice a0_2 x0.fin.length c0_2] 50,Res.cells b103 #[.int .i64 0,.slice none 0 0,.slice none 0 0,.slice none 0 0] 61,Res.cells b111 #[.int .i64 ((x0.next.length:Nat):Int),.slice a108 [0].length c109,.slice g.2.1 g.1.length g.2.2,.slice a137 l136.length c138] 61,Res.rowS 3 1 eI_ (.slice a108 [0].length c109) [0],Res.rowS 3 1 eI_ (.slice g.2.1 g.1.length g.2.2) g.1,Res.rowS 58 6 encE (.slice a137 l136.length c138) l136,Res.cells b149 #[.slice p148.1 ((nth x0.next k139 ([]:List Int)).length) p148.2] 46]) (fun g=>τ142) (fun g=>C3_ v6 x0 k139 l136 g.1=some z1) ?_ (fun g j hg=> ?_))
  ·skip
   refine TC.a (TL.w z (fieldLoc z fo50_2 z) (TL.w z (loadLoc z ag48 z (i:=1) z z) (TL.i z z ?_)))
   have u43:=grd_c hh
   replace hh:=grd_t hh
   refine TL.w z (indexN z underlying48 sz4 z z f0_2.rv.sl (by omega)) (TL.w z (loadS1 false z ag4 z f0_2 (by omega) z) (TL.en (TC.cB z hh (fun h154 hh=> ?_) (fun h154 hh=> ?_))))
   ·refine TC.region (TL.w z (fieldLoc z fo61_2 z) (TL.w z (loadLoc z ag46 z (i:=3) z z) (TL.i z z (TL.op z (OpOk.lit (enc:=eI_) [((k139:Nat):Int)] z underlying46 sz3 ze3 z z z eIl_ (by decide) (by decide) (0:Int) z (by decide) z (by decide) eIo_ (fun a155 c156=> ?_))))))
    refine TL.front 6 z z ?_
    have u49:=grd_c hh
    replace hh:=grd_t hh
    refine TL.op z (appendS z z underlying46 sz3 by3 ze3 z z (by decide) z z z (.inr ⟨_,0,z⟩) (by simpa using u49) (by decide) (fun a158 c159=> ?_))
    refine TL.w z (fieldLoc z fo61_2 z) (TL.front 5 z z (TL.op z (storeSl z sz46 z z z z z ?_)))
    exact TL.en (cf ((l132++[((k139:Nat):Int)]),(a158,c159)) hh (Sub.f [3,7,3,7,4,7,7] 7))
   exact TC.skip (S.n (cf (l132,(a133,c134)) hh (Sub.f [6,6,6,6,6,6] 7)))
  skip
  obtain ⟨l151,⟨a152,c153⟩⟩:=g
  have hh:=hg;clear hg
  try dsimp only
  dsimp only [C3_]at hh
  refine TC.isSl (i:=3) z (fun _ hb160 _=> ?_)
  refine TC.isSl (i:=4) z (fun _ hb161 _=> ?_)
  refine TC.isSl (i:=5) z (fun _ hb162 _=> ?_)
  refine TC.a (TL.op z (OpOk.alloc z za183 z z (fun b163=> ?_)))
  refine TL.asH (H':=[Res.cells b163 (arrA encSet (List.replicate 1024 BSet.zero)) 183,Res.cells b101 #[.slice a0_0 x0.cls.length c0_0,.slice a0_1 x0.next.length c0_1,.slice a0_2 x0.fin.length c0_2] 50,Res.cells b103 #[.int .i64 0,.slice none 0 0,.slice none 0 0,.slice none 0 0] 61,Res.cells b111 #[.int .i64 ((x0.next.length:Nat):Int),.slice a108 [0].length c109,.slice a152 l151.length c153,.slice a137 l136.length c138] 61,Res.rowS 3 1 eI_ (.slice a108 [0].length c109) [0],Res.rowS 3 1 eI_ (.slice a152 l151.length c153) l151,Res.rowS 58 6 encE (.slice a137 l136.length c138) l136,Res.cells b149 #[.slice p148.1 ((nth x0.next k139 ([]:List Int)).length) p148.2] 46]) z (TL.en (TC.seq (TC.a (TL.s z z ?_))))
  obtain ⟨v54,u54,hh⟩:=bnd_e hh
  refine TL.op z (OpOk.call (Fr_ hr105_0 u54) z z pf46 z z z z ?_)
  rintro _ τ165 _ hle165 ⟨b165_4,a165_1,c165_2,rfl,f165_3,rfl⟩
  replace hk148:=hk148.mono hle165
  have f165_3b:=f165_3.rv.big
  refine TL.en (TC.block (TC.ofSub (Sub.f [1,8,8,8,8,8,8,8] 9) ?_))
  obtain ⟨zr64,hz64,hh⟩:=bnd_e hh
  obtain ⟨jz64,l172⟩:=zr64
  dsimp only at hh
  refine TC.rangeG (A:=(fun (x:Int×BSet) _ vs=>vs=[.int .i64 x.1,setV x.2])) [] (fun (q:(List BSet)) (x:Int×BSet)=>B1_ x0 k139 q x.1 x.2) (fun (q:(List BSet)) (τ174:Store) Hs=>Hs=[Res.cells b101 #[.slice a0_0 x0.cls.length c0_0,.slice a0_1 x0.next.length c0_1,.slice a0_2 x0.fin.length c0_2] 50,Res.cells b103 #[.int .i64 0,.slice none 0 0,.slice none 0 0,.slice none 0 0] 61,Res.cells b111 #[.int .i64 ((x0.next.length:Nat):Int),.slice a108 [0].length c109,.slice a152 l151.length c153,.slice a137 l136.length c138] 61,Res.rowS 3 1 eI_ (.slice a108 [0].length c109) [0],Res.rowS 3 1 eI_ (.slice a152 l151.length c153) l151,Res.rowS 58 6 encE (.slice a137 l136.length c138) l136,Res.cells b149 #[.slice p148.1 ((nth x0.next k139 ([]:List Int)).length) p148.2] 46,Res.cells b163 (arrA encSet q) 183]∧q.length=1024) (s:=(List.replicate 1024 BSet.zero)) rfl pf83 rfl rfl (by rintro _ _ _ _ ⟨rfl,hn173⟩ hle_;exact ⟨rfl,hn173⟩) ⟨rfl,List.length_replicate⟩ (fun _ _ _ h_=>by subst h_;rfl) (E7_ f165_3 hz64) ?_ ?_
  ·clear hh hz64
   rintro l_ _ _ _ τ174 l172 ⟨y64_0,y64_1⟩ z64 _ _ hh hle175 rfl ⟨rfl,hn173⟩
   dsimp only [B1_]at hh
   replace hk148:=hk148.mono hle175
   have hn173b:=hn173
   show TC _ _ _ (upds _ [(55,setV y64_1),(54,.int .i64 y64_0)]) τ174 [Res.cells b101 #[.slice a0_0 x0.cls.length c0_0,.slice a0_1 x0.next.length c0_1,.slice a0_2 x0.fin.length c0_2] 50,Res.cells b103 #[.int .i64 0,.slice none 0 0,.slice none 0 0,.slice none 0 0] 61,Res.cells b111 #[.int .i64 ((x0.next.length:Nat):Int),.slice a108 [0].length c109,.slice a152 l151.length c153,.slice a137 l136.length c138] 61,Res.rowS 3 1 eI_ (.slice a108 [0].length c109) [0],Res.rowS 3 1 eI_ (.slice a152 l151.length c153) l151,Res.rowS 58 6 encE (.slice a137 l136.length c138) l136,Res.cells b149 #[.slice p148.1 ((nth x0.next k139 ([]:List Int)).length) p148.2] 46,Res.cells b163 (arrA encSet l172) 183]
   refine TC.isSl (i:=3) z (fun _ hb176 _=> ?_)
   refine TC.isSl (i:=4) z (fun _ hb177 _=> ?_)
   refine TC.isSl (i:=5) z (fun _ hb178 _=> ?_)
   refine TC.a (TL.i z z (TL.en (TC.region (TL.op z (OpOk.alloc z ze55 z z (fun b179=> ?_))))))
   refine TL.op z (storeAll z sz55 z z z z z z ?_)
   refine TL.nil (asg_n (fun _ _ _=> ?_))
   refine TC.block ?_
   have u60:=grd_c hh
   replace hh:=grd_t hh
   have u64:=grd_c hh
   replace hh:=grd_t hh
   have u66:=grd_c hh
   replace hh:=grd_t hh
   obtain ⟨v69,u69,hh⟩:=bnd_e hh
   have u70:=grd_c hh
   replace hh:=grd_t hh
   refine TC.draw [13] (by kernel_rfl) (TA.b 0 z (loadLoc z ag46 z (i:=7) z z) z (TA.a 1 z (moveI (.inl z) z) z (TA.b 2 z (OpVal.index z underlying46 sz3 z z hk148.rv.sl u60.1 u60.2) z (TA.b 3 z (loadS1 (0:Int) z ag3 z hk148 (by omega) z) z (TA.b 4 z (loadLoc z ag46 z (i:=7) z z) z (TA.a 5 z (moveI (.inl z) z) z (TA.b 6 z (OpVal.index z underlying46 sz3 z z hk148.rv.sl u64.1 u64.2) z (TA.b 7 z (loadS1 (0:Int) z ag3 z hk148 (by omega) z) z (TA.b 8 z (indexArr z underlying183 sz55 z z u66.1 u66.2) z (TA.b 9 z (OpVal.of (loadArr BSet.zero z ag55 sz55 z (j:=8) z encSet_len (by have:=(hn173:l172.length=1024);omega)) (v':=setV (nth l172 ((nth (nth x0.next k139 ([]:List Int)) y64_0.toNat (0:Int)).toNat) BSet.zero)) z) z (TA.b 10 z (loadAll z ag55 sz55 z (i:=0) z z) z (TA.ac 11 z (callP (Fz_ u69) z z pf76 z z z (k0 ?_))))))))))))))
   refine TA.b 12 z (indexArr z underlying183 sz55 z z u70.1 u70.2) z (TA.front 8 z z ?_)
   have hn182:(l172.set ((nth (nth x0.next k139 ([]:List Int)) y64_0.toNat (0:Int)).toNat) v69).length=1024:=(List.length_set ..).trans (hn173:l172.length=1024)
   refine TA.last 13 (by kernel_rfl) z z z (storeArr (u:=v69) z sz55 z z z encSet_len encSet_one (by have:=(hn173:l172.length=1024);omega) ?_)
   refine TZ.done (by kernel_rfl) (B.n ?_)
   obtain rfl:=so hh
   exact rnd_n ⟨z,_,Sub.f [8,8,8,8,8,8,8] 8,⟨z,hn182⟩⟩
  rintro τ174 _ _ hle175 ⟨rfl,hn173⟩ ⟨rfl⟩
  have hn173b:=hn173
  dsimp only [Ee_]at hh
  show jmpQ _ _ _ _ _ τ174 [Res.cells b101 #[.slice a0_0 x0.cls.length c0_0,.slice a0_1 x0.next.length c0_1,.slice a0_2 x0.fin.length c0_2] 50,Res.cells b103 #[.int .i64 0,.slice none 0 0,.slice none 0 0,.slice none 0 0] 61,Res.cells b111 #[.int .i64 ((x0.next.length:Nat):Int),.slice a108 [0].length c109,.slice a152 l151.length c153,.slice a137 l136.length c138] 61,Res.rowS 3 1 eI_ (.slice a108 [0].length c109) [0],Res.rowS 3 1 eI_ (.slice a152 l151.length c153) l151,Res.rowS 58 6 encE (.slice a137 l136.length c138) l136,Res.cells b149 #[.slice p148.1 ((nth x0.next k139 ([]:List Int)).length) p148.2] 46,Res.cells b163 (arrA encSet l172) 183,Res.cells b165_4 #[.slice a165_1 v54.length c165_2] 99]
  refine jmp_split hh ?_ ?_ <;>clear hh
  ·intro hh
   refine B.n (S.n (TC.seq (TC.a (TL.w rfl (loadAll rfl ag183 sz183 rfl (i:=7) rfl (by rw [arrA_size encSet_len,(hn173:l172.length=1024)])) (TL.i z z (TL.en (TC.block (TC.loopG (α:=((List Arrow)×Nat)×((Option Addr)×Nat)) (rgs [(12,2),(70,17)]) (fun g=>[(70,.int .i64 ((g.1.2:Nat):Int))]) (fun g=>[Res.cells b101 #[.slice a0_0 x0.cls.length c0_0,.slice a0_1 x0.next.length c0_1,.slice a0_2 x0.fin.length c0_2] 50,Res.cells b103 #[.int .i64 0,.slice none 0 0,.slice none 0 0,.slice none 0 0] 61,Res.cells b111 #[.int .i64 ((x0.next.length:Nat):Int),.slice a108 [0].length c109,.slice a152 l151.length c153,.slice g.2.1 g.1.1.length g.2.2] 61,Res.rowS 3 1 eI_ (.slice a108 [0].length c109) [0],Res.rowS 3 1 eI_ (.slice a152 l151.length c153) l151,Res.rowS 58 6 encE (.slice g.2.1 g.1.1.length g.2.2) g.1.1]) (fun g=>τ174) (fun g=>iter (fun q:(List Arrow)×Nat=>A6_ l172 k139 l151 q.1 q.2) g.1=some z1) (fun g=>rounds (fun q:(List Arrow)×Nat=>A6_ l172 k139 l151 q.1 q.2) g.1) ((l136,0),(a137,c138)) (Sub.f [5,5,5,5,5,5] 6) z (by repeat (first|exact trivial|refine ⟨z,?_⟩)) hh (fun g2 j2 hg2=> ?_)))))))))
   obtain ⟨⟨l191,k194⟩,⟨a192,c193⟩⟩:=g2
   have hh:=hg2;clear hg2
   try dsimp only
   obtain ⟨z2,hh,hR2⟩:=iter_e hh
   dsimp only [A6_]at hh
   refine TC.isSl (i:=3) z (fun _ hb195 _=> ?_)
   refine TC.isSl (i:=4) z (fun _ hb196 _=> ?_)
   refine TC.isSl (i:=5) z (fun _ hb197 _=> ?_)
   refine TC.a (TL.w z (OpVal.lss z z z) (TL.en (TC.seq (TC.cD z hh (fun h198 hh=> ?_) (fun h198 hh=> ?_)))))
   ·refine TC.skip (S.n (TC.cutG (α:=((List Arrow))×((Option Addr)×Nat)) (rgs [(12,2),(72,14)]) (fun g=>[]) (fun g=>[Res.cells b101 #[.slice a0_0 x0.cls.length c0_0,.slice a0_1 x0.next.length c0_1,.slice a0_2 x0.fin.length c0_2] 50,Res.cells b103 #[.int .i64 0,.slice none 0 0,.slice none 0 0,.slice none 0 0] 61,Res.cells b111 #[.int .i64 ((x0.next.length:Nat):Int),.slice a108 [0].length c109,.slice a152 l151.length c153,.slice g.2.1 g.1.length g.2.2] 61,Res.rowS 3 1 eI_ (.slice a108 [0].length c109) [0],Res.rowS 3 1 eI_ (.slice a152 l151.length c153) l151,Res.rowS 58 6 encE (.slice g.2.1 g.1.length g.2.2) g.1]) (fun g=>τ174) (fun g=>Dj_ k194 g.1=some z2) ?_ (fun g j hg=> ?_)))
    ·skip
     refine TC.block (TC.a (TL.i z z (TL.w z (OpVal.of (indexV BSet.zero z underlying183 sz55 ag55 z z encSet_len hn173 (by omega)) (v':=setV (nth l172 k194 BSet.zero)) z) (TL.op z (OpOk.alloc z ze55 z z (fun b202=> ?_))))))
     refine TL.i z z (TL.op z (storeAll z sz55 z z z z z z ?_))
     refine TL.en (TC.a (TL.w z (loadAll z ag55 sz55 z (i:=0) z z) (TL.w z (buildArrL z underlying55 sz53 ze55 z) (TL.w z (neqSet (s:=(nth l172 k194 BSet.zero)) (t:=BSet.zero) z underlying55 underlying53 ag53 sz53 eg55 z z) (TL.en (TC.cD z hh (fun h204 hh=> ?_) (fun h204 hh=> ?_)))))))
     ·refine TC.region (TL.w z (fieldLoc z fo61_3 z) (TL.w z (loadLoc z ag59 z (i:=3) z z) (TL.i z z (TL.i z z (TL.w z (loadAll z ag55 sz55 z (i:=0) z z) (TL.w z (buildL z pl58 ze58 z) (TL.op z (OpOk.lit (enc:=encE) [(⟨((k139:Nat):Int),((k194:Nat):Int),(nth l172 k194 BSet.zero)⟩:Arrow)] z underlying59 sz58 ze58 z z z encE_len (by decide) (by decide) Arrow.zero z (by decide) z (by decide) encE_one (fun a205 c206=> ?_)))))))))
      refine TL.front 7 z z ?_
      have u90:=grd_c hh
      replace hh:=grd_t hh
      refine TL.op z (appendS z z underlying59 sz58 by58 ze58 z z (by decide) z z z (.inr ⟨_,0,z⟩) (by simpa using u90) (by decide) (fun a208 c209=> ?_))
      refine TL.w z (fieldLoc z fo61_3 z) (TL.front 5 z z (TL.op z (storeSl z sz59 z z z z z ?_)))
      exact TL.nil (B.n (S.n (cf ((l191++[(⟨((k139:Nat):Int),((k194:Nat):Int),(nth l172 k194 BSet.zero)⟩:Arrow)]),(a208,c209)) hh (Sub.f [1,7,7,3,7,7] 6))))
     exact TC.skip (B.n (S.n (cf (l191,(a192,c193)) hh (Sub.f [6,6,6,6,6,6] 6))))
    skip
    obtain ⟨l199,⟨a200,c201⟩⟩:=g
    have hh:=hg;clear hg
    try dsimp only
    dsimp only [Dj_]at hh
    refine TC.isSl (i:=3) z (fun _ hb210 _=> ?_)
    refine TC.isSl (i:=4) z (fun _ hb211 _=> ?_)
    refine TC.isSl (i:=5) z (fun _ hb212 _=> ?_)
    refine TC.region (TL.w z (OpVal.succ z z z (by omega)) (TL.i z z (TL.en ?_)))
    obtain ⟨hh,hlt213⟩:=nxt_x hR2 hh
    exact lf ((l199,(k194+1)),(a200,c201)) hlt213 hh (Sub.f [5,5,5,5,5,5] 6)
   refine TC.exit (S.x (S.x ?_))
   replace hh:=fin_x hR2 hh
   refine TC.exitHere (S.n (TC.a (TL.w z (fieldLoc z fo61_3 z) (TL.w z (loadLoc z ag59 z (i:=2) z z) (TL.w z (lenC z underlying59 z) (TL.w z (OpVal.gtr z z z) (TL.en (TC.cD z hh (fun h214 hh=> ?_) (fun h214 hh=> ?_)))))))))
   ·refine TC.a (TL.w z (buildL z pl61 ze61 z) (TL.front 1 z z (TL.op z (storeAll z sz61 z z z z z z ?_))))
    refine TL.i z z (TL.en (TC.rt 1 (B.r (S.r (S.r ?_)))))
    replace hh:=fin_x hR1 hh
    refine B.r (S.r ?_)
    obtain rfl:=so hh
    exact ro [] z (RVs.agg ag61 sz61 z (i:=0) z z (RVs.tmp z RVs.nil)) ⟨none,0,none,0,none,0,z,(RS.nilF _ eI_ eIl_),(RS.nilF _ eI_ eIl_),(RS.nilF _ encE encE_len),z⟩
   refine TC.skip (B.n (S.n (TC.region (TL.w z (OpVal.succ z z z (by omega)) (TL.i z z (TL.en ?_))))))
   obtain ⟨hh,hlt215⟩:=nxt_x hR1 hh
   exact lf ((l151,l191,(k139+1)),(a152,c153,a192,c193,τ174)) hlt215 ⟨hh,((hle143.trans hle165).trans hle175)⟩ (Sub.f [5,5,5,5,5,5] 6)
  intro m_ c_ hh hc_
  exact jl_nil hc_
 refine TC.exit (S.x (S.x ?_))
 replace hh:=fin_x hR1 hh
 refine TC.exitHere (S.n (TC.a (TL.w z (loadAll z ag61 sz61 z (i:=2) z z) (TL.front 1 z z (TL.op z (storeAll z sz61 z z z z z z ?_))))))
 refine TL.i z z (TL.en (TC.front 3 z z (TC.sealS eIl_ (fun τ218 hle217 hr216=> ?_))))
 have hr216b:=hr216.rv.big
 refine TC.front 3 z z (TC.sealS eIl_ (fun τ221 hle220 hr219=> ?_))
 replace hr216:=hr216.mono hle220
 have hr219b:=hr219.rv.big
 refine TC.front 3 z z (TC.sealS encE_len (fun τ224 hle223 hr222=> ?_))
 replace hr216:=hr216.mono hle223
 replace hr219:=hr219.mono hle223
 have hr222b:=hr222.rv.big
 refine TC.rt 1 ?_
 obtain rfl:=so hh
 exact ro [] z (RVs.agg ag61 sz61 z (i:=0) z z (RVs.tmp z RVs.nil)) ⟨a108,c109,a133,c134,a137,c138,z,hr216,hr219,hr222,z⟩
def Bf_(v5:Nfa×Int)(x2:Bool)(i254:Int)(l256:List Tip)(l260:List Tip)(l264:List Arc)(t267:Bool)(k268:Nat):Option ((Int×(List Tip)×(List Tip)×(List Arc)×Bool×Nat)⊕(Fst×Int)):=
 iteO (decide (((k268:Nat):Int)<((v5.1.edges.length:Nat):Int))) (bnd (Dd_ (⟨(⟨i254,l256,l260,l264⟩:Fst),t267⟩:Grow) (⟨(nth v5.1.edges k268 Arrow.zero).frm,(nth v5.1.edges k268 Arrow.zero).to,(nth v5.1.edges k268 Arrow.zero).set,([]:List UInt8),x2⟩:Arc)) (fun v77=>nxt (v77.f.states,v77.f.starts,v77.f.ends,v77.f.arcs,v77.over,(k268+1)))) (fin (bnd (Cn_ (⟨(⟨i254,l256,l260,l264⟩:Fst),t267⟩:Grow)) (fun v87=>some ((⟨v87.1.states,v87.1.starts,v87.1.ends,v87.1.arcs⟩:Fst),v87.2))))
def A4_(v5:Nfa×Int)(x1:List UInt8)(x2:Bool)(i200:Int)(l202:List Tip)(l206:List Tip)(l210:List Arc)(t213:Bool)(k214:Nat):Option ((Int×(List Tip)×(List Tip)×(List Arc)×Bool×Nat)⊕(Fst×Int)):=
 iteO (decide (((k214:Nat):Int)<((v5.1.ends.length:Nat):Int))) (bnd (Df_ (⟨(⟨i200,l202,l206,l210⟩:Fst),t213⟩:Grow) (⟨(nth v5.1.ends k214 (0:Int)),x1⟩:Tip)) (fun v56=>nxt (v56.f.states,v56.f.starts,v56.f.ends,v56.f.arcs,v56.over,(k214+1)))) (fin (iter (fun q:Int×(List Tip)×(List Tip)×(List Arc)×Bool×Nat=>Bf_ v5 x2 q.1 q.2.1 q.2.2.1 q.2.2.2.1 q.2.2.2.2.1 q.2.2.2.2.2) (i200,l202,l206,l210,t213,0)))
def Bg_(v5:Nfa×Int)(x1:List UInt8)(x2:Bool)(i143:Int)(l145:List Tip)(l149:List Tip)(l153:List Arc)(t156:Bool)(k157:Nat):Option ((Int×(List Tip)×(List Tip)×(List Arc)×Bool×Nat)⊕(Fst×Int)):=
 iteO (decide (((k157:Nat):Int)<((v5.1.starts.length:Nat):Int))) (bnd (Ck_ (⟨(⟨i143,l145,l149,l153⟩:Fst),t156⟩:Grow) (⟨(nth v5.1.starts k157 (0:Int)),([]:List UInt8)⟩:Tip)) (fun v41=>nxt (v41.f.states,v41.f.starts,v41.f.ends,v41.f.arcs,v41.over,(k157+1)))) (fin (iter (fun q:Int×(List Tip)×(List Tip)×(List Arc)×Bool×Nat=>A4_ v5 x1 x2 q.1 q.2.1 q.2.2.1 q.2.2.2.1 q.2.2.2.2.1 q.2.2.2.2.2) (i143,l145,l149,l153,t156,0)))
def Fc_(x0:Dfa)(x1:List UInt8)(x2:Bool):Option (Fst×Int):=
 grd (x1.length≤281474976710656) (bnd (Fo_ x0) (fun v5=>iteO (decide (v5.2≠0)) (some ((⟨0,([]:List Tip),([]:List Tip),([]:List Arc)⟩:Fst),v5.2)) (iter (fun q:Int×(List Tip)×(List Tip)×(List Arc)×Bool×Nat=>Bg_ v5 x1 x2 q.1 q.2.1 q.2.2.1 q.2.2.2.1 q.2.2.2.2.1 q.2.2.2.2.2) (v5.1.states,([]:List Tip),([]:List Tip),([]:List Arc),false,0))))
def Hy_(σ:Store)(r:Fst×Int):Value→Store→List Res→Prop:=fun v σ' H'=>
 ∃a1 c1 a2 c2 a3 c3,v= .tuple #[.agg #[.int .i64 r.1.states,.slice a1 r.1.starts.length c1,.slice a2 r.1.ends.length c2,.slice a3 r.1.arcs.length c3],.int .i64 r.2]∧RS σ' 2 encTip (.slice a1 r.1.starts.length c1) r.1.starts∧RS σ' 2 encTip (.slice a2 r.1.ends.length c2) r.1.ends∧RS σ' 8 encArc (.slice a3 r.1.arcs.length c3) r.1.arcs∧H'=[]
theorem Hj_{x0:Dfa}{x1:List UInt8}{x2:Bool}(f0_0:RS σ 1 eI_ (.slice a0_0 x0.cls.length c0_0) x0.cls)(f0_1:RZ σ (pkSl 1 eI_ eIl_) (.slice a0_1 x0.next.length c0_1) x0.next)(f0_2:RS σ 1 encB (.slice a0_2 x0.fin.length c0_2) x0.fin){r:Fst×Int}(hh:Fc_ x0 x1 x2=some r):
  Con Tryz.prog 49 #[.agg #[.slice a0_0 x0.cls.length c0_0,.slice a0_1 x0.next.length c0_1,.slice a0_2 x0.fin.length c0_2],.string (bs x1),.bool x2] σ [] (Hy_ σ r):=by
 dsimp only [Fc_]at hh
 have f0_0b:=f0_0.rv.big
 have f0_1b:=f0_1.big
 have f0_2b:=f0_2.rv.big
 refine Con.mkD (n:=77) Tryz.func49 z z z (fun w0=> ?_)
 have x1b:=grd_c hh
 replace hh:=grd_t hh
 refine TB.seq endR_ret (TC.region (TL.op z (boxA z z z z (fun b101=> ?_))))
 refine TL.op z (OpOk.alloc z ze25 z z (fun b103=> ?_))
 refine TL.op z (OpOk.alloc z ze27 z z (fun b105=> ?_))
 refine TL.en (TB.seq endR_ret (TC.region (TL.w z (loadAll z ag50 sz50 z (i:=2) z z) ?_)))
 obtain ⟨v5,u5,hh⟩:=bnd_e hh
 refine TL.op z (OpOk.call (Hl_ (x0:=x0) f0_0 f0_1 f0_2 u5) z z pf85 z z z z ?_)
 rintro _ τ107 _ hle107 ⟨a107_1,c107_1,a107_2,c107_2,a107_3,c107_3,rfl,hr107_0,hr107_1,hr107_2,rfl⟩
 have hr107_0b:=hr107_0.rv.big
 have hr107_1b:=hr107_1.rv.big
 have hr107_2b:=hr107_2.rv.big
 refine TL.w z (moveT (.inl z) z) (TL.w z (OpVal.extract z z z) (TL.w z (OpVal.extract z z z) (TL.op z (OpOk.alloc z ze61 z z (fun b108=> ?_)))))
 refine TL.op z (storeAll z sz61 z z z z z z ?_)
 refine TL.front 1 z z (TL.op z (storeI z sz27 z z z z z ?_))
 refine TL.en (TB.seq endR_ret (TC.a (TL.w z (loadLoc z ag27 z (i:=0) z z) (TL.w z (OpVal.neq z z z) (TL.en (TC.cD z hh (fun h110 hh=> ?_) (fun h110 hh=> ?_)))))))
 ·refine TC.a (TL.w z (buildL z pl25 ze25 z) (TL.w z (loadLoc z ag27 z (i:=0) z z) (TL.front 2 z z (TL.op z (storeAll z sz25 z z z z z z ?_)))))
  refine TL.front 1 z z (TL.op z (storeI z sz27 z z z z z ?_))
  refine TL.en (TC.ofSub (Sub.f [1] 2) (TC.ret (S.r ?_)))
  obtain rfl:=so hh
  exact ro [] z (RVs.agg ag25 sz25 z (i:=0) z z (RVs.one ag27 z (i:=1) z z RVs.nil)) ⟨none,0,none,0,none,0,z,(RS.nilF _ encTip encTip_len),(RS.nilF _ encTip encTip_len),(RS.nilF _ encArc encArc_len),z⟩
 refine TC.skip (S.n (TB.seq endR_ret (TC.region (TL.w z (buildL z pl163 ze163 z) (TL.op z (boxA z z z z (fun b111=> ?_)))))))
 refine TL.l z z (TL.en (TB.seqD (TLB.v z (moveLoc (.inl z) z) z z (TLB.dfr (dargs:=[loc b111 0,loc b103 0,loc b105 0]) z z z z z (fun a_ w_ hw_ ha_=> ?_)))))
 refine TB.fin (Q:=dfrQ _ _ _ _ 86 [loc b111 0,loc b103 0,loc b105 0]) (endR_dfr (cap:=[]) (dargs:=[loc b111 0,loc b103 0,loc b105 0]) pf86) ?_ w_ a_ hw_ ha_
 clear hw_ ha_ a_ w_
 refine TC.a (TL.l z z (TL.w z (fieldLoc z fo61_0 z) (TL.w z (loadLoc z ag3 z (i:=2) z z) (TL.w z (nilCheckLoc z z) (TL.w z (fieldLoc z fo163_0 z) (TL.w z (fieldLoc z fo25_0 z) (TL.op z (storeI z sz3 z z z z z ?_))))))))
 refine TL.en (TC.seq (TC.a (TL.w z (fieldLoc z fo61_1 z) (TL.w z (loadLoc z ag46 z (i:=2) z z) (TL.w z (lenC z underlying46 z) (TL.i z z (TL.en (TC.block (TC.nilS 43 2 encTip (TC.nilS 43 2 encTip (TC.nilS 66 8 encArc (TC.loopG (α:=(Int×(List Tip)×(List Tip)×(List Arc)×Bool×Nat)×((Option Addr)×Nat×(Option Addr)×Nat×(Option Addr)×Nat)) (rgs [(11,1),(37,9)]) (fun g=>[(37,.int .i64 ((g.1.2.2.2.2.2:Nat):Int))]) (fun g=>[Res.cells b103 #[.int .i64 0,.slice none 0 0,.slice none 0 0,.slice none 0 0] 25,Res.cells b105 #[.int .i64 v5.2] 27,Res.cells b108 #[.int .i64 v5.1.states,.slice a107_1 v5.1.starts.length c107_1,.slice a107_2 v5.1.ends.length c107_2,.slice a107_3 v5.1.edges.length c107_3] 61,Res.cells b111 #[.int .i64 g.1.1,.slice g.2.1 g.1.2.1.length g.2.2.1,.slice g.2.2.2.1 g.1.2.2.1.length g.2.2.2.2.1,.slice g.2.2.2.2.2.1 g.1.2.2.2.1.length g.2.2.2.2.2.2,.bool g.1.2.2.2.2.1] 163,Res.rowS 43 2 encTip (.slice g.2.1 g.1.2.1.length g.2.2.1) g.1.2.1,Res.rowS 43 2 encTip (.slice g.2.2.2.1 g.1.2.2.1.length g.2.2.2.2.1) g.1.2.2.1,Res.rowS 66 8 encArc (.slice g.2.2.2.2.2.1 g.1.2.2.2.1.length g.2.2.2.2.2.2) g.1.2.2.2.1]) (fun g=>τ107) (fun g=>iter (fun q:Int×(List Tip)×(List Tip)×(List Arc)×Bool×Nat=>Bg_ v5 x1 x2 q.1 q.2.1 q.2.2.1 q.2.2.2.1 q.2.2.2.2.1 q.2.2.2.2.2) g.1=some r) (fun g=>rounds (fun q:Int×(List Tip)×(List Tip)×(List Arc)×Bool×Nat=>Bg_ v5 x1 x2 q.1 q.2.1 q.2.2.1 q.2.2.2.1 q.2.2.2.2.1 q.2.2.2.2.2) g.1) ((v5.1.states,([]:List Tip),([]:List Tip),([]:List Arc),false,0),(none,0,none,0,none,0)) (Sub.f [1,2,3,5,5,6] 7) z (by repeat (first|exact trivial|refine ⟨z,?_⟩)) hh (fun g1 j1 hg1=> ?_)))))))))))))
 obtain ⟨⟨i143,l145,l149,l153,t156,k157⟩,⟨a146,c147,a150,c151,a154,c155⟩⟩:=g1
 have hh:=hg1;clear hg1
 try dsimp only
 obtain ⟨z1,hh,hR1⟩:=iter_e hh
 dsimp only [Bg_]at hh
 refine TC.isSl (i:=4) z (fun _ hb161 _=> ?_)
 refine TC.isSl (i:=5) z (fun _ hb162 _=> ?_)
 refine TC.isSl (i:=6) z (fun _ hb163 _=> ?_)
 refine TC.a (TL.w z (OpVal.lss z z z) (TL.en (TC.seq (TC.cD z hh (fun h164 hh=> ?_) (fun h164 hh=> ?_)))))
 ·refine TC.skip (S.n (TC.seq (TC.block (TC.a (TL.w z (indexN z underlying46 sz3 z z hr107_0.rv.sl (by omega)) (TL.w z (loadS1 (0:Int) z ag3 z hr107_0 (by omega) z) (TL.i z z (TL.en (TC.region (TL.l z z (TL.i z z (TL.w z (buildL z pl43 ze43 z) (TL.front 6 z z (TL.front 6 z z (TL.front 6 z z ?_)))))))))))))))
  refine TL.front 6 z z ?_
  obtain ⟨v41,u41,hh⟩:=bnd_e hh
  refine TL.op z (OpOk.call (Gv_ u41) z z pf87 z z z z ?_)
  rintro _ _ _ hle165 ⟨a165_1,c165_2,a165_3,c165_4,a165_5,c165_6,rfl,rfl,rfl⟩
  refine TL.nil (B.n (S.n (TC.region (TL.w z (OpVal.succ z z z (by omega)) (TL.i z z (TL.en ?_))))))
  obtain ⟨hh,hlt169⟩:=nxt_x hR1 hh
  exact lf ((v41.f.states,v41.f.starts,v41.f.ends,v41.f.arcs,v41.over,(k157+1)),(a165_1,c165_2,a165_3,c165_4,a165_5,c165_6)) hlt169 hh (Sub.f [3,3,3,3,6,6,6] 7)
 refine TC.exit (S.x (S.x ?_))
 replace hh:=fin_x hR1 hh
 refine TC.exitHere (S.n (TC.seq (TC.a (TL.w z (fieldLoc z fo61_2 z) (TL.w z (loadLoc z ag46 z (i:=2) z z) (TL.w z (lenC z underlying46 z) (TL.i z z (TL.en (TC.block (TC.loopG (α:=(Int×(List Tip)×(List Tip)×(List Arc)×Bool×Nat)×((Option Addr)×Nat×(Option Addr)×Nat×(Option Addr)×Nat)) (rgs [(13,1),(49,10)]) (fun g=>[(49,.int .i64 ((g.1.2.2.2.2.2:Nat):Int))]) (fun g=>[Res.cells b103 #[.int .i64 0,.slice none 0 0,.slice none 0 0,.slice none 0 0] 25,Res.cells b105 #[.int .i64 v5.2] 27,Res.cells b108 #[.int .i64 v5.1.states,.slice a107_1 v5.1.starts.length c107_1,.slice a107_2 v5.1.ends.length c107_2,.slice a107_3 v5.1.edges.length c107_3] 61,Res.cells b111 #[.int .i64 g.1.1,.slice g.2.1 g.1.2.1.length g.2.2.1,.slice g.2.2.2.1 g.1.2.2.1.length g.2.2.2.2.1,.slice g.2.2.2.2.2.1 g.1.2.2.2.1.length g.2.2.2.2.2.2,.bool g.1.2.2.2.2.1] 163,Res.rowS 43 2 encTip (.slice g.2.1 g.1.2.1.length g.2.2.1) g.1.2.1,Res.rowS 43 2 encTip (.slice g.2.2.2.1 g.1.2.2.1.length g.2.2.2.2.1) g.1.2.2.1,Res.rowS 66 8 encArc (.slice g.2.2.2.2.2.1 g.1.2.2.2.1.length g.2.2.2.2.2.2) g.1.2.2.2.1]) (fun g=>τ107) (fun g=>iter (fun q:Int×(List Tip)×(List Tip)×(List Arc)×Bool×Nat=>A4_ v5 x1 x2 q.1 q.2.1 q.2.2.1 q.2.2.2.1 q.2.2.2.2.1 q.2.2.2.2.2) g.1=some r) (fun g=>rounds (fun q:Int×(List Tip)×(List Tip)×(List Arc)×Bool×Nat=>A4_ v5 x1 x2 q.1 q.2.1 q.2.2.1 q.2.2.2.1 q.2.2.2.2.1 q.2.2.2.2.2) g.1) ((i143,l145,l149,l153,t156,0),(a146,c147,a150,c151,a154,c155)) (Sub.f [6,6,6,6,6,6,6] 7) z (by repeat (first|exact trivial|refine ⟨z,?_⟩)) hh (fun g2 j2 hg2=> ?_)))))))))))
 obtain ⟨⟨i200,l202,l206,l210,t213,k214⟩,⟨a203,c204,a207,c208,a211,c212⟩⟩:=g2
 have hh:=hg2;clear hg2
 try dsimp only
 obtain ⟨z1,hh,hR1⟩:=iter_e hh
 dsimp only [A4_]at hh
 refine TC.isSl (i:=4) z (fun _ hb215 _=> ?_)
 refine TC.isSl (i:=5) z (fun _ hb216 _=> ?_)
 refine TC.isSl (i:=6) z (fun _ hb217 _=> ?_)
 refine TC.a (TL.w z (OpVal.lss z z z) (TL.en (TC.seq (TC.cD z hh (fun h218 hh=> ?_) (fun h218 hh=> ?_)))))
 ·refine TC.skip (S.n (TC.seq (TC.block (TC.a (TL.w z (indexN z underlying46 sz3 z z hr107_1.rv.sl (by omega)) (TL.w z (loadS1 (0:Int) z ag3 z hr107_1 (by omega) z) (TL.i z z (TL.en (TC.region (TL.l z z (TL.i z z (TL.w z (moveStr (.inl z) z) (TL.w z (buildL z pl43 ze43 z) (TL.front 6 z z (TL.front 6 z z ?_)))))))))))))))
  refine TL.front 6 z z (TL.front 6 z z ?_)
  obtain ⟨v56,u56,hh⟩:=bnd_e hh
  refine TL.op z (OpOk.call (G0_ u56) z z pf88 z z z z ?_)
  rintro _ _ _ hle219 ⟨a219_1,c219_2,a219_3,c219_4,a219_5,c219_6,rfl,rfl,rfl⟩
  refine TL.nil (B.n (S.n (TC.region (TL.w z (OpVal.succ z z z (by omega)) (TL.i z z (TL.en ?_))))))
  obtain ⟨hh,hlt223⟩:=nxt_x hR1 hh
  exact lf ((v56.f.states,v56.f.starts,v56.f.ends,v56.f.arcs,v56.over,(k214+1)),(a219_1,c219_2,a219_3,c219_4,a219_5,c219_6)) hlt223 hh (Sub.f [3,3,3,3,6,6,6] 7)
 refine TC.exit (S.x (S.x ?_))
 replace hh:=fin_x hR1 hh
 refine TC.exitHere (S.n (TC.seq (TC.a (TL.w z (fieldLoc z fo61_3 z) (TL.w z (loadLoc z ag59 z (i:=2) z z) (TL.w z (lenC z underlying59 z) (TL.i z z (TL.en (TC.block (TC.loopG (α:=(Int×(List Tip)×(List Tip)×(List Arc)×Bool×Nat)×((Option Addr)×Nat×(Option Addr)×Nat×(Option Addr)×Nat)) (rgs [(15,1),(62,15)]) (fun g=>[(62,.int .i64 ((g.1.2.2.2.2.2:Nat):Int))]) (fun g=>[Res.cells b103 #[.int .i64 0,.slice none 0 0,.slice none 0 0,.slice none 0 0] 25,Res.cells b105 #[.int .i64 v5.2] 27,Res.cells b111 #[.int .i64 g.1.1,.slice g.2.1 g.1.2.1.length g.2.2.1,.slice g.2.2.2.1 g.1.2.2.1.length g.2.2.2.2.1,.slice g.2.2.2.2.2.1 g.1.2.2.2.1.length g.2.2.2.2.2.2,.bool g.1.2.2.2.2.1] 163,Res.rowS 43 2 encTip (.slice g.2.1 g.1.2.1.length g.2.2.1) g.1.2.1,Res.rowS 43 2 encTip (.slice g.2.2.2.1 g.1.2.2.1.length g.2.2.2.2.1) g.1.2.2.1,Res.rowS 66 8 encArc (.slice g.2.2.2.2.2.1 g.1.2.2.2.1.length g.2.2.2.2.2.2) g.1.2.2.2.1]) (fun g=>τ107) (fun g=>iter (fun q:Int×(List Tip)×(List Tip)×(List Arc)×Bool×Nat=>Bf_ v5 x2 q.1 q.2.1 q.2.2.1 q.2.2.2.1 q.2.2.2.2.1 q.2.2.2.2.2) g.1=some r) (fun g=>rounds (fun q:Int×(List Tip)×(List Tip)×(List Arc)×Bool×Nat=>Bf_ v5 x2 q.1 q.2.1 q.2.2.1 q.2.2.2.1 q.2.2.2.2.1 q.2.2.2.2.2) g.1) ((i200,l202,l206,l210,t213,0),(a203,c204,a207,c208,a211,c212)) (Sub.f [6,6,6,6,5,5] 6) z (by repeat (first|exact trivial|refine ⟨z,?_⟩)) hh (fun g3 j3 hg3=> ?_)))))))))))
 obtain ⟨⟨i254,l256,l260,l264,t267,k268⟩,⟨a257,c258,a261,c262,a265,c266⟩⟩:=g3
 have hh:=hg3;clear hg3
 try dsimp only
 obtain ⟨z1,hh,hR1⟩:=iter_e hh
 dsimp only [Bf_]at hh
 refine TC.isSl (i:=3) z (fun _ hb269 _=> ?_)
 refine TC.isSl (i:=4) z (fun _ hb270 _=> ?_)
 refine TC.isSl (i:=5) z (fun _ hb271 _=> ?_)
 refine TC.a (TL.w z (OpVal.lss z z z) (TL.en (TC.seq (TC.cD z hh (fun h272 hh=> ?_) (fun h272 hh=> ?_)))))
 ·refine TC.skip (S.n (TC.seq (TC.block (TC.a (TL.w z (indexN z underlying59 sz58 z z hr107_2.rv.sl (by omega)) (TL.w z (loadSA Arrow.zero z ag58 sz58 z hr107_2 (by omega) (by omega)) (TL.op z (OpOk.alloc z ze58 z z (fun b273=> ?_)))))))))
  refine TL.op z (storeAll z sz58 z z z z z z ?_)
  refine TL.en (TC.region (TL.l z z (TL.w z (fieldLoc z fo58_0 z) (TL.w z (loadLoc z ag3 z (i:=0) z z) (TL.w z (fieldLoc z fo58_1 z) (TL.w z (loadLoc z ag3 z (i:=0) z z) (TL.w z (fieldLoc z fo58_2 z) (TL.w z (loadLocA z ag55 sz55 z (i:=0) z z z) (TL.j z z (TL.w z (buildL z pl66 ze66 z) (TL.front 6 z z (TL.front 6 z z (TL.front 6 z z (TL.front 6 z z ?_))))))))))))))
  obtain ⟨v77,u77,hh⟩:=bnd_e hh
  refine TL.op z (OpOk.call (Gz_ u77) z z pf89 z z z z ?_)
  rintro _ _ _ hle275 ⟨a275_1,c275_2,a275_3,c275_4,a275_5,c275_6,rfl,rfl,rfl⟩
  refine TL.nil (B.n (S.n (TC.region (TL.w z (OpVal.succ z z z (by omega)) (TL.i z z (TL.en ?_))))))
  obtain ⟨hh,hlt279⟩:=nxt_x hR1 hh
  exact lf ((v77.f.states,v77.f.starts,v77.f.ends,v77.f.arcs,v77.over,(k268+1)),(a275_1,c275_2,a275_3,c275_4,a275_5,c275_6)) hlt279 hh (Sub.f [3,3,3,3,6,6] 6)
 refine TC.exit (S.x (S.x ?_))
 replace hh:=fin_x hR1 hh
 refine TC.exitHere (S.n (TC.front 1 z z (TC.front 1 z z (TC.front 5 z z (TC.front 5 z z (TC.front 5 z z (TC.front 5 z z ?_)))))))
 obtain ⟨v87,u87,hh⟩:=bnd_e hh
 refine TC.ret (⟨.inl z,_,Sub.pre 6 z,(Gy_ u87).mono ?_⟩)
 rintro _ τ280 _ hle280 ⟨a280_1,c280_2,a280_4,c280_5,a280_7,c280_8,rfl,f280_3,f280_6,f280_9,rfl⟩
 have f280_3b:=f280_3.rv.big
 have f280_6b:=f280_6.rv.big
 have f280_9b:=f280_9.rv.big
 obtain rfl:=so hh
 exact RetOk.mk' (rs:=[.cell 6 25,.cell 7 27]) [] z (.inl z) (RVs.agg ag25 sz25 z (i:=0) z z (RVs.one ag27 z (i:=1) z z RVs.nil)) (List.nil_sublist _) ⟨a280_1,c280_2,a280_4,c280_5,a280_7,c280_8,z,f280_3,f280_6,f280_9,z⟩
def Dx_(x0:Dfa)(x1:List UInt8):Option (Fst×Int):=
 grd (x1.length≤281474976710656) (bnd (Dw_ x0) (fun v5=>iteO (decide (v5≠0)) (some ((⟨0,([]:List Tip),([]:List Tip),([]:List Arc)⟩:Fst),1)) (iteO (decide (1024<((x1.length:Nat):Int))) (some ((⟨0,([]:List Tip),([]:List Tip),([]:List Arc)⟩:Fst),2)) (bnd (Fc_ x0 x1 false) (fun v18=>some (v18.1,v18.2))))))
def Hs_(σ:Store)(r:Fst×Int):Value→Store→List Res→Prop:=fun v σ' H'=>
 ∃a1 c1 a2 c2 a3 c3,v= .tuple #[.agg #[.int .i64 r.1.states,.slice a1 r.1.starts.length c1,.slice a2 r.1.ends.length c2,.slice a3 r.1.arcs.length c3],.int .i64 r.2]∧RS σ' 2 encTip (.slice a1 r.1.starts.length c1) r.1.starts∧RS σ' 2 encTip (.slice a2 r.1.ends.length c2) r.1.ends∧RS σ' 8 encArc (.slice a3 r.1.arcs.length c3) r.1.arcs∧H'=[]
theorem Gj_{x0:Dfa}{x1:List UInt8}(f0_0:RS σ 1 eI_ (.slice a0_0 x0.cls.length c0_0) x0.cls)(f0_1:RZ σ (pkSl 1 eI_ eIl_) (.slice a0_1 x0.next.length c0_1) x0.next)(f0_2:RS σ 1 encB (.slice a0_2 x0.fin.length c0_2) x0.fin){r:Fst×Int}(hh:Dx_ x0 x1=some r):
  Con Tryz.prog 29 #[.agg #[.slice a0_0 x0.cls.length c0_0,.slice a0_1 x0.next.length c0_1,.slice a0_2 x0.fin.length c0_2],.string (bs x1)] σ [] (Hs_ σ r):=by
 dsimp only [Dx_]at hh
 have f0_0b:=f0_0.rv.big
 have f0_1b:=f0_1.big
 have f0_2b:=f0_2.rv.big
 refine Con.mk (n:=19) Tryz.func29 z z z (fun w0=> ?_)
 have x1b:=grd_c hh
 replace hh:=grd_t hh
 refine TC.a (TL.op z (boxA z z z z (fun b101=> ?_)))
 refine TL.op z (OpOk.alloc z ze25 z z (fun b103=> ?_))
 refine TL.i z z (TL.en (TC.seq (TC.a (TL.w z (loadAll z ag50 sz50 z (i:=1) z z) ?_))))
 obtain ⟨v5,u5,hh⟩:=bnd_e hh
 refine TL.op z (callP (Gl_ (x0:=x0) f0_0 f0_1 f0_2 u5) z z pf48 z z z ?_)
 refine TL.w z (OpVal.neq z z z) (TL.en (TC.cD z hh (fun h105 hh=> ?_) (fun h105 hh=> ?_)))
 ·refine TC.a (TL.w z (buildL z pl25 ze25 z) (TL.op z (storeAll z sz25 z z z z z z ?_)))
  refine TL.i z z (TL.en (TC.rt 1 (S.r ?_)))
  obtain rfl:=so hh
  exact ro [] z (RVs.agg ag25 sz25 z (i:=0) z z (RVs.tmp z RVs.nil)) ⟨none,0,none,0,none,0,z,(RS.nilF _ encTip encTip_len),(RS.nilF _ encTip encTip_len),(RS.nilF _ encArc encArc_len),z⟩
 refine TC.skip (S.n (TC.seq (TC.a (TL.w z (moveStr (.inl z) z) (TL.w z (lenBs z underlying9 z) (TL.w z (OpVal.gtr z z z) (TL.en (TC.cD z hh (fun h106 hh=> ?_) (fun h106 hh=> ?_)))))))))
 ·refine TC.a (TL.w z (buildL z pl25 ze25 z) (TL.op z (storeAll z sz25 z z z z z z ?_)))
  refine TL.i z z (TL.en (TC.rt 1 (S.r ?_)))
  obtain rfl:=so hh
  exact ro [] z (RVs.agg ag25 sz25 z (i:=0) z z (RVs.tmp z RVs.nil)) ⟨none,0,none,0,none,0,z,(RS.nilF _ encTip encTip_len),(RS.nilF _ encTip encTip_len),(RS.nilF _ encArc encArc_len),z⟩
 refine TC.skip (S.n (TC.a (TL.w z (loadAll z ag50 sz50 z (i:=1) z z) (TL.w z (moveStr (.inl z) z) ?_))))
 obtain ⟨v18,u18,hh⟩:=bnd_e hh
 refine TL.op z (OpOk.call (Hj_ (x0:=x0) f0_0 f0_1 f0_2 u18) z z pf49 z z z z ?_)
 rintro _ τ107 _ hle107 ⟨a107_1,c107_1,a107_2,c107_2,a107_3,c107_3,rfl,hr107_0,hr107_1,hr107_2,rfl⟩
 have hr107_0b:=hr107_0.rv.big
 have hr107_1b:=hr107_1.rv.big
 have hr107_2b:=hr107_2.rv.big
 refine TL.w z (OpVal.extract z z z) (TL.w z (OpVal.extract z z z) (TL.op z (storeAll z sz25 z z z z z z ?_)))
 refine TL.i z z (TL.en (TC.rt 1 ?_))
 obtain rfl:=so hh
 exact ro [] z (RVs.agg ag25 sz25 z (i:=0) z z (RVs.tmp z RVs.nil)) ⟨a107_1,c107_1,a107_2,c107_2,a107_3,c107_3,z,hr107_0,hr107_1,hr107_2,z⟩
end Go.Proofs.YtamgjehhjkgelaaGreatDoor
end

noncomputable section
namespace Go.Proofs.YtamgjehhjkgelaaGreatDoor
open Go Go.Shelf
def layS_ren:Go.Shelf.Ren:=⟨fun|6=>64|15=>100|14=>99|28=>120|29=>121|20=>112|21=>113|22=>114|23=>115|24=>116|25=>117|26=>118|27=>119|46=>142|47=>143|48=>144|49=>145|50=>146|57=>162|n=>n,fun|22=>31|24=>9|25=>89|3=>3|39=>176|0=>0|53=>195|55=>53|4=>4|46=>189|45=>188|50=>145|5=>5|9=>9|66=>211|70=>215|76=>226|77=>227|n=>n,fun|n=>n⟩
theorem layS:Go.Proofs.SlLaysF.n6 Tryz.prog layS_ren:={
  mixed:=by kernel_rfl,
  f6:=⟨Tryz.f64.name,by decide,Tryz.func64.trans (congrArg some (by kernel_rfl))⟩,
  f14:=⟨Tryz.f99.name,by decide,Tryz.func99.trans (congrArg some (by kernel_rfl))⟩,
  f15:=Tryz.func100.trans (congrArg some (by kernel_rfl)),
  f20:=⟨Tryz.f112.name,by decide,Tryz.func112.trans (congrArg some (by kernel_rfl))⟩,
  f21:=⟨Tryz.f113.name,by decide,Tryz.func113.trans (congrArg some (by kernel_rfl))⟩,
  f22:=⟨Tryz.f114.name,by decide,Tryz.func114.trans (congrArg some (by kernel_rfl))⟩,
  f23:=⟨Tryz.f115.name,by decide,Tryz.func115.trans (congrArg some (by kernel_rfl))⟩,
  f24:=⟨Tryz.f116.name,by decide,Tryz.func116.trans (congrArg some (by kernel_rfl))⟩,
  f25:=⟨Tryz.f117.name,by decide,Tryz.func117.trans (congrArg some (by kernel_rfl))⟩,
  f26:=⟨Tryz.f118.name,by decide,Tryz.func118.trans (congrArg some (by kernel_rfl))⟩,
  f27:=⟨Tryz.f119.name,by decide,Tryz.func119.trans (congrArg some (by kernel_rfl))⟩,
  f28:=Tryz.func120.trans (congrArg some (by kernel_rfl)),
  f29:=Tryz.func121.trans (congrArg some (by kernel_rfl)),
  f46:=⟨Tryz.f142.name,by decide,Tryz.func142.trans (congrArg some (by kernel_rfl))⟩,
  f47:=Tryz.func143.trans (congrArg some (by kernel_rfl)),
  f48:=Tryz.func144.trans (congrArg some (by kernel_rfl)),
  f49:=⟨Tryz.f145.name,by decide,Tryz.func145.trans (congrArg some (by kernel_rfl))⟩,
  f50:=⟨Tryz.f146.name,by decide,Tryz.func146.trans (congrArg some (by kernel_rfl))⟩,
  f57:=⟨Tryz.f162.name,by decide,Tryz.func162.trans (congrArg some (by kernel_rfl))⟩,
  t0:=Tryz.underlying0,
  a0:=Tryz.isAgg0,
  z0:=Tryz.sizeOf0,
  v0:=Tryz.zeroValue0,
  t3:=Tryz.underlying3,
  a3:=Tryz.isAgg3,
  z3:=Tryz.sizeOf3,
  v3:=Tryz.zeroValue3,
  t4:=Tryz.underlying4,
  a4:=Tryz.isAgg4,
  z4:=Tryz.sizeOf4,
  v4:=Tryz.zeroValue4,
  t5:=Tryz.underlying5,
  a5:=Tryz.isAgg5,
  z5:=Tryz.sizeOf5,
  v5:=Tryz.zeroValue5,
  t9:=Tryz.underlying9,
  a9:=Tryz.isAgg9,
  z9:=Tryz.sizeOf9,
  v9:=Tryz.zeroValue9,
  t22:=Tryz.underlying31,
  a22:=Tryz.isAgg31,
  z22:=Tryz.sizeOf31,
  v22:=Tryz.zeroValue31,
  a24:=Tryz.isAgg9,
  z24:=Tryz.sizeOf9,
  t25:=Tryz.underlying89,
  a25:=Tryz.isAgg89,
  z25:=Tryz.sizeOf89,
  v25:=Tryz.zeroValue89,
  t39:=Tryz.underlying176,
  a39:=Tryz.isAgg176,
  z39:=Tryz.sizeOf176,
  v39:=Tryz.zeroValue176,
  t45:=Tryz.underlying188,
  a45:=Tryz.isAgg188,
  z45:=Tryz.sizeOf188,
  v45:=Tryz.zeroValue188,
  t46:=Tryz.underlying189,
  a46:=Tryz.isAgg189,
  z46:=Tryz.sizeOf189,
  v46:=Tryz.zeroValue189,
  t50:=Tryz.underlying145,
  a50:=Tryz.isAgg145,
  z50:=Tryz.sizeOf145,
  v50:=Tryz.zeroValue145,
  t53:=Tryz.underlying195,
  a53:=Tryz.isAgg195,
  z53:=Tryz.sizeOf195,
  v53:=Tryz.zeroValue195,
  t55:=Tryz.underlying53,
  a55:=Tryz.isAgg53,
  z55:=Tryz.sizeOf53,
  v55:=Tryz.zeroValue53,
  t66:=Tryz.underlying211,
  a66:=Tryz.isAgg211,
  z66:=Tryz.sizeOf211,
  v66:=Tryz.zeroValue211,
  t70:=Tryz.underlying215,
  a70:=Tryz.isAgg215,
  z70:=Tryz.sizeOf215,
  v70:=Tryz.zeroValue215,
  t76:=Tryz.underlying226,
  a76:=Tryz.isAgg226,
  z76:=Tryz.sizeOf226,
  v76:=Tryz.zeroValue226,
  t77:=Tryz.underlying227,
  a77:=Tryz.isAgg227,
  z77:=Tryz.sizeOf227,
  v77:=Tryz.zeroValue227}
def layS0_ren:Go.Shelf.Ren:=⟨fun|6=>64|15=>100|14=>99|28=>120|29=>121|20=>112|21=>113|22=>114|23=>115|24=>116|25=>117|26=>118|27=>119|46=>142|47=>143|48=>144|49=>145|50=>146|57=>162|n=>n,fun|22=>31|24=>9|25=>89|3=>3|39=>176|0=>0|53=>195|55=>53|4=>4|46=>189|45=>188|50=>145|5=>5|9=>9|66=>211|70=>215|76=>226|77=>227|n=>n,fun|n=>n⟩
theorem layS0:Go.Proofs.SlLaysF0.n6 Tryz.prog layS0_ren:={
  mixed:=by kernel_rfl,
  f6:=⟨Tryz.f64.name,by decide,Tryz.func64.trans (congrArg some (by kernel_rfl))⟩,
  f14:=⟨Tryz.f99.name,by decide,Tryz.func99.trans (congrArg some (by kernel_rfl))⟩,
  f15:=Tryz.func100.trans (congrArg some (by kernel_rfl)),
  f20:=⟨Tryz.f112.name,by decide,Tryz.func112.trans (congrArg some (by kernel_rfl))⟩,
  f21:=⟨Tryz.f113.name,by decide,Tryz.func113.trans (congrArg some (by kernel_rfl))⟩,
  f22:=⟨Tryz.f114.name,by decide,Tryz.func114.trans (congrArg some (by kernel_rfl))⟩,
  f23:=⟨Tryz.f115.name,by decide,Tryz.func115.trans (congrArg some (by kernel_rfl))⟩,
  f24:=⟨Tryz.f116.name,by decide,Tryz.func116.trans (congrArg some (by kernel_rfl))⟩,
  f25:=⟨Tryz.f117.name,by decide,Tryz.func117.trans (congrArg some (by kernel_rfl))⟩,
  f26:=⟨Tryz.f118.name,by decide,Tryz.func118.trans (congrArg some (by kernel_rfl))⟩,
  f27:=⟨Tryz.f119.name,by decide,Tryz.func119.trans (congrArg some (by kernel_rfl))⟩,
  f28:=Tryz.func120.trans (congrArg some (by kernel_rfl)),
  f29:=Tryz.func121.trans (congrArg some (by kernel_rfl)),
  f46:=⟨Tryz.f142.name,by decide,Tryz.func142.trans (congrArg some (by kernel_rfl))⟩,
  f47:=Tryz.func143.trans (congrArg some (by kernel_rfl)),
  f48:=Tryz.func144.trans (congrArg some (by kernel_rfl)),
  f49:=⟨Tryz.f145.name,by decide,Tryz.func145.trans (congrArg some (by kernel_rfl))⟩,
  f50:=⟨Tryz.f146.name,by decide,Tryz.func146.trans (congrArg some (by kernel_rfl))⟩,
  f57:=⟨Tryz.f162.name,by decide,Tryz.func162.trans (congrArg some (by kernel_rfl))⟩,
  t0:=Tryz.underlying0,
  a0:=Tryz.isAgg0,
  z0:=Tryz.sizeOf0,
  v0:=Tryz.zeroValue0,
  t3:=Tryz.underlying3,
  a3:=Tryz.isAgg3,
  z3:=Tryz.sizeOf3,
  v3:=Tryz.zeroValue3,
  t4:=Tryz.underlying4,
  a4:=Tryz.isAgg4,
  z4:=Tryz.sizeOf4,
  v4:=Tryz.zeroValue4,
  t5:=Tryz.underlying5,
  a5:=Tryz.isAgg5,
  z5:=Tryz.sizeOf5,
  v5:=Tryz.zeroValue5,
  t9:=Tryz.underlying9,
  a9:=Tryz.isAgg9,
  z9:=Tryz.sizeOf9,
  v9:=Tryz.zeroValue9,
  t22:=Tryz.underlying31,
  a22:=Tryz.isAgg31,
  z22:=Tryz.sizeOf31,
  v22:=Tryz.zeroValue31,
  t25:=Tryz.underlying89,
  a25:=Tryz.isAgg89,
  z25:=Tryz.sizeOf89,
  v25:=Tryz.zeroValue89,
  t39:=Tryz.underlying176,
  a39:=Tryz.isAgg176,
  z39:=Tryz.sizeOf176,
  v39:=Tryz.zeroValue176,
  t45:=Tryz.underlying188,
  a45:=Tryz.isAgg188,
  z45:=Tryz.sizeOf188,
  v45:=Tryz.zeroValue188,
  t46:=Tryz.underlying189,
  a46:=Tryz.isAgg189,
  z46:=Tryz.sizeOf189,
  v46:=Tryz.zeroValue189,
  t50:=Tryz.underlying145,
  a50:=Tryz.isAgg145,
  z50:=Tryz.sizeOf145,
  v50:=Tryz.zeroValue145,
  t53:=Tryz.underlying195,
  a53:=Tryz.isAgg195,
  z53:=Tryz.sizeOf195,
  v53:=Tryz.zeroValue195,
  t55:=Tryz.underlying53,
  a55:=Tryz.isAgg53,
  z55:=Tryz.sizeOf53,
  v55:=Tryz.zeroValue53,
  t66:=Tryz.underlying211,
  a66:=Tryz.isAgg211,
  z66:=Tryz.sizeOf211,
  v66:=Tryz.zeroValue211,
  t70:=Tryz.underlying215,
  a70:=Tryz.isAgg215,
  z70:=Tryz.sizeOf215,
  v70:=Tryz.zeroValue215,
  t76:=Tryz.underlying226,
  a76:=Tryz.isAgg226,
  z76:=Tryz.sizeOf226,
  v76:=Tryz.zeroValue226,
  t77:=Tryz.underlying227,
  a77:=Tryz.isAgg227,
  z77:=Tryz.sizeOf227,
  v77:=Tryz.zeroValue227}
def layT0_ren:Go.Shelf.Ren:=⟨fun|6=>68|15=>100|14=>103|28=>120|29=>121|20=>123|21=>124|22=>125|23=>126|24=>127|25=>128|26=>129|27=>130|46=>147|47=>143|48=>144|49=>148|50=>149|57=>163|n=>n,fun|22=>22|24=>43|25=>127|3=>3|39=>176|0=>0|53=>195|55=>53|4=>4|46=>189|45=>188|50=>145|5=>5|9=>9|66=>211|70=>215|76=>226|77=>227|n=>n,fun|n=>n⟩
theorem layT0:Go.Proofs.SlLaysF0.n6 Tryz.prog layT0_ren:={
  mixed:=by kernel_rfl,
  f6:=⟨Tryz.f68.name,by decide,Tryz.func68.trans (congrArg some (by kernel_rfl))⟩,
  f14:=⟨Tryz.f103.name,by decide,Tryz.func103.trans (congrArg some (by kernel_rfl))⟩,
  f15:=Tryz.func100.trans (congrArg some (by kernel_rfl)),
  f20:=⟨Tryz.f123.name,by decide,Tryz.func123.trans (congrArg some (by kernel_rfl))⟩,
  f21:=⟨Tryz.f124.name,by decide,Tryz.func124.trans (congrArg some (by kernel_rfl))⟩,
  f22:=⟨Tryz.f125.name,by decide,Tryz.func125.trans (congrArg some (by kernel_rfl))⟩,
  f23:=⟨Tryz.f126.name,by decide,Tryz.func126.trans (congrArg some (by kernel_rfl))⟩,
  f24:=⟨Tryz.f127.name,by decide,Tryz.func127.trans (congrArg some (by kernel_rfl))⟩,
  f25:=⟨Tryz.f128.name,by decide,Tryz.func128.trans (congrArg some (by kernel_rfl))⟩,
  f26:=⟨Tryz.f129.name,by decide,Tryz.func129.trans (congrArg some (by kernel_rfl))⟩,
  f27:=⟨Tryz.f130.name,by decide,Tryz.func130.trans (congrArg some (by kernel_rfl))⟩,
  f28:=Tryz.func120.trans (congrArg some (by kernel_rfl)),
  f29:=Tryz.func121.trans (congrArg some (by kernel_rfl)),
  f46:=⟨Tryz.f147.name,by decide,Tryz.func147.trans (congrArg some (by kernel_rfl))⟩,
  f47:=Tryz.func143.trans (congrArg some (by kernel_rfl)),
  f48:=Tryz.func144.trans (congrArg some (by kernel_rfl)),
  f49:=⟨Tryz.f148.name,by decide,Tryz.func148.trans (congrArg some (by kernel_rfl))⟩,
  f50:=⟨Tryz.f149.name,by decide,Tryz.func149.trans (congrArg some (by kernel_rfl))⟩,
  f57:=⟨Tryz.f163.name,by decide,Tryz.func163.trans (congrArg some (by kernel_rfl))⟩,
  t0:=Tryz.underlying0,
  a0:=Tryz.isAgg0,
  z0:=Tryz.sizeOf0,
  v0:=Tryz.zeroValue0,
  t3:=Tryz.underlying3,
  a3:=Tryz.isAgg3,
  z3:=Tryz.sizeOf3,
  v3:=Tryz.zeroValue3,
  t4:=Tryz.underlying4,
  a4:=Tryz.isAgg4,
  z4:=Tryz.sizeOf4,
  v4:=Tryz.zeroValue4,
  t5:=Tryz.underlying5,
  a5:=Tryz.isAgg5,
  z5:=Tryz.sizeOf5,
  v5:=Tryz.zeroValue5,
  t9:=Tryz.underlying9,
  a9:=Tryz.isAgg9,
  z9:=Tryz.sizeOf9,
  v9:=Tryz.zeroValue9,
  t22:=Tryz.underlying22,
  a22:=Tryz.isAgg22,
  z22:=Tryz.sizeOf22,
  v22:=Tryz.zeroValue22,
  t25:=Tryz.underlying127,
  a25:=Tryz.isAgg127,
  z25:=Tryz.sizeOf127,
  v25:=Tryz.zeroValue127,
  t39:=Tryz.underlying176,
  a39:=Tryz.isAgg176,
  z39:=Tryz.sizeOf176,
  v39:=Tryz.zeroValue176,
  t45:=Tryz.underlying188,
  a45:=Tryz.isAgg188,
  z45:=Tryz.sizeOf188,
  v45:=Tryz.zeroValue188,
  t46:=Tryz.underlying189,
  a46:=Tryz.isAgg189,
  z46:=Tryz.sizeOf189,
  v46:=Tryz.zeroValue189,
  t50:=Tryz.underlying145,
  a50:=Tryz.isAgg145,
  z50:=Tryz.sizeOf145,
  v50:=Tryz.zeroValue145,
  t53:=Tryz.underlying195,
  a53:=Tryz.isAgg195,
  z53:=Tryz.sizeOf195,
  v53:=Tryz.zeroValue195,
  t55:=Tryz.underlying53,
  a55:=Tryz.isAgg53,
  z55:=Tryz.sizeOf53,
  v55:=Tryz.zeroValue53,
  t66:=Tryz.underlying211,
  a66:=Tryz.isAgg211,
  z66:=Tryz.sizeOf211,
  v66:=Tryz.zeroValue211,
  t70:=Tryz.underlying215,
  a70:=Tryz.isAgg215,
  z70:=Tryz.sizeOf215,
  v70:=Tryz.zeroValue215,
  t76:=Tryz.underlying226,
  a76:=Tryz.isAgg226,
  z76:=Tryz.sizeOf226,
  v76:=Tryz.zeroValue226,
  t77:=Tryz.underlying227,
  a77:=Tryz.isAgg227,
  z77:=Tryz.sizeOf227,
  v77:=Tryz.zeroValue227}
def layA0_ren:Go.Shelf.Ren:=⟨fun|6=>95|15=>100|14=>110|28=>120|29=>121|20=>133|21=>134|22=>135|23=>136|24=>137|25=>138|26=>139|27=>140|46=>159|47=>143|48=>144|49=>160|50=>161|57=>167|n=>n,fun|22=>23|24=>66|25=>129|3=>3|39=>176|0=>0|53=>195|55=>53|4=>4|46=>189|45=>188|50=>145|5=>5|9=>9|66=>211|70=>215|76=>226|77=>227|n=>n,fun|n=>n⟩
theorem layA0:Go.Proofs.SlLaysF0.n6 Tryz.prog layA0_ren:={
  mixed:=by kernel_rfl,
  f6:=⟨Tryz.f95.name,by decide,Tryz.func95.trans (congrArg some (by kernel_rfl))⟩,
  f14:=⟨Tryz.f110.name,by decide,Tryz.func110.trans (congrArg some (by kernel_rfl))⟩,
  f15:=Tryz.func100.trans (congrArg some (by kernel_rfl)),
  f20:=⟨Tryz.f133.name,by decide,Tryz.func133.trans (congrArg some (by kernel_rfl))⟩,
  f21:=⟨Tryz.f134.name,by decide,Tryz.func134.trans (congrArg some (by kernel_rfl))⟩,
  f22:=⟨Tryz.f135.name,by decide,Tryz.func135.trans (congrArg some (by kernel_rfl))⟩,
  f23:=⟨Tryz.f136.name,by decide,Tryz.func136.trans (congrArg some (by kernel_rfl))⟩,
  f24:=⟨Tryz.f137.name,by decide,Tryz.func137.trans (congrArg some (by kernel_rfl))⟩,
  f25:=⟨Tryz.f138.name,by decide,Tryz.func138.trans (congrArg some (by kernel_rfl))⟩,
  f26:=⟨Tryz.f139.name,by decide,Tryz.func139.trans (congrArg some (by kernel_rfl))⟩,
  f27:=⟨Tryz.f140.name,by decide,Tryz.func140.trans (congrArg some (by kernel_rfl))⟩,
  f28:=Tryz.func120.trans (congrArg some (by kernel_rfl)),
  f29:=Tryz.func121.trans (congrArg some (by kernel_rfl)),
  f46:=⟨Tryz.f159.name,by decide,Tryz.func159.trans (congrArg some (by kernel_rfl))⟩,
  f47:=Tryz.func143.trans (congrArg some (by kernel_rfl)),
  f48:=Tryz.func144.trans (congrArg some (by kernel_rfl)),
  f49:=⟨Tryz.f160.name,by decide,Tryz.func160.trans (congrArg some (by kernel_rfl))⟩,
  f50:=⟨Tryz.f161.name,by decide,Tryz.func161.trans (congrArg some (by kernel_rfl))⟩,
  f57:=⟨Tryz.f167.name,by decide,Tryz.func167.trans (congrArg some (by kernel_rfl))⟩,
  t0:=Tryz.underlying0,
  a0:=Tryz.isAgg0,
  z0:=Tryz.sizeOf0,
  v0:=Tryz.zeroValue0,
  t3:=Tryz.underlying3,
  a3:=Tryz.isAgg3,
  z3:=Tryz.sizeOf3,
  v3:=Tryz.zeroValue3,
  t4:=Tryz.underlying4,
  a4:=Tryz.isAgg4,
  z4:=Tryz.sizeOf4,
  v4:=Tryz.zeroValue4,
  t5:=Tryz.underlying5,
  a5:=Tryz.isAgg5,
  z5:=Tryz.sizeOf5,
  v5:=Tryz.zeroValue5,
  t9:=Tryz.underlying9,
  a9:=Tryz.isAgg9,
  z9:=Tryz.sizeOf9,
  v9:=Tryz.zeroValue9,
  t22:=Tryz.underlying23,
  a22:=Tryz.isAgg23,
  z22:=Tryz.sizeOf23,
  v22:=Tryz.zeroValue23,
  t25:=Tryz.underlying129,
  a25:=Tryz.isAgg129,
  z25:=Tryz.sizeOf129,
  v25:=Tryz.zeroValue129,
  t39:=Tryz.underlying176,
  a39:=Tryz.isAgg176,
  z39:=Tryz.sizeOf176,
  v39:=Tryz.zeroValue176,
  t45:=Tryz.underlying188,
  a45:=Tryz.isAgg188,
  z45:=Tryz.sizeOf188,
  v45:=Tryz.zeroValue188,
  t46:=Tryz.underlying189,
  a46:=Tryz.isAgg189,
  z46:=Tryz.sizeOf189,
  v46:=Tryz.zeroValue189,
  t50:=Tryz.underlying145,
  a50:=Tryz.isAgg145,
  z50:=Tryz.sizeOf145,
  v50:=Tryz.zeroValue145,
  t53:=Tryz.underlying195,
  a53:=Tryz.isAgg195,
  z53:=Tryz.sizeOf195,
  v53:=Tryz.zeroValue195,
  t55:=Tryz.underlying53,
  a55:=Tryz.isAgg53,
  z55:=Tryz.sizeOf53,
  v55:=Tryz.zeroValue53,
  t66:=Tryz.underlying211,
  a66:=Tryz.isAgg211,
  z66:=Tryz.sizeOf211,
  v66:=Tryz.zeroValue211,
  t70:=Tryz.underlying215,
  a70:=Tryz.isAgg215,
  z70:=Tryz.sizeOf215,
  v70:=Tryz.zeroValue215,
  t76:=Tryz.underlying226,
  a76:=Tryz.isAgg226,
  z76:=Tryz.sizeOf226,
  v76:=Tryz.zeroValue226,
  t77:=Tryz.underlying227,
  a77:=Tryz.isAgg227,
  z77:=Tryz.sizeOf227,
  v77:=Tryz.zeroValue227}
end Go.Proofs.YtamgjehhjkgelaaGreatDoor
end

noncomputable section
namespace Go.Proofs.YtamgjehhjkgelaaGreatDoor
open Go Go.E Go.E.OpVal Go.E.OpOk Go.Proofs.Tryz
theorem pf111:plainF Tryz.prog 111=true:=by kernel_rfl
theorem pf141:plainF Tryz.prog 141=true:=by kernel_rfl
theorem pf32:plainF Tryz.prog 32=true:=by kernel_rfl
theorem pf66:plainF Tryz.prog 66=true:=by kernel_rfl
theorem pf92:plainF Tryz.prog 92=true:=by kernel_rfl
theorem pf93:plainF Tryz.prog 93=true:=by kernel_rfl
theorem pf97:plainF Tryz.prog 97=true:=by kernel_rfl
theorem pf98:plainF Tryz.prog 98=true:=by kernel_rfl
def A8_(x0:List UInt8)(x1:List UInt8):Option (Int):=
 some (Lib.compareBytes x0 x1)
theorem Di_{x0:List UInt8}{x1:List UInt8}{r:Int}(hh:A8_ x0 x1=some r):
  Con Tryz.prog 66 #[.string (bs x0),.string (bs x1)] σ [] (PureP (.int .i64 r) σ):=by
 dsimp only [A8_]at hh
 refine Con.mk (n:=8) Tryz.func66 z z z (fun w0=> ?_)
 refine TC.a (TL.i z z (TL.en (TC.a (TL.w z (moveStr (.inl z) z) (TL.w z (moveStr (.inl z) z) (TL.w z (cmpStr z z Tryz.func101 (by kernel_rfl) (by kernel_rfl) (by kernel_rfl) (by kernel_rfl) z z) (TL.i z z (TL.en (TC.ret ?_)))))))))
 obtain rfl:=so hh
 exact rq [4] ⟨z,z,z⟩
def Ce_(x0:List UInt8)(x1:List UInt8):Option (Int):=
 bnd (A8_ x0 x1) (fun v4=>some v4)
theorem C4_{x0:List UInt8}{x1:List UInt8}{r:Int}(hh:Ce_ x0 x1=some r):
  Con Tryz.prog 32 #[.string (bs x0),.string (bs x1)] σ [] (PureP (.int .i64 r) σ):=by
 dsimp only [Ce_]at hh
 refine Con.mk (n:=8) Tryz.func32 z z z (fun w0=> ?_)
 refine TC.a (TL.i z z (TL.en (TC.a (TL.w z (moveStr (.inl z) z) (TL.w z (moveStr (.inl z) z) ?_)))))
 obtain ⟨v4,u4,hh⟩:=bnd_e hh
 refine TL.op z (callP (Di_ u4) z z pf66 z z z ?_)
 refine TL.i z z (TL.en (TC.ret ?_))
 obtain rfl:=so hh
 exact rq [4] ⟨z,z,z⟩
def isNaNU(x0:Nat):Option (Bool):=
 some (decide (x0≠x0))
theorem isNaNU_con{x0:Nat}{r:Bool}(hh:isNaNU x0=some r):
  Con Tryz.prog 141 #[.int .u64 ((x0:Nat):Int)] σ [] (PureP (.bool r) σ):=by
 dsimp only [isNaNU]at hh
 refine Con.mk (n:=6) Tryz.func141 z z z (fun w0=> ?_)
 refine TC.a (TL.j z z (TL.en (TC.a (TL.i z z (TL.i z z (TL.w z (neqU z z z) (TL.j z z (TL.en (TC.ret ?_)))))))))
 obtain rfl:=so hh
 exact rq [2] ⟨z,z,z⟩
def compareU(x0:Nat)(x1:Nat):Option (Int):=
 bnd (isNaNU x0) (fun v3=>bnd (isNaNU x1) (fun v6=>iteO v3 (iteO v6 (some 0) (some (-1))) (iteO v6 (some 1) (iteO (decide (x0<x1)) (some (-1)) (iteO (decide (x1<x0)) (some 1) (some 0))))))
theorem compareU_con{x0:Nat}{x1:Nat}{r:Int}(hh:compareU x0 x1=some r):
  Con Tryz.prog 111 #[.int .u64 ((x0:Nat):Int),.int .u64 ((x1:Nat):Int)] σ [] (PureP (.int .i64 r) σ):=by
 dsimp only [compareU]at hh
 refine Con.mk (n:=20) Tryz.func111 z z z (fun w0=> ?_)
 refine TC.a (TL.i z z (TL.en (TC.a (TL.i z z ?_))))
 obtain ⟨v3,u3,hh⟩:=bnd_e hh
 refine TL.op z (callP (isNaNU_con u3) z z pf141 z z z ?_)
 refine TL.j z z (TL.en (TC.a (TL.i z z ?_)))
 obtain ⟨v6,u6,hh⟩:=bnd_e hh
 refine TL.op z (callP (isNaNU_con u6) z z pf141 z z z ?_)
 refine TL.j z z (TL.en (TC.seq (TC.a (TL.j z z (TL.en (TC.cB z hh (fun h101 hh=> ?_) (fun h101 hh=> ?_)))))))
 ·refine TC.seq (TC.a (TL.j z z (TL.en (TC.cB z hh (fun h102 hh=> ?_) (fun h102 hh=> ?_)))))
  ·refine TC.a (TL.i z z (TL.en (TC.ret (S.r (S.r ?_)))))
   obtain rfl:=so hh
   exact rq [4] ⟨z,z,z⟩
  refine TC.skip (S.n (TC.a (TL.i z z (TL.en (TC.ret (S.r ?_))))))
  obtain rfl:=so hh
  exact rq [4] ⟨z,z,z⟩
 refine TC.skip (S.n (TC.seq (TC.a (TL.j z z (TL.en (TC.cB z hh (fun h103 hh=> ?_) (fun h103 hh=> ?_)))))))
 ·refine TC.a (TL.i z z (TL.en (TC.ret (S.r ?_))))
  obtain rfl:=so hh
  exact rq [4] ⟨z,z,z⟩
 refine TC.skip (S.n (TC.seq (TC.a (TL.i z z (TL.i z z (TL.w z (lssU z z z) (TL.en (TC.cD z hh (fun h104 hh=> ?_) (fun h104 hh=> ?_)))))))))
 ·refine TC.a (TL.i z z (TL.en (TC.ret (S.r ?_))))
  obtain rfl:=so hh
  exact rq [4] ⟨z,z,z⟩
 refine TC.skip (S.n (TC.seq (TC.a (TL.i z z (TL.i z z (TL.w z (gtrU z z z) (TL.en (TC.cD z hh (fun h105 hh=> ?_) (fun h105 hh=> ?_)))))))))
 ·refine TC.a (TL.i z z (TL.en (TC.ret (S.r ?_))))
  obtain rfl:=so hh
  exact rq [4] ⟨z,z,z⟩
 refine TC.skip (S.n (TC.a (TL.i z z (TL.en (TC.ret ?_)))))
 obtain rfl:=so hh
 exact rq [4] ⟨z,z,z⟩
def D5_(x0:Bool):Option (Int):=
 iteO x0 (some 1) (some 0)
theorem Ga_{x0:Bool}{r:Int}(hh:D5_ x0=some r):
  Con Tryz.prog 98 #[.bool x0] σ [] (PureP (.int .i64 r) σ):=by
 dsimp only [D5_]at hh
 refine Con.mk (n:=4) Tryz.func98 z z z (fun w0=> ?_)
 refine TC.a (TL.i z z (TL.en (TC.seq (TC.a (TL.j z z (TL.en (TC.cB z hh (fun h101 hh=> ?_) (fun h101 hh=> ?_))))))))
 ·refine TC.a (TL.i z z (TL.en (TC.ret (S.r ?_))))
  obtain rfl:=so hh
  exact rq [2] ⟨z,z,z⟩
 refine TC.skip (S.n (TC.a (TL.i z z (TL.en (TC.ret ?_)))))
 obtain rfl:=so hh
 exact rq [2] ⟨z,z,z⟩
def Cm_(x0:List Int)(k103:Nat):Option ((Nat)⊕(Int)):=
 iteO (decide (((k103:Nat):Int)<((x0.length:Nat):Int))) (iteO (decide ((nth x0 k103 (0:Int))≠0)) (fin (some (nth x0 k103 (0:Int)))) (nxt (k103+1))) (fin (some 0))
def Fl_(x0:List Int):Option (Int):=
 iter (fun q:Nat=>Cm_ x0 q) 0
theorem Gi_{x0:List Int}(f0_0:RS σ 1 eI_ (.slice a0_0 x0.length c0_0) x0){r:Int}(hh:Fl_ x0=some r):
  Con Tryz.prog 92 #[.slice a0_0 x0.length c0_0] σ [] (PureP (.int .i64 r) σ):=by
 dsimp only [Fl_]at hh
 have f0_0b:=f0_0.rv.big
 refine Con.mk (n:=18) Tryz.func92 z z z (fun w0=> ?_)
 refine TC.a (TL.i z z (TL.en (TC.a (TL.i z z (TL.en (TC.seq (TC.a (TL.s z z (TL.w z (lenC z underlying46 z) (TL.i z z (TL.en (TC.block (TC.loopG (α:=(Nat)×(Unit)) (rgs [(2,1),(5,1),(8,9)]) (fun g=>[(8,.int .i64 ((g.1:Nat):Int))]) (fun g=>[]) (fun g=>σ) (fun g=>iter (fun q:Nat=>Cm_ x0 q) g.1=some r) (fun g=>rounds (fun q:Nat=>Cm_ x0 q) g.1) (0,()) (Sub.pre 0 z) z (by repeat (first|exact trivial|refine ⟨z,?_⟩)) hh (fun g1 j1 hg1=> ?_))))))))))))))
 obtain ⟨k103,_⟩:=g1
 have hh:=hg1;clear hg1
 try dsimp only
 obtain ⟨z1,hh,hR1⟩:=iter_e hh
 dsimp only [Cm_]at hh
 refine TC.a (TL.w z (OpVal.lss z z z) (TL.en (TC.seq (TC.cD z hh (fun h104 hh=> ?_) (fun h104 hh=> ?_)))))
 ·refine TC.skip (S.n (TC.seq (TC.block (TC.a (TL.w z (indexN z underlying46 sz3 z z f0_0.rv.sl (by omega)) (TL.w z (loadS1 (0:Int) z ag3 z f0_0 (by omega) z) (TL.i z z (TL.en (TC.a (TL.i z z (TL.i z z (TL.w z (OpVal.neq z z z) (TL.en (TC.cD z hh (fun h105 hh=> ?_) (fun h105 hh=> ?_)))))))))))))))
  ·refine TC.a (TL.i z z (TL.i z z (TL.en (TC.ret (B.r (S.r (S.r ?_)))))))
   replace hh:=fin_x hR1 hh
   refine B.r (S.r ?_)
   obtain rfl:=so hh
   exact rq [2] ⟨z,z,z⟩
  refine TC.skip (B.n (S.n (TC.region (TL.w z (OpVal.succ z z z (by omega)) (TL.i z z (TL.en ?_))))))
  obtain ⟨hh,hlt106⟩:=nxt_x hR1 hh
  exact lf ((k103+1),()) hlt106 hh (Sub.pre 0 z)
 refine TC.exit (S.x (S.x ?_))
 replace hh:=fin_x hR1 hh
 refine TC.exitHere (S.n (TC.a (TL.i z z (TL.i z z (TL.en (TC.ret ?_))))))
 obtain rfl:=so hh
 exact rq [2] ⟨z,z,z⟩
def Da_(x0:Tip)(x1:Tip):Option (Int):=
 bnd (Bd_ x0.state x1.state) (fun v8=>bnd (Ce_ x0.out x1.out) (fun v13=>bnd (Fl_ [v8,v13]) (fun v15=>some v15)))
theorem Gp_{x0:Tip}{x1:Tip}{r:Int}(hh:Da_ x0 x1=some r):
  Con Tryz.prog 58 #[.agg #[.int .i64 x0.state,.string (bs x0.out)],.agg #[.int .i64 x1.state,.string (bs x1.out)]] σ [] (PureP (.int .i64 r) σ):=by
 dsimp only [Da_]at hh
 refine Con.mk (n:=17) Tryz.func58 z z z (fun w0=> ?_)
 refine TC.a (TL.op z (boxA z z z z (fun b101=> ?_)))
 refine TL.op z (boxA z z z z (fun b103=> ?_))
 refine TL.i z z (TL.en (TC.seq ?_))
 obtain ⟨v8,u8,hh⟩:=bnd_e hh
 obtain ⟨v13,u13,hh⟩:=bnd_e hh
 obtain ⟨v15,u15,hh⟩:=bnd_e hh
 refine TC.draw [] (by kernel_rfl) (TA.a 0 z (fieldLoc z fo43_0 z) z (TA.b 1 z (loadLoc z ag3 z (i:=1) z z) z (TA.a 2 z (fieldLoc z fo43_0 z) z (TA.b 3 z (loadLoc z ag3 z (i:=0) z z) z (TA.a 5 z (fieldLoc z fo43_1 z) z (TA.b 6 z (loadLoc z ag9 z (i:=1) z z) z (TA.a 7 z (fieldLoc z fo43_1 z) z (TA.b 8 z (loadLoc z ag9 z (i:=0) z z) z (TA.ac 4 z (callP (Cf_ u8) z z pf93 z z z (k0 ?_)))))))))))
 refine TA.ac 9 z (callP (C4_ u13) z z pf32 z z z (k0 ?_))
 refine TA.ac 10 z (OpOk.lit (enc:=eI_) [v8,v13] z underlying46 sz3 ze3 z z z eIl_ (by decide) (by decide) (0:Int) z (by decide) z (by decide) eIo_ (fun a110 c111=>(k1 ?_)))
 refine TA.ac 11 z (callK (Con.lend eIl_ (fun _ hle114 hr113=>Gi_ hr113 u15)) z z pf92 z z z z (k1 ?_))
 refine TA.a 12 z (moveI (.inr z) z) z (TA.dn (S.n (TC.rt 0 ?_)))
 obtain rfl:=so hh
 exact rq [4] ⟨z,z,z⟩
def compareUs_b1(x0:List Nat)(x1:List Nat)(k103:Nat):Option ((Nat)⊕(Int)):=
 iteO (decide (((k103:Nat):Int)<((x0.length:Nat):Int))) (iteO (decide (((x1.length:Nat):Int)≤((k103:Nat):Int))) (fin (some 1)) (grd (k103<x1.length) (bnd (compareU (nth x0 k103 (0:Nat)) (nth x1 k103 (0:Nat))) (fun v23=>iteO (decide (v23≠0)) (fin (some v23)) (nxt (k103+1)))))) (fin (iteO (decide (((x0.length:Nat):Int)<((x1.length:Nat):Int))) (some (-1)) (some 0)))
def compareUs(x0:List Nat)(x1:List Nat):Option (Int):=
 iter (fun q:Nat=>compareUs_b1 x0 x1 q) 0
theorem compareUs_con{x0:List Nat}{x1:List Nat}(f0_0:RS σ 1 encW (.slice a0_0 x0.length c0_0) x0)(f1_0:RS σ 1 encW (.slice a1_0 x1.length c1_0) x1){r:Int}(hh:compareUs x0 x1=some r):
  Con Tryz.prog 97 #[.slice a0_0 x0.length c0_0,.slice a1_0 x1.length c1_0] σ [] (PureP (.int .i64 r) σ):=by
 dsimp only [compareUs]at hh
 have f0_0b:=f0_0.rv.big
 have f1_0b:=f1_0.rv.big
 refine Con.mk (n:=36) Tryz.func97 z z z (fun w0=> ?_)
 refine TC.a (TL.i z z (TL.en (TC.seq (TC.a (TL.s z z (TL.w z (lenC z underlying172 z) (TL.i z z (TL.en (TC.block (TC.loopG (α:=(Nat)×(Unit)) (rgs [(4,5),(11,20)]) (fun g=>[(11,.int .i64 ((g.1:Nat):Int))]) (fun g=>[]) (fun g=>σ) (fun g=>iter (fun q:Nat=>compareUs_b1 x0 x1 q) g.1=some r) (fun g=>rounds (fun q:Nat=>compareUs_b1 x0 x1 q) g.1) (0,()) (Sub.pre 0 z) z (by repeat (first|exact trivial|refine ⟨z,?_⟩)) hh (fun g1 j1 hg1=> ?_)))))))))))
 obtain ⟨k103,_⟩:=g1
 have hh:=hg1;clear hg1
 try dsimp only
 obtain ⟨z1,hh,hR1⟩:=iter_e hh
 dsimp only [compareUs_b1]at hh
 refine TC.a (TL.w z (OpVal.lss z z z) (TL.en (TC.seq (TC.cD z hh (fun h104 hh=> ?_) (fun h104 hh=> ?_)))))
 ·refine TC.skip (S.n (TC.seq (TC.block (TC.a (TL.i z z (TL.w z (indexN z underlying172 sz53 z z f0_0.rv.sl (by omega)) (TL.w z (loadS1 (0:Nat) z ag53 z f0_0 (by omega) z) (TL.i z z (TL.i z z (TL.en (TC.seq (TC.a (TL.i z z (TL.s z z (TL.w z (lenC z underlying172 z) ?_)))))))))))))))
  refine TL.w z (OpVal.geq z z z) (TL.en (TC.cD z hh (fun h105 hh=> ?_) (fun h105 hh=> ?_)))
  ·refine TC.a (TL.i z z (TL.en (TC.ret (S.r (B.r (S.r (S.r ?_)))))))
   replace hh:=fin_x hR1 hh
   refine B.r (S.r ?_)
   obtain rfl:=so hh
   exact rq [4] ⟨z,z,z⟩
  refine TC.skip (S.n (TC.a (TL.s z z (TL.i z z ?_))))
  have u18:=grd_c hh
  replace hh:=grd_t hh
  refine TL.w z (indexN z underlying172 sz53 z z f1_0.rv.sl (by omega)) (TL.w z (loadS1 (0:Nat) z ag53 z f1_0 (by omega) z) (TL.i z z (TL.en (TC.a (TL.i z z (TL.i z z ?_))))))
  obtain ⟨v23,u23,hh⟩:=bnd_e hh
  refine TL.op z (callP (compareU_con u23) z z pf111 z z z ?_)
  refine TL.i z z (TL.en (TC.a (TL.i z z (TL.w z (OpVal.neq z z z) (TL.en (TC.cD z hh (fun h106 hh=> ?_) (fun h106 hh=> ?_)))))))
  ·refine TC.a (TL.i z z (TL.i z z (TL.en (TC.ret (B.r (S.r (S.r ?_)))))))
   replace hh:=fin_x hR1 hh
   refine B.r (S.r ?_)
   obtain rfl:=so hh
   exact rq [4] ⟨z,z,z⟩
  refine TC.skip (B.n (S.n (TC.region (TL.w z (OpVal.succ z z z (by omega)) (TL.i z z (TL.en ?_))))))
  obtain ⟨hh,hlt107⟩:=nxt_x hR1 hh
  exact lf ((k103+1),()) hlt107 hh (Sub.pre 0 z)
 refine TC.exit (S.x (S.x ?_))
 replace hh:=fin_x hR1 hh
 refine TC.exitHere (S.n (TC.seq (TC.a (TL.s z z (TL.w z (lenC z underlying172 z) (TL.s z z (TL.w z (lenC z underlying172 z) (TL.w z (OpVal.lss z z z) (TL.en (TC.cD z hh (fun h108 hh=> ?_) (fun h108 hh=> ?_)))))))))))
 ·refine TC.a (TL.i z z (TL.en (TC.ret (S.r ?_))))
  obtain rfl:=so hh
  exact rq [4] ⟨z,z,z⟩
 refine TC.skip (S.n (TC.a (TL.i z z (TL.en (TC.ret ?_)))))
 obtain rfl:=so hh
 exact rq [4] ⟨z,z,z⟩
def C6_(x0:Arc)(x1:Arc):Option (Int):=
 bnd (Bd_ x0.frm x1.frm) (fun v8=>bnd (Bd_ x0.to x1.to) (fun v13=>bnd (compareUs [x0.set.a,x0.set.b,x0.set.c,x0.set.d] [x1.set.a,x1.set.b,x1.set.c,x1.set.d]) (fun v18=>bnd (Ce_ x0.out x1.out) (fun v23=>bnd (D5_ x0.copy) (fun v26=>bnd (D5_ x1.copy) (fun v29=>bnd (Bd_ v26 v29) (fun v30=>bnd (Fl_ [v8,v13,v18,v23,v30]) (fun v32=>some v32))))))))
theorem Gr_{x0:Arc}{x1:Arc}{r:Int}(hh:C6_ x0 x1=some r):
  Con Tryz.prog 60 #[.agg #[.int .i64 x0.frm,.int .i64 x0.to,.int .u64 ((x0.set.a:Nat):Int),.int .u64 ((x0.set.b:Nat):Int),.int .u64 ((x0.set.c:Nat):Int),.int .u64 ((x0.set.d:Nat):Int),.string (bs x0.out),.bool x0.copy],.agg #[.int .i64 x1.frm,.int .i64 x1.to,.int .u64 ((x1.set.a:Nat):Int),.int .u64 ((x1.set.b:Nat):Int),.int .u64 ((x1.set.c:Nat):Int),.int .u64 ((x1.set.d:Nat):Int),.string (bs x1.out),.bool x1.copy]] σ [] (PureP (.int .i64 r) σ):=by
 dsimp only [C6_]at hh
 refine Con.mk (n:=34) Tryz.func60 z z z (fun w0=> ?_)
 refine TC.a (TL.op z (boxA z z z z (fun b101=> ?_)))
 refine TL.op z (boxA z z z z (fun b103=> ?_))
 refine TL.i z z (TL.en (TC.seq ?_))
 obtain ⟨v8,u8,hh⟩:=bnd_e hh
 obtain ⟨v13,u13,hh⟩:=bnd_e hh
 obtain ⟨v18,u18,hh⟩:=bnd_e hh
 obtain ⟨v23,u23,hh⟩:=bnd_e hh
 obtain ⟨v26,u26,hh⟩:=bnd_e hh
 obtain ⟨v29,u29,hh⟩:=bnd_e hh
 obtain ⟨v30,u30,hh⟩:=bnd_e hh
 obtain ⟨v32,u32,hh⟩:=bnd_e hh
 refine TC.draw [] (by kernel_rfl) (TA.a 0 z (fieldLoc z fo66_0 z) z (TA.b 1 z (loadLoc z ag3 z (i:=1) z z) z (TA.a 2 z (fieldLoc z fo66_0 z) z (TA.b 3 z (loadLoc z ag3 z (i:=0) z z) z (TA.a 5 z (fieldLoc z fo66_1 z) z (TA.b 6 z (loadLoc z ag3 z (i:=1) z z) z (TA.a 7 z (fieldLoc z fo66_1 z) z (TA.b 8 z (loadLoc z ag3 z (i:=0) z z) z (TA.a 10 z (fieldLoc z fo66_2 z) z (TA.b 11 z (sliceArr z underlying55 sz53 z) z (TA.a 12 z (fieldLoc z fo66_2 z) z (TA.b 13 z (sliceArr z underlying55 sz53 z) z (TA.a 15 z (fieldLoc z fo66_3 z) z (TA.b 16 z (loadLoc z ag9 z (i:=1) z z) z (TA.a 17 z (fieldLoc z fo66_3 z) z ?_)))))))))))))))
 refine TA.b 18 z (loadLoc z ag9 z (i:=0) z z) z (TA.a 20 z (fieldLoc z fo66_4 z) z (TA.b 21 z (loadLoc z ag4 z (i:=1) z z) z (TA.a 23 z (fieldLoc z fo66_4 z) z (TA.b 24 z (loadLoc z ag4 z (i:=0) z z) z (TA.ac 4 z (callP (Cf_ u8) z z pf93 z z z (k0 ?_)))))))
 refine TA.ac 9 z (callP (Cf_ u13) z z pf93 z z z (k0 ?_))
 refine TA.front 1 z z (TA.ac 14 z (callK (Con.lendC (fun _ hle116 hr114=>Con.lendC (fun _ hle117 hr115=>compareUs_con (RS.ofCells (l:=[x0.set.a,x0.set.b,x0.set.c,x0.set.d]) (hle117 _ _ hr114) encW_len encW_one z z z) (RS.ofCells (l:=[x1.set.a,x1.set.b,x1.set.c,x1.set.d]) hr115 encW_len encW_one z z z) u18))) z z pf97 z z z z ⟨(fun w h=>sees_of (Store.le.refl _) (fun r hr=>mem_pick [1,0] z hr) w h),?_⟩))
 refine TA.ac 19 z (callP (C4_ u23) z z pf32 z z z ⟨(fun w h=>sees_of (Store.le.refl _) (fun r hr=>mem_pick [1,0] z hr) w h),?_⟩)
 refine TA.ac 22 z (callP (Ga_ u26) z z pf98 z z z ⟨(fun w h=>sees_of (Store.le.refl _) (fun r hr=>mem_pick [1,0] z hr) w h),?_⟩)
 refine TA.ac 25 z (callP (Ga_ u29) z z pf98 z z z ⟨(fun w h=>sees_of (Store.le.refl _) (fun r hr=>mem_pick [1,0] z hr) w h),?_⟩)
 refine TA.ac 26 z (callP (Cf_ u30) z z pf93 z z z ⟨(fun w h=>sees_of (Store.le.refl _) (fun r hr=>mem_pick [1,0] z hr) w h),?_⟩)
 refine TA.ac 27 z (OpOk.lit (enc:=eI_) [v8,v13,v18,v23,v30] z underlying46 sz3 ze3 z z z eIl_ (by decide) (by decide) (0:Int) z (by decide) z (by decide) eIo_ (fun a118 c119=>⟨(fun w h=>sees_of (Store.le.refl _) (fun r hr=>mem_pick [2,1] z hr) w h),?_⟩))
 refine TA.ac 28 z (callK (Con.lend eIl_ (fun _ hle122 hr121=>Gi_ hr121 u32)) z z pf92 z z z z ⟨(fun w h=>sees_of (Store.le.refl _) (fun r hr=>mem_pick [2,1] z hr) w h),?_⟩)
 refine TA.a 29 z (moveI (.inr z) z) z (TA.dn (S.n (TC.rt 0 ?_)))
 obtain rfl:=so hh
 exact rq [4] ⟨z,z,z⟩
end Go.Proofs.YtamgjehhjkgelaaGreatDoor
end

noncomputable section
namespace Go.E
open Go
section
variable {S R:Type} {step:S→Option (S⊕R)}
theorem iter_any {y no : R} (f : Nat → S) (p : Nat → Bool) (n : Nat) (hs : ∀ k, k < n → p k = false → step (f k) = some (.inl (f (k + 1)))) (hy : ∀ k, k < n → p k = true → step (f k) = some (.inr y))
    (hd:step (f n)=some (.inr no)): ∀k,k≤n→iter step (f k)=some (bif (List.range n).any (fun i=>decide (k≤i) && p i) then y else no):=by
  intro k hk
  obtain ⟨m,rfl⟩: ∃m,k=n - m:=⟨n - k,by omega⟩
  induction m with
  |zero=>
    have:(List.range n).any (fun i=>decide (n - 0≤i) && p i)=false:=by
      rw [List.any_eq_false];intro i hi;have:=List.mem_range.1 hi;simp;omega
    rw [this];exact iter_done hd
  |succ m ih=>
    by_cases h:m<n
    · have e:n - (m+1)+1=n - m:=by omega
      cases hp:p (n - (m+1))with
      |true=>
        have:(List.range n).any (fun i=>decide (n - (m+1)≤i) && p i)=true:=by
          rw [List.any_eq_true];exact ⟨n - (m+1),List.mem_range.2 (by omega),by simp [hp]⟩
        rw [this];exact iter_done (hy _ (by omega) hp)
      |false=>
        have h1:=hs (n - (m+1)) (by omega) hp
        rw [e]at h1
        have:(List.range n).any (fun i=>decide (n - (m+1)≤i) && p i)=(List.range n).any (fun i=>decide (n - m≤i) && p i):=by
          rw [Bool.eq_iff_iff,List.any_eq_true,List.any_eq_true]
          constructor
          · rintro ⟨i,hi,hx⟩
            simp only [Bool.and_eq_true,decide_eq_true_eq]at hx
            refine ⟨i,hi,?_⟩
            have:i≠n - (m+1):=fun h=>by rw [h,hp]at hx;exact absurd hx.2 Bool.false_ne_true
            simp [hx.2];omega
          rintro ⟨i,hi,hx⟩
          simp only [Bool.and_eq_true,decide_eq_true_eq]at hx
          exact ⟨i,hi,by simp [hx.2];omega⟩
        rw [this]
        exact iter_next h1 (ih (by omega))
    have e:n - (m+1)=n - m:=by omega
    rw [e];exact ih (by omega)
theorem iter_any0{y no:R}(f:Nat→S)(p:Nat→Bool)(n:Nat)(hs: ∀k,k<n→p k=false→step (f k)=some (.inl (f (k+1))))(hy: ∀k,k<n→p k=true→step (f k)=some (.inr y))
    (hd:step (f n)=some (.inr no)):iter step (f 0)=some (bif (List.range n).any p then y else no):=by
  have:=iter_any f p n hs hy hd 0 (by omega)
  simpa using this
theorem iter_seq0{r:R}(f:Nat→S)(n:Nat)(hs: ∀k,k<n→step (f k)=some (.inl (f (k+1))))(hd:step (f n)=some (.inr r)):iter step (f 0)=some r:=iter_seq f n hs hd 0 (by omega)
end
theorem range_any{α:Type}(l:List α)(d:α)(p:α→Bool):(List.range l.length).any (fun i=>p (nth l i d))=l.any p:=by
  rw [Bool.eq_iff_iff,List.any_eq_true,List.any_eq_true]
  constructor
  · rintro ⟨i,hi,h⟩
    have hi:=List.mem_range.1 hi
    exact ⟨nth l i d,List.mem_of_getElem? (getD_some l hi d),h⟩
  rintro ⟨x,hx,h⟩
  obtain ⟨i,hi,rfl⟩:=List.getElem_of_mem hx
  refine ⟨i,List.mem_range.2 hi,?_⟩
  have:nth l i d=l[i]:=by have:=getD_some l hi d;rw [List.getElem?_eq_getElem hi]at this;exact (Option.some.inj this).symm
  rw [this];exact h
theorem take_snoc{α:Type}(l:List α){k:Nat}(h:k<l.length)(d:α):l.take (k+1)=l.take k++[nth l k d]:=by
  rw [List.take_add_one,getD_some l h d];rfl
theorem nth_mem'{α:Type}{l:List α}{i:Nat}(h:i<l.length)(d:α):nth l i d∈l:=List.mem_of_getElem? (getD_some l h d)
end Go.E
end

noncomputable section
namespace Go.Proofs.YtamgjehhjkgelaaGreatDoor
open Go Go.E Go.Sort
structure GoodCmp {α:Type} (c:α→α→Int):Prop where
  eq: ∀x y,c x y=0↔x=y
  anti: ∀x y,c x y<0↔0<c y x
  trans: ∀x y z,c x y<0→c y z<0→c x z<0
theorem GoodCmp.total{α:Type}{c:α→α→Int}(h:GoodCmp c):TotalCmp c where
  swo := {
    irrefl:=fun x=>by have:=(h.eq x x).2 rfl;simp [ltOf,this]
    trans:=fun x y z h1 h2=>by
      simp only [ltOf,decide_eq_true_eq]at *
      exact h.trans x y z h1 h2
    ntrans:=fun x y z h1 h2=>by
      simp only [ltOf,decide_eq_false_iff_not]at *
      intro h3
      by_cases e1:x=y
      · subst e1;exact h2 h3
      by_cases e2:y=z
      · subst e2;exact h1 h3
      have n1:c x y≠0:=fun e=>e1 ((h.eq _ _).1 e)
      have n2:c y z≠0:=fun e=>e2 ((h.eq _ _).1 e)
      have h4:c z y<0:=(h.anti _ _).2 (by omega)
      exact h1 (h.trans _ _ _ h3 h4)}
  tot:=fun x y h1 h2=>by
    simp only [ltOf,decide_eq_false_iff_not]at *
    refine (h.eq x y).1 ?_
    have:=(h.anti y x)
    omega
def corI(a b:Int):Int:=if a≠0 then a else b
theorem GoodCmp.lex {α β γ : Type} {c : β → β → Int} {d : γ → γ → Int} (hc : GoodCmp c) (hd : GoodCmp d) (f : α → β) (g : α → γ) (hfg : ∀ x y, f x = f y → g x = g y → x = y) : GoodCmp fun x y => corI (c (f x) (f y)) (d (g x) (g y)) where
  eq x y:=by
    unfold corI
    by_cases h:c (f x) (f y)=0
    · have hf:=(hc.eq _ _).1 h
      simp only [h,ne_eq,not_true_eq_false,if_false,hd.eq]
      exact ⟨fun hg=>hfg x y hf hg,fun e=>by rw [e]⟩
    simp only [ne_eq,h,not_false_eq_true,if_true,false_iff]
    intro e;subst e;exact h ((hc.eq _ _).2 rfl)
  anti x y:=by
    unfold corI
    have h1:=hc.anti (f x) (f y)
    have h2:=hc.anti (f y) (f x)
    have h3:=hd.anti (g x) (g y)
    by_cases h:c (f x) (f y)=0
    · have hf:=(hc.eq _ _).1 h
      have h':c (f y) (f x)=0:=(hc.eq _ _).2 hf.symm
      simp only [h,h',ne_eq,not_true_eq_false,if_false];exact h3
    have h':c (f y) (f x)≠0:=fun e=>h ((hc.eq _ _).2 ((hc.eq _ _).1 e).symm)
    simp only [h,h',ne_eq,not_false_eq_true,if_true];exact h1
  trans x y z := by
    unfold corI
    intro h1 h2
    by_cases a:c (f x) (f y)=0
    · have ea:=(hc.eq _ _).1 a
      rw [a]at h1;simp only [ne_eq,not_true_eq_false,if_false]at h1
      rw [ea]
      by_cases b:c (f y) (f z)=0
      · rw [b]at h2 ⊢
        simp only [ne_eq,not_true_eq_false,if_false]at h2 ⊢
        exact hd.trans _ _ _ h1 h2
      simp only [ne_eq,b,not_false_eq_true,if_true]at h2 ⊢;exact h2
    simp only [ne_eq,a,not_false_eq_true,if_true]at h1
    by_cases b:c (f y) (f z)=0
    · have eb:=(hc.eq _ _).1 b
      rw [←eb]
      simp only [ne_eq,a,not_false_eq_true,if_true];exact h1
    simp only [ne_eq,b,not_false_eq_true,if_true]at h2
    have h3:=hc.trans _ _ _ h1 h2
    have h4:c (f x) (f z)≠0:=by omega
    simp only [ne_eq,h4,not_false_eq_true,if_true];exact h3
def cmpI(x y:Int):Int:=if x<y then -1 else if y<x then 1 else 0
theorem cmpI_good:GoodCmp cmpI where
  eq x y:=by unfold cmpI;(repeat' split)<;>omega
  anti x y:=by unfold cmpI;(repeat' split)<;>omega
  trans x y z:=by unfold cmpI;(repeat' split)<;>omega
def cmpN(x y:Nat):Int:=if x<y then -1 else if y<x then 1 else 0
theorem cmpN_good:GoodCmp cmpN where
  eq x y:=by unfold cmpN;(repeat' split)<;>omega
  anti x y:=by unfold cmpN;(repeat' split)<;>omega
  trans x y z:=by unfold cmpN;(repeat' split)<;>omega
theorem cmpB_eq: ∀a b:List UInt8,Lib.compareBytes a b=0↔a=b
  |[],[]=>by simp [Lib.compareBytes]
  |[],_::_=>by simp [Lib.compareBytes]
  |_::_,[]=>by simp [Lib.compareBytes]
  |x::a,y::b=>by
    simp only [Lib.compareBytes]
    split
    · rename_i h;simp;intro e;subst e;exact absurd h (UInt8.lt_irrefl _)
    rename_i h
    split
    · rename_i h';simp;intro e;subst e;exact absurd h' (UInt8.lt_irrefl _)
    rename_i h'
    have:x=y:=UInt8.le_antisymm (UInt8.not_lt.1 h') (UInt8.not_lt.1 h)
    subst this
    simp [cmpB_eq a b]
theorem cmpB_anti: ∀a b:List UInt8,Lib.compareBytes a b<0↔0<Lib.compareBytes b a
  |[],[]=>by simp [Lib.compareBytes]
  |[],_::_=>by simp [Lib.compareBytes]
  |_::_,[]=>by simp [Lib.compareBytes]
  | x :: a, y :: b => by
    simp only [Lib.compareBytes]
    by_cases h:x<y
    · have h': ¬ y<x:=fun h2=>UInt8.lt_irrefl _ (UInt8.lt_trans h h2)
      simp [h,h']
    by_cases h':y<x
    · simp [h,h']
    simp [h,h',cmpB_anti a b]
theorem cmpB_trans: ∀a b c:List UInt8,Lib.compareBytes a b<0→Lib.compareBytes b c<0→Lib.compareBytes a c<0
  |[],[],c,h,_=>by simp [Lib.compareBytes]at h
  |[],_::_,[],_,h=>by simp [Lib.compareBytes]at h
  |[],_::_,_::_,_,_=>by simp [Lib.compareBytes]
  |_::_,[],c,h,_=>by simp [Lib.compareBytes]at h
  |_::_,_::_,[],_,h=>by simp [Lib.compareBytes]at h
  | x :: a, y :: b, z :: c, h1, h2 => by
    simp only [Lib.compareBytes]at *
    by_cases hxy:x<y
    · by_cases hyz:y<z
      · have:=UInt8.lt_trans hxy hyz;simp [this]
      by_cases hzy:z<y
      · simp [hyz,hzy]at h2
      have:y=z:=UInt8.le_antisymm (UInt8.not_lt.1 hzy) (UInt8.not_lt.1 hyz)
      subst this;simp [hxy]
    by_cases hyx:y<x
    · simp [hxy,hyx]at h1
    have:x=y:=UInt8.le_antisymm (UInt8.not_lt.1 hyx) (UInt8.not_lt.1 hxy)
    subst this
    simp only [UInt8.lt_irrefl,if_false]at h1
    by_cases hyz:x<z
    · simp [hyz]
    by_cases hzy:z<x
    · simp [hyz,hzy]at h2
    simp only [hyz,hzy,if_false]at h2 ⊢
    exact cmpB_trans a b c h1 h2
theorem cmpB_good:GoodCmp Lib.compareBytes:=⟨cmpB_eq,cmpB_anti,cmpB_trans⟩
def cmpBool(x y:Bool):Int:=cmpI (if x then 1 else 0) (if y then 1 else 0)
theorem cmpBool_good:GoodCmp cmpBool where
  eq x y:=by cases x<;>cases y<;>decide
  anti x y:=by cases x<;>cases y<;>decide
  trans x y z:=by cases x<;>cases y<;>cases z<;>decide
theorem lt_dec{k n:Nat}(h:k<n):decide (((k:Nat):Int)<((n:Nat):Int))=true:=decide_eq_true (by omega)
theorem cmpI_lt{x y:Int}:cmpI x y<0↔x<y:=by unfold cmpI;(repeat' split)<;>omega
end Go.Proofs.YtamgjehhjkgelaaGreatDoor
end

noncomputable section
namespace Go.Proofs.YtamgjehhjkgelaaGreatDoor
open Go Go.E Go.Sort
theorem Cj_(x y:Int):Bd_ x y=some (cmpI x y):=by
  unfold Bd_ Eq_ cmpI
  simp only [bnd,Option.bind_some,ne_eq,not_true_eq_false,decide_false,iteO_false]
  by_cases h:x<y
  · simp [h]
  by_cases h':y<x<;>simp [h,h']
theorem compareU_eq(x y:Nat):compareU x y=some (cmpN x y):=by
  unfold compareU isNaNU cmpN
  simp only [bnd,Option.bind_some,ne_eq,not_true_eq_false,decide_false,iteO_false]
  by_cases h:x<y
  · simp [h]
  by_cases h':y<x<;>simp [h,h']
theorem Dh_(x y:List UInt8):Ce_ x y=some (Lib.compareBytes x y):=rfl
def orL:List Int→Int
  |[]=>0
  |a::l=>corI a (orL l)
theorem Ht_(l:List Int): ∀m k,l.length=k+m→iter (fun q:Nat=>Cm_ l q) k=some (orL (l.drop k)):=by
  intro m
  induction m with
  |zero=>
    intro k hk
    refine iter_done ?_
    rw [List.drop_of_length_le (by omega)]
    simp only [Cm_,decide_eq_false (show ¬ ((k:Nat):Int)<((l.length:Nat):Int) by omega),iteO_false];rfl
  |succ m ih=>
    intro k hk
    have hlt:k<l.length:=by omega
    have hd:l.drop k=nth l k 0::l.drop (k+1):=by
      rw [List.drop_eq_getElem_cons hlt]
      have:=getD_some l hlt 0
      rw [List.getElem?_eq_getElem hlt,Option.some.injEq]at this
      rw [this]
    rw [hd,orL,corI]
    by_cases h:nth l k 0≠0
    · rw [if_pos h]
      refine iter_done ?_
      simp only [Cm_,decide_eq_true (show ((k:Nat):Int)<((l.length:Nat):Int) by omega),iteO_true,decide_eq_true h];rfl
    rw [if_neg h]
    refine iter_next (s':=k+1) ?_ (ih (k+1) (by omega))
    simp only [Cm_,decide_eq_true (show ((k:Nat):Int)<((l.length:Nat):Int) by omega),iteO_true,decide_eq_false h];rfl
theorem Gu_(l:List Int):Fl_ l=some (orL l):=by
  unfold Fl_;rw [Ht_ l l.length 0 (by omega),List.drop_zero]
def cmpTip(x y:Tip):Int:=corI (cmpI x.state y.state) (corI (Lib.compareBytes x.out y.out) 0)
theorem compareTips_eq(x y:Tip):Da_ x y=some (cmpTip x y):=by
  unfold Da_
  rw [bnd_some (Cj_ _ _),bnd_some (Dh_ _ _),bnd_some (Gu_ _)];rfl
theorem corI_zero(a:Int):corI a 0=a:=by unfold corI;split<;>omega
theorem cmpTip_good:GoodCmp cmpTip:=by
  have:=GoodCmp.lex cmpI_good cmpB_good Tip.state Tip.out (fun x y h1 h2=>by cases x;cases y;simp_all)
  have e:cmpTip=fun x y=>corI (cmpI x.state y.state) (Lib.compareBytes x.out y.out):=by
    funext x y;unfold cmpTip;rw [corI_zero]
  rw [e];exact this
def cmpSet(s t:BSet):Int:=corI (cmpN s.a t.a) (corI (cmpN s.b t.b) (corI (cmpN s.c t.c) (cmpN s.d t.d)))
theorem compareUs_four(a b c d a' b' c' d':Nat):compareUs [a,b,c,d] [a',b',c',d']=some (corI (cmpN a a') (corI (cmpN b b') (corI (cmpN c c') (cmpN d d')))):=by
  have st: ∀(k x y:Nat),k<4→nth [a,b,c,d] k 0=x→nth [a',b',c',d'] k 0=y→(cmpN x y≠0→iter (fun q:Nat=>compareUs_b1 [a,b,c,d] [a',b',c',d'] q) k=some (cmpN x y))∧(∀r,cmpN x y=0→iter (fun q:Nat=>compareUs_b1 [a,b,c,d] [a',b',c',d'] q) (k+1)=some r→iter (fun q:Nat=>compareUs_b1 [a,b,c,d] [a',b',c',d'] q) k=some r):=by
    intro k x y hk hx hy
    have e1:((k:Nat):Int)<(([a,b,c,d].length:Nat):Int):=by simp;omega
    have e2: ¬ (([a',b',c',d'].length:Nat):Int)≤((k:Nat):Int):=by simp;omega
    refine ⟨fun h=>iter_done ?_,fun r h hr=>iter_next (s':=k+1) ?_ hr⟩
    · simp only [compareUs_b1,decide_eq_true e1,iteO_true,decide_eq_false e2,iteO_false]
      rw [grd_mk (by simp;omega),hx,hy,bnd_some (compareU_eq _ _),decide_eq_true h];rfl
    simp only [compareUs_b1,decide_eq_true e1,iteO_true,decide_eq_false e2,iteO_false]
    rw [grd_mk (by simp;omega),hx,hy,bnd_some (compareU_eq _ _),h];rfl
  have fi:iter (fun q:Nat=>compareUs_b1 [a,b,c,d] [a',b',c',d'] q) 4=some 0:=iter_done (by simp [compareUs_b1])
  have go: ∀(k x y:Nat) (r:Int),k<4→nth [a,b,c,d] k 0=x→nth [a',b',c',d'] k 0=y→iter (fun q:Nat=>compareUs_b1 [a,b,c,d] [a',b',c',d'] q) (k+1)=some r→iter (fun q:Nat=>compareUs_b1 [a,b,c,d] [a',b',c',d'] q) k=some (corI (cmpN x y) r):=by
    intro k x y r hk hx hy hr
    obtain ⟨h1,h2⟩:=st k x y hk hx hy
    by_cases h:cmpN x y=0
    · rw [show corI (cmpN x y) r=r from by simp [corI,h]];exact h2 r h hr
    rw [show corI (cmpN x y) r=cmpN x y from by simp [corI,h]];exact h1 h
  have h3:=go 3 d d' 0 (by omega) rfl rfl fi
  rw [corI_zero]at h3
  exact go 0 a a' _ (by omega) rfl rfl (go 1 b b' _ (by omega) rfl rfl (go 2 c c' _ (by omega) rfl rfl h3))
theorem cmpSet_good:GoodCmp cmpSet:=by
  have h1:=GoodCmp.lex (α:=Nat×Nat) cmpN_good cmpN_good Prod.fst Prod.snd (fun x y h1 h2=>Prod.ext h1 h2)
  have h2:=GoodCmp.lex (α:=Nat×Nat×Nat) cmpN_good h1 Prod.fst Prod.snd (fun x y h1 h2=>Prod.ext h1 h2)
  have h3:=GoodCmp.lex (α:=BSet) cmpN_good h2 BSet.a (fun s=>(s.b,s.c,s.d)) (fun x y h1 h2=>by
    cases x;cases y;simp_all)
  exact h3
def cmpArc(x y:Arc):Int:=corI (cmpI x.frm y.frm) (corI (cmpI x.to y.to) (corI (cmpSet x.set y.set) (corI (Lib.compareBytes x.out y.out) (corI (cmpBool x.copy y.copy) 0))))
theorem Gn_(b:Bool):D5_ b=some (if b then 1 else 0):=by cases b<;>rfl
theorem compareArcs_eq(x y:Arc):C6_ x y=some (cmpArc x y):=by
  unfold C6_
  rw [bnd_some (Cj_ _ _),bnd_some (Cj_ _ _),bnd_some (compareUs_four ..),bnd_some (Dh_ _ _),bnd_some (Gn_ _),bnd_some (Gn_ _),bnd_some (Cj_ _ _),bnd_some (Gu_ _)];rfl
theorem cmpArc_good:GoodCmp cmpArc:=by
  have h1:=GoodCmp.lex (α:=List UInt8×Bool) cmpB_good cmpBool_good Prod.fst Prod.snd (fun x y h1 h2=>Prod.ext h1 h2)
  have h2:=GoodCmp.lex (α:=BSet×List UInt8×Bool) cmpSet_good h1 Prod.fst Prod.snd (fun x y h1 h2=>Prod.ext h1 h2)
  have h3:=GoodCmp.lex (α:=Int×BSet×List UInt8×Bool) cmpI_good h2 Prod.fst Prod.snd (fun x y h1 h2=>Prod.ext h1 h2)
  have h4:=GoodCmp.lex (α:=Arc) cmpI_good h3 Arc.frm (fun s=>(s.to,s.set,s.out,s.copy)) (fun x y h1 h2=>by
    cases x;cases y;simp_all)
  have e:cmpArc=fun x y=>corI (cmpI x.frm y.frm) (corI (cmpI x.to y.to) (corI (cmpSet x.set y.set) (corI (Lib.compareBytes x.out y.out) (cmpBool x.copy y.copy)))):=by
    funext x y;unfold cmpArc;rw [corI_zero]
  rw [e];exact h4
end Go.Proofs.YtamgjehhjkgelaaGreatDoor
end

noncomputable section
namespace Go.Proofs.YtamgjehhjkgelaaGreatDoor
open Go Go.E
instance:Inhabited Tip:=⟨Tip.zero⟩
instance:Inhabited Arc:=⟨Arc.zero⟩
theorem H4_{a:Option Addr}{c:Nat}{l:List (List UInt8)}:Con Tryz.prog 64 #[.slice a l.length c,.func (.func 32) #[] #[]] σ [Res.rowS 9 1 eS_ (.slice a l.length c) l] (SortP 9 1 eS_ a c l (sortL Lib.compareBytes l) σ):=
  Con.sort1 (enc:=keyS) layS layS0 rfl (fun _=>rfl) (fun _=>rfl) cmpB_good.total (fun args w=>run_callFunc (by kernel_rfl) args w) (fun x y τ=>C4_ (Dh_ x y))
theorem H7_{a:Option Addr}{c:Nat}{l:List Tip}:Con Tryz.prog 68 #[.slice a l.length c,.func (.func 58) #[] #[]] σ [Res.rowS 43 2 encTip (.slice a l.length c) l] (SortP 43 2 encTip a c l (sortL cmpTip l) σ):=
  Con.sortK (k:=2) layT0 rfl Tryz.isAgg43 Tryz.sizeOf43 encTip_len encTip_one cmpTip_good.total (fun args w=>run_callFunc (by kernel_rfl) args w) (fun x y τ=>Gp_ (compareTips_eq x y))
theorem H9_{a:Option Addr}{c:Nat}{l:List Arc}:Con Tryz.prog 95 #[.slice a l.length c,.func (.func 60) #[] #[]] σ [Res.rowS 66 8 encArc (.slice a l.length c) l] (SortP 66 8 encArc a c l (sortL cmpArc l) σ):=
  Con.sortK (k:=8) layA0 rfl Tryz.isAgg66 Tryz.sizeOf66 encArc_len encArc_one cmpArc_good.total (fun args w=>run_callFunc (by kernel_rfl) args w) (fun x y τ=>Gr_ (compareArcs_eq x y))
end Go.Proofs.YtamgjehhjkgelaaGreatDoor
end

noncomputable section
namespace Go.Proofs.YtamgjehhjkgelaaGreatDoor
open Go Go.E Go.E.OpVal Go.E.OpOk Go.Proofs.Tryz
theorem ag31:aggOf Tryz.prog 31=some false:=by kernel_rfl
theorem by23:byOf Tryz.prog 23=some 24:=by kernel_rfl
theorem by31:byOf Tryz.prog 31=some 24:=by kernel_rfl
theorem by9:byOf Tryz.prog 9=some 16:=by kernel_rfl
theorem eg66:Tryz.prog.eqGuardType Tryz.prog.depth 66=false:=by kernel_rfl
theorem es66(x y:Arc):Go.E.EqAt Tryz.prog 3 66 (.agg (Go.E.encArc x).toArray) (.agg (Go.E.encArc y).toArray) (decide (x=y)):=
 (EqAt.struct (ts:=[(false,3,0),(false,3,1),(false,55,2),(false,9,6),(false,4,7)]) (by kernel_rfl) (by kernel_rfl) (by kernel_rfl) (EqC.one (by kernel_rfl) rfl rfl (EqAt.int underlying3 x.frm y.frm |>.up (by decide)) (EqC.one (by kernel_rfl) rfl rfl (EqAt.int underlying3 x.to y.to |>.up (by decide)) (EqC.agg (s:=4) (us:=Go.E.setA x.set) (vs:=Go.E.setA y.set) (by kernel_rfl) (by kernel_rfl) rfl rfl (EqAt.set underlying55 underlying53 (by kernel_rfl) (by kernel_rfl) x.set y.set) (EqC.one (by kernel_rfl) rfl rfl (EqAt.str underlying9 x.out y.out |>.up (by decide)) (EqC.one (by kernel_rfl) rfl rfl (EqAt.bool underlying4 x.copy y.copy |>.up (by decide)) EqC.nil)))))).of (by rw [Bool.eq_iff_iff];cases x;cases y;simp)
theorem pf21:plainF Tryz.prog 21=true:=by kernel_rfl
theorem pf30:plainF Tryz.prog 30=true:=by kernel_rfl
theorem pf31:plainF Tryz.prog 31=true:=by kernel_rfl
theorem pf57:plainF Tryz.prog 57=true:=by kernel_rfl
theorem pf59:plainF Tryz.prog 59=true:=by kernel_rfl
theorem pf63:plainF Tryz.prog 63=true:=by kernel_rfl
theorem pf64:plainF Tryz.prog 64=true:=by kernel_rfl
theorem pf65:plainF Tryz.prog 65=true:=by kernel_rfl
theorem pf68:plainF Tryz.prog 68=true:=by kernel_rfl
theorem pf90:plainF Tryz.prog 90=true:=by kernel_rfl
theorem pf91:plainF Tryz.prog 91=true:=by kernel_rfl
theorem pf94:plainF Tryz.prog 94=true:=by kernel_rfl
theorem pf95:plainF Tryz.prog 95=true:=by kernel_rfl
theorem pf96:plainF Tryz.prog 96=true:=by kernel_rfl
theorem sz31:szOf Tryz.prog 31=some 1:=by kernel_rfl
theorem sz9:szOf Tryz.prog 9=some 1:=by kernel_rfl
theorem ze23:zeroOf Tryz.prog 23=some (.slice none 0 0):=by kernel_rfl
theorem ze31:zeroOf Tryz.prog 31=some (.slice none 0 0):=by kernel_rfl
theorem ze9:zeroOf Tryz.prog 9=some (.string ByteArray.empty):=by kernel_rfl
theorem Hx_{a:Option Addr}{c:Nat}{l:List (List UInt8)}(hl:RS σ 1 eS_ (.slice a l.length c) l)(hsz:l.length * 16≤140737488355328):
  Con Tryz.prog 63 #[.slice a l.length c] σ [] (RowP 9 1 eS_ l σ):=by
 have hb:=hl.rv.big
 refine Con.mk (n:=8) Tryz.func63 z z z (fun w0=> ?_)
 refine TC.a (TL.s z z (TL.nilS 9 1 eS_ (TL.en (TC.seq (TC.a (TL.s z z (TL.w z (eqlNilSl z underlying31 z z) (TL.en (TC.cond z (fun h2=> ?_) (fun h2=> ?_))))))))))
 ·refine TC.a (TL.s z z (TL.nilS 9 1 eS_ (TL.en (TC.ret (S.r ?_)))))
  cases a with
  |some _=>simp at h2
  |none=>
   obtain rfl:=hl.none_nil
   exact ret1R z z
 refine TC.skip (S.n (TC.a (TL.op z (lit0 (enc:=eS_) z z underlying31 sz9 z z (fun a4 c5=> ?_)))))
 refine TL.s z z (TL.op z (appendS z z underlying31 sz9 by9 ze9 z z (by decide) z z z (.inl hl) (by simpa using hsz) (by decide) (fun a7 c8=> ?_)))
 exact TL.s z z (TL.en (TC.ret (ret1R z z)))
def Ep_(k125:Nat)(l128:List (List UInt8))(k130:Nat):Option (((List (List UInt8))×Nat×Nat)⊕((Nat)⊕((List (List UInt8))))):=
 nxt (l128,k130,(k125+1))
def Em_(x0:List (List UInt8))(k105:Nat)(l122:List (List UInt8))(k124:Nat)(k125:Nat):Option (((List (List UInt8))×Nat×Nat)⊕((Nat)⊕((List (List UInt8))))):=
 iteO (decide (((k125:Nat):Int)<(((x0.length - k105):Nat):Int))) (grd (k125<(x0.length - k105)) (grd (0≤(IntKind.i64.wrap (((k125:Nat):Int) - 1))∧(IntKind.i64.wrap (((k125:Nat):Int) - 1))<((x0.length - k105):Nat)) (iteO (decide ((nth l122 (k105+k125) ([]:List UInt8))≠(nth l122 (k105+(IntKind.i64.wrap (((k125:Nat):Int) - 1)).toNat) ([]:List UInt8)))) (grd (k125<(x0.length - k105)) (grd (k124<l122.length) (Ep_ k125 (l122.set k124 (nth l122 (k105+k125) ([]:List UInt8))) (k124+1)))) (Ep_ k125 l122 k124)))) (fin (grd (k124≤x0.length) (grd (k124≤(l122.take k124++List.replicate (l122.length - k124) ([]:List UInt8)).length) (fin (some ((l122.take k124++List.replicate (l122.length - k124) ([]:List UInt8)).take k124))))))
def Ek_(x0:List (List UInt8))(k105:Nat):Option ((Nat)⊕((List (List UInt8)))):=
 iteO (decide (((k105:Nat):Int)<((x0.length:Nat):Int))) (grd (0≤(IntKind.i64.wrap (((k105:Nat):Int) - 1))∧(IntKind.i64.wrap (((k105:Nat):Int) - 1))<(x0.length:Int)) (iteO (decide ((nth x0 k105 ([]:List UInt8))=(nth x0 ((IntKind.i64.wrap (((k105:Nat):Int) - 1)).toNat) ([]:List UInt8)))) (grd (k105≤x0.length) (iter (fun q:(List (List UInt8))×Nat×Nat=>Em_ x0 k105 q.1 q.2.1 q.2.2) (x0,k105,1))) (nxt (k105+1)))) (fin (some x0))
def compactS(x0:List (List UInt8)):Option ((List (List UInt8))):=
 iteO (decide (((x0.length:Nat):Int)<2)) (some x0) (iter (fun q:Nat=>Ek_ x0 q) 1)
theorem Hn_{x0:List (List UInt8)}{r:(List (List UInt8))}(hh:compactS x0=some r):
  Con Tryz.prog 65 #[.slice a0_1 x0.length c0_2] σ [Res.rowS 9 1 eS_ (.slice a0_1 x0.length c0_2) x0] (fun v σ' H'=> ∃a1 c1,v= .slice a1 r.length c1∧σ=σ'∧H'=[Res.rowS 9 1 eS_ (.slice a1 r.length c1) r]):=by
 dsimp only [compactS]at hh
 refine Con.mk (n:=61) Tryz.func65 z z z (fun w0=> ?_)
 refine TC.a (TL.s z z (TL.en (TC.seq (TC.a (TL.s z z (TL.w z (lenC z underlying31 z) (TL.w z (OpVal.lss z z z) (TL.en (TC.cD z hh (fun h102 hh=> ?_) (fun h102 hh=> ?_))))))))))
 ·refine TC.a (TL.s z z (TL.s z z (TL.en (TC.ret (S.r ?_)))))
  obtain rfl:=so hh
  exact ro [Res.rowS 9 1 eS_ (.slice a0_1 x0.length c0_2) x0] z (RVs.tmp z RVs.nil) ⟨a0_1,c0_2,z,z,z⟩
 refine TC.skip (S.n (TC.seq (TC.a (TL.i z z (TL.en (TC.block (TC.loopG (α:=(Nat)×(Unit)) (rgs [(2,4),(10,50)]) (fun g=>[(3,.int .i64 ((g.1:Nat):Int))]) (fun g=>[Res.rowS 9 1 eS_ (.slice a0_1 x0.length c0_2) x0]) (fun g=>σ) (fun g=>iter (fun q:Nat=>Ek_ x0 q) g.1=some r) (fun g=>rounds (fun q:Nat=>Ek_ x0 q) g.1) (1,()) (Sub.pre 1 z) z (by repeat (first|exact trivial|refine ⟨z,?_⟩)) hh (fun g1 j1 hg1=> ?_))))))))
 obtain ⟨k105,_⟩:=g1
 have hh:=hg1;clear hg1
 try dsimp only
 obtain ⟨z1,hh,hR1⟩:=iter_e hh
 dsimp only [Ek_]at hh
 refine TC.isSl (i:=0) z (fun _ hb106 _=> ?_)
 refine TC.seq (TC.a (TL.i z z (TL.s z z (TL.w z (lenC z underlying31 z) (TL.w z (OpVal.lss z z z) (TL.en (TC.cD z hh (fun h107 hh=> ?_) (fun h107 hh=> ?_))))))))
 ·refine TC.skip (S.n (TC.seq (TC.block (TC.seq ?_))))
  have u19:=grd_c hh
  replace hh:=grd_t hh
  refine TC.draw [] (by kernel_rfl) (TA.a 0 z (moveSl (.inl z) z) z (TA.a 1 z (moveI (.inl z) z) z (TA.isSl (i:=0) z (fun hs110 _ _=> ?_))))
  refine TA.b 2 z (indexN z underlying31 sz9 z z hs110 (by omega)) z (TA.b 3 z (loadO1 ([]:List UInt8) z ag9 z (q:=0) z eSl_ (by omega) z) z (TA.a 4 z (moveSl (.inl z) z) z (TA.a 5 z (moveI (.inl z) z) z (TA.a 6 z (subW z z z) z (TA.isSl (i:=0) z (fun hs111 _ _=> ?_))))))
  refine TA.b 7 z (OpVal.index z underlying31 sz9 z z hs111 u19.1 u19.2) z (TA.b 8 z (loadO1 ([]:List UInt8) z ag9 z (q:=0) z eSl_ (by omega) z) z (TA.a 9 z (eqlBs z z z) z (TA.dn (S.n (TC.cD z hh (fun h112 hh=> ?_) (fun h112 hh=> ?_))))))
  ·refine TC.a (TL.s z z (TL.i z z ?_))
   have u24:=grd_c hh
   replace hh:=grd_t hh
   refine TL.isSl (i:=0) z (fun hs113 _ _=> ?_)
   obtain ⟨a113,c113,hv113,ho113⟩:=vw_of (k:=k105) (size:=1) hs113 (by omega)
   refine TL.w z (ho113 z underlying31 sz9 z z) (TL.s z z (TL.en (TC.seq (TC.a (TL.i z z (TL.en (TC.block (TC.loopG (α:=((List (List UInt8))×Nat×Nat)×(Unit)) (rgs [(3,1),(5,1),(29,25)]) (fun g=>[(3,.int .i64 ((g.1.2.1:Nat):Int)),(5,.int .i64 ((g.1.2.2:Nat):Int))]) (fun g=>[Res.rowS 9 1 eS_ (.slice a0_1 x0.length c0_2) g.1.1]) (fun g=>σ) (fun g=>iter (fun q:(List (List UInt8))×Nat×Nat=>Em_ x0 k105 q.1 q.2.1 q.2.2) g.1=some z1∧g.1.1.length=x0.length) (fun g=>rounds (fun q:(List (List UInt8))×Nat×Nat=>Em_ x0 k105 q.1 q.2.1 q.2.2) g.1) ((x0,k105,1),()) (Sub.pre 1 z) z (by repeat (first|exact trivial|refine ⟨z,?_⟩)) ⟨hh,z⟩ (fun g2 j2 hg2=> ?_)))))))))
   obtain ⟨⟨l122,k124,k125⟩,_⟩:=g2
   obtain ⟨hh,hn123⟩:=hg2
   try dsimp only at hn123 ⊢
   obtain ⟨z2,hh,hR2⟩:=iter_e hh
   dsimp only [Em_]at hh
   have hn123b:=hn123
   refine TC.isSl (i:=0) z (fun _ hb126 _=> ?_)
   refine TC.seq (TC.a (TL.i z z (TL.s z z (TL.w z (lenC z underlying31 z) (TL.w z (OpVal.lss z z z) (TL.en (TC.cD z hh (fun h127 hh=> ?_) (fun h127 hh=> ?_))))))))
   ·refine TC.skip (S.n (TC.cutG (α:=((List (List UInt8))×Nat)×(Unit)) (rgs [(3,1),(35,19)]) (fun g=>[(3,.int .i64 ((g.1.2:Nat):Int))]) (fun g=>[Res.rowS 9 1 eS_ (.slice a0_1 x0.length c0_2) g.1.1]) (fun g=>σ) (fun g=>Ep_ k125 g.1.1 g.1.2=some z2∧g.1.1.length=x0.length) ?_ (fun g j hg=> ?_)))
    ·skip
     refine TC.block (TC.seq ?_)
     have u33:=grd_c hh
     replace hh:=grd_t hh
     have u38:=grd_c hh
     replace hh:=grd_t hh
     refine TC.draw [] (by kernel_rfl) (TA.a 0 z (moveSl (.inl z) z) z (TA.a 1 z (moveI (.inl z) z) z (TA.b 2 z (elVw hv113 (by omega) (indexN z underlying31 sz9 z z hv113.sl (by omega))) z (TA.b 3 z (loadO1 ([]:List UInt8) z ag9 z (q:=0) z eSl_ (by omega) z) z (TA.a 4 z (moveSl (.inl z) z) z (TA.a 5 z (moveI (.inl z) z) z (TA.a 6 z (subW z z z) z (TA.b 7 z (elVw hv113 (by omega) (OpVal.index z underlying31 sz9 z z hv113.sl u38.1 u38.2)) z (TA.b 8 z (loadO1 ([]:List UInt8) z ag9 z (q:=0) z eSl_ (by omega) z) z (TA.a 9 z (neqBs z z z) z (TA.dn (S.n (TC.cD z hh (fun h131 hh=> ?_) (fun h131 hh=> ?_))))))))))))))
     ·refine TC.a (TL.s z z (TL.i z z (TL.s z z (TL.i z z ?_))))
      have u45:=grd_c hh
      replace hh:=grd_t hh
      refine TL.w z (elVw hv113 (by omega) (indexN z underlying31 sz9 z z hv113.sl (by omega))) (TL.w z (loadO1 ([]:List UInt8) z ag9 z (q:=0) z eSl_ (by omega) z) ?_)
      have u47:=grd_c hh
      replace hh:=grd_t hh
      refine TL.isSl (i:=0) z (fun hs132 _ _=> ?_)
      refine TL.w z (indexN z underlying31 sz9 z z hs132 (by omega)) ?_
      have hn133:(l122.set k124 (nth l122 (k105+k125) ([]:List UInt8))).length=x0.length:=by rw [List.length_set];exact hn123
      refine TL.op z (storeS (nth l122 (k105+k125) ([]:List UInt8)) z sz9 z z z z eSl_ eSo_ (by omega) (by omega) ?_)
      exact TL.en (TC.region (TL.i z z (TL.w z (OpVal.succ z z z (by omega)) (TL.i z z (TL.nil (B.n (S.n (cf (((l122.set k124 (nth l122 (k105+k125) ([]:List UInt8))),(k124+1)),()) ⟨hh,hn133⟩ (Sub.pre 1 z)))))))))
     exact TC.skip (B.n (S.n (cf ((l122,k124),()) ⟨hh,hn123⟩ (Sub.pre 1 z))))
    skip
    obtain ⟨⟨l128,k130⟩,_⟩:=g
    obtain ⟨hh,hn129⟩:=hg
    try dsimp only at hn129 ⊢
    dsimp only [Ep_]at hh
    have hn129b:=hn129
    refine TC.isSl (i:=0) z (fun _ hb134 _=> ?_)
    refine TC.region (TL.i z z (TL.w z (OpVal.succ z z z (by omega)) (TL.i z z (TL.en ?_))))
    obtain ⟨hh,hlt135⟩:=nxt_x hR2 hh
    exact lf ((l128,k130,(k125+1)),()) hlt135 ⟨hh,hn129⟩ (Sub.pre 1 z)
   refine TC.exit (S.x (S.x ?_))
   replace hh:=fin_x hR2 hh
   refine TC.exitHere (S.n (TC.a (TL.s z z (TL.i z z ?_))))
   have u57:=grd_c hh
   replace hh:=grd_t hh
   refine TL.isSl (i:=0) z (fun hs136 _ _=> ?_)
   rw [hn123]at hs136
   obtain ⟨a136,c136,hv136,ho136⟩:=vw_of (k:=k124) (size:=1) hs136 (by omega)
   refine TL.w z (ho136 z underlying31 sz9 z z) ?_
   have hn137:(l122.take k124++List.replicate (l122.length - k124) ([]:List UInt8)).length=x0.length:=by simp only [List.length_append,List.length_take,List.length_replicate];try simp only [List.length_replicate]at *;omega
   refine TL.op z (clearV (k:=k124) ([]:List UInt8) z underlying31 ze9 z z hv136 (by omega) (by omega) eSl_ (by decide) z eSo_ ?_)
   refine TL.en (TC.a (TL.s z z (TL.i z z ?_)))
   rw [←hn137]
   have u61:=grd_c hh
   replace hh:=grd_t hh
   refine TL.op z (cutS z underlying31 sz9 z z z z z (by omega) eSl_ ?_)
   refine TL.s z z (TL.en (TC.ret (B.r (S.r (S.r ?_)))))
   replace hh:=fin_x hR1 hh
   refine B.r (S.r ?_)
   obtain rfl:=so hh
   exact ro [Res.rowS 9 1 eS_ (.slice a0_1 ((l122.take k124++List.replicate (l122.length - k124) ([]:List UInt8)).take k124).length c0_2) ((l122.take k124++List.replicate (l122.length - k124) ([]:List UInt8)).take k124)] z (RVs.tmp z RVs.nil) ⟨a0_1,c0_2,z,z,z⟩
  refine TC.skip (B.n (S.n (TC.region (TL.i z z (TL.w z (OpVal.succ z z z (by omega)) (TL.i z z (TL.en ?_)))))))
  obtain ⟨hh,hlt138⟩:=nxt_x hR1 hh
  exact lf ((k105+1),()) hlt138 hh (Sub.pre 1 z)
 refine TC.exit (S.x (S.x ?_))
 replace hh:=fin_x hR1 hh
 refine TC.exitHere (S.n (TC.a (TL.s z z (TL.s z z (TL.en (TC.ret ?_))))))
 obtain rfl:=so hh
 exact ro [Res.rowS 9 1 eS_ (.slice a0_1 x0.length c0_2) x0] z (RVs.tmp z RVs.nil) ⟨a0_1,c0_2,z,z,z⟩
theorem H1_{a:Option Addr}{c:Nat}{l:List Tip}(hl:RS σ 2 encTip (.slice a l.length c) l)(hsz:l.length * 24≤140737488355328):
  Con Tryz.prog 90 #[.slice a l.length c] σ [] (RowP 43 2 encTip l σ):=by
 have hb:=hl.rv.big
 refine Con.mk (n:=8) Tryz.func90 z z z (fun w0=> ?_)
 refine TC.a (TL.s z z (TL.nilS 43 2 encTip (TL.en (TC.seq (TC.a (TL.s z z (TL.w z (eqlNilSl z underlying22 z z) (TL.en (TC.cond z (fun h2=> ?_) (fun h2=> ?_))))))))))
 ·refine TC.a (TL.s z z (TL.nilS 43 2 encTip (TL.en (TC.ret (S.r ?_)))))
  cases a with
  |some _=>simp at h2
  |none=>
   obtain rfl:=hl.none_nil
   exact ret1R z z
 refine TC.skip (S.n (TC.a (TL.op z (lit0 (enc:=encTip) z z underlying22 sz43 z z (fun a4 c5=> ?_)))))
 refine TL.s z z (TL.op z (appendS z z underlying22 sz43 by43 ze43 z z (by decide) z z z (.inl hl) (by simpa using hsz) (by decide) (fun a7 c8=> ?_)))
 exact TL.s z z (TL.en (TC.ret (ret1R z z)))
def C0_(k125:Nat)(l128:List Tip)(k130:Nat):Option (((List Tip)×Nat×Nat)⊕((Nat)⊕((List Tip)))):=
 nxt (l128,k130,(k125+1))
def Cp_(x0:List Tip)(k105:Nat)(l122:List Tip)(k124:Nat)(k125:Nat):Option (((List Tip)×Nat×Nat)⊕((Nat)⊕((List Tip)))):=
 iteO (decide (((k125:Nat):Int)<(((x0.length - k105):Nat):Int))) (grd (k125<(x0.length - k105)) (grd (0≤(IntKind.i64.wrap (((k125:Nat):Int) - 1))∧(IntKind.i64.wrap (((k125:Nat):Int) - 1))<((x0.length - k105):Nat)) (iteO (decide (¬ ((nth l122 (k105+k125) Tip.zero)=(nth l122 (k105+(IntKind.i64.wrap (((k125:Nat):Int) - 1)).toNat) Tip.zero)))) (grd (k125<(x0.length - k105)) (grd (k124<l122.length) (C0_ k125 (l122.set k124 (nth l122 (k105+k125) Tip.zero)) (k124+1)))) (C0_ k125 l122 k124)))) (fin (grd (k124≤x0.length) (grd (k124≤(l122.take k124++List.replicate (l122.length - k124) Tip.zero).length) (fin (some ((l122.take k124++List.replicate (l122.length - k124) Tip.zero).take k124))))))
def Ct_(x0:List Tip)(k105:Nat):Option ((Nat)⊕((List Tip))):=
 iteO (decide (((k105:Nat):Int)<((x0.length:Nat):Int))) (grd (0≤(IntKind.i64.wrap (((k105:Nat):Int) - 1))∧(IntKind.i64.wrap (((k105:Nat):Int) - 1))<(x0.length:Int)) (iteO (decide ((nth x0 k105 Tip.zero)=(nth x0 ((IntKind.i64.wrap (((k105:Nat):Int) - 1)).toNat) Tip.zero))) (grd (k105≤x0.length) (iter (fun q:(List Tip)×Nat×Nat=>Cp_ x0 k105 q.1 q.2.1 q.2.2) (x0,k105,1))) (nxt (k105+1)))) (fin (some x0))
def compactT(x0:List Tip):Option ((List Tip)):=
 iteO (decide (((x0.length:Nat):Int)<2)) (some x0) (iter (fun q:Nat=>Ct_ x0 q) 1)
theorem Ha_{x0:List Tip}{r:(List Tip)}(hh:compactT x0=some r):
  Con Tryz.prog 91 #[.slice a0_1 x0.length c0_2] σ [Res.rowS 43 2 encTip (.slice a0_1 x0.length c0_2) x0] (fun v σ' H'=> ∃a1 c1,v= .slice a1 r.length c1∧σ=σ'∧H'=[Res.rowS 43 2 encTip (.slice a1 r.length c1) r]):=by
 dsimp only [compactT]at hh
 refine Con.mk (n:=61) Tryz.func91 z z z (fun w0=> ?_)
 refine TC.a (TL.s z z (TL.en (TC.seq (TC.a (TL.s z z (TL.w z (lenC z underlying22 z) (TL.w z (OpVal.lss z z z) (TL.en (TC.cD z hh (fun h102 hh=> ?_) (fun h102 hh=> ?_))))))))))
 ·refine TC.a (TL.s z z (TL.s z z (TL.en (TC.ret (S.r ?_)))))
  obtain rfl:=so hh
  exact ro [Res.rowS 43 2 encTip (.slice a0_1 x0.length c0_2) x0] z (RVs.tmp z RVs.nil) ⟨a0_1,c0_2,z,z,z⟩
 refine TC.skip (S.n (TC.seq (TC.a (TL.i z z (TL.en (TC.block (TC.loopG (α:=(Nat)×(Unit)) (rgs [(2,4),(10,50)]) (fun g=>[(3,.int .i64 ((g.1:Nat):Int))]) (fun g=>[Res.rowS 43 2 encTip (.slice a0_1 x0.length c0_2) x0]) (fun g=>σ) (fun g=>iter (fun q:Nat=>Ct_ x0 q) g.1=some r) (fun g=>rounds (fun q:Nat=>Ct_ x0 q) g.1) (1,()) (Sub.pre 1 z) z (by repeat (first|exact trivial|refine ⟨z,?_⟩)) hh (fun g1 j1 hg1=> ?_))))))))
 obtain ⟨k105,_⟩:=g1
 have hh:=hg1;clear hg1
 try dsimp only
 obtain ⟨z1,hh,hR1⟩:=iter_e hh
 dsimp only [Ct_]at hh
 refine TC.isSl (i:=0) z (fun _ hb106 _=> ?_)
 refine TC.seq (TC.a (TL.i z z (TL.s z z (TL.w z (lenC z underlying22 z) (TL.w z (OpVal.lss z z z) (TL.en (TC.cD z hh (fun h107 hh=> ?_) (fun h107 hh=> ?_))))))))
 ·refine TC.skip (S.n (TC.seq (TC.block (TC.seq ?_))))
  have u19:=grd_c hh
  replace hh:=grd_t hh
  refine TC.draw [] (by kernel_rfl) (TA.a 0 z (moveSl (.inl z) z) z (TA.a 1 z (moveI (.inl z) z) z (TA.isSl (i:=0) z (fun hs110 _ _=> ?_))))
  refine TA.b 2 z (indexN z underlying22 sz43 z z hs110 (by omega)) z (TA.b 3 z (loadOA Tip.zero z ag43 sz43 z (q:=0) z encTip_len (by omega) (by omega)) z (TA.a 4 z (moveSl (.inl z) z) z (TA.a 5 z (moveI (.inl z) z) z (TA.a 6 z (subW z z z) z (TA.isSl (i:=0) z (fun hs111 _ _=> ?_))))))
  refine TA.b 7 z (OpVal.index z underlying22 sz43 z z hs111 u19.1 u19.2) z (TA.b 8 z (loadOA Tip.zero z ag43 sz43 z (q:=0) z encTip_len (by omega) (by omega)) z (TA.a 9 z (eqlSt (p:=(nth x0 k105 Tip.zero)=(nth x0 ((IntKind.i64.wrap (((k105:Nat):Int) - 1)).toNat) Tip.zero)) z z z eg43 (es43 (nth x0 k105 Tip.zero) (nth x0 ((IntKind.i64.wrap (((k105:Nat):Int) - 1)).toNat) Tip.zero)) z) z (TA.dn (S.n (TC.cD z hh (fun h112 hh=> ?_) (fun h112 hh=> ?_))))))
  ·refine TC.a (TL.s z z (TL.i z z ?_))
   have u24:=grd_c hh
   replace hh:=grd_t hh
   refine TL.isSl (i:=0) z (fun hs113 _ _=> ?_)
   obtain ⟨a113,c113,hv113,ho113⟩:=vw_of (k:=k105) (size:=2) hs113 (by omega)
   refine TL.w z (ho113 z underlying22 sz43 z z) (TL.s z z (TL.en (TC.seq (TC.a (TL.i z z (TL.en (TC.block (TC.loopG (α:=((List Tip)×Nat×Nat)×(Unit)) (rgs [(3,1),(5,1),(29,25)]) (fun g=>[(3,.int .i64 ((g.1.2.1:Nat):Int)),(5,.int .i64 ((g.1.2.2:Nat):Int))]) (fun g=>[Res.rowS 43 2 encTip (.slice a0_1 x0.length c0_2) g.1.1]) (fun g=>σ) (fun g=>iter (fun q:(List Tip)×Nat×Nat=>Cp_ x0 k105 q.1 q.2.1 q.2.2) g.1=some z1∧g.1.1.length=x0.length) (fun g=>rounds (fun q:(List Tip)×Nat×Nat=>Cp_ x0 k105 q.1 q.2.1 q.2.2) g.1) ((x0,k105,1),()) (Sub.pre 1 z) z (by repeat (first|exact trivial|refine ⟨z,?_⟩)) ⟨hh,z⟩ (fun g2 j2 hg2=> ?_)))))))))
   obtain ⟨⟨l122,k124,k125⟩,_⟩:=g2
   obtain ⟨hh,hn123⟩:=hg2
   try dsimp only at hn123 ⊢
   obtain ⟨z2,hh,hR2⟩:=iter_e hh
   dsimp only [Cp_]at hh
   have hn123b:=hn123
   refine TC.isSl (i:=0) z (fun _ hb126 _=> ?_)
   refine TC.seq (TC.a (TL.i z z (TL.s z z (TL.w z (lenC z underlying22 z) (TL.w z (OpVal.lss z z z) (TL.en (TC.cD z hh (fun h127 hh=> ?_) (fun h127 hh=> ?_))))))))
   ·refine TC.skip (S.n (TC.cutG (α:=((List Tip)×Nat)×(Unit)) (rgs [(3,1),(35,19)]) (fun g=>[(3,.int .i64 ((g.1.2:Nat):Int))]) (fun g=>[Res.rowS 43 2 encTip (.slice a0_1 x0.length c0_2) g.1.1]) (fun g=>σ) (fun g=>C0_ k125 g.1.1 g.1.2=some z2∧g.1.1.length=x0.length) ?_ (fun g j hg=> ?_)))
    ·skip
     refine TC.block (TC.seq ?_)
     have u33:=grd_c hh
     replace hh:=grd_t hh
     have u38:=grd_c hh
     replace hh:=grd_t hh
     refine TC.draw [] (by kernel_rfl) (TA.a 0 z (moveSl (.inl z) z) z (TA.a 1 z (moveI (.inl z) z) z (TA.b 2 z (elVw hv113 (by omega) (indexN z underlying22 sz43 z z hv113.sl (by omega))) z (TA.b 3 z (loadOA Tip.zero z ag43 sz43 z (q:=0) z encTip_len (by omega) (by omega)) z (TA.a 4 z (moveSl (.inl z) z) z (TA.a 5 z (moveI (.inl z) z) z (TA.a 6 z (subW z z z) z (TA.b 7 z (elVw hv113 (by omega) (OpVal.index z underlying22 sz43 z z hv113.sl u38.1 u38.2)) z (TA.b 8 z (loadOA Tip.zero z ag43 sz43 z (q:=0) z encTip_len (by omega) (by omega)) z (TA.a 9 z (neqSt (p:=(nth l122 (k105+k125) Tip.zero)=(nth l122 (k105+(IntKind.i64.wrap (((k125:Nat):Int) - 1)).toNat) Tip.zero)) z z z eg43 (es43 (nth l122 (k105+k125) Tip.zero) (nth l122 (k105+(IntKind.i64.wrap (((k125:Nat):Int) - 1)).toNat) Tip.zero)) z) z (TA.dn (S.n (TC.cD z hh (fun h131 hh=> ?_) (fun h131 hh=> ?_))))))))))))))
     ·refine TC.a (TL.s z z (TL.i z z (TL.s z z (TL.i z z ?_))))
      have u45:=grd_c hh
      replace hh:=grd_t hh
      refine TL.w z (elVw hv113 (by omega) (indexN z underlying22 sz43 z z hv113.sl (by omega))) (TL.w z (loadOA Tip.zero z ag43 sz43 z (q:=0) z encTip_len (by omega) (by omega)) ?_)
      have u47:=grd_c hh
      replace hh:=grd_t hh
      refine TL.isSl (i:=0) z (fun hs132 _ _=> ?_)
      refine TL.w z (indexN z underlying22 sz43 z z hs132 (by omega)) ?_
      have hn133:(l122.set k124 (nth l122 (k105+k125) Tip.zero)).length=x0.length:=by rw [List.length_set];exact hn123
      refine TL.op z (storeS (nth l122 (k105+k125) Tip.zero) z sz43 z z z z encTip_len encTip_one (by omega) (by omega) ?_)
      exact TL.en (TC.region (TL.i z z (TL.w z (OpVal.succ z z z (by omega)) (TL.i z z (TL.nil (B.n (S.n (cf (((l122.set k124 (nth l122 (k105+k125) Tip.zero)),(k124+1)),()) ⟨hh,hn133⟩ (Sub.pre 1 z)))))))))
     exact TC.skip (B.n (S.n (cf ((l122,k124),()) ⟨hh,hn123⟩ (Sub.pre 1 z))))
    skip
    obtain ⟨⟨l128,k130⟩,_⟩:=g
    obtain ⟨hh,hn129⟩:=hg
    try dsimp only at hn129 ⊢
    dsimp only [C0_]at hh
    have hn129b:=hn129
    refine TC.isSl (i:=0) z (fun _ hb134 _=> ?_)
    refine TC.region (TL.i z z (TL.w z (OpVal.succ z z z (by omega)) (TL.i z z (TL.en ?_))))
    obtain ⟨hh,hlt135⟩:=nxt_x hR2 hh
    exact lf ((l128,k130,(k125+1)),()) hlt135 ⟨hh,hn129⟩ (Sub.pre 1 z)
   refine TC.exit (S.x (S.x ?_))
   replace hh:=fin_x hR2 hh
   refine TC.exitHere (S.n (TC.a (TL.s z z (TL.i z z ?_))))
   have u57:=grd_c hh
   replace hh:=grd_t hh
   refine TL.isSl (i:=0) z (fun hs136 _ _=> ?_)
   rw [hn123]at hs136
   obtain ⟨a136,c136,hv136,ho136⟩:=vw_of (k:=k124) (size:=2) hs136 (by omega)
   refine TL.w z (ho136 z underlying22 sz43 z z) ?_
   have hn137:(l122.take k124++List.replicate (l122.length - k124) Tip.zero).length=x0.length:=by simp only [List.length_append,List.length_take,List.length_replicate];try simp only [List.length_replicate]at *;omega
   refine TL.op z (clearV (k:=k124) Tip.zero z underlying22 ze43 z z hv136 (by omega) (by omega) encTip_len (by decide) z encTip_one ?_)
   refine TL.en (TC.a (TL.s z z (TL.i z z ?_)))
   rw [←hn137]
   have u61:=grd_c hh
   replace hh:=grd_t hh
   refine TL.op z (cutS z underlying22 sz43 z z z z z (by omega) encTip_len ?_)
   refine TL.s z z (TL.en (TC.ret (B.r (S.r (S.r ?_)))))
   replace hh:=fin_x hR1 hh
   refine B.r (S.r ?_)
   obtain rfl:=so hh
   exact ro [Res.rowS 43 2 encTip (.slice a0_1 ((l122.take k124++List.replicate (l122.length - k124) Tip.zero).take k124).length c0_2) ((l122.take k124++List.replicate (l122.length - k124) Tip.zero).take k124)] z (RVs.tmp z RVs.nil) ⟨a0_1,c0_2,z,z,z⟩
  refine TC.skip (B.n (S.n (TC.region (TL.i z z (TL.w z (OpVal.succ z z z (by omega)) (TL.i z z (TL.en ?_)))))))
  obtain ⟨hh,hlt138⟩:=nxt_x hR1 hh
  exact lf ((k105+1),()) hlt138 hh (Sub.pre 1 z)
 refine TC.exit (S.x (S.x ?_))
 replace hh:=fin_x hR1 hh
 refine TC.exitHere (S.n (TC.a (TL.s z z (TL.s z z (TL.en (TC.ret ?_))))))
 obtain rfl:=so hh
 exact ro [Res.rowS 43 2 encTip (.slice a0_1 x0.length c0_2) x0] z (RVs.tmp z RVs.nil) ⟨a0_1,c0_2,z,z,z⟩
theorem Hz_{a:Option Addr}{c:Nat}{l:List Arc}(hl:RS σ 8 encArc (.slice a l.length c) l)(hsz:l.length * 72≤140737488355328):
  Con Tryz.prog 94 #[.slice a l.length c] σ [] (RowP 66 8 encArc l σ):=by
 have hb:=hl.rv.big
 refine Con.mk (n:=8) Tryz.func94 z z z (fun w0=> ?_)
 refine TC.a (TL.s z z (TL.nilS 66 8 encArc (TL.en (TC.seq (TC.a (TL.s z z (TL.w z (eqlNilSl z underlying23 z z) (TL.en (TC.cond z (fun h2=> ?_) (fun h2=> ?_))))))))))
 ·refine TC.a (TL.s z z (TL.nilS 66 8 encArc (TL.en (TC.ret (S.r ?_)))))
  cases a with
  |some _=>simp at h2
  |none=>
   obtain rfl:=hl.none_nil
   exact ret1R z z
 refine TC.skip (S.n (TC.a (TL.op z (lit0 (enc:=encArc) z z underlying23 sz66 z z (fun a4 c5=> ?_)))))
 refine TL.s z z (TL.op z (appendS z z underlying23 sz66 by66 ze66 z z (by decide) z z z (.inl hl) (by simpa using hsz) (by decide) (fun a7 c8=> ?_)))
 exact TL.s z z (TL.en (TC.ret (ret1R z z)))
def C1_(k125:Nat)(l128:List Arc)(k130:Nat):Option (((List Arc)×Nat×Nat)⊕((Nat)⊕((List Arc)))):=
 nxt (l128,k130,(k125+1))
def Cw_(x0:List Arc)(k105:Nat)(l122:List Arc)(k124:Nat)(k125:Nat):Option (((List Arc)×Nat×Nat)⊕((Nat)⊕((List Arc)))):=
 iteO (decide (((k125:Nat):Int)<(((x0.length - k105):Nat):Int))) (grd (k125<(x0.length - k105)) (grd (0≤(IntKind.i64.wrap (((k125:Nat):Int) - 1))∧(IntKind.i64.wrap (((k125:Nat):Int) - 1))<((x0.length - k105):Nat)) (iteO (decide (¬ ((nth l122 (k105+k125) Arc.zero)=(nth l122 (k105+(IntKind.i64.wrap (((k125:Nat):Int) - 1)).toNat) Arc.zero)))) (grd (k125<(x0.length - k105)) (grd (k124<l122.length) (C1_ k125 (l122.set k124 (nth l122 (k105+k125) Arc.zero)) (k124+1)))) (C1_ k125 l122 k124)))) (fin (grd (k124≤x0.length) (grd (k124≤(l122.take k124++List.replicate (l122.length - k124) Arc.zero).length) (fin (some ((l122.take k124++List.replicate (l122.length - k124) Arc.zero).take k124))))))
def Cv_(x0:List Arc)(k105:Nat):Option ((Nat)⊕((List Arc))):=
 iteO (decide (((k105:Nat):Int)<((x0.length:Nat):Int))) (grd (0≤(IntKind.i64.wrap (((k105:Nat):Int) - 1))∧(IntKind.i64.wrap (((k105:Nat):Int) - 1))<(x0.length:Int)) (iteO (decide ((nth x0 k105 Arc.zero)=(nth x0 ((IntKind.i64.wrap (((k105:Nat):Int) - 1)).toNat) Arc.zero))) (grd (k105≤x0.length) (iter (fun q:(List Arc)×Nat×Nat=>Cw_ x0 k105 q.1 q.2.1 q.2.2) (x0,k105,1))) (nxt (k105+1)))) (fin (some x0))
def compactA(x0:List Arc):Option ((List Arc)):=
 iteO (decide (((x0.length:Nat):Int)<2)) (some x0) (iter (fun q:Nat=>Cv_ x0 q) 1)
theorem Hc_{x0:List Arc}{r:(List Arc)}(hh:compactA x0=some r):
  Con Tryz.prog 96 #[.slice a0_1 x0.length c0_2] σ [Res.rowS 66 8 encArc (.slice a0_1 x0.length c0_2) x0] (fun v σ' H'=> ∃a1 c1,v= .slice a1 r.length c1∧σ=σ'∧H'=[Res.rowS 66 8 encArc (.slice a1 r.length c1) r]):=by
 dsimp only [compactA]at hh
 refine Con.mk (n:=61) Tryz.func96 z z z (fun w0=> ?_)
 refine TC.a (TL.s z z (TL.en (TC.seq (TC.a (TL.s z z (TL.w z (lenC z underlying23 z) (TL.w z (OpVal.lss z z z) (TL.en (TC.cD z hh (fun h102 hh=> ?_) (fun h102 hh=> ?_))))))))))
 ·refine TC.a (TL.s z z (TL.s z z (TL.en (TC.ret (S.r ?_)))))
  obtain rfl:=so hh
  exact ro [Res.rowS 66 8 encArc (.slice a0_1 x0.length c0_2) x0] z (RVs.tmp z RVs.nil) ⟨a0_1,c0_2,z,z,z⟩
 refine TC.skip (S.n (TC.seq (TC.a (TL.i z z (TL.en (TC.block (TC.loopG (α:=(Nat)×(Unit)) (rgs [(2,4),(10,50)]) (fun g=>[(3,.int .i64 ((g.1:Nat):Int))]) (fun g=>[Res.rowS 66 8 encArc (.slice a0_1 x0.length c0_2) x0]) (fun g=>σ) (fun g=>iter (fun q:Nat=>Cv_ x0 q) g.1=some r) (fun g=>rounds (fun q:Nat=>Cv_ x0 q) g.1) (1,()) (Sub.pre 1 z) z (by repeat (first|exact trivial|refine ⟨z,?_⟩)) hh (fun g1 j1 hg1=> ?_))))))))
 obtain ⟨k105,_⟩:=g1
 have hh:=hg1;clear hg1
 try dsimp only
 obtain ⟨z1,hh,hR1⟩:=iter_e hh
 dsimp only [Cv_]at hh
 refine TC.isSl (i:=0) z (fun _ hb106 _=> ?_)
 refine TC.seq (TC.a (TL.i z z (TL.s z z (TL.w z (lenC z underlying23 z) (TL.w z (OpVal.lss z z z) (TL.en (TC.cD z hh (fun h107 hh=> ?_) (fun h107 hh=> ?_))))))))
 ·refine TC.skip (S.n (TC.seq (TC.block (TC.seq ?_))))
  have u19:=grd_c hh
  replace hh:=grd_t hh
  refine TC.draw [] (by kernel_rfl) (TA.a 0 z (moveSl (.inl z) z) z (TA.a 1 z (moveI (.inl z) z) z (TA.isSl (i:=0) z (fun hs110 _ _=> ?_))))
  refine TA.b 2 z (indexN z underlying23 sz66 z z hs110 (by omega)) z (TA.b 3 z (loadOA Arc.zero z ag66 sz66 z (q:=0) z encArc_len (by omega) (by omega)) z (TA.a 4 z (moveSl (.inl z) z) z (TA.a 5 z (moveI (.inl z) z) z (TA.a 6 z (subW z z z) z (TA.isSl (i:=0) z (fun hs111 _ _=> ?_))))))
  refine TA.b 7 z (OpVal.index z underlying23 sz66 z z hs111 u19.1 u19.2) z (TA.b 8 z (loadOA Arc.zero z ag66 sz66 z (q:=0) z encArc_len (by omega) (by omega)) z (TA.a 9 z (eqlSt (p:=(nth x0 k105 Arc.zero)=(nth x0 ((IntKind.i64.wrap (((k105:Nat):Int) - 1)).toNat) Arc.zero)) z z z eg66 (es66 (nth x0 k105 Arc.zero) (nth x0 ((IntKind.i64.wrap (((k105:Nat):Int) - 1)).toNat) Arc.zero)) z) z (TA.dn (S.n (TC.cD z hh (fun h112 hh=> ?_) (fun h112 hh=> ?_))))))
  ·refine TC.a (TL.s z z (TL.i z z ?_))
   have u24:=grd_c hh
   replace hh:=grd_t hh
   refine TL.isSl (i:=0) z (fun hs113 _ _=> ?_)
   obtain ⟨a113,c113,hv113,ho113⟩:=vw_of (k:=k105) (size:=8) hs113 (by omega)
   refine TL.w z (ho113 z underlying23 sz66 z z) (TL.s z z (TL.en (TC.seq (TC.a (TL.i z z (TL.en (TC.block (TC.loopG (α:=((List Arc)×Nat×Nat)×(Unit)) (rgs [(3,1),(5,1),(29,25)]) (fun g=>[(3,.int .i64 ((g.1.2.1:Nat):Int)),(5,.int .i64 ((g.1.2.2:Nat):Int))]) (fun g=>[Res.rowS 66 8 encArc (.slice a0_1 x0.length c0_2) g.1.1]) (fun g=>σ) (fun g=>iter (fun q:(List Arc)×Nat×Nat=>Cw_ x0 k105 q.1 q.2.1 q.2.2) g.1=some z1∧g.1.1.length=x0.length) (fun g=>rounds (fun q:(List Arc)×Nat×Nat=>Cw_ x0 k105 q.1 q.2.1 q.2.2) g.1) ((x0,k105,1),()) (Sub.pre 1 z) z (by repeat (first|exact trivial|refine ⟨z,?_⟩)) ⟨hh,z⟩ (fun g2 j2 hg2=> ?_)))))))))
   obtain ⟨⟨l122,k124,k125⟩,_⟩:=g2
   obtain ⟨hh,hn123⟩:=hg2
   try dsimp only at hn123 ⊢
   obtain ⟨z2,hh,hR2⟩:=iter_e hh
   dsimp only [Cw_]at hh
   have hn123b:=hn123
   refine TC.isSl (i:=0) z (fun _ hb126 _=> ?_)
   refine TC.seq (TC.a (TL.i z z (TL.s z z (TL.w z (lenC z underlying23 z) (TL.w z (OpVal.lss z z z) (TL.en (TC.cD z hh (fun h127 hh=> ?_) (fun h127 hh=> ?_))))))))
   ·refine TC.skip (S.n (TC.cutG (α:=((List Arc)×Nat)×(Unit)) (rgs [(3,1),(35,19)]) (fun g=>[(3,.int .i64 ((g.1.2:Nat):Int))]) (fun g=>[Res.rowS 66 8 encArc (.slice a0_1 x0.length c0_2) g.1.1]) (fun g=>σ) (fun g=>C1_ k125 g.1.1 g.1.2=some z2∧g.1.1.length=x0.length) ?_ (fun g j hg=> ?_)))
    ·skip
     refine TC.block (TC.seq ?_)
     have u33:=grd_c hh
     replace hh:=grd_t hh
     have u38:=grd_c hh
     replace hh:=grd_t hh
     refine TC.draw [] (by kernel_rfl) (TA.a 0 z (moveSl (.inl z) z) z (TA.a 1 z (moveI (.inl z) z) z (TA.b 2 z (elVw hv113 (by omega) (indexN z underlying23 sz66 z z hv113.sl (by omega))) z (TA.b 3 z (loadOA Arc.zero z ag66 sz66 z (q:=0) z encArc_len (by omega) (by omega)) z (TA.a 4 z (moveSl (.inl z) z) z (TA.a 5 z (moveI (.inl z) z) z (TA.a 6 z (subW z z z) z (TA.b 7 z (elVw hv113 (by omega) (OpVal.index z underlying23 sz66 z z hv113.sl u38.1 u38.2)) z (TA.b 8 z (loadOA Arc.zero z ag66 sz66 z (q:=0) z encArc_len (by omega) (by omega)) z (TA.a 9 z (neqSt (p:=(nth l122 (k105+k125) Arc.zero)=(nth l122 (k105+(IntKind.i64.wrap (((k125:Nat):Int) - 1)).toNat) Arc.zero)) z z z eg66 (es66 (nth l122 (k105+k125) Arc.zero) (nth l122 (k105+(IntKind.i64.wrap (((k125:Nat):Int) - 1)).toNat) Arc.zero)) z) z (TA.dn (S.n (TC.cD z hh (fun h131 hh=> ?_) (fun h131 hh=> ?_))))))))))))))
     ·refine TC.a (TL.s z z (TL.i z z (TL.s z z (TL.i z z ?_))))
      have u45:=grd_c hh
      replace hh:=grd_t hh
      refine TL.w z (elVw hv113 (by omega) (indexN z underlying23 sz66 z z hv113.sl (by omega))) (TL.w z (loadOA Arc.zero z ag66 sz66 z (q:=0) z encArc_len (by omega) (by omega)) ?_)
      have u47:=grd_c hh
      replace hh:=grd_t hh
      refine TL.isSl (i:=0) z (fun hs132 _ _=> ?_)
      refine TL.w z (indexN z underlying23 sz66 z z hs132 (by omega)) ?_
      have hn133:(l122.set k124 (nth l122 (k105+k125) Arc.zero)).length=x0.length:=by rw [List.length_set];exact hn123
      refine TL.op z (storeS (nth l122 (k105+k125) Arc.zero) z sz66 z z z z encArc_len encArc_one (by omega) (by omega) ?_)
      exact TL.en (TC.region (TL.i z z (TL.w z (OpVal.succ z z z (by omega)) (TL.i z z (TL.nil (B.n (S.n (cf (((l122.set k124 (nth l122 (k105+k125) Arc.zero)),(k124+1)),()) ⟨hh,hn133⟩ (Sub.pre 1 z)))))))))
     exact TC.skip (B.n (S.n (cf ((l122,k124),()) ⟨hh,hn123⟩ (Sub.pre 1 z))))
    skip
    obtain ⟨⟨l128,k130⟩,_⟩:=g
    obtain ⟨hh,hn129⟩:=hg
    try dsimp only at hn129 ⊢
    dsimp only [C1_]at hh
    have hn129b:=hn129
    refine TC.isSl (i:=0) z (fun _ hb134 _=> ?_)
    refine TC.region (TL.i z z (TL.w z (OpVal.succ z z z (by omega)) (TL.i z z (TL.en ?_))))
    obtain ⟨hh,hlt135⟩:=nxt_x hR2 hh
    exact lf ((l128,k130,(k125+1)),()) hlt135 ⟨hh,hn129⟩ (Sub.pre 1 z)
   refine TC.exit (S.x (S.x ?_))
   replace hh:=fin_x hR2 hh
   refine TC.exitHere (S.n (TC.a (TL.s z z (TL.i z z ?_))))
   have u57:=grd_c hh
   replace hh:=grd_t hh
   refine TL.isSl (i:=0) z (fun hs136 _ _=> ?_)
   rw [hn123]at hs136
   obtain ⟨a136,c136,hv136,ho136⟩:=vw_of (k:=k124) (size:=8) hs136 (by omega)
   refine TL.w z (ho136 z underlying23 sz66 z z) ?_
   have hn137:(l122.take k124++List.replicate (l122.length - k124) Arc.zero).length=x0.length:=by simp only [List.length_append,List.length_take,List.length_replicate];try simp only [List.length_replicate]at *;omega
   refine TL.op z (clearV (k:=k124) Arc.zero z underlying23 ze66 z z hv136 (by omega) (by omega) encArc_len (by decide) z encArc_one ?_)
   refine TL.en (TC.a (TL.s z z (TL.i z z ?_)))
   rw [←hn137]
   have u61:=grd_c hh
   replace hh:=grd_t hh
   refine TL.op z (cutS z underlying23 sz66 z z z z z (by omega) encArc_len ?_)
   refine TL.s z z (TL.en (TC.ret (B.r (S.r (S.r ?_)))))
   replace hh:=fin_x hR1 hh
   refine B.r (S.r ?_)
   obtain rfl:=so hh
   exact ro [Res.rowS 66 8 encArc (.slice a0_1 ((l122.take k124++List.replicate (l122.length - k124) Arc.zero).take k124).length c0_2) ((l122.take k124++List.replicate (l122.length - k124) Arc.zero).take k124)] z (RVs.tmp z RVs.nil) ⟨a0_1,c0_2,z,z,z⟩
  refine TC.skip (B.n (S.n (TC.region (TL.i z z (TL.w z (OpVal.succ z z z (by omega)) (TL.i z z (TL.en ?_)))))))
  obtain ⟨hh,hlt138⟩:=nxt_x hR1 hh
  exact lf ((k105+1),()) hlt138 hh (Sub.pre 1 z)
 refine TC.exit (S.x (S.x ?_))
 replace hh:=fin_x hR1 hh
 refine TC.exitHere (S.n (TC.a (TL.s z z (TL.s z z (TL.en (TC.ret ?_))))))
 obtain rfl:=so hh
 exact ro [Res.rowS 66 8 encArc (.slice a0_1 x0.length c0_2) x0] z (RVs.tmp z RVs.nil) ⟨a0_1,c0_2,z,z,z⟩
def onceS(x0:List (List UInt8)):Option ((List (List UInt8))):=
 grd (x0.length * 16≤140737488355328) (bnd (compactS (sortL Lib.compareBytes x0)) (fun v9=>some v9))
def Ih_(σ:Store)(r:(List (List UInt8))):Value→Store→List Res→Prop:=fun v σ' H'=>
 ∃a1 c1,v= .slice a1 r.length c1∧σ=σ'∧H'=[Res.rowS 9 1 eS_ (.slice a1 r.length c1) r]
theorem H3_{x0:List (List UInt8)}(f0_0:RS σ 1 eS_ (.slice a0_0 x0.length c0_0) x0){r:(List (List UInt8))}(hh:onceS x0=some r):
  Con Tryz.prog 31 #[.slice a0_0 x0.length c0_0,.func (.func 32) #[] #[]] σ [] (Ih_ σ r):=by
 dsimp only [onceS]at hh
 have f0_0b:=f0_0.rv.big
 refine Con.mk (n:=13) Tryz.func31 z z z (fun w0=> ?_)
 refine TC.a (TL.s z z (TL.en (TC.a (TL.s z z ?_))))
 have u3:=grd_c hh
 replace hh:=grd_t hh
 refine TL.op z (OpOk.call (Hx_ f0_0 u3) z z pf63 z z z z ?_)
 rintro _ _ _ _ ⟨⟨a101,c102,rfl⟩,rfl,rfl⟩
 refine TL.s z z (TL.en (TC.a (TL.s z z (TL.w z (moveFn (.inl z) z) ?_))))
 have hn104:(sortL Lib.compareBytes x0).length=x0.length:=List.length_mergeSort _
 refine TL.op z (OpOk.call (H4_ (l:=x0)) z z pf64 z z z z ?_)
 rintro _ _ _ _ ⟨rfl,rfl,rfl⟩
 refine TL.en (TC.a (TL.s z z ?_))
 rw [←hn104]
 obtain ⟨v9,u9,hh⟩:=bnd_e hh
 refine TL.op z (OpOk.call (Hn_ u9) z z pf65 z z z z ?_)
 rintro _ _ _ hle105 ⟨a105_1,c105_2,rfl,rfl,rfl⟩
 refine TL.s z z (TL.en (TC.ret ?_))
 obtain rfl:=so hh
 exact ro [Res.rowS 9 1 eS_ (.slice a105_1 v9.length c105_2) v9] z (RVs.tmp z RVs.nil) ⟨a105_1,c105_2,z,z,z⟩
def onceT(x0:List Tip):Option ((List Tip)):=
 grd (x0.length * 24≤140737488355328) (bnd (compactT (sortL cmpTip x0)) (fun v9=>some v9))
def If_(σ:Store)(r:(List Tip)):Value→Store→List Res→Prop:=fun v σ' H'=>
 ∃a1 c1,v= .slice a1 r.length c1∧σ=σ'∧H'=[Res.rowS 43 2 encTip (.slice a1 r.length c1) r]
theorem G9_{x0:List Tip}(f0_0:RS σ 2 encTip (.slice a0_0 x0.length c0_0) x0){r:(List Tip)}(hh:onceT x0=some r):
  Con Tryz.prog 57 #[.slice a0_0 x0.length c0_0,.func (.func 58) #[] #[]] σ [] (If_ σ r):=by
 dsimp only [onceT]at hh
 have f0_0b:=f0_0.rv.big
 refine Con.mk (n:=13) Tryz.func57 z z z (fun w0=> ?_)
 refine TC.a (TL.s z z (TL.en (TC.a (TL.s z z ?_))))
 have u3:=grd_c hh
 replace hh:=grd_t hh
 refine TL.op z (OpOk.call (H1_ f0_0 u3) z z pf90 z z z z ?_)
 rintro _ _ _ _ ⟨⟨a101,c102,rfl⟩,rfl,rfl⟩
 refine TL.s z z (TL.en (TC.a (TL.s z z (TL.w z (moveFn (.inl z) z) ?_))))
 have hn104:(sortL cmpTip x0).length=x0.length:=List.length_mergeSort _
 refine TL.op z (OpOk.call (H7_ (l:=x0)) z z pf68 z z z z ?_)
 rintro _ _ _ _ ⟨rfl,rfl,rfl⟩
 refine TL.en (TC.a (TL.s z z ?_))
 rw [←hn104]
 obtain ⟨v9,u9,hh⟩:=bnd_e hh
 refine TL.op z (OpOk.call (Ha_ u9) z z pf91 z z z z ?_)
 rintro _ _ _ hle105 ⟨a105_1,c105_2,rfl,rfl,rfl⟩
 refine TL.s z z (TL.en (TC.ret ?_))
 obtain rfl:=so hh
 exact ro [Res.rowS 43 2 encTip (.slice a105_1 v9.length c105_2) v9] z (RVs.tmp z RVs.nil) ⟨a105_1,c105_2,z,z,z⟩
def onceA(x0:List Arc):Option ((List Arc)):=
 grd (x0.length * 72≤140737488355328) (bnd (compactA (sortL cmpArc x0)) (fun v9=>some v9))
def Ig_(σ:Store)(r:(List Arc)):Value→Store→List Res→Prop:=fun v σ' H'=>
 ∃a1 c1,v= .slice a1 r.length c1∧σ=σ'∧H'=[Res.rowS 66 8 encArc (.slice a1 r.length c1) r]
theorem H6_{x0:List Arc}(f0_0:RS σ 8 encArc (.slice a0_0 x0.length c0_0) x0){r:(List Arc)}(hh:onceA x0=some r):
  Con Tryz.prog 59 #[.slice a0_0 x0.length c0_0,.func (.func 60) #[] #[]] σ [] (Ig_ σ r):=by
 dsimp only [onceA]at hh
 have f0_0b:=f0_0.rv.big
 refine Con.mk (n:=13) Tryz.func59 z z z (fun w0=> ?_)
 refine TC.a (TL.s z z (TL.en (TC.a (TL.s z z ?_))))
 have u3:=grd_c hh
 replace hh:=grd_t hh
 refine TL.op z (OpOk.call (Hz_ f0_0 u3) z z pf94 z z z z ?_)
 rintro _ _ _ _ ⟨⟨a101,c102,rfl⟩,rfl,rfl⟩
 refine TL.s z z (TL.en (TC.a (TL.s z z (TL.w z (moveFn (.inl z) z) ?_))))
 have hn104:(sortL cmpArc x0).length=x0.length:=List.length_mergeSort _
 refine TL.op z (OpOk.call (H9_ (l:=x0)) z z pf95 z z z z ?_)
 rintro _ _ _ _ ⟨rfl,rfl,rfl⟩
 refine TL.en (TC.a (TL.s z z ?_))
 rw [←hn104]
 obtain ⟨v9,u9,hh⟩:=bnd_e hh
 refine TL.op z (OpOk.call (Hc_ u9) z z pf96 z z z z ?_)
 rintro _ _ _ hle105 ⟨a105_1,c105_2,rfl,rfl,rfl⟩
 refine TL.s z z (TL.en (TC.ret ?_))
 obtain rfl:=so hh
 exact ro [Res.rowS 66 8 encArc (.slice a105_1 v9.length c105_2) v9] z (RVs.tmp z RVs.nil) ⟨a105_1,c105_2,z,z,z⟩
def Fp_(x0:Fst):Option (Fst×Int):=
 bnd (Bk_ x0) (fun v5=>iteO (decide (v5≠0)) (some ((⟨0,([]:List Tip),([]:List Tip),([]:List Arc)⟩:Fst),1)) (bnd (onceT x0.starts) (fun v14=>bnd (onceT x0.ends) (fun v17=>bnd (onceA x0.arcs) (fun v20=>some ((⟨x0.states,v14,v17,v20⟩:Fst),0))))))
def Hw_(σ:Store)(r:Fst×Int):Value→Store→List Res→Prop:=fun v σ' H'=>
 ∃a1 c1 a2 c2 a3 c3,v= .tuple #[.agg #[.int .i64 r.1.states,.slice a1 r.1.starts.length c1,.slice a2 r.1.ends.length c2,.slice a3 r.1.arcs.length c3],.int .i64 r.2]∧RS σ' 2 encTip (.slice a1 r.1.starts.length c1) r.1.starts∧RS σ' 2 encTip (.slice a2 r.1.ends.length c2) r.1.ends∧RS σ' 8 encArc (.slice a3 r.1.arcs.length c3) r.1.arcs∧H'=[]
theorem Ho_{x0:Fst}(f0_0:RS σ 2 encTip (.slice a0_0 x0.starts.length c0_0) x0.starts)(f0_1:RS σ 2 encTip (.slice a0_1 x0.ends.length c0_1) x0.ends)(f0_2:RS σ 8 encArc (.slice a0_2 x0.arcs.length c0_2) x0.arcs){r:Fst×Int}(hh:Fp_ x0=some r):
  Con Tryz.prog 26 #[.agg #[.int .i64 x0.states,.slice a0_0 x0.starts.length c0_0,.slice a0_1 x0.ends.length c0_1,.slice a0_2 x0.arcs.length c0_2]] σ [] (Hw_ σ r):=by
 dsimp only [Fp_]at hh
 have f0_0b:=f0_0.rv.big
 have f0_1b:=f0_1.rv.big
 have f0_2b:=f0_2.rv.big
 refine Con.mk (n:=20) Tryz.func26 z z z (fun w0=> ?_)
 refine TC.a (TL.op z (boxA z z z z (fun b101=> ?_)))
 refine TL.op z (OpOk.alloc z ze25 z z (fun b103=> ?_))
 refine TL.i z z (TL.en (TC.seq (TC.a (TL.w z (loadAll z ag25 sz25 z (i:=1) z z) ?_))))
 obtain ⟨v5,u5,hh⟩:=bnd_e hh
 refine TL.op z (callP (Co_ (x0:=x0) f0_0 f0_1 f0_2 u5) z z pf21 z z z ?_)
 refine TL.w z (OpVal.neq z z z) (TL.en (TC.cD z hh (fun h105 hh=> ?_) (fun h105 hh=> ?_)))
 ·refine TC.a (TL.w z (buildL z pl25 ze25 z) (TL.op z (storeAll z sz25 z z z z z z ?_)))
  refine TL.i z z (TL.en (TC.rt 1 (S.r ?_)))
  obtain rfl:=so hh
  exact ro [] z (RVs.agg ag25 sz25 z (i:=0) z z (RVs.tmp z RVs.nil)) ⟨none,0,none,0,none,0,z,(RS.nilF _ encTip encTip_len),(RS.nilF _ encTip encTip_len),(RS.nilF _ encArc encArc_len),z⟩
 refine TC.skip (S.n (TC.seq ?_))
 obtain ⟨v14,u14,hh⟩:=bnd_e hh
 obtain ⟨v17,u17,hh⟩:=bnd_e hh
 obtain ⟨v20,u20,hh⟩:=bnd_e hh
 refine TC.draw [12,13] (by kernel_rfl) (TA.a 0 z (fieldLoc z fo25_0 z) z (TA.b 1 z (loadLoc z ag3 z (i:=1) z z) z (TA.a 2 z (fieldLoc z fo25_1 z) z (TA.b 3 z (loadLoc z ag22 z (i:=1) z z) z (TA.a 5 z (fieldLoc z fo25_2 z) z (TA.b 6 z (loadLoc z ag22 z (i:=1) z z) z (TA.a 8 z (fieldLoc z fo25_3 z) z (TA.b 9 z (loadLoc z ag23 z (i:=1) z z) z (TA.ac 4 z (OpOk.call (G9_ f0_0 u14) z z pf57 z z z z ?_))))))))))
 rintro _ _ _ hle112 ⟨a112_1,c112_1,rfl,rfl,rfl⟩
 refine k1 (TA.ac 7 z (OpOk.call (G9_ f0_1 u17) z z pf57 z z z z ?_))
 rintro _ _ _ hle114 ⟨a114_1,c114_1,rfl,rfl,rfl⟩
 refine k2 (TA.ac 10 z (OpOk.call (H6_ f0_2 u20) z z pf59 z z z z ?_))
 rintro _ _ _ hle116 ⟨a116_1,c116_1,rfl,rfl,rfl⟩
 refine k3 (TA.a 11 z (buildL z pl25 ze25 z) z (TA.front 3 z z (TA.last 12 (by kernel_rfl) z z z (storeAll z sz25 z z z z z z ?_))))
 refine TZ.v 13 (by kernel_rfl) z z z (moveI (.inr z) z) z z (TZ.done (by kernel_rfl) (S.n (TC.front 3 z z (TC.sealS encTip_len (fun τ120 hle119 hr118=> ?_)))))
 have hr118b:=hr118.rv.big
 refine TC.front 2 z z (TC.sealS encTip_len (fun τ123 hle122 hr121=> ?_))
 replace hr118:=hr118.mono hle122
 have hr121b:=hr121.rv.big
 refine TC.front 1 z z (TC.sealS encArc_len (fun τ126 hle125 hr124=> ?_))
 replace hr118:=hr118.mono hle125
 replace hr121:=hr121.mono hle125
 have hr124b:=hr124.rv.big
 refine TC.rt 1 ?_
 obtain rfl:=so hh
 exact ro [] z (RVs.agg ag25 sz25 z (i:=0) z z (RVs.tmp z RVs.nil)) ⟨a112_1,c112_1,a114_1,c114_1,a116_1,c116_1,z,hr118,hr121,hr124,z⟩
def F6_(l120:List (List Arc))(x0:Fst)(k124:Nat):Option (((List (List Arc))×Nat)⊕((List (List UInt8))×Int)):=
 nxt ((l120.set (((nth x0.arcs k124 Arc.zero).frm).toNat) ((nth l120 (((nth x0.arcs k124 Arc.zero).frm).toNat) ([]:List Arc))++[(nth x0.arcs k124 Arc.zero)])),(k124+1))
def F4_(l229:List (List (List UInt8)))(x0:Fst)(k233:Nat):Option (((List (List (List UInt8)))×Nat)⊕((List (List UInt8))×Int)):=
 nxt ((l229.set (((nth x0.ends k233 Tip.zero).state).toNat) ((nth l229 (((nth x0.ends k233 Tip.zero).state).toNat) ([]:List (List UInt8)))++[(nth x0.ends k233 Tip.zero).out])),(k233+1))
def Bw_(l229:List (List (List UInt8)))(v120c:FPair×Unit)(l338:List (List UInt8))(k341:Nat):Option (((List (List UInt8))×Nat)⊕(((List (List UInt8)))⊕((List (List UInt8))×Int))):=
 iteO (decide (((k341:Nat):Int)<(((nth l229 v120c.1.state.toNat ([]:List (List UInt8))).length:Nat):Int))) (grd (v120c.1.out.length+(nth (nth l229 v120c.1.state.toNat ([]:List (List UInt8))) k341 ([]:List UInt8)).length≤9223372036854775807) (grd ((l338.length+[(v120c.1.out++(nth (nth l229 v120c.1.state.toNat ([]:List (List UInt8))) k341 ([]:List UInt8)))].length) * 16≤140737488355328) (nxt ((l338++[(v120c.1.out++(nth (nth l229 v120c.1.state.toNat ([]:List (List UInt8))) k341 ([]:List UInt8)))]),(k341+1))))) (fin (nxt l338))
def Bz_(l229:List (List (List UInt8)))(l299:List (List UInt8))(oE:Option (FPair×Unit)):Option (((List (List UInt8)))⊕((List (List UInt8))×Int)):=
 optE oE (fin (bnd (onceS l299) (fun v148=>some (v148,0)))) (fun v120c=>grd (0≤v120c.1.state∧v120c.1.state<(l229.length:Int)) (iter (fun q:(List (List UInt8))×Nat=>Bw_ l229 v120c q.1 q.2) (l299,0)))
def B0_(x0:Fst)(m201:FM FPair Unit)(l229:List (List (List UInt8)))(k233:Nat):Option (((List (List (List UInt8)))×Nat)⊕((List (List UInt8))×Int)):=
 iteO (decide (((k233:Nat):Int)<((x0.ends.length:Nat):Int))) (grd (0≤((nth x0.ends k233 Tip.zero).state)∧((nth x0.ends k233 Tip.zero).state)<(l229.length:Int)) (grd (((nth l229 (((nth x0.ends k233 Tip.zero).state).toNat) ([]:List (List UInt8))).length+[(nth x0.ends k233 Tip.zero).out].length) * 16≤140737488355328) (grd (0≤((nth x0.ends k233 Tip.zero).state)∧((nth x0.ends k233 Tip.zero).state)<(l229.length:Int)) (F4_ l229 x0 k233)))) (fin (allP (fun q=>Rep q m201) (fun q=>runL (fun (q:(List (List UInt8))) (oE:Option (FPair×Unit))=>Bz_ l229 q oE) q ([]:List (List UInt8)))))
def Be_(x1:List UInt8)(l120:List (List Arc))(x0:Fst)(m201:FM FPair Unit)(k203:Nat):Option (((FM FPair Unit)×Nat)⊕((List (List UInt8))×Int)):=
 iteO (decide (((k203:Nat):Int)<((x1.length:Nat):Int))) (bnd (Fd_ l120 m201 (nth x1 k203 (0:UInt8))) (fun v74=>iteO (!v74.2) (fin (some (([]:List (List UInt8)),2))) (nxt (v74.1,(k203+1))))) (fin (grd (0≤x0.states∧24 * x0.states.toNat≤281474976710656) (iter (fun q:(List (List (List UInt8)))×Nat=>B0_ x0 m201 q.1 q.2) ((List.replicate x0.states.toNat ([]:List (List UInt8))),0))))
def Bv_(x0:Fst)(x1:List UInt8)(l120:List (List Arc))(m180:FM FPair Unit)(k181:Nat):Option (((FM FPair Unit)×Nat)⊕((List (List UInt8))×Int)):=
 iteO (decide (((k181:Nat):Int)<((x0.starts.length:Nat):Int))) (nxt ((m180.put (⟨(nth x0.starts k181 Tip.zero).state,(nth x0.starts k181 Tip.zero).out⟩:FPair) ()),(k181+1))) (fin (iter (fun q:(FM FPair Unit)×Nat=>Be_ x1 l120 x0 q.1 q.2) (m180,0)))
def By_(x0:Fst)(x1:List UInt8)(l120:List (List Arc))(k124:Nat):Option (((List (List Arc))×Nat)⊕((List (List UInt8))×Int)):=
 iteO (decide (((k124:Nat):Int)<((x0.arcs.length:Nat):Int))) (grd (0≤((nth x0.arcs k124 Arc.zero).frm)∧((nth x0.arcs k124 Arc.zero).frm)<(l120.length:Int)) (grd (((nth l120 (((nth x0.arcs k124 Arc.zero).frm).toNat) ([]:List Arc)).length+[(nth x0.arcs k124 Arc.zero)].length) * 72≤140737488355328) (grd (0≤((nth x0.arcs k124 Arc.zero).frm)∧((nth x0.arcs k124 Arc.zero).frm)<(l120.length:Int)) (F6_ l120 x0 k124)))) (fin (iter (fun q:(FM FPair Unit)×Nat=>Bv_ x0 x1 l120 q.1 q.2) ((FM.emp:FM FPair Unit),0)))
def Fn_(x0:Fst)(x1:List UInt8):Option ((List (List UInt8))×Int):=
 grd (x1.length≤281474976710656) (bnd (Bk_ x0) (fun v5=>iteO (decide (v5≠0)) (some (([]:List (List UInt8)),1)) (iteO (decide (256<((x1.length:Nat):Int))) (some (([]:List (List UInt8)),2)) (grd (0≤x0.states∧24 * x0.states.toNat≤281474976710656) (iter (fun q:(List (List Arc))×Nat=>By_ x0 x1 q.1 q.2) ((List.replicate x0.states.toNat ([]:List Arc)),0))))))
def H2_(σ:Store)(r:(List (List UInt8))×Int):Value→Store→List Res→Prop:=fun v σ' H'=>
 ∃a1 c1,v= .tuple #[.slice a1 r.1.length c1,.int .i64 r.2]∧RS σ' 1 eS_ (.slice a1 r.1.length c1) r.1∧H'=[]
theorem Hh_{x0:Fst}{x1:List UInt8}(f0_0:RS σ 2 encTip (.slice a0_0 x0.starts.length c0_0) x0.starts)(f0_1:RS σ 2 encTip (.slice a0_1 x0.ends.length c0_1) x0.ends)(f0_2:RS σ 8 encArc (.slice a0_2 x0.arcs.length c0_2) x0.arcs){r:(List (List UInt8))×Int}(hh:Fn_ x0 x1=some r):
  Con Tryz.prog 11 #[.agg #[.int .i64 x0.states,.slice a0_0 x0.starts.length c0_0,.slice a0_1 x0.ends.length c0_1,.slice a0_2 x0.arcs.length c0_2],.string (bs x1)] σ [] (H2_ σ r):=by
 dsimp only [Fn_]at hh
 have f0_0b:=f0_0.rv.big
 have f0_1b:=f0_1.rv.big
 have f0_2b:=f0_2.rv.big
 refine Con.mk (n:=135) Tryz.func11 z z z (fun w0=> ?_)
 have x1b:=grd_c hh
 replace hh:=grd_t hh
 refine TC.a (TL.op z (boxA z z z z (fun b101=> ?_)))
 refine TL.s z z (TL.i z z (TL.en (TC.seq (TC.a (TL.w z (loadAll z ag25 sz25 z (i:=0) z z) ?_)))))
 obtain ⟨v5,u5,hh⟩:=bnd_e hh
 refine TL.op z (callP (Co_ (x0:=x0) f0_0 f0_1 f0_2 u5) z z pf21 z z z ?_)
 refine TL.w z (OpVal.neq z z z) (TL.en (TC.cD z hh (fun h103 hh=> ?_) (fun h103 hh=> ?_)))
 ·refine TC.a (TL.s z z (TL.i z z (TL.en (TC.rt 0 (S.r ?_)))))
  obtain rfl:=so hh
  exact rq [4,5] ⟨none,0,z,(RS.nilF _ eS_ eSl_),z⟩
 refine TC.skip (S.n (TC.seq (TC.a (TL.w z (moveStr (.inl z) z) (TL.w z (lenBs z underlying9 z) (TL.w z (OpVal.gtr z z z) (TL.en (TC.cD z hh (fun h104 hh=> ?_) (fun h104 hh=> ?_)))))))))
 ·refine TC.a (TL.s z z (TL.i z z (TL.en (TC.rt 0 (S.r ?_)))))
  obtain rfl:=so hh
  exact rq [4,5] ⟨none,0,z,(RS.nilF _ eS_ eSl_),z⟩
 refine TC.skip (S.n (TC.a (TL.w z (fieldLoc z fo25_0 z) (TL.w z (loadLoc z ag3 z (i:=0) z z) ?_))))
 have u16:=grd_c hh
 replace hh:=grd_t hh
 refine TL.op rfl (makeN (q:=x0.states.toNat) (E:=66) (size:=8) (enc:=encArc) rfl underlying68 sz23 by23 ze23 rfl rfl (vN u16.1) (vN u16.1) (by omega) (by decide) rfl (fun a105 c106 zf107=> ?_))
 refine TL.s z z (TL.en (TC.seq (TC.a (TL.w z (fieldLoc z fo25_3 z) (TL.w z (loadLoc z ag23 z (i:=1) z z) (TL.w z (lenC z underlying23 z) (TL.i z z (TL.en (TC.block (TC.loopG (α:=((List (List Arc))×Nat)×((List (NP Arc)))) (rgs [(8,1),(34,17)]) (fun g=>[(34,.int .i64 ((g.1.2:Nat):Int))]) (fun g=>[Res.cells b101 #[.int .i64 x0.states,.slice a0_0 x0.starts.length c0_0,.slice a0_1 x0.ends.length c0_1,.slice a0_2 x0.arcs.length c0_2] 25,Res.nest 23 66 8 encArc (.slice a105 (List.replicate x0.states.toNat ([]:List Arc)).length c106) g.2]) (fun g=>σ) (fun g=>iter (fun q:(List (List Arc))×Nat=>By_ x0 x1 q.1 q.2) g.1=some r∧g.1.1.length=(List.replicate x0.states.toNat ([]:List Arc)).length∧Zn g.2 g.1.1) (fun g=>rounds (fun q:(List (List Arc))×Nat=>By_ x0 x1 q.1 q.2) g.1) (((List.replicate x0.states.toNat ([]:List Arc)),0),(List.replicate x0.states.toNat (nilN:NP Arc))) (Sub.f [1] 2) z (by repeat (first|exact trivial|refine ⟨z,?_⟩)) ⟨hh,z,zf107⟩ (fun g1 j1 hg1=> ?_)))))))))))
 obtain ⟨⟨l120,k124⟩,z122⟩:=g1
 obtain ⟨hh,hn121,zf123⟩:=hg1
 try dsimp only at hn121 zf123 ⊢
 obtain ⟨z1,hh,hR1⟩:=iter_e hh
 dsimp only [By_]at hh
 have hn121b:=hn121
 have zf123b:=zf123.len
 refine TC.know (isSl_nest (q:=1) z zf123) (fun ⟨_,hb125⟩=> ?_)
 refine TC.a (TL.w z (OpVal.lss z z z) (TL.en (TC.seq (TC.cD z hh (fun h126 hh=> ?_) (fun h126 hh=> ?_)))))
 ·refine TC.skip (S.n (TC.cutG (α:=(Unit)×((List (NP Arc)))) (rgs [(8,1),(36,14)]) (fun g=>[]) (fun g=>[Res.cells b101 #[.int .i64 x0.states,.slice a0_0 x0.starts.length c0_0,.slice a0_1 x0.ends.length c0_1,.slice a0_2 x0.arcs.length c0_2] 25,Res.nest 23 66 8 encArc (.slice a105 (List.replicate x0.states.toNat ([]:List Arc)).length c106) g.2]) (fun g=>σ) (fun g=>F6_ l120 x0 k124=some z1∧(l120.set (((nth x0.arcs k124 Arc.zero).frm).toNat) ((nth l120 (((nth x0.arcs k124 Arc.zero).frm).toNat) ([]:List Arc))++[(nth x0.arcs k124 Arc.zero)])).length=(List.replicate x0.states.toNat ([]:List Arc)).length∧Zn g.2 (l120.set (((nth x0.arcs k124 Arc.zero).frm).toNat) ((nth l120 (((nth x0.arcs k124 Arc.zero).frm).toNat) ([]:List Arc))++[(nth x0.arcs k124 Arc.zero)]))) ?_ (fun g j hg=> ?_)))
  ·skip
   refine TC.block (TC.a (TL.w z (indexN z underlying23 sz66 z z f0_2.rv.sl (by omega)) (TL.w z (loadSA Arc.zero z ag66 sz66 z f0_2 (by omega) (by omega)) (TL.op z (OpOk.alloc z ze66 z z (fun b130=> ?_))))))
   refine TL.op z (storeAll z sz66 z z z z z z ?_)
   refine TL.en ?_
   have u33:=grd_c hh
   replace hh:=grd_t hh
   have u37:=grd_c hh
   replace hh:=grd_t hh
   have u38:=grd_c hh
   replace hh:=grd_t hh
   refine TC.drawR (Hr:=[Res.cells b130 #[.int .i64 ((nth x0.arcs k124 Arc.zero).frm),.int .i64 ((nth x0.arcs k124 Arc.zero).to),.int .u64 ((((nth x0.arcs k124 Arc.zero).set).a:Nat):Int),.int .u64 ((((nth x0.arcs k124 Arc.zero).set).b:Nat):Int),.int .u64 ((((nth x0.arcs k124 Arc.zero).set).c:Nat):Int),.int .u64 ((((nth x0.arcs k124 Arc.zero).set).d:Nat):Int),.string (bs ((nth x0.arcs k124 Arc.zero).out)),.bool ((nth x0.arcs k124 Arc.zero).copy)] 66,Res.cells b101 #[.int .i64 x0.states,.slice a0_0 x0.starts.length c0_0,.slice a0_1 x0.ends.length c0_1,.slice a0_2 x0.arcs.length c0_2] 25]) (fun r hr=>mem_pick [0,1] z hr) [] (by kernel_rfl) (TA.a 0 z (moveSl (.inl z) z) z (TA.a 1 z (fieldLoc z fo66_0 z) z (TA.b 2 z (loadLoc z ag3 z (i:=0) z z) z (TA.a 3 z (moveSl (.inl z) z) z (TA.a 4 z (fieldLoc z fo66_0 z) z (TA.b 5 z (loadLoc z ag3 z (i:=0) z z) z (TA.know (isSl_nest (q:=2) z zf123) (fun ⟨hs143,hs143b⟩=> ?_))))))))
   refine TA.b 6 z (OpVal.index z underlying68 sz23 z z hs143 u33.1 u33.2) z (TA.b 8 z (loadAll z ag66 sz66 z (i:=0) z z) z ?_)
   obtain ⟨p144,hz144,hm144⟩:=Zn.at zf123 (i:=((nth x0.arcs k124 Arc.zero).frm).toNat) (by omega)
   refine TA.actN [7,9] (by kernel_rfl) (an z z (OpVal.ok (loadN z ag23 z (q:=2) z hz144 hm144) z z ⟨(fun w h=>sees_of (Store.le.refl _) (fun r hr=>mem_pick [0,1] z hr) w h),?_⟩) (an z z (OpOk.lit (enc:=encArc) [(nth x0.arcs k124 Arc.zero)] z underlying23 sz66 ze66 z z z encArc_len (by decide) (by decide) Arc.zero z (by decide) z (by decide) encArc_one (fun a145 c146=>⟨(fun w h=>sees_of (Store.le.refl _) (fun r hr=>mem_pick [1,2] z hr) w h),?_⟩)) (True.intro)))
   ·skip
    refine TA.ac 9 z (OpOk.lit (enc:=encArc) [(nth x0.arcs k124 Arc.zero)] z underlying23 sz66 ze66 z z z encArc_len (by decide) (by decide) Arc.zero z (by decide) z (by decide) encArc_one (fun a148 c149=>⟨(fun w h=>sees_of (Store.le.refl _) (fun r hr=>mem_pick [1,2] z hr) w h),?_⟩))
    refine TA.front 3 z z (TA.by (fun w h=>Reach.takeN hz144 hm144 h) (TA.ac 10 z (appendS z z underlying23 sz66 by66 ze66 z z (by decide) z z z (.inr ⟨_,1,z⟩) (by simpa using u37) (by decide) (fun a152 c153=>(k3 ?_)))))
    refine TA.know (isSl_nestX (q:=1) z zf123) (fun ⟨hs154,hs154b⟩=> ?_)
    refine TA.b 11 z (OpVal.index z underlying68 sz23 z z hs154 u38.1 u38.2) z (TA.front 1 z z (TA.front 1 z z ?_))
    have hn156:(l120.set (((nth x0.arcs k124 Arc.zero).frm).toNat) ((nth l120 (((nth x0.arcs k124 Arc.zero).frm).toNat) ([]:List Arc))++[(nth x0.arcs k124 Arc.zero)])).length=(List.replicate x0.states.toNat ([]:List Arc)).length:=(List.length_set ..).trans hn121
    refine TA.ac 12 rfl (storeX (l':=((nth l120 (((nth x0.arcs k124 Arc.zero).frm).toNat) ([]:List Arc))++[(nth x0.arcs k124 Arc.zero)])) rfl sz23 rfl rfl rfl rfl rfl (by rw [zf123.len];omega) zf123 (fun zf155=>(k2 ?_)))
    exact TA.dn (B.n (S.n (cf ((),(z122.set (((nth x0.arcs k124 Arc.zero).frm).toNat) (((nth l120 (((nth x0.arcs k124 Arc.zero).frm).toNat) ([]:List Arc))++[(nth x0.arcs k124 Arc.zero)]),(a152,c153)))) ⟨hh,hn156,zf155⟩ (Sub.f [3] 2))))
   skip
   obtain ⟨p157,hz157,hm157⟩:=Zn.at zf123 (i:=((nth x0.arcs k124 Arc.zero).frm).toNat) (by omega)
   refine TA.ac 7 z (OpVal.ok (loadN z ag23 z (q:=3) z hz157 hm157) z z ⟨(fun w h=>sees_of (Store.le.refl _) (fun r hr=>mem_pick [1,2] z hr) w h),?_⟩)
   refine TA.front 3 z z (TA.by (fun w h=>Reach.takeN hz157 hm157 h) (TA.ac 10 z (appendS z z underlying23 sz66 by66 ze66 z z (by decide) z z z (.inr ⟨_,1,z⟩) (by simpa using u37) (by decide) (fun a159 c160=>(k3 ?_)))))
   refine TA.know (isSl_nestX (q:=1) z zf123) (fun ⟨hs161,hs161b⟩=> ?_)
   refine TA.b 11 z (OpVal.index z underlying68 sz23 z z hs161 u38.1 u38.2) z (TA.front 1 z z (TA.front 1 z z ?_))
   have hn163:(l120.set (((nth x0.arcs k124 Arc.zero).frm).toNat) ((nth l120 (((nth x0.arcs k124 Arc.zero).frm).toNat) ([]:List Arc))++[(nth x0.arcs k124 Arc.zero)])).length=(List.replicate x0.states.toNat ([]:List Arc)).length:=(List.length_set ..).trans hn121
   refine TA.ac 12 rfl (storeX (l':=((nth l120 (((nth x0.arcs k124 Arc.zero).frm).toNat) ([]:List Arc))++[(nth x0.arcs k124 Arc.zero)])) rfl sz23 rfl rfl rfl rfl rfl (by rw [zf123.len];omega) zf123 (fun zf162=>(k2 ?_)))
   exact TA.dn (B.n (S.n (cf ((),(z122.set (((nth x0.arcs k124 Arc.zero).frm).toNat) (((nth l120 (((nth x0.arcs k124 Arc.zero).frm).toNat) ([]:List Arc))++[(nth x0.arcs k124 Arc.zero)]),(a159,c160)))) ⟨hh,hn163,zf162⟩ (Sub.f [3] 2))))
  skip
  obtain ⟨_,z128⟩:=g
  obtain ⟨hh,hn127,zf129⟩:=hg
  try dsimp only at hn127 zf129 ⊢
  dsimp only [F6_]at hh
  have hn127b:=hn127
  have zf129b:=zf129.len
  refine TC.know (isSl_nest (q:=1) z zf129) (fun ⟨_,hb164⟩=> ?_)
  refine TC.region (TL.w z (OpVal.succ z z z (by omega)) (TL.i z z (TL.en ?_)))
  obtain ⟨hh,hlt165⟩:=nxt_x hR1 hh
  exact lf (((l120.set (((nth x0.arcs k124 Arc.zero).frm).toNat) ((nth l120 (((nth x0.arcs k124 Arc.zero).frm).toNat) ([]:List Arc))++[(nth x0.arcs k124 Arc.zero)])),(k124+1)),z128) hlt165 ⟨hh,hn127,zf129⟩ (Sub.f [1,1] 2)
 refine TC.exit (S.x (S.x ?_))
 replace hh:=fin_x hR1 hh
 refine TC.exitHere (S.n (TC.a (TL.op z (makeMapB (enc:=(fun x=>Value.agg (encFPair x).toArray)) (encV:=unitV) z z z (fun b166=> ?_)))))
 refine TL.w z (moveMap (.inr z) z) (TL.en (TC.seq (TC.a (TL.w z (fieldLoc z fo25_1 z) (TL.w z (loadLoc z ag22 z (i:=1) z z) (TL.w z (lenC z underlying22 z) (TL.i z z (TL.en (TC.block (TC.loopG (α:=((FM FPair Unit)×Nat)×(Unit)) (rgs [(11,1),(55,12)]) (fun g=>[(55,.int .i64 ((g.1.2:Nat):Int))]) (fun g=>[Res.cells b101 #[.int .i64 x0.states,.slice a0_0 x0.starts.length c0_0,.slice a0_1 x0.ends.length c0_1,.slice a0_2 x0.arcs.length c0_2] 25,Res.nest 23 66 8 encArc (.slice a105 (List.replicate x0.states.toNat ([]:List Arc)).length c106) z122,Res.mapB (fun x=>Value.agg (encFPair x).toArray) unitV (some b166) g.1.1]) (fun g=>σ) (fun g=>iter (fun q:(FM FPair Unit)×Nat=>Bv_ x0 x1 l120 q.1 q.2) g.1=some r∧l120.length=(List.replicate x0.states.toNat ([]:List Arc)).length∧Zn z122 l120) (fun g=>rounds (fun q:(FM FPair Unit)×Nat=>Bv_ x0 x1 l120 q.1 q.2) g.1) (((FM.emp:FM FPair Unit),0),()) (Sub.f [2,2] 3) z (by repeat (first|exact trivial|refine ⟨z,?_⟩)) ⟨hh,hn121,zf123⟩ (fun g2 j2 hg2=> ?_)))))))))))
 obtain ⟨⟨m180,k181⟩,_⟩:=g2
 obtain ⟨hh,hn178,zf179⟩:=hg2
 try dsimp only at hn178 zf179 ⊢
 obtain ⟨z1,hh,hR1⟩:=iter_e hh
 dsimp only [Bv_]at hh
 have hn178b:=hn178
 have zf179b:=zf179.len
 refine TC.know (isSl_nest (q:=1) z zf179) (fun ⟨_,hb182⟩=> ?_)
 refine TC.a (TL.w z (OpVal.lss z z z) (TL.en (TC.seq (TC.cD z hh (fun h183 hh=> ?_) (fun h183 hh=> ?_)))))
 ·refine TC.skip (S.n (TC.seq (TC.block (TC.a (TL.w z (indexN z underlying22 sz43 z z f0_0.rv.sl (by omega)) (TL.w z (loadSA Tip.zero z ag43 sz43 z f0_0 (by omega) (by omega)) (TL.op z (OpOk.alloc z ze43 z z (fun b184=> ?_)))))))))
  refine TL.op z (storeAll z sz43 z z z z z z ?_)
  refine TL.en (TC.region (TL.w z (moveMap (.inl z) z) (TL.w z (fieldLoc z fo43_0 z) (TL.w z (loadLoc z ag3 z (i:=0) z z) (TL.w z (fieldLoc z fo43_1 z) (TL.w z (loadLoc z ag9 z (i:=0) z z) (TL.w z (buildL z pl84 ze84 z) (TL.w z (buildL z pl82 ze82 z) (TL.front 3 z z (TL.op z (updB (⟨(nth x0.starts k181 Tip.zero).state,(nth x0.starts k181 Tip.zero).out⟩:FPair) () z underlying81 z z z z kl84 ?_)))))))))))
  refine TL.nil (B.n (S.n (TC.region (TL.w z (OpVal.succ z z z (by omega)) (TL.i z z (TL.en ?_))))))
  obtain ⟨hh,hlt186⟩:=nxt_x hR1 hh
  exact lf (((m180.put (⟨(nth x0.starts k181 Tip.zero).state,(nth x0.starts k181 Tip.zero).out⟩:FPair) ()),(k181+1)),()) hlt186 ⟨hh,hn178,zf179⟩ (Sub.f [3,3] 3)
 refine TC.exit (S.x (S.x ?_))
 replace hh:=fin_x hR1 hh
 refine TC.exitHere (S.n (TC.seq (TC.a (TL.w z (moveStr (.inl z) z) (TL.w z (lenBs z underlying9 z) (TL.i z z (TL.en (TC.block ?_))))))))
 rw [←hn178]
 refine TC.front 1 z z (TC.seals (fun w h=>Reach.sealNest encArc_len zf179 h) (fun τ206 hle205 hr204=> ?_))
 replace f0_1:=f0_1.mono hle205
 have hr204b:=hr204.big
 refine TC.loopG (α:=((FM FPair Unit)×Nat)×((Option Nat)×Store)) (rgs [(4,2),(9,1),(12,3),(69,16)]) (fun g=>[(9,.map g.2.1),(69,.int .i64 ((g.1.2:Nat):Int))]) (fun g=>[Res.cells b101 #[.int .i64 x0.states,.slice a0_0 x0.starts.length c0_0,.slice a0_1 x0.ends.length c0_1,.slice a0_2 x0.arcs.length c0_2] 25,Res.mapB (fun x=>Value.agg (encFPair x).toArray) unitV g.2.1 g.1.1]) (fun g=>g.2.2) (fun g=>iter (fun q:(FM FPair Unit)×Nat=>Be_ x1 l120 x0 q.1 q.2) g.1=some r∧RZ g.2.2 (pkSl 8 encArc encArc_len) (.slice a105 l120.length c106) l120∧Store.le τ206 g.2.2) (fun g=>rounds (fun q:(FM FPair Unit)×Nat=>Be_ x1 l120 x0 q.1 q.2) g.1) ((m180,0),((some b166),τ206)) (Sub.f [1,1] 2) z (by repeat (first|exact trivial|refine ⟨z,?_⟩)) ⟨hh,hr204,(Store.le.refl _)⟩ (fun g3 j3 hg3=> ?_)
 obtain ⟨⟨m201,k203⟩,⟨b202,τ207⟩⟩:=g3
 obtain ⟨hh,hr199,hle208⟩:=hg3
 try dsimp only at hr199
 dsimp only at hle208
 replace f0_1:=f0_1.mono hle208
 try dsimp only
 obtain ⟨z1,hh,hR1⟩:=iter_e hh
 dsimp only [Be_]at hh
 have hr199b:=hr199.big
 refine TC.a (TL.w z (OpVal.lss z z z) (TL.en (TC.seq (TC.cD z hh (fun h209 hh=> ?_) (fun h209 hh=> ?_)))))
 ·refine TC.skip (S.n (TC.seq (TC.block (TC.a (TL.i z z (TL.i z z (TL.en (TC.a (TL.s z z (TL.w z (moveMap (.inl z) z) (TL.w z (moveStr (.inl z) z) (TL.i z z (TL.w z (indexBs z underlying9 z z (by omega)) (TL.front 1 z z ?_))))))))))))))
  obtain ⟨v74,u74,hh⟩:=bnd_e hh
  refine TL.op z (OpOk.call (Hp_ hr199 u74) z z pf30 z z z z ?_)
  rintro _ _ _ hle210 ⟨b210_1,rfl,rfl,rfl⟩
  refine TL.w z (moveT (.inl z) z) (TL.w z (OpVal.extract z z z) (TL.w z (OpVal.extract z z z) (TL.w z (moveMap (.inr z) z) (TL.j z z (TL.en (TC.seq (TC.a (TL.j z z (TL.w z (OpVal.not z z) (TL.en (TC.cB z hh (fun h212 hh=> ?_) (fun h212 hh=> ?_))))))))))))
  ·refine TC.a (TL.s z z (TL.i z z (TL.en (TC.rt 0 (S.r (B.r (S.r (S.r ?_))))))))
   replace hh:=fin_x hR1 hh
   refine B.r (S.r ?_)
   obtain rfl:=so hh
   exact rq [4,5] ⟨none,0,z,(RS.nilF _ eS_ eSl_),z⟩
  refine TC.skip (S.n (TC.region (TL.w z (moveMap (.inl z) z) (TL.w z (moveMap (.inr z) z) (TL.nil (B.n (S.n (TC.region (TL.w z (OpVal.succ z z z (by omega)) (TL.i z z (TL.en ?_)))))))))))
  obtain ⟨hh,hlt213⟩:=nxt_x hR1 hh
  exact lf ((v74.1,(k203+1)),(b210_1,τ207)) hlt213 ⟨hh,hr199,hle208⟩ (Sub.f [1] 2)
 refine TC.exit (S.x (S.x ?_))
 replace hh:=fin_x hR1 hh
 refine TC.exitHere (S.n (TC.a (TL.w z (fieldLoc z fo25_0 z) (TL.w z (loadLoc z ag3 z (i:=0) z z) ?_))))
 have u90:=grd_c hh
 replace hh:=grd_t hh
 refine TL.op rfl (makeN (q:=x0.states.toNat) (E:=9) (size:=1) (enc:=eS_) rfl underlying87 sz31 by31 ze31 rfl rfl (vN u90.1) (vN u90.1) (by omega) (by decide) rfl (fun a214 c215 zf216=> ?_))
 refine TL.s z z (TL.en (TC.seq (TC.a (TL.w z (fieldLoc z fo25_2 z) (TL.w z (loadLoc z ag22 z (i:=1) z z) (TL.w z (lenC z underlying22 z) (TL.i z z (TL.en (TC.block (TC.loopG (α:=((List (List (List UInt8)))×Nat)×((List (NP (List UInt8))))) (rgs [(17,1),(91,18)]) (fun g=>[(91,.int .i64 ((g.1.2:Nat):Int))]) (fun g=>[Res.mapB (fun x=>Value.agg (encFPair x).toArray) unitV b202 m201,Res.nest 31 9 1 eS_ (.slice a214 (List.replicate x0.states.toNat ([]:List (List UInt8))).length c215) g.2]) (fun g=>τ207) (fun g=>iter (fun q:(List (List (List UInt8)))×Nat=>B0_ x0 m201 q.1 q.2) g.1=some r∧g.1.1.length=(List.replicate x0.states.toNat ([]:List (List UInt8))).length∧Zn g.2 g.1.1) (fun g=>rounds (fun q:(List (List (List UInt8)))×Nat=>B0_ x0 m201 q.1 q.2) g.1) (((List.replicate x0.states.toNat ([]:List (List UInt8))),0),(List.replicate x0.states.toNat (nilN:NP (List UInt8)))) (Sub.f [2] 2) z (by repeat (first|exact trivial|refine ⟨z,?_⟩)) ⟨hh,z,zf216⟩ (fun g4 j4 hg4=> ?_)))))))))))
 obtain ⟨⟨l229,k233⟩,z231⟩:=g4
 obtain ⟨hh,hn230,zf232⟩:=hg4
 try dsimp only at hn230 zf232 ⊢
 obtain ⟨z1,hh,hR1⟩:=iter_e hh
 dsimp only [B0_]at hh
 have hn230b:=hn230
 have zf232b:=zf232.len
 refine TC.know (isSl_nest (q:=1) z zf232) (fun ⟨_,hb234⟩=> ?_)
 refine TC.a (TL.w z (OpVal.lss z z z) (TL.en (TC.seq (TC.cD z hh (fun h235 hh=> ?_) (fun h235 hh=> ?_)))))
 ·refine TC.skip (S.n (TC.cutG (α:=(Unit)×((List (NP (List UInt8))))) (rgs [(17,1),(93,15)]) (fun g=>[]) (fun g=>[Res.mapB (fun x=>Value.agg (encFPair x).toArray) unitV b202 m201,Res.nest 31 9 1 eS_ (.slice a214 (List.replicate x0.states.toNat ([]:List (List UInt8))).length c215) g.2]) (fun g=>τ207) (fun g=>F4_ l229 x0 k233=some z1∧(l229.set (((nth x0.ends k233 Tip.zero).state).toNat) ((nth l229 (((nth x0.ends k233 Tip.zero).state).toNat) ([]:List (List UInt8)))++[(nth x0.ends k233 Tip.zero).out])).length=(List.replicate x0.states.toNat ([]:List (List UInt8))).length∧Zn g.2 (l229.set (((nth x0.ends k233 Tip.zero).state).toNat) ((nth l229 (((nth x0.ends k233 Tip.zero).state).toNat) ([]:List (List UInt8)))++[(nth x0.ends k233 Tip.zero).out]))) ?_ (fun g j hg=> ?_)))
  ·skip
   refine TC.block (TC.a (TL.w z (indexN z underlying22 sz43 z z f0_1.rv.sl (by omega)) (TL.w z (loadSA Tip.zero z ag43 sz43 z f0_1 (by omega) (by omega)) (TL.op z (OpOk.alloc z ze43 z z (fun b239=> ?_))))))
   refine TL.op z (storeAll z sz43 z z z z z z ?_)
   refine TL.en ?_
   have u107:=grd_c hh
   replace hh:=grd_t hh
   have u112:=grd_c hh
   replace hh:=grd_t hh
   have u113:=grd_c hh
   replace hh:=grd_t hh
   refine TC.drawR (Hr:=[Res.cells b239 #[.int .i64 ((nth x0.ends k233 Tip.zero).state),.string (bs ((nth x0.ends k233 Tip.zero).out))] 43,Res.mapB (fun x=>Value.agg (encFPair x).toArray) unitV b202 m201]) (fun r hr=>mem_pick [0,1] z hr) [] (by kernel_rfl) (TA.a 0 z (moveSl (.inl z) z) z (TA.a 1 z (fieldLoc z fo43_0 z) z (TA.b 2 z (loadLoc z ag3 z (i:=0) z z) z (TA.a 3 z (moveSl (.inl z) z) z (TA.a 4 z (fieldLoc z fo43_0 z) z (TA.b 5 z (loadLoc z ag3 z (i:=0) z z) z (TA.know (isSl_nest (q:=2) z zf232) (fun ⟨hs252,hs252b⟩=> ?_))))))))
   refine TA.b 6 z (OpVal.index z underlying87 sz31 z z hs252 u107.1 u107.2) z (TA.a 8 z (fieldLoc z fo43_1 z) z (TA.b 9 z (loadLoc z ag9 z (i:=0) z z) z ?_))
   obtain ⟨p253,hz253,hm253⟩:=Zn.at zf232 (i:=((nth x0.ends k233 Tip.zero).state).toNat) (by omega)
   refine TA.actN [7,10] (by kernel_rfl) (an z z (OpVal.ok (loadN z ag31 z (q:=2) z hz253 hm253) z z ⟨(fun w h=>sees_of (Store.le.refl _) (fun r hr=>mem_pick [0,1] z hr) w h),?_⟩) (an z z (OpOk.lit (enc:=eS_) [(nth x0.ends k233 Tip.zero).out] z underlying31 sz9 ze9 z z z eSl_ (by decide) (by decide) ([]:List UInt8) z (by decide) z (by decide) eSo_ (fun a254 c255=>⟨(fun w h=>sees_of (Store.le.refl _) (fun r hr=>mem_pick [1,2] z hr) w h),?_⟩)) (True.intro)))
   ·skip
    refine TA.ac 10 z (OpOk.lit (enc:=eS_) [(nth x0.ends k233 Tip.zero).out] z underlying31 sz9 ze9 z z z eSl_ (by decide) (by decide) ([]:List UInt8) z (by decide) z (by decide) eSo_ (fun a257 c258=>⟨(fun w h=>sees_of (Store.le.refl _) (fun r hr=>mem_pick [1,2] z hr) w h),?_⟩))
    refine TA.front 3 z z (TA.by (fun w h=>Reach.takeN hz253 hm253 h) (TA.ac 11 z (appendS z z underlying31 sz9 by9 ze9 z z (by decide) z z z (.inr ⟨_,1,z⟩) (by simpa using u112) (by decide) (fun a261 c262=>(k3 ?_)))))
    refine TA.know (isSl_nestX (q:=1) z zf232) (fun ⟨hs263,hs263b⟩=> ?_)
    refine TA.b 12 z (OpVal.index z underlying87 sz31 z z hs263 u113.1 u113.2) z (TA.front 1 z z (TA.front 1 z z ?_))
    have hn265:(l229.set (((nth x0.ends k233 Tip.zero).state).toNat) ((nth l229 (((nth x0.ends k233 Tip.zero).state).toNat) ([]:List (List UInt8)))++[(nth x0.ends k233 Tip.zero).out])).length=(List.replicate x0.states.toNat ([]:List (List UInt8))).length:=(List.length_set ..).trans hn230
    refine TA.ac 13 rfl (storeX (l':=((nth l229 (((nth x0.ends k233 Tip.zero).state).toNat) ([]:List (List UInt8)))++[(nth x0.ends k233 Tip.zero).out])) rfl sz31 rfl rfl rfl rfl rfl (by rw [zf232.len];omega) zf232 (fun zf264=>(k2 ?_)))
    exact TA.dn (B.n (S.n (cf ((),(z231.set (((nth x0.ends k233 Tip.zero).state).toNat) (((nth l229 (((nth x0.ends k233 Tip.zero).state).toNat) ([]:List (List UInt8)))++[(nth x0.ends k233 Tip.zero).out]),(a261,c262)))) ⟨hh,hn265,zf264⟩ (Sub.f [3] 2))))
   skip
   obtain ⟨p266,hz266,hm266⟩:=Zn.at zf232 (i:=((nth x0.ends k233 Tip.zero).state).toNat) (by omega)
   refine TA.ac 7 z (OpVal.ok (loadN z ag31 z (q:=3) z hz266 hm266) z z ⟨(fun w h=>sees_of (Store.le.refl _) (fun r hr=>mem_pick [1,2] z hr) w h),?_⟩)
   refine TA.front 3 z z (TA.by (fun w h=>Reach.takeN hz266 hm266 h) (TA.ac 11 z (appendS z z underlying31 sz9 by9 ze9 z z (by decide) z z z (.inr ⟨_,1,z⟩) (by simpa using u112) (by decide) (fun a268 c269=>(k3 ?_)))))
   refine TA.know (isSl_nestX (q:=1) z zf232) (fun ⟨hs270,hs270b⟩=> ?_)
   refine TA.b 12 z (OpVal.index z underlying87 sz31 z z hs270 u113.1 u113.2) z (TA.front 1 z z (TA.front 1 z z ?_))
   have hn272:(l229.set (((nth x0.ends k233 Tip.zero).state).toNat) ((nth l229 (((nth x0.ends k233 Tip.zero).state).toNat) ([]:List (List UInt8)))++[(nth x0.ends k233 Tip.zero).out])).length=(List.replicate x0.states.toNat ([]:List (List UInt8))).length:=(List.length_set ..).trans hn230
   refine TA.ac 13 rfl (storeX (l':=((nth l229 (((nth x0.ends k233 Tip.zero).state).toNat) ([]:List (List UInt8)))++[(nth x0.ends k233 Tip.zero).out])) rfl sz31 rfl rfl rfl rfl rfl (by rw [zf232.len];omega) zf232 (fun zf271=>(k2 ?_)))
   exact TA.dn (B.n (S.n (cf ((),(z231.set (((nth x0.ends k233 Tip.zero).state).toNat) (((nth l229 (((nth x0.ends k233 Tip.zero).state).toNat) ([]:List (List UInt8)))++[(nth x0.ends k233 Tip.zero).out]),(a268,c269)))) ⟨hh,hn272,zf271⟩ (Sub.f [3] 2))))
  skip
  obtain ⟨_,z237⟩:=g
  obtain ⟨hh,hn236,zf238⟩:=hg
  try dsimp only at hn236 zf238 ⊢
  dsimp only [F4_]at hh
  have hn236b:=hn236
  have zf238b:=zf238.len
  refine TC.know (isSl_nest (q:=1) z zf238) (fun ⟨_,hb273⟩=> ?_)
  refine TC.region (TL.w z (OpVal.succ z z z (by omega)) (TL.i z z (TL.en ?_)))
  obtain ⟨hh,hlt274⟩:=nxt_x hR1 hh
  exact lf (((l229.set (((nth x0.ends k233 Tip.zero).state).toNat) ((nth l229 (((nth x0.ends k233 Tip.zero).state).toNat) ([]:List (List UInt8)))++[(nth x0.ends k233 Tip.zero).out])),(k233+1)),z237) hlt274 ⟨hh,hn236,zf238⟩ (Sub.f [1,1] 2)
 refine TC.exit (S.x (S.x ?_))
 replace hh:=fin_x hR1 hh
 refine TC.exitHere (S.n (TC.a (TL.s z z (TL.en (TC.seq (TC.a (TL.w z (moveMap (.inl z) z) (TL.op z (rangeB z underlying81 z z z (fun it275 l276 hl277=> ?_))))))))))
 refine TL.en (TC.block (TC.nilS 9 1 eS_ (TC.loopG (α:=((List (List UInt8)))×((Option Addr)×Nat×(List (FPair×Unit))×(Option (FPair×Unit)))) (rgs [(18,2),(21,1),(111,22)]) (fun g=>[(18,.slice g.2.1 g.1.length g.2.2.1)]) (fun g=>[Res.nest 31 9 1 eS_ (.slice a214 (List.replicate x0.states.toNat ([]:List (List UInt8))).length c215) z231,Res.rowS 9 1 eS_ (.slice g.2.1 g.1.length g.2.2.1) g.1,Res.rng (fun x=>Value.agg (encFPair x).toArray) unitV b202 it275 m201 g.2.2.2.1 g.2.2.2.2]) (fun g=>τ207) (fun g=>runA (fun (q:(List (List UInt8))) (oE:Option (FPair×Unit))=>Bz_ l229 q oE) g.2.2.2.1 g.1=some r∧l229.length=(List.replicate x0.states.toNat ([]:List (List UInt8))).length∧Zn z231 l229) (fun g=>List.length g.2.2.2.1) (([]:List (List UInt8)),(none,0,l276,none)) (Sub.f [1,1,2] 3) z (by repeat (first|exact trivial|refine ⟨z,?_⟩)) ⟨(runA_of hh hl277),hn230,zf232⟩ (fun g5 j5 hg5=> ?_))))
 obtain ⟨l299,⟨a300,c301,l302,o303⟩⟩:=g5
 obtain ⟨hh,hn296,zf297⟩:=hg5
 try dsimp only at hn296 zf297 ⊢
 have hn296b:=hn296
 have zf297b:=zf297.len
 refine TC.know (isSl_nest (q:=0) z zf297) (fun ⟨_,hb305⟩=> ?_)
 refine TC.isSl (i:=1) z (fun _ hb306 _=> ?_)
 refine TC.a (TL.front 2 z z (TL.op z (nextB (T:=0) z z z z z (fun hl307=> ?_) (fun l308 v120c l309 hl307=> ?_))))
 ·subst hl307
  obtain ⟨z1,hh,hR1⟩:=runA_end hh
  dsimp only [Bz_,optE_none]at hh
  refine TL.by (fun w h=>Reach.unrng h) (TL.w z (OpVal.extract z z z) (TL.en (TC.seq (TC.f z (TC.exit (S.x (S.x ?_)))))))
  replace hh:=finE_x hR1 hh
  refine TC.exitHere (S.n (TC.a (TL.s z z (TL.front 2 z z (TL.sealS eSl_ (fun τ312 hle311 hr310=> ?_))))))
  have hr310b:=hr310.rv.big
  obtain ⟨v148,u148,hh⟩:=bnd_e hh
  refine TL.op z (OpOk.call (H3_ hr310 u148) z z pf31 z z z z ?_)
  rintro _ _ _ hle313 ⟨a313_1,c313_1,rfl,rfl,rfl⟩
  refine TL.s z z (TL.i z z (TL.en (TC.sealS eSl_ (fun τ317 hle316 hr315=> ?_))))
  have hr315b:=hr315.rv.big
  refine TC.rt 0 ?_
  obtain rfl:=so hh
  exact rq [4,5] ⟨a313_1,c313_1,z,hr315,z⟩
 subst hl307
 obtain ⟨z1,hh,hR1⟩:=runA_step hh
 dsimp only [Bz_,optE_some]at hh
 refine TL.w z (OpVal.extract z z z) (TL.en (TC.seq (TC.t z (TC.skip (S.n (TC.block (TC.a (TL.w z (OpVal.of (entryB z z (i:=0) z) (v':= .tuple #[.agg #[.int .i64 v120c.1.state,.string (bs v120c.1.out)],.agg #[]]) z) (TL.w z (OpVal.extract z z z) (TL.op z (OpOk.alloc z ze84 z z (fun b318=> ?_))))))))))))
 refine TL.op z (storeAll z sz84 z z z z z z ?_)
 refine TL.en (TC.a (TL.s z z (TL.w z (fieldLoc z fo84_0 z) (TL.w z (loadLoc z ag3 z (i:=0) z z) ?_))))
 have u129:=grd_c hh
 replace hh:=grd_t hh
 refine TL.know (isSl_nest (q:=2) z zf297) (fun ⟨hs320,hs320b⟩=> ?_)
 refine TL.w z (OpVal.index z underlying87 sz31 z z hs320 u129.1 u129.2) ?_
 obtain ⟨p321,hz321,hm321⟩:=Zn.at zf297 (i:=v120c.1.state.toNat) (by omega)
 refine TL.w z (loadN z ag31 z (q:=2) z hz321 hm321) (TL.w z (lenC z underlying31 z) (TL.i z z (TL.en (TC.block (TC.loopG (α:=((List (List UInt8))×Nat)×((Option Addr)×Nat)) (rgs [(18,1),(21,1),(121,12)]) (fun g=>[(18,.slice g.2.1 g.1.1.length g.2.2),(121,.int .i64 ((g.1.2:Nat):Int))]) (fun g=>[Res.nest 31 9 1 eS_ (.slice a214 (List.replicate x0.states.toNat ([]:List (List UInt8))).length c215) z231,Res.rowS 9 1 eS_ (.slice g.2.1 g.1.1.length g.2.2) g.1.1,Res.cells b318 #[.int .i64 v120c.1.state,.string (bs v120c.1.out)] 84,Res.rng (fun x=>Value.agg (encFPair x).toArray) unitV b202 it275 m201 (l308++l309) (some v120c)]) (fun g=>τ207) (fun g=>iter (fun q:(List (List UInt8))×Nat=>Bw_ l229 v120c q.1 q.2) g.1=some z1∧l229.length=(List.replicate x0.states.toNat ([]:List (List UInt8))).length∧Zn z231 l229) (fun g=>rounds (fun q:(List (List UInt8))×Nat=>Bw_ l229 v120c q.1 q.2) g.1) ((l299,0),(a300,c301)) (Sub.f [1,1,3,3] 4) z (by repeat (first|exact trivial|refine ⟨z,?_⟩)) ⟨hh,hn296,zf297⟩ (fun g6 j6 hg6=> ?_))))))
 obtain ⟨⟨l338,k341⟩,⟨a339,c340⟩⟩:=g6
 obtain ⟨hh,hn336,zf337⟩:=hg6
 try dsimp only at hn336 zf337 ⊢
 obtain ⟨z2,hh,hR2⟩:=iter_e hh
 dsimp only [Bw_]at hh
 have hn336b:=hn336
 have zf337b:=zf337.len
 refine TC.know (isSl_nest (q:=0) z zf337) (fun ⟨_,hb342⟩=> ?_)
 refine TC.isSl (i:=1) z (fun _ hb343 _=> ?_)
 refine TC.a (TL.w z (OpVal.lss z z z) (TL.en (TC.seq (TC.cD z hh (fun h344 hh=> ?_) (fun h344 hh=> ?_)))))
 ·refine TC.skip (S.n (TC.seq (TC.block (TC.a (TL.know (isSl_inner (q:=0) z hz321 hm321) (fun ⟨hs345,hs345b⟩=> ?_))))))
  refine TL.w z (indexN z underlying31 sz9 z z hs345 (by omega)) (TL.w z (OpVal.seen (sees_inner (q:=0) z hz321 hm321) (loadO1 ([]:List UInt8) z ag9 z (q:=0) z eSl_ (by omega) z)) (TL.w z (moveStr (.inr z) z) (TL.en (TC.region (TL.s z z (TL.w z (fieldLoc z fo84_1 z) (TL.w z (loadLoc z ag9 z (i:=2) z z) (TL.w z (moveStr (.inl z) z) ?_))))))))
  have u141:=grd_c hh
  replace hh:=grd_t hh
  refine TL.w z (catBs z z z u141) (TL.op z (OpOk.lit (enc:=eS_) [(v120c.1.out++(nth (nth l229 v120c.1.state.toNat ([]:List (List UInt8))) k341 ([]:List UInt8)))] z underlying31 sz9 ze9 z z z eSl_ (by decide) (by decide) ([]:List UInt8) z (by decide) z (by decide) eSo_ (fun a346 c347=> ?_)))
  refine TL.front 2 z z ?_
  have u143:=grd_c hh
  replace hh:=grd_t hh
  refine TL.op z (appendS z z underlying31 sz9 by9 ze9 z z (by decide) z z z (.inr ⟨_,0,z⟩) (by simpa using u143) (by decide) (fun a349 c350=> ?_))
  refine TL.s z z (TL.nil (B.n (S.n (TC.region (TL.w z (OpVal.succ z z z (by omega)) (TL.i z z (TL.en ?_)))))))
  obtain ⟨hh,hlt351⟩:=nxt_x hR2 hh
  exact lf (((l338++[(v120c.1.out++(nth (nth l229 v120c.1.state.toNat ([]:List (List UInt8))) k341 ([]:List UInt8)))]),(k341+1)),(a349,c350)) hlt351 ⟨hh,hn336,zf337⟩ (Sub.f [4,4,2,4] 4)
 refine TC.exit (S.x (S.x ?_))
 replace hh:=fin_x hR2 hh
 refine TC.exitHere (B.n (S.n ?_))
 replace hh:=nxtA_x hR1 hh
 exact lf (l338,(a339,c340,(l308++l309),(some v120c))) (by simp) ⟨hh,hn336,zf337⟩ (Sub.f [3,2,2] 3)
end Go.Proofs.YtamgjehhjkgelaaGreatDoor
end

noncomputable section
namespace Go.Proofs.YtamgjehhjkgelaaGreatDoor
open Go Go.E Go.E.OpVal Go.E.OpOk Go.Proofs.Tryz
def At_(x0:List (List UInt8))(x1:List (List UInt8))(k104:Nat):Option ((Nat)⊕(Bool)):=
 iteO (decide (((k104:Nat):Int)<((x0.length:Nat):Int))) (grd (k104<x1.length) (iteO (decide ((nth x0 k104 ([]:List UInt8))≠(nth x1 k104 ([]:List UInt8)))) (fin (some false)) (nxt (k104+1)))) (fin (some true))
def Bj_(x0:List (List UInt8))(x1:List (List UInt8)):Option (Bool):=
 iteO (decide (((x0.length:Nat):Int)≠((x1.length:Nat):Int))) (some false) (iter (fun q:Nat=>At_ x0 x1 q) 0)
theorem F3_{x0:List (List UInt8)}{x1:List (List UInt8)}(f0_0:RS σ 1 eS_ (.slice a0_0 x0.length c0_0) x0)(f1_0:RS σ 1 eS_ (.slice a1_0 x1.length c1_0) x1){r:Bool}(hh:Bj_ x0 x1=some r):
  Con Tryz.prog 12 #[.slice a0_0 x0.length c0_0,.slice a1_0 x1.length c1_0] σ [] (PureP (.bool r) σ):=by
 dsimp only [Bj_]at hh
 have f0_0b:=f0_0.rv.big
 have f1_0b:=f1_0.rv.big
 refine Con.mk (n:=26) Tryz.func12 z z z (fun w0=> ?_)
 refine TC.a (TL.j z z (TL.en (TC.seq (TC.a (TL.s z z (TL.w z (lenC z underlying31 z) (TL.s z z (TL.w z (lenC z underlying31 z) (TL.w z (OpVal.neq z z z) (TL.en (TC.cD z hh (fun h101 hh=> ?_) (fun h101 hh=> ?_))))))))))))
 ·refine TC.a (TL.j z z (TL.en (TC.ret (S.r ?_))))
  obtain rfl:=so hh
  exact rq [4] ⟨z,z,z⟩
 refine TC.skip (S.n (TC.seq (TC.a (TL.i z z (TL.en (TC.block (TC.loopG (α:=(Nat)×(Unit)) (rgs [(4,2),(11,15)]) (fun g=>[(5,.int .i64 ((g.1:Nat):Int))]) (fun g=>[]) (fun g=>σ) (fun g=>iter (fun q:Nat=>At_ x0 x1 q) g.1=some r) (fun g=>rounds (fun q:Nat=>At_ x0 x1 q) g.1) (0,()) (Sub.pre 0 z) z (by repeat (first|exact trivial|refine ⟨z,?_⟩)) hh (fun g1 j1 hg1=> ?_))))))))
 obtain ⟨k104,_⟩:=g1
 have hh:=hg1;clear hg1
 try dsimp only
 obtain ⟨z1,hh,hR1⟩:=iter_e hh
 dsimp only [At_]at hh
 refine TC.seq (TC.a (TL.i z z (TL.s z z (TL.w z (lenC z underlying31 z) (TL.w z (OpVal.lss z z z) (TL.en (TC.cD z hh (fun h105 hh=> ?_) (fun h105 hh=> ?_))))))))
 ·refine TC.skip (S.n (TC.seq (TC.block (TC.seq ?_))))
  have u19:=grd_c hh
  replace hh:=grd_t hh
  refine TC.draw [] (by kernel_rfl) (TA.a 0 z (moveSl (.inl z) z) z (TA.a 1 z (moveI (.inl z) z) z (TA.b 2 z (indexN z underlying31 sz9 z z f0_0.rv.sl (by omega)) z (TA.b 3 z (loadS1 ([]:List UInt8) z ag9 z f0_0 (by omega) z) z (TA.a 4 z (moveSl (.inl z) z) z (TA.a 5 z (moveI (.inl z) z) z (TA.b 6 z (indexN z underlying31 sz9 z z f1_0.rv.sl (by omega)) z (TA.b 7 z (loadS1 ([]:List UInt8) z ag9 z f1_0 (by omega) z) z (TA.a 8 z (neqBs z z z) z (TA.dn (S.n (TC.cD z hh (fun h106 hh=> ?_) (fun h106 hh=> ?_)))))))))))))
  ·refine TC.a (TL.j z z (TL.en (TC.ret (B.r (S.r (S.r ?_))))))
   replace hh:=fin_x hR1 hh
   refine B.r (S.r ?_)
   obtain rfl:=so hh
   exact rq [4] ⟨z,z,z⟩
  refine TC.skip (B.n (S.n (TC.region (TL.i z z (TL.w z (OpVal.succ z z z (by omega)) (TL.i z z (TL.en ?_)))))))
  obtain ⟨hh,hlt107⟩:=nxt_x hR1 hh
  exact lf ((k104+1),()) hlt107 hh (Sub.pre 0 z)
 refine TC.exit (S.x (S.x ?_))
 replace hh:=fin_x hR1 hh
 refine TC.exitHere (S.n (TC.a (TL.j z z (TL.en (TC.ret ?_)))))
 obtain rfl:=so hh
 exact rq [4] ⟨z,z,z⟩
def Ao_(x0:List Tip)(x1:List Tip)(k104:Nat):Option ((Nat)⊕(Bool)):=
 iteO (decide (((k104:Nat):Int)<((x0.length:Nat):Int))) (grd (k104<x1.length) (iteO (decide (¬ ((nth x0 k104 Tip.zero)=(nth x1 k104 Tip.zero)))) (fin (some false)) (nxt (k104+1)))) (fin (some true))
def A3_(x0:List Tip)(x1:List Tip):Option (Bool):=
 iteO (decide (((x0.length:Nat):Int)≠((x1.length:Nat):Int))) (some false) (iter (fun q:Nat=>Ao_ x0 x1 q) 0)
theorem E9_{x0:List Tip}{x1:List Tip}(f0_0:RS σ 2 encTip (.slice a0_0 x0.length c0_0) x0)(f1_0:RS σ 2 encTip (.slice a1_0 x1.length c1_0) x1){r:Bool}(hh:A3_ x0 x1=some r):
  Con Tryz.prog 16 #[.slice a0_0 x0.length c0_0,.slice a1_0 x1.length c1_0] σ [] (PureP (.bool r) σ):=by
 dsimp only [A3_]at hh
 have f0_0b:=f0_0.rv.big
 have f1_0b:=f1_0.rv.big
 refine Con.mk (n:=26) Tryz.func16 z z z (fun w0=> ?_)
 refine TC.a (TL.j z z (TL.en (TC.seq (TC.a (TL.s z z (TL.w z (lenC z underlying22 z) (TL.s z z (TL.w z (lenC z underlying22 z) (TL.w z (OpVal.neq z z z) (TL.en (TC.cD z hh (fun h101 hh=> ?_) (fun h101 hh=> ?_))))))))))))
 ·refine TC.a (TL.j z z (TL.en (TC.ret (S.r ?_))))
  obtain rfl:=so hh
  exact rq [4] ⟨z,z,z⟩
 refine TC.skip (S.n (TC.seq (TC.a (TL.i z z (TL.en (TC.block (TC.loopG (α:=(Nat)×(Unit)) (rgs [(4,2),(11,15)]) (fun g=>[(5,.int .i64 ((g.1:Nat):Int))]) (fun g=>[]) (fun g=>σ) (fun g=>iter (fun q:Nat=>Ao_ x0 x1 q) g.1=some r) (fun g=>rounds (fun q:Nat=>Ao_ x0 x1 q) g.1) (0,()) (Sub.pre 0 z) z (by repeat (first|exact trivial|refine ⟨z,?_⟩)) hh (fun g1 j1 hg1=> ?_))))))))
 obtain ⟨k104,_⟩:=g1
 have hh:=hg1;clear hg1
 try dsimp only
 obtain ⟨z1,hh,hR1⟩:=iter_e hh
 dsimp only [Ao_]at hh
 refine TC.seq (TC.a (TL.i z z (TL.s z z (TL.w z (lenC z underlying22 z) (TL.w z (OpVal.lss z z z) (TL.en (TC.cD z hh (fun h105 hh=> ?_) (fun h105 hh=> ?_))))))))
 ·refine TC.skip (S.n (TC.seq (TC.block (TC.seq ?_))))
  have u19:=grd_c hh
  replace hh:=grd_t hh
  refine TC.draw [] (by kernel_rfl) (TA.a 0 z (moveSl (.inl z) z) z (TA.a 1 z (moveI (.inl z) z) z (TA.b 2 z (indexN z underlying22 sz43 z z f0_0.rv.sl (by omega)) z (TA.b 3 z (loadSA Tip.zero z ag43 sz43 z f0_0 (by omega) (by omega)) z (TA.a 4 z (moveSl (.inl z) z) z (TA.a 5 z (moveI (.inl z) z) z (TA.b 6 z (indexN z underlying22 sz43 z z f1_0.rv.sl (by omega)) z (TA.b 7 z (loadSA Tip.zero z ag43 sz43 z f1_0 (by omega) (by omega)) z (TA.a 8 z (neqSt (p:=(nth x0 k104 Tip.zero)=(nth x1 k104 Tip.zero)) z z z eg43 (es43 (nth x0 k104 Tip.zero) (nth x1 k104 Tip.zero)) z) z (TA.dn (S.n (TC.cD z hh (fun h106 hh=> ?_) (fun h106 hh=> ?_)))))))))))))
  ·refine TC.a (TL.j z z (TL.en (TC.ret (B.r (S.r (S.r ?_))))))
   replace hh:=fin_x hR1 hh
   refine B.r (S.r ?_)
   obtain rfl:=so hh
   exact rq [4] ⟨z,z,z⟩
  refine TC.skip (B.n (S.n (TC.region (TL.i z z (TL.w z (OpVal.succ z z z (by omega)) (TL.i z z (TL.en ?_)))))))
  obtain ⟨hh,hlt107⟩:=nxt_x hR1 hh
  exact lf ((k104+1),()) hlt107 hh (Sub.pre 0 z)
 refine TC.exit (S.x (S.x ?_))
 replace hh:=fin_x hR1 hh
 refine TC.exitHere (S.n (TC.a (TL.j z z (TL.en (TC.ret ?_)))))
 obtain rfl:=so hh
 exact rq [4] ⟨z,z,z⟩
end Go.Proofs.YtamgjehhjkgelaaGreatDoor
end

noncomputable section
namespace Go.Proofs.YtamgjehhjkgelaaGreatDoor
open Go Go.E
section
variable {α:Type} [DecidableEq α] (d:α)
def ddN(l:List α):Nat→List α
  |0=>[]
  |n+1=>ddN l n++(if n=0∨nth l n d≠nth l (n - 1) d then [nth l n d] else [])
theorem mem_ddN(l:List α): ∀n,n≤l.length→ ∀x,x∈ddN d l n↔x∈l.take n
  |0,_,x=>by simp [ddN]
  | n + 1, h, x => by
    rw [ddN,take_snoc l (by omega) d,List.mem_append,List.mem_append,mem_ddN l n (by omega)]
    by_cases hc:n=0∨nth l n d≠nth l (n - 1) d
    · rw [if_pos hc]
    rw [if_neg hc]
    simp only [not_or,ne_eq,Decidable.not_not]at hc
    have:nth l n d∈l.take n:=by
      rw [hc.2]
      have h1:(l.take n)[n - 1]? =some (nth l (n - 1) d):=by rw [List.getElem?_take,if_pos (by omega)];exact getD_some l (by omega) d
      exact List.mem_of_getElem? h1
    constructor
    · rintro (h|h)
      · exact .inl h
      cases h
    rintro (h|h)
    · exact .inl h
    rw [List.mem_singleton.1 h];exact .inl this
theorem nth_set_ne{l:List α}{k i:Nat}{v:α}(h:i≠k):nth (l.set k v) i d=nth l i d:=by
  simp [nth,List.getD,List.getElem?_set,Ne.symm h]
include d in
theorem take_set_succ{l:List α}{k:Nat}{v:α}(h:k<l.length):(l.set k v).take (k+1)=l.take k++[v]:=by
  rw [take_snoc (l.set k v) (by simpa using h) d]
  congr 1
  · rw [List.take_set_of_le (Nat.le_refl _)]
  simp [nth,List.getD,h]
def gC_j(k125:Nat)(l128:List α)(k130:Nat):Option ((List α×Nat×Nat)⊕(Nat⊕List α)):=
  nxt (l128,k130,(k125+1))
def gC_b2(x0:List α)(k105:Nat)(l122:List α)(k124:Nat)(k125:Nat):Option ((List α×Nat×Nat)⊕(Nat⊕List α)):=
  iteO (decide (((k125:Nat):Int)<(((x0.length - k105):Nat):Int))) (grd (k125<(x0.length - k105)) (grd (0≤(IntKind.i64.wrap (((k125:Nat):Int) - 1))∧(IntKind.i64.wrap (((k125:Nat):Int) - 1))<((x0.length - k105):Nat)) (iteO (decide (¬ ((nth l122 (k105+k125) d)=(nth l122 (k105+(IntKind.i64.wrap (((k125:Nat):Int) - 1)).toNat) d)))) (grd (k125<(x0.length - k105)) (grd (k124<l122.length) (gC_j k125 (l122.set k124 (nth l122 (k105+k125) d)) (k124+1)))) (gC_j k125 l122 k124)))) (fin (grd (k124≤x0.length) (grd (k124≤(l122.take k124++List.replicate (l122.length - k124) d).length) (fin (some ((l122.take k124++List.replicate (l122.length - k124) d).take k124))))))
def gC_b1(x0:List α)(k105:Nat):Option ((Nat)⊕(List α)):=
  iteO (decide (((k105:Nat):Int)<((x0.length:Nat):Int))) (grd (0≤(IntKind.i64.wrap (((k105:Nat):Int) - 1))∧(IntKind.i64.wrap (((k105:Nat):Int) - 1))<(x0.length:Int)) (iteO (decide ((nth x0 k105 d)=(nth x0 ((IntKind.i64.wrap (((k105:Nat):Int) - 1)).toNat) d))) (grd (k105≤x0.length) (iter (fun q:(List α)×Nat×Nat=>gC_b2 d x0 k105 q.1 q.2.1 q.2.2) (x0,k105,1))) (nxt (k105+1)))) (fin (some x0))
def gC(x0:List α):Option (List α):=
  iteO (decide (((x0.length:Nat):Int)<2)) (some x0) (iter (fun q:Nat=>gC_b1 d x0 q) 1)
theorem wrap_pred{k:Nat}(h1:1≤k)(h2:k≤281474976710656):IntKind.i64.wrap ((k:Int) - 1)=((k - 1:Nat):Int):=by
  rw [wrap64_of (by omega) (by omega)];omega
theorem gC_in {l : List α} (hl : l.length ≤ 281474976710656) {k0 : Nat} (h0 : 1 ≤ k0) (hk : k0 < l.length) (he : nth l k0 d = nth l (k0 - 1) d) (hd : ddN d l k0 = l.take k0) :
    iter (fun q:(List α)×Nat×Nat=>gC_b2 d l k0 q.1 q.2.1 q.2.2) (l,k0,1)=some (.inr (ddN d l l.length)):=by
  refine Exists.elim (iter_run (step:=fun q:(List α)×Nat×Nat=>gC_b2 d l k0 q.1 q.2.1 q.2.2)
    (fun q=>1≤q.2.2∧k0+q.2.2≤l.length∧q.1.length=l.length∧q.2.1≤k0+q.2.2 - 1∧(∀i,k0+q.2.2 - 1≤i→nth q.1 i d=nth l i d)∧q.1.take q.2.1=ddN d l (k0+q.2.2))
    (fun r=>r= .inr (ddN d l l.length)) (fun q=>l.length - q.2.2) ?_ (l,k0,1) ⟨Nat.le_refl _,hk,rfl,by simp only;omega,fun _ _=>rfl,?_⟩) (fun r hr=>by rw [hr.1,hr.2])
  · rintro ⟨l2,k,j⟩ ⟨hj,hjl,hlen,hkj,hI,ht⟩
    simp only at hj hjl hlen hkj hI ht
    have hw:IntKind.i64.wrap ((j:Int) - 1)=((j - 1:Nat):Int):=wrap_pred hj (by omega)
    by_cases hlt:k0+j<l.length
    · left
      have e1:=hI (k0+j) (by omega)
      have e2:=hI (k0+(j - 1)) (by omega)
      simp only [gC_b2,hw,Int.toNat_natCast,decide_eq_true (show ((j:Nat):Int)<((l.length - k0:Nat):Int) by omega),iteO_true,
        grd_mk (show j<l.length - k0 by omega),grd_mk (show (0:Int)≤((j - 1:Nat):Int)∧((j - 1:Nat):Int)<((l.length - k0:Nat):Int) by omega),e1,e2]
      have e3:k0+(j - 1)=k0+j - 1:=by omega
      by_cases hc:nth l (k0+j) d=nth l (k0+(j - 1)) d
      · simp only [hc,not_true_eq_false,decide_false,iteO_false,gC_j]
        refine ⟨_,rfl,⟨by simp only;omega,by simp only;omega,hlen,by simp only;omega,fun i hi=>hI i (by simp only at hi;omega),?_⟩,by simp only;omega⟩
        simp only
        rw [ht,←Nat.add_assoc,ddN,if_neg,List.append_nil]
        rw [hc,e3];simp;omega
      simp only [hc,not_false_eq_true,decide_true,iteO_true,grd_mk (show k<l2.length by omega),gC_j]
      refine ⟨_,rfl,⟨by simp only;omega,by simp only;omega,by simp only [List.length_set];exact hlen,by simp only;omega,fun i hi=> ?_,?_⟩,by simp only;omega⟩
      · simp only at hi ⊢
        rw [nth_set_ne d (by omega)];exact hI i (by omega)
      simp only
      rw [take_set_succ d (by omega),ht,←Nat.add_assoc,ddN,if_pos]
      rw [e3]at hc;exact .inr hc
    right
    have hjl':k0+j=l.length:=by omega
    have hkl:(l2.take k).length=k:=by rw [List.length_take];omega
    refine ⟨.inr (ddN d l l.length),?_,rfl⟩
    simp only [gC_b2,decide_eq_false (show ¬ ((j:Nat):Int)<((l.length - k0:Nat):Int) by omega),iteO_false,grd_mk (show k≤l.length by omega)]
    rw [grd_mk (by rw [List.length_append,hkl];omega),List.take_append_of_le_length (by omega),List.take_of_length_le (by omega),ht,hjl']
    rfl
  simp only
  rw [ddN,if_neg (by rw [he];simp;omega),List.append_nil,hd]
theorem gC_eq {l : List α} (hl : l.length ≤ 281474976710656) : gC d l = some (ddN d l l.length) := by
  unfold gC
  by_cases h2:l.length<2
  · rw [decide_eq_true (by omega),iteO_true]
    match l,h2 with
    |[],_=>rfl
    |[x],_=>rfl
  rw [decide_eq_false (by omega),iteO_false]
  refine Exists.elim (iter_run (step:=fun q:Nat=>gC_b1 d l q) (fun k=>1≤k∧k≤l.length∧ddN d l k=l.take k) (fun r=>r=ddN d l l.length) (fun k=>l.length - k) ?_ 1 ⟨Nat.le_refl _,by omega,?_⟩) (fun r hr=>by rw [hr.1,hr.2])
  · rintro k ⟨h1,hk,hd⟩
    by_cases hlt:k<l.length
    · simp only [gC_b1,wrap_pred h1 (show k≤281474976710656 by omega),Int.toNat_natCast,decide_eq_true (show ((k:Nat):Int)<((l.length:Nat):Int) by omega),iteO_true,
        grd_mk (show (0:Int)≤((k - 1:Nat):Int)∧((k - 1:Nat):Int)<(l.length:Int) by omega)]
      by_cases hc:nth l k d=nth l (k - 1) d
      · right
        simp only [hc,decide_true,iteO_true,grd_mk hk]
        exact ⟨_,gC_in d hl h1 hlt hc hd,rfl⟩
      left
      simp only [hc,decide_false,iteO_false]
      refine ⟨k+1,rfl,⟨by omega,by omega,?_⟩,by omega⟩
      rw [ddN,if_pos (.inr hc),hd,take_snoc l hlt d]
    right
    have:k=l.length:=by omega
    refine ⟨l,?_,?_⟩
    · simp only [gC_b1,decide_eq_false (show ¬ ((k:Nat):Int)<((l.length:Nat):Int) by omega),iteO_false];rfl
    rw [←this,hd,List.take_of_length_le (by omega)]
  rw [ddN,if_pos (.inl rfl),take_snoc l (by omega) d];simp [ddN]
end
def onceL{α:Type}[DecidableEq α](d:α)(cf:α→α→Int)(l:List α):List α:=ddN d (sortL cf l) l.length
section
variable {α:Type} [DecidableEq α] {d:α} {cf:α→α→Int}
theorem Ft_(l:List α):(sortL cf l).length=l.length:=List.length_mergeSort _
theorem mem_onceL{l:List α}{x:α}:x∈onceL d cf l↔x∈l:=by
  have h:=Ft_ (cf:=cf) l
  rw [onceL,mem_ddN d _ _ (by omega),List.take_of_length_le (by omega),sortL,List.mem_mergeSort]
theorem GoodCmp.le_trans(hc:GoodCmp cf){x y z:α}(h1: ¬ cf y x<0)(h2: ¬ cf z y<0): ¬ cf z x<0:=fun h3=>by
  by_cases e:x=y
  · subst e;exact h2 h3
  by_cases e':y=z
  · subst e';exact h1 h3
  have a:=hc.anti y x;have b:=hc.anti z y;have a':=hc.eq y x;have b':=hc.eq z y
  have h4:cf y z<0:=by
    rw [hc.anti]
    have:cf z y≠0:=fun h=>e' ((b'.1 h).symm)
    omega
  exact h1 (hc.trans _ _ _ h4 h3)
theorem Fe_(hc:GoodCmp cf)(l:List α):(sortL cf l).Pairwise fun x y=> ¬ cf y x<0:=by
  have:=List.pairwise_mergeSort (le:=fun x y=> !decide (cf y x<0)) (fun a b c h1 h2=>by
    simp only [Bool.not_eq_true',decide_eq_false_iff_not]at *
    exact hc.le_trans h1 h2) (fun a b=>by
    have:=hc.anti a b
    simp only [Bool.or_eq_true,Bool.not_eq_true',decide_eq_false_iff_not];omega) l
  exact this.imp fun h=>by simpa using h
theorem sorted_onceL (hc : GoodCmp cf) (l : List α) : (onceL d cf l).Pairwise fun x y => cf x y < 0 := by
  have hs:=Fe_ hc l
  have hlen:=Ft_ (cf:=cf) l
  unfold onceL
  generalize sortL cf l=s at hs hlen
  have key: ∀n,n≤s.length→(ddN d s n).Pairwise fun x y=>cf x y<0:=by
    intro n
    induction n with
    |zero=>intro _;exact List.Pairwise.nil
    |succ n ih=>
      intro h
      rw [ddN]
      split
      · rename_i hn
        rw [List.pairwise_append]
        refine ⟨ih (by omega),List.pairwise_singleton ..,fun x hx y hy=> ?_⟩
        rw [List.mem_singleton.1 hy]
        rw [mem_ddN d s n (by omega)]at hx
        have hn0:n≠0:=fun e=>by subst e;simp at hx
        have hne:nth s n d≠nth s (n - 1) d:=by rcases hn with h|h;exact absurd h hn0;exact h
        obtain ⟨i,hi,hxi⟩:=List.mem_iff_getElem.1 hx
        have hi':i<n:=by simp at hi;omega
        have hxi:s[i]'(by omega)=x:=by rw [←hxi,List.getElem_take]
        have hp:=List.pairwise_iff_getElem.1 hs
        have eN: ∀{k:Nat} (hk:k<s.length),nth s k d=s[k]:=fun hk=>by simp [nth,List.getD,hk]
        rw [eN (by omega),eN (by omega)]at hne
        rw [eN (by omega)]
        have h1:cf (s[n - 1]'(by omega)) (s[n]'(by omega))<0:=by
          have:=hp (n - 1) n (by omega) (by omega) (by omega)
          have a:=hc.anti (s[n - 1]'(by omega)) (s[n]'(by omega))
          have b:=hc.eq (s[n]'(by omega)) (s[n - 1]'(by omega))
          have:cf (s[n]'(by omega)) (s[n - 1]'(by omega))≠0:=fun h=>hne (b.1 h)
          omega
        by_cases hin:i=n - 1
        · subst hin;rw [←hxi];exact h1
        have h2:=hp i (n - 1) (by omega) (by omega) (by omega)
        rw [hxi]at h2
        by_cases e:x=s[n - 1]'(by omega)
        · rw [e];exact h1
        refine hc.trans _ _ _ ?_ h1
        have a:=hc.anti x (s[n - 1]'(by omega))
        have b:=hc.eq (s[n - 1]'(by omega)) x
        have:cf (s[n - 1]'(by omega)) x≠0:=fun h=>e (b.1 h).symm
        omega
      rw [List.append_nil];exact ih (by omega)
  exact key _ (by omega)
theorem rising_ext{R:α→α→Prop}(hi: ∀x, ¬ R x x)(ht: ∀x y z,R x y→R y z→R x z): ∀{l m:List α},l.Pairwise R→m.Pairwise R→(∀x,x∈l↔x∈m)→l=m
  |[],[],_,_,_=>rfl
  |[],y::m,_,_,h=>by have:=(h y).2 (List.mem_cons_self ..);cases this
  |x::l,[],_,_,h=>by have:=(h x).1 (List.mem_cons_self ..);cases this
  | x :: l, y :: m, hl, hm, h => by
    rw [List.pairwise_cons]at hl hm
    have e:x=y:=by
      have h1:=(h x).1 (List.mem_cons_self ..)
      have h2:=(h y).2 (List.mem_cons_self ..)
      rw [List.mem_cons]at h1 h2
      rcases h1 with h1|h1
      · exact h1
      rcases h2 with h2|h2
      · exact h2.symm
      exact absurd (ht _ _ _ (hm.1 x h1) (hl.1 y h2)) (hi y)
    subst e
    rw [rising_ext hi ht hl.2 hm.2 fun z=> ?_]
    have:=h z
    simp only [List.mem_cons]at this
    constructor
    · intro hz
      rcases this.1 (.inr hz)with e|h'
      · subst e;exact absurd (hl.1 z hz) (hi z)
      exact h'
    intro hz
    rcases this.2 (.inr hz)with e|h'
    · subst e;exact absurd (hm.1 z hz) (hi z)
    exact h'
theorem GoodCmp.irr(hc:GoodCmp cf)(x:α): ¬ cf x x<0:=by have:=(hc.eq x x).2 rfl;omega
theorem rising_eq(hc:GoodCmp cf){l m:List α}(hl:l.Pairwise fun x y=>cf x y<0)(hm:m.Pairwise fun x y=>cf x y<0)(h: ∀x,x∈l↔x∈m):l=m:=
  rising_ext (R:=fun x y=>cf x y<0) hc.irr hc.trans hl hm h
theorem Hq_(hc:GoodCmp cf){l m:List α}(h: ∀x,x∈l↔x∈m):onceL d cf l=onceL d cf m:=
  rising_eq hc (sorted_onceL hc l) (sorted_onceL hc m) fun x=>by rw [mem_onceL,mem_onceL,h]
theorem Ia_(hc:GoodCmp cf){l:List α}(h:l.Pairwise fun x y=>cf x y<0):onceL d cf l=l:=rising_eq hc (sorted_onceL hc l) h fun x=>mem_onceL
end
end Go.Proofs.YtamgjehhjkgelaaGreatDoor
end

noncomputable section
namespace Go.Proofs.YtamgjehhjkgelaaGreatDoor
open Go Go.E
theorem H0_:compactS=gC ([]:List UInt8):=rfl
theorem Id_{l:List (List UInt8)}(h:l.length * 16≤140737488355328):onceS l=some (onceL [] Lib.compareBytes l):=by
  rw [onceS,grd_mk h,H0_,gC_eq [] (by rw [Ft_];omega),Ft_];rfl
end Go.Proofs.YtamgjehhjkgelaaGreatDoor
end

noncomputable section
namespace Go.E
open Go
section
variable {K:Type} [DecidableEq K]
theorem len_of_sub: ∀{l m:List K},l.Nodup→(∀x∈l,x∈m)→l.length≤m.length
  |[],m,_,_=>Nat.zero_le _
  | x :: l, m, hn, hs => by
    rw [List.nodup_cons]at hn
    have hx:=hs x (List.mem_cons_self ..)
    have:=len_of_sub (m:=m.erase x) hn.2 fun y hy=>by
      have h1:=hs y (List.mem_cons_of_mem _ hy)
      refine (List.mem_erase_of_ne ?_).2 h1
      intro e;subst e;exact hn.1 hy
    rw [List.length_erase_of_mem hx]at this
    have hp:=List.length_pos_of_mem hx
    simp only [List.length_cons];omega
def FM.ofL(S:List K):FM K Unit:=S.foldl (fun m k=>m.put k ()) FM.emp
theorem FM.ofL_snoc(S:List K)(k:K):FM.ofL (S++[k])=(FM.ofL S).put k ():=by simp [FM.ofL]
theorem FM.ofL_f(S:List K)(x:K):(FM.ofL S).f x=if x∈S then some () else none:=by
  have key: ∀(S:List K) (m:FM K Unit),(S.foldl (fun m k=>m.put k ()) m).f x=if x∈S then some () else m.f x:=by
    intro S
    induction S with
    |nil=>intro m;simp
    |cons y S ih=>
      intro m
      rw [List.foldl_cons,ih]
      by_cases h:x∈S
      · simp [h]
      by_cases e:x=y
      · subst e;simp [FM.put]
      simp [h,FM.put,e]
  rw [FM.ofL,key];rfl
def card(S:List K):Nat:=(FM.ofL S).n
theorem rev_ind{p:List K→Prop}(h0:p [])(h1: ∀l x,p l→p (l++[x]))(l:List K):p l:=by
  have: ∀m:List K,p m.reverse:=fun m=>by
    induction m with
    |nil=>exact h0
    |cons x m ih=>rw [List.reverse_cons];exact h1 _ _ ih
  simpa using this l.reverse
theorem FM.ofL_len (S : List K) : ∃ l : List K, l.Nodup ∧ (∀ x, x ∈ l ↔ x ∈ S) ∧ l.length = card S := by
  induction S using rev_ind with
  |h0=>exact ⟨[],List.nodup_nil,by simp,rfl⟩
  |h1 S k ih=>
    obtain ⟨l,h1,h2,h3⟩:=ih
    have hf:=FM.ofL_f S k
    by_cases hk:k∈S
    · refine ⟨l,h1,fun x=> ?_,?_⟩
      · rw [h2,List.mem_append,List.mem_singleton]
        constructor
        · exact .inl
        rintro (h|rfl)
        · exact h
        exact hk
      rw [h3,card,card,FM.ofL_snoc,FM.put];simp [hf,hk]
    refine ⟨l++[k],?_,fun x=>by rw [List.mem_append,List.mem_append,h2],?_⟩
    · rw [List.nodup_append]
      exact ⟨h1,by simp,fun x hx y hy=>by
        rw [List.mem_singleton]at hy;subst hy
        intro e;subst e;exact hk ((h2 _).1 hx)⟩
    rw [List.length_append,h3,card,card,FM.ofL_snoc,FM.put];simp [hf,hk]
theorem card_mono{S T:List K}(h: ∀x∈S,x∈T):card S≤card T:=by
  obtain ⟨l,h1,h2,h3⟩:=FM.ofL_len S
  obtain ⟨m,_,h5,h6⟩:=FM.ofL_len T
  rw [←h3,←h6]
  exact len_of_sub h1 fun x hx=>(h5 x).2 (h x ((h2 x).1 hx))
theorem card_congr{S T:List K}(h: ∀x,x∈S↔x∈T):card S=card T:=Nat.le_antisymm (card_mono fun x hx=>(h x).1 hx) (card_mono fun x hx=>(h x).2 hx)
theorem card_le(S:List K):card S≤S.length:=by
  obtain ⟨l,h1,h2,h3⟩:=FM.ofL_len S
  rw [←h3];exact len_of_sub h1 fun x hx=>(h2 x).1 hx
theorem FM.ofL_congr{S T:List K}(h: ∀x,x∈S↔x∈T):FM.ofL S=FM.ofL T:=by
  have e1:(FM.ofL S).f=(FM.ofL T).f:=funext fun x=>by rw [FM.ofL_f,FM.ofL_f];simp only [h]
  have e2:(FM.ofL S).n=(FM.ofL T).n:=card_congr h
  cases hS:FM.ofL S;cases hT:FM.ofL T
  rw [hS]at e1 e2;rw [hT]at e1 e2
  simp only at e1 e2
  rw [e1,e2]
theorem Rep.of_ofL{S:List K}{q:List (K×Unit)}(h:Rep q (FM.ofL S)):(∀z,z∈q↔z.1∈S)∧q.length=card S:=by
  refine ⟨fun z=> ?_,h.len⟩
  obtain ⟨k,v⟩:=z
  rw [h.mem,FM.ofL_f]
  by_cases hk:k∈S<;>simp [hk]
theorem Rep.ofL(S:List K): ∃q:List (K×Unit),Rep q (FM.ofL S):=by
  obtain ⟨l,h1,h2,h3⟩:=FM.ofL_len S
  refine ⟨l.map fun x=>(x,()),⟨fun k v=> ?_,by rw [List.length_map,h3];rfl,?_⟩⟩
  · rw [FM.ofL_f,List.mem_map]
    constructor
    · rintro ⟨x,hx,e⟩
      cases e
      rw [if_pos ((h2 _).1 hx)]
    intro h
    split at h
    · rename_i hk;exact ⟨k,(h2 k).2 hk,rfl⟩
    cases h
  rw [List.map_map,show (Prod.fst ∘ fun x:K=>(x,()))=id from rfl,List.map_id];exact h1
end
section
variable {β γ:Type}
structure Grp (key:β→Int) (val:β→γ) (n:Nat) (l:List (List γ)) (xs:List β):Prop where
  len:l.length=n
  row: ∀i,i<n→nth l i []=(xs.filter fun x=>decide (key x=(i:Int))).map val
theorem Grp.nil(key:β→Int)(val:β→γ)(n:Nat):Grp key val n (List.replicate n []) []:=⟨List.length_replicate ..,fun i hi=>by simp [nth,List.getD,List.getElem?_replicate,hi]⟩
theorem Grp.snoc{key:β→Int}{val:β→γ}{n:Nat}{l:List (List γ)}{xs:List β}(h:Grp key val n l xs){x:β}(h0:0≤key x)(h1:key x<n):
    Grp key val n (l.set (key x).toNat (nth l (key x).toNat []++[val x])) (xs++[x]):=by
  refine ⟨by rw [List.length_set];exact h.len,fun i hi=> ?_⟩
  rw [List.filter_append,List.map_append,←h.row i hi]
  by_cases e:i=(key x).toNat
  · subst e
    have:key x=((key x).toNat:Int):=by omega
    have hl:=h.len
    rw [show nth (l.set (key x).toNat (nth l (key x).toNat []++[val x])) (key x).toNat []=nth l (key x).toNat []++[val x]from by simp [nth,List.getD,hl,hi]]
    simp [this.symm]
  have hne: ¬ key x=(i:Int):=by omega
  rw [show nth (l.set (key x).toNat (nth l (key x).toNat []++[val x])) i []=nth l i []from by simp [nth,List.getD,List.getElem?_set,Ne.symm e]]
  simp [hne]
theorem Grp.at{key:β→Int}{val:β→γ}{n:Nat}{l:List (List γ)}{xs:List β}(h:Grp key val n l xs){s:Int}(h0:0≤s)(h1:s<n):nth l s.toNat []=(xs.filter fun x=>decide (key x=s)).map val:=by
  rw [h.row _ (by omega)]
  have:((s.toNat:Nat):Int)=s:=by omega
  simp only [this]
theorem iter_all{α R:Type}{step:Nat→Option (Nat⊕R)}{y no:R}(l:List α)(d:α)(p:α→Bool)(hs: ∀k,k<l.length→p (nth l k d)=true→step k=some (.inl (k+1)))
    (hn: ∀k,k<l.length→p (nth l k d)=false→step k=some (.inr no)) (hd:step l.length=some (.inr y)):iter step 0=some (if l.all p then y else no):=by
  have h:=iter_any0 (step:=step) (y:=no) (no:=y) (fun k=>k) (fun k=> !p (nth l k d)) l.length (fun k hk hp=>hs k hk (by simpa using hp)) (fun k hk hp=>hn k hk (by simpa using hp)) hd
  rw [h,range_any l d (fun x=> !p x)]
  by_cases ha:l.all p=true
  · have:(l.any fun x=> !p x)=false:=by rw [List.any_eq_false];intro x hx;have:=(List.all_eq_true.1 ha) x hx;simp [this]
    rw [this,ha];rfl
  have:(l.any fun x=> !p x)=true:=by
    rw [Bool.not_eq_true,List.all_eq_false]at ha
    obtain ⟨x,hx,h⟩:=ha
    exact List.any_eq_true.2 ⟨x,hx,by simpa using h⟩
  rw [this];simp only [cond_true];rw [if_neg ha]
theorem iter_fold{α S R:Type}{step:S×Nat→Option ((S×Nat)⊕R)}{r:R}(l:List α)(d:α)(f:Nat→S)(hs: ∀k,k<l.length→step (f k,k)=some (.inl (f (k+1),k+1)))(hd:step (f l.length,l.length)=some (.inr r)):
    iter step (f 0,0)=some r:=iter_seq0 (fun k=>(f k,k)) l.length hs hd
end
end Go.E
end

noncomputable section
namespace Go.Proofs.YtamgjehhjkgelaaGreatDoor
open Go Go.E
def tipB(n:Int)(p:Tip):Bool:=decide (0≤p.state) && decide (p.state<n) && decide ((p.out.length:Int)≤1024)
def tipsB(l:List Tip)(n:Int):Bool:=decide ((l.length:Int)≤1024) && l.all (tipB n)
def arcB(n:Int)(a:Arc):Bool:=decide (0≤a.frm) && decide (a.frm<n) && decide (0≤a.to) && decide (a.to<n) && decide (a.set≠BSet.zero) && decide ((a.out.length:Int)≤1024)
def fstB(t:Fst):Bool:=decide (0≤t.states) && decide (t.states≤1024) && decide ((t.arcs.length:Int)≤16384) && tipsB t.starts t.states && tipsB t.ends t.states && t.arcs.all (arcB t.states)
theorem D3_(s n:Int):Cg_ s n=some (decide (0≤s) && decide (s<n)):=by
  unfold Cg_
  by_cases h:0≤s<;>simp [h]
theorem rightTips_eq (l : List Tip) (n : Int) : Bc_ l n = some (tipsB l n) := by
  unfold Bc_ tipsB
  by_cases h:(l.length:Int)≤1024
  · rw [decide_eq_false (by omega),iteO_false,iter_all (y:=true) (no:=false) l Tip.zero (tipB n)]
    · rw [decide_eq_true h,Bool.true_and];cases l.all (tipB n)<;>rfl
    · intro k hk hp
      simp only [tipB,Bool.and_eq_true,decide_eq_true_eq]at hp
      simp only [Ar_,lt_dec hk,iteO_true,D3_,bnd,Option.bind_some,hp.1.1,hp.1.2,decide_true,Bool.and_self,Bool.not_true,iteO_false,decide_eq_false (show ¬ (1024:Int)<((nth l k Tip.zero).out.length:Int) by omega)];rfl
    · intro k hk hp
      simp only [Ar_,lt_dec hk,iteO_true,D3_,bnd,Option.bind_some]
      by_cases hc:(decide (0≤(nth l k Tip.zero).state) && decide ((nth l k Tip.zero).state<n))=true
      · rw [hc]
        simp only [tipB,hc,Bool.true_and,decide_eq_false_iff_not]at hp
        simp only [Bool.not_true,iteO_false,decide_eq_true (show (1024:Int)<((nth l k Tip.zero).out.length:Int) by omega),iteO_true];rfl
      simp only [Bool.not_eq_true]at hc
      rw [hc];rfl
    simp only [Ar_,Int.lt_irrefl,decide_false,iteO_false];rfl
  rw [decide_eq_true (by omega),iteO_true];simp [h]
theorem Gw_(t:Fst):Bk_ t=some (errB (fstB t)):=by
  unfold Bk_
  by_cases h1:t.states<0
  · rw [decide_eq_true h1,iteO_true];simp [fstB,errB,show ¬ 0≤t.states by omega]
  rw [decide_eq_false h1,iteO_false]
  by_cases h2:1024<t.states
  · rw [decide_eq_true h2,iteO_true];simp [fstB,errB,show ¬ t.states≤1024 by omega]
  rw [decide_eq_false h2,iteO_false]
  by_cases h3:(16384:Int)<(t.arcs.length:Int)
  · rw [decide_eq_true h3,iteO_true];simp only [fstB,decide_eq_false (show ¬ (t.arcs.length:Int)≤16384 by omega),Bool.and_false,Bool.false_and];rfl
  rw [decide_eq_false h3,iteO_false,rightTips_eq,bnd,Option.bind_some]
  have e0:fstB t=(tipsB t.starts t.states && tipsB t.ends t.states && t.arcs.all (arcB t.states)):=by
    simp only [fstB,decide_eq_true (show 0≤t.states by omega),decide_eq_true (show t.states≤1024 by omega),decide_eq_true (show (t.arcs.length:Int)≤16384 by omega),Bool.true_and]
  rw [e0]
  cases h4:tipsB t.starts t.states
  · rfl
  simp only [Bool.not_true,iteO_false,rightTips_eq,bnd,Option.bind_some]
  cases h5:tipsB t.ends t.states
  · rfl
  simp only [Bool.not_true,iteO_false,Bool.and_self,Bool.true_and]
  rw [iter_all (y:=0) (no:=1) t.arcs Arc.zero (arcB t.states)]
  · rfl
  · intro k hk hp
    simp only [arcB,Bool.and_eq_true,decide_eq_true_eq]at hp
    obtain ⟨⟨⟨⟨⟨p1,p2⟩,p3⟩,p4⟩,p5⟩,p6⟩:=hp
    simp only [A9_,lt_dec hk,iteO_true,D3_,bnd,Option.bind_some,p1,p2,p3,p4,p5,decide_true,decide_false,Bool.and_self,Bool.not_true,iteO_false,decide_eq_false (show ¬ (1024:Int)<((nth t.arcs k Arc.zero).out.length:Int) by omega)];rfl
  · intro k hk hp
    simp only [A9_,lt_dec hk,iteO_true,D3_,bnd,Option.bind_some]
    cases hc:(decide (0≤(nth t.arcs k Arc.zero).frm) && decide ((nth t.arcs k Arc.zero).frm<t.states))
    · rfl
    cases hd:(decide (0≤(nth t.arcs k Arc.zero).to) && decide ((nth t.arcs k Arc.zero).to<t.states))
    · rfl
    simp only [Bool.not_true,iteO_false]
    by_cases he:(nth t.arcs k Arc.zero).set=BSet.zero
    · rw [decide_eq_true he];rfl
    rw [decide_eq_false he,iteO_false]
    have hd':(decide (0≤(nth t.arcs k Arc.zero).frm) && decide ((nth t.arcs k Arc.zero).frm<t.states) && decide (0≤(nth t.arcs k Arc.zero).to) && decide ((nth t.arcs k Arc.zero).to<t.states))=true:=by rw [Bool.and_assoc,hc,hd];rfl
    simp only [arcB,hd',Bool.true_and,ne_eq,he,not_false_eq_true,decide_true,decide_eq_false_iff_not]at hp
    rw [decide_eq_true (by omega)];rfl
  simp only [A9_,Int.lt_irrefl,decide_false,iteO_false];rfl
theorem errB_ne{b:Bool}:decide (errB b≠0)= !b:=by cases b<;>rfl
def outOf(p:FPair)(a:Arc)(b:UInt8):List UInt8:=if a.copy then (p.out++a.out)++[b] else p.out++a.out
def aftA(g:List Arc)(p:FPair)(b:UInt8):List FPair:=(g.filter fun a=>a.set.has b.toNat).map fun a=>⟨a.to,outOf p a b⟩
def aftP(t:Fst)(S:List FPair)(b:UInt8):List FPair:=S.flatMap fun p=>aftA (t.arcs.filter fun a=>decide (a.frm=p.state)) p b
def tp(x:Tip):FPair:=⟨x.state,x.out⟩
def pairsL(t:Fst)(w:List UInt8):List FPair:=w.foldl (aftP t) (t.starts.map tp)
def fitsB(t:Fst)(w:List UInt8):Bool:=(List.range w.length).all fun k=>decide (card (pairsL t (w.take (k+1)))≤4096)
def endT(t:Fst)(S:List FPair):List (List UInt8):=S.flatMap fun p=>((t.ends.filter fun e=>decide (e.state=p.state)).map Tip.out).map fun o=>p.out++o
def outsL(t:Fst)(w:List UInt8):List (List UInt8):=onceL [] Lib.compareBytes (endT t (pairsL t w))
theorem mem_aftA{g:List Arc}{p q:FPair}{b:UInt8}:q∈aftA g p b↔ ∃a∈g,a.set.has b.toNat=true∧q=⟨a.to,outOf p a b⟩:=by
  simp only [aftA,List.mem_map,List.mem_filter]
  constructor
  · rintro ⟨a,⟨h1,h2⟩,h3⟩;exact ⟨a,h1,h2,h3.symm⟩
  rintro ⟨a,h1,h2,h3⟩;exact ⟨a,⟨h1,h2⟩,h3.symm⟩
theorem mem_aftP{t:Fst}{S:List FPair}{b:UInt8}{q:FPair}:q∈aftP t S b↔ ∃p∈S, ∃a∈t.arcs,a.frm=p.state∧a.set.has b.toNat=true∧q=⟨a.to,outOf p a b⟩:=by
  simp only [aftP,List.mem_flatMap,mem_aftA,List.mem_filter,decide_eq_true_eq]
  constructor
  · rintro ⟨p,h1,a,⟨h2,h3⟩,h4,h5⟩;exact ⟨p,h1,a,h2,h3,h4,h5⟩
  rintro ⟨p,h1,a,h2,h3,h4,h5⟩;exact ⟨p,h1,a,⟨h2,h3⟩,h4,h5⟩
theorem aftA_snoc(g:List Arc)(a:Arc)(p:FPair)(b:UInt8):aftA (g++[a]) p b=aftA g p b++(if a.set.has b.toNat then [⟨a.to,outOf p a b⟩] else []):=by
  rw [aftA,List.filter_append,List.map_append]
  cases h:a.set.has b.toNat<;>simp [aftA,h]
theorem b2_step(x0:List (List Arc))(z:FPair×Unit)(b:UInt8)(S:List FPair)(hS:card S≤4096)(hz:z.1.out.length≤100000000)(hg: ∀a∈nth x0 z.1.state.toNat [],a.out.length≤1024):
    iter (fun q:(FM FPair Unit)×Nat=>A5_ x0 z b q.1 q.2) (FM.ofL S,0)=
      some (if card (S++aftA (nth x0 z.1.state.toNat []) z.1 b)≤4096 then .inl (FM.ofL (S++aftA (nth x0 z.1.state.toNat []) z.1 b)) else .inr (FM.emp,false)):=by
  generalize hgd:nth x0 z.1.state.toNat ([]:List Arc)=g at hg
  refine Exists.elim (iter_run (step:=fun q:(FM FPair Unit)×Nat=>A5_ x0 z b q.1 q.2)
    (fun q=>q.2≤g.length∧q.1=FM.ofL (S++aftA (g.take q.2) z.1 b)∧card (S++aftA (g.take q.2) z.1 b)≤4096)
    (fun r=>r=if card (S++aftA g z.1 b)≤4096 then .inl (FM.ofL (S++aftA g z.1 b)) else .inr (FM.emp,false)) (fun q=>g.length - q.2) ?_ (FM.ofL S,0) ⟨Nat.zero_le _,by simp [aftA],by simpa [aftA]using hS⟩) (fun r hr=>by rw [hr.1,hr.2])
  rintro ⟨m,k⟩ ⟨hk,hm,hc⟩
  simp only at hk hm hc
  subst hm
  by_cases hlt:k<g.length
  · have hmem:nth g k Arc.zero∈g:=nth_mem' hlt _
    have ho:=hg _ hmem
    have hsn:aftA (g.take (k+1)) z.1 b=aftA (g.take k) z.1 b++(if (nth g k Arc.zero).set.has b.toNat then [⟨(nth g k Arc.zero).to,outOf z.1 (nth g k Arc.zero) b⟩] else []):=by rw [take_snoc g hlt Arc.zero,aftA_snoc]
    cases hh:(nth g k Arc.zero).set.has b.toNat
    · left
      rw [hh]at hsn
      refine ⟨(FM.ofL (S++aftA (g.take k) z.1 b),k+1),?_,⟨by simp only;omega,by simp only [hsn];simp,by simp only [hsn];simpa using hc⟩,by simp only;omega⟩
      simp only [A5_,hgd,lt_dec hlt,iteO_true,hh,Bool.not_false];rfl
    rw [hh]at hsn
    simp only [if_true]at hsn
    have hout:A5_ x0 z b (FM.ofL (S++aftA (g.take k) z.1 b)) k=Cs_ (FM.ofL (S++aftA (g.take k) z.1 b)) x0 z k (outOf z.1 (nth g k Arc.zero) b):=by
      simp only [A5_,hgd,lt_dec hlt,iteO_true,hh,Bool.not_true,iteO_false]
      rw [grd_mk (by omega)]
      unfold outOf
      cases (nth g k Arc.zero).copy
      · simp
      simp only [iteO_true,if_true]
      rw [grd_mk (by simp only [List.length_append,List.length_singleton];omega)]
    have hput:FM.put (FM.ofL (S++aftA (g.take k) z.1 b)) (⟨(nth g k Arc.zero).to,outOf z.1 (nth g k Arc.zero) b⟩:FPair) ()=FM.ofL (S++aftA (g.take (k+1)) z.1 b):=by rw [←FM.ofL_snoc,hsn,List.append_assoc]
    simp only [hout,Cs_,hgd,hput]
    by_cases hbig:card (S++aftA (g.take (k+1)) z.1 b)≤4096
    · left
      refine ⟨(FM.ofL (S++aftA (g.take (k+1)) z.1 b),k+1),?_,⟨by simp only;omega,rfl,hbig⟩,by simp only;omega⟩
      rw [decide_eq_false (by unfold card at hbig;omega),iteO_false];rfl
    right
    refine ⟨.inr (FM.emp,false),?_,?_⟩
    · rw [decide_eq_true (by unfold card at hbig;omega),iteO_true];rfl
    rw [if_neg]
    have:card (S++aftA (g.take (k+1)) z.1 b)≤card (S++aftA g z.1 b):=card_mono fun x hx=>by
      rw [List.mem_append]at *
      refine hx.imp id fun hx=> ?_
      rw [mem_aftA]at *
      obtain ⟨a,h1,h2⟩:=hx
      exact ⟨a,List.mem_of_mem_take h1,h2⟩
    omega
  right
  have e:g.take k=g:=List.take_of_length_le (by omega)
  rw [e]at hc ⊢
  rw [if_pos hc]
  refine ⟨_,?_,rfl⟩
  simp only [A5_,hgd,decide_eq_false (show ¬ ((k:Nat):Int)<((g.length:Nat):Int) by omega),iteO_false];rfl
def aftG(x0:List (List Arc))(S:List FPair)(b:UInt8):List FPair:=S.flatMap fun p=>aftA (nth x0 p.state.toNat []) p b
theorem step_run(x0:List (List Arc))(b:UInt8)(hg: ∀i, ∀a∈nth x0 i [],a.out.length≤1024): ∀(q:List (FPair×Unit)) (T:List FPair),(∀z∈q,(0≤z.1.state∧z.1.state<(x0.length:Int))∧z.1.out.length≤100000000)→card T≤4096→
    runL (fun (q:(FM FPair Unit)) (oE:Option (FPair×Unit))=>Bx_ x0 b q oE) q (FM.ofL T)=some (if card (T++aftG x0 (q.map Prod.fst) b)≤4096 then (FM.ofL (T++aftG x0 (q.map Prod.fst) b),true) else (FM.emp,false))
  |[],T,_,hT=>by
    simp only [runL,Bx_,optE,fin_some,aftG,List.map_nil,List.flatMap_nil,List.append_nil,if_pos hT]
  | z :: q, T, hq, hT => by
    have hz:=hq z (List.mem_cons_self ..)
    have e:T++aftG x0 ((z::q).map Prod.fst) b=(T++aftA (nth x0 z.1.state.toNat []) z.1 b)++aftG x0 (q.map Prod.fst) b:=by simp [aftG]
    have hst:Bx_ x0 b (FM.ofL T) (some z)=some (if card (T++aftA (nth x0 z.1.state.toNat []) z.1 b)≤4096 then .inl (FM.ofL (T++aftA (nth x0 z.1.state.toNat []) z.1 b)) else .inr (FM.emp,false)):=by
      simp only [Bx_,optE]
      rw [grd_mk hz.1,b2_step x0 z b T hT hz.2 (hg _)]
    simp only [runL,hst]
    by_cases hc:card (T++aftA (nth x0 z.1.state.toNat []) z.1 b)≤4096
    · rw [if_pos hc]
      simp only
      rw [step_run x0 b hg q _ (fun y hy=>hq y (List.mem_cons_of_mem _ hy)) hc,e]
    rw [if_neg hc]
    simp only
    rw [if_neg]
    rw [e]
    have:=card_mono (S:=T++aftA (nth x0 z.1.state.toNat []) z.1 b) (T:=(T++aftA (nth x0 z.1.state.toNat []) z.1 b)++aftG x0 (q.map Prod.fst) b) (fun x hx=>List.mem_append_left _ hx)
    omega
theorem step_eq(x0:List (List Arc))(b:UInt8)(S:List FPair)(hg: ∀i, ∀a∈nth x0 i [],a.out.length≤1024)(hS: ∀p∈S,(0≤p.state∧p.state<(x0.length:Int))∧p.out.length≤100000000):
    Fd_ x0 (FM.ofL S) b=some (if card (aftG x0 S b)≤4096 then (FM.ofL (aftG x0 S b),true) else (FM.emp,false)):=by
  obtain ⟨q0,hq0⟩:=Rep.ofL S
  unfold Fd_
  refine allP_i q0 hq0 fun q hq=> ?_
  have h1:=(Rep.of_ofL hq).1
  have:=step_run x0 b hg q [] (fun z hz=>hS z.1 ((h1 z).1 hz)) (by decide)
  have hcg: ∀x,x∈[]++aftG x0 (q.map Prod.fst) b↔x∈aftG x0 S b:=fun x=>by
    simp only [aftG,List.nil_append,List.mem_flatMap,List.mem_map]
    constructor
    · rintro ⟨p,⟨z,hz,rfl⟩,h⟩;exact ⟨z.1,(h1 z).1 hz,h⟩
    rintro ⟨p,hp,h⟩;exact ⟨p,⟨(p,()),(h1 (p,())).2 hp,rfl⟩,h⟩
  rw [card_congr hcg,FM.ofL_congr hcg]at this
  exact this
end Go.Proofs.YtamgjehhjkgelaaGreatDoor
end

noncomputable section
namespace Go.Proofs.YtamgjehhjkgelaaGreatDoor
open Go Go.E
theorem tipB_ok{n:Int}{p:Tip}(h:tipB n p=true):(0≤p.state∧p.state<n)∧p.out.length≤1024:=by
  simp only [tipB,Bool.and_eq_true,decide_eq_true_eq]at h;exact ⟨h.1,by omega⟩
theorem tipsB_ok{n:Int}{l:List Tip}(h:tipsB l n=true):l.length≤1024∧ ∀p∈l,(0≤p.state∧p.state<n)∧p.out.length≤1024:=by
  simp only [tipsB,Bool.and_eq_true,decide_eq_true_eq,List.all_eq_true]at h
  exact ⟨by omega,fun p hp=>tipB_ok (h.2 p hp)⟩
theorem arcB_ok{n:Int}{a:Arc}(h:arcB n a=true):(0≤a.frm∧a.frm<n)∧(0≤a.to∧a.to<n)∧a.set≠BSet.zero∧a.out.length≤1024:=by
  simp only [arcB,Bool.and_eq_true,decide_eq_true_eq]at h
  obtain ⟨⟨⟨⟨⟨p1,p2⟩,p3⟩,p4⟩,p5⟩,p6⟩:=h
  exact ⟨⟨p1,p2⟩,⟨p3,p4⟩,p5,by omega⟩
structure FstOk (t:Fst):Prop where
  st0:0≤t.states
  st1:t.states≤1024
  arcsN:t.arcs.length≤16384
  startsN:t.starts.length≤1024
  endsN:t.ends.length≤1024
  starts: ∀p∈t.starts,(0≤p.state∧p.state<t.states)∧p.out.length≤1024
  ends: ∀p∈t.ends,(0≤p.state∧p.state<t.states)∧p.out.length≤1024
  arcs: ∀a∈t.arcs,(0≤a.frm∧a.frm<t.states)∧(0≤a.to∧a.to<t.states)∧a.set≠BSet.zero∧a.out.length≤1024
theorem fstB_iff(t:Fst):fstB t=true↔FstOk t:=by
  constructor
  · intro h
    simp only [fstB,Bool.and_eq_true,decide_eq_true_eq,List.all_eq_true]at h
    obtain ⟨⟨⟨⟨⟨h1,h2⟩,h3⟩,h4⟩,h5⟩,h6⟩:=h
    exact ⟨h1,h2,by omega,(tipsB_ok h4).1,(tipsB_ok h5).1,(tipsB_ok h4).2,(tipsB_ok h5).2,fun a ha=>arcB_ok (h6 a ha)⟩
  rintro ⟨h1,h2,h3,h4,h5,h6,h7,h8⟩
  have hT: ∀l:List Tip,l.length≤1024→(∀p∈l,(0≤p.state∧p.state<t.states)∧p.out.length≤1024)→tipsB l t.states=true:=fun l hl hp=>by
    simp only [tipsB,Bool.and_eq_true,decide_eq_true_eq,List.all_eq_true]
    refine ⟨by omega,fun p hq=> ?_⟩
    have:=hp p hq
    simp only [tipB,Bool.and_eq_true,decide_eq_true_eq];omega
  simp only [fstB,Bool.and_eq_true,decide_eq_true_eq,List.all_eq_true]
  refine ⟨⟨⟨⟨⟨h1,h2⟩,by omega⟩,hT _ h4 h6⟩,hT _ h5 h7⟩,fun a ha=> ?_⟩
  obtain ⟨p1,p2,p3,p4⟩:=h8 a ha
  simp only [arcB,Bool.and_eq_true,decide_eq_true_eq]
  exact ⟨⟨⟨⟨p1,p2.1⟩,p2.2⟩,p3⟩,by omega⟩
theorem pairsL_snoc(t:Fst)(w:List UInt8)(b:UInt8):pairsL t (w++[b])=aftP t (pairsL t w) b:=by simp [pairsL]
theorem outOf_len(p:FPair)(a:Arc)(b:UInt8):(outOf p a b).length≤p.out.length+a.out.length+1:=by
  unfold outOf;split<;>simp only [List.length_append,List.length_singleton]<;>omega
theorem pairs_ok{t:Fst}(ht:FstOk t)(w:List UInt8): ∀p∈pairsL t w,(0≤p.state∧p.state<t.states)∧p.out.length≤1024+1025 * w.length:=by
  induction w using rev_ind with
  |h0=>
    intro p hp
    obtain ⟨x,hx,rfl⟩:=List.mem_map.1 hp
    have:=ht.starts x hx
    exact ⟨this.1,by have:=this.2;simp only [tp,List.length_nil];omega⟩
  |h1 w b ih=>
    intro q hq
    rw [pairsL_snoc,mem_aftP]at hq
    obtain ⟨p,hp,a,ha,_,_,rfl⟩:=hq
    have h1:=ht.arcs a ha
    have h2:=(ih p hp).2
    have h3:=outOf_len p a b
    refine ⟨h1.2.1,?_⟩
    rw [List.length_append,List.length_singleton]
    simp only;omega
theorem b6_run(l229:List (List (List UInt8)))(z:FPair×Unit)(l:List (List UInt8))(hz:z.1.out.length≤100000000)(hes: ∀o∈nth l229 z.1.state.toNat [],o.length≤1024)(hl:l.length+(nth l229 z.1.state.toNat []).length≤8000000000):
    iter (fun q:(List (List UInt8))×Nat=>Bw_ l229 z q.1 q.2) (l,0)=some (.inl (l++(nth l229 z.1.state.toNat []).map fun o=>z.1.out++o)):=by
  generalize hgd:nth l229 z.1.state.toNat ([]:List (List UInt8))=es at hes hl
  have:=iter_fold (step:=fun q:(List (List UInt8))×Nat=>Bw_ l229 z q.1 q.2) (r:= .inl (l++es.map fun o=>z.1.out++o)) es [] (fun k=>l++(es.take k).map fun o=>z.1.out++o) ?_ ?_
  · simpa using this
  · intro k hk
    have ho:=hes _ (nth_mem' hk [])
    simp only [Bw_,hgd,lt_dec hk,iteO_true]
    rw [grd_mk (by omega),grd_mk (by simp only [List.length_append,List.length_map,List.length_take,List.length_singleton];omega),take_snoc es hk []]
    simp [nxt]
  simp only [Bw_,hgd,Int.lt_irrefl,decide_false,iteO_false,List.take_length];rfl
def endG(l229:List (List (List UInt8)))(q:List (FPair×Unit)):List (List UInt8):=q.flatMap fun z=>(nth l229 z.1.state.toNat []).map fun o=>z.1.out++o
theorem b5_run(l229:List (List (List UInt8)))(he: ∀i,(nth l229 i []).length≤1024∧ ∀o∈nth l229 i [],o.length≤1024): ∀(q:List (FPair×Unit)) (l:List (List UInt8)),(∀z∈q,(0≤z.1.state∧z.1.state<(l229.length:Int))∧z.1.out.length≤100000000)→l.length+q.length * 1024≤8000000000→
    runL (fun (q:(List (List UInt8))) (oE:Option (FPair×Unit))=>Bz_ l229 q oE) q l=some (onceL [] Lib.compareBytes (l++endG l229 q),0)
  |[],l,_,hl=>by
    simp only [runL,Bz_,optE,Id_ (l:=l) (by simp at hl;omega),bnd,Option.bind_some,fin_some,endG,List.flatMap_nil,List.append_nil]
  | z :: q, l, hq, hl => by
    have hz:=hq z (List.mem_cons_self ..)
    have h1:=he z.1.state.toNat
    simp only [List.length_cons]at hl
    have hst:Bz_ l229 l (some z)=some (.inl (l++(nth l229 z.1.state.toNat []).map fun o=>z.1.out++o)):=by
      simp only [Bz_,optE]
      rw [grd_mk hz.1,b6_run l229 z l hz.2 h1.2 (by omega)]
    simp only [runL,hst]
    rw [b5_run l229 he q _ (fun y hy=>hq y (List.mem_cons_of_mem _ hy)) (by rw [List.length_append,List.length_map];omega)]
    simp [endG]
theorem ends_run{t:Fst}(ht:FstOk t)(S:List FPair)(hS: ∀p∈S,(0≤p.state∧p.state<t.states)∧p.out.length≤100000000)(hc:card S≤4096):
    iter (fun q:(List (List (List UInt8)))×Nat=>B0_ t (FM.ofL S) q.1 q.2) (List.replicate t.states.toNat [],0)=some (onceL [] Lib.compareBytes (endT t S),0):=by
  have ht0:=ht.st0
  refine Exists.elim (iter_run (step:=fun q:(List (List (List UInt8)))×Nat=>B0_ t (FM.ofL S) q.1 q.2) (fun q=>q.2≤t.ends.length∧Grp Tip.state Tip.out t.states.toNat q.1 (t.ends.take q.2))
    (fun r=>r=(onceL [] Lib.compareBytes (endT t S),0)) (fun q=>t.ends.length - q.2) ?_ (List.replicate t.states.toNat [],0) ⟨Nat.zero_le _,by simpa using Grp.nil Tip.state Tip.out t.states.toNat⟩) (fun r hr=>by rw [hr.1,hr.2])
  rintro ⟨l,k⟩ ⟨hk,hG⟩
  simp only at hk hG
  have hlen:=hG.len
  by_cases hlt:k<t.ends.length
  · left
    have hm:=ht.ends _ (nth_mem' hlt Tip.zero)
    have hrow:(nth l (nth t.ends k Tip.zero).state.toNat []).length≤1024:=by
      rw [hG.at hm.1.1 (by omega),List.length_map]
      have:=List.length_filter_le (fun x:Tip=>decide (x.state=(nth t.ends k Tip.zero).state)) (t.ends.take k)
      rw [List.length_take]at this
      have:=ht.endsN;omega
    refine ⟨(l.set (nth t.ends k Tip.zero).state.toNat (nth l (nth t.ends k Tip.zero).state.toNat []++[(nth t.ends k Tip.zero).out]),k+1),?_,⟨by simp only;omega,?_⟩,by simp only;omega⟩
    · simp only [B0_,lt_dec hlt,iteO_true]
      rw [grd_mk (by omega),grd_mk (by rw [List.length_singleton];omega),grd_mk (by omega)]
      rfl
    simp only
    rw [take_snoc t.ends hlt Tip.zero]
    exact hG.snoc hm.1.1 (by omega)
  right
  have e:t.ends.take k=t.ends:=List.take_of_length_le (by omega)
  rw [e]at hG
  refine ⟨_,?_,rfl⟩
  simp only [B0_,decide_eq_false (show ¬ ((k:Nat):Int)<((t.ends.length:Nat):Int) by omega),iteO_false]
  have hrow: ∀i,(nth l i []).length≤1024∧ ∀o∈nth l i [],o.length≤1024:=fun i=>by
    by_cases hi:i<t.states.toNat
    · rw [hG.row i hi,List.length_map]
      refine ⟨Nat.le_trans (List.length_filter_le _ _) ht.endsN,fun o ho=> ?_⟩
      obtain ⟨x,hx,rfl⟩:=List.mem_map.1 ho
      exact (ht.ends x (List.mem_filter.1 hx).1).2
    have:nth l i []=[]:=by simp [nth,List.getD,show l.length≤i by omega]
    rw [this];simp
  obtain ⟨q0,hq0⟩:=Rep.ofL S
  rw [allP_i (r:=(onceL [] Lib.compareBytes (endT t S),0)) q0 hq0 fun q hq=> ?_]
  · rfl
  obtain ⟨h1,h2⟩:=Rep.of_ofL hq
  rw [b5_run l hrow q [] (fun z hz=>by have:=hS z.1 ((h1 z).1 hz);exact ⟨⟨this.1.1,by omega⟩,this.2⟩) (by simp;omega)]
  congr 2
  refine Hq_ cmpB_good fun x=> ?_
  simp only [endG,endT,List.nil_append,List.mem_flatMap]
  constructor
  · rintro ⟨z,hz,h⟩
    have hzS:=(h1 z).1 hz
    have:=hS z.1 hzS
    rw [hG.at this.1.1 (by omega)]at h
    exact ⟨z.1,hzS,h⟩
  rintro ⟨p,hp,h⟩
  have:=hS p hp
  refine ⟨(p,()),(h1 (p,())).2 hp,?_⟩
  rw [hG.at this.1.1 (by omega)]
  exact h
theorem aftG_eq{t:Fst}{l:List (List Arc)}(hG:Grp Arc.frm id t.states.toNat l t.arcs)(S:List FPair)(hS: ∀p∈S,0≤p.state∧p.state<t.states)(b:UInt8):aftG l S b=aftP t S b:=by
  unfold aftG aftP
  rw [List.flatMap_def,List.flatMap_def]
  congr 1
  refine List.map_congr_left fun p hp=> ?_
  have:=hS p hp
  rw [hG.at this.1 (by omega),List.map_id]
theorem card_start{t:Fst}(ht:FstOk t):card (t.starts.map tp)≤4096:=by
  have:=card_le (t.starts.map tp)
  rw [List.length_map]at this
  have:=ht.startsN;omega
theorem Ic_{t:Fst}(ht:FstOk t)(w:List UInt8)(hw:w.length≤256)(l:List (List Arc))(hG:Grp Arc.frm id t.states.toNat l t.arcs):
    iter (fun q:(FM FPair Unit)×Nat=>Be_ w l t q.1 q.2) (FM.ofL (t.starts.map tp),0)=some (if fitsB t w then (outsL t w,0) else ([],2)):=by
  have ht0:=ht.st0
  have ht1:=ht.st1
  have hlen:=hG.len
  have hrow: ∀i, ∀a∈nth l i [],a.out.length≤1024:=fun i a ha=>by
    by_cases hi:i<t.states.toNat
    · rw [hG.row i hi,List.map_id]at ha
      exact (ht.arcs a (List.mem_filter.1 ha).1).2.2.2
    have:nth l i []=[]:=by simp [nth,List.getD,show l.length≤i by omega]
    rw [this]at ha;cases ha
  refine Exists.elim (iter_run (step:=fun q:(FM FPair Unit)×Nat=>Be_ w l t q.1 q.2) (fun q=>q.2≤w.length∧q.1=FM.ofL (pairsL t (w.take q.2))∧card (pairsL t (w.take q.2))≤4096∧ ∀j,j<q.2→card (pairsL t (w.take (j+1)))≤4096)
    (fun r=>r=if fitsB t w then (outsL t w,0) else ([],2)) (fun q=>w.length - q.2) ?_ (FM.ofL (t.starts.map tp),0) ⟨Nat.zero_le _,rfl,card_start ht,fun j hj=>by cases hj⟩) (fun r hr=>by rw [hr.1,hr.2])
  rintro ⟨m,k⟩ ⟨hk,hm,hc,hf⟩
  simp only at hk hm hc hf
  subst hm
  have hok:=pairs_ok ht (w.take k)
  have hlt':(w.take k).length≤256:=by rw [List.length_take];omega
  by_cases hlt:k<w.length
  · have hstep:=step_eq l (nth w k 0) (pairsL t (w.take k)) hrow (fun p hp=>by have:=hok p hp;exact ⟨⟨this.1.1,by omega⟩,by omega⟩)
    rw [aftG_eq hG _ (fun p hp=>(hok p hp).1),←pairsL_snoc,←take_snoc w hlt 0]at hstep
    simp only [Be_,lt_dec hlt,iteO_true,hstep,bnd,Option.bind_some]
    by_cases hb:card (pairsL t (w.take (k+1)))≤4096
    · left
      rw [if_pos hb]
      refine ⟨(FM.ofL (pairsL t (w.take (k+1))),k+1),rfl,⟨by simp only;omega,rfl,hb,fun j hj=> ?_⟩,by simp only;omega⟩
      simp only at hj
      by_cases e:j=k
      · subst e;exact hb
      exact hf j (by omega)
    right
    rw [if_neg hb]
    refine ⟨([],2),rfl,?_⟩
    rw [if_neg]
    intro h
    rw [fitsB,List.all_eq_true]at h
    exact hb (by simpa using h k (List.mem_range.2 hlt))
  right
  have e:w.take k=w:=List.take_of_length_le (by omega)
  have hk':k=w.length:=by omega
  refine ⟨(outsL t w,0),?_,?_⟩
  · simp only [Be_,decide_eq_false (show ¬ ((k:Nat):Int)<((w.length:Nat):Int) by omega),iteO_false]
    rw [grd_mk (by omega),e,ends_run ht _ (fun p hp=>by have:=pairs_ok ht w p hp;exact ⟨this.1,by omega⟩) (by rw [e]at hc;exact hc)]
    rfl
  rw [if_pos]
  rw [fitsB,List.all_eq_true]
  intro j hj
  simpa using hf j (by rw [hk'];exact List.mem_range.1 hj)
theorem starts_run(t:Fst)(w:List UInt8)(l:List (List Arc)){r:List (List UInt8)×Int}(h:iter (fun q:(FM FPair Unit)×Nat=>Be_ w l t q.1 q.2) (FM.ofL (t.starts.map tp),0)=some r):
    iter (fun q:(FM FPair Unit)×Nat=>Bv_ t w l q.1 q.2) (FM.emp,0)=some r:=by
  refine iter_fold (step:=fun q:(FM FPair Unit)×Nat=>Bv_ t w l q.1 q.2) t.starts Tip.zero (fun k=>FM.ofL ((t.starts.take k).map tp)) ?_ ?_
  · intro k hk
    simp only [Bv_,lt_dec hk,iteO_true]
    rw [take_snoc t.starts hk Tip.zero,List.map_append,List.map_cons,List.map_nil,FM.ofL_snoc]
    rfl
  simp only [Bv_,Int.lt_irrefl,decide_false,iteO_false,List.take_length,h];rfl
theorem arcs_run{t:Fst}(ht:FstOk t)(w:List UInt8)(hw:w.length≤256):
    iter (fun q:(List (List Arc))×Nat=>By_ t w q.1 q.2) (List.replicate t.states.toNat [],0)=some (if fitsB t w then (outsL t w,0) else ([],2)):=by
  have ht0:=ht.st0
  refine Exists.elim (iter_run (step:=fun q:(List (List Arc))×Nat=>By_ t w q.1 q.2) (fun q=>q.2≤t.arcs.length∧Grp Arc.frm id t.states.toNat q.1 (t.arcs.take q.2))
    (fun r=>r=if fitsB t w then (outsL t w,0) else ([],2)) (fun q=>t.arcs.length - q.2) ?_ (List.replicate t.states.toNat [],0) ⟨Nat.zero_le _,by simpa using Grp.nil Arc.frm id t.states.toNat⟩) (fun r hr=>by rw [hr.1,hr.2])
  rintro ⟨l,k⟩ ⟨hk,hG⟩
  simp only at hk hG
  have hlen:=hG.len
  by_cases hlt:k<t.arcs.length
  · left
    have hm:=ht.arcs _ (nth_mem' hlt Arc.zero)
    have hrow:(nth l (nth t.arcs k Arc.zero).frm.toNat []).length≤16384:=by
      rw [hG.at hm.1.1 (by omega),List.length_map]
      have:=List.length_filter_le (fun x:Arc=>decide (x.frm=(nth t.arcs k Arc.zero).frm)) (t.arcs.take k)
      rw [List.length_take]at this
      have:=ht.arcsN;omega
    refine ⟨(l.set (nth t.arcs k Arc.zero).frm.toNat (nth l (nth t.arcs k Arc.zero).frm.toNat []++[nth t.arcs k Arc.zero]),k+1),?_,⟨by simp only;omega,?_⟩,by simp only;omega⟩
    · simp only [By_,lt_dec hlt,iteO_true]
      rw [grd_mk (by omega),grd_mk (by rw [List.length_singleton];omega),grd_mk (by omega)]
      rfl
    simp only
    rw [take_snoc t.arcs hlt Arc.zero]
    exact hG.snoc hm.1.1 (by omega)
  right
  have e:t.arcs.take k=t.arcs:=List.take_of_length_le (by omega)
  rw [e]at hG
  refine ⟨_,?_,rfl⟩
  simp only [By_,decide_eq_false (show ¬ ((k:Nat):Int)<((t.arcs.length:Nat):Int) by omega),iteO_false]
  rw [starts_run t w l (Ic_ ht w hw l hG)]
  rfl
theorem outs_eq(t:Fst)(w:List UInt8)(hw:w.length≤281474976710656):Fn_ t w=some (if fstB t=true then (if w.length≤256 then (if fitsB t w=true then (outsL t w,0) else ([],2)) else ([],2)) else ([],1)):=by
  unfold Fn_
  rw [grd_mk hw,Gw_,bnd,Option.bind_some,errB_ne]
  by_cases h:fstB t=true
  · have ht:=(fstB_iff t).1 h
    have ht0:=ht.st0
    have ht1:=ht.st1
    rw [h,if_pos rfl,Bool.not_true,iteO_false]
    by_cases h2:w.length≤256
    · rw [decide_eq_false (by omega),iteO_false,if_pos h2,grd_mk (by omega),arcs_run ht w h2]
    rw [decide_eq_true (by omega),iteO_true,if_neg h2]
  simp only [Bool.not_eq_true]at h
  rw [h];rfl
end Go.Proofs.YtamgjehhjkgelaaGreatDoor
end

noncomputable section
namespace Go.Proofs.YtamgjehhjkgelaaGreatDoor
open Go Go.E
def toS(d:Dfa)(s z:Nat):BSet:=BSet.make fun b=>decide (nth (nth d.next s ([]:List Int)) (nth d.cls b (0:Int)).toNat (0:Int)=((z:Nat):Int))
def backR(d:Dfa)(s m:Nat):List Arrow:=(List.range m).flatMap fun z=>if toS d s z=BSet.zero then [] else [⟨((s:Nat):Int),((z:Nat):Int),toS d s z⟩]
def backE(d:Dfa)(m:Nat):List Arrow:=(List.range m).flatMap fun s=>backR d s d.next.length
def endsN(d:Dfa)(m:Nat):List Int:=(List.range m).flatMap fun s=>if nth d.fin s false=true then [((s:Nat):Int)] else []
def backN(d:Dfa):Nfa:=⟨((d.next.length:Nat):Int),[0],endsN d d.next.length,backE d d.next.length⟩
def mkF(d:Dfa)(out:List UInt8)(c:Bool):Fst:=⟨((d.next.length:Nat):Int),[⟨0,[]⟩],(endsN d d.next.length).map fun s=>⟨s,out⟩,(backE d d.next.length).map fun x=>⟨x.frm,x.to,x.set,[],c⟩⟩
theorem flat_len{α β:Type}(f:α→List β)(k:Nat): ∀l:List α,(∀x∈l,(f x).length≤k)→(l.flatMap f).length≤l.length * k
  |[],_=>by simp
  |x::l,h=>by
    have h1:=h x (List.mem_cons_self ..)
    have h2:=flat_len f k l fun y hy=>h y (List.mem_cons_of_mem _ hy)
    rw [List.flatMap_cons,List.length_append,List.length_cons,Nat.add_mul,Nat.one_mul];omega
theorem backR_len(d:Dfa)(s m:Nat):(backR d s m).length≤m:=by
  have:=flat_len (fun z=>if toS d s z=BSet.zero then [] else [(⟨((s:Nat):Int),((z:Nat):Int),toS d s z⟩:Arrow)]) 1 (List.range m) (fun z _=>by split<;>simp)
  rw [List.length_range,Nat.mul_one]at this;exact this
theorem backE_len(d:Dfa)(m:Nat):(backE d m).length≤m * d.next.length:=by
  have:=flat_len (fun s=>backR d s d.next.length) d.next.length (List.range m) (fun s _=>backR_len _ _ _)
  rw [List.length_range]at this;exact this
theorem endsN_len(d:Dfa)(m:Nat):(endsN d m).length≤m:=by
  have:=flat_len (fun s=>if nth d.fin s false=true then [((s:Nat):Int)] else []) 1 (List.range m) (fun z _=>by split<;>simp)
  rw [List.length_range,Nat.mul_one]at this;exact this
end Go.Proofs.YtamgjehhjkgelaaGreatDoor
end

noncomputable section
namespace Go.E
open Go
theorem iter_for {α S T R : Type} {step : T → Option (T ⊕ R)} (g : S → Nat → T) (l : List α) (d : α) (I : List α → S → Prop) (Q : R → Prop)
    (hs: ∀k s,k<l.length→I (l.take k) s→(∃s',step (g s k)=some (.inl (g s' (k+1)))∧I (l.take k++[nth l k d]) s')∨ ∃r,step (g s k)=some (.inr r)∧Q r)
    (hd: ∀s,I l s→ ∃r,step (g s l.length)=some (.inr r)∧Q r) {s0:S} (h0:I [] s0): ∃r,iter step (g s0 0)=some r∧Q r:=by
  have key: ∀m k s,l.length - k=m→k≤l.length→I (l.take k) s→ ∃r,iter step (g s k)=some r∧Q r:=by
    intro m
    induction m with
    |zero=>
      intro k s hm hk hI
      have hk:k=l.length:=by omega
      subst hk
      rw [List.take_length]at hI
      obtain ⟨r,h1,h2⟩:=hd s hI
      exact ⟨r,iter_done h1,h2⟩
    |succ m ih=>
      intro k s hm hk hI
      rcases hs k s (by omega) hI with ⟨s',h1,h2⟩|⟨r,h1,h2⟩
      · rw [←take_snoc l (by omega) d]at h2
        obtain ⟨r,h3,h4⟩:=ih (k+1) s' (by omega) (by omega) h2
        exact ⟨r,iter_next h1 h3,h4⟩
      exact ⟨r,iter_done h1,h2⟩
  exact key _ 0 s0 rfl (Nat.zero_le _) h0
end Go.E
end

noncomputable section
namespace Go.E
open Go
theorem iteO_dt{α:Type}{p:Prop}[Decidable p]{a b:Option α}(h:p):iteO (decide p) a b=a:=by rw [decide_eq_true h];rfl
theorem iteO_df{α:Type}{p:Prop}[Decidable p]{a b:Option α}(h: ¬ p):iteO (decide p) a b=b:=by rw [decide_eq_false h];rfl
theorem bnd_mk{α β:Type}{x:α}{f:α→Option β}:bnd (some x) f=f x:=rfl
theorem iter_up {S T R : Type} {step : T → Option (T ⊕ R)} (g : S → Nat → T) (n : Nat) (I : Nat → S → Prop) (Q : R → Prop)
    (hs: ∀k s,k<n→I k s→(∃s',step (g s k)=some (.inl (g s' (k+1)))∧I (k+1) s')∨ ∃r,step (g s k)=some (.inr r)∧Q r)
    (hd: ∀s,I n s→ ∃r,step (g s n)=some (.inr r)∧Q r) {s0:S} (h0:I 0 s0): ∃r,iter step (g s0 0)=some r∧Q r:=by
  have key: ∀m k s,n - k=m→k≤n→I k s→ ∃r,iter step (g s k)=some r∧Q r:=by
    intro m
    induction m with
    |zero=>
      intro k s hm hk hI
      have hk:k=n:=by omega
      subst hk
      obtain ⟨r,h1,h2⟩:=hd s hI
      exact ⟨r,iter_done h1,h2⟩
    |succ m ih=>
      intro k s hm hk hI
      rcases hs k s (by omega) hI with ⟨s',h1,h2⟩|⟨r,h1,h2⟩
      · obtain ⟨r,h3,h4⟩:=ih (k+1) s' (by omega) (by omega) h2
        exact ⟨r,iter_next h1 h3,h4⟩
      exact ⟨r,iter_done h1,h2⟩
  exact key _ 0 s0 rfl (Nat.zero_le _) h0
end Go.E
end

noncomputable section
namespace Go.Proofs.YtamgjehhjkgelaaGreatDoor
open Go Go.E
theorem u64or_lt'(a b:Nat):u64or a b<18446744073709551616:=(BitVec.ofNat 64 a ||| BitVec.ofNat 64 b).isLt
theorem has_bit'(s:BSet)(n:Nat):s.has n=(s.word (n / 64)).testBit (n % 64):=by
  unfold BSet.has;rw [Nat.testBit_eq_decide_div_mod_eq]
theorem Ie_{s t:BSet}(h: ∀n,n<256→s.has n=t.has n):s=t:=by
  refine BSet.ext_word fun i hi=>Nat.eq_of_testBit_eq fun j=> ?_
  by_cases hj:j<64
  · have h1:=h (64 * i+j) (by omega)
    rw [has_bit',has_bit',show (64 * i+j) / 64=i by omega,show (64 * i+j) % 64=j by omega]at h1
    exact h1
  have h2: ∀u:BSet,(u.word i).testBit j=false:=fun u=>Nat.testBit_lt_two_pow (Nat.lt_of_lt_of_le (BSet.word_lt u.isOk i) (show 2 ^ 64≤2 ^ j from Nat.pow_le_pow_right (by omega) (by omega)))
  rw [h2,h2]
theorem any_eq (a b : BSet) : Cz_ a b = some (BSet.make fun n => a.has n || b.has n) := by
  have h: ∃r,Cz_ a b=some r∧ ∀i,i<4→r.word i=u64or (a.word i) (b.word i):=by
    unfold Cz_
    exact iter_up (step:=fun q:BSet×Nat=>A7_ b q.1 q.2) (fun (s:BSet) k=>(s,k)) 4 (fun k s=> ∀i,i<4→s.word i=if i<k then u64or (a.word i) (b.word i) else a.word i) (fun r=> ∀i,i<4→r.word i=u64or (a.word i) (b.word i))
      (fun k s hk hI=> .inl ⟨BSet.setWord s k (u64or (BSet.word s k) (BSet.word b k)),by
        show A7_ b s k=_
        unfold A7_
        rw [iteO_dt (by omega),grd_mk hk,grd_mk hk,grd_mk hk,grd_mk (u64or_lt' _ _)];rfl,fun i hi=>by
        rw [BSet.word_set s hk _ i (u64or_lt' _ _) hi]
        by_cases e:i=k
        · subst e;rw [if_pos rfl,if_pos (by omega),hI i hi,if_neg (by omega)]
        rw [if_neg e,hI i hi]
        by_cases e2:i<k
        · rw [if_pos e2,if_pos (by omega)]
        rw [if_neg e2,if_neg (by omega)]⟩)
      (fun s hI=>⟨s,by
        show A7_ b s 4=_
        unfold A7_
        rw [iteO_df (by omega)];rfl,fun i hi=>by rw [hI i hi,if_pos hi]⟩) (s0:=a) (fun i hi=>by rw [if_neg (by omega)])
  obtain ⟨r,h1,h2⟩:=h
  rw [h1]
  congr 1
  refine Ie_ fun n hn=> ?_
  have l1:=BSet.word_lt a.isOk (n / 64)
  have l2:=BSet.word_lt b.isOk (n / 64)
  rw [BSet.make_has _ hn,has_bit',has_bit',has_bit',h2 _ (by omega)]
  unfold u64or
  rw [BitVec.toNat_or,BitVec.toNat_ofNat,BitVec.toNat_ofNat,Nat.mod_eq_of_lt l1,Nat.mod_eq_of_lt l2,Nat.testBit_or]
def cntS(o:Option Nat)(n:Int):Option Nat:=o.bind fun k=>if n<0∨(k:Int)<n then none else some (if n=k then k+1 else k)
def cntF(l:List Int):Option Nat:=l.foldl cntS (some 0)
theorem cntS_none: ∀l:List Int,l.foldl cntS none=none
  |[]=>rfl
  |_::l=>cntS_none l
theorem cntF_snoc(l:List Int)(n:Int):cntF (l++[n])=cntS (cntF l) n:=by simp [cntF,List.foldl_append]
theorem cntF_none{l m:List Int}(h:cntF l=none):cntF (l++m)=none:=by
  unfold cntF at h ⊢;rw [List.foldl_append,h,cntS_none]
theorem cntF_le: ∀(l:List Int) (j k:Nat),l.foldl cntS (some j)=some k→k≤j+l.length
  |[],j,k,h=>by cases h;simp
  |n::l,j,k,h=>by
    rw [List.foldl_cons]at h
    by_cases hc:n<0∨(j:Int)<n
    · rw [show cntS (some j) n=none by simp [cntS,hc],cntS_none]at h;cases h
    rw [show cntS (some j) n=some (if n=j then j+1 else j) by simp [cntS,hc]]at h
    have:=cntF_le l _ k h
    simp only [List.length_cons]
    split at this<;>omega
def clsF(cls:List Int)(k c:Nat):Nat→Bool:=fun b=>decide (b<k) && decide (nth cls b (0:Int)=((c:Nat):Int))
def clsS(cls:List Int)(c:Nat):BSet:=BSet.make fun b=>decide (nth cls b (0:Int)=((c:Nat):Int))
structure SetsI (cls:List Int) (k:Nat) (s:List BSet):Prop where
  cnt:cntF (cls.take k)=some s.length
  sets: ∀c,c<s.length→nth s c BSet.zero=BSet.make (clsF cls k c)
  low: ∀b,b<k→0≤nth cls b (0:Int)∧nth cls b (0:Int)<((s.length:Nat):Int)
  some_: ∀c,c<s.length→ ∃b,b<k∧nth cls b (0:Int)=((c:Nat):Int)
theorem nth_set'{α:Type}(l:List α)(i j:Nat)(x d:α)(hi:i<l.length):nth (l.set i x) j d=if j=i then x else nth l j d:=by
  unfold nth
  rw [List.getD_eq_getElem?_getD,List.getD_eq_getElem?_getD,List.getElem?_set]
  by_cases h:i=j
  · subst h;rw [if_pos rfl,if_pos rfl,if_pos hi];rfl
  rw [if_neg h,if_neg (fun e=>h e.symm)]
theorem nth_app_l{α:Type}(l m:List α)(j:Nat)(d:α)(h:j<l.length):nth (l++m) j d=nth l j d:=by
  unfold nth;rw [List.getD_eq_getElem?_getD,List.getD_eq_getElem?_getD,List.getElem?_append_left h]
theorem nth_app_e{α:Type}(l:List α)(x d:α):nth (l++[x]) l.length d=x:=by
  unfold nth;rw [List.getD_eq_getElem?_getD,List.getElem?_append_right (Nat.le_refl _)];simp
theorem take_cons'{l:List Int}{k:Nat}(h:k<l.length):l.take (k+1)=l.take k++[nth l k 0]:=by
  rw [List.take_add_one,getD_some l h 0];rfl
theorem of1'(k:Nat)(hk:k<256){n:Nat}(h:n<256):(BSet.ofL [toU8 ((k:Nat):Int)]).has n=decide (n=k):=by
  unfold BSet.ofL
  rw [BSet.make_has _ h]
  have:=toU8_val ((k:Nat):Int)
  rw [wrap_u8]at this
  have e:(toU8 ((k:Nat):Int)).toNat=k:=by omega
  simp [e]
theorem sets_put {cls : List Int} {k : Nat} {s l : List BSet} (hk : k < 256) (hI : SetsI cls k s) {n : Nat} (hn : nth cls k (0 : Int) = ((n : Nat) : Int)) (hle : s.length ≤ l.length) (hl : l.length ≤ s.length + 1) (hnl : n < l.length) (hs : ∀ c, c < s.length → nth l c BSet.zero = nth s c BSet.zero) (hz : s.length < l.length → n = s.length ∧ nth l n BSet.zero = BSet.zero)
    (hc:cntF (cls.take (k+1))=some l.length):SetsI cls (k+1) (l.set n (BSet.make fun b=>(nth l n BSet.zero).has b || (BSet.ofL [toU8 ((k:Nat):Int)]).has b)) where
  cnt:=by rw [List.length_set];exact hc
  sets := fun c hcl => by
    rw [List.length_set]at hcl
    rw [nth_set' _ _ _ _ _ hnl]
    by_cases e:c=n
    · subst e
      rw [if_pos rfl]
      refine BSet.make_congr fun b hb=> ?_
      rw [of1' k hk hb]
      have h0:(nth l c BSet.zero).has b=clsF cls k c b:=by
        by_cases h1:c<s.length
        · rw [hs c h1,hI.sets c h1,BSet.make_has _ hb]
        have h2:=hz (by omega)
        rw [h2.2]
        have h3:clsF cls k c b=false:=by
          unfold clsF
          by_cases hbk:b<k
          · have:=(hI.low b hbk).2
            rw [decide_eq_false (show ¬ nth cls b (0:Int)=((c:Nat):Int) by omega),Bool.and_false]
          rw [decide_eq_false hbk,Bool.false_and]
        rw [h3,←BSet.make_zero,BSet.make_has _ hb]
      rw [h0]
      unfold clsF
      by_cases hb2:b=k
      · subst hb2;rw [hn];simp
      by_cases hb3:b<k
      · rw [decide_eq_true hb3,decide_eq_true (show b<k+1 by omega),decide_eq_false hb2,Bool.or_false]
      rw [decide_eq_false hb3,decide_eq_false (show ¬ b<k+1 by omega),decide_eq_false hb2];rfl
    rw [if_neg e]
    have h1:c<s.length:=by
      by_cases h2:s.length<l.length
      · have:=(hz h2).1;omega
      omega
    rw [hs c h1,hI.sets c h1]
    refine BSet.make_congr fun b hb=> ?_
    unfold clsF
    by_cases hb2:b=k
    · subst hb2
      rw [decide_eq_false (Nat.lt_irrefl _),hn,decide_eq_false (show ¬ ((n:Nat):Int)=((c:Nat):Int) by omega)];simp
    rw [decide_eq_decide.2 (show b<k↔b<k+1 by omega)]
  low:=fun b hb=>by
    rw [List.length_set]
    by_cases e:b=k
    · subst e;rw [hn];omega
    have:=hI.low b (by omega);omega
  some_:=fun c hcl=>by
    rw [List.length_set]at hcl
    by_cases h1:c<s.length
    · obtain ⟨b,h2,h3⟩:=hI.some_ c h1;exact ⟨b,by omega,h3⟩
    have h2:=hz (by omega)
    exact ⟨k,by omega,by rw [hn];omega⟩
theorem partSets_full (cls : List Int) : ∃ r, Dc_ cls = some r ∧ (((cls.length ≠ 256 ∨ cntF cls = none) ∧ r.2 = 1) ∨ (cls.length = 256 ∧ cntF cls = some r.1.length ∧ r.2 = 0 ∧ (∀ c, c < r.1.length → nth r.1 c BSet.zero = clsS cls c) ∧ ∀ c, c < r.1.length → ∃ b, b < 256 ∧ nth cls b (0 : Int) = ((c : Nat) : Int))) := by
  unfold Dc_
  by_cases h256:cls.length=256
  · rw [iteO_df (show ¬ ((cls.length:Nat):Int)≠256 by omega)]
    obtain ⟨r,h1,h2⟩:=iter_up (step:=fun q:List BSet×Nat=>A0_ cls q.1 q.2) (fun (s:List BSet) k=>(s,k)) 256 (fun k s=>SetsI cls k s) (fun r=>(cntF cls=none∧r.2=1)∨(SetsI cls 256 r.1∧r.2=0))
      (fun k s hk hI=>by
        have hk':k<cls.length:=by omega
        have hsp:cls=cls.take k++(nth cls k 0::cls.drop (k+1)):=by
          rw [←List.singleton_append,←List.append_assoc,←take_cons' hk',List.take_append_drop]
        have hle:=cntF_le _ _ _ hI.cnt
        rw [List.length_take,Nat.zero_add]at hle
        have hstop:(nth cls k 0<0∨(s.length:Int)<nth cls k 0)→cntF cls=none:=fun hc=>by
          rw [hsp,←List.singleton_append,←List.append_assoc]
          exact cntF_none (by rw [cntF_snoc,hI.cnt];simp [cntS,hc])
        have hgo: ∀l:List BSet,0≤nth cls k 0→nth cls k 0<(l.length:Int)→Ci_ cls k l=some (.inl (l.set (nth cls k (0:Int)).toNat (BSet.make fun b=>(nth l (nth cls k (0:Int)).toNat BSet.zero).has b || (BSet.ofL [toU8 ((k:Nat):Int)]).has b),k+1)):=fun l h0 h1=>by
          unfold Ci_;rw [grd_mk ⟨h0,h1⟩,grd_mk (by simp),bnd_some (any_eq _ _),grd_mk ⟨h0,h1⟩];rfl
        show (∃s',A0_ cls s k=_∧_)∨ ∃r,A0_ cls s k=_∧_
        unfold A0_
        rw [iteO_dt (by omega)]
        by_cases c1:nth cls k 0<0
        · right;rw [iteO_dt c1];exact ⟨_,rfl,.inl ⟨hstop (.inl c1),rfl⟩⟩
        rw [iteO_df c1]
        by_cases c2:(s.length:Int)<nth cls k 0
        · right;rw [iteO_dt c2];exact ⟨_,rfl,.inl ⟨hstop (.inr c2),rfl⟩⟩
        rw [iteO_df c2]
        left
        by_cases c3:nth cls k 0=(s.length:Int)
        · rw [iteO_dt c3,grd_mk (by simp;omega),hgo _ (by omega) (by simp;omega)]
          refine ⟨_,rfl,sets_put hk hI (n:=(nth cls k (0:Int)).toNat) (by omega) (by simp) (by simp) (by simp;omega) (fun c hc=>nth_app_l _ _ _ _ hc) (fun _=>⟨by omega,?_⟩) ?_⟩
          · rw [show (nth cls k (0:Int)).toNat=s.length by omega,nth_app_e]
          rw [take_cons' hk',cntF_snoc,hI.cnt];simp [cntS,c3]
        rw [iteO_df c3,hgo _ (by omega) (by omega)]
        refine ⟨_,rfl,sets_put hk hI (n:=(nth cls k (0:Int)).toNat) (by omega) (Nat.le_refl _) (by omega) (by omega) (fun _ _=>rfl) (fun h=>absurd h (Nat.lt_irrefl _)) ?_⟩
        rw [take_cons' hk',cntF_snoc,hI.cnt];simp [cntS,c3];omega)
      (fun s hI=>⟨(s,0),by
        show A0_ cls s 256=_
        unfold A0_
        rw [iteO_df (by omega)];rfl,.inr ⟨hI,rfl⟩⟩) (s0:=[]) ⟨rfl,by simp,by simp,by simp⟩
    refine ⟨r,h1,?_⟩
    rcases h2 with ⟨h2,h3⟩|⟨h2,h3⟩
    · exact .inl ⟨.inr h2,h3⟩
    have h4:=h2.cnt
    rw [List.take_of_length_le (by omega)]at h4
    refine .inr ⟨h256,h4,h3,fun c hc=> ?_,h2.some_⟩
    rw [h2.sets c hc]
    exact BSet.make_congr fun b hb=>by unfold clsF;rw [decide_eq_true hb,Bool.true_and]
  rw [iteO_dt (show ((cls.length:Nat):Int)≠256 by omega)]
  exact ⟨_,rfl,.inl ⟨.inl h256,rfl⟩⟩
end Go.Proofs.YtamgjehhjkgelaaGreatDoor
end

noncomputable section
namespace Go.Proofs.YtamgjehhjkgelaaGreatDoor
open Go Go.E
theorem partSets_ok(cls:List Int): ∃r,Dc_ cls=some r∧(((cls.length≠256∨cntF cls=none)∧r.2=1)∨(cls.length=256∧cntF cls=some r.1.length∧r.2=0)):=by
  obtain ⟨r,h,h1|h1⟩:=partSets_full cls
  · exact ⟨r,h,.inl h1⟩
  exact ⟨r,h,.inr ⟨h1.1,h1.2.1,h1.2.2.1⟩⟩
def goodS(n:Nat)(s:Int):Bool:=decide (0≤s) && decide (s<(n:Int))
def goodR(n m:Nat)(row:List Int):Bool:=decide (row.length=m) && row.all (goodS n)
def rightD(d:Dfa):Bool:=decide (d.cls.length=256) && (match cntF d.cls with|some m=>d.next.all (goodR d.next.length m)|none=>false) && decide (1≤d.next.length∧d.next.length≤1024) && decide (d.fin.length=d.next.length)
theorem all_snocD{α:Type}(p:α→Bool)(l:List α)(x:α):(l++[x]).all p=(l.all p && p x):=by simp [List.all_append]
theorem all_falseD{α:Type}{p:α→Bool}{l:List α}{k:Nat}(hk:k<l.length)(d:α)(h:p (nth l k d)=false):l.all p=false:=by
  rw [List.all_eq_false];exact ⟨_,List.mem_of_getElem? (getD_some l hk d),by simp [h]⟩
theorem chk_in(d:Dfa)(k:Nat): ∃r,iter (fun q:Nat=>Bn_ d k q) 0=some r∧(((nth d.next k []).all (goodS d.next.length)=true∧r= .inl (k+1))∨((nth d.next k []).all (goodS d.next.length)=false∧r= .inr 1)):=
  iter_for (step:=fun q:Nat=>Bn_ d k q) (fun (_:Unit) j=>j) (nth d.next k []) 0 (fun pre _=>pre.all (goodS d.next.length)=true) (fun r=>((nth d.next k []).all (goodS d.next.length)=true∧r= .inl (k+1))∨((nth d.next k []).all (goodS d.next.length)=false∧r= .inr 1))
    (fun j s hj hI=>by
      simp only [Bn_]
      rw [show decide (((j:Nat):Int)<(((nth d.next k ([]:List Int)).length:Nat):Int))=true from decide_eq_true (by omega),iteO_true]
      by_cases c1:nth (nth d.next k ([]:List Int)) j (0:Int)<0
      · right;rw [decide_eq_true c1,iteO_true];exact ⟨_,rfl,.inr ⟨all_falseD hj 0 (by simp [goodS];omega),rfl⟩⟩
      rw [decide_eq_false c1,iteO_false]
      by_cases c2:((d.next.length:Nat):Int)≤nth (nth d.next k ([]:List Int)) j (0:Int)
      · right;rw [decide_eq_true c2,iteO_true];exact ⟨_,rfl,.inr ⟨all_falseD hj 0 (by simp [goodS];omega),rfl⟩⟩
      rw [decide_eq_false c2,iteO_false]
      left
      exact ⟨(),rfl,by rw [all_snocD,hI];simp [goodS];omega⟩)
    (fun s hI=>by
      simp only [Bn_]
      rw [show decide ((((nth d.next k ([]:List Int)).length:Nat):Int)<(((nth d.next k ([]:List Int)).length:Nat):Int))=false from decide_eq_false (by omega),iteO_false]
      exact ⟨_,rfl,.inl ⟨hI,rfl⟩⟩) (s0:=()) rfl
theorem chk_out (d : Dfa) (v : (List BSet) × Int) : ∃ r, iter (fun q : Nat => Bp_ d v q) 0 = some r ∧ ((d.next.all (goodR d.next.length v.1.length) = true ∧ r = 0) ∨ (d.next.all (goodR d.next.length v.1.length) = false ∧ r = 1)) :=
  iter_for (step:=fun q:Nat=>Bp_ d v q) (fun (_:Unit) j=>j) d.next [] (fun pre _=>pre.all (goodR d.next.length v.1.length)=true) (fun r=>(d.next.all (goodR d.next.length v.1.length)=true∧r=0)∨(d.next.all (goodR d.next.length v.1.length)=false∧r=1))
    (fun k s hk hI=>by
      simp only [Bp_]
      rw [show decide (((k:Nat):Int)<((d.next.length:Nat):Int))=true from decide_eq_true (by omega),iteO_true]
      by_cases c1:(nth d.next k ([]:List Int)).length=v.1.length
      · rw [show decide ((((nth d.next k ([]:List Int)).length:Nat):Int)≠((v.1.length:Nat):Int))=false from decide_eq_false (by omega),iteO_false]
        obtain ⟨r,h1,h2|h2⟩:=chk_in d k
        · left;rw [h1,h2.2];exact ⟨(),rfl,by rw [all_snocD,hI];simp [goodR,c1,h2.1]⟩
        right;rw [h1,h2.2];exact ⟨_,rfl,.inr ⟨all_falseD hk [] (by simp only [goodR,h2.1,Bool.and_false]),rfl⟩⟩
      right
      rw [show decide ((((nth d.next k ([]:List Int)).length:Nat):Int)≠((v.1.length:Nat):Int))=true from decide_eq_true (by omega),iteO_true]
      exact ⟨_,rfl,.inr ⟨all_falseD hk [] (by simp [goodR,c1]),rfl⟩⟩)
    (fun s hI=>by
      simp only [Bp_]
      rw [show decide (((d.next.length:Nat):Int)<((d.next.length:Nat):Int))=false from decide_eq_false (by omega),iteO_false]
      exact ⟨_,rfl,.inl ⟨hI,rfl⟩⟩) (s0:=()) rfl
theorem dcheck_eq(d:Dfa):Dw_ d=some (if rightD d=true then 0 else 1):=by
  unfold Dw_
  obtain ⟨v,hv,h⟩:=partSets_ok d.cls
  rw [bnd_some hv]
  rcases h with ⟨h1,h2⟩|⟨h1,h2,h3⟩
  · rw [decide_eq_true (show v.2≠0 by omega),iteO_true]
    rw [if_neg]
    rcases h1 with h1|h1
    · simp [rightD,h1]
    simp [rightD,h1]
  rw [decide_eq_false (show ¬ v.2≠0 by omega),iteO_false]
  by_cases c1:d.next.length<1
  · rw [show decide (((d.next.length:Nat):Int)<1)=true from decide_eq_true (by omega),iteO_true,if_neg]
    simp only [rightD,Bool.and_eq_true,decide_eq_true_eq];omega
  rw [show decide (((d.next.length:Nat):Int)<1)=false from decide_eq_false (by omega),iteO_false]
  by_cases c2:1024<d.next.length
  · rw [show decide (1024<((d.next.length:Nat):Int))=true from decide_eq_true (by omega),iteO_true,if_neg]
    simp only [rightD,Bool.and_eq_true,decide_eq_true_eq];omega
  rw [show decide (1024<((d.next.length:Nat):Int))=false from decide_eq_false (by omega),iteO_false]
  by_cases c3:d.fin.length=d.next.length
  · rw [show decide (((d.fin.length:Nat):Int)≠((d.next.length:Nat):Int))=false from decide_eq_false (by omega),iteO_false]
    obtain ⟨r,hr,hr2⟩:=chk_out d v
    rw [hr]
    have e:rightD d=d.next.all (goodR d.next.length v.1.length):=by
      simp only [rightD,h1,h2,c3,decide_true,Bool.true_and,Bool.and_true]
      rw [show decide (1≤d.next.length∧d.next.length≤1024)=true from decide_eq_true (by omega),Bool.and_true]
    rw [e]
    rcases hr2 with ⟨h4,h5⟩|⟨h4,h5⟩
    · rw [h4,h5,if_pos rfl]
    rw [h4,h5,if_neg (by simp)]
  rw [show decide (((d.fin.length:Nat):Int)≠((d.next.length:Nat):Int))=true from decide_eq_true (by omega),iteO_true,if_neg]
  simp only [rightD,Bool.and_eq_true,decide_eq_true_eq];omega
theorem cnt_mem: ∀(l:List Int) (j m:Nat),l.foldl cntS (some j)=some m→j≤m∧ ∀n∈l,0≤n∧n<(m:Int)
  |[],j,m,h=>by cases h;simp
  |n::l,j,m,h=>by
    rw [List.foldl_cons]at h
    by_cases hc:n<0∨(j:Int)<n
    · rw [show cntS (some j) n=none by simp [cntS,hc],cntS_none]at h;cases h
    rw [show cntS (some j) n=some (if n=j then j+1 else j) by simp [cntS,hc]]at h
    obtain ⟨h1,h2⟩:=cnt_mem l _ m h
    refine ⟨by split at h1<;>omega,fun k hk=> ?_⟩
    rcases List.mem_cons.1 hk with rfl|hk
    · split at h1<;>omega
    exact h2 k hk
def okS(d:Dfa)(s:Int):Prop:=0≤s∧s<(d.next.length:Int)
def dlt(d:Dfa)(s:Int)(b:UInt8):Int:=nth (nth d.next s.toNat ([]:List Int)) ((nth d.cls b.toNat (0:Int)).toNat) (0:Int)
theorem nth_memD{α:Type}{l:List α}{i:Nat}(hi:i<l.length)(d:α):nth l i d∈l:=List.mem_of_getElem? (getD_some l hi d)
structure DltOk (d:Dfa) (s:Int) (b:UInt8):Prop where
  cl:b.toNat<d.cls.length
  c:0≤nth d.cls b.toNat (0:Int)∧nth d.cls b.toNat (0:Int)<((nth d.next s.toNat ([]:List Int)).length:Int)
  nx:okS d (dlt d s b)
  f:0≤dlt d s b∧dlt d s b<(d.fin.length:Int)
end Go.Proofs.YtamgjehhjkgelaaGreatDoor
end
