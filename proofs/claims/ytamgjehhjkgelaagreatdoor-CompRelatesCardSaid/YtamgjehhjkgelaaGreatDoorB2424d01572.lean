/- Parts of a proof, one behind the other: what a machine reaches, functions decompiled, plain lemmas. Conditions stand with each lemma. -/
import Derived.Test.YtamgjehhjkgelaaGreatDoorBdb4d7dfad8
import Derived.Test.YtamgjehhjkgelaaGreatDoorBfb6565c21a
import Derived.Test.YtamgjehhjkgelaaGreatDoorB872554235c

set_option linter.unusedVariables false
set_option linter.unusedSimpArgs false
set_option linter.unusedSectionVars false
set_option maxRecDepth 100000
set_option maxHeartbeats 8000000
variable {σ:Go.E.Store}{a0_0 a0_1 a0_10 a0_13 a0_16 a0_19 a0_2 a0_22 a0_28 a0_30 a0_32 a0_4 a0_7 a1_0 a1_1 a1_2:Option Go.Addr}{Eb0 b0_0 b0_25 b0_26 b0_27 c0_0 c0_1 c0_11 c0_14 c0_17 c0_2 c0_20 c0_23 c0_29 c0_31 c0_33 c0_5 c0_8 c1_0 c1_1 c1_2:Nat}

noncomputable section
namespace Go.Proofs.YtamgjehhjkgelaaGreatDoor
open Go Go.E Go.E.OpVal Go.E.OpOk Go.Proofs.Tryz
theorem ag1:aggOf Tryz.prog 1=some false:=by kernel_rfl
theorem ag68:aggOf Tryz.prog 68=some false:=by kernel_rfl
theorem ag70:aggOf Tryz.prog 70=some false:=by kernel_rfl
theorem ag71:aggOf Tryz.prog 71=some false:=by kernel_rfl
theorem ag72:aggOf Tryz.prog 72=some false:=by kernel_rfl
theorem by22:byOf Tryz.prog 22=some 24:=by kernel_rfl
theorem fo75_0:foOf Tryz.prog 75 0=some 0:=by kernel_rfl
theorem fo75_1:foOf Tryz.prog 75 1=some 4:=by kernel_rfl
theorem fo75_2:foOf Tryz.prog 75 2=some 8:=by kernel_rfl
theorem fo75_3:foOf Tryz.prog 75 3=some 9:=by kernel_rfl
theorem fo75_4:foOf Tryz.prog 75 4=some 10:=by kernel_rfl
theorem fo75_5:foOf Tryz.prog 75 5=some 11:=by kernel_rfl
theorem fo75_6:foOf Tryz.prog 75 6=some 13:=by kernel_rfl
theorem fo75_7:foOf Tryz.prog 75 7=some 17:=by kernel_rfl
theorem kl66:Go.E.KeyL Tryz.prog 66 (fun x=>Value.agg (Go.E.encArc x).toArray):=
 KeyL.struct underlying66 es66 rfl (fun x=>CkAt.struct (n:=2) (ts:=[(false,3,0),(false,3,1),(false,55,2),(false,9,6),(false,4,7)]) (by kernel_rfl) (by kernel_rfl) (CkC.one (by kernel_rfl) rfl (CkAt.int underlying3 _ |>.up (by decide)) (CkC.one (by kernel_rfl) rfl (CkAt.int underlying3 _ |>.up (by decide)) (CkC.agg (s:=4) (us:=Go.E.setA x.set) (by kernel_rfl) (by kernel_rfl) rfl (CkAt.set underlying55 underlying53 (by kernel_rfl) (by kernel_rfl) x.set) (CkC.one (by kernel_rfl) rfl (CkAt.str underlying9 _ |>.up (by decide)) (CkC.one (by kernel_rfl) rfl (CkAt.bool underlying4 _ |>.up (by decide)) CkC.nil)))))) rfl encArc_bits
theorem pf22:plainF Tryz.prog 22=true:=by kernel_rfl
theorem pf23:plainF Tryz.prog 23=true:=by kernel_rfl
theorem pf24:plainF Tryz.prog 24=true:=by kernel_rfl
theorem pf25:plainF Tryz.prog 25=true:=by kernel_rfl
theorem pf26:plainF Tryz.prog 26=true:=by kernel_rfl
theorem pf34:plainF Tryz.prog 34=true:=by kernel_rfl
theorem pf52:plainF Tryz.prog 52=true:=by kernel_rfl
theorem pf53:plainF Tryz.prog 53=true:=by kernel_rfl
theorem pf54:plainF Tryz.prog 54=true:=by kernel_rfl
theorem pf55:plainF Tryz.prog 55=true:=by kernel_rfl
theorem pf56:plainF Tryz.prog 56=true:=by kernel_rfl
theorem pl75:plOf Tryz.prog 75=some #[(0,4),(4,4),(8,1),(9,1),(10,1),(11,2),(13,4),(17,1)]:=by kernel_rfl
theorem sz1:szOf Tryz.prog 1=some 1:=by kernel_rfl
theorem sz72:szOf Tryz.prog 72=some 1:=by kernel_rfl
theorem ze1:zeroOf Tryz.prog 1=some (.nilFunc):=by kernel_rfl
theorem ze22:zeroOf Tryz.prog 22=some (.slice none 0 0):=by kernel_rfl
theorem ze75:zeroOf Tryz.prog 75=some (.agg #[.int .i64 0,.slice none 0 0,.slice none 0 0,.slice none 0 0,.int .i64 0,.slice none 0 0,.slice none 0 0,.slice none 0 0,.slice none 0 0,.slice none 0 0,.map none,.map none,.map none,.int .i64 0,.slice none 0 0,.slice none 0 0,.slice none 0 0,.bool false]):=by kernel_rfl
def comp_chain_at(x0:Chain)(x1:Int)(x2:Int):Option (Int):=
 some (IntKind.i64.wrap ((IntKind.i64.wrap (x1 * x0.b.states))+x2))
theorem comp_chain_at_con{x0:Chain}{x1:Int}{x2:Int}(f0_3:RS σ 2 encTip (.slice a0_1 x0.a.starts.length c0_2) x0.a.starts)(f0_6:RS σ 2 encTip (.slice a0_4 x0.a.ends.length c0_5) x0.a.ends)(f0_9:RS σ 8 encArc (.slice a0_7 x0.a.arcs.length c0_8) x0.a.arcs)(f0_12:RS σ 2 encTip (.slice a0_10 x0.b.starts.length c0_11) x0.b.starts)(f0_15:RS σ 2 encTip (.slice a0_13 x0.b.ends.length c0_14) x0.b.ends)(f0_18:RS σ 8 encArc (.slice a0_16 x0.b.arcs.length c0_17) x0.b.arcs)(f0_21:RZ σ (pkSl 8 encArc encArc_len) (.slice a0_19 x0.arcs.length c0_20) x0.arcs)(f0_24:RZ σ (pkSl 2 encTip encTip_len) (.slice a0_22 x0.ends.length c0_23) x0.ends){r:Int}(hh:comp_chain_at x0 x1 x2=some r):
  Con Tryz.prog 54 #[loc b0_0 0,.int .i64 x1,.int .i64 x2] σ [Res.cells b0_0 #[.int .i64 x0.a.states,.slice a0_1 x0.a.starts.length c0_2,.slice a0_4 x0.a.ends.length c0_5,.slice a0_7 x0.a.arcs.length c0_8,.int .i64 x0.b.states,.slice a0_10 x0.b.starts.length c0_11,.slice a0_13 x0.b.ends.length c0_14,.slice a0_16 x0.b.arcs.length c0_17,.slice a0_19 x0.arcs.length c0_20,.slice a0_22 x0.ends.length c0_23,.map (some b0_25),.map (some b0_26),.map (some b0_27),.int .i64 x0.whole.states,.slice a0_28 x0.whole.starts.length c0_29,.slice a0_30 x0.whole.ends.length c0_31,.slice a0_32 x0.whole.arcs.length c0_33,.bool x0.over] Eb0,Res.mapB (fun x=>Value.agg (encArc x).toArray) unitV (some b0_25) x0.seen,Res.mapB (fun x=>Value.agg (encTip x).toArray) unitV (some b0_26) x0.tips.s,Res.mapB (fun x=>Value.agg (encTip x).toArray) unitV (some b0_27) x0.tips.e,Res.rowS 43 2 encTip (.slice a0_28 x0.whole.starts.length c0_29) x0.whole.starts,Res.rowS 43 2 encTip (.slice a0_30 x0.whole.ends.length c0_31) x0.whole.ends,Res.rowS 66 8 encArc (.slice a0_32 x0.whole.arcs.length c0_33) x0.whole.arcs] (fun v σ' H'=>v= .int .i64 r∧σ=σ'∧H'=[Res.cells b0_0 #[.int .i64 x0.a.states,.slice a0_1 x0.a.starts.length c0_2,.slice a0_4 x0.a.ends.length c0_5,.slice a0_7 x0.a.arcs.length c0_8,.int .i64 x0.b.states,.slice a0_10 x0.b.starts.length c0_11,.slice a0_13 x0.b.ends.length c0_14,.slice a0_16 x0.b.arcs.length c0_17,.slice a0_19 x0.arcs.length c0_20,.slice a0_22 x0.ends.length c0_23,.map (some b0_25),.map (some b0_26),.map (some b0_27),.int .i64 x0.whole.states,.slice a0_28 x0.whole.starts.length c0_29,.slice a0_30 x0.whole.ends.length c0_31,.slice a0_32 x0.whole.arcs.length c0_33,.bool x0.over] Eb0,Res.mapB (fun x=>Value.agg (encArc x).toArray) unitV (some b0_25) x0.seen,Res.mapB (fun x=>Value.agg (encTip x).toArray) unitV (some b0_26) x0.tips.s,Res.mapB (fun x=>Value.agg (encTip x).toArray) unitV (some b0_27) x0.tips.e,Res.rowS 43 2 encTip (.slice a0_28 x0.whole.starts.length c0_29) x0.whole.starts,Res.rowS 43 2 encTip (.slice a0_30 x0.whole.ends.length c0_31) x0.whole.ends,Res.rowS 66 8 encArc (.slice a0_32 x0.whole.arcs.length c0_33) x0.whole.arcs]):=by
 dsimp only [comp_chain_at]at hh
 have f0_3b:=f0_3.rv.big
 have f0_6b:=f0_6.rv.big
 have f0_9b:=f0_9.rv.big
 have f0_12b:=f0_12.rv.big
 have f0_15b:=f0_15.rv.big
 have f0_18b:=f0_18.rv.big
 have f0_21b:=f0_21.big
 have f0_24b:=f0_24.big
 refine Con.mk (n:=16) Tryz.func54 z z z (fun w0=> ?_)
 refine TC.a (TL.i z z (TL.en (TC.a (TL.i z z (TL.l z z (TL.w z (nilCheckLoc z z) (TL.w z (fieldLoc z fo75_1 z) (TL.w z (fieldLoc z fo25_0 z) (TL.w z (loadLoc z ag3 z (i:=0) z z) (TL.w z (mulW z z z) (TL.i z z (TL.w z (addW z z z) (TL.i z z (TL.en (TC.ret ?_)))))))))))))))
 obtain rfl:=so hh
 exact ro [Res.cells b0_0 #[.int .i64 x0.a.states,.slice a0_1 x0.a.starts.length c0_2,.slice a0_4 x0.a.ends.length c0_5,.slice a0_7 x0.a.arcs.length c0_8,.int .i64 x0.b.states,.slice a0_10 x0.b.starts.length c0_11,.slice a0_13 x0.b.ends.length c0_14,.slice a0_16 x0.b.arcs.length c0_17,.slice a0_19 x0.arcs.length c0_20,.slice a0_22 x0.ends.length c0_23,.map (some b0_25),.map (some b0_26),.map (some b0_27),.int .i64 x0.whole.states,.slice a0_28 x0.whole.starts.length c0_29,.slice a0_30 x0.whole.ends.length c0_31,.slice a0_32 x0.whole.arcs.length c0_33,.bool x0.over] Eb0,Res.mapB (fun x=>Value.agg (encArc x).toArray) unitV (some b0_25) x0.seen,Res.mapB (fun x=>Value.agg (encTip x).toArray) unitV (some b0_26) x0.tips.s,Res.mapB (fun x=>Value.agg (encTip x).toArray) unitV (some b0_27) x0.tips.e,Res.rowS 43 2 encTip (.slice a0_28 x0.whole.starts.length c0_29) x0.whole.starts,Res.rowS 43 2 encTip (.slice a0_30 x0.whole.ends.length c0_31) x0.whole.ends,Res.rowS 66 8 encArc (.slice a0_32 x0.whole.arcs.length c0_33) x0.whole.arcs] z (RVs.tmp z RVs.nil) ⟨z,z,z⟩
def comp_chain_ways_j1(v8:(List Tip)×Bool)(x0:Chain)(t118:Bool):Option ((List Tip)×Chain):=
 some (v8.1,(⟨x0.a,x0.b,x0.arcs,x0.ends,x0.seen,x0.tips,x0.whole,t118⟩:Chain))
def comp_chain_ways(x0:Chain)(x1:Int)(x2:List UInt8):Option ((List Tip)×Chain):=
 grd (x2.length≤281474976710656) (bnd (comp_ways x0.arcs x1 x2) (fun v8=>iteO (!v8.2) (comp_chain_ways_j1 v8 x0 true) (comp_chain_ways_j1 v8 x0 x0.over)))
theorem comp_chain_ways_con{x0:Chain}{x1:Int}{x2:List UInt8}(f0_3:RS σ 2 encTip (.slice a0_1 x0.a.starts.length c0_2) x0.a.starts)(f0_6:RS σ 2 encTip (.slice a0_4 x0.a.ends.length c0_5) x0.a.ends)(f0_9:RS σ 8 encArc (.slice a0_7 x0.a.arcs.length c0_8) x0.a.arcs)(f0_12:RS σ 2 encTip (.slice a0_10 x0.b.starts.length c0_11) x0.b.starts)(f0_15:RS σ 2 encTip (.slice a0_13 x0.b.ends.length c0_14) x0.b.ends)(f0_18:RS σ 8 encArc (.slice a0_16 x0.b.arcs.length c0_17) x0.b.arcs)(f0_21:RZ σ (pkSl 8 encArc encArc_len) (.slice a0_19 x0.arcs.length c0_20) x0.arcs)(f0_24:RZ σ (pkSl 2 encTip encTip_len) (.slice a0_22 x0.ends.length c0_23) x0.ends){r:(List Tip)×Chain}(hh:comp_chain_ways x0 x1 x2=some r):
  Con Tryz.prog 52 #[loc b0_0 0,.int .i64 x1,.string (bs x2)] σ [Res.cells b0_0 #[.int .i64 x0.a.states,.slice a0_1 x0.a.starts.length c0_2,.slice a0_4 x0.a.ends.length c0_5,.slice a0_7 x0.a.arcs.length c0_8,.int .i64 x0.b.states,.slice a0_10 x0.b.starts.length c0_11,.slice a0_13 x0.b.ends.length c0_14,.slice a0_16 x0.b.arcs.length c0_17,.slice a0_19 x0.arcs.length c0_20,.slice a0_22 x0.ends.length c0_23,.map (some b0_25),.map (some b0_26),.map (some b0_27),.int .i64 x0.whole.states,.slice a0_28 x0.whole.starts.length c0_29,.slice a0_30 x0.whole.ends.length c0_31,.slice a0_32 x0.whole.arcs.length c0_33,.bool x0.over] Eb0,Res.mapB (fun x=>Value.agg (encArc x).toArray) unitV (some b0_25) x0.seen,Res.mapB (fun x=>Value.agg (encTip x).toArray) unitV (some b0_26) x0.tips.s,Res.mapB (fun x=>Value.agg (encTip x).toArray) unitV (some b0_27) x0.tips.e,Res.rowS 43 2 encTip (.slice a0_28 x0.whole.starts.length c0_29) x0.whole.starts,Res.rowS 43 2 encTip (.slice a0_30 x0.whole.ends.length c0_31) x0.whole.ends,Res.rowS 66 8 encArc (.slice a0_32 x0.whole.arcs.length c0_33) x0.whole.arcs] (fun v σ' H'=> ∃a1 c1,v= .slice a1 r.1.length c1∧σ=σ'∧H'=[Res.rowS 43 2 encTip (.slice a1 r.1.length c1) r.1,Res.cells b0_0 #[.int .i64 x0.a.states,.slice a0_1 x0.a.starts.length c0_2,.slice a0_4 x0.a.ends.length c0_5,.slice a0_7 x0.a.arcs.length c0_8,.int .i64 x0.b.states,.slice a0_10 x0.b.starts.length c0_11,.slice a0_13 x0.b.ends.length c0_14,.slice a0_16 x0.b.arcs.length c0_17,.slice a0_19 x0.arcs.length c0_20,.slice a0_22 x0.ends.length c0_23,.map (some b0_25),.map (some b0_26),.map (some b0_27),.int .i64 x0.whole.states,.slice a0_28 x0.whole.starts.length c0_29,.slice a0_30 x0.whole.ends.length c0_31,.slice a0_32 x0.whole.arcs.length c0_33,.bool r.2.over] Eb0,Res.mapB (fun x=>Value.agg (encArc x).toArray) unitV (some b0_25) x0.seen,Res.mapB (fun x=>Value.agg (encTip x).toArray) unitV (some b0_26) x0.tips.s,Res.mapB (fun x=>Value.agg (encTip x).toArray) unitV (some b0_27) x0.tips.e,Res.rowS 43 2 encTip (.slice a0_28 x0.whole.starts.length c0_29) x0.whole.starts,Res.rowS 43 2 encTip (.slice a0_30 x0.whole.ends.length c0_31) x0.whole.ends,Res.rowS 66 8 encArc (.slice a0_32 x0.whole.arcs.length c0_33) x0.whole.arcs]):=by
 dsimp only [comp_chain_ways]at hh
 have f0_3b:=f0_3.rv.big
 have f0_6b:=f0_6.rv.big
 have f0_9b:=f0_9.rv.big
 have f0_12b:=f0_12.rv.big
 have f0_15b:=f0_15.rv.big
 have f0_18b:=f0_18.rv.big
 have f0_21b:=f0_21.big
 have f0_24b:=f0_24.big
 refine Con.mk (n:=25) Tryz.func52 z z z (fun w0=> ?_)
 have x2b:=grd_c hh
 replace hh:=grd_t hh
 refine TC.a (TL.s z z (TL.en (TC.a (TL.l z z (TL.w z (nilCheckLoc z z) (TL.w z (fieldLoc z fo75_2 z) (TL.w z (loadLoc z ag68 z (i:=0) z z) (TL.i z z (TL.w z (moveStr (.inl z) z) ?_)))))))))
 obtain ⟨v8,u8,hh⟩:=bnd_e hh
 refine TL.op z (OpOk.call (comp_ways_con f0_21 u8) z z pf34 z z z z ?_)
 rintro _ _ _ hle116 ⟨a116_1,c116_1,rfl,rfl,rfl⟩
 refine TL.w z (moveT (.inl z) z) (TL.w z (OpVal.extract z z z) (TL.w z (OpVal.extract z z z) (TL.s z z (TL.j z z (TL.en (TC.cutG (α:=(Bool)×(Unit)) [19,20,21,22,23] (fun g=>[]) (fun g=>[Res.rowS 43 2 encTip (.slice a116_1 v8.1.length c116_1) v8.1,Res.cells b0_0 #[.int .i64 x0.a.states,.slice a0_1 x0.a.starts.length c0_2,.slice a0_4 x0.a.ends.length c0_5,.slice a0_7 x0.a.arcs.length c0_8,.int .i64 x0.b.states,.slice a0_10 x0.b.starts.length c0_11,.slice a0_13 x0.b.ends.length c0_14,.slice a0_16 x0.b.arcs.length c0_17,.slice a0_19 x0.arcs.length c0_20,.slice a0_22 x0.ends.length c0_23,.map (some b0_25),.map (some b0_26),.map (some b0_27),.int .i64 x0.whole.states,.slice a0_28 x0.whole.starts.length c0_29,.slice a0_30 x0.whole.ends.length c0_31,.slice a0_32 x0.whole.arcs.length c0_33,.bool g.1] Eb0,Res.mapB (fun x=>Value.agg (encArc x).toArray) unitV (some b0_25) x0.seen,Res.mapB (fun x=>Value.agg (encTip x).toArray) unitV (some b0_26) x0.tips.s,Res.mapB (fun x=>Value.agg (encTip x).toArray) unitV (some b0_27) x0.tips.e,Res.rowS 43 2 encTip (.slice a0_28 x0.whole.starts.length c0_29) x0.whole.starts,Res.rowS 43 2 encTip (.slice a0_30 x0.whole.ends.length c0_31) x0.whole.ends,Res.rowS 66 8 encArc (.slice a0_32 x0.whole.arcs.length c0_33) x0.whole.arcs]) (fun g=>σ) (fun g=>comp_chain_ways_j1 v8 x0 g.1=some r) ?_ (fun g j hg=> ?_)))))))
 ·skip
  refine TC.a (TL.j z z (TL.w z (OpVal.not z z) (TL.en (TC.cB z hh (fun h119 hh=> ?_) (fun h119 hh=> ?_)))))
  ·refine TC.region (TL.l z z (TL.w z (nilCheckLoc z z) (TL.w z (fieldLoc z fo75_7 z) (TL.front 1 z z (TL.op z (storeB z sz4 z z z z z ?_))))))
   exact TL.en (cf (true,()) hh (Sub.f [7,7,7,7,7,7,6,7] 8))
  exact TC.skip (S.n (cf (x0.over,()) hh (Sub.f [7,7,7,7,7,7,7,7] 8)))
 skip
 obtain ⟨t118,_⟩:=g
 have hh:=hg;clear hg
 try dsimp only
 dsimp only [comp_chain_ways_j1]at hh
 refine TC.isSl (i:=0) z (fun _ hb120 _=> ?_)
 refine TC.isSl (i:=5) z (fun _ hb121 _=> ?_)
 refine TC.isSl (i:=6) z (fun _ hb122 _=> ?_)
 refine TC.isSl (i:=7) z (fun _ hb123 _=> ?_)
 refine TC.a (TL.s z z (TL.s z z (TL.en (TC.ret ?_))))
 obtain rfl:=so hh
 exact ro [Res.rowS 43 2 encTip (.slice a116_1 v8.1.length c116_1) v8.1,Res.cells b0_0 #[.int .i64 x0.a.states,.slice a0_1 x0.a.starts.length c0_2,.slice a0_4 x0.a.ends.length c0_5,.slice a0_7 x0.a.arcs.length c0_8,.int .i64 x0.b.states,.slice a0_10 x0.b.starts.length c0_11,.slice a0_13 x0.b.ends.length c0_14,.slice a0_16 x0.b.arcs.length c0_17,.slice a0_19 x0.arcs.length c0_20,.slice a0_22 x0.ends.length c0_23,.map (some b0_25),.map (some b0_26),.map (some b0_27),.int .i64 x0.whole.states,.slice a0_28 x0.whole.starts.length c0_29,.slice a0_30 x0.whole.ends.length c0_31,.slice a0_32 x0.whole.arcs.length c0_33,.bool t118] Eb0,Res.mapB (fun x=>Value.agg (encArc x).toArray) unitV (some b0_25) x0.seen,Res.mapB (fun x=>Value.agg (encTip x).toArray) unitV (some b0_26) x0.tips.s,Res.mapB (fun x=>Value.agg (encTip x).toArray) unitV (some b0_27) x0.tips.e,Res.rowS 43 2 encTip (.slice a0_28 x0.whole.starts.length c0_29) x0.whole.starts,Res.rowS 43 2 encTip (.slice a0_30 x0.whole.ends.length c0_31) x0.whole.ends,Res.rowS 66 8 encArc (.slice a0_32 x0.whole.arcs.length c0_33) x0.whole.arcs] z (RVs.tmp z RVs.nil) ⟨a116_1,c116_1,z,z,z⟩
def comp_chain_tipS(x0:Chain)(x1:Int)(x3:Tip):Option (Chain):=
 grd (x1=0) (iteO (x0.tips.s.has x3) (some x0) (iteO x0.over (some x0) (iteO (decide (1024≤((x0.whole.starts.length:Nat):Int))) (some (⟨x0.a,x0.b,x0.arcs,x0.ends,x0.seen,x0.tips,x0.whole,true⟩:Chain)) (iteO (decide (1024<((x3.out.length:Nat):Int))) (some (⟨x0.a,x0.b,x0.arcs,x0.ends,x0.seen,x0.tips,x0.whole,true⟩:Chain)) (grd ((x0.whole.starts.length+[x3].length) * 24≤140737488355328) (some (⟨x0.a,x0.b,x0.arcs,x0.ends,x0.seen,(⟨(x0.tips.s.put x3 ()),x0.tips.e⟩:TwoM),(⟨x0.whole.states,(x0.whole.starts++[x3]),x0.whole.ends,x0.whole.arcs⟩:Fst),x0.over⟩:Chain)))))))
theorem comp_chain_tipS_con{x0:Chain}{x1:Int}{x3:Tip}(f0_3:RS σ 2 encTip (.slice a0_1 x0.a.starts.length c0_2) x0.a.starts)(f0_6:RS σ 2 encTip (.slice a0_4 x0.a.ends.length c0_5) x0.a.ends)(f0_9:RS σ 8 encArc (.slice a0_7 x0.a.arcs.length c0_8) x0.a.arcs)(f0_12:RS σ 2 encTip (.slice a0_10 x0.b.starts.length c0_11) x0.b.starts)(f0_15:RS σ 2 encTip (.slice a0_13 x0.b.ends.length c0_14) x0.b.ends)(f0_18:RS σ 8 encArc (.slice a0_16 x0.b.arcs.length c0_17) x0.b.arcs)(f0_21:RZ σ (pkSl 8 encArc encArc_len) (.slice a0_19 x0.arcs.length c0_20) x0.arcs)(f0_24:RZ σ (pkSl 2 encTip encTip_len) (.slice a0_22 x0.ends.length c0_23) x0.ends){r:Chain}(hh:comp_chain_tipS x0 x1 x3=some r):
  Con Tryz.prog 53 #[loc b0_0 0,.int .i64 x1,loc b0_0 14,.agg #[.int .i64 x3.state,.string (bs x3.out)]] σ [Res.cells b0_0 #[.int .i64 x0.a.states,.slice a0_1 x0.a.starts.length c0_2,.slice a0_4 x0.a.ends.length c0_5,.slice a0_7 x0.a.arcs.length c0_8,.int .i64 x0.b.states,.slice a0_10 x0.b.starts.length c0_11,.slice a0_13 x0.b.ends.length c0_14,.slice a0_16 x0.b.arcs.length c0_17,.slice a0_19 x0.arcs.length c0_20,.slice a0_22 x0.ends.length c0_23,.map (some b0_25),.map (some b0_26),.map (some b0_27),.int .i64 x0.whole.states,.slice a0_28 x0.whole.starts.length c0_29,.slice a0_30 x0.whole.ends.length c0_31,.slice a0_32 x0.whole.arcs.length c0_33,.bool x0.over] Eb0,Res.mapB (fun x=>Value.agg (encArc x).toArray) unitV (some b0_25) x0.seen,Res.mapB (fun x=>Value.agg (encTip x).toArray) unitV (some b0_26) x0.tips.s,Res.mapB (fun x=>Value.agg (encTip x).toArray) unitV (some b0_27) x0.tips.e,Res.rowS 43 2 encTip (.slice a0_28 x0.whole.starts.length c0_29) x0.whole.starts,Res.rowS 43 2 encTip (.slice a0_30 x0.whole.ends.length c0_31) x0.whole.ends,Res.rowS 66 8 encArc (.slice a0_32 x0.whole.arcs.length c0_33) x0.whole.arcs] (fun v σ' H'=> ∃bo1 ao2 co3,v= .tuple #[]∧σ=σ'∧H'=[Res.cells b0_0 #[.int .i64 x0.a.states,.slice a0_1 x0.a.starts.length c0_2,.slice a0_4 x0.a.ends.length c0_5,.slice a0_7 x0.a.arcs.length c0_8,.int .i64 x0.b.states,.slice a0_10 x0.b.starts.length c0_11,.slice a0_13 x0.b.ends.length c0_14,.slice a0_16 x0.b.arcs.length c0_17,.slice a0_19 x0.arcs.length c0_20,.slice a0_22 x0.ends.length c0_23,.map (some b0_25),.map (some bo1),.map (some b0_27),.int .i64 x0.whole.states,.slice ao2 r.whole.starts.length co3,.slice a0_30 x0.whole.ends.length c0_31,.slice a0_32 x0.whole.arcs.length c0_33,.bool r.over] Eb0,Res.mapB (fun x=>Value.agg (encArc x).toArray) unitV (some b0_25) x0.seen,Res.mapB (fun x=>Value.agg (encTip x).toArray) unitV (some bo1) r.tips.s,Res.mapB (fun x=>Value.agg (encTip x).toArray) unitV (some b0_27) x0.tips.e,Res.rowS 43 2 encTip (.slice ao2 r.whole.starts.length co3) r.whole.starts,Res.rowS 43 2 encTip (.slice a0_30 x0.whole.ends.length c0_31) x0.whole.ends,Res.rowS 66 8 encArc (.slice a0_32 x0.whole.arcs.length c0_33) x0.whole.arcs]):=by
 dsimp only [comp_chain_tipS]at hh
 have f0_3b:=f0_3.rv.big
 have f0_6b:=f0_6.rv.big
 have f0_9b:=f0_9.rv.big
 have f0_12b:=f0_12.rv.big
 have f0_15b:=f0_15.rv.big
 have f0_18b:=f0_18.rv.big
 have f0_21b:=f0_21.big
 have f0_24b:=f0_24.big
 refine Con.mk (n:=58) Tryz.func53 z z z (fun w0=> ?_)
 refine TC.weakR ?_
 have x1k:=grd_c hh
 replace hh:=grd_t hh
 subst x1k
 refine TC.a (TL.op z (boxA z z z z (fun b118=> ?_)))
 refine TL.en (TC.seq (TC.seq (TC.draw [10,12,13] (by kernel_rfl) (TA.a 0 z (moveLoc (.inl z) z) z (TA.a 1 z (moveI (.inl z) z) z (TA.a 2 z (nilCheckLoc z z) z (TA.a 3 z (fieldLoc z fo75_5 z) z (TA.b 4 z (OpVal.of (indexArrN (i:=0) z underlying73 sz72 z z (by decide)) (v':=loc b0_0 11) z) z (TA.b 5 z (loadLoc z ag72 z (i:=1) z z) z (TA.b 6 z (loadAll z ag43 sz43 z (i:=0) z z) z (TA.b 7 z (OpVal.of (lookB () (q:=x3) z underlying72 ze82 z (i:=3) z z kl43) (v':= .tuple #[.agg #[],.bool (x0.tips.s.has x3)]) z) z (TA.a 8 z (moveT (.inl z) z) z (TA.a 9 z (OpVal.extract z z z) z (TA.a 10 z (OpVal.extract z z z) z (TA.ac 11 z (OpOk.alloc z ze82 z z (fun b122=>(k1 ?_))))))))))))))))))
 refine TA.last 12 (by kernel_rfl) z z z (storeAll z sz82 z z z z z z ?_)
 refine TZ.v 13 (by kernel_rfl) z z z (moveB (.inr z) z) z z (TZ.done (by kernel_rfl) (S.n (TC.a (TL.j z z (TL.j z z (TL.split 22 z (fun h124=> ?_) (fun h124=> ?_)))))))
 ·replace hh:=iteO_t h124 hh
  refine TL.f z (TL.f z (TL.f z (TL.f z (TL.w z (pickTB z z z) (TL.en (TC.t z (TC.ofSub (Sub.f [8,8,8,8,8,8,8] 7) (TC.ret (S.r ?_)))))))))
  obtain rfl:=so hh
  refine ⟨_,Sub.f [6,6,6,6,6,6,6] 7,?_⟩
  exact ro [Res.cells b0_0 #[.int .i64 x0.a.states,.slice a0_1 x0.a.starts.length c0_2,.slice a0_4 x0.a.ends.length c0_5,.slice a0_7 x0.a.arcs.length c0_8,.int .i64 x0.b.states,.slice a0_10 x0.b.starts.length c0_11,.slice a0_13 x0.b.ends.length c0_14,.slice a0_16 x0.b.arcs.length c0_17,.slice a0_19 x0.arcs.length c0_20,.slice a0_22 x0.ends.length c0_23,.map (some b0_25),.map (some b0_26),.map (some b0_27),.int .i64 x0.whole.states,.slice a0_28 x0.whole.starts.length c0_29,.slice a0_30 x0.whole.ends.length c0_31,.slice a0_32 x0.whole.arcs.length c0_33,.bool x0.over] Eb0,Res.mapB (fun x=>Value.agg (encArc x).toArray) unitV (some b0_25) x0.seen,Res.mapB (fun x=>Value.agg (encTip x).toArray) unitV (some b0_26) x0.tips.s,Res.mapB (fun x=>Value.agg (encTip x).toArray) unitV (some b0_27) x0.tips.e,Res.rowS 43 2 encTip (.slice a0_28 x0.whole.starts.length c0_29) x0.whole.starts,Res.rowS 43 2 encTip (.slice a0_30 x0.whole.ends.length c0_31) x0.whole.ends,Res.rowS 66 8 encArc (.slice a0_32 x0.whole.arcs.length c0_33) x0.whole.arcs] z RVs.nil ⟨b0_26,a0_28,c0_29,z,z,z⟩
 replace hh:=iteO_f h124 hh
 refine TL.g z (moveLoc (.inl z) z) (TL.g z (nilCheckLoc z z) (TL.g z (fieldLoc z fo75_7 z) (TL.g z (loadLoc z ag4 z (i:=2) z z) (TL.w z (pickFB z z z) (TL.en (TC.cB z hh (fun h125 hh=> ?_) (fun h125 hh=> ?_)))))))
 ·refine TC.ofSub (Sub.f [8,8,8,8,8,8,8] 7) (TC.ret (S.r ?_))
  obtain rfl:=so hh
  refine ⟨_,Sub.f [6,6,6,6,6,6,6] 7,?_⟩
  exact ro [Res.cells b0_0 #[.int .i64 x0.a.states,.slice a0_1 x0.a.starts.length c0_2,.slice a0_4 x0.a.ends.length c0_5,.slice a0_7 x0.a.arcs.length c0_8,.int .i64 x0.b.states,.slice a0_10 x0.b.starts.length c0_11,.slice a0_13 x0.b.ends.length c0_14,.slice a0_16 x0.b.arcs.length c0_17,.slice a0_19 x0.arcs.length c0_20,.slice a0_22 x0.ends.length c0_23,.map (some b0_25),.map (some b0_26),.map (some b0_27),.int .i64 x0.whole.states,.slice a0_28 x0.whole.starts.length c0_29,.slice a0_30 x0.whole.ends.length c0_31,.slice a0_32 x0.whole.arcs.length c0_33,.bool x0.over] Eb0,Res.mapB (fun x=>Value.agg (encArc x).toArray) unitV (some b0_25) x0.seen,Res.mapB (fun x=>Value.agg (encTip x).toArray) unitV (some b0_26) x0.tips.s,Res.mapB (fun x=>Value.agg (encTip x).toArray) unitV (some b0_27) x0.tips.e,Res.rowS 43 2 encTip (.slice a0_28 x0.whole.starts.length c0_29) x0.whole.starts,Res.rowS 43 2 encTip (.slice a0_30 x0.whole.ends.length c0_31) x0.whole.ends,Res.rowS 66 8 encArc (.slice a0_32 x0.whole.arcs.length c0_33) x0.whole.arcs] z RVs.nil ⟨b0_26,a0_28,c0_29,z,z,z⟩
 refine TC.skip (S.n (TC.seq (TC.a (TL.l z z (TL.w z (nilCheckLoc z z) (TL.w z (loadLoc z ag22 z (i:=2) z z) (TL.w z (lenC z underlying22 z) (TL.w z (OpVal.geq z z z) (TL.j z z (TL.split 33 z (fun h126=> ?_) (fun h126=> ?_)))))))))))
 ·replace hh:=iteO_t h126 hh
  replace h126:=of_decide_eq_true h126
  refine TL.f z (TL.f z (TL.f z (TL.f z (TL.w z (pickTB z z z) (TL.en (TC.t z (TC.a (TL.l z z (TL.w z (nilCheckLoc z z) (TL.w z (fieldLoc z fo75_7 z) (TL.front 2 z z (TL.op z (storeB z sz4 z z z z z ?_)))))))))))))
  refine TL.en (TC.ofSub (Sub.f [8,8,8,8,8,8,6] 7) (TC.ret (S.r ?_)))
  obtain rfl:=so hh
  refine ⟨_,Sub.f [6,6,6,6,6,6,6] 7,?_⟩
  exact ro [Res.cells b0_0 #[.int .i64 x0.a.states,.slice a0_1 x0.a.starts.length c0_2,.slice a0_4 x0.a.ends.length c0_5,.slice a0_7 x0.a.arcs.length c0_8,.int .i64 x0.b.states,.slice a0_10 x0.b.starts.length c0_11,.slice a0_13 x0.b.ends.length c0_14,.slice a0_16 x0.b.arcs.length c0_17,.slice a0_19 x0.arcs.length c0_20,.slice a0_22 x0.ends.length c0_23,.map (some b0_25),.map (some b0_26),.map (some b0_27),.int .i64 x0.whole.states,.slice a0_28 x0.whole.starts.length c0_29,.slice a0_30 x0.whole.ends.length c0_31,.slice a0_32 x0.whole.arcs.length c0_33,.bool true] Eb0,Res.mapB (fun x=>Value.agg (encArc x).toArray) unitV (some b0_25) x0.seen,Res.mapB (fun x=>Value.agg (encTip x).toArray) unitV (some b0_26) x0.tips.s,Res.mapB (fun x=>Value.agg (encTip x).toArray) unitV (some b0_27) x0.tips.e,Res.rowS 43 2 encTip (.slice a0_28 x0.whole.starts.length c0_29) x0.whole.starts,Res.rowS 43 2 encTip (.slice a0_30 x0.whole.ends.length c0_31) x0.whole.ends,Res.rowS 66 8 encArc (.slice a0_32 x0.whole.arcs.length c0_33) x0.whole.arcs] z RVs.nil ⟨b0_26,a0_28,c0_29,z,z,z⟩
 replace hh:=iteO_f h126 hh
 replace h126:=of_decide_eq_false h126
 refine TL.g z (fieldLoc z fo43_1 z) (TL.g z (loadLoc z ag9 z (i:=1) z z) (TL.g z (lenBs z underlying9 z) (TL.g z (OpVal.gtr z z z) (TL.w z (pickFB z z z) (TL.en (TC.cD z hh (fun h127 hh=> ?_) (fun h127 hh=> ?_)))))))
 ·refine TC.a (TL.l z z (TL.w z (nilCheckLoc z z) (TL.w z (fieldLoc z fo75_7 z) (TL.front 2 z z (TL.op z (storeB z sz4 z z z z z ?_))))))
  refine TL.en (TC.ofSub (Sub.f [8,8,8,8,8,8,6] 7) (TC.ret (S.r ?_)))
  obtain rfl:=so hh
  refine ⟨_,Sub.f [6,6,6,6,6,6,6] 7,?_⟩
  exact ro [Res.cells b0_0 #[.int .i64 x0.a.states,.slice a0_1 x0.a.starts.length c0_2,.slice a0_4 x0.a.ends.length c0_5,.slice a0_7 x0.a.arcs.length c0_8,.int .i64 x0.b.states,.slice a0_10 x0.b.starts.length c0_11,.slice a0_13 x0.b.ends.length c0_14,.slice a0_16 x0.b.arcs.length c0_17,.slice a0_19 x0.arcs.length c0_20,.slice a0_22 x0.ends.length c0_23,.map (some b0_25),.map (some b0_26),.map (some b0_27),.int .i64 x0.whole.states,.slice a0_28 x0.whole.starts.length c0_29,.slice a0_30 x0.whole.ends.length c0_31,.slice a0_32 x0.whole.arcs.length c0_33,.bool true] Eb0,Res.mapB (fun x=>Value.agg (encArc x).toArray) unitV (some b0_25) x0.seen,Res.mapB (fun x=>Value.agg (encTip x).toArray) unitV (some b0_26) x0.tips.s,Res.mapB (fun x=>Value.agg (encTip x).toArray) unitV (some b0_27) x0.tips.e,Res.rowS 43 2 encTip (.slice a0_28 x0.whole.starts.length c0_29) x0.whole.starts,Res.rowS 43 2 encTip (.slice a0_30 x0.whole.ends.length c0_31) x0.whole.ends,Res.rowS 66 8 encArc (.slice a0_32 x0.whole.arcs.length c0_33) x0.whole.arcs] z RVs.nil ⟨b0_26,a0_28,c0_29,z,z,z⟩
 refine TC.skip (S.n (TC.seq (TC.draw [8] (by kernel_rfl) (TA.a 0 z (moveLoc (.inl z) z) z (TA.a 1 z (moveI (.inl z) z) z (TA.a 2 z (nilCheckLoc z z) z (TA.a 3 z (fieldLoc z fo75_5 z) z (TA.b 4 z (OpVal.of (indexArrN (i:=0) z underlying73 sz72 z z (by decide)) (v':=loc b0_0 11) z) z (TA.b 5 z (loadLoc z ag72 z (i:=2) z z) z (TA.b 6 z (loadAll z ag43 sz43 z (i:=1) z z) z (TA.a 7 z (buildL z pl82 ze82 z) z (TA.front 4 z z (TA.last 8 (by kernel_rfl) z z z (updB x3 () z underlying72 z z z z kl43 ?_))))))))))))))
 refine TZ.done (by kernel_rfl) (S.n ?_)
 have u53:=grd_c hh
 replace hh:=grd_t hh
 refine TC.draw [6,7,8] (by kernel_rfl) (TA.a 0 z (moveLoc (.inl z) z) z (TA.a 1 z (moveLoc (.inl z) z) z (TA.a 2 z (nilCheckLoc z z) z (TA.b 3 z (loadLoc z ag22 z (i:=3) z z) z (TA.b 4 z (loadAll z ag43 sz43 z (i:=2) z z) z (TA.ac 5 z (OpOk.lit (enc:=encTip) [x3] z underlying22 sz43 ze43 z z z encTip_len (by decide) (by decide) Tip.zero z (by decide) z (by decide) encTip_one (fun a133 c134=>(k1 ?_)))))))))
 refine TA.front 7 z z (TA.last 6 (by kernel_rfl) z z z (appendS z z underlying22 sz43 by43 ze43 z z (by decide) z z z (.inr ⟨_,0,z⟩) (by simpa using u53) (by decide) (fun a136 c137=> ?_)))
 refine TZ.v 7 (by kernel_rfl) z z z (nilCheckLoc z z) z z (TZ.front 5 z z (TZ.last 8 (by kernel_rfl) z z z (storeSl z sz22 z z z z z ?_)))
 refine TZ.done (by kernel_rfl) ?_
 obtain rfl:=so hh
 refine ⟨_,Sub.f [9,9,3,9,6,9,6] 7,?_⟩
 exact RetOk.mk' (rs:=[]) [Res.cells b0_0 #[.int .i64 x0.a.states,.slice a0_1 x0.a.starts.length c0_2,.slice a0_4 x0.a.ends.length c0_5,.slice a0_7 x0.a.arcs.length c0_8,.int .i64 x0.b.states,.slice a0_10 x0.b.starts.length c0_11,.slice a0_13 x0.b.ends.length c0_14,.slice a0_16 x0.b.arcs.length c0_17,.slice a0_19 x0.arcs.length c0_20,.slice a0_22 x0.ends.length c0_23,.map (some b0_25),.map (some b0_26),.map (some b0_27),.int .i64 x0.whole.states,.slice a136 ((x0.whole.starts++[x3]).length) c137,.slice a0_30 x0.whole.ends.length c0_31,.slice a0_32 x0.whole.arcs.length c0_33,.bool x0.over] Eb0,Res.mapB (fun x=>Value.agg (encArc x).toArray) unitV (some b0_25) x0.seen,Res.mapB (fun x=>Value.agg (encTip x).toArray) unitV (some b0_26) (x0.tips.s.put x3 ()),Res.mapB (fun x=>Value.agg (encTip x).toArray) unitV (some b0_27) x0.tips.e,Res.rowS 43 2 encTip (.slice a136 (x0.whole.starts++[x3]).length c137) (x0.whole.starts++[x3]),Res.rowS 43 2 encTip (.slice a0_30 x0.whole.ends.length c0_31) x0.whole.ends,Res.rowS 66 8 encArc (.slice a0_32 x0.whole.arcs.length c0_33) x0.whole.arcs] z (.inr z) RVs.nil (List.sublist_append_left _ _) ⟨b0_26,a136,c137,z,z,z⟩
def comp_chain_tipE(x0:Chain)(x1:Int)(x3:Tip):Option (Chain):=
 grd (x1=1) (iteO (x0.tips.e.has x3) (some x0) (iteO x0.over (some x0) (iteO (decide (1024≤((x0.whole.ends.length:Nat):Int))) (some (⟨x0.a,x0.b,x0.arcs,x0.ends,x0.seen,x0.tips,x0.whole,true⟩:Chain)) (iteO (decide (1024<((x3.out.length:Nat):Int))) (some (⟨x0.a,x0.b,x0.arcs,x0.ends,x0.seen,x0.tips,x0.whole,true⟩:Chain)) (grd ((x0.whole.ends.length+[x3].length) * 24≤140737488355328) (some (⟨x0.a,x0.b,x0.arcs,x0.ends,x0.seen,(⟨x0.tips.s,(x0.tips.e.put x3 ())⟩:TwoM),(⟨x0.whole.states,x0.whole.starts,(x0.whole.ends++[x3]),x0.whole.arcs⟩:Fst),x0.over⟩:Chain)))))))
theorem comp_chain_tipE_con{x0:Chain}{x1:Int}{x3:Tip}(f0_3:RS σ 2 encTip (.slice a0_1 x0.a.starts.length c0_2) x0.a.starts)(f0_6:RS σ 2 encTip (.slice a0_4 x0.a.ends.length c0_5) x0.a.ends)(f0_9:RS σ 8 encArc (.slice a0_7 x0.a.arcs.length c0_8) x0.a.arcs)(f0_12:RS σ 2 encTip (.slice a0_10 x0.b.starts.length c0_11) x0.b.starts)(f0_15:RS σ 2 encTip (.slice a0_13 x0.b.ends.length c0_14) x0.b.ends)(f0_18:RS σ 8 encArc (.slice a0_16 x0.b.arcs.length c0_17) x0.b.arcs)(f0_21:RZ σ (pkSl 8 encArc encArc_len) (.slice a0_19 x0.arcs.length c0_20) x0.arcs)(f0_24:RZ σ (pkSl 2 encTip encTip_len) (.slice a0_22 x0.ends.length c0_23) x0.ends){r:Chain}(hh:comp_chain_tipE x0 x1 x3=some r):
  Con Tryz.prog 53 #[loc b0_0 0,.int .i64 x1,loc b0_0 15,.agg #[.int .i64 x3.state,.string (bs x3.out)]] σ [Res.cells b0_0 #[.int .i64 x0.a.states,.slice a0_1 x0.a.starts.length c0_2,.slice a0_4 x0.a.ends.length c0_5,.slice a0_7 x0.a.arcs.length c0_8,.int .i64 x0.b.states,.slice a0_10 x0.b.starts.length c0_11,.slice a0_13 x0.b.ends.length c0_14,.slice a0_16 x0.b.arcs.length c0_17,.slice a0_19 x0.arcs.length c0_20,.slice a0_22 x0.ends.length c0_23,.map (some b0_25),.map (some b0_26),.map (some b0_27),.int .i64 x0.whole.states,.slice a0_28 x0.whole.starts.length c0_29,.slice a0_30 x0.whole.ends.length c0_31,.slice a0_32 x0.whole.arcs.length c0_33,.bool x0.over] Eb0,Res.mapB (fun x=>Value.agg (encArc x).toArray) unitV (some b0_25) x0.seen,Res.mapB (fun x=>Value.agg (encTip x).toArray) unitV (some b0_26) x0.tips.s,Res.mapB (fun x=>Value.agg (encTip x).toArray) unitV (some b0_27) x0.tips.e,Res.rowS 43 2 encTip (.slice a0_28 x0.whole.starts.length c0_29) x0.whole.starts,Res.rowS 43 2 encTip (.slice a0_30 x0.whole.ends.length c0_31) x0.whole.ends,Res.rowS 66 8 encArc (.slice a0_32 x0.whole.arcs.length c0_33) x0.whole.arcs] (fun v σ' H'=> ∃bo1 ao2 co3,v= .tuple #[]∧σ=σ'∧H'=[Res.cells b0_0 #[.int .i64 x0.a.states,.slice a0_1 x0.a.starts.length c0_2,.slice a0_4 x0.a.ends.length c0_5,.slice a0_7 x0.a.arcs.length c0_8,.int .i64 x0.b.states,.slice a0_10 x0.b.starts.length c0_11,.slice a0_13 x0.b.ends.length c0_14,.slice a0_16 x0.b.arcs.length c0_17,.slice a0_19 x0.arcs.length c0_20,.slice a0_22 x0.ends.length c0_23,.map (some b0_25),.map (some b0_26),.map (some bo1),.int .i64 x0.whole.states,.slice a0_28 x0.whole.starts.length c0_29,.slice ao2 r.whole.ends.length co3,.slice a0_32 x0.whole.arcs.length c0_33,.bool r.over] Eb0,Res.mapB (fun x=>Value.agg (encArc x).toArray) unitV (some b0_25) x0.seen,Res.mapB (fun x=>Value.agg (encTip x).toArray) unitV (some b0_26) x0.tips.s,Res.mapB (fun x=>Value.agg (encTip x).toArray) unitV (some bo1) r.tips.e,Res.rowS 43 2 encTip (.slice a0_28 x0.whole.starts.length c0_29) x0.whole.starts,Res.rowS 43 2 encTip (.slice ao2 r.whole.ends.length co3) r.whole.ends,Res.rowS 66 8 encArc (.slice a0_32 x0.whole.arcs.length c0_33) x0.whole.arcs]):=by
 dsimp only [comp_chain_tipE]at hh
 have f0_3b:=f0_3.rv.big
 have f0_6b:=f0_6.rv.big
 have f0_9b:=f0_9.rv.big
 have f0_12b:=f0_12.rv.big
 have f0_15b:=f0_15.rv.big
 have f0_18b:=f0_18.rv.big
 have f0_21b:=f0_21.big
 have f0_24b:=f0_24.big
 refine Con.mk (n:=58) Tryz.func53 z z z (fun w0=> ?_)
 refine TC.weakR ?_
 have x1k:=grd_c hh
 replace hh:=grd_t hh
 subst x1k
 refine TC.a (TL.op z (boxA z z z z (fun b118=> ?_)))
 refine TL.en (TC.seq (TC.seq (TC.draw [10,12,13] (by kernel_rfl) (TA.a 0 z (moveLoc (.inl z) z) z (TA.a 1 z (moveI (.inl z) z) z (TA.a 2 z (nilCheckLoc z z) z (TA.a 3 z (fieldLoc z fo75_5 z) z (TA.b 4 z (OpVal.of (indexArrN (i:=1) z underlying73 sz72 z z (by decide)) (v':=loc b0_0 12) z) z (TA.b 5 z (loadLoc z ag72 z (i:=1) z z) z (TA.b 6 z (loadAll z ag43 sz43 z (i:=0) z z) z (TA.b 7 z (OpVal.of (lookB () (q:=x3) z underlying72 ze82 z (i:=4) z z kl43) (v':= .tuple #[.agg #[],.bool (x0.tips.e.has x3)]) z) z (TA.a 8 z (moveT (.inl z) z) z (TA.a 9 z (OpVal.extract z z z) z (TA.a 10 z (OpVal.extract z z z) z (TA.ac 11 z (OpOk.alloc z ze82 z z (fun b122=>(k1 ?_))))))))))))))))))
 refine TA.last 12 (by kernel_rfl) z z z (storeAll z sz82 z z z z z z ?_)
 refine TZ.v 13 (by kernel_rfl) z z z (moveB (.inr z) z) z z (TZ.done (by kernel_rfl) (S.n (TC.a (TL.j z z (TL.j z z (TL.split 22 z (fun h124=> ?_) (fun h124=> ?_)))))))
 ·replace hh:=iteO_t h124 hh
  refine TL.f z (TL.f z (TL.f z (TL.f z (TL.w z (pickTB z z z) (TL.en (TC.t z (TC.ofSub (Sub.f [8,8,8,8,8,8,8] 7) (TC.ret (S.r ?_)))))))))
  obtain rfl:=so hh
  refine ⟨_,Sub.f [6,6,6,6,6,6,6] 7,?_⟩
  exact ro [Res.cells b0_0 #[.int .i64 x0.a.states,.slice a0_1 x0.a.starts.length c0_2,.slice a0_4 x0.a.ends.length c0_5,.slice a0_7 x0.a.arcs.length c0_8,.int .i64 x0.b.states,.slice a0_10 x0.b.starts.length c0_11,.slice a0_13 x0.b.ends.length c0_14,.slice a0_16 x0.b.arcs.length c0_17,.slice a0_19 x0.arcs.length c0_20,.slice a0_22 x0.ends.length c0_23,.map (some b0_25),.map (some b0_26),.map (some b0_27),.int .i64 x0.whole.states,.slice a0_28 x0.whole.starts.length c0_29,.slice a0_30 x0.whole.ends.length c0_31,.slice a0_32 x0.whole.arcs.length c0_33,.bool x0.over] Eb0,Res.mapB (fun x=>Value.agg (encArc x).toArray) unitV (some b0_25) x0.seen,Res.mapB (fun x=>Value.agg (encTip x).toArray) unitV (some b0_26) x0.tips.s,Res.mapB (fun x=>Value.agg (encTip x).toArray) unitV (some b0_27) x0.tips.e,Res.rowS 43 2 encTip (.slice a0_28 x0.whole.starts.length c0_29) x0.whole.starts,Res.rowS 43 2 encTip (.slice a0_30 x0.whole.ends.length c0_31) x0.whole.ends,Res.rowS 66 8 encArc (.slice a0_32 x0.whole.arcs.length c0_33) x0.whole.arcs] z RVs.nil ⟨b0_27,a0_30,c0_31,z,z,z⟩
 replace hh:=iteO_f h124 hh
 refine TL.g z (moveLoc (.inl z) z) (TL.g z (nilCheckLoc z z) (TL.g z (fieldLoc z fo75_7 z) (TL.g z (loadLoc z ag4 z (i:=2) z z) (TL.w z (pickFB z z z) (TL.en (TC.cB z hh (fun h125 hh=> ?_) (fun h125 hh=> ?_)))))))
 ·refine TC.ofSub (Sub.f [8,8,8,8,8,8,8] 7) (TC.ret (S.r ?_))
  obtain rfl:=so hh
  refine ⟨_,Sub.f [6,6,6,6,6,6,6] 7,?_⟩
  exact ro [Res.cells b0_0 #[.int .i64 x0.a.states,.slice a0_1 x0.a.starts.length c0_2,.slice a0_4 x0.a.ends.length c0_5,.slice a0_7 x0.a.arcs.length c0_8,.int .i64 x0.b.states,.slice a0_10 x0.b.starts.length c0_11,.slice a0_13 x0.b.ends.length c0_14,.slice a0_16 x0.b.arcs.length c0_17,.slice a0_19 x0.arcs.length c0_20,.slice a0_22 x0.ends.length c0_23,.map (some b0_25),.map (some b0_26),.map (some b0_27),.int .i64 x0.whole.states,.slice a0_28 x0.whole.starts.length c0_29,.slice a0_30 x0.whole.ends.length c0_31,.slice a0_32 x0.whole.arcs.length c0_33,.bool x0.over] Eb0,Res.mapB (fun x=>Value.agg (encArc x).toArray) unitV (some b0_25) x0.seen,Res.mapB (fun x=>Value.agg (encTip x).toArray) unitV (some b0_26) x0.tips.s,Res.mapB (fun x=>Value.agg (encTip x).toArray) unitV (some b0_27) x0.tips.e,Res.rowS 43 2 encTip (.slice a0_28 x0.whole.starts.length c0_29) x0.whole.starts,Res.rowS 43 2 encTip (.slice a0_30 x0.whole.ends.length c0_31) x0.whole.ends,Res.rowS 66 8 encArc (.slice a0_32 x0.whole.arcs.length c0_33) x0.whole.arcs] z RVs.nil ⟨b0_27,a0_30,c0_31,z,z,z⟩
 refine TC.skip (S.n (TC.seq (TC.a (TL.l z z (TL.w z (nilCheckLoc z z) (TL.w z (loadLoc z ag22 z (i:=2) z z) (TL.w z (lenC z underlying22 z) (TL.w z (OpVal.geq z z z) (TL.j z z (TL.split 33 z (fun h126=> ?_) (fun h126=> ?_)))))))))))
 ·replace hh:=iteO_t h126 hh
  replace h126:=of_decide_eq_true h126
  refine TL.f z (TL.f z (TL.f z (TL.f z (TL.w z (pickTB z z z) (TL.en (TC.t z (TC.a (TL.l z z (TL.w z (nilCheckLoc z z) (TL.w z (fieldLoc z fo75_7 z) (TL.front 2 z z (TL.op z (storeB z sz4 z z z z z ?_)))))))))))))
  refine TL.en (TC.ofSub (Sub.f [8,8,8,8,8,8,6] 7) (TC.ret (S.r ?_)))
  obtain rfl:=so hh
  refine ⟨_,Sub.f [6,6,6,6,6,6,6] 7,?_⟩
  exact ro [Res.cells b0_0 #[.int .i64 x0.a.states,.slice a0_1 x0.a.starts.length c0_2,.slice a0_4 x0.a.ends.length c0_5,.slice a0_7 x0.a.arcs.length c0_8,.int .i64 x0.b.states,.slice a0_10 x0.b.starts.length c0_11,.slice a0_13 x0.b.ends.length c0_14,.slice a0_16 x0.b.arcs.length c0_17,.slice a0_19 x0.arcs.length c0_20,.slice a0_22 x0.ends.length c0_23,.map (some b0_25),.map (some b0_26),.map (some b0_27),.int .i64 x0.whole.states,.slice a0_28 x0.whole.starts.length c0_29,.slice a0_30 x0.whole.ends.length c0_31,.slice a0_32 x0.whole.arcs.length c0_33,.bool true] Eb0,Res.mapB (fun x=>Value.agg (encArc x).toArray) unitV (some b0_25) x0.seen,Res.mapB (fun x=>Value.agg (encTip x).toArray) unitV (some b0_26) x0.tips.s,Res.mapB (fun x=>Value.agg (encTip x).toArray) unitV (some b0_27) x0.tips.e,Res.rowS 43 2 encTip (.slice a0_28 x0.whole.starts.length c0_29) x0.whole.starts,Res.rowS 43 2 encTip (.slice a0_30 x0.whole.ends.length c0_31) x0.whole.ends,Res.rowS 66 8 encArc (.slice a0_32 x0.whole.arcs.length c0_33) x0.whole.arcs] z RVs.nil ⟨b0_27,a0_30,c0_31,z,z,z⟩
 replace hh:=iteO_f h126 hh
 replace h126:=of_decide_eq_false h126
 refine TL.g z (fieldLoc z fo43_1 z) (TL.g z (loadLoc z ag9 z (i:=1) z z) (TL.g z (lenBs z underlying9 z) (TL.g z (OpVal.gtr z z z) (TL.w z (pickFB z z z) (TL.en (TC.cD z hh (fun h127 hh=> ?_) (fun h127 hh=> ?_)))))))
 ·refine TC.a (TL.l z z (TL.w z (nilCheckLoc z z) (TL.w z (fieldLoc z fo75_7 z) (TL.front 2 z z (TL.op z (storeB z sz4 z z z z z ?_))))))
  refine TL.en (TC.ofSub (Sub.f [8,8,8,8,8,8,6] 7) (TC.ret (S.r ?_)))
  obtain rfl:=so hh
  refine ⟨_,Sub.f [6,6,6,6,6,6,6] 7,?_⟩
  exact ro [Res.cells b0_0 #[.int .i64 x0.a.states,.slice a0_1 x0.a.starts.length c0_2,.slice a0_4 x0.a.ends.length c0_5,.slice a0_7 x0.a.arcs.length c0_8,.int .i64 x0.b.states,.slice a0_10 x0.b.starts.length c0_11,.slice a0_13 x0.b.ends.length c0_14,.slice a0_16 x0.b.arcs.length c0_17,.slice a0_19 x0.arcs.length c0_20,.slice a0_22 x0.ends.length c0_23,.map (some b0_25),.map (some b0_26),.map (some b0_27),.int .i64 x0.whole.states,.slice a0_28 x0.whole.starts.length c0_29,.slice a0_30 x0.whole.ends.length c0_31,.slice a0_32 x0.whole.arcs.length c0_33,.bool true] Eb0,Res.mapB (fun x=>Value.agg (encArc x).toArray) unitV (some b0_25) x0.seen,Res.mapB (fun x=>Value.agg (encTip x).toArray) unitV (some b0_26) x0.tips.s,Res.mapB (fun x=>Value.agg (encTip x).toArray) unitV (some b0_27) x0.tips.e,Res.rowS 43 2 encTip (.slice a0_28 x0.whole.starts.length c0_29) x0.whole.starts,Res.rowS 43 2 encTip (.slice a0_30 x0.whole.ends.length c0_31) x0.whole.ends,Res.rowS 66 8 encArc (.slice a0_32 x0.whole.arcs.length c0_33) x0.whole.arcs] z RVs.nil ⟨b0_27,a0_30,c0_31,z,z,z⟩
 refine TC.skip (S.n (TC.seq (TC.draw [8] (by kernel_rfl) (TA.a 0 z (moveLoc (.inl z) z) z (TA.a 1 z (moveI (.inl z) z) z (TA.a 2 z (nilCheckLoc z z) z (TA.a 3 z (fieldLoc z fo75_5 z) z (TA.b 4 z (OpVal.of (indexArrN (i:=1) z underlying73 sz72 z z (by decide)) (v':=loc b0_0 12) z) z (TA.b 5 z (loadLoc z ag72 z (i:=2) z z) z (TA.b 6 z (loadAll z ag43 sz43 z (i:=1) z z) z (TA.a 7 z (buildL z pl82 ze82 z) z (TA.front 5 z z (TA.last 8 (by kernel_rfl) z z z (updB x3 () z underlying72 z z z z kl43 ?_))))))))))))))
 refine TZ.done (by kernel_rfl) (S.n ?_)
 have u53:=grd_c hh
 replace hh:=grd_t hh
 refine TC.draw [6,7,8] (by kernel_rfl) (TA.a 0 z (moveLoc (.inl z) z) z (TA.a 1 z (moveLoc (.inl z) z) z (TA.a 2 z (nilCheckLoc z z) z (TA.b 3 z (loadLoc z ag22 z (i:=3) z z) z (TA.b 4 z (loadAll z ag43 sz43 z (i:=2) z z) z (TA.ac 5 z (OpOk.lit (enc:=encTip) [x3] z underlying22 sz43 ze43 z z z encTip_len (by decide) (by decide) Tip.zero z (by decide) z (by decide) encTip_one (fun a133 c134=>(k1 ?_)))))))))
 refine TA.front 8 z z (TA.last 6 (by kernel_rfl) z z z (appendS z z underlying22 sz43 by43 ze43 z z (by decide) z z z (.inr ⟨_,0,z⟩) (by simpa using u53) (by decide) (fun a136 c137=> ?_)))
 refine TZ.v 7 (by kernel_rfl) z z z (nilCheckLoc z z) z z (TZ.front 5 z z (TZ.last 8 (by kernel_rfl) z z z (storeSl z sz22 z z z z z ?_)))
 refine TZ.done (by kernel_rfl) ?_
 obtain rfl:=so hh
 refine ⟨_,Sub.f [9,2,9,5,9,9,6] 7,?_⟩
 exact RetOk.mk' (rs:=[]) [Res.cells b0_0 #[.int .i64 x0.a.states,.slice a0_1 x0.a.starts.length c0_2,.slice a0_4 x0.a.ends.length c0_5,.slice a0_7 x0.a.arcs.length c0_8,.int .i64 x0.b.states,.slice a0_10 x0.b.starts.length c0_11,.slice a0_13 x0.b.ends.length c0_14,.slice a0_16 x0.b.arcs.length c0_17,.slice a0_19 x0.arcs.length c0_20,.slice a0_22 x0.ends.length c0_23,.map (some b0_25),.map (some b0_26),.map (some b0_27),.int .i64 x0.whole.states,.slice a0_28 x0.whole.starts.length c0_29,.slice a136 ((x0.whole.ends++[x3]).length) c137,.slice a0_32 x0.whole.arcs.length c0_33,.bool x0.over] Eb0,Res.mapB (fun x=>Value.agg (encArc x).toArray) unitV (some b0_25) x0.seen,Res.mapB (fun x=>Value.agg (encTip x).toArray) unitV (some b0_26) x0.tips.s,Res.mapB (fun x=>Value.agg (encTip x).toArray) unitV (some b0_27) (x0.tips.e.put x3 ()),Res.rowS 43 2 encTip (.slice a0_28 x0.whole.starts.length c0_29) x0.whole.starts,Res.rowS 43 2 encTip (.slice a136 (x0.whole.ends++[x3]).length c137) (x0.whole.ends++[x3]),Res.rowS 66 8 encArc (.slice a0_32 x0.whole.arcs.length c0_33) x0.whole.arcs] z (.inr z) RVs.nil (List.sublist_append_left _ _) ⟨b0_27,a136,c137,z,z,z⟩
def As_(x1:BSet)(z111:BSet)(k112:Nat):Option ((BSet×Nat)⊕(BSet)):=
 iteO (decide (((k112:Nat):Int)<4)) (grd (k112<4) (grd (k112<4) (grd (k112<4) (grd ((u64and (BSet.word z111 k112) (BSet.word x1 k112))<18446744073709551616) (nxt ((BSet.setWord z111 k112 (u64and (BSet.word z111 k112) (BSet.word x1 k112))),(k112+1))))))) (fin (some z111))
def C6_(x0:BSet)(x1:BSet):Option (BSet):=
 iter (fun q:BSet×Nat=>As_ x1 q.1 q.2) (x0,0)
theorem G3_{x0:BSet}{x1:BSet}{r:BSet}(hh:C6_ x0 x1=some r):
  Con Tryz.prog 56 #[setV x0,setV x1] σ [] (PureP (setV r) σ):=by
 dsimp only [C6_]at hh
 refine Con.mk (n:=19) Tryz.func56 z z z (fun w0=> ?_)
 refine TC.a (TL.op z (boxA z z z z (fun b101=> ?_)))
 refine TL.op z (boxA z z z z (fun b103=> ?_))
 refine TL.op z (OpOk.alloc z ze55 z z (fun b105=> ?_))
 refine TL.en (TC.seq (TC.a (TL.i z z (TL.en (TC.block (TC.loopG (α:=(BSet×Nat)×(Unit)) (rgs [(5,13)]) (fun g=>[(6,.int .i64 ((g.1.2:Nat):Int))]) (fun g=>[Res.cells b101 (setA g.1.1) 55,Res.cells b103 (setA x1) 55,Res.cells b105 (setA BSet.zero) 55]) (fun g=>σ) (fun g=>iter (fun q:BSet×Nat=>As_ x1 q.1 q.2) g.1=some r) (fun g=>rounds (fun q:BSet×Nat=>As_ x1 q.1 q.2) g.1) ((x0,0),()) (Sub.f [1,2] 3) z (by repeat (first|exact trivial|refine ⟨z,?_⟩)) hh (fun g1 j1 hg1=> ?_)))))))
 obtain ⟨⟨z111,k112⟩,_⟩:=g1
 have hh:=hg1;clear hg1
 try dsimp only
 obtain ⟨z1,hh,hR1⟩:=iter_e hh
 dsimp only [As_]at hh
 refine TC.a (TL.w z (OpVal.lss z z z) (TL.en (TC.seq (TC.cD z hh (fun h113 hh=> ?_) (fun h113 hh=> ?_)))))
 ·refine TC.skip (S.n (TC.seq (TC.block (TC.a (TL.i z z (TL.i z z (TL.en ?_)))))))
  have u9:=grd_c hh
  replace hh:=grd_t hh
  have u12:=grd_c hh
  replace hh:=grd_t hh
  have u15:=grd_c hh
  replace hh:=grd_t hh
  have u16:=grd_c hh
  replace hh:=grd_t hh
  refine TC.draw [8] (by kernel_rfl) (TA.a 0 z (moveI (.inl z) z) z (TA.b 1 z (indexArrN z underlying55 sz53 z z (by omega)) z (TA.b 2 z (loadWordAt z111 z ag53 z (j:=0) z (by omega) z) z (TA.a 3 z (moveI (.inl z) z) z (TA.b 4 z (indexArrN z underlying55 sz53 z z (by omega)) z (TA.b 5 z (loadWordAt x1 z ag53 z (j:=1) z (by omega) z) z (TA.a 6 z (andU z z z) z (TA.b 7 z (indexArrN z underlying55 sz53 z z (by omega)) z (TA.last 8 (by kernel_rfl) z z z (storeWord z sz53 z z z (by omega) u16 ?_))))))))))
  refine TZ.done (by kernel_rfl) (B.n (S.n (TC.region (TL.w z (OpVal.succ z z z (by omega)) (TL.i z z (TL.en ?_))))))
  obtain ⟨hh,hlt114⟩:=nxt_x hR1 hh
  exact lf (((BSet.setWord z111 k112 (u64and (BSet.word z111 k112) (BSet.word x1 k112))),(k112+1)),()) hlt114 hh (Sub.f [2,2,2] 3)
 refine TC.exit (S.x (S.x ?_))
 replace hh:=fin_x hR1 hh
 refine TC.exitHere (S.n (TC.a (TL.w z (loadAll z ag55 sz55 z (i:=0) z z) (TL.front 2 z z (TL.op z (storeAll z sz55 z z z z z z ?_))))))
 refine TL.en (TC.rt 1 ?_)
 obtain rfl:=so hh
 exact ro [] z (RVs.agg ag55 sz55 z (i:=0) z z RVs.nil) ⟨z,z,z⟩
def comp_chain_arc(x0:Chain)(x1:Arc):Option (Chain):=
 iteO (x0.seen.has x1) (some x0) (iteO x0.over (some x0) (iteO (decide (16384≤((x0.whole.arcs.length:Nat):Int))) (some (⟨x0.a,x0.b,x0.arcs,x0.ends,x0.seen,x0.tips,x0.whole,true⟩:Chain)) (iteO (decide (1024<((x1.out.length:Nat):Int))) (some (⟨x0.a,x0.b,x0.arcs,x0.ends,x0.seen,x0.tips,x0.whole,true⟩:Chain)) (grd ((x0.whole.arcs.length+[x1].length) * 72≤140737488355328) (some (⟨x0.a,x0.b,x0.arcs,x0.ends,(x0.seen.put x1 ()),x0.tips,(⟨x0.whole.states,x0.whole.starts,x0.whole.ends,(x0.whole.arcs++[x1])⟩:Fst),x0.over⟩:Chain))))))
theorem comp_chain_arc_con{x0:Chain}{x1:Arc}(f0_3:RS σ 2 encTip (.slice a0_1 x0.a.starts.length c0_2) x0.a.starts)(f0_6:RS σ 2 encTip (.slice a0_4 x0.a.ends.length c0_5) x0.a.ends)(f0_9:RS σ 8 encArc (.slice a0_7 x0.a.arcs.length c0_8) x0.a.arcs)(f0_12:RS σ 2 encTip (.slice a0_10 x0.b.starts.length c0_11) x0.b.starts)(f0_15:RS σ 2 encTip (.slice a0_13 x0.b.ends.length c0_14) x0.b.ends)(f0_18:RS σ 8 encArc (.slice a0_16 x0.b.arcs.length c0_17) x0.b.arcs)(f0_21:RZ σ (pkSl 8 encArc encArc_len) (.slice a0_19 x0.arcs.length c0_20) x0.arcs)(f0_24:RZ σ (pkSl 2 encTip encTip_len) (.slice a0_22 x0.ends.length c0_23) x0.ends){r:Chain}(hh:comp_chain_arc x0 x1=some r):
  Con Tryz.prog 55 #[loc b0_0 0,.agg #[.int .i64 x1.frm,.int .i64 x1.to,.int .u64 ((x1.set.a:Nat):Int),.int .u64 ((x1.set.b:Nat):Int),.int .u64 ((x1.set.c:Nat):Int),.int .u64 ((x1.set.d:Nat):Int),.string (bs x1.out),.bool x1.copy]] σ [Res.cells b0_0 #[.int .i64 x0.a.states,.slice a0_1 x0.a.starts.length c0_2,.slice a0_4 x0.a.ends.length c0_5,.slice a0_7 x0.a.arcs.length c0_8,.int .i64 x0.b.states,.slice a0_10 x0.b.starts.length c0_11,.slice a0_13 x0.b.ends.length c0_14,.slice a0_16 x0.b.arcs.length c0_17,.slice a0_19 x0.arcs.length c0_20,.slice a0_22 x0.ends.length c0_23,.map (some b0_25),.map (some b0_26),.map (some b0_27),.int .i64 x0.whole.states,.slice a0_28 x0.whole.starts.length c0_29,.slice a0_30 x0.whole.ends.length c0_31,.slice a0_32 x0.whole.arcs.length c0_33,.bool x0.over] Eb0,Res.mapB (fun x=>Value.agg (encArc x).toArray) unitV (some b0_25) x0.seen,Res.mapB (fun x=>Value.agg (encTip x).toArray) unitV (some b0_26) x0.tips.s,Res.mapB (fun x=>Value.agg (encTip x).toArray) unitV (some b0_27) x0.tips.e,Res.rowS 43 2 encTip (.slice a0_28 x0.whole.starts.length c0_29) x0.whole.starts,Res.rowS 43 2 encTip (.slice a0_30 x0.whole.ends.length c0_31) x0.whole.ends,Res.rowS 66 8 encArc (.slice a0_32 x0.whole.arcs.length c0_33) x0.whole.arcs] (fun v σ' H'=> ∃bo1 ao2 co3,v= .tuple #[]∧σ=σ'∧H'=[Res.cells b0_0 #[.int .i64 x0.a.states,.slice a0_1 x0.a.starts.length c0_2,.slice a0_4 x0.a.ends.length c0_5,.slice a0_7 x0.a.arcs.length c0_8,.int .i64 x0.b.states,.slice a0_10 x0.b.starts.length c0_11,.slice a0_13 x0.b.ends.length c0_14,.slice a0_16 x0.b.arcs.length c0_17,.slice a0_19 x0.arcs.length c0_20,.slice a0_22 x0.ends.length c0_23,.map (some bo1),.map (some b0_26),.map (some b0_27),.int .i64 x0.whole.states,.slice a0_28 x0.whole.starts.length c0_29,.slice a0_30 x0.whole.ends.length c0_31,.slice ao2 r.whole.arcs.length co3,.bool r.over] Eb0,Res.mapB (fun x=>Value.agg (encArc x).toArray) unitV (some bo1) r.seen,Res.mapB (fun x=>Value.agg (encTip x).toArray) unitV (some b0_26) x0.tips.s,Res.mapB (fun x=>Value.agg (encTip x).toArray) unitV (some b0_27) x0.tips.e,Res.rowS 43 2 encTip (.slice a0_28 x0.whole.starts.length c0_29) x0.whole.starts,Res.rowS 43 2 encTip (.slice a0_30 x0.whole.ends.length c0_31) x0.whole.ends,Res.rowS 66 8 encArc (.slice ao2 r.whole.arcs.length co3) r.whole.arcs]):=by
 dsimp only [comp_chain_arc]at hh
 have f0_3b:=f0_3.rv.big
 have f0_6b:=f0_6.rv.big
 have f0_9b:=f0_9.rv.big
 have f0_12b:=f0_12.rv.big
 have f0_15b:=f0_15.rv.big
 have f0_18b:=f0_18.rv.big
 have f0_21b:=f0_21.big
 have f0_24b:=f0_24.big
 refine Con.mk (n:=56) Tryz.func55 z z z (fun w0=> ?_)
 refine TC.weakR (TC.a (TL.op z (boxA z z z z (fun b118=> ?_))))
 refine TL.en (TC.seq (TC.seq (TC.draw [8,10,11] (by kernel_rfl) (TA.a 0 z (moveLoc (.inl z) z) z (TA.a 1 z (nilCheckLoc z z) z (TA.a 2 z (fieldLoc z fo75_4 z) z (TA.b 3 z (loadLoc z ag71 z (i:=1) z z) z (TA.b 4 z (loadAll z ag66 sz66 z (i:=0) z z) z (TA.b 5 z (OpVal.of (lookB () (q:=x1) z underlying71 ze82 z (i:=2) z z kl66) (v':= .tuple #[.agg #[],.bool (x0.seen.has x1)]) z) z (TA.a 6 z (moveT (.inl z) z) z (TA.a 7 z (OpVal.extract z z z) z (TA.a 8 z (OpVal.extract z z z) z (TA.ac 9 z (OpOk.alloc z ze82 z z (fun b122=>(k1 ?_))))))))))))))))
 refine TA.last 10 (by kernel_rfl) z z z (storeAll z sz82 z z z z z z ?_)
 refine TZ.v 11 (by kernel_rfl) z z z (moveB (.inr z) z) z z (TZ.done (by kernel_rfl) (S.n (TC.a (TL.j z z (TL.j z z (TL.split 16 z (fun h124=> ?_) (fun h124=> ?_)))))))
 ·replace hh:=iteO_t h124 hh
  refine TL.f z (TL.f z (TL.f z (TL.f z (TL.w z (pickTB z z z) (TL.en (TC.t z (TC.ofSub (Sub.f [8,8,8,8,8,8,8] 7) (TC.ret (S.r ?_)))))))))
  obtain rfl:=so hh
  refine ⟨_,Sub.f [6,6,6,6,6,6,6] 7,?_⟩
  exact ro [Res.cells b0_0 #[.int .i64 x0.a.states,.slice a0_1 x0.a.starts.length c0_2,.slice a0_4 x0.a.ends.length c0_5,.slice a0_7 x0.a.arcs.length c0_8,.int .i64 x0.b.states,.slice a0_10 x0.b.starts.length c0_11,.slice a0_13 x0.b.ends.length c0_14,.slice a0_16 x0.b.arcs.length c0_17,.slice a0_19 x0.arcs.length c0_20,.slice a0_22 x0.ends.length c0_23,.map (some b0_25),.map (some b0_26),.map (some b0_27),.int .i64 x0.whole.states,.slice a0_28 x0.whole.starts.length c0_29,.slice a0_30 x0.whole.ends.length c0_31,.slice a0_32 x0.whole.arcs.length c0_33,.bool x0.over] Eb0,Res.mapB (fun x=>Value.agg (encArc x).toArray) unitV (some b0_25) x0.seen,Res.mapB (fun x=>Value.agg (encTip x).toArray) unitV (some b0_26) x0.tips.s,Res.mapB (fun x=>Value.agg (encTip x).toArray) unitV (some b0_27) x0.tips.e,Res.rowS 43 2 encTip (.slice a0_28 x0.whole.starts.length c0_29) x0.whole.starts,Res.rowS 43 2 encTip (.slice a0_30 x0.whole.ends.length c0_31) x0.whole.ends,Res.rowS 66 8 encArc (.slice a0_32 x0.whole.arcs.length c0_33) x0.whole.arcs] z RVs.nil ⟨b0_25,a0_32,c0_33,z,z,z⟩
 replace hh:=iteO_f h124 hh
 refine TL.g z (moveLoc (.inl z) z) (TL.g z (nilCheckLoc z z) (TL.g z (fieldLoc z fo75_7 z) (TL.g z (loadLoc z ag4 z (i:=2) z z) (TL.w z (pickFB z z z) (TL.en (TC.cB z hh (fun h125 hh=> ?_) (fun h125 hh=> ?_)))))))
 ·refine TC.ofSub (Sub.f [8,8,8,8,8,8,8] 7) (TC.ret (S.r ?_))
  obtain rfl:=so hh
  refine ⟨_,Sub.f [6,6,6,6,6,6,6] 7,?_⟩
  exact ro [Res.cells b0_0 #[.int .i64 x0.a.states,.slice a0_1 x0.a.starts.length c0_2,.slice a0_4 x0.a.ends.length c0_5,.slice a0_7 x0.a.arcs.length c0_8,.int .i64 x0.b.states,.slice a0_10 x0.b.starts.length c0_11,.slice a0_13 x0.b.ends.length c0_14,.slice a0_16 x0.b.arcs.length c0_17,.slice a0_19 x0.arcs.length c0_20,.slice a0_22 x0.ends.length c0_23,.map (some b0_25),.map (some b0_26),.map (some b0_27),.int .i64 x0.whole.states,.slice a0_28 x0.whole.starts.length c0_29,.slice a0_30 x0.whole.ends.length c0_31,.slice a0_32 x0.whole.arcs.length c0_33,.bool x0.over] Eb0,Res.mapB (fun x=>Value.agg (encArc x).toArray) unitV (some b0_25) x0.seen,Res.mapB (fun x=>Value.agg (encTip x).toArray) unitV (some b0_26) x0.tips.s,Res.mapB (fun x=>Value.agg (encTip x).toArray) unitV (some b0_27) x0.tips.e,Res.rowS 43 2 encTip (.slice a0_28 x0.whole.starts.length c0_29) x0.whole.starts,Res.rowS 43 2 encTip (.slice a0_30 x0.whole.ends.length c0_31) x0.whole.ends,Res.rowS 66 8 encArc (.slice a0_32 x0.whole.arcs.length c0_33) x0.whole.arcs] z RVs.nil ⟨b0_25,a0_32,c0_33,z,z,z⟩
 refine TC.skip (S.n (TC.seq (TC.a (TL.l z z (TL.w z (nilCheckLoc z z) (TL.w z (fieldLoc z fo75_6 z) (TL.w z (fieldLoc z fo25_3 z) (TL.w z (loadLoc z ag23 z (i:=2) z z) (TL.w z (lenC z underlying23 z) (TL.w z (OpVal.geq z z z) (TL.j z z (TL.split 29 z (fun h126=> ?_) (fun h126=> ?_)))))))))))))
 ·replace hh:=iteO_t h126 hh
  replace h126:=of_decide_eq_true h126
  refine TL.f z (TL.f z (TL.f z (TL.f z (TL.w z (pickTB z z z) (TL.en (TC.t z (TC.a (TL.l z z (TL.w z (nilCheckLoc z z) (TL.w z (fieldLoc z fo75_7 z) (TL.front 2 z z (TL.op z (storeB z sz4 z z z z z ?_)))))))))))))
  refine TL.en (TC.ofSub (Sub.f [8,8,8,8,8,8,6] 7) (TC.ret (S.r ?_)))
  obtain rfl:=so hh
  refine ⟨_,Sub.f [6,6,6,6,6,6,6] 7,?_⟩
  exact ro [Res.cells b0_0 #[.int .i64 x0.a.states,.slice a0_1 x0.a.starts.length c0_2,.slice a0_4 x0.a.ends.length c0_5,.slice a0_7 x0.a.arcs.length c0_8,.int .i64 x0.b.states,.slice a0_10 x0.b.starts.length c0_11,.slice a0_13 x0.b.ends.length c0_14,.slice a0_16 x0.b.arcs.length c0_17,.slice a0_19 x0.arcs.length c0_20,.slice a0_22 x0.ends.length c0_23,.map (some b0_25),.map (some b0_26),.map (some b0_27),.int .i64 x0.whole.states,.slice a0_28 x0.whole.starts.length c0_29,.slice a0_30 x0.whole.ends.length c0_31,.slice a0_32 x0.whole.arcs.length c0_33,.bool true] Eb0,Res.mapB (fun x=>Value.agg (encArc x).toArray) unitV (some b0_25) x0.seen,Res.mapB (fun x=>Value.agg (encTip x).toArray) unitV (some b0_26) x0.tips.s,Res.mapB (fun x=>Value.agg (encTip x).toArray) unitV (some b0_27) x0.tips.e,Res.rowS 43 2 encTip (.slice a0_28 x0.whole.starts.length c0_29) x0.whole.starts,Res.rowS 43 2 encTip (.slice a0_30 x0.whole.ends.length c0_31) x0.whole.ends,Res.rowS 66 8 encArc (.slice a0_32 x0.whole.arcs.length c0_33) x0.whole.arcs] z RVs.nil ⟨b0_25,a0_32,c0_33,z,z,z⟩
 replace hh:=iteO_f h126 hh
 replace h126:=of_decide_eq_false h126
 refine TL.g z (fieldLoc z fo66_3 z) (TL.g z (loadLoc z ag9 z (i:=1) z z) (TL.g z (lenBs z underlying9 z) (TL.g z (OpVal.gtr z z z) (TL.w z (pickFB z z z) (TL.en (TC.cD z hh (fun h127 hh=> ?_) (fun h127 hh=> ?_)))))))
 ·refine TC.a (TL.l z z (TL.w z (nilCheckLoc z z) (TL.w z (fieldLoc z fo75_7 z) (TL.front 2 z z (TL.op z (storeB z sz4 z z z z z ?_))))))
  refine TL.en (TC.ofSub (Sub.f [8,8,8,8,8,8,6] 7) (TC.ret (S.r ?_)))
  obtain rfl:=so hh
  refine ⟨_,Sub.f [6,6,6,6,6,6,6] 7,?_⟩
  exact ro [Res.cells b0_0 #[.int .i64 x0.a.states,.slice a0_1 x0.a.starts.length c0_2,.slice a0_4 x0.a.ends.length c0_5,.slice a0_7 x0.a.arcs.length c0_8,.int .i64 x0.b.states,.slice a0_10 x0.b.starts.length c0_11,.slice a0_13 x0.b.ends.length c0_14,.slice a0_16 x0.b.arcs.length c0_17,.slice a0_19 x0.arcs.length c0_20,.slice a0_22 x0.ends.length c0_23,.map (some b0_25),.map (some b0_26),.map (some b0_27),.int .i64 x0.whole.states,.slice a0_28 x0.whole.starts.length c0_29,.slice a0_30 x0.whole.ends.length c0_31,.slice a0_32 x0.whole.arcs.length c0_33,.bool true] Eb0,Res.mapB (fun x=>Value.agg (encArc x).toArray) unitV (some b0_25) x0.seen,Res.mapB (fun x=>Value.agg (encTip x).toArray) unitV (some b0_26) x0.tips.s,Res.mapB (fun x=>Value.agg (encTip x).toArray) unitV (some b0_27) x0.tips.e,Res.rowS 43 2 encTip (.slice a0_28 x0.whole.starts.length c0_29) x0.whole.starts,Res.rowS 43 2 encTip (.slice a0_30 x0.whole.ends.length c0_31) x0.whole.ends,Res.rowS 66 8 encArc (.slice a0_32 x0.whole.arcs.length c0_33) x0.whole.arcs] z RVs.nil ⟨b0_25,a0_32,c0_33,z,z,z⟩
 refine TC.skip (S.n (TC.seq (TC.draw [6] (by kernel_rfl) (TA.a 0 z (moveLoc (.inl z) z) z (TA.a 1 z (nilCheckLoc z z) z (TA.a 2 z (fieldLoc z fo75_4 z) z (TA.b 3 z (loadLoc z ag71 z (i:=2) z z) z (TA.b 4 z (loadAll z ag66 sz66 z (i:=1) z z) z (TA.a 5 z (buildL z pl82 ze82 z) z (TA.front 3 z z (TA.last 6 (by kernel_rfl) z z z (updB x1 () z underlying71 z z z z kl66 ?_))))))))))))
 refine TZ.done (by kernel_rfl) (S.n ?_)
 have u53:=grd_c hh
 replace hh:=grd_t hh
 refine TC.draw [8,9,10,11,12] (by kernel_rfl) (TA.a 0 z (moveLoc (.inl z) z) z (TA.a 1 z (moveLoc (.inl z) z) z (TA.a 2 z (nilCheckLoc z z) z (TA.a 3 z (fieldLoc z fo75_6 z) z (TA.a 4 z (fieldLoc z fo25_3 z) z (TA.b 5 z (loadLoc z ag23 z (i:=3) z z) z (TA.b 6 z (loadAll z ag66 sz66 z (i:=2) z z) z (TA.ac 7 z (OpOk.lit (enc:=encArc) [x1] z underlying23 sz66 ze66 z z z encArc_len (by decide) (by decide) Arc.zero z (by decide) z (by decide) encArc_one (fun a133 c134=>(k1 ?_)))))))))))
 refine TA.front 9 z z (TA.last 8 (by kernel_rfl) z z z (appendS z z underlying23 sz66 by66 ze66 z z (by decide) z z z (.inr ⟨_,0,z⟩) (by simpa using u53) (by decide) (fun a136 c137=> ?_)))
 refine TZ.v 9 (by kernel_rfl) z z z (nilCheckLoc z z) z z (TZ.v 10 (by kernel_rfl) z z z (fieldLoc z fo75_6 z) z z (TZ.v 11 (by kernel_rfl) z z z (fieldLoc z fo25_3 z) z z (TZ.front 5 z z (TZ.last 12 (by kernel_rfl) z z z (storeSl z sz23 z z z z z ?_)))))
 refine TZ.done (by kernel_rfl) ?_
 obtain rfl:=so hh
 refine ⟨_,Sub.f [1,9,9,9,9,7,6] 7,?_⟩
 exact RetOk.mk' (rs:=[]) [Res.cells b0_0 #[.int .i64 x0.a.states,.slice a0_1 x0.a.starts.length c0_2,.slice a0_4 x0.a.ends.length c0_5,.slice a0_7 x0.a.arcs.length c0_8,.int .i64 x0.b.states,.slice a0_10 x0.b.starts.length c0_11,.slice a0_13 x0.b.ends.length c0_14,.slice a0_16 x0.b.arcs.length c0_17,.slice a0_19 x0.arcs.length c0_20,.slice a0_22 x0.ends.length c0_23,.map (some b0_25),.map (some b0_26),.map (some b0_27),.int .i64 x0.whole.states,.slice a0_28 x0.whole.starts.length c0_29,.slice a0_30 x0.whole.ends.length c0_31,.slice a136 ((x0.whole.arcs++[x1]).length) c137,.bool x0.over] Eb0,Res.mapB (fun x=>Value.agg (encArc x).toArray) unitV (some b0_25) (x0.seen.put x1 ()),Res.mapB (fun x=>Value.agg (encTip x).toArray) unitV (some b0_26) x0.tips.s,Res.mapB (fun x=>Value.agg (encTip x).toArray) unitV (some b0_27) x0.tips.e,Res.rowS 43 2 encTip (.slice a0_28 x0.whole.starts.length c0_29) x0.whole.starts,Res.rowS 43 2 encTip (.slice a0_30 x0.whole.ends.length c0_31) x0.whole.ends,Res.rowS 66 8 encArc (.slice a136 (x0.whole.arcs++[x1]).length c137) (x0.whole.arcs++[x1])] z (.inr z) RVs.nil (List.sublist_append_left _ _) ⟨b0_25,a136,c137,z,z,z⟩
def comp_chain_starts_b3(v30:(List Tip)×Chain)(x0:Chain)(k144:Nat)(k177:Nat)(m205:FM Tip Unit)(l208:List Tip)(t211:Bool)(k212:Nat):Option (((FM Tip Unit)×(List Tip)×Bool×Nat)⊕(((FM Tip Unit)×(List Tip)×Bool×Nat)⊕(((FM Tip Unit)×(List Tip)×Bool×Nat)⊕(Chain)))):=
 iteO (decide (((k212:Nat):Int)<((v30.1.length:Nat):Int))) (bnd (comp_chain_at (⟨x0.a,x0.b,x0.arcs,x0.ends,x0.seen,(⟨m205,x0.tips.e⟩:TwoM),(⟨x0.whole.states,l208,x0.whole.ends,x0.whole.arcs⟩:Fst),t211⟩:Chain) ((nth x0.a.starts k144 Tip.zero).state) ((nth v30.1 k212 Tip.zero).state)) (fun v48=>grd (((nth x0.b.starts k177 Tip.zero).out).length+((nth v30.1 k212 Tip.zero).out).length≤9223372036854775807) (bnd (comp_chain_tipS (⟨x0.a,x0.b,x0.arcs,x0.ends,x0.seen,(⟨m205,x0.tips.e⟩:TwoM),(⟨x0.whole.states,l208,x0.whole.ends,x0.whole.arcs⟩:Fst),t211⟩:Chain) 0 (⟨v48,((nth x0.b.starts k177 Tip.zero).out++(nth v30.1 k212 Tip.zero).out)⟩:Tip)) (fun v55=>nxt (v55.tips.s,v55.whole.starts,v55.over,(k212+1)))))) (fin (iteO t211 (fin (fin (some (⟨x0.a,x0.b,x0.arcs,x0.ends,x0.seen,(⟨m205,x0.tips.e⟩:TwoM),(⟨x0.whole.states,l208,x0.whole.ends,x0.whole.arcs⟩:Fst),t211⟩:Chain)))) (nxt (m205,l208,t211,(k177+1)))))
def comp_chain_starts_b2(x0:Chain)(k144:Nat)(m170:FM Tip Unit)(l173:List Tip)(t176:Bool)(k177:Nat):Option (((FM Tip Unit)×(List Tip)×Bool×Nat)⊕(((FM Tip Unit)×(List Tip)×Bool×Nat)⊕(Chain))):=
 iteO (decide (((k177:Nat):Int)<((x0.b.starts.length:Nat):Int))) (bnd (comp_chain_ways (⟨x0.a,x0.b,x0.arcs,x0.ends,x0.seen,(⟨m170,x0.tips.e⟩:TwoM),(⟨x0.whole.states,l173,x0.whole.ends,x0.whole.arcs⟩:Fst),t176⟩:Chain) ((nth x0.b.starts k177 Tip.zero).state) ((nth x0.a.starts k144 Tip.zero).out)) (fun v30=>iter (fun q:(FM Tip Unit)×(List Tip)×Bool×Nat=>comp_chain_starts_b3 v30 x0 k144 k177 q.1 q.2.1 q.2.2.1 q.2.2.2) (m170,l173,v30.2.over,0))) (fin (nxt (m170,l173,t176,(k144+1))))
def comp_chain_starts_b1(x0:Chain)(m137:FM Tip Unit)(l140:List Tip)(t143:Bool)(k144:Nat):Option (((FM Tip Unit)×(List Tip)×Bool×Nat)⊕(Chain)):=
 iteO (decide (((k144:Nat):Int)<((x0.a.starts.length:Nat):Int))) (iter (fun q:(FM Tip Unit)×(List Tip)×Bool×Nat=>comp_chain_starts_b2 x0 k144 q.1 q.2.1 q.2.2.1 q.2.2.2) (m137,l140,t143,0)) (fin (some (⟨x0.a,x0.b,x0.arcs,x0.ends,x0.seen,(⟨m137,x0.tips.e⟩:TwoM),(⟨x0.whole.states,l140,x0.whole.ends,x0.whole.arcs⟩:Fst),t143⟩:Chain)))
def comp_chain_starts(x0:Chain):Option (Chain):=
 iter (fun q:(FM Tip Unit)×(List Tip)×Bool×Nat=>comp_chain_starts_b1 x0 q.1 q.2.1 q.2.2.1 q.2.2.2) (x0.tips.s,x0.whole.starts,x0.over,0)
theorem comp_chain_starts_con{x0:Chain}(f0_3:RS σ 2 encTip (.slice a0_1 x0.a.starts.length c0_2) x0.a.starts)(f0_6:RS σ 2 encTip (.slice a0_4 x0.a.ends.length c0_5) x0.a.ends)(f0_9:RS σ 8 encArc (.slice a0_7 x0.a.arcs.length c0_8) x0.a.arcs)(f0_12:RS σ 2 encTip (.slice a0_10 x0.b.starts.length c0_11) x0.b.starts)(f0_15:RS σ 2 encTip (.slice a0_13 x0.b.ends.length c0_14) x0.b.ends)(f0_18:RS σ 8 encArc (.slice a0_16 x0.b.arcs.length c0_17) x0.b.arcs)(f0_21:RZ σ (pkSl 8 encArc encArc_len) (.slice a0_19 x0.arcs.length c0_20) x0.arcs)(f0_24:RZ σ (pkSl 2 encTip encTip_len) (.slice a0_22 x0.ends.length c0_23) x0.ends){r:Chain}(hh:comp_chain_starts x0=some r):
  Con Tryz.prog 23 #[loc b0_0 0] σ [Res.cells b0_0 #[.int .i64 x0.a.states,.slice a0_1 x0.a.starts.length c0_2,.slice a0_4 x0.a.ends.length c0_5,.slice a0_7 x0.a.arcs.length c0_8,.int .i64 x0.b.states,.slice a0_10 x0.b.starts.length c0_11,.slice a0_13 x0.b.ends.length c0_14,.slice a0_16 x0.b.arcs.length c0_17,.slice a0_19 x0.arcs.length c0_20,.slice a0_22 x0.ends.length c0_23,.map (some b0_25),.map (some b0_26),.map (some b0_27),.int .i64 x0.whole.states,.slice a0_28 x0.whole.starts.length c0_29,.slice a0_30 x0.whole.ends.length c0_31,.slice a0_32 x0.whole.arcs.length c0_33,.bool x0.over] Eb0,Res.mapB (fun x=>Value.agg (encArc x).toArray) unitV (some b0_25) x0.seen,Res.mapB (fun x=>Value.agg (encTip x).toArray) unitV (some b0_26) x0.tips.s,Res.mapB (fun x=>Value.agg (encTip x).toArray) unitV (some b0_27) x0.tips.e,Res.rowS 43 2 encTip (.slice a0_28 x0.whole.starts.length c0_29) x0.whole.starts,Res.rowS 43 2 encTip (.slice a0_30 x0.whole.ends.length c0_31) x0.whole.ends,Res.rowS 66 8 encArc (.slice a0_32 x0.whole.arcs.length c0_33) x0.whole.arcs] (fun v σ' H'=> ∃bo1 ao2 co3,v= .tuple #[]∧σ=σ'∧H'=[Res.cells b0_0 #[.int .i64 x0.a.states,.slice a0_1 x0.a.starts.length c0_2,.slice a0_4 x0.a.ends.length c0_5,.slice a0_7 x0.a.arcs.length c0_8,.int .i64 x0.b.states,.slice a0_10 x0.b.starts.length c0_11,.slice a0_13 x0.b.ends.length c0_14,.slice a0_16 x0.b.arcs.length c0_17,.slice a0_19 x0.arcs.length c0_20,.slice a0_22 x0.ends.length c0_23,.map (some b0_25),.map (some bo1),.map (some b0_27),.int .i64 x0.whole.states,.slice ao2 r.whole.starts.length co3,.slice a0_30 x0.whole.ends.length c0_31,.slice a0_32 x0.whole.arcs.length c0_33,.bool r.over] Eb0,Res.mapB (fun x=>Value.agg (encArc x).toArray) unitV (some b0_25) x0.seen,Res.mapB (fun x=>Value.agg (encTip x).toArray) unitV (some bo1) r.tips.s,Res.mapB (fun x=>Value.agg (encTip x).toArray) unitV (some b0_27) x0.tips.e,Res.rowS 43 2 encTip (.slice ao2 r.whole.starts.length co3) r.whole.starts,Res.rowS 43 2 encTip (.slice a0_30 x0.whole.ends.length c0_31) x0.whole.ends,Res.rowS 66 8 encArc (.slice a0_32 x0.whole.arcs.length c0_33) x0.whole.arcs]):=by
 dsimp only [comp_chain_starts]at hh
 have f0_3b:=f0_3.rv.big
 have f0_6b:=f0_6.rv.big
 have f0_9b:=f0_9.rv.big
 have f0_12b:=f0_12.rv.big
 have f0_15b:=f0_15.rv.big
 have f0_18b:=f0_18.rv.big
 have f0_21b:=f0_21.big
 have f0_24b:=f0_24.big
 refine Con.mk (n:=64) Tryz.func23 z z z (fun w0=> ?_)
 refine TC.a (TL.l z z (TL.w z (nilCheckLoc z z) (TL.w z (fieldLoc z fo75_0 z) (TL.w z (fieldLoc z fo25_1 z) (TL.w z (loadLoc z ag22 z (i:=0) z z) (TL.w z (lenC z underlying22 z) (TL.i z z (TL.en (TC.block (TC.loopG (α:=((FM Tip Unit)×(List Tip)×Bool×Nat)×(Nat×(Option Addr)×Nat)) (rgs [(3,1),(5,1),(7,1),(14,50)]) (fun g=>[(14,.int .i64 ((g.1.2.2.2:Nat):Int))]) (fun g=>[Res.cells b0_0 #[.int .i64 x0.a.states,.slice a0_1 x0.a.starts.length c0_2,.slice a0_4 x0.a.ends.length c0_5,.slice a0_7 x0.a.arcs.length c0_8,.int .i64 x0.b.states,.slice a0_10 x0.b.starts.length c0_11,.slice a0_13 x0.b.ends.length c0_14,.slice a0_16 x0.b.arcs.length c0_17,.slice a0_19 x0.arcs.length c0_20,.slice a0_22 x0.ends.length c0_23,.map (some b0_25),.map (some g.2.1),.map (some b0_27),.int .i64 x0.whole.states,.slice g.2.2.1 g.1.2.1.length g.2.2.2,.slice a0_30 x0.whole.ends.length c0_31,.slice a0_32 x0.whole.arcs.length c0_33,.bool g.1.2.2.1] Eb0,Res.mapB (fun x=>Value.agg (encArc x).toArray) unitV (some b0_25) x0.seen,Res.mapB (fun x=>Value.agg (encTip x).toArray) unitV (some g.2.1) g.1.1,Res.mapB (fun x=>Value.agg (encTip x).toArray) unitV (some b0_27) x0.tips.e,Res.rowS 43 2 encTip (.slice g.2.2.1 g.1.2.1.length g.2.2.2) g.1.2.1,Res.rowS 43 2 encTip (.slice a0_30 x0.whole.ends.length c0_31) x0.whole.ends,Res.rowS 66 8 encArc (.slice a0_32 x0.whole.arcs.length c0_33) x0.whole.arcs]) (fun g=>σ) (fun g=>iter (fun q:(FM Tip Unit)×(List Tip)×Bool×Nat=>comp_chain_starts_b1 x0 q.1 q.2.1 q.2.2.1 q.2.2.2) g.1=some r) (fun g=>rounds (fun q:(FM Tip Unit)×(List Tip)×Bool×Nat=>comp_chain_starts_b1 x0 q.1 q.2.1 q.2.2.1 q.2.2.2) g.1) ((x0.tips.s,x0.whole.starts,x0.over,0),(b0_26,a0_28,c0_29)) (Sub.f [6,6,6,6,6,6,6] 7) z (by repeat (first|exact trivial|refine ⟨z,?_⟩)) hh (fun g1 j1 hg1=> ?_)))))))))))
 obtain ⟨⟨m137,l140,t143,k144⟩,⟨b138,a141,c142⟩⟩:=g1
 have hh:=hg1;clear hg1
 try dsimp only
 obtain ⟨z1,hh,hR1⟩:=iter_e hh
 dsimp only [comp_chain_starts_b1]at hh
 refine TC.isSl (i:=4) z (fun _ hb145 _=> ?_)
 refine TC.isSl (i:=5) z (fun _ hb146 _=> ?_)
 refine TC.isSl (i:=6) z (fun _ hb147 _=> ?_)
 refine TC.a (TL.w z (OpVal.lss z z z) (TL.en (TC.seq (TC.cD z hh (fun h148 hh=> ?_) (fun h148 hh=> ?_)))))
 ·refine TC.skip (S.n (TC.seq (TC.block (TC.a (TL.w z (indexN z underlying22 sz43 z z f0_3.rv.sl (by omega)) (TL.w z (loadSA Tip.zero z ag43 sz43 z f0_3 (by omega) (by omega)) (TL.op z (OpOk.alloc z ze43 z z (fun b149=> ?_)))))))))
  refine TL.op z (storeAll z sz43 z z z z z z ?_)
  refine TL.en (TC.a (TL.l z z (TL.w z (nilCheckLoc z z) (TL.w z (fieldLoc z fo75_1 z) (TL.w z (fieldLoc z fo25_1 z) (TL.w z (loadLoc z ag22 z (i:=1) z z) (TL.w z (lenC z underlying22 z) (TL.i z z (TL.en (TC.block (TC.loopG (α:=((FM Tip Unit)×(List Tip)×Bool×Nat)×(Nat×(Option Addr)×Nat)) (rgs [(5,1),(7,1),(24,39)]) (fun g=>[(24,.int .i64 ((g.1.2.2.2:Nat):Int))]) (fun g=>[Res.cells b0_0 #[.int .i64 x0.a.states,.slice a0_1 x0.a.starts.length c0_2,.slice a0_4 x0.a.ends.length c0_5,.slice a0_7 x0.a.arcs.length c0_8,.int .i64 x0.b.states,.slice a0_10 x0.b.starts.length c0_11,.slice a0_13 x0.b.ends.length c0_14,.slice a0_16 x0.b.arcs.length c0_17,.slice a0_19 x0.arcs.length c0_20,.slice a0_22 x0.ends.length c0_23,.map (some b0_25),.map (some g.2.1),.map (some b0_27),.int .i64 x0.whole.states,.slice g.2.2.1 g.1.2.1.length g.2.2.2,.slice a0_30 x0.whole.ends.length c0_31,.slice a0_32 x0.whole.arcs.length c0_33,.bool g.1.2.2.1] Eb0,Res.mapB (fun x=>Value.agg (encArc x).toArray) unitV (some b0_25) x0.seen,Res.mapB (fun x=>Value.agg (encTip x).toArray) unitV (some g.2.1) g.1.1,Res.mapB (fun x=>Value.agg (encTip x).toArray) unitV (some b0_27) x0.tips.e,Res.rowS 43 2 encTip (.slice g.2.2.1 g.1.2.1.length g.2.2.2) g.1.2.1,Res.rowS 43 2 encTip (.slice a0_30 x0.whole.ends.length c0_31) x0.whole.ends,Res.rowS 66 8 encArc (.slice a0_32 x0.whole.arcs.length c0_33) x0.whole.arcs,Res.cells b149 #[.int .i64 ((nth x0.a.starts k144 Tip.zero).state),.string (bs ((nth x0.a.starts k144 Tip.zero).out))] 43]) (fun g=>σ) (fun g=>iter (fun q:(FM Tip Unit)×(List Tip)×Bool×Nat=>comp_chain_starts_b2 x0 k144 q.1 q.2.1 q.2.2.1 q.2.2.2) g.1=some z1) (fun g=>rounds (fun q:(FM Tip Unit)×(List Tip)×Bool×Nat=>comp_chain_starts_b2 x0 k144 q.1 q.2.1 q.2.2.1 q.2.2.2) g.1) ((m137,l140,t143,0),(b138,a141,c142)) (Sub.f [7,7,7,7,7,7,7] 8) z (by repeat (first|exact trivial|refine ⟨z,?_⟩)) hh (fun g2 j2 hg2=> ?_))))))))))))
  obtain ⟨⟨m170,l173,t176,k177⟩,⟨b171,a174,c175⟩⟩:=g2
  have hh:=hg2;clear hg2
  try dsimp only
  obtain ⟨z2,hh,hR2⟩:=iter_e hh
  dsimp only [comp_chain_starts_b2]at hh
  refine TC.isSl (i:=4) z (fun _ hb178 _=> ?_)
  refine TC.isSl (i:=5) z (fun _ hb179 _=> ?_)
  refine TC.isSl (i:=6) z (fun _ hb180 _=> ?_)
  refine TC.a (TL.w z (OpVal.lss z z z) (TL.en (TC.seq (TC.cD z hh (fun h181 hh=> ?_) (fun h181 hh=> ?_)))))
  ·refine TC.skip (S.n (TC.seq (TC.block (TC.a (TL.w z (indexN z underlying22 sz43 z z f0_12.rv.sl (by omega)) (TL.w z (loadSA Tip.zero z ag43 sz43 z f0_12 (by omega) (by omega)) (TL.op z (OpOk.alloc z ze43 z z (fun b182=> ?_)))))))))
   refine TL.op z (storeAll z sz43 z z z z z z ?_)
   refine TL.en (TC.seq (TC.a (TL.l z z (TL.w z (fieldLoc z fo43_0 z) (TL.w z (loadLoc z ag3 z (i:=0) z z) (TL.w z (fieldLoc z fo43_1 z) (TL.w z (loadLoc z ag9 z (i:=8) z z) (TL.front 7 z z (TL.front 7 z z (TL.front 7 z z (TL.front 7 z z (TL.front 7 z z (TL.front 7 z z (TL.front 7 z z ?_))))))))))))))
   obtain ⟨v30,u30,hh⟩:=bnd_e hh
   refine TL.op z (OpOk.call (comp_chain_ways_con (x0:=(⟨x0.a,x0.b,x0.arcs,x0.ends,x0.seen,(⟨m170,x0.tips.e⟩:TwoM),(⟨x0.whole.states,l173,x0.whole.ends,x0.whole.arcs⟩:Fst),t176⟩:Chain)) f0_3 f0_6 f0_9 f0_12 f0_15 f0_18 f0_21 f0_24 u30) z z pf52 z z z z ?_)
   rintro _ _ _ hle184 ⟨a184_1,c184_2,rfl,rfl,rfl⟩
   refine TL.w z (lenC z underlying22 z) (TL.i z z (TL.en (TC.block (TC.loopG (α:=((FM Tip Unit)×(List Tip)×Bool×Nat)×(Nat×(Option Addr)×Nat)) (rgs [(7,1),(35,23)]) (fun g=>[(35,.int .i64 ((g.1.2.2.2:Nat):Int))]) (fun g=>[Res.cells b0_0 #[.int .i64 x0.a.states,.slice a0_1 x0.a.starts.length c0_2,.slice a0_4 x0.a.ends.length c0_5,.slice a0_7 x0.a.arcs.length c0_8,.int .i64 x0.b.states,.slice a0_10 x0.b.starts.length c0_11,.slice a0_13 x0.b.ends.length c0_14,.slice a0_16 x0.b.arcs.length c0_17,.slice a0_19 x0.arcs.length c0_20,.slice a0_22 x0.ends.length c0_23,.map (some b0_25),.map (some g.2.1),.map (some b0_27),.int .i64 x0.whole.states,.slice g.2.2.1 g.1.2.1.length g.2.2.2,.slice a0_30 x0.whole.ends.length c0_31,.slice a0_32 x0.whole.arcs.length c0_33,.bool g.1.2.2.1] Eb0,Res.mapB (fun x=>Value.agg (encArc x).toArray) unitV (some b0_25) x0.seen,Res.mapB (fun x=>Value.agg (encTip x).toArray) unitV (some g.2.1) g.1.1,Res.mapB (fun x=>Value.agg (encTip x).toArray) unitV (some b0_27) x0.tips.e,Res.rowS 43 2 encTip (.slice g.2.2.1 g.1.2.1.length g.2.2.2) g.1.2.1,Res.rowS 43 2 encTip (.slice a0_30 x0.whole.ends.length c0_31) x0.whole.ends,Res.rowS 66 8 encArc (.slice a0_32 x0.whole.arcs.length c0_33) x0.whole.arcs,Res.cells b149 #[.int .i64 ((nth x0.a.starts k144 Tip.zero).state),.string (bs ((nth x0.a.starts k144 Tip.zero).out))] 43,Res.cells b182 #[.int .i64 ((nth x0.b.starts k177 Tip.zero).state),.string (bs ((nth x0.b.starts k177 Tip.zero).out))] 43,Res.rowS 43 2 encTip (.slice a184_1 v30.1.length c184_2) v30.1]) (fun g=>σ) (fun g=>iter (fun q:(FM Tip Unit)×(List Tip)×Bool×Nat=>comp_chain_starts_b3 v30 x0 k144 k177 q.1 q.2.1 q.2.2.1 q.2.2.2) g.1=some z2) (fun g=>rounds (fun q:(FM Tip Unit)×(List Tip)×Bool×Nat=>comp_chain_starts_b3 v30 x0 k144 k177 q.1 q.2.1 q.2.2.1 q.2.2.2) g.1) ((m170,l173,v30.2.over,0),(b171,a174,c175)) (Sub.f [8,9,9,9,9,9,9,9,9] 10) z (by repeat (first|exact trivial|refine ⟨z,?_⟩)) hh (fun g3 j3 hg3=> ?_)))))
   obtain ⟨⟨m205,l208,t211,k212⟩,⟨b206,a209,c210⟩⟩:=g3
   have hh:=hg3;clear hg3
   try dsimp only
   obtain ⟨z3,hh,hR3⟩:=iter_e hh
   dsimp only [comp_chain_starts_b3]at hh
   refine TC.isSl (i:=4) z (fun _ hb213 _=> ?_)
   refine TC.isSl (i:=5) z (fun _ hb214 _=> ?_)
   refine TC.isSl (i:=6) z (fun _ hb215 _=> ?_)
   refine TC.isSl (i:=9) z (fun _ hb216 _=> ?_)
   refine TC.a (TL.w z (OpVal.lss z z z) (TL.en (TC.seq (TC.cD z hh (fun h217 hh=> ?_) (fun h217 hh=> ?_)))))
   ·refine TC.skip (S.n (TC.seq (TC.block (TC.a (TL.isSl (i:=9) z (fun hs218 _ _=> ?_))))))
    refine TL.w z (indexN z underlying22 sz43 z z hs218 (by omega)) (TL.w z (loadOA Tip.zero z ag43 sz43 z (q:=9) z encTip_len (by omega) (by omega)) (TL.op z (OpOk.alloc z ze43 z z (fun b219=> ?_))))
    refine TL.op z (storeAll z sz43 z z z z z z ?_)
    refine TL.en ?_
    obtain ⟨v48,u48,hh⟩:=bnd_e hh
    have u53:=grd_c hh
    replace hh:=grd_t hh
    obtain ⟨v55,u55,hh⟩:=bnd_e hh
    refine TC.drawR (Hr:=[Res.cells b219 #[.int .i64 ((nth v30.1 k212 Tip.zero).state),.string (bs ((nth v30.1 k212 Tip.zero).out))] 43,Res.mapB (fun x=>Value.agg (encArc x).toArray) unitV (some b0_25) x0.seen,Res.mapB (fun x=>Value.agg (encTip x).toArray) unitV (some b0_27) x0.tips.e,Res.rowS 43 2 encTip (.slice a0_30 x0.whole.ends.length c0_31) x0.whole.ends,Res.rowS 66 8 encArc (.slice a0_32 x0.whole.arcs.length c0_33) x0.whole.arcs,Res.cells b149 #[.int .i64 ((nth x0.a.starts k144 Tip.zero).state),.string (bs ((nth x0.a.starts k144 Tip.zero).out))] 43,Res.cells b182 #[.int .i64 ((nth x0.b.starts k177 Tip.zero).state),.string (bs ((nth x0.b.starts k177 Tip.zero).out))] 43,Res.rowS 43 2 encTip (.slice a184_1 v30.1.length c184_2) v30.1]) (fun r hr=>mem_pick [0,2,4,6,7,8,9,10] z hr) [] (by kernel_rfl) (TA.a 0 z (moveLoc (.inl z) z) z (TA.a 1 z (moveLoc (.inl z) z) z (TA.a 2 z (nilCheckLoc z z) z (TA.a 3 z (fieldLoc z fo75_6 z) z (TA.a 4 z (fieldLoc z fo25_1 z) z (TA.a 5 z (moveLoc (.inl z) z) z (TA.a 6 z (fieldLoc z fo43_0 z) z (TA.b 7 z (loadLoc z ag3 z (i:=5) z z) z (TA.a 8 z (fieldLoc z fo43_0 z) z (TA.b 9 z (loadLoc z ag3 z (i:=0) z z) z (TA.a 11 z (fieldLoc z fo43_1 z) z (TA.b 12 z (loadLoc z ag9 z (i:=6) z z) z (TA.a 13 z (fieldLoc z fo43_1 z) z (TA.b 14 z (loadLoc z ag9 z (i:=0) z z) z (TA.a 15 z (catBs z z z u53) z ?_)))))))))))))))
    refine TA.front 7 z z (TA.front 7 z z (TA.front 7 z z (TA.front 7 z z (TA.front 7 z z (TA.front 7 z z (TA.front 7 z z (TA.ac 10 z (OpOk.call (comp_chain_at_con (x0:=(⟨x0.a,x0.b,x0.arcs,x0.ends,x0.seen,(⟨m205,x0.tips.e⟩:TwoM),(⟨x0.whole.states,l208,x0.whole.ends,x0.whole.arcs⟩:Fst),t211⟩:Chain)) f0_3 f0_6 f0_9 f0_12 f0_15 f0_18 f0_21 f0_24 u48) z z pf54 z z z z ?_))))))))
    rintro _ _ _ hle225 ⟨rfl,rfl,rfl⟩
    refine ⟨(fun w h=>sees_of (Store.le.refl _) (fun r hr=>mem_pick [7,1,3,5,6,8,9,10] z hr) w h),?_⟩
    refine TA.a 16 z (buildL z pl43 ze43 z) z (TA.front 6 z z (TA.front 6 z z (TA.front 6 z z (TA.front 6 z z (TA.front 6 z z (TA.front 6 z z (TA.front 6 z z (TA.ac 17 z (OpOk.call (comp_chain_tipS_con (x0:=(⟨x0.a,x0.b,x0.arcs,x0.ends,x0.seen,(⟨m205,x0.tips.e⟩:TwoM),(⟨x0.whole.states,l208,x0.whole.ends,x0.whole.arcs⟩:Fst),t211⟩:Chain)) f0_3 f0_6 f0_9 f0_12 f0_15 f0_18 f0_21 f0_24 u55) z z pf53 z z z z ?_)))))))))
    rintro _ _ _ hle226 ⟨b226_1,a226_2,c226_3,rfl,rfl,rfl⟩
    refine ⟨(fun w h=>sees_of (Store.le.refl _) (fun r hr=>mem_pick [7,1,3,5,6,8,9,10] z hr) w h),?_⟩
    refine TA.dn (B.n (S.n (TC.region (TL.w z (OpVal.succ z z z (by omega)) (TL.i z z (TL.en ?_))))))
    obtain ⟨hh,hlt229⟩:=nxt_x hR3 hh
    exact lf ((v55.tips.s,v55.whole.starts,v55.over,(k212+1)),(b226_1,a226_2,c226_3)) hlt229 hh (Sub.f [10,10,10,9,9,9,9,9,9,9] 10)
   refine TC.exit (S.x (S.x ?_))
   replace hh:=fin_x hR3 hh
   refine TC.exitHere (S.n (TC.a (TL.l z z (TL.w z (nilCheckLoc z z) (TL.w z (fieldLoc z fo75_7 z) (TL.w z (loadLoc z ag4 z (i:=0) z z) (TL.en (TC.cB z hh (fun h230 hh=> ?_) (fun h230 hh=> ?_)))))))))
   ·refine TC.ofSub (Sub.f [6,6,6,6,6,6,6] 7) (TC.ret (B.r (S.r (S.r ?_))))
    replace hh:=fin_x hR2 hh
    refine B.r (B.r (S.r (S.r ?_)))
    replace hh:=fin_x hR1 hh
    refine B.r ?_
    obtain rfl:=so hh
    exact ro [Res.cells b0_0 #[.int .i64 x0.a.states,.slice a0_1 x0.a.starts.length c0_2,.slice a0_4 x0.a.ends.length c0_5,.slice a0_7 x0.a.arcs.length c0_8,.int .i64 x0.b.states,.slice a0_10 x0.b.starts.length c0_11,.slice a0_13 x0.b.ends.length c0_14,.slice a0_16 x0.b.arcs.length c0_17,.slice a0_19 x0.arcs.length c0_20,.slice a0_22 x0.ends.length c0_23,.map (some b0_25),.map (some b206),.map (some b0_27),.int .i64 x0.whole.states,.slice a209 l208.length c210,.slice a0_30 x0.whole.ends.length c0_31,.slice a0_32 x0.whole.arcs.length c0_33,.bool t211] Eb0,Res.mapB (fun x=>Value.agg (encArc x).toArray) unitV (some b0_25) x0.seen,Res.mapB (fun x=>Value.agg (encTip x).toArray) unitV (some b206) m205,Res.mapB (fun x=>Value.agg (encTip x).toArray) unitV (some b0_27) x0.tips.e,Res.rowS 43 2 encTip (.slice a209 l208.length c210) l208,Res.rowS 43 2 encTip (.slice a0_30 x0.whole.ends.length c0_31) x0.whole.ends,Res.rowS 66 8 encArc (.slice a0_32 x0.whole.arcs.length c0_33) x0.whole.arcs] z RVs.nil ⟨b206,a209,c210,z,z,z⟩
   refine TC.skip (B.n (S.n (TC.region (TL.w z (OpVal.succ z z z (by omega)) (TL.i z z (TL.en ?_))))))
   obtain ⟨hh,hlt231⟩:=nxt_x hR2 hh
   exact lf ((m205,l208,t211,(k177+1)),(b206,a209,c210)) hlt231 hh (Sub.f [7,7,7,7,7,7,7,7] 8)
  refine TC.exit (S.x (S.x ?_))
  replace hh:=fin_x hR2 hh
  refine TC.exitHere (B.n (S.n (TC.region (TL.w z (OpVal.succ z z z (by omega)) (TL.i z z (TL.en ?_))))))
  obtain ⟨hh,hlt232⟩:=nxt_x hR1 hh
  exact lf ((m170,l173,t176,(k144+1)),(b171,a174,c175)) hlt232 hh (Sub.f [6,6,6,6,6,6,6] 7)
 refine TC.exit (S.x (S.x ?_))
 replace hh:=fin_x hR1 hh
 refine TC.exitHere ?_
 obtain rfl:=so hh
 exact RetOk.mk' (rs:=[]) [Res.cells b0_0 #[.int .i64 x0.a.states,.slice a0_1 x0.a.starts.length c0_2,.slice a0_4 x0.a.ends.length c0_5,.slice a0_7 x0.a.arcs.length c0_8,.int .i64 x0.b.states,.slice a0_10 x0.b.starts.length c0_11,.slice a0_13 x0.b.ends.length c0_14,.slice a0_16 x0.b.arcs.length c0_17,.slice a0_19 x0.arcs.length c0_20,.slice a0_22 x0.ends.length c0_23,.map (some b0_25),.map (some b138),.map (some b0_27),.int .i64 x0.whole.states,.slice a141 l140.length c142,.slice a0_30 x0.whole.ends.length c0_31,.slice a0_32 x0.whole.arcs.length c0_33,.bool t143] Eb0,Res.mapB (fun x=>Value.agg (encArc x).toArray) unitV (some b0_25) x0.seen,Res.mapB (fun x=>Value.agg (encTip x).toArray) unitV (some b138) m137,Res.mapB (fun x=>Value.agg (encTip x).toArray) unitV (some b0_27) x0.tips.e,Res.rowS 43 2 encTip (.slice a141 l140.length c142) l140,Res.rowS 43 2 encTip (.slice a0_30 x0.whole.ends.length c0_31) x0.whole.ends,Res.rowS 66 8 encArc (.slice a0_32 x0.whole.arcs.length c0_33) x0.whole.arcs] z (.inr z) RVs.nil (List.sublist_append_left _ _) ⟨b138,a141,c142,z,z,z⟩
def comp_chain_stops_b4(x0:Chain)(v26:(List Tip)×Chain)(k210:Nat)(k144:Nat)(k177:Nat)(m240:FM Tip Unit)(l243:List Tip)(t246:Bool)(k247:Nat):Option (((FM Tip Unit)×(List Tip)×Bool×Nat)⊕(((FM Tip Unit)×(List Tip)×Bool×Nat)⊕(((FM Tip Unit)×(List Tip)×Bool×Nat)⊕(((FM Tip Unit)×(List Tip)×Bool×Nat)⊕(Chain))))):=
 iteO (decide (((k247:Nat):Int)<(((nth x0.ends (((nth v26.1 k210 Tip.zero).state).toNat) ([]:List Tip)).length:Nat):Int))) (bnd (comp_chain_at (⟨x0.a,x0.b,x0.arcs,x0.ends,x0.seen,(⟨x0.tips.s,m240⟩:TwoM),(⟨x0.whole.states,x0.whole.starts,l243,x0.whole.arcs⟩:Fst),t246⟩:Chain) ((nth x0.a.ends k144 Tip.zero).state) ((k177:Nat):Int)) (fun v58=>grd (((nth v26.1 k210 Tip.zero).out).length+((nth (nth x0.ends (((nth v26.1 k210 Tip.zero).state).toNat) ([]:List Tip)) k247 Tip.zero).out).length≤9223372036854775807) (bnd (comp_chain_tipE (⟨x0.a,x0.b,x0.arcs,x0.ends,x0.seen,(⟨x0.tips.s,m240⟩:TwoM),(⟨x0.whole.states,x0.whole.starts,l243,x0.whole.arcs⟩:Fst),t246⟩:Chain) 1 (⟨v58,((nth v26.1 k210 Tip.zero).out++(nth (nth x0.ends (((nth v26.1 k210 Tip.zero).state).toNat) ([]:List Tip)) k247 Tip.zero).out)⟩:Tip)) (fun v65=>nxt (v65.tips.e,v65.whole.ends,v65.over,(k247+1)))))) (fin (nxt (m240,l243,t246,(k210+1))))
def comp_chain_stops_b3(v26:(List Tip)×Chain)(x0:Chain)(k144:Nat)(k177:Nat)(m203:FM Tip Unit)(l206:List Tip)(t209:Bool)(k210:Nat):Option (((FM Tip Unit)×(List Tip)×Bool×Nat)⊕(((FM Tip Unit)×(List Tip)×Bool×Nat)⊕(((FM Tip Unit)×(List Tip)×Bool×Nat)⊕(Chain)))):=
 iteO (decide (((k210:Nat):Int)<((v26.1.length:Nat):Int))) (grd (0≤((nth v26.1 k210 Tip.zero).state)∧((nth v26.1 k210 Tip.zero).state)<(x0.ends.length:Int)) (iter (fun q:(FM Tip Unit)×(List Tip)×Bool×Nat=>comp_chain_stops_b4 x0 v26 k210 k144 k177 q.1 q.2.1 q.2.2.1 q.2.2.2) (m203,l206,t209,0))) (fin (iteO t209 (fin (fin (some (⟨x0.a,x0.b,x0.arcs,x0.ends,x0.seen,(⟨x0.tips.s,m203⟩:TwoM),(⟨x0.whole.states,x0.whole.starts,l206,x0.whole.arcs⟩:Fst),t209⟩:Chain)))) (grd (k177+1≤9223372036854775807) (nxt (m203,l206,t209,(k177+1))))))
def comp_chain_stops_b2(x0:Chain)(k144:Nat)(m170:FM Tip Unit)(l173:List Tip)(t176:Bool)(k177:Nat):Option (((FM Tip Unit)×(List Tip)×Bool×Nat)⊕(((FM Tip Unit)×(List Tip)×Bool×Nat)⊕(Chain))):=
 iteO (decide (((k177:Nat):Int)<x0.b.states)) (bnd (comp_chain_ways (⟨x0.a,x0.b,x0.arcs,x0.ends,x0.seen,(⟨x0.tips.s,m170⟩:TwoM),(⟨x0.whole.states,x0.whole.starts,l173,x0.whole.arcs⟩:Fst),t176⟩:Chain) ((k177:Nat):Int) ((nth x0.a.ends k144 Tip.zero).out)) (fun v26=>iter (fun q:(FM Tip Unit)×(List Tip)×Bool×Nat=>comp_chain_stops_b3 v26 x0 k144 k177 q.1 q.2.1 q.2.2.1 q.2.2.2) (m170,l173,v26.2.over,0))) (fin (nxt (m170,l173,t176,(k144+1))))
def comp_chain_stops_b1(x0:Chain)(m137:FM Tip Unit)(l140:List Tip)(t143:Bool)(k144:Nat):Option (((FM Tip Unit)×(List Tip)×Bool×Nat)⊕(Chain)):=
 iteO (decide (((k144:Nat):Int)<((x0.a.ends.length:Nat):Int))) (iter (fun q:(FM Tip Unit)×(List Tip)×Bool×Nat=>comp_chain_stops_b2 x0 k144 q.1 q.2.1 q.2.2.1 q.2.2.2) (m137,l140,t143,0)) (fin (some (⟨x0.a,x0.b,x0.arcs,x0.ends,x0.seen,(⟨x0.tips.s,m137⟩:TwoM),(⟨x0.whole.states,x0.whole.starts,l140,x0.whole.arcs⟩:Fst),t143⟩:Chain)))
def comp_chain_stops(x0:Chain):Option (Chain):=
 iter (fun q:(FM Tip Unit)×(List Tip)×Bool×Nat=>comp_chain_stops_b1 x0 q.1 q.2.1 q.2.2.1 q.2.2.2) (x0.tips.e,x0.whole.ends,x0.over,0)
theorem comp_chain_stops_con{x0:Chain}(f0_3:RS σ 2 encTip (.slice a0_1 x0.a.starts.length c0_2) x0.a.starts)(f0_6:RS σ 2 encTip (.slice a0_4 x0.a.ends.length c0_5) x0.a.ends)(f0_9:RS σ 8 encArc (.slice a0_7 x0.a.arcs.length c0_8) x0.a.arcs)(f0_12:RS σ 2 encTip (.slice a0_10 x0.b.starts.length c0_11) x0.b.starts)(f0_15:RS σ 2 encTip (.slice a0_13 x0.b.ends.length c0_14) x0.b.ends)(f0_18:RS σ 8 encArc (.slice a0_16 x0.b.arcs.length c0_17) x0.b.arcs)(f0_21:RZ σ (pkSl 8 encArc encArc_len) (.slice a0_19 x0.arcs.length c0_20) x0.arcs)(f0_24:RZ σ (pkSl 2 encTip encTip_len) (.slice a0_22 x0.ends.length c0_23) x0.ends){r:Chain}(hh:comp_chain_stops x0=some r):
  Con Tryz.prog 24 #[loc b0_0 0] σ [Res.cells b0_0 #[.int .i64 x0.a.states,.slice a0_1 x0.a.starts.length c0_2,.slice a0_4 x0.a.ends.length c0_5,.slice a0_7 x0.a.arcs.length c0_8,.int .i64 x0.b.states,.slice a0_10 x0.b.starts.length c0_11,.slice a0_13 x0.b.ends.length c0_14,.slice a0_16 x0.b.arcs.length c0_17,.slice a0_19 x0.arcs.length c0_20,.slice a0_22 x0.ends.length c0_23,.map (some b0_25),.map (some b0_26),.map (some b0_27),.int .i64 x0.whole.states,.slice a0_28 x0.whole.starts.length c0_29,.slice a0_30 x0.whole.ends.length c0_31,.slice a0_32 x0.whole.arcs.length c0_33,.bool x0.over] Eb0,Res.mapB (fun x=>Value.agg (encArc x).toArray) unitV (some b0_25) x0.seen,Res.mapB (fun x=>Value.agg (encTip x).toArray) unitV (some b0_26) x0.tips.s,Res.mapB (fun x=>Value.agg (encTip x).toArray) unitV (some b0_27) x0.tips.e,Res.rowS 43 2 encTip (.slice a0_28 x0.whole.starts.length c0_29) x0.whole.starts,Res.rowS 43 2 encTip (.slice a0_30 x0.whole.ends.length c0_31) x0.whole.ends,Res.rowS 66 8 encArc (.slice a0_32 x0.whole.arcs.length c0_33) x0.whole.arcs] (fun v σ' H'=> ∃bo1 ao2 co3,v= .tuple #[]∧σ=σ'∧H'=[Res.cells b0_0 #[.int .i64 x0.a.states,.slice a0_1 x0.a.starts.length c0_2,.slice a0_4 x0.a.ends.length c0_5,.slice a0_7 x0.a.arcs.length c0_8,.int .i64 x0.b.states,.slice a0_10 x0.b.starts.length c0_11,.slice a0_13 x0.b.ends.length c0_14,.slice a0_16 x0.b.arcs.length c0_17,.slice a0_19 x0.arcs.length c0_20,.slice a0_22 x0.ends.length c0_23,.map (some b0_25),.map (some b0_26),.map (some bo1),.int .i64 x0.whole.states,.slice a0_28 x0.whole.starts.length c0_29,.slice ao2 r.whole.ends.length co3,.slice a0_32 x0.whole.arcs.length c0_33,.bool r.over] Eb0,Res.mapB (fun x=>Value.agg (encArc x).toArray) unitV (some b0_25) x0.seen,Res.mapB (fun x=>Value.agg (encTip x).toArray) unitV (some b0_26) x0.tips.s,Res.mapB (fun x=>Value.agg (encTip x).toArray) unitV (some bo1) r.tips.e,Res.rowS 43 2 encTip (.slice a0_28 x0.whole.starts.length c0_29) x0.whole.starts,Res.rowS 43 2 encTip (.slice ao2 r.whole.ends.length co3) r.whole.ends,Res.rowS 66 8 encArc (.slice a0_32 x0.whole.arcs.length c0_33) x0.whole.arcs]):=by
 dsimp only [comp_chain_stops]at hh
 have f0_3b:=f0_3.rv.big
 have f0_6b:=f0_6.rv.big
 have f0_9b:=f0_9.rv.big
 have f0_12b:=f0_12.rv.big
 have f0_15b:=f0_15.rv.big
 have f0_18b:=f0_18.rv.big
 have f0_21b:=f0_21.big
 have f0_24b:=f0_24.big
 refine Con.mk (n:=75) Tryz.func24 z z z (fun w0=> ?_)
 refine TC.a (TL.l z z (TL.w z (nilCheckLoc z z) (TL.w z (fieldLoc z fo75_0 z) (TL.w z (fieldLoc z fo25_2 z) (TL.w z (loadLoc z ag22 z (i:=0) z z) (TL.w z (lenC z underlying22 z) (TL.i z z (TL.en (TC.block (TC.loopG (α:=((FM Tip Unit)×(List Tip)×Bool×Nat)×(Nat×(Option Addr)×Nat)) (rgs [(3,2),(6,1),(8,1),(15,60)]) (fun g=>[(15,.int .i64 ((g.1.2.2.2:Nat):Int))]) (fun g=>[Res.cells b0_0 #[.int .i64 x0.a.states,.slice a0_1 x0.a.starts.length c0_2,.slice a0_4 x0.a.ends.length c0_5,.slice a0_7 x0.a.arcs.length c0_8,.int .i64 x0.b.states,.slice a0_10 x0.b.starts.length c0_11,.slice a0_13 x0.b.ends.length c0_14,.slice a0_16 x0.b.arcs.length c0_17,.slice a0_19 x0.arcs.length c0_20,.slice a0_22 x0.ends.length c0_23,.map (some b0_25),.map (some b0_26),.map (some g.2.1),.int .i64 x0.whole.states,.slice a0_28 x0.whole.starts.length c0_29,.slice g.2.2.1 g.1.2.1.length g.2.2.2,.slice a0_32 x0.whole.arcs.length c0_33,.bool g.1.2.2.1] Eb0,Res.mapB (fun x=>Value.agg (encArc x).toArray) unitV (some b0_25) x0.seen,Res.mapB (fun x=>Value.agg (encTip x).toArray) unitV (some b0_26) x0.tips.s,Res.mapB (fun x=>Value.agg (encTip x).toArray) unitV (some g.2.1) g.1.1,Res.rowS 43 2 encTip (.slice a0_28 x0.whole.starts.length c0_29) x0.whole.starts,Res.rowS 43 2 encTip (.slice g.2.2.1 g.1.2.1.length g.2.2.2) g.1.2.1,Res.rowS 66 8 encArc (.slice a0_32 x0.whole.arcs.length c0_33) x0.whole.arcs]) (fun g=>σ) (fun g=>iter (fun q:(FM Tip Unit)×(List Tip)×Bool×Nat=>comp_chain_stops_b1 x0 q.1 q.2.1 q.2.2.1 q.2.2.2) g.1=some r) (fun g=>rounds (fun q:(FM Tip Unit)×(List Tip)×Bool×Nat=>comp_chain_stops_b1 x0 q.1 q.2.1 q.2.2.1 q.2.2.2) g.1) ((x0.tips.e,x0.whole.ends,x0.over,0),(b0_27,a0_30,c0_31)) (Sub.f [6,6,6,6,6,6,6] 7) z (by repeat (first|exact trivial|refine ⟨z,?_⟩)) hh (fun g1 j1 hg1=> ?_)))))))))))
 obtain ⟨⟨m137,l140,t143,k144⟩,⟨b138,a141,c142⟩⟩:=g1
 have hh:=hg1;clear hg1
 try dsimp only
 obtain ⟨z1,hh,hR1⟩:=iter_e hh
 dsimp only [comp_chain_stops_b1]at hh
 refine TC.isSl (i:=4) z (fun _ hb145 _=> ?_)
 refine TC.isSl (i:=5) z (fun _ hb146 _=> ?_)
 refine TC.isSl (i:=6) z (fun _ hb147 _=> ?_)
 refine TC.a (TL.w z (OpVal.lss z z z) (TL.en (TC.seq (TC.cD z hh (fun h148 hh=> ?_) (fun h148 hh=> ?_)))))
 ·refine TC.skip (S.n (TC.seq (TC.block (TC.a (TL.w z (indexN z underlying22 sz43 z z f0_6.rv.sl (by omega)) (TL.w z (loadSA Tip.zero z ag43 sz43 z f0_6 (by omega) (by omega)) (TL.op z (OpOk.alloc z ze43 z z (fun b149=> ?_)))))))))
  refine TL.op z (storeAll z sz43 z z z z z z ?_)
  refine TL.en (TC.a (TL.l z z (TL.w z (nilCheckLoc z z) (TL.w z (fieldLoc z fo75_1 z) (TL.w z (fieldLoc z fo25_0 z) (TL.w z (loadLoc z ag3 z (i:=1) z z) (TL.i z z (TL.en (TC.block (TC.loopG (α:=((FM Tip Unit)×(List Tip)×Bool×Nat)×(Nat×(Option Addr)×Nat)) (rgs [(4,1),(6,1),(8,1),(24,50)]) (fun g=>[(24,.int .i64 ((g.1.2.2.2:Nat):Int))]) (fun g=>[Res.cells b0_0 #[.int .i64 x0.a.states,.slice a0_1 x0.a.starts.length c0_2,.slice a0_4 x0.a.ends.length c0_5,.slice a0_7 x0.a.arcs.length c0_8,.int .i64 x0.b.states,.slice a0_10 x0.b.starts.length c0_11,.slice a0_13 x0.b.ends.length c0_14,.slice a0_16 x0.b.arcs.length c0_17,.slice a0_19 x0.arcs.length c0_20,.slice a0_22 x0.ends.length c0_23,.map (some b0_25),.map (some b0_26),.map (some g.2.1),.int .i64 x0.whole.states,.slice a0_28 x0.whole.starts.length c0_29,.slice g.2.2.1 g.1.2.1.length g.2.2.2,.slice a0_32 x0.whole.arcs.length c0_33,.bool g.1.2.2.1] Eb0,Res.mapB (fun x=>Value.agg (encArc x).toArray) unitV (some b0_25) x0.seen,Res.mapB (fun x=>Value.agg (encTip x).toArray) unitV (some b0_26) x0.tips.s,Res.mapB (fun x=>Value.agg (encTip x).toArray) unitV (some g.2.1) g.1.1,Res.rowS 43 2 encTip (.slice a0_28 x0.whole.starts.length c0_29) x0.whole.starts,Res.rowS 43 2 encTip (.slice g.2.2.1 g.1.2.1.length g.2.2.2) g.1.2.1,Res.rowS 66 8 encArc (.slice a0_32 x0.whole.arcs.length c0_33) x0.whole.arcs,Res.cells b149 #[.int .i64 ((nth x0.a.ends k144 Tip.zero).state),.string (bs ((nth x0.a.ends k144 Tip.zero).out))] 43]) (fun g=>σ) (fun g=>iter (fun q:(FM Tip Unit)×(List Tip)×Bool×Nat=>comp_chain_stops_b2 x0 k144 q.1 q.2.1 q.2.2.1 q.2.2.2) g.1=some z1) (fun g=>rounds (fun q:(FM Tip Unit)×(List Tip)×Bool×Nat=>comp_chain_stops_b2 x0 k144 q.1 q.2.1 q.2.2.1 q.2.2.2) g.1) ((m137,l140,t143,0),(b138,a141,c142)) (Sub.f [7,7,7,7,7,7,7] 8) z (by repeat (first|exact trivial|refine ⟨z,?_⟩)) hh (fun g2 j2 hg2=> ?_)))))))))))
  obtain ⟨⟨m170,l173,t176,k177⟩,⟨b171,a174,c175⟩⟩:=g2
  have hh:=hg2;clear hg2
  try dsimp only
  obtain ⟨z2,hh,hR2⟩:=iter_e hh
  dsimp only [comp_chain_stops_b2]at hh
  refine TC.isSl (i:=4) z (fun _ hb178 _=> ?_)
  refine TC.isSl (i:=5) z (fun _ hb179 _=> ?_)
  refine TC.isSl (i:=6) z (fun _ hb180 _=> ?_)
  refine TC.a (TL.w z (OpVal.lss z z z) (TL.en (TC.seq (TC.cD z hh (fun h181 hh=> ?_) (fun h181 hh=> ?_)))))
  ·refine TC.skip (S.n (TC.seq (TC.block (TC.a (TL.i z z (TL.i z z (TL.en (TC.seq (TC.a (TL.l z z (TL.i z z (TL.w z (fieldLoc z fo43_1 z) (TL.w z (loadLoc z ag9 z (i:=7) z z) (TL.front 6 z z (TL.front 6 z z ?_)))))))))))))))
   refine TL.front 6 z z (TL.front 6 z z (TL.front 6 z z (TL.front 6 z z (TL.front 6 z z ?_))))
   obtain ⟨v26,u26,hh⟩:=bnd_e hh
   refine TL.op z (OpOk.call (comp_chain_ways_con (x0:=(⟨x0.a,x0.b,x0.arcs,x0.ends,x0.seen,(⟨x0.tips.s,m170⟩:TwoM),(⟨x0.whole.states,x0.whole.starts,l173,x0.whole.arcs⟩:Fst),t176⟩:Chain)) f0_3 f0_6 f0_9 f0_12 f0_15 f0_18 f0_21 f0_24 u26) z z pf52 z z z z ?_)
   rintro _ _ _ hle182 ⟨a182_1,c182_2,rfl,rfl,rfl⟩
   refine TL.w z (lenC z underlying22 z) (TL.i z z (TL.en (TC.block (TC.loopG (α:=((FM Tip Unit)×(List Tip)×Bool×Nat)×(Nat×(Option Addr)×Nat)) (rgs [(6,1),(8,1),(33,36)]) (fun g=>[(33,.int .i64 ((g.1.2.2.2:Nat):Int))]) (fun g=>[Res.cells b0_0 #[.int .i64 x0.a.states,.slice a0_1 x0.a.starts.length c0_2,.slice a0_4 x0.a.ends.length c0_5,.slice a0_7 x0.a.arcs.length c0_8,.int .i64 x0.b.states,.slice a0_10 x0.b.starts.length c0_11,.slice a0_13 x0.b.ends.length c0_14,.slice a0_16 x0.b.arcs.length c0_17,.slice a0_19 x0.arcs.length c0_20,.slice a0_22 x0.ends.length c0_23,.map (some b0_25),.map (some b0_26),.map (some g.2.1),.int .i64 x0.whole.states,.slice a0_28 x0.whole.starts.length c0_29,.slice g.2.2.1 g.1.2.1.length g.2.2.2,.slice a0_32 x0.whole.arcs.length c0_33,.bool g.1.2.2.1] Eb0,Res.mapB (fun x=>Value.agg (encArc x).toArray) unitV (some b0_25) x0.seen,Res.mapB (fun x=>Value.agg (encTip x).toArray) unitV (some b0_26) x0.tips.s,Res.mapB (fun x=>Value.agg (encTip x).toArray) unitV (some g.2.1) g.1.1,Res.rowS 43 2 encTip (.slice a0_28 x0.whole.starts.length c0_29) x0.whole.starts,Res.rowS 43 2 encTip (.slice g.2.2.1 g.1.2.1.length g.2.2.2) g.1.2.1,Res.rowS 66 8 encArc (.slice a0_32 x0.whole.arcs.length c0_33) x0.whole.arcs,Res.cells b149 #[.int .i64 ((nth x0.a.ends k144 Tip.zero).state),.string (bs ((nth x0.a.ends k144 Tip.zero).out))] 43,Res.rowS 43 2 encTip (.slice a182_1 v26.1.length c182_2) v26.1]) (fun g=>σ) (fun g=>iter (fun q:(FM Tip Unit)×(List Tip)×Bool×Nat=>comp_chain_stops_b3 v26 x0 k144 k177 q.1 q.2.1 q.2.2.1 q.2.2.2) g.1=some z2) (fun g=>rounds (fun q:(FM Tip Unit)×(List Tip)×Bool×Nat=>comp_chain_stops_b3 v26 x0 k144 k177 q.1 q.2.1 q.2.2.1 q.2.2.2) g.1) ((m170,l173,v26.2.over,0),(b171,a174,c175)) (Sub.f [8,8,8,8,8,8,8,8] 9) z (by repeat (first|exact trivial|refine ⟨z,?_⟩)) hh (fun g3 j3 hg3=> ?_)))))
   obtain ⟨⟨m203,l206,t209,k210⟩,⟨b204,a207,c208⟩⟩:=g3
   have hh:=hg3;clear hg3
   try dsimp only
   obtain ⟨z3,hh,hR3⟩:=iter_e hh
   dsimp only [comp_chain_stops_b3]at hh
   refine TC.isSl (i:=4) z (fun _ hb211 _=> ?_)
   refine TC.isSl (i:=5) z (fun _ hb212 _=> ?_)
   refine TC.isSl (i:=6) z (fun _ hb213 _=> ?_)
   refine TC.isSl (i:=8) z (fun _ hb214 _=> ?_)
   refine TC.a (TL.w z (OpVal.lss z z z) (TL.en (TC.seq (TC.cD z hh (fun h215 hh=> ?_) (fun h215 hh=> ?_)))))
   ·refine TC.skip (S.n (TC.seq (TC.block (TC.a (TL.isSl (i:=8) z (fun hs216 _ _=> ?_))))))
    refine TL.w z (indexN z underlying22 sz43 z z hs216 (by omega)) (TL.w z (loadOA Tip.zero z ag43 sz43 z (q:=8) z encTip_len (by omega) (by omega)) (TL.op z (OpOk.alloc z ze43 z z (fun b217=> ?_))))
    refine TL.op z (storeAll z sz43 z z z z z z ?_)
    refine TL.en (TC.seq ?_)
    have u40:=grd_c hh
    replace hh:=grd_t hh
    refine TC.draw [] (by kernel_rfl) (TA.a 0 z (moveLoc (.inl z) z) z (TA.a 1 z (nilCheckLoc z z) z (TA.a 2 z (fieldLoc z fo75_3 z) z (TA.b 3 z (loadLoc z ag70 z (i:=1) z z) z (TA.a 4 z (fieldLoc z fo43_0 z) z (TA.b 5 z (loadLoc z ag3 z (i:=0) z z) z (TA.b 6 z (OpVal.index z underlying70 sz22 z z f0_24.isSl u40.1 u40.2) z ?_)))))))
    obtain ⟨p220,hk220,hg220⟩:=RZ.seg f0_24 (((nth v26.1 k210 Tip.zero).state).toNat) (by omega)
    replace hk220:RS _ 2 encTip (.slice p220.1 (nth x0.ends (((nth v26.1 k210 Tip.zero).state).toNat) ([]:List Tip)).length p220.2) (nth x0.ends (((nth v26.1 k210 Tip.zero).state).toNat) ([]:List Tip)):=hk220
    have hk220b:=hk220.rv.big
    refine TA.b 7 z (OpVal.of (loadSeg0 z ag22 z hg220 z) (v':= .slice p220.1 ((nth x0.ends (((nth v26.1 k210 Tip.zero).state).toNat) ([]:List Tip)).length) p220.2) z) z (TA.b 8 z (lenC z underlying22 z) z (TA.a 9 z (moveI (.inl z) z) z (TA.dn (S.n (TC.block (TC.loopG (α:=((FM Tip Unit)×(List Tip)×Bool×Nat)×(Nat×(Option Addr)×Nat)) (rgs [(8,1),(46,22)]) (fun g=>[(46,.int .i64 ((g.1.2.2.2:Nat):Int))]) (fun g=>[Res.cells b0_0 #[.int .i64 x0.a.states,.slice a0_1 x0.a.starts.length c0_2,.slice a0_4 x0.a.ends.length c0_5,.slice a0_7 x0.a.arcs.length c0_8,.int .i64 x0.b.states,.slice a0_10 x0.b.starts.length c0_11,.slice a0_13 x0.b.ends.length c0_14,.slice a0_16 x0.b.arcs.length c0_17,.slice a0_19 x0.arcs.length c0_20,.slice a0_22 x0.ends.length c0_23,.map (some b0_25),.map (some b0_26),.map (some g.2.1),.int .i64 x0.whole.states,.slice a0_28 x0.whole.starts.length c0_29,.slice g.2.2.1 g.1.2.1.length g.2.2.2,.slice a0_32 x0.whole.arcs.length c0_33,.bool g.1.2.2.1] Eb0,Res.mapB (fun x=>Value.agg (encArc x).toArray) unitV (some b0_25) x0.seen,Res.mapB (fun x=>Value.agg (encTip x).toArray) unitV (some b0_26) x0.tips.s,Res.mapB (fun x=>Value.agg (encTip x).toArray) unitV (some g.2.1) g.1.1,Res.rowS 43 2 encTip (.slice a0_28 x0.whole.starts.length c0_29) x0.whole.starts,Res.rowS 43 2 encTip (.slice g.2.2.1 g.1.2.1.length g.2.2.2) g.1.2.1,Res.rowS 66 8 encArc (.slice a0_32 x0.whole.arcs.length c0_33) x0.whole.arcs,Res.cells b149 #[.int .i64 ((nth x0.a.ends k144 Tip.zero).state),.string (bs ((nth x0.a.ends k144 Tip.zero).out))] 43,Res.cells b217 #[.int .i64 ((nth v26.1 k210 Tip.zero).state),.string (bs ((nth v26.1 k210 Tip.zero).out))] 43,Res.rowS 43 2 encTip (.slice a182_1 v26.1.length c182_2) v26.1]) (fun g=>σ) (fun g=>iter (fun q:(FM Tip Unit)×(List Tip)×Bool×Nat=>comp_chain_stops_b4 x0 v26 k210 k144 k177 q.1 q.2.1 q.2.2.1 q.2.2.2) g.1=some z3) (fun g=>rounds (fun q:(FM Tip Unit)×(List Tip)×Bool×Nat=>comp_chain_stops_b4 x0 v26 k210 k144 k177 q.1 q.2.1 q.2.2.1 q.2.2.2) g.1) ((m203,l206,t209,0),(b204,a207,c208)) (Sub.f [9,1,9,9,9,9,9,9,9,9] 10) z (by repeat (first|exact trivial|refine ⟨z,?_⟩)) hh (fun g4 j4 hg4=> ?_)))))))
    obtain ⟨⟨m240,l243,t246,k247⟩,⟨b241,a244,c245⟩⟩:=g4
    have hh:=hg4;clear hg4
    try dsimp only
    obtain ⟨z4,hh,hR4⟩:=iter_e hh
    dsimp only [comp_chain_stops_b4]at hh
    refine TC.isSl (i:=4) z (fun _ hb248 _=> ?_)
    refine TC.isSl (i:=5) z (fun _ hb249 _=> ?_)
    refine TC.isSl (i:=6) z (fun _ hb250 _=> ?_)
    refine TC.isSl (i:=9) z (fun _ hb251 _=> ?_)
    refine TC.a (TL.w z (OpVal.lss z z z) (TL.en (TC.seq (TC.cD z hh (fun h252 hh=> ?_) (fun h252 hh=> ?_)))))
    ·refine TC.skip (S.n (TC.seq (TC.block (TC.a (TL.w z (indexN z underlying22 sz43 z z hk220.rv.sl (by omega)) (TL.w z (loadSA Tip.zero z ag43 sz43 z hk220 (by omega) (by omega)) (TL.op z (OpOk.alloc z ze43 z z (fun b253=> ?_)))))))))
     refine TL.op z (storeAll z sz43 z z z z z z ?_)
     refine TL.en ?_
     obtain ⟨v58,u58,hh⟩:=bnd_e hh
     have u63:=grd_c hh
     replace hh:=grd_t hh
     obtain ⟨v65,u65,hh⟩:=bnd_e hh
     refine TC.drawR (Hr:=[Res.cells b253 #[.int .i64 ((nth (nth x0.ends (((nth v26.1 k210 Tip.zero).state).toNat) ([]:List Tip)) k247 Tip.zero).state),.string (bs ((nth (nth x0.ends (((nth v26.1 k210 Tip.zero).state).toNat) ([]:List Tip)) k247 Tip.zero).out))] 43,Res.mapB (fun x=>Value.agg (encArc x).toArray) unitV (some b0_25) x0.seen,Res.mapB (fun x=>Value.agg (encTip x).toArray) unitV (some b0_26) x0.tips.s,Res.rowS 43 2 encTip (.slice a0_28 x0.whole.starts.length c0_29) x0.whole.starts,Res.rowS 66 8 encArc (.slice a0_32 x0.whole.arcs.length c0_33) x0.whole.arcs,Res.cells b149 #[.int .i64 ((nth x0.a.ends k144 Tip.zero).state),.string (bs ((nth x0.a.ends k144 Tip.zero).out))] 43,Res.cells b217 #[.int .i64 ((nth v26.1 k210 Tip.zero).state),.string (bs ((nth v26.1 k210 Tip.zero).out))] 43,Res.rowS 43 2 encTip (.slice a182_1 v26.1.length c182_2) v26.1]) (fun r hr=>mem_pick [0,2,3,5,7,8,9,10] z hr) [] (by kernel_rfl) (TA.a 0 z (moveLoc (.inl z) z) z (TA.a 1 z (moveLoc (.inl z) z) z (TA.a 2 z (nilCheckLoc z z) z (TA.a 3 z (fieldLoc z fo75_6 z) z (TA.a 4 z (fieldLoc z fo25_2 z) z (TA.a 5 z (moveLoc (.inl z) z) z (TA.a 6 z (fieldLoc z fo43_0 z) z (TA.b 7 z (loadLoc z ag3 z (i:=5) z z) z (TA.a 8 z (moveI (.inl z) z) z (TA.a 10 z (fieldLoc z fo43_1 z) z (TA.b 11 z (loadLoc z ag9 z (i:=6) z z) z (TA.a 12 z (fieldLoc z fo43_1 z) z (TA.b 13 z (loadLoc z ag9 z (i:=0) z z) z (TA.a 14 z (catBs z z z u63) z (TA.front 7 z z ?_)))))))))))))))
     refine TA.front 7 z z (TA.front 7 z z (TA.front 7 z z (TA.front 7 z z (TA.front 7 z z (TA.front 7 z z (TA.ac 9 z (OpOk.call (comp_chain_at_con (x0:=(⟨x0.a,x0.b,x0.arcs,x0.ends,x0.seen,(⟨x0.tips.s,m240⟩:TwoM),(⟨x0.whole.states,x0.whole.starts,l243,x0.whole.arcs⟩:Fst),t246⟩:Chain)) f0_3 f0_6 f0_9 f0_12 f0_15 f0_18 f0_21 f0_24 u58) z z pf54 z z z z ?_)))))))
     rintro _ _ _ hle259 ⟨rfl,rfl,rfl⟩
     refine ⟨(fun w h=>sees_of (Store.le.refl _) (fun r hr=>mem_pick [7,1,2,4,6,8,9,10] z hr) w h),?_⟩
     refine TA.a 15 z (buildL z pl43 ze43 z) z (TA.front 6 z z (TA.front 6 z z (TA.front 6 z z (TA.front 6 z z (TA.front 6 z z (TA.front 6 z z (TA.front 6 z z (TA.ac 16 z (OpOk.call (comp_chain_tipE_con (x0:=(⟨x0.a,x0.b,x0.arcs,x0.ends,x0.seen,(⟨x0.tips.s,m240⟩:TwoM),(⟨x0.whole.states,x0.whole.starts,l243,x0.whole.arcs⟩:Fst),t246⟩:Chain)) f0_3 f0_6 f0_9 f0_12 f0_15 f0_18 f0_21 f0_24 u65) z z pf53 z z z z ?_)))))))))
     rintro _ _ _ hle260 ⟨b260_1,a260_2,c260_3,rfl,rfl,rfl⟩
     refine ⟨(fun w h=>sees_of (Store.le.refl _) (fun r hr=>mem_pick [7,1,2,4,6,8,9,10] z hr) w h),?_⟩
     refine TA.dn (B.n (S.n (TC.region (TL.w z (OpVal.succ z z z (by omega)) (TL.i z z (TL.en ?_))))))
     obtain ⟨hh,hlt263⟩:=nxt_x hR4 hh
     exact lf ((v65.tips.e,v65.whole.ends,v65.over,(k247+1)),(b260_1,a260_2,c260_3)) hlt263 hh (Sub.f [10,10,10,9,9,9,9,9,9,9] 10)
    refine TC.exit (S.x (S.x ?_))
    replace hh:=fin_x hR4 hh
    refine TC.exitHere (B.n (S.n (TC.region (TL.w z (OpVal.succ z z z (by omega)) (TL.i z z (TL.en ?_))))))
    obtain ⟨hh,hlt264⟩:=nxt_x hR3 hh
    exact lf ((m240,l243,t246,(k210+1)),(b241,a244,c245)) hlt264 hh (Sub.f [9,8,8,8,8,8,8,8,8] 9)
   refine TC.exit (S.x (S.x ?_))
   replace hh:=fin_x hR3 hh
   refine TC.exitHere (S.n (TC.a (TL.l z z (TL.w z (nilCheckLoc z z) (TL.w z (fieldLoc z fo75_7 z) (TL.w z (loadLoc z ag4 z (i:=0) z z) (TL.en (TC.cB z hh (fun h265 hh=> ?_) (fun h265 hh=> ?_)))))))))
   ·refine TC.ofSub (Sub.f [6,6,6,6,6,6,6] 7) (TC.ret (B.r (S.r (S.r ?_))))
    replace hh:=fin_x hR2 hh
    refine B.r (B.r (S.r (S.r ?_)))
    replace hh:=fin_x hR1 hh
    refine B.r ?_
    obtain rfl:=so hh
    exact ro [Res.cells b0_0 #[.int .i64 x0.a.states,.slice a0_1 x0.a.starts.length c0_2,.slice a0_4 x0.a.ends.length c0_5,.slice a0_7 x0.a.arcs.length c0_8,.int .i64 x0.b.states,.slice a0_10 x0.b.starts.length c0_11,.slice a0_13 x0.b.ends.length c0_14,.slice a0_16 x0.b.arcs.length c0_17,.slice a0_19 x0.arcs.length c0_20,.slice a0_22 x0.ends.length c0_23,.map (some b0_25),.map (some b0_26),.map (some b204),.int .i64 x0.whole.states,.slice a0_28 x0.whole.starts.length c0_29,.slice a207 l206.length c208,.slice a0_32 x0.whole.arcs.length c0_33,.bool t209] Eb0,Res.mapB (fun x=>Value.agg (encArc x).toArray) unitV (some b0_25) x0.seen,Res.mapB (fun x=>Value.agg (encTip x).toArray) unitV (some b0_26) x0.tips.s,Res.mapB (fun x=>Value.agg (encTip x).toArray) unitV (some b204) m203,Res.rowS 43 2 encTip (.slice a0_28 x0.whole.starts.length c0_29) x0.whole.starts,Res.rowS 43 2 encTip (.slice a207 l206.length c208) l206,Res.rowS 66 8 encArc (.slice a0_32 x0.whole.arcs.length c0_33) x0.whole.arcs] z RVs.nil ⟨b204,a207,c208,z,z,z⟩
   refine TC.skip (B.n (S.n (TC.region ?_)))
   have u74:=grd_c hh
   replace hh:=grd_t hh
   refine TL.w z (OpVal.succ z z z (by omega)) (TL.i z z (TL.en ?_))
   obtain ⟨hh,hlt266⟩:=nxt_x hR2 hh
   exact lf ((m203,l206,t209,(k177+1)),(b204,a207,c208)) hlt266 hh (Sub.f [7,7,7,7,7,7,7,7] 8)
  refine TC.exit (S.x (S.x ?_))
  replace hh:=fin_x hR2 hh
  refine TC.exitHere (B.n (S.n (TC.region (TL.w z (OpVal.succ z z z (by omega)) (TL.i z z (TL.en ?_))))))
  obtain ⟨hh,hlt267⟩:=nxt_x hR1 hh
  exact lf ((m170,l173,t176,(k144+1)),(b171,a174,c175)) hlt267 hh (Sub.f [6,6,6,6,6,6,6] 7)
 refine TC.exit (S.x (S.x ?_))
 replace hh:=fin_x hR1 hh
 refine TC.exitHere ?_
 obtain rfl:=so hh
 exact RetOk.mk' (rs:=[]) [Res.cells b0_0 #[.int .i64 x0.a.states,.slice a0_1 x0.a.starts.length c0_2,.slice a0_4 x0.a.ends.length c0_5,.slice a0_7 x0.a.arcs.length c0_8,.int .i64 x0.b.states,.slice a0_10 x0.b.starts.length c0_11,.slice a0_13 x0.b.ends.length c0_14,.slice a0_16 x0.b.arcs.length c0_17,.slice a0_19 x0.arcs.length c0_20,.slice a0_22 x0.ends.length c0_23,.map (some b0_25),.map (some b0_26),.map (some b138),.int .i64 x0.whole.states,.slice a0_28 x0.whole.starts.length c0_29,.slice a141 l140.length c142,.slice a0_32 x0.whole.arcs.length c0_33,.bool t143] Eb0,Res.mapB (fun x=>Value.agg (encArc x).toArray) unitV (some b0_25) x0.seen,Res.mapB (fun x=>Value.agg (encTip x).toArray) unitV (some b0_26) x0.tips.s,Res.mapB (fun x=>Value.agg (encTip x).toArray) unitV (some b138) m137,Res.rowS 43 2 encTip (.slice a0_28 x0.whole.starts.length c0_29) x0.whole.starts,Res.rowS 43 2 encTip (.slice a141 l140.length c142) l140,Res.rowS 66 8 encArc (.slice a0_32 x0.whole.arcs.length c0_33) x0.whole.arcs] z (.inr z) RVs.nil (List.sublist_append_left _ _) ⟨b138,a141,c142,z,z,z⟩
def comp_chain_steps_j2(k265:Nat)(m272:FM Arc Unit)(l275:List Arc)(t278:Bool):Option (((FM Arc Unit)×(List Arc)×Bool×Nat)⊕(((FM Arc Unit)×(List Arc)×Bool×Nat)⊕(((FM Arc Unit)×(List Arc)×Bool×Nat)⊕(((FM Arc Unit)×(List Arc)×Bool×Nat)⊕(Chain))))):=
 nxt (m272,l275,t278,(k265+1))
def comp_chain_steps_j1(k211:Nat)(m218:FM Arc Unit)(l221:List Arc)(t224:Bool):Option (((FM Arc Unit)×(List Arc)×Bool×Nat)⊕(((FM Arc Unit)×(List Arc)×Bool×Nat)⊕(((FM Arc Unit)×(List Arc)×Bool×Nat)⊕(Chain)))):=
 nxt (m218,l221,t224,(k211+1))
def comp_chain_steps_b4(x0:Chain)(v32:(List Tip)×Chain)(k211:Nat)(k144:Nat)(v26:Int)(m258:FM Arc Unit)(l261:List Arc)(t264:Bool)(k265:Nat):Option (((FM Arc Unit)×(List Arc)×Bool×Nat)⊕(((FM Arc Unit)×(List Arc)×Bool×Nat)⊕(((FM Arc Unit)×(List Arc)×Bool×Nat)⊕(((FM Arc Unit)×(List Arc)×Bool×Nat)⊕(Chain))))):=
 iteO (decide (((k265:Nat):Int)<(((nth x0.arcs (((nth v32.1 k211 Tip.zero).state).toNat) ([]:List Arc)).length:Nat):Int))) (bnd (C6_ ((nth x0.a.arcs k144 Arc.zero).set) ((nth (nth x0.arcs (((nth v32.1 k211 Tip.zero).state).toNat) ([]:List Arc)) k265 Arc.zero).set)) (fun v76=>iteO (decide (v76≠BSet.zero)) (bnd (comp_chain_at (⟨x0.a,x0.b,x0.arcs,x0.ends,m258,x0.tips,(⟨x0.whole.states,x0.whole.starts,x0.whole.ends,l261⟩:Fst),t264⟩:Chain) ((nth x0.a.arcs k144 Arc.zero).to) ((nth (nth x0.arcs (((nth v32.1 k211 Tip.zero).state).toNat) ([]:List Arc)) k265 Arc.zero).to)) (fun v89=>grd (((nth v32.1 k211 Tip.zero).out).length+((nth (nth x0.arcs (((nth v32.1 k211 Tip.zero).state).toNat) ([]:List Arc)) k265 Arc.zero).out).length≤9223372036854775807) (bnd (comp_chain_arc (⟨x0.a,x0.b,x0.arcs,x0.ends,m258,x0.tips,(⟨x0.whole.states,x0.whole.starts,x0.whole.ends,l261⟩:Fst),t264⟩:Chain) (⟨v26,v89,v76,((nth v32.1 k211 Tip.zero).out++(nth (nth x0.arcs (((nth v32.1 k211 Tip.zero).state).toNat) ([]:List Arc)) k265 Arc.zero).out),(nth (nth x0.arcs (((nth v32.1 k211 Tip.zero).state).toNat) ([]:List Arc)) k265 Arc.zero).copy⟩:Arc)) (fun v99=>comp_chain_steps_j2 k265 v99.seen v99.whole.arcs v99.over)))) (comp_chain_steps_j2 k265 m258 l261 t264))) (fin (comp_chain_steps_j1 k211 m258 l261 t264))
def comp_chain_steps_b3(v32:(List Tip)×Chain)(x0:Chain)(k144:Nat)(v26:Int)(k177:Nat)(m204:FM Arc Unit)(l207:List Arc)(t210:Bool)(k211:Nat):Option (((FM Arc Unit)×(List Arc)×Bool×Nat)⊕(((FM Arc Unit)×(List Arc)×Bool×Nat)⊕(((FM Arc Unit)×(List Arc)×Bool×Nat)⊕(Chain)))):=
 iteO (decide (((k211:Nat):Int)<((v32.1.length:Nat):Int))) (iteO (!((nth x0.a.arcs k144 Arc.zero).copy)) (bnd (comp_chain_at (⟨x0.a,x0.b,x0.arcs,x0.ends,m204,x0.tips,(⟨x0.whole.states,x0.whole.starts,x0.whole.ends,l207⟩:Fst),t210⟩:Chain) ((nth x0.a.arcs k144 Arc.zero).to) ((nth v32.1 k211 Tip.zero).state)) (fun v50=>bnd (comp_chain_arc (⟨x0.a,x0.b,x0.arcs,x0.ends,m204,x0.tips,(⟨x0.whole.states,x0.whole.starts,x0.whole.ends,l207⟩:Fst),t210⟩:Chain) (⟨v26,v50,(nth x0.a.arcs k144 Arc.zero).set,(nth v32.1 k211 Tip.zero).out,false⟩:Arc)) (fun v56=>comp_chain_steps_j1 k211 v56.seen v56.whole.arcs v56.over))) (grd (0≤((nth v32.1 k211 Tip.zero).state)∧((nth v32.1 k211 Tip.zero).state)<(x0.arcs.length:Int)) (iter (fun q:(FM Arc Unit)×(List Arc)×Bool×Nat=>comp_chain_steps_b4 x0 v32 k211 k144 v26 q.1 q.2.1 q.2.2.1 q.2.2.2) (m204,l207,t210,0)))) (fin (iteO t210 (fin (fin (some (⟨x0.a,x0.b,x0.arcs,x0.ends,m204,x0.tips,(⟨x0.whole.states,x0.whole.starts,x0.whole.ends,l207⟩:Fst),t210⟩:Chain)))) (grd (k177+1≤9223372036854775807) (nxt (m204,l207,t210,(k177+1))))))
def comp_chain_steps_b2(x0:Chain)(k144:Nat)(m170:FM Arc Unit)(l173:List Arc)(t176:Bool)(k177:Nat):Option (((FM Arc Unit)×(List Arc)×Bool×Nat)⊕(((FM Arc Unit)×(List Arc)×Bool×Nat)⊕(Chain))):=
 iteO (decide (((k177:Nat):Int)<x0.b.states)) (bnd (comp_chain_at (⟨x0.a,x0.b,x0.arcs,x0.ends,m170,x0.tips,(⟨x0.whole.states,x0.whole.starts,x0.whole.ends,l173⟩:Fst),t176⟩:Chain) ((nth x0.a.arcs k144 Arc.zero).frm) ((k177:Nat):Int)) (fun v26=>bnd (comp_chain_ways (⟨x0.a,x0.b,x0.arcs,x0.ends,m170,x0.tips,(⟨x0.whole.states,x0.whole.starts,x0.whole.ends,l173⟩:Fst),t176⟩:Chain) ((k177:Nat):Int) ((nth x0.a.arcs k144 Arc.zero).out)) (fun v32=>iter (fun q:(FM Arc Unit)×(List Arc)×Bool×Nat=>comp_chain_steps_b3 v32 x0 k144 v26 k177 q.1 q.2.1 q.2.2.1 q.2.2.2) (m170,l173,v32.2.over,0)))) (fin (nxt (m170,l173,t176,(k144+1))))
def comp_chain_steps_b1(x0:Chain)(m137:FM Arc Unit)(l140:List Arc)(t143:Bool)(k144:Nat):Option (((FM Arc Unit)×(List Arc)×Bool×Nat)⊕(Chain)):=
 iteO (decide (((k144:Nat):Int)<((x0.a.arcs.length:Nat):Int))) (iter (fun q:(FM Arc Unit)×(List Arc)×Bool×Nat=>comp_chain_steps_b2 x0 k144 q.1 q.2.1 q.2.2.1 q.2.2.2) (m137,l140,t143,0)) (fin (some (⟨x0.a,x0.b,x0.arcs,x0.ends,m137,x0.tips,(⟨x0.whole.states,x0.whole.starts,x0.whole.ends,l140⟩:Fst),t143⟩:Chain)))
def comp_chain_steps(x0:Chain):Option (Chain):=
 iter (fun q:(FM Arc Unit)×(List Arc)×Bool×Nat=>comp_chain_steps_b1 x0 q.1 q.2.1 q.2.2.1 q.2.2.2) (x0.seen,x0.whole.arcs,x0.over,0)
theorem comp_chain_steps_con {σ : Store} {x0 : Chain} {b0_0 : Nat} {Eb0 : Nat} {a0_1 : Option Addr} {c0_2 : Nat} {a0_4 : Option Addr} {c0_5 : Nat} {a0_7 : Option Addr} {c0_8 : Nat} {a0_10 : Option Addr} {c0_11 : Nat} {a0_13 : Option Addr} {c0_14 : Nat} {a0_16 : Option Addr} {c0_17 : Nat} {a0_19 : Option Addr} {c0_20 : Nat} {a0_22 : Option Addr} {c0_23 : Nat} {b0_25 : Nat} {b0_26 : Nat} {b0_27 : Nat} {a0_28 : Option Addr} {c0_29 : Nat} {a0_30 : Option Addr} {c0_31 : Nat} {a0_32 : Option Addr} {c0_33 : Nat} (f0_3 : RS σ 2 encTip (.slice a0_1 x0.a.starts.length c0_2) x0.a.starts) (f0_6 : RS σ 2 encTip (.slice a0_4 x0.a.ends.length c0_5) x0.a.ends) (f0_9 : RS σ 8 encArc (.slice a0_7 x0.a.arcs.length c0_8) x0.a.arcs) (f0_12 : RS σ 2 encTip (.slice a0_10 x0.b.starts.length c0_11) x0.b.starts) (f0_15 : RS σ 2 encTip (.slice a0_13 x0.b.ends.length c0_14) x0.b.ends) (f0_18 : RS σ 8 encArc (.slice a0_16 x0.b.arcs.length c0_17) x0.b.arcs) (f0_21 : RZ σ (pkSl 8 encArc encArc_len) (.slice a0_19 x0.arcs.length c0_20) x0.arcs) (f0_24 : RZ σ (pkSl 2 encTip encTip_len) (.slice a0_22 x0.ends.length c0_23) x0.ends) {r : Chain} (hh : comp_chain_steps x0 = some r) :
  Con Tryz.prog 25 #[loc b0_0 0] σ [Res.cells b0_0 #[.int .i64 x0.a.states,.slice a0_1 x0.a.starts.length c0_2,.slice a0_4 x0.a.ends.length c0_5,.slice a0_7 x0.a.arcs.length c0_8,.int .i64 x0.b.states,.slice a0_10 x0.b.starts.length c0_11,.slice a0_13 x0.b.ends.length c0_14,.slice a0_16 x0.b.arcs.length c0_17,.slice a0_19 x0.arcs.length c0_20,.slice a0_22 x0.ends.length c0_23,.map (some b0_25),.map (some b0_26),.map (some b0_27),.int .i64 x0.whole.states,.slice a0_28 x0.whole.starts.length c0_29,.slice a0_30 x0.whole.ends.length c0_31,.slice a0_32 x0.whole.arcs.length c0_33,.bool x0.over] Eb0,Res.mapB (fun x=>Value.agg (encArc x).toArray) unitV (some b0_25) x0.seen,Res.mapB (fun x=>Value.agg (encTip x).toArray) unitV (some b0_26) x0.tips.s,Res.mapB (fun x=>Value.agg (encTip x).toArray) unitV (some b0_27) x0.tips.e,Res.rowS 43 2 encTip (.slice a0_28 x0.whole.starts.length c0_29) x0.whole.starts,Res.rowS 43 2 encTip (.slice a0_30 x0.whole.ends.length c0_31) x0.whole.ends,Res.rowS 66 8 encArc (.slice a0_32 x0.whole.arcs.length c0_33) x0.whole.arcs] (fun v σ' H'=> ∃bo1 ao2 co3,v= .tuple #[]∧σ=σ'∧H'=[Res.cells b0_0 #[.int .i64 x0.a.states,.slice a0_1 x0.a.starts.length c0_2,.slice a0_4 x0.a.ends.length c0_5,.slice a0_7 x0.a.arcs.length c0_8,.int .i64 x0.b.states,.slice a0_10 x0.b.starts.length c0_11,.slice a0_13 x0.b.ends.length c0_14,.slice a0_16 x0.b.arcs.length c0_17,.slice a0_19 x0.arcs.length c0_20,.slice a0_22 x0.ends.length c0_23,.map (some bo1),.map (some b0_26),.map (some b0_27),.int .i64 x0.whole.states,.slice a0_28 x0.whole.starts.length c0_29,.slice a0_30 x0.whole.ends.length c0_31,.slice ao2 r.whole.arcs.length co3,.bool r.over] Eb0,Res.mapB (fun x=>Value.agg (encArc x).toArray) unitV (some bo1) r.seen,Res.mapB (fun x=>Value.agg (encTip x).toArray) unitV (some b0_26) x0.tips.s,Res.mapB (fun x=>Value.agg (encTip x).toArray) unitV (some b0_27) x0.tips.e,Res.rowS 43 2 encTip (.slice a0_28 x0.whole.starts.length c0_29) x0.whole.starts,Res.rowS 43 2 encTip (.slice a0_30 x0.whole.ends.length c0_31) x0.whole.ends,Res.rowS 66 8 encArc (.slice ao2 r.whole.arcs.length co3) r.whole.arcs]):=by
 dsimp only [comp_chain_steps]at hh
 have f0_3b:=f0_3.rv.big
 have f0_6b:=f0_6.rv.big
 have f0_9b:=f0_9.rv.big
 have f0_12b:=f0_12.rv.big
 have f0_15b:=f0_15.rv.big
 have f0_18b:=f0_18.rv.big
 have f0_21b:=f0_21.big
 have f0_24b:=f0_24.big
 refine Con.mk (n:=108) Tryz.func25 z z z (fun w0=> ?_)
 refine TC.a (TL.l z z (TL.w z (nilCheckLoc z z) (TL.w z (fieldLoc z fo75_0 z) (TL.w z (fieldLoc z fo25_3 z) (TL.w z (loadLoc z ag23 z (i:=0) z z) (TL.w z (lenC z underlying23 z) (TL.i z z (TL.en (TC.block (TC.loopG (α:=((FM Arc Unit)×(List Arc)×Bool×Nat)×(Nat×(Option Addr)×Nat)) (rgs [(3,3),(7,1),(9,2),(17,91)]) (fun g=>[(17,.int .i64 ((g.1.2.2.2:Nat):Int))]) (fun g=>[Res.cells b0_0 #[.int .i64 x0.a.states,.slice a0_1 x0.a.starts.length c0_2,.slice a0_4 x0.a.ends.length c0_5,.slice a0_7 x0.a.arcs.length c0_8,.int .i64 x0.b.states,.slice a0_10 x0.b.starts.length c0_11,.slice a0_13 x0.b.ends.length c0_14,.slice a0_16 x0.b.arcs.length c0_17,.slice a0_19 x0.arcs.length c0_20,.slice a0_22 x0.ends.length c0_23,.map (some g.2.1),.map (some b0_26),.map (some b0_27),.int .i64 x0.whole.states,.slice a0_28 x0.whole.starts.length c0_29,.slice a0_30 x0.whole.ends.length c0_31,.slice g.2.2.1 g.1.2.1.length g.2.2.2,.bool g.1.2.2.1] Eb0,Res.mapB (fun x=>Value.agg (encArc x).toArray) unitV (some g.2.1) g.1.1,Res.mapB (fun x=>Value.agg (encTip x).toArray) unitV (some b0_26) x0.tips.s,Res.mapB (fun x=>Value.agg (encTip x).toArray) unitV (some b0_27) x0.tips.e,Res.rowS 43 2 encTip (.slice a0_28 x0.whole.starts.length c0_29) x0.whole.starts,Res.rowS 43 2 encTip (.slice a0_30 x0.whole.ends.length c0_31) x0.whole.ends,Res.rowS 66 8 encArc (.slice g.2.2.1 g.1.2.1.length g.2.2.2) g.1.2.1]) (fun g=>σ) (fun g=>iter (fun q:(FM Arc Unit)×(List Arc)×Bool×Nat=>comp_chain_steps_b1 x0 q.1 q.2.1 q.2.2.1 q.2.2.2) g.1=some r) (fun g=>rounds (fun q:(FM Arc Unit)×(List Arc)×Bool×Nat=>comp_chain_steps_b1 x0 q.1 q.2.1 q.2.2.1 q.2.2.2) g.1) ((x0.seen,x0.whole.arcs,x0.over,0),(b0_25,a0_32,c0_33)) (Sub.f [6,6,6,6,6,6,6] 7) z (by repeat (first|exact trivial|refine ⟨z,?_⟩)) hh (fun g1 j1 hg1=> ?_)))))))))))
 obtain ⟨⟨m137,l140,t143,k144⟩,⟨b138,a141,c142⟩⟩:=g1
 have hh:=hg1;clear hg1
 try dsimp only
 obtain ⟨z1,hh,hR1⟩:=iter_e hh
 dsimp only [comp_chain_steps_b1]at hh
 refine TC.isSl (i:=4) z (fun _ hb145 _=> ?_)
 refine TC.isSl (i:=5) z (fun _ hb146 _=> ?_)
 refine TC.isSl (i:=6) z (fun _ hb147 _=> ?_)
 refine TC.a (TL.w z (OpVal.lss z z z) (TL.en (TC.seq (TC.cD z hh (fun h148 hh=> ?_) (fun h148 hh=> ?_)))))
 ·refine TC.skip (S.n (TC.seq (TC.block (TC.a (TL.w z (indexN z underlying23 sz66 z z f0_9.rv.sl (by omega)) (TL.w z (loadSA Arc.zero z ag66 sz66 z f0_9 (by omega) (by omega)) (TL.op z (OpOk.alloc z ze66 z z (fun b149=> ?_)))))))))
  refine TL.op z (storeAll z sz66 z z z z z z ?_)
  refine TL.en (TC.a (TL.l z z (TL.w z (nilCheckLoc z z) (TL.w z (fieldLoc z fo75_1 z) (TL.w z (fieldLoc z fo25_0 z) (TL.w z (loadLoc z ag3 z (i:=1) z z) (TL.i z z (TL.en (TC.block (TC.loopG (α:=((FM Arc Unit)×(List Arc)×Bool×Nat)×(Nat×(Option Addr)×Nat)) (rgs [(4,2),(7,1),(9,2),(26,81)]) (fun g=>[(26,.int .i64 ((g.1.2.2.2:Nat):Int))]) (fun g=>[Res.cells b0_0 #[.int .i64 x0.a.states,.slice a0_1 x0.a.starts.length c0_2,.slice a0_4 x0.a.ends.length c0_5,.slice a0_7 x0.a.arcs.length c0_8,.int .i64 x0.b.states,.slice a0_10 x0.b.starts.length c0_11,.slice a0_13 x0.b.ends.length c0_14,.slice a0_16 x0.b.arcs.length c0_17,.slice a0_19 x0.arcs.length c0_20,.slice a0_22 x0.ends.length c0_23,.map (some g.2.1),.map (some b0_26),.map (some b0_27),.int .i64 x0.whole.states,.slice a0_28 x0.whole.starts.length c0_29,.slice a0_30 x0.whole.ends.length c0_31,.slice g.2.2.1 g.1.2.1.length g.2.2.2,.bool g.1.2.2.1] Eb0,Res.mapB (fun x=>Value.agg (encArc x).toArray) unitV (some g.2.1) g.1.1,Res.mapB (fun x=>Value.agg (encTip x).toArray) unitV (some b0_26) x0.tips.s,Res.mapB (fun x=>Value.agg (encTip x).toArray) unitV (some b0_27) x0.tips.e,Res.rowS 43 2 encTip (.slice a0_28 x0.whole.starts.length c0_29) x0.whole.starts,Res.rowS 43 2 encTip (.slice a0_30 x0.whole.ends.length c0_31) x0.whole.ends,Res.rowS 66 8 encArc (.slice g.2.2.1 g.1.2.1.length g.2.2.2) g.1.2.1,Res.cells b149 #[.int .i64 ((nth x0.a.arcs k144 Arc.zero).frm),.int .i64 ((nth x0.a.arcs k144 Arc.zero).to),.int .u64 ((((nth x0.a.arcs k144 Arc.zero).set).a:Nat):Int),.int .u64 ((((nth x0.a.arcs k144 Arc.zero).set).b:Nat):Int),.int .u64 ((((nth x0.a.arcs k144 Arc.zero).set).c:Nat):Int),.int .u64 ((((nth x0.a.arcs k144 Arc.zero).set).d:Nat):Int),.string (bs ((nth x0.a.arcs k144 Arc.zero).out)),.bool ((nth x0.a.arcs k144 Arc.zero).copy)] 66]) (fun g=>σ) (fun g=>iter (fun q:(FM Arc Unit)×(List Arc)×Bool×Nat=>comp_chain_steps_b2 x0 k144 q.1 q.2.1 q.2.2.1 q.2.2.2) g.1=some z1) (fun g=>rounds (fun q:(FM Arc Unit)×(List Arc)×Bool×Nat=>comp_chain_steps_b2 x0 k144 q.1 q.2.1 q.2.2.1 q.2.2.2) g.1) ((m137,l140,t143,0),(b138,a141,c142)) (Sub.f [7,7,7,7,7,7,7] 8) z (by repeat (first|exact trivial|refine ⟨z,?_⟩)) hh (fun g2 j2 hg2=> ?_)))))))))))
  obtain ⟨⟨m170,l173,t176,k177⟩,⟨b171,a174,c175⟩⟩:=g2
  have hh:=hg2;clear hg2
  try dsimp only
  obtain ⟨z2,hh,hR2⟩:=iter_e hh
  dsimp only [comp_chain_steps_b2]at hh
  refine TC.isSl (i:=4) z (fun _ hb178 _=> ?_)
  refine TC.isSl (i:=5) z (fun _ hb179 _=> ?_)
  refine TC.isSl (i:=6) z (fun _ hb180 _=> ?_)
  refine TC.a (TL.w z (OpVal.lss z z z) (TL.en (TC.seq (TC.cD z hh (fun h181 hh=> ?_) (fun h181 hh=> ?_)))))
  ·refine TC.skip (S.n (TC.seq (TC.block (TC.a (TL.i z z (TL.i z z (TL.en (TC.a (TL.l z z (TL.w z (fieldLoc z fo66_0 z) (TL.w z (loadLoc z ag3 z (i:=7) z z) (TL.i z z (TL.front 6 z z (TL.front 6 z z (TL.front 6 z z ?_)))))))))))))))
   refine TL.front 6 z z (TL.front 6 z z (TL.front 6 z z (TL.front 6 z z ?_)))
   obtain ⟨v26,u26,hh⟩:=bnd_e hh
   refine TL.op z (OpOk.call (comp_chain_at_con (x0:=(⟨x0.a,x0.b,x0.arcs,x0.ends,m170,x0.tips,(⟨x0.whole.states,x0.whole.starts,x0.whole.ends,l173⟩:Fst),t176⟩:Chain)) f0_3 f0_6 f0_9 f0_12 f0_15 f0_18 f0_21 f0_24 u26) z z pf54 z z z z ?_)
   rintro _ _ _ hle182 ⟨rfl,rfl,rfl⟩
   refine TL.i z z (TL.en (TC.seq (TC.a (TL.l z z (TL.i z z (TL.w z (fieldLoc z fo66_3 z) (TL.w z (loadLoc z ag9 z (i:=7) z z) (TL.front 6 z z (TL.front 6 z z (TL.front 6 z z (TL.front 6 z z (TL.front 6 z z (TL.front 6 z z (TL.front 6 z z ?_))))))))))))))
   obtain ⟨v32,u32,hh⟩:=bnd_e hh
   refine TL.op z (OpOk.call (comp_chain_ways_con (x0:=(⟨x0.a,x0.b,x0.arcs,x0.ends,m170,x0.tips,(⟨x0.whole.states,x0.whole.starts,x0.whole.ends,l173⟩:Fst),t176⟩:Chain)) f0_3 f0_6 f0_9 f0_12 f0_15 f0_18 f0_21 f0_24 u32) z z pf52 z z z z ?_)
   rintro _ _ _ hle183 ⟨a183_1,c183_2,rfl,rfl,rfl⟩
   refine TL.w z (lenC z underlying22 z) (TL.i z z (TL.en (TC.block (TC.loopG (α:=((FM Arc Unit)×(List Arc)×Bool×Nat)×(Nat×(Option Addr)×Nat)) (rgs [(7,1),(9,2),(40,62)]) (fun g=>[(40,.int .i64 ((g.1.2.2.2:Nat):Int))]) (fun g=>[Res.cells b0_0 #[.int .i64 x0.a.states,.slice a0_1 x0.a.starts.length c0_2,.slice a0_4 x0.a.ends.length c0_5,.slice a0_7 x0.a.arcs.length c0_8,.int .i64 x0.b.states,.slice a0_10 x0.b.starts.length c0_11,.slice a0_13 x0.b.ends.length c0_14,.slice a0_16 x0.b.arcs.length c0_17,.slice a0_19 x0.arcs.length c0_20,.slice a0_22 x0.ends.length c0_23,.map (some g.2.1),.map (some b0_26),.map (some b0_27),.int .i64 x0.whole.states,.slice a0_28 x0.whole.starts.length c0_29,.slice a0_30 x0.whole.ends.length c0_31,.slice g.2.2.1 g.1.2.1.length g.2.2.2,.bool g.1.2.2.1] Eb0,Res.mapB (fun x=>Value.agg (encArc x).toArray) unitV (some g.2.1) g.1.1,Res.mapB (fun x=>Value.agg (encTip x).toArray) unitV (some b0_26) x0.tips.s,Res.mapB (fun x=>Value.agg (encTip x).toArray) unitV (some b0_27) x0.tips.e,Res.rowS 43 2 encTip (.slice a0_28 x0.whole.starts.length c0_29) x0.whole.starts,Res.rowS 43 2 encTip (.slice a0_30 x0.whole.ends.length c0_31) x0.whole.ends,Res.rowS 66 8 encArc (.slice g.2.2.1 g.1.2.1.length g.2.2.2) g.1.2.1,Res.cells b149 #[.int .i64 ((nth x0.a.arcs k144 Arc.zero).frm),.int .i64 ((nth x0.a.arcs k144 Arc.zero).to),.int .u64 ((((nth x0.a.arcs k144 Arc.zero).set).a:Nat):Int),.int .u64 ((((nth x0.a.arcs k144 Arc.zero).set).b:Nat):Int),.int .u64 ((((nth x0.a.arcs k144 Arc.zero).set).c:Nat):Int),.int .u64 ((((nth x0.a.arcs k144 Arc.zero).set).d:Nat):Int),.string (bs ((nth x0.a.arcs k144 Arc.zero).out)),.bool ((nth x0.a.arcs k144 Arc.zero).copy)] 66,Res.rowS 43 2 encTip (.slice a183_1 v32.1.length c183_2) v32.1]) (fun g=>σ) (fun g=>iter (fun q:(FM Arc Unit)×(List Arc)×Bool×Nat=>comp_chain_steps_b3 v32 x0 k144 v26 k177 q.1 q.2.1 q.2.2.1 q.2.2.2) g.1=some z2) (fun g=>rounds (fun q:(FM Arc Unit)×(List Arc)×Bool×Nat=>comp_chain_steps_b3 v32 x0 k144 v26 k177 q.1 q.2.1 q.2.2.1 q.2.2.2) g.1) ((m170,l173,v32.2.over,0),(b171,a174,c175)) (Sub.f [8,8,8,8,8,8,8,8] 9) z (by repeat (first|exact trivial|refine ⟨z,?_⟩)) hh (fun g3 j3 hg3=> ?_)))))
   obtain ⟨⟨m204,l207,t210,k211⟩,⟨b205,a208,c209⟩⟩:=g3
   have hh:=hg3;clear hg3
   try dsimp only
   obtain ⟨z3,hh,hR3⟩:=iter_e hh
   dsimp only [comp_chain_steps_b3]at hh
   refine TC.isSl (i:=4) z (fun _ hb212 _=> ?_)
   refine TC.isSl (i:=5) z (fun _ hb213 _=> ?_)
   refine TC.isSl (i:=6) z (fun _ hb214 _=> ?_)
   refine TC.isSl (i:=8) z (fun _ hb215 _=> ?_)
   refine TC.a (TL.w z (OpVal.lss z z z) (TL.en (TC.seq (TC.cD z hh (fun h216 hh=> ?_) (fun h216 hh=> ?_)))))
   ·refine TC.skip (S.n (TC.cutG (α:=((FM Arc Unit)×(List Arc)×Bool)×(Nat×(Option Addr)×Nat)) (rgs [(7,1),(9,2),(42,59)]) (fun g=>[]) (fun g=>[Res.cells b0_0 #[.int .i64 x0.a.states,.slice a0_1 x0.a.starts.length c0_2,.slice a0_4 x0.a.ends.length c0_5,.slice a0_7 x0.a.arcs.length c0_8,.int .i64 x0.b.states,.slice a0_10 x0.b.starts.length c0_11,.slice a0_13 x0.b.ends.length c0_14,.slice a0_16 x0.b.arcs.length c0_17,.slice a0_19 x0.arcs.length c0_20,.slice a0_22 x0.ends.length c0_23,.map (some g.2.1),.map (some b0_26),.map (some b0_27),.int .i64 x0.whole.states,.slice a0_28 x0.whole.starts.length c0_29,.slice a0_30 x0.whole.ends.length c0_31,.slice g.2.2.1 g.1.2.1.length g.2.2.2,.bool g.1.2.2] Eb0,Res.mapB (fun x=>Value.agg (encArc x).toArray) unitV (some g.2.1) g.1.1,Res.mapB (fun x=>Value.agg (encTip x).toArray) unitV (some b0_26) x0.tips.s,Res.mapB (fun x=>Value.agg (encTip x).toArray) unitV (some b0_27) x0.tips.e,Res.rowS 43 2 encTip (.slice a0_28 x0.whole.starts.length c0_29) x0.whole.starts,Res.rowS 43 2 encTip (.slice a0_30 x0.whole.ends.length c0_31) x0.whole.ends,Res.rowS 66 8 encArc (.slice g.2.2.1 g.1.2.1.length g.2.2.2) g.1.2.1,Res.cells b149 #[.int .i64 ((nth x0.a.arcs k144 Arc.zero).frm),.int .i64 ((nth x0.a.arcs k144 Arc.zero).to),.int .u64 ((((nth x0.a.arcs k144 Arc.zero).set).a:Nat):Int),.int .u64 ((((nth x0.a.arcs k144 Arc.zero).set).b:Nat):Int),.int .u64 ((((nth x0.a.arcs k144 Arc.zero).set).c:Nat):Int),.int .u64 ((((nth x0.a.arcs k144 Arc.zero).set).d:Nat):Int),.string (bs ((nth x0.a.arcs k144 Arc.zero).out)),.bool ((nth x0.a.arcs k144 Arc.zero).copy)] 66,Res.rowS 43 2 encTip (.slice a183_1 v32.1.length c183_2) v32.1]) (fun g=>σ) (fun g=>comp_chain_steps_j1 k211 g.1.1 g.1.2.1 g.1.2.2=some z3) ?_ (fun g j hg=> ?_)))
    ·skip
     refine TC.block (TC.a (TL.isSl (i:=8) z (fun hs225 _ _=> ?_)))
     refine TL.w z (indexN z underlying22 sz43 z z hs225 (by omega)) (TL.w z (loadOA Tip.zero z ag43 sz43 z (q:=8) z encTip_len (by omega) (by omega)) (TL.op z (OpOk.alloc z ze43 z z (fun b226=> ?_))))
     refine TL.op z (storeAll z sz43 z z z z z z ?_)
     refine TL.en (TC.seq (TC.a (TL.w z (fieldLoc z fo66_4 z) (TL.w z (loadLoc z ag4 z (i:=8) z z) (TL.w z (OpVal.not z z) (TL.en (TC.cB z hh (fun h228 hh=> ?_) (fun h228 hh=> ?_))))))))
     ·refine TC.seq ?_
      obtain ⟨v50,u50,hh⟩:=bnd_e hh
      obtain ⟨v56,u56,hh⟩:=bnd_e hh
      refine TC.drawR (Hr:=[Res.cells b226 #[.int .i64 ((nth v32.1 k211 Tip.zero).state),.string (bs ((nth v32.1 k211 Tip.zero).out))] 43,Res.mapB (fun x=>Value.agg (encTip x).toArray) unitV (some b0_26) x0.tips.s,Res.mapB (fun x=>Value.agg (encTip x).toArray) unitV (some b0_27) x0.tips.e,Res.rowS 43 2 encTip (.slice a0_28 x0.whole.starts.length c0_29) x0.whole.starts,Res.rowS 43 2 encTip (.slice a0_30 x0.whole.ends.length c0_31) x0.whole.ends,Res.cells b149 #[.int .i64 ((nth x0.a.arcs k144 Arc.zero).frm),.int .i64 ((nth x0.a.arcs k144 Arc.zero).to),.int .u64 ((((nth x0.a.arcs k144 Arc.zero).set).a:Nat):Int),.int .u64 ((((nth x0.a.arcs k144 Arc.zero).set).b:Nat):Int),.int .u64 ((((nth x0.a.arcs k144 Arc.zero).set).c:Nat):Int),.int .u64 ((((nth x0.a.arcs k144 Arc.zero).set).d:Nat):Int),.string (bs ((nth x0.a.arcs k144 Arc.zero).out)),.bool ((nth x0.a.arcs k144 Arc.zero).copy)] 66,Res.rowS 43 2 encTip (.slice a183_1 v32.1.length c183_2) v32.1]) (fun r hr=>mem_pick [0,3,4,5,6,8,9] z hr) [] (by kernel_rfl) (TA.a 0 z (moveLoc (.inl z) z) z (TA.a 1 z (moveI (.inl z) z) z (TA.a 2 z (moveLoc (.inl z) z) z (TA.a 3 z (fieldLoc z fo66_1 z) z (TA.b 4 z (loadLoc z ag3 z (i:=5) z z) z (TA.a 5 z (fieldLoc z fo43_0 z) z (TA.b 6 z (loadLoc z ag3 z (i:=0) z z) z (TA.a 8 z (fieldLoc z fo66_2 z) z (TA.b 9 z (loadLocA z ag55 sz55 z (i:=5) z z z) z (TA.a 10 z (fieldLoc z fo43_1 z) z (TA.b 11 z (loadLoc z ag9 z (i:=0) z z) z (TA.front 7 z z (TA.front 7 z z (TA.front 7 z z (TA.front 7 z z ?_)))))))))))))))
      refine TA.front 7 z z (TA.front 7 z z (TA.front 7 z z (TA.ac 7 z (OpOk.call (comp_chain_at_con (x0:=(⟨x0.a,x0.b,x0.arcs,x0.ends,m204,x0.tips,(⟨x0.whole.states,x0.whole.starts,x0.whole.ends,l207⟩:Fst),t210⟩:Chain)) f0_3 f0_6 f0_9 f0_12 f0_15 f0_18 f0_21 f0_24 u50) z z pf54 z z z z ?_))))
      rintro _ _ _ hle233 ⟨rfl,rfl,rfl⟩
      refine ⟨(fun w h=>sees_of (Store.le.refl _) (fun r hr=>mem_pick [7,2,3,4,5,8,9] z hr) w h),?_⟩
      refine TA.a 12 z (buildL z pl66 ze66 z) z (TA.front 6 z z (TA.front 6 z z (TA.front 6 z z (TA.front 6 z z (TA.front 6 z z (TA.front 6 z z (TA.front 6 z z (TA.ac 13 z (OpOk.call (comp_chain_arc_con (x0:=(⟨x0.a,x0.b,x0.arcs,x0.ends,m204,x0.tips,(⟨x0.whole.states,x0.whole.starts,x0.whole.ends,l207⟩:Fst),t210⟩:Chain)) f0_3 f0_6 f0_9 f0_12 f0_15 f0_18 f0_21 f0_24 u56) z z pf55 z z z z ?_)))))))))
      rintro _ _ _ hle234 ⟨b234_1,a234_2,c234_3,rfl,rfl,rfl⟩
      refine ⟨(fun w h=>sees_of (Store.le.refl _) (fun r hr=>mem_pick [7,2,3,4,5,8,9] z hr) w h),?_⟩
      exact TA.dn (S.n (TC.exit (S.x (TC.exitHere (S.n (cf ((v56.seen,v56.whole.arcs,v56.over),(b234_1,a234_2,c234_3)) hh (Sub.f [9,9,8,8,8,8,8,8,8] 9)))))))
     refine TC.skip (S.n (TC.seq ?_))
     have u63:=grd_c hh
     replace hh:=grd_t hh
     refine TC.draw [] (by kernel_rfl) (TA.a 0 z (moveLoc (.inl z) z) z (TA.a 1 z (nilCheckLoc z z) z (TA.a 2 z (fieldLoc z fo75_2 z) z (TA.b 3 z (loadLoc z ag68 z (i:=1) z z) z (TA.a 4 z (fieldLoc z fo43_0 z) z (TA.b 5 z (loadLoc z ag3 z (i:=0) z z) z (TA.b 6 z (OpVal.index z underlying68 sz23 z z f0_21.isSl u63.1 u63.2) z ?_)))))))
     obtain ⟨p238,hk238,hg238⟩:=RZ.seg f0_21 (((nth v32.1 k211 Tip.zero).state).toNat) (by omega)
     replace hk238:RS _ 8 encArc (.slice p238.1 (nth x0.arcs (((nth v32.1 k211 Tip.zero).state).toNat) ([]:List Arc)).length p238.2) (nth x0.arcs (((nth v32.1 k211 Tip.zero).state).toNat) ([]:List Arc)):=hk238
     have hk238b:=hk238.rv.big
     refine TA.b 7 z (OpVal.of (loadSeg0 z ag23 z hg238 z) (v':= .slice p238.1 ((nth x0.arcs (((nth v32.1 k211 Tip.zero).state).toNat) ([]:List Arc)).length) p238.2) z) z (TA.b 8 z (lenC z underlying23 z) z (TA.a 9 z (moveI (.inl z) z) z (TA.dn (S.n (TC.block (TC.loopG (α:=((FM Arc Unit)×(List Arc)×Bool×Nat)×(Nat×(Option Addr)×Nat)) (rgs [(9,2),(70,31)]) (fun g=>[(70,.int .i64 ((g.1.2.2.2:Nat):Int))]) (fun g=>[Res.cells b0_0 #[.int .i64 x0.a.states,.slice a0_1 x0.a.starts.length c0_2,.slice a0_4 x0.a.ends.length c0_5,.slice a0_7 x0.a.arcs.length c0_8,.int .i64 x0.b.states,.slice a0_10 x0.b.starts.length c0_11,.slice a0_13 x0.b.ends.length c0_14,.slice a0_16 x0.b.arcs.length c0_17,.slice a0_19 x0.arcs.length c0_20,.slice a0_22 x0.ends.length c0_23,.map (some g.2.1),.map (some b0_26),.map (some b0_27),.int .i64 x0.whole.states,.slice a0_28 x0.whole.starts.length c0_29,.slice a0_30 x0.whole.ends.length c0_31,.slice g.2.2.1 g.1.2.1.length g.2.2.2,.bool g.1.2.2.1] Eb0,Res.mapB (fun x=>Value.agg (encArc x).toArray) unitV (some g.2.1) g.1.1,Res.mapB (fun x=>Value.agg (encTip x).toArray) unitV (some b0_26) x0.tips.s,Res.mapB (fun x=>Value.agg (encTip x).toArray) unitV (some b0_27) x0.tips.e,Res.rowS 43 2 encTip (.slice a0_28 x0.whole.starts.length c0_29) x0.whole.starts,Res.rowS 43 2 encTip (.slice a0_30 x0.whole.ends.length c0_31) x0.whole.ends,Res.rowS 66 8 encArc (.slice g.2.2.1 g.1.2.1.length g.2.2.2) g.1.2.1,Res.cells b149 #[.int .i64 ((nth x0.a.arcs k144 Arc.zero).frm),.int .i64 ((nth x0.a.arcs k144 Arc.zero).to),.int .u64 ((((nth x0.a.arcs k144 Arc.zero).set).a:Nat):Int),.int .u64 ((((nth x0.a.arcs k144 Arc.zero).set).b:Nat):Int),.int .u64 ((((nth x0.a.arcs k144 Arc.zero).set).c:Nat):Int),.int .u64 ((((nth x0.a.arcs k144 Arc.zero).set).d:Nat):Int),.string (bs ((nth x0.a.arcs k144 Arc.zero).out)),.bool ((nth x0.a.arcs k144 Arc.zero).copy)] 66,Res.cells b226 #[.int .i64 ((nth v32.1 k211 Tip.zero).state),.string (bs ((nth v32.1 k211 Tip.zero).out))] 43,Res.rowS 43 2 encTip (.slice a183_1 v32.1.length c183_2) v32.1]) (fun g=>σ) (fun g=>iter (fun q:(FM Arc Unit)×(List Arc)×Bool×Nat=>comp_chain_steps_b4 x0 v32 k211 k144 v26 q.1 q.2.1 q.2.2.1 q.2.2.2) g.1=some z3) (fun g=>rounds (fun q:(FM Arc Unit)×(List Arc)×Bool×Nat=>comp_chain_steps_b4 x0 v32 k211 k144 v26 q.1 q.2.1 q.2.2.1 q.2.2.2) g.1) ((m204,l207,t210,0),(b205,a208,c209)) (Sub.f [9,1,9,9,9,9,9,9,9,9] 10) z (by repeat (first|exact trivial|refine ⟨z,?_⟩)) hh (fun g4 j4 hg4=> ?_)))))))
     obtain ⟨⟨m258,l261,t264,k265⟩,⟨b259,a262,c263⟩⟩:=g4
     have hh:=hg4;clear hg4
     try dsimp only
     obtain ⟨z4,hh,hR4⟩:=iter_e hh
     dsimp only [comp_chain_steps_b4]at hh
     refine TC.isSl (i:=4) z (fun _ hb266 _=> ?_)
     refine TC.isSl (i:=5) z (fun _ hb267 _=> ?_)
     refine TC.isSl (i:=6) z (fun _ hb268 _=> ?_)
     refine TC.isSl (i:=9) z (fun _ hb269 _=> ?_)
     refine TC.a (TL.w z (OpVal.lss z z z) (TL.en (TC.seq (TC.cD z hh (fun h270 hh=> ?_) (fun h270 hh=> ?_)))))
     ·refine TC.skip (S.n (TC.cutG (α:=((FM Arc Unit)×(List Arc)×Bool)×(Nat×(Option Addr)×Nat)) (rgs [(9,2),(72,28)]) (fun g=>[]) (fun g=>[Res.cells b0_0 #[.int .i64 x0.a.states,.slice a0_1 x0.a.starts.length c0_2,.slice a0_4 x0.a.ends.length c0_5,.slice a0_7 x0.a.arcs.length c0_8,.int .i64 x0.b.states,.slice a0_10 x0.b.starts.length c0_11,.slice a0_13 x0.b.ends.length c0_14,.slice a0_16 x0.b.arcs.length c0_17,.slice a0_19 x0.arcs.length c0_20,.slice a0_22 x0.ends.length c0_23,.map (some g.2.1),.map (some b0_26),.map (some b0_27),.int .i64 x0.whole.states,.slice a0_28 x0.whole.starts.length c0_29,.slice a0_30 x0.whole.ends.length c0_31,.slice g.2.2.1 g.1.2.1.length g.2.2.2,.bool g.1.2.2] Eb0,Res.mapB (fun x=>Value.agg (encArc x).toArray) unitV (some g.2.1) g.1.1,Res.mapB (fun x=>Value.agg (encTip x).toArray) unitV (some b0_26) x0.tips.s,Res.mapB (fun x=>Value.agg (encTip x).toArray) unitV (some b0_27) x0.tips.e,Res.rowS 43 2 encTip (.slice a0_28 x0.whole.starts.length c0_29) x0.whole.starts,Res.rowS 43 2 encTip (.slice a0_30 x0.whole.ends.length c0_31) x0.whole.ends,Res.rowS 66 8 encArc (.slice g.2.2.1 g.1.2.1.length g.2.2.2) g.1.2.1,Res.cells b149 #[.int .i64 ((nth x0.a.arcs k144 Arc.zero).frm),.int .i64 ((nth x0.a.arcs k144 Arc.zero).to),.int .u64 ((((nth x0.a.arcs k144 Arc.zero).set).a:Nat):Int),.int .u64 ((((nth x0.a.arcs k144 Arc.zero).set).b:Nat):Int),.int .u64 ((((nth x0.a.arcs k144 Arc.zero).set).c:Nat):Int),.int .u64 ((((nth x0.a.arcs k144 Arc.zero).set).d:Nat):Int),.string (bs ((nth x0.a.arcs k144 Arc.zero).out)),.bool ((nth x0.a.arcs k144 Arc.zero).copy)] 66,Res.cells b226 #[.int .i64 ((nth v32.1 k211 Tip.zero).state),.string (bs ((nth v32.1 k211 Tip.zero).out))] 43,Res.rowS 43 2 encTip (.slice a183_1 v32.1.length c183_2) v32.1]) (fun g=>σ) (fun g=>comp_chain_steps_j2 k265 g.1.1 g.1.2.1 g.1.2.2=some z4) ?_ (fun g j hg=> ?_)))
      ·skip
       refine TC.block (TC.a (TL.w z (indexN z underlying23 sz66 z z hk238.rv.sl (by omega)) (TL.w z (loadSA Arc.zero z ag66 sz66 z hk238 (by omega) (by omega)) (TL.op z (OpOk.alloc z ze66 z z (fun b279=> ?_))))))
       refine TL.op z (storeAll z sz66 z z z z z z ?_)
       refine TL.en (TC.a (TL.w z (fieldLoc z fo66_2 z) (TL.w z (loadLocA z ag55 sz55 z (i:=8) z z z) (TL.w z (fieldLoc z fo66_2 z) (TL.w z (loadLocA z ag55 sz55 z (i:=0) z z z) ?_)))))
       obtain ⟨v76,u76,hh⟩:=bnd_e hh
       refine TL.op z (callP (G3_ u76) z z pf56 z z z ?_)
       refine TL.op z (OpOk.alloc z ze55 z z (fun b281=> ?_))
       refine TL.op z (storeAll z sz55 z z z z z z ?_)
       refine TL.en (TC.a (TL.w z (loadAll z ag55 sz55 z (i:=0) z z) (TL.w z (buildArrL z underlying55 sz53 ze55 z) (TL.w z (neqSet (s:=v76) (t:=BSet.zero) z underlying55 underlying53 ag53 sz53 eg55 z z) (TL.en (TC.cD z hh (fun h283 hh=> ?_) (fun h283 hh=> ?_)))))))
       ·obtain ⟨v89,u89,hh⟩:=bnd_e hh
        have u95:=grd_c hh
        replace hh:=grd_t hh
        obtain ⟨v99,u99,hh⟩:=bnd_e hh
        refine TC.drawR (Hr:=[Res.cells b281 (setA v76) 55,Res.cells b279 #[.int .i64 ((nth (nth x0.arcs (((nth v32.1 k211 Tip.zero).state).toNat) ([]:List Arc)) k265 Arc.zero).frm),.int .i64 ((nth (nth x0.arcs (((nth v32.1 k211 Tip.zero).state).toNat) ([]:List Arc)) k265 Arc.zero).to),.int .u64 ((((nth (nth x0.arcs (((nth v32.1 k211 Tip.zero).state).toNat) ([]:List Arc)) k265 Arc.zero).set).a:Nat):Int),.int .u64 ((((nth (nth x0.arcs (((nth v32.1 k211 Tip.zero).state).toNat) ([]:List Arc)) k265 Arc.zero).set).b:Nat):Int),.int .u64 ((((nth (nth x0.arcs (((nth v32.1 k211 Tip.zero).state).toNat) ([]:List Arc)) k265 Arc.zero).set).c:Nat):Int),.int .u64 ((((nth (nth x0.arcs (((nth v32.1 k211 Tip.zero).state).toNat) ([]:List Arc)) k265 Arc.zero).set).d:Nat):Int),.string (bs ((nth (nth x0.arcs (((nth v32.1 k211 Tip.zero).state).toNat) ([]:List Arc)) k265 Arc.zero).out)),.bool ((nth (nth x0.arcs (((nth v32.1 k211 Tip.zero).state).toNat) ([]:List Arc)) k265 Arc.zero).copy)] 66,Res.mapB (fun x=>Value.agg (encTip x).toArray) unitV (some b0_26) x0.tips.s,Res.mapB (fun x=>Value.agg (encTip x).toArray) unitV (some b0_27) x0.tips.e,Res.rowS 43 2 encTip (.slice a0_28 x0.whole.starts.length c0_29) x0.whole.starts,Res.rowS 43 2 encTip (.slice a0_30 x0.whole.ends.length c0_31) x0.whole.ends,Res.cells b149 #[.int .i64 ((nth x0.a.arcs k144 Arc.zero).frm),.int .i64 ((nth x0.a.arcs k144 Arc.zero).to),.int .u64 ((((nth x0.a.arcs k144 Arc.zero).set).a:Nat):Int),.int .u64 ((((nth x0.a.arcs k144 Arc.zero).set).b:Nat):Int),.int .u64 ((((nth x0.a.arcs k144 Arc.zero).set).c:Nat):Int),.int .u64 ((((nth x0.a.arcs k144 Arc.zero).set).d:Nat):Int),.string (bs ((nth x0.a.arcs k144 Arc.zero).out)),.bool ((nth x0.a.arcs k144 Arc.zero).copy)] 66,Res.cells b226 #[.int .i64 ((nth v32.1 k211 Tip.zero).state),.string (bs ((nth v32.1 k211 Tip.zero).out))] 43,Res.rowS 43 2 encTip (.slice a183_1 v32.1.length c183_2) v32.1]) (fun r hr=>mem_pick [0,1,4,5,6,7,9,10,11] z hr) [] (by kernel_rfl) (TA.a 0 z (moveLoc (.inl z) z) z (TA.a 1 z (moveI (.inl z) z) z (TA.a 2 z (moveLoc (.inl z) z) z (TA.a 3 z (fieldLoc z fo66_1 z) z (TA.b 4 z (loadLoc z ag3 z (i:=6) z z) z (TA.a 5 z (fieldLoc z fo66_1 z) z (TA.b 6 z (loadLoc z ag3 z (i:=1) z z) z (TA.b 8 z (loadAll z ag55 sz55 z (i:=0) z z) z (TA.a 9 z (fieldLoc z fo43_1 z) z (TA.b 10 z (loadLoc z ag9 z (i:=7) z z) z (TA.a 11 z (fieldLoc z fo66_3 z) z (TA.b 12 z (loadLoc z ag9 z (i:=1) z z) z (TA.a 13 z (catBs z z z u95) z (TA.a 14 z (fieldLoc z fo66_4 z) z (TA.b 15 z (loadLoc z ag4 z (i:=1) z z) z ?_)))))))))))))))
        refine TA.front 8 z z (TA.front 8 z z (TA.front 8 z z (TA.front 8 z z (TA.front 8 z z (TA.front 8 z z (TA.front 8 z z (TA.ac 7 z (OpOk.call (comp_chain_at_con (x0:=(⟨x0.a,x0.b,x0.arcs,x0.ends,m258,x0.tips,(⟨x0.whole.states,x0.whole.starts,x0.whole.ends,l261⟩:Fst),t264⟩:Chain)) f0_3 f0_6 f0_9 f0_12 f0_15 f0_18 f0_21 f0_24 u89) z z pf54 z z z z ?_))))))))
        rintro _ _ _ hle288 ⟨rfl,rfl,rfl⟩
        refine ⟨(fun w h=>sees_of (Store.le.refl _) (fun r hr=>mem_pick [7,8,2,3,4,5,9,10,11] z hr) w h),?_⟩
        refine TA.a 16 z (buildL z pl66 ze66 z) z (TA.front 6 z z (TA.front 6 z z (TA.front 6 z z (TA.front 6 z z (TA.front 6 z z (TA.front 6 z z (TA.front 6 z z (TA.ac 17 z (OpOk.call (comp_chain_arc_con (x0:=(⟨x0.a,x0.b,x0.arcs,x0.ends,m258,x0.tips,(⟨x0.whole.states,x0.whole.starts,x0.whole.ends,l261⟩:Fst),t264⟩:Chain)) f0_3 f0_6 f0_9 f0_12 f0_15 f0_18 f0_21 f0_24 u99) z z pf55 z z z z ?_)))))))))
        rintro _ _ _ hle289 ⟨b289_1,a289_2,c289_3,rfl,rfl,rfl⟩
        refine ⟨(fun w h=>sees_of (Store.le.refl _) (fun r hr=>mem_pick [7,8,2,3,4,5,9,10,11] z hr) w h),?_⟩
        exact TA.dn (B.n (S.n (cf ((v99.seen,v99.whole.arcs,v99.over),(b289_1,a289_2,c289_3)) hh (Sub.f [11,11,11,9,9,9,9,9,9,9] 10))))
       exact TC.skip (B.n (S.n (cf ((m258,l261,t264),(b259,a262,c263)) hh (Sub.f [11,11,11,11,11,11,11,11,11,11] 10))))
      skip
      obtain ⟨⟨m272,l275,t278⟩,⟨b273,a276,c277⟩⟩:=g
      have hh:=hg;clear hg
      try dsimp only
      dsimp only [comp_chain_steps_j2]at hh
      refine TC.isSl (i:=4) z (fun _ hb292 _=> ?_)
      refine TC.isSl (i:=5) z (fun _ hb293 _=> ?_)
      refine TC.isSl (i:=6) z (fun _ hb294 _=> ?_)
      refine TC.isSl (i:=9) z (fun _ hb295 _=> ?_)
      refine TC.region (TL.w z (OpVal.succ z z z (by omega)) (TL.i z z (TL.en ?_)))
      obtain ⟨hh,hlt296⟩:=nxt_x hR4 hh
      exact lf ((m272,l275,t278,(k265+1)),(b273,a276,c277)) hlt296 hh (Sub.f [9,9,9,9,9,9,9,9,9,9] 10)
     refine TC.exit (S.x (S.x ?_))
     replace hh:=fin_x hR4 hh
     exact TC.exitHere (B.n (S.n (cf ((m258,l261,t264),(b259,a262,c263)) hh (Sub.f [9,8,8,8,8,8,8,8,8] 9))))
    skip
    obtain ⟨⟨m218,l221,t224⟩,⟨b219,a222,c223⟩⟩:=g
    have hh:=hg;clear hg
    try dsimp only
    dsimp only [comp_chain_steps_j1]at hh
    refine TC.isSl (i:=4) z (fun _ hb297 _=> ?_)
    refine TC.isSl (i:=5) z (fun _ hb298 _=> ?_)
    refine TC.isSl (i:=6) z (fun _ hb299 _=> ?_)
    refine TC.isSl (i:=8) z (fun _ hb300 _=> ?_)
    refine TC.region (TL.w z (OpVal.succ z z z (by omega)) (TL.i z z (TL.en ?_)))
    obtain ⟨hh,hlt301⟩:=nxt_x hR3 hh
    exact lf ((m218,l221,t224,(k211+1)),(b219,a222,c223)) hlt301 hh (Sub.f [8,8,8,8,8,8,8,8,8] 9)
   refine TC.exit (S.x (S.x ?_))
   replace hh:=fin_x hR3 hh
   refine TC.exitHere (S.n (TC.a (TL.l z z (TL.w z (nilCheckLoc z z) (TL.w z (fieldLoc z fo75_7 z) (TL.w z (loadLoc z ag4 z (i:=0) z z) (TL.en (TC.cB z hh (fun h302 hh=> ?_) (fun h302 hh=> ?_)))))))))
   ·refine TC.ofSub (Sub.f [6,6,6,6,6,6,6] 7) (TC.ret (B.r (S.r (S.r ?_))))
    replace hh:=fin_x hR2 hh
    refine B.r (B.r (S.r (S.r ?_)))
    replace hh:=fin_x hR1 hh
    refine B.r ?_
    obtain rfl:=so hh
    exact ro [Res.cells b0_0 #[.int .i64 x0.a.states,.slice a0_1 x0.a.starts.length c0_2,.slice a0_4 x0.a.ends.length c0_5,.slice a0_7 x0.a.arcs.length c0_8,.int .i64 x0.b.states,.slice a0_10 x0.b.starts.length c0_11,.slice a0_13 x0.b.ends.length c0_14,.slice a0_16 x0.b.arcs.length c0_17,.slice a0_19 x0.arcs.length c0_20,.slice a0_22 x0.ends.length c0_23,.map (some b205),.map (some b0_26),.map (some b0_27),.int .i64 x0.whole.states,.slice a0_28 x0.whole.starts.length c0_29,.slice a0_30 x0.whole.ends.length c0_31,.slice a208 l207.length c209,.bool t210] Eb0,Res.mapB (fun x=>Value.agg (encArc x).toArray) unitV (some b205) m204,Res.mapB (fun x=>Value.agg (encTip x).toArray) unitV (some b0_26) x0.tips.s,Res.mapB (fun x=>Value.agg (encTip x).toArray) unitV (some b0_27) x0.tips.e,Res.rowS 43 2 encTip (.slice a0_28 x0.whole.starts.length c0_29) x0.whole.starts,Res.rowS 43 2 encTip (.slice a0_30 x0.whole.ends.length c0_31) x0.whole.ends,Res.rowS 66 8 encArc (.slice a208 l207.length c209) l207] z RVs.nil ⟨b205,a208,c209,z,z,z⟩
   refine TC.skip (B.n (S.n (TC.region ?_)))
   have u108:=grd_c hh
   replace hh:=grd_t hh
   refine TL.w z (OpVal.succ z z z (by omega)) (TL.i z z (TL.en ?_))
   obtain ⟨hh,hlt303⟩:=nxt_x hR2 hh
   exact lf ((m204,l207,t210,(k177+1)),(b205,a208,c209)) hlt303 hh (Sub.f [7,7,7,7,7,7,7,7] 8)
  refine TC.exit (S.x (S.x ?_))
  replace hh:=fin_x hR2 hh
  refine TC.exitHere (B.n (S.n (TC.region (TL.w z (OpVal.succ z z z (by omega)) (TL.i z z (TL.en ?_))))))
  obtain ⟨hh,hlt304⟩:=nxt_x hR1 hh
  exact lf ((m170,l173,t176,(k144+1)),(b171,a174,c175)) hlt304 hh (Sub.f [6,6,6,6,6,6,6] 7)
 refine TC.exit (S.x (S.x ?_))
 replace hh:=fin_x hR1 hh
 refine TC.exitHere ?_
 obtain rfl:=so hh
 exact RetOk.mk' (rs:=[]) [Res.cells b0_0 #[.int .i64 x0.a.states,.slice a0_1 x0.a.starts.length c0_2,.slice a0_4 x0.a.ends.length c0_5,.slice a0_7 x0.a.arcs.length c0_8,.int .i64 x0.b.states,.slice a0_10 x0.b.starts.length c0_11,.slice a0_13 x0.b.ends.length c0_14,.slice a0_16 x0.b.arcs.length c0_17,.slice a0_19 x0.arcs.length c0_20,.slice a0_22 x0.ends.length c0_23,.map (some b138),.map (some b0_26),.map (some b0_27),.int .i64 x0.whole.states,.slice a0_28 x0.whole.starts.length c0_29,.slice a0_30 x0.whole.ends.length c0_31,.slice a141 l140.length c142,.bool t143] Eb0,Res.mapB (fun x=>Value.agg (encArc x).toArray) unitV (some b138) m137,Res.mapB (fun x=>Value.agg (encTip x).toArray) unitV (some b0_26) x0.tips.s,Res.mapB (fun x=>Value.agg (encTip x).toArray) unitV (some b0_27) x0.tips.e,Res.rowS 43 2 encTip (.slice a0_28 x0.whole.starts.length c0_29) x0.whole.starts,Res.rowS 43 2 encTip (.slice a0_30 x0.whole.ends.length c0_31) x0.whole.ends,Res.rowS 66 8 encArc (.slice a141 l140.length c142) l140] z (.inr z) RVs.nil (List.sublist_append_left _ _) ⟨b138,a141,c142,z,z,z⟩
def comp_Compose_j2(l196:List (List Tip))(x1:Fst)(k200:Nat):Option (((List (List Tip))×Nat)⊕(Fst×Int)):=
 nxt ((l196.set (((nth x1.ends k200 Tip.zero).state).toNat) ((nth l196 (((nth x1.ends k200 Tip.zero).state).toNat) ([]:List Tip))++[(nth x1.ends k200 Tip.zero)])),(k200+1))
def comp_Compose_b1(x1:Fst)(x0:Fst)(l112:List (List Arc))(l196:List (List Tip))(k200:Nat):Option (((List (List Tip))×Nat)⊕(Fst×Int)):=
 iteO (decide (((k200:Nat):Int)<((x1.ends.length:Nat):Int))) (grd (0≤((nth x1.ends k200 Tip.zero).state)∧((nth x1.ends k200 Tip.zero).state)<(l196.length:Int)) (grd (((nth l196 (((nth x1.ends k200 Tip.zero).state).toNat) ([]:List Tip)).length+[(nth x1.ends k200 Tip.zero)].length) * 24≤140737488355328) (grd (0≤((nth x1.ends k200 Tip.zero).state)∧((nth x1.ends k200 Tip.zero).state)<(l196.length:Int)) (comp_Compose_j2 l196 x1 k200)))) (fin (bnd (comp_chain_starts (⟨x0,x1,l112,l196,(FM.emp:FM Arc Unit),(⟨(FM.emp:FM Tip Unit),(FM.emp:FM Tip Unit)⟩:TwoM),(⟨IntKind.i64.wrap (x0.states * x1.states),([]:List Tip),([]:List Tip),([]:List Arc)⟩:Fst),false⟩:Chain)) (fun v103=>iteO v103.over (some ((⟨0,([]:List Tip),([]:List Tip),([]:List Arc)⟩:Fst),2)) (bnd (comp_chain_stops (⟨x0,x1,l112,l196,(FM.emp:FM Arc Unit),(⟨v103.tips.s,(FM.emp:FM Tip Unit)⟩:TwoM),(⟨IntKind.i64.wrap (x0.states * x1.states),v103.whole.starts,([]:List Tip),([]:List Arc)⟩:Fst),v103.over⟩:Chain)) (fun v103y=>iteO v103y.over (some ((⟨0,([]:List Tip),([]:List Tip),([]:List Arc)⟩:Fst),2)) (bnd (comp_chain_steps (⟨x0,x1,l112,l196,(FM.emp:FM Arc Unit),(⟨v103.tips.s,v103y.tips.e⟩:TwoM),(⟨IntKind.i64.wrap (x0.states * x1.states),v103.whole.starts,v103y.whole.ends,([]:List Arc)⟩:Fst),v103y.over⟩:Chain)) (fun v103yy=>iteO v103yy.over (some ((⟨0,([]:List Tip),([]:List Tip),([]:List Arc)⟩:Fst),2)) (bnd (Cb_ (⟨IntKind.i64.wrap (x0.states * x1.states),v103.whole.starts,v103y.whole.ends,v103yy.whole.arcs⟩:Fst)) (fun v117yyy=>some (v117yyy.1,v117yyy.2))))))))))
def comp_Compose_j1(x1:Fst)(x0:Fst)(l112:List (List Arc)):Option (Fst×Int):=
 iter (fun q:(List (List Tip))×Nat=>comp_Compose_b1 x1 x0 l112 q.1 q.2) ((List.replicate x1.states.toNat ([]:List Tip)),0)
def comp_Compose(x0:Fst)(x1:Fst):Option (Fst×Int):=
 bnd (Be_ x0) (fun v6=>iteO (decide (v6≠0)) (some ((⟨0,([]:List Tip),([]:List Tip),([]:List Arc)⟩:Fst),1)) (bnd (Be_ x1) (fun v10=>iteO (decide (v10≠0)) (some ((⟨0,([]:List Tip),([]:List Tip),([]:List Arc)⟩:Fst),1)) (iteO (decide (1024<(IntKind.i64.wrap (x0.states * x1.states)))) (some ((⟨0,([]:List Tip),([]:List Tip),([]:List Arc)⟩:Fst),2)) (bnd (comp_leaving x1) (fun v28=>grd (0≤x1.states∧24 * x1.states.toNat≤281474976710656) (comp_Compose_j1 x1 x0 v28)))))))
def comp_Compose_P(σ:Store)(r:Fst×Int):Value→Store→List Res→Prop:=fun v σ' H'=>
 ∃a1 c1 a2 c2 a3 c3,v= .tuple #[.agg #[.int .i64 r.1.states,.slice a1 r.1.starts.length c1,.slice a2 r.1.ends.length c2,.slice a3 r.1.arcs.length c3],.int .i64 r.2]∧RS σ' 2 encTip (.slice a1 r.1.starts.length c1) r.1.starts∧RS σ' 2 encTip (.slice a2 r.1.ends.length c2) r.1.ends∧RS σ' 8 encArc (.slice a3 r.1.arcs.length c3) r.1.arcs∧H'=[]
theorem comp_Compose_con{x0:Fst}{x1:Fst}(f0_0:RS σ 2 encTip (.slice a0_0 x0.starts.length c0_0) x0.starts)(f0_1:RS σ 2 encTip (.slice a0_1 x0.ends.length c0_1) x0.ends)(f0_2:RS σ 8 encArc (.slice a0_2 x0.arcs.length c0_2) x0.arcs)(f1_0:RS σ 2 encTip (.slice a1_0 x1.starts.length c1_0) x1.starts)(f1_1:RS σ 2 encTip (.slice a1_1 x1.ends.length c1_1) x1.ends)(f1_2:RS σ 8 encArc (.slice a1_2 x1.arcs.length c1_2) x1.arcs){r:Fst×Int}(hh:comp_Compose x0 x1=some r):
  Con Tryz.prog 9 #[.agg #[.int .i64 x0.states,.slice a0_0 x0.starts.length c0_0,.slice a0_1 x0.ends.length c0_1,.slice a0_2 x0.arcs.length c0_2],.agg #[.int .i64 x1.states,.slice a1_0 x1.starts.length c1_0,.slice a1_1 x1.ends.length c1_1,.slice a1_2 x1.arcs.length c1_2]] σ [] (comp_Compose_P σ r):=by
 dsimp only [comp_Compose]at hh
 have f0_0b:=f0_0.rv.big
 have f0_1b:=f0_1.rv.big
 have f0_2b:=f0_2.rv.big
 have f1_0b:=f1_0.rv.big
 have f1_1b:=f1_1.rv.big
 have f1_2b:=f1_2.rv.big
 refine Con.mk (n:=110) Tryz.func9 z z z (fun w0=> ?_)
 refine TC.a (TL.op z (boxA z z z z (fun b101=> ?_)))
 refine TL.op z (boxA z z z z (fun b103=> ?_))
 refine TL.op z (OpOk.alloc z ze25 z z (fun b105=> ?_))
 refine TL.i z z (TL.en (TC.seq (TC.a (TL.w z (loadAll z ag25 sz25 z (i:=2) z z) ?_))))
 obtain ⟨v6,u6,hh⟩:=bnd_e hh
 refine TL.op z (callP (Di_ (x0:=x0) f0_0 f0_1 f0_2 u6) z z pf21 z z z ?_)
 refine TL.w z (OpVal.neq z z z) (TL.j z z (TL.split 15 z (fun h107=> ?_) (fun h107=> ?_)))
 ·replace hh:=iteO_t h107 hh
  replace h107:=of_decide_eq_true h107
  refine TL.f z (TL.f z (TL.f z (TL.w z (pickTB z z z) (TL.en (TC.t z (TC.a (TL.w z (buildL z pl25 ze25 z) (TL.op z (storeAll z sz25 z z z z z z ?_)))))))))
  refine TL.i z z (TL.en (TC.rt 1 (S.r ?_)))
  obtain rfl:=so hh
  exact ro [] z (RVs.agg ag25 sz25 z (i:=0) z z (RVs.tmp z RVs.nil)) ⟨none,0,none,0,none,0,z,(RS.nilF _ encTip encTip_len),(RS.nilF _ encTip encTip_len),(RS.nilF _ encArc encArc_len),z⟩
 replace hh:=iteO_f h107 hh
 replace h107:=of_decide_eq_false h107
 refine TL.g z (loadAll z ag25 sz25 z (i:=1) z z) ?_
 obtain ⟨v10,u10,hh⟩:=bnd_e hh
 refine TL.gon z z z z z (callP (Di_ (x0:=x1) f1_0 f1_1 f1_2 u10) z z pf21 z z z ?_)
 refine TL.g z (OpVal.neq z z z) (TL.w z (pickFB z z z) (TL.en (TC.cD z hh (fun h108 hh=> ?_) (fun h108 hh=> ?_))))
 ·refine TC.a (TL.w z (buildL z pl25 ze25 z) (TL.op z (storeAll z sz25 z z z z z z ?_)))
  refine TL.i z z (TL.en (TC.rt 1 (S.r ?_)))
  obtain rfl:=so hh
  exact ro [] z (RVs.agg ag25 sz25 z (i:=0) z z (RVs.tmp z RVs.nil)) ⟨none,0,none,0,none,0,z,(RS.nilF _ encTip encTip_len),(RS.nilF _ encTip encTip_len),(RS.nilF _ encArc encArc_len),z⟩
 refine TC.skip (S.n (TC.seq (TC.a (TL.w z (fieldLoc z fo25_0 z) (TL.w z (loadLoc z ag3 z (i:=2) z z) (TL.w z (fieldLoc z fo25_0 z) (TL.w z (loadLoc z ag3 z (i:=1) z z) (TL.w z (mulW z z z) (TL.w z (OpVal.gtr z z z) (TL.en (TC.cD z hh (fun h109 hh=> ?_) (fun h109 hh=> ?_))))))))))))
 ·refine TC.a (TL.w z (buildL z pl25 ze25 z) (TL.op z (storeAll z sz25 z z z z z z ?_)))
  refine TL.i z z (TL.en (TC.rt 1 (S.r ?_)))
  obtain rfl:=so hh
  exact ro [] z (RVs.agg ag25 sz25 z (i:=0) z z (RVs.tmp z RVs.nil)) ⟨none,0,none,0,none,0,z,(RS.nilF _ encTip encTip_len),(RS.nilF _ encTip encTip_len),(RS.nilF _ encArc encArc_len),z⟩
 refine TC.skip (S.n (TC.cutG (α:=((List (List Arc)))×(Nat×(Option Addr)×Nat×(Option Addr)×Nat×Nat×Store)) (rgs [(6,1),(28,10)]) (fun g=>[(6,loc g.2.1 0)]) (fun g=>[Res.cells b101 #[.int .i64 x0.states,.slice a0_0 x0.starts.length c0_0,.slice a0_1 x0.ends.length c0_1,.slice a0_2 x0.arcs.length c0_2] 25,Res.cells b103 #[.int .i64 x1.states,.slice a1_0 x1.starts.length c1_0,.slice a1_1 x1.ends.length c1_1,.slice a1_2 x1.arcs.length c1_2] 25,Res.cells b105 #[.int .i64 0,.slice none 0 0,.slice none 0 0,.slice none 0 0] 25,Res.cells g.2.1 #[.int .i64 x0.states,.slice a0_0 x0.starts.length c0_0,.slice a0_1 x0.ends.length c0_1,.slice a0_2 x0.arcs.length c0_2,.int .i64 x1.states,.slice a1_0 x1.starts.length c1_0,.slice a1_1 x1.ends.length c1_1,.slice a1_2 x1.arcs.length c1_2,.slice g.2.2.1 g.1.length g.2.2.2.1,.slice g.2.2.2.2.1 ((List.replicate x1.states.toNat ([]:List Tip)).length) g.2.2.2.2.2.1,.map (some g.2.2.2.2.2.2.1),.map none,.map none,.int .i64 0,.slice none 0 0,.slice none 0 0,.slice none 0 0,.bool false] 75,Res.nest 22 43 2 encTip (.slice g.2.2.2.2.1 (List.replicate x1.states.toNat ([]:List Tip)).length g.2.2.2.2.2.1) (List.replicate x1.states.toNat (nilN:NP Tip)),Res.mapB (fun x=>Value.agg (encArc x).toArray) unitV (some g.2.2.2.2.2.2.1) (FM.emp:FM Arc Unit)]) (fun g=>g.2.2.2.2.2.2.2) (fun g=>comp_Compose_j1 x1 x0 g.1=some r∧RZ g.2.2.2.2.2.2.2 (pkSl 8 encArc encArc_len) (.slice g.2.2.1 g.1.length g.2.2.2.1) g.1∧Zn (List.replicate x1.states.toNat (nilN:NP Tip)) (List.replicate x1.states.toNat ([]:List Tip))∧Store.le σ g.2.2.2.2.2.2.2) ?_ (fun g j hg=> ?_)))
 ·skip
  obtain ⟨v28,u28,hh⟩:=bnd_e hh
  have u31:=grd_c hh
  replace hh:=grd_t hh
  refine TC.draw [] (by kernel_rfl) (TA.b 0 z (loadAll z ag25 sz25 z (i:=2) z z) z (TA.b 1 z (loadAll z ag25 sz25 z (i:=1) z z) z (TA.b 2 z (loadAll z ag25 sz25 z (i:=1) z z) z (TA.a 4 z (fieldLoc z fo25_0 z) z (TA.b 5 z (loadLoc z ag3 z (i:=1) z z) z ?_)))))
  refine TA.actN [3,6,7] (by kernel_rfl) (an rfl rfl (OpOk.call (comp_leaving_con (x0:=x1) f1_0 f1_1 f1_2 u28) rfl rfl pf22 rfl rfl rfl rfl ?_) (an rfl rfl (makeN (q:=x1.states.toNat) (E:=43) (size:=2) (enc:=encTip) rfl underlying70 sz22 by22 ze22 rfl rfl (vN u31.1) (vN u31.1) (by omega) (by decide) rfl (fun a132 c133 zf134=>(k1 ?_))) (an rfl rfl (makeMapB (enc:=(fun x=>Value.agg (encArc x).toArray)) (encV:=unitV) rfl rfl rfl (fun b136=>(k1 ?_))) (True.intro))))
  ·skip
   rintro _ τ131 _ hle131 ⟨a131_1,c131_1,rfl,hr131_0,rfl⟩
   replace f0_0:=f0_0.mono hle131
   replace f0_1:=f0_1.mono hle131
   replace f0_2:=f0_2.mono hle131
   replace f1_0:=f1_0.mono hle131
   replace f1_1:=f1_1.mono hle131
   replace f1_2:=f1_2.mono hle131
   have hr131_0b:=hr131_0.big
   refine kl 0 hle131 (TA.actN [6,7] (by kernel_rfl) (an rfl rfl (makeN (q:=x1.states.toNat) (E:=43) (size:=2) (enc:=encTip) rfl underlying70 sz22 by22 ze22 rfl rfl (vN u31.1) (vN u31.1) (by omega) (by decide) rfl (fun a138 c139 zf140=>(kl 1 hle131 ?_))) (an rfl rfl (makeMapB (enc:=(fun x=>Value.agg (encArc x).toArray)) (encV:=unitV) rfl rfl rfl (fun b142=>(kl 1 hle131 ?_))) (True.intro))))
   ·skip
    refine TA.ac 7 z (makeMapB (enc:=(fun x=>Value.agg (encArc x).toArray)) (encV:=unitV) z z z (fun b144=>(kl 2 hle131 ?_)))
    refine TA.a 8 z (buildL z pl75 ze75 z) z (TA.ac 9 z (boxA z z z z (fun b146=>(kl 3 hle131 ?_))))
    exact TA.a 10 z (moveLoc (.inr z) z) z (TA.dn (S.n (cf (v28,(b146,a131_1,c131_1,a138,c139,b144,τ131)) ⟨hh,hr131_0,zf140,hle131⟩ (Sub.f [1,2,2,3,4,5] 6))))
   skip
   refine TA.ac 6 rfl (makeN (q:=x1.states.toNat) (E:=43) (size:=2) (enc:=encTip) rfl underlying70 sz22 by22 ze22 rfl rfl (vN u31.1) (vN u31.1) (by omega) (by decide) rfl (fun a148 c149 zf150=>(kl 2 hle131 ?_)))
   refine TA.a 8 z (buildL z pl75 ze75 z) z (TA.ac 9 z (boxA z z z z (fun b152=>(kl 3 hle131 ?_))))
   exact TA.a 10 z (moveLoc (.inr z) z) z (TA.dn (S.n (cf (v28,(b152,a131_1,c131_1,a148,c149,b142,τ131)) ⟨hh,hr131_0,zf150,hle131⟩ (Sub.f [2,2,2,3,4,5] 6))))
  ·skip
   refine TA.actN [3,7] (by kernel_rfl) (an z z (OpOk.call (comp_leaving_con (x0:=x1) f1_0 f1_1 f1_2 u28) z z pf22 z z z z ?_) (an z z (makeMapB (enc:=(fun x=>Value.agg (encArc x).toArray)) (encV:=unitV) z z z (fun b155=>(k2 ?_))) (True.intro)))
   ·skip
    rintro _ τ154 _ hle154 ⟨a154_1,c154_1,rfl,hr154_0,rfl⟩
    replace f0_0:=f0_0.mono hle154
    replace f0_1:=f0_1.mono hle154
    replace f0_2:=f0_2.mono hle154
    replace f1_0:=f1_0.mono hle154
    replace f1_1:=f1_1.mono hle154
    replace f1_2:=f1_2.mono hle154
    have hr154_0b:=hr154_0.big
    refine kl 1 hle154 (TA.ac 7 z (makeMapB (enc:=(fun x=>Value.agg (encArc x).toArray)) (encV:=unitV) z z z (fun b157=>(kl 2 hle154 ?_))))
    refine TA.a 8 z (buildL z pl75 ze75 z) z (TA.ac 9 z (boxA z z z z (fun b159=>(kl 3 hle154 ?_))))
    exact TA.a 10 z (moveLoc (.inr z) z) z (TA.dn (S.n (cf (v28,(b159,a154_1,c154_1,a132,c133,b157,τ154)) ⟨hh,hr154_0,zf134,hle154⟩ (Sub.f [1,2,2,3,4,5] 6))))
   skip
   refine TA.ac 3 z (OpOk.call (comp_leaving_con (x0:=x1) f1_0 f1_1 f1_2 u28) z z pf22 z z z z ?_)
   rintro _ τ161 _ hle161 ⟨a161_1,c161_1,rfl,hr161_0,rfl⟩
   replace f0_0:=f0_0.mono hle161
   replace f0_1:=f0_1.mono hle161
   replace f0_2:=f0_2.mono hle161
   replace f1_0:=f1_0.mono hle161
   replace f1_1:=f1_1.mono hle161
   replace f1_2:=f1_2.mono hle161
   have hr161_0b:=hr161_0.big
   refine kl 2 hle161 (TA.a 8 z (buildL z pl75 ze75 z) z (TA.ac 9 z (boxA z z z z (fun b162=>(kl 3 hle161 ?_)))))
   exact TA.a 10 z (moveLoc (.inr z) z) z (TA.dn (S.n (cf (v28,(b162,a161_1,c161_1,a132,c133,b155,τ161)) ⟨hh,hr161_0,zf134,hle161⟩ (Sub.f [1,2,2,3,4,5] 6))))
  skip
  refine TA.actN [3,6] (by kernel_rfl) (an rfl rfl (OpOk.call (comp_leaving_con (x0:=x1) f1_0 f1_1 f1_2 u28) rfl rfl pf22 rfl rfl rfl rfl ?_) (an rfl rfl (makeN (q:=x1.states.toNat) (E:=43) (size:=2) (enc:=encTip) rfl underlying70 sz22 by22 ze22 rfl rfl (vN u31.1) (vN u31.1) (by omega) (by decide) rfl (fun a165 c166 zf167=>(k2 ?_))) (True.intro)))
  ·skip
   rintro _ τ164 _ hle164 ⟨a164_1,c164_1,rfl,hr164_0,rfl⟩
   replace f0_0:=f0_0.mono hle164
   replace f0_1:=f0_1.mono hle164
   replace f0_2:=f0_2.mono hle164
   replace f1_0:=f1_0.mono hle164
   replace f1_1:=f1_1.mono hle164
   replace f1_2:=f1_2.mono hle164
   have hr164_0b:=hr164_0.big
   refine kl 1 hle164 (TA.ac 6 rfl (makeN (q:=x1.states.toNat) (E:=43) (size:=2) (enc:=encTip) rfl underlying70 sz22 by22 ze22 rfl rfl (vN u31.1) (vN u31.1) (by omega) (by decide) rfl (fun a169 c170 zf171=>(kl 2 hle164 ?_))))
   refine TA.a 8 z (buildL z pl75 ze75 z) z (TA.ac 9 z (boxA z z z z (fun b173=>(kl 3 hle164 ?_))))
   exact TA.a 10 z (moveLoc (.inr z) z) z (TA.dn (S.n (cf (v28,(b173,a164_1,c164_1,a169,c170,b136,τ164)) ⟨hh,hr164_0,zf171,hle164⟩ (Sub.f [2,2,2,3,4,5] 6))))
  skip
  refine TA.ac 3 z (OpOk.call (comp_leaving_con (x0:=x1) f1_0 f1_1 f1_2 u28) z z pf22 z z z z ?_)
  rintro _ τ175 _ hle175 ⟨a175_1,c175_1,rfl,hr175_0,rfl⟩
  replace f0_0:=f0_0.mono hle175
  replace f0_1:=f0_1.mono hle175
  replace f0_2:=f0_2.mono hle175
  replace f1_0:=f1_0.mono hle175
  replace f1_1:=f1_1.mono hle175
  replace f1_2:=f1_2.mono hle175
  have hr175_0b:=hr175_0.big
  refine kl 2 hle175 (TA.a 8 z (buildL z pl75 ze75 z) z (TA.ac 9 z (boxA z z z z (fun b176=>(kl 3 hle175 ?_)))))
  exact TA.a 10 z (moveLoc (.inr z) z) z (TA.dn (S.n (cf (v28,(b176,a175_1,c175_1,a165,c166,b136,τ175)) ⟨hh,hr175_0,zf167,hle175⟩ (Sub.f [2,2,2,3,4,5] 6))))
 skip
 obtain ⟨l112,⟨b111,a113,c114,a117,c118,b121,τ178⟩⟩:=g
 obtain ⟨hh,hr115,zf119,hle179⟩:=hg
 try dsimp only at hr115
 try dsimp only at zf119
 dsimp only at hle179
 replace f0_0:=f0_0.mono hle179
 replace f0_1:=f0_1.mono hle179
 replace f0_2:=f0_2.mono hle179
 replace f1_0:=f1_0.mono hle179
 replace f1_1:=f1_1.mono hle179
 replace f1_2:=f1_2.mono hle179
 try dsimp only
 dsimp only [comp_Compose_j1]at hh
 have hr115b:=hr115.big
 have zf119b:=zf119.len
 refine TC.know (isSl_nest (q:=4) z zf119) (fun ⟨_,hb180⟩=> ?_)
 refine TC.seq (TC.a (TL.i z z (TL.en (TC.block (TC.unrolls 3 (UN.step (TC.a (TL.w z (OpVal.of (OpVal.lss z z z) (v':= .bool true) z) (TL.en (TC.seq (TC.t z (TC.skip (S.n (TC.seq (TC.block ?_)))))))))))))))
 refine TC.a (TL.i z z (TL.i z z (TL.en (TC.region (TL.l z z (TL.i z z (TL.op z (makeMapB (enc:=(fun x=>Value.agg (encTip x).toArray)) (encV:=unitV) z z z (fun b181=> ?_)))))))))
 refine TL.w z (nilCheckLoc z z) (TL.w z (fieldLoc z fo75_5 z) (TL.w z (OpVal.of (indexArrN (i:=0) z underlying73 sz72 z z (by decide)) (v':=loc b111 11) z) (TL.front 4 z z (TL.op z (storeMap z sz72 z z z z z ?_)))))
 refine TL.nil (B.n (S.n (TC.region (TL.w z (OpVal.of (OpVal.succ (k:=0) z z z (by omega)) (v':= .int .i64 1) z) (TL.i z z (TL.en (UN.step (TC.a (TL.w z (OpVal.of (OpVal.lss z z z) (v':= .bool true) z) (TL.en (TC.seq (TC.t z (TC.skip (S.n (TC.seq ?_)))))))))))))))
 refine TC.block (TC.a (TL.i z z (TL.i z z (TL.en (TC.region (TL.l z z (TL.i z z (TL.op z (makeMapB (enc:=(fun x=>Value.agg (encTip x).toArray)) (encV:=unitV) z z z (fun b183=> ?_))))))))))
 refine TL.w z (nilCheckLoc z z) (TL.w z (fieldLoc z fo75_5 z) (TL.w z (OpVal.of (indexArrN (i:=1) z underlying73 sz72 z z (by decide)) (v':=loc b111 12) z) (TL.front 1 z z (TL.op z (storeMap z sz72 z z z z z ?_)))))
 refine TL.nil (B.n (S.n (TC.region (TL.w z (OpVal.of (OpVal.succ (k:=1) z z z (by omega)) (v':= .int .i64 2) z) (TL.i z z (TL.en (UN.step (TC.a (TL.w z (OpVal.of (OpVal.lss z z z) (v':= .bool false) z) (TL.en (TC.seq (TC.f z (TC.exit (S.x (S.x ?_)))))))))))))))
 refine TC.exitHere (S.n (TC.seq (TC.a (TL.w z (fieldLoc z fo25_2 z) (TL.w z (loadLoc z ag22 z (i:=4) z z) (TL.w z (lenC z underlying22 z) (TL.i z z (TL.en (TC.block (TC.loopG (α:=((List (List Tip))×Nat)×((List (NP Tip)))) (rgs [(9,1),(51,23)]) (fun g=>[(51,.int .i64 ((g.1.2:Nat):Int))]) (fun g=>[Res.cells b101 #[.int .i64 x0.states,.slice a0_0 x0.starts.length c0_0,.slice a0_1 x0.ends.length c0_1,.slice a0_2 x0.arcs.length c0_2] 25,Res.cells b103 #[.int .i64 x1.states,.slice a1_0 x1.starts.length c1_0,.slice a1_1 x1.ends.length c1_1,.slice a1_2 x1.arcs.length c1_2] 25,Res.cells b105 #[.int .i64 0,.slice none 0 0,.slice none 0 0,.slice none 0 0] 25,Res.cells b111 #[.int .i64 x0.states,.slice a0_0 x0.starts.length c0_0,.slice a0_1 x0.ends.length c0_1,.slice a0_2 x0.arcs.length c0_2,.int .i64 x1.states,.slice a1_0 x1.starts.length c1_0,.slice a1_1 x1.ends.length c1_1,.slice a1_2 x1.arcs.length c1_2,.slice a113 l112.length c114,.slice a117 ((List.replicate x1.states.toNat ([]:List Tip)).length) c118,.map (some b121),.map (some b181),.map (some b183),.int .i64 0,.slice none 0 0,.slice none 0 0,.slice none 0 0,.bool false] 75,Res.nest 22 43 2 encTip (.slice a117 (List.replicate x1.states.toNat ([]:List Tip)).length c118) g.2,Res.mapB (fun x=>Value.agg (encArc x).toArray) unitV (some b121) (FM.emp:FM Arc Unit),Res.mapB (fun x=>Value.agg (encTip x).toArray) unitV (some b181) (FM.emp:FM Tip Unit),Res.mapB (fun x=>Value.agg (encTip x).toArray) unitV (some b183) (FM.emp:FM Tip Unit)]) (fun g=>τ178) (fun g=>iter (fun q:(List (List Tip))×Nat=>comp_Compose_b1 x1 x0 l112 q.1 q.2) g.1=some r∧g.1.1.length=(List.replicate x1.states.toNat ([]:List Tip)).length∧Zn g.2 g.1.1) (fun g=>rounds (fun q:(List (List Tip))×Nat=>comp_Compose_b1 x1 x0 l112 q.1 q.2) g.1) (((List.replicate x1.states.toNat ([]:List Tip)),0),(List.replicate x1.states.toNat (nilN:NP Tip))) (Sub.f [1,2,7,7,4,7,7,7] 8) z (by repeat (first|exact trivial|refine ⟨z,?_⟩)) ⟨hh,z,zf119⟩ (fun g1 j1 hg1=> ?_)))))))))))
 obtain ⟨⟨l196,k200⟩,z198⟩:=g1
 obtain ⟨hh,hn197,zf199⟩:=hg1
 try dsimp only at hn197 zf199 ⊢
 obtain ⟨z1,hh,hR1⟩:=iter_e hh
 dsimp only [comp_Compose_b1]at hh
 have hn197b:=hn197
 have zf199b:=zf199.len
 refine TC.know (isSl_nest (q:=4) z zf199) (fun ⟨_,hb201⟩=> ?_)
 refine TC.a (TL.w z (OpVal.lss z z z) (TL.en (TC.seq (TC.cD z hh (fun h202 hh=> ?_) (fun h202 hh=> ?_)))))
 ·refine TC.skip (S.n (TC.cutG (α:=(Unit)×((List (NP Tip)))) (rgs [(9,1),(53,20)]) (fun g=>[]) (fun g=>[Res.cells b101 #[.int .i64 x0.states,.slice a0_0 x0.starts.length c0_0,.slice a0_1 x0.ends.length c0_1,.slice a0_2 x0.arcs.length c0_2] 25,Res.cells b103 #[.int .i64 x1.states,.slice a1_0 x1.starts.length c1_0,.slice a1_1 x1.ends.length c1_1,.slice a1_2 x1.arcs.length c1_2] 25,Res.cells b105 #[.int .i64 0,.slice none 0 0,.slice none 0 0,.slice none 0 0] 25,Res.cells b111 #[.int .i64 x0.states,.slice a0_0 x0.starts.length c0_0,.slice a0_1 x0.ends.length c0_1,.slice a0_2 x0.arcs.length c0_2,.int .i64 x1.states,.slice a1_0 x1.starts.length c1_0,.slice a1_1 x1.ends.length c1_1,.slice a1_2 x1.arcs.length c1_2,.slice a113 l112.length c114,.slice a117 ((List.replicate x1.states.toNat ([]:List Tip)).length) c118,.map (some b121),.map (some b181),.map (some b183),.int .i64 0,.slice none 0 0,.slice none 0 0,.slice none 0 0,.bool false] 75,Res.nest 22 43 2 encTip (.slice a117 (List.replicate x1.states.toNat ([]:List Tip)).length c118) g.2,Res.mapB (fun x=>Value.agg (encArc x).toArray) unitV (some b121) (FM.emp:FM Arc Unit),Res.mapB (fun x=>Value.agg (encTip x).toArray) unitV (some b181) (FM.emp:FM Tip Unit),Res.mapB (fun x=>Value.agg (encTip x).toArray) unitV (some b183) (FM.emp:FM Tip Unit)]) (fun g=>τ178) (fun g=>comp_Compose_j2 l196 x1 k200=some z1∧(l196.set (((nth x1.ends k200 Tip.zero).state).toNat) ((nth l196 (((nth x1.ends k200 Tip.zero).state).toNat) ([]:List Tip))++[(nth x1.ends k200 Tip.zero)])).length=(List.replicate x1.states.toNat ([]:List Tip)).length∧Zn g.2 (l196.set (((nth x1.ends k200 Tip.zero).state).toNat) ((nth l196 (((nth x1.ends k200 Tip.zero).state).toNat) ([]:List Tip))++[(nth x1.ends k200 Tip.zero)]))) ?_ (fun g j hg=> ?_)))
  ·skip
   refine TC.block (TC.a (TL.w z (indexN z underlying22 sz43 z z f1_1.rv.sl (by omega)) (TL.w z (loadSA Tip.zero z ag43 sz43 z f1_1 (by omega) (by omega)) (TL.op z (OpOk.alloc z ze43 z z (fun b206=> ?_))))))
   refine TL.op z (storeAll z sz43 z z z z z z ?_)
   refine TL.en ?_
   have u70:=grd_c hh
   replace hh:=grd_t hh
   have u74:=grd_c hh
   replace hh:=grd_t hh
   have u75:=grd_c hh
   replace hh:=grd_t hh
   refine TC.drawR (Hr:=[Res.cells b206 #[.int .i64 ((nth x1.ends k200 Tip.zero).state),.string (bs ((nth x1.ends k200 Tip.zero).out))] 43,Res.cells b101 #[.int .i64 x0.states,.slice a0_0 x0.starts.length c0_0,.slice a0_1 x0.ends.length c0_1,.slice a0_2 x0.arcs.length c0_2] 25,Res.cells b103 #[.int .i64 x1.states,.slice a1_0 x1.starts.length c1_0,.slice a1_1 x1.ends.length c1_1,.slice a1_2 x1.arcs.length c1_2] 25,Res.cells b105 #[.int .i64 0,.slice none 0 0,.slice none 0 0,.slice none 0 0] 25,Res.cells b111 #[.int .i64 x0.states,.slice a0_0 x0.starts.length c0_0,.slice a0_1 x0.ends.length c0_1,.slice a0_2 x0.arcs.length c0_2,.int .i64 x1.states,.slice a1_0 x1.starts.length c1_0,.slice a1_1 x1.ends.length c1_1,.slice a1_2 x1.arcs.length c1_2,.slice a113 l112.length c114,.slice a117 ((List.replicate x1.states.toNat ([]:List Tip)).length) c118,.map (some b121),.map (some b181),.map (some b183),.int .i64 0,.slice none 0 0,.slice none 0 0,.slice none 0 0,.bool false] 75,Res.mapB (fun x=>Value.agg (encArc x).toArray) unitV (some b121) (FM.emp:FM Arc Unit),Res.mapB (fun x=>Value.agg (encTip x).toArray) unitV (some b181) (FM.emp:FM Tip Unit),Res.mapB (fun x=>Value.agg (encTip x).toArray) unitV (some b183) (FM.emp:FM Tip Unit)]) (fun r hr=>mem_pick [0,1,2,3,4,6,7,8] z hr) [] (by kernel_rfl) (TA.a 0 z (moveLoc (.inl z) z) z (TA.a 1 z (nilCheckLoc z z) z (TA.a 2 z (fieldLoc z fo75_3 z) z (TA.b 3 z (loadLoc z ag70 z (i:=4) z z) z (TA.a 4 z (fieldLoc z fo43_0 z) z (TA.b 5 z (loadLoc z ag3 z (i:=0) z z) z (TA.a 6 z (moveLoc (.inl z) z) z (TA.a 7 z (nilCheckLoc z z) z (TA.a 8 z (fieldLoc z fo75_3 z) z (TA.b 9 z (loadLoc z ag70 z (i:=4) z z) z (TA.a 10 z (fieldLoc z fo43_0 z) z (TA.b 11 z (loadLoc z ag3 z (i:=0) z z) z (TA.know (isSl_nest (q:=5) z zf199) (fun ⟨hs219,hs219b⟩=> ?_))))))))))))))
   refine TA.b 12 z (OpVal.index z underlying70 sz22 z z hs219 u70.1 u70.2) z (TA.b 14 z (loadAll z ag43 sz43 z (i:=0) z z) z ?_)
   obtain ⟨p220,hz220,hm220⟩:=Zn.at zf199 (i:=((nth x1.ends k200 Tip.zero).state).toNat) (by omega)
   refine TA.actN [13,15] (by kernel_rfl) (an z z (OpVal.ok (loadN z ag22 z (q:=5) z hz220 hm220) z z ⟨(fun w h=>sees_of (Store.le.refl _) (fun r hr=>mem_pick [0,1,2,3,4,6,7,8] z hr) w h),?_⟩) (an z z (OpOk.lit (enc:=encTip) [(nth x1.ends k200 Tip.zero)] z underlying22 sz43 ze43 z z z encTip_len (by decide) (by decide) Tip.zero z (by decide) z (by decide) encTip_one (fun a221 c222=>⟨(fun w h=>sees_of (Store.le.refl _) (fun r hr=>mem_pick [1,2,3,4,5,7,8,9] z hr) w h),?_⟩)) (True.intro)))
   ·skip
    refine TA.ac 15 z (OpOk.lit (enc:=encTip) [(nth x1.ends k200 Tip.zero)] z underlying22 sz43 ze43 z z z encTip_len (by decide) (by decide) Tip.zero z (by decide) z (by decide) encTip_one (fun a224 c225=>⟨(fun w h=>sees_of (Store.le.refl _) (fun r hr=>mem_pick [1,2,3,4,5,7,8,9] z hr) w h),?_⟩))
    refine TA.front 6 z z (TA.by (fun w h=>Reach.takeN hz220 hm220 h) (TA.ac 16 z (appendS z z underlying22 sz43 by43 ze43 z z (by decide) z z z (.inr ⟨_,1,z⟩) (by simpa using u74) (by decide) (fun a228 c229=>(k3 ?_)))))
    refine TA.know (isSl_nestX (q:=1) z zf199) (fun ⟨hs230,hs230b⟩=> ?_)
    refine TA.b 17 z (OpVal.index z underlying70 sz22 z z hs230 u75.1 u75.2) z (TA.front 1 z z (TA.front 1 z z ?_))
    have hn232:(l196.set (((nth x1.ends k200 Tip.zero).state).toNat) ((nth l196 (((nth x1.ends k200 Tip.zero).state).toNat) ([]:List Tip))++[(nth x1.ends k200 Tip.zero)])).length=(List.replicate x1.states.toNat ([]:List Tip)).length:=(List.length_set ..).trans hn197
    refine TA.ac 18 rfl (storeX (l':=((nth l196 (((nth x1.ends k200 Tip.zero).state).toNat) ([]:List Tip))++[(nth x1.ends k200 Tip.zero)])) rfl sz22 rfl rfl rfl rfl rfl (by rw [zf199.len];omega) zf199 (fun zf231=>(k2 ?_)))
    exact TA.dn (B.n (S.n (cf ((),(z198.set (((nth x1.ends k200 Tip.zero).state).toNat) (((nth l196 (((nth x1.ends k200 Tip.zero).state).toNat) ([]:List Tip))++[(nth x1.ends k200 Tip.zero)]),(a228,c229)))) ⟨hh,hn232,zf231⟩ (Sub.f [9,9,9,3,9,9,9,9] 8))))
   skip
   obtain ⟨p233,hz233,hm233⟩:=Zn.at zf199 (i:=((nth x1.ends k200 Tip.zero).state).toNat) (by omega)
   refine TA.ac 13 z (OpVal.ok (loadN z ag22 z (q:=6) z hz233 hm233) z z ⟨(fun w h=>sees_of (Store.le.refl _) (fun r hr=>mem_pick [1,2,3,4,5,7,8,9] z hr) w h),?_⟩)
   refine TA.front 6 z z (TA.by (fun w h=>Reach.takeN hz233 hm233 h) (TA.ac 16 z (appendS z z underlying22 sz43 by43 ze43 z z (by decide) z z z (.inr ⟨_,1,z⟩) (by simpa using u74) (by decide) (fun a235 c236=>(k3 ?_)))))
   refine TA.know (isSl_nestX (q:=1) z zf199) (fun ⟨hs237,hs237b⟩=> ?_)
   refine TA.b 17 z (OpVal.index z underlying70 sz22 z z hs237 u75.1 u75.2) z (TA.front 1 z z (TA.front 1 z z ?_))
   have hn239:(l196.set (((nth x1.ends k200 Tip.zero).state).toNat) ((nth l196 (((nth x1.ends k200 Tip.zero).state).toNat) ([]:List Tip))++[(nth x1.ends k200 Tip.zero)])).length=(List.replicate x1.states.toNat ([]:List Tip)).length:=(List.length_set ..).trans hn197
   refine TA.ac 18 rfl (storeX (l':=((nth l196 (((nth x1.ends k200 Tip.zero).state).toNat) ([]:List Tip))++[(nth x1.ends k200 Tip.zero)])) rfl sz22 rfl rfl rfl rfl rfl (by rw [zf199.len];omega) zf199 (fun zf238=>(k2 ?_)))
   exact TA.dn (B.n (S.n (cf ((),(z198.set (((nth x1.ends k200 Tip.zero).state).toNat) (((nth l196 (((nth x1.ends k200 Tip.zero).state).toNat) ([]:List Tip))++[(nth x1.ends k200 Tip.zero)]),(a235,c236)))) ⟨hh,hn239,zf238⟩ (Sub.f [9,9,9,3,9,9,9,9] 8))))
  skip
  obtain ⟨_,z204⟩:=g
  obtain ⟨hh,hn203,zf205⟩:=hg
  try dsimp only at hn203 zf205 ⊢
  dsimp only [comp_Compose_j2]at hh
  have hn203b:=hn203
  have zf205b:=zf205.len
  refine TC.know (isSl_nest (q:=4) z zf205) (fun ⟨_,hb240⟩=> ?_)
  refine TC.region (TL.w z (OpVal.succ z z z (by omega)) (TL.i z z (TL.en ?_)))
  obtain ⟨hh,hlt241⟩:=nxt_x hR1 hh
  exact lf (((l196.set (((nth x1.ends k200 Tip.zero).state).toNat) ((nth l196 (((nth x1.ends k200 Tip.zero).state).toNat) ([]:List Tip))++[(nth x1.ends k200 Tip.zero)])),(k200+1)),z204) hlt241 ⟨hh,hn203,zf205⟩ (Sub.f [7,7,7,7,7,7,7,7] 8)
 refine TC.exit (S.x (S.x ?_))
 replace hh:=fin_x hR1 hh
 refine TC.exitHere (S.n (TC.a (TL.l z z (TL.w z (fieldLoc z fo25_0 z) (TL.w z (loadLoc z ag3 z (i:=0) z z) (TL.w z (fieldLoc z fo25_0 z) (TL.w z (loadLoc z ag3 z (i:=1) z z) (TL.w z (mulW z z z) (TL.w z (nilCheckLoc z z) (TL.w z (fieldLoc z fo75_6 z) (TL.w z (fieldLoc z fo25_0 z) (TL.front 3 z z (TL.op z (storeI z sz3 z z z z z ?_))))))))))))))
 refine TL.en (TC.seq (TC.a (TL.l z z (TL.w z (makeFn z) (TL.l z z (TL.w z (makeFn z) (TL.l z z (TL.w z (makeFn z) (TL.op z (OpOk.lit (enc:=encFn) ([⟨.func (.func 23) #[loc b111 0] #[],z⟩,⟨.func (.func 24) #[loc b111 0] #[],z⟩,⟨.func (.func 25) #[loc b111 0] #[],z⟩]:List FnV) z underlying76 sz1 ze1 z z z encFn_len (by decide) (by decide) FnV.nil z (by decide) z (by decide) encFn_one (fun a242 c243=> ?_)))))))))))
 refine TL.w z (OpVal.of (lenC z underlying76 z) (v':= .int .i64 3) z) (TL.i z z (TL.en (TC.block (TC.unrolls 4 (UN.step (TC.a (TL.w z (OpVal.of (OpVal.lss z z z) (v':= .bool true) z) (TL.en (TC.seq (TC.t z (TC.skip (S.n (TC.seq (TC.block (TC.a ?_)))))))))))))))
 refine TL.isSl (i:=0) z (fun hs245 _ _=> ?_)
 refine TL.w z (indexN (i:=0) z underlying76 sz1 z z hs245 (show 0<3 from by decide)) (TL.w z (loadO1 FnV.nil z ag1 z (q:=0) z encFn_len (show 0<3 from by decide) z) (TL.w z (moveFn (.inr z) z) (TL.en (TC.a (TL.w z (moveFn (.inl z) z) ?_)))))
 rw [←hn197]
 refine TL.front 5 z z (TL.seals (fun w h=>Reach.sealNest encTip_len zf199 h) (fun τ248 hle247 hr246=> ?_))
 replace f0_0:=f0_0.mono hle247
 replace f0_1:=f0_1.mono hle247
 replace f0_2:=f0_2.mono hle247
 replace f1_0:=f1_0.mono hle247
 replace f1_1:=f1_1.mono hle247
 replace f1_2:=f1_2.mono hle247
 replace hr115:=hr115.mono hle247
 have hr246b:=hr246.big
 refine TL.nilS 43 2 encTip (TL.nilS 43 2 encTip (TL.nilS 66 8 encArc (TL.front 1 z z (TL.front 2 z z (TL.front 10 z z (TL.front 10 z z (TL.front 10 z z (TL.front 7 z z ?_))))))))
 obtain ⟨v103,u103,hh⟩:=bnd_e hh
 refine TL.op z (OpOk.call (comp_chain_starts_con (x0:=(⟨x0,x1,l112,l196,(FM.emp:FM Arc Unit),(⟨(FM.emp:FM Tip Unit),(FM.emp:FM Tip Unit)⟩:TwoM),(⟨IntKind.i64.wrap (x0.states * x1.states),([]:List Tip),([]:List Tip),([]:List Arc)⟩:Fst),false⟩:Chain)) f0_0 f0_1 f0_2 f1_0 f1_1 f1_2 hr115 hr246 u103) z z pf23 z z z z ?_)
 rintro _ _ _ hle252 ⟨b252_1,a252_2,c252_3,rfl,rfl,rfl⟩
 refine TL.en (TC.a (TL.l z z (TL.w z (nilCheckLoc z z) (TL.w z (fieldLoc z fo75_7 z) (TL.w z (loadLoc z ag4 z (i:=0) z z) (TL.en (TC.cB z hh (fun h255 hh=> ?_) (fun h255 hh=> ?_))))))))
 ·refine TC.a (TL.w z (buildL z pl25 ze25 z) (TL.front 10 z z (TL.op z (storeAll z sz25 z z z z z z ?_))))
  refine TL.i z z (TL.en (TC.rt 1 (B.r (S.r (S.r (B.r (S.r ?_)))))))
  obtain rfl:=so hh
  exact ro [] z (RVs.agg ag25 sz25 z (i:=0) z z (RVs.tmp z RVs.nil)) ⟨none,0,none,0,none,0,z,(RS.nilF _ encTip encTip_len),(RS.nilF _ encTip encTip_len),(RS.nilF _ encArc encArc_len),z⟩
 refine TC.skip (B.n (S.n (TC.region (TL.w z (OpVal.of (OpVal.succ (k:=0) z z z (by omega)) (v':= .int .i64 1) z) (TL.i z z (TL.en (UN.step (TC.a (TL.w z (OpVal.of (OpVal.lss z z z) (v':= .bool true) z) (TL.en (TC.seq (TC.t z (TC.skip (S.n (TC.seq ?_)))))))))))))))
 refine TC.block (TC.a (TL.isSl (i:=7) z (fun hs256 _ _=> ?_)))
 refine TL.w z (indexN (i:=1) z underlying76 sz1 z z hs256 (show 1<3 from by decide)) (TL.w z (loadO1 FnV.nil z ag1 z (q:=7) z encFn_len (show 1<3 from by decide) z) (TL.w z (moveFn (.inr z) z) (TL.en (TC.a (TL.w z (moveFn (.inl z) z) (TL.front 6 z z (TL.front 6 z z (TL.front 6 z z (TL.front 6 z z (TL.front 6 z z (TL.front 6 z z (TL.front 6 z z ?_))))))))))))
 obtain ⟨v103y,u103y,hh⟩:=bnd_e hh
 refine TL.op z (OpOk.call (comp_chain_stops_con (x0:=(⟨x0,x1,l112,l196,(FM.emp:FM Arc Unit),(⟨v103.tips.s,(FM.emp:FM Tip Unit)⟩:TwoM),(⟨IntKind.i64.wrap (x0.states * x1.states),v103.whole.starts,([]:List Tip),([]:List Arc)⟩:Fst),v103.over⟩:Chain)) f0_0 f0_1 f0_2 f1_0 f1_1 f1_2 hr115 hr246 u103y) z z pf24 z z z z ?_)
 rintro _ _ _ hle257 ⟨b257_1,a257_2,c257_3,rfl,rfl,rfl⟩
 refine TL.en (TC.a (TL.l z z (TL.w z (nilCheckLoc z z) (TL.w z (fieldLoc z fo75_7 z) (TL.w z (loadLoc z ag4 z (i:=0) z z) (TL.en (TC.cB z hh (fun h260 hh=> ?_) (fun h260 hh=> ?_))))))))
 ·refine TC.a (TL.w z (buildL z pl25 ze25 z) (TL.front 10 z z (TL.op z (storeAll z sz25 z z z z z z ?_))))
  refine TL.i z z (TL.en (TC.rt 1 (B.r (S.r (S.r (B.r (S.r ?_)))))))
  obtain rfl:=so hh
  exact ro [] z (RVs.agg ag25 sz25 z (i:=0) z z (RVs.tmp z RVs.nil)) ⟨none,0,none,0,none,0,z,(RS.nilF _ encTip encTip_len),(RS.nilF _ encTip encTip_len),(RS.nilF _ encArc encArc_len),z⟩
 refine TC.skip (B.n (S.n (TC.region (TL.w z (OpVal.of (OpVal.succ (k:=1) z z z (by omega)) (v':= .int .i64 2) z) (TL.i z z (TL.en (UN.step (TC.a (TL.w z (OpVal.of (OpVal.lss z z z) (v':= .bool true) z) (TL.en (TC.seq (TC.t z (TC.skip (S.n (TC.seq ?_)))))))))))))))
 refine TC.block (TC.a (TL.isSl (i:=7) z (fun hs261 _ _=> ?_)))
 refine TL.w z (indexN (i:=2) z underlying76 sz1 z z hs261 (show 2<3 from by decide)) (TL.w z (loadO1 FnV.nil z ag1 z (q:=7) z encFn_len (show 2<3 from by decide) z) (TL.w z (moveFn (.inr z) z) (TL.en (TC.a (TL.w z (moveFn (.inl z) z) (TL.front 6 z z (TL.front 6 z z (TL.front 6 z z (TL.front 6 z z (TL.front 6 z z (TL.front 6 z z (TL.front 6 z z ?_))))))))))))
 obtain ⟨v103yy,u103yy,hh⟩:=bnd_e hh
 refine TL.op z (OpOk.call (comp_chain_steps_con (x0:=(⟨x0,x1,l112,l196,(FM.emp:FM Arc Unit),(⟨v103.tips.s,v103y.tips.e⟩:TwoM),(⟨IntKind.i64.wrap (x0.states * x1.states),v103.whole.starts,v103y.whole.ends,([]:List Arc)⟩:Fst),v103y.over⟩:Chain)) f0_0 f0_1 f0_2 f1_0 f1_1 f1_2 hr115 hr246 u103yy) z z pf25 z z z z ?_)
 rintro _ _ _ hle262 ⟨b262_1,a262_2,c262_3,rfl,rfl,rfl⟩
 refine TL.en (TC.a (TL.l z z (TL.w z (nilCheckLoc z z) (TL.w z (fieldLoc z fo75_7 z) (TL.w z (loadLoc z ag4 z (i:=0) z z) (TL.en (TC.cB z hh (fun h265 hh=> ?_) (fun h265 hh=> ?_))))))))
 ·refine TC.a (TL.w z (buildL z pl25 ze25 z) (TL.front 10 z z (TL.op z (storeAll z sz25 z z z z z z ?_))))
  refine TL.i z z (TL.en (TC.rt 1 (B.r (S.r (S.r (B.r (S.r ?_)))))))
  obtain rfl:=so hh
  exact ro [] z (RVs.agg ag25 sz25 z (i:=0) z z (RVs.tmp z RVs.nil)) ⟨none,0,none,0,none,0,z,(RS.nilF _ encTip encTip_len),(RS.nilF _ encTip encTip_len),(RS.nilF _ encArc encArc_len),z⟩
 refine TC.skip (B.n (S.n (TC.region (TL.w z (OpVal.of (OpVal.succ (k:=2) z z z (by omega)) (v':= .int .i64 3) z) (TL.i z z (TL.en (UN.step (TC.a (TL.w z (OpVal.of (OpVal.lss z z z) (v':= .bool false) z) (TL.en (TC.seq (TC.f z (TC.exit (S.x (S.x ?_)))))))))))))))
 refine TC.exitHere (S.n (TC.a (TL.l z z (TL.w z (nilCheckLoc z z) (TL.w z (fieldLoc z fo75_6 z) (TL.w z (loadLocA z ag25 sz25 z (i:=0) z z z) (TL.front 4 z z (TL.sealS encTip_len (fun τ268 hle267 hr266=> ?_)))))))))
 have hr266b:=hr266.rv.big
 refine TL.front 4 z z (TL.sealS encTip_len (fun τ271 hle270 hr269=> ?_))
 replace hr266:=hr266.mono hle270
 have hr269b:=hr269.rv.big
 refine TL.front 4 z z (TL.sealS encArc_len (fun τ274 hle273 hr272=> ?_))
 replace hr266:=hr266.mono hle273
 replace hr269:=hr269.mono hle273
 have hr272b:=hr272.rv.big
 obtain ⟨v117yyy,u117yyy,hh⟩:=bnd_e hh
 refine TL.op z (OpOk.call (G0_ (x0:=(⟨IntKind.i64.wrap (x0.states * x1.states),v103.whole.starts,v103y.whole.ends,v103yy.whole.arcs⟩:Fst)) hr266 hr269 hr272 u117yyy) z z pf26 z z z z ?_)
 rintro _ τ275 _ hle275 ⟨a275_1,c275_1,a275_2,c275_2,a275_3,c275_3,rfl,hr275_0,hr275_1,hr275_2,rfl⟩
 have hr275_0b:=hr275_0.rv.big
 have hr275_1b:=hr275_1.rv.big
 have hr275_2b:=hr275_2.rv.big
 refine TL.w z (OpVal.extract z z z) (TL.w z (OpVal.extract z z z) (TL.front 7 z z (TL.op z (storeAll z sz25 z z z z z z ?_))))
 refine TL.i z z (TL.en (TC.rt 1 ?_))
 obtain rfl:=so hh
 exact ro [] z (RVs.agg ag25 sz25 z (i:=0) z z (RVs.tmp z RVs.nil)) ⟨a275_1,c275_1,a275_2,c275_2,a275_3,c275_3,z,hr275_0,hr275_1,hr275_2,z⟩
end Go.Proofs.YtamgjehhjkgelaaGreatDoor
end

noncomputable section
namespace Go.Proofs.YtamgjehhjkgelaaGreatDoor
open Go Go.E
theorem state_con(σ:Store)(s n:Int):Con Tryz.prog 74 #[.int .i64 s,.int .i64 n] σ [] (PureP (.bool (stateB s n)) σ):=by
  refine Con.mk (n:=12) Tryz.func74 rfl rfl rfl (fun w0=> ?_)
  refine TC.seq ?_
  refine TC.region ?_
  refine TL.v rfl (OpVal.moveB (.inr rfl) rfl) rfl rfl ?_
  refine TL.nil ?_
  refine S.n ?_
  refine TC.seq ?_
  refine TC.region ?_
  refine TL.v rfl (OpVal.moveI (.inl rfl) rfl) rfl rfl ?_
  refine TL.v rfl (OpVal.leq rfl rfl rfl) rfl rfl ?_
  refine TL.v rfl (OpVal.moveB (.inl rfl) rfl) rfl rfl ?_
  refine TL.split 7 rfl (fun h1=> ?_) (fun h1=> ?_)
  · try simp only [decide_eq_true_eq,decide_eq_false_iff_not,Bool.not_eq_true',Bool.not_eq_false',Bool.not_eq_eq_eq_not,Bool.not_true,Bool.not_false,Int.not_lt,Int.not_le,Decidable.not_not]at h1
    refine TL.gv rfl rfl rfl rfl rfl (OpVal.moveI (.inl rfl) rfl) rfl rfl ?_
    refine TL.gv rfl rfl rfl rfl rfl (OpVal.moveI (.inl rfl) rfl) rfl rfl ?_
    refine TL.gv rfl rfl rfl rfl rfl (OpVal.lss rfl rfl rfl) rfl rfl ?_
    refine TL.v rfl (OpVal.pickTB rfl rfl rfl) rfl rfl ?_
    refine TL.v rfl (OpVal.moveB (.inr rfl) rfl) rfl rfl ?_
    refine TL.nil ?_
    refine S.n ?_
    refine TC.ret ?_
    -- leaf 1 ret [h1: t7=True] H=[]
    refine ret1P rfl (congrArg Value.bool ?_)
    simp [stateB, *]<;>omega
  try simp only [decide_eq_true_eq,decide_eq_false_iff_not,Bool.not_eq_true',Bool.not_eq_false',Bool.not_eq_eq_eq_not,Bool.not_true,Bool.not_false,Int.not_lt,Int.not_le,Decidable.not_not]at h1
  refine TL.goff rfl rfl rfl rfl rfl rfl rfl rfl ?_
  refine TL.goff rfl rfl rfl rfl rfl rfl rfl rfl ?_
  refine TL.goff rfl rfl rfl rfl rfl rfl rfl rfl ?_
  refine TL.v rfl (OpVal.pickFB rfl rfl rfl) rfl rfl ?_
  refine TL.v rfl (OpVal.moveB (.inr rfl) rfl) rfl rfl ?_
  refine TL.nil ?_
  refine S.n ?_
  refine TC.ret ?_
  -- leaf 2 ret [h1: t7=False] H=[]
  refine ret1P rfl (congrArg Value.bool ?_)
  simp [stateB, *]<;>omega
theorem rise_con (σ : Store) (a : Option Addr) (c : Nat) (l : List Int) (st : Int) (hl : RS σ 1 eI_ (.slice a l.length c) l) :
    Con Tryz.prog 73 #[.slice a l.length c,.int .i64 st] σ [] (PureP (.bool (riseB l st)) σ):=by
  have hb:=hl.rv.big
  refine Con.mk (n:=32) Tryz.func73 rfl rfl rfl (fun w0=> ?_)
  refine TC.seq ?_
  refine TC.region ?_
  refine TL.v rfl (OpVal.moveB (.inr rfl) rfl) rfl rfl ?_
  refine TL.nil ?_
  refine S.n ?_
  refine TC.seq ?_
  refine TC.seq ?_
  refine TC.region ?_
  refine TL.v rfl (OpVal.moveSl (.inl rfl) rfl) rfl rfl ?_
  refine TL.v rfl (OpVal.lenC rfl Tryz.underlying46 rfl) rfl rfl ?_
  refine TL.v rfl (OpVal.moveI (.inl rfl) rfl) rfl rfl ?_
  refine TL.nil ?_
  refine S.n ?_
  refine TC.block ?_
  refine TC.loopF (α:=Nat) [4,5,6,9,10,11,12,13,14,15,16,17,18,19,20,21,22,23,24,25,26,27,28,29,30,31] (fun k=>[(9,.int .i64 (k:Nat))]) (fun _=>_) (fun _=>_) (fun k=>k≤l.length∧ ∀i,i<k→riseFrom st l i=true) (fun k=>l.length - k) (0) (by first|exact True.intro|omega|(dsimp only;omega)|(simp;done)|(simp;omega)) (by repeat (first|exact trivial|refine ⟨rfl,?_⟩)) (by rfl) (by rfl) (fun g1 j1 hg1=> ?_)
  obtain ⟨hk,hi⟩:=hg1
  refine TC.seq ?_
  refine TC.region ?_
  refine TL.v rfl (OpVal.lss rfl rfl rfl) rfl rfl ?_
  refine TL.nil ?_
  refine S.n ?_
  refine TC.seq ?_
  refine TC.condD rfl (fun h1=> ?_) (fun h1=> ?_)
  · try simp only [decide_eq_true_eq, decide_eq_false_iff_not, Bool.not_eq_true', Bool.not_eq_false', Bool.not_eq_eq_eq_not, Bool.not_true, Bool.not_false, Int.not_lt, Int.not_le, Decidable.not_not] at h1
    refine TC.skip ?_
    refine S.n ?_
    refine TC.seq ?_
    refine TC.block ?_
    refine TC.seq ?_
    refine TC.region ?_
    refine TL.v rfl (OpVal.moveI (.inl rfl) rfl) rfl rfl ?_
    refine TL.v rfl (OpVal.indexN rfl Tryz.underlying46 sz3 rfl rfl (by first|assumption|exact (RS.rv (by assumption)).sl) (by omega)) rfl rfl ?_
    refine TL.v rfl (OpVal.loadS1 (0:Int) rfl ag3 rfl (by assumption) (by omega) rfl) rfl rfl ?_
    refine TL.v rfl (OpVal.moveI (.inr rfl) rfl) rfl rfl ?_
    refine TL.v rfl (OpVal.moveI (.inr rfl) rfl) rfl rfl ?_
    refine TL.nil ?_
    refine S.n ?_
    refine TC.seq ?_
    refine TC.region ?_
    refine TL.v rfl (OpVal.moveI (.inl rfl) rfl) rfl rfl ?_
    refine TL.v rfl (OpVal.moveI (.inl rfl) rfl) rfl rfl ?_
    refine TL.op rfl (OpOk.callP (state_con _ _ _) rfl rfl pf74 rfl rfl rfl ?_)
    refine TL.v rfl (OpVal.not rfl rfl) rfl rfl ?_
    refine TL.v rfl (OpVal.moveB (.inl rfl) rfl) rfl rfl ?_
    refine TL.split 18 rfl (fun h2=> ?_) (fun h2=> ?_)
    · try simp only [decide_eq_true_eq,decide_eq_false_iff_not,Bool.not_eq_true',Bool.not_eq_false',Bool.not_eq_eq_eq_not,Bool.not_true,Bool.not_false,Int.not_lt,Int.not_le,Decidable.not_not]at h2
      refine TL.goff rfl rfl rfl rfl rfl rfl rfl rfl ?_
      refine TL.goff rfl rfl rfl rfl rfl rfl rfl rfl ?_
      refine TL.goff rfl rfl rfl rfl rfl rfl rfl rfl ?_
      refine TL.goff' rfl rfl rfl rfl rfl rfl rfl ?_
      refine TL.goff' rfl rfl rfl rfl rfl rfl rfl ?_
      refine TL.goff' rfl rfl rfl rfl rfl rfl rfl ?_
      refine TL.goff' rfl rfl rfl rfl rfl rfl rfl ?_
      refine TL.goff' rfl rfl rfl rfl rfl rfl rfl ?_
      refine TL.goff' rfl rfl rfl rfl rfl rfl rfl ?_
      refine TL.goff' rfl rfl rfl rfl rfl rfl rfl ?_
      refine TL.goff rfl rfl rfl rfl rfl rfl rfl rfl ?_
      refine TL.v rfl (OpVal.pickTB rfl rfl rfl) rfl rfl ?_
      refine TL.nil ?_
      refine S.n ?_
      refine TC.cond rfl (fun _=> ?_) (fun h=>Bool.noConfusion h)
      refine TC.seq ?_
      refine TC.region ?_
      refine TL.v rfl (OpVal.moveB (.inr rfl) rfl) rfl rfl ?_
      refine TL.nil ?_
      refine S.n ?_
      refine TC.ret ?_
      refine B.r ?_
      refine S.r ?_
      refine S.r ?_
      refine B.r ?_
      refine S.r ?_
      -- leaf 1 ret [h1: True; h2: t18=True] H=[]
      refine ret1P rfl (congrArg Value.bool ?_)
      exact (riseB_no (k:=g1) (by omega) (by simp [riseFrom,h2])).symm
    try simp only [decide_eq_true_eq,decide_eq_false_iff_not,Bool.not_eq_true',Bool.not_eq_false',Bool.not_eq_eq_eq_not,Bool.not_true,Bool.not_false,Int.not_lt,Int.not_le,Decidable.not_not]at h2
    refine TL.gv rfl rfl rfl rfl rfl (OpVal.moveI (.inl rfl) rfl) rfl rfl ?_
    refine TL.gv rfl rfl rfl rfl rfl (OpVal.gtr rfl rfl rfl) rfl rfl ?_
    refine TL.gv rfl rfl rfl rfl rfl (OpVal.moveB (.inl rfl) rfl) rfl rfl ?_
    refine TL.split 21 rfl (fun h3=> ?_) (fun h3=> ?_)
    · try simp only [decide_eq_true_eq,decide_eq_false_iff_not,Bool.not_eq_true',Bool.not_eq_false',Bool.not_eq_eq_eq_not,Bool.not_true,Bool.not_false,Int.not_lt,Int.not_le,Decidable.not_not]at h3
      refine TL.gv rfl rfl rfl rfl rfl (OpVal.moveI (.inl rfl) rfl) rfl rfl ?_
      refine TL.gv rfl rfl rfl rfl rfl (OpVal.moveSl (.inl rfl) rfl) rfl rfl ?_
      refine TL.gv rfl rfl rfl rfl rfl (OpVal.moveI (.inl rfl) rfl) rfl rfl ?_
      refine TL.gv rfl rfl rfl rfl rfl (OpVal.sub rfl rfl rfl (by omega) (by omega)) rfl rfl ?_
      refine TL.gv rfl rfl rfl rfl rfl (OpVal.index rfl Tryz.underlying46 sz3 rfl rfl (by first|assumption|exact (RS.rv (by assumption)).sl) (by omega) (by omega)) rfl rfl ?_
      refine TL.gv rfl rfl rfl rfl rfl (OpVal.loadS1 (0:Int) rfl ag3 rfl (by assumption) (by omega) rfl) rfl rfl ?_
      refine TL.gv rfl rfl rfl rfl rfl (OpVal.leq rfl rfl rfl) rfl rfl ?_
      refine TL.gv rfl rfl rfl rfl rfl (OpVal.pickTB rfl rfl rfl) rfl rfl ?_
      refine TL.v rfl (OpVal.pickFB rfl rfl rfl) rfl rfl ?_
      refine TL.nil ?_
      refine S.n ?_
      refine TC.condD rfl (fun h4=> ?_) (fun h4=> ?_)
      · try simp only [decide_eq_true_eq,decide_eq_false_iff_not,Bool.not_eq_true',Bool.not_eq_false',Bool.not_eq_eq_eq_not,Bool.not_true,Bool.not_false,Int.not_lt,Int.not_le,Decidable.not_not]at h4
        refine TC.seq ?_
        refine TC.region ?_
        refine TL.v rfl (OpVal.moveB (.inr rfl) rfl) rfl rfl ?_
        refine TL.nil ?_
        refine S.n ?_
        refine TC.ret ?_
        refine B.r ?_
        refine S.r ?_
        refine S.r ?_
        refine B.r ?_
        refine S.r ?_
        -- leaf 2 ret [h1: True; h2: t18=False; h3: t21=True; h4: True] H=[]
        refine ret1P rfl (congrArg Value.bool ?_)
        exact (riseB_no (k:=g1) (by omega) (by rw [show ((g1:Int) - 1).toNat=g1 - 1 from by omega]at h4;simp [riseFrom,h2,h4];omega)).symm
      try simp only [decide_eq_true_eq,decide_eq_false_iff_not,Bool.not_eq_true',Bool.not_eq_false',Bool.not_eq_eq_eq_not,Bool.not_true,Bool.not_false,Int.not_lt,Int.not_le,Decidable.not_not]at h4
      refine TC.skip ?_
      refine B.n ?_
      refine S.n ?_
      refine TC.region ?_
      refine TL.v rfl (OpVal.succ rfl rfl rfl (by omega)) rfl rfl ?_
      refine TL.v rfl (OpVal.moveI (.inl rfl) rfl) rfl rfl ?_
      refine TL.nil ?_
      refine S.n ?_
      -- leaf 3 next [h1: True; h2: t18=False; h3: t21=True; h4: False] H=[]
      refine ⟨by repeat (first|exact Agr.mask|refine Agr.upd rfl ?_ |refine Agr.maskIn rfl ?_),g1+1,?_,?_,?_,?_,?_⟩
      · omega
      · exact ⟨by omega,all_step hi (by rw [show ((g1:Int) - 1).toNat=g1 - 1 from by omega]at h4;simp [riseFrom,h2];omega)⟩
      · repeat (first|exact trivial|refine ⟨rfl,?_⟩)
      · rfl
      rfl
    try simp only [decide_eq_true_eq,decide_eq_false_iff_not,Bool.not_eq_true',Bool.not_eq_false',Bool.not_eq_eq_eq_not,Bool.not_true,Bool.not_false,Int.not_lt,Int.not_le,Decidable.not_not]at h3
    refine TL.goff rfl rfl rfl rfl rfl rfl rfl rfl ?_
    refine TL.goff rfl rfl rfl rfl rfl rfl rfl rfl ?_
    refine TL.goff rfl rfl rfl rfl rfl rfl rfl rfl ?_
    refine TL.goff rfl rfl rfl rfl rfl rfl rfl rfl ?_
    refine TL.goff rfl rfl rfl rfl rfl rfl rfl rfl ?_
    refine TL.goff rfl rfl rfl rfl rfl rfl rfl rfl ?_
    refine TL.goff rfl rfl rfl rfl rfl rfl rfl rfl ?_
    refine TL.gv rfl rfl rfl rfl rfl (OpVal.pickFB rfl rfl rfl) rfl rfl ?_
    refine TL.v rfl (OpVal.pickFB rfl rfl rfl) rfl rfl ?_
    refine TL.nil ?_
    refine S.n ?_
    refine TC.cond rfl (fun h=>Bool.noConfusion h) (fun _=> ?_)
    refine TC.skip ?_
    refine B.n ?_
    refine S.n ?_
    refine TC.region ?_
    refine TL.v rfl (OpVal.succ rfl rfl rfl (by omega)) rfl rfl ?_
    refine TL.v rfl (OpVal.moveI (.inl rfl) rfl) rfl rfl ?_
    refine TL.nil ?_
    refine S.n ?_
    -- leaf 4 next [h1: True; h2: t18=False; h3: t21=False] H=[]
    refine ⟨by repeat (first|exact Agr.mask|refine Agr.upd rfl ?_ |refine Agr.maskIn rfl ?_),g1+1,?_,?_,?_,?_,?_⟩
    · omega
    · exact ⟨by omega,all_step hi (by simp [riseFrom,h2];omega)⟩
    · repeat (first|exact trivial|refine ⟨rfl,?_⟩)
    · rfl
    rfl
  try simp only [decide_eq_true_eq,decide_eq_false_iff_not,Bool.not_eq_true',Bool.not_eq_false',Bool.not_eq_eq_eq_not,Bool.not_true,Bool.not_false,Int.not_lt,Int.not_le,Decidable.not_not]at h1
  refine TC.exit ?_
  refine S.x ?_
  refine S.x ?_
  refine TC.exitHere ?_
  refine S.n ?_
  refine TC.seq ?_
  refine TC.region ?_
  refine TL.v rfl (OpVal.moveB (.inr rfl) rfl) rfl rfl ?_
  refine TL.nil ?_
  refine S.n ?_
  refine TC.ret ?_
  -- leaf 5 ret [h1: False] H=[]
  refine ret1P rfl (congrArg Value.bool ?_)
  exact (riseB_yes (k:=g1) (by omega) hi).symm
theorem check_con(σ:Store)(n:Nfa)(p:NfaP)(hn:RNfa σ n p):Con Tryz.prog 38 #[nfaV n p] σ [] (PureP (.int .i64 (errB (checkB n))) σ):=by
  have hb:=hn.d.rv.big
  have hd:=hn.d
  refine Con.mk (n:=61) Tryz.func38 rfl rfl rfl (fun w0=> ?_)
  refine TC.seq ?_
  refine TC.region ?_
  refine TL.op rfl (OpOk.boxA rfl rfl rfl rfl (fun b1=> ?_))
  refine TL.v rfl (OpVal.moveI (.inr rfl) rfl) rfl rfl ?_
  refine TL.nil ?_
  refine S.n ?_
  refine TC.seq ?_
  refine TC.seq ?_
  refine TC.region ?_
  refine TL.v rfl (OpVal.fieldLoc rfl fo61_0 rfl) rfl rfl ?_
  refine TL.v rfl (OpVal.loadLoc rfl ag3 rfl (i:=0) rfl rfl) rfl rfl ?_
  refine TL.v rfl (OpVal.lss rfl rfl rfl) rfl rfl ?_
  refine TL.v rfl (OpVal.moveB (.inl rfl) rfl) rfl rfl ?_
  refine TL.split 8 rfl (fun h3=> ?_) (fun h3=> ?_)
  · try simp only [decide_eq_true_eq,decide_eq_false_iff_not,Bool.not_eq_true',Bool.not_eq_false',Bool.not_eq_eq_eq_not,Bool.not_true,Bool.not_false,Int.not_lt,Int.not_le,Decidable.not_not]at h3
    refine TL.goff rfl rfl rfl rfl rfl rfl rfl rfl ?_
    refine TL.goff rfl rfl rfl rfl rfl rfl rfl rfl ?_
    refine TL.goff rfl rfl rfl rfl rfl rfl rfl rfl ?_
    refine TL.v rfl (OpVal.pickTB rfl rfl rfl) rfl rfl ?_
    refine TL.v rfl (OpVal.moveB (.inl rfl) rfl) rfl rfl ?_
    refine TL.goff rfl rfl rfl rfl rfl rfl rfl rfl ?_
    refine TL.goff rfl rfl rfl rfl rfl rfl rfl rfl ?_
    refine TL.goff rfl rfl rfl rfl rfl rfl rfl rfl ?_
    refine TL.goff rfl rfl rfl rfl rfl rfl rfl rfl ?_
    refine TL.v rfl (OpVal.pickTB rfl rfl rfl) rfl rfl ?_
    refine TL.nil ?_
    refine S.n ?_
    refine TC.cond rfl (fun _=> ?_) (fun h=>Bool.noConfusion h)
    refine TC.seq ?_
    refine TC.region ?_
    refine TL.v rfl (OpVal.moveI (.inr rfl) rfl) rfl rfl ?_
    refine TL.nil ?_
    refine S.n ?_
    refine TC.ret ?_
    refine S.r ?_
    -- leaf 1 ret [h3: t8=True] H=['q2']
    refine ret1P rfl (congrArg (Value.int _) ?_)
    exact (congrArg errB (show checkB n=false from by simp only [checkB,Bool.and_eq_false_iff,decide_eq_false_iff_not];omega)).symm
  try simp only [decide_eq_true_eq,decide_eq_false_iff_not,Bool.not_eq_true',Bool.not_eq_false',Bool.not_eq_eq_eq_not,Bool.not_true,Bool.not_false,Int.not_lt,Int.not_le,Decidable.not_not]at h3
  refine TL.gv rfl rfl rfl rfl rfl (OpVal.fieldLoc rfl fo61_0 rfl) rfl rfl ?_
  refine TL.gv rfl rfl rfl rfl rfl (OpVal.loadLoc rfl ag3 rfl (i:=0) rfl rfl) rfl rfl ?_
  refine TL.gv rfl rfl rfl rfl rfl (OpVal.gtr rfl rfl rfl) rfl rfl ?_
  refine TL.v rfl (OpVal.pickFB rfl rfl rfl) rfl rfl ?_
  refine TL.v rfl (OpVal.moveB (.inl rfl) rfl) rfl rfl ?_
  refine TL.split 13 rfl (fun h4=> ?_) (fun h4=> ?_)
  · try simp only [decide_eq_true_eq,decide_eq_false_iff_not,Bool.not_eq_true',Bool.not_eq_false',Bool.not_eq_eq_eq_not,Bool.not_true,Bool.not_false,Int.not_lt,Int.not_le,Decidable.not_not]at h4
    refine TL.goff rfl rfl rfl rfl rfl rfl rfl rfl ?_
    refine TL.goff rfl rfl rfl rfl rfl rfl rfl rfl ?_
    refine TL.goff rfl rfl rfl rfl rfl rfl rfl rfl ?_
    refine TL.goff rfl rfl rfl rfl rfl rfl rfl rfl ?_
    refine TL.v rfl (OpVal.pickTB rfl rfl rfl) rfl rfl ?_
    refine TL.nil ?_
    refine S.n ?_
    refine TC.cond rfl (fun _=> ?_) (fun h=>Bool.noConfusion h)
    refine TC.seq ?_
    refine TC.region ?_
    refine TL.v rfl (OpVal.moveI (.inr rfl) rfl) rfl rfl ?_
    refine TL.nil ?_
    refine S.n ?_
    refine TC.ret ?_
    refine S.r ?_
    -- leaf 2 ret [h3: t8=False; h4: t13=True] H=['q2']
    refine ret1P rfl (congrArg (Value.int _) ?_)
    exact (congrArg errB (show checkB n=false from by simp only [checkB,Bool.and_eq_false_iff,decide_eq_false_iff_not];omega)).symm
  try simp only [decide_eq_true_eq,decide_eq_false_iff_not,Bool.not_eq_true',Bool.not_eq_false',Bool.not_eq_eq_eq_not,Bool.not_true,Bool.not_false,Int.not_lt,Int.not_le,Decidable.not_not]at h4
  refine TL.gv rfl rfl rfl rfl rfl (OpVal.fieldLoc rfl fo61_3 rfl) rfl rfl ?_
  refine TL.gv rfl rfl rfl rfl rfl (OpVal.loadLoc rfl ag59 rfl (i:=0) rfl rfl) rfl rfl ?_
  refine TL.gv rfl rfl rfl rfl rfl (OpVal.lenC rfl Tryz.underlying59 rfl) rfl rfl ?_
  refine TL.gv rfl rfl rfl rfl rfl (OpVal.gtr rfl rfl rfl) rfl rfl ?_
  refine TL.v rfl (OpVal.pickFB rfl rfl rfl) rfl rfl ?_
  refine TL.nil ?_
  refine S.n ?_
  refine TC.condD rfl (fun h5=> ?_) (fun h5=> ?_)
  · try simp only [decide_eq_true_eq,decide_eq_false_iff_not,Bool.not_eq_true',Bool.not_eq_false',Bool.not_eq_eq_eq_not,Bool.not_true,Bool.not_false,Int.not_lt,Int.not_le,Decidable.not_not]at h5
    refine TC.seq ?_
    refine TC.region ?_
    refine TL.v rfl (OpVal.moveI (.inr rfl) rfl) rfl rfl ?_
    refine TL.nil ?_
    refine S.n ?_
    refine TC.ret ?_
    refine S.r ?_
    -- leaf 3 ret [h3: t8=False; h4: t13=False; h5: True] H=['q2']
    refine ret1P rfl (congrArg (Value.int _) ?_)
    exact (congrArg errB (show checkB n=false from by simp only [checkB,Bool.and_eq_false_iff,decide_eq_false_iff_not];omega)).symm
  try simp only [decide_eq_true_eq,decide_eq_false_iff_not,Bool.not_eq_true',Bool.not_eq_false',Bool.not_eq_eq_eq_not,Bool.not_true,Bool.not_false,Int.not_lt,Int.not_le,Decidable.not_not]at h5
  refine TC.skip ?_
  refine S.n ?_
  refine TC.seq ?_
  refine TC.seq ?_
  refine TC.region ?_
  refine TL.v rfl (OpVal.fieldLoc rfl fo61_1 rfl) rfl rfl ?_
  refine TL.v rfl (OpVal.loadLoc rfl ag46 rfl (i:=0) rfl rfl) rfl rfl ?_
  refine TL.v rfl (OpVal.fieldLoc rfl fo61_0 rfl) rfl rfl ?_
  refine TL.v rfl (OpVal.loadLoc rfl ag3 rfl (i:=0) rfl rfl) rfl rfl ?_
  refine TL.op rfl (OpOk.callP (rise_con _ _ _ _ _ hn.s) rfl rfl pf73 rfl rfl rfl ?_)
  refine TL.v rfl (OpVal.not rfl rfl) rfl rfl ?_
  refine TL.v rfl (OpVal.moveB (.inl rfl) rfl) rfl rfl ?_
  refine TL.split 25 rfl (fun h6=> ?_) (fun h6=> ?_)
  · try simp only [decide_eq_true_eq,decide_eq_false_iff_not,Bool.not_eq_true',Bool.not_eq_false',Bool.not_eq_eq_eq_not,Bool.not_true,Bool.not_false,Int.not_lt,Int.not_le,Decidable.not_not]at h6
    refine TL.goff rfl rfl rfl rfl rfl rfl rfl rfl ?_
    refine TL.goff rfl rfl rfl rfl rfl rfl rfl rfl ?_
    refine TL.goff rfl rfl rfl rfl rfl rfl rfl rfl ?_
    refine TL.goff rfl rfl rfl rfl rfl rfl rfl rfl ?_
    refine TL.goff rfl rfl rfl rfl rfl rfl rfl rfl ?_
    refine TL.goff rfl rfl rfl rfl rfl rfl rfl rfl ?_
    refine TL.v rfl (OpVal.pickTB rfl rfl rfl) rfl rfl ?_
    refine TL.nil ?_
    refine S.n ?_
    refine TC.cond rfl (fun _=> ?_) (fun h=>Bool.noConfusion h)
    refine TC.seq ?_
    refine TC.region ?_
    refine TL.v rfl (OpVal.moveI (.inr rfl) rfl) rfl rfl ?_
    refine TL.nil ?_
    refine S.n ?_
    refine TC.ret ?_
    refine S.r ?_
    -- leaf 4 ret [h3: t8=False; h4: t13=False; h5: False; h6: t25=True] H=['q2']
    refine ret1P rfl (congrArg (Value.int _) ?_)
    exact (congrArg errB (show checkB n=false from by simp [checkB,h6])).symm
  try simp only [decide_eq_true_eq,decide_eq_false_iff_not,Bool.not_eq_true',Bool.not_eq_false',Bool.not_eq_eq_eq_not,Bool.not_true,Bool.not_false,Int.not_lt,Int.not_le,Decidable.not_not]at h6
  refine TL.gv rfl rfl rfl rfl rfl (OpVal.fieldLoc rfl fo61_2 rfl) rfl rfl ?_
  refine TL.gv rfl rfl rfl rfl rfl (OpVal.loadLoc rfl ag46 rfl (i:=0) rfl rfl) rfl rfl ?_
  refine TL.gv rfl rfl rfl rfl rfl (OpVal.fieldLoc rfl fo61_0 rfl) rfl rfl ?_
  refine TL.gv rfl rfl rfl rfl rfl (OpVal.loadLoc rfl ag3 rfl (i:=0) rfl rfl) rfl rfl ?_
  refine TL.gon rfl rfl rfl rfl rfl (OpOk.callP (rise_con _ _ _ _ _ (by first|exact hn.s|exact hn.e)) rfl rfl pf73 rfl rfl rfl ?_)
  refine TL.gv rfl rfl rfl rfl rfl (OpVal.not rfl rfl) rfl rfl ?_
  refine TL.v rfl (OpVal.pickFB rfl rfl rfl) rfl rfl ?_
  refine TL.nil ?_
  refine S.n ?_
  refine TC.cond rfl (fun h7=> ?_) (fun h7=> ?_)
  · try simp only [decide_eq_true_eq,decide_eq_false_iff_not,Bool.not_eq_true',Bool.not_eq_false',Bool.not_eq_eq_eq_not,Bool.not_true,Bool.not_false,Int.not_lt,Int.not_le,Decidable.not_not]at h7
    refine TC.seq ?_
    refine TC.region ?_
    refine TL.v rfl (OpVal.moveI (.inr rfl) rfl) rfl rfl ?_
    refine TL.nil ?_
    refine S.n ?_
    refine TC.ret ?_
    refine S.r ?_
    -- leaf 5 ret [h3: t8=False; h4: t13=False; h5: False; h6: t25=False; h7: True] H=['q2']
    refine ret1P rfl (congrArg (Value.int _) ?_)
    exact (congrArg errB (show checkB n=false from by simp [checkB,h7])).symm
  try simp only [decide_eq_true_eq,decide_eq_false_iff_not,Bool.not_eq_true',Bool.not_eq_false',Bool.not_eq_eq_eq_not,Bool.not_true,Bool.not_false,Int.not_lt,Int.not_le,Decidable.not_not]at h7
  refine TC.skip ?_
  refine S.n ?_
  refine TC.seq ?_
  refine TC.seq ?_
  refine TC.region ?_
  refine TL.v rfl (OpVal.fieldLoc rfl fo61_3 rfl) rfl rfl ?_
  refine TL.v rfl (OpVal.loadLoc rfl ag59 rfl (i:=0) rfl rfl) rfl rfl ?_
  refine TL.v rfl (OpVal.lenC rfl Tryz.underlying59 rfl) rfl rfl ?_
  refine TL.v rfl (OpVal.moveI (.inl rfl) rfl) rfl rfl ?_
  refine TL.nil ?_
  refine S.n ?_
  refine TC.block ?_
  refine TC.loopF (α:=Nat) [2,4,36,37,38,39,40,41,42,43,44,45,46,47,48,49,50,51,52,53,54,55,56,57,58,59,60] (fun k=>[(36,.int .i64 (k:Nat))]) (fun _=>_) (fun _=>_) (fun k=>k≤n.edges.length∧ ∀i,i<k→edgeB n.states (nth n.edges i Arrow.zero)=true) (fun k=>n.edges.length - k) (0) (by first|exact True.intro|omega|(dsimp only;omega)|(simp;done)|(simp;omega)) (by repeat (first|exact trivial|refine ⟨rfl,?_⟩)) (by rfl) (by rfl) (fun g1 j1 hg1=> ?_)
  obtain ⟨hk,hi⟩:=hg1
  refine TC.seq ?_
  refine TC.region ?_
  refine TL.v rfl (OpVal.lss rfl rfl rfl) rfl rfl ?_
  refine TL.nil ?_
  refine S.n ?_
  refine TC.seq ?_
  refine TC.condD rfl (fun h8=> ?_) (fun h8=> ?_)
  · try simp only [decide_eq_true_eq,decide_eq_false_iff_not,Bool.not_eq_true',Bool.not_eq_false',Bool.not_eq_eq_eq_not,Bool.not_true,Bool.not_false,Int.not_lt,Int.not_le,Decidable.not_not]at h8
    refine TC.skip ?_
    refine S.n ?_
    refine TC.seq ?_
    refine TC.block ?_
    refine TC.seq ?_
    refine TC.region ?_
    refine TL.v rfl (OpVal.indexN rfl Tryz.underlying59 sz58 rfl rfl (by first|assumption|exact (RS.rv (by assumption)).sl) (by omega)) rfl rfl ?_
    refine TL.v rfl (OpVal.loadSA Arrow.zero rfl ag58 sz58 rfl (by assumption) (by omega) (by omega)) rfl rfl ?_
    refine TL.op rfl (OpOk.alloc rfl ze58 rfl rfl (fun b9=> ?_))
    refine TL.op rfl (OpOk.storeAll rfl sz58 rfl rfl rfl rfl rfl rfl ?_)
    refine TL.nil ?_
    refine S.n ?_
    refine TC.seq ?_
    refine TC.region ?_
    refine TL.v rfl (OpVal.fieldLoc rfl fo58_0 rfl) rfl rfl ?_
    refine TL.v rfl (OpVal.loadLoc rfl ag3 rfl (i:=0) rfl rfl) rfl rfl ?_
    refine TL.v rfl (OpVal.fieldLoc rfl fo61_0 rfl) rfl rfl ?_
    refine TL.v rfl (OpVal.loadLoc rfl ag3 rfl (i:=1) rfl rfl) rfl rfl ?_
    refine TL.op rfl (OpOk.callP (state_con _ _ _) rfl rfl pf74 rfl rfl rfl ?_)
    refine TL.v rfl (OpVal.not rfl rfl) rfl rfl ?_
    refine TL.v rfl (OpVal.moveB (.inl rfl) rfl) rfl rfl ?_
    refine TL.split 46 rfl (fun h11=> ?_) (fun h11=> ?_)
    · try simp only [decide_eq_true_eq,decide_eq_false_iff_not,Bool.not_eq_true',Bool.not_eq_false',Bool.not_eq_eq_eq_not,Bool.not_true,Bool.not_false,Int.not_lt,Int.not_le,Decidable.not_not]at h11
      refine TL.goff rfl rfl rfl rfl rfl rfl rfl rfl ?_
      refine TL.goff rfl rfl rfl rfl rfl rfl rfl rfl ?_
      refine TL.goff rfl rfl rfl rfl rfl rfl rfl rfl ?_
      refine TL.goff rfl rfl rfl rfl rfl rfl rfl rfl ?_
      refine TL.goff rfl rfl rfl rfl rfl rfl rfl rfl ?_
      refine TL.goff rfl rfl rfl rfl rfl rfl rfl rfl ?_
      refine TL.v rfl (OpVal.pickTB rfl rfl rfl) rfl rfl ?_
      refine TL.v rfl (OpVal.moveB (.inl rfl) rfl) rfl rfl ?_
      refine TL.goff rfl rfl rfl rfl rfl rfl rfl rfl ?_
      refine TL.goff rfl rfl rfl rfl rfl rfl rfl rfl ?_
      refine TL.goff rfl rfl rfl rfl rfl rfl rfl rfl ?_
      refine TL.goff rfl rfl rfl rfl rfl rfl rfl rfl ?_
      refine TL.v rfl (OpVal.pickTB rfl rfl rfl) rfl rfl ?_
      refine TL.nil ?_
      refine S.n ?_
      refine TC.cond rfl (fun _=> ?_) (fun h=>Bool.noConfusion h)
      refine TC.seq ?_
      refine TC.region ?_
      refine TL.v rfl (OpVal.moveI (.inr rfl) rfl) rfl rfl ?_
      refine TL.nil ?_
      refine S.n ?_
      refine TC.ret ?_
      refine B.r ?_
      refine S.r ?_
      refine S.r ?_
      refine B.r ?_
      refine S.r ?_
      -- leaf 6 ret [h3: t8=False; h4: t13=False; h5: False; h6: t25=False; h7: False; h8: True; h11: t46=True] H=['q10', 'q2']
      refine ret1P rfl (congrArg (Value.int _) ?_)
      exact (congrArg errB (show checkB n=false from by rw [checkB,edges_no (n:=n) (k:=g1) (by omega) (by simp [edgeB,h11]),Bool.and_false])).symm
    try simp only [decide_eq_true_eq,decide_eq_false_iff_not,Bool.not_eq_true',Bool.not_eq_false',Bool.not_eq_eq_eq_not,Bool.not_true,Bool.not_false,Int.not_lt,Int.not_le,Decidable.not_not]at h11
    refine TL.gv rfl rfl rfl rfl rfl (OpVal.fieldLoc rfl fo58_1 rfl) rfl rfl ?_
    refine TL.gv rfl rfl rfl rfl rfl (OpVal.loadLoc rfl ag3 rfl (i:=0) rfl rfl) rfl rfl ?_
    refine TL.gv rfl rfl rfl rfl rfl (OpVal.fieldLoc rfl fo61_0 rfl) rfl rfl ?_
    refine TL.gv rfl rfl rfl rfl rfl (OpVal.loadLoc rfl ag3 rfl (i:=1) rfl rfl) rfl rfl ?_
    refine TL.gon rfl rfl rfl rfl rfl (OpOk.callP (state_con _ _ _) rfl rfl pf74 rfl rfl rfl ?_)
    refine TL.gv rfl rfl rfl rfl rfl (OpVal.not rfl rfl) rfl rfl ?_
    refine TL.v rfl (OpVal.pickFB rfl rfl rfl) rfl rfl ?_
    refine TL.v rfl (OpVal.moveB (.inl rfl) rfl) rfl rfl ?_
    refine TL.split 54 rfl (fun h12=> ?_) (fun h12=> ?_)
    · try simp only [decide_eq_true_eq,decide_eq_false_iff_not,Bool.not_eq_true',Bool.not_eq_false',Bool.not_eq_eq_eq_not,Bool.not_true,Bool.not_false,Int.not_lt,Int.not_le,Decidable.not_not]at h12
      refine TL.goff rfl rfl rfl rfl rfl rfl rfl rfl ?_
      refine TL.goff rfl rfl rfl rfl rfl rfl rfl rfl ?_
      refine TL.goff rfl rfl rfl rfl rfl rfl rfl rfl ?_
      refine TL.goff rfl rfl rfl rfl rfl rfl rfl rfl ?_
      refine TL.v rfl (OpVal.pickTB rfl rfl rfl) rfl rfl ?_
      refine TL.nil ?_
      refine S.n ?_
      refine TC.cond rfl (fun _=> ?_) (fun h=>Bool.noConfusion h)
      refine TC.seq ?_
      refine TC.region ?_
      refine TL.v rfl (OpVal.moveI (.inr rfl) rfl) rfl rfl ?_
      refine TL.nil ?_
      refine S.n ?_
      refine TC.ret ?_
      refine B.r ?_
      refine S.r ?_
      refine S.r ?_
      refine B.r ?_
      refine S.r ?_
      -- leaf 7 ret [h3: t8=False; h4: t13=False; h5: False; h6: t25=False; h7: False; h8: True; h11: t46=False; h12: t54=True] H=['q10', 'q2']
      refine ret1P rfl (congrArg (Value.int _) ?_)
      exact (congrArg errB (show checkB n=false from by rw [checkB,edges_no (n:=n) (k:=g1) (by omega) (by simp [edgeB,h11,h12]),Bool.and_false])).symm
    try simp only [decide_eq_true_eq,decide_eq_false_iff_not,Bool.not_eq_true',Bool.not_eq_false',Bool.not_eq_eq_eq_not,Bool.not_true,Bool.not_false,Int.not_lt,Int.not_le,Decidable.not_not]at h12
    refine TL.gv rfl rfl rfl rfl rfl (OpVal.fieldLoc rfl fo58_2 rfl) rfl rfl ?_
    refine TL.gv rfl rfl rfl rfl rfl (OpVal.loadLocA rfl ag55 sz55 rfl (i:=0) rfl rfl rfl) rfl rfl ?_
    refine TL.gv rfl rfl rfl rfl rfl (OpVal.buildArrL rfl Tryz.underlying55 sz53 ze55 rfl) rfl rfl ?_
    refine TL.gv rfl rfl rfl rfl rfl (OpVal.eqlArr4 rfl Tryz.underlying55 Tryz.underlying53 ag53 sz53 eg55 rfl rfl rfl rfl) rfl rfl ?_
    refine TL.v rfl (OpVal.pickFB rfl rfl rfl) rfl rfl ?_
    refine TL.nil ?_
    refine S.n ?_
    refine TC.condD rfl (fun h13=> ?_) (fun h13=> ?_)
    · try simp only [decide_eq_true_eq,decide_eq_false_iff_not,Bool.not_eq_true',Bool.not_eq_false',Bool.not_eq_eq_eq_not,Bool.not_true,Bool.not_false,Int.not_lt,Int.not_le,Decidable.not_not]at h13
      refine TC.seq ?_
      refine TC.region ?_
      refine TL.v rfl (OpVal.moveI (.inr rfl) rfl) rfl rfl ?_
      refine TL.nil ?_
      refine S.n ?_
      refine TC.ret ?_
      refine B.r ?_
      refine S.r ?_
      refine S.r ?_
      refine B.r ?_
      refine S.r ?_
      -- leaf 8 ret [h3: t8=False; h4: t13=False; h5: False; h6: t25=False; h7: False; h8: True; h11: t46=False; h12: t54=False; h13: True] H=['q10', 'q2']
      refine ret1P rfl (congrArg (Value.int _) ?_)
      exact (congrArg errB (show checkB n=false from by rw [checkB,edges_no (n:=n) (k:=g1) (by omega) (by simp [edgeB,(BSet.zero_iff _).1 h13]),Bool.and_false])).symm
    try simp only [decide_eq_true_eq,decide_eq_false_iff_not,Bool.not_eq_true',Bool.not_eq_false',Bool.not_eq_eq_eq_not,Bool.not_true,Bool.not_false,Int.not_lt,Int.not_le,Decidable.not_not]at h13
    refine TC.skip ?_
    refine B.n ?_
    refine S.n ?_
    refine TC.region ?_
    refine TL.v rfl (OpVal.succ rfl rfl rfl (by omega)) rfl rfl ?_
    refine TL.v rfl (OpVal.moveI (.inl rfl) rfl) rfl rfl ?_
    refine TL.dropN 1 rfl ?_
    refine TL.nil ?_
    refine S.n ?_
    -- leaf 9 next [h3: t8=False; h4: t13=False; h5: False; h6: t25=False; h7: False; h8: True; h11: t46=False; h12: t54=False; h13: False] H=['q2']
    refine ⟨by repeat (first|exact Agr.mask|refine Agr.upd rfl ?_ |refine Agr.maskIn rfl ?_),g1+1,?_,?_,?_,?_,?_⟩
    · omega
    · exact ⟨by omega,all_step (p:=fun i=>edgeB n.states (nth n.edges i Arrow.zero)) hi (by simp only [edgeB,h11,h12,Bool.true_and,Bool.not_eq_true',decide_eq_false_iff_not];exact fun hx=>h13 ((BSet.zero_iff _).2 hx))⟩
    · repeat (first|exact trivial|refine ⟨rfl,?_⟩)
    · rfl
    rfl
  try simp only [decide_eq_true_eq,decide_eq_false_iff_not,Bool.not_eq_true',Bool.not_eq_false',Bool.not_eq_eq_eq_not,Bool.not_true,Bool.not_false,Int.not_lt,Int.not_le,Decidable.not_not]at h8
  refine TC.exit ?_
  refine S.x ?_
  refine S.x ?_
  refine TC.exitHere ?_
  refine S.n ?_
  refine TC.seq ?_
  refine TC.region ?_
  refine TL.v rfl (OpVal.moveI (.inr rfl) rfl) rfl rfl ?_
  refine TL.nil ?_
  refine S.n ?_
  refine TC.ret ?_
  -- leaf 10 ret [h3: t8=False; h4: t13=False; h5: False; h6: t25=False; h7: False; h8: False] H=['q2']
  refine ret1P rfl (congrArg (Value.int _) ?_)
  have he:=edges_yes (n:=n) (fun i h=>hi i (by omega))
  simp [errB,checkB,h3,h4,h5,h6,h7,he]
end Go.Proofs.YtamgjehhjkgelaaGreatDoor
end

noncomputable section
namespace Go.Proofs.YtamgjehhjkgelaaGreatDoor
open Go Go.E Go.E.OpVal Go.E.OpOk Go.Proofs.Tryz
theorem ag105:aggOf Tryz.prog 105=some false:=by kernel_rfl
theorem ag106:aggOf Tryz.prog 106=some false:=by kernel_rfl
theorem by4:byOf Tryz.prog 4=some 1:=by kernel_rfl
theorem by59:byOf Tryz.prog 59=some 24:=by kernel_rfl
theorem pf38:plainF Tryz.prog 38=true:=by kernel_rfl
theorem pf39:plainF Tryz.prog 39=true:=by kernel_rfl
theorem pf40:plainF Tryz.prog 40=true:=by kernel_rfl
theorem pf41:plainF Tryz.prog 41=true:=by kernel_rfl
theorem pf42:plainF Tryz.prog 42=true:=by kernel_rfl
theorem pf43:plainF Tryz.prog 43=true:=by kernel_rfl
theorem pf44:plainF Tryz.prog 44=true:=by kernel_rfl
theorem pf45:plainF Tryz.prog 45=true:=by kernel_rfl
theorem pf47:plainF Tryz.prog 47=true:=by kernel_rfl
theorem pl50:plOf Tryz.prog 50=some #[(0,1),(1,1),(2,1)]:=by kernel_rfl
theorem sz105:szOf Tryz.prog 105=some 1:=by kernel_rfl
theorem sz106:szOf Tryz.prog 106=some 1:=by kernel_rfl
theorem sz48:szOf Tryz.prog 48=some 1:=by kernel_rfl
theorem ze105:zeroOf Tryz.prog 105=some (.slice none 0 0):=by kernel_rfl
theorem ze106:zeroOf Tryz.prog 106=some (.pointer none):=by kernel_rfl
theorem ze4:zeroOf Tryz.prog 4=some (.bool false):=by kernel_rfl
theorem ze50:zeroOf Tryz.prog 50=some (.agg #[.slice none 0 0,.slice none 0 0,.slice none 0 0]):=by kernel_rfl
theorem ze59:zeroOf Tryz.prog 59=some (.slice none 0 0):=by kernel_rfl
def En_(l130:List (List Arrow))(x0:Nfa)(k134:Nat):Option (((List (List Arrow))×Nat)⊕(Dfa×Int)):=
 nxt ((l130.set (((nth x0.edges k134 Arrow.zero).frm).toNat) ((nth l130 (((nth x0.edges k134 Arrow.zero).frm).toNat) ([]:List Arrow))++[(nth x0.edges k134 Arrow.zero)])),(k134+1))
def Dn_(k323:Nat)(t335:Bool):Option ((Bool×Nat)⊕((Int×(List (List Int))×(FM (List UInt8) Int)×(List (List Int))×(List Bool)×Nat)⊕(Dfa×Int))):=
 nxt (t335,(k323+1))
def Db_(l130:List (List Arrow))(v116:(List Int)×Int)(i388:Int)(l391:List (List Int))(m397:FM (List UInt8) Int)(l401:List Int)(y256_0:Int)(y256_1:BSet):Option (Nat×(Int×(List (List Int))×(FM (List UInt8) Int)×(List Int))):=
 bnd (D5_ l130 v116.1 y256_1) (fun v161=>bnd (putKeep (⟨(⟨l391,m397⟩:IStore)⟩:ITable) v161) (fun v162=>iteO (decide (v162.2.2.1≠0)) (some (1,(v162.2.2.1,v162.2.2.2.of.rows,v162.2.2.2.of.places,l401))) (iteO (decide (1024≤v162.1)) (some (1,(2,v162.2.2.2.of.rows,v162.2.2.2.of.places,l401))) (grd (0≤y256_0∧y256_0<(l401.length:Int)) (some (0,(i388,v162.2.2.2.of.rows,v162.2.2.2.of.places,(l401.set y256_0.toNat v162.1))))))))
def Ek_(l277:List (List Int))(l283:List Bool)(t322:Bool)(k286:Nat)(jz:Nat)(i388:Int)(l391:List (List Int))(m397:FM (List UInt8) Int)(l401:List Int):Option ((Int×(List (List Int))×(FM (List UInt8) Int)×(List (List Int))×(List Bool)×Nat)⊕(Dfa×Int)):=
 jsel jz (grd ((l277.length+[l401].length) * 24≤140737488355328) (grd ((l283.length+[t322].length) * 1≤140737488355328) (grd (k286+1≤9223372036854775807) (nxt (i388,l391,m397,(l277++[l401]),(l283++[t322]),(k286+1)))))) (fun j_=>jsel j_ (fin (some ((⟨([]:List Int),([]:List (List Int)),([]:List Bool)⟩:Dfa),i388))) (fun _=>none))
def Do_(v116:(List Int)×Int)(l193:List Bool)(v13:(List BSet)×Int)(l130:List (List Arrow))(i264:Int)(l268:List (List Int))(m274:FM (List UInt8) Int)(l277:List (List Int))(l283:List Bool)(k286:Nat)(t322:Bool)(k323:Nat):Option ((Bool×Nat)⊕((Int×(List (List Int))×(FM (List UInt8) Int)×(List (List Int))×(List Bool)×Nat)⊕(Dfa×Int))):=
 iteO (decide (((k323:Nat):Int)<((v116.1.length:Nat):Int))) (iteO t322 (Dn_ k323 true) (grd (0≤(nth v116.1 k323 (0:Int))∧(nth v116.1 k323 (0:Int))<(l193.length:Int)) (Dn_ k323 (nth l193 ((nth v116.1 k323 (0:Int)).toNat) false)))) (fin (grd (8 * v13.1.length≤281474976710656) (bnd (B3_ v13.1) (fun v153=>bnd (At_ (stepY (fun (q:Int×(List (List Int))×(FM (List UInt8) Int)×(List Int)) (x:Int×BSet)=>Db_ l130 v116 q.1 q.2.1 q.2.2.1 q.2.2.2 x.1 x.2)) (0,(i264,l268,m274,(List.replicate v13.1.length (0:Int)))) v153) (fun zr256=>Ek_ l277 l283 t322 k286 zr256.1 zr256.2.1 zr256.2.2.1 zr256.2.2.2.1 zr256.2.2.2.2)))))
def Dq_(l193:List Bool)(v13:(List BSet)×Int)(l130:List (List Arrow))(v26:(List Int)×Int)(i264:Int)(l268:List (List Int))(m274:FM (List UInt8) Int)(l277:List (List Int))(l283:List Bool)(k286:Nat):Option ((Int×(List (List Int))×(FM (List UInt8) Int)×(List (List Int))×(List Bool)×Nat)⊕(Dfa×Int)):=
 bnd (intern_Table_Size (⟨(⟨l268,m274⟩:IStore)⟩:ITable)) (fun v112=>iteO (decide (((k286:Nat):Int)<v112)) (bnd (intern_Table_Row (⟨(⟨l268,m274⟩:IStore)⟩:ITable) ((k286:Nat):Int)) (fun v116=>iteO (decide (v116.2≠0)) (fin (some ((⟨([]:List Int),([]:List (List Int)),([]:List Bool)⟩:Dfa),v116.2))) (iter (fun q:Bool×Nat=>Do_ v116 l193 v13 l130 i264 l268 m274 l277 l283 k286 q.1 q.2) (false,0)))) (fin (some ((⟨v26.1,l277,l283⟩:Dfa),0))))
def Dl_(x0:Nfa)(v13:(List BSet)×Int)(l130:List (List Arrow))(v26:(List Int)×Int)(l193:List Bool)(k195:Nat):Option (((List Bool)×Nat)⊕(Dfa×Int)):=
 iteO (decide (((k195:Nat):Int)<((x0.ends.length:Nat):Int))) (grd (0≤(nth x0.ends k195 (0:Int))∧(nth x0.ends k195 (0:Int))<(l193.length:Int)) (nxt ((l193.set ((nth x0.ends k195 (0:Int)).toNat) true),(k195+1)))) (fin (bnd (intern_New) (fun v85=>bnd (intern_Table_Put (⟨(⟨v85.of.rows,v85.of.places⟩:IStore)⟩:ITable) x0.starts) (fun v91=>iteO (decide (v91.2.2.1≠0)) (some ((⟨([]:List Int),([]:List (List Int)),([]:List Bool)⟩:Dfa),v91.2.2.1)) (iter (fun q:Int×(List (List Int))×(FM (List UInt8) Int)×(List (List Int))×(List Bool)×Nat=>Dq_ l193 v13 l130 v26 q.1 q.2.1 q.2.2.1 q.2.2.2.1 q.2.2.2.2.1 q.2.2.2.2.2) (0,v91.2.2.2.of.rows,v91.2.2.2.of.places,([]:List (List Int)),([]:List Bool),0))))))
def Dp_(x0:Nfa)(v13:(List BSet)×Int)(v26:(List Int)×Int)(l130:List (List Arrow))(k134:Nat):Option (((List (List Arrow))×Nat)⊕(Dfa×Int)):=
 iteO (decide (((k134:Nat):Int)<((x0.edges.length:Nat):Int))) (grd (0≤((nth x0.edges k134 Arrow.zero).frm)∧((nth x0.edges k134 Arrow.zero).frm)<(l130.length:Int)) (grd (((nth l130 (((nth x0.edges k134 Arrow.zero).frm).toNat) ([]:List Arrow)).length+[(nth x0.edges k134 Arrow.zero)].length) * 48≤140737488355328) (grd (0≤((nth x0.edges k134 Arrow.zero).frm)∧((nth x0.edges k134 Arrow.zero).frm)<(l130.length:Int)) (En_ l130 x0 k134)))) (fin (grd (0≤x0.states∧1 * x0.states.toNat≤281474976710656) (iter (fun q:(List Bool)×Nat=>Dl_ x0 v13 l130 v26 q.1 q.2) ((List.replicate x0.states.toNat false),0))))
def Em_(x0:Nfa):Option (Dfa×Int):=
 iteO (decide ((errB (checkB x0))≠0)) (some ((⟨([]:List Int),([]:List (List Int)),([]:List Bool)⟩:Dfa),1)) (bnd (Dx_ x0.edges) (fun v12=>bnd (D1_ v12) (fun v13=>iteO (decide (v13.2≠0)) (some ((⟨([]:List Int),([]:List (List Int)),([]:List Bool)⟩:Dfa),v13.2)) (bnd (D2_ v13.1) (fun v26=>iteO (decide (v26.2≠0)) (some ((⟨([]:List Int),([]:List (List Int)),([]:List Bool)⟩:Dfa),v26.2)) (grd (0≤x0.states∧24 * x0.states.toNat≤281474976710656) (iter (fun q:(List (List Arrow))×Nat=>Dp_ x0 v13 v26 q.1 q.2) ((List.replicate x0.states.toNat ([]:List Arrow)),0))))))))
def Hx_(σ:Store)(r:Dfa×Int):Value→Store→List Res→Prop:=fun v σ' H'=>
 ∃a1 c1 a2 c2 a3 c3,v= .tuple #[.agg #[.slice a1 r.1.cls.length c1,.slice a2 r.1.next.length c2,.slice a3 r.1.fin.length c3],.int .i64 r.2]∧RS σ' 1 eI_ (.slice a1 r.1.cls.length c1) r.1.cls∧RZ σ' (pkSl 1 eI_ eIl_) (.slice a2 r.1.next.length c2) r.1.next∧RS σ' 1 encB (.slice a3 r.1.fin.length c3) r.1.fin∧H'=[]
theorem Gk_{x0:Nfa}(hgl:GT σ 1 encU8 deB)(f0_0:RS σ 1 eI_ (.slice a0_0 x0.starts.length c0_0) x0.starts)(f0_1:RS σ 1 eI_ (.slice a0_1 x0.ends.length c0_1) x0.ends)(f0_2:RS σ 6 encE (.slice a0_2 x0.edges.length c0_2) x0.edges){r:Dfa×Int}(hh:Em_ x0=some r):
  Con Tryz.prog 18 #[.agg #[.int .i64 x0.states,.slice a0_0 x0.starts.length c0_0,.slice a0_1 x0.ends.length c0_1,.slice a0_2 x0.edges.length c0_2]] σ [] (Hx_ σ r):=by
 dsimp only [Em_]at hh
 have f0_0b:=f0_0.rv.big
 have f0_1b:=f0_1.rv.big
 have f0_2b:=f0_2.rv.big
 refine Con.mk (n:=177) Tryz.func18 z z z (fun w0=> ?_)
 refine TC.a (TL.op z (boxA z z z z (fun b101=> ?_)))
 refine TL.op z (OpOk.alloc z ze50 z z (fun b103=> ?_))
 refine TL.op z (OpOk.alloc z ze27 z z (fun b105=> ?_))
 refine TL.en (TC.seq (TC.a (TL.w z (loadAll z ag61 sz61 z (i:=2) z z) (TL.op z (callP (check_con _ x0 ⟨a0_0,c0_0,a0_1,c0_1,a0_2,c0_2⟩ ⟨f0_0,f0_1,f0_2,fun x _=>x.set.isOk⟩) z z pf38 z z z ?_)))))
 refine TL.w z (OpVal.neq z z z) (TL.en (TC.cD z hh (fun h107 hh=> ?_) (fun h107 hh=> ?_)))
 ·refine TC.a (TL.w z (buildL z pl50 ze50 z) (TL.front 1 z z (TL.op z (storeAll z sz50 z z z z z z ?_))))
  refine TL.front 1 z z (TL.op z (storeI z sz27 z z z z z ?_))
  refine TL.en (TC.ofSub (Sub.f [1] 2) (TC.ret (S.r ?_)))
  obtain rfl:=so hh
  exact ro [] z (RVs.agg ag50 sz50 z (i:=0) z z (RVs.one ag27 z (i:=1) z z RVs.nil)) ⟨none,0,none,0,none,0,z,(RS.nilF _ eI_ eIl_),(RZ.nilF _ (pkSl 1 eI_ eIl_)),(RS.nilF _ encB encB_len),z⟩
 refine TC.skip (S.n (TC.a (TL.w z (fieldLoc z fo61_3 z) (TL.w z (loadLoc z ag59 z (i:=2) z z) ?_))))
 obtain ⟨v12,u12,hh⟩:=bnd_e hh
 refine TL.op z (OpOk.call (Gp_ f0_2 u12) z z pf40 z z z z ?_)
 rintro _ τ108 _ hle108 ⟨a108_1,c108_1,rfl,hr108_0,rfl⟩
 replace f0_0:=f0_0.mono hle108
 replace f0_1:=f0_1.mono hle108
 replace f0_2:=f0_2.mono hle108
 replace hgl:=hgl.mono hle108
 have hr108_0b:=hr108_0.rv.big
 obtain ⟨v13,u13,hh⟩:=bnd_e hh
 refine TL.op z (OpOk.call (Go_ hr108_0 u13) z z pf39 z z z z ?_)
 rintro _ τ109 _ hle109 ⟨a109_1,c109_1,rfl,hr109_0,rfl⟩
 replace f0_0:=f0_0.mono hle109
 replace f0_1:=f0_1.mono hle109
 replace f0_2:=f0_2.mono hle109
 replace hgl:=hgl.mono hle109
 have hr109_0b:=hr109_0.rv.big
 refine TL.w z (moveT (.inl z) z) (TL.w z (OpVal.extract z z z) (TL.w z (OpVal.extract z z z) (TL.s z z (TL.i z z (TL.en (TC.seq (TC.a (TL.i z z (TL.w z (OpVal.neq z z z) (TL.en (TC.cD z hh (fun h110 hh=> ?_) (fun h110 hh=> ?_))))))))))))
 ·refine TC.a (TL.w z (buildL z pl50 ze50 z) (TL.i z z (TL.front 1 z z (TL.op z (storeAll z sz50 z z z z z z ?_)))))
  refine TL.front 1 z z (TL.op z (storeI z sz27 z z z z z ?_))
  refine TL.en (TC.ofSub (Sub.f [1] 2) (TC.ret (S.r ?_)))
  obtain rfl:=so hh
  exact ro [] z (RVs.agg ag50 sz50 z (i:=0) z z (RVs.one ag27 z (i:=1) z z RVs.nil)) ⟨none,0,none,0,none,0,z,(RS.nilF _ eI_ eIl_),(RZ.nilF _ (pkSl 1 eI_ eIl_)),(RS.nilF _ encB encB_len),z⟩
 refine TC.skip (S.n (TC.a (TL.s z z ?_)))
 obtain ⟨v26,u26,hh⟩:=bnd_e hh
 refine TL.op z (OpOk.call (Gn_ hgl hr109_0 u26) z z pf41 z z z z ?_)
 rintro _ τ111 _ hle111 ⟨a111_1,c111_1,rfl,hr111_0,rfl⟩
 replace f0_0:=f0_0.mono hle111
 replace f0_1:=f0_1.mono hle111
 replace f0_2:=f0_2.mono hle111
 replace hgl:=hgl.mono hle111
 replace hr109_0:=hr109_0.mono hle111
 have hr111_0b:=hr111_0.rv.big
 refine TL.w z (moveT (.inl z) z) (TL.w z (OpVal.extract z z z) (TL.w z (OpVal.extract z z z) (TL.s z z (TL.i z z (TL.en (TC.seq (TC.a (TL.i z z (TL.w z (OpVal.neq z z z) (TL.en (TC.cD z hh (fun h112 hh=> ?_) (fun h112 hh=> ?_))))))))))))
 ·refine TC.a (TL.w z (buildL z pl50 ze50 z) (TL.i z z (TL.front 1 z z (TL.op z (storeAll z sz50 z z z z z z ?_)))))
  refine TL.front 1 z z (TL.op z (storeI z sz27 z z z z z ?_))
  refine TL.en (TC.ofSub (Sub.f [1] 2) (TC.ret (S.r ?_)))
  obtain rfl:=so hh
  exact ro [] z (RVs.agg ag50 sz50 z (i:=0) z z (RVs.one ag27 z (i:=1) z z RVs.nil)) ⟨none,0,none,0,none,0,z,(RS.nilF _ eI_ eIl_),(RZ.nilF _ (pkSl 1 eI_ eIl_)),(RS.nilF _ encB encB_len),z⟩
 refine TC.skip (S.n (TC.a (TL.w z (fieldLoc z fo61_0 z) (TL.w z (loadLoc z ag3 z (i:=2) z z) ?_))))
 have u40:=grd_c hh
 replace hh:=grd_t hh
 refine TL.op rfl (makeN (q:=x0.states.toNat) (E:=58) (size:=6) (enc:=encE) rfl underlying105 sz59 by59 ze59 rfl rfl (vN u40.1) (vN u40.1) (by omega) (by decide) rfl (fun a113 c114 zf115=> ?_))
 refine TL.op z (OpOk.alloc z ze105 z z (fun b117=> ?_))
 refine TL.op z (storeSl z sz105 z z z z z ?_)
 refine TL.en (TC.seq (TC.a (TL.w z (fieldLoc z fo61_3 z) (TL.w z (loadLoc z ag59 z (i:=4) z z) (TL.w z (lenC z underlying59 z) (TL.i z z (TL.en (TC.block (TC.loopG (α:=((List (List Arrow))×Nat)×((List (NP Arrow)))) (rgs [(9,1),(60,17)]) (fun g=>[(60,.int .i64 ((g.1.2:Nat):Int))]) (fun g=>[Res.cells b101 #[.int .i64 x0.states,.slice a0_0 x0.starts.length c0_0,.slice a0_1 x0.ends.length c0_1,.slice a0_2 x0.edges.length c0_2] 61,Res.cells b103 #[.slice none 0 0,.slice none 0 0,.slice none 0 0] 50,Res.cells b105 #[.int .i64 0] 27,Res.cells b117 #[.slice a113 ((List.replicate x0.states.toNat ([]:List Arrow)).length) c114] 105,Res.nest 59 58 6 encE (.slice a113 (List.replicate x0.states.toNat ([]:List Arrow)).length c114) g.2]) (fun g=>τ111) (fun g=>iter (fun q:(List (List Arrow))×Nat=>Dp_ x0 v13 v26 q.1 q.2) g.1=some r∧g.1.1.length=(List.replicate x0.states.toNat ([]:List Arrow)).length∧Zn g.2 g.1.1) (fun g=>rounds (fun q:(List (List Arrow))×Nat=>Dp_ x0 v13 v26 q.1 q.2) g.1) (((List.replicate x0.states.toNat ([]:List Arrow)),0),(List.replicate x0.states.toNat (nilN:NP Arrow))) (Sub.f [1,1,2,3,4] 5) z (by repeat (first|exact trivial|refine ⟨z,?_⟩)) ⟨hh,z,zf115⟩ (fun g1 j1 hg1=> ?_))))))))))
 obtain ⟨⟨l130,k134⟩,z132⟩:=g1
 obtain ⟨hh,hn131,zf133⟩:=hg1
 try dsimp only at hn131 zf133 ⊢
 obtain ⟨z1,hh,hR1⟩:=iter_e hh
 dsimp only [Dp_]at hh
 have hn131b:=hn131
 have zf133b:=zf133.len
 refine TC.know (isSl_nest (q:=4) z zf133) (fun ⟨_,hb135⟩=> ?_)
 refine TC.a (TL.w z (OpVal.lss z z z) (TL.en (TC.seq (TC.cD z hh (fun h136 hh=> ?_) (fun h136 hh=> ?_)))))
 ·refine TC.skip (S.n (TC.cutG (α:=(Unit)×((List (NP Arrow)))) (rgs [(9,1),(62,14)]) (fun g=>[]) (fun g=>[Res.cells b101 #[.int .i64 x0.states,.slice a0_0 x0.starts.length c0_0,.slice a0_1 x0.ends.length c0_1,.slice a0_2 x0.edges.length c0_2] 61,Res.cells b103 #[.slice none 0 0,.slice none 0 0,.slice none 0 0] 50,Res.cells b105 #[.int .i64 0] 27,Res.cells b117 #[.slice a113 ((List.replicate x0.states.toNat ([]:List Arrow)).length) c114] 105,Res.nest 59 58 6 encE (.slice a113 (List.replicate x0.states.toNat ([]:List Arrow)).length c114) g.2]) (fun g=>τ111) (fun g=>En_ l130 x0 k134=some z1∧(l130.set (((nth x0.edges k134 Arrow.zero).frm).toNat) ((nth l130 (((nth x0.edges k134 Arrow.zero).frm).toNat) ([]:List Arrow))++[(nth x0.edges k134 Arrow.zero)])).length=(List.replicate x0.states.toNat ([]:List Arrow)).length∧Zn g.2 (l130.set (((nth x0.edges k134 Arrow.zero).frm).toNat) ((nth l130 (((nth x0.edges k134 Arrow.zero).frm).toNat) ([]:List Arrow))++[(nth x0.edges k134 Arrow.zero)]))) ?_ (fun g j hg=> ?_)))
  ·skip
   refine TC.block (TC.a (TL.w z (indexN z underlying59 sz58 z z f0_2.rv.sl (by omega)) (TL.w z (loadSA Arrow.zero z ag58 sz58 z f0_2 (by omega) (by omega)) (TL.op z (OpOk.alloc z ze58 z z (fun b140=> ?_))))))
   refine TL.op z (storeAll z sz58 z z z z z z ?_)
   refine TL.en ?_
   have u58:=grd_c hh
   replace hh:=grd_t hh
   have u62:=grd_c hh
   replace hh:=grd_t hh
   have u63:=grd_c hh
   replace hh:=grd_t hh
   refine TC.drawR (Hr:=[Res.cells b140 #[.int .i64 ((nth x0.edges k134 Arrow.zero).frm),.int .i64 ((nth x0.edges k134 Arrow.zero).to),.int .u64 ((((nth x0.edges k134 Arrow.zero).set).a:Nat):Int),.int .u64 ((((nth x0.edges k134 Arrow.zero).set).b:Nat):Int),.int .u64 ((((nth x0.edges k134 Arrow.zero).set).c:Nat):Int),.int .u64 ((((nth x0.edges k134 Arrow.zero).set).d:Nat):Int)] 58,Res.cells b101 #[.int .i64 x0.states,.slice a0_0 x0.starts.length c0_0,.slice a0_1 x0.ends.length c0_1,.slice a0_2 x0.edges.length c0_2] 61,Res.cells b103 #[.slice none 0 0,.slice none 0 0,.slice none 0 0] 50,Res.cells b105 #[.int .i64 0] 27,Res.cells b117 #[.slice a113 ((List.replicate x0.states.toNat ([]:List Arrow)).length) c114] 105]) (fun r hr=>mem_pick [0,1,2,3,4] z hr) [] (by kernel_rfl) (TA.b 0 z (loadLoc z ag105 z (i:=4) z z) z (TA.a 1 z (fieldLoc z fo58_0 z) z (TA.b 2 z (loadLoc z ag3 z (i:=0) z z) z (TA.b 3 z (loadLoc z ag105 z (i:=4) z z) z (TA.a 4 z (fieldLoc z fo58_0 z) z (TA.b 5 z (loadLoc z ag3 z (i:=0) z z) z (TA.know (isSl_nest (q:=5) z zf133) (fun ⟨hs153,hs153b⟩=> ?_))))))))
   refine TA.b 6 z (OpVal.index z underlying105 sz59 z z hs153 u58.1 u58.2) z (TA.b 8 z (loadAll z ag58 sz58 z (i:=0) z z) z ?_)
   obtain ⟨p154,hz154,hm154⟩:=Zn.at zf133 (i:=((nth x0.edges k134 Arrow.zero).frm).toNat) (by omega)
   refine TA.actN [7,9] (by kernel_rfl) (an z z (OpVal.ok (loadN z ag59 z (q:=5) z hz154 hm154) z z ⟨(fun w h=>sees_of (Store.le.refl _) (fun r hr=>mem_pick [0,1,2,3,4] z hr) w h),?_⟩) (an z z (OpOk.lit (enc:=encE) [(nth x0.edges k134 Arrow.zero)] z underlying59 sz58 ze58 z z z encE_len (by decide) (by decide) Arrow.zero z (by decide) z (by decide) encE_one (fun a155 c156=>⟨(fun w h=>sees_of (Store.le.refl _) (fun r hr=>mem_pick [1,2,3,4,5] z hr) w h),?_⟩)) (True.intro)))
   ·skip
    refine TA.ac 9 z (OpOk.lit (enc:=encE) [(nth x0.edges k134 Arrow.zero)] z underlying59 sz58 ze58 z z z encE_len (by decide) (by decide) Arrow.zero z (by decide) z (by decide) encE_one (fun a158 c159=>⟨(fun w h=>sees_of (Store.le.refl _) (fun r hr=>mem_pick [1,2,3,4,5] z hr) w h),?_⟩))
    refine TA.front 6 z z (TA.by (fun w h=>Reach.takeN hz154 hm154 h) (TA.ac 10 z (appendS z z underlying59 sz58 by58 ze58 z z (by decide) z z z (.inr ⟨_,1,z⟩) (by simpa using u62) (by decide) (fun a162 c163=>(k3 ?_)))))
    refine TA.know (isSl_nestX (q:=1) z zf133) (fun ⟨hs164,hs164b⟩=> ?_)
    refine TA.b 11 z (OpVal.index z underlying105 sz59 z z hs164 u63.1 u63.2) z (TA.front 1 z z (TA.front 1 z z ?_))
    have hn166:(l130.set (((nth x0.edges k134 Arrow.zero).frm).toNat) ((nth l130 (((nth x0.edges k134 Arrow.zero).frm).toNat) ([]:List Arrow))++[(nth x0.edges k134 Arrow.zero)])).length=(List.replicate x0.states.toNat ([]:List Arrow)).length:=(List.length_set ..).trans hn131
    refine TA.ac 12 rfl (storeX (l':=((nth l130 (((nth x0.edges k134 Arrow.zero).frm).toNat) ([]:List Arrow))++[(nth x0.edges k134 Arrow.zero)])) rfl sz59 rfl rfl rfl rfl rfl (by rw [zf133.len];omega) zf133 (fun zf165=>(k2 ?_)))
    exact TA.dn (B.n (S.n (cf ((),(z132.set (((nth x0.edges k134 Arrow.zero).frm).toNat) (((nth l130 (((nth x0.edges k134 Arrow.zero).frm).toNat) ([]:List Arrow))++[(nth x0.edges k134 Arrow.zero)]),(a162,c163)))) ⟨hh,hn166,zf165⟩ (Sub.f [6,6,6,6] 5))))
   skip
   obtain ⟨p167,hz167,hm167⟩:=Zn.at zf133 (i:=((nth x0.edges k134 Arrow.zero).frm).toNat) (by omega)
   refine TA.ac 7 z (OpVal.ok (loadN z ag59 z (q:=6) z hz167 hm167) z z ⟨(fun w h=>sees_of (Store.le.refl _) (fun r hr=>mem_pick [1,2,3,4,5] z hr) w h),?_⟩)
   refine TA.front 6 z z (TA.by (fun w h=>Reach.takeN hz167 hm167 h) (TA.ac 10 z (appendS z z underlying59 sz58 by58 ze58 z z (by decide) z z z (.inr ⟨_,1,z⟩) (by simpa using u62) (by decide) (fun a169 c170=>(k3 ?_)))))
   refine TA.know (isSl_nestX (q:=1) z zf133) (fun ⟨hs171,hs171b⟩=> ?_)
   refine TA.b 11 z (OpVal.index z underlying105 sz59 z z hs171 u63.1 u63.2) z (TA.front 1 z z (TA.front 1 z z ?_))
   have hn173:(l130.set (((nth x0.edges k134 Arrow.zero).frm).toNat) ((nth l130 (((nth x0.edges k134 Arrow.zero).frm).toNat) ([]:List Arrow))++[(nth x0.edges k134 Arrow.zero)])).length=(List.replicate x0.states.toNat ([]:List Arrow)).length:=(List.length_set ..).trans hn131
   refine TA.ac 12 rfl (storeX (l':=((nth l130 (((nth x0.edges k134 Arrow.zero).frm).toNat) ([]:List Arrow))++[(nth x0.edges k134 Arrow.zero)])) rfl sz59 rfl rfl rfl rfl rfl (by rw [zf133.len];omega) zf133 (fun zf172=>(k2 ?_)))
   exact TA.dn (B.n (S.n (cf ((),(z132.set (((nth x0.edges k134 Arrow.zero).frm).toNat) (((nth l130 (((nth x0.edges k134 Arrow.zero).frm).toNat) ([]:List Arrow))++[(nth x0.edges k134 Arrow.zero)]),(a169,c170)))) ⟨hh,hn173,zf172⟩ (Sub.f [6,6,6,6] 5))))
  skip
  obtain ⟨_,z138⟩:=g
  obtain ⟨hh,hn137,zf139⟩:=hg
  try dsimp only at hn137 zf139 ⊢
  dsimp only [En_]at hh
  have hn137b:=hn137
  have zf139b:=zf139.len
  refine TC.know (isSl_nest (q:=4) z zf139) (fun ⟨_,hb174⟩=> ?_)
  refine TC.region (TL.w z (OpVal.succ z z z (by omega)) (TL.i z z (TL.en ?_)))
  obtain ⟨hh,hlt175⟩:=nxt_x hR1 hh
  exact lf (((l130.set (((nth x0.edges k134 Arrow.zero).frm).toNat) ((nth l130 (((nth x0.edges k134 Arrow.zero).frm).toNat) ([]:List Arrow))++[(nth x0.edges k134 Arrow.zero)])),(k134+1)),z138) hlt175 ⟨hh,hn137,zf139⟩ (Sub.f [4,4,4,4,4] 5)
 refine TC.exit (S.x (S.x ?_))
 replace hh:=fin_x hR1 hh
 refine TC.exitHere (S.n (TC.a (TL.w z (fieldLoc z fo61_0 z) (TL.w z (loadLoc z ag3 z (i:=0) z z) ?_))))
 have u69:=grd_c hh
 replace hh:=grd_t hh
 refine TL.op rfl (makeS2 (m:=x0.states.toNat) (enc:=encB) false rfl underlying48 sz4 by4 ze4 rfl rfl (vN u69.1) (vN u69.1) (by omega) (by decide) encB_len (by decide) rfl encB_one (fun a176 c177=> ?_))
 refine TL.s z z (TL.en (TC.seq (TC.a (TL.w z (fieldLoc z fo61_2 z) (TL.w z (loadLoc z ag46 z (i:=1) z z) (TL.w z (lenC z underlying46 z) (TL.i z z (TL.en (TC.block (TC.loopG (α:=((List Bool)×Nat)×(Unit)) (rgs [(12,1),(83,8)]) (fun g=>[(83,.int .i64 ((g.1.2:Nat):Int))]) (fun g=>[Res.cells b101 #[.int .i64 x0.states,.slice a0_0 x0.starts.length c0_0,.slice a0_1 x0.ends.length c0_1,.slice a0_2 x0.edges.length c0_2] 61,Res.cells b103 #[.slice none 0 0,.slice none 0 0,.slice none 0 0] 50,Res.cells b105 #[.int .i64 0] 27,Res.cells b117 #[.slice a113 ((List.replicate x0.states.toNat ([]:List Arrow)).length) c114] 105,Res.nest 59 58 6 encE (.slice a113 (List.replicate x0.states.toNat ([]:List Arrow)).length c114) z132,Res.rowS 4 1 encB (.slice a176 (List.replicate x0.states.toNat false).length c177) g.1.1]) (fun g=>τ111) (fun g=>iter (fun q:(List Bool)×Nat=>Dl_ x0 v13 l130 v26 q.1 q.2) g.1=some r∧l130.length=(List.replicate x0.states.toNat ([]:List Arrow)).length∧Zn z132 l130∧g.1.1.length=(List.replicate x0.states.toNat false).length) (fun g=>rounds (fun q:(List Bool)×Nat=>Dl_ x0 v13 l130 v26 q.1 q.2) g.1) (((List.replicate x0.states.toNat false),0),()) (Sub.f [5,5,5,5,5] 6) z (by repeat (first|exact trivial|refine ⟨z,?_⟩)) ⟨hh,hn131,zf133,z⟩ (fun g2 j2 hg2=> ?_)))))))))))
 obtain ⟨⟨l193,k195⟩,_⟩:=g2
 obtain ⟨hh,hn191,zf192,hn194⟩:=hg2
 try dsimp only at hn191 zf192 hn194 ⊢
 obtain ⟨z1,hh,hR1⟩:=iter_e hh
 dsimp only [Dl_]at hh
 have hn191b:=hn191
 have zf192b:=zf192.len
 have hn194b:=hn194
 refine TC.know (isSl_nest (q:=4) z zf192) (fun ⟨_,hb196⟩=> ?_)
 refine TC.isSl (i:=5) z (fun _ hb197 _=> ?_)
 refine TC.a (TL.w z (OpVal.lss z z z) (TL.en (TC.seq (TC.cD z hh (fun h198 hh=> ?_) (fun h198 hh=> ?_)))))
 ·refine TC.skip (S.n (TC.seq (TC.block (TC.a (TL.w z (indexN z underlying46 sz3 z z f0_1.rv.sl (by omega)) (TL.w z (loadS1 (0:Int) z ag3 z f0_1 (by omega) z) (TL.i z z (TL.en (TC.region (TL.s z z (TL.i z z ?_)))))))))))
  have u81:=grd_c hh
  replace hh:=grd_t hh
  refine TL.isSl (i:=5) z (fun hs199 _ _=> ?_)
  refine TL.w z (OpVal.index z underlying48 sz4 z z hs199 u81.1 u81.2) (TL.front 5 z z ?_)
  have hn200:(l193.set ((nth x0.ends k195 (0:Int)).toNat) true).length=(List.replicate x0.states.toNat false).length:=by rw [List.length_set];exact hn194
  refine TL.op z (storeS true z sz4 z z z z encB_len encB_one (by omega) (by omega) ?_)
  refine TL.nil (B.n (S.n (TC.region (TL.w z (OpVal.succ z z z (by omega)) (TL.i z z (TL.en ?_))))))
  obtain ⟨hh,hlt201⟩:=nxt_x hR1 hh
  exact lf (((l193.set ((nth x0.ends k195 (0:Int)).toNat) true),(k195+1)),()) hlt201 ⟨hh,hn191,zf192,hn200⟩ (Sub.f [5,5,5,5,5] 6)
 refine TC.exit (S.x (S.x ?_))
 replace hh:=fin_x hR1 hh
 refine TC.exitHere (S.n (TC.a ?_))
 obtain ⟨v85,u85,hh⟩:=bnd_e hh
 refine TL.op z (OpOk.call (intern_New_con u85) z z pf42 z z z z ?_)
 rintro _ τ202 _ hle202 ⟨b202_1,a202_2,c202_3,z202_4,b202_6,rfl,zf202_5,rfl⟩
 replace f0_0:=f0_0.mono hle202
 replace hgl:=hgl.mono hle202
 replace hr109_0:=hr109_0.mono hle202
 replace hr111_0:=hr111_0.mono hle202
 have zf202_5b:=zf202_5.length
 refine TL.op z (OpOk.alloc z ze106 z z (fun b206=> ?_))
 refine TL.op z (storeLoc z sz106 z z z z z ?_)
 refine TL.en (TC.seq (TC.a (TL.w z (loadLoc z ag106 z (i:=0) z z) (TL.w z (fieldLoc z fo61_1 z) (TL.w z (loadLoc z ag46 z (i:=4) z z) (TL.front 3 z z (TL.front 3 z z (TL.front 3 z z ?_))))))))
 obtain ⟨v91,u91,hh⟩:=bnd_e hh
 refine TL.op z (OpOk.call (intern_Table_Put_con zf202_5 f0_0 u91) z z pf43 z z z z ?_)
 rintro _ τ208 _ hle208 ⟨a208_1,c208_2,z208_3,b208_5,rfl,zf208_4,rfl⟩
 replace hgl:=hgl.mono hle208
 replace hr109_0:=hr109_0.mono hle208
 replace hr111_0:=hr111_0.mono hle208
 have zf208_4b:=zf208_4.length
 refine TL.w z (moveT (.inl z) z) (TL.w z (OpVal.extract z z z) (TL.w z (OpVal.extract z z z) (TL.w z (OpVal.extract z z z) (TL.i z z (TL.j z z (TL.i z z (TL.en (TC.a (TL.i z z (TL.w z (OpVal.neq z z z) (TL.en (TC.cD z hh (fun h211 hh=> ?_) (fun h211 hh=> ?_)))))))))))))
 ·refine TC.a (TL.w z (buildL z pl50 ze50 z) (TL.i z z (TL.front 5 z z (TL.op z (storeAll z sz50 z z z z z z ?_)))))
  refine TL.front 6 z z (TL.op z (storeI z sz27 z z z z z ?_))
  refine TL.en (TC.ofSub (Sub.f [1] 2) (TC.ret (S.r ?_)))
  obtain rfl:=so hh
  exact ro [] z (RVs.agg ag50 sz50 z (i:=0) z z (RVs.one ag27 z (i:=1) z z RVs.nil)) ⟨none,0,none,0,none,0,z,(RS.nilF _ eI_ eIl_),(RZ.nilF _ (pkSl 1 eI_ eIl_)),(RS.nilF _ encB encB_len),z⟩
 refine TC.skip (S.n (TC.a (TL.s z z (TL.w z (buildL z pl50 ze50 z) (TL.op z (OpOk.alloc z ze50 z z (fun b212=> ?_)))))))
 refine TL.op z (storeAll z sz50 z z z z z z ?_)
 refine TL.en (TC.seq (TC.a (TL.i z z (TL.en (TC.block ?_)))))
 rw [←hn191]
 refine TC.front 9 z z (TC.seals (fun w h=>Reach.sealNest encE_len zf192 h) (fun τ289 hle288 hr287=> ?_))
 replace hgl:=hgl.mono hle288
 replace hr109_0:=hr109_0.mono hle288
 replace hr111_0:=hr111_0.mono hle288
 replace zf208_4:=zf208_4.mono hle288
 have hr287b:=hr287.big
 refine TC.nilS 46 1 (pkSl 1 eI_ eIl_).en ?_
 have zf290:=ZOk.nil τ289 (pkSl 1 eI_ eIl_)
 refine TC.nilS 4 1 encB (TC.loopG (α:=(Int×(List (List Int))×(FM (List UInt8) Int)×(List (List Int))×(List Bool)×Nat)×((Option Addr)×Nat×(List (List Int×(pkSl 1 eI_ eIl_).P))×Nat×(Option Addr)×Nat×(List (List Int×(pkSl 1 eI_ eIl_).P))×(Option Addr)×Nat×Store)) (rgs [(18,4),(23,2),(106,35),(164,12)]) (fun g=>[(18,.int .i64 ((g.1.2.2.2.2.2:Nat):Int))]) (fun g=>[Res.cells b103 #[.slice none 0 0,.slice none 0 0,.slice none 0 0] 50,Res.cells b105 #[.int .i64 g.1.1] 27,Res.cells b117 #[.slice a113 l130.length c114] 105,Res.rowS 4 1 encB (.slice a176 (List.replicate x0.states.toNat false).length c177) l193,Res.cells b206 #[loc b202_1 0] 106,Res.cells b202_1 #[.slice g.2.1 g.1.2.1.length g.2.2.1,.map (some g.2.2.2.2.1)] 152,Res.rowS 46 1 (pkSl 1 eI_ eIl_).en (.slice g.2.1 g.1.2.1.length g.2.2.1) g.2.2.2.1,Res.mapB keyS keyI (some g.2.2.2.2.1) g.1.2.2.1,Res.cells b212 #[.slice a111_1 v26.1.length c111_1,.slice g.2.2.2.2.2.1 g.1.2.2.2.1.length g.2.2.2.2.2.2.1,.slice g.2.2.2.2.2.2.2.2.1 g.1.2.2.2.2.1.length g.2.2.2.2.2.2.2.2.2.1] 50,Res.rowS 46 1 (pkSl 1 eI_ eIl_).en (.slice g.2.2.2.2.2.1 g.1.2.2.2.1.length g.2.2.2.2.2.2.1) g.2.2.2.2.2.2.2.1,Res.rowS 4 1 encB (.slice g.2.2.2.2.2.2.2.2.1 g.1.2.2.2.2.1.length g.2.2.2.2.2.2.2.2.2.1) g.1.2.2.2.2.1]) (fun g=>g.2.2.2.2.2.2.2.2.2.2) (fun g=>iter (fun q:Int×(List (List Int))×(FM (List UInt8) Int)×(List (List Int))×(List Bool)×Nat=>Dq_ l193 v13 l130 v26 q.1 q.2.1 q.2.2.1 q.2.2.2.1 q.2.2.2.2.1 q.2.2.2.2.2) g.1=some r∧RZ g.2.2.2.2.2.2.2.2.2.2 (pkSl 6 encE encE_len) (.slice a113 l130.length c114) l130∧l193.length=(List.replicate x0.states.toNat false).length∧ZOk g.2.2.2.2.2.2.2.2.2.2 (pkSl 1 eI_ eIl_) g.2.2.2.1 g.1.2.1∧ZOk g.2.2.2.2.2.2.2.2.2.2 (pkSl 1 eI_ eIl_) g.2.2.2.2.2.2.2.1 g.1.2.2.2.1∧Store.le τ289 g.2.2.2.2.2.2.2.2.2.2) (fun g=>rounds (fun q:Int×(List (List Int))×(FM (List UInt8) Int)×(List (List Int))×(List Bool)×Nat=>Dq_ l193 v13 l130 v26 q.1 q.2.1 q.2.2.1 q.2.2.2.1 q.2.2.2.2.1 q.2.2.2.2.2) g.1) ((0,v91.2.2.2.of.rows,v91.2.2.2.of.places,([]:List (List Int)),([]:List Bool),0),(a208_1,c208_2,z208_3,b208_5,none,0,[],none,0,τ289)) (Sub.f [1,2,5,5,5,6,11,11,11,11] 11) z (by repeat (first|exact trivial|refine ⟨z,?_⟩)) ⟨hh,hr287,hn194,zf208_4,zf290,(Store.le.refl _)⟩ (fun g3 j3 hg3=> ?_))
 obtain ⟨⟨i264,l268,m274,l277,l283,k286⟩,⟨a269,c270,z271,b275,a278,c279,z280,a284,c285,τ293⟩⟩:=g3
 obtain ⟨hh,hr265,hn266,zf272,zf281,hle294⟩:=hg3
 try dsimp only at hr265
 try dsimp only at hn266
 try dsimp only at zf272
 try dsimp only at zf281
 dsimp only at hle294
 replace hgl:=hgl.mono hle294
 replace hr109_0:=hr109_0.mono hle294
 replace hr111_0:=hr111_0.mono hle294
 try dsimp only
 obtain ⟨z1,hh,hR1⟩:=iter_e hh
 dsimp only [Dq_]at hh
 have hr265b:=hr265.big
 have hn266b:=hn266
 have zf272b:=zf272.length
 have zf281b:=zf281.length
 refine TC.isSl (i:=3) z (fun _ hb295 _=> ?_)
 refine TC.isSl (i:=6) z (fun _ hb296 _=> ?_)
 refine TC.isSl (i:=9) z (fun _ hb297 _=> ?_)
 refine TC.isSl (i:=10) z (fun _ hb298 _=> ?_)
 refine TC.seq (TC.a (TL.i z z (TL.w z (loadLoc z ag106 z (i:=4) z z) (TL.front 7 z z (TL.front 7 z z (TL.front 7 z z ?_))))))
 obtain ⟨v112,u112,hh⟩:=bnd_e hh
 refine TL.op z (OpOk.call (intern_Table_Size_con zf272 u112) z z pf44 z z z z ?_)
 rintro _ _ _ hle299 ⟨rfl,rfl,rfl⟩
 refine TL.w z (OpVal.lss z z z) (TL.en (TC.cD z hh (fun h300 hh=> ?_) (fun h300 hh=> ?_)))
 ·refine TC.skip (S.n (TC.seq (TC.block (TC.a (TL.w z (loadLoc z ag106 z (i:=7) z z) (TL.i z z (TL.front 2 z z (TL.front 2 z z (TL.front 2 z z ?_)))))))))
  obtain ⟨v116,u116,hh⟩:=bnd_e hh
  refine TL.op z (OpOk.call (intern_Table_Row_con zf272 u116) z z pf45 z z z z ?_)
  rintro _ _ _ hle301 ⟨a301_1,c301_2,rfl,rfl,rfl⟩
  refine TL.w z (moveT (.inl z) z) (TL.w z (OpVal.extract z z z) (TL.w z (OpVal.extract z z z) (TL.op z (OpOk.alloc z ze46 z z (fun b303=> ?_)))))
  refine TL.op z (storeSl z sz46 z z z z z ?_)
  refine TL.i z z (TL.en (TC.seq (TC.a (TL.i z z (TL.w z (OpVal.neq z z z) (TL.en (TC.cD z hh (fun h305 hh=> ?_) (fun h305 hh=> ?_))))))))
  ·refine TC.a (TL.w z (buildL z pl50 ze50 z) (TL.i z z (TL.front 5 z z (TL.op z (storeAll z sz50 z z z z z z ?_)))))
   refine TL.front 6 z z (TL.op z (storeI z sz27 z z z z z ?_))
   refine TL.en (TC.ofSub (Sub.f [1] 2) (TC.ret (S.r (B.r (S.r (S.r ?_))))))
   replace hh:=fin_x hR1 hh
   refine B.r (S.r ?_)
   obtain rfl:=so hh
   exact ro [] z (RVs.agg ag50 sz50 z (i:=0) z z (RVs.one ag27 z (i:=1) z z RVs.nil)) ⟨none,0,none,0,none,0,z,(RS.nilF _ eI_ eIl_),(RZ.nilF _ (pkSl 1 eI_ eIl_)),(RS.nilF _ encB encB_len),z⟩
  refine TC.skip (S.n (TC.a (TL.j z z (TL.en (TC.seq (TC.a (TL.w z (loadLoc z ag46 z (i:=0) z z) (TL.w z (lenC z underlying46 z) (TL.i z z (TL.en (TC.block (TC.loopG (α:=(Bool×Nat)×(Store)) (rgs [(21,1),(23,1),(124,12)]) (fun g=>[(21,.bool g.1.1),(124,.int .i64 ((g.1.2:Nat):Int))]) (fun g=>[Res.cells b103 #[.slice none 0 0,.slice none 0 0,.slice none 0 0] 50,Res.cells b105 #[.int .i64 i264] 27,Res.cells b117 #[.slice a113 l130.length c114] 105,Res.rowS 4 1 encB (.slice a176 (List.replicate x0.states.toNat false).length c177) l193,Res.cells b206 #[loc b202_1 0] 106,Res.cells b202_1 #[.slice a269 l268.length c270,.map (some b275)] 152,Res.rowS 46 1 (pkSl 1 eI_ eIl_).en (.slice a269 l268.length c270) z271,Res.mapB keyS keyI (some b275) m274,Res.cells b212 #[.slice a111_1 v26.1.length c111_1,.slice a278 l277.length c279,.slice a284 l283.length c285] 50,Res.rowS 46 1 (pkSl 1 eI_ eIl_).en (.slice a278 l277.length c279) z280,Res.rowS 4 1 encB (.slice a284 l283.length c285) l283,Res.cells b303 #[.slice a301_1 v116.1.length c301_2] 46,Res.rowS 3 1 eI_ (.slice a301_1 v116.1.length c301_2) v116.1]) (fun g=>g.2) (fun g=>iter (fun q:Bool×Nat=>Do_ v116 l193 v13 l130 i264 l268 m274 l277 l283 k286 q.1 q.2) g.1=some z1∧l193.length=(List.replicate x0.states.toNat false).length∧ZOk g.2 (pkSl 1 eI_ eIl_) z271 l268∧ZOk g.2 (pkSl 1 eI_ eIl_) z280 l277∧Store.le τ293 g.2) (fun g=>rounds (fun q:Bool×Nat=>Do_ v116 l193 v13 l130 i264 l268 m274 l277 l283 k286 q.1 q.2) g.1) ((false,0),τ293) (Sub.f [1,1,12,12,12,7,7,7,12,12,12,12,12] 13) z (by repeat (first|exact trivial|refine ⟨z,?_⟩)) ⟨hh,hn266,zf272,zf281,(Store.le.refl _)⟩ (fun g4 j4 hg4=> ?_)))))))))))))
  obtain ⟨⟨t322,k323⟩,τ324⟩:=g4
  obtain ⟨hh,hn319,zf320,zf321,hle325⟩:=hg4
  try dsimp only at hn319
  try dsimp only at zf320
  try dsimp only at zf321
  dsimp only at hle325
  replace hgl:=hgl.mono hle325
  replace hr109_0:=hr109_0.mono hle325
  replace hr111_0:=hr111_0.mono hle325
  replace hr265:=hr265.mono hle325
  replace zf281:=zf281.mono hle325
  try dsimp only
  obtain ⟨z2,hh,hR2⟩:=iter_e hh
  dsimp only [Do_]at hh
  have hn319b:=hn319
  have zf320b:=zf320.length
  have zf321b:=zf321.length
  refine TC.isSl (i:=3) z (fun _ hb326 _=> ?_)
  refine TC.isSl (i:=6) z (fun _ hb327 _=> ?_)
  refine TC.isSl (i:=9) z (fun _ hb328 _=> ?_)
  refine TC.isSl (i:=10) z (fun _ hb329 _=> ?_)
  refine TC.isSl (i:=12) z (fun _ hb330 _=> ?_)
  refine TC.a (TL.w z (OpVal.lss z z z) (TL.en (TC.seq (TC.cD z hh (fun h331 hh=> ?_) (fun h331 hh=> ?_)))))
  ·refine TC.skip (S.n (TC.cutG (α:=(Bool)×(Store)) (rgs [(21,1),(23,1),(126,9)]) (fun g=>[(21,.bool g.1)]) (fun g=>[Res.cells b103 #[.slice none 0 0,.slice none 0 0,.slice none 0 0] 50,Res.cells b105 #[.int .i64 i264] 27,Res.cells b117 #[.slice a113 l130.length c114] 105,Res.rowS 4 1 encB (.slice a176 (List.replicate x0.states.toNat false).length c177) l193,Res.cells b206 #[loc b202_1 0] 106,Res.cells b202_1 #[.slice a269 l268.length c270,.map (some b275)] 152,Res.rowS 46 1 (pkSl 1 eI_ eIl_).en (.slice a269 l268.length c270) z271,Res.mapB keyS keyI (some b275) m274,Res.cells b212 #[.slice a111_1 v26.1.length c111_1,.slice a278 l277.length c279,.slice a284 l283.length c285] 50,Res.rowS 46 1 (pkSl 1 eI_ eIl_).en (.slice a278 l277.length c279) z280,Res.rowS 4 1 encB (.slice a284 l283.length c285) l283,Res.cells b303 #[.slice a301_1 v116.1.length c301_2] 46,Res.rowS 3 1 eI_ (.slice a301_1 v116.1.length c301_2) v116.1]) (fun g=>g.2) (fun g=>Dn_ k323 g.1=some z2∧l193.length=(List.replicate x0.states.toNat false).length∧ZOk g.2 (pkSl 1 eI_ eIl_) z271 l268∧ZOk g.2 (pkSl 1 eI_ eIl_) z280 l277∧Store.le τ324 g.2) ?_ (fun g j hg=> ?_)))
   ·skip
    refine TC.block (TC.a (TL.isSl (i:=12) z (fun hs336 _ _=> ?_)))
    refine TL.w z (indexN z underlying46 sz3 z z hs336 (by omega)) (TL.w z (loadO1 (0:Int) z ag3 z (q:=12) z eIl_ (by omega) z) (TL.i z z (TL.en (TC.region (TL.j z z (TL.j z z (TL.split 129 z (fun h337=> ?_) (fun h337=> ?_))))))))
    ·replace hh:=iteO_t h337 hh
     exact TL.f z (TL.f z (TL.f z (TL.f z (TL.w z (pickTB z z z) (TL.j z z (TL.nil (B.n (S.n (cf (true,τ324) ⟨hh,hn319,zf320,zf321,(Store.le.refl _)⟩ (Sub.f [12,12,12,12,12,12,12,12,12,12,12,12,12] 13))))))))))
    replace hh:=iteO_f h337 hh
    refine TL.g z (moveSl (.inl z) z) (TL.g z (moveI (.inl z) z) ?_)
    have u141:=grd_c hh
    replace hh:=grd_t hh
    refine TL.isSl (i:=3) z (fun hs338 _ _=> ?_)
    exact TL.g z (OpVal.index z underlying48 sz4 z z hs338 u141.1 u141.2) (TL.g z (loadO1 false z ag4 z (q:=3) z encB_len (by omega) z) (TL.w z (pickFB z z z) (TL.j z z (TL.nil (B.n (S.n (cf ((nth l193 ((nth v116.1 k323 (0:Int)).toNat) false),τ324) ⟨hh,hn319,zf320,zf321,(Store.le.refl _)⟩ (Sub.f [12,12,12,12,12,12,12,12,12,12,12,12,12] 13))))))))
   skip
   obtain ⟨t335,τ339⟩:=g
   obtain ⟨hh,hn332,zf333,zf334,hle340⟩:=hg
   try dsimp only at hn332
   try dsimp only at zf333
   try dsimp only at zf334
   dsimp only at hle340
   replace hgl:=hgl.mono hle340
   replace hr109_0:=hr109_0.mono hle340
   replace hr111_0:=hr111_0.mono hle340
   replace hr265:=hr265.mono hle340
   replace zf281:=zf281.mono hle340
   replace zf320:=zf320.mono hle340
   replace zf321:=zf321.mono hle340
   try dsimp only
   dsimp only [Dn_]at hh
   have hn332b:=hn332
   have zf333b:=zf333.length
   have zf334b:=zf334.length
   refine TC.isSl (i:=3) z (fun _ hb341 _=> ?_)
   refine TC.isSl (i:=6) z (fun _ hb342 _=> ?_)
   refine TC.isSl (i:=9) z (fun _ hb343 _=> ?_)
   refine TC.isSl (i:=10) z (fun _ hb344 _=> ?_)
   refine TC.isSl (i:=12) z (fun _ hb345 _=> ?_)
   refine TC.region (TL.w z (OpVal.succ z z z (by omega)) (TL.i z z (TL.en ?_)))
   obtain ⟨hh,hlt346⟩:=nxt_x hR2 hh
   exact lf ((t335,(k323+1)),τ339) hlt346 ⟨hh,hn332,zf333,zf334,(hle325.trans hle340)⟩ (Sub.f [12,12,12,12,12,12,12,12,12,12,12,12,12] 13)
  refine TC.exit (S.x (S.x ?_))
  replace hh:=fin_x hR2 hh
  refine TC.exitHere (S.n (TC.a (TL.s z z (TL.w z (lenC z underlying99 z) ?_))))
  have u149:=grd_c hh
  replace hh:=grd_t hh
  refine TL.op z (makeS2 (enc:=eI_) (0:Int) z underlying46 sz3 by3 ze3 z z z z (by omega) (by decide) eIl_ (by decide) z eIo_ (fun a347 c348=> ?_))
  refine TL.op z (OpOk.alloc z ze46 z z (fun b350=> ?_))
  refine TL.op z (storeSl z sz46 z z z z z ?_)
  refine TL.en (TC.seq (TC.a (TL.s z z ?_)))
  obtain ⟨v153,u153,hh⟩:=bnd_e hh
  refine TL.op z (OpOk.call (Fe_ hr109_0 u153) z z pf46 z z z z ?_)
  rintro _ τ352 _ hle352 ⟨b352_4,a352_1,c352_2,rfl,f352_3,rfl⟩
  replace hgl:=hgl.mono hle352
  replace hr111_0:=hr111_0.mono hle352
  replace hr265:=hr265.mono hle352
  replace zf281:=zf281.mono hle352
  replace zf320:=zf320.mono hle352
  replace zf321:=zf321.mono hle352
  have f352_3b:=f352_3.rv.big
  refine TL.en (TC.block (TC.front 15 z z (TC.sealS eIl_ (fun τ405 hle404 hr403=> ?_))))
  replace hgl:=hgl.mono hle404
  replace hr111_0:=hr111_0.mono hle404
  replace hr265:=hr265.mono hle404
  replace zf281:=zf281.mono hle404
  replace zf320:=zf320.mono hle404
  replace zf321:=zf321.mono hle404
  replace f352_3:=f352_3.mono hle404
  have hr403b:=hr403.rv.big
  refine TC.ofSub (Sub.f [2,2,14,14,14,14,14,14,14,14,14,14,14,14] 15) ?_
  obtain ⟨zr256,hz256,hh⟩:=bnd_e hh
  obtain ⟨jz256,⟨i388,l391,m397,l401⟩⟩:=zr256
  dsimp only at hh
  refine TC.rangeG (A:=(fun (x:Int×BSet) _ vs=>vs=[.int .i64 x.1,setV x.2])) [.ret] (fun (q:Int×(List (List Int))×(FM (List UInt8) Int)×(List Int)) (x:Int×BSet)=>Db_ l130 v116 q.1 q.2.1 q.2.2.1 q.2.2.2 x.1 x.2) (fun (q:Int×(List (List Int))×(FM (List UInt8) Int)×(List Int)) (τ406:Store) Hs=> ∃a392 c393, ∃(z394:List (List Int×(pkSl 1 eI_ eIl_).P)), ∃b398,Hs=[Res.cells b103 #[.slice none 0 0,.slice none 0 0,.slice none 0 0] 50,Res.cells b105 #[.int .i64 q.1] 27,Res.cells b117 #[.slice a113 l130.length c114] 105,Res.rowS 4 1 encB (.slice a176 (List.replicate x0.states.toNat false).length c177) l193,Res.cells b206 #[loc b202_1 0] 106,Res.cells b202_1 #[.slice a392 q.2.1.length c393,.map (some b398)] 152,Res.rowS 46 1 (pkSl 1 eI_ eIl_).en (.slice a392 q.2.1.length c393) z394,Res.mapB keyS keyI (some b398) q.2.2.1,Res.cells b212 #[.slice a111_1 v26.1.length c111_1,.slice a278 l277.length c279,.slice a284 l283.length c285] 50,Res.rowS 46 1 (pkSl 1 eI_ eIl_).en (.slice a278 l277.length c279) z280,Res.rowS 4 1 encB (.slice a284 l283.length c285) l283,Res.cells b303 #[.slice a301_1 v116.1.length c301_2] 46,Res.cells b350 #[.slice a347 ((List.replicate v13.1.length (0:Int)).length) c348] 46,Res.rowS 3 1 eI_ (.slice a347 (List.replicate v13.1.length (0:Int)).length c348) q.2.2.2]∧l193.length=(List.replicate x0.states.toNat false).length∧ZOk τ406 (pkSl 1 eI_ eIl_) z394 q.2.1∧ZOk τ406 (pkSl 1 eI_ eIl_) z280 l277∧RS τ406 1 eI_ (.slice a301_1 v116.1.length c301_2) v116.1∧q.2.2.2.length=(List.replicate v13.1.length (0:Int)).length) (s:=(i264,l268,m274,(List.replicate v13.1.length (0:Int)))) rfl pf83 rfl rfl (by rintro _ _ _ _ ⟨a392,c393,z394,b398,rfl,hn389,zf395,zf399,hr400,hn402⟩ hle_;exact ⟨a392,c393,z394,b398,rfl,hn389,zf395.mono hle_,zf399.mono hle_,hr400.mono hle_,hn402⟩) ⟨a269,c270,z271,b275,rfl,hn319,zf320,zf321,hr403,rfl⟩ (fun _ _ _ h_=>by subst h_;rfl) (E1_ f352_3 hz256) ?_ ?_
  ·clear hh hz256
   rintro l_ _ _ _ τ406 ⟨i388,l391,m397,l401⟩ ⟨y256_0,y256_1⟩ z256 _ _ hh hle407 rfl ⟨a392,c393,z394,b398,rfl,hn389,zf395,zf399,hr400,hn402⟩
   dsimp only [Db_]at hh
   replace hgl:=hgl.mono hle407
   replace hr111_0:=hr111_0.mono hle407
   replace hr265:=hr265.mono hle407
   replace zf281:=zf281.mono hle407
   have hn389b:=hn389
   have zf395b:=zf395.length
   have zf399b:=zf399.length
   have hr400b:=hr400.rv.big
   have hn402b:=hn402
   show TC _ _ _ (upds _ [(142,setV y256_1),(141,.int .i64 y256_0)]) τ406 [Res.cells b103 #[.slice none 0 0,.slice none 0 0,.slice none 0 0] 50,Res.cells b105 #[.int .i64 i388] 27,Res.cells b117 #[.slice a113 l130.length c114] 105,Res.rowS 4 1 encB (.slice a176 (List.replicate x0.states.toNat false).length c177) l193,Res.cells b206 #[loc b202_1 0] 106,Res.cells b202_1 #[.slice a392 l391.length c393,.map (some b398)] 152,Res.rowS 46 1 (pkSl 1 eI_ eIl_).en (.slice a392 l391.length c393) z394,Res.mapB keyS keyI (some b398) m397,Res.cells b212 #[.slice a111_1 v26.1.length c111_1,.slice a278 l277.length c279,.slice a284 l283.length c285] 50,Res.rowS 46 1 (pkSl 1 eI_ eIl_).en (.slice a278 l277.length c279) z280,Res.rowS 4 1 encB (.slice a284 l283.length c285) l283,Res.cells b303 #[.slice a301_1 v116.1.length c301_2] 46,Res.cells b350 #[.slice a347 ((List.replicate v13.1.length (0:Int)).length) c348] 46,Res.rowS 3 1 eI_ (.slice a347 (List.replicate v13.1.length (0:Int)).length c348) l401]
   refine TC.isSl (i:=3) z (fun _ hb408 _=> ?_)
   refine TC.isSl (i:=6) z (fun _ hb409 _=> ?_)
   refine TC.isSl (i:=9) z (fun _ hb410 _=> ?_)
   refine TC.isSl (i:=10) z (fun _ hb411 _=> ?_)
   refine TC.isSl (i:=13) z (fun _ hb412 _=> ?_)
   refine TC.a (TL.i z z (TL.en (TC.region (TL.op z (OpOk.alloc z ze55 z z (fun b413=> ?_))))))
   refine TL.op z (storeAll z sz55 z z z z z z ?_)
   refine TL.nil (asg_n (fun _ _ _=> ?_))
   refine TC.block (TC.seq ?_)
   obtain ⟨v161,u161,hh⟩:=bnd_e hh
   obtain ⟨v162,u162,hh⟩:=bnd_e hh
   refine TC.drawR (Hr:=[Res.cells b413 (setA y256_1) 55,Res.cells b103 #[.slice none 0 0,.slice none 0 0,.slice none 0 0] 50,Res.cells b105 #[.int .i64 i388] 27,Res.cells b117 #[.slice a113 l130.length c114] 105,Res.rowS 4 1 encB (.slice a176 (List.replicate x0.states.toNat false).length c177) l193,Res.cells b206 #[loc b202_1 0] 106,Res.cells b212 #[.slice a111_1 v26.1.length c111_1,.slice a278 l277.length c279,.slice a284 l283.length c285] 50,Res.rowS 46 1 (pkSl 1 eI_ eIl_).en (.slice a278 l277.length c279) z280,Res.rowS 4 1 encB (.slice a284 l283.length c285) l283,Res.cells b303 #[.slice a301_1 v116.1.length c301_2] 46,Res.cells b350 #[.slice a347 ((List.replicate v13.1.length (0:Int)).length) c348] 46,Res.rowS 3 1 eI_ (.slice a347 (List.replicate v13.1.length (0:Int)).length c348) l401]) (fun r hr=>mem_pick [0,1,2,3,4,5,9,10,11,12,13,14] z hr) [] (by kernel_rfl) (TA.b 0 z (loadLoc z ag106 z (i:=5) z z) z (TA.b 1 z (loadLoc z ag105 z (i:=3) z z) z (TA.b 2 z (loadLoc z ag46 z (i:=9) z z) z (TA.b 3 z (loadAll z ag55 sz55 z (i:=0) z z) z (TA.ac 4 z (OpOk.call (Gq_ hgl hr265 hr400 u161) z z pf47 z z z z ?_))))))
   rintro _ _ _ hle420 ⟨a420_1,c420_1,rfl,rfl,rfl⟩
   refine ⟨(fun w h=>sees_of (Store.le.refl _) (fun r hr=>mem_pick [1,2,3,4,5,6,10,11,12,13,14,15] z hr) w h),?_⟩
   refine TA.front 9 z z (TA.front 9 z z (TA.front 9 z z (TA.ac 5 z (OpOk.call (putKeep_con zf395 u162) z z pf43 z z z z ?_))))
   rintro _ τ422 _ hle422 ⟨a422_1,c422_2,z422_3,b422_5,rfl,zf422_4,rfl⟩
   replace hr111_0:=hr111_0.mono hle422
   replace hr265:=hr265.mono hle422
   replace zf281:=zf281.mono hle422
   replace zf395:=zf395.mono hle422
   replace zf399:=zf399.mono hle422
   replace hr400:=hr400.mono hle422
   have zf422_4b:=zf422_4.length
   refine kl 4 hle422 (TA.a 6 z (moveT (.inl z) z) z (TA.a 7 z (OpVal.extract z z z) z (TA.a 8 z (OpVal.extract z z z) z (TA.a 9 z (OpVal.extract z z z) z (TA.a 10 z (moveI (.inr z) z) z (TA.a 11 z (moveB (.inr z) z) z (TA.a 12 z (moveI (.inr z) z) z (TA.dn (S.n (TC.seq (TC.a (TL.i z z (TL.w z (OpVal.neq z z z) (TL.en (TC.cD z hh (fun h425 hh=> ?_) (fun h425 hh=> ?_))))))))))))))))
   ·refine TC.a (TL.w z (buildL z pl50 ze50 z) (TL.i z z (TL.front 5 z z (TL.op z (storeAll z sz50 z z z z z z ?_)))))
    refine TL.front 6 z z (TL.op z (storeI z sz27 z z z z z ?_))
    refine TL.en (TC.ret (S.r (B.r ?_)))
    obtain rfl:=so hh
    exact rnd_r 0 z ⟨z,_,Sub.f [15,15,15,15,15,15,10,10,10,15,15,15,12,13] 14,⟨a422_1,c422_2,z422_3,b422_5,z,hn389,zf422_4,zf399,hr400,hn402⟩⟩
   refine TC.skip (S.n (TC.seq (TC.a (TL.i z z (TL.w z (OpVal.geq z z z) (TL.en (TC.cD z hh (fun h426 hh=> ?_) (fun h426 hh=> ?_))))))))
   ·refine TC.a (TL.w z (buildL z pl50 ze50 z) (TL.front 5 z z (TL.op z (storeAll z sz50 z z z z z z ?_))))
    refine TL.front 6 z z (TL.op z (storeI z sz27 z z z z z ?_))
    refine TL.en (TC.ret (S.r (B.r ?_)))
    obtain rfl:=so hh
    exact rnd_r 0 z ⟨z,_,Sub.f [15,15,15,15,15,15,10,10,10,15,15,15,12,13] 14,⟨a422_1,c422_2,z422_3,b422_5,z,hn389,zf422_4,zf399,hr400,hn402⟩⟩
   refine TC.skip (S.n (TC.region (TL.w z (loadLoc z ag46 z (i:=14) z z) (TL.i z z (TL.i z z ?_)))))
   have u184:=grd_c hh
   replace hh:=grd_t hh
   refine TL.isSl (i:=15) z (fun hs427 _ _=> ?_)
   refine TL.w z (OpVal.index z underlying46 sz3 z z hs427 u184.1 u184.2) (TL.front 15 z z ?_)
   have hn428:(l401.set y256_0.toNat v162.1).length=(List.replicate v13.1.length (0:Int)).length:=by rw [List.length_set];exact hn402
   refine TL.op z (storeS v162.1 z sz3 z z z z eIl_ eIo_ (by omega) (by omega) ?_)
   refine TL.nil (B.n ?_)
   obtain rfl:=so hh
   exact rnd_n ⟨z,_,Sub.f [15,15,15,15,15,8,8,8,15,15,15,15,15] 14,⟨a422_1,c422_2,z422_3,b422_5,z,hn389,zf422_4,zf399,hr400,hn428⟩⟩
  rintro τ406 _ _ hle407 ⟨a392,c393,z394,b398,rfl,hn389,zf395,zf399,hr400,hn402⟩ ⟨rfl⟩
  replace hr111_0:=hr111_0.mono hle407
  replace hr265:=hr265.mono hle407
  replace zf281:=zf281.mono hle407
  have hn389b:=hn389
  have zf395b:=zf395.length
  have zf399b:=zf399.length
  have hr400b:=hr400.rv.big
  have hn402b:=hn402
  dsimp only [Ek_]at hh
  show jmpQ _ _ _ _ _ τ406 [Res.cells b103 #[.slice none 0 0,.slice none 0 0,.slice none 0 0] 50,Res.cells b105 #[.int .i64 i388] 27,Res.cells b117 #[.slice a113 l130.length c114] 105,Res.rowS 4 1 encB (.slice a176 (List.replicate x0.states.toNat false).length c177) l193,Res.cells b206 #[loc b202_1 0] 106,Res.cells b202_1 #[.slice a392 l391.length c393,.map (some b398)] 152,Res.rowS 46 1 (pkSl 1 eI_ eIl_).en (.slice a392 l391.length c393) z394,Res.mapB keyS keyI (some b398) m397,Res.cells b212 #[.slice a111_1 v26.1.length c111_1,.slice a278 l277.length c279,.slice a284 l283.length c285] 50,Res.rowS 46 1 (pkSl 1 eI_ eIl_).en (.slice a278 l277.length c279) z280,Res.rowS 4 1 encB (.slice a284 l283.length c285) l283,Res.cells b303 #[.slice a301_1 v116.1.length c301_2] 46,Res.cells b350 #[.slice a347 ((List.replicate v13.1.length (0:Int)).length) c348] 46,Res.rowS 3 1 eI_ (.slice a347 (List.replicate v13.1.length (0:Int)).length c348) l401,Res.cells b352_4 #[.slice a352_1 v153.length c352_2] 99]
  refine jmp_split hh ?_ ?_ <;>clear hh
  ·intro hh
   refine B.n (S.n (TC.a (TL.w z (fieldLoc z fo50_1 z) (TL.w z (loadLoc z ag47 z (i:=8) z z) (TL.w z (loadLoc z ag46 z (i:=12) z z) ?_)))))
   rw [←hn402]
   refine TL.front 13 z z (TL.sealS eIl_ (fun τ433 hle432 hr431=> ?_))
   replace hr111_0:=hr111_0.mono hle432
   replace hr265:=hr265.mono hle432
   replace zf281:=zf281.mono hle432
   replace zf395:=zf395.mono hle432
   replace zf399:=zf399.mono hle432
   have hr431b:=hr431.rv.big
   have zf434:ZOk _ (pkSl 1 eI_ eIl_) ([(l401,(a347,c348))]:List (List Int×(pkSl 1 eI_ eIl_).P)) [l401]:=ZOk.cons (hr431) (ZOk.nil _ _)
   refine TL.op z (litZ zf434 z underlying47 sz46 z ze46 z z z (by decide) (by decide) z (by decide) z (by decide) (fun a429 c430=> ?_))
   refine TL.front 10 z z ?_
   have u190:=grd_c hh
   replace hh:=grd_t hh
   refine TL.op z (appendZ (k:=(pkSl 1 eI_ eIl_)) zf399 zf434 z z underlying47 sz46 by46 ze46 z z (by decide) z z z (.inr ⟨_,0,z⟩) (by simpa using u190) (by decide) (fun a436 c437 zf438=> ?_))
   refine TL.w z (fieldLoc z fo50_1 z) (TL.front 10 z z (TL.op z (storeSl z sz47 z z z z z ?_)))
   refine TL.en (TC.region (TL.w z (fieldLoc z fo50_2 z) (TL.w z (loadLoc z ag48 z (i:=0) z z) (TL.j z z (TL.op z (OpOk.lit (enc:=encB) [t322] z underlying48 sz4 ze4 z z z encB_len (by decide) (by decide) false z (by decide) z (by decide) encB_one (fun a439 c440=> ?_)))))))
   refine TL.front 12 z z ?_
   have u197:=grd_c hh
   replace hh:=grd_t hh
   refine TL.op z (appendS z z underlying48 sz4 by4 ze4 z z (by decide) z z z (.inr ⟨_,0,z⟩) (by simpa using u197) (by decide) (fun a442 c443=> ?_))
   refine TL.w z (fieldLoc z fo50_2 z) (TL.front 2 z z (TL.op z (storeSl z sz48 z z z z z ?_)))
   refine TL.nil (B.n (S.n (TC.region (TL.i z z ?_))))
   have u201:=grd_c hh
   replace hh:=grd_t hh
   refine TL.w z (OpVal.succ z z z (by omega)) (TL.i z z (TL.en ?_))
   obtain ⟨hh,hlt444⟩:=nxt_x hR1 hh
   exact lf ((i388,l391,m397,(l277++[l401]),(l283++[t322]),(k286+1)),(a392,c393,z394,b398,a436,c437,(z280++([(l401,(a347,c348))]:List (List Int×(pkSl 1 eI_ eIl_).P))),a442,c443,τ433)) hlt444 ⟨hh,hr265,hn389,zf395,zf438,(((((hle294.trans hle325).trans hle352).trans hle404).trans hle407).trans hle432)⟩ (Sub.f [1,3,2,12,12,12,12,12,12,12,12] 11)
  intro m_ c_ hh hc_
  refine jl_split hh hc_ ?_ ?_ <;>clear hh hc_
  ·intro hh
   refine TC.ofSub (Sub.f [1,1] 2) (TC.ret (B.r (S.r (B.r (S.r (S.r ?_))))))
   replace hh:=fin_x hR1 hh
   refine B.r (S.r ?_)
   obtain rfl:=so hh
   exact ro [] z (RVs.agg ag50 sz50 z (i:=0) z z (RVs.one ag27 z (i:=1) z z RVs.nil)) ⟨none,0,none,0,none,0,z,(RS.nilF _ eI_ eIl_),(RZ.nilF _ (pkSl 1 eI_ eIl_)),(RS.nilF _ encB encB_len),z⟩
  intro m_ hh hc_
  exact jl_nil hc_
 refine TC.exit (S.x (S.x ?_))
 replace hh:=fin_x hR1 hh
 refine TC.exitHere (S.n (TC.a (TL.w z (loadAll z ag50 sz50 z (i:=8) z z) (TL.front 3 z z (TL.op z (storeAll z sz50 z z z z z z ?_))))))
 refine TL.front 4 z z (TL.op z (storeI z sz27 z z z z z ?_))
 refine TL.en (TC.front 9 z z (TC.sealZ zf281 (fun τ447 hle446 hr445=> ?_)))
 replace hr111_0:=hr111_0.mono hle446
 have hr445b:=hr445.big
 refine TC.front 9 z z (TC.sealS encB_len (fun τ450 hle449 hr448=> ?_))
 replace hr111_0:=hr111_0.mono hle449
 replace hr445:=hr445.mono hle449
 have hr448b:=hr448.rv.big
 refine TC.ofSub (Sub.f [1] 2) (TC.ret ?_)
 obtain rfl:=so hh
 exact ro [] z (RVs.agg ag50 sz50 z (i:=0) z z (RVs.one ag27 z (i:=1) z z RVs.nil)) ⟨a111_1,c111_1,a278,c279,a284,c285,z,hr111_0,hr445,hr448,z⟩
end Go.Proofs.YtamgjehhjkgelaaGreatDoor
end

noncomputable section
namespace Go.Proofs.YtamgjehhjkgelaaGreatDoor
open Go Go.E Go.E.OpVal Go.E.OpOk
end Go.Proofs.YtamgjehhjkgelaaGreatDoor
end

noncomputable section
namespace Go.E
open Go
structure ReLeaf where
  kind:Int
  text:List UInt8
  set:BSet
  min:Int
  max:Int
  deriving DecidableEq
def ReLeaf.zero:ReLeaf:=⟨0,[],BSet.zero,0,0⟩
def encReLeaf(x:ReLeaf):List Value:=[.int .i64 x.kind,.string (bs x.text),.int .u64 ((x.set.a:Nat):Int),.int .u64 ((x.set.b:Nat):Int),.int .u64 ((x.set.c:Nat):Int),.int .u64 ((x.set.d:Nat):Int),.slice none 0 0,.int .i64 x.min,.int .i64 x.max]
theorem encReLeaf_len(x:ReLeaf):(encReLeaf x).length=9:=rfl
theorem encReLeaf_one: ∀x, ∀u∈encReLeaf x,u.oneCell'=true:=fun x u hu=>by
  simp [encReLeaf]at hu
  rcases hu with rfl|rfl|rfl|rfl|rfl|rfl|rfl|rfl|rfl<;>rfl
structure ReRoot where
  kind:Int
  text:List UInt8
  set:BSet
  parts:List ReLeaf
  min:Int
  max:Int
def ReRoot.zero:ReRoot:=⟨0,[],BSet.zero,[],0,0⟩
end Go.E
end
