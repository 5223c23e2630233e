/- Parts of a proof, one behind the other: what a machine reaches, functions decompiled, plain lemmas. Conditions stand with each lemma. -/
import Derived.Test.YtchebnpdnfhenaaGreatDoorB60195d3efe
import Derived.Test.YtchebnpdnfhenaaGreatDoorB382a0c1c0e
import Derived.Test.YtchebnpdnfhenaaGreatDoorBa5759567ef
import Derived.Test.YtchebnpdnfhenaaGreatDoorB1b39d3db65

set_option linter.unusedVariables false
set_option linter.unusedSimpArgs false
set_option linter.unusedSectionVars false
set_option maxRecDepth 100000
set_option maxHeartbeats 8000000
variable {σ:Go.E.Store}{a0_0 a0_1 a0_10 a0_13 a0_16 a0_18 a0_2 a0_20 a0_4 a0_7:Option Go.Addr}{Eb0 b0_0 c0_0 c0_1 c0_11 c0_14 c0_17 c0_19 c0_2 c0_21 c0_5 c0_8:Nat}

noncomputable section
namespace Go.Proofs.YtchebnpdnfhenaaGreatDoor
open Go Go.E Go.E.OpVal Go.E.OpOk Go.Proofs.Tryz
theorem ag162:aggOf Tryz.prog 162=some false:=by kernel_rfl
theorem ag163:aggOf Tryz.prog 163=some false:=by kernel_rfl
theorem ag202:aggOf Tryz.prog 202=some true:=by kernel_rfl
theorem ag203:aggOf Tryz.prog 203=some true:=by kernel_rfl
theorem ag205:aggOf Tryz.prog 205=some true:=by kernel_rfl
theorem ag207:aggOf Tryz.prog 207=some true:=by kernel_rfl
theorem ag227:aggOf Tryz.prog 227=some true:=by kernel_rfl
theorem ag228:aggOf Tryz.prog 228=some false:=by kernel_rfl
theorem ag230:aggOf Tryz.prog 230=some true:=by kernel_rfl
theorem by207:byOf Tryz.prog 207=some 64:=by kernel_rfl
theorem by227:byOf Tryz.prog 227=some 32:=by kernel_rfl
theorem by228:byOf Tryz.prog 228=some 24:=by kernel_rfl
theorem by230:byOf Tryz.prog 230=some 24:=by kernel_rfl
theorem eg203:Tryz.prog.eqGuardType Tryz.prog.depth 203=false:=by kernel_rfl
theorem es203(x y:SPr):Go.E.EqAt Tryz.prog 2 203 (.agg (Go.E.encSPr x).toArray) (.agg (Go.E.encSPr y).toArray) (decide (x=y)):=
 (EqAt.arr2 underlying203 (by kernel_rfl) (by kernel_rfl) (EqAt.str underlying9 x.a y.a) (EqAt.str underlying9 x.b y.b)).of (by rw [Bool.eq_iff_iff];cases x;cases y;simp)
theorem fo165_0:foOf Tryz.prog 165 0=some 0:=by kernel_rfl
theorem fo165_1:foOf Tryz.prog 165 1=some 4:=by kernel_rfl
theorem fo165_2:foOf Tryz.prog 165 2=some 5:=by kernel_rfl
theorem fo165_3:foOf Tryz.prog 165 3=some 6:=by kernel_rfl
theorem fo165_4:foOf Tryz.prog 165 4=some 7:=by kernel_rfl
theorem fo165_5:foOf Tryz.prog 165 5=some 8:=by kernel_rfl
theorem fo165_6:foOf Tryz.prog 165 6=some 9:=by kernel_rfl
theorem fo165_7:foOf Tryz.prog 165 7=some 10:=by kernel_rfl
theorem fo205_0:foOf Tryz.prog 205 0=some 0:=by kernel_rfl
theorem fo205_1:foOf Tryz.prog 205 1=some 2:=by kernel_rfl
theorem fo207_0:foOf Tryz.prog 207 0=some 0:=by kernel_rfl
theorem fo207_1:foOf Tryz.prog 207 1=some 4:=by kernel_rfl
theorem fo207_2:foOf Tryz.prog 207 2=some 5:=by kernel_rfl
theorem fo227_0:foOf Tryz.prog 227 0=some 0:=by kernel_rfl
theorem fo227_1:foOf Tryz.prog 227 1=some 1:=by kernel_rfl
theorem fo227_2:foOf Tryz.prog 227 2=some 2:=by kernel_rfl
theorem fo227_3:foOf Tryz.prog 227 3=some 3:=by kernel_rfl
theorem fo227_4:foOf Tryz.prog 227 4=some 4:=by kernel_rfl
theorem fo230_0:foOf Tryz.prog 230 0=some 0:=by kernel_rfl
theorem fo230_1:foOf Tryz.prog 230 1=some 1:=by kernel_rfl
theorem fo230_2:foOf Tryz.prog 230 2=some 2:=by kernel_rfl
theorem pf107:plainF Tryz.prog 107=true:=by kernel_rfl
theorem pf108:plainF Tryz.prog 108=true:=by kernel_rfl
theorem pf145:plainF Tryz.prog 145=true:=by kernel_rfl
theorem pf146:plainF Tryz.prog 146=true:=by kernel_rfl
theorem pf147:plainF Tryz.prog 147=true:=by kernel_rfl
theorem pf148:plainF Tryz.prog 148=true:=by kernel_rfl
theorem pf169:plainF Tryz.prog 169=true:=by kernel_rfl
theorem pf170:plainF Tryz.prog 170=true:=by kernel_rfl
theorem pf171:plainF Tryz.prog 171=true:=by kernel_rfl
theorem pf172:plainF Tryz.prog 172=true:=by kernel_rfl
theorem pf173:plainF Tryz.prog 173=true:=by kernel_rfl
theorem pf174:plainF Tryz.prog 174=true:=by kernel_rfl
theorem pf175:plainF Tryz.prog 175=true:=by kernel_rfl
theorem pf176:plainF Tryz.prog 176=true:=by kernel_rfl
theorem pf202:plainF Tryz.prog 202=true:=by kernel_rfl
theorem pf65:plainF Tryz.prog 65=true:=by kernel_rfl
theorem pl165:plOf Tryz.prog 165=some #[(0,4),(4,1),(5,1),(6,1),(7,1),(8,1),(9,1),(10,1)]:=by kernel_rfl
theorem pl205:plOf Tryz.prog 205=some #[(0,2),(2,2)]:=by kernel_rfl
theorem pl207:plOf Tryz.prog 207=some #[(0,4),(4,1),(5,1)]:=by kernel_rfl
theorem pl227:plOf Tryz.prog 227=some #[(0,1),(1,1),(2,1),(3,1),(4,1)]:=by kernel_rfl
theorem pl230:plOf Tryz.prog 230=some #[(0,1),(1,1),(2,1)]:=by kernel_rfl
theorem sz162:szOf Tryz.prog 162=some 1:=by kernel_rfl
theorem sz163:szOf Tryz.prog 163=some 1:=by kernel_rfl
theorem sz202:szOf Tryz.prog 202=some 2:=by kernel_rfl
theorem sz203:szOf Tryz.prog 203=some 2:=by kernel_rfl
theorem sz205:szOf Tryz.prog 205=some 4:=by kernel_rfl
theorem sz207:szOf Tryz.prog 207=some 6:=by kernel_rfl
theorem sz227:szOf Tryz.prog 227=some 5:=by kernel_rfl
theorem sz228:szOf Tryz.prog 228=some 1:=by kernel_rfl
theorem sz230:szOf Tryz.prog 230=some 3:=by kernel_rfl
theorem ze165:zeroOf Tryz.prog 165=some (.agg #[.int .i64 0,.slice none 0 0,.slice none 0 0,.slice none 0 0,.slice none 0 0,.slice none 0 0,.slice none 0 0,.slice none 0 0,.slice none 0 0,.string ByteArray.empty,.bool false]):=by kernel_rfl
theorem ze202:zeroOf Tryz.prog 202=some (.agg #[.int .i64 0,.int .i64 0]):=by kernel_rfl
theorem ze203:zeroOf Tryz.prog 203=some (.agg #[.string ByteArray.empty,.string ByteArray.empty]):=by kernel_rfl
theorem ze205:zeroOf Tryz.prog 205=some (.agg #[.int .i64 0,.int .i64 0,.string ByteArray.empty,.string ByteArray.empty]):=by kernel_rfl
theorem ze207:zeroOf Tryz.prog 207=some (.agg #[.int .i64 0,.int .i64 0,.string ByteArray.empty,.string ByteArray.empty,.int .i64 0,.int .u8 0]):=by kernel_rfl
theorem ze227:zeroOf Tryz.prog 227=some (.agg #[.bool false,.bool false,.int .i64 0,.int .i64 0,.int .u8 0]):=by kernel_rfl
theorem ze228:zeroOf Tryz.prog 228=some (.slice none 0 0):=by kernel_rfl
theorem ze230:zeroOf Tryz.prog 230=some (.agg #[.int .i64 0,.int .i64 0,.int .i64 0]):=by kernel_rfl
def Ef_(l168:List (List Int))(x0:Fst)(k173:Nat):Option (((List (List Int))×Nat)⊕(Search)):=
 nxt ((l168.set (((nth x0.arcs k173 Arc.zero).frm).toNat) ((nth l168 (((nth x0.arcs k173 Arc.zero).frm).toNat) ([]:List Int))++[((k173:Nat):Int)])),(k173+1))
def Eh_(l237:List (List (List UInt8)))(x0:Fst)(k241:Nat):Option (((List (List (List UInt8)))×Nat)⊕(Search)):=
 nxt ((l237.set (((nth x0.ends k241 Tip.zero).state).toNat) ((nth l237 (((nth x0.ends k241 Tip.zero).state).toNat) ([]:List (List UInt8)))++[(nth x0.ends k241 Tip.zero).out])),(k241+1))
def B1_(x0:Fst)(l168:List (List Int))(l237:List (List (List UInt8)))(k241:Nat):Option (((List (List (List UInt8)))×Nat)⊕(Search)):=
 iteO (decide (((k241:Nat):Int)<((x0.ends.length:Nat):Int))) (grd (0≤((nth x0.ends k241 Tip.zero).state)∧((nth x0.ends k241 Tip.zero).state)<(l237.length:Int)) (grd (((nth l237 (((nth x0.ends k241 Tip.zero).state).toNat) ([]:List (List UInt8))).length+[(nth x0.ends k241 Tip.zero).out].length) * 16≤140737488355328) (grd (0≤((nth x0.ends k241 Tip.zero).state)∧((nth x0.ends k241 Tip.zero).state)<(l237.length:Int)) (Eh_ l237 x0 k241)))) (fin (grd (0≤IntKind.i64.wrap (x0.states * x0.states)∧32 * (IntKind.i64.wrap (x0.states * x0.states)).toNat≤281474976710656) (grd (0≤IntKind.i64.wrap (x0.states * x0.states)∧8 * (IntKind.i64.wrap (x0.states * x0.states)).toNat≤281474976710656) (some (⟨x0,l168,l237,(List.replicate ((IntKind.i64.wrap (x0.states * x0.states)).toNat) Hop.zero),([]:List FBox),(List.replicate ((IntKind.i64.wrap (x0.states * x0.states)).toNat) (0:Int)),([]:List UInt8),false⟩:Search)))))
def B0_(x0:Fst)(l168:List (List Int))(k173:Nat):Option (((List (List Int))×Nat)⊕(Search)):=
 iteO (decide (((k173:Nat):Int)<((x0.arcs.length:Nat):Int))) (grd (0≤((nth x0.arcs k173 Arc.zero).frm)∧((nth x0.arcs k173 Arc.zero).frm)<(l168.length:Int)) (grd (((nth l168 (((nth x0.arcs k173 Arc.zero).frm).toNat) ([]:List Int)).length+[((k173:Nat):Int)].length) * 8≤140737488355328) (grd (0≤((nth x0.arcs k173 Arc.zero).frm)∧((nth x0.arcs k173 Arc.zero).frm)<(l168.length:Int)) (Ef_ l168 x0 k173)))) (fin (iter (fun q:(List (List (List UInt8)))×Nat=>B1_ x0 l168 q.1 q.2) ((List.replicate x0.states.toNat ([]:List (List UInt8))),0)))
def Ei_(x0:Fst):Option (Search):=
 iter (fun q:(List (List Int))×Nat=>B0_ x0 q.1 q.2) ((List.replicate x0.states.toNat ([]:List Int)),0)
def Ew_(x0:Fst):Option (Search):=
 grd (0≤x0.states∧24 * x0.states.toNat≤281474976710656) (grd (0≤x0.states∧24 * x0.states.toNat≤281474976710656) (Ei_ x0))
theorem Gl_{x0:Fst}(f0_0:RS σ 2 encTip (.slice a0_0 x0.starts.length c0_0) x0.starts)(f0_1:RS σ 2 encTip (.slice a0_1 x0.ends.length c0_1) x0.ends)(f0_2:RS σ 8 encArc (.slice a0_2 x0.arcs.length c0_2) x0.arcs){r:Search}(hh:Ew_ x0=some r):
  Con Tryz.prog 107 #[.agg #[.int .i64 x0.states,.slice a0_0 x0.starts.length c0_0,.slice a0_1 x0.ends.length c0_1,.slice a0_2 x0.arcs.length c0_2]] σ [] (fun v σ' H'=> ∃br22 ar1 cr2 ar4 cr5 ar7 cr8 ar10 cr11 ar13 cr14 ar16 cr17 ar18 cr19 ar20 cr21,v=loc br22 0∧RS σ' 2 encTip (.slice ar1 r.t.starts.length cr2) r.t.starts∧RS σ' 2 encTip (.slice ar4 r.t.ends.length cr5) r.t.ends∧RS σ' 8 encArc (.slice ar7 r.t.arcs.length cr8) r.t.arcs∧RZ σ' (pkSl 1 eI_ eIl_) (.slice ar10 r.arcs.length cr11) r.arcs∧RZ σ' (pkSl 1 eS_ eSl_) (.slice ar13 r.ends.length cr14) r.ends∧H'=[Res.cells br22 #[.int .i64 r.t.states,.slice ar1 r.t.starts.length cr2,.slice ar4 r.t.ends.length cr5,.slice ar7 r.t.arcs.length cr8,.slice ar10 r.arcs.length cr11,.slice ar13 r.ends.length cr14,.slice ar16 r.hops.length cr17,.slice ar18 r.row.length cr19,.slice ar20 r.place.length cr21,.string (bs r.text),.bool r.found] 165,Res.rowS 227 5 encHop (.slice ar16 r.hops.length cr17) r.hops,Res.rowS 207 6 encFBox (.slice ar18 r.row.length cr19) r.row,Res.rowS 3 1 eI_ (.slice ar20 r.place.length cr21) r.place]):=by
 dsimp only [Ew_]at hh
 have f0_0b:=f0_0.rv.big
 have f0_1b:=f0_1.rv.big
 have f0_2b:=f0_2.rv.big
 refine Con.mk (n:=90) Tryz.func107 z z z (fun w0=> ?_)
 refine TC.a (TL.op z (boxA z z z z (fun b110=> ?_)))
 refine TL.w z (movePtr (.inr z) z) (TL.en (TC.cutG (α:=(Unit)×(Nat×(Option Addr)×Nat×(Option Addr)×Nat)) (rgs [(3,1),(8,9)]) (fun g=>[(3,loc g.2.1 0)]) (fun g=>[Res.cells b110 #[.int .i64 x0.states,.slice a0_0 x0.starts.length c0_0,.slice a0_1 x0.ends.length c0_1,.slice a0_2 x0.arcs.length c0_2] 25,Res.cells g.2.1 #[.int .i64 x0.states,.slice a0_0 x0.starts.length c0_0,.slice a0_1 x0.ends.length c0_1,.slice a0_2 x0.arcs.length c0_2,.slice g.2.2.1 ((List.replicate x0.states.toNat ([]:List Int)).length) g.2.2.2.1,.slice g.2.2.2.2.1 ((List.replicate x0.states.toNat ([]:List (List UInt8))).length) g.2.2.2.2.2,.slice none 0 0,.slice none 0 0,.slice none 0 0,.string (bs ([]:List UInt8)),.bool false] 165,Res.nest 86 3 1 eI_ (.slice g.2.2.1 (List.replicate x0.states.toNat ([]:List Int)).length g.2.2.2.1) (List.replicate x0.states.toNat (nilN:NP Int)),Res.nest 30 9 1 eS_ (.slice g.2.2.2.2.1 (List.replicate x0.states.toNat ([]:List (List UInt8))).length g.2.2.2.2.2) (List.replicate x0.states.toNat (nilN:NP (List UInt8)))]) (fun g=>σ) (fun g=>Ei_ x0=some r∧Zn (List.replicate x0.states.toNat (nilN:NP Int)) (List.replicate x0.states.toNat ([]:List Int))∧Zn (List.replicate x0.states.toNat (nilN:NP (List UInt8))) (List.replicate x0.states.toNat ([]:List (List UInt8)))) ?_ (fun g j hg=> ?_)))
 ·skip
  have u6:=grd_c hh
  replace hh:=grd_t hh
  have u9:=grd_c hh
  replace hh:=grd_t hh
  refine TC.draw [] (by kernel_rfl) (TA.b 0 z (loadAll z ag25 sz25 z (i:=0) z z) z (TA.a 1 z (fieldLoc z fo25_0 z) z (TA.b 2 z (loadLoc z ag3 z (i:=0) z z) z (TA.a 4 z (fieldLoc z fo25_0 z) z (TA.b 5 z (loadLoc z ag3 z (i:=0) z z) z ?_)))))
  refine TA.actN [3,6] (by kernel_rfl) (an rfl rfl (makeN (q:=x0.states.toNat) (E:=3) (size:=1) (enc:=eI_) rfl underlying27 sz86 by86 ze86 rfl rfl (vN u6.1) (vN u6.1) (by omega) (by decide) rfl (fun a132 c133 zf134=>(k1 ?_))) (an rfl rfl (makeN (q:=x0.states.toNat) (E:=9) (size:=1) (enc:=eS_) rfl underlying28 sz30 by30 ze30 rfl rfl (vN u9.1) (vN u9.1) (by omega) (by decide) rfl (fun a136 c137 zf138=>(k1 ?_))) (True.intro)))
  ·skip
   refine TA.ac 6 rfl (makeN (q:=x0.states.toNat) (E:=9) (size:=1) (enc:=eS_) rfl underlying28 sz30 by30 ze30 rfl rfl (vN u9.1) (vN u9.1) (by omega) (by decide) rfl (fun a140 c141 zf142=>(k2 ?_)))
   refine TA.a 7 z (buildL z pl165 ze165 z) z (TA.ac 8 z (boxA z z z z (fun b144=>(k3 ?_))))
   exact TA.a 9 z (moveLoc (.inr z) z) z (TA.dn (S.n (cf ((),(b144,a132,c133,a140,c141)) ⟨hh,zf134,zf142⟩ (Sub.f [1,2,2,3] 4))))
  skip
  refine TA.ac 3 rfl (makeN (q:=x0.states.toNat) (E:=3) (size:=1) (enc:=eI_) rfl underlying27 sz86 by86 ze86 rfl rfl (vN u6.1) (vN u6.1) (by omega) (by decide) rfl (fun a146 c147 zf148=>(k2 ?_)))
  refine TA.a 7 z (buildL z pl165 ze165 z) z (TA.ac 8 z (boxA z z z z (fun b150=>(k3 ?_))))
  exact TA.a 9 z (moveLoc (.inr z) z) z (TA.dn (S.n (cf ((),(b150,a146,c147,a136,c137)) ⟨hh,zf148,zf138⟩ (Sub.f [2,2,2,3] 4))))
 skip
 obtain ⟨_,⟨b113,a115,c116,a119,c120⟩⟩:=g
 obtain ⟨hh,zf117,zf121⟩:=hg
 try dsimp only at zf117 zf121 ⊢
 dsimp only [Ei_]at hh
 have zf117b:=zf117.len
 have zf121b:=zf121.len
 refine TC.know (isSl_nest (q:=2) z zf117) (fun ⟨_,hb152⟩=> ?_)
 refine TC.know (isSl_nest (q:=3) z zf121) (fun ⟨_,hb153⟩=> ?_)
 refine TC.seq (TC.a (TL.w z (fieldLoc z fo25_3 z) (TL.w z (loadLoc z ag23 z (i:=0) z z) (TL.w z (lenC z underlying23 z) (TL.i z z (TL.en (TC.block (TC.loopG (α:=((List (List Int))×Nat)×((List (NP Int)))) (rgs [(4,2),(20,24)]) (fun g=>[(20,.int .i64 ((g.1.2:Nat):Int))]) (fun g=>[Res.cells b110 #[.int .i64 x0.states,.slice a0_0 x0.starts.length c0_0,.slice a0_1 x0.ends.length c0_1,.slice a0_2 x0.arcs.length c0_2] 25,Res.cells b113 #[.int .i64 x0.states,.slice a0_0 x0.starts.length c0_0,.slice a0_1 x0.ends.length c0_1,.slice a0_2 x0.arcs.length c0_2,.slice a115 ((List.replicate x0.states.toNat ([]:List Int)).length) c116,.slice a119 ((List.replicate x0.states.toNat ([]:List (List UInt8))).length) c120,.slice none 0 0,.slice none 0 0,.slice none 0 0,.string (bs ([]:List UInt8)),.bool false] 165,Res.nest 86 3 1 eI_ (.slice a115 (List.replicate x0.states.toNat ([]:List Int)).length c116) g.2,Res.nest 30 9 1 eS_ (.slice a119 (List.replicate x0.states.toNat ([]:List (List UInt8))).length c120) (List.replicate x0.states.toNat (nilN:NP (List UInt8)))]) (fun g=>σ) (fun g=>iter (fun q:(List (List Int))×Nat=>B0_ x0 q.1 q.2) g.1=some r∧g.1.1.length=(List.replicate x0.states.toNat ([]:List Int)).length∧Zn g.2 g.1.1∧Zn (List.replicate x0.states.toNat (nilN:NP (List UInt8))) (List.replicate x0.states.toNat ([]:List (List UInt8)))) (fun g=>rounds (fun q:(List (List Int))×Nat=>B0_ x0 q.1 q.2) g.1) (((List.replicate x0.states.toNat ([]:List Int)),0),(List.replicate x0.states.toNat (nilN:NP Int))) (Sub.f [3,3,3,3] 4) z (by repeat (first|exact trivial|refine ⟨z,?_⟩)) ⟨hh,z,zf117,zf121⟩ (fun g1 j1 hg1=> ?_)))))))))
 obtain ⟨⟨l168,k173⟩,z170⟩:=g1
 obtain ⟨hh,hn169,zf171,zf172⟩:=hg1
 try dsimp only at hn169 zf171 zf172 ⊢
 obtain ⟨z1,hh,hR1⟩:=iter_e hh
 dsimp only [B0_]at hh
 have hn169b:=hn169
 have zf171b:=zf171.len
 have zf172b:=zf172.len
 refine TC.know (isSl_nest (q:=2) z zf171) (fun ⟨_,hb174⟩=> ?_)
 refine TC.know (isSl_nest (q:=3) z zf172) (fun ⟨_,hb175⟩=> ?_)
 refine TC.a (TL.w z (OpVal.lss z z z) (TL.en (TC.seq (TC.cD z hh (fun h176 hh=> ?_) (fun h176 hh=> ?_)))))
 ·refine TC.skip (S.n (TC.cutG (α:=(Unit)×((List (NP Int)))) (rgs [(4,2),(22,21)]) (fun g=>[]) (fun g=>[Res.cells b110 #[.int .i64 x0.states,.slice a0_0 x0.starts.length c0_0,.slice a0_1 x0.ends.length c0_1,.slice a0_2 x0.arcs.length c0_2] 25,Res.cells b113 #[.int .i64 x0.states,.slice a0_0 x0.starts.length c0_0,.slice a0_1 x0.ends.length c0_1,.slice a0_2 x0.arcs.length c0_2,.slice a115 ((List.replicate x0.states.toNat ([]:List Int)).length) c116,.slice a119 ((List.replicate x0.states.toNat ([]:List (List UInt8))).length) c120,.slice none 0 0,.slice none 0 0,.slice none 0 0,.string (bs ([]:List UInt8)),.bool false] 165,Res.nest 86 3 1 eI_ (.slice a115 (List.replicate x0.states.toNat ([]:List Int)).length c116) g.2,Res.nest 30 9 1 eS_ (.slice a119 (List.replicate x0.states.toNat ([]:List (List UInt8))).length c120) (List.replicate x0.states.toNat (nilN:NP (List UInt8)))]) (fun g=>σ) (fun g=>Ef_ l168 x0 k173=some z1∧(l168.set (((nth x0.arcs k173 Arc.zero).frm).toNat) ((nth l168 (((nth x0.arcs k173 Arc.zero).frm).toNat) ([]:List Int))++[((k173:Nat):Int)])).length=(List.replicate x0.states.toNat ([]:List Int)).length∧Zn g.2 (l168.set (((nth x0.arcs k173 Arc.zero).frm).toNat) ((nth l168 (((nth x0.arcs k173 Arc.zero).frm).toNat) ([]:List Int))++[((k173:Nat):Int)]))∧Zn (List.replicate x0.states.toNat (nilN:NP (List UInt8))) (List.replicate x0.states.toNat ([]:List (List UInt8)))) ?_ (fun g j hg=> ?_)))
  ·skip
   refine TC.block (TC.a (TL.i z z (TL.w z (indexN z underlying23 sz66 z z f0_2.rv.sl (by omega)) (TL.w z (loadSA Arc.zero z ag66 sz66 z f0_2 (by omega) (by omega)) (TL.op z (OpOk.alloc z ze66 z z (fun b181=> ?_)))))))
   refine TL.i z z (TL.op z (storeAll z sz66 z z z z z z ?_))
   refine TL.en ?_
   have u36:=grd_c hh
   replace hh:=grd_t hh
   have u40:=grd_c hh
   replace hh:=grd_t hh
   have u41:=grd_c hh
   replace hh:=grd_t hh
   refine TC.drawR (Hr:=[Res.cells b181 #[.int .i64 ((nth x0.arcs k173 Arc.zero).frm),.int .i64 ((nth x0.arcs k173 Arc.zero).to),.int .u64 ((((nth x0.arcs k173 Arc.zero).set).a:Nat):Int),.int .u64 ((((nth x0.arcs k173 Arc.zero).set).b:Nat):Int),.int .u64 ((((nth x0.arcs k173 Arc.zero).set).c:Nat):Int),.int .u64 ((((nth x0.arcs k173 Arc.zero).set).d:Nat):Int),.string (bs ((nth x0.arcs k173 Arc.zero).out)),.bool ((nth x0.arcs k173 Arc.zero).copy)] 66,Res.cells b110 #[.int .i64 x0.states,.slice a0_0 x0.starts.length c0_0,.slice a0_1 x0.ends.length c0_1,.slice a0_2 x0.arcs.length c0_2] 25,Res.cells b113 #[.int .i64 x0.states,.slice a0_0 x0.starts.length c0_0,.slice a0_1 x0.ends.length c0_1,.slice a0_2 x0.arcs.length c0_2,.slice a115 ((List.replicate x0.states.toNat ([]:List Int)).length) c116,.slice a119 ((List.replicate x0.states.toNat ([]:List (List UInt8))).length) c120,.slice none 0 0,.slice none 0 0,.slice none 0 0,.string (bs ([]:List UInt8)),.bool false] 165,Res.nest 30 9 1 eS_ (.slice a119 (List.replicate x0.states.toNat ([]:List (List UInt8))).length c120) (List.replicate x0.states.toNat (nilN:NP (List UInt8)))]) (fun r hr=>mem_pick [0,1,2,4] z hr) [] (by kernel_rfl) (TA.a 0 z (moveLoc (.inl z) z) z (TA.a 1 z (nilCheckLoc z z) z (TA.a 2 z (fieldLoc z fo165_1 z) z (TA.b 3 z (loadLoc z ag27 z (i:=2) z z) z (TA.a 4 z (fieldLoc z fo66_0 z) z (TA.b 5 z (loadLoc z ag3 z (i:=0) z z) z (TA.a 6 z (moveLoc (.inl z) z) z (TA.a 7 z (nilCheckLoc z z) z (TA.a 8 z (fieldLoc z fo165_1 z) z (TA.b 9 z (loadLoc z ag27 z (i:=2) z z) z (TA.a 10 z (fieldLoc z fo66_0 z) z (TA.b 11 z (loadLoc z ag3 z (i:=0) z z) z (TA.know (isSl_nest (q:=3) z zf171) (fun ⟨hs194,hs194b⟩=> ?_))))))))))))))
   refine TA.b 12 z (OpVal.index z underlying27 sz86 z z hs194 u36.1 u36.2) z (TA.a 14 z (moveI (.inl z) z) z ?_)
   obtain ⟨p195,hz195,hm195⟩:=Zn.at zf171 (i:=((nth x0.arcs k173 Arc.zero).frm).toNat) (by omega)
   refine TA.actN [13,15] (by kernel_rfl) (an z z (OpVal.ok (loadN z ag86 z (q:=3) z hz195 hm195) z z ⟨(fun w h=>sees_of (Store.le.refl _) (fun r hr=>mem_pick [0,1,2,4] z hr) w h),?_⟩) (an z z (OpOk.lit (enc:=eI_) [((k173:Nat):Int)] z underlying86 sz3 ze3 z z z eIl_ (by decide) (by decide) (0:Int) z (by decide) z (by decide) eIo_ (fun a196 c197=>⟨(fun w h=>sees_of (Store.le.refl _) (fun r hr=>mem_pick [1,2,3,5] z hr) w h),?_⟩)) (True.intro)))
   ·skip
    refine TA.ac 15 z (OpOk.lit (enc:=eI_) [((k173:Nat):Int)] z underlying86 sz3 ze3 z z z eIl_ (by decide) (by decide) (0:Int) z (by decide) z (by decide) eIo_ (fun a199 c200=>⟨(fun w h=>sees_of (Store.le.refl _) (fun r hr=>mem_pick [1,2,3,5] z hr) w h),?_⟩))
    refine TA.front 4 z z (TA.by (fun w h=>Reach.takeN hz195 hm195 h) (TA.ac 16 z (appendS z z underlying86 sz3 by3 ze3 z z (by decide) z z z (.inr ⟨_,1,z⟩) (by simpa using u40) (by decide) (fun a203 c204=>(k3 ?_)))))
    refine TA.know (isSl_nestX (q:=1) z zf171) (fun ⟨hs205,hs205b⟩=> ?_)
    refine TA.b 17 z (OpVal.index z underlying27 sz86 z z hs205 u41.1 u41.2) z (TA.front 1 z z (TA.front 1 z z ?_))
    have hn207:(l168.set (((nth x0.arcs k173 Arc.zero).frm).toNat) ((nth l168 (((nth x0.arcs k173 Arc.zero).frm).toNat) ([]:List Int))++[((k173:Nat):Int)])).length=(List.replicate x0.states.toNat ([]:List Int)).length:=(List.length_set ..).trans hn169
    refine TA.ac 18 rfl (storeX (l':=((nth l168 (((nth x0.arcs k173 Arc.zero).frm).toNat) ([]:List Int))++[((k173:Nat):Int)])) rfl sz86 rfl rfl rfl rfl rfl (by rw [zf171.len];omega) zf171 (fun zf206=>(k2 ?_)))
    exact TA.dn (B.n (S.n (cf ((),(z170.set (((nth x0.arcs k173 Arc.zero).frm).toNat) (((nth l168 (((nth x0.arcs k173 Arc.zero).frm).toNat) ([]:List Int))++[((k173:Nat):Int)]),(a203,c204)))) ⟨hh,hn207,zf206,zf172⟩ (Sub.f [5,1,5,5] 4))))
   skip
   obtain ⟨p208,hz208,hm208⟩:=Zn.at zf171 (i:=((nth x0.arcs k173 Arc.zero).frm).toNat) (by omega)
   refine TA.ac 13 z (OpVal.ok (loadN z ag86 z (q:=4) z hz208 hm208) z z ⟨(fun w h=>sees_of (Store.le.refl _) (fun r hr=>mem_pick [1,2,3,5] z hr) w h),?_⟩)
   refine TA.front 4 z z (TA.by (fun w h=>Reach.takeN hz208 hm208 h) (TA.ac 16 z (appendS z z underlying86 sz3 by3 ze3 z z (by decide) z z z (.inr ⟨_,1,z⟩) (by simpa using u40) (by decide) (fun a210 c211=>(k3 ?_)))))
   refine TA.know (isSl_nestX (q:=1) z zf171) (fun ⟨hs212,hs212b⟩=> ?_)
   refine TA.b 17 z (OpVal.index z underlying27 sz86 z z hs212 u41.1 u41.2) z (TA.front 1 z z (TA.front 1 z z ?_))
   have hn214:(l168.set (((nth x0.arcs k173 Arc.zero).frm).toNat) ((nth l168 (((nth x0.arcs k173 Arc.zero).frm).toNat) ([]:List Int))++[((k173:Nat):Int)])).length=(List.replicate x0.states.toNat ([]:List Int)).length:=(List.length_set ..).trans hn169
   refine TA.ac 18 rfl (storeX (l':=((nth l168 (((nth x0.arcs k173 Arc.zero).frm).toNat) ([]:List Int))++[((k173:Nat):Int)])) rfl sz86 rfl rfl rfl rfl rfl (by rw [zf171.len];omega) zf171 (fun zf213=>(k2 ?_)))
   exact TA.dn (B.n (S.n (cf ((),(z170.set (((nth x0.arcs k173 Arc.zero).frm).toNat) (((nth l168 (((nth x0.arcs k173 Arc.zero).frm).toNat) ([]:List Int))++[((k173:Nat):Int)]),(a210,c211)))) ⟨hh,hn214,zf213,zf172⟩ (Sub.f [5,1,5,5] 4))))
  skip
  obtain ⟨_,z178⟩:=g
  obtain ⟨hh,hn177,zf179,zf180⟩:=hg
  try dsimp only at hn177 zf179 zf180 ⊢
  dsimp only [Ef_]at hh
  have hn177b:=hn177
  have zf179b:=zf179.len
  have zf180b:=zf180.len
  refine TC.know (isSl_nest (q:=2) z zf179) (fun ⟨_,hb215⟩=> ?_)
  refine TC.know (isSl_nest (q:=3) z zf180) (fun ⟨_,hb216⟩=> ?_)
  refine TC.region (TL.w z (OpVal.succ z z z (by omega)) (TL.i z z (TL.en ?_)))
  obtain ⟨hh,hlt217⟩:=nxt_x hR1 hh
  exact lf (((l168.set (((nth x0.arcs k173 Arc.zero).frm).toNat) ((nth l168 (((nth x0.arcs k173 Arc.zero).frm).toNat) ([]:List Int))++[((k173:Nat):Int)])),(k173+1)),z178) hlt217 ⟨hh,hn177,zf179,zf180⟩ (Sub.f [3,3,3,3] 4)
 refine TC.exit (S.x (S.x ?_))
 replace hh:=fin_x hR1 hh
 refine TC.exitHere (S.n (TC.seq (TC.a (TL.w z (fieldLoc z fo25_2 z) (TL.w z (loadLoc z ag22 z (i:=0) z z) (TL.w z (lenC z underlying22 z) (TL.i z z (TL.en (TC.block (TC.loopG (α:=((List (List (List UInt8)))×Nat)×((List (NP (List UInt8))))) (rgs [(7,1),(47,24)]) (fun g=>[(47,.int .i64 ((g.1.2:Nat):Int))]) (fun g=>[Res.cells b110 #[.int .i64 x0.states,.slice a0_0 x0.starts.length c0_0,.slice a0_1 x0.ends.length c0_1,.slice a0_2 x0.arcs.length c0_2] 25,Res.cells b113 #[.int .i64 x0.states,.slice a0_0 x0.starts.length c0_0,.slice a0_1 x0.ends.length c0_1,.slice a0_2 x0.arcs.length c0_2,.slice a115 ((List.replicate x0.states.toNat ([]:List Int)).length) c116,.slice a119 ((List.replicate x0.states.toNat ([]:List (List UInt8))).length) c120,.slice none 0 0,.slice none 0 0,.slice none 0 0,.string (bs ([]:List UInt8)),.bool false] 165,Res.nest 86 3 1 eI_ (.slice a115 (List.replicate x0.states.toNat ([]:List Int)).length c116) z170,Res.nest 30 9 1 eS_ (.slice a119 (List.replicate x0.states.toNat ([]:List (List UInt8))).length c120) g.2]) (fun g=>σ) (fun g=>iter (fun q:(List (List (List UInt8)))×Nat=>B1_ x0 l168 q.1 q.2) g.1=some r∧l168.length=(List.replicate x0.states.toNat ([]:List Int)).length∧Zn z170 l168∧g.1.1.length=(List.replicate x0.states.toNat ([]:List (List UInt8))).length∧Zn g.2 g.1.1) (fun g=>rounds (fun q:(List (List (List UInt8)))×Nat=>B1_ x0 l168 q.1 q.2) g.1) (((List.replicate x0.states.toNat ([]:List (List UInt8))),0),(List.replicate x0.states.toNat (nilN:NP (List UInt8)))) (Sub.f [3,3,3,3] 4) z (by repeat (first|exact trivial|refine ⟨z,?_⟩)) ⟨hh,hn169,zf171,z,zf172⟩ (fun g2 j2 hg2=> ?_)))))))))))
 obtain ⟨⟨l237,k241⟩,z239⟩:=g2
 obtain ⟨hh,hn235,zf236,hn238,zf240⟩:=hg2
 try dsimp only at hn235 zf236 hn238 zf240 ⊢
 obtain ⟨z1,hh,hR1⟩:=iter_e hh
 dsimp only [B1_]at hh
 have hn235b:=hn235
 have zf236b:=zf236.len
 have hn238b:=hn238
 have zf240b:=zf240.len
 refine TC.know (isSl_nest (q:=2) z zf236) (fun ⟨_,hb242⟩=> ?_)
 refine TC.know (isSl_nest (q:=3) z zf240) (fun ⟨_,hb243⟩=> ?_)
 refine TC.a (TL.w z (OpVal.lss z z z) (TL.en (TC.seq (TC.cD z hh (fun h244 hh=> ?_) (fun h244 hh=> ?_)))))
 ·refine TC.skip (S.n (TC.cutG (α:=(Unit)×((List (NP (List UInt8))))) (rgs [(7,1),(49,21)]) (fun g=>[]) (fun g=>[Res.cells b110 #[.int .i64 x0.states,.slice a0_0 x0.starts.length c0_0,.slice a0_1 x0.ends.length c0_1,.slice a0_2 x0.arcs.length c0_2] 25,Res.cells b113 #[.int .i64 x0.states,.slice a0_0 x0.starts.length c0_0,.slice a0_1 x0.ends.length c0_1,.slice a0_2 x0.arcs.length c0_2,.slice a115 ((List.replicate x0.states.toNat ([]:List Int)).length) c116,.slice a119 ((List.replicate x0.states.toNat ([]:List (List UInt8))).length) c120,.slice none 0 0,.slice none 0 0,.slice none 0 0,.string (bs ([]:List UInt8)),.bool false] 165,Res.nest 86 3 1 eI_ (.slice a115 (List.replicate x0.states.toNat ([]:List Int)).length c116) z170,Res.nest 30 9 1 eS_ (.slice a119 (List.replicate x0.states.toNat ([]:List (List UInt8))).length c120) g.2]) (fun g=>σ) (fun g=>Eh_ l237 x0 k241=some z1∧l168.length=(List.replicate x0.states.toNat ([]:List Int)).length∧Zn z170 l168∧(l237.set (((nth x0.ends k241 Tip.zero).state).toNat) ((nth l237 (((nth x0.ends k241 Tip.zero).state).toNat) ([]:List (List UInt8)))++[(nth x0.ends k241 Tip.zero).out])).length=(List.replicate x0.states.toNat ([]:List (List UInt8))).length∧Zn g.2 (l237.set (((nth x0.ends k241 Tip.zero).state).toNat) ((nth l237 (((nth x0.ends k241 Tip.zero).state).toNat) ([]:List (List UInt8)))++[(nth x0.ends k241 Tip.zero).out]))) ?_ (fun g j hg=> ?_)))
  ·skip
   refine TC.block (TC.a (TL.w z (indexN z underlying22 sz76 z z f0_1.rv.sl (by omega)) (TL.w z (loadSA Tip.zero z ag76 sz76 z f0_1 (by omega) (by omega)) (TL.op z (OpOk.alloc z ze76 z z (fun b250=> ?_))))))
   refine TL.op z (storeAll z sz76 z z z z z z ?_)
   refine TL.en ?_
   have u66:=grd_c hh
   replace hh:=grd_t hh
   have u71:=grd_c hh
   replace hh:=grd_t hh
   have u72:=grd_c hh
   replace hh:=grd_t hh
   refine TC.drawR (Hr:=[Res.cells b250 #[.int .i64 ((nth x0.ends k241 Tip.zero).state),.string (bs ((nth x0.ends k241 Tip.zero).out))] 76,Res.cells b110 #[.int .i64 x0.states,.slice a0_0 x0.starts.length c0_0,.slice a0_1 x0.ends.length c0_1,.slice a0_2 x0.arcs.length c0_2] 25,Res.cells b113 #[.int .i64 x0.states,.slice a0_0 x0.starts.length c0_0,.slice a0_1 x0.ends.length c0_1,.slice a0_2 x0.arcs.length c0_2,.slice a115 ((List.replicate x0.states.toNat ([]:List Int)).length) c116,.slice a119 ((List.replicate x0.states.toNat ([]:List (List UInt8))).length) c120,.slice none 0 0,.slice none 0 0,.slice none 0 0,.string (bs ([]:List UInt8)),.bool false] 165,Res.nest 86 3 1 eI_ (.slice a115 (List.replicate x0.states.toNat ([]:List Int)).length c116) z170]) (fun r hr=>mem_pick [0,1,2,3] z hr) [] (by kernel_rfl) (TA.a 0 z (moveLoc (.inl z) z) z (TA.a 1 z (nilCheckLoc z z) z (TA.a 2 z (fieldLoc z fo165_2 z) z (TA.b 3 z (loadLoc z ag28 z (i:=2) z z) z (TA.a 4 z (fieldLoc z fo76_0 z) z (TA.b 5 z (loadLoc z ag3 z (i:=0) z z) z (TA.a 6 z (moveLoc (.inl z) z) z (TA.a 7 z (nilCheckLoc z z) z (TA.a 8 z (fieldLoc z fo165_2 z) z (TA.b 9 z (loadLoc z ag28 z (i:=2) z z) z (TA.a 10 z (fieldLoc z fo76_0 z) z (TA.b 11 z (loadLoc z ag3 z (i:=0) z z) z (TA.know (isSl_nest (q:=4) z zf240) (fun ⟨hs263,hs263b⟩=> ?_))))))))))))))
   refine TA.b 12 z (OpVal.index z underlying28 sz30 z z hs263 u66.1 u66.2) z (TA.a 14 z (fieldLoc z fo76_1 z) z (TA.b 15 z (loadLoc z ag9 z (i:=0) z z) z ?_))
   obtain ⟨p264,hz264,hm264⟩:=Zn.at zf240 (i:=((nth x0.ends k241 Tip.zero).state).toNat) (by omega)
   refine TA.actN [13,16] (by kernel_rfl) (an z z (OpVal.ok (loadN z ag30 z (q:=4) z hz264 hm264) z z ⟨(fun w h=>sees_of (Store.le.refl _) (fun r hr=>mem_pick [0,1,2,3] z hr) w h),?_⟩) (an z z (OpOk.lit (enc:=eS_) [(nth x0.ends k241 Tip.zero).out] z underlying30 sz9 ze9 z z z eSl_ (by decide) (by decide) ([]:List UInt8) z (by decide) z (by decide) eSo_ (fun a265 c266=>⟨(fun w h=>sees_of (Store.le.refl _) (fun r hr=>mem_pick [1,2,3,4] z hr) w h),?_⟩)) (True.intro)))
   ·skip
    refine TA.ac 16 z (OpOk.lit (enc:=eS_) [(nth x0.ends k241 Tip.zero).out] z underlying30 sz9 ze9 z z z eSl_ (by decide) (by decide) ([]:List UInt8) z (by decide) z (by decide) eSo_ (fun a268 c269=>⟨(fun w h=>sees_of (Store.le.refl _) (fun r hr=>mem_pick [1,2,3,4] z hr) w h),?_⟩))
    refine TA.front 5 z z (TA.by (fun w h=>Reach.takeN hz264 hm264 h) (TA.ac 17 z (appendS z z underlying30 sz9 by9 ze9 z z (by decide) z z z (.inr ⟨_,1,z⟩) (by simpa using u71) (by decide) (fun a272 c273=>(k3 ?_)))))
    refine TA.know (isSl_nestX (q:=1) z zf240) (fun ⟨hs274,hs274b⟩=> ?_)
    refine TA.b 18 z (OpVal.index z underlying28 sz30 z z hs274 u72.1 u72.2) z (TA.front 1 z z (TA.front 1 z z ?_))
    have hn276:(l237.set (((nth x0.ends k241 Tip.zero).state).toNat) ((nth l237 (((nth x0.ends k241 Tip.zero).state).toNat) ([]:List (List UInt8)))++[(nth x0.ends k241 Tip.zero).out])).length=(List.replicate x0.states.toNat ([]:List (List UInt8))).length:=(List.length_set ..).trans hn238
    refine TA.ac 19 rfl (storeX (l':=((nth l237 (((nth x0.ends k241 Tip.zero).state).toNat) ([]:List (List UInt8)))++[(nth x0.ends k241 Tip.zero).out])) rfl sz30 rfl rfl rfl rfl rfl (by rw [zf240.len];omega) zf240 (fun zf275=>(k2 ?_)))
    exact TA.dn (B.n (S.n (cf ((),(z239.set (((nth x0.ends k241 Tip.zero).state).toNat) (((nth l237 (((nth x0.ends k241 Tip.zero).state).toNat) ([]:List (List UInt8)))++[(nth x0.ends k241 Tip.zero).out]),(a272,c273)))) ⟨hh,hn235,zf236,hn276,zf275⟩ (Sub.f [5,5,5] 4))))
   skip
   obtain ⟨p277,hz277,hm277⟩:=Zn.at zf240 (i:=((nth x0.ends k241 Tip.zero).state).toNat) (by omega)
   refine TA.ac 13 z (OpVal.ok (loadN z ag30 z (q:=5) z hz277 hm277) z z ⟨(fun w h=>sees_of (Store.le.refl _) (fun r hr=>mem_pick [1,2,3,4] z hr) w h),?_⟩)
   refine TA.front 5 z z (TA.by (fun w h=>Reach.takeN hz277 hm277 h) (TA.ac 17 z (appendS z z underlying30 sz9 by9 ze9 z z (by decide) z z z (.inr ⟨_,1,z⟩) (by simpa using u71) (by decide) (fun a279 c280=>(k3 ?_)))))
   refine TA.know (isSl_nestX (q:=1) z zf240) (fun ⟨hs281,hs281b⟩=> ?_)
   refine TA.b 18 z (OpVal.index z underlying28 sz30 z z hs281 u72.1 u72.2) z (TA.front 1 z z (TA.front 1 z z ?_))
   have hn283:(l237.set (((nth x0.ends k241 Tip.zero).state).toNat) ((nth l237 (((nth x0.ends k241 Tip.zero).state).toNat) ([]:List (List UInt8)))++[(nth x0.ends k241 Tip.zero).out])).length=(List.replicate x0.states.toNat ([]:List (List UInt8))).length:=(List.length_set ..).trans hn238
   refine TA.ac 19 rfl (storeX (l':=((nth l237 (((nth x0.ends k241 Tip.zero).state).toNat) ([]:List (List UInt8)))++[(nth x0.ends k241 Tip.zero).out])) rfl sz30 rfl rfl rfl rfl rfl (by rw [zf240.len];omega) zf240 (fun zf282=>(k2 ?_)))
   exact TA.dn (B.n (S.n (cf ((),(z239.set (((nth x0.ends k241 Tip.zero).state).toNat) (((nth l237 (((nth x0.ends k241 Tip.zero).state).toNat) ([]:List (List UInt8)))++[(nth x0.ends k241 Tip.zero).out]),(a279,c280)))) ⟨hh,hn235,zf236,hn283,zf282⟩ (Sub.f [5,5,5] 4))))
  skip
  obtain ⟨_,z248⟩:=g
  obtain ⟨hh,hn245,zf246,hn247,zf249⟩:=hg
  try dsimp only at hn245 zf246 hn247 zf249 ⊢
  dsimp only [Eh_]at hh
  have hn245b:=hn245
  have zf246b:=zf246.len
  have hn247b:=hn247
  have zf249b:=zf249.len
  refine TC.know (isSl_nest (q:=2) z zf246) (fun ⟨_,hb284⟩=> ?_)
  refine TC.know (isSl_nest (q:=3) z zf249) (fun ⟨_,hb285⟩=> ?_)
  refine TC.region (TL.w z (OpVal.succ z z z (by omega)) (TL.i z z (TL.en ?_)))
  obtain ⟨hh,hlt286⟩:=nxt_x hR1 hh
  exact lf (((l237.set (((nth x0.ends k241 Tip.zero).state).toNat) ((nth l237 (((nth x0.ends k241 Tip.zero).state).toNat) ([]:List (List UInt8)))++[(nth x0.ends k241 Tip.zero).out])),(k241+1)),z248) hlt286 ⟨hh,hn245,zf246,hn247,zf249⟩ (Sub.f [3,3,3,3] 4)
 refine TC.exit (S.x (S.x ?_))
 replace hh:=fin_x hR1 hh
 refine TC.exitHere (S.n (TC.a (TL.l z z (TL.w z (fieldLoc z fo25_0 z) (TL.w z (loadLoc z ag3 z (i:=0) z z) (TL.w z (fieldLoc z fo25_0 z) (TL.w z (loadLoc z ag3 z (i:=0) z z) (TL.w z (mulW z z z) ?_))))))))
 have u82:=grd_c hh
 replace hh:=grd_t hh
 refine TL.op rfl (makeS2 (m:=(IntKind.i64.wrap (x0.states * x0.states)).toNat) (enc:=encHop) Hop.zero rfl underlying162 sz227 by227 ze227 rfl rfl (vN u82.1) (vN u82.1) (by omega) (by decide) encHop_len (by decide) rfl encHop_one (fun a287 c288=> ?_))
 refine TL.w z (nilCheckLoc z z) (TL.w z (fieldLoc z fo165_3 z) (TL.front 2 z z (TL.op z (storeSl z sz162 z z z z z ?_))))
 refine TL.en (TC.a (TL.l z z (TL.w z (fieldLoc z fo25_0 z) (TL.w z (loadLoc z ag3 z (i:=2) z z) (TL.w z (fieldLoc z fo25_0 z) (TL.w z (loadLoc z ag3 z (i:=2) z z) (TL.w z (mulW z z z) ?_)))))))
 have u92:=grd_c hh
 replace hh:=grd_t hh
 refine TL.op rfl (makeS2 (m:=(IntKind.i64.wrap (x0.states * x0.states)).toNat) (enc:=eI_) (0:Int) rfl underlying86 sz3 by3 ze3 rfl rfl (vN u92.1) (vN u92.1) (by omega) (by decide) eIl_ (by decide) rfl eIo_ (fun a290 c291=> ?_))
 refine TL.w z (nilCheckLoc z z) (TL.w z (fieldLoc z fo165_5 z) (TL.front 1 z z (TL.op z (storeSl z sz86 z z z z z ?_))))
 refine TL.en (TC.a (TL.l z z (TL.l z z (TL.en ?_))))
 rw [←hn235]
 refine TC.front 4 z z (TC.seals (fun w h=>Reach.sealNest eIl_ zf236 h) (fun τ295 hle294 hr293=> ?_))
 replace f0_0:=f0_0.mono hle294
 replace f0_1:=f0_1.mono hle294
 replace f0_2:=f0_2.mono hle294
 have hr293b:=hr293.big
 rw [←hn238]
 refine TC.front 4 z z (TC.seals (fun w h=>Reach.sealNest eSl_ zf240 h) (fun τ298 hle297 hr296=> ?_))
 replace f0_0:=f0_0.mono hle297
 replace f0_1:=f0_1.mono hle297
 replace f0_2:=f0_2.mono hle297
 replace hr293:=hr293.mono hle297
 have hr296b:=hr296.big
 refine TC.nilS 207 6 encFBox (TC.ofSub (Sub.f [2,1,3,3] 4) (TC.ret ?_))
 obtain rfl:=so hh
 exact ro [Res.cells b113 #[.int .i64 x0.states,.slice a0_0 x0.starts.length c0_0,.slice a0_1 x0.ends.length c0_1,.slice a0_2 x0.arcs.length c0_2,.slice a115 l168.length c116,.slice a119 l237.length c120,.slice a287 ((List.replicate ((IntKind.i64.wrap (x0.states * x0.states)).toNat) Hop.zero).length) c288,.slice none (([]:List FBox).length) 0,.slice a290 ((List.replicate ((IntKind.i64.wrap (x0.states * x0.states)).toNat) (0:Int)).length) c291,.string (bs ([]:List UInt8)),.bool false] 165,Res.rowS 227 5 encHop (.slice a287 (List.replicate ((IntKind.i64.wrap (x0.states * x0.states)).toNat) Hop.zero).length c288) (List.replicate ((IntKind.i64.wrap (x0.states * x0.states)).toNat) Hop.zero),Res.rowS 207 6 encFBox (.slice none ([]:List FBox).length 0) ([]:List FBox),Res.rowS 3 1 eI_ (.slice a290 (List.replicate ((IntKind.i64.wrap (x0.states * x0.states)).toNat) (0:Int)).length c291) (List.replicate ((IntKind.i64.wrap (x0.states * x0.states)).toNat) (0:Int))] z (RVs.tmp z RVs.nil) ⟨b113,a0_0,c0_0,a0_1,c0_1,a0_2,c0_2,a115,c116,a119,c120,a287,c288,none,0,a290,c291,z,f0_0,f0_1,f0_2,hr293,hr296,z⟩
def Bd_(x0:Search)(x1:FPr):Option (Int):=
 some (IntKind.i64.wrap ((IntKind.i64.wrap (x1.p * x0.t.states))+x1.q))
theorem Bx_{x0:Search}{x1:FPr}(f0_3:RS σ 2 encTip (.slice a0_1 x0.t.starts.length c0_2) x0.t.starts)(f0_6:RS σ 2 encTip (.slice a0_4 x0.t.ends.length c0_5) x0.t.ends)(f0_9:RS σ 8 encArc (.slice a0_7 x0.t.arcs.length c0_8) x0.t.arcs)(f0_12:RZ σ (pkSl 1 eI_ eIl_) (.slice a0_10 x0.arcs.length c0_11) x0.arcs)(f0_15:RZ σ (pkSl 1 eS_ eSl_) (.slice a0_13 x0.ends.length c0_14) x0.ends){r:Int}(hh:Bd_ x0 x1=some r):
  Con Tryz.prog 172 #[loc b0_0 0,.agg #[.int .i64 x1.p,.int .i64 x1.q]] σ [Res.cells b0_0 #[.int .i64 x0.t.states,.slice a0_1 x0.t.starts.length c0_2,.slice a0_4 x0.t.ends.length c0_5,.slice a0_7 x0.t.arcs.length c0_8,.slice a0_10 x0.arcs.length c0_11,.slice a0_13 x0.ends.length c0_14,.slice a0_16 x0.hops.length c0_17,.slice a0_18 x0.row.length c0_19,.slice a0_20 x0.place.length c0_21,.string (bs x0.text),.bool x0.found] Eb0,Res.rowS 227 5 encHop (.slice a0_16 x0.hops.length c0_17) x0.hops,Res.rowS 207 6 encFBox (.slice a0_18 x0.row.length c0_19) x0.row,Res.rowS 3 1 eI_ (.slice a0_20 x0.place.length c0_21) x0.place] (fun v σ' H'=>v= .int .i64 r∧σ=σ'∧H'=[Res.cells b0_0 #[.int .i64 x0.t.states,.slice a0_1 x0.t.starts.length c0_2,.slice a0_4 x0.t.ends.length c0_5,.slice a0_7 x0.t.arcs.length c0_8,.slice a0_10 x0.arcs.length c0_11,.slice a0_13 x0.ends.length c0_14,.slice a0_16 x0.hops.length c0_17,.slice a0_18 x0.row.length c0_19,.slice a0_20 x0.place.length c0_21,.string (bs x0.text),.bool x0.found] Eb0,Res.rowS 227 5 encHop (.slice a0_16 x0.hops.length c0_17) x0.hops,Res.rowS 207 6 encFBox (.slice a0_18 x0.row.length c0_19) x0.row,Res.rowS 3 1 eI_ (.slice a0_20 x0.place.length c0_21) x0.place]):=by
 dsimp only [Bd_]at hh
 have f0_3b:=f0_3.rv.big
 have f0_6b:=f0_6.rv.big
 have f0_9b:=f0_9.rv.big
 have f0_12b:=f0_12.big
 have f0_15b:=f0_15.big
 refine Con.mk (n:=16) Tryz.func172 z z z (fun w0=> ?_)
 refine TC.a (TL.op z (boxA z z z z (fun b110=> ?_)))
 refine TL.i z z (TL.en (TC.seq (TC.draw [] (by kernel_rfl) (TA.b 0 z (OpVal.of (indexArrN (i:=0) z underlying202 sz3 z z (by decide)) (v':=loc b110 0) z) z (TA.b 1 z (loadLoc z ag3 z (i:=0) z z) z (TA.a 2 z (moveLoc (.inl z) z) z (TA.a 3 z (nilCheckLoc z z) z (TA.a 4 z (fieldLoc z fo165_0 z) z (TA.a 5 z (fieldLoc z fo25_0 z) z (TA.b 6 z (loadLoc z ag3 z (i:=1) z z) z (TA.a 7 z (mulW z z z) z (TA.b 8 z (OpVal.of (indexArrN (i:=1) z underlying202 sz3 z z (by decide)) (v':=loc b110 1) z) z (TA.b 9 z (loadLoc z ag3 z (i:=0) z z) z (TA.a 10 z (addW z z z) z (TA.a 11 z (moveI (.inr z) z) z ?_)))))))))))))))
 refine TA.dn (S.n (TC.ofSub (Sub.f [4,4,4,4] 4) (TC.ret ?_)))
 obtain rfl:=so hh
 exact ro [Res.cells b0_0 #[.int .i64 x0.t.states,.slice a0_1 x0.t.starts.length c0_2,.slice a0_4 x0.t.ends.length c0_5,.slice a0_7 x0.t.arcs.length c0_8,.slice a0_10 x0.arcs.length c0_11,.slice a0_13 x0.ends.length c0_14,.slice a0_16 x0.hops.length c0_17,.slice a0_18 x0.row.length c0_19,.slice a0_20 x0.place.length c0_21,.string (bs x0.text),.bool x0.found] Eb0,Res.rowS 227 5 encHop (.slice a0_16 x0.hops.length c0_17) x0.hops,Res.rowS 207 6 encFBox (.slice a0_18 x0.row.length c0_19) x0.row,Res.rowS 3 1 eI_ (.slice a0_20 x0.place.length c0_21) x0.place] z (RVs.tmp z RVs.nil) ⟨z,z,z⟩
def Bh_(k204:Nat)(l211:List (List FBack))(l215:List Bool):Option (((List (List FBack))×(List Bool)×Nat)⊕(((List (List FBack))×(List Bool)×Nat)⊕(((List (List FBack))×(List Bool)×Nat)⊕((List (List FBack)))))):=
 nxt (l211,l215,(k204+1))
def Cu_(x0:Search)(k138:Nat)(k172:Nat)(k204:Nat)(l202:List Bool)(l198:List (List FBack)):Option (((List (List FBack))×(List Bool)×Nat)⊕(((List (List FBack))×(List Bool)×Nat)⊕(((List (List FBack))×(List Bool)×Nat)⊕((List (List FBack)))))):=
 bnd (Bd_ x0 (⟨(nth x0.t.arcs ((nth (nth x0.arcs ((IntKind.i64.wrap (Int.tdiv ((k138:Nat):Int) x0.t.states)).toNat) ([]:List Int)) k172 (0:Int)).toNat) Arc.zero).to,(nth x0.t.arcs ((nth (nth x0.arcs ((Int.tmod ((k138:Nat):Int) x0.t.states).toNat) ([]:List Int)) k204 (0:Int)).toNat) Arc.zero).to⟩:FPr)) (fun v83=>grd (0≤v83∧v83<(l202.length:Int)) (iteO (!(nth l202 v83.toNat false)) (bnd (Cj_ ((nth x0.t.arcs ((nth (nth x0.arcs ((IntKind.i64.wrap (Int.tdiv ((k138:Nat):Int) x0.t.states)).toNat) ([]:List Int)) k172 (0:Int)).toNat) Arc.zero).set) ((nth x0.t.arcs ((nth (nth x0.arcs ((Int.tmod ((k138:Nat):Int) x0.t.states).toNat) ([]:List Int)) k204 (0:Int)).toNat) Arc.zero).set)) (fun v95=>iteO (decide (v95≠BSet.zero)) (grd (0≤v83∧v83<(l202.length:Int)) (grd (0≤v83∧v83<(l198.length:Int)) (grd (((nth l198 v83.toNat ([]:List FBack)).length+[(⟨((k138:Nat):Int),(nth (nth x0.arcs ((IntKind.i64.wrap (Int.tdiv ((k138:Nat):Int) x0.t.states)).toNat) ([]:List Int)) k172 (0:Int)),(nth (nth x0.arcs ((Int.tmod ((k138:Nat):Int) x0.t.states).toNat) ([]:List Int)) k204 (0:Int))⟩:FBack)].length) * 24≤140737488355328) (grd (0≤v83∧v83<(l198.length:Int)) (Bh_ k204 (l198.set v83.toNat ((nth l198 v83.toNat ([]:List FBack))++[(⟨((k138:Nat):Int),(nth (nth x0.arcs ((IntKind.i64.wrap (Int.tdiv ((k138:Nat):Int) x0.t.states)).toNat) ([]:List Int)) k172 (0:Int)),(nth (nth x0.arcs ((Int.tmod ((k138:Nat):Int) x0.t.states).toNat) ([]:List Int)) k204 (0:Int))⟩:FBack)])) (l202.set v83.toNat true)))))) (Bh_ k204 l198 l202))) (Bh_ k204 l198 l202)))
def Aj_(x0:Search)(k138:Nat)(k172:Nat)(l198:List (List FBack))(l202:List Bool)(k204:Nat):Option (((List (List FBack))×(List Bool)×Nat)⊕(((List (List FBack))×(List Bool)×Nat)⊕(((List (List FBack))×(List Bool)×Nat)⊕((List (List FBack)))))):=
 iteO (decide (((k204:Nat):Int)<(((nth x0.arcs ((Int.tmod ((k138:Nat):Int) x0.t.states).toNat) ([]:List Int)).length:Nat):Int))) (grd (0≤(nth (nth x0.arcs ((IntKind.i64.wrap (Int.tdiv ((k138:Nat):Int) x0.t.states)).toNat) ([]:List Int)) k172 (0:Int))∧(nth (nth x0.arcs ((IntKind.i64.wrap (Int.tdiv ((k138:Nat):Int) x0.t.states)).toNat) ([]:List Int)) k172 (0:Int))<(x0.t.arcs.length:Int)) (grd (0≤(nth (nth x0.arcs ((Int.tmod ((k138:Nat):Int) x0.t.states).toNat) ([]:List Int)) k204 (0:Int))∧(nth (nth x0.arcs ((Int.tmod ((k138:Nat):Int) x0.t.states).toNat) ([]:List Int)) k204 (0:Int))<(x0.t.arcs.length:Int)) (Cu_ x0 k138 k172 k204 l202 l198))) (fin (nxt (l198,l202,(k172+1))))
def Ah_(x0:Search)(k138:Nat)(l166:List (List FBack))(l170:List Bool)(k172:Nat):Option (((List (List FBack))×(List Bool)×Nat)⊕(((List (List FBack))×(List Bool)×Nat)⊕((List (List FBack))))):=
 iteO (decide (((k172:Nat):Int)<(((nth x0.arcs ((IntKind.i64.wrap (Int.tdiv ((k138:Nat):Int) x0.t.states)).toNat) ([]:List Int)).length:Nat):Int))) (grd (x0.t.states≠0) (grd (0≤(Int.tmod ((k138:Nat):Int) x0.t.states)∧(Int.tmod ((k138:Nat):Int) x0.t.states)<(x0.arcs.length:Int)) (iter (fun q:(List (List FBack))×(List Bool)×Nat=>Aj_ x0 k138 k172 q.1 q.2.1 q.2.2) (l166,l170,0)))) (fin (grd (k138+1≤9223372036854775807) (nxt (l166,l170,(k138+1)))))
def Au_(x0:Search)(l132:List (List FBack))(l136:List Bool)(k138:Nat):Option (((List (List FBack))×(List Bool)×Nat)⊕((List (List FBack)))):=
 iteO (decide (((k138:Nat):Int)<(IntKind.i64.wrap (x0.t.states * x0.t.states)))) (grd (x0.t.states≠0) (grd (0≤(IntKind.i64.wrap (Int.tdiv ((k138:Nat):Int) x0.t.states))∧(IntKind.i64.wrap (Int.tdiv ((k138:Nat):Int) x0.t.states))<(x0.arcs.length:Int)) (iter (fun q:(List (List FBack))×(List Bool)×Nat=>Ah_ x0 k138 q.1 q.2.1 q.2.2) (l132,(l136.take 0++List.replicate (l136.length - 0) false),0)))) (fin (some l132))
def Ck_(x0:Search):Option ((List (List FBack))):=
 grd (0≤IntKind.i64.wrap (x0.t.states * x0.t.states)∧24 * (IntKind.i64.wrap (x0.t.states * x0.t.states)).toNat≤281474976710656) (grd (0≤IntKind.i64.wrap (x0.t.states * x0.t.states)∧1 * (IntKind.i64.wrap (x0.t.states * x0.t.states)).toNat≤281474976710656) (iter (fun q:(List (List FBack))×(List Bool)×Nat=>Au_ x0 q.1 q.2.1 q.2.2) ((List.replicate ((IntKind.i64.wrap (x0.t.states * x0.t.states)).toNat) ([]:List FBack)),(List.replicate ((IntKind.i64.wrap (x0.t.states * x0.t.states)).toNat) false),0)))
theorem Fo_{x0:Search}(f0_3:RS σ 2 encTip (.slice a0_1 x0.t.starts.length c0_2) x0.t.starts)(f0_6:RS σ 2 encTip (.slice a0_4 x0.t.ends.length c0_5) x0.t.ends)(f0_9:RS σ 8 encArc (.slice a0_7 x0.t.arcs.length c0_8) x0.t.arcs)(f0_12:RZ σ (pkSl 1 eI_ eIl_) (.slice a0_10 x0.arcs.length c0_11) x0.arcs)(f0_15:RZ σ (pkSl 1 eS_ eSl_) (.slice a0_13 x0.ends.length c0_14) x0.ends){r:(List (List FBack))}(hh:Ck_ x0=some r):
  Con Tryz.prog 169 #[loc b0_0 0] σ [Res.cells b0_0 #[.int .i64 x0.t.states,.slice a0_1 x0.t.starts.length c0_2,.slice a0_4 x0.t.ends.length c0_5,.slice a0_7 x0.t.arcs.length c0_8,.slice a0_10 x0.arcs.length c0_11,.slice a0_13 x0.ends.length c0_14,.slice a0_16 x0.hops.length c0_17,.slice a0_18 x0.row.length c0_19,.slice a0_20 x0.place.length c0_21,.string (bs x0.text),.bool x0.found] Eb0,Res.rowS 227 5 encHop (.slice a0_16 x0.hops.length c0_17) x0.hops,Res.rowS 207 6 encFBox (.slice a0_18 x0.row.length c0_19) x0.row,Res.rowS 3 1 eI_ (.slice a0_20 x0.place.length c0_21) x0.place] (fun v σ' H'=> ∃a1 c1,v= .slice a1 r.length c1∧RZ σ' (pkSl 3 encFBack encFBack_len) (.slice a1 r.length c1) r∧H'=[Res.cells b0_0 #[.int .i64 x0.t.states,.slice a0_1 x0.t.starts.length c0_2,.slice a0_4 x0.t.ends.length c0_5,.slice a0_7 x0.t.arcs.length c0_8,.slice a0_10 x0.arcs.length c0_11,.slice a0_13 x0.ends.length c0_14,.slice a0_16 x0.hops.length c0_17,.slice a0_18 x0.row.length c0_19,.slice a0_20 x0.place.length c0_21,.string (bs x0.text),.bool x0.found] Eb0,Res.rowS 227 5 encHop (.slice a0_16 x0.hops.length c0_17) x0.hops,Res.rowS 207 6 encFBox (.slice a0_18 x0.row.length c0_19) x0.row,Res.rowS 3 1 eI_ (.slice a0_20 x0.place.length c0_21) x0.place]):=by
 dsimp only [Ck_]at hh
 have f0_3b:=f0_3.rv.big
 have f0_6b:=f0_6.rv.big
 have f0_9b:=f0_9.rv.big
 have f0_12b:=f0_12.big
 have f0_15b:=f0_15.big
 refine Con.mk (n:=119) Tryz.func169 z z z (fun w0=> ?_)
 refine TC.a (TL.s z z (TL.en (TC.a (TL.l z z (TL.w z (nilCheckLoc z z) (TL.w z (fieldLoc z fo165_0 z) (TL.w z (fieldLoc z fo25_0 z) (TL.w z (loadLoc z ag3 z (i:=0) z z) (TL.i z z (TL.en (TC.a (TL.i z z (TL.i z z (TL.w z (mulW z z z) ?_))))))))))))))
 have u11:=grd_c hh
 replace hh:=grd_t hh
 refine TL.op rfl (makeN (q:=(IntKind.i64.wrap (x0.t.states * x0.t.states)).toNat) (E:=230) (size:=3) (enc:=encFBack) rfl underlying224 sz228 by228 ze228 rfl rfl (vN u11.1) (vN u11.1) (by omega) (by decide) rfl (fun a110 c111 zf112=> ?_))
 refine TL.s z z (TL.en (TC.a (TL.i z z (TL.i z z (TL.w z (mulW z z z) ?_)))))
 have u16:=grd_c hh
 replace hh:=grd_t hh
 refine TL.op rfl (makeS2 (m:=(IntKind.i64.wrap (x0.t.states * x0.t.states)).toNat) (enc:=encB) false rfl underlying29 sz4 by4 ze4 rfl rfl (vN u16.1) (vN u16.1) (by omega) (by decide) encB_len (by decide) rfl encB_one (fun a114 c115=> ?_))
 refine TL.s z z (TL.en (TC.seq (TC.a (TL.i z z (TL.i z z (TL.w z (mulW z z z) (TL.i z z (TL.en (TC.block (TC.loopG (α:=((List (List FBack))×(List Bool)×Nat)×((List (NP FBack)))) (rgs [(6,1),(8,1),(10,4),(30,88)]) (fun g=>[(30,.int .i64 ((g.1.2.2:Nat):Int))]) (fun g=>[Res.cells b0_0 #[.int .i64 x0.t.states,.slice a0_1 x0.t.starts.length c0_2,.slice a0_4 x0.t.ends.length c0_5,.slice a0_7 x0.t.arcs.length c0_8,.slice a0_10 x0.arcs.length c0_11,.slice a0_13 x0.ends.length c0_14,.slice a0_16 x0.hops.length c0_17,.slice a0_18 x0.row.length c0_19,.slice a0_20 x0.place.length c0_21,.string (bs x0.text),.bool x0.found] Eb0,Res.rowS 227 5 encHop (.slice a0_16 x0.hops.length c0_17) x0.hops,Res.rowS 207 6 encFBox (.slice a0_18 x0.row.length c0_19) x0.row,Res.rowS 3 1 eI_ (.slice a0_20 x0.place.length c0_21) x0.place,Res.nest 228 230 3 encFBack (.slice a110 (List.replicate ((IntKind.i64.wrap (x0.t.states * x0.t.states)).toNat) ([]:List FBack)).length c111) g.2,Res.rowS 4 1 encB (.slice a114 (List.replicate ((IntKind.i64.wrap (x0.t.states * x0.t.states)).toNat) false).length c115) g.1.2.1]) (fun g=>σ) (fun g=>iter (fun q:(List (List FBack))×(List Bool)×Nat=>Au_ x0 q.1 q.2.1 q.2.2) g.1=some r∧g.1.1.length=(List.replicate ((IntKind.i64.wrap (x0.t.states * x0.t.states)).toNat) ([]:List FBack)).length∧Zn g.2 g.1.1∧g.1.2.1.length=(List.replicate ((IntKind.i64.wrap (x0.t.states * x0.t.states)).toNat) false).length) (fun g=>rounds (fun q:(List (List FBack))×(List Bool)×Nat=>Au_ x0 q.1 q.2.1 q.2.2) g.1) (((List.replicate ((IntKind.i64.wrap (x0.t.states * x0.t.states)).toNat) ([]:List FBack)),(List.replicate ((IntKind.i64.wrap (x0.t.states * x0.t.states)).toNat) false),0),(List.replicate ((IntKind.i64.wrap (x0.t.states * x0.t.states)).toNat) (nilN:NP FBack))) (Sub.f [1,5,5,5,5] 6) z (by repeat (first|exact trivial|refine ⟨z,?_⟩)) ⟨hh,z,zf112,z⟩ (fun g1 j1 hg1=> ?_)))))))))))
 obtain ⟨⟨l132,l136,k138⟩,z134⟩:=g1
 obtain ⟨hh,hn133,zf135,hn137⟩:=hg1
 try dsimp only at hn133 zf135 hn137 ⊢
 obtain ⟨z1,hh,hR1⟩:=iter_e hh
 dsimp only [Au_]at hh
 have hn133b:=hn133
 have zf135b:=zf135.len
 have hn137b:=hn137
 refine TC.isSl (i:=1) z (fun _ hb139 _=> ?_)
 refine TC.isSl (i:=2) z (fun _ hb140 _=> ?_)
 refine TC.isSl (i:=3) z (fun _ hb141 _=> ?_)
 refine TC.know (isSl_nest (q:=4) z zf135) (fun ⟨_,hb142⟩=> ?_)
 refine TC.isSl (i:=5) z (fun _ hb143 _=> ?_)
 refine TC.a (TL.w z (OpVal.lss z z z) (TL.en (TC.seq (TC.cD z hh (fun h144 hh=> ?_) (fun h144 hh=> ?_)))))
 ·refine TC.skip (S.n (TC.seq (TC.block (TC.a (TL.i z z (TL.i z z (TL.en (TC.a (TL.s z z (TL.isSl (i:=5) z (fun hs145 _ _=> ?_)))))))))))
  refine TL.front 5 z z ?_
  have hn146:(l136.take 0++List.replicate (l136.length - 0) false).length=(List.replicate ((IntKind.i64.wrap (x0.t.states * x0.t.states)).toNat) false).length:=by simp only [List.length_append,List.length_take,List.length_replicate];try simp only [List.length_replicate]at *;omega
  refine TL.op z (clearV (k:=0) false z underlying29 ze4 z z (VwOk.self hs145) (by omega) (by omega) encB_len (by decide) z encB_one ?_)
  refine TL.en (TC.seq ?_)
  have u33:=grd_c hh
  replace hh:=grd_t hh
  have u34:=grd_c hh
  replace hh:=grd_t hh
  refine TC.draw [] (by kernel_rfl) (TA.a 0 z (moveLoc (.inl z) z) z (TA.a 1 z (nilCheckLoc z z) z (TA.a 2 z (fieldLoc z fo165_1 z) z (TA.b 3 z (loadLoc z ag27 z (i:=1) z z) z (TA.a 4 z (moveI (.inl z) z) z (TA.a 5 z (moveI (.inl z) z) z (TA.a 6 z (quoW z z z u33) z (TA.b 7 z (OpVal.index z underlying27 sz86 z z f0_12.isSl u34.1 u34.2) z ?_))))))))
  obtain ⟨p148,hk148,hg148⟩:=RZ.seg f0_12 ((IntKind.i64.wrap (Int.tdiv ((k138:Nat):Int) x0.t.states)).toNat) (by omega)
  replace hk148:RS _ 1 eI_ (.slice p148.1 (nth x0.arcs ((IntKind.i64.wrap (Int.tdiv ((k138:Nat):Int) x0.t.states)).toNat) ([]:List Int)).length p148.2) (nth x0.arcs ((IntKind.i64.wrap (Int.tdiv ((k138:Nat):Int) x0.t.states)).toNat) ([]:List Int)):=hk148
  have hk148b:=hk148.rv.big
  refine TA.b 8 z (OpVal.of (loadSeg0 z ag86 z hg148 z) (v':= .slice p148.1 ((nth x0.arcs ((IntKind.i64.wrap (Int.tdiv ((k138:Nat):Int) x0.t.states)).toNat) ([]:List Int)).length) p148.2) z) z (TA.b 9 z (lenC z underlying86 z) z (TA.a 10 z (moveI (.inl z) z) z (TA.dn (S.n (TC.block (TC.loopG (α:=((List (List FBack))×(List Bool)×Nat)×((List (NP FBack)))) (rgs [(8,1),(10,4),(44,73)]) (fun g=>[(44,.int .i64 ((g.1.2.2:Nat):Int))]) (fun g=>[Res.cells b0_0 #[.int .i64 x0.t.states,.slice a0_1 x0.t.starts.length c0_2,.slice a0_4 x0.t.ends.length c0_5,.slice a0_7 x0.t.arcs.length c0_8,.slice a0_10 x0.arcs.length c0_11,.slice a0_13 x0.ends.length c0_14,.slice a0_16 x0.hops.length c0_17,.slice a0_18 x0.row.length c0_19,.slice a0_20 x0.place.length c0_21,.string (bs x0.text),.bool x0.found] Eb0,Res.rowS 227 5 encHop (.slice a0_16 x0.hops.length c0_17) x0.hops,Res.rowS 207 6 encFBox (.slice a0_18 x0.row.length c0_19) x0.row,Res.rowS 3 1 eI_ (.slice a0_20 x0.place.length c0_21) x0.place,Res.nest 228 230 3 encFBack (.slice a110 (List.replicate ((IntKind.i64.wrap (x0.t.states * x0.t.states)).toNat) ([]:List FBack)).length c111) g.2,Res.rowS 4 1 encB (.slice a114 (List.replicate ((IntKind.i64.wrap (x0.t.states * x0.t.states)).toNat) false).length c115) g.1.2.1]) (fun g=>σ) (fun g=>iter (fun q:(List (List FBack))×(List Bool)×Nat=>Ah_ x0 k138 q.1 q.2.1 q.2.2) g.1=some z1∧g.1.1.length=(List.replicate ((IntKind.i64.wrap (x0.t.states * x0.t.states)).toNat) ([]:List FBack)).length∧Zn g.2 g.1.1∧g.1.2.1.length=(List.replicate ((IntKind.i64.wrap (x0.t.states * x0.t.states)).toNat) false).length) (fun g=>rounds (fun q:(List (List FBack))×(List Bool)×Nat=>Ah_ x0 k138 q.1 q.2.1 q.2.2) g.1) ((l132,(l136.take 0++List.replicate (l136.length - 0) false),0),z134) (Sub.f [5,5,5,5,5] 6) z (by repeat (first|exact trivial|refine ⟨z,?_⟩)) ⟨hh,hn133,zf135,hn146⟩ (fun g2 j2 hg2=> ?_)))))))
  obtain ⟨⟨l166,l170,k172⟩,z168⟩:=g2
  obtain ⟨hh,hn167,zf169,hn171⟩:=hg2
  try dsimp only at hn167 zf169 hn171 ⊢
  obtain ⟨z2,hh,hR2⟩:=iter_e hh
  dsimp only [Ah_]at hh
  have hn167b:=hn167
  have zf169b:=zf169.len
  have hn171b:=hn171
  refine TC.isSl (i:=1) z (fun _ hb173 _=> ?_)
  refine TC.isSl (i:=2) z (fun _ hb174 _=> ?_)
  refine TC.isSl (i:=3) z (fun _ hb175 _=> ?_)
  refine TC.know (isSl_nest (q:=4) z zf169) (fun ⟨_,hb176⟩=> ?_)
  refine TC.isSl (i:=5) z (fun _ hb177 _=> ?_)
  refine TC.a (TL.w z (OpVal.lss z z z) (TL.en (TC.seq (TC.cD z hh (fun h178 hh=> ?_) (fun h178 hh=> ?_)))))
  ·refine TC.skip (S.n (TC.seq (TC.block (TC.a (TL.w z (indexN z underlying86 sz3 z z hk148.rv.sl (by omega)) (TL.w z (loadS1 (0:Int) z ag3 z hk148 (by omega) z) (TL.i z z (TL.en (TC.seq ?_)))))))))
   have u48:=grd_c hh
   replace hh:=grd_t hh
   have u49:=grd_c hh
   replace hh:=grd_t hh
   refine TC.draw [] (by kernel_rfl) (TA.a 0 z (moveLoc (.inl z) z) z (TA.a 1 z (nilCheckLoc z z) z (TA.a 2 z (fieldLoc z fo165_1 z) z (TA.b 3 z (loadLoc z ag27 z (i:=0) z z) z (TA.a 4 z (moveI (.inl z) z) z (TA.a 5 z (moveI (.inl z) z) z (TA.a 6 z (remW z z z u48) z (TA.b 7 z (OpVal.index z underlying27 sz86 z z f0_12.isSl u49.1 u49.2) z ?_))))))))
   obtain ⟨p180,hk180,hg180⟩:=RZ.seg f0_12 ((Int.tmod ((k138:Nat):Int) x0.t.states).toNat) (by omega)
   replace hk180:RS _ 1 eI_ (.slice p180.1 (nth x0.arcs ((Int.tmod ((k138:Nat):Int) x0.t.states).toNat) ([]:List Int)).length p180.2) (nth x0.arcs ((Int.tmod ((k138:Nat):Int) x0.t.states).toNat) ([]:List Int)):=hk180
   have hk180b:=hk180.rv.big
   refine TA.b 8 z (OpVal.of (loadSeg0 z ag86 z hg180 z) (v':= .slice p180.1 ((nth x0.arcs ((Int.tmod ((k138:Nat):Int) x0.t.states).toNat) ([]:List Int)).length) p180.2) z) z (TA.b 9 z (lenC z underlying86 z) z (TA.a 10 z (moveI (.inl z) z) z (TA.dn (S.n (TC.block (TC.loopG (α:=((List (List FBack))×(List Bool)×Nat)×((List (NP FBack)))) (rgs [(10,4),(58,58)]) (fun g=>[(58,.int .i64 ((g.1.2.2:Nat):Int))]) (fun g=>[Res.cells b0_0 #[.int .i64 x0.t.states,.slice a0_1 x0.t.starts.length c0_2,.slice a0_4 x0.t.ends.length c0_5,.slice a0_7 x0.t.arcs.length c0_8,.slice a0_10 x0.arcs.length c0_11,.slice a0_13 x0.ends.length c0_14,.slice a0_16 x0.hops.length c0_17,.slice a0_18 x0.row.length c0_19,.slice a0_20 x0.place.length c0_21,.string (bs x0.text),.bool x0.found] Eb0,Res.rowS 227 5 encHop (.slice a0_16 x0.hops.length c0_17) x0.hops,Res.rowS 207 6 encFBox (.slice a0_18 x0.row.length c0_19) x0.row,Res.rowS 3 1 eI_ (.slice a0_20 x0.place.length c0_21) x0.place,Res.nest 228 230 3 encFBack (.slice a110 (List.replicate ((IntKind.i64.wrap (x0.t.states * x0.t.states)).toNat) ([]:List FBack)).length c111) g.2,Res.rowS 4 1 encB (.slice a114 (List.replicate ((IntKind.i64.wrap (x0.t.states * x0.t.states)).toNat) false).length c115) g.1.2.1]) (fun g=>σ) (fun g=>iter (fun q:(List (List FBack))×(List Bool)×Nat=>Aj_ x0 k138 k172 q.1 q.2.1 q.2.2) g.1=some z2∧g.1.1.length=(List.replicate ((IntKind.i64.wrap (x0.t.states * x0.t.states)).toNat) ([]:List FBack)).length∧Zn g.2 g.1.1∧g.1.2.1.length=(List.replicate ((IntKind.i64.wrap (x0.t.states * x0.t.states)).toNat) false).length) (fun g=>rounds (fun q:(List (List FBack))×(List Bool)×Nat=>Aj_ x0 k138 k172 q.1 q.2.1 q.2.2) g.1) ((l166,l170,0),z168) (Sub.f [5,5,5,5,5,5] 6) z (by repeat (first|exact trivial|refine ⟨z,?_⟩)) ⟨hh,hn167,zf169,hn171⟩ (fun g3 j3 hg3=> ?_)))))))
   obtain ⟨⟨l198,l202,k204⟩,z200⟩:=g3
   obtain ⟨hh,hn199,zf201,hn203⟩:=hg3
   try dsimp only at hn199 zf201 hn203 ⊢
   obtain ⟨z3,hh,hR3⟩:=iter_e hh
   dsimp only [Aj_]at hh
   have hn199b:=hn199
   have zf201b:=zf201.len
   have hn203b:=hn203
   refine TC.isSl (i:=1) z (fun _ hb205 _=> ?_)
   refine TC.isSl (i:=2) z (fun _ hb206 _=> ?_)
   refine TC.isSl (i:=3) z (fun _ hb207 _=> ?_)
   refine TC.know (isSl_nest (q:=4) z zf201) (fun ⟨_,hb208⟩=> ?_)
   refine TC.isSl (i:=5) z (fun _ hb209 _=> ?_)
   refine TC.a (TL.w z (OpVal.lss z z z) (TL.en (TC.seq (TC.cD z hh (fun h210 hh=> ?_) (fun h210 hh=> ?_)))))
   ·refine TC.skip (S.n (TC.cutG (α:=((List (List FBack))×(List Bool))×((List (NP FBack)))) (rgs [(10,4),(60,55)]) (fun g=>[]) (fun g=>[Res.cells b0_0 #[.int .i64 x0.t.states,.slice a0_1 x0.t.starts.length c0_2,.slice a0_4 x0.t.ends.length c0_5,.slice a0_7 x0.t.arcs.length c0_8,.slice a0_10 x0.arcs.length c0_11,.slice a0_13 x0.ends.length c0_14,.slice a0_16 x0.hops.length c0_17,.slice a0_18 x0.row.length c0_19,.slice a0_20 x0.place.length c0_21,.string (bs x0.text),.bool x0.found] Eb0,Res.rowS 227 5 encHop (.slice a0_16 x0.hops.length c0_17) x0.hops,Res.rowS 207 6 encFBox (.slice a0_18 x0.row.length c0_19) x0.row,Res.rowS 3 1 eI_ (.slice a0_20 x0.place.length c0_21) x0.place,Res.nest 228 230 3 encFBack (.slice a110 (List.replicate ((IntKind.i64.wrap (x0.t.states * x0.t.states)).toNat) ([]:List FBack)).length c111) g.2,Res.rowS 4 1 encB (.slice a114 (List.replicate ((IntKind.i64.wrap (x0.t.states * x0.t.states)).toNat) false).length c115) g.1.2]) (fun g=>σ) (fun g=>Bh_ k204 g.1.1 g.1.2=some z3∧g.1.1.length=(List.replicate ((IntKind.i64.wrap (x0.t.states * x0.t.states)).toNat) ([]:List FBack)).length∧Zn g.2 g.1.1∧g.1.2.length=(List.replicate ((IntKind.i64.wrap (x0.t.states * x0.t.states)).toNat) false).length) ?_ (fun g j hg=> ?_)))
    ·skip
     refine TC.block (TC.a (TL.w z (indexN z underlying86 sz3 z z hk180.rv.sl (by omega)) (TL.w z (loadS1 (0:Int) z ag3 z hk180 (by omega) z) (TL.i z z (TL.en (TC.cutG (α:=(Unit)×(Nat×Nat)) (rgs [(11,2),(62,16)]) (fun g=>[(11,loc g.2.1 0),(12,loc g.2.2 0)]) (fun g=>[Res.cells b0_0 #[.int .i64 x0.t.states,.slice a0_1 x0.t.starts.length c0_2,.slice a0_4 x0.t.ends.length c0_5,.slice a0_7 x0.t.arcs.length c0_8,.slice a0_10 x0.arcs.length c0_11,.slice a0_13 x0.ends.length c0_14,.slice a0_16 x0.hops.length c0_17,.slice a0_18 x0.row.length c0_19,.slice a0_20 x0.place.length c0_21,.string (bs x0.text),.bool x0.found] Eb0,Res.rowS 227 5 encHop (.slice a0_16 x0.hops.length c0_17) x0.hops,Res.rowS 207 6 encFBox (.slice a0_18 x0.row.length c0_19) x0.row,Res.rowS 3 1 eI_ (.slice a0_20 x0.place.length c0_21) x0.place,Res.nest 228 230 3 encFBack (.slice a110 (List.replicate ((IntKind.i64.wrap (x0.t.states * x0.t.states)).toNat) ([]:List FBack)).length c111) z200,Res.rowS 4 1 encB (.slice a114 (List.replicate ((IntKind.i64.wrap (x0.t.states * x0.t.states)).toNat) false).length c115) l202,Res.cells g.2.1 #[.int .i64 ((nth x0.t.arcs ((nth (nth x0.arcs ((IntKind.i64.wrap (Int.tdiv ((k138:Nat):Int) x0.t.states)).toNat) ([]:List Int)) k172 (0:Int)).toNat) Arc.zero).frm),.int .i64 ((nth x0.t.arcs ((nth (nth x0.arcs ((IntKind.i64.wrap (Int.tdiv ((k138:Nat):Int) x0.t.states)).toNat) ([]:List Int)) k172 (0:Int)).toNat) Arc.zero).to),.int .u64 ((((nth x0.t.arcs ((nth (nth x0.arcs ((IntKind.i64.wrap (Int.tdiv ((k138:Nat):Int) x0.t.states)).toNat) ([]:List Int)) k172 (0:Int)).toNat) Arc.zero).set).a:Nat):Int),.int .u64 ((((nth x0.t.arcs ((nth (nth x0.arcs ((IntKind.i64.wrap (Int.tdiv ((k138:Nat):Int) x0.t.states)).toNat) ([]:List Int)) k172 (0:Int)).toNat) Arc.zero).set).b:Nat):Int),.int .u64 ((((nth x0.t.arcs ((nth (nth x0.arcs ((IntKind.i64.wrap (Int.tdiv ((k138:Nat):Int) x0.t.states)).toNat) ([]:List Int)) k172 (0:Int)).toNat) Arc.zero).set).c:Nat):Int),.int .u64 ((((nth x0.t.arcs ((nth (nth x0.arcs ((IntKind.i64.wrap (Int.tdiv ((k138:Nat):Int) x0.t.states)).toNat) ([]:List Int)) k172 (0:Int)).toNat) Arc.zero).set).d:Nat):Int),.string (bs ((nth x0.t.arcs ((nth (nth x0.arcs ((IntKind.i64.wrap (Int.tdiv ((k138:Nat):Int) x0.t.states)).toNat) ([]:List Int)) k172 (0:Int)).toNat) Arc.zero).out)),.bool ((nth x0.t.arcs ((nth (nth x0.arcs ((IntKind.i64.wrap (Int.tdiv ((k138:Nat):Int) x0.t.states)).toNat) ([]:List Int)) k172 (0:Int)).toNat) Arc.zero).copy)] 66,Res.cells g.2.2 #[.int .i64 ((nth x0.t.arcs ((nth (nth x0.arcs ((Int.tmod ((k138:Nat):Int) x0.t.states).toNat) ([]:List Int)) k204 (0:Int)).toNat) Arc.zero).frm),.int .i64 ((nth x0.t.arcs ((nth (nth x0.arcs ((Int.tmod ((k138:Nat):Int) x0.t.states).toNat) ([]:List Int)) k204 (0:Int)).toNat) Arc.zero).to),.int .u64 ((((nth x0.t.arcs ((nth (nth x0.arcs ((Int.tmod ((k138:Nat):Int) x0.t.states).toNat) ([]:List Int)) k204 (0:Int)).toNat) Arc.zero).set).a:Nat):Int),.int .u64 ((((nth x0.t.arcs ((nth (nth x0.arcs ((Int.tmod ((k138:Nat):Int) x0.t.states).toNat) ([]:List Int)) k204 (0:Int)).toNat) Arc.zero).set).b:Nat):Int),.int .u64 ((((nth x0.t.arcs ((nth (nth x0.arcs ((Int.tmod ((k138:Nat):Int) x0.t.states).toNat) ([]:List Int)) k204 (0:Int)).toNat) Arc.zero).set).c:Nat):Int),.int .u64 ((((nth x0.t.arcs ((nth (nth x0.arcs ((Int.tmod ((k138:Nat):Int) x0.t.states).toNat) ([]:List Int)) k204 (0:Int)).toNat) Arc.zero).set).d:Nat):Int),.string (bs ((nth x0.t.arcs ((nth (nth x0.arcs ((Int.tmod ((k138:Nat):Int) x0.t.states).toNat) ([]:List Int)) k204 (0:Int)).toNat) Arc.zero).out)),.bool ((nth x0.t.arcs ((nth (nth x0.arcs ((Int.tmod ((k138:Nat):Int) x0.t.states).toNat) ([]:List Int)) k204 (0:Int)).toNat) Arc.zero).copy)] 66]) (fun g=>σ) (fun g=>Cu_ x0 k138 k172 k204 l202 l198=some z3∧l198.length=(List.replicate ((IntKind.i64.wrap (x0.t.states * x0.t.states)).toNat) ([]:List FBack)).length∧Zn z200 l198∧l202.length=(List.replicate ((IntKind.i64.wrap (x0.t.states * x0.t.states)).toNat) false).length) ?_ (fun g j hg=> ?_)))))))
     ·skip
      have u63:=grd_c hh
      replace hh:=grd_t hh
      have u71:=grd_c hh
      replace hh:=grd_t hh
      refine TC.drawR (Hr:=[Res.cells b0_0 #[.int .i64 x0.t.states,.slice a0_1 x0.t.starts.length c0_2,.slice a0_4 x0.t.ends.length c0_5,.slice a0_7 x0.t.arcs.length c0_8,.slice a0_10 x0.arcs.length c0_11,.slice a0_13 x0.ends.length c0_14,.slice a0_16 x0.hops.length c0_17,.slice a0_18 x0.row.length c0_19,.slice a0_20 x0.place.length c0_21,.string (bs x0.text),.bool x0.found] Eb0,Res.rowS 227 5 encHop (.slice a0_16 x0.hops.length c0_17) x0.hops,Res.rowS 207 6 encFBox (.slice a0_18 x0.row.length c0_19) x0.row,Res.rowS 3 1 eI_ (.slice a0_20 x0.place.length c0_21) x0.place,Res.nest 228 230 3 encFBack (.slice a110 (List.replicate ((IntKind.i64.wrap (x0.t.states * x0.t.states)).toNat) ([]:List FBack)).length c111) z200,Res.rowS 4 1 encB (.slice a114 (List.replicate ((IntKind.i64.wrap (x0.t.states * x0.t.states)).toNat) false).length c115) l202]) (fun r hr=>mem_pick [0,1,2,3,4,5] z hr) [] (by kernel_rfl) (TA.a 0 z (moveLoc (.inl z) z) z (TA.a 1 z (nilCheckLoc z z) z (TA.a 2 z (fieldLoc z fo165_0 z) z (TA.a 3 z (fieldLoc z fo25_3 z) z (TA.b 4 z (loadLoc z ag23 z (i:=0) z z) z (TA.a 5 z (moveI (.inl z) z) z (TA.b 6 z (OpVal.index z underlying23 sz66 z z f0_9.rv.sl u63.1 u63.2) z (TA.b 7 z (loadSA Arc.zero z ag66 sz66 z f0_9 (by omega) (by omega)) z (TA.a 8 z (moveLoc (.inl z) z) z (TA.a 9 z (nilCheckLoc z z) z (TA.a 10 z (fieldLoc z fo165_0 z) z (TA.a 11 z (fieldLoc z fo25_3 z) z (TA.b 12 z (loadLoc z ag23 z (i:=0) z z) z (TA.a 13 z (moveI (.inl z) z) z (TA.b 14 z (OpVal.index z underlying23 sz66 z z f0_9.rv.sl u71.1 u71.2) z ?_)))))))))))))))
      refine TA.b 15 z (loadSA Arc.zero z ag66 sz66 z f0_9 (by omega) (by omega)) z (TA.actN [16,17] (by kernel_rfl) (an z z (OpOk.alloc z ze66 z z (fun b228=>(k1 ?_))) (an z z (OpOk.alloc z ze66 z z (fun b230=>(k1 ?_))) (True.intro))))
      ·skip
       refine TA.ac 17 z (OpOk.alloc z ze66 z z (fun b232=>(k2 ?_)))
       refine TA.front 1 z z (TA.ac 18 z (storeAll z sz66 z z z z z z (k2 ?_)))
       refine TA.front 1 z z (TA.ac 19 z (storeAll z sz66 z z z z z z (k2 ?_)))
       exact TA.dn (S.n (cf ((),(b228,b232)) ⟨hh,hn199,zf201,hn203⟩ (Sub.f [1,7,7,7,7,7,7] 8)))
      skip
      refine TA.ac 16 z (OpOk.alloc z ze66 z z (fun b234=>(k2 ?_)))
      refine TA.ac 18 z (storeAll z sz66 z z z z z z (k2 ?_))
      refine TA.front 1 z z (TA.ac 19 z (storeAll z sz66 z z z z z z (k2 ?_)))
      exact TA.dn (S.n (cf ((),(b234,b230)) ⟨hh,hn199,zf201,hn203⟩ (Sub.f [1,7,7,7,7,7,7] 8)))
     skip
     obtain ⟨_,⟨b221,b223⟩⟩:=g
     obtain ⟨hh,hn217,zf218,hn219⟩:=hg
     try dsimp only at hn217 zf218 hn219 ⊢
     dsimp only [Cu_]at hh
     have hn217b:=hn217
     have zf218b:=zf218.len
     have hn219b:=hn219
     refine TC.isSl (i:=1) z (fun _ hb236 _=> ?_)
     refine TC.isSl (i:=2) z (fun _ hb237 _=> ?_)
     refine TC.isSl (i:=3) z (fun _ hb238 _=> ?_)
     refine TC.know (isSl_nest (q:=4) z zf218) (fun ⟨_,hb239⟩=> ?_)
     refine TC.isSl (i:=5) z (fun _ hb240 _=> ?_)
     refine TC.a (TL.l z z (TL.w z (fieldLoc z fo66_1 z) (TL.w z (loadLoc z ag3 z (i:=6) z z) (TL.w z (fieldLoc z fo66_1 z) (TL.w z (loadLoc z ag3 z (i:=7) z z) (TL.w z (buildArrL z underlying202 sz3 ze202 z) (TL.front 3 z z (TL.front 3 z z (TL.front 3 z z (TL.front 3 z z ?_))))))))))
     obtain ⟨v83,u83,hh⟩:=bnd_e hh
     refine TL.op z (OpOk.call (Bx_ (x0:=x0) f0_3 f0_6 f0_9 f0_12 f0_15 u83) z z pf172 z z z z ?_)
     rintro _ _ _ hle241 ⟨rfl,rfl,rfl⟩
     refine TL.i z z (TL.en (TC.a (TL.s z z (TL.i z z ?_))))
     have u87:=grd_c hh
     replace hh:=grd_t hh
     refine TL.isSl (i:=5) z (fun hs242 _ _=> ?_)
     refine TL.w z (OpVal.index z underlying29 sz4 z z hs242 u87.1 u87.2) (TL.w z (loadO1 false z ag4 z (q:=5) z encB_len (by omega) z) (TL.w z (OpVal.not z z) (TL.j z z (TL.split 90 z (fun h243=> ?_) (fun h243=> ?_)))))
     ·replace hh:=iteO_t h243 hh
      refine TL.g z (fieldLoc z fo66_2 z) (TL.g z (loadLocA z ag64 sz64 z (i:=6) z z z) (TL.g z (fieldLoc z fo66_2 z) (TL.g z (loadLocA z ag64 sz64 z (i:=7) z z z) ?_)))
      obtain ⟨v95,u95,hh⟩:=bnd_e hh
      refine TL.gon z z z z z (callP (E6_ u95) z z pf171 z z z ?_)
      refine TL.g z (buildArrL z underlying64 sz62 ze64 z) (TL.g z (neqSet (s:=v95) (t:=BSet.zero) z underlying64 underlying62 ag62 sz62 eg64 z z) (TL.w z (pickTB z z z) (TL.en (TC.cD z hh (fun h244 hh=> ?_) (fun h244 hh=> ?_)))))
      ·refine TC.a (TL.s z z (TL.i z z ?_))
       have u101:=grd_c hh
       replace hh:=grd_t hh
       refine TL.isSl (i:=5) z (fun hs245 _ _=> ?_)
       refine TL.w z (OpVal.index z underlying29 sz4 z z hs245 u101.1 u101.2) (TL.front 5 z z ?_)
       have hn246:(l202.set v83.toNat true).length=(List.replicate ((IntKind.i64.wrap (x0.t.states * x0.t.states)).toNat) false).length:=by rw [List.length_set];exact hn219
       refine TL.op z (storeS true z sz4 z z z z encB_len encB_one (by omega) (by omega) ?_)
       refine TL.en (TC.region (TL.s z z (TL.i z z (TL.s z z (TL.i z z ?_)))))
       have u107:=grd_c hh
       replace hh:=grd_t hh
       refine TL.know (isSl_nest (q:=5) z zf218) (fun ⟨hs247,hs247b⟩=> ?_)
       refine TL.w z (OpVal.index z underlying224 sz228 z z hs247 u107.1 u107.2) ?_
       obtain ⟨p248,hz248,hm248⟩:=Zn.at zf218 (i:=v83.toNat) (by omega)
       refine TL.w z (loadN z ag228 z (q:=5) z hz248 hm248) (TL.i z z (TL.i z z (TL.i z z (TL.w z (buildL z pl230 ze230 z) (TL.op z (OpOk.lit (enc:=encFBack) [(⟨((k138:Nat):Int),(nth (nth x0.arcs ((IntKind.i64.wrap (Int.tdiv ((k138:Nat):Int) x0.t.states)).toNat) ([]:List Int)) k172 (0:Int)),(nth (nth x0.arcs ((Int.tmod ((k138:Nat):Int) x0.t.states).toNat) ([]:List Int)) k204 (0:Int))⟩:FBack)] z underlying228 sz230 ze230 z z z encFBack_len (by decide) (by decide) FBack.zero z (by decide) z (by decide) encFBack_one (fun a249 c250=> ?_)))))))
       refine TL.front 6 z z (TL.by (fun w h=>Reach.takeN hz248 hm248 h) ?_)
       have u114:=grd_c hh
       replace hh:=grd_t hh
       refine TL.op z (appendS z z underlying228 sz230 by230 ze230 z z (by decide) z z z (.inr ⟨_,1,z⟩) (by simpa using u114) (by decide) (fun a253 c254=> ?_))
       have u115:=grd_c hh
       replace hh:=grd_t hh
       refine TL.know (isSl_nestX (q:=1) z zf218) (fun ⟨hs255,hs255b⟩=> ?_)
       refine TL.w z (OpVal.index z underlying224 sz228 z z hs255 u115.1 u115.2) (TL.front 1 z z (TL.front 1 z z ?_))
       have hn257:(l198.set v83.toNat ((nth l198 v83.toNat ([]:List FBack))++[(⟨((k138:Nat):Int),(nth (nth x0.arcs ((IntKind.i64.wrap (Int.tdiv ((k138:Nat):Int) x0.t.states)).toNat) ([]:List Int)) k172 (0:Int)),(nth (nth x0.arcs ((Int.tmod ((k138:Nat):Int) x0.t.states).toNat) ([]:List Int)) k204 (0:Int))⟩:FBack)])).length=(List.replicate ((IntKind.i64.wrap (x0.t.states * x0.t.states)).toNat) ([]:List FBack)).length:=(List.length_set ..).trans hn217
       refine TL.op rfl (storeX (l':=((nth l198 v83.toNat ([]:List FBack))++[(⟨((k138:Nat):Int),(nth (nth x0.arcs ((IntKind.i64.wrap (Int.tdiv ((k138:Nat):Int) x0.t.states)).toNat) ([]:List Int)) k172 (0:Int)),(nth (nth x0.arcs ((Int.tmod ((k138:Nat):Int) x0.t.states).toNat) ([]:List Int)) k204 (0:Int))⟩:FBack)])) rfl sz228 rfl rfl rfl rfl rfl (by rw [zf218.len];omega) zf218 (fun zf256=> ?_))
       exact TL.nil (B.n (S.n (cf (((l198.set v83.toNat ((nth l198 v83.toNat ([]:List FBack))++[(⟨((k138:Nat):Int),(nth (nth x0.arcs ((IntKind.i64.wrap (Int.tdiv ((k138:Nat):Int) x0.t.states)).toNat) ([]:List Int)) k172 (0:Int)),(nth (nth x0.arcs ((Int.tmod ((k138:Nat):Int) x0.t.states).toNat) ([]:List Int)) k204 (0:Int))⟩:FBack)])),(l202.set v83.toNat true)),(z200.set v83.toNat (((nth l198 v83.toNat ([]:List FBack))++[(⟨((k138:Nat):Int),(nth (nth x0.arcs ((IntKind.i64.wrap (Int.tdiv ((k138:Nat):Int) x0.t.states)).toNat) ([]:List Int)) k172 (0:Int)),(nth (nth x0.arcs ((Int.tmod ((k138:Nat):Int) x0.t.states).toNat) ([]:List Int)) k204 (0:Int))⟩:FBack)]),(a253,c254)))) ⟨hh,hn257,zf256,hn246⟩ (Sub.f [2,1,6,6,6,6] 6))))
      exact TC.skip (B.n (S.n (cf ((l198,l202),z200) ⟨hh,hn217,zf218,hn219⟩ (Sub.f [5,5,5,5,5,5] 6))))
     replace hh:=iteO_f h243 hh
     exact TL.f z (TL.f z (TL.f z (TL.f z (TL.f z (TL.f z (TL.f z (TL.w z (pickFB z z z) (TL.en (TC.f z (TC.skip (B.n (S.n (cf ((l198,l202),z200) ⟨hh,hn217,zf218,hn219⟩ (Sub.f [5,5,5,5,5,5] 6))))))))))))))
    skip
    obtain ⟨⟨l211,l215⟩,z213⟩:=g
    obtain ⟨hh,hn212,zf214,hn216⟩:=hg
    try dsimp only at hn212 zf214 hn216 ⊢
    dsimp only [Bh_]at hh
    have hn212b:=hn212
    have zf214b:=zf214.len
    have hn216b:=hn216
    refine TC.isSl (i:=1) z (fun _ hb258 _=> ?_)
    refine TC.isSl (i:=2) z (fun _ hb259 _=> ?_)
    refine TC.isSl (i:=3) z (fun _ hb260 _=> ?_)
    refine TC.know (isSl_nest (q:=4) z zf214) (fun ⟨_,hb261⟩=> ?_)
    refine TC.isSl (i:=5) z (fun _ hb262 _=> ?_)
    refine TC.region (TL.w z (OpVal.succ z z z (by omega)) (TL.i z z (TL.en ?_)))
    obtain ⟨hh,hlt263⟩:=nxt_x hR3 hh
    exact lf ((l211,l215,(k204+1)),z213) hlt263 ⟨hh,hn212,zf214,hn216⟩ (Sub.f [5,5,5,5,5,5] 6)
   refine TC.exit (S.x (S.x ?_))
   replace hh:=fin_x hR3 hh
   refine TC.exitHere (B.n (S.n (TC.region (TL.w z (OpVal.succ z z z (by omega)) (TL.i z z (TL.en ?_))))))
   obtain ⟨hh,hlt264⟩:=nxt_x hR2 hh
   exact lf ((l198,l202,(k172+1)),z200) hlt264 ⟨hh,hn199,zf201,hn203⟩ (Sub.f [5,5,5,5,5,5] 6)
  refine TC.exit (S.x (S.x ?_))
  replace hh:=fin_x hR2 hh
  refine TC.exitHere (B.n (S.n (TC.region ?_)))
  have u121:=grd_c hh
  replace hh:=grd_t hh
  refine TL.w z (OpVal.succ z z z (by omega)) (TL.i z z (TL.en ?_))
  obtain ⟨hh,hlt265⟩:=nxt_x hR1 hh
  exact lf ((l166,l170,(k138+1)),z168) hlt265 ⟨hh,hn167,zf169,hn171⟩ (Sub.f [5,5,5,5,5,5] 6)
 refine TC.exit (S.x (S.x ?_))
 replace hh:=fin_x hR1 hh
 refine TC.exitHere (S.n (TC.a (TL.s z z (TL.s z z (TL.en ?_)))))
 rw [←hn133]
 refine TC.front 4 z z (TC.seals (fun w h=>Reach.sealNest encFBack_len zf135 h) (fun τ268 hle267 hr266=> ?_))
 have hr266b:=hr266.big
 refine TC.ofSub (Sub.f [3,3,3,3] 4) (TC.ret ?_)
 obtain rfl:=so hh
 exact ro [Res.cells b0_0 #[.int .i64 x0.t.states,.slice a0_1 x0.t.starts.length c0_2,.slice a0_4 x0.t.ends.length c0_5,.slice a0_7 x0.t.arcs.length c0_8,.slice a0_10 x0.arcs.length c0_11,.slice a0_13 x0.ends.length c0_14,.slice a0_16 x0.hops.length c0_17,.slice a0_18 x0.row.length c0_19,.slice a0_20 x0.place.length c0_21,.string (bs x0.text),.bool x0.found] Eb0,Res.rowS 227 5 encHop (.slice a0_16 x0.hops.length c0_17) x0.hops,Res.rowS 207 6 encFBox (.slice a0_18 x0.row.length c0_19) x0.row,Res.rowS 3 1 eI_ (.slice a0_20 x0.place.length c0_21) x0.place] z (RVs.tmp z RVs.nil) ⟨a110,c111,z,hr266,z⟩
def Bu_(k132:Nat)(l139:List Hop)(l141:List Int):Option (((List Hop)×(List Int)×Nat)⊕(Search)):=
 nxt (l139,l141,(k132+1))
def C1_(k202:Nat)(l207:List Hop)(l209:List Int):Option (((List Hop)×(List Int)×Nat)⊕(((List Hop)×(List Int))⊕(Search))):=
 nxt (l207,l209,(k202+1))
def Ac_(v2:(List (List FBack)))(l173:List Int)(x0:Search)(l197:List Hop)(l199:List Int)(k202:Nat):Option (((List Hop)×(List Int)×Nat)⊕(((List Hop)×(List Int))⊕(Search))):=
 iteO (decide (((k202:Nat):Int)<(((nth v2 ((nth l173 0 (0:Int)).toNat) ([]:List FBack)).length:Nat):Int))) (grd (0≤((nth (nth v2 ((nth l173 0 (0:Int)).toNat) ([]:List FBack)) k202 FBack.zero).frm)∧((nth (nth v2 ((nth l173 0 (0:Int)).toNat) ([]:List FBack)) k202 FBack.zero).frm)<(l197.length:Int)) (iteO ((nth l197 (((nth (nth v2 ((nth l173 0 (0:Int)).toNat) ([]:List FBack)) k202 FBack.zero).frm).toNat) Hop.zero).live) (C1_ k202 l197 l199) (grd (0≤((nth (nth v2 ((nth l173 0 (0:Int)).toNat) ([]:List FBack)) k202 FBack.zero).x)∧((nth (nth v2 ((nth l173 0 (0:Int)).toNat) ([]:List FBack)) k202 FBack.zero).x)<(x0.t.arcs.length:Int)) (grd (0≤((nth (nth v2 ((nth l173 0 (0:Int)).toNat) ([]:List FBack)) k202 FBack.zero).y)∧((nth (nth v2 ((nth l173 0 (0:Int)).toNat) ([]:List FBack)) k202 FBack.zero).y)<(x0.t.arcs.length:Int)) (bnd (Cj_ ((nth x0.t.arcs (((nth (nth v2 ((nth l173 0 (0:Int)).toNat) ([]:List FBack)) k202 FBack.zero).x).toNat) Arc.zero).set) ((nth x0.t.arcs (((nth (nth v2 ((nth l173 0 (0:Int)).toNat) ([]:List FBack)) k202 FBack.zero).y).toNat) Arc.zero).set)) (fun v109=>bnd (C9_ v109) (fun v110=>grd (0≤((nth (nth v2 ((nth l173 0 (0:Int)).toNat) ([]:List FBack)) k202 FBack.zero).frm)∧((nth (nth v2 ((nth l173 0 (0:Int)).toNat) ([]:List FBack)) k202 FBack.zero).frm)<(l197.length:Int)) (grd ((l199.length+[(nth (nth v2 ((nth l173 0 (0:Int)).toNat) ([]:List FBack)) k202 FBack.zero).frm].length) * 8≤140737488355328) (C1_ k202 (l197.set (((nth (nth v2 ((nth l173 0 (0:Int)).toNat) ([]:List FBack)) k202 FBack.zero).frm).toNat) (⟨true,false,(nth (nth v2 ((nth l173 0 (0:Int)).toNat) ([]:List FBack)) k202 FBack.zero).x,(nth (nth v2 ((nth l173 0 (0:Int)).toNat) ([]:List FBack)) k202 FBack.zero).y,v110.1⟩:Hop)) (l199++[(nth (nth v2 ((nth l173 0 (0:Int)).toNat) ([]:List FBack)) k202 FBack.zero).frm])))))))))) (fin (nxt (l197,l199)))
def Ao_(v2:(List (List FBack)))(x0:Search)(l171:List Hop)(l173:List Int):Option (((List Hop)×(List Int))⊕(Search)):=
 iteO (decide (0<((l173.length:Nat):Int))) (grd (0<l173.length∧1≤l173.length) (grd (0≤(nth l173 0 (0:Int))∧(nth l173 0 (0:Int))<(v2.length:Int)) (iter (fun q:(List Hop)×(List Int)×Nat=>Ac_ v2 l173 x0 q.1 q.2.1 q.2.2) (l171,(l173.drop 1),0)))) (fin (some (⟨x0.t,x0.arcs,x0.ends,l171,x0.row,x0.place,x0.text,x0.found⟩:Search)))
def Ap_(x0:Search)(v2:(List (List FBack)))(l126:List Hop)(l129:List Int)(k132:Nat):Option (((List Hop)×(List Int)×Nat)⊕(Search)):=
 iteO (decide (((k132:Nat):Int)<((x0.hops.length:Nat):Int))) (grd (x0.t.states≠0) (grd (0≤(IntKind.i64.wrap (Int.tdiv ((k132:Nat):Int) x0.t.states))∧(IntKind.i64.wrap (Int.tdiv ((k132:Nat):Int) x0.t.states))<(x0.ends.length:Int)) (iteO (decide (0<(((nth x0.ends ((IntKind.i64.wrap (Int.tdiv ((k132:Nat):Int) x0.t.states)).toNat) ([]:List (List UInt8))).length:Nat):Int))) (grd (x0.t.states≠0) (grd (0≤(Int.tmod ((k132:Nat):Int) x0.t.states)∧(Int.tmod ((k132:Nat):Int) x0.t.states)<(x0.ends.length:Int)) (iteO (decide (0<(((nth x0.ends ((Int.tmod ((k132:Nat):Int) x0.t.states).toNat) ([]:List (List UInt8))).length:Nat):Int))) (grd (k132<l126.length) (grd ((l129.length+[((k132:Nat):Int)].length) * 8≤140737488355328) (Bu_ k132 (l126.set k132 (⟨true,true,0,0,(0:UInt8)⟩:Hop)) (l129++[((k132:Nat):Int)])))) (Bu_ k132 l126 l129)))) (Bu_ k132 l126 l129)))) (fin (iter (fun q:(List Hop)×(List Int)=>Ao_ v2 x0 q.1 q.2) (l126,l129)))
def C0_(x0:Search):Option (Search):=
 bnd (Ck_ x0) (fun v2=>iter (fun q:(List Hop)×(List Int)×Nat=>Ap_ x0 v2 q.1 q.2.1 q.2.2) (x0.hops,([]:List Int),0))
theorem F0_{x0:Search}(hgl:GT2 σ 1 2)(f0_3:RS σ 2 encTip (.slice a0_1 x0.t.starts.length c0_2) x0.t.starts)(f0_6:RS σ 2 encTip (.slice a0_4 x0.t.ends.length c0_5) x0.t.ends)(f0_9:RS σ 8 encArc (.slice a0_7 x0.t.arcs.length c0_8) x0.t.arcs)(f0_12:RZ σ (pkSl 1 eI_ eIl_) (.slice a0_10 x0.arcs.length c0_11) x0.arcs)(f0_15:RZ σ (pkSl 1 eS_ eSl_) (.slice a0_13 x0.ends.length c0_14) x0.ends){r:Search}(hh:C0_ x0=some r):
  Con Tryz.prog 145 #[loc b0_0 0] σ [Res.cells b0_0 #[.int .i64 x0.t.states,.slice a0_1 x0.t.starts.length c0_2,.slice a0_4 x0.t.ends.length c0_5,.slice a0_7 x0.t.arcs.length c0_8,.slice a0_10 x0.arcs.length c0_11,.slice a0_13 x0.ends.length c0_14,.slice a0_16 x0.hops.length c0_17,.slice a0_18 x0.row.length c0_19,.slice a0_20 x0.place.length c0_21,.string (bs x0.text),.bool x0.found] Eb0,Res.rowS 227 5 encHop (.slice a0_16 x0.hops.length c0_17) x0.hops,Res.rowS 207 6 encFBox (.slice a0_18 x0.row.length c0_19) x0.row,Res.rowS 3 1 eI_ (.slice a0_20 x0.place.length c0_21) x0.place] (fun v σ' H'=> ∃ao1 co2,v= .tuple #[]∧H'=[Res.cells b0_0 #[.int .i64 x0.t.states,.slice a0_1 x0.t.starts.length c0_2,.slice a0_4 x0.t.ends.length c0_5,.slice a0_7 x0.t.arcs.length c0_8,.slice a0_10 x0.arcs.length c0_11,.slice a0_13 x0.ends.length c0_14,.slice ao1 r.hops.length co2,.slice a0_18 x0.row.length c0_19,.slice a0_20 x0.place.length c0_21,.string (bs x0.text),.bool x0.found] Eb0,Res.rowS 227 5 encHop (.slice ao1 r.hops.length co2) r.hops,Res.rowS 207 6 encFBox (.slice a0_18 x0.row.length c0_19) x0.row,Res.rowS 3 1 eI_ (.slice a0_20 x0.place.length c0_21) x0.place]):=by
 dsimp only [C0_]at hh
 have f0_3b:=f0_3.rv.big
 have f0_6b:=f0_6.rv.big
 have f0_9b:=f0_9.rv.big
 have f0_12b:=f0_12.big
 have f0_15b:=f0_15.big
 refine Con.mk (n:=132) Tryz.func145 z z z (fun w0=> ?_)
 refine TC.weakR (TC.a (TL.l z z (TL.front 3 z z (TL.front 3 z z (TL.front 3 z z (TL.front 3 z z ?_))))))
 obtain ⟨v2,u2,hh⟩:=bnd_e hh
 refine TL.op z (OpOk.call (Fo_ (x0:=x0) f0_3 f0_6 f0_9 f0_12 f0_15 u2) z z pf169 z z z z ?_)
 rintro _ τ111 _ hle111 ⟨a111_1,c111_2,rfl,hr111_3,rfl⟩
 replace f0_9:=f0_9.mono hle111
 replace f0_15:=f0_15.mono hle111
 replace hgl:=hgl.mono hle111
 have hr111_3b:=hr111_3.big
 refine TL.s z z (TL.en (TC.a (TL.l z z (TL.w z (nilCheckLoc z z) (TL.w z (fieldLoc z fo165_0 z) (TL.w z (fieldLoc z fo25_0 z) (TL.w z (loadLoc z ag3 z (i:=0) z z) (TL.i z z (TL.en (TC.a (TL.s z z (TL.en (TC.seq (TC.a (TL.l z z ?_)))))))))))))))
 refine TL.w z (nilCheckLoc z z) (TL.w z (fieldLoc z fo165_3 z) (TL.w z (loadLoc z ag162 z (i:=0) z z) (TL.w z (lenC z underlying162 z) (TL.i z z (TL.en (TC.block (TC.nilS 3 1 eI_ (TC.loopG (α:=((List Hop)×(List Int)×Nat)×((Option Addr)×Nat)) (rgs [(4,2),(23,39)]) (fun g=>[(4,.slice g.2.1 g.1.2.1.length g.2.2),(23,.int .i64 ((g.1.2.2:Nat):Int))]) (fun g=>[Res.cells b0_0 #[.int .i64 x0.t.states,.slice a0_1 x0.t.starts.length c0_2,.slice a0_4 x0.t.ends.length c0_5,.slice a0_7 x0.t.arcs.length c0_8,.slice a0_10 x0.arcs.length c0_11,.slice a0_13 x0.ends.length c0_14,.slice a0_16 x0.hops.length c0_17,.slice a0_18 x0.row.length c0_19,.slice a0_20 x0.place.length c0_21,.string (bs x0.text),.bool x0.found] Eb0,Res.rowS 227 5 encHop (.slice a0_16 x0.hops.length c0_17) g.1.1,Res.rowS 207 6 encFBox (.slice a0_18 x0.row.length c0_19) x0.row,Res.rowS 3 1 eI_ (.slice a0_20 x0.place.length c0_21) x0.place,Res.rowS 3 1 eI_ (.slice g.2.1 g.1.2.1.length g.2.2) g.1.2.1]) (fun g=>τ111) (fun g=>iter (fun q:(List Hop)×(List Int)×Nat=>Ap_ x0 v2 q.1 q.2.1 q.2.2) g.1=some r∧g.1.1.length=x0.hops.length) (fun g=>rounds (fun q:(List Hop)×(List Int)×Nat=>Ap_ x0 v2 q.1 q.2.1 q.2.2) g.1) ((x0.hops,([]:List Int),0),(none,0)) (Sub.f [4,4,4,4] 5) z (by repeat (first|exact trivial|refine ⟨z,?_⟩)) ⟨hh,z⟩ (fun g1 j1 hg1=> ?_)))))))))
 obtain ⟨⟨l126,l129,k132⟩,⟨a130,c131⟩⟩:=g1
 obtain ⟨hh,hn127⟩:=hg1
 try dsimp only at hn127 ⊢
 obtain ⟨z1,hh,hR1⟩:=iter_e hh
 dsimp only [Ap_]at hh
 have hn127b:=hn127
 refine TC.isSl (i:=1) z (fun _ hb134 _=> ?_)
 refine TC.isSl (i:=2) z (fun _ hb135 _=> ?_)
 refine TC.isSl (i:=3) z (fun _ hb136 _=> ?_)
 refine TC.isSl (i:=4) z (fun _ hb137 _=> ?_)
 refine TC.a (TL.w z (OpVal.lss z z z) (TL.en (TC.seq (TC.cD z hh (fun h138 hh=> ?_) (fun h138 hh=> ?_)))))
 ·refine TC.skip (S.n (TC.cutG (α:=((List Hop)×(List Int))×((Option Addr)×Nat)) (rgs [(4,2),(25,36)]) (fun g=>[(4,.slice g.2.1 g.1.2.length g.2.2)]) (fun g=>[Res.cells b0_0 #[.int .i64 x0.t.states,.slice a0_1 x0.t.starts.length c0_2,.slice a0_4 x0.t.ends.length c0_5,.slice a0_7 x0.t.arcs.length c0_8,.slice a0_10 x0.arcs.length c0_11,.slice a0_13 x0.ends.length c0_14,.slice a0_16 x0.hops.length c0_17,.slice a0_18 x0.row.length c0_19,.slice a0_20 x0.place.length c0_21,.string (bs x0.text),.bool x0.found] Eb0,Res.rowS 227 5 encHop (.slice a0_16 x0.hops.length c0_17) g.1.1,Res.rowS 207 6 encFBox (.slice a0_18 x0.row.length c0_19) x0.row,Res.rowS 3 1 eI_ (.slice a0_20 x0.place.length c0_21) x0.place,Res.rowS 3 1 eI_ (.slice g.2.1 g.1.2.length g.2.2) g.1.2]) (fun g=>τ111) (fun g=>Bu_ k132 g.1.1 g.1.2=some z1∧g.1.1.length=x0.hops.length) ?_ (fun g j hg=> ?_)))
  ·skip
   refine TC.block (TC.a (TL.i z z (TL.i z z (TL.en (TC.seq (TC.draw [] (by kernel_rfl) (TA.a 0 z (moveLoc (.inl z) z) z (TA.a 1 z (nilCheckLoc z z) z (TA.a 2 z (fieldLoc z fo165_2 z) z (TA.b 3 z (loadLoc z ag28 z (i:=0) z z) z (TA.a 4 z (moveI (.inl z) z) z (TA.a 5 z (moveI (.inl z) z) z ?_))))))))))))
   have u26:=grd_c hh
   replace hh:=grd_t hh
   refine TA.a 6 z (quoW z z z u26) z ?_
   have u27:=grd_c hh
   replace hh:=grd_t hh
   refine TA.b 7 z (OpVal.index z underlying28 sz30 z z f0_15.isSl u27.1 u27.2) z ?_
   obtain ⟨p144,hk144,hg144⟩:=RZ.seg f0_15 ((IntKind.i64.wrap (Int.tdiv ((k132:Nat):Int) x0.t.states)).toNat) (by omega)
   replace hk144:RS _ 1 eS_ (.slice p144.1 (nth x0.ends ((IntKind.i64.wrap (Int.tdiv ((k132:Nat):Int) x0.t.states)).toNat) ([]:List (List UInt8))).length p144.2) (nth x0.ends ((IntKind.i64.wrap (Int.tdiv ((k132:Nat):Int) x0.t.states)).toNat) ([]:List (List UInt8))):=hk144
   have hk144b:=hk144.rv.big
   refine TA.b 8 z (OpVal.of (loadSeg0 z ag30 z hg144 z) (v':= .slice p144.1 ((nth x0.ends ((IntKind.i64.wrap (Int.tdiv ((k132:Nat):Int) x0.t.states)).toNat) ([]:List (List UInt8))).length) p144.2) z) z (TA.b 9 z (lenC z underlying30 z) z (TA.a 10 z (OpVal.gtr z z z) z (TA.a 11 z (moveB (.inl z) z) z (TA.split 37 z (fun h145=> ?_) (fun h145=> ?_)))))
   ·replace hh:=iteO_t h145 hh
    replace h145:=of_decide_eq_true h145
    refine TA.on 12 z z z z (moveLoc (.inl z) z) z (TA.on 13 z z z z (nilCheckLoc z z) z (TA.on 14 z z z z (fieldLoc z fo165_2 z) z (TA.on 15 z z z z (loadLoc z ag28 z (i:=0) z z) z (TA.on 16 z z z z (moveI (.inl z) z) z (TA.on 17 z z z z (moveI (.inl z) z) z ?_)))))
    have u38:=grd_c hh
    replace hh:=grd_t hh
    refine TA.on 18 z z z z (remW z z z u38) z ?_
    have u39:=grd_c hh
    replace hh:=grd_t hh
    refine TA.on 19 z z z z (OpVal.index z underlying28 sz30 z z f0_15.isSl u39.1 u39.2) z ?_
    obtain ⟨p146,hk146,hg146⟩:=RZ.seg f0_15 ((Int.tmod ((k132:Nat):Int) x0.t.states).toNat) (by omega)
    replace hk146:RS _ 1 eS_ (.slice p146.1 (nth x0.ends ((Int.tmod ((k132:Nat):Int) x0.t.states).toNat) ([]:List (List UInt8))).length p146.2) (nth x0.ends ((Int.tmod ((k132:Nat):Int) x0.t.states).toNat) ([]:List (List UInt8))):=hk146
    have hk146b:=hk146.rv.big
    refine TA.on 20 z z z z (OpVal.of (loadSeg0 z ag30 z hg146 z) (v':= .slice p146.1 ((nth x0.ends ((Int.tmod ((k132:Nat):Int) x0.t.states).toNat) ([]:List (List UInt8))).length) p146.2) z) z (TA.on 21 z z z z (lenC z underlying30 z) z (TA.on 22 z z z z (OpVal.gtr z z z) z (TA.a 23 z (pickTB z z z) z (TA.dn (S.n (TC.cD z hh (fun h147 hh=> ?_) (fun h147 hh=> ?_)))))))
    ·refine TC.a (TL.l z z (TL.w z (nilCheckLoc z z) (TL.w z (fieldLoc z fo165_3 z) (TL.w z (loadLoc z ag162 z (i:=0) z z) (TL.i z z (TL.w z (buildL z pl227 ze227 z) ?_))))))
     have u50:=grd_c hh
     replace hh:=grd_t hh
     refine TL.isSl (i:=1) z (fun hs148 _ _=> ?_)
     refine TL.w z (indexN z underlying162 sz227 z z hs148 (by omega)) (TL.front 1 z z ?_)
     have hn149:(l126.set k132 (⟨true,true,0,0,(0:UInt8)⟩:Hop)).length=x0.hops.length:=by rw [List.length_set];exact hn127
     refine TL.op z (storeS (⟨true,true,0,0,(0:UInt8)⟩:Hop) z sz227 z z z z encHop_len encHop_one (by omega) (by omega) ?_)
     refine TL.en (TC.region (TL.s z z (TL.i z z (TL.op z (OpOk.lit (enc:=eI_) [((k132:Nat):Int)] z underlying86 sz3 ze3 z z z eIl_ (by decide) (by decide) (0:Int) z (by decide) z (by decide) eIo_ (fun a150 c151=> ?_))))))
     refine TL.front 5 z z ?_
     have u55:=grd_c hh
     replace hh:=grd_t hh
     refine TL.op z (appendS z z underlying86 sz3 by3 ze3 z z (by decide) z z z (.inr ⟨_,0,z⟩) (by simpa using u55) (by decide) (fun a153 c154=> ?_))
     exact TL.s z z (TL.nil (B.n (S.n (cf (((l126.set k132 (⟨true,true,0,0,(0:UInt8)⟩:Hop)),(l129++[((k132:Nat):Int)])),(a153,c154)) ⟨hh,hn149⟩ (Sub.f [5,5,4,5] 5)))))
    exact TC.skip (B.n (S.n (cf ((l126,l129),(a130,c131)) ⟨hh,hn127⟩ (Sub.f [4,4,4,4,4] 5))))
   replace hh:=iteO_f h145 hh
   replace h145:=of_decide_eq_false h145
   refine TA.off 12 z z z z z z (TA.off 13 z z z z z z (TA.off 14 z z z z z z (TA.off 15 z z z z z z (TA.off 16 z z z z z z (TA.off 17 z z z z z z (TA.off 18 z z z z z z (TA.off 19 z z z z z z (TA.off 20 z z z z z z (TA.off 21 z z z z z z (TA.off 22 z z z z z z (TA.a 23 z (pickFB z z z) z (TA.dn (S.n (TC.f z (TC.skip ?_)))))))))))))))
   exact B.n (S.n (cf ((l126,l129),(a130,c131)) ⟨hh,hn127⟩ (Sub.f [4,4,4,4,4] 5)))
  skip
  obtain ⟨⟨l139,l141⟩,⟨a142,c143⟩⟩:=g
  obtain ⟨hh,hn140⟩:=hg
  try dsimp only at hn140 ⊢
  dsimp only [Bu_]at hh
  have hn140b:=hn140
  refine TC.isSl (i:=1) z (fun _ hb155 _=> ?_)
  refine TC.isSl (i:=2) z (fun _ hb156 _=> ?_)
  refine TC.isSl (i:=3) z (fun _ hb157 _=> ?_)
  refine TC.isSl (i:=4) z (fun _ hb158 _=> ?_)
  refine TC.region (TL.w z (OpVal.succ z z z (by omega)) (TL.i z z (TL.en ?_)))
  obtain ⟨hh,hlt159⟩:=nxt_x hR1 hh
  exact lf ((l139,l141,(k132+1)),(a142,c143)) hlt159 ⟨hh,hn140⟩ (Sub.f [4,4,4,4,4] 5)
 refine TC.exit (S.x (S.x ?_))
 replace hh:=fin_x hR1 hh
 refine TC.exitHere (S.n (TC.block (TC.front 4 z z (TC.toQue (TC.loopG (α:=((List Hop)×(List Int))×((Option Addr)×Nat)) (rgs [(4,1),(6,1),(8,3),(62,70)]) (fun g=>[(4,.slice g.2.1 g.1.2.length g.2.2)]) (fun g=>[Res.cells b0_0 #[.int .i64 x0.t.states,.slice a0_1 x0.t.starts.length c0_2,.slice a0_4 x0.t.ends.length c0_5,.slice a0_7 x0.t.arcs.length c0_8,.slice a0_10 x0.arcs.length c0_11,.slice a0_13 x0.ends.length c0_14,.slice a0_16 x0.hops.length c0_17,.slice a0_18 x0.row.length c0_19,.slice a0_20 x0.place.length c0_21,.string (bs x0.text),.bool x0.found] Eb0,Res.rowS 227 5 encHop (.slice a0_16 x0.hops.length c0_17) g.1.1,Res.rowS 207 6 encFBox (.slice a0_18 x0.row.length c0_19) x0.row,Res.rowS 3 1 eI_ (.slice a0_20 x0.place.length c0_21) x0.place,Res.queS 3 1 eI_ (.slice g.2.1 g.1.2.length g.2.2) g.1.2]) (fun g=>τ111) (fun g=>iter (fun q:(List Hop)×(List Int)=>Ao_ v2 x0 q.1 q.2) g.1=some r∧g.1.1.length=x0.hops.length) (fun g=>rounds (fun q:(List Hop)×(List Int)=>Ao_ v2 x0 q.1 q.2) g.1) ((l126,l129),(a130,c131)) (Sub.f [4,4,4,4] 5) z (by repeat (first|exact trivial|refine ⟨z,?_⟩)) ⟨hh,hn127⟩ (fun g2 j2 hg2=> ?_))))))
 obtain ⟨⟨l171,l173⟩,⟨a174,c175⟩⟩:=g2
 obtain ⟨hh,hn172⟩:=hg2
 try dsimp only at hn172 ⊢
 obtain ⟨z1,hh,hR1⟩:=iter_e hh
 dsimp only [Ao_]at hh
 have hn172b:=hn172
 refine TC.isSl (i:=1) z (fun _ hb176 _=> ?_)
 refine TC.isSl (i:=2) z (fun _ hb177 _=> ?_)
 refine TC.isSl (i:=3) z (fun _ hb178 _=> ?_)
 refine TC.seq (TC.a (TL.s z z (TL.w z (lenC z underlying86 z) (TL.w z (OpVal.gtr z z z) (TL.en (TC.cD z hh (fun h179 hh=> ?_) (fun h179 hh=> ?_)))))))
 ·refine TC.skip (S.n (TC.block (TC.a (TL.s z z (TL.know (isSl_que (q:=4) z) (fun ⟨hs180,hs180b⟩=> ?_))))))
  refine TL.w z (indexN (i:=0) z underlying86 sz3 z z hs180 (by omega)) (TL.w z (loadQ1 (0:Int) z ag3 z (q:=4) z eIl_ (by omega) z) (TL.i z z (TL.en (TC.a (TL.s z z (TL.front 4 z z ?_))))))
  have u67:=grd_c hh
  replace hh:=grd_t hh
  refine TL.op z (popQ (i:=1) z underlying86 sz3 z z z z (by omega) (by omega) (fun a181 c182=> ?_))
  refine TL.s z z (TL.en (TC.a (TL.s z z (TL.i z z ?_))))
  have u71:=grd_c hh
  replace hh:=grd_t hh
  refine TL.w z (OpVal.index z underlying224 sz228 z z hr111_3.isSl u71.1 u71.2) ?_
  obtain ⟨p183,hk183,hg183⟩:=RZ.seg hr111_3 ((nth l173 0 (0:Int)).toNat) (by omega)
  replace hk183:RS _ 3 encFBack (.slice p183.1 (nth v2 ((nth l173 0 (0:Int)).toNat) ([]:List FBack)).length p183.2) (nth v2 ((nth l173 0 (0:Int)).toNat) ([]:List FBack)):=hk183
  have hk183b:=hk183.rv.big
  refine TL.w z (OpVal.of (loadSeg0 z ag228 z hg183 z) (v':= .slice p183.1 ((nth v2 ((nth l173 0 (0:Int)).toNat) ([]:List FBack)).length) p183.2) z) (TL.w z (lenC z underlying228 z) (TL.i z z (TL.en (TC.block (TC.loopG (α:=((List Hop)×(List Int)×Nat)×((Option Addr)×Nat)) (rgs [(4,1),(8,3),(75,57)]) (fun g=>[(4,.slice g.2.1 g.1.2.1.length g.2.2),(75,.int .i64 ((g.1.2.2:Nat):Int))]) (fun g=>[Res.cells b0_0 #[.int .i64 x0.t.states,.slice a0_1 x0.t.starts.length c0_2,.slice a0_4 x0.t.ends.length c0_5,.slice a0_7 x0.t.arcs.length c0_8,.slice a0_10 x0.arcs.length c0_11,.slice a0_13 x0.ends.length c0_14,.slice a0_16 x0.hops.length c0_17,.slice a0_18 x0.row.length c0_19,.slice a0_20 x0.place.length c0_21,.string (bs x0.text),.bool x0.found] Eb0,Res.rowS 227 5 encHop (.slice a0_16 x0.hops.length c0_17) g.1.1,Res.rowS 207 6 encFBox (.slice a0_18 x0.row.length c0_19) x0.row,Res.rowS 3 1 eI_ (.slice a0_20 x0.place.length c0_21) x0.place,Res.queS 3 1 eI_ (.slice g.2.1 g.1.2.1.length g.2.2) g.1.2.1]) (fun g=>τ111) (fun g=>iter (fun q:(List Hop)×(List Int)×Nat=>Ac_ v2 l173 x0 q.1 q.2.1 q.2.2) g.1=some z1∧g.1.1.length=x0.hops.length) (fun g=>rounds (fun q:(List Hop)×(List Int)×Nat=>Ac_ v2 l173 x0 q.1 q.2.1 q.2.2) g.1) ((l171,(l173.drop 1),0),(a181,c182)) (Sub.f [4,4,4,4] 5) z (by repeat (first|exact trivial|refine ⟨z,?_⟩)) ⟨hh,hn172⟩ (fun g3 j3 hg3=> ?_))))))
  obtain ⟨⟨l197,l199,k202⟩,⟨a200,c201⟩⟩:=g3
  obtain ⟨hh,hn198⟩:=hg3
  try dsimp only at hn198 ⊢
  obtain ⟨z2,hh,hR2⟩:=iter_e hh
  dsimp only [Ac_]at hh
  have hn198b:=hn198
  refine TC.isSl (i:=1) z (fun _ hb203 _=> ?_)
  refine TC.isSl (i:=2) z (fun _ hb204 _=> ?_)
  refine TC.isSl (i:=3) z (fun _ hb205 _=> ?_)
  refine TC.a (TL.w z (OpVal.lss z z z) (TL.en (TC.seq (TC.cD z hh (fun h206 hh=> ?_) (fun h206 hh=> ?_)))))
  ·refine TC.skip (S.n (TC.cutG (α:=((List Hop)×(List Int))×((Option Addr)×Nat)) (rgs [(4,1),(8,3),(77,54)]) (fun g=>[(4,.slice g.2.1 g.1.2.length g.2.2)]) (fun g=>[Res.cells b0_0 #[.int .i64 x0.t.states,.slice a0_1 x0.t.starts.length c0_2,.slice a0_4 x0.t.ends.length c0_5,.slice a0_7 x0.t.arcs.length c0_8,.slice a0_10 x0.arcs.length c0_11,.slice a0_13 x0.ends.length c0_14,.slice a0_16 x0.hops.length c0_17,.slice a0_18 x0.row.length c0_19,.slice a0_20 x0.place.length c0_21,.string (bs x0.text),.bool x0.found] Eb0,Res.rowS 227 5 encHop (.slice a0_16 x0.hops.length c0_17) g.1.1,Res.rowS 207 6 encFBox (.slice a0_18 x0.row.length c0_19) x0.row,Res.rowS 3 1 eI_ (.slice a0_20 x0.place.length c0_21) x0.place,Res.queS 3 1 eI_ (.slice g.2.1 g.1.2.length g.2.2) g.1.2]) (fun g=>τ111) (fun g=>C1_ k202 g.1.1 g.1.2=some z2∧g.1.1.length=x0.hops.length) ?_ (fun g j hg=> ?_)))
   ·skip
    refine TC.block (TC.a (TL.w z (indexN z underlying228 sz230 z z hk183.rv.sl (by omega)) (TL.w z (loadSA FBack.zero z ag230 sz230 z hk183 (by omega) (by omega)) (TL.op z (OpOk.alloc z ze230 z z (fun b212=> ?_))))))
    refine TL.op z (storeAll z sz230 z z z z z z ?_)
    refine TL.en (TC.seq (TC.seq ?_))
    have u86:=grd_c hh
    replace hh:=grd_t hh
    refine TC.draw [] (by kernel_rfl) (TA.a 0 z (moveLoc (.inl z) z) z (TA.a 1 z (nilCheckLoc z z) z (TA.a 2 z (fieldLoc z fo165_3 z) z (TA.b 3 z (loadLoc z ag162 z (i:=1) z z) z (TA.a 4 z (fieldLoc z fo230_0 z) z (TA.b 5 z (loadLoc z ag3 z (i:=0) z z) z (TA.isSl (i:=2) z (fun hs216 _ _=> ?_))))))))
    refine TA.b 6 z (OpVal.index z underlying162 sz227 z z hs216 u86.1 u86.2) z (TA.isSl (i:=2) z (fun hs217 _ _=> ?_))
    refine TA.a 7 z (fieldElem z fo227_0 z hs217 (by omega)) z (TA.b 8 z (loadO Hop.zero z ag4 z (q:=2) z encHop_len (by omega) (by omega) z) z (TA.dn (S.n (TC.cB z hh (fun h218 hh=> ?_) (fun h218 hh=> ?_)))))
    ·exact TC.exit (S.x (TC.exitHere (S.n (cf ((l197,l199),(a200,c201)) ⟨hh,hn198⟩ (Sub.f [5,5,5,5,5] 5)))))
    refine TC.skip (S.n (TC.seq ?_))
    have u96:=grd_c hh
    replace hh:=grd_t hh
    have u106:=grd_c hh
    replace hh:=grd_t hh
    obtain ⟨v109,u109,hh⟩:=bnd_e hh
    obtain ⟨v110,u110,hh⟩:=bnd_e hh
    refine TC.draw [] (by kernel_rfl) (TA.a 0 z (moveLoc (.inl z) z) z (TA.a 1 z (nilCheckLoc z z) z (TA.a 2 z (fieldLoc z fo165_0 z) z (TA.a 3 z (fieldLoc z fo25_3 z) z (TA.b 4 z (loadLoc z ag23 z (i:=1) z z) z (TA.a 5 z (fieldLoc z fo230_1 z) z (TA.b 6 z (loadLoc z ag3 z (i:=0) z z) z (TA.b 7 z (OpVal.index z underlying23 sz66 z z f0_9.rv.sl u96.1 u96.2) z (TA.a 8 z (fieldElem z fo66_2 z f0_9.rv.sl (by omega)) z (TA.b 9 z (loadSub Arc.zero z ag64 sz64 z f0_9 (by omega) (by omega) (by omega) z z) z (TA.a 10 z (moveLoc (.inl z) z) z (TA.a 11 z (nilCheckLoc z z) z (TA.a 12 z (fieldLoc z fo165_0 z) z (TA.a 13 z (fieldLoc z fo25_3 z) z (TA.b 14 z (loadLoc z ag23 z (i:=1) z z) z ?_)))))))))))))))
    refine TA.a 15 z (fieldLoc z fo230_2 z) z (TA.b 16 z (loadLoc z ag3 z (i:=0) z z) z (TA.b 17 z (OpVal.index z underlying23 sz66 z z f0_9.rv.sl u106.1 u106.2) z (TA.a 18 z (fieldElem z fo66_2 z f0_9.rv.sl (by omega)) z (TA.b 19 z (loadSub Arc.zero z ag64 sz64 z f0_9 (by omega) (by omega) (by omega) z z) z (TA.ac 20 z (callP (E6_ u109) z z pf171 z z z (k0 ?_)))))))
    refine TA.ac 21 z (callP (Fu_ hgl u110) z z pf170 z z z (k0 ?_))
    refine TA.a 22 z (moveT (.inl z) z) z (TA.a 23 z (OpVal.extract z z z) z (TA.a 24 z (OpVal.extract z z z) z (TA.a 25 z (moveI (.inr z) z) z (TA.a 26 z (moveB (.inr z) z) z (TA.dn (S.n (TC.seq ?_)))))))
    have u128:=grd_c hh
    replace hh:=grd_t hh
    refine TC.draw [13] (by kernel_rfl) (TA.a 0 z (moveLoc (.inl z) z) z (TA.a 1 z (nilCheckLoc z z) z (TA.a 2 z (fieldLoc z fo165_3 z) z (TA.b 3 z (loadLoc z ag162 z (i:=1) z z) z (TA.a 4 z (fieldLoc z fo230_0 z) z (TA.b 5 z (loadLoc z ag3 z (i:=0) z z) z (TA.a 6 z (fieldLoc z fo230_1 z) z (TA.b 7 z (loadLoc z ag3 z (i:=0) z z) z (TA.a 8 z (fieldLoc z fo230_2 z) z (TA.b 9 z (loadLoc z ag3 z (i:=0) z z) z (TA.a 10 z (moveI (.inl z) z) z (TA.a 11 z (buildL z pl227 ze227 z) z (TA.isSl (i:=2) z (fun hs221 _ _=> ?_))))))))))))))
    refine TA.b 12 z (OpVal.index z underlying162 sz227 z z hs221 u128.1 u128.2) z (TA.front 2 z z ?_)
    have hn222:(l197.set (((nth (nth v2 ((nth l173 0 (0:Int)).toNat) ([]:List FBack)) k202 FBack.zero).frm).toNat) (⟨true,false,(nth (nth v2 ((nth l173 0 (0:Int)).toNat) ([]:List FBack)) k202 FBack.zero).x,(nth (nth v2 ((nth l173 0 (0:Int)).toNat) ([]:List FBack)) k202 FBack.zero).y,v110.1⟩:Hop)).length=x0.hops.length:=by rw [List.length_set];exact hn198
    refine TA.last 13 (by kernel_rfl) z z z (storeS (⟨true,false,(nth (nth v2 ((nth l173 0 (0:Int)).toNat) ([]:List FBack)) k202 FBack.zero).x,(nth (nth v2 ((nth l173 0 (0:Int)).toNat) ([]:List FBack)) k202 FBack.zero).y,v110.1⟩:Hop) z sz227 z z z z encHop_len encHop_one (by omega) (by omega) ?_)
    refine TZ.done (by kernel_rfl) (S.n (TC.region (TL.s z z (TL.w z (fieldLoc z fo230_0 z) (TL.w z (loadLoc z ag3 z (i:=1) z z) (TL.op z (OpOk.lit (enc:=eI_) [(nth (nth v2 ((nth l173 0 (0:Int)).toNat) ([]:List FBack)) k202 FBack.zero).frm] z underlying86 sz3 ze3 z z z eIl_ (by decide) (by decide) (0:Int) z (by decide) z (by decide) eIo_ (fun a223 c224=> ?_))))))))
    refine TL.front 6 z z ?_
    have u134:=grd_c hh
    replace hh:=grd_t hh
    refine TL.op z (appendQ z z underlying86 sz3 by3 ze3 z z (by decide) z eIl_ z z (.inr ⟨_,0,z⟩) (by simpa using u134) (by decide) (by simp) (fun a226 c227=> ?_))
    exact TL.s z z (TL.nil (B.n (S.n (cf (((l197.set (((nth (nth v2 ((nth l173 0 (0:Int)).toNat) ([]:List FBack)) k202 FBack.zero).frm).toNat) (⟨true,false,(nth (nth v2 ((nth l173 0 (0:Int)).toNat) ([]:List FBack)) k202 FBack.zero).x,(nth (nth v2 ((nth l173 0 (0:Int)).toNat) ([]:List FBack)) k202 FBack.zero).y,v110.1⟩:Hop)),(l199++[(nth (nth v2 ((nth l173 0 (0:Int)).toNat) ([]:List FBack)) k202 FBack.zero).frm])),(a226,c227)) ⟨hh,hn222⟩ (Sub.f [6,6,4,6] 5)))))
   skip
   obtain ⟨⟨l207,l209⟩,⟨a210,c211⟩⟩:=g
   obtain ⟨hh,hn208⟩:=hg
   try dsimp only at hn208 ⊢
   dsimp only [C1_]at hh
   have hn208b:=hn208
   refine TC.isSl (i:=1) z (fun _ hb228 _=> ?_)
   refine TC.isSl (i:=2) z (fun _ hb229 _=> ?_)
   refine TC.isSl (i:=3) z (fun _ hb230 _=> ?_)
   refine TC.region (TL.w z (OpVal.succ z z z (by omega)) (TL.i z z (TL.en ?_)))
   obtain ⟨hh,hlt231⟩:=nxt_x hR2 hh
   exact lf ((l207,l209,(k202+1)),(a210,c211)) hlt231 ⟨hh,hn208⟩ (Sub.f [4,4,4,4,4] 5)
  refine TC.exit (S.x (S.x ?_))
  replace hh:=fin_x hR2 hh
  refine TC.exitHere (B.n (S.n ?_))
  obtain ⟨hh,hlt232⟩:=nxt_x hR1 hh
  exact lf ((l197,l199),(a200,c201)) hlt232 ⟨hh,hn198⟩ (Sub.f [4,4,4,4,4] 5)
 refine TC.exit (S.x (S.x ?_))
 replace hh:=fin_x hR1 hh
 refine TC.exitHere ?_
 rw [←hn172]
 obtain rfl:=so hh
 refine ⟨_,Sub.f [3,3,3,3] 4,?_⟩
 exact RetOk.mk' (rs:=[]) [Res.cells b0_0 #[.int .i64 x0.t.states,.slice a0_1 x0.t.starts.length c0_2,.slice a0_4 x0.t.ends.length c0_5,.slice a0_7 x0.t.arcs.length c0_8,.slice a0_10 x0.arcs.length c0_11,.slice a0_13 x0.ends.length c0_14,.slice a0_16 l171.length c0_17,.slice a0_18 x0.row.length c0_19,.slice a0_20 x0.place.length c0_21,.string (bs x0.text),.bool x0.found] Eb0,Res.rowS 227 5 encHop (.slice a0_16 l171.length c0_17) l171,Res.rowS 207 6 encFBox (.slice a0_18 x0.row.length c0_19) x0.row,Res.rowS 3 1 eI_ (.slice a0_20 x0.place.length c0_21) x0.place] z (.inr z) RVs.nil (List.sublist_append_left _ _) ⟨a0_16,c0_17,z,z⟩
def Dl_(x0:Arc)(x1:UInt8):Option ((List UInt8)):=
 iteO x0.copy (grd (x0.out.length+[x1].length≤9223372036854775807) (some (x0.out++[x1]))) (some x0.out)
theorem D8_{x0:Arc}{x1:UInt8}{r:(List UInt8)}(hh:Dl_ x0 x1=some r):
  Con Tryz.prog 202 #[.agg #[.int .i64 x0.frm,.int .i64 x0.to,.int .u64 ((x0.set.a:Nat):Int),.int .u64 ((x0.set.b:Nat):Int),.int .u64 ((x0.set.c:Nat):Int),.int .u64 ((x0.set.d:Nat):Int),.string (bs x0.out),.bool x0.copy],.int .u8 ((x1.toNat:Nat):Int)] σ [] (PureP (.string (bs r)) σ):=by
 dsimp only [Dl_]at hh
 refine Con.mk (n:=15) Tryz.func202 z z z (fun w0=> ?_)
 refine TC.a (TL.op z (boxA z z z z (fun b101=> ?_)))
 refine TL.w z (moveStr (.inr z) z) (TL.en (TC.seq (TC.a (TL.w z (fieldLoc z fo66_4 z) (TL.w z (loadLoc z ag4 z (i:=0) z z) (TL.en (TC.cB z hh (fun h103 hh=> ?_) (fun h103 hh=> ?_))))))))
 ·refine TC.a (TL.w z (fieldLoc z fo66_3 z) (TL.w z (loadLoc z ag9 z (i:=0) z z) (TL.i z z (TL.op z (OpOk.lit (enc:=encU8) [x1] z underlying60 sz5 ze5 z z z encU8_len (by decide) (by decide) (0:UInt8) z (by decide) z (by decide) encU8_one (fun a104 c105=> ?_))))))
  refine TL.isSl (i:=0) z (fun hs107 _ _=> ?_)
  refine TL.w z (bytesStr (l:=[x1]) z underlying60 underlying5 underlying9 z hs107 (fun w hw=>rdb_row (q:=0) z hw)) ?_
  have u10:=grd_c hh
  replace hh:=grd_t hh
  refine TL.w z (catBs z z z u10) (TL.w z (moveStr (.inr z) z) (TL.en (TC.rt 0 (S.r ?_))))
  obtain rfl:=so hh
  exact rq [4] ⟨z,z,z⟩
 refine TC.skip (S.n (TC.a (TL.w z (fieldLoc z fo66_3 z) (TL.w z (loadLoc z ag9 z (i:=0) z z) (TL.w z (moveStr (.inr z) z) (TL.en (TC.rt 0 ?_)))))))
 obtain rfl:=so hh
 exact rq [4] ⟨z,z,z⟩
def C8_(l160:List UInt8)(x171:Hop)(x0:Search)(l164:List UInt8)(l168:List UInt8):Option ((FPr×(List UInt8)×(List UInt8)×(List UInt8)×Hop)⊕((List UInt8)×(List UInt8)×(List UInt8))):=
 grd ((l160.length+[x171.by'].length) * 1≤140737488355328) (bnd (Dl_ (nth x0.t.arcs x171.x.toNat Arc.zero) x171.by') (fun v54=>grd (l164.length+v54.length≤140737488355328) (bnd (Dl_ (nth x0.t.arcs x171.y.toNat Arc.zero) x171.by') (fun v61=>grd (l168.length+v61.length≤140737488355328) (bnd (Bd_ x0 (⟨(nth x0.t.arcs x171.x.toNat Arc.zero).to,(nth x0.t.arcs x171.y.toNat Arc.zero).to⟩:FPr)) (fun v76=>grd (0≤v76∧v76<(x0.hops.length:Int)) (nxt ((⟨(nth x0.t.arcs x171.x.toNat Arc.zero).to,(nth x0.t.arcs x171.y.toNat Arc.zero).to⟩:FPr),(l160++[x171.by']),(l164++v54),(l168++v61),(nth x0.hops v76.toNat Hop.zero)))))))))
def Aq_(x0:Search)(x158:FPr)(l160:List UInt8)(l164:List UInt8)(l168:List UInt8)(x171:Hop):Option ((FPr×(List UInt8)×(List UInt8)×(List UInt8)×Hop)⊕((List UInt8)×(List UInt8)×(List UInt8))):=
 iteO (!x171.last) (grd (0≤x171.x∧x171.x<(x0.t.arcs.length:Int)) (grd (0≤x171.y∧x171.y<(x0.t.arcs.length:Int)) (C8_ l160 x171 x0 l164 l168))) (fin (grd (0≤x158.p∧x158.p<(x0.ends.length:Int)) (grd (0<(nth x0.ends x158.p.toNat ([]:List (List UInt8))).length) (grd (l164.length+(nth (nth x0.ends x158.p.toNat ([]:List (List UInt8))) 0 ([]:List UInt8)).length≤9223372036854775807) (grd (0≤x158.q∧x158.q<(x0.ends.length:Int)) (grd (0<(nth x0.ends x158.q.toNat ([]:List (List UInt8))).length) (grd (l168.length+(nth (nth x0.ends x158.q.toNat ([]:List (List UInt8))) 0 ([]:List UInt8)).length≤9223372036854775807) (some (l160,(l164++(nth (nth x0.ends x158.p.toNat ([]:List (List UInt8))) 0 ([]:List UInt8))),(l168++(nth (nth x0.ends x158.q.toNat ([]:List (List UInt8))) 0 ([]:List UInt8))))))))))))
def C5_(x0:Search)(x1:FPr)(x114:Hop):Option ((List UInt8)×(List UInt8)×(List UInt8)):=
 iter (fun q:FPr×(List UInt8)×(List UInt8)×(List UInt8)×Hop=>Aq_ x0 q.1 q.2.1 q.2.2.1 q.2.2.2.1 q.2.2.2.2) (x1,([]:List UInt8),([]:List UInt8),([]:List UInt8),x114)
def Cd_(x0:Search)(x1:FPr):Option ((List UInt8)×(List UInt8)×(List UInt8)):=
 bnd (Bd_ x0 x1) (fun v14=>grd (0≤v14∧v14<(x0.hops.length:Int)) (C5_ x0 x1 (nth x0.hops v14.toNat Hop.zero)))
theorem Em_{x0:Search}{x1:FPr}(f0_3:RS σ 2 encTip (.slice a0_1 x0.t.starts.length c0_2) x0.t.starts)(f0_6:RS σ 2 encTip (.slice a0_4 x0.t.ends.length c0_5) x0.t.ends)(f0_9:RS σ 8 encArc (.slice a0_7 x0.t.arcs.length c0_8) x0.t.arcs)(f0_12:RZ σ (pkSl 1 eI_ eIl_) (.slice a0_10 x0.arcs.length c0_11) x0.arcs)(f0_15:RZ σ (pkSl 1 eS_ eSl_) (.slice a0_13 x0.ends.length c0_14) x0.ends){r:(List UInt8)×(List UInt8)×(List UInt8)}(hh:Cd_ x0 x1=some r):
  Con Tryz.prog 173 #[loc b0_0 0,.agg #[.int .i64 x1.p,.int .i64 x1.q]] σ [Res.cells b0_0 #[.int .i64 x0.t.states,.slice a0_1 x0.t.starts.length c0_2,.slice a0_4 x0.t.ends.length c0_5,.slice a0_7 x0.t.arcs.length c0_8,.slice a0_10 x0.arcs.length c0_11,.slice a0_13 x0.ends.length c0_14,.slice a0_16 x0.hops.length c0_17,.slice a0_18 x0.row.length c0_19,.slice a0_20 x0.place.length c0_21,.string (bs x0.text),.bool x0.found] Eb0,Res.rowS 227 5 encHop (.slice a0_16 x0.hops.length c0_17) x0.hops,Res.rowS 207 6 encFBox (.slice a0_18 x0.row.length c0_19) x0.row,Res.rowS 3 1 eI_ (.slice a0_20 x0.place.length c0_21) x0.place] (fun v σ' H'=>v= .tuple #[.string (bs r.1),.string (bs r.2.1),.string (bs r.2.2)]∧σ=σ'∧H'=[Res.cells b0_0 #[.int .i64 x0.t.states,.slice a0_1 x0.t.starts.length c0_2,.slice a0_4 x0.t.ends.length c0_5,.slice a0_7 x0.t.arcs.length c0_8,.slice a0_10 x0.arcs.length c0_11,.slice a0_13 x0.ends.length c0_14,.slice a0_16 x0.hops.length c0_17,.slice a0_18 x0.row.length c0_19,.slice a0_20 x0.place.length c0_21,.string (bs x0.text),.bool x0.found] Eb0,Res.rowS 227 5 encHop (.slice a0_16 x0.hops.length c0_17) x0.hops,Res.rowS 207 6 encFBox (.slice a0_18 x0.row.length c0_19) x0.row,Res.rowS 3 1 eI_ (.slice a0_20 x0.place.length c0_21) x0.place]):=by
 dsimp only [Cd_]at hh
 have f0_3b:=f0_3.rv.big
 have f0_6b:=f0_6.rv.big
 have f0_9b:=f0_9.rv.big
 have f0_12b:=f0_12.big
 have f0_15b:=f0_15.big
 refine Con.mk (n:=102) Tryz.func173 z z z (fun w0=> ?_)
 refine TC.a (TL.op z (boxA z z z z (fun b110=> ?_)))
 refine TL.w z (moveStr (.inr z) z) (TL.w z (moveStr (.inr z) z) (TL.w z (moveStr (.inr z) z) (TL.en (TC.a (TL.s z z (TL.en (TC.a (TL.s z z (TL.s z z (TL.en (TC.cutG (α:=(Hop)×(Nat)) (rgs [(10,1),(13,9)]) (fun g=>[(10,loc g.2 0)]) (fun g=>[Res.cells b0_0 #[.int .i64 x0.t.states,.slice a0_1 x0.t.starts.length c0_2,.slice a0_4 x0.t.ends.length c0_5,.slice a0_7 x0.t.arcs.length c0_8,.slice a0_10 x0.arcs.length c0_11,.slice a0_13 x0.ends.length c0_14,.slice a0_16 x0.hops.length c0_17,.slice a0_18 x0.row.length c0_19,.slice a0_20 x0.place.length c0_21,.string (bs x0.text),.bool x0.found] Eb0,Res.rowS 227 5 encHop (.slice a0_16 x0.hops.length c0_17) x0.hops,Res.rowS 207 6 encFBox (.slice a0_18 x0.row.length c0_19) x0.row,Res.rowS 3 1 eI_ (.slice a0_20 x0.place.length c0_21) x0.place,Res.cells b110 #[.int .i64 x1.p,.int .i64 x1.q] 202,Res.cells g.2 #[.bool g.1.live,.bool g.1.last,.int .i64 g.1.x,.int .i64 g.1.y,.int .u8 ((g.1.by'.toNat:Nat):Int)] 227]) (fun g=>σ) (fun g=>C5_ x0 x1 g.1=some r) ?_ (fun g j hg=> ?_))))))))))))
 ·skip
  obtain ⟨v14,u14,hh⟩:=bnd_e hh
  have u15:=grd_c hh
  replace hh:=grd_t hh
  refine TC.draw [10] (by kernel_rfl) (TA.a 0 z (moveLoc (.inl z) z) z (TA.a 1 z (nilCheckLoc z z) z (TA.a 2 z (fieldLoc z fo165_3 z) z (TA.b 3 z (loadLoc z ag162 z (i:=1) z z) z (TA.a 4 z (moveLoc (.inl z) z) z (TA.b 5 z (loadAll z ag202 sz202 z (i:=0) z z) z (TA.actN [6,9] (by kernel_rfl) (an z z (OpOk.front 4 z z (OpOk.front 4 z z (OpOk.front 4 z z (OpOk.front 4 z z (OpOk.call (Bx_ (x0:=x0) f0_3 f0_6 f0_9 f0_12 f0_15 u14) z z pf172 z z z z ?_))))) (an z z (OpOk.alloc z ze227 z z (fun b120=>(k1 ?_))) (True.intro))))))))))
  ·skip
   rintro _ _ _ hle119 ⟨rfl,rfl,rfl⟩
   refine ⟨(fun w h=>sees_of (Store.le.refl _) (fun r hr=>mem_pick [4,0,1,2,3] z hr) w h),?_⟩
   refine TA.isSl (i:=1) z (fun hs122 _ _=> ?_)
   refine TA.b 7 z (OpVal.index z underlying162 sz227 z z hs122 u15.1 u15.2) z (TA.b 8 z (loadOA Hop.zero z ag227 sz227 z (q:=2) z encHop_len (by omega) (by omega)) z (TA.ac 9 z (OpOk.alloc z ze227 z z (fun b123=>⟨(fun w h=>sees_of (Store.le.refl _) (fun r hr=>mem_pick [5,1,2,3,4] z hr) w h),?_⟩))))
   refine TA.last 10 (by kernel_rfl) z z z (storeAll z sz227 z z z z z z ?_)
   exact TZ.done (by kernel_rfl) (S.n (cf ((nth x0.hops v14.toNat Hop.zero),b123) hh (Sub.f [5,5,5,5,5] 6)))
  skip
  refine TA.front 5 z z (TA.front 5 z z (TA.front 5 z z (TA.front 5 z z (TA.ac 6 z (OpOk.call (Bx_ (x0:=x0) f0_3 f0_6 f0_9 f0_12 f0_15 u14) z z pf172 z z z z ?_)))))
  rintro _ _ _ hle125 ⟨rfl,rfl,rfl⟩
  refine ⟨(fun w h=>sees_of (Store.le.refl _) (fun r hr=>mem_pick [5,0,1,2,3] z hr) w h),?_⟩
  refine TA.isSl (i:=1) z (fun hs126 _ _=> ?_)
  refine TA.b 7 z (OpVal.index z underlying162 sz227 z z hs126 u15.1 u15.2) z (TA.b 8 z (loadOA Hop.zero z ag227 sz227 z (q:=2) z encHop_len (by omega) (by omega)) z (TA.front 4 z z (TA.last 10 (by kernel_rfl) z z z (storeAll z sz227 z z z z z z ?_))))
  exact TZ.done (by kernel_rfl) (S.n (cf ((nth x0.hops v14.toNat Hop.zero),b120) hh (Sub.f [5,5,5,5,5] 6)))
 skip
 obtain ⟨x114,b113⟩:=g
 have hh:=hg;clear hg
 try dsimp only
 dsimp only [C5_]at hh
 refine TC.isSl (i:=1) z (fun _ hb127 _=> ?_)
 refine TC.isSl (i:=2) z (fun _ hb128 _=> ?_)
 refine TC.isSl (i:=3) z (fun _ hb129 _=> ?_)
 refine TC.seq (TC.block (TC.nilS 5 1 encU8 (TC.nilS 5 1 encU8 (TC.nilS 5 1 encU8 (TC.loopG (α:=(FPr×(List UInt8)×(List UInt8)×(List UInt8)×Hop)×((Option Addr)×Nat×(Option Addr)×Nat×(Option Addr)×Nat)) (rgs [(7,3),(11,2),(22,52)]) (fun g=>[(7,.slice g.2.1 g.1.2.1.length g.2.2.1),(8,.slice g.2.2.2.1 g.1.2.2.1.length g.2.2.2.2.1),(9,.slice g.2.2.2.2.2.1 g.1.2.2.2.1.length g.2.2.2.2.2.2)]) (fun g=>[Res.cells b0_0 #[.int .i64 x0.t.states,.slice a0_1 x0.t.starts.length c0_2,.slice a0_4 x0.t.ends.length c0_5,.slice a0_7 x0.t.arcs.length c0_8,.slice a0_10 x0.arcs.length c0_11,.slice a0_13 x0.ends.length c0_14,.slice a0_16 x0.hops.length c0_17,.slice a0_18 x0.row.length c0_19,.slice a0_20 x0.place.length c0_21,.string (bs x0.text),.bool x0.found] Eb0,Res.rowS 227 5 encHop (.slice a0_16 x0.hops.length c0_17) x0.hops,Res.rowS 207 6 encFBox (.slice a0_18 x0.row.length c0_19) x0.row,Res.rowS 3 1 eI_ (.slice a0_20 x0.place.length c0_21) x0.place,Res.cells b110 #[.int .i64 g.1.1.p,.int .i64 g.1.1.q] 202,Res.rowS 5 1 encU8 (.slice g.2.1 g.1.2.1.length g.2.2.1) g.1.2.1,Res.rowS 5 1 encU8 (.slice g.2.2.2.1 g.1.2.2.1.length g.2.2.2.2.1) g.1.2.2.1,Res.rowS 5 1 encU8 (.slice g.2.2.2.2.2.1 g.1.2.2.2.1.length g.2.2.2.2.2.2) g.1.2.2.2.1,Res.cells b113 #[.bool g.1.2.2.2.2.live,.bool g.1.2.2.2.2.last,.int .i64 g.1.2.2.2.2.x,.int .i64 g.1.2.2.2.2.y,.int .u8 ((g.1.2.2.2.2.by'.toNat:Nat):Int)] 227]) (fun g=>σ) (fun g=>iter (fun q:FPr×(List UInt8)×(List UInt8)×(List UInt8)×Hop=>Aq_ x0 q.1 q.2.1 q.2.2.1 q.2.2.2.1 q.2.2.2.2) g.1=some r) (fun g=>rounds (fun q:FPr×(List UInt8)×(List UInt8)×(List UInt8)×Hop=>Aq_ x0 q.1 q.2.1 q.2.2.1 q.2.2.2.1 q.2.2.2.2) g.1) ((x1,([]:List UInt8),([]:List UInt8),([]:List UInt8),x114),(none,0,none,0,none,0)) (Sub.f [8,1,2,3,8,8,8,8,8] 9) z (by repeat (first|exact trivial|refine ⟨z,?_⟩)) hh (fun g1 j1 hg1=> ?_))))))
 obtain ⟨⟨x158,l160,l164,l168,x171⟩,⟨a161,c162,a165,c166,a169,c170⟩⟩:=g1
 have hh:=hg1;clear hg1
 try dsimp only
 obtain ⟨z1,hh,hR1⟩:=iter_e hh
 dsimp only [Aq_]at hh
 refine TC.isSl (i:=1) z (fun _ hb175 _=> ?_)
 refine TC.isSl (i:=2) z (fun _ hb176 _=> ?_)
 refine TC.isSl (i:=3) z (fun _ hb177 _=> ?_)
 refine TC.isSl (i:=5) z (fun _ hb178 _=> ?_)
 refine TC.isSl (i:=6) z (fun _ hb179 _=> ?_)
 refine TC.isSl (i:=7) z (fun _ hb180 _=> ?_)
 refine TC.seq (TC.a (TL.w z (fieldLoc z fo227_1 z) (TL.w z (loadLoc z ag4 z (i:=8) z z) (TL.w z (OpVal.not z z) (TL.en (TC.cB z hh (fun h181 hh=> ?_) (fun h181 hh=> ?_)))))))
 ·refine TC.skip (S.n (TC.block (TC.cutG (α:=(Unit)×(Nat×Nat)) (rgs [(11,2),(25,18)]) (fun g=>[(11,loc g.2.1 0),(12,loc g.2.2 0)]) (fun g=>[Res.cells b0_0 #[.int .i64 x0.t.states,.slice a0_1 x0.t.starts.length c0_2,.slice a0_4 x0.t.ends.length c0_5,.slice a0_7 x0.t.arcs.length c0_8,.slice a0_10 x0.arcs.length c0_11,.slice a0_13 x0.ends.length c0_14,.slice a0_16 x0.hops.length c0_17,.slice a0_18 x0.row.length c0_19,.slice a0_20 x0.place.length c0_21,.string (bs x0.text),.bool x0.found] Eb0,Res.rowS 227 5 encHop (.slice a0_16 x0.hops.length c0_17) x0.hops,Res.rowS 207 6 encFBox (.slice a0_18 x0.row.length c0_19) x0.row,Res.rowS 3 1 eI_ (.slice a0_20 x0.place.length c0_21) x0.place,Res.cells b110 #[.int .i64 x158.p,.int .i64 x158.q] 202,Res.rowS 5 1 encU8 (.slice a161 l160.length c162) l160,Res.rowS 5 1 encU8 (.slice a165 l164.length c166) l164,Res.rowS 5 1 encU8 (.slice a169 l168.length c170) l168,Res.cells b113 #[.bool x171.live,.bool x171.last,.int .i64 x171.x,.int .i64 x171.y,.int .u8 ((x171.by'.toNat:Nat):Int)] 227,Res.cells g.2.1 #[.int .i64 ((nth x0.t.arcs x171.x.toNat Arc.zero).frm),.int .i64 ((nth x0.t.arcs x171.x.toNat Arc.zero).to),.int .u64 ((((nth x0.t.arcs x171.x.toNat Arc.zero).set).a:Nat):Int),.int .u64 ((((nth x0.t.arcs x171.x.toNat Arc.zero).set).b:Nat):Int),.int .u64 ((((nth x0.t.arcs x171.x.toNat Arc.zero).set).c:Nat):Int),.int .u64 ((((nth x0.t.arcs x171.x.toNat Arc.zero).set).d:Nat):Int),.string (bs ((nth x0.t.arcs x171.x.toNat Arc.zero).out)),.bool ((nth x0.t.arcs x171.x.toNat Arc.zero).copy)] 66,Res.cells g.2.2 #[.int .i64 ((nth x0.t.arcs x171.y.toNat Arc.zero).frm),.int .i64 ((nth x0.t.arcs x171.y.toNat Arc.zero).to),.int .u64 ((((nth x0.t.arcs x171.y.toNat Arc.zero).set).a:Nat):Int),.int .u64 ((((nth x0.t.arcs x171.y.toNat Arc.zero).set).b:Nat):Int),.int .u64 ((((nth x0.t.arcs x171.y.toNat Arc.zero).set).c:Nat):Int),.int .u64 ((((nth x0.t.arcs x171.y.toNat Arc.zero).set).d:Nat):Int),.string (bs ((nth x0.t.arcs x171.y.toNat Arc.zero).out)),.bool ((nth x0.t.arcs x171.y.toNat Arc.zero).copy)] 66]) (fun g=>σ) (fun g=>C8_ l160 x171 x0 l164 l168=some z1) ?_ (fun g j hg=> ?_))))
  ·skip
   have u29:=grd_c hh
   replace hh:=grd_t hh
   have u38:=grd_c hh
   replace hh:=grd_t hh
   refine TC.drawR (Hr:=[Res.cells b0_0 #[.int .i64 x0.t.states,.slice a0_1 x0.t.starts.length c0_2,.slice a0_4 x0.t.ends.length c0_5,.slice a0_7 x0.t.arcs.length c0_8,.slice a0_10 x0.arcs.length c0_11,.slice a0_13 x0.ends.length c0_14,.slice a0_16 x0.hops.length c0_17,.slice a0_18 x0.row.length c0_19,.slice a0_20 x0.place.length c0_21,.string (bs x0.text),.bool x0.found] Eb0,Res.rowS 227 5 encHop (.slice a0_16 x0.hops.length c0_17) x0.hops,Res.rowS 207 6 encFBox (.slice a0_18 x0.row.length c0_19) x0.row,Res.rowS 3 1 eI_ (.slice a0_20 x0.place.length c0_21) x0.place,Res.cells b110 #[.int .i64 x158.p,.int .i64 x158.q] 202,Res.rowS 5 1 encU8 (.slice a161 l160.length c162) l160,Res.rowS 5 1 encU8 (.slice a165 l164.length c166) l164,Res.rowS 5 1 encU8 (.slice a169 l168.length c170) l168,Res.cells b113 #[.bool x171.live,.bool x171.last,.int .i64 x171.x,.int .i64 x171.y,.int .u8 ((x171.by'.toNat:Nat):Int)] 227]) (fun r hr=>mem_pick [0,1,2,3,4,5,6,7,8] z hr) [] (by kernel_rfl) (TA.a 0 z (moveLoc (.inl z) z) z (TA.a 1 z (nilCheckLoc z z) z (TA.a 2 z (fieldLoc z fo165_0 z) z (TA.a 3 z (fieldLoc z fo25_3 z) z (TA.b 4 z (loadLoc z ag23 z (i:=0) z z) z (TA.a 5 z (fieldLoc z fo227_2 z) z (TA.b 6 z (loadLoc z ag3 z (i:=8) z z) z (TA.b 7 z (OpVal.index z underlying23 sz66 z z f0_9.rv.sl u29.1 u29.2) z (TA.b 8 z (loadSA Arc.zero z ag66 sz66 z f0_9 (by omega) (by omega)) z (TA.a 9 z (moveLoc (.inl z) z) z (TA.a 10 z (nilCheckLoc z z) z (TA.a 11 z (fieldLoc z fo165_0 z) z (TA.a 12 z (fieldLoc z fo25_3 z) z (TA.b 13 z (loadLoc z ag23 z (i:=0) z z) z (TA.a 14 z (fieldLoc z fo227_3 z) z ?_)))))))))))))))
   refine TA.b 15 z (loadLoc z ag3 z (i:=8) z z) z (TA.b 16 z (OpVal.index z underlying23 sz66 z z f0_9.rv.sl u38.1 u38.2) z (TA.b 17 z (loadSA Arc.zero z ag66 sz66 z f0_9 (by omega) (by omega)) z (TA.actN [18,19] (by kernel_rfl) (an z z (OpOk.alloc z ze66 z z (fun b190=>(k1 ?_))) (an z z (OpOk.alloc z ze66 z z (fun b192=>(k1 ?_))) (True.intro))))))
   ·skip
    refine TA.ac 19 z (OpOk.alloc z ze66 z z (fun b194=>(k2 ?_)))
    refine TA.front 1 z z (TA.ac 20 z (storeAll z sz66 z z z z z z (k2 ?_)))
    refine TA.front 1 z z (TA.ac 21 z (storeAll z sz66 z z z z z z (k2 ?_)))
    exact TA.dn (S.n (cf ((),(b190,b194)) hh (Sub.f [1,10,10,10,10,10,10,10,10,10] 11)))
   skip
   refine TA.ac 18 z (OpOk.alloc z ze66 z z (fun b196=>(k2 ?_)))
   refine TA.ac 20 z (storeAll z sz66 z z z z z z (k2 ?_))
   refine TA.front 1 z z (TA.ac 21 z (storeAll z sz66 z z z z z z (k2 ?_)))
   exact TA.dn (S.n (cf ((),(b196,b192)) hh (Sub.f [1,10,10,10,10,10,10,10,10,10] 11)))
  skip
  obtain ⟨_,⟨b183,b185⟩⟩:=g
  have hh:=hg;clear hg
  try dsimp only
  dsimp only [C8_]at hh
  refine TC.isSl (i:=1) z (fun _ hb198 _=> ?_)
  refine TC.isSl (i:=2) z (fun _ hb199 _=> ?_)
  refine TC.isSl (i:=3) z (fun _ hb200 _=> ?_)
  refine TC.isSl (i:=5) z (fun _ hb201 _=> ?_)
  refine TC.isSl (i:=6) z (fun _ hb202 _=> ?_)
  refine TC.isSl (i:=7) z (fun _ hb203 _=> ?_)
  refine TC.a (TL.s z z (TL.w z (fieldLoc z fo227_4 z) (TL.w z (loadLoc z ag5 z (i:=8) z z) (TL.op z (OpOk.lit (enc:=encU8) [x171.by'] z underlying60 sz5 ze5 z z z encU8_len (by decide) (by decide) (0:UInt8) z (by decide) z (by decide) encU8_one (fun a204 c205=> ?_))))))
  refine TL.front 6 z z ?_
  have u48:=grd_c hh
  replace hh:=grd_t hh
  refine TL.op z (appendS z z underlying60 sz5 by5 ze5 z z (by decide) z z z (.inr ⟨_,0,z⟩) (by simpa using u48) (by decide) (fun a207 c208=> ?_))
  refine TL.s z z (TL.en (TC.a (TL.s z z (TL.w z (loadAll z ag66 sz66 z (i:=10) z z) (TL.w z (fieldLoc z fo227_4 z) (TL.w z (loadLoc z ag5 z (i:=9) z z) ?_))))))
  obtain ⟨v54,u54,hh⟩:=bnd_e hh
  refine TL.op z (callP (D8_ u54) z z pf202 z z z ?_)
  refine TL.front 7 z z ?_
  have u55:=grd_c hh
  replace hh:=grd_t hh
  refine TL.op z (appendStr z underlying60 underlying9 sz5 by5 ze5 z z z z u55 (fun a209 c210=> ?_))
  refine TL.s z z (TL.en (TC.a (TL.s z z (TL.w z (loadAll z ag66 sz66 z (i:=11) z z) (TL.w z (fieldLoc z fo227_4 z) (TL.w z (loadLoc z ag5 z (i:=9) z z) ?_))))))
  obtain ⟨v61,u61,hh⟩:=bnd_e hh
  refine TL.op z (callP (D8_ u61) z z pf202 z z z ?_)
  refine TL.front 8 z z ?_
  have u62:=grd_c hh
  replace hh:=grd_t hh
  refine TL.op z (appendStr z underlying60 underlying9 sz5 by5 ze5 z z z z u62 (fun a211 c212=> ?_))
  refine TL.s z z (TL.en (TC.a (TL.w z (fieldLoc z fo66_1 z) (TL.w z (loadLoc z ag3 z (i:=10) z z) (TL.w z (fieldLoc z fo66_1 z) (TL.w z (loadLoc z ag3 z (i:=11) z z) (TL.w z (buildArrL z underlying202 sz3 ze202 z) (TL.front 8 z z (TL.op z (storeAll z sz202 z z z z z z ?_))))))))))
  refine TL.en ?_
  obtain ⟨v76,u76,hh⟩:=bnd_e hh
  have u77:=grd_c hh
  replace hh:=grd_t hh
  refine TC.draw [9] (by kernel_rfl) (TA.a 0 z (moveLoc (.inl z) z) z (TA.a 1 z (nilCheckLoc z z) z (TA.a 2 z (fieldLoc z fo165_3 z) z (TA.b 3 z (loadLoc z ag162 z (i:=5) z z) z (TA.a 4 z (moveLoc (.inl z) z) z (TA.b 5 z (loadAll z ag202 sz202 z (i:=0) z z) z (TA.front 8 z z (TA.front 8 z z (TA.front 8 z z (TA.front 8 z z (TA.ac 6 z (OpOk.call (Bx_ (x0:=x0) f0_3 f0_6 f0_9 f0_12 f0_15 u76) z z pf172 z z z z ?_))))))))))))
  rintro _ _ _ hle215 ⟨rfl,rfl,rfl⟩
  refine ⟨(fun w h=>sees_of (Store.le.refl _) (fun r hr=>mem_pick [4,5,6,7,8,0,1,2,3,9,10,11] z hr) w h),?_⟩
  refine TA.isSl (i:=1) z (fun hs216 _ _=> ?_)
  refine TA.b 7 z (OpVal.index z underlying162 sz227 z z hs216 u77.1 u77.2) z (TA.b 8 z (loadOA Hop.zero z ag227 sz227 z (q:=6) z encHop_len (by omega) (by omega)) z (TA.front 9 z z (TA.last 9 (by kernel_rfl) z z z (storeAll z sz227 z z z z z z ?_))))
  refine TZ.done (by kernel_rfl) (B.n (S.n ?_))
  obtain ⟨hh,hlt217⟩:=nxt_x hR1 hh
  exact lf (((⟨(nth x0.t.arcs x171.x.toNat Arc.zero).to,(nth x0.t.arcs x171.y.toNat Arc.zero).to⟩:FPr),(l160++[x171.by']),(l164++v54),(l168++v61),(nth x0.hops v76.toNat Hop.zero)),(a207,c208,a209,c210,a211,c212)) hlt217 hh (Sub.f [6,7,8,8,8,8,8,8] 9)
 refine TC.exit (S.x (S.x ?_))
 replace hh:=fin_x hR1 hh
 refine TC.exitHere (S.n (TC.seq ?_))
 have u90:=grd_c hh
 replace hh:=grd_t hh
 have u92:=grd_c hh
 replace hh:=grd_t hh
 have u94:=grd_c hh
 replace hh:=grd_t hh
 have u103:=grd_c hh
 replace hh:=grd_t hh
 have u105:=grd_c hh
 replace hh:=grd_t hh
 have u107:=grd_c hh
 replace hh:=grd_t hh
 refine TC.draw [] (by kernel_rfl) (TA.a 0 z (moveSl (.inl z) z) z (TA.isSl (i:=5) z (fun hs223 _ _=> ?_)))
 refine TA.b 1 z (bytesStr (l:=l160) z underlying60 underlying5 underlying9 z hs223 (fun w hw=>rdb_row (q:=5) z hw)) z (TA.a 2 z (moveSl (.inl z) z) z (TA.isSl (i:=6) z (fun hs224 _ _=> ?_)))
 refine TA.b 3 z (bytesStr (l:=l164) z underlying60 underlying5 underlying9 z hs224 (fun w hw=>rdb_row (q:=6) z hw)) z (TA.a 4 z (moveLoc (.inl z) z) z (TA.a 5 z (nilCheckLoc z z) z (TA.a 6 z (fieldLoc z fo165_2 z) z (TA.b 7 z (loadLoc z ag28 z (i:=0) z z) z (TA.b 8 z (OpVal.of (indexArrN (i:=0) z underlying202 sz3 z z (by decide)) (v':=loc b110 0) z) z (TA.b 9 z (loadLoc z ag3 z (i:=4) z z) z (TA.b 10 z (OpVal.index z underlying28 sz30 z z f0_15.isSl u90.1 u90.2) z ?_)))))))
 obtain ⟨p225,hk225,hg225⟩:=RZ.seg f0_15 x158.p.toNat (by omega)
 replace hk225:RS _ 1 eS_ (.slice p225.1 (nth x0.ends x158.p.toNat ([]:List (List UInt8))).length p225.2) (nth x0.ends x158.p.toNat ([]:List (List UInt8))):=hk225
 have hk225b:=hk225.rv.big
 refine TA.b 11 z (OpVal.of (loadSeg0 z ag30 z hg225 z) (v':= .slice p225.1 ((nth x0.ends x158.p.toNat ([]:List (List UInt8))).length) p225.2) z) z (TA.b 12 z (indexN (i:=0) z underlying30 sz9 z z hk225.rv.sl (by omega)) z (TA.b 13 z (loadS1 ([]:List UInt8) z ag9 z hk225 (by omega) z) z (TA.a 14 z (catBs z z z u94) z (TA.a 15 z (moveSl (.inl z) z) z (TA.isSl (i:=7) z (fun hs226 _ _=> ?_))))))
 refine TA.b 16 z (bytesStr (l:=l168) z underlying60 underlying5 underlying9 z hs226 (fun w hw=>rdb_row (q:=7) z hw)) z (TA.a 17 z (moveLoc (.inl z) z) z (TA.a 18 z (nilCheckLoc z z) z (TA.a 19 z (fieldLoc z fo165_2 z) z (TA.b 20 z (loadLoc z ag28 z (i:=0) z z) z (TA.b 21 z (OpVal.of (indexArrN (i:=1) z underlying202 sz3 z z (by decide)) (v':=loc b110 1) z) z (TA.b 22 z (loadLoc z ag3 z (i:=4) z z) z (TA.b 23 z (OpVal.index z underlying28 sz30 z z f0_15.isSl u103.1 u103.2) z ?_)))))))
 obtain ⟨p227,hk227,hg227⟩:=RZ.seg f0_15 x158.q.toNat (by omega)
 replace hk227:RS _ 1 eS_ (.slice p227.1 (nth x0.ends x158.q.toNat ([]:List (List UInt8))).length p227.2) (nth x0.ends x158.q.toNat ([]:List (List UInt8))):=hk227
 have hk227b:=hk227.rv.big
 refine TA.b 24 z (OpVal.of (loadSeg0 z ag30 z hg227 z) (v':= .slice p227.1 ((nth x0.ends x158.q.toNat ([]:List (List UInt8))).length) p227.2) z) z (TA.b 25 z (indexN (i:=0) z underlying30 sz9 z z hk227.rv.sl (by omega)) z (TA.b 26 z (loadS1 ([]:List UInt8) z ag9 z hk227 (by omega) z) z (TA.a 27 z (catBs z z z u107) z (TA.a 28 z (moveStr (.inr z) z) z (TA.a 29 z (moveStr (.inr z) z) z (TA.a 30 z (moveStr (.inr z) z) z (TA.dn (S.n (TC.ofSub (Sub.f [3,3,3,3] 4) (TC.ret ?_))))))))))
 obtain rfl:=so hh
 exact ro [Res.cells b0_0 #[.int .i64 x0.t.states,.slice a0_1 x0.t.starts.length c0_2,.slice a0_4 x0.t.ends.length c0_5,.slice a0_7 x0.t.arcs.length c0_8,.slice a0_10 x0.arcs.length c0_11,.slice a0_13 x0.ends.length c0_14,.slice a0_16 x0.hops.length c0_17,.slice a0_18 x0.row.length c0_19,.slice a0_20 x0.place.length c0_21,.string (bs x0.text),.bool x0.found] Eb0,Res.rowS 227 5 encHop (.slice a0_16 x0.hops.length c0_17) x0.hops,Res.rowS 207 6 encFBox (.slice a0_18 x0.row.length c0_19) x0.row,Res.rowS 3 1 eI_ (.slice a0_20 x0.place.length c0_21) x0.place] z (RVs.tmp z (RVs.tmp z (RVs.tmp z RVs.nil))) ⟨z,z,z⟩
def Dc_(k151:Nat)(l149:List UInt8)(i152:Int):Option (((List UInt8)×Nat×Int)⊕((List UInt8))):=
 grd (k151+1≤9223372036854775807) (nxt (((l149.set k151 (nth l149 i152.toNat (0:UInt8))).set i152.toNat (nth l149 k151 (0:UInt8))),(k151+1),(IntKind.i64.wrap (i152 - 1))))
def Aw_(l149:List UInt8)(k151:Nat)(i152:Int):Option (((List UInt8)×Nat×Int)⊕((List UInt8))):=
 iteO (decide (((k151:Nat):Int)<i152)) (grd (0≤i152∧i152<(l149.length:Int)) (grd (k151<l149.length) (grd (k151<l149.length) (grd (0≤i152∧i152<((l149.set k151 (nth l149 i152.toNat (0:UInt8))).length:Int)) (Dc_ k151 l149 i152))))) (fin (some l149))
def Az_(x0:Search)(x122:FBox)(l124:List UInt8):Option ((FBox×(List UInt8))⊕((List UInt8))):=
 iteO (decide (0≤x122.frm)) (grd ((l124.length+[x122.by'].length) * 1≤140737488355328) (grd (0≤x122.frm∧x122.frm<(x0.row.length:Int)) (nxt ((nth x0.row x122.frm.toNat FBox.zero),(l124++[x122.by']))))) (fin (iter (fun q:(List UInt8)×Nat×Int=>Aw_ q.1 q.2.1 q.2.2) (l124,0,(IntKind.i64.wrap (((l124.length:Nat):Int) - 1)))))
def Bt_(x0:Search)(x1:FBox):Option ((List UInt8)):=
 iter (fun q:FBox×(List UInt8)=>Az_ x0 q.1 q.2) (x1,([]:List UInt8))
theorem Cz_{x0:Search}{x1:FBox}(f0_3:RS σ 2 encTip (.slice a0_1 x0.t.starts.length c0_2) x0.t.starts)(f0_6:RS σ 2 encTip (.slice a0_4 x0.t.ends.length c0_5) x0.t.ends)(f0_9:RS σ 8 encArc (.slice a0_7 x0.t.arcs.length c0_8) x0.t.arcs)(f0_12:RZ σ (pkSl 1 eI_ eIl_) (.slice a0_10 x0.arcs.length c0_11) x0.arcs)(f0_15:RZ σ (pkSl 1 eS_ eSl_) (.slice a0_13 x0.ends.length c0_14) x0.ends){r:(List UInt8)}(hh:Bt_ x0 x1=some r):
  Con Tryz.prog 175 #[loc b0_0 0,.agg #[.int .i64 x1.what.at'.p,.int .i64 x1.what.at'.q,.string (bs x1.what.lag.a),.string (bs x1.what.lag.b),.int .i64 x1.frm,.int .u8 ((x1.by'.toNat:Nat):Int)]] σ [Res.cells b0_0 #[.int .i64 x0.t.states,.slice a0_1 x0.t.starts.length c0_2,.slice a0_4 x0.t.ends.length c0_5,.slice a0_7 x0.t.arcs.length c0_8,.slice a0_10 x0.arcs.length c0_11,.slice a0_13 x0.ends.length c0_14,.slice a0_16 x0.hops.length c0_17,.slice a0_18 x0.row.length c0_19,.slice a0_20 x0.place.length c0_21,.string (bs x0.text),.bool x0.found] Eb0,Res.rowS 227 5 encHop (.slice a0_16 x0.hops.length c0_17) x0.hops,Res.rowS 207 6 encFBox (.slice a0_18 x0.row.length c0_19) x0.row,Res.rowS 3 1 eI_ (.slice a0_20 x0.place.length c0_21) x0.place] (fun v σ' H'=>v= .string (bs r)∧σ=σ'∧H'=[Res.cells b0_0 #[.int .i64 x0.t.states,.slice a0_1 x0.t.starts.length c0_2,.slice a0_4 x0.t.ends.length c0_5,.slice a0_7 x0.t.arcs.length c0_8,.slice a0_10 x0.arcs.length c0_11,.slice a0_13 x0.ends.length c0_14,.slice a0_16 x0.hops.length c0_17,.slice a0_18 x0.row.length c0_19,.slice a0_20 x0.place.length c0_21,.string (bs x0.text),.bool x0.found] Eb0,Res.rowS 227 5 encHop (.slice a0_16 x0.hops.length c0_17) x0.hops,Res.rowS 207 6 encFBox (.slice a0_18 x0.row.length c0_19) x0.row,Res.rowS 3 1 eI_ (.slice a0_20 x0.place.length c0_21) x0.place]):=by
 dsimp only [Bt_]at hh
 have f0_3b:=f0_3.rv.big
 have f0_6b:=f0_6.rv.big
 have f0_9b:=f0_9.rv.big
 have f0_12b:=f0_12.big
 have f0_15b:=f0_15.big
 refine Con.mk (n:=50) Tryz.func175 z z z (fun w0=> ?_)
 refine TC.a (TL.op z (boxA z z z z (fun b110=> ?_)))
 refine TL.w z (moveStr (.inr z) z) (TL.en (TC.a (TL.s z z (TL.en (TC.seq (TC.block (TC.nilS 5 1 encU8 (TC.loopG (α:=(FBox×(List UInt8))×((Option Addr)×Nat)) (rgs [(5,1),(8,16)]) (fun g=>[(5,.slice g.2.1 g.1.2.length g.2.2)]) (fun g=>[Res.cells b0_0 #[.int .i64 x0.t.states,.slice a0_1 x0.t.starts.length c0_2,.slice a0_4 x0.t.ends.length c0_5,.slice a0_7 x0.t.arcs.length c0_8,.slice a0_10 x0.arcs.length c0_11,.slice a0_13 x0.ends.length c0_14,.slice a0_16 x0.hops.length c0_17,.slice a0_18 x0.row.length c0_19,.slice a0_20 x0.place.length c0_21,.string (bs x0.text),.bool x0.found] Eb0,Res.rowS 227 5 encHop (.slice a0_16 x0.hops.length c0_17) x0.hops,Res.rowS 207 6 encFBox (.slice a0_18 x0.row.length c0_19) x0.row,Res.rowS 3 1 eI_ (.slice a0_20 x0.place.length c0_21) x0.place,Res.cells b110 #[.int .i64 g.1.1.what.at'.p,.int .i64 g.1.1.what.at'.q,.string (bs g.1.1.what.lag.a),.string (bs g.1.1.what.lag.b),.int .i64 g.1.1.frm,.int .u8 ((g.1.1.by'.toNat:Nat):Int)] 207,Res.rowS 5 1 encU8 (.slice g.2.1 g.1.2.length g.2.2) g.1.2]) (fun g=>σ) (fun g=>iter (fun q:FBox×(List UInt8)=>Az_ x0 q.1 q.2) g.1=some r) (fun g=>rounds (fun q:FBox×(List UInt8)=>Az_ x0 q.1 q.2) g.1) ((x1,([]:List UInt8)),(none,0)) (Sub.f [1,5,5,5,5] 6) z (by repeat (first|exact trivial|refine ⟨z,?_⟩)) hh (fun g1 j1 hg1=> ?_)))))))))
 obtain ⟨⟨x122,l124⟩,⟨a125,c126⟩⟩:=g1
 have hh:=hg1;clear hg1
 try dsimp only
 obtain ⟨z1,hh,hR1⟩:=iter_e hh
 dsimp only [Az_]at hh
 refine TC.isSl (i:=1) z (fun _ hb128 _=> ?_)
 refine TC.isSl (i:=2) z (fun _ hb129 _=> ?_)
 refine TC.isSl (i:=3) z (fun _ hb130 _=> ?_)
 refine TC.isSl (i:=5) z (fun _ hb131 _=> ?_)
 refine TC.seq (TC.a (TL.w z (fieldLoc z fo207_1 z) (TL.w z (loadLoc z ag3 z (i:=4) z z) (TL.w z (OpVal.geq z z z) (TL.en (TC.cD z hh (fun h132 hh=> ?_) (fun h132 hh=> ?_)))))))
 ·refine TC.skip (S.n (TC.block (TC.a (TL.s z z (TL.w z (fieldLoc z fo207_2 z) (TL.w z (loadLoc z ag5 z (i:=4) z z) (TL.op z (OpOk.lit (enc:=encU8) [x122.by'] z underlying60 sz5 ze5 z z z encU8_len (by decide) (by decide) (0:UInt8) z (by decide) z (by decide) encU8_one (fun a133 c134=> ?_)))))))))
  refine TL.front 6 z z ?_
  have u11:=grd_c hh
  replace hh:=grd_t hh
  refine TL.op z (appendS z z underlying60 sz5 by5 ze5 z z (by decide) z z z (.inr ⟨_,0,z⟩) (by simpa using u11) (by decide) (fun a136 c137=> ?_))
  refine TL.s z z (TL.en ?_)
  have u19:=grd_c hh
  replace hh:=grd_t hh
  refine TC.draw [8] (by kernel_rfl) (TA.a 0 z (moveLoc (.inl z) z) z (TA.a 1 z (nilCheckLoc z z) z (TA.a 2 z (fieldLoc z fo165_4 z) z (TA.b 3 z (loadLoc z ag163 z (i:=2) z z) z (TA.a 4 z (fieldLoc z fo207_1 z) z (TA.b 5 z (loadLoc z ag3 z (i:=6) z z) z (TA.isSl (i:=4) z (fun hs139 _ _=> ?_))))))))
  refine TA.b 6 z (OpVal.index z underlying163 sz207 z z hs139 u19.1 u19.2) z (TA.b 7 z (loadOA FBox.zero z ag207 sz207 z (q:=4) z encFBox_len (by omega) (by omega)) z (TA.front 6 z z (TA.last 8 (by kernel_rfl) z z z (storeAll z sz207 z z z z z z ?_))))
  refine TZ.done (by kernel_rfl) (B.n (S.n ?_))
  obtain ⟨hh,hlt140⟩:=nxt_x hR1 hh
  exact lf (((nth x0.row x122.frm.toNat FBox.zero),(l124++[x122.by'])),(a136,c137)) hlt140 hh (Sub.f [1,1,6,6,6,6] 6)
 refine TC.exit (S.x (S.x ?_))
 replace hh:=fin_x hR1 hh
 refine TC.exitHere (S.n (TC.seq (TC.a (TL.s z z (TL.w z (lenC z underlying60 z) (TL.w z (subW z z z) (TL.i z z (TL.i z z (TL.en (TC.block (TC.loopG (α:=((List UInt8)×Nat×Int)×(Unit)) (rgs [(6,2),(27,21)]) (fun g=>[(6,.int .i64 ((g.1.2.1:Nat):Int)),(7,.int .i64 g.1.2.2)]) (fun g=>[Res.rowS 5 1 encU8 (.slice a125 l124.length c126) g.1.1,Res.cells b0_0 #[.int .i64 x0.t.states,.slice a0_1 x0.t.starts.length c0_2,.slice a0_4 x0.t.ends.length c0_5,.slice a0_7 x0.t.arcs.length c0_8,.slice a0_10 x0.arcs.length c0_11,.slice a0_13 x0.ends.length c0_14,.slice a0_16 x0.hops.length c0_17,.slice a0_18 x0.row.length c0_19,.slice a0_20 x0.place.length c0_21,.string (bs x0.text),.bool x0.found] Eb0,Res.rowS 227 5 encHop (.slice a0_16 x0.hops.length c0_17) x0.hops,Res.rowS 207 6 encFBox (.slice a0_18 x0.row.length c0_19) x0.row,Res.rowS 3 1 eI_ (.slice a0_20 x0.place.length c0_21) x0.place]) (fun g=>σ) (fun g=>iter (fun q:(List UInt8)×Nat×Int=>Aw_ q.1 q.2.1 q.2.2) g.1=some r∧g.1.1.length=l124.length) (fun g=>rounds (fun q:(List UInt8)×Nat×Int=>Aw_ q.1 q.2.1 q.2.2) g.1) ((l124,0,(IntKind.i64.wrap (((l124.length:Nat):Int) - 1))),()) (Sub.f [3,3,3,3,5] 5) z (by repeat (first|exact trivial|refine ⟨z,?_⟩)) ⟨hh,z⟩ (fun g2 j2 hg2=> ?_))))))))))))
 obtain ⟨⟨l149,k151,i152⟩,_⟩:=g2
 obtain ⟨hh,hn150⟩:=hg2
 try dsimp only at hn150 ⊢
 obtain ⟨z1,hh,hR1⟩:=iter_e hh
 dsimp only [Aw_]at hh
 have hn150b:=hn150
 refine TC.isSl (i:=0) z (fun _ hb153 _=> ?_)
 refine TC.isSl (i:=2) z (fun _ hb154 _=> ?_)
 refine TC.isSl (i:=3) z (fun _ hb155 _=> ?_)
 refine TC.isSl (i:=4) z (fun _ hb156 _=> ?_)
 refine TC.seq (TC.a (TL.i z z (TL.i z z (TL.w z (OpVal.lss z z z) (TL.en (TC.cD z hh (fun h157 hh=> ?_) (fun h157 hh=> ?_)))))))
 ·refine TC.skip (S.n (TC.cutG (α:=(Unit)×(Unit)) (rgs [(34,14)]) (fun g=>[]) (fun g=>[Res.rowS 5 1 encU8 (.slice a125 l124.length c126) ((l149.set k151 (nth l149 i152.toNat (0:UInt8))).set i152.toNat (nth l149 k151 (0:UInt8))),Res.cells b0_0 #[.int .i64 x0.t.states,.slice a0_1 x0.t.starts.length c0_2,.slice a0_4 x0.t.ends.length c0_5,.slice a0_7 x0.t.arcs.length c0_8,.slice a0_10 x0.arcs.length c0_11,.slice a0_13 x0.ends.length c0_14,.slice a0_16 x0.hops.length c0_17,.slice a0_18 x0.row.length c0_19,.slice a0_20 x0.place.length c0_21,.string (bs x0.text),.bool x0.found] Eb0,Res.rowS 227 5 encHop (.slice a0_16 x0.hops.length c0_17) x0.hops,Res.rowS 207 6 encFBox (.slice a0_18 x0.row.length c0_19) x0.row,Res.rowS 3 1 eI_ (.slice a0_20 x0.place.length c0_21) x0.place]) (fun g=>σ) (fun g=>Dc_ k151 l149 i152=some z1∧((l149.set k151 (nth l149 i152.toNat (0:UInt8))).set i152.toNat (nth l149 k151 (0:UInt8))).length=l124.length) ?_ (fun g j hg=> ?_)))
  ·skip
   refine TC.block ?_
   have u36:=grd_c hh
   replace hh:=grd_t hh
   have u40:=grd_c hh
   replace hh:=grd_t hh
   have u42:=grd_c hh
   replace hh:=grd_t hh
   have u44:=grd_c hh
   replace hh:=grd_t hh
   refine TC.drawR (Hr:=[Res.cells b0_0 #[.int .i64 x0.t.states,.slice a0_1 x0.t.starts.length c0_2,.slice a0_4 x0.t.ends.length c0_5,.slice a0_7 x0.t.arcs.length c0_8,.slice a0_10 x0.arcs.length c0_11,.slice a0_13 x0.ends.length c0_14,.slice a0_16 x0.hops.length c0_17,.slice a0_18 x0.row.length c0_19,.slice a0_20 x0.place.length c0_21,.string (bs x0.text),.bool x0.found] Eb0,Res.rowS 227 5 encHop (.slice a0_16 x0.hops.length c0_17) x0.hops,Res.rowS 207 6 encFBox (.slice a0_18 x0.row.length c0_19) x0.row,Res.rowS 3 1 eI_ (.slice a0_20 x0.place.length c0_21) x0.place]) (fun r hr=>mem_pick [1,2,3,4] z hr) [] (by kernel_rfl) (TA.a 0 z (moveSl (.inl z) z) z (TA.a 1 z (moveI (.inl z) z) z (TA.a 2 z (moveSl (.inl z) z) z (TA.a 3 z (moveI (.inl z) z) z (TA.a 4 z (moveSl (.inl z) z) z (TA.a 5 z (moveI (.inl z) z) z (TA.isSl (i:=0) z (fun hs165 _ _=> ?_))))))))
   refine TA.b 6 z (OpVal.index z underlying60 sz5 z z hs165 u36.1 u36.2) z (TA.a 8 z (moveSl (.inl z) z) z (TA.a 9 z (moveI (.inl z) z) z (TA.isSl (i:=0) z (fun hs166 _ _=> ?_))))
   refine TA.b 10 z (indexN z underlying60 sz5 z z hs166 (by omega)) z (TA.actN [7,11] (by kernel_rfl) (an z z (OpVal.ok (loadO1 (0:UInt8) z ag5 z (q:=0) z encU8_len (by omega) z) z z (k1 ?_)) (an z z (OpVal.ok (loadO1 (0:UInt8) z ag5 z (q:=0) z encU8_len (by omega) z) z z (k1 ?_)) (True.intro))))
   ·skip
    refine TA.ac 11 z (OpVal.ok (loadO1 (0:UInt8) z ag5 z (q:=0) z encU8_len (by omega) z) z z (k1 ?_))
    refine TA.isSl (i:=0) z (fun hs167 _ _=> ?_)
    refine TA.b 12 z (indexN z underlying60 sz5 z z hs167 (by omega)) z ?_
    have hn168:(l149.set k151 (nth l149 i152.toNat (0:UInt8))).length=l124.length:=by rw [List.length_set];exact hn150
    refine TA.ac 13 z (storeS (nth l149 i152.toNat (0:UInt8)) z sz5 z z z z encU8_len encU8_one (by omega) (by omega) (k1 ?_))
    refine TA.isSl (i:=0) z (fun hs169 _ _=> ?_)
    refine TA.b 14 z (OpVal.index z underlying60 sz5 z z hs169 u44.1 u44.2) z ?_
    have hn170:((l149.set k151 (nth l149 i152.toNat (0:UInt8))).set i152.toNat (nth l149 k151 (0:UInt8))).length=l124.length:=by rw [List.length_set];exact hn168
    refine TA.ac 15 z (storeS (nth l149 k151 (0:UInt8)) z sz5 z z z z encU8_len encU8_one (by omega) (by omega) (k1 ?_))
    exact TA.dn (B.n (S.n (cf ((),()) ⟨hh,hn170⟩ (Sub.f [4,4,4,4,4] 5))))
   skip
   refine TA.ac 7 z (OpVal.ok (loadO1 (0:UInt8) z ag5 z (q:=0) z encU8_len (by omega) z) z z (k1 ?_))
   refine TA.isSl (i:=0) z (fun hs171 _ _=> ?_)
   refine TA.b 12 z (indexN z underlying60 sz5 z z hs171 (by omega)) z ?_
   have hn172:(l149.set k151 (nth l149 i152.toNat (0:UInt8))).length=l124.length:=by rw [List.length_set];exact hn150
   refine TA.ac 13 z (storeS (nth l149 i152.toNat (0:UInt8)) z sz5 z z z z encU8_len encU8_one (by omega) (by omega) (k1 ?_))
   refine TA.isSl (i:=0) z (fun hs173 _ _=> ?_)
   refine TA.b 14 z (OpVal.index z underlying60 sz5 z z hs173 u44.1 u44.2) z ?_
   have hn174:((l149.set k151 (nth l149 i152.toNat (0:UInt8))).set i152.toNat (nth l149 k151 (0:UInt8))).length=l124.length:=by rw [List.length_set];exact hn172
   refine TA.ac 15 z (storeS (nth l149 k151 (0:UInt8)) z sz5 z z z z encU8_len encU8_one (by omega) (by omega) (k1 ?_))
   exact TA.dn (B.n (S.n (cf ((),()) ⟨hh,hn174⟩ (Sub.f [4,4,4,4,4] 5))))
  skip
  obtain ⟨_,_⟩:=g
  obtain ⟨hh,hn158⟩:=hg
  try dsimp only at hn158 ⊢
  dsimp only [Dc_]at hh
  have hn158b:=hn158
  refine TC.isSl (i:=0) z (fun _ hb175 _=> ?_)
  refine TC.isSl (i:=2) z (fun _ hb176 _=> ?_)
  refine TC.isSl (i:=3) z (fun _ hb177 _=> ?_)
  refine TC.isSl (i:=4) z (fun _ hb178 _=> ?_)
  refine TC.region (TL.i z z ?_)
  have u47:=grd_c hh
  replace hh:=grd_t hh
  refine TL.w z (OpVal.succ z z z (by omega)) (TL.i z z (TL.w z (subW z z z) (TL.i z z (TL.i z z (TL.en ?_)))))
  obtain ⟨hh,hlt179⟩:=nxt_x hR1 hh
  exact lf ((((l149.set k151 (nth l149 i152.toNat (0:UInt8))).set i152.toNat (nth l149 k151 (0:UInt8))),(k151+1),(IntKind.i64.wrap (i152 - 1))),()) hlt179 ⟨hh,hn158⟩ (Sub.f [4,4,4,4,4] 5)
 refine TC.exit (S.x (S.x ?_))
 replace hh:=fin_x hR1 hh
 refine TC.exitHere (S.n (TC.a (TL.s z z (TL.isSl (i:=0) z (fun hs180 _ _=> ?_)))))
 refine TL.w z (bytesStr (l:=l149) z underlying60 underlying5 underlying9 z hs180 (fun w hw=>rdb_row (q:=0) z hw)) (TL.w z (moveStr (.inr z) z) (TL.en (TC.ofSub (Sub.f [4,4,4,4] 4) (TC.ret ?_))))
 obtain rfl:=so hh
 exact ro [Res.cells b0_0 #[.int .i64 x0.t.states,.slice a0_1 x0.t.starts.length c0_2,.slice a0_4 x0.t.ends.length c0_5,.slice a0_7 x0.t.arcs.length c0_8,.slice a0_10 x0.arcs.length c0_11,.slice a0_13 x0.ends.length c0_14,.slice a0_16 x0.hops.length c0_17,.slice a0_18 x0.row.length c0_19,.slice a0_20 x0.place.length c0_21,.string (bs x0.text),.bool x0.found] Eb0,Res.rowS 227 5 encHop (.slice a0_16 x0.hops.length c0_17) x0.hops,Res.rowS 207 6 encFBox (.slice a0_18 x0.row.length c0_19) x0.row,Res.rowS 3 1 eI_ (.slice a0_20 x0.place.length c0_21) x0.place] z (RVs.tmp z RVs.nil) ⟨z,z,z⟩
def Bf_(x0:Search)(x1:List UInt8):Option (Search):=
 grd (x1.length≤281474976710656) (some (⟨x0.t,x0.arcs,x0.ends,x0.hops,x0.row,x0.place,x1,true⟩:Search))
theorem Ct_{x0:Search}{x1:List UInt8}(f0_3:RS σ 2 encTip (.slice a0_1 x0.t.starts.length c0_2) x0.t.starts)(f0_6:RS σ 2 encTip (.slice a0_4 x0.t.ends.length c0_5) x0.t.ends)(f0_9:RS σ 8 encArc (.slice a0_7 x0.t.arcs.length c0_8) x0.t.arcs)(f0_12:RZ σ (pkSl 1 eI_ eIl_) (.slice a0_10 x0.arcs.length c0_11) x0.arcs)(f0_15:RZ σ (pkSl 1 eS_ eSl_) (.slice a0_13 x0.ends.length c0_14) x0.ends){r:Search}(hh:Bf_ x0 x1=some r):
  Con Tryz.prog 174 #[loc b0_0 0,.string (bs x1)] σ [Res.cells b0_0 #[.int .i64 x0.t.states,.slice a0_1 x0.t.starts.length c0_2,.slice a0_4 x0.t.ends.length c0_5,.slice a0_7 x0.t.arcs.length c0_8,.slice a0_10 x0.arcs.length c0_11,.slice a0_13 x0.ends.length c0_14,.slice a0_16 x0.hops.length c0_17,.slice a0_18 x0.row.length c0_19,.slice a0_20 x0.place.length c0_21,.string (bs x0.text),.bool x0.found] Eb0,Res.rowS 227 5 encHop (.slice a0_16 x0.hops.length c0_17) x0.hops,Res.rowS 207 6 encFBox (.slice a0_18 x0.row.length c0_19) x0.row,Res.rowS 3 1 eI_ (.slice a0_20 x0.place.length c0_21) x0.place] (fun v σ' H'=>v= .tuple #[]∧σ=σ'∧H'=[Res.cells b0_0 #[.int .i64 x0.t.states,.slice a0_1 x0.t.starts.length c0_2,.slice a0_4 x0.t.ends.length c0_5,.slice a0_7 x0.t.arcs.length c0_8,.slice a0_10 x0.arcs.length c0_11,.slice a0_13 x0.ends.length c0_14,.slice a0_16 x0.hops.length c0_17,.slice a0_18 x0.row.length c0_19,.slice a0_20 x0.place.length c0_21,.string (bs r.text),.bool r.found] Eb0,Res.rowS 227 5 encHop (.slice a0_16 x0.hops.length c0_17) x0.hops,Res.rowS 207 6 encFBox (.slice a0_18 x0.row.length c0_19) x0.row,Res.rowS 3 1 eI_ (.slice a0_20 x0.place.length c0_21) x0.place]):=by
 dsimp only [Bf_]at hh
 have f0_3b:=f0_3.rv.big
 have f0_6b:=f0_6.rv.big
 have f0_9b:=f0_9.rv.big
 have f0_12b:=f0_12.big
 have f0_15b:=f0_15.big
 refine Con.mk (n:=11) Tryz.func174 z z z (fun w0=> ?_)
 have x1b:=grd_c hh
 replace hh:=grd_t hh
 refine TC.region (TL.l z z (TL.l z z (TL.w z (moveStr (.inl z) z) (TL.w z (nilCheckLoc z z) (TL.w z (fieldLoc z fo165_6 z) (TL.op z (storeStr z sz9 z z z z z ?_)))))))
 refine TL.w z (nilCheckLoc z z) (TL.w z (fieldLoc z fo165_7 z) (TL.op z (storeB z sz4 z z z z z ?_)))
 refine TL.nil ?_
 obtain rfl:=so hh
 exact RetOk.mk' (rs:=[]) [Res.cells b0_0 #[.int .i64 x0.t.states,.slice a0_1 x0.t.starts.length c0_2,.slice a0_4 x0.t.ends.length c0_5,.slice a0_7 x0.t.arcs.length c0_8,.slice a0_10 x0.arcs.length c0_11,.slice a0_13 x0.ends.length c0_14,.slice a0_16 x0.hops.length c0_17,.slice a0_18 x0.row.length c0_19,.slice a0_20 x0.place.length c0_21,.string (bs x1),.bool true] Eb0,Res.rowS 227 5 encHop (.slice a0_16 x0.hops.length c0_17) x0.hops,Res.rowS 207 6 encFBox (.slice a0_18 x0.row.length c0_19) x0.row,Res.rowS 3 1 eI_ (.slice a0_20 x0.place.length c0_21) x0.place] z (.inr z) RVs.nil (List.sublist_append_left _ _) ⟨z,z,z⟩
def Da_(x0:Search)(s128:List UInt8)(t129:Bool):Option (Search):=
 some (⟨x0.t,x0.arcs,x0.ends,x0.hops,x0.row,x0.place,s128,t129⟩:Search)
def Ab_(x0:Search)(x1:FBox)(k150:Nat)(k159:Nat):Option ((Nat)⊕((Nat)⊕(Search))):=
 iteO (decide (((k159:Nat):Int)<(((nth x0.ends x1.what.at'.q.toNat ([]:List (List UInt8))).length:Nat):Int))) (grd (x1.what.lag.a.length+(nth (nth x0.ends x1.what.at'.p.toNat ([]:List (List UInt8))) k150 ([]:List UInt8)).length≤9223372036854775807) (grd (x1.what.lag.b.length+(nth (nth x0.ends x1.what.at'.q.toNat ([]:List (List UInt8))) k159 ([]:List UInt8)).length≤9223372036854775807) (iteO (decide ((x1.what.lag.a++(nth (nth x0.ends x1.what.at'.p.toNat ([]:List (List UInt8))) k150 ([]:List UInt8)))≠(x1.what.lag.b++(nth (nth x0.ends x1.what.at'.q.toNat ([]:List (List UInt8))) k159 ([]:List UInt8))))) (bnd (Bt_ x0 x1) (fun v162=>bnd (Bf_ x0 v162) (fun v163=>fin (fin (some (⟨x0.t,x0.arcs,x0.ends,x0.hops,x0.row,x0.place,v163.text,v163.found⟩:Search)))))) (nxt (k159+1))))) (fin (nxt (k150+1)))
def Ar_(x0:Search)(x1:FBox)(v9:Int)(k150:Nat):Option ((Nat)⊕(Search)):=
 iteO (decide (((k150:Nat):Int)<(((nth x0.ends x1.what.at'.p.toNat ([]:List (List UInt8))).length:Nat):Int))) (grd (0≤x1.what.at'.q∧x1.what.at'.q<(x0.ends.length:Int)) (iter (fun q:Nat=>Ab_ x0 x1 k150 q) 0)) (fin (grd ((x0.row.length+[x1].length) * 64≤140737488355328) (grd (0≤v9∧v9<(x0.place.length:Int)) (some (⟨x0.t,x0.arcs,x0.ends,x0.hops,(x0.row++[x1]),(x0.place.set v9.toNat (((x0.row++[x1]).length:Nat):Int)),x0.text,x0.found⟩:Search)))))
def Bv_(x1:FBox)(x0:Search)(v9:Int):Option (Search):=
 grd (0≤x1.what.at'.p∧x1.what.at'.p<(x0.ends.length:Int)) (iter (fun q:Nat=>Ar_ x0 x1 v9 q) 0)
def Cc_(x0:Search)(x1:FBox):Option (Search):=
 bnd (Bd_ x0 x1.what.at') (fun v9=>iteO x0.found (some x0) (grd (0≤v9∧v9<(x0.hops.length:Int)) (iteO (!((nth x0.hops v9.toNat Hop.zero).live)) (some x0) (grd (0≤v9∧v9<(x0.place.length:Int)) (iteO (decide (0<(nth x0.place v9.toNat (0:Int)))) (grd (0≤(IntKind.i64.wrap ((nth x0.place v9.toNat (0:Int)) - 1))∧(IntKind.i64.wrap ((nth x0.place v9.toNat (0:Int)) - 1))<(x0.row.length:Int)) (iteO (decide (((nth x0.row ((IntKind.i64.wrap ((nth x0.place v9.toNat (0:Int)) - 1)).toNat) FBox.zero).what).lag=x1.what.lag)) (some x0) (bnd (Cd_ x0 x1.what.at') (fun v55=>grd (((((nth x0.row ((IntKind.i64.wrap ((nth x0.place v9.toNat (0:Int)) - 1)).toNat) FBox.zero).what).lag).a).length+v55.2.1.length≤9223372036854775807) (grd (((((nth x0.row ((IntKind.i64.wrap ((nth x0.place v9.toNat (0:Int)) - 1)).toNat) FBox.zero).what).lag).b).length+v55.2.2.length≤9223372036854775807) (iteO (decide (((((nth x0.row ((IntKind.i64.wrap ((nth x0.place v9.toNat (0:Int)) - 1)).toNat) FBox.zero).what).lag).a++v55.2.1)≠((((nth x0.row ((IntKind.i64.wrap ((nth x0.place v9.toNat (0:Int)) - 1)).toNat) FBox.zero).what).lag).b++v55.2.2))) (bnd (Bt_ x0 (nth x0.row ((IntKind.i64.wrap ((nth x0.place v9.toNat (0:Int)) - 1)).toNat) FBox.zero)) (fun v79=>grd (v79.length+v55.1.length≤9223372036854775807) (bnd (Bf_ x0 (v79++v55.1)) (fun v82=>Da_ x0 v82.text v82.found)))) (bnd (Bt_ x0 x1) (fun v86=>grd (v86.length+v55.1.length≤9223372036854775807) (bnd (Bf_ x0 (v86++v55.1)) (fun v89=>Da_ x0 v89.text v89.found)))))))))) (iteO (decide (x1.what.lag.a≠([]:List UInt8))) (iteO (decide (x1.what.lag.b≠([]:List UInt8))) (bnd (Cd_ x0 x1.what.at') (fun v103=>bnd (Bt_ x0 x1) (fun v114=>grd (v114.length+v103.1.length≤9223372036854775807) (bnd (Bf_ x0 (v114++v103.1)) (fun v117=>some (⟨x0.t,x0.arcs,x0.ends,x0.hops,x0.row,x0.place,v117.text,v117.found⟩:Search)))))) (Bv_ x1 x0 v9)) (Bv_ x1 x0 v9)))))))
theorem Ek_{x0:Search}{x1:FBox}(f0_3:RS σ 2 encTip (.slice a0_1 x0.t.starts.length c0_2) x0.t.starts)(f0_6:RS σ 2 encTip (.slice a0_4 x0.t.ends.length c0_5) x0.t.ends)(f0_9:RS σ 8 encArc (.slice a0_7 x0.t.arcs.length c0_8) x0.t.arcs)(f0_12:RZ σ (pkSl 1 eI_ eIl_) (.slice a0_10 x0.arcs.length c0_11) x0.arcs)(f0_15:RZ σ (pkSl 1 eS_ eSl_) (.slice a0_13 x0.ends.length c0_14) x0.ends){r:Search}(hh:Cc_ x0 x1=some r):
  Con Tryz.prog 147 #[loc b0_0 0,.agg #[.int .i64 x1.what.at'.p,.int .i64 x1.what.at'.q,.string (bs x1.what.lag.a),.string (bs x1.what.lag.b),.int .i64 x1.frm,.int .u8 ((x1.by'.toNat:Nat):Int)]] σ [Res.cells b0_0 #[.int .i64 x0.t.states,.slice a0_1 x0.t.starts.length c0_2,.slice a0_4 x0.t.ends.length c0_5,.slice a0_7 x0.t.arcs.length c0_8,.slice a0_10 x0.arcs.length c0_11,.slice a0_13 x0.ends.length c0_14,.slice a0_16 x0.hops.length c0_17,.slice a0_18 x0.row.length c0_19,.slice a0_20 x0.place.length c0_21,.string (bs x0.text),.bool x0.found] Eb0,Res.rowS 227 5 encHop (.slice a0_16 x0.hops.length c0_17) x0.hops,Res.rowS 207 6 encFBox (.slice a0_18 x0.row.length c0_19) x0.row,Res.rowS 3 1 eI_ (.slice a0_20 x0.place.length c0_21) x0.place] (fun v σ' H'=> ∃ao1 co2 ao3 co4,v= .tuple #[]∧σ=σ'∧H'=[Res.cells b0_0 #[.int .i64 x0.t.states,.slice a0_1 x0.t.starts.length c0_2,.slice a0_4 x0.t.ends.length c0_5,.slice a0_7 x0.t.arcs.length c0_8,.slice a0_10 x0.arcs.length c0_11,.slice a0_13 x0.ends.length c0_14,.slice a0_16 x0.hops.length c0_17,.slice ao1 r.row.length co2,.slice ao3 r.place.length co4,.string (bs r.text),.bool r.found] Eb0,Res.rowS 227 5 encHop (.slice a0_16 x0.hops.length c0_17) x0.hops,Res.rowS 207 6 encFBox (.slice ao1 r.row.length co2) r.row,Res.rowS 3 1 eI_ (.slice ao3 r.place.length co4) r.place]):=by
 dsimp only [Cc_]at hh
 have f0_3b:=f0_3.rv.big
 have f0_6b:=f0_6.rv.big
 have f0_9b:=f0_9.rv.big
 have f0_12b:=f0_12.big
 have f0_15b:=f0_15.big
 refine Con.mk (n:=189) Tryz.func147 z z z (fun w0=> ?_)
 refine TC.weakR (TC.a (TL.op z (boxA z z z z (fun b112=> ?_))))
 refine TL.en (TC.a (TL.w z (fieldLoc z fo207_0 z) (TL.w z (loadLocA z ag205 sz205 z (i:=0) z z z) (TL.op z (OpOk.alloc z ze205 z z (fun b114=> ?_))))))
 refine TL.op z (storeAll z sz205 z z z z z z ?_)
 refine TL.en (TC.a (TL.l z z (TL.w z (fieldLoc z fo205_0 z) (TL.w z (loadLocA z ag202 sz202 z (i:=0) z z z) (TL.front 5 z z (TL.front 5 z z (TL.front 5 z z (TL.front 5 z z ?_))))))))
 obtain ⟨v9,u9,hh⟩:=bnd_e hh
 refine TL.op z (OpOk.call (Bx_ (x0:=x0) f0_3 f0_6 f0_9 f0_12 f0_15 u9) z z pf172 z z z z ?_)
 rintro _ _ _ hle116 ⟨rfl,rfl,rfl⟩
 refine TL.i z z (TL.en (TC.seq (TC.a (TL.l z z (TL.w z (nilCheckLoc z z) (TL.w z (fieldLoc z fo165_7 z) (TL.w z (loadLoc z ag4 z (i:=0) z z) (TL.j z z (TL.split 28 z (fun h117=> ?_) (fun h117=> ?_))))))))))
 ·replace hh:=iteO_t h117 hh
  refine TL.f z (TL.f z (TL.f z (TL.f z (TL.f z (TL.f z (TL.f z (TL.f z (TL.f z (TL.w z (pickTB z z z) (TL.en (TC.t z (TC.ofSub (Sub.f [3,3,3,3] 4) (TC.ret (S.r ?_))))))))))))))
  obtain rfl:=so hh
  refine ⟨_,Sub.f [3,3,3,3] 4,?_⟩
  exact ro [Res.cells b0_0 #[.int .i64 x0.t.states,.slice a0_1 x0.t.starts.length c0_2,.slice a0_4 x0.t.ends.length c0_5,.slice a0_7 x0.t.arcs.length c0_8,.slice a0_10 x0.arcs.length c0_11,.slice a0_13 x0.ends.length c0_14,.slice a0_16 x0.hops.length c0_17,.slice a0_18 x0.row.length c0_19,.slice a0_20 x0.place.length c0_21,.string (bs x0.text),.bool x0.found] Eb0,Res.rowS 227 5 encHop (.slice a0_16 x0.hops.length c0_17) x0.hops,Res.rowS 207 6 encFBox (.slice a0_18 x0.row.length c0_19) x0.row,Res.rowS 3 1 eI_ (.slice a0_20 x0.place.length c0_21) x0.place] z RVs.nil ⟨a0_18,c0_19,a0_20,c0_21,z,z,z⟩
 replace hh:=iteO_f h117 hh
 refine TL.g z (moveLoc (.inl z) z) (TL.g z (nilCheckLoc z z) (TL.g z (fieldLoc z fo165_3 z) (TL.g z (loadLoc z ag162 z (i:=0) z z) (TL.g z (moveI (.inl z) z) ?_))))
 have u21:=grd_c hh
 replace hh:=grd_t hh
 refine TL.isSl (i:=1) z (fun hs118 _ _=> ?_)
 refine TL.g z (OpVal.index z underlying162 sz227 z z hs118 u21.1 u21.2) (TL.isSl (i:=1) z (fun hs119 _ _=> ?_))
 refine TL.g z (fieldElem z fo227_0 z hs119 (by omega)) (TL.g z (loadO Hop.zero z ag4 z (q:=1) z encHop_len (by omega) (by omega) z) (TL.g z (OpVal.not z z) (TL.w z (pickFB z z z) (TL.en (TC.cB z hh (fun h120 hh=> ?_) (fun h120 hh=> ?_))))))
 ·refine TC.ofSub (Sub.f [3,3,3,3] 4) (TC.ret (S.r ?_))
  obtain rfl:=so hh
  refine ⟨_,Sub.f [3,3,3,3] 4,?_⟩
  exact ro [Res.cells b0_0 #[.int .i64 x0.t.states,.slice a0_1 x0.t.starts.length c0_2,.slice a0_4 x0.t.ends.length c0_5,.slice a0_7 x0.t.arcs.length c0_8,.slice a0_10 x0.arcs.length c0_11,.slice a0_13 x0.ends.length c0_14,.slice a0_16 x0.hops.length c0_17,.slice a0_18 x0.row.length c0_19,.slice a0_20 x0.place.length c0_21,.string (bs x0.text),.bool x0.found] Eb0,Res.rowS 227 5 encHop (.slice a0_16 x0.hops.length c0_17) x0.hops,Res.rowS 207 6 encFBox (.slice a0_18 x0.row.length c0_19) x0.row,Res.rowS 3 1 eI_ (.slice a0_20 x0.place.length c0_21) x0.place] z RVs.nil ⟨a0_18,c0_19,a0_20,c0_21,z,z,z⟩
 refine TC.skip (S.n (TC.seq (TC.a (TL.l z z (TL.w z (nilCheckLoc z z) (TL.w z (fieldLoc z fo165_5 z) (TL.w z (loadLoc z ag86 z (i:=0) z z) (TL.i z z ?_))))))))
 have u31:=grd_c hh
 replace hh:=grd_t hh
 refine TL.isSl (i:=3) z (fun hs121 _ _=> ?_)
 refine TL.w z (OpVal.index z underlying86 sz3 z z hs121 u31.1 u31.2) (TL.w z (loadO1 (0:Int) z ag3 z (q:=3) z eIl_ (by omega) z) (TL.i z z (TL.en (TC.a (TL.i z z (TL.w z (OpVal.gtr z z z) (TL.en (TC.cD z hh (fun h122 hh=> ?_) (fun h122 hh=> ?_)))))))))
 ·refine TC.a (TL.l z z (TL.w z (nilCheckLoc z z) (TL.w z (fieldLoc z fo165_4 z) (TL.w z (loadLoc z ag163 z (i:=0) z z) (TL.i z z (TL.w z (subW z z z) ?_))))))
  have u42:=grd_c hh
  replace hh:=grd_t hh
  refine TL.isSl (i:=2) z (fun hs123 _ _=> ?_)
  refine TL.w z (OpVal.index z underlying163 sz207 z z hs123 u42.1 u42.2) (TL.w z (loadOA FBox.zero z ag207 sz207 z (q:=2) z encFBox_len (by omega) (by omega)) (TL.op z (OpOk.alloc z ze207 z z (fun b124=> ?_))))
  refine TL.op z (storeAll z sz207 z z z z z z ?_)
  refine TL.en (TC.seq (TC.a (TL.w z (fieldLoc z fo207_0 z) (TL.w z (fieldLoc z fo205_1 z) (TL.w z (loadLocA z ag203 sz203 z (i:=0) z z z) (TL.w z (fieldLoc z fo205_1 z) (TL.w z (loadLocA z ag203 sz203 z (i:=5) z z z) (TL.w z (eqlSt (p:=((nth x0.row ((IntKind.i64.wrap ((nth x0.place v9.toNat (0:Int)) - 1)).toNat) FBox.zero).what).lag=x1.what.lag) z z z eg203 (es203 (((nth x0.row ((IntKind.i64.wrap ((nth x0.place v9.toNat (0:Int)) - 1)).toNat) FBox.zero).what).lag) x1.what.lag) z) (TL.en (TC.cD z hh (fun h126 hh=> ?_) (fun h126 hh=> ?_)))))))))))
  ·refine TC.ofSub (Sub.f [4,4,4,4] 4) (TC.ret (S.r (S.r ?_)))
   obtain rfl:=so hh
   refine ⟨_,Sub.f [3,3,3,3] 4,?_⟩
   exact ro [Res.cells b0_0 #[.int .i64 x0.t.states,.slice a0_1 x0.t.starts.length c0_2,.slice a0_4 x0.t.ends.length c0_5,.slice a0_7 x0.t.arcs.length c0_8,.slice a0_10 x0.arcs.length c0_11,.slice a0_13 x0.ends.length c0_14,.slice a0_16 x0.hops.length c0_17,.slice a0_18 x0.row.length c0_19,.slice a0_20 x0.place.length c0_21,.string (bs x0.text),.bool x0.found] Eb0,Res.rowS 227 5 encHop (.slice a0_16 x0.hops.length c0_17) x0.hops,Res.rowS 207 6 encFBox (.slice a0_18 x0.row.length c0_19) x0.row,Res.rowS 3 1 eI_ (.slice a0_20 x0.place.length c0_21) x0.place] z RVs.nil ⟨a0_18,c0_19,a0_20,c0_21,z,z,z⟩
  refine TC.skip (S.n (TC.a (TL.l z z (TL.w z (fieldLoc z fo205_0 z) (TL.w z (loadLocA z ag202 sz202 z (i:=5) z z z) (TL.front 4 z z (TL.front 4 z z (TL.front 4 z z (TL.front 4 z z ?_)))))))))
  obtain ⟨v55,u55,hh⟩:=bnd_e hh
  refine TL.op z (OpOk.call (Em_ (x0:=x0) f0_3 f0_6 f0_9 f0_12 f0_15 u55) z z pf173 z z z z ?_)
  rintro _ _ _ hle127 ⟨rfl,rfl,rfl⟩
  refine TL.w z (moveT (.inl z) z) (TL.w z (OpVal.extract z z z) (TL.w z (OpVal.extract z z z) (TL.w z (OpVal.extract z z z) (TL.w z (moveStr (.inr z) z) (TL.w z (moveStr (.inr z) z) (TL.w z (moveStr (.inr z) z) (TL.en (TC.cutG (α:=((List UInt8)×Bool)×(Unit)) (rgs [(70,27)]) (fun g=>[]) (fun g=>[Res.cells b0_0 #[.int .i64 x0.t.states,.slice a0_1 x0.t.starts.length c0_2,.slice a0_4 x0.t.ends.length c0_5,.slice a0_7 x0.t.arcs.length c0_8,.slice a0_10 x0.arcs.length c0_11,.slice a0_13 x0.ends.length c0_14,.slice a0_16 x0.hops.length c0_17,.slice a0_18 x0.row.length c0_19,.slice a0_20 x0.place.length c0_21,.string (bs g.1.1),.bool g.1.2] Eb0,Res.rowS 227 5 encHop (.slice a0_16 x0.hops.length c0_17) x0.hops,Res.rowS 207 6 encFBox (.slice a0_18 x0.row.length c0_19) x0.row,Res.rowS 3 1 eI_ (.slice a0_20 x0.place.length c0_21) x0.place]) (fun g=>σ) (fun g=>Da_ x0 g.1.1 g.1.2=some r) ?_ (fun g j hg=> ?_)))))))))
  ·skip
   refine TC.a (TL.w z (fieldLoc z fo207_0 z) (TL.w z (fieldLoc z fo205_1 z) (TL.w z (OpVal.of (indexArrN (i:=0) z underlying203 sz9 z z (by decide)) (v':=loc b124 2) z) (TL.w z (loadLoc z ag9 z (i:=4) z z) (TL.w z (moveStr (.inl z) z) ?_)))))
   have u68:=grd_c hh
   replace hh:=grd_t hh
   refine TL.w z (catBs z z z u68) (TL.w z (fieldLoc z fo207_0 z) (TL.w z (fieldLoc z fo205_1 z) (TL.w z (OpVal.of (indexArrN (i:=1) z underlying203 sz9 z z (by decide)) (v':=loc b124 3) z) (TL.w z (loadLoc z ag9 z (i:=4) z z) (TL.w z (moveStr (.inl z) z) ?_)))))
   have u74:=grd_c hh
   replace hh:=grd_t hh
   refine TL.w z (catBs z z z u74) (TL.w z (neqBs z z z) (TL.en (TC.cD z hh (fun h130 hh=> ?_) (fun h130 hh=> ?_))))
   ·refine TC.region (TL.l z z (TL.l z z (TL.w z (loadAll z ag207 sz207 z (i:=4) z z) (TL.front 3 z z (TL.front 3 z z (TL.front 3 z z (TL.front 3 z z ?_)))))))
    obtain ⟨v79,u79,hh⟩:=bnd_e hh
    refine TL.op z (OpOk.call (Cz_ (x0:=x0) f0_3 f0_6 f0_9 f0_12 f0_15 u79) z z pf175 z z z z ?_)
    rintro _ _ _ hle131 ⟨rfl,rfl,rfl⟩
    refine TL.w z (moveStr (.inl z) z) ?_
    have u81:=grd_c hh
    replace hh:=grd_t hh
    refine TL.w z (catBs z z z u81) (TL.front 3 z z (TL.front 3 z z (TL.front 3 z z (TL.front 3 z z ?_))))
    obtain ⟨v82,u82,hh⟩:=bnd_e hh
    refine TL.op z (OpOk.call (Ct_ (x0:=x0) f0_3 f0_6 f0_9 f0_12 f0_15 u82) z z pf174 z z z z ?_)
    rintro _ _ _ hle132 ⟨rfl,rfl,rfl⟩
    exact TL.en (cf ((v82.text,v82.found),()) hh (Sub.f [3,3,3,3] 4))
   refine TC.region (TL.l z z (TL.l z z (TL.w z (loadAll z ag207 sz207 z (i:=6) z z) (TL.front 3 z z (TL.front 3 z z (TL.front 3 z z (TL.front 3 z z ?_)))))))
   obtain ⟨v86,u86,hh⟩:=bnd_e hh
   refine TL.op z (OpOk.call (Cz_ (x0:=x0) f0_3 f0_6 f0_9 f0_12 f0_15 u86) z z pf175 z z z z ?_)
   rintro _ _ _ hle133 ⟨rfl,rfl,rfl⟩
   refine TL.w z (moveStr (.inl z) z) ?_
   have u88:=grd_c hh
   replace hh:=grd_t hh
   refine TL.w z (catBs z z z u88) (TL.front 3 z z (TL.front 3 z z (TL.front 3 z z (TL.front 3 z z ?_))))
   obtain ⟨v89,u89,hh⟩:=bnd_e hh
   refine TL.op z (OpOk.call (Ct_ (x0:=x0) f0_3 f0_6 f0_9 f0_12 f0_15 u89) z z pf174 z z z z ?_)
   rintro _ _ _ hle134 ⟨rfl,rfl,rfl⟩
   exact TL.en (cf ((v89.text,v89.found),()) hh (Sub.f [3,3,3,3] 4))
  skip
  obtain ⟨⟨s128,t129⟩,_⟩:=g
  have hh:=hg;clear hg
  try dsimp only
  dsimp only [Da_]at hh
  refine TC.isSl (i:=1) z (fun _ hb135 _=> ?_)
  refine TC.isSl (i:=2) z (fun _ hb136 _=> ?_)
  refine TC.isSl (i:=3) z (fun _ hb137 _=> ?_)
  refine TC.ret (S.r ?_)
  obtain rfl:=so hh
  refine ⟨_,Sub.f [3,3,3,3] 4,?_⟩
  exact ro [Res.cells b0_0 #[.int .i64 x0.t.states,.slice a0_1 x0.t.starts.length c0_2,.slice a0_4 x0.t.ends.length c0_5,.slice a0_7 x0.t.arcs.length c0_8,.slice a0_10 x0.arcs.length c0_11,.slice a0_13 x0.ends.length c0_14,.slice a0_16 x0.hops.length c0_17,.slice a0_18 x0.row.length c0_19,.slice a0_20 x0.place.length c0_21,.string (bs s128),.bool t129] Eb0,Res.rowS 227 5 encHop (.slice a0_16 x0.hops.length c0_17) x0.hops,Res.rowS 207 6 encFBox (.slice a0_18 x0.row.length c0_19) x0.row,Res.rowS 3 1 eI_ (.slice a0_20 x0.place.length c0_21) x0.place] z RVs.nil ⟨a0_18,c0_19,a0_20,c0_21,z,z,z⟩
 refine TC.skip (S.n (TC.cutG (α:=(Unit)×(Unit)) (rgs [(11,3),(97,25)]) (fun g=>[]) (fun g=>[Res.cells b0_0 #[.int .i64 x0.t.states,.slice a0_1 x0.t.starts.length c0_2,.slice a0_4 x0.t.ends.length c0_5,.slice a0_7 x0.t.arcs.length c0_8,.slice a0_10 x0.arcs.length c0_11,.slice a0_13 x0.ends.length c0_14,.slice a0_16 x0.hops.length c0_17,.slice a0_18 x0.row.length c0_19,.slice a0_20 x0.place.length c0_21,.string (bs x0.text),.bool x0.found] Eb0,Res.rowS 227 5 encHop (.slice a0_16 x0.hops.length c0_17) x0.hops,Res.rowS 207 6 encFBox (.slice a0_18 x0.row.length c0_19) x0.row,Res.rowS 3 1 eI_ (.slice a0_20 x0.place.length c0_21) x0.place,Res.cells b112 #[.int .i64 x1.what.at'.p,.int .i64 x1.what.at'.q,.string (bs x1.what.lag.a),.string (bs x1.what.lag.b),.int .i64 x1.frm,.int .u8 ((x1.by'.toNat:Nat):Int)] 207,Res.cells b114 #[.int .i64 x1.what.at'.p,.int .i64 x1.what.at'.q,.string (bs x1.what.lag.a),.string (bs x1.what.lag.b)] 205]) (fun g=>σ) (fun g=>Bv_ x1 x0 v9=some r) ?_ (fun g j hg=> ?_)))
 ·skip
  refine TC.a (TL.w z (fieldLoc z fo205_1 z) (TL.w z (OpVal.of (indexArrN (i:=0) z underlying203 sz9 z z (by decide)) (v':=loc b114 2) z) (TL.w z (loadLoc z ag9 z (i:=4) z z) (TL.w z (neqBs z z z) (TL.j z z (TL.split 101 z (fun h138=> ?_) (fun h138=> ?_)))))))
  ·replace hh:=iteO_t h138 hh
   replace h138:=of_decide_eq_true h138
   refine TL.g z (fieldLoc z fo205_1 z) (TL.g z (OpVal.of (indexArrN (i:=1) z underlying203 sz9 z z (by decide)) (v':=loc b114 3) z) (TL.g z (loadLoc z ag9 z (i:=4) z z) (TL.g z (neqBs z z z) (TL.w z (pickTB z z z) (TL.en (TC.cD z hh (fun h139 hh=> ?_) (fun h139 hh=> ?_)))))))
   ·refine TC.a (TL.l z z (TL.w z (fieldLoc z fo205_0 z) (TL.w z (loadLocA z ag202 sz202 z (i:=4) z z z) (TL.front 3 z z (TL.front 3 z z (TL.front 3 z z (TL.front 3 z z ?_)))))))
    obtain ⟨v103,u103,hh⟩:=bnd_e hh
    refine TL.op z (OpOk.call (Em_ (x0:=x0) f0_3 f0_6 f0_9 f0_12 f0_15 u103) z z pf173 z z z z ?_)
    rintro _ _ _ hle140 ⟨rfl,rfl,rfl⟩
    refine TL.w z (moveT (.inl z) z) (TL.w z (OpVal.extract z z z) (TL.w z (OpVal.extract z z z) (TL.w z (OpVal.extract z z z) (TL.w z (moveStr (.inr z) z) (TL.w z (moveStr (.inr z) z) (TL.w z (moveStr (.inr z) z) (TL.en (TC.a (TL.l z z (TL.l z z (TL.w z (loadAll z ag207 sz207 z (i:=5) z z) (TL.front 3 z z (TL.front 3 z z (TL.front 3 z z (TL.front 3 z z ?_)))))))))))))))
    obtain ⟨v114,u114,hh⟩:=bnd_e hh
    refine TL.op z (OpOk.call (Cz_ (x0:=x0) f0_3 f0_6 f0_9 f0_12 f0_15 u114) z z pf175 z z z z ?_)
    rintro _ _ _ hle141 ⟨rfl,rfl,rfl⟩
    refine TL.w z (moveStr (.inl z) z) ?_
    have u116:=grd_c hh
    replace hh:=grd_t hh
    refine TL.w z (catBs z z z u116) (TL.front 3 z z (TL.front 3 z z (TL.front 3 z z (TL.front 3 z z ?_))))
    obtain ⟨v117,u117,hh⟩:=bnd_e hh
    refine TL.op z (OpOk.call (Ct_ (x0:=x0) f0_3 f0_6 f0_9 f0_12 f0_15 u117) z z pf174 z z z z ?_)
    rintro _ _ _ hle142 ⟨rfl,rfl,rfl⟩
    refine TL.en (TC.ofSub (Sub.f [3,3,3,3] 4) (TC.ret (S.r ?_)))
    obtain rfl:=so hh
    refine ⟨_,Sub.f [3,3,3,3] 4,?_⟩
    exact ro [Res.cells b0_0 #[.int .i64 x0.t.states,.slice a0_1 x0.t.starts.length c0_2,.slice a0_4 x0.t.ends.length c0_5,.slice a0_7 x0.t.arcs.length c0_8,.slice a0_10 x0.arcs.length c0_11,.slice a0_13 x0.ends.length c0_14,.slice a0_16 x0.hops.length c0_17,.slice a0_18 x0.row.length c0_19,.slice a0_20 x0.place.length c0_21,.string (bs v117.text),.bool v117.found] Eb0,Res.rowS 227 5 encHop (.slice a0_16 x0.hops.length c0_17) x0.hops,Res.rowS 207 6 encFBox (.slice a0_18 x0.row.length c0_19) x0.row,Res.rowS 3 1 eI_ (.slice a0_20 x0.place.length c0_21) x0.place] z RVs.nil ⟨a0_18,c0_19,a0_20,c0_21,z,z,z⟩
   exact TC.skip (S.n (cf ((),()) hh (Sub.f [4,5,5,5,5,5] 6)))
  replace hh:=iteO_f h138 hh
  replace h138:=of_decide_eq_false h138
  exact TL.f z (TL.f z (TL.f z (TL.f z (TL.w z (pickFB z z z) (TL.en (TC.f z (TC.skip (S.n (cf ((),()) hh (Sub.f [4,5,5,5,5,5] 6))))))))))
 skip
 obtain ⟨_,_⟩:=g
 have hh:=hg;clear hg
 try dsimp only
 dsimp only [Bv_]at hh
 refine TC.isSl (i:=1) z (fun _ hb143 _=> ?_)
 refine TC.isSl (i:=2) z (fun _ hb144 _=> ?_)
 refine TC.isSl (i:=3) z (fun _ hb145 _=> ?_)
 refine TC.seq (TC.seq ?_)
 have u125:=grd_c hh
 replace hh:=grd_t hh
 refine TC.draw [] (by kernel_rfl) (TA.a 0 z (moveLoc (.inl z) z) z (TA.a 1 z (nilCheckLoc z z) z (TA.a 2 z (fieldLoc z fo165_2 z) z (TA.b 3 z (loadLoc z ag28 z (i:=0) z z) z (TA.a 4 z (fieldLoc z fo205_0 z) z (TA.b 5 z (OpVal.of (indexArrN (i:=0) z underlying202 sz3 z z (by decide)) (v':=loc b114 0) z) z (TA.b 6 z (loadLoc z ag3 z (i:=5) z z) z (TA.b 7 z (OpVal.index z underlying28 sz30 z z f0_15.isSl u125.1 u125.2) z ?_))))))))
 obtain ⟨p147,hk147,hg147⟩:=RZ.seg f0_15 x1.what.at'.p.toNat (by omega)
 replace hk147:RS _ 1 eS_ (.slice p147.1 (nth x0.ends x1.what.at'.p.toNat ([]:List (List UInt8))).length p147.2) (nth x0.ends x1.what.at'.p.toNat ([]:List (List UInt8))):=hk147
 have hk147b:=hk147.rv.big
 refine TA.b 8 z (OpVal.of (loadSeg0 z ag30 z hg147 z) (v':= .slice p147.1 ((nth x0.ends x1.what.at'.p.toNat ([]:List (List UInt8))).length) p147.2) z) z (TA.b 9 z (lenC z underlying30 z) z (TA.a 10 z (moveI (.inl z) z) z (TA.dn (S.n (TC.block (TC.loopG (α:=(Nat)×(Unit)) (rgs [(15,1),(17,1),(132,36)]) (fun g=>[(132,.int .i64 ((g.1:Nat):Int))]) (fun g=>[Res.cells b0_0 #[.int .i64 x0.t.states,.slice a0_1 x0.t.starts.length c0_2,.slice a0_4 x0.t.ends.length c0_5,.slice a0_7 x0.t.arcs.length c0_8,.slice a0_10 x0.arcs.length c0_11,.slice a0_13 x0.ends.length c0_14,.slice a0_16 x0.hops.length c0_17,.slice a0_18 x0.row.length c0_19,.slice a0_20 x0.place.length c0_21,.string (bs x0.text),.bool x0.found] Eb0,Res.rowS 227 5 encHop (.slice a0_16 x0.hops.length c0_17) x0.hops,Res.rowS 207 6 encFBox (.slice a0_18 x0.row.length c0_19) x0.row,Res.rowS 3 1 eI_ (.slice a0_20 x0.place.length c0_21) x0.place,Res.cells b112 #[.int .i64 x1.what.at'.p,.int .i64 x1.what.at'.q,.string (bs x1.what.lag.a),.string (bs x1.what.lag.b),.int .i64 x1.frm,.int .u8 ((x1.by'.toNat:Nat):Int)] 207,Res.cells b114 #[.int .i64 x1.what.at'.p,.int .i64 x1.what.at'.q,.string (bs x1.what.lag.a),.string (bs x1.what.lag.b)] 205]) (fun g=>σ) (fun g=>iter (fun q:Nat=>Ar_ x0 x1 v9 q) g.1=some r) (fun g=>rounds (fun q:Nat=>Ar_ x0 x1 v9 q) g.1) (0,()) (Sub.f [5,5,5,5,5,5] 6) z (by repeat (first|exact trivial|refine ⟨z,?_⟩)) hh (fun g1 j1 hg1=> ?_)))))))
 obtain ⟨k150,_⟩:=g1
 have hh:=hg1;clear hg1
 try dsimp only
 obtain ⟨z1,hh,hR1⟩:=iter_e hh
 dsimp only [Ar_]at hh
 refine TC.isSl (i:=1) z (fun _ hb151 _=> ?_)
 refine TC.isSl (i:=2) z (fun _ hb152 _=> ?_)
 refine TC.isSl (i:=3) z (fun _ hb153 _=> ?_)
 refine TC.a (TL.w z (OpVal.lss z z z) (TL.en (TC.seq (TC.cD z hh (fun h154 hh=> ?_) (fun h154 hh=> ?_)))))
 ·refine TC.skip (S.n (TC.seq (TC.block (TC.a (TL.w z (indexN z underlying30 sz9 z z hk147.rv.sl (by omega)) (TL.w z (loadS1 ([]:List UInt8) z ag9 z hk147 (by omega) z) (TL.w z (moveStr (.inr z) z) (TL.en (TC.seq ?_)))))))))
  have u140:=grd_c hh
  replace hh:=grd_t hh
  refine TC.draw [] (by kernel_rfl) (TA.a 0 z (moveLoc (.inl z) z) z (TA.a 1 z (nilCheckLoc z z) z (TA.a 2 z (fieldLoc z fo165_2 z) z (TA.b 3 z (loadLoc z ag28 z (i:=0) z z) z (TA.a 4 z (fieldLoc z fo205_0 z) z (TA.b 5 z (OpVal.of (indexArrN (i:=1) z underlying202 sz3 z z (by decide)) (v':=loc b114 1) z) z (TA.b 6 z (loadLoc z ag3 z (i:=5) z z) z (TA.b 7 z (OpVal.index z underlying28 sz30 z z f0_15.isSl u140.1 u140.2) z ?_))))))))
  obtain ⟨p156,hk156,hg156⟩:=RZ.seg f0_15 x1.what.at'.q.toNat (by omega)
  replace hk156:RS _ 1 eS_ (.slice p156.1 (nth x0.ends x1.what.at'.q.toNat ([]:List (List UInt8))).length p156.2) (nth x0.ends x1.what.at'.q.toNat ([]:List (List UInt8))):=hk156
  have hk156b:=hk156.rv.big
  refine TA.b 8 z (OpVal.of (loadSeg0 z ag30 z hg156 z) (v':= .slice p156.1 ((nth x0.ends x1.what.at'.q.toNat ([]:List (List UInt8))).length) p156.2) z) z (TA.b 9 z (lenC z underlying30 z) z (TA.a 10 z (moveI (.inl z) z) z (TA.dn (S.n (TC.block (TC.loopG (α:=(Nat)×(Unit)) (rgs [(17,1),(146,21)]) (fun g=>[(146,.int .i64 ((g.1:Nat):Int))]) (fun g=>[Res.cells b0_0 #[.int .i64 x0.t.states,.slice a0_1 x0.t.starts.length c0_2,.slice a0_4 x0.t.ends.length c0_5,.slice a0_7 x0.t.arcs.length c0_8,.slice a0_10 x0.arcs.length c0_11,.slice a0_13 x0.ends.length c0_14,.slice a0_16 x0.hops.length c0_17,.slice a0_18 x0.row.length c0_19,.slice a0_20 x0.place.length c0_21,.string (bs x0.text),.bool x0.found] Eb0,Res.rowS 227 5 encHop (.slice a0_16 x0.hops.length c0_17) x0.hops,Res.rowS 207 6 encFBox (.slice a0_18 x0.row.length c0_19) x0.row,Res.rowS 3 1 eI_ (.slice a0_20 x0.place.length c0_21) x0.place,Res.cells b112 #[.int .i64 x1.what.at'.p,.int .i64 x1.what.at'.q,.string (bs x1.what.lag.a),.string (bs x1.what.lag.b),.int .i64 x1.frm,.int .u8 ((x1.by'.toNat:Nat):Int)] 207,Res.cells b114 #[.int .i64 x1.what.at'.p,.int .i64 x1.what.at'.q,.string (bs x1.what.lag.a),.string (bs x1.what.lag.b)] 205]) (fun g=>σ) (fun g=>iter (fun q:Nat=>Ab_ x0 x1 k150 q) g.1=some z1) (fun g=>rounds (fun q:Nat=>Ab_ x0 x1 k150 q) g.1) (0,()) (Sub.f [5,5,5,5,5,5] 6) z (by repeat (first|exact trivial|refine ⟨z,?_⟩)) hh (fun g2 j2 hg2=> ?_)))))))
  obtain ⟨k159,_⟩:=g2
  have hh:=hg2;clear hg2
  try dsimp only
  obtain ⟨z2,hh,hR2⟩:=iter_e hh
  dsimp only [Ab_]at hh
  refine TC.isSl (i:=1) z (fun _ hb160 _=> ?_)
  refine TC.isSl (i:=2) z (fun _ hb161 _=> ?_)
  refine TC.isSl (i:=3) z (fun _ hb162 _=> ?_)
  refine TC.a (TL.w z (OpVal.lss z z z) (TL.en (TC.seq (TC.cD z hh (fun h163 hh=> ?_) (fun h163 hh=> ?_)))))
  ·refine TC.skip (S.n (TC.seq (TC.block (TC.a (TL.w z (indexN z underlying30 sz9 z z hk156.rv.sl (by omega)) (TL.w z (loadS1 ([]:List UInt8) z ag9 z hk156 (by omega) z) (TL.w z (moveStr (.inr z) z) (TL.en (TC.a (TL.w z (fieldLoc z fo205_1 z) (TL.w z (OpVal.of (indexArrN (i:=0) z underlying203 sz9 z z (by decide)) (v':=loc b114 2) z) (TL.w z (loadLoc z ag9 z (i:=5) z z) (TL.w z (moveStr (.inl z) z) ?_)))))))))))))
   have u152:=grd_c hh
   replace hh:=grd_t hh
   refine TL.w z (catBs z z z u152) (TL.w z (fieldLoc z fo205_1 z) (TL.w z (OpVal.of (indexArrN (i:=1) z underlying203 sz9 z z (by decide)) (v':=loc b114 3) z) (TL.w z (loadLoc z ag9 z (i:=5) z z) (TL.w z (moveStr (.inl z) z) ?_))))
   have u157:=grd_c hh
   replace hh:=grd_t hh
   refine TL.w z (catBs z z z u157) (TL.w z (neqBs z z z) (TL.en (TC.cD z hh (fun h164 hh=> ?_) (fun h164 hh=> ?_))))
   ·refine TC.a (TL.l z z (TL.l z z (TL.w z (loadAll z ag207 sz207 z (i:=4) z z) (TL.front 3 z z (TL.front 3 z z (TL.front 3 z z (TL.front 3 z z ?_)))))))
    obtain ⟨v162,u162,hh⟩:=bnd_e hh
    refine TL.op z (OpOk.call (Cz_ (x0:=x0) f0_3 f0_6 f0_9 f0_12 f0_15 u162) z z pf175 z z z z ?_)
    rintro _ _ _ hle165 ⟨rfl,rfl,rfl⟩
    refine TL.front 3 z z (TL.front 3 z z (TL.front 3 z z (TL.front 3 z z ?_)))
    obtain ⟨v163,u163,hh⟩:=bnd_e hh
    refine TL.op z (OpOk.call (Ct_ (x0:=x0) f0_3 f0_6 f0_9 f0_12 f0_15 u163) z z pf174 z z z z ?_)
    rintro _ _ _ hle166 ⟨rfl,rfl,rfl⟩
    refine TL.en (TC.ofSub (Sub.f [3,3,3,3] 4) (TC.ret (B.r (S.r (S.r ?_)))))
    replace hh:=fin_x hR2 hh
    refine B.r (B.r (S.r (S.r ?_)))
    replace hh:=fin_x hR1 hh
    refine B.r (S.r ?_)
    obtain rfl:=so hh
    refine ⟨_,Sub.f [3,3,3,3] 4,?_⟩
    exact ro [Res.cells b0_0 #[.int .i64 x0.t.states,.slice a0_1 x0.t.starts.length c0_2,.slice a0_4 x0.t.ends.length c0_5,.slice a0_7 x0.t.arcs.length c0_8,.slice a0_10 x0.arcs.length c0_11,.slice a0_13 x0.ends.length c0_14,.slice a0_16 x0.hops.length c0_17,.slice a0_18 x0.row.length c0_19,.slice a0_20 x0.place.length c0_21,.string (bs v163.text),.bool v163.found] Eb0,Res.rowS 227 5 encHop (.slice a0_16 x0.hops.length c0_17) x0.hops,Res.rowS 207 6 encFBox (.slice a0_18 x0.row.length c0_19) x0.row,Res.rowS 3 1 eI_ (.slice a0_20 x0.place.length c0_21) x0.place] z RVs.nil ⟨a0_18,c0_19,a0_20,c0_21,z,z,z⟩
   refine TC.skip (B.n (S.n (TC.region (TL.w z (OpVal.succ z z z (by omega)) (TL.i z z (TL.en ?_))))))
   obtain ⟨hh,hlt167⟩:=nxt_x hR2 hh
   exact lf ((k159+1),()) hlt167 hh (Sub.f [5,5,5,5,5,5] 6)
  refine TC.exit (S.x (S.x ?_))
  replace hh:=fin_x hR2 hh
  refine TC.exitHere (B.n (S.n (TC.region (TL.w z (OpVal.succ z z z (by omega)) (TL.i z z (TL.en ?_))))))
  obtain ⟨hh,hlt168⟩:=nxt_x hR1 hh
  exact lf ((k150+1),()) hlt168 hh (Sub.f [5,5,5,5,5,5] 6)
 refine TC.exit (S.x (S.x ?_))
 replace hh:=fin_x hR1 hh
 refine TC.exitHere (S.n (TC.seq ?_))
 have u175:=grd_c hh
 replace hh:=grd_t hh
 refine TC.draw [7,8,9,10] (by kernel_rfl) (TA.a 0 z (moveLoc (.inl z) z) z (TA.a 1 z (moveLoc (.inl z) z) z (TA.a 2 z (nilCheckLoc z z) z (TA.a 3 z (fieldLoc z fo165_4 z) z (TA.b 4 z (loadLoc z ag163 z (i:=0) z z) z (TA.b 5 z (loadAll z ag207 sz207 z (i:=4) z z) z (TA.ac 6 z (OpOk.lit (enc:=encFBox) [x1] z underlying163 sz207 ze207 z z z encFBox_len (by decide) (by decide) FBox.zero z (by decide) z (by decide) encFBox_one (fun a174 c175=>(k1 ?_))))))))))
 refine TA.front 3 z z (TA.last 7 (by kernel_rfl) z z z (appendS z z underlying163 sz207 by207 ze207 z z (by decide) z z z (.inr ⟨_,0,z⟩) (by simpa using u175) (by decide) (fun a177 c178=> ?_)))
 refine TZ.v 8 (by kernel_rfl) z z z (nilCheckLoc z z) z z (TZ.v 9 (by kernel_rfl) z z z (fieldLoc z fo165_4 z) z z (TZ.front 2 z z (TZ.last 10 (by kernel_rfl) z z z (storeSl z sz163 z z z z z ?_))))
 refine TZ.done (by kernel_rfl) (S.n ?_)
 have u189:=grd_c hh
 replace hh:=grd_t hh
 refine TC.draw [11] (by kernel_rfl) (TA.a 0 z (moveLoc (.inl z) z) z (TA.a 1 z (nilCheckLoc z z) z (TA.a 2 z (fieldLoc z fo165_5 z) z (TA.b 3 z (loadLoc z ag86 z (i:=0) z z) z (TA.a 4 z (moveI (.inl z) z) z (TA.a 5 z (moveLoc (.inl z) z) z (TA.a 6 z (nilCheckLoc z z) z (TA.a 7 z (fieldLoc z fo165_4 z) z (TA.b 8 z (loadLoc z ag163 z (i:=0) z z) z (TA.b 9 z (lenC z underlying163 z) z (TA.isSl (i:=4) z (fun hs181 _ _=> ?_))))))))))))
 refine TA.b 10 z (OpVal.index z underlying86 sz3 z z hs181 u189.1 u189.2) z (TA.front 4 z z ?_)
 have hn182:(x0.place.set v9.toNat (((x0.row++[x1]).length:Nat):Int)).length=x0.place.length:=by rw [List.length_set]
 refine TA.last 11 (by kernel_rfl) z z z (storeS (((x0.row++[x1]).length:Nat):Int) z sz3 z z z z eIl_ eIo_ (by omega) (by omega) ?_)
 refine TZ.done (by kernel_rfl) ?_
 rw [←hn182]
 obtain rfl:=so hh
 refine ⟨_,Sub.f [2,4,3] 4,?_⟩
 exact RetOk.mk' (rs:=[]) [Res.cells b0_0 #[.int .i64 x0.t.states,.slice a0_1 x0.t.starts.length c0_2,.slice a0_4 x0.t.ends.length c0_5,.slice a0_7 x0.t.arcs.length c0_8,.slice a0_10 x0.arcs.length c0_11,.slice a0_13 x0.ends.length c0_14,.slice a0_16 x0.hops.length c0_17,.slice a177 ((x0.row++[x1]).length) c178,.slice a0_20 ((x0.place.set v9.toNat (((x0.row++[x1]).length:Nat):Int)).length) c0_21,.string (bs x0.text),.bool x0.found] Eb0,Res.rowS 227 5 encHop (.slice a0_16 x0.hops.length c0_17) x0.hops,Res.rowS 207 6 encFBox (.slice a177 (x0.row++[x1]).length c178) (x0.row++[x1]),Res.rowS 3 1 eI_ (.slice a0_20 (x0.place.set v9.toNat (((x0.row++[x1]).length:Nat):Int)).length c0_21) (x0.place.set v9.toNat (((x0.row++[x1]).length:Nat):Int))] z (.inr z) RVs.nil (List.sublist_append_left _ _) ⟨a177,c178,a0_20,c0_21,z,z,z⟩
def Bw_(x0:Search)(x1:Int)(x2:Arc)(x3:Arc)(x4:UInt8):Option (Search):=
 grd (0≤x1∧x1<(x0.row.length:Int)) (bnd (Dl_ x2 x4) (fun v18=>grd (((((nth x0.row x1.toNat FBox.zero).what).lag).a).length+v18.length≤9223372036854775807) (bnd (Dl_ x3 x4) (fun v24=>grd (((((nth x0.row x1.toNat FBox.zero).what).lag).b).length+v24.length≤9223372036854775807) (bnd (En_ ((((nth x0.row x1.toNat FBox.zero).what).lag).a++v18) ((((nth x0.row x1.toNat FBox.zero).what).lag).b++v24)) (fun v26=>bnd (Cc_ x0 (⟨(⟨(⟨x2.to,x3.to⟩:FPr),(⟨v26.1,v26.2⟩:SPr)⟩:Visit),x1,x4⟩:FBox)) (fun v45=>some (⟨x0.t,x0.arcs,x0.ends,x0.hops,v45.row,v45.place,v45.text,v45.found⟩:Search))))))))
theorem Dt_{x0:Search}{x1:Int}{x2:Arc}{x3:Arc}{x4:UInt8}(f0_3:RS σ 2 encTip (.slice a0_1 x0.t.starts.length c0_2) x0.t.starts)(f0_6:RS σ 2 encTip (.slice a0_4 x0.t.ends.length c0_5) x0.t.ends)(f0_9:RS σ 8 encArc (.slice a0_7 x0.t.arcs.length c0_8) x0.t.arcs)(f0_12:RZ σ (pkSl 1 eI_ eIl_) (.slice a0_10 x0.arcs.length c0_11) x0.arcs)(f0_15:RZ σ (pkSl 1 eS_ eSl_) (.slice a0_13 x0.ends.length c0_14) x0.ends){r:Search}(hh:Bw_ x0 x1 x2 x3 x4=some r):
  Con Tryz.prog 176 #[loc b0_0 0,.int .i64 x1,.agg #[.int .i64 x2.frm,.int .i64 x2.to,.int .u64 ((x2.set.a:Nat):Int),.int .u64 ((x2.set.b:Nat):Int),.int .u64 ((x2.set.c:Nat):Int),.int .u64 ((x2.set.d:Nat):Int),.string (bs x2.out),.bool x2.copy],.agg #[.int .i64 x3.frm,.int .i64 x3.to,.int .u64 ((x3.set.a:Nat):Int),.int .u64 ((x3.set.b:Nat):Int),.int .u64 ((x3.set.c:Nat):Int),.int .u64 ((x3.set.d:Nat):Int),.string (bs x3.out),.bool x3.copy],.int .u8 ((x4.toNat:Nat):Int)] σ [Res.cells b0_0 #[.int .i64 x0.t.states,.slice a0_1 x0.t.starts.length c0_2,.slice a0_4 x0.t.ends.length c0_5,.slice a0_7 x0.t.arcs.length c0_8,.slice a0_10 x0.arcs.length c0_11,.slice a0_13 x0.ends.length c0_14,.slice a0_16 x0.hops.length c0_17,.slice a0_18 x0.row.length c0_19,.slice a0_20 x0.place.length c0_21,.string (bs x0.text),.bool x0.found] Eb0,Res.rowS 227 5 encHop (.slice a0_16 x0.hops.length c0_17) x0.hops,Res.rowS 207 6 encFBox (.slice a0_18 x0.row.length c0_19) x0.row,Res.rowS 3 1 eI_ (.slice a0_20 x0.place.length c0_21) x0.place] (fun v σ' H'=> ∃ao1 co2 ao3 co4,v= .tuple #[]∧σ=σ'∧H'=[Res.cells b0_0 #[.int .i64 x0.t.states,.slice a0_1 x0.t.starts.length c0_2,.slice a0_4 x0.t.ends.length c0_5,.slice a0_7 x0.t.arcs.length c0_8,.slice a0_10 x0.arcs.length c0_11,.slice a0_13 x0.ends.length c0_14,.slice a0_16 x0.hops.length c0_17,.slice ao1 r.row.length co2,.slice ao3 r.place.length co4,.string (bs r.text),.bool r.found] Eb0,Res.rowS 227 5 encHop (.slice a0_16 x0.hops.length c0_17) x0.hops,Res.rowS 207 6 encFBox (.slice ao1 r.row.length co2) r.row,Res.rowS 3 1 eI_ (.slice ao3 r.place.length co4) r.place]):=by
 dsimp only [Bw_]at hh
 have f0_3b:=f0_3.rv.big
 have f0_6b:=f0_6.rv.big
 have f0_9b:=f0_9.rv.big
 have f0_12b:=f0_12.big
 have f0_15b:=f0_15.big
 refine Con.mk (n:=52) Tryz.func176 z z z (fun w0=> ?_)
 refine TC.weakR (TC.a (TL.op z (boxA z z z z (fun b112=> ?_))))
 refine TL.op z (boxA z z z z (fun b114=> ?_))
 refine TL.en (TC.a (TL.l z z (TL.w z (nilCheckLoc z z) (TL.w z (fieldLoc z fo165_4 z) (TL.w z (loadLoc z ag163 z (i:=2) z z) (TL.i z z ?_))))))
 have u8:=grd_c hh
 replace hh:=grd_t hh
 refine TL.isSl (i:=4) z (fun hs116 _ _=> ?_)
 refine TL.w z (OpVal.index z underlying163 sz207 z z hs116 u8.1 u8.2) (TL.isSl (i:=4) z (fun hs117 _ _=> ?_))
 refine TL.w z (fieldElem z fo207_0 z hs117 (by omega)) (TL.isSl (i:=4) z (fun hs118 _ _=> ?_))
 refine TL.w z (fieldElem z fo205_1 z hs118 (by omega)) (TL.w z (loadOSub FBox.zero z ag203 sz203 z (q:=4) z encFBox_len (by omega) (by omega) (by omega) z z) (TL.op z (OpOk.alloc z ze203 z z (fun b119=> ?_))))
 refine TL.op z (storeAll z sz203 z z z z z z ?_)
 refine TL.en (TC.seq ?_)
 obtain ⟨v18,u18,hh⟩:=bnd_e hh
 have u19:=grd_c hh
 replace hh:=grd_t hh
 obtain ⟨v24,u24,hh⟩:=bnd_e hh
 have u25:=grd_c hh
 replace hh:=grd_t hh
 obtain ⟨v26,u26,hh⟩:=bnd_e hh
 refine TC.draw [] (by kernel_rfl) (TA.b 0 z (OpVal.of (indexArrN (i:=0) z underlying203 sz9 z z (by decide)) (v':=loc b119 0) z) z (TA.b 1 z (loadLoc z ag9 z (i:=0) z z) z (TA.b 2 z (loadAll z ag66 sz66 z (i:=2) z z) z (TA.a 3 z (moveI (.inl z) z) z (TA.b 6 z (OpVal.of (indexArrN (i:=1) z underlying203 sz9 z z (by decide)) (v':=loc b119 1) z) z (TA.b 7 z (loadLoc z ag9 z (i:=0) z z) z (TA.b 8 z (loadAll z ag66 sz66 z (i:=1) z z) z (TA.a 9 z (moveI (.inl z) z) z (TA.ac 4 z (callP (D8_ u18) z z pf202 z z z (k0 ?_)))))))))))
 refine TA.a 5 z (catBs z z z u19) z (TA.ac 10 z (callP (D8_ u24) z z pf202 z z z (k0 ?_)))
 refine TA.a 11 z (catBs z z z u25) z (TA.ac 12 z (callP (F3_ u26) z z pf146 z z z (k0 ?_)))
 refine TA.a 13 z (moveT (.inl z) z) z (TA.a 14 z (OpVal.extract z z z) z (TA.a 15 z (OpVal.extract z z z) z (TA.a 16 z (moveStr (.inr z) z) z (TA.a 17 z (moveStr (.inr z) z) z (TA.dn (S.n (TC.region (TL.l z z (TL.w z (fieldLoc z fo66_1 z) (TL.w z (loadLoc z ag3 z (i:=2) z z) (TL.w z (fieldLoc z fo66_1 z) (TL.w z (loadLoc z ag3 z (i:=1) z z) (TL.w z (buildArrL z underlying202 sz3 ze202 z) (TL.w z (moveStr (.inl z) z) (TL.w z (moveStr (.inl z) z) ?_)))))))))))))))
 refine TL.w z (buildArrL z underlying203 sz9 ze203 z) (TL.w z (buildL z pl205 ze205 z) (TL.i z z (TL.i z z (TL.w z (buildL z pl207 ze207 z) (TL.front 6 z z (TL.front 6 z z (TL.front 6 z z (TL.front 6 z z ?_))))))))
 obtain ⟨v45,u45,hh⟩:=bnd_e hh
 refine TL.op z (OpOk.call (Ek_ (x0:=x0) f0_3 f0_6 f0_9 f0_12 f0_15 u45) z z pf147 z z z z ?_)
 rintro _ _ _ hle121 ⟨a121_1,c121_2,a121_3,c121_4,rfl,rfl,rfl⟩
 refine TL.nil ?_
 obtain rfl:=so hh
 refine ⟨_,Sub.f [3,3,3,3] 4,?_⟩
 exact RetOk.mk' (rs:=[]) [Res.cells b0_0 #[.int .i64 x0.t.states,.slice a0_1 x0.t.starts.length c0_2,.slice a0_4 x0.t.ends.length c0_5,.slice a0_7 x0.t.arcs.length c0_8,.slice a0_10 x0.arcs.length c0_11,.slice a0_13 x0.ends.length c0_14,.slice a0_16 x0.hops.length c0_17,.slice a121_1 v45.row.length c121_2,.slice a121_3 v45.place.length c121_4,.string (bs v45.text),.bool v45.found] Eb0,Res.rowS 227 5 encHop (.slice a0_16 x0.hops.length c0_17) x0.hops,Res.rowS 207 6 encFBox (.slice a121_1 v45.row.length c121_2) v45.row,Res.rowS 3 1 eI_ (.slice a121_3 v45.place.length c121_4) v45.place] z (.inr z) RVs.nil (List.sublist_append_left _ _) ⟨a121_1,c121_2,a121_3,c121_4,z,z,z⟩
def Co_(k264:Nat)(l270:List FBox)(l274:List Int)(s277:List UInt8)(t278:Bool):Option (((List FBox)×(List Int)×(List UInt8)×Bool×Nat)⊕(((List FBox)×(List Int)×(List UInt8)×Bool×Nat)⊕(((List FBox)×(List Int)×(List UInt8)×Bool×Nat)⊕(Search)))):=
 nxt (l270,l274,s277,t278,(k264+1))
def Al_(x0:Search)(k190:Nat)(l217:List FBox)(l221:List Int)(s224:List UInt8)(t225:Bool):Option (((List FBox)×(List Int)×(List UInt8)×Bool×Nat)⊕(((List FBox)×(List Int)×(List UInt8)×Bool×Nat)⊕(Search))):=
 iteO t225 (fin (fin (some (⟨x0.t,x0.arcs,x0.ends,x0.hops,l217,l221,s224,t225⟩:Search)))) (nxt (l217,l221,s224,t225,(k190+1)))
def Am_(v64:BSet)(x0:Search)(x1:Int)(k151:Nat)(k190:Nat)(l255:List FBox)(l259:List Int)(s262:List UInt8)(t263:Bool)(k264:Nat):Option (((List FBox)×(List Int)×(List UInt8)×Bool×Nat)⊕(((List FBox)×(List Int)×(List UInt8)×Bool×Nat)⊕(((List FBox)×(List Int)×(List UInt8)×Bool×Nat)⊕(Search)))):=
 iteO (decide (((k264:Nat):Int)<256)) (iteO (v64.has (toU8 ((k264:Nat):Int)).toNat) (bnd (Bw_ (⟨x0.t,x0.arcs,x0.ends,x0.hops,l255,l259,s262,t263⟩:Search) x1 (nth x0.t.arcs ((nth (nth x0.arcs (((((nth x0.row x1.toNat FBox.zero).what).at').p).toNat) ([]:List Int)) k151 (0:Int)).toNat) Arc.zero) (nth x0.t.arcs ((nth (nth x0.arcs (((((nth x0.row x1.toNat FBox.zero).what).at').q).toNat) ([]:List Int)) k190 (0:Int)).toNat) Arc.zero) (toU8 ((k264:Nat):Int))) (fun v103=>Co_ k264 v103.row v103.place v103.text v103.found)) (Co_ k264 l255 l259 s262 t263)) (fin (Al_ x0 k190 l255 l259 s262 t263))
def Dn_(k319:Nat)(l325:List FBox)(l329:List Int)(s332:List UInt8)(t333:Bool):Option (((List FBox)×(List Int)×(List UInt8)×Bool×Nat)⊕(((List FBox)×(List Int)×(List UInt8)×Bool×Nat)⊕(((List FBox)×(List Int)×(List UInt8)×Bool×Nat)⊕(Search)))):=
 nxt (l325,l329,s332,t333,(k319+1))
def Cp_(v64:BSet)(x0:Search)(x1:Int)(k151:Nat)(k190:Nat)(l310:List FBox)(l314:List Int)(s317:List UInt8)(t318:Bool)(k319:Nat):Option (((List FBox)×(List Int)×(List UInt8)×Bool×Nat)⊕(((List FBox)×(List Int)×(List UInt8)×Bool×Nat)⊕(((List FBox)×(List Int)×(List UInt8)×Bool×Nat)⊕(Search)))):=
 iteO (decide (((k319:Nat):Int)<256)) (iteO (v64.has (toU8 ((k319:Nat):Int)).toNat) (bnd (Bw_ (⟨x0.t,x0.arcs,x0.ends,x0.hops,l310,l314,s317,t318⟩:Search) x1 (nth x0.t.arcs ((nth (nth x0.arcs (((((nth x0.row x1.toNat FBox.zero).what).at').p).toNat) ([]:List Int)) k151 (0:Int)).toNat) Arc.zero) (nth x0.t.arcs ((nth (nth x0.arcs (((((nth x0.row x1.toNat FBox.zero).what).at').q).toNat) ([]:List Int)) k190 (0:Int)).toNat) Arc.zero) (toU8 ((k319:Nat):Int))) (fun v103=>Dn_ k319 v103.row v103.place v103.text v103.found)) (Dn_ k319 l310 l314 s317 t318)) (fin (Al_ x0 k190 l310 l314 s317 t318))
def Cn_(x0:Search)(x1:Int)(k151:Nat)(k190:Nat)(l181:List FBox)(l185:List Int)(s188:List UInt8)(t189:Bool):Option (((List FBox)×(List Int)×(List UInt8)×Bool×Nat)⊕(((List FBox)×(List Int)×(List UInt8)×Bool×Nat)⊕(Search))):=
 bnd (Cj_ ((nth x0.t.arcs ((nth (nth x0.arcs (((((nth x0.row x1.toNat FBox.zero).what).at').p).toNat) ([]:List Int)) k151 (0:Int)).toNat) Arc.zero).set) ((nth x0.t.arcs ((nth (nth x0.arcs (((((nth x0.row x1.toNat FBox.zero).what).at').q).toNat) ([]:List Int)) k190 (0:Int)).toNat) Arc.zero).set)) (fun v64=>iteO (!((nth x0.t.arcs ((nth (nth x0.arcs (((((nth x0.row x1.toNat FBox.zero).what).at').p).toNat) ([]:List Int)) k151 (0:Int)).toNat) Arc.zero).copy)) (iteO (!((nth x0.t.arcs ((nth (nth x0.arcs (((((nth x0.row x1.toNat FBox.zero).what).at').q).toNat) ([]:List Int)) k190 (0:Int)).toNat) Arc.zero).copy)) (bnd (C9_ v64) (fun v76=>iteO v76.2 (bnd (Bw_ (⟨x0.t,x0.arcs,x0.ends,x0.hops,l181,l185,s188,t189⟩:Search) x1 (nth x0.t.arcs ((nth (nth x0.arcs (((((nth x0.row x1.toNat FBox.zero).what).at').p).toNat) ([]:List Int)) k151 (0:Int)).toNat) Arc.zero) (nth x0.t.arcs ((nth (nth x0.arcs (((((nth x0.row x1.toNat FBox.zero).what).at').q).toNat) ([]:List Int)) k190 (0:Int)).toNat) Arc.zero) v76.1) (fun v88=>Al_ x0 k190 v88.row v88.place v88.text v88.found)) (Al_ x0 k190 l181 l185 s188 t189))) (iter (fun q:(List FBox)×(List Int)×(List UInt8)×Bool×Nat=>Am_ v64 x0 x1 k151 k190 q.1 q.2.1 q.2.2.1 q.2.2.2.1 q.2.2.2.2) (l181,l185,s188,t189,0))) (iter (fun q:(List FBox)×(List Int)×(List UInt8)×Bool×Nat=>Cp_ v64 x0 x1 k151 k190 q.1 q.2.1 q.2.2.1 q.2.2.2.1 q.2.2.2.2) (l181,l185,s188,t189,0)))
def A1_(x0:Search)(x1:Int)(k151:Nat)(l181:List FBox)(l185:List Int)(s188:List UInt8)(t189:Bool)(k190:Nat):Option (((List FBox)×(List Int)×(List UInt8)×Bool×Nat)⊕(((List FBox)×(List Int)×(List UInt8)×Bool×Nat)⊕(Search))):=
 iteO (decide (((k190:Nat):Int)<(((nth x0.arcs (((((nth x0.row x1.toNat FBox.zero).what).at').q).toNat) ([]:List Int)).length:Nat):Int))) (grd (0≤(nth (nth x0.arcs (((((nth x0.row x1.toNat FBox.zero).what).at').p).toNat) ([]:List Int)) k151 (0:Int))∧(nth (nth x0.arcs (((((nth x0.row x1.toNat FBox.zero).what).at').p).toNat) ([]:List Int)) k151 (0:Int))<(x0.t.arcs.length:Int)) (grd (0≤(nth (nth x0.arcs (((((nth x0.row x1.toNat FBox.zero).what).at').q).toNat) ([]:List Int)) k190 (0:Int))∧(nth (nth x0.arcs (((((nth x0.row x1.toNat FBox.zero).what).at').q).toNat) ([]:List Int)) k190 (0:Int))<(x0.t.arcs.length:Int)) (Cn_ x0 x1 k151 k190 l181 l185 s188 t189))) (fin (nxt (l181,l185,s188,t189,(k151+1))))
def A8_(x0:Search)(x1:Int)(l142:List FBox)(l146:List Int)(s149:List UInt8)(t150:Bool)(k151:Nat):Option (((List FBox)×(List Int)×(List UInt8)×Bool×Nat)⊕(Search)):=
 iteO (decide (((k151:Nat):Int)<(((nth x0.arcs (((((nth x0.row x1.toNat FBox.zero).what).at').p).toNat) ([]:List Int)).length:Nat):Int))) (grd (0≤((((nth x0.row x1.toNat FBox.zero).what).at').q)∧((((nth x0.row x1.toNat FBox.zero).what).at').q)<(x0.arcs.length:Int)) (iter (fun q:(List FBox)×(List Int)×(List UInt8)×Bool×Nat=>A1_ x0 x1 k151 q.1 q.2.1 q.2.2.1 q.2.2.2.1 q.2.2.2.2) (l142,l146,s149,t150,0))) (fin (some (⟨x0.t,x0.arcs,x0.ends,x0.hops,l142,l146,s149,t150⟩:Search)))
def Dq_(x0:Search)(x1:Int):Option (Search):=
 grd (0≤x1∧x1<(x0.row.length:Int)) (grd (0≤((((nth x0.row x1.toNat FBox.zero).what).at').p)∧((((nth x0.row x1.toNat FBox.zero).what).at').p)<(x0.arcs.length:Int)) (iter (fun q:(List FBox)×(List Int)×(List UInt8)×Bool×Nat=>A8_ x0 x1 q.1 q.2.1 q.2.2.1 q.2.2.2.1 q.2.2.2.2) (x0.row,x0.place,x0.text,x0.found,0)))
theorem F9_ {σ : Store} {x0 : Search} {b0_0 : Nat} {Eb0 : Nat} {a0_1 : Option Addr} {c0_2 : Nat} {a0_4 : Option Addr} {c0_5 : Nat} {a0_7 : Option Addr} {c0_8 : Nat} {a0_10 : Option Addr} {c0_11 : Nat} {a0_13 : Option Addr} {c0_14 : Nat} {a0_16 : Option Addr} {c0_17 : Nat} {a0_18 : Option Addr} {c0_19 : Nat} {a0_20 : Option Addr} {c0_21 : Nat} {x1 : Int} (hgl : GT2 σ 1 2) (f0_3 : RS σ 2 encTip (.slice a0_1 x0.t.starts.length c0_2) x0.t.starts) (f0_6 : RS σ 2 encTip (.slice a0_4 x0.t.ends.length c0_5) x0.t.ends) (f0_9 : RS σ 8 encArc (.slice a0_7 x0.t.arcs.length c0_8) x0.t.arcs) (f0_12 : RZ σ (pkSl 1 eI_ eIl_) (.slice a0_10 x0.arcs.length c0_11) x0.arcs) (f0_15 : RZ σ (pkSl 1 eS_ eSl_) (.slice a0_13 x0.ends.length c0_14) x0.ends) {r : Search} (hh : Dq_ x0 x1 = some r) :
  Con Tryz.prog 148 #[loc b0_0 0,.int .i64 x1] σ [Res.cells b0_0 #[.int .i64 x0.t.states,.slice a0_1 x0.t.starts.length c0_2,.slice a0_4 x0.t.ends.length c0_5,.slice a0_7 x0.t.arcs.length c0_8,.slice a0_10 x0.arcs.length c0_11,.slice a0_13 x0.ends.length c0_14,.slice a0_16 x0.hops.length c0_17,.slice a0_18 x0.row.length c0_19,.slice a0_20 x0.place.length c0_21,.string (bs x0.text),.bool x0.found] Eb0,Res.rowS 227 5 encHop (.slice a0_16 x0.hops.length c0_17) x0.hops,Res.rowS 207 6 encFBox (.slice a0_18 x0.row.length c0_19) x0.row,Res.rowS 3 1 eI_ (.slice a0_20 x0.place.length c0_21) x0.place] (fun v σ' H'=> ∃ao1 co2 ao3 co4,v= .tuple #[]∧σ=σ'∧H'=[Res.cells b0_0 #[.int .i64 x0.t.states,.slice a0_1 x0.t.starts.length c0_2,.slice a0_4 x0.t.ends.length c0_5,.slice a0_7 x0.t.arcs.length c0_8,.slice a0_10 x0.arcs.length c0_11,.slice a0_13 x0.ends.length c0_14,.slice a0_16 x0.hops.length c0_17,.slice ao1 r.row.length co2,.slice ao3 r.place.length co4,.string (bs r.text),.bool r.found] Eb0,Res.rowS 227 5 encHop (.slice a0_16 x0.hops.length c0_17) x0.hops,Res.rowS 207 6 encFBox (.slice ao1 r.row.length co2) r.row,Res.rowS 3 1 eI_ (.slice ao3 r.place.length co4) r.place]):=by
 dsimp only [Dq_]at hh
 have f0_3b:=f0_3.rv.big
 have f0_6b:=f0_6.rv.big
 have f0_9b:=f0_9.rv.big
 have f0_12b:=f0_12.big
 have f0_15b:=f0_15.big
 refine Con.mk (n:=112) Tryz.func148 z z z (fun w0=> ?_)
 refine TC.weakR (TC.a (TL.l z z (TL.w z (nilCheckLoc z z) (TL.w z (fieldLoc z fo165_4 z) (TL.w z (loadLoc z ag163 z (i:=0) z z) (TL.i z z ?_))))))
 have u6:=grd_c hh
 replace hh:=grd_t hh
 refine TL.isSl (i:=2) z (fun hs112 _ _=> ?_)
 refine TL.w z (OpVal.index z underlying163 sz207 z z hs112 u6.1 u6.2) (TL.isSl (i:=2) z (fun hs113 _ _=> ?_))
 refine TL.w z (fieldElem z fo207_0 z hs113 (by omega)) (TL.isSl (i:=2) z (fun hs114 _ _=> ?_))
 refine TL.w z (fieldElem z fo205_0 z hs114 (by omega)) (TL.w z (loadOSub FBox.zero z ag202 sz202 z (q:=2) z encFBox_len (by omega) (by omega) (by omega) z z) (TL.op z (OpOk.alloc z ze202 z z (fun b115=> ?_))))
 refine TL.op z (storeAll z sz202 z z z z z z ?_)
 refine TL.en (TC.seq ?_)
 have u18:=grd_c hh
 replace hh:=grd_t hh
 refine TC.draw [] (by kernel_rfl) (TA.a 0 z (moveLoc (.inl z) z) z (TA.a 1 z (nilCheckLoc z z) z (TA.a 2 z (fieldLoc z fo165_1 z) z (TA.b 3 z (loadLoc z ag27 z (i:=1) z z) z (TA.b 4 z (OpVal.of (indexArrN (i:=0) z underlying202 sz3 z z (by decide)) (v':=loc b115 0) z) z (TA.b 5 z (loadLoc z ag3 z (i:=0) z z) z (TA.b 6 z (OpVal.index z underlying27 sz86 z z f0_12.isSl u18.1 u18.2) z ?_)))))))
 obtain ⟨p118,hk118,hg118⟩:=RZ.seg f0_12 (((((nth x0.row x1.toNat FBox.zero).what).at').p).toNat) (by omega)
 replace hk118:RS _ 1 eI_ (.slice p118.1 (nth x0.arcs (((((nth x0.row x1.toNat FBox.zero).what).at').p).toNat) ([]:List Int)).length p118.2) (nth x0.arcs (((((nth x0.row x1.toNat FBox.zero).what).at').p).toNat) ([]:List Int)):=hk118
 have hk118b:=hk118.rv.big
 refine TA.b 7 z (OpVal.of (loadSeg0 z ag86 z hg118 z) (v':= .slice p118.1 ((nth x0.arcs (((((nth x0.row x1.toNat FBox.zero).what).at').p).toNat) ([]:List Int)).length) p118.2) z) z (TA.b 8 z (lenC z underlying86 z) z (TA.a 9 z (moveI (.inl z) z) z (TA.dn (S.n (TC.block (TC.loopG (α:=((List FBox)×(List Int)×(List UInt8)×Bool×Nat)×((Option Addr)×Nat×(Option Addr)×Nat)) (rgs [(6,1),(8,7),(33,79)]) (fun g=>[(33,.int .i64 ((g.1.2.2.2.2:Nat):Int))]) (fun g=>[Res.cells b0_0 #[.int .i64 x0.t.states,.slice a0_1 x0.t.starts.length c0_2,.slice a0_4 x0.t.ends.length c0_5,.slice a0_7 x0.t.arcs.length c0_8,.slice a0_10 x0.arcs.length c0_11,.slice a0_13 x0.ends.length c0_14,.slice a0_16 x0.hops.length c0_17,.slice g.2.1 g.1.1.length g.2.2.1,.slice g.2.2.2.1 g.1.2.1.length g.2.2.2.2,.string (bs g.1.2.2.1),.bool g.1.2.2.2.1] Eb0,Res.rowS 227 5 encHop (.slice a0_16 x0.hops.length c0_17) x0.hops,Res.rowS 207 6 encFBox (.slice g.2.1 g.1.1.length g.2.2.1) g.1.1,Res.rowS 3 1 eI_ (.slice g.2.2.2.1 g.1.2.1.length g.2.2.2.2) g.1.2.1,Res.cells b115 #[.int .i64 ((((nth x0.row x1.toNat FBox.zero).what).at').p),.int .i64 ((((nth x0.row x1.toNat FBox.zero).what).at').q)] 202]) (fun g=>σ) (fun g=>iter (fun q:(List FBox)×(List Int)×(List UInt8)×Bool×Nat=>A8_ x0 x1 q.1 q.2.1 q.2.2.1 q.2.2.2.1 q.2.2.2.2) g.1=some r) (fun g=>rounds (fun q:(List FBox)×(List Int)×(List UInt8)×Bool×Nat=>A8_ x0 x1 q.1 q.2.1 q.2.2.1 q.2.2.2.1 q.2.2.2.2) g.1) ((x0.row,x0.place,x0.text,x0.found,0),(a0_18,c0_19,a0_20,c0_21)) (Sub.f [4,4,4,4] 5) z (by repeat (first|exact trivial|refine ⟨z,?_⟩)) hh (fun g1 j1 hg1=> ?_)))))))
 obtain ⟨⟨l142,l146,s149,t150,k151⟩,⟨a143,c144,a147,c148⟩⟩:=g1
 have hh:=hg1;clear hg1
 try dsimp only
 obtain ⟨z1,hh,hR1⟩:=iter_e hh
 dsimp only [A8_]at hh
 refine TC.isSl (i:=1) z (fun _ hb152 _=> ?_)
 refine TC.isSl (i:=2) z (fun _ hb153 _=> ?_)
 refine TC.isSl (i:=3) z (fun _ hb154 _=> ?_)
 refine TC.a (TL.w z (OpVal.lss z z z) (TL.en (TC.seq (TC.cD z hh (fun h155 hh=> ?_) (fun h155 hh=> ?_)))))
 ·refine TC.skip (S.n (TC.seq (TC.block (TC.a (TL.w z (indexN z underlying86 sz3 z z hk118.rv.sl (by omega)) (TL.w z (loadS1 (0:Int) z ag3 z hk118 (by omega) z) (TL.i z z (TL.en (TC.seq ?_)))))))))
  have u32:=grd_c hh
  replace hh:=grd_t hh
  refine TC.draw [] (by kernel_rfl) (TA.a 0 z (moveLoc (.inl z) z) z (TA.a 1 z (nilCheckLoc z z) z (TA.a 2 z (fieldLoc z fo165_1 z) z (TA.b 3 z (loadLoc z ag27 z (i:=0) z z) z (TA.b 4 z (OpVal.of (indexArrN (i:=1) z underlying202 sz3 z z (by decide)) (v':=loc b115 1) z) z (TA.b 5 z (loadLoc z ag3 z (i:=4) z z) z (TA.b 6 z (OpVal.index z underlying27 sz86 z z f0_12.isSl u32.1 u32.2) z ?_)))))))
  obtain ⟨p157,hk157,hg157⟩:=RZ.seg f0_12 (((((nth x0.row x1.toNat FBox.zero).what).at').q).toNat) (by omega)
  replace hk157:RS _ 1 eI_ (.slice p157.1 (nth x0.arcs (((((nth x0.row x1.toNat FBox.zero).what).at').q).toNat) ([]:List Int)).length p157.2) (nth x0.arcs (((((nth x0.row x1.toNat FBox.zero).what).at').q).toNat) ([]:List Int)):=hk157
  have hk157b:=hk157.rv.big
  refine TA.b 7 z (OpVal.of (loadSeg0 z ag86 z hg157 z) (v':= .slice p157.1 ((nth x0.arcs (((((nth x0.row x1.toNat FBox.zero).what).at').q).toNat) ([]:List Int)).length) p157.2) z) z (TA.b 8 z (lenC z underlying86 z) z (TA.a 9 z (moveI (.inl z) z) z (TA.dn (S.n (TC.block (TC.loopG (α:=((List FBox)×(List Int)×(List UInt8)×Bool×Nat)×((Option Addr)×Nat×(Option Addr)×Nat)) (rgs [(8,7),(46,65)]) (fun g=>[(46,.int .i64 ((g.1.2.2.2.2:Nat):Int))]) (fun g=>[Res.cells b0_0 #[.int .i64 x0.t.states,.slice a0_1 x0.t.starts.length c0_2,.slice a0_4 x0.t.ends.length c0_5,.slice a0_7 x0.t.arcs.length c0_8,.slice a0_10 x0.arcs.length c0_11,.slice a0_13 x0.ends.length c0_14,.slice a0_16 x0.hops.length c0_17,.slice g.2.1 g.1.1.length g.2.2.1,.slice g.2.2.2.1 g.1.2.1.length g.2.2.2.2,.string (bs g.1.2.2.1),.bool g.1.2.2.2.1] Eb0,Res.rowS 227 5 encHop (.slice a0_16 x0.hops.length c0_17) x0.hops,Res.rowS 207 6 encFBox (.slice g.2.1 g.1.1.length g.2.2.1) g.1.1,Res.rowS 3 1 eI_ (.slice g.2.2.2.1 g.1.2.1.length g.2.2.2.2) g.1.2.1,Res.cells b115 #[.int .i64 ((((nth x0.row x1.toNat FBox.zero).what).at').p),.int .i64 ((((nth x0.row x1.toNat FBox.zero).what).at').q)] 202]) (fun g=>σ) (fun g=>iter (fun q:(List FBox)×(List Int)×(List UInt8)×Bool×Nat=>A1_ x0 x1 k151 q.1 q.2.1 q.2.2.1 q.2.2.2.1 q.2.2.2.2) g.1=some z1) (fun g=>rounds (fun q:(List FBox)×(List Int)×(List UInt8)×Bool×Nat=>A1_ x0 x1 k151 q.1 q.2.1 q.2.2.1 q.2.2.2.1 q.2.2.2.2) g.1) ((l142,l146,s149,t150,0),(a143,c144,a147,c148)) (Sub.f [4,4,4,4,4] 5) z (by repeat (first|exact trivial|refine ⟨z,?_⟩)) hh (fun g2 j2 hg2=> ?_)))))))
  obtain ⟨⟨l181,l185,s188,t189,k190⟩,⟨a182,c183,a186,c187⟩⟩:=g2
  have hh:=hg2;clear hg2
  try dsimp only
  obtain ⟨z2,hh,hR2⟩:=iter_e hh
  dsimp only [A1_]at hh
  refine TC.isSl (i:=1) z (fun _ hb191 _=> ?_)
  refine TC.isSl (i:=2) z (fun _ hb192 _=> ?_)
  refine TC.isSl (i:=3) z (fun _ hb193 _=> ?_)
  refine TC.a (TL.w z (OpVal.lss z z z) (TL.en (TC.seq (TC.cD z hh (fun h194 hh=> ?_) (fun h194 hh=> ?_)))))
  ·refine TC.skip (S.n (TC.seq (TC.block (TC.a (TL.w z (indexN z underlying86 sz3 z z hk157.rv.sl (by omega)) (TL.w z (loadS1 (0:Int) z ag3 z hk157 (by omega) z) (TL.i z z (TL.en (TC.cutG (α:=(Unit)×(Nat×Nat)) (rgs [(9,2),(50,16)]) (fun g=>[(9,loc g.2.1 0),(10,loc g.2.2 0)]) (fun g=>[Res.cells b0_0 #[.int .i64 x0.t.states,.slice a0_1 x0.t.starts.length c0_2,.slice a0_4 x0.t.ends.length c0_5,.slice a0_7 x0.t.arcs.length c0_8,.slice a0_10 x0.arcs.length c0_11,.slice a0_13 x0.ends.length c0_14,.slice a0_16 x0.hops.length c0_17,.slice a182 l181.length c183,.slice a186 l185.length c187,.string (bs s188),.bool t189] Eb0,Res.rowS 227 5 encHop (.slice a0_16 x0.hops.length c0_17) x0.hops,Res.rowS 207 6 encFBox (.slice a182 l181.length c183) l181,Res.rowS 3 1 eI_ (.slice a186 l185.length c187) l185,Res.cells b115 #[.int .i64 ((((nth x0.row x1.toNat FBox.zero).what).at').p),.int .i64 ((((nth x0.row x1.toNat FBox.zero).what).at').q)] 202,Res.cells g.2.1 #[.int .i64 ((nth x0.t.arcs ((nth (nth x0.arcs (((((nth x0.row x1.toNat FBox.zero).what).at').p).toNat) ([]:List Int)) k151 (0:Int)).toNat) Arc.zero).frm),.int .i64 ((nth x0.t.arcs ((nth (nth x0.arcs (((((nth x0.row x1.toNat FBox.zero).what).at').p).toNat) ([]:List Int)) k151 (0:Int)).toNat) Arc.zero).to),.int .u64 ((((nth x0.t.arcs ((nth (nth x0.arcs (((((nth x0.row x1.toNat FBox.zero).what).at').p).toNat) ([]:List Int)) k151 (0:Int)).toNat) Arc.zero).set).a:Nat):Int),.int .u64 ((((nth x0.t.arcs ((nth (nth x0.arcs (((((nth x0.row x1.toNat FBox.zero).what).at').p).toNat) ([]:List Int)) k151 (0:Int)).toNat) Arc.zero).set).b:Nat):Int),.int .u64 ((((nth x0.t.arcs ((nth (nth x0.arcs (((((nth x0.row x1.toNat FBox.zero).what).at').p).toNat) ([]:List Int)) k151 (0:Int)).toNat) Arc.zero).set).c:Nat):Int),.int .u64 ((((nth x0.t.arcs ((nth (nth x0.arcs (((((nth x0.row x1.toNat FBox.zero).what).at').p).toNat) ([]:List Int)) k151 (0:Int)).toNat) Arc.zero).set).d:Nat):Int),.string (bs ((nth x0.t.arcs ((nth (nth x0.arcs (((((nth x0.row x1.toNat FBox.zero).what).at').p).toNat) ([]:List Int)) k151 (0:Int)).toNat) Arc.zero).out)),.bool ((nth x0.t.arcs ((nth (nth x0.arcs (((((nth x0.row x1.toNat FBox.zero).what).at').p).toNat) ([]:List Int)) k151 (0:Int)).toNat) Arc.zero).copy)] 66,Res.cells g.2.2 #[.int .i64 ((nth x0.t.arcs ((nth (nth x0.arcs (((((nth x0.row x1.toNat FBox.zero).what).at').q).toNat) ([]:List Int)) k190 (0:Int)).toNat) Arc.zero).frm),.int .i64 ((nth x0.t.arcs ((nth (nth x0.arcs (((((nth x0.row x1.toNat FBox.zero).what).at').q).toNat) ([]:List Int)) k190 (0:Int)).toNat) Arc.zero).to),.int .u64 ((((nth x0.t.arcs ((nth (nth x0.arcs (((((nth x0.row x1.toNat FBox.zero).what).at').q).toNat) ([]:List Int)) k190 (0:Int)).toNat) Arc.zero).set).a:Nat):Int),.int .u64 ((((nth x0.t.arcs ((nth (nth x0.arcs (((((nth x0.row x1.toNat FBox.zero).what).at').q).toNat) ([]:List Int)) k190 (0:Int)).toNat) Arc.zero).set).b:Nat):Int),.int .u64 ((((nth x0.t.arcs ((nth (nth x0.arcs (((((nth x0.row x1.toNat FBox.zero).what).at').q).toNat) ([]:List Int)) k190 (0:Int)).toNat) Arc.zero).set).c:Nat):Int),.int .u64 ((((nth x0.t.arcs ((nth (nth x0.arcs (((((nth x0.row x1.toNat FBox.zero).what).at').q).toNat) ([]:List Int)) k190 (0:Int)).toNat) Arc.zero).set).d:Nat):Int),.string (bs ((nth x0.t.arcs ((nth (nth x0.arcs (((((nth x0.row x1.toNat FBox.zero).what).at').q).toNat) ([]:List Int)) k190 (0:Int)).toNat) Arc.zero).out)),.bool ((nth x0.t.arcs ((nth (nth x0.arcs (((((nth x0.row x1.toNat FBox.zero).what).at').q).toNat) ([]:List Int)) k190 (0:Int)).toNat) Arc.zero).copy)] 66]) (fun g=>σ) (fun g=>Cn_ x0 x1 k151 k190 l181 l185 s188 t189=some z2) ?_ (fun g j hg=> ?_))))))))))
   ·skip
    have u46:=grd_c hh
    replace hh:=grd_t hh
    have u54:=grd_c hh
    replace hh:=grd_t hh
    refine TC.drawR (Hr:=[Res.cells b0_0 #[.int .i64 x0.t.states,.slice a0_1 x0.t.starts.length c0_2,.slice a0_4 x0.t.ends.length c0_5,.slice a0_7 x0.t.arcs.length c0_8,.slice a0_10 x0.arcs.length c0_11,.slice a0_13 x0.ends.length c0_14,.slice a0_16 x0.hops.length c0_17,.slice a182 l181.length c183,.slice a186 l185.length c187,.string (bs s188),.bool t189] Eb0,Res.rowS 227 5 encHop (.slice a0_16 x0.hops.length c0_17) x0.hops,Res.rowS 207 6 encFBox (.slice a182 l181.length c183) l181,Res.rowS 3 1 eI_ (.slice a186 l185.length c187) l185,Res.cells b115 #[.int .i64 ((((nth x0.row x1.toNat FBox.zero).what).at').p),.int .i64 ((((nth x0.row x1.toNat FBox.zero).what).at').q)] 202]) (fun r hr=>mem_pick [0,1,2,3,4] z hr) [] (by kernel_rfl) (TA.a 0 z (moveLoc (.inl z) z) z (TA.a 1 z (nilCheckLoc z z) z (TA.a 2 z (fieldLoc z fo165_0 z) z (TA.a 3 z (fieldLoc z fo25_3 z) z (TA.b 4 z (loadLoc z ag23 z (i:=0) z z) z (TA.a 5 z (moveI (.inl z) z) z (TA.b 6 z (OpVal.index z underlying23 sz66 z z f0_9.rv.sl u46.1 u46.2) z (TA.b 7 z (loadSA Arc.zero z ag66 sz66 z f0_9 (by omega) (by omega)) z (TA.a 8 z (moveLoc (.inl z) z) z (TA.a 9 z (nilCheckLoc z z) z (TA.a 10 z (fieldLoc z fo165_0 z) z (TA.a 11 z (fieldLoc z fo25_3 z) z (TA.b 12 z (loadLoc z ag23 z (i:=0) z z) z (TA.a 13 z (moveI (.inl z) z) z (TA.b 14 z (OpVal.index z underlying23 sz66 z z f0_9.rv.sl u54.1 u54.2) z ?_)))))))))))))))
    refine TA.b 15 z (loadSA Arc.zero z ag66 sz66 z f0_9 (by omega) (by omega)) z (TA.actN [16,17] (by kernel_rfl) (an z z (OpOk.alloc z ze66 z z (fun b203=>(k1 ?_))) (an z z (OpOk.alloc z ze66 z z (fun b205=>(k1 ?_))) (True.intro))))
    ·skip
     refine TA.ac 17 z (OpOk.alloc z ze66 z z (fun b207=>(k2 ?_)))
     refine TA.front 1 z z (TA.ac 18 z (storeAll z sz66 z z z z z z (k2 ?_)))
     refine TA.front 1 z z (TA.ac 19 z (storeAll z sz66 z z z z z z (k2 ?_)))
     exact TA.dn (S.n (cf ((),(b203,b207)) hh (Sub.f [1,6,6,6,6,6] 7)))
    skip
    refine TA.ac 16 z (OpOk.alloc z ze66 z z (fun b209=>(k2 ?_)))
    refine TA.ac 18 z (storeAll z sz66 z z z z z z (k2 ?_))
    refine TA.front 1 z z (TA.ac 19 z (storeAll z sz66 z z z z z z (k2 ?_)))
    exact TA.dn (S.n (cf ((),(b209,b205)) hh (Sub.f [1,6,6,6,6,6] 7)))
   skip
   obtain ⟨_,⟨b196,b198⟩⟩:=g
   have hh:=hg;clear hg
   try dsimp only
   dsimp only [Cn_]at hh
   refine TC.isSl (i:=1) z (fun _ hb211 _=> ?_)
   refine TC.isSl (i:=2) z (fun _ hb212 _=> ?_)
   refine TC.isSl (i:=3) z (fun _ hb213 _=> ?_)
   refine TC.a (TL.w z (fieldLoc z fo66_2 z) (TL.w z (loadLocA z ag64 sz64 z (i:=5) z z z) (TL.w z (fieldLoc z fo66_2 z) (TL.w z (loadLocA z ag64 sz64 z (i:=6) z z z) ?_))))
   obtain ⟨v64,u64,hh⟩:=bnd_e hh
   refine TL.op z (callP (E6_ u64) z z pf171 z z z ?_)
   refine TL.op z (OpOk.alloc z ze64 z z (fun b214=> ?_))
   refine TL.op z (storeAll z sz64 z z z z z z ?_)
   refine TL.en (TC.cutG (α:=((List FBox)×(List Int)×(List UInt8)×Bool)×((Option Addr)×Nat×(Option Addr)×Nat)) (rgs [(12,3),(71,35)]) (fun g=>[]) (fun g=>[Res.cells b0_0 #[.int .i64 x0.t.states,.slice a0_1 x0.t.starts.length c0_2,.slice a0_4 x0.t.ends.length c0_5,.slice a0_7 x0.t.arcs.length c0_8,.slice a0_10 x0.arcs.length c0_11,.slice a0_13 x0.ends.length c0_14,.slice a0_16 x0.hops.length c0_17,.slice g.2.1 g.1.1.length g.2.2.1,.slice g.2.2.2.1 g.1.2.1.length g.2.2.2.2,.string (bs g.1.2.2.1),.bool g.1.2.2.2] Eb0,Res.rowS 227 5 encHop (.slice a0_16 x0.hops.length c0_17) x0.hops,Res.rowS 207 6 encFBox (.slice g.2.1 g.1.1.length g.2.2.1) g.1.1,Res.rowS 3 1 eI_ (.slice g.2.2.2.1 g.1.2.1.length g.2.2.2.2) g.1.2.1,Res.cells b115 #[.int .i64 ((((nth x0.row x1.toNat FBox.zero).what).at').p),.int .i64 ((((nth x0.row x1.toNat FBox.zero).what).at').q)] 202]) (fun g=>σ) (fun g=>Al_ x0 k190 g.1.1 g.1.2.1 g.1.2.2.1 g.1.2.2.2=some z2) ?_ (fun g j hg=> ?_))
   ·skip
    refine TC.a (TL.w z (fieldLoc z fo66_4 z) (TL.w z (loadLoc z ag4 z (i:=6) z z) (TL.w z (OpVal.not z z) (TL.j z z (TL.split 74 z (fun h226=> ?_) (fun h226=> ?_))))))
    ·replace hh:=iteO_t h226 hh
     refine TL.g z (fieldLoc z fo66_4 z) (TL.g z (loadLoc z ag4 z (i:=7) z z) (TL.g z (OpVal.not z z) (TL.w z (pickTB z z z) (TL.en (TC.cB z hh (fun h227 hh=> ?_) (fun h227 hh=> ?_))))))
     ·refine TC.a (TL.w z (loadAll z ag64 sz64 z (i:=0) z z) ?_)
      obtain ⟨v76,u76,hh⟩:=bnd_e hh
      refine TL.op z (callP (Fu_ hgl u76) z z pf170 z z z ?_)
      refine TL.w z (moveT (.inl z) z) (TL.w z (OpVal.extract z z z) (TL.w z (OpVal.extract z z z) (TL.i z z (TL.j z z (TL.en (TC.a (TL.j z z (TL.en (TC.cB z hh (fun h228 hh=> ?_) (fun h228 hh=> ?_))))))))))
      ·refine TC.region (TL.l z z (TL.i z z (TL.w z (loadAll z ag66 sz66 z (i:=6) z z) (TL.w z (loadAll z ag66 sz66 z (i:=7) z z) (TL.i z z (TL.front 4 z z (TL.front 4 z z (TL.front 4 z z (TL.front 4 z z ?_)))))))))
       obtain ⟨v88,u88,hh⟩:=bnd_e hh
       refine TL.op z (OpOk.call (Dt_ (x0:=(⟨x0.t,x0.arcs,x0.ends,x0.hops,l181,l185,s188,t189⟩:Search)) f0_3 f0_6 f0_9 f0_12 f0_15 u88) z z pf176 z z z z ?_)
       rintro _ _ _ hle229 ⟨a229_1,c229_2,a229_3,c229_4,rfl,rfl,rfl⟩
       exact TL.en (cf ((v88.row,v88.place,v88.text,v88.found),(a229_1,c229_2,a229_3,c229_4)) hh (Sub.f [5,4,4,4,4] 5))
      exact TC.skip (S.n (cf ((l181,l185,s188,t189),(a182,c183,a186,c187)) hh (Sub.f [5,5,5,5,5] 5)))
     refine TC.a (TL.i z z (TL.en (TC.block (TC.loopG (α:=((List FBox)×(List Int)×(List UInt8)×Bool×Nat)×((Option Addr)×Nat×(Option Addr)×Nat)) (rgs [(14,1),(91,15)]) (fun g=>[(91,.int .i64 ((g.1.2.2.2.2:Nat):Int))]) (fun g=>[Res.cells b0_0 #[.int .i64 x0.t.states,.slice a0_1 x0.t.starts.length c0_2,.slice a0_4 x0.t.ends.length c0_5,.slice a0_7 x0.t.arcs.length c0_8,.slice a0_10 x0.arcs.length c0_11,.slice a0_13 x0.ends.length c0_14,.slice a0_16 x0.hops.length c0_17,.slice g.2.1 g.1.1.length g.2.2.1,.slice g.2.2.2.1 g.1.2.1.length g.2.2.2.2,.string (bs g.1.2.2.1),.bool g.1.2.2.2.1] Eb0,Res.rowS 227 5 encHop (.slice a0_16 x0.hops.length c0_17) x0.hops,Res.rowS 207 6 encFBox (.slice g.2.1 g.1.1.length g.2.2.1) g.1.1,Res.rowS 3 1 eI_ (.slice g.2.2.2.1 g.1.2.1.length g.2.2.2.2) g.1.2.1,Res.cells b115 #[.int .i64 ((((nth x0.row x1.toNat FBox.zero).what).at').p),.int .i64 ((((nth x0.row x1.toNat FBox.zero).what).at').q)] 202,Res.cells b196 #[.int .i64 ((nth x0.t.arcs ((nth (nth x0.arcs (((((nth x0.row x1.toNat FBox.zero).what).at').p).toNat) ([]:List Int)) k151 (0:Int)).toNat) Arc.zero).frm),.int .i64 ((nth x0.t.arcs ((nth (nth x0.arcs (((((nth x0.row x1.toNat FBox.zero).what).at').p).toNat) ([]:List Int)) k151 (0:Int)).toNat) Arc.zero).to),.int .u64 ((((nth x0.t.arcs ((nth (nth x0.arcs (((((nth x0.row x1.toNat FBox.zero).what).at').p).toNat) ([]:List Int)) k151 (0:Int)).toNat) Arc.zero).set).a:Nat):Int),.int .u64 ((((nth x0.t.arcs ((nth (nth x0.arcs (((((nth x0.row x1.toNat FBox.zero).what).at').p).toNat) ([]:List Int)) k151 (0:Int)).toNat) Arc.zero).set).b:Nat):Int),.int .u64 ((((nth x0.t.arcs ((nth (nth x0.arcs (((((nth x0.row x1.toNat FBox.zero).what).at').p).toNat) ([]:List Int)) k151 (0:Int)).toNat) Arc.zero).set).c:Nat):Int),.int .u64 ((((nth x0.t.arcs ((nth (nth x0.arcs (((((nth x0.row x1.toNat FBox.zero).what).at').p).toNat) ([]:List Int)) k151 (0:Int)).toNat) Arc.zero).set).d:Nat):Int),.string (bs ((nth x0.t.arcs ((nth (nth x0.arcs (((((nth x0.row x1.toNat FBox.zero).what).at').p).toNat) ([]:List Int)) k151 (0:Int)).toNat) Arc.zero).out)),.bool ((nth x0.t.arcs ((nth (nth x0.arcs (((((nth x0.row x1.toNat FBox.zero).what).at').p).toNat) ([]:List Int)) k151 (0:Int)).toNat) Arc.zero).copy)] 66,Res.cells b198 #[.int .i64 ((nth x0.t.arcs ((nth (nth x0.arcs (((((nth x0.row x1.toNat FBox.zero).what).at').q).toNat) ([]:List Int)) k190 (0:Int)).toNat) Arc.zero).frm),.int .i64 ((nth x0.t.arcs ((nth (nth x0.arcs (((((nth x0.row x1.toNat FBox.zero).what).at').q).toNat) ([]:List Int)) k190 (0:Int)).toNat) Arc.zero).to),.int .u64 ((((nth x0.t.arcs ((nth (nth x0.arcs (((((nth x0.row x1.toNat FBox.zero).what).at').q).toNat) ([]:List Int)) k190 (0:Int)).toNat) Arc.zero).set).a:Nat):Int),.int .u64 ((((nth x0.t.arcs ((nth (nth x0.arcs (((((nth x0.row x1.toNat FBox.zero).what).at').q).toNat) ([]:List Int)) k190 (0:Int)).toNat) Arc.zero).set).b:Nat):Int),.int .u64 ((((nth x0.t.arcs ((nth (nth x0.arcs (((((nth x0.row x1.toNat FBox.zero).what).at').q).toNat) ([]:List Int)) k190 (0:Int)).toNat) Arc.zero).set).c:Nat):Int),.int .u64 ((((nth x0.t.arcs ((nth (nth x0.arcs (((((nth x0.row x1.toNat FBox.zero).what).at').q).toNat) ([]:List Int)) k190 (0:Int)).toNat) Arc.zero).set).d:Nat):Int),.string (bs ((nth x0.t.arcs ((nth (nth x0.arcs (((((nth x0.row x1.toNat FBox.zero).what).at').q).toNat) ([]:List Int)) k190 (0:Int)).toNat) Arc.zero).out)),.bool ((nth x0.t.arcs ((nth (nth x0.arcs (((((nth x0.row x1.toNat FBox.zero).what).at').q).toNat) ([]:List Int)) k190 (0:Int)).toNat) Arc.zero).copy)] 66,Res.cells b214 (setA v64) 64]) (fun g=>σ) (fun g=>iter (fun q:(List FBox)×(List Int)×(List UInt8)×Bool×Nat=>Am_ v64 x0 x1 k151 k190 q.1 q.2.1 q.2.2.1 q.2.2.2.1 q.2.2.2.2) g.1=some z2) (fun g=>rounds (fun q:(List FBox)×(List Int)×(List UInt8)×Bool×Nat=>Am_ v64 x0 x1 k151 k190 q.1 q.2.1 q.2.2.1 q.2.2.2.1 q.2.2.2.2) g.1) ((l181,l185,s188,t189,0),(a182,c183,a186,c187)) (Sub.f [7,7,7,7,7,7,7] 8) z (by repeat (first|exact trivial|refine ⟨z,?_⟩)) hh (fun g3 j3 hg3=> ?_)))))
     obtain ⟨⟨l255,l259,s262,t263,k264⟩,⟨a256,c257,a260,c261⟩⟩:=g3
     have hh:=hg3;clear hg3
     try dsimp only
     obtain ⟨z3,hh,hR3⟩:=iter_e hh
     dsimp only [Am_]at hh
     refine TC.isSl (i:=1) z (fun _ hb265 _=> ?_)
     refine TC.isSl (i:=2) z (fun _ hb266 _=> ?_)
     refine TC.isSl (i:=3) z (fun _ hb267 _=> ?_)
     refine TC.a (TL.w z (OpVal.lss z z z) (TL.en (TC.seq (TC.cD z hh (fun h268 hh=> ?_) (fun h268 hh=> ?_)))))
     ·refine TC.skip (S.n (TC.cutG (α:=((List FBox)×(List Int)×(List UInt8)×Bool)×((Option Addr)×Nat×(Option Addr)×Nat)) (rgs [(14,1),(93,12)]) (fun g=>[]) (fun g=>[Res.cells b0_0 #[.int .i64 x0.t.states,.slice a0_1 x0.t.starts.length c0_2,.slice a0_4 x0.t.ends.length c0_5,.slice a0_7 x0.t.arcs.length c0_8,.slice a0_10 x0.arcs.length c0_11,.slice a0_13 x0.ends.length c0_14,.slice a0_16 x0.hops.length c0_17,.slice g.2.1 g.1.1.length g.2.2.1,.slice g.2.2.2.1 g.1.2.1.length g.2.2.2.2,.string (bs g.1.2.2.1),.bool g.1.2.2.2] Eb0,Res.rowS 227 5 encHop (.slice a0_16 x0.hops.length c0_17) x0.hops,Res.rowS 207 6 encFBox (.slice g.2.1 g.1.1.length g.2.2.1) g.1.1,Res.rowS 3 1 eI_ (.slice g.2.2.2.1 g.1.2.1.length g.2.2.2.2) g.1.2.1,Res.cells b115 #[.int .i64 ((((nth x0.row x1.toNat FBox.zero).what).at').p),.int .i64 ((((nth x0.row x1.toNat FBox.zero).what).at').q)] 202,Res.cells b196 #[.int .i64 ((nth x0.t.arcs ((nth (nth x0.arcs (((((nth x0.row x1.toNat FBox.zero).what).at').p).toNat) ([]:List Int)) k151 (0:Int)).toNat) Arc.zero).frm),.int .i64 ((nth x0.t.arcs ((nth (nth x0.arcs (((((nth x0.row x1.toNat FBox.zero).what).at').p).toNat) ([]:List Int)) k151 (0:Int)).toNat) Arc.zero).to),.int .u64 ((((nth x0.t.arcs ((nth (nth x0.arcs (((((nth x0.row x1.toNat FBox.zero).what).at').p).toNat) ([]:List Int)) k151 (0:Int)).toNat) Arc.zero).set).a:Nat):Int),.int .u64 ((((nth x0.t.arcs ((nth (nth x0.arcs (((((nth x0.row x1.toNat FBox.zero).what).at').p).toNat) ([]:List Int)) k151 (0:Int)).toNat) Arc.zero).set).b:Nat):Int),.int .u64 ((((nth x0.t.arcs ((nth (nth x0.arcs (((((nth x0.row x1.toNat FBox.zero).what).at').p).toNat) ([]:List Int)) k151 (0:Int)).toNat) Arc.zero).set).c:Nat):Int),.int .u64 ((((nth x0.t.arcs ((nth (nth x0.arcs (((((nth x0.row x1.toNat FBox.zero).what).at').p).toNat) ([]:List Int)) k151 (0:Int)).toNat) Arc.zero).set).d:Nat):Int),.string (bs ((nth x0.t.arcs ((nth (nth x0.arcs (((((nth x0.row x1.toNat FBox.zero).what).at').p).toNat) ([]:List Int)) k151 (0:Int)).toNat) Arc.zero).out)),.bool ((nth x0.t.arcs ((nth (nth x0.arcs (((((nth x0.row x1.toNat FBox.zero).what).at').p).toNat) ([]:List Int)) k151 (0:Int)).toNat) Arc.zero).copy)] 66,Res.cells b198 #[.int .i64 ((nth x0.t.arcs ((nth (nth x0.arcs (((((nth x0.row x1.toNat FBox.zero).what).at').q).toNat) ([]:List Int)) k190 (0:Int)).toNat) Arc.zero).frm),.int .i64 ((nth x0.t.arcs ((nth (nth x0.arcs (((((nth x0.row x1.toNat FBox.zero).what).at').q).toNat) ([]:List Int)) k190 (0:Int)).toNat) Arc.zero).to),.int .u64 ((((nth x0.t.arcs ((nth (nth x0.arcs (((((nth x0.row x1.toNat FBox.zero).what).at').q).toNat) ([]:List Int)) k190 (0:Int)).toNat) Arc.zero).set).a:Nat):Int),.int .u64 ((((nth x0.t.arcs ((nth (nth x0.arcs (((((nth x0.row x1.toNat FBox.zero).what).at').q).toNat) ([]:List Int)) k190 (0:Int)).toNat) Arc.zero).set).b:Nat):Int),.int .u64 ((((nth x0.t.arcs ((nth (nth x0.arcs (((((nth x0.row x1.toNat FBox.zero).what).at').q).toNat) ([]:List Int)) k190 (0:Int)).toNat) Arc.zero).set).c:Nat):Int),.int .u64 ((((nth x0.t.arcs ((nth (nth x0.arcs (((((nth x0.row x1.toNat FBox.zero).what).at').q).toNat) ([]:List Int)) k190 (0:Int)).toNat) Arc.zero).set).d:Nat):Int),.string (bs ((nth x0.t.arcs ((nth (nth x0.arcs (((((nth x0.row x1.toNat FBox.zero).what).at').q).toNat) ([]:List Int)) k190 (0:Int)).toNat) Arc.zero).out)),.bool ((nth x0.t.arcs ((nth (nth x0.arcs (((((nth x0.row x1.toNat FBox.zero).what).at').q).toNat) ([]:List Int)) k190 (0:Int)).toNat) Arc.zero).copy)] 66,Res.cells b214 (setA v64) 64]) (fun g=>σ) (fun g=>Co_ k264 g.1.1 g.1.2.1 g.1.2.2.1 g.1.2.2.2=some z3) ?_ (fun g j hg=> ?_)))
      ·skip
       refine TC.block (TC.a (TL.i z z (TL.i z z (TL.en (TC.a (TL.w z (loadAll z ag64 sz64 z (i:=7) z z) (TL.i z z (TL.w z (convU8 z underlying3 underlying5 z) (TL.op z (callP (has_con _ v64 (toU8 ((k264:Nat):Int)).toNat (BSet.isOk _) (UInt8.toNat_lt _)) z z pf102 z z z ?_))))))))))
       refine TL.en (TC.cB z hh (fun h279 hh=> ?_) (fun h279 hh=> ?_))
       ·refine TC.region (TL.l z z (TL.i z z (TL.w z (loadAll z ag66 sz66 z (i:=5) z z) (TL.w z (loadAll z ag66 sz66 z (i:=6) z z) (TL.i z z (TL.w z (convU8 z underlying3 underlying5 z) (TL.front 3 z z (TL.front 3 z z (TL.front 3 z z (TL.front 3 z z ?_))))))))))
        obtain ⟨v103,u103,hh⟩:=bnd_e hh
        refine TL.op z (OpOk.call (Dt_ (x0:=(⟨x0.t,x0.arcs,x0.ends,x0.hops,l255,l259,s262,t263⟩:Search)) f0_3 f0_6 f0_9 f0_12 f0_15 u103) z z pf176 z z z z ?_)
        rintro _ _ _ hle280 ⟨a280_1,c280_2,a280_3,c280_4,rfl,rfl,rfl⟩
        exact TL.nil (B.n (S.n (cf ((v103.row,v103.place,v103.text,v103.found),(a280_1,c280_2,a280_3,c280_4)) hh (Sub.f [7,7,7,7,7,7,7,7] 8))))
       exact TC.skip (B.n (S.n (cf ((l255,l259,s262,t263),(a256,c257,a260,c261)) hh (Sub.f [7,7,7,7,7,7,7,7] 8))))
      skip
      obtain ⟨⟨l270,l274,s277,t278⟩,⟨a271,c272,a275,c276⟩⟩:=g
      have hh:=hg;clear hg
      try dsimp only
      dsimp only [Co_]at hh
      refine TC.isSl (i:=1) z (fun _ hb283 _=> ?_)
      refine TC.isSl (i:=2) z (fun _ hb284 _=> ?_)
      refine TC.isSl (i:=3) z (fun _ hb285 _=> ?_)
      refine TC.region (TL.w z (OpVal.succ z z z (by omega)) (TL.i z z (TL.en ?_)))
      obtain ⟨hh,hlt286⟩:=nxt_x hR3 hh
      exact lf ((l270,l274,s277,t278,(k264+1)),(a271,c272,a275,c276)) hlt286 hh (Sub.f [7,7,7,7,7,7,7,7] 8)
     refine TC.exit (S.x (S.x ?_))
     replace hh:=fin_x hR3 hh
     exact TC.exitHere (S.n (cf ((l255,l259,s262,t263),(a256,c257,a260,c261)) hh (Sub.f [4,4,4,4,4] 5)))
    replace hh:=iteO_f h226 hh
    refine TL.f z (TL.f z (TL.f z (TL.w z (pickFB z z z) (TL.en (TC.f z (TC.a (TL.i z z (TL.en (TC.block (TC.loopG (α:=((List FBox)×(List Int)×(List UInt8)×Bool×Nat)×((Option Addr)×Nat×(Option Addr)×Nat)) (rgs [(14,1),(91,15)]) (fun g=>[(91,.int .i64 ((g.1.2.2.2.2:Nat):Int))]) (fun g=>[Res.cells b0_0 #[.int .i64 x0.t.states,.slice a0_1 x0.t.starts.length c0_2,.slice a0_4 x0.t.ends.length c0_5,.slice a0_7 x0.t.arcs.length c0_8,.slice a0_10 x0.arcs.length c0_11,.slice a0_13 x0.ends.length c0_14,.slice a0_16 x0.hops.length c0_17,.slice g.2.1 g.1.1.length g.2.2.1,.slice g.2.2.2.1 g.1.2.1.length g.2.2.2.2,.string (bs g.1.2.2.1),.bool g.1.2.2.2.1] Eb0,Res.rowS 227 5 encHop (.slice a0_16 x0.hops.length c0_17) x0.hops,Res.rowS 207 6 encFBox (.slice g.2.1 g.1.1.length g.2.2.1) g.1.1,Res.rowS 3 1 eI_ (.slice g.2.2.2.1 g.1.2.1.length g.2.2.2.2) g.1.2.1,Res.cells b115 #[.int .i64 ((((nth x0.row x1.toNat FBox.zero).what).at').p),.int .i64 ((((nth x0.row x1.toNat FBox.zero).what).at').q)] 202,Res.cells b196 #[.int .i64 ((nth x0.t.arcs ((nth (nth x0.arcs (((((nth x0.row x1.toNat FBox.zero).what).at').p).toNat) ([]:List Int)) k151 (0:Int)).toNat) Arc.zero).frm),.int .i64 ((nth x0.t.arcs ((nth (nth x0.arcs (((((nth x0.row x1.toNat FBox.zero).what).at').p).toNat) ([]:List Int)) k151 (0:Int)).toNat) Arc.zero).to),.int .u64 ((((nth x0.t.arcs ((nth (nth x0.arcs (((((nth x0.row x1.toNat FBox.zero).what).at').p).toNat) ([]:List Int)) k151 (0:Int)).toNat) Arc.zero).set).a:Nat):Int),.int .u64 ((((nth x0.t.arcs ((nth (nth x0.arcs (((((nth x0.row x1.toNat FBox.zero).what).at').p).toNat) ([]:List Int)) k151 (0:Int)).toNat) Arc.zero).set).b:Nat):Int),.int .u64 ((((nth x0.t.arcs ((nth (nth x0.arcs (((((nth x0.row x1.toNat FBox.zero).what).at').p).toNat) ([]:List Int)) k151 (0:Int)).toNat) Arc.zero).set).c:Nat):Int),.int .u64 ((((nth x0.t.arcs ((nth (nth x0.arcs (((((nth x0.row x1.toNat FBox.zero).what).at').p).toNat) ([]:List Int)) k151 (0:Int)).toNat) Arc.zero).set).d:Nat):Int),.string (bs ((nth x0.t.arcs ((nth (nth x0.arcs (((((nth x0.row x1.toNat FBox.zero).what).at').p).toNat) ([]:List Int)) k151 (0:Int)).toNat) Arc.zero).out)),.bool ((nth x0.t.arcs ((nth (nth x0.arcs (((((nth x0.row x1.toNat FBox.zero).what).at').p).toNat) ([]:List Int)) k151 (0:Int)).toNat) Arc.zero).copy)] 66,Res.cells b198 #[.int .i64 ((nth x0.t.arcs ((nth (nth x0.arcs (((((nth x0.row x1.toNat FBox.zero).what).at').q).toNat) ([]:List Int)) k190 (0:Int)).toNat) Arc.zero).frm),.int .i64 ((nth x0.t.arcs ((nth (nth x0.arcs (((((nth x0.row x1.toNat FBox.zero).what).at').q).toNat) ([]:List Int)) k190 (0:Int)).toNat) Arc.zero).to),.int .u64 ((((nth x0.t.arcs ((nth (nth x0.arcs (((((nth x0.row x1.toNat FBox.zero).what).at').q).toNat) ([]:List Int)) k190 (0:Int)).toNat) Arc.zero).set).a:Nat):Int),.int .u64 ((((nth x0.t.arcs ((nth (nth x0.arcs (((((nth x0.row x1.toNat FBox.zero).what).at').q).toNat) ([]:List Int)) k190 (0:Int)).toNat) Arc.zero).set).b:Nat):Int),.int .u64 ((((nth x0.t.arcs ((nth (nth x0.arcs (((((nth x0.row x1.toNat FBox.zero).what).at').q).toNat) ([]:List Int)) k190 (0:Int)).toNat) Arc.zero).set).c:Nat):Int),.int .u64 ((((nth x0.t.arcs ((nth (nth x0.arcs (((((nth x0.row x1.toNat FBox.zero).what).at').q).toNat) ([]:List Int)) k190 (0:Int)).toNat) Arc.zero).set).d:Nat):Int),.string (bs ((nth x0.t.arcs ((nth (nth x0.arcs (((((nth x0.row x1.toNat FBox.zero).what).at').q).toNat) ([]:List Int)) k190 (0:Int)).toNat) Arc.zero).out)),.bool ((nth x0.t.arcs ((nth (nth x0.arcs (((((nth x0.row x1.toNat FBox.zero).what).at').q).toNat) ([]:List Int)) k190 (0:Int)).toNat) Arc.zero).copy)] 66,Res.cells b214 (setA v64) 64]) (fun g=>σ) (fun g=>iter (fun q:(List FBox)×(List Int)×(List UInt8)×Bool×Nat=>Cp_ v64 x0 x1 k151 k190 q.1 q.2.1 q.2.2.1 q.2.2.2.1 q.2.2.2.2) g.1=some z2) (fun g=>rounds (fun q:(List FBox)×(List Int)×(List UInt8)×Bool×Nat=>Cp_ v64 x0 x1 k151 k190 q.1 q.2.1 q.2.2.1 q.2.2.2.1 q.2.2.2.2) g.1) ((l181,l185,s188,t189,0),(a182,c183,a186,c187)) (Sub.f [7,7,7,7,7,7,7] 8) z (by repeat (first|exact trivial|refine ⟨z,?_⟩)) hh (fun g4 j4 hg4=> ?_)))))))))))
    obtain ⟨⟨l310,l314,s317,t318,k319⟩,⟨a311,c312,a315,c316⟩⟩:=g4
    have hh:=hg4;clear hg4
    try dsimp only
    obtain ⟨z3,hh,hR3⟩:=iter_e hh
    dsimp only [Cp_]at hh
    refine TC.isSl (i:=1) z (fun _ hb320 _=> ?_)
    refine TC.isSl (i:=2) z (fun _ hb321 _=> ?_)
    refine TC.isSl (i:=3) z (fun _ hb322 _=> ?_)
    refine TC.a (TL.w z (OpVal.lss z z z) (TL.en (TC.seq (TC.cD z hh (fun h323 hh=> ?_) (fun h323 hh=> ?_)))))
    ·refine TC.skip (S.n (TC.cutG (α:=((List FBox)×(List Int)×(List UInt8)×Bool)×((Option Addr)×Nat×(Option Addr)×Nat)) (rgs [(14,1),(93,12)]) (fun g=>[]) (fun g=>[Res.cells b0_0 #[.int .i64 x0.t.states,.slice a0_1 x0.t.starts.length c0_2,.slice a0_4 x0.t.ends.length c0_5,.slice a0_7 x0.t.arcs.length c0_8,.slice a0_10 x0.arcs.length c0_11,.slice a0_13 x0.ends.length c0_14,.slice a0_16 x0.hops.length c0_17,.slice g.2.1 g.1.1.length g.2.2.1,.slice g.2.2.2.1 g.1.2.1.length g.2.2.2.2,.string (bs g.1.2.2.1),.bool g.1.2.2.2] Eb0,Res.rowS 227 5 encHop (.slice a0_16 x0.hops.length c0_17) x0.hops,Res.rowS 207 6 encFBox (.slice g.2.1 g.1.1.length g.2.2.1) g.1.1,Res.rowS 3 1 eI_ (.slice g.2.2.2.1 g.1.2.1.length g.2.2.2.2) g.1.2.1,Res.cells b115 #[.int .i64 ((((nth x0.row x1.toNat FBox.zero).what).at').p),.int .i64 ((((nth x0.row x1.toNat FBox.zero).what).at').q)] 202,Res.cells b196 #[.int .i64 ((nth x0.t.arcs ((nth (nth x0.arcs (((((nth x0.row x1.toNat FBox.zero).what).at').p).toNat) ([]:List Int)) k151 (0:Int)).toNat) Arc.zero).frm),.int .i64 ((nth x0.t.arcs ((nth (nth x0.arcs (((((nth x0.row x1.toNat FBox.zero).what).at').p).toNat) ([]:List Int)) k151 (0:Int)).toNat) Arc.zero).to),.int .u64 ((((nth x0.t.arcs ((nth (nth x0.arcs (((((nth x0.row x1.toNat FBox.zero).what).at').p).toNat) ([]:List Int)) k151 (0:Int)).toNat) Arc.zero).set).a:Nat):Int),.int .u64 ((((nth x0.t.arcs ((nth (nth x0.arcs (((((nth x0.row x1.toNat FBox.zero).what).at').p).toNat) ([]:List Int)) k151 (0:Int)).toNat) Arc.zero).set).b:Nat):Int),.int .u64 ((((nth x0.t.arcs ((nth (nth x0.arcs (((((nth x0.row x1.toNat FBox.zero).what).at').p).toNat) ([]:List Int)) k151 (0:Int)).toNat) Arc.zero).set).c:Nat):Int),.int .u64 ((((nth x0.t.arcs ((nth (nth x0.arcs (((((nth x0.row x1.toNat FBox.zero).what).at').p).toNat) ([]:List Int)) k151 (0:Int)).toNat) Arc.zero).set).d:Nat):Int),.string (bs ((nth x0.t.arcs ((nth (nth x0.arcs (((((nth x0.row x1.toNat FBox.zero).what).at').p).toNat) ([]:List Int)) k151 (0:Int)).toNat) Arc.zero).out)),.bool ((nth x0.t.arcs ((nth (nth x0.arcs (((((nth x0.row x1.toNat FBox.zero).what).at').p).toNat) ([]:List Int)) k151 (0:Int)).toNat) Arc.zero).copy)] 66,Res.cells b198 #[.int .i64 ((nth x0.t.arcs ((nth (nth x0.arcs (((((nth x0.row x1.toNat FBox.zero).what).at').q).toNat) ([]:List Int)) k190 (0:Int)).toNat) Arc.zero).frm),.int .i64 ((nth x0.t.arcs ((nth (nth x0.arcs (((((nth x0.row x1.toNat FBox.zero).what).at').q).toNat) ([]:List Int)) k190 (0:Int)).toNat) Arc.zero).to),.int .u64 ((((nth x0.t.arcs ((nth (nth x0.arcs (((((nth x0.row x1.toNat FBox.zero).what).at').q).toNat) ([]:List Int)) k190 (0:Int)).toNat) Arc.zero).set).a:Nat):Int),.int .u64 ((((nth x0.t.arcs ((nth (nth x0.arcs (((((nth x0.row x1.toNat FBox.zero).what).at').q).toNat) ([]:List Int)) k190 (0:Int)).toNat) Arc.zero).set).b:Nat):Int),.int .u64 ((((nth x0.t.arcs ((nth (nth x0.arcs (((((nth x0.row x1.toNat FBox.zero).what).at').q).toNat) ([]:List Int)) k190 (0:Int)).toNat) Arc.zero).set).c:Nat):Int),.int .u64 ((((nth x0.t.arcs ((nth (nth x0.arcs (((((nth x0.row x1.toNat FBox.zero).what).at').q).toNat) ([]:List Int)) k190 (0:Int)).toNat) Arc.zero).set).d:Nat):Int),.string (bs ((nth x0.t.arcs ((nth (nth x0.arcs (((((nth x0.row x1.toNat FBox.zero).what).at').q).toNat) ([]:List Int)) k190 (0:Int)).toNat) Arc.zero).out)),.bool ((nth x0.t.arcs ((nth (nth x0.arcs (((((nth x0.row x1.toNat FBox.zero).what).at').q).toNat) ([]:List Int)) k190 (0:Int)).toNat) Arc.zero).copy)] 66,Res.cells b214 (setA v64) 64]) (fun g=>σ) (fun g=>Dn_ k319 g.1.1 g.1.2.1 g.1.2.2.1 g.1.2.2.2=some z3) ?_ (fun g j hg=> ?_)))
     ·skip
      refine TC.block (TC.a (TL.i z z (TL.i z z (TL.en (TC.a (TL.w z (loadAll z ag64 sz64 z (i:=7) z z) (TL.i z z (TL.w z (convU8 z underlying3 underlying5 z) (TL.op z (callP (has_con _ v64 (toU8 ((k319:Nat):Int)).toNat (BSet.isOk _) (UInt8.toNat_lt _)) z z pf102 z z z ?_))))))))))
      refine TL.en (TC.cB z hh (fun h334 hh=> ?_) (fun h334 hh=> ?_))
      ·refine TC.region (TL.l z z (TL.i z z (TL.w z (loadAll z ag66 sz66 z (i:=5) z z) (TL.w z (loadAll z ag66 sz66 z (i:=6) z z) (TL.i z z (TL.w z (convU8 z underlying3 underlying5 z) (TL.front 3 z z (TL.front 3 z z (TL.front 3 z z (TL.front 3 z z ?_))))))))))
       obtain ⟨v103,u103,hh⟩:=bnd_e hh
       refine TL.op z (OpOk.call (Dt_ (x0:=(⟨x0.t,x0.arcs,x0.ends,x0.hops,l310,l314,s317,t318⟩:Search)) f0_3 f0_6 f0_9 f0_12 f0_15 u103) z z pf176 z z z z ?_)
       rintro _ _ _ hle335 ⟨a335_1,c335_2,a335_3,c335_4,rfl,rfl,rfl⟩
       exact TL.nil (B.n (S.n (cf ((v103.row,v103.place,v103.text,v103.found),(a335_1,c335_2,a335_3,c335_4)) hh (Sub.f [7,7,7,7,7,7,7,7] 8))))
      exact TC.skip (B.n (S.n (cf ((l310,l314,s317,t318),(a311,c312,a315,c316)) hh (Sub.f [7,7,7,7,7,7,7,7] 8))))
     skip
     obtain ⟨⟨l325,l329,s332,t333⟩,⟨a326,c327,a330,c331⟩⟩:=g
     have hh:=hg;clear hg
     try dsimp only
     dsimp only [Dn_]at hh
     refine TC.isSl (i:=1) z (fun _ hb338 _=> ?_)
     refine TC.isSl (i:=2) z (fun _ hb339 _=> ?_)
     refine TC.isSl (i:=3) z (fun _ hb340 _=> ?_)
     refine TC.region (TL.w z (OpVal.succ z z z (by omega)) (TL.i z z (TL.en ?_)))
     obtain ⟨hh,hlt341⟩:=nxt_x hR3 hh
     exact lf ((l325,l329,s332,t333,(k319+1)),(a326,c327,a330,c331)) hlt341 hh (Sub.f [7,7,7,7,7,7,7,7] 8)
    refine TC.exit (S.x (S.x ?_))
    replace hh:=fin_x hR3 hh
    exact TC.exitHere (S.n (cf ((l310,l314,s317,t318),(a311,c312,a315,c316)) hh (Sub.f [4,4,4,4,4] 5)))
   skip
   obtain ⟨⟨l217,l221,s224,t225⟩,⟨a218,c219,a222,c223⟩⟩:=g
   have hh:=hg;clear hg
   try dsimp only
   dsimp only [Al_]at hh
   refine TC.isSl (i:=1) z (fun _ hb342 _=> ?_)
   refine TC.isSl (i:=2) z (fun _ hb343 _=> ?_)
   refine TC.isSl (i:=3) z (fun _ hb344 _=> ?_)
   refine TC.a (TL.l z z (TL.w z (nilCheckLoc z z) (TL.w z (fieldLoc z fo165_7 z) (TL.w z (loadLoc z ag4 z (i:=0) z z) (TL.en (TC.cB z hh (fun h345 hh=> ?_) (fun h345 hh=> ?_)))))))
   ·refine TC.ofSub (Sub.f [3,3,3,3] 4) (TC.ret (B.r (S.r (S.r ?_))))
    replace hh:=fin_x hR2 hh
    refine B.r (B.r (S.r (S.r ?_)))
    replace hh:=fin_x hR1 hh
    refine B.r ?_
    obtain rfl:=so hh
    refine ⟨_,Sub.f [3,3,3,3] 4,?_⟩
    exact ro [Res.cells b0_0 #[.int .i64 x0.t.states,.slice a0_1 x0.t.starts.length c0_2,.slice a0_4 x0.t.ends.length c0_5,.slice a0_7 x0.t.arcs.length c0_8,.slice a0_10 x0.arcs.length c0_11,.slice a0_13 x0.ends.length c0_14,.slice a0_16 x0.hops.length c0_17,.slice a218 l217.length c219,.slice a222 l221.length c223,.string (bs s224),.bool t225] Eb0,Res.rowS 227 5 encHop (.slice a0_16 x0.hops.length c0_17) x0.hops,Res.rowS 207 6 encFBox (.slice a218 l217.length c219) l217,Res.rowS 3 1 eI_ (.slice a222 l221.length c223) l221] z RVs.nil ⟨a218,c219,a222,c223,z,z,z⟩
   refine TC.skip (B.n (S.n (TC.region (TL.w z (OpVal.succ z z z (by omega)) (TL.i z z (TL.en ?_))))))
   obtain ⟨hh,hlt346⟩:=nxt_x hR2 hh
   exact lf ((l217,l221,s224,t225,(k190+1)),(a218,c219,a222,c223)) hlt346 hh (Sub.f [4,4,4,4,4] 5)
  refine TC.exit (S.x (S.x ?_))
  replace hh:=fin_x hR2 hh
  refine TC.exitHere (B.n (S.n (TC.region (TL.w z (OpVal.succ z z z (by omega)) (TL.i z z (TL.en ?_))))))
  obtain ⟨hh,hlt347⟩:=nxt_x hR1 hh
  exact lf ((l181,l185,s188,t189,(k151+1)),(a182,c183,a186,c187)) hlt347 hh (Sub.f [4,4,4,4,4] 5)
 refine TC.exit (S.x (S.x ?_))
 replace hh:=fin_x hR1 hh
 refine TC.exitHere ?_
 obtain rfl:=so hh
 refine ⟨_,Sub.f [3,3,3,3] 4,?_⟩
 exact RetOk.mk' (rs:=[]) [Res.cells b0_0 #[.int .i64 x0.t.states,.slice a0_1 x0.t.starts.length c0_2,.slice a0_4 x0.t.ends.length c0_5,.slice a0_7 x0.t.arcs.length c0_8,.slice a0_10 x0.arcs.length c0_11,.slice a0_13 x0.ends.length c0_14,.slice a0_16 x0.hops.length c0_17,.slice a143 l142.length c144,.slice a147 l146.length c148,.string (bs s149),.bool t150] Eb0,Res.rowS 227 5 encHop (.slice a0_16 x0.hops.length c0_17) x0.hops,Res.rowS 207 6 encFBox (.slice a143 l142.length c144) l142,Res.rowS 3 1 eI_ (.slice a147 l146.length c148) l146] z (.inr z) RVs.nil (List.sublist_append_left _ _) ⟨a143,c144,a147,c148,z,z,z⟩
def Ay_(x0:Search)(k147:Nat)(v2:Search)(l177:List FBox)(l181:List Int)(s184:List UInt8)(t185:Bool)(k186:Nat):Option (((List FBox)×(List Int)×(List UInt8)×Bool×Nat)⊕(((List FBox)×(List Int)×(List UInt8)×Bool×Nat)⊕(Search))):=
 iteO (decide (((k186:Nat):Int)<((x0.t.starts.length:Nat):Int))) (bnd (En_ ((nth x0.t.starts k147 Tip.zero).out) ((nth x0.t.starts k186 Tip.zero).out)) (fun v31=>bnd (Cc_ (⟨x0.t,x0.arcs,x0.ends,v2.hops,l177,l181,s184,t185⟩:Search) (⟨(⟨(⟨(nth x0.t.starts k147 Tip.zero).state,(nth x0.t.starts k186 Tip.zero).state⟩:FPr),(⟨v31.1,v31.2⟩:SPr)⟩:Visit),(-1),(0:UInt8)⟩:FBox)) (fun v48=>nxt (v48.row,v48.place,v48.text,v48.found,(k186+1))))) (fin (nxt (l177,l181,s184,t185,(k147+1))))
def An_(x0:Search)(v2:Search)(l221:List FBox)(l225:List Int)(s228:List UInt8)(t229:Bool)(k230:Nat):Option (((List FBox)×(List Int)×(List UInt8)×Bool×Nat)⊕(Search)):=
 iteO (decide (((k230:Nat):Int)<((l221.length:Nat):Int))) (iteO (!t229) (bnd (Dq_ (⟨x0.t,x0.arcs,x0.ends,v2.hops,l221,l225,s228,t229⟩:Search) ((k230:Nat):Int)) (fun v70=>nxt (v70.row,v70.place,v70.text,v70.found,(k230+1)))) (fin (some (⟨x0.t,x0.arcs,x0.ends,v2.hops,l221,l225,s228,t229⟩:Search)))) (fin (some (⟨x0.t,x0.arcs,x0.ends,v2.hops,l221,l225,s228,t229⟩:Search)))
def A2_(x0:Search)(v2:Search)(l138:List FBox)(l142:List Int)(s145:List UInt8)(t146:Bool)(k147:Nat):Option (((List FBox)×(List Int)×(List UInt8)×Bool×Nat)⊕(Search)):=
 iteO (decide (((k147:Nat):Int)<((x0.t.starts.length:Nat):Int))) (iter (fun q:(List FBox)×(List Int)×(List UInt8)×Bool×Nat=>Ay_ x0 k147 v2 q.1 q.2.1 q.2.2.1 q.2.2.2.1 q.2.2.2.2) (l138,l142,s145,t146,0)) (fin (iter (fun q:(List FBox)×(List Int)×(List UInt8)×Bool×Nat=>An_ x0 v2 q.1 q.2.1 q.2.2.1 q.2.2.2.1 q.2.2.2.2) (l138,l142,s145,t146,0)))
def Dh_(x0:Search):Option (Search):=
 bnd (C0_ x0) (fun v2=>iter (fun q:(List FBox)×(List Int)×(List UInt8)×Bool×Nat=>A2_ x0 v2 q.1 q.2.1 q.2.2.1 q.2.2.2.1 q.2.2.2.2) (x0.row,x0.place,x0.text,x0.found,0))
theorem F6_{x0:Search}(hgl:GT2 σ 1 2)(f0_3:RS σ 2 encTip (.slice a0_1 x0.t.starts.length c0_2) x0.t.starts)(f0_6:RS σ 2 encTip (.slice a0_4 x0.t.ends.length c0_5) x0.t.ends)(f0_9:RS σ 8 encArc (.slice a0_7 x0.t.arcs.length c0_8) x0.t.arcs)(f0_12:RZ σ (pkSl 1 eI_ eIl_) (.slice a0_10 x0.arcs.length c0_11) x0.arcs)(f0_15:RZ σ (pkSl 1 eS_ eSl_) (.slice a0_13 x0.ends.length c0_14) x0.ends){r:Search}(hh:Dh_ x0=some r):
  Con Tryz.prog 108 #[loc b0_0 0] σ [Res.cells b0_0 #[.int .i64 x0.t.states,.slice a0_1 x0.t.starts.length c0_2,.slice a0_4 x0.t.ends.length c0_5,.slice a0_7 x0.t.arcs.length c0_8,.slice a0_10 x0.arcs.length c0_11,.slice a0_13 x0.ends.length c0_14,.slice a0_16 x0.hops.length c0_17,.slice a0_18 x0.row.length c0_19,.slice a0_20 x0.place.length c0_21,.string (bs x0.text),.bool x0.found] Eb0,Res.rowS 227 5 encHop (.slice a0_16 x0.hops.length c0_17) x0.hops,Res.rowS 207 6 encFBox (.slice a0_18 x0.row.length c0_19) x0.row,Res.rowS 3 1 eI_ (.slice a0_20 x0.place.length c0_21) x0.place] (fun v σ' H'=> ∃ao1 co2 ao3 co4 ao5 co6,v= .tuple #[]∧H'=[Res.cells b0_0 #[.int .i64 x0.t.states,.slice a0_1 x0.t.starts.length c0_2,.slice a0_4 x0.t.ends.length c0_5,.slice a0_7 x0.t.arcs.length c0_8,.slice a0_10 x0.arcs.length c0_11,.slice a0_13 x0.ends.length c0_14,.slice ao1 r.hops.length co2,.slice ao3 r.row.length co4,.slice ao5 r.place.length co6,.string (bs r.text),.bool r.found] Eb0,Res.rowS 227 5 encHop (.slice ao1 r.hops.length co2) r.hops,Res.rowS 207 6 encFBox (.slice ao3 r.row.length co4) r.row,Res.rowS 3 1 eI_ (.slice ao5 r.place.length co6) r.place]):=by
 dsimp only [Dh_]at hh
 have f0_3b:=f0_3.rv.big
 have f0_6b:=f0_6.rv.big
 have f0_9b:=f0_9.rv.big
 have f0_12b:=f0_12.big
 have f0_15b:=f0_15.big
 refine Con.mk (n:=72) Tryz.func108 z z z (fun w0=> ?_)
 refine TC.a (TL.l z z (TL.front 3 z z (TL.front 3 z z (TL.front 3 z z (TL.front 3 z z ?_)))))
 obtain ⟨v2,u2,hh⟩:=bnd_e hh
 refine TL.op z (OpOk.call (F0_ (x0:=x0) hgl f0_3 f0_6 f0_9 f0_12 f0_15 u2) z z pf145 z z z z ?_)
 rintro _ τ113 _ hle113 ⟨a113_1,c113_2,rfl,rfl⟩
 replace f0_3:=f0_3.mono hle113
 replace f0_6:=f0_6.mono hle113
 replace f0_9:=f0_9.mono hle113
 replace f0_12:=f0_12.mono hle113
 replace f0_15:=f0_15.mono hle113
 replace hgl:=hgl.mono hle113
 refine TL.en (TC.seq (TC.a (TL.l z z (TL.w z (nilCheckLoc z z) (TL.w z (fieldLoc z fo165_0 z) (TL.w z (fieldLoc z fo25_1 z) (TL.w z (loadLoc z ag22 z (i:=0) z z) (TL.w z (lenC z underlying22 z) (TL.i z z (TL.en (TC.block (TC.loopG (α:=((List FBox)×(List Int)×(List UInt8)×Bool×Nat)×((Option Addr)×Nat×(Option Addr)×Nat)) (rgs [(3,1),(5,3),(17,36)]) (fun g=>[(17,.int .i64 ((g.1.2.2.2.2:Nat):Int))]) (fun g=>[Res.cells b0_0 #[.int .i64 x0.t.states,.slice a0_1 x0.t.starts.length c0_2,.slice a0_4 x0.t.ends.length c0_5,.slice a0_7 x0.t.arcs.length c0_8,.slice a0_10 x0.arcs.length c0_11,.slice a0_13 x0.ends.length c0_14,.slice a113_1 v2.hops.length c113_2,.slice g.2.1 g.1.1.length g.2.2.1,.slice g.2.2.2.1 g.1.2.1.length g.2.2.2.2,.string (bs g.1.2.2.1),.bool g.1.2.2.2.1] Eb0,Res.rowS 227 5 encHop (.slice a113_1 v2.hops.length c113_2) v2.hops,Res.rowS 207 6 encFBox (.slice g.2.1 g.1.1.length g.2.2.1) g.1.1,Res.rowS 3 1 eI_ (.slice g.2.2.2.1 g.1.2.1.length g.2.2.2.2) g.1.2.1]) (fun g=>τ113) (fun g=>iter (fun q:(List FBox)×(List Int)×(List UInt8)×Bool×Nat=>A2_ x0 v2 q.1 q.2.1 q.2.2.1 q.2.2.2.1 q.2.2.2.2) g.1=some r) (fun g=>rounds (fun q:(List FBox)×(List Int)×(List UInt8)×Bool×Nat=>A2_ x0 v2 q.1 q.2.1 q.2.2.1 q.2.2.2.1 q.2.2.2.2) g.1) ((x0.row,x0.place,x0.text,x0.found,0),(a0_18,c0_19,a0_20,c0_21)) (Sub.f [3,3,3,3] 4) z (by repeat (first|exact trivial|refine ⟨z,?_⟩)) hh (fun g1 j1 hg1=> ?_)))))))))))))
 obtain ⟨⟨l138,l142,s145,t146,k147⟩,⟨a139,c140,a143,c144⟩⟩:=g1
 have hh:=hg1;clear hg1
 try dsimp only
 obtain ⟨z1,hh,hR1⟩:=iter_e hh
 dsimp only [A2_]at hh
 refine TC.isSl (i:=1) z (fun _ hb148 _=> ?_)
 refine TC.isSl (i:=2) z (fun _ hb149 _=> ?_)
 refine TC.isSl (i:=3) z (fun _ hb150 _=> ?_)
 refine TC.a (TL.w z (OpVal.lss z z z) (TL.en (TC.seq (TC.cD z hh (fun h151 hh=> ?_) (fun h151 hh=> ?_)))))
 ·refine TC.skip (S.n (TC.seq (TC.block (TC.a (TL.w z (indexN z underlying22 sz76 z z f0_3.rv.sl (by omega)) (TL.w z (loadSA Tip.zero z ag76 sz76 z f0_3 (by omega) (by omega)) (TL.op z (OpOk.alloc z ze76 z z (fun b152=> ?_)))))))))
  refine TL.op z (storeAll z sz76 z z z z z z ?_)
  refine TL.en (TC.a (TL.l z z (TL.w z (nilCheckLoc z z) (TL.w z (fieldLoc z fo165_0 z) (TL.w z (fieldLoc z fo25_1 z) (TL.w z (loadLoc z ag22 z (i:=1) z z) (TL.w z (lenC z underlying22 z) (TL.i z z (TL.en (TC.block (TC.loopG (α:=((List FBox)×(List Int)×(List UInt8)×Bool×Nat)×((Option Addr)×Nat×(Option Addr)×Nat)) (rgs [(5,3),(27,25)]) (fun g=>[(27,.int .i64 ((g.1.2.2.2.2:Nat):Int))]) (fun g=>[Res.cells b0_0 #[.int .i64 x0.t.states,.slice a0_1 x0.t.starts.length c0_2,.slice a0_4 x0.t.ends.length c0_5,.slice a0_7 x0.t.arcs.length c0_8,.slice a0_10 x0.arcs.length c0_11,.slice a0_13 x0.ends.length c0_14,.slice a113_1 v2.hops.length c113_2,.slice g.2.1 g.1.1.length g.2.2.1,.slice g.2.2.2.1 g.1.2.1.length g.2.2.2.2,.string (bs g.1.2.2.1),.bool g.1.2.2.2.1] Eb0,Res.rowS 227 5 encHop (.slice a113_1 v2.hops.length c113_2) v2.hops,Res.rowS 207 6 encFBox (.slice g.2.1 g.1.1.length g.2.2.1) g.1.1,Res.rowS 3 1 eI_ (.slice g.2.2.2.1 g.1.2.1.length g.2.2.2.2) g.1.2.1,Res.cells b152 #[.int .i64 ((nth x0.t.starts k147 Tip.zero).state),.string (bs ((nth x0.t.starts k147 Tip.zero).out))] 76]) (fun g=>τ113) (fun g=>iter (fun q:(List FBox)×(List Int)×(List UInt8)×Bool×Nat=>Ay_ x0 k147 v2 q.1 q.2.1 q.2.2.1 q.2.2.2.1 q.2.2.2.2) g.1=some z1) (fun g=>rounds (fun q:(List FBox)×(List Int)×(List UInt8)×Bool×Nat=>Ay_ x0 k147 v2 q.1 q.2.1 q.2.2.1 q.2.2.2.1 q.2.2.2.2) g.1) ((l138,l142,s145,t146,0),(a139,c140,a143,c144)) (Sub.f [4,4,4,4] 5) z (by repeat (first|exact trivial|refine ⟨z,?_⟩)) hh (fun g2 j2 hg2=> ?_))))))))))))
  obtain ⟨⟨l177,l181,s184,t185,k186⟩,⟨a178,c179,a182,c183⟩⟩:=g2
  have hh:=hg2;clear hg2
  try dsimp only
  obtain ⟨z2,hh,hR2⟩:=iter_e hh
  dsimp only [Ay_]at hh
  refine TC.isSl (i:=1) z (fun _ hb187 _=> ?_)
  refine TC.isSl (i:=2) z (fun _ hb188 _=> ?_)
  refine TC.isSl (i:=3) z (fun _ hb189 _=> ?_)
  refine TC.a (TL.w z (OpVal.lss z z z) (TL.en (TC.seq (TC.cD z hh (fun h190 hh=> ?_) (fun h190 hh=> ?_)))))
  ·refine TC.skip (S.n (TC.seq (TC.block (TC.a (TL.w z (indexN z underlying22 sz76 z z f0_3.rv.sl (by omega)) (TL.w z (loadSA Tip.zero z ag76 sz76 z f0_3 (by omega) (by omega)) (TL.op z (OpOk.alloc z ze76 z z (fun b191=> ?_)))))))))
   refine TL.op z (storeAll z sz76 z z z z z z ?_)
   refine TL.en (TC.a (TL.w z (fieldLoc z fo76_1 z) (TL.w z (loadLoc z ag9 z (i:=5) z z) (TL.w z (fieldLoc z fo76_1 z) (TL.w z (loadLoc z ag9 z (i:=0) z z) ?_)))))
   obtain ⟨v31,u31,hh⟩:=bnd_e hh
   refine TL.op z (callP (F3_ u31) z z pf146 z z z ?_)
   refine TL.w z (moveT (.inl z) z) (TL.w z (OpVal.extract z z z) (TL.w z (OpVal.extract z z z) (TL.w z (moveStr (.inr z) z) (TL.w z (moveStr (.inr z) z) (TL.en (TC.region (TL.l z z (TL.w z (fieldLoc z fo76_0 z) (TL.w z (loadLoc z ag3 z (i:=5) z z) (TL.w z (fieldLoc z fo76_0 z) (TL.w z (loadLoc z ag3 z (i:=0) z z) (TL.w z (buildArrL z underlying202 sz3 ze202 z) (TL.w z (moveStr (.inl z) z) (TL.w z (moveStr (.inl z) z) (TL.w z (buildArrL z underlying203 sz9 ze203 z) ?_)))))))))))))))
   refine TL.w z (buildL z pl205 ze205 z) (TL.w z (buildL z pl207 ze207 z) (TL.front 4 z z (TL.front 4 z z (TL.front 4 z z (TL.front 4 z z ?_)))))
   obtain ⟨v48,u48,hh⟩:=bnd_e hh
   refine TL.op z (OpOk.call (Ek_ (x0:=(⟨x0.t,x0.arcs,x0.ends,v2.hops,l177,l181,s184,t185⟩:Search)) f0_3 f0_6 f0_9 f0_12 f0_15 u48) z z pf147 z z z z ?_)
   rintro _ _ _ hle193 ⟨a193_1,c193_2,a193_3,c193_4,rfl,rfl,rfl⟩
   refine TL.nil (B.n (S.n (TC.region (TL.w z (OpVal.succ z z z (by omega)) (TL.i z z (TL.en ?_))))))
   obtain ⟨hh,hlt196⟩:=nxt_x hR2 hh
   exact lf ((v48.row,v48.place,v48.text,v48.found,(k186+1)),(a193_1,c193_2,a193_3,c193_4)) hlt196 hh (Sub.f [5,4,4,4,4] 5)
  refine TC.exit (S.x (S.x ?_))
  replace hh:=fin_x hR2 hh
  refine TC.exitHere (B.n (S.n (TC.region (TL.w z (OpVal.succ z z z (by omega)) (TL.i z z (TL.en ?_))))))
  obtain ⟨hh,hlt197⟩:=nxt_x hR1 hh
  exact lf ((l177,l181,s184,t185,(k147+1)),(a178,c179,a182,c183)) hlt197 hh (Sub.f [3,3,3,3] 4)
 refine TC.exit (S.x (S.x ?_))
 replace hh:=fin_x hR1 hh
 refine TC.exitHere (S.n (TC.a (TL.i z z (TL.en (TC.block (TC.loopG (α:=((List FBox)×(List Int)×(List UInt8)×Bool×Nat)×((Option Addr)×Nat×(Option Addr)×Nat)) (rgs [(8,1),(53,19)]) (fun g=>[(8,.int .i64 ((g.1.2.2.2.2:Nat):Int))]) (fun g=>[Res.cells b0_0 #[.int .i64 x0.t.states,.slice a0_1 x0.t.starts.length c0_2,.slice a0_4 x0.t.ends.length c0_5,.slice a0_7 x0.t.arcs.length c0_8,.slice a0_10 x0.arcs.length c0_11,.slice a0_13 x0.ends.length c0_14,.slice a113_1 v2.hops.length c113_2,.slice g.2.1 g.1.1.length g.2.2.1,.slice g.2.2.2.1 g.1.2.1.length g.2.2.2.2,.string (bs g.1.2.2.1),.bool g.1.2.2.2.1] Eb0,Res.rowS 227 5 encHop (.slice a113_1 v2.hops.length c113_2) v2.hops,Res.rowS 207 6 encFBox (.slice g.2.1 g.1.1.length g.2.2.1) g.1.1,Res.rowS 3 1 eI_ (.slice g.2.2.2.1 g.1.2.1.length g.2.2.2.2) g.1.2.1]) (fun g=>τ113) (fun g=>iter (fun q:(List FBox)×(List Int)×(List UInt8)×Bool×Nat=>An_ x0 v2 q.1 q.2.1 q.2.2.1 q.2.2.2.1 q.2.2.2.2) g.1=some r) (fun g=>rounds (fun q:(List FBox)×(List Int)×(List UInt8)×Bool×Nat=>An_ x0 v2 q.1 q.2.1 q.2.2.1 q.2.2.2.1 q.2.2.2.2) g.1) ((l138,l142,s145,t146,0),(a139,c140,a143,c144)) (Sub.f [3,3,3,3] 4) z (by repeat (first|exact trivial|refine ⟨z,?_⟩)) hh (fun g3 j3 hg3=> ?_)))))))
 obtain ⟨⟨l221,l225,s228,t229,k230⟩,⟨a222,c223,a226,c227⟩⟩:=g3
 have hh:=hg3;clear hg3
 try dsimp only
 obtain ⟨z1,hh,hR1⟩:=iter_e hh
 dsimp only [An_]at hh
 refine TC.isSl (i:=1) z (fun _ hb231 _=> ?_)
 refine TC.isSl (i:=2) z (fun _ hb232 _=> ?_)
 refine TC.isSl (i:=3) z (fun _ hb233 _=> ?_)
 refine TC.seq (TC.a (TL.i z z (TL.l z z (TL.w z (nilCheckLoc z z) (TL.w z (fieldLoc z fo165_4 z) (TL.w z (loadLoc z ag163 z (i:=0) z z) (TL.w z (lenC z underlying163 z) (TL.w z (OpVal.lss z z z) (TL.j z z (TL.split 60 z (fun h234=> ?_) (fun h234=> ?_)))))))))))
 ·replace hh:=iteO_t h234 hh
  replace h234:=of_decide_eq_true h234
  refine TL.g z (moveLoc (.inl z) z) (TL.g z (nilCheckLoc z z) (TL.g z (fieldLoc z fo165_7 z) (TL.g z (loadLoc z ag4 z (i:=0) z z) (TL.g z (OpVal.not z z) (TL.w z (pickTB z z z) (TL.en (TC.cB z hh (fun h235 hh=> ?_) (fun h235 hh=> ?_))))))))
  ·refine TC.skip (S.n (TC.seq (TC.block (TC.region (TL.l z z (TL.i z z (TL.front 3 z z (TL.front 3 z z (TL.front 3 z z (TL.front 3 z z ?_))))))))))
   obtain ⟨v70,u70,hh⟩:=bnd_e hh
   refine TL.op z (OpOk.call (F9_ (x0:=(⟨x0.t,x0.arcs,x0.ends,v2.hops,l221,l225,s228,t229⟩:Search)) hgl f0_3 f0_6 f0_9 f0_12 f0_15 u70) z z pf148 z z z z ?_)
   rintro _ _ _ hle236 ⟨a236_1,c236_2,a236_3,c236_4,rfl,rfl,rfl⟩
   refine TL.nil (B.n (S.n (TC.region (TL.i z z (TL.w z (OpVal.succ z z z (by omega)) (TL.i z z (TL.en ?_)))))))
   obtain ⟨hh,hlt239⟩:=nxt_x hR1 hh
   exact lf ((v70.row,v70.place,v70.text,v70.found,(k230+1)),(a236_1,c236_2,a236_3,c236_4)) hlt239 hh (Sub.f [3,3,3,3] 4)
  refine TC.exit (S.x (S.x ?_))
  replace hh:=fin_x hR1 hh
  refine TC.exitHere ?_
  obtain rfl:=so hh
  exact RetOk.mk' (rs:=[]) [Res.cells b0_0 #[.int .i64 x0.t.states,.slice a0_1 x0.t.starts.length c0_2,.slice a0_4 x0.t.ends.length c0_5,.slice a0_7 x0.t.arcs.length c0_8,.slice a0_10 x0.arcs.length c0_11,.slice a0_13 x0.ends.length c0_14,.slice a113_1 v2.hops.length c113_2,.slice a222 l221.length c223,.slice a226 l225.length c227,.string (bs s228),.bool t229] Eb0,Res.rowS 227 5 encHop (.slice a113_1 v2.hops.length c113_2) v2.hops,Res.rowS 207 6 encFBox (.slice a222 l221.length c223) l221,Res.rowS 3 1 eI_ (.slice a226 l225.length c227) l225] z (.inr z) RVs.nil (List.sublist_append_left _ _) ⟨a113_1,c113_2,a222,c223,a226,c227,z,z⟩
 replace hh:=iteO_f h234 hh
 replace h234:=of_decide_eq_false h234
 refine TL.f z (TL.f z (TL.f z (TL.f z (TL.f z (TL.w z (pickFB z z z) (TL.en (TC.f z (TC.exit (S.x (S.x ?_))))))))))
 replace hh:=fin_x hR1 hh
 refine TC.exitHere ?_
 obtain rfl:=so hh
 exact RetOk.mk' (rs:=[]) [Res.cells b0_0 #[.int .i64 x0.t.states,.slice a0_1 x0.t.starts.length c0_2,.slice a0_4 x0.t.ends.length c0_5,.slice a0_7 x0.t.arcs.length c0_8,.slice a0_10 x0.arcs.length c0_11,.slice a0_13 x0.ends.length c0_14,.slice a113_1 v2.hops.length c113_2,.slice a222 l221.length c223,.slice a226 l225.length c227,.string (bs s228),.bool t229] Eb0,Res.rowS 227 5 encHop (.slice a113_1 v2.hops.length c113_2) v2.hops,Res.rowS 207 6 encFBox (.slice a222 l221.length c223) l221,Res.rowS 3 1 eI_ (.slice a226 l225.length c227) l225] z (.inr z) RVs.nil (List.sublist_append_left _ _) ⟨a113_1,c113_2,a222,c223,a226,c227,z,z⟩
def Fi_(x0:Fst):Option ((List UInt8)×Bool×Int):=
 bnd (D5_ x0) (fun v6=>iteO (decide (v6.2≠0)) (some (([]:List UInt8),false,v6.2)) (iteO (decide (32<v6.1.states)) (some (([]:List UInt8),false,2)) (bnd (Ew_ v6.1) (fun v25=>bnd (Dh_ v25) (fun v28=>some (v28.text,v28.found,0))))))
theorem Gv_{x0:Fst}(hgl:GT2 σ 1 2)(f0_0:RS σ 2 encTip (.slice a0_0 x0.starts.length c0_0) x0.starts)(f0_1:RS σ 2 encTip (.slice a0_1 x0.ends.length c0_1) x0.ends)(f0_2:RS σ 8 encArc (.slice a0_2 x0.arcs.length c0_2) x0.arcs){r:(List UInt8)×Bool×Int}(hh:Fi_ x0=some r):
  Con Tryz.prog 65 #[.agg #[.int .i64 x0.states,.slice a0_0 x0.starts.length c0_0,.slice a0_1 x0.ends.length c0_1,.slice a0_2 x0.arcs.length c0_2]] σ [] (PureP (.tuple #[.string (bs r.1),.bool r.2.1,.int .i64 r.2.2]) σ):=by
 dsimp only [Fi_]at hh
 have f0_0b:=f0_0.rv.big
 have f0_1b:=f0_1.rv.big
 have f0_2b:=f0_2.rv.big
 refine Con.mk (n:=30) Tryz.func65 z z z (fun w0=> ?_)
 refine TC.a (TL.op z (boxA z z z z (fun b101=> ?_)))
 refine TL.w z (moveStr (.inr z) z) (TL.j z z (TL.i z z (TL.en (TC.a (TL.w z (loadAll z ag25 sz25 z (i:=0) z z) ?_)))))
 obtain ⟨v6,u6,hh⟩:=bnd_e hh
 refine TL.op z (OpOk.call (Fk_ (x0:=x0) f0_0 f0_1 f0_2 u6) z z pf44 z z z z ?_)
 rintro _ τ103 _ hle103 ⟨a103_1,c103_1,a103_2,c103_2,a103_3,c103_3,rfl,hr103_0,hr103_1,hr103_2,rfl⟩
 replace hgl:=hgl.mono hle103
 have hr103_0b:=hr103_0.rv.big
 have hr103_1b:=hr103_1.rv.big
 have hr103_2b:=hr103_2.rv.big
 refine TL.w z (moveT (.inl z) z) (TL.w z (OpVal.extract z z z) (TL.w z (OpVal.extract z z z) (TL.op z (storeAll z sz25 z z z z z z ?_))))
 refine TL.i z z (TL.en (TC.seq (TC.a (TL.i z z (TL.w z (OpVal.neq z z z) (TL.en (TC.cD z hh (fun h104 hh=> ?_) (fun h104 hh=> ?_))))))))
 ·refine TC.a (TL.i z z (TL.w z (moveStr (.inr z) z) (TL.j z z (TL.i z z (TL.en (TC.ofSub (Sub.pre 0 z) (TC.back (TC.ret (S.r ?_)))))))))
  obtain rfl:=so hh
  exact rq [2,3,4] ⟨z,z,z⟩
 refine TC.skip (S.n (TC.seq (TC.a (TL.w z (fieldLoc z fo25_0 z) (TL.w z (loadLoc z ag3 z (i:=0) z z) (TL.w z (OpVal.gtr z z z) (TL.en (TC.cD z hh (fun h105 hh=> ?_) (fun h105 hh=> ?_)))))))))
 ·refine TC.a (TL.w z (moveStr (.inr z) z) (TL.j z z (TL.i z z (TL.en (TC.ofSub (Sub.pre 0 z) (TC.back (TC.ret (S.r ?_))))))))
  obtain rfl:=so hh
  exact rq [2,3,4] ⟨z,z,z⟩
 refine TC.skip (S.n (TC.a (TL.w z (loadAll z ag25 sz25 z (i:=0) z z) ?_)))
 obtain ⟨v25,u25,hh⟩:=bnd_e hh
 refine TL.op z (OpOk.call (Gl_ hr103_0 hr103_1 hr103_2 u25) z z pf107 z z z z ?_)
 rintro _ τ106 _ hle106 ⟨b106_1,a106_2,c106_3,a106_5,c106_6,a106_8,c106_9,a106_11,c106_12,a106_14,c106_15,a106_17,c106_18,a106_19,c106_20,a106_21,c106_22,rfl,f106_4,f106_7,f106_10,f106_13,f106_16,rfl⟩
 replace hgl:=hgl.mono hle106
 have f106_4b:=f106_4.rv.big
 have f106_7b:=f106_7.rv.big
 have f106_10b:=f106_10.rv.big
 have f106_13b:=f106_13.big
 have f106_16b:=f106_16.big
 refine TL.l z z (TL.en (TC.a (TL.l z z (TL.front 3 z z (TL.front 3 z z (TL.front 3 z z (TL.front 3 z z ?_)))))))
 obtain ⟨v28,u28,hh⟩:=bnd_e hh
 refine TL.op z (OpOk.call (F6_ (x0:=v25) hgl f106_4 f106_7 f106_10 f106_13 f106_16 u28) z z pf108 z z z z ?_)
 rintro _ τ116 _ hle116 ⟨a116_1,c116_2,a116_3,c116_4,a116_5,c116_6,rfl,rfl⟩
 refine TL.en (TC.seq (TC.draw [] (by kernel_rfl) (TA.a 0 z (moveLoc (.inl z) z) z (TA.a 1 z (nilCheckLoc z z) z (TA.a 2 z (fieldLoc z fo165_6 z) z (TA.b 3 z (loadLoc z ag9 z (i:=0) z z) z (TA.a 4 z (moveLoc (.inl z) z) z (TA.a 5 z (nilCheckLoc z z) z (TA.a 6 z (fieldLoc z fo165_7 z) z (TA.b 7 z (loadLoc z ag4 z (i:=0) z z) z (TA.a 8 z (moveStr (.inr z) z) z (TA.a 9 z (moveB (.inr z) z) z (TA.a 10 z (moveI (.inr z) z) z (TA.dn (S.n ?_)))))))))))))))
 refine TC.ofSub (Sub.pre 0 z) (TC.back (TC.ret ?_))
 obtain rfl:=so hh
 exact rq [2,3,4] ⟨z,z,z⟩
def D3_(x0:Fst):Option (Bool×Int):=
 bnd (Fi_ x0) (fun v5=>iteO (decide (v5.2.2=0)) (some ((!v5.2.1),v5.2.2)) (some (false,v5.2.2)))
theorem Gy_{x0:Fst}(hgl:GT2 σ 1 2)(f0_0:RS σ 2 encTip (.slice a0_0 x0.starts.length c0_0) x0.starts)(f0_1:RS σ 2 encTip (.slice a0_1 x0.ends.length c0_1) x0.ends)(f0_2:RS σ 8 encArc (.slice a0_2 x0.arcs.length c0_2) x0.arcs){r:Bool×Int}(hh:D3_ x0=some r):
  Con Tryz.prog 28 #[.agg #[.int .i64 x0.states,.slice a0_0 x0.starts.length c0_0,.slice a0_1 x0.ends.length c0_1,.slice a0_2 x0.arcs.length c0_2]] σ [] (PureP (.tuple #[.bool r.1,.int .i64 r.2]) σ):=by
 dsimp only [D3_]at hh
 have f0_0b:=f0_0.rv.big
 have f0_1b:=f0_1.rv.big
 have f0_2b:=f0_2.rv.big
 refine Con.mk (n:=20) Tryz.func28 z z z (fun w0=> ?_)
 refine TC.a (TL.op z (boxA z z z z (fun b101=> ?_)))
 refine TL.j z z (TL.i z z (TL.en (TC.a (TL.w z (loadAll z ag25 sz25 z (i:=0) z z) ?_))))
 obtain ⟨v5,u5,hh⟩:=bnd_e hh
 refine TL.op z (callP (Gv_ (x0:=x0) hgl f0_0 f0_1 f0_2 u5) z z pf65 z z z ?_)
 refine TL.w z (moveT (.inl z) z) (TL.w z (OpVal.extract z z z) (TL.w z (OpVal.extract z z z) (TL.w z (OpVal.extract z z z) (TL.w z (moveStr (.inr z) z) (TL.j z z (TL.i z z (TL.en (TC.a (TL.i z z (TL.w z (OpVal.eql z z z) (TL.j z z (TL.split 15 z (fun h103=> ?_) (fun h103=> ?_)))))))))))))
 ·replace hh:=iteO_t h103 hh
  replace h103:=of_decide_eq_true h103
  refine TL.g z (moveB (.inl z) z) (TL.g z (OpVal.not z z) (TL.w z (pickTB z z z) (TL.i z z (TL.j z z (TL.i z z (TL.en (TC.rt 0 ?_)))))))
  obtain rfl:=so hh
  exact rq [2,3] ⟨z,z,z⟩
 replace hh:=iteO_f h103 hh
 replace h103:=of_decide_eq_false h103
 refine TL.f z (TL.f z (TL.w z (pickFB z z z) (TL.i z z (TL.j z z (TL.i z z (TL.en (TC.rt 0 ?_)))))))
 obtain rfl:=so hh
 exact rq [2,3] ⟨z,z,z⟩
end Go.Proofs.YtchebnpdnfhenaaGreatDoor
end

noncomputable section
namespace Go.Proofs.YtchebnpdnfhenaaGreatDoor
open Go Go.E
theorem dv(k n:Nat):Int.tdiv ((k:Nat):Int) ((n:Nat):Int)=((k / n:Nat):Int):=rfl
theorem md(k n:Nat):Int.tmod ((k:Nat):Int) ((n:Nat):Int)=((k % n:Nat):Int):=rfl
theorem wrS{a:Int}(h: -100000≤a∧a≤100000):IntKind.i64.wrap a=a:=wrap64_of (by omega) (by omega)
def ix(n:Nat)(p q:Int):Nat:=p.toNat * n+q.toNat
theorem ix_lt{n:Nat}{p q:Int}(hp:0≤p∧p<n)(hq:0≤q∧q<n):ix n p q<n * n:=by
 have h1:p.toNat+1≤n:=by omega
 have:=Nat.mul_le_mul_right n h1
 rw [Nat.add_mul]at this
 unfold ix;omega
theorem ix_div{n:Nat}{p q:Int}(hq:0≤q∧q<n):ix n p q / n=p.toNat:=by
 have:0<n:=by omega
 unfold ix
 rw [Nat.mul_comm,Nat.mul_add_div this,Nat.div_eq_of_lt (by omega),Nat.add_zero]
theorem ix_mod{n:Nat}{p q:Int}(hq:0≤q∧q<n):ix n p q % n=q.toNat:=by
 unfold ix
 rw [Nat.mul_comm,Nat.mul_add_mod,Nat.mod_eq_of_lt (by omega)]
theorem ix_inj{n:Nat}{p q p' q':Int}(hp:0≤p)(hq:0≤q∧q<n)(hp':0≤p')(hq':0≤q'∧q'<n)(h:ix n p q=ix n p' q'):p=p'∧q=q':=by
 have h1:=ix_div (p:=p) hq
 have h2:=ix_div (p:=p') hq'
 have h3:=ix_mod (p:=p) hq
 have h4:=ix_mod (p:=p') hq'
 rw [h]at h1 h3
 omega
theorem div_lt{n i:Nat}(hi:i<n * n):i / n<n:=Nat.div_lt_of_lt_mul hi
theorem mod_lt{n i:Nat}(hi:i<n * n):i % n<n:=Nat.mod_lt _ (by
 cases n with
 |zero=>simp at hi
 |succ n=>omega)
theorem sq_le{n:Nat}(h:n≤32):n * n≤1024:=Nat.mul_le_mul h h
abbrev ArcI(T:Fst)(n:Nat)(A:List (List Int)):Prop:=Grp (fun i:Nat=>(nth T.arcs i Arc.zero).frm) (fun i:Nat=>((i:Nat):Int)) n A (List.range T.arcs.length)
abbrev EndI(T:Fst)(n:Nat)(E:List (List (List UInt8))):Prop:=Grp Tip.state Tip.out n E T.ends
structure Sta (T:Fst) (n:Nat) (A:List (List Int)) (E:List (List (List UInt8))):Prop where
 ok:FstOk T
 n32:n≤32
 st:T.states=((n:Nat):Int)
 ar:ArcI T n A
 en:EndI T n E
section
variable {T:Fst} {n:Nat} {A:List (List Int)} {E:List (List (List UInt8))} (hS:Sta T n A E)
include hS
theorem Sta.arc{p:Nat}(hp:p<n){j:Nat}(hj:j<(nth A p ([]:List Int)).length): ∃i:Nat,nth (nth A p ([]:List Int)) j (0:Int)=((i:Nat):Int)∧i<T.arcs.length∧(nth T.arcs i Arc.zero).frm=((p:Nat):Int):=by
 have hm:nth (nth A p ([]:List Int)) j (0:Int)∈nth A p ([]:List Int):=nth_mem' hj 0
 generalize nth (nth A p ([]:List Int)) j (0:Int)=x at hm
 rw [hS.ar.row p hp,List.mem_map]at hm
 obtain ⟨i,hi,e⟩:=hm
 have:=List.mem_filter.1 hi
 exact ⟨i,e.symm,List.mem_range.1 this.1,of_decide_eq_true this.2⟩
theorem Sta.arcs{p:Nat}(hp:p<n){x:Arc}(hx:x∈T.arcs)(e:x.frm=((p:Nat):Int)): ∃j,j<(nth A p ([]:List Int)).length∧nth T.arcs (nth (nth A p ([]:List Int)) j (0:Int)).toNat Arc.zero=x:=by
 obtain ⟨i,hi,e2⟩:=mem_nth (d:=Arc.zero) hx
 have hm:((i:Nat):Int)∈nth A p ([]:List Int):=by
  rw [hS.ar.row p hp,List.mem_map]
  exact ⟨i,List.mem_filter.2 ⟨List.mem_range.2 hi,decide_eq_true (by rw [e2];exact e)⟩,rfl⟩
 obtain ⟨j,hj,e3⟩:=mem_nth (d:=(0:Int)) hm
 exact ⟨j,hj,by rw [e3,Int.toNat_natCast];exact e2⟩
theorem Sta.row_len(p:Nat)(hp:p<n):(nth A p ([]:List Int)).length≤16384:=by
 rw [hS.ar.row p hp,List.length_map]
 have h1:=List.length_filter_le (fun i:Nat=>decide ((nth T.arcs i Arc.zero).frm=((p:Nat):Int))) (List.range T.arcs.length)
 rw [List.length_range]at h1
 have:=hS.ok.arcsN;omega
theorem Sta.end_mem{p:Nat}(hp:p<n){o:List UInt8}:o∈nth E p ([]:List (List UInt8))↔ ∃e∈T.ends,e.state=((p:Nat):Int)∧e.out=o:=by
 rw [hS.en.row p hp,List.mem_map]
 constructor
 ·rintro ⟨e,he,rfl⟩
  have:=List.mem_filter.1 he
  exact ⟨e,this.1,of_decide_eq_true this.2,rfl⟩
 rintro ⟨e,he,h,rfl⟩
 exact ⟨e,List.mem_filter.2 ⟨he,decide_eq_true h⟩,rfl⟩
end
theorem begin_eq{T:Fst}(hT:FstOk T)(h32:T.states≤32): ∃n A E,Ew_ T=some ⟨T,A,E,List.replicate (n * n) Hop.zero,[],List.replicate (n * n) 0,[],false⟩∧Sta T n A E:=by
 have h0:=hT.st0
 obtain ⟨n,hn⟩: ∃n:Nat,T.states=((n:Nat):Int):=⟨T.states.toNat,by omega⟩
 have hn32:n≤32:=by omega
 have hsq:=sq_le hn32
 have hnn:IntKind.i64.wrap (T.states * T.states)=((n * n:Nat):Int):=by
  rw [hn,←Int.natCast_mul];exact wrS (by omega)
 unfold Ew_
 rw [grd_mk ⟨h0,by omega⟩,grd_mk ⟨h0,by omega⟩]
 unfold Ei_
 have hto:T.states.toNat=n:=by omega
 rw [hto]
 obtain ⟨r,e,A,E,rfl,h1,h2⟩:=iter_up (step:=fun q:(List (List Int))×Nat=>B0_ T q.1 q.2) (fun (l:List (List Int)) k=>(l,k)) T.arcs.length
  (fun k l=>Grp (fun i:Nat=>(nth T.arcs i Arc.zero).frm) (fun i:Nat=>((i:Nat):Int)) n l (List.range k))
  (fun r=> ∃A E,r=⟨T,A,E,List.replicate (n * n) Hop.zero,[],List.replicate (n * n) 0,[],false⟩∧ArcI T n A∧EndI T n E)
  (fun k l hk hI=>by
   have hlen:=hI.len
   have hm:=hT.arcs _ (nth_mem' hk Arc.zero)
   have hrow:(nth l (nth T.arcs k Arc.zero).frm.toNat []).length≤16384:=by
    rw [hI.at hm.1.1 (by omega),List.length_map]
    have:=List.length_filter_le (fun i:Nat=>decide ((nth T.arcs i Arc.zero).frm=(nth T.arcs k Arc.zero).frm)) (List.range k)
    rw [List.length_range]at this
    have:=hT.arcsN;omega
   refine .inl ⟨l.set (nth T.arcs k Arc.zero).frm.toNat (nth l (nth T.arcs k Arc.zero).frm.toNat []++[((k:Nat):Int)]),?_,?_⟩
   ·show B0_ T l k=_
    unfold B0_ Ef_
    rw [iteO_dt (by omega),grd_mk (by omega),grd_mk (by rw [List.length_singleton];omega),grd_mk (by omega)];rfl
   rw [List.range_succ];exact hI.snoc hm.1.1 (by omega))
  (fun l hI=>by
   obtain ⟨r,e,E,rfl,h2⟩:=iter_up (step:=fun q:(List (List (List UInt8)))×Nat=>B1_ T l q.1 q.2) (fun (s:List (List (List UInt8))) k=>(s,k)) T.ends.length
    (fun k s=>Grp Tip.state Tip.out n s (T.ends.take k)) (fun r=> ∃E,r=⟨T,l,E,List.replicate (n * n) Hop.zero,[],List.replicate (n * n) 0,[],false⟩∧EndI T n E)
    (fun k s hk hI=>by
     have hlen:=hI.len
     have hm:=hT.ends _ (nth_mem' hk Tip.zero)
     have hrow:(nth s (nth T.ends k Tip.zero).state.toNat []).length≤1024:=by
      rw [hI.at hm.1.1 (by omega),List.length_map]
      have:=List.length_filter_le (fun x:Tip=>decide (x.state=(nth T.ends k Tip.zero).state)) (T.ends.take k)
      rw [List.length_take]at this
      have:=hT.endsN;omega
     refine .inl ⟨s.set (nth T.ends k Tip.zero).state.toNat (nth s (nth T.ends k Tip.zero).state.toNat []++[(nth T.ends k Tip.zero).out]),?_,?_⟩
     ·show B1_ T l s k=_
      unfold B1_ Eh_
      rw [iteO_dt (by omega),grd_mk (by omega),grd_mk (by rw [List.length_singleton];omega),grd_mk (by omega)];rfl
     rw [take_snoc T.ends hk Tip.zero];exact hI.snoc hm.1.1 (by omega))
    (fun s hI=>by
     rw [List.take_length]at hI
     refine ⟨_,?_,s,rfl,hI⟩
     show B1_ T l s T.ends.length=_
     unfold B1_
     rw [iteO_df (by omega),hnn,Int.toNat_natCast,grd_mk ⟨by omega,by omega⟩,grd_mk ⟨by omega,by omega⟩];rfl)
    (s0:=List.replicate n []) (by simpa using Grp.nil Tip.state Tip.out n)
   refine ⟨_,?_,l,E,rfl,hI,h2⟩
   show B0_ T l T.arcs.length=_
   unfold B0_
   rw [iteO_df (by omega),hto,e];rfl)
  (s0:=List.replicate n []) (by simpa using Grp.nil (fun i:Nat=>(nth T.arcs i Arc.zero).frm) (fun i:Nat=>((i:Nat):Int)) n)
 exact ⟨n,A,E,e,hT,hn32,hn,h1,h2⟩
theorem index_eq{S:Search}{n:Nat}(hn:S.t.states=((n:Nat):Int))(h32:n≤32){p q:Int}(hp:0≤p∧p<n)(hq:0≤q∧q<n):Bd_ S ⟨p,q⟩=some ((ix n p q:Nat):Int):=by
 have h1:=ix_lt hp hq
 have h2:=sq_le h32
 have e:p * ((n:Nat):Int)=((p.toNat * n:Nat):Int):=by
  rw [Int.natCast_mul,Int.toNat_of_nonneg hp.1]
 have h3:p.toNat * n≤1024:=by unfold ix at h1;omega
 unfold Bd_
 dsimp only
 rw [hn,e,wrS (a:=((p.toNat * n:Nat):Int)) ⟨by omega,by omega⟩,wrS (by omega)]
 congr 1
 unfold ix
 omega
structure StepB (T:Fst) (n i z:Nat) (x y:Int):Prop where
 x0:0≤x
 x1:x<T.arcs.length
 y0:0≤y
 y1:y<T.arcs.length
 fx:(nth T.arcs x.toNat Arc.zero).frm=((i / n:Nat):Int)
 fy:(nth T.arcs y.toNat Arc.zero).frm=((i % n:Nat):Int)
 to:ix n (nth T.arcs x.toNat Arc.zero).to (nth T.arcs y.toNat Arc.zero).to=z
 by':bothS (nth T.arcs x.toNat Arc.zero).set (nth T.arcs y.toNat Arc.zero).set≠BSet.zero
structure BkS (T:Fst) (n:Nat) (l:List (List FBack)) (c:Nat):Prop where
 len:l.length=n * n
 sound: ∀z,z<n * n→ ∀b∈nth l z ([]:List FBack), ∃i,i<n * n∧b.frm=((i:Nat):Int)∧StepB T n i z b.x b.y
 small: ∀z,(nth l z ([]:List FBack)).length≤c
def Mono(l m:List (List FBack)):Prop:= ∀z, ∀b∈nth l z ([]:List FBack),b∈nth m z ([]:List FBack)
theorem Mono.rfl'(l:List (List FBack)):Mono l l:=fun _ _ h=>h
theorem Mono.trans{l m r:List (List FBack)}(h:Mono l m)(k:Mono m r):Mono l r:=fun z b hb=>k z b (h z b hb)
def SeenB(l:List (List FBack))(n i:Nat)(s:List Bool):Prop:=s.length=n * n∧ ∀z,nth s z false=true→ ∃b∈nth l z ([]:List FBack),b.frm=((i:Nat):Int)
section
variable {T:Fst} {n:Nat} {A:List (List Int)} {E:List (List (List UInt8))} (hS:Sta T n A E) {S:Search} (hSt:S.t=T) (hSa:S.arcs=A)
include hS hSt hSa
theorem backs_one{i j k:Nat}(hi:i<n * n)(hj:j<(nth A (i / n) ([]:List Int)).length)(hk:k<(nth A (i % n) ([]:List Int)).length){l:List (List FBack)}{s:List Bool}{c:Nat}(hl:BkS T n l c)(hc:c≤1000000000000)(hs:SeenB l n i s):
  ∃l' s',Aj_ S i j l s k=some (.inl (l',s',k+1))∧BkS T n l' (c+1)∧SeenB l' n i s'∧Mono l l'∧
   (bothS (nth T.arcs (nth (nth A (i / n) ([]:List Int)) j (0:Int)).toNat Arc.zero).set (nth T.arcs (nth (nth A (i % n) ([]:List Int)) k (0:Int)).toNat Arc.zero).set≠BSet.zero→
    ∃b∈nth l' (ix n (nth T.arcs (nth (nth A (i / n) ([]:List Int)) j (0:Int)).toNat Arc.zero).to (nth T.arcs (nth (nth A (i % n) ([]:List Int)) k (0:Int)).toNat Arc.zero).to) ([]:List FBack),b.frm=((i:Nat):Int)):=by
 have hp:=div_lt hi
 have hq:=mod_lt hi
 have hp0:(0:Int)≤((i / n:Nat):Int):=Int.natCast_nonneg _
 have hq0:(0:Int)≤((i % n:Nat):Int):=Int.natCast_nonneg _
 have hn32:=hS.n32
 have hsq:=sq_le hn32
 obtain ⟨u,eu,hu,fu⟩:=hS.arc hp hj
 obtain ⟨v,ev,hv,fv⟩:=hS.arc hq hk
 have hst:S.t.states=((n:Nat):Int):=by rw [hSt];exact hS.st
 have hup:=(hS.ok.arcs _ (nth_mem' hu Arc.zero)).2.1
 have hvp:=(hS.ok.arcs _ (nth_mem' hv Arc.zero)).2.1
 rw [hS.st]at hup hvp
 have hz:=ix_lt hup hvp
 have hlen:=hl.len
 have hsl:=hs.1
 unfold Aj_
 rw [hst,dv,md,wrS (by omega),Int.toNat_natCast,Int.toNat_natCast,hSa,hSt,iteO_dt (by omega),eu,ev,grd_mk ⟨by omega,by omega⟩,grd_mk ⟨by omega,by omega⟩]
 unfold Cu_ Bh_
 rw [hst,dv,md,wrS (by omega),Int.toNat_natCast,Int.toNat_natCast,hSa,hSt,eu,ev,Int.toNat_natCast,Int.toNat_natCast]
 rw [bnd_some (index_eq (S:=S) hst hS.n32 hup hvp),Int.toNat_natCast,grd_mk ⟨by omega,by omega⟩]
 generalize hzz:ix n (nth T.arcs u Arc.zero).to (nth T.arcs v Arc.zero).to=z at hz
 cases hse:nth s z false with
 |true=>
  refine ⟨l,s,rfl,⟨hl.len,hl.sound,fun y=>Nat.le_succ_of_le (hl.small y)⟩,hs,Mono.rfl' l,fun _=>hs.2 z hse⟩
 |false=>
  rw [Bool.not_false,iteO_true,bnd_some (both_eq _ _)]
  by_cases hb:bothS (nth T.arcs u Arc.zero).set (nth T.arcs v Arc.zero).set=BSet.zero
  ·rw [iteO_df (by simpa using hb)]
   exact ⟨l,s,rfl,⟨hl.len,hl.sound,fun y=>Nat.le_succ_of_le (hl.small y)⟩,hs,Mono.rfl' l,fun h=>absurd hb h⟩
  have hsm:=hl.small z
  rw [iteO_dt hb,grd_mk ⟨by omega,by omega⟩,grd_mk ⟨by omega,by omega⟩,grd_mk (by rw [List.length_singleton];omega),grd_mk ⟨by omega,by omega⟩]
  have hnew:nth (l.set z (nth l z []++[(⟨((i:Nat):Int),((u:Nat):Int),((v:Nat):Int)⟩:FBack)])) z []=nth l z []++[(⟨((i:Nat):Int),((u:Nat):Int),((v:Nat):Int)⟩:FBack)]:=by
   rw [nth_set,if_pos ⟨rfl,by omega⟩]
  have hold: ∀y,y≠z→nth (l.set z (nth l z []++[(⟨((i:Nat):Int),((u:Nat):Int),((v:Nat):Int)⟩:FBack)])) y []=nth l y []:=fun y hy=>by
   rw [nth_set,if_neg (fun h=>hy h.1.symm)]
  have hmono:Mono l (l.set z (nth l z []++[(⟨((i:Nat):Int),((u:Nat):Int),((v:Nat):Int)⟩:FBack)])):=fun y b hb=>by
   by_cases hy:y=z
   ·subst hy;rw [hnew];exact List.mem_append_left _ hb
   rw [hold y hy];exact hb
  refine ⟨_,_,rfl,⟨by rw [List.length_set];exact hlen,fun y hy b hb'=> ?_,fun y=> ?_⟩,⟨by rw [List.length_set];exact hsl,fun y hy=> ?_⟩,hmono,fun _=>⟨⟨((i:Nat):Int),((u:Nat):Int),((v:Nat):Int)⟩,by rw [hnew];exact List.mem_append_right _ (List.mem_singleton.2 rfl),rfl⟩⟩
  ·by_cases e:y=z
   ·subst e
    rw [hnew]at hb'
    rcases List.mem_append.1 hb' with hb'|hb'
    ·exact hl.sound y hy b hb'
    obtain rfl:=List.mem_singleton.1 hb'
    exact ⟨i,hi,rfl,⟨by dsimp only;omega,by dsimp only;omega,by dsimp only;omega,by dsimp only;omega,fu,fv,hzz,hb⟩⟩
   rw [hold y e]at hb';exact hl.sound y hy b hb'
  ·by_cases e:y=z
   ·subst e;rw [hnew,List.length_append,List.length_singleton];omega
   rw [hold y e];exact Nat.le_succ_of_le (hl.small y)
  rw [nth_set]at hy
  by_cases e:z=y
  ·subst e
   exact ⟨⟨((i:Nat):Int),((u:Nat):Int),((v:Nat):Int)⟩,by rw [hnew];exact List.mem_append_right _ (List.mem_singleton.2 rfl),rfl⟩
  rw [if_neg (fun h=>e h.1)]at hy
  obtain ⟨b,hb1,hb2⟩:=hs.2 y hy
  exact ⟨b,hmono y b hb1,hb2⟩
def DoneB(T:Fst)(n:Nat)(A:List (List Int))(l:List (List FBack))(i j k:Nat):Prop:=
 bothS (nth T.arcs (nth (nth A (i / n) ([]:List Int)) j (0:Int)).toNat Arc.zero).set (nth T.arcs (nth (nth A (i % n) ([]:List Int)) k (0:Int)).toNat Arc.zero).set≠BSet.zero→
  ∃b∈nth l (ix n (nth T.arcs (nth (nth A (i / n) ([]:List Int)) j (0:Int)).toNat Arc.zero).to (nth T.arcs (nth (nth A (i % n) ([]:List Int)) k (0:Int)).toNat Arc.zero).to) ([]:List FBack),b.frm=((i:Nat):Int)
omit hS hSt hSa in
theorem DoneB.mono{l m:List (List FBack)}(h:Mono l m){i j k:Nat}(hd:DoneB T n A l i j k):DoneB T n A m i j k:=fun hb=>by
 obtain ⟨b,h1,h2⟩:=hd hb
 exact ⟨b,h _ b h1,h2⟩
theorem backs_in{i j:Nat}(hi:i<n * n)(hj:j<(nth A (i / n) ([]:List Int)).length){l:List (List FBack)}{s:List Bool}{c:Nat}(hl:BkS T n l c)(hc:c≤900000000000)(hs:SeenB l n i s):
  ∃l' s',iter (fun q:(List (List FBack))×(List Bool)×Nat=>Aj_ S i j q.1 q.2.1 q.2.2) (l,s,0)=some (.inl (l',s',j+1))∧BkS T n l' (c+16384)∧SeenB l' n i s'∧Mono l l'∧ ∀k,k<(nth A (i % n) ([]:List Int)).length→DoneB T n A l' i j k:=by
 have hq:=mod_lt hi
 have hlen:=hS.row_len (i % n) hq
 obtain ⟨r,e,l',s',rfl,h1,h2,h3,h4⟩:=iter_up (step:=fun q:(List (List FBack))×(List Bool)×Nat=>Aj_ S i j q.1 q.2.1 q.2.2) (fun (q:(List (List FBack))×(List Bool)) k=>(q.1,q.2,k)) (nth A (i % n) ([]:List Int)).length
  (fun k q=>BkS T n q.1 (c+k)∧SeenB q.1 n i q.2∧Mono l q.1∧ ∀m,m<k→DoneB T n A q.1 i j m)
  (fun r=> ∃l' s',r= .inl (l',s',j+1)∧BkS T n l' (c+16384)∧SeenB l' n i s'∧Mono l l'∧ ∀k,k<(nth A (i % n) ([]:List Int)).length→DoneB T n A l' i j k)
  (fun k q hk hI=>by
   obtain ⟨l',s',e,h1,h2,h3,h4⟩:=backs_one hS hSt hSa hi hj hk hI.1 (by omega) hI.2.1
   refine .inl ⟨(l',s'),e,h1,h2,hI.2.2.1.trans h3,fun m hm=> ?_⟩
   by_cases e2:m=k
   ·subst e2;exact h4
   exact (hI.2.2.2 m (by omega)).mono h3)
  (fun q hI=>by
   refine ⟨_,?_,q.1,q.2,rfl,⟨hI.1.len,hI.1.sound,fun z=>Nat.le_trans (hI.1.small z) (by omega)⟩,hI.2.1,hI.2.2.1,hI.2.2.2⟩
   show Aj_ S i j q.1 q.2 (nth A (i % n) ([]:List Int)).length=_
   unfold Aj_
   rw [hSa,hSt,hS.st,md,Int.toNat_natCast,iteO_df (by omega)];rfl)
  (s0:=(l,s)) ⟨hl,hs,Mono.rfl' l,fun m hm=>absurd hm (by omega)⟩
 exact ⟨l',s',e,h1,h2,h3,h4⟩
theorem backs_at{i:Nat}(hi:i<n * n){l:List (List FBack)}{s:List Bool}{c:Nat}(hl:BkS T n l c)(hc:c≤600000000000)(hs:SeenB l n i s):
  ∃l' s',iter (fun q:(List (List FBack))×(List Bool)×Nat=>Ah_ S i q.1 q.2.1 q.2.2) (l,s,0)=some (.inl (l',s',i+1))∧BkS T n l' (c+268435456)∧SeenB l' n i s'∧Mono l l'∧ ∀j k,j<(nth A (i / n) ([]:List Int)).length→k<(nth A (i % n) ([]:List Int)).length→DoneB T n A l' i j k:=by
 have hp:=div_lt hi
 have hq:=mod_lt hi
 have hp0:(0:Int)≤((i / n:Nat):Int):=Int.natCast_nonneg _
 have hq0:(0:Int)≤((i % n:Nat):Int):=Int.natCast_nonneg _
 have hlen:=hS.row_len (i / n) hp
 have hn32:=hS.n32
 have hsq:=sq_le hn32
 have hal:=hS.ar.len
 obtain ⟨r,e,l',s',rfl,h1,h2,h3,h4⟩:=iter_up (step:=fun q:(List (List FBack))×(List Bool)×Nat=>Ah_ S i q.1 q.2.1 q.2.2) (fun (q:(List (List FBack))×(List Bool)) k=>(q.1,q.2,k)) (nth A (i / n) ([]:List Int)).length
  (fun j q=>BkS T n q.1 (c+j * 16384)∧SeenB q.1 n i q.2∧Mono l q.1∧ ∀m k,m<j→k<(nth A (i % n) ([]:List Int)).length→DoneB T n A q.1 i m k)
  (fun r=> ∃l' s',r= .inl (l',s',i+1)∧BkS T n l' (c+268435456)∧SeenB l' n i s'∧Mono l l'∧ ∀j k,j<(nth A (i / n) ([]:List Int)).length→k<(nth A (i % n) ([]:List Int)).length→DoneB T n A l' i j k)
  (fun j q hj hI=>by
   obtain ⟨l',s',e,h1,h2,h3,h4⟩:=backs_in hS hSt hSa hi hj hI.1 (by omega) hI.2.1
   refine .inl ⟨(l',s'),?_,by rw [Nat.add_mul,Nat.one_mul,←Nat.add_assoc];exact h1,h2,hI.2.2.1.trans h3,fun m k hm hk=> ?_⟩
   ·show Ah_ S i q.1 q.2 j=_
    unfold Ah_
    rw [hSt,hSa,hS.st,dv,md,wrS (by omega),Int.toNat_natCast,iteO_dt (by omega),grd_mk (by omega),grd_mk ⟨by omega,by omega⟩]
    exact e
   by_cases e2:m=j
   ·subst e2;exact h4 k hk
   exact (hI.2.2.2 m k (by omega) hk).mono h3)
  (fun q hI=>by
   refine ⟨_,?_,q.1,q.2,rfl,⟨hI.1.len,hI.1.sound,fun z=>Nat.le_trans (hI.1.small z) (by omega)⟩,hI.2.1,hI.2.2.1,hI.2.2.2⟩
   show Ah_ S i q.1 q.2 (nth A (i / n) ([]:List Int)).length=_
   unfold Ah_
   rw [hSt,hSa,hS.st,dv,wrS (by omega),Int.toNat_natCast,iteO_df (by omega),grd_mk (by omega)];rfl)
  (s0:=(l,s)) ⟨by rw [Nat.zero_mul];exact hl,hs,Mono.rfl' l,fun m k hm=>absurd hm (by omega)⟩
 exact ⟨l',s',e,h1,h2,h3,h4⟩
structure BackOk (T:Fst) (n:Nat) (l:List (List FBack)):Prop where
 len:l.length=n * n
 sound: ∀z,z<n * n→ ∀b∈nth l z ([]:List FBack), ∃i,i<n * n∧b.frm=((i:Nat):Int)∧StepB T n i z b.x b.y
 full: ∀i,i<n * n→ ∀x∈T.arcs, ∀y∈T.arcs,x.frm=((i / n:Nat):Int)→y.frm=((i % n:Nat):Int)→bothS x.set y.set≠BSet.zero→ ∃b∈nth l (ix n x.to y.to) ([]:List FBack),b.frm=((i:Nat):Int)
theorem backs_eq: ∃l,Ck_ S=some l∧BackOk T n l:=by
 have hn32:=hS.n32
 have hsq:=sq_le hn32
 have hal:=hS.ar.len
 have hnn:IntKind.i64.wrap (S.t.states * S.t.states)=((n * n:Nat):Int):=by
  rw [hSt,hS.st,←Int.natCast_mul];exact wrS (by omega)
 unfold Ck_
 rw [hnn,Int.toNat_natCast,grd_mk ⟨by omega,by omega⟩,grd_mk ⟨by omega,by omega⟩]
 obtain ⟨l,e,h⟩:=iter_up (step:=fun q:(List (List FBack))×(List Bool)×Nat=>Au_ S q.1 q.2.1 q.2.2) (fun (q:(List (List FBack))×(List Bool)) k=>(q.1,q.2,k)) (n * n)
  (fun i q=>BkS T n q.1 (i * 268435456)∧q.2.length=n * n∧ ∀m j k,m<i→j<(nth A (m / n) ([]:List Int)).length→k<(nth A (m % n) ([]:List Int)).length→DoneB T n A q.1 m j k)
  (fun l=>BackOk T n l)
  (fun i q hi hI=>by
   have hp:=div_lt hi
   have hp0:(0:Int)≤((i / n:Nat):Int):=Int.natCast_nonneg _
   obtain ⟨l',s',e,h1,h2,h3,h4⟩:=backs_at hS hSt hSa hi hI.1 (by omega) (s:=q.2.take 0++List.replicate (q.2.length - 0) false) ⟨by simp;exact hI.2.1,fun z hz=>by
    rw [List.take_zero,List.nil_append]at hz
    rw [nth_rep]at hz;cases hz⟩
   refine .inl ⟨(l',s'),?_,by rw [Nat.add_mul,Nat.one_mul];exact h1,h2.1,fun m j k hm hj hk=> ?_⟩
   ·show Au_ S q.1 q.2 i=_
    unfold Au_
    rw [hnn,hSt,hSa,hS.st,dv,wrS (by omega),iteO_dt (by omega),grd_mk (by omega),grd_mk ⟨by omega,by omega⟩]
    exact e
   by_cases e2:m=i
   ·subst e2;exact h4 j k hj hk
   exact (hI.2.2 m j k (by omega) hj hk).mono h3)
  (fun q hI=>by
   refine ⟨q.1,?_,hI.1.len,hI.1.sound,fun i hi x hx y hy h1 h2 hb=> ?_⟩
   ·show Au_ S q.1 q.2 (n * n)=_
    unfold Au_
    rw [hnn,iteO_df (by omega)];rfl
   obtain ⟨j,hj,ej⟩:=hS.arcs (div_lt hi) hx h1
   obtain ⟨k,hk,ek⟩:=hS.arcs (mod_lt hi) hy h2
   have:=hI.2.2 i j k hi hj hk
   unfold DoneB at this
   rw [ej,ek]at this
   exact this hb)
  (s0:=(List.replicate (n * n) [],List.replicate (n * n) false)) ⟨⟨List.length_replicate,fun z hz b hb=>(by rw [nth_rep]at hb;cases hb),fun z=>by rw [nth_rep];exact Nat.zero_le _⟩,List.length_replicate,fun m j k hm=>absurd hm (by omega)⟩
 exact ⟨l,e,h⟩
end
end Go.Proofs.YtchebnpdnfhenaaGreatDoor
end

noncomputable section
namespace Go.Proofs.YtchebnpdnfhenaaGreatDoor
open Go Go.E
theorem low_bit: ∀x:Nat,x≠0→ ∃k m,x=2 ^ k * (2 * m+1):=by
 intro x
 induction x using Nat.strongRecOn with
 |_ x ih=>
  intro h0
  by_cases h:x % 2=1
  ·exact ⟨0,x / 2,by rw [Nat.pow_zero];omega⟩
  obtain ⟨k,m,e⟩:=ih (x / 2) (by omega) (by omega)
  refine ⟨k+1,m,?_⟩
  have:x=2 * (x / 2):=by omega
  rw [this,e,Nat.pow_succ,Nat.mul_comm (2 ^ k) 2,Nat.mul_assoc]
theorem low_and{k m:Nat}(h:2 ^ k * (2 * m+1)<18446744073709551616):(2 ^ k * (2 * m+1)) &&& (18446744073709551616 - 2 ^ k * (2 * m+1))=2 ^ k:=by
 have hp:0<2 ^ k:=Nat.two_pow_pos k
 have hx:2 ^ k * (2 * m+1)=(2 ^ k * (2 * m)+(2 ^ k - 1))+1:=by rw [Nat.mul_add];omega
 have e2:18446744073709551616 - 2 ^ k * (2 * m+1)=2 ^ 64 - ((2 ^ k * (2 * m)+(2 ^ k - 1))+1):=by rw [←hx]
 have hlt:2 ^ k * (2 * m)+(2 ^ k - 1)<2 ^ 64:=by
  have:(2:Nat) ^ 64=18446744073709551616:=rfl
  omega
 refine Nat.eq_of_testBit_eq fun i=> ?_
 rw [Nat.testBit_and,e2,Nat.testBit_two_pow_sub_succ hlt,Nat.testBit_two_pow_mul_add _ (by omega),Nat.testBit_two_pow,Nat.testBit_two_pow_mul,Nat.testBit_two_pow_sub_one]
 have h64:k<64:=by
  apply Decidable.byContradiction
  intro hc
  have h1:2 ^ 64≤2 ^ k:=Nat.pow_le_pow_right (by omega) (by omega)
  have h2:2 ^ k * 1≤2 ^ k * (2 * m+1):=Nat.mul_le_mul_left _ (by omega)
  have h3:(2:Nat) ^ 64=18446744073709551616:=rfl
  omega
 by_cases h1:i<k
 ·rw [if_pos h1,decide_eq_false (show ¬ k≤i by omega),decide_eq_false (show ¬ k=i by omega)];rfl
 rw [if_neg h1,decide_eq_true (show k≤i by omega),Bool.true_and]
 by_cases h2:i=k
 ·subst h2
  rw [Nat.sub_self,decide_eq_true (show i<64 by omega),decide_eq_true rfl,Nat.testBit_zero,Nat.testBit_zero]
  rw [decide_eq_true (show (2 * m+1) % 2=1 by omega),decide_eq_false (show ¬ (2 * m) % 2=1 by omega)];rfl
 obtain ⟨j,hj⟩: ∃j,i - k=j+1:=⟨i - k - 1,by omega⟩
 rw [hj,Nat.testBit_succ,Nat.testBit_succ,show (2 * m+1) / 2=m by omega,show (2 * m) / 2=m by omega,decide_eq_false (show ¬ k=i by omega)]
 cases m.testBit j<;>cases decide (i<64)<;>rfl
theorem deB_pow: ∀k:Fin 64,u64shr (u64mul (2 ^ k.val) 285870213051353865) 58<64∧(nth deB (u64shr (u64mul (2 ^ k.val) 285870213051353865) 58) (0:UInt8)).toNat=k.val:=by decide+kernel
theorem ctz_eq{x:Nat}(h0:x≠0)(h:x<18446744073709551616): ∃k:Nat,k<64∧x.testBit k=true∧Bc_ x=some ((k:Nat):Int):=by
 obtain ⟨k,m,rfl⟩:=low_bit x h0
 have h64:k<64:=by
  apply Decidable.byContradiction
  intro hc
  have h1:2 ^ 64≤2 ^ k:=Nat.pow_le_pow_right (by omega) (by omega)
  have h2:2 ^ k * 1≤2 ^ k * (2 * m+1):=Nat.mul_le_mul_left _ (by omega)
  have h3:(2:Nat) ^ 64=18446744073709551616:=rfl
  omega
 refine ⟨k,h64,?_,?_⟩
 ·rw [Nat.testBit_two_pow_mul,Nat.sub_self,decide_eq_true (Nat.le_refl k),Nat.testBit_zero,decide_eq_true (show (2 * m+1) % 2=1 by omega)];rfl
 have hn:u64of (-((2 ^ k * (2 * m+1):Nat):Int))=18446744073709551616 - 2 ^ k * (2 * m+1):=by
  generalize 2 ^ k * (2 * m+1)=y at h h0 ⊢
  unfold u64of;omega
 have ha:u64and (2 ^ k * (2 * m+1)) (u64of (-((2 ^ k * (2 * m+1):Nat):Int)))=2 ^ k:=by
  rw [hn]
  unfold u64and
  rw [BitVec.toNat_and,BitVec.toNat_ofNat,BitVec.toNat_ofNat,Nat.mod_eq_of_lt h,Nat.mod_eq_of_lt (show 18446744073709551616 - 2 ^ k * (2 * m+1)<2 ^ 64 by
   have:(2:Nat) ^ 64=18446744073709551616:=rfl
   omega),low_and h]
 obtain ⟨h1,h2⟩:=deB_pow ⟨k,h64⟩
 dsimp only at h1 h2
 unfold Bc_
 rw [iteO_df h0,ha,grd_mk h1,h2]
theorem word_lt'(s:BSet)(i:Nat):s.word i<18446744073709551616:=BSet.word_lt s.isOk i
theorem has_bitF(s:BSet)(n:Nat):s.has n=(s.word (n / 64)).testBit (n % 64):=by
 unfold BSet.has;rw [Nat.testBit_eq_decide_div_mod_eq]
theorem first_none:C9_ BSet.zero=some (0,false):=by
 have hb: ∀k,k<4→A5_ BSet.zero k=some (.inl (k+1)):=fun k hk=>by
  unfold A5_
  have:BSet.zero.word k=0:=by unfold BSet.word BSet.zero;dsimp only;repeat (first|split|rfl)
  rw [iteO_dt (by omega),grd_mk hk,iteO_df (by rw [this];simp)];rfl
 unfold C9_
 obtain ⟨r,h,e⟩:=iter_up (step:=fun q:Nat=>A5_ BSet.zero q) (fun (_:Unit) k=>k) 4 (fun _ _=>True) (fun r=>r=((0:UInt8),false))
  (fun k s hk _=> .inl ⟨(),hb k hk,trivial⟩) (fun s _=>⟨_,by
   show A5_ BSet.zero 4=_
   unfold A5_
   rw [iteO_df (by omega)];rfl,rfl⟩) (s0:=()) trivial
 rw [h,e]
theorem first_some{s:BSet}(h0:s≠BSet.zero): ∃b:UInt8,C9_ s=some (b,true)∧s.has b.toNat=true:=by
 unfold C9_
 obtain ⟨r,h,b,rfl,hb⟩:=iter_up (step:=fun q:Nat=>A5_ s q) (fun (_:Unit) k=>k) 4 (fun k _=> ∀i,i<k→s.word i=0) (fun r=> ∃b:UInt8,r=(b,true)∧s.has b.toNat=true)
  (fun k u hk hI=>by
   show (∃s',A5_ s k=_∧_)∨ ∃r,A5_ s k=_∧_
   unfold A5_
   by_cases hw:s.word k=0
   ·refine .inl ⟨(),?_,fun i hi=> ?_⟩
    ·rw [iteO_dt (by omega),grd_mk hk,iteO_df (by rw [hw];simp)];rfl
    by_cases e:i=k
    ·rw [e];exact hw
    exact hI i (by omega)
   obtain ⟨j,hj,ht,he⟩:=ctz_eq hw (word_lt' s k)
   have hv:(toU8 (IntKind.i64.wrap ((IntKind.i64.wrap (64 * ((k:Nat):Int)))+((j:Nat):Int)))).toNat=64 * k+j:=by
    rw [wrap64_of (a:=64 * ((k:Nat):Int)) (by omega) (by omega),wrap64_of (by omega) (by omega)]
    have:=toU8_val (64 * ((k:Nat):Int)+((j:Nat):Int))
    rw [wrap_u8]at this
    omega
   refine .inr ⟨(toU8 (IntKind.i64.wrap ((IntKind.i64.wrap (64 * ((k:Nat):Int)))+((j:Nat):Int))),true),?_,_,rfl,?_⟩
   ·rw [iteO_dt (by omega),grd_mk hk,iteO_dt hw,he];rfl
   rw [hv,has_bitF,show (64 * k+j) / 64=k by omega,show (64 * k+j) % 64=j by omega];exact ht)
  (fun u hI=>by
   refine absurd ?_ h0
   have h1:=hI 0 (by omega)
   have h2:=hI 1 (by omega)
   have h3:=hI 2 (by omega)
   have h4:=hI 3 (by omega)
   rw [←BSet.zero_iff]
   exact ⟨by rw [show s.a=0 from h1];rfl,by rw [show s.b=0 from h2];rfl,by rw [show s.c=0 from h3];rfl,by rw [show s.d=0 from h4];rfl⟩) (s0:=()) (fun i hi=>absurd hi (by omega))
 exact ⟨b,h,hb⟩
theorem u64and_ltF(a b:Nat):u64and a b<18446744073709551616:=by unfold u64and;exact BitVec.isLt _
theorem has_bitG(s:BSet)(n:Nat):s.has n=(s.word (n / 64)).testBit (n % 64):=by
 unfold BSet.has;rw [Nat.testBit_eq_decide_div_mod_eq]
theorem both_hasF(a b:BSet)(n:Nat)(hn:n<256):(bothS a b).has n=(a.has n && b.has n):=by
 have h: ∃r,Cj_ a b=some r∧ ∀i,i<4→r.word i=u64and (a.word i) (b.word i):=by
  unfold Cj_
  exact iter_up (step:=fun q:BSet×Nat=>A6_ b q.1 q.2) (fun (s:BSet) k=>(s,k)) 4 (fun k s=> ∀i,i<4→s.word i=if i<k then u64and (a.word i) (b.word i) else a.word i) (fun r=> ∀i,i<4→r.word i=u64and (a.word i) (b.word i))
   (fun k s hk hI=> .inl ⟨BSet.setWord s k (u64and (BSet.word s k) (BSet.word b k)),by
    show A6_ b s k=_
    unfold A6_
    rw [iteO_dt (by omega),grd_mk hk,grd_mk hk,grd_mk hk,grd_mk (u64and_ltF _ _)];rfl,fun i hi=>by
    rw [BSet.word_set s hk _ i (u64and_ltF _ _) hi]
    have h0:=hI i hi
    have h1:=hI k hk
    rw [if_neg (Nat.lt_irrefl k)]at h1
    by_cases c:i=k
    ·subst c;rw [if_pos rfl,if_pos (by omega),h1]
    rw [if_neg c,h0]
    by_cases c2:i<k
    ·rw [if_pos c2,if_pos (by omega)]
    rw [if_neg c2,if_neg (by omega)]⟩)
   (fun s hI=>⟨s,by
    show A6_ b s 4=_
    unfold A6_
    rw [iteO_df (by omega)];rfl,fun i hi=>by rw [hI i hi,if_pos hi]⟩) (s0:=a) (fun i hi=>by rw [if_neg (by omega)])
 obtain ⟨r,h,hw⟩:=h
 have:bothS a b=r:=by have:=both_eq a b;rw [h]at this;exact (Option.some.inj this).symm
 rw [this,has_bitG,has_bitG,has_bitG,hw _ (by omega)]
 have l1:=BSet.word_lt a.isOk (n / 64)
 have l2:=BSet.word_lt b.isOk (n / 64)
 unfold u64and
 rw [BitVec.toNat_and,BitVec.toNat_ofNat,BitVec.toNat_ofNat,Nat.mod_eq_of_lt l1,Nat.mod_eq_of_lt l2,Nat.testBit_and]
theorem both_nz{a b:BSet}{n:Nat}(hn:n<256)(ha:a.has n=true)(hb:b.has n=true):bothS a b≠BSet.zero:=fun h=>by
 have:=both_hasF a b n hn
 rw [h,ha,hb,has_bitG]at this
 have hz:BSet.zero.word (n / 64)=0:=by unfold BSet.word BSet.zero;dsimp only;repeat (first|split|rfl)
 rw [hz,Nat.zero_testBit]at this
 cases this
theorem both_first{a b:BSet}(h:bothS a b≠BSet.zero): ∃c:UInt8,C9_ (bothS a b)=some (c,true)∧a.has c.toNat=true∧b.has c.toNat=true:=by
 obtain ⟨c,h1,h2⟩:=first_some h
 rw [both_hasF a b _ c.toNat_lt,Bool.and_eq_true]at h2
 exact ⟨c,h1,h2.1,h2.2⟩
end Go.Proofs.YtchebnpdnfhenaaGreatDoor
end
