/- Parts of a proof, one behind the other: what a machine reaches, functions decompiled, plain lemmas. Conditions stand with each lemma. -/
import Derived.Test.YtnpbfjdpglfdkaaGreatDoorBdb19d5a1f3
import Derived.Test.YtnpbfjdpglfdkaaGreatDoorBfd8fec568e
import Derived.RangeFuncLeaves

set_option linter.unusedVariables false
set_option linter.unusedSimpArgs false
set_option linter.unusedSectionVars false
set_option maxRecDepth 100000
set_option maxHeartbeats 8000000
variable {σ:Go.E.Store}{a0_0 a0_1 a0_2 a0_3 a0_5 a1_0 a1_1 a1_4 a1_7 a2_1 a3_1:Option Go.Addr}{Eb0 Eb1 Eb2 Eb3 b0_0 b1_0 b2_0 b3_0 c0_0 c0_1 c0_2 c0_4 c0_6 c1_0 c1_2 c1_5 c1_8 c2_2 c3_2:Nat}

noncomputable section
namespace Go.Proofs.YtnpbfjdpglfdkaaGreatDoor
open Go Go.E Go.E.OpVal Go.E.OpOk Go.Proofs.Tryz
theorem ag170:aggOf Tryz.prog 170=some false:=by kernel_rfl
theorem ag29:aggOf Tryz.prog 29=some false:=by kernel_rfl
theorem by4:byOf Tryz.prog 4=some 1:=by kernel_rfl
theorem pf103:plainF Tryz.prog 103=true:=by kernel_rfl
theorem pf48:plainF Tryz.prog 48=true:=by kernel_rfl
theorem pf49:plainF Tryz.prog 49=true:=by kernel_rfl
theorem pf80:plainF Tryz.prog 80=true:=by kernel_rfl
theorem pf81:plainF Tryz.prog 81=true:=by kernel_rfl
theorem pl59:plOf Tryz.prog 59=some #[(0,1),(1,1),(2,4),(6,1),(7,1)]:=by kernel_rfl
theorem pl62:plOf Tryz.prog 62=some #[(0,1),(1,1)]:=by kernel_rfl
theorem sz170:szOf Tryz.prog 170=some 1:=by kernel_rfl
theorem sz22:szOf Tryz.prog 22=some 1:=by kernel_rfl
theorem sz29:szOf Tryz.prog 29=some 1:=by kernel_rfl
theorem sz4:szOf Tryz.prog 4=some 1:=by kernel_rfl
theorem ze170:zeroOf Tryz.prog 170=some (.nilFunc):=by kernel_rfl
theorem ze28:zeroOf Tryz.prog 28=some (.slice none 0 0):=by kernel_rfl
theorem ze29:zeroOf Tryz.prog 29=some (.slice none 0 0):=by kernel_rfl
theorem ze4:zeroOf Tryz.prog 4=some (.bool false):=by kernel_rfl
def Az_(x2:List (List Int))(x0:Int)(self_:Int→(List Bool)→(List (List Int))→Option (List Bool))(l124:List Bool)(k127:Nat):Option (((List Bool)×Nat)⊕((List Bool))):=
 iteO (decide (((k127:Nat):Int)<(((nth x2 x0.toNat ([]:List Int)).length:Nat):Int))) (bnd (self_ (nth (nth x2 x0.toNat ([]:List Int)) k127 (0:Int)) l124 x2) (fun v21=>nxt (v21,(k127+1)))) (fin (some l124))
def Do_(self_:Int→(List Bool)→(List (List Int))→Option (List Bool))(x0:Int)(x1:List Bool)(x2:List (List Int)):Option ((List Bool)):=
 grd (0≤x0∧x0<(x1.length:Int)) (iteO (nth x1 x0.toNat false) (some x1) (grd (0≤x0∧x0<(x1.length:Int)) (grd (0≤x0∧x0<(x2.length:Int)) (iter (fun q:(List Bool)×Nat=>Az_ x2 x0 self_ q.1 q.2) ((x1.set x0.toNat true),0)))))
def By_:Nat→Int→(List Bool)→(List (List Int))→Option (List Bool)
 |0=>fun _ _ _=>none
 |n+1=>Do_ (By_ n)
theorem If_ {self_:Int→(List Bool)→(List (List Int))→Option (List Bool)} (self__con: ∀{σ:Store} {x0:Int} {x1:List Bool} {b1_0:Nat} {Eb1:Nat} {a1_1:Option Addr} {c1_2:Nat} {x2:List (List Int)} {b2_0:Nat} {Eb2:Nat} {a2_1:Option Addr} {c2_2:Nat} {b3_0:Nat} {Eb3:Nat} (f2_3:RZ σ (pkSl 1 eI_ eIl_) (.slice a2_1 x2.length c2_2) x2) {r:(List Bool)} (hh:self_ x0 x1 x2=some r),
  Con Tryz.prog 103 #[.int .i64 x0,loc b1_0 0,loc b2_0 0,loc b3_0 0] σ [Res.cells b1_0 #[.slice a1_1 x1.length c1_2] Eb1,Res.rowS 4 1 encB (.slice a1_1 x1.length c1_2) x1,Res.cells b2_0 #[.slice a2_1 x2.length c2_2] Eb2,Res.cells b3_0 #[.func (.func 103) #[] #[loc b1_0 0,loc b2_0 0,loc b3_0 0]] Eb3] (fun v σ' H'=> ∃ao1 co2,v= .tuple #[]∧σ=σ'∧H'=[Res.cells b1_0 #[.slice ao1 r.length co2] Eb1,Res.rowS 4 1 encB (.slice ao1 r.length co2) r,Res.cells b2_0 #[.slice a2_1 x2.length c2_2] Eb2,Res.cells b3_0 #[.func (.func 103) #[] #[loc b1_0 0,loc b2_0 0,loc b3_0 0]] Eb3])) {σ:Store} {x0:Int} {x1:List Bool} {b1_0:Nat} {Eb1:Nat} {a1_1:Option Addr} {c1_2:Nat} {x2:List (List Int)} {b2_0:Nat} {Eb2:Nat} {a2_1:Option Addr} {c2_2:Nat} {b3_0:Nat} {Eb3:Nat} (f2_3:RZ σ (pkSl 1 eI_ eIl_) (.slice a2_1 x2.length c2_2) x2) {r:(List Bool)} (hh:Do_ self_ x0 x1 x2=some r):
  Con Tryz.prog 103 #[.int .i64 x0,loc b1_0 0,loc b2_0 0,loc b3_0 0] σ [Res.cells b1_0 #[.slice a1_1 x1.length c1_2] Eb1,Res.rowS 4 1 encB (.slice a1_1 x1.length c1_2) x1,Res.cells b2_0 #[.slice a2_1 x2.length c2_2] Eb2,Res.cells b3_0 #[.func (.func 103) #[] #[loc b1_0 0,loc b2_0 0,loc b3_0 0]] Eb3] (fun v σ' H'=> ∃ao1 co2,v= .tuple #[]∧σ=σ'∧H'=[Res.cells b1_0 #[.slice ao1 r.length co2] Eb1,Res.rowS 4 1 encB (.slice ao1 r.length co2) r,Res.cells b2_0 #[.slice a2_1 x2.length c2_2] Eb2,Res.cells b3_0 #[.func (.func 103) #[] #[loc b1_0 0,loc b2_0 0,loc b3_0 0]] Eb3]):=by
 dsimp only [Do_]at hh
 have f2_3b:=f2_3.big
 refine Con.mk (n:=27) Tryz.func103 z z z (fun w0=> ?_)
 refine TC.weakR (TC.seq (TC.a (TL.w z (loadLoc z ag29 z (i:=0) z z) (TL.i z z ?_))))
 have u3:=grd_c hh
 replace hh:=grd_t hh
 refine TL.isSl (i:=1) z (fun hs107 _ _=> ?_)
 refine TL.w z (OpVal.index z underlying29 sz4 z z hs107 u3.1 u3.2) (TL.w z (loadO1 false z ag4 z (q:=1) z encB_len (by omega) z) (TL.en (TC.cB z hh (fun h108 hh=> ?_) (fun h108 hh=> ?_))))
 ·refine TC.ret (S.r ?_)
  obtain rfl:=so hh
  refine ⟨_,Sub.f [3,3,3,3] 4,?_⟩
  exact ro [Res.cells b1_0 #[.slice a1_1 x1.length c1_2] Eb1,Res.rowS 4 1 encB (.slice a1_1 x1.length c1_2) x1,Res.cells b2_0 #[.slice a2_1 x2.length c2_2] Eb2,Res.cells b3_0 #[.func (.func 103) #[] #[loc b1_0 0,loc b2_0 0,loc b3_0 0]] Eb3] z RVs.nil ⟨a1_1,c1_2,z,z,z⟩
 refine TC.skip (S.n (TC.a (TL.w z (loadLoc z ag29 z (i:=0) z z) (TL.i z z ?_))))
 have u7:=grd_c hh
 replace hh:=grd_t hh
 refine TL.isSl (i:=1) z (fun hs109 _ _=> ?_)
 refine TL.w z (OpVal.index z underlying29 sz4 z z hs109 u7.1 u7.2) (TL.front 1 z z ?_)
 have hn110:(x1.set x0.toNat true).length=x1.length:=by rw [List.length_set]
 refine TL.op z (storeS true z sz4 z z z z encB_len encB_one (by omega) (by omega) ?_)
 refine TL.en (TC.a (TL.w z (loadLoc z ag28 z (i:=2) z z) (TL.i z z ?_)))
 have u11:=grd_c hh
 replace hh:=grd_t hh
 refine TL.w z (OpVal.index z underlying28 sz27 z z f2_3.isSl u11.1 u11.2) ?_
 obtain ⟨p111,hk111,hg111⟩:=RZ.seg f2_3 x0.toNat (by omega)
 replace hk111:RS _ 1 eI_ (.slice p111.1 (nth x2 x0.toNat ([]:List Int)).length p111.2) (nth x2 x0.toNat ([]:List Int)):=hk111
 have hk111b:=hk111.rv.big
 refine TL.w z (OpVal.of (loadSeg0 z ag27 z hg111 z) (v':= .slice p111.1 ((nth x2 x0.toNat ([]:List Int)).length) p111.2) z) (TL.w z (lenC z underlying27 z) (TL.i z z (TL.en (TC.block ?_))))
 rw [←hn110]
 refine TC.loopG (α:=((List Bool)×Nat)×((Option Addr)×Nat)) (rgs [(6,1),(19,8)]) (fun g=>[(19,.int .i64 ((g.1.2:Nat):Int))]) (fun g=>[Res.cells b3_0 #[.func (.func 103) #[] #[loc b1_0 0,loc b2_0 0,loc b3_0 0]] Eb3,Res.cells b1_0 #[.slice g.2.1 g.1.1.length g.2.2] Eb1,Res.rowS 4 1 encB (.slice g.2.1 g.1.1.length g.2.2) g.1.1,Res.cells b2_0 #[.slice a2_1 x2.length c2_2] Eb2]) (fun g=>σ) (fun g=>iter (fun q:(List Bool)×Nat=>Az_ x2 x0 self_ q.1 q.2) g.1=some r) (fun g=>rounds (fun q:(List Bool)×Nat=>Az_ x2 x0 self_ q.1 q.2) g.1) (((x1.set x0.toNat true),0),(a1_1,c1_2)) (Sub.f [2,1,2,3] 4) z (by repeat (first|exact trivial|refine ⟨z,?_⟩)) hh (fun g1 j1 hg1=> ?_)
 obtain ⟨⟨l124,k127⟩,⟨a125,c126⟩⟩:=g1
 have hh:=hg1;clear hg1
 try dsimp only
 obtain ⟨z1,hh,hR1⟩:=iter_e hh
 dsimp only [Az_]at hh
 refine TC.isSl (i:=2) z (fun _ hb128 _=> ?_)
 refine TC.a (TL.w z (OpVal.lss z z z) (TL.en (TC.seq (TC.cD z hh (fun h129 hh=> ?_) (fun h129 hh=> ?_)))))
 ·refine TC.skip (S.n (TC.seq (TC.block (TC.a (TL.w z (indexN z underlying27 sz3 z z hk111.rv.sl (by omega)) (TL.w z (loadS1 (0:Int) z ag3 z hk111 (by omega) z) (TL.i z z (TL.en (TC.region (TL.w z (loadLoc z ag170 z (i:=0) z z) (TL.i z z (TL.front 3 z z (TL.front 3 z z (TL.front 3 z z ?_))))))))))))))
  obtain ⟨v21,u21,hh⟩:=bnd_e hh
  refine TL.op z (OpOk.call (self__con f2_3 u21) z z pf103 z z z z ?_)
  rintro _ _ _ hle130 ⟨a130_1,c130_2,rfl,rfl,rfl⟩
  refine TL.nil (B.n (S.n (TC.region (TL.w z (OpVal.succ z z z (by omega)) (TL.i z z (TL.en ?_))))))
  obtain ⟨hh,hlt132⟩:=nxt_x hR1 hh
  exact lf ((v21,(k127+1)),(a130_1,c130_2)) hlt132 hh (Sub.f [2,2,2,3] 4)
 refine TC.exit (S.x (S.x ?_))
 replace hh:=fin_x hR1 hh
 refine TC.exitHere ?_
 obtain rfl:=so hh
 refine ⟨_,Sub.f [3,3,3] 4,?_⟩
 exact RetOk.mk' (rs:=[]) [Res.cells b1_0 #[.slice a125 l124.length c126] Eb1,Res.rowS 4 1 encB (.slice a125 l124.length c126) l124,Res.cells b2_0 #[.slice a2_1 x2.length c2_2] Eb2,Res.cells b3_0 #[.func (.func 103) #[] #[loc b1_0 0,loc b2_0 0,loc b3_0 0]] Eb3] z (.inr z) RVs.nil (List.sublist_append_left _ _) ⟨a125,c126,z,z,z⟩
theorem Ih_{n_:Nat}: ∀{σ:Store} {x0:Int} {x1:List Bool} {b1_0:Nat} {Eb1:Nat} {a1_1:Option Addr} {c1_2:Nat} {x2:List (List Int)} {b2_0:Nat} {Eb2:Nat} {a2_1:Option Addr} {c2_2:Nat} {b3_0:Nat} {Eb3:Nat} (f2_3:RZ σ (pkSl 1 eI_ eIl_) (.slice a2_1 x2.length c2_2) x2) {r:(List Bool)} (hh:By_ n_ x0 x1 x2=some r),
  Con Tryz.prog 103 #[.int .i64 x0,loc b1_0 0,loc b2_0 0,loc b3_0 0] σ [Res.cells b1_0 #[.slice a1_1 x1.length c1_2] Eb1,Res.rowS 4 1 encB (.slice a1_1 x1.length c1_2) x1,Res.cells b2_0 #[.slice a2_1 x2.length c2_2] Eb2,Res.cells b3_0 #[.func (.func 103) #[] #[loc b1_0 0,loc b2_0 0,loc b3_0 0]] Eb3] (fun v σ' H'=> ∃ao1 co2,v= .tuple #[]∧σ=σ'∧H'=[Res.cells b1_0 #[.slice ao1 r.length co2] Eb1,Res.rowS 4 1 encB (.slice ao1 r.length co2) r,Res.cells b2_0 #[.slice a2_1 x2.length c2_2] Eb2,Res.cells b3_0 #[.func (.func 103) #[] #[loc b1_0 0,loc b2_0 0,loc b3_0 0]] Eb3]):=by
 induction n_ with
 |zero=>intro σ x0 x1 b1_0 Eb1 a1_1 c1_2 x2 b2_0 Eb2 a2_1 c2_2 b3_0 Eb3 f2_3 r hh;exact absurd hh (by intro h_;cases h_)
 |succ k_ ih_=>
  intro σ x0 x1 b1_0 Eb1 a1_1 c1_2 x2 b2_0 Eb2 a2_1 c2_2 b3_0 Eb3 f2_3 r hh
  exact If_ (self_:=By_ k_) @ih_ f2_3 hh
def Bf_(x0:List Tip)(x1:List (List Int))(l121:List Bool)(k124:Nat):Option (((List Bool)×Nat)⊕((List Bool))):=
 iteO (decide (((k124:Nat):Int)<((x0.length:Nat):Int))) (bnd (By_ (l121.length+1) ((nth x0 k124 Tip.zero).state) l121 x1) (fun v22=>nxt (v22,(k124+1)))) (fin (some l121))
def Ea_(x0:List Tip)(x1:List (List Int)):Option ((List Bool)):=
 grd (1 * x1.length≤281474976710656) (iter (fun q:(List Bool)×Nat=>Bf_ x0 x1 q.1 q.2) ((List.replicate x1.length false),0))
def I8_(σ:Store)(r:(List Bool)):Value→Store→List Res→Prop:=fun v σ' H'=>
 ∃a1 c1,v= .slice a1 r.length c1∧σ=σ'∧H'=[Res.rowS 4 1 encB (.slice a1 r.length c1) r]
theorem Hl_{x0:List Tip}{x1:List (List Int)}(f0_0:RS σ 2 encTip (.slice a0_0 x0.length c0_0) x0)(f1_0:RZ σ (pkSl 1 eI_ eIl_) (.slice a1_0 x1.length c1_0) x1){r:(List Bool)}(hh:Ea_ x0 x1=some r):
  Con Tryz.prog 81 #[.slice a0_0 x0.length c0_0,.slice a1_0 x1.length c1_0] σ [] (I8_ σ r):=by
 dsimp only [Ea_]at hh
 have f0_0b:=f0_0.rv.big
 have f1_0b:=f1_0.big
 refine Con.mk (n:=25) Tryz.func81 z z z (fun w0=> ?_)
 refine TC.a (TL.op z (OpOk.box z z z z (fun b101=> ?_)))
 refine TL.s z z (TL.en (TC.a (TL.w z (loadLoc z ag28 z (i:=0) z z) (TL.w z (lenC z underlying28 z) ?_))))
 have u5:=grd_c hh
 replace hh:=grd_t hh
 refine TL.op z (makeS2 (enc:=encB) false z underlying29 sz4 by4 ze4 z z z z (by omega) (by decide) encB_len (by decide) z encB_one (fun a103 c104=> ?_))
 refine TL.op z (OpOk.alloc z ze29 z z (fun b106=> ?_))
 refine TL.op z (storeSl z sz29 z z z z z ?_)
 refine TL.en (TC.a (TL.op z (OpOk.alloc z ze170 z z (fun b108=> ?_))))
 refine TL.en (TC.a (TL.w z (makeFn z) (TL.op z (storeFn z sz170 z z z z z ?_))))
 refine TL.en (TC.seq (TC.a (TL.s z z (TL.w z (lenC z underlying22 z) (TL.i z z (TL.en (TC.block (TC.loopG (α:=((List Bool)×Nat)×((Option Addr)×Nat)) (rgs [(8,1),(15,9)]) (fun g=>[(15,.int .i64 ((g.1.2:Nat):Int))]) (fun g=>[Res.cells b106 #[.slice g.2.1 g.1.1.length g.2.2] 29,Res.rowS 4 1 encB (.slice g.2.1 g.1.1.length g.2.2) g.1.1,Res.cells b108 #[.func (.func 103) #[] #[loc b106 0,loc b101 0,loc b108 0]] 170,Res.cells b101 #[.slice a1_0 x1.length c1_0] 28]) (fun g=>σ) (fun g=>iter (fun q:(List Bool)×Nat=>Bf_ x0 x1 q.1 q.2) g.1=some r) (fun g=>rounds (fun q:(List Bool)×Nat=>Bf_ x0 x1 q.1 q.2) g.1) (((List.replicate x1.length false),0),(a103,c104)) (Sub.f [3,1,3,3] 4) z (by repeat (first|exact trivial|refine ⟨z,?_⟩)) hh (fun g1 j1 hg1=> ?_)))))))))
 obtain ⟨⟨l121,k124⟩,⟨a122,c123⟩⟩:=g1
 have hh:=hg1;clear hg1
 try dsimp only
 obtain ⟨z1,hh,hR1⟩:=iter_e hh
 dsimp only [Bf_]at hh
 refine TC.isSl (i:=1) z (fun _ hb125 _=> ?_)
 refine TC.a (TL.w z (OpVal.lss z z z) (TL.en (TC.seq (TC.cD z hh (fun h126 hh=> ?_) (fun h126 hh=> ?_)))))
 ·refine TC.skip (S.n (TC.seq (TC.block (TC.a (TL.w z (indexN z underlying22 sz62 z z f0_0.rv.sl (by omega)) (TL.w z (loadSA Tip.zero z ag62 sz62 z f0_0 (by omega) (by omega)) (TL.op z (OpOk.alloc z ze62 z z (fun b127=> ?_)))))))))
  refine TL.op z (storeAll z sz62 z z z z z z ?_)
  refine TL.en (TC.region (TL.w z (loadLoc z ag170 z (i:=3) z z) (TL.w z (fieldLoc z fo62_0 z) (TL.w z (loadLoc z ag3 z (i:=0) z z) (TL.front 3 z z (TL.front 4 z z (TL.front 4 z z (TL.front 4 z z ?_))))))))
  obtain ⟨v22,u22,hh⟩:=bnd_e hh
  refine TL.op z (OpOk.call (Ih_ f1_0 u22) z z pf103 z z z z ?_)
  rintro _ _ _ hle129 ⟨a129_1,c129_2,rfl,rfl,rfl⟩
  refine TL.nil (B.n (S.n (TC.region (TL.w z (OpVal.succ z z z (by omega)) (TL.i z z (TL.en ?_))))))
  obtain ⟨hh,hlt131⟩:=nxt_x hR1 hh
  exact lf ((v22,(k124+1)),(a129_1,c129_2)) hlt131 hh (Sub.f [2,3,3,3] 4)
 refine TC.exit (S.x (S.x ?_))
 replace hh:=fin_x hR1 hh
 refine TC.exitHere (S.n (TC.a (TL.w z (loadLoc z ag29 z (i:=0) z z) (TL.s z z (TL.en (TC.ofSub (Sub.f [1] 1) (TC.ret ?_)))))))
 obtain rfl:=so hh
 exact ro [Res.rowS 4 1 encB (.slice a122 l121.length c123) l121] z (RVs.tmp z RVs.nil) ⟨a122,c123,z,z,z⟩
def Cd_{Sy:Type}(k125:Nat)(s134:Sy):Option ((Nat×Sy)⊕(Sy)):=
 nxt ((k125+1),s134)
def Ar_{Sy:Type}(v4:(List Bool))(v8:(List Bool))(Y:Sy→Int→Option (Sy×Bool))(k125:Nat)(s126:Sy):Option ((Nat×Sy)⊕(Sy)):=
 iteO (decide (((k125:Nat):Int)<((v4.length:Nat):Int))) (iteO (nth v4 k125 false) (grd (k125<v8.length) (iteO (nth v8 k125 false) (bnd (Y s126 ((k125:Nat):Int)) (fun v30=>iteO (!v30.2) (fin (some v30.1)) (Cd_ k125 v30.1))) (Cd_ k125 s126))) (Cd_ k125 s126)) (fin (some s126))
def Dq_{Sy:Type}(Y:Sy→Int→Option (Sy×Bool))(s0:Sy)(x1:Fst)(x2:List (List Int))(x3:List (List Int)):Option (Sy):=
 bnd (Ea_ x1.starts x2) (fun v4=>bnd (Ea_ x1.ends x3) (fun v8=>iter (fun q:Nat×Sy=>Ar_ v4 v8 Y q.1 q.2) (0,s0)))
theorem Ie_{Sy:Type}{Y:Sy→Int→Option (Sy×Bool)}{s0:Sy}{x1:Fst}{x2:List (List Int)}{x3:List (List Int)}(f1_3:RS σ 2 encTip (.slice a1_1 x1.starts.length c1_2) x1.starts)(f1_6:RS σ 2 encTip (.slice a1_4 x1.ends.length c1_5) x1.ends)(f1_9:RS σ 8 encArc (.slice a1_7 x1.arcs.length c1_8) x1.arcs)(f2_3:RZ σ (pkSl 1 eI_ eIl_) (.slice a2_1 x2.length c2_2) x2)(f3_3:RZ σ (pkSl 1 eI_ eIl_) (.slice a3_1 x3.length c3_2) x3){r:Sy}(hh:Dq_ Y s0 x1 x2 x3=some r):
  IterOk Tryz.prog 80 [loc b1_0 0,loc b2_0 0,loc b3_0 0] (fun (x:Int) _ vs=>vs=[.int .i64 x]) Y σ [Res.cells b1_0 #[.int .i64 x1.states,.slice a1_1 x1.starts.length c1_2,.slice a1_4 x1.ends.length c1_5,.slice a1_7 x1.arcs.length c1_8] Eb1,Res.cells b2_0 #[.slice a2_1 x2.length c2_2] Eb2,Res.cells b3_0 #[.slice a3_1 x3.length c3_2] Eb3] s0 r (fun σ' H'=>H'=[Res.cells b1_0 #[.int .i64 x1.states,.slice a1_1 x1.starts.length c1_2,.slice a1_4 x1.ends.length c1_5,.slice a1_7 x1.arcs.length c1_8] Eb1,Res.cells b2_0 #[.slice a2_1 x2.length c2_2] Eb2,Res.cells b3_0 #[.slice a3_1 x3.length c3_2] Eb3]):=by
 intro l Z ry0 hY hys
 dsimp only [Dq_]at hh
 have f1_3b:=f1_3.rv.big
 have f1_6b:=f1_6.rv.big
 have f1_9b:=f1_9.rv.big
 have f2_3b:=f2_3.big
 have f3_3b:=f3_3.big
 refine Con.mk (n:=38) Tryz.func80 z z z (fun w0=> ?_)
 refine TC.weakR (TC.seq ?_)
 obtain ⟨v4,u4,hh⟩:=bnd_e hh
 obtain ⟨v8,u8,hh⟩:=bnd_e hh
 refine TC.draw [] (by kernel_rfl) (TA.a 0 z (fieldLoc z fo25_1 z) z (TA.b 1 z (loadLoc z ag22 z (i:=1) z z) z (TA.b 2 z (loadLoc z ag28 z (i:=2) z z) z (TA.a 4 z (fieldLoc z fo25_2 z) z (TA.b 5 z (loadLoc z ag22 z (i:=1) z z) z (TA.b 6 z (loadLoc z ag28 z (i:=3) z z) z (TA.ac 3 z (OpOk.call (Hl_ f1_3 f2_3 u4) z z pf81 z z z z ?_))))))))
 rintro _ _ _ hle113 ⟨a113_1,c113_1,rfl,rfl,rfl⟩
 refine k1 (TA.ac 7 z (OpOk.call (Hl_ f1_6 f3_3 u8) z z pf81 z z z z ?_))
 rintro _ _ _ hle115 ⟨a115_1,c115_1,rfl,rfl,rfl⟩
 refine k2 (TA.a 8 z (moveSl (.inr z) z) z (TA.a 9 z (moveSl (.inr z) z) z (TA.dn (S.n (TC.a (TL.s z z (TL.w z (lenC z underlying29 z) (TL.i z z (TL.en (TC.block (TC.loopG (α:=(Nat×Sy)×(Res×Store)) (rgs [(7,1),(18,20)]) (fun g=>[(18,.int .i64 ((g.1.1:Nat):Int))]) (fun g=>[Res.rowS 4 1 encB (.slice a113_1 v4.length c113_1) v4,Res.rowS 4 1 encB (.slice a115_1 v8.length c115_1) v8,Res.cells b1_0 #[.int .i64 x1.states,.slice a1_1 x1.starts.length c1_2,.slice a1_4 x1.ends.length c1_5,.slice a1_7 x1.arcs.length c1_8] Eb1,Res.cells b2_0 #[.slice a2_1 x2.length c2_2] Eb2,Res.cells b3_0 #[.slice a3_1 x3.length c3_2] Eb3,g.2.1]) (fun g=>g.2.2) (fun g=>iter (fun q:Nat×Sy=>Ar_ v4 v8 Y q.1 q.2) g.1=some r∧YR Z g.1.2 g.2.2 g.2.1∧Store.le σ g.2.2) (fun g=>rounds (fun q:Nat×Sy=>Ar_ v4 v8 Y q.1 q.2) g.1) ((0,s0),(ry0,σ)) (Sub.f [2,5,5,5,4,5] 6) z (by repeat (first|exact trivial|refine ⟨z,?_⟩)) ⟨hh,hys,(Store.le.refl _)⟩ (fun g1 j1 hg1=> ?_))))))))))))
 obtain ⟨⟨k125,s126⟩,⟨ry127,τ129⟩⟩:=g1
 obtain ⟨hh,hy128,hle130⟩:=hg1
 try dsimp only at hy128 hle130 ⊢
 obtain ⟨z1,hh,hR1⟩:=iter_e hh
 dsimp only [Ar_]at hh
 skip
 refine TC.isSl (i:=0) z (fun _ hb131 _=> ?_)
 refine TC.isSl (i:=1) z (fun _ hb132 _=> ?_)
 refine TC.a (TL.w z (OpVal.lss z z z) (TL.en (TC.seq (TC.cD z hh (fun h133 hh=> ?_) (fun h133 hh=> ?_)))))
 ·refine TC.skip (S.n (TC.cutG (α:=(Sy)×(Res×Store)) (rgs [(7,1),(20,17)]) (fun g=>[]) (fun g=>[Res.rowS 4 1 encB (.slice a113_1 v4.length c113_1) v4,Res.rowS 4 1 encB (.slice a115_1 v8.length c115_1) v8,Res.cells b1_0 #[.int .i64 x1.states,.slice a1_1 x1.starts.length c1_2,.slice a1_4 x1.ends.length c1_5,.slice a1_7 x1.arcs.length c1_8] Eb1,Res.cells b2_0 #[.slice a2_1 x2.length c2_2] Eb2,Res.cells b3_0 #[.slice a3_1 x3.length c3_2] Eb3,g.2.1]) (fun g=>g.2.2) (fun g=>Cd_ k125 g.1=some z1∧YR Z g.1 g.2.2 g.2.1∧Store.le τ129 g.2.2) ?_ (fun g j hg=> ?_)))
  ·skip
   refine TC.block (TC.a (TL.i z z (TL.i z z (TL.en (TC.a (TL.s z z (TL.i z z (TL.isSl (i:=0) z (fun hs137 _ _=> ?_)))))))))
   refine TL.w z (indexN z underlying29 sz4 z z hs137 (by omega)) (TL.w z (loadO1 false z ag4 z (q:=0) z encB_len (by omega) z) (TL.j z z (TL.split 25 z (fun h138=> ?_) (fun h138=> ?_))))
   ·replace hh:=iteO_t h138 hh
    refine TL.g z (moveSl (.inl z) z) (TL.g z (moveI (.inl z) z) ?_)
    have u24:=grd_c hh
    replace hh:=grd_t hh
    refine TL.isSl (i:=1) z (fun hs139 _ _=> ?_)
    refine TL.g z (indexN z underlying29 sz4 z z hs139 (by omega)) (TL.g z (loadO1 false z ag4 z (q:=1) z encB_len (by omega) z) (TL.w z (pickTB z z z) (TL.j z z (TL.split 31 z (fun h140=> ?_) (fun h140=> ?_)))))
    ·replace hh:=iteO_t h140 hh
     refine TL.g z (OpVal.mv (.inl z)) (TL.g z (moveI (.inl z) z) ?_)
     obtain ⟨v30,u30,hh⟩:=bnd_e hh
     refine TL.front 5 z z (TL.gon z z z z z (callY hY hy128 u30 z z z z z z ?_))
     rintro τ141 ry141 hle141 hy141
     refine TL.g z (OpVal.not z z) (TL.w z (pickTB z z z) (TL.en (TC.cB z hh (fun h142 hh=> ?_) (fun h142 hh=> ?_))))
     ·refine TC.ofSub (Sub.f [5,5,5,3] 4) (TC.ret (B.r (S.r (S.r ?_))))
      replace hh:=fin_x hR1 hh
      refine B.r ?_
      obtain rfl:=so hh
      refine ⟨_,Sub.f [3,3,3,3] 4,?_⟩
      exact ro [ry141,Res.cells b1_0 #[.int .i64 x1.states,.slice a1_1 x1.starts.length c1_2,.slice a1_4 x1.ends.length c1_5,.slice a1_7 x1.arcs.length c1_8] Eb1,Res.cells b2_0 #[.slice a2_1 x2.length c2_2] Eb2,Res.cells b3_0 #[.slice a3_1 x3.length c3_2] Eb3] z RVs.nil ⟨_,_,z,hy141,z⟩
     exact TC.skip (B.n (S.n (cf (v30.1,(ry141,τ141)) ⟨hh,hy141,hle141⟩ (Sub.f [5,5,5,5,5] 6))))
    replace hh:=iteO_f h140 hh
    exact TL.f z (TL.f z (TL.f z (TL.f z (TL.w z (pickFB z z z) (TL.en (TC.f z (TC.skip (B.n (S.n (cf (s126,(ry127,τ129)) ⟨hh,hy128,(Store.le.refl _)⟩ (Sub.f [5,5,5,5,5,5] 6)))))))))))
   replace hh:=iteO_f h138 hh
   refine TL.f z (TL.f z (TL.f z (TL.f z (TL.w z (pickFB z z z) (TL.j z z (TL.f z (TL.f z (TL.f z (TL.f z (TL.w z (pickFB z z z) (TL.en (TC.f z (TC.skip (B.n (S.n ?_)))))))))))))))
   exact cf (s126,(ry127,τ129)) ⟨hh,hy128,(Store.le.refl _)⟩ (Sub.f [5,5,5,5,5,5] 6)
  skip
  obtain ⟨s134,⟨ry135,τ143⟩⟩:=g
  obtain ⟨hh,hy136,hle144⟩:=hg
  try dsimp only at hy136
  dsimp only at hle144
  replace hy128:=hy128.mono hle144
  try dsimp only
  dsimp only [Cd_]at hh
  skip
  refine TC.isSl (i:=0) z (fun _ hb145 _=> ?_)
  refine TC.isSl (i:=1) z (fun _ hb146 _=> ?_)
  refine TC.region (TL.w z (OpVal.succ z z z (by omega)) (TL.i z z (TL.en ?_)))
  obtain ⟨hh,hlt147⟩:=nxt_x hR1 hh
  exact lf (((k125+1),s134),(ry135,τ143)) hlt147 ⟨hh,hy136,(hle130.trans hle144)⟩ (Sub.f [5,5,5,5,5,5] 6)
 refine TC.exit (S.x (S.x ?_))
 replace hh:=fin_x hR1 hh
 refine TC.exitHere ?_
 obtain rfl:=so hh
 refine ⟨_,Sub.f [4,4,4,5] 4,?_⟩
 exact RetOk.mk' (rs:=[]) [ry127,Res.cells b1_0 #[.int .i64 x1.states,.slice a1_1 x1.starts.length c1_2,.slice a1_4 x1.ends.length c1_5,.slice a1_7 x1.arcs.length c1_8] Eb1,Res.cells b2_0 #[.slice a2_1 x2.length c2_2] Eb2,Res.cells b3_0 #[.slice a3_1 x3.length c3_2] Eb3] z (.inr z) RVs.nil (List.sublist_append_left _ _) ⟨_,_,z,hy128,z⟩
def Eg_(l387:List (List Int))(x0:Fst)(k394:Nat)(l391:List (List Int)):Option (((List (List Int))×(List (List Int))×Nat)⊕((Fst×(List (List Int))×(List (List Int))))):=
 nxt ((l387.set (((nth x0.arcs k394 Arc.zero).frm).toNat) ((nth l387 (((nth x0.arcs k394 Arc.zero).frm).toNat) ([]:List Int))++[(nth x0.arcs k394 Arc.zero).to])),(l391.set (((nth x0.arcs k394 Arc.zero).to).toNat) ((nth l391 (((nth x0.arcs k394 Arc.zero).to).toNat) ([]:List Int))++[(nth x0.arcs k394 Arc.zero).frm])),(k394+1))
def Ei_(x0:Fst)(k394:Nat)(l391:List (List Int))(l387:List (List Int)):Option (((List (List Int))×(List (List Int))×Nat)⊕((Fst×(List (List Int))×(List (List Int))))):=
 grd (0≤((nth x0.arcs k394 Arc.zero).to)∧((nth x0.arcs k394 Arc.zero).to)<(l391.length:Int)) (grd (((nth l391 (((nth x0.arcs k394 Arc.zero).to).toNat) ([]:List Int)).length+[(nth x0.arcs k394 Arc.zero).frm].length) * 8≤140737488355328) (grd (0≤((nth x0.arcs k394 Arc.zero).to)∧((nth x0.arcs k394 Arc.zero).to)<(l391.length:Int)) (Eg_ l387 x0 k394 l391)))
def Bc_(x0:Fst)(l387:List (List Int))(l391:List (List Int))(k394:Nat):Option (((List (List Int))×(List (List Int))×Nat)⊕((Fst×(List (List Int))×(List (List Int))))):=
 iteO (decide (((k394:Nat):Int)<((x0.arcs.length:Nat):Int))) (grd (0≤((nth x0.arcs k394 Arc.zero).frm)∧((nth x0.arcs k394 Arc.zero).frm)<(l387.length:Int)) (grd (((nth l387 (((nth x0.arcs k394 Arc.zero).frm).toNat) ([]:List Int)).length+[(nth x0.arcs k394 Arc.zero).to].length) * 8≤140737488355328) (grd (0≤((nth x0.arcs k394 Arc.zero).frm)∧((nth x0.arcs k394 Arc.zero).frm)<(l387.length:Int)) (Ei_ x0 k394 l391 l387)))) (fin (some (x0,l387,l391)))
def Ek_(x0:Fst):Option ((Fst×(List (List Int))×(List (List Int)))):=
 iter (fun q:(List (List Int))×(List (List Int))×Nat=>Bc_ x0 q.1 q.2.1 q.2.2) ((List.replicate x0.states.toNat ([]:List Int)),(List.replicate x0.states.toNat ([]:List Int)),0)
def Ex_(x0:Fst):Option ((Fst×(List (List Int))×(List (List Int)))):=
 grd (0≤x0.states∧24 * x0.states.toNat≤281474976710656) (grd (0≤x0.states∧24 * x0.states.toNat≤281474976710656) (Ek_ x0))
theorem Ij_{x0:Fst}(f0_0:RS σ 2 encTip (.slice a0_0 x0.starts.length c0_0) x0.starts)(f0_1:RS σ 2 encTip (.slice a0_1 x0.ends.length c0_1) x0.ends)(f0_2:RS σ 8 encArc (.slice a0_2 x0.arcs.length c0_2) x0.arcs){r:(Fst×(List (List Int))×(List (List Int)))}(hh:Ex_ x0=some r):
  Con Tryz.prog 48 #[.agg #[.int .i64 x0.states,.slice a0_0 x0.starts.length c0_0,.slice a0_1 x0.ends.length c0_1,.slice a0_2 x0.arcs.length c0_2]] σ [] (fun v σ' H'=> ∃br10 ar1 cr2 ar4 cr5 ar7 cr8 br14 ar11 cr12 br18 ar15 cr16,v= .func (.func 80) #[] #[loc br10 0,loc br14 0,loc br18 0]∧RS σ' 2 encTip (.slice ar1 r.1.starts.length cr2) r.1.starts∧RS σ' 2 encTip (.slice ar4 r.1.ends.length cr5) r.1.ends∧RS σ' 8 encArc (.slice ar7 r.1.arcs.length cr8) r.1.arcs∧RZ σ' (pkSl 1 eI_ eIl_) (.slice ar11 r.2.1.length cr12) r.2.1∧RZ σ' (pkSl 1 eI_ eIl_) (.slice ar15 r.2.2.length cr16) r.2.2∧H'=[Res.cells br10 #[.int .i64 r.1.states,.slice ar1 r.1.starts.length cr2,.slice ar4 r.1.ends.length cr5,.slice ar7 r.1.arcs.length cr8] 25,Res.cells br14 #[.slice ar11 r.2.1.length cr12] 28,Res.cells br18 #[.slice ar15 r.2.2.length cr16] 28]):=by
 dsimp only [Ex_]at hh
 have f0_0b:=f0_0.rv.big
 have f0_1b:=f0_1.rv.big
 have f0_2b:=f0_2.rv.big
 refine Con.mk (n:=48) Tryz.func48 z z z (fun w0=> ?_)
 refine TC.a (TL.op z (boxA z z z z (fun b109=> ?_)))
 refine TL.w z (OpVal.mv (.inr z)) (TL.en (TC.cutG (α:=(Unit)×(Nat×(Option Addr)×Nat×Nat×(Option Addr)×Nat)) (rgs [(3,2),(7,6)]) (fun g=>[(3,loc g.2.1 0),(4,loc g.2.2.2.2.1 0)]) (fun g=>[Res.cells b109 #[.int .i64 x0.states,.slice a0_0 x0.starts.length c0_0,.slice a0_1 x0.ends.length c0_1,.slice a0_2 x0.arcs.length c0_2] 25,Res.cells g.2.1 #[.slice g.2.2.1 ((List.replicate x0.states.toNat ([]:List Int)).length) g.2.2.2.1] 28,Res.nest 27 3 1 eI_ (.slice g.2.2.1 (List.replicate x0.states.toNat ([]:List Int)).length g.2.2.2.1) (List.replicate x0.states.toNat (nilN:NP Int)),Res.cells g.2.2.2.2.1 #[.slice g.2.2.2.2.2.1 ((List.replicate x0.states.toNat ([]:List Int)).length) g.2.2.2.2.2.2] 28,Res.nest 27 3 1 eI_ (.slice g.2.2.2.2.2.1 (List.replicate x0.states.toNat ([]:List Int)).length g.2.2.2.2.2.2) (List.replicate x0.states.toNat (nilN:NP Int))]) (fun g=>σ) (fun g=>Ek_ x0=some r∧Zn (List.replicate x0.states.toNat (nilN:NP Int)) (List.replicate x0.states.toNat ([]:List Int))∧Zn (List.replicate x0.states.toNat (nilN:NP Int)) (List.replicate x0.states.toNat ([]:List Int))) ?_ (fun g j hg=> ?_)))
 ·skip
  have u5:=grd_c hh
  replace hh:=grd_t hh
  have u8:=grd_c hh
  replace hh:=grd_t hh
  refine TC.drawR (Hr:=[Res.cells b109 #[.int .i64 x0.states,.slice a0_0 x0.starts.length c0_0,.slice a0_1 x0.ends.length c0_1,.slice a0_2 x0.arcs.length c0_2] 25]) (fun r hr=>mem_pick [0] z hr) [] (by kernel_rfl) (TA.a 0 z (fieldLoc z fo25_0 z) z (TA.b 1 z (loadLoc z ag3 z (i:=0) z z) z (TA.a 3 z (fieldLoc z fo25_0 z) z (TA.b 4 z (loadLoc z ag3 z (i:=0) z z) z ?_))))
  refine TA.actN [2,5,6,7] (by kernel_rfl) (an rfl rfl (makeN (q:=x0.states.toNat) (E:=3) (size:=1) (enc:=eI_) rfl underlying28 sz27 by27 ze27 rfl rfl (vN u5.1) (vN u5.1) (by omega) (by decide) rfl (fun a135 c136 zf137=>(k1 ?_))) (an rfl rfl (makeN (q:=x0.states.toNat) (E:=3) (size:=1) (enc:=eI_) rfl underlying28 sz27 by27 ze27 rfl rfl (vN u8.1) (vN u8.1) (by omega) (by decide) rfl (fun a139 c140 zf141=>(k1 ?_))) (an rfl rfl (OpOk.alloc rfl ze28 rfl rfl (fun b143=>(k1 ?_))) (an rfl rfl (OpOk.alloc rfl ze28 rfl rfl (fun b145=>(k1 ?_))) (True.intro)))))
  ·skip
   refine TA.actN [5,6,7] (by kernel_rfl) (an rfl rfl (makeN (q:=x0.states.toNat) (E:=3) (size:=1) (enc:=eI_) rfl underlying28 sz27 by27 ze27 rfl rfl (vN u8.1) (vN u8.1) (by omega) (by decide) rfl (fun a147 c148 zf149=>(k2 ?_))) (an rfl rfl (OpOk.alloc rfl ze28 rfl rfl (fun b151=>(k2 ?_))) (an rfl rfl (OpOk.alloc rfl ze28 rfl rfl (fun b153=>(k2 ?_))) (True.intro))))
   ·skip
    refine TA.actN [6,7] (by kernel_rfl) (an z z (OpOk.alloc z ze28 z z (fun b155=>(k3 ?_))) (an z z (OpOk.alloc z ze28 z z (fun b157=>(k3 ?_))) (True.intro)))
    ·skip
     refine TA.ac 7 z (OpOk.alloc z ze28 z z (fun b159=>(kc 4 ?_)))
     refine TA.front 1 z z (TA.ac 8 z (storeSl z sz28 z z z z z (kc 4 ?_)))
     refine TA.front 1 z z (TA.ac 9 z (storeSl z sz28 z z z z z (kc 4 ?_)))
     exact TA.dn (S.n (cf ((),(b155,a135,c136,b159,a147,c148)) ⟨hh,zf137,zf149⟩ (Sub.f [2,1,3,3,4] 5)))
    skip
    refine TA.ac 6 z (OpOk.alloc z ze28 z z (fun b161=>(kc 4 ?_)))
    refine TA.ac 8 z (storeSl z sz28 z z z z z (kc 4 ?_))
    refine TA.front 1 z z (TA.ac 9 z (storeSl z sz28 z z z z z (kc 4 ?_)))
    exact TA.dn (S.n (cf ((),(b161,a135,c136,b157,a147,c148)) ⟨hh,zf137,zf149⟩ (Sub.f [2,1,3,3,4] 5)))
   ·skip
    refine TA.actN [5,7] (by kernel_rfl) (an rfl rfl (makeN (q:=x0.states.toNat) (E:=3) (size:=1) (enc:=eI_) rfl underlying28 sz27 by27 ze27 rfl rfl (vN u8.1) (vN u8.1) (by omega) (by decide) rfl (fun a163 c164 zf165=>(k3 ?_))) (an rfl rfl (OpOk.alloc rfl ze28 rfl rfl (fun b167=>(k3 ?_))) (True.intro)))
    ·skip
     refine TA.ac 7 z (OpOk.alloc z ze28 z z (fun b169=>(kc 4 ?_)))
     refine TA.front 2 z z (TA.ac 8 z (storeSl z sz28 z z z z z (kc 4 ?_)))
     refine TA.front 1 z z (TA.ac 9 z (storeSl z sz28 z z z z z (kc 4 ?_)))
     exact TA.dn (S.n (cf ((),(b151,a135,c136,b169,a163,c164)) ⟨hh,zf137,zf165⟩ (Sub.f [2,1,3,3,4] 5)))
    skip
    refine TA.actN [5,8] (by kernel_rfl) (an rfl rfl (makeN (q:=x0.states.toNat) (E:=3) (size:=1) (enc:=eI_) rfl underlying28 sz27 by27 ze27 rfl rfl (vN u8.1) (vN u8.1) (by omega) (by decide) rfl (fun a171 c172 zf173=>(kc 4 ?_))) (an rfl rfl (OpOk.front 1 rfl rfl (storeSl rfl sz28 rfl rfl rfl rfl rfl (k3 ?_))) (True.intro)))
    ·skip
     refine TA.front 2 z z (TA.ac 8 z (storeSl z sz28 z z z z z (kc 4 ?_)))
     refine TA.front 2 z z (TA.ac 9 z (storeSl z sz28 z z z z z (kc 4 ?_)))
     exact TA.dn (S.n (cf ((),(b151,a135,c136,b167,a171,c172)) ⟨hh,zf137,zf173⟩ (Sub.f [2,1,3,3,4] 5)))
    skip
    refine TA.ac 5 rfl (makeN (q:=x0.states.toNat) (E:=3) (size:=1) (enc:=eI_) rfl underlying28 sz27 by27 ze27 rfl rfl (vN u8.1) (vN u8.1) (by omega) (by decide) rfl (fun a175 c176 zf177=>(kc 4 ?_)))
    refine TA.front 2 z z (TA.ac 9 z (storeSl z sz28 z z z z z (kc 4 ?_)))
    exact TA.dn (S.n (cf ((),(b151,a135,c136,b167,a175,c176)) ⟨hh,zf137,zf177⟩ (Sub.f [1,1,3,3,4] 5)))
   skip
   refine TA.actN [5,6] (by kernel_rfl) (an rfl rfl (makeN (q:=x0.states.toNat) (E:=3) (size:=1) (enc:=eI_) rfl underlying28 sz27 by27 ze27 rfl rfl (vN u8.1) (vN u8.1) (by omega) (by decide) rfl (fun a179 c180 zf181=>(k3 ?_))) (an rfl rfl (OpOk.alloc rfl ze28 rfl rfl (fun b183=>(k3 ?_))) (True.intro)))
   ·skip
    refine TA.ac 6 z (OpOk.alloc z ze28 z z (fun b185=>(kc 4 ?_)))
    refine TA.ac 8 z (storeSl z sz28 z z z z z (kc 4 ?_))
    refine TA.front 2 z z (TA.ac 9 z (storeSl z sz28 z z z z z (kc 4 ?_)))
    exact TA.dn (S.n (cf ((),(b185,a135,c136,b153,a179,c180)) ⟨hh,zf137,zf181⟩ (Sub.f [2,1,3,3,4] 5)))
   skip
   refine TA.actN [5,8] (by kernel_rfl) (an rfl rfl (makeN (q:=x0.states.toNat) (E:=3) (size:=1) (enc:=eI_) rfl underlying28 sz27 by27 ze27 rfl rfl (vN u8.1) (vN u8.1) (by omega) (by decide) rfl (fun a187 c188 zf189=>(kc 4 ?_))) (an rfl rfl (storeSl rfl sz28 rfl rfl rfl rfl rfl (k3 ?_)) (True.intro)))
   ·skip
    refine TA.front 1 z z (TA.ac 8 z (storeSl z sz28 z z z z z (kc 4 ?_)))
    refine TA.front 2 z z (TA.ac 9 z (storeSl z sz28 z z z z z (kc 4 ?_)))
    exact TA.dn (S.n (cf ((),(b183,a135,c136,b153,a187,c188)) ⟨hh,zf137,zf189⟩ (Sub.f [2,1,3,3,4] 5)))
   skip
   refine TA.ac 5 rfl (makeN (q:=x0.states.toNat) (E:=3) (size:=1) (enc:=eI_) rfl underlying28 sz27 by27 ze27 rfl rfl (vN u8.1) (vN u8.1) (by omega) (by decide) rfl (fun a191 c192 zf193=>(kc 4 ?_)))
   refine TA.front 2 z z (TA.ac 9 z (storeSl z sz28 z z z z z (kc 4 ?_)))
   exact TA.dn (S.n (cf ((),(b183,a135,c136,b153,a191,c192)) ⟨hh,zf137,zf193⟩ (Sub.f [1,1,3,3,4] 5)))
  ·skip
   refine TA.actN [2,6,7] (by kernel_rfl) (an rfl rfl (makeN (q:=x0.states.toNat) (E:=3) (size:=1) (enc:=eI_) rfl underlying28 sz27 by27 ze27 rfl rfl (vN u5.1) (vN u5.1) (by omega) (by decide) rfl (fun a195 c196 zf197=>(k2 ?_))) (an rfl rfl (OpOk.alloc rfl ze28 rfl rfl (fun b199=>(k2 ?_))) (an rfl rfl (OpOk.alloc rfl ze28 rfl rfl (fun b201=>(k2 ?_))) (True.intro))))
   ·skip
    refine TA.actN [6,7] (by kernel_rfl) (an z z (OpOk.alloc z ze28 z z (fun b203=>(k3 ?_))) (an z z (OpOk.alloc z ze28 z z (fun b205=>(k3 ?_))) (True.intro)))
    ·skip
     refine TA.ac 7 z (OpOk.alloc z ze28 z z (fun b207=>(kc 4 ?_)))
     refine TA.front 1 z z (TA.ac 8 z (storeSl z sz28 z z z z z (kc 4 ?_)))
     refine TA.front 1 z z (TA.ac 9 z (storeSl z sz28 z z z z z (kc 4 ?_)))
     exact TA.dn (S.n (cf ((),(b203,a195,c196,b207,a139,c140)) ⟨hh,zf197,zf141⟩ (Sub.f [3,1,3,3,4] 5)))
    skip
    refine TA.ac 6 z (OpOk.alloc z ze28 z z (fun b209=>(kc 4 ?_)))
    refine TA.ac 8 z (storeSl z sz28 z z z z z (kc 4 ?_))
    refine TA.front 1 z z (TA.ac 9 z (storeSl z sz28 z z z z z (kc 4 ?_)))
    exact TA.dn (S.n (cf ((),(b209,a195,c196,b205,a139,c140)) ⟨hh,zf197,zf141⟩ (Sub.f [3,1,3,3,4] 5)))
   ·skip
    refine TA.actN [2,7] (by kernel_rfl) (an rfl rfl (makeN (q:=x0.states.toNat) (E:=3) (size:=1) (enc:=eI_) rfl underlying28 sz27 by27 ze27 rfl rfl (vN u5.1) (vN u5.1) (by omega) (by decide) rfl (fun a211 c212 zf213=>(k3 ?_))) (an rfl rfl (OpOk.alloc rfl ze28 rfl rfl (fun b215=>(k3 ?_))) (True.intro)))
    ·skip
     refine TA.ac 7 z (OpOk.alloc z ze28 z z (fun b217=>(kc 4 ?_)))
     refine TA.front 2 z z (TA.ac 8 z (storeSl z sz28 z z z z z (kc 4 ?_)))
     refine TA.front 1 z z (TA.ac 9 z (storeSl z sz28 z z z z z (kc 4 ?_)))
     exact TA.dn (S.n (cf ((),(b199,a211,c212,b217,a139,c140)) ⟨hh,zf213,zf141⟩ (Sub.f [3,1,3,3,4] 5)))
    skip
    refine TA.ac 2 rfl (makeN (q:=x0.states.toNat) (E:=3) (size:=1) (enc:=eI_) rfl underlying28 sz27 by27 ze27 rfl rfl (vN u5.1) (vN u5.1) (by omega) (by decide) rfl (fun a219 c220 zf221=>(kc 4 ?_)))
    refine TA.front 2 z z (TA.ac 8 z (storeSl z sz28 z z z z z (kc 4 ?_)))
    refine TA.front 2 z z (TA.ac 9 z (storeSl z sz28 z z z z z (kc 4 ?_)))
    exact TA.dn (S.n (cf ((),(b199,a219,c220,b215,a139,c140)) ⟨hh,zf221,zf141⟩ (Sub.f [3,1,3,3,4] 5)))
   skip
   refine TA.actN [2,6] (by kernel_rfl) (an rfl rfl (makeN (q:=x0.states.toNat) (E:=3) (size:=1) (enc:=eI_) rfl underlying28 sz27 by27 ze27 rfl rfl (vN u5.1) (vN u5.1) (by omega) (by decide) rfl (fun a223 c224 zf225=>(k3 ?_))) (an rfl rfl (OpOk.alloc rfl ze28 rfl rfl (fun b227=>(k3 ?_))) (True.intro)))
   ·skip
    refine TA.ac 6 z (OpOk.alloc z ze28 z z (fun b229=>(kc 4 ?_)))
    refine TA.ac 8 z (storeSl z sz28 z z z z z (kc 4 ?_))
    refine TA.front 2 z z (TA.ac 9 z (storeSl z sz28 z z z z z (kc 4 ?_)))
    exact TA.dn (S.n (cf ((),(b229,a223,c224,b201,a139,c140)) ⟨hh,zf225,zf141⟩ (Sub.f [3,1,3,3,4] 5)))
   skip
   refine TA.ac 2 rfl (makeN (q:=x0.states.toNat) (E:=3) (size:=1) (enc:=eI_) rfl underlying28 sz27 by27 ze27 rfl rfl (vN u5.1) (vN u5.1) (by omega) (by decide) rfl (fun a231 c232 zf233=>(kc 4 ?_)))
   refine TA.front 1 z z (TA.ac 8 z (storeSl z sz28 z z z z z (kc 4 ?_)))
   refine TA.front 2 z z (TA.ac 9 z (storeSl z sz28 z z z z z (kc 4 ?_)))
   exact TA.dn (S.n (cf ((),(b227,a231,c232,b201,a139,c140)) ⟨hh,zf233,zf141⟩ (Sub.f [3,1,3,3,4] 5)))
  ·skip
   refine TA.actN [2,5,7] (by kernel_rfl) (an rfl rfl (makeN (q:=x0.states.toNat) (E:=3) (size:=1) (enc:=eI_) rfl underlying28 sz27 by27 ze27 rfl rfl (vN u5.1) (vN u5.1) (by omega) (by decide) rfl (fun a235 c236 zf237=>(k2 ?_))) (an rfl rfl (makeN (q:=x0.states.toNat) (E:=3) (size:=1) (enc:=eI_) rfl underlying28 sz27 by27 ze27 rfl rfl (vN u8.1) (vN u8.1) (by omega) (by decide) rfl (fun a239 c240 zf241=>(k2 ?_))) (an rfl rfl (OpOk.alloc rfl ze28 rfl rfl (fun b243=>(k2 ?_))) (True.intro))))
   ·skip
    refine TA.actN [5,7] (by kernel_rfl) (an rfl rfl (makeN (q:=x0.states.toNat) (E:=3) (size:=1) (enc:=eI_) rfl underlying28 sz27 by27 ze27 rfl rfl (vN u8.1) (vN u8.1) (by omega) (by decide) rfl (fun a245 c246 zf247=>(k3 ?_))) (an rfl rfl (OpOk.alloc rfl ze28 rfl rfl (fun b249=>(k3 ?_))) (True.intro)))
    ·skip
     refine TA.ac 7 z (OpOk.alloc z ze28 z z (fun b251=>(kc 4 ?_)))
     refine TA.front 3 z z (TA.ac 8 z (storeSl z sz28 z z z z z (kc 4 ?_)))
     refine TA.front 1 z z (TA.ac 9 z (storeSl z sz28 z z z z z (kc 4 ?_)))
     exact TA.dn (S.n (cf ((),(b143,a235,c236,b251,a245,c246)) ⟨hh,zf237,zf247⟩ (Sub.f [2,1,3,3,4] 5)))
    skip
    refine TA.actN [5,8] (by kernel_rfl) (an rfl rfl (makeN (q:=x0.states.toNat) (E:=3) (size:=1) (enc:=eI_) rfl underlying28 sz27 by27 ze27 rfl rfl (vN u8.1) (vN u8.1) (by omega) (by decide) rfl (fun a253 c254 zf255=>(kc 4 ?_))) (an rfl rfl (OpOk.front 2 rfl rfl (storeSl rfl sz28 rfl rfl rfl rfl rfl (k3 ?_))) (True.intro)))
    ·skip
     refine TA.front 3 z z (TA.ac 8 z (storeSl z sz28 z z z z z (kc 4 ?_)))
     refine TA.front 2 z z (TA.ac 9 z (storeSl z sz28 z z z z z (kc 4 ?_)))
     exact TA.dn (S.n (cf ((),(b143,a235,c236,b249,a253,c254)) ⟨hh,zf237,zf255⟩ (Sub.f [2,1,3,3,4] 5)))
    skip
    refine TA.ac 5 rfl (makeN (q:=x0.states.toNat) (E:=3) (size:=1) (enc:=eI_) rfl underlying28 sz27 by27 ze27 rfl rfl (vN u8.1) (vN u8.1) (by omega) (by decide) rfl (fun a257 c258 zf259=>(kc 4 ?_)))
    refine TA.front 2 z z (TA.ac 9 z (storeSl z sz28 z z z z z (kc 4 ?_)))
    exact TA.dn (S.n (cf ((),(b143,a235,c236,b249,a257,c258)) ⟨hh,zf237,zf259⟩ (Sub.f [1,1,3,3,4] 5)))
   ·skip
    refine TA.actN [2,7] (by kernel_rfl) (an rfl rfl (makeN (q:=x0.states.toNat) (E:=3) (size:=1) (enc:=eI_) rfl underlying28 sz27 by27 ze27 rfl rfl (vN u5.1) (vN u5.1) (by omega) (by decide) rfl (fun a261 c262 zf263=>(k3 ?_))) (an rfl rfl (OpOk.alloc rfl ze28 rfl rfl (fun b265=>(k3 ?_))) (True.intro)))
    ·skip
     refine TA.ac 7 z (OpOk.alloc z ze28 z z (fun b267=>(kc 4 ?_)))
     refine TA.front 3 z z (TA.ac 8 z (storeSl z sz28 z z z z z (kc 4 ?_)))
     refine TA.front 1 z z (TA.ac 9 z (storeSl z sz28 z z z z z (kc 4 ?_)))
     exact TA.dn (S.n (cf ((),(b143,a261,c262,b267,a239,c240)) ⟨hh,zf263,zf241⟩ (Sub.f [3,1,3,3,4] 5)))
    skip
    refine TA.ac 2 rfl (makeN (q:=x0.states.toNat) (E:=3) (size:=1) (enc:=eI_) rfl underlying28 sz27 by27 ze27 rfl rfl (vN u5.1) (vN u5.1) (by omega) (by decide) rfl (fun a269 c270 zf271=>(kc 4 ?_)))
    refine TA.front 3 z z (TA.ac 8 z (storeSl z sz28 z z z z z (kc 4 ?_)))
    refine TA.front 2 z z (TA.ac 9 z (storeSl z sz28 z z z z z (kc 4 ?_)))
    exact TA.dn (S.n (cf ((),(b143,a269,c270,b265,a239,c240)) ⟨hh,zf271,zf241⟩ (Sub.f [3,1,3,3,4] 5)))
   skip
   refine TA.actN [2,5] (by kernel_rfl) (an rfl rfl (makeN (q:=x0.states.toNat) (E:=3) (size:=1) (enc:=eI_) rfl underlying28 sz27 by27 ze27 rfl rfl (vN u5.1) (vN u5.1) (by omega) (by decide) rfl (fun a273 c274 zf275=>(k3 ?_))) (an rfl rfl (makeN (q:=x0.states.toNat) (E:=3) (size:=1) (enc:=eI_) rfl underlying28 sz27 by27 ze27 rfl rfl (vN u8.1) (vN u8.1) (by omega) (by decide) rfl (fun a277 c278 zf279=>(k3 ?_))) (True.intro)))
   ·skip
    refine TA.actN [5,8] (by kernel_rfl) (an rfl rfl (makeN (q:=x0.states.toNat) (E:=3) (size:=1) (enc:=eI_) rfl underlying28 sz27 by27 ze27 rfl rfl (vN u8.1) (vN u8.1) (by omega) (by decide) rfl (fun a281 c282 zf283=>(kc 4 ?_))) (an rfl rfl (OpOk.front 2 rfl rfl (storeSl rfl sz28 rfl rfl rfl rfl rfl (k3 ?_))) (True.intro)))
    ·skip
     refine TA.front 3 z z (TA.ac 8 z (storeSl z sz28 z z z z z (kc 4 ?_)))
     refine TA.front 3 z z (TA.ac 9 z (storeSl z sz28 z z z z z (kc 4 ?_)))
     exact TA.dn (S.n (cf ((),(b143,a273,c274,b243,a281,c282)) ⟨hh,zf275,zf283⟩ (Sub.f [2,1,3,3,4] 5)))
    skip
    refine TA.ac 5 rfl (makeN (q:=x0.states.toNat) (E:=3) (size:=1) (enc:=eI_) rfl underlying28 sz27 by27 ze27 rfl rfl (vN u8.1) (vN u8.1) (by omega) (by decide) rfl (fun a285 c286 zf287=>(kc 4 ?_)))
    refine TA.front 3 z z (TA.ac 9 z (storeSl z sz28 z z z z z (kc 4 ?_)))
    exact TA.dn (S.n (cf ((),(b143,a273,c274,b243,a285,c286)) ⟨hh,zf275,zf287⟩ (Sub.f [1,1,3,3,4] 5)))
   skip
   refine TA.ac 2 rfl (makeN (q:=x0.states.toNat) (E:=3) (size:=1) (enc:=eI_) rfl underlying28 sz27 by27 ze27 rfl rfl (vN u5.1) (vN u5.1) (by omega) (by decide) rfl (fun a289 c290 zf291=>(kc 4 ?_)))
   refine TA.front 3 z z (TA.ac 8 z (storeSl z sz28 z z z z z (kc 4 ?_)))
   refine TA.front 3 z z (TA.ac 9 z (storeSl z sz28 z z z z z (kc 4 ?_)))
   exact TA.dn (S.n (cf ((),(b143,a289,c290,b243,a277,c278)) ⟨hh,zf291,zf279⟩ (Sub.f [3,1,3,3,4] 5)))
  skip
  refine TA.actN [2,5,6] (by kernel_rfl) (an rfl rfl (makeN (q:=x0.states.toNat) (E:=3) (size:=1) (enc:=eI_) rfl underlying28 sz27 by27 ze27 rfl rfl (vN u5.1) (vN u5.1) (by omega) (by decide) rfl (fun a293 c294 zf295=>(k2 ?_))) (an rfl rfl (makeN (q:=x0.states.toNat) (E:=3) (size:=1) (enc:=eI_) rfl underlying28 sz27 by27 ze27 rfl rfl (vN u8.1) (vN u8.1) (by omega) (by decide) rfl (fun a297 c298 zf299=>(k2 ?_))) (an rfl rfl (OpOk.alloc rfl ze28 rfl rfl (fun b301=>(k2 ?_))) (True.intro))))
  ·skip
   refine TA.actN [5,6] (by kernel_rfl) (an rfl rfl (makeN (q:=x0.states.toNat) (E:=3) (size:=1) (enc:=eI_) rfl underlying28 sz27 by27 ze27 rfl rfl (vN u8.1) (vN u8.1) (by omega) (by decide) rfl (fun a303 c304 zf305=>(k3 ?_))) (an rfl rfl (OpOk.alloc rfl ze28 rfl rfl (fun b307=>(k3 ?_))) (True.intro)))
   ·skip
    refine TA.ac 6 z (OpOk.alloc z ze28 z z (fun b309=>(kc 4 ?_)))
    refine TA.ac 8 z (storeSl z sz28 z z z z z (kc 4 ?_))
    refine TA.front 3 z z (TA.ac 9 z (storeSl z sz28 z z z z z (kc 4 ?_)))
    exact TA.dn (S.n (cf ((),(b309,a293,c294,b145,a303,c304)) ⟨hh,zf295,zf305⟩ (Sub.f [2,1,3,3,4] 5)))
   skip
   refine TA.actN [5,8] (by kernel_rfl) (an rfl rfl (makeN (q:=x0.states.toNat) (E:=3) (size:=1) (enc:=eI_) rfl underlying28 sz27 by27 ze27 rfl rfl (vN u8.1) (vN u8.1) (by omega) (by decide) rfl (fun a311 c312 zf313=>(kc 4 ?_))) (an rfl rfl (storeSl rfl sz28 rfl rfl rfl rfl rfl (k3 ?_)) (True.intro)))
   ·skip
    refine TA.front 1 z z (TA.ac 8 z (storeSl z sz28 z z z z z (kc 4 ?_)))
    refine TA.front 3 z z (TA.ac 9 z (storeSl z sz28 z z z z z (kc 4 ?_)))
    exact TA.dn (S.n (cf ((),(b307,a293,c294,b145,a311,c312)) ⟨hh,zf295,zf313⟩ (Sub.f [2,1,3,3,4] 5)))
   skip
   refine TA.ac 5 rfl (makeN (q:=x0.states.toNat) (E:=3) (size:=1) (enc:=eI_) rfl underlying28 sz27 by27 ze27 rfl rfl (vN u8.1) (vN u8.1) (by omega) (by decide) rfl (fun a315 c316 zf317=>(kc 4 ?_)))
   refine TA.front 3 z z (TA.ac 9 z (storeSl z sz28 z z z z z (kc 4 ?_)))
   exact TA.dn (S.n (cf ((),(b307,a293,c294,b145,a315,c316)) ⟨hh,zf295,zf317⟩ (Sub.f [1,1,3,3,4] 5)))
  ·skip
   refine TA.actN [2,6] (by kernel_rfl) (an rfl rfl (makeN (q:=x0.states.toNat) (E:=3) (size:=1) (enc:=eI_) rfl underlying28 sz27 by27 ze27 rfl rfl (vN u5.1) (vN u5.1) (by omega) (by decide) rfl (fun a319 c320 zf321=>(k3 ?_))) (an rfl rfl (OpOk.alloc rfl ze28 rfl rfl (fun b323=>(k3 ?_))) (True.intro)))
   ·skip
    refine TA.ac 6 z (OpOk.alloc z ze28 z z (fun b325=>(kc 4 ?_)))
    refine TA.ac 8 z (storeSl z sz28 z z z z z (kc 4 ?_))
    refine TA.front 3 z z (TA.ac 9 z (storeSl z sz28 z z z z z (kc 4 ?_)))
    exact TA.dn (S.n (cf ((),(b325,a319,c320,b145,a297,c298)) ⟨hh,zf321,zf299⟩ (Sub.f [3,1,3,3,4] 5)))
   skip
   refine TA.ac 2 rfl (makeN (q:=x0.states.toNat) (E:=3) (size:=1) (enc:=eI_) rfl underlying28 sz27 by27 ze27 rfl rfl (vN u5.1) (vN u5.1) (by omega) (by decide) rfl (fun a327 c328 zf329=>(kc 4 ?_)))
   refine TA.front 1 z z (TA.ac 8 z (storeSl z sz28 z z z z z (kc 4 ?_)))
   refine TA.front 3 z z (TA.ac 9 z (storeSl z sz28 z z z z z (kc 4 ?_)))
   exact TA.dn (S.n (cf ((),(b323,a327,c328,b145,a297,c298)) ⟨hh,zf329,zf299⟩ (Sub.f [3,1,3,3,4] 5)))
  skip
  refine TA.actN [2,5] (by kernel_rfl) (an rfl rfl (makeN (q:=x0.states.toNat) (E:=3) (size:=1) (enc:=eI_) rfl underlying28 sz27 by27 ze27 rfl rfl (vN u5.1) (vN u5.1) (by omega) (by decide) rfl (fun a331 c332 zf333=>(k3 ?_))) (an rfl rfl (makeN (q:=x0.states.toNat) (E:=3) (size:=1) (enc:=eI_) rfl underlying28 sz27 by27 ze27 rfl rfl (vN u8.1) (vN u8.1) (by omega) (by decide) rfl (fun a335 c336 zf337=>(k3 ?_))) (True.intro)))
  ·skip
   refine TA.actN [5,8] (by kernel_rfl) (an rfl rfl (makeN (q:=x0.states.toNat) (E:=3) (size:=1) (enc:=eI_) rfl underlying28 sz27 by27 ze27 rfl rfl (vN u8.1) (vN u8.1) (by omega) (by decide) rfl (fun a339 c340 zf341=>(kc 4 ?_))) (an rfl rfl (OpOk.front 1 rfl rfl (storeSl rfl sz28 rfl rfl rfl rfl rfl (k3 ?_))) (True.intro)))
   ·skip
    refine TA.front 2 z z (TA.ac 8 z (storeSl z sz28 z z z z z (kc 4 ?_)))
    refine TA.front 3 z z (TA.ac 9 z (storeSl z sz28 z z z z z (kc 4 ?_)))
    exact TA.dn (S.n (cf ((),(b301,a331,c332,b145,a339,c340)) ⟨hh,zf333,zf341⟩ (Sub.f [2,1,3,3,4] 5)))
   skip
   refine TA.ac 5 rfl (makeN (q:=x0.states.toNat) (E:=3) (size:=1) (enc:=eI_) rfl underlying28 sz27 by27 ze27 rfl rfl (vN u8.1) (vN u8.1) (by omega) (by decide) rfl (fun a343 c344 zf345=>(kc 4 ?_)))
   refine TA.front 3 z z (TA.ac 9 z (storeSl z sz28 z z z z z (kc 4 ?_)))
   exact TA.dn (S.n (cf ((),(b301,a331,c332,b145,a343,c344)) ⟨hh,zf333,zf345⟩ (Sub.f [1,1,3,3,4] 5)))
  skip
  refine TA.ac 2 rfl (makeN (q:=x0.states.toNat) (E:=3) (size:=1) (enc:=eI_) rfl underlying28 sz27 by27 ze27 rfl rfl (vN u5.1) (vN u5.1) (by omega) (by decide) rfl (fun a347 c348 zf349=>(kc 4 ?_)))
  refine TA.front 2 z z (TA.ac 8 z (storeSl z sz28 z z z z z (kc 4 ?_)))
  refine TA.front 3 z z (TA.ac 9 z (storeSl z sz28 z z z z z (kc 4 ?_)))
  exact TA.dn (S.n (cf ((),(b301,a347,c348,b145,a335,c336)) ⟨hh,zf349,zf337⟩ (Sub.f [3,1,3,3,4] 5)))
 skip
 obtain ⟨_,⟨b112,a114,c115,b118,a120,c121⟩⟩:=g
 obtain ⟨hh,zf116,zf122⟩:=hg
 try dsimp only at zf116 zf122 ⊢
 dsimp only [Ek_]at hh
 have zf116b:=zf116.len
 have zf122b:=zf122.len
 refine TC.know (isSl_nest (q:=2) z zf116) (fun ⟨_,hb351⟩=> ?_)
 refine TC.know (isSl_nest (q:=4) z zf122) (fun ⟨_,hb352⟩=> ?_)
 refine TC.seq (TC.a (TL.w z (fieldLoc z fo25_3 z) (TL.w z (loadLoc z ag23 z (i:=0) z z) (TL.w z (lenC z underlying23 z) (TL.i z z (TL.en (TC.block (TC.loopG (α:=((List (List Int))×(List (List Int))×Nat)×((List (NP Int))×(List (NP Int)))) (rgs [(6,1),(16,31)]) (fun g=>[(16,.int .i64 ((g.1.2.2:Nat):Int))]) (fun g=>[Res.cells b109 #[.int .i64 x0.states,.slice a0_0 x0.starts.length c0_0,.slice a0_1 x0.ends.length c0_1,.slice a0_2 x0.arcs.length c0_2] 25,Res.cells b112 #[.slice a114 ((List.replicate x0.states.toNat ([]:List Int)).length) c115] 28,Res.nest 27 3 1 eI_ (.slice a114 (List.replicate x0.states.toNat ([]:List Int)).length c115) g.2.1,Res.cells b118 #[.slice a120 g.1.2.1.length c121] 28,Res.nest 27 3 1 eI_ (.slice a120 g.1.2.1.length c121) g.2.2]) (fun g=>σ) (fun g=>iter (fun q:(List (List Int))×(List (List Int))×Nat=>Bc_ x0 q.1 q.2.1 q.2.2) g.1=some r∧g.1.1.length=(List.replicate x0.states.toNat ([]:List Int)).length∧Zn g.2.1 g.1.1∧Zn g.2.2 g.1.2.1) (fun g=>rounds (fun q:(List (List Int))×(List (List Int))×Nat=>Bc_ x0 q.1 q.2.1 q.2.2) g.1) (((List.replicate x0.states.toNat ([]:List Int)),(List.replicate x0.states.toNat ([]:List Int)),0),((List.replicate x0.states.toNat (nilN:NP Int)),(List.replicate x0.states.toNat (nilN:NP Int)))) (Sub.f [4,4,4,4,4] 5) z (by repeat (first|exact trivial|refine ⟨z,?_⟩)) ⟨hh,z,zf116,zf122⟩ (fun g1 j1 hg1=> ?_)))))))))
 obtain ⟨⟨l387,l391,k394⟩,⟨z389,z392⟩⟩:=g1
 obtain ⟨hh,hn388,zf390,zf393⟩:=hg1
 try dsimp only at hn388 zf390 zf393 ⊢
 obtain ⟨z1,hh,hR1⟩:=iter_e hh
 dsimp only [Bc_]at hh
 have hn388b:=hn388
 have zf390b:=zf390.len
 have zf393b:=zf393.len
 refine TC.know (isSl_nest (q:=2) z zf390) (fun ⟨_,hb395⟩=> ?_)
 refine TC.know (isSl_nest (q:=4) z zf393) (fun ⟨_,hb396⟩=> ?_)
 refine TC.a (TL.w z (OpVal.lss z z z) (TL.en (TC.seq (TC.cD z hh (fun h397 hh=> ?_) (fun h397 hh=> ?_)))))
 ·refine TC.skip (S.n (TC.cutG (α:=(Unit)×((List (NP Int))×(List (NP Int)))) (rgs [(6,1),(18,28)]) (fun g=>[]) (fun g=>[Res.cells b109 #[.int .i64 x0.states,.slice a0_0 x0.starts.length c0_0,.slice a0_1 x0.ends.length c0_1,.slice a0_2 x0.arcs.length c0_2] 25,Res.cells b112 #[.slice a114 ((List.replicate x0.states.toNat ([]:List Int)).length) c115] 28,Res.nest 27 3 1 eI_ (.slice a114 (List.replicate x0.states.toNat ([]:List Int)).length c115) g.2.1,Res.cells b118 #[.slice a120 l391.length c121] 28,Res.nest 27 3 1 eI_ (.slice a120 l391.length c121) g.2.2]) (fun g=>σ) (fun g=>Eg_ l387 x0 k394 l391=some z1∧(l387.set (((nth x0.arcs k394 Arc.zero).frm).toNat) ((nth l387 (((nth x0.arcs k394 Arc.zero).frm).toNat) ([]:List Int))++[(nth x0.arcs k394 Arc.zero).to])).length=(List.replicate x0.states.toNat ([]:List Int)).length∧Zn g.2.1 (l387.set (((nth x0.arcs k394 Arc.zero).frm).toNat) ((nth l387 (((nth x0.arcs k394 Arc.zero).frm).toNat) ([]:List Int))++[(nth x0.arcs k394 Arc.zero).to]))∧(l391.set (((nth x0.arcs k394 Arc.zero).to).toNat) ((nth l391 (((nth x0.arcs k394 Arc.zero).to).toNat) ([]:List Int))++[(nth x0.arcs k394 Arc.zero).frm])).length=l391.length∧Zn g.2.2 (l391.set (((nth x0.arcs k394 Arc.zero).to).toNat) ((nth l391 (((nth x0.arcs k394 Arc.zero).to).toNat) ([]:List Int))++[(nth x0.arcs k394 Arc.zero).frm]))) ?_ (fun g j hg=> ?_)))
  ·skip
   refine TC.block (TC.a (TL.w z (indexN z underlying23 sz59 z z f0_2.rv.sl (by omega)) (TL.w z (loadSA Arc.zero z ag59 sz59 z f0_2 (by omega) (by omega)) (TL.op z (OpOk.alloc z ze59 z z (fun b404=> ?_))))))
   refine TL.op z (storeAll z sz59 z z z z z z ?_)
   refine TL.en (TC.cutG (α:=(Unit)×((List (NP Int)))) (rgs [(20,13)]) (fun g=>[]) (fun g=>[Res.cells b109 #[.int .i64 x0.states,.slice a0_0 x0.starts.length c0_0,.slice a0_1 x0.ends.length c0_1,.slice a0_2 x0.arcs.length c0_2] 25,Res.cells b112 #[.slice a114 ((List.replicate x0.states.toNat ([]:List Int)).length) c115] 28,Res.nest 27 3 1 eI_ (.slice a114 (List.replicate x0.states.toNat ([]:List Int)).length c115) g.2,Res.cells b118 #[.slice a120 l391.length c121] 28,Res.nest 27 3 1 eI_ (.slice a120 l391.length c121) z392,Res.cells b404 #[.int .i64 ((nth x0.arcs k394 Arc.zero).frm),.int .i64 ((nth x0.arcs k394 Arc.zero).to),.int .u64 ((((nth x0.arcs k394 Arc.zero).set).a:Nat):Int),.int .u64 ((((nth x0.arcs k394 Arc.zero).set).b:Nat):Int),.int .u64 ((((nth x0.arcs k394 Arc.zero).set).c:Nat):Int),.int .u64 ((((nth x0.arcs k394 Arc.zero).set).d:Nat):Int),.string (bs ((nth x0.arcs k394 Arc.zero).out)),.bool ((nth x0.arcs k394 Arc.zero).copy)] 59]) (fun g=>σ) (fun g=>Ei_ x0 k394 l391 l387=some z1∧(l387.set (((nth x0.arcs k394 Arc.zero).frm).toNat) ((nth l387 (((nth x0.arcs k394 Arc.zero).frm).toNat) ([]:List Int))++[(nth x0.arcs k394 Arc.zero).to])).length=(List.replicate x0.states.toNat ([]:List Int)).length∧Zn g.2 (l387.set (((nth x0.arcs k394 Arc.zero).frm).toNat) ((nth l387 (((nth x0.arcs k394 Arc.zero).frm).toNat) ([]:List Int))++[(nth x0.arcs k394 Arc.zero).to]))∧Zn z392 l391) ?_ (fun g j hg=> ?_))
   ·skip
    have u28:=grd_c hh
    replace hh:=grd_t hh
    have u33:=grd_c hh
    replace hh:=grd_t hh
    have u34:=grd_c hh
    replace hh:=grd_t hh
    refine TC.drawR (Hr:=[Res.cells b404 #[.int .i64 ((nth x0.arcs k394 Arc.zero).frm),.int .i64 ((nth x0.arcs k394 Arc.zero).to),.int .u64 ((((nth x0.arcs k394 Arc.zero).set).a:Nat):Int),.int .u64 ((((nth x0.arcs k394 Arc.zero).set).b:Nat):Int),.int .u64 ((((nth x0.arcs k394 Arc.zero).set).c:Nat):Int),.int .u64 ((((nth x0.arcs k394 Arc.zero).set).d:Nat):Int),.string (bs ((nth x0.arcs k394 Arc.zero).out)),.bool ((nth x0.arcs k394 Arc.zero).copy)] 59,Res.cells b109 #[.int .i64 x0.states,.slice a0_0 x0.starts.length c0_0,.slice a0_1 x0.ends.length c0_1,.slice a0_2 x0.arcs.length c0_2] 25,Res.cells b112 #[.slice a114 ((List.replicate x0.states.toNat ([]:List Int)).length) c115] 28,Res.cells b118 #[.slice a120 l391.length c121] 28,Res.nest 27 3 1 eI_ (.slice a120 l391.length c121) z392]) (fun r hr=>mem_pick [0,1,2,4,5] z hr) [] (by kernel_rfl) (TA.b 0 z (loadLoc z ag28 z (i:=2) z z) z (TA.a 1 z (fieldLoc z fo59_0 z) z (TA.b 2 z (loadLoc z ag3 z (i:=0) z z) z (TA.b 3 z (loadLoc z ag28 z (i:=2) z z) z (TA.a 4 z (fieldLoc z fo59_0 z) z (TA.b 5 z (loadLoc z ag3 z (i:=0) z z) z (TA.know (isSl_nest (q:=3) z zf390) (fun ⟨hs421,hs421b⟩=> ?_))))))))
    refine TA.b 6 z (OpVal.index z underlying28 sz27 z z hs421 u28.1 u28.2) z (TA.a 8 z (fieldLoc z fo59_1 z) z (TA.b 9 z (loadLoc z ag3 z (i:=0) z z) z ?_))
    obtain ⟨p422,hz422,hm422⟩:=Zn.at zf390 (i:=((nth x0.arcs k394 Arc.zero).frm).toNat) (by omega)
    refine TA.actN [7,10] (by kernel_rfl) (an z z (OpVal.ok (loadN z ag27 z (q:=3) z hz422 hm422) z z ⟨(fun w h=>sees_of (Store.le.refl _) (fun r hr=>mem_pick [0,1,2,4,5] z hr) w h),?_⟩) (an z z (OpOk.lit (enc:=eI_) [(nth x0.arcs k394 Arc.zero).to] z underlying27 sz3 ze3 z z z eIl_ (by decide) (by decide) (0:Int) z (by decide) z (by decide) eIo_ (fun a423 c424=>⟨(fun w h=>sees_of (Store.le.refl _) (fun r hr=>mem_pick [1,2,3,5,6] z hr) w h),?_⟩)) (True.intro)))
    ·skip
     refine TA.ac 10 z (OpOk.lit (enc:=eI_) [(nth x0.arcs k394 Arc.zero).to] z underlying27 sz3 ze3 z z z eIl_ (by decide) (by decide) (0:Int) z (by decide) z (by decide) eIo_ (fun a426 c427=>⟨(fun w h=>sees_of (Store.le.refl _) (fun r hr=>mem_pick [1,2,3,5,6] z hr) w h),?_⟩))
     refine TA.front 4 z z (TA.by (fun w h=>Reach.takeN hz422 hm422 h) (TA.ac 11 z (appendS z z underlying27 sz3 by3 ze3 z z (by decide) z z z (.inr ⟨_,1,z⟩) (by simpa using u33) (by decide) (fun a430 c431=>(k3 ?_)))))
     refine TA.know (isSl_nestX (q:=1) z zf390) (fun ⟨hs432,hs432b⟩=> ?_)
     refine TA.b 12 z (OpVal.index z underlying28 sz27 z z hs432 u34.1 u34.2) z (TA.front 1 z z (TA.front 1 z z ?_))
     have hn434:(l387.set (((nth x0.arcs k394 Arc.zero).frm).toNat) ((nth l387 (((nth x0.arcs k394 Arc.zero).frm).toNat) ([]:List Int))++[(nth x0.arcs k394 Arc.zero).to])).length=(List.replicate x0.states.toNat ([]:List Int)).length:=(List.length_set ..).trans hn388
     refine TA.ac 13 rfl (storeX (l':=((nth l387 (((nth x0.arcs k394 Arc.zero).frm).toNat) ([]:List Int))++[(nth x0.arcs k394 Arc.zero).to])) rfl sz27 rfl rfl rfl rfl rfl (by rw [zf390.len];omega) zf390 (fun zf433=>(k2 ?_)))
     exact TA.dn (S.n (cf ((),(z389.set (((nth x0.arcs k394 Arc.zero).frm).toNat) (((nth l387 (((nth x0.arcs k394 Arc.zero).frm).toNat) ([]:List Int))++[(nth x0.arcs k394 Arc.zero).to]),(a430,c431)))) ⟨hh,hn434,zf433,zf393⟩ (Sub.f [2,6,6,3,6,6] 6)))
    skip
    obtain ⟨p435,hz435,hm435⟩:=Zn.at zf390 (i:=((nth x0.arcs k394 Arc.zero).frm).toNat) (by omega)
    refine TA.ac 7 z (OpVal.ok (loadN z ag27 z (q:=4) z hz435 hm435) z z ⟨(fun w h=>sees_of (Store.le.refl _) (fun r hr=>mem_pick [1,2,3,5,6] z hr) w h),?_⟩)
    refine TA.front 4 z z (TA.by (fun w h=>Reach.takeN hz435 hm435 h) (TA.ac 11 z (appendS z z underlying27 sz3 by3 ze3 z z (by decide) z z z (.inr ⟨_,1,z⟩) (by simpa using u33) (by decide) (fun a437 c438=>(k3 ?_)))))
    refine TA.know (isSl_nestX (q:=1) z zf390) (fun ⟨hs439,hs439b⟩=> ?_)
    refine TA.b 12 z (OpVal.index z underlying28 sz27 z z hs439 u34.1 u34.2) z (TA.front 1 z z (TA.front 1 z z ?_))
    have hn441:(l387.set (((nth x0.arcs k394 Arc.zero).frm).toNat) ((nth l387 (((nth x0.arcs k394 Arc.zero).frm).toNat) ([]:List Int))++[(nth x0.arcs k394 Arc.zero).to])).length=(List.replicate x0.states.toNat ([]:List Int)).length:=(List.length_set ..).trans hn388
    refine TA.ac 13 rfl (storeX (l':=((nth l387 (((nth x0.arcs k394 Arc.zero).frm).toNat) ([]:List Int))++[(nth x0.arcs k394 Arc.zero).to])) rfl sz27 rfl rfl rfl rfl rfl (by rw [zf390.len];omega) zf390 (fun zf440=>(k2 ?_)))
    exact TA.dn (S.n (cf ((),(z389.set (((nth x0.arcs k394 Arc.zero).frm).toNat) (((nth l387 (((nth x0.arcs k394 Arc.zero).frm).toNat) ([]:List Int))++[(nth x0.arcs k394 Arc.zero).to]),(a437,c438)))) ⟨hh,hn441,zf440,zf393⟩ (Sub.f [2,6,6,3,6,6] 6)))
   skip
   obtain ⟨_,z407⟩:=g
   obtain ⟨hh,hn406,zf408,zf409⟩:=hg
   try dsimp only at hn406 zf408 zf409 ⊢
   dsimp only [Ei_]at hh
   have hn406b:=hn406
   have zf408b:=zf408.len
   have zf409b:=zf409.len
   refine TC.know (isSl_nest (q:=2) z zf408) (fun ⟨_,hb442⟩=> ?_)
   refine TC.know (isSl_nest (q:=4) z zf409) (fun ⟨_,hb443⟩=> ?_)
   have u42:=grd_c hh
   replace hh:=grd_t hh
   have u47:=grd_c hh
   replace hh:=grd_t hh
   have u48:=grd_c hh
   replace hh:=grd_t hh
   refine TC.drawR (Hr:=[Res.cells b109 #[.int .i64 x0.states,.slice a0_0 x0.starts.length c0_0,.slice a0_1 x0.ends.length c0_1,.slice a0_2 x0.arcs.length c0_2] 25,Res.cells b112 #[.slice a114 ((List.replicate x0.states.toNat ([]:List Int)).length) c115] 28,Res.nest 27 3 1 eI_ (.slice a114 (List.replicate x0.states.toNat ([]:List Int)).length c115) z407,Res.cells b118 #[.slice a120 l391.length c121] 28,Res.cells b404 #[.int .i64 ((nth x0.arcs k394 Arc.zero).frm),.int .i64 ((nth x0.arcs k394 Arc.zero).to),.int .u64 ((((nth x0.arcs k394 Arc.zero).set).a:Nat):Int),.int .u64 ((((nth x0.arcs k394 Arc.zero).set).b:Nat):Int),.int .u64 ((((nth x0.arcs k394 Arc.zero).set).c:Nat):Int),.int .u64 ((((nth x0.arcs k394 Arc.zero).set).d:Nat):Int),.string (bs ((nth x0.arcs k394 Arc.zero).out)),.bool ((nth x0.arcs k394 Arc.zero).copy)] 59]) (fun r hr=>mem_pick [0,1,2,3,5] z hr) [] (by kernel_rfl) (TA.b 0 z (loadLoc z ag28 z (i:=3) z z) z (TA.a 1 z (fieldLoc z fo59_1 z) z (TA.b 2 z (loadLoc z ag3 z (i:=4) z z) z (TA.b 3 z (loadLoc z ag28 z (i:=3) z z) z (TA.a 4 z (fieldLoc z fo59_1 z) z (TA.b 5 z (loadLoc z ag3 z (i:=4) z z) z (TA.know (isSl_nest (q:=4) z zf409) (fun ⟨hs455,hs455b⟩=> ?_))))))))
   refine TA.b 6 z (OpVal.index z underlying28 sz27 z z hs455 u42.1 u42.2) z (TA.a 8 z (fieldLoc z fo59_0 z) z (TA.b 9 z (loadLoc z ag3 z (i:=4) z z) z ?_))
   obtain ⟨p456,hz456,hm456⟩:=Zn.at zf409 (i:=((nth x0.arcs k394 Arc.zero).to).toNat) (by omega)
   refine TA.actN [7,10] (by kernel_rfl) (an z z (OpVal.ok (loadN z ag27 z (q:=4) z hz456 hm456) z z ⟨(fun w h=>sees_of (Store.le.refl _) (fun r hr=>mem_pick [0,1,2,3,5] z hr) w h),?_⟩) (an z z (OpOk.lit (enc:=eI_) [(nth x0.arcs k394 Arc.zero).frm] z underlying27 sz3 ze3 z z z eIl_ (by decide) (by decide) (0:Int) z (by decide) z (by decide) eIo_ (fun a457 c458=>⟨(fun w h=>sees_of (Store.le.refl _) (fun r hr=>mem_pick [1,2,3,4,6] z hr) w h),?_⟩)) (True.intro)))
   ·skip
    refine TA.ac 10 z (OpOk.lit (enc:=eI_) [(nth x0.arcs k394 Arc.zero).frm] z underlying27 sz3 ze3 z z z eIl_ (by decide) (by decide) (0:Int) z (by decide) z (by decide) eIo_ (fun a460 c461=>⟨(fun w h=>sees_of (Store.le.refl _) (fun r hr=>mem_pick [1,2,3,4,6] z hr) w h),?_⟩))
    refine TA.front 5 z z (TA.by (fun w h=>Reach.takeN hz456 hm456 h) (TA.ac 11 z (appendS z z underlying27 sz3 by3 ze3 z z (by decide) z z z (.inr ⟨_,1,z⟩) (by simpa using u47) (by decide) (fun a464 c465=>(k3 ?_)))))
    refine TA.know (isSl_nestX (q:=1) z zf409) (fun ⟨hs466,hs466b⟩=> ?_)
    refine TA.b 12 z (OpVal.index z underlying28 sz27 z z hs466 u48.1 u48.2) z (TA.front 1 z z (TA.front 1 z z ?_))
    have hn468:(l391.set (((nth x0.arcs k394 Arc.zero).to).toNat) ((nth l391 (((nth x0.arcs k394 Arc.zero).to).toNat) ([]:List Int))++[(nth x0.arcs k394 Arc.zero).frm])).length=l391.length:=(List.length_set ..).trans rfl
    refine TA.ac 13 rfl (storeX (l':=((nth l391 (((nth x0.arcs k394 Arc.zero).to).toNat) ([]:List Int))++[(nth x0.arcs k394 Arc.zero).frm])) rfl sz27 rfl rfl rfl rfl rfl (by rw [zf409.len];omega) zf409 (fun zf467=>(k2 ?_)))
    exact TA.dn (B.n (S.n (cf ((),(z407,(z392.set (((nth x0.arcs k394 Arc.zero).to).toNat) (((nth l391 (((nth x0.arcs k394 Arc.zero).to).toNat) ([]:List Int))++[(nth x0.arcs k394 Arc.zero).frm]),(a464,c465))))) ⟨hh,hn406,zf408,hn468,zf467⟩ (Sub.f [5,5,5,5] 5))))
   skip
   obtain ⟨p469,hz469,hm469⟩:=Zn.at zf409 (i:=((nth x0.arcs k394 Arc.zero).to).toNat) (by omega)
   refine TA.ac 7 z (OpVal.ok (loadN z ag27 z (q:=5) z hz469 hm469) z z ⟨(fun w h=>sees_of (Store.le.refl _) (fun r hr=>mem_pick [1,2,3,4,6] z hr) w h),?_⟩)
   refine TA.front 5 z z (TA.by (fun w h=>Reach.takeN hz469 hm469 h) (TA.ac 11 z (appendS z z underlying27 sz3 by3 ze3 z z (by decide) z z z (.inr ⟨_,1,z⟩) (by simpa using u47) (by decide) (fun a471 c472=>(k3 ?_)))))
   refine TA.know (isSl_nestX (q:=1) z zf409) (fun ⟨hs473,hs473b⟩=> ?_)
   refine TA.b 12 z (OpVal.index z underlying28 sz27 z z hs473 u48.1 u48.2) z (TA.front 1 z z (TA.front 1 z z ?_))
   have hn475:(l391.set (((nth x0.arcs k394 Arc.zero).to).toNat) ((nth l391 (((nth x0.arcs k394 Arc.zero).to).toNat) ([]:List Int))++[(nth x0.arcs k394 Arc.zero).frm])).length=l391.length:=(List.length_set ..).trans rfl
   refine TA.ac 13 rfl (storeX (l':=((nth l391 (((nth x0.arcs k394 Arc.zero).to).toNat) ([]:List Int))++[(nth x0.arcs k394 Arc.zero).frm])) rfl sz27 rfl rfl rfl rfl rfl (by rw [zf409.len];omega) zf409 (fun zf474=>(k2 ?_)))
   exact TA.dn (B.n (S.n (cf ((),(z407,(z392.set (((nth x0.arcs k394 Arc.zero).to).toNat) (((nth l391 (((nth x0.arcs k394 Arc.zero).to).toNat) ([]:List Int))++[(nth x0.arcs k394 Arc.zero).frm]),(a471,c472))))) ⟨hh,hn406,zf408,hn475,zf474⟩ (Sub.f [5,5,5,5] 5))))
  skip
  obtain ⟨_,⟨z399,z402⟩⟩:=g
  obtain ⟨hh,hn398,zf400,hn401,zf403⟩:=hg
  try dsimp only at hn398 zf400 hn401 zf403 ⊢
  dsimp only [Eg_]at hh
  have hn398b:=hn398
  have zf400b:=zf400.len
  have hn401b:=hn401
  have zf403b:=zf403.len
  refine TC.know (isSl_nest (q:=2) z zf400) (fun ⟨_,hb476⟩=> ?_)
  refine TC.know (isSl_nest (q:=4) z zf403) (fun ⟨_,hb477⟩=> ?_)
  refine TC.region (TL.w z (OpVal.succ z z z (by omega)) (TL.i z z ?_))
  rw [←hn401]
  refine TL.en ?_
  obtain ⟨hh,hlt478⟩:=nxt_x hR1 hh
  exact lf (((l387.set (((nth x0.arcs k394 Arc.zero).frm).toNat) ((nth l387 (((nth x0.arcs k394 Arc.zero).frm).toNat) ([]:List Int))++[(nth x0.arcs k394 Arc.zero).to])),(l391.set (((nth x0.arcs k394 Arc.zero).to).toNat) ((nth l391 (((nth x0.arcs k394 Arc.zero).to).toNat) ([]:List Int))++[(nth x0.arcs k394 Arc.zero).frm])),(k394+1)),(z399,z402)) hlt478 ⟨hh,hn398,zf400,zf403⟩ (Sub.f [4,4,4,4,4] 5)
 refine TC.exit (S.x (S.x ?_))
 replace hh:=fin_x hR1 hh
 refine TC.exitHere (S.n (TC.a (TL.w z (makeFn z) (TL.w z (moveFn (.inr z) z) (TL.en ?_)))))
 rw [←hn388]
 refine TC.front 2 z z (TC.seals (fun w h=>Reach.sealNest eIl_ zf390 h) (fun τ481 hle480 hr479=> ?_))
 replace f0_0:=f0_0.mono hle480
 replace f0_1:=f0_1.mono hle480
 replace f0_2:=f0_2.mono hle480
 have hr479b:=hr479.big
 refine TC.front 3 z z (TC.seals (fun w h=>Reach.sealNest eIl_ zf393 h) (fun τ484 hle483 hr482=> ?_))
 replace f0_0:=f0_0.mono hle483
 replace f0_1:=f0_1.mono hle483
 replace f0_2:=f0_2.mono hle483
 replace hr479:=hr479.mono hle483
 have hr482b:=hr482.big
 refine TC.ret ?_
 obtain rfl:=so hh
 exact ro [Res.cells b109 #[.int .i64 x0.states,.slice a0_0 x0.starts.length c0_0,.slice a0_1 x0.ends.length c0_1,.slice a0_2 x0.arcs.length c0_2] 25,Res.cells b112 #[.slice a114 l387.length c115] 28,Res.cells b118 #[.slice a120 l391.length c121] 28] z (RVs.tmp z RVs.nil) ⟨b109,a0_0,c0_0,a0_1,c0_1,a0_2,c0_2,b112,a114,c115,b118,a120,c121,z,f0_0,f0_1,f0_2,hr479,hr482,z⟩
def Ch_(l143:List Int)(k145:Nat)(y4_0:Int):Option (Nat×((List Int)×Nat)):=
 grd (0≤y4_0∧y4_0<(l143.length:Int)) (grd (k145+1≤9223372036854775807) (some (0,((l143.set y4_0.toNat ((k145:Nat):Int)),(k145+1)))))
def D6_(k169:Nat)(l175:List Tip):Option (((List Tip)×Nat)⊕(Fst×Int)):=
 nxt (l175,(k169+1))
def D5_(k208:Nat)(l215:List Tip):Option (((List Tip)×Nat)⊕(Fst×Int)):=
 nxt (l215,(k208+1))
def De_(k249:Nat)(l257:List Arc):Option (((List Arc)×Nat)⊕(Fst×Int)):=
 nxt (l257,(k249+1))
def B2_(x0:Fst)(l143:List Int)(k145:Nat)(l166:List Tip)(l205:List Tip)(l246:List Arc)(k249:Nat):Option (((List Arc)×Nat)⊕(Fst×Int)):=
 iteO (decide (((k249:Nat):Int)<((x0.arcs.length:Nat):Int))) (grd (0≤((nth x0.arcs k249 Arc.zero).frm)∧((nth x0.arcs k249 Arc.zero).frm)<(l143.length:Int)) (grd (0≤((nth x0.arcs k249 Arc.zero).to)∧((nth x0.arcs k249 Arc.zero).to)<(l143.length:Int)) (iteO (decide (0≤(nth l143 (((nth x0.arcs k249 Arc.zero).frm).toNat) (0:Int)))) (iteO (decide (0≤(nth l143 (((nth x0.arcs k249 Arc.zero).to).toNat) (0:Int)))) (grd ((l246.length+[(⟨(nth l143 (((nth x0.arcs k249 Arc.zero).frm).toNat) (0:Int)),(nth l143 (((nth x0.arcs k249 Arc.zero).to).toNat) (0:Int)),(nth x0.arcs k249 Arc.zero).set,(nth x0.arcs k249 Arc.zero).out,(nth x0.arcs k249 Arc.zero).copy⟩:Arc)].length) * 72≤140737488355328) (De_ k249 (l246++[(⟨(nth l143 (((nth x0.arcs k249 Arc.zero).frm).toNat) (0:Int)),(nth l143 (((nth x0.arcs k249 Arc.zero).to).toNat) (0:Int)),(nth x0.arcs k249 Arc.zero).set,(nth x0.arcs k249 Arc.zero).out,(nth x0.arcs k249 Arc.zero).copy⟩:Arc)]))) (De_ k249 l246)) (De_ k249 l246)))) (fin (bnd (C8_ (⟨((k145:Nat):Int),l166,l205,l246⟩:Fst)) (fun v145=>some (v145.1,v145.2))))
def Bx_(x0:Fst)(l143:List Int)(k145:Nat)(l166:List Tip)(l205:List Tip)(k208:Nat):Option (((List Tip)×Nat)⊕(Fst×Int)):=
 iteO (decide (((k208:Nat):Int)<((x0.ends.length:Nat):Int))) (grd (0≤((nth x0.ends k208 Tip.zero).state)∧((nth x0.ends k208 Tip.zero).state)<(l143.length:Int)) (iteO (decide (0≤(nth l143 (((nth x0.ends k208 Tip.zero).state).toNat) (0:Int)))) (grd ((l205.length+[(⟨(nth l143 (((nth x0.ends k208 Tip.zero).state).toNat) (0:Int)),(nth x0.ends k208 Tip.zero).out⟩:Tip)].length) * 24≤140737488355328) (D5_ k208 (l205++[(⟨(nth l143 (((nth x0.ends k208 Tip.zero).state).toNat) (0:Int)),(nth x0.ends k208 Tip.zero).out⟩:Tip)]))) (D5_ k208 l205))) (fin (iter (fun q:(List Arc)×Nat=>B2_ x0 l143 k145 l166 l205 q.1 q.2) (([]:List Arc),0)))
def Bz_(x0:Fst)(l143:List Int)(k145:Nat)(l166:List Tip)(k169:Nat):Option (((List Tip)×Nat)⊕(Fst×Int)):=
 iteO (decide (((k169:Nat):Int)<((x0.starts.length:Nat):Int))) (grd (0≤((nth x0.starts k169 Tip.zero).state)∧((nth x0.starts k169 Tip.zero).state)<(l143.length:Int)) (iteO (decide (0≤(nth l143 (((nth x0.starts k169 Tip.zero).state).toNat) (0:Int)))) (grd ((l166.length+[(⟨(nth l143 (((nth x0.starts k169 Tip.zero).state).toNat) (0:Int)),(nth x0.starts k169 Tip.zero).out⟩:Tip)].length) * 24≤140737488355328) (D6_ k169 (l166++[(⟨(nth l143 (((nth x0.starts k169 Tip.zero).state).toNat) (0:Int)),(nth x0.starts k169 Tip.zero).out⟩:Tip)]))) (D6_ k169 l166))) (fin (iter (fun q:(List Tip)×Nat=>Bx_ x0 l143 k145 l166 q.1 q.2) (([]:List Tip),0)))
def Gv_(x0:Fst)(jz:Nat)(l143:List Int)(k145:Nat):Option (Fst×Int):=
 jsel jz (iter (fun q:(List Tip)×Nat=>Bz_ x0 l143 k145 q.1 q.2) (([]:List Tip),0)) (fun _=>none)
def B3_(x0:Fst)(l117:List Int)(k119:Nat):Option (((List Int)×Nat)⊕(Fst×Int)):=
 iteO (decide (((k119:Nat):Int)<(((List.replicate x0.states.toNat (0:Int)).length:Nat):Int))) (grd (k119<l117.length) (nxt ((l117.set k119 (-1)),(k119+1)))) (fin (bnd (Ex_ x0) (fun v29=>bnd (Dq_ (stepY (fun (q:(List Int)×Nat) (x:Int)=>Ch_ q.1 q.2 x)) (0,(l117,0)) (⟨v29.1.states,v29.1.starts,v29.1.ends,v29.1.arcs⟩:Fst) v29.2.1 v29.2.2) (fun zr4=>Gv_ x0 zr4.1 zr4.2.1 zr4.2.2))))
def E0_(x0:Fst):Option (Fst×Int):=
 bnd (B6_ x0) (fun v5=>iteO (decide (v5≠0)) (some ((⟨0,([]:List Tip),([]:List Tip),([]:List Arc)⟩:Fst),1)) (grd (0≤x0.states∧8 * x0.states.toNat≤281474976710656) (iter (fun q:(List Int)×Nat=>B3_ x0 q.1 q.2) ((List.replicate x0.states.toNat (0:Int)),0))))
def Jp_(σ:Store)(r:Fst×Int):Value→Store→List Res→Prop:=fun v σ' H'=>
 ∃a1 c1 a2 c2 a3 c3,v= .tuple #[.agg #[.int .i64 r.1.states,.slice a1 r.1.starts.length c1,.slice a2 r.1.ends.length c2,.slice a3 r.1.arcs.length c3],.int .i64 r.2]∧RS σ' 2 encTip (.slice a1 r.1.starts.length c1) r.1.starts∧RS σ' 2 encTip (.slice a2 r.1.ends.length c2) r.1.ends∧RS σ' 8 encArc (.slice a3 r.1.arcs.length c3) r.1.arcs∧H'=[]
theorem Ir_{x0:Fst}(f0_0:RS σ 2 encTip (.slice a0_0 x0.starts.length c0_0) x0.starts)(f0_1:RS σ 2 encTip (.slice a0_1 x0.ends.length c0_1) x0.ends)(f0_2:RS σ 8 encArc (.slice a0_2 x0.arcs.length c0_2) x0.arcs){r:Fst×Int}(hh:E0_ x0=some r):
  Con Tryz.prog 21 #[.agg #[.int .i64 x0.states,.slice a0_0 x0.starts.length c0_0,.slice a0_1 x0.ends.length c0_1,.slice a0_2 x0.arcs.length c0_2]] σ [] (Jp_ σ r):=by
 dsimp only [E0_]at hh
 have f0_0b:=f0_0.rv.big
 have f0_1b:=f0_1.rv.big
 have f0_2b:=f0_2.rv.big
 refine Con.mk (n:=136) Tryz.func21 z z z (fun w0=> ?_)
 refine TC.a (TL.op z (boxA z z z z (fun b101=> ?_)))
 refine TL.op z (OpOk.alloc z ze25 z z (fun b103=> ?_))
 refine TL.i z z (TL.en (TC.seq (TC.a (TL.w z (loadAll z ag25 sz25 z (i:=1) z z) ?_))))
 obtain ⟨v5,u5,hh⟩:=bnd_e hh
 refine TL.op z (callP (Bw_ (x0:=x0) f0_0 f0_1 f0_2 u5) z z pf16 z z z ?_)
 refine TL.w z (OpVal.neq z z z) (TL.en (TC.cD z hh (fun h105 hh=> ?_) (fun h105 hh=> ?_)))
 ·refine TC.a (TL.w z (buildL z pl25 ze25 z) (TL.op z (storeAll z sz25 z z z z z z ?_)))
  refine TL.i z z (TL.en (TC.rt 1 (S.r ?_)))
  obtain rfl:=so hh
  exact ro [] z (RVs.agg ag25 sz25 z (i:=0) z z (RVs.tmp z RVs.nil)) ⟨none,0,none,0,none,0,z,(RS.nilF _ encTip encTip_len),(RS.nilF _ encTip encTip_len),(RS.nilF _ encArc encArc_len),z⟩
 refine TC.skip (S.n (TC.a (TL.w z (fieldLoc z fo25_0 z) (TL.w z (loadLoc z ag3 z (i:=1) z z) ?_))))
 have u12:=grd_c hh
 replace hh:=grd_t hh
 refine TL.op rfl (makeS2 (m:=x0.states.toNat) (enc:=eI_) (0:Int) rfl underlying27 sz3 by3 ze3 rfl rfl (vN u12.1) (vN u12.1) (by omega) (by decide) eIl_ (by decide) rfl eIo_ (fun a106 c107=> ?_))
 refine TL.op z (OpOk.alloc z ze27 z z (fun b109=> ?_))
 refine TL.op z (storeSl z sz27 z z z z z ?_)
 refine TL.en (TC.seq (TC.a (TL.w z (loadLoc z ag27 z (i:=0) z z) (TL.w z (lenC z underlying27 z) (TL.i z z (TL.en (TC.block (TC.loopG (α:=((List Int)×Nat)×(Unit)) (rgs [(5,1),(27,7)]) (fun g=>[(27,.int .i64 ((g.1.2:Nat):Int))]) (fun g=>[Res.cells b101 #[.int .i64 x0.states,.slice a0_0 x0.starts.length c0_0,.slice a0_1 x0.ends.length c0_1,.slice a0_2 x0.arcs.length c0_2] 25,Res.cells b103 #[.int .i64 0,.slice none 0 0,.slice none 0 0,.slice none 0 0] 25,Res.cells b109 #[.slice a106 ((List.replicate x0.states.toNat (0:Int)).length) c107] 27,Res.rowS 3 1 eI_ (.slice a106 (List.replicate x0.states.toNat (0:Int)).length c107) g.1.1]) (fun g=>σ) (fun g=>iter (fun q:(List Int)×Nat=>B3_ x0 q.1 q.2) g.1=some r∧g.1.1.length=(List.replicate x0.states.toNat (0:Int)).length) (fun g=>rounds (fun q:(List Int)×Nat=>B3_ x0 q.1 q.2) g.1) (((List.replicate x0.states.toNat (0:Int)),0),()) (Sub.f [1,1,2,3] 4) z (by repeat (first|exact trivial|refine ⟨z,?_⟩)) ⟨hh,z⟩ (fun g1 j1 hg1=> ?_)))))))))
 obtain ⟨⟨l117,k119⟩,_⟩:=g1
 obtain ⟨hh,hn118⟩:=hg1
 try dsimp only at hn118 ⊢
 obtain ⟨z1,hh,hR1⟩:=iter_e hh
 dsimp only [B3_]at hh
 have hn118b:=hn118
 refine TC.isSl (i:=3) z (fun _ hb120 _=> ?_)
 refine TC.a (TL.w z (OpVal.lss z z z) (TL.en (TC.seq (TC.cD z hh (fun h121 hh=> ?_) (fun h121 hh=> ?_)))))
 ·refine TC.skip (S.n (TC.seq (TC.block (TC.a (TL.i z z (TL.i z z (TL.en (TC.region (TL.w z (loadLoc z ag27 z (i:=2) z z) (TL.i z z ?_))))))))))
  have u23:=grd_c hh
  replace hh:=grd_t hh
  refine TL.isSl (i:=3) z (fun hs122 _ _=> ?_)
  refine TL.w z (indexN z underlying27 sz3 z z hs122 (by omega)) (TL.front 3 z z ?_)
  have hn123:(l117.set k119 (-1)).length=(List.replicate x0.states.toNat (0:Int)).length:=by rw [List.length_set];exact hn118
  refine TL.op z (storeS (-1) z sz3 z z z z eIl_ eIo_ (by omega) (by omega) ?_)
  refine TL.nil (B.n (S.n (TC.region (TL.w z (OpVal.succ z z z (by omega)) (TL.i z z (TL.en ?_))))))
  obtain ⟨hh,hlt124⟩:=nxt_x hR1 hh
  exact lf (((l117.set k119 (-1)),(k119+1)),()) hlt124 ⟨hh,hn123⟩ (Sub.f [3,3,3] 4)
 refine TC.exit (S.x (S.x ?_))
 replace hh:=fin_x hR1 hh
 refine TC.exitHere (S.n (TC.a (TL.op z (OpOk.alloc z ze25 z z (fun b125=> ?_)))))
 refine TL.en (TC.seq (TC.a (TL.w z (loadAll z ag25 sz25 z (i:=1) z z) ?_)))
 obtain ⟨v29,u29,hh⟩:=bnd_e hh
 refine TL.op z (OpOk.call (Ij_ f0_0 f0_1 f0_2 u29) z z pf48 z z z z ?_)
 rintro _ τ127 _ hle127 ⟨b127_10,a127_1,c127_2,a127_4,c127_5,a127_7,c127_8,b127_14,a127_11,c127_12,b127_18,a127_15,c127_16,rfl,f127_3,f127_6,f127_9,f127_13,f127_17,rfl⟩
 replace f0_0:=f0_0.mono hle127
 replace f0_1:=f0_1.mono hle127
 replace f0_2:=f0_2.mono hle127
 have f127_3b:=f127_3.rv.big
 have f127_6b:=f127_6.rv.big
 have f127_9b:=f127_9.rv.big
 have f127_13b:=f127_13.big
 have f127_17b:=f127_17.big
 refine TL.en (TC.block (TC.ofSub (Sub.f [2,2,2,3,7,7,7,7] 8) ?_))
 obtain ⟨zr4,hz4,hh⟩:=bnd_e hh
 obtain ⟨jz4,⟨l143,k145⟩⟩:=zr4
 dsimp only at hh
 refine TC.rangeG (A:=(fun (x:Int) _ vs=>vs=[.int .i64 x])) [] (fun (q:(List Int)×Nat) (x:Int)=>Ch_ q.1 q.2 x) (fun (q:(List Int)×Nat) (τ146:Store) Hs=>Hs=[Res.cells b101 #[.int .i64 x0.states,.slice a0_0 x0.starts.length c0_0,.slice a0_1 x0.ends.length c0_1,.slice a0_2 x0.arcs.length c0_2] 25,Res.cells b103 #[.int .i64 0,.slice none 0 0,.slice none 0 0,.slice none 0 0] 25,Res.cells b109 #[.slice a106 ((List.replicate x0.states.toNat (0:Int)).length) c107] 27,Res.rowS 3 1 eI_ (.slice a106 (List.replicate x0.states.toNat (0:Int)).length c107) q.1,Res.cells b125 #[.int .i64 ((q.2:Nat):Int),.slice none 0 0,.slice none 0 0,.slice none 0 0] 25]∧q.1.length=(List.replicate x0.states.toNat (0:Int)).length) (s:=(l117,0)) rfl pf80 rfl rfl (by rintro _ _ _ _ ⟨rfl,hn144⟩ hle_;exact ⟨rfl,hn144⟩) ⟨rfl,hn118⟩ (fun _ _ _ h_=>by subst h_;rfl) (Ie_ f127_3 f127_6 f127_9 f127_13 f127_17 hz4) ?_ ?_
 ·clear hh hz4
  rintro l_ _ _ _ τ146 ⟨l143,k145⟩ y4_0 z4 _ _ hh hle147 rfl ⟨rfl,hn144⟩
  dsimp only [Ch_]at hh
  replace f0_0:=f0_0.mono hle147
  replace f0_1:=f0_1.mono hle147
  replace f0_2:=f0_2.mono hle147
  have hn144b:=hn144
  show TC _ _ _ (upds _ [(36,.int .i64 y4_0)]) τ146 [Res.cells b101 #[.int .i64 x0.states,.slice a0_0 x0.starts.length c0_0,.slice a0_1 x0.ends.length c0_1,.slice a0_2 x0.arcs.length c0_2] 25,Res.cells b103 #[.int .i64 0,.slice none 0 0,.slice none 0 0,.slice none 0 0] 25,Res.cells b109 #[.slice a106 ((List.replicate x0.states.toNat (0:Int)).length) c107] 27,Res.rowS 3 1 eI_ (.slice a106 (List.replicate x0.states.toNat (0:Int)).length c107) l143,Res.cells b125 #[.int .i64 ((k145:Nat):Int),.slice none 0 0,.slice none 0 0,.slice none 0 0] 25]
  refine TC.isSl (i:=3) z (fun _ hb148 _=> ?_)
  refine TC.region (TL.i z z (TL.nil (asg_n (fun _ _ _=> ?_))))
  refine TC.block (TC.a (TL.w z (loadLoc z ag27 z (i:=2) z z) (TL.i z z (TL.w z (fieldLoc z fo25_0 z) (TL.w z (loadLoc z ag3 z (i:=4) z z) ?_)))))
  have u35:=grd_c hh
  replace hh:=grd_t hh
  refine TL.isSl (i:=3) z (fun hs149 _ _=> ?_)
  refine TL.w z (OpVal.index z underlying27 sz3 z z hs149 u35.1 u35.2) (TL.front 3 z z ?_)
  have hn150:(l143.set y4_0.toNat ((k145:Nat):Int)).length=(List.replicate x0.states.toNat (0:Int)).length:=by rw [List.length_set];exact hn144
  refine TL.op z (storeS ((k145:Nat):Int) z sz3 z z z z eIl_ eIo_ (by omega) (by omega) ?_)
  refine TL.en (TC.region (TL.w z (fieldLoc z fo25_0 z) (TL.w z (loadLoc z ag3 z (i:=4) z z) ?_)))
  have u39:=grd_c hh
  replace hh:=grd_t hh
  refine TL.w z (OpVal.succ z z z (by omega)) (TL.w z (fieldLoc z fo25_0 z) (TL.front 4 z z (TL.op z (storeI z sz3 z z z z z ?_))))
  refine TL.nil (B.n ?_)
  obtain rfl:=so hh
  exact rnd_n ⟨z,_,Sub.f [1,4,4,4] 5,⟨z,hn150⟩⟩
 rintro τ146 _ _ hle147 ⟨rfl,hn144⟩ ⟨rfl⟩
 replace f0_0:=f0_0.mono hle147
 replace f0_1:=f0_1.mono hle147
 replace f0_2:=f0_2.mono hle147
 have hn144b:=hn144
 dsimp only [Gv_]at hh
 show jmpQ _ _ _ _ _ τ146 [Res.cells b101 #[.int .i64 x0.states,.slice a0_0 x0.starts.length c0_0,.slice a0_1 x0.ends.length c0_1,.slice a0_2 x0.arcs.length c0_2] 25,Res.cells b103 #[.int .i64 0,.slice none 0 0,.slice none 0 0,.slice none 0 0] 25,Res.cells b109 #[.slice a106 ((List.replicate x0.states.toNat (0:Int)).length) c107] 27,Res.rowS 3 1 eI_ (.slice a106 (List.replicate x0.states.toNat (0:Int)).length c107) l143,Res.cells b125 #[.int .i64 ((k145:Nat):Int),.slice none 0 0,.slice none 0 0,.slice none 0 0] 25,Res.cells b127_10 #[.int .i64 v29.1.states,.slice a127_1 v29.1.starts.length c127_2,.slice a127_4 v29.1.ends.length c127_5,.slice a127_7 v29.1.arcs.length c127_8] 25,Res.cells b127_14 #[.slice a127_11 v29.2.1.length c127_12] 28,Res.cells b127_18 #[.slice a127_15 v29.2.2.length c127_16] 28]
 refine jmp_split hh ?_ ?_ <;>clear hh
 ·intro hh
  refine B.n (S.n (TC.seq (TC.a (TL.w z (fieldLoc z fo25_1 z) (TL.w z (loadLoc z ag22 z (i:=0) z z) (TL.w z (lenC z underlying22 z) (TL.i z z (TL.en (TC.block (TC.nilS 62 2 encTip (TC.loopG (α:=((List Tip)×Nat)×((Option Addr)×Nat)) (rgs [(9,2),(49,21)]) (fun g=>[(49,.int .i64 ((g.1.2:Nat):Int))]) (fun g=>[Res.cells b101 #[.int .i64 x0.states,.slice a0_0 x0.starts.length c0_0,.slice a0_1 x0.ends.length c0_1,.slice a0_2 x0.arcs.length c0_2] 25,Res.cells b103 #[.int .i64 0,.slice none 0 0,.slice none 0 0,.slice none 0 0] 25,Res.cells b109 #[.slice a106 ((List.replicate x0.states.toNat (0:Int)).length) c107] 27,Res.rowS 3 1 eI_ (.slice a106 (List.replicate x0.states.toNat (0:Int)).length c107) l143,Res.cells b125 #[.int .i64 ((k145:Nat):Int),.slice g.2.1 g.1.1.length g.2.2,.slice none 0 0,.slice none 0 0] 25,Res.rowS 62 2 encTip (.slice g.2.1 g.1.1.length g.2.2) g.1.1]) (fun g=>τ146) (fun g=>iter (fun q:(List Tip)×Nat=>Bz_ x0 l143 k145 q.1 q.2) g.1=some r∧l143.length=(List.replicate x0.states.toNat (0:Int)).length) (fun g=>rounds (fun q:(List Tip)×Nat=>Bz_ x0 l143 k145 q.1 q.2) g.1) ((([]:List Tip),0),(none,0)) (Sub.f [5,5,5,5,5] 6) z (by repeat (first|exact trivial|refine ⟨z,?_⟩)) ⟨hh,hn144⟩ (fun g2 j2 hg2=> ?_))))))))))))
  obtain ⟨⟨l166,k169⟩,⟨a167,c168⟩⟩:=g2
  obtain ⟨hh,hn164⟩:=hg2
  try dsimp only at hn164 ⊢
  obtain ⟨z1,hh,hR1⟩:=iter_e hh
  dsimp only [Bz_]at hh
  have hn164b:=hn164
  refine TC.isSl (i:=3) z (fun _ hb171 _=> ?_)
  refine TC.isSl (i:=5) z (fun _ hb172 _=> ?_)
  refine TC.a (TL.w z (OpVal.lss z z z) (TL.en (TC.seq (TC.cD z hh (fun h173 hh=> ?_) (fun h173 hh=> ?_)))))
  ·refine TC.skip (S.n (TC.cutG (α:=((List Tip))×((Option Addr)×Nat)) (rgs [(9,2),(51,18)]) (fun g=>[]) (fun g=>[Res.cells b101 #[.int .i64 x0.states,.slice a0_0 x0.starts.length c0_0,.slice a0_1 x0.ends.length c0_1,.slice a0_2 x0.arcs.length c0_2] 25,Res.cells b103 #[.int .i64 0,.slice none 0 0,.slice none 0 0,.slice none 0 0] 25,Res.cells b109 #[.slice a106 ((List.replicate x0.states.toNat (0:Int)).length) c107] 27,Res.rowS 3 1 eI_ (.slice a106 (List.replicate x0.states.toNat (0:Int)).length c107) l143,Res.cells b125 #[.int .i64 ((k145:Nat):Int),.slice g.2.1 g.1.length g.2.2,.slice none 0 0,.slice none 0 0] 25,Res.rowS 62 2 encTip (.slice g.2.1 g.1.length g.2.2) g.1]) (fun g=>τ146) (fun g=>D6_ k169 g.1=some z1∧l143.length=(List.replicate x0.states.toNat (0:Int)).length) ?_ (fun g j hg=> ?_)))
   ·skip
    refine TC.block (TC.a (TL.w z (indexN z underlying22 sz62 z z f0_0.rv.sl (by omega)) (TL.w z (loadSA Tip.zero z ag62 sz62 z f0_0 (by omega) (by omega)) (TL.op z (OpOk.alloc z ze62 z z (fun b178=> ?_))))))
    refine TL.op z (storeAll z sz62 z z z z z z ?_)
    refine TL.en (TC.a (TL.w z (loadLoc z ag27 z (i:=3) z z) (TL.w z (fieldLoc z fo62_0 z) (TL.w z (loadLoc z ag3 z (i:=0) z z) ?_))))
    have u54:=grd_c hh
    replace hh:=grd_t hh
    refine TL.isSl (i:=4) z (fun hs180 _ _=> ?_)
    refine TL.w z (OpVal.index z underlying27 sz3 z z hs180 u54.1 u54.2) (TL.w z (loadO1 (0:Int) z ag3 z (q:=4) z eIl_ (by omega) z) (TL.i z z (TL.en (TC.a (TL.i z z (TL.w z (OpVal.geq z z z) (TL.en (TC.cD z hh (fun h181 hh=> ?_) (fun h181 hh=> ?_)))))))))
    ·refine TC.region (TL.w z (fieldLoc z fo25_1 z) (TL.w z (loadLoc z ag22 z (i:=5) z z) (TL.i z z (TL.w z (fieldLoc z fo62_1 z) (TL.w z (loadLoc z ag9 z (i:=0) z z) (TL.w z (buildL z pl62 ze62 z) (TL.op z (OpOk.lit (enc:=encTip) [(⟨(nth l143 (((nth x0.starts k169 Tip.zero).state).toNat) (0:Int)),(nth x0.starts k169 Tip.zero).out⟩:Tip)] z underlying22 sz62 ze62 z z z encTip_len (by decide) (by decide) Tip.zero z (by decide) z (by decide) encTip_one (fun a182 c183=> ?_)))))))))
     refine TL.front 7 z z ?_
     have u66:=grd_c hh
     replace hh:=grd_t hh
     refine TL.op z (appendS z z underlying22 sz62 by62 ze62 z z (by decide) z z z (.inr ⟨_,0,z⟩) (by simpa using u66) (by decide) (fun a185 c186=> ?_))
     refine TL.w z (fieldLoc z fo25_1 z) (TL.front 7 z z (TL.op z (storeSl z sz22 z z z z z ?_)))
     exact TL.nil (B.n (S.n (cf ((l166++[(⟨(nth l143 (((nth x0.starts k169 Tip.zero).state).toNat) (0:Int)),(nth x0.starts k169 Tip.zero).out⟩:Tip)]),(a185,c186)) ⟨hh,hn164⟩ (Sub.f [1,1,7,7,7,7] 6))))
    exact TC.skip (B.n (S.n (cf (l166,(a167,c168)) ⟨hh,hn164⟩ (Sub.f [6,6,6,6,6,6] 6))))
   skip
   obtain ⟨l175,⟨a176,c177⟩⟩:=g
   obtain ⟨hh,hn174⟩:=hg
   try dsimp only at hn174 ⊢
   dsimp only [D6_]at hh
   have hn174b:=hn174
   refine TC.isSl (i:=3) z (fun _ hb187 _=> ?_)
   refine TC.isSl (i:=5) z (fun _ hb188 _=> ?_)
   refine TC.region (TL.w z (OpVal.succ z z z (by omega)) (TL.i z z (TL.en ?_)))
   obtain ⟨hh,hlt189⟩:=nxt_x hR1 hh
   exact lf ((l175,(k169+1)),(a176,c177)) hlt189 ⟨hh,hn174⟩ (Sub.f [5,5,5,5,5,5] 6)
  refine TC.exit (S.x (S.x ?_))
  replace hh:=fin_x hR1 hh
  refine TC.exitHere (S.n (TC.seq (TC.a (TL.w z (fieldLoc z fo25_2 z) (TL.w z (loadLoc z ag22 z (i:=0) z z) (TL.w z (lenC z underlying22 z) (TL.i z z (TL.en (TC.block (TC.nilS 62 2 encTip (TC.loopG (α:=((List Tip)×Nat)×((Option Addr)×Nat)) (rgs [(12,2),(73,21)]) (fun g=>[(73,.int .i64 ((g.1.2:Nat):Int))]) (fun g=>[Res.cells b101 #[.int .i64 x0.states,.slice a0_0 x0.starts.length c0_0,.slice a0_1 x0.ends.length c0_1,.slice a0_2 x0.arcs.length c0_2] 25,Res.cells b103 #[.int .i64 0,.slice none 0 0,.slice none 0 0,.slice none 0 0] 25,Res.cells b109 #[.slice a106 ((List.replicate x0.states.toNat (0:Int)).length) c107] 27,Res.rowS 3 1 eI_ (.slice a106 (List.replicate x0.states.toNat (0:Int)).length c107) l143,Res.cells b125 #[.int .i64 ((k145:Nat):Int),.slice a167 l166.length c168,.slice g.2.1 g.1.1.length g.2.2,.slice none 0 0] 25,Res.rowS 62 2 encTip (.slice a167 l166.length c168) l166,Res.rowS 62 2 encTip (.slice g.2.1 g.1.1.length g.2.2) g.1.1]) (fun g=>τ146) (fun g=>iter (fun q:(List Tip)×Nat=>Bx_ x0 l143 k145 l166 q.1 q.2) g.1=some r∧l143.length=(List.replicate x0.states.toNat (0:Int)).length) (fun g=>rounds (fun q:(List Tip)×Nat=>Bx_ x0 l143 k145 l166 q.1 q.2) g.1) ((([]:List Tip),0),(none,0)) (Sub.f [6,6,6,6,6,6] 7) z (by repeat (first|exact trivial|refine ⟨z,?_⟩)) ⟨hh,hn164⟩ (fun g3 j3 hg3=> ?_))))))))))))
  obtain ⟨⟨l205,k208⟩,⟨a206,c207⟩⟩:=g3
  obtain ⟨hh,hn203⟩:=hg3
  try dsimp only at hn203 ⊢
  obtain ⟨z1,hh,hR1⟩:=iter_e hh
  dsimp only [Bx_]at hh
  have hn203b:=hn203
  refine TC.isSl (i:=3) z (fun _ hb210 _=> ?_)
  refine TC.isSl (i:=5) z (fun _ hb211 _=> ?_)
  refine TC.isSl (i:=6) z (fun _ hb212 _=> ?_)
  refine TC.a (TL.w z (OpVal.lss z z z) (TL.en (TC.seq (TC.cD z hh (fun h213 hh=> ?_) (fun h213 hh=> ?_)))))
  ·refine TC.skip (S.n (TC.cutG (α:=((List Tip))×((Option Addr)×Nat)) (rgs [(12,2),(75,18)]) (fun g=>[]) (fun g=>[Res.cells b101 #[.int .i64 x0.states,.slice a0_0 x0.starts.length c0_0,.slice a0_1 x0.ends.length c0_1,.slice a0_2 x0.arcs.length c0_2] 25,Res.cells b103 #[.int .i64 0,.slice none 0 0,.slice none 0 0,.slice none 0 0] 25,Res.cells b109 #[.slice a106 ((List.replicate x0.states.toNat (0:Int)).length) c107] 27,Res.rowS 3 1 eI_ (.slice a106 (List.replicate x0.states.toNat (0:Int)).length c107) l143,Res.cells b125 #[.int .i64 ((k145:Nat):Int),.slice a167 l166.length c168,.slice g.2.1 g.1.length g.2.2,.slice none 0 0] 25,Res.rowS 62 2 encTip (.slice a167 l166.length c168) l166,Res.rowS 62 2 encTip (.slice g.2.1 g.1.length g.2.2) g.1]) (fun g=>τ146) (fun g=>D5_ k208 g.1=some z1∧l143.length=(List.replicate x0.states.toNat (0:Int)).length) ?_ (fun g j hg=> ?_)))
   ·skip
    refine TC.block (TC.a (TL.w z (indexN z underlying22 sz62 z z f0_1.rv.sl (by omega)) (TL.w z (loadSA Tip.zero z ag62 sz62 z f0_1 (by omega) (by omega)) (TL.op z (OpOk.alloc z ze62 z z (fun b218=> ?_))))))
    refine TL.op z (storeAll z sz62 z z z z z z ?_)
    refine TL.en (TC.a (TL.w z (loadLoc z ag27 z (i:=3) z z) (TL.w z (fieldLoc z fo62_0 z) (TL.w z (loadLoc z ag3 z (i:=0) z z) ?_))))
    have u83:=grd_c hh
    replace hh:=grd_t hh
    refine TL.isSl (i:=4) z (fun hs220 _ _=> ?_)
    refine TL.w z (OpVal.index z underlying27 sz3 z z hs220 u83.1 u83.2) (TL.w z (loadO1 (0:Int) z ag3 z (q:=4) z eIl_ (by omega) z) (TL.i z z (TL.en (TC.a (TL.i z z (TL.w z (OpVal.geq z z z) (TL.en (TC.cD z hh (fun h221 hh=> ?_) (fun h221 hh=> ?_)))))))))
    ·refine TC.region (TL.w z (fieldLoc z fo25_2 z) (TL.w z (loadLoc z ag22 z (i:=5) z z) (TL.i z z (TL.w z (fieldLoc z fo62_1 z) (TL.w z (loadLoc z ag9 z (i:=0) z z) (TL.w z (buildL z pl62 ze62 z) (TL.op z (OpOk.lit (enc:=encTip) [(⟨(nth l143 (((nth x0.ends k208 Tip.zero).state).toNat) (0:Int)),(nth x0.ends k208 Tip.zero).out⟩:Tip)] z underlying22 sz62 ze62 z z z encTip_len (by decide) (by decide) Tip.zero z (by decide) z (by decide) encTip_one (fun a222 c223=> ?_)))))))))
     refine TL.front 8 z z ?_
     have u95:=grd_c hh
     replace hh:=grd_t hh
     refine TL.op z (appendS z z underlying22 sz62 by62 ze62 z z (by decide) z z z (.inr ⟨_,0,z⟩) (by simpa using u95) (by decide) (fun a225 c226=> ?_))
     refine TL.w z (fieldLoc z fo25_2 z) (TL.front 7 z z (TL.op z (storeSl z sz22 z z z z z ?_)))
     exact TL.nil (B.n (S.n (cf ((l205++[(⟨(nth l143 (((nth x0.ends k208 Tip.zero).state).toNat) (0:Int)),(nth x0.ends k208 Tip.zero).out⟩:Tip)]),(a225,c226)) ⟨hh,hn203⟩ (Sub.f [1,8,2,8,8,8,8] 7))))
    exact TC.skip (B.n (S.n (cf (l205,(a206,c207)) ⟨hh,hn203⟩ (Sub.f [7,7,7,7,7,7,7] 7))))
   skip
   obtain ⟨l215,⟨a216,c217⟩⟩:=g
   obtain ⟨hh,hn214⟩:=hg
   try dsimp only at hn214 ⊢
   dsimp only [D5_]at hh
   have hn214b:=hn214
   refine TC.isSl (i:=3) z (fun _ hb227 _=> ?_)
   refine TC.isSl (i:=5) z (fun _ hb228 _=> ?_)
   refine TC.isSl (i:=6) z (fun _ hb229 _=> ?_)
   refine TC.region (TL.w z (OpVal.succ z z z (by omega)) (TL.i z z (TL.en ?_)))
   obtain ⟨hh,hlt230⟩:=nxt_x hR1 hh
   exact lf ((l215,(k208+1)),(a216,c217)) hlt230 ⟨hh,hn214⟩ (Sub.f [6,6,6,6,6,6,6] 7)
  refine TC.exit (S.x (S.x ?_))
  replace hh:=fin_x hR1 hh
  refine TC.exitHere (S.n (TC.seq (TC.a (TL.w z (fieldLoc z fo25_3 z) (TL.w z (loadLoc z ag23 z (i:=0) z z) (TL.w z (lenC z underlying23 z) (TL.i z z (TL.en (TC.block (TC.nilS 59 8 encArc (TC.loopG (α:=((List Arc)×Nat)×((Option Addr)×Nat)) (rgs [(15,3),(97,35)]) (fun g=>[(97,.int .i64 ((g.1.2:Nat):Int))]) (fun g=>[Res.cells b103 #[.int .i64 0,.slice none 0 0,.slice none 0 0,.slice none 0 0] 25,Res.cells b109 #[.slice a106 ((List.replicate x0.states.toNat (0:Int)).length) c107] 27,Res.rowS 3 1 eI_ (.slice a106 (List.replicate x0.states.toNat (0:Int)).length c107) l143,Res.cells b125 #[.int .i64 ((k145:Nat):Int),.slice a167 l166.length c168,.slice a206 l205.length c207,.slice g.2.1 g.1.1.length g.2.2] 25,Res.rowS 62 2 encTip (.slice a167 l166.length c168) l166,Res.rowS 62 2 encTip (.slice a206 l205.length c207) l205,Res.rowS 59 8 encArc (.slice g.2.1 g.1.1.length g.2.2) g.1.1]) (fun g=>τ146) (fun g=>iter (fun q:(List Arc)×Nat=>B2_ x0 l143 k145 l166 l205 q.1 q.2) g.1=some r∧l143.length=(List.replicate x0.states.toNat (0:Int)).length) (fun g=>rounds (fun q:(List Arc)×Nat=>B2_ x0 l143 k145 l166 l205 q.1 q.2) g.1) ((([]:List Arc),0),(none,0)) (Sub.f [7,7,7,7,7,7] 7) z (by repeat (first|exact trivial|refine ⟨z,?_⟩)) ⟨hh,hn203⟩ (fun g4 j4 hg4=> ?_))))))))))))
  obtain ⟨⟨l246,k249⟩,⟨a247,c248⟩⟩:=g4
  obtain ⟨hh,hn244⟩:=hg4
  try dsimp only at hn244 ⊢
  obtain ⟨z1,hh,hR1⟩:=iter_e hh
  dsimp only [B2_]at hh
  have hn244b:=hn244
  refine TC.isSl (i:=2) z (fun _ hb251 _=> ?_)
  refine TC.isSl (i:=4) z (fun _ hb252 _=> ?_)
  refine TC.isSl (i:=5) z (fun _ hb253 _=> ?_)
  refine TC.isSl (i:=6) z (fun _ hb254 _=> ?_)
  refine TC.a (TL.w z (OpVal.lss z z z) (TL.en (TC.seq (TC.cD z hh (fun h255 hh=> ?_) (fun h255 hh=> ?_)))))
  ·refine TC.skip (S.n (TC.cutG (α:=((List Arc))×((Option Addr)×Nat)) (rgs [(15,3),(99,32)]) (fun g=>[]) (fun g=>[Res.cells b103 #[.int .i64 0,.slice none 0 0,.slice none 0 0,.slice none 0 0] 25,Res.cells b109 #[.slice a106 ((List.replicate x0.states.toNat (0:Int)).length) c107] 27,Res.rowS 3 1 eI_ (.slice a106 (List.replicate x0.states.toNat (0:Int)).length c107) l143,Res.cells b125 #[.int .i64 ((k145:Nat):Int),.slice a167 l166.length c168,.slice a206 l205.length c207,.slice g.2.1 g.1.length g.2.2] 25,Res.rowS 62 2 encTip (.slice a167 l166.length c168) l166,Res.rowS 62 2 encTip (.slice a206 l205.length c207) l205,Res.rowS 59 8 encArc (.slice g.2.1 g.1.length g.2.2) g.1]) (fun g=>τ146) (fun g=>De_ k249 g.1=some z1∧l143.length=(List.replicate x0.states.toNat (0:Int)).length) ?_ (fun g j hg=> ?_)))
   ·skip
    refine TC.block (TC.a (TL.w z (indexN z underlying23 sz59 z z f0_2.rv.sl (by omega)) (TL.w z (loadSA Arc.zero z ag59 sz59 z f0_2 (by omega) (by omega)) (TL.op z (OpOk.alloc z ze59 z z (fun b260=> ?_))))))
    refine TL.op z (storeAll z sz59 z z z z z z ?_)
    refine TL.en (TC.seq ?_)
    have u112:=grd_c hh
    replace hh:=grd_t hh
    have u117:=grd_c hh
    replace hh:=grd_t hh
    refine TC.draw [] (by kernel_rfl) (TA.b 0 z (loadLoc z ag27 z (i:=2) z z) z (TA.a 1 z (fieldLoc z fo59_0 z) z (TA.b 2 z (loadLoc z ag3 z (i:=0) z z) z (TA.isSl (i:=3) z (fun hs264 _ _=> ?_)))))
    refine TA.b 3 z (OpVal.index z underlying27 sz3 z z hs264 u112.1 u112.2) z (TA.b 4 z (loadO1 (0:Int) z ag3 z (q:=3) z eIl_ (by omega) z) z (TA.b 5 z (loadLoc z ag27 z (i:=2) z z) z (TA.a 6 z (fieldLoc z fo59_1 z) z (TA.b 7 z (loadLoc z ag3 z (i:=0) z z) z (TA.isSl (i:=3) z (fun hs265 _ _=> ?_))))))
    refine TA.b 8 z (OpVal.index z underlying27 sz3 z z hs265 u117.1 u117.2) z (TA.b 9 z (loadO1 (0:Int) z ag3 z (q:=3) z eIl_ (by omega) z) z (TA.a 10 z (moveI (.inr z) z) z (TA.a 11 z (moveI (.inr z) z) z (TA.dn (S.n (TC.a (TL.i z z (TL.w z (OpVal.geq z z z) (TL.j z z (TL.split 113 z (fun h266=> ?_) (fun h266=> ?_)))))))))))
    ·replace hh:=iteO_t h266 hh
     replace h266:=of_decide_eq_true h266
     refine TL.g z (moveI (.inl z) z) (TL.g z (OpVal.geq z z z) (TL.w z (pickTB z z z) (TL.en (TC.cD z hh (fun h267 hh=> ?_) (fun h267 hh=> ?_)))))
     ·refine TC.region (TL.w z (fieldLoc z fo25_3 z) (TL.w z (loadLoc z ag23 z (i:=4) z z) (TL.i z z (TL.i z z (TL.w z (fieldLoc z fo59_2 z) (TL.w z (loadLocA z ag57 sz57 z (i:=0) z z z) (TL.w z (fieldLoc z fo59_3 z) (TL.w z (loadLoc z ag9 z (i:=0) z z) (TL.w z (fieldLoc z fo59_4 z) (TL.w z (loadLoc z ag4 z (i:=0) z z) (TL.w z (buildL z pl59 ze59 z) (TL.op z (OpOk.lit (enc:=encArc) [(⟨(nth l143 (((nth x0.arcs k249 Arc.zero).frm).toNat) (0:Int)),(nth l143 (((nth x0.arcs k249 Arc.zero).to).toNat) (0:Int)),(nth x0.arcs k249 Arc.zero).set,(nth x0.arcs k249 Arc.zero).out,(nth x0.arcs k249 Arc.zero).copy⟩:Arc)] z underlying23 sz59 ze59 z z z encArc_len (by decide) (by decide) Arc.zero z (by decide) z (by decide) encArc_one (fun a268 c269=> ?_))))))))))))))
      refine TL.front 8 z z ?_
      have u139:=grd_c hh
      replace hh:=grd_t hh
      refine TL.op z (appendS z z underlying23 sz59 by59 ze59 z z (by decide) z z z (.inr ⟨_,0,z⟩) (by simpa using u139) (by decide) (fun a271 c272=> ?_))
      refine TL.w z (fieldLoc z fo25_3 z) (TL.front 6 z z (TL.op z (storeSl z sz23 z z z z z ?_)))
      exact TL.nil (B.n (S.n (cf ((l246++[(⟨(nth l143 (((nth x0.arcs k249 Arc.zero).frm).toNat) (0:Int)),(nth l143 (((nth x0.arcs k249 Arc.zero).to).toNat) (0:Int)),(nth x0.arcs k249 Arc.zero).set,(nth x0.arcs k249 Arc.zero).out,(nth x0.arcs k249 Arc.zero).copy⟩:Arc)]),(a271,c272)) ⟨hh,hn244⟩ (Sub.f [1,8,8,3,8,8,8] 7))))
     exact TC.skip (B.n (S.n (cf (l246,(a247,c248)) ⟨hh,hn244⟩ (Sub.f [7,7,7,7,7,7,7] 7))))
    replace hh:=iteO_f h266 hh
    replace h266:=of_decide_eq_false h266
    exact TL.f z (TL.f z (TL.w z (pickFB z z z) (TL.en (TC.f z (TC.skip (B.n (S.n (cf (l246,(a247,c248)) ⟨hh,hn244⟩ (Sub.f [7,7,7,7,7,7,7] 7)))))))))
   skip
   obtain ⟨l257,⟨a258,c259⟩⟩:=g
   obtain ⟨hh,hn256⟩:=hg
   try dsimp only at hn256 ⊢
   dsimp only [De_]at hh
   have hn256b:=hn256
   refine TC.isSl (i:=2) z (fun _ hb273 _=> ?_)
   refine TC.isSl (i:=4) z (fun _ hb274 _=> ?_)
   refine TC.isSl (i:=5) z (fun _ hb275 _=> ?_)
   refine TC.isSl (i:=6) z (fun _ hb276 _=> ?_)
   refine TC.region (TL.w z (OpVal.succ z z z (by omega)) (TL.i z z (TL.en ?_)))
   obtain ⟨hh,hlt277⟩:=nxt_x hR1 hh
   exact lf ((l257,(k249+1)),(a258,c259)) hlt277 ⟨hh,hn256⟩ (Sub.f [6,6,6,6,6,6,6] 7)
  refine TC.exit (S.x (S.x ?_))
  replace hh:=fin_x hR1 hh
  refine TC.exitHere (S.n (TC.a (TL.w z (loadAll z ag25 sz25 z (i:=3) z z) (TL.front 4 z z (TL.sealS encTip_len (fun τ280 hle279 hr278=> ?_))))))
  have hr278b:=hr278.rv.big
  refine TL.front 4 z z (TL.sealS encTip_len (fun τ283 hle282 hr281=> ?_))
  replace hr278:=hr278.mono hle282
  have hr281b:=hr281.rv.big
  refine TL.front 4 z z (TL.sealS encArc_len (fun τ286 hle285 hr284=> ?_))
  replace hr278:=hr278.mono hle285
  replace hr281:=hr281.mono hle285
  have hr284b:=hr284.rv.big
  obtain ⟨v145,u145,hh⟩:=bnd_e hh
  refine TL.op z (OpOk.call (Jb_ (x0:=(⟨((k145:Nat):Int),l166,l205,l246⟩:Fst)) hr278 hr281 hr284 u145) z z pf49 z z z z ?_)
  rintro _ τ287 _ hle287 ⟨a287_1,c287_1,a287_2,c287_2,a287_3,c287_3,rfl,hr287_0,hr287_1,hr287_2,rfl⟩
  have hr287_0b:=hr287_0.rv.big
  have hr287_1b:=hr287_1.rv.big
  have hr287_2b:=hr287_2.rv.big
  refine TL.w z (OpVal.extract z z z) (TL.w z (OpVal.extract z z z) (TL.op z (storeAll z sz25 z z z z z z ?_)))
  refine TL.i z z (TL.en (TC.rt 1 ?_))
  obtain rfl:=so hh
  exact ro [] z (RVs.agg ag25 sz25 z (i:=0) z z (RVs.tmp z RVs.nil)) ⟨a287_1,c287_1,a287_2,c287_2,a287_3,c287_3,z,hr287_0,hr287_1,hr287_2,z⟩
 intro m_ c_ hh hc_
 exact jl_nil hc_
end Go.Proofs.YtnpbfjdpglfdkaaGreatDoor
end

noncomputable section
namespace Go.E
open Go
structure TLag where
  p:Int
  q:Int
  a:List UInt8
  b:List UInt8
  deriving DecidableEq
def TLag.zero:TLag:=⟨0,0,[],[]⟩
structure Walk where
  t:Fst
  arcs:List (List Arc)
  most:Int
end Go.E
end

noncomputable section
namespace Go.E
open Go
structure ReLeaf where
  kind:Int
  text:List UInt8
  set:BSet
  min:Int
  max:Int
  deriving DecidableEq
def ReLeaf.zero:ReLeaf:=⟨0,[],BSet.zero,0,0⟩
structure ReRoot where
  kind:Int
  text:List UInt8
  set:BSet
  parts:List ReLeaf
  min:Int
  max:Int
def ReRoot.zero:ReRoot:=⟨0,[],BSet.zero,[],0,0⟩
end Go.E
end

noncomputable section
namespace Go.Proofs.YtnpbfjdpglfdkaaGreatDoor
open Go Go.E Go.E.OpVal Go.E.OpOk
end Go.Proofs.YtnpbfjdpglfdkaaGreatDoor
end

noncomputable section
namespace Go.E
open Go
section
variable {K:Type} [DecidableEq K]
theorem len_of_sub: ∀{l m:List K},l.Nodup→(∀x∈l,x∈m)→l.length≤m.length
  |[],m,_,_=>Nat.zero_le _
  | x :: l, m, hn, hs => by
    rw [List.nodup_cons]at hn
    have hx:=hs x (List.mem_cons_self ..)
    have:=len_of_sub (m:=m.erase x) hn.2 fun y hy=>by
      have h1:=hs y (List.mem_cons_of_mem _ hy)
      refine (List.mem_erase_of_ne ?_).2 h1
      intro e;subst e;exact hn.1 hy
    rw [List.length_erase_of_mem hx]at this
    have hp:=List.length_pos_of_mem hx
    simp only [List.length_cons];omega
def FM.ofL(S:List K):FM K Unit:=S.foldl (fun m k=>m.put k ()) FM.emp
theorem FM.ofL_snoc(S:List K)(k:K):FM.ofL (S++[k])=(FM.ofL S).put k ():=by simp [FM.ofL]
theorem FM.ofL_f(S:List K)(x:K):(FM.ofL S).f x=if x∈S then some () else none:=by
  have key: ∀(S:List K) (m:FM K Unit),(S.foldl (fun m k=>m.put k ()) m).f x=if x∈S then some () else m.f x:=by
    intro S
    induction S with
    |nil=>intro m;simp
    |cons y S ih=>
      intro m
      rw [List.foldl_cons,ih]
      by_cases h:x∈S
      · simp [h]
      by_cases e:x=y
      · subst e;simp [FM.put]
      simp [h,FM.put,e]
  rw [FM.ofL,key];rfl
def card(S:List K):Nat:=(FM.ofL S).n
theorem rev_ind{p:List K→Prop}(h0:p [])(h1: ∀l x,p l→p (l++[x]))(l:List K):p l:=by
  have: ∀m:List K,p m.reverse:=fun m=>by
    induction m with
    |nil=>exact h0
    |cons x m ih=>rw [List.reverse_cons];exact h1 _ _ ih
  simpa using this l.reverse
theorem FM.ofL_len (S : List K) : ∃ l : List K, l.Nodup ∧ (∀ x, x ∈ l ↔ x ∈ S) ∧ l.length = card S := by
  induction S using rev_ind with
  |h0=>exact ⟨[],List.nodup_nil,by simp,rfl⟩
  |h1 S k ih=>
    obtain ⟨l,h1,h2,h3⟩:=ih
    have hf:=FM.ofL_f S k
    by_cases hk:k∈S
    · refine ⟨l,h1,fun x=> ?_,?_⟩
      · rw [h2,List.mem_append,List.mem_singleton]
        constructor
        · exact .inl
        rintro (h|rfl)
        · exact h
        exact hk
      rw [h3,card,card,FM.ofL_snoc,FM.put];simp [hf,hk]
    refine ⟨l++[k],?_,fun x=>by rw [List.mem_append,List.mem_append,h2],?_⟩
    · rw [List.nodup_append]
      exact ⟨h1,by simp,fun x hx y hy=>by
        rw [List.mem_singleton]at hy;subst hy
        intro e;subst e;exact hk ((h2 _).1 hx)⟩
    rw [List.length_append,h3,card,card,FM.ofL_snoc,FM.put];simp [hf,hk]
theorem card_mono{S T:List K}(h: ∀x∈S,x∈T):card S≤card T:=by
  obtain ⟨l,h1,h2,h3⟩:=FM.ofL_len S
  obtain ⟨m,_,h5,h6⟩:=FM.ofL_len T
  rw [←h3,←h6]
  exact len_of_sub h1 fun x hx=>(h5 x).2 (h x ((h2 x).1 hx))
theorem card_congr{S T:List K}(h: ∀x,x∈S↔x∈T):card S=card T:=Nat.le_antisymm (card_mono fun x hx=>(h x).1 hx) (card_mono fun x hx=>(h x).2 hx)
theorem card_le(S:List K):card S≤S.length:=by
  obtain ⟨l,h1,h2,h3⟩:=FM.ofL_len S
  rw [←h3];exact len_of_sub h1 fun x hx=>(h2 x).1 hx
theorem FM.ofL_congr{S T:List K}(h: ∀x,x∈S↔x∈T):FM.ofL S=FM.ofL T:=by
  have e1:(FM.ofL S).f=(FM.ofL T).f:=funext fun x=>by rw [FM.ofL_f,FM.ofL_f];simp only [h]
  have e2:(FM.ofL S).n=(FM.ofL T).n:=card_congr h
  cases hS:FM.ofL S;cases hT:FM.ofL T
  rw [hS]at e1 e2;rw [hT]at e1 e2
  simp only at e1 e2
  rw [e1,e2]
theorem Rep.of_ofL{S:List K}{q:List (K×Unit)}(h:Rep q (FM.ofL S)):(∀z,z∈q↔z.1∈S)∧q.length=card S:=by
  refine ⟨fun z=> ?_,h.len⟩
  obtain ⟨k,v⟩:=z
  rw [h.mem,FM.ofL_f]
  by_cases hk:k∈S<;>simp [hk]
theorem Rep.ofL(S:List K): ∃q:List (K×Unit),Rep q (FM.ofL S):=by
  obtain ⟨l,h1,h2,h3⟩:=FM.ofL_len S
  refine ⟨l.map fun x=>(x,()),⟨fun k v=> ?_,by rw [List.length_map,h3];rfl,?_⟩⟩
  · rw [FM.ofL_f,List.mem_map]
    constructor
    · rintro ⟨x,hx,e⟩
      cases e
      rw [if_pos ((h2 _).1 hx)]
    intro h
    split at h
    · rename_i hk;exact ⟨k,(h2 k).2 hk,rfl⟩
    cases h
  rw [List.map_map,show (Prod.fst ∘ fun x:K=>(x,()))=id from rfl,List.map_id];exact h1
end
section
variable {β γ:Type}
structure Grp (key:β→Int) (val:β→γ) (n:Nat) (l:List (List γ)) (xs:List β):Prop where
  len:l.length=n
  row: ∀i,i<n→nth l i []=(xs.filter fun x=>decide (key x=(i:Int))).map val
theorem Grp.nil(key:β→Int)(val:β→γ)(n:Nat):Grp key val n (List.replicate n []) []:=⟨List.length_replicate ..,fun i hi=>by simp [nth,List.getD,List.getElem?_replicate,hi]⟩
theorem Grp.snoc{key:β→Int}{val:β→γ}{n:Nat}{l:List (List γ)}{xs:List β}(h:Grp key val n l xs){x:β}(h0:0≤key x)(h1:key x<n):
    Grp key val n (l.set (key x).toNat (nth l (key x).toNat []++[val x])) (xs++[x]):=by
  refine ⟨by rw [List.length_set];exact h.len,fun i hi=> ?_⟩
  rw [List.filter_append,List.map_append,←h.row i hi]
  by_cases e:i=(key x).toNat
  · subst e
    have:key x=((key x).toNat:Int):=by omega
    have hl:=h.len
    rw [show nth (l.set (key x).toNat (nth l (key x).toNat []++[val x])) (key x).toNat []=nth l (key x).toNat []++[val x]from by simp [nth,List.getD,hl,hi]]
    simp [this.symm]
  have hne: ¬ key x=(i:Int):=by omega
  rw [show nth (l.set (key x).toNat (nth l (key x).toNat []++[val x])) i []=nth l i []from by simp [nth,List.getD,List.getElem?_set,Ne.symm e]]
  simp [hne]
theorem Grp.at{key:β→Int}{val:β→γ}{n:Nat}{l:List (List γ)}{xs:List β}(h:Grp key val n l xs){s:Int}(h0:0≤s)(h1:s<n):nth l s.toNat []=(xs.filter fun x=>decide (key x=s)).map val:=by
  rw [h.row _ (by omega)]
  have:((s.toNat:Nat):Int)=s:=by omega
  simp only [this]
theorem iter_all{α R:Type}{step:Nat→Option (Nat⊕R)}{y no:R}(l:List α)(d:α)(p:α→Bool)(hs: ∀k,k<l.length→p (nth l k d)=true→step k=some (.inl (k+1)))
    (hn: ∀k,k<l.length→p (nth l k d)=false→step k=some (.inr no)) (hd:step l.length=some (.inr y)):iter step 0=some (if l.all p then y else no):=by
  have h:=iter_any0 (step:=step) (y:=no) (no:=y) (fun k=>k) (fun k=> !p (nth l k d)) l.length (fun k hk hp=>hs k hk (by simpa using hp)) (fun k hk hp=>hn k hk (by simpa using hp)) hd
  rw [h,range_any l d (fun x=> !p x)]
  by_cases ha:l.all p=true
  · have:(l.any fun x=> !p x)=false:=by rw [List.any_eq_false];intro x hx;have:=(List.all_eq_true.1 ha) x hx;simp [this]
    rw [this,ha];rfl
  have:(l.any fun x=> !p x)=true:=by
    rw [Bool.not_eq_true,List.all_eq_false]at ha
    obtain ⟨x,hx,h⟩:=ha
    exact List.any_eq_true.2 ⟨x,hx,by simpa using h⟩
  rw [this];simp only [cond_true];rw [if_neg ha]
theorem iter_fold{α S R:Type}{step:S×Nat→Option ((S×Nat)⊕R)}{r:R}(l:List α)(d:α)(f:Nat→S)(hs: ∀k,k<l.length→step (f k,k)=some (.inl (f (k+1),k+1)))(hd:step (f l.length,l.length)=some (.inr r)):
    iter step (f 0,0)=some r:=iter_seq0 (fun k=>(f k,k)) l.length hs hd
end
end Go.E
end

noncomputable section
namespace Go.E
open Go
theorem iter_for {α S T R : Type} {step : T → Option (T ⊕ R)} (g : S → Nat → T) (l : List α) (d : α) (I : List α → S → Prop) (Q : R → Prop)
    (hs: ∀k s,k<l.length→I (l.take k) s→(∃s',step (g s k)=some (.inl (g s' (k+1)))∧I (l.take k++[nth l k d]) s')∨ ∃r,step (g s k)=some (.inr r)∧Q r)
    (hd: ∀s,I l s→ ∃r,step (g s l.length)=some (.inr r)∧Q r) {s0:S} (h0:I [] s0): ∃r,iter step (g s0 0)=some r∧Q r:=by
  have key: ∀m k s,l.length - k=m→k≤l.length→I (l.take k) s→ ∃r,iter step (g s k)=some r∧Q r:=by
    intro m
    induction m with
    |zero=>
      intro k s hm hk hI
      have hk:k=l.length:=by omega
      subst hk
      rw [List.take_length]at hI
      obtain ⟨r,h1,h2⟩:=hd s hI
      exact ⟨r,iter_done h1,h2⟩
    |succ m ih=>
      intro k s hm hk hI
      rcases hs k s (by omega) hI with ⟨s',h1,h2⟩|⟨r,h1,h2⟩
      · rw [←take_snoc l (by omega) d]at h2
        obtain ⟨r,h3,h4⟩:=ih (k+1) s' (by omega) (by omega) h2
        exact ⟨r,iter_next h1 h3,h4⟩
      exact ⟨r,iter_done h1,h2⟩
  exact key _ 0 s0 rfl (Nat.zero_le _) h0
theorem take_split{α:Type}(l:List α){k:Nat}(h:k<l.length)(d:α):l=l.take k++nth l k d::l.drop (k+1):=by
  have h1:l.drop k=nth l k d::l.drop (k+1):=by
    have:=List.drop_eq_getElem_cons h
    rw [this];congr 1
    have h2:=getD_some l h d
    rw [List.getElem?_eq_getElem h]at h2;exact Option.some.inj h2
  rw [←h1,List.take_append_drop]
end Go.E
end

noncomputable section
namespace Go.E
open Go
theorem iteO_dt{α:Type}{p:Prop}[Decidable p]{a b:Option α}(h:p):iteO (decide p) a b=a:=by rw [decide_eq_true h];rfl
theorem iteO_df{α:Type}{p:Prop}[Decidable p]{a b:Option α}(h: ¬ p):iteO (decide p) a b=b:=by rw [decide_eq_false h];rfl
theorem bnd_mk{α β:Type}{x:α}{f:α→Option β}:bnd (some x) f=f x:=rfl
theorem iter_up {S T R : Type} {step : T → Option (T ⊕ R)} (g : S → Nat → T) (n : Nat) (I : Nat → S → Prop) (Q : R → Prop)
    (hs: ∀k s,k<n→I k s→(∃s',step (g s k)=some (.inl (g s' (k+1)))∧I (k+1) s')∨ ∃r,step (g s k)=some (.inr r)∧Q r)
    (hd: ∀s,I n s→ ∃r,step (g s n)=some (.inr r)∧Q r) {s0:S} (h0:I 0 s0): ∃r,iter step (g s0 0)=some r∧Q r:=by
  have key: ∀m k s,n - k=m→k≤n→I k s→ ∃r,iter step (g s k)=some r∧Q r:=by
    intro m
    induction m with
    |zero=>
      intro k s hm hk hI
      have hk:k=n:=by omega
      subst hk
      obtain ⟨r,h1,h2⟩:=hd s hI
      exact ⟨r,iter_done h1,h2⟩
    |succ m ih=>
      intro k s hm hk hI
      rcases hs k s (by omega) hI with ⟨s',h1,h2⟩|⟨r,h1,h2⟩
      · obtain ⟨r,h3,h4⟩:=ih (k+1) s' (by omega) (by omega) h2
        exact ⟨r,iter_next h1 h3,h4⟩
      exact ⟨r,iter_done h1,h2⟩
  exact key _ 0 s0 rfl (Nat.zero_le _) h0
theorem nth_set{α:Type}(l:List α)(i j:Nat)(x d:α):nth (l.set i x) j d=if i=j∧j<l.length then x else nth l j d:=by
  unfold nth
  simp only [List.getD_eq_getElem?_getD,List.getElem?_set]
  by_cases h:i=j
  · subst h
    by_cases k:i<l.length
    · simp [k]
    simp [k]
  simp [h]
theorem nth_map{α β:Type}(f:α→β)(l:List α)(i:Nat)(d:α)(e:β)(h:i<l.length):nth (l.map f) i e=f (nth l i d):=by
  unfold nth
  simp [List.getD_eq_getElem?_getD,List.getElem?_map,List.getElem?_eq_getElem h]
theorem nth_rep{α:Type}(n i:Nat)(x:α):nth (List.replicate n x) i x=x:=by
  unfold nth
  rw [List.getD_eq_getElem?_getD,List.getElem?_replicate]
  split<;>rfl
theorem nth_ext{α:Type}(d:α){l m:List α}(hl:l.length=m.length)(h: ∀i,i<l.length→nth l i d=nth m i d):l=m:=by
  apply List.ext_getElem hl
  intro i h1 h2
  have a:=h i h1
  have b:=getD_some l h1 d
  have c:=getD_some m h2 d
  rw [List.getElem?_eq_getElem h1]at b
  rw [List.getElem?_eq_getElem h2]at c
  rw [Option.some.inj b,a,←Option.some.inj c]
end Go.E
end

noncomputable section
namespace Go.Proofs.YtnpbfjdpglfdkaaGreatDoor
open Go Go.E
inductive Rch (S:Int→Prop) (E:Int→Int→Prop):Int→Prop
  |base {s:Int}:S s→Rch S E s
  |step {a b:Int}:Rch S E a→E a b→Rch S E b
def onS(t:Fst)(s:Int):Prop:= ∃x∈t.starts,x.state=s
def enS(t:Fst)(s:Int):Prop:= ∃x∈t.ends,x.state=s
def arE(t:Fst)(a b:Int):Prop:= ∃x∈t.arcs,x.frm=a∧x.to=b
def arB(t:Fst)(a b:Int):Prop:= ∃x∈t.arcs,x.to=a∧x.frm=b
def Use(t:Fst)(s:Int):Prop:=Rch (onS t) (arE t) s∧Rch (enS t) (arB t) s
open Classical in
def useB(t:Fst)(s:Nat):Bool:=decide (Use t s)
def cntB(p:Nat→Bool):Nat→Nat
  |0=>0
  |n+1=>cntB p n+(if p n then 1 else 0)
def numB(p:Nat→Bool)(s:Int):Int:=if p s.toNat then (cntB p s.toNat:Int) else -1
theorem cntB_le(p:Nat→Bool): ∀{m n:Nat},m≤n→cntB p m≤cntB p n
  | m, 0, h => by obtain rfl : m = 0 := by omega
                  exact Nat.le_refl _
  |m,n+1,h=>by
    by_cases hm:m=n+1
    · subst hm;exact Nat.le_refl _
    have:=cntB_le p (m:=m) (n:=n) (by omega)
    simp only [cntB];omega
theorem cntB_lt(p:Nat→Bool){m n:Nat}(h:m<n)(hp:p m=true):cntB p m<cntB p n:=by
  have:=cntB_le p (m:=m+1) (n:=n) h
  simp only [cntB,hp,if_true]at this
  omega
theorem cntB_self(p:Nat→Bool): ∀n,cntB p n≤n
  |0=>Nat.le_refl _
  |n+1=>by have:=cntB_self p n;simp only [cntB];split<;>omega
theorem numB_pos{p:Nat→Bool}{s:Int}(h:p s.toNat=true):numB p s=cntB p s.toNat:=by unfold numB;rw [if_pos h]
theorem numB_ge{p:Nat→Bool}{s:Int}:0≤numB p s↔p s.toNat=true:=by
  unfold numB;split
  · simp_all
  simp_all
def keepT(p:Nat→Bool)(l:List Tip):List Tip:=l.filterMap fun x=>if 0≤numB p x.state then some ⟨numB p x.state,x.out⟩ else none
def keepA(p:Nat→Bool)(l:List Arc):List Arc:=l.filterMap fun x=>if 0≤numB p x.frm∧0≤numB p x.to then some ⟨numB p x.frm,numB p x.to,x.set,x.out,x.copy⟩ else none
def keepF(p:Nat→Bool)(t:Fst):Fst:=⟨cntB p t.states.toNat,keepT p t.starts,keepT p t.ends,keepA p t.arcs⟩
theorem mem_keepT{p:Nat→Bool}{l:List Tip}{y:Tip}:y∈keepT p l↔ ∃x∈l,p x.state.toNat=true∧y=⟨numB p x.state,x.out⟩:=by
  unfold keepT
  rw [List.mem_filterMap]
  constructor
  · rintro ⟨x,hx,h⟩
    split at h
    · rename_i h0;exact ⟨x,hx,numB_ge.1 h0,by cases h;rfl⟩
    cases h
  rintro ⟨x,hx,h0,rfl⟩;exact ⟨x,hx,by rw [if_pos (numB_ge.2 h0)]⟩
theorem mem_keepA{p:Nat→Bool}{l:List Arc}{y:Arc}:y∈keepA p l↔ ∃x∈l,p x.frm.toNat=true∧p x.to.toNat=true∧y=⟨numB p x.frm,numB p x.to,x.set,x.out,x.copy⟩:=by
  unfold keepA
  rw [List.mem_filterMap]
  constructor
  · rintro ⟨x,hx,h⟩
    split at h
    · rename_i h0;exact ⟨x,hx,numB_ge.1 h0.1,numB_ge.1 h0.2,by cases h;rfl⟩
    cases h
  rintro ⟨x,hx,h0,h1,rfl⟩;exact ⟨x,hx,by rw [if_pos ⟨numB_ge.2 h0,numB_ge.2 h1⟩]⟩
theorem keepT_len(p:Nat→Bool)(l:List Tip):(keepT p l).length≤l.length:=List.length_filterMap_le ..
theorem keepA_len(p:Nat→Bool)(l:List Arc):(keepA p l).length≤l.length:=List.length_filterMap_le ..
structure Rng (t:Fst):Prop where
  starts: ∀x∈t.starts,0≤x.state∧x.state<t.states
  ends: ∀x∈t.ends,0≤x.state∧x.state<t.states
  arcs: ∀x∈t.arcs,(0≤x.frm∧x.frm<t.states)∧(0≤x.to∧x.to<t.states)
open Classical in
theorem useB_iff{t:Fst}{s:Nat}:useB t s=true↔Use t s:=by unfold useB;exact decide_eq_true_iff
theorem keep_rng{t r:Fst}(hS: ∀x,x∈r.starts↔x∈keepT (useB t) t.starts)(hE: ∀x,x∈r.ends↔x∈keepT (useB t) t.ends)(hA: ∀x,x∈r.arcs↔x∈keepA (useB t) t.arcs)(hn:r.states=cntB (useB t) t.states.toNat)(h:Rng t):Rng r:=by
  have num: ∀{a:Int},0≤a→a<t.states→useB t a.toNat=true→0≤numB (useB t) a∧numB (useB t) a<r.states:=fun {a} h0 h1 hu=>by
    rw [numB_pos hu,hn]
    have:=cntB_lt (useB t) (m:=a.toNat) (n:=t.states.toNat) (by omega) hu
    omega
  refine ⟨fun y hy=> ?_,fun y hy=> ?_,fun y hy=> ?_⟩
  · obtain ⟨x,hx,hu,rfl⟩:=mem_keepT.1 ((hS y).1 hy);have:=h.starts x hx;exact num this.1 this.2 hu
  · obtain ⟨x,hx,hu,rfl⟩:=mem_keepT.1 ((hE y).1 hy);have:=h.ends x hx;exact num this.1 this.2 hu
  obtain ⟨x,hx,hu,hv,rfl⟩:=mem_keepA.1 ((hA y).1 hy);have:=h.arcs x hx;exact ⟨num this.1.1 this.1.2 hu,num this.2.1 this.2.2 hv⟩
end Go.Proofs.YtnpbfjdpglfdkaaGreatDoor
end

noncomputable section
namespace Go.Proofs.YtnpbfjdpglfdkaaGreatDoor
open Go Go.E
def uns:List Bool→Nat
  |[]=>0
  |b::l=>(if b then 0 else 1)+uns l
theorem uns_len: ∀l:List Bool,uns l≤l.length
  |[]=>Nat.le_refl _
  |b::l=>by have:=uns_len l;simp only [uns,List.length_cons];split<;>omega
def Le(l r:List Bool):Prop:= ∀v,nth l v false=true→nth r v false=true
theorem Le.rfl'(l:List Bool):Le l l:=fun _ h=>h
theorem Le.trans{l r s:List Bool}(h:Le l r)(k:Le r s):Le l s:=fun v hv=>k v (h v hv)
theorem uns_le: ∀{l r:List Bool},l.length=r.length→Le l r→uns r≤uns l
  |[],[],_,_=>Nat.le_refl _
  |[],_::_,h,_=>by simp at h
  |_::_,[],h,_=>by simp at h
  |a::l,b::r,h,k=>by
    have h1:=uns_le (l:=l) (r:=r) (by simpa using h) (fun v hv=>k (v+1) hv)
    have h2:a=true→b=true:=fun ha=>k 0 ha
    simp only [uns]
    cases a<;>cases b<;>simp_all<;>omega
theorem uns_set: ∀{l:List Bool} {i:Nat},i<l.length→nth l i false=false→uns (l.set i true)+1=uns l
  |[],i,h,_=>by simp at h
  |a::l,0,_,h=>by
    have:a=false:=h
    subst this
    simp [uns];omega
  |a::l,i+1,h,k=>by
    have:=uns_set (l:=l) (i:=i) (by simpa using h) k
    simp only [List.set_cons_succ,uns];omega
theorem le_set{l:List Bool}(i:Nat)(h:i<l.length):Le l (l.set i true):=fun v hv=>by
  rw [nth_set];split
  · rfl
  exact hv
def stE(st:List (List Int))(a b:Int):Prop:=0≤a∧b∈nth st a.toNat []
theorem Rch.trans{S:Int→Prop}{E:Int→Int→Prop}{a b:Int}(h:Rch (fun c=>c=a) E b)(k:Rch S E a):Rch S E b:=by
  induction h with
  |base e=>subst e;exact k
  |step _ e ih=>exact .step ih e
theorem mem_nth{α:Type}{l:List α}{x d:α}(h:x∈l): ∃j,j<l.length∧nth l j d=x:=by
  obtain ⟨j,hj,e⟩:=List.getElem_of_mem h
  refine ⟨j,hj,?_⟩
  have:=getD_some l hj d
  rw [List.getElem?_eq_getElem hj,Option.some.injEq]at this
  rw [←this];exact e
theorem mem_at{α:Type}{l:List α}{j:Nat}(d:α)(h:j<l.length):nth l j d∈l:=by
  have:=getD_some l h d
  exact List.mem_of_getElem? this
structure Vis (st:List (List Int)) (n:Nat) (s:Int) (seen r:List Bool):Prop where
  len:r.length=n
  le:Le seen r
  at':nth r s.toNat false=true
  out: ∀v,nth r v false=true→nth seen v false=true∨Rch (fun c=>c=s) (stE st) v
  cl: ∀v,nth r v false=true→nth seen v false=false→ ∀z∈nth st v [],nth r z.toNat false=true
theorem visit_ok {st : List (List Int)} {n : Nat} (hl : st.length = n) (hst : ∀ a, ∀ z ∈ nth st a [], 0 ≤ z ∧ z < n) :
    ∀k (s:Int) (seen:List Bool),0≤s→s<n→seen.length=n→uns seen<k→ ∃r,By_ k s seen st=some r∧Vis st n s seen r:=by
  intro k
  induction k with
  |zero=>intro s seen _ _ _ h;omega
  |succ k ih=>
    intro s seen h0 h1 hn hu
    show ∃r,Do_ (By_ k) s seen st=some r∧_
    unfold Do_
    rw [grd_mk ⟨h0,by omega⟩]
    cases hs:nth seen s.toNat false with
    |true=>exact ⟨seen,rfl,hn,Le.rfl' _,hs,fun v hv=> .inl hv,fun v hv hf=>by rw [hv]at hf;cases hf⟩
    | false =>
      rw [iteO_false,grd_mk ⟨h0,by omega⟩,grd_mk ⟨h0,by omega⟩]
      have hlt:s.toNat<seen.length:=by omega
      have hun:=uns_set hlt hs
      have hat:nth (seen.set s.toNat true) s.toNat false=true:=by rw [nth_set,if_pos ⟨rfl,hlt⟩]
      have hor: ∀v,nth (seen.set s.toNat true) v false=true→nth seen v false=true∨v=s.toNat:=fun v hv=>by
        rw [nth_set]at hv
        split at hv
        · rename_i h;exact .inr h.1.symm
        exact .inl hv
      obtain ⟨r,h2,h3,h4,h5,h6,h7⟩:=iter_up (step:=fun q:List Bool×Nat=>Az_ st s (By_ k) q.1 q.2) (fun (l:List Bool) j=>(l,j)) (nth st s.toNat []).length
        (fun j l=>l.length=n∧Le (seen.set s.toNat true) l∧(∀i,i<j→nth l (nth (nth st s.toNat []) i 0).toNat false=true)∧(∀v,nth l v false=true→nth (seen.set s.toNat true) v false=true∨Rch (fun c=>c=s) (stE st) v)∧(∀v,nth l v false=true→nth (seen.set s.toNat true) v false=false→ ∀z∈nth st v [],nth l z.toNat false=true))
        (fun l=>l.length=n∧Le (seen.set s.toNat true) l∧(∀i,i<(nth st s.toNat []).length→nth l (nth (nth st s.toNat []) i 0).toNat false=true)∧(∀v,nth l v false=true→nth (seen.set s.toNat true) v false=true∨Rch (fun c=>c=s) (stE st) v)∧(∀v,nth l v false=true→nth (seen.set s.toNat true) v false=false→ ∀z∈nth st v [],nth l z.toNat false=true))
        (fun j l hj ⟨a1,a2,a3,a4,a5⟩=>by
          have hz:=mem_at (0:Int) hj
          have hzr:=hst _ _ hz
          have hle:=uns_le (by rw [List.length_set];omega) a2
          obtain ⟨r,b1,b2⟩:=ih (nth (nth st s.toNat []) j 0) l hzr.1 hzr.2 a1 (by omega)
          refine .inl ⟨r,?_,b2.len,a2.trans b2.le,fun i hi=> ?_,fun v hv=> ?_,fun v hv hf z hz'=> ?_⟩
          · show Az_ st s (By_ k) l j=_
            unfold Az_
            rw [iteO_dt (by omega),b1];rfl
          · by_cases hij:i=j
            · subst hij;exact b2.at'
            exact b2.le _ (a3 i (by omega))
          · rcases b2.out v hv with h|h
            · exact a4 v h
            exact .inr (h.trans (.step (.base rfl) ⟨h0,hz⟩))
          cases hlv:nth l v false with
          |true=>exact b2.le _ (a5 v hlv hf z hz')
          |false=>exact b2.cl v hv hlv z hz')
        (fun l hI=>⟨l,by
          show Az_ st s (By_ k) l _=_
          unfold Az_
          rw [iteO_df (by omega)];rfl,hI⟩)
        (s0:=seen.set s.toNat true) ⟨by rw [List.length_set];exact hn,Le.rfl' _,fun i hi=>by omega,fun v hv=> .inl hv,fun v hv hf=>by rw [hv]at hf;cases hf⟩
      refine ⟨r,h2,h3,(le_set _ hlt).trans h4,h4 _ hat,fun v hv=> ?_,fun v hv hf z hz=> ?_⟩
      · rcases h6 v hv with h|h
        · rcases hor v h with h|h
          · exact .inl h
          exact .inr (.base (by omega))
        exact .inr h
      cases hsv:nth (seen.set s.toNat true) v false with
      |true=>
        rcases hor v hsv with h|h
        · rw [h]at hf;cases hf
        subst h
        obtain ⟨i,hi,e⟩:=mem_nth (d:=(0:Int)) hz
        have:=h5 i hi
        rw [e]at this;exact this
      |false=>exact h7 v hv hsv z hz
theorem reach_ok {st : List (List Int)} {n : Nat} {tips : List Tip} (hn : n ≤ 1024) (hl : st.length = n) (hst : ∀ a, ∀ z ∈ nth st a [], 0 ≤ z ∧ z < n) (ht : ∀ x ∈ tips, 0 ≤ x.state ∧ x.state < n) :
    ∃r,Ea_ tips st=some r∧r.length=n∧ ∀v:Nat,nth r v false=true↔Rch (fun c=> ∃x∈tips,x.state=c) (stE st) v:=by
  unfold Ea_
  rw [grd_mk (by omega)]
  obtain ⟨r,h1,h2,h3,h4,h5⟩:=iter_up (step:=fun q:List Bool×Nat=>Bf_ tips st q.1 q.2) (fun (l:List Bool) j=>(l,j)) tips.length
    (fun j l=>l.length=n∧(∀i,i<j→nth l (nth tips i Tip.zero).state.toNat false=true)∧(∀v:Nat,nth l v false=true→Rch (fun c=> ∃x∈tips,x.state=c) (stE st) v)∧(∀v,nth l v false=true→ ∀z∈nth st v [],nth l z.toNat false=true))
    (fun l=>l.length=n∧(∀i,i<tips.length→nth l (nth tips i Tip.zero).state.toNat false=true)∧(∀v:Nat,nth l v false=true→Rch (fun c=> ∃x∈tips,x.state=c) (stE st) v)∧(∀v,nth l v false=true→ ∀z∈nth st v [],nth l z.toNat false=true))
    (fun j l hj ⟨a1,a2,a3,a4⟩=>by
      have hz:=mem_at Tip.zero hj
      have hzr:=ht _ hz
      have:=uns_len l
      obtain ⟨r,b1,b2⟩:=visit_ok hl hst (l.length+1) (nth tips j Tip.zero).state l hzr.1 hzr.2 a1 (by omega)
      refine .inl ⟨r,?_,b2.len,fun i hi=> ?_,fun v hv=> ?_,fun v hv z hz'=> ?_⟩
      · show Bf_ tips st l j=_
        unfold Bf_
        rw [iteO_dt (by omega),b1];rfl
      · by_cases hij:i=j
        · subst hij;exact b2.at'
        exact b2.le _ (a2 i (by omega))
      · rcases b2.out v hv with h|h
        · exact a3 v h
        exact h.trans (.base ⟨_,hz,rfl⟩)
      cases hlv:nth l v false with
      |true=>exact b2.le _ (a4 v hlv z hz')
      |false=>exact b2.cl v hv hlv z hz')
    (fun l hI=>⟨l,by
      show Bf_ tips st l _=_
      unfold Bf_
      rw [iteO_df (by omega)];rfl,hI⟩)
    (s0:=List.replicate st.length false) ⟨by rw [List.length_replicate];exact hl,fun i hi=>by omega,fun v hv=>(by rw [nth_rep]at hv;cases hv),fun v hv=>(by rw [nth_rep]at hv;cases hv)⟩
  refine ⟨r,h1,h2,fun v=>⟨h4 v,fun hv=> ?_⟩⟩
  have: ∀c:Int,Rch (fun c=> ∃x∈tips,x.state=c) (stE st) c→nth r c.toNat false=true:=fun c hc=>by
    induction hc with
    |base h=>
      obtain ⟨x,hx,rfl⟩:=h
      obtain ⟨i,hi,e⟩:=mem_nth (d:=Tip.zero) hx
      have:=h3 i hi
      rw [e]at this;exact this
    |step _ e ih=>exact h5 _ ih _ e.2
  have:=this v hv
  simpa using this
end Go.Proofs.YtnpbfjdpglfdkaaGreatDoor
end

noncomputable section
namespace Go.Proofs.YtnpbfjdpglfdkaaGreatDoor
open Go Go.E
section
variable {S α:Type}
end
structure ArcsOk (arcs:List (List Arc)):Prop where
  out: ∀i, ∀x∈nth arcs i [],x.out.length≤1000000
structure LagOk (n:Nat) (l:TLag):Prop where
  p:0≤l.p∧l.p<n
  q:0≤l.q∧l.q<n
  a:l.a.length≤100000000
  b:l.b.length≤100000000
section
variable {Sy:Type} {Y:Sy→TLag→Option (Sy×Bool)} (w:Walk) (hw:ArcsOk w.arcs) (row:List TLag) (hr: ∀l∈row,LagOk w.arcs.length l) (i:Nat) (hi:i<row.length)
include hw hr hi
end
end Go.Proofs.YtnpbfjdpglfdkaaGreatDoor
end

noncomputable section
namespace Go.Proofs.YtnpbfjdpglfdkaaGreatDoor
open Go Go.E
end Go.Proofs.YtnpbfjdpglfdkaaGreatDoor
end

noncomputable section
namespace Go.Proofs.YtnpbfjdpglfdkaaGreatDoor
open Go Go.E
end Go.Proofs.YtnpbfjdpglfdkaaGreatDoor
end

noncomputable section
namespace Go.Proofs.YtnpbfjdpglfdkaaGreatDoor
open Go Go.E
end Go.Proofs.YtnpbfjdpglfdkaaGreatDoor
end

noncomputable section
namespace Go.E
open Go
structure Dfa where
  cls:List Int
  next:List (List Int)
  fin:List Bool
def Dfa.zero:Dfa:=⟨[],[],[]⟩
structure DfaP where
  a1:Option Addr
  c1:Nat
  a2:Option Addr
  c2:Nat
  a3:Option Addr
  c3:Nat
def DfaP.zero:DfaP:=⟨none,0,none,0,none,0⟩
structure RDfa (σ:Store) (x:Dfa) (p:DfaP):Prop where
  c:RS σ 1 eI_ (.slice p.a1 x.cls.length p.c1) x.cls
  n:RZ σ (pkSl 1 eI_ eIl_) (.slice p.a2 x.next.length p.c2) x.next
  e:RS σ 1 encB (.slice p.a3 x.fin.length p.c3) x.fin
end Go.E
end

noncomputable section
namespace Go.E
open Go
def GT{α:Type}(σ:Store)(g:Nat)(enc:α→List Value)(l:List α):Prop:= ∃E,σ g=some (.cells (l.flatMap enc).toArray E)
theorem GT.mono{α:Type}{σ τ:Store}{g:Nat}{enc:α→List Value}{l:List α}(h:GT σ g enc l)(hle:σ.le τ):GT τ g enc l:=let ⟨E,h⟩:=h;⟨E,hle _ _ h⟩
theorem flat_one{α:Type}{enc:α→List Value}(hl: ∀x,(enc x).length=1)(d:α): ∀(l:List α) (i:Nat),i<l.length→(l.flatMap enc)[i]? =(enc (nth l i d))[0]?
  |[],i,h=>by simp at h
  |x::l,0,_=>by
    have:=hl x
    rw [List.flatMap_cons,List.getElem?_append_left (by omega)]
    simp [nth]
  |x::l,i+1,h=>by
    have h1:=hl x
    rw [List.flatMap_cons,List.getElem?_append_right (by omega),h1,Nat.add_sub_cancel,flat_one hl d l i (by simpa using h)]
    simp [nth]
theorem OpVal.loadG1{P:Program}{n:Nat}{e:Env}{H:List Res}{o:Oper}{x:Operand}{α:Type}{T g i:Nat}{enc:α→List Value}{l:List α}{v:Value}(d:α)(ho:o.op= .load T x)(hA:aggOf P T=some false)(hx:ev e x=loc g (0+i * 1))(hG:GT σ g enc l)(hi:i<l.length)(hl: ∀x,(enc x).length=1)(hv:enc (nth l i d)=[v]):OpVal P n o e σ H v:=fun w hw=>by
  obtain ⟨E,hE⟩:=hG
  have h1:=hw.1 _ _ hE
  have hc:w.cell? ⟨g,0+i * 1,none⟩=some v:=by
    have h2:=flat_one hl d l i hi
    rw [hv]at h2
    simp only [World.cell?,h1,Option.isSome_none,Bool.false_eq_true,if_false,Nat.zero_add,Nat.mul_one,List.getElem?_toArray]
    rw [h2];rfl
  rw [Nat.zero_add,Nat.mul_one]at hc hx
  simp [execOp,ho,hx,Instr.loadAt,Instr.sureAddr,loc,run_loadVar_one hA hc]
theorem OpVal.negW{P:Program}{n:Nat}{e:Env}{H:List Res}{o:Oper}{x:Operand}{T:TypeId}{k:IntKind}{a:Int}(ho:o.op= .unOp .neg T x)(hx:ev e x= .int k a):OpVal P n o e σ H (.int k (k.wrap (-a))):=fun w _=>by
  simp [execOp,ho,hx,Op.unary,Op.intArith]
theorem OpVal.negU{P:Program}{n:Nat}{e:Env}{H:List Res}{o:Oper}{x:Operand}{T:TypeId}{a:Nat}(ho:o.op= .unOp .neg T x)(hx:ev e x= .int .u64 (a:Nat)):OpVal P n o e σ H (.int .u64 ((u64of (-(a:Int)):Nat):Int)):=by
  rw [u64of_val];exact OpVal.negW ho hx
theorem OpVal.indexSet{P:Program}{n:Nat}{e:Env}{H:List Res}{o:Oper}{x y:Operand}{T E i:Nat}{k:IntKind}{s:BSet}(ho:o.op= .index T x y)(ht:P.underlying T=some (.array 4 E))(hz:szOf P E=some 1)(hA:aggOf P E=some false)(hx:ev e x=setV s)(hy:ev e y= .int k (i:Nat))(hi:i<4):
    OpVal P n o e σ H (.int .u64 ((s.word i:Nat):Int)):=fun w _=>by
  have h1:=setA_get s hi
  simp [execOp,ho,hx,hy,setV,Instr.index,asIntOf,run_underlying ht,run_sizeOf hz,part,run_isAgg hA,h1]
  omega
def deB:List UInt8:=[0,1,56,2,57,49,28,3,61,58,42,50,38,29,17,4,62,47,59,36,45,43,51,22,53,39,33,30,24,18,12,5,63,55,48,27,60,41,37,16,46,35,44,21,52,32,23,11,54,26,40,15,34,20,31,10,25,14,19,9,13,8,7,6]
end Go.E
end

noncomputable section
namespace Go.Proofs.YtnpbfjdpglfdkaaGreatDoor
open Go Go.E Go.E.OpVal Go.E.OpOk Go.Proofs.Tryz
theorem ag80:aggOf Tryz.prog 80=some false:=by kernel_rfl
theorem by57:byOf Tryz.prog 57=some 32:=by kernel_rfl
theorem fo31_0:foOf Tryz.prog 31 0=some 0:=by kernel_rfl
theorem fo31_1:foOf Tryz.prog 31 1=some 1:=by kernel_rfl
theorem fo31_2:foOf Tryz.prog 31 2=some 2:=by kernel_rfl
theorem pf20:plainF Tryz.prog 20=true:=by kernel_rfl
theorem pf66:plainF Tryz.prog 66=true:=by kernel_rfl
theorem pf67:plainF Tryz.prog 67=true:=by kernel_rfl
theorem pf68:plainF Tryz.prog 68=true:=by kernel_rfl
theorem pf74:plainF Tryz.prog 74=true:=by kernel_rfl
theorem pf92:plainF Tryz.prog 92=true:=by kernel_rfl
def Ae_(x0:Nat):Option (Int):=
 iteO (decide (x0=0)) (some 64) (grd ((u64shr (u64mul (u64and x0 (u64of (-((x0:Nat):Int)))) 285870213051353865) 58)<64) (some (((nth deB (u64shr (u64mul (u64and x0 (u64of (-((x0:Nat):Int)))) 285870213051353865) 58) (0:UInt8)).toNat:Nat):Int)))
theorem F1_{x0:Nat}(hgl:GT σ 1 encU8 deB){r:Int}(hh:Ae_ x0=some r):
  Con Tryz.prog 92 #[.int .u64 ((x0:Nat):Int)] σ [] (PureP (.int .i64 r) σ):=by
 dsimp only [Ae_]at hh
 refine Con.mk (n:=14) Tryz.func92 z z z (fun w0=> ?_)
 refine TC.a (TL.i z z (TL.en (TC.seq (TC.a (TL.i z z (TL.w z (eqlU z z z) (TL.en (TC.cD z hh (fun h101 hh=> ?_) (fun h101 hh=> ?_)))))))))
 ·refine TC.a (TL.i z z (TL.en (TC.ret (S.r ?_))))
  obtain rfl:=so hh
  exact rq [2] ⟨z,z,z⟩
 refine TC.skip (S.n (TC.a (TL.i z z (TL.i z z (TL.w z (negU z z) (TL.w z (andU z z z) (TL.w z (mulU (b:=285870213051353865) z z z) (TL.w z (shrU (b:=58) z z z) ?_))))))))
 have u11:=grd_c hh
 replace hh:=grd_t hh
 refine TL.w z (indexArrN z underlying182 sz5 z z (by omega)) (TL.w z (loadG1 (0:UInt8) z ag5 z hgl (by simp only [deB,List.length_cons,List.length_nil];omega) encU8_len z) (TL.w z (convN z underlying5 underlying3 z (by have:=UInt8.toNat_lt (nth deB (u64shr (u64mul (u64and x0 (u64of (-((x0:Nat):Int)))) 285870213051353865) 58) (0:UInt8));simp only [kmax];omega)) (TL.i z z (TL.en (TC.ret ?_)))))
 obtain rfl:=so hh
 exact rq [2] ⟨z,z,z⟩
def Ah_(x0:BSet)(k105:Nat):Option ((Nat)⊕(UInt8×Bool)):=
 iteO (decide (((k105:Nat):Int)<4)) (grd (k105<4) (iteO (decide ((BSet.word x0 k105)≠0)) (bnd (Ae_ (BSet.word x0 k105)) (fun v16=>fin (some ((toU8 (IntKind.i64.wrap ((IntKind.i64.wrap (64 * ((k105:Nat):Int)))+v16))),true)))) (nxt (k105+1)))) (fin (some ((0:UInt8),false)))
def Ci_(x0:BSet):Option (UInt8×Bool):=
 iter (fun q:Nat=>Ah_ x0 q) 0
theorem H7_{x0:BSet}(hgl:GT σ 1 encU8 deB){r:UInt8×Bool}(hh:Ci_ x0=some r):
  Con Tryz.prog 68 #[setV x0] σ [] (PureP (.tuple #[.int .u8 ((r.1.toNat:Nat):Int),.bool r.2]) σ):=by
 dsimp only [Ci_]at hh
 refine Con.mk (n:=20) Tryz.func68 z z z (fun w0=> ?_)
 refine TC.a (TL.op z (boxA z z z z (fun b101=> ?_)))
 refine TL.i z z (TL.j z z (TL.en (TC.seq (TC.a (TL.w z (loadAll z ag57 sz57 z (i:=0) z z) (TL.i z z (TL.en (TC.block (TC.loopG (α:=(Nat)×(Unit)) (rgs [(2,4),(7,13)]) (fun g=>[(7,.int .i64 ((g.1:Nat):Int))]) (fun g=>[]) (fun g=>σ) (fun g=>iter (fun q:Nat=>Ah_ x0 q) g.1=some r) (fun g=>rounds (fun q:Nat=>Ah_ x0 q) g.1) (0,()) (Sub.pre 0 z) z (by repeat (first|exact trivial|refine ⟨z,?_⟩)) hh (fun g1 j1 hg1=> ?_))))))))))
 obtain ⟨k105,_⟩:=g1
 have hh:=hg1;clear hg1
 try dsimp only
 obtain ⟨z1,hh,hR1⟩:=iter_e hh
 dsimp only [Ah_]at hh
 refine TC.a (TL.w z (OpVal.lss z z z) (TL.en (TC.seq (TC.cD z hh (fun h106 hh=> ?_) (fun h106 hh=> ?_)))))
 ·refine TC.skip (S.n (TC.seq (TC.block (TC.a (TL.i z z ?_)))))
  have u8:=grd_c hh
  replace hh:=grd_t hh
  refine TL.w z (indexSet z underlying57 sz55 ag55 z z (by omega)) (TL.i z z (TL.i z z (TL.en (TC.a (TL.i z z (TL.w z (neqU z z z) (TL.en (TC.cD z hh (fun h107 hh=> ?_) (fun h107 hh=> ?_)))))))))
  ·refine TC.a (TL.i z z (TL.w z (mulW z z z) (TL.i z z ?_)))
   obtain ⟨v16,u16,hh⟩:=bnd_e hh
   refine TL.op z (callP (F1_ hgl u16) z z pf92 z z z ?_)
   refine TL.w z (addW z z z) (TL.w z (convU8 z underlying3 underlying5 z) (TL.i z z (TL.j z z (TL.en (TC.ret (B.r (S.r (S.r ?_))))))))
   replace hh:=fin_x hR1 hh
   refine B.r (S.r ?_)
   obtain rfl:=so hh
   exact rq [2,3] ⟨z,z,z⟩
  refine TC.skip (B.n (S.n (TC.region (TL.w z (OpVal.succ z z z (by omega)) (TL.i z z (TL.en ?_))))))
  obtain ⟨hh,hlt108⟩:=nxt_x hR1 hh
  exact lf ((k105+1),()) hlt108 hh (Sub.pre 0 z)
 refine TC.exit (S.x (S.x ?_))
 replace hh:=fin_x hR1 hh
 refine TC.exitHere (S.n (TC.a (TL.i z z (TL.j z z (TL.en (TC.ret ?_))))))
 obtain rfl:=so hh
 exact rq [2,3] ⟨z,z,z⟩
def Cc_(x1:BSet)(z111:BSet)(k112:Nat):Option ((BSet×Nat)⊕(BSet)):=
 iteO (decide (((k112:Nat):Int)<4)) (grd (k112<4) (grd (k112<4) (grd (k112<4) (grd ((u64or (BSet.word z111 k112) (BSet.word x1 k112))<18446744073709551616) (nxt ((BSet.setWord z111 k112 (u64or (BSet.word z111 k112) (BSet.word x1 k112))),(k112+1))))))) (fin (some z111))
def Ec_(x0:BSet)(x1:BSet):Option (BSet):=
 iter (fun q:BSet×Nat=>Cc_ x1 q.1 q.2) (x0,0)
theorem Hn_{x0:BSet}{x1:BSet}{r:BSet}(hh:Ec_ x0 x1=some r):
  Con Tryz.prog 67 #[setV x0,setV x1] σ [] (PureP (setV r) σ):=by
 dsimp only [Ec_]at hh
 refine Con.mk (n:=19) Tryz.func67 z z z (fun w0=> ?_)
 refine TC.a (TL.op z (boxA z z z z (fun b101=> ?_)))
 refine TL.op z (boxA z z z z (fun b103=> ?_))
 refine TL.op z (OpOk.alloc z ze57 z z (fun b105=> ?_))
 refine TL.en (TC.seq (TC.a (TL.i z z (TL.en (TC.block (TC.loopG (α:=(BSet×Nat)×(Unit)) (rgs [(5,13)]) (fun g=>[(6,.int .i64 ((g.1.2:Nat):Int))]) (fun g=>[Res.cells b101 (setA g.1.1) 57,Res.cells b103 (setA x1) 57,Res.cells b105 (setA BSet.zero) 57]) (fun g=>σ) (fun g=>iter (fun q:BSet×Nat=>Cc_ x1 q.1 q.2) g.1=some r) (fun g=>rounds (fun q:BSet×Nat=>Cc_ x1 q.1 q.2) g.1) ((x0,0),()) (Sub.f [1,2] 3) z (by repeat (first|exact trivial|refine ⟨z,?_⟩)) hh (fun g1 j1 hg1=> ?_)))))))
 obtain ⟨⟨z111,k112⟩,_⟩:=g1
 have hh:=hg1;clear hg1
 try dsimp only
 obtain ⟨z1,hh,hR1⟩:=iter_e hh
 dsimp only [Cc_]at hh
 refine TC.a (TL.w z (OpVal.lss z z z) (TL.en (TC.seq (TC.cD z hh (fun h113 hh=> ?_) (fun h113 hh=> ?_)))))
 ·refine TC.skip (S.n (TC.seq (TC.block (TC.a (TL.i z z (TL.i z z (TL.en ?_)))))))
  have u9:=grd_c hh
  replace hh:=grd_t hh
  have u12:=grd_c hh
  replace hh:=grd_t hh
  have u15:=grd_c hh
  replace hh:=grd_t hh
  have u16:=grd_c hh
  replace hh:=grd_t hh
  refine TC.draw [8] (by kernel_rfl) (TA.a 0 z (moveI (.inl z) z) z (TA.b 1 z (indexArrN z underlying57 sz55 z z (by omega)) z (TA.b 2 z (loadWordAt z111 z ag55 z (j:=0) z (by omega) z) z (TA.a 3 z (moveI (.inl z) z) z (TA.b 4 z (indexArrN z underlying57 sz55 z z (by omega)) z (TA.b 5 z (loadWordAt x1 z ag55 z (j:=1) z (by omega) z) z (TA.a 6 z (orU z z z) z (TA.b 7 z (indexArrN z underlying57 sz55 z z (by omega)) z (TA.last 8 (by kernel_rfl) z z z (storeWord z sz55 z z z (by omega) u16 ?_))))))))))
  refine TZ.done (by kernel_rfl) (B.n (S.n (TC.region (TL.w z (OpVal.succ z z z (by omega)) (TL.i z z (TL.en ?_))))))
  obtain ⟨hh,hlt114⟩:=nxt_x hR1 hh
  exact lf (((BSet.setWord z111 k112 (u64or (BSet.word z111 k112) (BSet.word x1 k112))),(k112+1)),()) hlt114 hh (Sub.f [2,2,2] 3)
 refine TC.exit (S.x (S.x ?_))
 replace hh:=fin_x hR1 hh
 refine TC.exitHere (S.n (TC.a (TL.w z (loadAll z ag57 sz57 z (i:=0) z z) (TL.front 2 z z (TL.op z (storeAll z sz57 z z z z z z ?_))))))
 refine TL.en (TC.rt 1 ?_)
 obtain rfl:=so hh
 exact ro [] z (RVs.agg ag57 sz57 z (i:=0) z z RVs.nil) ⟨z,z,z⟩
def Dk_(k112:Nat)(l115:List UInt8):Option (((List UInt8)×Nat)⊕((List UInt8))):=
 nxt (l115,(k112+1))
def Bu_(x0:List BSet)(x1:UInt8)(l110:List UInt8)(k112:Nat):Option (((List UInt8)×Nat)⊕((List UInt8))):=
 iteO (decide (((k112:Nat):Int)<((x0.length:Nat):Int))) (iteO ((nth x0 k112 BSet.zero).has x1.toNat) (grd (k112<l110.length) (Dk_ k112 (l110.set k112 (1:UInt8)))) (Dk_ k112 l110)) (fin (some l110))
def Fd_(x0:List BSet)(x1:UInt8):Option ((List UInt8)):=
 grd (1 * x0.length≤281474976710656) (iter (fun q:(List UInt8)×Nat=>Bu_ x0 x1 q.1 q.2) ((List.replicate x0.length (0:UInt8)),0))
theorem Ja_{x0:List BSet}{x1:UInt8}(f0_0:RS σ 4 encSet (.slice a0_0 x0.length c0_0) x0){r:(List UInt8)}(hh:Fd_ x0 x1=some r):
  Con Tryz.prog 66 #[.slice a0_0 x0.length c0_0,.int .u8 ((x1.toNat:Nat):Int)] σ [] (PureP (.string (bs r)) σ):=by
 dsimp only [Fd_]at hh
 have f0_0b:=f0_0.rv.big
 refine Con.mk (n:=27) Tryz.func66 z z z (fun w0=> ?_)
 refine TC.a (TL.w z (moveStr (.inr z) z) (TL.en (TC.a (TL.s z z (TL.w z (lenC z underlying80 z) ?_)))))
 have u4:=grd_c hh
 replace hh:=grd_t hh
 refine TL.op z (makeS2 (enc:=encU8) (0:UInt8) z underlying105 sz5 by5 ze5 z z z z (by omega) (by decide) encU8_len (by decide) z encU8_one (fun a101 c102=> ?_))
 refine TL.s z z (TL.en (TC.seq (TC.a (TL.s z z (TL.w z (lenC z underlying80 z) (TL.i z z (TL.en (TC.block (TC.loopG (α:=((List UInt8)×Nat)×(Unit)) (rgs [(6,2),(13,12)]) (fun g=>[(13,.int .i64 ((g.1.2:Nat):Int))]) (fun g=>[Res.rowS 5 1 encU8 (.slice a101 (List.replicate x0.length (0:UInt8)).length c102) g.1.1]) (fun g=>σ) (fun g=>iter (fun q:(List UInt8)×Nat=>Bu_ x0 x1 q.1 q.2) g.1=some r∧g.1.1.length=(List.replicate x0.length (0:UInt8)).length) (fun g=>rounds (fun q:(List UInt8)×Nat=>Bu_ x0 x1 q.1 q.2) g.1) (((List.replicate x0.length (0:UInt8)),0),()) (Sub.pre 1 z) z (by repeat (first|exact trivial|refine ⟨z,?_⟩)) ⟨hh,z⟩ (fun g1 j1 hg1=> ?_))))))))))
 obtain ⟨⟨l110,k112⟩,_⟩:=g1
 obtain ⟨hh,hn111⟩:=hg1
 try dsimp only at hn111 ⊢
 obtain ⟨z1,hh,hR1⟩:=iter_e hh
 dsimp only [Bu_]at hh
 have hn111b:=hn111
 refine TC.isSl (i:=0) z (fun _ hb113 _=> ?_)
 refine TC.a (TL.w z (OpVal.lss z z z) (TL.en (TC.seq (TC.cD z hh (fun h114 hh=> ?_) (fun h114 hh=> ?_)))))
 ·refine TC.skip (S.n (TC.cutG (α:=((List UInt8))×(Unit)) (rgs [(6,2),(15,9)]) (fun g=>[]) (fun g=>[Res.rowS 5 1 encU8 (.slice a101 (List.replicate x0.length (0:UInt8)).length c102) g.1]) (fun g=>σ) (fun g=>Dk_ k112 g.1=some z1∧g.1.length=(List.replicate x0.length (0:UInt8)).length) ?_ (fun g j hg=> ?_)))
  ·skip
   refine TC.block (TC.a (TL.i z z (TL.w z (indexN z underlying80 sz57 z z f0_0.rv.sl (by omega)) (TL.w z (loadSA BSet.zero z ag57 sz57 z f0_0 (by omega) (by omega)) (TL.op z (OpOk.alloc z ze57 z z (fun b117=> ?_)))))))
   refine TL.i z z (TL.op z (storeAll z sz57 z z z z z z ?_))
   refine TL.en (TC.a (TL.w z (loadAll z ag57 sz57 z (i:=0) z z) (TL.i z z (TL.op z (callP (has_con _ (nth x0 k112 BSet.zero) x1.toNat (BSet.isOk _) (UInt8.toNat_lt _)) z z pf43 z z z ?_)))))
   refine TL.en (TC.cB z hh (fun h119 hh=> ?_) (fun h119 hh=> ?_))
   ·refine TC.region (TL.s z z (TL.i z z ?_))
    have u21:=grd_c hh
    replace hh:=grd_t hh
    refine TL.isSl (i:=1) z (fun hs120 _ _=> ?_)
    refine TL.w z (indexN z underlying105 sz5 z z hs120 (by omega)) (TL.front 1 z z ?_)
    have hn121:(l110.set k112 (1:UInt8)).length=(List.replicate x0.length (0:UInt8)).length:=by rw [List.length_set];exact hn111
    refine TL.op z (storeS (1:UInt8) z sz5 z z z z encU8_len encU8_one (by omega) (by omega) ?_)
    exact TL.nil (B.n (S.n (cf ((l110.set k112 (1:UInt8)),()) ⟨hh,hn121⟩ (Sub.pre 1 z))))
   exact TC.skip (B.n (S.n (cf (l110,()) ⟨hh,hn111⟩ (Sub.f [1] 1))))
  skip
  obtain ⟨l115,_⟩:=g
  obtain ⟨hh,hn116⟩:=hg
  try dsimp only at hn116 ⊢
  dsimp only [Dk_]at hh
  have hn116b:=hn116
  refine TC.isSl (i:=0) z (fun _ hb122 _=> ?_)
  refine TC.region (TL.w z (OpVal.succ z z z (by omega)) (TL.i z z (TL.en ?_)))
  obtain ⟨hh,hlt123⟩:=nxt_x hR1 hh
  exact lf ((l115,(k112+1)),()) hlt123 ⟨hh,hn116⟩ (Sub.pre 1 z)
 refine TC.exit (S.x (S.x ?_))
 replace hh:=fin_x hR1 hh
 refine TC.exitHere (S.n (TC.a (TL.s z z (TL.isSl (i:=0) z (fun hs124 _ _=> ?_)))))
 refine TL.w z (bytesStr (l:=l110) z underlying105 underlying5 underlying9 z hs124 (fun w hw=>rdb_row (q:=0) z hw)) (TL.w z (moveStr (.inr z) z) (TL.en (TC.rt 0 ?_)))
 obtain rfl:=so hh
 exact rq [4] ⟨z,z,z⟩
def Cg_(k121:Nat)(m125:FM (List UInt8) Int)(l126:List BSet)(i129:Int):Option (((FM (List UInt8) Int)×(List BSet)×Nat)⊕((List BSet)×Int)):=
 grd (0≤i129∧i129<(l126.length:Int)) (grd ([(toU8 ((k121:Nat):Int))].length≤1000000000000) (bnd (Ec_ (nth l126 i129.toNat BSet.zero) (BSet.ofL [(toU8 ((k121:Nat):Int))])) (fun v52=>grd (0≤i129∧i129<(l126.length:Int)) (nxt (m125,(l126.set i129.toNat v52),(k121+1))))))
def A5_(x0:List BSet)(m116:FM (List UInt8) Int)(l118:List BSet)(k121:Nat):Option (((FM (List UInt8) Int)×(List BSet)×Nat)⊕((List BSet)×Int)):=
 iteO (decide (((k121:Nat):Int)<256)) (bnd (Fd_ x0 (toU8 ((k121:Nat):Int))) (fun v18=>iteO (!(m116.has v18)) (grd ((l118.length+[BSet.zero].length) * 32≤140737488355328) (Cg_ k121 (m116.put v18 ((l118.length:Nat):Int)) (l118++[BSet.zero]) ((l118.length:Nat):Int))) (Cg_ k121 m116 l118 (m116.get v18 0)))) (fin (some (l118,0)))
def D1_(x0:List BSet):Option ((List BSet)×Int):=
 iteO (decide (1024<((x0.length:Nat):Int))) (some (([]:List BSet),2)) (iter (fun q:(FM (List UInt8) Int)×(List BSet)×Nat=>A5_ x0 q.1 q.2.1 q.2.2) ((FM.emp:FM (List UInt8) Int),([]:List BSet),0))
def Jf_(σ:Store)(r:(List BSet)×Int):Value→Store→List Res→Prop:=fun v σ' H'=>
 ∃a1 c1,v= .tuple #[.slice a1 r.1.length c1,.int .i64 r.2]∧RS σ' 4 encSet (.slice a1 r.1.length c1) r.1∧H'=[]
theorem Is_{x0:List BSet}(f0_0:RS σ 4 encSet (.slice a0_0 x0.length c0_0) x0){r:(List BSet)×Int}(hh:D1_ x0=some r):
  Con Tryz.prog 28 #[.slice a0_0 x0.length c0_0] σ [] (Jf_ σ r):=by
 dsimp only [D1_]at hh
 have f0_0b:=f0_0.rv.big
 refine Con.mk (n:=52) Tryz.func28 z z z (fun w0=> ?_)
 refine TC.a (TL.s z z (TL.i z z (TL.en (TC.seq (TC.a (TL.s z z (TL.w z (lenC z underlying80 z) (TL.w z (OpVal.gtr z z z) (TL.en (TC.cD z hh (fun h101 hh=> ?_) (fun h101 hh=> ?_)))))))))))
 ·refine TC.a (TL.s z z (TL.i z z (TL.en (TC.ret (S.r ?_)))))
  obtain rfl:=so hh
  exact rq [2,3] ⟨none,0,z,(RS.nilF _ encSet encSet_len),z⟩
 refine TC.skip (S.n (TC.a (TL.op z (makeMapB (enc:=keyS) (encV:=keyI) z z z (fun b102=> ?_)))))
 refine TL.w z (moveMap (.inr z) z) (TL.en (TC.a (TL.s z z (TL.en (TC.seq (TC.a (TL.i z z (TL.en (TC.block (TC.nilS 57 4 encSet (TC.loopG (α:=((FM (List UInt8) Int)×(List BSet)×Nat)×((Option Addr)×Nat)) (rgs [(5,5),(14,37)]) (fun g=>[(5,.slice g.2.1 g.1.2.1.length g.2.2),(14,.int .i64 ((g.1.2.2:Nat):Int))]) (fun g=>[Res.mapB keyS keyI (some b102) g.1.1,Res.rowS 57 4 encSet (.slice g.2.1 g.1.2.1.length g.2.2) g.1.2.1]) (fun g=>σ) (fun g=>iter (fun q:(FM (List UInt8) Int)×(List BSet)×Nat=>A5_ x0 q.1 q.2.1 q.2.2) g.1=some r) (fun g=>rounds (fun q:(FM (List UInt8) Int)×(List BSet)×Nat=>A5_ x0 q.1 q.2.1 q.2.2) g.1) (((FM.emp:FM (List UInt8) Int),([]:List BSet),0),(none,0)) (Sub.f [1] 2) z (by repeat (first|exact trivial|refine ⟨z,?_⟩)) hh (fun g1 j1 hg1=> ?_))))))))))))
 obtain ⟨⟨m116,l118,k121⟩,⟨a119,c120⟩⟩:=g1
 have hh:=hg1;clear hg1
 try dsimp only
 obtain ⟨z1,hh,hR1⟩:=iter_e hh
 dsimp only [A5_]at hh
 refine TC.isSl (i:=1) z (fun _ hb123 _=> ?_)
 refine TC.a (TL.w z (OpVal.lss z z z) (TL.en (TC.seq (TC.cD z hh (fun h124 hh=> ?_) (fun h124 hh=> ?_)))))
 ·refine TC.skip (S.n (TC.seq (TC.block (TC.a (TL.i z z (TL.i z z (TL.en (TC.a (TL.s z z (TL.i z z (TL.w z (convU8 z underlying3 underlying5 z) ?_)))))))))))
  obtain ⟨v18,u18,hh⟩:=bnd_e hh
  refine TL.op z (callP (Ja_ f0_0 u18) z z pf66 z z z ?_)
  refine TL.w z (moveStr (.inr z) z) (TL.en (TC.a (TL.w z (moveMap (.inl z) z) (TL.w z (moveStr (.inl z) z) (TL.w z (OpVal.of (lookB 0 (q:=v18) z underlying130 ze3 z (i:=0) z z (keyL_str underlying9)) (v':= .tuple #[.int .i64 (m116.get v18 0),.bool (m116.has v18)]) z) (TL.w z (moveT (.inl z) z) (TL.w z (OpVal.extract z z z) (TL.w z (OpVal.extract z z z) (TL.i z z (TL.j z z (TL.en (TC.cutG (α:=((FM (List UInt8) Int)×(List BSet)×Int)×((Option Addr)×Nat)) (rgs [(5,1),(8,1),(27,11)]) (fun g=>[(5,.slice g.2.1 g.1.2.1.length g.2.2),(8,.int .i64 g.1.2.2)]) (fun g=>[Res.mapB keyS keyI (some b102) g.1.1,Res.rowS 57 4 encSet (.slice g.2.1 g.1.2.1.length g.2.2) g.1.2.1]) (fun g=>σ) (fun g=>Cg_ k121 g.1.1 g.1.2.1 g.1.2.2=some z1) ?_ (fun g j hg=> ?_)))))))))))))
  ·skip
   refine TC.a (TL.j z z (TL.w z (OpVal.not z z) (TL.en (TC.cB z hh (fun h130 hh=> ?_) (fun h130 hh=> ?_)))))
   ·refine TC.a (TL.s z z (TL.w z (lenC z underlying80 z) (TL.i z z (TL.en (TC.a (TL.w z (moveMap (.inl z) z) (TL.w z (moveStr (.inl z) z) (TL.i z z (TL.op z (updB v18 ((l118.length:Nat):Int) z underlying130 z z z z (keyL_str underlying9) ?_))))))))))
    refine TL.en (TC.region (TL.s z z (TL.w z (buildArrL z underlying57 sz55 ze57 z) (TL.op z (OpOk.lit (enc:=encSet) [BSet.zero] z underlying80 sz57 ze57 z z z encSet_len (by decide) (by decide) BSet.zero z (by decide) z (by decide) encSet_one (fun a131 c132=> ?_))))))
    refine TL.front 2 z z ?_
    have u40:=grd_c hh
    replace hh:=grd_t hh
    refine TL.op z (appendS z z underlying80 sz57 by57 ze57 z z (by decide) z z z (.inr ⟨_,0,z⟩) (by simpa using u40) (by decide) (fun a134 c135=> ?_))
    exact TL.s z z (TL.en (cf (((m116.put v18 ((l118.length:Nat):Int)),(l118++[BSet.zero]),((l118.length:Nat):Int)),(a134,c135)) hh (Sub.f [2] 2)))
   exact TC.skip (S.n (cf ((m116,l118,(m116.get v18 0)),(a119,c120)) hh (Sub.f [1,1] 2)))
  skip
  obtain ⟨⟨m125,l126,i129⟩,⟨a127,c128⟩⟩:=g
  have hh:=hg;clear hg
  try dsimp only
  dsimp only [Cg_]at hh
  refine TC.isSl (i:=1) z (fun _ hb136 _=> ?_)
  have u46:=grd_c hh
  replace hh:=grd_t hh
  have u51:=grd_c hh
  replace hh:=grd_t hh
  obtain ⟨v52,u52,hh⟩:=bnd_e hh
  have u53:=grd_c hh
  replace hh:=grd_t hh
  refine TC.draw [12] (by kernel_rfl) (TA.a 0 z (moveSl (.inl z) z) z (TA.a 1 z (moveI (.inl z) z) z (TA.a 2 z (moveSl (.inl z) z) z (TA.a 3 z (moveI (.inl z) z) z (TA.isSl (i:=1) z (fun hs143 _ _=> ?_))))))
  refine TA.b 4 z (OpVal.index z underlying80 sz57 z z hs143 u46.1 u46.2) z (TA.b 5 z (loadOA BSet.zero z ag57 sz57 z (q:=1) z encSet_len (by omega) (by omega)) z (TA.a 6 z (moveI (.inl z) z) z (TA.a 7 z (convU8 z underlying3 underlying5 z) z (TA.ac 8 z (OpOk.lit (enc:=encU8) [(toU8 ((k121:Nat):Int))] z underlying105 sz5 ze5 z z z encU8_len (by decide) (by decide) (0:UInt8) z (by decide) z (by decide) encU8_one (fun a144 c145=>(k1 ?_)))))))
  refine TA.ac 9 z (callT (of_con _ _ _ [(toU8 ((k121:Nat):Int))] u51) z z pf20 z z z z (k0 ?_))
  refine TA.ac 10 z (callP (Hn_ u52) z z pf67 z z z (k0 ?_))
  refine TA.isSl (i:=1) z (fun hs147 _ _=> ?_)
  refine TA.b 11 z (OpVal.index z underlying80 sz57 z z hs147 u53.1 u53.2) z (TA.front 1 z z ?_)
  have hn148:(l126.set i129.toNat v52).length=l126.length:=by rw [List.length_set]
  refine TA.last 12 (by kernel_rfl) z z z (storeS v52 z sz57 z z z z encSet_len encSet_one (by omega) (by omega) ?_)
  refine TZ.done (by kernel_rfl) (B.n (S.n (TC.region (TL.w z (OpVal.succ z z z (by omega)) (TL.i z z ?_)))))
  rw [←hn148]
  refine TL.en ?_
  obtain ⟨hh,hlt149⟩:=nxt_x hR1 hh
  exact lf ((m125,(l126.set i129.toNat v52),(k121+1)),(a127,c128)) hlt149 hh (Sub.f [1] 2)
 refine TC.exit (S.x (S.x ?_))
 replace hh:=fin_x hR1 hh
 refine TC.exitHere (S.n (TC.a (TL.s z z (TL.s z z (TL.i z z (TL.en (TC.front 1 z z (TC.sealS encSet_len (fun τ152 hle151 hr150=> ?_)))))))))
 have hr150b:=hr150.rv.big
 refine TC.rt 0 ?_
 obtain rfl:=so hh
 exact rq [2,3] ⟨a119,c120,z,hr150,z⟩
def Cu_(k146:Nat)(l149:List Int):Option (((List Int)×Nat)⊕(((List Int)×Int×Nat)⊕((List Int)×Int))):=
 nxt (l149,(k146+1))
def Ak_(x0:List BSet)(k130:Nat)(v29:UInt8×Bool)(l144:List Int)(k146:Nat):Option (((List Int)×Nat)⊕(((List Int)×Int×Nat)⊕((List Int)×Int))):=
 iteO (decide (((k146:Nat):Int)<256)) (iteO (!((nth x0 k130 BSet.zero).has (toU8 ((k146:Nat):Int)).toNat)) (Cu_ k146 l144) (grd (k146<l144.length) (iteO (decide (0≤(nth l144 k146 (0:Int)))) (fin (fin (some (([]:List Int),1)))) (grd (k146<l144.length) (Cu_ k146 (l144.set k146 ((k130:Nat):Int))))))) (fin (nxt (l144,((v29.1.toNat:Nat):Int),(k130+1))))
def Al_(l127:List Int)(k165:Nat):Option ((Nat)⊕((List Int)×Int)):=
 iteO (decide (((k165:Nat):Int)<(((List.replicate 256 (0:Int)).length:Nat):Int))) (grd (k165<l127.length) (iteO (decide ((nth l127 k165 (0:Int))<0)) (fin (some (([]:List Int),1))) (nxt (k165+1)))) (fin (some (l127,0)))
def An_(x0:List BSet)(l127:List Int)(i129:Int)(k130:Nat):Option (((List Int)×Int×Nat)⊕((List Int)×Int)):=
 iteO (decide (((k130:Nat):Int)<((x0.length:Nat):Int))) (bnd (Ci_ (nth x0 k130 BSet.zero)) (fun v29=>iteO (!v29.2) (fin (some (([]:List Int),1))) (iteO (decide (((v29.1.toNat:Nat):Int)≤i129)) (fin (some (([]:List Int),1))) (iter (fun q:(List Int)×Nat=>Ak_ x0 k130 v29 q.1 q.2) (l127,0))))) (fin (iter (fun q:Nat=>Al_ l127 q) 0))
def A6_(x0:List BSet)(l110:List Int)(k112:Nat):Option (((List Int)×Nat)⊕((List Int)×Int)):=
 iteO (decide (((k112:Nat):Int)<(((List.replicate 256 (0:Int)).length:Nat):Int))) (grd (k112<l110.length) (nxt ((l110.set k112 (-1)),(k112+1)))) (fin (iter (fun q:(List Int)×Int×Nat=>An_ x0 q.1 q.2.1 q.2.2) (l110,(-1),0)))
def Dz_(x0:List BSet):Option ((List Int)×Int):=
 iter (fun q:(List Int)×Nat=>A6_ x0 q.1 q.2) ((List.replicate 256 (0:Int)),0)
def Jk_(σ:Store)(r:(List Int)×Int):Value→Store→List Res→Prop:=fun v σ' H'=>
 ∃a1 c1,v= .tuple #[.slice a1 r.1.length c1,.int .i64 r.2]∧RS σ' 1 eI_ (.slice a1 r.1.length c1) r.1∧H'=[]
theorem Iw_{x0:List BSet}(hgl:GT σ 1 encU8 deB)(f0_0:RS σ 4 encSet (.slice a0_0 x0.length c0_0) x0){r:(List Int)×Int}(hh:Dz_ x0=some r):
  Con Tryz.prog 30 #[.slice a0_0 x0.length c0_0] σ [] (Jk_ σ r):=by
 dsimp only [Dz_]at hh
 have f0_0b:=f0_0.rv.big
 refine Con.mk (n:=75) Tryz.func30 z z z (fun w0=> ?_)
 refine TC.a (TL.s z z (TL.i z z (TL.en (TC.a (TL.op z (makeS2 (m:=256) (enc:=eI_) (0:Int) z underlying27 sz3 by3 ze3 z z z z (by omega) (by decide) eIl_ (by decide) z eIo_ (fun a101 c102=> ?_)))))))
 refine TL.s z z (TL.en (TC.seq (TC.a (TL.s z z (TL.w z (lenC z underlying27 z) (TL.i z z (TL.en (TC.block (TC.loopG (α:=((List Int)×Nat)×(Unit)) (rgs [(5,1),(17,7)]) (fun g=>[(17,.int .i64 ((g.1.2:Nat):Int))]) (fun g=>[Res.rowS 3 1 eI_ (.slice a101 (List.replicate 256 (0:Int)).length c102) g.1.1]) (fun g=>σ) (fun g=>iter (fun q:(List Int)×Nat=>A6_ x0 q.1 q.2) g.1=some r∧g.1.1.length=(List.replicate 256 (0:Int)).length) (fun g=>rounds (fun q:(List Int)×Nat=>A6_ x0 q.1 q.2) g.1) (((List.replicate 256 (0:Int)),0),()) (Sub.pre 1 z) z (by repeat (first|exact trivial|refine ⟨z,?_⟩)) ⟨hh,z⟩ (fun g1 j1 hg1=> ?_))))))))))
 obtain ⟨⟨l110,k112⟩,_⟩:=g1
 obtain ⟨hh,hn111⟩:=hg1
 try dsimp only at hn111 ⊢
 obtain ⟨z1,hh,hR1⟩:=iter_e hh
 dsimp only [A6_]at hh
 have hn111b:=hn111
 refine TC.isSl (i:=0) z (fun _ hb113 _=> ?_)
 refine TC.a (TL.w z (OpVal.lss z z z) (TL.en (TC.seq (TC.cD z hh (fun h114 hh=> ?_) (fun h114 hh=> ?_)))))
 ·refine TC.skip (S.n (TC.seq (TC.block (TC.a (TL.i z z (TL.i z z (TL.en (TC.region (TL.s z z (TL.i z z ?_))))))))))
  have u13:=grd_c hh
  replace hh:=grd_t hh
  refine TL.isSl (i:=0) z (fun hs115 _ _=> ?_)
  refine TL.w z (indexN z underlying27 sz3 z z hs115 (by omega)) ?_
  have hn116:(l110.set k112 (-1)).length=(List.replicate 256 (0:Int)).length:=by rw [List.length_set];exact hn111
  refine TL.op z (storeS (-1) z sz3 z z z z eIl_ eIo_ (by omega) (by omega) ?_)
  refine TL.nil (B.n (S.n (TC.region (TL.w z (OpVal.succ z z z (by omega)) (TL.i z z (TL.en ?_))))))
  obtain ⟨hh,hlt117⟩:=nxt_x hR1 hh
  exact lf (((l110.set k112 (-1)),(k112+1)),()) hlt117 ⟨hh,hn116⟩ (Sub.pre 1 z)
 refine TC.exit (S.x (S.x ?_))
 replace hh:=fin_x hR1 hh
 refine TC.exitHere (S.n (TC.a (TL.i z z (TL.en (TC.seq (TC.a (TL.s z z (TL.w z (lenC z underlying80 z) (TL.i z z (TL.en (TC.block (TC.loopG (α:=((List Int)×Int×Nat)×(Unit)) (rgs [(2,2),(6,6),(26,39)]) (fun g=>[(6,.int .i64 g.1.2.1),(26,.int .i64 ((g.1.2.2:Nat):Int))]) (fun g=>[Res.rowS 3 1 eI_ (.slice a101 (List.replicate 256 (0:Int)).length c102) g.1.1]) (fun g=>σ) (fun g=>iter (fun q:(List Int)×Int×Nat=>An_ x0 q.1 q.2.1 q.2.2) g.1=some r∧g.1.1.length=(List.replicate 256 (0:Int)).length) (fun g=>rounds (fun q:(List Int)×Int×Nat=>An_ x0 q.1 q.2.1 q.2.2) g.1) ((l110,(-1),0),()) (Sub.pre 1 z) z (by repeat (first|exact trivial|refine ⟨z,?_⟩)) ⟨hh,hn111⟩ (fun g2 j2 hg2=> ?_)))))))))))))
 obtain ⟨⟨l127,i129,k130⟩,_⟩:=g2
 obtain ⟨hh,hn128⟩:=hg2
 try dsimp only at hn128 ⊢
 obtain ⟨z1,hh,hR1⟩:=iter_e hh
 dsimp only [An_]at hh
 have hn128b:=hn128
 refine TC.isSl (i:=0) z (fun _ hb131 _=> ?_)
 refine TC.a (TL.w z (OpVal.lss z z z) (TL.en (TC.seq (TC.cD z hh (fun h132 hh=> ?_) (fun h132 hh=> ?_)))))
 ·refine TC.skip (S.n (TC.seq (TC.block (TC.a (TL.i z z (TL.w z (indexN z underlying80 sz57 z z f0_0.rv.sl (by omega)) (TL.w z (loadSA BSet.zero z ag57 sz57 z f0_0 (by omega) (by omega)) (TL.op z (OpOk.alloc z ze57 z z (fun b133=> ?_))))))))))
  refine TL.i z z (TL.op z (storeAll z sz57 z z z z z z ?_))
  refine TL.en (TC.a (TL.w z (loadAll z ag57 sz57 z (i:=0) z z) ?_))
  obtain ⟨v29,u29,hh⟩:=bnd_e hh
  refine TL.op z (callP (H7_ hgl u29) z z pf68 z z z ?_)
  refine TL.w z (moveT (.inl z) z) (TL.w z (OpVal.extract z z z) (TL.w z (OpVal.extract z z z) (TL.i z z (TL.j z z (TL.en (TC.seq (TC.a (TL.j z z (TL.w z (OpVal.not z z) (TL.j z z (TL.split 38 z (fun h135=> ?_) (fun h135=> ?_))))))))))))
  ·replace hh:=iteO_t h135 hh
   refine TL.f z (TL.f z (TL.f z (TL.f z (TL.w z (pickTB z z z) (TL.en (TC.t z (TC.a (TL.s z z (TL.i z z (TL.en (TC.rt 0 (S.r (B.r (S.r (S.r ?_)))))))))))))))
   replace hh:=fin_x hR1 hh
   refine B.r (S.r ?_)
   obtain rfl:=so hh
   exact rq [2,3] ⟨none,0,z,(RS.nilF _ eI_ eIl_),z⟩
  replace hh:=iteO_f h135 hh
  refine TL.g z (moveI (.inl z) z) (TL.g z (convN z underlying5 underlying3 z (by have:=UInt8.toNat_lt v29.1;simp only [kmax];omega)) (TL.g z (moveI (.inl z) z) (TL.g z (OpVal.leq z z z) (TL.w z (pickFB z z z) (TL.en (TC.cD z hh (fun h136 hh=> ?_) (fun h136 hh=> ?_)))))))
  ·refine TC.a (TL.s z z (TL.i z z (TL.en (TC.rt 0 (S.r (B.r (S.r (S.r ?_))))))))
   replace hh:=fin_x hR1 hh
   refine B.r (S.r ?_)
   obtain rfl:=so hh
   exact rq [2,3] ⟨none,0,z,(RS.nilF _ eI_ eIl_),z⟩
  refine TC.skip (S.n (TC.a (TL.i z z (TL.w z (convN z underlying5 underlying3 z (by have:=UInt8.toNat_lt v29.1;simp only [kmax];omega)) (TL.i z z (TL.en (TC.a (TL.i z z (TL.en (TC.block (TC.loopG (α:=((List Int)×Nat)×(Unit)) (rgs [(2,2),(11,1),(46,18)]) (fun g=>[(46,.int .i64 ((g.1.2:Nat):Int))]) (fun g=>[Res.rowS 3 1 eI_ (.slice a101 (List.replicate 256 (0:Int)).length c102) g.1.1,Res.cells b133 (setA (nth x0 k130 BSet.zero)) 57]) (fun g=>σ) (fun g=>iter (fun q:(List Int)×Nat=>Ak_ x0 k130 v29 q.1 q.2) g.1=some z1∧g.1.1.length=(List.replicate 256 (0:Int)).length) (fun g=>rounds (fun q:(List Int)×Nat=>Ak_ x0 k130 v29 q.1 q.2) g.1) ((l127,0),()) (Sub.f [1] 2) z (by repeat (first|exact trivial|refine ⟨z,?_⟩)) ⟨hh,hn128⟩ (fun g3 j3 hg3=> ?_))))))))))))
  obtain ⟨⟨l144,k146⟩,_⟩:=g3
  obtain ⟨hh,hn145⟩:=hg3
  try dsimp only at hn145 ⊢
  obtain ⟨z2,hh,hR2⟩:=iter_e hh
  dsimp only [Ak_]at hh
  have hn145b:=hn145
  refine TC.isSl (i:=0) z (fun _ hb147 _=> ?_)
  refine TC.a (TL.w z (OpVal.lss z z z) (TL.en (TC.seq (TC.cD z hh (fun h148 hh=> ?_) (fun h148 hh=> ?_)))))
  ·refine TC.skip (S.n (TC.cutG (α:=((List Int))×(Unit)) (rgs [(2,2),(11,1),(48,15)]) (fun g=>[]) (fun g=>[Res.rowS 3 1 eI_ (.slice a101 (List.replicate 256 (0:Int)).length c102) g.1,Res.cells b133 (setA (nth x0 k130 BSet.zero)) 57]) (fun g=>σ) (fun g=>Cu_ k146 g.1=some z2∧g.1.length=(List.replicate 256 (0:Int)).length) ?_ (fun g j hg=> ?_)))
   ·skip
    refine TC.block (TC.a (TL.i z z (TL.i z z (TL.en (TC.seq (TC.a (TL.w z (loadAll z ag57 sz57 z (i:=1) z z) (TL.i z z (TL.w z (convU8 z underlying3 underlying5 z) (TL.op z (callP (has_con _ (nth x0 k130 BSet.zero) (toU8 ((k146:Nat):Int)).toNat (BSet.isOk _) (UInt8.toNat_lt _)) z z pf43 z z z ?_)))))))))))
    refine TL.w z (OpVal.not z z) (TL.en (TC.cB z hh (fun h151 hh=> ?_) (fun h151 hh=> ?_)))
    ·exact TC.exit (S.x (TC.exitHere (S.n (cf (l144,()) ⟨hh,hn145⟩ (Sub.f [1,1] 2)))))
    refine TC.skip (S.n (TC.seq (TC.a (TL.s z z (TL.i z z ?_)))))
    have u59:=grd_c hh
    replace hh:=grd_t hh
    refine TL.isSl (i:=0) z (fun hs152 _ _=> ?_)
    refine TL.w z (indexN z underlying27 sz3 z z hs152 (by omega)) (TL.w z (loadO1 (0:Int) z ag3 z (q:=0) z eIl_ (by omega) z) (TL.w z (OpVal.geq z z z) (TL.en (TC.cD z hh (fun h153 hh=> ?_) (fun h153 hh=> ?_)))))
    ·refine TC.a (TL.s z z (TL.i z z (TL.en (TC.rt 0 (S.r (B.r (S.r (S.r ?_))))))))
     replace hh:=fin_x hR2 hh
     refine B.r (B.r (S.r (S.r ?_)))
     replace hh:=fin_x hR1 hh
     refine B.r (S.r ?_)
     obtain rfl:=so hh
     exact rq [2,3] ⟨none,0,z,(RS.nilF _ eI_ eIl_),z⟩
    refine TC.skip (S.n (TC.region (TL.s z z (TL.i z z (TL.i z z ?_)))))
    have u67:=grd_c hh
    replace hh:=grd_t hh
    refine TL.isSl (i:=0) z (fun hs154 _ _=> ?_)
    refine TL.w z (indexN z underlying27 sz3 z z hs154 (by omega)) ?_
    have hn155:(l144.set k146 ((k130:Nat):Int)).length=(List.replicate 256 (0:Int)).length:=by rw [List.length_set];exact hn145
    refine TL.op z (storeS ((k130:Nat):Int) z sz3 z z z z eIl_ eIo_ (by omega) (by omega) ?_)
    exact TL.nil (B.n (S.n (cf ((l144.set k146 ((k130:Nat):Int)),()) ⟨hh,hn155⟩ (Sub.f [1,1] 2))))
   skip
   obtain ⟨l149,_⟩:=g
   obtain ⟨hh,hn150⟩:=hg
   try dsimp only at hn150 ⊢
   dsimp only [Cu_]at hh
   have hn150b:=hn150
   refine TC.isSl (i:=0) z (fun _ hb156 _=> ?_)
   refine TC.region (TL.w z (OpVal.succ z z z (by omega)) (TL.i z z (TL.en ?_)))
   obtain ⟨hh,hlt157⟩:=nxt_x hR2 hh
   exact lf ((l149,(k146+1)),()) hlt157 ⟨hh,hn150⟩ (Sub.f [1,1] 2)
  refine TC.exit (S.x (S.x ?_))
  replace hh:=fin_x hR2 hh
  refine TC.exitHere (B.n (S.n (TC.region (TL.w z (OpVal.succ z z z (by omega)) (TL.i z z (TL.en ?_))))))
  obtain ⟨hh,hlt158⟩:=nxt_x hR1 hh
  exact lf ((l144,((v29.1.toNat:Nat):Int),(k130+1)),()) hlt158 ⟨hh,hn145⟩ (Sub.pre 1 z)
 refine TC.exit (S.x (S.x ?_))
 replace hh:=fin_x hR1 hh
 refine TC.exitHere (S.n (TC.seq (TC.a (TL.s z z (TL.w z (lenC z underlying27 z) (TL.i z z (TL.en (TC.block (TC.loopG (α:=(Nat)×(Unit)) (rgs [(2,2),(13,1),(67,7)]) (fun g=>[(67,.int .i64 ((g.1:Nat):Int))]) (fun g=>[Res.rowS 3 1 eI_ (.slice a101 (List.replicate 256 (0:Int)).length c102) l127]) (fun g=>σ) (fun g=>iter (fun q:Nat=>Al_ l127 q) g.1=some r∧l127.length=(List.replicate 256 (0:Int)).length) (fun g=>rounds (fun q:Nat=>Al_ l127 q) g.1) (0,()) (Sub.pre 1 z) z (by repeat (first|exact trivial|refine ⟨z,?_⟩)) ⟨hh,hn128⟩ (fun g4 j4 hg4=> ?_))))))))))
 obtain ⟨k165,_⟩:=g4
 obtain ⟨hh,hn164⟩:=hg4
 try dsimp only at hn164 ⊢
 obtain ⟨z1,hh,hR1⟩:=iter_e hh
 dsimp only [Al_]at hh
 have hn164b:=hn164
 refine TC.isSl (i:=0) z (fun _ hb166 _=> ?_)
 refine TC.a (TL.w z (OpVal.lss z z z) (TL.en (TC.seq (TC.cD z hh (fun h167 hh=> ?_) (fun h167 hh=> ?_)))))
 ·refine TC.skip (S.n (TC.seq (TC.block (TC.a ?_))))
  have u77:=grd_c hh
  replace hh:=grd_t hh
  refine TL.isSl (i:=0) z (fun hs168 _ _=> ?_)
  refine TL.w z (indexN z underlying27 sz3 z z hs168 (by omega)) (TL.w z (loadO1 (0:Int) z ag3 z (q:=0) z eIl_ (by omega) z) (TL.i z z (TL.en (TC.a (TL.i z z (TL.w z (OpVal.lss z z z) (TL.en (TC.cD z hh (fun h169 hh=> ?_) (fun h169 hh=> ?_)))))))))
  ·refine TC.a (TL.s z z (TL.i z z (TL.en (TC.rt 0 (B.r (S.r (S.r ?_)))))))
   replace hh:=fin_x hR1 hh
   refine B.r (S.r ?_)
   obtain rfl:=so hh
   exact rq [2,3] ⟨none,0,z,(RS.nilF _ eI_ eIl_),z⟩
  refine TC.skip (B.n (S.n (TC.region (TL.w z (OpVal.succ z z z (by omega)) (TL.i z z (TL.en ?_))))))
  obtain ⟨hh,hlt170⟩:=nxt_x hR1 hh
  exact lf ((k165+1),()) hlt170 ⟨hh,hn164⟩ (Sub.pre 1 z)
 refine TC.exit (S.x (S.x ?_))
 replace hh:=fin_x hR1 hh
 refine TC.exitHere (S.n (TC.a (TL.s z z (TL.s z z (TL.i z z (TL.en ?_))))))
 rw [←hn164]
 refine TC.sealS eIl_ (fun τ173 hle172 hr171=> ?_)
 have hr171b:=hr171.rv.big
 refine TC.ret ?_
 obtain rfl:=so hh
 exact rq [2,3] ⟨a101,c102,z,hr171,z⟩
def Cr_(x0:List Int)(k116:Nat)(l122:List BSet):Option (((List BSet)×Nat)⊕((List BSet)×Int)):=
 grd (0≤(nth x0 k116 (0:Int))∧(nth x0 k116 (0:Int))<(l122.length:Int)) (grd ([(toU8 ((k116:Nat):Int))].length≤1000000000000) (bnd (Ec_ (nth l122 ((nth x0 k116 (0:Int)).toNat) BSet.zero) (BSet.ofL [(toU8 ((k116:Nat):Int))])) (fun v47=>grd (0≤(nth x0 k116 (0:Int))∧(nth x0 k116 (0:Int))<(l122.length:Int)) (nxt ((l122.set ((nth x0 k116 (0:Int)).toNat) v47),(k116+1))))))
def A4_(x0:List Int)(l113:List BSet)(k116:Nat):Option (((List BSet)×Nat)⊕((List BSet)×Int)):=
 iteO (decide (((k116:Nat):Int)<((x0.length:Nat):Int))) (iteO (decide ((nth x0 k116 (0:Int))<0)) (fin (some (([]:List BSet),1))) (iteO (decide (((l113.length:Nat):Int)<(nth x0 k116 (0:Int)))) (fin (some (([]:List BSet),1))) (iteO (decide ((nth x0 k116 (0:Int))=((l113.length:Nat):Int))) (grd ((l113.length+[BSet.zero].length) * 32≤140737488355328) (Cr_ x0 k116 (l113++[BSet.zero]))) (Cr_ x0 k116 l113)))) (fin (some (l113,0)))
def Dv_(x0:List Int):Option ((List BSet)×Int):=
 iteO (decide (((x0.length:Nat):Int)≠256)) (some (([]:List BSet),1)) (iter (fun q:(List BSet)×Nat=>A4_ x0 q.1 q.2) (([]:List BSet),0))
def Jt_(σ:Store)(r:(List BSet)×Int):Value→Store→List Res→Prop:=fun v σ' H'=>
 ∃a1 c1,v= .tuple #[.slice a1 r.1.length c1,.int .i64 r.2]∧RS σ' 4 encSet (.slice a1 r.1.length c1) r.1∧H'=[]
theorem I9_{x0:List Int}(f0_0:RS σ 1 eI_ (.slice a0_0 x0.length c0_0) x0){r:(List BSet)×Int}(hh:Dv_ x0=some r):
  Con Tryz.prog 74 #[.slice a0_0 x0.length c0_0] σ [] (Jt_ σ r):=by
 dsimp only [Dv_]at hh
 have f0_0b:=f0_0.rv.big
 refine Con.mk (n:=47) Tryz.func74 z z z (fun w0=> ?_)
 refine TC.a (TL.s z z (TL.i z z (TL.en (TC.seq (TC.a (TL.s z z (TL.w z (lenC z underlying27 z) (TL.w z (OpVal.neq z z z) (TL.en (TC.cD z hh (fun h101 hh=> ?_) (fun h101 hh=> ?_)))))))))))
 ·refine TC.a (TL.s z z (TL.i z z (TL.en (TC.ret (S.r ?_)))))
  obtain rfl:=so hh
  exact rq [2,3] ⟨none,0,z,(RS.nilF _ encSet encSet_len),z⟩
 refine TC.skip (S.n (TC.a (TL.s z z (TL.en (TC.seq (TC.a (TL.s z z (TL.w z (lenC z underlying27 z) (TL.i z z (TL.en (TC.block (TC.nilS 57 4 encSet (TC.loopG (α:=((List BSet)×Nat)×((Option Addr)×Nat)) (rgs [(2,5),(12,34)]) (fun g=>[(4,.slice g.2.1 g.1.1.length g.2.2),(12,.int .i64 ((g.1.2:Nat):Int))]) (fun g=>[Res.rowS 57 4 encSet (.slice g.2.1 g.1.1.length g.2.2) g.1.1]) (fun g=>σ) (fun g=>iter (fun q:(List BSet)×Nat=>A4_ x0 q.1 q.2) g.1=some r) (fun g=>rounds (fun q:(List BSet)×Nat=>A4_ x0 q.1 q.2) g.1) ((([]:List BSet),0),(none,0)) (Sub.pre 1 z) z (by repeat (first|exact trivial|refine ⟨z,?_⟩)) hh (fun g1 j1 hg1=> ?_))))))))))))))
 obtain ⟨⟨l113,k116⟩,⟨a114,c115⟩⟩:=g1
 have hh:=hg1;clear hg1
 try dsimp only
 obtain ⟨z1,hh,hR1⟩:=iter_e hh
 dsimp only [A4_]at hh
 refine TC.isSl (i:=0) z (fun _ hb118 _=> ?_)
 refine TC.a (TL.w z (OpVal.lss z z z) (TL.en (TC.seq (TC.cD z hh (fun h119 hh=> ?_) (fun h119 hh=> ?_)))))
 ·refine TC.skip (S.n (TC.seq (TC.block (TC.a (TL.i z z (TL.w z (indexN z underlying27 sz3 z z f0_0.rv.sl (by omega)) (TL.w z (loadS1 (0:Int) z ag3 z f0_0 (by omega) z) (TL.i z z (TL.i z z (TL.en (TC.seq (TC.a (TL.i z z (TL.w z (OpVal.lss z z z) (TL.j z z ?_)))))))))))))))
  refine TL.split 19 z (fun h120=> ?_) (fun h120=> ?_)
  ·replace hh:=iteO_t h120 hh
   replace h120:=of_decide_eq_true h120
   refine TL.f z (TL.f z (TL.f z (TL.f z (TL.w z (pickTB z z z) (TL.en (TC.t z (TC.a (TL.s z z (TL.i z z (TL.en (TC.rt 0 (S.r (B.r (S.r (S.r ?_)))))))))))))))
   replace hh:=fin_x hR1 hh
   refine B.r (S.r ?_)
   obtain rfl:=so hh
   exact rq [2,3] ⟨none,0,z,(RS.nilF _ encSet encSet_len),z⟩
  replace hh:=iteO_f h120 hh
  replace h120:=of_decide_eq_false h120
  refine TL.g z (moveI (.inl z) z) (TL.g z (moveSl (.inl z) z) (TL.g z (lenC z underlying80 z) (TL.g z (OpVal.gtr z z z) (TL.w z (pickFB z z z) (TL.en (TC.cD z hh (fun h121 hh=> ?_) (fun h121 hh=> ?_)))))))
  ·refine TC.a (TL.s z z (TL.i z z (TL.en (TC.rt 0 (S.r (B.r (S.r (S.r ?_))))))))
   replace hh:=fin_x hR1 hh
   refine B.r (S.r ?_)
   obtain rfl:=so hh
   exact rq [2,3] ⟨none,0,z,(RS.nilF _ encSet encSet_len),z⟩
  refine TC.skip (S.n (TC.cutG (α:=((List BSet))×((Option Addr)×Nat)) (rgs [(4,1),(25,8)]) (fun g=>[(4,.slice g.2.1 g.1.length g.2.2)]) (fun g=>[Res.rowS 57 4 encSet (.slice g.2.1 g.1.length g.2.2) g.1]) (fun g=>σ) (fun g=>Cr_ x0 k116 g.1=some z1) ?_ (fun g j hg=> ?_)))
  ·skip
   refine TC.a (TL.i z z (TL.s z z (TL.w z (lenC z underlying80 z) (TL.w z (OpVal.eql z z z) (TL.en (TC.cD z hh (fun h125 hh=> ?_) (fun h125 hh=> ?_)))))))
   ·refine TC.region (TL.s z z (TL.w z (buildArrL z underlying57 sz55 ze57 z) (TL.op z (OpOk.lit (enc:=encSet) [BSet.zero] z underlying80 sz57 ze57 z z z encSet_len (by decide) (by decide) BSet.zero z (by decide) z (by decide) encSet_one (fun a126 c127=> ?_)))))
    refine TL.front 1 z z ?_
    have u35:=grd_c hh
    replace hh:=grd_t hh
    refine TL.op z (appendS z z underlying80 sz57 by57 ze57 z z (by decide) z z z (.inr ⟨_,0,z⟩) (by simpa using u35) (by decide) (fun a129 c130=> ?_))
    exact TL.s z z (TL.en (cf ((l113++[BSet.zero]),(a129,c130)) hh (Sub.pre 1 z)))
   exact TC.skip (S.n (cf (l113,(a114,c115)) hh (Sub.pre 1 z)))
  skip
  obtain ⟨l122,⟨a123,c124⟩⟩:=g
  have hh:=hg;clear hg
  try dsimp only
  dsimp only [Cr_]at hh
  refine TC.isSl (i:=0) z (fun _ hb131 _=> ?_)
  have u41:=grd_c hh
  replace hh:=grd_t hh
  have u46:=grd_c hh
  replace hh:=grd_t hh
  obtain ⟨v47,u47,hh⟩:=bnd_e hh
  have u48:=grd_c hh
  replace hh:=grd_t hh
  refine TC.draw [12] (by kernel_rfl) (TA.a 0 z (moveSl (.inl z) z) z (TA.a 1 z (moveI (.inl z) z) z (TA.a 2 z (moveSl (.inl z) z) z (TA.a 3 z (moveI (.inl z) z) z (TA.isSl (i:=0) z (fun hs138 _ _=> ?_))))))
  refine TA.b 4 z (OpVal.index z underlying80 sz57 z z hs138 u41.1 u41.2) z (TA.b 5 z (loadOA BSet.zero z ag57 sz57 z (q:=0) z encSet_len (by omega) (by omega)) z (TA.a 6 z (moveI (.inl z) z) z (TA.a 7 z (convU8 z underlying3 underlying5 z) z (TA.ac 8 z (OpOk.lit (enc:=encU8) [(toU8 ((k116:Nat):Int))] z underlying105 sz5 ze5 z z z encU8_len (by decide) (by decide) (0:UInt8) z (by decide) z (by decide) encU8_one (fun a139 c140=>(k1 ?_)))))))
  refine TA.ac 9 z (callT (of_con _ _ _ [(toU8 ((k116:Nat):Int))] u46) z z pf20 z z z z (k0 ?_))
  refine TA.ac 10 z (callP (Hn_ u47) z z pf67 z z z (k0 ?_))
  refine TA.isSl (i:=0) z (fun hs142 _ _=> ?_)
  refine TA.b 11 z (OpVal.index z underlying80 sz57 z z hs142 u48.1 u48.2) z ?_
  have hn143:(l122.set ((nth x0 k116 (0:Int)).toNat) v47).length=l122.length:=by rw [List.length_set]
  refine TA.last 12 (by kernel_rfl) z z z (storeS v47 z sz57 z z z z encSet_len encSet_one (by omega) (by omega) ?_)
  refine TZ.done (by kernel_rfl) (B.n (S.n (TC.region (TL.w z (OpVal.succ z z z (by omega)) (TL.i z z ?_)))))
  rw [←hn143]
  refine TL.en ?_
  obtain ⟨hh,hlt144⟩:=nxt_x hR1 hh
  exact lf (((l122.set ((nth x0 k116 (0:Int)).toNat) v47),(k116+1)),(a123,c124)) hlt144 hh (Sub.pre 1 z)
 refine TC.exit (S.x (S.x ?_))
 replace hh:=fin_x hR1 hh
 refine TC.exitHere (S.n (TC.a (TL.s z z (TL.s z z (TL.i z z (TL.en (TC.sealS encSet_len (fun τ147 hle146 hr145=> ?_))))))))
 have hr145b:=hr145.rv.big
 refine TC.ret ?_
 obtain rfl:=so hh
 exact rq [2,3] ⟨a114,c115,z,hr145,z⟩
def Bm_(x0:Dfa)(k110:Nat)(k116:Nat):Option ((Nat)⊕((Nat)⊕(Int))):=
 iteO (decide (((k116:Nat):Int)<(((nth x0.next k110 ([]:List Int)).length:Nat):Int))) (iteO (decide ((nth (nth x0.next k110 ([]:List Int)) k116 (0:Int))<0)) (fin (fin (some 1))) (iteO (decide (((x0.next.length:Nat):Int)≤(nth (nth x0.next k110 ([]:List Int)) k116 (0:Int)))) (fin (fin (some 1))) (nxt (k116+1)))) (fin (nxt (k110+1)))
def Bt_(x0:Dfa)(v5:(List BSet)×Int)(k110:Nat):Option ((Nat)⊕(Int)):=
 iteO (decide (((k110:Nat):Int)<((x0.next.length:Nat):Int))) (iteO (decide ((((nth x0.next k110 ([]:List Int)).length:Nat):Int)≠((v5.1.length:Nat):Int))) (fin (some 1)) (iter (fun q:Nat=>Bm_ x0 k110 q) 0)) (fin (some 0))
def Cx_(x0:Dfa):Option (Int):=
 bnd (Dv_ x0.cls) (fun v5=>iteO (decide (v5.2≠0)) (some 1) (iteO (decide (((x0.next.length:Nat):Int)<1)) (some 1) (iteO (decide (1024<((x0.next.length:Nat):Int))) (some 1) (iteO (decide (((x0.fin.length:Nat):Int)≠((x0.next.length:Nat):Int))) (some 1) (iter (fun q:Nat=>Bt_ x0 v5 q) 0)))))
theorem Fb_{x0:Dfa}(f0_0:RS σ 1 eI_ (.slice a0_0 x0.cls.length c0_0) x0.cls)(f0_1:RZ σ (pkSl 1 eI_ eIl_) (.slice a0_1 x0.next.length c0_1) x0.next)(f0_2:RS σ 1 encB (.slice a0_2 x0.fin.length c0_2) x0.fin){r:Int}(hh:Cx_ x0=some r):
  Con Tryz.prog 37 #[.agg #[.slice a0_0 x0.cls.length c0_0,.slice a0_1 x0.next.length c0_1,.slice a0_2 x0.fin.length c0_2]] σ [] (PureP (.int .i64 r) σ):=by
 dsimp only [Cx_]at hh
 have f0_0b:=f0_0.rv.big
 have f0_1b:=f0_1.big
 have f0_2b:=f0_2.rv.big
 refine Con.mk (n:=63) Tryz.func37 z z z (fun w0=> ?_)
 refine TC.a (TL.op z (boxA z z z z (fun b101=> ?_)))
 refine TL.i z z (TL.en (TC.a (TL.w z (fieldLoc z fo31_0 z) (TL.w z (loadLoc z ag27 z (i:=0) z z) ?_))))
 obtain ⟨v5,u5,hh⟩:=bnd_e hh
 refine TL.op z (OpOk.call (I9_ f0_0 u5) z z pf74 z z z z ?_)
 rintro _ τ103 _ hle103 ⟨a103_1,c103_1,rfl,hr103_0,rfl⟩
 replace f0_1:=f0_1.mono hle103
 have hr103_0b:=hr103_0.rv.big
 refine TL.w z (moveT (.inl z) z) (TL.w z (OpVal.extract z z z) (TL.w z (OpVal.extract z z z) (TL.s z z (TL.i z z (TL.en (TC.a (TL.w z (fieldLoc z fo31_1 z) (TL.w z (loadLoc z ag28 z (i:=0) z z) (TL.w z (lenC z underlying28 z) (TL.i z z (TL.en (TC.seq (TC.a (TL.i z z (TL.w z (OpVal.neq z z z) ?_)))))))))))))))
 refine TL.j z z (TL.split 21 z (fun h104=> ?_) (fun h104=> ?_))
 ·replace hh:=iteO_t h104 hh
  replace h104:=of_decide_eq_true h104
  refine TL.f z (TL.f z (TL.w z (pickTB z z z) (TL.j z z (TL.f z (TL.f z (TL.w z (pickTB z z z) (TL.j z z (TL.f z (TL.f z (TL.f z (TL.f z (TL.f z (TL.w z (pickTB z z z) (TL.en (TC.t z ?_)))))))))))))))
  refine TC.a (TL.i z z (TL.en (TC.ofSub (Sub.pre 0 z) (TC.back (TC.ret (S.r ?_))))))
  obtain rfl:=so hh
  exact rq [2] ⟨z,z,z⟩
 replace hh:=iteO_f h104 hh
 replace h104:=of_decide_eq_false h104
 refine TL.g z (moveI (.inl z) z) (TL.g z (OpVal.lss z z z) (TL.w z (pickFB z z z) (TL.j z z (TL.split 25 z (fun h105=> ?_) (fun h105=> ?_)))))
 ·replace hh:=iteO_t h105 hh
  replace h105:=of_decide_eq_true h105
  refine TL.f z (TL.f z (TL.w z (pickTB z z z) (TL.j z z (TL.f z (TL.f z (TL.f z (TL.f z (TL.f z (TL.w z (pickTB z z z) (TL.en (TC.t z (TC.a (TL.i z z (TL.en (TC.ofSub (Sub.pre 0 z) ?_)))))))))))))))
  refine TC.back (TC.ret (S.r ?_))
  obtain rfl:=so hh
  exact rq [2] ⟨z,z,z⟩
 replace hh:=iteO_f h105 hh
 replace h105:=of_decide_eq_false h105
 refine TL.g z (moveI (.inl z) z) (TL.g z (OpVal.gtr z z z) (TL.w z (pickFB z z z) (TL.j z z (TL.split 29 z (fun h106=> ?_) (fun h106=> ?_)))))
 ·replace hh:=iteO_t h106 hh
  replace h106:=of_decide_eq_true h106
  refine TL.f z (TL.f z (TL.f z (TL.f z (TL.f z (TL.w z (pickTB z z z) (TL.en (TC.t z (TC.a (TL.i z z (TL.en (TC.ofSub (Sub.pre 0 z) (TC.back (TC.ret (S.r ?_))))))))))))))
  obtain rfl:=so hh
  exact rq [2] ⟨z,z,z⟩
 replace hh:=iteO_f h106 hh
 replace h106:=of_decide_eq_false h106
 refine TL.g z (fieldLoc z fo31_2 z) (TL.g z (loadLoc z ag29 z (i:=0) z z) (TL.g z (lenC z underlying29 z) (TL.g z (moveI (.inl z) z) (TL.g z (OpVal.neq z z z) (TL.w z (pickFB z z z) (TL.en (TC.cD z hh (fun h107 hh=> ?_) (fun h107 hh=> ?_))))))))
 ·refine TC.a (TL.i z z (TL.en (TC.ofSub (Sub.pre 0 z) (TC.back (TC.ret (S.r ?_))))))
  obtain rfl:=so hh
  exact rq [2] ⟨z,z,z⟩
 refine TC.skip (S.n (TC.seq (TC.a (TL.w z (fieldLoc z fo31_1 z) (TL.w z (loadLoc z ag28 z (i:=0) z z) (TL.w z (lenC z underlying28 z) (TL.i z z (TL.en (TC.block (TC.loopG (α:=(Nat)×(Unit)) (rgs [(2,1),(7,1),(9,1),(39,24)]) (fun g=>[(39,.int .i64 ((g.1:Nat):Int))]) (fun g=>[]) (fun g=>τ103) (fun g=>iter (fun q:Nat=>Bt_ x0 v5 q) g.1=some r) (fun g=>rounds (fun q:Nat=>Bt_ x0 v5 q) g.1) (0,()) (Sub.pre 0 z) z (by repeat (first|exact trivial|refine ⟨z,?_⟩)) hh (fun g1 j1 hg1=> ?_)))))))))))
 obtain ⟨k110,_⟩:=g1
 have hh:=hg1;clear hg1
 try dsimp only
 obtain ⟨z1,hh,hR1⟩:=iter_e hh
 dsimp only [Bt_]at hh
 refine TC.a (TL.w z (OpVal.lss z z z) (TL.en (TC.seq (TC.cD z hh (fun h111 hh=> ?_) (fun h111 hh=> ?_)))))
 ·refine TC.skip (S.n (TC.seq (TC.block (TC.a (TL.w z (indexN z underlying28 sz27 z z f0_1.isSl (by omega)) ?_)))))
  obtain ⟨p112,hk112,hg112⟩:=RZ.seg f0_1 k110 (by omega)
  replace hk112:RS _ 1 eI_ (.slice p112.1 (nth x0.next k110 ([]:List Int)).length p112.2) (nth x0.next k110 ([]:List Int)):=hk112
  have hk112b:=hk112.rv.big
  refine TL.w z (OpVal.of (loadSeg0 z ag27 z hg112 z) (v':= .slice p112.1 ((nth x0.next k110 ([]:List Int)).length) p112.2) z) (TL.s z z (TL.en (TC.seq (TC.a (TL.s z z (TL.w z (lenC z underlying27 z) (TL.s z z (TL.w z (lenC z underlying80 z) (TL.w z (OpVal.neq z z z) (TL.en (TC.cD z hh (fun h113 hh=> ?_) (fun h113 hh=> ?_))))))))))))
  ·refine TC.a (TL.i z z (TL.en (TC.back (TC.ret (S.r (B.r (S.r (S.r ?_))))))))
   replace hh:=fin_x hR1 hh
   refine B.r (S.r ?_)
   obtain rfl:=so hh
   exact rq [2] ⟨z,z,z⟩
  refine TC.skip (S.n (TC.a (TL.s z z (TL.w z (lenC z underlying27 z) (TL.i z z (TL.en (TC.block (TC.loopG (α:=(Nat)×(Unit)) (rgs [(2,1),(9,1),(50,12)]) (fun g=>[(50,.int .i64 ((g.1:Nat):Int))]) (fun g=>[]) (fun g=>τ103) (fun g=>iter (fun q:Nat=>Bm_ x0 k110 q) g.1=some z1) (fun g=>rounds (fun q:Nat=>Bm_ x0 k110 q) g.1) (0,()) (Sub.pre 0 z) z (by repeat (first|exact trivial|refine ⟨z,?_⟩)) hh (fun g2 j2 hg2=> ?_)))))))))
  obtain ⟨k116,_⟩:=g2
  have hh:=hg2;clear hg2
  try dsimp only
  obtain ⟨z2,hh,hR2⟩:=iter_e hh
  dsimp only [Bm_]at hh
  refine TC.a (TL.w z (OpVal.lss z z z) (TL.en (TC.seq (TC.cD z hh (fun h117 hh=> ?_) (fun h117 hh=> ?_)))))
  ·refine TC.skip (S.n (TC.seq (TC.block (TC.a (TL.w z (indexN z underlying27 sz3 z z hk112.rv.sl (by omega)) (TL.w z (loadS1 (0:Int) z ag3 z hk112 (by omega) z) (TL.i z z (TL.en (TC.a (TL.i z z (TL.w z (OpVal.lss z z z) (TL.j z z (TL.split 56 z (fun h118=> ?_) (fun h118=> ?_))))))))))))))
   ·replace hh:=iteO_t h118 hh
    replace h118:=of_decide_eq_true h118
    refine TL.f z (TL.f z (TL.f z (TL.w z (pickTB z z z) (TL.en (TC.t z (TC.a (TL.i z z (TL.en (TC.back (TC.ret (B.r (S.r (S.r ?_)))))))))))))
    replace hh:=fin_x hR2 hh
    refine B.r (B.r (S.r (S.r ?_)))
    replace hh:=fin_x hR1 hh
    refine B.r (S.r ?_)
    obtain rfl:=so hh
    exact rq [2] ⟨z,z,z⟩
   replace hh:=iteO_f h118 hh
   replace h118:=of_decide_eq_false h118
   refine TL.g z (moveI (.inl z) z) (TL.g z (moveI (.inl z) z) (TL.g z (OpVal.geq z z z) (TL.w z (pickFB z z z) (TL.en (TC.cD z hh (fun h119 hh=> ?_) (fun h119 hh=> ?_))))))
   ·refine TC.a (TL.i z z (TL.en (TC.back (TC.ret (B.r (S.r (S.r ?_)))))))
    replace hh:=fin_x hR2 hh
    refine B.r (B.r (S.r (S.r ?_)))
    replace hh:=fin_x hR1 hh
    refine B.r (S.r ?_)
    obtain rfl:=so hh
    exact rq [2] ⟨z,z,z⟩
   refine TC.skip (B.n (S.n (TC.region (TL.w z (OpVal.succ z z z (by omega)) (TL.i z z (TL.en ?_))))))
   obtain ⟨hh,hlt120⟩:=nxt_x hR2 hh
   exact lf ((k116+1),()) hlt120 hh (Sub.pre 0 z)
  refine TC.exit (S.x (S.x ?_))
  replace hh:=fin_x hR2 hh
  refine TC.exitHere (B.n (S.n (TC.region (TL.w z (OpVal.succ z z z (by omega)) (TL.i z z (TL.en ?_))))))
  obtain ⟨hh,hlt121⟩:=nxt_x hR1 hh
  exact lf ((k110+1),()) hlt121 hh (Sub.pre 0 z)
 refine TC.exit (S.x (S.x ?_))
 replace hh:=fin_x hR1 hh
 refine TC.exitHere (S.n (TC.a (TL.i z z (TL.en (TC.back (TC.ret ?_))))))
 obtain rfl:=so hh
 exact rq [2] ⟨z,z,z⟩
def Cv_(k120:Nat)(m124:FM BSet Int)(l125:List BSet):Option (((FM BSet Int)×(List BSet)×Nat)⊕((List BSet))):=
 nxt (m124,l125,(k120+1))
def Ba_(x0:List Arrow)(m115:FM BSet Int)(l117:List BSet)(k120:Nat):Option (((FM BSet Int)×(List BSet)×Nat)⊕((List BSet))):=
 iteO (decide (((k120:Nat):Int)<((x0.length:Nat):Int))) (iteO (!(m115.has ((nth x0 k120 Arrow.zero).set))) (grd ((l117.length+[(nth x0 k120 Arrow.zero).set].length) * 32≤140737488355328) (Cv_ k120 (m115.put ((nth x0 k120 Arrow.zero).set) ((l117.length:Nat):Int)) (l117++[(nth x0 k120 Arrow.zero).set]))) (Cv_ k120 m115 l117)) (fin (some l117))
def Dy_(x0:List Arrow):Option ((List BSet)):=
 iter (fun q:(FM BSet Int)×(List BSet)×Nat=>Ba_ x0 q.1 q.2.1 q.2.2) ((FM.emp:FM BSet Int),([]:List BSet),0)
def Jm_(σ:Store)(r:(List BSet)):Value→Store→List Res→Prop:=fun v σ' H'=>
 ∃a1 c1,v= .slice a1 r.length c1∧RS σ' 4 encSet (.slice a1 r.length c1) r∧H'=[]
theorem Iv_{x0:List Arrow}(f0_0:RS σ 6 encE (.slice a0_0 x0.length c0_0) x0){r:(List BSet)}(hh:Dy_ x0=some r):
  Con Tryz.prog 29 #[.slice a0_0 x0.length c0_0] σ [] (Jm_ σ r):=by
 dsimp only [Dy_]at hh
 have f0_0b:=f0_0.rv.big
 refine Con.mk (n:=37) Tryz.func29 z z z (fun w0=> ?_)
 refine TC.a (TL.s z z (TL.en (TC.a (TL.op z (makeMapB (enc:=setV) (encV:=keyI) z z z (fun b101=> ?_))))))
 refine TL.w z (moveMap (.inr z) z) (TL.en (TC.a (TL.s z z (TL.en (TC.seq (TC.a (TL.s z z (TL.w z (lenC z underlying46 z) (TL.i z z (TL.en (TC.block (TC.nilS 57 4 encSet (TC.loopG (α:=((FM BSet Int)×(List BSet)×Nat)×((Option Addr)×Nat)) (rgs [(4,1),(6,3),(12,24)]) (fun g=>[(4,.slice g.2.1 g.1.2.1.length g.2.2),(12,.int .i64 ((g.1.2.2:Nat):Int))]) (fun g=>[Res.mapB setV keyI (some b101) g.1.1,Res.rowS 57 4 encSet (.slice g.2.1 g.1.2.1.length g.2.2) g.1.2.1]) (fun g=>σ) (fun g=>iter (fun q:(FM BSet Int)×(List BSet)×Nat=>Ba_ x0 q.1 q.2.1 q.2.2) g.1=some r) (fun g=>rounds (fun q:(FM BSet Int)×(List BSet)×Nat=>Ba_ x0 q.1 q.2.1 q.2.2) g.1) (((FM.emp:FM BSet Int),([]:List BSet),0),(none,0)) (Sub.f [1] 2) z (by repeat (first|exact trivial|refine ⟨z,?_⟩)) hh (fun g1 j1 hg1=> ?_))))))))))))))
 obtain ⟨⟨m115,l117,k120⟩,⟨a118,c119⟩⟩:=g1
 have hh:=hg1;clear hg1
 try dsimp only
 obtain ⟨z1,hh,hR1⟩:=iter_e hh
 dsimp only [Ba_]at hh
 refine TC.isSl (i:=1) z (fun _ hb122 _=> ?_)
 refine TC.a (TL.w z (OpVal.lss z z z) (TL.en (TC.seq (TC.cD z hh (fun h123 hh=> ?_) (fun h123 hh=> ?_)))))
 ·refine TC.skip (S.n (TC.cutG (α:=((FM BSet Int)×(List BSet))×((Option Addr)×Nat)) (rgs [(4,1),(6,3),(14,21)]) (fun g=>[(4,.slice g.2.1 g.1.2.length g.2.2)]) (fun g=>[Res.mapB setV keyI (some b101) g.1.1,Res.rowS 57 4 encSet (.slice g.2.1 g.1.2.length g.2.2) g.1.2]) (fun g=>σ) (fun g=>Cv_ k120 g.1.1 g.1.2=some z1) ?_ (fun g j hg=> ?_)))
  ·skip
   refine TC.block (TC.a (TL.w z (indexN z underlying46 sz78 z z f0_0.rv.sl (by omega)) (TL.w z (loadSA Arrow.zero z ag78 sz78 z f0_0 (by omega) (by omega)) (TL.op z (OpOk.alloc z ze78 z z (fun b128=> ?_))))))
   refine TL.op z (storeAll z sz78 z z z z z z ?_)
   refine TL.en (TC.a (TL.w z (moveMap (.inl z) z) (TL.w z (fieldLoc z fo78_2 z) (TL.w z (loadLocA z ag57 sz57 z (i:=0) z z z) (TL.w z (OpVal.of (lookB 0 (q:=(nth x0 k120 Arrow.zero).set) z underlying134 ze3 z (i:=1) z z (keyL_set underlying57 underlying55 ag55 sz55)) (v':= .tuple #[.int .i64 (m115.get ((nth x0 k120 Arrow.zero).set) 0),.bool (m115.has ((nth x0 k120 Arrow.zero).set))]) z) (TL.w z (moveT (.inl z) z) (TL.w z (OpVal.extract z z z) (TL.w z (OpVal.extract z z z) (TL.i z z (TL.j z z (TL.en (TC.a (TL.j z z (TL.w z (OpVal.not z z) (TL.en ?_)))))))))))))))
   refine TC.cB z hh (fun h130 hh=> ?_) (fun h130 hh=> ?_)
   ·refine TC.a (TL.w z (moveMap (.inl z) z) (TL.w z (fieldLoc z fo78_2 z) (TL.w z (loadLocA z ag57 sz57 z (i:=0) z z z) (TL.s z z (TL.w z (lenC z underlying80 z) (TL.front 1 z z (TL.op z (updB ((nth x0 k120 Arrow.zero).set) ((l117.length:Nat):Int) z underlying134 z z z z (keyL_set underlying57 underlying55 ag55 sz55) ?_))))))))
    refine TL.en (TC.region (TL.s z z (TL.w z (fieldLoc z fo78_2 z) (TL.w z (loadLocA z ag57 sz57 z (i:=1) z z z) (TL.op z (OpOk.lit (enc:=encSet) [(nth x0 k120 Arrow.zero).set] z underlying80 sz57 ze57 z z z encSet_len (by decide) (by decide) BSet.zero z (by decide) z (by decide) encSet_one (fun a131 c132=> ?_)))))))
    refine TL.front 3 z z ?_
    have u34:=grd_c hh
    replace hh:=grd_t hh
    refine TL.op z (appendS z z underlying80 sz57 by57 ze57 z z (by decide) z z z (.inr ⟨_,0,z⟩) (by simpa using u34) (by decide) (fun a134 c135=> ?_))
    exact TL.s z z (TL.nil (B.n (S.n (cf (((m115.put ((nth x0 k120 Arrow.zero).set) ((l117.length:Nat):Int)),(l117++[(nth x0 k120 Arrow.zero).set])),(a134,c135)) hh (Sub.f [2] 2)))))
   exact TC.skip (B.n (S.n (cf ((m115,l117),(a118,c119)) hh (Sub.f [2,2] 2))))
  skip
  obtain ⟨⟨m124,l125⟩,⟨a126,c127⟩⟩:=g
  have hh:=hg;clear hg
  try dsimp only
  dsimp only [Cv_]at hh
  refine TC.isSl (i:=1) z (fun _ hb136 _=> ?_)
  refine TC.region (TL.w z (OpVal.succ z z z (by omega)) (TL.i z z (TL.en ?_)))
  obtain ⟨hh,hlt137⟩:=nxt_x hR1 hh
  exact lf ((m124,l125,(k120+1)),(a126,c127)) hlt137 hh (Sub.f [1,1] 2)
 refine TC.exit (S.x (S.x ?_))
 replace hh:=fin_x hR1 hh
 refine TC.exitHere (S.n (TC.a (TL.s z z (TL.s z z (TL.en (TC.front 1 z z (TC.sealS encSet_len (fun τ140 hle139 hr138=> ?_))))))))
 have hr138b:=hr138.rv.big
 refine TC.rt 0 ?_
 obtain rfl:=so hh
 exact rq [2] ⟨a118,c119,z,hr138,z⟩
def Cw_(k133:Nat)(l136:List Int):Option (((List Int)×Nat)⊕(((List Int)×Nat)⊕((List Int)))):=
 nxt (l136,(k133+1))
def A9_(x0:List (List Arrow))(x1:List Int)(k117:Nat)(v4:UInt8×Bool)(l130:List Int)(k133:Nat):Option (((List Int)×Nat)⊕(((List Int)×Nat)⊕((List Int)))):=
 iteO (decide (((k133:Nat):Int)<(((nth x0 ((nth x1 k117 (0:Int)).toNat) ([]:List Arrow)).length:Nat):Int))) (iteO (((nth (nth x0 ((nth x1 k117 (0:Int)).toNat) ([]:List Arrow)) k133 Arrow.zero).set).has v4.1.toNat) (grd ((l130.length+[(nth (nth x0 ((nth x1 k117 (0:Int)).toNat) ([]:List Arrow)) k133 Arrow.zero).to].length) * 8≤140737488355328) (Cw_ k133 (l130++[(nth (nth x0 ((nth x1 k117 (0:Int)).toNat) ([]:List Arrow)) k133 Arrow.zero).to]))) (Cw_ k133 l130)) (fin (nxt (l130,(k117+1))))
def A3_(x1:List Int)(x0:List (List Arrow))(v4:UInt8×Bool)(l114:List Int)(k117:Nat):Option (((List Int)×Nat)⊕((List Int))):=
 iteO (decide (((k117:Nat):Int)<((x1.length:Nat):Int))) (grd (0≤(nth x1 k117 (0:Int))∧(nth x1 k117 (0:Int))<(x0.length:Int)) (iter (fun q:(List Int)×Nat=>A9_ x0 x1 k117 v4 q.1 q.2) (l114,0))) (fin (some l114))
def D0_(x0:List (List Arrow))(x1:List Int)(x2:BSet):Option ((List Int)):=
 bnd (Ci_ x2) (fun v4=>iter (fun q:(List Int)×Nat=>A3_ x1 x0 v4 q.1 q.2) (([]:List Int),0))
def Jg_(σ:Store)(r:(List Int)):Value→Store→List Res→Prop:=fun v σ' H'=>
 ∃a1 c1,v= .slice a1 r.length c1∧σ=σ'∧H'=[Res.rowS 3 1 eI_ (.slice a1 r.length c1) r]
theorem Iu_{x0:List (List Arrow)}{x1:List Int}{x2:BSet}(hgl:GT σ 1 encU8 deB)(f0_0:RZ σ (pkSl 6 encE encE_len) (.slice a0_0 x0.length c0_0) x0)(f1_0:RS σ 1 eI_ (.slice a1_0 x1.length c1_0) x1){r:(List Int)}(hh:D0_ x0 x1 x2=some r):
  Con Tryz.prog 36 #[.slice a0_0 x0.length c0_0,.slice a1_0 x1.length c1_0,setV x2] σ [] (Jg_ σ r):=by
 dsimp only [D0_]at hh
 have f0_0b:=f0_0.big
 have f1_0b:=f1_0.rv.big
 refine Con.mk (n:=46) Tryz.func36 z z z (fun w0=> ?_)
 refine TC.a (TL.op z (boxA z z z z (fun b101=> ?_)))
 refine TL.s z z (TL.en (TC.a (TL.w z (loadAll z ag57 sz57 z (i:=0) z z) ?_)))
 obtain ⟨v4,u4,hh⟩:=bnd_e hh
 refine TL.op z (callP (H7_ hgl u4) z z pf68 z z z ?_)
 refine TL.w z (moveT (.inl z) z) (TL.w z (OpVal.extract z z z) (TL.w z (OpVal.extract z z z) (TL.i z z (TL.j z z (TL.en (TC.a (TL.s z z (TL.en (TC.seq (TC.a (TL.s z z (TL.w z (lenC z underlying27 z) (TL.i z z (TL.en (TC.block ?_)))))))))))))))
 refine TC.nilS 3 1 eI_ (TC.loopG (α:=((List Int)×Nat)×((Option Addr)×Nat)) (rgs [(9,1),(11,1),(13,1),(21,24)]) (fun g=>[(9,.slice g.2.1 g.1.1.length g.2.2),(21,.int .i64 ((g.1.2:Nat):Int))]) (fun g=>[Res.rowS 3 1 eI_ (.slice g.2.1 g.1.1.length g.2.2) g.1.1]) (fun g=>σ) (fun g=>iter (fun q:(List Int)×Nat=>A3_ x1 x0 v4 q.1 q.2) g.1=some r) (fun g=>rounds (fun q:(List Int)×Nat=>A3_ x1 x0 v4 q.1 q.2) g.1) ((([]:List Int),0),(none,0)) (Sub.pre 1 z) z (by repeat (first|exact trivial|refine ⟨z,?_⟩)) hh (fun g1 j1 hg1=> ?_))
 obtain ⟨⟨l114,k117⟩,⟨a115,c116⟩⟩:=g1
 have hh:=hg1;clear hg1
 try dsimp only
 obtain ⟨z1,hh,hR1⟩:=iter_e hh
 dsimp only [A3_]at hh
 refine TC.isSl (i:=0) z (fun _ hb119 _=> ?_)
 refine TC.a (TL.w z (OpVal.lss z z z) (TL.en (TC.seq (TC.cD z hh (fun h120 hh=> ?_) (fun h120 hh=> ?_)))))
 ·refine TC.skip (S.n (TC.seq (TC.block (TC.a (TL.w z (indexN z underlying27 sz3 z z f1_0.rv.sl (by omega)) (TL.w z (loadS1 (0:Int) z ag3 z f1_0 (by omega) z) (TL.i z z (TL.en (TC.a (TL.s z z (TL.i z z ?_)))))))))))
  have u20:=grd_c hh
  replace hh:=grd_t hh
  refine TL.w z (OpVal.index z underlying86 sz46 z z f0_0.isSl u20.1 u20.2) ?_
  obtain ⟨p121,hk121,hg121⟩:=RZ.seg f0_0 ((nth x1 k117 (0:Int)).toNat) (by omega)
  replace hk121:RS _ 6 encE (.slice p121.1 (nth x0 ((nth x1 k117 (0:Int)).toNat) ([]:List Arrow)).length p121.2) (nth x0 ((nth x1 k117 (0:Int)).toNat) ([]:List Arrow)):=hk121
  have hk121b:=hk121.rv.big
  refine TL.w z (OpVal.of (loadSeg0 z ag46 z hg121 z) (v':= .slice p121.1 ((nth x0 ((nth x1 k117 (0:Int)).toNat) ([]:List Arrow)).length) p121.2) z) (TL.w z (lenC z underlying46 z) (TL.i z z (TL.en (TC.block (TC.loopG (α:=((List Int)×Nat)×((Option Addr)×Nat)) (rgs [(9,1),(13,1),(30,14)]) (fun g=>[(9,.slice g.2.1 g.1.1.length g.2.2),(30,.int .i64 ((g.1.2:Nat):Int))]) (fun g=>[Res.rowS 3 1 eI_ (.slice g.2.1 g.1.1.length g.2.2) g.1.1]) (fun g=>σ) (fun g=>iter (fun q:(List Int)×Nat=>A9_ x0 x1 k117 v4 q.1 q.2) g.1=some z1) (fun g=>rounds (fun q:(List Int)×Nat=>A9_ x0 x1 k117 v4 q.1 q.2) g.1) ((l114,0),(a115,c116)) (Sub.pre 1 z) z (by repeat (first|exact trivial|refine ⟨z,?_⟩)) hh (fun g2 j2 hg2=> ?_))))))
  obtain ⟨⟨l130,k133⟩,⟨a131,c132⟩⟩:=g2
  have hh:=hg2;clear hg2
  try dsimp only
  obtain ⟨z2,hh,hR2⟩:=iter_e hh
  dsimp only [A9_]at hh
  refine TC.isSl (i:=0) z (fun _ hb134 _=> ?_)
  refine TC.a (TL.w z (OpVal.lss z z z) (TL.en (TC.seq (TC.cD z hh (fun h135 hh=> ?_) (fun h135 hh=> ?_)))))
  ·refine TC.skip (S.n (TC.cutG (α:=((List Int))×((Option Addr)×Nat)) (rgs [(9,1),(13,1),(32,11)]) (fun g=>[(9,.slice g.2.1 g.1.length g.2.2)]) (fun g=>[Res.rowS 3 1 eI_ (.slice g.2.1 g.1.length g.2.2) g.1]) (fun g=>σ) (fun g=>Cw_ k133 g.1=some z2) ?_ (fun g j hg=> ?_)))
   ·skip
    refine TC.block (TC.a (TL.w z (indexN z underlying46 sz78 z z hk121.rv.sl (by omega)) (TL.w z (loadSA Arrow.zero z ag78 sz78 z hk121 (by omega) (by omega)) (TL.op z (OpOk.alloc z ze78 z z (fun b139=> ?_))))))
    refine TL.op z (storeAll z sz78 z z z z z z ?_)
    refine TL.en (TC.a (TL.w z (fieldLoc z fo78_2 z) (TL.w z (loadLocA z ag57 sz57 z (i:=0) z z z) (TL.i z z (TL.op z (callP (has_con _ ((nth (nth x0 ((nth x1 k117 (0:Int)).toNat) ([]:List Arrow)) k133 Arrow.zero).set) v4.1.toNat (BSet.isOk _) (UInt8.toNat_lt _)) z z pf43 z z z ?_))))))
    refine TL.en (TC.cB z hh (fun h141 hh=> ?_) (fun h141 hh=> ?_))
    ·refine TC.region (TL.s z z (TL.w z (fieldLoc z fo78_1 z) (TL.w z (loadLoc z ag3 z (i:=0) z z) (TL.op z (OpOk.lit (enc:=eI_) [(nth (nth x0 ((nth x1 k117 (0:Int)).toNat) ([]:List Arrow)) k133 Arrow.zero).to] z underlying27 sz3 ze3 z z z eIl_ (by decide) (by decide) (0:Int) z (by decide) z (by decide) eIo_ (fun a142 c143=> ?_))))))
     refine TL.front 2 z z ?_
     have u37:=grd_c hh
     replace hh:=grd_t hh
     refine TL.op z (appendS z z underlying27 sz3 by3 ze3 z z (by decide) z z z (.inr ⟨_,0,z⟩) (by simpa using u37) (by decide) (fun a145 c146=> ?_))
     exact TL.s z z (TL.nil (B.n (S.n (cf ((l130++[(nth (nth x0 ((nth x1 k117 (0:Int)).toNat) ([]:List Arrow)) k133 Arrow.zero).to]),(a145,c146)) hh (Sub.pre 1 z)))))
    exact TC.skip (B.n (S.n (cf (l130,(a131,c132)) hh (Sub.f [1] 1))))
   skip
   obtain ⟨l136,⟨a137,c138⟩⟩:=g
   have hh:=hg;clear hg
   try dsimp only
   dsimp only [Cw_]at hh
   refine TC.isSl (i:=0) z (fun _ hb147 _=> ?_)
   refine TC.region (TL.w z (OpVal.succ z z z (by omega)) (TL.i z z (TL.en ?_)))
   obtain ⟨hh,hlt148⟩:=nxt_x hR2 hh
   exact lf ((l136,(k133+1)),(a137,c138)) hlt148 hh (Sub.pre 1 z)
  refine TC.exit (S.x (S.x ?_))
  replace hh:=fin_x hR2 hh
  refine TC.exitHere (B.n (S.n (TC.region (TL.w z (OpVal.succ z z z (by omega)) (TL.i z z (TL.en ?_))))))
  obtain ⟨hh,hlt149⟩:=nxt_x hR1 hh
  exact lf ((l130,(k117+1)),(a131,c132)) hlt149 hh (Sub.pre 1 z)
 refine TC.exit (S.x (S.x ?_))
 replace hh:=fin_x hR1 hh
 refine TC.exitHere (S.n (TC.a (TL.s z z (TL.s z z (TL.en (TC.ret ?_))))))
 obtain rfl:=so hh
 exact ro [Res.rowS 3 1 eI_ (.slice a115 l114.length c116) l114] z (RVs.tmp z RVs.nil) ⟨a115,c116,z,z,z⟩
def Ad_{Sy:Type}(x1:List BSet)(Y:Sy→Int×BSet→Option (Sy×Bool))(k111:Nat)(s112:Sy):Option ((Nat×Sy)⊕(Sy)):=
 iteO (decide (((k111:Nat):Int)<((x1.length:Nat):Int))) (bnd (Y s112 (((k111:Nat):Int),(nth x1 k111 BSet.zero))) (fun v14=>iteO (!v14.2) (fin (some v14.1)) (nxt ((k111+1),v14.1)))) (fin (some s112))
def B0_{Sy:Type}(Y:Sy→Int×BSet→Option (Sy×Bool))(s0:Sy)(x1:List BSet):Option (Sy):=
 iter (fun q:Nat×Sy=>Ad_ x1 Y q.1 q.2) (0,s0)
theorem Ig_{Sy:Type}{Y:Sy→Int×BSet→Option (Sy×Bool)}{s0:Sy}{x1:List BSet}(f1_3:RS σ 4 encSet (.slice a1_1 x1.length c1_2) x1){r:Sy}(hh:B0_ Y s0 x1=some r):
  IterOk Tryz.prog 73 [loc b1_0 0] (fun (x:Int×BSet) _ vs=>vs=[.int .i64 x.1,setV x.2]) Y σ [Res.cells b1_0 #[.slice a1_1 x1.length c1_2] Eb1] s0 r (fun σ' H'=>H'=[Res.cells b1_0 #[.slice a1_1 x1.length c1_2] Eb1]):=by
 intro l Z ry0 hY hys
 dsimp only [B0_]at hh
 have f1_3b:=f1_3.rv.big
 refine Con.mk (n:=18) Tryz.func73 z z z (fun w0=> ?_)
 refine TC.weakR (TC.a (TL.w z (loadLoc z ag80 z (i:=1) z z) (TL.w z (lenC z underlying80 z) (TL.i z z (TL.en (TC.block (TC.loopG (α:=(Nat×Sy)×(Res×Store)) (rgs [(3,2),(7,11)]) (fun g=>[(7,.int .i64 ((g.1.1:Nat):Int))]) (fun g=>[Res.cells b1_0 #[.slice a1_1 x1.length c1_2] Eb1,g.2.1]) (fun g=>g.2.2) (fun g=>iter (fun q:Nat×Sy=>Ad_ x1 Y q.1 q.2) g.1=some r∧YR Z g.1.2 g.2.2 g.2.1∧Store.le σ g.2.2) (fun g=>rounds (fun q:Nat×Sy=>Ad_ x1 Y q.1 q.2) g.1) ((0,s0),(ry0,σ)) (Sub.f [1] 2) z (by repeat (first|exact trivial|refine ⟨z,?_⟩)) ⟨hh,hys,(Store.le.refl _)⟩ (fun g1 j1 hg1=> ?_))))))))
 obtain ⟨⟨k111,s112⟩,⟨ry113,τ115⟩⟩:=g1
 obtain ⟨hh,hy114,hle116⟩:=hg1
 try dsimp only at hy114
 dsimp only at hle116
 replace f1_3:=f1_3.mono hle116
 try dsimp only
 obtain ⟨z1,hh,hR1⟩:=iter_e hh
 dsimp only [Ad_]at hh
 skip
 refine TC.a (TL.w z (OpVal.lss z z z) (TL.en (TC.seq (TC.cD z hh (fun h117 hh=> ?_) (fun h117 hh=> ?_)))))
 ·refine TC.skip (S.n (TC.seq (TC.block (TC.a (TL.i z z (TL.w z (indexN z underlying80 sz57 z z f1_3.rv.sl (by omega)) (TL.w z (loadSA BSet.zero z ag57 sz57 z f1_3 (by omega) (by omega)) (TL.op z (OpOk.alloc z ze57 z z (fun b118=> ?_))))))))))
  refine TL.i z z (TL.op z (storeAll z sz57 z z z z z z ?_))
  refine TL.en (TC.a (TL.w z (OpVal.mv (.inl z)) (TL.i z z (TL.w z (loadAll z ag57 sz57 z (i:=0) z z) ?_))))
  obtain ⟨v14,u14,hh⟩:=bnd_e hh
  refine TL.front 2 z z (TL.op z (callY hY hy114 u14 z z z z z z ?_))
  rintro τ120 ry120 hle120 hy120
  refine TL.w z (OpVal.not z z) (TL.en (TC.cB z hh (fun h121 hh=> ?_) (fun h121 hh=> ?_)))
  ·refine TC.ofSub (Sub.f [2,1] 2) (TC.ret (B.r (S.r (S.r ?_))))
   replace hh:=fin_x hR1 hh
   refine B.r ?_
   obtain rfl:=so hh
   refine ⟨_,Sub.f [1,1] 2,?_⟩
   exact ro [ry120,Res.cells b1_0 #[.slice a1_1 x1.length c1_2] Eb1] z RVs.nil ⟨_,_,z,hy120,z⟩
  refine TC.skip (B.n (S.n (TC.region (TL.w z (OpVal.succ z z z (by omega)) (TL.i z z (TL.en ?_))))))
  obtain ⟨hh,hlt122⟩:=nxt_x hR1 hh
  exact lf (((k111+1),v14.1),(ry120,τ120)) hlt122 ⟨hh,hy120,(hle116.trans hle120)⟩ (Sub.f [2] 2)
 refine TC.exit (S.x (S.x ?_))
 replace hh:=fin_x hR1 hh
 refine TC.exitHere ?_
 obtain rfl:=so hh
 refine ⟨_,Sub.f [1] 2,?_⟩
 exact RetOk.mk' (rs:=[]) [ry113,Res.cells b1_0 #[.slice a1_1 x1.length c1_2] Eb1] z (.inr z) RVs.nil (List.sublist_append_left _ _) ⟨_,_,z,hy114,z⟩
def Dj_(x0:List BSet):Option ((List BSet)):=
 some x0
theorem Ip_{x0:List BSet}(f0_0:RS σ 4 encSet (.slice a0_0 x0.length c0_0) x0){r:(List BSet)}(hh:Dj_ x0=some r):
  Con Tryz.prog 35 #[.slice a0_0 x0.length c0_0] σ [] (fun v σ' H'=> ∃br4 ar1 cr2,v= .func (.func 73) #[] #[loc br4 0]∧RS σ' 4 encSet (.slice ar1 r.length cr2) r∧H'=[Res.cells br4 #[.slice ar1 r.length cr2] 80]):=by
 dsimp only [Dj_]at hh
 have f0_0b:=f0_0.rv.big
 refine Con.mk (n:=4) Tryz.func35 z z z (fun w0=> ?_)
 refine TC.a (TL.op z (OpOk.box z z z z (fun b103=> ?_)))
 refine TL.w z (OpVal.mv (.inr z)) (TL.en (TC.a (TL.w z (makeFn z) (TL.w z (moveFn (.inr z) z) (TL.en (TC.ret ?_))))))
 obtain rfl:=so hh
 exact ro [Res.cells b103 #[.slice a0_0 x0.length c0_0] 80] z (RVs.tmp z RVs.nil) ⟨b103,a0_0,c0_0,z,f0_0,z⟩
end Go.Proofs.YtnpbfjdpglfdkaaGreatDoor
end

noncomputable section
namespace Go.Proofs.YtnpbfjdpglfdkaaGreatDoor
open Go Go.E
theorem low_bit: ∀x:Nat,x≠0→ ∃k m,x=2 ^ k * (2 * m+1):=by
 intro x
 induction x using Nat.strongRecOn with
 |_ x ih=>
  intro h0
  by_cases h:x % 2=1
  ·exact ⟨0,x / 2,by rw [Nat.pow_zero];omega⟩
  obtain ⟨k,m,e⟩:=ih (x / 2) (by omega) (by omega)
  refine ⟨k+1,m,?_⟩
  have:x=2 * (x / 2):=by omega
  rw [this,e,Nat.pow_succ,Nat.mul_comm (2 ^ k) 2,Nat.mul_assoc]
theorem low_and{k m:Nat}(h:2 ^ k * (2 * m+1)<18446744073709551616):(2 ^ k * (2 * m+1)) &&& (18446744073709551616 - 2 ^ k * (2 * m+1))=2 ^ k:=by
 have hp:0<2 ^ k:=Nat.two_pow_pos k
 have hx:2 ^ k * (2 * m+1)=(2 ^ k * (2 * m)+(2 ^ k - 1))+1:=by rw [Nat.mul_add];omega
 have e2:18446744073709551616 - 2 ^ k * (2 * m+1)=2 ^ 64 - ((2 ^ k * (2 * m)+(2 ^ k - 1))+1):=by rw [←hx]
 have hlt:2 ^ k * (2 * m)+(2 ^ k - 1)<2 ^ 64:=by
  have:(2:Nat) ^ 64=18446744073709551616:=rfl
  omega
 refine Nat.eq_of_testBit_eq fun i=> ?_
 rw [Nat.testBit_and,e2,Nat.testBit_two_pow_sub_succ hlt,Nat.testBit_two_pow_mul_add _ (by omega),Nat.testBit_two_pow,Nat.testBit_two_pow_mul,Nat.testBit_two_pow_sub_one]
 have h64:k<64:=by
  apply Decidable.byContradiction
  intro hc
  have h1:2 ^ 64≤2 ^ k:=Nat.pow_le_pow_right (by omega) (by omega)
  have h2:2 ^ k * 1≤2 ^ k * (2 * m+1):=Nat.mul_le_mul_left _ (by omega)
  have h3:(2:Nat) ^ 64=18446744073709551616:=rfl
  omega
 by_cases h1:i<k
 ·rw [if_pos h1,decide_eq_false (show ¬ k≤i by omega),decide_eq_false (show ¬ k=i by omega)];rfl
 rw [if_neg h1,decide_eq_true (show k≤i by omega),Bool.true_and]
 by_cases h2:i=k
 ·subst h2
  rw [Nat.sub_self,decide_eq_true (show i<64 by omega),decide_eq_true rfl,Nat.testBit_zero,Nat.testBit_zero]
  rw [decide_eq_true (show (2 * m+1) % 2=1 by omega),decide_eq_false (show ¬ (2 * m) % 2=1 by omega)];rfl
 obtain ⟨j,hj⟩: ∃j,i - k=j+1:=⟨i - k - 1,by omega⟩
 rw [hj,Nat.testBit_succ,Nat.testBit_succ,show (2 * m+1) / 2=m by omega,show (2 * m) / 2=m by omega,decide_eq_false (show ¬ k=i by omega)]
 cases m.testBit j<;>cases decide (i<64)<;>rfl
theorem deB_pow: ∀k:Fin 64,u64shr (u64mul (2 ^ k.val) 285870213051353865) 58<64∧(nth deB (u64shr (u64mul (2 ^ k.val) 285870213051353865) 58) (0:UInt8)).toNat=k.val:=by decide+kernel
theorem ctz_eq{x:Nat}(h0:x≠0)(h:x<18446744073709551616): ∃k:Nat,k<64∧x.testBit k=true∧Ae_ x=some ((k:Nat):Int):=by
 obtain ⟨k,m,rfl⟩:=low_bit x h0
 have h64:k<64:=by
  apply Decidable.byContradiction
  intro hc
  have h1:2 ^ 64≤2 ^ k:=Nat.pow_le_pow_right (by omega) (by omega)
  have h2:2 ^ k * 1≤2 ^ k * (2 * m+1):=Nat.mul_le_mul_left _ (by omega)
  have h3:(2:Nat) ^ 64=18446744073709551616:=rfl
  omega
 refine ⟨k,h64,?_,?_⟩
 ·rw [Nat.testBit_two_pow_mul,Nat.sub_self,decide_eq_true (Nat.le_refl k),Nat.testBit_zero,decide_eq_true (show (2 * m+1) % 2=1 by omega)];rfl
 have hn:u64of (-((2 ^ k * (2 * m+1):Nat):Int))=18446744073709551616 - 2 ^ k * (2 * m+1):=by
  generalize 2 ^ k * (2 * m+1)=y at h h0 ⊢
  unfold u64of;omega
 have ha:u64and (2 ^ k * (2 * m+1)) (u64of (-((2 ^ k * (2 * m+1):Nat):Int)))=2 ^ k:=by
  rw [hn]
  unfold u64and
  rw [BitVec.toNat_and,BitVec.toNat_ofNat,BitVec.toNat_ofNat,Nat.mod_eq_of_lt h,Nat.mod_eq_of_lt (show 18446744073709551616 - 2 ^ k * (2 * m+1)<2 ^ 64 by
   have:(2:Nat) ^ 64=18446744073709551616:=rfl
   omega),low_and h]
 obtain ⟨h1,h2⟩:=deB_pow ⟨k,h64⟩
 dsimp only at h1 h2
 unfold Ae_
 rw [iteO_df h0,ha,grd_mk h1,h2]
theorem word_lt'(s:BSet)(i:Nat):s.word i<18446744073709551616:=BSet.word_lt s.isOk i
theorem has_bitF(s:BSet)(n:Nat):s.has n=(s.word (n / 64)).testBit (n % 64):=by
 unfold BSet.has;rw [Nat.testBit_eq_decide_div_mod_eq]
theorem first_none:Ci_ BSet.zero=some (0,false):=by
 have hb: ∀k,k<4→Ah_ BSet.zero k=some (.inl (k+1)):=fun k hk=>by
  unfold Ah_
  have:BSet.zero.word k=0:=by unfold BSet.word BSet.zero;dsimp only;repeat (first|split|rfl)
  rw [iteO_dt (by omega),grd_mk hk,iteO_df (by rw [this];simp)];rfl
 unfold Ci_
 obtain ⟨r,h,e⟩:=iter_up (step:=fun q:Nat=>Ah_ BSet.zero q) (fun (_:Unit) k=>k) 4 (fun _ _=>True) (fun r=>r=((0:UInt8),false))
  (fun k s hk _=> .inl ⟨(),hb k hk,trivial⟩) (fun s _=>⟨_,by
   show Ah_ BSet.zero 4=_
   unfold Ah_
   rw [iteO_df (by omega)];rfl,rfl⟩) (s0:=()) trivial
 rw [h,e]
theorem first_some{s:BSet}(h0:s≠BSet.zero): ∃b:UInt8,Ci_ s=some (b,true)∧s.has b.toNat=true:=by
 unfold Ci_
 obtain ⟨r,h,b,rfl,hb⟩:=iter_up (step:=fun q:Nat=>Ah_ s q) (fun (_:Unit) k=>k) 4 (fun k _=> ∀i,i<k→s.word i=0) (fun r=> ∃b:UInt8,r=(b,true)∧s.has b.toNat=true)
  (fun k u hk hI=>by
   show (∃s',Ah_ s k=_∧_)∨ ∃r,Ah_ s k=_∧_
   unfold Ah_
   by_cases hw:s.word k=0
   ·refine .inl ⟨(),?_,fun i hi=> ?_⟩
    ·rw [iteO_dt (by omega),grd_mk hk,iteO_df (by rw [hw];simp)];rfl
    by_cases e:i=k
    ·rw [e];exact hw
    exact hI i (by omega)
   obtain ⟨j,hj,ht,he⟩:=ctz_eq hw (word_lt' s k)
   have hv:(toU8 (IntKind.i64.wrap ((IntKind.i64.wrap (64 * ((k:Nat):Int)))+((j:Nat):Int)))).toNat=64 * k+j:=by
    rw [wrap64_of (a:=64 * ((k:Nat):Int)) (by omega) (by omega),wrap64_of (by omega) (by omega)]
    have:=toU8_val (64 * ((k:Nat):Int)+((j:Nat):Int))
    rw [wrap_u8]at this
    omega
   refine .inr ⟨(toU8 (IntKind.i64.wrap ((IntKind.i64.wrap (64 * ((k:Nat):Int)))+((j:Nat):Int))),true),?_,_,rfl,?_⟩
   ·rw [iteO_dt (by omega),grd_mk hk,iteO_dt hw,he];rfl
   rw [hv,has_bitF,show (64 * k+j) / 64=k by omega,show (64 * k+j) % 64=j by omega];exact ht)
  (fun u hI=>by
   refine absurd ?_ h0
   have h1:=hI 0 (by omega)
   have h2:=hI 1 (by omega)
   have h3:=hI 2 (by omega)
   have h4:=hI 3 (by omega)
   rw [←BSet.zero_iff]
   exact ⟨by rw [show s.a=0 from h1];rfl,by rw [show s.b=0 from h2];rfl,by rw [show s.c=0 from h3];rfl,by rw [show s.d=0 from h4];rfl⟩) (s0:=()) (fun i hi=>absurd hi (by omega))
 exact ⟨b,h,hb⟩
end Go.Proofs.YtnpbfjdpglfdkaaGreatDoor
end

noncomputable section
namespace Go.Proofs.YtnpbfjdpglfdkaaGreatDoor
open Go Go.E
theorem u64or_lt'(a b:Nat):u64or a b<18446744073709551616:=(BitVec.ofNat 64 a ||| BitVec.ofNat 64 b).isLt
theorem has_bit'(s:BSet)(n:Nat):s.has n=(s.word (n / 64)).testBit (n % 64):=by
  unfold BSet.has;rw [Nat.testBit_eq_decide_div_mod_eq]
theorem Iz_{s t:BSet}(h: ∀n,n<256→s.has n=t.has n):s=t:=by
  refine BSet.ext_word fun i hi=>Nat.eq_of_testBit_eq fun j=> ?_
  by_cases hj:j<64
  · have h1:=h (64 * i+j) (by omega)
    rw [has_bit',has_bit',show (64 * i+j) / 64=i by omega,show (64 * i+j) % 64=j by omega]at h1
    exact h1
  have h2: ∀u:BSet,(u.word i).testBit j=false:=fun u=>Nat.testBit_lt_two_pow (Nat.lt_of_lt_of_le (BSet.word_lt u.isOk i) (show 2 ^ 64≤2 ^ j from Nat.pow_le_pow_right (by omega) (by omega)))
  rw [h2,h2]
theorem any_eq (a b : BSet) : Ec_ a b = some (BSet.make fun n => a.has n || b.has n) := by
  have h: ∃r,Ec_ a b=some r∧ ∀i,i<4→r.word i=u64or (a.word i) (b.word i):=by
    unfold Ec_
    exact iter_up (step:=fun q:BSet×Nat=>Cc_ b q.1 q.2) (fun (s:BSet) k=>(s,k)) 4 (fun k s=> ∀i,i<4→s.word i=if i<k then u64or (a.word i) (b.word i) else a.word i) (fun r=> ∀i,i<4→r.word i=u64or (a.word i) (b.word i))
      (fun k s hk hI=> .inl ⟨BSet.setWord s k (u64or (BSet.word s k) (BSet.word b k)),by
        show Cc_ b s k=_
        unfold Cc_
        rw [iteO_dt (by omega),grd_mk hk,grd_mk hk,grd_mk hk,grd_mk (u64or_lt' _ _)];rfl,fun i hi=>by
        rw [BSet.word_set s hk _ i (u64or_lt' _ _) hi]
        by_cases e:i=k
        · subst e;rw [if_pos rfl,if_pos (by omega),hI i hi,if_neg (by omega)]
        rw [if_neg e,hI i hi]
        by_cases e2:i<k
        · rw [if_pos e2,if_pos (by omega)]
        rw [if_neg e2,if_neg (by omega)]⟩)
      (fun s hI=>⟨s,by
        show Cc_ b s 4=_
        unfold Cc_
        rw [iteO_df (by omega)];rfl,fun i hi=>by rw [hI i hi,if_pos hi]⟩) (s0:=a) (fun i hi=>by rw [if_neg (by omega)])
  obtain ⟨r,h1,h2⟩:=h
  rw [h1]
  congr 1
  refine Iz_ fun n hn=> ?_
  have l1:=BSet.word_lt a.isOk (n / 64)
  have l2:=BSet.word_lt b.isOk (n / 64)
  rw [BSet.make_has _ hn,has_bit',has_bit',has_bit',h2 _ (by omega)]
  unfold u64or
  rw [BitVec.toNat_or,BitVec.toNat_ofNat,BitVec.toNat_ofNat,Nat.mod_eq_of_lt l1,Nat.mod_eq_of_lt l2,Nat.testBit_or]
def cntS(o:Option Nat)(n:Int):Option Nat:=o.bind fun k=>if n<0∨(k:Int)<n then none else some (if n=k then k+1 else k)
def cntF(l:List Int):Option Nat:=l.foldl cntS (some 0)
theorem cntS_none: ∀l:List Int,l.foldl cntS none=none
  |[]=>rfl
  |_::l=>cntS_none l
theorem cntF_snoc(l:List Int)(n:Int):cntF (l++[n])=cntS (cntF l) n:=by simp [cntF,List.foldl_append]
theorem cntF_none{l m:List Int}(h:cntF l=none):cntF (l++m)=none:=by
  unfold cntF at h ⊢;rw [List.foldl_append,h,cntS_none]
theorem cntF_le: ∀(l:List Int) (j k:Nat),l.foldl cntS (some j)=some k→k≤j+l.length
  |[],j,k,h=>by cases h;simp
  |n::l,j,k,h=>by
    rw [List.foldl_cons]at h
    by_cases hc:n<0∨(j:Int)<n
    · rw [show cntS (some j) n=none by simp [cntS,hc],cntS_none]at h;cases h
    rw [show cntS (some j) n=some (if n=j then j+1 else j) by simp [cntS,hc]]at h
    have:=cntF_le l _ k h
    simp only [List.length_cons]
    split at this<;>omega
def clsF(cls:List Int)(k c:Nat):Nat→Bool:=fun b=>decide (b<k) && decide (nth cls b (0:Int)=((c:Nat):Int))
def clsS(cls:List Int)(c:Nat):BSet:=BSet.make fun b=>decide (nth cls b (0:Int)=((c:Nat):Int))
structure SetsI (cls:List Int) (k:Nat) (s:List BSet):Prop where
  cnt:cntF (cls.take k)=some s.length
  sets: ∀c,c<s.length→nth s c BSet.zero=BSet.make (clsF cls k c)
  low: ∀b,b<k→0≤nth cls b (0:Int)∧nth cls b (0:Int)<((s.length:Nat):Int)
  some_: ∀c,c<s.length→ ∃b,b<k∧nth cls b (0:Int)=((c:Nat):Int)
theorem nth_set'{α:Type}(l:List α)(i j:Nat)(x d:α)(hi:i<l.length):nth (l.set i x) j d=if j=i then x else nth l j d:=by
  unfold nth
  rw [List.getD_eq_getElem?_getD,List.getD_eq_getElem?_getD,List.getElem?_set]
  by_cases h:i=j
  · subst h;rw [if_pos rfl,if_pos rfl,if_pos hi];rfl
  rw [if_neg h,if_neg (fun e=>h e.symm)]
theorem nth_app_l{α:Type}(l m:List α)(j:Nat)(d:α)(h:j<l.length):nth (l++m) j d=nth l j d:=by
  unfold nth;rw [List.getD_eq_getElem?_getD,List.getD_eq_getElem?_getD,List.getElem?_append_left h]
theorem nth_app_e{α:Type}(l:List α)(x d:α):nth (l++[x]) l.length d=x:=by
  unfold nth;rw [List.getD_eq_getElem?_getD,List.getElem?_append_right (Nat.le_refl _)];simp
theorem take_cons'{l:List Int}{k:Nat}(h:k<l.length):l.take (k+1)=l.take k++[nth l k 0]:=by
  rw [List.take_add_one,getD_some l h 0];rfl
theorem of1'(k:Nat)(hk:k<256){n:Nat}(h:n<256):(BSet.ofL [toU8 ((k:Nat):Int)]).has n=decide (n=k):=by
  unfold BSet.ofL
  rw [BSet.make_has _ h]
  have:=toU8_val ((k:Nat):Int)
  rw [wrap_u8]at this
  have e:(toU8 ((k:Nat):Int)).toNat=k:=by omega
  simp [e]
theorem sets_put {cls : List Int} {k : Nat} {s l : List BSet} (hk : k < 256) (hI : SetsI cls k s) {n : Nat} (hn : nth cls k (0 : Int) = ((n : Nat) : Int)) (hle : s.length ≤ l.length) (hl : l.length ≤ s.length + 1) (hnl : n < l.length) (hs : ∀ c, c < s.length → nth l c BSet.zero = nth s c BSet.zero) (hz : s.length < l.length → n = s.length ∧ nth l n BSet.zero = BSet.zero)
    (hc:cntF (cls.take (k+1))=some l.length):SetsI cls (k+1) (l.set n (BSet.make fun b=>(nth l n BSet.zero).has b || (BSet.ofL [toU8 ((k:Nat):Int)]).has b)) where
  cnt:=by rw [List.length_set];exact hc
  sets := fun c hcl => by
    rw [List.length_set]at hcl
    rw [nth_set' _ _ _ _ _ hnl]
    by_cases e:c=n
    · subst e
      rw [if_pos rfl]
      refine BSet.make_congr fun b hb=> ?_
      rw [of1' k hk hb]
      have h0:(nth l c BSet.zero).has b=clsF cls k c b:=by
        by_cases h1:c<s.length
        · rw [hs c h1,hI.sets c h1,BSet.make_has _ hb]
        have h2:=hz (by omega)
        rw [h2.2]
        have h3:clsF cls k c b=false:=by
          unfold clsF
          by_cases hbk:b<k
          · have:=(hI.low b hbk).2
            rw [decide_eq_false (show ¬ nth cls b (0:Int)=((c:Nat):Int) by omega),Bool.and_false]
          rw [decide_eq_false hbk,Bool.false_and]
        rw [h3,←BSet.make_zero,BSet.make_has _ hb]
      rw [h0]
      unfold clsF
      by_cases hb2:b=k
      · subst hb2;rw [hn];simp
      by_cases hb3:b<k
      · rw [decide_eq_true hb3,decide_eq_true (show b<k+1 by omega),decide_eq_false hb2,Bool.or_false]
      rw [decide_eq_false hb3,decide_eq_false (show ¬ b<k+1 by omega),decide_eq_false hb2];rfl
    rw [if_neg e]
    have h1:c<s.length:=by
      by_cases h2:s.length<l.length
      · have:=(hz h2).1;omega
      omega
    rw [hs c h1,hI.sets c h1]
    refine BSet.make_congr fun b hb=> ?_
    unfold clsF
    by_cases hb2:b=k
    · subst hb2
      rw [decide_eq_false (Nat.lt_irrefl _),hn,decide_eq_false (show ¬ ((n:Nat):Int)=((c:Nat):Int) by omega)];simp
    rw [decide_eq_decide.2 (show b<k↔b<k+1 by omega)]
  low:=fun b hb=>by
    rw [List.length_set]
    by_cases e:b=k
    · subst e;rw [hn];omega
    have:=hI.low b (by omega);omega
  some_:=fun c hcl=>by
    rw [List.length_set]at hcl
    by_cases h1:c<s.length
    · obtain ⟨b,h2,h3⟩:=hI.some_ c h1;exact ⟨b,by omega,h3⟩
    have h2:=hz (by omega)
    exact ⟨k,by omega,by rw [hn];omega⟩
theorem partSets_full (cls : List Int) : ∃ r, Dv_ cls = some r ∧ (((cls.length ≠ 256 ∨ cntF cls = none) ∧ r.2 = 1) ∨ (cls.length = 256 ∧ cntF cls = some r.1.length ∧ r.2 = 0 ∧ (∀ c, c < r.1.length → nth r.1 c BSet.zero = clsS cls c) ∧ ∀ c, c < r.1.length → ∃ b, b < 256 ∧ nth cls b (0 : Int) = ((c : Nat) : Int))) := by
  unfold Dv_
  by_cases h256:cls.length=256
  · rw [iteO_df (show ¬ ((cls.length:Nat):Int)≠256 by omega)]
    obtain ⟨r,h1,h2⟩:=iter_up (step:=fun q:List BSet×Nat=>A4_ cls q.1 q.2) (fun (s:List BSet) k=>(s,k)) 256 (fun k s=>SetsI cls k s) (fun r=>(cntF cls=none∧r.2=1)∨(SetsI cls 256 r.1∧r.2=0))
      (fun k s hk hI=>by
        have hk':k<cls.length:=by omega
        have hsp:cls=cls.take k++(nth cls k 0::cls.drop (k+1)):=by
          rw [←List.singleton_append,←List.append_assoc,←take_cons' hk',List.take_append_drop]
        have hle:=cntF_le _ _ _ hI.cnt
        rw [List.length_take,Nat.zero_add]at hle
        have hstop:(nth cls k 0<0∨(s.length:Int)<nth cls k 0)→cntF cls=none:=fun hc=>by
          rw [hsp,←List.singleton_append,←List.append_assoc]
          exact cntF_none (by rw [cntF_snoc,hI.cnt];simp [cntS,hc])
        have hgo: ∀l:List BSet,0≤nth cls k 0→nth cls k 0<(l.length:Int)→Cr_ cls k l=some (.inl (l.set (nth cls k (0:Int)).toNat (BSet.make fun b=>(nth l (nth cls k (0:Int)).toNat BSet.zero).has b || (BSet.ofL [toU8 ((k:Nat):Int)]).has b),k+1)):=fun l h0 h1=>by
          unfold Cr_;rw [grd_mk ⟨h0,h1⟩,grd_mk (by simp),bnd_some (any_eq _ _),grd_mk ⟨h0,h1⟩];rfl
        show (∃s',A4_ cls s k=_∧_)∨ ∃r,A4_ cls s k=_∧_
        unfold A4_
        rw [iteO_dt (by omega)]
        by_cases c1:nth cls k 0<0
        · right;rw [iteO_dt c1];exact ⟨_,rfl,.inl ⟨hstop (.inl c1),rfl⟩⟩
        rw [iteO_df c1]
        by_cases c2:(s.length:Int)<nth cls k 0
        · right;rw [iteO_dt c2];exact ⟨_,rfl,.inl ⟨hstop (.inr c2),rfl⟩⟩
        rw [iteO_df c2]
        left
        by_cases c3:nth cls k 0=(s.length:Int)
        · rw [iteO_dt c3,grd_mk (by simp;omega),hgo _ (by omega) (by simp;omega)]
          refine ⟨_,rfl,sets_put hk hI (n:=(nth cls k (0:Int)).toNat) (by omega) (by simp) (by simp) (by simp;omega) (fun c hc=>nth_app_l _ _ _ _ hc) (fun _=>⟨by omega,?_⟩) ?_⟩
          · rw [show (nth cls k (0:Int)).toNat=s.length by omega,nth_app_e]
          rw [take_cons' hk',cntF_snoc,hI.cnt];simp [cntS,c3]
        rw [iteO_df c3,hgo _ (by omega) (by omega)]
        refine ⟨_,rfl,sets_put hk hI (n:=(nth cls k (0:Int)).toNat) (by omega) (Nat.le_refl _) (by omega) (by omega) (fun _ _=>rfl) (fun h=>absurd h (Nat.lt_irrefl _)) ?_⟩
        rw [take_cons' hk',cntF_snoc,hI.cnt];simp [cntS,c3];omega)
      (fun s hI=>⟨(s,0),by
        show A4_ cls s 256=_
        unfold A4_
        rw [iteO_df (by omega)];rfl,.inr ⟨hI,rfl⟩⟩) (s0:=[]) ⟨rfl,by simp,by simp,by simp⟩
    refine ⟨r,h1,?_⟩
    rcases h2 with ⟨h2,h3⟩|⟨h2,h3⟩
    · exact .inl ⟨.inr h2,h3⟩
    have h4:=h2.cnt
    rw [List.take_of_length_le (by omega)]at h4
    refine .inr ⟨h256,h4,h3,fun c hc=> ?_,h2.some_⟩
    rw [h2.sets c hc]
    exact BSet.make_congr fun b hb=>by unfold clsF;rw [decide_eq_true hb,Bool.true_and]
  rw [iteO_dt (show ((cls.length:Nat):Int)≠256 by omega)]
  exact ⟨_,rfl,.inl ⟨.inl h256,rfl⟩⟩
end Go.Proofs.YtnpbfjdpglfdkaaGreatDoor
end

noncomputable section
namespace Go.E
open Go
structure Grow where
  f:Fst
  over:Bool
end Go.E
end

noncomputable section
namespace Go.E
open Go
def TB(X:Ctx)(R:Exit→Act→World→Prop)(c:Code)(e:Env)(σ:Store)(H:List Res):Prop:=
  ∀w a,RM X a σ w H→St X.n e a→c.wpIn (fence X.rnd) 0 X.P R a w
def TLB(X:Ctx)(ops:Array Oper)(R:Exit→Act→World→Prop)(l:List Oper)(e:Env)(σ:Store)(H:List Res):Prop:=
  ∀w a,RM X a σ w H→St X.n e a→wpListIn (fence X.rnd) 0 X.P ops R l a w
def endE(w0:World)(C:List Nat)(σ0:Store)(Post:Value→Store→List Res→Prop):Ending→World→Prop:=
  fun e w'=> ∃r σ' H',e= .returned r∧Post r σ' H'∧Reach w0 C σ0 σ' w' H'
def endR(P:Program)(fn:Func)(w0:World)(C:List Nat)(σ0:Store)(Post:Value→Store→List Res→Prop):Exit→Act→World→Prop:=
  bodyPostM (fence none) 0 P fn (endE w0 C σ0 Post)
theorem startSt{args:List Value}{n:Nat}{fn:Func}(hn:fn.ntmps=n)(ha:Nat.ble args.length n=true):St n (argEnv args) {tmps:=args.toArray++Array.replicate (fn.ntmps - args.toArray.size) undef,defers:=[]}:=by
  have:=Nat.le_of_ble_eq_true ha
  refine ⟨?_,fun t=> ?_⟩
  · simp [hn];omega
  simp only [Array.getD_eq_getD_getElem?,Array.getElem?_append,argEnv,List.getElem?_toArray,List.size_toArray,Array.getElem?_replicate]
  split
  · rfl
  rename_i hlt
  rw [List.getElem?_eq_none (by omega)]
  split<;>rfl
theorem MarksOk.start{w0:World}{H:List Res}{w:World}:MarksOk w0 none (some []) [] σ H w:=⟨(fun h=>by cases h),(fun _ h=>by cases h;rfl),fun _ h=>by cases h⟩
theorem Con.mkD{P:Program}{f:FuncId}{fn:Func}{c:Code}{args:List Value}{n:Nat}{H:List Res}{Post:Value→Store→List Res→Prop}
    (hf:P.funcs[f]? =some fn) (hb:fn.body=some c) (hn:fn.ntmps=n) (ha:Nat.ble args.length n=true)
    (h: ∀w0,TB ⟨P,w0,blks H,σ,n,none,some []⟩ (endR P fn w0 (blks H) σ Post) c (argEnv args) σ H):Con P f args.toArray σ H Post:=by
  intro w hw
  exact calls_fence.1 (callsIn_of_wp_marks (F:=fence none) (n:=0) hf hb trivial (h w w _ ⟨hw,MarksOk.start⟩ (startSt hn ha)))
def ConD(P:Program)(f:FuncId)(args:Array Value)(σ:Store)(H:List Res)(Post:Value→Store→List Res→Prop):Prop:=
  ∀w,Reach w (blks H) σ σ w H→CallsDIn (fence none) 0 P f args .returning w fun e u w'=>u= .returning∧ ∃r σ' H',e= .returned r∧Post r σ' H'∧Reach w (blks H) σ σ' w' H'
theorem ConD.mono{P:Program}{f:FuncId}{args:Array Value}{H:List Res}{Post Post':Value→Store→List Res→Prop}
    (h:ConD P f args σ H Post) (hp: ∀r σ' H',σ.le σ'→Post r σ' H'→Post' r σ' H'):ConD P f args σ H Post':=fun w hw=>
  (h w hw).mono fun _ _ _ ⟨h0,r,σ',H',h1,h2,h3⟩=>⟨h0,r,σ',H',h1,hp _ _ _ h3.le h2,h3⟩
theorem ConD.mk{P:Program}{f:FuncId}{fn:Func}{c:Code}{args:List Value}{n:Nat}{H:List Res}{Post:Value→Store→List Res→Prop}
    (hf:P.funcs[f]? =some fn) (hb:fn.body=some c) (hn:fn.ntmps=n) (ha:Nat.ble args.length n=true)
    (h: ∀w0,TC ⟨P,w0,blks H,σ,n,none,some []⟩ (retQ P fn n Post) c (argEnv args) σ H):ConD P f args.toArray σ H Post:=by
  intro w hw
  refine callsDIn_of_wp hf hb trivial (Go.wpIn_mono (h w w _ ⟨hw,MarksOk.start⟩ (startSt hn ha)) ?_)
  rintro ex a w' ⟨e',σ',H',h1,h2,⟨hex,r,H'',h3,h4,h5⟩⟩
  have hd:a.defers=[]:=h2.marks.is _ rfl
  have hfin:a.defers=[]∧ ∃v,(results fn a.tmps).run P w'= .ok v w'∧(∃r σ' H',Ending.returned v= .returned r∧Post r σ' H'∧Reach w (blks H) σ σ' w' H'):=
    ⟨hd,r,h3 w' a h1 h2.holds,r,σ',H'',rfl,h5,h2.toReach.sub h4⟩
  rcases hex with rfl|rfl
  · exact hfin
  exact hfin
section rules
variable {X:Ctx} {ops:Array Oper} {R:Exit→Act→World→Prop} {Q:QP} {e:Env} {σ:Store} {H F:List Res} {o:Oper} {rest:List Oper} {c c1 c2:Code} {fn:Func} {Post:Value→Store→List Res→Prop}
theorem endR_ret{P:Program}{w0:World}{C:List Nat}{σ0:Store}{n:Nat}: ∀ex a w,low ⟨P,w0,C,σ0,n,none,some []⟩ (retQ P fn n Post) ex a w→endR P fn w0 C σ0 Post ex a w:=by
  rintro ex a w ⟨e,σ,H,h1,h2,⟨hex,r,H',h3,h4,h5⟩⟩
  have hd:a.defers=[]:=h2.marks.is _ rfl
  have hfin:LeavesInM (fence none) 0 P fn a.tmps (endE w0 C σ0 Post) a.defers .returning w:=by
    rw [hd];exact ⟨r,h3 w a h1 h2.holds,r,σ,H',rfl,h5,h2.toReach.sub h4⟩
  rcases hex with rfl|rfl
  · exact hfin
  exact hfin
def dfrQ(P:Program)(fn:Func)(n:Nat)(Post:Value→Store→List Res→Prop)(f:FuncId)(args:List Value):QP:=fun ex e σ H=>
  (ex= .ret∨ex= .normal)∧ ∃F,Sub F H∧ConD P f args.toArray σ F fun _ σ' H'=>RetOk P fn n Post .ret e σ' H'
theorem endR_dfr{P:Program}{w0:World}{C:List Nat}{σ0:Store}{n:Nat}{f:FuncId}{cap dargs:List Value}(hp:plainF P f=true):
    ∀ex a w,low ⟨P,w0,C,σ0,n,none,some [⟨.fn (.func f) cap.toArray,dargs.toArray⟩]⟩ (dfrQ P fn n Post f (dargs++cap)) ex a w→endR P fn w0 C σ0 Post ex a w:=by
  rintro ex a w ⟨e,σ,H,h1,h2,hex,F,hs,hcon⟩
  have hd:a.defers=[⟨.fn (.func f) cap.toArray,dargs.toArray⟩]:=h2.marks.is _ rfl
  have h3:Reach w0 C σ0 σ w F:=h2.toReach.ofSub hs
  have hfin:LeavesInM (fence none) 0 P fn a.tmps (endE w0 C σ0 Post) a.defers .returning w:=by
    rw [hd]
    refine ⟨by simp,.inr ⟨(fun h=>by cases h),.func f,cap.toArray,f,(dargs++cap).toArray,rfl,?_,(fun _ _=>trivial),(hcon w h3.self).mono ?_⟩⟩
    · simp [invoke,run_callFunc hp]
    rintro _ _ w' ⟨rfl,r,σ',H',rfl,⟨-,v,H'',h4,h5,h6⟩,h7⟩
    have h8:Reach w0 C σ0 σ' w' H':=by
      have:=(show Reach w0 C σ0 σ w (F++[]) by rwa [List.append_nil]).call h7
      rwa [List.append_nil]at this
    exact ⟨v,h4 w' a h1 h8.holds,v,σ',H'',rfl,h6,h8.sub h5⟩
  rcases hex with rfl|rfl
  · exact hfin
  exact hfin
theorem TB.seq(hR: ∀ex a w,low X Q ex a w→R ex a w)(h:TC X (seqQ (TB X R c2) Q) c1 e σ H):TB X R (.seq c1 c2) e σ H:=fun w a hw ha=>
  Go.wpIn_seq (Go.wpIn_mono (h w a hw ha) fun ex a' w' ⟨e',σ',H',h1,h2,h3⟩=>by
    cases ex
    case normal=>exact h3 w' a' h2 h1
    all_goals exact hR _ _ _ ⟨e',σ',H',h1,h2,h3⟩)
theorem TB.fin(hR: ∀ex a w,low X Q ex a w→R ex a w)(h:TC X Q c e σ H):TB X R c e σ H:=fun w a hw ha=>Go.wpIn_mono (h w a hw ha) (hR)
theorem TLB.v{v:Value}{d:Nat}(hg:o.guard=none)(h:OpVal X.P X.n o e σ H v)(hd:o.dst=some d)(hn:Nat.blt d X.n=true)(k:TLB X ops R rest (upd e d v) σ H):TLB X ops R (o::rest) e σ H:=fun w a hw ha=>
  wpListIn_plain hg fun K hK=>(OpVal.ok h hd hn (K:=fun e' σ' H'=>TLB X ops R rest e' σ' H') k).at hw ha fun e' σ' H' a' w' hk hw' ha'=>hK a' w' (hk w' a' hw' ha')
theorem TLB.op(hg:o.guard=none)(h:OpOk X o e σ H (TLB X ops R rest)):TLB X ops R (o::rest) e σ H:=fun w a hw ha=>
  wpListIn_plain hg fun K hK=>h.at hw ha fun e' σ' H' a' w' hk hw' ha'=>hK a' w' (hk w' a' hw' ha')
theorem TLB.dfr{P:Program}{w0:World}{C:List Nat}{σ0:Store}{n:Nat}{f:FuncId}{cap first:Array Value}{x:Operand}{opds:Array Operand}{ts:Array TypeId}{dargs:List Value}
    (hg:o.guard=none) (hop:o.op= .defer {callee:= .value x,args:=opds,argTypes:=ts}) (hx:ev e x= .func (.func f) first cap) (hd:o.dst=none) (ha:first.toList++opds.toList.map (ev e)=dargs)
    (hK: ∀a w,RM ⟨P,w0,C,σ0,n,none,some [⟨.fn (.func f) cap,dargs.toArray⟩]⟩ a σ w H→St n e a→R .normal a w):
    TLB ⟨P,w0,C,σ0,n,none,some []⟩ ops R [o] e σ H:=fun w a hw hst=>by
  have ha':first++opds.map (ev e)=dargs.toArray:=by apply Array.ext';rw [←ha];simp
  refine wpListIn_plain hg fun K hK'=>⟨(fun _ _=>trivial),?_⟩
  have hs:(o.semAt (fence none).round a.eval).run P w= .ok (.defer ⟨.fn (.func f) cap,dargs.toArray⟩) w:=by
    rw [hst.eval',←ha']
    simp [Oper.semAt,execOp,hop,resolve,hx,Deferred.ofValue]
  show Oper.uponIn _ _ _ _ _ _ _ ((o.semAt (fence none).round a.eval).run P w)
  rw [hs,Oper.uponIn_defer,hd]
  have h0:a.defers=[]:=hw.marks.is _ rfl
  refine hK' _ _ (hK _ _ ⟨?_,⟨(fun h=>by cases h),(fun l h=> ?_),fun _ h=>by cases h⟩⟩ ⟨hst.size,hst.get⟩)
  · exact hw.toReach
  cases h;show _::a.defers=_;rw [h0]
theorem TB.seqD{id:Nat}{l:List Oper}(h:TLB X l.toArray (fun ex a w=>match ex with| .normal=>c2.wpIn (fence X.rnd) 0 X.P R a w|ex=>R ex a w) l e σ H):TB X R (.seq (.region id l.toArray false) c2) e σ H:=fun w a hw ha=>
  Go.wpIn_seq (Go.wpIn_mono (wpIn_region_lit (h w a hw ha)) fun ex a' w' hq=>by cases ex<;>exact hq)
end rules
end Go.E
end

noncomputable section
namespace Go.Proofs.YtnpbfjdpglfdkaaGreatDoor
open Go Go.E Go.E.OpVal Go.E.OpOk Go.Proofs.Tryz
theorem fo114_0:foOf Tryz.prog 114 0=some 0:=by kernel_rfl
theorem fo114_1:foOf Tryz.prog 114 1=some 4:=by kernel_rfl
theorem sz32:szOf Tryz.prog 32=some 1:=by kernel_rfl
def C5_(x0:Grow)(x1:Tip):Option (Grow):=
 iteO x0.over (some (⟨(⟨x0.f.states,x0.f.starts,x0.f.ends,x0.f.arcs⟩:Fst),true⟩:Grow)) (iteO (decide (1024≤((x0.f.starts.length:Nat):Int))) (some (⟨(⟨x0.f.states,x0.f.starts,x0.f.ends,x0.f.arcs⟩:Fst),true⟩:Grow)) (iteO (decide (1024<((x1.out.length:Nat):Int))) (some (⟨(⟨x0.f.states,x0.f.starts,x0.f.ends,x0.f.arcs⟩:Fst),true⟩:Grow)) (grd ((x0.f.starts.length+[x1].length) * 24≤140737488355328) (some (⟨(⟨x0.f.states,(x0.f.starts++[x1]),x0.f.ends,x0.f.arcs⟩:Fst),x0.over⟩:Grow)))))
theorem Gq_{x0:Grow}{x1:Tip}{r:Grow}(hh:C5_ x0 x1=some r):
  Con Tryz.prog 52 #[loc b0_0 0,.agg #[.int .i64 x1.state,.string (bs x1.out)]] σ [Res.cells b0_0 #[.int .i64 x0.f.states,.slice a0_1 x0.f.starts.length c0_2,.slice a0_3 x0.f.ends.length c0_4,.slice a0_5 x0.f.arcs.length c0_6,.bool x0.over] Eb0,Res.rowS 62 2 encTip (.slice a0_1 x0.f.starts.length c0_2) x0.f.starts,Res.rowS 62 2 encTip (.slice a0_3 x0.f.ends.length c0_4) x0.f.ends,Res.rowS 59 8 encArc (.slice a0_5 x0.f.arcs.length c0_6) x0.f.arcs] (fun v σ' H'=> ∃ao1 co2 ao3 co4 ao5 co6,v= .tuple #[]∧σ=σ'∧H'=[Res.cells b0_0 #[.int .i64 r.f.states,.slice ao1 r.f.starts.length co2,.slice ao3 r.f.ends.length co4,.slice ao5 r.f.arcs.length co6,.bool r.over] Eb0,Res.rowS 62 2 encTip (.slice ao1 r.f.starts.length co2) r.f.starts,Res.rowS 62 2 encTip (.slice ao3 r.f.ends.length co4) r.f.ends,Res.rowS 59 8 encArc (.slice ao5 r.f.arcs.length co6) r.f.arcs]):=by
 dsimp only [C5_]at hh
 refine Con.mk (n:=38) Tryz.func52 z z z (fun w0=> ?_)
 refine TC.weakR (TC.a (TL.op z (boxA z z z z (fun b108=> ?_))))
 refine TL.en (TC.seq (TC.a (TL.l z z (TL.w z (nilCheckLoc z z) (TL.w z (fieldLoc z fo114_1 z) (TL.w z (loadLoc z ag4 z (i:=1) z z) (TL.j z z (TL.split 8 z (fun h110=> ?_) (fun h110=> ?_)))))))))
 ·replace hh:=iteO_t h110 hh
  refine TL.f z (TL.f z (TL.f z (TL.f z (TL.f z (TL.f z (TL.f z (TL.w z (pickTB z z z) (TL.j z z (TL.f z (TL.f z (TL.f z (TL.f z (TL.w z (pickTB z z z) (TL.en (TC.t z ?_)))))))))))))))
  refine TC.a (TL.l z z (TL.w z (nilCheckLoc z z) (TL.w z (fieldLoc z fo114_1 z) (TL.front 1 z z (TL.op z (storeB z sz4 z z z z z ?_))))))
  refine TL.en (TC.ofSub (Sub.f [4,4,4,3] 4) (TC.ret (S.r ?_)))
  obtain rfl:=so hh
  refine ⟨_,Sub.f [3,3,3,3] 4,?_⟩
  exact ro [Res.cells b0_0 #[.int .i64 x0.f.states,.slice a0_1 x0.f.starts.length c0_2,.slice a0_3 x0.f.ends.length c0_4,.slice a0_5 x0.f.arcs.length c0_6,.bool true] Eb0,Res.rowS 62 2 encTip (.slice a0_1 x0.f.starts.length c0_2) x0.f.starts,Res.rowS 62 2 encTip (.slice a0_3 x0.f.ends.length c0_4) x0.f.ends,Res.rowS 59 8 encArc (.slice a0_5 x0.f.arcs.length c0_6) x0.f.arcs] z RVs.nil ⟨a0_1,c0_2,a0_3,c0_4,a0_5,c0_6,z,z,z⟩
 replace hh:=iteO_f h110 hh
 refine TL.g z (moveLoc (.inl z) z) (TL.g z (nilCheckLoc z z) (TL.g z (fieldLoc z fo114_0 z) (TL.g z (fieldLoc z fo25_1 z) (TL.g z (loadLoc z ag22 z (i:=1) z z) (TL.g z (lenC z underlying22 z) (TL.g z (OpVal.geq z z z) (TL.w z (pickFB z z z) (TL.j z z (TL.split 17 z (fun h111=> ?_) (fun h111=> ?_))))))))))
 ·replace hh:=iteO_t h111 hh
  replace h111:=of_decide_eq_true h111
  refine TL.f z (TL.f z (TL.f z (TL.f z (TL.w z (pickTB z z z) (TL.en (TC.t z (TC.a (TL.l z z (TL.w z (nilCheckLoc z z) (TL.w z (fieldLoc z fo114_1 z) (TL.front 1 z z (TL.op z (storeB z sz4 z z z z z ?_)))))))))))))
  refine TL.en (TC.ofSub (Sub.f [4,4,4,3] 4) (TC.ret (S.r ?_)))
  obtain rfl:=so hh
  refine ⟨_,Sub.f [3,3,3,3] 4,?_⟩
  exact ro [Res.cells b0_0 #[.int .i64 x0.f.states,.slice a0_1 x0.f.starts.length c0_2,.slice a0_3 x0.f.ends.length c0_4,.slice a0_5 x0.f.arcs.length c0_6,.bool true] Eb0,Res.rowS 62 2 encTip (.slice a0_1 x0.f.starts.length c0_2) x0.f.starts,Res.rowS 62 2 encTip (.slice a0_3 x0.f.ends.length c0_4) x0.f.ends,Res.rowS 59 8 encArc (.slice a0_5 x0.f.arcs.length c0_6) x0.f.arcs] z RVs.nil ⟨a0_1,c0_2,a0_3,c0_4,a0_5,c0_6,z,z,z⟩
 replace hh:=iteO_f h111 hh
 replace h111:=of_decide_eq_false h111
 refine TL.g z (fieldLoc z fo62_1 z) (TL.g z (loadLoc z ag9 z (i:=0) z z) (TL.g z (lenBs z underlying9 z) (TL.g z (OpVal.gtr z z z) (TL.w z (pickFB z z z) (TL.en (TC.cD z hh (fun h112 hh=> ?_) (fun h112 hh=> ?_)))))))
 ·refine TC.a (TL.l z z (TL.w z (nilCheckLoc z z) (TL.w z (fieldLoc z fo114_1 z) (TL.front 1 z z (TL.op z (storeB z sz4 z z z z z ?_))))))
  refine TL.en (TC.ofSub (Sub.f [4,4,4,3] 4) (TC.ret (S.r ?_)))
  obtain rfl:=so hh
  refine ⟨_,Sub.f [3,3,3,3] 4,?_⟩
  exact ro [Res.cells b0_0 #[.int .i64 x0.f.states,.slice a0_1 x0.f.starts.length c0_2,.slice a0_3 x0.f.ends.length c0_4,.slice a0_5 x0.f.arcs.length c0_6,.bool true] Eb0,Res.rowS 62 2 encTip (.slice a0_1 x0.f.starts.length c0_2) x0.f.starts,Res.rowS 62 2 encTip (.slice a0_3 x0.f.ends.length c0_4) x0.f.ends,Res.rowS 59 8 encArc (.slice a0_5 x0.f.arcs.length c0_6) x0.f.arcs] z RVs.nil ⟨a0_1,c0_2,a0_3,c0_4,a0_5,c0_6,z,z,z⟩
 refine TC.skip (S.n ?_)
 have u33:=grd_c hh
 replace hh:=grd_t hh
 refine TC.draw [8,9,10,11,12] (by kernel_rfl) (TA.a 0 z (moveLoc (.inl z) z) z (TA.a 1 z (moveLoc (.inl z) z) z (TA.a 2 z (nilCheckLoc z z) z (TA.a 3 z (fieldLoc z fo114_0 z) z (TA.a 4 z (fieldLoc z fo25_1 z) z (TA.b 5 z (loadLoc z ag22 z (i:=1) z z) z (TA.b 6 z (loadAll z ag62 sz62 z (i:=0) z z) z (TA.ac 7 z (OpOk.lit (enc:=encTip) [x1] z underlying22 sz62 ze62 z z z encTip_len (by decide) (by decide) Tip.zero z (by decide) z (by decide) encTip_one (fun a118 c119=>(k1 ?_)))))))))))
 refine TA.front 3 z z (TA.last 8 (by kernel_rfl) z z z (appendS z z underlying22 sz62 by62 ze62 z z (by decide) z z z (.inr ⟨_,0,z⟩) (by simpa using u33) (by decide) (fun a121 c122=> ?_)))
 refine TZ.v 9 (by kernel_rfl) z z z (nilCheckLoc z z) z z (TZ.v 10 (by kernel_rfl) z z z (fieldLoc z fo114_0 z) z z (TZ.v 11 (by kernel_rfl) z z z (fieldLoc z fo25_1 z) z z (TZ.front 3 z z (TZ.last 12 (by kernel_rfl) z z z (storeSl z sz22 z z z z z ?_)))))
 refine TZ.done (by kernel_rfl) ?_
 obtain rfl:=so hh
 refine ⟨_,Sub.f [5,5,3,3] 4,?_⟩
 exact RetOk.mk' (rs:=[]) [Res.cells b0_0 #[.int .i64 x0.f.states,.slice a121 ((x0.f.starts++[x1]).length) c122,.slice a0_3 x0.f.ends.length c0_4,.slice a0_5 x0.f.arcs.length c0_6,.bool x0.over] Eb0,Res.rowS 62 2 encTip (.slice a121 (x0.f.starts++[x1]).length c122) (x0.f.starts++[x1]),Res.rowS 62 2 encTip (.slice a0_3 x0.f.ends.length c0_4) x0.f.ends,Res.rowS 59 8 encArc (.slice a0_5 x0.f.arcs.length c0_6) x0.f.arcs] z (.inr z) RVs.nil (List.sublist_append_left _ _) ⟨a121,c122,a0_3,c0_4,a0_5,c0_6,z,z,z⟩
def Dt_(x0:Grow)(x1:Tip):Option (Grow):=
 iteO x0.over (some (⟨(⟨x0.f.states,x0.f.starts,x0.f.ends,x0.f.arcs⟩:Fst),true⟩:Grow)) (iteO (decide (1024≤((x0.f.ends.length:Nat):Int))) (some (⟨(⟨x0.f.states,x0.f.starts,x0.f.ends,x0.f.arcs⟩:Fst),true⟩:Grow)) (iteO (decide (1024<((x1.out.length:Nat):Int))) (some (⟨(⟨x0.f.states,x0.f.starts,x0.f.ends,x0.f.arcs⟩:Fst),true⟩:Grow)) (grd ((x0.f.ends.length+[x1].length) * 24≤140737488355328) (some (⟨(⟨x0.f.states,x0.f.starts,(x0.f.ends++[x1]),x0.f.arcs⟩:Fst),x0.over⟩:Grow)))))
theorem Ha_{x0:Grow}{x1:Tip}{r:Grow}(hh:Dt_ x0 x1=some r):
  Con Tryz.prog 53 #[loc b0_0 0,.agg #[.int .i64 x1.state,.string (bs x1.out)]] σ [Res.cells b0_0 #[.int .i64 x0.f.states,.slice a0_1 x0.f.starts.length c0_2,.slice a0_3 x0.f.ends.length c0_4,.slice a0_5 x0.f.arcs.length c0_6,.bool x0.over] Eb0,Res.rowS 62 2 encTip (.slice a0_1 x0.f.starts.length c0_2) x0.f.starts,Res.rowS 62 2 encTip (.slice a0_3 x0.f.ends.length c0_4) x0.f.ends,Res.rowS 59 8 encArc (.slice a0_5 x0.f.arcs.length c0_6) x0.f.arcs] (fun v σ' H'=> ∃ao1 co2 ao3 co4 ao5 co6,v= .tuple #[]∧σ=σ'∧H'=[Res.cells b0_0 #[.int .i64 r.f.states,.slice ao1 r.f.starts.length co2,.slice ao3 r.f.ends.length co4,.slice ao5 r.f.arcs.length co6,.bool r.over] Eb0,Res.rowS 62 2 encTip (.slice ao1 r.f.starts.length co2) r.f.starts,Res.rowS 62 2 encTip (.slice ao3 r.f.ends.length co4) r.f.ends,Res.rowS 59 8 encArc (.slice ao5 r.f.arcs.length co6) r.f.arcs]):=by
 dsimp only [Dt_]at hh
 refine Con.mk (n:=38) Tryz.func53 z z z (fun w0=> ?_)
 refine TC.weakR (TC.a (TL.op z (boxA z z z z (fun b108=> ?_))))
 refine TL.en (TC.seq (TC.a (TL.l z z (TL.w z (nilCheckLoc z z) (TL.w z (fieldLoc z fo114_1 z) (TL.w z (loadLoc z ag4 z (i:=1) z z) (TL.j z z (TL.split 8 z (fun h110=> ?_) (fun h110=> ?_)))))))))
 ·replace hh:=iteO_t h110 hh
  refine TL.f z (TL.f z (TL.f z (TL.f z (TL.f z (TL.f z (TL.f z (TL.w z (pickTB z z z) (TL.j z z (TL.f z (TL.f z (TL.f z (TL.f z (TL.w z (pickTB z z z) (TL.en (TC.t z ?_)))))))))))))))
  refine TC.a (TL.l z z (TL.w z (nilCheckLoc z z) (TL.w z (fieldLoc z fo114_1 z) (TL.front 1 z z (TL.op z (storeB z sz4 z z z z z ?_))))))
  refine TL.en (TC.ofSub (Sub.f [4,4,4,3] 4) (TC.ret (S.r ?_)))
  obtain rfl:=so hh
  refine ⟨_,Sub.f [3,3,3,3] 4,?_⟩
  exact ro [Res.cells b0_0 #[.int .i64 x0.f.states,.slice a0_1 x0.f.starts.length c0_2,.slice a0_3 x0.f.ends.length c0_4,.slice a0_5 x0.f.arcs.length c0_6,.bool true] Eb0,Res.rowS 62 2 encTip (.slice a0_1 x0.f.starts.length c0_2) x0.f.starts,Res.rowS 62 2 encTip (.slice a0_3 x0.f.ends.length c0_4) x0.f.ends,Res.rowS 59 8 encArc (.slice a0_5 x0.f.arcs.length c0_6) x0.f.arcs] z RVs.nil ⟨a0_1,c0_2,a0_3,c0_4,a0_5,c0_6,z,z,z⟩
 replace hh:=iteO_f h110 hh
 refine TL.g z (moveLoc (.inl z) z) (TL.g z (nilCheckLoc z z) (TL.g z (fieldLoc z fo114_0 z) (TL.g z (fieldLoc z fo25_2 z) (TL.g z (loadLoc z ag22 z (i:=1) z z) (TL.g z (lenC z underlying22 z) (TL.g z (OpVal.geq z z z) (TL.w z (pickFB z z z) (TL.j z z (TL.split 17 z (fun h111=> ?_) (fun h111=> ?_))))))))))
 ·replace hh:=iteO_t h111 hh
  replace h111:=of_decide_eq_true h111
  refine TL.f z (TL.f z (TL.f z (TL.f z (TL.w z (pickTB z z z) (TL.en (TC.t z (TC.a (TL.l z z (TL.w z (nilCheckLoc z z) (TL.w z (fieldLoc z fo114_1 z) (TL.front 1 z z (TL.op z (storeB z sz4 z z z z z ?_)))))))))))))
  refine TL.en (TC.ofSub (Sub.f [4,4,4,3] 4) (TC.ret (S.r ?_)))
  obtain rfl:=so hh
  refine ⟨_,Sub.f [3,3,3,3] 4,?_⟩
  exact ro [Res.cells b0_0 #[.int .i64 x0.f.states,.slice a0_1 x0.f.starts.length c0_2,.slice a0_3 x0.f.ends.length c0_4,.slice a0_5 x0.f.arcs.length c0_6,.bool true] Eb0,Res.rowS 62 2 encTip (.slice a0_1 x0.f.starts.length c0_2) x0.f.starts,Res.rowS 62 2 encTip (.slice a0_3 x0.f.ends.length c0_4) x0.f.ends,Res.rowS 59 8 encArc (.slice a0_5 x0.f.arcs.length c0_6) x0.f.arcs] z RVs.nil ⟨a0_1,c0_2,a0_3,c0_4,a0_5,c0_6,z,z,z⟩
 replace hh:=iteO_f h111 hh
 replace h111:=of_decide_eq_false h111
 refine TL.g z (fieldLoc z fo62_1 z) (TL.g z (loadLoc z ag9 z (i:=0) z z) (TL.g z (lenBs z underlying9 z) (TL.g z (OpVal.gtr z z z) (TL.w z (pickFB z z z) (TL.en (TC.cD z hh (fun h112 hh=> ?_) (fun h112 hh=> ?_)))))))
 ·refine TC.a (TL.l z z (TL.w z (nilCheckLoc z z) (TL.w z (fieldLoc z fo114_1 z) (TL.front 1 z z (TL.op z (storeB z sz4 z z z z z ?_))))))
  refine TL.en (TC.ofSub (Sub.f [4,4,4,3] 4) (TC.ret (S.r ?_)))
  obtain rfl:=so hh
  refine ⟨_,Sub.f [3,3,3,3] 4,?_⟩
  exact ro [Res.cells b0_0 #[.int .i64 x0.f.states,.slice a0_1 x0.f.starts.length c0_2,.slice a0_3 x0.f.ends.length c0_4,.slice a0_5 x0.f.arcs.length c0_6,.bool true] Eb0,Res.rowS 62 2 encTip (.slice a0_1 x0.f.starts.length c0_2) x0.f.starts,Res.rowS 62 2 encTip (.slice a0_3 x0.f.ends.length c0_4) x0.f.ends,Res.rowS 59 8 encArc (.slice a0_5 x0.f.arcs.length c0_6) x0.f.arcs] z RVs.nil ⟨a0_1,c0_2,a0_3,c0_4,a0_5,c0_6,z,z,z⟩
 refine TC.skip (S.n ?_)
 have u33:=grd_c hh
 replace hh:=grd_t hh
 refine TC.draw [8,9,10,11,12] (by kernel_rfl) (TA.a 0 z (moveLoc (.inl z) z) z (TA.a 1 z (moveLoc (.inl z) z) z (TA.a 2 z (nilCheckLoc z z) z (TA.a 3 z (fieldLoc z fo114_0 z) z (TA.a 4 z (fieldLoc z fo25_2 z) z (TA.b 5 z (loadLoc z ag22 z (i:=1) z z) z (TA.b 6 z (loadAll z ag62 sz62 z (i:=0) z z) z (TA.ac 7 z (OpOk.lit (enc:=encTip) [x1] z underlying22 sz62 ze62 z z z encTip_len (by decide) (by decide) Tip.zero z (by decide) z (by decide) encTip_one (fun a118 c119=>(k1 ?_)))))))))))
 refine TA.front 4 z z (TA.last 8 (by kernel_rfl) z z z (appendS z z underlying22 sz62 by62 ze62 z z (by decide) z z z (.inr ⟨_,0,z⟩) (by simpa using u33) (by decide) (fun a121 c122=> ?_)))
 refine TZ.v 9 (by kernel_rfl) z z z (nilCheckLoc z z) z z (TZ.v 10 (by kernel_rfl) z z z (fieldLoc z fo114_0 z) z z (TZ.v 11 (by kernel_rfl) z z z (fieldLoc z fo25_2 z) z z (TZ.front 3 z z (TZ.last 12 (by kernel_rfl) z z z (storeSl z sz22 z z z z z ?_)))))
 refine TZ.done (by kernel_rfl) ?_
 obtain rfl:=so hh
 refine ⟨_,Sub.f [5,2,5,3] 4,?_⟩
 exact RetOk.mk' (rs:=[]) [Res.cells b0_0 #[.int .i64 x0.f.states,.slice a0_1 x0.f.starts.length c0_2,.slice a121 ((x0.f.ends++[x1]).length) c122,.slice a0_5 x0.f.arcs.length c0_6,.bool x0.over] Eb0,Res.rowS 62 2 encTip (.slice a0_1 x0.f.starts.length c0_2) x0.f.starts,Res.rowS 62 2 encTip (.slice a121 (x0.f.ends++[x1]).length c122) (x0.f.ends++[x1]),Res.rowS 59 8 encArc (.slice a0_5 x0.f.arcs.length c0_6) x0.f.arcs] z (.inr z) RVs.nil (List.sublist_append_left _ _) ⟨a0_1,c0_2,a121,c122,a0_5,c0_6,z,z,z⟩
def Ds_(x0:Grow)(x1:Arc):Option (Grow):=
 iteO x0.over (some (⟨(⟨x0.f.states,x0.f.starts,x0.f.ends,x0.f.arcs⟩:Fst),true⟩:Grow)) (iteO (decide (16384≤((x0.f.arcs.length:Nat):Int))) (some (⟨(⟨x0.f.states,x0.f.starts,x0.f.ends,x0.f.arcs⟩:Fst),true⟩:Grow)) (iteO (decide (1024<((x1.out.length:Nat):Int))) (some (⟨(⟨x0.f.states,x0.f.starts,x0.f.ends,x0.f.arcs⟩:Fst),true⟩:Grow)) (grd ((x0.f.arcs.length+[x1].length) * 72≤140737488355328) (some (⟨(⟨x0.f.states,x0.f.starts,x0.f.ends,(x0.f.arcs++[x1])⟩:Fst),x0.over⟩:Grow)))))
theorem Hi_{x0:Grow}{x1:Arc}{r:Grow}(hh:Ds_ x0 x1=some r):
  Con Tryz.prog 57 #[loc b0_0 0,.agg #[.int .i64 x1.frm,.int .i64 x1.to,.int .u64 ((x1.set.a:Nat):Int),.int .u64 ((x1.set.b:Nat):Int),.int .u64 ((x1.set.c:Nat):Int),.int .u64 ((x1.set.d:Nat):Int),.string (bs x1.out),.bool x1.copy]] σ [Res.cells b0_0 #[.int .i64 x0.f.states,.slice a0_1 x0.f.starts.length c0_2,.slice a0_3 x0.f.ends.length c0_4,.slice a0_5 x0.f.arcs.length c0_6,.bool x0.over] Eb0,Res.rowS 62 2 encTip (.slice a0_1 x0.f.starts.length c0_2) x0.f.starts,Res.rowS 62 2 encTip (.slice a0_3 x0.f.ends.length c0_4) x0.f.ends,Res.rowS 59 8 encArc (.slice a0_5 x0.f.arcs.length c0_6) x0.f.arcs] (fun v σ' H'=> ∃ao1 co2 ao3 co4 ao5 co6,v= .tuple #[]∧σ=σ'∧H'=[Res.cells b0_0 #[.int .i64 r.f.states,.slice ao1 r.f.starts.length co2,.slice ao3 r.f.ends.length co4,.slice ao5 r.f.arcs.length co6,.bool r.over] Eb0,Res.rowS 62 2 encTip (.slice ao1 r.f.starts.length co2) r.f.starts,Res.rowS 62 2 encTip (.slice ao3 r.f.ends.length co4) r.f.ends,Res.rowS 59 8 encArc (.slice ao5 r.f.arcs.length co6) r.f.arcs]):=by
 dsimp only [Ds_]at hh
 refine Con.mk (n:=38) Tryz.func57 z z z (fun w0=> ?_)
 refine TC.weakR (TC.a (TL.op z (boxA z z z z (fun b108=> ?_))))
 refine TL.en (TC.seq (TC.a (TL.l z z (TL.w z (nilCheckLoc z z) (TL.w z (fieldLoc z fo114_1 z) (TL.w z (loadLoc z ag4 z (i:=1) z z) (TL.j z z (TL.split 8 z (fun h110=> ?_) (fun h110=> ?_)))))))))
 ·replace hh:=iteO_t h110 hh
  refine TL.f z (TL.f z (TL.f z (TL.f z (TL.f z (TL.f z (TL.f z (TL.w z (pickTB z z z) (TL.j z z (TL.f z (TL.f z (TL.f z (TL.f z (TL.w z (pickTB z z z) (TL.en (TC.t z ?_)))))))))))))))
  refine TC.a (TL.l z z (TL.w z (nilCheckLoc z z) (TL.w z (fieldLoc z fo114_1 z) (TL.front 1 z z (TL.op z (storeB z sz4 z z z z z ?_))))))
  refine TL.en (TC.ofSub (Sub.f [4,4,4,3] 4) (TC.ret (S.r ?_)))
  obtain rfl:=so hh
  refine ⟨_,Sub.f [3,3,3,3] 4,?_⟩
  exact ro [Res.cells b0_0 #[.int .i64 x0.f.states,.slice a0_1 x0.f.starts.length c0_2,.slice a0_3 x0.f.ends.length c0_4,.slice a0_5 x0.f.arcs.length c0_6,.bool true] Eb0,Res.rowS 62 2 encTip (.slice a0_1 x0.f.starts.length c0_2) x0.f.starts,Res.rowS 62 2 encTip (.slice a0_3 x0.f.ends.length c0_4) x0.f.ends,Res.rowS 59 8 encArc (.slice a0_5 x0.f.arcs.length c0_6) x0.f.arcs] z RVs.nil ⟨a0_1,c0_2,a0_3,c0_4,a0_5,c0_6,z,z,z⟩
 replace hh:=iteO_f h110 hh
 refine TL.g z (moveLoc (.inl z) z) (TL.g z (nilCheckLoc z z) (TL.g z (fieldLoc z fo114_0 z) (TL.g z (fieldLoc z fo25_3 z) (TL.g z (loadLoc z ag23 z (i:=1) z z) (TL.g z (lenC z underlying23 z) (TL.g z (OpVal.geq z z z) (TL.w z (pickFB z z z) (TL.j z z (TL.split 17 z (fun h111=> ?_) (fun h111=> ?_))))))))))
 ·replace hh:=iteO_t h111 hh
  replace h111:=of_decide_eq_true h111
  refine TL.f z (TL.f z (TL.f z (TL.f z (TL.w z (pickTB z z z) (TL.en (TC.t z (TC.a (TL.l z z (TL.w z (nilCheckLoc z z) (TL.w z (fieldLoc z fo114_1 z) (TL.front 1 z z (TL.op z (storeB z sz4 z z z z z ?_)))))))))))))
  refine TL.en (TC.ofSub (Sub.f [4,4,4,3] 4) (TC.ret (S.r ?_)))
  obtain rfl:=so hh
  refine ⟨_,Sub.f [3,3,3,3] 4,?_⟩
  exact ro [Res.cells b0_0 #[.int .i64 x0.f.states,.slice a0_1 x0.f.starts.length c0_2,.slice a0_3 x0.f.ends.length c0_4,.slice a0_5 x0.f.arcs.length c0_6,.bool true] Eb0,Res.rowS 62 2 encTip (.slice a0_1 x0.f.starts.length c0_2) x0.f.starts,Res.rowS 62 2 encTip (.slice a0_3 x0.f.ends.length c0_4) x0.f.ends,Res.rowS 59 8 encArc (.slice a0_5 x0.f.arcs.length c0_6) x0.f.arcs] z RVs.nil ⟨a0_1,c0_2,a0_3,c0_4,a0_5,c0_6,z,z,z⟩
 replace hh:=iteO_f h111 hh
 replace h111:=of_decide_eq_false h111
 refine TL.g z (fieldLoc z fo59_3 z) (TL.g z (loadLoc z ag9 z (i:=0) z z) (TL.g z (lenBs z underlying9 z) (TL.g z (OpVal.gtr z z z) (TL.w z (pickFB z z z) (TL.en (TC.cD z hh (fun h112 hh=> ?_) (fun h112 hh=> ?_)))))))
 ·refine TC.a (TL.l z z (TL.w z (nilCheckLoc z z) (TL.w z (fieldLoc z fo114_1 z) (TL.front 1 z z (TL.op z (storeB z sz4 z z z z z ?_))))))
  refine TL.en (TC.ofSub (Sub.f [4,4,4,3] 4) (TC.ret (S.r ?_)))
  obtain rfl:=so hh
  refine ⟨_,Sub.f [3,3,3,3] 4,?_⟩
  exact ro [Res.cells b0_0 #[.int .i64 x0.f.states,.slice a0_1 x0.f.starts.length c0_2,.slice a0_3 x0.f.ends.length c0_4,.slice a0_5 x0.f.arcs.length c0_6,.bool true] Eb0,Res.rowS 62 2 encTip (.slice a0_1 x0.f.starts.length c0_2) x0.f.starts,Res.rowS 62 2 encTip (.slice a0_3 x0.f.ends.length c0_4) x0.f.ends,Res.rowS 59 8 encArc (.slice a0_5 x0.f.arcs.length c0_6) x0.f.arcs] z RVs.nil ⟨a0_1,c0_2,a0_3,c0_4,a0_5,c0_6,z,z,z⟩
 refine TC.skip (S.n ?_)
 have u33:=grd_c hh
 replace hh:=grd_t hh
 refine TC.draw [8,9,10,11,12] (by kernel_rfl) (TA.a 0 z (moveLoc (.inl z) z) z (TA.a 1 z (moveLoc (.inl z) z) z (TA.a 2 z (nilCheckLoc z z) z (TA.a 3 z (fieldLoc z fo114_0 z) z (TA.a 4 z (fieldLoc z fo25_3 z) z (TA.b 5 z (loadLoc z ag23 z (i:=1) z z) z (TA.b 6 z (loadAll z ag59 sz59 z (i:=0) z z) z (TA.ac 7 z (OpOk.lit (enc:=encArc) [x1] z underlying23 sz59 ze59 z z z encArc_len (by decide) (by decide) Arc.zero z (by decide) z (by decide) encArc_one (fun a118 c119=>(k1 ?_)))))))))))
 refine TA.front 5 z z (TA.last 8 (by kernel_rfl) z z z (appendS z z underlying23 sz59 by59 ze59 z z (by decide) z z z (.inr ⟨_,0,z⟩) (by simpa using u33) (by decide) (fun a121 c122=> ?_)))
 refine TZ.v 9 (by kernel_rfl) z z z (nilCheckLoc z z) z z (TZ.v 10 (by kernel_rfl) z z z (fieldLoc z fo114_0 z) z z (TZ.v 11 (by kernel_rfl) z z z (fieldLoc z fo25_3 z) z z (TZ.front 3 z z (TZ.last 12 (by kernel_rfl) z z z (storeSl z sz23 z z z z z ?_)))))
 refine TZ.done (by kernel_rfl) ?_
 obtain rfl:=so hh
 refine ⟨_,Sub.f [1,5,5,3] 4,?_⟩
 exact RetOk.mk' (rs:=[]) [Res.cells b0_0 #[.int .i64 x0.f.states,.slice a0_1 x0.f.starts.length c0_2,.slice a0_3 x0.f.ends.length c0_4,.slice a121 ((x0.f.arcs++[x1]).length) c122,.bool x0.over] Eb0,Res.rowS 62 2 encTip (.slice a0_1 x0.f.starts.length c0_2) x0.f.starts,Res.rowS 62 2 encTip (.slice a0_3 x0.f.ends.length c0_4) x0.f.ends,Res.rowS 59 8 encArc (.slice a121 (x0.f.arcs++[x1]).length c122) (x0.f.arcs++[x1])] z (.inr z) RVs.nil (List.sublist_append_left _ _) ⟨a0_1,c0_2,a0_3,c0_4,a121,c122,z,z,z⟩
def B1_(x0:Grow):Option (Fst×Int):=
 iteO x0.over (some ((⟨0,([]:List Tip),([]:List Tip),([]:List Arc)⟩:Fst),2)) (iteO (decide (1024<x0.f.states)) (some ((⟨0,([]:List Tip),([]:List Tip),([]:List Arc)⟩:Fst),2)) (some ((⟨x0.f.states,x0.f.starts,x0.f.ends,x0.f.arcs⟩:Fst),0)))
theorem Dl_{x0:Grow}{x2g:Int}{r:Fst×Int}(hh:B1_ x0=some r):
  ConD Tryz.prog 51 #[loc b0_0 0,loc b1_0 0,loc b2_0 0] σ [Res.cells b0_0 #[.int .i64 x0.f.states,.slice a0_1 x0.f.starts.length c0_2,.slice a0_3 x0.f.ends.length c0_4,.slice a0_5 x0.f.arcs.length c0_6,.bool x0.over] Eb0,Res.rowS 62 2 encTip (.slice a0_1 x0.f.starts.length c0_2) x0.f.starts,Res.rowS 62 2 encTip (.slice a0_3 x0.f.ends.length c0_4) x0.f.ends,Res.rowS 59 8 encArc (.slice a0_5 x0.f.arcs.length c0_6) x0.f.arcs,Res.cells b1_0 #[.int .i64 0,.slice none 0 0,.slice none 0 0,.slice none 0 0] Eb1,Res.cells b2_0 #[.int .i64 x2g] Eb2] (fun v σ' H'=> ∃ao1 co2 ao4 co5 ao7 co8,v= .tuple #[]∧RS σ' 2 encTip (.slice ao1 r.1.starts.length co2) r.1.starts∧RS σ' 2 encTip (.slice ao4 r.1.ends.length co5) r.1.ends∧RS σ' 8 encArc (.slice ao7 r.1.arcs.length co8) r.1.arcs∧H'=[Res.cells b1_0 #[.int .i64 r.1.states,.slice ao1 r.1.starts.length co2,.slice ao4 r.1.ends.length co5,.slice ao7 r.1.arcs.length co8] Eb1,Res.cells b2_0 #[.int .i64 r.2] Eb2]):=by
 dsimp only [B1_]at hh
 refine ConD.mk (n:=31) Tryz.func51 z z z (fun w0=> ?_)
 refine TC.weakR (TC.seq (TC.a (TL.l z z (TL.w z (nilCheckLoc z z) (TL.w z (fieldLoc z fo114_1 z) (TL.w z (loadLoc z ag4 z (i:=0) z z) (TL.j z z (TL.split 10 z (fun h110=> ?_) (fun h110=> ?_)))))))))
 ·replace hh:=iteO_t h110 hh
  refine TL.f z (TL.f z (TL.f z (TL.f z (TL.f z (TL.f z (TL.w z (pickTB z z z) (TL.en (TC.t z (TC.a (TL.l z z (TL.l z z (TL.w z (buildL z pl25 ze25 z) (TL.w z (nilCheckLoc z z) (TL.front 4 z z (TL.op z (storeAll z sz25 z z z z z z ?_))))))))))))))))
  refine TL.w z (nilCheckLoc z z) (TL.front 5 z z (TL.op z (storeI z sz32 z z z z z ?_)))
  refine TL.en (TC.ofSub (Sub.f [1] 2) (TC.ret (S.r ?_)))
  obtain rfl:=so hh
  refine ⟨_,Sub.f [1,1] 2,?_⟩
  exact ro [Res.cells b1_0 #[.int .i64 0,.slice none 0 0,.slice none 0 0,.slice none 0 0] Eb1,Res.cells b2_0 #[.int .i64 2] Eb2] z RVs.nil ⟨none,0,none,0,none,0,z,(RS.nilF _ encTip encTip_len),(RS.nilF _ encTip encTip_len),(RS.nilF _ encArc encArc_len),z⟩
 replace hh:=iteO_f h110 hh
 refine TL.g z (moveLoc (.inl z) z) (TL.g z (nilCheckLoc z z) (TL.g z (fieldLoc z fo114_0 z) (TL.g z (fieldLoc z fo25_0 z) (TL.g z (loadLoc z ag3 z (i:=0) z z) (TL.g z (OpVal.gtr z z z) (TL.w z (pickFB z z z) (TL.en (TC.cD z hh (fun h111 hh=> ?_) (fun h111 hh=> ?_)))))))))
 ·refine TC.a (TL.l z z (TL.l z z (TL.w z (buildL z pl25 ze25 z) (TL.w z (nilCheckLoc z z) (TL.front 4 z z (TL.op z (storeAll z sz25 z z z z z z ?_)))))))
  refine TL.w z (nilCheckLoc z z) (TL.front 5 z z (TL.op z (storeI z sz32 z z z z z ?_)))
  refine TL.en (TC.ofSub (Sub.f [1] 2) (TC.ret (S.r ?_)))
  obtain rfl:=so hh
  refine ⟨_,Sub.f [1,1] 2,?_⟩
  exact ro [Res.cells b1_0 #[.int .i64 0,.slice none 0 0,.slice none 0 0,.slice none 0 0] Eb1,Res.cells b2_0 #[.int .i64 2] Eb2] z RVs.nil ⟨none,0,none,0,none,0,z,(RS.nilF _ encTip encTip_len),(RS.nilF _ encTip encTip_len),(RS.nilF _ encArc encArc_len),z⟩
 refine TC.skip (S.n (TC.region (TL.l z z (TL.l z z (TL.l z z (TL.w z (nilCheckLoc z z) (TL.w z (fieldLoc z fo114_0 z) (TL.w z (loadLocA z ag25 sz25 z (i:=0) z z z) (TL.w z (nilCheckLoc z z) (TL.front 4 z z (TL.op z (storeAll z sz25 z z z z z z ?_))))))))))))
 refine TL.w z (nilCheckLoc z z) (TL.front 5 z z (TL.op z (storeI z sz32 z z z z z ?_)))
 refine TL.front 3 z z (TL.sealS encTip_len (fun τ114 hle113 hr112=> ?_))
 have hr112b:=hr112.rv.big
 refine TL.front 3 z z (TL.sealS encTip_len (fun τ117 hle116 hr115=> ?_))
 replace hr112:=hr112.mono hle116
 have hr115b:=hr115.rv.big
 refine TL.front 3 z z (TL.sealS encArc_len (fun τ120 hle119 hr118=> ?_))
 replace hr112:=hr112.mono hle119
 replace hr115:=hr115.mono hle119
 have hr118b:=hr118.rv.big
 refine TL.nil ?_
 obtain rfl:=so hh
 refine ⟨_,Sub.f [1] 2,?_⟩
 exact RetOk.mk' (rs:=[]) [Res.cells b1_0 #[.int .i64 x0.f.states,.slice a0_1 x0.f.starts.length c0_2,.slice a0_3 x0.f.ends.length c0_4,.slice a0_5 x0.f.arcs.length c0_6] Eb1,Res.cells b2_0 #[.int .i64 0] Eb2] z (.inr z) RVs.nil (List.sublist_append_left _ _) ⟨a0_1,c0_2,a0_3,c0_4,a0_5,c0_6,z,hr112,hr115,hr118,z⟩
end Go.Proofs.YtnpbfjdpglfdkaaGreatDoor
end

noncomputable section
namespace Go.E
open Go
@[irreducible]def arrA{α:Type}(enc:α→List Value)(l:List α):Array Value:=(l.flatMap enc).toArray
section
variable {P:Program} {n:Nat} {e:Env} {σ:Store} {H:List Res} {o:Oper} {x y:Operand} {α:Type} {enc:α→List Value} {l:List α}
end
end Go.E
end

noncomputable section
namespace Go.Proofs.YtnpbfjdpglfdkaaGreatDoor
open Go Go.E Go.E.OpVal Go.E.OpOk
end Go.Proofs.YtnpbfjdpglfdkaaGreatDoor
end

noncomputable section
namespace Go.Proofs.YtnpbfjdpglfdkaaGreatDoor
open Go Go.E Go.E.OpVal Go.E.OpOk Go.Proofs.Tryz
def Bd_(x0:List (List UInt8))(x1:List (List UInt8))(k104:Nat):Option ((Nat)⊕(Bool)):=
 iteO (decide (((k104:Nat):Int)<((x0.length:Nat):Int))) (grd (k104<x1.length) (iteO (decide ((nth x0 k104 ([]:List UInt8))≠(nth x1 k104 ([]:List UInt8)))) (fin (some false)) (nxt (k104+1)))) (fin (some true))
def Cn_(x0:List (List UInt8))(x1:List (List UInt8)):Option (Bool):=
 iteO (decide (((x0.length:Nat):Int)≠((x1.length:Nat):Int))) (some false) (iter (fun q:Nat=>Bd_ x0 x1 q) 0)
theorem Hq_{x0:List (List UInt8)}{x1:List (List UInt8)}(f0_0:RS σ 1 eS_ (.slice a0_0 x0.length c0_0) x0)(f1_0:RS σ 1 eS_ (.slice a1_0 x1.length c1_0) x1){r:Bool}(hh:Cn_ x0 x1=some r):
  Con Tryz.prog 11 #[.slice a0_0 x0.length c0_0,.slice a1_0 x1.length c1_0] σ [] (PureP (.bool r) σ):=by
 dsimp only [Cn_]at hh
 have f0_0b:=f0_0.rv.big
 have f1_0b:=f1_0.rv.big
 refine Con.mk (n:=26) Tryz.func11 z z z (fun w0=> ?_)
 refine TC.a (TL.j z z (TL.en (TC.seq (TC.a (TL.s z z (TL.w z (lenC z underlying35 z) (TL.s z z (TL.w z (lenC z underlying35 z) (TL.w z (OpVal.neq z z z) (TL.en (TC.cD z hh (fun h101 hh=> ?_) (fun h101 hh=> ?_))))))))))))
 ·refine TC.a (TL.j z z (TL.en (TC.ret (S.r ?_))))
  obtain rfl:=so hh
  exact rq [4] ⟨z,z,z⟩
 refine TC.skip (S.n (TC.seq (TC.a (TL.i z z (TL.en (TC.block (TC.loopG (α:=(Nat)×(Unit)) (rgs [(4,2),(11,15)]) (fun g=>[(5,.int .i64 ((g.1:Nat):Int))]) (fun g=>[]) (fun g=>σ) (fun g=>iter (fun q:Nat=>Bd_ x0 x1 q) g.1=some r) (fun g=>rounds (fun q:Nat=>Bd_ x0 x1 q) g.1) (0,()) (Sub.pre 0 z) z (by repeat (first|exact trivial|refine ⟨z,?_⟩)) hh (fun g1 j1 hg1=> ?_))))))))
 obtain ⟨k104,_⟩:=g1
 have hh:=hg1;clear hg1
 try dsimp only
 obtain ⟨z1,hh,hR1⟩:=iter_e hh
 dsimp only [Bd_]at hh
 refine TC.seq (TC.a (TL.i z z (TL.s z z (TL.w z (lenC z underlying35 z) (TL.w z (OpVal.lss z z z) (TL.en (TC.cD z hh (fun h105 hh=> ?_) (fun h105 hh=> ?_))))))))
 ·refine TC.skip (S.n (TC.seq (TC.block (TC.seq ?_))))
  have u19:=grd_c hh
  replace hh:=grd_t hh
  refine TC.draw [] (by kernel_rfl) (TA.a 0 z (moveSl (.inl z) z) z (TA.a 1 z (moveI (.inl z) z) z (TA.b 2 z (indexN z underlying35 sz9 z z f0_0.rv.sl (by omega)) z (TA.b 3 z (loadS1 ([]:List UInt8) z ag9 z f0_0 (by omega) z) z (TA.a 4 z (moveSl (.inl z) z) z (TA.a 5 z (moveI (.inl z) z) z (TA.b 6 z (indexN z underlying35 sz9 z z f1_0.rv.sl (by omega)) z (TA.b 7 z (loadS1 ([]:List UInt8) z ag9 z f1_0 (by omega) z) z (TA.a 8 z (neqBs z z z) z (TA.dn (S.n (TC.cD z hh (fun h106 hh=> ?_) (fun h106 hh=> ?_)))))))))))))
  ·refine TC.a (TL.j z z (TL.en (TC.ret (B.r (S.r (S.r ?_))))))
   replace hh:=fin_x hR1 hh
   refine B.r (S.r ?_)
   obtain rfl:=so hh
   exact rq [4] ⟨z,z,z⟩
  refine TC.skip (B.n (S.n (TC.region (TL.i z z (TL.w z (OpVal.succ z z z (by omega)) (TL.i z z (TL.en ?_)))))))
  obtain ⟨hh,hlt107⟩:=nxt_x hR1 hh
  exact lf ((k104+1),()) hlt107 hh (Sub.pre 0 z)
 refine TC.exit (S.x (S.x ?_))
 replace hh:=fin_x hR1 hh
 refine TC.exitHere (S.n (TC.a (TL.j z z (TL.en (TC.ret ?_)))))
 obtain rfl:=so hh
 exact rq [4] ⟨z,z,z⟩
def Bi_(x0:Fst)(i123:Int):Option (Bool):=
 iteO (decide (i123≤60)) (iteO (decide (x0.states≤20)) (some true) (some (decide (1024<x0.states)))) (some false)
def Aa_(x0:Fst)(i128:Int)(k129:Nat):Option ((Int×Nat)⊕(Bool)):=
 iteO (decide (((k129:Nat):Int)<((x0.arcs.length:Nat):Int))) (iteO (decide (i128≤60)) (nxt ((IntKind.i64.wrap (i128+(IntKind.i64.wrap (Int.tdiv ((((nth x0.arcs k129 Arc.zero).out).length:Nat):Int) 40)))),(k129+1))) (fin (Bi_ x0 i128))) (fin (Bi_ x0 i128))
def Bh_(x0:Fst)(i113:Int):Option (Bool):=
 iter (fun q:Int×Nat=>Aa_ x0 q.1 q.2) (i113,0)
def Ac_(x0:Fst)(i118:Int)(k119:Nat):Option ((Int×Nat)⊕(Bool)):=
 iteO (decide (((k119:Nat):Int)<((x0.ends.length:Nat):Int))) (iteO (decide (i118≤60)) (nxt ((IntKind.i64.wrap (i118+(IntKind.i64.wrap (Int.tdiv ((((nth x0.ends k119 Tip.zero).out).length:Nat):Int) 40)))),(k119+1))) (fin (Bh_ x0 i118))) (fin (Bh_ x0 i118))
def Bj_(x0:Fst)(i103:Int):Option (Bool):=
 iter (fun q:Int×Nat=>Ac_ x0 q.1 q.2) (i103,0)
def Ab_(x0:Fst)(i108:Int)(k109:Nat):Option ((Int×Nat)⊕(Bool)):=
 iteO (decide (((k109:Nat):Int)<((x0.starts.length:Nat):Int))) (iteO (decide (i108≤60)) (nxt ((IntKind.i64.wrap (i108+(IntKind.i64.wrap (Int.tdiv ((((nth x0.starts k109 Tip.zero).out).length:Nat):Int) 40)))),(k109+1))) (fin (Bj_ x0 i108))) (fin (Bj_ x0 i108))
def Da_(x0:Fst):Option (Bool):=
 iter (fun q:Int×Nat=>Ab_ x0 q.1 q.2) ((IntKind.i64.wrap ((IntKind.i64.wrap (((x0.starts.length:Nat):Int)+((x0.ends.length:Nat):Int)))+((x0.arcs.length:Nat):Int))),0)
theorem H2_{x0:Fst}(f0_0:RS σ 2 encTip (.slice a0_0 x0.starts.length c0_0) x0.starts)(f0_1:RS σ 2 encTip (.slice a0_1 x0.ends.length c0_1) x0.ends)(f0_2:RS σ 8 encArc (.slice a0_2 x0.arcs.length c0_2) x0.arcs){r:Bool}(hh:Da_ x0=some r):
  Con Tryz.prog 12 #[.agg #[.int .i64 x0.states,.slice a0_0 x0.starts.length c0_0,.slice a0_1 x0.ends.length c0_1,.slice a0_2 x0.arcs.length c0_2]] σ [] (PureP (.bool r) σ):=by
 dsimp only [Da_]at hh
 have f0_0b:=f0_0.rv.big
 have f0_1b:=f0_1.rv.big
 have f0_2b:=f0_2.rv.big
 refine Con.mk (n:=93) Tryz.func12 z z z (fun w0=> ?_)
 refine TC.a (TL.op z (boxA z z z z (fun b101=> ?_)))
 refine TL.j z z (TL.en (TC.a (TL.w z (fieldLoc z fo25_1 z) (TL.w z (loadLoc z ag22 z (i:=0) z z) (TL.w z (lenC z underlying22 z) (TL.w z (fieldLoc z fo25_2 z) (TL.w z (loadLoc z ag22 z (i:=0) z z) (TL.w z (lenC z underlying22 z) (TL.w z (addW z z z) (TL.w z (fieldLoc z fo25_3 z) (TL.w z (loadLoc z ag23 z (i:=0) z z) (TL.w z (lenC z underlying23 z) (TL.w z (addW z z z) (TL.i z z (TL.en ?_)))))))))))))))
 refine TC.cutG (α:=(Int)×(Unit)) (rgs [(3,2),(18,21)]) (fun g=>[(3,.int .i64 g.1)]) (fun g=>[Res.cells b101 #[.int .i64 x0.states,.slice a0_0 x0.starts.length c0_0,.slice a0_1 x0.ends.length c0_1,.slice a0_2 x0.arcs.length c0_2] 25]) (fun g=>σ) (fun g=>Bj_ x0 g.1=some r) ?_ (fun g j hg=> ?_)
 ·skip
  refine TC.a (TL.i z z (TL.en (TC.block (TC.loopG (α:=(Int×Nat)×(Unit)) (rgs [(3,2),(18,21)]) (fun g=>[(3,.int .i64 g.1.1),(4,.int .i64 ((g.1.2:Nat):Int))]) (fun g=>[Res.cells b101 #[.int .i64 x0.states,.slice a0_0 x0.starts.length c0_0,.slice a0_1 x0.ends.length c0_1,.slice a0_2 x0.arcs.length c0_2] 25]) (fun g=>σ) (fun g=>iter (fun q:Int×Nat=>Ab_ x0 q.1 q.2) g.1=some r) (fun g=>rounds (fun q:Int×Nat=>Ab_ x0 q.1 q.2) g.1) (((IntKind.i64.wrap ((IntKind.i64.wrap (((x0.starts.length:Nat):Int)+((x0.ends.length:Nat):Int)))+((x0.arcs.length:Nat):Int))),0),()) (Sub.pre 1 z) z (by repeat (first|exact trivial|refine ⟨z,?_⟩)) hh (fun g1 j1 hg1=> ?_)))))
  obtain ⟨⟨i108,k109⟩,_⟩:=g1
  have hh:=hg1;clear hg1
  try dsimp only
  obtain ⟨z1,hh,hR1⟩:=iter_e hh
  dsimp only [Ab_]at hh
  refine TC.seq (TC.a (TL.i z z (TL.w z (fieldLoc z fo25_1 z) (TL.w z (loadLoc z ag22 z (i:=0) z z) (TL.w z (lenC z underlying22 z) (TL.w z (OpVal.lss z z z) (TL.j z z (TL.split 23 z (fun h110=> ?_) (fun h110=> ?_)))))))))
  ·replace hh:=iteO_t h110 hh
   replace h110:=of_decide_eq_true h110
   refine TL.g z (moveI (.inl z) z) (TL.g z (OpVal.leq z z z) (TL.w z (pickTB z z z) (TL.en (TC.cD z hh (fun h111 hh=> ?_) (fun h111 hh=> ?_)))))
   ·refine TC.skip (S.n (TC.seq (TC.block (TC.region (TL.i z z (TL.w z (fieldLoc z fo25_1 z) (TL.w z (loadLoc z ag22 z (i:=0) z z) (TL.i z z (TL.w z (indexN z underlying22 sz62 z z f0_0.rv.sl (by omega)) (TL.w z (fieldElem z fo62_1 z f0_0.rv.sl (by omega)) (TL.w z (loadS Tip.zero z ag9 z f0_0 (by omega) (by omega) z) (TL.w z (lenBs z underlying9 z) (TL.w z (quoW z z z (by decide)) (TL.w z (addW z z z) (TL.i z z ?_)))))))))))))))
    refine TL.nil (B.n (S.n (TC.region (TL.i z z (TL.w z (OpVal.succ z z z (by omega)) (TL.i z z (TL.en ?_)))))))
    obtain ⟨hh,hlt112⟩:=nxt_x hR1 hh
    exact lf (((IntKind.i64.wrap (i108+(IntKind.i64.wrap (Int.tdiv ((((nth x0.starts k109 Tip.zero).out).length:Nat):Int) 40)))),(k109+1)),()) hlt112 hh (Sub.pre 1 z)
   refine TC.exit (S.x (S.x ?_))
   replace hh:=fin_x hR1 hh
   exact TC.exitHere (S.n (cf (i108,()) hh (Sub.pre 1 z)))
  replace hh:=iteO_f h110 hh
  replace h110:=of_decide_eq_false h110
  refine TL.f z (TL.f z (TL.w z (pickFB z z z) (TL.en (TC.f z (TC.exit (S.x (S.x ?_)))))))
  replace hh:=fin_x hR1 hh
  exact TC.exitHere (S.n (cf (i108,()) hh (Sub.pre 1 z)))
 skip
 obtain ⟨i103,_⟩:=g
 have hh:=hg;clear hg
 try dsimp only
 dsimp only [Bj_]at hh
 refine TC.cutG (α:=(Int)×(Unit)) (rgs [(3,1),(5,1),(39,21)]) (fun g=>[(3,.int .i64 g.1)]) (fun g=>[Res.cells b101 #[.int .i64 x0.states,.slice a0_0 x0.starts.length c0_0,.slice a0_1 x0.ends.length c0_1,.slice a0_2 x0.arcs.length c0_2] 25]) (fun g=>σ) (fun g=>Bh_ x0 g.1=some r) ?_ (fun g j hg=> ?_)
 ·skip
  refine TC.a (TL.i z z (TL.en (TC.block (TC.loopG (α:=(Int×Nat)×(Unit)) (rgs [(3,1),(5,1),(39,21)]) (fun g=>[(3,.int .i64 g.1.1),(5,.int .i64 ((g.1.2:Nat):Int))]) (fun g=>[Res.cells b101 #[.int .i64 x0.states,.slice a0_0 x0.starts.length c0_0,.slice a0_1 x0.ends.length c0_1,.slice a0_2 x0.arcs.length c0_2] 25]) (fun g=>σ) (fun g=>iter (fun q:Int×Nat=>Ac_ x0 q.1 q.2) g.1=some r) (fun g=>rounds (fun q:Int×Nat=>Ac_ x0 q.1 q.2) g.1) ((i103,0),()) (Sub.pre 1 z) z (by repeat (first|exact trivial|refine ⟨z,?_⟩)) hh (fun g2 j2 hg2=> ?_)))))
  obtain ⟨⟨i118,k119⟩,_⟩:=g2
  have hh:=hg2;clear hg2
  try dsimp only
  obtain ⟨z1,hh,hR1⟩:=iter_e hh
  dsimp only [Ac_]at hh
  refine TC.seq (TC.a (TL.i z z (TL.w z (fieldLoc z fo25_2 z) (TL.w z (loadLoc z ag22 z (i:=0) z z) (TL.w z (lenC z underlying22 z) (TL.w z (OpVal.lss z z z) (TL.j z z (TL.split 44 z (fun h120=> ?_) (fun h120=> ?_)))))))))
  ·replace hh:=iteO_t h120 hh
   replace h120:=of_decide_eq_true h120
   refine TL.g z (moveI (.inl z) z) (TL.g z (OpVal.leq z z z) (TL.w z (pickTB z z z) (TL.en (TC.cD z hh (fun h121 hh=> ?_) (fun h121 hh=> ?_)))))
   ·refine TC.skip (S.n (TC.seq (TC.block (TC.region (TL.i z z (TL.w z (fieldLoc z fo25_2 z) (TL.w z (loadLoc z ag22 z (i:=0) z z) (TL.i z z (TL.w z (indexN z underlying22 sz62 z z f0_1.rv.sl (by omega)) (TL.w z (fieldElem z fo62_1 z f0_1.rv.sl (by omega)) (TL.w z (loadS Tip.zero z ag9 z f0_1 (by omega) (by omega) z) (TL.w z (lenBs z underlying9 z) (TL.w z (quoW z z z (by decide)) (TL.w z (addW z z z) (TL.i z z ?_)))))))))))))))
    refine TL.nil (B.n (S.n (TC.region (TL.i z z (TL.w z (OpVal.succ z z z (by omega)) (TL.i z z (TL.en ?_)))))))
    obtain ⟨hh,hlt122⟩:=nxt_x hR1 hh
    exact lf (((IntKind.i64.wrap (i118+(IntKind.i64.wrap (Int.tdiv ((((nth x0.ends k119 Tip.zero).out).length:Nat):Int) 40)))),(k119+1)),()) hlt122 hh (Sub.pre 1 z)
   refine TC.exit (S.x (S.x ?_))
   replace hh:=fin_x hR1 hh
   exact TC.exitHere (S.n (cf (i118,()) hh (Sub.pre 1 z)))
  replace hh:=iteO_f h120 hh
  replace h120:=of_decide_eq_false h120
  refine TL.f z (TL.f z (TL.w z (pickFB z z z) (TL.en (TC.f z (TC.exit (S.x (S.x ?_)))))))
  replace hh:=fin_x hR1 hh
  exact TC.exitHere (S.n (cf (i118,()) hh (Sub.pre 1 z)))
 skip
 obtain ⟨i113,_⟩:=g
 have hh:=hg;clear hg
 try dsimp only
 dsimp only [Bh_]at hh
 refine TC.cutG (α:=(Int)×(Unit)) (rgs [(3,1),(6,1),(60,21)]) (fun g=>[(3,.int .i64 g.1)]) (fun g=>[Res.cells b101 #[.int .i64 x0.states,.slice a0_0 x0.starts.length c0_0,.slice a0_1 x0.ends.length c0_1,.slice a0_2 x0.arcs.length c0_2] 25]) (fun g=>σ) (fun g=>Bi_ x0 g.1=some r) ?_ (fun g j hg=> ?_)
 ·skip
  refine TC.a (TL.i z z (TL.en (TC.block (TC.loopG (α:=(Int×Nat)×(Unit)) (rgs [(3,1),(6,1),(60,21)]) (fun g=>[(3,.int .i64 g.1.1),(6,.int .i64 ((g.1.2:Nat):Int))]) (fun g=>[Res.cells b101 #[.int .i64 x0.states,.slice a0_0 x0.starts.length c0_0,.slice a0_1 x0.ends.length c0_1,.slice a0_2 x0.arcs.length c0_2] 25]) (fun g=>σ) (fun g=>iter (fun q:Int×Nat=>Aa_ x0 q.1 q.2) g.1=some r) (fun g=>rounds (fun q:Int×Nat=>Aa_ x0 q.1 q.2) g.1) ((i113,0),()) (Sub.pre 1 z) z (by repeat (first|exact trivial|refine ⟨z,?_⟩)) hh (fun g3 j3 hg3=> ?_)))))
  obtain ⟨⟨i128,k129⟩,_⟩:=g3
  have hh:=hg3;clear hg3
  try dsimp only
  obtain ⟨z1,hh,hR1⟩:=iter_e hh
  dsimp only [Aa_]at hh
  refine TC.seq (TC.a (TL.i z z (TL.w z (fieldLoc z fo25_3 z) (TL.w z (loadLoc z ag23 z (i:=0) z z) (TL.w z (lenC z underlying23 z) (TL.w z (OpVal.lss z z z) (TL.j z z (TL.split 65 z (fun h130=> ?_) (fun h130=> ?_)))))))))
  ·replace hh:=iteO_t h130 hh
   replace h130:=of_decide_eq_true h130
   refine TL.g z (moveI (.inl z) z) (TL.g z (OpVal.leq z z z) (TL.w z (pickTB z z z) (TL.en (TC.cD z hh (fun h131 hh=> ?_) (fun h131 hh=> ?_)))))
   ·refine TC.skip (S.n (TC.seq (TC.block (TC.region (TL.i z z (TL.w z (fieldLoc z fo25_3 z) (TL.w z (loadLoc z ag23 z (i:=0) z z) (TL.i z z (TL.w z (indexN z underlying23 sz59 z z f0_2.rv.sl (by omega)) (TL.w z (fieldElem z fo59_3 z f0_2.rv.sl (by omega)) (TL.w z (loadS Arc.zero z ag9 z f0_2 (by omega) (by omega) z) (TL.w z (lenBs z underlying9 z) (TL.w z (quoW z z z (by decide)) (TL.w z (addW z z z) (TL.i z z ?_)))))))))))))))
    refine TL.nil (B.n (S.n (TC.region (TL.i z z (TL.w z (OpVal.succ z z z (by omega)) (TL.i z z (TL.en ?_)))))))
    obtain ⟨hh,hlt132⟩:=nxt_x hR1 hh
    exact lf (((IntKind.i64.wrap (i128+(IntKind.i64.wrap (Int.tdiv ((((nth x0.arcs k129 Arc.zero).out).length:Nat):Int) 40)))),(k129+1)),()) hlt132 hh (Sub.pre 1 z)
   refine TC.exit (S.x (S.x ?_))
   replace hh:=fin_x hR1 hh
   exact TC.exitHere (S.n (cf (i128,()) hh (Sub.pre 1 z)))
  replace hh:=iteO_f h130 hh
  replace h130:=of_decide_eq_false h130
  refine TL.f z (TL.f z (TL.w z (pickFB z z z) (TL.en (TC.f z (TC.exit (S.x (S.x ?_)))))))
  replace hh:=fin_x hR1 hh
  exact TC.exitHere (S.n (cf (i128,()) hh (Sub.pre 1 z)))
 skip
 obtain ⟨i123,_⟩:=g
 have hh:=hg;clear hg
 try dsimp only
 dsimp only [Bi_]at hh
 refine TC.a (TL.i z z (TL.w z (OpVal.leq z z z) (TL.j z z (TL.split 83 z (fun h133=> ?_) (fun h133=> ?_)))))
 ·replace hh:=iteO_t h133 hh
  replace h133:=of_decide_eq_true h133
  refine TL.g z (fieldLoc z fo25_0 z) (TL.g z (loadLoc z ag3 z (i:=0) z z) (TL.g z (OpVal.leq z z z) (TL.g z (moveB (.inl z) z) (TL.split 87 z (fun h134=> ?_) (fun h134=> ?_)))))
  ·replace hh:=iteO_t h134 hh
   replace h134:=of_decide_eq_true h134
   refine TL.f z (TL.f z (TL.f z (TL.g z (pickTB z z z) (TL.w z (pickTB z z z) (TL.j z z (TL.en (TC.rt 0 ?_)))))))
   obtain rfl:=so hh
   exact rq [2] ⟨z,z,z⟩
  replace hh:=iteO_f h134 hh
  replace h134:=of_decide_eq_false h134
  refine TL.g z (fieldLoc z fo25_0 z) (TL.g z (loadLoc z ag3 z (i:=0) z z) (TL.g z (OpVal.gtr z z z) (TL.g z (pickFB z z z) (TL.w z (pickTB z z z) (TL.j z z (TL.en (TC.rt 0 ?_)))))))
  obtain rfl:=so hh
  exact rq [2] ⟨z,z,z⟩
 replace hh:=iteO_f h133 hh
 replace h133:=of_decide_eq_false h133
 refine TL.f z (TL.f z (TL.f z (TL.f z (TL.f z (TL.f z (TL.f z (TL.f z (TL.w z (pickFB z z z) (TL.j z z (TL.en (TC.rt 0 ?_)))))))))))
 obtain rfl:=so hh
 exact rq [2] ⟨z,z,z⟩
end Go.Proofs.YtnpbfjdpglfdkaaGreatDoor
end

noncomputable section
namespace Go.Proofs.YtnpbfjdpglfdkaaGreatDoor
open Go Go.E
section
variable {α:Type} [DecidableEq α] (d:α)
def ddN(l:List α):Nat→List α
  |0=>[]
  |n+1=>ddN l n++(if n=0∨nth l n d≠nth l (n - 1) d then [nth l n d] else [])
theorem mem_ddN(l:List α): ∀n,n≤l.length→ ∀x,x∈ddN d l n↔x∈l.take n
  |0,_,x=>by simp [ddN]
  | n + 1, h, x => by
    rw [ddN,take_snoc l (by omega) d,List.mem_append,List.mem_append,mem_ddN l n (by omega)]
    by_cases hc:n=0∨nth l n d≠nth l (n - 1) d
    · rw [if_pos hc]
    rw [if_neg hc]
    simp only [not_or,ne_eq,Decidable.not_not]at hc
    have:nth l n d∈l.take n:=by
      rw [hc.2]
      have h1:(l.take n)[n - 1]? =some (nth l (n - 1) d):=by rw [List.getElem?_take,if_pos (by omega)];exact getD_some l (by omega) d
      exact List.mem_of_getElem? h1
    constructor
    · rintro (h|h)
      · exact .inl h
      cases h
    rintro (h|h)
    · exact .inl h
    rw [List.mem_singleton.1 h];exact .inl this
theorem nth_set_ne{l:List α}{k i:Nat}{v:α}(h:i≠k):nth (l.set k v) i d=nth l i d:=by
  simp [nth,List.getD,List.getElem?_set,Ne.symm h]
include d in
theorem take_set_succ{l:List α}{k:Nat}{v:α}(h:k<l.length):(l.set k v).take (k+1)=l.take k++[v]:=by
  rw [take_snoc (l.set k v) (by simpa using h) d]
  congr 1
  · rw [List.take_set_of_le (Nat.le_refl _)]
  simp [nth,List.getD,h]
def gC_j(k125:Nat)(l128:List α)(k130:Nat):Option ((List α×Nat×Nat)⊕(Nat⊕List α)):=
  nxt (l128,k130,(k125+1))
def gC_b2(x0:List α)(k105:Nat)(l122:List α)(k124:Nat)(k125:Nat):Option ((List α×Nat×Nat)⊕(Nat⊕List α)):=
  iteO (decide (((k125:Nat):Int)<(((x0.length - k105):Nat):Int))) (grd (k125<(x0.length - k105)) (grd (0≤(IntKind.i64.wrap (((k125:Nat):Int) - 1))∧(IntKind.i64.wrap (((k125:Nat):Int) - 1))<((x0.length - k105):Nat)) (iteO (decide (¬ ((nth l122 (k105+k125) d)=(nth l122 (k105+(IntKind.i64.wrap (((k125:Nat):Int) - 1)).toNat) d)))) (grd (k125<(x0.length - k105)) (grd (k124<l122.length) (gC_j k125 (l122.set k124 (nth l122 (k105+k125) d)) (k124+1)))) (gC_j k125 l122 k124)))) (fin (grd (k124≤x0.length) (grd (k124≤(l122.take k124++List.replicate (l122.length - k124) d).length) (fin (some ((l122.take k124++List.replicate (l122.length - k124) d).take k124))))))
def gC_b1(x0:List α)(k105:Nat):Option ((Nat)⊕(List α)):=
  iteO (decide (((k105:Nat):Int)<((x0.length:Nat):Int))) (grd (0≤(IntKind.i64.wrap (((k105:Nat):Int) - 1))∧(IntKind.i64.wrap (((k105:Nat):Int) - 1))<(x0.length:Int)) (iteO (decide ((nth x0 k105 d)=(nth x0 ((IntKind.i64.wrap (((k105:Nat):Int) - 1)).toNat) d))) (grd (k105≤x0.length) (iter (fun q:(List α)×Nat×Nat=>gC_b2 d x0 k105 q.1 q.2.1 q.2.2) (x0,k105,1))) (nxt (k105+1)))) (fin (some x0))
def gC(x0:List α):Option (List α):=
  iteO (decide (((x0.length:Nat):Int)<2)) (some x0) (iter (fun q:Nat=>gC_b1 d x0 q) 1)
theorem wrap_pred{k:Nat}(h1:1≤k)(h2:k≤281474976710656):IntKind.i64.wrap ((k:Int) - 1)=((k - 1:Nat):Int):=by
  rw [wrap64_of (by omega) (by omega)];omega
theorem gC_in {l : List α} (hl : l.length ≤ 281474976710656) {k0 : Nat} (h0 : 1 ≤ k0) (hk : k0 < l.length) (he : nth l k0 d = nth l (k0 - 1) d) (hd : ddN d l k0 = l.take k0) :
    iter (fun q:(List α)×Nat×Nat=>gC_b2 d l k0 q.1 q.2.1 q.2.2) (l,k0,1)=some (.inr (ddN d l l.length)):=by
  refine Exists.elim (iter_run (step:=fun q:(List α)×Nat×Nat=>gC_b2 d l k0 q.1 q.2.1 q.2.2)
    (fun q=>1≤q.2.2∧k0+q.2.2≤l.length∧q.1.length=l.length∧q.2.1≤k0+q.2.2 - 1∧(∀i,k0+q.2.2 - 1≤i→nth q.1 i d=nth l i d)∧q.1.take q.2.1=ddN d l (k0+q.2.2))
    (fun r=>r= .inr (ddN d l l.length)) (fun q=>l.length - q.2.2) ?_ (l,k0,1) ⟨Nat.le_refl _,hk,rfl,by simp only;omega,fun _ _=>rfl,?_⟩) (fun r hr=>by rw [hr.1,hr.2])
  · rintro ⟨l2,k,j⟩ ⟨hj,hjl,hlen,hkj,hI,ht⟩
    simp only at hj hjl hlen hkj hI ht
    have hw:IntKind.i64.wrap ((j:Int) - 1)=((j - 1:Nat):Int):=wrap_pred hj (by omega)
    by_cases hlt:k0+j<l.length
    · left
      have e1:=hI (k0+j) (by omega)
      have e2:=hI (k0+(j - 1)) (by omega)
      simp only [gC_b2,hw,Int.toNat_natCast,decide_eq_true (show ((j:Nat):Int)<((l.length - k0:Nat):Int) by omega),iteO_true,
        grd_mk (show j<l.length - k0 by omega),grd_mk (show (0:Int)≤((j - 1:Nat):Int)∧((j - 1:Nat):Int)<((l.length - k0:Nat):Int) by omega),e1,e2]
      have e3:k0+(j - 1)=k0+j - 1:=by omega
      by_cases hc:nth l (k0+j) d=nth l (k0+(j - 1)) d
      · simp only [hc,not_true_eq_false,decide_false,iteO_false,gC_j]
        refine ⟨_,rfl,⟨by simp only;omega,by simp only;omega,hlen,by simp only;omega,fun i hi=>hI i (by simp only at hi;omega),?_⟩,by simp only;omega⟩
        simp only
        rw [ht,←Nat.add_assoc,ddN,if_neg,List.append_nil]
        rw [hc,e3];simp;omega
      simp only [hc,not_false_eq_true,decide_true,iteO_true,grd_mk (show k<l2.length by omega),gC_j]
      refine ⟨_,rfl,⟨by simp only;omega,by simp only;omega,by simp only [List.length_set];exact hlen,by simp only;omega,fun i hi=> ?_,?_⟩,by simp only;omega⟩
      · simp only at hi ⊢
        rw [nth_set_ne d (by omega)];exact hI i (by omega)
      simp only
      rw [take_set_succ d (by omega),ht,←Nat.add_assoc,ddN,if_pos]
      rw [e3]at hc;exact .inr hc
    right
    have hjl':k0+j=l.length:=by omega
    have hkl:(l2.take k).length=k:=by rw [List.length_take];omega
    refine ⟨.inr (ddN d l l.length),?_,rfl⟩
    simp only [gC_b2,decide_eq_false (show ¬ ((j:Nat):Int)<((l.length - k0:Nat):Int) by omega),iteO_false,grd_mk (show k≤l.length by omega)]
    rw [grd_mk (by rw [List.length_append,hkl];omega),List.take_append_of_le_length (by omega),List.take_of_length_le (by omega),ht,hjl']
    rfl
  simp only
  rw [ddN,if_neg (by rw [he];simp;omega),List.append_nil,hd]
theorem gC_eq {l : List α} (hl : l.length ≤ 281474976710656) : gC d l = some (ddN d l l.length) := by
  unfold gC
  by_cases h2:l.length<2
  · rw [decide_eq_true (by omega),iteO_true]
    match l,h2 with
    |[],_=>rfl
    |[x],_=>rfl
  rw [decide_eq_false (by omega),iteO_false]
  refine Exists.elim (iter_run (step:=fun q:Nat=>gC_b1 d l q) (fun k=>1≤k∧k≤l.length∧ddN d l k=l.take k) (fun r=>r=ddN d l l.length) (fun k=>l.length - k) ?_ 1 ⟨Nat.le_refl _,by omega,?_⟩) (fun r hr=>by rw [hr.1,hr.2])
  · rintro k ⟨h1,hk,hd⟩
    by_cases hlt:k<l.length
    · simp only [gC_b1,wrap_pred h1 (show k≤281474976710656 by omega),Int.toNat_natCast,decide_eq_true (show ((k:Nat):Int)<((l.length:Nat):Int) by omega),iteO_true,
        grd_mk (show (0:Int)≤((k - 1:Nat):Int)∧((k - 1:Nat):Int)<(l.length:Int) by omega)]
      by_cases hc:nth l k d=nth l (k - 1) d
      · right
        simp only [hc,decide_true,iteO_true,grd_mk hk]
        exact ⟨_,gC_in d hl h1 hlt hc hd,rfl⟩
      left
      simp only [hc,decide_false,iteO_false]
      refine ⟨k+1,rfl,⟨by omega,by omega,?_⟩,by omega⟩
      rw [ddN,if_pos (.inr hc),hd,take_snoc l hlt d]
    right
    have:k=l.length:=by omega
    refine ⟨l,?_,?_⟩
    · simp only [gC_b1,decide_eq_false (show ¬ ((k:Nat):Int)<((l.length:Nat):Int) by omega),iteO_false];rfl
    rw [←this,hd,List.take_of_length_le (by omega)]
  rw [ddN,if_pos (.inl rfl),take_snoc l (by omega) d];simp [ddN]
end
def onceL{α:Type}[DecidableEq α](d:α)(cf:α→α→Int)(l:List α):List α:=ddN d (sortL cf l) l.length
section
variable {α:Type} [DecidableEq α] {d:α} {cf:α→α→Int}
theorem Cf_(l:List α):(sortL cf l).length=l.length:=List.length_mergeSort _
theorem mem_onceL{l:List α}{x:α}:x∈onceL d cf l↔x∈l:=by
  have h:=Cf_ (cf:=cf) l
  rw [onceL,mem_ddN d _ _ (by omega),List.take_of_length_le (by omega),sortL,List.mem_mergeSort]
theorem GoodCmp.le_trans(hc:GoodCmp cf){x y z:α}(h1: ¬ cf y x<0)(h2: ¬ cf z y<0): ¬ cf z x<0:=fun h3=>by
  by_cases e:x=y
  · subst e;exact h2 h3
  by_cases e':y=z
  · subst e';exact h1 h3
  have a:=hc.anti y x;have b:=hc.anti z y;have a':=hc.eq y x;have b':=hc.eq z y
  have h4:cf y z<0:=by
    rw [hc.anti]
    have:cf z y≠0:=fun h=>e' ((b'.1 h).symm)
    omega
  exact h1 (hc.trans _ _ _ h4 h3)
theorem Je_(hc:GoodCmp cf)(l:List α):(sortL cf l).Pairwise fun x y=> ¬ cf y x<0:=by
  have:=List.pairwise_mergeSort (le:=fun x y=> !decide (cf y x<0)) (fun a b c h1 h2=>by
    simp only [Bool.not_eq_true',decide_eq_false_iff_not]at *
    exact hc.le_trans h1 h2) (fun a b=>by
    have:=hc.anti a b
    simp only [Bool.or_eq_true,Bool.not_eq_true',decide_eq_false_iff_not];omega) l
  exact this.imp fun h=>by simpa using h
theorem sorted_onceL (hc : GoodCmp cf) (l : List α) : (onceL d cf l).Pairwise fun x y => cf x y < 0 := by
  have hs:=Je_ hc l
  have hlen:=Cf_ (cf:=cf) l
  unfold onceL
  generalize sortL cf l=s at hs hlen
  have key: ∀n,n≤s.length→(ddN d s n).Pairwise fun x y=>cf x y<0:=by
    intro n
    induction n with
    |zero=>intro _;exact List.Pairwise.nil
    |succ n ih=>
      intro h
      rw [ddN]
      split
      · rename_i hn
        rw [List.pairwise_append]
        refine ⟨ih (by omega),List.pairwise_singleton ..,fun x hx y hy=> ?_⟩
        rw [List.mem_singleton.1 hy]
        rw [mem_ddN d s n (by omega)]at hx
        have hn0:n≠0:=fun e=>by subst e;simp at hx
        have hne:nth s n d≠nth s (n - 1) d:=by rcases hn with h|h;exact absurd h hn0;exact h
        obtain ⟨i,hi,hxi⟩:=List.mem_iff_getElem.1 hx
        have hi':i<n:=by simp at hi;omega
        have hxi:s[i]'(by omega)=x:=by rw [←hxi,List.getElem_take]
        have hp:=List.pairwise_iff_getElem.1 hs
        have eN: ∀{k:Nat} (hk:k<s.length),nth s k d=s[k]:=fun hk=>by simp [nth,List.getD,hk]
        rw [eN (by omega),eN (by omega)]at hne
        rw [eN (by omega)]
        have h1:cf (s[n - 1]'(by omega)) (s[n]'(by omega))<0:=by
          have:=hp (n - 1) n (by omega) (by omega) (by omega)
          have a:=hc.anti (s[n - 1]'(by omega)) (s[n]'(by omega))
          have b:=hc.eq (s[n]'(by omega)) (s[n - 1]'(by omega))
          have:cf (s[n]'(by omega)) (s[n - 1]'(by omega))≠0:=fun h=>hne (b.1 h)
          omega
        by_cases hin:i=n - 1
        · subst hin;rw [←hxi];exact h1
        have h2:=hp i (n - 1) (by omega) (by omega) (by omega)
        rw [hxi]at h2
        by_cases e:x=s[n - 1]'(by omega)
        · rw [e];exact h1
        refine hc.trans _ _ _ ?_ h1
        have a:=hc.anti x (s[n - 1]'(by omega))
        have b:=hc.eq (s[n - 1]'(by omega)) x
        have:cf (s[n - 1]'(by omega)) x≠0:=fun h=>e (b.1 h).symm
        omega
      rw [List.append_nil];exact ih (by omega)
  exact key _ (by omega)
theorem rising_ext{R:α→α→Prop}(hi: ∀x, ¬ R x x)(ht: ∀x y z,R x y→R y z→R x z): ∀{l m:List α},l.Pairwise R→m.Pairwise R→(∀x,x∈l↔x∈m)→l=m
  |[],[],_,_,_=>rfl
  |[],y::m,_,_,h=>by have:=(h y).2 (List.mem_cons_self ..);cases this
  |x::l,[],_,_,h=>by have:=(h x).1 (List.mem_cons_self ..);cases this
  | x :: l, y :: m, hl, hm, h => by
    rw [List.pairwise_cons]at hl hm
    have e:x=y:=by
      have h1:=(h x).1 (List.mem_cons_self ..)
      have h2:=(h y).2 (List.mem_cons_self ..)
      rw [List.mem_cons]at h1 h2
      rcases h1 with h1|h1
      · exact h1
      rcases h2 with h2|h2
      · exact h2.symm
      exact absurd (ht _ _ _ (hm.1 x h1) (hl.1 y h2)) (hi y)
    subst e
    rw [rising_ext hi ht hl.2 hm.2 fun z=> ?_]
    have:=h z
    simp only [List.mem_cons]at this
    constructor
    · intro hz
      rcases this.1 (.inr hz)with e|h'
      · subst e;exact absurd (hl.1 z hz) (hi z)
      exact h'
    intro hz
    rcases this.2 (.inr hz)with e|h'
    · subst e;exact absurd (hm.1 z hz) (hi z)
    exact h'
theorem GoodCmp.irr(hc:GoodCmp cf)(x:α): ¬ cf x x<0:=by have:=(hc.eq x x).2 rfl;omega
theorem rising_eq(hc:GoodCmp cf){l m:List α}(hl:l.Pairwise fun x y=>cf x y<0)(hm:m.Pairwise fun x y=>cf x y<0)(h: ∀x,x∈l↔x∈m):l=m:=
  rising_ext (R:=fun x y=>cf x y<0) hc.irr hc.trans hl hm h
theorem Jw_(hc:GoodCmp cf){l m:List α}(h: ∀x,x∈l↔x∈m):onceL d cf l=onceL d cf m:=
  rising_eq hc (sorted_onceL hc l) (sorted_onceL hc m) fun x=>by rw [mem_onceL,mem_onceL,h]
theorem Hf_(hc:GoodCmp cf){l:List α}(h:l.Pairwise fun x y=>cf x y<0):onceL d cf l=l:=rising_eq hc (sorted_onceL hc l) h fun x=>mem_onceL
theorem I0_(l:List α):(onceL d cf l).length≤l.length:=by
  have h: ∀(s:List α) n,(ddN d s n).length≤n:=fun s n=>by
    induction n with
    |zero=>exact Nat.le_refl _
    |succ n ih=>rw [ddN,List.length_append];split<;>simp<;>omega
  exact h _ _
end
end Go.Proofs.YtnpbfjdpglfdkaaGreatDoor
end

noncomputable section
namespace Go.Proofs.YtnpbfjdpglfdkaaGreatDoor
open Go Go.E
theorem J3_:compactS=gC ([]:List UInt8):=rfl
theorem J2_:compactI=gC (0:Int):=rfl
theorem J6_:compactT=gC Tip.zero:=rfl
theorem J9_:compactA=gC Arc.zero:=rfl
theorem Kj_{l:List (List UInt8)}(h:l.length * 16≤140737488355328):onceS l=some (onceL [] Lib.compareBytes l):=by
  rw [onceS,grd_mk h,J3_,gC_eq [] (by rw [Cf_];omega),Cf_];rfl
theorem Kl_{l:List Int}(h:l.length * 8≤140737488355328):onceI l=some (onceL 0 cmpI l):=by
  rw [onceI,grd_mk h,J2_,gC_eq 0 (by rw [Cf_];omega),Cf_];rfl
theorem Jl_{l:List Tip}(h:l.length * 24≤140737488355328):onceT l=some (onceL Tip.zero cmpTip l):=by
  rw [onceT,grd_mk h,J6_,gC_eq Tip.zero (by rw [Cf_];omega),Cf_];rfl
theorem Km_{l:List Arc}(h:l.length * 72≤140737488355328):onceA l=some (onceL Arc.zero cmpArc l):=by
  rw [onceA,grd_mk h,J9_,gC_eq Arc.zero (by rw [Cf_];omega),Cf_];rfl
end Go.Proofs.YtnpbfjdpglfdkaaGreatDoor
end

noncomputable section
namespace Go.Proofs.YtnpbfjdpglfdkaaGreatDoor
open Go Go.E
def tipB(n:Int)(p:Tip):Bool:=decide (0≤p.state) && decide (p.state<n) && decide ((p.out.length:Int)≤1024)
def tipsB(l:List Tip)(n:Int):Bool:=decide ((l.length:Int)≤1024) && l.all (tipB n)
def arcB(n:Int)(a:Arc):Bool:=decide (0≤a.frm) && decide (a.frm<n) && decide (0≤a.to) && decide (a.to<n) && decide (a.set≠BSet.zero) && decide ((a.out.length:Int)≤1024)
def fstB(t:Fst):Bool:=decide (0≤t.states) && decide (t.states≤1024) && decide ((t.arcs.length:Int)≤16384) && tipsB t.starts t.states && tipsB t.ends t.states && t.arcs.all (arcB t.states)
theorem Fp_(s n:Int):Ep_ s n=some (decide (0≤s) && decide (s<n)):=by
  unfold Ep_
  by_cases h:0≤s<;>simp [h]
theorem rightTips_eq (l : List Tip) (n : Int) : Dc_ l n = some (tipsB l n) := by
  unfold Dc_ tipsB
  by_cases h:(l.length:Int)≤1024
  · rw [decide_eq_false (by omega),iteO_false,iter_all (y:=true) (no:=false) l Tip.zero (tipB n)]
    · rw [decide_eq_true h,Bool.true_and];cases l.all (tipB n)<;>rfl
    · intro k hk hp
      simp only [tipB,Bool.and_eq_true,decide_eq_true_eq]at hp
      simp only [B4_,lt_dec hk,iteO_true,Fp_,bnd,Option.bind_some,hp.1.1,hp.1.2,decide_true,Bool.and_self,Bool.not_true,iteO_false,decide_eq_false (show ¬ (1024:Int)<((nth l k Tip.zero).out.length:Int) by omega)];rfl
    · intro k hk hp
      simp only [B4_,lt_dec hk,iteO_true,Fp_,bnd,Option.bind_some]
      by_cases hc:(decide (0≤(nth l k Tip.zero).state) && decide ((nth l k Tip.zero).state<n))=true
      · rw [hc]
        simp only [tipB,hc,Bool.true_and,decide_eq_false_iff_not]at hp
        simp only [Bool.not_true,iteO_false,decide_eq_true (show (1024:Int)<((nth l k Tip.zero).out.length:Int) by omega),iteO_true];rfl
      simp only [Bool.not_eq_true]at hc
      rw [hc];rfl
    simp only [B4_,Int.lt_irrefl,decide_false,iteO_false];rfl
  rw [decide_eq_true (by omega),iteO_true];simp [h]
theorem Be_(t:Fst):B6_ t=some (errB (fstB t)):=by
  unfold B6_
  by_cases h1:t.states<0
  · rw [decide_eq_true h1,iteO_true];simp [fstB,errB,show ¬ 0≤t.states by omega]
  rw [decide_eq_false h1,iteO_false]
  by_cases h2:1024<t.states
  · rw [decide_eq_true h2,iteO_true];simp [fstB,errB,show ¬ t.states≤1024 by omega]
  rw [decide_eq_false h2,iteO_false]
  by_cases h3:(16384:Int)<(t.arcs.length:Int)
  · rw [decide_eq_true h3,iteO_true];simp only [fstB,decide_eq_false (show ¬ (t.arcs.length:Int)≤16384 by omega),Bool.and_false,Bool.false_and];rfl
  rw [decide_eq_false h3,iteO_false,rightTips_eq,bnd,Option.bind_some]
  have e0:fstB t=(tipsB t.starts t.states && tipsB t.ends t.states && t.arcs.all (arcB t.states)):=by
    simp only [fstB,decide_eq_true (show 0≤t.states by omega),decide_eq_true (show t.states≤1024 by omega),decide_eq_true (show (t.arcs.length:Int)≤16384 by omega),Bool.true_and]
  rw [e0]
  cases h4:tipsB t.starts t.states
  · rfl
  simp only [Bool.not_true,iteO_false,rightTips_eq,bnd,Option.bind_some]
  cases h5:tipsB t.ends t.states
  · rfl
  simp only [Bool.not_true,iteO_false,Bool.and_self,Bool.true_and]
  rw [iter_all (y:=0) (no:=1) t.arcs Arc.zero (arcB t.states)]
  · rfl
  · intro k hk hp
    simp only [arcB,Bool.and_eq_true,decide_eq_true_eq]at hp
    obtain ⟨⟨⟨⟨⟨p1,p2⟩,p3⟩,p4⟩,p5⟩,p6⟩:=hp
    simp only [C6_,lt_dec hk,iteO_true,Fp_,bnd,Option.bind_some,p1,p2,p3,p4,p5,decide_true,decide_false,Bool.and_self,Bool.not_true,iteO_false,decide_eq_false (show ¬ (1024:Int)<((nth t.arcs k Arc.zero).out.length:Int) by omega)];rfl
  · intro k hk hp
    simp only [C6_,lt_dec hk,iteO_true,Fp_,bnd,Option.bind_some]
    cases hc:(decide (0≤(nth t.arcs k Arc.zero).frm) && decide ((nth t.arcs k Arc.zero).frm<t.states))
    · rfl
    cases hd:(decide (0≤(nth t.arcs k Arc.zero).to) && decide ((nth t.arcs k Arc.zero).to<t.states))
    · rfl
    simp only [Bool.not_true,iteO_false]
    by_cases he:(nth t.arcs k Arc.zero).set=BSet.zero
    · rw [decide_eq_true he];rfl
    rw [decide_eq_false he,iteO_false]
    have hd':(decide (0≤(nth t.arcs k Arc.zero).frm) && decide ((nth t.arcs k Arc.zero).frm<t.states) && decide (0≤(nth t.arcs k Arc.zero).to) && decide ((nth t.arcs k Arc.zero).to<t.states))=true:=by rw [Bool.and_assoc,hc,hd];rfl
    simp only [arcB,hd',Bool.true_and,ne_eq,he,not_false_eq_true,decide_true,decide_eq_false_iff_not]at hp
    rw [decide_eq_true (by omega)];rfl
  simp only [C6_,Int.lt_irrefl,decide_false,iteO_false];rfl
theorem errB_ne{b:Bool}:decide (errB b≠0)= !b:=by cases b<;>rfl
def outOf(p:FPair)(a:Arc)(b:UInt8):List UInt8:=if a.copy then (p.out++a.out)++[b] else p.out++a.out
def aftA(g:List Arc)(p:FPair)(b:UInt8):List FPair:=(g.filter fun a=>a.set.has b.toNat).map fun a=>⟨a.to,outOf p a b⟩
def aftP(t:Fst)(S:List FPair)(b:UInt8):List FPair:=S.flatMap fun p=>aftA (t.arcs.filter fun a=>decide (a.frm=p.state)) p b
def tp(x:Tip):FPair:=⟨x.state,x.out⟩
def pairsL(t:Fst)(w:List UInt8):List FPair:=w.foldl (aftP t) (t.starts.map tp)
def fitsB(t:Fst)(w:List UInt8):Bool:=(List.range w.length).all fun k=>decide (card (pairsL t (w.take (k+1)))≤4096)
def endT(t:Fst)(S:List FPair):List (List UInt8):=S.flatMap fun p=>((t.ends.filter fun e=>decide (e.state=p.state)).map Tip.out).map fun o=>p.out++o
def outsL(t:Fst)(w:List UInt8):List (List UInt8):=onceL [] Lib.compareBytes (endT t (pairsL t w))
theorem mem_aftA{g:List Arc}{p q:FPair}{b:UInt8}:q∈aftA g p b↔ ∃a∈g,a.set.has b.toNat=true∧q=⟨a.to,outOf p a b⟩:=by
  simp only [aftA,List.mem_map,List.mem_filter]
  constructor
  · rintro ⟨a,⟨h1,h2⟩,h3⟩;exact ⟨a,h1,h2,h3.symm⟩
  rintro ⟨a,h1,h2,h3⟩;exact ⟨a,⟨h1,h2⟩,h3.symm⟩
theorem mem_aftP{t:Fst}{S:List FPair}{b:UInt8}{q:FPair}:q∈aftP t S b↔ ∃p∈S, ∃a∈t.arcs,a.frm=p.state∧a.set.has b.toNat=true∧q=⟨a.to,outOf p a b⟩:=by
  simp only [aftP,List.mem_flatMap,mem_aftA,List.mem_filter,decide_eq_true_eq]
  constructor
  · rintro ⟨p,h1,a,⟨h2,h3⟩,h4,h5⟩;exact ⟨p,h1,a,h2,h3,h4,h5⟩
  rintro ⟨p,h1,a,h2,h3,h4,h5⟩;exact ⟨p,h1,a,⟨h2,h3⟩,h4,h5⟩
theorem aftA_snoc(g:List Arc)(a:Arc)(p:FPair)(b:UInt8):aftA (g++[a]) p b=aftA g p b++(if a.set.has b.toNat then [⟨a.to,outOf p a b⟩] else []):=by
  rw [aftA,List.filter_append,List.map_append]
  cases h:a.set.has b.toNat<;>simp [aftA,h]
theorem b2_step(x0:List (List Arc))(z:FPair×Unit)(b:UInt8)(S:List FPair)(hS:card S≤4096)(hz:z.1.out.length≤100000000)(hg: ∀a∈nth x0 z.1.state.toNat [],a.out.length≤1024):
    iter (fun q:(FM FPair Unit)×Nat=>B7_ x0 z b q.1 q.2) (FM.ofL S,0)=
      some (if card (S++aftA (nth x0 z.1.state.toNat []) z.1 b)≤4096 then .inl (FM.ofL (S++aftA (nth x0 z.1.state.toNat []) z.1 b)) else .inr (FM.emp,false)):=by
  generalize hgd:nth x0 z.1.state.toNat ([]:List Arc)=g at hg
  refine Exists.elim (iter_run (step:=fun q:(FM FPair Unit)×Nat=>B7_ x0 z b q.1 q.2)
    (fun q=>q.2≤g.length∧q.1=FM.ofL (S++aftA (g.take q.2) z.1 b)∧card (S++aftA (g.take q.2) z.1 b)≤4096)
    (fun r=>r=if card (S++aftA g z.1 b)≤4096 then .inl (FM.ofL (S++aftA g z.1 b)) else .inr (FM.emp,false)) (fun q=>g.length - q.2) ?_ (FM.ofL S,0) ⟨Nat.zero_le _,by simp [aftA],by simpa [aftA]using hS⟩) (fun r hr=>by rw [hr.1,hr.2])
  rintro ⟨m,k⟩ ⟨hk,hm,hc⟩
  simp only at hk hm hc
  subst hm
  by_cases hlt:k<g.length
  · have hmem:nth g k Arc.zero∈g:=nth_mem' hlt _
    have ho:=hg _ hmem
    have hsn:aftA (g.take (k+1)) z.1 b=aftA (g.take k) z.1 b++(if (nth g k Arc.zero).set.has b.toNat then [⟨(nth g k Arc.zero).to,outOf z.1 (nth g k Arc.zero) b⟩] else []):=by rw [take_snoc g hlt Arc.zero,aftA_snoc]
    cases hh:(nth g k Arc.zero).set.has b.toNat
    · left
      rw [hh]at hsn
      refine ⟨(FM.ofL (S++aftA (g.take k) z.1 b),k+1),?_,⟨by simp only;omega,by simp only [hsn];simp,by simp only [hsn];simpa using hc⟩,by simp only;omega⟩
      simp only [B7_,hgd,lt_dec hlt,iteO_true,hh,Bool.not_false];rfl
    rw [hh]at hsn
    simp only [if_true]at hsn
    have hout:B7_ x0 z b (FM.ofL (S++aftA (g.take k) z.1 b)) k=Eb_ (FM.ofL (S++aftA (g.take k) z.1 b)) x0 z k (outOf z.1 (nth g k Arc.zero) b):=by
      simp only [B7_,hgd,lt_dec hlt,iteO_true,hh,Bool.not_true,iteO_false]
      rw [grd_mk (by omega)]
      unfold outOf
      cases (nth g k Arc.zero).copy
      · simp
      simp only [iteO_true,if_true]
      rw [grd_mk (by simp only [List.length_append,List.length_singleton];omega)]
    have hput:FM.put (FM.ofL (S++aftA (g.take k) z.1 b)) (⟨(nth g k Arc.zero).to,outOf z.1 (nth g k Arc.zero) b⟩:FPair) ()=FM.ofL (S++aftA (g.take (k+1)) z.1 b):=by rw [←FM.ofL_snoc,hsn,List.append_assoc]
    simp only [hout,Eb_,hgd,hput]
    by_cases hbig:card (S++aftA (g.take (k+1)) z.1 b)≤4096
    · left
      refine ⟨(FM.ofL (S++aftA (g.take (k+1)) z.1 b),k+1),?_,⟨by simp only;omega,rfl,hbig⟩,by simp only;omega⟩
      rw [decide_eq_false (by unfold card at hbig;omega),iteO_false];rfl
    right
    refine ⟨.inr (FM.emp,false),?_,?_⟩
    · rw [decide_eq_true (by unfold card at hbig;omega),iteO_true];rfl
    rw [if_neg]
    have:card (S++aftA (g.take (k+1)) z.1 b)≤card (S++aftA g z.1 b):=card_mono fun x hx=>by
      rw [List.mem_append]at *
      refine hx.imp id fun hx=> ?_
      rw [mem_aftA]at *
      obtain ⟨a,h1,h2⟩:=hx
      exact ⟨a,List.mem_of_mem_take h1,h2⟩
    omega
  right
  have e:g.take k=g:=List.take_of_length_le (by omega)
  rw [e]at hc ⊢
  rw [if_pos hc]
  refine ⟨_,?_,rfl⟩
  simp only [B7_,hgd,decide_eq_false (show ¬ ((k:Nat):Int)<((g.length:Nat):Int) by omega),iteO_false];rfl
def aftG(x0:List (List Arc))(S:List FPair)(b:UInt8):List FPair:=S.flatMap fun p=>aftA (nth x0 p.state.toNat []) p b
theorem step_run(x0:List (List Arc))(b:UInt8)(hg: ∀i, ∀a∈nth x0 i [],a.out.length≤1024): ∀(q:List (FPair×Unit)) (T:List FPair),(∀z∈q,(0≤z.1.state∧z.1.state<(x0.length:Int))∧z.1.out.length≤100000000)→card T≤4096→
    runL (fun (q:(FM FPair Unit)) (oE:Option (FPair×Unit))=>C1_ x0 b q oE) q (FM.ofL T)=some (if card (T++aftG x0 (q.map Prod.fst) b)≤4096 then (FM.ofL (T++aftG x0 (q.map Prod.fst) b),true) else (FM.emp,false))
  |[],T,_,hT=>by
    simp only [runL,C1_,optE,fin_some,aftG,List.map_nil,List.flatMap_nil,List.append_nil,if_pos hT]
  | z :: q, T, hq, hT => by
    have hz:=hq z (List.mem_cons_self ..)
    have e:T++aftG x0 ((z::q).map Prod.fst) b=(T++aftA (nth x0 z.1.state.toNat []) z.1 b)++aftG x0 (q.map Prod.fst) b:=by simp [aftG]
    have hst:C1_ x0 b (FM.ofL T) (some z)=some (if card (T++aftA (nth x0 z.1.state.toNat []) z.1 b)≤4096 then .inl (FM.ofL (T++aftA (nth x0 z.1.state.toNat []) z.1 b)) else .inr (FM.emp,false)):=by
      simp only [C1_,optE]
      rw [grd_mk hz.1,b2_step x0 z b T hT hz.2 (hg _)]
    simp only [runL,hst]
    by_cases hc:card (T++aftA (nth x0 z.1.state.toNat []) z.1 b)≤4096
    · rw [if_pos hc]
      simp only
      rw [step_run x0 b hg q _ (fun y hy=>hq y (List.mem_cons_of_mem _ hy)) hc,e]
    rw [if_neg hc]
    simp only
    rw [if_neg]
    rw [e]
    have:=card_mono (S:=T++aftA (nth x0 z.1.state.toNat []) z.1 b) (T:=(T++aftA (nth x0 z.1.state.toNat []) z.1 b)++aftG x0 (q.map Prod.fst) b) (fun x hx=>List.mem_append_left _ hx)
    omega
theorem step_eq(x0:List (List Arc))(b:UInt8)(S:List FPair)(hg: ∀i, ∀a∈nth x0 i [],a.out.length≤1024)(hS: ∀p∈S,(0≤p.state∧p.state<(x0.length:Int))∧p.out.length≤100000000):
    G9_ x0 (FM.ofL S) b=some (if card (aftG x0 S b)≤4096 then (FM.ofL (aftG x0 S b),true) else (FM.emp,false)):=by
  obtain ⟨q0,hq0⟩:=Rep.ofL S
  unfold G9_
  refine allP_i q0 hq0 fun q hq=> ?_
  have h1:=(Rep.of_ofL hq).1
  have:=step_run x0 b hg q [] (fun z hz=>hS z.1 ((h1 z).1 hz)) (by decide)
  have hcg: ∀x,x∈[]++aftG x0 (q.map Prod.fst) b↔x∈aftG x0 S b:=fun x=>by
    simp only [aftG,List.nil_append,List.mem_flatMap,List.mem_map]
    constructor
    · rintro ⟨p,⟨z,hz,rfl⟩,h⟩;exact ⟨z.1,(h1 z).1 hz,h⟩
    rintro ⟨p,hp,h⟩;exact ⟨p,⟨(p,()),(h1 (p,())).2 hp,rfl⟩,h⟩
  rw [card_congr hcg,FM.ofL_congr hcg]at this
  exact this
end Go.Proofs.YtnpbfjdpglfdkaaGreatDoor
end
