/- Parts of a proof, one behind the other: what a machine reaches, functions decompiled, plain lemmas. Conditions stand with each lemma. -/
import Derived.Test.YtchebnpdnfhenaaGreatDoorB4e122d438a
import Derived.Test.YtchebnpdnfhenaaGreatDoorB63f5c1f2de
import Derived.Shelf.Sort.Plain
import Derived.Shelf.Slices.In.SortNone
import Derived.Shelf.SlSortCmp.NoneTotal
import Derived.Shelf.Strconv.Itoa3
import Derived.Test.YtchebnpdnfhenaaGreatDoorChecked
import Derived.RangeFuncLeaves
import Derived.RecoverIn

set_option linter.unusedVariables false
set_option linter.unusedSimpArgs false
set_option linter.unusedSectionVars false
set_option maxRecDepth 100000
set_option maxHeartbeats 8000000
variable {σ:Go.E.Store}{a0_0 a0_1 a0_2 a1_0 a1_1 a1_4 a1_7 a2_1 a3_1:Option Go.Addr}{Eb1 Eb2 Eb3 b1_0 b2_0 b3_0 c0_0 c0_1 c0_2 c1_0 c1_2 c1_5 c1_8 c2_2 c3_2:Nat}

noncomputable section
namespace Go.Proofs.YtchebnpdnfhenaaGreatDoor
open Go Go.E Go.E.OpVal Go.E.OpOk Go.Proofs.Tryz
theorem ag147:aggOf Tryz.prog 147=some false:=by kernel_rfl
theorem by3:byOf Tryz.prog 3=some 8:=by kernel_rfl
theorem by86:byOf Tryz.prog 86=some 24:=by kernel_rfl
theorem pf122:plainF Tryz.prog 122=true:=by kernel_rfl
theorem pf123:plainF Tryz.prog 123=true:=by kernel_rfl
theorem pf152:plainF Tryz.prog 152=true:=by kernel_rfl
theorem pf56:plainF Tryz.prog 56=true:=by kernel_rfl
theorem pf85:plainF Tryz.prog 85=true:=by kernel_rfl
theorem pl66:plOf Tryz.prog 66=some #[(0,1),(1,1),(2,4),(6,1),(7,1)]:=by kernel_rfl
theorem pl76:plOf Tryz.prog 76=some #[(0,1),(1,1)]:=by kernel_rfl
theorem sz147:szOf Tryz.prog 147=some 1:=by kernel_rfl
theorem sz22:szOf Tryz.prog 22=some 1:=by kernel_rfl
theorem sz23:szOf Tryz.prog 23=some 1:=by kernel_rfl
theorem sz27:szOf Tryz.prog 27=some 1:=by kernel_rfl
theorem sz29:szOf Tryz.prog 29=some 1:=by kernel_rfl
theorem ze147:zeroOf Tryz.prog 147=some (.nilFunc):=by kernel_rfl
theorem ze27:zeroOf Tryz.prog 27=some (.slice none 0 0):=by kernel_rfl
theorem ze29:zeroOf Tryz.prog 29=some (.slice none 0 0):=by kernel_rfl
theorem ze86:zeroOf Tryz.prog 86=some (.slice none 0 0):=by kernel_rfl
def A2_(x2:List (List Int))(x0:Int)(self_:Int→(List Bool)→(List (List Int))→Option (List Bool))(l124:List Bool)(k127:Nat):Option (((List Bool)×Nat)⊕((List Bool))):=
 iteO (decide (((k127:Nat):Int)<(((nth x2 x0.toNat ([]:List Int)).length:Nat):Int))) (bnd (self_ (nth (nth x2 x0.toNat ([]:List Int)) k127 (0:Int)) l124 x2) (fun v21=>nxt (v21,(k127+1)))) (fin (some l124))
def C1_(self_:Int→(List Bool)→(List (List Int))→Option (List Bool))(x0:Int)(x1:List Bool)(x2:List (List Int)):Option ((List Bool)):=
 grd (0≤x0∧x0<(x1.length:Int)) (iteO (nth x1 x0.toNat false) (some x1) (grd (0≤x0∧x0<(x1.length:Int)) (grd (0≤x0∧x0<(x2.length:Int)) (iter (fun q:(List Bool)×Nat=>A2_ x2 x0 self_ q.1 q.2) ((x1.set x0.toNat true),0)))))
def Bl_:Nat→Int→(List Bool)→(List (List Int))→Option (List Bool)
 |0=>fun _ _ _=>none
 |n+1=>C1_ (Bl_ n)
theorem Fo_ {self_:Int→(List Bool)→(List (List Int))→Option (List Bool)} (self__con: ∀{σ:Store} {x0:Int} {x1:List Bool} {b1_0:Nat} {Eb1:Nat} {a1_1:Option Addr} {c1_2:Nat} {x2:List (List Int)} {b2_0:Nat} {Eb2:Nat} {a2_1:Option Addr} {c2_2:Nat} {b3_0:Nat} {Eb3:Nat} (f2_3:RZ σ (pkSl 1 eI_ eIl_) (.slice a2_1 x2.length c2_2) x2) {r:(List Bool)} (hh:self_ x0 x1 x2=some r),
  Con Tryz.prog 152 #[.int .i64 x0,loc b1_0 0,loc b2_0 0,loc b3_0 0] σ [Res.cells b1_0 #[.slice a1_1 x1.length c1_2] Eb1,Res.rowS 4 1 encB (.slice a1_1 x1.length c1_2) x1,Res.cells b2_0 #[.slice a2_1 x2.length c2_2] Eb2,Res.cells b3_0 #[.func (.func 152) #[] #[loc b1_0 0,loc b2_0 0,loc b3_0 0]] Eb3] (fun v σ' H'=> ∃ao1 co2,v= .tuple #[]∧σ=σ'∧H'=[Res.cells b1_0 #[.slice ao1 r.length co2] Eb1,Res.rowS 4 1 encB (.slice ao1 r.length co2) r,Res.cells b2_0 #[.slice a2_1 x2.length c2_2] Eb2,Res.cells b3_0 #[.func (.func 152) #[] #[loc b1_0 0,loc b2_0 0,loc b3_0 0]] Eb3])) {σ:Store} {x0:Int} {x1:List Bool} {b1_0:Nat} {Eb1:Nat} {a1_1:Option Addr} {c1_2:Nat} {x2:List (List Int)} {b2_0:Nat} {Eb2:Nat} {a2_1:Option Addr} {c2_2:Nat} {b3_0:Nat} {Eb3:Nat} (f2_3:RZ σ (pkSl 1 eI_ eIl_) (.slice a2_1 x2.length c2_2) x2) {r:(List Bool)} (hh:C1_ self_ x0 x1 x2=some r):
  Con Tryz.prog 152 #[.int .i64 x0,loc b1_0 0,loc b2_0 0,loc b3_0 0] σ [Res.cells b1_0 #[.slice a1_1 x1.length c1_2] Eb1,Res.rowS 4 1 encB (.slice a1_1 x1.length c1_2) x1,Res.cells b2_0 #[.slice a2_1 x2.length c2_2] Eb2,Res.cells b3_0 #[.func (.func 152) #[] #[loc b1_0 0,loc b2_0 0,loc b3_0 0]] Eb3] (fun v σ' H'=> ∃ao1 co2,v= .tuple #[]∧σ=σ'∧H'=[Res.cells b1_0 #[.slice ao1 r.length co2] Eb1,Res.rowS 4 1 encB (.slice ao1 r.length co2) r,Res.cells b2_0 #[.slice a2_1 x2.length c2_2] Eb2,Res.cells b3_0 #[.func (.func 152) #[] #[loc b1_0 0,loc b2_0 0,loc b3_0 0]] Eb3]):=by
 dsimp only [C1_]at hh
 have f2_3b:=f2_3.big
 refine Con.mk (n:=27) Tryz.func152 z z z (fun w0=> ?_)
 refine TC.weakR (TC.seq (TC.a (TL.w z (loadLoc z ag29 z (i:=0) z z) (TL.i z z ?_))))
 have u3:=grd_c hh
 replace hh:=grd_t hh
 refine TL.isSl (i:=1) z (fun hs107 _ _=> ?_)
 refine TL.w z (OpVal.index z underlying29 sz4 z z hs107 u3.1 u3.2) (TL.w z (loadO1 false z ag4 z (q:=1) z encB_len (by omega) z) (TL.en (TC.cB z hh (fun h108 hh=> ?_) (fun h108 hh=> ?_))))
 ·refine TC.ret (S.r ?_)
  obtain rfl:=so hh
  refine ⟨_,Sub.f [3,3,3,3] 4,?_⟩
  exact ro [Res.cells b1_0 #[.slice a1_1 x1.length c1_2] Eb1,Res.rowS 4 1 encB (.slice a1_1 x1.length c1_2) x1,Res.cells b2_0 #[.slice a2_1 x2.length c2_2] Eb2,Res.cells b3_0 #[.func (.func 152) #[] #[loc b1_0 0,loc b2_0 0,loc b3_0 0]] Eb3] z RVs.nil ⟨a1_1,c1_2,z,z,z⟩
 refine TC.skip (S.n (TC.a (TL.w z (loadLoc z ag29 z (i:=0) z z) (TL.i z z ?_))))
 have u7:=grd_c hh
 replace hh:=grd_t hh
 refine TL.isSl (i:=1) z (fun hs109 _ _=> ?_)
 refine TL.w z (OpVal.index z underlying29 sz4 z z hs109 u7.1 u7.2) (TL.front 1 z z ?_)
 have hn110:(x1.set x0.toNat true).length=x1.length:=by rw [List.length_set]
 refine TL.op z (storeS true z sz4 z z z z encB_len encB_one (by omega) (by omega) ?_)
 refine TL.en (TC.a (TL.w z (loadLoc z ag27 z (i:=2) z z) (TL.i z z ?_)))
 have u11:=grd_c hh
 replace hh:=grd_t hh
 refine TL.w z (OpVal.index z underlying27 sz86 z z f2_3.isSl u11.1 u11.2) ?_
 obtain ⟨p111,hk111,hg111⟩:=RZ.seg f2_3 x0.toNat (by omega)
 replace hk111:RS _ 1 eI_ (.slice p111.1 (nth x2 x0.toNat ([]:List Int)).length p111.2) (nth x2 x0.toNat ([]:List Int)):=hk111
 have hk111b:=hk111.rv.big
 refine TL.w z (OpVal.of (loadSeg0 z ag86 z hg111 z) (v':= .slice p111.1 ((nth x2 x0.toNat ([]:List Int)).length) p111.2) z) (TL.w z (lenC z underlying86 z) (TL.i z z (TL.en (TC.block ?_))))
 rw [←hn110]
 refine TC.loopG (α:=((List Bool)×Nat)×((Option Addr)×Nat)) (rgs [(6,1),(19,8)]) (fun g=>[(19,.int .i64 ((g.1.2:Nat):Int))]) (fun g=>[Res.cells b3_0 #[.func (.func 152) #[] #[loc b1_0 0,loc b2_0 0,loc b3_0 0]] Eb3,Res.cells b1_0 #[.slice g.2.1 g.1.1.length g.2.2] Eb1,Res.rowS 4 1 encB (.slice g.2.1 g.1.1.length g.2.2) g.1.1,Res.cells b2_0 #[.slice a2_1 x2.length c2_2] Eb2]) (fun g=>σ) (fun g=>iter (fun q:(List Bool)×Nat=>A2_ x2 x0 self_ q.1 q.2) g.1=some r) (fun g=>rounds (fun q:(List Bool)×Nat=>A2_ x2 x0 self_ q.1 q.2) g.1) (((x1.set x0.toNat true),0),(a1_1,c1_2)) (Sub.f [2,1,2,3] 4) z (by repeat (first|exact trivial|refine ⟨z,?_⟩)) hh (fun g1 j1 hg1=> ?_)
 obtain ⟨⟨l124,k127⟩,⟨a125,c126⟩⟩:=g1
 have hh:=hg1;clear hg1
 try dsimp only
 obtain ⟨z1,hh,hR1⟩:=iter_e hh
 dsimp only [A2_]at hh
 refine TC.isSl (i:=2) z (fun _ hb128 _=> ?_)
 refine TC.a (TL.w z (OpVal.lss z z z) (TL.en (TC.seq (TC.cD z hh (fun h129 hh=> ?_) (fun h129 hh=> ?_)))))
 ·refine TC.skip (S.n (TC.seq (TC.block (TC.a (TL.w z (indexN z underlying86 sz3 z z hk111.rv.sl (by omega)) (TL.w z (loadS1 (0:Int) z ag3 z hk111 (by omega) z) (TL.i z z (TL.en (TC.region (TL.w z (loadLoc z ag147 z (i:=0) z z) (TL.i z z (TL.front 3 z z (TL.front 3 z z (TL.front 3 z z ?_))))))))))))))
  obtain ⟨v21,u21,hh⟩:=bnd_e hh
  refine TL.op z (OpOk.call (self__con f2_3 u21) z z pf152 z z z z ?_)
  rintro _ _ _ hle130 ⟨a130_1,c130_2,rfl,rfl,rfl⟩
  refine TL.nil (B.n (S.n (TC.region (TL.w z (OpVal.succ z z z (by omega)) (TL.i z z (TL.en ?_))))))
  obtain ⟨hh,hlt132⟩:=nxt_x hR1 hh
  exact lf ((v21,(k127+1)),(a130_1,c130_2)) hlt132 hh (Sub.f [2,2,2,3] 4)
 refine TC.exit (S.x (S.x ?_))
 replace hh:=fin_x hR1 hh
 refine TC.exitHere ?_
 obtain rfl:=so hh
 refine ⟨_,Sub.f [3,3,3] 4,?_⟩
 exact RetOk.mk' (rs:=[]) [Res.cells b1_0 #[.slice a125 l124.length c126] Eb1,Res.rowS 4 1 encB (.slice a125 l124.length c126) l124,Res.cells b2_0 #[.slice a2_1 x2.length c2_2] Eb2,Res.cells b3_0 #[.func (.func 152) #[] #[loc b1_0 0,loc b2_0 0,loc b3_0 0]] Eb3] z (.inr z) RVs.nil (List.sublist_append_left _ _) ⟨a125,c126,z,z,z⟩
theorem Fs_{n_:Nat}: ∀{σ:Store} {x0:Int} {x1:List Bool} {b1_0:Nat} {Eb1:Nat} {a1_1:Option Addr} {c1_2:Nat} {x2:List (List Int)} {b2_0:Nat} {Eb2:Nat} {a2_1:Option Addr} {c2_2:Nat} {b3_0:Nat} {Eb3:Nat} (f2_3:RZ σ (pkSl 1 eI_ eIl_) (.slice a2_1 x2.length c2_2) x2) {r:(List Bool)} (hh:Bl_ n_ x0 x1 x2=some r),
  Con Tryz.prog 152 #[.int .i64 x0,loc b1_0 0,loc b2_0 0,loc b3_0 0] σ [Res.cells b1_0 #[.slice a1_1 x1.length c1_2] Eb1,Res.rowS 4 1 encB (.slice a1_1 x1.length c1_2) x1,Res.cells b2_0 #[.slice a2_1 x2.length c2_2] Eb2,Res.cells b3_0 #[.func (.func 152) #[] #[loc b1_0 0,loc b2_0 0,loc b3_0 0]] Eb3] (fun v σ' H'=> ∃ao1 co2,v= .tuple #[]∧σ=σ'∧H'=[Res.cells b1_0 #[.slice ao1 r.length co2] Eb1,Res.rowS 4 1 encB (.slice ao1 r.length co2) r,Res.cells b2_0 #[.slice a2_1 x2.length c2_2] Eb2,Res.cells b3_0 #[.func (.func 152) #[] #[loc b1_0 0,loc b2_0 0,loc b3_0 0]] Eb3]):=by
 induction n_ with
 |zero=>intro σ x0 x1 b1_0 Eb1 a1_1 c1_2 x2 b2_0 Eb2 a2_1 c2_2 b3_0 Eb3 f2_3 r hh;exact absurd hh (by intro h_;cases h_)
 |succ k_ ih_=>
  intro σ x0 x1 b1_0 Eb1 a1_1 c1_2 x2 b2_0 Eb2 a2_1 c2_2 b3_0 Eb3 f2_3 r hh
  exact Fo_ (self_:=Bl_ k_) @ih_ f2_3 hh
def Bg_(x0:List Tip)(x1:List (List Int))(l121:List Bool)(k124:Nat):Option (((List Bool)×Nat)⊕((List Bool))):=
 iteO (decide (((k124:Nat):Int)<((x0.length:Nat):Int))) (bnd (Bl_ (l121.length+1) ((nth x0 k124 Tip.zero).state) l121 x1) (fun v22=>nxt (v22,(k124+1)))) (fin (some l121))
def Da_(x0:List Tip)(x1:List (List Int)):Option ((List Bool)):=
 grd (1 * x1.length≤281474976710656) (iter (fun q:(List Bool)×Nat=>Bg_ x0 x1 q.1 q.2) ((List.replicate x1.length false),0))
def F4_(σ:Store)(r:(List Bool)):Value→Store→List Res→Prop:=fun v σ' H'=>
 ∃a1 c1,v= .slice a1 r.length c1∧σ=σ'∧H'=[Res.rowS 4 1 encB (.slice a1 r.length c1) r]
theorem Ey_{x0:List Tip}{x1:List (List Int)}(f0_0:RS σ 2 encTip (.slice a0_0 x0.length c0_0) x0)(f1_0:RZ σ (pkSl 1 eI_ eIl_) (.slice a1_0 x1.length c1_0) x1){r:(List Bool)}(hh:Da_ x0 x1=some r):
  Con Tryz.prog 123 #[.slice a0_0 x0.length c0_0,.slice a1_0 x1.length c1_0] σ [] (F4_ σ r):=by
 dsimp only [Da_]at hh
 have f0_0b:=f0_0.rv.big
 have f1_0b:=f1_0.big
 refine Con.mk (n:=25) Tryz.func123 z z z (fun w0=> ?_)
 refine TC.a (TL.op z (OpOk.box z z z z (fun b101=> ?_)))
 refine TL.s z z (TL.en (TC.a (TL.w z (loadLoc z ag27 z (i:=0) z z) (TL.w z (lenC z underlying27 z) ?_))))
 have u5:=grd_c hh
 replace hh:=grd_t hh
 refine TL.op z (makeS2 (enc:=encB) false z underlying29 sz4 by4 ze4 z z z z (by omega) (by decide) encB_len (by decide) z encB_one (fun a103 c104=> ?_))
 refine TL.op z (OpOk.alloc z ze29 z z (fun b106=> ?_))
 refine TL.op z (storeSl z sz29 z z z z z ?_)
 refine TL.en (TC.a (TL.op z (OpOk.alloc z ze147 z z (fun b108=> ?_))))
 refine TL.en (TC.a (TL.w z (makeFn z) (TL.op z (storeFn z sz147 z z z z z ?_))))
 refine TL.en (TC.seq (TC.a (TL.s z z (TL.w z (lenC z underlying22 z) (TL.i z z (TL.en (TC.block (TC.loopG (α:=((List Bool)×Nat)×((Option Addr)×Nat)) (rgs [(8,1),(15,9)]) (fun g=>[(15,.int .i64 ((g.1.2:Nat):Int))]) (fun g=>[Res.cells b106 #[.slice g.2.1 g.1.1.length g.2.2] 29,Res.rowS 4 1 encB (.slice g.2.1 g.1.1.length g.2.2) g.1.1,Res.cells b108 #[.func (.func 152) #[] #[loc b106 0,loc b101 0,loc b108 0]] 147,Res.cells b101 #[.slice a1_0 x1.length c1_0] 27]) (fun g=>σ) (fun g=>iter (fun q:(List Bool)×Nat=>Bg_ x0 x1 q.1 q.2) g.1=some r) (fun g=>rounds (fun q:(List Bool)×Nat=>Bg_ x0 x1 q.1 q.2) g.1) (((List.replicate x1.length false),0),(a103,c104)) (Sub.f [3,1,3,3] 4) z (by repeat (first|exact trivial|refine ⟨z,?_⟩)) hh (fun g1 j1 hg1=> ?_)))))))))
 obtain ⟨⟨l121,k124⟩,⟨a122,c123⟩⟩:=g1
 have hh:=hg1;clear hg1
 try dsimp only
 obtain ⟨z1,hh,hR1⟩:=iter_e hh
 dsimp only [Bg_]at hh
 refine TC.isSl (i:=1) z (fun _ hb125 _=> ?_)
 refine TC.a (TL.w z (OpVal.lss z z z) (TL.en (TC.seq (TC.cD z hh (fun h126 hh=> ?_) (fun h126 hh=> ?_)))))
 ·refine TC.skip (S.n (TC.seq (TC.block (TC.a (TL.w z (indexN z underlying22 sz76 z z f0_0.rv.sl (by omega)) (TL.w z (loadSA Tip.zero z ag76 sz76 z f0_0 (by omega) (by omega)) (TL.op z (OpOk.alloc z ze76 z z (fun b127=> ?_)))))))))
  refine TL.op z (storeAll z sz76 z z z z z z ?_)
  refine TL.en (TC.region (TL.w z (loadLoc z ag147 z (i:=3) z z) (TL.w z (fieldLoc z fo76_0 z) (TL.w z (loadLoc z ag3 z (i:=0) z z) (TL.front 3 z z (TL.front 4 z z (TL.front 4 z z (TL.front 4 z z ?_))))))))
  obtain ⟨v22,u22,hh⟩:=bnd_e hh
  refine TL.op z (OpOk.call (Fs_ f1_0 u22) z z pf152 z z z z ?_)
  rintro _ _ _ hle129 ⟨a129_1,c129_2,rfl,rfl,rfl⟩
  refine TL.nil (B.n (S.n (TC.region (TL.w z (OpVal.succ z z z (by omega)) (TL.i z z (TL.en ?_))))))
  obtain ⟨hh,hlt131⟩:=nxt_x hR1 hh
  exact lf ((v22,(k124+1)),(a129_1,c129_2)) hlt131 hh (Sub.f [2,3,3,3] 4)
 refine TC.exit (S.x (S.x ?_))
 replace hh:=fin_x hR1 hh
 refine TC.exitHere (S.n (TC.a (TL.w z (loadLoc z ag29 z (i:=0) z z) (TL.s z z (TL.en (TC.ofSub (Sub.f [1] 1) (TC.ret ?_)))))))
 obtain rfl:=so hh
 exact ro [Res.rowS 4 1 encB (.slice a122 l121.length c123) l121] z (RVs.tmp z RVs.nil) ⟨a122,c123,z,z,z⟩
def By_{Sy:Type}(k125:Nat)(s134:Sy):Option ((Nat×Sy)⊕(Sy)):=
 nxt ((k125+1),s134)
def Av_{Sy:Type}(v4:(List Bool))(v8:(List Bool))(Y:Sy→Int→Option (Sy×Bool))(k125:Nat)(s126:Sy):Option ((Nat×Sy)⊕(Sy)):=
 iteO (decide (((k125:Nat):Int)<((v4.length:Nat):Int))) (iteO (nth v4 k125 false) (grd (k125<v8.length) (iteO (nth v8 k125 false) (bnd (Y s126 ((k125:Nat):Int)) (fun v30=>iteO (!v30.2) (fin (some v30.1)) (By_ k125 v30.1))) (By_ k125 s126))) (By_ k125 s126)) (fin (some s126))
def Cy_{Sy:Type}(Y:Sy→Int→Option (Sy×Bool))(s0:Sy)(x1:Fst)(x2:List (List Int))(x3:List (List Int)):Option (Sy):=
 bnd (Da_ x1.starts x2) (fun v4=>bnd (Da_ x1.ends x3) (fun v8=>iter (fun q:Nat×Sy=>Av_ v4 v8 Y q.1 q.2) (0,s0)))
theorem Fq_{Sy:Type}{Y:Sy→Int→Option (Sy×Bool)}{s0:Sy}{x1:Fst}{x2:List (List Int)}{x3:List (List Int)}(f1_3:RS σ 2 encTip (.slice a1_1 x1.starts.length c1_2) x1.starts)(f1_6:RS σ 2 encTip (.slice a1_4 x1.ends.length c1_5) x1.ends)(f1_9:RS σ 8 encArc (.slice a1_7 x1.arcs.length c1_8) x1.arcs)(f2_3:RZ σ (pkSl 1 eI_ eIl_) (.slice a2_1 x2.length c2_2) x2)(f3_3:RZ σ (pkSl 1 eI_ eIl_) (.slice a3_1 x3.length c3_2) x3){r:Sy}(hh:Cy_ Y s0 x1 x2 x3=some r):
  IterOk Tryz.prog 122 [loc b1_0 0,loc b2_0 0,loc b3_0 0] (fun (x:Int) _ vs=>vs=[.int .i64 x]) Y σ [Res.cells b1_0 #[.int .i64 x1.states,.slice a1_1 x1.starts.length c1_2,.slice a1_4 x1.ends.length c1_5,.slice a1_7 x1.arcs.length c1_8] Eb1,Res.cells b2_0 #[.slice a2_1 x2.length c2_2] Eb2,Res.cells b3_0 #[.slice a3_1 x3.length c3_2] Eb3] s0 r (fun σ' H'=>H'=[Res.cells b1_0 #[.int .i64 x1.states,.slice a1_1 x1.starts.length c1_2,.slice a1_4 x1.ends.length c1_5,.slice a1_7 x1.arcs.length c1_8] Eb1,Res.cells b2_0 #[.slice a2_1 x2.length c2_2] Eb2,Res.cells b3_0 #[.slice a3_1 x3.length c3_2] Eb3]):=by
 intro l Z ry0 hY hys
 dsimp only [Cy_]at hh
 have f1_3b:=f1_3.rv.big
 have f1_6b:=f1_6.rv.big
 have f1_9b:=f1_9.rv.big
 have f2_3b:=f2_3.big
 have f3_3b:=f3_3.big
 refine Con.mk (n:=38) Tryz.func122 z z z (fun w0=> ?_)
 refine TC.weakR (TC.seq ?_)
 obtain ⟨v4,u4,hh⟩:=bnd_e hh
 obtain ⟨v8,u8,hh⟩:=bnd_e hh
 refine TC.draw [] (by kernel_rfl) (TA.a 0 z (fieldLoc z fo25_1 z) z (TA.b 1 z (loadLoc z ag22 z (i:=1) z z) z (TA.b 2 z (loadLoc z ag27 z (i:=2) z z) z (TA.a 4 z (fieldLoc z fo25_2 z) z (TA.b 5 z (loadLoc z ag22 z (i:=1) z z) z (TA.b 6 z (loadLoc z ag27 z (i:=3) z z) z (TA.ac 3 z (OpOk.call (Ey_ f1_3 f2_3 u4) z z pf123 z z z z ?_))))))))
 rintro _ _ _ hle113 ⟨a113_1,c113_1,rfl,rfl,rfl⟩
 refine k1 (TA.ac 7 z (OpOk.call (Ey_ f1_6 f3_3 u8) z z pf123 z z z z ?_))
 rintro _ _ _ hle115 ⟨a115_1,c115_1,rfl,rfl,rfl⟩
 refine k2 (TA.a 8 z (moveSl (.inr z) z) z (TA.a 9 z (moveSl (.inr z) z) z (TA.dn (S.n (TC.a (TL.s z z (TL.w z (lenC z underlying29 z) (TL.i z z (TL.en (TC.block (TC.loopG (α:=(Nat×Sy)×(Res×Store)) (rgs [(7,1),(18,20)]) (fun g=>[(18,.int .i64 ((g.1.1:Nat):Int))]) (fun g=>[Res.rowS 4 1 encB (.slice a113_1 v4.length c113_1) v4,Res.rowS 4 1 encB (.slice a115_1 v8.length c115_1) v8,Res.cells b1_0 #[.int .i64 x1.states,.slice a1_1 x1.starts.length c1_2,.slice a1_4 x1.ends.length c1_5,.slice a1_7 x1.arcs.length c1_8] Eb1,Res.cells b2_0 #[.slice a2_1 x2.length c2_2] Eb2,Res.cells b3_0 #[.slice a3_1 x3.length c3_2] Eb3,g.2.1]) (fun g=>g.2.2) (fun g=>iter (fun q:Nat×Sy=>Av_ v4 v8 Y q.1 q.2) g.1=some r∧YR Z g.1.2 g.2.2 g.2.1∧Store.le σ g.2.2) (fun g=>rounds (fun q:Nat×Sy=>Av_ v4 v8 Y q.1 q.2) g.1) ((0,s0),(ry0,σ)) (Sub.f [2,5,5,5,4,5] 6) z (by repeat (first|exact trivial|refine ⟨z,?_⟩)) ⟨hh,hys,(Store.le.refl _)⟩ (fun g1 j1 hg1=> ?_))))))))))))
 obtain ⟨⟨k125,s126⟩,⟨ry127,τ129⟩⟩:=g1
 obtain ⟨hh,hy128,hle130⟩:=hg1
 try dsimp only at hy128 hle130 ⊢
 obtain ⟨z1,hh,hR1⟩:=iter_e hh
 dsimp only [Av_]at hh
 skip
 refine TC.isSl (i:=0) z (fun _ hb131 _=> ?_)
 refine TC.isSl (i:=1) z (fun _ hb132 _=> ?_)
 refine TC.a (TL.w z (OpVal.lss z z z) (TL.en (TC.seq (TC.cD z hh (fun h133 hh=> ?_) (fun h133 hh=> ?_)))))
 ·refine TC.skip (S.n (TC.cutG (α:=(Sy)×(Res×Store)) (rgs [(7,1),(20,17)]) (fun g=>[]) (fun g=>[Res.rowS 4 1 encB (.slice a113_1 v4.length c113_1) v4,Res.rowS 4 1 encB (.slice a115_1 v8.length c115_1) v8,Res.cells b1_0 #[.int .i64 x1.states,.slice a1_1 x1.starts.length c1_2,.slice a1_4 x1.ends.length c1_5,.slice a1_7 x1.arcs.length c1_8] Eb1,Res.cells b2_0 #[.slice a2_1 x2.length c2_2] Eb2,Res.cells b3_0 #[.slice a3_1 x3.length c3_2] Eb3,g.2.1]) (fun g=>g.2.2) (fun g=>By_ k125 g.1=some z1∧YR Z g.1 g.2.2 g.2.1∧Store.le τ129 g.2.2) ?_ (fun g j hg=> ?_)))
  ·skip
   refine TC.block (TC.a (TL.i z z (TL.i z z (TL.en (TC.a (TL.s z z (TL.i z z (TL.isSl (i:=0) z (fun hs137 _ _=> ?_)))))))))
   refine TL.w z (indexN z underlying29 sz4 z z hs137 (by omega)) (TL.w z (loadO1 false z ag4 z (q:=0) z encB_len (by omega) z) (TL.j z z (TL.split 25 z (fun h138=> ?_) (fun h138=> ?_))))
   ·replace hh:=iteO_t h138 hh
    refine TL.g z (moveSl (.inl z) z) (TL.g z (moveI (.inl z) z) ?_)
    have u24:=grd_c hh
    replace hh:=grd_t hh
    refine TL.isSl (i:=1) z (fun hs139 _ _=> ?_)
    refine TL.g z (indexN z underlying29 sz4 z z hs139 (by omega)) (TL.g z (loadO1 false z ag4 z (q:=1) z encB_len (by omega) z) (TL.w z (pickTB z z z) (TL.j z z (TL.split 31 z (fun h140=> ?_) (fun h140=> ?_)))))
    ·replace hh:=iteO_t h140 hh
     refine TL.g z (OpVal.mv (.inl z)) (TL.g z (moveI (.inl z) z) ?_)
     obtain ⟨v30,u30,hh⟩:=bnd_e hh
     refine TL.front 5 z z (TL.gon z z z z z (callY hY hy128 u30 z z z z z z ?_))
     rintro τ141 ry141 hle141 hy141
     refine TL.g z (OpVal.not z z) (TL.w z (pickTB z z z) (TL.en (TC.cB z hh (fun h142 hh=> ?_) (fun h142 hh=> ?_))))
     ·refine TC.ofSub (Sub.f [5,5,5,3] 4) (TC.ret (B.r (S.r (S.r ?_))))
      replace hh:=fin_x hR1 hh
      refine B.r ?_
      obtain rfl:=so hh
      refine ⟨_,Sub.f [3,3,3,3] 4,?_⟩
      exact ro [ry141,Res.cells b1_0 #[.int .i64 x1.states,.slice a1_1 x1.starts.length c1_2,.slice a1_4 x1.ends.length c1_5,.slice a1_7 x1.arcs.length c1_8] Eb1,Res.cells b2_0 #[.slice a2_1 x2.length c2_2] Eb2,Res.cells b3_0 #[.slice a3_1 x3.length c3_2] Eb3] z RVs.nil ⟨_,_,z,hy141,z⟩
     exact TC.skip (B.n (S.n (cf (v30.1,(ry141,τ141)) ⟨hh,hy141,hle141⟩ (Sub.f [5,5,5,5,5] 6))))
    replace hh:=iteO_f h140 hh
    exact TL.f z (TL.f z (TL.f z (TL.f z (TL.w z (pickFB z z z) (TL.en (TC.f z (TC.skip (B.n (S.n (cf (s126,(ry127,τ129)) ⟨hh,hy128,(Store.le.refl _)⟩ (Sub.f [5,5,5,5,5,5] 6)))))))))))
   replace hh:=iteO_f h138 hh
   refine TL.f z (TL.f z (TL.f z (TL.f z (TL.w z (pickFB z z z) (TL.j z z (TL.f z (TL.f z (TL.f z (TL.f z (TL.w z (pickFB z z z) (TL.en (TC.f z (TC.skip (B.n (S.n ?_)))))))))))))))
   exact cf (s126,(ry127,τ129)) ⟨hh,hy128,(Store.le.refl _)⟩ (Sub.f [5,5,5,5,5,5] 6)
  skip
  obtain ⟨s134,⟨ry135,τ143⟩⟩:=g
  obtain ⟨hh,hy136,hle144⟩:=hg
  try dsimp only at hy136
  dsimp only at hle144
  replace hy128:=hy128.mono hle144
  try dsimp only
  dsimp only [By_]at hh
  skip
  refine TC.isSl (i:=0) z (fun _ hb145 _=> ?_)
  refine TC.isSl (i:=1) z (fun _ hb146 _=> ?_)
  refine TC.region (TL.w z (OpVal.succ z z z (by omega)) (TL.i z z (TL.en ?_)))
  obtain ⟨hh,hlt147⟩:=nxt_x hR1 hh
  exact lf (((k125+1),s134),(ry135,τ143)) hlt147 ⟨hh,hy136,(hle130.trans hle144)⟩ (Sub.f [5,5,5,5,5,5] 6)
 refine TC.exit (S.x (S.x ?_))
 replace hh:=fin_x hR1 hh
 refine TC.exitHere ?_
 obtain rfl:=so hh
 refine ⟨_,Sub.f [4,4,4,5] 4,?_⟩
 exact RetOk.mk' (rs:=[]) [ry127,Res.cells b1_0 #[.int .i64 x1.states,.slice a1_1 x1.starts.length c1_2,.slice a1_4 x1.ends.length c1_5,.slice a1_7 x1.arcs.length c1_8] Eb1,Res.cells b2_0 #[.slice a2_1 x2.length c2_2] Eb2,Res.cells b3_0 #[.slice a3_1 x3.length c3_2] Eb3] z (.inr z) RVs.nil (List.sublist_append_left _ _) ⟨_,_,z,hy128,z⟩
def De_(l387:List (List Int))(x0:Fst)(k394:Nat)(l391:List (List Int)):Option (((List (List Int))×(List (List Int))×Nat)⊕((Fst×(List (List Int))×(List (List Int))))):=
 nxt ((l387.set (((nth x0.arcs k394 Arc.zero).frm).toNat) ((nth l387 (((nth x0.arcs k394 Arc.zero).frm).toNat) ([]:List Int))++[(nth x0.arcs k394 Arc.zero).to])),(l391.set (((nth x0.arcs k394 Arc.zero).to).toNat) ((nth l391 (((nth x0.arcs k394 Arc.zero).to).toNat) ([]:List Int))++[(nth x0.arcs k394 Arc.zero).frm])),(k394+1))
def Dh_(x0:Fst)(k394:Nat)(l391:List (List Int))(l387:List (List Int)):Option (((List (List Int))×(List (List Int))×Nat)⊕((Fst×(List (List Int))×(List (List Int))))):=
 grd (0≤((nth x0.arcs k394 Arc.zero).to)∧((nth x0.arcs k394 Arc.zero).to)<(l391.length:Int)) (grd (((nth l391 (((nth x0.arcs k394 Arc.zero).to).toNat) ([]:List Int)).length+[(nth x0.arcs k394 Arc.zero).frm].length) * 8≤140737488355328) (grd (0≤((nth x0.arcs k394 Arc.zero).to)∧((nth x0.arcs k394 Arc.zero).to)<(l391.length:Int)) (De_ l387 x0 k394 l391)))
def A6_(x0:Fst)(l387:List (List Int))(l391:List (List Int))(k394:Nat):Option (((List (List Int))×(List (List Int))×Nat)⊕((Fst×(List (List Int))×(List (List Int))))):=
 iteO (decide (((k394:Nat):Int)<((x0.arcs.length:Nat):Int))) (grd (0≤((nth x0.arcs k394 Arc.zero).frm)∧((nth x0.arcs k394 Arc.zero).frm)<(l387.length:Int)) (grd (((nth l387 (((nth x0.arcs k394 Arc.zero).frm).toNat) ([]:List Int)).length+[(nth x0.arcs k394 Arc.zero).to].length) * 8≤140737488355328) (grd (0≤((nth x0.arcs k394 Arc.zero).frm)∧((nth x0.arcs k394 Arc.zero).frm)<(l387.length:Int)) (Dh_ x0 k394 l391 l387)))) (fin (some (x0,l387,l391)))
def Dc_(x0:Fst):Option ((Fst×(List (List Int))×(List (List Int)))):=
 iter (fun q:(List (List Int))×(List (List Int))×Nat=>A6_ x0 q.1 q.2.1 q.2.2) ((List.replicate x0.states.toNat ([]:List Int)),(List.replicate x0.states.toNat ([]:List Int)),0)
def Dj_(x0:Fst):Option ((Fst×(List (List Int))×(List (List Int)))):=
 grd (0≤x0.states∧24 * x0.states.toNat≤281474976710656) (grd (0≤x0.states∧24 * x0.states.toNat≤281474976710656) (Dc_ x0))
theorem Ft_{x0:Fst}(f0_0:RS σ 2 encTip (.slice a0_0 x0.starts.length c0_0) x0.starts)(f0_1:RS σ 2 encTip (.slice a0_1 x0.ends.length c0_1) x0.ends)(f0_2:RS σ 8 encArc (.slice a0_2 x0.arcs.length c0_2) x0.arcs){r:(Fst×(List (List Int))×(List (List Int)))}(hh:Dj_ x0=some r):
  Con Tryz.prog 85 #[.agg #[.int .i64 x0.states,.slice a0_0 x0.starts.length c0_0,.slice a0_1 x0.ends.length c0_1,.slice a0_2 x0.arcs.length c0_2]] σ [] (fun v σ' H'=> ∃br10 ar1 cr2 ar4 cr5 ar7 cr8 br14 ar11 cr12 br18 ar15 cr16,v= .func (.func 122) #[] #[loc br10 0,loc br14 0,loc br18 0]∧RS σ' 2 encTip (.slice ar1 r.1.starts.length cr2) r.1.starts∧RS σ' 2 encTip (.slice ar4 r.1.ends.length cr5) r.1.ends∧RS σ' 8 encArc (.slice ar7 r.1.arcs.length cr8) r.1.arcs∧RZ σ' (pkSl 1 eI_ eIl_) (.slice ar11 r.2.1.length cr12) r.2.1∧RZ σ' (pkSl 1 eI_ eIl_) (.slice ar15 r.2.2.length cr16) r.2.2∧H'=[Res.cells br10 #[.int .i64 r.1.states,.slice ar1 r.1.starts.length cr2,.slice ar4 r.1.ends.length cr5,.slice ar7 r.1.arcs.length cr8] 25,Res.cells br14 #[.slice ar11 r.2.1.length cr12] 27,Res.cells br18 #[.slice ar15 r.2.2.length cr16] 27]):=by
 dsimp only [Dj_]at hh
 have f0_0b:=f0_0.rv.big
 have f0_1b:=f0_1.rv.big
 have f0_2b:=f0_2.rv.big
 refine Con.mk (n:=48) Tryz.func85 z z z (fun w0=> ?_)
 refine TC.a (TL.op z (boxA z z z z (fun b109=> ?_)))
 refine TL.w z (OpVal.mv (.inr z)) (TL.en (TC.cutG (α:=(Unit)×(Nat×(Option Addr)×Nat×Nat×(Option Addr)×Nat)) (rgs [(3,2),(7,6)]) (fun g=>[(3,loc g.2.1 0),(4,loc g.2.2.2.2.1 0)]) (fun g=>[Res.cells b109 #[.int .i64 x0.states,.slice a0_0 x0.starts.length c0_0,.slice a0_1 x0.ends.length c0_1,.slice a0_2 x0.arcs.length c0_2] 25,Res.cells g.2.1 #[.slice g.2.2.1 ((List.replicate x0.states.toNat ([]:List Int)).length) g.2.2.2.1] 27,Res.nest 86 3 1 eI_ (.slice g.2.2.1 (List.replicate x0.states.toNat ([]:List Int)).length g.2.2.2.1) (List.replicate x0.states.toNat (nilN:NP Int)),Res.cells g.2.2.2.2.1 #[.slice g.2.2.2.2.2.1 ((List.replicate x0.states.toNat ([]:List Int)).length) g.2.2.2.2.2.2] 27,Res.nest 86 3 1 eI_ (.slice g.2.2.2.2.2.1 (List.replicate x0.states.toNat ([]:List Int)).length g.2.2.2.2.2.2) (List.replicate x0.states.toNat (nilN:NP Int))]) (fun g=>σ) (fun g=>Dc_ x0=some r∧Zn (List.replicate x0.states.toNat (nilN:NP Int)) (List.replicate x0.states.toNat ([]:List Int))∧Zn (List.replicate x0.states.toNat (nilN:NP Int)) (List.replicate x0.states.toNat ([]:List Int))) ?_ (fun g j hg=> ?_)))
 ·skip
  have u5:=grd_c hh
  replace hh:=grd_t hh
  have u8:=grd_c hh
  replace hh:=grd_t hh
  refine TC.drawR (Hr:=[Res.cells b109 #[.int .i64 x0.states,.slice a0_0 x0.starts.length c0_0,.slice a0_1 x0.ends.length c0_1,.slice a0_2 x0.arcs.length c0_2] 25]) (fun r hr=>mem_pick [0] z hr) [] (by kernel_rfl) (TA.a 0 z (fieldLoc z fo25_0 z) z (TA.b 1 z (loadLoc z ag3 z (i:=0) z z) z (TA.a 3 z (fieldLoc z fo25_0 z) z (TA.b 4 z (loadLoc z ag3 z (i:=0) z z) z ?_))))
  refine TA.actN [2,5,6,7] (by kernel_rfl) (an rfl rfl (makeN (q:=x0.states.toNat) (E:=3) (size:=1) (enc:=eI_) rfl underlying27 sz86 by86 ze86 rfl rfl (vN u5.1) (vN u5.1) (by omega) (by decide) rfl (fun a135 c136 zf137=>(k1 ?_))) (an rfl rfl (makeN (q:=x0.states.toNat) (E:=3) (size:=1) (enc:=eI_) rfl underlying27 sz86 by86 ze86 rfl rfl (vN u8.1) (vN u8.1) (by omega) (by decide) rfl (fun a139 c140 zf141=>(k1 ?_))) (an rfl rfl (OpOk.alloc rfl ze27 rfl rfl (fun b143=>(k1 ?_))) (an rfl rfl (OpOk.alloc rfl ze27 rfl rfl (fun b145=>(k1 ?_))) (True.intro)))))
  ·skip
   refine TA.actN [5,6,7] (by kernel_rfl) (an rfl rfl (makeN (q:=x0.states.toNat) (E:=3) (size:=1) (enc:=eI_) rfl underlying27 sz86 by86 ze86 rfl rfl (vN u8.1) (vN u8.1) (by omega) (by decide) rfl (fun a147 c148 zf149=>(k2 ?_))) (an rfl rfl (OpOk.alloc rfl ze27 rfl rfl (fun b151=>(k2 ?_))) (an rfl rfl (OpOk.alloc rfl ze27 rfl rfl (fun b153=>(k2 ?_))) (True.intro))))
   ·skip
    refine TA.actN [6,7] (by kernel_rfl) (an z z (OpOk.alloc z ze27 z z (fun b155=>(k3 ?_))) (an z z (OpOk.alloc z ze27 z z (fun b157=>(k3 ?_))) (True.intro)))
    ·skip
     refine TA.ac 7 z (OpOk.alloc z ze27 z z (fun b159=>(kc 4 ?_)))
     refine TA.front 1 z z (TA.ac 8 z (storeSl z sz27 z z z z z (kc 4 ?_)))
     refine TA.front 1 z z (TA.ac 9 z (storeSl z sz27 z z z z z (kc 4 ?_)))
     exact TA.dn (S.n (cf ((),(b155,a135,c136,b159,a147,c148)) ⟨hh,zf137,zf149⟩ (Sub.f [2,1,3,3,4] 5)))
    skip
    refine TA.ac 6 z (OpOk.alloc z ze27 z z (fun b161=>(kc 4 ?_)))
    refine TA.ac 8 z (storeSl z sz27 z z z z z (kc 4 ?_))
    refine TA.front 1 z z (TA.ac 9 z (storeSl z sz27 z z z z z (kc 4 ?_)))
    exact TA.dn (S.n (cf ((),(b161,a135,c136,b157,a147,c148)) ⟨hh,zf137,zf149⟩ (Sub.f [2,1,3,3,4] 5)))
   ·skip
    refine TA.actN [5,7] (by kernel_rfl) (an rfl rfl (makeN (q:=x0.states.toNat) (E:=3) (size:=1) (enc:=eI_) rfl underlying27 sz86 by86 ze86 rfl rfl (vN u8.1) (vN u8.1) (by omega) (by decide) rfl (fun a163 c164 zf165=>(k3 ?_))) (an rfl rfl (OpOk.alloc rfl ze27 rfl rfl (fun b167=>(k3 ?_))) (True.intro)))
    ·skip
     refine TA.ac 7 z (OpOk.alloc z ze27 z z (fun b169=>(kc 4 ?_)))
     refine TA.front 2 z z (TA.ac 8 z (storeSl z sz27 z z z z z (kc 4 ?_)))
     refine TA.front 1 z z (TA.ac 9 z (storeSl z sz27 z z z z z (kc 4 ?_)))
     exact TA.dn (S.n (cf ((),(b151,a135,c136,b169,a163,c164)) ⟨hh,zf137,zf165⟩ (Sub.f [2,1,3,3,4] 5)))
    skip
    refine TA.actN [5,8] (by kernel_rfl) (an rfl rfl (makeN (q:=x0.states.toNat) (E:=3) (size:=1) (enc:=eI_) rfl underlying27 sz86 by86 ze86 rfl rfl (vN u8.1) (vN u8.1) (by omega) (by decide) rfl (fun a171 c172 zf173=>(kc 4 ?_))) (an rfl rfl (OpOk.front 1 rfl rfl (storeSl rfl sz27 rfl rfl rfl rfl rfl (k3 ?_))) (True.intro)))
    ·skip
     refine TA.front 2 z z (TA.ac 8 z (storeSl z sz27 z z z z z (kc 4 ?_)))
     refine TA.front 2 z z (TA.ac 9 z (storeSl z sz27 z z z z z (kc 4 ?_)))
     exact TA.dn (S.n (cf ((),(b151,a135,c136,b167,a171,c172)) ⟨hh,zf137,zf173⟩ (Sub.f [2,1,3,3,4] 5)))
    skip
    refine TA.ac 5 rfl (makeN (q:=x0.states.toNat) (E:=3) (size:=1) (enc:=eI_) rfl underlying27 sz86 by86 ze86 rfl rfl (vN u8.1) (vN u8.1) (by omega) (by decide) rfl (fun a175 c176 zf177=>(kc 4 ?_)))
    refine TA.front 2 z z (TA.ac 9 z (storeSl z sz27 z z z z z (kc 4 ?_)))
    exact TA.dn (S.n (cf ((),(b151,a135,c136,b167,a175,c176)) ⟨hh,zf137,zf177⟩ (Sub.f [1,1,3,3,4] 5)))
   skip
   refine TA.actN [5,6] (by kernel_rfl) (an rfl rfl (makeN (q:=x0.states.toNat) (E:=3) (size:=1) (enc:=eI_) rfl underlying27 sz86 by86 ze86 rfl rfl (vN u8.1) (vN u8.1) (by omega) (by decide) rfl (fun a179 c180 zf181=>(k3 ?_))) (an rfl rfl (OpOk.alloc rfl ze27 rfl rfl (fun b183=>(k3 ?_))) (True.intro)))
   ·skip
    refine TA.ac 6 z (OpOk.alloc z ze27 z z (fun b185=>(kc 4 ?_)))
    refine TA.ac 8 z (storeSl z sz27 z z z z z (kc 4 ?_))
    refine TA.front 2 z z (TA.ac 9 z (storeSl z sz27 z z z z z (kc 4 ?_)))
    exact TA.dn (S.n (cf ((),(b185,a135,c136,b153,a179,c180)) ⟨hh,zf137,zf181⟩ (Sub.f [2,1,3,3,4] 5)))
   skip
   refine TA.actN [5,8] (by kernel_rfl) (an rfl rfl (makeN (q:=x0.states.toNat) (E:=3) (size:=1) (enc:=eI_) rfl underlying27 sz86 by86 ze86 rfl rfl (vN u8.1) (vN u8.1) (by omega) (by decide) rfl (fun a187 c188 zf189=>(kc 4 ?_))) (an rfl rfl (storeSl rfl sz27 rfl rfl rfl rfl rfl (k3 ?_)) (True.intro)))
   ·skip
    refine TA.front 1 z z (TA.ac 8 z (storeSl z sz27 z z z z z (kc 4 ?_)))
    refine TA.front 2 z z (TA.ac 9 z (storeSl z sz27 z z z z z (kc 4 ?_)))
    exact TA.dn (S.n (cf ((),(b183,a135,c136,b153,a187,c188)) ⟨hh,zf137,zf189⟩ (Sub.f [2,1,3,3,4] 5)))
   skip
   refine TA.ac 5 rfl (makeN (q:=x0.states.toNat) (E:=3) (size:=1) (enc:=eI_) rfl underlying27 sz86 by86 ze86 rfl rfl (vN u8.1) (vN u8.1) (by omega) (by decide) rfl (fun a191 c192 zf193=>(kc 4 ?_)))
   refine TA.front 2 z z (TA.ac 9 z (storeSl z sz27 z z z z z (kc 4 ?_)))
   exact TA.dn (S.n (cf ((),(b183,a135,c136,b153,a191,c192)) ⟨hh,zf137,zf193⟩ (Sub.f [1,1,3,3,4] 5)))
  ·skip
   refine TA.actN [2,6,7] (by kernel_rfl) (an rfl rfl (makeN (q:=x0.states.toNat) (E:=3) (size:=1) (enc:=eI_) rfl underlying27 sz86 by86 ze86 rfl rfl (vN u5.1) (vN u5.1) (by omega) (by decide) rfl (fun a195 c196 zf197=>(k2 ?_))) (an rfl rfl (OpOk.alloc rfl ze27 rfl rfl (fun b199=>(k2 ?_))) (an rfl rfl (OpOk.alloc rfl ze27 rfl rfl (fun b201=>(k2 ?_))) (True.intro))))
   ·skip
    refine TA.actN [6,7] (by kernel_rfl) (an z z (OpOk.alloc z ze27 z z (fun b203=>(k3 ?_))) (an z z (OpOk.alloc z ze27 z z (fun b205=>(k3 ?_))) (True.intro)))
    ·skip
     refine TA.ac 7 z (OpOk.alloc z ze27 z z (fun b207=>(kc 4 ?_)))
     refine TA.front 1 z z (TA.ac 8 z (storeSl z sz27 z z z z z (kc 4 ?_)))
     refine TA.front 1 z z (TA.ac 9 z (storeSl z sz27 z z z z z (kc 4 ?_)))
     exact TA.dn (S.n (cf ((),(b203,a195,c196,b207,a139,c140)) ⟨hh,zf197,zf141⟩ (Sub.f [3,1,3,3,4] 5)))
    skip
    refine TA.ac 6 z (OpOk.alloc z ze27 z z (fun b209=>(kc 4 ?_)))
    refine TA.ac 8 z (storeSl z sz27 z z z z z (kc 4 ?_))
    refine TA.front 1 z z (TA.ac 9 z (storeSl z sz27 z z z z z (kc 4 ?_)))
    exact TA.dn (S.n (cf ((),(b209,a195,c196,b205,a139,c140)) ⟨hh,zf197,zf141⟩ (Sub.f [3,1,3,3,4] 5)))
   ·skip
    refine TA.actN [2,7] (by kernel_rfl) (an rfl rfl (makeN (q:=x0.states.toNat) (E:=3) (size:=1) (enc:=eI_) rfl underlying27 sz86 by86 ze86 rfl rfl (vN u5.1) (vN u5.1) (by omega) (by decide) rfl (fun a211 c212 zf213=>(k3 ?_))) (an rfl rfl (OpOk.alloc rfl ze27 rfl rfl (fun b215=>(k3 ?_))) (True.intro)))
    ·skip
     refine TA.ac 7 z (OpOk.alloc z ze27 z z (fun b217=>(kc 4 ?_)))
     refine TA.front 2 z z (TA.ac 8 z (storeSl z sz27 z z z z z (kc 4 ?_)))
     refine TA.front 1 z z (TA.ac 9 z (storeSl z sz27 z z z z z (kc 4 ?_)))
     exact TA.dn (S.n (cf ((),(b199,a211,c212,b217,a139,c140)) ⟨hh,zf213,zf141⟩ (Sub.f [3,1,3,3,4] 5)))
    skip
    refine TA.ac 2 rfl (makeN (q:=x0.states.toNat) (E:=3) (size:=1) (enc:=eI_) rfl underlying27 sz86 by86 ze86 rfl rfl (vN u5.1) (vN u5.1) (by omega) (by decide) rfl (fun a219 c220 zf221=>(kc 4 ?_)))
    refine TA.front 2 z z (TA.ac 8 z (storeSl z sz27 z z z z z (kc 4 ?_)))
    refine TA.front 2 z z (TA.ac 9 z (storeSl z sz27 z z z z z (kc 4 ?_)))
    exact TA.dn (S.n (cf ((),(b199,a219,c220,b215,a139,c140)) ⟨hh,zf221,zf141⟩ (Sub.f [3,1,3,3,4] 5)))
   skip
   refine TA.actN [2,6] (by kernel_rfl) (an rfl rfl (makeN (q:=x0.states.toNat) (E:=3) (size:=1) (enc:=eI_) rfl underlying27 sz86 by86 ze86 rfl rfl (vN u5.1) (vN u5.1) (by omega) (by decide) rfl (fun a223 c224 zf225=>(k3 ?_))) (an rfl rfl (OpOk.alloc rfl ze27 rfl rfl (fun b227=>(k3 ?_))) (True.intro)))
   ·skip
    refine TA.ac 6 z (OpOk.alloc z ze27 z z (fun b229=>(kc 4 ?_)))
    refine TA.ac 8 z (storeSl z sz27 z z z z z (kc 4 ?_))
    refine TA.front 2 z z (TA.ac 9 z (storeSl z sz27 z z z z z (kc 4 ?_)))
    exact TA.dn (S.n (cf ((),(b229,a223,c224,b201,a139,c140)) ⟨hh,zf225,zf141⟩ (Sub.f [3,1,3,3,4] 5)))
   skip
   refine TA.ac 2 rfl (makeN (q:=x0.states.toNat) (E:=3) (size:=1) (enc:=eI_) rfl underlying27 sz86 by86 ze86 rfl rfl (vN u5.1) (vN u5.1) (by omega) (by decide) rfl (fun a231 c232 zf233=>(kc 4 ?_)))
   refine TA.front 1 z z (TA.ac 8 z (storeSl z sz27 z z z z z (kc 4 ?_)))
   refine TA.front 2 z z (TA.ac 9 z (storeSl z sz27 z z z z z (kc 4 ?_)))
   exact TA.dn (S.n (cf ((),(b227,a231,c232,b201,a139,c140)) ⟨hh,zf233,zf141⟩ (Sub.f [3,1,3,3,4] 5)))
  ·skip
   refine TA.actN [2,5,7] (by kernel_rfl) (an rfl rfl (makeN (q:=x0.states.toNat) (E:=3) (size:=1) (enc:=eI_) rfl underlying27 sz86 by86 ze86 rfl rfl (vN u5.1) (vN u5.1) (by omega) (by decide) rfl (fun a235 c236 zf237=>(k2 ?_))) (an rfl rfl (makeN (q:=x0.states.toNat) (E:=3) (size:=1) (enc:=eI_) rfl underlying27 sz86 by86 ze86 rfl rfl (vN u8.1) (vN u8.1) (by omega) (by decide) rfl (fun a239 c240 zf241=>(k2 ?_))) (an rfl rfl (OpOk.alloc rfl ze27 rfl rfl (fun b243=>(k2 ?_))) (True.intro))))
   ·skip
    refine TA.actN [5,7] (by kernel_rfl) (an rfl rfl (makeN (q:=x0.states.toNat) (E:=3) (size:=1) (enc:=eI_) rfl underlying27 sz86 by86 ze86 rfl rfl (vN u8.1) (vN u8.1) (by omega) (by decide) rfl (fun a245 c246 zf247=>(k3 ?_))) (an rfl rfl (OpOk.alloc rfl ze27 rfl rfl (fun b249=>(k3 ?_))) (True.intro)))
    ·skip
     refine TA.ac 7 z (OpOk.alloc z ze27 z z (fun b251=>(kc 4 ?_)))
     refine TA.front 3 z z (TA.ac 8 z (storeSl z sz27 z z z z z (kc 4 ?_)))
     refine TA.front 1 z z (TA.ac 9 z (storeSl z sz27 z z z z z (kc 4 ?_)))
     exact TA.dn (S.n (cf ((),(b143,a235,c236,b251,a245,c246)) ⟨hh,zf237,zf247⟩ (Sub.f [2,1,3,3,4] 5)))
    skip
    refine TA.actN [5,8] (by kernel_rfl) (an rfl rfl (makeN (q:=x0.states.toNat) (E:=3) (size:=1) (enc:=eI_) rfl underlying27 sz86 by86 ze86 rfl rfl (vN u8.1) (vN u8.1) (by omega) (by decide) rfl (fun a253 c254 zf255=>(kc 4 ?_))) (an rfl rfl (OpOk.front 2 rfl rfl (storeSl rfl sz27 rfl rfl rfl rfl rfl (k3 ?_))) (True.intro)))
    ·skip
     refine TA.front 3 z z (TA.ac 8 z (storeSl z sz27 z z z z z (kc 4 ?_)))
     refine TA.front 2 z z (TA.ac 9 z (storeSl z sz27 z z z z z (kc 4 ?_)))
     exact TA.dn (S.n (cf ((),(b143,a235,c236,b249,a253,c254)) ⟨hh,zf237,zf255⟩ (Sub.f [2,1,3,3,4] 5)))
    skip
    refine TA.ac 5 rfl (makeN (q:=x0.states.toNat) (E:=3) (size:=1) (enc:=eI_) rfl underlying27 sz86 by86 ze86 rfl rfl (vN u8.1) (vN u8.1) (by omega) (by decide) rfl (fun a257 c258 zf259=>(kc 4 ?_)))
    refine TA.front 2 z z (TA.ac 9 z (storeSl z sz27 z z z z z (kc 4 ?_)))
    exact TA.dn (S.n (cf ((),(b143,a235,c236,b249,a257,c258)) ⟨hh,zf237,zf259⟩ (Sub.f [1,1,3,3,4] 5)))
   ·skip
    refine TA.actN [2,7] (by kernel_rfl) (an rfl rfl (makeN (q:=x0.states.toNat) (E:=3) (size:=1) (enc:=eI_) rfl underlying27 sz86 by86 ze86 rfl rfl (vN u5.1) (vN u5.1) (by omega) (by decide) rfl (fun a261 c262 zf263=>(k3 ?_))) (an rfl rfl (OpOk.alloc rfl ze27 rfl rfl (fun b265=>(k3 ?_))) (True.intro)))
    ·skip
     refine TA.ac 7 z (OpOk.alloc z ze27 z z (fun b267=>(kc 4 ?_)))
     refine TA.front 3 z z (TA.ac 8 z (storeSl z sz27 z z z z z (kc 4 ?_)))
     refine TA.front 1 z z (TA.ac 9 z (storeSl z sz27 z z z z z (kc 4 ?_)))
     exact TA.dn (S.n (cf ((),(b143,a261,c262,b267,a239,c240)) ⟨hh,zf263,zf241⟩ (Sub.f [3,1,3,3,4] 5)))
    skip
    refine TA.ac 2 rfl (makeN (q:=x0.states.toNat) (E:=3) (size:=1) (enc:=eI_) rfl underlying27 sz86 by86 ze86 rfl rfl (vN u5.1) (vN u5.1) (by omega) (by decide) rfl (fun a269 c270 zf271=>(kc 4 ?_)))
    refine TA.front 3 z z (TA.ac 8 z (storeSl z sz27 z z z z z (kc 4 ?_)))
    refine TA.front 2 z z (TA.ac 9 z (storeSl z sz27 z z z z z (kc 4 ?_)))
    exact TA.dn (S.n (cf ((),(b143,a269,c270,b265,a239,c240)) ⟨hh,zf271,zf241⟩ (Sub.f [3,1,3,3,4] 5)))
   skip
   refine TA.actN [2,5] (by kernel_rfl) (an rfl rfl (makeN (q:=x0.states.toNat) (E:=3) (size:=1) (enc:=eI_) rfl underlying27 sz86 by86 ze86 rfl rfl (vN u5.1) (vN u5.1) (by omega) (by decide) rfl (fun a273 c274 zf275=>(k3 ?_))) (an rfl rfl (makeN (q:=x0.states.toNat) (E:=3) (size:=1) (enc:=eI_) rfl underlying27 sz86 by86 ze86 rfl rfl (vN u8.1) (vN u8.1) (by omega) (by decide) rfl (fun a277 c278 zf279=>(k3 ?_))) (True.intro)))
   ·skip
    refine TA.actN [5,8] (by kernel_rfl) (an rfl rfl (makeN (q:=x0.states.toNat) (E:=3) (size:=1) (enc:=eI_) rfl underlying27 sz86 by86 ze86 rfl rfl (vN u8.1) (vN u8.1) (by omega) (by decide) rfl (fun a281 c282 zf283=>(kc 4 ?_))) (an rfl rfl (OpOk.front 2 rfl rfl (storeSl rfl sz27 rfl rfl rfl rfl rfl (k3 ?_))) (True.intro)))
    ·skip
     refine TA.front 3 z z (TA.ac 8 z (storeSl z sz27 z z z z z (kc 4 ?_)))
     refine TA.front 3 z z (TA.ac 9 z (storeSl z sz27 z z z z z (kc 4 ?_)))
     exact TA.dn (S.n (cf ((),(b143,a273,c274,b243,a281,c282)) ⟨hh,zf275,zf283⟩ (Sub.f [2,1,3,3,4] 5)))
    skip
    refine TA.ac 5 rfl (makeN (q:=x0.states.toNat) (E:=3) (size:=1) (enc:=eI_) rfl underlying27 sz86 by86 ze86 rfl rfl (vN u8.1) (vN u8.1) (by omega) (by decide) rfl (fun a285 c286 zf287=>(kc 4 ?_)))
    refine TA.front 3 z z (TA.ac 9 z (storeSl z sz27 z z z z z (kc 4 ?_)))
    exact TA.dn (S.n (cf ((),(b143,a273,c274,b243,a285,c286)) ⟨hh,zf275,zf287⟩ (Sub.f [1,1,3,3,4] 5)))
   skip
   refine TA.ac 2 rfl (makeN (q:=x0.states.toNat) (E:=3) (size:=1) (enc:=eI_) rfl underlying27 sz86 by86 ze86 rfl rfl (vN u5.1) (vN u5.1) (by omega) (by decide) rfl (fun a289 c290 zf291=>(kc 4 ?_)))
   refine TA.front 3 z z (TA.ac 8 z (storeSl z sz27 z z z z z (kc 4 ?_)))
   refine TA.front 3 z z (TA.ac 9 z (storeSl z sz27 z z z z z (kc 4 ?_)))
   exact TA.dn (S.n (cf ((),(b143,a289,c290,b243,a277,c278)) ⟨hh,zf291,zf279⟩ (Sub.f [3,1,3,3,4] 5)))
  skip
  refine TA.actN [2,5,6] (by kernel_rfl) (an rfl rfl (makeN (q:=x0.states.toNat) (E:=3) (size:=1) (enc:=eI_) rfl underlying27 sz86 by86 ze86 rfl rfl (vN u5.1) (vN u5.1) (by omega) (by decide) rfl (fun a293 c294 zf295=>(k2 ?_))) (an rfl rfl (makeN (q:=x0.states.toNat) (E:=3) (size:=1) (enc:=eI_) rfl underlying27 sz86 by86 ze86 rfl rfl (vN u8.1) (vN u8.1) (by omega) (by decide) rfl (fun a297 c298 zf299=>(k2 ?_))) (an rfl rfl (OpOk.alloc rfl ze27 rfl rfl (fun b301=>(k2 ?_))) (True.intro))))
  ·skip
   refine TA.actN [5,6] (by kernel_rfl) (an rfl rfl (makeN (q:=x0.states.toNat) (E:=3) (size:=1) (enc:=eI_) rfl underlying27 sz86 by86 ze86 rfl rfl (vN u8.1) (vN u8.1) (by omega) (by decide) rfl (fun a303 c304 zf305=>(k3 ?_))) (an rfl rfl (OpOk.alloc rfl ze27 rfl rfl (fun b307=>(k3 ?_))) (True.intro)))
   ·skip
    refine TA.ac 6 z (OpOk.alloc z ze27 z z (fun b309=>(kc 4 ?_)))
    refine TA.ac 8 z (storeSl z sz27 z z z z z (kc 4 ?_))
    refine TA.front 3 z z (TA.ac 9 z (storeSl z sz27 z z z z z (kc 4 ?_)))
    exact TA.dn (S.n (cf ((),(b309,a293,c294,b145,a303,c304)) ⟨hh,zf295,zf305⟩ (Sub.f [2,1,3,3,4] 5)))
   skip
   refine TA.actN [5,8] (by kernel_rfl) (an rfl rfl (makeN (q:=x0.states.toNat) (E:=3) (size:=1) (enc:=eI_) rfl underlying27 sz86 by86 ze86 rfl rfl (vN u8.1) (vN u8.1) (by omega) (by decide) rfl (fun a311 c312 zf313=>(kc 4 ?_))) (an rfl rfl (storeSl rfl sz27 rfl rfl rfl rfl rfl (k3 ?_)) (True.intro)))
   ·skip
    refine TA.front 1 z z (TA.ac 8 z (storeSl z sz27 z z z z z (kc 4 ?_)))
    refine TA.front 3 z z (TA.ac 9 z (storeSl z sz27 z z z z z (kc 4 ?_)))
    exact TA.dn (S.n (cf ((),(b307,a293,c294,b145,a311,c312)) ⟨hh,zf295,zf313⟩ (Sub.f [2,1,3,3,4] 5)))
   skip
   refine TA.ac 5 rfl (makeN (q:=x0.states.toNat) (E:=3) (size:=1) (enc:=eI_) rfl underlying27 sz86 by86 ze86 rfl rfl (vN u8.1) (vN u8.1) (by omega) (by decide) rfl (fun a315 c316 zf317=>(kc 4 ?_)))
   refine TA.front 3 z z (TA.ac 9 z (storeSl z sz27 z z z z z (kc 4 ?_)))
   exact TA.dn (S.n (cf ((),(b307,a293,c294,b145,a315,c316)) ⟨hh,zf295,zf317⟩ (Sub.f [1,1,3,3,4] 5)))
  ·skip
   refine TA.actN [2,6] (by kernel_rfl) (an rfl rfl (makeN (q:=x0.states.toNat) (E:=3) (size:=1) (enc:=eI_) rfl underlying27 sz86 by86 ze86 rfl rfl (vN u5.1) (vN u5.1) (by omega) (by decide) rfl (fun a319 c320 zf321=>(k3 ?_))) (an rfl rfl (OpOk.alloc rfl ze27 rfl rfl (fun b323=>(k3 ?_))) (True.intro)))
   ·skip
    refine TA.ac 6 z (OpOk.alloc z ze27 z z (fun b325=>(kc 4 ?_)))
    refine TA.ac 8 z (storeSl z sz27 z z z z z (kc 4 ?_))
    refine TA.front 3 z z (TA.ac 9 z (storeSl z sz27 z z z z z (kc 4 ?_)))
    exact TA.dn (S.n (cf ((),(b325,a319,c320,b145,a297,c298)) ⟨hh,zf321,zf299⟩ (Sub.f [3,1,3,3,4] 5)))
   skip
   refine TA.ac 2 rfl (makeN (q:=x0.states.toNat) (E:=3) (size:=1) (enc:=eI_) rfl underlying27 sz86 by86 ze86 rfl rfl (vN u5.1) (vN u5.1) (by omega) (by decide) rfl (fun a327 c328 zf329=>(kc 4 ?_)))
   refine TA.front 1 z z (TA.ac 8 z (storeSl z sz27 z z z z z (kc 4 ?_)))
   refine TA.front 3 z z (TA.ac 9 z (storeSl z sz27 z z z z z (kc 4 ?_)))
   exact TA.dn (S.n (cf ((),(b323,a327,c328,b145,a297,c298)) ⟨hh,zf329,zf299⟩ (Sub.f [3,1,3,3,4] 5)))
  skip
  refine TA.actN [2,5] (by kernel_rfl) (an rfl rfl (makeN (q:=x0.states.toNat) (E:=3) (size:=1) (enc:=eI_) rfl underlying27 sz86 by86 ze86 rfl rfl (vN u5.1) (vN u5.1) (by omega) (by decide) rfl (fun a331 c332 zf333=>(k3 ?_))) (an rfl rfl (makeN (q:=x0.states.toNat) (E:=3) (size:=1) (enc:=eI_) rfl underlying27 sz86 by86 ze86 rfl rfl (vN u8.1) (vN u8.1) (by omega) (by decide) rfl (fun a335 c336 zf337=>(k3 ?_))) (True.intro)))
  ·skip
   refine TA.actN [5,8] (by kernel_rfl) (an rfl rfl (makeN (q:=x0.states.toNat) (E:=3) (size:=1) (enc:=eI_) rfl underlying27 sz86 by86 ze86 rfl rfl (vN u8.1) (vN u8.1) (by omega) (by decide) rfl (fun a339 c340 zf341=>(kc 4 ?_))) (an rfl rfl (OpOk.front 1 rfl rfl (storeSl rfl sz27 rfl rfl rfl rfl rfl (k3 ?_))) (True.intro)))
   ·skip
    refine TA.front 2 z z (TA.ac 8 z (storeSl z sz27 z z z z z (kc 4 ?_)))
    refine TA.front 3 z z (TA.ac 9 z (storeSl z sz27 z z z z z (kc 4 ?_)))
    exact TA.dn (S.n (cf ((),(b301,a331,c332,b145,a339,c340)) ⟨hh,zf333,zf341⟩ (Sub.f [2,1,3,3,4] 5)))
   skip
   refine TA.ac 5 rfl (makeN (q:=x0.states.toNat) (E:=3) (size:=1) (enc:=eI_) rfl underlying27 sz86 by86 ze86 rfl rfl (vN u8.1) (vN u8.1) (by omega) (by decide) rfl (fun a343 c344 zf345=>(kc 4 ?_)))
   refine TA.front 3 z z (TA.ac 9 z (storeSl z sz27 z z z z z (kc 4 ?_)))
   exact TA.dn (S.n (cf ((),(b301,a331,c332,b145,a343,c344)) ⟨hh,zf333,zf345⟩ (Sub.f [1,1,3,3,4] 5)))
  skip
  refine TA.ac 2 rfl (makeN (q:=x0.states.toNat) (E:=3) (size:=1) (enc:=eI_) rfl underlying27 sz86 by86 ze86 rfl rfl (vN u5.1) (vN u5.1) (by omega) (by decide) rfl (fun a347 c348 zf349=>(kc 4 ?_)))
  refine TA.front 2 z z (TA.ac 8 z (storeSl z sz27 z z z z z (kc 4 ?_)))
  refine TA.front 3 z z (TA.ac 9 z (storeSl z sz27 z z z z z (kc 4 ?_)))
  exact TA.dn (S.n (cf ((),(b301,a347,c348,b145,a335,c336)) ⟨hh,zf349,zf337⟩ (Sub.f [3,1,3,3,4] 5)))
 skip
 obtain ⟨_,⟨b112,a114,c115,b118,a120,c121⟩⟩:=g
 obtain ⟨hh,zf116,zf122⟩:=hg
 try dsimp only at zf116 zf122 ⊢
 dsimp only [Dc_]at hh
 have zf116b:=zf116.len
 have zf122b:=zf122.len
 refine TC.know (isSl_nest (q:=2) z zf116) (fun ⟨_,hb351⟩=> ?_)
 refine TC.know (isSl_nest (q:=4) z zf122) (fun ⟨_,hb352⟩=> ?_)
 refine TC.seq (TC.a (TL.w z (fieldLoc z fo25_3 z) (TL.w z (loadLoc z ag23 z (i:=0) z z) (TL.w z (lenC z underlying23 z) (TL.i z z (TL.en (TC.block (TC.loopG (α:=((List (List Int))×(List (List Int))×Nat)×((List (NP Int))×(List (NP Int)))) (rgs [(6,1),(16,31)]) (fun g=>[(16,.int .i64 ((g.1.2.2:Nat):Int))]) (fun g=>[Res.cells b109 #[.int .i64 x0.states,.slice a0_0 x0.starts.length c0_0,.slice a0_1 x0.ends.length c0_1,.slice a0_2 x0.arcs.length c0_2] 25,Res.cells b112 #[.slice a114 ((List.replicate x0.states.toNat ([]:List Int)).length) c115] 27,Res.nest 86 3 1 eI_ (.slice a114 (List.replicate x0.states.toNat ([]:List Int)).length c115) g.2.1,Res.cells b118 #[.slice a120 g.1.2.1.length c121] 27,Res.nest 86 3 1 eI_ (.slice a120 g.1.2.1.length c121) g.2.2]) (fun g=>σ) (fun g=>iter (fun q:(List (List Int))×(List (List Int))×Nat=>A6_ x0 q.1 q.2.1 q.2.2) g.1=some r∧g.1.1.length=(List.replicate x0.states.toNat ([]:List Int)).length∧Zn g.2.1 g.1.1∧Zn g.2.2 g.1.2.1) (fun g=>rounds (fun q:(List (List Int))×(List (List Int))×Nat=>A6_ x0 q.1 q.2.1 q.2.2) g.1) (((List.replicate x0.states.toNat ([]:List Int)),(List.replicate x0.states.toNat ([]:List Int)),0),((List.replicate x0.states.toNat (nilN:NP Int)),(List.replicate x0.states.toNat (nilN:NP Int)))) (Sub.f [4,4,4,4,4] 5) z (by repeat (first|exact trivial|refine ⟨z,?_⟩)) ⟨hh,z,zf116,zf122⟩ (fun g1 j1 hg1=> ?_)))))))))
 obtain ⟨⟨l387,l391,k394⟩,⟨z389,z392⟩⟩:=g1
 obtain ⟨hh,hn388,zf390,zf393⟩:=hg1
 try dsimp only at hn388 zf390 zf393 ⊢
 obtain ⟨z1,hh,hR1⟩:=iter_e hh
 dsimp only [A6_]at hh
 have hn388b:=hn388
 have zf390b:=zf390.len
 have zf393b:=zf393.len
 refine TC.know (isSl_nest (q:=2) z zf390) (fun ⟨_,hb395⟩=> ?_)
 refine TC.know (isSl_nest (q:=4) z zf393) (fun ⟨_,hb396⟩=> ?_)
 refine TC.a (TL.w z (OpVal.lss z z z) (TL.en (TC.seq (TC.cD z hh (fun h397 hh=> ?_) (fun h397 hh=> ?_)))))
 ·refine TC.skip (S.n (TC.cutG (α:=(Unit)×((List (NP Int))×(List (NP Int)))) (rgs [(6,1),(18,28)]) (fun g=>[]) (fun g=>[Res.cells b109 #[.int .i64 x0.states,.slice a0_0 x0.starts.length c0_0,.slice a0_1 x0.ends.length c0_1,.slice a0_2 x0.arcs.length c0_2] 25,Res.cells b112 #[.slice a114 ((List.replicate x0.states.toNat ([]:List Int)).length) c115] 27,Res.nest 86 3 1 eI_ (.slice a114 (List.replicate x0.states.toNat ([]:List Int)).length c115) g.2.1,Res.cells b118 #[.slice a120 l391.length c121] 27,Res.nest 86 3 1 eI_ (.slice a120 l391.length c121) g.2.2]) (fun g=>σ) (fun g=>De_ l387 x0 k394 l391=some z1∧(l387.set (((nth x0.arcs k394 Arc.zero).frm).toNat) ((nth l387 (((nth x0.arcs k394 Arc.zero).frm).toNat) ([]:List Int))++[(nth x0.arcs k394 Arc.zero).to])).length=(List.replicate x0.states.toNat ([]:List Int)).length∧Zn g.2.1 (l387.set (((nth x0.arcs k394 Arc.zero).frm).toNat) ((nth l387 (((nth x0.arcs k394 Arc.zero).frm).toNat) ([]:List Int))++[(nth x0.arcs k394 Arc.zero).to]))∧(l391.set (((nth x0.arcs k394 Arc.zero).to).toNat) ((nth l391 (((nth x0.arcs k394 Arc.zero).to).toNat) ([]:List Int))++[(nth x0.arcs k394 Arc.zero).frm])).length=l391.length∧Zn g.2.2 (l391.set (((nth x0.arcs k394 Arc.zero).to).toNat) ((nth l391 (((nth x0.arcs k394 Arc.zero).to).toNat) ([]:List Int))++[(nth x0.arcs k394 Arc.zero).frm]))) ?_ (fun g j hg=> ?_)))
  ·skip
   refine TC.block (TC.a (TL.w z (indexN z underlying23 sz66 z z f0_2.rv.sl (by omega)) (TL.w z (loadSA Arc.zero z ag66 sz66 z f0_2 (by omega) (by omega)) (TL.op z (OpOk.alloc z ze66 z z (fun b404=> ?_))))))
   refine TL.op z (storeAll z sz66 z z z z z z ?_)
   refine TL.en (TC.cutG (α:=(Unit)×((List (NP Int)))) (rgs [(20,13)]) (fun g=>[]) (fun g=>[Res.cells b109 #[.int .i64 x0.states,.slice a0_0 x0.starts.length c0_0,.slice a0_1 x0.ends.length c0_1,.slice a0_2 x0.arcs.length c0_2] 25,Res.cells b112 #[.slice a114 ((List.replicate x0.states.toNat ([]:List Int)).length) c115] 27,Res.nest 86 3 1 eI_ (.slice a114 (List.replicate x0.states.toNat ([]:List Int)).length c115) g.2,Res.cells b118 #[.slice a120 l391.length c121] 27,Res.nest 86 3 1 eI_ (.slice a120 l391.length c121) z392,Res.cells b404 #[.int .i64 ((nth x0.arcs k394 Arc.zero).frm),.int .i64 ((nth x0.arcs k394 Arc.zero).to),.int .u64 ((((nth x0.arcs k394 Arc.zero).set).a:Nat):Int),.int .u64 ((((nth x0.arcs k394 Arc.zero).set).b:Nat):Int),.int .u64 ((((nth x0.arcs k394 Arc.zero).set).c:Nat):Int),.int .u64 ((((nth x0.arcs k394 Arc.zero).set).d:Nat):Int),.string (bs ((nth x0.arcs k394 Arc.zero).out)),.bool ((nth x0.arcs k394 Arc.zero).copy)] 66]) (fun g=>σ) (fun g=>Dh_ x0 k394 l391 l387=some z1∧(l387.set (((nth x0.arcs k394 Arc.zero).frm).toNat) ((nth l387 (((nth x0.arcs k394 Arc.zero).frm).toNat) ([]:List Int))++[(nth x0.arcs k394 Arc.zero).to])).length=(List.replicate x0.states.toNat ([]:List Int)).length∧Zn g.2 (l387.set (((nth x0.arcs k394 Arc.zero).frm).toNat) ((nth l387 (((nth x0.arcs k394 Arc.zero).frm).toNat) ([]:List Int))++[(nth x0.arcs k394 Arc.zero).to]))∧Zn z392 l391) ?_ (fun g j hg=> ?_))
   ·skip
    have u28:=grd_c hh
    replace hh:=grd_t hh
    have u33:=grd_c hh
    replace hh:=grd_t hh
    have u34:=grd_c hh
    replace hh:=grd_t hh
    refine TC.drawR (Hr:=[Res.cells b404 #[.int .i64 ((nth x0.arcs k394 Arc.zero).frm),.int .i64 ((nth x0.arcs k394 Arc.zero).to),.int .u64 ((((nth x0.arcs k394 Arc.zero).set).a:Nat):Int),.int .u64 ((((nth x0.arcs k394 Arc.zero).set).b:Nat):Int),.int .u64 ((((nth x0.arcs k394 Arc.zero).set).c:Nat):Int),.int .u64 ((((nth x0.arcs k394 Arc.zero).set).d:Nat):Int),.string (bs ((nth x0.arcs k394 Arc.zero).out)),.bool ((nth x0.arcs k394 Arc.zero).copy)] 66,Res.cells b109 #[.int .i64 x0.states,.slice a0_0 x0.starts.length c0_0,.slice a0_1 x0.ends.length c0_1,.slice a0_2 x0.arcs.length c0_2] 25,Res.cells b112 #[.slice a114 ((List.replicate x0.states.toNat ([]:List Int)).length) c115] 27,Res.cells b118 #[.slice a120 l391.length c121] 27,Res.nest 86 3 1 eI_ (.slice a120 l391.length c121) z392]) (fun r hr=>mem_pick [0,1,2,4,5] z hr) [] (by kernel_rfl) (TA.b 0 z (loadLoc z ag27 z (i:=2) z z) z (TA.a 1 z (fieldLoc z fo66_0 z) z (TA.b 2 z (loadLoc z ag3 z (i:=0) z z) z (TA.b 3 z (loadLoc z ag27 z (i:=2) z z) z (TA.a 4 z (fieldLoc z fo66_0 z) z (TA.b 5 z (loadLoc z ag3 z (i:=0) z z) z (TA.know (isSl_nest (q:=3) z zf390) (fun ⟨hs421,hs421b⟩=> ?_))))))))
    refine TA.b 6 z (OpVal.index z underlying27 sz86 z z hs421 u28.1 u28.2) z (TA.a 8 z (fieldLoc z fo66_1 z) z (TA.b 9 z (loadLoc z ag3 z (i:=0) z z) z ?_))
    obtain ⟨p422,hz422,hm422⟩:=Zn.at zf390 (i:=((nth x0.arcs k394 Arc.zero).frm).toNat) (by omega)
    refine TA.actN [7,10] (by kernel_rfl) (an z z (OpVal.ok (loadN z ag86 z (q:=3) z hz422 hm422) z z ⟨(fun w h=>sees_of (Store.le.refl _) (fun r hr=>mem_pick [0,1,2,4,5] z hr) w h),?_⟩) (an z z (OpOk.lit (enc:=eI_) [(nth x0.arcs k394 Arc.zero).to] z underlying86 sz3 ze3 z z z eIl_ (by decide) (by decide) (0:Int) z (by decide) z (by decide) eIo_ (fun a423 c424=>⟨(fun w h=>sees_of (Store.le.refl _) (fun r hr=>mem_pick [1,2,3,5,6] z hr) w h),?_⟩)) (True.intro)))
    ·skip
     refine TA.ac 10 z (OpOk.lit (enc:=eI_) [(nth x0.arcs k394 Arc.zero).to] z underlying86 sz3 ze3 z z z eIl_ (by decide) (by decide) (0:Int) z (by decide) z (by decide) eIo_ (fun a426 c427=>⟨(fun w h=>sees_of (Store.le.refl _) (fun r hr=>mem_pick [1,2,3,5,6] z hr) w h),?_⟩))
     refine TA.front 4 z z (TA.by (fun w h=>Reach.takeN hz422 hm422 h) (TA.ac 11 z (appendS z z underlying86 sz3 by3 ze3 z z (by decide) z z z (.inr ⟨_,1,z⟩) (by simpa using u33) (by decide) (fun a430 c431=>(k3 ?_)))))
     refine TA.know (isSl_nestX (q:=1) z zf390) (fun ⟨hs432,hs432b⟩=> ?_)
     refine TA.b 12 z (OpVal.index z underlying27 sz86 z z hs432 u34.1 u34.2) z (TA.front 1 z z (TA.front 1 z z ?_))
     have hn434:(l387.set (((nth x0.arcs k394 Arc.zero).frm).toNat) ((nth l387 (((nth x0.arcs k394 Arc.zero).frm).toNat) ([]:List Int))++[(nth x0.arcs k394 Arc.zero).to])).length=(List.replicate x0.states.toNat ([]:List Int)).length:=(List.length_set ..).trans hn388
     refine TA.ac 13 rfl (storeX (l':=((nth l387 (((nth x0.arcs k394 Arc.zero).frm).toNat) ([]:List Int))++[(nth x0.arcs k394 Arc.zero).to])) rfl sz86 rfl rfl rfl rfl rfl (by rw [zf390.len];omega) zf390 (fun zf433=>(k2 ?_)))
     exact TA.dn (S.n (cf ((),(z389.set (((nth x0.arcs k394 Arc.zero).frm).toNat) (((nth l387 (((nth x0.arcs k394 Arc.zero).frm).toNat) ([]:List Int))++[(nth x0.arcs k394 Arc.zero).to]),(a430,c431)))) ⟨hh,hn434,zf433,zf393⟩ (Sub.f [2,6,6,3,6,6] 6)))
    skip
    obtain ⟨p435,hz435,hm435⟩:=Zn.at zf390 (i:=((nth x0.arcs k394 Arc.zero).frm).toNat) (by omega)
    refine TA.ac 7 z (OpVal.ok (loadN z ag86 z (q:=4) z hz435 hm435) z z ⟨(fun w h=>sees_of (Store.le.refl _) (fun r hr=>mem_pick [1,2,3,5,6] z hr) w h),?_⟩)
    refine TA.front 4 z z (TA.by (fun w h=>Reach.takeN hz435 hm435 h) (TA.ac 11 z (appendS z z underlying86 sz3 by3 ze3 z z (by decide) z z z (.inr ⟨_,1,z⟩) (by simpa using u33) (by decide) (fun a437 c438=>(k3 ?_)))))
    refine TA.know (isSl_nestX (q:=1) z zf390) (fun ⟨hs439,hs439b⟩=> ?_)
    refine TA.b 12 z (OpVal.index z underlying27 sz86 z z hs439 u34.1 u34.2) z (TA.front 1 z z (TA.front 1 z z ?_))
    have hn441:(l387.set (((nth x0.arcs k394 Arc.zero).frm).toNat) ((nth l387 (((nth x0.arcs k394 Arc.zero).frm).toNat) ([]:List Int))++[(nth x0.arcs k394 Arc.zero).to])).length=(List.replicate x0.states.toNat ([]:List Int)).length:=(List.length_set ..).trans hn388
    refine TA.ac 13 rfl (storeX (l':=((nth l387 (((nth x0.arcs k394 Arc.zero).frm).toNat) ([]:List Int))++[(nth x0.arcs k394 Arc.zero).to])) rfl sz86 rfl rfl rfl rfl rfl (by rw [zf390.len];omega) zf390 (fun zf440=>(k2 ?_)))
    exact TA.dn (S.n (cf ((),(z389.set (((nth x0.arcs k394 Arc.zero).frm).toNat) (((nth l387 (((nth x0.arcs k394 Arc.zero).frm).toNat) ([]:List Int))++[(nth x0.arcs k394 Arc.zero).to]),(a437,c438)))) ⟨hh,hn441,zf440,zf393⟩ (Sub.f [2,6,6,3,6,6] 6)))
   skip
   obtain ⟨_,z407⟩:=g
   obtain ⟨hh,hn406,zf408,zf409⟩:=hg
   try dsimp only at hn406 zf408 zf409 ⊢
   dsimp only [Dh_]at hh
   have hn406b:=hn406
   have zf408b:=zf408.len
   have zf409b:=zf409.len
   refine TC.know (isSl_nest (q:=2) z zf408) (fun ⟨_,hb442⟩=> ?_)
   refine TC.know (isSl_nest (q:=4) z zf409) (fun ⟨_,hb443⟩=> ?_)
   have u42:=grd_c hh
   replace hh:=grd_t hh
   have u47:=grd_c hh
   replace hh:=grd_t hh
   have u48:=grd_c hh
   replace hh:=grd_t hh
   refine TC.drawR (Hr:=[Res.cells b109 #[.int .i64 x0.states,.slice a0_0 x0.starts.length c0_0,.slice a0_1 x0.ends.length c0_1,.slice a0_2 x0.arcs.length c0_2] 25,Res.cells b112 #[.slice a114 ((List.replicate x0.states.toNat ([]:List Int)).length) c115] 27,Res.nest 86 3 1 eI_ (.slice a114 (List.replicate x0.states.toNat ([]:List Int)).length c115) z407,Res.cells b118 #[.slice a120 l391.length c121] 27,Res.cells b404 #[.int .i64 ((nth x0.arcs k394 Arc.zero).frm),.int .i64 ((nth x0.arcs k394 Arc.zero).to),.int .u64 ((((nth x0.arcs k394 Arc.zero).set).a:Nat):Int),.int .u64 ((((nth x0.arcs k394 Arc.zero).set).b:Nat):Int),.int .u64 ((((nth x0.arcs k394 Arc.zero).set).c:Nat):Int),.int .u64 ((((nth x0.arcs k394 Arc.zero).set).d:Nat):Int),.string (bs ((nth x0.arcs k394 Arc.zero).out)),.bool ((nth x0.arcs k394 Arc.zero).copy)] 66]) (fun r hr=>mem_pick [0,1,2,3,5] z hr) [] (by kernel_rfl) (TA.b 0 z (loadLoc z ag27 z (i:=3) z z) z (TA.a 1 z (fieldLoc z fo66_1 z) z (TA.b 2 z (loadLoc z ag3 z (i:=4) z z) z (TA.b 3 z (loadLoc z ag27 z (i:=3) z z) z (TA.a 4 z (fieldLoc z fo66_1 z) z (TA.b 5 z (loadLoc z ag3 z (i:=4) z z) z (TA.know (isSl_nest (q:=4) z zf409) (fun ⟨hs455,hs455b⟩=> ?_))))))))
   refine TA.b 6 z (OpVal.index z underlying27 sz86 z z hs455 u42.1 u42.2) z (TA.a 8 z (fieldLoc z fo66_0 z) z (TA.b 9 z (loadLoc z ag3 z (i:=4) z z) z ?_))
   obtain ⟨p456,hz456,hm456⟩:=Zn.at zf409 (i:=((nth x0.arcs k394 Arc.zero).to).toNat) (by omega)
   refine TA.actN [7,10] (by kernel_rfl) (an z z (OpVal.ok (loadN z ag86 z (q:=4) z hz456 hm456) z z ⟨(fun w h=>sees_of (Store.le.refl _) (fun r hr=>mem_pick [0,1,2,3,5] z hr) w h),?_⟩) (an z z (OpOk.lit (enc:=eI_) [(nth x0.arcs k394 Arc.zero).frm] z underlying86 sz3 ze3 z z z eIl_ (by decide) (by decide) (0:Int) z (by decide) z (by decide) eIo_ (fun a457 c458=>⟨(fun w h=>sees_of (Store.le.refl _) (fun r hr=>mem_pick [1,2,3,4,6] z hr) w h),?_⟩)) (True.intro)))
   ·skip
    refine TA.ac 10 z (OpOk.lit (enc:=eI_) [(nth x0.arcs k394 Arc.zero).frm] z underlying86 sz3 ze3 z z z eIl_ (by decide) (by decide) (0:Int) z (by decide) z (by decide) eIo_ (fun a460 c461=>⟨(fun w h=>sees_of (Store.le.refl _) (fun r hr=>mem_pick [1,2,3,4,6] z hr) w h),?_⟩))
    refine TA.front 5 z z (TA.by (fun w h=>Reach.takeN hz456 hm456 h) (TA.ac 11 z (appendS z z underlying86 sz3 by3 ze3 z z (by decide) z z z (.inr ⟨_,1,z⟩) (by simpa using u47) (by decide) (fun a464 c465=>(k3 ?_)))))
    refine TA.know (isSl_nestX (q:=1) z zf409) (fun ⟨hs466,hs466b⟩=> ?_)
    refine TA.b 12 z (OpVal.index z underlying27 sz86 z z hs466 u48.1 u48.2) z (TA.front 1 z z (TA.front 1 z z ?_))
    have hn468:(l391.set (((nth x0.arcs k394 Arc.zero).to).toNat) ((nth l391 (((nth x0.arcs k394 Arc.zero).to).toNat) ([]:List Int))++[(nth x0.arcs k394 Arc.zero).frm])).length=l391.length:=(List.length_set ..).trans rfl
    refine TA.ac 13 rfl (storeX (l':=((nth l391 (((nth x0.arcs k394 Arc.zero).to).toNat) ([]:List Int))++[(nth x0.arcs k394 Arc.zero).frm])) rfl sz86 rfl rfl rfl rfl rfl (by rw [zf409.len];omega) zf409 (fun zf467=>(k2 ?_)))
    exact TA.dn (B.n (S.n (cf ((),(z407,(z392.set (((nth x0.arcs k394 Arc.zero).to).toNat) (((nth l391 (((nth x0.arcs k394 Arc.zero).to).toNat) ([]:List Int))++[(nth x0.arcs k394 Arc.zero).frm]),(a464,c465))))) ⟨hh,hn406,zf408,hn468,zf467⟩ (Sub.f [5,5,5,5] 5))))
   skip
   obtain ⟨p469,hz469,hm469⟩:=Zn.at zf409 (i:=((nth x0.arcs k394 Arc.zero).to).toNat) (by omega)
   refine TA.ac 7 z (OpVal.ok (loadN z ag86 z (q:=5) z hz469 hm469) z z ⟨(fun w h=>sees_of (Store.le.refl _) (fun r hr=>mem_pick [1,2,3,4,6] z hr) w h),?_⟩)
   refine TA.front 5 z z (TA.by (fun w h=>Reach.takeN hz469 hm469 h) (TA.ac 11 z (appendS z z underlying86 sz3 by3 ze3 z z (by decide) z z z (.inr ⟨_,1,z⟩) (by simpa using u47) (by decide) (fun a471 c472=>(k3 ?_)))))
   refine TA.know (isSl_nestX (q:=1) z zf409) (fun ⟨hs473,hs473b⟩=> ?_)
   refine TA.b 12 z (OpVal.index z underlying27 sz86 z z hs473 u48.1 u48.2) z (TA.front 1 z z (TA.front 1 z z ?_))
   have hn475:(l391.set (((nth x0.arcs k394 Arc.zero).to).toNat) ((nth l391 (((nth x0.arcs k394 Arc.zero).to).toNat) ([]:List Int))++[(nth x0.arcs k394 Arc.zero).frm])).length=l391.length:=(List.length_set ..).trans rfl
   refine TA.ac 13 rfl (storeX (l':=((nth l391 (((nth x0.arcs k394 Arc.zero).to).toNat) ([]:List Int))++[(nth x0.arcs k394 Arc.zero).frm])) rfl sz86 rfl rfl rfl rfl rfl (by rw [zf409.len];omega) zf409 (fun zf474=>(k2 ?_)))
   exact TA.dn (B.n (S.n (cf ((),(z407,(z392.set (((nth x0.arcs k394 Arc.zero).to).toNat) (((nth l391 (((nth x0.arcs k394 Arc.zero).to).toNat) ([]:List Int))++[(nth x0.arcs k394 Arc.zero).frm]),(a471,c472))))) ⟨hh,hn406,zf408,hn475,zf474⟩ (Sub.f [5,5,5,5] 5))))
  skip
  obtain ⟨_,⟨z399,z402⟩⟩:=g
  obtain ⟨hh,hn398,zf400,hn401,zf403⟩:=hg
  try dsimp only at hn398 zf400 hn401 zf403 ⊢
  dsimp only [De_]at hh
  have hn398b:=hn398
  have zf400b:=zf400.len
  have hn401b:=hn401
  have zf403b:=zf403.len
  refine TC.know (isSl_nest (q:=2) z zf400) (fun ⟨_,hb476⟩=> ?_)
  refine TC.know (isSl_nest (q:=4) z zf403) (fun ⟨_,hb477⟩=> ?_)
  refine TC.region (TL.w z (OpVal.succ z z z (by omega)) (TL.i z z ?_))
  rw [←hn401]
  refine TL.en ?_
  obtain ⟨hh,hlt478⟩:=nxt_x hR1 hh
  exact lf (((l387.set (((nth x0.arcs k394 Arc.zero).frm).toNat) ((nth l387 (((nth x0.arcs k394 Arc.zero).frm).toNat) ([]:List Int))++[(nth x0.arcs k394 Arc.zero).to])),(l391.set (((nth x0.arcs k394 Arc.zero).to).toNat) ((nth l391 (((nth x0.arcs k394 Arc.zero).to).toNat) ([]:List Int))++[(nth x0.arcs k394 Arc.zero).frm])),(k394+1)),(z399,z402)) hlt478 ⟨hh,hn398,zf400,zf403⟩ (Sub.f [4,4,4,4,4] 5)
 refine TC.exit (S.x (S.x ?_))
 replace hh:=fin_x hR1 hh
 refine TC.exitHere (S.n (TC.a (TL.w z (makeFn z) (TL.w z (moveFn (.inr z) z) (TL.en ?_)))))
 rw [←hn388]
 refine TC.front 2 z z (TC.seals (fun w h=>Reach.sealNest eIl_ zf390 h) (fun τ481 hle480 hr479=> ?_))
 replace f0_0:=f0_0.mono hle480
 replace f0_1:=f0_1.mono hle480
 replace f0_2:=f0_2.mono hle480
 have hr479b:=hr479.big
 refine TC.front 3 z z (TC.seals (fun w h=>Reach.sealNest eIl_ zf393 h) (fun τ484 hle483 hr482=> ?_))
 replace f0_0:=f0_0.mono hle483
 replace f0_1:=f0_1.mono hle483
 replace f0_2:=f0_2.mono hle483
 replace hr479:=hr479.mono hle483
 have hr482b:=hr482.big
 refine TC.ret ?_
 obtain rfl:=so hh
 exact ro [Res.cells b109 #[.int .i64 x0.states,.slice a0_0 x0.starts.length c0_0,.slice a0_1 x0.ends.length c0_1,.slice a0_2 x0.arcs.length c0_2] 25,Res.cells b112 #[.slice a114 l387.length c115] 27,Res.cells b118 #[.slice a120 l391.length c121] 27] z (RVs.tmp z RVs.nil) ⟨b109,a0_0,c0_0,a0_1,c0_1,a0_2,c0_2,b112,a114,c115,b118,a120,c121,z,f0_0,f0_1,f0_2,hr479,hr482,z⟩
def B1_(l143:List Int)(k145:Nat)(y4_0:Int):Option (Nat×((List Int)×Nat)):=
 grd (0≤y4_0∧y4_0<(l143.length:Int)) (grd (k145+1≤9223372036854775807) (some (0,((l143.set y4_0.toNat ((k145:Nat):Int)),(k145+1)))))
def C7_(k169:Nat)(l175:List Tip):Option (((List Tip)×Nat)⊕(Fst×Int)):=
 nxt (l175,(k169+1))
def C9_(k208:Nat)(l215:List Tip):Option (((List Tip)×Nat)⊕(Fst×Int)):=
 nxt (l215,(k208+1))
def Cp_(k249:Nat)(l257:List Arc):Option (((List Arc)×Nat)⊕(Fst×Int)):=
 nxt (l257,(k249+1))
def Bm_(x0:Fst)(l143:List Int)(k145:Nat)(l166:List Tip)(l205:List Tip)(l246:List Arc)(k249:Nat):Option (((List Arc)×Nat)⊕(Fst×Int)):=
 iteO (decide (((k249:Nat):Int)<((x0.arcs.length:Nat):Int))) (grd (0≤((nth x0.arcs k249 Arc.zero).frm)∧((nth x0.arcs k249 Arc.zero).frm)<(l143.length:Int)) (grd (0≤((nth x0.arcs k249 Arc.zero).to)∧((nth x0.arcs k249 Arc.zero).to)<(l143.length:Int)) (iteO (decide (0≤(nth l143 (((nth x0.arcs k249 Arc.zero).frm).toNat) (0:Int)))) (iteO (decide (0≤(nth l143 (((nth x0.arcs k249 Arc.zero).to).toNat) (0:Int)))) (grd ((l246.length+[(⟨(nth l143 (((nth x0.arcs k249 Arc.zero).frm).toNat) (0:Int)),(nth l143 (((nth x0.arcs k249 Arc.zero).to).toNat) (0:Int)),(nth x0.arcs k249 Arc.zero).set,(nth x0.arcs k249 Arc.zero).out,(nth x0.arcs k249 Arc.zero).copy⟩:Arc)].length) * 72≤140737488355328) (Cp_ k249 (l246++[(⟨(nth l143 (((nth x0.arcs k249 Arc.zero).frm).toNat) (0:Int)),(nth l143 (((nth x0.arcs k249 Arc.zero).to).toNat) (0:Int)),(nth x0.arcs k249 Arc.zero).set,(nth x0.arcs k249 Arc.zero).out,(nth x0.arcs k249 Arc.zero).copy⟩:Arc)]))) (Cp_ k249 l246)) (Cp_ k249 l246)))) (fin (bnd (Bv_ (⟨((k145:Nat):Int),l166,l205,l246⟩:Fst)) (fun v145=>some (v145.1,v145.2))))
def Bo_(x0:Fst)(l143:List Int)(k145:Nat)(l166:List Tip)(l205:List Tip)(k208:Nat):Option (((List Tip)×Nat)⊕(Fst×Int)):=
 iteO (decide (((k208:Nat):Int)<((x0.ends.length:Nat):Int))) (grd (0≤((nth x0.ends k208 Tip.zero).state)∧((nth x0.ends k208 Tip.zero).state)<(l143.length:Int)) (iteO (decide (0≤(nth l143 (((nth x0.ends k208 Tip.zero).state).toNat) (0:Int)))) (grd ((l205.length+[(⟨(nth l143 (((nth x0.ends k208 Tip.zero).state).toNat) (0:Int)),(nth x0.ends k208 Tip.zero).out⟩:Tip)].length) * 24≤140737488355328) (C9_ k208 (l205++[(⟨(nth l143 (((nth x0.ends k208 Tip.zero).state).toNat) (0:Int)),(nth x0.ends k208 Tip.zero).out⟩:Tip)]))) (C9_ k208 l205))) (fin (iter (fun q:(List Arc)×Nat=>Bm_ x0 l143 k145 l166 l205 q.1 q.2) (([]:List Arc),0)))
def Bn_(x0:Fst)(l143:List Int)(k145:Nat)(l166:List Tip)(k169:Nat):Option (((List Tip)×Nat)⊕(Fst×Int)):=
 iteO (decide (((k169:Nat):Int)<((x0.starts.length:Nat):Int))) (grd (0≤((nth x0.starts k169 Tip.zero).state)∧((nth x0.starts k169 Tip.zero).state)<(l143.length:Int)) (iteO (decide (0≤(nth l143 (((nth x0.starts k169 Tip.zero).state).toNat) (0:Int)))) (grd ((l166.length+[(⟨(nth l143 (((nth x0.starts k169 Tip.zero).state).toNat) (0:Int)),(nth x0.starts k169 Tip.zero).out⟩:Tip)].length) * 24≤140737488355328) (C7_ k169 (l166++[(⟨(nth l143 (((nth x0.starts k169 Tip.zero).state).toNat) (0:Int)),(nth x0.starts k169 Tip.zero).out⟩:Tip)]))) (C7_ k169 l166))) (fin (iter (fun q:(List Tip)×Nat=>Bo_ x0 l143 k145 l166 q.1 q.2) (([]:List Tip),0)))
def Eg_(x0:Fst)(jz:Nat)(l143:List Int)(k145:Nat):Option (Fst×Int):=
 jsel jz (iter (fun q:(List Tip)×Nat=>Bn_ x0 l143 k145 q.1 q.2) (([]:List Tip),0)) (fun _=>none)
def Bk_(x0:Fst)(l117:List Int)(k119:Nat):Option (((List Int)×Nat)⊕(Fst×Int)):=
 iteO (decide (((k119:Nat):Int)<(((List.replicate x0.states.toNat (0:Int)).length:Nat):Int))) (grd (k119<l117.length) (nxt ((l117.set k119 (-1)),(k119+1)))) (fin (bnd (Dj_ x0) (fun v29=>bnd (Cy_ (stepY (fun (q:(List Int)×Nat) (x:Int)=>B1_ q.1 q.2 x)) (0,(l117,0)) (⟨v29.1.states,v29.1.starts,v29.1.ends,v29.1.arcs⟩:Fst) v29.2.1 v29.2.2) (fun zr4=>Eg_ x0 zr4.1 zr4.2.1 zr4.2.2))))
def D1_(x0:Fst):Option (Fst×Int):=
 bnd (Ci_ x0) (fun v5=>iteO (decide (v5≠0)) (some ((⟨0,([]:List Tip),([]:List Tip),([]:List Arc)⟩:Fst),1)) (grd (0≤x0.states∧8 * x0.states.toNat≤281474976710656) (iter (fun q:(List Int)×Nat=>Bk_ x0 q.1 q.2) ((List.replicate x0.states.toNat (0:Int)),0))))
def F5_(σ:Store)(r:Fst×Int):Value→Store→List Res→Prop:=fun v σ' H'=>
 ∃a1 c1 a2 c2 a3 c3,v= .tuple #[.agg #[.int .i64 r.1.states,.slice a1 r.1.starts.length c1,.slice a2 r.1.ends.length c2,.slice a3 r.1.arcs.length c3],.int .i64 r.2]∧RS σ' 2 encTip (.slice a1 r.1.starts.length c1) r.1.starts∧RS σ' 2 encTip (.slice a2 r.1.ends.length c2) r.1.ends∧RS σ' 8 encArc (.slice a3 r.1.arcs.length c3) r.1.arcs∧H'=[]
theorem F0_{x0:Fst}(f0_0:RS σ 2 encTip (.slice a0_0 x0.starts.length c0_0) x0.starts)(f0_1:RS σ 2 encTip (.slice a0_1 x0.ends.length c0_1) x0.ends)(f0_2:RS σ 8 encArc (.slice a0_2 x0.arcs.length c0_2) x0.arcs){r:Fst×Int}(hh:D1_ x0=some r):
  Con Tryz.prog 44 #[.agg #[.int .i64 x0.states,.slice a0_0 x0.starts.length c0_0,.slice a0_1 x0.ends.length c0_1,.slice a0_2 x0.arcs.length c0_2]] σ [] (F5_ σ r):=by
 dsimp only [D1_]at hh
 have f0_0b:=f0_0.rv.big
 have f0_1b:=f0_1.rv.big
 have f0_2b:=f0_2.rv.big
 refine Con.mk (n:=136) Tryz.func44 z z z (fun w0=> ?_)
 refine TC.a (TL.op z (boxA z z z z (fun b101=> ?_)))
 refine TL.op z (OpOk.alloc z ze25 z z (fun b103=> ?_))
 refine TL.i z z (TL.en (TC.seq (TC.a (TL.w z (loadAll z ag25 sz25 z (i:=1) z z) ?_))))
 obtain ⟨v5,u5,hh⟩:=bnd_e hh
 refine TL.op z (callP (Dt_ (x0:=x0) f0_0 f0_1 f0_2 u5) z z pf43 z z z ?_)
 refine TL.w z (OpVal.neq z z z) (TL.en (TC.cD z hh (fun h105 hh=> ?_) (fun h105 hh=> ?_)))
 ·refine TC.a (TL.w z (buildL z pl25 ze25 z) (TL.op z (storeAll z sz25 z z z z z z ?_)))
  refine TL.i z z (TL.en (TC.rt 1 (S.r ?_)))
  obtain rfl:=so hh
  exact ro [] z (RVs.agg ag25 sz25 z (i:=0) z z (RVs.tmp z RVs.nil)) ⟨none,0,none,0,none,0,z,(RS.nilF _ encTip encTip_len),(RS.nilF _ encTip encTip_len),(RS.nilF _ encArc encArc_len),z⟩
 refine TC.skip (S.n (TC.a (TL.w z (fieldLoc z fo25_0 z) (TL.w z (loadLoc z ag3 z (i:=1) z z) ?_))))
 have u12:=grd_c hh
 replace hh:=grd_t hh
 refine TL.op rfl (makeS2 (m:=x0.states.toNat) (enc:=eI_) (0:Int) rfl underlying86 sz3 by3 ze3 rfl rfl (vN u12.1) (vN u12.1) (by omega) (by decide) eIl_ (by decide) rfl eIo_ (fun a106 c107=> ?_))
 refine TL.op z (OpOk.alloc z ze86 z z (fun b109=> ?_))
 refine TL.op z (storeSl z sz86 z z z z z ?_)
 refine TL.en (TC.seq (TC.a (TL.w z (loadLoc z ag86 z (i:=0) z z) (TL.w z (lenC z underlying86 z) (TL.i z z (TL.en (TC.block (TC.loopG (α:=((List Int)×Nat)×(Unit)) (rgs [(5,1),(27,7)]) (fun g=>[(27,.int .i64 ((g.1.2:Nat):Int))]) (fun g=>[Res.cells b101 #[.int .i64 x0.states,.slice a0_0 x0.starts.length c0_0,.slice a0_1 x0.ends.length c0_1,.slice a0_2 x0.arcs.length c0_2] 25,Res.cells b103 #[.int .i64 0,.slice none 0 0,.slice none 0 0,.slice none 0 0] 25,Res.cells b109 #[.slice a106 ((List.replicate x0.states.toNat (0:Int)).length) c107] 86,Res.rowS 3 1 eI_ (.slice a106 (List.replicate x0.states.toNat (0:Int)).length c107) g.1.1]) (fun g=>σ) (fun g=>iter (fun q:(List Int)×Nat=>Bk_ x0 q.1 q.2) g.1=some r∧g.1.1.length=(List.replicate x0.states.toNat (0:Int)).length) (fun g=>rounds (fun q:(List Int)×Nat=>Bk_ x0 q.1 q.2) g.1) (((List.replicate x0.states.toNat (0:Int)),0),()) (Sub.f [1,1,2,3] 4) z (by repeat (first|exact trivial|refine ⟨z,?_⟩)) ⟨hh,z⟩ (fun g1 j1 hg1=> ?_)))))))))
 obtain ⟨⟨l117,k119⟩,_⟩:=g1
 obtain ⟨hh,hn118⟩:=hg1
 try dsimp only at hn118 ⊢
 obtain ⟨z1,hh,hR1⟩:=iter_e hh
 dsimp only [Bk_]at hh
 have hn118b:=hn118
 refine TC.isSl (i:=3) z (fun _ hb120 _=> ?_)
 refine TC.a (TL.w z (OpVal.lss z z z) (TL.en (TC.seq (TC.cD z hh (fun h121 hh=> ?_) (fun h121 hh=> ?_)))))
 ·refine TC.skip (S.n (TC.seq (TC.block (TC.a (TL.i z z (TL.i z z (TL.en (TC.region (TL.w z (loadLoc z ag86 z (i:=2) z z) (TL.i z z ?_))))))))))
  have u23:=grd_c hh
  replace hh:=grd_t hh
  refine TL.isSl (i:=3) z (fun hs122 _ _=> ?_)
  refine TL.w z (indexN z underlying86 sz3 z z hs122 (by omega)) (TL.front 3 z z ?_)
  have hn123:(l117.set k119 (-1)).length=(List.replicate x0.states.toNat (0:Int)).length:=by rw [List.length_set];exact hn118
  refine TL.op z (storeS (-1) z sz3 z z z z eIl_ eIo_ (by omega) (by omega) ?_)
  refine TL.nil (B.n (S.n (TC.region (TL.w z (OpVal.succ z z z (by omega)) (TL.i z z (TL.en ?_))))))
  obtain ⟨hh,hlt124⟩:=nxt_x hR1 hh
  exact lf (((l117.set k119 (-1)),(k119+1)),()) hlt124 ⟨hh,hn123⟩ (Sub.f [3,3,3] 4)
 refine TC.exit (S.x (S.x ?_))
 replace hh:=fin_x hR1 hh
 refine TC.exitHere (S.n (TC.a (TL.op z (OpOk.alloc z ze25 z z (fun b125=> ?_)))))
 refine TL.en (TC.seq (TC.a (TL.w z (loadAll z ag25 sz25 z (i:=1) z z) ?_)))
 obtain ⟨v29,u29,hh⟩:=bnd_e hh
 refine TL.op z (OpOk.call (Ft_ f0_0 f0_1 f0_2 u29) z z pf85 z z z z ?_)
 rintro _ τ127 _ hle127 ⟨b127_10,a127_1,c127_2,a127_4,c127_5,a127_7,c127_8,b127_14,a127_11,c127_12,b127_18,a127_15,c127_16,rfl,f127_3,f127_6,f127_9,f127_13,f127_17,rfl⟩
 replace f0_0:=f0_0.mono hle127
 replace f0_1:=f0_1.mono hle127
 replace f0_2:=f0_2.mono hle127
 have f127_3b:=f127_3.rv.big
 have f127_6b:=f127_6.rv.big
 have f127_9b:=f127_9.rv.big
 have f127_13b:=f127_13.big
 have f127_17b:=f127_17.big
 refine TL.en (TC.block (TC.ofSub (Sub.f [2,2,2,3,7,7,7,7] 8) ?_))
 obtain ⟨zr4,hz4,hh⟩:=bnd_e hh
 obtain ⟨jz4,⟨l143,k145⟩⟩:=zr4
 dsimp only at hh
 refine TC.rangeG (A:=(fun (x:Int) _ vs=>vs=[.int .i64 x])) [] (fun (q:(List Int)×Nat) (x:Int)=>B1_ q.1 q.2 x) (fun (q:(List Int)×Nat) (τ146:Store) Hs=>Hs=[Res.cells b101 #[.int .i64 x0.states,.slice a0_0 x0.starts.length c0_0,.slice a0_1 x0.ends.length c0_1,.slice a0_2 x0.arcs.length c0_2] 25,Res.cells b103 #[.int .i64 0,.slice none 0 0,.slice none 0 0,.slice none 0 0] 25,Res.cells b109 #[.slice a106 ((List.replicate x0.states.toNat (0:Int)).length) c107] 86,Res.rowS 3 1 eI_ (.slice a106 (List.replicate x0.states.toNat (0:Int)).length c107) q.1,Res.cells b125 #[.int .i64 ((q.2:Nat):Int),.slice none 0 0,.slice none 0 0,.slice none 0 0] 25]∧q.1.length=(List.replicate x0.states.toNat (0:Int)).length) (s:=(l117,0)) rfl pf122 rfl rfl (by rintro _ _ _ _ ⟨rfl,hn144⟩ hle_;exact ⟨rfl,hn144⟩) ⟨rfl,hn118⟩ (fun _ _ _ h_=>by subst h_;rfl) (Fq_ f127_3 f127_6 f127_9 f127_13 f127_17 hz4) ?_ ?_
 ·clear hh hz4
  rintro l_ _ _ _ τ146 ⟨l143,k145⟩ y4_0 z4 _ _ hh hle147 rfl ⟨rfl,hn144⟩
  dsimp only [B1_]at hh
  replace f0_0:=f0_0.mono hle147
  replace f0_1:=f0_1.mono hle147
  replace f0_2:=f0_2.mono hle147
  have hn144b:=hn144
  show TC _ _ _ (upds _ [(36,.int .i64 y4_0)]) τ146 [Res.cells b101 #[.int .i64 x0.states,.slice a0_0 x0.starts.length c0_0,.slice a0_1 x0.ends.length c0_1,.slice a0_2 x0.arcs.length c0_2] 25,Res.cells b103 #[.int .i64 0,.slice none 0 0,.slice none 0 0,.slice none 0 0] 25,Res.cells b109 #[.slice a106 ((List.replicate x0.states.toNat (0:Int)).length) c107] 86,Res.rowS 3 1 eI_ (.slice a106 (List.replicate x0.states.toNat (0:Int)).length c107) l143,Res.cells b125 #[.int .i64 ((k145:Nat):Int),.slice none 0 0,.slice none 0 0,.slice none 0 0] 25]
  refine TC.isSl (i:=3) z (fun _ hb148 _=> ?_)
  refine TC.region (TL.i z z (TL.nil (asg_n (fun _ _ _=> ?_))))
  refine TC.block (TC.a (TL.w z (loadLoc z ag86 z (i:=2) z z) (TL.i z z (TL.w z (fieldLoc z fo25_0 z) (TL.w z (loadLoc z ag3 z (i:=4) z z) ?_)))))
  have u35:=grd_c hh
  replace hh:=grd_t hh
  refine TL.isSl (i:=3) z (fun hs149 _ _=> ?_)
  refine TL.w z (OpVal.index z underlying86 sz3 z z hs149 u35.1 u35.2) (TL.front 3 z z ?_)
  have hn150:(l143.set y4_0.toNat ((k145:Nat):Int)).length=(List.replicate x0.states.toNat (0:Int)).length:=by rw [List.length_set];exact hn144
  refine TL.op z (storeS ((k145:Nat):Int) z sz3 z z z z eIl_ eIo_ (by omega) (by omega) ?_)
  refine TL.en (TC.region (TL.w z (fieldLoc z fo25_0 z) (TL.w z (loadLoc z ag3 z (i:=4) z z) ?_)))
  have u39:=grd_c hh
  replace hh:=grd_t hh
  refine TL.w z (OpVal.succ z z z (by omega)) (TL.w z (fieldLoc z fo25_0 z) (TL.front 4 z z (TL.op z (storeI z sz3 z z z z z ?_))))
  refine TL.nil (B.n ?_)
  obtain rfl:=so hh
  exact rnd_n ⟨z,_,Sub.f [1,4,4,4] 5,⟨z,hn150⟩⟩
 rintro τ146 _ _ hle147 ⟨rfl,hn144⟩ ⟨rfl⟩
 replace f0_0:=f0_0.mono hle147
 replace f0_1:=f0_1.mono hle147
 replace f0_2:=f0_2.mono hle147
 have hn144b:=hn144
 dsimp only [Eg_]at hh
 show jmpQ _ _ _ _ _ τ146 [Res.cells b101 #[.int .i64 x0.states,.slice a0_0 x0.starts.length c0_0,.slice a0_1 x0.ends.length c0_1,.slice a0_2 x0.arcs.length c0_2] 25,Res.cells b103 #[.int .i64 0,.slice none 0 0,.slice none 0 0,.slice none 0 0] 25,Res.cells b109 #[.slice a106 ((List.replicate x0.states.toNat (0:Int)).length) c107] 86,Res.rowS 3 1 eI_ (.slice a106 (List.replicate x0.states.toNat (0:Int)).length c107) l143,Res.cells b125 #[.int .i64 ((k145:Nat):Int),.slice none 0 0,.slice none 0 0,.slice none 0 0] 25,Res.cells b127_10 #[.int .i64 v29.1.states,.slice a127_1 v29.1.starts.length c127_2,.slice a127_4 v29.1.ends.length c127_5,.slice a127_7 v29.1.arcs.length c127_8] 25,Res.cells b127_14 #[.slice a127_11 v29.2.1.length c127_12] 27,Res.cells b127_18 #[.slice a127_15 v29.2.2.length c127_16] 27]
 refine jmp_split hh ?_ ?_ <;>clear hh
 ·intro hh
  refine B.n (S.n (TC.seq (TC.a (TL.w z (fieldLoc z fo25_1 z) (TL.w z (loadLoc z ag22 z (i:=0) z z) (TL.w z (lenC z underlying22 z) (TL.i z z (TL.en (TC.block (TC.nilS 76 2 encTip (TC.loopG (α:=((List Tip)×Nat)×((Option Addr)×Nat)) (rgs [(9,2),(49,21)]) (fun g=>[(49,.int .i64 ((g.1.2:Nat):Int))]) (fun g=>[Res.cells b101 #[.int .i64 x0.states,.slice a0_0 x0.starts.length c0_0,.slice a0_1 x0.ends.length c0_1,.slice a0_2 x0.arcs.length c0_2] 25,Res.cells b103 #[.int .i64 0,.slice none 0 0,.slice none 0 0,.slice none 0 0] 25,Res.cells b109 #[.slice a106 ((List.replicate x0.states.toNat (0:Int)).length) c107] 86,Res.rowS 3 1 eI_ (.slice a106 (List.replicate x0.states.toNat (0:Int)).length c107) l143,Res.cells b125 #[.int .i64 ((k145:Nat):Int),.slice g.2.1 g.1.1.length g.2.2,.slice none 0 0,.slice none 0 0] 25,Res.rowS 76 2 encTip (.slice g.2.1 g.1.1.length g.2.2) g.1.1]) (fun g=>τ146) (fun g=>iter (fun q:(List Tip)×Nat=>Bn_ x0 l143 k145 q.1 q.2) g.1=some r∧l143.length=(List.replicate x0.states.toNat (0:Int)).length) (fun g=>rounds (fun q:(List Tip)×Nat=>Bn_ x0 l143 k145 q.1 q.2) g.1) ((([]:List Tip),0),(none,0)) (Sub.f [5,5,5,5,5] 6) z (by repeat (first|exact trivial|refine ⟨z,?_⟩)) ⟨hh,hn144⟩ (fun g2 j2 hg2=> ?_))))))))))))
  obtain ⟨⟨l166,k169⟩,⟨a167,c168⟩⟩:=g2
  obtain ⟨hh,hn164⟩:=hg2
  try dsimp only at hn164 ⊢
  obtain ⟨z1,hh,hR1⟩:=iter_e hh
  dsimp only [Bn_]at hh
  have hn164b:=hn164
  refine TC.isSl (i:=3) z (fun _ hb171 _=> ?_)
  refine TC.isSl (i:=5) z (fun _ hb172 _=> ?_)
  refine TC.a (TL.w z (OpVal.lss z z z) (TL.en (TC.seq (TC.cD z hh (fun h173 hh=> ?_) (fun h173 hh=> ?_)))))
  ·refine TC.skip (S.n (TC.cutG (α:=((List Tip))×((Option Addr)×Nat)) (rgs [(9,2),(51,18)]) (fun g=>[]) (fun g=>[Res.cells b101 #[.int .i64 x0.states,.slice a0_0 x0.starts.length c0_0,.slice a0_1 x0.ends.length c0_1,.slice a0_2 x0.arcs.length c0_2] 25,Res.cells b103 #[.int .i64 0,.slice none 0 0,.slice none 0 0,.slice none 0 0] 25,Res.cells b109 #[.slice a106 ((List.replicate x0.states.toNat (0:Int)).length) c107] 86,Res.rowS 3 1 eI_ (.slice a106 (List.replicate x0.states.toNat (0:Int)).length c107) l143,Res.cells b125 #[.int .i64 ((k145:Nat):Int),.slice g.2.1 g.1.length g.2.2,.slice none 0 0,.slice none 0 0] 25,Res.rowS 76 2 encTip (.slice g.2.1 g.1.length g.2.2) g.1]) (fun g=>τ146) (fun g=>C7_ k169 g.1=some z1∧l143.length=(List.replicate x0.states.toNat (0:Int)).length) ?_ (fun g j hg=> ?_)))
   ·skip
    refine TC.block (TC.a (TL.w z (indexN z underlying22 sz76 z z f0_0.rv.sl (by omega)) (TL.w z (loadSA Tip.zero z ag76 sz76 z f0_0 (by omega) (by omega)) (TL.op z (OpOk.alloc z ze76 z z (fun b178=> ?_))))))
    refine TL.op z (storeAll z sz76 z z z z z z ?_)
    refine TL.en (TC.a (TL.w z (loadLoc z ag86 z (i:=3) z z) (TL.w z (fieldLoc z fo76_0 z) (TL.w z (loadLoc z ag3 z (i:=0) z z) ?_))))
    have u54:=grd_c hh
    replace hh:=grd_t hh
    refine TL.isSl (i:=4) z (fun hs180 _ _=> ?_)
    refine TL.w z (OpVal.index z underlying86 sz3 z z hs180 u54.1 u54.2) (TL.w z (loadO1 (0:Int) z ag3 z (q:=4) z eIl_ (by omega) z) (TL.i z z (TL.en (TC.a (TL.i z z (TL.w z (OpVal.geq z z z) (TL.en (TC.cD z hh (fun h181 hh=> ?_) (fun h181 hh=> ?_)))))))))
    ·refine TC.region (TL.w z (fieldLoc z fo25_1 z) (TL.w z (loadLoc z ag22 z (i:=5) z z) (TL.i z z (TL.w z (fieldLoc z fo76_1 z) (TL.w z (loadLoc z ag9 z (i:=0) z z) (TL.w z (buildL z pl76 ze76 z) (TL.op z (OpOk.lit (enc:=encTip) [(⟨(nth l143 (((nth x0.starts k169 Tip.zero).state).toNat) (0:Int)),(nth x0.starts k169 Tip.zero).out⟩:Tip)] z underlying22 sz76 ze76 z z z encTip_len (by decide) (by decide) Tip.zero z (by decide) z (by decide) encTip_one (fun a182 c183=> ?_)))))))))
     refine TL.front 7 z z ?_
     have u66:=grd_c hh
     replace hh:=grd_t hh
     refine TL.op z (appendS z z underlying22 sz76 by76 ze76 z z (by decide) z z z (.inr ⟨_,0,z⟩) (by simpa using u66) (by decide) (fun a185 c186=> ?_))
     refine TL.w z (fieldLoc z fo25_1 z) (TL.front 7 z z (TL.op z (storeSl z sz22 z z z z z ?_)))
     exact TL.nil (B.n (S.n (cf ((l166++[(⟨(nth l143 (((nth x0.starts k169 Tip.zero).state).toNat) (0:Int)),(nth x0.starts k169 Tip.zero).out⟩:Tip)]),(a185,c186)) ⟨hh,hn164⟩ (Sub.f [1,1,7,7,7,7] 6))))
    exact TC.skip (B.n (S.n (cf (l166,(a167,c168)) ⟨hh,hn164⟩ (Sub.f [6,6,6,6,6,6] 6))))
   skip
   obtain ⟨l175,⟨a176,c177⟩⟩:=g
   obtain ⟨hh,hn174⟩:=hg
   try dsimp only at hn174 ⊢
   dsimp only [C7_]at hh
   have hn174b:=hn174
   refine TC.isSl (i:=3) z (fun _ hb187 _=> ?_)
   refine TC.isSl (i:=5) z (fun _ hb188 _=> ?_)
   refine TC.region (TL.w z (OpVal.succ z z z (by omega)) (TL.i z z (TL.en ?_)))
   obtain ⟨hh,hlt189⟩:=nxt_x hR1 hh
   exact lf ((l175,(k169+1)),(a176,c177)) hlt189 ⟨hh,hn174⟩ (Sub.f [5,5,5,5,5,5] 6)
  refine TC.exit (S.x (S.x ?_))
  replace hh:=fin_x hR1 hh
  refine TC.exitHere (S.n (TC.seq (TC.a (TL.w z (fieldLoc z fo25_2 z) (TL.w z (loadLoc z ag22 z (i:=0) z z) (TL.w z (lenC z underlying22 z) (TL.i z z (TL.en (TC.block (TC.nilS 76 2 encTip (TC.loopG (α:=((List Tip)×Nat)×((Option Addr)×Nat)) (rgs [(12,2),(73,21)]) (fun g=>[(73,.int .i64 ((g.1.2:Nat):Int))]) (fun g=>[Res.cells b101 #[.int .i64 x0.states,.slice a0_0 x0.starts.length c0_0,.slice a0_1 x0.ends.length c0_1,.slice a0_2 x0.arcs.length c0_2] 25,Res.cells b103 #[.int .i64 0,.slice none 0 0,.slice none 0 0,.slice none 0 0] 25,Res.cells b109 #[.slice a106 ((List.replicate x0.states.toNat (0:Int)).length) c107] 86,Res.rowS 3 1 eI_ (.slice a106 (List.replicate x0.states.toNat (0:Int)).length c107) l143,Res.cells b125 #[.int .i64 ((k145:Nat):Int),.slice a167 l166.length c168,.slice g.2.1 g.1.1.length g.2.2,.slice none 0 0] 25,Res.rowS 76 2 encTip (.slice a167 l166.length c168) l166,Res.rowS 76 2 encTip (.slice g.2.1 g.1.1.length g.2.2) g.1.1]) (fun g=>τ146) (fun g=>iter (fun q:(List Tip)×Nat=>Bo_ x0 l143 k145 l166 q.1 q.2) g.1=some r∧l143.length=(List.replicate x0.states.toNat (0:Int)).length) (fun g=>rounds (fun q:(List Tip)×Nat=>Bo_ x0 l143 k145 l166 q.1 q.2) g.1) ((([]:List Tip),0),(none,0)) (Sub.f [6,6,6,6,6,6] 7) z (by repeat (first|exact trivial|refine ⟨z,?_⟩)) ⟨hh,hn164⟩ (fun g3 j3 hg3=> ?_))))))))))))
  obtain ⟨⟨l205,k208⟩,⟨a206,c207⟩⟩:=g3
  obtain ⟨hh,hn203⟩:=hg3
  try dsimp only at hn203 ⊢
  obtain ⟨z1,hh,hR1⟩:=iter_e hh
  dsimp only [Bo_]at hh
  have hn203b:=hn203
  refine TC.isSl (i:=3) z (fun _ hb210 _=> ?_)
  refine TC.isSl (i:=5) z (fun _ hb211 _=> ?_)
  refine TC.isSl (i:=6) z (fun _ hb212 _=> ?_)
  refine TC.a (TL.w z (OpVal.lss z z z) (TL.en (TC.seq (TC.cD z hh (fun h213 hh=> ?_) (fun h213 hh=> ?_)))))
  ·refine TC.skip (S.n (TC.cutG (α:=((List Tip))×((Option Addr)×Nat)) (rgs [(12,2),(75,18)]) (fun g=>[]) (fun g=>[Res.cells b101 #[.int .i64 x0.states,.slice a0_0 x0.starts.length c0_0,.slice a0_1 x0.ends.length c0_1,.slice a0_2 x0.arcs.length c0_2] 25,Res.cells b103 #[.int .i64 0,.slice none 0 0,.slice none 0 0,.slice none 0 0] 25,Res.cells b109 #[.slice a106 ((List.replicate x0.states.toNat (0:Int)).length) c107] 86,Res.rowS 3 1 eI_ (.slice a106 (List.replicate x0.states.toNat (0:Int)).length c107) l143,Res.cells b125 #[.int .i64 ((k145:Nat):Int),.slice a167 l166.length c168,.slice g.2.1 g.1.length g.2.2,.slice none 0 0] 25,Res.rowS 76 2 encTip (.slice a167 l166.length c168) l166,Res.rowS 76 2 encTip (.slice g.2.1 g.1.length g.2.2) g.1]) (fun g=>τ146) (fun g=>C9_ k208 g.1=some z1∧l143.length=(List.replicate x0.states.toNat (0:Int)).length) ?_ (fun g j hg=> ?_)))
   ·skip
    refine TC.block (TC.a (TL.w z (indexN z underlying22 sz76 z z f0_1.rv.sl (by omega)) (TL.w z (loadSA Tip.zero z ag76 sz76 z f0_1 (by omega) (by omega)) (TL.op z (OpOk.alloc z ze76 z z (fun b218=> ?_))))))
    refine TL.op z (storeAll z sz76 z z z z z z ?_)
    refine TL.en (TC.a (TL.w z (loadLoc z ag86 z (i:=3) z z) (TL.w z (fieldLoc z fo76_0 z) (TL.w z (loadLoc z ag3 z (i:=0) z z) ?_))))
    have u83:=grd_c hh
    replace hh:=grd_t hh
    refine TL.isSl (i:=4) z (fun hs220 _ _=> ?_)
    refine TL.w z (OpVal.index z underlying86 sz3 z z hs220 u83.1 u83.2) (TL.w z (loadO1 (0:Int) z ag3 z (q:=4) z eIl_ (by omega) z) (TL.i z z (TL.en (TC.a (TL.i z z (TL.w z (OpVal.geq z z z) (TL.en (TC.cD z hh (fun h221 hh=> ?_) (fun h221 hh=> ?_)))))))))
    ·refine TC.region (TL.w z (fieldLoc z fo25_2 z) (TL.w z (loadLoc z ag22 z (i:=5) z z) (TL.i z z (TL.w z (fieldLoc z fo76_1 z) (TL.w z (loadLoc z ag9 z (i:=0) z z) (TL.w z (buildL z pl76 ze76 z) (TL.op z (OpOk.lit (enc:=encTip) [(⟨(nth l143 (((nth x0.ends k208 Tip.zero).state).toNat) (0:Int)),(nth x0.ends k208 Tip.zero).out⟩:Tip)] z underlying22 sz76 ze76 z z z encTip_len (by decide) (by decide) Tip.zero z (by decide) z (by decide) encTip_one (fun a222 c223=> ?_)))))))))
     refine TL.front 8 z z ?_
     have u95:=grd_c hh
     replace hh:=grd_t hh
     refine TL.op z (appendS z z underlying22 sz76 by76 ze76 z z (by decide) z z z (.inr ⟨_,0,z⟩) (by simpa using u95) (by decide) (fun a225 c226=> ?_))
     refine TL.w z (fieldLoc z fo25_2 z) (TL.front 7 z z (TL.op z (storeSl z sz22 z z z z z ?_)))
     exact TL.nil (B.n (S.n (cf ((l205++[(⟨(nth l143 (((nth x0.ends k208 Tip.zero).state).toNat) (0:Int)),(nth x0.ends k208 Tip.zero).out⟩:Tip)]),(a225,c226)) ⟨hh,hn203⟩ (Sub.f [1,8,2,8,8,8,8] 7))))
    exact TC.skip (B.n (S.n (cf (l205,(a206,c207)) ⟨hh,hn203⟩ (Sub.f [7,7,7,7,7,7,7] 7))))
   skip
   obtain ⟨l215,⟨a216,c217⟩⟩:=g
   obtain ⟨hh,hn214⟩:=hg
   try dsimp only at hn214 ⊢
   dsimp only [C9_]at hh
   have hn214b:=hn214
   refine TC.isSl (i:=3) z (fun _ hb227 _=> ?_)
   refine TC.isSl (i:=5) z (fun _ hb228 _=> ?_)
   refine TC.isSl (i:=6) z (fun _ hb229 _=> ?_)
   refine TC.region (TL.w z (OpVal.succ z z z (by omega)) (TL.i z z (TL.en ?_)))
   obtain ⟨hh,hlt230⟩:=nxt_x hR1 hh
   exact lf ((l215,(k208+1)),(a216,c217)) hlt230 ⟨hh,hn214⟩ (Sub.f [6,6,6,6,6,6,6] 7)
  refine TC.exit (S.x (S.x ?_))
  replace hh:=fin_x hR1 hh
  refine TC.exitHere (S.n (TC.seq (TC.a (TL.w z (fieldLoc z fo25_3 z) (TL.w z (loadLoc z ag23 z (i:=0) z z) (TL.w z (lenC z underlying23 z) (TL.i z z (TL.en (TC.block (TC.nilS 66 8 encArc (TC.loopG (α:=((List Arc)×Nat)×((Option Addr)×Nat)) (rgs [(15,3),(97,35)]) (fun g=>[(97,.int .i64 ((g.1.2:Nat):Int))]) (fun g=>[Res.cells b103 #[.int .i64 0,.slice none 0 0,.slice none 0 0,.slice none 0 0] 25,Res.cells b109 #[.slice a106 ((List.replicate x0.states.toNat (0:Int)).length) c107] 86,Res.rowS 3 1 eI_ (.slice a106 (List.replicate x0.states.toNat (0:Int)).length c107) l143,Res.cells b125 #[.int .i64 ((k145:Nat):Int),.slice a167 l166.length c168,.slice a206 l205.length c207,.slice g.2.1 g.1.1.length g.2.2] 25,Res.rowS 76 2 encTip (.slice a167 l166.length c168) l166,Res.rowS 76 2 encTip (.slice a206 l205.length c207) l205,Res.rowS 66 8 encArc (.slice g.2.1 g.1.1.length g.2.2) g.1.1]) (fun g=>τ146) (fun g=>iter (fun q:(List Arc)×Nat=>Bm_ x0 l143 k145 l166 l205 q.1 q.2) g.1=some r∧l143.length=(List.replicate x0.states.toNat (0:Int)).length) (fun g=>rounds (fun q:(List Arc)×Nat=>Bm_ x0 l143 k145 l166 l205 q.1 q.2) g.1) ((([]:List Arc),0),(none,0)) (Sub.f [7,7,7,7,7,7] 7) z (by repeat (first|exact trivial|refine ⟨z,?_⟩)) ⟨hh,hn203⟩ (fun g4 j4 hg4=> ?_))))))))))))
  obtain ⟨⟨l246,k249⟩,⟨a247,c248⟩⟩:=g4
  obtain ⟨hh,hn244⟩:=hg4
  try dsimp only at hn244 ⊢
  obtain ⟨z1,hh,hR1⟩:=iter_e hh
  dsimp only [Bm_]at hh
  have hn244b:=hn244
  refine TC.isSl (i:=2) z (fun _ hb251 _=> ?_)
  refine TC.isSl (i:=4) z (fun _ hb252 _=> ?_)
  refine TC.isSl (i:=5) z (fun _ hb253 _=> ?_)
  refine TC.isSl (i:=6) z (fun _ hb254 _=> ?_)
  refine TC.a (TL.w z (OpVal.lss z z z) (TL.en (TC.seq (TC.cD z hh (fun h255 hh=> ?_) (fun h255 hh=> ?_)))))
  ·refine TC.skip (S.n (TC.cutG (α:=((List Arc))×((Option Addr)×Nat)) (rgs [(15,3),(99,32)]) (fun g=>[]) (fun g=>[Res.cells b103 #[.int .i64 0,.slice none 0 0,.slice none 0 0,.slice none 0 0] 25,Res.cells b109 #[.slice a106 ((List.replicate x0.states.toNat (0:Int)).length) c107] 86,Res.rowS 3 1 eI_ (.slice a106 (List.replicate x0.states.toNat (0:Int)).length c107) l143,Res.cells b125 #[.int .i64 ((k145:Nat):Int),.slice a167 l166.length c168,.slice a206 l205.length c207,.slice g.2.1 g.1.length g.2.2] 25,Res.rowS 76 2 encTip (.slice a167 l166.length c168) l166,Res.rowS 76 2 encTip (.slice a206 l205.length c207) l205,Res.rowS 66 8 encArc (.slice g.2.1 g.1.length g.2.2) g.1]) (fun g=>τ146) (fun g=>Cp_ k249 g.1=some z1∧l143.length=(List.replicate x0.states.toNat (0:Int)).length) ?_ (fun g j hg=> ?_)))
   ·skip
    refine TC.block (TC.a (TL.w z (indexN z underlying23 sz66 z z f0_2.rv.sl (by omega)) (TL.w z (loadSA Arc.zero z ag66 sz66 z f0_2 (by omega) (by omega)) (TL.op z (OpOk.alloc z ze66 z z (fun b260=> ?_))))))
    refine TL.op z (storeAll z sz66 z z z z z z ?_)
    refine TL.en (TC.seq ?_)
    have u112:=grd_c hh
    replace hh:=grd_t hh
    have u117:=grd_c hh
    replace hh:=grd_t hh
    refine TC.draw [] (by kernel_rfl) (TA.b 0 z (loadLoc z ag86 z (i:=2) z z) z (TA.a 1 z (fieldLoc z fo66_0 z) z (TA.b 2 z (loadLoc z ag3 z (i:=0) z z) z (TA.isSl (i:=3) z (fun hs264 _ _=> ?_)))))
    refine TA.b 3 z (OpVal.index z underlying86 sz3 z z hs264 u112.1 u112.2) z (TA.b 4 z (loadO1 (0:Int) z ag3 z (q:=3) z eIl_ (by omega) z) z (TA.b 5 z (loadLoc z ag86 z (i:=2) z z) z (TA.a 6 z (fieldLoc z fo66_1 z) z (TA.b 7 z (loadLoc z ag3 z (i:=0) z z) z (TA.isSl (i:=3) z (fun hs265 _ _=> ?_))))))
    refine TA.b 8 z (OpVal.index z underlying86 sz3 z z hs265 u117.1 u117.2) z (TA.b 9 z (loadO1 (0:Int) z ag3 z (q:=3) z eIl_ (by omega) z) z (TA.a 10 z (moveI (.inr z) z) z (TA.a 11 z (moveI (.inr z) z) z (TA.dn (S.n (TC.a (TL.i z z (TL.w z (OpVal.geq z z z) (TL.j z z (TL.split 113 z (fun h266=> ?_) (fun h266=> ?_)))))))))))
    ·replace hh:=iteO_t h266 hh
     replace h266:=of_decide_eq_true h266
     refine TL.g z (moveI (.inl z) z) (TL.g z (OpVal.geq z z z) (TL.w z (pickTB z z z) (TL.en (TC.cD z hh (fun h267 hh=> ?_) (fun h267 hh=> ?_)))))
     ·refine TC.region (TL.w z (fieldLoc z fo25_3 z) (TL.w z (loadLoc z ag23 z (i:=4) z z) (TL.i z z (TL.i z z (TL.w z (fieldLoc z fo66_2 z) (TL.w z (loadLocA z ag64 sz64 z (i:=0) z z z) (TL.w z (fieldLoc z fo66_3 z) (TL.w z (loadLoc z ag9 z (i:=0) z z) (TL.w z (fieldLoc z fo66_4 z) (TL.w z (loadLoc z ag4 z (i:=0) z z) (TL.w z (buildL z pl66 ze66 z) (TL.op z (OpOk.lit (enc:=encArc) [(⟨(nth l143 (((nth x0.arcs k249 Arc.zero).frm).toNat) (0:Int)),(nth l143 (((nth x0.arcs k249 Arc.zero).to).toNat) (0:Int)),(nth x0.arcs k249 Arc.zero).set,(nth x0.arcs k249 Arc.zero).out,(nth x0.arcs k249 Arc.zero).copy⟩:Arc)] z underlying23 sz66 ze66 z z z encArc_len (by decide) (by decide) Arc.zero z (by decide) z (by decide) encArc_one (fun a268 c269=> ?_))))))))))))))
      refine TL.front 8 z z ?_
      have u139:=grd_c hh
      replace hh:=grd_t hh
      refine TL.op z (appendS z z underlying23 sz66 by66 ze66 z z (by decide) z z z (.inr ⟨_,0,z⟩) (by simpa using u139) (by decide) (fun a271 c272=> ?_))
      refine TL.w z (fieldLoc z fo25_3 z) (TL.front 6 z z (TL.op z (storeSl z sz23 z z z z z ?_)))
      exact TL.nil (B.n (S.n (cf ((l246++[(⟨(nth l143 (((nth x0.arcs k249 Arc.zero).frm).toNat) (0:Int)),(nth l143 (((nth x0.arcs k249 Arc.zero).to).toNat) (0:Int)),(nth x0.arcs k249 Arc.zero).set,(nth x0.arcs k249 Arc.zero).out,(nth x0.arcs k249 Arc.zero).copy⟩:Arc)]),(a271,c272)) ⟨hh,hn244⟩ (Sub.f [1,8,8,3,8,8,8] 7))))
     exact TC.skip (B.n (S.n (cf (l246,(a247,c248)) ⟨hh,hn244⟩ (Sub.f [7,7,7,7,7,7,7] 7))))
    replace hh:=iteO_f h266 hh
    replace h266:=of_decide_eq_false h266
    exact TL.f z (TL.f z (TL.w z (pickFB z z z) (TL.en (TC.f z (TC.skip (B.n (S.n (cf (l246,(a247,c248)) ⟨hh,hn244⟩ (Sub.f [7,7,7,7,7,7,7] 7)))))))))
   skip
   obtain ⟨l257,⟨a258,c259⟩⟩:=g
   obtain ⟨hh,hn256⟩:=hg
   try dsimp only at hn256 ⊢
   dsimp only [Cp_]at hh
   have hn256b:=hn256
   refine TC.isSl (i:=2) z (fun _ hb273 _=> ?_)
   refine TC.isSl (i:=4) z (fun _ hb274 _=> ?_)
   refine TC.isSl (i:=5) z (fun _ hb275 _=> ?_)
   refine TC.isSl (i:=6) z (fun _ hb276 _=> ?_)
   refine TC.region (TL.w z (OpVal.succ z z z (by omega)) (TL.i z z (TL.en ?_)))
   obtain ⟨hh,hlt277⟩:=nxt_x hR1 hh
   exact lf ((l257,(k249+1)),(a258,c259)) hlt277 ⟨hh,hn256⟩ (Sub.f [6,6,6,6,6,6,6] 7)
  refine TC.exit (S.x (S.x ?_))
  replace hh:=fin_x hR1 hh
  refine TC.exitHere (S.n (TC.a (TL.w z (loadAll z ag25 sz25 z (i:=3) z z) (TL.front 4 z z (TL.sealS encTip_len (fun τ280 hle279 hr278=> ?_))))))
  have hr278b:=hr278.rv.big
  refine TL.front 4 z z (TL.sealS encTip_len (fun τ283 hle282 hr281=> ?_))
  replace hr278:=hr278.mono hle282
  have hr281b:=hr281.rv.big
  refine TL.front 4 z z (TL.sealS encArc_len (fun τ286 hle285 hr284=> ?_))
  replace hr278:=hr278.mono hle285
  replace hr281:=hr281.mono hle285
  have hr284b:=hr284.rv.big
  obtain ⟨v145,u145,hh⟩:=bnd_e hh
  refine TL.op z (OpOk.call (Fl_ (x0:=(⟨((k145:Nat):Int),l166,l205,l246⟩:Fst)) hr278 hr281 hr284 u145) z z pf56 z z z z ?_)
  rintro _ τ287 _ hle287 ⟨a287_1,c287_1,a287_2,c287_2,a287_3,c287_3,rfl,hr287_0,hr287_1,hr287_2,rfl⟩
  have hr287_0b:=hr287_0.rv.big
  have hr287_1b:=hr287_1.rv.big
  have hr287_2b:=hr287_2.rv.big
  refine TL.w z (OpVal.extract z z z) (TL.w z (OpVal.extract z z z) (TL.op z (storeAll z sz25 z z z z z z ?_)))
  refine TL.i z z (TL.en (TC.rt 1 ?_))
  obtain rfl:=so hh
  exact ro [] z (RVs.agg ag25 sz25 z (i:=0) z z (RVs.tmp z RVs.nil)) ⟨a287_1,c287_1,a287_2,c287_2,a287_3,c287_3,z,hr287_0,hr287_1,hr287_2,z⟩
 intro m_ c_ hh hc_
 exact jl_nil hc_
end Go.Proofs.YtchebnpdnfhenaaGreatDoor
end

noncomputable section
namespace Go.E
open Go
structure TLag where
  p:Int
  q:Int
  a:List UInt8
  b:List UInt8
  deriving DecidableEq
def TLag.zero:TLag:=⟨0,0,[],[]⟩
structure Walk where
  t:Fst
  arcs:List (List Arc)
  most:Int
end Go.E
end

noncomputable section
namespace Go.E
open Go Go.Sort Go.Proofs Go.Shelf
theorem OpVal.minI{P:Program}{n:Nat}{e:Env}{H:List Res}{o:Oper}{x y:Operand}{ts:Array TypeId}{k k':IntKind}{a b:Int}(ho:o.op= .call {callee:= .builtin .min,args:= #[x,y],argTypes:=ts})(hx:ev e x= .int k a)(hy:ev e y= .int k' b):OpVal P n o e σ H (.int k (min a b)):=fun w _=>by
  have h:(if b<a then b else a)=min a b:=by rw [Int.min_def];split<;>split<;>omega
  simp [execOp,ho,resolve,invoke,builtin,hx,hy,Builtin.min_,Builtin.min2,h]
end Go.E
end

noncomputable section
namespace Go.E
open Go
structure ReLeaf where
  kind:Int
  text:List UInt8
  set:BSet
  min:Int
  max:Int
  deriving DecidableEq
def ReLeaf.zero:ReLeaf:=⟨0,[],BSet.zero,0,0⟩
structure ReRoot where
  kind:Int
  text:List UInt8
  set:BSet
  parts:List ReLeaf
  min:Int
  max:Int
def ReRoot.zero:ReRoot:=⟨0,[],BSet.zero,[],0,0⟩
end Go.E
end

noncomputable section
namespace Go.Proofs.YtchebnpdnfhenaaGreatDoor
open Go Go.E Go.E.OpVal Go.E.OpOk Go.Proofs.Tryz
def Cc_(x0:List UInt8)(x1:List UInt8)(k103:Nat):Option ((Nat)⊕(Int)):=
 iteO (decide (((k103:Nat):Int)<(min ((x0.length:Nat):Int) ((x1.length:Nat):Int)))) (grd (k103<x0.length) (grd (k103<x1.length) (iteO (decide ((((nth x0 k103 (0:UInt8)).toNat:Nat):Int)≠(((nth x1 k103 (0:UInt8)).toNat:Nat):Int))) (fin (some ((k103:Nat):Int))) (nxt (k103+1))))) (fin (some (min ((x0.length:Nat):Int) ((x1.length:Nat):Int))))
def Dy_(x0:List UInt8)(x1:List UInt8):Option (Int):=
 grd (x0.length≤281474976710656) (grd (x1.length≤281474976710656) (iter (fun q:Nat=>Cc_ x0 x1 q) 0))
theorem F2_{x0:List UInt8}{x1:List UInt8}{r:Int}(hh:Dy_ x0 x1=some r):
  Con Tryz.prog 155 #[.string (bs x0),.string (bs x1)] σ [] (PureP (.int .i64 r) σ):=by
 dsimp only [Dy_]at hh
 refine Con.mk (n:=26) Tryz.func155 z z z (fun w0=> ?_)
 have x0b:=grd_c hh
 replace hh:=grd_t hh
 have x1b:=grd_c hh
 replace hh:=grd_t hh
 refine TC.a (TL.i z z (TL.en (TC.a (TL.w z (moveStr (.inl z) z) (TL.w z (lenBs z underlying9 z) (TL.w z (moveStr (.inl z) z) (TL.w z (lenBs z underlying9 z) (TL.w z (minI z z z) (TL.i z z (TL.en (TC.seq (TC.a (TL.i z z (TL.i z z (TL.en ?_)))))))))))))))
 refine TC.block (TC.loopG (α:=(Nat)×(Unit)) (rgs [(4,1),(6,1),(13,12)]) (fun g=>[(13,.int .i64 ((g.1:Nat):Int))]) (fun g=>[]) (fun g=>σ) (fun g=>iter (fun q:Nat=>Cc_ x0 x1 q) g.1=some r) (fun g=>rounds (fun q:Nat=>Cc_ x0 x1 q) g.1) (0,()) (Sub.pre 0 z) z (by repeat (first|exact trivial|refine ⟨z,?_⟩)) hh (fun g1 j1 hg1=> ?_))
 obtain ⟨k103,_⟩:=g1
 have hh:=hg1;clear hg1
 try dsimp only
 obtain ⟨z1,hh,hR1⟩:=iter_e hh
 dsimp only [Cc_]at hh
 refine TC.a (TL.w z (OpVal.lss z z z) (TL.en (TC.seq (TC.cD z hh (fun h104 hh=> ?_) (fun h104 hh=> ?_)))))
 ·refine TC.skip (S.n (TC.seq (TC.block (TC.a (TL.i z z (TL.i z z (TL.en (TC.seq ?_))))))))
  have u15:=grd_c hh
  replace hh:=grd_t hh
  have u18:=grd_c hh
  replace hh:=grd_t hh
  refine TC.draw [] (by kernel_rfl) (TA.a 0 z (moveStr (.inl z) z) z (TA.a 1 z (moveI (.inl z) z) z (TA.a 2 z (indexBs z underlying9 z z (by omega)) z (TA.a 3 z (moveStr (.inl z) z) z (TA.a 4 z (moveI (.inl z) z) z (TA.a 5 z (indexBs z underlying9 z z (by omega)) z (TA.a 6 z (OpVal.neq z z z) z (TA.dn (S.n (TC.cD z hh (fun h105 hh=> ?_) (fun h105 hh=> ?_)))))))))))
  ·refine TC.a (TL.i z z (TL.i z z (TL.en (TC.ret (B.r (S.r (S.r ?_)))))))
   replace hh:=fin_x hR1 hh
   refine B.r (S.r ?_)
   obtain rfl:=so hh
   exact rq [4] ⟨z,z,z⟩
  refine TC.skip (B.n (S.n (TC.region (TL.w z (OpVal.succ z z z (by omega)) (TL.i z z (TL.en ?_))))))
  obtain ⟨hh,hlt106⟩:=nxt_x hR1 hh
  exact lf ((k103+1),()) hlt106 hh (Sub.pre 0 z)
 refine TC.exit (S.x (S.x ?_))
 replace hh:=fin_x hR1 hh
 refine TC.exitHere (S.n (TC.a (TL.i z z (TL.i z z (TL.en (TC.ret ?_))))))
 obtain rfl:=so hh
 exact rq [4] ⟨z,z,z⟩
end Go.Proofs.YtchebnpdnfhenaaGreatDoor
end

noncomputable section
namespace Go.E
open Go
theorem OpVal.gtrBs{P:Program}{n:Nat}{e:Env}{H:List Res}{o:Oper}{x y:Operand}{l m:List UInt8}{T T':TypeId}(ho:o.op= .binOp .gtr T x y T')(hx:ev e x= .string (bs l))(hy:ev e y= .string (bs m)):OpVal P n o e σ H (.bool (!(decide (Lib.compareBytes l m<0) || l == m))):=fun w _=>by
  simp only [execOp,ho,hx,hy,Sem.run_bind,run_eqGuard_str,Result.andThen_ok,binOp,Op.stringOp,ByteArray.toList_eq,bs_list,bytesLess_eq,Sem.run_pure]
end Go.E
end

noncomputable section
namespace Go.Proofs.YtchebnpdnfhenaaGreatDoor
open Go Go.E Go.E.OpVal Go.E.OpOk Go.Proofs.Tryz
theorem pf154:plainF Tryz.prog 154=true:=by kernel_rfl
theorem pf186:plainF Tryz.prog 186=true:=by kernel_rfl
def isNaNS(x0:List UInt8):Option (Bool):=
 some (decide (x0≠x0))
theorem isNaNS_con{x0:List UInt8}{r:Bool}(hh:isNaNS x0=some r):
  Con Tryz.prog 186 #[.string (bs x0)] σ [] (PureP (.bool r) σ):=by
 dsimp only [isNaNS]at hh
 refine Con.mk (n:=6) Tryz.func186 z z z (fun w0=> ?_)
 refine TC.a (TL.j z z (TL.en (TC.a (TL.w z (moveStr (.inl z) z) (TL.w z (moveStr (.inl z) z) (TL.w z (neqBs z z z) (TL.j z z (TL.en (TC.ret ?_)))))))))
 obtain rfl:=so hh
 exact rq [2] ⟨z,z,z⟩
def compareS(x0:List UInt8)(x1:List UInt8):Option (Int):=
 bnd (isNaNS x0) (fun v3=>bnd (isNaNS x1) (fun v6=>iteO v3 (iteO v6 (some 0) (some (-1))) (iteO v6 (some 1) (iteO (decide (Lib.compareBytes x0 x1<0)) (some (-1)) (iteO (!(decide (Lib.compareBytes x0 x1<0) || x0 == x1)) (some 1) (some 0))))))
theorem compareS_con{x0:List UInt8}{x1:List UInt8}{r:Int}(hh:compareS x0 x1=some r):
  Con Tryz.prog 154 #[.string (bs x0),.string (bs x1)] σ [] (PureP (.int .i64 r) σ):=by
 dsimp only [compareS]at hh
 refine Con.mk (n:=20) Tryz.func154 z z z (fun w0=> ?_)
 refine TC.a (TL.i z z (TL.en (TC.a (TL.w z (moveStr (.inl z) z) ?_))))
 obtain ⟨v3,u3,hh⟩:=bnd_e hh
 refine TL.op z (callP (isNaNS_con u3) z z pf186 z z z ?_)
 refine TL.j z z (TL.en (TC.a (TL.w z (moveStr (.inl z) z) ?_)))
 obtain ⟨v6,u6,hh⟩:=bnd_e hh
 refine TL.op z (callP (isNaNS_con u6) z z pf186 z z z ?_)
 refine TL.j z z (TL.en (TC.seq (TC.a (TL.j z z (TL.en (TC.cB z hh (fun h101 hh=> ?_) (fun h101 hh=> ?_)))))))
 ·refine TC.seq (TC.a (TL.j z z (TL.en (TC.cB z hh (fun h102 hh=> ?_) (fun h102 hh=> ?_)))))
  ·refine TC.a (TL.i z z (TL.en (TC.ret (S.r (S.r ?_)))))
   obtain rfl:=so hh
   exact rq [4] ⟨z,z,z⟩
  refine TC.skip (S.n (TC.a (TL.i z z (TL.en (TC.ret (S.r ?_))))))
  obtain rfl:=so hh
  exact rq [4] ⟨z,z,z⟩
 refine TC.skip (S.n (TC.seq (TC.a (TL.j z z (TL.en (TC.cB z hh (fun h103 hh=> ?_) (fun h103 hh=> ?_)))))))
 ·refine TC.a (TL.i z z (TL.en (TC.ret (S.r ?_))))
  obtain rfl:=so hh
  exact rq [4] ⟨z,z,z⟩
 refine TC.skip (S.n (TC.seq (TC.a (TL.w z (moveStr (.inl z) z) (TL.w z (moveStr (.inl z) z) (TL.w z (lssBs z z z) (TL.en (TC.cD z hh (fun h104 hh=> ?_) (fun h104 hh=> ?_)))))))))
 ·refine TC.a (TL.i z z (TL.en (TC.ret (S.r ?_))))
  obtain rfl:=so hh
  exact rq [4] ⟨z,z,z⟩
 refine TC.skip (S.n (TC.seq (TC.a (TL.w z (moveStr (.inl z) z) (TL.w z (moveStr (.inl z) z) (TL.w z (gtrBs z z z) (TL.en (TC.cB z hh (fun h105 hh=> ?_) (fun h105 hh=> ?_)))))))))
 ·refine TC.a (TL.i z z (TL.en (TC.ret (S.r ?_))))
  obtain rfl:=so hh
  exact rq [4] ⟨z,z,z⟩
 refine TC.skip (S.n (TC.a (TL.i z z (TL.en (TC.ret ?_)))))
 obtain rfl:=so hh
 exact rq [4] ⟨z,z,z⟩
def D5_(x0:Tip)(x1:Tip):Option (Int):=
 bnd (B4_ x0.state x1.state) (fun v8=>bnd (compareS x0.out x1.out) (fun v13=>bnd (Em_ [v8,v13]) (fun v15=>some v15)))
theorem Fv_{x0:Tip}{x1:Tip}{r:Int}(hh:D5_ x0 x1=some r):
  Con Tryz.prog 125 #[.agg #[.int .i64 x0.state,.string (bs x0.out)],.agg #[.int .i64 x1.state,.string (bs x1.out)]] σ [] (PureP (.int .i64 r) σ):=by
 dsimp only [D5_]at hh
 refine Con.mk (n:=17) Tryz.func125 z z z (fun w0=> ?_)
 refine TC.a (TL.op z (boxA z z z z (fun b101=> ?_)))
 refine TL.op z (boxA z z z z (fun b103=> ?_))
 refine TL.i z z (TL.en (TC.seq ?_))
 obtain ⟨v8,u8,hh⟩:=bnd_e hh
 obtain ⟨v13,u13,hh⟩:=bnd_e hh
 obtain ⟨v15,u15,hh⟩:=bnd_e hh
 refine TC.draw [] (by kernel_rfl) (TA.a 0 z (fieldLoc z fo76_0 z) z (TA.b 1 z (loadLoc z ag3 z (i:=1) z z) z (TA.a 2 z (fieldLoc z fo76_0 z) z (TA.b 3 z (loadLoc z ag3 z (i:=0) z z) z (TA.a 5 z (fieldLoc z fo76_1 z) z (TA.b 6 z (loadLoc z ag9 z (i:=1) z z) z (TA.a 7 z (fieldLoc z fo76_1 z) z (TA.b 8 z (loadLoc z ag9 z (i:=0) z z) z (TA.ac 4 z (callP (Cv_ u8) z z pf135 z z z (k0 ?_)))))))))))
 refine TA.ac 9 z (callP (compareS_con u13) z z pf154 z z z (k0 ?_))
 refine TA.ac 10 z (OpOk.lit (enc:=eI_) [v8,v13] z underlying86 sz3 ze3 z z z eIl_ (by decide) (by decide) (0:Int) z (by decide) z (by decide) eIo_ (fun a110 c111=>(k1 ?_)))
 refine TA.ac 11 z (callK (Con.lend eIl_ (fun _ hle114 hr113=>Fc_ hr113 u15)) z z pf134 z z z z (k1 ?_))
 refine TA.a 12 z (moveI (.inr z) z) z (TA.dn (S.n (TC.rt 0 ?_)))
 obtain rfl:=so hh
 exact rq [4] ⟨z,z,z⟩
end Go.Proofs.YtchebnpdnfhenaaGreatDoor
end

noncomputable section
namespace Go.Proofs.YtchebnpdnfhenaaGreatDoor
open Go Go.Shelf
def layItoa_ren:Go.Shelf.Ren:=⟨fun|171=>150|243=>177|246=>203|283=>211|284=>212|285=>213|286=>214|129=>168|317=>217|318=>218|319=>219|320=>220|337=>221|338=>201|n=>n,fun|3=>3|9=>9|2=>2|4=>4|171=>267|0=>0|53=>62|37=>60|5=>5|173=>269|212=>274|51=>222|20=>20|213=>275|46=>170|232=>276|233=>266|n=>n,fun|17=>2|18=>3|19=>1|n=>n⟩
theorem layItoa:Go.Proofs.LaysM.n171 Tryz.prog layItoa_ren:={
  mixed:=by kernel_rfl,
  f129:=Tryz.func168.trans (congrArg some (by kernel_rfl)),
  f171:=Tryz.func150.trans (congrArg some (by kernel_rfl)),
  f243:=Tryz.func177.trans (congrArg some (by kernel_rfl)),
  f246:=Tryz.func203.trans (congrArg some (by kernel_rfl)),
  f283:=Tryz.func211.trans (congrArg some (by kernel_rfl)),
  f284:=Tryz.func212.trans (congrArg some (by kernel_rfl)),
  f285:=Tryz.func213.trans (congrArg some (by kernel_rfl)),
  f286:=Tryz.func214.trans (congrArg some (by kernel_rfl)),
  f317:=Tryz.func217.trans (congrArg some (by kernel_rfl)),
  f318:=Tryz.func218.trans (congrArg some (by kernel_rfl)),
  f319:=Tryz.func219.trans (congrArg some (by kernel_rfl)),
  f320:=Tryz.func220.trans (congrArg some (by kernel_rfl)),
  f337:=Tryz.func221.trans (congrArg some (by kernel_rfl)),
  f338:=Tryz.func201.trans (congrArg some (by kernel_rfl)),
  t0:=Tryz.underlying0,
  a0:=Tryz.isAgg0,
  z0:=Tryz.sizeOf0,
  v0:=Tryz.zeroValue0,
  t2:=Tryz.underlying2,
  a2:=Tryz.isAgg2,
  z2:=Tryz.sizeOf2,
  v2:=Tryz.zeroValue2,
  t3:=Tryz.underlying3,
  a3:=Tryz.isAgg3,
  z3:=Tryz.sizeOf3,
  v3:=Tryz.zeroValue3,
  t4:=Tryz.underlying4,
  a4:=Tryz.isAgg4,
  z4:=Tryz.sizeOf4,
  v4:=Tryz.zeroValue4,
  t5:=Tryz.underlying5,
  a5:=Tryz.isAgg5,
  z5:=Tryz.sizeOf5,
  v5:=Tryz.zeroValue5,
  t9:=Tryz.underlying9,
  a9:=Tryz.isAgg9,
  z9:=Tryz.sizeOf9,
  v9:=Tryz.zeroValue9,
  t20:=Tryz.underlying20,
  a20:=Tryz.isAgg20,
  z20:=Tryz.sizeOf20,
  v20:=Tryz.zeroValue20,
  t37:=Tryz.underlying60,
  a37:=Tryz.isAgg60,
  z37:=Tryz.sizeOf60,
  v37:=Tryz.zeroValue60,
  t46:=Tryz.underlying170,
  a46:=Tryz.isAgg170,
  z46:=Tryz.sizeOf170,
  v46:=Tryz.zeroValue170,
  t51:=Tryz.underlying222,
  a51:=Tryz.isAgg222,
  z51:=Tryz.sizeOf222,
  v51:=Tryz.zeroValue222,
  t53:=Tryz.underlying62,
  a53:=Tryz.isAgg62,
  z53:=Tryz.sizeOf62,
  v53:=Tryz.zeroValue62,
  t171:=Tryz.underlying267,
  a171:=Tryz.isAgg267,
  z171:=Tryz.sizeOf267,
  v171:=Tryz.zeroValue267,
  t173:=Tryz.underlying269,
  a173:=Tryz.isAgg269,
  z173:=Tryz.sizeOf269,
  v173:=Tryz.zeroValue269,
  t212:=Tryz.underlying274,
  a212:=Tryz.isAgg274,
  z212:=Tryz.sizeOf274,
  v212:=Tryz.zeroValue274,
  t213:=Tryz.underlying275,
  a213:=Tryz.isAgg275,
  z213:=Tryz.sizeOf275,
  t232:=Tryz.underlying276,
  a232:=Tryz.isAgg276,
  z232:=Tryz.sizeOf276,
  v232:=Tryz.zeroValue276,
  t233:=Tryz.underlying266,
  a233:=Tryz.isAgg266,
  z233:=Tryz.sizeOf266,
  v233:=Tryz.zeroValue266,
  g17:=by kernel_rfl,
  g18:=by kernel_rfl,
  g19:=by kernel_rfl,
  i0:=by kernel_rfl,
  i2:=by kernel_rfl,
  i3:=by kernel_rfl,
  i4:=by kernel_rfl,
  i5:=by kernel_rfl,
  i9:=by kernel_rfl,
  i20:=by kernel_rfl,
  i37:=by kernel_rfl,
  i46:=by kernel_rfl,
  i51:=by kernel_rfl,
  i53:=by kernel_rfl,
  i171:=by kernel_rfl,
  i173:=by kernel_rfl,
  i212:=by kernel_rfl,
  i232:=by kernel_rfl,
  i233:=by kernel_rfl,
  m17:=by kernel_rfl,
  m18:=by kernel_rfl,
  m19:=by kernel_rfl}
end Go.Proofs.YtchebnpdnfhenaaGreatDoor
end

noncomputable section
namespace Go.E
open Go Go.Sort Go.Proofs Go.Shelf
def p10:List Nat:=[1,10,100,1000,10000,100000,1000000,10000000,100000000,1000000000,10000000000,100000000000,1000000000000,10000000000000,100000000000000,1000000000000000,10000000000000000,100000000000000000,1000000000000000000,10000000000000000000]
theorem Reach.laterI{w:World}(h:Reach w [] σ σ w [])(k:Nat)(os:Array Obj):Reach w [] σ σ (grow (w.drewN k) os) []:=by
  have hh: ∀i,i<w.heap.size→(grow (w.drewN k) os).heap[i]? =w.heap[i]? :=fun i hi=>by
    show (w.heap++os)[i]? =_
    rw [Array.getElem?_append_left hi]
  refine ⟨rfl,rfl,rfl,?_,fun i hi _=>hh i hi,Store.le.refl _,fun b o hb=> ?_,fun b o hb=> .inl hb,by simp,by simp,by simp [blks],by simp,?_⟩
  · show w.heap.size≤(w.heap++os).size
    simp
  · have h1:=h.fit b o hb
    have hlt:=(Array.getElem?_eq_some_iff.1 h1).1
    rw [hh b hlt];exact h1
  show w.drawn≤w.drawn+k
  omega
theorem itoa_of{P : Program}{ρ : Ren}{f g : Nat}(L : LaysM.n171 P ρ)(hf : ρ.f 171 = f)(hg : P.globalNamed "internal/strconv.uint64pow10" = some g){n : Int}{σ : Store}(hn : -9223372036854775808 ≤ n ∧ n ≤ 9223372036854775807)(h : GT σ g encW p10) :
    Con P f #[.int .i64 n] σ [] (PureP (.string (bs (Lib.itoa n))) σ):=by
  subst hf
  intro w hw
  obtain ⟨E,hE⟩:=h
  have htab : Lib.TabIs P w "internal/strconv.uint64pow10" .u64 Lib.pow10Tab := by
    unfold Lib.TabIs World.var?
    rw [hg]
    have h1:=hw.fit _ _ hE
    simp only [Option.bind_some,h1]
    rfl
  refine (Any.strconv_Itoa L n hn.1 hn.2 w htab).mono ?_
  rintro e w' ⟨rfl,k,os,rfl⟩
  exact ⟨_,σ,[],rfl,⟨rfl,rfl,rfl⟩,hw.laterI k os⟩
structure GT2 (σ:Store) (g1 g2:Nat):Prop where
  b:GT σ g1 encU8 deB
  p:GT σ g2 encW p10
theorem GT2.mono{σ τ:Store}{g1 g2:Nat}(h:GT2 σ g1 g2)(hle:σ.le τ):GT2 τ g1 g2:=⟨h.b.mono hle,h.p.mono hle⟩
end Go.E
end

noncomputable section
namespace Go.Proofs.YtchebnpdnfhenaaGreatDoor
open Go Go.E
theorem cmpB_vals : ∀ x y : List UInt8, (iteO (decide (Lib.compareBytes x y < 0)) (some (-1 : Int)) (iteO (!(decide (Lib.compareBytes x y < 0) || x == y)) (some 1) (some 0))) = some (Lib.compareBytes x y)
  |[],[]=>rfl
  |[],_::_=>rfl
  |_::_,[]=>rfl
  | a :: x, b :: y => by
    have ih:=cmpB_vals x y
    unfold Lib.compareBytes
    by_cases h:a<b
    · rw [if_pos h];rfl
    rw [if_neg h]
    by_cases h2:b<a
    · rw [if_pos h2]
      have:(a::x == b::y)=false:=by
        rw [beq_eq_false_iff_ne]
        intro e;cases e;exact h h2
      rw [this];rfl
    rw [if_neg h2]
    have e:a=b:=UInt8.le_antisymm (UInt8.not_lt.1 h2) (UInt8.not_lt.1 h)
    subst e
    have:(a::x == a::y)=(x == y):=by simp
    rw [this];exact ih
theorem compareS_eq(x y:List UInt8):compareS x y=some (Lib.compareBytes x y):=by
  unfold compareS isNaNS
  rw [←cmpB_vals x y]
  simp [bnd,iteO]
theorem F1_(x y:Tip):D5_ x y=some (cmpTip x y):=by
  unfold D5_
  rw [bnd_some (C2_ _ _),bnd_some (compareS_eq _ _),bnd_some (Fp_ _)];rfl
theorem Gl_{a:Option Addr}{c:Nat}{l:List Tip}:Con Tryz.prog 124 #[.slice a l.length c,.func (.func 125) #[] #[]] σ [Res.rowS 76 2 encTip (.slice a l.length c) l] (SortP 76 2 encTip a c l (sortL cmpTip l) σ):=
  Con.sortK (k:=2) layT0 rfl Tryz.isAgg76 Tryz.sizeOf76 encTip_len encTip_one cmpTip_good.total (fun args w=>run_callFunc (by kernel_rfl) args w) (fun x y τ=>Fv_ (F1_ x y))
theorem itoa_con{n:Int}(hgl:GT2 σ 1 2)(hn: -9223372036854775808≤n∧n≤9223372036854775807):Con Tryz.prog 150 #[.int .i64 n] σ [] (PureP (.string (bs (Lib.itoa n))) σ):=
  itoa_of layItoa rfl (by kernel_rfl) hn hgl.p
end Go.Proofs.YtchebnpdnfhenaaGreatDoor
end

noncomputable section
namespace Go.E
open Go
def TB(X:Ctx)(R:Exit→Act→World→Prop)(c:Code)(e:Env)(σ:Store)(H:List Res):Prop:=
  ∀w a,RM X a σ w H→St X.n e a→c.wpIn (fence X.rnd) 0 X.P R a w
def TLB(X:Ctx)(ops:Array Oper)(R:Exit→Act→World→Prop)(l:List Oper)(e:Env)(σ:Store)(H:List Res):Prop:=
  ∀w a,RM X a σ w H→St X.n e a→wpListIn (fence X.rnd) 0 X.P ops R l a w
def endE(w0:World)(C:List Nat)(σ0:Store)(Post:Value→Store→List Res→Prop):Ending→World→Prop:=
  fun e w'=> ∃r σ' H',e= .returned r∧Post r σ' H'∧Reach w0 C σ0 σ' w' H'
def endR(P:Program)(fn:Func)(w0:World)(C:List Nat)(σ0:Store)(Post:Value→Store→List Res→Prop):Exit→Act→World→Prop:=
  bodyPostM (fence none) 0 P fn (endE w0 C σ0 Post)
theorem startSt{args:List Value}{n:Nat}{fn:Func}(hn:fn.ntmps=n)(ha:Nat.ble args.length n=true):St n (argEnv args) {tmps:=args.toArray++Array.replicate (fn.ntmps - args.toArray.size) undef,defers:=[]}:=by
  have:=Nat.le_of_ble_eq_true ha
  refine ⟨?_,fun t=> ?_⟩
  · simp [hn];omega
  simp only [Array.getD_eq_getD_getElem?,Array.getElem?_append,argEnv,List.getElem?_toArray,List.size_toArray,Array.getElem?_replicate]
  split
  · rfl
  rename_i hlt
  rw [List.getElem?_eq_none (by omega)]
  split<;>rfl
theorem MarksOk.start{w0:World}{H:List Res}{w:World}:MarksOk w0 none (some []) [] σ H w:=⟨(fun h=>by cases h),(fun _ h=>by cases h;rfl),fun _ h=>by cases h⟩
theorem Con.mkD{P:Program}{f:FuncId}{fn:Func}{c:Code}{args:List Value}{n:Nat}{H:List Res}{Post:Value→Store→List Res→Prop}
    (hf:P.funcs[f]? =some fn) (hb:fn.body=some c) (hn:fn.ntmps=n) (ha:Nat.ble args.length n=true)
    (h: ∀w0,TB ⟨P,w0,blks H,σ,n,none,some []⟩ (endR P fn w0 (blks H) σ Post) c (argEnv args) σ H):Con P f args.toArray σ H Post:=by
  intro w hw
  exact calls_fence.1 (callsIn_of_wp_marks (F:=fence none) (n:=0) hf hb trivial (h w w _ ⟨hw,MarksOk.start⟩ (startSt hn ha)))
def ConD(P:Program)(f:FuncId)(args:Array Value)(σ:Store)(H:List Res)(Post:Value→Store→List Res→Prop):Prop:=
  ∀w,Reach w (blks H) σ σ w H→CallsDIn (fence none) 0 P f args .returning w fun e u w'=>u= .returning∧ ∃r σ' H',e= .returned r∧Post r σ' H'∧Reach w (blks H) σ σ' w' H'
theorem ConD.mono{P:Program}{f:FuncId}{args:Array Value}{H:List Res}{Post Post':Value→Store→List Res→Prop}
    (h:ConD P f args σ H Post) (hp: ∀r σ' H',σ.le σ'→Post r σ' H'→Post' r σ' H'):ConD P f args σ H Post':=fun w hw=>
  (h w hw).mono fun _ _ _ ⟨h0,r,σ',H',h1,h2,h3⟩=>⟨h0,r,σ',H',h1,hp _ _ _ h3.le h2,h3⟩
section rules
variable {X:Ctx} {ops:Array Oper} {R:Exit→Act→World→Prop} {Q:QP} {e:Env} {σ:Store} {H F:List Res} {o:Oper} {rest:List Oper} {c c1 c2:Code} {fn:Func} {Post:Value→Store→List Res→Prop}
theorem endR_ret{P:Program}{w0:World}{C:List Nat}{σ0:Store}{n:Nat}: ∀ex a w,low ⟨P,w0,C,σ0,n,none,some []⟩ (retQ P fn n Post) ex a w→endR P fn w0 C σ0 Post ex a w:=by
  rintro ex a w ⟨e,σ,H,h1,h2,⟨hex,r,H',h3,h4,h5⟩⟩
  have hd:a.defers=[]:=h2.marks.is _ rfl
  have hfin:LeavesInM (fence none) 0 P fn a.tmps (endE w0 C σ0 Post) a.defers .returning w:=by
    rw [hd];exact ⟨r,h3 w a h1 h2.holds,r,σ,H',rfl,h5,h2.toReach.sub h4⟩
  rcases hex with rfl|rfl
  · exact hfin
  exact hfin
def dfrQ(P:Program)(fn:Func)(n:Nat)(Post:Value→Store→List Res→Prop)(f:FuncId)(args:List Value):QP:=fun ex e σ H=>
  (ex= .ret∨ex= .normal)∧ ∃F,Sub F H∧ConD P f args.toArray σ F fun _ σ' H'=>RetOk P fn n Post .ret e σ' H'
theorem endR_dfr{P:Program}{w0:World}{C:List Nat}{σ0:Store}{n:Nat}{f:FuncId}{cap dargs:List Value}(hp:plainF P f=true):
    ∀ex a w,low ⟨P,w0,C,σ0,n,none,some [⟨.fn (.func f) cap.toArray,dargs.toArray⟩]⟩ (dfrQ P fn n Post f (dargs++cap)) ex a w→endR P fn w0 C σ0 Post ex a w:=by
  rintro ex a w ⟨e,σ,H,h1,h2,hex,F,hs,hcon⟩
  have hd:a.defers=[⟨.fn (.func f) cap.toArray,dargs.toArray⟩]:=h2.marks.is _ rfl
  have h3:Reach w0 C σ0 σ w F:=h2.toReach.ofSub hs
  have hfin:LeavesInM (fence none) 0 P fn a.tmps (endE w0 C σ0 Post) a.defers .returning w:=by
    rw [hd]
    refine ⟨by simp,.inr ⟨(fun h=>by cases h),.func f,cap.toArray,f,(dargs++cap).toArray,rfl,?_,(fun _ _=>trivial),(hcon w h3.self).mono ?_⟩⟩
    · simp [invoke,run_callFunc hp]
    rintro _ _ w' ⟨rfl,r,σ',H',rfl,⟨-,v,H'',h4,h5,h6⟩,h7⟩
    have h8:Reach w0 C σ0 σ' w' H':=by
      have:=(show Reach w0 C σ0 σ w (F++[]) by rwa [List.append_nil]).call h7
      rwa [List.append_nil]at this
    exact ⟨v,h4 w' a h1 h8.holds,v,σ',H'',rfl,h6,h8.sub h5⟩
  rcases hex with rfl|rfl
  · exact hfin
  exact hfin
theorem TB.seq(hR: ∀ex a w,low X Q ex a w→R ex a w)(h:TC X (seqQ (TB X R c2) Q) c1 e σ H):TB X R (.seq c1 c2) e σ H:=fun w a hw ha=>
  Go.wpIn_seq (Go.wpIn_mono (h w a hw ha) fun ex a' w' ⟨e',σ',H',h1,h2,h3⟩=>by
    cases ex
    case normal=>exact h3 w' a' h2 h1
    all_goals exact hR _ _ _ ⟨e',σ',H',h1,h2,h3⟩)
theorem TB.fin(hR: ∀ex a w,low X Q ex a w→R ex a w)(h:TC X Q c e σ H):TB X R c e σ H:=fun w a hw ha=>Go.wpIn_mono (h w a hw ha) (hR)
theorem TLB.v{v:Value}{d:Nat}(hg:o.guard=none)(h:OpVal X.P X.n o e σ H v)(hd:o.dst=some d)(hn:Nat.blt d X.n=true)(k:TLB X ops R rest (upd e d v) σ H):TLB X ops R (o::rest) e σ H:=fun w a hw ha=>
  wpListIn_plain hg fun K hK=>(OpVal.ok h hd hn (K:=fun e' σ' H'=>TLB X ops R rest e' σ' H') k).at hw ha fun e' σ' H' a' w' hk hw' ha'=>hK a' w' (hk w' a' hw' ha')
theorem TLB.front(i:Nat){r:Res}{l:List Oper}(hi:H[i]? =some r)(hF:H.eraseIdx i=F)(h:TLB X ops R l e σ (r::F)):TLB X ops R l e σ H:=fun w a hw ha=>h w a (hw.perm (front_perm hi hF)) ha
theorem TLB.dfr{P:Program}{w0:World}{C:List Nat}{σ0:Store}{n:Nat}{f:FuncId}{cap first:Array Value}{x:Operand}{opds:Array Operand}{ts:Array TypeId}{dargs:List Value}
    (hg:o.guard=none) (hop:o.op= .defer {callee:= .value x,args:=opds,argTypes:=ts}) (hx:ev e x= .func (.func f) first cap) (hd:o.dst=none) (ha:first.toList++opds.toList.map (ev e)=dargs)
    (hK: ∀a w,RM ⟨P,w0,C,σ0,n,none,some [⟨.fn (.func f) cap,dargs.toArray⟩]⟩ a σ w H→St n e a→R .normal a w):
    TLB ⟨P,w0,C,σ0,n,none,some []⟩ ops R [o] e σ H:=fun w a hw hst=>by
  have ha':first++opds.map (ev e)=dargs.toArray:=by apply Array.ext';rw [←ha];simp
  refine wpListIn_plain hg fun K hK'=>⟨(fun _ _=>trivial),?_⟩
  have hs:(o.semAt (fence none).round a.eval).run P w= .ok (.defer ⟨.fn (.func f) cap,dargs.toArray⟩) w:=by
    rw [hst.eval',←ha']
    simp [Oper.semAt,execOp,hop,resolve,hx,Deferred.ofValue]
  show Oper.uponIn _ _ _ _ _ _ _ ((o.semAt (fence none).round a.eval).run P w)
  rw [hs,Oper.uponIn_defer,hd]
  have h0:a.defers=[]:=hw.marks.is _ rfl
  refine hK' _ _ (hK _ _ ⟨?_,⟨(fun h=>by cases h),(fun l h=> ?_),fun _ h=>by cases h⟩⟩ ⟨hst.size,hst.get⟩)
  · exact hw.toReach
  cases h;show _::a.defers=_;rw [h0]
theorem TB.seqD{id:Nat}{l:List Oper}(h:TLB X l.toArray (fun ex a w=>match ex with| .normal=>c2.wpIn (fence X.rnd) 0 X.P R a w|ex=>R ex a w) l e σ H):TB X R (.seq (.region id l.toArray false) c2) e σ H:=fun w a hw ha=>
  Go.wpIn_seq (Go.wpIn_mono (wpIn_region_lit (h w a hw ha)) fun ex a' w' hq=>by cases ex<;>exact hq)
end rules
end Go.E
end

noncomputable section
namespace Go.E
open Go
def fltV(T:TypeId)(k:Int):Value:= .iface T (.agg #[.int .i64 k])
def ConF(P:Program)(f:FuncId)(args:Array Value)(σ:Store)(H:List Res)(v:Value):Prop:=
  ∀w,Reach w (blks H) σ σ w H→Calls P f args w fun e w'=>e= .panicked [{v:=v,recovered:=false}]∧ ∃σ',Reach w (blks H) σ σ' w' []
def ConX(P:Program)(f:FuncId)(args:Array Value)(σ:Store)(H:List Res){α:Type}(T:TypeId)(Post:α→Value→Store→List Res→Prop):Int⊕α→Prop
  | .inr x=>Con P f args σ H (Post x)
  | .inl k=>ConF P f args σ H (fltV T k)
theorem ConX.l{P:Program}{f:FuncId}{args:Array Value}{H:List Res}{α:Type}{T:TypeId}{Post:α→Value→Store→List Res→Prop}{k:Int}(h:ConX P f args σ H T Post (.inl k)):ConF P f args σ H (fltV T k):=h
theorem ConX.r{P:Program}{f:FuncId}{args:Array Value}{H:List Res}{α:Type}{T:TypeId}{Post:α→Value→Store→List Res→Prop}{x:α}(h:ConX P f args σ H T Post (.inr x)):Con P f args σ H (Post x):=h
@[reducible]def RetX{α:Type}(P:Program)(fn:Func)(n:Nat)(T:TypeId)(Post:α→Value→Store→List Res→Prop):Int⊕α→QP
  | .inr x=>RetOk P fn n (Post x)
  | .inl k=>fun ex _ _ _=>ex= .panic [{v:=fltV T k,recovered:=false}]
theorem ConX.mk{α:Type}{P:Program}{f:FuncId}{fn:Func}{c:Code}{args:List Value}{n:Nat}{H:List Res}{T:TypeId}{Post:α→Value→Store→List Res→Prop}{r:Int⊕α}
    (hf:P.funcs[f]? =some fn) (hb:fn.body=some c) (hn:fn.ntmps=n) (ha:Nat.ble args.length n=true)
    (h: ∀w0,TC ⟨P,w0,blks H,σ,n,none,some []⟩ (RetX P fn n T Post r) c (argEnv args) σ H):ConX P f args.toArray σ H T Post r:=by
  cases r with
  |inr x=>exact Con.mkD hf hb hn ha fun w0=>TB.fin endR_ret (h w0)
  |inl k=>
    intro w hw
    refine calls_fence.1 (callsIn_of_wp_marks (F:=fence none) (n:=0) hf hb trivial (Go.wpIn_mono (h w w _ ⟨hw,MarksOk.start⟩ (startSt hn ha)) ?_))
    rintro ex a w' ⟨e',σ',H',h1,h2,h3⟩
    have h3:ex= .panic [{v:=fltV T k,recovered:=false}]:=h3
    subst h3
    have hd:a.defers=[]:=h2.marks.is _ rfl
    show LeavesInM (fence none) 0 P fn a.tmps _ a.defers _ w'
    rw [hd]
    exact ⟨rfl,σ',h2.toReach.sub (List.nil_sublist _)⟩
def sumE{α β γ:Type}(x:α⊕β)(f:α→γ)(g:β→γ):γ:=match x with| .inl a=>f a| .inr b=>g b
section rules
variable {X:Ctx} {ops:Array Oper} {Q:QP} {e:Env} {σ:Store} {H F:List Res} {o:Oper} {rest:List Oper} {x:Operand} {K:Env→Store→List Res→Prop}
theorem OpOk.callX{α:Type}{y:α}{T:TypeId}{f d:Nat}{opds:Array Operand}{ts:Array TypeId}{first cap:Array Value}{args:List Value}{Post:α→Value→Store→List Res→Prop}{H1:List Res}(hc:ConX X.P f args.toArray σ H1 T Post (.inr y))(ho:o.op= .call {callee:= .value x,args:=opds,argTypes:=ts})
    (hx:ev e x= .func (.func f) first cap) (hp:plainF X.P f=true) (hargs:first.toList++(opds.toList.map (ev e)++cap.toList)=args) (hd:o.dst=some d) (hn:Nat.blt d X.n=true) (hH:H1++F=H)
    (k: ∀r σ' H1',σ.le σ'→Post y r σ' H1'→K (upd e d r) σ' (H1'++F)):OpOk X o e σ H K:=OpOk.call hc ho hx hp hargs hd hn hH k
theorem OpOk.callPX{α:Type}{y:α}{T:TypeId}{f d:Nat}{opds:Array Operand}{ts:Array TypeId}{first cap:Array Value}{args:List Value}{v:Value}{Post:α→Value→Store→List Res→Prop}(hc:ConX X.P f args.toArray σ [] T Post (.inr y))(hq:Post y=PureP v σ)(ho:o.op= .call {callee:= .value x,args:=opds,argTypes:=ts})
    (hx:ev e x= .func (.func f) first cap) (hp:plainF X.P f=true) (hargs:first.toList++(opds.toList.map (ev e)++cap.toList)=args) (hd:o.dst=some d) (hn:Nat.blt d X.n=true) (k:K (upd e d v) σ H):OpOk X o e σ H K:=
  OpOk.callX hc ho hx hp hargs hd hn rfl (fun r σ' H1' _ h=>by
    rw [hq]at h
    obtain ⟨h1,h2,h3⟩:=h
    subst h1 h3
    rw [h2]
    exact k)
theorem TL.callF{f:Nat}{opds:Array Operand}{ts:Array TypeId}{first cap:Array Value}{args:List Value}{v:Value}{H1:List Res}(hg:o.guard=none)(hc:ConF X.P f args.toArray σ H1 v)(ho:o.op= .call {callee:= .value x,args:=opds,argTypes:=ts})
    (hx:ev e x= .func (.func f) first cap) (hp:plainF X.P f=true) (hargs:first.toList++(opds.toList.map (ev e)++cap.toList)=args) (hH:H1++F=H)
    (k: ∀σ',σ.le σ'→Q (.panic [{v:=v,recovered:=false}]) e σ' F):TL X ops Q (o::rest) e σ H:=by
  subst hargs hH
  intro w a hw ha
  refine wpListIn_plain hg fun K hK=> ?_
  have hr:(execOp a.eval o).run X.P w= .ok (.enter f (first.toList++(opds.toList.map (ev e)++cap.toList)).toArray) w:=by
    rw [ha.eval']
    have hl:(first.toList++(opds.toList.map (ev e)++cap.toList)).toArray=first++(opds.map (ev e)++cap):=by
      apply Array.ext';simp
    rw [hl]
    simp [execOp,ho,resolve,hx,Deferred.ofValue,invoke,run_callFunc hp,Array.append_assoc]
  refine Oper.wp_run hr (fun _=>by simp) ⟨fun h=>(by cases h),calls_fence.2 ((hc w (hw.toReach.sub (List.sublist_append_left H1 F)).self).mono ?_)⟩
  rintro e' w' ⟨rfl,σ',h3⟩
  exact ⟨e,σ',F,ha,hw.step (hw.toReach.self.call h3) rfl,k σ' h3.le⟩
theorem TL.panic{T:TypeId}{v:Value}(hg:o.guard=none)(ho:o.op= .panic x)(hx:ev e x= .iface T v)
    (k:Q (.panic [{v:= .iface T v,recovered:=false}]) e σ H):TL X ops Q (o::rest) e σ H:=by
  intro w a hw ha
  refine wpListIn_plain hg fun K hK=> ?_
  have hr:(execOp a.eval o).run X.P w= .halt (.panic (.iface T v)) w:=by
    rw [ha.eval']
    have hp:Sem.run X.P (Instr.panic (.iface T v)) w= .halt (.panic (.iface T v)) w:=rfl
    simp only [execOp,ho,hx,Sem.run_bind,hp,Result.andThen]
  refine ⟨fun _ _=>trivial,?_⟩
  rw [Oper.semAt_eq _ _ _ (fun c hc=>by rw [ho]at hc;cases hc),hr]
  exact ⟨e,σ,H,ha,hw,k⟩
theorem OpVal.mkIface{P:Program}{n T:Nat}{v:Value}{fs:Array Field}(ho:o.op= .makeInterface T x)(hu:P.underlying T=some (.struct fs))(hx:ev e x=v):OpVal P n o e σ H (.iface T v):=fun w _=>by
  simp [execOp,ho,hx,Instr.makeInterface,run_underlying hu]
theorem OpVal.assertT{P:Program}{n T:Nat}{S:TypeId}{v:Value}{fs:Array Field}(ho:o.op= .typeAssert x S T true)(hu:P.underlying T=some (.struct fs))(hx:ev e x= .iface T v):OpVal P n o e σ H (.tuple #[v,.bool true]):=fun w _=>by
  simp [execOp,ho,hx,Instr.typeAssert,run_underlying hu]
theorem OpVal.assertN{P:Program}{n T:Nat}{S:TypeId}{z:Value}{fs:Array Field}(ho:o.op= .typeAssert x S T true)(hu:P.underlying T=some (.struct fs))(hz: ∀w,(zeroValue T).run P w= .ok z w)(hx:ev e x= .nilIface):OpVal P n o e σ H (.tuple #[z,.bool false]):=fun w _=>by
  simp [execOp,ho,hx,Instr.typeAssert,run_underlying hu,hz]
end rules
def ConR(P:Program)(f:FuncId)(args:Array Value)(v:Value)(σ:Store)(H:List Res)(Post:Value→Store→List Res→Prop):Prop:=
  ∀w,Reach w (blks H) σ σ w H→CallsDIn (fence none) 0 P f args (.panicking [{v:=v,recovered:=false}]) w fun e u w'=>u= .panicking [{v:=v,recovered:=true}]∧ ∃r σ' H',e= .returned r∧Post r σ' H'∧Reach w (blks H) σ σ' w' H'
@[reducible]def weakQ(Q:QP):QP:=fun ex e σ H=> ∃F,Sub F H∧Q ex e σ F
theorem wpSIn_recover{P:Program}{Q:Exit→Act→List Frame→World→Prop}{Q0:Exit→Act→World→Prop}{a:Act}{cs cs':List Frame}{w:World}{id d:Nat}{o0:Oper}{l:List Oper}{rv:Value}
    (hop:o0.op= .call {callee:= .builtin .recover,args:= #[],argTypes:= #[]}) (hg:o0.guard=none) (hd:o0.dst=some d)
    (hrec:(recoverD cs=some (rv,cs')∨(recoverD cs=none∧rv= .nilIface∧cs'=cs)))
    (h:wpListIn (fence none) 0 P (o0::l).toArray Q0 l (a.put (some d) rv) w) (hQ: ∀e a' w',Q0 e a' w'→Q e a' cs' w'):(Code.region id (o0::l).toArray false).wpSIn (fence none) 0 P Q a cs w:=by
  intro b k hb hro hF hroom
  have hlen:cs'.length=cs.length:=by
    rcases hrec with h1|⟨-, -,h1⟩
    · exact recoverD_length h1
    rw [h1]
  have h2:wpOpsIn (fence none) 0 P (o0::l).toArray Q0 (List.range' 1 l.length) (a.put (some d) rv) w:=by
    rw [wpOpsIn_eq_wpListIn l 1 (fun j=>by simp [Nat.add_comm 1 j])]
    exact h
  obtain ⟨e,a',w',hq,harr⟩:=wp_opsIn _ _ _ h2 b k cs' hro trivial (hlen▸hroom)
  refine ⟨e,a',cs',w',hlen,hQ _ _ _ hq,?_⟩
  have hr:List.range (o0::l).toArray.size=0::List.range' 1 l.length:=by
    rw [List.range_eq_range'];simp [List.range'_succ]
  refine ArrivesIn.of_steps (.head (fenced_calm hF hroom rfl) stepR_region (.one ?_ ?_)) harr
  · rw [hr]
    exact fenced_oper (o:=o0) hF hroom rfl (fun _ _=>trivial)
  rw [hr]
  have hw:Region.wanted o0 (yielded (o0::l).toArray a.tmps)=true:=by simp [Region.wanted,hg]
  have hgr:=stepGR_op (P:=P) (b:=b) (k:=k) (cs:=cs) (w:=w) (rest:=List.range' 1 l.length) (ops:=(o0::l).toArray) (i:=0) (o:=o0) rfl hw
  rw [hro,Oper.semAt_none]at hgr
  have hfin: ∀v,(b.atR a (.inRegion (o0::l).toArray (0::List.range' 1 l.length)::k)).finish v=b.atR (a.put o0.dst v) (.inRegion (o0::l).toArray (List.range' 1 l.length)::k):=by
    intro v;rw [Frame.finish_atR];rfl
  have hk:(b.atR a (.inRegion (o0::l).toArray (0::List.range' 1 l.length)::k)).kind= .deferred:=hb
  have htr:=tryRecover_deferred hk cs
  have hrun:(execOp a.eval o0).run P w= .ok .recover w:=by
    simp only [execOp,hop,resolve,Sem.run_bind];rfl
  apply step_lone_go
  rw [hgr,←hd,←hfin]
  simp only [Frame.atR,hro]at htr ⊢
  rcases hrec with h1|⟨h1,rfl,rfl⟩
  · simp [stepG.apply,hrun,htr,h1]
  simp [stepG.apply,hrun,htr,h1]
theorem recD{P:Program}{f:FuncId}{fn:Func}{c2:Code}{args:List Value}{n d id:Nat}{o0:Oper}{l:List Oper}{H:List Res}{Post:Value→Store→List Res→Prop}{w:World}{u u':FrameMode}{rv:Value}
    (hw:Reach w (blks H) σ σ w H) (hf:P.funcs[f]? =some fn) (hb:fn.body=some (.seq (.region id (o0::l).toArray false) c2)) (hn:fn.ntmps=n) (ha:Nat.ble args.length n=true)
    (hop:o0.op= .call {callee:= .builtin .recover,args:= #[],argTypes:= #[]}) (hg:o0.guard=none) (hd:o0.dst=some d) (hdn:Nat.blt d n=true)
    (hrec: ∀(c₀:Frame) (cs:List Frame),c₀.mode=u→(recoverD (c₀::cs)=some (rv,{c₀ with mode:=u'}::cs)∨(recoverD (c₀::cs)=none∧rv= .nilIface∧({c₀ with mode:=u'}:Frame)::cs=c₀::cs)))
    (h:TL ⟨P,w,blks H,σ,n,none,some []⟩ (o0::l).toArray (seqQ (TC ⟨P,w,blks H,σ,n,none,some []⟩ (weakQ (retQ P fn n Post)) c2) (weakQ (retQ P fn n Post))) l (upd (argEnv args) d rv) σ H):
    CallsDIn (fence none) 0 P f args.toArray u w fun e u1 w'=>u1=u'∧ ∃r σ' H',e= .returned r∧Post r σ' H'∧Reach w (blks H) σ σ' w' H':=by
  refine callsDIn_of_wpSIn hf hb trivial fun c₀ cs hu=> ?_
  apply wpSIn_seq
  refine wpSIn_recover (cs':={c₀ with mode:=u'}::cs) hop hg hd (hrec c₀ cs hu) (h w _ ⟨hw,MarksOk.start⟩ ((startSt hn ha).put (by simpa [Nat.blt_eq]using hdn) rv)) ?_
  have hfin: ∀(ex:Exit) (a:Act) (w':World),(ex= .normal∨ex= .ret∨True)→low ⟨P,w,blks H,σ,n,none,some []⟩ (weakQ (retQ P fn n Post)) ex a w'→bodyPostS P fn c₀ cs (fun e u1 w'=>u1=u'∧ ∃r σ' H',e= .returned r∧Post r σ' H'∧Reach w (blks H) σ σ' w' H') ex a ({c₀ with mode:=u'}::cs) w':=by
    rintro ex a w' - ⟨e',σ',H',h1,h2,F,hs,⟨hex,r,H'',h3,h4,h5⟩⟩
    have hd:a.defers=[]:=h2.marks.is _ rfl
    have h6:=h2.toReach.ofSub hs
    rcases hex with rfl|rfl
    · exact ⟨hd,u',rfl,r,h3 w' a h1 h6.holds,rfl,r,σ',H'',rfl,h5,h6.sub h4⟩
    exact ⟨hd,u',rfl,r,h3 w' a h1 h6.holds,rfl,r,σ',H'',rfl,h5,h6.sub h4⟩
  rintro ex a' w' ⟨e',σ',H',h1,h2,h3⟩
  cases ex with
  |normal=>exact wpSIn_of_wpIn rfl (Go.wpIn_mono (h3 w' a' h2 h1) fun ex a w' hq=>hfin ex a w' (.inr (.inr trivial)) hq)
  |exit id=>exact hfin _ _ _ (.inr (.inr trivial)) ⟨e',σ',H',h1,h2,h3⟩
  |goto l=>exact hfin _ _ _ (.inr (.inr trivial)) ⟨e',σ',H',h1,h2,h3⟩
  |ret=>exact hfin _ _ _ (.inr (.inr trivial)) ⟨e',σ',H',h1,h2,h3⟩
  |panic ch=>exact hfin _ _ _ (.inr (.inr trivial)) ⟨e',σ',H',h1,h2,h3⟩
  |outgrown=>exact hfin _ _ _ (.inr (.inr trivial)) ⟨e',σ',H',h1,h2,h3⟩
theorem ConD.rec{P:Program}{f:FuncId}{fn:Func}{c2:Code}{args:List Value}{n d id:Nat}{o0:Oper}{l:List Oper}{H:List Res}{Post:Value→Store→List Res→Prop}
    (hf:P.funcs[f]? =some fn) (hb:fn.body=some (.seq (.region id (o0::l).toArray false) c2)) (hn:fn.ntmps=n) (ha:Nat.ble args.length n=true)
    (hop:o0.op= .call {callee:= .builtin .recover,args:= #[],argTypes:= #[]}) (hg:o0.guard=none) (hd:o0.dst=some d) (hdn:Nat.blt d n=true)
    (h: ∀w0,TL ⟨P,w0,blks H,σ,n,none,some []⟩ (o0::l).toArray (seqQ (TC ⟨P,w0,blks H,σ,n,none,some []⟩ (weakQ (retQ P fn n Post)) c2) (weakQ (retQ P fn n Post))) l (upd (argEnv args) d .nilIface) σ H):ConD P f args.toArray σ H Post:=fun w hw=>
  recD hw hf hb hn ha hop hg hd hdn (fun c₀ cs hu=> .inr ⟨by simp [recoverD,hu],rfl,by cases c₀;simp_all⟩) (h w)
theorem ConR.rec{P:Program}{f:FuncId}{fn:Func}{c2:Code}{args:List Value}{n d id:Nat}{o0:Oper}{l:List Oper}{H:List Res}{v:Value}{Post:Value→Store→List Res→Prop}
    (hf:P.funcs[f]? =some fn) (hb:fn.body=some (.seq (.region id (o0::l).toArray false) c2)) (hn:fn.ntmps=n) (ha:Nat.ble args.length n=true)
    (hop:o0.op= .call {callee:= .builtin .recover,args:= #[],argTypes:= #[]}) (hg:o0.guard=none) (hd:o0.dst=some d) (hdn:Nat.blt d n=true)
    (h: ∀w0,TL ⟨P,w0,blks H,σ,n,none,some []⟩ (o0::l).toArray (seqQ (TC ⟨P,w0,blks H,σ,n,none,some []⟩ (weakQ (retQ P fn n Post)) c2) (weakQ (retQ P fn n Post))) l (upd (argEnv args) d v) σ H):ConR P f args.toArray v σ H Post:=fun w hw=>
  recD hw hf hb hn ha hop hg hd hdn (fun c₀ cs hu=> .inl (by simp [recoverD,hu])) (h w)
theorem ConR.mono{P:Program}{f:FuncId}{args:Array Value}{v:Value}{H:List Res}{Post Post':Value→Store→List Res→Prop}
    (h:ConR P f args v σ H Post) (hp: ∀r σ' H',σ.le σ'→Post r σ' H'→Post' r σ' H'):ConR P f args v σ H Post':=fun w hw=>
  (h w hw).mono fun _ _ _ ⟨h0,r,σ',H',h1,h2,h3⟩=>⟨h0,r,σ',H',h1,hp _ _ _ h3.le h2,h3⟩
def dfrX(P:Program)(fn:Func)(n:Nat)(Post:Value→Store→List Res→Prop)(f:FuncId)(args:List Value):QP:=fun ex e σ H=>
  dfrQ P fn n Post f args ex e σ H∨ ∃v,ex= .panic [{v:=v,recovered:=false}]∧ ∃F,Sub F H∧ConR P f args.toArray v σ F fun _ σ' H'=>RetOk P fn n Post .ret e σ' H'
theorem endR_dfrX{P:Program}{fn:Func}{w0:World}{C:List Nat}{σ0:Store}{n:Nat}{Post:Value→Store→List Res→Prop}{f:FuncId}{cap dargs:List Value}(hp:plainF P f=true):
    ∀ex a w,low ⟨P,w0,C,σ0,n,none,some [⟨.fn (.func f) cap.toArray,dargs.toArray⟩]⟩ (dfrX P fn n Post f (dargs++cap)) ex a w→endR P fn w0 C σ0 Post ex a w:=by
  rintro ex a w ⟨e,σ,H,h1,h2,h|⟨v,rfl,F,hs,hcon⟩⟩
  · exact endR_dfr hp ex a w ⟨e,σ,H,h1,h2,h⟩
  have hd:a.defers=[⟨.fn (.func f) cap.toArray,dargs.toArray⟩]:=h2.marks.is _ rfl
  have h3:Reach w0 C σ0 σ w F:=h2.toReach.ofSub hs
  show LeavesInM (fence none) 0 P fn a.tmps (endE w0 C σ0 Post) a.defers (.panicking [{v:=v,recovered:=false}]) w
  rw [hd]
  refine ⟨by simp,.inr ⟨(fun h=>by cases h),.func f,cap.toArray,f,(dargs++cap).toArray,rfl,?_,(fun _ _=>trivial),(hcon w h3.self).mono ?_⟩⟩
  · simp [invoke,run_callFunc hp]
  rintro _ _ w' ⟨rfl,r,σ',H',rfl,⟨-,v',H'',h4,h5,h6⟩,h7⟩
  have h8:Reach w0 C σ0 σ' w' H':=by
    have:=(show Reach w0 C σ0 σ w (F++[]) by rwa [List.append_nil]).call h7
    rwa [List.append_nil]at this
  exact ⟨v',h4 w' a h1 h8.holds,v',σ',H'',rfl,h6,h8.sub h5⟩
end Go.E
end

noncomputable section
namespace Go.E
open Go
structure Flt where
  e:Int
  deriving DecidableEq
def Flt.zero:Flt:=⟨0⟩
structure Maker where
  arcs:List (List Arc)
  ends:List (List (List UInt8))
  most:Int
  rows:List (List Tip)
  places:FM (List UInt8) Int
  q:Seq
def Maker.zero:Maker:=⟨[],[],0,[],FM.emp,Seq.zero⟩
structure RMaker where
  rows:List (List Tip)
  most:Int
  e:Int
def RMaker.zero:RMaker:=⟨[],0,0⟩
structure Numb where
  places:FM (List UInt8) Int
def Numb.zero:Numb:=⟨FM.emp⟩
end Go.E
end

noncomputable section
namespace Go.E
open Go
theorem splice_sub{α:Type}{enc:α→List Value}{size:Nat}(hl: ∀x,(enc x).length=size)(d q:α)(off:Nat)(u:List Value)(ho:off+u.length≤size):
    ∀(l:List α) (i:Nat),i<l.length→splice (enc (nth l i d)) off u=enc q→splice (l.flatMap enc) (i * size+off) u=(l.set i q).flatMap enc
  |[],i,h,_=>by simp at h
  |y::l,0,_,hq=>by
    have h0:splice (enc y) off u=enc q:=hq
    have h1:off+u.length≤(enc y).length:=by rw [hl];exact ho
    rw [Nat.zero_mul,Nat.zero_add,List.set_cons_zero,List.flatMap_cons,List.flatMap_cons,←h0]
    simp only [splice]
    rw [List.take_append_of_le_length (by omega),List.drop_append_of_le_length h1,←List.append_assoc]
  |y::l,i+1,h,hq=>by
    have h0:splice (enc (nth l i d)) off u=enc q:=hq
    have ih:=splice_sub hl d q off u ho l i (by simpa using h) h0
    rw [List.set_cons_succ,List.flatMap_cons,List.flatMap_cons,←ih]
    simp only [splice]
    have e1:(i+1) * size+off=size+(i * size+off):=by rw [Nat.add_mul,Nat.one_mul];omega
    have e2:size+(i * size+off)=(enc y).length+(i * size+off):=by rw [hl]
    have e3:(enc y).length+(i * size+off)+u.length=(enc y).length+(i * size+off+u.length):=by omega
    rw [e1,e2,e3,List.take_length_add_append,List.drop_length_add_append]
    simp only [List.append_assoc]
section
variable {X:Ctx} {e:Env} {σ:Store} {F:List Res} {o:Oper} {x y:Operand} {K:Env→Store→List Res→Prop}
theorem OpOk.storeSub{α:Type}{T E size i off s:Nat}{enc:α→List Value}{v u:Value}{l:List α}(d q:α)(ho:o.op= .store T x y)(hs:szOf X.P T=some s)(hd:o.dst=none)(hx:ev e x=elem v (i * size+off))(hv:ev e y=u)
    (hu:splice (enc (nth l i d)) off u.cells.toList=enc q) (hus:u.cells.size=s) (h1: ∀c∈u.cells.toList,c.oneCell'=true) (hl: ∀x,(enc x).length=size) (h0:0<s) (hof:off+s≤size) (hi:i<l.length)
    (kk:K e σ (Res.rowS E size enc v (l.set i q)::F)):OpOk X o e σ (Res.rowS E size enc v l::F) K:=by
  refine OpOk.storeRow ho hs hd hx hv hus h1 h0 ?_ ?_
  · rw [flatMap_len hl]
    have h1:(i+1) * size≤l.length * size:=Nat.mul_le_mul_right _ hi
    rw [Nat.add_mul]at h1;omega
  rw [splice_sub hl d q off u.cells.toList (by rw [Array.length_toList,hus];exact hof) l i hi hu]
  simpa only [Res.rowS,List.length_set]using kk
end
end Go.E
end
