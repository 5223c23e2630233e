/- Parts of a proof, one behind the other: what a machine reaches, functions decompiled, plain lemmas. Conditions stand with each lemma. -/
import Derived.Test.YtchebnpdnfhenaaGreatDoorBe54edaa7b1
import Derived.Test.YtchebnpdnfhenaaGreatDoorBc7c94354ed

set_option linter.unusedVariables false
set_option linter.unusedSimpArgs false
set_option linter.unusedSectionVars false
set_option maxRecDepth 100000
set_option maxHeartbeats 8000000
variable {a0_0 a0_1 a0_10 a0_12 a0_16 a0_2 a0_20 a0_22 a0_4 a0_7 a1_0 a1_1 a1_2:Option Go.Addr}{Eb0 Eb1 b0_0 b0_11 b1_0 c0_0 c0_1 c0_11 c0_13 c0_17 c0_2 c0_21 c0_23 c0_5 c0_8 c1_0 c1_1 c1_2:Nat}

noncomputable section
namespace Go.Proofs.YtchebnpdnfhenaaGreatDoor
open Go Go.E Go.E.OpVal Go.E.OpOk Go.Proofs.Tryz
open List (replicate)
theorem ag33:aggOf Tryz.prog 33=some false:=by kernel_rfl
theorem ag70:aggOf Tryz.prog 70=some false:=by kernel_rfl
theorem ag71:aggOf Tryz.prog 71=some false:=by kernel_rfl
theorem ag72:aggOf Tryz.prog 72=some false:=by kernel_rfl
theorem by22:byOf Tryz.prog 22=some 24:=by kernel_rfl
theorem by23:byOf Tryz.prog 23=some 24:=by kernel_rfl
theorem by30:byOf Tryz.prog 30=some 24:=by kernel_rfl
theorem by9:byOf Tryz.prog 9=some 16:=by kernel_rfl
theorem fo142_0:foOf Tryz.prog 142 0=some 0:=by kernel_rfl
theorem sq_:foOf Tryz.prog 74 0=some 0:=by kernel_rfl
theorem qb_:foOf Tryz.prog 74 1=some 1:=by kernel_rfl
theorem fo74_2:foOf Tryz.prog 74 2=some 2:=by kernel_rfl
theorem s3_:foOf Tryz.prog 74 3=some 3:=by kernel_rfl
theorem fo74_4:foOf Tryz.prog 74 4=some 4:=by kernel_rfl
theorem km_:foOf Tryz.prog 74 5=some 5:=by kernel_rfl
theorem pf102:plainF Tryz.prog 102=true:=by kernel_rfl
theorem pf127:plainF Tryz.prog 127=true:=by kernel_rfl
theorem we_:plainF Tryz.prog 128=true:=by kernel_rfl
theorem pf129:plainF Tryz.prog 129=true:=by kernel_rfl
theorem pf130:plainF Tryz.prog 130=true:=by kernel_rfl
theorem pf131:plainF Tryz.prog 131=true:=by kernel_rfl
theorem x0_:plainF Tryz.prog 150=true:=by kernel_rfl
theorem t8_:plainF Tryz.prog 151=true:=by kernel_rfl
theorem pf155:plainF Tryz.prog 155=true:=by kernel_rfl
theorem pf44:plainF Tryz.prog 44=true:=by kernel_rfl
theorem pf45:plainF Tryz.prog 45=true:=by kernel_rfl
theorem pf86:plainF Tryz.prog 86=true:=by kernel_rfl
theorem pf87:plainF Tryz.prog 87=true:=by kernel_rfl
theorem pf89:plainF Tryz.prog 89=true:=by kernel_rfl
theorem pf90:plainF Tryz.prog 90=true:=by kernel_rfl
theorem pl142:plOf Tryz.prog 142=some #[(0,1)]:=by kernel_rfl
theorem q5_:plOf Tryz.prog 32=some #[(0,1),(1,1),(2,1),(3,1),(4,1)]:=by kernel_rfl
theorem pl74:plOf Tryz.prog 74=some #[(0,1),(1,1),(2,1),(3,1),(4,1),(5,5)]:=by kernel_rfl
theorem sz142:szOf Tryz.prog 142=some 1:=by kernel_rfl
theorem sz28:szOf Tryz.prog 28=some 1:=by kernel_rfl
theorem sz33:szOf Tryz.prog 33=some 1:=by kernel_rfl
theorem sz71:szOf Tryz.prog 71=some 1:=by kernel_rfl
theorem sz72:szOf Tryz.prog 72=some 1:=by kernel_rfl
theorem t7_:zeroOf Tryz.prog 142=some (.agg #[.int .i64 0]):=by kernel_rfl
theorem ze22:zeroOf Tryz.prog 22=some (nl_):=by kernel_rfl
theorem ze23:zeroOf Tryz.prog 23=some (nl_):=by kernel_rfl
theorem yb_:zeroOf Tryz.prog 30=some (nl_):=by kernel_rfl
theorem ju_:zeroOf Tryz.prog 32=some (.agg #[.string ByteArray.empty,nl_,nl_,nl_,nl_]):=by kernel_rfl
theorem ze33:zeroOf Tryz.prog 33=some (.int .i64 0):=by kernel_rfl
theorem ze74:zeroOf Tryz.prog 74=some (.agg #[nl_,nl_,.int .i64 0,nl_,.map none,.string ByteArray.empty,nl_,nl_,nl_,nl_]):=by kernel_rfl
theorem ze9:zeroOf Tryz.prog 9=some (.string ByteArray.empty):=by kernel_rfl
def Ce_(x0:T_2)(s107:T_1)(k108:Nat):Option ((T_1×Nat)⊕(T_1)):=
 ec_ (decide ((k108:Int)<(((x0.drop 1).length:Nat):Int))) (bnd (E7_ s107 (nth (x0.drop 1) k108 [])) (fun v21=>grd (0≤v21∧0≤v21.toNat∧v21.toNat≤s107.length) (nxt ((s107.take v21.toNat),(k108+1))))) (fin (some s107))
def Ex_(x0:T_2):Option (T_1):=
 ec_ (decide (((x0.length:Nat):Int)=0)) (some ([]:T_1)) (grd (0<x0.length) (grd (1≤x0.length∧x0.length≤x0.length) (eq_ (fun q:T_1×Nat=>Ce_ x0 q.1 q.2) ((nth x0 0 []),0))))
theorem Gy_{σ:d0_}{x0:T_2}(f0_0:rS_ σ eS_ a0_0 c0_0 x0){r:T_1}(hh:Ex_ x0=some r):
  Con prog 127 #[.slice a0_0 x0.length c0_0] σ [] (fd_ (.string (bs r)) σ):=by
 dsimp only [Ex_]at hh
 have f0_0b:=f0_0.rv.big
 refine Con.mk (n:=26) Tryz.func127 z z z (fun w0=> ?_)
 refine ξ (ω z (ad_ (.inr z) z) (κ (ν (ξ (TL.s z z (ω z (lenC z gw_ z) (ω z (OpVal.eql z z z) (κ (TC.cD z hh (fun h101 hh=> ?_) (fun h101 hh=> ?_))))))))))
 ·refine ξ (ω z (ad_ (.inr z) z) (κ (TC.ret (S.r ?_))))
  obtain rfl:=so hh
  exact rq [2] ⟨z,z,z⟩
 refine ι (S.n (ξ (TL.s z z ?_)))
 obtain ⟨u7,hh⟩:=d6_ hh
 refine ω z (af_ (i:=0) z gw_ sz9 z z f0_0.rv.sl (by omega)) (ω z (al_ ([]:T_1) z ag9 z f0_0 (by omega) z) (ω z (ad_ (.inr z) z) (κ (ν (ξ (TL.s z z ?_))))))
 obtain ⟨u11,hh⟩:=d6_ hh
 obtain ⟨a102,c102,hr102,hv102⟩:=f0_0.subL 1 (by omega)
 have hr102b:=hr102.rv.big
 refine ω z (hv102 z gw_ sz9 z z) (ω z (lenC z gw_ z) (θ z z (κ (υ (TC.ao_ (α:=(T_1×Nat)×(Unit)) (rgs [(3,1),(5,1),(15,10)]) (fun g=>[(3,.string (bs g.1.1)),(15,.int .i64 ((g.1.2:Nat):Int))]) (fun g=>[]) (fun g=>σ) (fun g=>eq_ (fun q:T_1×Nat=>Ce_ x0 q.1 q.2) g.1=some r) (fun g=>eh_ (fun q:T_1×Nat=>Ce_ x0 q.1 q.2) g.1) (((nth x0 0 []),0),()) (Sub.pre 0 z) z (by repeat (first|exact trivial|refine ⟨z,?_⟩)) hh (fun g1 j1 hg1=> ?_))))))
 obtain ⟨⟨s107,k108⟩,_⟩:=g1
 have hh:=hg1;clear hg1
 try dsimp only
 obtain ⟨z1,hh,hR1⟩:=eo_ hh
 dsimp only [Ce_]at hh
 refine ξ (ω z (OpVal.lss z z z) (κ (ν (TC.cD z hh (fun h109 hh=> ?_) (fun h109 hh=> ?_)))))
 ·refine ι (S.n (ν (υ (ξ (ω z (af_ z gw_ sz9 z z hr102.rv.sl (by omega)) (ω z (al_ ([]:T_1) z ag9 z hr102 (by omega) z) (ω z (ad_ (.inr z) z) (κ (π (ω z (ad_ (.inl z) z) (ω z (ad_ (.inl z) z) (ω z (ad_ (.inl z) z) ?_))))))))))))
  obtain ⟨v21,u21,hh⟩:=eb_ hh
  refine ζ z (aw_ (Hs_ u21) z z pf155 z z z ?_)
  obtain ⟨u22,hh⟩:=d6_ hh
  refine ω rfl (db_ (l:=s107) (j:=v21.toNat) rfl u9_ rfl (by show Value.int _ _=_;rw [Int.toNat_of_nonneg (by omega)]) (by omega) (by omega)) (ω z (ad_ (.inr z) z) (TL.nil (B.n (S.n (π (ω z (OpVal.succ z z z (by omega)) (θ z z (κ ?_))))))))
  obtain ⟨hh,hlt110⟩:=ey_ hR1 hh
  exact lf (((s107.take v21.toNat),(k108+1)),()) hlt110 hh (Sub.pre 0 z)
 refine TC.exit (S.x (S.x ?_))
 replace hh:=el_ hR1 hh
 refine Δ (S.n (ξ (ω z (ad_ (.inl z) z) (ω z (ad_ (.inr z) z) (κ (TC.ret ?_))))))
 obtain rfl:=so hh
 exact rq [2] ⟨z,z,z⟩
def D0_(x0:T_1):Option (Int⊕(Unit)):=
 grd (x0.length≤281474976710656) (ec_ (decide (4096<((x0.length:Nat):Int))) (some (.inl 2)) (some (.inr ())))
theorem C5_{σ:d0_}{x0:T_1}{r:Int⊕(Unit)}(hh:D0_ x0=some r):
  mk_ prog 128 #[.string (bs x0)] σ [] 142 (fun r:Unit=>(fd_ (.tuple #[]) σ)) r:=by
 dsimp only [D0_]at hh
 refine mk_.mk (n:=7) Tryz.func128 z z z (fun w0=> ?_)
 have x0b:=n8_ hh
 replace hh:=or_ hh
 refine ξ (ω z (ad_ (.inl z) z) (ω z (a5_ z u9_ z) (ω z (OpVal.gtr z z z) (κ (TC.cD z hh (fun h101 hh=> ?_) (fun h101 hh=> ?_))))))
 ·refine π (ω z (an_ z pl142 t7_ z) (ω z (br_ (v:= .agg #[.int .i64 2]) z underlying142 z) (TL.panic z z z ?_)))
  obtain rfl:=so hh
  exact z
 refine ι ?_
 obtain rfl:=so hh
 exact RetOk.mk' (rs:=[]) [] z (.inr z) RVs.nil (List.sublist_append_left _ _) ⟨z,z,z⟩
def Dl_(k116:Nat)(l114:T_2)(v6:(List Tip)):Option ((T_2×Nat)⊕(Int⊕(T_1×(List Tip)))):=
 grd (k116<l114.length) (nxt ((l114.set k116 ((nth v6 k116 tz_).out)),(k116+1)))
def Bh_(v6:(List Tip))(v47:T_1)(l142:List Tip)(k144:Nat):Option (((List Tip)×Nat)⊕(Int⊕(T_1×(List Tip)))):=
 ec_ (decide ((k144:Int)<((v6.length:Nat):Int))) (grd (k144<l142.length) (grd (v47.length≤((nth l142 k144 tz_).out).length∧((nth l142 k144 tz_).out).length≤((nth l142 k144 tz_).out).length) (grd (k144<l142.length) (grd (k144<(l142.set k144 (⟨(nth l142 k144 tz_).state,(((nth l142 k144 tz_).out).drop v47.length)⟩:Tip)).length) (bnd (D0_ ((nth (l142.set k144 (⟨(nth l142 k144 tz_).state,(((nth l142 k144 tz_).out).drop v47.length)⟩:Tip)) k144 tz_).out)) (fun v75=>ky_ v75 (fun v75k=>fin (some (.inl v75k))) (fun v75r=>nxt ((l142.set k144 (⟨(nth l142 k144 tz_).state,(((nth l142 k144 tz_).out).drop v47.length)⟩:Tip)),(k144+1))))))))) (fin (some (.inr (v47,l142))))
def Au_(v6:(List Tip))(l114:T_2)(k116:Nat):Option ((T_2×Nat)⊕(Int⊕(T_1×(List Tip)))):=
 ec_ (decide ((k116:Int)<((v6.length:Nat):Int))) (ec_ (decide (0<(k116:Int))) (grd (0≤(IntKind.i64.wrap ((k116:Int) - 1))∧(IntKind.i64.wrap ((k116:Int) - 1))<(v6.length:Int)) (ec_ (decide (((nth v6 ((IntKind.i64.wrap ((k116:Int) - 1)).toNat) tz_).state)=((nth v6 k116 tz_).state))) (fin (some (.inl 12))) (Dl_ k116 l114 v6))) (Dl_ k116 l114 v6)) (fin (bnd (Ex_ l114) (fun v47=>bnd (D0_ v47) (fun v50=>ky_ v50 (fun v50k=>some (.inl v50k)) (fun v50r=>eq_ (fun q:(List Tip)×Nat=>Bh_ v6 v47 q.1 q.2) (v6,0))))))
def E0_(x0:List Tip):Option (Int⊕(T_1×(List Tip))):=
 bnd (kc_ (g3_ e0_ x0)) (fun v6=>grd (16 * v6.length≤281474976710656) (eq_ (fun q:T_2×Nat=>Au_ v6 q.1 q.2) ((replicate v6.length ([]:T_1)),0)))
theorem Ew_{σ:d0_}{x0:List Tip}{r:Int⊕(T_1×(List Tip))}(hh:E0_ x0=some r):
  mk_ prog 87 #[.slice a0_1 x0.length c0_2] σ [ε 76 2 d2_ (.slice a0_1 x0.length c0_2) x0] 142 (fun r:T_1×(List Tip)=>(fun v σ' H'=> ∃a1 c1,v= .tuple #[.string (bs r.1),.slice a1 r.2.length c1]∧RS σ' 2 d2_ (.slice a1 r.2.length c1) r.2∧H'=[])) r:=by
 dsimp only [E0_]at hh
 refine mk_.mk (n:=74) Tryz.func87 z z z (fun w0=> ?_)
 refine ξ (ω z (ad_ (.inr z) z) (TL.s z z (κ (ξ (TL.s z z ?_)))))
 have hn102:(g3_ e0_ x0).length=x0.length:=List.length_mergeSort _
 refine ζ z (OpOk.call (Iq_ (l:=x0)) z z pf124 z z z z ?_)
 rintro _ _ _ _ ⟨rfl,hz_,rfl⟩
 rw [←hz_]
 refine κ (ξ (TL.s z z ?_))
 rw [←hn102]
 obtain ⟨v6,u6,hh⟩:=eb_ hh
 refine ζ z (OpOk.call (G1_ u6) z z pf126 z z z z ?_)
 rintro _ _ _ hle103 ⟨a103_1,c103_2,rfl,rfl,rfl⟩
 refine TL.s z z (κ (ξ (TL.s z z (ω z (lenC z ge_ z) ?_))))
 obtain ⟨u10,hh⟩:=d6_ hh
 refine ζ z (a2_ (enc:=eS_) ([]:T_1) z gw_ sz9 by9 ze9 z z z z (by omega) (by decide) es_ (by decide) z pn_ (fun a105 c106=> ?_))
 refine TL.s z z (κ (ν (ξ (TL.s z z (ω z (lenC z ge_ z) (θ z z (κ (υ (TC.ao_ (α:=(T_2×Nat)×(Unit)) (rgs [(5,2),(18,26)]) (fun g=>[(18,.int .i64 ((g.1.2:Nat):Int))]) (fun g=>[ε 76 2 d2_ (.slice a103_1 v6.length c103_2) v6,ε 9 1 eS_ (.slice a105 (replicate v6.length ([]:T_1)).length c106) g.1.1]) (fun g=>σ) (fun g=>eq_ (fun q:T_2×Nat=>Au_ v6 q.1 q.2) g.1=some r∧g.1.1.length=(replicate v6.length ([]:T_1)).length) (fun g=>eh_ (fun q:T_2×Nat=>Au_ v6 q.1 q.2) g.1) (((replicate v6.length ([]:T_1)),0),()) (δ [1] 2) z (by repeat (first|exact trivial|refine ⟨z,?_⟩)) ⟨hh,z⟩ (fun g1 j1 hg1=> ?_))))))))))
 obtain ⟨⟨l114,k116⟩,_⟩:=g1
 obtain ⟨hh,hn115⟩:=hg1
 try dsimp only at hn115 ⊢
 obtain ⟨z1,hh,hR1⟩:=eo_ hh
 dsimp only [Au_]at hh
 refine η (i:=0) z (fun _ hb117 _=> ?_)
 refine η (i:=1) z (fun _ hb118 _=> ?_)
 refine ξ (ω z (OpVal.lss z z z) (κ (ν (TC.cD z hh (fun h119 hh=> ?_) (fun h119 hh=> ?_)))))
 ·refine ι (S.n (ν (υ (ξ (θ z z (TL.isSl (i:=0) z (fun hs120 _ _=> ?_)))))))
  refine ω z (af_ z ge_ fr_ z z hs120 (by omega)) (ω z (bd_ tz_ z ni_ fr_ z (q:=0) z d1_ (by omega) (by omega)) (ζ z (OpOk.alloc z ik_ z z (fun b121=> ?_))))
  refine θ z z (ζ z (storeAll z fr_ z z z z z z ?_))
  refine κ (TC.cutG (α:=(Unit)×(Unit)) (rgs [(23,15)]) (fun g=>[]) (fun g=>[ε 76 2 d2_ (.slice a103_1 v6.length c103_2) v6,ε 9 1 eS_ (.slice a105 (replicate v6.length ([]:T_1)).length c106) l114,φ b121 #[.int .i64 ((nth v6 k116 tz_).state),.string (bs ((nth v6 k116 tz_).out))] 76]) (fun g=>σ) (fun g=>Dl_ k116 l114 v6=some z1∧l114.length=(replicate v6.length ([]:T_1)).length) ?_ (fun g j hg=> ?_))
  ·skip
   refine ν (TC.draw [] (by kernel_rfl) (Ψ 0 z (ai_ (.inl z) z) z (Ψ 1 z (OpVal.gtr z z z) z (Ψ 2 z (moveB (.inl z) z) z (TA.split 25 z (fun h124=> ?_) (fun h124=> ?_))))))
   ·replace hh:=ej_ h124 hh
    replace h124:=dt_ h124
    refine TA.on 3 z z z z (aj_ (.inl z) z) z (TA.on 4 z z z z (ai_ (.inl z) z) z (TA.on 5 z z z z (subW z z z) z ?_))
    obtain ⟨u28,hh⟩:=d6_ hh
    refine TA.isSl (i:=1) z (fun hs125 _ _=> ?_)
    refine TA.on 6 z z z z (OpVal.index z ge_ fr_ z z hs125 u28.1 u28.2) z (TA.isSl (i:=1) z (fun hs126 _ _=> ?_))
    refine TA.on 7 z z z z (a6_ z gj_ z hs126 (by omega)) z (TA.on 8 z z z z (cr_ tz_ z ag3 z (q:=1) z d1_ (by omega) (by omega) z) z (TA.on 9 z z z z (aa_ z gj_ z) z (TA.on 10 z z z z (ab_ z ag3 z (i:=0) z z) z (TA.on 11 z z z z (OpVal.eql z z z) z (Ψ 12 z (ah_ z z z) z (TA.dn (S.n (TC.cD z hh (fun h127 hh=> ?_) (fun h127 hh=> ?_)))))))))
    ·refine π (ω z (an_ z pl142 t7_ z) (ω z (br_ (v:= .agg #[.int .i64 12]) z underlying142 z) (TL.panic z z z ?_)))
     replace hh:=el_ hR1 hh
     obtain rfl:=so hh
     exact z
    exact ι (S.n (cf ((),()) ⟨hh,hn115⟩ (δ [2,2] 3)))
   replace hh:=ei_ h124 hh
   replace h124:=df_ h124
   exact TA.off 3 z z z z z z (TA.off 4 z z z z z z (TA.off 5 z z z z z z (TA.off 6 z z z z z z (TA.off 7 z z z z z z (TA.off 8 z z z z z z (TA.off 9 z z z z z z (TA.off 10 z z z z z z (TA.off 11 z z z z z z (Ψ 12 z (ag_ z z z) z (TA.dn (S.n (TC.f z (ι (S.n (cf ((),()) ⟨hh,hn115⟩ (δ [2,2] 3))))))))))))))))
  skip
  obtain ⟨_,_⟩:=g
  obtain ⟨hh,hn123⟩:=hg
  try dsimp only at hn123 ⊢
  dsimp only [Dl_]at hh
  refine η (i:=0) z (fun _ hb128 _=> ?_)
  refine η (i:=1) z (fun _ hb129 _=> ?_)
  refine π (TL.s z z (θ z z (ω z (aa_ z fh_ z) (ω z (ab_ z ag9 z (i:=2) z z) ?_))))
  obtain ⟨u42,hh⟩:=d6_ hh
  refine TL.isSl (i:=1) z (fun hs130 _ _=> ?_)
  refine ω z (af_ z gw_ sz9 z z hs130 (by omega)) (ψ 1 z z ?_)
  have hn131:(l114.set k116 ((nth v6 k116 tz_).out)).length=(replicate v6.length ([]:T_1)).length:=by rw [ls_];exact hn123
  refine ζ z (ay_ ((nth v6 k116 tz_).out) z sz9 z z z z es_ pn_ (by omega) (by omega) ?_)
  refine TL.nil (B.n (S.n (π (ω z (OpVal.succ z z z (by omega)) (θ z z (κ ?_))))))
  obtain ⟨hh,hlt132⟩:=ey_ hR1 hh
  exact lf (((l114.set k116 ((nth v6 k116 tz_).out)),(k116+1)),()) hlt132 ⟨hh,hn131⟩ (δ [1] 2)
 refine TC.exit (S.x (S.x ?_))
 replace hh:=el_ hR1 hh
 refine Δ (S.n (ξ (TL.s z z ?_)))
 rw [←hn115]
 obtain ⟨v47,u47,hh⟩:=eb_ hh
 refine ψ 1 z z (ζ z (b2_ (Con.lend es_ (fun _ hle134 hr133=>Gy_ hr133 u47)) z z pf127 z z z z ?_))
 refine ω z (ad_ (.inr z) z) (κ (ξ (ω z (ad_ (.inl z) z) ?_)))
 obtain ⟨v50,u50,hh⟩:=eb_ hh
 rcases v50 with v50k|v50r
 ·dsimp only [ky_]at hh
  refine TL.bt_ z (mk_.l (C5_ u50)) z z we_ z z (fun τ135 hle135=> ?_)
  obtain rfl:=so hh
  exact z
 dsimp only [ky_]at hh
 refine ζ z (cn_ (C5_ u50) z z z we_ z z z ?_)
 refine κ (ν (ξ (TL.s z z (ω z (lenC z ge_ z) (θ z z (κ (υ (TC.ao_ (α:=((List Tip)×Nat)×(Unit)) (rgs [(8,1),(50,22)]) (fun g=>[(50,.int .i64 ((g.1.2:Nat):Int))]) (fun g=>[ε 76 2 d2_ (.slice a103_1 v6.length c103_2) g.1.1]) (fun g=>σ) (fun g=>eq_ (fun q:(List Tip)×Nat=>Bh_ v6 v47 q.1 q.2) g.1=some r∧g.1.1.length=v6.length) (fun g=>eh_ (fun q:(List Tip)×Nat=>Bh_ v6 v47 q.1 q.2) g.1) ((v6,0),()) (δ [1] 1) z (by repeat (first|exact trivial|refine ⟨z,?_⟩)) ⟨hh,z⟩ (fun g2 j2 hg2=> ?_)))))))))
 obtain ⟨⟨l142,k144⟩,_⟩:=g2
 obtain ⟨hh,hn143⟩:=hg2
 try dsimp only at hn143 ⊢
 obtain ⟨z1,hh,hR1⟩:=eo_ hh
 dsimp only [Bh_]at hh
 refine η (i:=0) z (fun _ hb145 _=> ?_)
 refine ξ (ω z (OpVal.lss z z z) (κ (ν (TC.cD z hh (fun h146 hh=> ?_) (fun h146 hh=> ?_)))))
 ·refine ι (S.n (ν (υ (ξ (θ z z (θ z z (κ (ξ (TL.s z z (θ z z (TL.s z z (θ z z ?_))))))))))))
  obtain ⟨u61,hh⟩:=d6_ hh
  refine TL.isSl (i:=0) z (fun hs147 _ _=> ?_)
  refine ω z (af_ z ge_ fr_ z z hs147 (by omega)) (TL.isSl (i:=0) z (fun hs148 _ _=> ?_))
  refine ω z (a6_ z fh_ z hs148 (by omega)) (ω z (cr_ tz_ z ag9 z (q:=0) z d1_ (by omega) (by omega) z) (ω z (ad_ (.inl z) z) (ω z (a5_ z u9_ z) ?_)))
  obtain ⟨u66,hh⟩:=d6_ hh
  refine ω z (bw_ (l:=(nth l142 k144 tz_).out) (i:=v47.length) z u9_ z z (by omega) (by omega)) ?_
  obtain ⟨u67,hh⟩:=d6_ hh
  refine TL.isSl (i:=0) z (fun hs149 _ _=> ?_)
  refine ω z (af_ z ge_ fr_ z z hs149 (by omega)) (TL.isSl (i:=0) z (fun hs150 _ _=> ?_))
  refine ω z (a6_ z fh_ z hs150 (by omega)) ?_
  have hn151:(l142.set k144 (⟨(nth l142 k144 tz_).state,(((nth l142 k144 tz_).out).drop v47.length)⟩:Tip)).length=v6.length:=by rw [ls_];exact hn143
  refine ζ rfl (c4_ (u:= .string (bs (((nth l142 k144 tz_).out).drop v47.length))) tz_ (⟨(nth l142 k144 tz_).state,(((nth l142 k144 tz_).out).drop v47.length)⟩:Tip) rfl sz9 rfl rfl rfl rfl rfl (fun c hc=>by rw [List.mem_singleton.1 (show c∈[_]from hc)];rfl) d1_ (by decide) (by decide) (by omega) ?_)
  refine κ (π (TL.s z z (θ z z ?_)))
  obtain ⟨u72,hh⟩:=d6_ hh
  refine TL.isSl (i:=0) z (fun hs152 _ _=> ?_)
  refine ω z (af_ z ge_ fr_ z z hs152 (by omega)) (TL.isSl (i:=0) z (fun hs153 _ _=> ?_))
  refine ω z (a6_ z fh_ z hs153 (by omega)) (ω z (cr_ tz_ z ag9 z (q:=0) z d1_ (by omega) (by omega) z) ?_)
  obtain ⟨v75,u75,hh⟩:=eb_ hh
  rcases v75 with v75k|v75r
  ·dsimp only [ky_]at hh
   refine TL.bt_ z (mk_.l (C5_ u75)) z z we_ z z (fun τ154 hle154=> ?_)
   replace hh:=el_ hR1 hh
   obtain rfl:=so hh
   exact z
  dsimp only [ky_]at hh
  refine ζ z (cn_ (C5_ u75) z z z we_ z z z ?_)
  refine TL.nil (B.n (S.n (π (ω z (OpVal.succ z z z (by omega)) (θ z z (κ ?_))))))
  obtain ⟨hh,hlt155⟩:=ey_ hR1 hh
  exact lf (((l142.set k144 (⟨(nth l142 k144 tz_).state,(((nth l142 k144 tz_).out).drop v47.length)⟩:Tip)),(k144+1)),()) hlt155 ⟨hh,hn151⟩ (Sub.pre 1 z)
 refine TC.exit (S.x (S.x ?_))
 replace hh:=el_ hR1 hh
 refine Δ (S.n (ξ (ω z (ad_ (.inl z) z) (TL.s z z (ω z (ad_ (.inr z) z) (TL.s z z (κ ?_)))))))
 rw [←hn143]
 refine TC.a3_ d1_ (fun τ158 hle157 hr156=> ?_)
 have hr156b:=hr156.rv.big
 refine TC.ret ?_
 obtain rfl:=so hh
 exact rq [2,3] ⟨a103_1,c103_2,z,hr156,z⟩
def Cu_(x0:List Tip)(l117:T_1)(k120:Nat):Option ((T_1×Nat)⊕(T_1)):=
 ec_ (decide ((k120:Int)<((x0.length:Nat):Int))) (grd (-9223372036854775808≤((nth x0 k120 tz_).state)∧((nth x0 k120 tz_).state)≤9223372036854775807) (bnd (gz_ (⟨l117⟩:SB) (Lib.itoa ((nth x0 k120 tz_).state))) (fun v14=>bnd (iv_ (⟨v14.2.2.buf⟩:SB) (58:UInt8)) (fun v15=>grd (-9223372036854775808≤((((nth x0 k120 tz_).out).length:Nat):Int)∧((((nth x0 k120 tz_).out).length:Nat):Int)≤9223372036854775807) (bnd (gz_ (⟨v15.2.buf⟩:SB) (Lib.itoa ((((nth x0 k120 tz_).out).length:Nat):Int))) (fun v20=>bnd (iv_ (⟨v20.2.2.buf⟩:SB) (58:UInt8)) (fun v21=>bnd (gz_ (⟨v21.2.buf⟩:SB) ((nth x0 k120 tz_).out)) (fun v24=>nxt (v24.2.2.buf,(k120+1)))))))))) (fin (bnd (kp_ (⟨l117⟩:SB)) (fun v27=>some v27)))
def Gh_(x0:List Tip):Option (T_1):=
 eq_ (fun q:T_1×Nat=>Cu_ x0 q.1 q.2) (([]:T_1),0)
theorem Ig_{σ:d0_}{x0:List Tip}(hgl:GT2 σ 1 2)(f0_0:RS σ 2 d2_ (.slice a0_0 x0.length c0_0) x0){r:T_1}(hh:Gh_ x0=some r):
  Con prog 129 #[.slice a0_0 x0.length c0_0] σ [] (fd_ (.string (bs r)) σ):=by
 dsimp only [Gh_]at hh
 have f0_0b:=f0_0.rv.big
 refine Con.mk (n:=28) Tryz.func129 z z z (fun w0=> ?_)
 refine ξ (ω z (ad_ (.inr z) z) (κ (ξ (ζ z (OpOk.alloc z ze92 z z (fun b101=> ?_))))))
 refine TL.asH (H':=[φ b101 #[mi_ false b101,nl_] 92]) z (κ (ν (ξ (TL.s z z (ω z (lenC z ge_ z) (θ z z (κ (υ (TC.nilS 5 1 e5_ (TC.ao_ (α:=(T_1×Nat)×(Bool×(Option Addr)×Nat)) (rgs [(5,1),(8,19)]) (fun g=>[(8,.int .i64 ((g.1.2:Nat):Int))]) (fun g=>[φ b101 #[mi_ g.2.1 b101,.slice g.2.2.1 g.1.1.length g.2.2.2] 92,ε 5 1 e5_ (.slice g.2.2.1 g.1.1.length g.2.2.2) g.1.1]) (fun g=>σ) (fun g=>eq_ (fun q:T_1×Nat=>Cu_ x0 q.1 q.2) g.1=some r) (fun g=>eh_ (fun q:T_1×Nat=>Cu_ x0 q.1 q.2) g.1) ((([]:T_1),0),(false,none,0)) (δ [1] 2) z (by repeat (first|exact trivial|refine ⟨z,?_⟩)) hh (fun g1 j1 hg1=> ?_)))))))))))
 obtain ⟨⟨l117,k120⟩,⟨u115,a118,c119⟩⟩:=g1
 have hh:=hg1;clear hg1
 try dsimp only
 obtain ⟨z1,hh,hR1⟩:=eo_ hh
 dsimp only [Cu_]at hh
 refine η (i:=1) z (fun _ hb122 _=> ?_)
 refine ξ (ω z (OpVal.lss z z z) (κ (ν (TC.cD z hh (fun h123 hh=> ?_) (fun h123 hh=> ?_)))))
 ·refine ι (S.n (ν (υ (ξ (ω z (af_ z ge_ fr_ z z f0_0.rv.sl (by omega)) (ω z (a7_ tz_ z ni_ fr_ z f0_0 (by omega) (by omega)) (ζ z (OpOk.alloc z ik_ z z (fun b124=> ?_)))))))))
  refine ζ z (storeAll z fr_ z z z z z z ?_)
  refine κ (ξ (ω z (aa_ z gj_ z) (ω z (ab_ z ag3 z (i:=0) z z) ?_)))
  obtain ⟨u13,hh⟩:=d6_ hh
  refine ζ z (aw_ (no_ hgl u13) z z x0_ z z z ?_)
  refine ψ 2 z z (ψ 2 z z ?_)
  obtain ⟨v14,u14,hh⟩:=eb_ hh
  refine ζ z (OpOk.call (gh_ u14) z z zs_ z z z z ?_)
  rintro _ _ _ hle126 ⟨u126_1,a126_2,c126_3,rfl,rfl,rfl⟩
  refine κ (ξ (ψ 1 z z (ψ 1 z z ?_)))
  obtain ⟨v15,u15,hh⟩:=eb_ hh
  refine ζ z (OpOk.call (ia_ u15) z z t8_ z z z z ?_)
  rintro _ _ _ hle128 ⟨u128_1,a128_2,c128_3,rfl,rfl,rfl⟩
  refine κ (ξ (ω z (aa_ z fh_ z) (ω z (ab_ z ag9 z (i:=2) z z) (ω z (a5_ z u9_ z) ?_))))
  obtain ⟨u19,hh⟩:=d6_ hh
  refine ζ z (aw_ (no_ hgl u19) z z x0_ z z z ?_)
  refine ψ 1 z z (ψ 1 z z ?_)
  obtain ⟨v20,u20,hh⟩:=eb_ hh
  refine ζ z (OpOk.call (gh_ u20) z z zs_ z z z z ?_)
  rintro _ _ _ hle130 ⟨u130_1,a130_2,c130_3,rfl,rfl,rfl⟩
  refine κ (ξ (ψ 1 z z (ψ 1 z z ?_)))
  obtain ⟨v21,u21,hh⟩:=eb_ hh
  refine ζ z (OpOk.call (ia_ u21) z z t8_ z z z z ?_)
  rintro _ _ _ hle132 ⟨u132_1,a132_2,c132_3,rfl,rfl,rfl⟩
  refine κ (π (ω z (aa_ z fh_ z) (ω z (ab_ z ag9 z (i:=2) z z) (ψ 1 z z (ψ 1 z z ?_)))))
  obtain ⟨v24,u24,hh⟩:=eb_ hh
  refine ζ z (OpOk.call (gh_ u24) z z zs_ z z z z ?_)
  rintro _ _ _ hle134 ⟨u134_1,a134_2,c134_3,rfl,rfl,rfl⟩
  refine TL.nil (B.n (S.n (π (ω z (OpVal.succ z z z (by omega)) (θ z z (κ ?_))))))
  obtain ⟨hh,hlt136⟩:=ey_ hR1 hh
  exact lf ((v24.2.2.buf,(k120+1)),(u134_1,a134_2,c134_3)) hlt136 hh (δ [1,1] 2)
 refine TC.exit (S.x (S.x ?_))
 replace hh:=el_ hR1 hh
 refine Δ (S.n (ξ (ψ 1 z z (ψ 1 z z ?_))))
 obtain ⟨v27,u27,hh⟩:=eb_ hh
 refine ζ z (OpOk.call (kw_ u27) z z pf54 z z z z ?_)
 rintro _ _ _ hle137 ⟨rfl,rfl,rfl⟩
 refine ω z (ad_ (.inr z) z) (κ (TC.ret ?_))
 obtain rfl:=so hh
 exact rq [2] ⟨z,z,z⟩
def Ag_(x0:Maker)(x1:List Tip):Option (Int⊕(Int×Maker)):=
 bnd (Gh_ x1) (fun v3=>ec_ (x0.places.has v3) (some (.inr ((x0.places.get v3 0),x0))) (ec_ (decide (x0.most≤((x0.rows.length:Nat):Int))) (some (.inl 2)) (grd ((x0.rows.length+[x1].length) * 24≤140737488355328) (some (.inr (((x0.rows.length:Nat):Int),(⟨x0.arcs,x0.ends,x0.most,(x0.rows++[x1]),(x0.places.put v3 ((x0.rows.length:Nat):Int)),x0.q⟩:Maker)))))))
theorem C3_{σ:d0_}{x0:Maker}{z0_9:List (List Tip×(ea_ 2 d2_ d1_).P)}{z0_14:List (N_1×(ea_ 1 eI_ ep_).P)}{z0_18:List (T_2×(ea_ 1 eS_ es_).P)}{x1:List Tip}(hgl:GT2 σ 1 2)(f0_3:RZ σ (ea_ 8 d8_ ee_) (.slice a0_1 x0.arcs.length c0_2) x0.arcs)(f0_6:RZ σ (ea_ 1 eS_ es_) (.slice a0_4 x0.ends.length c0_5) x0.ends)(zf0_10:ZOk σ (ea_ 2 d2_ d1_) z0_9 x0.rows)(zf0_15:ZOk σ (ea_ 1 eI_ ep_) z0_14 x0.q.next)(zf0_19:ZOk σ (ea_ 1 eS_ es_) z0_18 x0.q.outs)(f1_0:RS σ 2 d2_ (.slice a1_0 x1.length c1_0) x1){r:Int⊕(Int×Maker)}(hh:Ag_ x0 x1=some r):
  mk_ prog 89 #[loc b0_0 0,.slice a1_0 x1.length c1_0] σ [φ b0_0 #[.slice a0_1 x0.arcs.length c0_2,.slice a0_4 x0.ends.length c0_5,.int .i64 x0.most,.slice a0_7 x0.rows.length c0_8,.map (some b0_11),.string (bs x0.q.front),.slice a0_12 x0.q.next.length c0_13,.slice a0_16 x0.q.outs.length c0_17,.slice a0_20 x0.q.fin.length c0_21,.slice a0_22 x0.q.tail.length c0_23] Eb0,ε 22 1 (ea_ 2 d2_ d1_).en (.slice a0_7 x0.rows.length c0_8) z0_9,Res.mapB h3_ io_ (some b0_11) x0.places,ε 86 1 (ea_ 1 eI_ ep_).en (.slice a0_12 x0.q.next.length c0_13) z0_14,ε 30 1 (ea_ 1 eS_ es_).en (.slice a0_16 x0.q.outs.length c0_17) z0_18,rs_ 4 e1_ a0_20 c0_21 x0.q.fin,rs_ 9 eS_ a0_22 c0_23 x0.q.tail] 142 (fun r:Int×Maker=>(fun v σ' H'=> ∃ao1 co2, ∃(zo3:List (List Tip×(ea_ 2 d2_ d1_).P)), ∃bo5,v= .int .i64 r.1∧ZOk σ' (ea_ 2 d2_ d1_) zo3 r.2.rows∧H'=[φ b0_0 #[.slice a0_1 x0.arcs.length c0_2,.slice a0_4 x0.ends.length c0_5,.int .i64 x0.most,.slice ao1 r.2.rows.length co2,.map (some bo5),.string (bs x0.q.front),.slice a0_12 x0.q.next.length c0_13,.slice a0_16 x0.q.outs.length c0_17,.slice a0_20 x0.q.fin.length c0_21,.slice a0_22 x0.q.tail.length c0_23] Eb0,ε 22 1 (ea_ 2 d2_ d1_).en (.slice ao1 r.2.rows.length co2) zo3,Res.mapB h3_ io_ (some bo5) r.2.places,ε 86 1 (ea_ 1 eI_ ep_).en (.slice a0_12 x0.q.next.length c0_13) z0_14,ε 30 1 (ea_ 1 eS_ es_).en (.slice a0_16 x0.q.outs.length c0_17) z0_18,rs_ 4 e1_ a0_20 c0_21 x0.q.fin,rs_ 9 eS_ a0_22 c0_23 x0.q.tail])) r:=by
 dsimp only [Ag_]at hh
 have f0_3b:=f0_3.big
 have f0_6b:=f0_6.big
 have zf0_10b:=zf0_10.length
 have zf0_15b:=zf0_15.length
 have zf0_19b:=zf0_19.length
 have f1_0b:=f1_0.rv.big
 refine mk_.mk (n:=52) Tryz.func89 z z z (fun w0=> ?_)
 refine ξ (θ z z (κ (ξ (TL.s z z ?_))))
 obtain ⟨v3,u3,hh⟩:=eb_ hh
 refine ζ z (aw_ (Ig_ hgl f1_0 u3) z z pf129 z z z ?_)
 refine ω z (ad_ (.inr z) z) (κ (ν (ξ (TL.l z z (ω z (ac_ z z) (ω z (aa_ z fo74_4 z) (ω z (ab_ z ag70 z (i:=0) z z) (ω z (ad_ (.inl z) z) (ω z (OpVal.of (lookB 0 (q:=v3) z underlying70 ze3 z (i:=2) z z (nx_ u9_)) (v':= .tuple #[.int .i64 (x0.places.get v3 0),.bool (x0.places.has v3)]) z) (ω z (a8_ (.inl z) z) (ω z (OpVal.extract z z z) (ω z (OpVal.extract z z z) (θ z z (TL.j z z (κ ?_)))))))))))))))
 refine ξ (TL.j z z (κ (TC.cB z hh (fun h112 hh=> ?_) (fun h112 hh=> ?_))))
 ·refine ξ (θ z z (θ z z (κ (TC.ret (S.r ?_)))))
  obtain rfl:=so hh
  exact ro [φ b0_0 #[.slice a0_1 x0.arcs.length c0_2,.slice a0_4 x0.ends.length c0_5,.int .i64 x0.most,.slice a0_7 x0.rows.length c0_8,.map (some b0_11),.string (bs x0.q.front),.slice a0_12 x0.q.next.length c0_13,.slice a0_16 x0.q.outs.length c0_17,.slice a0_20 x0.q.fin.length c0_21,.slice a0_22 x0.q.tail.length c0_23] Eb0,ε 22 1 (ea_ 2 d2_ d1_).en (.slice a0_7 x0.rows.length c0_8) z0_9,Res.mapB h3_ io_ (some b0_11) x0.places,ε 86 1 (ea_ 1 eI_ ep_).en (.slice a0_12 x0.q.next.length c0_13) z0_14,ε 30 1 (ea_ 1 eS_ es_).en (.slice a0_16 x0.q.outs.length c0_17) z0_18,rs_ 4 e1_ a0_20 c0_21 x0.q.fin,rs_ 9 eS_ a0_22 c0_23 x0.q.tail] z (RVs.tmp z RVs.nil) ⟨a0_7,c0_8,z0_9,b0_11,z,zf0_10,z⟩
 refine ι (S.n (ξ (TL.l z z (ω z (ac_ z z) (ω z (aa_ z s3_ z) (ω z (ab_ z ag72 z (i:=0) z z) (ω z (lenC z underlying72 z) (θ z z (κ (ν (ξ (θ z z (TL.l z z (ω z (ac_ z z) (ω z (aa_ z fo74_2 z) ?_)))))))))))))))
 refine ω z (ab_ z ag3 z (i:=0) z z) (ω z (OpVal.geq z z z) (κ (TC.cD z hh (fun h113 hh=> ?_) (fun h113 hh=> ?_))))
 ·refine π (ω z (an_ z pl142 t7_ z) (ω z (br_ (v:= .agg #[.int .i64 2]) z underlying142 z) (TL.panic z z z ?_)))
  obtain rfl:=so hh
  exact z
 refine ι (S.n (ξ (TL.l z z (ω z (ac_ z z) (ω z (aa_ z fo74_4 z) (ω z (ab_ z ag70 z (i:=0) z z) (ω z (ad_ (.inl z) z) (θ z z (ψ 2 z z (ζ z (updB v3 ((x0.rows.length:Nat):Int) z underlying70 z z z z (nx_ u9_) ?_)))))))))))
 refine κ (ξ (TL.l z z (TL.l z z (ω z (ac_ z z) (ω z (aa_ z s3_ z) (ω z (ab_ z ag72 z (i:=1) z z) (TL.s z z ?_)))))))
 have zf116:ZOk _ (ea_ 2 d2_ d1_) ([(x1,(a1_0,c1_0))]:List (List Tip×(ea_ 2 d2_ d1_).P)) [x1]:=ZOk.cons (f1_0) (ZOk.nil _ _)
 refine ζ z (litZ zf116 z underlying72 w3_ z ze22 z z z (by decide) (by decide) z (by decide) z (by decide) (fun a114 c115=> ?_))
 refine ψ 3 z z ?_
 obtain ⟨u48,hh⟩:=d6_ hh
 refine ζ z (bg_ (k:=(ea_ 2 d2_ d1_)) zf0_10 zf116 z z underlying72 w3_ by22 ze22 z z (by decide) z z z (.inr ⟨_,0,z⟩) (by simpa using u48) (by decide) (fun a118 c119 zf120=> ?_))
 refine ω z (ac_ z z) (ω z (aa_ z s3_ z) (ψ 3 z z (ζ z (ae_ z sz72 z z z z z ?_))))
 refine κ (ξ (θ z z (θ z z (κ (TC.ax_ (δ [7,7,7,7,7,6,6] 7) (TC.ret ?_))))))
 obtain rfl:=so hh
 exact ro [φ b0_0 #[.slice a0_1 x0.arcs.length c0_2,.slice a0_4 x0.ends.length c0_5,.int .i64 x0.most,.slice a118 ((x0.rows++[x1]).length) c119,.map (some b0_11),.string (bs x0.q.front),.slice a0_12 x0.q.next.length c0_13,.slice a0_16 x0.q.outs.length c0_17,.slice a0_20 x0.q.fin.length c0_21,.slice a0_22 x0.q.tail.length c0_23] Eb0,ε 22 1 (ea_ 2 d2_ d1_).en (.slice a118 (x0.rows++[x1]).length c119) (z0_9++([(x1,(a1_0,c1_0))]:List (List Tip×(ea_ 2 d2_ d1_).P))),Res.mapB h3_ io_ (some b0_11) (x0.places.put v3 ((x0.rows.length:Nat):Int)),ε 86 1 (ea_ 1 eI_ ep_).en (.slice a0_12 x0.q.next.length c0_13) z0_14,ε 30 1 (ea_ 1 eS_ es_).en (.slice a0_16 x0.q.outs.length c0_17) z0_18,rs_ 4 e1_ a0_20 c0_21 x0.q.fin,rs_ 9 eS_ a0_22 c0_23 x0.q.tail] z (RVs.tmp z RVs.nil) ⟨a118,c119,(z0_9++([(x1,(a1_0,c1_0))]:List (List Tip×(ea_ 2 d2_ d1_).P))),b0_11,z,zf120,z⟩
def Cs_(x1:List Tip)(k130:Nat)(x0:Maker)(k163:Nat):Option ((Bool×T_1×Nat)⊕((Bool×T_1×Nat)⊕(Int⊕(Bool×T_1)))):=
 nxt (true,((nth x1 k130 tz_).out++(nth (nth x0.ends (((nth x1 k130 tz_).state).toNat) []) k163 [])),(k163+1))
def Ak_(x0:Maker)(x1:List Tip)(k130:Nat)(t161:Bool)(s162:T_1)(k163:Nat):Option ((Bool×T_1×Nat)⊕((Bool×T_1×Nat)⊕(Int⊕(Bool×T_1)))):=
 ec_ (decide ((k163:Int)<(((nth x0.ends (((nth x1 k130 tz_).state).toNat) []).length:Nat):Int))) (grd (((nth x1 k130 tz_).out).length+(nth (nth x0.ends (((nth x1 k130 tz_).state).toNat) []) k163 []).length≤9223372036854775807) (ec_ t161 (ec_ (decide (((nth x1 k130 tz_).out++(nth (nth x0.ends (((nth x1 k130 tz_).state).toNat) []) k163 []))≠s162)) (fin (fin (some (.inl 12)))) (Cs_ x1 k130 x0 k163)) (Cs_ x1 k130 x0 k163))) (fin (nxt (t161,s162,(k130+1))))
def Ap_(x1:List Tip)(x0:Maker)(t128:Bool)(s129:T_1)(k130:Nat):Option ((Bool×T_1×Nat)⊕(Int⊕(Bool×T_1))):=
 ec_ (decide ((k130:Int)<((x1.length:Nat):Int))) (grd (0≤((nth x1 k130 tz_).state)∧((nth x1 k130 tz_).state)<(x0.ends.length:Int)) (eq_ (fun q:Bool×T_1×Nat=>Ak_ x0 x1 k130 q.1 q.2.1 q.2.2) (t128,s129,0))) (fin (bnd (D0_ s129) (fun v49=>ky_ v49 (fun v49k=>some (.inl v49k)) (fun v49r=>some (.inr (t128,s129))))))
def Ds_(x0:Maker)(x1:List Tip):Option (Int⊕(Bool×T_1)):=
 eq_ (fun q:Bool×T_1×Nat=>Ap_ x1 x0 q.1 q.2.1 q.2.2) (false,([]:T_1),0)
theorem Ft_{σ:d0_}{x0:Maker}{z0_9:List (List Tip×(ea_ 2 d2_ d1_).P)}{z0_14:List (N_1×(ea_ 1 eI_ ep_).P)}{z0_18:List (T_2×(ea_ 1 eS_ es_).P)}{x1:List Tip}(f0_3:RZ σ (ea_ 8 d8_ ee_) (.slice a0_1 x0.arcs.length c0_2) x0.arcs)(f0_6:RZ σ (ea_ 1 eS_ es_) (.slice a0_4 x0.ends.length c0_5) x0.ends)(zf0_10:ZOk σ (ea_ 2 d2_ d1_) z0_9 x0.rows)(zf0_15:ZOk σ (ea_ 1 eI_ ep_) z0_14 x0.q.next)(zf0_19:ZOk σ (ea_ 1 eS_ es_) z0_18 x0.q.outs)(f1_0:RS σ 2 d2_ (.slice a1_0 x1.length c1_0) x1){r:Int⊕(Bool×T_1)}(hh:Ds_ x0 x1=some r):
  mk_ prog 130 #[loc b0_0 0,.slice a1_0 x1.length c1_0] σ [φ b0_0 #[.slice a0_1 x0.arcs.length c0_2,.slice a0_4 x0.ends.length c0_5,.int .i64 x0.most,.slice a0_7 x0.rows.length c0_8,.map (some b0_11),.string (bs x0.q.front),.slice a0_12 x0.q.next.length c0_13,.slice a0_16 x0.q.outs.length c0_17,.slice a0_20 x0.q.fin.length c0_21,.slice a0_22 x0.q.tail.length c0_23] Eb0,ε 22 1 (ea_ 2 d2_ d1_).en (.slice a0_7 x0.rows.length c0_8) z0_9,Res.mapB h3_ io_ (some b0_11) x0.places,ε 86 1 (ea_ 1 eI_ ep_).en (.slice a0_12 x0.q.next.length c0_13) z0_14,ε 30 1 (ea_ 1 eS_ es_).en (.slice a0_16 x0.q.outs.length c0_17) z0_18,rs_ 4 e1_ a0_20 c0_21 x0.q.fin,rs_ 9 eS_ a0_22 c0_23 x0.q.tail] 142 (fun r:Bool×T_1=>(fun v σ' H'=>v= .tuple #[.bool r.1,.string (bs r.2)]∧σ=σ'∧H'=[φ b0_0 #[.slice a0_1 x0.arcs.length c0_2,.slice a0_4 x0.ends.length c0_5,.int .i64 x0.most,.slice a0_7 x0.rows.length c0_8,.map (some b0_11),.string (bs x0.q.front),.slice a0_12 x0.q.next.length c0_13,.slice a0_16 x0.q.outs.length c0_17,.slice a0_20 x0.q.fin.length c0_21,.slice a0_22 x0.q.tail.length c0_23] Eb0,ε 22 1 (ea_ 2 d2_ d1_).en (.slice a0_7 x0.rows.length c0_8) z0_9,Res.mapB h3_ io_ (some b0_11) x0.places,ε 86 1 (ea_ 1 eI_ ep_).en (.slice a0_12 x0.q.next.length c0_13) z0_14,ε 30 1 (ea_ 1 eS_ es_).en (.slice a0_16 x0.q.outs.length c0_17) z0_18,rs_ 4 e1_ a0_20 c0_21 x0.q.fin,rs_ 9 eS_ a0_22 c0_23 x0.q.tail])) r:=by
 dsimp only [Ds_]at hh
 have f0_3b:=f0_3.big
 have f0_6b:=f0_6.big
 have zf0_10b:=zf0_10.length
 have zf0_15b:=zf0_15.length
 have zf0_19b:=zf0_19.length
 have f1_0b:=f1_0.rv.big
 refine mk_.mk (n:=51) Tryz.func130 z z z (fun w0=> ?_)
 refine ξ (TL.j z z (ω z (ad_ (.inr z) z) (κ (ξ (TL.j z z (ω z (ad_ (.inr z) z) (κ (ν (ξ (TL.s z z (ω z (lenC z ge_ z) (θ z z (κ (υ (TC.ao_ (α:=(Bool×T_1×Nat)×(d0_)) (rgs [(6,2),(9,1),(11,2),(15,32)]) (fun g=>[(6,.bool g.1.1),(7,.string (bs g.1.2.1)),(15,.int .i64 ((g.1.2.2:Nat):Int))]) (fun g=>[φ b0_0 #[.slice a0_1 x0.arcs.length c0_2,.slice a0_4 x0.ends.length c0_5,.int .i64 x0.most,.slice a0_7 x0.rows.length c0_8,.map (some b0_11),.string (bs x0.q.front),.slice a0_12 x0.q.next.length c0_13,.slice a0_16 x0.q.outs.length c0_17,.slice a0_20 x0.q.fin.length c0_21,.slice a0_22 x0.q.tail.length c0_23] Eb0,ε 22 1 (ea_ 2 d2_ d1_).en (.slice a0_7 x0.rows.length c0_8) z0_9,Res.mapB h3_ io_ (some b0_11) x0.places,ε 86 1 (ea_ 1 eI_ ep_).en (.slice a0_12 x0.q.next.length c0_13) z0_14,ε 30 1 (ea_ 1 eS_ es_).en (.slice a0_16 x0.q.outs.length c0_17) z0_18,rs_ 4 e1_ a0_20 c0_21 x0.q.fin,rs_ 9 eS_ a0_22 c0_23 x0.q.tail]) (fun g=>g.2) (fun g=>eq_ (fun q:Bool×T_1×Nat=>Ap_ x1 x0 q.1 q.2.1 q.2.2) g.1=some r∧ZOk g.2 (ea_ 2 d2_ d1_) z0_9 x0.rows∧ZOk g.2 (ea_ 1 eI_ ep_) z0_14 x0.q.next∧ZOk g.2 (ea_ 1 eS_ es_) z0_18 x0.q.outs∧d0_.le σ g.2) (fun g=>eh_ (fun q:Bool×T_1×Nat=>Ap_ x1 x0 q.1 q.2.1 q.2.2) g.1) ((false,([]:T_1),0),σ) (δ [6,6,6,6,6,6,6] 7) z (by repeat (first|exact trivial|refine ⟨z,?_⟩)) ⟨hh,zf0_10,zf0_15,zf0_19,(d0_.le.refl _)⟩ (fun g1 j1 hg1=> ?_))))))))))))))))
 obtain ⟨⟨t128,s129,k130⟩,τ131⟩:=g1
 obtain ⟨hh,zf125,zf126,zf127,hle132⟩:=hg1
 try dsimp only at zf125
 try dsimp only at zf126
 try dsimp only at zf127
 dsimp only at hle132
 replace f0_6:=f0_6.mono hle132
 replace f1_0:=f1_0.mono hle132
 try dsimp only
 obtain ⟨z1,hh,hR1⟩:=eo_ hh
 dsimp only [Ap_]at hh
 have zf125b:=zf125.length
 have zf126b:=zf126.length
 have zf127b:=zf127.length
 refine η (i:=1) z (fun _ hb133 _=> ?_)
 refine η (i:=3) z (fun _ hb134 _=> ?_)
 refine η (i:=4) z (fun _ hb135 _=> ?_)
 refine η (i:=5) z (fun _ hb136 _=> ?_)
 refine η (i:=6) z (fun _ hb137 _=> ?_)
 refine ξ (ω z (OpVal.lss z z z) (κ (ν (TC.cD z hh (fun h138 hh=> ?_) (fun h138 hh=> ?_)))))
 ·refine ι (S.n (ν (υ (ξ (ω z (af_ z ge_ fr_ z z f1_0.rv.sl (by omega)) (ω z (a7_ tz_ z ni_ fr_ z f1_0 (by omega) (by omega)) (ζ z (OpOk.alloc z ik_ z z (fun b139=> ?_)))))))))
  refine ζ z (storeAll z fr_ z z z z z z ?_)
  refine κ (ν ?_)
  obtain ⟨u19,hh⟩:=d6_ hh
  refine TC.draw [] (by kernel_rfl) (Ψ 0 z (a0_ (.inl z) z) z (Ψ 1 z (ac_ z z) z (Ψ 2 z (aa_ z qb_ z) z (TA.b 3 z (ab_ z m4_ z (i:=1) z z) z (Ψ 4 z (aa_ z gj_ z) z (TA.b 5 z (ab_ z ag3 z (i:=0) z z) z (TA.b 6 z (OpVal.index z l4_ kn_ z z f0_6.isSl u19.1 u19.2) z ?_)))))))
  obtain ⟨p142,hk142,hg142⟩:=RZ.seg f0_6 (((nth x1 k130 tz_).state).toNat) (by omega)
  replace hk142:RS _ 1 eS_ (.slice p142.1 (nth x0.ends (((nth x1 k130 tz_).state).toNat) []).length p142.2) (nth x0.ends (((nth x1 k130 tz_).state).toNat) []):=hk142
  have hk142b:=hk142.rv.big
  refine TA.b 7 z (OpVal.of (as_ z kv_ z hg142 z) (v':= .slice p142.1 ((nth x0.ends (((nth x1 k130 tz_).state).toNat) []).length) p142.2) z) z (TA.b 8 z (lenC z gw_ z) z (Ψ 9 z (ai_ (.inl z) z) z (TA.dn (S.n (υ (TC.ao_ (α:=(Bool×T_1×Nat)×(d0_)) (rgs [(6,2),(11,2),(28,18)]) (fun g=>[(6,.bool g.1.1),(7,.string (bs g.1.2.1)),(28,.int .i64 ((g.1.2.2:Nat):Int))]) (fun g=>[φ b0_0 #[.slice a0_1 x0.arcs.length c0_2,.slice a0_4 x0.ends.length c0_5,.int .i64 x0.most,.slice a0_7 x0.rows.length c0_8,.map (some b0_11),.string (bs x0.q.front),.slice a0_12 x0.q.next.length c0_13,.slice a0_16 x0.q.outs.length c0_17,.slice a0_20 x0.q.fin.length c0_21,.slice a0_22 x0.q.tail.length c0_23] Eb0,ε 22 1 (ea_ 2 d2_ d1_).en (.slice a0_7 x0.rows.length c0_8) z0_9,Res.mapB h3_ io_ (some b0_11) x0.places,ε 86 1 (ea_ 1 eI_ ep_).en (.slice a0_12 x0.q.next.length c0_13) z0_14,ε 30 1 (ea_ 1 eS_ es_).en (.slice a0_16 x0.q.outs.length c0_17) z0_18,rs_ 4 e1_ a0_20 c0_21 x0.q.fin,rs_ 9 eS_ a0_22 c0_23 x0.q.tail,φ b139 #[.int .i64 ((nth x1 k130 tz_).state),.string (bs ((nth x1 k130 tz_).out))] 76]) (fun g=>g.2) (fun g=>eq_ (fun q:Bool×T_1×Nat=>Ak_ x0 x1 k130 q.1 q.2.1 q.2.2) g.1=some z1∧ZOk g.2 (ea_ 2 d2_ d1_) z0_9 x0.rows∧ZOk g.2 (ea_ 1 eI_ ep_) z0_14 x0.q.next∧ZOk g.2 (ea_ 1 eS_ es_) z0_18 x0.q.outs∧d0_.le τ131 g.2) (fun g=>eh_ (fun q:Bool×T_1×Nat=>Ak_ x0 x1 k130 q.1 q.2.1 q.2.2) g.1) ((t128,s129,0),τ131) (δ [7,7,7,7,7,7,7] 8) z (by repeat (first|exact trivial|refine ⟨z,?_⟩)) ⟨hh,zf125,zf126,zf127,(d0_.le.refl _)⟩ (fun g2 j2 hg2=> ?_)))))))
  obtain ⟨⟨t161,s162,k163⟩,τ164⟩:=g2
  obtain ⟨hh,zf158,zf159,zf160,hle165⟩:=hg2
  try dsimp only at zf158
  try dsimp only at zf159
  try dsimp only at zf160
  dsimp only at hle165
  replace hk142:=hk142.mono hle165
  try dsimp only
  obtain ⟨z2,hh,hR2⟩:=eo_ hh
  dsimp only [Ak_]at hh
  have zf158b:=zf158.length
  have zf159b:=zf159.length
  have zf160b:=zf160.length
  refine η (i:=1) z (fun _ hb166 _=> ?_)
  refine η (i:=3) z (fun _ hb167 _=> ?_)
  refine η (i:=4) z (fun _ hb168 _=> ?_)
  refine η (i:=5) z (fun _ hb169 _=> ?_)
  refine η (i:=6) z (fun _ hb170 _=> ?_)
  refine ξ (ω z (OpVal.lss z z z) (κ (ν (TC.cD z hh (fun h171 hh=> ?_) (fun h171 hh=> ?_)))))
  ·refine ι (S.n (ν (υ (ξ (ω z (af_ z gw_ sz9 z z hk142.rv.sl (by omega)) (ω z (al_ ([]:T_1) z ag9 z hk142 (by omega) z) (ω z (ad_ (.inr z) z) (κ (ξ (ω z (aa_ z fh_ z) (ω z (ab_ z ag9 z (i:=7) z z) (ω z (ad_ (.inl z) z) ?_))))))))))))
   obtain ⟨u30,hh⟩:=d6_ hh
   refine ω z (cl_ z z z u30) (ω z (ad_ (.inr z) z) (κ (TC.cutG (α:=(Unit)×(d0_)) (rgs [(36,8)]) (fun g=>[]) (fun g=>[φ b0_0 #[.slice a0_1 x0.arcs.length c0_2,.slice a0_4 x0.ends.length c0_5,.int .i64 x0.most,.slice a0_7 x0.rows.length c0_8,.map (some b0_11),.string (bs x0.q.front),.slice a0_12 x0.q.next.length c0_13,.slice a0_16 x0.q.outs.length c0_17,.slice a0_20 x0.q.fin.length c0_21,.slice a0_22 x0.q.tail.length c0_23] Eb0,ε 22 1 (ea_ 2 d2_ d1_).en (.slice a0_7 x0.rows.length c0_8) z0_9,Res.mapB h3_ io_ (some b0_11) x0.places,ε 86 1 (ea_ 1 eI_ ep_).en (.slice a0_12 x0.q.next.length c0_13) z0_14,ε 30 1 (ea_ 1 eS_ es_).en (.slice a0_16 x0.q.outs.length c0_17) z0_18,rs_ 4 e1_ a0_20 c0_21 x0.q.fin,rs_ 9 eS_ a0_22 c0_23 x0.q.tail,φ b139 #[.int .i64 ((nth x1 k130 tz_).state),.string (bs ((nth x1 k130 tz_).out))] 76]) (fun g=>g.2) (fun g=>Cs_ x1 k130 x0 k163=some z2∧ZOk g.2 (ea_ 2 d2_ d1_) z0_9 x0.rows∧ZOk g.2 (ea_ 1 eI_ ep_) z0_14 x0.q.next∧ZOk g.2 (ea_ 1 eS_ es_) z0_18 x0.q.outs∧d0_.le τ164 g.2) ?_ (fun g j hg=> ?_))))
   ·skip
    refine ξ (TL.j z z (TL.j z z (TL.split 37 z (fun h175=> ?_) (fun h175=> ?_))))
    ·replace hh:=ej_ h175 hh
     refine TL.g z (ad_ (.inl z) z) (TL.g z (ad_ (.inl z) z) (TL.g z (b3_ z z z) (ω z (ah_ z z z) (κ (TC.cD z hh (fun h176 hh=> ?_) (fun h176 hh=> ?_))))))
     ·refine π (ω z (an_ z pl142 t7_ z) (ω z (br_ (v:= .agg #[.int .i64 12]) z underlying142 z) (TL.panic z z z ?_)))
      replace hh:=el_ hR2 hh
      replace hh:=el_ hR1 hh
      obtain rfl:=so hh
      exact z
     exact ι (S.n (cf ((),τ164) ⟨hh,zf158,zf159,zf160,(d0_.le.refl _)⟩ (δ [7,7,7,7,7,7,7,7] 8)))
    replace hh:=ei_ h175 hh
    exact χ z (χ z (χ z (ω z (ag_ z z z) (κ (TC.f z (ι (S.n (cf ((),τ164) ⟨hh,zf158,zf159,zf160,(d0_.le.refl _)⟩ (δ [7,7,7,7,7,7,7,7] 8)))))))))
   skip
   obtain ⟨_,τ177⟩:=g
   obtain ⟨hh,zf172,zf173,zf174,hle178⟩:=hg
   try dsimp only at zf172
   try dsimp only at zf173
   try dsimp only at zf174
   dsimp only at hle178
   replace zf158:=zf158.mono hle178
   replace zf159:=zf159.mono hle178
   replace zf160:=zf160.mono hle178
   try dsimp only
   dsimp only [Cs_]at hh
   have zf172b:=zf172.length
   have zf173b:=zf173.length
   have zf174b:=zf174.length
   refine η (i:=1) z (fun _ hb179 _=> ?_)
   refine η (i:=3) z (fun _ hb180 _=> ?_)
   refine η (i:=4) z (fun _ hb181 _=> ?_)
   refine η (i:=5) z (fun _ hb182 _=> ?_)
   refine η (i:=6) z (fun _ hb183 _=> ?_)
   refine π (ω z (ad_ (.inl z) z) (TL.j z z (ω z (ad_ (.inr z) z) (TL.nil (B.n (S.n (π (ω z (OpVal.succ z z z (by omega)) (θ z z (κ ?_))))))))))
   obtain ⟨hh,hlt184⟩:=ey_ hR2 hh
   exact lf ((true,((nth x1 k130 tz_).out++(nth (nth x0.ends (((nth x1 k130 tz_).state).toNat) []) k163 [])),(k163+1)),τ177) hlt184 ⟨hh,zf172,zf173,zf174,(hle165.trans hle178)⟩ (δ [7,7,7,7,7,7,7,7] 8)
  refine TC.exit (S.x (S.x ?_))
  replace hh:=el_ hR2 hh
  refine Δ (B.n (S.n (π (ω z (OpVal.succ z z z (by omega)) (θ z z (κ ?_))))))
  obtain ⟨hh,hlt185⟩:=ey_ hR1 hh
  exact lf ((t161,s162,(k130+1)),τ164) hlt185 ⟨hh,zf158,zf159,zf160,(hle132.trans hle165)⟩ (δ [6,6,6,6,6,6,6] 7)
 refine TC.exit (S.x (S.x ?_))
 replace hh:=el_ hR1 hh
 refine Δ (S.n (ξ (ω z (ad_ (.inl z) z) ?_)))
 obtain ⟨v49,u49,hh⟩:=eb_ hh
 rcases v49 with v49k|v49r
 ·dsimp only [ky_]at hh
  refine TL.bt_ z (mk_.l (C5_ u49)) z z we_ z z (fun τ186 hle186=> ?_)
  obtain rfl:=so hh
  exact z
 dsimp only [ky_]at hh
 refine ζ z (cn_ (C5_ u49) z z z we_ z z z ?_)
 refine κ (ξ (TL.j z z (ω z (ad_ (.inl z) z) (TL.j z z (ω z (ad_ (.inr z) z) (κ (TC.back (TC.ret ?_))))))))
 obtain rfl:=so hh
 exact ro [φ b0_0 #[.slice a0_1 x0.arcs.length c0_2,.slice a0_4 x0.ends.length c0_5,.int .i64 x0.most,.slice a0_7 x0.rows.length c0_8,.map (some b0_11),.string (bs x0.q.front),.slice a0_12 x0.q.next.length c0_13,.slice a0_16 x0.q.outs.length c0_17,.slice a0_20 x0.q.fin.length c0_21,.slice a0_22 x0.q.tail.length c0_23] Eb0,ε 22 1 (ea_ 2 d2_ d1_).en (.slice a0_7 x0.rows.length c0_8) z0_9,Res.mapB h3_ io_ (some b0_11) x0.places,ε 86 1 (ea_ 1 eI_ ep_).en (.slice a0_12 x0.q.next.length c0_13) z0_14,ε 30 1 (ea_ 1 eS_ es_).en (.slice a0_16 x0.q.outs.length c0_17) z0_18,rs_ 4 e1_ a0_20 c0_21 x0.q.fin,rs_ 9 eS_ a0_22 c0_23 x0.q.tail] z (RVs.tmp z (RVs.tmp z RVs.nil)) ⟨z,z,z⟩
def Az_(k174:Nat)(l187:List Tip):Option (((List Tip)×Nat)⊕(((List Tip)×Nat)⊕((List Tip)))):=
 nxt (l187,(k174+1))
def Ca_(l171:List Tip)(k174:Nat)(x198:Tip):Option (((List Tip)×Nat)⊕(((List Tip)×Nat)⊕((List Tip)))):=
 grd ((l171.length+[x198].length) * 24≤140737488355328) (Az_ k174 (l171++[x198]))
def Ae_(x0:Maker)(x1:List Tip)(k136:Nat)(x2:UInt8)(l171:List Tip)(k174:Nat):Option (((List Tip)×Nat)⊕(((List Tip)×Nat)⊕((List Tip)))):=
 ec_ (decide ((k174:Int)<(((nth x0.arcs (((nth x1 k136 tz_).state).toNat) []).length:Nat):Int))) (ec_ (!(((nth (nth x0.arcs (((nth x1 k136 tz_).state).toNat) []) k174 az_).set).has x2.toNat)) (Az_ k174 l171) (grd (((nth x1 k136 tz_).out).length+((nth (nth x0.arcs (((nth x1 k136 tz_).state).toNat) []) k174 az_).out).length≤9223372036854775807) (ec_ ((nth (nth x0.arcs (((nth x1 k136 tz_).state).toNat) []) k174 az_).copy) (grd (((nth x1 k136 tz_).out++(nth (nth x0.arcs (((nth x1 k136 tz_).state).toNat) []) k174 az_).out).length+[x2].length≤9223372036854775807) (Ca_ l171 k174 (⟨(nth (nth x0.arcs (((nth x1 k136 tz_).state).toNat) []) k174 az_).to,(((nth x1 k136 tz_).out++(nth (nth x0.arcs (((nth x1 k136 tz_).state).toNat) []) k174 az_).out)++[x2])⟩:Tip))) (Ca_ l171 k174 (⟨(nth (nth x0.arcs (((nth x1 k136 tz_).state).toNat) []) k174 az_).to,((nth x1 k136 tz_).out++(nth (nth x0.arcs (((nth x1 k136 tz_).state).toNat) []) k174 az_).out)⟩:Tip))))) (fin (nxt (l171,(k136+1))))
def Aj_(x1:List Tip)(x0:Maker)(x2:UInt8)(l133:List Tip)(k136:Nat):Option (((List Tip)×Nat)⊕((List Tip))):=
 ec_ (decide ((k136:Int)<((x1.length:Nat):Int))) (grd (0≤((nth x1 k136 tz_).state)∧((nth x1 k136 tz_).state)<(x0.arcs.length:Int)) (eq_ (fun q:(List Tip)×Nat=>Ae_ x0 x1 k136 x2 q.1 q.2) (l133,0))) (fin (some l133))
def C0_(x0:Maker)(x1:List Tip)(x2:UInt8):Option ((List Tip)):=
 eq_ (fun q:(List Tip)×Nat=>Aj_ x1 x0 x2 q.1 q.2) (([]:List Tip),0)
theorem Gn_{σ:d0_}{x0:Maker}{z0_9:List (List Tip×(ea_ 2 d2_ d1_).P)}{z0_14:List (N_1×(ea_ 1 eI_ ep_).P)}{z0_18:List (T_2×(ea_ 1 eS_ es_).P)}{x1:List Tip}{x2:UInt8}(f0_3:RZ σ (ea_ 8 d8_ ee_) (.slice a0_1 x0.arcs.length c0_2) x0.arcs)(f0_6:RZ σ (ea_ 1 eS_ es_) (.slice a0_4 x0.ends.length c0_5) x0.ends)(zf0_10:ZOk σ (ea_ 2 d2_ d1_) z0_9 x0.rows)(zf0_15:ZOk σ (ea_ 1 eI_ ep_) z0_14 x0.q.next)(zf0_19:ZOk σ (ea_ 1 eS_ es_) z0_18 x0.q.outs)(f1_0:RS σ 2 d2_ (.slice a1_0 x1.length c1_0) x1){r:(List Tip)}(hh:C0_ x0 x1 x2=some r):
  Con prog 131 #[loc b0_0 0,.slice a1_0 x1.length c1_0,.int .u8 ((x2.toNat:Nat):Int)] σ [φ b0_0 #[.slice a0_1 x0.arcs.length c0_2,.slice a0_4 x0.ends.length c0_5,.int .i64 x0.most,.slice a0_7 x0.rows.length c0_8,.map (some b0_11),.string (bs x0.q.front),.slice a0_12 x0.q.next.length c0_13,.slice a0_16 x0.q.outs.length c0_17,.slice a0_20 x0.q.fin.length c0_21,.slice a0_22 x0.q.tail.length c0_23] Eb0,ε 22 1 (ea_ 2 d2_ d1_).en (.slice a0_7 x0.rows.length c0_8) z0_9,Res.mapB h3_ io_ (some b0_11) x0.places,ε 86 1 (ea_ 1 eI_ ep_).en (.slice a0_12 x0.q.next.length c0_13) z0_14,ε 30 1 (ea_ 1 eS_ es_).en (.slice a0_16 x0.q.outs.length c0_17) z0_18,rs_ 4 e1_ a0_20 c0_21 x0.q.fin,rs_ 9 eS_ a0_22 c0_23 x0.q.tail] (fun v σ' H'=> ∃a1 c1,v= .slice a1 r.length c1∧σ=σ'∧H'=[ε 76 2 d2_ (.slice a1 r.length c1) r,φ b0_0 #[.slice a0_1 x0.arcs.length c0_2,.slice a0_4 x0.ends.length c0_5,.int .i64 x0.most,.slice a0_7 x0.rows.length c0_8,.map (some b0_11),.string (bs x0.q.front),.slice a0_12 x0.q.next.length c0_13,.slice a0_16 x0.q.outs.length c0_17,.slice a0_20 x0.q.fin.length c0_21,.slice a0_22 x0.q.tail.length c0_23] Eb0,ε 22 1 (ea_ 2 d2_ d1_).en (.slice a0_7 x0.rows.length c0_8) z0_9,Res.mapB h3_ io_ (some b0_11) x0.places,ε 86 1 (ea_ 1 eI_ ep_).en (.slice a0_12 x0.q.next.length c0_13) z0_14,ε 30 1 (ea_ 1 eS_ es_).en (.slice a0_16 x0.q.outs.length c0_17) z0_18,rs_ 4 e1_ a0_20 c0_21 x0.q.fin,rs_ 9 eS_ a0_22 c0_23 x0.q.tail]):=by
 dsimp only [C0_]at hh
 have f0_3b:=f0_3.big
 have f0_6b:=f0_6.big
 have zf0_10b:=zf0_10.length
 have zf0_15b:=zf0_15.length
 have zf0_19b:=zf0_19.length
 have f1_0b:=f1_0.rv.big
 refine Con.mk (n:=61) Tryz.func131 z z z (fun w0=> ?_)
 refine ξ (TL.s z z (κ (ξ (TL.s z z (κ (ν (ξ (TL.s z z (ω z (lenC z ge_ z) (θ z z (κ (υ (TC.nilS 76 2 d2_ (TC.ao_ (α:=((List Tip)×Nat)×((Option Addr)×Nat×d0_)) (rgs [(7,1),(9,1),(11,2),(15,45)]) (fun g=>[(7,.slice g.2.1 g.1.1.length g.2.2.1),(15,.int .i64 ((g.1.2:Nat):Int))]) (fun g=>[φ b0_0 #[.slice a0_1 x0.arcs.length c0_2,.slice a0_4 x0.ends.length c0_5,.int .i64 x0.most,.slice a0_7 x0.rows.length c0_8,.map (some b0_11),.string (bs x0.q.front),.slice a0_12 x0.q.next.length c0_13,.slice a0_16 x0.q.outs.length c0_17,.slice a0_20 x0.q.fin.length c0_21,.slice a0_22 x0.q.tail.length c0_23] Eb0,ε 22 1 (ea_ 2 d2_ d1_).en (.slice a0_7 x0.rows.length c0_8) z0_9,Res.mapB h3_ io_ (some b0_11) x0.places,ε 86 1 (ea_ 1 eI_ ep_).en (.slice a0_12 x0.q.next.length c0_13) z0_14,ε 30 1 (ea_ 1 eS_ es_).en (.slice a0_16 x0.q.outs.length c0_17) z0_18,rs_ 4 e1_ a0_20 c0_21 x0.q.fin,rs_ 9 eS_ a0_22 c0_23 x0.q.tail,ε 76 2 d2_ (.slice g.2.1 g.1.1.length g.2.2.1) g.1.1]) (fun g=>g.2.2.2) (fun g=>eq_ (fun q:(List Tip)×Nat=>Aj_ x1 x0 x2 q.1 q.2) g.1=some r∧ZOk g.2.2.2 (ea_ 2 d2_ d1_) z0_9 x0.rows∧ZOk g.2.2.2 (ea_ 1 eI_ ep_) z0_14 x0.q.next∧ZOk g.2.2.2 (ea_ 1 eS_ es_) z0_18 x0.q.outs∧d0_.le σ g.2.2.2) (fun g=>eh_ (fun q:(List Tip)×Nat=>Aj_ x1 x0 x2 q.1 q.2) g.1) ((([]:List Tip),0),(none,0,σ)) (δ [7,7,7,7,7,7,7] 8) z (by repeat (first|exact trivial|refine ⟨z,?_⟩)) ⟨hh,zf0_10,zf0_15,zf0_19,(d0_.le.refl _)⟩ (fun g1 j1 hg1=> ?_)))))))))))))))
 obtain ⟨⟨l133,k136⟩,⟨a134,c135,τ138⟩⟩:=g1
 obtain ⟨hh,zf129,zf130,zf131,hle139⟩:=hg1
 try dsimp only at zf129
 try dsimp only at zf130
 try dsimp only at zf131
 dsimp only at hle139
 replace f0_3:=f0_3.mono hle139
 replace f1_0:=f1_0.mono hle139
 try dsimp only
 obtain ⟨z1,hh,hR1⟩:=eo_ hh
 dsimp only [Aj_]at hh
 have zf129b:=zf129.length
 have zf130b:=zf130.length
 have zf131b:=zf131.length
 refine η (i:=1) z (fun _ hb140 _=> ?_)
 refine η (i:=3) z (fun _ hb141 _=> ?_)
 refine η (i:=4) z (fun _ hb142 _=> ?_)
 refine η (i:=5) z (fun _ hb143 _=> ?_)
 refine η (i:=6) z (fun _ hb144 _=> ?_)
 refine η (i:=7) z (fun _ hb145 _=> ?_)
 refine ξ (ω z (OpVal.lss z z z) (κ (ν (TC.cD z hh (fun h146 hh=> ?_) (fun h146 hh=> ?_)))))
 ·refine ι (S.n (ν (υ (ξ (ω z (af_ z ge_ fr_ z z f1_0.rv.sl (by omega)) (ω z (a7_ tz_ z ni_ fr_ z f1_0 (by omega) (by omega)) (ζ z (OpOk.alloc z ik_ z z (fun b147=> ?_)))))))))
  refine ζ z (storeAll z fr_ z z z z z z ?_)
  refine κ (ν ?_)
  obtain ⟨u17,hh⟩:=d6_ hh
  refine TC.draw [] (by kernel_rfl) (Ψ 0 z (a0_ (.inl z) z) z (Ψ 1 z (ac_ z z) z (Ψ 2 z (aa_ z sq_ z) z (TA.b 3 z (ab_ z ag71 z (i:=1) z z) z (Ψ 4 z (aa_ z gj_ z) z (TA.b 5 z (ab_ z ag3 z (i:=0) z z) z (TA.b 6 z (OpVal.index z underlying71 u4_ z z f0_3.isSl u17.1 u17.2) z ?_)))))))
  obtain ⟨p150,hk150,hg150⟩:=RZ.seg f0_3 (((nth x1 k136 tz_).state).toNat) (by omega)
  replace hk150:RS _ 8 d8_ (.slice p150.1 (nth x0.arcs (((nth x1 k136 tz_).state).toNat) []).length p150.2) (nth x0.arcs (((nth x1 k136 tz_).state).toNat) []):=hk150
  have hk150b:=hk150.rv.big
  refine TA.b 7 z (OpVal.of (as_ z k0_ z hg150 z) (v':= .slice p150.1 ((nth x0.arcs (((nth x1 k136 tz_).state).toNat) []).length) p150.2) z) z (TA.b 8 z (lenC z h9_ z) z (Ψ 9 z (ai_ (.inl z) z) z (TA.dn (S.n (υ (TC.ao_ (α:=((List Tip)×Nat)×((Option Addr)×Nat×d0_)) (rgs [(7,1),(11,2),(28,31)]) (fun g=>[(7,.slice g.2.1 g.1.1.length g.2.2.1),(28,.int .i64 ((g.1.2:Nat):Int))]) (fun g=>[φ b0_0 #[.slice a0_1 x0.arcs.length c0_2,.slice a0_4 x0.ends.length c0_5,.int .i64 x0.most,.slice a0_7 x0.rows.length c0_8,.map (some b0_11),.string (bs x0.q.front),.slice a0_12 x0.q.next.length c0_13,.slice a0_16 x0.q.outs.length c0_17,.slice a0_20 x0.q.fin.length c0_21,.slice a0_22 x0.q.tail.length c0_23] Eb0,ε 22 1 (ea_ 2 d2_ d1_).en (.slice a0_7 x0.rows.length c0_8) z0_9,Res.mapB h3_ io_ (some b0_11) x0.places,ε 86 1 (ea_ 1 eI_ ep_).en (.slice a0_12 x0.q.next.length c0_13) z0_14,ε 30 1 (ea_ 1 eS_ es_).en (.slice a0_16 x0.q.outs.length c0_17) z0_18,rs_ 4 e1_ a0_20 c0_21 x0.q.fin,rs_ 9 eS_ a0_22 c0_23 x0.q.tail,ε 76 2 d2_ (.slice g.2.1 g.1.1.length g.2.2.1) g.1.1,φ b147 #[.int .i64 ((nth x1 k136 tz_).state),.string (bs ((nth x1 k136 tz_).out))] 76]) (fun g=>g.2.2.2) (fun g=>eq_ (fun q:(List Tip)×Nat=>Ae_ x0 x1 k136 x2 q.1 q.2) g.1=some z1∧ZOk g.2.2.2 (ea_ 2 d2_ d1_) z0_9 x0.rows∧ZOk g.2.2.2 (ea_ 1 eI_ ep_) z0_14 x0.q.next∧ZOk g.2.2.2 (ea_ 1 eS_ es_) z0_18 x0.q.outs∧d0_.le τ138 g.2.2.2) (fun g=>eh_ (fun q:(List Tip)×Nat=>Ae_ x0 x1 k136 x2 q.1 q.2) g.1) ((l133,0),(a134,c135,τ138)) (δ [8,8,8,8,8,8,8,8] 9) z (by repeat (first|exact trivial|refine ⟨z,?_⟩)) ⟨hh,zf129,zf130,zf131,(d0_.le.refl _)⟩ (fun g2 j2 hg2=> ?_)))))))
  obtain ⟨⟨l171,k174⟩,⟨a172,c173,τ175⟩⟩:=g2
  obtain ⟨hh,zf168,zf169,zf170,hle176⟩:=hg2
  try dsimp only at zf168
  try dsimp only at zf169
  try dsimp only at zf170
  dsimp only at hle176
  replace hk150:=hk150.mono hle176
  try dsimp only
  obtain ⟨z2,hh,hR2⟩:=eo_ hh
  dsimp only [Ae_]at hh
  have zf168b:=zf168.length
  have zf169b:=zf169.length
  have zf170b:=zf170.length
  refine η (i:=1) z (fun _ hb177 _=> ?_)
  refine η (i:=3) z (fun _ hb178 _=> ?_)
  refine η (i:=4) z (fun _ hb179 _=> ?_)
  refine η (i:=5) z (fun _ hb180 _=> ?_)
  refine η (i:=6) z (fun _ hb181 _=> ?_)
  refine η (i:=7) z (fun _ hb182 _=> ?_)
  refine ξ (ω z (OpVal.lss z z z) (κ (ν (TC.cD z hh (fun h183 hh=> ?_) (fun h183 hh=> ?_)))))
  ·refine ι (S.n (TC.cutG (α:=((List Tip))×((Option Addr)×Nat×d0_)) (rgs [(7,1),(11,2),(30,28)]) (fun g=>[(7,.slice g.2.1 g.1.length g.2.2.1)]) (fun g=>[φ b0_0 #[.slice a0_1 x0.arcs.length c0_2,.slice a0_4 x0.ends.length c0_5,.int .i64 x0.most,.slice a0_7 x0.rows.length c0_8,.map (some b0_11),.string (bs x0.q.front),.slice a0_12 x0.q.next.length c0_13,.slice a0_16 x0.q.outs.length c0_17,.slice a0_20 x0.q.fin.length c0_21,.slice a0_22 x0.q.tail.length c0_23] Eb0,ε 22 1 (ea_ 2 d2_ d1_).en (.slice a0_7 x0.rows.length c0_8) z0_9,Res.mapB h3_ io_ (some b0_11) x0.places,ε 86 1 (ea_ 1 eI_ ep_).en (.slice a0_12 x0.q.next.length c0_13) z0_14,ε 30 1 (ea_ 1 eS_ es_).en (.slice a0_16 x0.q.outs.length c0_17) z0_18,rs_ 4 e1_ a0_20 c0_21 x0.q.fin,rs_ 9 eS_ a0_22 c0_23 x0.q.tail,ε 76 2 d2_ (.slice g.2.1 g.1.length g.2.2.1) g.1,φ b147 #[.int .i64 ((nth x1 k136 tz_).state),.string (bs ((nth x1 k136 tz_).out))] 76]) (fun g=>g.2.2.2) (fun g=>Az_ k174 g.1=some z2∧ZOk g.2.2.2 (ea_ 2 d2_ d1_) z0_9 x0.rows∧ZOk g.2.2.2 (ea_ 1 eI_ ep_) z0_14 x0.q.next∧ZOk g.2.2.2 (ea_ 1 eS_ es_) z0_18 x0.q.outs∧d0_.le τ175 g.2.2.2) ?_ (fun g j hg=> ?_)))
   ·skip
    refine υ (ξ (ω z (af_ z h9_ g5_ z z hk150.rv.sl (by omega)) (ω z (a7_ az_ z r7_ g5_ z hk150 (by omega) (by omega)) (ζ z (OpOk.alloc z ki_ z z (fun b190=> ?_))))))
    refine ζ z (storeAll z g5_ z z z z z z ?_)
    refine κ (ν (ξ (ω z (aa_ z jp_ z) (ω z (bb_ z ag64 sz64 z (i:=0) z z z) (θ z z (ζ z (aw_ (has_con _ ((nth (nth x0.arcs (((nth x1 k136 tz_).state).toNat) []) k174 az_).set) x2.toNat (BSet.isOk _) (UInt8.toNat_lt _)) z z pf102 z z z ?_)))))))
    refine ω z (OpVal.not z z) (κ (TC.cB z hh (fun h192 hh=> ?_) (fun h192 hh=> ?_)))
    ·exact TC.exit (S.x (Δ (S.n (cf (l171,(a172,c173,τ175)) ⟨hh,zf168,zf169,zf170,(d0_.le.refl _)⟩ (δ [9,9,9,9,9,9,9,9,9] 9)))))
    refine ι (S.n (ξ (ω z (aa_ z i3_ z) (ω z (ab_ z ag3 z (i:=0) z z) (ω z (aa_ z fh_ z) (ω z (ab_ z ag9 z (i:=9) z z) (ω z (aa_ z it_ z) (ω z (ab_ z ag9 z (i:=0) z z) ?_))))))))
    obtain ⟨u37,hh⟩:=d6_ hh
    refine ω z (cl_ z z z u37) (ω z (an_ z wl_ ik_ z) (ζ z (OpOk.alloc z ik_ z z (fun b193=> ?_))))
    refine ζ z (storeAll z fr_ z z z z z z ?_)
    refine κ (TC.cutG (α:=(Tip)×(d0_)) (rgs [(45,9)]) (fun g=>[]) (fun g=>[φ b0_0 #[.slice a0_1 x0.arcs.length c0_2,.slice a0_4 x0.ends.length c0_5,.int .i64 x0.most,.slice a0_7 x0.rows.length c0_8,.map (some b0_11),.string (bs x0.q.front),.slice a0_12 x0.q.next.length c0_13,.slice a0_16 x0.q.outs.length c0_17,.slice a0_20 x0.q.fin.length c0_21,.slice a0_22 x0.q.tail.length c0_23] Eb0,ε 22 1 (ea_ 2 d2_ d1_).en (.slice a0_7 x0.rows.length c0_8) z0_9,Res.mapB h3_ io_ (some b0_11) x0.places,ε 86 1 (ea_ 1 eI_ ep_).en (.slice a0_12 x0.q.next.length c0_13) z0_14,ε 30 1 (ea_ 1 eS_ es_).en (.slice a0_16 x0.q.outs.length c0_17) z0_18,rs_ 4 e1_ a0_20 c0_21 x0.q.fin,rs_ 9 eS_ a0_22 c0_23 x0.q.tail,ε 76 2 d2_ (.slice a172 l171.length c173) l171,φ b147 #[.int .i64 ((nth x1 k136 tz_).state),.string (bs ((nth x1 k136 tz_).out))] 76,φ b193 #[.int .i64 g.1.state,.string (bs g.1.out)] 76]) (fun g=>g.2) (fun g=>Ca_ l171 k174 g.1=some z2∧ZOk g.2 (ea_ 2 d2_ d1_) z0_9 x0.rows∧ZOk g.2 (ea_ 1 eI_ ep_) z0_14 x0.q.next∧ZOk g.2 (ea_ 1 eS_ es_) z0_18 x0.q.outs∧d0_.le τ175 g.2) ?_ (fun g j hg=> ?_))
    ·skip
     refine ξ (ω z (aa_ z m1_ z) (ω z (ab_ z ag4 z (i:=1) z z) (κ (TC.cB z hh (fun h199 hh=> ?_) (fun h199 hh=> ?_)))))
     ·refine π (ω z (aa_ z fh_ z) (ω z (ab_ z ag9 z (i:=0) z z) (θ z z (ζ z (OpOk.lit (enc:=e5_) [x2] z th_ sz5 ze5 z z z gr_ (by decide) (by decide) (0:UInt8) z (by decide) z (by decide) gt_ (fun a200 c201=> ?_))))))
      refine TL.isSl (i:=0) z (fun hs203 _ _=> ?_)
      refine ω z (cj_ (l:=[x2]) z th_ underlying5 u9_ z hs203 (fun w hw=>rdb_row (q:=0) z hw)) ?_
      obtain ⟨u48,hh⟩:=d6_ hh
      refine ω z (cl_ z z z u48) (ω z (aa_ z fh_ z) (ψ 1 z z (ζ z (cd_ z sz9 z z z z z ?_))))
      exact κ (cf ((⟨(nth (nth x0.arcs (((nth x1 k136 tz_).state).toNat) []) k174 az_).to,(((nth x1 k136 tz_).out++(nth (nth x0.arcs (((nth x1 k136 tz_).state).toNat) []) k174 az_).out)++[x2])⟩:Tip),τ175) ⟨hh,zf168,zf169,zf170,(d0_.le.refl _)⟩ (δ [11,11,11,11,11,11,11,11,11] 10))
     exact ι (S.n (cf ((⟨(nth (nth x0.arcs (((nth x1 k136 tz_).state).toNat) []) k174 az_).to,((nth x1 k136 tz_).out++(nth (nth x0.arcs (((nth x1 k136 tz_).state).toNat) []) k174 az_).out)⟩:Tip),τ175) ⟨hh,zf168,zf169,zf170,(d0_.le.refl _)⟩ (δ [10,10,10,10,10,10,10,10,10] 10)))
    skip
    obtain ⟨x198,τ204⟩:=g
    obtain ⟨hh,zf195,zf196,zf197,hle205⟩:=hg
    try dsimp only at zf195
    try dsimp only at zf196
    try dsimp only at zf197
    dsimp only at hle205
    replace zf168:=zf168.mono hle205
    replace zf169:=zf169.mono hle205
    replace zf170:=zf170.mono hle205
    try dsimp only
    dsimp only [Ca_]at hh
    have zf195b:=zf195.length
    have zf196b:=zf196.length
    have zf197b:=zf197.length
    refine η (i:=1) z (fun _ hb206 _=> ?_)
    refine η (i:=3) z (fun _ hb207 _=> ?_)
    refine η (i:=4) z (fun _ hb208 _=> ?_)
    refine η (i:=5) z (fun _ hb209 _=> ?_)
    refine η (i:=6) z (fun _ hb210 _=> ?_)
    refine η (i:=7) z (fun _ hb211 _=> ?_)
    refine π (TL.s z z (ω z (ak_ z ni_ fr_ z (i:=9) z z) (ζ z (OpOk.lit (enc:=d2_) [x198] z ge_ fr_ ik_ z z z d1_ (by decide) (by decide) tz_ z (by decide) z (by decide) fc_ (fun a212 c213=> ?_)))))
    refine ψ 8 z z ?_
    obtain ⟨u54,hh⟩:=d6_ hh
    refine ζ z (av_ z z ge_ fr_ w4_ ik_ z z (by decide) z z z (.inr ⟨_,0,z⟩) (by simpa using u54) (by decide) (fun a215 c216=> ?_))
    exact TL.s z z (TL.nil (B.n (S.n (cf ((l171++[x198]),(a215,c216,τ204)) ⟨hh,zf195,zf196,zf197,hle205⟩ (δ [9,1,9,9,9,9,9,9,9] 9)))))
   skip
   obtain ⟨l187,⟨a188,c189,τ217⟩⟩:=g
   obtain ⟨hh,zf184,zf185,zf186,hle218⟩:=hg
   try dsimp only at zf184
   try dsimp only at zf185
   try dsimp only at zf186
   dsimp only at hle218
   replace zf168:=zf168.mono hle218
   replace zf169:=zf169.mono hle218
   replace zf170:=zf170.mono hle218
   try dsimp only
   dsimp only [Az_]at hh
   have zf184b:=zf184.length
   have zf185b:=zf185.length
   have zf186b:=zf186.length
   refine η (i:=1) z (fun _ hb219 _=> ?_)
   refine η (i:=3) z (fun _ hb220 _=> ?_)
   refine η (i:=4) z (fun _ hb221 _=> ?_)
   refine η (i:=5) z (fun _ hb222 _=> ?_)
   refine η (i:=6) z (fun _ hb223 _=> ?_)
   refine η (i:=7) z (fun _ hb224 _=> ?_)
   refine π (ω z (OpVal.succ z z z (by omega)) (θ z z (κ ?_)))
   obtain ⟨hh,hlt225⟩:=ey_ hR2 hh
   exact lf ((l187,(k174+1)),(a188,c189,τ217)) hlt225 ⟨hh,zf184,zf185,zf186,(hle176.trans hle218)⟩ (δ [8,8,8,8,8,8,8,8,8] 9)
  refine TC.exit (S.x (S.x ?_))
  replace hh:=el_ hR2 hh
  refine Δ (B.n (S.n (π (ω z (OpVal.succ z z z (by omega)) (θ z z (κ ?_))))))
  obtain ⟨hh,hlt226⟩:=ey_ hR1 hh
  exact lf ((l171,(k136+1)),(a172,c173,τ175)) hlt226 ⟨hh,zf168,zf169,zf170,(hle139.trans hle176)⟩ (δ [7,7,7,7,7,7,7,7] 8)
 refine TC.exit (S.x (S.x ?_))
 replace hh:=el_ hR1 hh
 refine Δ (S.n (ξ (TL.s z z (TL.s z z (κ (TC.ax_ (δ [6,6,6,6,6,6,6,7] 8) (TC.back (TC.ret ?_))))))))
 obtain rfl:=so hh
 exact ro [ε 76 2 d2_ (.slice a134 l133.length c135) l133,φ b0_0 #[.slice a0_1 x0.arcs.length c0_2,.slice a0_4 x0.ends.length c0_5,.int .i64 x0.most,.slice a0_7 x0.rows.length c0_8,.map (some b0_11),.string (bs x0.q.front),.slice a0_12 x0.q.next.length c0_13,.slice a0_16 x0.q.outs.length c0_17,.slice a0_20 x0.q.fin.length c0_21,.slice a0_22 x0.q.tail.length c0_23] Eb0,ε 22 1 (ea_ 2 d2_ d1_).en (.slice a0_7 x0.rows.length c0_8) z0_9,Res.mapB h3_ io_ (some b0_11) x0.places,ε 86 1 (ea_ 1 eI_ ep_).en (.slice a0_12 x0.q.next.length c0_13) z0_14,ε 30 1 (ea_ 1 eS_ es_).en (.slice a0_16 x0.q.outs.length c0_17) z0_18,rs_ 4 e1_ a0_20 c0_21 x0.q.fin,rs_ 9 eS_ a0_22 c0_23 x0.q.tail] z (RVs.tmp z RVs.nil) ⟨a134,c135,z,z,z⟩
def B2_(k206:Nat)(l218:List (List Tip))(m224:FM T_1 Int)(l228:N_1)(l230:T_2):Option (((List (List Tip))×(FM T_1 Int)×N_1×T_2×Nat)⊕(Int⊕(Maker))):=
 nxt (l218,m224,l228,l230,(k206+1))
def Am_(x0:Maker)(x1:Int)(v11r:Bool×T_1)(l192:List (List Tip))(m198:FM T_1 Int)(l202:N_1)(l204:T_2)(k206:Nat):Option (((List (List Tip))×(FM T_1 Int)×N_1×T_2×Nat)⊕(Int⊕(Maker))):=
 ec_ (decide ((k206:Int)<256)) (grd (k206<l202.length) (bnd (C0_ (⟨x0.arcs,x0.ends,x0.most,l192,m198,x0.q⟩:Maker) (nth x0.rows x1.toNat []) (hn_ (k206:Int))) (fun v33=>ec_ (decide (0<((v33.length:Nat):Int))) (bnd (E0_ v33) (fun v41=>ky_ v41 (fun v41k=>fin (some (.inl v41k))) (fun v41r=>grd (k206<l204.length) (bnd (Ag_ (⟨x0.arcs,x0.ends,x0.most,l192,m198,x0.q⟩:Maker) v41r.2) (fun v52=>ky_ v52 (fun v52k=>fin (some (.inl v52k))) (fun v52r=>grd (k206<(l202.set k206 (-1)).length) (B2_ k206 v52r.2.rows v52r.2.places ((l202.set k206 (-1)).set k206 v52r.1) (l204.set k206 v41r.1)))))))) (B2_ k206 l192 m198 (l202.set k206 (-1)) l204)))) (fin (grd ((x0.q.next.length+[l202].length) * 24≤140737488355328) (grd ((x0.q.outs.length+[l204].length) * 24≤140737488355328) (grd ((x0.q.fin.length+[v11r.1].length) * 1≤140737488355328) (grd ((x0.q.tail.length+[v11r.2].length) * 16≤140737488355328) (some (.inr (⟨x0.arcs,x0.ends,x0.most,l192,m198,(⟨x0.q.front,(x0.q.next++[l202]),(x0.q.outs++[l204]),(x0.q.fin++[v11r.1]),(x0.q.tail++[v11r.2])⟩:Seq)⟩:Maker))))))))
def Di_(x0:Maker)(x1:Int)(v11r:Bool×T_1):Option (Int⊕(Maker)):=
 eq_ (fun q:(List (List Tip))×(FM T_1 Int)×N_1×T_2×Nat=>Am_ x0 x1 v11r q.1 q.2.1 q.2.2.1 q.2.2.2.1 q.2.2.2.2) (x0.rows,x0.places,(replicate 256 (0:Int)),(replicate 256 ([]:T_1)),0)
def Eg_(x0:Maker)(x1:Int):Option (Int⊕(Maker)):=
 grd (0≤x1∧x1<(x0.rows.length:Int)) (bnd (Ds_ x0 (nth x0.rows x1.toNat [])) (fun v11=>ky_ v11 (fun v11k=>some (.inl v11k)) (fun v11r=>Di_ x0 x1 v11r)))
theorem F7_{σ:d0_}{x0:Maker}{z0_9:List (List Tip×(ea_ 2 d2_ d1_).P)}{z0_14:List (N_1×(ea_ 1 eI_ ep_).P)}{z0_18:List (T_2×(ea_ 1 eS_ es_).P)}{x1:Int}(hgl:GT2 σ 1 2)(f0_3:RZ σ (ea_ 8 d8_ ee_) (.slice a0_1 x0.arcs.length c0_2) x0.arcs)(f0_6:RZ σ (ea_ 1 eS_ es_) (.slice a0_4 x0.ends.length c0_5) x0.ends)(zf0_10:ZOk σ (ea_ 2 d2_ d1_) z0_9 x0.rows)(zf0_15:ZOk σ (ea_ 1 eI_ ep_) z0_14 x0.q.next)(zf0_19:ZOk σ (ea_ 1 eS_ es_) z0_18 x0.q.outs){r:Int⊕(Maker)}(hh:Eg_ x0 x1=some r):
  mk_ prog 90 #[loc b0_0 0,.int .i64 x1] σ [φ b0_0 #[.slice a0_1 x0.arcs.length c0_2,.slice a0_4 x0.ends.length c0_5,.int .i64 x0.most,.slice a0_7 x0.rows.length c0_8,.map (some b0_11),.string (bs x0.q.front),.slice a0_12 x0.q.next.length c0_13,.slice a0_16 x0.q.outs.length c0_17,.slice a0_20 x0.q.fin.length c0_21,.slice a0_22 x0.q.tail.length c0_23] Eb0,ε 22 1 (ea_ 2 d2_ d1_).en (.slice a0_7 x0.rows.length c0_8) z0_9,Res.mapB h3_ io_ (some b0_11) x0.places,ε 86 1 (ea_ 1 eI_ ep_).en (.slice a0_12 x0.q.next.length c0_13) z0_14,ε 30 1 (ea_ 1 eS_ es_).en (.slice a0_16 x0.q.outs.length c0_17) z0_18,rs_ 4 e1_ a0_20 c0_21 x0.q.fin,rs_ 9 eS_ a0_22 c0_23 x0.q.tail] 142 (fun r:Maker=>(fun v σ' H'=> ∃ao1 co2, ∃(zo3:List (List Tip×(ea_ 2 d2_ d1_).P)), ∃bo5 ao6 co7, ∃(zo8:List (N_1×(ea_ 1 eI_ ep_).P)), ∃ao10 co11, ∃(zo12:List (T_2×(ea_ 1 eS_ es_).P)), ∃ao14 co15 ao16 co17,v= .tuple #[]∧ZOk σ' (ea_ 2 d2_ d1_) zo3 r.rows∧ZOk σ' (ea_ 1 eI_ ep_) zo8 r.q.next∧ZOk σ' (ea_ 1 eS_ es_) zo12 r.q.outs∧H'=[φ b0_0 #[.slice a0_1 x0.arcs.length c0_2,.slice a0_4 x0.ends.length c0_5,.int .i64 x0.most,.slice ao1 r.rows.length co2,.map (some bo5),.string (bs x0.q.front),.slice ao6 r.q.next.length co7,.slice ao10 r.q.outs.length co11,.slice ao14 r.q.fin.length co15,.slice ao16 r.q.tail.length co17] Eb0,ε 22 1 (ea_ 2 d2_ d1_).en (.slice ao1 r.rows.length co2) zo3,Res.mapB h3_ io_ (some bo5) r.places,ε 86 1 (ea_ 1 eI_ ep_).en (.slice ao6 r.q.next.length co7) zo8,ε 30 1 (ea_ 1 eS_ es_).en (.slice ao10 r.q.outs.length co11) zo12,rs_ 4 e1_ ao14 co15 r.q.fin,rs_ 9 eS_ ao16 co17 r.q.tail])) r:=by
 dsimp only [Eg_]at hh
 have f0_3b:=f0_3.big
 have f0_6b:=f0_6.big
 have zf0_10b:=zf0_10.length
 have zf0_15b:=zf0_15.length
 have zf0_19b:=zf0_19.length
 refine mk_.mk (n:=103) Tryz.func90 z z z (fun w0=> ?_)
 refine TC.bz_ (ξ (TL.l z z (ω z (ac_ z z) (ω z (aa_ z s3_ z) (ω z (ab_ z ag72 z (i:=0) z z) (θ z z ?_))))))
 obtain ⟨u6,hh⟩:=d6_ hh
 refine TL.isSl (i:=1) z (fun hs116 _ _=> ?_)
 refine ω z (OpVal.index z underlying72 w3_ z z (zf0_10.isSl hs116) u6.1 u6.2) ?_
 obtain ⟨p117,hp117⟩: ∃p,p=(nth z0_9 x1.toNat ((ea_ 2 d2_ d1_).d,(ea_ 2 d2_ d1_).dp)).2:=⟨_,rfl⟩
 have hk117:RS σ 2 d2_ (.slice p117.1 (nth x0.rows x1.toNat []).length p117.2) (nth x0.rows x1.toNat []):=by rw [hp117];exact (zf0_10.at (by omega)).2
 refine ω z (OpVal.of (hp117▸dw_ zf0_10 z jv_ z (q:=1) z (by omega) z) (v':= .slice p117.1 ((nth x0.rows x1.toNat []).length) p117.2) z) (TL.s z z (κ (ξ (TL.l z z (TL.s z z (ψ 6 z z (ψ 6 z z (ψ 6 z z (ψ 6 z z (ψ 6 z z (ψ 6 z z (ψ 6 z z ?_))))))))))))
 obtain ⟨v11,u11,hh⟩:=eb_ hh
 rcases v11 with v11k|v11r
 ·dsimp only [ky_]at hh
  refine TL.bt_ z (mk_.l (Ft_ (x0:=x0) f0_3 f0_6 zf0_10 zf0_15 zf0_19 hk117 u11)) z z pf130 z z (fun τ118 hle118=> ?_)
  replace f0_3:=f0_3.mono hle118
  replace f0_6:=f0_6.mono hle118
  replace zf0_10:=zf0_10.mono hle118
  replace zf0_15:=zf0_15.mono hle118
  replace zf0_19:=zf0_19.mono hle118
  replace hgl:=hgl.mono hle118
  replace hk117:=hk117.mono hle118
  obtain rfl:=so hh
  exact ⟨_,Sub.pre 0 z,z⟩
 dsimp only [ky_]at hh
 refine ζ z (b6_ (Ft_ (x0:=x0) f0_3 f0_6 zf0_10 zf0_15 zf0_19 hk117 u11) z z pf130 z z z z ?_)
 rintro _ _ _ hle119 ⟨rfl,rfl,rfl⟩
 refine ω z (a8_ (.inl z) z) (ω z (OpVal.extract z z z) (ω z (OpVal.extract z z z) (TL.j z z (ω z (ad_ (.inr z) z) (κ (TC.cutG (α:=(Unit)×((Option Addr)×Nat×(Option Addr)×Nat×d0_)) [7,8,24,25] (fun g=>[(7,.slice g.2.1 ((replicate 256 (0:Int)).length) g.2.2.1),(8,.slice g.2.2.2.1 ((replicate 256 ([]:T_1)).length) g.2.2.2.2.1)]) (fun g=>[φ b0_0 #[.slice a0_1 x0.arcs.length c0_2,.slice a0_4 x0.ends.length c0_5,.int .i64 x0.most,.slice a0_7 x0.rows.length c0_8,.map (some b0_11),.string (bs x0.q.front),.slice a0_12 x0.q.next.length c0_13,.slice a0_16 x0.q.outs.length c0_17,.slice a0_20 x0.q.fin.length c0_21,.slice a0_22 x0.q.tail.length c0_23] Eb0,ε 22 1 (ea_ 2 d2_ d1_).en (.slice a0_7 x0.rows.length c0_8) z0_9,Res.mapB h3_ io_ (some b0_11) x0.places,ε 86 1 (ea_ 1 eI_ ep_).en (.slice a0_12 x0.q.next.length c0_13) z0_14,ε 30 1 (ea_ 1 eS_ es_).en (.slice a0_16 x0.q.outs.length c0_17) z0_18,rs_ 4 e1_ a0_20 c0_21 x0.q.fin,rs_ 9 eS_ a0_22 c0_23 x0.q.tail,ε 3 1 eI_ (.slice g.2.1 (replicate 256 (0:Int)).length g.2.2.1) (replicate 256 (0:Int)),ε 9 1 eS_ (.slice g.2.2.2.1 (replicate 256 ([]:T_1)).length g.2.2.2.2.1) (replicate 256 ([]:T_1))]) (fun g=>g.2.2.2.2.2) (fun g=>Di_ x0 x1 v11r=some r∧ZOk g.2.2.2.2.2 (ea_ 2 d2_ d1_) z0_9 x0.rows∧ZOk g.2.2.2.2.2 (ea_ 1 eI_ ep_) z0_14 x0.q.next∧ZOk g.2.2.2.2.2 (ea_ 1 eS_ es_) z0_18 x0.q.outs∧d0_.le σ g.2.2.2.2.2) ?_ (fun g j hg=> ?_)))))))
 ·skip
  refine TC.draw [] (by kernel_rfl) (TA.actN [0,1] (by kernel_rfl) (an z z (a2_ (m:=256) (enc:=eI_) (0:Int) z e2_ sz3 by3 ze3 z z z z (by omega) (by decide) ep_ (by decide) z i2_ (fun a135 c136=>(k1 ?_))) (an z z (a2_ (m:=256) (enc:=eS_) ([]:T_1) z gw_ sz9 by9 ze9 z z z z (by omega) (by decide) es_ (by decide) z pn_ (fun a138 c139=>(k1 ?_))) (True.intro))))
  ·skip
   refine Ψ 2 z (aj_ (.inr z) z) z (TA.ac 1 z (a2_ (m:=256) (enc:=eS_) ([]:T_1) z gw_ sz9 by9 ze9 z z z z (by omega) (by decide) es_ (by decide) z pn_ (fun a141 c142=>(k2 ?_))))
   exact Ψ 3 z (aj_ (.inr z) z) z (TA.dn (S.n (cf ((),(a135,c136,a141,c142,σ)) ⟨hh,zf0_10,zf0_15,zf0_19,(d0_.le.refl _)⟩ (δ [1,8,8,8,8,8,8,8] 9))))
  skip
  refine TA.ac 0 z (a2_ (m:=256) (enc:=eI_) (0:Int) z e2_ sz3 by3 ze3 z z z z (by omega) (by decide) ep_ (by decide) z i2_ (fun a144 c145=>(k2 ?_)))
  exact Ψ 2 z (aj_ (.inr z) z) z (Ψ 3 z (aj_ (.inr z) z) z (TA.dn (S.n (cf ((),(a144,c145,a138,c139,σ)) ⟨hh,zf0_10,zf0_15,zf0_19,(d0_.le.refl _)⟩ (δ [1,1,8,8,8,8,8,8,8] 9)))))
 skip
 obtain ⟨_,⟨a124,c125,a127,c128,τ147⟩⟩:=g
 obtain ⟨hh,zf120,zf121,zf122,hle148⟩:=hg
 try dsimp only at zf120
 try dsimp only at zf121
 try dsimp only at zf122
 dsimp only at hle148
 replace f0_3:=f0_3.mono hle148
 replace f0_6:=f0_6.mono hle148
 replace hgl:=hgl.mono hle148
 replace hk117:=hk117.mono hle148
 try dsimp only
 dsimp only [Di_]at hh
 have zf120b:=zf120.length
 have zf121b:=zf121.length
 have zf122b:=zf122.length
 refine η (i:=1) z (fun _ hb149 _=> ?_)
 refine η (i:=3) z (fun _ hb150 _=> ?_)
 refine η (i:=4) z (fun _ hb151 _=> ?_)
 refine η (i:=5) z (fun _ hb152 _=> ?_)
 refine η (i:=6) z (fun _ hb153 _=> ?_)
 refine η (i:=7) z (fun _ hb154 _=> ?_)
 refine η (i:=8) z (fun _ hb155 _=> ?_)
 refine ν (ξ (θ z z (κ (υ (TC.ao_ (α:=((List (List Tip))×(FM T_1 Int)×N_1×T_2×Nat)×((Option Addr)×Nat×(List (List Tip×(ea_ 2 d2_ d1_).P))×Nat×d0_)) (rgs [(9,2),(26,29)]) (fun g=>[(26,.int .i64 ((g.1.2.2.2.2:Nat):Int))]) (fun g=>[φ b0_0 #[.slice a0_1 x0.arcs.length c0_2,.slice a0_4 x0.ends.length c0_5,.int .i64 x0.most,.slice g.2.1 g.1.1.length g.2.2.1,.map (some g.2.2.2.2.1),.string (bs x0.q.front),.slice a0_12 x0.q.next.length c0_13,.slice a0_16 x0.q.outs.length c0_17,.slice a0_20 x0.q.fin.length c0_21,.slice a0_22 x0.q.tail.length c0_23] Eb0,ε 22 1 (ea_ 2 d2_ d1_).en (.slice g.2.1 g.1.1.length g.2.2.1) g.2.2.2.1,Res.mapB h3_ io_ (some g.2.2.2.2.1) g.1.2.1,ε 86 1 (ea_ 1 eI_ ep_).en (.slice a0_12 x0.q.next.length c0_13) z0_14,ε 30 1 (ea_ 1 eS_ es_).en (.slice a0_16 x0.q.outs.length c0_17) z0_18,rs_ 4 e1_ a0_20 c0_21 x0.q.fin,rs_ 9 eS_ a0_22 c0_23 x0.q.tail,ε 3 1 eI_ (.slice a124 (replicate 256 (0:Int)).length c125) g.1.2.2.1,ε 9 1 eS_ (.slice a127 (replicate 256 ([]:T_1)).length c128) g.1.2.2.2.1]) (fun g=>g.2.2.2.2.2) (fun g=>eq_ (fun q:(List (List Tip))×(FM T_1 Int)×N_1×T_2×Nat=>Am_ x0 x1 v11r q.1 q.2.1 q.2.2.1 q.2.2.2.1 q.2.2.2.2) g.1=some r∧ZOk g.2.2.2.2.2 (ea_ 2 d2_ d1_) g.2.2.2.1 g.1.1∧ZOk g.2.2.2.2.2 (ea_ 1 eI_ ep_) z0_14 x0.q.next∧ZOk g.2.2.2.2.2 (ea_ 1 eS_ es_) z0_18 x0.q.outs∧g.1.2.2.1.length=(replicate 256 (0:Int)).length∧g.1.2.2.2.1.length=(replicate 256 ([]:T_1)).length∧d0_.le τ147 g.2.2.2.2.2) (fun g=>eh_ (fun q:(List (List Tip))×(FM T_1 Int)×N_1×T_2×Nat=>Am_ x0 x1 v11r q.1 q.2.1 q.2.2.1 q.2.2.2.1 q.2.2.2.2) g.1) ((x0.rows,x0.places,(replicate 256 (0:Int)),(replicate 256 ([]:T_1)),0),(a0_7,c0_8,z0_9,b0_11,τ147)) (δ [8,8,8,8,8,8,8,8,8] 9) z (by repeat (first|exact trivial|refine ⟨z,?_⟩)) ⟨hh,zf120,zf121,zf122,z,z,(d0_.le.refl _)⟩ (fun g1 j1 hg1=> ?_))))))
 obtain ⟨⟨l192,m198,l202,l204,k206⟩,⟨a193,c194,z195,b199,τ207⟩⟩:=g1
 obtain ⟨hh,zf196,zf200,zf201,hn203,hn205,hle208⟩:=hg1
 try dsimp only at zf196
 try dsimp only at zf200
 try dsimp only at zf201
 try dsimp only at hn203
 try dsimp only at hn205
 dsimp only at hle208
 replace f0_3:=f0_3.mono hle208
 replace f0_6:=f0_6.mono hle208
 replace hgl:=hgl.mono hle208
 replace hk117:=hk117.mono hle208
 try dsimp only
 obtain ⟨z1,hh,hR1⟩:=eo_ hh
 dsimp only [Am_]at hh
 have zf196b:=zf196.length
 have zf200b:=zf200.length
 have zf201b:=zf201.length
 refine η (i:=1) z (fun _ hb209 _=> ?_)
 refine η (i:=3) z (fun _ hb210 _=> ?_)
 refine η (i:=4) z (fun _ hb211 _=> ?_)
 refine η (i:=5) z (fun _ hb212 _=> ?_)
 refine η (i:=6) z (fun _ hb213 _=> ?_)
 refine η (i:=7) z (fun _ hb214 _=> ?_)
 refine η (i:=8) z (fun _ hb215 _=> ?_)
 refine ξ (ω z (OpVal.lss z z z) (κ (ν (TC.cD z hh (fun h216 hh=> ?_) (fun h216 hh=> ?_)))))
 ·refine ι (S.n (TC.cutG (α:=((List (List Tip))×(FM T_1 Int)×N_1×T_2)×((Option Addr)×Nat×(List (List Tip×(ea_ 2 d2_ d1_).P))×Nat×d0_)) (rgs [(9,2),(28,26)]) (fun g=>[]) (fun g=>[φ b0_0 #[.slice a0_1 x0.arcs.length c0_2,.slice a0_4 x0.ends.length c0_5,.int .i64 x0.most,.slice g.2.1 g.1.1.length g.2.2.1,.map (some g.2.2.2.2.1),.string (bs x0.q.front),.slice a0_12 x0.q.next.length c0_13,.slice a0_16 x0.q.outs.length c0_17,.slice a0_20 x0.q.fin.length c0_21,.slice a0_22 x0.q.tail.length c0_23] Eb0,ε 22 1 (ea_ 2 d2_ d1_).en (.slice g.2.1 g.1.1.length g.2.2.1) g.2.2.2.1,Res.mapB h3_ io_ (some g.2.2.2.2.1) g.1.2.1,ε 86 1 (ea_ 1 eI_ ep_).en (.slice a0_12 x0.q.next.length c0_13) z0_14,ε 30 1 (ea_ 1 eS_ es_).en (.slice a0_16 x0.q.outs.length c0_17) z0_18,rs_ 4 e1_ a0_20 c0_21 x0.q.fin,rs_ 9 eS_ a0_22 c0_23 x0.q.tail,ε 3 1 eI_ (.slice a124 (replicate 256 (0:Int)).length c125) g.1.2.2.1,ε 9 1 eS_ (.slice a127 (replicate 256 ([]:T_1)).length c128) g.1.2.2.2]) (fun g=>g.2.2.2.2.2) (fun g=>B2_ k206 g.1.1 g.1.2.1 g.1.2.2.1 g.1.2.2.2=some z1∧ZOk g.2.2.2.2.2 (ea_ 2 d2_ d1_) g.2.2.2.1 g.1.1∧ZOk g.2.2.2.2.2 (ea_ 1 eI_ ep_) z0_14 x0.q.next∧ZOk g.2.2.2.2.2 (ea_ 1 eS_ es_) z0_18 x0.q.outs∧g.1.2.2.1.length=(replicate 256 (0:Int)).length∧g.1.2.2.2.length=(replicate 256 ([]:T_1)).length∧d0_.le τ207 g.2.2.2.2.2) ?_ (fun g j hg=> ?_)))
  ·skip
   refine υ (ξ (θ z z (θ z z (κ (ξ (TL.s z z (θ z z ?_)))))))
   obtain ⟨u27,hh⟩:=d6_ hh
   refine TL.isSl (i:=7) z (fun hs232 _ _=> ?_)
   refine ω z (af_ z e2_ sz3 z z hs232 (by omega)) (ψ 7 z z ?_)
   have hn233:(l202.set k206 (-1)).length=(replicate 256 (0:Int)).length:=by rw [ls_];exact hn203
   refine ζ z (ay_ (-1) z sz3 z z z z ep_ i2_ (by omega) (by omega) ?_)
   refine κ (ξ (TL.l z z (TL.s z z (θ z z (ω z (bn_ z underlying3 underlying5 z) (ψ 7 z z (ψ 7 z z (ψ 7 z z (ψ 7 z z (ψ 7 z z (ψ 7 z z (ψ 7 z z ?_))))))))))))
   obtain ⟨v33,u33,hh⟩:=eb_ hh
   refine ζ z (OpOk.call (Gn_ (x0:=(⟨x0.arcs,x0.ends,x0.most,l192,m198,x0.q⟩:Maker)) f0_3 f0_6 zf196 zf200 zf201 hk117 u33) z z pf131 z z z z ?_)
   rintro _ _ _ hle234 ⟨a234_1,c234_2,rfl,rfl,rfl⟩
   refine TL.s z z (κ (ξ (TL.s z z (ω z (lenC z ge_ z) (ω z (OpVal.gtr z z z) (κ (TC.cD z hh (fun h236 hh=> ?_) (fun h236 hh=> ?_))))))))
   ·refine ξ (TL.s z z (θ z z (TL.s z z ?_)))
    obtain ⟨v41,u41,hh⟩:=eb_ hh
    rcases v41 with v41k|v41r
    ·dsimp only [ky_]at hh
     refine TL.bt_ z (mk_.l (Ew_ u41)) z z pf87 z z (fun τ237 hle237=> ?_)
     replace f0_3:=f0_3.mono hle237
     replace f0_6:=f0_6.mono hle237
     replace hgl:=hgl.mono hle237
     replace zf196:=zf196.mono hle237
     replace zf200:=zf200.mono hle237
     replace zf201:=zf201.mono hle237
     replace hh:=el_ hR1 hh
     obtain rfl:=so hh
     exact ⟨_,Sub.pre 0 z,z⟩
    dsimp only [ky_]at hh
    refine ζ z (b6_ (Ew_ u41) z z pf87 z z z z ?_)
    rintro _ τ238 _ hle238 ⟨a238_1,c238_2,rfl,hr238_3,rfl⟩
    replace f0_3:=f0_3.mono hle238
    replace f0_6:=f0_6.mono hle238
    replace hgl:=hgl.mono hle238
    replace zf196:=zf196.mono hle238
    replace zf200:=zf200.mono hle238
    replace zf201:=zf201.mono hle238
    have hr238_3b:=hr238_3.rv.big
    refine ω z (a8_ (.inl z) z) (ω z (OpVal.extract z z z) (ω z (OpVal.extract z z z) ?_))
    obtain ⟨u45,hh⟩:=d6_ hh
    refine TL.isSl (i:=8) z (fun hs239 _ _=> ?_)
    refine ω z (af_ z gw_ sz9 z z hs239 (by omega)) (ψ 8 z z ?_)
    have hn240:(l204.set k206 v41r.1).length=(replicate 256 ([]:T_1)).length:=by rw [ls_];exact hn205
    refine ζ z (ay_ v41r.1 z sz9 z z z z es_ pn_ (by omega) (by omega) ?_)
    refine TL.s z z (κ (π (TL.s z z (θ z z (TL.l z z (TL.s z z (ψ 7 z z (ψ 7 z z (ψ 7 z z (ψ 7 z z (ψ 7 z z (ψ 7 z z (ψ 7 z z ?_)))))))))))))
    obtain ⟨v52,u52,hh⟩:=eb_ hh
    rcases v52 with v52k|v52r
    ·dsimp only [ky_]at hh
     refine TL.bt_ z (mk_.l (C3_ (x0:=(⟨x0.arcs,x0.ends,x0.most,l192,m198,x0.q⟩:Maker)) hgl f0_3 f0_6 zf196 zf200 zf201 hr238_3 u52)) z z pf89 z z (fun τ241 hle241=> ?_)
     replace f0_3:=f0_3.mono hle241
     replace f0_6:=f0_6.mono hle241
     replace hgl:=hgl.mono hle241
     replace zf196:=zf196.mono hle241
     replace zf200:=zf200.mono hle241
     replace zf201:=zf201.mono hle241
     replace hr238_3:=hr238_3.mono hle241
     replace hh:=el_ hR1 hh
     obtain rfl:=so hh
     exact ⟨_,Sub.pre 0 z,z⟩
    dsimp only [ky_]at hh
    refine ζ z (b6_ (C3_ (x0:=(⟨x0.arcs,x0.ends,x0.most,l192,m198,x0.q⟩:Maker)) hgl f0_3 f0_6 zf196 zf200 zf201 hr238_3 u52) z z pf89 z z z z ?_)
    rintro _ τ242 _ hle242 ⟨a242_1,c242_2,z242_3,b242_5,rfl,zf242_4,rfl⟩
    replace zf196:=zf196.mono hle242
    replace zf200:=zf200.mono hle242
    replace zf201:=zf201.mono hle242
    have zf242_4b:=zf242_4.length
    obtain ⟨u53,hh⟩:=d6_ hh
    refine TL.isSl (i:=8) z (fun hs245 _ _=> ?_)
    refine ω z (af_ z e2_ sz3 z z hs245 (by omega)) (ψ 8 z z ?_)
    have hn246:((l202.set k206 (-1)).set k206 v52r.1).length=(replicate 256 (0:Int)).length:=by rw [ls_];exact hn233
    refine ζ z (ay_ v52r.1 z sz3 z z z z ep_ i2_ (by omega) (by omega) ?_)
    exact TL.nil (B.n (S.n (cf ((v52r.2.rows,v52r.2.places,((l202.set k206 (-1)).set k206 v52r.1),(l204.set k206 v41r.1)),(a242_1,c242_2,z242_3,b242_5,τ242)) ⟨hh,zf242_4,zf200,zf201,hn246,hn240,(hle238.trans hle242)⟩ (δ [8,1,8,8,8,8,8,8,8] 9))))
   exact ι (B.n (S.n (cf ((l192,m198,(l202.set k206 (-1)),l204),(a193,c194,z195,b199,τ207)) ⟨hh,zf196,zf200,zf201,hn233,hn205,(d0_.le.refl _)⟩ (δ [9,9,9,9,9,9,9,9,9] 9))))
  skip
  obtain ⟨⟨l218,m224,l228,l230⟩,⟨a219,c220,z221,b225,τ247⟩⟩:=g
  obtain ⟨hh,zf222,zf226,zf227,hn229,hn231,hle248⟩:=hg
  try dsimp only at zf222
  try dsimp only at zf226
  try dsimp only at zf227
  try dsimp only at hn229
  try dsimp only at hn231
  dsimp only at hle248
  replace zf196:=zf196.mono hle248
  replace zf200:=zf200.mono hle248
  replace zf201:=zf201.mono hle248
  try dsimp only
  dsimp only [B2_]at hh
  have zf222b:=zf222.length
  have zf226b:=zf226.length
  have zf227b:=zf227.length
  refine η (i:=1) z (fun _ hb249 _=> ?_)
  refine η (i:=3) z (fun _ hb250 _=> ?_)
  refine η (i:=4) z (fun _ hb251 _=> ?_)
  refine η (i:=5) z (fun _ hb252 _=> ?_)
  refine η (i:=6) z (fun _ hb253 _=> ?_)
  refine η (i:=7) z (fun _ hb254 _=> ?_)
  refine η (i:=8) z (fun _ hb255 _=> ?_)
  refine π (ω z (OpVal.succ z z z (by omega)) (θ z z (κ ?_)))
  obtain ⟨hh,hlt256⟩:=ey_ hR1 hh
  exact lf ((l218,m224,l228,l230,(k206+1)),(a219,c220,z221,b225,τ247)) hlt256 ⟨hh,zf222,zf226,zf227,hn229,hn231,(hle208.trans hle248)⟩ (δ [8,8,8,8,8,8,8,8,8] 9)
 refine TC.exit (S.x (S.x ?_))
 replace hh:=el_ hR1 hh
 refine Δ (S.n (ξ (TL.l z z (TL.l z z (ω z (ac_ z z) (ω z (aa_ z km_ z) (ω z (aa_ z e8_ z) (ω z (ab_ z i0_ z (i:=0) z z) (TL.s z z ?_)))))))))
 rw [←hn203]
 refine ψ 7 z z (TL.a3_ ep_ (fun τ261 hle260 hr259=> ?_))
 replace zf196:=zf196.mono hle260
 replace zf200:=zf200.mono hle260
 replace zf201:=zf201.mono hle260
 have hr259b:=hr259.rv.big
 have zf262:ZOk _ (ea_ 1 eI_ ep_) ([(l202,(a124,c125))]:List (N_1×(ea_ 1 eI_ ep_).P)) [l202]:=ZOk.cons (hr259) (ZOk.nil _ _)
 refine ζ z (litZ zf262 z fn_ fp_ z h4_ z z z (by decide) (by decide) z (by decide) z (by decide) (fun a257 c258=> ?_))
 refine ψ 4 z z ?_
 obtain ⟨u65,hh⟩:=d6_ hh
 refine ζ z (bg_ (k:=(ea_ 1 eI_ ep_)) zf200 zf262 z z fn_ fp_ im_ h4_ z z (by decide) z z z (.inr ⟨_,0,z⟩) (by simpa using u65) (by decide) (fun a264 c265 zf266=> ?_))
 refine ω z (ac_ z z) (ω z (aa_ z km_ z) (ω z (aa_ z e8_ z) (ψ 2 z z (ζ z (ae_ z go_ z z z z z ?_)))))
 refine κ (ξ (TL.l z z (TL.l z z (ω z (ac_ z z) (ω z (aa_ z km_ z) (ω z (aa_ z fy_ z) (ω z (ab_ z m4_ z (i:=0) z z) (TL.s z z ?_))))))))
 rw [←hn205]
 refine ψ 8 z z (TL.a3_ es_ (fun τ271 hle270 hr269=> ?_))
 replace zf196:=zf196.mono hle270
 replace zf201:=zf201.mono hle270
 replace zf266:=zf266.mono hle270
 have hr269b:=hr269.rv.big
 have zf272:ZOk _ (ea_ 1 eS_ es_) ([(l204,(a127,c128))]:List (T_2×(ea_ 1 eS_ es_).P)) [l204]:=ZOk.cons (hr269) (ZOk.nil _ _)
 refine ζ z (litZ zf272 z l4_ kn_ z yb_ z z z (by decide) (by decide) z (by decide) z (by decide) (fun a267 c268=> ?_))
 refine ψ 6 z z ?_
 obtain ⟨u78,hh⟩:=d6_ hh
 refine ζ z (bg_ (k:=(ea_ 1 eS_ es_)) zf201 zf272 z z l4_ kn_ by30 yb_ z z (by decide) z z z (.inr ⟨_,0,z⟩) (by simpa using u78) (by decide) (fun a274 c275 zf276=> ?_))
 refine ω z (ac_ z z) (ω z (aa_ z km_ z) (ω z (aa_ z fy_ z) (ψ 2 z z (ζ z (ae_ z sz28 z z z z z ?_)))))
 refine κ (ξ (TL.l z z (TL.l z z (ω z (ac_ z z) (ω z (aa_ z km_ z) (ω z (aa_ z gq_ z) (ω z (ab_ z nz_ z (i:=0) z z) (TL.j z z (ζ z (OpOk.lit (enc:=e1_) [v11r.1] z h2_ sz4 ze4 z z z em_ (by decide) (by decide) false z (by decide) z (by decide) fm_ (fun a277 c278=> ?_)))))))))))
 refine ψ 8 z z ?_
 obtain ⟨u91,hh⟩:=d6_ hh
 refine ζ z (av_ z z h2_ sz4 by4 ze4 z z (by decide) z z z (.inr ⟨_,0,z⟩) (by simpa using u91) (by decide) (fun a280 c281=> ?_))
 refine ω z (ac_ z z) (ω z (aa_ z km_ z) (ω z (aa_ z gq_ z) (ψ 2 z z (ζ z (ae_ z sz29 z z z z z ?_)))))
 refine κ (π (TL.l z z (TL.l z z (ω z (ac_ z z) (ω z (aa_ z km_ z) (ω z (aa_ z g0_ z) (ω z (ab_ z kv_ z (i:=0) z z) (ω z (ad_ (.inl z) z) (ζ z (OpOk.lit (enc:=eS_) [v11r.2] z gw_ sz9 ze9 z z z es_ (by decide) (by decide) ([]:T_1) z (by decide) z (by decide) pn_ (fun a282 c283=> ?_)))))))))))
 refine ψ 10 z z ?_
 obtain ⟨u104,hh⟩:=d6_ hh
 refine ζ z (av_ z z gw_ sz9 by9 ze9 z z (by decide) z z z (.inr ⟨_,0,z⟩) (by simpa using u104) (by decide) (fun a285 c286=> ?_))
 refine ω z (ac_ z z) (ω z (aa_ z km_ z) (ω z (aa_ z g0_ z) (ψ 2 z z (ζ z (ae_ z kn_ z z z z z ?_)))))
 refine TL.nil ?_
 obtain rfl:=so hh
 refine ⟨_,δ [1,3,5,7,10,10,6] 7,?_⟩
 exact RetOk.mk' (rs:=[]) [φ b0_0 #[.slice a0_1 x0.arcs.length c0_2,.slice a0_4 x0.ends.length c0_5,.int .i64 x0.most,.slice a193 l192.length c194,.map (some b199),.string (bs x0.q.front),.slice a264 ((x0.q.next++[l202]).length) c265,.slice a274 ((x0.q.outs++[l204]).length) c275,.slice a280 ((x0.q.fin++[v11r.1]).length) c281,.slice a285 ((x0.q.tail++[v11r.2]).length) c286] Eb0,ε 22 1 (ea_ 2 d2_ d1_).en (.slice a193 l192.length c194) z195,Res.mapB h3_ io_ (some b199) m198,ε 86 1 (ea_ 1 eI_ ep_).en (.slice a264 (x0.q.next++[l202]).length c265) (z0_14++([(l202,(a124,c125))]:List (N_1×(ea_ 1 eI_ ep_).P))),ε 30 1 (ea_ 1 eS_ es_).en (.slice a274 (x0.q.outs++[l204]).length c275) (z0_18++([(l204,(a127,c128))]:List (T_2×(ea_ 1 eS_ es_).P))),rs_ 4 e1_ a280 c281 (x0.q.fin++[v11r.1]),rs_ 9 eS_ a285 c286 (x0.q.tail++[v11r.2])] z (.inr z) RVs.nil (List.sublist_append_left _ _) ⟨a193,c194,z195,b199,a264,c265,(z0_14++([(l202,(a124,c125))]:List (N_1×(ea_ 1 eI_ ep_).P))),a274,c275,(z0_18++([(l204,(a127,c128))]:List (T_2×(ea_ 1 eS_ es_).P))),a280,c281,a285,c286,z,zf196,zf266,zf276,z⟩
def Gd_(x0:Seq)(x1:Int):Option (Unit):=
 some ()
theorem Gt_{σ:d0_}{x0:Seq}{x1:Int}(f0_3:RZ σ (ea_ 1 eI_ ep_) (.slice a0_1 x0.next.length c0_2) x0.next)(f0_6:RZ σ (ea_ 1 eS_ es_) (.slice a0_4 x0.outs.length c0_5) x0.outs)(f0_9:rS_ σ e1_ a0_7 c0_8 x0.fin)(f0_12:rS_ σ eS_ a0_10 c0_11 x0.tail){r:Unit}(hh:Gd_ x0 x1=some r):
  w5_ prog 86 #[loc b0_0 0,loc b1_0 0] σ [φ b0_0 (aq_ x0 a0_1 c0_2 a0_4 c0_5 a0_7 c0_8 a0_10 c0_11) Eb0,φ b1_0 #[.int .i64 x1] Eb1] (fun v σ' H'=>v= .tuple #[]∧σ=σ'∧H'=[φ b0_0 (aq_ x0 a0_1 c0_2 a0_4 c0_5 a0_7 c0_8 a0_10 c0_11) Eb0,φ b1_0 #[.int .i64 x1] Eb1]):=by
 dsimp only [Gd_]at hh
 have f0_3b:=f0_3.big
 have f0_6b:=f0_6.big
 have f0_9b:=f0_9.rv.big
 have f0_12b:=f0_12.rv.big
 refine w5_.rec (n:=13) Tryz.func86 z z z z z z z (fun w0=> ?_)
 refine ω z (dn_ z underlying142 (fl_ t7_) z) (ω z (a8_ (.inl z) z) (ω z (OpVal.extract z z z) (ω z (OpVal.extract z z z) (ζ z (OpOk.alloc z t7_ z z (fun b107=> ?_))))))
 refine ζ z (storeAll z sz142 z z z z z z ?_)
 refine TL.j z z (κ (ξ (TL.j z z (κ (TC.f z (ι ?_))))))
 obtain rfl:=so hh
 refine ⟨_,δ [2,2] 2,?_⟩
 exact RetOk.mk' (rs:=[]) [φ b0_0 (aq_ x0 a0_1 c0_2 a0_4 c0_5 a0_7 c0_8 a0_10 c0_11) Eb0,φ b1_0 #[.int .i64 x1] Eb1] z (.inr z) RVs.nil (List.sublist_append_left _ _) ⟨z,z,z⟩
def E2_(k:Int):Option (Seq×Int):=
 some ((⟨([]:T_1),([]:N_2),([]:T_3),([]:B_1),([]:T_2)⟩:Seq),k)
theorem Fz_{σ:d0_}{x1g:Int}{k:Int}{r:Seq×Int}(hh:E2_ k=some r):
  ConR prog 86 #[loc b0_0 0,loc b1_0 0] (fltV 142 k) σ [φ b0_0 #[.string (bs ([]:T_1)),nl_,nl_,nl_,nl_] Eb0,φ b1_0 #[.int .i64 x1g] Eb1] (fun v σ' H'=> ∃ao1 co2 ao4 co5 ao7 co8 ao10 co11,v= .tuple #[]∧RZ σ' (ea_ 1 eI_ ep_) (.slice ao1 r.1.next.length co2) r.1.next∧RZ σ' (ea_ 1 eS_ es_) (.slice ao4 r.1.outs.length co5) r.1.outs∧rS_ σ' e1_ ao7 co8 r.1.fin∧rS_ σ' eS_ ao10 co11 r.1.tail∧H'=[φ b0_0 (aq_ r.1 ao1 co2 ao4 co5 ao7 co8 ao10 co11) Eb0,φ b1_0 #[.int .i64 r.2] Eb1]):=by
 dsimp only [E2_]at hh
 refine ConR.rec (n:=13) Tryz.func86 z z z z z z z (fun w0=> ?_)
 refine ω z (di_ z underlying142 z) (ω z (a8_ (.inl z) z) (ω z (OpVal.extract z z z) (ω z (OpVal.extract z z z) (ζ z (OpOk.alloc z t7_ z z (fun b107=> ?_))))))
 refine ζ z (storeAll z sz142 z z z z z z ?_)
 refine TL.j z z (κ (ξ (TL.j z z (κ (TC.t z (TC.bv_ (Hr:=[φ b107 #[.int .i64 k] 142,φ b0_0 #[.string (bs ([]:T_1)),nl_,nl_,nl_,nl_] Eb0]) (fun r hr=>et_ [0,1] z hr) [] (by kernel_rfl) (Ψ 0 z (an_ z q5_ ju_ z) z (Ψ 1 z (aa_ z fo142_0 z) z (TA.b 2 z (ab_ z ag33 z (i:=0) z z) z (TA.front 1 z z (TA.ac 3 z (storeAll z fs_ z z z z z z ⟨(fun w h=>ez_ (d0_.le.refl _) (fun r hr=>et_ [1,0] z hr) w h),?_⟩))))))))))))
 refine TA.front 2 z z (TA.ac 4 z (bj_ z sz33 z z z z z ⟨(fun w h=>ez_ (d0_.le.refl _) (fun r hr=>et_ [2,1] z hr) w h),?_⟩))
 refine TA.dn ?_
 obtain rfl:=so hh
 refine ⟨_,δ [1] 2,?_⟩
 exact RetOk.mk' (rs:=[]) [φ b0_0 #[.string (bs ([]:T_1)),nl_,nl_,nl_,nl_] Eb0,φ b1_0 #[.int .i64 k] Eb1] z (.inr z) RVs.nil (List.sublist_append_left _ _) ⟨none,0,none,0,none,0,none,0,z,(RZ.nilF _ (ea_ 1 eI_ ep_)),(RZ.nilF _ (ea_ 1 eS_ es_)),(RS.nilF _ e1_ em_),(RS.nilF _ eS_ es_),z⟩
def Ai_(x0:Maker)(v16r:T_1×(List Tip))(l201:List (List Tip))(m207:FM T_1 Int)(l210:N_2)(l216:T_3)(l222:B_1)(l226:T_2)(k229:Nat):Option (((List (List Tip))×(FM T_1 Int)×N_2×T_3×B_1×T_2×Nat)⊕(Seq×Int)):=
 ec_ (decide ((k229:Int)<((l201.length:Nat):Int))) (bnd (Eg_ (⟨x0.arcs,x0.ends,x0.most,l201,m207,(⟨v16r.1,l210,l216,l222,l226⟩:Seq)⟩:Maker) (k229:Int)) (fun v41=>ky_ v41 (fun v41k=>fin (bnd (E2_ v41k) (fun v70=>some (v70.1,v70.2)))) (fun v41r=>nxt (v41r.rows,v41r.places,v41r.q.next,v41r.q.outs,v41r.q.fin,v41r.q.tail,(k229+1))))) (fin (bnd (Gd_ (⟨v16r.1,l210,l216,l222,l226⟩:Seq) 0) (fun v71=>some ((⟨v16r.1,l210,l216,l222,l226⟩:Seq),0))))
def D3_(x0:Maker)(x1:Fst):Option (Seq×Int):=
 ec_ (decide (((x1.starts.length:Nat):Int)=0)) (bnd (Gd_ (⟨([]:T_1),([]:N_2),([]:T_3),([]:B_1),([]:T_2)⟩:Seq) 0) (fun v51=>some ((⟨([]:T_1),([]:N_2),([]:T_3),([]:B_1),([]:T_2)⟩:Seq),0))) (grd (x1.starts.length * 24≤140737488355328) (bnd (E0_ x1.starts) (fun v16=>ky_ v16 (fun v16k=>bnd (E2_ v16k) (fun v52=>some (v52.1,v52.2))) (fun v16r=>bnd (Ag_ (⟨x0.arcs,x0.ends,x0.most,x0.rows,x0.places,(⟨v16r.1,x0.q.next,x0.q.outs,x0.q.fin,x0.q.tail⟩:Seq)⟩:Maker) v16r.2) (fun v30=>ky_ v30 (fun v30k=>bnd (E2_ v30k) (fun v53=>some (v53.1,v53.2))) (fun v30r=>eq_ (fun q:(List (List Tip))×(FM T_1 Int)×N_2×T_3×B_1×T_2×Nat=>Ai_ x0 v16r q.1 q.2.1 q.2.2.1 q.2.2.2.1 q.2.2.2.2.1 q.2.2.2.2.2.1 q.2.2.2.2.2.2) (v30r.2.rows,v30r.2.places,x0.q.next,x0.q.outs,x0.q.fin,x0.q.tail,0)))))))
theorem G8_{σ:d0_}{x0:Maker}{z0_9:List (List Tip×(ea_ 2 d2_ d1_).P)}{z0_14:List (N_1×(ea_ 1 eI_ ep_).P)}{z0_18:List (T_2×(ea_ 1 eS_ es_).P)}{x1:Fst}(hgl:GT2 σ 1 2)(f0_3:RZ σ (ea_ 8 d8_ ee_) (.slice a0_1 x0.arcs.length c0_2) x0.arcs)(f0_6:RZ σ (ea_ 1 eS_ es_) (.slice a0_4 x0.ends.length c0_5) x0.ends)(zf0_10:ZOk σ (ea_ 2 d2_ d1_) z0_9 x0.rows)(zf0_15:ZOk σ (ea_ 1 eI_ ep_) z0_14 x0.q.next)(zf0_19:ZOk σ (ea_ 1 eS_ es_) z0_18 x0.q.outs)(f1_0:RS σ 2 d2_ (.slice a1_0 x1.starts.length c1_0) x1.starts)(f1_1:RS σ 2 d2_ (.slice a1_1 x1.ends.length c1_1) x1.ends)(f1_2:RS σ 8 d8_ (.slice a1_2 x1.arcs.length c1_2) x1.arcs){r:Seq×Int}(hh:D3_ x0 x1=some r):
  Con prog 45 #[loc b0_0 0,.agg (au_ x1 a1_0 c1_0 a1_1 c1_1 a1_2 c1_2)] σ [φ b0_0 #[.slice a0_1 x0.arcs.length c0_2,.slice a0_4 x0.ends.length c0_5,.int .i64 x0.most,.slice a0_7 x0.rows.length c0_8,.map (some b0_11),.string (bs x0.q.front),.slice a0_12 x0.q.next.length c0_13,.slice a0_16 x0.q.outs.length c0_17,.slice a0_20 x0.q.fin.length c0_21,.slice a0_22 x0.q.tail.length c0_23] Eb0,ε 22 1 (ea_ 2 d2_ d1_).en (.slice a0_7 x0.rows.length c0_8) z0_9,Res.mapB h3_ io_ (some b0_11) x0.places,ε 86 1 (ea_ 1 eI_ ep_).en (.slice a0_12 x0.q.next.length c0_13) z0_14,ε 30 1 (ea_ 1 eS_ es_).en (.slice a0_16 x0.q.outs.length c0_17) z0_18,rs_ 4 e1_ a0_20 c0_21 x0.q.fin,rs_ 9 eS_ a0_22 c0_23 x0.q.tail] (fun v σ' H'=> ∃a1 c1 a2 c2 a3 c3 a4 c4,v= .tuple #[.agg (aq_ r.1 a1 c1 a2 c2 a3 c3 a4 c4),.int .i64 r.2]∧RZ σ' (ea_ 1 eI_ ep_) (.slice a1 r.1.next.length c1) r.1.next∧RZ σ' (ea_ 1 eS_ es_) (.slice a2 r.1.outs.length c2) r.1.outs∧rS_ σ' e1_ a3 c3 r.1.fin∧rS_ σ' eS_ a4 c4 r.1.tail∧H'=[]):=by
 dsimp only [D3_]at hh
 have f0_3b:=f0_3.big
 have f0_6b:=f0_6.big
 have zf0_10b:=zf0_10.length
 have zf0_15b:=zf0_15.length
 have zf0_19b:=zf0_19.length
 have f1_0b:=f1_0.rv.big
 have f1_1b:=f1_1.rv.big
 have f1_2b:=f1_2.rv.big
 refine Con.mkD (n:=46) Tryz.func45 z z z (fun w0=> ?_)
 refine TB.seq lp_ (π (ζ z (boxA z z z z (fun b110=> ?_))))
 refine ζ z (OpOk.alloc z ju_ z z (fun b112=> ?_))
 refine ζ z (OpOk.alloc z ze33 z z (fun b114=> ?_))
 refine κ (TB.seqD (TLB.v z (cc_ z) z z (TLB.dfr (dargs:=[]) z z z z z (fun a_ w_ hw_ ha_=> ?_))))
 refine TB.fin (Q:=dfrX _ _ _ _ 86 [loc b112 0,loc b114 0]) (x8_ (cap:=[loc b112 0,loc b114 0]) (dargs:=[]) pf86) ?_ w_ a_ hw_ ha_
 clear hw_ ha_ a_ w_
 refine ν (ξ (ω z (aa_ z f2_ z) (ω z (ab_ z jv_ z (i:=2) z z) (ω z (lenC z ge_ z) (ω z (OpVal.eql z z z) (κ (TC.cD z hh (fun h116 hh=> ?_) (fun h116 hh=> ?_))))))))
 ·refine ξ (ω z (an_ z q5_ ju_ z) (ψ 1 z z (ζ z (storeAll z fs_ z z z z z z ?_))))
  refine ψ 1 z z (ζ z (bj_ z sz33 z z z z z ?_))
  refine κ (TC.front 1 z z ?_)
  obtain ⟨v51,u51,hh⟩:=eb_ hh
  refine TC.ret (S.r (.inl ⟨.inl z,_,Sub.pre 2 z,(Gt_ (RZ.nilF _ (ea_ 1 eI_ ep_)) (RZ.nilF _ (ea_ 1 eS_ es_)) (RS.nilF _ e1_ em_) (RS.nilF _ eS_ es_) u51).mono ?_⟩))
  rintro _ _ _ hle117 ⟨rfl,rfl,rfl⟩
  obtain rfl:=so hh
  exact RetOk.mk' (rs:=[.cell 4 32,.cell 5 33]) [] z (.inl z) (RVs.agg h1_ fs_ z (i:=0) z z (RVs.one ag33 z (i:=1) z z RVs.nil)) (List.nil_sublist _) ⟨none,0,none,0,none,0,none,0,z,(RZ.nilF _ (ea_ 1 eI_ ep_)),(RZ.nilF _ (ea_ 1 eS_ es_)),(RS.nilF _ e1_ em_),(RS.nilF _ eS_ es_),z⟩
 refine ι (S.n (ξ (ω z (aa_ z f2_ z) (ω z (ab_ z jv_ z (i:=2) z z) ?_))))
 obtain ⟨u15,hh⟩:=d6_ hh
 refine ζ z (OpOk.call (Hk_ f1_0 u15) z z pf88 z z z z ?_)
 rintro _ _ _ _ ⟨⟨a118,c119,rfl⟩,rfl,rfl⟩
 obtain ⟨v16,u16,hh⟩:=eb_ hh
 rcases v16 with v16k|v16r
 ·dsimp only [ky_]at hh
  refine TL.bt_ z (mk_.l (Ew_ u16)) z z pf87 z z (fun τ121 hle121=> ?_)
  replace f0_3:=f0_3.mono hle121
  replace f0_6:=f0_6.mono hle121
  replace zf0_10:=zf0_10.mono hle121
  replace zf0_15:=zf0_15.mono hle121
  replace zf0_19:=zf0_19.mono hle121
  replace hgl:=hgl.mono hle121
  obtain ⟨v52,u52,hh⟩:=eb_ hh
  refine .inr ⟨_,z,_,δ [1] 2,(Fz_ u52).mono ?_⟩
  rintro _ τ122 _ hle122 ⟨a122_1,c122_2,a122_4,c122_5,a122_7,c122_8,a122_10,c122_11,rfl,f122_3,f122_6,f122_9,f122_12,rfl⟩
  replace f0_3:=f0_3.mono hle122
  replace f0_6:=f0_6.mono hle122
  replace zf0_10:=zf0_10.mono hle122
  replace zf0_15:=zf0_15.mono hle122
  replace zf0_19:=zf0_19.mono hle122
  replace hgl:=hgl.mono hle122
  have f122_3b:=f122_3.big
  have f122_6b:=f122_6.big
  have f122_9b:=f122_9.rv.big
  have f122_12b:=f122_12.rv.big
  obtain rfl:=so hh
  exact RetOk.mk' (rs:=[.cell 4 32,.cell 5 33]) [] z (.inl z) (RVs.agg h1_ fs_ z (i:=0) z z (RVs.one ag33 z (i:=1) z z RVs.nil)) (List.nil_sublist _) ⟨a122_1,c122_2,a122_4,c122_5,a122_7,c122_8,a122_10,c122_11,z,f122_3,f122_6,f122_9,f122_12,z⟩
 dsimp only [ky_]at hh
 refine ζ z (b6_ (Ew_ u16) z z pf87 z z z z ?_)
 rintro _ τ127 _ hle127 ⟨a127_1,c127_2,rfl,hr127_3,rfl⟩
 replace f0_3:=f0_3.mono hle127
 replace f0_6:=f0_6.mono hle127
 replace zf0_10:=zf0_10.mono hle127
 replace zf0_15:=zf0_15.mono hle127
 replace zf0_19:=zf0_19.mono hle127
 replace hgl:=hgl.mono hle127
 have hr127_3b:=hr127_3.rv.big
 refine ω z (a8_ (.inl z) z) (ω z (OpVal.extract z z z) (ω z (OpVal.extract z z z) (ω z (ad_ (.inr z) z) (TL.s z z (κ (ξ (TL.l z z (ω z (ad_ (.inl z) z) (ω z (ac_ z z) (ω z (aa_ z km_ z) (ω z (aa_ z ib_ z) (ψ 3 z z (ζ z (cd_ z sz9 z z z z z ?_))))))))))))))
 refine κ (ξ (TL.l z z (TL.s z z (ψ 9 z z (ψ 9 z z (ψ 9 z z (ψ 9 z z (ψ 9 z z (ψ 9 z z (ψ 6 z z ?_))))))))))
 obtain ⟨v30,u30,hh⟩:=eb_ hh
 rcases v30 with v30k|v30r
 ·dsimp only [ky_]at hh
  refine TL.bt_ z (mk_.l (C3_ (x0:=(⟨x0.arcs,x0.ends,x0.most,x0.rows,x0.places,(⟨v16r.1,x0.q.next,x0.q.outs,x0.q.fin,x0.q.tail⟩:Seq)⟩:Maker)) hgl f0_3 f0_6 zf0_10 zf0_15 zf0_19 hr127_3 u30)) z z pf89 z z (fun τ128 hle128=> ?_)
  replace f0_3:=f0_3.mono hle128
  replace f0_6:=f0_6.mono hle128
  replace zf0_10:=zf0_10.mono hle128
  replace zf0_15:=zf0_15.mono hle128
  replace zf0_19:=zf0_19.mono hle128
  replace hgl:=hgl.mono hle128
  replace hr127_3:=hr127_3.mono hle128
  obtain ⟨v53,u53,hh⟩:=eb_ hh
  refine .inr ⟨_,z,_,δ [1] 2,(Fz_ u53).mono ?_⟩
  rintro _ τ129 _ hle129 ⟨a129_1,c129_2,a129_4,c129_5,a129_7,c129_8,a129_10,c129_11,rfl,f129_3,f129_6,f129_9,f129_12,rfl⟩
  replace f0_3:=f0_3.mono hle129
  replace f0_6:=f0_6.mono hle129
  replace zf0_10:=zf0_10.mono hle129
  replace zf0_15:=zf0_15.mono hle129
  replace zf0_19:=zf0_19.mono hle129
  replace hgl:=hgl.mono hle129
  replace hr127_3:=hr127_3.mono hle129
  have f129_3b:=f129_3.big
  have f129_6b:=f129_6.big
  have f129_9b:=f129_9.rv.big
  have f129_12b:=f129_12.rv.big
  obtain rfl:=so hh
  exact RetOk.mk' (rs:=[.cell 4 32,.cell 5 33]) [] z (.inl z) (RVs.agg h1_ fs_ z (i:=0) z z (RVs.one ag33 z (i:=1) z z RVs.nil)) (List.nil_sublist _) ⟨a129_1,c129_2,a129_4,c129_5,a129_7,c129_8,a129_10,c129_11,z,f129_3,f129_6,f129_9,f129_12,z⟩
 dsimp only [ky_]at hh
 refine ζ z (b6_ (C3_ (x0:=(⟨x0.arcs,x0.ends,x0.most,x0.rows,x0.places,(⟨v16r.1,x0.q.next,x0.q.outs,x0.q.fin,x0.q.tail⟩:Seq)⟩:Maker)) hgl f0_3 f0_6 zf0_10 zf0_15 zf0_19 hr127_3 u30) z z pf89 z z z z ?_)
 rintro _ τ134 _ hle134 ⟨a134_1,c134_2,z134_3,b134_5,rfl,zf134_4,rfl⟩
 replace f0_3:=f0_3.mono hle134
 replace f0_6:=f0_6.mono hle134
 replace zf0_15:=zf0_15.mono hle134
 replace zf0_19:=zf0_19.mono hle134
 replace hgl:=hgl.mono hle134
 have zf134_4b:=zf134_4.length
 refine κ (ν (ξ (θ z z (κ (υ (TC.ao_ (α:=((List (List Tip))×(FM T_1 Int)×N_2×T_3×B_1×T_2×Nat)×((Option Addr)×Nat×(List (List Tip×(ea_ 2 d2_ d1_).P))×Nat×(Option Addr)×Nat×(List (N_1×(ea_ 1 eI_ ep_).P))×(Option Addr)×Nat×(List (T_2×(ea_ 1 eS_ es_).P))×(Option Addr)×Nat×(Option Addr)×Nat×d0_)) (rgs [(8,1),(30,12)]) (fun g=>[(8,.int .i64 ((g.1.2.2.2.2.2.2:Nat):Int))]) (fun g=>[φ b0_0 #[.slice a0_1 x0.arcs.length c0_2,.slice a0_4 x0.ends.length c0_5,.int .i64 x0.most,.slice g.2.1 g.1.1.length g.2.2.1,.map (some g.2.2.2.2.1),.string (bs v16r.1),.slice g.2.2.2.2.2.1 g.1.2.2.1.length g.2.2.2.2.2.2.1,.slice g.2.2.2.2.2.2.2.2.1 g.1.2.2.2.1.length g.2.2.2.2.2.2.2.2.2.1,.slice g.2.2.2.2.2.2.2.2.2.2.2.1 g.1.2.2.2.2.1.length g.2.2.2.2.2.2.2.2.2.2.2.2.1,.slice g.2.2.2.2.2.2.2.2.2.2.2.2.2.1 g.1.2.2.2.2.2.1.length g.2.2.2.2.2.2.2.2.2.2.2.2.2.2.1] Eb0,ε 22 1 (ea_ 2 d2_ d1_).en (.slice g.2.1 g.1.1.length g.2.2.1) g.2.2.2.1,Res.mapB h3_ io_ (some g.2.2.2.2.1) g.1.2.1,ε 86 1 (ea_ 1 eI_ ep_).en (.slice g.2.2.2.2.2.1 g.1.2.2.1.length g.2.2.2.2.2.2.1) g.2.2.2.2.2.2.2.1,ε 30 1 (ea_ 1 eS_ es_).en (.slice g.2.2.2.2.2.2.2.2.1 g.1.2.2.2.1.length g.2.2.2.2.2.2.2.2.2.1) g.2.2.2.2.2.2.2.2.2.2.1,ε 4 1 e1_ (.slice g.2.2.2.2.2.2.2.2.2.2.2.1 g.1.2.2.2.2.1.length g.2.2.2.2.2.2.2.2.2.2.2.2.1) g.1.2.2.2.2.1,ε 9 1 eS_ (.slice g.2.2.2.2.2.2.2.2.2.2.2.2.2.1 g.1.2.2.2.2.2.1.length g.2.2.2.2.2.2.2.2.2.2.2.2.2.2.1) g.1.2.2.2.2.2.1,φ b112 #[.string (bs ([]:T_1)),nl_,nl_,nl_,nl_] 32,φ b114 #[.int .i64 0] 33]) (fun g=>g.2.2.2.2.2.2.2.2.2.2.2.2.2.2.2) (fun g=>eq_ (fun q:(List (List Tip))×(FM T_1 Int)×N_2×T_3×B_1×T_2×Nat=>Ai_ x0 v16r q.1 q.2.1 q.2.2.1 q.2.2.2.1 q.2.2.2.2.1 q.2.2.2.2.2.1 q.2.2.2.2.2.2) g.1=some r∧ZOk g.2.2.2.2.2.2.2.2.2.2.2.2.2.2.2 (ea_ 2 d2_ d1_) g.2.2.2.1 g.1.1∧ZOk g.2.2.2.2.2.2.2.2.2.2.2.2.2.2.2 (ea_ 1 eI_ ep_) g.2.2.2.2.2.2.2.1 g.1.2.2.1∧ZOk g.2.2.2.2.2.2.2.2.2.2.2.2.2.2.2 (ea_ 1 eS_ es_) g.2.2.2.2.2.2.2.2.2.2.1 g.1.2.2.2.1∧d0_.le τ134 g.2.2.2.2.2.2.2.2.2.2.2.2.2.2.2) (fun g=>eh_ (fun q:(List (List Tip))×(FM T_1 Int)×N_2×T_3×B_1×T_2×Nat=>Ai_ x0 v16r q.1 q.2.1 q.2.2.1 q.2.2.2.1 q.2.2.2.2.1 q.2.2.2.2.2.1 q.2.2.2.2.2.2) g.1) ((v30r.2.rows,v30r.2.places,x0.q.next,x0.q.outs,x0.q.fin,x0.q.tail,0),(a134_1,c134_2,z134_3,b134_5,a0_12,c0_13,z0_14,a0_16,c0_17,z0_18,a0_20,c0_21,a0_22,c0_23,τ134)) (δ [7,8,8,8,8,8,8,8,8] 9) z (by repeat (first|exact trivial|refine ⟨z,?_⟩)) ⟨hh,zf134_4,zf0_15,zf0_19,(d0_.le.refl _)⟩ (fun g1 j1 hg1=> ?_)))))))
 obtain ⟨⟨l201,m207,l210,l216,l222,l226,k229⟩,⟨a202,c203,z204,b208,a211,c212,z213,a217,c218,z219,a223,c224,a227,c228,τ230⟩⟩:=g1
 obtain ⟨hh,zf205,zf214,zf220,hle231⟩:=hg1
 try dsimp only at zf205
 try dsimp only at zf214
 try dsimp only at zf220
 dsimp only at hle231
 replace f0_3:=f0_3.mono hle231
 replace f0_6:=f0_6.mono hle231
 replace hgl:=hgl.mono hle231
 try dsimp only
 obtain ⟨z1,hh,hR1⟩:=eo_ hh
 dsimp only [Ai_]at hh
 have zf205b:=zf205.length
 have zf214b:=zf214.length
 have zf220b:=zf220.length
 refine η (i:=1) z (fun _ hb232 _=> ?_)
 refine η (i:=3) z (fun _ hb233 _=> ?_)
 refine η (i:=4) z (fun _ hb234 _=> ?_)
 refine η (i:=5) z (fun _ hb235 _=> ?_)
 refine η (i:=6) z (fun _ hb236 _=> ?_)
 refine ν (ξ (θ z z (TL.l z z (ω z (ac_ z z) (ω z (aa_ z s3_ z) (ω z (ab_ z ag72 z (i:=0) z z) (ω z (lenC z underlying72 z) (ω z (OpVal.lss z z z) (κ (TC.cD z hh (fun h237 hh=> ?_) (fun h237 hh=> ?_)))))))))))
 ·refine ι (S.n (ν (υ (π (TL.l z z (θ z z (ψ 6 z z (ψ 6 z z (ψ 6 z z (ψ 6 z z (ψ 6 z z (ψ 6 z z (ψ 6 z z ?_)))))))))))))
  obtain ⟨v41,u41,hh⟩:=eb_ hh
  rcases v41 with v41k|v41r
  ·dsimp only [ky_]at hh
   refine TL.bt_ z (mk_.l (F7_ (x0:=(⟨x0.arcs,x0.ends,x0.most,l201,m207,(⟨v16r.1,l210,l216,l222,l226⟩:Seq)⟩:Maker)) hgl f0_3 f0_6 zf205 zf214 zf220 u41)) z z pf90 z z (fun τ238 hle238=> ?_)
   replace f0_3:=f0_3.mono hle238
   replace f0_6:=f0_6.mono hle238
   replace hgl:=hgl.mono hle238
   replace zf205:=zf205.mono hle238
   replace zf214:=zf214.mono hle238
   replace zf220:=zf220.mono hle238
   replace hh:=el_ hR1 hh
   obtain ⟨v70,u70,hh⟩:=eb_ hh
   refine .inr ⟨_,z,_,δ [1,1] 2,(Fz_ u70).mono ?_⟩
   rintro _ τ239 _ hle239 ⟨a239_1,c239_2,a239_4,c239_5,a239_7,c239_8,a239_10,c239_11,rfl,f239_3,f239_6,f239_9,f239_12,rfl⟩
   replace f0_3:=f0_3.mono hle239
   replace f0_6:=f0_6.mono hle239
   replace hgl:=hgl.mono hle239
   replace zf205:=zf205.mono hle239
   replace zf214:=zf214.mono hle239
   replace zf220:=zf220.mono hle239
   have f239_3b:=f239_3.big
   have f239_6b:=f239_6.big
   have f239_9b:=f239_9.rv.big
   have f239_12b:=f239_12.rv.big
   obtain rfl:=so hh
   exact RetOk.mk' (rs:=[.cell 4 32,.cell 5 33]) [] z (.inl z) (RVs.agg h1_ fs_ z (i:=0) z z (RVs.one ag33 z (i:=1) z z RVs.nil)) (List.nil_sublist _) ⟨a239_1,c239_2,a239_4,c239_5,a239_7,c239_8,a239_10,c239_11,z,f239_3,f239_6,f239_9,f239_12,z⟩
  dsimp only [ky_]at hh
  refine ζ z (b6_ (F7_ (x0:=(⟨x0.arcs,x0.ends,x0.most,l201,m207,(⟨v16r.1,l210,l216,l222,l226⟩:Seq)⟩:Maker)) hgl f0_3 f0_6 zf205 zf214 zf220 u41) z z pf90 z z z z ?_)
  rintro _ τ244 _ hle244 ⟨a244_1,c244_2,z244_3,b244_5,a244_6,c244_7,z244_8,a244_10,c244_11,z244_12,a244_14,c244_15,a244_16,c244_17,rfl,zf244_4,zf244_9,zf244_13,rfl⟩
  replace zf214:=zf214.mono hle244
  replace zf220:=zf220.mono hle244
  have zf244_4b:=zf244_4.length
  have zf244_9b:=zf244_9.length
  have zf244_13b:=zf244_13.length
  refine TL.nil (B.n (S.n (π (θ z z (ω z (OpVal.succ z z z (by omega)) (θ z z (κ ?_)))))))
  obtain ⟨hh,hlt251⟩:=ey_ hR1 hh
  exact lf ((v41r.rows,v41r.places,v41r.q.next,v41r.q.outs,v41r.q.fin,v41r.q.tail,(k229+1)),(a244_1,c244_2,z244_3,b244_5,a244_6,c244_7,z244_8,a244_10,c244_11,z244_12,a244_14,c244_15,a244_16,c244_17,τ244)) hlt251 ⟨hh,zf244_4,zf244_9,zf244_13,(hle231.trans hle244)⟩ (δ [8,8,8,8,8,8,8,8,8] 9)
 refine TC.exit (S.x (S.x ?_))
 replace hh:=el_ hR1 hh
 refine Δ (S.n (ξ (TL.l z z (ω z (ac_ z z) (ω z (aa_ z km_ z) (ω z (bb_ z h1_ fs_ z (i:=0) z z z) (ψ 7 z z (ζ z (storeAll z fs_ z z z z z z ?_)))))))))
 refine ψ 8 z z (ζ z (bj_ z sz33 z z z z z ?_))
 refine κ (TC.front 5 z z (TC.b8_ zf214 (fun τ254 hle253 hr252=> ?_)))
 replace zf220:=zf220.mono hle253
 have hr252b:=hr252.big
 refine TC.front 5 z z (TC.b8_ zf220 (fun τ257 hle256 hr255=> ?_))
 replace hr252:=hr252.mono hle256
 have hr255b:=hr255.big
 refine TC.front 5 z z (TC.a3_ em_ (fun τ260 hle259 hr258=> ?_))
 replace hr252:=hr252.mono hle259
 replace hr255:=hr255.mono hle259
 have hr258b:=hr258.rv.big
 refine TC.front 5 z z (TC.a3_ es_ (fun τ263 hle262 hr261=> ?_))
 replace hr252:=hr252.mono hle262
 replace hr255:=hr255.mono hle262
 replace hr258:=hr258.mono hle262
 have hr261b:=hr261.rv.big
 refine TC.front 1 z z ?_
 obtain ⟨v71,u71,hh⟩:=eb_ hh
 refine TC.ret (.inl ⟨.inl z,_,Sub.pre 2 z,(Gt_ hr252 hr255 hr258 hr261 u71).mono ?_⟩)
 rintro _ _ _ hle264 ⟨rfl,rfl,rfl⟩
 obtain rfl:=so hh
 exact RetOk.mk' (rs:=[.cell 4 32,.cell 5 33]) [] z (.inl z) (RVs.agg h1_ fs_ z (i:=0) z z (RVs.one ag33 z (i:=1) z z RVs.nil)) (List.nil_sublist _) ⟨a211,c212,a217,c218,a223,c224,a227,c228,z,hr252,hr255,hr258,hr261,z⟩
def Gb_(l166:List (List Arc))(v19:Fst×Int)(k171:Nat):Option (((List (List Arc))×Nat)⊕(Seq×Int)):=
 nxt ((l166.set (((nth v19.1.arcs k171 az_).frm).toNat) ((nth l166 (((nth v19.1.arcs k171 az_).frm).toNat) [])++[(nth v19.1.arcs k171 az_)])),(k171+1))
def Gc_(l235:T_3)(v19:Fst×Int)(k239:Nat):Option ((T_3×Nat)⊕(Seq×Int)):=
 nxt ((l235.set (((nth v19.1.ends k239 tz_).state).toNat) ((nth l235 (((nth v19.1.ends k239 tz_).state).toNat) [])++[(nth v19.1.ends k239 tz_).out])),(k239+1))
def Cg_(v19:Fst×Int)(l166:List (List Arc))(x1:Int)(l235:T_3)(k239:Nat):Option ((T_3×Nat)⊕(Seq×Int)):=
 ec_ (decide ((k239:Int)<((v19.1.ends.length:Nat):Int))) (grd (0≤((nth v19.1.ends k239 tz_).state)∧((nth v19.1.ends k239 tz_).state)<(l235.length:Int)) (grd (((nth l235 (((nth v19.1.ends k239 tz_).state).toNat) []).length+[(nth v19.1.ends k239 tz_).out].length) * 16≤140737488355328) (grd (0≤((nth v19.1.ends k239 tz_).state)∧((nth v19.1.ends k239 tz_).state)<(l235.length:Int)) (Gc_ l235 v19 k239)))) (fin (bnd (D3_ (⟨l166,l235,x1,([]:List (List Tip)),(FM.emp:FM T_1 Int),(⟨([]:T_1),([]:N_2),([]:T_3),([]:B_1),([]:T_2)⟩:Seq)⟩:Maker) v19.1) (fun v113=>some (v113.1,v113.2))))
def Dg_(v19:Fst×Int)(x1:Int)(l166:List (List Arc))(k171:Nat):Option (((List (List Arc))×Nat)⊕(Seq×Int)):=
 ec_ (decide ((k171:Int)<((v19.1.arcs.length:Nat):Int))) (grd (0≤((nth v19.1.arcs k171 az_).frm)∧((nth v19.1.arcs k171 az_).frm)<(l166.length:Int)) (grd (((nth l166 (((nth v19.1.arcs k171 az_).frm).toNat) []).length+[(nth v19.1.arcs k171 az_)].length) * 72≤140737488355328) (grd (0≤((nth v19.1.arcs k171 az_).frm)∧((nth v19.1.arcs k171 az_).frm)<(l166.length:Int)) (Gb_ l166 v19 k171)))) (fin (eq_ (fun q:T_3×Nat=>Cg_ v19 l166 x1 q.1 q.2) ((replicate v19.1.states.toNat ([]:T_2)),0)))
def E4_(v19:Fst×Int)(x1:Int):Option (Seq×Int):=
 eq_ (fun q:(List (List Arc))×Nat=>Dg_ v19 x1 q.1 q.2) ((replicate v19.1.states.toNat ([]:List Arc)),0)
def E8_(x0:Fst)(x1:Int):Option (Seq×Int):=
 bnd (B8_ x0) (fun v5=>ec_ (decide (v5≠0)) (some ((⟨([]:T_1),([]:N_2),([]:T_3),([]:B_1),([]:T_2)⟩:Seq),1)) (ec_ (decide (x1<1)) (some ((⟨([]:T_1),([]:N_2),([]:T_3),([]:B_1),([]:T_2)⟩:Seq),1)) (ec_ (decide (1024<x1)) (some ((⟨([]:T_1),([]:N_2),([]:T_3),([]:B_1),([]:T_2)⟩:Seq),1)) (bnd (Fd_ x0) (fun v19=>ec_ (decide (v19.2≠0)) (some ((⟨([]:T_1),([]:N_2),([]:T_3),([]:B_1),([]:T_2)⟩:Seq),v19.2)) (grd (0≤v19.1.states∧24 * v19.1.states.toNat≤281474976710656) (grd (0≤v19.1.states∧24 * v19.1.states.toNat≤281474976710656) (E4_ v19 x1))))))))
def Iv_(σ:d0_)(r:Seq×Int):Value→d0_→List Res→Prop:=fun v σ' H'=>
 ∃a1 c1 a2 c2 a3 c3 a4 c4,v= .tuple #[.agg (aq_ r.1 a1 c1 a2 c2 a3 c3 a4 c4),.int .i64 r.2]∧RZ σ' (ea_ 1 eI_ ep_) (.slice a1 r.1.next.length c1) r.1.next∧RZ σ' (ea_ 1 eS_ es_) (.slice a2 r.1.outs.length c2) r.1.outs∧rS_ σ' e1_ a3 c3 r.1.fin∧rS_ σ' eS_ a4 c4 r.1.tail∧H'=[]
theorem F3_{σ:d0_}{x0:Fst}{x1:Int}(hgl:GT2 σ 1 2)(f0_0:RS σ 2 d2_ (.slice a0_0 x0.starts.length c0_0) x0.starts)(f0_1:RS σ 2 d2_ (.slice a0_1 x0.ends.length c0_1) x0.ends)(f0_2:RS σ 8 d8_ (.slice a0_2 x0.arcs.length c0_2) x0.arcs){r:Seq×Int}(hh:E8_ x0 x1=some r):
  Con prog 14 #[.agg (au_ x0 a0_0 c0_0 a0_1 c0_1 a0_2 c0_2),.int .i64 x1] σ [] (Iv_ σ r):=by
 dsimp only [E8_]at hh
 have f0_0b:=f0_0.rv.big
 have f0_1b:=f0_1.rv.big
 have f0_2b:=f0_2.rv.big
 refine Con.mk (n:=107) Tryz.func14 z z z (fun w0=> ?_)
 refine ξ (ζ z (boxA z z z z (fun b101=> ?_)))
 refine ζ z (OpOk.alloc z ju_ z z (fun b103=> ?_))
 refine θ z z (κ (ν (ξ (ω z (ak_ z jc_ hi_ z (i:=1) z z) ?_))))
 obtain ⟨v5,u5,hh⟩:=eb_ hh
 refine ζ z (aw_ (C7_ (x0:=x0) f0_0 f0_1 f0_2 u5) z z z7_ z z z ?_)
 refine ω z (OpVal.neq z z z) (TL.j z z (TL.split 15 z (fun h105=> ?_) (fun h105=> ?_)))
 ·replace hh:=ej_ h105 hh
  replace h105:=dt_ h105
  refine χ z (χ z (ω z (ah_ z z z) (TL.j z z (χ z (χ z (ω z (ah_ z z z) (κ (TC.t z (ξ (ω z (an_ z q5_ ju_ z) (ζ z (storeAll z fs_ z z z z z z ?_))))))))))))
  refine θ z z (κ (TC.rt 1 (S.r ?_)))
  obtain rfl:=so hh
  exact ro [] z (RVs.agg h1_ fs_ z (i:=0) z z (RVs.tmp z RVs.nil)) ⟨none,0,none,0,none,0,none,0,z,(RZ.nilF _ (ea_ 1 eI_ ep_)),(RZ.nilF _ (ea_ 1 eS_ es_)),(RS.nilF _ e1_ em_),(RS.nilF _ eS_ es_),z⟩
 replace hh:=ei_ h105 hh
 replace h105:=df_ h105
 refine TL.g z (ai_ (.inl z) z) (TL.g z (OpVal.lss z z z) (ω z (ag_ z z z) (TL.j z z (TL.split 19 z (fun h106=> ?_) (fun h106=> ?_)))))
 ·replace hh:=ej_ h106 hh
  replace h106:=dt_ h106
  refine χ z (χ z (ω z (ah_ z z z) (κ (TC.t z (ξ (ω z (an_ z q5_ ju_ z) (ζ z (storeAll z fs_ z z z z z z ?_))))))))
  refine θ z z (κ (TC.rt 1 (S.r ?_)))
  obtain rfl:=so hh
  exact ro [] z (RVs.agg h1_ fs_ z (i:=0) z z (RVs.tmp z RVs.nil)) ⟨none,0,none,0,none,0,none,0,z,(RZ.nilF _ (ea_ 1 eI_ ep_)),(RZ.nilF _ (ea_ 1 eS_ es_)),(RS.nilF _ e1_ em_),(RS.nilF _ eS_ es_),z⟩
 replace hh:=ei_ h106 hh
 replace h106:=df_ h106
 refine TL.g z (ai_ (.inl z) z) (TL.g z (OpVal.gtr z z z) (ω z (ag_ z z z) (κ (TC.cD z hh (fun h107 hh=> ?_) (fun h107 hh=> ?_)))))
 ·refine ξ (ω z (an_ z q5_ ju_ z) (ζ z (storeAll z fs_ z z z z z z ?_)))
  refine θ z z (κ (TC.rt 1 (S.r ?_)))
  obtain rfl:=so hh
  exact ro [] z (RVs.agg h1_ fs_ z (i:=0) z z (RVs.tmp z RVs.nil)) ⟨none,0,none,0,none,0,none,0,z,(RZ.nilF _ (ea_ 1 eI_ ep_)),(RZ.nilF _ (ea_ 1 eS_ es_)),(RS.nilF _ e1_ em_),(RS.nilF _ eS_ es_),z⟩
 refine ι (S.n (ξ (ω z (ak_ z jc_ hi_ z (i:=1) z z) ?_)))
 obtain ⟨v19,u19,hh⟩:=eb_ hh
 refine ζ z (OpOk.call (Hn_ (x0:=x0) f0_0 f0_1 f0_2 u19) z z pf44 z z z z ?_)
 rintro _ τ108 _ hle108 ⟨a108_1,c108_1,a108_2,c108_2,a108_3,c108_3,rfl,hr108_0,hr108_1,hr108_2,rfl⟩
 replace hgl:=hgl.mono hle108
 have hr108_0b:=hr108_0.rv.big
 have hr108_1b:=hr108_1.rv.big
 have hr108_2b:=hr108_2.rv.big
 refine ω z (a8_ (.inl z) z) (ω z (OpVal.extract z z z) (ω z (OpVal.extract z z z) (ψ 1 z z (ζ z (storeAll z hi_ z z z z z z ?_)))))
 refine θ z z (κ (ν (ξ (θ z z (ω z (OpVal.neq z z z) (κ (TC.cD z hh (fun h109 hh=> ?_) (fun h109 hh=> ?_))))))))
 ·refine ξ (ω z (an_ z q5_ ju_ z) (θ z z (ψ 1 z z (ζ z (storeAll z fs_ z z z z z z ?_)))))
  refine θ z z (κ (TC.rt 1 (S.r ?_)))
  obtain rfl:=so hh
  exact ro [] z (RVs.agg h1_ fs_ z (i:=0) z z (RVs.tmp z RVs.nil)) ⟨none,0,none,0,none,0,none,0,z,(RZ.nilF _ (ea_ 1 eI_ ep_)),(RZ.nilF _ (ea_ 1 eS_ es_)),(RS.nilF _ e1_ em_),(RS.nilF _ eS_ es_),z⟩
 refine ι (S.n (ξ (θ z z (ζ z (bs_ (enc:=h3_) (encV:=io_) z z z (fun b110=> ?_))))))
 refine ω z (an_ z pl74 ze74 z) (ζ z (boxA z z z z (fun b112=> ?_)))
 refine TL.l z z (κ (TC.cutG (α:=(Unit)×((Option Addr)×Nat×(Option Addr)×Nat)) (rgs [(37,12)]) (fun g=>[]) (fun g=>[φ b101 (au_ v19.1 a108_1 c108_1 a108_2 c108_2 a108_3 c108_3) 25,φ b103 #[.string (bs ([]:T_1)),nl_,nl_,nl_,nl_] 32,φ b112 #[.slice g.2.1 ((replicate v19.1.states.toNat ([]:List Arc)).length) g.2.2.1,.slice g.2.2.2.1 ((replicate v19.1.states.toNat ([]:T_2)).length) g.2.2.2.2,.int .i64 x1,nl_,.map (some b110),.string (bs ([]:T_1)),nl_,nl_,nl_,nl_] 74,Res.nest 23 66 8 d8_ (.slice g.2.1 (replicate v19.1.states.toNat ([]:List Arc)).length g.2.2.1) (replicate v19.1.states.toNat (jt_:NP Arc)),Res.nest 30 9 1 eS_ (.slice g.2.2.2.1 (replicate v19.1.states.toNat ([]:T_2)).length g.2.2.2.2) (replicate v19.1.states.toNat (jt_:NP T_1)),Res.mapB h3_ io_ (some b110) (FM.emp:FM T_1 Int)]) (fun g=>τ108) (fun g=>E4_ v19 x1=some r∧Zn (replicate v19.1.states.toNat (jt_:NP Arc)) (replicate v19.1.states.toNat ([]:List Arc))∧Zn (replicate v19.1.states.toNat (jt_:NP T_1)) (replicate v19.1.states.toNat ([]:T_2))) ?_ (fun g j hg=> ?_)))
 ·skip
  obtain ⟨u40,hh⟩:=d6_ hh
  obtain ⟨u43,hh⟩:=d6_ hh
  refine TC.bv_ (Hr:=[Res.mapB h3_ io_ (some b110) (FM.emp:FM T_1 Int),φ b101 (au_ v19.1 a108_1 c108_1 a108_2 c108_2 a108_3 c108_3) 25,φ b103 #[.string (bs ([]:T_1)),nl_,nl_,nl_,nl_] 32]) (fun r hr=>et_ [1,2,3] z hr) [] (by kernel_rfl) (Ψ 0 z (a0_ (.inl z) z) z (Ψ 1 z (a0_ (.inl z) z) z (Ψ 2 z (aa_ z fa_ z) z (TA.b 3 z (ab_ z ag3 z (i:=1) z z) z (Ψ 5 z (aa_ z fa_ z) z (TA.b 6 z (ab_ z ag3 z (i:=1) z z) z ?_))))))
  refine TA.actN [4,7] (by kernel_rfl) (an rfl rfl (a1_ (q:=v19.1.states.toNat) (E:=66) (size:=8) (enc:=d8_) rfl underlying71 u4_ by23 ze23 rfl rfl (vN u40.1) (vN u40.1) (by omega) (by decide) rfl (fun a130 c131 zf132=>(k2 ?_))) (an rfl rfl (a1_ (q:=v19.1.states.toNat) (E:=9) (size:=1) (enc:=eS_) rfl l4_ kn_ by30 yb_ rfl rfl (vN u43.1) (vN u43.1) (by omega) (by decide) rfl (fun a134 c135 zf136=>(k2 ?_))) (True.intro)))
  ·skip
   refine Ψ 8 z (ac_ z z) z (Ψ 9 z (aa_ z sq_ z) z ?_)
   refine TA.actN [7,10] (by kernel_rfl) (an rfl rfl (a1_ (q:=v19.1.states.toNat) (E:=9) (size:=1) (enc:=eS_) rfl l4_ kn_ by30 yb_ rfl rfl (vN u43.1) (vN u43.1) (by omega) (by decide) rfl (fun a138 c139 zf140=>(k3 ?_))) (an rfl rfl (OpOk.front 1 rfl rfl (ae_ rfl sz71 rfl rfl rfl rfl rfl (k2 ?_))) (True.intro)))
   ·skip
    refine TA.front 2 z z (TA.ac 10 z (ae_ z sz71 z z z z z (k3 ?_)))
    refine Ψ 11 z (ac_ z z) z (Ψ 12 z (aa_ z qb_ z) z (TA.ac 13 z (ae_ z sz28 z z z z z (k3 ?_))))
    exact TA.dn (S.n (cf ((),(a130,c131,a138,c139)) ⟨hh,zf132,zf140⟩ (δ [3,2,3,3,5,5] 6)))
   skip
   refine TA.ac 7 rfl (a1_ (q:=v19.1.states.toNat) (E:=9) (size:=1) (enc:=eS_) rfl l4_ kn_ by30 yb_ rfl rfl (vN u43.1) (vN u43.1) (by omega) (by decide) rfl (fun a142 c143 zf144=>(k3 ?_)))
   refine Ψ 11 z (ac_ z z) z (Ψ 12 z (aa_ z qb_ z) z (TA.front 1 z z (TA.ac 13 z (ae_ z sz28 z z z z z (k3 ?_)))))
   exact TA.dn (S.n (cf ((),(a130,c131,a142,c143)) ⟨hh,zf132,zf144⟩ (δ [3,2,3,3,5,5] 6)))
  skip
  refine TA.ac 4 rfl (a1_ (q:=v19.1.states.toNat) (E:=66) (size:=8) (enc:=d8_) rfl underlying71 u4_ by23 ze23 rfl rfl (vN u40.1) (vN u40.1) (by omega) (by decide) rfl (fun a146 c147 zf148=>(k3 ?_)))
  refine Ψ 8 z (ac_ z z) z (Ψ 9 z (aa_ z sq_ z) z (TA.front 2 z z (TA.ac 10 z (ae_ z sz71 z z z z z (k3 ?_)))))
  refine Ψ 11 z (ac_ z z) z (Ψ 12 z (aa_ z qb_ z) z (TA.ac 13 z (ae_ z sz28 z z z z z (k3 ?_))))
  exact TA.dn (S.n (cf ((),(a146,c147,a134,c135)) ⟨hh,zf148,zf136⟩ (δ [3,3,3,3,5,5] 6)))
 skip
 obtain ⟨_,⟨a115,c116,a119,c120⟩⟩:=g
 obtain ⟨hh,zf117,zf121⟩:=hg
 try dsimp only at zf117 zf121 ⊢
 dsimp only [E4_]at hh
 have zf117b:=zf117.len
 have zf121b:=zf121.len
 refine TC.know (ef_ (q:=3) z zf117) (fun ⟨_,hb150⟩=> ?_)
 refine TC.know (ef_ (q:=4) z zf121) (fun ⟨_,hb151⟩=> ?_)
 refine ν (ξ (ω z (aa_ z fk_ z) (ω z (ab_ z k0_ z (i:=0) z z) (ω z (lenC z h9_ z) (θ z z (κ (υ (TC.ao_ (α:=((List (List Arc))×Nat)×((List (NP Arc)))) (rgs [(9,1),(52,23)]) (fun g=>[(52,.int .i64 ((g.1.2:Nat):Int))]) (fun g=>[φ b101 (au_ v19.1 a108_1 c108_1 a108_2 c108_2 a108_3 c108_3) 25,φ b103 #[.string (bs ([]:T_1)),nl_,nl_,nl_,nl_] 32,φ b112 #[.slice a115 ((replicate v19.1.states.toNat ([]:List Arc)).length) c116,.slice a119 ((replicate v19.1.states.toNat ([]:T_2)).length) c120,.int .i64 x1,nl_,.map (some b110),.string (bs ([]:T_1)),nl_,nl_,nl_,nl_] 74,Res.nest 23 66 8 d8_ (.slice a115 (replicate v19.1.states.toNat ([]:List Arc)).length c116) g.2,Res.nest 30 9 1 eS_ (.slice a119 (replicate v19.1.states.toNat ([]:T_2)).length c120) (replicate v19.1.states.toNat (jt_:NP T_1)),Res.mapB h3_ io_ (some b110) (FM.emp:FM T_1 Int)]) (fun g=>τ108) (fun g=>eq_ (fun q:(List (List Arc))×Nat=>Dg_ v19 x1 q.1 q.2) g.1=some r∧g.1.1.length=(replicate v19.1.states.toNat ([]:List Arc)).length∧Zn g.2 g.1.1∧Zn (replicate v19.1.states.toNat (jt_:NP T_1)) (replicate v19.1.states.toNat ([]:T_2))) (fun g=>eh_ (fun q:(List (List Arc))×Nat=>Dg_ v19 x1 q.1 q.2) g.1) (((replicate v19.1.states.toNat ([]:List Arc)),0),(replicate v19.1.states.toNat (jt_:NP Arc))) (δ [5,5,5,5,5,5] 6) z (by repeat (first|exact trivial|refine ⟨z,?_⟩)) ⟨hh,z,zf117,zf121⟩ (fun g1 j1 hg1=> ?_)))))))))
 obtain ⟨⟨l166,k171⟩,z168⟩:=g1
 obtain ⟨hh,hn167,zf169,zf170⟩:=hg1
 try dsimp only at hn167 zf169 zf170 ⊢
 obtain ⟨z1,hh,hR1⟩:=eo_ hh
 dsimp only [Dg_]at hh
 have zf169b:=zf169.len
 have zf170b:=zf170.len
 refine TC.know (ef_ (q:=3) z zf169) (fun ⟨_,hb172⟩=> ?_)
 refine TC.know (ef_ (q:=4) z zf170) (fun ⟨_,hb173⟩=> ?_)
 refine ξ (ω z (OpVal.lss z z z) (κ (ν (TC.cD z hh (fun h174 hh=> ?_) (fun h174 hh=> ?_)))))
 ·refine ι (S.n (TC.cutG (α:=(Unit)×((List (NP Arc)))) (rgs [(9,1),(54,20)]) (fun g=>[]) (fun g=>[φ b101 (au_ v19.1 a108_1 c108_1 a108_2 c108_2 a108_3 c108_3) 25,φ b103 #[.string (bs ([]:T_1)),nl_,nl_,nl_,nl_] 32,φ b112 #[.slice a115 ((replicate v19.1.states.toNat ([]:List Arc)).length) c116,.slice a119 ((replicate v19.1.states.toNat ([]:T_2)).length) c120,.int .i64 x1,nl_,.map (some b110),.string (bs ([]:T_1)),nl_,nl_,nl_,nl_] 74,Res.nest 23 66 8 d8_ (.slice a115 (replicate v19.1.states.toNat ([]:List Arc)).length c116) g.2,Res.nest 30 9 1 eS_ (.slice a119 (replicate v19.1.states.toNat ([]:T_2)).length c120) (replicate v19.1.states.toNat (jt_:NP T_1)),Res.mapB h3_ io_ (some b110) (FM.emp:FM T_1 Int)]) (fun g=>τ108) (fun g=>Gb_ l166 v19 k171=some z1∧(l166.set (((nth v19.1.arcs k171 az_).frm).toNat) ((nth l166 (((nth v19.1.arcs k171 az_).frm).toNat) [])++[(nth v19.1.arcs k171 az_)])).length=(replicate v19.1.states.toNat ([]:List Arc)).length∧Zn g.2 (l166.set (((nth v19.1.arcs k171 az_).frm).toNat) ((nth l166 (((nth v19.1.arcs k171 az_).frm).toNat) [])++[(nth v19.1.arcs k171 az_)]))∧Zn (replicate v19.1.states.toNat (jt_:NP T_1)) (replicate v19.1.states.toNat ([]:T_2))) ?_ (fun g j hg=> ?_)))
  ·skip
   refine υ (ξ (ω z (af_ z h9_ g5_ z z hr108_2.rv.sl (by omega)) (ω z (a7_ az_ z r7_ g5_ z hr108_2 (by omega) (by omega)) (ζ z (OpOk.alloc z ki_ z z (fun b179=> ?_))))))
   refine ζ z (storeAll z g5_ z z z z z z ?_)
   refine κ ?_
   obtain ⟨u71,hh⟩:=d6_ hh
   obtain ⟨u75,hh⟩:=d6_ hh
   obtain ⟨u76,hh⟩:=d6_ hh
   refine TC.bv_ (Hr:=[φ b179 #[.int .i64 ((nth v19.1.arcs k171 az_).frm),.int .i64 ((nth v19.1.arcs k171 az_).to),.int .u64 ((((nth v19.1.arcs k171 az_).set).a:Nat):Int),.int .u64 ((((nth v19.1.arcs k171 az_).set).b:Nat):Int),.int .u64 ((((nth v19.1.arcs k171 az_).set).c:Nat):Int),.int .u64 ((((nth v19.1.arcs k171 az_).set).d:Nat):Int),.string (bs ((nth v19.1.arcs k171 az_).out)),.bool ((nth v19.1.arcs k171 az_).copy)] 66,φ b101 (au_ v19.1 a108_1 c108_1 a108_2 c108_2 a108_3 c108_3) 25,φ b103 #[.string (bs ([]:T_1)),nl_,nl_,nl_,nl_] 32,φ b112 #[.slice a115 ((replicate v19.1.states.toNat ([]:List Arc)).length) c116,.slice a119 ((replicate v19.1.states.toNat ([]:T_2)).length) c120,.int .i64 x1,nl_,.map (some b110),.string (bs ([]:T_1)),nl_,nl_,nl_,nl_] 74,Res.nest 30 9 1 eS_ (.slice a119 (replicate v19.1.states.toNat ([]:T_2)).length c120) (replicate v19.1.states.toNat (jt_:NP T_1)),Res.mapB h3_ io_ (some b110) (FM.emp:FM T_1 Int)]) (fun r hr=>et_ [0,1,2,3,5,6] z hr) [] (by kernel_rfl) (Ψ 0 z (a0_ (.inl z) z) z (Ψ 1 z (ac_ z z) z (Ψ 2 z (aa_ z sq_ z) z (TA.b 3 z (ab_ z ag71 z (i:=3) z z) z (Ψ 4 z (aa_ z ip_ z) z (TA.b 5 z (ab_ z ag3 z (i:=0) z z) z (Ψ 6 z (a0_ (.inl z) z) z (Ψ 7 z (ac_ z z) z (Ψ 8 z (aa_ z sq_ z) z (TA.b 9 z (ab_ z ag71 z (i:=3) z z) z (Ψ 10 z (aa_ z ip_ z) z (TA.b 11 z (ab_ z ag3 z (i:=0) z z) z (TA.know (ef_ (q:=4) z zf169) (fun ⟨hs192,hs192b⟩=> ?_))))))))))))))
   refine TA.b 12 z (OpVal.index z underlying71 u4_ z z hs192 u71.1 u71.2) z (TA.b 14 z (ak_ z r7_ g5_ z (i:=0) z z) z ?_)
   obtain ⟨p193,hz193,hm193⟩:=Zn.at zf169 (i:=((nth v19.1.arcs k171 az_).frm).toNat) (by omega)
   refine TA.actN [13,15] (by kernel_rfl) (an z z (OpVal.ok (bh_ z k0_ z (q:=4) z hz193 hm193) z z ⟨(fun w h=>ez_ (d0_.le.refl _) (fun r hr=>et_ [0,1,2,3,5,6] z hr) w h),?_⟩) (an z z (OpOk.lit (enc:=d8_) [(nth v19.1.arcs k171 az_)] z h9_ g5_ ki_ z z z ee_ (by decide) (by decide) az_ z (by decide) z (by decide) f5_ (fun a194 c195=>⟨(fun w h=>ez_ (d0_.le.refl _) (fun r hr=>et_ [1,2,3,4,6,7] z hr) w h),?_⟩)) (True.intro)))
   ·skip
    refine TA.ac 15 z (OpOk.lit (enc:=d8_) [(nth v19.1.arcs k171 az_)] z h9_ g5_ ki_ z z z ee_ (by decide) (by decide) az_ z (by decide) z (by decide) f5_ (fun a197 c198=>⟨(fun w h=>ez_ (d0_.le.refl _) (fun r hr=>et_ [1,2,3,4,6,7] z hr) w h),?_⟩))
    refine TA.front 5 z z (TA.by (fun w h=>Reach.takeN hz193 hm193 h) (TA.ac 16 z (av_ z z h9_ g5_ z8_ ki_ z z (by decide) z z z (.inr ⟨_,1,z⟩) (by simpa using u75) (by decide) (fun a201 c202=>(k3 ?_)))))
    refine TA.know (f4_ (q:=1) z zf169) (fun ⟨hs203,hs203b⟩=> ?_)
    refine TA.b 17 z (OpVal.index z underlying71 u4_ z z hs203 u76.1 u76.2) z (TA.front 1 z z (TA.front 1 z z ?_))
    have hn205:(l166.set (((nth v19.1.arcs k171 az_).frm).toNat) ((nth l166 (((nth v19.1.arcs k171 az_).frm).toNat) [])++[(nth v19.1.arcs k171 az_)])).length=(replicate v19.1.states.toNat ([]:List Arc)).length:=(ls_ ..).trans hn167
    refine TA.ac 18 rfl (bf_ (l':=((nth l166 (((nth v19.1.arcs k171 az_).frm).toNat) [])++[(nth v19.1.arcs k171 az_)])) rfl u4_ rfl rfl rfl rfl rfl (by rw [zf169.len];omega) zf169 (fun zf204=>(k2 ?_)))
    exact TA.dn (B.n (S.n (cf ((),(z168.set (((nth v19.1.arcs k171 az_).frm).toNat) (((nth l166 (((nth v19.1.arcs k171 az_).frm).toNat) [])++[(nth v19.1.arcs k171 az_)]),(a201,c202)))) ⟨hh,hn205,zf204,zf170⟩ (δ [7,7,2,7,7,7] 6))))
   skip
   obtain ⟨p206,hz206,hm206⟩:=Zn.at zf169 (i:=((nth v19.1.arcs k171 az_).frm).toNat) (by omega)
   refine TA.ac 13 z (OpVal.ok (bh_ z k0_ z (q:=5) z hz206 hm206) z z ⟨(fun w h=>ez_ (d0_.le.refl _) (fun r hr=>et_ [1,2,3,4,6,7] z hr) w h),?_⟩)
   refine TA.front 5 z z (TA.by (fun w h=>Reach.takeN hz206 hm206 h) (TA.ac 16 z (av_ z z h9_ g5_ z8_ ki_ z z (by decide) z z z (.inr ⟨_,1,z⟩) (by simpa using u75) (by decide) (fun a208 c209=>(k3 ?_)))))
   refine TA.know (f4_ (q:=1) z zf169) (fun ⟨hs210,hs210b⟩=> ?_)
   refine TA.b 17 z (OpVal.index z underlying71 u4_ z z hs210 u76.1 u76.2) z (TA.front 1 z z (TA.front 1 z z ?_))
   have hn212:(l166.set (((nth v19.1.arcs k171 az_).frm).toNat) ((nth l166 (((nth v19.1.arcs k171 az_).frm).toNat) [])++[(nth v19.1.arcs k171 az_)])).length=(replicate v19.1.states.toNat ([]:List Arc)).length:=(ls_ ..).trans hn167
   refine TA.ac 18 rfl (bf_ (l':=((nth l166 (((nth v19.1.arcs k171 az_).frm).toNat) [])++[(nth v19.1.arcs k171 az_)])) rfl u4_ rfl rfl rfl rfl rfl (by rw [zf169.len];omega) zf169 (fun zf211=>(k2 ?_)))
   exact TA.dn (B.n (S.n (cf ((),(z168.set (((nth v19.1.arcs k171 az_).frm).toNat) (((nth l166 (((nth v19.1.arcs k171 az_).frm).toNat) [])++[(nth v19.1.arcs k171 az_)]),(a208,c209)))) ⟨hh,hn212,zf211,zf170⟩ (δ [7,7,2,7,7,7] 6))))
  skip
  obtain ⟨_,z176⟩:=g
  obtain ⟨hh,hn175,zf177,zf178⟩:=hg
  try dsimp only at hn175 zf177 zf178 ⊢
  dsimp only [Gb_]at hh
  have zf177b:=zf177.len
  have zf178b:=zf178.len
  refine TC.know (ef_ (q:=3) z zf177) (fun ⟨_,hb213⟩=> ?_)
  refine TC.know (ef_ (q:=4) z zf178) (fun ⟨_,hb214⟩=> ?_)
  refine π (ω z (OpVal.succ z z z (by omega)) (θ z z (κ ?_)))
  obtain ⟨hh,hlt215⟩:=ey_ hR1 hh
  exact lf (((l166.set (((nth v19.1.arcs k171 az_).frm).toNat) ((nth l166 (((nth v19.1.arcs k171 az_).frm).toNat) [])++[(nth v19.1.arcs k171 az_)])),(k171+1)),z176) hlt215 ⟨hh,hn175,zf177,zf178⟩ (δ [5,5,5,5,5,5] 6)
 refine TC.exit (S.x (S.x ?_))
 replace hh:=el_ hR1 hh
 refine Δ (S.n (ν (ξ (ω z (aa_ z f6_ z) (ω z (ab_ z jv_ z (i:=0) z z) (ω z (lenC z ge_ z) (θ z z (κ (υ (TC.ao_ (α:=(T_3×Nat)×((List (NP T_1)))) (rgs [(11,1),(78,24)]) (fun g=>[(78,.int .i64 ((g.1.2:Nat):Int))]) (fun g=>[φ b101 (au_ v19.1 a108_1 c108_1 a108_2 c108_2 a108_3 c108_3) 25,φ b103 #[.string (bs ([]:T_1)),nl_,nl_,nl_,nl_] 32,φ b112 #[.slice a115 ((replicate v19.1.states.toNat ([]:List Arc)).length) c116,.slice a119 ((replicate v19.1.states.toNat ([]:T_2)).length) c120,.int .i64 x1,nl_,.map (some b110),.string (bs ([]:T_1)),nl_,nl_,nl_,nl_] 74,Res.nest 23 66 8 d8_ (.slice a115 (replicate v19.1.states.toNat ([]:List Arc)).length c116) z168,Res.nest 30 9 1 eS_ (.slice a119 (replicate v19.1.states.toNat ([]:T_2)).length c120) g.2,Res.mapB h3_ io_ (some b110) (FM.emp:FM T_1 Int)]) (fun g=>τ108) (fun g=>eq_ (fun q:T_3×Nat=>Cg_ v19 l166 x1 q.1 q.2) g.1=some r∧l166.length=(replicate v19.1.states.toNat ([]:List Arc)).length∧Zn z168 l166∧g.1.1.length=(replicate v19.1.states.toNat ([]:T_2)).length∧Zn g.2 g.1.1) (fun g=>eh_ (fun q:T_3×Nat=>Cg_ v19 l166 x1 q.1 q.2) g.1) (((replicate v19.1.states.toNat ([]:T_2)),0),(replicate v19.1.states.toNat (jt_:NP T_1))) (δ [5,5,5,5,5,5] 6) z (by repeat (first|exact trivial|refine ⟨z,?_⟩)) ⟨hh,hn167,zf169,z,zf170⟩ (fun g2 j2 hg2=> ?_)))))))))))
 obtain ⟨⟨l235,k239⟩,z237⟩:=g2
 obtain ⟨hh,hn233,zf234,hn236,zf238⟩:=hg2
 try dsimp only at hn233 zf234 hn236 zf238 ⊢
 obtain ⟨z1,hh,hR1⟩:=eo_ hh
 dsimp only [Cg_]at hh
 have zf234b:=zf234.len
 have zf238b:=zf238.len
 refine TC.know (ef_ (q:=3) z zf234) (fun ⟨_,hb240⟩=> ?_)
 refine TC.know (ef_ (q:=4) z zf238) (fun ⟨_,hb241⟩=> ?_)
 refine ξ (ω z (OpVal.lss z z z) (κ (ν (TC.cD z hh (fun h242 hh=> ?_) (fun h242 hh=> ?_)))))
 ·refine ι (S.n (TC.cutG (α:=(Unit)×((List (NP T_1)))) (rgs [(11,1),(80,21)]) (fun g=>[]) (fun g=>[φ b101 (au_ v19.1 a108_1 c108_1 a108_2 c108_2 a108_3 c108_3) 25,φ b103 #[.string (bs ([]:T_1)),nl_,nl_,nl_,nl_] 32,φ b112 #[.slice a115 ((replicate v19.1.states.toNat ([]:List Arc)).length) c116,.slice a119 ((replicate v19.1.states.toNat ([]:T_2)).length) c120,.int .i64 x1,nl_,.map (some b110),.string (bs ([]:T_1)),nl_,nl_,nl_,nl_] 74,Res.nest 23 66 8 d8_ (.slice a115 (replicate v19.1.states.toNat ([]:List Arc)).length c116) z168,Res.nest 30 9 1 eS_ (.slice a119 (replicate v19.1.states.toNat ([]:T_2)).length c120) g.2,Res.mapB h3_ io_ (some b110) (FM.emp:FM T_1 Int)]) (fun g=>τ108) (fun g=>Gc_ l235 v19 k239=some z1∧l166.length=(replicate v19.1.states.toNat ([]:List Arc)).length∧Zn z168 l166∧(l235.set (((nth v19.1.ends k239 tz_).state).toNat) ((nth l235 (((nth v19.1.ends k239 tz_).state).toNat) [])++[(nth v19.1.ends k239 tz_).out])).length=(replicate v19.1.states.toNat ([]:T_2)).length∧Zn g.2 (l235.set (((nth v19.1.ends k239 tz_).state).toNat) ((nth l235 (((nth v19.1.ends k239 tz_).state).toNat) [])++[(nth v19.1.ends k239 tz_).out]))) ?_ (fun g j hg=> ?_)))
  ·skip
   refine υ (ξ (ω z (af_ z ge_ fr_ z z hr108_1.rv.sl (by omega)) (ω z (a7_ tz_ z ni_ fr_ z hr108_1 (by omega) (by omega)) (ζ z (OpOk.alloc z ik_ z z (fun b248=> ?_))))))
   refine ζ z (storeAll z fr_ z z z z z z ?_)
   refine κ ?_
   obtain ⟨u101,hh⟩:=d6_ hh
   obtain ⟨u106,hh⟩:=d6_ hh
   obtain ⟨u107,hh⟩:=d6_ hh
   refine TC.bv_ (Hr:=[φ b248 #[.int .i64 ((nth v19.1.ends k239 tz_).state),.string (bs ((nth v19.1.ends k239 tz_).out))] 76,φ b101 (au_ v19.1 a108_1 c108_1 a108_2 c108_2 a108_3 c108_3) 25,φ b103 #[.string (bs ([]:T_1)),nl_,nl_,nl_,nl_] 32,φ b112 #[.slice a115 ((replicate v19.1.states.toNat ([]:List Arc)).length) c116,.slice a119 ((replicate v19.1.states.toNat ([]:T_2)).length) c120,.int .i64 x1,nl_,.map (some b110),.string (bs ([]:T_1)),nl_,nl_,nl_,nl_] 74,Res.nest 23 66 8 d8_ (.slice a115 (replicate v19.1.states.toNat ([]:List Arc)).length c116) z168,Res.mapB h3_ io_ (some b110) (FM.emp:FM T_1 Int)]) (fun r hr=>et_ [0,1,2,3,4,6] z hr) [] (by kernel_rfl) (Ψ 0 z (a0_ (.inl z) z) z (Ψ 1 z (ac_ z z) z (Ψ 2 z (aa_ z qb_ z) z (TA.b 3 z (ab_ z m4_ z (i:=3) z z) z (Ψ 4 z (aa_ z gj_ z) z (TA.b 5 z (ab_ z ag3 z (i:=0) z z) z (Ψ 6 z (a0_ (.inl z) z) z (Ψ 7 z (ac_ z z) z (Ψ 8 z (aa_ z qb_ z) z (TA.b 9 z (ab_ z m4_ z (i:=3) z z) z (Ψ 10 z (aa_ z gj_ z) z (TA.b 11 z (ab_ z ag3 z (i:=0) z z) z (TA.know (ef_ (q:=5) z zf238) (fun ⟨hs261,hs261b⟩=> ?_))))))))))))))
   refine TA.b 12 z (OpVal.index z l4_ kn_ z z hs261 u101.1 u101.2) z (Ψ 14 z (aa_ z fh_ z) z (TA.b 15 z (ab_ z ag9 z (i:=0) z z) z ?_))
   obtain ⟨p262,hz262,hm262⟩:=Zn.at zf238 (i:=((nth v19.1.ends k239 tz_).state).toNat) (by omega)
   refine TA.actN [13,16] (by kernel_rfl) (an z z (OpVal.ok (bh_ z kv_ z (q:=5) z hz262 hm262) z z ⟨(fun w h=>ez_ (d0_.le.refl _) (fun r hr=>et_ [0,1,2,3,4,6] z hr) w h),?_⟩) (an z z (OpOk.lit (enc:=eS_) [(nth v19.1.ends k239 tz_).out] z gw_ sz9 ze9 z z z es_ (by decide) (by decide) ([]:T_1) z (by decide) z (by decide) pn_ (fun a263 c264=>⟨(fun w h=>ez_ (d0_.le.refl _) (fun r hr=>et_ [1,2,3,4,5,7] z hr) w h),?_⟩)) (True.intro)))
   ·skip
    refine TA.ac 16 z (OpOk.lit (enc:=eS_) [(nth v19.1.ends k239 tz_).out] z gw_ sz9 ze9 z z z es_ (by decide) (by decide) ([]:T_1) z (by decide) z (by decide) pn_ (fun a266 c267=>⟨(fun w h=>ez_ (d0_.le.refl _) (fun r hr=>et_ [1,2,3,4,5,7] z hr) w h),?_⟩))
    refine TA.front 6 z z (TA.by (fun w h=>Reach.takeN hz262 hm262 h) (TA.ac 17 z (av_ z z gw_ sz9 by9 ze9 z z (by decide) z z z (.inr ⟨_,1,z⟩) (by simpa using u106) (by decide) (fun a270 c271=>(k3 ?_)))))
    refine TA.know (f4_ (q:=1) z zf238) (fun ⟨hs272,hs272b⟩=> ?_)
    refine TA.b 18 z (OpVal.index z l4_ kn_ z z hs272 u107.1 u107.2) z (TA.front 1 z z (TA.front 1 z z ?_))
    have hn274:(l235.set (((nth v19.1.ends k239 tz_).state).toNat) ((nth l235 (((nth v19.1.ends k239 tz_).state).toNat) [])++[(nth v19.1.ends k239 tz_).out])).length=(replicate v19.1.states.toNat ([]:T_2)).length:=(ls_ ..).trans hn236
    refine TA.ac 19 rfl (bf_ (l':=((nth l235 (((nth v19.1.ends k239 tz_).state).toNat) [])++[(nth v19.1.ends k239 tz_).out])) rfl kn_ rfl rfl rfl rfl rfl (by rw [zf238.len];omega) zf238 (fun zf273=>(k2 ?_)))
    exact TA.dn (B.n (S.n (cf ((),(z237.set (((nth v19.1.ends k239 tz_).state).toNat) (((nth l235 (((nth v19.1.ends k239 tz_).state).toNat) [])++[(nth v19.1.ends k239 tz_).out]),(a270,c271)))) ⟨hh,hn233,zf234,hn274,zf273⟩ (δ [7,1,7,7,7,7] 6))))
   skip
   obtain ⟨p275,hz275,hm275⟩:=Zn.at zf238 (i:=((nth v19.1.ends k239 tz_).state).toNat) (by omega)
   refine TA.ac 13 z (OpVal.ok (bh_ z kv_ z (q:=6) z hz275 hm275) z z ⟨(fun w h=>ez_ (d0_.le.refl _) (fun r hr=>et_ [1,2,3,4,5,7] z hr) w h),?_⟩)
   refine TA.front 6 z z (TA.by (fun w h=>Reach.takeN hz275 hm275 h) (TA.ac 17 z (av_ z z gw_ sz9 by9 ze9 z z (by decide) z z z (.inr ⟨_,1,z⟩) (by simpa using u106) (by decide) (fun a277 c278=>(k3 ?_)))))
   refine TA.know (f4_ (q:=1) z zf238) (fun ⟨hs279,hs279b⟩=> ?_)
   refine TA.b 18 z (OpVal.index z l4_ kn_ z z hs279 u107.1 u107.2) z (TA.front 1 z z (TA.front 1 z z ?_))
   have hn281:(l235.set (((nth v19.1.ends k239 tz_).state).toNat) ((nth l235 (((nth v19.1.ends k239 tz_).state).toNat) [])++[(nth v19.1.ends k239 tz_).out])).length=(replicate v19.1.states.toNat ([]:T_2)).length:=(ls_ ..).trans hn236
   refine TA.ac 19 rfl (bf_ (l':=((nth l235 (((nth v19.1.ends k239 tz_).state).toNat) [])++[(nth v19.1.ends k239 tz_).out])) rfl kn_ rfl rfl rfl rfl rfl (by rw [zf238.len];omega) zf238 (fun zf280=>(k2 ?_)))
   exact TA.dn (B.n (S.n (cf ((),(z237.set (((nth v19.1.ends k239 tz_).state).toNat) (((nth l235 (((nth v19.1.ends k239 tz_).state).toNat) [])++[(nth v19.1.ends k239 tz_).out]),(a277,c278)))) ⟨hh,hn233,zf234,hn281,zf280⟩ (δ [7,1,7,7,7,7] 6))))
  skip
  obtain ⟨_,z246⟩:=g
  obtain ⟨hh,hn243,zf244,hn245,zf247⟩:=hg
  try dsimp only at hn243 zf244 hn245 zf247 ⊢
  dsimp only [Gc_]at hh
  have zf244b:=zf244.len
  have zf247b:=zf247.len
  refine TC.know (ef_ (q:=3) z zf244) (fun ⟨_,hb282⟩=> ?_)
  refine TC.know (ef_ (q:=4) z zf247) (fun ⟨_,hb283⟩=> ?_)
  refine π (ω z (OpVal.succ z z z (by omega)) (θ z z (κ ?_)))
  obtain ⟨hh,hlt284⟩:=ey_ hR1 hh
  exact lf (((l235.set (((nth v19.1.ends k239 tz_).state).toNat) ((nth l235 (((nth v19.1.ends k239 tz_).state).toNat) [])++[(nth v19.1.ends k239 tz_).out])),(k239+1)),z246) hlt284 ⟨hh,hn243,zf244,hn245,zf247⟩ (δ [5,5,5,5,5,5] 6)
 refine TC.exit (S.x (S.x ?_))
 replace hh:=el_ hR1 hh
 refine Δ (S.n (ξ (TL.l z z (ω z (ak_ z jc_ hi_ z (i:=0) z z) ?_))))
 rw [←hn233]
 refine ψ 3 z z (TL.cm_ (fun w h=>Reach.bm_ ee_ zf234 h) (fun τ287 hle286 hr285=> ?_))
 replace hgl:=hgl.mono hle286
 replace hr108_0:=hr108_0.mono hle286
 replace hr108_1:=hr108_1.mono hle286
 replace hr108_2:=hr108_2.mono hle286
 have hr285b:=hr285.big
 rw [←hn236]
 refine ψ 3 z z (TL.cm_ (fun w h=>Reach.bm_ es_ zf238 h) (fun τ290 hle289 hr288=> ?_))
 replace hgl:=hgl.mono hle289
 replace hr108_0:=hr108_0.mono hle289
 replace hr108_1:=hr108_1.mono hle289
 replace hr108_2:=hr108_2.mono hle289
 replace hr285:=hr285.mono hle289
 have hr288b:=hr288.big
 refine TL.nilS 22 1 (ea_ 2 d2_ d1_).en ?_
 have zf291:=ZOk.nil τ290 (ea_ 2 d2_ d1_)
 refine TL.nilS 86 1 (ea_ 1 eI_ ep_).en ?_
 have zf293:=ZOk.nil τ290 (ea_ 1 eI_ ep_)
 refine TL.nilS 30 1 (ea_ 1 eS_ es_).en ?_
 have zf295:=ZOk.nil τ290 (ea_ 1 eS_ es_)
 refine TL.nilS 4 1 e1_ (TL.nilS 9 1 eS_ (ψ 1 z z (ψ 2 z z (ψ 3 z z (ψ 8 z z (ψ 5 z z (ψ 8 z z ?_)))))))
 obtain ⟨v113,u113,hh⟩:=eb_ hh
 refine ζ z (OpOk.call (G8_ (x0:=(⟨l166,l235,x1,([]:List (List Tip)),(FM.emp:FM T_1 Int),(⟨([]:T_1),([]:N_2),([]:T_3),([]:B_1),([]:T_2)⟩:Seq)⟩:Maker)) hgl hr285 hr288 zf291 zf293 zf295 hr108_0 hr108_1 hr108_2 u113) z z pf45 z z z z ?_)
 rintro _ τ299 _ hle299 ⟨a299_1,c299_2,a299_3,c299_4,a299_5,c299_6,a299_7,c299_8,rfl,hr299_9,hr299_10,hr299_11,hr299_12,rfl⟩
 have hr299_9b:=hr299_9.big
 have hr299_10b:=hr299_10.big
 have hr299_11b:=hr299_11.rv.big
 have hr299_12b:=hr299_12.rv.big
 refine ω z (OpVal.extract z z z) (ω z (OpVal.extract z z z) (ψ 1 z z (ζ z (storeAll z fs_ z z z z z z ?_))))
 refine θ z z (κ (TC.rt 1 ?_))
 obtain rfl:=so hh
 exact ro [] z (RVs.agg h1_ fs_ z (i:=0) z z (RVs.tmp z RVs.nil)) ⟨a299_1,c299_2,a299_3,c299_4,a299_5,c299_6,a299_7,c299_8,z,hr299_9,hr299_10,hr299_11,hr299_12,z⟩
def A2_(x0:T_2)(x1:T_2)(k104:Nat):Option ((Nat)⊕(Bool)):=
 ec_ (decide ((k104:Int)<((x0.length:Nat):Int))) (grd (k104<x1.length) (ec_ (decide ((nth x0 k104 [])≠(nth x1 k104 []))) (fin (some false)) (nxt (k104+1)))) (fin (some true))
def Bx_(x0:T_2)(x1:T_2):Option (Bool):=
 ec_ (decide (((x0.length:Nat):Int)≠((x1.length:Nat):Int))) (some false) (eq_ (fun q:Nat=>A2_ x0 x1 q) 0)
theorem Es_{σ:d0_}{x0:T_2}{x1:T_2}(f0_0:rS_ σ eS_ a0_0 c0_0 x0)(f1_0:rS_ σ eS_ a1_0 c1_0 x1){r:Bool}(hh:Bx_ x0 x1=some r):
  Con prog 27 #[.slice a0_0 x0.length c0_0,.slice a1_0 x1.length c1_0] σ [] (fd_ (.bool r) σ):=by
 dsimp only [Bx_]at hh
 have f0_0b:=f0_0.rv.big
 have f1_0b:=f1_0.rv.big
 refine Con.mk (n:=26) Tryz.func27 z z z (fun w0=> ?_)
 refine ξ (TL.j z z (κ (ν (ξ (TL.s z z (ω z (lenC z gw_ z) (TL.s z z (ω z (lenC z gw_ z) (ω z (OpVal.neq z z z) (κ (TC.cD z hh (fun h101 hh=> ?_) (fun h101 hh=> ?_))))))))))))
 ·refine ξ (TL.j z z (κ (TC.ret (S.r ?_))))
  obtain rfl:=so hh
  exact rq [4] ⟨z,z,z⟩
 refine ι (S.n (ν (ξ (θ z z (κ (υ (TC.ao_ (α:=(Nat)×(Unit)) (rgs [(4,2),(11,15)]) (fun g=>[(5,.int .i64 ((g.1:Nat):Int))]) (fun g=>[]) (fun g=>σ) (fun g=>eq_ (fun q:Nat=>A2_ x0 x1 q) g.1=some r) (fun g=>eh_ (fun q:Nat=>A2_ x0 x1 q) g.1) (0,()) (Sub.pre 0 z) z (by repeat (first|exact trivial|refine ⟨z,?_⟩)) hh (fun g1 j1 hg1=> ?_))))))))
 obtain ⟨k104,_⟩:=g1
 have hh:=hg1;clear hg1
 try dsimp only
 obtain ⟨z1,hh,hR1⟩:=eo_ hh
 dsimp only [A2_]at hh
 refine ν (ξ (θ z z (TL.s z z (ω z (lenC z gw_ z) (ω z (OpVal.lss z z z) (κ (TC.cD z hh (fun h105 hh=> ?_) (fun h105 hh=> ?_))))))))
 ·refine ι (S.n (ν (υ (ν ?_))))
  obtain ⟨u19,hh⟩:=d6_ hh
  refine TC.draw [] (by kernel_rfl) (Ψ 0 z (aj_ (.inl z) z) z (Ψ 1 z (ai_ (.inl z) z) z (TA.b 2 z (af_ z gw_ sz9 z z f0_0.rv.sl (by omega)) z (TA.b 3 z (al_ ([]:T_1) z ag9 z f0_0 (by omega) z) z (Ψ 4 z (aj_ (.inl z) z) z (Ψ 5 z (ai_ (.inl z) z) z (TA.b 6 z (af_ z gw_ sz9 z z f1_0.rv.sl (by omega)) z (TA.b 7 z (al_ ([]:T_1) z ag9 z f1_0 (by omega) z) z (Ψ 8 z (b3_ z z z) z (TA.dn (S.n (TC.cD z hh (fun h106 hh=> ?_) (fun h106 hh=> ?_)))))))))))))
  ·refine ξ (TL.j z z (κ (TC.ret (B.r (S.r (S.r ?_))))))
   replace hh:=el_ hR1 hh
   refine B.r (S.r ?_)
   obtain rfl:=so hh
   exact rq [4] ⟨z,z,z⟩
  refine ι (B.n (S.n (π (θ z z (ω z (OpVal.succ z z z (by omega)) (θ z z (κ ?_)))))))
  obtain ⟨hh,hlt107⟩:=ey_ hR1 hh
  exact lf ((k104+1),()) hlt107 hh (Sub.pre 0 z)
 refine TC.exit (S.x (S.x ?_))
 replace hh:=el_ hR1 hh
 refine Δ (S.n (ξ (TL.j z z (κ (TC.ret ?_)))))
 obtain rfl:=so hh
 exact rq [4] ⟨z,z,z⟩
def Bc_(x0:Fst)(i123:Int):Option (Bool):=
 ec_ (decide (i123≤60)) (ec_ (decide (x0.states≤20)) (some true) (some (decide (1024<x0.states)))) (some false)
def Af_(x0:Fst)(i128:Int)(k129:Nat):Option ((Int×Nat)⊕(Bool)):=
 ec_ (decide ((k129:Int)<((x0.arcs.length:Nat):Int))) (ec_ (decide (i128≤60)) (nxt ((IntKind.i64.wrap (i128+(IntKind.i64.wrap (Int.tdiv ((((nth x0.arcs k129 az_).out).length:Nat):Int) 40)))),(k129+1))) (fin (Bc_ x0 i128))) (fin (Bc_ x0 i128))
def Bd_(x0:Fst)(i113:Int):Option (Bool):=
 eq_ (fun q:Int×Nat=>Af_ x0 q.1 q.2) (i113,0)
def Ac_(x0:Fst)(i118:Int)(k119:Nat):Option ((Int×Nat)⊕(Bool)):=
 ec_ (decide ((k119:Int)<((x0.ends.length:Nat):Int))) (ec_ (decide (i118≤60)) (nxt ((IntKind.i64.wrap (i118+(IntKind.i64.wrap (Int.tdiv ((((nth x0.ends k119 tz_).out).length:Nat):Int) 40)))),(k119+1))) (fin (Bd_ x0 i118))) (fin (Bd_ x0 i118))
def Bf_(x0:Fst)(i103:Int):Option (Bool):=
 eq_ (fun q:Int×Nat=>Ac_ x0 q.1 q.2) (i103,0)
def Ab_(x0:Fst)(i108:Int)(k109:Nat):Option ((Int×Nat)⊕(Bool)):=
 ec_ (decide ((k109:Int)<((x0.starts.length:Nat):Int))) (ec_ (decide (i108≤60)) (nxt ((IntKind.i64.wrap (i108+(IntKind.i64.wrap (Int.tdiv ((((nth x0.starts k109 tz_).out).length:Nat):Int) 40)))),(k109+1))) (fin (Bf_ x0 i108))) (fin (Bf_ x0 i108))
def Cz_(x0:Fst):Option (Bool):=
 eq_ (fun q:Int×Nat=>Ab_ x0 q.1 q.2) ((IntKind.i64.wrap ((IntKind.i64.wrap (((x0.starts.length:Nat):Int)+((x0.ends.length:Nat):Int)))+((x0.arcs.length:Nat):Int))),0)
theorem Gm_{σ:d0_}{x0:Fst}(f0_0:RS σ 2 d2_ (.slice a0_0 x0.starts.length c0_0) x0.starts)(f0_1:RS σ 2 d2_ (.slice a0_1 x0.ends.length c0_1) x0.ends)(f0_2:RS σ 8 d8_ (.slice a0_2 x0.arcs.length c0_2) x0.arcs){r:Bool}(hh:Cz_ x0=some r):
  Con prog 42 #[.agg (au_ x0 a0_0 c0_0 a0_1 c0_1 a0_2 c0_2)] σ [] (fd_ (.bool r) σ):=by
 dsimp only [Cz_]at hh
 have f0_0b:=f0_0.rv.big
 have f0_1b:=f0_1.rv.big
 have f0_2b:=f0_2.rv.big
 refine Con.mk (n:=93) Tryz.func42 z z z (fun w0=> ?_)
 refine ξ (ζ z (boxA z z z z (fun b101=> ?_)))
 refine TL.j z z (κ (ξ (ω z (aa_ z f2_ z) (ω z (ab_ z jv_ z (i:=0) z z) (ω z (lenC z ge_ z) (ω z (aa_ z f6_ z) (ω z (ab_ z jv_ z (i:=0) z z) (ω z (lenC z ge_ z) (ω z (addW z z z) (ω z (aa_ z fk_ z) (ω z (ab_ z k0_ z (i:=0) z z) (ω z (lenC z h9_ z) (ω z (addW z z z) (θ z z (κ ?_)))))))))))))))
 refine TC.cutG (α:=(Int)×(Unit)) (rgs [(3,2),(18,21)]) (fun g=>[(3,.int .i64 g.1)]) (fun g=>[φ b101 (au_ x0 a0_0 c0_0 a0_1 c0_1 a0_2 c0_2) 25]) (fun g=>σ) (fun g=>Bf_ x0 g.1=some r) ?_ (fun g j hg=> ?_)
 ·skip
  refine ξ (θ z z (κ (υ (TC.ao_ (α:=(Int×Nat)×(Unit)) (rgs [(3,2),(18,21)]) (fun g=>[(3,.int .i64 g.1.1),(4,.int .i64 ((g.1.2:Nat):Int))]) (fun g=>[φ b101 (au_ x0 a0_0 c0_0 a0_1 c0_1 a0_2 c0_2) 25]) (fun g=>σ) (fun g=>eq_ (fun q:Int×Nat=>Ab_ x0 q.1 q.2) g.1=some r) (fun g=>eh_ (fun q:Int×Nat=>Ab_ x0 q.1 q.2) g.1) (((IntKind.i64.wrap ((IntKind.i64.wrap (((x0.starts.length:Nat):Int)+((x0.ends.length:Nat):Int)))+((x0.arcs.length:Nat):Int))),0),()) (Sub.pre 1 z) z (by repeat (first|exact trivial|refine ⟨z,?_⟩)) hh (fun g1 j1 hg1=> ?_)))))
  obtain ⟨⟨i108,k109⟩,_⟩:=g1
  have hh:=hg1;clear hg1
  try dsimp only
  obtain ⟨z1,hh,hR1⟩:=eo_ hh
  dsimp only [Ab_]at hh
  refine ν (ξ (θ z z (ω z (aa_ z f2_ z) (ω z (ab_ z jv_ z (i:=0) z z) (ω z (lenC z ge_ z) (ω z (OpVal.lss z z z) (TL.j z z (TL.split 23 z (fun h110=> ?_) (fun h110=> ?_)))))))))
  ·replace hh:=ej_ h110 hh
   replace h110:=dt_ h110
   refine TL.g z (ai_ (.inl z) z) (TL.g z (OpVal.leq z z z) (ω z (ah_ z z z) (κ (TC.cD z hh (fun h111 hh=> ?_) (fun h111 hh=> ?_)))))
   ·refine ι (S.n (ν (υ (π (θ z z (ω z (aa_ z f2_ z) (ω z (ab_ z jv_ z (i:=0) z z) (θ z z (ω z (af_ z ge_ fr_ z z f0_0.rv.sl (by omega)) (ω z (a6_ z fh_ z f0_0.rv.sl (by omega)) (ω z (c6_ tz_ z ag9 z f0_0 (by omega) (by omega) z) (ω z (a5_ z u9_ z) (ω z (quoW z z z (by decide)) (ω z (addW z z z) (θ z z ?_)))))))))))))))
    refine TL.nil (B.n (S.n (π (θ z z (ω z (OpVal.succ z z z (by omega)) (θ z z (κ ?_)))))))
    obtain ⟨hh,hlt112⟩:=ey_ hR1 hh
    exact lf (((IntKind.i64.wrap (i108+(IntKind.i64.wrap (Int.tdiv ((((nth x0.starts k109 tz_).out).length:Nat):Int) 40)))),(k109+1)),()) hlt112 hh (Sub.pre 1 z)
   refine TC.exit (S.x (S.x ?_))
   replace hh:=el_ hR1 hh
   exact Δ (S.n (cf (i108,()) hh (Sub.pre 1 z)))
  replace hh:=ei_ h110 hh
  replace h110:=df_ h110
  refine χ z (χ z (ω z (ag_ z z z) (κ (TC.f z (TC.exit (S.x (S.x ?_)))))))
  replace hh:=el_ hR1 hh
  exact Δ (S.n (cf (i108,()) hh (Sub.pre 1 z)))
 skip
 obtain ⟨i103,_⟩:=g
 have hh:=hg;clear hg
 try dsimp only
 dsimp only [Bf_]at hh
 refine TC.cutG (α:=(Int)×(Unit)) (rgs [(3,1),(5,1),(39,21)]) (fun g=>[(3,.int .i64 g.1)]) (fun g=>[φ b101 (au_ x0 a0_0 c0_0 a0_1 c0_1 a0_2 c0_2) 25]) (fun g=>σ) (fun g=>Bd_ x0 g.1=some r) ?_ (fun g j hg=> ?_)
 ·skip
  refine ξ (θ z z (κ (υ (TC.ao_ (α:=(Int×Nat)×(Unit)) (rgs [(3,1),(5,1),(39,21)]) (fun g=>[(3,.int .i64 g.1.1),(5,.int .i64 ((g.1.2:Nat):Int))]) (fun g=>[φ b101 (au_ x0 a0_0 c0_0 a0_1 c0_1 a0_2 c0_2) 25]) (fun g=>σ) (fun g=>eq_ (fun q:Int×Nat=>Ac_ x0 q.1 q.2) g.1=some r) (fun g=>eh_ (fun q:Int×Nat=>Ac_ x0 q.1 q.2) g.1) ((i103,0),()) (Sub.pre 1 z) z (by repeat (first|exact trivial|refine ⟨z,?_⟩)) hh (fun g2 j2 hg2=> ?_)))))
  obtain ⟨⟨i118,k119⟩,_⟩:=g2
  have hh:=hg2;clear hg2
  try dsimp only
  obtain ⟨z1,hh,hR1⟩:=eo_ hh
  dsimp only [Ac_]at hh
  refine ν (ξ (θ z z (ω z (aa_ z f6_ z) (ω z (ab_ z jv_ z (i:=0) z z) (ω z (lenC z ge_ z) (ω z (OpVal.lss z z z) (TL.j z z (TL.split 44 z (fun h120=> ?_) (fun h120=> ?_)))))))))
  ·replace hh:=ej_ h120 hh
   replace h120:=dt_ h120
   refine TL.g z (ai_ (.inl z) z) (TL.g z (OpVal.leq z z z) (ω z (ah_ z z z) (κ (TC.cD z hh (fun h121 hh=> ?_) (fun h121 hh=> ?_)))))
   ·refine ι (S.n (ν (υ (π (θ z z (ω z (aa_ z f6_ z) (ω z (ab_ z jv_ z (i:=0) z z) (θ z z (ω z (af_ z ge_ fr_ z z f0_1.rv.sl (by omega)) (ω z (a6_ z fh_ z f0_1.rv.sl (by omega)) (ω z (c6_ tz_ z ag9 z f0_1 (by omega) (by omega) z) (ω z (a5_ z u9_ z) (ω z (quoW z z z (by decide)) (ω z (addW z z z) (θ z z ?_)))))))))))))))
    refine TL.nil (B.n (S.n (π (θ z z (ω z (OpVal.succ z z z (by omega)) (θ z z (κ ?_)))))))
    obtain ⟨hh,hlt122⟩:=ey_ hR1 hh
    exact lf (((IntKind.i64.wrap (i118+(IntKind.i64.wrap (Int.tdiv ((((nth x0.ends k119 tz_).out).length:Nat):Int) 40)))),(k119+1)),()) hlt122 hh (Sub.pre 1 z)
   refine TC.exit (S.x (S.x ?_))
   replace hh:=el_ hR1 hh
   exact Δ (S.n (cf (i118,()) hh (Sub.pre 1 z)))
  replace hh:=ei_ h120 hh
  replace h120:=df_ h120
  refine χ z (χ z (ω z (ag_ z z z) (κ (TC.f z (TC.exit (S.x (S.x ?_)))))))
  replace hh:=el_ hR1 hh
  exact Δ (S.n (cf (i118,()) hh (Sub.pre 1 z)))
 skip
 obtain ⟨i113,_⟩:=g
 have hh:=hg;clear hg
 try dsimp only
 dsimp only [Bd_]at hh
 refine TC.cutG (α:=(Int)×(Unit)) (rgs [(3,1),(6,1),(60,21)]) (fun g=>[(3,.int .i64 g.1)]) (fun g=>[φ b101 (au_ x0 a0_0 c0_0 a0_1 c0_1 a0_2 c0_2) 25]) (fun g=>σ) (fun g=>Bc_ x0 g.1=some r) ?_ (fun g j hg=> ?_)
 ·skip
  refine ξ (θ z z (κ (υ (TC.ao_ (α:=(Int×Nat)×(Unit)) (rgs [(3,1),(6,1),(60,21)]) (fun g=>[(3,.int .i64 g.1.1),(6,.int .i64 ((g.1.2:Nat):Int))]) (fun g=>[φ b101 (au_ x0 a0_0 c0_0 a0_1 c0_1 a0_2 c0_2) 25]) (fun g=>σ) (fun g=>eq_ (fun q:Int×Nat=>Af_ x0 q.1 q.2) g.1=some r) (fun g=>eh_ (fun q:Int×Nat=>Af_ x0 q.1 q.2) g.1) ((i113,0),()) (Sub.pre 1 z) z (by repeat (first|exact trivial|refine ⟨z,?_⟩)) hh (fun g3 j3 hg3=> ?_)))))
  obtain ⟨⟨i128,k129⟩,_⟩:=g3
  have hh:=hg3;clear hg3
  try dsimp only
  obtain ⟨z1,hh,hR1⟩:=eo_ hh
  dsimp only [Af_]at hh
  refine ν (ξ (θ z z (ω z (aa_ z fk_ z) (ω z (ab_ z k0_ z (i:=0) z z) (ω z (lenC z h9_ z) (ω z (OpVal.lss z z z) (TL.j z z (TL.split 65 z (fun h130=> ?_) (fun h130=> ?_)))))))))
  ·replace hh:=ej_ h130 hh
   replace h130:=dt_ h130
   refine TL.g z (ai_ (.inl z) z) (TL.g z (OpVal.leq z z z) (ω z (ah_ z z z) (κ (TC.cD z hh (fun h131 hh=> ?_) (fun h131 hh=> ?_)))))
   ·refine ι (S.n (ν (υ (π (θ z z (ω z (aa_ z fk_ z) (ω z (ab_ z k0_ z (i:=0) z z) (θ z z (ω z (af_ z h9_ g5_ z z f0_2.rv.sl (by omega)) (ω z (a6_ z it_ z f0_2.rv.sl (by omega)) (ω z (c6_ az_ z ag9 z f0_2 (by omega) (by omega) z) (ω z (a5_ z u9_ z) (ω z (quoW z z z (by decide)) (ω z (addW z z z) (θ z z ?_)))))))))))))))
    refine TL.nil (B.n (S.n (π (θ z z (ω z (OpVal.succ z z z (by omega)) (θ z z (κ ?_)))))))
    obtain ⟨hh,hlt132⟩:=ey_ hR1 hh
    exact lf (((IntKind.i64.wrap (i128+(IntKind.i64.wrap (Int.tdiv ((((nth x0.arcs k129 az_).out).length:Nat):Int) 40)))),(k129+1)),()) hlt132 hh (Sub.pre 1 z)
   refine TC.exit (S.x (S.x ?_))
   replace hh:=el_ hR1 hh
   exact Δ (S.n (cf (i128,()) hh (Sub.pre 1 z)))
  replace hh:=ei_ h130 hh
  replace h130:=df_ h130
  refine χ z (χ z (ω z (ag_ z z z) (κ (TC.f z (TC.exit (S.x (S.x ?_)))))))
  replace hh:=el_ hR1 hh
  exact Δ (S.n (cf (i128,()) hh (Sub.pre 1 z)))
 skip
 obtain ⟨i123,_⟩:=g
 have hh:=hg;clear hg
 try dsimp only
 dsimp only [Bc_]at hh
 refine ξ (θ z z (ω z (OpVal.leq z z z) (TL.j z z (TL.split 83 z (fun h133=> ?_) (fun h133=> ?_)))))
 ·replace hh:=ej_ h133 hh
  replace h133:=dt_ h133
  refine TL.g z (aa_ z fa_ z) (TL.g z (ab_ z ag3 z (i:=0) z z) (TL.g z (OpVal.leq z z z) (TL.g z (moveB (.inl z) z) (TL.split 87 z (fun h134=> ?_) (fun h134=> ?_)))))
  ·replace hh:=ej_ h134 hh
   replace h134:=dt_ h134
   refine χ z (χ z (χ z (TL.g z (ah_ z z z) (ω z (ah_ z z z) (TL.j z z (κ (TC.rt 0 ?_)))))))
   obtain rfl:=so hh
   exact rq [2] ⟨z,z,z⟩
  replace hh:=ei_ h134 hh
  replace h134:=df_ h134
  refine TL.g z (aa_ z fa_ z) (TL.g z (ab_ z ag3 z (i:=0) z z) (TL.g z (OpVal.gtr z z z) (TL.g z (ag_ z z z) (ω z (ah_ z z z) (TL.j z z (κ (TC.rt 0 ?_)))))))
  obtain rfl:=so hh
  exact rq [2] ⟨z,z,z⟩
 replace hh:=ei_ h133 hh
 replace h133:=df_ h133
 refine χ z (χ z (χ z (χ z (χ z (χ z (χ z (χ z (ω z (ag_ z z z) (TL.j z z (κ (TC.rt 0 ?_)))))))))))
 obtain rfl:=so hh
 exact rq [2] ⟨z,z,z⟩
def A9_(x0:N_1)(x1:N_1)(k104:Nat):Option ((Nat)⊕(Bool)):=
 ec_ (decide ((k104:Int)<((x0.length:Nat):Int))) (grd (k104<x1.length) (ec_ (decide ((nth x0 k104 0)≠(nth x1 k104 0))) (fin (some false)) (nxt (k104+1)))) (fin (some true))
def Ct_(x0:N_1)(x1:N_1):Option (Bool):=
 ec_ (decide (((x0.length:Nat):Int)≠((x1.length:Nat):Int))) (some false) (eq_ (fun q:Nat=>A9_ x0 x1 q) 0)
theorem Gj_{σ:d0_}{x0:N_1}{x1:N_1}(f0_0:rS_ σ eI_ a0_0 c0_0 x0)(f1_0:rS_ σ eI_ a1_0 c1_0 x1){r:Bool}(hh:Ct_ x0 x1=some r):
  Con prog 52 #[.slice a0_0 x0.length c0_0,.slice a1_0 x1.length c1_0] σ [] (fd_ (.bool r) σ):=by
 dsimp only [Ct_]at hh
 have f0_0b:=f0_0.rv.big
 have f1_0b:=f1_0.rv.big
 refine Con.mk (n:=26) Tryz.func52 z z z (fun w0=> ?_)
 refine ξ (TL.j z z (κ (ν (ξ (TL.s z z (ω z (lenC z e2_ z) (TL.s z z (ω z (lenC z e2_ z) (ω z (OpVal.neq z z z) (κ (TC.cD z hh (fun h101 hh=> ?_) (fun h101 hh=> ?_))))))))))))
 ·refine ξ (TL.j z z (κ (TC.ret (S.r ?_))))
  obtain rfl:=so hh
  exact rq [4] ⟨z,z,z⟩
 refine ι (S.n (ν (ξ (θ z z (κ (υ (TC.ao_ (α:=(Nat)×(Unit)) (rgs [(4,2),(11,15)]) (fun g=>[(5,.int .i64 ((g.1:Nat):Int))]) (fun g=>[]) (fun g=>σ) (fun g=>eq_ (fun q:Nat=>A9_ x0 x1 q) g.1=some r) (fun g=>eh_ (fun q:Nat=>A9_ x0 x1 q) g.1) (0,()) (Sub.pre 0 z) z (by repeat (first|exact trivial|refine ⟨z,?_⟩)) hh (fun g1 j1 hg1=> ?_))))))))
 obtain ⟨k104,_⟩:=g1
 have hh:=hg1;clear hg1
 try dsimp only
 obtain ⟨z1,hh,hR1⟩:=eo_ hh
 dsimp only [A9_]at hh
 refine ν (ξ (θ z z (TL.s z z (ω z (lenC z e2_ z) (ω z (OpVal.lss z z z) (κ (TC.cD z hh (fun h105 hh=> ?_) (fun h105 hh=> ?_))))))))
 ·refine ι (S.n (ν (υ (ν ?_))))
  obtain ⟨u19,hh⟩:=d6_ hh
  refine TC.draw [] (by kernel_rfl) (Ψ 0 z (aj_ (.inl z) z) z (Ψ 1 z (ai_ (.inl z) z) z (TA.b 2 z (af_ z e2_ sz3 z z f0_0.rv.sl (by omega)) z (TA.b 3 z (al_ (0:Int) z ag3 z f0_0 (by omega) z) z (Ψ 4 z (aj_ (.inl z) z) z (Ψ 5 z (ai_ (.inl z) z) z (TA.b 6 z (af_ z e2_ sz3 z z f1_0.rv.sl (by omega)) z (TA.b 7 z (al_ (0:Int) z ag3 z f1_0 (by omega) z) z (Ψ 8 z (OpVal.neq z z z) z (TA.dn (S.n (TC.cD z hh (fun h106 hh=> ?_) (fun h106 hh=> ?_)))))))))))))
  ·refine ξ (TL.j z z (κ (TC.ret (B.r (S.r (S.r ?_))))))
   replace hh:=el_ hR1 hh
   refine B.r (S.r ?_)
   obtain rfl:=so hh
   exact rq [4] ⟨z,z,z⟩
  refine ι (B.n (S.n (π (θ z z (ω z (OpVal.succ z z z (by omega)) (θ z z (κ ?_)))))))
  obtain ⟨hh,hlt107⟩:=ey_ hR1 hh
  exact lf ((k104+1),()) hlt107 hh (Sub.pre 0 z)
 refine TC.exit (S.x (S.x ?_))
 replace hh:=el_ hR1 hh
 refine Δ (S.n (ξ (TL.j z z (κ (TC.ret ?_)))))
 obtain rfl:=so hh
 exact rq [4] ⟨z,z,z⟩
end Go.Proofs.YtchebnpdnfhenaaGreatDoor
end

noncomputable section
namespace Go.E
open Go
abbrev Gh:=Nat→Option Addr×Nat
structure PO where
  dst:Nat
  use:List Nat
  val:List (Option Addr×Nat)→Value
  res:List (Option Addr×Nat)→List Res
  eat:List Nat
def PO.no:PO:=⟨0,[],fun _=>undef,fun _=>[],[]⟩
def po(D:List PO)(k:Nat):PO:=D.getD k PO.no
def pv(D:List PO)(k:Nat)(γ:Gh):Value:=(po D k).val ((po D k).use.map γ)
def pr(D:List PO)(k:Nat)(γ:Gh):List Res:=(po D k).res ((po D k).use.map γ)
def eaten(D:List PO)(L:Array Bool)(k:Nat):Bool:=(List.range D.length).any fun i=>L.getD i false && (po D i).eat.contains k
def pick(p:Nat→Bool)(f:Nat→List Res)(n:Nat):List Res:=(List.range n).flatMap fun k=>if p k=true then f k else []
def pR(D:List PO)(L:Array Bool)(γ:Gh):List Res:=pick (fun k=>L.getD k false && !eaten D L k) (fun k=>pr D k γ) D.length
section
variable {X:Ctx} {ops:Array Oper} {Q:QP} {e0:Env} {σ:d0_} {H0:List Res} {late:List Nat} {f:Nat} {D:List PO}
structure PJ (ops:Array Oper) (e0:Env) (H0:List Res) (D:List PO) (L:Array Bool) (γ:Gh) (e:Env) (H:List Res):Prop where
  size:L.size=ops.size
  on: ∀k,k<D.length→L.getD k false=true→e (po D k).dst=pv D k γ
  off: ∀t,(∀k,k<D.length→L.getD k false=true→(po D k).dst≠t)→e t=e0 t
  rest: ∀j,D.length≤j→L.getD j false=false
  heap:H.Perm (H0++pR D L γ)
structure ChkI (ops:Array Oper) (D:List PO) (i:Nat):Prop where
  deps: ∃o,ops[i]? =some o∧ ∀e∈o.after,Region.binds .any e=true→e.on<i
  use: ∀j∈(po D i).use,j=i∨after? ops ops.size i j=true
  eat: ∀j∈(po D i).eat,j<i∧after? ops ops.size i j=true
  dst: ∀k,k<D.length→k≠i→(po D k).dst≠(po D i).dst
  sep: ∀k,k<D.length→k≠i→ ∀j∈(po D i).eat,(po D k).eat.contains j=false
  ord:(List.range D.length).filter (fun k=>(po D i).eat.contains k)=(po D i).eat
end
end Go.E
end

noncomputable section
namespace Go.Proofs.YtchebnpdnfhenaaGreatDoor
open Go Go.E Go.E.OpVal Go.E.OpOk Go.Proofs.Tryz
open List (replicate)
theorem pf41:plainF Tryz.prog 41=true:=by kernel_rfl
theorem pf42:plainF Tryz.prog 42=true:=by kernel_rfl
theorem pf82:plainF Tryz.prog 82=true:=by kernel_rfl
def By_(k117:Nat)(l121:T_1):Option ((T_1×Nat)⊕(T_1)):=
 nxt (l121,(k117+1))
def Aa_(x0:BSet)(l114:T_1)(k117:Nat):Option ((T_1×Nat)⊕(T_1)):=
 ec_ (decide ((k117:Int)<256)) (grd (k117<256) (ec_ (x0.has k117) (grd ((l114.length+[(hn_ (k117:Int))].length) * 1≤140737488355328) (By_ k117 (l114++[(hn_ (k117:Int))]))) (By_ k117 l114))) (fin (some l114))
def Ch_(x0:BSet):Option (T_1):=
 eq_ (fun q:T_1×Nat=>Aa_ x0 q.1 q.2) (([]:T_1),0)
def Gp_(σ:d0_)(r:T_1):Value→d0_→List Res→Prop:=fun v σ' H'=>
 ∃a1 c1,v= .slice a1 r.length c1∧σ=σ'∧H'=[rs_ 5 e5_ a1 c1 r]
theorem Ge_{σ:d0_}{x0:BSet}{r:T_1}(hh:Ch_ x0=some r):
  Con prog 41 #[setV x0] σ [] (Gp_ σ r):=by
 dsimp only [Ch_]at hh
 refine Con.mk (n:=18) Tryz.func41 z z z (fun w0=> ?_)
 refine ξ (ζ z (boxA z z z z (fun b101=> ?_)))
 refine TL.s z z (κ (ξ (TL.s z z (κ (ν (ξ (θ z z (κ (υ (TC.nilS 5 1 e5_ (TC.ao_ (α:=(T_1×Nat)×((Option Addr)×Nat)) (rgs [(3,14)]) (fun g=>[(3,.slice g.2.1 g.1.1.length g.2.2),(4,.int .i64 ((g.1.2:Nat):Int))]) (fun g=>[φ b101 (setA x0) 64,ε 5 1 e5_ (.slice g.2.1 g.1.1.length g.2.2) g.1.1]) (fun g=>σ) (fun g=>eq_ (fun q:T_1×Nat=>Aa_ x0 q.1 q.2) g.1=some r) (fun g=>eh_ (fun q:T_1×Nat=>Aa_ x0 q.1 q.2) g.1) ((([]:T_1),0),(none,0)) (δ [1] 2) z (by repeat (first|exact trivial|refine ⟨z,?_⟩)) hh (fun g1 j1 hg1=> ?_))))))))))))
 obtain ⟨⟨l114,k117⟩,⟨a115,c116⟩⟩:=g1
 have hh:=hg1;clear hg1
 try dsimp only
 obtain ⟨z1,hh,hR1⟩:=eo_ hh
 dsimp only [Aa_]at hh
 refine η (i:=1) z (fun _ hb119 _=> ?_)
 refine ν (ξ (θ z z (ω z (OpVal.lss z z z) (κ (TC.cD z hh (fun h120 hh=> ?_) (fun h120 hh=> ?_))))))
 ·refine ι (S.n (TC.cutG (α:=(T_1)×((Option Addr)×Nat)) (rgs [(3,1),(9,8)]) (fun g=>[(3,.slice g.2.1 g.1.length g.2.2)]) (fun g=>[φ b101 (setA x0) 64,ε 5 1 e5_ (.slice g.2.1 g.1.length g.2.2) g.1]) (fun g=>σ) (fun g=>By_ k117 g.1=some z1) ?_ (fun g j hg=> ?_)))
  ·skip
   refine υ (ξ (ω z (ak_ z ag64 sz64 z (i:=0) z z) (θ z z ?_)))
   obtain ⟨u9,hh⟩:=d6_ hh
   refine ζ z (aw_ (rhas_con _ x0 k117 (BSet.isOk _) u9) z z pf82 z z z ?_)
   refine κ (TC.cB z hh (fun h124 hh=> ?_) (fun h124 hh=> ?_))
   ·refine π (TL.s z z (θ z z (ω z (bn_ z underlying3 underlying5 z) (ζ z (OpOk.lit (enc:=e5_) [(hn_ (k117:Int))] z th_ sz5 ze5 z z z gr_ (by decide) (by decide) (0:UInt8) z (by decide) z (by decide) gt_ (fun a125 c126=> ?_))))))
    refine ψ 2 z z ?_
    obtain ⟨u14,hh⟩:=d6_ hh
    refine ζ z (av_ z z th_ sz5 by5 ze5 z z (by decide) z z z (.inr ⟨_,0,z⟩) (by simpa using u14) (by decide) (fun a128 c129=> ?_))
    exact TL.s z z (TL.nil (B.n (S.n (cf ((l114++[(hn_ (k117:Int))]),(a128,c129)) hh (δ [2] 2)))))
   exact ι (B.n (S.n (cf (l114,(a115,c116)) hh (δ [1,1] 2))))
  skip
  obtain ⟨l121,⟨a122,c123⟩⟩:=g
  have hh:=hg;clear hg
  try dsimp only
  dsimp only [By_]at hh
  refine η (i:=1) z (fun _ hb130 _=> ?_)
  refine π (θ z z (ω z (OpVal.succ z z z (by omega)) (θ z z (κ ?_))))
  obtain ⟨hh,hlt131⟩:=ey_ hR1 hh
  exact lf ((l121,(k117+1)),(a122,c123)) hlt131 hh (δ [1,1] 2)
 refine TC.exit (S.x (S.x ?_))
 replace hh:=el_ hR1 hh
 refine Δ (S.n (ξ (TL.s z z (TL.s z z (κ (TC.ax_ (δ [1] 1) (TC.ret ?_)))))))
 obtain rfl:=so hh
 exact ro [rs_ 5 e5_ a115 c116 l114] z (RVs.tmp z RVs.nil) ⟨a115,c116,z,z,z⟩
def Be_(x0:Fst)(i103:Int):Option (Bool):=
 bnd (Cz_ x0) (fun v29=>ec_ v29 (ec_ (decide (((x0.arcs.length:Nat):Int)≤14)) (ec_ (decide (x0.states≤5)) (some (decide (i103≤40))) (ec_ (decide (1024<x0.states)) (some (decide (i103≤40))) (some false))) (some false)) (some false))
def Ad_(x0:Fst)(i108:Int)(k109:Nat):Option ((Int×Nat)⊕(Bool)):=
 ec_ (decide ((k109:Int)<((x0.arcs.length:Nat):Int))) (ec_ (decide (i108≤40)) (bnd (Ch_ ((nth x0.arcs k109 az_).set)) (fun v21=>nxt ((IntKind.i64.wrap (i108+((v21.length:Nat):Int))),(k109+1)))) (fin (Be_ x0 i108))) (fin (Be_ x0 i108))
def C1_(x0:Fst):Option (Bool):=
 eq_ (fun q:Int×Nat=>Ad_ x0 q.1 q.2) (0,0)
theorem Gr_{σ:d0_}{x0:Fst}(f0_0:RS σ 2 d2_ (.slice a0_0 x0.starts.length c0_0) x0.starts)(f0_1:RS σ 2 d2_ (.slice a0_1 x0.ends.length c0_1) x0.ends)(f0_2:RS σ 8 d8_ (.slice a0_2 x0.arcs.length c0_2) x0.arcs){r:Bool}(hh:C1_ x0=some r):
  Con prog 13 #[.agg (au_ x0 a0_0 c0_0 a0_1 c0_1 a0_2 c0_2)] σ [] (fd_ (.bool r) σ):=by
 dsimp only [C1_]at hh
 have f0_0b:=f0_0.rv.big
 have f0_1b:=f0_1.rv.big
 have f0_2b:=f0_2.rv.big
 refine Con.mk (n:=48) Tryz.func13 z z z (fun w0=> ?_)
 refine ξ (ζ z (boxA z z z z (fun b101=> ?_)))
 refine TL.j z z (κ (ξ (θ z z (κ (TC.cutG (α:=(Int)×(Unit)) (rgs [(3,23)]) (fun g=>[(3,.int .i64 g.1)]) (fun g=>[φ b101 (au_ x0 a0_0 c0_0 a0_1 c0_1 a0_2 c0_2) 25]) (fun g=>σ) (fun g=>Be_ x0 g.1=some r) ?_ (fun g j hg=> ?_))))))
 ·skip
  refine ξ (θ z z (κ (υ (TC.ao_ (α:=(Int×Nat)×(Unit)) (rgs [(3,23)]) (fun g=>[(3,.int .i64 g.1.1),(4,.int .i64 ((g.1.2:Nat):Int))]) (fun g=>[φ b101 (au_ x0 a0_0 c0_0 a0_1 c0_1 a0_2 c0_2) 25]) (fun g=>σ) (fun g=>eq_ (fun q:Int×Nat=>Ad_ x0 q.1 q.2) g.1=some r) (fun g=>eh_ (fun q:Int×Nat=>Ad_ x0 q.1 q.2) g.1) ((0,0),()) (Sub.pre 1 z) z (by repeat (first|exact trivial|refine ⟨z,?_⟩)) hh (fun g1 j1 hg1=> ?_)))))
  obtain ⟨⟨i108,k109⟩,_⟩:=g1
  have hh:=hg1;clear hg1
  try dsimp only
  obtain ⟨z1,hh,hR1⟩:=eo_ hh
  dsimp only [Ad_]at hh
  refine ν (ξ (θ z z (ω z (aa_ z fk_ z) (ω z (ab_ z k0_ z (i:=0) z z) (ω z (lenC z h9_ z) (ω z (OpVal.lss z z z) (TL.j z z (TL.split 10 z (fun h110=> ?_) (fun h110=> ?_)))))))))
  ·replace hh:=ej_ h110 hh
   replace h110:=dt_ h110
   refine TL.g z (ai_ (.inl z) z) (TL.g z (OpVal.leq z z z) (ω z (ah_ z z z) (κ (TC.cD z hh (fun h111 hh=> ?_) (fun h111 hh=> ?_)))))
   ·refine ι (S.n (ν (υ (π (θ z z (ω z (aa_ z fk_ z) (ω z (ab_ z k0_ z (i:=0) z z) (θ z z (ω z (af_ z h9_ g5_ z z f0_2.rv.sl (by omega)) (ω z (a6_ z jp_ z f0_2.rv.sl (by omega)) (ω z (dp_ az_ z ag64 sz64 z f0_2 (by omega) (by omega) (by omega) z z) ?_)))))))))))
    obtain ⟨v21,u21,hh⟩:=eb_ hh
    refine ζ z (OpOk.call (Ge_ u21) z z pf41 z z z z ?_)
    rintro _ _ _ hle112 ⟨a112_1,c112_1,rfl,rfl,rfl⟩
    refine ω z (lenC z th_ z) (ω z (addW z z z) (θ z z (TL.nil (B.n (S.n (π (θ z z (ω z (OpVal.succ z z z (by omega)) (θ z z (κ ?_))))))))))
    obtain ⟨hh,hlt114⟩:=ey_ hR1 hh
    exact lf (((IntKind.i64.wrap (i108+((v21.length:Nat):Int))),(k109+1)),()) hlt114 hh (δ [1] 1)
   refine TC.exit (S.x (S.x ?_))
   replace hh:=el_ hR1 hh
   exact Δ (S.n (cf (i108,()) hh (Sub.pre 1 z)))
  replace hh:=ei_ h110 hh
  replace h110:=df_ h110
  refine χ z (χ z (ω z (ag_ z z z) (κ (TC.f z (TC.exit (S.x (S.x ?_)))))))
  replace hh:=el_ hR1 hh
  exact Δ (S.n (cf (i108,()) hh (Sub.pre 1 z)))
 skip
 obtain ⟨i103,_⟩:=g
 have hh:=hg;clear hg
 try dsimp only
 dsimp only [Be_]at hh
 refine ξ (ω z (ak_ z jc_ hi_ z (i:=0) z z) ?_)
 obtain ⟨v29,u29,hh⟩:=eb_ hh
 refine ζ z (aw_ (Gm_ (x0:=x0) f0_0 f0_1 f0_2 u29) z z pf42 z z z ?_)
 refine TL.j z z (TL.split 28 z (fun h115=> ?_) (fun h115=> ?_))
 ·replace hh:=ej_ h115 hh
  refine TL.g z (aa_ z fk_ z) (TL.g z (ab_ z k0_ z (i:=0) z z) (TL.g z (lenC z h9_ z) (TL.g z (OpVal.leq z z z) (ω z (ah_ z z z) (TL.j z z (TL.split 34 z (fun h116=> ?_) (fun h116=> ?_)))))))
  ·replace hh:=ej_ h116 hh
   replace h116:=dt_ h116
   refine TL.g z (aa_ z fa_ z) (TL.g z (ab_ z ag3 z (i:=0) z z) (TL.g z (OpVal.leq z z z) (TL.g z (moveB (.inl z) z) (TL.split 38 z (fun h117=> ?_) (fun h117=> ?_)))))
   ·replace hh:=ej_ h117 hh
    replace h117:=dt_ h117
    refine χ z (χ z (χ z (TL.g z (ah_ z z z) (ω z (ah_ z z z) (TL.j z z (TL.g z (ai_ (.inl z) z) (TL.g z (OpVal.leq z z z) (ω z (ah_ z z z) (TL.j z z (κ (TC.rt 0 ?_)))))))))))
    obtain rfl:=so hh
    exact rq [2] ⟨z,z,z⟩
   replace hh:=ei_ h117 hh
   replace h117:=df_ h117
   refine TL.g z (aa_ z fa_ z) (TL.g z (ab_ z ag3 z (i:=0) z z) (TL.g z (OpVal.gtr z z z) (TL.g z (ag_ z z z) (ω z (ah_ z z z) (TL.j z z (TL.split 44 z (fun h118=> ?_) (fun h118=> ?_)))))))
   ·replace hh:=ej_ h118 hh
    replace h118:=dt_ h118
    refine TL.g z (ai_ (.inl z) z) (TL.g z (OpVal.leq z z z) (ω z (ah_ z z z) (TL.j z z (κ (TC.rt 0 ?_)))))
    obtain rfl:=so hh
    exact rq [2] ⟨z,z,z⟩
   replace hh:=ei_ h118 hh
   replace h118:=df_ h118
   refine χ z (χ z (ω z (ag_ z z z) (TL.j z z (κ (TC.rt 0 ?_)))))
   obtain rfl:=so hh
   exact rq [2] ⟨z,z,z⟩
  replace hh:=ei_ h116 hh
  replace h116:=df_ h116
  refine χ z (χ z (χ z (χ z (χ z (χ z (χ z (χ z (ω z (ag_ z z z) (TL.j z z (χ z (χ z (ω z (ag_ z z z) (TL.j z z (κ (TC.rt 0 ?_)))))))))))))))
  obtain rfl:=so hh
  exact rq [2] ⟨z,z,z⟩
 replace hh:=ei_ h115 hh
 refine χ z (χ z (χ z (χ z (ω z (ag_ z z z) (TL.j z z (χ z (χ z (χ z (χ z (χ z (χ z (χ z (χ z (ω z (ag_ z z z) (TL.j z z ?_)))))))))))))))
 refine χ z (χ z (ω z (ag_ z z z) (TL.j z z (κ (TC.rt 0 ?_)))))
 obtain rfl:=so hh
 exact rq [2] ⟨z,z,z⟩
end Go.Proofs.YtchebnpdnfhenaaGreatDoor
end

noncomputable section
namespace Go.E
open Go
section
variable {K:Type} [DecidableEq K]
theorem ho_: ∀{l m:List K},l.Nodup→(∀x∈l,x∈m)→l.length≤m.length
  |[],m,_,_=>Nat.zero_le _
  | x :: l, m, hn, hs => by
    rw [List.nodup_cons]at hn
    have hx:=hs x (mc_ ..)
    have:=ho_ (m:=m.erase x) hn.2 fun y hy=>by
      have h1:=hs y (mm_ _ hy)
      refine (List.mem_erase_of_ne ?_).2 h1
      intro e;subst e;exact hn.1 hy
    rw [List.length_erase_of_mem hx]at this
    have hp:=List.length_pos_of_mem hx
    simp only [List.length_cons];omega
theorem t5_{p:List K→Prop}(h0:p [])(h1: ∀l x,p l→p (l++[x]))(l:List K):p l:=by
  have: ∀m:List K,p m.reverse:=fun m=>by
    induction m with
    |nil=>exact h0
    |cons x m ih=>rw [List.reverse_cons];exact h1 _ _ ih
  simpa using this l.reverse
end
section
variable {β γ:Type}
structure Grp (key:β→Int) (val:β→γ) (n:Nat) (l:List (List γ)) (xs:List β):Prop where
  len:l.length=n
  row: ∀i,i<n→nth l i []=(xs.filter fun x=>decide (key x=(i:Int))).map val
theorem Grp.nil(key:β→Int)(val:β→γ)(n:Nat):Grp key val n (List.replicate n []) []:=⟨lr_ ..,fun i hi=>by simp [nth,List.getD,List.getElem?_replicate,hi]⟩
theorem Grp.snoc{key:β→Int}{val:β→γ}{n:Nat}{l:List (List γ)}{xs:List β}(h:Grp key val n l xs){x:β}(h0:0≤key x)(h1:key x<n):
    Grp key val n (l.set (key x).toNat (nth l (key x).toNat []++[val x])) (xs++[x]):=by
  refine ⟨by rw [ls_];exact h.len,fun i hi=> ?_⟩
  rw [List.filter_append,List.map_append,←h.row i hi]
  by_cases e:i=(key x).toNat
  · subst e
    have:key x=((key x).toNat:Int):=by omega
    have hl:=h.len
    rw [show nth (l.set (key x).toNat (nth l (key x).toNat []++[val x])) (key x).toNat []=nth l (key x).toNat []++[val x]from by simp [nth,List.getD,hl,hi]]
    simp [this.symm]
  have hne: ¬ key x=(i:Int):=by omega
  rw [show nth (l.set (key x).toNat (nth l (key x).toNat []++[val x])) i []=nth l i []from by simp [nth,List.getD,List.getElem?_set,Ne.symm e]]
  simp [hne]
theorem Grp.at{key:β→Int}{val:β→γ}{n:Nat}{l:List (List γ)}{xs:List β}(h:Grp key val n l xs){s:Int}(h0:0≤s)(h1:s<n):nth l s.toNat []=(xs.filter fun x=>decide (key x=s)).map val:=by
  rw [h.row _ (by omega)]
  have:((s.toNat:Nat):Int)=s:=by omega
  simp only [this]
theorem vv_{α R:Type}{step:Nat→Option (Nat⊕R)}{y no:R}(l:List α)(d:α)(p:α→Bool)(hs: ∀k,k<l.length→p (nth l k d)=true→step k=some (.inl (k+1)))
    (hn: ∀k,k<l.length→p (nth l k d)=false→step k=some (.inr no)) (hd:step l.length=some (.inr y)):eq_ step 0=some (if l.all p then y else no):=by
  have h:=s2_ (step:=step) (y:=no) (no:=y) (fun k=>k) (fun k=> !p (nth l k d)) l.length (fun k hk hp=>hs k hk (by simpa using hp)) (fun k hk hp=>hn k hk (by simpa using hp)) hd
  rw [h,yh_ l d (fun x=> !p x)]
  by_cases ha:l.all p=true
  · have:(l.any fun x=> !p x)=false:=by rw [List.any_eq_false];intro x hx;have:=(List.all_eq_true.1 ha) x hx;simp [this]
    rw [this,ha];rfl
  have:(l.any fun x=> !p x)=true:=by
    rw [Bool.not_eq_true,List.all_eq_false]at ha
    obtain ⟨x,hx,h⟩:=ha
    exact List.any_eq_true.2 ⟨x,hx,by simpa using h⟩
  rw [this];simp only [cond_true];rw [if_neg ha]
theorem n0_{α S R:Type}{step:S×Nat→Option ((S×Nat)⊕R)}{r:R}(l:List α)(d:α)(f:Nat→S)(hs: ∀k,k<l.length→step (f k,k)=some (.inl (f (k+1),k+1)))(hd:step (f l.length,l.length)=some (.inr r)):
    eq_ step (f 0,0)=some r:=r8_ (fun k=>(f k,k)) l.length hs hd
end
theorem iter_for {α S T R : Type} {step : T → Option (T ⊕ R)} (g : S → Nat → T) (l : List α) (d : α) (I : List α → S → Prop) (Q : R → Prop)
    (hs: ∀k s,k<l.length→I (l.take k) s→(∃s',step (g s k)=some (.inl (g s' (k+1)))∧I (l.take k++[nth l k d]) s')∨ ∃r,step (g s k)=some (.inr r)∧Q r)
    (hd: ∀s,I l s→ ∃r,step (g s l.length)=some (.inr r)∧Q r) {s0:S} (h0:I [] s0): ∃r,eq_ step (g s0 0)=some r∧Q r:=by
  have key: ∀m k s,l.length - k=m→k≤l.length→I (l.take k) s→ ∃r,eq_ step (g s k)=some r∧Q r:=by
    intro m
    induction m with
    |zero=>
      intro k s hm hk hI
      have hk:k=l.length:=by omega
      subst hk
      rw [List.take_length]at hI
      obtain ⟨r,h1,h2⟩:=hd s hI
      exact ⟨r,fb_ h1,h2⟩
    |succ m ih=>
      intro k s hm hk hI
      rcases hs k s (by omega) hI with ⟨s',h1,h2⟩|⟨r,h1,h2⟩
      · rw [←ex_ l (by omega) d]at h2
        obtain ⟨r,h3,h4⟩:=ih (k+1) s' (by omega) (by omega) h2
        exact ⟨r,gp_ h1 h3,h4⟩
      exact ⟨r,fb_ h1,h2⟩
  exact key _ 0 s0 rfl (Nat.zero_le _) h0
theorem d4_{α:Type}{p:Prop}[Decidable p]{a b:Option α}(h:p):ec_ (decide p) a b=a:=by rw [decide_eq_true h];rfl
theorem d5_{α:Type}{p:Prop}[Decidable p]{a b:Option α}(h: ¬ p):ec_ (decide p) a b=b:=by rw [decide_eq_false h];rfl
theorem ed_{α β:Type}{x:α}{f:α→Option β}:bnd (some x) f=f x:=rfl
theorem gk_{α:Type}{a b:Option α}:ec_ (!true) a b=b:=rfl
theorem id_{α:Type}{a b:Option α}:ec_ (!false) a b=a:=rfl
theorem er_ {S T R : Type} {step : T → Option (T ⊕ R)} (g : S → Nat → T) (n : Nat) (I : Nat → S → Prop) (Q : R → Prop)
    (hs: ∀k s,k<n→I k s→(∃s',step (g s k)=some (.inl (g s' (k+1)))∧I (k+1) s')∨ ∃r,step (g s k)=some (.inr r)∧Q r)
    (hd: ∀s,I n s→ ∃r,step (g s n)=some (.inr r)∧Q r) {s0:S} (h0:I 0 s0): ∃r,eq_ step (g s0 0)=some r∧Q r:=by
  have key: ∀m k s,n - k=m→k≤n→I k s→ ∃r,eq_ step (g s k)=some r∧Q r:=by
    intro m
    induction m with
    |zero=>
      intro k s hm hk hI
      have hk:k=n:=by omega
      subst hk
      obtain ⟨r,h1,h2⟩:=hd s hI
      exact ⟨r,fb_ h1,h2⟩
    |succ m ih=>
      intro k s hm hk hI
      rcases hs k s (by omega) hI with ⟨s',h1,h2⟩|⟨r,h1,h2⟩
      · obtain ⟨r,h3,h4⟩:=ih (k+1) s' (by omega) (by omega) h2
        exact ⟨r,gp_ h1 h3,h4⟩
      exact ⟨r,fb_ h1,h2⟩
  exact key _ 0 s0 rfl (Nat.zero_le _) h0
theorem ek_{α:Type}(l:List α)(i j:Nat)(x d:α):nth (l.set i x) j d=if i=j∧j<l.length then x else nth l j d:=by
  unfold nth
  simp only [List.getD_eq_getElem?_getD,List.getElem?_set]
  by_cases h:i=j
  · subst h
    by_cases k:i<l.length
    · simp [k]
    simp [k]
  simp [h]
theorem gd_{α β:Type}(f:α→β)(l:List α)(i:Nat)(d:α)(e:β)(h:i<l.length):nth (l.map f) i e=f (nth l i d):=by
  unfold nth
  simp [List.getD_eq_getElem?_getD,List.getElem?_map,List.getElem?_eq_getElem h]
theorem g9_{α:Type}(n i:Nat)(x:α):nth (List.replicate n x) i x=x:=by
  unfold nth
  rw [List.getD_eq_getElem?_getD,List.getElem?_replicate]
  split<;>rfl
theorem kq_{α:Type}(d:α){l m:List α}(hl:l.length=m.length)(h: ∀i,i<l.length→nth l i d=nth m i d):l=m:=by
  apply List.ext_getElem hl
  intro i h1 h2
  have a:=h i h1
  have b:=getD_some l h1 d
  have c:=getD_some m h2 d
  rw [List.getElem?_eq_getElem h1]at b
  rw [List.getElem?_eq_getElem h2]at c
  rw [Option.some.inj b,a,←Option.some.inj c]
end Go.E
end

noncomputable section
namespace Go.Proofs.YtchebnpdnfhenaaGreatDoor
open Go Go.E
inductive Rch (S:Int→Prop) (E:Int→Int→Prop):Int→Prop
  |base {s:Int}:S s→Rch S E s
  |step {a b:Int}:Rch S E a→E a b→Rch S E b
def onS(t:Fst)(s:Int):Prop:= ∃x∈t.starts,x.state=s
def enS(t:Fst)(s:Int):Prop:= ∃x∈t.ends,x.state=s
def arE(t:Fst)(a b:Int):Prop:= ∃x∈t.arcs,x.frm=a∧x.to=b
def arB(t:Fst)(a b:Int):Prop:= ∃x∈t.arcs,x.to=a∧x.frm=b
def Use(t:Fst)(s:Int):Prop:=Rch (onS t) (arE t) s∧Rch (enS t) (arB t) s
open Classical in
def g4_(t:Fst)(s:Nat):Bool:=decide (Use t s)
def gl_(p:Nat→Bool):Nat→Nat
  |0=>0
  |n+1=>gl_ p n+(if p n then 1 else 0)
def iy_(p:Nat→Bool)(s:Int):Int:=if p s.toNat then (gl_ p s.toNat:Int) else -1
theorem zt_(p:Nat→Bool): ∀{m n:Nat},m≤n→gl_ p m≤gl_ p n
  | m, 0, h => by obtain rfl : m = 0 := by omega
                  exact Nat.le_refl _
  |m,n+1,h=>by
    by_cases hm:m=n+1
    · subst hm;exact Nat.le_refl _
    have:=zt_ p (m:=m) (n:=n) (by omega)
    simp only [gl_];omega
theorem jd_(p:Nat→Bool){m n:Nat}(h:m<n)(hp:p m=true):gl_ p m<gl_ p n:=by
  have:=zt_ p (m:=m+1) (n:=n) h
  simp only [gl_,hp,if_true]at this
  omega
theorem he_(p:Nat→Bool): ∀n,gl_ p n≤n
  |0=>Nat.le_refl _
  |n+1=>by have:=he_ p n;simp only [gl_];split<;>omega
theorem k3_{p:Nat→Bool}: ∀n,(∀s,s<n→p s=true)→gl_ p n=n
  |0,_=>rfl
  |n+1,h=>by simp only [gl_,k3_ n (fun s hs=>h s (by omega)),h n (by omega),if_true]
theorem lx_(p:Nat→Bool): ∀n k,k<gl_ p n→ ∃s,s<n∧p s=true∧gl_ p s=k
  |0,k,h=>by simp [gl_]at h
  |n+1,k,h=>by
    by_cases hk:k<gl_ p n
    · obtain ⟨s,h1,h2⟩:=lx_ p n k hk;exact ⟨s,by omega,h2⟩
    simp only [gl_]at h
    by_cases hp:p n=true
    · rw [if_pos hp]at h;exact ⟨n,by omega,hp,by omega⟩
    rw [if_neg hp]at h;omega
theorem je_{p:Nat→Bool}{s:Int}(h:p s.toNat=true):iy_ p s=gl_ p s.toNat:=by unfold iy_;rw [if_pos h]
theorem l2_{p:Nat→Bool}{s:Int}:0≤iy_ p s↔p s.toNat=true:=by
  unfold iy_;split
  · simp_all
  simp_all
theorem nn_{p:Nat→Bool}{a b:Int}(ha:0≤a)(hb:0≤b)(h1:p a.toNat=true)(h2:p b.toNat=true)(h:iy_ p a=iy_ p b):a=b:=by
  rw [je_ h1,je_ h2]at h
  have h:gl_ p a.toNat=gl_ p b.toNat:=by omega
  rcases Nat.lt_trichotomy a.toNat b.toNat with hl|he|hl
  · have:=jd_ p hl h1;omega
  · omega
  have:=jd_ p hl h2;omega
def il_(p:Nat→Bool)(l:List Tip):List Tip:=l.filterMap fun x=>if 0≤iy_ p x.state then some ⟨iy_ p x.state,x.out⟩ else none
def jb_(p:Nat→Bool)(l:List Arc):List Arc:=l.filterMap fun x=>if 0≤iy_ p x.frm∧0≤iy_ p x.to then some ⟨iy_ p x.frm,iy_ p x.to,x.set,x.out,x.copy⟩ else none
def m5_(p:Nat→Bool)(t:Fst):Fst:=⟨gl_ p t.states.toNat,il_ p t.starts,il_ p t.ends,jb_ p t.arcs⟩
theorem fx_{p:Nat→Bool}{l:List Tip}{y:Tip}:y∈il_ p l↔ ∃x∈l,p x.state.toNat=true∧y=⟨iy_ p x.state,x.out⟩:=by
  unfold il_
  rw [List.mem_filterMap]
  constructor
  · rintro ⟨x,hx,h⟩
    split at h
    · rename_i h0;exact ⟨x,hx,l2_.1 h0,by cases h;rfl⟩
    cases h
  rintro ⟨x,hx,h0,rfl⟩;exact ⟨x,hx,by rw [if_pos (l2_.2 h0)]⟩
theorem i1_{p:Nat→Bool}{l:List Arc}{y:Arc}:y∈jb_ p l↔ ∃x∈l,p x.frm.toNat=true∧p x.to.toNat=true∧y=⟨iy_ p x.frm,iy_ p x.to,x.set,x.out,x.copy⟩:=by
  unfold jb_
  rw [List.mem_filterMap]
  constructor
  · rintro ⟨x,hx,h⟩
    split at h
    · rename_i h0;exact ⟨x,hx,l2_.1 h0.1,l2_.1 h0.2,by cases h;rfl⟩
    cases h
  rintro ⟨x,hx,h0,h1,rfl⟩;exact ⟨x,hx,by rw [if_pos ⟨l2_.2 h0,l2_.2 h1⟩]⟩
theorem lq_(p:Nat→Bool)(l:List Tip):(il_ p l).length≤l.length:=List.length_filterMap_le ..
theorem on_(p:Nat→Bool)(l:List Arc):(jb_ p l).length≤l.length:=List.length_filterMap_le ..
theorem tc_{p:Nat→Bool}{n:Nat}(hp: ∀s,s<n→p s=true){l:List Tip}(h: ∀x∈l,0≤x.state∧x.state<n):il_ p l=l:=by
  unfold il_
  induction l with
  |nil=>rfl
  |cons x l ih=>
    obtain ⟨h1,h2⟩:=h x (mc_ ..)
    have hx:=hp x.state.toNat (by omega)
    have:iy_ p x.state=x.state:=by rw [je_ hx,k3_ _ (fun s hs=>hp s (by omega))];omega
    rw [List.filterMap_cons,this,if_pos h1,ih (fun y hy=>h y (mm_ _ hy))]
theorem za_{p:Nat→Bool}{n:Nat}(hp: ∀s,s<n→p s=true){l:List Arc}(h: ∀x∈l,(0≤x.frm∧x.frm<n)∧(0≤x.to∧x.to<n)):jb_ p l=l:=by
  unfold jb_
  induction l with
  |nil=>rfl
  |cons x l ih=>
    obtain ⟨⟨h1,h2⟩,h3,h4⟩:=h x (mc_ ..)
    have hx:=hp x.frm.toNat (by omega)
    have hy:=hp x.to.toNat (by omega)
    have e1:iy_ p x.frm=x.frm:=by rw [je_ hx,k3_ _ (fun s hs=>hp s (by omega))];omega
    have e2:iy_ p x.to=x.to:=by rw [je_ hy,k3_ _ (fun s hs=>hp s (by omega))];omega
    rw [List.filterMap_cons,e1,e2,if_pos ⟨h1,h3⟩,ih (fun y hy=>h y (mm_ _ hy))]
structure Rng (t:Fst):Prop where
  starts: ∀x∈t.starts,0≤x.state∧x.state<t.states
  ends: ∀x∈t.ends,0≤x.state∧x.state<t.states
  arcs: ∀x∈t.arcs,(0≤x.frm∧x.frm<t.states)∧(0≤x.to∧x.to<t.states)
open Classical in
theorem r5_{t:Fst}{s:Nat}:g4_ t s=true↔Use t s:=by unfold g4_;exact decide_eq_true_iff
theorem keep_rng{t r:Fst}(hS: ∀x,x∈r.starts↔x∈il_ (g4_ t) t.starts)(hE: ∀x,x∈r.ends↔x∈il_ (g4_ t) t.ends)(hA: ∀x,x∈r.arcs↔x∈jb_ (g4_ t) t.arcs)(hn:r.states=gl_ (g4_ t) t.states.toNat)(h:Rng t):Rng r:=by
  have num: ∀{a:Int},0≤a→a<t.states→g4_ t a.toNat=true→0≤iy_ (g4_ t) a∧iy_ (g4_ t) a<r.states:=fun {a} h0 h1 hu=>by
    rw [je_ hu,hn]
    have:=jd_ (g4_ t) (m:=a.toNat) (n:=t.states.toNat) (by omega) hu
    omega
  refine ⟨fun y hy=> ?_,fun y hy=> ?_,fun y hy=> ?_⟩
  · obtain ⟨x,hx,hu,rfl⟩:=fx_.1 ((hS y).1 hy);have:=h.starts x hx;exact num this.1 this.2 hu
  · obtain ⟨x,hx,hu,rfl⟩:=fx_.1 ((hE y).1 hy);have:=h.ends x hx;exact num this.1 this.2 hu
  obtain ⟨x,hx,hu,hv,rfl⟩:=i1_.1 ((hA y).1 hy);have:=h.arcs x hx;exact ⟨num this.1.1 this.1.2 hu,num this.2.1 this.2.2 hv⟩
end Go.Proofs.YtchebnpdnfhenaaGreatDoor
end

noncomputable section
namespace Go.Proofs.YtchebnpdnfhenaaGreatDoor
open Go Go.E
def uns:B_1→Nat
  |[]=>0
  |b::l=>(if b then 0 else 1)+uns l
theorem zd_: ∀l:B_1,uns l≤l.length
  |[]=>Nat.le_refl _
  |b::l=>by have:=zd_ l;simp only [uns,List.length_cons];split<;>omega
def Le(l r:B_1):Prop:= ∀v,nth l v false=true→nth r v false=true
theorem Le.rfl'(l:B_1):Le l l:=fun _ h=>h
theorem Le.trans{l r s:B_1}(h:Le l r)(k:Le r s):Le l s:=fun v hv=>k v (h v hv)
theorem uns_le: ∀{l r:B_1},l.length=r.length→Le l r→uns r≤uns l
  |[],[],_,_=>Nat.le_refl _
  |[],_::_,h,_=>by simp at h
  |_::_,[],h,_=>by simp at h
  |a::l,b::r,h,k=>by
    have h1:=uns_le (l:=l) (r:=r) (by simpa using h) (fun v hv=>k (v+1) hv)
    have h2:a=true→b=true:=fun ha=>k 0 ha
    simp only [uns]
    cases a<;>cases b<;>simp_all<;>omega
theorem zu_: ∀{l:B_1} {i:Nat},i<l.length→nth l i false=false→uns (l.set i true)+1=uns l
  |[],i,h,_=>by simp at h
  |a::l,0,_,h=>by
    have:a=false:=h
    subst this
    simp [uns];omega
  |a::l,i+1,h,k=>by
    have:=zu_ (l:=l) (i:=i) (by simpa using h) k
    simp only [List.set_cons_succ,uns];omega
theorem le_set{l:B_1}(i:Nat)(h:i<l.length):Le l (l.set i true):=fun v hv=>by
  rw [ek_];split
  · rfl
  exact hv
def stE(st:N_2)(a b:Int):Prop:=0≤a∧b∈nth st a.toNat []
theorem Rch.trans{S:Int→Prop}{E:Int→Int→Prop}{a b:Int}(h:Rch (fun c=>c=a) E b)(k:Rch S E a):Rch S E b:=by
  induction h with
  |base e=>subst e;exact k
  |step _ e ih=>exact .step ih e
theorem zc_{α:Type}{l:List α}{x d:α}(h:x∈l): ∃j,j<l.length∧nth l j d=x:=by
  obtain ⟨j,hj,e⟩:=List.getElem_of_mem h
  refine ⟨j,hj,?_⟩
  have:=getD_some l hj d
  rw [List.getElem?_eq_getElem hj,Option.some.injEq]at this
  rw [←this];exact e
theorem gf_{α:Type}{l:List α}{j:Nat}(d:α)(h:j<l.length):nth l j d∈l:=by
  have:=getD_some l h d
  exact List.mem_of_getElem? this
structure Vis (st:N_2) (n:Nat) (s:Int) (seen r:B_1):Prop where
  len:r.length=n
  le:Le seen r
  at':nth r s.toNat false=true
  out: ∀v,nth r v false=true→nth seen v false=true∨Rch (fun c=>c=s) (stE st) v
  cl: ∀v,nth r v false=true→nth seen v false=false→ ∀z∈nth st v [],nth r z.toNat false=true
theorem visit_ok {st : N_2} {n : Nat} (hl : st.length = n) (hst : ∀ a, ∀ z ∈ nth st a [], 0 ≤ z ∧ z < n) :
    ∀k (s:Int) (seen:B_1),0≤s→s<n→seen.length=n→uns seen<k→ ∃r,Bm_ k s seen st=some r∧Vis st n s seen r:=by
  intro k
  induction k with
  |zero=>intro s seen _ _ _ h;omega
  |succ k ih=>
    intro s seen h0 h1 hn hu
    show ∃r,Dv_ (Bm_ k) s seen st=some r∧_
    unfold Dv_
    rw [d3_ ⟨h0,by omega⟩]
    cases hs:nth seen s.toNat false with
    |true=>exact ⟨seen,rfl,hn,Le.rfl' _,hs,fun v hv=> .inl hv,fun v hv hf=>by rw [hv]at hf;cases hf⟩
    | false =>
      rw [iteO_false,d3_ ⟨h0,by omega⟩,d3_ ⟨h0,by omega⟩]
      have hlt:s.toNat<seen.length:=by omega
      have hun:=zu_ hlt hs
      have hat:nth (seen.set s.toNat true) s.toNat false=true:=by rw [ek_,if_pos ⟨rfl,hlt⟩]
      have hor: ∀v,nth (seen.set s.toNat true) v false=true→nth seen v false=true∨v=s.toNat:=fun v hv=>by
        rw [ek_]at hv
        split at hv
        · rename_i h;exact .inr h.1.symm
        exact .inl hv
      obtain ⟨r,h2,h3,h4,h5,h6,h7⟩:=er_ (step:=fun q:B_1×Nat=>Ar_ st s (Bm_ k) q.1 q.2) (fun (l:B_1) j=>(l,j)) (nth st s.toNat []).length
        (fun j l=>l.length=n∧Le (seen.set s.toNat true) l∧(∀i,i<j→nth l (nth (nth st s.toNat []) i 0).toNat false=true)∧(∀v,nth l v false=true→nth (seen.set s.toNat true) v false=true∨Rch (fun c=>c=s) (stE st) v)∧(∀v,nth l v false=true→nth (seen.set s.toNat true) v false=false→ ∀z∈nth st v [],nth l z.toNat false=true))
        (fun l=>l.length=n∧Le (seen.set s.toNat true) l∧(∀i,i<(nth st s.toNat []).length→nth l (nth (nth st s.toNat []) i 0).toNat false=true)∧(∀v,nth l v false=true→nth (seen.set s.toNat true) v false=true∨Rch (fun c=>c=s) (stE st) v)∧(∀v,nth l v false=true→nth (seen.set s.toNat true) v false=false→ ∀z∈nth st v [],nth l z.toNat false=true))
        (fun j l hj ⟨a1,a2,a3,a4,a5⟩=>by
          have hz:=gf_ (0:Int) hj
          have hzr:=hst _ _ hz
          have hle:=uns_le (by rw [ls_];omega) a2
          obtain ⟨r,b1,b2⟩:=ih (nth (nth st s.toNat []) j 0) l hzr.1 hzr.2 a1 (by omega)
          refine .inl ⟨r,?_,b2.len,a2.trans b2.le,fun i hi=> ?_,fun v hv=> ?_,fun v hv hf z hz'=> ?_⟩
          · show Ar_ st s (Bm_ k) l j=_
            unfold Ar_
            rw [d4_ (by omega),b1];rfl
          · by_cases hij:i=j
            · subst hij;exact b2.at'
            exact b2.le _ (a3 i (by omega))
          · rcases b2.out v hv with h|h
            · exact a4 v h
            exact .inr (h.trans (.step (.base rfl) ⟨h0,hz⟩))
          cases hlv:nth l v false with
          |true=>exact b2.le _ (a5 v hlv hf z hz')
          |false=>exact b2.cl v hv hlv z hz')
        (fun l hI=>⟨l,by
          show Ar_ st s (Bm_ k) l _=_
          unfold Ar_
          rw [d5_ (by omega)];rfl,hI⟩)
        (s0:=seen.set s.toNat true) ⟨by rw [ls_];exact hn,Le.rfl' _,fun i hi=>by omega,fun v hv=> .inl hv,fun v hv hf=>by rw [hv]at hf;cases hf⟩
      refine ⟨r,h2,h3,(le_set _ hlt).trans h4,h4 _ hat,fun v hv=> ?_,fun v hv hf z hz=> ?_⟩
      · rcases h6 v hv with h|h
        · rcases hor v h with h|h
          · exact .inl h
          exact .inr (.base (by omega))
        exact .inr h
      cases hsv:nth (seen.set s.toNat true) v false with
      |true=>
        rcases hor v hsv with h|h
        · rw [h]at hf;cases hf
        subst h
        obtain ⟨i,hi,e⟩:=zc_ (d:=(0:Int)) hz
        have:=h5 i hi
        rw [e]at this;exact this
      |false=>exact h7 v hv hsv z hz
theorem ur_ {st : N_2} {n : Nat} {tips : List Tip} (hn : n ≤ 1024) (hl : st.length = n) (hst : ∀ a, ∀ z ∈ nth st a [], 0 ≤ z ∧ z < n) (ht : ∀ x ∈ tips, 0 ≤ x.state ∧ x.state < n) :
    ∃r,D8_ tips st=some r∧r.length=n∧ ∀v:Nat,nth r v false=true↔Rch (fun c=> ∃x∈tips,x.state=c) (stE st) v:=by
  unfold D8_
  rw [d3_ (by omega)]
  obtain ⟨r,h1,h2,h3,h4,h5⟩:=er_ (step:=fun q:B_1×Nat=>Ba_ tips st q.1 q.2) (fun (l:B_1) j=>(l,j)) tips.length
    (fun j l=>l.length=n∧(∀i,i<j→nth l (nth tips i tz_).state.toNat false=true)∧(∀v:Nat,nth l v false=true→Rch (fun c=> ∃x∈tips,x.state=c) (stE st) v)∧(∀v,nth l v false=true→ ∀z∈nth st v [],nth l z.toNat false=true))
    (fun l=>l.length=n∧(∀i,i<tips.length→nth l (nth tips i tz_).state.toNat false=true)∧(∀v:Nat,nth l v false=true→Rch (fun c=> ∃x∈tips,x.state=c) (stE st) v)∧(∀v,nth l v false=true→ ∀z∈nth st v [],nth l z.toNat false=true))
    (fun j l hj ⟨a1,a2,a3,a4⟩=>by
      have hz:=gf_ tz_ hj
      have hzr:=ht _ hz
      have:=zd_ l
      obtain ⟨r,b1,b2⟩:=visit_ok hl hst (l.length+1) (nth tips j tz_).state l hzr.1 hzr.2 a1 (by omega)
      refine .inl ⟨r,?_,b2.len,fun i hi=> ?_,fun v hv=> ?_,fun v hv z hz'=> ?_⟩
      · show Ba_ tips st l j=_
        unfold Ba_
        rw [d4_ (by omega),b1];rfl
      · by_cases hij:i=j
        · subst hij;exact b2.at'
        exact b2.le _ (a2 i (by omega))
      · rcases b2.out v hv with h|h
        · exact a3 v h
        exact h.trans (.base ⟨_,hz,rfl⟩)
      cases hlv:nth l v false with
      |true=>exact b2.le _ (a4 v hlv z hz')
      |false=>exact b2.cl v hv hlv z hz')
    (fun l hI=>⟨l,by
      show Ba_ tips st l _=_
      unfold Ba_
      rw [d5_ (by omega)];rfl,hI⟩)
    (s0:=List.replicate st.length false) ⟨by rw [lr_];exact hl,fun i hi=>by omega,fun v hv=>(by rw [g9_]at hv;cases hv),fun v hv=>(by rw [g9_]at hv;cases hv)⟩
  refine ⟨r,h1,h2,fun v=>⟨h4 v,fun hv=> ?_⟩⟩
  have: ∀c:Int,Rch (fun c=> ∃x∈tips,x.state=c) (stE st) c→nth r c.toNat false=true:=fun c hc=>by
    induction hc with
    |base h=>
      obtain ⟨x,hx,rfl⟩:=h
      obtain ⟨i,hi,e⟩:=zc_ (d:=tz_) hx
      have:=h3 i hi
      rw [e]at this;exact this
    |step _ e ih=>exact h5 _ ih _ e.2
  have:=this v hv
  simpa using this
theorem v0_{α:Type}(l:List α){k:Nat}(h:k<l.length)(d:α):l.drop k=nth l k d::l.drop (k+1):=by
  rw [List.drop_eq_getElem_cons h]
  have:=getD_some l h d
  rw [List.getElem?_eq_getElem h,Option.some.injEq]at this
  rw [this]
def qg_:T_1→T_1→Nat
  |a::l,b::m=>if a=b then qg_ l m+1 else 0
  |_,_=>0
theorem xs_: ∀l m:T_1,qg_ l m≤l.length
  |[],_=>Nat.zero_le _
  |_::_,[]=>Nat.zero_le _
  |a::l,b::m=>by have:=xs_ l m;simp only [qg_,List.length_cons];split<;>omega
theorem uq_: ∀(l m:T_1) (k:Nat),k≤l.length→k≤m.length→(∀i,i<k→nth l i 0=nth m i 0)→(k<l.length→k<m.length→nth l k 0≠nth m k 0)→qg_ l m=k
  |[],_,k,h,_,_,_=>by simp at h;simp [qg_,h]
  |_::_,[],k,_,h,_,_=>by simp at h;simp [qg_,h]
  |a::l,b::m,0,_,_,_,h=>by
    have:a≠b:=h (by simp) (by simp)
    simp [qg_,this]
  |a::l,b::m,k+1,h1,h2,h3,h4=>by
    have e:a=b:=h3 0 (by omega)
    have:=uq_ l m k (by simpa using h1) (by simpa using h2) (fun i hi=>h3 (i+1) (by omega)) (fun i j=>h4 (by simpa using i) (by simpa using j))
    simp [qg_,e,this]
theorem front_eq (x y : T_1) (hx : x.length ≤ 281474976710656) (hy : y.length ≤ 281474976710656) : E7_ x y = some ((qg_ x y : Nat) : Int) := by
  unfold E7_
  rw [d3_ hx,d3_ hy]
  have hm:min ((x.length:Nat):Int) ((y.length:Nat):Int)=((min x.length y.length:Nat):Int):=by omega
  obtain ⟨r,h,rfl⟩:=er_ (step:=fun q:Nat=>Cr_ x y q) (fun (_:Unit) k=>k) (min x.length y.length) (fun k _=> ∀i,i<k→nth x i 0=nth y i 0) (fun r=>r=((qg_ x y:Nat):Int))
    (fun k _ hk hI=>by
      unfold Cr_
      rw [hm,d4_ (by omega),d3_ (by omega),d3_ (by omega)]
      by_cases e:nth x k 0=nth y k 0
      · rw [d5_ (by rw [e];simp)]
        exact .inl ⟨(),rfl,fun i hi=>by
          by_cases hik:i=k
          · subst hik;exact e
          exact hI i (by omega)⟩
      have hne:(((nth x k (0:UInt8)).toNat:Nat):Int)≠(((nth y k (0:UInt8)).toNat:Nat):Int):=fun h=>e (UInt8.toNat_inj.1 (by omega))
      rw [d4_ hne]
      refine .inr ⟨_,rfl,?_⟩
      rw [uq_ x y k (by omega) (by omega) hI (fun _ _=>e)])
    (fun _ hI=>⟨_,by
      unfold Cr_
      rw [hm,d5_ (by omega)];rfl,by
      rw [uq_ x y (min x.length y.length) (by omega) (by omega) hI (fun h1 h2=>by omega)]⟩)
    (s0:=()) (fun i hi=>by omega)
  exact h
section
variable {S α:Type}
end
structure ArcsOk (arcs:List (List Arc)):Prop where
  out: ∀i, ∀x∈nth arcs i [],x.out.length≤1000000
structure LagOk (n:Nat) (l:TLag):Prop where
  p:0≤l.p∧l.p<n
  q:0≤l.q∧l.q<n
  a:l.a.length≤100000000
  b:l.b.length≤100000000
section
variable {Sy:Type} {Y:Sy→TLag→Option (Sy×Bool)} (w:Walk) (hw:ArcsOk w.arcs) (row:List TLag) (hr: ∀l∈row,LagOk w.arcs.length l) (i:Nat) (hi:i<row.length)
include hw hr hi
end
theorem un_: ∀(a b:T_1) (n:Nat),n≤a.length→(n≤qg_ a b↔n≤b.length∧b.take n=a.take n)
  |a,b,0,_=>by simp
  |[],b,n+1,h=>by simp at h
  |x::l,[],n+1,h=>by simp [qg_]
  |x::l,y::m,n+1,h=>by
    have ih:=un_ l m n (by simpa using h)
    unfold qg_
    by_cases c:x=y
    · subst c;simp [ih]
    simp only [if_neg c,List.length_cons,List.take_succ_cons,List.cons.injEq]
    constructor
    · intro h;omega
    intro h;exact absurd h.2.1.symm c
theorem zm_{p x:T_1}:p <+: x↔p.length≤x.length∧x.take p.length=p:=by
  rw [List.prefix_iff_eq_take]
  constructor
  · intro h
    refine ⟨?_,h.symm⟩
    have:=congrArg List.length h
    rw [List.length_take]at this;omega
  intro h;exact h.2.symm
theorem pre_anti{p q:T_1}(h:p <+: q)(k:q <+: p):p=q:=h.eq_of_length (Nat.le_antisymm h.length_le k.length_le)
theorem lcp_l(s t:T_1):s.take (qg_ s t) <+: s:=List.take_prefix _ _
theorem lcp_r(s t:T_1):s.take (qg_ s t) <+: t:=by
  have h1:=xs_ s t
  have h2:=(un_ s t _ h1).1 (Nat.le_refl _)
  rw [←h2.2];exact List.take_prefix _ _
theorem lcp_max{p s t:T_1}(h:p <+: s)(k:p <+: t):p <+: s.take (qg_ s t):=by
  rw [zm_]at h k
  have h1:=(un_ s t p.length h.1).2 ⟨k.1,by rw [k.2,h.2]⟩
  rw [zm_,List.length_take,List.take_take,Nat.min_eq_left h1]
  exact ⟨by omega,h.2⟩
def ye_(l:T_2)(s:T_1):T_1:=l.foldl (fun s t=>s.take (qg_ s t)) s
theorem nu_: ∀(l:T_2) (s:T_1),ye_ l s <+: s∧ ∀x∈l,ye_ l s <+: x
  |[],s=>⟨List.prefix_refl _,by simp⟩
  |t::l,s=>by
    obtain ⟨h1,h2⟩:=nu_ l (s.take (qg_ s t))
    refine ⟨h1.trans (lcp_l s t),fun x hx=> ?_⟩
    rcases List.mem_cons.1 hx with rfl|hx
    · exact h1.trans (lcp_r s x)
    exact h2 x hx
theorem uu_{p:T_1}: ∀(l:T_2) (s:T_1),p <+: s→(∀x∈l,p <+: x)→p <+: ye_ l s
  |[],s,h,_=>h
  |t::l,s,h,k=>uu_ l _ (lcp_max h (k t (mc_ ..))) fun x hx=>k x (mm_ _ hx)
def gn_:T_2→T_1
  |[]=>[]
  |x::l=>ye_ l x
theorem hu_: ∀{l:T_2} {x:T_1},x∈l→gn_ l <+: x
  |[],x,h=>by cases h
  |y::l,x,h=>by
    rcases List.mem_cons.1 h with rfl|h
    · exact (nu_ l x).1
    exact (nu_ l y).2 x h
theorem nq_: ∀{l:T_2} {p:T_1},l≠[]→(∀x∈l,p <+: x)→p <+: gn_ l
  |[],p,h,_=>absurd rfl h
  |y::l,p,_,h=>uu_ l y (h y (mc_ ..)) fun x hx=>h x (mm_ _ hx)
theorem z0_{l:T_2}{p:T_1}(h0:l≠[])(h1: ∀x∈l,p <+: x)(h2: ∀q,(∀x∈l,q <+: x)→q <+: p):gn_ l=p:=
  pre_anti (h2 _ fun x hx=>hu_ hx) (nq_ h0 h1)
theorem qw_{l m:T_2}(h: ∀x,x∈l↔x∈m):gn_ l=gn_ m:=by
  by_cases c:l=[]
  · subst c
    have:m=[]:=List.eq_nil_iff_forall_not_mem.2 fun x hx=>by have:=(h x).2 hx;cases this
    rw [this]
  have c2:m≠[]:=fun e=>by
    subst e
    exact c (List.eq_nil_iff_forall_not_mem.2 fun x hx=>by have:=(h x).1 hx;cases this)
  exact z0_ c (fun x hx=>hu_ ((h x).1 hx)) fun q hq=>nq_ c2 fun x hx=>hq x ((h x).2 hx)
theorem ss_(l:T_2)(s t:T_1):ye_ (l++[t]) s=(ye_ l s).take (qg_ (ye_ l s) t):=by simp [ye_]
theorem ex_{α:Type}(l:List α){k:Nat}(h:k<l.length)(d:α):l.take (k+1)=l.take k++[nth l k d]:=by
  rw [List.take_add_one]
  have:=getD_some l h d
  rw [this];rfl
theorem qo_ {l : T_2} (h : ∀ x ∈ l, x.length ≤ 281474976710656) : Ex_ l = some (gn_ l) := by
  unfold Ex_
  cases l with
  |nil=>rfl
  |cons x l=>
    rw [d5_ (by simp;omega),d3_ (by simp),d3_ (by simp)]
    have hx:x.length≤281474976710656:=h x (mc_ ..)
    obtain ⟨r,h1,h2⟩:=er_ (step:=fun q:T_1×Nat=>Ce_ (x::l) q.1 q.2) (fun s k=>(s,k)) l.length (fun k s=>s=ye_ (l.take k) x) (fun r=>r=ye_ l x)
      (fun k s hk hI=> .inl ⟨s.take (qg_ s (nth l k [])),by
        have hs:s.length≤281474976710656:=by
          rw [hI]
          exact Nat.le_trans (nu_ _ x).1.length_le hx
        have ht:(nth l k []).length≤281474976710656:=h _ (mm_ _ (gf_ [] hk))
        show Ce_ (x::l) s k=_
        unfold Ce_
        rw [show (x::l).drop 1=l from rfl,d4_ (by omega),front_eq s _ hs ht,ed_,d3_ ⟨by omega,by omega,by rw [tn_];exact xs_ _ _⟩,tn_];rfl,by
        rw [ex_ l hk [],ss_,←hI]⟩)
      (fun s hI=>⟨s,by
        show Ce_ (x::l) s l.length=_
        unfold Ce_
        rw [show (x::l).drop 1=l from rfl,d5_ (by omega)];rfl,by rw [hI,List.take_length]⟩) (s0:=x) rfl
    rw [show nth (x::l) 0 []=x from rfl]
    show eq_ _ (x,0)=_
    rw [h1,h2];rfl
theorem hy_{n:Nat}{p:Nat→Bool}:(List.range n).all p=true↔ ∀j,j<n→p j=true:=by
  simp [List.all_eq_true,List.mem_range]
theorem vf_{R:Type}{step:Nat→Option (Nat⊕R)}{good bad:R}(n:Nat)(p:Nat→Bool)(hy: ∀k,k<n→p k=true→step k=some (.inl (k+1)))(hn: ∀k,k<n→p k=false→step k=some (.inr bad))(hd:step n=some (.inr good)):
    eq_ step 0=some (if (List.range n).all p=true then good else bad):=by
  have h:=s2_ (step:=step) (y:=bad) (no:=good) (fun k=>k) (fun k=> !p k) n (fun k hk h=>hy k hk (by simpa using h)) (fun k hk h=>hn k hk (by simpa using h)) hd
  rw [h,←List.not_all_eq_any_not]
  cases (List.range n).all p<;>rfl
def n2_(nx:N_1)(os:T_2)(n b:Nat):Bool:=decide (-1≤nth nx b 0) && decide (nth nx b 0<(n:Int)) && decide ((nth os b []).length≤4096) && (decide (nth nx b 0≠ -1) || decide (nth os b []=[]))
def z5_(nx:N_1)(os:T_2)(n:Nat):Bool:=decide (nx.length=256) && decide (os.length=256) && (List.range 256).all (n2_ nx os n)
theorem Hh_ (nx : N_1) (os : T_2) (n : Nat) : Gi_ nx os ((n : Nat) : Int) = some (z5_ nx os n) := by
  unfold Gi_ z5_
  by_cases h1:nx.length=256
  · rw [d5_ (by omega)]
    by_cases h2:os.length=256
    · rw [d5_ (by omega),decide_eq_true h1,decide_eq_true h2,Bool.true_and,Bool.true_and]
      have:=vf_ (step:=fun q:Nat=>Dh_ nx ((n:Nat):Int) os q) (good:=true) (bad:=false) 256 (n2_ nx os n) ?_ ?_ ?_
      · rw [this];cases (List.range 256).all (n2_ nx os n)<;>rfl
      · intro k hk hp
        simp only [n2_,Bool.and_eq_true,Bool.or_eq_true,dq_]at hp
        obtain ⟨⟨⟨p1,p2⟩,p3⟩,p4⟩:=hp
        simp only [Dh_,Ek_]
        rw [d4_ (by omega),d5_ (by omega),d5_ (by omega),d3_ (by omega),d5_ (by omega)]
        by_cases c:nth nx k (0:Int)= -1
        · rw [d4_ c,d3_ (by omega),d5_ (by rcases p4 with p4|p4<;>simp_all)];rfl
        rw [d5_ c];rfl
      · intro k hk hp
        simp only [Dh_,Ek_]
        rw [d4_ (by omega)]
        by_cases c1:nth nx k (0:Int)< -1
        · rw [d4_ c1];rfl
        rw [d5_ c1]
        by_cases c2:((n:Nat):Int)≤nth nx k (0:Int)
        · rw [d4_ c2];rfl
        rw [d5_ c2,d3_ (by omega)]
        by_cases c3:4096<(nth os k ([]:T_1)).length
        · rw [d4_ (by omega)];rfl
        rw [d5_ (by omega)]
        by_cases c4:nth nx k (0:Int)= -1
        · rw [d4_ c4,d3_ (by omega)]
          by_cases c5:nth os k ([]:T_1)=[]
          · exfalso
            simp only [n2_,c5]at hp
            rw [decide_eq_true (by omega),decide_eq_true (by omega)]at hp
            simp at hp
          rw [d4_ c5];rfl
        exfalso
        simp only [n2_]at hp
        rw [decide_eq_true (by omega),decide_eq_true (by omega),decide_eq_true (by omega),decide_eq_true c4]at hp
        simp at hp
      simp only [Dh_]
      rw [d5_ (by omega)];rfl
    rw [d4_ (by omega),decide_eq_false h2];simp
  rw [d4_ (by omega),decide_eq_false h1];simp
def iu_(q:Seq)(s:Nat):Bool:=decide ((nth q.tail s []).length≤4096) && (nth q.fin s false || decide (nth q.tail s []=[])) && z5_ (nth q.next s []) (nth q.outs s []) q.next.length
def i7_(q:Seq):Bool:=decide (q.next.length≤1024) && decide (q.outs.length=q.next.length) && decide (q.fin.length=q.next.length) && decide (q.tail.length=q.next.length) && decide (q.front.length≤4096) && (decide (q.next.length≠0) || decide (q.front=[]))
def d9_(q:Seq):Bool:=i7_ q && (List.range q.next.length).all (iu_ q)
theorem Ff_ (q : Seq) : Dc_ q = some (if d9_ q = true then 0 else 1) := by
  unfold Dc_
  by_cases h1:q.next.length≤1024
  rotate_left
  · rw [d4_ (by omega),if_neg (by simp [d9_,i7_,h1])]
  rw [d5_ (by omega)]
  by_cases h2:q.outs.length=q.next.length
  rotate_left
  · rw [d4_ (by omega),if_neg (by simp [d9_,i7_,h2])]
  rw [d5_ (by omega)]
  by_cases h3:q.fin.length=q.next.length
  rotate_left
  · rw [d4_ (by omega),if_neg (by simp [d9_,i7_,h3])]
  rw [d5_ (by omega)]
  by_cases h4:q.tail.length=q.next.length
  rotate_left
  · rw [d4_ (by omega),if_neg (by simp [d9_,i7_,h4])]
  rw [d5_ (by omega)]
  by_cases h5:q.front.length≤4096
  rotate_left
  · rw [d4_ (by omega),if_neg (by simp [d9_,i7_,h5])]
  rw [d5_ (by omega)]
  have key:(decide (q.next.length≠0) || decide (q.front=[]))=true→Dy_ q=some (if d9_ q=true then 0 else 1):=by
    intro h6
    have hs:i7_ q=true:=by simp only [i7_,h6,Bool.and_true,Bool.and_eq_true,dq_];exact ⟨⟨⟨⟨h1,h2⟩,h3⟩,h4⟩,h5⟩
    unfold Dy_ d9_
    rw [hs,Bool.true_and]
    refine vf_ (step:=fun k:Nat=>Cl_ q k) q.next.length (iu_ q) ?_ ?_ ?_
    · intro k hk hp
      simp only [iu_,Bool.and_eq_true,dq_]at hp
      obtain ⟨⟨p1,p2⟩,p3⟩:=hp
      have hj:Ck_ k q=some (.inl (k+1)):=by
        unfold Ck_
        rw [d3_ (by omega),Hh_,ed_,p3];rfl
      simp only [Cl_]
      rw [d4_ (by omega),d3_ (by omega),d5_ (by omega),d3_ (by omega)]
      cases hf:nth q.fin k false with
      |true=>rw [gk_];exact hj
      |false=>
        rw [hf,Bool.false_or,dq_]at p2
        rw [id_,d3_ (by omega),d5_ (by simp [p2])];exact hj
    · intro k hk hp
      simp only [Cl_]
      rw [d4_ (by omega),d3_ (by omega)]
      by_cases c1:4096<(nth q.tail k ([]:T_1)).length
      · rw [d4_ (by omega)];rfl
      rw [d5_ (by omega),d3_ (by omega)]
      have hj:(nth q.fin k false || decide (nth q.tail k []=[]))=true→Ck_ k q=some (.inr 1):=by
        intro hh
        simp only [iu_,hh,Bool.and_true]at hp
        rw [decide_eq_true (by omega),Bool.true_and]at hp
        unfold Ck_
        rw [d3_ (by omega),Hh_,ed_,hp];rfl
      cases hf:nth q.fin k false with
      |true=>rw [gk_];exact hj (by rw [hf];rfl)
      |false=>
        rw [id_,d3_ (by omega)]
        by_cases c2:nth q.tail k ([]:T_1)=[]
        · rw [d5_ (by simp [c2])];exact hj (by rw [c2];simp)
        rw [d4_ c2];rfl
    simp only [Cl_]
    rw [d5_ (by omega)];rfl
  by_cases h6:q.next.length=0
  · rw [d4_ (by omega)]
    by_cases h7:q.front=[]
    · rw [d5_ (by simp [h7])];exact key (by simp [h7])
    rw [d4_ h7,if_neg (by simp [d9_,i7_,h6,h7])]
  rw [d5_ (by omega)];exact key (by simp [h6])
theorem ob_(l m:T_1)(h:l.length+m.length≤140737488355328):gz_ ⟨l⟩ m=some (((m.length:Nat):Int),(),⟨l++m⟩):=by
  unfold gz_
  rw [d3_ (by omega),show i4_ (⟨l⟩:SB)=some ⟨l⟩from rfl,ed_,d3_ h]
def p1_(q:Seq):T_1→Nat→Int→T_1→T_1×Nat×Bool
  |[],i,s,acc=>if nth q.fin s.toNat false=true then (acc++nth q.tail s.toNat [],i,true) else ([],i,false)
  |b::w,i,s,acc=>if nth (nth q.next s.toNat []) b.toNat 0<0 then ([],i,false) else p1_ q w (i+1) (nth (nth q.next s.toNat []) b.toNat 0) (acc++nth (nth q.outs s.toNat []) b.toNat [])
def gi_(q:Seq)(w:T_1):T_1×Int×Bool×Int:=
  if d9_ q=true then (if q.next.length=0 then ([],0,false,0) else ((p1_ q w 0 0 q.front).1,(((p1_ q w 0 0 q.front).2.1:Nat):Int),(p1_ q w 0 0 q.front).2.2,0)) else ([],0,false,1)
structure CellOk (q:Seq) (s:Int) (b:UInt8):Prop where
  n:b.toNat<(nth q.next s.toNat []).length
  o:b.toNat<(nth q.outs s.toNat []).length
  lo: -1≤nth (nth q.next s.toNat []) b.toNat 0
  hi:nth (nth q.next s.toNat []) b.toNat 0<(q.next.length:Int)
  le:(nth (nth q.outs s.toNat []) b.toNat []).length≤4096
theorem d7_{q:Seq}(h:d9_ q=true):q.next.length≤1024∧q.outs.length=q.next.length∧q.fin.length=q.next.length∧q.tail.length=q.next.length∧q.front.length≤4096:=by
  simp only [d9_,i7_,Bool.and_eq_true,dq_]at h
  exact ⟨h.1.1.1.1.1.1,h.1.1.1.1.1.2,h.1.1.1.1.2,h.1.1.1.2,h.1.1.2⟩
theorem gc_{q:Seq}(h:d9_ q=true){s:Int}(h0:0≤s)(h1:s<(q.next.length:Int)):iu_ q s.toNat=true:=by
  simp only [d9_,Bool.and_eq_true]at h
  exact hy_.1 h.2 _ (by omega)
theorem ul_{q:Seq}(h:d9_ q=true){s:Int}(h0:0≤s)(h1:s<(q.next.length:Int)):(nth q.tail s.toNat []).length≤4096:=by
  have:=gc_ h h0 h1
  simp only [iu_,Bool.and_eq_true,dq_]at this
  exact this.1.1
theorem ig_{q:Seq}(h:d9_ q=true){s:Int}(h0:0≤s)(h1:s<(q.next.length:Int))(b:UInt8):CellOk q s b:=by
  have hs:=gc_ h h0 h1
  simp only [iu_,z5_,Bool.and_eq_true,dq_]at hs
  obtain ⟨_,⟨h2,h3⟩,h4⟩:=hs
  have hb:=UInt8.toNat_lt b
  have hc:=hy_.1 h4 b.toNat (by omega)
  simp only [n2_,Bool.and_eq_true,dq_]at hc
  exact ⟨by omega,by omega,hc.1.1.1,hc.1.1.2,hc.1.2⟩
theorem ze_{α:Type}(l:List α){k:Nat}(h:k<l.length)(d:α):l.drop k=nth l k d::l.drop (k+1):=by
  rw [List.drop_eq_getElem_cons h]
  congr 1
  have h2:=getD_some l h d
  rw [List.getElem?_eq_getElem h]at h2;exact Option.some.inj h2
theorem qq_{q:Seq}(h:d9_ q=true)(w:T_1)(hw:w.length≤1000000): ∀(m k:Nat) (s:Int) (acc:T_1),w.length - k=m→k≤w.length→0≤s→s<(q.next.length:Int)→acc.length≤4096 * (k+1)→
    eq_ (fun z:T_1×Int×Nat=>Ci_ w q z.1 z.2.1 z.2.2) (acc,s,k)=some ((p1_ q (w.drop k) k s acc).1,(((p1_ q (w.drop k) k s acc).2.1:Nat):Int),(p1_ q (w.drop k) k s acc).2.2,0)
  |0,k,s,acc,hm,hk,h0,h1,ha=>by
    obtain ⟨q1,q2,q3,q4,q5⟩:=d7_ h
    have ht:=ul_ h h0 h1
    have e:k=w.length:=by omega
    subst e
    refine fb_ ?_
    simp only [Ci_]
    rw [List.drop_length,p1_,d5_ (by omega),d3_ (by omega)]
    cases hf:nth q.fin s.toNat false with
    |false=>rw [id_];rfl
    |true=>
      rw [gk_,d3_ (by omega),ob_ _ _ (by omega),ed_];rfl
  | m + 1, k, s, acc, hm, hk, h0, h1, ha => by
    obtain ⟨q1,q2,q3,q4,q5⟩:=d7_ h
    obtain ⟨c1,c2,c3,c4,c5⟩:=ig_ h h0 h1 (nth w k (0:UInt8))
    rw [ze_ w (show k<w.length by omega) (0:UInt8),p1_]
    by_cases cz:nth (nth q.next s.toNat ([]:N_1)) (nth w k (0:UInt8)).toNat (0:Int)<0
    · refine fb_ ?_
      simp only [Ci_]
      rw [if_pos cz,d4_ (by omega),d3_ (by omega),d3_ c1,d4_ cz];rfl
    rw [if_neg cz]
    refine gp_ (s':=(acc++nth (nth q.outs s.toNat ([]:T_2)) (nth w k (0:UInt8)).toNat ([]:T_1),nth (nth q.next s.toNat ([]:N_1)) (nth w k (0:UInt8)).toNat (0:Int),k+1)) ?_ (qq_ h w hw m (k+1) _ _ (by omega) (by omega) (by omega) c4 (by rw [la_];omega))
    simp only [Ci_]
    rw [d4_ (by omega),d3_ (by omega),d3_ c1,d5_ cz,d3_ (by omega),d3_ c2,ob_ _ _ (by omega),ed_];rfl
theorem apply_eq(q:Seq)(w:T_1)(hw:w.length≤1000000):Ez_ q w=some (gi_ q w):=by
  unfold Ez_ gi_
  rw [d3_ (by omega),Ff_,ed_]
  by_cases h:d9_ q=true
  · rw [if_pos h,d5_ (by omega),if_pos h]
    by_cases h2:q.next.length=0
    · rw [d4_ (by omega),if_pos h2]
    rw [d5_ (by omega),if_neg h2,ob_ _ _ (by have:=(d7_ h).2.2.2.2;simp only [List.length_nil];omega),ed_]
    simp only [List.nil_append]
    have:=qq_ h w hw _ 0 0 q.front rfl (Nat.zero_le _) (by omega) (by omega) (by have:=(d7_ h).2.2.2.2;omega)
    rw [List.drop_zero]at this
    exact this
  rw [if_neg h,d4_ (by omega),if_neg h]
theorem s5_{q:Seq}(h:d9_ q=true)(w:T_1):(gi_ q w).2.2.2=0:=by
  unfold gi_;rw [if_pos h];split<;>rfl
def nxQ(q:Seq)(s b:Nat):Int:=nth (nth q.next s []) b 0
def otQ(q:Seq)(s b:Nat):T_1:=nth (nth q.outs s []) b []
def ev_(q:Seq):Nat→T_1→Option T_1
  |s,[]=>if nth q.fin s false=true then some (nth q.tail s []) else none
  |s,b::w=>if nxQ q s b.toNat<0 then none else (ev_ q (nxQ q s b.toNat).toNat w).map fun y=>otQ q s b.toNat++y
def rb_(q:Seq)(s:Nat):Prop:= ∃w y,ev_ q s w=some y
def ComQ(q:Seq)(s:Nat)(p:T_1):Prop:= ∀w y,ev_ q s w=some y→p <+: y
structure FrI (q:Seq) (l:T_2) (m:B_1):Prop where
  ln:l.length=q.next.length
  mn:m.length=q.next.length
  no: ∀s,s<q.next.length→nth m s false=false→nth l s []=[]
  live: ∀s,s<q.next.length→nth m s false=true→rb_ q s
  up: ∀s,s<q.next.length→nth m s false=true→ ∀p,ComQ q s p→p <+: nth l s []
def y2_(q:Seq)(l:T_2)(m:B_1)(s b:Nat):T_2:=
  if 0≤nxQ q s b∧nth m (nxQ q s b).toNat false=true then [otQ q s b++nth l (nxQ q s b).toNat []] else []
def js_(q:Seq)(l:T_2)(m:B_1)(s k:Nat):T_2:=(if nth q.fin s false=true then [nth q.tail s []] else [])++(List.range k).flatMap (y2_ q l m s)
def h7_(q:Seq)(l:T_2)(m:B_1)(s:Nat):T_2:=js_ q l m s 256
theorem wk_(q:Seq)(l:T_2)(m:B_1)(s k:Nat):js_ q l m s (k+1)=js_ q l m s k++y2_ q l m s k:=by
  simp [js_,List.range_succ,ap_]
theorem ir_{q:Seq}{l:T_2}{m:B_1}{s:Nat}{x:T_1}:x∈h7_ q l m s↔(nth q.fin s false=true∧x=nth q.tail s [])∨ ∃b,b<256∧0≤nxQ q s b∧nth m (nxQ q s b).toNat false=true∧x=otQ q s b++nth l (nxQ q s b).toNat []:=by
  unfold h7_ js_
  rw [List.mem_append]
  constructor
  · rintro (h|h)
    · split at h
      · rename_i c;rw [mo_]at h;exact .inl ⟨c,h⟩
      cases h
    obtain ⟨b,hb,h⟩:=List.mem_flatMap.1 h
    unfold y2_ at h
    split at h
    · rename_i c;rw [mo_]at h;exact .inr ⟨b,List.mem_range.1 hb,c.1,c.2,h⟩
    cases h
  rintro (⟨c,h⟩|⟨b,hb,c1,c2,h⟩)
  · left;rw [if_pos c,mo_];exact h
  right
  refine List.mem_flatMap.2 ⟨b,List.mem_range.2 hb,?_⟩
  unfold y2_
  rw [if_pos ⟨c1,c2⟩,mo_];exact h
theorem t2_{b:Nat}(hb:b<256):(UInt8.ofNat b).toNat=b:=by rw [UInt8.toNat_ofNat'];omega
theorem fe_{q:Seq}(h:d9_ q=true){s b:Nat}(hs:s<q.next.length)(hb:b<256):nxQ q s b<(q.next.length:Int):=by
  have:=(ig_ h (s:=((s:Nat):Int)) (by omega) (by omega) (UInt8.ofNat b)).hi
  rw [t2_ hb,tn_]at this;exact this
theorem u0_{q:Seq}(h:d9_ q=true){s b:Nat}(hs:s<q.next.length)(hb:b<256): -1≤nxQ q s b:=by
  have:=(ig_ h (s:=((s:Nat):Int)) (by omega) (by omega) (UInt8.ofNat b)).lo
  rw [t2_ hb,tn_]at this;exact this
theorem n9_{q:Seq}(h:d9_ q=true){s b:Nat}(hs:s<q.next.length)(hb:b<256):(otQ q s b).length≤4096:=by
  have:=(ig_ h (s:=((s:Nat):Int)) (by omega) (by omega) (UInt8.ofNat b)).le
  rw [t2_ hb,tn_]at this;exact this
theorem xh_{q:Seq}{s b:Nat}(hb:b<256)(h0:0≤nxQ q s b){p:T_1}(hp:ComQ q s p): ∀w y,ev_ q (nxQ q s b).toNat w=some y→p <+: otQ q s b++y:=fun w y hy=>by
  refine hp (UInt8.ofNat b::w) _ ?_
  rw [ev_,t2_ hb,if_neg (by omega),hy];rfl
theorem FrI.all{q:Seq}(hq:d9_ q=true){l:T_2}{m:B_1}(h:FrI q l m){s:Nat}(hs:s<q.next.length){p:T_1}(hp:ComQ q s p): ∀x∈h7_ q l m s,p <+: x:=fun x hx=>by
  rcases ir_.1 hx with ⟨c,rfl⟩|⟨b,hb,h0,hm,rfl⟩
  · refine hp [] _ ?_
    rw [ev_,if_pos c]
  have hz:=fe_ hq hs hb
  have hv:=xh_ hb h0 hp
  obtain ⟨w,y,hy⟩:=h.live _ (show (nxQ q s b).toNat<_ by omega) hm
  have h1:=hv w y hy
  rcases List.prefix_or_prefix_of_prefix h1 (List.prefix_append (otQ q s b) y)with h2|⟨r,hr⟩
  · exact h2.trans (List.prefix_append _ _)
  subst hr
  rw [List.prefix_append_right_inj]
  refine h.up _ (by omega) hm r fun w y hy=> ?_
  have:=hv w y hy
  rwa [List.prefix_append_right_inj]at this
theorem FrI.goes{q:Seq}(hq:d9_ q=true){l:T_2}{m:B_1}(h:FrI q l m){s:Nat}(hs:s<q.next.length)(hn:h7_ q l m s≠[]):rb_ q s:=by
  obtain ⟨x,hx⟩:=List.exists_mem_of_ne_nil _ hn
  rcases ir_.1 hx with ⟨c,rfl⟩|⟨b,hb,h0,hm,rfl⟩
  · exact ⟨[],_,by rw [ev_,if_pos c]⟩
  have hz:=fe_ hq hs hb
  obtain ⟨w,y,hy⟩:=h.live _ (show (nxQ q s b).toNat<_ by omega) hm
  refine ⟨UInt8.ofNat b::w,otQ q s b++y,?_⟩
  rw [ev_,t2_ hb,if_neg (by omega),hy];rfl
theorem FrI.put{q:Seq}(hq:d9_ q=true){l:T_2}{m:B_1}(h:FrI q l m){s:Nat}(hs:s<q.next.length)(hn:h7_ q l m s≠[]):FrI q (l.set s (gn_ (h7_ q l m s))) (m.set s true):=by
  have hl:=h.ln
  have hm:=h.mn
  refine ⟨by rw [ls_];exact hl,by rw [ls_];exact hm,fun z hz hz2=> ?_,fun z hz hz2=> ?_,fun z hz hz2 p hp=> ?_⟩
  · rw [ek_]at hz2 ⊢
    by_cases c:s=z
    · rw [if_pos ⟨c,by omega⟩]at hz2;cases hz2
    rw [if_neg (fun q=>c q.1)]at hz2 ⊢;exact h.no z hz hz2
  · rw [ek_]at hz2
    by_cases c:s=z
    · subst c;exact h.goes hq hs hn
    rw [if_neg (fun q=>c q.1)]at hz2;exact h.live z hz hz2
  rw [ek_]at hz2 ⊢
  by_cases c:s=z
  · subst c
    rw [if_pos ⟨rfl,by omega⟩]
    exact nq_ hn (h.all hq hs hp)
  rw [if_neg (fun q=>c q.1)]at hz2 ⊢;exact h.up z hz hz2 p hp
def y1_(q:Seq)(l:T_2)(m:B_1)(s:Nat):Prop:=(nth m s false=true→nth l s []=gn_ (h7_ q l m s))∧(nth m s false=false→h7_ q l m s=[])
theorem oc_{q:Seq}(hq:d9_ q=true){l:T_2}{m:B_1}(hd: ∀s,s<q.next.length→y1_ q l m s): ∀(w:T_1) (s:Nat) (y:T_1),s<q.next.length→ev_ q s w=some y→nth m s false=true∧nth l s [] <+: y
  |[],s,y,hs,hy=>by
    rw [ev_]at hy
    split at hy
    · rename_i c
      cases hy
      have hmem:nth q.tail s []∈h7_ q l m s:=ir_.2 (.inl ⟨c,rfl⟩)
      cases hm:nth m s false with
      |false=>have:=(hd s hs).2 hm;rw [this]at hmem;cases hmem
      |true=>exact ⟨rfl,by rw [(hd s hs).1 hm];exact hu_ hmem⟩
    cases hy
  | b :: w, s, y, hs, hy => by
    rw [ev_]at hy
    have hb:=UInt8.toNat_lt b
    split at hy
    · cases hy
    rename_i c
    have hz:=fe_ hq hs (show b.toNat<256 by omega)
    cases ho:ev_ q (nxQ q s b.toNat).toNat w with
    |none=>rw [ho]at hy;cases hy
    |some y'=>
      rw [ho]at hy
      cases hy
      obtain ⟨h1,h2⟩:=oc_ hq hd w _ y' (show (nxQ q s b.toNat).toNat<_ by omega) ho
      have hmem:otQ q s b.toNat++nth l (nxQ q s b.toNat).toNat []∈h7_ q l m s:=ir_.2 (.inr ⟨b.toNat,by omega,by omega,h1,rfl⟩)
      have h3:otQ q s b.toNat++nth l (nxQ q s b.toNat).toNat [] <+: otQ q s b.toNat++y':=by rwa [List.prefix_append_right_inj]
      cases hm:nth m s false with
      |false=>have:=(hd s hs).2 hm;rw [this]at hmem;cases hmem
      |true=>exact ⟨rfl,by rw [(hd s hs).1 hm];exact (hu_ hmem).trans h3⟩
structure FrOk (q:Seq) (l:T_2) (m:B_1):Prop where
  ln:l.length=q.next.length
  mn:m.length=q.next.length
  live: ∀s,s<q.next.length→(nth m s false=true↔rb_ q s)
  no: ∀s,s<q.next.length→nth m s false=false→nth l s []=[]
  com: ∀s,s<q.next.length→ComQ q s (nth l s [])
  up: ∀s,s<q.next.length→nth m s false=true→ ∀p,ComQ q s p→p <+: nth l s []
  le: ∀s,s<q.next.length→(nth l s []).length≤4194304
theorem FrI.ok{q:Seq}(hq:d9_ q=true){l:T_2}{m:B_1}(h:FrI q l m)(hle: ∀s,s<q.next.length→nth m s false=true→(nth l s []).length≤4194304)(hd: ∀s,s<q.next.length→y1_ q l m s):FrOk q l m:=
  ⟨h.ln,h.mn,fun s hs=>⟨h.live s hs,fun ⟨w,y,hy⟩=>(oc_ hq hd w s y hs hy).1⟩,h.no,fun s hs w y hy=>(oc_ hq hd w s y hs hy).2,h.up,fun s hs=>by
    cases c:nth m s false with
    |true=>exact hle s hs c
    |false=>rw [h.no s hs c];exact Nat.zero_le _⟩
def LeQ(n:Nat)(l:T_2)(m:B_1)(l':T_2)(m':B_1):Prop:= ∀s,s<n→nth m s false=true→nth m' s false=true∧nth l' s [] <+: nth l s []
theorem LeQ.all{q:Seq}(hq:d9_ q=true){l l':T_2}{m m':B_1}(h:LeQ q.next.length l m l' m'){s:Nat}(hs:s<q.next.length): ∀x∈h7_ q l m s, ∃x'∈h7_ q l' m' s,x' <+: x:=fun x hx=>by
  rcases ir_.1 hx with ⟨c,rfl⟩|⟨b,hb,h0,hm,rfl⟩
  · exact ⟨_,ir_.2 (.inl ⟨c,rfl⟩),List.prefix_refl _⟩
  have hz:=fe_ hq hs hb
  obtain ⟨h1,h2⟩:=h _ (show (nxQ q s b).toNat<_ by omega) hm
  exact ⟨_,ir_.2 (.inr ⟨b,hb,h0,h1,rfl⟩),by rwa [List.prefix_append_right_inj]⟩
theorem LeQ.lcp{q:Seq}(hq:d9_ q=true){l l':T_2}{m m':B_1}(h:LeQ q.next.length l m l' m'){s:Nat}(hs:s<q.next.length)(hn:h7_ q l m s≠[]):gn_ (h7_ q l' m' s) <+: gn_ (h7_ q l m s):=
  nq_ hn fun x hx=>by
    obtain ⟨x',h1,h2⟩:=h.all hq hs x hx
    exact (hu_ h1).trans h2
def z1_(q:Seq)(l:T_2)(m:B_1):Prop:= ∀s,s<q.next.length→nth m s false=true→h7_ q l m s≠[]∧gn_ (h7_ q l m s) <+: nth l s []
theorem put_le{q:Seq}{l:T_2}{m:B_1}(h:z1_ q l m){s:Nat}(hs:s<q.next.length)(hl:l.length=q.next.length)(hm:m.length=q.next.length):LeQ q.next.length l m (l.set s (gn_ (h7_ q l m s))) (m.set s true):=fun z hz hz2=>by
  rw [ek_,ek_]
  by_cases c:s=z
  · subst c
    rw [if_pos ⟨rfl,by omega⟩,if_pos ⟨rfl,by omega⟩]
    exact ⟨rfl,(h s hs hz2).2⟩
  rw [if_neg (fun q=>c q.1),if_neg (fun q=>c q.1)]
  exact ⟨hz2,List.prefix_refl _⟩
theorem z1_.put{q:Seq}(hq:d9_ q=true){l:T_2}{m:B_1}(h:z1_ q l m){s:Nat}(hs:s<q.next.length)(hl:l.length=q.next.length)(hm:m.length=q.next.length)(hn:h7_ q l m s≠[]):z1_ q (l.set s (gn_ (h7_ q l m s))) (m.set s true):=fun z hz hz2=>by
  have hle:=put_le h hs hl hm
  rw [ek_]at hz2
  by_cases c:s=z
  · subst c
    obtain ⟨x,hx⟩:=List.exists_mem_of_ne_nil _ hn
    obtain ⟨x',h1,_⟩:=hle.all hq hs x hx
    refine ⟨List.ne_nil_of_mem h1,?_⟩
    have:=hle.lcp hq hs hn
    rw [ek_ (l:=l),if_pos ⟨rfl,by omega⟩]
    exact this
  rw [if_neg (fun q=>c q.1)]at hz2
  obtain ⟨k1,k2⟩:=h z hz hz2
  obtain ⟨x,hx⟩:=List.exists_mem_of_ne_nil _ k1
  obtain ⟨x',h1,_⟩:=hle.all hq hz x hx
  refine ⟨List.ne_nil_of_mem h1,?_⟩
  have:=hle.lcp hq hz k1
  rw [ek_ (l:=l),if_neg (fun q=>c q.1)]
  exact this.trans k2
theorem f7_{q:Seq}(h:d9_ q=true){s:Nat}(hs:s<q.next.length):(nth q.next s []).length=256∧(nth q.outs s []).length=256:=by
  have hst:=gc_ h (s:=((s:Nat):Int)) (by omega) (by omega)
  rw [tn_]at hst
  simp only [iu_,z5_,Bool.and_eq_true,dq_]at hst
  exact hst.2.1
theorem gg_{q:Seq}(h:d9_ q=true){s:Nat}(hs:s<q.next.length):(nth q.tail s []).length≤4096∧(nth q.fin s false=true∨nth q.tail s []=[]):=by
  have hst:=gc_ h (s:=((s:Nat):Int)) (by omega) (by omega)
  rw [tn_]at hst
  simp only [iu_,Bool.and_eq_true,Bool.or_eq_true,dq_]at hst
  exact hst.1
theorem iw_{q:Seq}(h:d9_ q=true){s b:Nat}(hs:s<q.next.length)(hb:b<256)(hn:nxQ q s b<0):otQ q s b=[]:=by
  have hst:=gc_ h (s:=((s:Nat):Int)) (by omega) (by omega)
  rw [tn_]at hst
  simp only [iu_,z5_,Bool.and_eq_true,dq_]at hst
  have hc:=hy_.1 hst.2.2 b hb
  simp only [n2_,Bool.and_eq_true,Bool.or_eq_true,dq_]at hc
  have h1:nth (nth q.next s []) b 0<0:=hn
  have h2:=hc.1.1.1
  rcases hc.2 with c|c
  · omega
  exact c
end Go.Proofs.YtchebnpdnfhenaaGreatDoor
end

noncomputable section
namespace Go.E
open Go
theorem m7_{P:Program}{w:World}(t ty e:TypeId)(i:TypeInfo)(ht:P.underlying t=some (.slice e))(hi:P.info? e=some i)
    (g o sLen sCap:Nat) (cur:Array Value) (hg:w.heap[g]? =some (.cells cur e (0,0)))
    (a:Addr) (m c:Nat) (news:List Value) (hl:news.length=m * i.size) (hnews: ∀j u,news[j]? =some u→w.cell? (a.add j)=some u) (h1: ∀u∈news,u.oneCell'=true)
    (hroom:sLen+m≤sCap) (hfit:o+sLen * i.size+news.length≤cur.size):
    (Builtin.append_ #[t,t] ty #[.slice (some ⟨g,o,none⟩) sLen sCap,.slice (some a) m c]).run P w=
      .ok (.slice (some ⟨g,o,none⟩) (sLen+m) sCap) (w.setRow g (cur.toList.take (o+sLen * i.size)++news++cur.toList.drop (o+sLen * i.size+news.length)).toArray):=by
  have hf:=run_firstCells_some (P:=P) w i.size m a m c news hl hnews
  have hst:=run_storeCells_at P g (o+sLen * i.size) e news 0 cur w hg (by simpa using hfit) h1
  simp only [Nat.add_zero]at hst
  simp [Builtin.append_,run_underlying ht,sizeOf,typeInfo,hi,Builtin.lenOf,hroom,hf,Addr.add_lit,hst]
def q4_(size k:Nat):Value→Value
  | .slice a n c=> .slice (a.map fun b=>b.add (k * size)) (n - k) (c - k)
  |v=>v
theorem p5_(size:Nat)(v:Value):q4_ size 0 v=v:=by
  cases v<;>simp only [q4_]
  rename_i a n c
  cases a<;>simp [Addr.add]
theorem ty_(size k:Nat)(v:Value):(q4_ size k v).ownBlock=v.ownBlock:=by
  cases v<;>simp only [q4_]
  rename_i a n c
  cases a with
  |none=>rfl
  |some b=>simp only [Value.ownBlock,Option.map_some,Addr.add];split<;>rfl
def View(size k:Nat)(v0 v:Value)(n:Nat):Prop:=v=q4_ size k v0∨n=0∧v.ownBlock=v0.ownBlock∧ ∃a,v= .slice a 0 0
theorem View.block{size k:Nat}{v0 v:Value}{n:Nat}(h:View size k v0 v n):v.ownBlock=v0.ownBlock:=by
  rcases h with rfl|⟨_,h,_⟩
  · exact ty_ ..
  exact h
def Row0{α:Type}(E size:Nat)(enc:α→List Value)(v:Value)(L:List α)(w:World):Prop:=w.ownsRow 0 E size v L.length (L.flatMap enc)∧ ∀u∈L.flatMap enc,u.oneCell'=true
def Res.queS {α : Type} (E size : Nat) (enc : α → List Value) (v : Value) (l : List α) : Res where
  bl:=v.ownBlock.toList
  holds w:= ∃(L:List α) (v0:Value) (k:Nat),Row0 E size enc v0 L w∧k≤L.length∧l=L.drop k∧View size k v0 v l.length∧l.length≤281474976710656
  lt w b hb h:=by
    obtain ⟨L,v0,k,h,_,_,hv,_⟩:=h
    exact (h.1.lt b (by rw [←hv.block];exact Option.mem_toList.1 hb)).2
  keep w w' hb h:=by
    obtain ⟨L,v0,k,⟨h,ho⟩,h1,h2,hv,h3⟩:=h
    refine ⟨L,v0,k,⟨⟨h.1,?_⟩,ho⟩,h1,h2,hv,h3⟩
    have hbl:=hv.block
    rcases h.2 with hn|⟨g,cap,cur,rfl,h0,hg,rest⟩
    · exact .inl hn
    exact .inr ⟨g,cap,cur,rfl,h0,by rw [hb g (by rw [hbl];exact Option.mem_toList.2 rfl)];exact hg,rest⟩
section
variable {α:Type} {E size:Nat} {enc:α→List Value} {v:Value} {l:List α}
theorem Reach.c5_{w0:World}{C:List Nat}{σ0 σ:d0_}{w:World}{F:List Res}(h:Reach w0 C σ0 σ w (ε E size enc v l::F)):Reach w0 C σ0 σ w (Res.queS E size enc v l::F):=
  h.bk_ v.ownBlock v.ownBlock rfl rfl rfl rfl rfl (Nat.le_refl _) (Nat.le_refl _) (fun _ _ _=>rfl) ⟨l,v,0,⟨(h.holds _ (mc_ ..)).1,(h.holds _ (mc_ ..)).2.1⟩,Nat.zero_le _,rfl,.inl (p5_ size v).symm,(h.holds _ (mc_ ..)).2.2⟩ (fun _ hb=> .inl hb)
theorem TC.c5_{X:Ctx}{Q:QP}{c:Code}{e:Env}{σ:d0_}{F:List Res}(k:TC X Q c e σ (Res.queS E size enc v l::F)):TC X Q c e σ (ε E size enc v l::F):=fun w a hw ha=>k w a (hw.by fun _ h=>h.c5_) ha
theorem que_sl{w:World}(h:(Res.queS E size enc v l).holds w):o7_ v l.length∧l.length≤281474976710656:=by
  obtain ⟨L,v0,k,h,hk,rfl,hv,hb⟩:=h
  obtain ⟨a,c,rfl,h0,hc⟩:=isSl_row h.1
  rw [List.length_drop]at hv hb ⊢
  rcases hv with rfl|⟨h1, -,a',rfl⟩
  · refine ⟨⟨_,_,rfl,fun hn=> ?_,by omega⟩,by omega⟩
    cases a with
    |none=>obtain ⟨h1,h2⟩:=h0 rfl;omega
    |some b=>cases hn
  rw [h1];exact ⟨⟨a',0,rfl,fun _=>⟨rfl,rfl⟩,Nat.le_refl _⟩,by omega⟩
theorem vt_{σ:d0_}{H:List Res}{q:Nat}(hq:H[q]? =some (Res.queS E size enc v l)): ∀w,hk_ σ H w→o7_ v l.length∧l.length≤281474976710656:=fun w hw=>que_sl (hw.2 _ (List.mem_of_getElem? hq))
theorem sx_{w:World}(h:(Res.queS E size enc v l).holds w):(∃(L:List α) (g k c:Nat) (cur:Array Value),k≤L.length∧l=L.drop k∧v= .slice (some ⟨g,k * size,none⟩) (L.length - k) (c - k)∧w.heap[g]? =some (.cells cur E (0,0))∧L.length≤c∧c≤maxLen∧cur.size=c * size∧cur.toList.take (L.length * size)=L.flatMap enc∧(L.flatMap enc).length=L.length * size∧(∀u∈L.flatMap enc,u.oneCell'=true)∧l.length≤281474976710656)∨l=[]∧ ∃a,v= .slice a 0 0:=by
  obtain ⟨L,v0,k,h,hk,rfl,hv,hbig⟩:=h
  rw [List.length_drop]at hv
  obtain ⟨⟨hl,h1⟩,hone⟩:=h
  rcases hv with rfl|⟨h7, -,a,rfl⟩
  · rcases h1 with ⟨rfl,hn⟩|⟨g,c,cur,rfl, -,hg,h3,h4,h5,h6⟩
    · refine .inr ⟨en_ (by rw [List.length_drop];omega),none,?_⟩
      simp [q4_]
    refine .inl ⟨L,g,k,c,cur,hk,rfl,?_,hg,h3,h4,h5,h6,hl,hone,hbig⟩
    unfold q4_
    simp only [Option.map_some,gm_,Nat.zero_add]
  exact .inr ⟨en_ (by rw [List.length_drop];exact h7),a,rfl⟩
theorem v5_{w:World}(h:(Res.queS E size enc v l).holds w)(h0:0<l.length): ∃(L:List α) (g k c:Nat) (cur:Array Value),k<L.length∧l=L.drop k∧v= .slice (some ⟨g,k * size,none⟩) (L.length - k) (c - k)∧w.heap[g]? =some (.cells cur E (0,0))∧L.length≤c∧c≤maxLen∧cur.size=c * size∧cur.toList.take (L.length * size)=L.flatMap enc∧(L.flatMap enc).length=L.length * size∧(∀u∈L.flatMap enc,u.oneCell'=true)∧l.length≤281474976710656:=by
  rcases sx_ h with ⟨L,g,k,c,cur,hk,rfl,h⟩|⟨rfl, -⟩
  · rw [List.length_drop]at h0;exact ⟨L,g,k,c,cur,by omega,rfl,h⟩
  cases h0
theorem pa_{size:Nat}(hl: ∀x,(enc x).length=size): ∀(L:List α) (k:Nat),(L.drop k).flatMap enc=(L.flatMap enc).drop (k * size)
  |L,0=>by simp
  |[],k+1=>by simp
  |x::L,k+1=>by
    rw [List.drop_succ_cons,pa_ hl L k,List.flatMap_cons,Nat.add_mul,Nat.one_mul,Nat.add_comm,←hl x,List.drop_length_add_append]
theorem OpVal.de_{P:Program}{n:Nat}{e:Env}{σ:d0_}{H:List Res}{o:Oper}{x:Operand}{T q i:Nat}{u:Value}(d:α)(ho:o.op= .load T x)(hA:aggOf P T=some false)(hx:ev e x=jj_ v (i * 1))(hq:H[q]? =some (Res.queS E 1 enc v l))(hl: ∀x,(enc x).length=1)(hi:i<l.length)
    (hu:(enc (nth l i d))[0]? =some u):OpVal P n o e σ H u:=fun w hw=>by
  have hQ:=hw.2 _ (List.mem_of_getElem? hq)
  obtain ⟨L,g,k,c,cur,hk,rfl,rfl,hg,h3,h4,h5,h6,h7,h8,h9⟩:=v5_ hQ (by omega)
  rw [List.length_drop]at hi
  have hn:nth (L.drop k) i d=nth L (k+i) d:=by unfold nth;simp [List.getD_eq_getElem?_getD,List.getElem?_drop]
  rw [hn]at hu
  have hx':ev e x=loc g (k+i):=by
    rw [hx];unfold jj_ loc;simp only [gm_,Nat.mul_one]
  have hc:cur.toList[k+i]? =some u:=by
    have h10:(L.flatMap enc)[(k+i) * 1+0]? =some u:=by rw [gx_ hl L (k+i) 0 _ (getD_some L (by omega) d) (by omega)];exact hu
    rw [←h6,List.getElem?_take]at h10
    split at h10
    · simpa using h10
    cases h10
  exact OpVal.ab_ (n:=n) (H:=[φ g cur E]) (i:=0) ho hA hx' rfl (by simpa using hc) w ⟨hw.1,fun r hr=>by rw [List.mem_singleton.1 hr];exact hg⟩
end
section
variable {X:Ctx} {e:Env} {σ:d0_} {F:List Res} {o:Oper} {x y:Operand} {K:Env→d0_→List Res→Prop} {α:Type} {E size d:Nat} {enc:α→List Value} {v:Value} {l:List α}
theorem OpOk.popQ {T i : Nat} {k : IntKind} (ho : o.op = .slice T x (some y) none none) (ht : X.P.underlying T = some (.slice E)) (hs : szOf X.P E = some size) (hd : o.dst = some d) (hn : Nat.blt d X.n = true) (hx : ev e x = v) (hy : ev e y = .int k (i : Nat)) (hi : i ≤ l.length) (h0 : 0 < l.length)
    (kk: ∀a c,K (upd e d (.slice a (l.drop i).length c)) σ (Res.queS E size enc (.slice a (l.drop i).length c) (l.drop i)::F)):OpOk X o e σ (Res.queS E size enc v l::F) K:=by
  intro u0 C0 τ0 w a hw ha K' Q hK
  have hQ:=hw.holds _ (mc_ ..)
  obtain ⟨L,g,q,c,cur,hk,rfl,rfl,hg,h3,h4,h5,h6,h7,h8,h9⟩:=v5_ hQ h0
  rw [List.length_drop]at hi
  have hlen:((L.drop q).drop i).length=L.length - q - i:=by rw [List.length_drop,List.length_drop]
  have hrow:Row0 E size enc (.slice (some ⟨g,0,none⟩) L.length c) L w:=⟨⟨h7,.inr ⟨g,c,cur,rfl,Nat.zero_le _,hg,h3,h4,h5,h6⟩⟩,h8⟩
  obtain ⟨a',hrun,hV⟩: ∃a',(execOp (ev e) o).run X.P w= .ok (.value (.slice a' (L.length - q - i) (c - q - i))) w∧(Value.slice a' (L.length - q - i) (c - q - i)).ownBlock=(Value.slice (some ⟨g,0,none⟩) L.length c).ownBlock∧View size (q+i) (.slice (some ⟨g,0,none⟩) L.length c) (.slice a' (L.length - q - i) (c - q - i)) (L.length - q - i):=by
    by_cases hc:c - q=i
    · refine ⟨some ⟨g,q * size,none⟩,?_,rfl,.inr ⟨by omega,rfl,?_⟩⟩
      · have h1:(i:Int)≤((c - q:Nat):Int):=by omega
        have h2:(i:Int)≤((L.length - q:Nat):Int):=by omega
        simp [execOp,ho,hx,hy,Instr.sliceAt,Instr.slice,Instr.sliceBounds,Instr.sliceBound,asIntOf,run_underlying ht,ew_ hs]
        rw [if_pos hi,if_pos hc]
      rw [show L.length - q - i=0 by omega,show c - q - i=0 by omega];exact ⟨_,rfl⟩
    refine ⟨some ⟨g,(q+i) * size,none⟩,?_,rfl,.inl ?_⟩
    · simp [execOp,ho,hx,hy,Instr.sliceAt,Instr.slice,Instr.sliceBounds,Instr.sliceBound,asIntOf,run_underlying ht,ew_ hs]
      rw [if_pos hi,if_neg hc,gm_,←Nat.add_mul]
    unfold q4_
    simp only [Option.map_some,gm_,Nat.zero_add,Nat.sub_sub]
  have hR:Reach u0 C0 τ0 σ w (Res.queS E size enc (.slice a' (L.length - q - i) (c - q - i)) ((L.drop q).drop i)::F):=
    hw.bk_ (some g) (some g) rfl (by show (Value.slice a' (L.length - q - i) (c - q - i)).ownBlock.toList=_;rw [hV.1];rfl) rfl rfl rfl (Nat.le_refl _) (Nat.le_refl _) (fun _ _ _=>rfl) ⟨L,_,q+i,hrow,by omega,by rw [List.drop_drop],by rw [hlen];exact hV.2,by rw [List.length_drop]at h9;omega⟩ (fun _ hb=> .inl hb)
  have hk2:=kk a' (c - q - i)
  rw [hlen]at hk2
  refine Oper.am_ (w':=w) (v:= .slice a' (L.length - q - i) (c - q - i)) ?_ (hK _ _ _ _ _ hk2 hR (fi_ ha hd hn _))
  rw [ha.eval'];exact hrun
theorem OpOk.cw_ {T by_ : Nat} {z u : Value} {l2 : List α} {ty : TypeId} (ho : o.op = .call { callee := .builtin .append, args := #[x, y], argTypes := #[T, ty] }) (hty : ty = T) (ht : X.P.underlying T = some (.slice E)) (hs : szOf X.P E = some size) (hby : byOf X.P E = some by_) (hz : zeroOf X.P E = some z)
    (hd:o.dst=some d) (hn:Nat.blt d X.n=true) (hsz:0<size) (hzs:z.cells.size=size) (hl: ∀x,(enc x).length=size) (hx:ev e x=v) (hy:ev e y=u) (hsrc:ug_ σ F size enc u l2) (hb0:(l.length+l2.length) * by_≤140737488355328) (hby0:0<by_) (h2:0<l2.length)
    (k: ∀a c,K (upd e d (.slice a (l++l2).length c)) σ (Res.queS E size enc (.slice a (l++l2).length c) (l++l2)::F)):OpOk X o e σ (Res.queS E size enc v l::F) K:=by
  subst hty
  obtain ⟨i,hi,hsi⟩:=hx_ hs
  have hiz:i.zero=some z:=by simpa [zeroOf,hi]using hz
  have hib:i.bytes=by_:=by simpa [byOf,hi]using hby
  have hm0:l.length+l2.length≤140737488355328:=Nat.le_trans (Nat.le_mul_of_pos_right _ hby0) hb0
  have hm:l.length+l2.length≤maxLen:=by unfold maxLen;omega
  intro u0 C0 τ0 w a hw ha K' Q hK
  have hQ:=hw.holds _ (mc_ ..)
  have hF:hk_ σ F w:=⟨hw.fit,fun r hr=>hw.holds r (mm_ _ hr)⟩
  have hsrc':vd_ σ F size u l2.length (l2.flatMap enc):=by
    rcases hsrc with h|⟨E',q,h⟩
    · exact .inl h.rv
    exact .inr ⟨E',q,h⟩
  have hyl:(l2.flatMap enc).length=l2.length * size:=eg_ hl l2
  rcases hsrc'.spec hF with ⟨_,h0,_⟩|⟨ad,c2,rfl,hl2,hc2,h1⟩
  · omega
  have hone2: ∀q∈(l++l2).flatMap enc,(∀u∈l.flatMap enc,u.oneCell'=true)→q.oneCell'=true:=fun q hq h0=>by
    rw [List.flatMap_append]at hq
    rcases List.mem_append.1 hq with hq|hq
    · exact h0 q hq
    exact h1 q hq
  have hfl:(l.flatMap enc).length=l.length * size:=eg_ hl l
  -- the end: a new row with all of it
  have fin: ∀(vb:Value) (cap:Nat),v=vb→(∀u∈l.flatMap enc,u.oneCell'=true)→cap<l.length+l2.length→
      (Builtin.append_ #[ty,ty] o.type #[vb,.slice (some ad) l2.length c2]).run X.P w=
        .ok (.slice (some ⟨w.heap.size,0,none⟩) (l.length+l2.length) (grownCap w (l.length+l2.length) cap E)) (w.drew.alloc (.cells ((l.flatMap enc).toArray++(l2.flatMap enc).toArray++Builtin.zeroCells z.cells (grownCap w (l.length+l2.length) cap E - (l.length+l2.length))) E))→
      o.wpIn (fence X.rnd) 0 X.P a w K' Q:=fun vb cap hvb hone hcap hrun=>by
    subst hvb
    have hge:=grownCap_ge w (l.length+l2.length) cap E
    have hcm:grownCap w (l.length+l2.length) cap E≤maxLen:=grownCap_le_maxLen w (l.length+l2.length) cap E hm
    have hrow:Row0 E size enc (.slice (some ⟨w.heap.size,0,none⟩) (l.length+l2.length) (grownCap w (l.length+l2.length) cap E)) (l++l2) (w.drew.alloc (.cells ((l.flatMap enc).toArray++(l2.flatMap enc).toArray++Builtin.zeroCells z.cells (grownCap w (l.length+l2.length) cap E - (l.length+l2.length))) E)):=by
      refine ⟨⟨by rw [eg_ hl],.inr ⟨w.heap.size,_,_,by rw [la_],Nat.zero_le _,heap_alloc_new w.drew _,by rw [la_];exact hge,hcm,?_,?_⟩⟩,fun q hq=>hone2 q hq hone⟩
      · simp only [Array.size_append,List.size_toArray,size_zeroCells,hzs,hfl,hyl,←Nat.add_mul]
        congr 1
        omega
      simp only [Array.toList_append,ap_,List.flatMap_append]
      rw [←ap_,la_,Nat.add_mul,←hfl,←hyl,←la_]
      exact List.take_left
    have hR:Reach u0 C0 τ0 σ (w.drew.alloc (.cells ((l.flatMap enc).toArray++(l2.flatMap enc).toArray++Builtin.zeroCells z.cells (grownCap w (l.length+l2.length) cap E - (l.length+l2.length))) E)) (Res.queS E size enc (.slice (some ⟨w.heap.size,0,none⟩) (l.length+l2.length) (grownCap w (l.length+l2.length) cap E)) (l++l2)::F):=
      hw.bk_ (Value.ownBlock v) (some w.heap.size) rfl rfl rfl rfl rfl (by simp) (Nat.le_succ _) (fun k hk _=>gu_ w.drew _ k hk) ⟨l++l2,_,0,hrow,Nat.zero_le _,rfl,.inl (p5_ size _).symm,by rw [la_];omega⟩ (fun b hb=> .inr (by cases hb;exact Nat.le_refl _))
    have hk2:=k (some ⟨w.heap.size,0,none⟩) (grownCap w (l.length+l2.length) cap E)
    rw [la_]at hk2
    refine Oper.am_ (w':=_) (v:= .slice (some ⟨w.heap.size,0,none⟩) (l.length+l2.length) (grownCap w (l.length+l2.length) cap E)) ?_ (hK _ _ _ _ _ hk2 hR (fi_ ha hd hn _))
    rw [ha.eval']
    simp [execOp,ho,resolve,invoke,builtin,hx,hy,hrun]
  subst hsi hib
  rcases sx_ hQ with ⟨L,g,q,c,cur,hk,rfl,rfl,hg,h3,h4,h5,h6,h7,h8,h9⟩|⟨rfl,b,rfl⟩
  · rw [List.length_drop]at *
    have holds: ∀j u,((L.drop q).flatMap enc)[j]? =some u→w.cell? ((⟨g,q * i.size,none⟩:Addr).add j)=some u:=fun j u hj=>by
      rw [pa_ hl,List.getElem?_drop,←h6,List.getElem?_take]at hj
      split at hj
      · rw [gm_]
        simp only [World.cell?,hg,Option.isSome_none,Bool.false_eq_true,if_false]
        rw [←Array.getElem?_toList];exact hj
      cases hj
    have hone: ∀u∈(L.drop q).flatMap enc,u.oneCell'=true:=fun u hu=>h8 u (by rw [pa_ hl]at hu;exact List.mem_of_mem_drop hu)
    by_cases hroom:L.length - q+l2.length≤c - q
    · have e1:q * i.size+(L.length - q) * i.size=L.length * i.size:=by rw [←Nat.add_mul];congr 1;omega
      have hfit:q * i.size+(L.length - q) * i.size+(l2.flatMap enc).length≤cur.size:=by
        rw [e1,hyl,h5,←Nat.add_mul];exact Nat.mul_le_mul_right _ (by omega)
      have hr:=m7_ (P:=X.P) ty o.type E i ht hi g (q * i.size) (L.length - q) (c - q) cur hg ad l2.length c2 (l2.flatMap enc) hl2 hc2 h1 hroom hfit
      rw [e1]at hr
      have hrow:Row0 E i.size enc (.slice (some ⟨g,0,none⟩) (L.length+l2.length) c) (L++l2) (w.setRow g (cur.toList.take (L.length * i.size)++l2.flatMap enc++cur.toList.drop (L.length * i.size+(l2.flatMap enc).length)).toArray):=by
        refine ⟨⟨by rw [eg_ hl],.inr ⟨g,c,_,by rw [la_],Nat.zero_le _,setRow_heap w g cur _ E _ hg,by rw [la_];omega,h4,?_,?_⟩⟩,fun u hu=> ?_⟩
        · simp only [List.size_toArray,la_,List.length_take,List.length_drop,Array.length_toList]
          omega
        · rw [h6,List.flatMap_append,la_,Nat.add_mul,←h7,←hyl,←la_]
          exact List.take_left
        rw [List.flatMap_append]at hu
        rcases List.mem_append.1 hu with hu|hu
        · exact h8 u hu
        exact h1 u hu
      have hR:Reach u0 C0 τ0 σ (w.setRow g (cur.toList.take (L.length * i.size)++l2.flatMap enc++cur.toList.drop (L.length * i.size+(l2.flatMap enc).length)).toArray) (Res.queS E i.size enc (.slice (some ⟨g,q * i.size,none⟩) (L.length - q+l2.length) (c - q)) (L.drop q++l2)::F):=
        hw.bk_ (some g) (some g) rfl rfl rfl rfl rfl (by simp) (Nat.le_refl _) (fun k hk hn=>setRow_other w g k _ (fun e=>hn (by rw [e]))) ⟨L++l2,_,q,hrow,by rw [la_];omega,by rw [List.drop_append_of_le_length (by omega)],.inl (by
          unfold q4_
          simp only [Option.map_some,gm_,Nat.zero_add]
          congr 1;omega),by rw [la_,List.length_drop];omega⟩ (fun b hb=> .inl hb)
      have hk2:=k (some ⟨g,q * i.size,none⟩) (c - q)
      rw [la_,List.length_drop]at hk2
      refine Oper.am_ (w':=_) (v:= .slice (some ⟨g,q * i.size,none⟩) (L.length - q+l2.length) (c - q)) ?_ (hK _ _ _ _ _ hk2 hR (fi_ ha hd hn _))
      rw [ha.eval']
      simp [execOp,ho,resolve,invoke,builtin,hx,hy,hr]
    have hr:=run_append_grow (P:=X.P) (w:=w) ty o.type E i z ht hi hiz ⟨g,q * i.size,none⟩ (L.length - q) (c - q) ((L.drop q).flatMap enc) hfl holds ad l2.length c2 (l2.flatMap enc) hl2 hc2 (by omega) (by omega) (growslice_fits (by omega) hb0)
    exact fin _ (c - q) rfl hone (by omega) hr
  simp only [List.length_nil,Nat.zero_add,List.flatMap_nil]at *
  cases b with
  |some b=>
    have hr:=run_append_grow (P:=X.P) (w:=w) ty o.type E i z ht hi hiz b 0 0 [] (by simp) (by simp) ad l2.length c2 (l2.flatMap enc) hl2 hc2 (by omega) (by omega) (growslice_fits (by omega) (by simpa using hb0))
    simp only [Nat.zero_add]at hr
    exact fin _ 0 rfl (by simp) h2 hr
  |none=>
    have hr:=run_append_nil (P:=X.P) w ty o.type E i z ht hi hiz ad l2.length c2 (l2.flatMap enc) hl2 hc2 (by omega) (by omega) (by omega)
    exact fin _ 0 rfl (by simp) h2 (by simpa using hr)
end
end Go.E
end
