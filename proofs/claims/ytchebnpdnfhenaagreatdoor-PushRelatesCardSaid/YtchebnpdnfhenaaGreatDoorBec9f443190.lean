/- Parts of a proof, one behind the other: what a machine reaches, functions decompiled, plain lemmas. Conditions stand with each lemma. -/
import Derived.Test.YtchebnpdnfhenaaGreatDoorB16777e74aa
import Derived.Test.YtchebnpdnfhenaaGreatDoorBf8037b03d9

set_option linter.unusedVariables false
set_option linter.unusedSimpArgs false
set_option linter.unusedSectionVars false
set_option maxRecDepth 100000
set_option maxHeartbeats 8000000
variable {a0_0 a0_1 a0_10 a0_12 a0_16 a0_2 a0_20 a0_22 a0_4 a0_7 a1_0 a1_1 a1_2:Option Go.Addr}{Eb0 Eb1 b0_0 b0_11 b1_0 c0_0 c0_1 c0_11 c0_13 c0_17 c0_2 c0_21 c0_23 c0_5 c0_8 c1_0 c1_1 c1_2:Nat}

noncomputable section
namespace Go.Proofs.YtchebnpdnfhenaaGreatDoor
open Go Go.E Go.E.OpVal Go.E.OpOk Go.Proofs.Tryz
theorem ag33:aggOf Tryz.prog 33=some false:=by kernel_rfl
theorem zi_:aggOf Tryz.prog 70=some false:=by kernel_rfl
theorem ag71:aggOf Tryz.prog 71=some false:=by kernel_rfl
theorem ag72:aggOf Tryz.prog 72=some false:=by kernel_rfl
theorem by22:byOf Tryz.prog 22=some 24:=by kernel_rfl
theorem by23:byOf Tryz.prog 23=some 24:=by kernel_rfl
theorem zy_:byOf Tryz.prog 30=some 24:=by kernel_rfl
theorem by9:byOf Tryz.prog 9=some 16:=by kernel_rfl
theorem fo142_0:foOf Tryz.prog 142 0=some 0:=by kernel_rfl
theorem rv_:foOf Tryz.prog 74 0=some 0:=by kernel_rfl
theorem pp_:foOf Tryz.prog 74 1=some 1:=by kernel_rfl
theorem fo74_2:foOf Tryz.prog 74 2=some 2:=by kernel_rfl
theorem qw_:foOf Tryz.prog 74 3=some 3:=by kernel_rfl
theorem zp_:foOf Tryz.prog 74 4=some 4:=by kernel_rfl
theorem jj_:foOf Tryz.prog 74 5=some 5:=by kernel_rfl
theorem pf102:plainF Tryz.prog 102=true:=by kernel_rfl
theorem pf127:plainF Tryz.prog 127=true:=by kernel_rfl
theorem uv_:plainF Tryz.prog 128=true:=by kernel_rfl
theorem pf129:plainF Tryz.prog 129=true:=by kernel_rfl
theorem pf130:plainF Tryz.prog 130=true:=by kernel_rfl
theorem pf131:plainF Tryz.prog 131=true:=by kernel_rfl
theorem wl_:plainF Tryz.prog 150=true:=by kernel_rfl
theorem s1_:plainF Tryz.prog 151=true:=by kernel_rfl
theorem pf155:plainF Tryz.prog 155=true:=by kernel_rfl
theorem pf44:plainF Tryz.prog 44=true:=by kernel_rfl
theorem pf45:plainF Tryz.prog 45=true:=by kernel_rfl
theorem pf86:plainF Tryz.prog 86=true:=by kernel_rfl
theorem pf87:plainF Tryz.prog 87=true:=by kernel_rfl
theorem pf89:plainF Tryz.prog 89=true:=by kernel_rfl
theorem pf90:plainF Tryz.prog 90=true:=by kernel_rfl
theorem yt_:plOf Tryz.prog 142=some #[(0,1)]:=by kernel_rfl
theorem ql_:plOf Tryz.prog 32=some #[(0,1),(1,1),(2,1),(3,1),(4,1)]:=by kernel_rfl
theorem pl74:plOf Tryz.prog 74=some #[(0,1),(1,1),(2,1),(3,1),(4,1),(5,5)]:=by kernel_rfl
theorem sz142:szOf Tryz.prog 142=some 1:=by kernel_rfl
theorem zo_:szOf Tryz.prog 28=some 1:=by kernel_rfl
theorem sz33:szOf Tryz.prog 33=some 1:=by kernel_rfl
theorem sz71:szOf Tryz.prog 71=some 1:=by kernel_rfl
theorem sz72:szOf Tryz.prog 72=some 1:=by kernel_rfl
theorem sh_:zeroOf Tryz.prog 142=some (.agg #[.int .i64 0]):=by kernel_rfl
theorem ze22:zeroOf Tryz.prog 22=some (nl_):=by kernel_rfl
theorem ze23:zeroOf Tryz.prog 23=some (nl_):=by kernel_rfl
theorem wg_:zeroOf Tryz.prog 30=some (nl_):=by kernel_rfl
theorem jg_:zeroOf Tryz.prog 32=some (.agg #[.string ByteArray.empty,nl_,nl_,nl_,nl_]):=by kernel_rfl
theorem ze33:zeroOf Tryz.prog 33=some (.int .i64 0):=by kernel_rfl
theorem ze74:zeroOf Tryz.prog 74=some (.agg #[nl_,nl_,.int .i64 0,nl_,.map none,.string ByteArray.empty,nl_,nl_,nl_,nl_]):=by kernel_rfl
theorem ze9:zeroOf Tryz.prog 9=some (.string ByteArray.empty):=by kernel_rfl
def Cv_(x0:T_2)(s107:T_1)(k108:Nat):Option ((T_1×Nat)⊕(T_1)):=
 d4_ (decide ((k108:Int)<(((x0.drop 1).length:Nat):Int))) (bnd (Gb_ s107 (nth (x0.drop 1) k108 [])) (fun v21=>grd (0≤v21∧0≤v21.toNat∧v21.toNat≤s107.length) (nxt ((s107.take v21.toNat),(k108+1))))) (fin (some s107))
def F1_(x0:T_2):Option (T_1):=
 d4_ (decide (((x0.length:Nat):Int)=0)) (some ([]:T_1)) (grd (0<x0.length) (grd (1≤x0.length∧x0.length≤x0.length) (ed_ (fun q:T_1×Nat=>Cv_ x0 q.1 q.2) ((nth x0 0 []),0))))
theorem H0_{σ:dw_}{x0:T_2}(f0_0:rS_ σ eS_ a0_0 c0_0 x0){r:T_1}(hh:F1_ x0=some r):
  Con Tryz.prog 127 #[.slice a0_0 x0.length c0_0] σ [] (e5_ (.string (bs r)) σ):=by
 dsimp only [F1_]at hh
 have f0_0b:=f0_0.rv.big
 refine Con.mk (n:=26) Tryz.func127 z z z (fun w0=> ?_)
 refine TC.a (TL.w z (ad_ (.inr z) z) (TL.en (TC.seq (TC.a (TL.s z z (TL.w z (lenC z underlying30 z) (TL.w z (OpVal.eql z z z) (TL.en (TC.cD z hh (fun h101 hh=> ?_) (fun h101 hh=> ?_))))))))))
 ·refine TC.a (TL.w z (ad_ (.inr z) z) (TL.en (TC.ret (S.r ?_))))
  obtain rfl:=so hh
  exact rq [2] ⟨z,z,z⟩
 refine TC.skip (S.n (TC.a (TL.s z z ?_)))
 obtain ⟨u7,hh⟩:=d1_ hh
 refine TL.w z (af_ (i:=0) z underlying30 sz9 z z f0_0.rv.sl (by omega)) (TL.w z (al_ ([]:T_1) z ag9 z f0_0 (by omega) z) (TL.w z (ad_ (.inr z) z) (TL.en (TC.seq (TC.a (TL.s z z ?_))))))
 obtain ⟨u11,hh⟩:=d1_ hh
 obtain ⟨a102,c102,hr102,hv102⟩:=f0_0.subL 1 (by omega)
 have hr102b:=hr102.rv.big
 refine TL.w z (hv102 z underlying30 sz9 z z) (TL.w z (lenC z underlying30 z) (TL.i z z (TL.en (TC.block (TC.as_ (α:=(T_1×Nat)×(Unit)) (rgs [(3,1),(5,1),(15,10)]) (fun g=>[(3,.string (bs g.1.1)),(15,.int .i64 ((g.1.2:Nat):Int))]) (fun g=>[]) (fun g=>σ) (fun g=>ed_ (fun q:T_1×Nat=>Cv_ x0 q.1 q.2) g.1=some r) (fun g=>eg_ (fun q:T_1×Nat=>Cv_ x0 q.1 q.2) g.1) (((nth x0 0 []),0),()) (Sub.pre 0 z) z (by repeat (first|exact trivial|refine ⟨z,?_⟩)) hh (fun g1 j1 hg1=> ?_))))))
 obtain ⟨⟨s107,k108⟩,_⟩:=g1
 have hh:=hg1;clear hg1
 try dsimp only
 obtain ⟨z1,hh,hR1⟩:=ek_ hh
 dsimp only [Cv_]at hh
 refine TC.a (TL.w z (OpVal.lss z z z) (TL.en (TC.seq (TC.cD z hh (fun h109 hh=> ?_) (fun h109 hh=> ?_)))))
 ·refine TC.skip (S.n (TC.seq (TC.block (TC.a (TL.w z (af_ z underlying30 sz9 z z hr102.rv.sl (by omega)) (TL.w z (al_ ([]:T_1) z ag9 z hr102 (by omega) z) (TL.w z (ad_ (.inr z) z) (TL.en (TC.region (TL.w z (ad_ (.inl z) z) (TL.w z (ad_ (.inl z) z) (TL.w z (ad_ (.inl z) z) ?_))))))))))))
  obtain ⟨v21,u21,hh⟩:=d8_ hh
  refine TL.op z (av_ (Io_ u21) z z pf155 z z z ?_)
  obtain ⟨u22,hh⟩:=d1_ hh
  refine TL.w rfl (c2_ (l:=s107) (j:=v21.toNat) rfl underlying9 rfl (by show Value.int _ _=_;rw [Int.toNat_of_nonneg (by omega)]) (by omega) (by omega)) (TL.w z (ad_ (.inr z) z) (TL.nil (B.n (S.n (TC.region (TL.w z (OpVal.succ z z z (by omega)) (TL.i z z (TL.en ?_))))))))
  obtain ⟨hh,hlt110⟩:=ev_ hR1 hh
  exact lf (((s107.take v21.toNat),(k108+1)),()) hlt110 hh (Sub.pre 0 z)
 refine TC.exit (S.x (S.x ?_))
 replace hh:=eh_ hR1 hh
 refine TC.ae_ (S.n (TC.a (TL.w z (ad_ (.inl z) z) (TL.w z (ad_ (.inr z) z) (TL.en (TC.ret ?_))))))
 obtain rfl:=so hh
 exact rq [2] ⟨z,z,z⟩
def Ev_(x0:T_1):Option (Int⊕(Unit)):=
 grd (x0.length≤281474976710656) (d4_ (decide (4096<((x0.length:Nat):Int))) (some (.inl 2)) (some (.inr ())))
theorem D7_{σ:dw_}{x0:T_1}{r:Int⊕(Unit)}(hh:Ev_ x0=some r):
  lg_ Tryz.prog 128 #[.string (bs x0)] σ [] 142 (fun r:Unit=>(e5_ (.tuple #[]) σ)) r:=by
 dsimp only [Ev_]at hh
 refine lg_.mk (n:=7) Tryz.func128 z z z (fun w0=> ?_)
 have x0b:=nx_ hh
 replace hh:=nb_ hh
 refine TC.a (TL.w z (ad_ (.inl z) z) (TL.w z (a7_ z underlying9 z) (TL.w z (OpVal.gtr z z z) (TL.en (TC.cD z hh (fun h101 hh=> ?_) (fun h101 hh=> ?_))))))
 ·refine TC.region (TL.w z (aw_ z yt_ sh_ z) (TL.w z (bq_ (v:= .agg #[.int .i64 2]) z underlying142 z) (TL.panic z z z ?_)))
  obtain rfl:=so hh
  exact z
 refine TC.skip ?_
 obtain rfl:=so hh
 exact RetOk.mk' (rs:=[]) [] z (.inr z) RVs.nil (List.sublist_append_left _ _) ⟨z,z,z⟩
def Eq_(k116:Nat)(l114:T_2)(v6:(List Tip)):Option ((T_2×Nat)⊕(Int⊕(T_1×(List Tip)))):=
 grd (k116<l114.length) (nxt ((l114.set k116 ((nth v6 k116 tz_).out)),(k116+1)))
def Bq_(v6:(List Tip))(v47:T_1)(l142:List Tip)(k144:Nat):Option (((List Tip)×Nat)⊕(Int⊕(T_1×(List Tip)))):=
 d4_ (decide ((k144:Int)<((v6.length:Nat):Int))) (grd (k144<l142.length) (grd (v47.length≤((nth l142 k144 tz_).out).length∧((nth l142 k144 tz_).out).length≤((nth l142 k144 tz_).out).length) (grd (k144<l142.length) (grd (k144<(l142.set k144 (⟨(nth l142 k144 tz_).state,(((nth l142 k144 tz_).out).drop v47.length)⟩:Tip)).length) (bnd (Ev_ ((nth (l142.set k144 (⟨(nth l142 k144 tz_).state,(((nth l142 k144 tz_).out).drop v47.length)⟩:Tip)) k144 tz_).out)) (fun v75=>j6_ v75 (fun v75k=>fin (some (.inl v75k))) (fun v75r=>nxt ((l142.set k144 (⟨(nth l142 k144 tz_).state,(((nth l142 k144 tz_).out).drop v47.length)⟩:Tip)),(k144+1))))))))) (fin (some (.inr (v47,l142))))
def Aw_(v6:(List Tip))(l114:T_2)(k116:Nat):Option ((T_2×Nat)⊕(Int⊕(T_1×(List Tip)))):=
 d4_ (decide ((k116:Int)<((v6.length:Nat):Int))) (d4_ (decide (0<(k116:Int))) (grd (0≤(IntKind.i64.wrap ((k116:Int) - 1))∧(IntKind.i64.wrap ((k116:Int) - 1))<(v6.length:Int)) (d4_ (decide (((nth v6 ((IntKind.i64.wrap ((k116:Int) - 1)).toNat) tz_).state)=((nth v6 k116 tz_).state))) (fin (some (.inl 12))) (Eq_ k116 l114 v6))) (Eq_ k116 l114 v6)) (fin (bnd (F1_ l114) (fun v47=>bnd (Ev_ v47) (fun v50=>j6_ v50 (fun v50k=>some (.inl v50k)) (fun v50r=>ed_ (fun q:(List Tip)×Nat=>Bq_ v6 v47 q.1 q.2) (v6,0))))))
def F3_(x0:List Tip):Option (Int⊕(T_1×(List Tip))):=
 bnd (jd_ (gi_ ex_ x0)) (fun v6=>grd (16 * v6.length≤281474976710656) (ed_ (fun q:T_2×Nat=>Aw_ v6 q.1 q.2) ((List.replicate v6.length ([]:T_1)),0)))
theorem Fz_{σ:dw_}{x0:List Tip}{r:Int⊕(T_1×(List Tip))}(hh:F3_ x0=some r):
  lg_ Tryz.prog 87 #[.slice a0_1 x0.length c0_2] σ [Res.rowS 76 2 d2_ (.slice a0_1 x0.length c0_2) x0] 142 (fun r:T_1×(List Tip)=>(fun v σ' H'=> ∃a1 c1,v= .tuple #[.string (bs r.1),.slice a1 r.2.length c1]∧RS σ' 2 d2_ (.slice a1 r.2.length c1) r.2∧H'=[])) r:=by
 dsimp only [F3_]at hh
 refine lg_.mk (n:=74) Tryz.func87 z z z (fun w0=> ?_)
 refine TC.a (TL.w z (ad_ (.inr z) z) (TL.s z z (TL.en (TC.a (TL.s z z ?_)))))
 have hn102:(gi_ ex_ x0).length=x0.length:=List.length_mergeSort _
 refine TL.op z (OpOk.call (Jj_ (l:=x0)) z z pf124 z z z z ?_)
 rintro _ _ _ _ ⟨rfl,hz_,rfl⟩
 rw [←hz_]
 refine TL.en (TC.a (TL.s z z ?_))
 rw [←hn102]
 obtain ⟨v6,u6,hh⟩:=d8_ hh
 refine TL.op z (OpOk.call (Hv_ u6) z z z9_ z z z z ?_)
 rintro _ _ _ hle103 ⟨a103_1,c103_2,rfl,rfl,rfl⟩
 refine TL.s z z (TL.en (TC.a (TL.s z z (TL.w z (lenC z underlying22 z) ?_))))
 obtain ⟨u10,hh⟩:=d1_ hh
 refine TL.op z (a2_ (enc:=eS_) ([]:T_1) z underlying30 sz9 by9 ze9 z z z z (by omega) (by decide) el_ (by decide) z of_ (fun a105 c106=> ?_))
 refine TL.s z z (TL.en (TC.seq (TC.a (TL.s z z (TL.w z (lenC z underlying22 z) (TL.i z z (TL.en (TC.block (TC.as_ (α:=(T_2×Nat)×(Unit)) (rgs [(5,2),(18,26)]) (fun g=>[(18,.int .i64 ((g.1.2:Nat):Int))]) (fun g=>[Res.rowS 76 2 d2_ (.slice a103_1 v6.length c103_2) v6,Res.rowS 9 1 eS_ (.slice a105 (List.replicate v6.length ([]:T_1)).length c106) g.1.1]) (fun g=>σ) (fun g=>ed_ (fun q:T_2×Nat=>Aw_ v6 q.1 q.2) g.1=some r∧g.1.1.length=(List.replicate v6.length ([]:T_1)).length) (fun g=>eg_ (fun q:T_2×Nat=>Aw_ v6 q.1 q.2) g.1) (((List.replicate v6.length ([]:T_1)),0),()) (Sub.f [1] 2) z (by repeat (first|exact trivial|refine ⟨z,?_⟩)) ⟨hh,z⟩ (fun g1 j1 hg1=> ?_))))))))))
 obtain ⟨⟨l114,k116⟩,_⟩:=g1
 obtain ⟨hh,hn115⟩:=hg1
 try dsimp only at hn115 ⊢
 obtain ⟨z1,hh,hR1⟩:=ek_ hh
 dsimp only [Aw_]at hh
 refine TC.isSl (i:=0) z (fun _ hb117 _=> ?_)
 refine TC.isSl (i:=1) z (fun _ hb118 _=> ?_)
 refine TC.a (TL.w z (OpVal.lss z z z) (TL.en (TC.seq (TC.cD z hh (fun h119 hh=> ?_) (fun h119 hh=> ?_)))))
 ·refine TC.skip (S.n (TC.seq (TC.block (TC.a (TL.i z z (TL.isSl (i:=0) z (fun hs120 _ _=> ?_)))))))
  refine TL.w z (af_ z underlying22 gh_ z z hs120 (by omega)) (TL.w z (bb_ tz_ z qs_ gh_ z (q:=0) z d0_ (by omega) (by omega)) (TL.op z (OpOk.alloc z k8_ z z (fun b121=> ?_))))
  refine TL.i z z (TL.op z (storeAll z gh_ z z z z z z ?_))
  refine TL.en (TC.cutG (α:=(Unit)×(Unit)) (rgs [(23,15)]) (fun g=>[]) (fun g=>[Res.rowS 76 2 d2_ (.slice a103_1 v6.length c103_2) v6,Res.rowS 9 1 eS_ (.slice a105 (List.replicate v6.length ([]:T_1)).length c106) l114,Res.cells b121 #[.int .i64 ((nth v6 k116 tz_).state),.string (bs ((nth v6 k116 tz_).out))] 76]) (fun g=>σ) (fun g=>Eq_ k116 l114 v6=some z1∧l114.length=(List.replicate v6.length ([]:T_1)).length) ?_ (fun g j hg=> ?_))
  ·skip
   refine TC.seq (TC.draw [] (by kernel_rfl) (TA.a 0 z (aj_ (.inl z) z) z (TA.a 1 z (OpVal.gtr z z z) z (TA.a 2 z (moveB (.inl z) z) z (TA.split 25 z (fun h124=> ?_) (fun h124=> ?_))))))
   ·replace hh:=ea_ h124 hh
    replace h124:=dt_ h124
    refine TA.on 3 z z z z (ak_ (.inl z) z) z (TA.on 4 z z z z (aj_ (.inl z) z) z (TA.on 5 z z z z (subW z z z) z ?_))
    obtain ⟨u28,hh⟩:=d1_ hh
    refine TA.isSl (i:=1) z (fun hs125 _ _=> ?_)
    refine TA.on 6 z z z z (OpVal.index z underlying22 gh_ z z hs125 u28.1 u28.2) z (TA.isSl (i:=1) z (fun hs126 _ _=> ?_))
    refine TA.on 7 z z z z (bh_ z gj_ z hs126 (by omega)) z (TA.on 8 z z z z (cj_ tz_ z ag3 z (q:=1) z d0_ (by omega) (by omega) z) z (TA.on 9 z z z z (aa_ z gj_ z) z (TA.on 10 z z z z (ab_ z ag3 z (i:=0) z z) z (TA.on 11 z z z z (OpVal.eql z z z) z (TA.a 12 z (ai_ z z z) z (TA.dn (S.n (TC.cD z hh (fun h127 hh=> ?_) (fun h127 hh=> ?_)))))))))
    ·refine TC.region (TL.w z (aw_ z yt_ sh_ z) (TL.w z (bq_ (v:= .agg #[.int .i64 12]) z underlying142 z) (TL.panic z z z ?_)))
     replace hh:=eh_ hR1 hh
     obtain rfl:=so hh
     exact z
    exact TC.skip (S.n (cf ((),()) ⟨hh,hn115⟩ (Sub.f [2,2] 3)))
   replace hh:=d9_ h124 hh
   replace h124:=df_ h124
   exact TA.off 3 z z z z z z (TA.off 4 z z z z z z (TA.off 5 z z z z z z (TA.off 6 z z z z z z (TA.off 7 z z z z z z (TA.off 8 z z z z z z (TA.off 9 z z z z z z (TA.off 10 z z z z z z (TA.off 11 z z z z z z (TA.a 12 z (ac_ z z z) z (TA.dn (S.n (TC.f z (TC.skip (S.n (cf ((),()) ⟨hh,hn115⟩ (Sub.f [2,2] 3))))))))))))))))
  skip
  obtain ⟨_,_⟩:=g
  obtain ⟨hh,hn123⟩:=hg
  try dsimp only at hn123 ⊢
  dsimp only [Eq_]at hh
  refine TC.isSl (i:=0) z (fun _ hb128 _=> ?_)
  refine TC.isSl (i:=1) z (fun _ hb129 _=> ?_)
  refine TC.region (TL.s z z (TL.i z z (TL.w z (aa_ z f7_ z) (TL.w z (ab_ z ag9 z (i:=2) z z) ?_))))
  obtain ⟨u42,hh⟩:=d1_ hh
  refine TL.isSl (i:=1) z (fun hs130 _ _=> ?_)
  refine TL.w z (af_ z underlying30 sz9 z z hs130 (by omega)) (TL.front 1 z z ?_)
  have hn131:(l114.set k116 ((nth v6 k116 tz_).out)).length=(List.replicate v6.length ([]:T_1)).length:=by rw [ls_];exact hn123
  refine TL.op z (a0_ ((nth v6 k116 tz_).out) z sz9 z z z z el_ of_ (by omega) (by omega) ?_)
  refine TL.nil (B.n (S.n (TC.region (TL.w z (OpVal.succ z z z (by omega)) (TL.i z z (TL.en ?_))))))
  obtain ⟨hh,hlt132⟩:=ev_ hR1 hh
  exact lf (((l114.set k116 ((nth v6 k116 tz_).out)),(k116+1)),()) hlt132 ⟨hh,hn131⟩ (Sub.f [1] 2)
 refine TC.exit (S.x (S.x ?_))
 replace hh:=eh_ hR1 hh
 refine TC.ae_ (S.n (TC.a (TL.s z z ?_)))
 rw [←hn115]
 obtain ⟨v47,u47,hh⟩:=d8_ hh
 refine TL.front 1 z z (TL.op z (b1_ (Con.lend el_ (fun _ hle134 hr133=>H0_ hr133 u47)) z z pf127 z z z z ?_))
 refine TL.w z (ad_ (.inr z) z) (TL.en (TC.a (TL.w z (ad_ (.inl z) z) ?_)))
 obtain ⟨v50,u50,hh⟩:=d8_ hh
 rcases v50 with v50k|v50r
 ·dsimp only [j6_]at hh
  refine TL.bs_ z (lg_.l (D7_ u50)) z z uv_ z z (fun τ135 hle135=> ?_)
  obtain rfl:=so hh
  exact z
 dsimp only [j6_]at hh
 refine TL.op z (cr_ (D7_ u50) z z z uv_ z z z ?_)
 refine TL.en (TC.seq (TC.a (TL.s z z (TL.w z (lenC z underlying22 z) (TL.i z z (TL.en (TC.block (TC.as_ (α:=((List Tip)×Nat)×(Unit)) (rgs [(8,1),(50,22)]) (fun g=>[(50,.int .i64 ((g.1.2:Nat):Int))]) (fun g=>[Res.rowS 76 2 d2_ (.slice a103_1 v6.length c103_2) g.1.1]) (fun g=>σ) (fun g=>ed_ (fun q:(List Tip)×Nat=>Bq_ v6 v47 q.1 q.2) g.1=some r∧g.1.1.length=v6.length) (fun g=>eg_ (fun q:(List Tip)×Nat=>Bq_ v6 v47 q.1 q.2) g.1) ((v6,0),()) (Sub.f [1] 1) z (by repeat (first|exact trivial|refine ⟨z,?_⟩)) ⟨hh,z⟩ (fun g2 j2 hg2=> ?_)))))))))
 obtain ⟨⟨l142,k144⟩,_⟩:=g2
 obtain ⟨hh,hn143⟩:=hg2
 try dsimp only at hn143 ⊢
 obtain ⟨z1,hh,hR1⟩:=ek_ hh
 dsimp only [Bq_]at hh
 refine TC.isSl (i:=0) z (fun _ hb145 _=> ?_)
 refine TC.a (TL.w z (OpVal.lss z z z) (TL.en (TC.seq (TC.cD z hh (fun h146 hh=> ?_) (fun h146 hh=> ?_)))))
 ·refine TC.skip (S.n (TC.seq (TC.block (TC.a (TL.i z z (TL.i z z (TL.en (TC.a (TL.s z z (TL.i z z (TL.s z z (TL.i z z ?_))))))))))))
  obtain ⟨u61,hh⟩:=d1_ hh
  refine TL.isSl (i:=0) z (fun hs147 _ _=> ?_)
  refine TL.w z (af_ z underlying22 gh_ z z hs147 (by omega)) (TL.isSl (i:=0) z (fun hs148 _ _=> ?_))
  refine TL.w z (bh_ z f7_ z hs148 (by omega)) (TL.w z (cj_ tz_ z ag9 z (q:=0) z d0_ (by omega) (by omega) z) (TL.w z (ad_ (.inl z) z) (TL.w z (a7_ z underlying9 z) ?_)))
  obtain ⟨u66,hh⟩:=d1_ hh
  refine TL.w z (bp_ (l:=(nth l142 k144 tz_).out) (i:=v47.length) z underlying9 z z (by omega) (by omega)) ?_
  obtain ⟨u67,hh⟩:=d1_ hh
  refine TL.isSl (i:=0) z (fun hs149 _ _=> ?_)
  refine TL.w z (af_ z underlying22 gh_ z z hs149 (by omega)) (TL.isSl (i:=0) z (fun hs150 _ _=> ?_))
  refine TL.w z (bh_ z f7_ z hs150 (by omega)) ?_
  have hn151:(l142.set k144 (⟨(nth l142 k144 tz_).state,(((nth l142 k144 tz_).out).drop v47.length)⟩:Tip)).length=v6.length:=by rw [ls_];exact hn143
  refine TL.op rfl (c3_ (u:= .string (bs (((nth l142 k144 tz_).out).drop v47.length))) tz_ (⟨(nth l142 k144 tz_).state,(((nth l142 k144 tz_).out).drop v47.length)⟩:Tip) rfl sz9 rfl rfl rfl rfl rfl (fun c hc=>by rw [List.mem_singleton.1 (show c∈[_]from hc)];rfl) d0_ (by decide) (by decide) (by omega) ?_)
  refine TL.en (TC.region (TL.s z z (TL.i z z ?_)))
  obtain ⟨u72,hh⟩:=d1_ hh
  refine TL.isSl (i:=0) z (fun hs152 _ _=> ?_)
  refine TL.w z (af_ z underlying22 gh_ z z hs152 (by omega)) (TL.isSl (i:=0) z (fun hs153 _ _=> ?_))
  refine TL.w z (bh_ z f7_ z hs153 (by omega)) (TL.w z (cj_ tz_ z ag9 z (q:=0) z d0_ (by omega) (by omega) z) ?_)
  obtain ⟨v75,u75,hh⟩:=d8_ hh
  rcases v75 with v75k|v75r
  ·dsimp only [j6_]at hh
   refine TL.bs_ z (lg_.l (D7_ u75)) z z uv_ z z (fun τ154 hle154=> ?_)
   replace hh:=eh_ hR1 hh
   obtain rfl:=so hh
   exact z
  dsimp only [j6_]at hh
  refine TL.op z (cr_ (D7_ u75) z z z uv_ z z z ?_)
  refine TL.nil (B.n (S.n (TC.region (TL.w z (OpVal.succ z z z (by omega)) (TL.i z z (TL.en ?_))))))
  obtain ⟨hh,hlt155⟩:=ev_ hR1 hh
  exact lf (((l142.set k144 (⟨(nth l142 k144 tz_).state,(((nth l142 k144 tz_).out).drop v47.length)⟩:Tip)),(k144+1)),()) hlt155 ⟨hh,hn151⟩ (Sub.pre 1 z)
 refine TC.exit (S.x (S.x ?_))
 replace hh:=eh_ hR1 hh
 refine TC.ae_ (S.n (TC.a (TL.w z (ad_ (.inl z) z) (TL.s z z (TL.w z (ad_ (.inr z) z) (TL.s z z (TL.en ?_)))))))
 rw [←hn143]
 refine TC.a4_ d0_ (fun τ158 hle157 hr156=> ?_)
 have hr156b:=hr156.rv.big
 refine TC.ret ?_
 obtain rfl:=so hh
 exact rq [2,3] ⟨a103_1,c103_2,z,hr156,z⟩
def Dl_(x0:List Tip)(l117:T_1)(k120:Nat):Option ((T_1×Nat)⊕(T_1)):=
 d4_ (decide ((k120:Int)<((x0.length:Nat):Int))) (grd (-9223372036854775808≤((nth x0 k120 tz_).state)∧((nth x0 k120 tz_).state)≤9223372036854775807) (bnd (gg_ (⟨l117⟩:SB) (Lib.itoa ((nth x0 k120 tz_).state))) (fun v14=>bnd (h2_ (⟨v14.2.2.buf⟩:SB) (58:UInt8)) (fun v15=>grd (-9223372036854775808≤((((nth x0 k120 tz_).out).length:Nat):Int)∧((((nth x0 k120 tz_).out).length:Nat):Int)≤9223372036854775807) (bnd (gg_ (⟨v15.2.buf⟩:SB) (Lib.itoa ((((nth x0 k120 tz_).out).length:Nat):Int))) (fun v20=>bnd (h2_ (⟨v20.2.2.buf⟩:SB) (58:UInt8)) (fun v21=>bnd (gg_ (⟨v21.2.buf⟩:SB) ((nth x0 k120 tz_).out)) (fun v24=>nxt (v24.2.2.buf,(k120+1)))))))))) (fin (bnd (j3_ (⟨l117⟩:SB)) (fun v27=>some v27)))
def Hh_(x0:List Tip):Option (T_1):=
 ed_ (fun q:T_1×Nat=>Dl_ x0 q.1 q.2) (([]:T_1),0)
theorem I6_{σ:dw_}{x0:List Tip}(hgl:GT2 σ 1 2)(f0_0:RS σ 2 d2_ (.slice a0_0 x0.length c0_0) x0){r:T_1}(hh:Hh_ x0=some r):
  Con Tryz.prog 129 #[.slice a0_0 x0.length c0_0] σ [] (e5_ (.string (bs r)) σ):=by
 dsimp only [Hh_]at hh
 have f0_0b:=f0_0.rv.big
 refine Con.mk (n:=28) Tryz.func129 z z z (fun w0=> ?_)
 refine TC.a (TL.w z (ad_ (.inr z) z) (TL.en (TC.a (TL.op z (OpOk.alloc z ze92 z z (fun b101=> ?_))))))
 refine TL.asH (H':=[Res.cells b101 #[ld_ false b101,nl_] 92]) z (TL.en (TC.seq (TC.a (TL.s z z (TL.w z (lenC z underlying22 z) (TL.i z z (TL.en (TC.block (TC.nilS 5 1 e7_ (TC.as_ (α:=(T_1×Nat)×(Bool×(Option Addr)×Nat)) (rgs [(5,1),(8,19)]) (fun g=>[(8,.int .i64 ((g.1.2:Nat):Int))]) (fun g=>[Res.cells b101 #[ld_ g.2.1 b101,.slice g.2.2.1 g.1.1.length g.2.2.2] 92,Res.rowS 5 1 e7_ (.slice g.2.2.1 g.1.1.length g.2.2.2) g.1.1]) (fun g=>σ) (fun g=>ed_ (fun q:T_1×Nat=>Dl_ x0 q.1 q.2) g.1=some r) (fun g=>eg_ (fun q:T_1×Nat=>Dl_ x0 q.1 q.2) g.1) ((([]:T_1),0),(false,none,0)) (Sub.f [1] 2) z (by repeat (first|exact trivial|refine ⟨z,?_⟩)) hh (fun g1 j1 hg1=> ?_)))))))))))
 obtain ⟨⟨l117,k120⟩,⟨u115,a118,c119⟩⟩:=g1
 have hh:=hg1;clear hg1
 try dsimp only
 obtain ⟨z1,hh,hR1⟩:=ek_ hh
 dsimp only [Dl_]at hh
 refine TC.isSl (i:=1) z (fun _ hb122 _=> ?_)
 refine TC.a (TL.w z (OpVal.lss z z z) (TL.en (TC.seq (TC.cD z hh (fun h123 hh=> ?_) (fun h123 hh=> ?_)))))
 ·refine TC.skip (S.n (TC.seq (TC.block (TC.a (TL.w z (af_ z underlying22 gh_ z z f0_0.rv.sl (by omega)) (TL.w z (a9_ tz_ z qs_ gh_ z f0_0 (by omega) (by omega)) (TL.op z (OpOk.alloc z k8_ z z (fun b124=> ?_)))))))))
  refine TL.op z (storeAll z gh_ z z z z z z ?_)
  refine TL.en (TC.a (TL.w z (aa_ z gj_ z) (TL.w z (ab_ z ag3 z (i:=0) z z) ?_)))
  obtain ⟨u13,hh⟩:=d1_ hh
  refine TL.op z (av_ (mw_ hgl u13) z z wl_ z z z ?_)
  refine TL.front 2 z z (TL.front 2 z z ?_)
  obtain ⟨v14,u14,hh⟩:=d8_ hh
  refine TL.op z (OpOk.call (f4_ u14) z z xn_ z z z z ?_)
  rintro _ _ _ hle126 ⟨u126_1,a126_2,c126_3,rfl,rfl,rfl⟩
  refine TL.en (TC.a (TL.front 1 z z (TL.front 1 z z ?_)))
  obtain ⟨v15,u15,hh⟩:=d8_ hh
  refine TL.op z (OpOk.call (hl_ u15) z z s1_ z z z z ?_)
  rintro _ _ _ hle128 ⟨u128_1,a128_2,c128_3,rfl,rfl,rfl⟩
  refine TL.en (TC.a (TL.w z (aa_ z f7_ z) (TL.w z (ab_ z ag9 z (i:=2) z z) (TL.w z (a7_ z underlying9 z) ?_))))
  obtain ⟨u19,hh⟩:=d1_ hh
  refine TL.op z (av_ (mw_ hgl u19) z z wl_ z z z ?_)
  refine TL.front 1 z z (TL.front 1 z z ?_)
  obtain ⟨v20,u20,hh⟩:=d8_ hh
  refine TL.op z (OpOk.call (f4_ u20) z z xn_ z z z z ?_)
  rintro _ _ _ hle130 ⟨u130_1,a130_2,c130_3,rfl,rfl,rfl⟩
  refine TL.en (TC.a (TL.front 1 z z (TL.front 1 z z ?_)))
  obtain ⟨v21,u21,hh⟩:=d8_ hh
  refine TL.op z (OpOk.call (hl_ u21) z z s1_ z z z z ?_)
  rintro _ _ _ hle132 ⟨u132_1,a132_2,c132_3,rfl,rfl,rfl⟩
  refine TL.en (TC.region (TL.w z (aa_ z f7_ z) (TL.w z (ab_ z ag9 z (i:=2) z z) (TL.front 1 z z (TL.front 1 z z ?_)))))
  obtain ⟨v24,u24,hh⟩:=d8_ hh
  refine TL.op z (OpOk.call (f4_ u24) z z xn_ z z z z ?_)
  rintro _ _ _ hle134 ⟨u134_1,a134_2,c134_3,rfl,rfl,rfl⟩
  refine TL.nil (B.n (S.n (TC.region (TL.w z (OpVal.succ z z z (by omega)) (TL.i z z (TL.en ?_))))))
  obtain ⟨hh,hlt136⟩:=ev_ hR1 hh
  exact lf ((v24.2.2.buf,(k120+1)),(u134_1,a134_2,c134_3)) hlt136 hh (Sub.f [1,1] 2)
 refine TC.exit (S.x (S.x ?_))
 replace hh:=eh_ hR1 hh
 refine TC.ae_ (S.n (TC.a (TL.front 1 z z (TL.front 1 z z ?_))))
 obtain ⟨v27,u27,hh⟩:=d8_ hh
 refine TL.op z (OpOk.call (jw_ u27) z z pf54 z z z z ?_)
 rintro _ _ _ hle137 ⟨rfl,rfl,rfl⟩
 refine TL.w z (ad_ (.inr z) z) (TL.en (TC.ret ?_))
 obtain rfl:=so hh
 exact rq [2] ⟨z,z,z⟩
def Af_(x0:Maker)(x1:List Tip):Option (Int⊕(Int×Maker)):=
 bnd (Hh_ x1) (fun v3=>d4_ (x0.places.has v3) (some (.inr ((x0.places.get v3 0),x0))) (d4_ (decide (x0.most≤((x0.rows.length:Nat):Int))) (some (.inl 2)) (grd ((x0.rows.length+[x1].length) * 24≤140737488355328) (some (.inr (((x0.rows.length:Nat):Int),(⟨x0.arcs,x0.ends,x0.most,(x0.rows++[x1]),(x0.places.put v3 ((x0.rows.length:Nat):Int)),x0.q⟩:Maker)))))))
theorem D0_{σ:dw_}{x0:Maker}{z0_9:List (List Tip×(d6_ 2 d2_ d0_).P)}{z0_14:List (N_1×(d6_ 1 eI_ ei_).P)}{z0_18:List (T_2×(d6_ 1 eS_ el_).P)}{x1:List Tip}(hgl:GT2 σ 1 2)(f0_3:RZ σ (d6_ 8 ep_ eo_) (.slice a0_1 x0.arcs.length c0_2) x0.arcs)(f0_6:RZ σ (d6_ 1 eS_ el_) (.slice a0_4 x0.ends.length c0_5) x0.ends)(zf0_10:ZOk σ (d6_ 2 d2_ d0_) z0_9 x0.rows)(zf0_15:ZOk σ (d6_ 1 eI_ ei_) z0_14 x0.q.next)(zf0_19:ZOk σ (d6_ 1 eS_ el_) z0_18 x0.q.outs)(f1_0:RS σ 2 d2_ (.slice a1_0 x1.length c1_0) x1){r:Int⊕(Int×Maker)}(hh:Af_ x0 x1=some r):
  lg_ Tryz.prog 89 #[loc b0_0 0,.slice a1_0 x1.length c1_0] σ [Res.cells b0_0 #[.slice a0_1 x0.arcs.length c0_2,.slice a0_4 x0.ends.length c0_5,.int .i64 x0.most,.slice a0_7 x0.rows.length c0_8,.map (some b0_11),.string (bs x0.q.front),.slice a0_12 x0.q.next.length c0_13,.slice a0_16 x0.q.outs.length c0_17,.slice a0_20 x0.q.fin.length c0_21,.slice a0_22 x0.q.tail.length c0_23] Eb0,Res.rowS 22 1 (d6_ 2 d2_ d0_).en (.slice a0_7 x0.rows.length c0_8) z0_9,Res.mapB hi_ h5_ (some b0_11) x0.places,Res.rowS 86 1 (d6_ 1 eI_ ei_).en (.slice a0_12 x0.q.next.length c0_13) z0_14,Res.rowS 30 1 (d6_ 1 eS_ el_).en (.slice a0_16 x0.q.outs.length c0_17) z0_18,rs_ 4 et_ a0_20 c0_21 x0.q.fin,rs_ 9 eS_ a0_22 c0_23 x0.q.tail] 142 (fun r:Int×Maker=>(fun v σ' H'=> ∃ao1 co2, ∃(zo3:List (List Tip×(d6_ 2 d2_ d0_).P)), ∃bo5,v= .int .i64 r.1∧ZOk σ' (d6_ 2 d2_ d0_) zo3 r.2.rows∧H'=[Res.cells b0_0 #[.slice a0_1 x0.arcs.length c0_2,.slice a0_4 x0.ends.length c0_5,.int .i64 x0.most,.slice ao1 r.2.rows.length co2,.map (some bo5),.string (bs x0.q.front),.slice a0_12 x0.q.next.length c0_13,.slice a0_16 x0.q.outs.length c0_17,.slice a0_20 x0.q.fin.length c0_21,.slice a0_22 x0.q.tail.length c0_23] Eb0,Res.rowS 22 1 (d6_ 2 d2_ d0_).en (.slice ao1 r.2.rows.length co2) zo3,Res.mapB hi_ h5_ (some bo5) r.2.places,Res.rowS 86 1 (d6_ 1 eI_ ei_).en (.slice a0_12 x0.q.next.length c0_13) z0_14,Res.rowS 30 1 (d6_ 1 eS_ el_).en (.slice a0_16 x0.q.outs.length c0_17) z0_18,rs_ 4 et_ a0_20 c0_21 x0.q.fin,rs_ 9 eS_ a0_22 c0_23 x0.q.tail])) r:=by
 dsimp only [Af_]at hh
 have f0_3b:=f0_3.big
 have f0_6b:=f0_6.big
 have zf0_10b:=zf0_10.length
 have zf0_15b:=zf0_15.length
 have zf0_19b:=zf0_19.length
 have f1_0b:=f1_0.rv.big
 refine lg_.mk (n:=52) Tryz.func89 z z z (fun w0=> ?_)
 refine TC.a (TL.i z z (TL.en (TC.a (TL.s z z ?_))))
 obtain ⟨v3,u3,hh⟩:=d8_ hh
 refine TL.op z (av_ (I6_ hgl f1_0 u3) z z pf129 z z z ?_)
 refine TL.w z (ad_ (.inr z) z) (TL.en (TC.seq (TC.a (TL.l z z (TL.w z (ag_ z z) (TL.w z (aa_ z zp_ z) (TL.w z (ab_ z zi_ z (i:=0) z z) (TL.w z (ad_ (.inl z) z) (TL.w z (OpVal.of (lookB 0 (q:=v3) z underlying70 ze3 z (i:=2) z z (m4_ underlying9)) (v':= .tuple #[.int .i64 (x0.places.get v3 0),.bool (x0.places.has v3)]) z) (TL.w z (a5_ (.inl z) z) (TL.w z (OpVal.extract z z z) (TL.w z (OpVal.extract z z z) (TL.i z z (TL.j z z (TL.en ?_)))))))))))))))
 refine TC.a (TL.j z z (TL.en (TC.cB z hh (fun h112 hh=> ?_) (fun h112 hh=> ?_))))
 ·refine TC.a (TL.i z z (TL.i z z (TL.en (TC.ret (S.r ?_)))))
  obtain rfl:=so hh
  exact ro [Res.cells b0_0 #[.slice a0_1 x0.arcs.length c0_2,.slice a0_4 x0.ends.length c0_5,.int .i64 x0.most,.slice a0_7 x0.rows.length c0_8,.map (some b0_11),.string (bs x0.q.front),.slice a0_12 x0.q.next.length c0_13,.slice a0_16 x0.q.outs.length c0_17,.slice a0_20 x0.q.fin.length c0_21,.slice a0_22 x0.q.tail.length c0_23] Eb0,Res.rowS 22 1 (d6_ 2 d2_ d0_).en (.slice a0_7 x0.rows.length c0_8) z0_9,Res.mapB hi_ h5_ (some b0_11) x0.places,Res.rowS 86 1 (d6_ 1 eI_ ei_).en (.slice a0_12 x0.q.next.length c0_13) z0_14,Res.rowS 30 1 (d6_ 1 eS_ el_).en (.slice a0_16 x0.q.outs.length c0_17) z0_18,rs_ 4 et_ a0_20 c0_21 x0.q.fin,rs_ 9 eS_ a0_22 c0_23 x0.q.tail] z (RVs.tmp z RVs.nil) ⟨a0_7,c0_8,z0_9,b0_11,z,zf0_10,z⟩
 refine TC.skip (S.n (TC.a (TL.l z z (TL.w z (ag_ z z) (TL.w z (aa_ z qw_ z) (TL.w z (ab_ z ag72 z (i:=0) z z) (TL.w z (lenC z underlying72 z) (TL.i z z (TL.en (TC.seq (TC.a (TL.i z z (TL.l z z (TL.w z (ag_ z z) (TL.w z (aa_ z fo74_2 z) ?_)))))))))))))))
 refine TL.w z (ab_ z ag3 z (i:=0) z z) (TL.w z (OpVal.geq z z z) (TL.en (TC.cD z hh (fun h113 hh=> ?_) (fun h113 hh=> ?_))))
 ·refine TC.region (TL.w z (aw_ z yt_ sh_ z) (TL.w z (bq_ (v:= .agg #[.int .i64 2]) z underlying142 z) (TL.panic z z z ?_)))
  obtain rfl:=so hh
  exact z
 refine TC.skip (S.n (TC.a (TL.l z z (TL.w z (ag_ z z) (TL.w z (aa_ z zp_ z) (TL.w z (ab_ z zi_ z (i:=0) z z) (TL.w z (ad_ (.inl z) z) (TL.i z z (TL.front 2 z z (TL.op z (updB v3 ((x0.rows.length:Nat):Int) z underlying70 z z z z (m4_ underlying9) ?_)))))))))))
 refine TL.en (TC.a (TL.l z z (TL.l z z (TL.w z (ag_ z z) (TL.w z (aa_ z qw_ z) (TL.w z (ab_ z ag72 z (i:=1) z z) (TL.s z z ?_)))))))
 have zf116:ZOk _ (d6_ 2 d2_ d0_) ([(x1,(a1_0,c1_0))]:List (List Tip×(d6_ 2 d2_ d0_).P)) [x1]:=ZOk.cons (f1_0) (ZOk.nil _ _)
 refine TL.op z (litZ zf116 z underlying72 sz22 z ze22 z z z (by decide) (by decide) z (by decide) z (by decide) (fun a114 c115=> ?_))
 refine TL.front 3 z z ?_
 obtain ⟨u48,hh⟩:=d1_ hh
 refine TL.op z (bf_ (k:=(d6_ 2 d2_ d0_)) zf0_10 zf116 z z underlying72 sz22 by22 ze22 z z (by decide) z z z (.inr ⟨_,0,z⟩) (by simpa using u48) (by decide) (fun a118 c119 zf120=> ?_))
 refine TL.w z (ag_ z z) (TL.w z (aa_ z qw_ z) (TL.front 3 z z (TL.op z (ah_ z sz72 z z z z z ?_))))
 refine TL.en (TC.a (TL.i z z (TL.i z z (TL.en (TC.ax_ (Sub.f [7,7,7,7,7,6,6] 7) (TC.ret ?_))))))
 obtain rfl:=so hh
 exact ro [Res.cells b0_0 #[.slice a0_1 x0.arcs.length c0_2,.slice a0_4 x0.ends.length c0_5,.int .i64 x0.most,.slice a118 ((x0.rows++[x1]).length) c119,.map (some b0_11),.string (bs x0.q.front),.slice a0_12 x0.q.next.length c0_13,.slice a0_16 x0.q.outs.length c0_17,.slice a0_20 x0.q.fin.length c0_21,.slice a0_22 x0.q.tail.length c0_23] Eb0,Res.rowS 22 1 (d6_ 2 d2_ d0_).en (.slice a118 (x0.rows++[x1]).length c119) (z0_9++([(x1,(a1_0,c1_0))]:List (List Tip×(d6_ 2 d2_ d0_).P))),Res.mapB hi_ h5_ (some b0_11) (x0.places.put v3 ((x0.rows.length:Nat):Int)),Res.rowS 86 1 (d6_ 1 eI_ ei_).en (.slice a0_12 x0.q.next.length c0_13) z0_14,Res.rowS 30 1 (d6_ 1 eS_ el_).en (.slice a0_16 x0.q.outs.length c0_17) z0_18,rs_ 4 et_ a0_20 c0_21 x0.q.fin,rs_ 9 eS_ a0_22 c0_23 x0.q.tail] z (RVs.tmp z RVs.nil) ⟨a118,c119,(z0_9++([(x1,(a1_0,c1_0))]:List (List Tip×(d6_ 2 d2_ d0_).P))),b0_11,z,zf120,z⟩
def Df_(x1:List Tip)(k130:Nat)(x0:Maker)(k163:Nat):Option ((Bool×T_1×Nat)⊕((Bool×T_1×Nat)⊕(Int⊕(Bool×T_1)))):=
 nxt (true,((nth x1 k130 tz_).out++(nth (nth x0.ends (((nth x1 k130 tz_).state).toNat) []) k163 [])),(k163+1))
def Ak_(x0:Maker)(x1:List Tip)(k130:Nat)(t161:Bool)(s162:T_1)(k163:Nat):Option ((Bool×T_1×Nat)⊕((Bool×T_1×Nat)⊕(Int⊕(Bool×T_1)))):=
 d4_ (decide ((k163:Int)<(((nth x0.ends (((nth x1 k130 tz_).state).toNat) []).length:Nat):Int))) (grd (((nth x1 k130 tz_).out).length+(nth (nth x0.ends (((nth x1 k130 tz_).state).toNat) []) k163 []).length≤9223372036854775807) (d4_ t161 (d4_ (decide (((nth x1 k130 tz_).out++(nth (nth x0.ends (((nth x1 k130 tz_).state).toNat) []) k163 []))≠s162)) (fin (fin (some (.inl 12)))) (Df_ x1 k130 x0 k163)) (Df_ x1 k130 x0 k163))) (fin (nxt (t161,s162,(k130+1))))
def An_(x1:List Tip)(x0:Maker)(t128:Bool)(s129:T_1)(k130:Nat):Option ((Bool×T_1×Nat)⊕(Int⊕(Bool×T_1))):=
 d4_ (decide ((k130:Int)<((x1.length:Nat):Int))) (grd (0≤((nth x1 k130 tz_).state)∧((nth x1 k130 tz_).state)<(x0.ends.length:Int)) (ed_ (fun q:Bool×T_1×Nat=>Ak_ x0 x1 k130 q.1 q.2.1 q.2.2) (t128,s129,0))) (fin (bnd (Ev_ s129) (fun v49=>j6_ v49 (fun v49k=>some (.inl v49k)) (fun v49r=>some (.inr (t128,s129))))))
def Es_(x0:Maker)(x1:List Tip):Option (Int⊕(Bool×T_1)):=
 ed_ (fun q:Bool×T_1×Nat=>An_ x1 x0 q.1 q.2.1 q.2.2) (false,([]:T_1),0)
theorem Gu_{σ:dw_}{x0:Maker}{z0_9:List (List Tip×(d6_ 2 d2_ d0_).P)}{z0_14:List (N_1×(d6_ 1 eI_ ei_).P)}{z0_18:List (T_2×(d6_ 1 eS_ el_).P)}{x1:List Tip}(f0_3:RZ σ (d6_ 8 ep_ eo_) (.slice a0_1 x0.arcs.length c0_2) x0.arcs)(f0_6:RZ σ (d6_ 1 eS_ el_) (.slice a0_4 x0.ends.length c0_5) x0.ends)(zf0_10:ZOk σ (d6_ 2 d2_ d0_) z0_9 x0.rows)(zf0_15:ZOk σ (d6_ 1 eI_ ei_) z0_14 x0.q.next)(zf0_19:ZOk σ (d6_ 1 eS_ el_) z0_18 x0.q.outs)(f1_0:RS σ 2 d2_ (.slice a1_0 x1.length c1_0) x1){r:Int⊕(Bool×T_1)}(hh:Es_ x0 x1=some r):
  lg_ Tryz.prog 130 #[loc b0_0 0,.slice a1_0 x1.length c1_0] σ [Res.cells b0_0 #[.slice a0_1 x0.arcs.length c0_2,.slice a0_4 x0.ends.length c0_5,.int .i64 x0.most,.slice a0_7 x0.rows.length c0_8,.map (some b0_11),.string (bs x0.q.front),.slice a0_12 x0.q.next.length c0_13,.slice a0_16 x0.q.outs.length c0_17,.slice a0_20 x0.q.fin.length c0_21,.slice a0_22 x0.q.tail.length c0_23] Eb0,Res.rowS 22 1 (d6_ 2 d2_ d0_).en (.slice a0_7 x0.rows.length c0_8) z0_9,Res.mapB hi_ h5_ (some b0_11) x0.places,Res.rowS 86 1 (d6_ 1 eI_ ei_).en (.slice a0_12 x0.q.next.length c0_13) z0_14,Res.rowS 30 1 (d6_ 1 eS_ el_).en (.slice a0_16 x0.q.outs.length c0_17) z0_18,rs_ 4 et_ a0_20 c0_21 x0.q.fin,rs_ 9 eS_ a0_22 c0_23 x0.q.tail] 142 (fun r:Bool×T_1=>(fun v σ' H'=>v= .tuple #[.bool r.1,.string (bs r.2)]∧σ=σ'∧H'=[Res.cells b0_0 #[.slice a0_1 x0.arcs.length c0_2,.slice a0_4 x0.ends.length c0_5,.int .i64 x0.most,.slice a0_7 x0.rows.length c0_8,.map (some b0_11),.string (bs x0.q.front),.slice a0_12 x0.q.next.length c0_13,.slice a0_16 x0.q.outs.length c0_17,.slice a0_20 x0.q.fin.length c0_21,.slice a0_22 x0.q.tail.length c0_23] Eb0,Res.rowS 22 1 (d6_ 2 d2_ d0_).en (.slice a0_7 x0.rows.length c0_8) z0_9,Res.mapB hi_ h5_ (some b0_11) x0.places,Res.rowS 86 1 (d6_ 1 eI_ ei_).en (.slice a0_12 x0.q.next.length c0_13) z0_14,Res.rowS 30 1 (d6_ 1 eS_ el_).en (.slice a0_16 x0.q.outs.length c0_17) z0_18,rs_ 4 et_ a0_20 c0_21 x0.q.fin,rs_ 9 eS_ a0_22 c0_23 x0.q.tail])) r:=by
 dsimp only [Es_]at hh
 have f0_3b:=f0_3.big
 have f0_6b:=f0_6.big
 have zf0_10b:=zf0_10.length
 have zf0_15b:=zf0_15.length
 have zf0_19b:=zf0_19.length
 have f1_0b:=f1_0.rv.big
 refine lg_.mk (n:=51) Tryz.func130 z z z (fun w0=> ?_)
 refine TC.a (TL.j z z (TL.w z (ad_ (.inr z) z) (TL.en (TC.a (TL.j z z (TL.w z (ad_ (.inr z) z) (TL.en (TC.seq (TC.a (TL.s z z (TL.w z (lenC z underlying22 z) (TL.i z z (TL.en (TC.block (TC.as_ (α:=(Bool×T_1×Nat)×(dw_)) (rgs [(6,2),(9,1),(11,2),(15,32)]) (fun g=>[(6,.bool g.1.1),(7,.string (bs g.1.2.1)),(15,.int .i64 ((g.1.2.2:Nat):Int))]) (fun g=>[Res.cells b0_0 #[.slice a0_1 x0.arcs.length c0_2,.slice a0_4 x0.ends.length c0_5,.int .i64 x0.most,.slice a0_7 x0.rows.length c0_8,.map (some b0_11),.string (bs x0.q.front),.slice a0_12 x0.q.next.length c0_13,.slice a0_16 x0.q.outs.length c0_17,.slice a0_20 x0.q.fin.length c0_21,.slice a0_22 x0.q.tail.length c0_23] Eb0,Res.rowS 22 1 (d6_ 2 d2_ d0_).en (.slice a0_7 x0.rows.length c0_8) z0_9,Res.mapB hi_ h5_ (some b0_11) x0.places,Res.rowS 86 1 (d6_ 1 eI_ ei_).en (.slice a0_12 x0.q.next.length c0_13) z0_14,Res.rowS 30 1 (d6_ 1 eS_ el_).en (.slice a0_16 x0.q.outs.length c0_17) z0_18,rs_ 4 et_ a0_20 c0_21 x0.q.fin,rs_ 9 eS_ a0_22 c0_23 x0.q.tail]) (fun g=>g.2) (fun g=>ed_ (fun q:Bool×T_1×Nat=>An_ x1 x0 q.1 q.2.1 q.2.2) g.1=some r∧ZOk g.2 (d6_ 2 d2_ d0_) z0_9 x0.rows∧ZOk g.2 (d6_ 1 eI_ ei_) z0_14 x0.q.next∧ZOk g.2 (d6_ 1 eS_ el_) z0_18 x0.q.outs∧dw_.le σ g.2) (fun g=>eg_ (fun q:Bool×T_1×Nat=>An_ x1 x0 q.1 q.2.1 q.2.2) g.1) ((false,([]:T_1),0),σ) (Sub.f [6,6,6,6,6,6,6] 7) z (by repeat (first|exact trivial|refine ⟨z,?_⟩)) ⟨hh,zf0_10,zf0_15,zf0_19,(dw_.le.refl _)⟩ (fun g1 j1 hg1=> ?_))))))))))))))))
 obtain ⟨⟨t128,s129,k130⟩,τ131⟩:=g1
 obtain ⟨hh,zf125,zf126,zf127,hle132⟩:=hg1
 try dsimp only at zf125
 try dsimp only at zf126
 try dsimp only at zf127
 dsimp only at hle132
 replace f0_6:=f0_6.mono hle132
 replace f1_0:=f1_0.mono hle132
 try dsimp only
 obtain ⟨z1,hh,hR1⟩:=ek_ hh
 dsimp only [An_]at hh
 have zf125b:=zf125.length
 have zf126b:=zf126.length
 have zf127b:=zf127.length
 refine TC.isSl (i:=1) z (fun _ hb133 _=> ?_)
 refine TC.isSl (i:=3) z (fun _ hb134 _=> ?_)
 refine TC.isSl (i:=4) z (fun _ hb135 _=> ?_)
 refine TC.isSl (i:=5) z (fun _ hb136 _=> ?_)
 refine TC.isSl (i:=6) z (fun _ hb137 _=> ?_)
 refine TC.a (TL.w z (OpVal.lss z z z) (TL.en (TC.seq (TC.cD z hh (fun h138 hh=> ?_) (fun h138 hh=> ?_)))))
 ·refine TC.skip (S.n (TC.seq (TC.block (TC.a (TL.w z (af_ z underlying22 gh_ z z f1_0.rv.sl (by omega)) (TL.w z (a9_ tz_ z qs_ gh_ z f1_0 (by omega) (by omega)) (TL.op z (OpOk.alloc z k8_ z z (fun b139=> ?_)))))))))
  refine TL.op z (storeAll z gh_ z z z z z z ?_)
  refine TL.en (TC.seq ?_)
  obtain ⟨u19,hh⟩:=d1_ hh
  refine TC.draw [] (by kernel_rfl) (TA.a 0 z (a6_ (.inl z) z) z (TA.a 1 z (ag_ z z) z (TA.a 2 z (aa_ z pp_ z) z (TA.b 3 z (ab_ z jr_ z (i:=1) z z) z (TA.a 4 z (aa_ z gj_ z) z (TA.b 5 z (ab_ z ag3 z (i:=0) z z) z (TA.b 6 z (OpVal.index z underlying28 iy_ z z f0_6.isSl u19.1 u19.2) z ?_)))))))
  obtain ⟨p142,hk142,hg142⟩:=RZ.seg f0_6 (((nth x1 k130 tz_).state).toNat) (by omega)
  replace hk142:RS _ 1 eS_ (.slice p142.1 (nth x0.ends (((nth x1 k130 tz_).state).toNat) []).length p142.2) (nth x0.ends (((nth x1 k130 tz_).state).toNat) []):=hk142
  have hk142b:=hk142.rv.big
  refine TA.b 7 z (OpVal.of (an_ z ix_ z hg142 z) (v':= .slice p142.1 ((nth x0.ends (((nth x1 k130 tz_).state).toNat) []).length) p142.2) z) z (TA.b 8 z (lenC z underlying30 z) z (TA.a 9 z (aj_ (.inl z) z) z (TA.dn (S.n (TC.block (TC.as_ (α:=(Bool×T_1×Nat)×(dw_)) (rgs [(6,2),(11,2),(28,18)]) (fun g=>[(6,.bool g.1.1),(7,.string (bs g.1.2.1)),(28,.int .i64 ((g.1.2.2:Nat):Int))]) (fun g=>[Res.cells b0_0 #[.slice a0_1 x0.arcs.length c0_2,.slice a0_4 x0.ends.length c0_5,.int .i64 x0.most,.slice a0_7 x0.rows.length c0_8,.map (some b0_11),.string (bs x0.q.front),.slice a0_12 x0.q.next.length c0_13,.slice a0_16 x0.q.outs.length c0_17,.slice a0_20 x0.q.fin.length c0_21,.slice a0_22 x0.q.tail.length c0_23] Eb0,Res.rowS 22 1 (d6_ 2 d2_ d0_).en (.slice a0_7 x0.rows.length c0_8) z0_9,Res.mapB hi_ h5_ (some b0_11) x0.places,Res.rowS 86 1 (d6_ 1 eI_ ei_).en (.slice a0_12 x0.q.next.length c0_13) z0_14,Res.rowS 30 1 (d6_ 1 eS_ el_).en (.slice a0_16 x0.q.outs.length c0_17) z0_18,rs_ 4 et_ a0_20 c0_21 x0.q.fin,rs_ 9 eS_ a0_22 c0_23 x0.q.tail,Res.cells b139 #[.int .i64 ((nth x1 k130 tz_).state),.string (bs ((nth x1 k130 tz_).out))] 76]) (fun g=>g.2) (fun g=>ed_ (fun q:Bool×T_1×Nat=>Ak_ x0 x1 k130 q.1 q.2.1 q.2.2) g.1=some z1∧ZOk g.2 (d6_ 2 d2_ d0_) z0_9 x0.rows∧ZOk g.2 (d6_ 1 eI_ ei_) z0_14 x0.q.next∧ZOk g.2 (d6_ 1 eS_ el_) z0_18 x0.q.outs∧dw_.le τ131 g.2) (fun g=>eg_ (fun q:Bool×T_1×Nat=>Ak_ x0 x1 k130 q.1 q.2.1 q.2.2) g.1) ((t128,s129,0),τ131) (Sub.f [7,7,7,7,7,7,7] 8) z (by repeat (first|exact trivial|refine ⟨z,?_⟩)) ⟨hh,zf125,zf126,zf127,(dw_.le.refl _)⟩ (fun g2 j2 hg2=> ?_)))))))
  obtain ⟨⟨t161,s162,k163⟩,τ164⟩:=g2
  obtain ⟨hh,zf158,zf159,zf160,hle165⟩:=hg2
  try dsimp only at zf158
  try dsimp only at zf159
  try dsimp only at zf160
  dsimp only at hle165
  replace hk142:=hk142.mono hle165
  try dsimp only
  obtain ⟨z2,hh,hR2⟩:=ek_ hh
  dsimp only [Ak_]at hh
  have zf158b:=zf158.length
  have zf159b:=zf159.length
  have zf160b:=zf160.length
  refine TC.isSl (i:=1) z (fun _ hb166 _=> ?_)
  refine TC.isSl (i:=3) z (fun _ hb167 _=> ?_)
  refine TC.isSl (i:=4) z (fun _ hb168 _=> ?_)
  refine TC.isSl (i:=5) z (fun _ hb169 _=> ?_)
  refine TC.isSl (i:=6) z (fun _ hb170 _=> ?_)
  refine TC.a (TL.w z (OpVal.lss z z z) (TL.en (TC.seq (TC.cD z hh (fun h171 hh=> ?_) (fun h171 hh=> ?_)))))
  ·refine TC.skip (S.n (TC.seq (TC.block (TC.a (TL.w z (af_ z underlying30 sz9 z z hk142.rv.sl (by omega)) (TL.w z (al_ ([]:T_1) z ag9 z hk142 (by omega) z) (TL.w z (ad_ (.inr z) z) (TL.en (TC.a (TL.w z (aa_ z f7_ z) (TL.w z (ab_ z ag9 z (i:=7) z z) (TL.w z (ad_ (.inl z) z) ?_))))))))))))
   obtain ⟨u30,hh⟩:=d1_ hh
   refine TL.w z (ci_ z z z u30) (TL.w z (ad_ (.inr z) z) (TL.en (TC.cutG (α:=(Unit)×(dw_)) (rgs [(36,8)]) (fun g=>[]) (fun g=>[Res.cells b0_0 #[.slice a0_1 x0.arcs.length c0_2,.slice a0_4 x0.ends.length c0_5,.int .i64 x0.most,.slice a0_7 x0.rows.length c0_8,.map (some b0_11),.string (bs x0.q.front),.slice a0_12 x0.q.next.length c0_13,.slice a0_16 x0.q.outs.length c0_17,.slice a0_20 x0.q.fin.length c0_21,.slice a0_22 x0.q.tail.length c0_23] Eb0,Res.rowS 22 1 (d6_ 2 d2_ d0_).en (.slice a0_7 x0.rows.length c0_8) z0_9,Res.mapB hi_ h5_ (some b0_11) x0.places,Res.rowS 86 1 (d6_ 1 eI_ ei_).en (.slice a0_12 x0.q.next.length c0_13) z0_14,Res.rowS 30 1 (d6_ 1 eS_ el_).en (.slice a0_16 x0.q.outs.length c0_17) z0_18,rs_ 4 et_ a0_20 c0_21 x0.q.fin,rs_ 9 eS_ a0_22 c0_23 x0.q.tail,Res.cells b139 #[.int .i64 ((nth x1 k130 tz_).state),.string (bs ((nth x1 k130 tz_).out))] 76]) (fun g=>g.2) (fun g=>Df_ x1 k130 x0 k163=some z2∧ZOk g.2 (d6_ 2 d2_ d0_) z0_9 x0.rows∧ZOk g.2 (d6_ 1 eI_ ei_) z0_14 x0.q.next∧ZOk g.2 (d6_ 1 eS_ el_) z0_18 x0.q.outs∧dw_.le τ164 g.2) ?_ (fun g j hg=> ?_))))
   ·skip
    refine TC.a (TL.j z z (TL.j z z (TL.split 37 z (fun h175=> ?_) (fun h175=> ?_))))
    ·replace hh:=ea_ h175 hh
     refine TL.g z (ad_ (.inl z) z) (TL.g z (ad_ (.inl z) z) (TL.g z (bw_ z z z) (TL.w z (ai_ z z z) (TL.en (TC.cD z hh (fun h176 hh=> ?_) (fun h176 hh=> ?_))))))
     ·refine TC.region (TL.w z (aw_ z yt_ sh_ z) (TL.w z (bq_ (v:= .agg #[.int .i64 12]) z underlying142 z) (TL.panic z z z ?_)))
      replace hh:=eh_ hR2 hh
      replace hh:=eh_ hR1 hh
      obtain rfl:=so hh
      exact z
     exact TC.skip (S.n (cf ((),τ164) ⟨hh,zf158,zf159,zf160,(dw_.le.refl _)⟩ (Sub.f [7,7,7,7,7,7,7,7] 8)))
    replace hh:=d9_ h175 hh
    exact TL.f z (TL.f z (TL.f z (TL.w z (ac_ z z z) (TL.en (TC.f z (TC.skip (S.n (cf ((),τ164) ⟨hh,zf158,zf159,zf160,(dw_.le.refl _)⟩ (Sub.f [7,7,7,7,7,7,7,7] 8)))))))))
   skip
   obtain ⟨_,τ177⟩:=g
   obtain ⟨hh,zf172,zf173,zf174,hle178⟩:=hg
   try dsimp only at zf172
   try dsimp only at zf173
   try dsimp only at zf174
   dsimp only at hle178
   replace zf158:=zf158.mono hle178
   replace zf159:=zf159.mono hle178
   replace zf160:=zf160.mono hle178
   try dsimp only
   dsimp only [Df_]at hh
   have zf172b:=zf172.length
   have zf173b:=zf173.length
   have zf174b:=zf174.length
   refine TC.isSl (i:=1) z (fun _ hb179 _=> ?_)
   refine TC.isSl (i:=3) z (fun _ hb180 _=> ?_)
   refine TC.isSl (i:=4) z (fun _ hb181 _=> ?_)
   refine TC.isSl (i:=5) z (fun _ hb182 _=> ?_)
   refine TC.isSl (i:=6) z (fun _ hb183 _=> ?_)
   refine TC.region (TL.w z (ad_ (.inl z) z) (TL.j z z (TL.w z (ad_ (.inr z) z) (TL.nil (B.n (S.n (TC.region (TL.w z (OpVal.succ z z z (by omega)) (TL.i z z (TL.en ?_))))))))))
   obtain ⟨hh,hlt184⟩:=ev_ hR2 hh
   exact lf ((true,((nth x1 k130 tz_).out++(nth (nth x0.ends (((nth x1 k130 tz_).state).toNat) []) k163 [])),(k163+1)),τ177) hlt184 ⟨hh,zf172,zf173,zf174,(hle165.trans hle178)⟩ (Sub.f [7,7,7,7,7,7,7,7] 8)
  refine TC.exit (S.x (S.x ?_))
  replace hh:=eh_ hR2 hh
  refine TC.ae_ (B.n (S.n (TC.region (TL.w z (OpVal.succ z z z (by omega)) (TL.i z z (TL.en ?_))))))
  obtain ⟨hh,hlt185⟩:=ev_ hR1 hh
  exact lf ((t161,s162,(k130+1)),τ164) hlt185 ⟨hh,zf158,zf159,zf160,(hle132.trans hle165)⟩ (Sub.f [6,6,6,6,6,6,6] 7)
 refine TC.exit (S.x (S.x ?_))
 replace hh:=eh_ hR1 hh
 refine TC.ae_ (S.n (TC.a (TL.w z (ad_ (.inl z) z) ?_)))
 obtain ⟨v49,u49,hh⟩:=d8_ hh
 rcases v49 with v49k|v49r
 ·dsimp only [j6_]at hh
  refine TL.bs_ z (lg_.l (D7_ u49)) z z uv_ z z (fun τ186 hle186=> ?_)
  obtain rfl:=so hh
  exact z
 dsimp only [j6_]at hh
 refine TL.op z (cr_ (D7_ u49) z z z uv_ z z z ?_)
 refine TL.en (TC.a (TL.j z z (TL.w z (ad_ (.inl z) z) (TL.j z z (TL.w z (ad_ (.inr z) z) (TL.en (TC.back (TC.ret ?_))))))))
 obtain rfl:=so hh
 exact ro [Res.cells b0_0 #[.slice a0_1 x0.arcs.length c0_2,.slice a0_4 x0.ends.length c0_5,.int .i64 x0.most,.slice a0_7 x0.rows.length c0_8,.map (some b0_11),.string (bs x0.q.front),.slice a0_12 x0.q.next.length c0_13,.slice a0_16 x0.q.outs.length c0_17,.slice a0_20 x0.q.fin.length c0_21,.slice a0_22 x0.q.tail.length c0_23] Eb0,Res.rowS 22 1 (d6_ 2 d2_ d0_).en (.slice a0_7 x0.rows.length c0_8) z0_9,Res.mapB hi_ h5_ (some b0_11) x0.places,Res.rowS 86 1 (d6_ 1 eI_ ei_).en (.slice a0_12 x0.q.next.length c0_13) z0_14,Res.rowS 30 1 (d6_ 1 eS_ el_).en (.slice a0_16 x0.q.outs.length c0_17) z0_18,rs_ 4 et_ a0_20 c0_21 x0.q.fin,rs_ 9 eS_ a0_22 c0_23 x0.q.tail] z (RVs.tmp z (RVs.tmp z RVs.nil)) ⟨z,z,z⟩
def A3_(k174:Nat)(l187:List Tip):Option (((List Tip)×Nat)⊕(((List Tip)×Nat)⊕((List Tip)))):=
 nxt (l187,(k174+1))
def Cr_(l171:List Tip)(k174:Nat)(x198:Tip):Option (((List Tip)×Nat)⊕(((List Tip)×Nat)⊕((List Tip)))):=
 grd ((l171.length+[x198].length) * 24≤140737488355328) (A3_ k174 (l171++[x198]))
def Ad_(x0:Maker)(x1:List Tip)(k136:Nat)(x2:UInt8)(l171:List Tip)(k174:Nat):Option (((List Tip)×Nat)⊕(((List Tip)×Nat)⊕((List Tip)))):=
 d4_ (decide ((k174:Int)<(((nth x0.arcs (((nth x1 k136 tz_).state).toNat) []).length:Nat):Int))) (d4_ (!(((nth (nth x0.arcs (((nth x1 k136 tz_).state).toNat) []) k174 az_).set).has x2.toNat)) (A3_ k174 l171) (grd (((nth x1 k136 tz_).out).length+((nth (nth x0.arcs (((nth x1 k136 tz_).state).toNat) []) k174 az_).out).length≤9223372036854775807) (d4_ ((nth (nth x0.arcs (((nth x1 k136 tz_).state).toNat) []) k174 az_).copy) (grd (((nth x1 k136 tz_).out++(nth (nth x0.arcs (((nth x1 k136 tz_).state).toNat) []) k174 az_).out).length+[x2].length≤9223372036854775807) (Cr_ l171 k174 (⟨(nth (nth x0.arcs (((nth x1 k136 tz_).state).toNat) []) k174 az_).to,(((nth x1 k136 tz_).out++(nth (nth x0.arcs (((nth x1 k136 tz_).state).toNat) []) k174 az_).out)++[x2])⟩:Tip))) (Cr_ l171 k174 (⟨(nth (nth x0.arcs (((nth x1 k136 tz_).state).toNat) []) k174 az_).to,((nth x1 k136 tz_).out++(nth (nth x0.arcs (((nth x1 k136 tz_).state).toNat) []) k174 az_).out)⟩:Tip))))) (fin (nxt (l171,(k136+1))))
def Ai_(x1:List Tip)(x0:Maker)(x2:UInt8)(l133:List Tip)(k136:Nat):Option (((List Tip)×Nat)⊕((List Tip))):=
 d4_ (decide ((k136:Int)<((x1.length:Nat):Int))) (grd (0≤((nth x1 k136 tz_).state)∧((nth x1 k136 tz_).state)<(x0.arcs.length:Int)) (ed_ (fun q:(List Tip)×Nat=>Ad_ x0 x1 k136 x2 q.1 q.2) (l133,0))) (fin (some l133))
def Du_(x0:Maker)(x1:List Tip)(x2:UInt8):Option ((List Tip)):=
 ed_ (fun q:(List Tip)×Nat=>Ai_ x1 x0 x2 q.1 q.2) (([]:List Tip),0)
theorem Hk_{σ:dw_}{x0:Maker}{z0_9:List (List Tip×(d6_ 2 d2_ d0_).P)}{z0_14:List (N_1×(d6_ 1 eI_ ei_).P)}{z0_18:List (T_2×(d6_ 1 eS_ el_).P)}{x1:List Tip}{x2:UInt8}(f0_3:RZ σ (d6_ 8 ep_ eo_) (.slice a0_1 x0.arcs.length c0_2) x0.arcs)(f0_6:RZ σ (d6_ 1 eS_ el_) (.slice a0_4 x0.ends.length c0_5) x0.ends)(zf0_10:ZOk σ (d6_ 2 d2_ d0_) z0_9 x0.rows)(zf0_15:ZOk σ (d6_ 1 eI_ ei_) z0_14 x0.q.next)(zf0_19:ZOk σ (d6_ 1 eS_ el_) z0_18 x0.q.outs)(f1_0:RS σ 2 d2_ (.slice a1_0 x1.length c1_0) x1){r:(List Tip)}(hh:Du_ x0 x1 x2=some r):
  Con Tryz.prog 131 #[loc b0_0 0,.slice a1_0 x1.length c1_0,.int .u8 ((x2.toNat:Nat):Int)] σ [Res.cells b0_0 #[.slice a0_1 x0.arcs.length c0_2,.slice a0_4 x0.ends.length c0_5,.int .i64 x0.most,.slice a0_7 x0.rows.length c0_8,.map (some b0_11),.string (bs x0.q.front),.slice a0_12 x0.q.next.length c0_13,.slice a0_16 x0.q.outs.length c0_17,.slice a0_20 x0.q.fin.length c0_21,.slice a0_22 x0.q.tail.length c0_23] Eb0,Res.rowS 22 1 (d6_ 2 d2_ d0_).en (.slice a0_7 x0.rows.length c0_8) z0_9,Res.mapB hi_ h5_ (some b0_11) x0.places,Res.rowS 86 1 (d6_ 1 eI_ ei_).en (.slice a0_12 x0.q.next.length c0_13) z0_14,Res.rowS 30 1 (d6_ 1 eS_ el_).en (.slice a0_16 x0.q.outs.length c0_17) z0_18,rs_ 4 et_ a0_20 c0_21 x0.q.fin,rs_ 9 eS_ a0_22 c0_23 x0.q.tail] (fun v σ' H'=> ∃a1 c1,v= .slice a1 r.length c1∧σ=σ'∧H'=[Res.rowS 76 2 d2_ (.slice a1 r.length c1) r,Res.cells b0_0 #[.slice a0_1 x0.arcs.length c0_2,.slice a0_4 x0.ends.length c0_5,.int .i64 x0.most,.slice a0_7 x0.rows.length c0_8,.map (some b0_11),.string (bs x0.q.front),.slice a0_12 x0.q.next.length c0_13,.slice a0_16 x0.q.outs.length c0_17,.slice a0_20 x0.q.fin.length c0_21,.slice a0_22 x0.q.tail.length c0_23] Eb0,Res.rowS 22 1 (d6_ 2 d2_ d0_).en (.slice a0_7 x0.rows.length c0_8) z0_9,Res.mapB hi_ h5_ (some b0_11) x0.places,Res.rowS 86 1 (d6_ 1 eI_ ei_).en (.slice a0_12 x0.q.next.length c0_13) z0_14,Res.rowS 30 1 (d6_ 1 eS_ el_).en (.slice a0_16 x0.q.outs.length c0_17) z0_18,rs_ 4 et_ a0_20 c0_21 x0.q.fin,rs_ 9 eS_ a0_22 c0_23 x0.q.tail]):=by
 dsimp only [Du_]at hh
 have f0_3b:=f0_3.big
 have f0_6b:=f0_6.big
 have zf0_10b:=zf0_10.length
 have zf0_15b:=zf0_15.length
 have zf0_19b:=zf0_19.length
 have f1_0b:=f1_0.rv.big
 refine Con.mk (n:=61) Tryz.func131 z z z (fun w0=> ?_)
 refine TC.a (TL.s z z (TL.en (TC.a (TL.s z z (TL.en (TC.seq (TC.a (TL.s z z (TL.w z (lenC z underlying22 z) (TL.i z z (TL.en (TC.block (TC.nilS 76 2 d2_ (TC.as_ (α:=((List Tip)×Nat)×((Option Addr)×Nat×dw_)) (rgs [(7,1),(9,1),(11,2),(15,45)]) (fun g=>[(7,.slice g.2.1 g.1.1.length g.2.2.1),(15,.int .i64 ((g.1.2:Nat):Int))]) (fun g=>[Res.cells b0_0 #[.slice a0_1 x0.arcs.length c0_2,.slice a0_4 x0.ends.length c0_5,.int .i64 x0.most,.slice a0_7 x0.rows.length c0_8,.map (some b0_11),.string (bs x0.q.front),.slice a0_12 x0.q.next.length c0_13,.slice a0_16 x0.q.outs.length c0_17,.slice a0_20 x0.q.fin.length c0_21,.slice a0_22 x0.q.tail.length c0_23] Eb0,Res.rowS 22 1 (d6_ 2 d2_ d0_).en (.slice a0_7 x0.rows.length c0_8) z0_9,Res.mapB hi_ h5_ (some b0_11) x0.places,Res.rowS 86 1 (d6_ 1 eI_ ei_).en (.slice a0_12 x0.q.next.length c0_13) z0_14,Res.rowS 30 1 (d6_ 1 eS_ el_).en (.slice a0_16 x0.q.outs.length c0_17) z0_18,rs_ 4 et_ a0_20 c0_21 x0.q.fin,rs_ 9 eS_ a0_22 c0_23 x0.q.tail,Res.rowS 76 2 d2_ (.slice g.2.1 g.1.1.length g.2.2.1) g.1.1]) (fun g=>g.2.2.2) (fun g=>ed_ (fun q:(List Tip)×Nat=>Ai_ x1 x0 x2 q.1 q.2) g.1=some r∧ZOk g.2.2.2 (d6_ 2 d2_ d0_) z0_9 x0.rows∧ZOk g.2.2.2 (d6_ 1 eI_ ei_) z0_14 x0.q.next∧ZOk g.2.2.2 (d6_ 1 eS_ el_) z0_18 x0.q.outs∧dw_.le σ g.2.2.2) (fun g=>eg_ (fun q:(List Tip)×Nat=>Ai_ x1 x0 x2 q.1 q.2) g.1) ((([]:List Tip),0),(none,0,σ)) (Sub.f [7,7,7,7,7,7,7] 8) z (by repeat (first|exact trivial|refine ⟨z,?_⟩)) ⟨hh,zf0_10,zf0_15,zf0_19,(dw_.le.refl _)⟩ (fun g1 j1 hg1=> ?_)))))))))))))))
 obtain ⟨⟨l133,k136⟩,⟨a134,c135,τ138⟩⟩:=g1
 obtain ⟨hh,zf129,zf130,zf131,hle139⟩:=hg1
 try dsimp only at zf129
 try dsimp only at zf130
 try dsimp only at zf131
 dsimp only at hle139
 replace f0_3:=f0_3.mono hle139
 replace f1_0:=f1_0.mono hle139
 try dsimp only
 obtain ⟨z1,hh,hR1⟩:=ek_ hh
 dsimp only [Ai_]at hh
 have zf129b:=zf129.length
 have zf130b:=zf130.length
 have zf131b:=zf131.length
 refine TC.isSl (i:=1) z (fun _ hb140 _=> ?_)
 refine TC.isSl (i:=3) z (fun _ hb141 _=> ?_)
 refine TC.isSl (i:=4) z (fun _ hb142 _=> ?_)
 refine TC.isSl (i:=5) z (fun _ hb143 _=> ?_)
 refine TC.isSl (i:=6) z (fun _ hb144 _=> ?_)
 refine TC.isSl (i:=7) z (fun _ hb145 _=> ?_)
 refine TC.a (TL.w z (OpVal.lss z z z) (TL.en (TC.seq (TC.cD z hh (fun h146 hh=> ?_) (fun h146 hh=> ?_)))))
 ·refine TC.skip (S.n (TC.seq (TC.block (TC.a (TL.w z (af_ z underlying22 gh_ z z f1_0.rv.sl (by omega)) (TL.w z (a9_ tz_ z qs_ gh_ z f1_0 (by omega) (by omega)) (TL.op z (OpOk.alloc z k8_ z z (fun b147=> ?_)))))))))
  refine TL.op z (storeAll z gh_ z z z z z z ?_)
  refine TL.en (TC.seq ?_)
  obtain ⟨u17,hh⟩:=d1_ hh
  refine TC.draw [] (by kernel_rfl) (TA.a 0 z (a6_ (.inl z) z) z (TA.a 1 z (ag_ z z) z (TA.a 2 z (aa_ z rv_ z) z (TA.b 3 z (ab_ z ag71 z (i:=1) z z) z (TA.a 4 z (aa_ z gj_ z) z (TA.b 5 z (ab_ z ag3 z (i:=0) z z) z (TA.b 6 z (OpVal.index z underlying71 xu_ z z f0_3.isSl u17.1 u17.2) z ?_)))))))
  obtain ⟨p150,hk150,hg150⟩:=RZ.seg f0_3 (((nth x1 k136 tz_).state).toNat) (by omega)
  replace hk150:RS _ 8 ep_ (.slice p150.1 (nth x0.arcs (((nth x1 k136 tz_).state).toNat) []).length p150.2) (nth x0.arcs (((nth x1 k136 tz_).state).toNat) []):=hk150
  have hk150b:=hk150.rv.big
  refine TA.b 7 z (OpVal.of (an_ z u1_ z hg150 z) (v':= .slice p150.1 ((nth x0.arcs (((nth x1 k136 tz_).state).toNat) []).length) p150.2) z) z (TA.b 8 z (lenC z underlying23 z) z (TA.a 9 z (aj_ (.inl z) z) z (TA.dn (S.n (TC.block (TC.as_ (α:=((List Tip)×Nat)×((Option Addr)×Nat×dw_)) (rgs [(7,1),(11,2),(28,31)]) (fun g=>[(7,.slice g.2.1 g.1.1.length g.2.2.1),(28,.int .i64 ((g.1.2:Nat):Int))]) (fun g=>[Res.cells b0_0 #[.slice a0_1 x0.arcs.length c0_2,.slice a0_4 x0.ends.length c0_5,.int .i64 x0.most,.slice a0_7 x0.rows.length c0_8,.map (some b0_11),.string (bs x0.q.front),.slice a0_12 x0.q.next.length c0_13,.slice a0_16 x0.q.outs.length c0_17,.slice a0_20 x0.q.fin.length c0_21,.slice a0_22 x0.q.tail.length c0_23] Eb0,Res.rowS 22 1 (d6_ 2 d2_ d0_).en (.slice a0_7 x0.rows.length c0_8) z0_9,Res.mapB hi_ h5_ (some b0_11) x0.places,Res.rowS 86 1 (d6_ 1 eI_ ei_).en (.slice a0_12 x0.q.next.length c0_13) z0_14,Res.rowS 30 1 (d6_ 1 eS_ el_).en (.slice a0_16 x0.q.outs.length c0_17) z0_18,rs_ 4 et_ a0_20 c0_21 x0.q.fin,rs_ 9 eS_ a0_22 c0_23 x0.q.tail,Res.rowS 76 2 d2_ (.slice g.2.1 g.1.1.length g.2.2.1) g.1.1,Res.cells b147 #[.int .i64 ((nth x1 k136 tz_).state),.string (bs ((nth x1 k136 tz_).out))] 76]) (fun g=>g.2.2.2) (fun g=>ed_ (fun q:(List Tip)×Nat=>Ad_ x0 x1 k136 x2 q.1 q.2) g.1=some z1∧ZOk g.2.2.2 (d6_ 2 d2_ d0_) z0_9 x0.rows∧ZOk g.2.2.2 (d6_ 1 eI_ ei_) z0_14 x0.q.next∧ZOk g.2.2.2 (d6_ 1 eS_ el_) z0_18 x0.q.outs∧dw_.le τ138 g.2.2.2) (fun g=>eg_ (fun q:(List Tip)×Nat=>Ad_ x0 x1 k136 x2 q.1 q.2) g.1) ((l133,0),(a134,c135,τ138)) (Sub.f [8,8,8,8,8,8,8,8] 9) z (by repeat (first|exact trivial|refine ⟨z,?_⟩)) ⟨hh,zf129,zf130,zf131,(dw_.le.refl _)⟩ (fun g2 j2 hg2=> ?_)))))))
  obtain ⟨⟨l171,k174⟩,⟨a172,c173,τ175⟩⟩:=g2
  obtain ⟨hh,zf168,zf169,zf170,hle176⟩:=hg2
  try dsimp only at zf168
  try dsimp only at zf169
  try dsimp only at zf170
  dsimp only at hle176
  replace hk150:=hk150.mono hle176
  try dsimp only
  obtain ⟨z2,hh,hR2⟩:=ek_ hh
  dsimp only [Ad_]at hh
  have zf168b:=zf168.length
  have zf169b:=zf169.length
  have zf170b:=zf170.length
  refine TC.isSl (i:=1) z (fun _ hb177 _=> ?_)
  refine TC.isSl (i:=3) z (fun _ hb178 _=> ?_)
  refine TC.isSl (i:=4) z (fun _ hb179 _=> ?_)
  refine TC.isSl (i:=5) z (fun _ hb180 _=> ?_)
  refine TC.isSl (i:=6) z (fun _ hb181 _=> ?_)
  refine TC.isSl (i:=7) z (fun _ hb182 _=> ?_)
  refine TC.a (TL.w z (OpVal.lss z z z) (TL.en (TC.seq (TC.cD z hh (fun h183 hh=> ?_) (fun h183 hh=> ?_)))))
  ·refine TC.skip (S.n (TC.cutG (α:=((List Tip))×((Option Addr)×Nat×dw_)) (rgs [(7,1),(11,2),(30,28)]) (fun g=>[(7,.slice g.2.1 g.1.length g.2.2.1)]) (fun g=>[Res.cells b0_0 #[.slice a0_1 x0.arcs.length c0_2,.slice a0_4 x0.ends.length c0_5,.int .i64 x0.most,.slice a0_7 x0.rows.length c0_8,.map (some b0_11),.string (bs x0.q.front),.slice a0_12 x0.q.next.length c0_13,.slice a0_16 x0.q.outs.length c0_17,.slice a0_20 x0.q.fin.length c0_21,.slice a0_22 x0.q.tail.length c0_23] Eb0,Res.rowS 22 1 (d6_ 2 d2_ d0_).en (.slice a0_7 x0.rows.length c0_8) z0_9,Res.mapB hi_ h5_ (some b0_11) x0.places,Res.rowS 86 1 (d6_ 1 eI_ ei_).en (.slice a0_12 x0.q.next.length c0_13) z0_14,Res.rowS 30 1 (d6_ 1 eS_ el_).en (.slice a0_16 x0.q.outs.length c0_17) z0_18,rs_ 4 et_ a0_20 c0_21 x0.q.fin,rs_ 9 eS_ a0_22 c0_23 x0.q.tail,Res.rowS 76 2 d2_ (.slice g.2.1 g.1.length g.2.2.1) g.1,Res.cells b147 #[.int .i64 ((nth x1 k136 tz_).state),.string (bs ((nth x1 k136 tz_).out))] 76]) (fun g=>g.2.2.2) (fun g=>A3_ k174 g.1=some z2∧ZOk g.2.2.2 (d6_ 2 d2_ d0_) z0_9 x0.rows∧ZOk g.2.2.2 (d6_ 1 eI_ ei_) z0_14 x0.q.next∧ZOk g.2.2.2 (d6_ 1 eS_ el_) z0_18 x0.q.outs∧dw_.le τ175 g.2.2.2) ?_ (fun g j hg=> ?_)))
   ·skip
    refine TC.block (TC.a (TL.w z (af_ z underlying23 h0_ z z hk150.rv.sl (by omega)) (TL.w z (a9_ az_ z tx_ h0_ z hk150 (by omega) (by omega)) (TL.op z (OpOk.alloc z og_ z z (fun b190=> ?_))))))
    refine TL.op z (storeAll z h0_ z z z z z z ?_)
    refine TL.en (TC.seq (TC.a (TL.w z (aa_ z l7_ z) (TL.w z (bg_ z ag64 sz64 z (i:=0) z z z) (TL.i z z (TL.op z (av_ (has_con _ ((nth (nth x0.arcs (((nth x1 k136 tz_).state).toNat) []) k174 az_).set) x2.toNat (BSet.isOk _) (UInt8.toNat_lt _)) z z pf102 z z z ?_)))))))
    refine TL.w z (OpVal.not z z) (TL.en (TC.cB z hh (fun h192 hh=> ?_) (fun h192 hh=> ?_)))
    ·exact TC.exit (S.x (TC.ae_ (S.n (cf (l171,(a172,c173,τ175)) ⟨hh,zf168,zf169,zf170,(dw_.le.refl _)⟩ (Sub.f [9,9,9,9,9,9,9,9,9] 9)))))
    refine TC.skip (S.n (TC.a (TL.w z (aa_ z i5_ z) (TL.w z (ab_ z ag3 z (i:=0) z z) (TL.w z (aa_ z f7_ z) (TL.w z (ab_ z ag9 z (i:=9) z z) (TL.w z (aa_ z l6_ z) (TL.w z (ab_ z ag9 z (i:=0) z z) ?_))))))))
    obtain ⟨u37,hh⟩:=d1_ hh
    refine TL.w z (ci_ z z z u37) (TL.w z (aw_ z pl76 k8_ z) (TL.op z (OpOk.alloc z k8_ z z (fun b193=> ?_))))
    refine TL.op z (storeAll z gh_ z z z z z z ?_)
    refine TL.en (TC.cutG (α:=(Tip)×(dw_)) (rgs [(45,9)]) (fun g=>[]) (fun g=>[Res.cells b0_0 #[.slice a0_1 x0.arcs.length c0_2,.slice a0_4 x0.ends.length c0_5,.int .i64 x0.most,.slice a0_7 x0.rows.length c0_8,.map (some b0_11),.string (bs x0.q.front),.slice a0_12 x0.q.next.length c0_13,.slice a0_16 x0.q.outs.length c0_17,.slice a0_20 x0.q.fin.length c0_21,.slice a0_22 x0.q.tail.length c0_23] Eb0,Res.rowS 22 1 (d6_ 2 d2_ d0_).en (.slice a0_7 x0.rows.length c0_8) z0_9,Res.mapB hi_ h5_ (some b0_11) x0.places,Res.rowS 86 1 (d6_ 1 eI_ ei_).en (.slice a0_12 x0.q.next.length c0_13) z0_14,Res.rowS 30 1 (d6_ 1 eS_ el_).en (.slice a0_16 x0.q.outs.length c0_17) z0_18,rs_ 4 et_ a0_20 c0_21 x0.q.fin,rs_ 9 eS_ a0_22 c0_23 x0.q.tail,Res.rowS 76 2 d2_ (.slice a172 l171.length c173) l171,Res.cells b147 #[.int .i64 ((nth x1 k136 tz_).state),.string (bs ((nth x1 k136 tz_).out))] 76,Res.cells b193 #[.int .i64 g.1.state,.string (bs g.1.out)] 76]) (fun g=>g.2) (fun g=>Cr_ l171 k174 g.1=some z2∧ZOk g.2 (d6_ 2 d2_ d0_) z0_9 x0.rows∧ZOk g.2 (d6_ 1 eI_ ei_) z0_14 x0.q.next∧ZOk g.2 (d6_ 1 eS_ el_) z0_18 x0.q.outs∧dw_.le τ175 g.2) ?_ (fun g j hg=> ?_))
    ·skip
     refine TC.a (TL.w z (aa_ z pj_ z) (TL.w z (ab_ z ag4 z (i:=1) z z) (TL.en (TC.cB z hh (fun h199 hh=> ?_) (fun h199 hh=> ?_)))))
     ·refine TC.region (TL.w z (aa_ z f7_ z) (TL.w z (ab_ z ag9 z (i:=0) z z) (TL.i z z (TL.op z (OpOk.lit (enc:=e7_) [x2] z underlying60 sz5 ze5 z z z g7_ (by decide) (by decide) (0:UInt8) z (by decide) z (by decide) g3_ (fun a200 c201=> ?_))))))
      refine TL.isSl (i:=0) z (fun hs203 _ _=> ?_)
      refine TL.w z (b6_ (l:=[x2]) z underlying60 underlying5 underlying9 z hs203 (fun w hw=>rdb_row (q:=0) z hw)) ?_
      obtain ⟨u48,hh⟩:=d1_ hh
      refine TL.w z (ci_ z z z u48) (TL.w z (aa_ z f7_ z) (TL.front 1 z z (TL.op z (cf_ z sz9 z z z z z ?_))))
      exact TL.en (cf ((⟨(nth (nth x0.arcs (((nth x1 k136 tz_).state).toNat) []) k174 az_).to,(((nth x1 k136 tz_).out++(nth (nth x0.arcs (((nth x1 k136 tz_).state).toNat) []) k174 az_).out)++[x2])⟩:Tip),τ175) ⟨hh,zf168,zf169,zf170,(dw_.le.refl _)⟩ (Sub.f [11,11,11,11,11,11,11,11,11] 10))
     exact TC.skip (S.n (cf ((⟨(nth (nth x0.arcs (((nth x1 k136 tz_).state).toNat) []) k174 az_).to,((nth x1 k136 tz_).out++(nth (nth x0.arcs (((nth x1 k136 tz_).state).toNat) []) k174 az_).out)⟩:Tip),τ175) ⟨hh,zf168,zf169,zf170,(dw_.le.refl _)⟩ (Sub.f [10,10,10,10,10,10,10,10,10] 10)))
    skip
    obtain ⟨x198,τ204⟩:=g
    obtain ⟨hh,zf195,zf196,zf197,hle205⟩:=hg
    try dsimp only at zf195
    try dsimp only at zf196
    try dsimp only at zf197
    dsimp only at hle205
    replace zf168:=zf168.mono hle205
    replace zf169:=zf169.mono hle205
    replace zf170:=zf170.mono hle205
    try dsimp only
    dsimp only [Cr_]at hh
    have zf195b:=zf195.length
    have zf196b:=zf196.length
    have zf197b:=zf197.length
    refine TC.isSl (i:=1) z (fun _ hb206 _=> ?_)
    refine TC.isSl (i:=3) z (fun _ hb207 _=> ?_)
    refine TC.isSl (i:=4) z (fun _ hb208 _=> ?_)
    refine TC.isSl (i:=5) z (fun _ hb209 _=> ?_)
    refine TC.isSl (i:=6) z (fun _ hb210 _=> ?_)
    refine TC.isSl (i:=7) z (fun _ hb211 _=> ?_)
    refine TC.region (TL.s z z (TL.w z (am_ z qs_ gh_ z (i:=9) z z) (TL.op z (OpOk.lit (enc:=d2_) [x198] z underlying22 gh_ k8_ z z z d0_ (by decide) (by decide) tz_ z (by decide) z (by decide) f5_ (fun a212 c213=> ?_)))))
    refine TL.front 8 z z ?_
    obtain ⟨u54,hh⟩:=d1_ hh
    refine TL.op z (ay_ z z underlying22 gh_ by76 k8_ z z (by decide) z z z (.inr ⟨_,0,z⟩) (by simpa using u54) (by decide) (fun a215 c216=> ?_))
    exact TL.s z z (TL.nil (B.n (S.n (cf ((l171++[x198]),(a215,c216,τ204)) ⟨hh,zf195,zf196,zf197,hle205⟩ (Sub.f [9,1,9,9,9,9,9,9,9] 9)))))
   skip
   obtain ⟨l187,⟨a188,c189,τ217⟩⟩:=g
   obtain ⟨hh,zf184,zf185,zf186,hle218⟩:=hg
   try dsimp only at zf184
   try dsimp only at zf185
   try dsimp only at zf186
   dsimp only at hle218
   replace zf168:=zf168.mono hle218
   replace zf169:=zf169.mono hle218
   replace zf170:=zf170.mono hle218
   try dsimp only
   dsimp only [A3_]at hh
   have zf184b:=zf184.length
   have zf185b:=zf185.length
   have zf186b:=zf186.length
   refine TC.isSl (i:=1) z (fun _ hb219 _=> ?_)
   refine TC.isSl (i:=3) z (fun _ hb220 _=> ?_)
   refine TC.isSl (i:=4) z (fun _ hb221 _=> ?_)
   refine TC.isSl (i:=5) z (fun _ hb222 _=> ?_)
   refine TC.isSl (i:=6) z (fun _ hb223 _=> ?_)
   refine TC.isSl (i:=7) z (fun _ hb224 _=> ?_)
   refine TC.region (TL.w z (OpVal.succ z z z (by omega)) (TL.i z z (TL.en ?_)))
   obtain ⟨hh,hlt225⟩:=ev_ hR2 hh
   exact lf ((l187,(k174+1)),(a188,c189,τ217)) hlt225 ⟨hh,zf184,zf185,zf186,(hle176.trans hle218)⟩ (Sub.f [8,8,8,8,8,8,8,8,8] 9)
  refine TC.exit (S.x (S.x ?_))
  replace hh:=eh_ hR2 hh
  refine TC.ae_ (B.n (S.n (TC.region (TL.w z (OpVal.succ z z z (by omega)) (TL.i z z (TL.en ?_))))))
  obtain ⟨hh,hlt226⟩:=ev_ hR1 hh
  exact lf ((l171,(k136+1)),(a172,c173,τ175)) hlt226 ⟨hh,zf168,zf169,zf170,(hle139.trans hle176)⟩ (Sub.f [7,7,7,7,7,7,7,7] 8)
 refine TC.exit (S.x (S.x ?_))
 replace hh:=eh_ hR1 hh
 refine TC.ae_ (S.n (TC.a (TL.s z z (TL.s z z (TL.en (TC.ax_ (Sub.f [6,6,6,6,6,6,6,7] 8) (TC.back (TC.ret ?_))))))))
 obtain rfl:=so hh
 exact ro [Res.rowS 76 2 d2_ (.slice a134 l133.length c135) l133,Res.cells b0_0 #[.slice a0_1 x0.arcs.length c0_2,.slice a0_4 x0.ends.length c0_5,.int .i64 x0.most,.slice a0_7 x0.rows.length c0_8,.map (some b0_11),.string (bs x0.q.front),.slice a0_12 x0.q.next.length c0_13,.slice a0_16 x0.q.outs.length c0_17,.slice a0_20 x0.q.fin.length c0_21,.slice a0_22 x0.q.tail.length c0_23] Eb0,Res.rowS 22 1 (d6_ 2 d2_ d0_).en (.slice a0_7 x0.rows.length c0_8) z0_9,Res.mapB hi_ h5_ (some b0_11) x0.places,Res.rowS 86 1 (d6_ 1 eI_ ei_).en (.slice a0_12 x0.q.next.length c0_13) z0_14,Res.rowS 30 1 (d6_ 1 eS_ el_).en (.slice a0_16 x0.q.outs.length c0_17) z0_18,rs_ 4 et_ a0_20 c0_21 x0.q.fin,rs_ 9 eS_ a0_22 c0_23 x0.q.tail] z (RVs.tmp z RVs.nil) ⟨a134,c135,z,z,z⟩
def Ch_(k206:Nat)(l218:List (List Tip))(m224:FM T_1 Int)(l228:N_1)(l230:T_2):Option (((List (List Tip))×(FM T_1 Int)×N_1×T_2×Nat)⊕(Int⊕(Maker))):=
 nxt (l218,m224,l228,l230,(k206+1))
def Al_(x0:Maker)(x1:Int)(v11r:Bool×T_1)(l192:List (List Tip))(m198:FM T_1 Int)(l202:N_1)(l204:T_2)(k206:Nat):Option (((List (List Tip))×(FM T_1 Int)×N_1×T_2×Nat)⊕(Int⊕(Maker))):=
 d4_ (decide ((k206:Int)<256)) (grd (k206<l202.length) (bnd (Du_ (⟨x0.arcs,x0.ends,x0.most,l192,m198,x0.q⟩:Maker) (nth x0.rows x1.toNat []) (jo_ (k206:Int))) (fun v33=>d4_ (decide (0<((v33.length:Nat):Int))) (bnd (F3_ v33) (fun v41=>j6_ v41 (fun v41k=>fin (some (.inl v41k))) (fun v41r=>grd (k206<l204.length) (bnd (Af_ (⟨x0.arcs,x0.ends,x0.most,l192,m198,x0.q⟩:Maker) v41r.2) (fun v52=>j6_ v52 (fun v52k=>fin (some (.inl v52k))) (fun v52r=>grd (k206<(l202.set k206 (-1)).length) (Ch_ k206 v52r.2.rows v52r.2.places ((l202.set k206 (-1)).set k206 v52r.1) (l204.set k206 v41r.1)))))))) (Ch_ k206 l192 m198 (l202.set k206 (-1)) l204)))) (fin (grd ((x0.q.next.length+[l202].length) * 24≤140737488355328) (grd ((x0.q.outs.length+[l204].length) * 24≤140737488355328) (grd ((x0.q.fin.length+[v11r.1].length) * 1≤140737488355328) (grd ((x0.q.tail.length+[v11r.2].length) * 16≤140737488355328) (some (.inr (⟨x0.arcs,x0.ends,x0.most,l192,m198,(⟨x0.q.front,(x0.q.next++[l202]),(x0.q.outs++[l204]),(x0.q.fin++[v11r.1]),(x0.q.tail++[v11r.2])⟩:Seq)⟩:Maker))))))))
def Ed_(x0:Maker)(x1:Int)(v11r:Bool×T_1):Option (Int⊕(Maker)):=
 ed_ (fun q:(List (List Tip))×(FM T_1 Int)×N_1×T_2×Nat=>Al_ x0 x1 v11r q.1 q.2.1 q.2.2.1 q.2.2.2.1 q.2.2.2.2) (x0.rows,x0.places,(List.replicate 256 (0:Int)),(List.replicate 256 ([]:T_1)),0)
def Fh_(x0:Maker)(x1:Int):Option (Int⊕(Maker)):=
 grd (0≤x1∧x1<(x0.rows.length:Int)) (bnd (Es_ x0 (nth x0.rows x1.toNat [])) (fun v11=>j6_ v11 (fun v11k=>some (.inl v11k)) (fun v11r=>Ed_ x0 x1 v11r)))
theorem G4_{σ:dw_}{x0:Maker}{z0_9:List (List Tip×(d6_ 2 d2_ d0_).P)}{z0_14:List (N_1×(d6_ 1 eI_ ei_).P)}{z0_18:List (T_2×(d6_ 1 eS_ el_).P)}{x1:Int}(hgl:GT2 σ 1 2)(f0_3:RZ σ (d6_ 8 ep_ eo_) (.slice a0_1 x0.arcs.length c0_2) x0.arcs)(f0_6:RZ σ (d6_ 1 eS_ el_) (.slice a0_4 x0.ends.length c0_5) x0.ends)(zf0_10:ZOk σ (d6_ 2 d2_ d0_) z0_9 x0.rows)(zf0_15:ZOk σ (d6_ 1 eI_ ei_) z0_14 x0.q.next)(zf0_19:ZOk σ (d6_ 1 eS_ el_) z0_18 x0.q.outs){r:Int⊕(Maker)}(hh:Fh_ x0 x1=some r):
  lg_ Tryz.prog 90 #[loc b0_0 0,.int .i64 x1] σ [Res.cells b0_0 #[.slice a0_1 x0.arcs.length c0_2,.slice a0_4 x0.ends.length c0_5,.int .i64 x0.most,.slice a0_7 x0.rows.length c0_8,.map (some b0_11),.string (bs x0.q.front),.slice a0_12 x0.q.next.length c0_13,.slice a0_16 x0.q.outs.length c0_17,.slice a0_20 x0.q.fin.length c0_21,.slice a0_22 x0.q.tail.length c0_23] Eb0,Res.rowS 22 1 (d6_ 2 d2_ d0_).en (.slice a0_7 x0.rows.length c0_8) z0_9,Res.mapB hi_ h5_ (some b0_11) x0.places,Res.rowS 86 1 (d6_ 1 eI_ ei_).en (.slice a0_12 x0.q.next.length c0_13) z0_14,Res.rowS 30 1 (d6_ 1 eS_ el_).en (.slice a0_16 x0.q.outs.length c0_17) z0_18,rs_ 4 et_ a0_20 c0_21 x0.q.fin,rs_ 9 eS_ a0_22 c0_23 x0.q.tail] 142 (fun r:Maker=>(fun v σ' H'=> ∃ao1 co2, ∃(zo3:List (List Tip×(d6_ 2 d2_ d0_).P)), ∃bo5 ao6 co7, ∃(zo8:List (N_1×(d6_ 1 eI_ ei_).P)), ∃ao10 co11, ∃(zo12:List (T_2×(d6_ 1 eS_ el_).P)), ∃ao14 co15 ao16 co17,v= .tuple #[]∧ZOk σ' (d6_ 2 d2_ d0_) zo3 r.rows∧ZOk σ' (d6_ 1 eI_ ei_) zo8 r.q.next∧ZOk σ' (d6_ 1 eS_ el_) zo12 r.q.outs∧H'=[Res.cells b0_0 #[.slice a0_1 x0.arcs.length c0_2,.slice a0_4 x0.ends.length c0_5,.int .i64 x0.most,.slice ao1 r.rows.length co2,.map (some bo5),.string (bs x0.q.front),.slice ao6 r.q.next.length co7,.slice ao10 r.q.outs.length co11,.slice ao14 r.q.fin.length co15,.slice ao16 r.q.tail.length co17] Eb0,Res.rowS 22 1 (d6_ 2 d2_ d0_).en (.slice ao1 r.rows.length co2) zo3,Res.mapB hi_ h5_ (some bo5) r.places,Res.rowS 86 1 (d6_ 1 eI_ ei_).en (.slice ao6 r.q.next.length co7) zo8,Res.rowS 30 1 (d6_ 1 eS_ el_).en (.slice ao10 r.q.outs.length co11) zo12,rs_ 4 et_ ao14 co15 r.q.fin,rs_ 9 eS_ ao16 co17 r.q.tail])) r:=by
 dsimp only [Fh_]at hh
 have f0_3b:=f0_3.big
 have f0_6b:=f0_6.big
 have zf0_10b:=zf0_10.length
 have zf0_15b:=zf0_15.length
 have zf0_19b:=zf0_19.length
 refine lg_.mk (n:=103) Tryz.func90 z z z (fun w0=> ?_)
 refine TC.c7_ (TC.a (TL.l z z (TL.w z (ag_ z z) (TL.w z (aa_ z qw_ z) (TL.w z (ab_ z ag72 z (i:=0) z z) (TL.i z z ?_))))))
 obtain ⟨u6,hh⟩:=d1_ hh
 refine TL.isSl (i:=1) z (fun hs116 _ _=> ?_)
 refine TL.w z (OpVal.index z underlying72 sz22 z z (zf0_10.isSl hs116) u6.1 u6.2) ?_
 obtain ⟨p117,hp117⟩: ∃p,p=(nth z0_9 x1.toNat ((d6_ 2 d2_ d0_).d,(d6_ 2 d2_ d0_).dp)).2:=⟨_,rfl⟩
 have hk117:RS σ 2 d2_ (.slice p117.1 (nth x0.rows x1.toNat []).length p117.2) (nth x0.rows x1.toNat []):=by rw [hp117];exact (zf0_10.at (by omega)).2
 refine TL.w z (OpVal.of (hp117▸dh_ zf0_10 z rz_ z (q:=1) z (by omega) z) (v':= .slice p117.1 ((nth x0.rows x1.toNat []).length) p117.2) z) (TL.s z z (TL.en (TC.a (TL.l z z (TL.s z z (TL.front 6 z z (TL.front 6 z z (TL.front 6 z z (TL.front 6 z z (TL.front 6 z z (TL.front 6 z z (TL.front 6 z z ?_))))))))))))
 obtain ⟨v11,u11,hh⟩:=d8_ hh
 rcases v11 with v11k|v11r
 ·dsimp only [j6_]at hh
  refine TL.bs_ z (lg_.l (Gu_ (x0:=x0) f0_3 f0_6 zf0_10 zf0_15 zf0_19 hk117 u11)) z z pf130 z z (fun τ118 hle118=> ?_)
  replace f0_3:=f0_3.mono hle118
  replace f0_6:=f0_6.mono hle118
  replace zf0_10:=zf0_10.mono hle118
  replace zf0_15:=zf0_15.mono hle118
  replace zf0_19:=zf0_19.mono hle118
  replace hgl:=hgl.mono hle118
  replace hk117:=hk117.mono hle118
  obtain rfl:=so hh
  exact ⟨_,Sub.pre 0 z,z⟩
 dsimp only [j6_]at hh
 refine TL.op z (bz_ (Gu_ (x0:=x0) f0_3 f0_6 zf0_10 zf0_15 zf0_19 hk117 u11) z z pf130 z z z z ?_)
 rintro _ _ _ hle119 ⟨rfl,rfl,rfl⟩
 refine TL.w z (a5_ (.inl z) z) (TL.w z (OpVal.extract z z z) (TL.w z (OpVal.extract z z z) (TL.j z z (TL.w z (ad_ (.inr z) z) (TL.en (TC.cutG (α:=(Unit)×((Option Addr)×Nat×(Option Addr)×Nat×dw_)) [7,8,24,25] (fun g=>[(7,.slice g.2.1 ((List.replicate 256 (0:Int)).length) g.2.2.1),(8,.slice g.2.2.2.1 ((List.replicate 256 ([]:T_1)).length) g.2.2.2.2.1)]) (fun g=>[Res.cells b0_0 #[.slice a0_1 x0.arcs.length c0_2,.slice a0_4 x0.ends.length c0_5,.int .i64 x0.most,.slice a0_7 x0.rows.length c0_8,.map (some b0_11),.string (bs x0.q.front),.slice a0_12 x0.q.next.length c0_13,.slice a0_16 x0.q.outs.length c0_17,.slice a0_20 x0.q.fin.length c0_21,.slice a0_22 x0.q.tail.length c0_23] Eb0,Res.rowS 22 1 (d6_ 2 d2_ d0_).en (.slice a0_7 x0.rows.length c0_8) z0_9,Res.mapB hi_ h5_ (some b0_11) x0.places,Res.rowS 86 1 (d6_ 1 eI_ ei_).en (.slice a0_12 x0.q.next.length c0_13) z0_14,Res.rowS 30 1 (d6_ 1 eS_ el_).en (.slice a0_16 x0.q.outs.length c0_17) z0_18,rs_ 4 et_ a0_20 c0_21 x0.q.fin,rs_ 9 eS_ a0_22 c0_23 x0.q.tail,Res.rowS 3 1 eI_ (.slice g.2.1 (List.replicate 256 (0:Int)).length g.2.2.1) (List.replicate 256 (0:Int)),Res.rowS 9 1 eS_ (.slice g.2.2.2.1 (List.replicate 256 ([]:T_1)).length g.2.2.2.2.1) (List.replicate 256 ([]:T_1))]) (fun g=>g.2.2.2.2.2) (fun g=>Ed_ x0 x1 v11r=some r∧ZOk g.2.2.2.2.2 (d6_ 2 d2_ d0_) z0_9 x0.rows∧ZOk g.2.2.2.2.2 (d6_ 1 eI_ ei_) z0_14 x0.q.next∧ZOk g.2.2.2.2.2 (d6_ 1 eS_ el_) z0_18 x0.q.outs∧dw_.le σ g.2.2.2.2.2) ?_ (fun g j hg=> ?_)))))))
 ·skip
  refine TC.draw [] (by kernel_rfl) (TA.actN [0,1] (by kernel_rfl) (an z z (a2_ (m:=256) (enc:=eI_) (0:Int) z underlying86 sz3 by3 ze3 z z z z (by omega) (by decide) ei_ (by decide) z h9_ (fun a135 c136=>(k1 ?_))) (an z z (a2_ (m:=256) (enc:=eS_) ([]:T_1) z underlying30 sz9 by9 ze9 z z z z (by omega) (by decide) el_ (by decide) z of_ (fun a138 c139=>(k1 ?_))) (True.intro))))
  ·skip
   refine TA.a 2 z (ak_ (.inr z) z) z (TA.ac 1 z (a2_ (m:=256) (enc:=eS_) ([]:T_1) z underlying30 sz9 by9 ze9 z z z z (by omega) (by decide) el_ (by decide) z of_ (fun a141 c142=>(k2 ?_))))
   exact TA.a 3 z (ak_ (.inr z) z) z (TA.dn (S.n (cf ((),(a135,c136,a141,c142,σ)) ⟨hh,zf0_10,zf0_15,zf0_19,(dw_.le.refl _)⟩ (Sub.f [1,8,8,8,8,8,8,8] 9))))
  skip
  refine TA.ac 0 z (a2_ (m:=256) (enc:=eI_) (0:Int) z underlying86 sz3 by3 ze3 z z z z (by omega) (by decide) ei_ (by decide) z h9_ (fun a144 c145=>(k2 ?_)))
  exact TA.a 2 z (ak_ (.inr z) z) z (TA.a 3 z (ak_ (.inr z) z) z (TA.dn (S.n (cf ((),(a144,c145,a138,c139,σ)) ⟨hh,zf0_10,zf0_15,zf0_19,(dw_.le.refl _)⟩ (Sub.f [1,1,8,8,8,8,8,8,8] 9)))))
 skip
 obtain ⟨_,⟨a124,c125,a127,c128,τ147⟩⟩:=g
 obtain ⟨hh,zf120,zf121,zf122,hle148⟩:=hg
 try dsimp only at zf120
 try dsimp only at zf121
 try dsimp only at zf122
 dsimp only at hle148
 replace f0_3:=f0_3.mono hle148
 replace f0_6:=f0_6.mono hle148
 replace hgl:=hgl.mono hle148
 replace hk117:=hk117.mono hle148
 try dsimp only
 dsimp only [Ed_]at hh
 have zf120b:=zf120.length
 have zf121b:=zf121.length
 have zf122b:=zf122.length
 refine TC.isSl (i:=1) z (fun _ hb149 _=> ?_)
 refine TC.isSl (i:=3) z (fun _ hb150 _=> ?_)
 refine TC.isSl (i:=4) z (fun _ hb151 _=> ?_)
 refine TC.isSl (i:=5) z (fun _ hb152 _=> ?_)
 refine TC.isSl (i:=6) z (fun _ hb153 _=> ?_)
 refine TC.isSl (i:=7) z (fun _ hb154 _=> ?_)
 refine TC.isSl (i:=8) z (fun _ hb155 _=> ?_)
 refine TC.seq (TC.a (TL.i z z (TL.en (TC.block (TC.as_ (α:=((List (List Tip))×(FM T_1 Int)×N_1×T_2×Nat)×((Option Addr)×Nat×(List (List Tip×(d6_ 2 d2_ d0_).P))×Nat×dw_)) (rgs [(9,2),(26,29)]) (fun g=>[(26,.int .i64 ((g.1.2.2.2.2:Nat):Int))]) (fun g=>[Res.cells b0_0 #[.slice a0_1 x0.arcs.length c0_2,.slice a0_4 x0.ends.length c0_5,.int .i64 x0.most,.slice g.2.1 g.1.1.length g.2.2.1,.map (some g.2.2.2.2.1),.string (bs x0.q.front),.slice a0_12 x0.q.next.length c0_13,.slice a0_16 x0.q.outs.length c0_17,.slice a0_20 x0.q.fin.length c0_21,.slice a0_22 x0.q.tail.length c0_23] Eb0,Res.rowS 22 1 (d6_ 2 d2_ d0_).en (.slice g.2.1 g.1.1.length g.2.2.1) g.2.2.2.1,Res.mapB hi_ h5_ (some g.2.2.2.2.1) g.1.2.1,Res.rowS 86 1 (d6_ 1 eI_ ei_).en (.slice a0_12 x0.q.next.length c0_13) z0_14,Res.rowS 30 1 (d6_ 1 eS_ el_).en (.slice a0_16 x0.q.outs.length c0_17) z0_18,rs_ 4 et_ a0_20 c0_21 x0.q.fin,rs_ 9 eS_ a0_22 c0_23 x0.q.tail,Res.rowS 3 1 eI_ (.slice a124 (List.replicate 256 (0:Int)).length c125) g.1.2.2.1,Res.rowS 9 1 eS_ (.slice a127 (List.replicate 256 ([]:T_1)).length c128) g.1.2.2.2.1]) (fun g=>g.2.2.2.2.2) (fun g=>ed_ (fun q:(List (List Tip))×(FM T_1 Int)×N_1×T_2×Nat=>Al_ x0 x1 v11r q.1 q.2.1 q.2.2.1 q.2.2.2.1 q.2.2.2.2) g.1=some r∧ZOk g.2.2.2.2.2 (d6_ 2 d2_ d0_) g.2.2.2.1 g.1.1∧ZOk g.2.2.2.2.2 (d6_ 1 eI_ ei_) z0_14 x0.q.next∧ZOk g.2.2.2.2.2 (d6_ 1 eS_ el_) z0_18 x0.q.outs∧g.1.2.2.1.length=(List.replicate 256 (0:Int)).length∧g.1.2.2.2.1.length=(List.replicate 256 ([]:T_1)).length∧dw_.le τ147 g.2.2.2.2.2) (fun g=>eg_ (fun q:(List (List Tip))×(FM T_1 Int)×N_1×T_2×Nat=>Al_ x0 x1 v11r q.1 q.2.1 q.2.2.1 q.2.2.2.1 q.2.2.2.2) g.1) ((x0.rows,x0.places,(List.replicate 256 (0:Int)),(List.replicate 256 ([]:T_1)),0),(a0_7,c0_8,z0_9,b0_11,τ147)) (Sub.f [8,8,8,8,8,8,8,8,8] 9) z (by repeat (first|exact trivial|refine ⟨z,?_⟩)) ⟨hh,zf120,zf121,zf122,z,z,(dw_.le.refl _)⟩ (fun g1 j1 hg1=> ?_))))))
 obtain ⟨⟨l192,m198,l202,l204,k206⟩,⟨a193,c194,z195,b199,τ207⟩⟩:=g1
 obtain ⟨hh,zf196,zf200,zf201,hn203,hn205,hle208⟩:=hg1
 try dsimp only at zf196
 try dsimp only at zf200
 try dsimp only at zf201
 try dsimp only at hn203
 try dsimp only at hn205
 dsimp only at hle208
 replace f0_3:=f0_3.mono hle208
 replace f0_6:=f0_6.mono hle208
 replace hgl:=hgl.mono hle208
 replace hk117:=hk117.mono hle208
 try dsimp only
 obtain ⟨z1,hh,hR1⟩:=ek_ hh
 dsimp only [Al_]at hh
 have zf196b:=zf196.length
 have zf200b:=zf200.length
 have zf201b:=zf201.length
 refine TC.isSl (i:=1) z (fun _ hb209 _=> ?_)
 refine TC.isSl (i:=3) z (fun _ hb210 _=> ?_)
 refine TC.isSl (i:=4) z (fun _ hb211 _=> ?_)
 refine TC.isSl (i:=5) z (fun _ hb212 _=> ?_)
 refine TC.isSl (i:=6) z (fun _ hb213 _=> ?_)
 refine TC.isSl (i:=7) z (fun _ hb214 _=> ?_)
 refine TC.isSl (i:=8) z (fun _ hb215 _=> ?_)
 refine TC.a (TL.w z (OpVal.lss z z z) (TL.en (TC.seq (TC.cD z hh (fun h216 hh=> ?_) (fun h216 hh=> ?_)))))
 ·refine TC.skip (S.n (TC.cutG (α:=((List (List Tip))×(FM T_1 Int)×N_1×T_2)×((Option Addr)×Nat×(List (List Tip×(d6_ 2 d2_ d0_).P))×Nat×dw_)) (rgs [(9,2),(28,26)]) (fun g=>[]) (fun g=>[Res.cells b0_0 #[.slice a0_1 x0.arcs.length c0_2,.slice a0_4 x0.ends.length c0_5,.int .i64 x0.most,.slice g.2.1 g.1.1.length g.2.2.1,.map (some g.2.2.2.2.1),.string (bs x0.q.front),.slice a0_12 x0.q.next.length c0_13,.slice a0_16 x0.q.outs.length c0_17,.slice a0_20 x0.q.fin.length c0_21,.slice a0_22 x0.q.tail.length c0_23] Eb0,Res.rowS 22 1 (d6_ 2 d2_ d0_).en (.slice g.2.1 g.1.1.length g.2.2.1) g.2.2.2.1,Res.mapB hi_ h5_ (some g.2.2.2.2.1) g.1.2.1,Res.rowS 86 1 (d6_ 1 eI_ ei_).en (.slice a0_12 x0.q.next.length c0_13) z0_14,Res.rowS 30 1 (d6_ 1 eS_ el_).en (.slice a0_16 x0.q.outs.length c0_17) z0_18,rs_ 4 et_ a0_20 c0_21 x0.q.fin,rs_ 9 eS_ a0_22 c0_23 x0.q.tail,Res.rowS 3 1 eI_ (.slice a124 (List.replicate 256 (0:Int)).length c125) g.1.2.2.1,Res.rowS 9 1 eS_ (.slice a127 (List.replicate 256 ([]:T_1)).length c128) g.1.2.2.2]) (fun g=>g.2.2.2.2.2) (fun g=>Ch_ k206 g.1.1 g.1.2.1 g.1.2.2.1 g.1.2.2.2=some z1∧ZOk g.2.2.2.2.2 (d6_ 2 d2_ d0_) g.2.2.2.1 g.1.1∧ZOk g.2.2.2.2.2 (d6_ 1 eI_ ei_) z0_14 x0.q.next∧ZOk g.2.2.2.2.2 (d6_ 1 eS_ el_) z0_18 x0.q.outs∧g.1.2.2.1.length=(List.replicate 256 (0:Int)).length∧g.1.2.2.2.length=(List.replicate 256 ([]:T_1)).length∧dw_.le τ207 g.2.2.2.2.2) ?_ (fun g j hg=> ?_)))
  ·skip
   refine TC.block (TC.a (TL.i z z (TL.i z z (TL.en (TC.a (TL.s z z (TL.i z z ?_)))))))
   obtain ⟨u27,hh⟩:=d1_ hh
   refine TL.isSl (i:=7) z (fun hs232 _ _=> ?_)
   refine TL.w z (af_ z underlying86 sz3 z z hs232 (by omega)) (TL.front 7 z z ?_)
   have hn233:(l202.set k206 (-1)).length=(List.replicate 256 (0:Int)).length:=by rw [ls_];exact hn203
   refine TL.op z (a0_ (-1) z sz3 z z z z ei_ h9_ (by omega) (by omega) ?_)
   refine TL.en (TC.a (TL.l z z (TL.s z z (TL.i z z (TL.w z (bu_ z underlying3 underlying5 z) (TL.front 7 z z (TL.front 7 z z (TL.front 7 z z (TL.front 7 z z (TL.front 7 z z (TL.front 7 z z (TL.front 7 z z ?_))))))))))))
   obtain ⟨v33,u33,hh⟩:=d8_ hh
   refine TL.op z (OpOk.call (Hk_ (x0:=(⟨x0.arcs,x0.ends,x0.most,l192,m198,x0.q⟩:Maker)) f0_3 f0_6 zf196 zf200 zf201 hk117 u33) z z pf131 z z z z ?_)
   rintro _ _ _ hle234 ⟨a234_1,c234_2,rfl,rfl,rfl⟩
   refine TL.s z z (TL.en (TC.a (TL.s z z (TL.w z (lenC z underlying22 z) (TL.w z (OpVal.gtr z z z) (TL.en (TC.cD z hh (fun h236 hh=> ?_) (fun h236 hh=> ?_))))))))
   ·refine TC.a (TL.s z z (TL.i z z (TL.s z z ?_)))
    obtain ⟨v41,u41,hh⟩:=d8_ hh
    rcases v41 with v41k|v41r
    ·dsimp only [j6_]at hh
     refine TL.bs_ z (lg_.l (Fz_ u41)) z z pf87 z z (fun τ237 hle237=> ?_)
     replace f0_3:=f0_3.mono hle237
     replace f0_6:=f0_6.mono hle237
     replace hgl:=hgl.mono hle237
     replace zf196:=zf196.mono hle237
     replace zf200:=zf200.mono hle237
     replace zf201:=zf201.mono hle237
     replace hh:=eh_ hR1 hh
     obtain rfl:=so hh
     exact ⟨_,Sub.pre 0 z,z⟩
    dsimp only [j6_]at hh
    refine TL.op z (bz_ (Fz_ u41) z z pf87 z z z z ?_)
    rintro _ τ238 _ hle238 ⟨a238_1,c238_2,rfl,hr238_3,rfl⟩
    replace f0_3:=f0_3.mono hle238
    replace f0_6:=f0_6.mono hle238
    replace hgl:=hgl.mono hle238
    replace zf196:=zf196.mono hle238
    replace zf200:=zf200.mono hle238
    replace zf201:=zf201.mono hle238
    have hr238_3b:=hr238_3.rv.big
    refine TL.w z (a5_ (.inl z) z) (TL.w z (OpVal.extract z z z) (TL.w z (OpVal.extract z z z) ?_))
    obtain ⟨u45,hh⟩:=d1_ hh
    refine TL.isSl (i:=8) z (fun hs239 _ _=> ?_)
    refine TL.w z (af_ z underlying30 sz9 z z hs239 (by omega)) (TL.front 8 z z ?_)
    have hn240:(l204.set k206 v41r.1).length=(List.replicate 256 ([]:T_1)).length:=by rw [ls_];exact hn205
    refine TL.op z (a0_ v41r.1 z sz9 z z z z el_ of_ (by omega) (by omega) ?_)
    refine TL.s z z (TL.en (TC.region (TL.s z z (TL.i z z (TL.l z z (TL.s z z (TL.front 7 z z (TL.front 7 z z (TL.front 7 z z (TL.front 7 z z (TL.front 7 z z (TL.front 7 z z (TL.front 7 z z ?_)))))))))))))
    obtain ⟨v52,u52,hh⟩:=d8_ hh
    rcases v52 with v52k|v52r
    ·dsimp only [j6_]at hh
     refine TL.bs_ z (lg_.l (D0_ (x0:=(⟨x0.arcs,x0.ends,x0.most,l192,m198,x0.q⟩:Maker)) hgl f0_3 f0_6 zf196 zf200 zf201 hr238_3 u52)) z z pf89 z z (fun τ241 hle241=> ?_)
     replace f0_3:=f0_3.mono hle241
     replace f0_6:=f0_6.mono hle241
     replace hgl:=hgl.mono hle241
     replace zf196:=zf196.mono hle241
     replace zf200:=zf200.mono hle241
     replace zf201:=zf201.mono hle241
     replace hr238_3:=hr238_3.mono hle241
     replace hh:=eh_ hR1 hh
     obtain rfl:=so hh
     exact ⟨_,Sub.pre 0 z,z⟩
    dsimp only [j6_]at hh
    refine TL.op z (bz_ (D0_ (x0:=(⟨x0.arcs,x0.ends,x0.most,l192,m198,x0.q⟩:Maker)) hgl f0_3 f0_6 zf196 zf200 zf201 hr238_3 u52) z z pf89 z z z z ?_)
    rintro _ τ242 _ hle242 ⟨a242_1,c242_2,z242_3,b242_5,rfl,zf242_4,rfl⟩
    replace zf196:=zf196.mono hle242
    replace zf200:=zf200.mono hle242
    replace zf201:=zf201.mono hle242
    have zf242_4b:=zf242_4.length
    obtain ⟨u53,hh⟩:=d1_ hh
    refine TL.isSl (i:=8) z (fun hs245 _ _=> ?_)
    refine TL.w z (af_ z underlying86 sz3 z z hs245 (by omega)) (TL.front 8 z z ?_)
    have hn246:((l202.set k206 (-1)).set k206 v52r.1).length=(List.replicate 256 (0:Int)).length:=by rw [ls_];exact hn233
    refine TL.op z (a0_ v52r.1 z sz3 z z z z ei_ h9_ (by omega) (by omega) ?_)
    exact TL.nil (B.n (S.n (cf ((v52r.2.rows,v52r.2.places,((l202.set k206 (-1)).set k206 v52r.1),(l204.set k206 v41r.1)),(a242_1,c242_2,z242_3,b242_5,τ242)) ⟨hh,zf242_4,zf200,zf201,hn246,hn240,(hle238.trans hle242)⟩ (Sub.f [8,1,8,8,8,8,8,8,8] 9))))
   exact TC.skip (B.n (S.n (cf ((l192,m198,(l202.set k206 (-1)),l204),(a193,c194,z195,b199,τ207)) ⟨hh,zf196,zf200,zf201,hn233,hn205,(dw_.le.refl _)⟩ (Sub.f [9,9,9,9,9,9,9,9,9] 9))))
  skip
  obtain ⟨⟨l218,m224,l228,l230⟩,⟨a219,c220,z221,b225,τ247⟩⟩:=g
  obtain ⟨hh,zf222,zf226,zf227,hn229,hn231,hle248⟩:=hg
  try dsimp only at zf222
  try dsimp only at zf226
  try dsimp only at zf227
  try dsimp only at hn229
  try dsimp only at hn231
  dsimp only at hle248
  replace zf196:=zf196.mono hle248
  replace zf200:=zf200.mono hle248
  replace zf201:=zf201.mono hle248
  try dsimp only
  dsimp only [Ch_]at hh
  have zf222b:=zf222.length
  have zf226b:=zf226.length
  have zf227b:=zf227.length
  refine TC.isSl (i:=1) z (fun _ hb249 _=> ?_)
  refine TC.isSl (i:=3) z (fun _ hb250 _=> ?_)
  refine TC.isSl (i:=4) z (fun _ hb251 _=> ?_)
  refine TC.isSl (i:=5) z (fun _ hb252 _=> ?_)
  refine TC.isSl (i:=6) z (fun _ hb253 _=> ?_)
  refine TC.isSl (i:=7) z (fun _ hb254 _=> ?_)
  refine TC.isSl (i:=8) z (fun _ hb255 _=> ?_)
  refine TC.region (TL.w z (OpVal.succ z z z (by omega)) (TL.i z z (TL.en ?_)))
  obtain ⟨hh,hlt256⟩:=ev_ hR1 hh
  exact lf ((l218,m224,l228,l230,(k206+1)),(a219,c220,z221,b225,τ247)) hlt256 ⟨hh,zf222,zf226,zf227,hn229,hn231,(hle208.trans hle248)⟩ (Sub.f [8,8,8,8,8,8,8,8,8] 9)
 refine TC.exit (S.x (S.x ?_))
 replace hh:=eh_ hR1 hh
 refine TC.ae_ (S.n (TC.a (TL.l z z (TL.l z z (TL.w z (ag_ z z) (TL.w z (aa_ z jj_ z) (TL.w z (aa_ z e0_ z) (TL.w z (ab_ z hn_ z (i:=0) z z) (TL.s z z ?_)))))))))
 rw [←hn203]
 refine TL.front 7 z z (TL.a4_ ei_ (fun τ261 hle260 hr259=> ?_))
 replace zf196:=zf196.mono hle260
 replace zf200:=zf200.mono hle260
 replace zf201:=zf201.mono hle260
 have hr259b:=hr259.rv.big
 have zf262:ZOk _ (d6_ 1 eI_ ei_) ([(l202,(a124,c125))]:List (N_1×(d6_ 1 eI_ ei_).P)) [l202]:=ZOk.cons (hr259) (ZOk.nil _ _)
 refine TL.op z (litZ zf262 z underlying27 fh_ z hg_ z z z (by decide) (by decide) z (by decide) z (by decide) (fun a257 c258=> ?_))
 refine TL.front 4 z z ?_
 obtain ⟨u65,hh⟩:=d1_ hh
 refine TL.op z (bf_ (k:=(d6_ 1 eI_ ei_)) zf200 zf262 z z underlying27 fh_ hx_ hg_ z z (by decide) z z z (.inr ⟨_,0,z⟩) (by simpa using u65) (by decide) (fun a264 c265 zf266=> ?_))
 refine TL.w z (ag_ z z) (TL.w z (aa_ z jj_ z) (TL.w z (aa_ z e0_ z) (TL.front 2 z z (TL.op z (ah_ z ga_ z z z z z ?_)))))
 refine TL.en (TC.a (TL.l z z (TL.l z z (TL.w z (ag_ z z) (TL.w z (aa_ z jj_ z) (TL.w z (aa_ z fb_ z) (TL.w z (ab_ z jr_ z (i:=0) z z) (TL.s z z ?_))))))))
 rw [←hn205]
 refine TL.front 8 z z (TL.a4_ el_ (fun τ271 hle270 hr269=> ?_))
 replace zf196:=zf196.mono hle270
 replace zf201:=zf201.mono hle270
 replace zf266:=zf266.mono hle270
 have hr269b:=hr269.rv.big
 have zf272:ZOk _ (d6_ 1 eS_ el_) ([(l204,(a127,c128))]:List (T_2×(d6_ 1 eS_ el_).P)) [l204]:=ZOk.cons (hr269) (ZOk.nil _ _)
 refine TL.op z (litZ zf272 z underlying28 iy_ z wg_ z z z (by decide) (by decide) z (by decide) z (by decide) (fun a267 c268=> ?_))
 refine TL.front 6 z z ?_
 obtain ⟨u78,hh⟩:=d1_ hh
 refine TL.op z (bf_ (k:=(d6_ 1 eS_ el_)) zf201 zf272 z z underlying28 iy_ zy_ wg_ z z (by decide) z z z (.inr ⟨_,0,z⟩) (by simpa using u78) (by decide) (fun a274 c275 zf276=> ?_))
 refine TL.w z (ag_ z z) (TL.w z (aa_ z jj_ z) (TL.w z (aa_ z fb_ z) (TL.front 2 z z (TL.op z (ah_ z zo_ z z z z z ?_)))))
 refine TL.en (TC.a (TL.l z z (TL.l z z (TL.w z (ag_ z z) (TL.w z (aa_ z jj_ z) (TL.w z (aa_ z f6_ z) (TL.w z (ab_ z mx_ z (i:=0) z z) (TL.j z z (TL.op z (OpOk.lit (enc:=et_) [v11r.1] z underlying29 sz4 ze4 z z z ef_ (by decide) (by decide) false z (by decide) z (by decide) fd_ (fun a277 c278=> ?_)))))))))))
 refine TL.front 8 z z ?_
 obtain ⟨u91,hh⟩:=d1_ hh
 refine TL.op z (ay_ z z underlying29 sz4 by4 ze4 z z (by decide) z z z (.inr ⟨_,0,z⟩) (by simpa using u91) (by decide) (fun a280 c281=> ?_))
 refine TL.w z (ag_ z z) (TL.w z (aa_ z jj_ z) (TL.w z (aa_ z f6_ z) (TL.front 2 z z (TL.op z (ah_ z sz29 z z z z z ?_)))))
 refine TL.en (TC.region (TL.l z z (TL.l z z (TL.w z (ag_ z z) (TL.w z (aa_ z jj_ z) (TL.w z (aa_ z gd_ z) (TL.w z (ab_ z ix_ z (i:=0) z z) (TL.w z (ad_ (.inl z) z) (TL.op z (OpOk.lit (enc:=eS_) [v11r.2] z underlying30 sz9 ze9 z z z el_ (by decide) (by decide) ([]:T_1) z (by decide) z (by decide) of_ (fun a282 c283=> ?_)))))))))))
 refine TL.front 10 z z ?_
 obtain ⟨u104,hh⟩:=d1_ hh
 refine TL.op z (ay_ z z underlying30 sz9 by9 ze9 z z (by decide) z z z (.inr ⟨_,0,z⟩) (by simpa using u104) (by decide) (fun a285 c286=> ?_))
 refine TL.w z (ag_ z z) (TL.w z (aa_ z jj_ z) (TL.w z (aa_ z gd_ z) (TL.front 2 z z (TL.op z (ah_ z iy_ z z z z z ?_)))))
 refine TL.nil ?_
 obtain rfl:=so hh
 refine ⟨_,Sub.f [1,3,5,7,10,10,6] 7,?_⟩
 exact RetOk.mk' (rs:=[]) [Res.cells b0_0 #[.slice a0_1 x0.arcs.length c0_2,.slice a0_4 x0.ends.length c0_5,.int .i64 x0.most,.slice a193 l192.length c194,.map (some b199),.string (bs x0.q.front),.slice a264 ((x0.q.next++[l202]).length) c265,.slice a274 ((x0.q.outs++[l204]).length) c275,.slice a280 ((x0.q.fin++[v11r.1]).length) c281,.slice a285 ((x0.q.tail++[v11r.2]).length) c286] Eb0,Res.rowS 22 1 (d6_ 2 d2_ d0_).en (.slice a193 l192.length c194) z195,Res.mapB hi_ h5_ (some b199) m198,Res.rowS 86 1 (d6_ 1 eI_ ei_).en (.slice a264 (x0.q.next++[l202]).length c265) (z0_14++([(l202,(a124,c125))]:List (N_1×(d6_ 1 eI_ ei_).P))),Res.rowS 30 1 (d6_ 1 eS_ el_).en (.slice a274 (x0.q.outs++[l204]).length c275) (z0_18++([(l204,(a127,c128))]:List (T_2×(d6_ 1 eS_ el_).P))),rs_ 4 et_ a280 c281 (x0.q.fin++[v11r.1]),rs_ 9 eS_ a285 c286 (x0.q.tail++[v11r.2])] z (.inr z) RVs.nil (List.sublist_append_left _ _) ⟨a193,c194,z195,b199,a264,c265,(z0_14++([(l202,(a124,c125))]:List (N_1×(d6_ 1 eI_ ei_).P))),a274,c275,(z0_18++([(l204,(a127,c128))]:List (T_2×(d6_ 1 eS_ el_).P))),a280,c281,a285,c286,z,zf196,zf266,zf276,z⟩
def G9_(x0:Seq)(x1:Int):Option (Unit):=
 some ()
theorem Hp_{σ:dw_}{x0:Seq}{x1:Int}(f0_3:RZ σ (d6_ 1 eI_ ei_) (.slice a0_1 x0.next.length c0_2) x0.next)(f0_6:RZ σ (d6_ 1 eS_ el_) (.slice a0_4 x0.outs.length c0_5) x0.outs)(f0_9:rS_ σ et_ a0_7 c0_8 x0.fin)(f0_12:rS_ σ eS_ a0_10 c0_11 x0.tail){r:Unit}(hh:G9_ x0 x1=some r):
  zt_ Tryz.prog 86 #[loc b0_0 0,loc b1_0 0] σ [Res.cells b0_0 (aq_ x0 a0_1 c0_2 a0_4 c0_5 a0_7 c0_8 a0_10 c0_11) Eb0,Res.cells b1_0 #[.int .i64 x1] Eb1] (fun v σ' H'=>v= .tuple #[]∧σ=σ'∧H'=[Res.cells b0_0 (aq_ x0 a0_1 c0_2 a0_4 c0_5 a0_7 c0_8 a0_10 c0_11) Eb0,Res.cells b1_0 #[.int .i64 x1] Eb1]):=by
 dsimp only [G9_]at hh
 have f0_3b:=f0_3.big
 have f0_6b:=f0_6.big
 have f0_9b:=f0_9.rv.big
 have f0_12b:=f0_12.rv.big
 refine zt_.rec (n:=13) Tryz.func86 z z z z z z z (fun w0=> ?_)
 refine TL.w z (dm_ z underlying142 (ff_ sh_) z) (TL.w z (a5_ (.inl z) z) (TL.w z (OpVal.extract z z z) (TL.w z (OpVal.extract z z z) (TL.op z (OpOk.alloc z sh_ z z (fun b107=> ?_))))))
 refine TL.op z (storeAll z sz142 z z z z z z ?_)
 refine TL.j z z (TL.en (TC.a (TL.j z z (TL.en (TC.f z (TC.skip ?_))))))
 obtain rfl:=so hh
 refine ⟨_,Sub.f [2,2] 2,?_⟩
 exact RetOk.mk' (rs:=[]) [Res.cells b0_0 (aq_ x0 a0_1 c0_2 a0_4 c0_5 a0_7 c0_8 a0_10 c0_11) Eb0,Res.cells b1_0 #[.int .i64 x1] Eb1] z (.inr z) RVs.nil (List.sublist_append_left _ _) ⟨z,z,z⟩
def F5_(k:Int):Option (Seq×Int):=
 some ((⟨([]:T_1),([]:N_2),([]:T_3),([]:B_1),([]:T_2)⟩:Seq),k)
theorem Gy_{σ:dw_}{x1g:Int}{k:Int}{r:Seq×Int}(hh:F5_ k=some r):
  zz_ Tryz.prog 86 #[loc b0_0 0,loc b1_0 0] (fltV 142 k) σ [Res.cells b0_0 #[.string (bs ([]:T_1)),nl_,nl_,nl_,nl_] Eb0,Res.cells b1_0 #[.int .i64 x1g] Eb1] (fun v σ' H'=> ∃ao1 co2 ao4 co5 ao7 co8 ao10 co11,v= .tuple #[]∧RZ σ' (d6_ 1 eI_ ei_) (.slice ao1 r.1.next.length co2) r.1.next∧RZ σ' (d6_ 1 eS_ el_) (.slice ao4 r.1.outs.length co5) r.1.outs∧rS_ σ' et_ ao7 co8 r.1.fin∧rS_ σ' eS_ ao10 co11 r.1.tail∧H'=[Res.cells b0_0 (aq_ r.1 ao1 co2 ao4 co5 ao7 co8 ao10 co11) Eb0,Res.cells b1_0 #[.int .i64 r.2] Eb1]):=by
 dsimp only [F5_]at hh
 refine zz_.rec (n:=13) Tryz.func86 z z z z z z z (fun w0=> ?_)
 refine TL.w z (dg_ z underlying142 z) (TL.w z (a5_ (.inl z) z) (TL.w z (OpVal.extract z z z) (TL.w z (OpVal.extract z z z) (TL.op z (OpOk.alloc z sh_ z z (fun b107=> ?_))))))
 refine TL.op z (storeAll z sz142 z z z z z z ?_)
 refine TL.j z z (TL.en (TC.a (TL.j z z (TL.en (TC.t z (TC.bt_ (Hr:=[Res.cells b107 #[.int .i64 k] 142,Res.cells b0_0 #[.string (bs ([]:T_1)),nl_,nl_,nl_,nl_] Eb0]) (fun r hr=>em_ [0,1] z hr) [] (by kernel_rfl) (TA.a 0 z (aw_ z ql_ jg_ z) z (TA.a 1 z (aa_ z fo142_0 z) z (TA.b 2 z (ab_ z ag33 z (i:=0) z z) z (TA.front 1 z z (TA.ac 3 z (storeAll z fi_ z z z z z z ⟨(fun w h=>ey_ (dw_.le.refl _) (fun r hr=>em_ [1,0] z hr) w h),?_⟩))))))))))))
 refine TA.front 2 z z (TA.ac 4 z (b8_ z sz33 z z z z z ⟨(fun w h=>ey_ (dw_.le.refl _) (fun r hr=>em_ [2,1] z hr) w h),?_⟩))
 refine TA.dn ?_
 obtain rfl:=so hh
 refine ⟨_,Sub.f [1] 2,?_⟩
 exact RetOk.mk' (rs:=[]) [Res.cells b0_0 #[.string (bs ([]:T_1)),nl_,nl_,nl_,nl_] Eb0,Res.cells b1_0 #[.int .i64 k] Eb1] z (.inr z) RVs.nil (List.sublist_append_left _ _) ⟨none,0,none,0,none,0,none,0,z,(RZ.nilF _ (d6_ 1 eI_ ei_)),(RZ.nilF _ (d6_ 1 eS_ el_)),(RS.nilF _ et_ ef_),(RS.nilF _ eS_ el_),z⟩
def Ag_(x0:Maker)(v16r:T_1×(List Tip))(l201:List (List Tip))(m207:FM T_1 Int)(l210:N_2)(l216:T_3)(l222:B_1)(l226:T_2)(k229:Nat):Option (((List (List Tip))×(FM T_1 Int)×N_2×T_3×B_1×T_2×Nat)⊕(Seq×Int)):=
 d4_ (decide ((k229:Int)<((l201.length:Nat):Int))) (bnd (Fh_ (⟨x0.arcs,x0.ends,x0.most,l201,m207,(⟨v16r.1,l210,l216,l222,l226⟩:Seq)⟩:Maker) (k229:Int)) (fun v41=>j6_ v41 (fun v41k=>fin (bnd (F5_ v41k) (fun v70=>some (v70.1,v70.2)))) (fun v41r=>nxt (v41r.rows,v41r.places,v41r.q.next,v41r.q.outs,v41r.q.fin,v41r.q.tail,(k229+1))))) (fin (bnd (G9_ (⟨v16r.1,l210,l216,l222,l226⟩:Seq) 0) (fun v71=>some ((⟨v16r.1,l210,l216,l222,l226⟩:Seq),0))))
def E2_(x0:Maker)(x1:Fst):Option (Seq×Int):=
 d4_ (decide (((x1.starts.length:Nat):Int)=0)) (bnd (G9_ (⟨([]:T_1),([]:N_2),([]:T_3),([]:B_1),([]:T_2)⟩:Seq) 0) (fun v51=>some ((⟨([]:T_1),([]:N_2),([]:T_3),([]:B_1),([]:T_2)⟩:Seq),0))) (grd (x1.starts.length * 24≤140737488355328) (bnd (F3_ x1.starts) (fun v16=>j6_ v16 (fun v16k=>bnd (F5_ v16k) (fun v52=>some (v52.1,v52.2))) (fun v16r=>bnd (Af_ (⟨x0.arcs,x0.ends,x0.most,x0.rows,x0.places,(⟨v16r.1,x0.q.next,x0.q.outs,x0.q.fin,x0.q.tail⟩:Seq)⟩:Maker) v16r.2) (fun v30=>j6_ v30 (fun v30k=>bnd (F5_ v30k) (fun v53=>some (v53.1,v53.2))) (fun v30r=>ed_ (fun q:(List (List Tip))×(FM T_1 Int)×N_2×T_3×B_1×T_2×Nat=>Ag_ x0 v16r q.1 q.2.1 q.2.2.1 q.2.2.2.1 q.2.2.2.2.1 q.2.2.2.2.2.1 q.2.2.2.2.2.2) (v30r.2.rows,v30r.2.places,x0.q.next,x0.q.outs,x0.q.fin,x0.q.tail,0)))))))
theorem H5_{σ:dw_}{x0:Maker}{z0_9:List (List Tip×(d6_ 2 d2_ d0_).P)}{z0_14:List (N_1×(d6_ 1 eI_ ei_).P)}{z0_18:List (T_2×(d6_ 1 eS_ el_).P)}{x1:Fst}(hgl:GT2 σ 1 2)(f0_3:RZ σ (d6_ 8 ep_ eo_) (.slice a0_1 x0.arcs.length c0_2) x0.arcs)(f0_6:RZ σ (d6_ 1 eS_ el_) (.slice a0_4 x0.ends.length c0_5) x0.ends)(zf0_10:ZOk σ (d6_ 2 d2_ d0_) z0_9 x0.rows)(zf0_15:ZOk σ (d6_ 1 eI_ ei_) z0_14 x0.q.next)(zf0_19:ZOk σ (d6_ 1 eS_ el_) z0_18 x0.q.outs)(f1_0:RS σ 2 d2_ (.slice a1_0 x1.starts.length c1_0) x1.starts)(f1_1:RS σ 2 d2_ (.slice a1_1 x1.ends.length c1_1) x1.ends)(f1_2:RS σ 8 ep_ (.slice a1_2 x1.arcs.length c1_2) x1.arcs){r:Seq×Int}(hh:E2_ x0 x1=some r):
  Con Tryz.prog 45 #[loc b0_0 0,.agg (au_ x1 a1_0 c1_0 a1_1 c1_1 a1_2 c1_2)] σ [Res.cells b0_0 #[.slice a0_1 x0.arcs.length c0_2,.slice a0_4 x0.ends.length c0_5,.int .i64 x0.most,.slice a0_7 x0.rows.length c0_8,.map (some b0_11),.string (bs x0.q.front),.slice a0_12 x0.q.next.length c0_13,.slice a0_16 x0.q.outs.length c0_17,.slice a0_20 x0.q.fin.length c0_21,.slice a0_22 x0.q.tail.length c0_23] Eb0,Res.rowS 22 1 (d6_ 2 d2_ d0_).en (.slice a0_7 x0.rows.length c0_8) z0_9,Res.mapB hi_ h5_ (some b0_11) x0.places,Res.rowS 86 1 (d6_ 1 eI_ ei_).en (.slice a0_12 x0.q.next.length c0_13) z0_14,Res.rowS 30 1 (d6_ 1 eS_ el_).en (.slice a0_16 x0.q.outs.length c0_17) z0_18,rs_ 4 et_ a0_20 c0_21 x0.q.fin,rs_ 9 eS_ a0_22 c0_23 x0.q.tail] (fun v σ' H'=> ∃a1 c1 a2 c2 a3 c3 a4 c4,v= .tuple #[.agg (aq_ r.1 a1 c1 a2 c2 a3 c3 a4 c4),.int .i64 r.2]∧RZ σ' (d6_ 1 eI_ ei_) (.slice a1 r.1.next.length c1) r.1.next∧RZ σ' (d6_ 1 eS_ el_) (.slice a2 r.1.outs.length c2) r.1.outs∧rS_ σ' et_ a3 c3 r.1.fin∧rS_ σ' eS_ a4 c4 r.1.tail∧H'=[]):=by
 dsimp only [E2_]at hh
 have f0_3b:=f0_3.big
 have f0_6b:=f0_6.big
 have zf0_10b:=zf0_10.length
 have zf0_15b:=zf0_15.length
 have zf0_19b:=zf0_19.length
 have f1_0b:=f1_0.rv.big
 have f1_1b:=f1_1.rv.big
 have f1_2b:=f1_2.rv.big
 refine Con.mkD (n:=46) Tryz.func45 z z z (fun w0=> ?_)
 refine TB.seq uh_ (TC.region (TL.op z (boxA z z z z (fun b110=> ?_))))
 refine TL.op z (OpOk.alloc z jg_ z z (fun b112=> ?_))
 refine TL.op z (OpOk.alloc z ze33 z z (fun b114=> ?_))
 refine TL.en (TB.seqD (TLB.v z (cc_ z) z z (TLB.dfr (dargs:=[]) z z z z z (fun a_ w_ hw_ ha_=> ?_))))
 refine TB.fin (Q:=dfrX _ _ _ _ 86 [loc b112 0,loc b114 0]) (wy_ (cap:=[loc b112 0,loc b114 0]) (dargs:=[]) pf86) ?_ w_ a_ hw_ ha_
 clear hw_ ha_ a_ w_
 refine TC.seq (TC.a (TL.w z (aa_ z iz_ z) (TL.w z (ab_ z rz_ z (i:=2) z z) (TL.w z (lenC z underlying22 z) (TL.w z (OpVal.eql z z z) (TL.en (TC.cD z hh (fun h116 hh=> ?_) (fun h116 hh=> ?_))))))))
 ·refine TC.a (TL.w z (aw_ z ql_ jg_ z) (TL.front 1 z z (TL.op z (storeAll z fi_ z z z z z z ?_))))
  refine TL.front 1 z z (TL.op z (b8_ z sz33 z z z z z ?_))
  refine TL.en (TC.front 1 z z ?_)
  obtain ⟨v51,u51,hh⟩:=d8_ hh
  refine TC.ret (S.r (.inl ⟨.inl z,_,Sub.pre 2 z,(Hp_ (RZ.nilF _ (d6_ 1 eI_ ei_)) (RZ.nilF _ (d6_ 1 eS_ el_)) (RS.nilF _ et_ ef_) (RS.nilF _ eS_ el_) u51).mono ?_⟩))
  rintro _ _ _ hle117 ⟨rfl,rfl,rfl⟩
  obtain rfl:=so hh
  exact RetOk.mk' (rs:=[.cell 4 32,.cell 5 33]) [] z (.inl z) (RVs.agg gu_ fi_ z (i:=0) z z (RVs.one ag33 z (i:=1) z z RVs.nil)) (List.nil_sublist _) ⟨none,0,none,0,none,0,none,0,z,(RZ.nilF _ (d6_ 1 eI_ ei_)),(RZ.nilF _ (d6_ 1 eS_ el_)),(RS.nilF _ et_ ef_),(RS.nilF _ eS_ el_),z⟩
 refine TC.skip (S.n (TC.a (TL.w z (aa_ z iz_ z) (TL.w z (ab_ z rz_ z (i:=2) z z) ?_))))
 obtain ⟨u15,hh⟩:=d1_ hh
 refine TL.op z (OpOk.call (Ig_ f1_0 u15) z z pf88 z z z z ?_)
 rintro _ _ _ _ ⟨⟨a118,c119,rfl⟩,rfl,rfl⟩
 obtain ⟨v16,u16,hh⟩:=d8_ hh
 rcases v16 with v16k|v16r
 ·dsimp only [j6_]at hh
  refine TL.bs_ z (lg_.l (Fz_ u16)) z z pf87 z z (fun τ121 hle121=> ?_)
  replace f0_3:=f0_3.mono hle121
  replace f0_6:=f0_6.mono hle121
  replace zf0_10:=zf0_10.mono hle121
  replace zf0_15:=zf0_15.mono hle121
  replace zf0_19:=zf0_19.mono hle121
  replace hgl:=hgl.mono hle121
  obtain ⟨v52,u52,hh⟩:=d8_ hh
  refine .inr ⟨_,z,_,Sub.f [1] 2,(Gy_ u52).mono ?_⟩
  rintro _ τ122 _ hle122 ⟨a122_1,c122_2,a122_4,c122_5,a122_7,c122_8,a122_10,c122_11,rfl,f122_3,f122_6,f122_9,f122_12,rfl⟩
  replace f0_3:=f0_3.mono hle122
  replace f0_6:=f0_6.mono hle122
  replace zf0_10:=zf0_10.mono hle122
  replace zf0_15:=zf0_15.mono hle122
  replace zf0_19:=zf0_19.mono hle122
  replace hgl:=hgl.mono hle122
  have f122_3b:=f122_3.big
  have f122_6b:=f122_6.big
  have f122_9b:=f122_9.rv.big
  have f122_12b:=f122_12.rv.big
  obtain rfl:=so hh
  exact RetOk.mk' (rs:=[.cell 4 32,.cell 5 33]) [] z (.inl z) (RVs.agg gu_ fi_ z (i:=0) z z (RVs.one ag33 z (i:=1) z z RVs.nil)) (List.nil_sublist _) ⟨a122_1,c122_2,a122_4,c122_5,a122_7,c122_8,a122_10,c122_11,z,f122_3,f122_6,f122_9,f122_12,z⟩
 dsimp only [j6_]at hh
 refine TL.op z (bz_ (Fz_ u16) z z pf87 z z z z ?_)
 rintro _ τ127 _ hle127 ⟨a127_1,c127_2,rfl,hr127_3,rfl⟩
 replace f0_3:=f0_3.mono hle127
 replace f0_6:=f0_6.mono hle127
 replace zf0_10:=zf0_10.mono hle127
 replace zf0_15:=zf0_15.mono hle127
 replace zf0_19:=zf0_19.mono hle127
 replace hgl:=hgl.mono hle127
 have hr127_3b:=hr127_3.rv.big
 refine TL.w z (a5_ (.inl z) z) (TL.w z (OpVal.extract z z z) (TL.w z (OpVal.extract z z z) (TL.w z (ad_ (.inr z) z) (TL.s z z (TL.en (TC.a (TL.l z z (TL.w z (ad_ (.inl z) z) (TL.w z (ag_ z z) (TL.w z (aa_ z jj_ z) (TL.w z (aa_ z g5_ z) (TL.front 3 z z (TL.op z (cf_ z sz9 z z z z z ?_))))))))))))))
 refine TL.en (TC.a (TL.l z z (TL.s z z (TL.front 9 z z (TL.front 9 z z (TL.front 9 z z (TL.front 9 z z (TL.front 9 z z (TL.front 9 z z (TL.front 6 z z ?_))))))))))
 obtain ⟨v30,u30,hh⟩:=d8_ hh
 rcases v30 with v30k|v30r
 ·dsimp only [j6_]at hh
  refine TL.bs_ z (lg_.l (D0_ (x0:=(⟨x0.arcs,x0.ends,x0.most,x0.rows,x0.places,(⟨v16r.1,x0.q.next,x0.q.outs,x0.q.fin,x0.q.tail⟩:Seq)⟩:Maker)) hgl f0_3 f0_6 zf0_10 zf0_15 zf0_19 hr127_3 u30)) z z pf89 z z (fun τ128 hle128=> ?_)
  replace f0_3:=f0_3.mono hle128
  replace f0_6:=f0_6.mono hle128
  replace zf0_10:=zf0_10.mono hle128
  replace zf0_15:=zf0_15.mono hle128
  replace zf0_19:=zf0_19.mono hle128
  replace hgl:=hgl.mono hle128
  replace hr127_3:=hr127_3.mono hle128
  obtain ⟨v53,u53,hh⟩:=d8_ hh
  refine .inr ⟨_,z,_,Sub.f [1] 2,(Gy_ u53).mono ?_⟩
  rintro _ τ129 _ hle129 ⟨a129_1,c129_2,a129_4,c129_5,a129_7,c129_8,a129_10,c129_11,rfl,f129_3,f129_6,f129_9,f129_12,rfl⟩
  replace f0_3:=f0_3.mono hle129
  replace f0_6:=f0_6.mono hle129
  replace zf0_10:=zf0_10.mono hle129
  replace zf0_15:=zf0_15.mono hle129
  replace zf0_19:=zf0_19.mono hle129
  replace hgl:=hgl.mono hle129
  replace hr127_3:=hr127_3.mono hle129
  have f129_3b:=f129_3.big
  have f129_6b:=f129_6.big
  have f129_9b:=f129_9.rv.big
  have f129_12b:=f129_12.rv.big
  obtain rfl:=so hh
  exact RetOk.mk' (rs:=[.cell 4 32,.cell 5 33]) [] z (.inl z) (RVs.agg gu_ fi_ z (i:=0) z z (RVs.one ag33 z (i:=1) z z RVs.nil)) (List.nil_sublist _) ⟨a129_1,c129_2,a129_4,c129_5,a129_7,c129_8,a129_10,c129_11,z,f129_3,f129_6,f129_9,f129_12,z⟩
 dsimp only [j6_]at hh
 refine TL.op z (bz_ (D0_ (x0:=(⟨x0.arcs,x0.ends,x0.most,x0.rows,x0.places,(⟨v16r.1,x0.q.next,x0.q.outs,x0.q.fin,x0.q.tail⟩:Seq)⟩:Maker)) hgl f0_3 f0_6 zf0_10 zf0_15 zf0_19 hr127_3 u30) z z pf89 z z z z ?_)
 rintro _ τ134 _ hle134 ⟨a134_1,c134_2,z134_3,b134_5,rfl,zf134_4,rfl⟩
 replace f0_3:=f0_3.mono hle134
 replace f0_6:=f0_6.mono hle134
 replace zf0_15:=zf0_15.mono hle134
 replace zf0_19:=zf0_19.mono hle134
 replace hgl:=hgl.mono hle134
 have zf134_4b:=zf134_4.length
 refine TL.en (TC.seq (TC.a (TL.i z z (TL.en (TC.block (TC.as_ (α:=((List (List Tip))×(FM T_1 Int)×N_2×T_3×B_1×T_2×Nat)×((Option Addr)×Nat×(List (List Tip×(d6_ 2 d2_ d0_).P))×Nat×(Option Addr)×Nat×(List (N_1×(d6_ 1 eI_ ei_).P))×(Option Addr)×Nat×(List (T_2×(d6_ 1 eS_ el_).P))×(Option Addr)×Nat×(Option Addr)×Nat×dw_)) (rgs [(8,1),(30,12)]) (fun g=>[(8,.int .i64 ((g.1.2.2.2.2.2.2:Nat):Int))]) (fun g=>[Res.cells b0_0 #[.slice a0_1 x0.arcs.length c0_2,.slice a0_4 x0.ends.length c0_5,.int .i64 x0.most,.slice g.2.1 g.1.1.length g.2.2.1,.map (some g.2.2.2.2.1),.string (bs v16r.1),.slice g.2.2.2.2.2.1 g.1.2.2.1.length g.2.2.2.2.2.2.1,.slice g.2.2.2.2.2.2.2.2.1 g.1.2.2.2.1.length g.2.2.2.2.2.2.2.2.2.1,.slice g.2.2.2.2.2.2.2.2.2.2.2.1 g.1.2.2.2.2.1.length g.2.2.2.2.2.2.2.2.2.2.2.2.1,.slice g.2.2.2.2.2.2.2.2.2.2.2.2.2.1 g.1.2.2.2.2.2.1.length g.2.2.2.2.2.2.2.2.2.2.2.2.2.2.1] Eb0,Res.rowS 22 1 (d6_ 2 d2_ d0_).en (.slice g.2.1 g.1.1.length g.2.2.1) g.2.2.2.1,Res.mapB hi_ h5_ (some g.2.2.2.2.1) g.1.2.1,Res.rowS 86 1 (d6_ 1 eI_ ei_).en (.slice g.2.2.2.2.2.1 g.1.2.2.1.length g.2.2.2.2.2.2.1) g.2.2.2.2.2.2.2.1,Res.rowS 30 1 (d6_ 1 eS_ el_).en (.slice g.2.2.2.2.2.2.2.2.1 g.1.2.2.2.1.length g.2.2.2.2.2.2.2.2.2.1) g.2.2.2.2.2.2.2.2.2.2.1,Res.rowS 4 1 et_ (.slice g.2.2.2.2.2.2.2.2.2.2.2.1 g.1.2.2.2.2.1.length g.2.2.2.2.2.2.2.2.2.2.2.2.1) g.1.2.2.2.2.1,Res.rowS 9 1 eS_ (.slice g.2.2.2.2.2.2.2.2.2.2.2.2.2.1 g.1.2.2.2.2.2.1.length g.2.2.2.2.2.2.2.2.2.2.2.2.2.2.1) g.1.2.2.2.2.2.1,Res.cells b112 #[.string (bs ([]:T_1)),nl_,nl_,nl_,nl_] 32,Res.cells b114 #[.int .i64 0] 33]) (fun g=>g.2.2.2.2.2.2.2.2.2.2.2.2.2.2.2) (fun g=>ed_ (fun q:(List (List Tip))×(FM T_1 Int)×N_2×T_3×B_1×T_2×Nat=>Ag_ x0 v16r q.1 q.2.1 q.2.2.1 q.2.2.2.1 q.2.2.2.2.1 q.2.2.2.2.2.1 q.2.2.2.2.2.2) g.1=some r∧ZOk g.2.2.2.2.2.2.2.2.2.2.2.2.2.2.2 (d6_ 2 d2_ d0_) g.2.2.2.1 g.1.1∧ZOk g.2.2.2.2.2.2.2.2.2.2.2.2.2.2.2 (d6_ 1 eI_ ei_) g.2.2.2.2.2.2.2.1 g.1.2.2.1∧ZOk g.2.2.2.2.2.2.2.2.2.2.2.2.2.2.2 (d6_ 1 eS_ el_) g.2.2.2.2.2.2.2.2.2.2.1 g.1.2.2.2.1∧dw_.le τ134 g.2.2.2.2.2.2.2.2.2.2.2.2.2.2.2) (fun g=>eg_ (fun q:(List (List Tip))×(FM T_1 Int)×N_2×T_3×B_1×T_2×Nat=>Ag_ x0 v16r q.1 q.2.1 q.2.2.1 q.2.2.2.1 q.2.2.2.2.1 q.2.2.2.2.2.1 q.2.2.2.2.2.2) g.1) ((v30r.2.rows,v30r.2.places,x0.q.next,x0.q.outs,x0.q.fin,x0.q.tail,0),(a134_1,c134_2,z134_3,b134_5,a0_12,c0_13,z0_14,a0_16,c0_17,z0_18,a0_20,c0_21,a0_22,c0_23,τ134)) (Sub.f [7,8,8,8,8,8,8,8,8] 9) z (by repeat (first|exact trivial|refine ⟨z,?_⟩)) ⟨hh,zf134_4,zf0_15,zf0_19,(dw_.le.refl _)⟩ (fun g1 j1 hg1=> ?_)))))))
 obtain ⟨⟨l201,m207,l210,l216,l222,l226,k229⟩,⟨a202,c203,z204,b208,a211,c212,z213,a217,c218,z219,a223,c224,a227,c228,τ230⟩⟩:=g1
 obtain ⟨hh,zf205,zf214,zf220,hle231⟩:=hg1
 try dsimp only at zf205
 try dsimp only at zf214
 try dsimp only at zf220
 dsimp only at hle231
 replace f0_3:=f0_3.mono hle231
 replace f0_6:=f0_6.mono hle231
 replace hgl:=hgl.mono hle231
 try dsimp only
 obtain ⟨z1,hh,hR1⟩:=ek_ hh
 dsimp only [Ag_]at hh
 have zf205b:=zf205.length
 have zf214b:=zf214.length
 have zf220b:=zf220.length
 refine TC.isSl (i:=1) z (fun _ hb232 _=> ?_)
 refine TC.isSl (i:=3) z (fun _ hb233 _=> ?_)
 refine TC.isSl (i:=4) z (fun _ hb234 _=> ?_)
 refine TC.isSl (i:=5) z (fun _ hb235 _=> ?_)
 refine TC.isSl (i:=6) z (fun _ hb236 _=> ?_)
 refine TC.seq (TC.a (TL.i z z (TL.l z z (TL.w z (ag_ z z) (TL.w z (aa_ z qw_ z) (TL.w z (ab_ z ag72 z (i:=0) z z) (TL.w z (lenC z underlying72 z) (TL.w z (OpVal.lss z z z) (TL.en (TC.cD z hh (fun h237 hh=> ?_) (fun h237 hh=> ?_)))))))))))
 ·refine TC.skip (S.n (TC.seq (TC.block (TC.region (TL.l z z (TL.i z z (TL.front 6 z z (TL.front 6 z z (TL.front 6 z z (TL.front 6 z z (TL.front 6 z z (TL.front 6 z z (TL.front 6 z z ?_)))))))))))))
  obtain ⟨v41,u41,hh⟩:=d8_ hh
  rcases v41 with v41k|v41r
  ·dsimp only [j6_]at hh
   refine TL.bs_ z (lg_.l (G4_ (x0:=(⟨x0.arcs,x0.ends,x0.most,l201,m207,(⟨v16r.1,l210,l216,l222,l226⟩:Seq)⟩:Maker)) hgl f0_3 f0_6 zf205 zf214 zf220 u41)) z z pf90 z z (fun τ238 hle238=> ?_)
   replace f0_3:=f0_3.mono hle238
   replace f0_6:=f0_6.mono hle238
   replace hgl:=hgl.mono hle238
   replace zf205:=zf205.mono hle238
   replace zf214:=zf214.mono hle238
   replace zf220:=zf220.mono hle238
   replace hh:=eh_ hR1 hh
   obtain ⟨v70,u70,hh⟩:=d8_ hh
   refine .inr ⟨_,z,_,Sub.f [1,1] 2,(Gy_ u70).mono ?_⟩
   rintro _ τ239 _ hle239 ⟨a239_1,c239_2,a239_4,c239_5,a239_7,c239_8,a239_10,c239_11,rfl,f239_3,f239_6,f239_9,f239_12,rfl⟩
   replace f0_3:=f0_3.mono hle239
   replace f0_6:=f0_6.mono hle239
   replace hgl:=hgl.mono hle239
   replace zf205:=zf205.mono hle239
   replace zf214:=zf214.mono hle239
   replace zf220:=zf220.mono hle239
   have f239_3b:=f239_3.big
   have f239_6b:=f239_6.big
   have f239_9b:=f239_9.rv.big
   have f239_12b:=f239_12.rv.big
   obtain rfl:=so hh
   exact RetOk.mk' (rs:=[.cell 4 32,.cell 5 33]) [] z (.inl z) (RVs.agg gu_ fi_ z (i:=0) z z (RVs.one ag33 z (i:=1) z z RVs.nil)) (List.nil_sublist _) ⟨a239_1,c239_2,a239_4,c239_5,a239_7,c239_8,a239_10,c239_11,z,f239_3,f239_6,f239_9,f239_12,z⟩
  dsimp only [j6_]at hh
  refine TL.op z (bz_ (G4_ (x0:=(⟨x0.arcs,x0.ends,x0.most,l201,m207,(⟨v16r.1,l210,l216,l222,l226⟩:Seq)⟩:Maker)) hgl f0_3 f0_6 zf205 zf214 zf220 u41) z z pf90 z z z z ?_)
  rintro _ τ244 _ hle244 ⟨a244_1,c244_2,z244_3,b244_5,a244_6,c244_7,z244_8,a244_10,c244_11,z244_12,a244_14,c244_15,a244_16,c244_17,rfl,zf244_4,zf244_9,zf244_13,rfl⟩
  replace zf214:=zf214.mono hle244
  replace zf220:=zf220.mono hle244
  have zf244_4b:=zf244_4.length
  have zf244_9b:=zf244_9.length
  have zf244_13b:=zf244_13.length
  refine TL.nil (B.n (S.n (TC.region (TL.i z z (TL.w z (OpVal.succ z z z (by omega)) (TL.i z z (TL.en ?_)))))))
  obtain ⟨hh,hlt251⟩:=ev_ hR1 hh
  exact lf ((v41r.rows,v41r.places,v41r.q.next,v41r.q.outs,v41r.q.fin,v41r.q.tail,(k229+1)),(a244_1,c244_2,z244_3,b244_5,a244_6,c244_7,z244_8,a244_10,c244_11,z244_12,a244_14,c244_15,a244_16,c244_17,τ244)) hlt251 ⟨hh,zf244_4,zf244_9,zf244_13,(hle231.trans hle244)⟩ (Sub.f [8,8,8,8,8,8,8,8,8] 9)
 refine TC.exit (S.x (S.x ?_))
 replace hh:=eh_ hR1 hh
 refine TC.ae_ (S.n (TC.a (TL.l z z (TL.w z (ag_ z z) (TL.w z (aa_ z jj_ z) (TL.w z (bg_ z gu_ fi_ z (i:=0) z z z) (TL.front 7 z z (TL.op z (storeAll z fi_ z z z z z z ?_)))))))))
 refine TL.front 8 z z (TL.op z (b8_ z sz33 z z z z z ?_))
 refine TL.en (TC.front 5 z z (TC.b0_ zf214 (fun τ254 hle253 hr252=> ?_)))
 replace zf220:=zf220.mono hle253
 have hr252b:=hr252.big
 refine TC.front 5 z z (TC.b0_ zf220 (fun τ257 hle256 hr255=> ?_))
 replace hr252:=hr252.mono hle256
 have hr255b:=hr255.big
 refine TC.front 5 z z (TC.a4_ ef_ (fun τ260 hle259 hr258=> ?_))
 replace hr252:=hr252.mono hle259
 replace hr255:=hr255.mono hle259
 have hr258b:=hr258.rv.big
 refine TC.front 5 z z (TC.a4_ el_ (fun τ263 hle262 hr261=> ?_))
 replace hr252:=hr252.mono hle262
 replace hr255:=hr255.mono hle262
 replace hr258:=hr258.mono hle262
 have hr261b:=hr261.rv.big
 refine TC.front 1 z z ?_
 obtain ⟨v71,u71,hh⟩:=d8_ hh
 refine TC.ret (.inl ⟨.inl z,_,Sub.pre 2 z,(Hp_ hr252 hr255 hr258 hr261 u71).mono ?_⟩)
 rintro _ _ _ hle264 ⟨rfl,rfl,rfl⟩
 obtain rfl:=so hh
 exact RetOk.mk' (rs:=[.cell 4 32,.cell 5 33]) [] z (.inl z) (RVs.agg gu_ fi_ z (i:=0) z z (RVs.one ag33 z (i:=1) z z RVs.nil)) (List.nil_sublist _) ⟨a211,c212,a217,c218,a223,c224,a227,c228,z,hr252,hr255,hr258,hr261,z⟩
def G8_(l166:List (List Arc))(v19:Fst×Int)(k171:Nat):Option (((List (List Arc))×Nat)⊕(Seq×Int)):=
 nxt ((l166.set (((nth v19.1.arcs k171 az_).frm).toNat) ((nth l166 (((nth v19.1.arcs k171 az_).frm).toNat) [])++[(nth v19.1.arcs k171 az_)])),(k171+1))
def G5_(l235:T_3)(v19:Fst×Int)(k239:Nat):Option ((T_3×Nat)⊕(Seq×Int)):=
 nxt ((l235.set (((nth v19.1.ends k239 tz_).state).toNat) ((nth l235 (((nth v19.1.ends k239 tz_).state).toNat) [])++[(nth v19.1.ends k239 tz_).out])),(k239+1))
def C5_(v19:Fst×Int)(l166:List (List Arc))(x1:Int)(l235:T_3)(k239:Nat):Option ((T_3×Nat)⊕(Seq×Int)):=
 d4_ (decide ((k239:Int)<((v19.1.ends.length:Nat):Int))) (grd (0≤((nth v19.1.ends k239 tz_).state)∧((nth v19.1.ends k239 tz_).state)<(l235.length:Int)) (grd (((nth l235 (((nth v19.1.ends k239 tz_).state).toNat) []).length+[(nth v19.1.ends k239 tz_).out].length) * 16≤140737488355328) (grd (0≤((nth v19.1.ends k239 tz_).state)∧((nth v19.1.ends k239 tz_).state)<(l235.length:Int)) (G5_ l235 v19 k239)))) (fin (bnd (E2_ (⟨l166,l235,x1,([]:List (List Tip)),(FM.emp:FM T_1 Int),(⟨([]:T_1),([]:N_2),([]:T_3),([]:B_1),([]:T_2)⟩:Seq)⟩:Maker) v19.1) (fun v113=>some (v113.1,v113.2))))
def Ec_(v19:Fst×Int)(x1:Int)(l166:List (List Arc))(k171:Nat):Option (((List (List Arc))×Nat)⊕(Seq×Int)):=
 d4_ (decide ((k171:Int)<((v19.1.arcs.length:Nat):Int))) (grd (0≤((nth v19.1.arcs k171 az_).frm)∧((nth v19.1.arcs k171 az_).frm)<(l166.length:Int)) (grd (((nth l166 (((nth v19.1.arcs k171 az_).frm).toNat) []).length+[(nth v19.1.arcs k171 az_)].length) * 72≤140737488355328) (grd (0≤((nth v19.1.arcs k171 az_).frm)∧((nth v19.1.arcs k171 az_).frm)<(l166.length:Int)) (G8_ l166 v19 k171)))) (fin (ed_ (fun q:T_3×Nat=>C5_ v19 l166 x1 q.1 q.2) ((List.replicate v19.1.states.toNat ([]:T_2)),0)))
def F4_(v19:Fst×Int)(x1:Int):Option (Seq×Int):=
 ed_ (fun q:(List (List Arc))×Nat=>Ec_ v19 x1 q.1 q.2) ((List.replicate v19.1.states.toNat ([]:List Arc)),0)
def Hc_(x0:Fst)(x1:Int):Option (Seq×Int):=
 bnd (Fi_ x0) (fun v5=>d4_ (decide (v5≠0)) (some ((⟨([]:T_1),([]:N_2),([]:T_3),([]:B_1),([]:T_2)⟩:Seq),1)) (d4_ (decide (x1<1)) (some ((⟨([]:T_1),([]:N_2),([]:T_3),([]:B_1),([]:T_2)⟩:Seq),1)) (d4_ (decide (1024<x1)) (some ((⟨([]:T_1),([]:N_2),([]:T_3),([]:B_1),([]:T_2)⟩:Seq),1)) (bnd (Ga_ x0) (fun v19=>d4_ (decide (v19.2≠0)) (some ((⟨([]:T_1),([]:N_2),([]:T_3),([]:B_1),([]:T_2)⟩:Seq),v19.2)) (grd (0≤v19.1.states∧24 * v19.1.states.toNat≤281474976710656) (grd (0≤v19.1.states∧24 * v19.1.states.toNat≤281474976710656) (F4_ v19 x1))))))))
def Jl_(σ:dw_)(r:Seq×Int):Value→dw_→List Res→Prop:=fun v σ' H'=>
 ∃a1 c1 a2 c2 a3 c3 a4 c4,v= .tuple #[.agg (aq_ r.1 a1 c1 a2 c2 a3 c3 a4 c4),.int .i64 r.2]∧RZ σ' (d6_ 1 eI_ ei_) (.slice a1 r.1.next.length c1) r.1.next∧RZ σ' (d6_ 1 eS_ el_) (.slice a2 r.1.outs.length c2) r.1.outs∧rS_ σ' et_ a3 c3 r.1.fin∧rS_ σ' eS_ a4 c4 r.1.tail∧H'=[]
theorem Je_{σ:dw_}{x0:Fst}{x1:Int}(hgl:GT2 σ 1 2)(f0_0:RS σ 2 d2_ (.slice a0_0 x0.starts.length c0_0) x0.starts)(f0_1:RS σ 2 d2_ (.slice a0_1 x0.ends.length c0_1) x0.ends)(f0_2:RS σ 8 ep_ (.slice a0_2 x0.arcs.length c0_2) x0.arcs){r:Seq×Int}(hh:Hc_ x0 x1=some r):
  Con Tryz.prog 14 #[.agg (au_ x0 a0_0 c0_0 a0_1 c0_1 a0_2 c0_2),.int .i64 x1] σ [] (Jl_ σ r):=by
 dsimp only [Hc_]at hh
 have f0_0b:=f0_0.rv.big
 have f0_1b:=f0_1.rv.big
 have f0_2b:=f0_2.rv.big
 refine Con.mk (n:=107) Tryz.func14 z z z (fun w0=> ?_)
 refine TC.a (TL.op z (boxA z z z z (fun b101=> ?_)))
 refine TL.op z (OpOk.alloc z jg_ z z (fun b103=> ?_))
 refine TL.i z z (TL.en (TC.seq (TC.a (TL.w z (am_ z s6_ ol_ z (i:=1) z z) ?_))))
 obtain ⟨v5,u5,hh⟩:=d8_ hh
 refine TL.op z (av_ (Gv_ (x0:=x0) f0_0 f0_1 f0_2 u5) z z pf43 z z z ?_)
 refine TL.w z (OpVal.neq z z z) (TL.j z z (TL.split 15 z (fun h105=> ?_) (fun h105=> ?_)))
 ·replace hh:=ea_ h105 hh
  replace h105:=dt_ h105
  refine TL.f z (TL.f z (TL.w z (ai_ z z z) (TL.j z z (TL.f z (TL.f z (TL.w z (ai_ z z z) (TL.en (TC.t z (TC.a (TL.w z (aw_ z ql_ jg_ z) (TL.op z (storeAll z fi_ z z z z z z ?_))))))))))))
  refine TL.i z z (TL.en (TC.rt 1 (S.r ?_)))
  obtain rfl:=so hh
  exact ro [] z (RVs.agg gu_ fi_ z (i:=0) z z (RVs.tmp z RVs.nil)) ⟨none,0,none,0,none,0,none,0,z,(RZ.nilF _ (d6_ 1 eI_ ei_)),(RZ.nilF _ (d6_ 1 eS_ el_)),(RS.nilF _ et_ ef_),(RS.nilF _ eS_ el_),z⟩
 replace hh:=d9_ h105 hh
 replace h105:=df_ h105
 refine TL.g z (aj_ (.inl z) z) (TL.g z (OpVal.lss z z z) (TL.w z (ac_ z z z) (TL.j z z (TL.split 19 z (fun h106=> ?_) (fun h106=> ?_)))))
 ·replace hh:=ea_ h106 hh
  replace h106:=dt_ h106
  refine TL.f z (TL.f z (TL.w z (ai_ z z z) (TL.en (TC.t z (TC.a (TL.w z (aw_ z ql_ jg_ z) (TL.op z (storeAll z fi_ z z z z z z ?_))))))))
  refine TL.i z z (TL.en (TC.rt 1 (S.r ?_)))
  obtain rfl:=so hh
  exact ro [] z (RVs.agg gu_ fi_ z (i:=0) z z (RVs.tmp z RVs.nil)) ⟨none,0,none,0,none,0,none,0,z,(RZ.nilF _ (d6_ 1 eI_ ei_)),(RZ.nilF _ (d6_ 1 eS_ el_)),(RS.nilF _ et_ ef_),(RS.nilF _ eS_ el_),z⟩
 replace hh:=d9_ h106 hh
 replace h106:=df_ h106
 refine TL.g z (aj_ (.inl z) z) (TL.g z (OpVal.gtr z z z) (TL.w z (ac_ z z z) (TL.en (TC.cD z hh (fun h107 hh=> ?_) (fun h107 hh=> ?_)))))
 ·refine TC.a (TL.w z (aw_ z ql_ jg_ z) (TL.op z (storeAll z fi_ z z z z z z ?_)))
  refine TL.i z z (TL.en (TC.rt 1 (S.r ?_)))
  obtain rfl:=so hh
  exact ro [] z (RVs.agg gu_ fi_ z (i:=0) z z (RVs.tmp z RVs.nil)) ⟨none,0,none,0,none,0,none,0,z,(RZ.nilF _ (d6_ 1 eI_ ei_)),(RZ.nilF _ (d6_ 1 eS_ el_)),(RS.nilF _ et_ ef_),(RS.nilF _ eS_ el_),z⟩
 refine TC.skip (S.n (TC.a (TL.w z (am_ z s6_ ol_ z (i:=1) z z) ?_)))
 obtain ⟨v19,u19,hh⟩:=d8_ hh
 refine TL.op z (OpOk.call (Ip_ (x0:=x0) f0_0 f0_1 f0_2 u19) z z pf44 z z z z ?_)
 rintro _ τ108 _ hle108 ⟨a108_1,c108_1,a108_2,c108_2,a108_3,c108_3,rfl,hr108_0,hr108_1,hr108_2,rfl⟩
 replace hgl:=hgl.mono hle108
 have hr108_0b:=hr108_0.rv.big
 have hr108_1b:=hr108_1.rv.big
 have hr108_2b:=hr108_2.rv.big
 refine TL.w z (a5_ (.inl z) z) (TL.w z (OpVal.extract z z z) (TL.w z (OpVal.extract z z z) (TL.front 1 z z (TL.op z (storeAll z ol_ z z z z z z ?_)))))
 refine TL.i z z (TL.en (TC.seq (TC.a (TL.i z z (TL.w z (OpVal.neq z z z) (TL.en (TC.cD z hh (fun h109 hh=> ?_) (fun h109 hh=> ?_))))))))
 ·refine TC.a (TL.w z (aw_ z ql_ jg_ z) (TL.i z z (TL.front 1 z z (TL.op z (storeAll z fi_ z z z z z z ?_)))))
  refine TL.i z z (TL.en (TC.rt 1 (S.r ?_)))
  obtain rfl:=so hh
  exact ro [] z (RVs.agg gu_ fi_ z (i:=0) z z (RVs.tmp z RVs.nil)) ⟨none,0,none,0,none,0,none,0,z,(RZ.nilF _ (d6_ 1 eI_ ei_)),(RZ.nilF _ (d6_ 1 eS_ el_)),(RS.nilF _ et_ ef_),(RS.nilF _ eS_ el_),z⟩
 refine TC.skip (S.n (TC.a (TL.i z z (TL.op z (bo_ (enc:=hi_) (encV:=h5_) z z z (fun b110=> ?_))))))
 refine TL.w z (aw_ z pl74 ze74 z) (TL.op z (boxA z z z z (fun b112=> ?_)))
 refine TL.l z z (TL.en (TC.cutG (α:=(Unit)×((Option Addr)×Nat×(Option Addr)×Nat)) (rgs [(37,12)]) (fun g=>[]) (fun g=>[Res.cells b101 (au_ v19.1 a108_1 c108_1 a108_2 c108_2 a108_3 c108_3) 25,Res.cells b103 #[.string (bs ([]:T_1)),nl_,nl_,nl_,nl_] 32,Res.cells b112 #[.slice g.2.1 ((List.replicate v19.1.states.toNat ([]:List Arc)).length) g.2.2.1,.slice g.2.2.2.1 ((List.replicate v19.1.states.toNat ([]:T_2)).length) g.2.2.2.2,.int .i64 x1,nl_,.map (some b110),.string (bs ([]:T_1)),nl_,nl_,nl_,nl_] 74,Res.nest 23 66 8 ep_ (.slice g.2.1 (List.replicate v19.1.states.toNat ([]:List Arc)).length g.2.2.1) (List.replicate v19.1.states.toNat (iu_:NP Arc)),Res.nest 30 9 1 eS_ (.slice g.2.2.2.1 (List.replicate v19.1.states.toNat ([]:T_2)).length g.2.2.2.2) (List.replicate v19.1.states.toNat (iu_:NP T_1)),Res.mapB hi_ h5_ (some b110) (FM.emp:FM T_1 Int)]) (fun g=>τ108) (fun g=>F4_ v19 x1=some r∧Zn (List.replicate v19.1.states.toNat (iu_:NP Arc)) (List.replicate v19.1.states.toNat ([]:List Arc))∧Zn (List.replicate v19.1.states.toNat (iu_:NP T_1)) (List.replicate v19.1.states.toNat ([]:T_2))) ?_ (fun g j hg=> ?_)))
 ·skip
  obtain ⟨u40,hh⟩:=d1_ hh
  obtain ⟨u43,hh⟩:=d1_ hh
  refine TC.bt_ (Hr:=[Res.mapB hi_ h5_ (some b110) (FM.emp:FM T_1 Int),Res.cells b101 (au_ v19.1 a108_1 c108_1 a108_2 c108_2 a108_3 c108_3) 25,Res.cells b103 #[.string (bs ([]:T_1)),nl_,nl_,nl_,nl_] 32]) (fun r hr=>em_ [1,2,3] z hr) [] (by kernel_rfl) (TA.a 0 z (a6_ (.inl z) z) z (TA.a 1 z (a6_ (.inl z) z) z (TA.a 2 z (aa_ z gx_ z) z (TA.b 3 z (ab_ z ag3 z (i:=1) z z) z (TA.a 5 z (aa_ z gx_ z) z (TA.b 6 z (ab_ z ag3 z (i:=1) z z) z ?_))))))
  refine TA.actN [4,7] (by kernel_rfl) (an rfl rfl (a1_ (q:=v19.1.states.toNat) (E:=66) (size:=8) (enc:=ep_) rfl underlying71 xu_ by23 ze23 rfl rfl (vN u40.1) (vN u40.1) (by omega) (by decide) rfl (fun a130 c131 zf132=>(k2 ?_))) (an rfl rfl (a1_ (q:=v19.1.states.toNat) (E:=9) (size:=1) (enc:=eS_) rfl underlying28 iy_ zy_ wg_ rfl rfl (vN u43.1) (vN u43.1) (by omega) (by decide) rfl (fun a134 c135 zf136=>(k2 ?_))) (True.intro)))
  ·skip
   refine TA.a 8 z (ag_ z z) z (TA.a 9 z (aa_ z rv_ z) z ?_)
   refine TA.actN [7,10] (by kernel_rfl) (an rfl rfl (a1_ (q:=v19.1.states.toNat) (E:=9) (size:=1) (enc:=eS_) rfl underlying28 iy_ zy_ wg_ rfl rfl (vN u43.1) (vN u43.1) (by omega) (by decide) rfl (fun a138 c139 zf140=>(k3 ?_))) (an rfl rfl (OpOk.front 1 rfl rfl (ah_ rfl sz71 rfl rfl rfl rfl rfl (k2 ?_))) (True.intro)))
   ·skip
    refine TA.front 2 z z (TA.ac 10 z (ah_ z sz71 z z z z z (k3 ?_)))
    refine TA.a 11 z (ag_ z z) z (TA.a 12 z (aa_ z pp_ z) z (TA.ac 13 z (ah_ z zo_ z z z z z (k3 ?_))))
    exact TA.dn (S.n (cf ((),(a130,c131,a138,c139)) ⟨hh,zf132,zf140⟩ (Sub.f [3,2,3,3,5,5] 6)))
   skip
   refine TA.ac 7 rfl (a1_ (q:=v19.1.states.toNat) (E:=9) (size:=1) (enc:=eS_) rfl underlying28 iy_ zy_ wg_ rfl rfl (vN u43.1) (vN u43.1) (by omega) (by decide) rfl (fun a142 c143 zf144=>(k3 ?_)))
   refine TA.a 11 z (ag_ z z) z (TA.a 12 z (aa_ z pp_ z) z (TA.front 1 z z (TA.ac 13 z (ah_ z zo_ z z z z z (k3 ?_)))))
   exact TA.dn (S.n (cf ((),(a130,c131,a142,c143)) ⟨hh,zf132,zf144⟩ (Sub.f [3,2,3,3,5,5] 6)))
  skip
  refine TA.ac 4 rfl (a1_ (q:=v19.1.states.toNat) (E:=66) (size:=8) (enc:=ep_) rfl underlying71 xu_ by23 ze23 rfl rfl (vN u40.1) (vN u40.1) (by omega) (by decide) rfl (fun a146 c147 zf148=>(k3 ?_)))
  refine TA.a 8 z (ag_ z z) z (TA.a 9 z (aa_ z rv_ z) z (TA.front 2 z z (TA.ac 10 z (ah_ z sz71 z z z z z (k3 ?_)))))
  refine TA.a 11 z (ag_ z z) z (TA.a 12 z (aa_ z pp_ z) z (TA.ac 13 z (ah_ z zo_ z z z z z (k3 ?_))))
  exact TA.dn (S.n (cf ((),(a146,c147,a134,c135)) ⟨hh,zf148,zf136⟩ (Sub.f [3,3,3,3,5,5] 6)))
 skip
 obtain ⟨_,⟨a115,c116,a119,c120⟩⟩:=g
 obtain ⟨hh,zf117,zf121⟩:=hg
 try dsimp only at zf117 zf121 ⊢
 dsimp only [F4_]at hh
 have zf117b:=zf117.len
 have zf121b:=zf121.len
 refine TC.know (ec_ (q:=3) z zf117) (fun ⟨_,hb150⟩=> ?_)
 refine TC.know (ec_ (q:=4) z zf121) (fun ⟨_,hb151⟩=> ?_)
 refine TC.seq (TC.a (TL.w z (aa_ z i1_ z) (TL.w z (ab_ z u1_ z (i:=0) z z) (TL.w z (lenC z underlying23 z) (TL.i z z (TL.en (TC.block (TC.as_ (α:=((List (List Arc))×Nat)×((List (NP Arc)))) (rgs [(9,1),(52,23)]) (fun g=>[(52,.int .i64 ((g.1.2:Nat):Int))]) (fun g=>[Res.cells b101 (au_ v19.1 a108_1 c108_1 a108_2 c108_2 a108_3 c108_3) 25,Res.cells b103 #[.string (bs ([]:T_1)),nl_,nl_,nl_,nl_] 32,Res.cells b112 #[.slice a115 ((List.replicate v19.1.states.toNat ([]:List Arc)).length) c116,.slice a119 ((List.replicate v19.1.states.toNat ([]:T_2)).length) c120,.int .i64 x1,nl_,.map (some b110),.string (bs ([]:T_1)),nl_,nl_,nl_,nl_] 74,Res.nest 23 66 8 ep_ (.slice a115 (List.replicate v19.1.states.toNat ([]:List Arc)).length c116) g.2,Res.nest 30 9 1 eS_ (.slice a119 (List.replicate v19.1.states.toNat ([]:T_2)).length c120) (List.replicate v19.1.states.toNat (iu_:NP T_1)),Res.mapB hi_ h5_ (some b110) (FM.emp:FM T_1 Int)]) (fun g=>τ108) (fun g=>ed_ (fun q:(List (List Arc))×Nat=>Ec_ v19 x1 q.1 q.2) g.1=some r∧g.1.1.length=(List.replicate v19.1.states.toNat ([]:List Arc)).length∧Zn g.2 g.1.1∧Zn (List.replicate v19.1.states.toNat (iu_:NP T_1)) (List.replicate v19.1.states.toNat ([]:T_2))) (fun g=>eg_ (fun q:(List (List Arc))×Nat=>Ec_ v19 x1 q.1 q.2) g.1) (((List.replicate v19.1.states.toNat ([]:List Arc)),0),(List.replicate v19.1.states.toNat (iu_:NP Arc))) (Sub.f [5,5,5,5,5,5] 6) z (by repeat (first|exact trivial|refine ⟨z,?_⟩)) ⟨hh,z,zf117,zf121⟩ (fun g1 j1 hg1=> ?_)))))))))
 obtain ⟨⟨l166,k171⟩,z168⟩:=g1
 obtain ⟨hh,hn167,zf169,zf170⟩:=hg1
 try dsimp only at hn167 zf169 zf170 ⊢
 obtain ⟨z1,hh,hR1⟩:=ek_ hh
 dsimp only [Ec_]at hh
 have zf169b:=zf169.len
 have zf170b:=zf170.len
 refine TC.know (ec_ (q:=3) z zf169) (fun ⟨_,hb172⟩=> ?_)
 refine TC.know (ec_ (q:=4) z zf170) (fun ⟨_,hb173⟩=> ?_)
 refine TC.a (TL.w z (OpVal.lss z z z) (TL.en (TC.seq (TC.cD z hh (fun h174 hh=> ?_) (fun h174 hh=> ?_)))))
 ·refine TC.skip (S.n (TC.cutG (α:=(Unit)×((List (NP Arc)))) (rgs [(9,1),(54,20)]) (fun g=>[]) (fun g=>[Res.cells b101 (au_ v19.1 a108_1 c108_1 a108_2 c108_2 a108_3 c108_3) 25,Res.cells b103 #[.string (bs ([]:T_1)),nl_,nl_,nl_,nl_] 32,Res.cells b112 #[.slice a115 ((List.replicate v19.1.states.toNat ([]:List Arc)).length) c116,.slice a119 ((List.replicate v19.1.states.toNat ([]:T_2)).length) c120,.int .i64 x1,nl_,.map (some b110),.string (bs ([]:T_1)),nl_,nl_,nl_,nl_] 74,Res.nest 23 66 8 ep_ (.slice a115 (List.replicate v19.1.states.toNat ([]:List Arc)).length c116) g.2,Res.nest 30 9 1 eS_ (.slice a119 (List.replicate v19.1.states.toNat ([]:T_2)).length c120) (List.replicate v19.1.states.toNat (iu_:NP T_1)),Res.mapB hi_ h5_ (some b110) (FM.emp:FM T_1 Int)]) (fun g=>τ108) (fun g=>G8_ l166 v19 k171=some z1∧(l166.set (((nth v19.1.arcs k171 az_).frm).toNat) ((nth l166 (((nth v19.1.arcs k171 az_).frm).toNat) [])++[(nth v19.1.arcs k171 az_)])).length=(List.replicate v19.1.states.toNat ([]:List Arc)).length∧Zn g.2 (l166.set (((nth v19.1.arcs k171 az_).frm).toNat) ((nth l166 (((nth v19.1.arcs k171 az_).frm).toNat) [])++[(nth v19.1.arcs k171 az_)]))∧Zn (List.replicate v19.1.states.toNat (iu_:NP T_1)) (List.replicate v19.1.states.toNat ([]:T_2))) ?_ (fun g j hg=> ?_)))
  ·skip
   refine TC.block (TC.a (TL.w z (af_ z underlying23 h0_ z z hr108_2.rv.sl (by omega)) (TL.w z (a9_ az_ z tx_ h0_ z hr108_2 (by omega) (by omega)) (TL.op z (OpOk.alloc z og_ z z (fun b179=> ?_))))))
   refine TL.op z (storeAll z h0_ z z z z z z ?_)
   refine TL.en ?_
   obtain ⟨u71,hh⟩:=d1_ hh
   obtain ⟨u75,hh⟩:=d1_ hh
   obtain ⟨u76,hh⟩:=d1_ hh
   refine TC.bt_ (Hr:=[Res.cells b179 #[.int .i64 ((nth v19.1.arcs k171 az_).frm),.int .i64 ((nth v19.1.arcs k171 az_).to),.int .u64 ((((nth v19.1.arcs k171 az_).set).a:Nat):Int),.int .u64 ((((nth v19.1.arcs k171 az_).set).b:Nat):Int),.int .u64 ((((nth v19.1.arcs k171 az_).set).c:Nat):Int),.int .u64 ((((nth v19.1.arcs k171 az_).set).d:Nat):Int),.string (bs ((nth v19.1.arcs k171 az_).out)),.bool ((nth v19.1.arcs k171 az_).copy)] 66,Res.cells b101 (au_ v19.1 a108_1 c108_1 a108_2 c108_2 a108_3 c108_3) 25,Res.cells b103 #[.string (bs ([]:T_1)),nl_,nl_,nl_,nl_] 32,Res.cells b112 #[.slice a115 ((List.replicate v19.1.states.toNat ([]:List Arc)).length) c116,.slice a119 ((List.replicate v19.1.states.toNat ([]:T_2)).length) c120,.int .i64 x1,nl_,.map (some b110),.string (bs ([]:T_1)),nl_,nl_,nl_,nl_] 74,Res.nest 30 9 1 eS_ (.slice a119 (List.replicate v19.1.states.toNat ([]:T_2)).length c120) (List.replicate v19.1.states.toNat (iu_:NP T_1)),Res.mapB hi_ h5_ (some b110) (FM.emp:FM T_1 Int)]) (fun r hr=>em_ [0,1,2,3,5,6] z hr) [] (by kernel_rfl) (TA.a 0 z (a6_ (.inl z) z) z (TA.a 1 z (ag_ z z) z (TA.a 2 z (aa_ z rv_ z) z (TA.b 3 z (ab_ z ag71 z (i:=3) z z) z (TA.a 4 z (aa_ z is_ z) z (TA.b 5 z (ab_ z ag3 z (i:=0) z z) z (TA.a 6 z (a6_ (.inl z) z) z (TA.a 7 z (ag_ z z) z (TA.a 8 z (aa_ z rv_ z) z (TA.b 9 z (ab_ z ag71 z (i:=3) z z) z (TA.a 10 z (aa_ z is_ z) z (TA.b 11 z (ab_ z ag3 z (i:=0) z z) z (TA.know (ec_ (q:=4) z zf169) (fun ⟨hs192,hs192b⟩=> ?_))))))))))))))
   refine TA.b 12 z (OpVal.index z underlying71 xu_ z z hs192 u71.1 u71.2) z (TA.b 14 z (am_ z tx_ h0_ z (i:=0) z z) z ?_)
   obtain ⟨p193,hz193,hm193⟩:=Zn.at zf169 (i:=((nth v19.1.arcs k171 az_).frm).toNat) (by omega)
   refine TA.actN [13,15] (by kernel_rfl) (an z z (OpVal.ok (bj_ z u1_ z (q:=4) z hz193 hm193) z z ⟨(fun w h=>ey_ (dw_.le.refl _) (fun r hr=>em_ [0,1,2,3,5,6] z hr) w h),?_⟩) (an z z (OpOk.lit (enc:=ep_) [(nth v19.1.arcs k171 az_)] z underlying23 h0_ og_ z z z eo_ (by decide) (by decide) az_ z (by decide) z (by decide) g0_ (fun a194 c195=>⟨(fun w h=>ey_ (dw_.le.refl _) (fun r hr=>em_ [1,2,3,4,6,7] z hr) w h),?_⟩)) (True.intro)))
   ·skip
    refine TA.ac 15 z (OpOk.lit (enc:=ep_) [(nth v19.1.arcs k171 az_)] z underlying23 h0_ og_ z z z eo_ (by decide) (by decide) az_ z (by decide) z (by decide) g0_ (fun a197 c198=>⟨(fun w h=>ey_ (dw_.le.refl _) (fun r hr=>em_ [1,2,3,4,6,7] z hr) w h),?_⟩))
    refine TA.front 5 z z (TA.by (fun w h=>Reach.takeN hz193 hm193 h) (TA.ac 16 z (ay_ z z underlying23 h0_ by66 og_ z z (by decide) z z z (.inr ⟨_,1,z⟩) (by simpa using u75) (by decide) (fun a201 c202=>(k3 ?_)))))
    refine TA.know (ft_ (q:=1) z zf169) (fun ⟨hs203,hs203b⟩=> ?_)
    refine TA.b 17 z (OpVal.index z underlying71 xu_ z z hs203 u76.1 u76.2) z (TA.front 1 z z (TA.front 1 z z ?_))
    have hn205:(l166.set (((nth v19.1.arcs k171 az_).frm).toNat) ((nth l166 (((nth v19.1.arcs k171 az_).frm).toNat) [])++[(nth v19.1.arcs k171 az_)])).length=(List.replicate v19.1.states.toNat ([]:List Arc)).length:=(ls_ ..).trans hn167
    refine TA.ac 18 rfl (be_ (l':=((nth l166 (((nth v19.1.arcs k171 az_).frm).toNat) [])++[(nth v19.1.arcs k171 az_)])) rfl xu_ rfl rfl rfl rfl rfl (by rw [zf169.len];omega) zf169 (fun zf204=>(k2 ?_)))
    exact TA.dn (B.n (S.n (cf ((),(z168.set (((nth v19.1.arcs k171 az_).frm).toNat) (((nth l166 (((nth v19.1.arcs k171 az_).frm).toNat) [])++[(nth v19.1.arcs k171 az_)]),(a201,c202)))) ⟨hh,hn205,zf204,zf170⟩ (Sub.f [7,7,2,7,7,7] 6))))
   skip
   obtain ⟨p206,hz206,hm206⟩:=Zn.at zf169 (i:=((nth v19.1.arcs k171 az_).frm).toNat) (by omega)
   refine TA.ac 13 z (OpVal.ok (bj_ z u1_ z (q:=5) z hz206 hm206) z z ⟨(fun w h=>ey_ (dw_.le.refl _) (fun r hr=>em_ [1,2,3,4,6,7] z hr) w h),?_⟩)
   refine TA.front 5 z z (TA.by (fun w h=>Reach.takeN hz206 hm206 h) (TA.ac 16 z (ay_ z z underlying23 h0_ by66 og_ z z (by decide) z z z (.inr ⟨_,1,z⟩) (by simpa using u75) (by decide) (fun a208 c209=>(k3 ?_)))))
   refine TA.know (ft_ (q:=1) z zf169) (fun ⟨hs210,hs210b⟩=> ?_)
   refine TA.b 17 z (OpVal.index z underlying71 xu_ z z hs210 u76.1 u76.2) z (TA.front 1 z z (TA.front 1 z z ?_))
   have hn212:(l166.set (((nth v19.1.arcs k171 az_).frm).toNat) ((nth l166 (((nth v19.1.arcs k171 az_).frm).toNat) [])++[(nth v19.1.arcs k171 az_)])).length=(List.replicate v19.1.states.toNat ([]:List Arc)).length:=(ls_ ..).trans hn167
   refine TA.ac 18 rfl (be_ (l':=((nth l166 (((nth v19.1.arcs k171 az_).frm).toNat) [])++[(nth v19.1.arcs k171 az_)])) rfl xu_ rfl rfl rfl rfl rfl (by rw [zf169.len];omega) zf169 (fun zf211=>(k2 ?_)))
   exact TA.dn (B.n (S.n (cf ((),(z168.set (((nth v19.1.arcs k171 az_).frm).toNat) (((nth l166 (((nth v19.1.arcs k171 az_).frm).toNat) [])++[(nth v19.1.arcs k171 az_)]),(a208,c209)))) ⟨hh,hn212,zf211,zf170⟩ (Sub.f [7,7,2,7,7,7] 6))))
  skip
  obtain ⟨_,z176⟩:=g
  obtain ⟨hh,hn175,zf177,zf178⟩:=hg
  try dsimp only at hn175 zf177 zf178 ⊢
  dsimp only [G8_]at hh
  have zf177b:=zf177.len
  have zf178b:=zf178.len
  refine TC.know (ec_ (q:=3) z zf177) (fun ⟨_,hb213⟩=> ?_)
  refine TC.know (ec_ (q:=4) z zf178) (fun ⟨_,hb214⟩=> ?_)
  refine TC.region (TL.w z (OpVal.succ z z z (by omega)) (TL.i z z (TL.en ?_)))
  obtain ⟨hh,hlt215⟩:=ev_ hR1 hh
  exact lf (((l166.set (((nth v19.1.arcs k171 az_).frm).toNat) ((nth l166 (((nth v19.1.arcs k171 az_).frm).toNat) [])++[(nth v19.1.arcs k171 az_)])),(k171+1)),z176) hlt215 ⟨hh,hn175,zf177,zf178⟩ (Sub.f [5,5,5,5,5,5] 6)
 refine TC.exit (S.x (S.x ?_))
 replace hh:=eh_ hR1 hh
 refine TC.ae_ (S.n (TC.seq (TC.a (TL.w z (aa_ z jm_ z) (TL.w z (ab_ z rz_ z (i:=0) z z) (TL.w z (lenC z underlying22 z) (TL.i z z (TL.en (TC.block (TC.as_ (α:=(T_3×Nat)×((List (NP T_1)))) (rgs [(11,1),(78,24)]) (fun g=>[(78,.int .i64 ((g.1.2:Nat):Int))]) (fun g=>[Res.cells b101 (au_ v19.1 a108_1 c108_1 a108_2 c108_2 a108_3 c108_3) 25,Res.cells b103 #[.string (bs ([]:T_1)),nl_,nl_,nl_,nl_] 32,Res.cells b112 #[.slice a115 ((List.replicate v19.1.states.toNat ([]:List Arc)).length) c116,.slice a119 ((List.replicate v19.1.states.toNat ([]:T_2)).length) c120,.int .i64 x1,nl_,.map (some b110),.string (bs ([]:T_1)),nl_,nl_,nl_,nl_] 74,Res.nest 23 66 8 ep_ (.slice a115 (List.replicate v19.1.states.toNat ([]:List Arc)).length c116) z168,Res.nest 30 9 1 eS_ (.slice a119 (List.replicate v19.1.states.toNat ([]:T_2)).length c120) g.2,Res.mapB hi_ h5_ (some b110) (FM.emp:FM T_1 Int)]) (fun g=>τ108) (fun g=>ed_ (fun q:T_3×Nat=>C5_ v19 l166 x1 q.1 q.2) g.1=some r∧l166.length=(List.replicate v19.1.states.toNat ([]:List Arc)).length∧Zn z168 l166∧g.1.1.length=(List.replicate v19.1.states.toNat ([]:T_2)).length∧Zn g.2 g.1.1) (fun g=>eg_ (fun q:T_3×Nat=>C5_ v19 l166 x1 q.1 q.2) g.1) (((List.replicate v19.1.states.toNat ([]:T_2)),0),(List.replicate v19.1.states.toNat (iu_:NP T_1))) (Sub.f [5,5,5,5,5,5] 6) z (by repeat (first|exact trivial|refine ⟨z,?_⟩)) ⟨hh,hn167,zf169,z,zf170⟩ (fun g2 j2 hg2=> ?_)))))))))))
 obtain ⟨⟨l235,k239⟩,z237⟩:=g2
 obtain ⟨hh,hn233,zf234,hn236,zf238⟩:=hg2
 try dsimp only at hn233 zf234 hn236 zf238 ⊢
 obtain ⟨z1,hh,hR1⟩:=ek_ hh
 dsimp only [C5_]at hh
 have zf234b:=zf234.len
 have zf238b:=zf238.len
 refine TC.know (ec_ (q:=3) z zf234) (fun ⟨_,hb240⟩=> ?_)
 refine TC.know (ec_ (q:=4) z zf238) (fun ⟨_,hb241⟩=> ?_)
 refine TC.a (TL.w z (OpVal.lss z z z) (TL.en (TC.seq (TC.cD z hh (fun h242 hh=> ?_) (fun h242 hh=> ?_)))))
 ·refine TC.skip (S.n (TC.cutG (α:=(Unit)×((List (NP T_1)))) (rgs [(11,1),(80,21)]) (fun g=>[]) (fun g=>[Res.cells b101 (au_ v19.1 a108_1 c108_1 a108_2 c108_2 a108_3 c108_3) 25,Res.cells b103 #[.string (bs ([]:T_1)),nl_,nl_,nl_,nl_] 32,Res.cells b112 #[.slice a115 ((List.replicate v19.1.states.toNat ([]:List Arc)).length) c116,.slice a119 ((List.replicate v19.1.states.toNat ([]:T_2)).length) c120,.int .i64 x1,nl_,.map (some b110),.string (bs ([]:T_1)),nl_,nl_,nl_,nl_] 74,Res.nest 23 66 8 ep_ (.slice a115 (List.replicate v19.1.states.toNat ([]:List Arc)).length c116) z168,Res.nest 30 9 1 eS_ (.slice a119 (List.replicate v19.1.states.toNat ([]:T_2)).length c120) g.2,Res.mapB hi_ h5_ (some b110) (FM.emp:FM T_1 Int)]) (fun g=>τ108) (fun g=>G5_ l235 v19 k239=some z1∧l166.length=(List.replicate v19.1.states.toNat ([]:List Arc)).length∧Zn z168 l166∧(l235.set (((nth v19.1.ends k239 tz_).state).toNat) ((nth l235 (((nth v19.1.ends k239 tz_).state).toNat) [])++[(nth v19.1.ends k239 tz_).out])).length=(List.replicate v19.1.states.toNat ([]:T_2)).length∧Zn g.2 (l235.set (((nth v19.1.ends k239 tz_).state).toNat) ((nth l235 (((nth v19.1.ends k239 tz_).state).toNat) [])++[(nth v19.1.ends k239 tz_).out]))) ?_ (fun g j hg=> ?_)))
  ·skip
   refine TC.block (TC.a (TL.w z (af_ z underlying22 gh_ z z hr108_1.rv.sl (by omega)) (TL.w z (a9_ tz_ z qs_ gh_ z hr108_1 (by omega) (by omega)) (TL.op z (OpOk.alloc z k8_ z z (fun b248=> ?_))))))
   refine TL.op z (storeAll z gh_ z z z z z z ?_)
   refine TL.en ?_
   obtain ⟨u101,hh⟩:=d1_ hh
   obtain ⟨u106,hh⟩:=d1_ hh
   obtain ⟨u107,hh⟩:=d1_ hh
   refine TC.bt_ (Hr:=[Res.cells b248 #[.int .i64 ((nth v19.1.ends k239 tz_).state),.string (bs ((nth v19.1.ends k239 tz_).out))] 76,Res.cells b101 (au_ v19.1 a108_1 c108_1 a108_2 c108_2 a108_3 c108_3) 25,Res.cells b103 #[.string (bs ([]:T_1)),nl_,nl_,nl_,nl_] 32,Res.cells b112 #[.slice a115 ((List.replicate v19.1.states.toNat ([]:List Arc)).length) c116,.slice a119 ((List.replicate v19.1.states.toNat ([]:T_2)).length) c120,.int .i64 x1,nl_,.map (some b110),.string (bs ([]:T_1)),nl_,nl_,nl_,nl_] 74,Res.nest 23 66 8 ep_ (.slice a115 (List.replicate v19.1.states.toNat ([]:List Arc)).length c116) z168,Res.mapB hi_ h5_ (some b110) (FM.emp:FM T_1 Int)]) (fun r hr=>em_ [0,1,2,3,4,6] z hr) [] (by kernel_rfl) (TA.a 0 z (a6_ (.inl z) z) z (TA.a 1 z (ag_ z z) z (TA.a 2 z (aa_ z pp_ z) z (TA.b 3 z (ab_ z jr_ z (i:=3) z z) z (TA.a 4 z (aa_ z gj_ z) z (TA.b 5 z (ab_ z ag3 z (i:=0) z z) z (TA.a 6 z (a6_ (.inl z) z) z (TA.a 7 z (ag_ z z) z (TA.a 8 z (aa_ z pp_ z) z (TA.b 9 z (ab_ z jr_ z (i:=3) z z) z (TA.a 10 z (aa_ z gj_ z) z (TA.b 11 z (ab_ z ag3 z (i:=0) z z) z (TA.know (ec_ (q:=5) z zf238) (fun ⟨hs261,hs261b⟩=> ?_))))))))))))))
   refine TA.b 12 z (OpVal.index z underlying28 iy_ z z hs261 u101.1 u101.2) z (TA.a 14 z (aa_ z f7_ z) z (TA.b 15 z (ab_ z ag9 z (i:=0) z z) z ?_))
   obtain ⟨p262,hz262,hm262⟩:=Zn.at zf238 (i:=((nth v19.1.ends k239 tz_).state).toNat) (by omega)
   refine TA.actN [13,16] (by kernel_rfl) (an z z (OpVal.ok (bj_ z ix_ z (q:=5) z hz262 hm262) z z ⟨(fun w h=>ey_ (dw_.le.refl _) (fun r hr=>em_ [0,1,2,3,4,6] z hr) w h),?_⟩) (an z z (OpOk.lit (enc:=eS_) [(nth v19.1.ends k239 tz_).out] z underlying30 sz9 ze9 z z z el_ (by decide) (by decide) ([]:T_1) z (by decide) z (by decide) of_ (fun a263 c264=>⟨(fun w h=>ey_ (dw_.le.refl _) (fun r hr=>em_ [1,2,3,4,5,7] z hr) w h),?_⟩)) (True.intro)))
   ·skip
    refine TA.ac 16 z (OpOk.lit (enc:=eS_) [(nth v19.1.ends k239 tz_).out] z underlying30 sz9 ze9 z z z el_ (by decide) (by decide) ([]:T_1) z (by decide) z (by decide) of_ (fun a266 c267=>⟨(fun w h=>ey_ (dw_.le.refl _) (fun r hr=>em_ [1,2,3,4,5,7] z hr) w h),?_⟩))
    refine TA.front 6 z z (TA.by (fun w h=>Reach.takeN hz262 hm262 h) (TA.ac 17 z (ay_ z z underlying30 sz9 by9 ze9 z z (by decide) z z z (.inr ⟨_,1,z⟩) (by simpa using u106) (by decide) (fun a270 c271=>(k3 ?_)))))
    refine TA.know (ft_ (q:=1) z zf238) (fun ⟨hs272,hs272b⟩=> ?_)
    refine TA.b 18 z (OpVal.index z underlying28 iy_ z z hs272 u107.1 u107.2) z (TA.front 1 z z (TA.front 1 z z ?_))
    have hn274:(l235.set (((nth v19.1.ends k239 tz_).state).toNat) ((nth l235 (((nth v19.1.ends k239 tz_).state).toNat) [])++[(nth v19.1.ends k239 tz_).out])).length=(List.replicate v19.1.states.toNat ([]:T_2)).length:=(ls_ ..).trans hn236
    refine TA.ac 19 rfl (be_ (l':=((nth l235 (((nth v19.1.ends k239 tz_).state).toNat) [])++[(nth v19.1.ends k239 tz_).out])) rfl iy_ rfl rfl rfl rfl rfl (by rw [zf238.len];omega) zf238 (fun zf273=>(k2 ?_)))
    exact TA.dn (B.n (S.n (cf ((),(z237.set (((nth v19.1.ends k239 tz_).state).toNat) (((nth l235 (((nth v19.1.ends k239 tz_).state).toNat) [])++[(nth v19.1.ends k239 tz_).out]),(a270,c271)))) ⟨hh,hn233,zf234,hn274,zf273⟩ (Sub.f [7,1,7,7,7,7] 6))))
   skip
   obtain ⟨p275,hz275,hm275⟩:=Zn.at zf238 (i:=((nth v19.1.ends k239 tz_).state).toNat) (by omega)
   refine TA.ac 13 z (OpVal.ok (bj_ z ix_ z (q:=6) z hz275 hm275) z z ⟨(fun w h=>ey_ (dw_.le.refl _) (fun r hr=>em_ [1,2,3,4,5,7] z hr) w h),?_⟩)
   refine TA.front 6 z z (TA.by (fun w h=>Reach.takeN hz275 hm275 h) (TA.ac 17 z (ay_ z z underlying30 sz9 by9 ze9 z z (by decide) z z z (.inr ⟨_,1,z⟩) (by simpa using u106) (by decide) (fun a277 c278=>(k3 ?_)))))
   refine TA.know (ft_ (q:=1) z zf238) (fun ⟨hs279,hs279b⟩=> ?_)
   refine TA.b 18 z (OpVal.index z underlying28 iy_ z z hs279 u107.1 u107.2) z (TA.front 1 z z (TA.front 1 z z ?_))
   have hn281:(l235.set (((nth v19.1.ends k239 tz_).state).toNat) ((nth l235 (((nth v19.1.ends k239 tz_).state).toNat) [])++[(nth v19.1.ends k239 tz_).out])).length=(List.replicate v19.1.states.toNat ([]:T_2)).length:=(ls_ ..).trans hn236
   refine TA.ac 19 rfl (be_ (l':=((nth l235 (((nth v19.1.ends k239 tz_).state).toNat) [])++[(nth v19.1.ends k239 tz_).out])) rfl iy_ rfl rfl rfl rfl rfl (by rw [zf238.len];omega) zf238 (fun zf280=>(k2 ?_)))
   exact TA.dn (B.n (S.n (cf ((),(z237.set (((nth v19.1.ends k239 tz_).state).toNat) (((nth l235 (((nth v19.1.ends k239 tz_).state).toNat) [])++[(nth v19.1.ends k239 tz_).out]),(a277,c278)))) ⟨hh,hn233,zf234,hn281,zf280⟩ (Sub.f [7,1,7,7,7,7] 6))))
  skip
  obtain ⟨_,z246⟩:=g
  obtain ⟨hh,hn243,zf244,hn245,zf247⟩:=hg
  try dsimp only at hn243 zf244 hn245 zf247 ⊢
  dsimp only [G5_]at hh
  have zf244b:=zf244.len
  have zf247b:=zf247.len
  refine TC.know (ec_ (q:=3) z zf244) (fun ⟨_,hb282⟩=> ?_)
  refine TC.know (ec_ (q:=4) z zf247) (fun ⟨_,hb283⟩=> ?_)
  refine TC.region (TL.w z (OpVal.succ z z z (by omega)) (TL.i z z (TL.en ?_)))
  obtain ⟨hh,hlt284⟩:=ev_ hR1 hh
  exact lf (((l235.set (((nth v19.1.ends k239 tz_).state).toNat) ((nth l235 (((nth v19.1.ends k239 tz_).state).toNat) [])++[(nth v19.1.ends k239 tz_).out])),(k239+1)),z246) hlt284 ⟨hh,hn243,zf244,hn245,zf247⟩ (Sub.f [5,5,5,5,5,5] 6)
 refine TC.exit (S.x (S.x ?_))
 replace hh:=eh_ hR1 hh
 refine TC.ae_ (S.n (TC.a (TL.l z z (TL.w z (am_ z s6_ ol_ z (i:=0) z z) ?_))))
 rw [←hn233]
 refine TL.front 3 z z (TL.ck_ (fun w h=>Reach.bl_ eo_ zf234 h) (fun τ287 hle286 hr285=> ?_))
 replace hgl:=hgl.mono hle286
 replace hr108_0:=hr108_0.mono hle286
 replace hr108_1:=hr108_1.mono hle286
 replace hr108_2:=hr108_2.mono hle286
 have hr285b:=hr285.big
 rw [←hn236]
 refine TL.front 3 z z (TL.ck_ (fun w h=>Reach.bl_ el_ zf238 h) (fun τ290 hle289 hr288=> ?_))
 replace hgl:=hgl.mono hle289
 replace hr108_0:=hr108_0.mono hle289
 replace hr108_1:=hr108_1.mono hle289
 replace hr108_2:=hr108_2.mono hle289
 replace hr285:=hr285.mono hle289
 have hr288b:=hr288.big
 refine TL.nilS 22 1 (d6_ 2 d2_ d0_).en ?_
 have zf291:=ZOk.nil τ290 (d6_ 2 d2_ d0_)
 refine TL.nilS 86 1 (d6_ 1 eI_ ei_).en ?_
 have zf293:=ZOk.nil τ290 (d6_ 1 eI_ ei_)
 refine TL.nilS 30 1 (d6_ 1 eS_ el_).en ?_
 have zf295:=ZOk.nil τ290 (d6_ 1 eS_ el_)
 refine TL.nilS 4 1 et_ (TL.nilS 9 1 eS_ (TL.front 1 z z (TL.front 2 z z (TL.front 3 z z (TL.front 8 z z (TL.front 5 z z (TL.front 8 z z ?_)))))))
 obtain ⟨v113,u113,hh⟩:=d8_ hh
 refine TL.op z (OpOk.call (H5_ (x0:=(⟨l166,l235,x1,([]:List (List Tip)),(FM.emp:FM T_1 Int),(⟨([]:T_1),([]:N_2),([]:T_3),([]:B_1),([]:T_2)⟩:Seq)⟩:Maker)) hgl hr285 hr288 zf291 zf293 zf295 hr108_0 hr108_1 hr108_2 u113) z z pf45 z z z z ?_)
 rintro _ τ299 _ hle299 ⟨a299_1,c299_2,a299_3,c299_4,a299_5,c299_6,a299_7,c299_8,rfl,hr299_9,hr299_10,hr299_11,hr299_12,rfl⟩
 have hr299_9b:=hr299_9.big
 have hr299_10b:=hr299_10.big
 have hr299_11b:=hr299_11.rv.big
 have hr299_12b:=hr299_12.rv.big
 refine TL.w z (OpVal.extract z z z) (TL.w z (OpVal.extract z z z) (TL.front 1 z z (TL.op z (storeAll z fi_ z z z z z z ?_))))
 refine TL.i z z (TL.en (TC.rt 1 ?_))
 obtain rfl:=so hh
 exact ro [] z (RVs.agg gu_ fi_ z (i:=0) z z (RVs.tmp z RVs.nil)) ⟨a299_1,c299_2,a299_3,c299_4,a299_5,c299_6,a299_7,c299_8,z,hr299_9,hr299_10,hr299_11,hr299_12,z⟩
def Ab_(x0:T_2)(x1:T_2)(k104:Nat):Option ((Nat)⊕(Bool)):=
 d4_ (decide ((k104:Int)<((x0.length:Nat):Int))) (grd (k104<x1.length) (d4_ (decide ((nth x0 k104 [])≠(nth x1 k104 []))) (fin (some false)) (nxt (k104+1)))) (fin (some true))
def Am_(x0:T_2)(x1:T_2):Option (Bool):=
 d4_ (decide (((x0.length:Nat):Int)≠((x1.length:Nat):Int))) (some false) (ed_ (fun q:Nat=>Ab_ x0 x1 q) 0)
theorem Fx_{σ:dw_}{x0:T_2}{x1:T_2}(f0_0:rS_ σ eS_ a0_0 c0_0 x0)(f1_0:rS_ σ eS_ a1_0 c1_0 x1){r:Bool}(hh:Am_ x0 x1=some r):
  Con Tryz.prog 27 #[.slice a0_0 x0.length c0_0,.slice a1_0 x1.length c1_0] σ [] (e5_ (.bool r) σ):=by
 dsimp only [Am_]at hh
 have f0_0b:=f0_0.rv.big
 have f1_0b:=f1_0.rv.big
 refine Con.mk (n:=26) Tryz.func27 z z z (fun w0=> ?_)
 refine TC.a (TL.j z z (TL.en (TC.seq (TC.a (TL.s z z (TL.w z (lenC z underlying30 z) (TL.s z z (TL.w z (lenC z underlying30 z) (TL.w z (OpVal.neq z z z) (TL.en (TC.cD z hh (fun h101 hh=> ?_) (fun h101 hh=> ?_))))))))))))
 ·refine TC.a (TL.j z z (TL.en (TC.ret (S.r ?_))))
  obtain rfl:=so hh
  exact rq [4] ⟨z,z,z⟩
 refine TC.skip (S.n (TC.seq (TC.a (TL.i z z (TL.en (TC.block (TC.as_ (α:=(Nat)×(Unit)) (rgs [(4,2),(11,15)]) (fun g=>[(5,.int .i64 ((g.1:Nat):Int))]) (fun g=>[]) (fun g=>σ) (fun g=>ed_ (fun q:Nat=>Ab_ x0 x1 q) g.1=some r) (fun g=>eg_ (fun q:Nat=>Ab_ x0 x1 q) g.1) (0,()) (Sub.pre 0 z) z (by repeat (first|exact trivial|refine ⟨z,?_⟩)) hh (fun g1 j1 hg1=> ?_))))))))
 obtain ⟨k104,_⟩:=g1
 have hh:=hg1;clear hg1
 try dsimp only
 obtain ⟨z1,hh,hR1⟩:=ek_ hh
 dsimp only [Ab_]at hh
 refine TC.seq (TC.a (TL.i z z (TL.s z z (TL.w z (lenC z underlying30 z) (TL.w z (OpVal.lss z z z) (TL.en (TC.cD z hh (fun h105 hh=> ?_) (fun h105 hh=> ?_))))))))
 ·refine TC.skip (S.n (TC.seq (TC.block (TC.seq ?_))))
  obtain ⟨u19,hh⟩:=d1_ hh
  refine TC.draw [] (by kernel_rfl) (TA.a 0 z (ak_ (.inl z) z) z (TA.a 1 z (aj_ (.inl z) z) z (TA.b 2 z (af_ z underlying30 sz9 z z f0_0.rv.sl (by omega)) z (TA.b 3 z (al_ ([]:T_1) z ag9 z f0_0 (by omega) z) z (TA.a 4 z (ak_ (.inl z) z) z (TA.a 5 z (aj_ (.inl z) z) z (TA.b 6 z (af_ z underlying30 sz9 z z f1_0.rv.sl (by omega)) z (TA.b 7 z (al_ ([]:T_1) z ag9 z f1_0 (by omega) z) z (TA.a 8 z (bw_ z z z) z (TA.dn (S.n (TC.cD z hh (fun h106 hh=> ?_) (fun h106 hh=> ?_)))))))))))))
  ·refine TC.a (TL.j z z (TL.en (TC.ret (B.r (S.r (S.r ?_))))))
   replace hh:=eh_ hR1 hh
   refine B.r (S.r ?_)
   obtain rfl:=so hh
   exact rq [4] ⟨z,z,z⟩
  refine TC.skip (B.n (S.n (TC.region (TL.i z z (TL.w z (OpVal.succ z z z (by omega)) (TL.i z z (TL.en ?_)))))))
  obtain ⟨hh,hlt107⟩:=ev_ hR1 hh
  exact lf ((k104+1),()) hlt107 hh (Sub.pre 0 z)
 refine TC.exit (S.x (S.x ?_))
 replace hh:=eh_ hR1 hh
 refine TC.ae_ (S.n (TC.a (TL.j z z (TL.en (TC.ret ?_)))))
 obtain rfl:=so hh
 exact rq [4] ⟨z,z,z⟩
def Bd_(x0:N_1)(x1:N_1)(k104:Nat):Option ((Nat)⊕(Bool)):=
 d4_ (decide ((k104:Int)<((x0.length:Nat):Int))) (grd (k104<x1.length) (d4_ (decide ((nth x0 k104 0)≠(nth x1 k104 0))) (fin (some false)) (nxt (k104+1)))) (fin (some true))
def Di_(x0:N_1)(x1:N_1):Option (Bool):=
 d4_ (decide (((x0.length:Nat):Int)≠((x1.length:Nat):Int))) (some false) (ed_ (fun q:Nat=>Bd_ x0 x1 q) 0)
theorem Hf_{σ:dw_}{x0:N_1}{x1:N_1}(f0_0:rS_ σ eI_ a0_0 c0_0 x0)(f1_0:rS_ σ eI_ a1_0 c1_0 x1){r:Bool}(hh:Di_ x0 x1=some r):
  Con Tryz.prog 52 #[.slice a0_0 x0.length c0_0,.slice a1_0 x1.length c1_0] σ [] (e5_ (.bool r) σ):=by
 dsimp only [Di_]at hh
 have f0_0b:=f0_0.rv.big
 have f1_0b:=f1_0.rv.big
 refine Con.mk (n:=26) Tryz.func52 z z z (fun w0=> ?_)
 refine TC.a (TL.j z z (TL.en (TC.seq (TC.a (TL.s z z (TL.w z (lenC z underlying86 z) (TL.s z z (TL.w z (lenC z underlying86 z) (TL.w z (OpVal.neq z z z) (TL.en (TC.cD z hh (fun h101 hh=> ?_) (fun h101 hh=> ?_))))))))))))
 ·refine TC.a (TL.j z z (TL.en (TC.ret (S.r ?_))))
  obtain rfl:=so hh
  exact rq [4] ⟨z,z,z⟩
 refine TC.skip (S.n (TC.seq (TC.a (TL.i z z (TL.en (TC.block (TC.as_ (α:=(Nat)×(Unit)) (rgs [(4,2),(11,15)]) (fun g=>[(5,.int .i64 ((g.1:Nat):Int))]) (fun g=>[]) (fun g=>σ) (fun g=>ed_ (fun q:Nat=>Bd_ x0 x1 q) g.1=some r) (fun g=>eg_ (fun q:Nat=>Bd_ x0 x1 q) g.1) (0,()) (Sub.pre 0 z) z (by repeat (first|exact trivial|refine ⟨z,?_⟩)) hh (fun g1 j1 hg1=> ?_))))))))
 obtain ⟨k104,_⟩:=g1
 have hh:=hg1;clear hg1
 try dsimp only
 obtain ⟨z1,hh,hR1⟩:=ek_ hh
 dsimp only [Bd_]at hh
 refine TC.seq (TC.a (TL.i z z (TL.s z z (TL.w z (lenC z underlying86 z) (TL.w z (OpVal.lss z z z) (TL.en (TC.cD z hh (fun h105 hh=> ?_) (fun h105 hh=> ?_))))))))
 ·refine TC.skip (S.n (TC.seq (TC.block (TC.seq ?_))))
  obtain ⟨u19,hh⟩:=d1_ hh
  refine TC.draw [] (by kernel_rfl) (TA.a 0 z (ak_ (.inl z) z) z (TA.a 1 z (aj_ (.inl z) z) z (TA.b 2 z (af_ z underlying86 sz3 z z f0_0.rv.sl (by omega)) z (TA.b 3 z (al_ (0:Int) z ag3 z f0_0 (by omega) z) z (TA.a 4 z (ak_ (.inl z) z) z (TA.a 5 z (aj_ (.inl z) z) z (TA.b 6 z (af_ z underlying86 sz3 z z f1_0.rv.sl (by omega)) z (TA.b 7 z (al_ (0:Int) z ag3 z f1_0 (by omega) z) z (TA.a 8 z (OpVal.neq z z z) z (TA.dn (S.n (TC.cD z hh (fun h106 hh=> ?_) (fun h106 hh=> ?_)))))))))))))
  ·refine TC.a (TL.j z z (TL.en (TC.ret (B.r (S.r (S.r ?_))))))
   replace hh:=eh_ hR1 hh
   refine B.r (S.r ?_)
   obtain rfl:=so hh
   exact rq [4] ⟨z,z,z⟩
  refine TC.skip (B.n (S.n (TC.region (TL.i z z (TL.w z (OpVal.succ z z z (by omega)) (TL.i z z (TL.en ?_)))))))
  obtain ⟨hh,hlt107⟩:=ev_ hR1 hh
  exact lf ((k104+1),()) hlt107 hh (Sub.pre 0 z)
 refine TC.exit (S.x (S.x ?_))
 replace hh:=eh_ hR1 hh
 refine TC.ae_ (S.n (TC.a (TL.j z z (TL.en (TC.ret ?_)))))
 obtain rfl:=so hh
 exact rq [4] ⟨z,z,z⟩
end Go.Proofs.YtchebnpdnfhenaaGreatDoor
end

noncomputable section
namespace Go.E
open Go
abbrev Gh:=Nat→Option Addr×Nat
structure PO where
  dst:Nat
  use:List Nat
  val:List (Option Addr×Nat)→Value
  res:List (Option Addr×Nat)→List Res
  eat:List Nat
def PO.no:PO:=⟨0,[],fun _=>undef,fun _=>[],[]⟩
def po(D:List PO)(k:Nat):PO:=D.getD k PO.no
def pv(D:List PO)(k:Nat)(γ:Gh):Value:=(po D k).val ((po D k).use.map γ)
def pr(D:List PO)(k:Nat)(γ:Gh):List Res:=(po D k).res ((po D k).use.map γ)
def eaten(D:List PO)(L:Array Bool)(k:Nat):Bool:=(List.range D.length).any fun i=>L.getD i false && (po D i).eat.contains k
def pick(p:Nat→Bool)(f:Nat→List Res)(n:Nat):List Res:=(List.range n).flatMap fun k=>if p k=true then f k else []
def pR(D:List PO)(L:Array Bool)(γ:Gh):List Res:=pick (fun k=>L.getD k false && !eaten D L k) (fun k=>pr D k γ) D.length
section
variable {X:Ctx} {ops:Array Oper} {Q:QP} {e0:Env} {σ:dw_} {H0:List Res} {late:List Nat} {f:Nat} {D:List PO}
structure PJ (ops:Array Oper) (e0:Env) (H0:List Res) (D:List PO) (L:Array Bool) (γ:Gh) (e:Env) (H:List Res):Prop where
  size:L.size=ops.size
  on: ∀k,k<D.length→L.getD k false=true→e (po D k).dst=pv D k γ
  off: ∀t,(∀k,k<D.length→L.getD k false=true→(po D k).dst≠t)→e t=e0 t
  rest: ∀j,D.length≤j→L.getD j false=false
  heap:H.Perm (H0++pR D L γ)
structure ChkI (ops:Array Oper) (D:List PO) (i:Nat):Prop where
  deps: ∃o,ops[i]? =some o∧ ∀e∈o.after,Region.binds .any e=true→e.on<i
  use: ∀j∈(po D i).use,j=i∨after? ops ops.size i j=true
  eat: ∀j∈(po D i).eat,j<i∧after? ops ops.size i j=true
  dst: ∀k,k<D.length→k≠i→(po D k).dst≠(po D i).dst
  sep: ∀k,k<D.length→k≠i→ ∀j∈(po D i).eat,(po D k).eat.contains j=false
  ord:(List.range D.length).filter (fun k=>(po D i).eat.contains k)=(po D i).eat
end
end Go.E
end

noncomputable section
namespace Go.Proofs.YtchebnpdnfhenaaGreatDoor
open Go Go.E Go.E.OpVal Go.E.OpOk
def Dz_(x0:T_1)(x1:T_1):Option (Bool):=
 grd (x0.length≤281474976710656) (grd (x1.length≤281474976710656) (d4_ (decide (((x0.length:Nat):Int)≤((x1.length:Nat):Int))) (grd (0≤x0.length∧x0.length≤x1.length) (some (decide ((x1.take x0.length)=x0)))) (some false)))
def E8_(k111:Nat)(t113:Bool):Option ((Bool×Nat)⊕((Int)⊕(T_1))):=
 nxt (t113,(k111+1))
def Bp_(x0:T_2)(i104:Int)(t110:Bool)(k111:Nat):Option ((Bool×Nat)⊕((Int)⊕(T_1))):=
 d4_ (decide ((k111:Int)<((x0.length:Nat):Int))) (d4_ t110 (grd (0<x0.length) (grd (0≤i104∧0≤i104.toNat∧i104.toNat≤(nth x0 0 []).length) (bnd (Dz_ ((nth x0 0 []).take i104.toNat) (nth x0 k111 [])) (fun v30=>E8_ k111 v30)))) (E8_ k111 false)) (fin (d4_ t110 (grd (0<x0.length) (grd (0≤i104∧0≤i104.toNat∧i104.toNat≤(nth x0 0 []).length) (fin (some ((nth x0 0 []).take i104.toNat))))) (nxt (IntKind.i64.wrap (i104 - 1)))))
def Bn_(x0:T_2)(i104:Int):Option ((Int)⊕(T_1)):=
 d4_ (decide (0<i104)) (ed_ (fun q:Bool×Nat=>Bp_ x0 i104 q.1 q.2) (true,0)) (fin (some ([]:T_1)))
def F2_(x0:T_2):Option (T_1):=
 d4_ (decide (((x0.length:Nat):Int)=0)) (some ([]:T_1)) (grd (0<x0.length) (ed_ (fun q:Int=>Bn_ x0 q) (((nth x0 0 []).length:Nat):Int)))
end Go.Proofs.YtchebnpdnfhenaaGreatDoor
end

noncomputable section
namespace Go.E
open Go
section
variable {K:Type} [DecidableEq K]
theorem hk_: ∀{l m:List K},l.Nodup→(∀x∈l,x∈m)→l.length≤m.length
  |[],m,_,_=>Nat.zero_le _
  | x :: l, m, hn, hs => by
    rw [List.nodup_cons]at hn
    have hx:=hs x (mc_ ..)
    have:=hk_ (m:=m.erase x) hn.2 fun y hy=>by
      have h1:=hs y (mm_ _ hy)
      refine (List.mem_erase_of_ne ?_).2 h1
      intro e;subst e;exact hn.1 hy
    rw [List.length_erase_of_mem hx]at this
    have hp:=List.length_pos_of_mem hx
    simp only [List.length_cons];omega
theorem rev_ind{p:List K→Prop}(h0:p [])(h1: ∀l x,p l→p (l++[x]))(l:List K):p l:=by
  have: ∀m:List K,p m.reverse:=fun m=>by
    induction m with
    |nil=>exact h0
    |cons x m ih=>rw [List.reverse_cons];exact h1 _ _ ih
  simpa using this l.reverse
end
section
variable {β γ:Type}
structure Grp (key:β→Int) (val:β→γ) (n:Nat) (l:List (List γ)) (xs:List β):Prop where
  len:l.length=n
  row: ∀i,i<n→nth l i []=(xs.filter fun x=>decide (key x=(i:Int))).map val
theorem Grp.nil(key:β→Int)(val:β→γ)(n:Nat):Grp key val n (List.replicate n []) []:=⟨lr_ ..,fun i hi=>by simp [nth,List.getD,List.getElem?_replicate,hi]⟩
theorem Grp.snoc{key:β→Int}{val:β→γ}{n:Nat}{l:List (List γ)}{xs:List β}(h:Grp key val n l xs){x:β}(h0:0≤key x)(h1:key x<n):
    Grp key val n (l.set (key x).toNat (nth l (key x).toNat []++[val x])) (xs++[x]):=by
  refine ⟨by rw [ls_];exact h.len,fun i hi=> ?_⟩
  rw [List.filter_append,List.map_append,←h.row i hi]
  by_cases e:i=(key x).toNat
  · subst e
    have:key x=((key x).toNat:Int):=by omega
    have hl:=h.len
    rw [show nth (l.set (key x).toNat (nth l (key x).toNat []++[val x])) (key x).toNat []=nth l (key x).toNat []++[val x]from by simp [nth,List.getD,hl,hi]]
    simp [this.symm]
  have hne: ¬ key x=(i:Int):=by omega
  rw [show nth (l.set (key x).toNat (nth l (key x).toNat []++[val x])) i []=nth l i []from by simp [nth,List.getD,List.getElem?_set,Ne.symm e]]
  simp [hne]
theorem Grp.at{key:β→Int}{val:β→γ}{n:Nat}{l:List (List γ)}{xs:List β}(h:Grp key val n l xs){s:Int}(h0:0≤s)(h1:s<n):nth l s.toNat []=(xs.filter fun x=>decide (key x=s)).map val:=by
  rw [h.row _ (by omega)]
  have:((s.toNat:Nat):Int)=s:=by omega
  simp only [this]
theorem tr_{α R:Type}{step:Nat→Option (Nat⊕R)}{y no:R}(l:List α)(d:α)(p:α→Bool)(hs: ∀k,k<l.length→p (nth l k d)=true→step k=some (.inl (k+1)))
    (hn: ∀k,k<l.length→p (nth l k d)=false→step k=some (.inr no)) (hd:step l.length=some (.inr y)):ed_ step 0=some (if l.all p then y else no):=by
  have h:=rh_ (step:=step) (y:=no) (no:=y) (fun k=>k) (fun k=> !p (nth l k d)) l.length (fun k hk hp=>hs k hk (by simpa using hp)) (fun k hk hp=>hn k hk (by simpa using hp)) hd
  rw [h,xr_ l d (fun x=> !p x)]
  by_cases ha:l.all p=true
  · have:(l.any fun x=> !p x)=false:=by rw [List.any_eq_false];intro x hx;have:=(List.all_eq_true.1 ha) x hx;simp [this]
    rw [this,ha];rfl
  have:(l.any fun x=> !p x)=true:=by
    rw [Bool.not_eq_true,List.all_eq_false]at ha
    obtain ⟨x,hx,h⟩:=ha
    exact List.any_eq_true.2 ⟨x,hx,by simpa using h⟩
  rw [this];simp only [cond_true];rw [if_neg ha]
theorem nu_{α S R:Type}{step:S×Nat→Option ((S×Nat)⊕R)}{r:R}(l:List α)(d:α)(f:Nat→S)(hs: ∀k,k<l.length→step (f k,k)=some (.inl (f (k+1),k+1)))(hd:step (f l.length,l.length)=some (.inr r)):
    ed_ step (f 0,0)=some r:=ru_ (fun k=>(f k,k)) l.length hs hd
end
theorem ud_{S R:Type}{step:S→Option (S⊕R)}{s s':S}(h:step s=some (.inl s')):ed_ step s=ed_ step s':=by
  cases hr:ed_ step s' with
  |some r=>exact fq_ h hr
  |none=>
    cases hq:ed_ step s with
    |none=>rfl
    |some r=>
      obtain ⟨z,hz,hR⟩:=ek_ hq
      rw [h]at hz;cases hz
      have:=(hR.next s' rfl).1
      rw [hr]at this;cases this
theorem yu_ {α S T R : Type} {step : T → Option (T ⊕ R)} (g : S → Nat → T) (l : List α) (d : α) (I : List α → S → Prop) (Q : R → Prop)
    (hs: ∀k s,k<l.length→I (l.take k) s→(∃s',step (g s k)=some (.inl (g s' (k+1)))∧I (l.take k++[nth l k d]) s')∨ ∃r,step (g s k)=some (.inr r)∧Q r)
    (hd: ∀s,I l s→ ∃r,step (g s l.length)=some (.inr r)∧Q r) {s0:S} (h0:I [] s0): ∃r,ed_ step (g s0 0)=some r∧Q r:=by
  have key: ∀m k s,l.length - k=m→k≤l.length→I (l.take k) s→ ∃r,ed_ step (g s k)=some r∧Q r:=by
    intro m
    induction m with
    |zero=>
      intro k s hm hk hI
      have hk:k=l.length:=by omega
      subst hk
      rw [List.take_length]at hI
      obtain ⟨r,h1,h2⟩:=hd s hI
      exact ⟨r,e1_ h1,h2⟩
    |succ m ih=>
      intro k s hm hk hI
      rcases hs k s (by omega) hI with ⟨s',h1,h2⟩|⟨r,h1,h2⟩
      · rw [←eu_ l (by omega) d]at h2
        obtain ⟨r,h3,h4⟩:=ih (k+1) s' (by omega) (by omega) h2
        exact ⟨r,fq_ h1 h3,h4⟩
      exact ⟨r,e1_ h1,h2⟩
  exact key _ 0 s0 rfl (Nat.zero_le _) h0
theorem dy_{α:Type}{p:Prop}[Decidable p]{a b:Option α}(h:p):d4_ (decide p) a b=a:=by rw [decide_eq_true h];rfl
theorem dz_{α:Type}{p:Prop}[Decidable p]{a b:Option α}(h: ¬ p):d4_ (decide p) a b=b:=by rw [decide_eq_false h];rfl
theorem d7_{α β:Type}{x:α}{f:α→Option β}:bnd (some x) f=f x:=rfl
theorem e8_{α:Type}{a b:Option α}:d4_ (!true) a b=b:=rfl
theorem fg_{α:Type}{a b:Option α}:d4_ (!false) a b=a:=rfl
theorem ej_ {S T R : Type} {step : T → Option (T ⊕ R)} (g : S → Nat → T) (n : Nat) (I : Nat → S → Prop) (Q : R → Prop)
    (hs: ∀k s,k<n→I k s→(∃s',step (g s k)=some (.inl (g s' (k+1)))∧I (k+1) s')∨ ∃r,step (g s k)=some (.inr r)∧Q r)
    (hd: ∀s,I n s→ ∃r,step (g s n)=some (.inr r)∧Q r) {s0:S} (h0:I 0 s0): ∃r,ed_ step (g s0 0)=some r∧Q r:=by
  have key: ∀m k s,n - k=m→k≤n→I k s→ ∃r,ed_ step (g s k)=some r∧Q r:=by
    intro m
    induction m with
    |zero=>
      intro k s hm hk hI
      have hk:k=n:=by omega
      subst hk
      obtain ⟨r,h1,h2⟩:=hd s hI
      exact ⟨r,e1_ h1,h2⟩
    |succ m ih=>
      intro k s hm hk hI
      rcases hs k s (by omega) hI with ⟨s',h1,h2⟩|⟨r,h1,h2⟩
      · obtain ⟨r,h3,h4⟩:=ih (k+1) s' (by omega) (by omega) h2
        exact ⟨r,fq_ h1 h3,h4⟩
      exact ⟨r,e1_ h1,h2⟩
  exact key _ 0 s0 rfl (Nat.zero_le _) h0
theorem eb_{α:Type}(l:List α)(i j:Nat)(x d:α):nth (l.set i x) j d=if i=j∧j<l.length then x else nth l j d:=by
  unfold nth
  simp only [List.getD_eq_getElem?_getD,List.getElem?_set]
  by_cases h:i=j
  · subst h
    by_cases k:i<l.length
    · simp [k]
    simp [k]
  simp [h]
theorem fl_{α β:Type}(f:α→β)(l:List α)(i:Nat)(d:α)(e:β)(h:i<l.length):nth (l.map f) i e=f (nth l i d):=by
  unfold nth
  simp [List.getD_eq_getElem?_getD,List.getElem?_map,List.getElem?_eq_getElem h]
theorem fu_{α:Type}(n i:Nat)(x:α):nth (List.replicate n x) i x=x:=by
  unfold nth
  rw [List.getD_eq_getElem?_getD,List.getElem?_replicate]
  split<;>rfl
theorem gr_{α:Type}(d:α){l m:List α}(hl:l.length=m.length)(h: ∀i,i<l.length→nth l i d=nth m i d):l=m:=by
  apply List.ext_getElem hl
  intro i h1 h2
  have a:=h i h1
  have b:=getD_some l h1 d
  have c:=getD_some m h2 d
  rw [List.getElem?_eq_getElem h1]at b
  rw [List.getElem?_eq_getElem h2]at c
  rw [Option.some.inj b,a,←Option.some.inj c]
theorem ok_(n:Nat)(p:Nat→Bool):(List.range (n+1)).any p=((List.range n).any p || p n):=by
  rw [List.range_succ,List.any_append];simp
theorem ry_{n:Nat}{p:Nat→Bool}:(List.range n).any p=true↔ ∃j,j<n∧p j=true:=by
  simp [List.any_eq_true,List.mem_range]
end Go.E
end

noncomputable section
namespace Go.Proofs.YtchebnpdnfhenaaGreatDoor
open Go Go.E
inductive Rch (S:Int→Prop) (E:Int→Int→Prop):Int→Prop
  |base {s:Int}:S s→Rch S E s
  |step {a b:Int}:Rch S E a→E a b→Rch S E b
def onS(t:Fst)(s:Int):Prop:= ∃x∈t.starts,x.state=s
def enS(t:Fst)(s:Int):Prop:= ∃x∈t.ends,x.state=s
def arE(t:Fst)(a b:Int):Prop:= ∃x∈t.arcs,x.frm=a∧x.to=b
def arB(t:Fst)(a b:Int):Prop:= ∃x∈t.arcs,x.to=a∧x.frm=b
def Use(t:Fst)(s:Int):Prop:=Rch (onS t) (arE t) s∧Rch (enS t) (arB t) s
open Classical in
def hy_(t:Fst)(s:Nat):Bool:=decide (Use t s)
def f3_(p:Nat→Bool):Nat→Nat
  |0=>0
  |n+1=>f3_ p n+(if p n then 1 else 0)
def i3_(p:Nat→Bool)(s:Int):Int:=if p s.toNat then (f3_ p s.toNat:Int) else -1
theorem wr_(p:Nat→Bool): ∀{m n:Nat},m≤n→f3_ p m≤f3_ p n
  | m, 0, h => by obtain rfl : m = 0 := by omega
                  exact Nat.le_refl _
  |m,n+1,h=>by
    by_cases hm:m=n+1
    · subst hm;exact Nat.le_refl _
    have:=wr_ p (m:=m) (n:=n) (by omega)
    simp only [f3_];omega
theorem j1_(p:Nat→Bool){m n:Nat}(h:m<n)(hp:p m=true):f3_ p m<f3_ p n:=by
  have:=wr_ p (m:=m+1) (n:=n) h
  simp only [f3_,hp,if_true]at this
  omega
theorem gn_(p:Nat→Bool): ∀n,f3_ p n≤n
  |0=>Nat.le_refl _
  |n+1=>by have:=gn_ p n;simp only [f3_];split<;>omega
theorem kj_{p:Nat→Bool}: ∀n,(∀s,s<n→p s=true)→f3_ p n=n
  |0,_=>rfl
  |n+1,h=>by simp only [f3_,kj_ n (fun s hs=>h s (by omega)),h n (by omega),if_true]
theorem kv_(p:Nat→Bool): ∀n k,k<f3_ p n→ ∃s,s<n∧p s=true∧f3_ p s=k
  |0,k,h=>by simp [f3_]at h
  |n+1,k,h=>by
    by_cases hk:k<f3_ p n
    · obtain ⟨s,h1,h2⟩:=kv_ p n k hk;exact ⟨s,by omega,h2⟩
    simp only [f3_]at h
    by_cases hp:p n=true
    · rw [if_pos hp]at h;exact ⟨n,by omega,hp,by omega⟩
    rw [if_neg hp]at h;omega
theorem k2_{p:Nat→Bool}{s:Int}(h:p s.toNat=true):i3_ p s=f3_ p s.toNat:=by unfold i3_;rw [if_pos h]
theorem ll_{p:Nat→Bool}{s:Int}:0≤i3_ p s↔p s.toNat=true:=by
  unfold i3_;split
  · simp_all
  simp_all
def hv_(p:Nat→Bool)(l:List Tip):List Tip:=l.filterMap fun x=>if 0≤i3_ p x.state then some ⟨i3_ p x.state,x.out⟩ else none
def iw_(p:Nat→Bool)(l:List Arc):List Arc:=l.filterMap fun x=>if 0≤i3_ p x.frm∧0≤i3_ p x.to then some ⟨i3_ p x.frm,i3_ p x.to,x.set,x.out,x.copy⟩ else none
def uj_(p:Nat→Bool)(t:Fst):Fst:=⟨f3_ p t.states.toNat,hv_ p t.starts,hv_ p t.ends,iw_ p t.arcs⟩
theorem kp_{p:Nat→Bool}{l:List Tip}{y:Tip}:y∈hv_ p l↔ ∃x∈l,p x.state.toNat=true∧y=⟨i3_ p x.state,x.out⟩:=by
  unfold hv_
  rw [List.mem_filterMap]
  constructor
  · rintro ⟨x,hx,h⟩
    split at h
    · rename_i h0;exact ⟨x,hx,ll_.1 h0,by cases h;rfl⟩
    cases h
  rintro ⟨x,hx,h0,rfl⟩;exact ⟨x,hx,by rw [if_pos (ll_.2 h0)]⟩
theorem ro_{p:Nat→Bool}{l:List Arc}{y:Arc}:y∈iw_ p l↔ ∃x∈l,p x.frm.toNat=true∧p x.to.toNat=true∧y=⟨i3_ p x.frm,i3_ p x.to,x.set,x.out,x.copy⟩:=by
  unfold iw_
  rw [List.mem_filterMap]
  constructor
  · rintro ⟨x,hx,h⟩
    split at h
    · rename_i h0;exact ⟨x,hx,ll_.1 h0.1,ll_.1 h0.2,by cases h;rfl⟩
    cases h
  rintro ⟨x,hx,h0,h1,rfl⟩;exact ⟨x,hx,by rw [if_pos ⟨ll_.2 h0,ll_.2 h1⟩]⟩
theorem ke_(p:Nat→Bool)(l:List Tip):(hv_ p l).length≤l.length:=List.length_filterMap_le ..
theorem q3_(p:Nat→Bool)(l:List Arc):(iw_ p l).length≤l.length:=List.length_filterMap_le ..
theorem rl_{p:Nat→Bool}{n:Nat}(hp: ∀s,s<n→p s=true){l:List Tip}(h: ∀x∈l,0≤x.state∧x.state<n):hv_ p l=l:=by
  unfold hv_
  induction l with
  |nil=>rfl
  |cons x l ih=>
    obtain ⟨h1,h2⟩:=h x (mc_ ..)
    have hx:=hp x.state.toNat (by omega)
    have:i3_ p x.state=x.state:=by rw [k2_ hx,kj_ _ (fun s hs=>hp s (by omega))];omega
    rw [List.filterMap_cons,this,if_pos h1,ih (fun y hy=>h y (mm_ _ hy))]
theorem wm_{p:Nat→Bool}{n:Nat}(hp: ∀s,s<n→p s=true){l:List Arc}(h: ∀x∈l,(0≤x.frm∧x.frm<n)∧(0≤x.to∧x.to<n)):iw_ p l=l:=by
  unfold iw_
  induction l with
  |nil=>rfl
  |cons x l ih=>
    obtain ⟨⟨h1,h2⟩,h3,h4⟩:=h x (mc_ ..)
    have hx:=hp x.frm.toNat (by omega)
    have hy:=hp x.to.toNat (by omega)
    have e1:i3_ p x.frm=x.frm:=by rw [k2_ hx,kj_ _ (fun s hs=>hp s (by omega))];omega
    have e2:i3_ p x.to=x.to:=by rw [k2_ hy,kj_ _ (fun s hs=>hp s (by omega))];omega
    rw [List.filterMap_cons,e1,e2,if_pos ⟨h1,h3⟩,ih (fun y hy=>h y (mm_ _ hy))]
structure Rng (t:Fst):Prop where
  starts: ∀x∈t.starts,0≤x.state∧x.state<t.states
  ends: ∀x∈t.ends,0≤x.state∧x.state<t.states
  arcs: ∀x∈t.arcs,(0≤x.frm∧x.frm<t.states)∧(0≤x.to∧x.to<t.states)
open Classical in
theorem t5_{t:Fst}{s:Nat}:hy_ t s=true↔Use t s:=by unfold hy_;exact decide_eq_true_iff
theorem zc_{t r:Fst}(hS: ∀x,x∈r.starts↔x∈hv_ (hy_ t) t.starts)(hE: ∀x,x∈r.ends↔x∈hv_ (hy_ t) t.ends)(hA: ∀x,x∈r.arcs↔x∈iw_ (hy_ t) t.arcs)(hn:r.states=f3_ (hy_ t) t.states.toNat)(h:Rng t):Rng r:=by
  have num: ∀{a:Int},0≤a→a<t.states→hy_ t a.toNat=true→0≤i3_ (hy_ t) a∧i3_ (hy_ t) a<r.states:=fun {a} h0 h1 hu=>by
    rw [k2_ hu,hn]
    have:=j1_ (hy_ t) (m:=a.toNat) (n:=t.states.toNat) (by omega) hu
    omega
  refine ⟨fun y hy=> ?_,fun y hy=> ?_,fun y hy=> ?_⟩
  · obtain ⟨x,hx,hu,rfl⟩:=kp_.1 ((hS y).1 hy);have:=h.starts x hx;exact num this.1 this.2 hu
  · obtain ⟨x,hx,hu,rfl⟩:=kp_.1 ((hE y).1 hy);have:=h.ends x hx;exact num this.1 this.2 hu
  obtain ⟨x,hx,hu,hv,rfl⟩:=ro_.1 ((hA y).1 hy);have:=h.arcs x hx;exact ⟨num this.1.1 this.1.2 hu,num this.2.1 this.2.2 hv⟩
end Go.Proofs.YtchebnpdnfhenaaGreatDoor
end

noncomputable section
namespace Go.Proofs.YtchebnpdnfhenaaGreatDoor
open Go Go.E
def uns:B_1→Nat
  |[]=>0
  |b::l=>(if b then 0 else 1)+uns l
theorem v7_: ∀l:B_1,uns l≤l.length
  |[]=>Nat.le_refl _
  |b::l=>by have:=v7_ l;simp only [uns,List.length_cons];split<;>omega
def Le(l r:B_1):Prop:= ∀v,nth l v false=true→nth r v false=true
theorem Le.rfl'(l:B_1):Le l l:=fun _ h=>h
theorem Le.trans{l r s:B_1}(h:Le l r)(k:Le r s):Le l s:=fun v hv=>k v (h v hv)
theorem zu_: ∀{l r:B_1},l.length=r.length→Le l r→uns r≤uns l
  |[],[],_,_=>Nat.le_refl _
  |[],_::_,h,_=>by simp at h
  |_::_,[],h,_=>by simp at h
  |a::l,b::r,h,k=>by
    have h1:=zu_ (l:=l) (r:=r) (by simpa using h) (fun v hv=>k (v+1) hv)
    have h2:a=true→b=true:=fun ha=>k 0 ha
    simp only [uns]
    cases a<;>cases b<;>simp_all<;>omega
theorem wc_: ∀{l:B_1} {i:Nat},i<l.length→nth l i false=false→uns (l.set i true)+1=uns l
  |[],i,h,_=>by simp at h
  |a::l,0,_,h=>by
    have:a=false:=h
    subst this
    simp [uns];omega
  |a::l,i+1,h,k=>by
    have:=wc_ (l:=l) (i:=i) (by simpa using h) k
    simp only [List.set_cons_succ,uns];omega
theorem le_set{l:B_1}(i:Nat)(h:i<l.length):Le l (l.set i true):=fun v hv=>by
  rw [eb_];split
  · rfl
  exact hv
def stE(st:N_2)(a b:Int):Prop:=0≤a∧b∈nth st a.toNat []
theorem Rch.trans{S:Int→Prop}{E:Int→Int→Prop}{a b:Int}(h:Rch (fun c=>c=a) E b)(k:Rch S E a):Rch S E b:=by
  induction h with
  |base e=>subst e;exact k
  |step _ e ih=>exact .step ih e
theorem v2_{α:Type}{l:List α}{x d:α}(h:x∈l): ∃j,j<l.length∧nth l j d=x:=by
  obtain ⟨j,hj,e⟩:=List.getElem_of_mem h
  refine ⟨j,hj,?_⟩
  have:=getD_some l hj d
  rw [List.getElem?_eq_getElem hj,Option.some.injEq]at this
  rw [←this];exact e
theorem fv_{α:Type}{l:List α}{j:Nat}(d:α)(h:j<l.length):nth l j d∈l:=by
  have:=getD_some l h d
  exact List.mem_of_getElem? this
structure Vis (st:N_2) (n:Nat) (s:Int) (seen r:B_1):Prop where
  len:r.length=n
  le:Le seen r
  at':nth r s.toNat false=true
  out: ∀v,nth r v false=true→nth seen v false=true∨Rch (fun c=>c=s) (stE st) v
  cl: ∀v,nth r v false=true→nth seen v false=false→ ∀z∈nth st v [],nth r z.toNat false=true
theorem ze_ {st : N_2} {n : Nat} (hl : st.length = n) (hst : ∀ a, ∀ z ∈ nth st a [], 0 ≤ z ∧ z < n) :
    ∀k (s:Int) (seen:B_1),0≤s→s<n→seen.length=n→uns seen<k→ ∃r,B0_ k s seen st=some r∧Vis st n s seen r:=by
  intro k
  induction k with
  |zero=>intro s seen _ _ _ h;omega
  |succ k ih=>
    intro s seen h0 h1 hn hu
    show ∃r,Eu_ (B0_ k) s seen st=some r∧_
    unfold Eu_
    rw [dx_ ⟨h0,by omega⟩]
    cases hs:nth seen s.toNat false with
    |true=>exact ⟨seen,rfl,hn,Le.rfl' _,hs,fun v hv=> .inl hv,fun v hv hf=>by rw [hv]at hf;cases hf⟩
    | false =>
      rw [iteO_false,dx_ ⟨h0,by omega⟩,dx_ ⟨h0,by omega⟩]
      have hlt:s.toNat<seen.length:=by omega
      have hun:=wc_ hlt hs
      have hat:nth (seen.set s.toNat true) s.toNat false=true:=by rw [eb_,if_pos ⟨rfl,hlt⟩]
      have hor: ∀v,nth (seen.set s.toNat true) v false=true→nth seen v false=true∨v=s.toNat:=fun v hv=>by
        rw [eb_]at hv
        split at hv
        · rename_i h;exact .inr h.1.symm
        exact .inl hv
      obtain ⟨r,h2,h3,h4,h5,h6,h7⟩:=ej_ (step:=fun q:B_1×Nat=>Av_ st s (B0_ k) q.1 q.2) (fun (l:B_1) j=>(l,j)) (nth st s.toNat []).length
        (fun j l=>l.length=n∧Le (seen.set s.toNat true) l∧(∀i,i<j→nth l (nth (nth st s.toNat []) i 0).toNat false=true)∧(∀v,nth l v false=true→nth (seen.set s.toNat true) v false=true∨Rch (fun c=>c=s) (stE st) v)∧(∀v,nth l v false=true→nth (seen.set s.toNat true) v false=false→ ∀z∈nth st v [],nth l z.toNat false=true))
        (fun l=>l.length=n∧Le (seen.set s.toNat true) l∧(∀i,i<(nth st s.toNat []).length→nth l (nth (nth st s.toNat []) i 0).toNat false=true)∧(∀v,nth l v false=true→nth (seen.set s.toNat true) v false=true∨Rch (fun c=>c=s) (stE st) v)∧(∀v,nth l v false=true→nth (seen.set s.toNat true) v false=false→ ∀z∈nth st v [],nth l z.toNat false=true))
        (fun j l hj ⟨a1,a2,a3,a4,a5⟩=>by
          have hz:=fv_ (0:Int) hj
          have hzr:=hst _ _ hz
          have hle:=zu_ (by rw [ls_];omega) a2
          obtain ⟨r,b1,b2⟩:=ih (nth (nth st s.toNat []) j 0) l hzr.1 hzr.2 a1 (by omega)
          refine .inl ⟨r,?_,b2.len,a2.trans b2.le,fun i hi=> ?_,fun v hv=> ?_,fun v hv hf z hz'=> ?_⟩
          · show Av_ st s (B0_ k) l j=_
            unfold Av_
            rw [dy_ (by omega),b1];rfl
          · by_cases hij:i=j
            · subst hij;exact b2.at'
            exact b2.le _ (a3 i (by omega))
          · rcases b2.out v hv with h|h
            · exact a4 v h
            exact .inr (h.trans (.step (.base rfl) ⟨h0,hz⟩))
          cases hlv:nth l v false with
          |true=>exact b2.le _ (a5 v hlv hf z hz')
          |false=>exact b2.cl v hv hlv z hz')
        (fun l hI=>⟨l,by
          show Av_ st s (B0_ k) l _=_
          unfold Av_
          rw [dz_ (by omega)];rfl,hI⟩)
        (s0:=seen.set s.toNat true) ⟨by rw [ls_];exact hn,Le.rfl' _,fun i hi=>by omega,fun v hv=> .inl hv,fun v hv hf=>by rw [hv]at hf;cases hf⟩
      refine ⟨r,h2,h3,(le_set _ hlt).trans h4,h4 _ hat,fun v hv=> ?_,fun v hv hf z hz=> ?_⟩
      · rcases h6 v hv with h|h
        · rcases hor v h with h|h
          · exact .inl h
          exact .inr (.base (by omega))
        exact .inr h
      cases hsv:nth (seen.set s.toNat true) v false with
      |true=>
        rcases hor v hsv with h|h
        · rw [h]at hf;cases hf
        subst h
        obtain ⟨i,hi,e⟩:=v2_ (d:=(0:Int)) hz
        have:=h5 i hi
        rw [e]at this;exact this
      |false=>exact h7 v hv hsv z hz
theorem t4_ {st : N_2} {n : Nat} {tips : List Tip} (hn : n ≤ 1024) (hl : st.length = n) (hst : ∀ a, ∀ z ∈ nth st a [], 0 ≤ z ∧ z < n) (ht : ∀ x ∈ tips, 0 ≤ x.state ∧ x.state < n) :
    ∃r,E7_ tips st=some r∧r.length=n∧ ∀v:Nat,nth r v false=true↔Rch (fun c=> ∃x∈tips,x.state=c) (stE st) v:=by
  unfold E7_
  rw [dx_ (by omega)]
  obtain ⟨r,h1,h2,h3,h4,h5⟩:=ej_ (step:=fun q:B_1×Nat=>Bi_ tips st q.1 q.2) (fun (l:B_1) j=>(l,j)) tips.length
    (fun j l=>l.length=n∧(∀i,i<j→nth l (nth tips i tz_).state.toNat false=true)∧(∀v:Nat,nth l v false=true→Rch (fun c=> ∃x∈tips,x.state=c) (stE st) v)∧(∀v,nth l v false=true→ ∀z∈nth st v [],nth l z.toNat false=true))
    (fun l=>l.length=n∧(∀i,i<tips.length→nth l (nth tips i tz_).state.toNat false=true)∧(∀v:Nat,nth l v false=true→Rch (fun c=> ∃x∈tips,x.state=c) (stE st) v)∧(∀v,nth l v false=true→ ∀z∈nth st v [],nth l z.toNat false=true))
    (fun j l hj ⟨a1,a2,a3,a4⟩=>by
      have hz:=fv_ tz_ hj
      have hzr:=ht _ hz
      have:=v7_ l
      obtain ⟨r,b1,b2⟩:=ze_ hl hst (l.length+1) (nth tips j tz_).state l hzr.1 hzr.2 a1 (by omega)
      refine .inl ⟨r,?_,b2.len,fun i hi=> ?_,fun v hv=> ?_,fun v hv z hz'=> ?_⟩
      · show Bi_ tips st l j=_
        unfold Bi_
        rw [dy_ (by omega),b1];rfl
      · by_cases hij:i=j
        · subst hij;exact b2.at'
        exact b2.le _ (a2 i (by omega))
      · rcases b2.out v hv with h|h
        · exact a3 v h
        exact h.trans (.base ⟨_,hz,rfl⟩)
      cases hlv:nth l v false with
      |true=>exact b2.le _ (a4 v hlv z hz')
      |false=>exact b2.cl v hv hlv z hz')
    (fun l hI=>⟨l,by
      show Bi_ tips st l _=_
      unfold Bi_
      rw [dz_ (by omega)];rfl,hI⟩)
    (s0:=List.replicate st.length false) ⟨by rw [lr_];exact hl,fun i hi=>by omega,fun v hv=>(by rw [fu_]at hv;cases hv),fun v hv=>(by rw [fu_]at hv;cases hv)⟩
  refine ⟨r,h1,h2,fun v=>⟨h4 v,fun hv=> ?_⟩⟩
  have: ∀c:Int,Rch (fun c=> ∃x∈tips,x.state=c) (stE st) c→nth r c.toNat false=true:=fun c hc=>by
    induction hc with
    |base h=>
      obtain ⟨x,hx,rfl⟩:=h
      obtain ⟨i,hi,e⟩:=v2_ (d:=tz_) hx
      have:=h3 i hi
      rw [e]at this;exact this
    |step _ e ih=>exact h5 _ ih _ e.2
  have:=this v hv
  simpa using this
theorem t8_{α:Type}(l:List α){k:Nat}(h:k<l.length)(d:α):l.drop k=nth l k d::l.drop (k+1):=by
  rw [List.drop_eq_getElem_cons h]
  have:=getD_some l h d
  rw [List.getElem?_eq_getElem h,Option.some.injEq]at this
  rw [this]
def pq_:T_1→T_1→Nat
  |a::l,b::m=>if a=b then pq_ l m+1 else 0
  |_,_=>0
theorem wd_: ∀l m:T_1,pq_ l m≤l.length
  |[],_=>Nat.zero_le _
  |_::_,[]=>Nat.zero_le _
  |a::l,b::m=>by have:=wd_ l m;simp only [pq_,List.length_cons];split<;>omega
theorem sm_: ∀(l m:T_1) (k:Nat),k≤l.length→k≤m.length→(∀i,i<k→nth l i 0=nth m i 0)→(k<l.length→k<m.length→nth l k 0≠nth m k 0)→pq_ l m=k
  |[],_,k,h,_,_,_=>by simp at h;simp [pq_,h]
  |_::_,[],k,_,h,_,_=>by simp at h;simp [pq_,h]
  |a::l,b::m,0,_,_,_,h=>by
    have:a≠b:=h (by simp) (by simp)
    simp [pq_,this]
  |a::l,b::m,k+1,h1,h2,h3,h4=>by
    have e:a=b:=h3 0 (by omega)
    have:=sm_ l m k (by simpa using h1) (by simpa using h2) (fun i hi=>h3 (i+1) (by omega)) (fun i j=>h4 (by simpa using i) (by simpa using j))
    simp [pq_,e,this]
theorem yg_ (x y : T_1) (hx : x.length ≤ 281474976710656) (hy : y.length ≤ 281474976710656) : Gb_ x y = some ((pq_ x y : Nat) : Int) := by
  unfold Gb_
  rw [dx_ hx,dx_ hy]
  have hm:min ((x.length:Nat):Int) ((y.length:Nat):Int)=((min x.length y.length:Nat):Int):=by omega
  obtain ⟨r,h,rfl⟩:=ej_ (step:=fun q:Nat=>Db_ x y q) (fun (_:Unit) k=>k) (min x.length y.length) (fun k _=> ∀i,i<k→nth x i 0=nth y i 0) (fun r=>r=((pq_ x y:Nat):Int))
    (fun k _ hk hI=>by
      unfold Db_
      rw [hm,dy_ (by omega),dx_ (by omega),dx_ (by omega)]
      by_cases e:nth x k 0=nth y k 0
      · rw [dz_ (by rw [e];simp)]
        exact .inl ⟨(),rfl,fun i hi=>by
          by_cases hik:i=k
          · subst hik;exact e
          exact hI i (by omega)⟩
      have hne:(((nth x k (0:UInt8)).toNat:Nat):Int)≠(((nth y k (0:UInt8)).toNat:Nat):Int):=fun h=>e (UInt8.toNat_inj.1 (by omega))
      rw [dy_ hne]
      refine .inr ⟨_,rfl,?_⟩
      rw [sm_ x y k (by omega) (by omega) hI (fun _ _=>e)])
    (fun _ hI=>⟨_,by
      unfold Db_
      rw [hm,dz_ (by omega)];rfl,by
      rw [sm_ x y (min x.length y.length) (by omega) (by omega) hI (fun h1 h2=>by omega)]⟩)
    (s0:=()) (fun i hi=>by omega)
  exact h
section
variable {S α:Type}
end
structure ArcsOk (arcs:List (List Arc)):Prop where
  out: ∀i, ∀x∈nth arcs i [],x.out.length≤1000000
structure LagOk (n:Nat) (l:TLag):Prop where
  p:0≤l.p∧l.p<n
  q:0≤l.q∧l.q<n
  a:l.a.length≤100000000
  b:l.b.length≤100000000
section
variable {Sy:Type} {Y:Sy→TLag→Option (Sy×Bool)} (w:Walk) (hw:ArcsOk w.arcs) (row:List TLag) (hr: ∀l∈row,LagOk w.arcs.length l) (i:Nat) (hi:i<row.length)
include hw hr hi
end
theorem ss_: ∀(a b:T_1) (n:Nat),n≤a.length→(n≤pq_ a b↔n≤b.length∧b.take n=a.take n)
  |a,b,0,_=>by simp
  |[],b,n+1,h=>by simp at h
  |x::l,[],n+1,h=>by simp [pq_]
  |x::l,y::m,n+1,h=>by
    have ih:=ss_ l m n (by simpa using h)
    unfold pq_
    by_cases c:x=y
    · subst c;simp [ih]
    simp only [if_neg c,List.length_cons,List.take_succ_cons,List.cons.injEq]
    constructor
    · intro h;omega
    intro h;exact absurd h.2.1.symm c
theorem ni_{p x:T_1}:p <+: x↔p.length≤x.length∧x.take p.length=p:=by
  rw [List.prefix_iff_eq_take]
  constructor
  · intro h
    refine ⟨?_,h.symm⟩
    have:=congrArg List.length h
    rw [List.length_take]at this;omega
  intro h;exact h.2.symm
theorem qo_{p q:T_1}(h:p <+: q)(k:q <+: p):p=q:=h.eq_of_length (Nat.le_antisymm h.length_le k.length_le)
theorem lcp_l(s t:T_1):s.take (pq_ s t) <+: s:=List.take_prefix _ _
theorem lcp_r(s t:T_1):s.take (pq_ s t) <+: t:=by
  have h1:=wd_ s t
  have h2:=(ss_ s t _ h1).1 (Nat.le_refl _)
  rw [←h2.2];exact List.take_prefix _ _
theorem lcp_max{p s t:T_1}(h:p <+: s)(k:p <+: t):p <+: s.take (pq_ s t):=by
  rw [ni_]at h k
  have h1:=(ss_ s t p.length h.1).2 ⟨k.1,by rw [k.2,h.2]⟩
  rw [ni_,List.length_take,List.take_take,Nat.min_eq_left h1]
  exact ⟨by omega,h.2⟩
def xm_(l:T_2)(s:T_1):T_1:=l.foldl (fun s t=>s.take (pq_ s t)) s
theorem my_: ∀(l:T_2) (s:T_1),xm_ l s <+: s∧ ∀x∈l,xm_ l s <+: x
  |[],s=>⟨List.prefix_refl _,by simp⟩
  |t::l,s=>by
    obtain ⟨h1,h2⟩:=my_ l (s.take (pq_ s t))
    refine ⟨h1.trans (lcp_l s t),fun x hx=> ?_⟩
    rcases List.mem_cons.1 hx with rfl|hx
    · exact h1.trans (lcp_r s x)
    exact h2 x hx
theorem tj_{p:T_1}: ∀(l:T_2) (s:T_1),p <+: s→(∀x∈l,p <+: x)→p <+: xm_ l s
  |[],s,h,_=>h
  |t::l,s,h,k=>tj_ l _ (lcp_max h (k t (mc_ ..))) fun x hx=>k x (mm_ _ hx)
def fw_:T_2→T_1
  |[]=>[]
  |x::l=>xm_ l x
theorem gp_: ∀{l:T_2} {x:T_1},x∈l→fw_ l <+: x
  |[],x,h=>by cases h
  |y::l,x,h=>by
    rcases List.mem_cons.1 h with rfl|h
    · exact (my_ l x).1
    exact (my_ l y).2 x h
theorem k6_: ∀{l:T_2} {p:T_1},l≠[]→(∀x∈l,p <+: x)→p <+: fw_ l
  |[],p,h,_=>absurd rfl h
  |y::l,p,_,h=>tj_ l y (h y (mc_ ..)) fun x hx=>h x (mm_ _ hx)
theorem vh_{l:T_2}{p:T_1}(h0:l≠[])(h1: ∀x∈l,p <+: x)(h2: ∀q,(∀x∈l,q <+: x)→q <+: p):fw_ l=p:=
  qo_ (h2 _ fun x hx=>gp_ hx) (k6_ h0 h1)
theorem um_{l m:T_2}(h: ∀x,x∈l↔x∈m):fw_ l=fw_ m:=by
  by_cases c:l=[]
  · subst c
    have:m=[]:=List.eq_nil_iff_forall_not_mem.2 fun x hx=>by have:=(h x).2 hx;cases this
    rw [this]
  have c2:m≠[]:=fun e=>by
    subst e
    exact c (List.eq_nil_iff_forall_not_mem.2 fun x hx=>by have:=(h x).1 hx;cases this)
  exact vh_ c (fun x hx=>gp_ ((h x).1 hx)) fun q hq=>k6_ c2 fun x hx=>hq x ((h x).2 hx)
theorem r4_(l:T_2)(s t:T_1):xm_ (l++[t]) s=(xm_ l s).take (pq_ (xm_ l s) t):=by simp [xm_]
theorem eu_{α:Type}(l:List α){k:Nat}(h:k<l.length)(d:α):l.take (k+1)=l.take k++[nth l k d]:=by
  rw [List.take_add_one]
  have:=getD_some l h d
  rw [this];rfl
theorem pm_ {l : T_2} (h : ∀ x ∈ l, x.length ≤ 281474976710656) : F1_ l = some (fw_ l) := by
  unfold F1_
  cases l with
  |nil=>rfl
  |cons x l=>
    rw [dz_ (by simp;omega),dx_ (by simp),dx_ (by simp)]
    have hx:x.length≤281474976710656:=h x (mc_ ..)
    obtain ⟨r,h1,h2⟩:=ej_ (step:=fun q:T_1×Nat=>Cv_ (x::l) q.1 q.2) (fun s k=>(s,k)) l.length (fun k s=>s=xm_ (l.take k) x) (fun r=>r=xm_ l x)
      (fun k s hk hI=> .inl ⟨s.take (pq_ s (nth l k [])),by
        have hs:s.length≤281474976710656:=by
          rw [hI]
          exact Nat.le_trans (my_ _ x).1.length_le hx
        have ht:(nth l k []).length≤281474976710656:=h _ (mm_ _ (fv_ [] hk))
        show Cv_ (x::l) s k=_
        unfold Cv_
        rw [show (x::l).drop 1=l from rfl,dy_ (by omega),yg_ s _ hs ht,d7_,dx_ ⟨by omega,by omega,by rw [tn_];exact wd_ _ _⟩,tn_];rfl,by
        rw [eu_ l hk [],r4_,←hI]⟩)
      (fun s hI=>⟨s,by
        show Cv_ (x::l) s l.length=_
        unfold Cv_
        rw [show (x::l).drop 1=l from rfl,dz_ (by omega)];rfl,by rw [hI,List.take_length]⟩) (s0:=x) rfl
    rw [show nth (x::l) 0 []=x from rfl]
    show ed_ _ (x,0)=_
    rw [h1,h2];rfl
theorem rbeg_eq(x y:T_1)(hx:x.length≤281474976710656)(hy:y.length≤281474976710656):Dz_ x y=some (decide (x <+: y)):=by
  unfold Dz_
  rw [dx_ hx,dx_ hy]
  by_cases c:x.length≤y.length
  · rw [dy_ (by omega),dx_ ⟨by omega,c⟩]
    have:(y.take x.length=x)↔x <+: y:=by rw [ni_];simp [c]
    simp only [this]
  rw [dz_ (by omega),decide_eq_false (fun h=>c h.length_le)]
theorem rlcp_at {x : T_1} {l : T_2} (h : ∀ y ∈ x :: l, y.length ≤ 281474976710656) (n : Nat) (hn : n + 1 ≤ x.length) :
    Bn_ (x::l) ((n+1:Nat):Int)=some (if ∀y∈x::l,x.take (n+1) <+: y then .inr (x.take (n+1)) else .inl ((n:Nat):Int)):=by
  unfold Bn_
  rw [dy_ (by omega)]
  have hx:x.length≤281474976710656:=h x (mc_ ..)
  have htn:(x.take (n+1)).length≤281474976710656:=by rw [List.length_take];omega
  have hg:(0:Int)≤((n+1:Nat):Int)∧0≤((n+1:Nat):Int).toNat∧((n+1:Nat):Int).toNat≤(nth (x::l) 0 ([]:T_1)).length:=by
    rw [tn_];exact ⟨by omega,by omega,hn⟩
  obtain ⟨r,h1,h2⟩:=ej_ (step:=fun q:Bool×Nat=>Bp_ (x::l) ((n+1:Nat):Int) q.1 q.2) (fun s k=>(s,k)) (x::l).length (fun k s=>s=decide (∀y∈(x::l).take k,x.take (n+1) <+: y))
    (fun r=>r=(if ∀y∈x::l,x.take (n+1) <+: y then .inr (x.take (n+1)) else .inl ((n:Nat):Int)))
    (fun k s hk hI=> .inl ⟨decide (∀y∈(x::l).take (k+1),x.take (n+1) <+: y),by
      show Bp_ (x::l) _ s k=_
      unfold Bp_ E8_
      rw [dy_ (by omega)]
      have e1:(∀y∈(x::l).take (k+1),x.take (n+1) <+: y)↔(∀y∈(x::l).take k,x.take (n+1) <+: y)∧x.take (n+1) <+: nth (x::l) k []:=by
        rw [eu_ _ hk []]
        simp only [List.mem_append,mo_]
        exact ⟨fun q=>⟨fun y hy=>q y (.inl hy),q _ (.inr rfl)⟩,fun q y hy=>hy.elim (q.1 y) (fun e=>by rw [e];exact q.2)⟩
      cases s with
      |true=>
        have hI:=dt_ hI.symm
        rw [iteO_true,dx_ (by simp),dx_ hg,tn_]
        show bnd (Dz_ (x.take (n+1)) (nth (x::l) k [])) _=_
        rw [rbeg_eq _ _ htn (h _ (fv_ [] hk)),d7_]
        simp only [e1]
        rw [show (decide ((∀y∈(x::l).take k,x.take (n+1) <+: y)∧x.take (n+1) <+: nth (x::l) k []))=decide (x.take (n+1) <+: nth (x::l) k [])from by
          rw [Bool.eq_iff_iff];simp only [dq_];exact ⟨fun q=>q.2,fun q=>⟨hI,q⟩⟩]
        rfl
      |false=>
        have hI:=df_ hI.symm
        rw [iteO_false,decide_eq_false (fun q=>hI (e1.1 q).1)];rfl,rfl⟩)
    (fun s hI=>by
      rw [List.take_length]at hI
      show ∃r,Bp_ (x::l) _ s _=_∧_
      unfold Bp_
      rw [dz_ (by omega)]
      cases s with
      |true=>
        have hI:=dt_ hI.symm
        refine ⟨_,?_,rfl⟩
        rw [iteO_true,dx_ (by simp),dx_ hg,tn_,if_pos hI];rfl
      |false=>
        have hI:=df_ hI.symm
        refine ⟨_,?_,rfl⟩
        rw [iteO_false,if_neg hI,show ((n+1:Nat):Int) - 1=((n:Nat):Int) by omega,g9_ (by omega) (by omega)];rfl) (s0:=true) (by simp)
  rw [←h2];exact h1
theorem rLcp_eq {l : T_2} (h : ∀ x ∈ l, x.length ≤ 281474976710656) : F2_ l = some (fw_ l) := by
  cases l with
  |nil=>rfl
  |cons x l=>
    have hp:fw_ (x::l) <+: x:=gp_ (mc_ ..)
    have key: ∀n:Nat,n≤x.length→(fw_ (x::l)).length≤n→ed_ (fun q:Int=>Bn_ (x::l) q) ((n:Nat):Int)=some (fw_ (x::l)):=by
      intro n
      induction n with
      |zero=>
        intro _ k
        have e:fw_ (x::l)=[]:=List.length_eq_zero_iff.1 (by omega)
        rw [e]
        refine e1_ ?_
        show Bn_ (x::l) _=_
        unfold Bn_
        rw [dz_ (by omega)];rfl
      |succ n ih=>
        intro hn k
        have hs:=rlcp_at h n hn
        by_cases c: ∀y∈x::l,x.take (n+1) <+: y
        · rw [if_pos c]at hs
          have h1:=k6_ (List.cons_ne_nil x l) c
          have h2:fw_ (x::l) <+: x.take (n+1):=by
            rw [ni_]at hp ⊢
            rw [List.length_take,List.take_take,Nat.min_eq_left k]
            exact ⟨by omega,hp.2⟩
          rw [qo_ h2 h1]
          exact e1_ hs
        rw [if_neg c]at hs
        refine fq_ hs (ih (by omega) ?_)
        rcases Nat.lt_or_ge (fw_ (x::l)).length (n+1)with q|q
        · omega
        refine absurd (fun y hy=> ?_) c
        have e:(fw_ (x::l)).length=n+1:=by omega
        have h3:=(ni_.1 hp).2
        rw [e]at h3
        rw [h3];exact gp_ hy
    unfold F2_
    rw [dz_ (by simp;omega),dx_ (by simp)]
    exact key x.length (Nat.le_refl _) hp.length_le
theorem g2_{n:Nat}{p:Nat→Bool}:(List.range n).all p=true↔ ∀j,j<n→p j=true:=by
  simp [List.all_eq_true,List.mem_range]
theorem jc_{R:Type}{step:Nat→Option (Nat⊕R)}{good bad:R}(n:Nat)(p:Nat→Bool)(hy: ∀k,k<n→p k=true→step k=some (.inl (k+1)))(hn: ∀k,k<n→p k=false→step k=some (.inr bad))(hd:step n=some (.inr good)):
    ed_ step 0=some (if (List.range n).all p=true then good else bad):=by
  have h:=rh_ (step:=step) (y:=bad) (no:=good) (fun k=>k) (fun k=> !p k) n (fun k hk h=>hy k hk (by simpa using h)) (fun k hk h=>hn k hk (by simpa using h)) hd
  rw [h,←List.not_all_eq_any_not]
  cases (List.range n).all p<;>rfl
def k5_(nx:N_1)(os:T_2)(n b:Nat):Bool:=decide (-1≤nth nx b 0) && decide (nth nx b 0<(n:Int)) && decide ((nth os b []).length≤4096) && (decide (nth nx b 0≠ -1) || decide (nth os b []=[]))
def yz_(nx:N_1)(os:T_2)(n:Nat):Bool:=decide (nx.length=256) && decide (os.length=256) && (List.range 256).all (k5_ nx os n)
theorem Ih_ (nx : N_1) (os : T_2) (n : Nat) : He_ nx os ((n : Nat) : Int) = some (yz_ nx os n) := by
  unfold He_ yz_
  by_cases h1:nx.length=256
  · rw [dz_ (by omega)]
    by_cases h2:os.length=256
    · rw [dz_ (by omega),decide_eq_true h1,decide_eq_true h2,Bool.true_and,Bool.true_and]
      have:=jc_ (step:=fun q:Nat=>Eb_ nx ((n:Nat):Int) os q) (good:=true) (bad:=false) 256 (k5_ nx os n) ?_ ?_ ?_
      · rw [this];cases (List.range 256).all (k5_ nx os n)<;>rfl
      · intro k hk hp
        simp only [k5_,Bool.and_eq_true,Bool.or_eq_true,dq_]at hp
        obtain ⟨⟨⟨p1,p2⟩,p3⟩,p4⟩:=hp
        simp only [Eb_,Fo_]
        rw [dy_ (by omega),dz_ (by omega),dz_ (by omega),dx_ (by omega),dz_ (by omega)]
        by_cases c:nth nx k (0:Int)= -1
        · rw [dy_ c,dx_ (by omega),dz_ (by rcases p4 with p4|p4<;>simp_all)];rfl
        rw [dz_ c];rfl
      · intro k hk hp
        simp only [Eb_,Fo_]
        rw [dy_ (by omega)]
        by_cases c1:nth nx k (0:Int)< -1
        · rw [dy_ c1];rfl
        rw [dz_ c1]
        by_cases c2:((n:Nat):Int)≤nth nx k (0:Int)
        · rw [dy_ c2];rfl
        rw [dz_ c2,dx_ (by omega)]
        by_cases c3:4096<(nth os k ([]:T_1)).length
        · rw [dy_ (by omega)];rfl
        rw [dz_ (by omega)]
        by_cases c4:nth nx k (0:Int)= -1
        · rw [dy_ c4,dx_ (by omega)]
          by_cases c5:nth os k ([]:T_1)=[]
          · exfalso
            simp only [k5_,c5]at hp
            rw [decide_eq_true (by omega),decide_eq_true (by omega)]at hp
            simp at hp
          rw [dy_ c5];rfl
        exfalso
        simp only [k5_]at hp
        rw [decide_eq_true (by omega),decide_eq_true (by omega),decide_eq_true (by omega),decide_eq_true c4]at hp
        simp at hp
      simp only [Eb_]
      rw [dz_ (by omega)];rfl
    rw [dy_ (by omega),decide_eq_false h2];simp
  rw [dy_ (by omega),decide_eq_false h1];simp
def hr_(q:Seq)(s:Nat):Bool:=decide ((nth q.tail s []).length≤4096) && (nth q.fin s false || decide (nth q.tail s []=[])) && yz_ (nth q.next s []) (nth q.outs s []) q.next.length
def gb_(q:Seq):Bool:=decide (q.next.length≤1024) && decide (q.outs.length=q.next.length) && decide (q.fin.length=q.next.length) && decide (q.tail.length=q.next.length) && decide (q.front.length≤4096) && (decide (q.next.length≠0) || decide (q.front=[]))
def d5_(q:Seq):Bool:=gb_ q && (List.range q.next.length).all (hr_ q)
theorem Fg_ (q : Seq) : Dn_ q = some (if d5_ q = true then 0 else 1) := by
  unfold Dn_
  by_cases h1:q.next.length≤1024
  rotate_left
  · rw [dy_ (by omega),if_neg (by simp [d5_,gb_,h1])]
  rw [dz_ (by omega)]
  by_cases h2:q.outs.length=q.next.length
  rotate_left
  · rw [dy_ (by omega),if_neg (by simp [d5_,gb_,h2])]
  rw [dz_ (by omega)]
  by_cases h3:q.fin.length=q.next.length
  rotate_left
  · rw [dy_ (by omega),if_neg (by simp [d5_,gb_,h3])]
  rw [dz_ (by omega)]
  by_cases h4:q.tail.length=q.next.length
  rotate_left
  · rw [dy_ (by omega),if_neg (by simp [d5_,gb_,h4])]
  rw [dz_ (by omega)]
  by_cases h5:q.front.length≤4096
  rotate_left
  · rw [dy_ (by omega),if_neg (by simp [d5_,gb_,h5])]
  rw [dz_ (by omega)]
  have key:(decide (q.next.length≠0) || decide (q.front=[]))=true→Ep_ q=some (if d5_ q=true then 0 else 1):=by
    intro h6
    have hs:gb_ q=true:=by simp only [gb_,h6,Bool.and_true,Bool.and_eq_true,dq_];exact ⟨⟨⟨⟨h1,h2⟩,h3⟩,h4⟩,h5⟩
    unfold Ep_ d5_
    rw [hs,Bool.true_and]
    refine jc_ (step:=fun k:Nat=>C1_ q k) q.next.length (hr_ q) ?_ ?_ ?_
    · intro k hk hp
      simp only [hr_,Bool.and_eq_true,dq_]at hp
      obtain ⟨⟨p1,p2⟩,p3⟩:=hp
      have hj:C4_ k q=some (.inl (k+1)):=by
        unfold C4_
        rw [dx_ (by omega),Ih_,d7_,p3];rfl
      simp only [C1_]
      rw [dy_ (by omega),dx_ (by omega),dz_ (by omega),dx_ (by omega)]
      cases hf:nth q.fin k false with
      |true=>rw [e8_];exact hj
      |false=>
        rw [hf,Bool.false_or,dq_]at p2
        rw [fg_,dx_ (by omega),dz_ (by simp [p2])];exact hj
    · intro k hk hp
      simp only [C1_]
      rw [dy_ (by omega),dx_ (by omega)]
      by_cases c1:4096<(nth q.tail k ([]:T_1)).length
      · rw [dy_ (by omega)];rfl
      rw [dz_ (by omega),dx_ (by omega)]
      have hj:(nth q.fin k false || decide (nth q.tail k []=[]))=true→C4_ k q=some (.inr 1):=by
        intro hh
        simp only [hr_,hh,Bool.and_true]at hp
        rw [decide_eq_true (by omega),Bool.true_and]at hp
        unfold C4_
        rw [dx_ (by omega),Ih_,d7_,hp];rfl
      cases hf:nth q.fin k false with
      |true=>rw [e8_];exact hj (by rw [hf];rfl)
      |false=>
        rw [fg_,dx_ (by omega)]
        by_cases c2:nth q.tail k ([]:T_1)=[]
        · rw [dz_ (by simp [c2])];exact hj (by rw [c2];simp)
        rw [dy_ c2];rfl
    simp only [C1_]
    rw [dz_ (by omega)];rfl
  by_cases h6:q.next.length=0
  · rw [dy_ (by omega)]
    by_cases h7:q.front=[]
    · rw [dz_ (by simp [h7])];exact key (by simp [h7])
    rw [dy_ h7,if_neg (by simp [d5_,gb_,h6,h7])]
  rw [dz_ (by omega)];exact key (by simp [h6])
theorem nd_(l m:T_1)(h:l.length+m.length≤140737488355328):gg_ ⟨l⟩ m=some (((m.length:Nat):Int),(),⟨l++m⟩):=by
  unfold gg_
  rw [dx_ (by omega),show id_ (⟨l⟩:SB)=some ⟨l⟩from rfl,d7_,dx_ h]
def sa_(q:Seq):T_1→Nat→Int→T_1→T_1×Nat×Bool
  |[],i,s,acc=>if nth q.fin s.toNat false=true then (acc++nth q.tail s.toNat [],i,true) else ([],i,false)
  |b::w,i,s,acc=>if nth (nth q.next s.toNat []) b.toNat 0<0 then ([],i,false) else sa_ q w (i+1) (nth (nth q.next s.toNat []) b.toNat 0) (acc++nth (nth q.outs s.toNat []) b.toNat [])
def it_(q:Seq)(w:T_1):T_1×Int×Bool×Int:=
  if d5_ q=true then (if q.next.length=0 then ([],0,false,0) else ((sa_ q w 0 0 q.front).1,(((sa_ q w 0 0 q.front).2.1:Nat):Int),(sa_ q w 0 0 q.front).2.2,0)) else ([],0,false,1)
structure CellOk (q:Seq) (s:Int) (b:UInt8):Prop where
  n:b.toNat<(nth q.next s.toNat []).length
  o:b.toNat<(nth q.outs s.toNat []).length
  lo: -1≤nth (nth q.next s.toNat []) b.toNat 0
  hi:nth (nth q.next s.toNat []) b.toNat 0<(q.next.length:Int)
  le:(nth (nth q.outs s.toNat []) b.toNat []).length≤4096
theorem d3_{q:Seq}(h:d5_ q=true):q.next.length≤1024∧q.outs.length=q.next.length∧q.fin.length=q.next.length∧q.tail.length=q.next.length∧q.front.length≤4096:=by
  simp only [d5_,gb_,Bool.and_eq_true,dq_]at h
  exact ⟨h.1.1.1.1.1.1,h.1.1.1.1.1.2,h.1.1.1.1.2,h.1.1.1.2,h.1.1.2⟩
theorem g6_{q:Seq}(h:d5_ q=true){s:Int}(h0:0≤s)(h1:s<(q.next.length:Int)):hr_ q s.toNat=true:=by
  simp only [d5_,Bool.and_eq_true]at h
  exact g2_.1 h.2 _ (by omega)
theorem sd_{q:Seq}(h:d5_ q=true){s:Int}(h0:0≤s)(h1:s<(q.next.length:Int)):(nth q.tail s.toNat []).length≤4096:=by
  have:=g6_ h h0 h1
  simp only [hr_,Bool.and_eq_true,dq_]at this
  exact this.1.1
theorem il_{q:Seq}(h:d5_ q=true){s:Int}(h0:0≤s)(h1:s<(q.next.length:Int))(b:UInt8):CellOk q s b:=by
  have hs:=g6_ h h0 h1
  simp only [hr_,yz_,Bool.and_eq_true,dq_]at hs
  obtain ⟨_,⟨h2,h3⟩,h4⟩:=hs
  have hb:=UInt8.toNat_lt b
  have hc:=g2_.1 h4 b.toNat (by omega)
  simp only [k5_,Bool.and_eq_true,dq_]at hc
  exact ⟨by omega,by omega,hc.1.1.1,hc.1.1.2,hc.1.2⟩
theorem v5_{α:Type}(l:List α){k:Nat}(h:k<l.length)(d:α):l.drop k=nth l k d::l.drop (k+1):=by
  rw [List.drop_eq_getElem_cons h]
  congr 1
  have h2:=getD_some l h d
  rw [List.getElem?_eq_getElem h]at h2;exact Option.some.inj h2
theorem o1_{q:Seq}(h:d5_ q=true)(w:T_1)(hw:w.length≤1000000): ∀(m k:Nat) (s:Int) (acc:T_1),w.length - k=m→k≤w.length→0≤s→s<(q.next.length:Int)→acc.length≤4096 * (k+1)→
    ed_ (fun z:T_1×Int×Nat=>C2_ w q z.1 z.2.1 z.2.2) (acc,s,k)=some ((sa_ q (w.drop k) k s acc).1,(((sa_ q (w.drop k) k s acc).2.1:Nat):Int),(sa_ q (w.drop k) k s acc).2.2,0)
  |0,k,s,acc,hm,hk,h0,h1,ha=>by
    obtain ⟨q1,q2,q3,q4,q5⟩:=d3_ h
    have ht:=sd_ h h0 h1
    have e:k=w.length:=by omega
    subst e
    refine e1_ ?_
    simp only [C2_]
    rw [List.drop_length,sa_,dz_ (by omega),dx_ (by omega)]
    cases hf:nth q.fin s.toNat false with
    |false=>rw [fg_];rfl
    |true=>
      rw [e8_,dx_ (by omega),nd_ _ _ (by omega),d7_];rfl
  | m + 1, k, s, acc, hm, hk, h0, h1, ha => by
    obtain ⟨q1,q2,q3,q4,q5⟩:=d3_ h
    obtain ⟨c1,c2,c3,c4,c5⟩:=il_ h h0 h1 (nth w k (0:UInt8))
    rw [v5_ w (show k<w.length by omega) (0:UInt8),sa_]
    by_cases cz:nth (nth q.next s.toNat ([]:N_1)) (nth w k (0:UInt8)).toNat (0:Int)<0
    · refine e1_ ?_
      simp only [C2_]
      rw [if_pos cz,dy_ (by omega),dx_ (by omega),dx_ c1,dy_ cz];rfl
    rw [if_neg cz]
    refine fq_ (s':=(acc++nth (nth q.outs s.toNat ([]:T_2)) (nth w k (0:UInt8)).toNat ([]:T_1),nth (nth q.next s.toNat ([]:N_1)) (nth w k (0:UInt8)).toNat (0:Int),k+1)) ?_ (o1_ h w hw m (k+1) _ _ (by omega) (by omega) (by omega) c4 (by rw [la_];omega))
    simp only [C2_]
    rw [dy_ (by omega),dx_ (by omega),dx_ c1,dz_ cz,dx_ (by omega),dx_ c2,nd_ _ _ (by omega),d7_];rfl
theorem mr_(q:Seq)(w:T_1)(hw:w.length≤1000000):Ea_ q w=some (it_ q w):=by
  unfold Ea_ it_
  rw [dx_ (by omega),Fg_,d7_]
  by_cases h:d5_ q=true
  · rw [if_pos h,dz_ (by omega),if_pos h]
    by_cases h2:q.next.length=0
    · rw [dy_ (by omega),if_pos h2]
    rw [dz_ (by omega),if_neg h2,nd_ _ _ (by have:=(d3_ h).2.2.2.2;simp only [List.length_nil];omega),d7_]
    simp only [List.nil_append]
    have:=o1_ h w hw _ 0 0 q.front rfl (Nat.zero_le _) (by omega) (by omega) (by have:=(d3_ h).2.2.2.2;omega)
    rw [List.drop_zero]at this
    exact this
  rw [if_neg h,dy_ (by omega),if_neg h]
theorem q6_{q:Seq}(h:d5_ q=true)(w:T_1):(it_ q w).2.2.2=0:=by
  unfold it_;rw [if_pos h];split<;>rfl
def nxQ(q:Seq)(s b:Nat):Int:=nth (nth q.next s []) b 0
def otQ(q:Seq)(s b:Nat):T_1:=nth (nth q.outs s []) b []
def eq_(q:Seq):Nat→T_1→Option T_1
  |s,[]=>if nth q.fin s false=true then some (nth q.tail s []) else none
  |s,b::w=>if nxQ q s b.toNat<0 then none else (eq_ q (nxQ q s b.toNat).toNat w).map fun y=>otQ q s b.toNat++y
def p5_(q:Seq)(s:Nat):Prop:= ∃w y,eq_ q s w=some y
def ComQ(q:Seq)(s:Nat)(p:T_1):Prop:= ∀w y,eq_ q s w=some y→p <+: y
structure FrI (q:Seq) (l:T_2) (m:B_1):Prop where
  ln:l.length=q.next.length
  mn:m.length=q.next.length
  no: ∀s,s<q.next.length→nth m s false=false→nth l s []=[]
  live: ∀s,s<q.next.length→nth m s false=true→p5_ q s
  up: ∀s,s<q.next.length→nth m s false=true→ ∀p,ComQ q s p→p <+: nth l s []
def un_(q:Seq)(l:T_2)(m:B_1)(s b:Nat):T_2:=
  if 0≤nxQ q s b∧nth m (nxQ q s b).toNat false=true then [otQ q s b++nth l (nxQ q s b).toNat []] else []
def he_(q:Seq)(l:T_2)(m:B_1)(s k:Nat):T_2:=(if nth q.fin s false=true then [nth q.tail s []] else [])++(List.range k).flatMap (un_ q l m s)
def gy_(q:Seq)(l:T_2)(m:B_1)(s:Nat):T_2:=he_ q l m s 256
theorem lw_(q:Seq)(l:T_2)(m:B_1)(s k:Nat):he_ q l m s (k+1)=he_ q l m s k++un_ q l m s k:=by
  simp [he_,List.range_succ,ap_]
theorem h4_{q:Seq}{l:T_2}{m:B_1}{s:Nat}{x:T_1}:x∈gy_ q l m s↔(nth q.fin s false=true∧x=nth q.tail s [])∨ ∃b,b<256∧0≤nxQ q s b∧nth m (nxQ q s b).toNat false=true∧x=otQ q s b++nth l (nxQ q s b).toNat []:=by
  unfold gy_ he_
  rw [List.mem_append]
  constructor
  · rintro (h|h)
    · split at h
      · rename_i c;rw [mo_]at h;exact .inl ⟨c,h⟩
      cases h
    obtain ⟨b,hb,h⟩:=List.mem_flatMap.1 h
    unfold un_ at h
    split at h
    · rename_i c;rw [mo_]at h;exact .inr ⟨b,List.mem_range.1 hb,c.1,c.2,h⟩
    cases h
  rintro (⟨c,h⟩|⟨b,hb,c1,c2,h⟩)
  · left;rw [if_pos c,mo_];exact h
  right
  refine List.mem_flatMap.2 ⟨b,List.mem_range.2 hb,?_⟩
  unfold un_
  rw [if_pos ⟨c1,c2⟩,mo_];exact h
theorem sg_{b:Nat}(hb:b<256):(UInt8.ofNat b).toNat=b:=by rw [UInt8.toNat_ofNat'];omega
theorem e2_{q:Seq}(h:d5_ q=true){s b:Nat}(hs:s<q.next.length)(hb:b<256):nxQ q s b<(q.next.length:Int):=by
  have:=(il_ h (s:=((s:Nat):Int)) (by omega) (by omega) (UInt8.ofNat b)).hi
  rw [sg_ hb,tn_]at this;exact this
theorem q8_{q:Seq}(h:d5_ q=true){s b:Nat}(hs:s<q.next.length)(hb:b<256): -1≤nxQ q s b:=by
  have:=(il_ h (s:=((s:Nat):Int)) (by omega) (by omega) (UInt8.ofNat b)).lo
  rw [sg_ hb,tn_]at this;exact this
theorem ki_{q:Seq}(h:d5_ q=true){s b:Nat}(hs:s<q.next.length)(hb:b<256):(otQ q s b).length≤4096:=by
  have:=(il_ h (s:=((s:Nat):Int)) (by omega) (by omega) (UInt8.ofNat b)).le
  rw [sg_ hb,tn_]at this;exact this
theorem vj_{q:Seq}{s b:Nat}(hb:b<256)(h0:0≤nxQ q s b){p:T_1}(hp:ComQ q s p): ∀w y,eq_ q (nxQ q s b).toNat w=some y→p <+: otQ q s b++y:=fun w y hy=>by
  refine hp (UInt8.ofNat b::w) _ ?_
  rw [eq_,sg_ hb,if_neg (by omega),hy];rfl
theorem FrI.all{q:Seq}(hq:d5_ q=true){l:T_2}{m:B_1}(h:FrI q l m){s:Nat}(hs:s<q.next.length){p:T_1}(hp:ComQ q s p): ∀x∈gy_ q l m s,p <+: x:=fun x hx=>by
  rcases h4_.1 hx with ⟨c,rfl⟩|⟨b,hb,h0,hm,rfl⟩
  · refine hp [] _ ?_
    rw [eq_,if_pos c]
  have hz:=e2_ hq hs hb
  have hv:=vj_ hb h0 hp
  obtain ⟨w,y,hy⟩:=h.live _ (show (nxQ q s b).toNat<_ by omega) hm
  have h1:=hv w y hy
  rcases List.prefix_or_prefix_of_prefix h1 (List.prefix_append (otQ q s b) y)with h2|⟨r,hr⟩
  · exact h2.trans (List.prefix_append _ _)
  subst hr
  rw [List.prefix_append_right_inj]
  refine h.up _ (by omega) hm r fun w y hy=> ?_
  have:=hv w y hy
  rwa [List.prefix_append_right_inj]at this
theorem FrI.goes{q:Seq}(hq:d5_ q=true){l:T_2}{m:B_1}(h:FrI q l m){s:Nat}(hs:s<q.next.length)(hn:gy_ q l m s≠[]):p5_ q s:=by
  obtain ⟨x,hx⟩:=List.exists_mem_of_ne_nil _ hn
  rcases h4_.1 hx with ⟨c,rfl⟩|⟨b,hb,h0,hm,rfl⟩
  · exact ⟨[],_,by rw [eq_,if_pos c]⟩
  have hz:=e2_ hq hs hb
  obtain ⟨w,y,hy⟩:=h.live _ (show (nxQ q s b).toNat<_ by omega) hm
  refine ⟨UInt8.ofNat b::w,otQ q s b++y,?_⟩
  rw [eq_,sg_ hb,if_neg (by omega),hy];rfl
theorem FrI.put{q:Seq}(hq:d5_ q=true){l:T_2}{m:B_1}(h:FrI q l m){s:Nat}(hs:s<q.next.length)(hn:gy_ q l m s≠[]):FrI q (l.set s (fw_ (gy_ q l m s))) (m.set s true):=by
  have hl:=h.ln
  have hm:=h.mn
  refine ⟨by rw [ls_];exact hl,by rw [ls_];exact hm,fun z hz hz2=> ?_,fun z hz hz2=> ?_,fun z hz hz2 p hp=> ?_⟩
  · rw [eb_]at hz2 ⊢
    by_cases c:s=z
    · rw [if_pos ⟨c,by omega⟩]at hz2;cases hz2
    rw [if_neg (fun q=>c q.1)]at hz2 ⊢;exact h.no z hz hz2
  · rw [eb_]at hz2
    by_cases c:s=z
    · subst c;exact h.goes hq hs hn
    rw [if_neg (fun q=>c q.1)]at hz2;exact h.live z hz hz2
  rw [eb_]at hz2 ⊢
  by_cases c:s=z
  · subst c
    rw [if_pos ⟨rfl,by omega⟩]
    exact k6_ hn (h.all hq hs hp)
  rw [if_neg (fun q=>c q.1)]at hz2 ⊢;exact h.up z hz hz2 p hp
def om_(q:Seq)(l:T_2)(m:B_1)(s:Nat):Prop:=(nth m s false=true→nth l s []=fw_ (gy_ q l m s))∧(nth m s false=false→gy_ q l m s=[])
theorem nt_{q:Seq}(hq:d5_ q=true){l:T_2}{m:B_1}(hd: ∀s,s<q.next.length→om_ q l m s): ∀(w:T_1) (s:Nat) (y:T_1),s<q.next.length→eq_ q s w=some y→nth m s false=true∧nth l s [] <+: y
  |[],s,y,hs,hy=>by
    rw [eq_]at hy
    split at hy
    · rename_i c
      cases hy
      have hmem:nth q.tail s []∈gy_ q l m s:=h4_.2 (.inl ⟨c,rfl⟩)
      cases hm:nth m s false with
      |false=>have:=(hd s hs).2 hm;rw [this]at hmem;cases hmem
      |true=>exact ⟨rfl,by rw [(hd s hs).1 hm];exact gp_ hmem⟩
    cases hy
  | b :: w, s, y, hs, hy => by
    rw [eq_]at hy
    have hb:=UInt8.toNat_lt b
    split at hy
    · cases hy
    rename_i c
    have hz:=e2_ hq hs (show b.toNat<256 by omega)
    cases ho:eq_ q (nxQ q s b.toNat).toNat w with
    |none=>rw [ho]at hy;cases hy
    |some y'=>
      rw [ho]at hy
      cases hy
      obtain ⟨h1,h2⟩:=nt_ hq hd w _ y' (show (nxQ q s b.toNat).toNat<_ by omega) ho
      have hmem:otQ q s b.toNat++nth l (nxQ q s b.toNat).toNat []∈gy_ q l m s:=h4_.2 (.inr ⟨b.toNat,by omega,by omega,h1,rfl⟩)
      have h3:otQ q s b.toNat++nth l (nxQ q s b.toNat).toNat [] <+: otQ q s b.toNat++y':=by rwa [List.prefix_append_right_inj]
      cases hm:nth m s false with
      |false=>have:=(hd s hs).2 hm;rw [this]at hmem;cases hmem
      |true=>exact ⟨rfl,by rw [(hd s hs).1 hm];exact (gp_ hmem).trans h3⟩
structure FrOk (q:Seq) (l:T_2) (m:B_1):Prop where
  ln:l.length=q.next.length
  mn:m.length=q.next.length
  live: ∀s,s<q.next.length→(nth m s false=true↔p5_ q s)
  no: ∀s,s<q.next.length→nth m s false=false→nth l s []=[]
  com: ∀s,s<q.next.length→ComQ q s (nth l s [])
  up: ∀s,s<q.next.length→nth m s false=true→ ∀p,ComQ q s p→p <+: nth l s []
  le: ∀s,s<q.next.length→(nth l s []).length≤4194304
theorem FrI.ok{q:Seq}(hq:d5_ q=true){l:T_2}{m:B_1}(h:FrI q l m)(hle: ∀s,s<q.next.length→nth m s false=true→(nth l s []).length≤4194304)(hd: ∀s,s<q.next.length→om_ q l m s):FrOk q l m:=
  ⟨h.ln,h.mn,fun s hs=>⟨h.live s hs,fun ⟨w,y,hy⟩=>(nt_ hq hd w s y hs hy).1⟩,h.no,fun s hs w y hy=>(nt_ hq hd w s y hs hy).2,h.up,fun s hs=>by
    cases c:nth m s false with
    |true=>exact hle s hs c
    |false=>rw [h.no s hs c];exact Nat.zero_le _⟩
theorem FrOk.uniq{q:Seq}{l l':T_2}{m m':B_1}(h:FrOk q l m)(k:FrOk q l' m'):l=l'∧m=m':=by
  have hm:m=m':=gr_ false (by rw [h.mn,k.mn]) fun s hs=>by
    have hs:s<q.next.length:=by rw [←h.mn];exact hs
    rw [Bool.eq_iff_iff,h.live s hs,k.live s hs]
  subst hm
  refine ⟨gr_ [] (by rw [h.ln,k.ln]) fun s hs=> ?_,rfl⟩
  have hs:s<q.next.length:=by rw [←h.ln];exact hs
  cases hc:nth m s false with
  |false=>rw [h.no s hs hc,k.no s hs hc]
  |true=>exact qo_ (k.up s hs hc _ (h.com s hs)) (h.up s hs hc _ (k.com s hs))
def LeQ(n:Nat)(l:T_2)(m:B_1)(l':T_2)(m':B_1):Prop:= ∀s,s<n→nth m s false=true→nth m' s false=true∧nth l' s [] <+: nth l s []
theorem LeQ.all{q:Seq}(hq:d5_ q=true){l l':T_2}{m m':B_1}(h:LeQ q.next.length l m l' m'){s:Nat}(hs:s<q.next.length): ∀x∈gy_ q l m s, ∃x'∈gy_ q l' m' s,x' <+: x:=fun x hx=>by
  rcases h4_.1 hx with ⟨c,rfl⟩|⟨b,hb,h0,hm,rfl⟩
  · exact ⟨_,h4_.2 (.inl ⟨c,rfl⟩),List.prefix_refl _⟩
  have hz:=e2_ hq hs hb
  obtain ⟨h1,h2⟩:=h _ (show (nxQ q s b).toNat<_ by omega) hm
  exact ⟨_,h4_.2 (.inr ⟨b,hb,h0,h1,rfl⟩),by rwa [List.prefix_append_right_inj]⟩
theorem LeQ.lcp{q:Seq}(hq:d5_ q=true){l l':T_2}{m m':B_1}(h:LeQ q.next.length l m l' m'){s:Nat}(hs:s<q.next.length)(hn:gy_ q l m s≠[]):fw_ (gy_ q l' m' s) <+: fw_ (gy_ q l m s):=
  k6_ hn fun x hx=>by
    obtain ⟨x',h1,h2⟩:=h.all hq hs x hx
    exact (gp_ h1).trans h2
def ve_(q:Seq)(l:T_2)(m:B_1):Prop:= ∀s,s<q.next.length→nth m s false=true→gy_ q l m s≠[]∧fw_ (gy_ q l m s) <+: nth l s []
theorem zn_{q:Seq}{l:T_2}{m:B_1}(h:ve_ q l m){s:Nat}(hs:s<q.next.length)(hl:l.length=q.next.length)(hm:m.length=q.next.length):LeQ q.next.length l m (l.set s (fw_ (gy_ q l m s))) (m.set s true):=fun z hz hz2=>by
  rw [eb_,eb_]
  by_cases c:s=z
  · subst c
    rw [if_pos ⟨rfl,by omega⟩,if_pos ⟨rfl,by omega⟩]
    exact ⟨rfl,(h s hs hz2).2⟩
  rw [if_neg (fun q=>c q.1),if_neg (fun q=>c q.1)]
  exact ⟨hz2,List.prefix_refl _⟩
theorem ve_.put{q:Seq}(hq:d5_ q=true){l:T_2}{m:B_1}(h:ve_ q l m){s:Nat}(hs:s<q.next.length)(hl:l.length=q.next.length)(hm:m.length=q.next.length)(hn:gy_ q l m s≠[]):ve_ q (l.set s (fw_ (gy_ q l m s))) (m.set s true):=fun z hz hz2=>by
  have hle:=zn_ h hs hl hm
  rw [eb_]at hz2
  by_cases c:s=z
  · subst c
    obtain ⟨x,hx⟩:=List.exists_mem_of_ne_nil _ hn
    obtain ⟨x',h1,_⟩:=hle.all hq hs x hx
    refine ⟨List.ne_nil_of_mem h1,?_⟩
    have:=hle.lcp hq hs hn
    rw [eb_ (l:=l),if_pos ⟨rfl,by omega⟩]
    exact this
  rw [if_neg (fun q=>c q.1)]at hz2
  obtain ⟨k1,k2⟩:=h z hz hz2
  obtain ⟨x,hx⟩:=List.exists_mem_of_ne_nil _ k1
  obtain ⟨x',h1,_⟩:=hle.all hq hz x hx
  refine ⟨List.ne_nil_of_mem h1,?_⟩
  have:=hle.lcp hq hz k1
  rw [eb_ (l:=l),if_neg (fun q=>c q.1)]
  exact this.trans k2
theorem ew_{q:Seq}(h:d5_ q=true){s:Nat}(hs:s<q.next.length):(nth q.next s []).length=256∧(nth q.outs s []).length=256:=by
  have hst:=g6_ h (s:=((s:Nat):Int)) (by omega) (by omega)
  rw [tn_]at hst
  simp only [hr_,yz_,Bool.and_eq_true,dq_]at hst
  exact hst.2.1
theorem f2_{q:Seq}(h:d5_ q=true){s:Nat}(hs:s<q.next.length):(nth q.tail s []).length≤4096∧(nth q.fin s false=true∨nth q.tail s []=[]):=by
  have hst:=g6_ h (s:=((s:Nat):Int)) (by omega) (by omega)
  rw [tn_]at hst
  simp only [hr_,Bool.and_eq_true,Bool.or_eq_true,dq_]at hst
  exact hst.1
theorem h1_{q:Seq}(h:d5_ q=true){s b:Nat}(hs:s<q.next.length)(hb:b<256)(hn:nxQ q s b<0):otQ q s b=[]:=by
  have hst:=g6_ h (s:=((s:Nat):Int)) (by omega) (by omega)
  rw [tn_]at hst
  simp only [hr_,yz_,Bool.and_eq_true,dq_]at hst
  have hc:=g2_.1 hst.2.2 b hb
  simp only [k5_,Bool.and_eq_true,Bool.or_eq_true,dq_]at hc
  have h1:nth (nth q.next s []) b 0<0:=hn
  have h2:=hc.1.1.1
  rcases hc.2 with c|c
  · omega
  exact c
end Go.Proofs.YtchebnpdnfhenaaGreatDoor
end

noncomputable section
namespace Go.E
open Go
theorem mi_{P:Program}{w:World}(t ty e:TypeId)(i:TypeInfo)(ht:P.underlying t=some (.slice e))(hi:P.info? e=some i)
    (g o sLen sCap:Nat) (cur:Array Value) (hg:w.heap[g]? =some (.cells cur e (0,0)))
    (a:Addr) (m c:Nat) (news:List Value) (hl:news.length=m * i.size) (hnews: ∀j u,news[j]? =some u→w.cell? (a.add j)=some u) (h1: ∀u∈news,u.oneCell'=true)
    (hroom:sLen+m≤sCap) (hfit:o+sLen * i.size+news.length≤cur.size):
    (Builtin.append_ #[t,t] ty #[.slice (some ⟨g,o,none⟩) sLen sCap,.slice (some a) m c]).run P w=
      .ok (.slice (some ⟨g,o,none⟩) (sLen+m) sCap) (w.setRow g (cur.toList.take (o+sLen * i.size)++news++cur.toList.drop (o+sLen * i.size+news.length)).toArray):=by
  have hf:=run_firstCells_some (P:=P) w i.size m a m c news hl hnews
  have hst:=run_storeCells_at P g (o+sLen * i.size) e news 0 cur w hg (by simpa using hfit) h1
  simp only [Nat.add_zero]at hst
  simp [Builtin.append_,run_underlying ht,sizeOf,typeInfo,hi,Builtin.lenOf,hroom,hf,Addr.add_lit,hst]
def pv_(size k:Nat):Value→Value
  | .slice a n c=> .slice (a.map fun b=>b.add (k * size)) (n - k) (c - k)
  |v=>v
theorem o8_(size:Nat)(v:Value):pv_ size 0 v=v:=by
  cases v<;>simp only [pv_]
  rename_i a n c
  cases a<;>simp [Addr.add]
theorem sc_(size k:Nat)(v:Value):(pv_ size k v).ownBlock=v.ownBlock:=by
  cases v<;>simp only [pv_]
  rename_i a n c
  cases a with
  |none=>rfl
  |some b=>simp only [Value.ownBlock,Option.map_some,Addr.add];split<;>rfl
def View(size k:Nat)(v0 v:Value)(n:Nat):Prop:=v=pv_ size k v0∨n=0∧v.ownBlock=v0.ownBlock∧ ∃a,v= .slice a 0 0
theorem View.block{size k:Nat}{v0 v:Value}{n:Nat}(h:View size k v0 v n):v.ownBlock=v0.ownBlock:=by
  rcases h with rfl|⟨_,h,_⟩
  · exact sc_ ..
  exact h
def Row0{α:Type}(E size:Nat)(enc:α→List Value)(v:Value)(L:List α)(w:World):Prop:=w.ownsRow 0 E size v L.length (L.flatMap enc)∧ ∀u∈L.flatMap enc,u.oneCell'=true
def Res.queS {α : Type} (E size : Nat) (enc : α → List Value) (v : Value) (l : List α) : Res where
  bl:=v.ownBlock.toList
  holds w:= ∃(L:List α) (v0:Value) (k:Nat),Row0 E size enc v0 L w∧k≤L.length∧l=L.drop k∧View size k v0 v l.length∧l.length≤281474976710656
  lt w b hb h:=by
    obtain ⟨L,v0,k,h,_,_,hv,_⟩:=h
    exact (h.1.lt b (by rw [←hv.block];exact Option.mem_toList.1 hb)).2
  keep w w' hb h:=by
    obtain ⟨L,v0,k,⟨h,ho⟩,h1,h2,hv,h3⟩:=h
    refine ⟨L,v0,k,⟨⟨h.1,?_⟩,ho⟩,h1,h2,hv,h3⟩
    have hbl:=hv.block
    rcases h.2 with hn|⟨g,cap,cur,rfl,h0,hg,rest⟩
    · exact .inl hn
    exact .inr ⟨g,cap,cur,rfl,h0,by rw [hb g (by rw [hbl];exact Option.mem_toList.2 rfl)];exact hg,rest⟩
section
variable {α:Type} {E size:Nat} {enc:α→List Value} {v:Value} {l:List α}
theorem Reach.c0_{w0:World}{C:List Nat}{σ0 σ:dw_}{w:World}{F:List Res}(h:Reach w0 C σ0 σ w (Res.rowS E size enc v l::F)):Reach w0 C σ0 σ w (Res.queS E size enc v l::F):=
  h.bi_ v.ownBlock v.ownBlock rfl rfl rfl rfl rfl (Nat.le_refl _) (Nat.le_refl _) (fun _ _ _=>rfl) ⟨l,v,0,⟨(h.holds _ (mc_ ..)).1,(h.holds _ (mc_ ..)).2.1⟩,Nat.zero_le _,rfl,.inl (o8_ size v).symm,(h.holds _ (mc_ ..)).2.2⟩ (fun _ hb=> .inl hb)
theorem TC.c0_{X:Ctx}{Q:QP}{c:Code}{e:Env}{σ:dw_}{F:List Res}(k:TC X Q c e σ (Res.queS E size enc v l::F)):TC X Q c e σ (Res.rowS E size enc v l::F):=fun w a hw ha=>k w a (hw.by fun _ h=>h.c0_) ha
theorem que_sl{w:World}(h:(Res.queS E size enc v l).holds w):nc_ v l.length∧l.length≤281474976710656:=by
  obtain ⟨L,v0,k,h,hk,rfl,hv,hb⟩:=h
  obtain ⟨a,c,rfl,h0,hc⟩:=isSl_row h.1
  rw [List.length_drop]at hv hb ⊢
  rcases hv with rfl|⟨h1, -,a',rfl⟩
  · refine ⟨⟨_,_,rfl,fun hn=> ?_,by omega⟩,by omega⟩
    cases a with
    |none=>obtain ⟨h1,h2⟩:=h0 rfl;omega
    |some b=>cases hn
  rw [h1];exact ⟨⟨a',0,rfl,fun _=>⟨rfl,rfl⟩,Nat.le_refl _⟩,by omega⟩
theorem tc_{σ:dw_}{H:List Res}{q:Nat}(hq:H[q]? =some (Res.queS E size enc v l)): ∀w,gv_ σ H w→nc_ v l.length∧l.length≤281474976710656:=fun w hw=>que_sl (hw.2 _ (List.mem_of_getElem? hq))
theorem rr_{w:World}(h:(Res.queS E size enc v l).holds w):(∃(L:List α) (g k c:Nat) (cur:Array Value),k≤L.length∧l=L.drop k∧v= .slice (some ⟨g,k * size,none⟩) (L.length - k) (c - k)∧w.heap[g]? =some (.cells cur E (0,0))∧L.length≤c∧c≤maxLen∧cur.size=c * size∧cur.toList.take (L.length * size)=L.flatMap enc∧(L.flatMap enc).length=L.length * size∧(∀u∈L.flatMap enc,u.oneCell'=true)∧l.length≤281474976710656)∨l=[]∧ ∃a,v= .slice a 0 0:=by
  obtain ⟨L,v0,k,h,hk,rfl,hv,hbig⟩:=h
  rw [List.length_drop]at hv
  obtain ⟨⟨hl,h1⟩,hone⟩:=h
  rcases hv with rfl|⟨h7, -,a,rfl⟩
  · rcases h1 with ⟨rfl,hn⟩|⟨g,c,cur,rfl, -,hg,h3,h4,h5,h6⟩
    · refine .inr ⟨en_ (by rw [List.length_drop];omega),none,?_⟩
      simp [pv_]
    refine .inl ⟨L,g,k,c,cur,hk,rfl,?_,hg,h3,h4,h5,h6,hl,hone,hbig⟩
    unfold pv_
    simp only [Option.map_some,f9_,Nat.zero_add]
  exact .inr ⟨en_ (by rw [List.length_drop];exact h7),a,rfl⟩
theorem td_{w:World}(h:(Res.queS E size enc v l).holds w)(h0:0<l.length): ∃(L:List α) (g k c:Nat) (cur:Array Value),k<L.length∧l=L.drop k∧v= .slice (some ⟨g,k * size,none⟩) (L.length - k) (c - k)∧w.heap[g]? =some (.cells cur E (0,0))∧L.length≤c∧c≤maxLen∧cur.size=c * size∧cur.toList.take (L.length * size)=L.flatMap enc∧(L.flatMap enc).length=L.length * size∧(∀u∈L.flatMap enc,u.oneCell'=true)∧l.length≤281474976710656:=by
  rcases rr_ h with ⟨L,g,k,c,cur,hk,rfl,h⟩|⟨rfl, -⟩
  · rw [List.length_drop]at h0;exact ⟨L,g,k,c,cur,by omega,rfl,h⟩
  cases h0
theorem oe_{size:Nat}(hl: ∀x,(enc x).length=size): ∀(L:List α) (k:Nat),(L.drop k).flatMap enc=(L.flatMap enc).drop (k * size)
  |L,0=>by simp
  |[],k+1=>by simp
  |x::L,k+1=>by
    rw [List.drop_succ_cons,oe_ hl L k,List.flatMap_cons,Nat.add_mul,Nat.one_mul,Nat.add_comm,←hl x,List.drop_length_add_append]
theorem OpVal.c9_{P:Program}{n:Nat}{e:Env}{σ:dw_}{H:List Res}{o:Oper}{x:Operand}{T q i:Nat}{u:Value}(d:α)(ho:o.op= .load T x)(hA:aggOf P T=some false)(hx:ev e x=io_ v (i * 1))(hq:H[q]? =some (Res.queS E 1 enc v l))(hl: ∀x,(enc x).length=1)(hi:i<l.length)
    (hu:(enc (nth l i d))[0]? =some u):OpVal P n o e σ H u:=fun w hw=>by
  have hQ:=hw.2 _ (List.mem_of_getElem? hq)
  obtain ⟨L,g,k,c,cur,hk,rfl,rfl,hg,h3,h4,h5,h6,h7,h8,h9⟩:=td_ hQ (by omega)
  rw [List.length_drop]at hi
  have hn:nth (L.drop k) i d=nth L (k+i) d:=by unfold nth;simp [List.getD_eq_getElem?_getD,List.getElem?_drop]
  rw [hn]at hu
  have hx':ev e x=loc g (k+i):=by
    rw [hx];unfold io_ loc;simp only [f9_,Nat.mul_one]
  have hc:cur.toList[k+i]? =some u:=by
    have h10:(L.flatMap enc)[(k+i) * 1+0]? =some u:=by rw [ge_ hl L (k+i) 0 _ (getD_some L (by omega) d) (by omega)];exact hu
    rw [←h6,List.getElem?_take]at h10
    split at h10
    · simpa using h10
    cases h10
  exact OpVal.ab_ (n:=n) (H:=[Res.cells g cur E]) (i:=0) ho hA hx' rfl (by simpa using hc) w ⟨hw.1,fun r hr=>by rw [List.mem_singleton.1 hr];exact hg⟩
end
section
variable {X:Ctx} {e:Env} {σ:dw_} {F:List Res} {o:Oper} {x y:Operand} {K:Env→dw_→List Res→Prop} {α:Type} {E size d:Nat} {enc:α→List Value} {v:Value} {l:List α}
theorem OpOk.popQ {T i : Nat} {k : IntKind} (ho : o.op = .slice T x (some y) none none) (ht : X.P.underlying T = some (.slice E)) (hs : szOf X.P E = some size) (hd : o.dst = some d) (hn : Nat.blt d X.n = true) (hx : ev e x = v) (hy : ev e y = .int k (i : Nat)) (hi : i ≤ l.length) (h0 : 0 < l.length)
    (kk: ∀a c,K (upd e d (.slice a (l.drop i).length c)) σ (Res.queS E size enc (.slice a (l.drop i).length c) (l.drop i)::F)):OpOk X o e σ (Res.queS E size enc v l::F) K:=by
  intro u0 C0 τ0 w a hw ha K' Q hK
  have hQ:=hw.holds _ (mc_ ..)
  obtain ⟨L,g,q,c,cur,hk,rfl,rfl,hg,h3,h4,h5,h6,h7,h8,h9⟩:=td_ hQ h0
  rw [List.length_drop]at hi
  have hlen:((L.drop q).drop i).length=L.length - q - i:=by rw [List.length_drop,List.length_drop]
  have hrow:Row0 E size enc (.slice (some ⟨g,0,none⟩) L.length c) L w:=⟨⟨h7,.inr ⟨g,c,cur,rfl,Nat.zero_le _,hg,h3,h4,h5,h6⟩⟩,h8⟩
  obtain ⟨a',hrun,hV⟩: ∃a',(execOp (ev e) o).run X.P w= .ok (.value (.slice a' (L.length - q - i) (c - q - i))) w∧(Value.slice a' (L.length - q - i) (c - q - i)).ownBlock=(Value.slice (some ⟨g,0,none⟩) L.length c).ownBlock∧View size (q+i) (.slice (some ⟨g,0,none⟩) L.length c) (.slice a' (L.length - q - i) (c - q - i)) (L.length - q - i):=by
    by_cases hc:c - q=i
    · refine ⟨some ⟨g,q * size,none⟩,?_,rfl,.inr ⟨by omega,rfl,?_⟩⟩
      · have h1:(i:Int)≤((c - q:Nat):Int):=by omega
        have h2:(i:Int)≤((L.length - q:Nat):Int):=by omega
        simp [execOp,ho,hx,hy,Instr.sliceAt,Instr.slice,Instr.sliceBounds,Instr.sliceBound,asIntOf,run_underlying ht,er_ hs]
        rw [if_pos hi,if_pos hc]
      rw [show L.length - q - i=0 by omega,show c - q - i=0 by omega];exact ⟨_,rfl⟩
    refine ⟨some ⟨g,(q+i) * size,none⟩,?_,rfl,.inl ?_⟩
    · simp [execOp,ho,hx,hy,Instr.sliceAt,Instr.slice,Instr.sliceBounds,Instr.sliceBound,asIntOf,run_underlying ht,er_ hs]
      rw [if_pos hi,if_neg hc,f9_,←Nat.add_mul]
    unfold pv_
    simp only [Option.map_some,f9_,Nat.zero_add,Nat.sub_sub]
  have hR:Reach u0 C0 τ0 σ w (Res.queS E size enc (.slice a' (L.length - q - i) (c - q - i)) ((L.drop q).drop i)::F):=
    hw.bi_ (some g) (some g) rfl (by show (Value.slice a' (L.length - q - i) (c - q - i)).ownBlock.toList=_;rw [hV.1];rfl) rfl rfl rfl (Nat.le_refl _) (Nat.le_refl _) (fun _ _ _=>rfl) ⟨L,_,q+i,hrow,by omega,by rw [List.drop_drop],by rw [hlen];exact hV.2,by rw [List.length_drop]at h9;omega⟩ (fun _ hb=> .inl hb)
  have hk2:=kk a' (c - q - i)
  rw [hlen]at hk2
  refine Oper.ao_ (w':=w) (v:= .slice a' (L.length - q - i) (c - q - i)) ?_ (hK _ _ _ _ _ hk2 hR (fa_ ha hd hn _))
  rw [ha.eval'];exact hrun
theorem OpOk.cs_ {T by_ : Nat} {z u : Value} {l2 : List α} {ty : TypeId} (ho : o.op = .call { callee := .builtin .append, args := #[x, y], argTypes := #[T, ty] }) (hty : ty = T) (ht : X.P.underlying T = some (.slice E)) (hs : szOf X.P E = some size) (hby : byOf X.P E = some by_) (hz : zeroOf X.P E = some z)
    (hd:o.dst=some d) (hn:Nat.blt d X.n=true) (hsz:0<size) (hzs:z.cells.size=size) (hl: ∀x,(enc x).length=size) (hx:ev e x=v) (hy:ev e y=u) (hsrc:sn_ σ F size enc u l2) (hb0:(l.length+l2.length) * by_≤140737488355328) (hby0:0<by_) (h2:0<l2.length)
    (k: ∀a c,K (upd e d (.slice a (l++l2).length c)) σ (Res.queS E size enc (.slice a (l++l2).length c) (l++l2)::F)):OpOk X o e σ (Res.queS E size enc v l::F) K:=by
  subst hty
  obtain ⟨i,hi,hsi⟩:=g1_ hs
  have hiz:i.zero=some z:=by simpa [zeroOf,hi]using hz
  have hib:i.bytes=by_:=by simpa [byOf,hi]using hby
  have hm0:l.length+l2.length≤140737488355328:=Nat.le_trans (Nat.le_mul_of_pos_right _ hby0) hb0
  have hm:l.length+l2.length≤maxLen:=by unfold maxLen;omega
  intro u0 C0 τ0 w a hw ha K' Q hK
  have hQ:=hw.holds _ (mc_ ..)
  have hF:gv_ σ F w:=⟨hw.fit,fun r hr=>hw.holds r (mm_ _ hr)⟩
  have hsrc':ts_ σ F size u l2.length (l2.flatMap enc):=by
    rcases hsrc with h|⟨E',q,h⟩
    · exact .inl h.rv
    exact .inr ⟨E',q,h⟩
  have hyl:(l2.flatMap enc).length=l2.length * size:=ee_ hl l2
  rcases hsrc'.spec hF with ⟨_,h0,_⟩|⟨ad,c2,rfl,hl2,hc2,h1⟩
  · omega
  have hone2: ∀q∈(l++l2).flatMap enc,(∀u∈l.flatMap enc,u.oneCell'=true)→q.oneCell'=true:=fun q hq h0=>by
    rw [List.flatMap_append]at hq
    rcases List.mem_append.1 hq with hq|hq
    · exact h0 q hq
    exact h1 q hq
  have hfl:(l.flatMap enc).length=l.length * size:=ee_ hl l
  -- the end: a new row with all of it
  have fin: ∀(vb:Value) (cap:Nat),v=vb→(∀u∈l.flatMap enc,u.oneCell'=true)→cap<l.length+l2.length→
      (Builtin.append_ #[ty,ty] o.type #[vb,.slice (some ad) l2.length c2]).run X.P w=
        .ok (.slice (some ⟨w.heap.size,0,none⟩) (l.length+l2.length) (grownCap w (l.length+l2.length) cap E)) (w.drew.alloc (.cells ((l.flatMap enc).toArray++(l2.flatMap enc).toArray++Builtin.zeroCells z.cells (grownCap w (l.length+l2.length) cap E - (l.length+l2.length))) E))→
      o.wpIn (fence X.rnd) 0 X.P a w K' Q:=fun vb cap hvb hone hcap hrun=>by
    subst hvb
    have hge:=grownCap_ge w (l.length+l2.length) cap E
    have hcm:grownCap w (l.length+l2.length) cap E≤maxLen:=grownCap_le_maxLen w (l.length+l2.length) cap E hm
    have hrow:Row0 E size enc (.slice (some ⟨w.heap.size,0,none⟩) (l.length+l2.length) (grownCap w (l.length+l2.length) cap E)) (l++l2) (w.drew.alloc (.cells ((l.flatMap enc).toArray++(l2.flatMap enc).toArray++Builtin.zeroCells z.cells (grownCap w (l.length+l2.length) cap E - (l.length+l2.length))) E)):=by
      refine ⟨⟨by rw [ee_ hl],.inr ⟨w.heap.size,_,_,by rw [la_],Nat.zero_le _,heap_alloc_new w.drew _,by rw [la_];exact hge,hcm,?_,?_⟩⟩,fun q hq=>hone2 q hq hone⟩
      · simp only [Array.size_append,List.size_toArray,size_zeroCells,hzs,hfl,hyl,←Nat.add_mul]
        congr 1
        omega
      simp only [Array.toList_append,ap_,List.flatMap_append]
      rw [←ap_,la_,Nat.add_mul,←hfl,←hyl,←la_]
      exact List.take_left
    have hR:Reach u0 C0 τ0 σ (w.drew.alloc (.cells ((l.flatMap enc).toArray++(l2.flatMap enc).toArray++Builtin.zeroCells z.cells (grownCap w (l.length+l2.length) cap E - (l.length+l2.length))) E)) (Res.queS E size enc (.slice (some ⟨w.heap.size,0,none⟩) (l.length+l2.length) (grownCap w (l.length+l2.length) cap E)) (l++l2)::F):=
      hw.bi_ (Value.ownBlock v) (some w.heap.size) rfl rfl rfl rfl rfl (by simp) (Nat.le_succ _) (fun k hk _=>gc_ w.drew _ k hk) ⟨l++l2,_,0,hrow,Nat.zero_le _,rfl,.inl (o8_ size _).symm,by rw [la_];omega⟩ (fun b hb=> .inr (by cases hb;exact Nat.le_refl _))
    have hk2:=k (some ⟨w.heap.size,0,none⟩) (grownCap w (l.length+l2.length) cap E)
    rw [la_]at hk2
    refine Oper.ao_ (w':=_) (v:= .slice (some ⟨w.heap.size,0,none⟩) (l.length+l2.length) (grownCap w (l.length+l2.length) cap E)) ?_ (hK _ _ _ _ _ hk2 hR (fa_ ha hd hn _))
    rw [ha.eval']
    simp [execOp,ho,resolve,invoke,builtin,hx,hy,hrun]
  subst hsi hib
  rcases rr_ hQ with ⟨L,g,q,c,cur,hk,rfl,rfl,hg,h3,h4,h5,h6,h7,h8,h9⟩|⟨rfl,b,rfl⟩
  · rw [List.length_drop]at *
    have holds: ∀j u,((L.drop q).flatMap enc)[j]? =some u→w.cell? ((⟨g,q * i.size,none⟩:Addr).add j)=some u:=fun j u hj=>by
      rw [oe_ hl,List.getElem?_drop,←h6,List.getElem?_take]at hj
      split at hj
      · rw [f9_]
        simp only [World.cell?,hg,Option.isSome_none,Bool.false_eq_true,if_false]
        rw [←Array.getElem?_toList];exact hj
      cases hj
    have hone: ∀u∈(L.drop q).flatMap enc,u.oneCell'=true:=fun u hu=>h8 u (by rw [oe_ hl]at hu;exact List.mem_of_mem_drop hu)
    by_cases hroom:L.length - q+l2.length≤c - q
    · have e1:q * i.size+(L.length - q) * i.size=L.length * i.size:=by rw [←Nat.add_mul];congr 1;omega
      have hfit:q * i.size+(L.length - q) * i.size+(l2.flatMap enc).length≤cur.size:=by
        rw [e1,hyl,h5,←Nat.add_mul];exact Nat.mul_le_mul_right _ (by omega)
      have hr:=mi_ (P:=X.P) ty o.type E i ht hi g (q * i.size) (L.length - q) (c - q) cur hg ad l2.length c2 (l2.flatMap enc) hl2 hc2 h1 hroom hfit
      rw [e1]at hr
      have hrow:Row0 E i.size enc (.slice (some ⟨g,0,none⟩) (L.length+l2.length) c) (L++l2) (w.setRow g (cur.toList.take (L.length * i.size)++l2.flatMap enc++cur.toList.drop (L.length * i.size+(l2.flatMap enc).length)).toArray):=by
        refine ⟨⟨by rw [ee_ hl],.inr ⟨g,c,_,by rw [la_],Nat.zero_le _,setRow_heap w g cur _ E _ hg,by rw [la_];omega,h4,?_,?_⟩⟩,fun u hu=> ?_⟩
        · simp only [List.size_toArray,la_,List.length_take,List.length_drop,Array.length_toList]
          omega
        · rw [h6,List.flatMap_append,la_,Nat.add_mul,←h7,←hyl,←la_]
          exact List.take_left
        rw [List.flatMap_append]at hu
        rcases List.mem_append.1 hu with hu|hu
        · exact h8 u hu
        exact h1 u hu
      have hR:Reach u0 C0 τ0 σ (w.setRow g (cur.toList.take (L.length * i.size)++l2.flatMap enc++cur.toList.drop (L.length * i.size+(l2.flatMap enc).length)).toArray) (Res.queS E i.size enc (.slice (some ⟨g,q * i.size,none⟩) (L.length - q+l2.length) (c - q)) (L.drop q++l2)::F):=
        hw.bi_ (some g) (some g) rfl rfl rfl rfl rfl (by simp) (Nat.le_refl _) (fun k hk hn=>setRow_other w g k _ (fun e=>hn (by rw [e]))) ⟨L++l2,_,q,hrow,by rw [la_];omega,by rw [List.drop_append_of_le_length (by omega)],.inl (by
          unfold pv_
          simp only [Option.map_some,f9_,Nat.zero_add]
          congr 1;omega),by rw [la_,List.length_drop];omega⟩ (fun b hb=> .inl hb)
      have hk2:=k (some ⟨g,q * i.size,none⟩) (c - q)
      rw [la_,List.length_drop]at hk2
      refine Oper.ao_ (w':=_) (v:= .slice (some ⟨g,q * i.size,none⟩) (L.length - q+l2.length) (c - q)) ?_ (hK _ _ _ _ _ hk2 hR (fa_ ha hd hn _))
      rw [ha.eval']
      simp [execOp,ho,resolve,invoke,builtin,hx,hy,hr]
    have hr:=run_append_grow (P:=X.P) (w:=w) ty o.type E i z ht hi hiz ⟨g,q * i.size,none⟩ (L.length - q) (c - q) ((L.drop q).flatMap enc) hfl holds ad l2.length c2 (l2.flatMap enc) hl2 hc2 (by omega) (by omega) (growslice_fits (by omega) hb0)
    exact fin _ (c - q) rfl hone (by omega) hr
  simp only [List.length_nil,Nat.zero_add,List.flatMap_nil]at *
  cases b with
  |some b=>
    have hr:=run_append_grow (P:=X.P) (w:=w) ty o.type E i z ht hi hiz b 0 0 [] (by simp) (by simp) ad l2.length c2 (l2.flatMap enc) hl2 hc2 (by omega) (by omega) (growslice_fits (by omega) (by simpa using hb0))
    simp only [Nat.zero_add]at hr
    exact fin _ 0 rfl (by simp) h2 hr
  |none=>
    have hr:=run_append_nil (P:=X.P) w ty o.type E i z ht hi hiz ad l2.length c2 (l2.flatMap enc) hl2 hc2 (by omega) (by omega) (by omega)
    exact fin _ 0 rfl (by simp) h2 (by simpa using hr)
end
end Go.E
end
