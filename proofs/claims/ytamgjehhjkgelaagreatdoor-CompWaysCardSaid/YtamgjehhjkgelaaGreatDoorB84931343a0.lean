/- Parts of a proof, one behind the other: what a machine reaches, functions decompiled, plain lemmas. Conditions stand with each lemma. -/
import Derived.Test.YtamgjehhjkgelaaGreatDoorBf9458f0793
import Derived.Test.YtamgjehhjkgelaaGreatDoorB1468502e9f
import Derived.Test.YtamgjehhjkgelaaGreatDoorB313b620fb2

set_option linter.unusedVariables false
set_option linter.unusedSimpArgs false
set_option linter.unusedSectionVars false
set_option maxRecDepth 100000
set_option maxHeartbeats 8000000
variable {σ:Go.E.Store}{a0_0 a0_1 a0_10 a0_13 a0_16 a0_19 a0_2 a0_22 a0_28 a0_30 a0_32 a0_4 a0_7 a1_0 a1_1 a1_2:Option Go.Addr}{Eb0 b0_0 b0_25 b0_26 b0_27 c0_0 c0_1 c0_11 c0_14 c0_17 c0_2 c0_20 c0_23 c0_29 c0_31 c0_33 c0_5 c0_8 c1_0 c1_1 c1_2:Nat}

noncomputable section
namespace Go.Proofs.YtamgjehhjkgelaaGreatDoor
open Go Go.E
def growSt(g:Grow)(x:Tip):Grow:=if g.over=true∨1024≤g.f.starts.length∨1024<x.out.length then ⟨g.f,true⟩ else ⟨⟨g.f.states,g.f.starts++[x],g.f.ends,g.f.arcs⟩,false⟩
def growEn(g:Grow)(x:Tip):Grow:=if g.over=true∨1024≤g.f.ends.length∨1024<x.out.length then ⟨g.f,true⟩ else ⟨⟨g.f.states,g.f.starts,g.f.ends++[x],g.f.arcs⟩,false⟩
def growAr(g:Grow)(x:Arc):Grow:=if g.over=true∨16384≤g.f.arcs.length∨1024<x.out.length then ⟨g.f,true⟩ else ⟨⟨g.f.states,g.f.starts,g.f.ends,g.f.arcs++[x]⟩,false⟩
def lookG(g:Grow):Fst×Int:=if g.over=true∨1024<g.f.states then (⟨0,[],[],[]⟩,2) else (g.f,0)
theorem start_eq(g:Grow)(x:Tip):Ck_ g x=some (growSt g x):=by
  unfold Ck_ growSt
  obtain ⟨⟨n,S,E,A⟩,o⟩:=g
  cases o with
  |true=>rw [if_pos (.inl rfl)];rfl
  |false=>
    dsimp only
    rw [iteO_false]
    by_cases h1:1024≤S.length
    · rw [iteO_dt (by omega),if_pos (.inr (.inl h1))]
    rw [iteO_df (by omega)]
    by_cases h2:1024<x.out.length
    · rw [iteO_dt (by omega),if_pos (.inr (.inr h2))]
    rw [iteO_df (by omega),grd_mk (by simp only [List.length_singleton];omega),if_neg (by simp;omega)]
theorem end_eq(g:Grow)(x:Tip):Df_ g x=some (growEn g x):=by
  unfold Df_ growEn
  obtain ⟨⟨n,S,E,A⟩,o⟩:=g
  cases o with
  |true=>rw [if_pos (.inl rfl)];rfl
  |false=>
    dsimp only
    rw [iteO_false]
    by_cases h1:1024≤E.length
    · rw [iteO_dt (by omega),if_pos (.inr (.inl h1))]
    rw [iteO_df (by omega)]
    by_cases h2:1024<x.out.length
    · rw [iteO_dt (by omega),if_pos (.inr (.inr h2))]
    rw [iteO_df (by omega),grd_mk (by simp only [List.length_singleton];omega),if_neg (by simp;omega)]
theorem arc_eq(g:Grow)(x:Arc):Dd_ g x=some (growAr g x):=by
  unfold Dd_ growAr
  obtain ⟨⟨n,S,E,A⟩,o⟩:=g
  cases o with
  |true=>rw [if_pos (.inl rfl)];rfl
  |false=>
    dsimp only
    rw [iteO_false]
    by_cases h1:16384≤A.length
    · rw [iteO_dt (by omega),if_pos (.inr (.inl h1))]
    rw [iteO_df (by omega)]
    by_cases h2:1024<x.out.length
    · rw [iteO_dt (by omega),if_pos (.inr (.inr h2))]
    rw [iteO_df (by omega),grd_mk (by simp only [List.length_singleton];omega),if_neg (by simp;omega)]
theorem look_eq(g:Grow):Cn_ g=some (lookG g):=by
  unfold Cn_ lookG
  obtain ⟨⟨n,S,E,A⟩,o⟩:=g
  cases o with
  |true=>rw [if_pos (.inl rfl)];rfl
  |false=>
    dsimp only
    rw [iteO_false]
    by_cases h:1024<n
    · rw [iteO_dt h,if_pos (.inr h)]
    rw [iteO_df h,if_neg (by simp;omega)]
theorem cls_run {S : Type} {B : S → Int × BSet → Option (Nat × S)} {x1 : List BSet} (I : Nat → S → Prop) (hB : ∀ k l, k < x1.length → I k l → ∃ l', B l (((k : Nat) : Int), nth x1 k BSet.zero) = some (0, l') ∧ I (k + 1) l') {l0 : S} (h0 : I 0 l0) :
    ∃l,A1_ (stepY B) (0,l0) x1=some (0,l)∧I x1.length l:=by
  unfold A1_
  obtain ⟨r,h1,l,h2,h3⟩:=iter_up (step:=fun q:Nat×(Nat×S)=>Ag_ x1 (stepY B) q.1 q.2) (fun (s:S) k=>(k,(0,s))) x1.length I (fun r=> ∃l,r=(0,l)∧I x1.length l)
    (fun k l hk hI=>by
      obtain ⟨l',h1,h2⟩:=hB k l hk hI
      refine .inl ⟨l',?_,h2⟩
      show Ag_ x1 (stepY B) k (0,l)=_
      unfold Ag_
      rw [iteO_dt (by omega)]
      have hs:stepY B (0,l) (((k:Nat):Int),nth x1 k BSet.zero)=some ((0,l'),true):=by
        unfold stepY
        rw [if_pos rfl,h1];rfl
      rw [bnd_some hs];rfl)
    (fun l hI=>⟨(0,l),by
      show Ag_ x1 (stepY B) x1.length (0,l)=_
      unfold Ag_
      rw [iteO_df (by omega)];rfl,l,rfl,hI⟩) h0
  exact ⟨l,by rw [h1,h2],h3⟩
structure RowOk (d:Dfa) (m s b:Nat):Prop where
  cl:b<d.cls.length
  c0:0≤nth d.cls b (0:Int)
  c1:nth d.cls b (0:Int)<((m:Nat):Int)
  n0:0≤nth (nth d.next s ([]:List Int)) (nth d.cls b (0:Int)).toNat (0:Int)
  n1:nth (nth d.next s ([]:List Int)) (nth d.cls b (0:Int)).toNat (0:Int)<((d.next.length:Nat):Int)
theorem right_parts{d:Dfa}(h:rightD d=true): ∃m,cntF d.cls=some m∧d.cls.length=256∧1≤d.next.length∧d.next.length≤1024∧d.fin.length=d.next.length∧(∀s,s<d.next.length→(nth d.next s ([]:List Int)).length=m∧ ∀c,c<m→0≤nth (nth d.next s ([]:List Int)) c (0:Int)∧nth (nth d.next s ([]:List Int)) c (0:Int)<((d.next.length:Nat):Int)):=by
  simp only [rightD,Bool.and_eq_true,decide_eq_true_eq]at h
  obtain ⟨⟨⟨h1,h2⟩,h3⟩,h4⟩:=h
  cases hm:cntF d.cls with
  |none=>rw [hm]at h2;cases h2
  |some m=>
    rw [hm]at h2
    refine ⟨m,rfl,h1,h3.1,h3.2,h4,fun s hs=> ?_⟩
    have hrow:=List.all_eq_true.1 h2 _ (nth_memD (l:=d.next) (i:=s) hs [])
    simp only [goodR,Bool.and_eq_true,decide_eq_true_eq]at hrow
    refine ⟨hrow.1,fun c hc=> ?_⟩
    have hx:=List.all_eq_true.1 hrow.2 _ (nth_memD (l:=nth d.next s []) (i:=c) (by omega) 0)
    simp only [goodS,Bool.and_eq_true,decide_eq_true_eq]at hx
    exact hx
theorem row_ok{d:Dfa}{m:Nat}(h:rightD d=true)(hm:cntF d.cls=some m){s b:Nat}(hs:s<d.next.length)(hb:b<256):RowOk d m s b:=by
  obtain ⟨m',h1,h2,h3,h4,h5,h6⟩:=right_parts h
  rw [hm]at h1;cases h1
  have hcl:b<d.cls.length:=by omega
  have hc:=(cnt_mem d.cls 0 m hm).2 _ (nth_memD hcl 0)
  obtain ⟨-,h7⟩:=h6 s hs
  have h8:=h7 (nth d.cls b (0:Int)).toNat (by omega)
  exact ⟨hcl,hc.1,hc.2,h8.1,h8.2⟩
theorem toS_far{d:Dfa}(h:rightD d=true){s z:Nat}(hs:s<d.next.length)(hz:d.next.length≤z):toS d s z=BSet.zero:=by
  obtain ⟨m,hm, -⟩:=right_parts h
  unfold toS
  rw [←BSet.make_zero]
  refine BSet.make_congr fun b hb=>decide_eq_false ?_
  have:=(row_ok h hm hs hb).n1
  omega
theorem backR_snoc(d:Dfa)(s m:Nat):backR d s (m+1)=backR d s m++(if toS d s m=BSet.zero then [] else [⟨((s:Nat):Int),((m:Nat):Int),toS d s m⟩]):=by
  unfold backR
  rw [List.range_succ,List.flatMap_append];simp
theorem backR_far{d:Dfa}(h:rightD d=true){s:Nat}(hs:s<d.next.length): ∀j,backR d s (d.next.length+j)=backR d s d.next.length
  |0=>rfl
  |j+1=>by rw [←Nat.add_assoc,backR_snoc,toS_far h hs (by omega),if_pos rfl,List.append_nil,backR_far h hs j]
theorem backE_snoc(d:Dfa)(m:Nat):backE d (m+1)=backE d m++backR d m d.next.length:=by
  unfold backE
  rw [List.range_succ,List.flatMap_append];simp
theorem endsN_snoc(d:Dfa)(m:Nat):endsN d (m+1)=endsN d m++(if nth d.fin m false=true then [((m:Nat):Int)] else []):=by
  unfold endsN
  rw [List.range_succ,List.flatMap_append];simp
structure ByI (d:Dfa) (s k:Nat) (l:List BSet):Prop where
  len:l.length=1024
  at_: ∀z,z<1024→nth l z BSet.zero=BSet.make fun b=>decide (nth d.cls b (0:Int)<((k:Nat):Int)) && decide (nth (nth d.next s ([]:List Int)) (nth d.cls b (0:Int)).toNat (0:Int)=((z:Nat):Int))
theorem by_step{d:Dfa}{m s k:Nat}{l:List BSet}(h:rightD d=true)(hm:cntF d.cls=some m)(hs:s<d.next.length)(hk:k<m)(hI:ByI d s k l):
    ∃l',B1_ d s l ((k:Nat):Int) (clsS d.cls k)=some (0,l')∧ByI d s (k+1) l':=by
  obtain ⟨m',h1,h2,h3,h4,h5,h6⟩:=right_parts h
  rw [hm]at h1;cases h1
  obtain ⟨h7,h8⟩:=h6 s hs
  have h9:=h8 k hk
  have hz:(nth (nth d.next s ([]:List Int)) k (0:Int)).toNat<l.length:=by rw [hI.len];omega
  refine ⟨l.set (nth (nth d.next s ([]:List Int)) k (0:Int)).toNat (BSet.make fun b=>(nth l (nth (nth d.next s ([]:List Int)) k (0:Int)).toNat BSet.zero).has b || (clsS d.cls k).has b),?_,⟨by rw [List.length_set];exact hI.len,fun z hz2=> ?_⟩⟩
  · unfold B1_
    rw [show ((k:Nat):Int).toNat=k from Int.toNat_natCast k]
    have q1:0≤((k:Nat):Int)∧((k:Nat):Int)<(((nth d.next s ([]:List Int)).length:Nat):Int):=⟨by omega,by omega⟩
    have q2:0≤nth (nth d.next s ([]:List Int)) k (0:Int)∧nth (nth d.next s ([]:List Int)) k (0:Int)<1024:=⟨h9.1,by omega⟩
    first|rw [grd_mk hs,grd_mk q1,grd_mk hs,grd_mk q1,grd_mk q2,bnd_some (any_eq _ _),grd_mk q2]|rw [grd_mk q1,grd_mk q1,grd_mk q2,bnd_some (any_eq _ _),grd_mk q2]
  rw [nth_set' _ _ _ _ _ hz]
  split
  · rename_i e
    subst e
    rw [hI.at_ _ hz2]
    refine BSet.make_congr fun b hb=> ?_
    have hr:=row_ok h hm hs hb
    rw [BSet.make_has _ hb]
    unfold clsS
    rw [BSet.make_has _ hb]
    by_cases e1:nth d.cls b (0:Int)=((k:Nat):Int)
    · rw [e1,Int.toNat_natCast]
      simp;omega
    rw [decide_eq_false e1,Bool.or_false]
    congr 1
    rw [decide_eq_decide];omega
  rename_i e
  rw [hI.at_ _ hz2]
  refine BSet.make_congr fun b hb=> ?_
  have hr:=row_ok h hm hs hb
  by_cases e1:nth d.cls b (0:Int)=((k:Nat):Int)
  · rw [e1,Int.toNat_natCast,decide_eq_false (show ¬ nth (nth d.next s ([]:List Int)) k (0:Int)=((z:Nat):Int) by omega)];simp
  congr 1
  rw [decide_eq_decide];omega
theorem by_all{d:Dfa}{m s:Nat}{l:List BSet}(h:rightD d=true)(hm:cntF d.cls=some m)(hs:s<d.next.length)(hI:ByI d s m l):l.length=1024∧ ∀z,z<1024→nth l z BSet.zero=toS d s z:=
  ⟨hI.len,fun z hz=>by
    rw [hI.at_ z hz]
    unfold toS
    refine BSet.make_congr fun b hb=> ?_
    rw [decide_eq_true (row_ok h hm hs hb).c1,Bool.true_and]⟩
theorem nth_rep{α:Type}(n i:Nat)(x:α):nth (List.replicate n x) i x=x:=by
  unfold nth
  rw [List.getD_eq_getElem?_getD,List.getElem?_replicate]
  split<;>rfl
theorem bys_run{d:Dfa}{v6:List BSet×Int}{s:Nat}(h:rightD d=true)(hm:cntF d.cls=some v6.1.length)(hsets: ∀c,c<v6.1.length→nth v6.1 c BSet.zero=clsS d.cls c)(hs:s<d.next.length):
    ∃l,A1_ (stepY (fun (q:(List BSet)) (x:Int×BSet)=>B1_ d s q x.1 x.2)) (0,(List.replicate 1024 BSet.zero)) v6.1=some (0,l)∧l.length=1024∧ ∀z,z<1024→nth l z BSet.zero=toS d s z:=by
  obtain ⟨l,h1,h2⟩:=cls_run (B:=fun (q:(List BSet)) (x:Int×BSet)=>B1_ d s q x.1 x.2) (x1:=v6.1) (ByI d s) (fun k l hk hI=>by
    dsimp only
    rw [hsets k hk];exact by_step h hm hs hk hI) (l0:=List.replicate 1024 BSet.zero) ⟨List.length_replicate,fun z _=>by
      rw [nth_rep,←BSet.make_zero]
      refine BSet.make_congr fun b hb=> ?_
      have:=(row_ok h hm hs hb).c0
      rw [decide_eq_false (by omega),Bool.false_and]⟩
  exact ⟨l,h1,by_all h hm hs h2⟩
theorem back_in{d:Dfa}{s:Nat}{l:List BSet}{E:List Int}{A0:List Arrow}(h:rightD d=true)(hs:s<d.next.length)(hl: ∀z,z<1024→nth l z BSet.zero=toS d s z)(hA:A0.length≤20000)(hn:d.next.length≤100):
    iter (fun q:(List Arrow)×Nat=>A6_ l s E q.1 q.2) (A0,0)=some (.inl (E,A0++backR d s d.next.length,s+1)):=by
  obtain ⟨r,h1,rfl⟩:=iter_up (step:=fun q:(List Arrow)×Nat=>A6_ l s E q.1 q.2) (fun (A:List Arrow) k=>(A,k)) 1024 (fun k A=>A=A0++backR d s k) (fun r=>r= .inl (E,A0++backR d s d.next.length,s+1))
    (fun k A hk hI=>by
      subst hI
      have hlen:=backR_len d s k
      refine .inl ⟨A0++backR d s (k+1),?_,rfl⟩
      show A6_ l s E _ k=_
      unfold A6_ Dj_
      rw [iteO_dt (by omega),hl k hk]
      by_cases hz:toS d s k=BSet.zero
      · rw [iteO_df (by simpa using hz),backR_snoc,if_pos hz,List.append_nil];rfl
      rw [iteO_dt hz,grd_mk (by simp only [List.length_append,List.length_singleton];omega),backR_snoc,if_neg hz,List.append_assoc];rfl)
    (fun A hI=>by
      subst hI
      have hlen:=backR_len d s d.next.length
      have e:=backR_far h hs (1024 - d.next.length)
      rw [show d.next.length+(1024 - d.next.length)=1024 by omega]at e
      refine ⟨_,?_,rfl⟩
      show A6_ l s E _ 1024=_
      unfold A6_
      rw [iteO_df (by omega),e,iteO_df (by simp only [List.length_append];omega)];rfl) (s0:=A0) (by simp [backR])
  exact h1
theorem dback_eq {d : Dfa} (hn : d.next.length ≤ 100) : Fo_ d = some (if rightD d = true then (backN d, 0) else (⟨0, [], [], []⟩, 1)) := by
  unfold Fo_
  obtain ⟨v6,hv,hp⟩:=partSets_full d.cls
  rw [bnd_some hv]
  by_cases h:rightD d=true
  · rw [if_pos h]
    obtain ⟨m,hm,h2,h3,h4,h5,h6⟩:=right_parts h
    rcases hp with ⟨hp, -⟩|⟨-,hc,h0,hsets, -⟩
    · rcases hp with hp|hp
      · exact absurd h2 hp
      rw [hm]at hp;cases hp
    rw [iteO_df (by omega),dcheck_eq,bnd_mk,if_pos h,iteO_df (by simp)]
    have hm2:m=v6.1.length:=by rw [hm]at hc;exact Option.some.inj hc
    subst hm2
    obtain ⟨r,h7,rfl⟩:=iter_up (step:=fun q:(List Int)×(List Arrow)×Nat=>Bh_ d v6 q.1 q.2.1 q.2.2) (fun (s:List Int×List Arrow) k=>(s.1,s.2,k)) d.next.length (fun k s=>s=(endsN d k,backE d k)) (fun r=>r=(backN d,0))
      (fun k s hk hI=>by
        subst hI
        have e1:=endsN_len d k
        have e2:=backE_len d k
        have e3:=Nat.mul_le_mul (show k≤100 by omega) hn
        obtain ⟨l,q1,q2,q3⟩:=bys_run h hm hsets hk
        refine .inl ⟨(endsN d (k+1),backE d (k+1)),?_,rfl⟩
        show Bh_ d v6 _ _ k=_
        have hj: ∀E:List Int,C3_ v6 d k (backE d k) E=some (.inl (E,backE d (k+1),k+1)):=fun E=>by
          unfold C3_ Ch_
          rw [bnd_mk,bnd_some q1]
          show Ee_ k E (backE d k) 0 l=_
          unfold Ee_
          show iter _ _=_
          rw [back_in h hk q3 (by omega) hn,backE_snoc]
        unfold Bh_
        rw [iteO_dt (by omega),grd_mk (by omega),endsN_snoc]
        by_cases hf:nth d.fin k false=true
        · rw [hf,iteO_true,if_pos rfl,grd_mk (by simp only [List.length_singleton];omega),hj]
        simp only [Bool.not_eq_true]at hf
        rw [hf,iteO_false,if_neg (by simp),List.append_nil,hj])
      (fun s hI=>by
        subst hI
        refine ⟨_,?_,rfl⟩
        show Bh_ d v6 _ _ d.next.length=_
        unfold Bh_
        rw [iteO_df (by omega)];rfl) (s0:=([],[])) (by simp [endsN,backE])
    exact h7
  rw [if_neg h,dcheck_eq]
  by_cases hv2:v6.2=0
  · rw [iteO_df (by omega),bnd_mk,if_neg h,iteO_dt (by simp)]
  rw [iteO_dt hv2]
theorem gstarts_run{v5:Nfa×Int}{x1:List UInt8}{x2:Bool}{n:Int}{R:Fst×Int}(hs:v5.1.starts=[0])
    (hnext:iter (fun q:Int×(List Tip)×(List Tip)×(List Arc)×Bool×Nat=>A4_ v5 x1 x2 q.1 q.2.1 q.2.2.1 q.2.2.2.1 q.2.2.2.2.1 q.2.2.2.2.2) (n,[⟨0,[]⟩],[],[],false,0)=some R):
    iter (fun q:Int×(List Tip)×(List Tip)×(List Arc)×Bool×Nat=>Bg_ v5 x1 x2 q.1 q.2.1 q.2.2.1 q.2.2.2.1 q.2.2.2.2.1 q.2.2.2.2.2) (n,[],[],[],false,0)=some R:=by
  have h1:Bg_ v5 x1 x2 n [] [] [] false 0=some (.inl (n,[⟨0,[]⟩],[],[],false,1)):=by
    unfold Bg_
    rw [hs,iteO_dt (by simp),start_eq,bnd_mk];rfl
  refine iter_next (s':=(n,[⟨0,[]⟩],[],[],false,1)) h1 (iter_done ?_)
  show Bg_ v5 x1 x2 n [⟨0,[]⟩] [] [] false 1=_
  unfold Bg_
  rw [hs,iteO_df (by simp)]
  show fin _=_
  rw [hnext];rfl
theorem ratBack_eq {d : Dfa} (hn : d.next.length ≤ 100) (out : List UInt8) (c : Bool) (ho : out.length ≤ 1024) : Fc_ d out c = some (if rightD d = true then (mkF d out c, 0) else (⟨0, [], [], []⟩, 1)) := by
  unfold Fc_
  rw [grd_mk (by omega),dback_eq hn,bnd_mk]
  by_cases h:rightD d=true
  · rw [if_pos h,if_pos h]
    dsimp only
    rw [iteO_df (by simp)]
    have e1:=endsN_len d d.next.length
    have e2:=backE_len d d.next.length
    have e3:=Nat.mul_le_mul hn hn
    refine gstarts_run (v5:=(backN d,0)) rfl ?_
    obtain ⟨r,h1,rfl⟩:=iter_up (step:=fun q:Int×(List Tip)×(List Tip)×(List Arc)×Bool×Nat=>A4_ (backN d,0) out c q.1 q.2.1 q.2.2.1 q.2.2.2.1 q.2.2.2.2.1 q.2.2.2.2.2) (fun (E:List Tip) k=>(((d.next.length:Nat):Int),[⟨0,[]⟩],E,[],false,k)) (endsN d d.next.length).length
      (fun k E=>E=((endsN d d.next.length).take k).map fun s=>⟨s,out⟩) (fun r=>r=(mkF d out c,0))
      (fun k E hk hI=>by
        subst hI
        refine .inl ⟨_,?_,rfl⟩
        show A4_ (backN d,0) out c _ _ _ _ _ k=_
        unfold A4_
        show iteO (decide (((k:Nat):Int)<(((endsN d d.next.length).length:Nat):Int))) _ _=_
        rw [iteO_dt (by omega),end_eq,bnd_mk]
        unfold growEn
        rw [if_neg (by simp only [Bool.false_eq_true,false_or,List.length_map,List.length_take];omega)]
        rw [List.take_add_one,getD_some _ hk 0,Option.toList_some,List.map_append];rfl)
      (fun E hI=>by
        subst hI
        rw [List.take_length]
        refine ⟨_,?_,rfl⟩
        show A4_ (backN d,0) out c _ _ _ _ _ (endsN d d.next.length).length=_
        unfold A4_
        show iteO (decide ((((endsN d d.next.length).length:Nat):Int)<(((endsN d d.next.length).length:Nat):Int))) _ _=_
        rw [iteO_df (by omega)]
        obtain ⟨r,h1,rfl⟩:=iter_up (step:=fun q:Int×(List Tip)×(List Tip)×(List Arc)×Bool×Nat=>Bf_ (backN d,0) c q.1 q.2.1 q.2.2.1 q.2.2.2.1 q.2.2.2.2.1 q.2.2.2.2.2) (fun (A:List Arc) k=>(((d.next.length:Nat):Int),[⟨0,[]⟩],(endsN d d.next.length).map (fun s=>(⟨s,out⟩:Tip)),A,false,k)) (backE d d.next.length).length
          (fun k A=>A=((backE d d.next.length).take k).map fun x=>⟨x.frm,x.to,x.set,[],c⟩) (fun r=>r=(mkF d out c,0))
          (fun k A hk hI=>by
            subst hI
            refine .inl ⟨_,?_,rfl⟩
            show Bf_ (backN d,0) c _ _ _ _ _ k=_
            unfold Bf_
            show iteO (decide (((k:Nat):Int)<(((backE d d.next.length).length:Nat):Int))) _ _=_
            rw [iteO_dt (by omega),arc_eq,bnd_mk]
            unfold growAr
            rw [if_neg (by simp only [Bool.false_eq_true,false_or,List.length_map,List.length_take,List.length_nil];omega)]
            rw [List.take_add_one,getD_some _ hk Arrow.zero,Option.toList_some,List.map_append];rfl)
          (fun A hI=>by
            subst hI
            rw [List.take_length]
            refine ⟨_,?_,rfl⟩
            show Bf_ (backN d,0) c _ _ _ _ _ (backE d d.next.length).length=_
            unfold Bf_
            show iteO (decide ((((backE d d.next.length).length:Nat):Int)<(((backE d d.next.length).length:Nat):Int))) _ _=_
            rw [iteO_df (by omega),look_eq,bnd_mk]
            unfold lookG
            rw [if_neg (by simp only [Bool.false_eq_true,false_or];omega)];rfl) (s0:=[]) (by simp)
        show fin (iter _ _)=_
        rw [h1];rfl) (s0:=[]) (by simp)
    exact h1
  rw [if_neg h,if_neg h];rfl
theorem cross_eq{d:Dfa}(hn:d.next.length≤100)(out:List UInt8)(ho:out.length≤281474976710656):Dx_ d out=some (if rightD d=true then (if 1024<out.length then (⟨0,[],[],[]⟩,2) else (mkF d out false,0)) else (⟨0,[],[],[]⟩,1)):=by
  unfold Dx_
  rw [grd_mk ho,dcheck_eq,bnd_mk]
  by_cases h:rightD d=true
  · rw [if_pos h,if_pos h,iteO_df (by simp)]
    by_cases h2:1024<out.length
    · rw [iteO_dt (by omega),if_pos h2]
    rw [iteO_df (by omega),if_neg h2,ratBack_eq hn out false (by omega),bnd_mk,if_pos h]
  rw [if_neg h,if_neg h,iteO_dt (by simp)]
end Go.Proofs.YtamgjehhjkgelaaGreatDoor
end

noncomputable section
namespace Go.Proofs.YtamgjehhjkgelaaGreatDoor
open Go Go.E
end Go.Proofs.YtamgjehhjkgelaaGreatDoor
end

noncomputable section
namespace Go.Proofs.YtamgjehhjkgelaaGreatDoor
open Go Go.E
structure Alike (s t:Fst):Prop where
  states:s.states=t.states
  starts: ∀x,x∈s.starts↔x∈t.starts
  ends: ∀x,x∈s.ends↔x∈t.ends
  arcs: ∀x,x∈s.arcs↔x∈t.arcs
structure Within (s t:Fst):Prop where
  starts: ∀x∈s.starts,x∈t.starts
  ends: ∀x∈s.ends,x∈t.ends
  arcs: ∀x∈s.arcs,x∈t.arcs
theorem same_run{α R:Type}{step:Nat→Option (Nat⊕R)}{y:R}(n:Nat)(hs: ∀k,k<n→step k=some (.inl (k+1)))(hd:step n=some (.inr y)):iter step 0=some y:=iter_seq0 (fun k=>k) n hs hd
theorem texts_refl(l:List (List UInt8)):Bj_ l l=some true:=by
  unfold Bj_
  rw [decide_eq_false (by simp),iteO_false]
  refine same_run (α:=Unit) l.length (fun k hk=> ?_) ?_
  · simp only [At_,lt_dec hk,iteO_true,grd_mk hk,ne_eq,not_true_eq_false,decide_false,iteO_false];rfl
  simp only [At_,Int.lt_irrefl,decide_false,iteO_false];rfl
theorem sameTips_refl(l:List Tip):A3_ l l=some true:=by
  unfold A3_
  rw [decide_eq_false (by simp),iteO_false]
  refine same_run (α:=Unit) l.length (fun k hk=> ?_) ?_
  · simp only [Ao_,lt_dec hk,iteO_true,grd_mk hk,not_true_eq_false,decide_false,iteO_false];rfl
  simp only [Ao_,Int.lt_irrefl,decide_false,iteO_false];rfl
end Go.Proofs.YtamgjehhjkgelaaGreatDoor
end

noncomputable section
namespace Go.E
open Go
theorem OpVal.gtrBs{P:Program}{n:Nat}{e:Env}{H:List Res}{o:Oper}{x y:Operand}{l m:List UInt8}{T T':TypeId}(ho:o.op= .binOp .gtr T x y T')(hx:ev e x= .string (bs l))(hy:ev e y= .string (bs m)):OpVal P n o e σ H (.bool (!(decide (Lib.compareBytes l m<0) || l == m))):=fun w _=>by
  simp only [execOp,ho,hx,hy,Sem.run_bind,run_eqGuard_str,Result.andThen_ok,binOp,Op.stringOp,ByteArray.toList_eq,bs_list,bytesLess_eq,Sem.run_pure]
end Go.E
end

noncomputable section
namespace Go.Proofs.YtamgjehhjkgelaaGreatDoor
open Go Go.E Go.E.OpVal Go.E.OpOk Go.Proofs.Tryz
theorem pf104:plainF Tryz.prog 104=true:=by kernel_rfl
theorem pf131:plainF Tryz.prog 131=true:=by kernel_rfl
def isNaNS(x0:List UInt8):Option (Bool):=
 some (decide (x0≠x0))
theorem isNaNS_con{x0:List UInt8}{r:Bool}(hh:isNaNS x0=some r):
  Con Tryz.prog 131 #[.string (bs x0)] σ [] (PureP (.bool r) σ):=by
 dsimp only [isNaNS]at hh
 refine Con.mk (n:=6) Tryz.func131 z z z (fun w0=> ?_)
 refine TC.a (TL.j z z (TL.en (TC.a (TL.w z (moveStr (.inl z) z) (TL.w z (moveStr (.inl z) z) (TL.w z (neqBs z z z) (TL.j z z (TL.en (TC.ret ?_)))))))))
 obtain rfl:=so hh
 exact rq [2] ⟨z,z,z⟩
def compareS(x0:List UInt8)(x1:List UInt8):Option (Int):=
 bnd (isNaNS x0) (fun v3=>bnd (isNaNS x1) (fun v6=>iteO v3 (iteO v6 (some 0) (some (-1))) (iteO v6 (some 1) (iteO (decide (Lib.compareBytes x0 x1<0)) (some (-1)) (iteO (!(decide (Lib.compareBytes x0 x1<0) || x0 == x1)) (some 1) (some 0))))))
theorem compareS_con{x0:List UInt8}{x1:List UInt8}{r:Int}(hh:compareS x0 x1=some r):
  Con Tryz.prog 104 #[.string (bs x0),.string (bs x1)] σ [] (PureP (.int .i64 r) σ):=by
 dsimp only [compareS]at hh
 refine Con.mk (n:=20) Tryz.func104 z z z (fun w0=> ?_)
 refine TC.a (TL.i z z (TL.en (TC.a (TL.w z (moveStr (.inl z) z) ?_))))
 obtain ⟨v3,u3,hh⟩:=bnd_e hh
 refine TL.op z (callP (isNaNS_con u3) z z pf131 z z z ?_)
 refine TL.j z z (TL.en (TC.a (TL.w z (moveStr (.inl z) z) ?_)))
 obtain ⟨v6,u6,hh⟩:=bnd_e hh
 refine TL.op z (callP (isNaNS_con u6) z z pf131 z z z ?_)
 refine TL.j z z (TL.en (TC.seq (TC.a (TL.j z z (TL.en (TC.cB z hh (fun h101 hh=> ?_) (fun h101 hh=> ?_)))))))
 ·refine TC.seq (TC.a (TL.j z z (TL.en (TC.cB z hh (fun h102 hh=> ?_) (fun h102 hh=> ?_)))))
  ·refine TC.a (TL.i z z (TL.en (TC.ret (S.r (S.r ?_)))))
   obtain rfl:=so hh
   exact rq [4] ⟨z,z,z⟩
  refine TC.skip (S.n (TC.a (TL.i z z (TL.en (TC.ret (S.r ?_))))))
  obtain rfl:=so hh
  exact rq [4] ⟨z,z,z⟩
 refine TC.skip (S.n (TC.seq (TC.a (TL.j z z (TL.en (TC.cB z hh (fun h103 hh=> ?_) (fun h103 hh=> ?_)))))))
 ·refine TC.a (TL.i z z (TL.en (TC.ret (S.r ?_))))
  obtain rfl:=so hh
  exact rq [4] ⟨z,z,z⟩
 refine TC.skip (S.n (TC.seq (TC.a (TL.w z (moveStr (.inl z) z) (TL.w z (moveStr (.inl z) z) (TL.w z (lssBs z z z) (TL.en (TC.cD z hh (fun h104 hh=> ?_) (fun h104 hh=> ?_)))))))))
 ·refine TC.a (TL.i z z (TL.en (TC.ret (S.r ?_))))
  obtain rfl:=so hh
  exact rq [4] ⟨z,z,z⟩
 refine TC.skip (S.n (TC.seq (TC.a (TL.w z (moveStr (.inl z) z) (TL.w z (moveStr (.inl z) z) (TL.w z (gtrBs z z z) (TL.en (TC.cB z hh (fun h105 hh=> ?_) (fun h105 hh=> ?_)))))))))
 ·refine TC.a (TL.i z z (TL.en (TC.ret (S.r ?_))))
  obtain rfl:=so hh
  exact rq [4] ⟨z,z,z⟩
 refine TC.skip (S.n (TC.a (TL.i z z (TL.en (TC.ret ?_)))))
 obtain rfl:=so hh
 exact rq [4] ⟨z,z,z⟩
def comp_compare(x0:Tip)(x1:Tip):Option (Int):=
 bnd (Bd_ x0.state x1.state) (fun v8=>bnd (compareS x0.out x1.out) (fun v13=>bnd (Fl_ [v8,v13]) (fun v15=>some v15)))
theorem comp_compare_con{x0:Tip}{x1:Tip}{r:Int}(hh:comp_compare x0 x1=some r):
  Con Tryz.prog 69 #[.agg #[.int .i64 x0.state,.string (bs x0.out)],.agg #[.int .i64 x1.state,.string (bs x1.out)]] σ [] (PureP (.int .i64 r) σ):=by
 dsimp only [comp_compare]at hh
 refine Con.mk (n:=17) Tryz.func69 z z z (fun w0=> ?_)
 refine TC.a (TL.op z (boxA z z z z (fun b101=> ?_)))
 refine TL.op z (boxA z z z z (fun b103=> ?_))
 refine TL.i z z (TL.en (TC.seq ?_))
 obtain ⟨v8,u8,hh⟩:=bnd_e hh
 obtain ⟨v13,u13,hh⟩:=bnd_e hh
 obtain ⟨v15,u15,hh⟩:=bnd_e hh
 refine TC.draw [] (by kernel_rfl) (TA.a 0 z (fieldLoc z fo43_0 z) z (TA.b 1 z (loadLoc z ag3 z (i:=1) z z) z (TA.a 2 z (fieldLoc z fo43_0 z) z (TA.b 3 z (loadLoc z ag3 z (i:=0) z z) z (TA.a 5 z (fieldLoc z fo43_1 z) z (TA.b 6 z (loadLoc z ag9 z (i:=1) z z) z (TA.a 7 z (fieldLoc z fo43_1 z) z (TA.b 8 z (loadLoc z ag9 z (i:=0) z z) z (TA.ac 4 z (callP (Cf_ u8) z z pf93 z z z (k0 ?_)))))))))))
 refine TA.ac 9 z (callP (compareS_con u13) z z pf104 z z z (k0 ?_))
 refine TA.ac 10 z (OpOk.lit (enc:=eI_) [v8,v13] z underlying46 sz3 ze3 z z z eIl_ (by decide) (by decide) (0:Int) z (by decide) z (by decide) eIo_ (fun a110 c111=>(k1 ?_)))
 refine TA.ac 11 z (callK (Con.lend eIl_ (fun _ hle114 hr113=>Gi_ hr113 u15)) z z pf92 z z z z (k1 ?_))
 refine TA.a 12 z (moveI (.inr z) z) z (TA.dn (S.n (TC.rt 0 ?_)))
 obtain rfl:=so hh
 exact rq [4] ⟨z,z,z⟩
end Go.Proofs.YtamgjehhjkgelaaGreatDoor
end

noncomputable section
namespace Go.Proofs.YtamgjehhjkgelaaGreatDoor
open Go Go.E
theorem cmpB_vals : ∀ x y : List UInt8, (iteO (decide (Lib.compareBytes x y < 0)) (some (-1 : Int)) (iteO (!(decide (Lib.compareBytes x y < 0) || x == y)) (some 1) (some 0))) = some (Lib.compareBytes x y)
  |[],[]=>rfl
  |[],_::_=>rfl
  |_::_,[]=>rfl
  | a :: x, b :: y => by
    have ih:=cmpB_vals x y
    unfold Lib.compareBytes
    by_cases h:a<b
    · rw [if_pos h];rfl
    rw [if_neg h]
    by_cases h2:b<a
    · rw [if_pos h2]
      have:(a::x == b::y)=false:=by
        rw [beq_eq_false_iff_ne]
        intro e;cases e;exact h h2
      rw [this];rfl
    rw [if_neg h2]
    have e:a=b:=UInt8.le_antisymm (UInt8.not_lt.1 h2) (UInt8.not_lt.1 h)
    subst e
    have:(a::x == a::y)=(x == y):=by simp
    rw [this];exact ih
theorem compareS_eq(x y:List UInt8):compareS x y=some (Lib.compareBytes x y):=by
  unfold compareS isNaNS
  rw [←cmpB_vals x y]
  simp [bnd,iteO]
theorem comp_compare_eq(x y:Tip):comp_compare x y=some (cmpTip x y):=by
  unfold comp_compare
  rw [bnd_some (Cj_ _ _),bnd_some (compareS_eq _ _),bnd_some (Gu_ _)];rfl
theorem H8_{a:Option Addr}{c:Nat}{l:List Tip}:Con Tryz.prog 68 #[.slice a l.length c,.func (.func 69) #[] #[]] σ [Res.rowS 43 2 encTip (.slice a l.length c) l] (SortP 43 2 encTip a c l (sortL cmpTip l) σ):=
  Con.sortK (k:=2) layT0 rfl Tryz.isAgg43 Tryz.sizeOf43 encTip_len encTip_one cmpTip_good.total (fun args w=>run_callFunc (by kernel_rfl) args w) (fun x y τ=>comp_compare_con (comp_compare_eq x y))
end Go.Proofs.YtamgjehhjkgelaaGreatDoor
end

noncomputable section
namespace Go.Proofs.YtamgjehhjkgelaaGreatDoor
open Go Go.E Go.E.OpVal Go.E.OpOk Go.Proofs.Tryz
theorem kl43:Go.E.KeyL Tryz.prog 43 (fun x=>Value.agg (Go.E.encTip x).toArray):=
 KeyL.struct underlying43 es43 rfl (fun x=>CkAt.struct (n:=1) (ts:=[(false,3,0),(false,9,1)]) (by kernel_rfl) (by kernel_rfl) (CkC.one (by kernel_rfl) rfl (CkAt.int underlying3 _) (CkC.one (by kernel_rfl) rfl (CkAt.str underlying9 _) CkC.nil))) rfl encTip_bits
theorem pf22:plainF Tryz.prog 22=true:=by kernel_rfl
theorem pf34:plainF Tryz.prog 34=true:=by kernel_rfl
theorem sz82:szOf Tryz.prog 82=some 0:=by kernel_rfl
def comp_leaving_j1(l118:List (List Arc))(x0:Fst)(k122:Nat):Option (((List (List Arc))×Nat)⊕((List (List Arc)))):=
 nxt ((l118.set (((nth x0.arcs k122 Arc.zero).frm).toNat) ((nth l118 (((nth x0.arcs k122 Arc.zero).frm).toNat) ([]:List Arc))++[(nth x0.arcs k122 Arc.zero)])),(k122+1))
def comp_leaving_b1(x0:Fst)(l118:List (List Arc))(k122:Nat):Option (((List (List Arc))×Nat)⊕((List (List Arc)))):=
 iteO (decide (((k122:Nat):Int)<((x0.arcs.length:Nat):Int))) (grd (0≤((nth x0.arcs k122 Arc.zero).frm)∧((nth x0.arcs k122 Arc.zero).frm)<(l118.length:Int)) (grd (((nth l118 (((nth x0.arcs k122 Arc.zero).frm).toNat) ([]:List Arc)).length+[(nth x0.arcs k122 Arc.zero)].length) * 72≤140737488355328) (grd (0≤((nth x0.arcs k122 Arc.zero).frm)∧((nth x0.arcs k122 Arc.zero).frm)<(l118.length:Int)) (comp_leaving_j1 l118 x0 k122)))) (fin (some l118))
def comp_leaving(x0:Fst):Option ((List (List Arc))):=
 grd (0≤x0.states∧24 * x0.states.toNat≤281474976710656) (iter (fun q:(List (List Arc))×Nat=>comp_leaving_b1 x0 q.1 q.2) ((List.replicate x0.states.toNat ([]:List Arc)),0))
def comp_leaving_P(σ:Store)(r:(List (List Arc))):Value→Store→List Res→Prop:=fun v σ' H'=>
 ∃a1 c1,v= .slice a1 r.length c1∧RZ σ' (pkSl 8 encArc encArc_len) (.slice a1 r.length c1) r∧H'=[]
theorem comp_leaving_con{x0:Fst}(f0_0:RS σ 2 encTip (.slice a0_0 x0.starts.length c0_0) x0.starts)(f0_1:RS σ 2 encTip (.slice a0_1 x0.ends.length c0_1) x0.ends)(f0_2:RS σ 8 encArc (.slice a0_2 x0.arcs.length c0_2) x0.arcs){r:(List (List Arc))}(hh:comp_leaving x0=some r):
  Con Tryz.prog 22 #[.agg #[.int .i64 x0.states,.slice a0_0 x0.starts.length c0_0,.slice a0_1 x0.ends.length c0_1,.slice a0_2 x0.arcs.length c0_2]] σ [] (comp_leaving_P σ r):=by
 dsimp only [comp_leaving]at hh
 have f0_0b:=f0_0.rv.big
 have f0_1b:=f0_1.rv.big
 have f0_2b:=f0_2.rv.big
 refine Con.mk (n:=30) Tryz.func22 z z z (fun w0=> ?_)
 refine TC.a (TL.op z (boxA z z z z (fun b101=> ?_)))
 refine TL.s z z (TL.en (TC.a (TL.w z (fieldLoc z fo25_0 z) (TL.w z (loadLoc z ag3 z (i:=0) z z) ?_))))
 have u5:=grd_c hh
 replace hh:=grd_t hh
 refine TL.op rfl (makeN (q:=x0.states.toNat) (E:=66) (size:=8) (enc:=encArc) rfl underlying68 sz23 by23 ze23 rfl rfl (vN u5.1) (vN u5.1) (by omega) (by decide) rfl (fun a103 c104 zf105=> ?_))
 refine TL.s z z (TL.en (TC.seq (TC.a (TL.w z (fieldLoc z fo25_3 z) (TL.w z (loadLoc z ag23 z (i:=1) z z) (TL.w z (lenC z underlying23 z) (TL.i z z (TL.en (TC.block (TC.loopG (α:=((List (List Arc))×Nat)×((List (NP Arc)))) (rgs [(5,1),(12,17)]) (fun g=>[(12,.int .i64 ((g.1.2:Nat):Int))]) (fun g=>[Res.nest 23 66 8 encArc (.slice a103 (List.replicate x0.states.toNat ([]:List Arc)).length c104) g.2]) (fun g=>σ) (fun g=>iter (fun q:(List (List Arc))×Nat=>comp_leaving_b1 x0 q.1 q.2) g.1=some r∧g.1.1.length=(List.replicate x0.states.toNat ([]:List Arc)).length∧Zn g.2 g.1.1) (fun g=>rounds (fun q:(List (List Arc))×Nat=>comp_leaving_b1 x0 q.1 q.2) g.1) (((List.replicate x0.states.toNat ([]:List Arc)),0),(List.replicate x0.states.toNat (nilN:NP Arc))) (Sub.pre 1 z) z (by repeat (first|exact trivial|refine ⟨z,?_⟩)) ⟨hh,z,zf105⟩ (fun g1 j1 hg1=> ?_)))))))))))
 obtain ⟨⟨l118,k122⟩,z120⟩:=g1
 obtain ⟨hh,hn119,zf121⟩:=hg1
 try dsimp only at hn119 zf121 ⊢
 obtain ⟨z1,hh,hR1⟩:=iter_e hh
 dsimp only [comp_leaving_b1]at hh
 have hn119b:=hn119
 have zf121b:=zf121.len
 refine TC.know (isSl_nest (q:=0) z zf121) (fun ⟨_,hb123⟩=> ?_)
 refine TC.a (TL.w z (OpVal.lss z z z) (TL.en (TC.seq (TC.cD z hh (fun h124 hh=> ?_) (fun h124 hh=> ?_)))))
 ·refine TC.skip (S.n (TC.cutG (α:=(Unit)×((List (NP Arc)))) (rgs [(5,1),(14,14)]) (fun g=>[]) (fun g=>[Res.nest 23 66 8 encArc (.slice a103 (List.replicate x0.states.toNat ([]:List Arc)).length c104) g.2]) (fun g=>σ) (fun g=>comp_leaving_j1 l118 x0 k122=some z1∧(l118.set (((nth x0.arcs k122 Arc.zero).frm).toNat) ((nth l118 (((nth x0.arcs k122 Arc.zero).frm).toNat) ([]:List Arc))++[(nth x0.arcs k122 Arc.zero)])).length=(List.replicate x0.states.toNat ([]:List Arc)).length∧Zn g.2 (l118.set (((nth x0.arcs k122 Arc.zero).frm).toNat) ((nth l118 (((nth x0.arcs k122 Arc.zero).frm).toNat) ([]:List Arc))++[(nth x0.arcs k122 Arc.zero)]))) ?_ (fun g j hg=> ?_)))
  ·skip
   refine TC.block (TC.a (TL.w z (indexN z underlying23 sz66 z z f0_2.rv.sl (by omega)) (TL.w z (loadSA Arc.zero z ag66 sz66 z f0_2 (by omega) (by omega)) (TL.op z (OpOk.alloc z ze66 z z (fun b128=> ?_))))))
   refine TL.op z (storeAll z sz66 z z z z z z ?_)
   refine TL.en ?_
   have u22:=grd_c hh
   replace hh:=grd_t hh
   have u26:=grd_c hh
   replace hh:=grd_t hh
   have u27:=grd_c hh
   replace hh:=grd_t hh
   refine TC.drawR (Hr:=[Res.cells b128 #[.int .i64 ((nth x0.arcs k122 Arc.zero).frm),.int .i64 ((nth x0.arcs k122 Arc.zero).to),.int .u64 ((((nth x0.arcs k122 Arc.zero).set).a:Nat):Int),.int .u64 ((((nth x0.arcs k122 Arc.zero).set).b:Nat):Int),.int .u64 ((((nth x0.arcs k122 Arc.zero).set).c:Nat):Int),.int .u64 ((((nth x0.arcs k122 Arc.zero).set).d:Nat):Int),.string (bs ((nth x0.arcs k122 Arc.zero).out)),.bool ((nth x0.arcs k122 Arc.zero).copy)] 66]) (fun r hr=>mem_pick [0] z hr) [] (by kernel_rfl) (TA.a 0 z (moveSl (.inl z) z) z (TA.a 1 z (fieldLoc z fo66_0 z) z (TA.b 2 z (loadLoc z ag3 z (i:=0) z z) z (TA.a 3 z (moveSl (.inl z) z) z (TA.a 4 z (fieldLoc z fo66_0 z) z (TA.b 5 z (loadLoc z ag3 z (i:=0) z z) z (TA.know (isSl_nest (q:=1) z zf121) (fun ⟨hs141,hs141b⟩=> ?_))))))))
   refine TA.b 6 z (OpVal.index z underlying68 sz23 z z hs141 u22.1 u22.2) z (TA.b 8 z (loadAll z ag66 sz66 z (i:=0) z z) z ?_)
   obtain ⟨p142,hz142,hm142⟩:=Zn.at zf121 (i:=((nth x0.arcs k122 Arc.zero).frm).toNat) (by omega)
   refine TA.actN [7,9] (by kernel_rfl) (an z z (OpVal.ok (loadN z ag23 z (q:=1) z hz142 hm142) z z ⟨(fun w h=>sees_of (Store.le.refl _) (fun r hr=>mem_pick [0] z hr) w h),?_⟩) (an z z (OpOk.lit (enc:=encArc) [(nth x0.arcs k122 Arc.zero)] z underlying23 sz66 ze66 z z z encArc_len (by decide) (by decide) Arc.zero z (by decide) z (by decide) encArc_one (fun a143 c144=>⟨(fun w h=>sees_of (Store.le.refl _) (fun r hr=>mem_pick [1] z hr) w h),?_⟩)) (True.intro)))
   ·skip
    refine TA.ac 9 z (OpOk.lit (enc:=encArc) [(nth x0.arcs k122 Arc.zero)] z underlying23 sz66 ze66 z z z encArc_len (by decide) (by decide) Arc.zero z (by decide) z (by decide) encArc_one (fun a146 c147=>⟨(fun w h=>sees_of (Store.le.refl _) (fun r hr=>mem_pick [1] z hr) w h),?_⟩))
    refine TA.front 2 z z (TA.by (fun w h=>Reach.takeN hz142 hm142 h) (TA.ac 10 z (appendS z z underlying23 sz66 by66 ze66 z z (by decide) z z z (.inr ⟨_,1,z⟩) (by simpa using u26) (by decide) (fun a150 c151=>(k3 ?_)))))
    refine TA.know (isSl_nestX (q:=1) z zf121) (fun ⟨hs152,hs152b⟩=> ?_)
    refine TA.b 11 z (OpVal.index z underlying68 sz23 z z hs152 u27.1 u27.2) z (TA.front 1 z z (TA.front 1 z z ?_))
    have hn154:(l118.set (((nth x0.arcs k122 Arc.zero).frm).toNat) ((nth l118 (((nth x0.arcs k122 Arc.zero).frm).toNat) ([]:List Arc))++[(nth x0.arcs k122 Arc.zero)])).length=(List.replicate x0.states.toNat ([]:List Arc)).length:=(List.length_set ..).trans hn119
    refine TA.ac 12 rfl (storeX (l':=((nth l118 (((nth x0.arcs k122 Arc.zero).frm).toNat) ([]:List Arc))++[(nth x0.arcs k122 Arc.zero)])) rfl sz23 rfl rfl rfl rfl rfl (by rw [zf121.len];omega) zf121 (fun zf153=>(k2 ?_)))
    exact TA.dn (B.n (S.n (cf ((),(z120.set (((nth x0.arcs k122 Arc.zero).frm).toNat) (((nth l118 (((nth x0.arcs k122 Arc.zero).frm).toNat) ([]:List Arc))++[(nth x0.arcs k122 Arc.zero)]),(a150,c151)))) ⟨hh,hn154,zf153⟩ (Sub.pre 1 z))))
   skip
   obtain ⟨p155,hz155,hm155⟩:=Zn.at zf121 (i:=((nth x0.arcs k122 Arc.zero).frm).toNat) (by omega)
   refine TA.ac 7 z (OpVal.ok (loadN z ag23 z (q:=2) z hz155 hm155) z z ⟨(fun w h=>sees_of (Store.le.refl _) (fun r hr=>mem_pick [1] z hr) w h),?_⟩)
   refine TA.front 2 z z (TA.by (fun w h=>Reach.takeN hz155 hm155 h) (TA.ac 10 z (appendS z z underlying23 sz66 by66 ze66 z z (by decide) z z z (.inr ⟨_,1,z⟩) (by simpa using u26) (by decide) (fun a157 c158=>(k3 ?_)))))
   refine TA.know (isSl_nestX (q:=1) z zf121) (fun ⟨hs159,hs159b⟩=> ?_)
   refine TA.b 11 z (OpVal.index z underlying68 sz23 z z hs159 u27.1 u27.2) z (TA.front 1 z z (TA.front 1 z z ?_))
   have hn161:(l118.set (((nth x0.arcs k122 Arc.zero).frm).toNat) ((nth l118 (((nth x0.arcs k122 Arc.zero).frm).toNat) ([]:List Arc))++[(nth x0.arcs k122 Arc.zero)])).length=(List.replicate x0.states.toNat ([]:List Arc)).length:=(List.length_set ..).trans hn119
   refine TA.ac 12 rfl (storeX (l':=((nth l118 (((nth x0.arcs k122 Arc.zero).frm).toNat) ([]:List Arc))++[(nth x0.arcs k122 Arc.zero)])) rfl sz23 rfl rfl rfl rfl rfl (by rw [zf121.len];omega) zf121 (fun zf160=>(k2 ?_)))
   exact TA.dn (B.n (S.n (cf ((),(z120.set (((nth x0.arcs k122 Arc.zero).frm).toNat) (((nth l118 (((nth x0.arcs k122 Arc.zero).frm).toNat) ([]:List Arc))++[(nth x0.arcs k122 Arc.zero)]),(a157,c158)))) ⟨hh,hn161,zf160⟩ (Sub.pre 1 z))))
  skip
  obtain ⟨_,z126⟩:=g
  obtain ⟨hh,hn125,zf127⟩:=hg
  try dsimp only at hn125 zf127 ⊢
  dsimp only [comp_leaving_j1]at hh
  have hn125b:=hn125
  have zf127b:=zf127.len
  refine TC.know (isSl_nest (q:=0) z zf127) (fun ⟨_,hb162⟩=> ?_)
  refine TC.region (TL.w z (OpVal.succ z z z (by omega)) (TL.i z z (TL.en ?_)))
  obtain ⟨hh,hlt163⟩:=nxt_x hR1 hh
  exact lf (((l118.set (((nth x0.arcs k122 Arc.zero).frm).toNat) ((nth l118 (((nth x0.arcs k122 Arc.zero).frm).toNat) ([]:List Arc))++[(nth x0.arcs k122 Arc.zero)])),(k122+1)),z126) hlt163 ⟨hh,hn125,zf127⟩ (Sub.pre 1 z)
 refine TC.exit (S.x (S.x ?_))
 replace hh:=fin_x hR1 hh
 refine TC.exitHere (S.n (TC.a (TL.s z z (TL.s z z (TL.en ?_)))))
 rw [←hn119]
 refine TC.seals (fun w h=>Reach.sealNest encArc_len zf121 h) (fun τ166 hle165 hr164=> ?_)
 have hr164b:=hr164.big
 refine TC.ret ?_
 obtain rfl:=so hh
 exact rq [2] ⟨a103,c104,z,hr164,z⟩
def comp_ways_j1(k163:Nat)(m167:FM Tip Unit)(l168:List Tip):Option (((FM Tip Unit)×(List Tip)×Nat)⊕(((FM Tip Unit)×(List Tip)×Nat)⊕(((List Tip)×Nat)⊕((List Tip)×Bool)))):=
 nxt (m167,l168,(k163+1))
def comp_ways_j2(m159:FM Tip Unit)(k163:Nat)(l160:List Tip)(x176:Tip):Option (((FM Tip Unit)×(List Tip)×Nat)⊕(((FM Tip Unit)×(List Tip)×Nat)⊕(((List Tip)×Nat)⊕((List Tip)×Bool)))):=
 iteO (m159.has x176) (comp_ways_j1 k163 m159 l160) (iteO (decide (4096≤((l160.length:Nat):Int))) (fin (fin (fin (some (([]:List Tip),false))))) (grd ((l160.length+[x176].length) * 24≤140737488355328) (comp_ways_j1 k163 (m159.put x176 ()) (l160++[x176]))))
def comp_ways_b3(x0:List (List Arc))(l115:List Tip)(k140:Nat)(x2:List UInt8)(k118:Nat)(m159:FM Tip Unit)(l160:List Tip)(k163:Nat):Option (((FM Tip Unit)×(List Tip)×Nat)⊕(((FM Tip Unit)×(List Tip)×Nat)⊕(((List Tip)×Nat)⊕((List Tip)×Bool)))):=
 iteO (decide (((k163:Nat):Int)<(((nth x0 (((nth l115 k140 Tip.zero).state).toNat) ([]:List Arc)).length:Nat):Int))) (iteO (!(((nth (nth x0 (((nth l115 k140 Tip.zero).state).toNat) ([]:List Arc)) k163 Arc.zero).set).has (nth x2 k118 (0:UInt8)).toNat)) (comp_ways_j1 k163 m159 l160) (grd (((nth l115 k140 Tip.zero).out).length+((nth (nth x0 (((nth l115 k140 Tip.zero).state).toNat) ([]:List Arc)) k163 Arc.zero).out).length≤9223372036854775807) (iteO ((nth (nth x0 (((nth l115 k140 Tip.zero).state).toNat) ([]:List Arc)) k163 Arc.zero).copy) (grd (k118≤(k118+1)∧(k118+1)≤x2.length) (grd (((nth l115 k140 Tip.zero).out++(nth (nth x0 (((nth l115 k140 Tip.zero).state).toNat) ([]:List Arc)) k163 Arc.zero).out).length+((x2.take (k118+1)).drop k118).length≤9223372036854775807) (comp_ways_j2 m159 k163 l160 (⟨(nth (nth x0 (((nth l115 k140 Tip.zero).state).toNat) ([]:List Arc)) k163 Arc.zero).to,(((nth l115 k140 Tip.zero).out++(nth (nth x0 (((nth l115 k140 Tip.zero).state).toNat) ([]:List Arc)) k163 Arc.zero).out)++((x2.take (k118+1)).drop k118))⟩:Tip)))) (comp_ways_j2 m159 k163 l160 (⟨(nth (nth x0 (((nth l115 k140 Tip.zero).state).toNat) ([]:List Arc)) k163 Arc.zero).to,((nth l115 k140 Tip.zero).out++(nth (nth x0 (((nth l115 k140 Tip.zero).state).toNat) ([]:List Arc)) k163 Arc.zero).out)⟩:Tip))))) (fin (nxt (m159,l160,(k140+1))))
def comp_ways_b2(l115:List Tip)(x0:List (List Arc))(x2:List UInt8)(k118:Nat)(m135:FM Tip Unit)(l137:List Tip)(k140:Nat):Option (((FM Tip Unit)×(List Tip)×Nat)⊕(((List Tip)×Nat)⊕((List Tip)×Bool))):=
 iteO (decide (((k140:Nat):Int)<((l115.length:Nat):Int))) (grd (0≤((nth l115 k140 Tip.zero).state)∧((nth l115 k140 Tip.zero).state)<(x0.length:Int)) (iter (fun q:(FM Tip Unit)×(List Tip)×Nat=>comp_ways_b3 x0 l115 k140 x2 k118 q.1 q.2.1 q.2.2) (m135,l137,0))) (fin (nxt (l137,(k118+1))))
def comp_ways_b1(x2:List UInt8)(x0:List (List Arc))(l115:List Tip)(k118:Nat):Option (((List Tip)×Nat)⊕((List Tip)×Bool)):=
 iteO (decide (((k118:Nat):Int)<((x2.length:Nat):Int))) (iter (fun q:(FM Tip Unit)×(List Tip)×Nat=>comp_ways_b2 l115 x0 x2 k118 q.1 q.2.1 q.2.2) ((FM.emp:FM Tip Unit),([]:List Tip),0)) (fin (some ((sortL cmpTip l115),true)))
def comp_ways(x0:List (List Arc))(x1:Int)(x2:List UInt8):Option ((List Tip)×Bool):=
 grd (x2.length≤281474976710656) (iter (fun q:(List Tip)×Nat=>comp_ways_b1 x2 x0 q.1 q.2) ([(⟨x1,([]:List UInt8)⟩:Tip)],0))
def comp_ways_P(σ:Store)(r:(List Tip)×Bool):Value→Store→List Res→Prop:=fun v σ' H'=>
 ∃a1 c1,v= .tuple #[.slice a1 r.1.length c1,.bool r.2]∧σ=σ'∧H'=[Res.rowS 43 2 encTip (.slice a1 r.1.length c1) r.1]
theorem comp_ways_con{x0:List (List Arc)}{x1:Int}{x2:List UInt8}(f0_0:RZ σ (pkSl 8 encArc encArc_len) (.slice a0_0 x0.length c0_0) x0){r:(List Tip)×Bool}(hh:comp_ways x0 x1 x2=some r):
  Con Tryz.prog 34 #[.slice a0_0 x0.length c0_0,.int .i64 x1,.string (bs x2)] σ [] (comp_ways_P σ r):=by
 dsimp only [comp_ways]at hh
 have f0_0b:=f0_0.big
 refine Con.mk (n:=94) Tryz.func34 z z z (fun w0=> ?_)
 have x2b:=grd_c hh
 replace hh:=grd_t hh
 refine TC.a (TL.s z z (TL.j z z (TL.en (TC.a (TL.i z z (TL.w z (buildL z pl43 ze43 z) (TL.op z (OpOk.lit (enc:=encTip) [(⟨x1,([]:List UInt8)⟩:Tip)] z underlying22 sz43 ze43 z z z encTip_len (by decide) (by decide) Tip.zero z (by decide) z (by decide) encTip_one (fun a101 c102=> ?_)))))))))
 refine TL.s z z (TL.en (TC.seq (TC.a (TL.w z (moveStr (.inl z) z) (TL.w z (lenBs z underlying9 z) (TL.i z z (TL.en (TC.block (TC.loopG (α:=((List Tip)×Nat)×((Option Addr)×Nat)) (rgs [(6,6),(13,1),(15,4),(24,67)]) (fun g=>[(8,.slice g.2.1 g.1.1.length g.2.2),(24,.int .i64 ((g.1.2:Nat):Int))]) (fun g=>[Res.rowS 43 2 encTip (.slice g.2.1 g.1.1.length g.2.2) g.1.1]) (fun g=>σ) (fun g=>iter (fun q:(List Tip)×Nat=>comp_ways_b1 x2 x0 q.1 q.2) g.1=some r) (fun g=>rounds (fun q:(List Tip)×Nat=>comp_ways_b1 x2 x0 q.1 q.2) g.1) (([(⟨x1,([]:List UInt8)⟩:Tip)],0),(a101,c102)) (Sub.pre 1 z) z (by repeat (first|exact trivial|refine ⟨z,?_⟩)) hh (fun g1 j1 hg1=> ?_))))))))))
 obtain ⟨⟨l115,k118⟩,⟨a116,c117⟩⟩:=g1
 have hh:=hg1;clear hg1
 try dsimp only
 obtain ⟨z1,hh,hR1⟩:=iter_e hh
 dsimp only [comp_ways_b1]at hh
 refine TC.isSl (i:=0) z (fun _ hb119 _=> ?_)
 refine TC.a (TL.w z (OpVal.lss z z z) (TL.en (TC.seq (TC.cD z hh (fun h120 hh=> ?_) (fun h120 hh=> ?_)))))
 ·refine TC.skip (S.n (TC.seq (TC.block (TC.a (TL.i z z (TL.i z z (TL.en (TC.a (TL.op z (makeMapB (enc:=(fun x=>Value.agg (encTip x).toArray)) (encV:=unitV) z z z (fun b121=> ?_)))))))))))
  refine TL.w z (moveMap (.inr z) z) (TL.en (TC.a (TL.s z z (TL.en (TC.seq (TC.a (TL.s z z (TL.w z (lenC z underlying22 z) (TL.i z z (TL.en (TC.block (TC.nilS 43 2 encTip (TC.loopG (α:=((FM Tip Unit)×(List Tip)×Nat)×((Option Addr)×Nat)) (rgs [(6,2),(11,1),(13,1),(15,4),(30,59)]) (fun g=>[(11,.slice g.2.1 g.1.2.1.length g.2.2),(30,.int .i64 ((g.1.2.2:Nat):Int))]) (fun g=>[Res.mapB (fun x=>Value.agg (encTip x).toArray) unitV (some b121) g.1.1,Res.rowS 43 2 encTip (.slice g.2.1 g.1.2.1.length g.2.2) g.1.2.1,Res.rowS 43 2 encTip (.slice a116 l115.length c117) l115]) (fun g=>σ) (fun g=>iter (fun q:(FM Tip Unit)×(List Tip)×Nat=>comp_ways_b2 l115 x0 x2 k118 q.1 q.2.1 q.2.2) g.1=some z1) (fun g=>rounds (fun q:(FM Tip Unit)×(List Tip)×Nat=>comp_ways_b2 l115 x0 x2 k118 q.1 q.2.1 q.2.2) g.1) (((FM.emp:FM Tip Unit),([]:List Tip),0),(none,0)) (Sub.f [2,1,2] 3) z (by repeat (first|exact trivial|refine ⟨z,?_⟩)) hh (fun g2 j2 hg2=> ?_))))))))))))))
  obtain ⟨⟨m135,l137,k140⟩,⟨a138,c139⟩⟩:=g2
  have hh:=hg2;clear hg2
  try dsimp only
  obtain ⟨z2,hh,hR2⟩:=iter_e hh
  dsimp only [comp_ways_b2]at hh
  refine TC.isSl (i:=1) z (fun _ hb142 _=> ?_)
  refine TC.isSl (i:=2) z (fun _ hb143 _=> ?_)
  refine TC.a (TL.w z (OpVal.lss z z z) (TL.en (TC.seq (TC.cD z hh (fun h144 hh=> ?_) (fun h144 hh=> ?_)))))
  ·refine TC.skip (S.n (TC.seq (TC.block (TC.a (TL.isSl (i:=2) z (fun hs145 _ _=> ?_))))))
   refine TL.w z (indexN z underlying22 sz43 z z hs145 (by omega)) (TL.w z (loadOA Tip.zero z ag43 sz43 z (q:=2) z encTip_len (by omega) (by omega)) (TL.op z (OpOk.alloc z ze43 z z (fun b146=> ?_))))
   refine TL.op z (storeAll z sz43 z z z z z z ?_)
   refine TL.en (TC.a (TL.s z z (TL.w z (fieldLoc z fo43_0 z) (TL.w z (loadLoc z ag3 z (i:=0) z z) ?_))))
   have u27:=grd_c hh
   replace hh:=grd_t hh
   refine TL.w z (OpVal.index z underlying68 sz23 z z f0_0.isSl u27.1 u27.2) ?_
   obtain ⟨p148,hk148,hg148⟩:=RZ.seg f0_0 (((nth l115 k140 Tip.zero).state).toNat) (by omega)
   replace hk148:RS _ 8 encArc (.slice p148.1 (nth x0 (((nth l115 k140 Tip.zero).state).toNat) ([]:List Arc)).length p148.2) (nth x0 (((nth l115 k140 Tip.zero).state).toNat) ([]:List Arc)):=hk148
   have hk148b:=hk148.rv.big
   refine TL.w z (OpVal.of (loadSeg0 z ag23 z hg148 z) (v':= .slice p148.1 ((nth x0 (((nth l115 k140 Tip.zero).state).toNat) ([]:List Arc)).length) p148.2) z) (TL.w z (lenC z underlying23 z) (TL.i z z (TL.en (TC.block (TC.loopG (α:=((FM Tip Unit)×(List Tip)×Nat)×((Option Addr)×Nat)) (rgs [(6,2),(11,1),(15,4),(40,48)]) (fun g=>[(11,.slice g.2.1 g.1.2.1.length g.2.2),(40,.int .i64 ((g.1.2.2:Nat):Int))]) (fun g=>[Res.mapB (fun x=>Value.agg (encTip x).toArray) unitV (some b121) g.1.1,Res.rowS 43 2 encTip (.slice g.2.1 g.1.2.1.length g.2.2) g.1.2.1,Res.cells b146 #[.int .i64 ((nth l115 k140 Tip.zero).state),.string (bs ((nth l115 k140 Tip.zero).out))] 43,Res.rowS 43 2 encTip (.slice a116 l115.length c117) l115]) (fun g=>σ) (fun g=>iter (fun q:(FM Tip Unit)×(List Tip)×Nat=>comp_ways_b3 x0 l115 k140 x2 k118 q.1 q.2.1 q.2.2) g.1=some z2) (fun g=>rounds (fun q:(FM Tip Unit)×(List Tip)×Nat=>comp_ways_b3 x0 l115 k140 x2 k118 q.1 q.2.1 q.2.2) g.1) ((m135,l137,0),(a138,c139)) (Sub.f [3,1,3,3] 4) z (by repeat (first|exact trivial|refine ⟨z,?_⟩)) hh (fun g3 j3 hg3=> ?_))))))
   obtain ⟨⟨m159,l160,k163⟩,⟨a161,c162⟩⟩:=g3
   have hh:=hg3;clear hg3
   try dsimp only
   obtain ⟨z3,hh,hR3⟩:=iter_e hh
   dsimp only [comp_ways_b3]at hh
   refine TC.isSl (i:=1) z (fun _ hb164 _=> ?_)
   refine TC.isSl (i:=3) z (fun _ hb165 _=> ?_)
   refine TC.a (TL.w z (OpVal.lss z z z) (TL.en (TC.seq (TC.cD z hh (fun h166 hh=> ?_) (fun h166 hh=> ?_)))))
   ·refine TC.skip (S.n (TC.cutG (α:=((FM Tip Unit)×(List Tip))×((Option Addr)×Nat)) (rgs [(6,2),(11,1),(15,4),(42,45)]) (fun g=>[(11,.slice g.2.1 g.1.2.length g.2.2)]) (fun g=>[Res.mapB (fun x=>Value.agg (encTip x).toArray) unitV (some b121) g.1.1,Res.rowS 43 2 encTip (.slice g.2.1 g.1.2.length g.2.2) g.1.2,Res.cells b146 #[.int .i64 ((nth l115 k140 Tip.zero).state),.string (bs ((nth l115 k140 Tip.zero).out))] 43,Res.rowS 43 2 encTip (.slice a116 l115.length c117) l115]) (fun g=>σ) (fun g=>comp_ways_j1 k163 g.1.1 g.1.2=some z3) ?_ (fun g j hg=> ?_)))
    ·skip
     refine TC.block (TC.a (TL.w z (indexN z underlying23 sz66 z z hk148.rv.sl (by omega)) (TL.w z (loadSA Arc.zero z ag66 sz66 z hk148 (by omega) (by omega)) (TL.op z (OpOk.alloc z ze66 z z (fun b171=> ?_))))))
     refine TL.op z (storeAll z sz66 z z z z z z ?_)
     refine TL.en (TC.seq (TC.seq (TC.draw [] (by kernel_rfl) (TA.a 0 z (fieldLoc z fo66_2 z) z (TA.b 1 z (loadLocA z ag55 sz55 z (i:=0) z z z) z (TA.a 2 z (moveStr (.inl z) z) z (TA.a 3 z (moveI (.inl z) z) z (TA.a 4 z (indexBs z underlying9 z z (by omega)) z (TA.ac 5 z (callP (has_con _ ((nth (nth x0 (((nth l115 k140 Tip.zero).state).toNat) ([]:List Arc)) k163 Arc.zero).set) (nth x2 k118 (0:UInt8)).toNat (BSet.isOk _) (UInt8.toNat_lt _)) z z pf62 z z z (k0 ?_)))))))))))
     refine TA.a 6 z (OpVal.not z z) z (TA.dn (S.n (TC.cB z hh (fun h173 hh=> ?_) (fun h173 hh=> ?_))))
     ·exact TC.exit (S.x (TC.exitHere (S.n (cf ((m159,l160),(a161,c162)) hh (Sub.f [4,4,4,4] 4)))))
     refine TC.skip (S.n (TC.a (TL.w z (fieldLoc z fo66_1 z) (TL.w z (loadLoc z ag3 z (i:=0) z z) (TL.w z (fieldLoc z fo43_1 z) (TL.w z (loadLoc z ag9 z (i:=3) z z) (TL.w z (fieldLoc z fo66_3 z) (TL.w z (loadLoc z ag9 z (i:=0) z z) ?_))))))))
     have u49:=grd_c hh
     replace hh:=grd_t hh
     refine TL.w z (catBs z z z u49) (TL.w z (buildL z pl43 ze43 z) (TL.op z (OpOk.alloc z ze43 z z (fun b174=> ?_))))
     refine TL.op z (storeAll z sz43 z z z z z z ?_)
     refine TL.en (TC.cutG (α:=(Tip)×(Unit)) (rgs [(59,11)]) (fun g=>[]) (fun g=>[Res.mapB (fun x=>Value.agg (encTip x).toArray) unitV (some b121) m159,Res.rowS 43 2 encTip (.slice a161 l160.length c162) l160,Res.cells b146 #[.int .i64 ((nth l115 k140 Tip.zero).state),.string (bs ((nth l115 k140 Tip.zero).out))] 43,Res.cells b174 #[.int .i64 g.1.state,.string (bs g.1.out)] 43,Res.rowS 43 2 encTip (.slice a116 l115.length c117) l115]) (fun g=>σ) (fun g=>comp_ways_j2 m159 k163 l160 g.1=some z3) ?_ (fun g j hg=> ?_))
     ·skip
      refine TC.a (TL.w z (fieldLoc z fo66_4 z) (TL.w z (loadLoc z ag4 z (i:=1) z z) (TL.en (TC.cB z hh (fun h177 hh=> ?_) (fun h177 hh=> ?_)))))
      ·have u61:=grd_c hh
       replace hh:=grd_t hh
       have u62:=grd_c hh
       replace hh:=grd_t hh
       refine TC.draw [9] (by kernel_rfl) (TA.a 0 z (fieldLoc z fo43_1 z) z (TA.b 1 z (loadLoc z ag9 z (i:=0) z z) z (TA.a 2 z (moveStr (.inl z) z) z (TA.a 3 z (moveI (.inl z) z) z (TA.a 4 z (moveI (.inl z) z) z (TA.a 5 z (OpVal.succ z z z (by omega)) z (TA.b 6 z (sliceBs (l:=x2) (i:=k118) (j:=(k118+1)) z underlying9 z z z (by omega) (by omega)) z (TA.a 7 z (catBs z z z u62) z (TA.a 8 z (fieldLoc z fo43_1 z) z (TA.last 9 (by kernel_rfl) z z z (storeStr z sz9 z z z z z ?_)))))))))))
       exact TZ.done (by kernel_rfl) (S.n (cf ((⟨(nth (nth x0 (((nth l115 k140 Tip.zero).state).toNat) ([]:List Arc)) k163 Arc.zero).to,(((nth l115 k140 Tip.zero).out++(nth (nth x0 (((nth l115 k140 Tip.zero).state).toNat) ([]:List Arc)) k163 Arc.zero).out)++((x2.take (k118+1)).drop k118))⟩:Tip),()) hh (Sub.f [5,1,5,5,5] 5)))
      exact TC.skip (S.n (cf ((⟨(nth (nth x0 (((nth l115 k140 Tip.zero).state).toNat) ([]:List Arc)) k163 Arc.zero).to,((nth l115 k140 Tip.zero).out++(nth (nth x0 (((nth l115 k140 Tip.zero).state).toNat) ([]:List Arc)) k163 Arc.zero).out)⟩:Tip),()) hh (Sub.f [5,1,5,5,5] 5)))
     skip
     obtain ⟨x176,_⟩:=g
     have hh:=hg;clear hg
     try dsimp only
     dsimp only [comp_ways_j2]at hh
     refine TC.isSl (i:=1) z (fun _ hb178 _=> ?_)
     refine TC.isSl (i:=4) z (fun _ hb179 _=> ?_)
     refine TC.seq (TC.a (TL.w z (moveMap (.inl z) z) (TL.w z (loadAll z ag43 sz43 z (i:=3) z z) (TL.w z (OpVal.of (lookB () (q:=x176) z underlying72 ze82 z (i:=0) z z kl43) (v':= .tuple #[.agg #[],.bool (m159.has x176)]) z) (TL.w z (moveT (.inl z) z) (TL.w z (OpVal.extract z z z) (TL.w z (OpVal.extract z z z) (TL.op z (OpOk.alloc z ze82 z z (fun b180=> ?_))))))))))
     refine TL.op z (storeAll z sz82 z z z z z z ?_)
     refine TL.j z z (TL.en (TC.a (TL.j z z (TL.en (TC.cB z hh (fun h182 hh=> ?_) (fun h182 hh=> ?_))))))
     ·exact TC.exit (S.x (TC.exitHere (S.n (cf ((m159,l160),(a161,c162)) hh (Sub.f [5,4,4,4] 4)))))
     refine TC.skip (S.n (TC.seq (TC.a (TL.s z z (TL.w z (lenC z underlying22 z) (TL.w z (OpVal.geq z z z) (TL.en (TC.cD z hh (fun h183 hh=> ?_) (fun h183 hh=> ?_)))))))))
     ·refine TC.a (TL.s z z (TL.j z z (TL.en (TC.nilS 43 2 encTip (TC.rt 1 (S.r (B.r (S.r (S.r ?_)))))))))
      replace hh:=fin_x hR3 hh
      refine B.r (B.r (S.r (S.r ?_)))
      replace hh:=fin_x hR2 hh
      refine B.r (S.r (B.r (S.r (S.r ?_))))
      replace hh:=fin_x hR1 hh
      refine B.r (S.r ?_)
      obtain rfl:=so hh
      exact ro [Res.rowS 43 2 encTip (.slice none ([]:List Tip).length 0) ([]:List Tip)] z (RVs.tmp z (RVs.tmp z RVs.nil)) ⟨none,0,z,z,z⟩
     refine TC.skip (S.n (TC.a (TL.w z (moveMap (.inl z) z) (TL.w z (loadAll z ag43 sz43 z (i:=4) z z) (TL.w z (buildL z pl82 ze82 z) (TL.front 1 z z (TL.op z (updB x176 () z underlying72 z z z z kl43 ?_))))))))
     refine TL.en (TC.region (TL.s z z (TL.w z (loadAll z ag43 sz43 z (i:=4) z z) (TL.op z (OpOk.lit (enc:=encTip) [x176] z underlying22 sz43 ze43 z z z encTip_len (by decide) (by decide) Tip.zero z (by decide) z (by decide) encTip_one (fun a185 c186=> ?_))))))
     refine TL.front 3 z z ?_
     have u87:=grd_c hh
     replace hh:=grd_t hh
     refine TL.op z (appendS z z underlying22 sz43 by43 ze43 z z (by decide) z z z (.inr ⟨_,0,z⟩) (by simpa using u87) (by decide) (fun a188 c189=> ?_))
     exact TL.s z z (TL.nil (B.n (S.n (cf (((m159.put x176 ()),(l160++[x176])),(a188,c189)) hh (Sub.f [6,5,2,4] 4)))))
    skip
    obtain ⟨⟨m167,l168⟩,⟨a169,c170⟩⟩:=g
    have hh:=hg;clear hg
    try dsimp only
    dsimp only [comp_ways_j1]at hh
    refine TC.isSl (i:=1) z (fun _ hb190 _=> ?_)
    refine TC.isSl (i:=3) z (fun _ hb191 _=> ?_)
    refine TC.region (TL.w z (OpVal.succ z z z (by omega)) (TL.i z z (TL.en ?_)))
    obtain ⟨hh,hlt192⟩:=nxt_x hR3 hh
    exact lf ((m167,l168,(k163+1)),(a169,c170)) hlt192 hh (Sub.f [3,3,3,3] 4)
   refine TC.exit (S.x (S.x ?_))
   replace hh:=fin_x hR3 hh
   refine TC.exitHere (B.n (S.n (TC.region (TL.w z (OpVal.succ z z z (by omega)) (TL.i z z (TL.en ?_))))))
   obtain ⟨hh,hlt193⟩:=nxt_x hR2 hh
   exact lf ((m159,l160,(k140+1)),(a161,c162)) hlt193 hh (Sub.f [3,2,2] 3)
  refine TC.exit (S.x (S.x ?_))
  replace hh:=fin_x hR2 hh
  refine TC.exitHere (S.n (TC.region (TL.s z z (TL.s z z (TL.nil (B.n (S.n (TC.region (TL.w z (OpVal.succ z z z (by omega)) (TL.i z z (TL.en ?_)))))))))))
  obtain ⟨hh,hlt194⟩:=nxt_x hR1 hh
  exact lf ((l137,(k118+1)),(a138,c139)) hlt194 hh (Sub.f [1] 1)
 refine TC.exit (S.x (S.x ?_))
 replace hh:=fin_x hR1 hh
 refine TC.exitHere (S.n (TC.a (TL.s z z ?_)))
 have hn195:(sortL cmpTip l115).length=l115.length:=List.length_mergeSort _
 refine TL.op z (OpOk.call (H8_ (l:=l115)) z z pf68 z z z z ?_)
 rintro _ _ _ _ ⟨rfl,rfl,rfl⟩
 refine TL.en (TC.a (TL.s z z (TL.s z z (TL.j z z (TL.en ?_)))))
 rw [←hn195]
 refine TC.ret ?_
 obtain rfl:=so hh
 exact ro [Res.rowS 43 2 encTip (.slice a116 (sortL cmpTip l115).length c117) (sortL cmpTip l115)] z (RVs.tmp z (RVs.tmp z RVs.nil)) ⟨a116,c117,z,z,z⟩
def comp_Ways(x0:Fst)(x1:Int)(x2:List UInt8):Option ((List Tip)×Int):=
 grd (x2.length≤281474976710656) (bnd (Bk_ x0) (fun v5=>iteO (decide (v5≠0)) (some (([]:List Tip),1)) (iteO (decide (x1<0)) (some (([]:List Tip),1)) (iteO (decide (x0.states≤x1)) (some (([]:List Tip),1)) (iteO (decide (1024<((x2.length:Nat):Int))) (some (([]:List Tip),1)) (bnd (comp_leaving x0) (fun v25=>bnd (comp_ways v25 x1 x2) (fun v28=>iteO (!v28.2) (some (([]:List Tip),2)) (some (v28.1,0))))))))))
def comp_Ways_P(σ:Store)(r:(List Tip)×Int):Value→Store→List Res→Prop:=fun v σ' H'=>
 ∃a1 c1,v= .tuple #[.slice a1 r.1.length c1,.int .i64 r.2]∧RS σ' 2 encTip (.slice a1 r.1.length c1) r.1∧H'=[]
theorem comp_Ways_con{x0:Fst}{x1:Int}{x2:List UInt8}(f0_0:RS σ 2 encTip (.slice a0_0 x0.starts.length c0_0) x0.starts)(f0_1:RS σ 2 encTip (.slice a0_1 x0.ends.length c0_1) x0.ends)(f0_2:RS σ 8 encArc (.slice a0_2 x0.arcs.length c0_2) x0.arcs){r:(List Tip)×Int}(hh:comp_Ways x0 x1 x2=some r):
  Con Tryz.prog 14 #[.agg #[.int .i64 x0.states,.slice a0_0 x0.starts.length c0_0,.slice a0_1 x0.ends.length c0_1,.slice a0_2 x0.arcs.length c0_2],.int .i64 x1,.string (bs x2)] σ [] (comp_Ways_P σ r):=by
 dsimp only [comp_Ways]at hh
 have f0_0b:=f0_0.rv.big
 have f0_1b:=f0_1.rv.big
 have f0_2b:=f0_2.rv.big
 refine Con.mk (n:=39) Tryz.func14 z z z (fun w0=> ?_)
 have x2b:=grd_c hh
 replace hh:=grd_t hh
 refine TC.a (TL.op z (boxA z z z z (fun b101=> ?_)))
 refine TL.s z z (TL.i z z (TL.en (TC.seq (TC.a (TL.w z (loadAll z ag25 sz25 z (i:=0) z z) ?_)))))
 obtain ⟨v5,u5,hh⟩:=bnd_e hh
 refine TL.op z (callP (Co_ (x0:=x0) f0_0 f0_1 f0_2 u5) z z pf21 z z z ?_)
 refine TL.w z (OpVal.neq z z z) (TL.j z z (TL.split 13 z (fun h103=> ?_) (fun h103=> ?_)))
 ·replace hh:=iteO_t h103 hh
  replace h103:=of_decide_eq_true h103
  refine TL.f z (TL.f z (TL.w z (pickTB z z z) (TL.j z z (TL.f z (TL.f z (TL.f z (TL.f z (TL.w z (pickTB z z z) (TL.j z z (TL.f z (TL.f z (TL.f z (TL.w z (pickTB z z z) (TL.en (TC.t z ?_)))))))))))))))
  refine TC.a (TL.s z z (TL.i z z (TL.en (TC.rt 0 (S.r ?_)))))
  obtain rfl:=so hh
  exact rq [6,7] ⟨none,0,z,(RS.nilF _ encTip encTip_len),z⟩
 replace hh:=iteO_f h103 hh
 replace h103:=of_decide_eq_false h103
 refine TL.g z (moveI (.inl z) z) (TL.g z (OpVal.lss z z z) (TL.w z (pickFB z z z) (TL.j z z (TL.split 17 z (fun h104=> ?_) (fun h104=> ?_)))))
 ·replace hh:=iteO_t h104 hh
  replace h104:=of_decide_eq_true h104
  refine TL.f z (TL.f z (TL.f z (TL.f z (TL.w z (pickTB z z z) (TL.j z z (TL.f z (TL.f z (TL.f z (TL.w z (pickTB z z z) (TL.en (TC.t z (TC.a (TL.s z z (TL.i z z (TL.en ?_)))))))))))))))
  refine TC.rt 0 (S.r ?_)
  obtain rfl:=so hh
  exact rq [6,7] ⟨none,0,z,(RS.nilF _ encTip encTip_len),z⟩
 replace hh:=iteO_f h104 hh
 replace h104:=of_decide_eq_false h104
 refine TL.g z (moveI (.inl z) z) (TL.g z (fieldLoc z fo25_0 z) (TL.g z (loadLoc z ag3 z (i:=0) z z) (TL.g z (OpVal.geq z z z) (TL.w z (pickFB z z z) (TL.j z z (TL.split 23 z (fun h105=> ?_) (fun h105=> ?_)))))))
 ·replace hh:=iteO_t h105 hh
  replace h105:=of_decide_eq_true h105
  refine TL.f z (TL.f z (TL.f z (TL.w z (pickTB z z z) (TL.en (TC.t z (TC.a (TL.s z z (TL.i z z (TL.en (TC.rt 0 (S.r ?_)))))))))))
  obtain rfl:=so hh
  exact rq [6,7] ⟨none,0,z,(RS.nilF _ encTip encTip_len),z⟩
 replace hh:=iteO_f h105 hh
 replace h105:=of_decide_eq_false h105
 refine TL.g z (moveStr (.inl z) z) (TL.g z (lenBs z underlying9 z) (TL.g z (OpVal.gtr z z z) (TL.w z (pickFB z z z) (TL.en (TC.cD z hh (fun h106 hh=> ?_) (fun h106 hh=> ?_))))))
 ·refine TC.a (TL.s z z (TL.i z z (TL.en (TC.rt 0 (S.r ?_)))))
  obtain rfl:=so hh
  exact rq [6,7] ⟨none,0,z,(RS.nilF _ encTip encTip_len),z⟩
 refine TC.skip (S.n (TC.a (TL.w z (loadAll z ag25 sz25 z (i:=0) z z) ?_)))
 obtain ⟨v25,u25,hh⟩:=bnd_e hh
 refine TL.op z (OpOk.call (comp_leaving_con (x0:=x0) f0_0 f0_1 f0_2 u25) z z pf22 z z z z ?_)
 rintro _ τ107 _ hle107 ⟨a107_1,c107_1,rfl,hr107_0,rfl⟩
 have hr107_0b:=hr107_0.big
 refine TL.i z z (TL.w z (moveStr (.inl z) z) ?_)
 obtain ⟨v28,u28,hh⟩:=bnd_e hh
 refine TL.op z (OpOk.call (comp_ways_con hr107_0 u28) z z pf34 z z z z ?_)
 rintro _ _ _ hle108 ⟨a108_1,c108_1,rfl,rfl,rfl⟩
 refine TL.w z (moveT (.inl z) z) (TL.w z (OpVal.extract z z z) (TL.w z (OpVal.extract z z z) (TL.s z z (TL.j z z (TL.en (TC.seq (TC.a (TL.j z z (TL.w z (OpVal.not z z) (TL.en (TC.cB z hh (fun h110 hh=> ?_) (fun h110 hh=> ?_))))))))))))
 ·refine TC.a (TL.s z z (TL.i z z (TL.en (TC.rt 0 (S.r ?_)))))
  obtain rfl:=so hh
  exact rq [6,7] ⟨none,0,z,(RS.nilF _ encTip encTip_len),z⟩
 refine TC.skip (S.n (TC.a (TL.s z z (TL.s z z (TL.i z z (TL.en (TC.sealS encTip_len (fun τ113 hle112 hr111=> ?_))))))))
 have hr111b:=hr111.rv.big
 refine TC.rt 0 ?_
 obtain rfl:=so hh
 exact rq [6,7] ⟨a108_1,c108_1,z,hr111,z⟩
end Go.Proofs.YtamgjehhjkgelaaGreatDoor
end

noncomputable section
namespace Go.E
open Go
structure TwoM where
  s:FM Tip Unit
  e:FM Tip Unit
def TwoM.zero:TwoM:=⟨FM.emp,FM.emp⟩
structure Chain where
  a:Fst
  b:Fst
  arcs:List (List Arc)
  ends:List (List Tip)
  seen:FM Arc Unit
  tips:TwoM
  whole:Fst
  over:Bool
def Chain.zero:Chain:=⟨Fst.zero,Fst.zero,[],[],FM.emp,TwoM.zero,Fst.zero,false⟩
end Go.E
end

noncomputable section
namespace Go.E
open Go
def UN(X:Ctx)(Q:QP)(c:Code):Nat→Env→Store→List Res→Prop
  |0=>fun _ _ _=>False
  |n+1=>fun e σ H=>TC X (seqQ (UN X Q c n) Q) c e σ H
theorem UN.step{X:Ctx}{Q:QP}{c:Code}{n:Nat}{e:Env}{H:List Res}(h:TC X (seqQ (UN X Q c n) Q) c e σ H):UN X Q c (n+1) e σ H:=h
theorem TC.unrolls{X:Ctx}{Q:QP}{c:Code}{e:Env}{H:List Res}(n:Nat)(h:UN X Q c n e σ H):TC X Q (.loop c) e σ H:=by
  refine TC.loop (fun k e σ H=>UN X Q c k e σ H) n h fun k e' σ' H' hk=> ?_
  cases k with
  |zero=>exact hk.elim
  |succ k=>
    refine TC.weak hk fun ex e'' σ'' H'' hq=> ?_
    cases ex<;>first|exact hq|exact ⟨k,Nat.lt_succ_self k,hq⟩
def FnV:Type:={v:Value // v.oneCell'=true}
def FnV.nil:FnV:=⟨.nilFunc,rfl⟩
def encFn(x:FnV):List Value:=[x.1]
theorem encFn_len(x:FnV):(encFn x).length=1:=rfl
theorem encFn_one: ∀x, ∀u∈encFn x,u.oneCell'=true:=fun x u hu=>by
  obtain rfl:=List.mem_singleton.1 hu
  exact x.2
end Go.E
end

noncomputable section
namespace Go.Proofs.YtamgjehhjkgelaaGreatDoor
open Go Go.E Go.E.OpVal Go.E.OpOk Go.Proofs.Tryz
theorem ag1:aggOf Tryz.prog 1=some false:=by kernel_rfl
theorem ag68:aggOf Tryz.prog 68=some false:=by kernel_rfl
theorem ag70:aggOf Tryz.prog 70=some false:=by kernel_rfl
theorem ag71:aggOf Tryz.prog 71=some false:=by kernel_rfl
theorem ag72:aggOf Tryz.prog 72=some false:=by kernel_rfl
theorem by22:byOf Tryz.prog 22=some 24:=by kernel_rfl
theorem fo75_0:foOf Tryz.prog 75 0=some 0:=by kernel_rfl
theorem fo75_1:foOf Tryz.prog 75 1=some 4:=by kernel_rfl
theorem fo75_2:foOf Tryz.prog 75 2=some 8:=by kernel_rfl
theorem fo75_3:foOf Tryz.prog 75 3=some 9:=by kernel_rfl
theorem fo75_4:foOf Tryz.prog 75 4=some 10:=by kernel_rfl
theorem fo75_5:foOf Tryz.prog 75 5=some 11:=by kernel_rfl
theorem fo75_6:foOf Tryz.prog 75 6=some 13:=by kernel_rfl
theorem fo75_7:foOf Tryz.prog 75 7=some 17:=by kernel_rfl
theorem kl66:Go.E.KeyL Tryz.prog 66 (fun x=>Value.agg (Go.E.encArc x).toArray):=
 KeyL.struct underlying66 es66 rfl (fun x=>CkAt.struct (n:=2) (ts:=[(false,3,0),(false,3,1),(false,55,2),(false,9,6),(false,4,7)]) (by kernel_rfl) (by kernel_rfl) (CkC.one (by kernel_rfl) rfl (CkAt.int underlying3 _ |>.up (by decide)) (CkC.one (by kernel_rfl) rfl (CkAt.int underlying3 _ |>.up (by decide)) (CkC.agg (s:=4) (us:=Go.E.setA x.set) (by kernel_rfl) (by kernel_rfl) rfl (CkAt.set underlying55 underlying53 (by kernel_rfl) (by kernel_rfl) x.set) (CkC.one (by kernel_rfl) rfl (CkAt.str underlying9 _ |>.up (by decide)) (CkC.one (by kernel_rfl) rfl (CkAt.bool underlying4 _ |>.up (by decide)) CkC.nil)))))) rfl encArc_bits
theorem pf23:plainF Tryz.prog 23=true:=by kernel_rfl
theorem pf24:plainF Tryz.prog 24=true:=by kernel_rfl
theorem pf25:plainF Tryz.prog 25=true:=by kernel_rfl
theorem pf26:plainF Tryz.prog 26=true:=by kernel_rfl
theorem pf52:plainF Tryz.prog 52=true:=by kernel_rfl
theorem pf53:plainF Tryz.prog 53=true:=by kernel_rfl
theorem pf54:plainF Tryz.prog 54=true:=by kernel_rfl
theorem pf55:plainF Tryz.prog 55=true:=by kernel_rfl
theorem pf56:plainF Tryz.prog 56=true:=by kernel_rfl
theorem pl75:plOf Tryz.prog 75=some #[(0,4),(4,4),(8,1),(9,1),(10,1),(11,2),(13,4),(17,1)]:=by kernel_rfl
theorem sz1:szOf Tryz.prog 1=some 1:=by kernel_rfl
theorem sz72:szOf Tryz.prog 72=some 1:=by kernel_rfl
theorem ze1:zeroOf Tryz.prog 1=some (.nilFunc):=by kernel_rfl
theorem ze22:zeroOf Tryz.prog 22=some (.slice none 0 0):=by kernel_rfl
theorem ze75:zeroOf Tryz.prog 75=some (.agg #[.int .i64 0,.slice none 0 0,.slice none 0 0,.slice none 0 0,.int .i64 0,.slice none 0 0,.slice none 0 0,.slice none 0 0,.slice none 0 0,.slice none 0 0,.map none,.map none,.map none,.int .i64 0,.slice none 0 0,.slice none 0 0,.slice none 0 0,.bool false]):=by kernel_rfl
def comp_chain_at(x0:Chain)(x1:Int)(x2:Int):Option (Int):=
 some (IntKind.i64.wrap ((IntKind.i64.wrap (x1 * x0.b.states))+x2))
theorem comp_chain_at_con{x0:Chain}{x1:Int}{x2:Int}(f0_3:RS σ 2 encTip (.slice a0_1 x0.a.starts.length c0_2) x0.a.starts)(f0_6:RS σ 2 encTip (.slice a0_4 x0.a.ends.length c0_5) x0.a.ends)(f0_9:RS σ 8 encArc (.slice a0_7 x0.a.arcs.length c0_8) x0.a.arcs)(f0_12:RS σ 2 encTip (.slice a0_10 x0.b.starts.length c0_11) x0.b.starts)(f0_15:RS σ 2 encTip (.slice a0_13 x0.b.ends.length c0_14) x0.b.ends)(f0_18:RS σ 8 encArc (.slice a0_16 x0.b.arcs.length c0_17) x0.b.arcs)(f0_21:RZ σ (pkSl 8 encArc encArc_len) (.slice a0_19 x0.arcs.length c0_20) x0.arcs)(f0_24:RZ σ (pkSl 2 encTip encTip_len) (.slice a0_22 x0.ends.length c0_23) x0.ends){r:Int}(hh:comp_chain_at x0 x1 x2=some r):
  Con Tryz.prog 54 #[loc b0_0 0,.int .i64 x1,.int .i64 x2] σ [Res.cells b0_0 #[.int .i64 x0.a.states,.slice a0_1 x0.a.starts.length c0_2,.slice a0_4 x0.a.ends.length c0_5,.slice a0_7 x0.a.arcs.length c0_8,.int .i64 x0.b.states,.slice a0_10 x0.b.starts.length c0_11,.slice a0_13 x0.b.ends.length c0_14,.slice a0_16 x0.b.arcs.length c0_17,.slice a0_19 x0.arcs.length c0_20,.slice a0_22 x0.ends.length c0_23,.map (some b0_25),.map (some b0_26),.map (some b0_27),.int .i64 x0.whole.states,.slice a0_28 x0.whole.starts.length c0_29,.slice a0_30 x0.whole.ends.length c0_31,.slice a0_32 x0.whole.arcs.length c0_33,.bool x0.over] Eb0,Res.mapB (fun x=>Value.agg (encArc x).toArray) unitV (some b0_25) x0.seen,Res.mapB (fun x=>Value.agg (encTip x).toArray) unitV (some b0_26) x0.tips.s,Res.mapB (fun x=>Value.agg (encTip x).toArray) unitV (some b0_27) x0.tips.e,Res.rowS 43 2 encTip (.slice a0_28 x0.whole.starts.length c0_29) x0.whole.starts,Res.rowS 43 2 encTip (.slice a0_30 x0.whole.ends.length c0_31) x0.whole.ends,Res.rowS 66 8 encArc (.slice a0_32 x0.whole.arcs.length c0_33) x0.whole.arcs] (fun v σ' H'=>v= .int .i64 r∧σ=σ'∧H'=[Res.cells b0_0 #[.int .i64 x0.a.states,.slice a0_1 x0.a.starts.length c0_2,.slice a0_4 x0.a.ends.length c0_5,.slice a0_7 x0.a.arcs.length c0_8,.int .i64 x0.b.states,.slice a0_10 x0.b.starts.length c0_11,.slice a0_13 x0.b.ends.length c0_14,.slice a0_16 x0.b.arcs.length c0_17,.slice a0_19 x0.arcs.length c0_20,.slice a0_22 x0.ends.length c0_23,.map (some b0_25),.map (some b0_26),.map (some b0_27),.int .i64 x0.whole.states,.slice a0_28 x0.whole.starts.length c0_29,.slice a0_30 x0.whole.ends.length c0_31,.slice a0_32 x0.whole.arcs.length c0_33,.bool x0.over] Eb0,Res.mapB (fun x=>Value.agg (encArc x).toArray) unitV (some b0_25) x0.seen,Res.mapB (fun x=>Value.agg (encTip x).toArray) unitV (some b0_26) x0.tips.s,Res.mapB (fun x=>Value.agg (encTip x).toArray) unitV (some b0_27) x0.tips.e,Res.rowS 43 2 encTip (.slice a0_28 x0.whole.starts.length c0_29) x0.whole.starts,Res.rowS 43 2 encTip (.slice a0_30 x0.whole.ends.length c0_31) x0.whole.ends,Res.rowS 66 8 encArc (.slice a0_32 x0.whole.arcs.length c0_33) x0.whole.arcs]):=by
 dsimp only [comp_chain_at]at hh
 have f0_3b:=f0_3.rv.big
 have f0_6b:=f0_6.rv.big
 have f0_9b:=f0_9.rv.big
 have f0_12b:=f0_12.rv.big
 have f0_15b:=f0_15.rv.big
 have f0_18b:=f0_18.rv.big
 have f0_21b:=f0_21.big
 have f0_24b:=f0_24.big
 refine Con.mk (n:=16) Tryz.func54 z z z (fun w0=> ?_)
 refine TC.a (TL.i z z (TL.en (TC.a (TL.i z z (TL.l z z (TL.w z (nilCheckLoc z z) (TL.w z (fieldLoc z fo75_1 z) (TL.w z (fieldLoc z fo25_0 z) (TL.w z (loadLoc z ag3 z (i:=0) z z) (TL.w z (mulW z z z) (TL.i z z (TL.w z (addW z z z) (TL.i z z (TL.en (TC.ret ?_)))))))))))))))
 obtain rfl:=so hh
 exact ro [Res.cells b0_0 #[.int .i64 x0.a.states,.slice a0_1 x0.a.starts.length c0_2,.slice a0_4 x0.a.ends.length c0_5,.slice a0_7 x0.a.arcs.length c0_8,.int .i64 x0.b.states,.slice a0_10 x0.b.starts.length c0_11,.slice a0_13 x0.b.ends.length c0_14,.slice a0_16 x0.b.arcs.length c0_17,.slice a0_19 x0.arcs.length c0_20,.slice a0_22 x0.ends.length c0_23,.map (some b0_25),.map (some b0_26),.map (some b0_27),.int .i64 x0.whole.states,.slice a0_28 x0.whole.starts.length c0_29,.slice a0_30 x0.whole.ends.length c0_31,.slice a0_32 x0.whole.arcs.length c0_33,.bool x0.over] Eb0,Res.mapB (fun x=>Value.agg (encArc x).toArray) unitV (some b0_25) x0.seen,Res.mapB (fun x=>Value.agg (encTip x).toArray) unitV (some b0_26) x0.tips.s,Res.mapB (fun x=>Value.agg (encTip x).toArray) unitV (some b0_27) x0.tips.e,Res.rowS 43 2 encTip (.slice a0_28 x0.whole.starts.length c0_29) x0.whole.starts,Res.rowS 43 2 encTip (.slice a0_30 x0.whole.ends.length c0_31) x0.whole.ends,Res.rowS 66 8 encArc (.slice a0_32 x0.whole.arcs.length c0_33) x0.whole.arcs] z (RVs.tmp z RVs.nil) ⟨z,z,z⟩
def comp_chain_ways_j1(v8:(List Tip)×Bool)(x0:Chain)(t118:Bool):Option ((List Tip)×Chain):=
 some (v8.1,(⟨x0.a,x0.b,x0.arcs,x0.ends,x0.seen,x0.tips,x0.whole,t118⟩:Chain))
def comp_chain_ways(x0:Chain)(x1:Int)(x2:List UInt8):Option ((List Tip)×Chain):=
 grd (x2.length≤281474976710656) (bnd (comp_ways x0.arcs x1 x2) (fun v8=>iteO (!v8.2) (comp_chain_ways_j1 v8 x0 true) (comp_chain_ways_j1 v8 x0 x0.over)))
theorem comp_chain_ways_con{x0:Chain}{x1:Int}{x2:List UInt8}(f0_3:RS σ 2 encTip (.slice a0_1 x0.a.starts.length c0_2) x0.a.starts)(f0_6:RS σ 2 encTip (.slice a0_4 x0.a.ends.length c0_5) x0.a.ends)(f0_9:RS σ 8 encArc (.slice a0_7 x0.a.arcs.length c0_8) x0.a.arcs)(f0_12:RS σ 2 encTip (.slice a0_10 x0.b.starts.length c0_11) x0.b.starts)(f0_15:RS σ 2 encTip (.slice a0_13 x0.b.ends.length c0_14) x0.b.ends)(f0_18:RS σ 8 encArc (.slice a0_16 x0.b.arcs.length c0_17) x0.b.arcs)(f0_21:RZ σ (pkSl 8 encArc encArc_len) (.slice a0_19 x0.arcs.length c0_20) x0.arcs)(f0_24:RZ σ (pkSl 2 encTip encTip_len) (.slice a0_22 x0.ends.length c0_23) x0.ends){r:(List Tip)×Chain}(hh:comp_chain_ways x0 x1 x2=some r):
  Con Tryz.prog 52 #[loc b0_0 0,.int .i64 x1,.string (bs x2)] σ [Res.cells b0_0 #[.int .i64 x0.a.states,.slice a0_1 x0.a.starts.length c0_2,.slice a0_4 x0.a.ends.length c0_5,.slice a0_7 x0.a.arcs.length c0_8,.int .i64 x0.b.states,.slice a0_10 x0.b.starts.length c0_11,.slice a0_13 x0.b.ends.length c0_14,.slice a0_16 x0.b.arcs.length c0_17,.slice a0_19 x0.arcs.length c0_20,.slice a0_22 x0.ends.length c0_23,.map (some b0_25),.map (some b0_26),.map (some b0_27),.int .i64 x0.whole.states,.slice a0_28 x0.whole.starts.length c0_29,.slice a0_30 x0.whole.ends.length c0_31,.slice a0_32 x0.whole.arcs.length c0_33,.bool x0.over] Eb0,Res.mapB (fun x=>Value.agg (encArc x).toArray) unitV (some b0_25) x0.seen,Res.mapB (fun x=>Value.agg (encTip x).toArray) unitV (some b0_26) x0.tips.s,Res.mapB (fun x=>Value.agg (encTip x).toArray) unitV (some b0_27) x0.tips.e,Res.rowS 43 2 encTip (.slice a0_28 x0.whole.starts.length c0_29) x0.whole.starts,Res.rowS 43 2 encTip (.slice a0_30 x0.whole.ends.length c0_31) x0.whole.ends,Res.rowS 66 8 encArc (.slice a0_32 x0.whole.arcs.length c0_33) x0.whole.arcs] (fun v σ' H'=> ∃a1 c1,v= .slice a1 r.1.length c1∧σ=σ'∧H'=[Res.rowS 43 2 encTip (.slice a1 r.1.length c1) r.1,Res.cells b0_0 #[.int .i64 x0.a.states,.slice a0_1 x0.a.starts.length c0_2,.slice a0_4 x0.a.ends.length c0_5,.slice a0_7 x0.a.arcs.length c0_8,.int .i64 x0.b.states,.slice a0_10 x0.b.starts.length c0_11,.slice a0_13 x0.b.ends.length c0_14,.slice a0_16 x0.b.arcs.length c0_17,.slice a0_19 x0.arcs.length c0_20,.slice a0_22 x0.ends.length c0_23,.map (some b0_25),.map (some b0_26),.map (some b0_27),.int .i64 x0.whole.states,.slice a0_28 x0.whole.starts.length c0_29,.slice a0_30 x0.whole.ends.length c0_31,.slice a0_32 x0.whole.arcs.length c0_33,.bool r.2.over] Eb0,Res.mapB (fun x=>Value.agg (encArc x).toArray) unitV (some b0_25) x0.seen,Res.mapB (fun x=>Value.agg (encTip x).toArray) unitV (some b0_26) x0.tips.s,Res.mapB (fun x=>Value.agg (encTip x).toArray) unitV (some b0_27) x0.tips.e,Res.rowS 43 2 encTip (.slice a0_28 x0.whole.starts.length c0_29) x0.whole.starts,Res.rowS 43 2 encTip (.slice a0_30 x0.whole.ends.length c0_31) x0.whole.ends,Res.rowS 66 8 encArc (.slice a0_32 x0.whole.arcs.length c0_33) x0.whole.arcs]):=by
 dsimp only [comp_chain_ways]at hh
 have f0_3b:=f0_3.rv.big
 have f0_6b:=f0_6.rv.big
 have f0_9b:=f0_9.rv.big
 have f0_12b:=f0_12.rv.big
 have f0_15b:=f0_15.rv.big
 have f0_18b:=f0_18.rv.big
 have f0_21b:=f0_21.big
 have f0_24b:=f0_24.big
 refine Con.mk (n:=25) Tryz.func52 z z z (fun w0=> ?_)
 have x2b:=grd_c hh
 replace hh:=grd_t hh
 refine TC.a (TL.s z z (TL.en (TC.a (TL.l z z (TL.w z (nilCheckLoc z z) (TL.w z (fieldLoc z fo75_2 z) (TL.w z (loadLoc z ag68 z (i:=0) z z) (TL.i z z (TL.w z (moveStr (.inl z) z) ?_)))))))))
 obtain ⟨v8,u8,hh⟩:=bnd_e hh
 refine TL.op z (OpOk.call (comp_ways_con f0_21 u8) z z pf34 z z z z ?_)
 rintro _ _ _ hle116 ⟨a116_1,c116_1,rfl,rfl,rfl⟩
 refine TL.w z (moveT (.inl z) z) (TL.w z (OpVal.extract z z z) (TL.w z (OpVal.extract z z z) (TL.s z z (TL.j z z (TL.en (TC.cutG (α:=(Bool)×(Unit)) [19,20,21,22,23] (fun g=>[]) (fun g=>[Res.rowS 43 2 encTip (.slice a116_1 v8.1.length c116_1) v8.1,Res.cells b0_0 #[.int .i64 x0.a.states,.slice a0_1 x0.a.starts.length c0_2,.slice a0_4 x0.a.ends.length c0_5,.slice a0_7 x0.a.arcs.length c0_8,.int .i64 x0.b.states,.slice a0_10 x0.b.starts.length c0_11,.slice a0_13 x0.b.ends.length c0_14,.slice a0_16 x0.b.arcs.length c0_17,.slice a0_19 x0.arcs.length c0_20,.slice a0_22 x0.ends.length c0_23,.map (some b0_25),.map (some b0_26),.map (some b0_27),.int .i64 x0.whole.states,.slice a0_28 x0.whole.starts.length c0_29,.slice a0_30 x0.whole.ends.length c0_31,.slice a0_32 x0.whole.arcs.length c0_33,.bool g.1] Eb0,Res.mapB (fun x=>Value.agg (encArc x).toArray) unitV (some b0_25) x0.seen,Res.mapB (fun x=>Value.agg (encTip x).toArray) unitV (some b0_26) x0.tips.s,Res.mapB (fun x=>Value.agg (encTip x).toArray) unitV (some b0_27) x0.tips.e,Res.rowS 43 2 encTip (.slice a0_28 x0.whole.starts.length c0_29) x0.whole.starts,Res.rowS 43 2 encTip (.slice a0_30 x0.whole.ends.length c0_31) x0.whole.ends,Res.rowS 66 8 encArc (.slice a0_32 x0.whole.arcs.length c0_33) x0.whole.arcs]) (fun g=>σ) (fun g=>comp_chain_ways_j1 v8 x0 g.1=some r) ?_ (fun g j hg=> ?_)))))))
 ·skip
  refine TC.a (TL.j z z (TL.w z (OpVal.not z z) (TL.en (TC.cB z hh (fun h119 hh=> ?_) (fun h119 hh=> ?_)))))
  ·refine TC.region (TL.l z z (TL.w z (nilCheckLoc z z) (TL.w z (fieldLoc z fo75_7 z) (TL.front 1 z z (TL.op z (storeB z sz4 z z z z z ?_))))))
   exact TL.en (cf (true,()) hh (Sub.f [7,7,7,7,7,7,6,7] 8))
  exact TC.skip (S.n (cf (x0.over,()) hh (Sub.f [7,7,7,7,7,7,7,7] 8)))
 skip
 obtain ⟨t118,_⟩:=g
 have hh:=hg;clear hg
 try dsimp only
 dsimp only [comp_chain_ways_j1]at hh
 refine TC.isSl (i:=0) z (fun _ hb120 _=> ?_)
 refine TC.isSl (i:=5) z (fun _ hb121 _=> ?_)
 refine TC.isSl (i:=6) z (fun _ hb122 _=> ?_)
 refine TC.isSl (i:=7) z (fun _ hb123 _=> ?_)
 refine TC.a (TL.s z z (TL.s z z (TL.en (TC.ret ?_))))
 obtain rfl:=so hh
 exact ro [Res.rowS 43 2 encTip (.slice a116_1 v8.1.length c116_1) v8.1,Res.cells b0_0 #[.int .i64 x0.a.states,.slice a0_1 x0.a.starts.length c0_2,.slice a0_4 x0.a.ends.length c0_5,.slice a0_7 x0.a.arcs.length c0_8,.int .i64 x0.b.states,.slice a0_10 x0.b.starts.length c0_11,.slice a0_13 x0.b.ends.length c0_14,.slice a0_16 x0.b.arcs.length c0_17,.slice a0_19 x0.arcs.length c0_20,.slice a0_22 x0.ends.length c0_23,.map (some b0_25),.map (some b0_26),.map (some b0_27),.int .i64 x0.whole.states,.slice a0_28 x0.whole.starts.length c0_29,.slice a0_30 x0.whole.ends.length c0_31,.slice a0_32 x0.whole.arcs.length c0_33,.bool t118] Eb0,Res.mapB (fun x=>Value.agg (encArc x).toArray) unitV (some b0_25) x0.seen,Res.mapB (fun x=>Value.agg (encTip x).toArray) unitV (some b0_26) x0.tips.s,Res.mapB (fun x=>Value.agg (encTip x).toArray) unitV (some b0_27) x0.tips.e,Res.rowS 43 2 encTip (.slice a0_28 x0.whole.starts.length c0_29) x0.whole.starts,Res.rowS 43 2 encTip (.slice a0_30 x0.whole.ends.length c0_31) x0.whole.ends,Res.rowS 66 8 encArc (.slice a0_32 x0.whole.arcs.length c0_33) x0.whole.arcs] z (RVs.tmp z RVs.nil) ⟨a116_1,c116_1,z,z,z⟩
def comp_chain_tipS(x0:Chain)(x1:Int)(x3:Tip):Option (Chain):=
 grd (x1=0) (iteO (x0.tips.s.has x3) (some x0) (iteO x0.over (some x0) (iteO (decide (1024≤((x0.whole.starts.length:Nat):Int))) (some (⟨x0.a,x0.b,x0.arcs,x0.ends,x0.seen,x0.tips,x0.whole,true⟩:Chain)) (iteO (decide (1024<((x3.out.length:Nat):Int))) (some (⟨x0.a,x0.b,x0.arcs,x0.ends,x0.seen,x0.tips,x0.whole,true⟩:Chain)) (grd ((x0.whole.starts.length+[x3].length) * 24≤140737488355328) (some (⟨x0.a,x0.b,x0.arcs,x0.ends,x0.seen,(⟨(x0.tips.s.put x3 ()),x0.tips.e⟩:TwoM),(⟨x0.whole.states,(x0.whole.starts++[x3]),x0.whole.ends,x0.whole.arcs⟩:Fst),x0.over⟩:Chain)))))))
theorem comp_chain_tipS_con{x0:Chain}{x1:Int}{x3:Tip}(f0_3:RS σ 2 encTip (.slice a0_1 x0.a.starts.length c0_2) x0.a.starts)(f0_6:RS σ 2 encTip (.slice a0_4 x0.a.ends.length c0_5) x0.a.ends)(f0_9:RS σ 8 encArc (.slice a0_7 x0.a.arcs.length c0_8) x0.a.arcs)(f0_12:RS σ 2 encTip (.slice a0_10 x0.b.starts.length c0_11) x0.b.starts)(f0_15:RS σ 2 encTip (.slice a0_13 x0.b.ends.length c0_14) x0.b.ends)(f0_18:RS σ 8 encArc (.slice a0_16 x0.b.arcs.length c0_17) x0.b.arcs)(f0_21:RZ σ (pkSl 8 encArc encArc_len) (.slice a0_19 x0.arcs.length c0_20) x0.arcs)(f0_24:RZ σ (pkSl 2 encTip encTip_len) (.slice a0_22 x0.ends.length c0_23) x0.ends){r:Chain}(hh:comp_chain_tipS x0 x1 x3=some r):
  Con Tryz.prog 53 #[loc b0_0 0,.int .i64 x1,loc b0_0 14,.agg #[.int .i64 x3.state,.string (bs x3.out)]] σ [Res.cells b0_0 #[.int .i64 x0.a.states,.slice a0_1 x0.a.starts.length c0_2,.slice a0_4 x0.a.ends.length c0_5,.slice a0_7 x0.a.arcs.length c0_8,.int .i64 x0.b.states,.slice a0_10 x0.b.starts.length c0_11,.slice a0_13 x0.b.ends.length c0_14,.slice a0_16 x0.b.arcs.length c0_17,.slice a0_19 x0.arcs.length c0_20,.slice a0_22 x0.ends.length c0_23,.map (some b0_25),.map (some b0_26),.map (some b0_27),.int .i64 x0.whole.states,.slice a0_28 x0.whole.starts.length c0_29,.slice a0_30 x0.whole.ends.length c0_31,.slice a0_32 x0.whole.arcs.length c0_33,.bool x0.over] Eb0,Res.mapB (fun x=>Value.agg (encArc x).toArray) unitV (some b0_25) x0.seen,Res.mapB (fun x=>Value.agg (encTip x).toArray) unitV (some b0_26) x0.tips.s,Res.mapB (fun x=>Value.agg (encTip x).toArray) unitV (some b0_27) x0.tips.e,Res.rowS 43 2 encTip (.slice a0_28 x0.whole.starts.length c0_29) x0.whole.starts,Res.rowS 43 2 encTip (.slice a0_30 x0.whole.ends.length c0_31) x0.whole.ends,Res.rowS 66 8 encArc (.slice a0_32 x0.whole.arcs.length c0_33) x0.whole.arcs] (fun v σ' H'=> ∃bo1 ao2 co3,v= .tuple #[]∧σ=σ'∧H'=[Res.cells b0_0 #[.int .i64 x0.a.states,.slice a0_1 x0.a.starts.length c0_2,.slice a0_4 x0.a.ends.length c0_5,.slice a0_7 x0.a.arcs.length c0_8,.int .i64 x0.b.states,.slice a0_10 x0.b.starts.length c0_11,.slice a0_13 x0.b.ends.length c0_14,.slice a0_16 x0.b.arcs.length c0_17,.slice a0_19 x0.arcs.length c0_20,.slice a0_22 x0.ends.length c0_23,.map (some b0_25),.map (some bo1),.map (some b0_27),.int .i64 x0.whole.states,.slice ao2 r.whole.starts.length co3,.slice a0_30 x0.whole.ends.length c0_31,.slice a0_32 x0.whole.arcs.length c0_33,.bool r.over] Eb0,Res.mapB (fun x=>Value.agg (encArc x).toArray) unitV (some b0_25) x0.seen,Res.mapB (fun x=>Value.agg (encTip x).toArray) unitV (some bo1) r.tips.s,Res.mapB (fun x=>Value.agg (encTip x).toArray) unitV (some b0_27) x0.tips.e,Res.rowS 43 2 encTip (.slice ao2 r.whole.starts.length co3) r.whole.starts,Res.rowS 43 2 encTip (.slice a0_30 x0.whole.ends.length c0_31) x0.whole.ends,Res.rowS 66 8 encArc (.slice a0_32 x0.whole.arcs.length c0_33) x0.whole.arcs]):=by
 dsimp only [comp_chain_tipS]at hh
 have f0_3b:=f0_3.rv.big
 have f0_6b:=f0_6.rv.big
 have f0_9b:=f0_9.rv.big
 have f0_12b:=f0_12.rv.big
 have f0_15b:=f0_15.rv.big
 have f0_18b:=f0_18.rv.big
 have f0_21b:=f0_21.big
 have f0_24b:=f0_24.big
 refine Con.mk (n:=58) Tryz.func53 z z z (fun w0=> ?_)
 refine TC.weakR ?_
 have x1k:=grd_c hh
 replace hh:=grd_t hh
 subst x1k
 refine TC.a (TL.op z (boxA z z z z (fun b118=> ?_)))
 refine TL.en (TC.seq (TC.seq (TC.draw [10,12,13] (by kernel_rfl) (TA.a 0 z (moveLoc (.inl z) z) z (TA.a 1 z (moveI (.inl z) z) z (TA.a 2 z (nilCheckLoc z z) z (TA.a 3 z (fieldLoc z fo75_5 z) z (TA.b 4 z (OpVal.of (indexArrN (i:=0) z underlying73 sz72 z z (by decide)) (v':=loc b0_0 11) z) z (TA.b 5 z (loadLoc z ag72 z (i:=1) z z) z (TA.b 6 z (loadAll z ag43 sz43 z (i:=0) z z) z (TA.b 7 z (OpVal.of (lookB () (q:=x3) z underlying72 ze82 z (i:=3) z z kl43) (v':= .tuple #[.agg #[],.bool (x0.tips.s.has x3)]) z) z (TA.a 8 z (moveT (.inl z) z) z (TA.a 9 z (OpVal.extract z z z) z (TA.a 10 z (OpVal.extract z z z) z (TA.ac 11 z (OpOk.alloc z ze82 z z (fun b122=>(k1 ?_))))))))))))))))))
 refine TA.last 12 (by kernel_rfl) z z z (storeAll z sz82 z z z z z z ?_)
 refine TZ.v 13 (by kernel_rfl) z z z (moveB (.inr z) z) z z (TZ.done (by kernel_rfl) (S.n (TC.a (TL.j z z (TL.j z z (TL.split 22 z (fun h124=> ?_) (fun h124=> ?_)))))))
 ·replace hh:=iteO_t h124 hh
  refine TL.f z (TL.f z (TL.f z (TL.f z (TL.w z (pickTB z z z) (TL.en (TC.t z (TC.ofSub (Sub.f [8,8,8,8,8,8,8] 7) (TC.ret (S.r ?_)))))))))
  obtain rfl:=so hh
  refine ⟨_,Sub.f [6,6,6,6,6,6,6] 7,?_⟩
  exact ro [Res.cells b0_0 #[.int .i64 x0.a.states,.slice a0_1 x0.a.starts.length c0_2,.slice a0_4 x0.a.ends.length c0_5,.slice a0_7 x0.a.arcs.length c0_8,.int .i64 x0.b.states,.slice a0_10 x0.b.starts.length c0_11,.slice a0_13 x0.b.ends.length c0_14,.slice a0_16 x0.b.arcs.length c0_17,.slice a0_19 x0.arcs.length c0_20,.slice a0_22 x0.ends.length c0_23,.map (some b0_25),.map (some b0_26),.map (some b0_27),.int .i64 x0.whole.states,.slice a0_28 x0.whole.starts.length c0_29,.slice a0_30 x0.whole.ends.length c0_31,.slice a0_32 x0.whole.arcs.length c0_33,.bool x0.over] Eb0,Res.mapB (fun x=>Value.agg (encArc x).toArray) unitV (some b0_25) x0.seen,Res.mapB (fun x=>Value.agg (encTip x).toArray) unitV (some b0_26) x0.tips.s,Res.mapB (fun x=>Value.agg (encTip x).toArray) unitV (some b0_27) x0.tips.e,Res.rowS 43 2 encTip (.slice a0_28 x0.whole.starts.length c0_29) x0.whole.starts,Res.rowS 43 2 encTip (.slice a0_30 x0.whole.ends.length c0_31) x0.whole.ends,Res.rowS 66 8 encArc (.slice a0_32 x0.whole.arcs.length c0_33) x0.whole.arcs] z RVs.nil ⟨b0_26,a0_28,c0_29,z,z,z⟩
 replace hh:=iteO_f h124 hh
 refine TL.g z (moveLoc (.inl z) z) (TL.g z (nilCheckLoc z z) (TL.g z (fieldLoc z fo75_7 z) (TL.g z (loadLoc z ag4 z (i:=2) z z) (TL.w z (pickFB z z z) (TL.en (TC.cB z hh (fun h125 hh=> ?_) (fun h125 hh=> ?_)))))))
 ·refine TC.ofSub (Sub.f [8,8,8,8,8,8,8] 7) (TC.ret (S.r ?_))
  obtain rfl:=so hh
  refine ⟨_,Sub.f [6,6,6,6,6,6,6] 7,?_⟩
  exact ro [Res.cells b0_0 #[.int .i64 x0.a.states,.slice a0_1 x0.a.starts.length c0_2,.slice a0_4 x0.a.ends.length c0_5,.slice a0_7 x0.a.arcs.length c0_8,.int .i64 x0.b.states,.slice a0_10 x0.b.starts.length c0_11,.slice a0_13 x0.b.ends.length c0_14,.slice a0_16 x0.b.arcs.length c0_17,.slice a0_19 x0.arcs.length c0_20,.slice a0_22 x0.ends.length c0_23,.map (some b0_25),.map (some b0_26),.map (some b0_27),.int .i64 x0.whole.states,.slice a0_28 x0.whole.starts.length c0_29,.slice a0_30 x0.whole.ends.length c0_31,.slice a0_32 x0.whole.arcs.length c0_33,.bool x0.over] Eb0,Res.mapB (fun x=>Value.agg (encArc x).toArray) unitV (some b0_25) x0.seen,Res.mapB (fun x=>Value.agg (encTip x).toArray) unitV (some b0_26) x0.tips.s,Res.mapB (fun x=>Value.agg (encTip x).toArray) unitV (some b0_27) x0.tips.e,Res.rowS 43 2 encTip (.slice a0_28 x0.whole.starts.length c0_29) x0.whole.starts,Res.rowS 43 2 encTip (.slice a0_30 x0.whole.ends.length c0_31) x0.whole.ends,Res.rowS 66 8 encArc (.slice a0_32 x0.whole.arcs.length c0_33) x0.whole.arcs] z RVs.nil ⟨b0_26,a0_28,c0_29,z,z,z⟩
 refine TC.skip (S.n (TC.seq (TC.a (TL.l z z (TL.w z (nilCheckLoc z z) (TL.w z (loadLoc z ag22 z (i:=2) z z) (TL.w z (lenC z underlying22 z) (TL.w z (OpVal.geq z z z) (TL.j z z (TL.split 33 z (fun h126=> ?_) (fun h126=> ?_)))))))))))
 ·replace hh:=iteO_t h126 hh
  replace h126:=of_decide_eq_true h126
  refine TL.f z (TL.f z (TL.f z (TL.f z (TL.w z (pickTB z z z) (TL.en (TC.t z (TC.a (TL.l z z (TL.w z (nilCheckLoc z z) (TL.w z (fieldLoc z fo75_7 z) (TL.front 2 z z (TL.op z (storeB z sz4 z z z z z ?_)))))))))))))
  refine TL.en (TC.ofSub (Sub.f [8,8,8,8,8,8,6] 7) (TC.ret (S.r ?_)))
  obtain rfl:=so hh
  refine ⟨_,Sub.f [6,6,6,6,6,6,6] 7,?_⟩
  exact ro [Res.cells b0_0 #[.int .i64 x0.a.states,.slice a0_1 x0.a.starts.length c0_2,.slice a0_4 x0.a.ends.length c0_5,.slice a0_7 x0.a.arcs.length c0_8,.int .i64 x0.b.states,.slice a0_10 x0.b.starts.length c0_11,.slice a0_13 x0.b.ends.length c0_14,.slice a0_16 x0.b.arcs.length c0_17,.slice a0_19 x0.arcs.length c0_20,.slice a0_22 x0.ends.length c0_23,.map (some b0_25),.map (some b0_26),.map (some b0_27),.int .i64 x0.whole.states,.slice a0_28 x0.whole.starts.length c0_29,.slice a0_30 x0.whole.ends.length c0_31,.slice a0_32 x0.whole.arcs.length c0_33,.bool true] Eb0,Res.mapB (fun x=>Value.agg (encArc x).toArray) unitV (some b0_25) x0.seen,Res.mapB (fun x=>Value.agg (encTip x).toArray) unitV (some b0_26) x0.tips.s,Res.mapB (fun x=>Value.agg (encTip x).toArray) unitV (some b0_27) x0.tips.e,Res.rowS 43 2 encTip (.slice a0_28 x0.whole.starts.length c0_29) x0.whole.starts,Res.rowS 43 2 encTip (.slice a0_30 x0.whole.ends.length c0_31) x0.whole.ends,Res.rowS 66 8 encArc (.slice a0_32 x0.whole.arcs.length c0_33) x0.whole.arcs] z RVs.nil ⟨b0_26,a0_28,c0_29,z,z,z⟩
 replace hh:=iteO_f h126 hh
 replace h126:=of_decide_eq_false h126
 refine TL.g z (fieldLoc z fo43_1 z) (TL.g z (loadLoc z ag9 z (i:=1) z z) (TL.g z (lenBs z underlying9 z) (TL.g z (OpVal.gtr z z z) (TL.w z (pickFB z z z) (TL.en (TC.cD z hh (fun h127 hh=> ?_) (fun h127 hh=> ?_)))))))
 ·refine TC.a (TL.l z z (TL.w z (nilCheckLoc z z) (TL.w z (fieldLoc z fo75_7 z) (TL.front 2 z z (TL.op z (storeB z sz4 z z z z z ?_))))))
  refine TL.en (TC.ofSub (Sub.f [8,8,8,8,8,8,6] 7) (TC.ret (S.r ?_)))
  obtain rfl:=so hh
  refine ⟨_,Sub.f [6,6,6,6,6,6,6] 7,?_⟩
  exact ro [Res.cells b0_0 #[.int .i64 x0.a.states,.slice a0_1 x0.a.starts.length c0_2,.slice a0_4 x0.a.ends.length c0_5,.slice a0_7 x0.a.arcs.length c0_8,.int .i64 x0.b.states,.slice a0_10 x0.b.starts.length c0_11,.slice a0_13 x0.b.ends.length c0_14,.slice a0_16 x0.b.arcs.length c0_17,.slice a0_19 x0.arcs.length c0_20,.slice a0_22 x0.ends.length c0_23,.map (some b0_25),.map (some b0_26),.map (some b0_27),.int .i64 x0.whole.states,.slice a0_28 x0.whole.starts.length c0_29,.slice a0_30 x0.whole.ends.length c0_31,.slice a0_32 x0.whole.arcs.length c0_33,.bool true] Eb0,Res.mapB (fun x=>Value.agg (encArc x).toArray) unitV (some b0_25) x0.seen,Res.mapB (fun x=>Value.agg (encTip x).toArray) unitV (some b0_26) x0.tips.s,Res.mapB (fun x=>Value.agg (encTip x).toArray) unitV (some b0_27) x0.tips.e,Res.rowS 43 2 encTip (.slice a0_28 x0.whole.starts.length c0_29) x0.whole.starts,Res.rowS 43 2 encTip (.slice a0_30 x0.whole.ends.length c0_31) x0.whole.ends,Res.rowS 66 8 encArc (.slice a0_32 x0.whole.arcs.length c0_33) x0.whole.arcs] z RVs.nil ⟨b0_26,a0_28,c0_29,z,z,z⟩
 refine TC.skip (S.n (TC.seq (TC.draw [8] (by kernel_rfl) (TA.a 0 z (moveLoc (.inl z) z) z (TA.a 1 z (moveI (.inl z) z) z (TA.a 2 z (nilCheckLoc z z) z (TA.a 3 z (fieldLoc z fo75_5 z) z (TA.b 4 z (OpVal.of (indexArrN (i:=0) z underlying73 sz72 z z (by decide)) (v':=loc b0_0 11) z) z (TA.b 5 z (loadLoc z ag72 z (i:=2) z z) z (TA.b 6 z (loadAll z ag43 sz43 z (i:=1) z z) z (TA.a 7 z (buildL z pl82 ze82 z) z (TA.front 4 z z (TA.last 8 (by kernel_rfl) z z z (updB x3 () z underlying72 z z z z kl43 ?_))))))))))))))
 refine TZ.done (by kernel_rfl) (S.n ?_)
 have u53:=grd_c hh
 replace hh:=grd_t hh
 refine TC.draw [6,7,8] (by kernel_rfl) (TA.a 0 z (moveLoc (.inl z) z) z (TA.a 1 z (moveLoc (.inl z) z) z (TA.a 2 z (nilCheckLoc z z) z (TA.b 3 z (loadLoc z ag22 z (i:=3) z z) z (TA.b 4 z (loadAll z ag43 sz43 z (i:=2) z z) z (TA.ac 5 z (OpOk.lit (enc:=encTip) [x3] z underlying22 sz43 ze43 z z z encTip_len (by decide) (by decide) Tip.zero z (by decide) z (by decide) encTip_one (fun a133 c134=>(k1 ?_)))))))))
 refine TA.front 7 z z (TA.last 6 (by kernel_rfl) z z z (appendS z z underlying22 sz43 by43 ze43 z z (by decide) z z z (.inr ⟨_,0,z⟩) (by simpa using u53) (by decide) (fun a136 c137=> ?_)))
 refine TZ.v 7 (by kernel_rfl) z z z (nilCheckLoc z z) z z (TZ.front 5 z z (TZ.last 8 (by kernel_rfl) z z z (storeSl z sz22 z z z z z ?_)))
 refine TZ.done (by kernel_rfl) ?_
 obtain rfl:=so hh
 refine ⟨_,Sub.f [9,9,3,9,6,9,6] 7,?_⟩
 exact RetOk.mk' (rs:=[]) [Res.cells b0_0 #[.int .i64 x0.a.states,.slice a0_1 x0.a.starts.length c0_2,.slice a0_4 x0.a.ends.length c0_5,.slice a0_7 x0.a.arcs.length c0_8,.int .i64 x0.b.states,.slice a0_10 x0.b.starts.length c0_11,.slice a0_13 x0.b.ends.length c0_14,.slice a0_16 x0.b.arcs.length c0_17,.slice a0_19 x0.arcs.length c0_20,.slice a0_22 x0.ends.length c0_23,.map (some b0_25),.map (some b0_26),.map (some b0_27),.int .i64 x0.whole.states,.slice a136 ((x0.whole.starts++[x3]).length) c137,.slice a0_30 x0.whole.ends.length c0_31,.slice a0_32 x0.whole.arcs.length c0_33,.bool x0.over] Eb0,Res.mapB (fun x=>Value.agg (encArc x).toArray) unitV (some b0_25) x0.seen,Res.mapB (fun x=>Value.agg (encTip x).toArray) unitV (some b0_26) (x0.tips.s.put x3 ()),Res.mapB (fun x=>Value.agg (encTip x).toArray) unitV (some b0_27) x0.tips.e,Res.rowS 43 2 encTip (.slice a136 (x0.whole.starts++[x3]).length c137) (x0.whole.starts++[x3]),Res.rowS 43 2 encTip (.slice a0_30 x0.whole.ends.length c0_31) x0.whole.ends,Res.rowS 66 8 encArc (.slice a0_32 x0.whole.arcs.length c0_33) x0.whole.arcs] z (.inr z) RVs.nil (List.sublist_append_left _ _) ⟨b0_26,a136,c137,z,z,z⟩
def comp_chain_tipE(x0:Chain)(x1:Int)(x3:Tip):Option (Chain):=
 grd (x1=1) (iteO (x0.tips.e.has x3) (some x0) (iteO x0.over (some x0) (iteO (decide (1024≤((x0.whole.ends.length:Nat):Int))) (some (⟨x0.a,x0.b,x0.arcs,x0.ends,x0.seen,x0.tips,x0.whole,true⟩:Chain)) (iteO (decide (1024<((x3.out.length:Nat):Int))) (some (⟨x0.a,x0.b,x0.arcs,x0.ends,x0.seen,x0.tips,x0.whole,true⟩:Chain)) (grd ((x0.whole.ends.length+[x3].length) * 24≤140737488355328) (some (⟨x0.a,x0.b,x0.arcs,x0.ends,x0.seen,(⟨x0.tips.s,(x0.tips.e.put x3 ())⟩:TwoM),(⟨x0.whole.states,x0.whole.starts,(x0.whole.ends++[x3]),x0.whole.arcs⟩:Fst),x0.over⟩:Chain)))))))
theorem comp_chain_tipE_con{x0:Chain}{x1:Int}{x3:Tip}(f0_3:RS σ 2 encTip (.slice a0_1 x0.a.starts.length c0_2) x0.a.starts)(f0_6:RS σ 2 encTip (.slice a0_4 x0.a.ends.length c0_5) x0.a.ends)(f0_9:RS σ 8 encArc (.slice a0_7 x0.a.arcs.length c0_8) x0.a.arcs)(f0_12:RS σ 2 encTip (.slice a0_10 x0.b.starts.length c0_11) x0.b.starts)(f0_15:RS σ 2 encTip (.slice a0_13 x0.b.ends.length c0_14) x0.b.ends)(f0_18:RS σ 8 encArc (.slice a0_16 x0.b.arcs.length c0_17) x0.b.arcs)(f0_21:RZ σ (pkSl 8 encArc encArc_len) (.slice a0_19 x0.arcs.length c0_20) x0.arcs)(f0_24:RZ σ (pkSl 2 encTip encTip_len) (.slice a0_22 x0.ends.length c0_23) x0.ends){r:Chain}(hh:comp_chain_tipE x0 x1 x3=some r):
  Con Tryz.prog 53 #[loc b0_0 0,.int .i64 x1,loc b0_0 15,.agg #[.int .i64 x3.state,.string (bs x3.out)]] σ [Res.cells b0_0 #[.int .i64 x0.a.states,.slice a0_1 x0.a.starts.length c0_2,.slice a0_4 x0.a.ends.length c0_5,.slice a0_7 x0.a.arcs.length c0_8,.int .i64 x0.b.states,.slice a0_10 x0.b.starts.length c0_11,.slice a0_13 x0.b.ends.length c0_14,.slice a0_16 x0.b.arcs.length c0_17,.slice a0_19 x0.arcs.length c0_20,.slice a0_22 x0.ends.length c0_23,.map (some b0_25),.map (some b0_26),.map (some b0_27),.int .i64 x0.whole.states,.slice a0_28 x0.whole.starts.length c0_29,.slice a0_30 x0.whole.ends.length c0_31,.slice a0_32 x0.whole.arcs.length c0_33,.bool x0.over] Eb0,Res.mapB (fun x=>Value.agg (encArc x).toArray) unitV (some b0_25) x0.seen,Res.mapB (fun x=>Value.agg (encTip x).toArray) unitV (some b0_26) x0.tips.s,Res.mapB (fun x=>Value.agg (encTip x).toArray) unitV (some b0_27) x0.tips.e,Res.rowS 43 2 encTip (.slice a0_28 x0.whole.starts.length c0_29) x0.whole.starts,Res.rowS 43 2 encTip (.slice a0_30 x0.whole.ends.length c0_31) x0.whole.ends,Res.rowS 66 8 encArc (.slice a0_32 x0.whole.arcs.length c0_33) x0.whole.arcs] (fun v σ' H'=> ∃bo1 ao2 co3,v= .tuple #[]∧σ=σ'∧H'=[Res.cells b0_0 #[.int .i64 x0.a.states,.slice a0_1 x0.a.starts.length c0_2,.slice a0_4 x0.a.ends.length c0_5,.slice a0_7 x0.a.arcs.length c0_8,.int .i64 x0.b.states,.slice a0_10 x0.b.starts.length c0_11,.slice a0_13 x0.b.ends.length c0_14,.slice a0_16 x0.b.arcs.length c0_17,.slice a0_19 x0.arcs.length c0_20,.slice a0_22 x0.ends.length c0_23,.map (some b0_25),.map (some b0_26),.map (some bo1),.int .i64 x0.whole.states,.slice a0_28 x0.whole.starts.length c0_29,.slice ao2 r.whole.ends.length co3,.slice a0_32 x0.whole.arcs.length c0_33,.bool r.over] Eb0,Res.mapB (fun x=>Value.agg (encArc x).toArray) unitV (some b0_25) x0.seen,Res.mapB (fun x=>Value.agg (encTip x).toArray) unitV (some b0_26) x0.tips.s,Res.mapB (fun x=>Value.agg (encTip x).toArray) unitV (some bo1) r.tips.e,Res.rowS 43 2 encTip (.slice a0_28 x0.whole.starts.length c0_29) x0.whole.starts,Res.rowS 43 2 encTip (.slice ao2 r.whole.ends.length co3) r.whole.ends,Res.rowS 66 8 encArc (.slice a0_32 x0.whole.arcs.length c0_33) x0.whole.arcs]):=by
 dsimp only [comp_chain_tipE]at hh
 have f0_3b:=f0_3.rv.big
 have f0_6b:=f0_6.rv.big
 have f0_9b:=f0_9.rv.big
 have f0_12b:=f0_12.rv.big
 have f0_15b:=f0_15.rv.big
 have f0_18b:=f0_18.rv.big
 have f0_21b:=f0_21.big
 have f0_24b:=f0_24.big
 refine Con.mk (n:=58) Tryz.func53 z z z (fun w0=> ?_)
 refine TC.weakR ?_
 have x1k:=grd_c hh
 replace hh:=grd_t hh
 subst x1k
 refine TC.a (TL.op z (boxA z z z z (fun b118=> ?_)))
 refine TL.en (TC.seq (TC.seq (TC.draw [10,12,13] (by kernel_rfl) (TA.a 0 z (moveLoc (.inl z) z) z (TA.a 1 z (moveI (.inl z) z) z (TA.a 2 z (nilCheckLoc z z) z (TA.a 3 z (fieldLoc z fo75_5 z) z (TA.b 4 z (OpVal.of (indexArrN (i:=1) z underlying73 sz72 z z (by decide)) (v':=loc b0_0 12) z) z (TA.b 5 z (loadLoc z ag72 z (i:=1) z z) z (TA.b 6 z (loadAll z ag43 sz43 z (i:=0) z z) z (TA.b 7 z (OpVal.of (lookB () (q:=x3) z underlying72 ze82 z (i:=4) z z kl43) (v':= .tuple #[.agg #[],.bool (x0.tips.e.has x3)]) z) z (TA.a 8 z (moveT (.inl z) z) z (TA.a 9 z (OpVal.extract z z z) z (TA.a 10 z (OpVal.extract z z z) z (TA.ac 11 z (OpOk.alloc z ze82 z z (fun b122=>(k1 ?_))))))))))))))))))
 refine TA.last 12 (by kernel_rfl) z z z (storeAll z sz82 z z z z z z ?_)
 refine TZ.v 13 (by kernel_rfl) z z z (moveB (.inr z) z) z z (TZ.done (by kernel_rfl) (S.n (TC.a (TL.j z z (TL.j z z (TL.split 22 z (fun h124=> ?_) (fun h124=> ?_)))))))
 ·replace hh:=iteO_t h124 hh
  refine TL.f z (TL.f z (TL.f z (TL.f z (TL.w z (pickTB z z z) (TL.en (TC.t z (TC.ofSub (Sub.f [8,8,8,8,8,8,8] 7) (TC.ret (S.r ?_)))))))))
  obtain rfl:=so hh
  refine ⟨_,Sub.f [6,6,6,6,6,6,6] 7,?_⟩
  exact ro [Res.cells b0_0 #[.int .i64 x0.a.states,.slice a0_1 x0.a.starts.length c0_2,.slice a0_4 x0.a.ends.length c0_5,.slice a0_7 x0.a.arcs.length c0_8,.int .i64 x0.b.states,.slice a0_10 x0.b.starts.length c0_11,.slice a0_13 x0.b.ends.length c0_14,.slice a0_16 x0.b.arcs.length c0_17,.slice a0_19 x0.arcs.length c0_20,.slice a0_22 x0.ends.length c0_23,.map (some b0_25),.map (some b0_26),.map (some b0_27),.int .i64 x0.whole.states,.slice a0_28 x0.whole.starts.length c0_29,.slice a0_30 x0.whole.ends.length c0_31,.slice a0_32 x0.whole.arcs.length c0_33,.bool x0.over] Eb0,Res.mapB (fun x=>Value.agg (encArc x).toArray) unitV (some b0_25) x0.seen,Res.mapB (fun x=>Value.agg (encTip x).toArray) unitV (some b0_26) x0.tips.s,Res.mapB (fun x=>Value.agg (encTip x).toArray) unitV (some b0_27) x0.tips.e,Res.rowS 43 2 encTip (.slice a0_28 x0.whole.starts.length c0_29) x0.whole.starts,Res.rowS 43 2 encTip (.slice a0_30 x0.whole.ends.length c0_31) x0.whole.ends,Res.rowS 66 8 encArc (.slice a0_32 x0.whole.arcs.length c0_33) x0.whole.arcs] z RVs.nil ⟨b0_27,a0_30,c0_31,z,z,z⟩
 replace hh:=iteO_f h124 hh
 refine TL.g z (moveLoc (.inl z) z) (TL.g z (nilCheckLoc z z) (TL.g z (fieldLoc z fo75_7 z) (TL.g z (loadLoc z ag4 z (i:=2) z z) (TL.w z (pickFB z z z) (TL.en (TC.cB z hh (fun h125 hh=> ?_) (fun h125 hh=> ?_)))))))
 ·refine TC.ofSub (Sub.f [8,8,8,8,8,8,8] 7) (TC.ret (S.r ?_))
  obtain rfl:=so hh
  refine ⟨_,Sub.f [6,6,6,6,6,6,6] 7,?_⟩
  exact ro [Res.cells b0_0 #[.int .i64 x0.a.states,.slice a0_1 x0.a.starts.length c0_2,.slice a0_4 x0.a.ends.length c0_5,.slice a0_7 x0.a.arcs.length c0_8,.int .i64 x0.b.states,.slice a0_10 x0.b.starts.length c0_11,.slice a0_13 x0.b.ends.length c0_14,.slice a0_16 x0.b.arcs.length c0_17,.slice a0_19 x0.arcs.length c0_20,.slice a0_22 x0.ends.length c0_23,.map (some b0_25),.map (some b0_26),.map (some b0_27),.int .i64 x0.whole.states,.slice a0_28 x0.whole.starts.length c0_29,.slice a0_30 x0.whole.ends.length c0_31,.slice a0_32 x0.whole.arcs.length c0_33,.bool x0.over] Eb0,Res.mapB (fun x=>Value.agg (encArc x).toArray) unitV (some b0_25) x0.seen,Res.mapB (fun x=>Value.agg (encTip x).toArray) unitV (some b0_26) x0.tips.s,Res.mapB (fun x=>Value.agg (encTip x).toArray) unitV (some b0_27) x0.tips.e,Res.rowS 43 2 encTip (.slice a0_28 x0.whole.starts.length c0_29) x0.whole.starts,Res.rowS 43 2 encTip (.slice a0_30 x0.whole.ends.length c0_31) x0.whole.ends,Res.rowS 66 8 encArc (.slice a0_32 x0.whole.arcs.length c0_33) x0.whole.arcs] z RVs.nil ⟨b0_27,a0_30,c0_31,z,z,z⟩
 refine TC.skip (S.n (TC.seq (TC.a (TL.l z z (TL.w z (nilCheckLoc z z) (TL.w z (loadLoc z ag22 z (i:=2) z z) (TL.w z (lenC z underlying22 z) (TL.w z (OpVal.geq z z z) (TL.j z z (TL.split 33 z (fun h126=> ?_) (fun h126=> ?_)))))))))))
 ·replace hh:=iteO_t h126 hh
  replace h126:=of_decide_eq_true h126
  refine TL.f z (TL.f z (TL.f z (TL.f z (TL.w z (pickTB z z z) (TL.en (TC.t z (TC.a (TL.l z z (TL.w z (nilCheckLoc z z) (TL.w z (fieldLoc z fo75_7 z) (TL.front 2 z z (TL.op z (storeB z sz4 z z z z z ?_)))))))))))))
  refine TL.en (TC.ofSub (Sub.f [8,8,8,8,8,8,6] 7) (TC.ret (S.r ?_)))
  obtain rfl:=so hh
  refine ⟨_,Sub.f [6,6,6,6,6,6,6] 7,?_⟩
  exact ro [Res.cells b0_0 #[.int .i64 x0.a.states,.slice a0_1 x0.a.starts.length c0_2,.slice a0_4 x0.a.ends.length c0_5,.slice a0_7 x0.a.arcs.length c0_8,.int .i64 x0.b.states,.slice a0_10 x0.b.starts.length c0_11,.slice a0_13 x0.b.ends.length c0_14,.slice a0_16 x0.b.arcs.length c0_17,.slice a0_19 x0.arcs.length c0_20,.slice a0_22 x0.ends.length c0_23,.map (some b0_25),.map (some b0_26),.map (some b0_27),.int .i64 x0.whole.states,.slice a0_28 x0.whole.starts.length c0_29,.slice a0_30 x0.whole.ends.length c0_31,.slice a0_32 x0.whole.arcs.length c0_33,.bool true] Eb0,Res.mapB (fun x=>Value.agg (encArc x).toArray) unitV (some b0_25) x0.seen,Res.mapB (fun x=>Value.agg (encTip x).toArray) unitV (some b0_26) x0.tips.s,Res.mapB (fun x=>Value.agg (encTip x).toArray) unitV (some b0_27) x0.tips.e,Res.rowS 43 2 encTip (.slice a0_28 x0.whole.starts.length c0_29) x0.whole.starts,Res.rowS 43 2 encTip (.slice a0_30 x0.whole.ends.length c0_31) x0.whole.ends,Res.rowS 66 8 encArc (.slice a0_32 x0.whole.arcs.length c0_33) x0.whole.arcs] z RVs.nil ⟨b0_27,a0_30,c0_31,z,z,z⟩
 replace hh:=iteO_f h126 hh
 replace h126:=of_decide_eq_false h126
 refine TL.g z (fieldLoc z fo43_1 z) (TL.g z (loadLoc z ag9 z (i:=1) z z) (TL.g z (lenBs z underlying9 z) (TL.g z (OpVal.gtr z z z) (TL.w z (pickFB z z z) (TL.en (TC.cD z hh (fun h127 hh=> ?_) (fun h127 hh=> ?_)))))))
 ·refine TC.a (TL.l z z (TL.w z (nilCheckLoc z z) (TL.w z (fieldLoc z fo75_7 z) (TL.front 2 z z (TL.op z (storeB z sz4 z z z z z ?_))))))
  refine TL.en (TC.ofSub (Sub.f [8,8,8,8,8,8,6] 7) (TC.ret (S.r ?_)))
  obtain rfl:=so hh
  refine ⟨_,Sub.f [6,6,6,6,6,6,6] 7,?_⟩
  exact ro [Res.cells b0_0 #[.int .i64 x0.a.states,.slice a0_1 x0.a.starts.length c0_2,.slice a0_4 x0.a.ends.length c0_5,.slice a0_7 x0.a.arcs.length c0_8,.int .i64 x0.b.states,.slice a0_10 x0.b.starts.length c0_11,.slice a0_13 x0.b.ends.length c0_14,.slice a0_16 x0.b.arcs.length c0_17,.slice a0_19 x0.arcs.length c0_20,.slice a0_22 x0.ends.length c0_23,.map (some b0_25),.map (some b0_26),.map (some b0_27),.int .i64 x0.whole.states,.slice a0_28 x0.whole.starts.length c0_29,.slice a0_30 x0.whole.ends.length c0_31,.slice a0_32 x0.whole.arcs.length c0_33,.bool true] Eb0,Res.mapB (fun x=>Value.agg (encArc x).toArray) unitV (some b0_25) x0.seen,Res.mapB (fun x=>Value.agg (encTip x).toArray) unitV (some b0_26) x0.tips.s,Res.mapB (fun x=>Value.agg (encTip x).toArray) unitV (some b0_27) x0.tips.e,Res.rowS 43 2 encTip (.slice a0_28 x0.whole.starts.length c0_29) x0.whole.starts,Res.rowS 43 2 encTip (.slice a0_30 x0.whole.ends.length c0_31) x0.whole.ends,Res.rowS 66 8 encArc (.slice a0_32 x0.whole.arcs.length c0_33) x0.whole.arcs] z RVs.nil ⟨b0_27,a0_30,c0_31,z,z,z⟩
 refine TC.skip (S.n (TC.seq (TC.draw [8] (by kernel_rfl) (TA.a 0 z (moveLoc (.inl z) z) z (TA.a 1 z (moveI (.inl z) z) z (TA.a 2 z (nilCheckLoc z z) z (TA.a 3 z (fieldLoc z fo75_5 z) z (TA.b 4 z (OpVal.of (indexArrN (i:=1) z underlying73 sz72 z z (by decide)) (v':=loc b0_0 12) z) z (TA.b 5 z (loadLoc z ag72 z (i:=2) z z) z (TA.b 6 z (loadAll z ag43 sz43 z (i:=1) z z) z (TA.a 7 z (buildL z pl82 ze82 z) z (TA.front 5 z z (TA.last 8 (by kernel_rfl) z z z (updB x3 () z underlying72 z z z z kl43 ?_))))))))))))))
 refine TZ.done (by kernel_rfl) (S.n ?_)
 have u53:=grd_c hh
 replace hh:=grd_t hh
 refine TC.draw [6,7,8] (by kernel_rfl) (TA.a 0 z (moveLoc (.inl z) z) z (TA.a 1 z (moveLoc (.inl z) z) z (TA.a 2 z (nilCheckLoc z z) z (TA.b 3 z (loadLoc z ag22 z (i:=3) z z) z (TA.b 4 z (loadAll z ag43 sz43 z (i:=2) z z) z (TA.ac 5 z (OpOk.lit (enc:=encTip) [x3] z underlying22 sz43 ze43 z z z encTip_len (by decide) (by decide) Tip.zero z (by decide) z (by decide) encTip_one (fun a133 c134=>(k1 ?_)))))))))
 refine TA.front 8 z z (TA.last 6 (by kernel_rfl) z z z (appendS z z underlying22 sz43 by43 ze43 z z (by decide) z z z (.inr ⟨_,0,z⟩) (by simpa using u53) (by decide) (fun a136 c137=> ?_)))
 refine TZ.v 7 (by kernel_rfl) z z z (nilCheckLoc z z) z z (TZ.front 5 z z (TZ.last 8 (by kernel_rfl) z z z (storeSl z sz22 z z z z z ?_)))
 refine TZ.done (by kernel_rfl) ?_
 obtain rfl:=so hh
 refine ⟨_,Sub.f [9,2,9,5,9,9,6] 7,?_⟩
 exact RetOk.mk' (rs:=[]) [Res.cells b0_0 #[.int .i64 x0.a.states,.slice a0_1 x0.a.starts.length c0_2,.slice a0_4 x0.a.ends.length c0_5,.slice a0_7 x0.a.arcs.length c0_8,.int .i64 x0.b.states,.slice a0_10 x0.b.starts.length c0_11,.slice a0_13 x0.b.ends.length c0_14,.slice a0_16 x0.b.arcs.length c0_17,.slice a0_19 x0.arcs.length c0_20,.slice a0_22 x0.ends.length c0_23,.map (some b0_25),.map (some b0_26),.map (some b0_27),.int .i64 x0.whole.states,.slice a0_28 x0.whole.starts.length c0_29,.slice a136 ((x0.whole.ends++[x3]).length) c137,.slice a0_32 x0.whole.arcs.length c0_33,.bool x0.over] Eb0,Res.mapB (fun x=>Value.agg (encArc x).toArray) unitV (some b0_25) x0.seen,Res.mapB (fun x=>Value.agg (encTip x).toArray) unitV (some b0_26) x0.tips.s,Res.mapB (fun x=>Value.agg (encTip x).toArray) unitV (some b0_27) (x0.tips.e.put x3 ()),Res.rowS 43 2 encTip (.slice a0_28 x0.whole.starts.length c0_29) x0.whole.starts,Res.rowS 43 2 encTip (.slice a136 (x0.whole.ends++[x3]).length c137) (x0.whole.ends++[x3]),Res.rowS 66 8 encArc (.slice a0_32 x0.whole.arcs.length c0_33) x0.whole.arcs] z (.inr z) RVs.nil (List.sublist_append_left _ _) ⟨b0_27,a136,c137,z,z,z⟩
def Cx_(x1:BSet)(z111:BSet)(k112:Nat):Option ((BSet×Nat)⊕(BSet)):=
 iteO (decide (((k112:Nat):Int)<4)) (grd (k112<4) (grd (k112<4) (grd (k112<4) (grd ((u64and (BSet.word z111 k112) (BSet.word x1 k112))<18446744073709551616) (nxt ((BSet.setWord z111 k112 (u64and (BSet.word z111 k112) (BSet.word x1 k112))),(k112+1))))))) (fin (some z111))
def Fi_(x0:BSet)(x1:BSet):Option (BSet):=
 iter (fun q:BSet×Nat=>Cx_ x1 q.1 q.2) (x0,0)
theorem Hm_{x0:BSet}{x1:BSet}{r:BSet}(hh:Fi_ x0 x1=some r):
  Con Tryz.prog 56 #[setV x0,setV x1] σ [] (PureP (setV r) σ):=by
 dsimp only [Fi_]at hh
 refine Con.mk (n:=19) Tryz.func56 z z z (fun w0=> ?_)
 refine TC.a (TL.op z (boxA z z z z (fun b101=> ?_)))
 refine TL.op z (boxA z z z z (fun b103=> ?_))
 refine TL.op z (OpOk.alloc z ze55 z z (fun b105=> ?_))
 refine TL.en (TC.seq (TC.a (TL.i z z (TL.en (TC.block (TC.loopG (α:=(BSet×Nat)×(Unit)) (rgs [(5,13)]) (fun g=>[(6,.int .i64 ((g.1.2:Nat):Int))]) (fun g=>[Res.cells b101 (setA g.1.1) 55,Res.cells b103 (setA x1) 55,Res.cells b105 (setA BSet.zero) 55]) (fun g=>σ) (fun g=>iter (fun q:BSet×Nat=>Cx_ x1 q.1 q.2) g.1=some r) (fun g=>rounds (fun q:BSet×Nat=>Cx_ x1 q.1 q.2) g.1) ((x0,0),()) (Sub.f [1,2] 3) z (by repeat (first|exact trivial|refine ⟨z,?_⟩)) hh (fun g1 j1 hg1=> ?_)))))))
 obtain ⟨⟨z111,k112⟩,_⟩:=g1
 have hh:=hg1;clear hg1
 try dsimp only
 obtain ⟨z1,hh,hR1⟩:=iter_e hh
 dsimp only [Cx_]at hh
 refine TC.a (TL.w z (OpVal.lss z z z) (TL.en (TC.seq (TC.cD z hh (fun h113 hh=> ?_) (fun h113 hh=> ?_)))))
 ·refine TC.skip (S.n (TC.seq (TC.block (TC.a (TL.i z z (TL.i z z (TL.en ?_)))))))
  have u9:=grd_c hh
  replace hh:=grd_t hh
  have u12:=grd_c hh
  replace hh:=grd_t hh
  have u15:=grd_c hh
  replace hh:=grd_t hh
  have u16:=grd_c hh
  replace hh:=grd_t hh
  refine TC.draw [8] (by kernel_rfl) (TA.a 0 z (moveI (.inl z) z) z (TA.b 1 z (indexArrN z underlying55 sz53 z z (by omega)) z (TA.b 2 z (loadWordAt z111 z ag53 z (j:=0) z (by omega) z) z (TA.a 3 z (moveI (.inl z) z) z (TA.b 4 z (indexArrN z underlying55 sz53 z z (by omega)) z (TA.b 5 z (loadWordAt x1 z ag53 z (j:=1) z (by omega) z) z (TA.a 6 z (andU z z z) z (TA.b 7 z (indexArrN z underlying55 sz53 z z (by omega)) z (TA.last 8 (by kernel_rfl) z z z (storeWord z sz53 z z z (by omega) u16 ?_))))))))))
  refine TZ.done (by kernel_rfl) (B.n (S.n (TC.region (TL.w z (OpVal.succ z z z (by omega)) (TL.i z z (TL.en ?_))))))
  obtain ⟨hh,hlt114⟩:=nxt_x hR1 hh
  exact lf (((BSet.setWord z111 k112 (u64and (BSet.word z111 k112) (BSet.word x1 k112))),(k112+1)),()) hlt114 hh (Sub.f [2,2,2] 3)
 refine TC.exit (S.x (S.x ?_))
 replace hh:=fin_x hR1 hh
 refine TC.exitHere (S.n (TC.a (TL.w z (loadAll z ag55 sz55 z (i:=0) z z) (TL.front 2 z z (TL.op z (storeAll z sz55 z z z z z z ?_))))))
 refine TL.en (TC.rt 1 ?_)
 obtain rfl:=so hh
 exact ro [] z (RVs.agg ag55 sz55 z (i:=0) z z RVs.nil) ⟨z,z,z⟩
def comp_chain_arc(x0:Chain)(x1:Arc):Option (Chain):=
 iteO (x0.seen.has x1) (some x0) (iteO x0.over (some x0) (iteO (decide (16384≤((x0.whole.arcs.length:Nat):Int))) (some (⟨x0.a,x0.b,x0.arcs,x0.ends,x0.seen,x0.tips,x0.whole,true⟩:Chain)) (iteO (decide (1024<((x1.out.length:Nat):Int))) (some (⟨x0.a,x0.b,x0.arcs,x0.ends,x0.seen,x0.tips,x0.whole,true⟩:Chain)) (grd ((x0.whole.arcs.length+[x1].length) * 72≤140737488355328) (some (⟨x0.a,x0.b,x0.arcs,x0.ends,(x0.seen.put x1 ()),x0.tips,(⟨x0.whole.states,x0.whole.starts,x0.whole.ends,(x0.whole.arcs++[x1])⟩:Fst),x0.over⟩:Chain))))))
theorem comp_chain_arc_con{x0:Chain}{x1:Arc}(f0_3:RS σ 2 encTip (.slice a0_1 x0.a.starts.length c0_2) x0.a.starts)(f0_6:RS σ 2 encTip (.slice a0_4 x0.a.ends.length c0_5) x0.a.ends)(f0_9:RS σ 8 encArc (.slice a0_7 x0.a.arcs.length c0_8) x0.a.arcs)(f0_12:RS σ 2 encTip (.slice a0_10 x0.b.starts.length c0_11) x0.b.starts)(f0_15:RS σ 2 encTip (.slice a0_13 x0.b.ends.length c0_14) x0.b.ends)(f0_18:RS σ 8 encArc (.slice a0_16 x0.b.arcs.length c0_17) x0.b.arcs)(f0_21:RZ σ (pkSl 8 encArc encArc_len) (.slice a0_19 x0.arcs.length c0_20) x0.arcs)(f0_24:RZ σ (pkSl 2 encTip encTip_len) (.slice a0_22 x0.ends.length c0_23) x0.ends){r:Chain}(hh:comp_chain_arc x0 x1=some r):
  Con Tryz.prog 55 #[loc b0_0 0,.agg #[.int .i64 x1.frm,.int .i64 x1.to,.int .u64 ((x1.set.a:Nat):Int),.int .u64 ((x1.set.b:Nat):Int),.int .u64 ((x1.set.c:Nat):Int),.int .u64 ((x1.set.d:Nat):Int),.string (bs x1.out),.bool x1.copy]] σ [Res.cells b0_0 #[.int .i64 x0.a.states,.slice a0_1 x0.a.starts.length c0_2,.slice a0_4 x0.a.ends.length c0_5,.slice a0_7 x0.a.arcs.length c0_8,.int .i64 x0.b.states,.slice a0_10 x0.b.starts.length c0_11,.slice a0_13 x0.b.ends.length c0_14,.slice a0_16 x0.b.arcs.length c0_17,.slice a0_19 x0.arcs.length c0_20,.slice a0_22 x0.ends.length c0_23,.map (some b0_25),.map (some b0_26),.map (some b0_27),.int .i64 x0.whole.states,.slice a0_28 x0.whole.starts.length c0_29,.slice a0_30 x0.whole.ends.length c0_31,.slice a0_32 x0.whole.arcs.length c0_33,.bool x0.over] Eb0,Res.mapB (fun x=>Value.agg (encArc x).toArray) unitV (some b0_25) x0.seen,Res.mapB (fun x=>Value.agg (encTip x).toArray) unitV (some b0_26) x0.tips.s,Res.mapB (fun x=>Value.agg (encTip x).toArray) unitV (some b0_27) x0.tips.e,Res.rowS 43 2 encTip (.slice a0_28 x0.whole.starts.length c0_29) x0.whole.starts,Res.rowS 43 2 encTip (.slice a0_30 x0.whole.ends.length c0_31) x0.whole.ends,Res.rowS 66 8 encArc (.slice a0_32 x0.whole.arcs.length c0_33) x0.whole.arcs] (fun v σ' H'=> ∃bo1 ao2 co3,v= .tuple #[]∧σ=σ'∧H'=[Res.cells b0_0 #[.int .i64 x0.a.states,.slice a0_1 x0.a.starts.length c0_2,.slice a0_4 x0.a.ends.length c0_5,.slice a0_7 x0.a.arcs.length c0_8,.int .i64 x0.b.states,.slice a0_10 x0.b.starts.length c0_11,.slice a0_13 x0.b.ends.length c0_14,.slice a0_16 x0.b.arcs.length c0_17,.slice a0_19 x0.arcs.length c0_20,.slice a0_22 x0.ends.length c0_23,.map (some bo1),.map (some b0_26),.map (some b0_27),.int .i64 x0.whole.states,.slice a0_28 x0.whole.starts.length c0_29,.slice a0_30 x0.whole.ends.length c0_31,.slice ao2 r.whole.arcs.length co3,.bool r.over] Eb0,Res.mapB (fun x=>Value.agg (encArc x).toArray) unitV (some bo1) r.seen,Res.mapB (fun x=>Value.agg (encTip x).toArray) unitV (some b0_26) x0.tips.s,Res.mapB (fun x=>Value.agg (encTip x).toArray) unitV (some b0_27) x0.tips.e,Res.rowS 43 2 encTip (.slice a0_28 x0.whole.starts.length c0_29) x0.whole.starts,Res.rowS 43 2 encTip (.slice a0_30 x0.whole.ends.length c0_31) x0.whole.ends,Res.rowS 66 8 encArc (.slice ao2 r.whole.arcs.length co3) r.whole.arcs]):=by
 dsimp only [comp_chain_arc]at hh
 have f0_3b:=f0_3.rv.big
 have f0_6b:=f0_6.rv.big
 have f0_9b:=f0_9.rv.big
 have f0_12b:=f0_12.rv.big
 have f0_15b:=f0_15.rv.big
 have f0_18b:=f0_18.rv.big
 have f0_21b:=f0_21.big
 have f0_24b:=f0_24.big
 refine Con.mk (n:=56) Tryz.func55 z z z (fun w0=> ?_)
 refine TC.weakR (TC.a (TL.op z (boxA z z z z (fun b118=> ?_))))
 refine TL.en (TC.seq (TC.seq (TC.draw [8,10,11] (by kernel_rfl) (TA.a 0 z (moveLoc (.inl z) z) z (TA.a 1 z (nilCheckLoc z z) z (TA.a 2 z (fieldLoc z fo75_4 z) z (TA.b 3 z (loadLoc z ag71 z (i:=1) z z) z (TA.b 4 z (loadAll z ag66 sz66 z (i:=0) z z) z (TA.b 5 z (OpVal.of (lookB () (q:=x1) z underlying71 ze82 z (i:=2) z z kl66) (v':= .tuple #[.agg #[],.bool (x0.seen.has x1)]) z) z (TA.a 6 z (moveT (.inl z) z) z (TA.a 7 z (OpVal.extract z z z) z (TA.a 8 z (OpVal.extract z z z) z (TA.ac 9 z (OpOk.alloc z ze82 z z (fun b122=>(k1 ?_))))))))))))))))
 refine TA.last 10 (by kernel_rfl) z z z (storeAll z sz82 z z z z z z ?_)
 refine TZ.v 11 (by kernel_rfl) z z z (moveB (.inr z) z) z z (TZ.done (by kernel_rfl) (S.n (TC.a (TL.j z z (TL.j z z (TL.split 16 z (fun h124=> ?_) (fun h124=> ?_)))))))
 ·replace hh:=iteO_t h124 hh
  refine TL.f z (TL.f z (TL.f z (TL.f z (TL.w z (pickTB z z z) (TL.en (TC.t z (TC.ofSub (Sub.f [8,8,8,8,8,8,8] 7) (TC.ret (S.r ?_)))))))))
  obtain rfl:=so hh
  refine ⟨_,Sub.f [6,6,6,6,6,6,6] 7,?_⟩
  exact ro [Res.cells b0_0 #[.int .i64 x0.a.states,.slice a0_1 x0.a.starts.length c0_2,.slice a0_4 x0.a.ends.length c0_5,.slice a0_7 x0.a.arcs.length c0_8,.int .i64 x0.b.states,.slice a0_10 x0.b.starts.length c0_11,.slice a0_13 x0.b.ends.length c0_14,.slice a0_16 x0.b.arcs.length c0_17,.slice a0_19 x0.arcs.length c0_20,.slice a0_22 x0.ends.length c0_23,.map (some b0_25),.map (some b0_26),.map (some b0_27),.int .i64 x0.whole.states,.slice a0_28 x0.whole.starts.length c0_29,.slice a0_30 x0.whole.ends.length c0_31,.slice a0_32 x0.whole.arcs.length c0_33,.bool x0.over] Eb0,Res.mapB (fun x=>Value.agg (encArc x).toArray) unitV (some b0_25) x0.seen,Res.mapB (fun x=>Value.agg (encTip x).toArray) unitV (some b0_26) x0.tips.s,Res.mapB (fun x=>Value.agg (encTip x).toArray) unitV (some b0_27) x0.tips.e,Res.rowS 43 2 encTip (.slice a0_28 x0.whole.starts.length c0_29) x0.whole.starts,Res.rowS 43 2 encTip (.slice a0_30 x0.whole.ends.length c0_31) x0.whole.ends,Res.rowS 66 8 encArc (.slice a0_32 x0.whole.arcs.length c0_33) x0.whole.arcs] z RVs.nil ⟨b0_25,a0_32,c0_33,z,z,z⟩
 replace hh:=iteO_f h124 hh
 refine TL.g z (moveLoc (.inl z) z) (TL.g z (nilCheckLoc z z) (TL.g z (fieldLoc z fo75_7 z) (TL.g z (loadLoc z ag4 z (i:=2) z z) (TL.w z (pickFB z z z) (TL.en (TC.cB z hh (fun h125 hh=> ?_) (fun h125 hh=> ?_)))))))
 ·refine TC.ofSub (Sub.f [8,8,8,8,8,8,8] 7) (TC.ret (S.r ?_))
  obtain rfl:=so hh
  refine ⟨_,Sub.f [6,6,6,6,6,6,6] 7,?_⟩
  exact ro [Res.cells b0_0 #[.int .i64 x0.a.states,.slice a0_1 x0.a.starts.length c0_2,.slice a0_4 x0.a.ends.length c0_5,.slice a0_7 x0.a.arcs.length c0_8,.int .i64 x0.b.states,.slice a0_10 x0.b.starts.length c0_11,.slice a0_13 x0.b.ends.length c0_14,.slice a0_16 x0.b.arcs.length c0_17,.slice a0_19 x0.arcs.length c0_20,.slice a0_22 x0.ends.length c0_23,.map (some b0_25),.map (some b0_26),.map (some b0_27),.int .i64 x0.whole.states,.slice a0_28 x0.whole.starts.length c0_29,.slice a0_30 x0.whole.ends.length c0_31,.slice a0_32 x0.whole.arcs.length c0_33,.bool x0.over] Eb0,Res.mapB (fun x=>Value.agg (encArc x).toArray) unitV (some b0_25) x0.seen,Res.mapB (fun x=>Value.agg (encTip x).toArray) unitV (some b0_26) x0.tips.s,Res.mapB (fun x=>Value.agg (encTip x).toArray) unitV (some b0_27) x0.tips.e,Res.rowS 43 2 encTip (.slice a0_28 x0.whole.starts.length c0_29) x0.whole.starts,Res.rowS 43 2 encTip (.slice a0_30 x0.whole.ends.length c0_31) x0.whole.ends,Res.rowS 66 8 encArc (.slice a0_32 x0.whole.arcs.length c0_33) x0.whole.arcs] z RVs.nil ⟨b0_25,a0_32,c0_33,z,z,z⟩
 refine TC.skip (S.n (TC.seq (TC.a (TL.l z z (TL.w z (nilCheckLoc z z) (TL.w z (fieldLoc z fo75_6 z) (TL.w z (fieldLoc z fo25_3 z) (TL.w z (loadLoc z ag23 z (i:=2) z z) (TL.w z (lenC z underlying23 z) (TL.w z (OpVal.geq z z z) (TL.j z z (TL.split 29 z (fun h126=> ?_) (fun h126=> ?_)))))))))))))
 ·replace hh:=iteO_t h126 hh
  replace h126:=of_decide_eq_true h126
  refine TL.f z (TL.f z (TL.f z (TL.f z (TL.w z (pickTB z z z) (TL.en (TC.t z (TC.a (TL.l z z (TL.w z (nilCheckLoc z z) (TL.w z (fieldLoc z fo75_7 z) (TL.front 2 z z (TL.op z (storeB z sz4 z z z z z ?_)))))))))))))
  refine TL.en (TC.ofSub (Sub.f [8,8,8,8,8,8,6] 7) (TC.ret (S.r ?_)))
  obtain rfl:=so hh
  refine ⟨_,Sub.f [6,6,6,6,6,6,6] 7,?_⟩
  exact ro [Res.cells b0_0 #[.int .i64 x0.a.states,.slice a0_1 x0.a.starts.length c0_2,.slice a0_4 x0.a.ends.length c0_5,.slice a0_7 x0.a.arcs.length c0_8,.int .i64 x0.b.states,.slice a0_10 x0.b.starts.length c0_11,.slice a0_13 x0.b.ends.length c0_14,.slice a0_16 x0.b.arcs.length c0_17,.slice a0_19 x0.arcs.length c0_20,.slice a0_22 x0.ends.length c0_23,.map (some b0_25),.map (some b0_26),.map (some b0_27),.int .i64 x0.whole.states,.slice a0_28 x0.whole.starts.length c0_29,.slice a0_30 x0.whole.ends.length c0_31,.slice a0_32 x0.whole.arcs.length c0_33,.bool true] Eb0,Res.mapB (fun x=>Value.agg (encArc x).toArray) unitV (some b0_25) x0.seen,Res.mapB (fun x=>Value.agg (encTip x).toArray) unitV (some b0_26) x0.tips.s,Res.mapB (fun x=>Value.agg (encTip x).toArray) unitV (some b0_27) x0.tips.e,Res.rowS 43 2 encTip (.slice a0_28 x0.whole.starts.length c0_29) x0.whole.starts,Res.rowS 43 2 encTip (.slice a0_30 x0.whole.ends.length c0_31) x0.whole.ends,Res.rowS 66 8 encArc (.slice a0_32 x0.whole.arcs.length c0_33) x0.whole.arcs] z RVs.nil ⟨b0_25,a0_32,c0_33,z,z,z⟩
 replace hh:=iteO_f h126 hh
 replace h126:=of_decide_eq_false h126
 refine TL.g z (fieldLoc z fo66_3 z) (TL.g z (loadLoc z ag9 z (i:=1) z z) (TL.g z (lenBs z underlying9 z) (TL.g z (OpVal.gtr z z z) (TL.w z (pickFB z z z) (TL.en (TC.cD z hh (fun h127 hh=> ?_) (fun h127 hh=> ?_)))))))
 ·refine TC.a (TL.l z z (TL.w z (nilCheckLoc z z) (TL.w z (fieldLoc z fo75_7 z) (TL.front 2 z z (TL.op z (storeB z sz4 z z z z z ?_))))))
  refine TL.en (TC.ofSub (Sub.f [8,8,8,8,8,8,6] 7) (TC.ret (S.r ?_)))
  obtain rfl:=so hh
  refine ⟨_,Sub.f [6,6,6,6,6,6,6] 7,?_⟩
  exact ro [Res.cells b0_0 #[.int .i64 x0.a.states,.slice a0_1 x0.a.starts.length c0_2,.slice a0_4 x0.a.ends.length c0_5,.slice a0_7 x0.a.arcs.length c0_8,.int .i64 x0.b.states,.slice a0_10 x0.b.starts.length c0_11,.slice a0_13 x0.b.ends.length c0_14,.slice a0_16 x0.b.arcs.length c0_17,.slice a0_19 x0.arcs.length c0_20,.slice a0_22 x0.ends.length c0_23,.map (some b0_25),.map (some b0_26),.map (some b0_27),.int .i64 x0.whole.states,.slice a0_28 x0.whole.starts.length c0_29,.slice a0_30 x0.whole.ends.length c0_31,.slice a0_32 x0.whole.arcs.length c0_33,.bool true] Eb0,Res.mapB (fun x=>Value.agg (encArc x).toArray) unitV (some b0_25) x0.seen,Res.mapB (fun x=>Value.agg (encTip x).toArray) unitV (some b0_26) x0.tips.s,Res.mapB (fun x=>Value.agg (encTip x).toArray) unitV (some b0_27) x0.tips.e,Res.rowS 43 2 encTip (.slice a0_28 x0.whole.starts.length c0_29) x0.whole.starts,Res.rowS 43 2 encTip (.slice a0_30 x0.whole.ends.length c0_31) x0.whole.ends,Res.rowS 66 8 encArc (.slice a0_32 x0.whole.arcs.length c0_33) x0.whole.arcs] z RVs.nil ⟨b0_25,a0_32,c0_33,z,z,z⟩
 refine TC.skip (S.n (TC.seq (TC.draw [6] (by kernel_rfl) (TA.a 0 z (moveLoc (.inl z) z) z (TA.a 1 z (nilCheckLoc z z) z (TA.a 2 z (fieldLoc z fo75_4 z) z (TA.b 3 z (loadLoc z ag71 z (i:=2) z z) z (TA.b 4 z (loadAll z ag66 sz66 z (i:=1) z z) z (TA.a 5 z (buildL z pl82 ze82 z) z (TA.front 3 z z (TA.last 6 (by kernel_rfl) z z z (updB x1 () z underlying71 z z z z kl66 ?_))))))))))))
 refine TZ.done (by kernel_rfl) (S.n ?_)
 have u53:=grd_c hh
 replace hh:=grd_t hh
 refine TC.draw [8,9,10,11,12] (by kernel_rfl) (TA.a 0 z (moveLoc (.inl z) z) z (TA.a 1 z (moveLoc (.inl z) z) z (TA.a 2 z (nilCheckLoc z z) z (TA.a 3 z (fieldLoc z fo75_6 z) z (TA.a 4 z (fieldLoc z fo25_3 z) z (TA.b 5 z (loadLoc z ag23 z (i:=3) z z) z (TA.b 6 z (loadAll z ag66 sz66 z (i:=2) z z) z (TA.ac 7 z (OpOk.lit (enc:=encArc) [x1] z underlying23 sz66 ze66 z z z encArc_len (by decide) (by decide) Arc.zero z (by decide) z (by decide) encArc_one (fun a133 c134=>(k1 ?_)))))))))))
 refine TA.front 9 z z (TA.last 8 (by kernel_rfl) z z z (appendS z z underlying23 sz66 by66 ze66 z z (by decide) z z z (.inr ⟨_,0,z⟩) (by simpa using u53) (by decide) (fun a136 c137=> ?_)))
 refine TZ.v 9 (by kernel_rfl) z z z (nilCheckLoc z z) z z (TZ.v 10 (by kernel_rfl) z z z (fieldLoc z fo75_6 z) z z (TZ.v 11 (by kernel_rfl) z z z (fieldLoc z fo25_3 z) z z (TZ.front 5 z z (TZ.last 12 (by kernel_rfl) z z z (storeSl z sz23 z z z z z ?_)))))
 refine TZ.done (by kernel_rfl) ?_
 obtain rfl:=so hh
 refine ⟨_,Sub.f [1,9,9,9,9,7,6] 7,?_⟩
 exact RetOk.mk' (rs:=[]) [Res.cells b0_0 #[.int .i64 x0.a.states,.slice a0_1 x0.a.starts.length c0_2,.slice a0_4 x0.a.ends.length c0_5,.slice a0_7 x0.a.arcs.length c0_8,.int .i64 x0.b.states,.slice a0_10 x0.b.starts.length c0_11,.slice a0_13 x0.b.ends.length c0_14,.slice a0_16 x0.b.arcs.length c0_17,.slice a0_19 x0.arcs.length c0_20,.slice a0_22 x0.ends.length c0_23,.map (some b0_25),.map (some b0_26),.map (some b0_27),.int .i64 x0.whole.states,.slice a0_28 x0.whole.starts.length c0_29,.slice a0_30 x0.whole.ends.length c0_31,.slice a136 ((x0.whole.arcs++[x1]).length) c137,.bool x0.over] Eb0,Res.mapB (fun x=>Value.agg (encArc x).toArray) unitV (some b0_25) (x0.seen.put x1 ()),Res.mapB (fun x=>Value.agg (encTip x).toArray) unitV (some b0_26) x0.tips.s,Res.mapB (fun x=>Value.agg (encTip x).toArray) unitV (some b0_27) x0.tips.e,Res.rowS 43 2 encTip (.slice a0_28 x0.whole.starts.length c0_29) x0.whole.starts,Res.rowS 43 2 encTip (.slice a0_30 x0.whole.ends.length c0_31) x0.whole.ends,Res.rowS 66 8 encArc (.slice a136 (x0.whole.arcs++[x1]).length c137) (x0.whole.arcs++[x1])] z (.inr z) RVs.nil (List.sublist_append_left _ _) ⟨b0_25,a136,c137,z,z,z⟩
def comp_chain_starts_b3(v30:(List Tip)×Chain)(x0:Chain)(k144:Nat)(k177:Nat)(m205:FM Tip Unit)(l208:List Tip)(t211:Bool)(k212:Nat):Option (((FM Tip Unit)×(List Tip)×Bool×Nat)⊕(((FM Tip Unit)×(List Tip)×Bool×Nat)⊕(((FM Tip Unit)×(List Tip)×Bool×Nat)⊕(Chain)))):=
 iteO (decide (((k212:Nat):Int)<((v30.1.length:Nat):Int))) (bnd (comp_chain_at (⟨x0.a,x0.b,x0.arcs,x0.ends,x0.seen,(⟨m205,x0.tips.e⟩:TwoM),(⟨x0.whole.states,l208,x0.whole.ends,x0.whole.arcs⟩:Fst),t211⟩:Chain) ((nth x0.a.starts k144 Tip.zero).state) ((nth v30.1 k212 Tip.zero).state)) (fun v48=>grd (((nth x0.b.starts k177 Tip.zero).out).length+((nth v30.1 k212 Tip.zero).out).length≤9223372036854775807) (bnd (comp_chain_tipS (⟨x0.a,x0.b,x0.arcs,x0.ends,x0.seen,(⟨m205,x0.tips.e⟩:TwoM),(⟨x0.whole.states,l208,x0.whole.ends,x0.whole.arcs⟩:Fst),t211⟩:Chain) 0 (⟨v48,((nth x0.b.starts k177 Tip.zero).out++(nth v30.1 k212 Tip.zero).out)⟩:Tip)) (fun v55=>nxt (v55.tips.s,v55.whole.starts,v55.over,(k212+1)))))) (fin (iteO t211 (fin (fin (some (⟨x0.a,x0.b,x0.arcs,x0.ends,x0.seen,(⟨m205,x0.tips.e⟩:TwoM),(⟨x0.whole.states,l208,x0.whole.ends,x0.whole.arcs⟩:Fst),t211⟩:Chain)))) (nxt (m205,l208,t211,(k177+1)))))
def comp_chain_starts_b2(x0:Chain)(k144:Nat)(m170:FM Tip Unit)(l173:List Tip)(t176:Bool)(k177:Nat):Option (((FM Tip Unit)×(List Tip)×Bool×Nat)⊕(((FM Tip Unit)×(List Tip)×Bool×Nat)⊕(Chain))):=
 iteO (decide (((k177:Nat):Int)<((x0.b.starts.length:Nat):Int))) (bnd (comp_chain_ways (⟨x0.a,x0.b,x0.arcs,x0.ends,x0.seen,(⟨m170,x0.tips.e⟩:TwoM),(⟨x0.whole.states,l173,x0.whole.ends,x0.whole.arcs⟩:Fst),t176⟩:Chain) ((nth x0.b.starts k177 Tip.zero).state) ((nth x0.a.starts k144 Tip.zero).out)) (fun v30=>iter (fun q:(FM Tip Unit)×(List Tip)×Bool×Nat=>comp_chain_starts_b3 v30 x0 k144 k177 q.1 q.2.1 q.2.2.1 q.2.2.2) (m170,l173,v30.2.over,0))) (fin (nxt (m170,l173,t176,(k144+1))))
def comp_chain_starts_b1(x0:Chain)(m137:FM Tip Unit)(l140:List Tip)(t143:Bool)(k144:Nat):Option (((FM Tip Unit)×(List Tip)×Bool×Nat)⊕(Chain)):=
 iteO (decide (((k144:Nat):Int)<((x0.a.starts.length:Nat):Int))) (iter (fun q:(FM Tip Unit)×(List Tip)×Bool×Nat=>comp_chain_starts_b2 x0 k144 q.1 q.2.1 q.2.2.1 q.2.2.2) (m137,l140,t143,0)) (fin (some (⟨x0.a,x0.b,x0.arcs,x0.ends,x0.seen,(⟨m137,x0.tips.e⟩:TwoM),(⟨x0.whole.states,l140,x0.whole.ends,x0.whole.arcs⟩:Fst),t143⟩:Chain)))
def comp_chain_starts(x0:Chain):Option (Chain):=
 iter (fun q:(FM Tip Unit)×(List Tip)×Bool×Nat=>comp_chain_starts_b1 x0 q.1 q.2.1 q.2.2.1 q.2.2.2) (x0.tips.s,x0.whole.starts,x0.over,0)
theorem comp_chain_starts_con{x0:Chain}(f0_3:RS σ 2 encTip (.slice a0_1 x0.a.starts.length c0_2) x0.a.starts)(f0_6:RS σ 2 encTip (.slice a0_4 x0.a.ends.length c0_5) x0.a.ends)(f0_9:RS σ 8 encArc (.slice a0_7 x0.a.arcs.length c0_8) x0.a.arcs)(f0_12:RS σ 2 encTip (.slice a0_10 x0.b.starts.length c0_11) x0.b.starts)(f0_15:RS σ 2 encTip (.slice a0_13 x0.b.ends.length c0_14) x0.b.ends)(f0_18:RS σ 8 encArc (.slice a0_16 x0.b.arcs.length c0_17) x0.b.arcs)(f0_21:RZ σ (pkSl 8 encArc encArc_len) (.slice a0_19 x0.arcs.length c0_20) x0.arcs)(f0_24:RZ σ (pkSl 2 encTip encTip_len) (.slice a0_22 x0.ends.length c0_23) x0.ends){r:Chain}(hh:comp_chain_starts x0=some r):
  Con Tryz.prog 23 #[loc b0_0 0] σ [Res.cells b0_0 #[.int .i64 x0.a.states,.slice a0_1 x0.a.starts.length c0_2,.slice a0_4 x0.a.ends.length c0_5,.slice a0_7 x0.a.arcs.length c0_8,.int .i64 x0.b.states,.slice a0_10 x0.b.starts.length c0_11,.slice a0_13 x0.b.ends.length c0_14,.slice a0_16 x0.b.arcs.length c0_17,.slice a0_19 x0.arcs.length c0_20,.slice a0_22 x0.ends.length c0_23,.map (some b0_25),.map (some b0_26),.map (some b0_27),.int .i64 x0.whole.states,.slice a0_28 x0.whole.starts.length c0_29,.slice a0_30 x0.whole.ends.length c0_31,.slice a0_32 x0.whole.arcs.length c0_33,.bool x0.over] Eb0,Res.mapB (fun x=>Value.agg (encArc x).toArray) unitV (some b0_25) x0.seen,Res.mapB (fun x=>Value.agg (encTip x).toArray) unitV (some b0_26) x0.tips.s,Res.mapB (fun x=>Value.agg (encTip x).toArray) unitV (some b0_27) x0.tips.e,Res.rowS 43 2 encTip (.slice a0_28 x0.whole.starts.length c0_29) x0.whole.starts,Res.rowS 43 2 encTip (.slice a0_30 x0.whole.ends.length c0_31) x0.whole.ends,Res.rowS 66 8 encArc (.slice a0_32 x0.whole.arcs.length c0_33) x0.whole.arcs] (fun v σ' H'=> ∃bo1 ao2 co3,v= .tuple #[]∧σ=σ'∧H'=[Res.cells b0_0 #[.int .i64 x0.a.states,.slice a0_1 x0.a.starts.length c0_2,.slice a0_4 x0.a.ends.length c0_5,.slice a0_7 x0.a.arcs.length c0_8,.int .i64 x0.b.states,.slice a0_10 x0.b.starts.length c0_11,.slice a0_13 x0.b.ends.length c0_14,.slice a0_16 x0.b.arcs.length c0_17,.slice a0_19 x0.arcs.length c0_20,.slice a0_22 x0.ends.length c0_23,.map (some b0_25),.map (some bo1),.map (some b0_27),.int .i64 x0.whole.states,.slice ao2 r.whole.starts.length co3,.slice a0_30 x0.whole.ends.length c0_31,.slice a0_32 x0.whole.arcs.length c0_33,.bool r.over] Eb0,Res.mapB (fun x=>Value.agg (encArc x).toArray) unitV (some b0_25) x0.seen,Res.mapB (fun x=>Value.agg (encTip x).toArray) unitV (some bo1) r.tips.s,Res.mapB (fun x=>Value.agg (encTip x).toArray) unitV (some b0_27) x0.tips.e,Res.rowS 43 2 encTip (.slice ao2 r.whole.starts.length co3) r.whole.starts,Res.rowS 43 2 encTip (.slice a0_30 x0.whole.ends.length c0_31) x0.whole.ends,Res.rowS 66 8 encArc (.slice a0_32 x0.whole.arcs.length c0_33) x0.whole.arcs]):=by
 dsimp only [comp_chain_starts]at hh
 have f0_3b:=f0_3.rv.big
 have f0_6b:=f0_6.rv.big
 have f0_9b:=f0_9.rv.big
 have f0_12b:=f0_12.rv.big
 have f0_15b:=f0_15.rv.big
 have f0_18b:=f0_18.rv.big
 have f0_21b:=f0_21.big
 have f0_24b:=f0_24.big
 refine Con.mk (n:=64) Tryz.func23 z z z (fun w0=> ?_)
 refine TC.a (TL.l z z (TL.w z (nilCheckLoc z z) (TL.w z (fieldLoc z fo75_0 z) (TL.w z (fieldLoc z fo25_1 z) (TL.w z (loadLoc z ag22 z (i:=0) z z) (TL.w z (lenC z underlying22 z) (TL.i z z (TL.en (TC.block (TC.loopG (α:=((FM Tip Unit)×(List Tip)×Bool×Nat)×(Nat×(Option Addr)×Nat)) (rgs [(3,1),(5,1),(7,1),(14,50)]) (fun g=>[(14,.int .i64 ((g.1.2.2.2:Nat):Int))]) (fun g=>[Res.cells b0_0 #[.int .i64 x0.a.states,.slice a0_1 x0.a.starts.length c0_2,.slice a0_4 x0.a.ends.length c0_5,.slice a0_7 x0.a.arcs.length c0_8,.int .i64 x0.b.states,.slice a0_10 x0.b.starts.length c0_11,.slice a0_13 x0.b.ends.length c0_14,.slice a0_16 x0.b.arcs.length c0_17,.slice a0_19 x0.arcs.length c0_20,.slice a0_22 x0.ends.length c0_23,.map (some b0_25),.map (some g.2.1),.map (some b0_27),.int .i64 x0.whole.states,.slice g.2.2.1 g.1.2.1.length g.2.2.2,.slice a0_30 x0.whole.ends.length c0_31,.slice a0_32 x0.whole.arcs.length c0_33,.bool g.1.2.2.1] Eb0,Res.mapB (fun x=>Value.agg (encArc x).toArray) unitV (some b0_25) x0.seen,Res.mapB (fun x=>Value.agg (encTip x).toArray) unitV (some g.2.1) g.1.1,Res.mapB (fun x=>Value.agg (encTip x).toArray) unitV (some b0_27) x0.tips.e,Res.rowS 43 2 encTip (.slice g.2.2.1 g.1.2.1.length g.2.2.2) g.1.2.1,Res.rowS 43 2 encTip (.slice a0_30 x0.whole.ends.length c0_31) x0.whole.ends,Res.rowS 66 8 encArc (.slice a0_32 x0.whole.arcs.length c0_33) x0.whole.arcs]) (fun g=>σ) (fun g=>iter (fun q:(FM Tip Unit)×(List Tip)×Bool×Nat=>comp_chain_starts_b1 x0 q.1 q.2.1 q.2.2.1 q.2.2.2) g.1=some r) (fun g=>rounds (fun q:(FM Tip Unit)×(List Tip)×Bool×Nat=>comp_chain_starts_b1 x0 q.1 q.2.1 q.2.2.1 q.2.2.2) g.1) ((x0.tips.s,x0.whole.starts,x0.over,0),(b0_26,a0_28,c0_29)) (Sub.f [6,6,6,6,6,6,6] 7) z (by repeat (first|exact trivial|refine ⟨z,?_⟩)) hh (fun g1 j1 hg1=> ?_)))))))))))
 obtain ⟨⟨m137,l140,t143,k144⟩,⟨b138,a141,c142⟩⟩:=g1
 have hh:=hg1;clear hg1
 try dsimp only
 obtain ⟨z1,hh,hR1⟩:=iter_e hh
 dsimp only [comp_chain_starts_b1]at hh
 refine TC.isSl (i:=4) z (fun _ hb145 _=> ?_)
 refine TC.isSl (i:=5) z (fun _ hb146 _=> ?_)
 refine TC.isSl (i:=6) z (fun _ hb147 _=> ?_)
 refine TC.a (TL.w z (OpVal.lss z z z) (TL.en (TC.seq (TC.cD z hh (fun h148 hh=> ?_) (fun h148 hh=> ?_)))))
 ·refine TC.skip (S.n (TC.seq (TC.block (TC.a (TL.w z (indexN z underlying22 sz43 z z f0_3.rv.sl (by omega)) (TL.w z (loadSA Tip.zero z ag43 sz43 z f0_3 (by omega) (by omega)) (TL.op z (OpOk.alloc z ze43 z z (fun b149=> ?_)))))))))
  refine TL.op z (storeAll z sz43 z z z z z z ?_)
  refine TL.en (TC.a (TL.l z z (TL.w z (nilCheckLoc z z) (TL.w z (fieldLoc z fo75_1 z) (TL.w z (fieldLoc z fo25_1 z) (TL.w z (loadLoc z ag22 z (i:=1) z z) (TL.w z (lenC z underlying22 z) (TL.i z z (TL.en (TC.block (TC.loopG (α:=((FM Tip Unit)×(List Tip)×Bool×Nat)×(Nat×(Option Addr)×Nat)) (rgs [(5,1),(7,1),(24,39)]) (fun g=>[(24,.int .i64 ((g.1.2.2.2:Nat):Int))]) (fun g=>[Res.cells b0_0 #[.int .i64 x0.a.states,.slice a0_1 x0.a.starts.length c0_2,.slice a0_4 x0.a.ends.length c0_5,.slice a0_7 x0.a.arcs.length c0_8,.int .i64 x0.b.states,.slice a0_10 x0.b.starts.length c0_11,.slice a0_13 x0.b.ends.length c0_14,.slice a0_16 x0.b.arcs.length c0_17,.slice a0_19 x0.arcs.length c0_20,.slice a0_22 x0.ends.length c0_23,.map (some b0_25),.map (some g.2.1),.map (some b0_27),.int .i64 x0.whole.states,.slice g.2.2.1 g.1.2.1.length g.2.2.2,.slice a0_30 x0.whole.ends.length c0_31,.slice a0_32 x0.whole.arcs.length c0_33,.bool g.1.2.2.1] Eb0,Res.mapB (fun x=>Value.agg (encArc x).toArray) unitV (some b0_25) x0.seen,Res.mapB (fun x=>Value.agg (encTip x).toArray) unitV (some g.2.1) g.1.1,Res.mapB (fun x=>Value.agg (encTip x).toArray) unitV (some b0_27) x0.tips.e,Res.rowS 43 2 encTip (.slice g.2.2.1 g.1.2.1.length g.2.2.2) g.1.2.1,Res.rowS 43 2 encTip (.slice a0_30 x0.whole.ends.length c0_31) x0.whole.ends,Res.rowS 66 8 encArc (.slice a0_32 x0.whole.arcs.length c0_33) x0.whole.arcs,Res.cells b149 #[.int .i64 ((nth x0.a.starts k144 Tip.zero).state),.string (bs ((nth x0.a.starts k144 Tip.zero).out))] 43]) (fun g=>σ) (fun g=>iter (fun q:(FM Tip Unit)×(List Tip)×Bool×Nat=>comp_chain_starts_b2 x0 k144 q.1 q.2.1 q.2.2.1 q.2.2.2) g.1=some z1) (fun g=>rounds (fun q:(FM Tip Unit)×(List Tip)×Bool×Nat=>comp_chain_starts_b2 x0 k144 q.1 q.2.1 q.2.2.1 q.2.2.2) g.1) ((m137,l140,t143,0),(b138,a141,c142)) (Sub.f [7,7,7,7,7,7,7] 8) z (by repeat (first|exact trivial|refine ⟨z,?_⟩)) hh (fun g2 j2 hg2=> ?_))))))))))))
  obtain ⟨⟨m170,l173,t176,k177⟩,⟨b171,a174,c175⟩⟩:=g2
  have hh:=hg2;clear hg2
  try dsimp only
  obtain ⟨z2,hh,hR2⟩:=iter_e hh
  dsimp only [comp_chain_starts_b2]at hh
  refine TC.isSl (i:=4) z (fun _ hb178 _=> ?_)
  refine TC.isSl (i:=5) z (fun _ hb179 _=> ?_)
  refine TC.isSl (i:=6) z (fun _ hb180 _=> ?_)
  refine TC.a (TL.w z (OpVal.lss z z z) (TL.en (TC.seq (TC.cD z hh (fun h181 hh=> ?_) (fun h181 hh=> ?_)))))
  ·refine TC.skip (S.n (TC.seq (TC.block (TC.a (TL.w z (indexN z underlying22 sz43 z z f0_12.rv.sl (by omega)) (TL.w z (loadSA Tip.zero z ag43 sz43 z f0_12 (by omega) (by omega)) (TL.op z (OpOk.alloc z ze43 z z (fun b182=> ?_)))))))))
   refine TL.op z (storeAll z sz43 z z z z z z ?_)
   refine TL.en (TC.seq (TC.a (TL.l z z (TL.w z (fieldLoc z fo43_0 z) (TL.w z (loadLoc z ag3 z (i:=0) z z) (TL.w z (fieldLoc z fo43_1 z) (TL.w z (loadLoc z ag9 z (i:=8) z z) (TL.front 7 z z (TL.front 7 z z (TL.front 7 z z (TL.front 7 z z (TL.front 7 z z (TL.front 7 z z (TL.front 7 z z ?_))))))))))))))
   obtain ⟨v30,u30,hh⟩:=bnd_e hh
   refine TL.op z (OpOk.call (comp_chain_ways_con (x0:=(⟨x0.a,x0.b,x0.arcs,x0.ends,x0.seen,(⟨m170,x0.tips.e⟩:TwoM),(⟨x0.whole.states,l173,x0.whole.ends,x0.whole.arcs⟩:Fst),t176⟩:Chain)) f0_3 f0_6 f0_9 f0_12 f0_15 f0_18 f0_21 f0_24 u30) z z pf52 z z z z ?_)
   rintro _ _ _ hle184 ⟨a184_1,c184_2,rfl,rfl,rfl⟩
   refine TL.w z (lenC z underlying22 z) (TL.i z z (TL.en (TC.block (TC.loopG (α:=((FM Tip Unit)×(List Tip)×Bool×Nat)×(Nat×(Option Addr)×Nat)) (rgs [(7,1),(35,23)]) (fun g=>[(35,.int .i64 ((g.1.2.2.2:Nat):Int))]) (fun g=>[Res.cells b0_0 #[.int .i64 x0.a.states,.slice a0_1 x0.a.starts.length c0_2,.slice a0_4 x0.a.ends.length c0_5,.slice a0_7 x0.a.arcs.length c0_8,.int .i64 x0.b.states,.slice a0_10 x0.b.starts.length c0_11,.slice a0_13 x0.b.ends.length c0_14,.slice a0_16 x0.b.arcs.length c0_17,.slice a0_19 x0.arcs.length c0_20,.slice a0_22 x0.ends.length c0_23,.map (some b0_25),.map (some g.2.1),.map (some b0_27),.int .i64 x0.whole.states,.slice g.2.2.1 g.1.2.1.length g.2.2.2,.slice a0_30 x0.whole.ends.length c0_31,.slice a0_32 x0.whole.arcs.length c0_33,.bool g.1.2.2.1] Eb0,Res.mapB (fun x=>Value.agg (encArc x).toArray) unitV (some b0_25) x0.seen,Res.mapB (fun x=>Value.agg (encTip x).toArray) unitV (some g.2.1) g.1.1,Res.mapB (fun x=>Value.agg (encTip x).toArray) unitV (some b0_27) x0.tips.e,Res.rowS 43 2 encTip (.slice g.2.2.1 g.1.2.1.length g.2.2.2) g.1.2.1,Res.rowS 43 2 encTip (.slice a0_30 x0.whole.ends.length c0_31) x0.whole.ends,Res.rowS 66 8 encArc (.slice a0_32 x0.whole.arcs.length c0_33) x0.whole.arcs,Res.cells b149 #[.int .i64 ((nth x0.a.starts k144 Tip.zero).state),.string (bs ((nth x0.a.starts k144 Tip.zero).out))] 43,Res.cells b182 #[.int .i64 ((nth x0.b.starts k177 Tip.zero).state),.string (bs ((nth x0.b.starts k177 Tip.zero).out))] 43,Res.rowS 43 2 encTip (.slice a184_1 v30.1.length c184_2) v30.1]) (fun g=>σ) (fun g=>iter (fun q:(FM Tip Unit)×(List Tip)×Bool×Nat=>comp_chain_starts_b3 v30 x0 k144 k177 q.1 q.2.1 q.2.2.1 q.2.2.2) g.1=some z2) (fun g=>rounds (fun q:(FM Tip Unit)×(List Tip)×Bool×Nat=>comp_chain_starts_b3 v30 x0 k144 k177 q.1 q.2.1 q.2.2.1 q.2.2.2) g.1) ((m170,l173,v30.2.over,0),(b171,a174,c175)) (Sub.f [8,9,9,9,9,9,9,9,9] 10) z (by repeat (first|exact trivial|refine ⟨z,?_⟩)) hh (fun g3 j3 hg3=> ?_)))))
   obtain ⟨⟨m205,l208,t211,k212⟩,⟨b206,a209,c210⟩⟩:=g3
   have hh:=hg3;clear hg3
   try dsimp only
   obtain ⟨z3,hh,hR3⟩:=iter_e hh
   dsimp only [comp_chain_starts_b3]at hh
   refine TC.isSl (i:=4) z (fun _ hb213 _=> ?_)
   refine TC.isSl (i:=5) z (fun _ hb214 _=> ?_)
   refine TC.isSl (i:=6) z (fun _ hb215 _=> ?_)
   refine TC.isSl (i:=9) z (fun _ hb216 _=> ?_)
   refine TC.a (TL.w z (OpVal.lss z z z) (TL.en (TC.seq (TC.cD z hh (fun h217 hh=> ?_) (fun h217 hh=> ?_)))))
   ·refine TC.skip (S.n (TC.seq (TC.block (TC.a (TL.isSl (i:=9) z (fun hs218 _ _=> ?_))))))
    refine TL.w z (indexN z underlying22 sz43 z z hs218 (by omega)) (TL.w z (loadOA Tip.zero z ag43 sz43 z (q:=9) z encTip_len (by omega) (by omega)) (TL.op z (OpOk.alloc z ze43 z z (fun b219=> ?_))))
    refine TL.op z (storeAll z sz43 z z z z z z ?_)
    refine TL.en ?_
    obtain ⟨v48,u48,hh⟩:=bnd_e hh
    have u53:=grd_c hh
    replace hh:=grd_t hh
    obtain ⟨v55,u55,hh⟩:=bnd_e hh
    refine TC.drawR (Hr:=[Res.cells b219 #[.int .i64 ((nth v30.1 k212 Tip.zero).state),.string (bs ((nth v30.1 k212 Tip.zero).out))] 43,Res.mapB (fun x=>Value.agg (encArc x).toArray) unitV (some b0_25) x0.seen,Res.mapB (fun x=>Value.agg (encTip x).toArray) unitV (some b0_27) x0.tips.e,Res.rowS 43 2 encTip (.slice a0_30 x0.whole.ends.length c0_31) x0.whole.ends,Res.rowS 66 8 encArc (.slice a0_32 x0.whole.arcs.length c0_33) x0.whole.arcs,Res.cells b149 #[.int .i64 ((nth x0.a.starts k144 Tip.zero).state),.string (bs ((nth x0.a.starts k144 Tip.zero).out))] 43,Res.cells b182 #[.int .i64 ((nth x0.b.starts k177 Tip.zero).state),.string (bs ((nth x0.b.starts k177 Tip.zero).out))] 43,Res.rowS 43 2 encTip (.slice a184_1 v30.1.length c184_2) v30.1]) (fun r hr=>mem_pick [0,2,4,6,7,8,9,10] z hr) [] (by kernel_rfl) (TA.a 0 z (moveLoc (.inl z) z) z (TA.a 1 z (moveLoc (.inl z) z) z (TA.a 2 z (nilCheckLoc z z) z (TA.a 3 z (fieldLoc z fo75_6 z) z (TA.a 4 z (fieldLoc z fo25_1 z) z (TA.a 5 z (moveLoc (.inl z) z) z (TA.a 6 z (fieldLoc z fo43_0 z) z (TA.b 7 z (loadLoc z ag3 z (i:=5) z z) z (TA.a 8 z (fieldLoc z fo43_0 z) z (TA.b 9 z (loadLoc z ag3 z (i:=0) z z) z (TA.a 11 z (fieldLoc z fo43_1 z) z (TA.b 12 z (loadLoc z ag9 z (i:=6) z z) z (TA.a 13 z (fieldLoc z fo43_1 z) z (TA.b 14 z (loadLoc z ag9 z (i:=0) z z) z (TA.a 15 z (catBs z z z u53) z ?_)))))))))))))))
    refine TA.front 7 z z (TA.front 7 z z (TA.front 7 z z (TA.front 7 z z (TA.front 7 z z (TA.front 7 z z (TA.front 7 z z (TA.ac 10 z (OpOk.call (comp_chain_at_con (x0:=(⟨x0.a,x0.b,x0.arcs,x0.ends,x0.seen,(⟨m205,x0.tips.e⟩:TwoM),(⟨x0.whole.states,l208,x0.whole.ends,x0.whole.arcs⟩:Fst),t211⟩:Chain)) f0_3 f0_6 f0_9 f0_12 f0_15 f0_18 f0_21 f0_24 u48) z z pf54 z z z z ?_))))))))
    rintro _ _ _ hle225 ⟨rfl,rfl,rfl⟩
    refine ⟨(fun w h=>sees_of (Store.le.refl _) (fun r hr=>mem_pick [7,1,3,5,6,8,9,10] z hr) w h),?_⟩
    refine TA.a 16 z (buildL z pl43 ze43 z) z (TA.front 6 z z (TA.front 6 z z (TA.front 6 z z (TA.front 6 z z (TA.front 6 z z (TA.front 6 z z (TA.front 6 z z (TA.ac 17 z (OpOk.call (comp_chain_tipS_con (x0:=(⟨x0.a,x0.b,x0.arcs,x0.ends,x0.seen,(⟨m205,x0.tips.e⟩:TwoM),(⟨x0.whole.states,l208,x0.whole.ends,x0.whole.arcs⟩:Fst),t211⟩:Chain)) f0_3 f0_6 f0_9 f0_12 f0_15 f0_18 f0_21 f0_24 u55) z z pf53 z z z z ?_)))))))))
    rintro _ _ _ hle226 ⟨b226_1,a226_2,c226_3,rfl,rfl,rfl⟩
    refine ⟨(fun w h=>sees_of (Store.le.refl _) (fun r hr=>mem_pick [7,1,3,5,6,8,9,10] z hr) w h),?_⟩
    refine TA.dn (B.n (S.n (TC.region (TL.w z (OpVal.succ z z z (by omega)) (TL.i z z (TL.en ?_))))))
    obtain ⟨hh,hlt229⟩:=nxt_x hR3 hh
    exact lf ((v55.tips.s,v55.whole.starts,v55.over,(k212+1)),(b226_1,a226_2,c226_3)) hlt229 hh (Sub.f [10,10,10,9,9,9,9,9,9,9] 10)
   refine TC.exit (S.x (S.x ?_))
   replace hh:=fin_x hR3 hh
   refine TC.exitHere (S.n (TC.a (TL.l z z (TL.w z (nilCheckLoc z z) (TL.w z (fieldLoc z fo75_7 z) (TL.w z (loadLoc z ag4 z (i:=0) z z) (TL.en (TC.cB z hh (fun h230 hh=> ?_) (fun h230 hh=> ?_)))))))))
   ·refine TC.ofSub (Sub.f [6,6,6,6,6,6,6] 7) (TC.ret (B.r (S.r (S.r ?_))))
    replace hh:=fin_x hR2 hh
    refine B.r (B.r (S.r (S.r ?_)))
    replace hh:=fin_x hR1 hh
    refine B.r ?_
    obtain rfl:=so hh
    exact ro [Res.cells b0_0 #[.int .i64 x0.a.states,.slice a0_1 x0.a.starts.length c0_2,.slice a0_4 x0.a.ends.length c0_5,.slice a0_7 x0.a.arcs.length c0_8,.int .i64 x0.b.states,.slice a0_10 x0.b.starts.length c0_11,.slice a0_13 x0.b.ends.length c0_14,.slice a0_16 x0.b.arcs.length c0_17,.slice a0_19 x0.arcs.length c0_20,.slice a0_22 x0.ends.length c0_23,.map (some b0_25),.map (some b206),.map (some b0_27),.int .i64 x0.whole.states,.slice a209 l208.length c210,.slice a0_30 x0.whole.ends.length c0_31,.slice a0_32 x0.whole.arcs.length c0_33,.bool t211] Eb0,Res.mapB (fun x=>Value.agg (encArc x).toArray) unitV (some b0_25) x0.seen,Res.mapB (fun x=>Value.agg (encTip x).toArray) unitV (some b206) m205,Res.mapB (fun x=>Value.agg (encTip x).toArray) unitV (some b0_27) x0.tips.e,Res.rowS 43 2 encTip (.slice a209 l208.length c210) l208,Res.rowS 43 2 encTip (.slice a0_30 x0.whole.ends.length c0_31) x0.whole.ends,Res.rowS 66 8 encArc (.slice a0_32 x0.whole.arcs.length c0_33) x0.whole.arcs] z RVs.nil ⟨b206,a209,c210,z,z,z⟩
   refine TC.skip (B.n (S.n (TC.region (TL.w z (OpVal.succ z z z (by omega)) (TL.i z z (TL.en ?_))))))
   obtain ⟨hh,hlt231⟩:=nxt_x hR2 hh
   exact lf ((m205,l208,t211,(k177+1)),(b206,a209,c210)) hlt231 hh (Sub.f [7,7,7,7,7,7,7,7] 8)
  refine TC.exit (S.x (S.x ?_))
  replace hh:=fin_x hR2 hh
  refine TC.exitHere (B.n (S.n (TC.region (TL.w z (OpVal.succ z z z (by omega)) (TL.i z z (TL.en ?_))))))
  obtain ⟨hh,hlt232⟩:=nxt_x hR1 hh
  exact lf ((m170,l173,t176,(k144+1)),(b171,a174,c175)) hlt232 hh (Sub.f [6,6,6,6,6,6,6] 7)
 refine TC.exit (S.x (S.x ?_))
 replace hh:=fin_x hR1 hh
 refine TC.exitHere ?_
 obtain rfl:=so hh
 exact RetOk.mk' (rs:=[]) [Res.cells b0_0 #[.int .i64 x0.a.states,.slice a0_1 x0.a.starts.length c0_2,.slice a0_4 x0.a.ends.length c0_5,.slice a0_7 x0.a.arcs.length c0_8,.int .i64 x0.b.states,.slice a0_10 x0.b.starts.length c0_11,.slice a0_13 x0.b.ends.length c0_14,.slice a0_16 x0.b.arcs.length c0_17,.slice a0_19 x0.arcs.length c0_20,.slice a0_22 x0.ends.length c0_23,.map (some b0_25),.map (some b138),.map (some b0_27),.int .i64 x0.whole.states,.slice a141 l140.length c142,.slice a0_30 x0.whole.ends.length c0_31,.slice a0_32 x0.whole.arcs.length c0_33,.bool t143] Eb0,Res.mapB (fun x=>Value.agg (encArc x).toArray) unitV (some b0_25) x0.seen,Res.mapB (fun x=>Value.agg (encTip x).toArray) unitV (some b138) m137,Res.mapB (fun x=>Value.agg (encTip x).toArray) unitV (some b0_27) x0.tips.e,Res.rowS 43 2 encTip (.slice a141 l140.length c142) l140,Res.rowS 43 2 encTip (.slice a0_30 x0.whole.ends.length c0_31) x0.whole.ends,Res.rowS 66 8 encArc (.slice a0_32 x0.whole.arcs.length c0_33) x0.whole.arcs] z (.inr z) RVs.nil (List.sublist_append_left _ _) ⟨b138,a141,c142,z,z,z⟩
def comp_chain_stops_b4(x0:Chain)(v26:(List Tip)×Chain)(k210:Nat)(k144:Nat)(k177:Nat)(m240:FM Tip Unit)(l243:List Tip)(t246:Bool)(k247:Nat):Option (((FM Tip Unit)×(List Tip)×Bool×Nat)⊕(((FM Tip Unit)×(List Tip)×Bool×Nat)⊕(((FM Tip Unit)×(List Tip)×Bool×Nat)⊕(((FM Tip Unit)×(List Tip)×Bool×Nat)⊕(Chain))))):=
 iteO (decide (((k247:Nat):Int)<(((nth x0.ends (((nth v26.1 k210 Tip.zero).state).toNat) ([]:List Tip)).length:Nat):Int))) (bnd (comp_chain_at (⟨x0.a,x0.b,x0.arcs,x0.ends,x0.seen,(⟨x0.tips.s,m240⟩:TwoM),(⟨x0.whole.states,x0.whole.starts,l243,x0.whole.arcs⟩:Fst),t246⟩:Chain) ((nth x0.a.ends k144 Tip.zero).state) ((k177:Nat):Int)) (fun v58=>grd (((nth v26.1 k210 Tip.zero).out).length+((nth (nth x0.ends (((nth v26.1 k210 Tip.zero).state).toNat) ([]:List Tip)) k247 Tip.zero).out).length≤9223372036854775807) (bnd (comp_chain_tipE (⟨x0.a,x0.b,x0.arcs,x0.ends,x0.seen,(⟨x0.tips.s,m240⟩:TwoM),(⟨x0.whole.states,x0.whole.starts,l243,x0.whole.arcs⟩:Fst),t246⟩:Chain) 1 (⟨v58,((nth v26.1 k210 Tip.zero).out++(nth (nth x0.ends (((nth v26.1 k210 Tip.zero).state).toNat) ([]:List Tip)) k247 Tip.zero).out)⟩:Tip)) (fun v65=>nxt (v65.tips.e,v65.whole.ends,v65.over,(k247+1)))))) (fin (nxt (m240,l243,t246,(k210+1))))
def comp_chain_stops_b3(v26:(List Tip)×Chain)(x0:Chain)(k144:Nat)(k177:Nat)(m203:FM Tip Unit)(l206:List Tip)(t209:Bool)(k210:Nat):Option (((FM Tip Unit)×(List Tip)×Bool×Nat)⊕(((FM Tip Unit)×(List Tip)×Bool×Nat)⊕(((FM Tip Unit)×(List Tip)×Bool×Nat)⊕(Chain)))):=
 iteO (decide (((k210:Nat):Int)<((v26.1.length:Nat):Int))) (grd (0≤((nth v26.1 k210 Tip.zero).state)∧((nth v26.1 k210 Tip.zero).state)<(x0.ends.length:Int)) (iter (fun q:(FM Tip Unit)×(List Tip)×Bool×Nat=>comp_chain_stops_b4 x0 v26 k210 k144 k177 q.1 q.2.1 q.2.2.1 q.2.2.2) (m203,l206,t209,0))) (fin (iteO t209 (fin (fin (some (⟨x0.a,x0.b,x0.arcs,x0.ends,x0.seen,(⟨x0.tips.s,m203⟩:TwoM),(⟨x0.whole.states,x0.whole.starts,l206,x0.whole.arcs⟩:Fst),t209⟩:Chain)))) (grd (k177+1≤9223372036854775807) (nxt (m203,l206,t209,(k177+1))))))
def comp_chain_stops_b2(x0:Chain)(k144:Nat)(m170:FM Tip Unit)(l173:List Tip)(t176:Bool)(k177:Nat):Option (((FM Tip Unit)×(List Tip)×Bool×Nat)⊕(((FM Tip Unit)×(List Tip)×Bool×Nat)⊕(Chain))):=
 iteO (decide (((k177:Nat):Int)<x0.b.states)) (bnd (comp_chain_ways (⟨x0.a,x0.b,x0.arcs,x0.ends,x0.seen,(⟨x0.tips.s,m170⟩:TwoM),(⟨x0.whole.states,x0.whole.starts,l173,x0.whole.arcs⟩:Fst),t176⟩:Chain) ((k177:Nat):Int) ((nth x0.a.ends k144 Tip.zero).out)) (fun v26=>iter (fun q:(FM Tip Unit)×(List Tip)×Bool×Nat=>comp_chain_stops_b3 v26 x0 k144 k177 q.1 q.2.1 q.2.2.1 q.2.2.2) (m170,l173,v26.2.over,0))) (fin (nxt (m170,l173,t176,(k144+1))))
def comp_chain_stops_b1(x0:Chain)(m137:FM Tip Unit)(l140:List Tip)(t143:Bool)(k144:Nat):Option (((FM Tip Unit)×(List Tip)×Bool×Nat)⊕(Chain)):=
 iteO (decide (((k144:Nat):Int)<((x0.a.ends.length:Nat):Int))) (iter (fun q:(FM Tip Unit)×(List Tip)×Bool×Nat=>comp_chain_stops_b2 x0 k144 q.1 q.2.1 q.2.2.1 q.2.2.2) (m137,l140,t143,0)) (fin (some (⟨x0.a,x0.b,x0.arcs,x0.ends,x0.seen,(⟨x0.tips.s,m137⟩:TwoM),(⟨x0.whole.states,x0.whole.starts,l140,x0.whole.arcs⟩:Fst),t143⟩:Chain)))
def comp_chain_stops(x0:Chain):Option (Chain):=
 iter (fun q:(FM Tip Unit)×(List Tip)×Bool×Nat=>comp_chain_stops_b1 x0 q.1 q.2.1 q.2.2.1 q.2.2.2) (x0.tips.e,x0.whole.ends,x0.over,0)
theorem comp_chain_stops_con{x0:Chain}(f0_3:RS σ 2 encTip (.slice a0_1 x0.a.starts.length c0_2) x0.a.starts)(f0_6:RS σ 2 encTip (.slice a0_4 x0.a.ends.length c0_5) x0.a.ends)(f0_9:RS σ 8 encArc (.slice a0_7 x0.a.arcs.length c0_8) x0.a.arcs)(f0_12:RS σ 2 encTip (.slice a0_10 x0.b.starts.length c0_11) x0.b.starts)(f0_15:RS σ 2 encTip (.slice a0_13 x0.b.ends.length c0_14) x0.b.ends)(f0_18:RS σ 8 encArc (.slice a0_16 x0.b.arcs.length c0_17) x0.b.arcs)(f0_21:RZ σ (pkSl 8 encArc encArc_len) (.slice a0_19 x0.arcs.length c0_20) x0.arcs)(f0_24:RZ σ (pkSl 2 encTip encTip_len) (.slice a0_22 x0.ends.length c0_23) x0.ends){r:Chain}(hh:comp_chain_stops x0=some r):
  Con Tryz.prog 24 #[loc b0_0 0] σ [Res.cells b0_0 #[.int .i64 x0.a.states,.slice a0_1 x0.a.starts.length c0_2,.slice a0_4 x0.a.ends.length c0_5,.slice a0_7 x0.a.arcs.length c0_8,.int .i64 x0.b.states,.slice a0_10 x0.b.starts.length c0_11,.slice a0_13 x0.b.ends.length c0_14,.slice a0_16 x0.b.arcs.length c0_17,.slice a0_19 x0.arcs.length c0_20,.slice a0_22 x0.ends.length c0_23,.map (some b0_25),.map (some b0_26),.map (some b0_27),.int .i64 x0.whole.states,.slice a0_28 x0.whole.starts.length c0_29,.slice a0_30 x0.whole.ends.length c0_31,.slice a0_32 x0.whole.arcs.length c0_33,.bool x0.over] Eb0,Res.mapB (fun x=>Value.agg (encArc x).toArray) unitV (some b0_25) x0.seen,Res.mapB (fun x=>Value.agg (encTip x).toArray) unitV (some b0_26) x0.tips.s,Res.mapB (fun x=>Value.agg (encTip x).toArray) unitV (some b0_27) x0.tips.e,Res.rowS 43 2 encTip (.slice a0_28 x0.whole.starts.length c0_29) x0.whole.starts,Res.rowS 43 2 encTip (.slice a0_30 x0.whole.ends.length c0_31) x0.whole.ends,Res.rowS 66 8 encArc (.slice a0_32 x0.whole.arcs.length c0_33) x0.whole.arcs] (fun v σ' H'=> ∃bo1 ao2 co3,v= .tuple #[]∧σ=σ'∧H'=[Res.cells b0_0 #[.int .i64 x0.a.states,.slice a0_1 x0.a.starts.length c0_2,.slice a0_4 x0.a.ends.length c0_5,.slice a0_7 x0.a.arcs.length c0_8,.int .i64 x0.b.states,.slice a0_10 x0.b.starts.length c0_11,.slice a0_13 x0.b.ends.length c0_14,.slice a0_16 x0.b.arcs.length c0_17,.slice a0_19 x0.arcs.length c0_20,.slice a0_22 x0.ends.length c0_23,.map (some b0_25),.map (some b0_26),.map (some bo1),.int .i64 x0.whole.states,.slice a0_28 x0.whole.starts.length c0_29,.slice ao2 r.whole.ends.length co3,.slice a0_32 x0.whole.arcs.length c0_33,.bool r.over] Eb0,Res.mapB (fun x=>Value.agg (encArc x).toArray) unitV (some b0_25) x0.seen,Res.mapB (fun x=>Value.agg (encTip x).toArray) unitV (some b0_26) x0.tips.s,Res.mapB (fun x=>Value.agg (encTip x).toArray) unitV (some bo1) r.tips.e,Res.rowS 43 2 encTip (.slice a0_28 x0.whole.starts.length c0_29) x0.whole.starts,Res.rowS 43 2 encTip (.slice ao2 r.whole.ends.length co3) r.whole.ends,Res.rowS 66 8 encArc (.slice a0_32 x0.whole.arcs.length c0_33) x0.whole.arcs]):=by
 dsimp only [comp_chain_stops]at hh
 have f0_3b:=f0_3.rv.big
 have f0_6b:=f0_6.rv.big
 have f0_9b:=f0_9.rv.big
 have f0_12b:=f0_12.rv.big
 have f0_15b:=f0_15.rv.big
 have f0_18b:=f0_18.rv.big
 have f0_21b:=f0_21.big
 have f0_24b:=f0_24.big
 refine Con.mk (n:=75) Tryz.func24 z z z (fun w0=> ?_)
 refine TC.a (TL.l z z (TL.w z (nilCheckLoc z z) (TL.w z (fieldLoc z fo75_0 z) (TL.w z (fieldLoc z fo25_2 z) (TL.w z (loadLoc z ag22 z (i:=0) z z) (TL.w z (lenC z underlying22 z) (TL.i z z (TL.en (TC.block (TC.loopG (α:=((FM Tip Unit)×(List Tip)×Bool×Nat)×(Nat×(Option Addr)×Nat)) (rgs [(3,2),(6,1),(8,1),(15,60)]) (fun g=>[(15,.int .i64 ((g.1.2.2.2:Nat):Int))]) (fun g=>[Res.cells b0_0 #[.int .i64 x0.a.states,.slice a0_1 x0.a.starts.length c0_2,.slice a0_4 x0.a.ends.length c0_5,.slice a0_7 x0.a.arcs.length c0_8,.int .i64 x0.b.states,.slice a0_10 x0.b.starts.length c0_11,.slice a0_13 x0.b.ends.length c0_14,.slice a0_16 x0.b.arcs.length c0_17,.slice a0_19 x0.arcs.length c0_20,.slice a0_22 x0.ends.length c0_23,.map (some b0_25),.map (some b0_26),.map (some g.2.1),.int .i64 x0.whole.states,.slice a0_28 x0.whole.starts.length c0_29,.slice g.2.2.1 g.1.2.1.length g.2.2.2,.slice a0_32 x0.whole.arcs.length c0_33,.bool g.1.2.2.1] Eb0,Res.mapB (fun x=>Value.agg (encArc x).toArray) unitV (some b0_25) x0.seen,Res.mapB (fun x=>Value.agg (encTip x).toArray) unitV (some b0_26) x0.tips.s,Res.mapB (fun x=>Value.agg (encTip x).toArray) unitV (some g.2.1) g.1.1,Res.rowS 43 2 encTip (.slice a0_28 x0.whole.starts.length c0_29) x0.whole.starts,Res.rowS 43 2 encTip (.slice g.2.2.1 g.1.2.1.length g.2.2.2) g.1.2.1,Res.rowS 66 8 encArc (.slice a0_32 x0.whole.arcs.length c0_33) x0.whole.arcs]) (fun g=>σ) (fun g=>iter (fun q:(FM Tip Unit)×(List Tip)×Bool×Nat=>comp_chain_stops_b1 x0 q.1 q.2.1 q.2.2.1 q.2.2.2) g.1=some r) (fun g=>rounds (fun q:(FM Tip Unit)×(List Tip)×Bool×Nat=>comp_chain_stops_b1 x0 q.1 q.2.1 q.2.2.1 q.2.2.2) g.1) ((x0.tips.e,x0.whole.ends,x0.over,0),(b0_27,a0_30,c0_31)) (Sub.f [6,6,6,6,6,6,6] 7) z (by repeat (first|exact trivial|refine ⟨z,?_⟩)) hh (fun g1 j1 hg1=> ?_)))))))))))
 obtain ⟨⟨m137,l140,t143,k144⟩,⟨b138,a141,c142⟩⟩:=g1
 have hh:=hg1;clear hg1
 try dsimp only
 obtain ⟨z1,hh,hR1⟩:=iter_e hh
 dsimp only [comp_chain_stops_b1]at hh
 refine TC.isSl (i:=4) z (fun _ hb145 _=> ?_)
 refine TC.isSl (i:=5) z (fun _ hb146 _=> ?_)
 refine TC.isSl (i:=6) z (fun _ hb147 _=> ?_)
 refine TC.a (TL.w z (OpVal.lss z z z) (TL.en (TC.seq (TC.cD z hh (fun h148 hh=> ?_) (fun h148 hh=> ?_)))))
 ·refine TC.skip (S.n (TC.seq (TC.block (TC.a (TL.w z (indexN z underlying22 sz43 z z f0_6.rv.sl (by omega)) (TL.w z (loadSA Tip.zero z ag43 sz43 z f0_6 (by omega) (by omega)) (TL.op z (OpOk.alloc z ze43 z z (fun b149=> ?_)))))))))
  refine TL.op z (storeAll z sz43 z z z z z z ?_)
  refine TL.en (TC.a (TL.l z z (TL.w z (nilCheckLoc z z) (TL.w z (fieldLoc z fo75_1 z) (TL.w z (fieldLoc z fo25_0 z) (TL.w z (loadLoc z ag3 z (i:=1) z z) (TL.i z z (TL.en (TC.block (TC.loopG (α:=((FM Tip Unit)×(List Tip)×Bool×Nat)×(Nat×(Option Addr)×Nat)) (rgs [(4,1),(6,1),(8,1),(24,50)]) (fun g=>[(24,.int .i64 ((g.1.2.2.2:Nat):Int))]) (fun g=>[Res.cells b0_0 #[.int .i64 x0.a.states,.slice a0_1 x0.a.starts.length c0_2,.slice a0_4 x0.a.ends.length c0_5,.slice a0_7 x0.a.arcs.length c0_8,.int .i64 x0.b.states,.slice a0_10 x0.b.starts.length c0_11,.slice a0_13 x0.b.ends.length c0_14,.slice a0_16 x0.b.arcs.length c0_17,.slice a0_19 x0.arcs.length c0_20,.slice a0_22 x0.ends.length c0_23,.map (some b0_25),.map (some b0_26),.map (some g.2.1),.int .i64 x0.whole.states,.slice a0_28 x0.whole.starts.length c0_29,.slice g.2.2.1 g.1.2.1.length g.2.2.2,.slice a0_32 x0.whole.arcs.length c0_33,.bool g.1.2.2.1] Eb0,Res.mapB (fun x=>Value.agg (encArc x).toArray) unitV (some b0_25) x0.seen,Res.mapB (fun x=>Value.agg (encTip x).toArray) unitV (some b0_26) x0.tips.s,Res.mapB (fun x=>Value.agg (encTip x).toArray) unitV (some g.2.1) g.1.1,Res.rowS 43 2 encTip (.slice a0_28 x0.whole.starts.length c0_29) x0.whole.starts,Res.rowS 43 2 encTip (.slice g.2.2.1 g.1.2.1.length g.2.2.2) g.1.2.1,Res.rowS 66 8 encArc (.slice a0_32 x0.whole.arcs.length c0_33) x0.whole.arcs,Res.cells b149 #[.int .i64 ((nth x0.a.ends k144 Tip.zero).state),.string (bs ((nth x0.a.ends k144 Tip.zero).out))] 43]) (fun g=>σ) (fun g=>iter (fun q:(FM Tip Unit)×(List Tip)×Bool×Nat=>comp_chain_stops_b2 x0 k144 q.1 q.2.1 q.2.2.1 q.2.2.2) g.1=some z1) (fun g=>rounds (fun q:(FM Tip Unit)×(List Tip)×Bool×Nat=>comp_chain_stops_b2 x0 k144 q.1 q.2.1 q.2.2.1 q.2.2.2) g.1) ((m137,l140,t143,0),(b138,a141,c142)) (Sub.f [7,7,7,7,7,7,7] 8) z (by repeat (first|exact trivial|refine ⟨z,?_⟩)) hh (fun g2 j2 hg2=> ?_)))))))))))
  obtain ⟨⟨m170,l173,t176,k177⟩,⟨b171,a174,c175⟩⟩:=g2
  have hh:=hg2;clear hg2
  try dsimp only
  obtain ⟨z2,hh,hR2⟩:=iter_e hh
  dsimp only [comp_chain_stops_b2]at hh
  refine TC.isSl (i:=4) z (fun _ hb178 _=> ?_)
  refine TC.isSl (i:=5) z (fun _ hb179 _=> ?_)
  refine TC.isSl (i:=6) z (fun _ hb180 _=> ?_)
  refine TC.a (TL.w z (OpVal.lss z z z) (TL.en (TC.seq (TC.cD z hh (fun h181 hh=> ?_) (fun h181 hh=> ?_)))))
  ·refine TC.skip (S.n (TC.seq (TC.block (TC.a (TL.i z z (TL.i z z (TL.en (TC.seq (TC.a (TL.l z z (TL.i z z (TL.w z (fieldLoc z fo43_1 z) (TL.w z (loadLoc z ag9 z (i:=7) z z) (TL.front 6 z z (TL.front 6 z z ?_)))))))))))))))
   refine TL.front 6 z z (TL.front 6 z z (TL.front 6 z z (TL.front 6 z z (TL.front 6 z z ?_))))
   obtain ⟨v26,u26,hh⟩:=bnd_e hh
   refine TL.op z (OpOk.call (comp_chain_ways_con (x0:=(⟨x0.a,x0.b,x0.arcs,x0.ends,x0.seen,(⟨x0.tips.s,m170⟩:TwoM),(⟨x0.whole.states,x0.whole.starts,l173,x0.whole.arcs⟩:Fst),t176⟩:Chain)) f0_3 f0_6 f0_9 f0_12 f0_15 f0_18 f0_21 f0_24 u26) z z pf52 z z z z ?_)
   rintro _ _ _ hle182 ⟨a182_1,c182_2,rfl,rfl,rfl⟩
   refine TL.w z (lenC z underlying22 z) (TL.i z z (TL.en (TC.block (TC.loopG (α:=((FM Tip Unit)×(List Tip)×Bool×Nat)×(Nat×(Option Addr)×Nat)) (rgs [(6,1),(8,1),(33,36)]) (fun g=>[(33,.int .i64 ((g.1.2.2.2:Nat):Int))]) (fun g=>[Res.cells b0_0 #[.int .i64 x0.a.states,.slice a0_1 x0.a.starts.length c0_2,.slice a0_4 x0.a.ends.length c0_5,.slice a0_7 x0.a.arcs.length c0_8,.int .i64 x0.b.states,.slice a0_10 x0.b.starts.length c0_11,.slice a0_13 x0.b.ends.length c0_14,.slice a0_16 x0.b.arcs.length c0_17,.slice a0_19 x0.arcs.length c0_20,.slice a0_22 x0.ends.length c0_23,.map (some b0_25),.map (some b0_26),.map (some g.2.1),.int .i64 x0.whole.states,.slice a0_28 x0.whole.starts.length c0_29,.slice g.2.2.1 g.1.2.1.length g.2.2.2,.slice a0_32 x0.whole.arcs.length c0_33,.bool g.1.2.2.1] Eb0,Res.mapB (fun x=>Value.agg (encArc x).toArray) unitV (some b0_25) x0.seen,Res.mapB (fun x=>Value.agg (encTip x).toArray) unitV (some b0_26) x0.tips.s,Res.mapB (fun x=>Value.agg (encTip x).toArray) unitV (some g.2.1) g.1.1,Res.rowS 43 2 encTip (.slice a0_28 x0.whole.starts.length c0_29) x0.whole.starts,Res.rowS 43 2 encTip (.slice g.2.2.1 g.1.2.1.length g.2.2.2) g.1.2.1,Res.rowS 66 8 encArc (.slice a0_32 x0.whole.arcs.length c0_33) x0.whole.arcs,Res.cells b149 #[.int .i64 ((nth x0.a.ends k144 Tip.zero).state),.string (bs ((nth x0.a.ends k144 Tip.zero).out))] 43,Res.rowS 43 2 encTip (.slice a182_1 v26.1.length c182_2) v26.1]) (fun g=>σ) (fun g=>iter (fun q:(FM Tip Unit)×(List Tip)×Bool×Nat=>comp_chain_stops_b3 v26 x0 k144 k177 q.1 q.2.1 q.2.2.1 q.2.2.2) g.1=some z2) (fun g=>rounds (fun q:(FM Tip Unit)×(List Tip)×Bool×Nat=>comp_chain_stops_b3 v26 x0 k144 k177 q.1 q.2.1 q.2.2.1 q.2.2.2) g.1) ((m170,l173,v26.2.over,0),(b171,a174,c175)) (Sub.f [8,8,8,8,8,8,8,8] 9) z (by repeat (first|exact trivial|refine ⟨z,?_⟩)) hh (fun g3 j3 hg3=> ?_)))))
   obtain ⟨⟨m203,l206,t209,k210⟩,⟨b204,a207,c208⟩⟩:=g3
   have hh:=hg3;clear hg3
   try dsimp only
   obtain ⟨z3,hh,hR3⟩:=iter_e hh
   dsimp only [comp_chain_stops_b3]at hh
   refine TC.isSl (i:=4) z (fun _ hb211 _=> ?_)
   refine TC.isSl (i:=5) z (fun _ hb212 _=> ?_)
   refine TC.isSl (i:=6) z (fun _ hb213 _=> ?_)
   refine TC.isSl (i:=8) z (fun _ hb214 _=> ?_)
   refine TC.a (TL.w z (OpVal.lss z z z) (TL.en (TC.seq (TC.cD z hh (fun h215 hh=> ?_) (fun h215 hh=> ?_)))))
   ·refine TC.skip (S.n (TC.seq (TC.block (TC.a (TL.isSl (i:=8) z (fun hs216 _ _=> ?_))))))
    refine TL.w z (indexN z underlying22 sz43 z z hs216 (by omega)) (TL.w z (loadOA Tip.zero z ag43 sz43 z (q:=8) z encTip_len (by omega) (by omega)) (TL.op z (OpOk.alloc z ze43 z z (fun b217=> ?_))))
    refine TL.op z (storeAll z sz43 z z z z z z ?_)
    refine TL.en (TC.seq ?_)
    have u40:=grd_c hh
    replace hh:=grd_t hh
    refine TC.draw [] (by kernel_rfl) (TA.a 0 z (moveLoc (.inl z) z) z (TA.a 1 z (nilCheckLoc z z) z (TA.a 2 z (fieldLoc z fo75_3 z) z (TA.b 3 z (loadLoc z ag70 z (i:=1) z z) z (TA.a 4 z (fieldLoc z fo43_0 z) z (TA.b 5 z (loadLoc z ag3 z (i:=0) z z) z (TA.b 6 z (OpVal.index z underlying70 sz22 z z f0_24.isSl u40.1 u40.2) z ?_)))))))
    obtain ⟨p220,hk220,hg220⟩:=RZ.seg f0_24 (((nth v26.1 k210 Tip.zero).state).toNat) (by omega)
    replace hk220:RS _ 2 encTip (.slice p220.1 (nth x0.ends (((nth v26.1 k210 Tip.zero).state).toNat) ([]:List Tip)).length p220.2) (nth x0.ends (((nth v26.1 k210 Tip.zero).state).toNat) ([]:List Tip)):=hk220
    have hk220b:=hk220.rv.big
    refine TA.b 7 z (OpVal.of (loadSeg0 z ag22 z hg220 z) (v':= .slice p220.1 ((nth x0.ends (((nth v26.1 k210 Tip.zero).state).toNat) ([]:List Tip)).length) p220.2) z) z (TA.b 8 z (lenC z underlying22 z) z (TA.a 9 z (moveI (.inl z) z) z (TA.dn (S.n (TC.block (TC.loopG (α:=((FM Tip Unit)×(List Tip)×Bool×Nat)×(Nat×(Option Addr)×Nat)) (rgs [(8,1),(46,22)]) (fun g=>[(46,.int .i64 ((g.1.2.2.2:Nat):Int))]) (fun g=>[Res.cells b0_0 #[.int .i64 x0.a.states,.slice a0_1 x0.a.starts.length c0_2,.slice a0_4 x0.a.ends.length c0_5,.slice a0_7 x0.a.arcs.length c0_8,.int .i64 x0.b.states,.slice a0_10 x0.b.starts.length c0_11,.slice a0_13 x0.b.ends.length c0_14,.slice a0_16 x0.b.arcs.length c0_17,.slice a0_19 x0.arcs.length c0_20,.slice a0_22 x0.ends.length c0_23,.map (some b0_25),.map (some b0_26),.map (some g.2.1),.int .i64 x0.whole.states,.slice a0_28 x0.whole.starts.length c0_29,.slice g.2.2.1 g.1.2.1.length g.2.2.2,.slice a0_32 x0.whole.arcs.length c0_33,.bool g.1.2.2.1] Eb0,Res.mapB (fun x=>Value.agg (encArc x).toArray) unitV (some b0_25) x0.seen,Res.mapB (fun x=>Value.agg (encTip x).toArray) unitV (some b0_26) x0.tips.s,Res.mapB (fun x=>Value.agg (encTip x).toArray) unitV (some g.2.1) g.1.1,Res.rowS 43 2 encTip (.slice a0_28 x0.whole.starts.length c0_29) x0.whole.starts,Res.rowS 43 2 encTip (.slice g.2.2.1 g.1.2.1.length g.2.2.2) g.1.2.1,Res.rowS 66 8 encArc (.slice a0_32 x0.whole.arcs.length c0_33) x0.whole.arcs,Res.cells b149 #[.int .i64 ((nth x0.a.ends k144 Tip.zero).state),.string (bs ((nth x0.a.ends k144 Tip.zero).out))] 43,Res.cells b217 #[.int .i64 ((nth v26.1 k210 Tip.zero).state),.string (bs ((nth v26.1 k210 Tip.zero).out))] 43,Res.rowS 43 2 encTip (.slice a182_1 v26.1.length c182_2) v26.1]) (fun g=>σ) (fun g=>iter (fun q:(FM Tip Unit)×(List Tip)×Bool×Nat=>comp_chain_stops_b4 x0 v26 k210 k144 k177 q.1 q.2.1 q.2.2.1 q.2.2.2) g.1=some z3) (fun g=>rounds (fun q:(FM Tip Unit)×(List Tip)×Bool×Nat=>comp_chain_stops_b4 x0 v26 k210 k144 k177 q.1 q.2.1 q.2.2.1 q.2.2.2) g.1) ((m203,l206,t209,0),(b204,a207,c208)) (Sub.f [9,1,9,9,9,9,9,9,9,9] 10) z (by repeat (first|exact trivial|refine ⟨z,?_⟩)) hh (fun g4 j4 hg4=> ?_)))))))
    obtain ⟨⟨m240,l243,t246,k247⟩,⟨b241,a244,c245⟩⟩:=g4
    have hh:=hg4;clear hg4
    try dsimp only
    obtain ⟨z4,hh,hR4⟩:=iter_e hh
    dsimp only [comp_chain_stops_b4]at hh
    refine TC.isSl (i:=4) z (fun _ hb248 _=> ?_)
    refine TC.isSl (i:=5) z (fun _ hb249 _=> ?_)
    refine TC.isSl (i:=6) z (fun _ hb250 _=> ?_)
    refine TC.isSl (i:=9) z (fun _ hb251 _=> ?_)
    refine TC.a (TL.w z (OpVal.lss z z z) (TL.en (TC.seq (TC.cD z hh (fun h252 hh=> ?_) (fun h252 hh=> ?_)))))
    ·refine TC.skip (S.n (TC.seq (TC.block (TC.a (TL.w z (indexN z underlying22 sz43 z z hk220.rv.sl (by omega)) (TL.w z (loadSA Tip.zero z ag43 sz43 z hk220 (by omega) (by omega)) (TL.op z (OpOk.alloc z ze43 z z (fun b253=> ?_)))))))))
     refine TL.op z (storeAll z sz43 z z z z z z ?_)
     refine TL.en ?_
     obtain ⟨v58,u58,hh⟩:=bnd_e hh
     have u63:=grd_c hh
     replace hh:=grd_t hh
     obtain ⟨v65,u65,hh⟩:=bnd_e hh
     refine TC.drawR (Hr:=[Res.cells b253 #[.int .i64 ((nth (nth x0.ends (((nth v26.1 k210 Tip.zero).state).toNat) ([]:List Tip)) k247 Tip.zero).state),.string (bs ((nth (nth x0.ends (((nth v26.1 k210 Tip.zero).state).toNat) ([]:List Tip)) k247 Tip.zero).out))] 43,Res.mapB (fun x=>Value.agg (encArc x).toArray) unitV (some b0_25) x0.seen,Res.mapB (fun x=>Value.agg (encTip x).toArray) unitV (some b0_26) x0.tips.s,Res.rowS 43 2 encTip (.slice a0_28 x0.whole.starts.length c0_29) x0.whole.starts,Res.rowS 66 8 encArc (.slice a0_32 x0.whole.arcs.length c0_33) x0.whole.arcs,Res.cells b149 #[.int .i64 ((nth x0.a.ends k144 Tip.zero).state),.string (bs ((nth x0.a.ends k144 Tip.zero).out))] 43,Res.cells b217 #[.int .i64 ((nth v26.1 k210 Tip.zero).state),.string (bs ((nth v26.1 k210 Tip.zero).out))] 43,Res.rowS 43 2 encTip (.slice a182_1 v26.1.length c182_2) v26.1]) (fun r hr=>mem_pick [0,2,3,5,7,8,9,10] z hr) [] (by kernel_rfl) (TA.a 0 z (moveLoc (.inl z) z) z (TA.a 1 z (moveLoc (.inl z) z) z (TA.a 2 z (nilCheckLoc z z) z (TA.a 3 z (fieldLoc z fo75_6 z) z (TA.a 4 z (fieldLoc z fo25_2 z) z (TA.a 5 z (moveLoc (.inl z) z) z (TA.a 6 z (fieldLoc z fo43_0 z) z (TA.b 7 z (loadLoc z ag3 z (i:=5) z z) z (TA.a 8 z (moveI (.inl z) z) z (TA.a 10 z (fieldLoc z fo43_1 z) z (TA.b 11 z (loadLoc z ag9 z (i:=6) z z) z (TA.a 12 z (fieldLoc z fo43_1 z) z (TA.b 13 z (loadLoc z ag9 z (i:=0) z z) z (TA.a 14 z (catBs z z z u63) z (TA.front 7 z z ?_)))))))))))))))
     refine TA.front 7 z z (TA.front 7 z z (TA.front 7 z z (TA.front 7 z z (TA.front 7 z z (TA.front 7 z z (TA.ac 9 z (OpOk.call (comp_chain_at_con (x0:=(⟨x0.a,x0.b,x0.arcs,x0.ends,x0.seen,(⟨x0.tips.s,m240⟩:TwoM),(⟨x0.whole.states,x0.whole.starts,l243,x0.whole.arcs⟩:Fst),t246⟩:Chain)) f0_3 f0_6 f0_9 f0_12 f0_15 f0_18 f0_21 f0_24 u58) z z pf54 z z z z ?_)))))))
     rintro _ _ _ hle259 ⟨rfl,rfl,rfl⟩
     refine ⟨(fun w h=>sees_of (Store.le.refl _) (fun r hr=>mem_pick [7,1,2,4,6,8,9,10] z hr) w h),?_⟩
     refine TA.a 15 z (buildL z pl43 ze43 z) z (TA.front 6 z z (TA.front 6 z z (TA.front 6 z z (TA.front 6 z z (TA.front 6 z z (TA.front 6 z z (TA.front 6 z z (TA.ac 16 z (OpOk.call (comp_chain_tipE_con (x0:=(⟨x0.a,x0.b,x0.arcs,x0.ends,x0.seen,(⟨x0.tips.s,m240⟩:TwoM),(⟨x0.whole.states,x0.whole.starts,l243,x0.whole.arcs⟩:Fst),t246⟩:Chain)) f0_3 f0_6 f0_9 f0_12 f0_15 f0_18 f0_21 f0_24 u65) z z pf53 z z z z ?_)))))))))
     rintro _ _ _ hle260 ⟨b260_1,a260_2,c260_3,rfl,rfl,rfl⟩
     refine ⟨(fun w h=>sees_of (Store.le.refl _) (fun r hr=>mem_pick [7,1,2,4,6,8,9,10] z hr) w h),?_⟩
     refine TA.dn (B.n (S.n (TC.region (TL.w z (OpVal.succ z z z (by omega)) (TL.i z z (TL.en ?_))))))
     obtain ⟨hh,hlt263⟩:=nxt_x hR4 hh
     exact lf ((v65.tips.e,v65.whole.ends,v65.over,(k247+1)),(b260_1,a260_2,c260_3)) hlt263 hh (Sub.f [10,10,10,9,9,9,9,9,9,9] 10)
    refine TC.exit (S.x (S.x ?_))
    replace hh:=fin_x hR4 hh
    refine TC.exitHere (B.n (S.n (TC.region (TL.w z (OpVal.succ z z z (by omega)) (TL.i z z (TL.en ?_))))))
    obtain ⟨hh,hlt264⟩:=nxt_x hR3 hh
    exact lf ((m240,l243,t246,(k210+1)),(b241,a244,c245)) hlt264 hh (Sub.f [9,8,8,8,8,8,8,8,8] 9)
   refine TC.exit (S.x (S.x ?_))
   replace hh:=fin_x hR3 hh
   refine TC.exitHere (S.n (TC.a (TL.l z z (TL.w z (nilCheckLoc z z) (TL.w z (fieldLoc z fo75_7 z) (TL.w z (loadLoc z ag4 z (i:=0) z z) (TL.en (TC.cB z hh (fun h265 hh=> ?_) (fun h265 hh=> ?_)))))))))
   ·refine TC.ofSub (Sub.f [6,6,6,6,6,6,6] 7) (TC.ret (B.r (S.r (S.r ?_))))
    replace hh:=fin_x hR2 hh
    refine B.r (B.r (S.r (S.r ?_)))
    replace hh:=fin_x hR1 hh
    refine B.r ?_
    obtain rfl:=so hh
    exact ro [Res.cells b0_0 #[.int .i64 x0.a.states,.slice a0_1 x0.a.starts.length c0_2,.slice a0_4 x0.a.ends.length c0_5,.slice a0_7 x0.a.arcs.length c0_8,.int .i64 x0.b.states,.slice a0_10 x0.b.starts.length c0_11,.slice a0_13 x0.b.ends.length c0_14,.slice a0_16 x0.b.arcs.length c0_17,.slice a0_19 x0.arcs.length c0_20,.slice a0_22 x0.ends.length c0_23,.map (some b0_25),.map (some b0_26),.map (some b204),.int .i64 x0.whole.states,.slice a0_28 x0.whole.starts.length c0_29,.slice a207 l206.length c208,.slice a0_32 x0.whole.arcs.length c0_33,.bool t209] Eb0,Res.mapB (fun x=>Value.agg (encArc x).toArray) unitV (some b0_25) x0.seen,Res.mapB (fun x=>Value.agg (encTip x).toArray) unitV (some b0_26) x0.tips.s,Res.mapB (fun x=>Value.agg (encTip x).toArray) unitV (some b204) m203,Res.rowS 43 2 encTip (.slice a0_28 x0.whole.starts.length c0_29) x0.whole.starts,Res.rowS 43 2 encTip (.slice a207 l206.length c208) l206,Res.rowS 66 8 encArc (.slice a0_32 x0.whole.arcs.length c0_33) x0.whole.arcs] z RVs.nil ⟨b204,a207,c208,z,z,z⟩
   refine TC.skip (B.n (S.n (TC.region ?_)))
   have u74:=grd_c hh
   replace hh:=grd_t hh
   refine TL.w z (OpVal.succ z z z (by omega)) (TL.i z z (TL.en ?_))
   obtain ⟨hh,hlt266⟩:=nxt_x hR2 hh
   exact lf ((m203,l206,t209,(k177+1)),(b204,a207,c208)) hlt266 hh (Sub.f [7,7,7,7,7,7,7,7] 8)
  refine TC.exit (S.x (S.x ?_))
  replace hh:=fin_x hR2 hh
  refine TC.exitHere (B.n (S.n (TC.region (TL.w z (OpVal.succ z z z (by omega)) (TL.i z z (TL.en ?_))))))
  obtain ⟨hh,hlt267⟩:=nxt_x hR1 hh
  exact lf ((m170,l173,t176,(k144+1)),(b171,a174,c175)) hlt267 hh (Sub.f [6,6,6,6,6,6,6] 7)
 refine TC.exit (S.x (S.x ?_))
 replace hh:=fin_x hR1 hh
 refine TC.exitHere ?_
 obtain rfl:=so hh
 exact RetOk.mk' (rs:=[]) [Res.cells b0_0 #[.int .i64 x0.a.states,.slice a0_1 x0.a.starts.length c0_2,.slice a0_4 x0.a.ends.length c0_5,.slice a0_7 x0.a.arcs.length c0_8,.int .i64 x0.b.states,.slice a0_10 x0.b.starts.length c0_11,.slice a0_13 x0.b.ends.length c0_14,.slice a0_16 x0.b.arcs.length c0_17,.slice a0_19 x0.arcs.length c0_20,.slice a0_22 x0.ends.length c0_23,.map (some b0_25),.map (some b0_26),.map (some b138),.int .i64 x0.whole.states,.slice a0_28 x0.whole.starts.length c0_29,.slice a141 l140.length c142,.slice a0_32 x0.whole.arcs.length c0_33,.bool t143] Eb0,Res.mapB (fun x=>Value.agg (encArc x).toArray) unitV (some b0_25) x0.seen,Res.mapB (fun x=>Value.agg (encTip x).toArray) unitV (some b0_26) x0.tips.s,Res.mapB (fun x=>Value.agg (encTip x).toArray) unitV (some b138) m137,Res.rowS 43 2 encTip (.slice a0_28 x0.whole.starts.length c0_29) x0.whole.starts,Res.rowS 43 2 encTip (.slice a141 l140.length c142) l140,Res.rowS 66 8 encArc (.slice a0_32 x0.whole.arcs.length c0_33) x0.whole.arcs] z (.inr z) RVs.nil (List.sublist_append_left _ _) ⟨b138,a141,c142,z,z,z⟩
def comp_chain_steps_j2(k265:Nat)(m272:FM Arc Unit)(l275:List Arc)(t278:Bool):Option (((FM Arc Unit)×(List Arc)×Bool×Nat)⊕(((FM Arc Unit)×(List Arc)×Bool×Nat)⊕(((FM Arc Unit)×(List Arc)×Bool×Nat)⊕(((FM Arc Unit)×(List Arc)×Bool×Nat)⊕(Chain))))):=
 nxt (m272,l275,t278,(k265+1))
def comp_chain_steps_j1(k211:Nat)(m218:FM Arc Unit)(l221:List Arc)(t224:Bool):Option (((FM Arc Unit)×(List Arc)×Bool×Nat)⊕(((FM Arc Unit)×(List Arc)×Bool×Nat)⊕(((FM Arc Unit)×(List Arc)×Bool×Nat)⊕(Chain)))):=
 nxt (m218,l221,t224,(k211+1))
def comp_chain_steps_b4(x0:Chain)(v32:(List Tip)×Chain)(k211:Nat)(k144:Nat)(v26:Int)(m258:FM Arc Unit)(l261:List Arc)(t264:Bool)(k265:Nat):Option (((FM Arc Unit)×(List Arc)×Bool×Nat)⊕(((FM Arc Unit)×(List Arc)×Bool×Nat)⊕(((FM Arc Unit)×(List Arc)×Bool×Nat)⊕(((FM Arc Unit)×(List Arc)×Bool×Nat)⊕(Chain))))):=
 iteO (decide (((k265:Nat):Int)<(((nth x0.arcs (((nth v32.1 k211 Tip.zero).state).toNat) ([]:List Arc)).length:Nat):Int))) (bnd (Fi_ ((nth x0.a.arcs k144 Arc.zero).set) ((nth (nth x0.arcs (((nth v32.1 k211 Tip.zero).state).toNat) ([]:List Arc)) k265 Arc.zero).set)) (fun v76=>iteO (decide (v76≠BSet.zero)) (bnd (comp_chain_at (⟨x0.a,x0.b,x0.arcs,x0.ends,m258,x0.tips,(⟨x0.whole.states,x0.whole.starts,x0.whole.ends,l261⟩:Fst),t264⟩:Chain) ((nth x0.a.arcs k144 Arc.zero).to) ((nth (nth x0.arcs (((nth v32.1 k211 Tip.zero).state).toNat) ([]:List Arc)) k265 Arc.zero).to)) (fun v89=>grd (((nth v32.1 k211 Tip.zero).out).length+((nth (nth x0.arcs (((nth v32.1 k211 Tip.zero).state).toNat) ([]:List Arc)) k265 Arc.zero).out).length≤9223372036854775807) (bnd (comp_chain_arc (⟨x0.a,x0.b,x0.arcs,x0.ends,m258,x0.tips,(⟨x0.whole.states,x0.whole.starts,x0.whole.ends,l261⟩:Fst),t264⟩:Chain) (⟨v26,v89,v76,((nth v32.1 k211 Tip.zero).out++(nth (nth x0.arcs (((nth v32.1 k211 Tip.zero).state).toNat) ([]:List Arc)) k265 Arc.zero).out),(nth (nth x0.arcs (((nth v32.1 k211 Tip.zero).state).toNat) ([]:List Arc)) k265 Arc.zero).copy⟩:Arc)) (fun v99=>comp_chain_steps_j2 k265 v99.seen v99.whole.arcs v99.over)))) (comp_chain_steps_j2 k265 m258 l261 t264))) (fin (comp_chain_steps_j1 k211 m258 l261 t264))
def comp_chain_steps_b3(v32:(List Tip)×Chain)(x0:Chain)(k144:Nat)(v26:Int)(k177:Nat)(m204:FM Arc Unit)(l207:List Arc)(t210:Bool)(k211:Nat):Option (((FM Arc Unit)×(List Arc)×Bool×Nat)⊕(((FM Arc Unit)×(List Arc)×Bool×Nat)⊕(((FM Arc Unit)×(List Arc)×Bool×Nat)⊕(Chain)))):=
 iteO (decide (((k211:Nat):Int)<((v32.1.length:Nat):Int))) (iteO (!((nth x0.a.arcs k144 Arc.zero).copy)) (bnd (comp_chain_at (⟨x0.a,x0.b,x0.arcs,x0.ends,m204,x0.tips,(⟨x0.whole.states,x0.whole.starts,x0.whole.ends,l207⟩:Fst),t210⟩:Chain) ((nth x0.a.arcs k144 Arc.zero).to) ((nth v32.1 k211 Tip.zero).state)) (fun v50=>bnd (comp_chain_arc (⟨x0.a,x0.b,x0.arcs,x0.ends,m204,x0.tips,(⟨x0.whole.states,x0.whole.starts,x0.whole.ends,l207⟩:Fst),t210⟩:Chain) (⟨v26,v50,(nth x0.a.arcs k144 Arc.zero).set,(nth v32.1 k211 Tip.zero).out,false⟩:Arc)) (fun v56=>comp_chain_steps_j1 k211 v56.seen v56.whole.arcs v56.over))) (grd (0≤((nth v32.1 k211 Tip.zero).state)∧((nth v32.1 k211 Tip.zero).state)<(x0.arcs.length:Int)) (iter (fun q:(FM Arc Unit)×(List Arc)×Bool×Nat=>comp_chain_steps_b4 x0 v32 k211 k144 v26 q.1 q.2.1 q.2.2.1 q.2.2.2) (m204,l207,t210,0)))) (fin (iteO t210 (fin (fin (some (⟨x0.a,x0.b,x0.arcs,x0.ends,m204,x0.tips,(⟨x0.whole.states,x0.whole.starts,x0.whole.ends,l207⟩:Fst),t210⟩:Chain)))) (grd (k177+1≤9223372036854775807) (nxt (m204,l207,t210,(k177+1))))))
def comp_chain_steps_b2(x0:Chain)(k144:Nat)(m170:FM Arc Unit)(l173:List Arc)(t176:Bool)(k177:Nat):Option (((FM Arc Unit)×(List Arc)×Bool×Nat)⊕(((FM Arc Unit)×(List Arc)×Bool×Nat)⊕(Chain))):=
 iteO (decide (((k177:Nat):Int)<x0.b.states)) (bnd (comp_chain_at (⟨x0.a,x0.b,x0.arcs,x0.ends,m170,x0.tips,(⟨x0.whole.states,x0.whole.starts,x0.whole.ends,l173⟩:Fst),t176⟩:Chain) ((nth x0.a.arcs k144 Arc.zero).frm) ((k177:Nat):Int)) (fun v26=>bnd (comp_chain_ways (⟨x0.a,x0.b,x0.arcs,x0.ends,m170,x0.tips,(⟨x0.whole.states,x0.whole.starts,x0.whole.ends,l173⟩:Fst),t176⟩:Chain) ((k177:Nat):Int) ((nth x0.a.arcs k144 Arc.zero).out)) (fun v32=>iter (fun q:(FM Arc Unit)×(List Arc)×Bool×Nat=>comp_chain_steps_b3 v32 x0 k144 v26 k177 q.1 q.2.1 q.2.2.1 q.2.2.2) (m170,l173,v32.2.over,0)))) (fin (nxt (m170,l173,t176,(k144+1))))
def comp_chain_steps_b1(x0:Chain)(m137:FM Arc Unit)(l140:List Arc)(t143:Bool)(k144:Nat):Option (((FM Arc Unit)×(List Arc)×Bool×Nat)⊕(Chain)):=
 iteO (decide (((k144:Nat):Int)<((x0.a.arcs.length:Nat):Int))) (iter (fun q:(FM Arc Unit)×(List Arc)×Bool×Nat=>comp_chain_steps_b2 x0 k144 q.1 q.2.1 q.2.2.1 q.2.2.2) (m137,l140,t143,0)) (fin (some (⟨x0.a,x0.b,x0.arcs,x0.ends,m137,x0.tips,(⟨x0.whole.states,x0.whole.starts,x0.whole.ends,l140⟩:Fst),t143⟩:Chain)))
def comp_chain_steps(x0:Chain):Option (Chain):=
 iter (fun q:(FM Arc Unit)×(List Arc)×Bool×Nat=>comp_chain_steps_b1 x0 q.1 q.2.1 q.2.2.1 q.2.2.2) (x0.seen,x0.whole.arcs,x0.over,0)
theorem comp_chain_steps_con {σ : Store} {x0 : Chain} {b0_0 : Nat} {Eb0 : Nat} {a0_1 : Option Addr} {c0_2 : Nat} {a0_4 : Option Addr} {c0_5 : Nat} {a0_7 : Option Addr} {c0_8 : Nat} {a0_10 : Option Addr} {c0_11 : Nat} {a0_13 : Option Addr} {c0_14 : Nat} {a0_16 : Option Addr} {c0_17 : Nat} {a0_19 : Option Addr} {c0_20 : Nat} {a0_22 : Option Addr} {c0_23 : Nat} {b0_25 : Nat} {b0_26 : Nat} {b0_27 : Nat} {a0_28 : Option Addr} {c0_29 : Nat} {a0_30 : Option Addr} {c0_31 : Nat} {a0_32 : Option Addr} {c0_33 : Nat} (f0_3 : RS σ 2 encTip (.slice a0_1 x0.a.starts.length c0_2) x0.a.starts) (f0_6 : RS σ 2 encTip (.slice a0_4 x0.a.ends.length c0_5) x0.a.ends) (f0_9 : RS σ 8 encArc (.slice a0_7 x0.a.arcs.length c0_8) x0.a.arcs) (f0_12 : RS σ 2 encTip (.slice a0_10 x0.b.starts.length c0_11) x0.b.starts) (f0_15 : RS σ 2 encTip (.slice a0_13 x0.b.ends.length c0_14) x0.b.ends) (f0_18 : RS σ 8 encArc (.slice a0_16 x0.b.arcs.length c0_17) x0.b.arcs) (f0_21 : RZ σ (pkSl 8 encArc encArc_len) (.slice a0_19 x0.arcs.length c0_20) x0.arcs) (f0_24 : RZ σ (pkSl 2 encTip encTip_len) (.slice a0_22 x0.ends.length c0_23) x0.ends) {r : Chain} (hh : comp_chain_steps x0 = some r) :
  Con Tryz.prog 25 #[loc b0_0 0] σ [Res.cells b0_0 #[.int .i64 x0.a.states,.slice a0_1 x0.a.starts.length c0_2,.slice a0_4 x0.a.ends.length c0_5,.slice a0_7 x0.a.arcs.length c0_8,.int .i64 x0.b.states,.slice a0_10 x0.b.starts.length c0_11,.slice a0_13 x0.b.ends.length c0_14,.slice a0_16 x0.b.arcs.length c0_17,.slice a0_19 x0.arcs.length c0_20,.slice a0_22 x0.ends.length c0_23,.map (some b0_25),.map (some b0_26),.map (some b0_27),.int .i64 x0.whole.states,.slice a0_28 x0.whole.starts.length c0_29,.slice a0_30 x0.whole.ends.length c0_31,.slice a0_32 x0.whole.arcs.length c0_33,.bool x0.over] Eb0,Res.mapB (fun x=>Value.agg (encArc x).toArray) unitV (some b0_25) x0.seen,Res.mapB (fun x=>Value.agg (encTip x).toArray) unitV (some b0_26) x0.tips.s,Res.mapB (fun x=>Value.agg (encTip x).toArray) unitV (some b0_27) x0.tips.e,Res.rowS 43 2 encTip (.slice a0_28 x0.whole.starts.length c0_29) x0.whole.starts,Res.rowS 43 2 encTip (.slice a0_30 x0.whole.ends.length c0_31) x0.whole.ends,Res.rowS 66 8 encArc (.slice a0_32 x0.whole.arcs.length c0_33) x0.whole.arcs] (fun v σ' H'=> ∃bo1 ao2 co3,v= .tuple #[]∧σ=σ'∧H'=[Res.cells b0_0 #[.int .i64 x0.a.states,.slice a0_1 x0.a.starts.length c0_2,.slice a0_4 x0.a.ends.length c0_5,.slice a0_7 x0.a.arcs.length c0_8,.int .i64 x0.b.states,.slice a0_10 x0.b.starts.length c0_11,.slice a0_13 x0.b.ends.length c0_14,.slice a0_16 x0.b.arcs.length c0_17,.slice a0_19 x0.arcs.length c0_20,.slice a0_22 x0.ends.length c0_23,.map (some bo1),.map (some b0_26),.map (some b0_27),.int .i64 x0.whole.states,.slice a0_28 x0.whole.starts.length c0_29,.slice a0_30 x0.whole.ends.length c0_31,.slice ao2 r.whole.arcs.length co3,.bool r.over] Eb0,Res.mapB (fun x=>Value.agg (encArc x).toArray) unitV (some bo1) r.seen,Res.mapB (fun x=>Value.agg (encTip x).toArray) unitV (some b0_26) x0.tips.s,Res.mapB (fun x=>Value.agg (encTip x).toArray) unitV (some b0_27) x0.tips.e,Res.rowS 43 2 encTip (.slice a0_28 x0.whole.starts.length c0_29) x0.whole.starts,Res.rowS 43 2 encTip (.slice a0_30 x0.whole.ends.length c0_31) x0.whole.ends,Res.rowS 66 8 encArc (.slice ao2 r.whole.arcs.length co3) r.whole.arcs]):=by
 dsimp only [comp_chain_steps]at hh
 have f0_3b:=f0_3.rv.big
 have f0_6b:=f0_6.rv.big
 have f0_9b:=f0_9.rv.big
 have f0_12b:=f0_12.rv.big
 have f0_15b:=f0_15.rv.big
 have f0_18b:=f0_18.rv.big
 have f0_21b:=f0_21.big
 have f0_24b:=f0_24.big
 refine Con.mk (n:=108) Tryz.func25 z z z (fun w0=> ?_)
 refine TC.a (TL.l z z (TL.w z (nilCheckLoc z z) (TL.w z (fieldLoc z fo75_0 z) (TL.w z (fieldLoc z fo25_3 z) (TL.w z (loadLoc z ag23 z (i:=0) z z) (TL.w z (lenC z underlying23 z) (TL.i z z (TL.en (TC.block (TC.loopG (α:=((FM Arc Unit)×(List Arc)×Bool×Nat)×(Nat×(Option Addr)×Nat)) (rgs [(3,3),(7,1),(9,2),(17,91)]) (fun g=>[(17,.int .i64 ((g.1.2.2.2:Nat):Int))]) (fun g=>[Res.cells b0_0 #[.int .i64 x0.a.states,.slice a0_1 x0.a.starts.length c0_2,.slice a0_4 x0.a.ends.length c0_5,.slice a0_7 x0.a.arcs.length c0_8,.int .i64 x0.b.states,.slice a0_10 x0.b.starts.length c0_11,.slice a0_13 x0.b.ends.length c0_14,.slice a0_16 x0.b.arcs.length c0_17,.slice a0_19 x0.arcs.length c0_20,.slice a0_22 x0.ends.length c0_23,.map (some g.2.1),.map (some b0_26),.map (some b0_27),.int .i64 x0.whole.states,.slice a0_28 x0.whole.starts.length c0_29,.slice a0_30 x0.whole.ends.length c0_31,.slice g.2.2.1 g.1.2.1.length g.2.2.2,.bool g.1.2.2.1] Eb0,Res.mapB (fun x=>Value.agg (encArc x).toArray) unitV (some g.2.1) g.1.1,Res.mapB (fun x=>Value.agg (encTip x).toArray) unitV (some b0_26) x0.tips.s,Res.mapB (fun x=>Value.agg (encTip x).toArray) unitV (some b0_27) x0.tips.e,Res.rowS 43 2 encTip (.slice a0_28 x0.whole.starts.length c0_29) x0.whole.starts,Res.rowS 43 2 encTip (.slice a0_30 x0.whole.ends.length c0_31) x0.whole.ends,Res.rowS 66 8 encArc (.slice g.2.2.1 g.1.2.1.length g.2.2.2) g.1.2.1]) (fun g=>σ) (fun g=>iter (fun q:(FM Arc Unit)×(List Arc)×Bool×Nat=>comp_chain_steps_b1 x0 q.1 q.2.1 q.2.2.1 q.2.2.2) g.1=some r) (fun g=>rounds (fun q:(FM Arc Unit)×(List Arc)×Bool×Nat=>comp_chain_steps_b1 x0 q.1 q.2.1 q.2.2.1 q.2.2.2) g.1) ((x0.seen,x0.whole.arcs,x0.over,0),(b0_25,a0_32,c0_33)) (Sub.f [6,6,6,6,6,6,6] 7) z (by repeat (first|exact trivial|refine ⟨z,?_⟩)) hh (fun g1 j1 hg1=> ?_)))))))))))
 obtain ⟨⟨m137,l140,t143,k144⟩,⟨b138,a141,c142⟩⟩:=g1
 have hh:=hg1;clear hg1
 try dsimp only
 obtain ⟨z1,hh,hR1⟩:=iter_e hh
 dsimp only [comp_chain_steps_b1]at hh
 refine TC.isSl (i:=4) z (fun _ hb145 _=> ?_)
 refine TC.isSl (i:=5) z (fun _ hb146 _=> ?_)
 refine TC.isSl (i:=6) z (fun _ hb147 _=> ?_)
 refine TC.a (TL.w z (OpVal.lss z z z) (TL.en (TC.seq (TC.cD z hh (fun h148 hh=> ?_) (fun h148 hh=> ?_)))))
 ·refine TC.skip (S.n (TC.seq (TC.block (TC.a (TL.w z (indexN z underlying23 sz66 z z f0_9.rv.sl (by omega)) (TL.w z (loadSA Arc.zero z ag66 sz66 z f0_9 (by omega) (by omega)) (TL.op z (OpOk.alloc z ze66 z z (fun b149=> ?_)))))))))
  refine TL.op z (storeAll z sz66 z z z z z z ?_)
  refine TL.en (TC.a (TL.l z z (TL.w z (nilCheckLoc z z) (TL.w z (fieldLoc z fo75_1 z) (TL.w z (fieldLoc z fo25_0 z) (TL.w z (loadLoc z ag3 z (i:=1) z z) (TL.i z z (TL.en (TC.block (TC.loopG (α:=((FM Arc Unit)×(List Arc)×Bool×Nat)×(Nat×(Option Addr)×Nat)) (rgs [(4,2),(7,1),(9,2),(26,81)]) (fun g=>[(26,.int .i64 ((g.1.2.2.2:Nat):Int))]) (fun g=>[Res.cells b0_0 #[.int .i64 x0.a.states,.slice a0_1 x0.a.starts.length c0_2,.slice a0_4 x0.a.ends.length c0_5,.slice a0_7 x0.a.arcs.length c0_8,.int .i64 x0.b.states,.slice a0_10 x0.b.starts.length c0_11,.slice a0_13 x0.b.ends.length c0_14,.slice a0_16 x0.b.arcs.length c0_17,.slice a0_19 x0.arcs.length c0_20,.slice a0_22 x0.ends.length c0_23,.map (some g.2.1),.map (some b0_26),.map (some b0_27),.int .i64 x0.whole.states,.slice a0_28 x0.whole.starts.length c0_29,.slice a0_30 x0.whole.ends.length c0_31,.slice g.2.2.1 g.1.2.1.length g.2.2.2,.bool g.1.2.2.1] Eb0,Res.mapB (fun x=>Value.agg (encArc x).toArray) unitV (some g.2.1) g.1.1,Res.mapB (fun x=>Value.agg (encTip x).toArray) unitV (some b0_26) x0.tips.s,Res.mapB (fun x=>Value.agg (encTip x).toArray) unitV (some b0_27) x0.tips.e,Res.rowS 43 2 encTip (.slice a0_28 x0.whole.starts.length c0_29) x0.whole.starts,Res.rowS 43 2 encTip (.slice a0_30 x0.whole.ends.length c0_31) x0.whole.ends,Res.rowS 66 8 encArc (.slice g.2.2.1 g.1.2.1.length g.2.2.2) g.1.2.1,Res.cells b149 #[.int .i64 ((nth x0.a.arcs k144 Arc.zero).frm),.int .i64 ((nth x0.a.arcs k144 Arc.zero).to),.int .u64 ((((nth x0.a.arcs k144 Arc.zero).set).a:Nat):Int),.int .u64 ((((nth x0.a.arcs k144 Arc.zero).set).b:Nat):Int),.int .u64 ((((nth x0.a.arcs k144 Arc.zero).set).c:Nat):Int),.int .u64 ((((nth x0.a.arcs k144 Arc.zero).set).d:Nat):Int),.string (bs ((nth x0.a.arcs k144 Arc.zero).out)),.bool ((nth x0.a.arcs k144 Arc.zero).copy)] 66]) (fun g=>σ) (fun g=>iter (fun q:(FM Arc Unit)×(List Arc)×Bool×Nat=>comp_chain_steps_b2 x0 k144 q.1 q.2.1 q.2.2.1 q.2.2.2) g.1=some z1) (fun g=>rounds (fun q:(FM Arc Unit)×(List Arc)×Bool×Nat=>comp_chain_steps_b2 x0 k144 q.1 q.2.1 q.2.2.1 q.2.2.2) g.1) ((m137,l140,t143,0),(b138,a141,c142)) (Sub.f [7,7,7,7,7,7,7] 8) z (by repeat (first|exact trivial|refine ⟨z,?_⟩)) hh (fun g2 j2 hg2=> ?_)))))))))))
  obtain ⟨⟨m170,l173,t176,k177⟩,⟨b171,a174,c175⟩⟩:=g2
  have hh:=hg2;clear hg2
  try dsimp only
  obtain ⟨z2,hh,hR2⟩:=iter_e hh
  dsimp only [comp_chain_steps_b2]at hh
  refine TC.isSl (i:=4) z (fun _ hb178 _=> ?_)
  refine TC.isSl (i:=5) z (fun _ hb179 _=> ?_)
  refine TC.isSl (i:=6) z (fun _ hb180 _=> ?_)
  refine TC.a (TL.w z (OpVal.lss z z z) (TL.en (TC.seq (TC.cD z hh (fun h181 hh=> ?_) (fun h181 hh=> ?_)))))
  ·refine TC.skip (S.n (TC.seq (TC.block (TC.a (TL.i z z (TL.i z z (TL.en (TC.a (TL.l z z (TL.w z (fieldLoc z fo66_0 z) (TL.w z (loadLoc z ag3 z (i:=7) z z) (TL.i z z (TL.front 6 z z (TL.front 6 z z (TL.front 6 z z ?_)))))))))))))))
   refine TL.front 6 z z (TL.front 6 z z (TL.front 6 z z (TL.front 6 z z ?_)))
   obtain ⟨v26,u26,hh⟩:=bnd_e hh
   refine TL.op z (OpOk.call (comp_chain_at_con (x0:=(⟨x0.a,x0.b,x0.arcs,x0.ends,m170,x0.tips,(⟨x0.whole.states,x0.whole.starts,x0.whole.ends,l173⟩:Fst),t176⟩:Chain)) f0_3 f0_6 f0_9 f0_12 f0_15 f0_18 f0_21 f0_24 u26) z z pf54 z z z z ?_)
   rintro _ _ _ hle182 ⟨rfl,rfl,rfl⟩
   refine TL.i z z (TL.en (TC.seq (TC.a (TL.l z z (TL.i z z (TL.w z (fieldLoc z fo66_3 z) (TL.w z (loadLoc z ag9 z (i:=7) z z) (TL.front 6 z z (TL.front 6 z z (TL.front 6 z z (TL.front 6 z z (TL.front 6 z z (TL.front 6 z z (TL.front 6 z z ?_))))))))))))))
   obtain ⟨v32,u32,hh⟩:=bnd_e hh
   refine TL.op z (OpOk.call (comp_chain_ways_con (x0:=(⟨x0.a,x0.b,x0.arcs,x0.ends,m170,x0.tips,(⟨x0.whole.states,x0.whole.starts,x0.whole.ends,l173⟩:Fst),t176⟩:Chain)) f0_3 f0_6 f0_9 f0_12 f0_15 f0_18 f0_21 f0_24 u32) z z pf52 z z z z ?_)
   rintro _ _ _ hle183 ⟨a183_1,c183_2,rfl,rfl,rfl⟩
   refine TL.w z (lenC z underlying22 z) (TL.i z z (TL.en (TC.block (TC.loopG (α:=((FM Arc Unit)×(List Arc)×Bool×Nat)×(Nat×(Option Addr)×Nat)) (rgs [(7,1),(9,2),(40,62)]) (fun g=>[(40,.int .i64 ((g.1.2.2.2:Nat):Int))]) (fun g=>[Res.cells b0_0 #[.int .i64 x0.a.states,.slice a0_1 x0.a.starts.length c0_2,.slice a0_4 x0.a.ends.length c0_5,.slice a0_7 x0.a.arcs.length c0_8,.int .i64 x0.b.states,.slice a0_10 x0.b.starts.length c0_11,.slice a0_13 x0.b.ends.length c0_14,.slice a0_16 x0.b.arcs.length c0_17,.slice a0_19 x0.arcs.length c0_20,.slice a0_22 x0.ends.length c0_23,.map (some g.2.1),.map (some b0_26),.map (some b0_27),.int .i64 x0.whole.states,.slice a0_28 x0.whole.starts.length c0_29,.slice a0_30 x0.whole.ends.length c0_31,.slice g.2.2.1 g.1.2.1.length g.2.2.2,.bool g.1.2.2.1] Eb0,Res.mapB (fun x=>Value.agg (encArc x).toArray) unitV (some g.2.1) g.1.1,Res.mapB (fun x=>Value.agg (encTip x).toArray) unitV (some b0_26) x0.tips.s,Res.mapB (fun x=>Value.agg (encTip x).toArray) unitV (some b0_27) x0.tips.e,Res.rowS 43 2 encTip (.slice a0_28 x0.whole.starts.length c0_29) x0.whole.starts,Res.rowS 43 2 encTip (.slice a0_30 x0.whole.ends.length c0_31) x0.whole.ends,Res.rowS 66 8 encArc (.slice g.2.2.1 g.1.2.1.length g.2.2.2) g.1.2.1,Res.cells b149 #[.int .i64 ((nth x0.a.arcs k144 Arc.zero).frm),.int .i64 ((nth x0.a.arcs k144 Arc.zero).to),.int .u64 ((((nth x0.a.arcs k144 Arc.zero).set).a:Nat):Int),.int .u64 ((((nth x0.a.arcs k144 Arc.zero).set).b:Nat):Int),.int .u64 ((((nth x0.a.arcs k144 Arc.zero).set).c:Nat):Int),.int .u64 ((((nth x0.a.arcs k144 Arc.zero).set).d:Nat):Int),.string (bs ((nth x0.a.arcs k144 Arc.zero).out)),.bool ((nth x0.a.arcs k144 Arc.zero).copy)] 66,Res.rowS 43 2 encTip (.slice a183_1 v32.1.length c183_2) v32.1]) (fun g=>σ) (fun g=>iter (fun q:(FM Arc Unit)×(List Arc)×Bool×Nat=>comp_chain_steps_b3 v32 x0 k144 v26 k177 q.1 q.2.1 q.2.2.1 q.2.2.2) g.1=some z2) (fun g=>rounds (fun q:(FM Arc Unit)×(List Arc)×Bool×Nat=>comp_chain_steps_b3 v32 x0 k144 v26 k177 q.1 q.2.1 q.2.2.1 q.2.2.2) g.1) ((m170,l173,v32.2.over,0),(b171,a174,c175)) (Sub.f [8,8,8,8,8,8,8,8] 9) z (by repeat (first|exact trivial|refine ⟨z,?_⟩)) hh (fun g3 j3 hg3=> ?_)))))
   obtain ⟨⟨m204,l207,t210,k211⟩,⟨b205,a208,c209⟩⟩:=g3
   have hh:=hg3;clear hg3
   try dsimp only
   obtain ⟨z3,hh,hR3⟩:=iter_e hh
   dsimp only [comp_chain_steps_b3]at hh
   refine TC.isSl (i:=4) z (fun _ hb212 _=> ?_)
   refine TC.isSl (i:=5) z (fun _ hb213 _=> ?_)
   refine TC.isSl (i:=6) z (fun _ hb214 _=> ?_)
   refine TC.isSl (i:=8) z (fun _ hb215 _=> ?_)
   refine TC.a (TL.w z (OpVal.lss z z z) (TL.en (TC.seq (TC.cD z hh (fun h216 hh=> ?_) (fun h216 hh=> ?_)))))
   ·refine TC.skip (S.n (TC.cutG (α:=((FM Arc Unit)×(List Arc)×Bool)×(Nat×(Option Addr)×Nat)) (rgs [(7,1),(9,2),(42,59)]) (fun g=>[]) (fun g=>[Res.cells b0_0 #[.int .i64 x0.a.states,.slice a0_1 x0.a.starts.length c0_2,.slice a0_4 x0.a.ends.length c0_5,.slice a0_7 x0.a.arcs.length c0_8,.int .i64 x0.b.states,.slice a0_10 x0.b.starts.length c0_11,.slice a0_13 x0.b.ends.length c0_14,.slice a0_16 x0.b.arcs.length c0_17,.slice a0_19 x0.arcs.length c0_20,.slice a0_22 x0.ends.length c0_23,.map (some g.2.1),.map (some b0_26),.map (some b0_27),.int .i64 x0.whole.states,.slice a0_28 x0.whole.starts.length c0_29,.slice a0_30 x0.whole.ends.length c0_31,.slice g.2.2.1 g.1.2.1.length g.2.2.2,.bool g.1.2.2] Eb0,Res.mapB (fun x=>Value.agg (encArc x).toArray) unitV (some g.2.1) g.1.1,Res.mapB (fun x=>Value.agg (encTip x).toArray) unitV (some b0_26) x0.tips.s,Res.mapB (fun x=>Value.agg (encTip x).toArray) unitV (some b0_27) x0.tips.e,Res.rowS 43 2 encTip (.slice a0_28 x0.whole.starts.length c0_29) x0.whole.starts,Res.rowS 43 2 encTip (.slice a0_30 x0.whole.ends.length c0_31) x0.whole.ends,Res.rowS 66 8 encArc (.slice g.2.2.1 g.1.2.1.length g.2.2.2) g.1.2.1,Res.cells b149 #[.int .i64 ((nth x0.a.arcs k144 Arc.zero).frm),.int .i64 ((nth x0.a.arcs k144 Arc.zero).to),.int .u64 ((((nth x0.a.arcs k144 Arc.zero).set).a:Nat):Int),.int .u64 ((((nth x0.a.arcs k144 Arc.zero).set).b:Nat):Int),.int .u64 ((((nth x0.a.arcs k144 Arc.zero).set).c:Nat):Int),.int .u64 ((((nth x0.a.arcs k144 Arc.zero).set).d:Nat):Int),.string (bs ((nth x0.a.arcs k144 Arc.zero).out)),.bool ((nth x0.a.arcs k144 Arc.zero).copy)] 66,Res.rowS 43 2 encTip (.slice a183_1 v32.1.length c183_2) v32.1]) (fun g=>σ) (fun g=>comp_chain_steps_j1 k211 g.1.1 g.1.2.1 g.1.2.2=some z3) ?_ (fun g j hg=> ?_)))
    ·skip
     refine TC.block (TC.a (TL.isSl (i:=8) z (fun hs225 _ _=> ?_)))
     refine TL.w z (indexN z underlying22 sz43 z z hs225 (by omega)) (TL.w z (loadOA Tip.zero z ag43 sz43 z (q:=8) z encTip_len (by omega) (by omega)) (TL.op z (OpOk.alloc z ze43 z z (fun b226=> ?_))))
     refine TL.op z (storeAll z sz43 z z z z z z ?_)
     refine TL.en (TC.seq (TC.a (TL.w z (fieldLoc z fo66_4 z) (TL.w z (loadLoc z ag4 z (i:=8) z z) (TL.w z (OpVal.not z z) (TL.en (TC.cB z hh (fun h228 hh=> ?_) (fun h228 hh=> ?_))))))))
     ·refine TC.seq ?_
      obtain ⟨v50,u50,hh⟩:=bnd_e hh
      obtain ⟨v56,u56,hh⟩:=bnd_e hh
      refine TC.drawR (Hr:=[Res.cells b226 #[.int .i64 ((nth v32.1 k211 Tip.zero).state),.string (bs ((nth v32.1 k211 Tip.zero).out))] 43,Res.mapB (fun x=>Value.agg (encTip x).toArray) unitV (some b0_26) x0.tips.s,Res.mapB (fun x=>Value.agg (encTip x).toArray) unitV (some b0_27) x0.tips.e,Res.rowS 43 2 encTip (.slice a0_28 x0.whole.starts.length c0_29) x0.whole.starts,Res.rowS 43 2 encTip (.slice a0_30 x0.whole.ends.length c0_31) x0.whole.ends,Res.cells b149 #[.int .i64 ((nth x0.a.arcs k144 Arc.zero).frm),.int .i64 ((nth x0.a.arcs k144 Arc.zero).to),.int .u64 ((((nth x0.a.arcs k144 Arc.zero).set).a:Nat):Int),.int .u64 ((((nth x0.a.arcs k144 Arc.zero).set).b:Nat):Int),.int .u64 ((((nth x0.a.arcs k144 Arc.zero).set).c:Nat):Int),.int .u64 ((((nth x0.a.arcs k144 Arc.zero).set).d:Nat):Int),.string (bs ((nth x0.a.arcs k144 Arc.zero).out)),.bool ((nth x0.a.arcs k144 Arc.zero).copy)] 66,Res.rowS 43 2 encTip (.slice a183_1 v32.1.length c183_2) v32.1]) (fun r hr=>mem_pick [0,3,4,5,6,8,9] z hr) [] (by kernel_rfl) (TA.a 0 z (moveLoc (.inl z) z) z (TA.a 1 z (moveI (.inl z) z) z (TA.a 2 z (moveLoc (.inl z) z) z (TA.a 3 z (fieldLoc z fo66_1 z) z (TA.b 4 z (loadLoc z ag3 z (i:=5) z z) z (TA.a 5 z (fieldLoc z fo43_0 z) z (TA.b 6 z (loadLoc z ag3 z (i:=0) z z) z (TA.a 8 z (fieldLoc z fo66_2 z) z (TA.b 9 z (loadLocA z ag55 sz55 z (i:=5) z z z) z (TA.a 10 z (fieldLoc z fo43_1 z) z (TA.b 11 z (loadLoc z ag9 z (i:=0) z z) z (TA.front 7 z z (TA.front 7 z z (TA.front 7 z z (TA.front 7 z z ?_)))))))))))))))
      refine TA.front 7 z z (TA.front 7 z z (TA.front 7 z z (TA.ac 7 z (OpOk.call (comp_chain_at_con (x0:=(⟨x0.a,x0.b,x0.arcs,x0.ends,m204,x0.tips,(⟨x0.whole.states,x0.whole.starts,x0.whole.ends,l207⟩:Fst),t210⟩:Chain)) f0_3 f0_6 f0_9 f0_12 f0_15 f0_18 f0_21 f0_24 u50) z z pf54 z z z z ?_))))
      rintro _ _ _ hle233 ⟨rfl,rfl,rfl⟩
      refine ⟨(fun w h=>sees_of (Store.le.refl _) (fun r hr=>mem_pick [7,2,3,4,5,8,9] z hr) w h),?_⟩
      refine TA.a 12 z (buildL z pl66 ze66 z) z (TA.front 6 z z (TA.front 6 z z (TA.front 6 z z (TA.front 6 z z (TA.front 6 z z (TA.front 6 z z (TA.front 6 z z (TA.ac 13 z (OpOk.call (comp_chain_arc_con (x0:=(⟨x0.a,x0.b,x0.arcs,x0.ends,m204,x0.tips,(⟨x0.whole.states,x0.whole.starts,x0.whole.ends,l207⟩:Fst),t210⟩:Chain)) f0_3 f0_6 f0_9 f0_12 f0_15 f0_18 f0_21 f0_24 u56) z z pf55 z z z z ?_)))))))))
      rintro _ _ _ hle234 ⟨b234_1,a234_2,c234_3,rfl,rfl,rfl⟩
      refine ⟨(fun w h=>sees_of (Store.le.refl _) (fun r hr=>mem_pick [7,2,3,4,5,8,9] z hr) w h),?_⟩
      exact TA.dn (S.n (TC.exit (S.x (TC.exitHere (S.n (cf ((v56.seen,v56.whole.arcs,v56.over),(b234_1,a234_2,c234_3)) hh (Sub.f [9,9,8,8,8,8,8,8,8] 9)))))))
     refine TC.skip (S.n (TC.seq ?_))
     have u63:=grd_c hh
     replace hh:=grd_t hh
     refine TC.draw [] (by kernel_rfl) (TA.a 0 z (moveLoc (.inl z) z) z (TA.a 1 z (nilCheckLoc z z) z (TA.a 2 z (fieldLoc z fo75_2 z) z (TA.b 3 z (loadLoc z ag68 z (i:=1) z z) z (TA.a 4 z (fieldLoc z fo43_0 z) z (TA.b 5 z (loadLoc z ag3 z (i:=0) z z) z (TA.b 6 z (OpVal.index z underlying68 sz23 z z f0_21.isSl u63.1 u63.2) z ?_)))))))
     obtain ⟨p238,hk238,hg238⟩:=RZ.seg f0_21 (((nth v32.1 k211 Tip.zero).state).toNat) (by omega)
     replace hk238:RS _ 8 encArc (.slice p238.1 (nth x0.arcs (((nth v32.1 k211 Tip.zero).state).toNat) ([]:List Arc)).length p238.2) (nth x0.arcs (((nth v32.1 k211 Tip.zero).state).toNat) ([]:List Arc)):=hk238
     have hk238b:=hk238.rv.big
     refine TA.b 7 z (OpVal.of (loadSeg0 z ag23 z hg238 z) (v':= .slice p238.1 ((nth x0.arcs (((nth v32.1 k211 Tip.zero).state).toNat) ([]:List Arc)).length) p238.2) z) z (TA.b 8 z (lenC z underlying23 z) z (TA.a 9 z (moveI (.inl z) z) z (TA.dn (S.n (TC.block (TC.loopG (α:=((FM Arc Unit)×(List Arc)×Bool×Nat)×(Nat×(Option Addr)×Nat)) (rgs [(9,2),(70,31)]) (fun g=>[(70,.int .i64 ((g.1.2.2.2:Nat):Int))]) (fun g=>[Res.cells b0_0 #[.int .i64 x0.a.states,.slice a0_1 x0.a.starts.length c0_2,.slice a0_4 x0.a.ends.length c0_5,.slice a0_7 x0.a.arcs.length c0_8,.int .i64 x0.b.states,.slice a0_10 x0.b.starts.length c0_11,.slice a0_13 x0.b.ends.length c0_14,.slice a0_16 x0.b.arcs.length c0_17,.slice a0_19 x0.arcs.length c0_20,.slice a0_22 x0.ends.length c0_23,.map (some g.2.1),.map (some b0_26),.map (some b0_27),.int .i64 x0.whole.states,.slice a0_28 x0.whole.starts.length c0_29,.slice a0_30 x0.whole.ends.length c0_31,.slice g.2.2.1 g.1.2.1.length g.2.2.2,.bool g.1.2.2.1] Eb0,Res.mapB (fun x=>Value.agg (encArc x).toArray) unitV (some g.2.1) g.1.1,Res.mapB (fun x=>Value.agg (encTip x).toArray) unitV (some b0_26) x0.tips.s,Res.mapB (fun x=>Value.agg (encTip x).toArray) unitV (some b0_27) x0.tips.e,Res.rowS 43 2 encTip (.slice a0_28 x0.whole.starts.length c0_29) x0.whole.starts,Res.rowS 43 2 encTip (.slice a0_30 x0.whole.ends.length c0_31) x0.whole.ends,Res.rowS 66 8 encArc (.slice g.2.2.1 g.1.2.1.length g.2.2.2) g.1.2.1,Res.cells b149 #[.int .i64 ((nth x0.a.arcs k144 Arc.zero).frm),.int .i64 ((nth x0.a.arcs k144 Arc.zero).to),.int .u64 ((((nth x0.a.arcs k144 Arc.zero).set).a:Nat):Int),.int .u64 ((((nth x0.a.arcs k144 Arc.zero).set).b:Nat):Int),.int .u64 ((((nth x0.a.arcs k144 Arc.zero).set).c:Nat):Int),.int .u64 ((((nth x0.a.arcs k144 Arc.zero).set).d:Nat):Int),.string (bs ((nth x0.a.arcs k144 Arc.zero).out)),.bool ((nth x0.a.arcs k144 Arc.zero).copy)] 66,Res.cells b226 #[.int .i64 ((nth v32.1 k211 Tip.zero).state),.string (bs ((nth v32.1 k211 Tip.zero).out))] 43,Res.rowS 43 2 encTip (.slice a183_1 v32.1.length c183_2) v32.1]) (fun g=>σ) (fun g=>iter (fun q:(FM Arc Unit)×(List Arc)×Bool×Nat=>comp_chain_steps_b4 x0 v32 k211 k144 v26 q.1 q.2.1 q.2.2.1 q.2.2.2) g.1=some z3) (fun g=>rounds (fun q:(FM Arc Unit)×(List Arc)×Bool×Nat=>comp_chain_steps_b4 x0 v32 k211 k144 v26 q.1 q.2.1 q.2.2.1 q.2.2.2) g.1) ((m204,l207,t210,0),(b205,a208,c209)) (Sub.f [9,1,9,9,9,9,9,9,9,9] 10) z (by repeat (first|exact trivial|refine ⟨z,?_⟩)) hh (fun g4 j4 hg4=> ?_)))))))
     obtain ⟨⟨m258,l261,t264,k265⟩,⟨b259,a262,c263⟩⟩:=g4
     have hh:=hg4;clear hg4
     try dsimp only
     obtain ⟨z4,hh,hR4⟩:=iter_e hh
     dsimp only [comp_chain_steps_b4]at hh
     refine TC.isSl (i:=4) z (fun _ hb266 _=> ?_)
     refine TC.isSl (i:=5) z (fun _ hb267 _=> ?_)
     refine TC.isSl (i:=6) z (fun _ hb268 _=> ?_)
     refine TC.isSl (i:=9) z (fun _ hb269 _=> ?_)
     refine TC.a (TL.w z (OpVal.lss z z z) (TL.en (TC.seq (TC.cD z hh (fun h270 hh=> ?_) (fun h270 hh=> ?_)))))
     ·refine TC.skip (S.n (TC.cutG (α:=((FM Arc Unit)×(List Arc)×Bool)×(Nat×(Option Addr)×Nat)) (rgs [(9,2),(72,28)]) (fun g=>[]) (fun g=>[Res.cells b0_0 #[.int .i64 x0.a.states,.slice a0_1 x0.a.starts.length c0_2,.slice a0_4 x0.a.ends.length c0_5,.slice a0_7 x0.a.arcs.length c0_8,.int .i64 x0.b.states,.slice a0_10 x0.b.starts.length c0_11,.slice a0_13 x0.b.ends.length c0_14,.slice a0_16 x0.b.arcs.length c0_17,.slice a0_19 x0.arcs.length c0_20,.slice a0_22 x0.ends.length c0_23,.map (some g.2.1),.map (some b0_26),.map (some b0_27),.int .i64 x0.whole.states,.slice a0_28 x0.whole.starts.length c0_29,.slice a0_30 x0.whole.ends.length c0_31,.slice g.2.2.1 g.1.2.1.length g.2.2.2,.bool g.1.2.2] Eb0,Res.mapB (fun x=>Value.agg (encArc x).toArray) unitV (some g.2.1) g.1.1,Res.mapB (fun x=>Value.agg (encTip x).toArray) unitV (some b0_26) x0.tips.s,Res.mapB (fun x=>Value.agg (encTip x).toArray) unitV (some b0_27) x0.tips.e,Res.rowS 43 2 encTip (.slice a0_28 x0.whole.starts.length c0_29) x0.whole.starts,Res.rowS 43 2 encTip (.slice a0_30 x0.whole.ends.length c0_31) x0.whole.ends,Res.rowS 66 8 encArc (.slice g.2.2.1 g.1.2.1.length g.2.2.2) g.1.2.1,Res.cells b149 #[.int .i64 ((nth x0.a.arcs k144 Arc.zero).frm),.int .i64 ((nth x0.a.arcs k144 Arc.zero).to),.int .u64 ((((nth x0.a.arcs k144 Arc.zero).set).a:Nat):Int),.int .u64 ((((nth x0.a.arcs k144 Arc.zero).set).b:Nat):Int),.int .u64 ((((nth x0.a.arcs k144 Arc.zero).set).c:Nat):Int),.int .u64 ((((nth x0.a.arcs k144 Arc.zero).set).d:Nat):Int),.string (bs ((nth x0.a.arcs k144 Arc.zero).out)),.bool ((nth x0.a.arcs k144 Arc.zero).copy)] 66,Res.cells b226 #[.int .i64 ((nth v32.1 k211 Tip.zero).state),.string (bs ((nth v32.1 k211 Tip.zero).out))] 43,Res.rowS 43 2 encTip (.slice a183_1 v32.1.length c183_2) v32.1]) (fun g=>σ) (fun g=>comp_chain_steps_j2 k265 g.1.1 g.1.2.1 g.1.2.2=some z4) ?_ (fun g j hg=> ?_)))
      ·skip
       refine TC.block (TC.a (TL.w z (indexN z underlying23 sz66 z z hk238.rv.sl (by omega)) (TL.w z (loadSA Arc.zero z ag66 sz66 z hk238 (by omega) (by omega)) (TL.op z (OpOk.alloc z ze66 z z (fun b279=> ?_))))))
       refine TL.op z (storeAll z sz66 z z z z z z ?_)
       refine TL.en (TC.a (TL.w z (fieldLoc z fo66_2 z) (TL.w z (loadLocA z ag55 sz55 z (i:=8) z z z) (TL.w z (fieldLoc z fo66_2 z) (TL.w z (loadLocA z ag55 sz55 z (i:=0) z z z) ?_)))))
       obtain ⟨v76,u76,hh⟩:=bnd_e hh
       refine TL.op z (callP (Hm_ u76) z z pf56 z z z ?_)
       refine TL.op z (OpOk.alloc z ze55 z z (fun b281=> ?_))
       refine TL.op z (storeAll z sz55 z z z z z z ?_)
       refine TL.en (TC.a (TL.w z (loadAll z ag55 sz55 z (i:=0) z z) (TL.w z (buildArrL z underlying55 sz53 ze55 z) (TL.w z (neqSet (s:=v76) (t:=BSet.zero) z underlying55 underlying53 ag53 sz53 eg55 z z) (TL.en (TC.cD z hh (fun h283 hh=> ?_) (fun h283 hh=> ?_)))))))
       ·obtain ⟨v89,u89,hh⟩:=bnd_e hh
        have u95:=grd_c hh
        replace hh:=grd_t hh
        obtain ⟨v99,u99,hh⟩:=bnd_e hh
        refine TC.drawR (Hr:=[Res.cells b281 (setA v76) 55,Res.cells b279 #[.int .i64 ((nth (nth x0.arcs (((nth v32.1 k211 Tip.zero).state).toNat) ([]:List Arc)) k265 Arc.zero).frm),.int .i64 ((nth (nth x0.arcs (((nth v32.1 k211 Tip.zero).state).toNat) ([]:List Arc)) k265 Arc.zero).to),.int .u64 ((((nth (nth x0.arcs (((nth v32.1 k211 Tip.zero).state).toNat) ([]:List Arc)) k265 Arc.zero).set).a:Nat):Int),.int .u64 ((((nth (nth x0.arcs (((nth v32.1 k211 Tip.zero).state).toNat) ([]:List Arc)) k265 Arc.zero).set).b:Nat):Int),.int .u64 ((((nth (nth x0.arcs (((nth v32.1 k211 Tip.zero).state).toNat) ([]:List Arc)) k265 Arc.zero).set).c:Nat):Int),.int .u64 ((((nth (nth x0.arcs (((nth v32.1 k211 Tip.zero).state).toNat) ([]:List Arc)) k265 Arc.zero).set).d:Nat):Int),.string (bs ((nth (nth x0.arcs (((nth v32.1 k211 Tip.zero).state).toNat) ([]:List Arc)) k265 Arc.zero).out)),.bool ((nth (nth x0.arcs (((nth v32.1 k211 Tip.zero).state).toNat) ([]:List Arc)) k265 Arc.zero).copy)] 66,Res.mapB (fun x=>Value.agg (encTip x).toArray) unitV (some b0_26) x0.tips.s,Res.mapB (fun x=>Value.agg (encTip x).toArray) unitV (some b0_27) x0.tips.e,Res.rowS 43 2 encTip (.slice a0_28 x0.whole.starts.length c0_29) x0.whole.starts,Res.rowS 43 2 encTip (.slice a0_30 x0.whole.ends.length c0_31) x0.whole.ends,Res.cells b149 #[.int .i64 ((nth x0.a.arcs k144 Arc.zero).frm),.int .i64 ((nth x0.a.arcs k144 Arc.zero).to),.int .u64 ((((nth x0.a.arcs k144 Arc.zero).set).a:Nat):Int),.int .u64 ((((nth x0.a.arcs k144 Arc.zero).set).b:Nat):Int),.int .u64 ((((nth x0.a.arcs k144 Arc.zero).set).c:Nat):Int),.int .u64 ((((nth x0.a.arcs k144 Arc.zero).set).d:Nat):Int),.string (bs ((nth x0.a.arcs k144 Arc.zero).out)),.bool ((nth x0.a.arcs k144 Arc.zero).copy)] 66,Res.cells b226 #[.int .i64 ((nth v32.1 k211 Tip.zero).state),.string (bs ((nth v32.1 k211 Tip.zero).out))] 43,Res.rowS 43 2 encTip (.slice a183_1 v32.1.length c183_2) v32.1]) (fun r hr=>mem_pick [0,1,4,5,6,7,9,10,11] z hr) [] (by kernel_rfl) (TA.a 0 z (moveLoc (.inl z) z) z (TA.a 1 z (moveI (.inl z) z) z (TA.a 2 z (moveLoc (.inl z) z) z (TA.a 3 z (fieldLoc z fo66_1 z) z (TA.b 4 z (loadLoc z ag3 z (i:=6) z z) z (TA.a 5 z (fieldLoc z fo66_1 z) z (TA.b 6 z (loadLoc z ag3 z (i:=1) z z) z (TA.b 8 z (loadAll z ag55 sz55 z (i:=0) z z) z (TA.a 9 z (fieldLoc z fo43_1 z) z (TA.b 10 z (loadLoc z ag9 z (i:=7) z z) z (TA.a 11 z (fieldLoc z fo66_3 z) z (TA.b 12 z (loadLoc z ag9 z (i:=1) z z) z (TA.a 13 z (catBs z z z u95) z (TA.a 14 z (fieldLoc z fo66_4 z) z (TA.b 15 z (loadLoc z ag4 z (i:=1) z z) z ?_)))))))))))))))
        refine TA.front 8 z z (TA.front 8 z z (TA.front 8 z z (TA.front 8 z z (TA.front 8 z z (TA.front 8 z z (TA.front 8 z z (TA.ac 7 z (OpOk.call (comp_chain_at_con (x0:=(⟨x0.a,x0.b,x0.arcs,x0.ends,m258,x0.tips,(⟨x0.whole.states,x0.whole.starts,x0.whole.ends,l261⟩:Fst),t264⟩:Chain)) f0_3 f0_6 f0_9 f0_12 f0_15 f0_18 f0_21 f0_24 u89) z z pf54 z z z z ?_))))))))
        rintro _ _ _ hle288 ⟨rfl,rfl,rfl⟩
        refine ⟨(fun w h=>sees_of (Store.le.refl _) (fun r hr=>mem_pick [7,8,2,3,4,5,9,10,11] z hr) w h),?_⟩
        refine TA.a 16 z (buildL z pl66 ze66 z) z (TA.front 6 z z (TA.front 6 z z (TA.front 6 z z (TA.front 6 z z (TA.front 6 z z (TA.front 6 z z (TA.front 6 z z (TA.ac 17 z (OpOk.call (comp_chain_arc_con (x0:=(⟨x0.a,x0.b,x0.arcs,x0.ends,m258,x0.tips,(⟨x0.whole.states,x0.whole.starts,x0.whole.ends,l261⟩:Fst),t264⟩:Chain)) f0_3 f0_6 f0_9 f0_12 f0_15 f0_18 f0_21 f0_24 u99) z z pf55 z z z z ?_)))))))))
        rintro _ _ _ hle289 ⟨b289_1,a289_2,c289_3,rfl,rfl,rfl⟩
        refine ⟨(fun w h=>sees_of (Store.le.refl _) (fun r hr=>mem_pick [7,8,2,3,4,5,9,10,11] z hr) w h),?_⟩
        exact TA.dn (B.n (S.n (cf ((v99.seen,v99.whole.arcs,v99.over),(b289_1,a289_2,c289_3)) hh (Sub.f [11,11,11,9,9,9,9,9,9,9] 10))))
       exact TC.skip (B.n (S.n (cf ((m258,l261,t264),(b259,a262,c263)) hh (Sub.f [11,11,11,11,11,11,11,11,11,11] 10))))
      skip
      obtain ⟨⟨m272,l275,t278⟩,⟨b273,a276,c277⟩⟩:=g
      have hh:=hg;clear hg
      try dsimp only
      dsimp only [comp_chain_steps_j2]at hh
      refine TC.isSl (i:=4) z (fun _ hb292 _=> ?_)
      refine TC.isSl (i:=5) z (fun _ hb293 _=> ?_)
      refine TC.isSl (i:=6) z (fun _ hb294 _=> ?_)
      refine TC.isSl (i:=9) z (fun _ hb295 _=> ?_)
      refine TC.region (TL.w z (OpVal.succ z z z (by omega)) (TL.i z z (TL.en ?_)))
      obtain ⟨hh,hlt296⟩:=nxt_x hR4 hh
      exact lf ((m272,l275,t278,(k265+1)),(b273,a276,c277)) hlt296 hh (Sub.f [9,9,9,9,9,9,9,9,9,9] 10)
     refine TC.exit (S.x (S.x ?_))
     replace hh:=fin_x hR4 hh
     exact TC.exitHere (B.n (S.n (cf ((m258,l261,t264),(b259,a262,c263)) hh (Sub.f [9,8,8,8,8,8,8,8,8] 9))))
    skip
    obtain ⟨⟨m218,l221,t224⟩,⟨b219,a222,c223⟩⟩:=g
    have hh:=hg;clear hg
    try dsimp only
    dsimp only [comp_chain_steps_j1]at hh
    refine TC.isSl (i:=4) z (fun _ hb297 _=> ?_)
    refine TC.isSl (i:=5) z (fun _ hb298 _=> ?_)
    refine TC.isSl (i:=6) z (fun _ hb299 _=> ?_)
    refine TC.isSl (i:=8) z (fun _ hb300 _=> ?_)
    refine TC.region (TL.w z (OpVal.succ z z z (by omega)) (TL.i z z (TL.en ?_)))
    obtain ⟨hh,hlt301⟩:=nxt_x hR3 hh
    exact lf ((m218,l221,t224,(k211+1)),(b219,a222,c223)) hlt301 hh (Sub.f [8,8,8,8,8,8,8,8,8] 9)
   refine TC.exit (S.x (S.x ?_))
   replace hh:=fin_x hR3 hh
   refine TC.exitHere (S.n (TC.a (TL.l z z (TL.w z (nilCheckLoc z z) (TL.w z (fieldLoc z fo75_7 z) (TL.w z (loadLoc z ag4 z (i:=0) z z) (TL.en (TC.cB z hh (fun h302 hh=> ?_) (fun h302 hh=> ?_)))))))))
   ·refine TC.ofSub (Sub.f [6,6,6,6,6,6,6] 7) (TC.ret (B.r (S.r (S.r ?_))))
    replace hh:=fin_x hR2 hh
    refine B.r (B.r (S.r (S.r ?_)))
    replace hh:=fin_x hR1 hh
    refine B.r ?_
    obtain rfl:=so hh
    exact ro [Res.cells b0_0 #[.int .i64 x0.a.states,.slice a0_1 x0.a.starts.length c0_2,.slice a0_4 x0.a.ends.length c0_5,.slice a0_7 x0.a.arcs.length c0_8,.int .i64 x0.b.states,.slice a0_10 x0.b.starts.length c0_11,.slice a0_13 x0.b.ends.length c0_14,.slice a0_16 x0.b.arcs.length c0_17,.slice a0_19 x0.arcs.length c0_20,.slice a0_22 x0.ends.length c0_23,.map (some b205),.map (some b0_26),.map (some b0_27),.int .i64 x0.whole.states,.slice a0_28 x0.whole.starts.length c0_29,.slice a0_30 x0.whole.ends.length c0_31,.slice a208 l207.length c209,.bool t210] Eb0,Res.mapB (fun x=>Value.agg (encArc x).toArray) unitV (some b205) m204,Res.mapB (fun x=>Value.agg (encTip x).toArray) unitV (some b0_26) x0.tips.s,Res.mapB (fun x=>Value.agg (encTip x).toArray) unitV (some b0_27) x0.tips.e,Res.rowS 43 2 encTip (.slice a0_28 x0.whole.starts.length c0_29) x0.whole.starts,Res.rowS 43 2 encTip (.slice a0_30 x0.whole.ends.length c0_31) x0.whole.ends,Res.rowS 66 8 encArc (.slice a208 l207.length c209) l207] z RVs.nil ⟨b205,a208,c209,z,z,z⟩
   refine TC.skip (B.n (S.n (TC.region ?_)))
   have u108:=grd_c hh
   replace hh:=grd_t hh
   refine TL.w z (OpVal.succ z z z (by omega)) (TL.i z z (TL.en ?_))
   obtain ⟨hh,hlt303⟩:=nxt_x hR2 hh
   exact lf ((m204,l207,t210,(k177+1)),(b205,a208,c209)) hlt303 hh (Sub.f [7,7,7,7,7,7,7,7] 8)
  refine TC.exit (S.x (S.x ?_))
  replace hh:=fin_x hR2 hh
  refine TC.exitHere (B.n (S.n (TC.region (TL.w z (OpVal.succ z z z (by omega)) (TL.i z z (TL.en ?_))))))
  obtain ⟨hh,hlt304⟩:=nxt_x hR1 hh
  exact lf ((m170,l173,t176,(k144+1)),(b171,a174,c175)) hlt304 hh (Sub.f [6,6,6,6,6,6,6] 7)
 refine TC.exit (S.x (S.x ?_))
 replace hh:=fin_x hR1 hh
 refine TC.exitHere ?_
 obtain rfl:=so hh
 exact RetOk.mk' (rs:=[]) [Res.cells b0_0 #[.int .i64 x0.a.states,.slice a0_1 x0.a.starts.length c0_2,.slice a0_4 x0.a.ends.length c0_5,.slice a0_7 x0.a.arcs.length c0_8,.int .i64 x0.b.states,.slice a0_10 x0.b.starts.length c0_11,.slice a0_13 x0.b.ends.length c0_14,.slice a0_16 x0.b.arcs.length c0_17,.slice a0_19 x0.arcs.length c0_20,.slice a0_22 x0.ends.length c0_23,.map (some b138),.map (some b0_26),.map (some b0_27),.int .i64 x0.whole.states,.slice a0_28 x0.whole.starts.length c0_29,.slice a0_30 x0.whole.ends.length c0_31,.slice a141 l140.length c142,.bool t143] Eb0,Res.mapB (fun x=>Value.agg (encArc x).toArray) unitV (some b138) m137,Res.mapB (fun x=>Value.agg (encTip x).toArray) unitV (some b0_26) x0.tips.s,Res.mapB (fun x=>Value.agg (encTip x).toArray) unitV (some b0_27) x0.tips.e,Res.rowS 43 2 encTip (.slice a0_28 x0.whole.starts.length c0_29) x0.whole.starts,Res.rowS 43 2 encTip (.slice a0_30 x0.whole.ends.length c0_31) x0.whole.ends,Res.rowS 66 8 encArc (.slice a141 l140.length c142) l140] z (.inr z) RVs.nil (List.sublist_append_left _ _) ⟨b138,a141,c142,z,z,z⟩
def comp_Compose_j2(l196:List (List Tip))(x1:Fst)(k200:Nat):Option (((List (List Tip))×Nat)⊕(Fst×Int)):=
 nxt ((l196.set (((nth x1.ends k200 Tip.zero).state).toNat) ((nth l196 (((nth x1.ends k200 Tip.zero).state).toNat) ([]:List Tip))++[(nth x1.ends k200 Tip.zero)])),(k200+1))
def comp_Compose_b1(x1:Fst)(x0:Fst)(l112:List (List Arc))(l196:List (List Tip))(k200:Nat):Option (((List (List Tip))×Nat)⊕(Fst×Int)):=
 iteO (decide (((k200:Nat):Int)<((x1.ends.length:Nat):Int))) (grd (0≤((nth x1.ends k200 Tip.zero).state)∧((nth x1.ends k200 Tip.zero).state)<(l196.length:Int)) (grd (((nth l196 (((nth x1.ends k200 Tip.zero).state).toNat) ([]:List Tip)).length+[(nth x1.ends k200 Tip.zero)].length) * 24≤140737488355328) (grd (0≤((nth x1.ends k200 Tip.zero).state)∧((nth x1.ends k200 Tip.zero).state)<(l196.length:Int)) (comp_Compose_j2 l196 x1 k200)))) (fin (bnd (comp_chain_starts (⟨x0,x1,l112,l196,(FM.emp:FM Arc Unit),(⟨(FM.emp:FM Tip Unit),(FM.emp:FM Tip Unit)⟩:TwoM),(⟨IntKind.i64.wrap (x0.states * x1.states),([]:List Tip),([]:List Tip),([]:List Arc)⟩:Fst),false⟩:Chain)) (fun v103=>iteO v103.over (some ((⟨0,([]:List Tip),([]:List Tip),([]:List Arc)⟩:Fst),2)) (bnd (comp_chain_stops (⟨x0,x1,l112,l196,(FM.emp:FM Arc Unit),(⟨v103.tips.s,(FM.emp:FM Tip Unit)⟩:TwoM),(⟨IntKind.i64.wrap (x0.states * x1.states),v103.whole.starts,([]:List Tip),([]:List Arc)⟩:Fst),v103.over⟩:Chain)) (fun v103y=>iteO v103y.over (some ((⟨0,([]:List Tip),([]:List Tip),([]:List Arc)⟩:Fst),2)) (bnd (comp_chain_steps (⟨x0,x1,l112,l196,(FM.emp:FM Arc Unit),(⟨v103.tips.s,v103y.tips.e⟩:TwoM),(⟨IntKind.i64.wrap (x0.states * x1.states),v103.whole.starts,v103y.whole.ends,([]:List Arc)⟩:Fst),v103y.over⟩:Chain)) (fun v103yy=>iteO v103yy.over (some ((⟨0,([]:List Tip),([]:List Tip),([]:List Arc)⟩:Fst),2)) (bnd (Fp_ (⟨IntKind.i64.wrap (x0.states * x1.states),v103.whole.starts,v103y.whole.ends,v103yy.whole.arcs⟩:Fst)) (fun v117yyy=>some (v117yyy.1,v117yyy.2))))))))))
def comp_Compose_j1(x1:Fst)(x0:Fst)(l112:List (List Arc)):Option (Fst×Int):=
 iter (fun q:(List (List Tip))×Nat=>comp_Compose_b1 x1 x0 l112 q.1 q.2) ((List.replicate x1.states.toNat ([]:List Tip)),0)
def comp_Compose(x0:Fst)(x1:Fst):Option (Fst×Int):=
 bnd (Bk_ x0) (fun v6=>iteO (decide (v6≠0)) (some ((⟨0,([]:List Tip),([]:List Tip),([]:List Arc)⟩:Fst),1)) (bnd (Bk_ x1) (fun v10=>iteO (decide (v10≠0)) (some ((⟨0,([]:List Tip),([]:List Tip),([]:List Arc)⟩:Fst),1)) (iteO (decide (1024<(IntKind.i64.wrap (x0.states * x1.states)))) (some ((⟨0,([]:List Tip),([]:List Tip),([]:List Arc)⟩:Fst),2)) (bnd (comp_leaving x1) (fun v28=>grd (0≤x1.states∧24 * x1.states.toNat≤281474976710656) (comp_Compose_j1 x1 x0 v28)))))))
def comp_Compose_P(σ:Store)(r:Fst×Int):Value→Store→List Res→Prop:=fun v σ' H'=>
 ∃a1 c1 a2 c2 a3 c3,v= .tuple #[.agg #[.int .i64 r.1.states,.slice a1 r.1.starts.length c1,.slice a2 r.1.ends.length c2,.slice a3 r.1.arcs.length c3],.int .i64 r.2]∧RS σ' 2 encTip (.slice a1 r.1.starts.length c1) r.1.starts∧RS σ' 2 encTip (.slice a2 r.1.ends.length c2) r.1.ends∧RS σ' 8 encArc (.slice a3 r.1.arcs.length c3) r.1.arcs∧H'=[]
theorem comp_Compose_con{x0:Fst}{x1:Fst}(f0_0:RS σ 2 encTip (.slice a0_0 x0.starts.length c0_0) x0.starts)(f0_1:RS σ 2 encTip (.slice a0_1 x0.ends.length c0_1) x0.ends)(f0_2:RS σ 8 encArc (.slice a0_2 x0.arcs.length c0_2) x0.arcs)(f1_0:RS σ 2 encTip (.slice a1_0 x1.starts.length c1_0) x1.starts)(f1_1:RS σ 2 encTip (.slice a1_1 x1.ends.length c1_1) x1.ends)(f1_2:RS σ 8 encArc (.slice a1_2 x1.arcs.length c1_2) x1.arcs){r:Fst×Int}(hh:comp_Compose x0 x1=some r):
  Con Tryz.prog 9 #[.agg #[.int .i64 x0.states,.slice a0_0 x0.starts.length c0_0,.slice a0_1 x0.ends.length c0_1,.slice a0_2 x0.arcs.length c0_2],.agg #[.int .i64 x1.states,.slice a1_0 x1.starts.length c1_0,.slice a1_1 x1.ends.length c1_1,.slice a1_2 x1.arcs.length c1_2]] σ [] (comp_Compose_P σ r):=by
 dsimp only [comp_Compose]at hh
 have f0_0b:=f0_0.rv.big
 have f0_1b:=f0_1.rv.big
 have f0_2b:=f0_2.rv.big
 have f1_0b:=f1_0.rv.big
 have f1_1b:=f1_1.rv.big
 have f1_2b:=f1_2.rv.big
 refine Con.mk (n:=110) Tryz.func9 z z z (fun w0=> ?_)
 refine TC.a (TL.op z (boxA z z z z (fun b101=> ?_)))
 refine TL.op z (boxA z z z z (fun b103=> ?_))
 refine TL.op z (OpOk.alloc z ze25 z z (fun b105=> ?_))
 refine TL.i z z (TL.en (TC.seq (TC.a (TL.w z (loadAll z ag25 sz25 z (i:=2) z z) ?_))))
 obtain ⟨v6,u6,hh⟩:=bnd_e hh
 refine TL.op z (callP (Co_ (x0:=x0) f0_0 f0_1 f0_2 u6) z z pf21 z z z ?_)
 refine TL.w z (OpVal.neq z z z) (TL.j z z (TL.split 15 z (fun h107=> ?_) (fun h107=> ?_)))
 ·replace hh:=iteO_t h107 hh
  replace h107:=of_decide_eq_true h107
  refine TL.f z (TL.f z (TL.f z (TL.w z (pickTB z z z) (TL.en (TC.t z (TC.a (TL.w z (buildL z pl25 ze25 z) (TL.op z (storeAll z sz25 z z z z z z ?_)))))))))
  refine TL.i z z (TL.en (TC.rt 1 (S.r ?_)))
  obtain rfl:=so hh
  exact ro [] z (RVs.agg ag25 sz25 z (i:=0) z z (RVs.tmp z RVs.nil)) ⟨none,0,none,0,none,0,z,(RS.nilF _ encTip encTip_len),(RS.nilF _ encTip encTip_len),(RS.nilF _ encArc encArc_len),z⟩
 replace hh:=iteO_f h107 hh
 replace h107:=of_decide_eq_false h107
 refine TL.g z (loadAll z ag25 sz25 z (i:=1) z z) ?_
 obtain ⟨v10,u10,hh⟩:=bnd_e hh
 refine TL.gon z z z z z (callP (Co_ (x0:=x1) f1_0 f1_1 f1_2 u10) z z pf21 z z z ?_)
 refine TL.g z (OpVal.neq z z z) (TL.w z (pickFB z z z) (TL.en (TC.cD z hh (fun h108 hh=> ?_) (fun h108 hh=> ?_))))
 ·refine TC.a (TL.w z (buildL z pl25 ze25 z) (TL.op z (storeAll z sz25 z z z z z z ?_)))
  refine TL.i z z (TL.en (TC.rt 1 (S.r ?_)))
  obtain rfl:=so hh
  exact ro [] z (RVs.agg ag25 sz25 z (i:=0) z z (RVs.tmp z RVs.nil)) ⟨none,0,none,0,none,0,z,(RS.nilF _ encTip encTip_len),(RS.nilF _ encTip encTip_len),(RS.nilF _ encArc encArc_len),z⟩
 refine TC.skip (S.n (TC.seq (TC.a (TL.w z (fieldLoc z fo25_0 z) (TL.w z (loadLoc z ag3 z (i:=2) z z) (TL.w z (fieldLoc z fo25_0 z) (TL.w z (loadLoc z ag3 z (i:=1) z z) (TL.w z (mulW z z z) (TL.w z (OpVal.gtr z z z) (TL.en (TC.cD z hh (fun h109 hh=> ?_) (fun h109 hh=> ?_))))))))))))
 ·refine TC.a (TL.w z (buildL z pl25 ze25 z) (TL.op z (storeAll z sz25 z z z z z z ?_)))
  refine TL.i z z (TL.en (TC.rt 1 (S.r ?_)))
  obtain rfl:=so hh
  exact ro [] z (RVs.agg ag25 sz25 z (i:=0) z z (RVs.tmp z RVs.nil)) ⟨none,0,none,0,none,0,z,(RS.nilF _ encTip encTip_len),(RS.nilF _ encTip encTip_len),(RS.nilF _ encArc encArc_len),z⟩
 refine TC.skip (S.n (TC.cutG (α:=((List (List Arc)))×(Nat×(Option Addr)×Nat×(Option Addr)×Nat×Nat×Store)) (rgs [(6,1),(28,10)]) (fun g=>[(6,loc g.2.1 0)]) (fun g=>[Res.cells b101 #[.int .i64 x0.states,.slice a0_0 x0.starts.length c0_0,.slice a0_1 x0.ends.length c0_1,.slice a0_2 x0.arcs.length c0_2] 25,Res.cells b103 #[.int .i64 x1.states,.slice a1_0 x1.starts.length c1_0,.slice a1_1 x1.ends.length c1_1,.slice a1_2 x1.arcs.length c1_2] 25,Res.cells b105 #[.int .i64 0,.slice none 0 0,.slice none 0 0,.slice none 0 0] 25,Res.cells g.2.1 #[.int .i64 x0.states,.slice a0_0 x0.starts.length c0_0,.slice a0_1 x0.ends.length c0_1,.slice a0_2 x0.arcs.length c0_2,.int .i64 x1.states,.slice a1_0 x1.starts.length c1_0,.slice a1_1 x1.ends.length c1_1,.slice a1_2 x1.arcs.length c1_2,.slice g.2.2.1 g.1.length g.2.2.2.1,.slice g.2.2.2.2.1 ((List.replicate x1.states.toNat ([]:List Tip)).length) g.2.2.2.2.2.1,.map (some g.2.2.2.2.2.2.1),.map none,.map none,.int .i64 0,.slice none 0 0,.slice none 0 0,.slice none 0 0,.bool false] 75,Res.nest 22 43 2 encTip (.slice g.2.2.2.2.1 (List.replicate x1.states.toNat ([]:List Tip)).length g.2.2.2.2.2.1) (List.replicate x1.states.toNat (nilN:NP Tip)),Res.mapB (fun x=>Value.agg (encArc x).toArray) unitV (some g.2.2.2.2.2.2.1) (FM.emp:FM Arc Unit)]) (fun g=>g.2.2.2.2.2.2.2) (fun g=>comp_Compose_j1 x1 x0 g.1=some r∧RZ g.2.2.2.2.2.2.2 (pkSl 8 encArc encArc_len) (.slice g.2.2.1 g.1.length g.2.2.2.1) g.1∧Zn (List.replicate x1.states.toNat (nilN:NP Tip)) (List.replicate x1.states.toNat ([]:List Tip))∧Store.le σ g.2.2.2.2.2.2.2) ?_ (fun g j hg=> ?_)))
 ·skip
  obtain ⟨v28,u28,hh⟩:=bnd_e hh
  have u31:=grd_c hh
  replace hh:=grd_t hh
  refine TC.draw [] (by kernel_rfl) (TA.b 0 z (loadAll z ag25 sz25 z (i:=2) z z) z (TA.b 1 z (loadAll z ag25 sz25 z (i:=1) z z) z (TA.b 2 z (loadAll z ag25 sz25 z (i:=1) z z) z (TA.a 4 z (fieldLoc z fo25_0 z) z (TA.b 5 z (loadLoc z ag3 z (i:=1) z z) z ?_)))))
  refine TA.actN [3,6,7] (by kernel_rfl) (an rfl rfl (OpOk.call (comp_leaving_con (x0:=x1) f1_0 f1_1 f1_2 u28) rfl rfl pf22 rfl rfl rfl rfl ?_) (an rfl rfl (makeN (q:=x1.states.toNat) (E:=43) (size:=2) (enc:=encTip) rfl underlying70 sz22 by22 ze22 rfl rfl (vN u31.1) (vN u31.1) (by omega) (by decide) rfl (fun a132 c133 zf134=>(k1 ?_))) (an rfl rfl (makeMapB (enc:=(fun x=>Value.agg (encArc x).toArray)) (encV:=unitV) rfl rfl rfl (fun b136=>(k1 ?_))) (True.intro))))
  ·skip
   rintro _ τ131 _ hle131 ⟨a131_1,c131_1,rfl,hr131_0,rfl⟩
   replace f0_0:=f0_0.mono hle131
   replace f0_1:=f0_1.mono hle131
   replace f0_2:=f0_2.mono hle131
   replace f1_0:=f1_0.mono hle131
   replace f1_1:=f1_1.mono hle131
   replace f1_2:=f1_2.mono hle131
   have hr131_0b:=hr131_0.big
   refine kl 0 hle131 (TA.actN [6,7] (by kernel_rfl) (an rfl rfl (makeN (q:=x1.states.toNat) (E:=43) (size:=2) (enc:=encTip) rfl underlying70 sz22 by22 ze22 rfl rfl (vN u31.1) (vN u31.1) (by omega) (by decide) rfl (fun a138 c139 zf140=>(kl 1 hle131 ?_))) (an rfl rfl (makeMapB (enc:=(fun x=>Value.agg (encArc x).toArray)) (encV:=unitV) rfl rfl rfl (fun b142=>(kl 1 hle131 ?_))) (True.intro))))
   ·skip
    refine TA.ac 7 z (makeMapB (enc:=(fun x=>Value.agg (encArc x).toArray)) (encV:=unitV) z z z (fun b144=>(kl 2 hle131 ?_)))
    refine TA.a 8 z (buildL z pl75 ze75 z) z (TA.ac 9 z (boxA z z z z (fun b146=>(kl 3 hle131 ?_))))
    exact TA.a 10 z (moveLoc (.inr z) z) z (TA.dn (S.n (cf (v28,(b146,a131_1,c131_1,a138,c139,b144,τ131)) ⟨hh,hr131_0,zf140,hle131⟩ (Sub.f [1,2,2,3,4,5] 6))))
   skip
   refine TA.ac 6 rfl (makeN (q:=x1.states.toNat) (E:=43) (size:=2) (enc:=encTip) rfl underlying70 sz22 by22 ze22 rfl rfl (vN u31.1) (vN u31.1) (by omega) (by decide) rfl (fun a148 c149 zf150=>(kl 2 hle131 ?_)))
   refine TA.a 8 z (buildL z pl75 ze75 z) z (TA.ac 9 z (boxA z z z z (fun b152=>(kl 3 hle131 ?_))))
   exact TA.a 10 z (moveLoc (.inr z) z) z (TA.dn (S.n (cf (v28,(b152,a131_1,c131_1,a148,c149,b142,τ131)) ⟨hh,hr131_0,zf150,hle131⟩ (Sub.f [2,2,2,3,4,5] 6))))
  ·skip
   refine TA.actN [3,7] (by kernel_rfl) (an z z (OpOk.call (comp_leaving_con (x0:=x1) f1_0 f1_1 f1_2 u28) z z pf22 z z z z ?_) (an z z (makeMapB (enc:=(fun x=>Value.agg (encArc x).toArray)) (encV:=unitV) z z z (fun b155=>(k2 ?_))) (True.intro)))
   ·skip
    rintro _ τ154 _ hle154 ⟨a154_1,c154_1,rfl,hr154_0,rfl⟩
    replace f0_0:=f0_0.mono hle154
    replace f0_1:=f0_1.mono hle154
    replace f0_2:=f0_2.mono hle154
    replace f1_0:=f1_0.mono hle154
    replace f1_1:=f1_1.mono hle154
    replace f1_2:=f1_2.mono hle154
    have hr154_0b:=hr154_0.big
    refine kl 1 hle154 (TA.ac 7 z (makeMapB (enc:=(fun x=>Value.agg (encArc x).toArray)) (encV:=unitV) z z z (fun b157=>(kl 2 hle154 ?_))))
    refine TA.a 8 z (buildL z pl75 ze75 z) z (TA.ac 9 z (boxA z z z z (fun b159=>(kl 3 hle154 ?_))))
    exact TA.a 10 z (moveLoc (.inr z) z) z (TA.dn (S.n (cf (v28,(b159,a154_1,c154_1,a132,c133,b157,τ154)) ⟨hh,hr154_0,zf134,hle154⟩ (Sub.f [1,2,2,3,4,5] 6))))
   skip
   refine TA.ac 3 z (OpOk.call (comp_leaving_con (x0:=x1) f1_0 f1_1 f1_2 u28) z z pf22 z z z z ?_)
   rintro _ τ161 _ hle161 ⟨a161_1,c161_1,rfl,hr161_0,rfl⟩
   replace f0_0:=f0_0.mono hle161
   replace f0_1:=f0_1.mono hle161
   replace f0_2:=f0_2.mono hle161
   replace f1_0:=f1_0.mono hle161
   replace f1_1:=f1_1.mono hle161
   replace f1_2:=f1_2.mono hle161
   have hr161_0b:=hr161_0.big
   refine kl 2 hle161 (TA.a 8 z (buildL z pl75 ze75 z) z (TA.ac 9 z (boxA z z z z (fun b162=>(kl 3 hle161 ?_)))))
   exact TA.a 10 z (moveLoc (.inr z) z) z (TA.dn (S.n (cf (v28,(b162,a161_1,c161_1,a132,c133,b155,τ161)) ⟨hh,hr161_0,zf134,hle161⟩ (Sub.f [1,2,2,3,4,5] 6))))
  skip
  refine TA.actN [3,6] (by kernel_rfl) (an rfl rfl (OpOk.call (comp_leaving_con (x0:=x1) f1_0 f1_1 f1_2 u28) rfl rfl pf22 rfl rfl rfl rfl ?_) (an rfl rfl (makeN (q:=x1.states.toNat) (E:=43) (size:=2) (enc:=encTip) rfl underlying70 sz22 by22 ze22 rfl rfl (vN u31.1) (vN u31.1) (by omega) (by decide) rfl (fun a165 c166 zf167=>(k2 ?_))) (True.intro)))
  ·skip
   rintro _ τ164 _ hle164 ⟨a164_1,c164_1,rfl,hr164_0,rfl⟩
   replace f0_0:=f0_0.mono hle164
   replace f0_1:=f0_1.mono hle164
   replace f0_2:=f0_2.mono hle164
   replace f1_0:=f1_0.mono hle164
   replace f1_1:=f1_1.mono hle164
   replace f1_2:=f1_2.mono hle164
   have hr164_0b:=hr164_0.big
   refine kl 1 hle164 (TA.ac 6 rfl (makeN (q:=x1.states.toNat) (E:=43) (size:=2) (enc:=encTip) rfl underlying70 sz22 by22 ze22 rfl rfl (vN u31.1) (vN u31.1) (by omega) (by decide) rfl (fun a169 c170 zf171=>(kl 2 hle164 ?_))))
   refine TA.a 8 z (buildL z pl75 ze75 z) z (TA.ac 9 z (boxA z z z z (fun b173=>(kl 3 hle164 ?_))))
   exact TA.a 10 z (moveLoc (.inr z) z) z (TA.dn (S.n (cf (v28,(b173,a164_1,c164_1,a169,c170,b136,τ164)) ⟨hh,hr164_0,zf171,hle164⟩ (Sub.f [2,2,2,3,4,5] 6))))
  skip
  refine TA.ac 3 z (OpOk.call (comp_leaving_con (x0:=x1) f1_0 f1_1 f1_2 u28) z z pf22 z z z z ?_)
  rintro _ τ175 _ hle175 ⟨a175_1,c175_1,rfl,hr175_0,rfl⟩
  replace f0_0:=f0_0.mono hle175
  replace f0_1:=f0_1.mono hle175
  replace f0_2:=f0_2.mono hle175
  replace f1_0:=f1_0.mono hle175
  replace f1_1:=f1_1.mono hle175
  replace f1_2:=f1_2.mono hle175
  have hr175_0b:=hr175_0.big
  refine kl 2 hle175 (TA.a 8 z (buildL z pl75 ze75 z) z (TA.ac 9 z (boxA z z z z (fun b176=>(kl 3 hle175 ?_)))))
  exact TA.a 10 z (moveLoc (.inr z) z) z (TA.dn (S.n (cf (v28,(b176,a175_1,c175_1,a165,c166,b136,τ175)) ⟨hh,hr175_0,zf167,hle175⟩ (Sub.f [2,2,2,3,4,5] 6))))
 skip
 obtain ⟨l112,⟨b111,a113,c114,a117,c118,b121,τ178⟩⟩:=g
 obtain ⟨hh,hr115,zf119,hle179⟩:=hg
 try dsimp only at hr115
 try dsimp only at zf119
 dsimp only at hle179
 replace f0_0:=f0_0.mono hle179
 replace f0_1:=f0_1.mono hle179
 replace f0_2:=f0_2.mono hle179
 replace f1_0:=f1_0.mono hle179
 replace f1_1:=f1_1.mono hle179
 replace f1_2:=f1_2.mono hle179
 try dsimp only
 dsimp only [comp_Compose_j1]at hh
 have hr115b:=hr115.big
 have zf119b:=zf119.len
 refine TC.know (isSl_nest (q:=4) z zf119) (fun ⟨_,hb180⟩=> ?_)
 refine TC.seq (TC.a (TL.i z z (TL.en (TC.block (TC.unrolls 3 (UN.step (TC.a (TL.w z (OpVal.of (OpVal.lss z z z) (v':= .bool true) z) (TL.en (TC.seq (TC.t z (TC.skip (S.n (TC.seq (TC.block ?_)))))))))))))))
 refine TC.a (TL.i z z (TL.i z z (TL.en (TC.region (TL.l z z (TL.i z z (TL.op z (makeMapB (enc:=(fun x=>Value.agg (encTip x).toArray)) (encV:=unitV) z z z (fun b181=> ?_)))))))))
 refine TL.w z (nilCheckLoc z z) (TL.w z (fieldLoc z fo75_5 z) (TL.w z (OpVal.of (indexArrN (i:=0) z underlying73 sz72 z z (by decide)) (v':=loc b111 11) z) (TL.front 4 z z (TL.op z (storeMap z sz72 z z z z z ?_)))))
 refine TL.nil (B.n (S.n (TC.region (TL.w z (OpVal.of (OpVal.succ (k:=0) z z z (by omega)) (v':= .int .i64 1) z) (TL.i z z (TL.en (UN.step (TC.a (TL.w z (OpVal.of (OpVal.lss z z z) (v':= .bool true) z) (TL.en (TC.seq (TC.t z (TC.skip (S.n (TC.seq ?_)))))))))))))))
 refine TC.block (TC.a (TL.i z z (TL.i z z (TL.en (TC.region (TL.l z z (TL.i z z (TL.op z (makeMapB (enc:=(fun x=>Value.agg (encTip x).toArray)) (encV:=unitV) z z z (fun b183=> ?_))))))))))
 refine TL.w z (nilCheckLoc z z) (TL.w z (fieldLoc z fo75_5 z) (TL.w z (OpVal.of (indexArrN (i:=1) z underlying73 sz72 z z (by decide)) (v':=loc b111 12) z) (TL.front 1 z z (TL.op z (storeMap z sz72 z z z z z ?_)))))
 refine TL.nil (B.n (S.n (TC.region (TL.w z (OpVal.of (OpVal.succ (k:=1) z z z (by omega)) (v':= .int .i64 2) z) (TL.i z z (TL.en (UN.step (TC.a (TL.w z (OpVal.of (OpVal.lss z z z) (v':= .bool false) z) (TL.en (TC.seq (TC.f z (TC.exit (S.x (S.x ?_)))))))))))))))
 refine TC.exitHere (S.n (TC.seq (TC.a (TL.w z (fieldLoc z fo25_2 z) (TL.w z (loadLoc z ag22 z (i:=4) z z) (TL.w z (lenC z underlying22 z) (TL.i z z (TL.en (TC.block (TC.loopG (α:=((List (List Tip))×Nat)×((List (NP Tip)))) (rgs [(9,1),(51,23)]) (fun g=>[(51,.int .i64 ((g.1.2:Nat):Int))]) (fun g=>[Res.cells b101 #[.int .i64 x0.states,.slice a0_0 x0.starts.length c0_0,.slice a0_1 x0.ends.length c0_1,.slice a0_2 x0.arcs.length c0_2] 25,Res.cells b103 #[.int .i64 x1.states,.slice a1_0 x1.starts.length c1_0,.slice a1_1 x1.ends.length c1_1,.slice a1_2 x1.arcs.length c1_2] 25,Res.cells b105 #[.int .i64 0,.slice none 0 0,.slice none 0 0,.slice none 0 0] 25,Res.cells b111 #[.int .i64 x0.states,.slice a0_0 x0.starts.length c0_0,.slice a0_1 x0.ends.length c0_1,.slice a0_2 x0.arcs.length c0_2,.int .i64 x1.states,.slice a1_0 x1.starts.length c1_0,.slice a1_1 x1.ends.length c1_1,.slice a1_2 x1.arcs.length c1_2,.slice a113 l112.length c114,.slice a117 ((List.replicate x1.states.toNat ([]:List Tip)).length) c118,.map (some b121),.map (some b181),.map (some b183),.int .i64 0,.slice none 0 0,.slice none 0 0,.slice none 0 0,.bool false] 75,Res.nest 22 43 2 encTip (.slice a117 (List.replicate x1.states.toNat ([]:List Tip)).length c118) g.2,Res.mapB (fun x=>Value.agg (encArc x).toArray) unitV (some b121) (FM.emp:FM Arc Unit),Res.mapB (fun x=>Value.agg (encTip x).toArray) unitV (some b181) (FM.emp:FM Tip Unit),Res.mapB (fun x=>Value.agg (encTip x).toArray) unitV (some b183) (FM.emp:FM Tip Unit)]) (fun g=>τ178) (fun g=>iter (fun q:(List (List Tip))×Nat=>comp_Compose_b1 x1 x0 l112 q.1 q.2) g.1=some r∧g.1.1.length=(List.replicate x1.states.toNat ([]:List Tip)).length∧Zn g.2 g.1.1) (fun g=>rounds (fun q:(List (List Tip))×Nat=>comp_Compose_b1 x1 x0 l112 q.1 q.2) g.1) (((List.replicate x1.states.toNat ([]:List Tip)),0),(List.replicate x1.states.toNat (nilN:NP Tip))) (Sub.f [1,2,7,7,4,7,7,7] 8) z (by repeat (first|exact trivial|refine ⟨z,?_⟩)) ⟨hh,z,zf119⟩ (fun g1 j1 hg1=> ?_)))))))))))
 obtain ⟨⟨l196,k200⟩,z198⟩:=g1
 obtain ⟨hh,hn197,zf199⟩:=hg1
 try dsimp only at hn197 zf199 ⊢
 obtain ⟨z1,hh,hR1⟩:=iter_e hh
 dsimp only [comp_Compose_b1]at hh
 have hn197b:=hn197
 have zf199b:=zf199.len
 refine TC.know (isSl_nest (q:=4) z zf199) (fun ⟨_,hb201⟩=> ?_)
 refine TC.a (TL.w z (OpVal.lss z z z) (TL.en (TC.seq (TC.cD z hh (fun h202 hh=> ?_) (fun h202 hh=> ?_)))))
 ·refine TC.skip (S.n (TC.cutG (α:=(Unit)×((List (NP Tip)))) (rgs [(9,1),(53,20)]) (fun g=>[]) (fun g=>[Res.cells b101 #[.int .i64 x0.states,.slice a0_0 x0.starts.length c0_0,.slice a0_1 x0.ends.length c0_1,.slice a0_2 x0.arcs.length c0_2] 25,Res.cells b103 #[.int .i64 x1.states,.slice a1_0 x1.starts.length c1_0,.slice a1_1 x1.ends.length c1_1,.slice a1_2 x1.arcs.length c1_2] 25,Res.cells b105 #[.int .i64 0,.slice none 0 0,.slice none 0 0,.slice none 0 0] 25,Res.cells b111 #[.int .i64 x0.states,.slice a0_0 x0.starts.length c0_0,.slice a0_1 x0.ends.length c0_1,.slice a0_2 x0.arcs.length c0_2,.int .i64 x1.states,.slice a1_0 x1.starts.length c1_0,.slice a1_1 x1.ends.length c1_1,.slice a1_2 x1.arcs.length c1_2,.slice a113 l112.length c114,.slice a117 ((List.replicate x1.states.toNat ([]:List Tip)).length) c118,.map (some b121),.map (some b181),.map (some b183),.int .i64 0,.slice none 0 0,.slice none 0 0,.slice none 0 0,.bool false] 75,Res.nest 22 43 2 encTip (.slice a117 (List.replicate x1.states.toNat ([]:List Tip)).length c118) g.2,Res.mapB (fun x=>Value.agg (encArc x).toArray) unitV (some b121) (FM.emp:FM Arc Unit),Res.mapB (fun x=>Value.agg (encTip x).toArray) unitV (some b181) (FM.emp:FM Tip Unit),Res.mapB (fun x=>Value.agg (encTip x).toArray) unitV (some b183) (FM.emp:FM Tip Unit)]) (fun g=>τ178) (fun g=>comp_Compose_j2 l196 x1 k200=some z1∧(l196.set (((nth x1.ends k200 Tip.zero).state).toNat) ((nth l196 (((nth x1.ends k200 Tip.zero).state).toNat) ([]:List Tip))++[(nth x1.ends k200 Tip.zero)])).length=(List.replicate x1.states.toNat ([]:List Tip)).length∧Zn g.2 (l196.set (((nth x1.ends k200 Tip.zero).state).toNat) ((nth l196 (((nth x1.ends k200 Tip.zero).state).toNat) ([]:List Tip))++[(nth x1.ends k200 Tip.zero)]))) ?_ (fun g j hg=> ?_)))
  ·skip
   refine TC.block (TC.a (TL.w z (indexN z underlying22 sz43 z z f1_1.rv.sl (by omega)) (TL.w z (loadSA Tip.zero z ag43 sz43 z f1_1 (by omega) (by omega)) (TL.op z (OpOk.alloc z ze43 z z (fun b206=> ?_))))))
   refine TL.op z (storeAll z sz43 z z z z z z ?_)
   refine TL.en ?_
   have u70:=grd_c hh
   replace hh:=grd_t hh
   have u74:=grd_c hh
   replace hh:=grd_t hh
   have u75:=grd_c hh
   replace hh:=grd_t hh
   refine TC.drawR (Hr:=[Res.cells b206 #[.int .i64 ((nth x1.ends k200 Tip.zero).state),.string (bs ((nth x1.ends k200 Tip.zero).out))] 43,Res.cells b101 #[.int .i64 x0.states,.slice a0_0 x0.starts.length c0_0,.slice a0_1 x0.ends.length c0_1,.slice a0_2 x0.arcs.length c0_2] 25,Res.cells b103 #[.int .i64 x1.states,.slice a1_0 x1.starts.length c1_0,.slice a1_1 x1.ends.length c1_1,.slice a1_2 x1.arcs.length c1_2] 25,Res.cells b105 #[.int .i64 0,.slice none 0 0,.slice none 0 0,.slice none 0 0] 25,Res.cells b111 #[.int .i64 x0.states,.slice a0_0 x0.starts.length c0_0,.slice a0_1 x0.ends.length c0_1,.slice a0_2 x0.arcs.length c0_2,.int .i64 x1.states,.slice a1_0 x1.starts.length c1_0,.slice a1_1 x1.ends.length c1_1,.slice a1_2 x1.arcs.length c1_2,.slice a113 l112.length c114,.slice a117 ((List.replicate x1.states.toNat ([]:List Tip)).length) c118,.map (some b121),.map (some b181),.map (some b183),.int .i64 0,.slice none 0 0,.slice none 0 0,.slice none 0 0,.bool false] 75,Res.mapB (fun x=>Value.agg (encArc x).toArray) unitV (some b121) (FM.emp:FM Arc Unit),Res.mapB (fun x=>Value.agg (encTip x).toArray) unitV (some b181) (FM.emp:FM Tip Unit),Res.mapB (fun x=>Value.agg (encTip x).toArray) unitV (some b183) (FM.emp:FM Tip Unit)]) (fun r hr=>mem_pick [0,1,2,3,4,6,7,8] z hr) [] (by kernel_rfl) (TA.a 0 z (moveLoc (.inl z) z) z (TA.a 1 z (nilCheckLoc z z) z (TA.a 2 z (fieldLoc z fo75_3 z) z (TA.b 3 z (loadLoc z ag70 z (i:=4) z z) z (TA.a 4 z (fieldLoc z fo43_0 z) z (TA.b 5 z (loadLoc z ag3 z (i:=0) z z) z (TA.a 6 z (moveLoc (.inl z) z) z (TA.a 7 z (nilCheckLoc z z) z (TA.a 8 z (fieldLoc z fo75_3 z) z (TA.b 9 z (loadLoc z ag70 z (i:=4) z z) z (TA.a 10 z (fieldLoc z fo43_0 z) z (TA.b 11 z (loadLoc z ag3 z (i:=0) z z) z (TA.know (isSl_nest (q:=5) z zf199) (fun ⟨hs219,hs219b⟩=> ?_))))))))))))))
   refine TA.b 12 z (OpVal.index z underlying70 sz22 z z hs219 u70.1 u70.2) z (TA.b 14 z (loadAll z ag43 sz43 z (i:=0) z z) z ?_)
   obtain ⟨p220,hz220,hm220⟩:=Zn.at zf199 (i:=((nth x1.ends k200 Tip.zero).state).toNat) (by omega)
   refine TA.actN [13,15] (by kernel_rfl) (an z z (OpVal.ok (loadN z ag22 z (q:=5) z hz220 hm220) z z ⟨(fun w h=>sees_of (Store.le.refl _) (fun r hr=>mem_pick [0,1,2,3,4,6,7,8] z hr) w h),?_⟩) (an z z (OpOk.lit (enc:=encTip) [(nth x1.ends k200 Tip.zero)] z underlying22 sz43 ze43 z z z encTip_len (by decide) (by decide) Tip.zero z (by decide) z (by decide) encTip_one (fun a221 c222=>⟨(fun w h=>sees_of (Store.le.refl _) (fun r hr=>mem_pick [1,2,3,4,5,7,8,9] z hr) w h),?_⟩)) (True.intro)))
   ·skip
    refine TA.ac 15 z (OpOk.lit (enc:=encTip) [(nth x1.ends k200 Tip.zero)] z underlying22 sz43 ze43 z z z encTip_len (by decide) (by decide) Tip.zero z (by decide) z (by decide) encTip_one (fun a224 c225=>⟨(fun w h=>sees_of (Store.le.refl _) (fun r hr=>mem_pick [1,2,3,4,5,7,8,9] z hr) w h),?_⟩))
    refine TA.front 6 z z (TA.by (fun w h=>Reach.takeN hz220 hm220 h) (TA.ac 16 z (appendS z z underlying22 sz43 by43 ze43 z z (by decide) z z z (.inr ⟨_,1,z⟩) (by simpa using u74) (by decide) (fun a228 c229=>(k3 ?_)))))
    refine TA.know (isSl_nestX (q:=1) z zf199) (fun ⟨hs230,hs230b⟩=> ?_)
    refine TA.b 17 z (OpVal.index z underlying70 sz22 z z hs230 u75.1 u75.2) z (TA.front 1 z z (TA.front 1 z z ?_))
    have hn232:(l196.set (((nth x1.ends k200 Tip.zero).state).toNat) ((nth l196 (((nth x1.ends k200 Tip.zero).state).toNat) ([]:List Tip))++[(nth x1.ends k200 Tip.zero)])).length=(List.replicate x1.states.toNat ([]:List Tip)).length:=(List.length_set ..).trans hn197
    refine TA.ac 18 rfl (storeX (l':=((nth l196 (((nth x1.ends k200 Tip.zero).state).toNat) ([]:List Tip))++[(nth x1.ends k200 Tip.zero)])) rfl sz22 rfl rfl rfl rfl rfl (by rw [zf199.len];omega) zf199 (fun zf231=>(k2 ?_)))
    exact TA.dn (B.n (S.n (cf ((),(z198.set (((nth x1.ends k200 Tip.zero).state).toNat) (((nth l196 (((nth x1.ends k200 Tip.zero).state).toNat) ([]:List Tip))++[(nth x1.ends k200 Tip.zero)]),(a228,c229)))) ⟨hh,hn232,zf231⟩ (Sub.f [9,9,9,3,9,9,9,9] 8))))
   skip
   obtain ⟨p233,hz233,hm233⟩:=Zn.at zf199 (i:=((nth x1.ends k200 Tip.zero).state).toNat) (by omega)
   refine TA.ac 13 z (OpVal.ok (loadN z ag22 z (q:=6) z hz233 hm233) z z ⟨(fun w h=>sees_of (Store.le.refl _) (fun r hr=>mem_pick [1,2,3,4,5,7,8,9] z hr) w h),?_⟩)
   refine TA.front 6 z z (TA.by (fun w h=>Reach.takeN hz233 hm233 h) (TA.ac 16 z (appendS z z underlying22 sz43 by43 ze43 z z (by decide) z z z (.inr ⟨_,1,z⟩) (by simpa using u74) (by decide) (fun a235 c236=>(k3 ?_)))))
   refine TA.know (isSl_nestX (q:=1) z zf199) (fun ⟨hs237,hs237b⟩=> ?_)
   refine TA.b 17 z (OpVal.index z underlying70 sz22 z z hs237 u75.1 u75.2) z (TA.front 1 z z (TA.front 1 z z ?_))
   have hn239:(l196.set (((nth x1.ends k200 Tip.zero).state).toNat) ((nth l196 (((nth x1.ends k200 Tip.zero).state).toNat) ([]:List Tip))++[(nth x1.ends k200 Tip.zero)])).length=(List.replicate x1.states.toNat ([]:List Tip)).length:=(List.length_set ..).trans hn197
   refine TA.ac 18 rfl (storeX (l':=((nth l196 (((nth x1.ends k200 Tip.zero).state).toNat) ([]:List Tip))++[(nth x1.ends k200 Tip.zero)])) rfl sz22 rfl rfl rfl rfl rfl (by rw [zf199.len];omega) zf199 (fun zf238=>(k2 ?_)))
   exact TA.dn (B.n (S.n (cf ((),(z198.set (((nth x1.ends k200 Tip.zero).state).toNat) (((nth l196 (((nth x1.ends k200 Tip.zero).state).toNat) ([]:List Tip))++[(nth x1.ends k200 Tip.zero)]),(a235,c236)))) ⟨hh,hn239,zf238⟩ (Sub.f [9,9,9,3,9,9,9,9] 8))))
  skip
  obtain ⟨_,z204⟩:=g
  obtain ⟨hh,hn203,zf205⟩:=hg
  try dsimp only at hn203 zf205 ⊢
  dsimp only [comp_Compose_j2]at hh
  have hn203b:=hn203
  have zf205b:=zf205.len
  refine TC.know (isSl_nest (q:=4) z zf205) (fun ⟨_,hb240⟩=> ?_)
  refine TC.region (TL.w z (OpVal.succ z z z (by omega)) (TL.i z z (TL.en ?_)))
  obtain ⟨hh,hlt241⟩:=nxt_x hR1 hh
  exact lf (((l196.set (((nth x1.ends k200 Tip.zero).state).toNat) ((nth l196 (((nth x1.ends k200 Tip.zero).state).toNat) ([]:List Tip))++[(nth x1.ends k200 Tip.zero)])),(k200+1)),z204) hlt241 ⟨hh,hn203,zf205⟩ (Sub.f [7,7,7,7,7,7,7,7] 8)
 refine TC.exit (S.x (S.x ?_))
 replace hh:=fin_x hR1 hh
 refine TC.exitHere (S.n (TC.a (TL.l z z (TL.w z (fieldLoc z fo25_0 z) (TL.w z (loadLoc z ag3 z (i:=0) z z) (TL.w z (fieldLoc z fo25_0 z) (TL.w z (loadLoc z ag3 z (i:=1) z z) (TL.w z (mulW z z z) (TL.w z (nilCheckLoc z z) (TL.w z (fieldLoc z fo75_6 z) (TL.w z (fieldLoc z fo25_0 z) (TL.front 3 z z (TL.op z (storeI z sz3 z z z z z ?_))))))))))))))
 refine TL.en (TC.seq (TC.a (TL.l z z (TL.w z (makeFn z) (TL.l z z (TL.w z (makeFn z) (TL.l z z (TL.w z (makeFn z) (TL.op z (OpOk.lit (enc:=encFn) ([⟨.func (.func 23) #[loc b111 0] #[],z⟩,⟨.func (.func 24) #[loc b111 0] #[],z⟩,⟨.func (.func 25) #[loc b111 0] #[],z⟩]:List FnV) z underlying76 sz1 ze1 z z z encFn_len (by decide) (by decide) FnV.nil z (by decide) z (by decide) encFn_one (fun a242 c243=> ?_)))))))))))
 refine TL.w z (OpVal.of (lenC z underlying76 z) (v':= .int .i64 3) z) (TL.i z z (TL.en (TC.block (TC.unrolls 4 (UN.step (TC.a (TL.w z (OpVal.of (OpVal.lss z z z) (v':= .bool true) z) (TL.en (TC.seq (TC.t z (TC.skip (S.n (TC.seq (TC.block (TC.a ?_)))))))))))))))
 refine TL.isSl (i:=0) z (fun hs245 _ _=> ?_)
 refine TL.w z (indexN (i:=0) z underlying76 sz1 z z hs245 (show 0<3 from by decide)) (TL.w z (loadO1 FnV.nil z ag1 z (q:=0) z encFn_len (show 0<3 from by decide) z) (TL.w z (moveFn (.inr z) z) (TL.en (TC.a (TL.w z (moveFn (.inl z) z) ?_)))))
 rw [←hn197]
 refine TL.front 5 z z (TL.seals (fun w h=>Reach.sealNest encTip_len zf199 h) (fun τ248 hle247 hr246=> ?_))
 replace f0_0:=f0_0.mono hle247
 replace f0_1:=f0_1.mono hle247
 replace f0_2:=f0_2.mono hle247
 replace f1_0:=f1_0.mono hle247
 replace f1_1:=f1_1.mono hle247
 replace f1_2:=f1_2.mono hle247
 replace hr115:=hr115.mono hle247
 have hr246b:=hr246.big
 refine TL.nilS 43 2 encTip (TL.nilS 43 2 encTip (TL.nilS 66 8 encArc (TL.front 1 z z (TL.front 2 z z (TL.front 10 z z (TL.front 10 z z (TL.front 10 z z (TL.front 7 z z ?_))))))))
 obtain ⟨v103,u103,hh⟩:=bnd_e hh
 refine TL.op z (OpOk.call (comp_chain_starts_con (x0:=(⟨x0,x1,l112,l196,(FM.emp:FM Arc Unit),(⟨(FM.emp:FM Tip Unit),(FM.emp:FM Tip Unit)⟩:TwoM),(⟨IntKind.i64.wrap (x0.states * x1.states),([]:List Tip),([]:List Tip),([]:List Arc)⟩:Fst),false⟩:Chain)) f0_0 f0_1 f0_2 f1_0 f1_1 f1_2 hr115 hr246 u103) z z pf23 z z z z ?_)
 rintro _ _ _ hle252 ⟨b252_1,a252_2,c252_3,rfl,rfl,rfl⟩
 refine TL.en (TC.a (TL.l z z (TL.w z (nilCheckLoc z z) (TL.w z (fieldLoc z fo75_7 z) (TL.w z (loadLoc z ag4 z (i:=0) z z) (TL.en (TC.cB z hh (fun h255 hh=> ?_) (fun h255 hh=> ?_))))))))
 ·refine TC.a (TL.w z (buildL z pl25 ze25 z) (TL.front 10 z z (TL.op z (storeAll z sz25 z z z z z z ?_))))
  refine TL.i z z (TL.en (TC.rt 1 (B.r (S.r (S.r (B.r (S.r ?_)))))))
  obtain rfl:=so hh
  exact ro [] z (RVs.agg ag25 sz25 z (i:=0) z z (RVs.tmp z RVs.nil)) ⟨none,0,none,0,none,0,z,(RS.nilF _ encTip encTip_len),(RS.nilF _ encTip encTip_len),(RS.nilF _ encArc encArc_len),z⟩
 refine TC.skip (B.n (S.n (TC.region (TL.w z (OpVal.of (OpVal.succ (k:=0) z z z (by omega)) (v':= .int .i64 1) z) (TL.i z z (TL.en (UN.step (TC.a (TL.w z (OpVal.of (OpVal.lss z z z) (v':= .bool true) z) (TL.en (TC.seq (TC.t z (TC.skip (S.n (TC.seq ?_)))))))))))))))
 refine TC.block (TC.a (TL.isSl (i:=7) z (fun hs256 _ _=> ?_)))
 refine TL.w z (indexN (i:=1) z underlying76 sz1 z z hs256 (show 1<3 from by decide)) (TL.w z (loadO1 FnV.nil z ag1 z (q:=7) z encFn_len (show 1<3 from by decide) z) (TL.w z (moveFn (.inr z) z) (TL.en (TC.a (TL.w z (moveFn (.inl z) z) (TL.front 6 z z (TL.front 6 z z (TL.front 6 z z (TL.front 6 z z (TL.front 6 z z (TL.front 6 z z (TL.front 6 z z ?_))))))))))))
 obtain ⟨v103y,u103y,hh⟩:=bnd_e hh
 refine TL.op z (OpOk.call (comp_chain_stops_con (x0:=(⟨x0,x1,l112,l196,(FM.emp:FM Arc Unit),(⟨v103.tips.s,(FM.emp:FM Tip Unit)⟩:TwoM),(⟨IntKind.i64.wrap (x0.states * x1.states),v103.whole.starts,([]:List Tip),([]:List Arc)⟩:Fst),v103.over⟩:Chain)) f0_0 f0_1 f0_2 f1_0 f1_1 f1_2 hr115 hr246 u103y) z z pf24 z z z z ?_)
 rintro _ _ _ hle257 ⟨b257_1,a257_2,c257_3,rfl,rfl,rfl⟩
 refine TL.en (TC.a (TL.l z z (TL.w z (nilCheckLoc z z) (TL.w z (fieldLoc z fo75_7 z) (TL.w z (loadLoc z ag4 z (i:=0) z z) (TL.en (TC.cB z hh (fun h260 hh=> ?_) (fun h260 hh=> ?_))))))))
 ·refine TC.a (TL.w z (buildL z pl25 ze25 z) (TL.front 10 z z (TL.op z (storeAll z sz25 z z z z z z ?_))))
  refine TL.i z z (TL.en (TC.rt 1 (B.r (S.r (S.r (B.r (S.r ?_)))))))
  obtain rfl:=so hh
  exact ro [] z (RVs.agg ag25 sz25 z (i:=0) z z (RVs.tmp z RVs.nil)) ⟨none,0,none,0,none,0,z,(RS.nilF _ encTip encTip_len),(RS.nilF _ encTip encTip_len),(RS.nilF _ encArc encArc_len),z⟩
 refine TC.skip (B.n (S.n (TC.region (TL.w z (OpVal.of (OpVal.succ (k:=1) z z z (by omega)) (v':= .int .i64 2) z) (TL.i z z (TL.en (UN.step (TC.a (TL.w z (OpVal.of (OpVal.lss z z z) (v':= .bool true) z) (TL.en (TC.seq (TC.t z (TC.skip (S.n (TC.seq ?_)))))))))))))))
 refine TC.block (TC.a (TL.isSl (i:=7) z (fun hs261 _ _=> ?_)))
 refine TL.w z (indexN (i:=2) z underlying76 sz1 z z hs261 (show 2<3 from by decide)) (TL.w z (loadO1 FnV.nil z ag1 z (q:=7) z encFn_len (show 2<3 from by decide) z) (TL.w z (moveFn (.inr z) z) (TL.en (TC.a (TL.w z (moveFn (.inl z) z) (TL.front 6 z z (TL.front 6 z z (TL.front 6 z z (TL.front 6 z z (TL.front 6 z z (TL.front 6 z z (TL.front 6 z z ?_))))))))))))
 obtain ⟨v103yy,u103yy,hh⟩:=bnd_e hh
 refine TL.op z (OpOk.call (comp_chain_steps_con (x0:=(⟨x0,x1,l112,l196,(FM.emp:FM Arc Unit),(⟨v103.tips.s,v103y.tips.e⟩:TwoM),(⟨IntKind.i64.wrap (x0.states * x1.states),v103.whole.starts,v103y.whole.ends,([]:List Arc)⟩:Fst),v103y.over⟩:Chain)) f0_0 f0_1 f0_2 f1_0 f1_1 f1_2 hr115 hr246 u103yy) z z pf25 z z z z ?_)
 rintro _ _ _ hle262 ⟨b262_1,a262_2,c262_3,rfl,rfl,rfl⟩
 refine TL.en (TC.a (TL.l z z (TL.w z (nilCheckLoc z z) (TL.w z (fieldLoc z fo75_7 z) (TL.w z (loadLoc z ag4 z (i:=0) z z) (TL.en (TC.cB z hh (fun h265 hh=> ?_) (fun h265 hh=> ?_))))))))
 ·refine TC.a (TL.w z (buildL z pl25 ze25 z) (TL.front 10 z z (TL.op z (storeAll z sz25 z z z z z z ?_))))
  refine TL.i z z (TL.en (TC.rt 1 (B.r (S.r (S.r (B.r (S.r ?_)))))))
  obtain rfl:=so hh
  exact ro [] z (RVs.agg ag25 sz25 z (i:=0) z z (RVs.tmp z RVs.nil)) ⟨none,0,none,0,none,0,z,(RS.nilF _ encTip encTip_len),(RS.nilF _ encTip encTip_len),(RS.nilF _ encArc encArc_len),z⟩
 refine TC.skip (B.n (S.n (TC.region (TL.w z (OpVal.of (OpVal.succ (k:=2) z z z (by omega)) (v':= .int .i64 3) z) (TL.i z z (TL.en (UN.step (TC.a (TL.w z (OpVal.of (OpVal.lss z z z) (v':= .bool false) z) (TL.en (TC.seq (TC.f z (TC.exit (S.x (S.x ?_)))))))))))))))
 refine TC.exitHere (S.n (TC.a (TL.l z z (TL.w z (nilCheckLoc z z) (TL.w z (fieldLoc z fo75_6 z) (TL.w z (loadLocA z ag25 sz25 z (i:=0) z z z) (TL.front 4 z z (TL.sealS encTip_len (fun τ268 hle267 hr266=> ?_)))))))))
 have hr266b:=hr266.rv.big
 refine TL.front 4 z z (TL.sealS encTip_len (fun τ271 hle270 hr269=> ?_))
 replace hr266:=hr266.mono hle270
 have hr269b:=hr269.rv.big
 refine TL.front 4 z z (TL.sealS encArc_len (fun τ274 hle273 hr272=> ?_))
 replace hr266:=hr266.mono hle273
 replace hr269:=hr269.mono hle273
 have hr272b:=hr272.rv.big
 obtain ⟨v117yyy,u117yyy,hh⟩:=bnd_e hh
 refine TL.op z (OpOk.call (Ho_ (x0:=(⟨IntKind.i64.wrap (x0.states * x1.states),v103.whole.starts,v103y.whole.ends,v103yy.whole.arcs⟩:Fst)) hr266 hr269 hr272 u117yyy) z z pf26 z z z z ?_)
 rintro _ τ275 _ hle275 ⟨a275_1,c275_1,a275_2,c275_2,a275_3,c275_3,rfl,hr275_0,hr275_1,hr275_2,rfl⟩
 have hr275_0b:=hr275_0.rv.big
 have hr275_1b:=hr275_1.rv.big
 have hr275_2b:=hr275_2.rv.big
 refine TL.w z (OpVal.extract z z z) (TL.w z (OpVal.extract z z z) (TL.front 7 z z (TL.op z (storeAll z sz25 z z z z z z ?_))))
 refine TL.i z z (TL.en (TC.rt 1 ?_))
 obtain rfl:=so hh
 exact ro [] z (RVs.agg ag25 sz25 z (i:=0) z z (RVs.tmp z RVs.nil)) ⟨a275_1,c275_1,a275_2,c275_2,a275_3,c275_3,z,hr275_0,hr275_1,hr275_2,z⟩
end Go.Proofs.YtamgjehhjkgelaaGreatDoor
end

noncomputable section
namespace Go.Proofs.YtamgjehhjkgelaaGreatDoor
open Go Go.E
theorem state_con(σ:Store)(s n:Int):Con Tryz.prog 74 #[.int .i64 s,.int .i64 n] σ [] (PureP (.bool (stateB s n)) σ):=by
  refine Con.mk (n:=12) Tryz.func74 rfl rfl rfl (fun w0=> ?_)
  refine TC.seq ?_
  refine TC.region ?_
  refine TL.v rfl (OpVal.moveB (.inr rfl) rfl) rfl rfl ?_
  refine TL.nil ?_
  refine S.n ?_
  refine TC.seq ?_
  refine TC.region ?_
  refine TL.v rfl (OpVal.moveI (.inl rfl) rfl) rfl rfl ?_
  refine TL.v rfl (OpVal.leq rfl rfl rfl) rfl rfl ?_
  refine TL.v rfl (OpVal.moveB (.inl rfl) rfl) rfl rfl ?_
  refine TL.split 7 rfl (fun h1=> ?_) (fun h1=> ?_)
  · try simp only [decide_eq_true_eq,decide_eq_false_iff_not,Bool.not_eq_true',Bool.not_eq_false',Bool.not_eq_eq_eq_not,Bool.not_true,Bool.not_false,Int.not_lt,Int.not_le,Decidable.not_not]at h1
    refine TL.gv rfl rfl rfl rfl rfl (OpVal.moveI (.inl rfl) rfl) rfl rfl ?_
    refine TL.gv rfl rfl rfl rfl rfl (OpVal.moveI (.inl rfl) rfl) rfl rfl ?_
    refine TL.gv rfl rfl rfl rfl rfl (OpVal.lss rfl rfl rfl) rfl rfl ?_
    refine TL.v rfl (OpVal.pickTB rfl rfl rfl) rfl rfl ?_
    refine TL.v rfl (OpVal.moveB (.inr rfl) rfl) rfl rfl ?_
    refine TL.nil ?_
    refine S.n ?_
    refine TC.ret ?_
    -- leaf 1 ret [h1: t7=True] H=[]
    refine ret1P rfl (congrArg Value.bool ?_)
    simp [stateB, *]<;>omega
  try simp only [decide_eq_true_eq,decide_eq_false_iff_not,Bool.not_eq_true',Bool.not_eq_false',Bool.not_eq_eq_eq_not,Bool.not_true,Bool.not_false,Int.not_lt,Int.not_le,Decidable.not_not]at h1
  refine TL.goff rfl rfl rfl rfl rfl rfl rfl rfl ?_
  refine TL.goff rfl rfl rfl rfl rfl rfl rfl rfl ?_
  refine TL.goff rfl rfl rfl rfl rfl rfl rfl rfl ?_
  refine TL.v rfl (OpVal.pickFB rfl rfl rfl) rfl rfl ?_
  refine TL.v rfl (OpVal.moveB (.inr rfl) rfl) rfl rfl ?_
  refine TL.nil ?_
  refine S.n ?_
  refine TC.ret ?_
  -- leaf 2 ret [h1: t7=False] H=[]
  refine ret1P rfl (congrArg Value.bool ?_)
  simp [stateB, *]<;>omega
theorem rise_con (σ : Store) (a : Option Addr) (c : Nat) (l : List Int) (st : Int) (hl : RS σ 1 eI_ (.slice a l.length c) l) :
    Con Tryz.prog 73 #[.slice a l.length c,.int .i64 st] σ [] (PureP (.bool (riseB l st)) σ):=by
  have hb:=hl.rv.big
  refine Con.mk (n:=32) Tryz.func73 rfl rfl rfl (fun w0=> ?_)
  refine TC.seq ?_
  refine TC.region ?_
  refine TL.v rfl (OpVal.moveB (.inr rfl) rfl) rfl rfl ?_
  refine TL.nil ?_
  refine S.n ?_
  refine TC.seq ?_
  refine TC.seq ?_
  refine TC.region ?_
  refine TL.v rfl (OpVal.moveSl (.inl rfl) rfl) rfl rfl ?_
  refine TL.v rfl (OpVal.lenC rfl Tryz.underlying46 rfl) rfl rfl ?_
  refine TL.v rfl (OpVal.moveI (.inl rfl) rfl) rfl rfl ?_
  refine TL.nil ?_
  refine S.n ?_
  refine TC.block ?_
  refine TC.loopF (α:=Nat) [4,5,6,9,10,11,12,13,14,15,16,17,18,19,20,21,22,23,24,25,26,27,28,29,30,31] (fun k=>[(9,.int .i64 (k:Nat))]) (fun _=>_) (fun _=>_) (fun k=>k≤l.length∧ ∀i,i<k→riseFrom st l i=true) (fun k=>l.length - k) (0) (by first|exact True.intro|omega|(dsimp only;omega)|(simp;done)|(simp;omega)) (by repeat (first|exact trivial|refine ⟨rfl,?_⟩)) (by rfl) (by rfl) (fun g1 j1 hg1=> ?_)
  obtain ⟨hk,hi⟩:=hg1
  refine TC.seq ?_
  refine TC.region ?_
  refine TL.v rfl (OpVal.lss rfl rfl rfl) rfl rfl ?_
  refine TL.nil ?_
  refine S.n ?_
  refine TC.seq ?_
  refine TC.condD rfl (fun h1=> ?_) (fun h1=> ?_)
  · try simp only [decide_eq_true_eq, decide_eq_false_iff_not, Bool.not_eq_true', Bool.not_eq_false', Bool.not_eq_eq_eq_not, Bool.not_true, Bool.not_false, Int.not_lt, Int.not_le, Decidable.not_not] at h1
    refine TC.skip ?_
    refine S.n ?_
    refine TC.seq ?_
    refine TC.block ?_
    refine TC.seq ?_
    refine TC.region ?_
    refine TL.v rfl (OpVal.moveI (.inl rfl) rfl) rfl rfl ?_
    refine TL.v rfl (OpVal.indexN rfl Tryz.underlying46 sz3 rfl rfl (by first|assumption|exact (RS.rv (by assumption)).sl) (by omega)) rfl rfl ?_
    refine TL.v rfl (OpVal.loadS1 (0:Int) rfl ag3 rfl (by assumption) (by omega) rfl) rfl rfl ?_
    refine TL.v rfl (OpVal.moveI (.inr rfl) rfl) rfl rfl ?_
    refine TL.v rfl (OpVal.moveI (.inr rfl) rfl) rfl rfl ?_
    refine TL.nil ?_
    refine S.n ?_
    refine TC.seq ?_
    refine TC.region ?_
    refine TL.v rfl (OpVal.moveI (.inl rfl) rfl) rfl rfl ?_
    refine TL.v rfl (OpVal.moveI (.inl rfl) rfl) rfl rfl ?_
    refine TL.op rfl (OpOk.callP (state_con _ _ _) rfl rfl pf74 rfl rfl rfl ?_)
    refine TL.v rfl (OpVal.not rfl rfl) rfl rfl ?_
    refine TL.v rfl (OpVal.moveB (.inl rfl) rfl) rfl rfl ?_
    refine TL.split 18 rfl (fun h2=> ?_) (fun h2=> ?_)
    · try simp only [decide_eq_true_eq,decide_eq_false_iff_not,Bool.not_eq_true',Bool.not_eq_false',Bool.not_eq_eq_eq_not,Bool.not_true,Bool.not_false,Int.not_lt,Int.not_le,Decidable.not_not]at h2
      refine TL.goff rfl rfl rfl rfl rfl rfl rfl rfl ?_
      refine TL.goff rfl rfl rfl rfl rfl rfl rfl rfl ?_
      refine TL.goff rfl rfl rfl rfl rfl rfl rfl rfl ?_
      refine TL.goff' rfl rfl rfl rfl rfl rfl rfl ?_
      refine TL.goff' rfl rfl rfl rfl rfl rfl rfl ?_
      refine TL.goff' rfl rfl rfl rfl rfl rfl rfl ?_
      refine TL.goff' rfl rfl rfl rfl rfl rfl rfl ?_
      refine TL.goff' rfl rfl rfl rfl rfl rfl rfl ?_
      refine TL.goff' rfl rfl rfl rfl rfl rfl rfl ?_
      refine TL.goff' rfl rfl rfl rfl rfl rfl rfl ?_
      refine TL.goff rfl rfl rfl rfl rfl rfl rfl rfl ?_
      refine TL.v rfl (OpVal.pickTB rfl rfl rfl) rfl rfl ?_
      refine TL.nil ?_
      refine S.n ?_
      refine TC.cond rfl (fun _=> ?_) (fun h=>Bool.noConfusion h)
      refine TC.seq ?_
      refine TC.region ?_
      refine TL.v rfl (OpVal.moveB (.inr rfl) rfl) rfl rfl ?_
      refine TL.nil ?_
      refine S.n ?_
      refine TC.ret ?_
      refine B.r ?_
      refine S.r ?_
      refine S.r ?_
      refine B.r ?_
      refine S.r ?_
      -- leaf 1 ret [h1: True; h2: t18=True] H=[]
      refine ret1P rfl (congrArg Value.bool ?_)
      exact (riseB_no (k:=g1) (by omega) (by simp [riseFrom,h2])).symm
    try simp only [decide_eq_true_eq,decide_eq_false_iff_not,Bool.not_eq_true',Bool.not_eq_false',Bool.not_eq_eq_eq_not,Bool.not_true,Bool.not_false,Int.not_lt,Int.not_le,Decidable.not_not]at h2
    refine TL.gv rfl rfl rfl rfl rfl (OpVal.moveI (.inl rfl) rfl) rfl rfl ?_
    refine TL.gv rfl rfl rfl rfl rfl (OpVal.gtr rfl rfl rfl) rfl rfl ?_
    refine TL.gv rfl rfl rfl rfl rfl (OpVal.moveB (.inl rfl) rfl) rfl rfl ?_
    refine TL.split 21 rfl (fun h3=> ?_) (fun h3=> ?_)
    · try simp only [decide_eq_true_eq,decide_eq_false_iff_not,Bool.not_eq_true',Bool.not_eq_false',Bool.not_eq_eq_eq_not,Bool.not_true,Bool.not_false,Int.not_lt,Int.not_le,Decidable.not_not]at h3
      refine TL.gv rfl rfl rfl rfl rfl (OpVal.moveI (.inl rfl) rfl) rfl rfl ?_
      refine TL.gv rfl rfl rfl rfl rfl (OpVal.moveSl (.inl rfl) rfl) rfl rfl ?_
      refine TL.gv rfl rfl rfl rfl rfl (OpVal.moveI (.inl rfl) rfl) rfl rfl ?_
      refine TL.gv rfl rfl rfl rfl rfl (OpVal.sub rfl rfl rfl (by omega) (by omega)) rfl rfl ?_
      refine TL.gv rfl rfl rfl rfl rfl (OpVal.index rfl Tryz.underlying46 sz3 rfl rfl (by first|assumption|exact (RS.rv (by assumption)).sl) (by omega) (by omega)) rfl rfl ?_
      refine TL.gv rfl rfl rfl rfl rfl (OpVal.loadS1 (0:Int) rfl ag3 rfl (by assumption) (by omega) rfl) rfl rfl ?_
      refine TL.gv rfl rfl rfl rfl rfl (OpVal.leq rfl rfl rfl) rfl rfl ?_
      refine TL.gv rfl rfl rfl rfl rfl (OpVal.pickTB rfl rfl rfl) rfl rfl ?_
      refine TL.v rfl (OpVal.pickFB rfl rfl rfl) rfl rfl ?_
      refine TL.nil ?_
      refine S.n ?_
      refine TC.condD rfl (fun h4=> ?_) (fun h4=> ?_)
      · try simp only [decide_eq_true_eq,decide_eq_false_iff_not,Bool.not_eq_true',Bool.not_eq_false',Bool.not_eq_eq_eq_not,Bool.not_true,Bool.not_false,Int.not_lt,Int.not_le,Decidable.not_not]at h4
        refine TC.seq ?_
        refine TC.region ?_
        refine TL.v rfl (OpVal.moveB (.inr rfl) rfl) rfl rfl ?_
        refine TL.nil ?_
        refine S.n ?_
        refine TC.ret ?_
        refine B.r ?_
        refine S.r ?_
        refine S.r ?_
        refine B.r ?_
        refine S.r ?_
        -- leaf 2 ret [h1: True; h2: t18=False; h3: t21=True; h4: True] H=[]
        refine ret1P rfl (congrArg Value.bool ?_)
        exact (riseB_no (k:=g1) (by omega) (by rw [show ((g1:Int) - 1).toNat=g1 - 1 from by omega]at h4;simp [riseFrom,h2,h4];omega)).symm
      try simp only [decide_eq_true_eq,decide_eq_false_iff_not,Bool.not_eq_true',Bool.not_eq_false',Bool.not_eq_eq_eq_not,Bool.not_true,Bool.not_false,Int.not_lt,Int.not_le,Decidable.not_not]at h4
      refine TC.skip ?_
      refine B.n ?_
      refine S.n ?_
      refine TC.region ?_
      refine TL.v rfl (OpVal.succ rfl rfl rfl (by omega)) rfl rfl ?_
      refine TL.v rfl (OpVal.moveI (.inl rfl) rfl) rfl rfl ?_
      refine TL.nil ?_
      refine S.n ?_
      -- leaf 3 next [h1: True; h2: t18=False; h3: t21=True; h4: False] H=[]
      refine ⟨by repeat (first|exact Agr.mask|refine Agr.upd rfl ?_ |refine Agr.maskIn rfl ?_),g1+1,?_,?_,?_,?_,?_⟩
      · omega
      · exact ⟨by omega,all_step hi (by rw [show ((g1:Int) - 1).toNat=g1 - 1 from by omega]at h4;simp [riseFrom,h2];omega)⟩
      · repeat (first|exact trivial|refine ⟨rfl,?_⟩)
      · rfl
      rfl
    try simp only [decide_eq_true_eq,decide_eq_false_iff_not,Bool.not_eq_true',Bool.not_eq_false',Bool.not_eq_eq_eq_not,Bool.not_true,Bool.not_false,Int.not_lt,Int.not_le,Decidable.not_not]at h3
    refine TL.goff rfl rfl rfl rfl rfl rfl rfl rfl ?_
    refine TL.goff rfl rfl rfl rfl rfl rfl rfl rfl ?_
    refine TL.goff rfl rfl rfl rfl rfl rfl rfl rfl ?_
    refine TL.goff rfl rfl rfl rfl rfl rfl rfl rfl ?_
    refine TL.goff rfl rfl rfl rfl rfl rfl rfl rfl ?_
    refine TL.goff rfl rfl rfl rfl rfl rfl rfl rfl ?_
    refine TL.goff rfl rfl rfl rfl rfl rfl rfl rfl ?_
    refine TL.gv rfl rfl rfl rfl rfl (OpVal.pickFB rfl rfl rfl) rfl rfl ?_
    refine TL.v rfl (OpVal.pickFB rfl rfl rfl) rfl rfl ?_
    refine TL.nil ?_
    refine S.n ?_
    refine TC.cond rfl (fun h=>Bool.noConfusion h) (fun _=> ?_)
    refine TC.skip ?_
    refine B.n ?_
    refine S.n ?_
    refine TC.region ?_
    refine TL.v rfl (OpVal.succ rfl rfl rfl (by omega)) rfl rfl ?_
    refine TL.v rfl (OpVal.moveI (.inl rfl) rfl) rfl rfl ?_
    refine TL.nil ?_
    refine S.n ?_
    -- leaf 4 next [h1: True; h2: t18=False; h3: t21=False] H=[]
    refine ⟨by repeat (first|exact Agr.mask|refine Agr.upd rfl ?_ |refine Agr.maskIn rfl ?_),g1+1,?_,?_,?_,?_,?_⟩
    · omega
    · exact ⟨by omega,all_step hi (by simp [riseFrom,h2];omega)⟩
    · repeat (first|exact trivial|refine ⟨rfl,?_⟩)
    · rfl
    rfl
  try simp only [decide_eq_true_eq,decide_eq_false_iff_not,Bool.not_eq_true',Bool.not_eq_false',Bool.not_eq_eq_eq_not,Bool.not_true,Bool.not_false,Int.not_lt,Int.not_le,Decidable.not_not]at h1
  refine TC.exit ?_
  refine S.x ?_
  refine S.x ?_
  refine TC.exitHere ?_
  refine S.n ?_
  refine TC.seq ?_
  refine TC.region ?_
  refine TL.v rfl (OpVal.moveB (.inr rfl) rfl) rfl rfl ?_
  refine TL.nil ?_
  refine S.n ?_
  refine TC.ret ?_
  -- leaf 5 ret [h1: False] H=[]
  refine ret1P rfl (congrArg Value.bool ?_)
  exact (riseB_yes (k:=g1) (by omega) hi).symm
theorem check_con(σ:Store)(n:Nfa)(p:NfaP)(hn:RNfa σ n p):Con Tryz.prog 38 #[nfaV n p] σ [] (PureP (.int .i64 (errB (checkB n))) σ):=by
  have hb:=hn.d.rv.big
  have hd:=hn.d
  refine Con.mk (n:=61) Tryz.func38 rfl rfl rfl (fun w0=> ?_)
  refine TC.seq ?_
  refine TC.region ?_
  refine TL.op rfl (OpOk.boxA rfl rfl rfl rfl (fun b1=> ?_))
  refine TL.v rfl (OpVal.moveI (.inr rfl) rfl) rfl rfl ?_
  refine TL.nil ?_
  refine S.n ?_
  refine TC.seq ?_
  refine TC.seq ?_
  refine TC.region ?_
  refine TL.v rfl (OpVal.fieldLoc rfl fo61_0 rfl) rfl rfl ?_
  refine TL.v rfl (OpVal.loadLoc rfl ag3 rfl (i:=0) rfl rfl) rfl rfl ?_
  refine TL.v rfl (OpVal.lss rfl rfl rfl) rfl rfl ?_
  refine TL.v rfl (OpVal.moveB (.inl rfl) rfl) rfl rfl ?_
  refine TL.split 8 rfl (fun h3=> ?_) (fun h3=> ?_)
  · try simp only [decide_eq_true_eq,decide_eq_false_iff_not,Bool.not_eq_true',Bool.not_eq_false',Bool.not_eq_eq_eq_not,Bool.not_true,Bool.not_false,Int.not_lt,Int.not_le,Decidable.not_not]at h3
    refine TL.goff rfl rfl rfl rfl rfl rfl rfl rfl ?_
    refine TL.goff rfl rfl rfl rfl rfl rfl rfl rfl ?_
    refine TL.goff rfl rfl rfl rfl rfl rfl rfl rfl ?_
    refine TL.v rfl (OpVal.pickTB rfl rfl rfl) rfl rfl ?_
    refine TL.v rfl (OpVal.moveB (.inl rfl) rfl) rfl rfl ?_
    refine TL.goff rfl rfl rfl rfl rfl rfl rfl rfl ?_
    refine TL.goff rfl rfl rfl rfl rfl rfl rfl rfl ?_
    refine TL.goff rfl rfl rfl rfl rfl rfl rfl rfl ?_
    refine TL.goff rfl rfl rfl rfl rfl rfl rfl rfl ?_
    refine TL.v rfl (OpVal.pickTB rfl rfl rfl) rfl rfl ?_
    refine TL.nil ?_
    refine S.n ?_
    refine TC.cond rfl (fun _=> ?_) (fun h=>Bool.noConfusion h)
    refine TC.seq ?_
    refine TC.region ?_
    refine TL.v rfl (OpVal.moveI (.inr rfl) rfl) rfl rfl ?_
    refine TL.nil ?_
    refine S.n ?_
    refine TC.ret ?_
    refine S.r ?_
    -- leaf 1 ret [h3: t8=True] H=['q2']
    refine ret1P rfl (congrArg (Value.int _) ?_)
    exact (congrArg errB (show checkB n=false from by simp only [checkB,Bool.and_eq_false_iff,decide_eq_false_iff_not];omega)).symm
  try simp only [decide_eq_true_eq,decide_eq_false_iff_not,Bool.not_eq_true',Bool.not_eq_false',Bool.not_eq_eq_eq_not,Bool.not_true,Bool.not_false,Int.not_lt,Int.not_le,Decidable.not_not]at h3
  refine TL.gv rfl rfl rfl rfl rfl (OpVal.fieldLoc rfl fo61_0 rfl) rfl rfl ?_
  refine TL.gv rfl rfl rfl rfl rfl (OpVal.loadLoc rfl ag3 rfl (i:=0) rfl rfl) rfl rfl ?_
  refine TL.gv rfl rfl rfl rfl rfl (OpVal.gtr rfl rfl rfl) rfl rfl ?_
  refine TL.v rfl (OpVal.pickFB rfl rfl rfl) rfl rfl ?_
  refine TL.v rfl (OpVal.moveB (.inl rfl) rfl) rfl rfl ?_
  refine TL.split 13 rfl (fun h4=> ?_) (fun h4=> ?_)
  · try simp only [decide_eq_true_eq,decide_eq_false_iff_not,Bool.not_eq_true',Bool.not_eq_false',Bool.not_eq_eq_eq_not,Bool.not_true,Bool.not_false,Int.not_lt,Int.not_le,Decidable.not_not]at h4
    refine TL.goff rfl rfl rfl rfl rfl rfl rfl rfl ?_
    refine TL.goff rfl rfl rfl rfl rfl rfl rfl rfl ?_
    refine TL.goff rfl rfl rfl rfl rfl rfl rfl rfl ?_
    refine TL.goff rfl rfl rfl rfl rfl rfl rfl rfl ?_
    refine TL.v rfl (OpVal.pickTB rfl rfl rfl) rfl rfl ?_
    refine TL.nil ?_
    refine S.n ?_
    refine TC.cond rfl (fun _=> ?_) (fun h=>Bool.noConfusion h)
    refine TC.seq ?_
    refine TC.region ?_
    refine TL.v rfl (OpVal.moveI (.inr rfl) rfl) rfl rfl ?_
    refine TL.nil ?_
    refine S.n ?_
    refine TC.ret ?_
    refine S.r ?_
    -- leaf 2 ret [h3: t8=False; h4: t13=True] H=['q2']
    refine ret1P rfl (congrArg (Value.int _) ?_)
    exact (congrArg errB (show checkB n=false from by simp only [checkB,Bool.and_eq_false_iff,decide_eq_false_iff_not];omega)).symm
  try simp only [decide_eq_true_eq,decide_eq_false_iff_not,Bool.not_eq_true',Bool.not_eq_false',Bool.not_eq_eq_eq_not,Bool.not_true,Bool.not_false,Int.not_lt,Int.not_le,Decidable.not_not]at h4
  refine TL.gv rfl rfl rfl rfl rfl (OpVal.fieldLoc rfl fo61_3 rfl) rfl rfl ?_
  refine TL.gv rfl rfl rfl rfl rfl (OpVal.loadLoc rfl ag59 rfl (i:=0) rfl rfl) rfl rfl ?_
  refine TL.gv rfl rfl rfl rfl rfl (OpVal.lenC rfl Tryz.underlying59 rfl) rfl rfl ?_
  refine TL.gv rfl rfl rfl rfl rfl (OpVal.gtr rfl rfl rfl) rfl rfl ?_
  refine TL.v rfl (OpVal.pickFB rfl rfl rfl) rfl rfl ?_
  refine TL.nil ?_
  refine S.n ?_
  refine TC.condD rfl (fun h5=> ?_) (fun h5=> ?_)
  · try simp only [decide_eq_true_eq,decide_eq_false_iff_not,Bool.not_eq_true',Bool.not_eq_false',Bool.not_eq_eq_eq_not,Bool.not_true,Bool.not_false,Int.not_lt,Int.not_le,Decidable.not_not]at h5
    refine TC.seq ?_
    refine TC.region ?_
    refine TL.v rfl (OpVal.moveI (.inr rfl) rfl) rfl rfl ?_
    refine TL.nil ?_
    refine S.n ?_
    refine TC.ret ?_
    refine S.r ?_
    -- leaf 3 ret [h3: t8=False; h4: t13=False; h5: True] H=['q2']
    refine ret1P rfl (congrArg (Value.int _) ?_)
    exact (congrArg errB (show checkB n=false from by simp only [checkB,Bool.and_eq_false_iff,decide_eq_false_iff_not];omega)).symm
  try simp only [decide_eq_true_eq,decide_eq_false_iff_not,Bool.not_eq_true',Bool.not_eq_false',Bool.not_eq_eq_eq_not,Bool.not_true,Bool.not_false,Int.not_lt,Int.not_le,Decidable.not_not]at h5
  refine TC.skip ?_
  refine S.n ?_
  refine TC.seq ?_
  refine TC.seq ?_
  refine TC.region ?_
  refine TL.v rfl (OpVal.fieldLoc rfl fo61_1 rfl) rfl rfl ?_
  refine TL.v rfl (OpVal.loadLoc rfl ag46 rfl (i:=0) rfl rfl) rfl rfl ?_
  refine TL.v rfl (OpVal.fieldLoc rfl fo61_0 rfl) rfl rfl ?_
  refine TL.v rfl (OpVal.loadLoc rfl ag3 rfl (i:=0) rfl rfl) rfl rfl ?_
  refine TL.op rfl (OpOk.callP (rise_con _ _ _ _ _ hn.s) rfl rfl pf73 rfl rfl rfl ?_)
  refine TL.v rfl (OpVal.not rfl rfl) rfl rfl ?_
  refine TL.v rfl (OpVal.moveB (.inl rfl) rfl) rfl rfl ?_
  refine TL.split 25 rfl (fun h6=> ?_) (fun h6=> ?_)
  · try simp only [decide_eq_true_eq,decide_eq_false_iff_not,Bool.not_eq_true',Bool.not_eq_false',Bool.not_eq_eq_eq_not,Bool.not_true,Bool.not_false,Int.not_lt,Int.not_le,Decidable.not_not]at h6
    refine TL.goff rfl rfl rfl rfl rfl rfl rfl rfl ?_
    refine TL.goff rfl rfl rfl rfl rfl rfl rfl rfl ?_
    refine TL.goff rfl rfl rfl rfl rfl rfl rfl rfl ?_
    refine TL.goff rfl rfl rfl rfl rfl rfl rfl rfl ?_
    refine TL.goff rfl rfl rfl rfl rfl rfl rfl rfl ?_
    refine TL.goff rfl rfl rfl rfl rfl rfl rfl rfl ?_
    refine TL.v rfl (OpVal.pickTB rfl rfl rfl) rfl rfl ?_
    refine TL.nil ?_
    refine S.n ?_
    refine TC.cond rfl (fun _=> ?_) (fun h=>Bool.noConfusion h)
    refine TC.seq ?_
    refine TC.region ?_
    refine TL.v rfl (OpVal.moveI (.inr rfl) rfl) rfl rfl ?_
    refine TL.nil ?_
    refine S.n ?_
    refine TC.ret ?_
    refine S.r ?_
    -- leaf 4 ret [h3: t8=False; h4: t13=False; h5: False; h6: t25=True] H=['q2']
    refine ret1P rfl (congrArg (Value.int _) ?_)
    exact (congrArg errB (show checkB n=false from by simp [checkB,h6])).symm
  try simp only [decide_eq_true_eq,decide_eq_false_iff_not,Bool.not_eq_true',Bool.not_eq_false',Bool.not_eq_eq_eq_not,Bool.not_true,Bool.not_false,Int.not_lt,Int.not_le,Decidable.not_not]at h6
  refine TL.gv rfl rfl rfl rfl rfl (OpVal.fieldLoc rfl fo61_2 rfl) rfl rfl ?_
  refine TL.gv rfl rfl rfl rfl rfl (OpVal.loadLoc rfl ag46 rfl (i:=0) rfl rfl) rfl rfl ?_
  refine TL.gv rfl rfl rfl rfl rfl (OpVal.fieldLoc rfl fo61_0 rfl) rfl rfl ?_
  refine TL.gv rfl rfl rfl rfl rfl (OpVal.loadLoc rfl ag3 rfl (i:=0) rfl rfl) rfl rfl ?_
  refine TL.gon rfl rfl rfl rfl rfl (OpOk.callP (rise_con _ _ _ _ _ (by first|exact hn.s|exact hn.e)) rfl rfl pf73 rfl rfl rfl ?_)
  refine TL.gv rfl rfl rfl rfl rfl (OpVal.not rfl rfl) rfl rfl ?_
  refine TL.v rfl (OpVal.pickFB rfl rfl rfl) rfl rfl ?_
  refine TL.nil ?_
  refine S.n ?_
  refine TC.cond rfl (fun h7=> ?_) (fun h7=> ?_)
  · try simp only [decide_eq_true_eq,decide_eq_false_iff_not,Bool.not_eq_true',Bool.not_eq_false',Bool.not_eq_eq_eq_not,Bool.not_true,Bool.not_false,Int.not_lt,Int.not_le,Decidable.not_not]at h7
    refine TC.seq ?_
    refine TC.region ?_
    refine TL.v rfl (OpVal.moveI (.inr rfl) rfl) rfl rfl ?_
    refine TL.nil ?_
    refine S.n ?_
    refine TC.ret ?_
    refine S.r ?_
    -- leaf 5 ret [h3: t8=False; h4: t13=False; h5: False; h6: t25=False; h7: True] H=['q2']
    refine ret1P rfl (congrArg (Value.int _) ?_)
    exact (congrArg errB (show checkB n=false from by simp [checkB,h7])).symm
  try simp only [decide_eq_true_eq,decide_eq_false_iff_not,Bool.not_eq_true',Bool.not_eq_false',Bool.not_eq_eq_eq_not,Bool.not_true,Bool.not_false,Int.not_lt,Int.not_le,Decidable.not_not]at h7
  refine TC.skip ?_
  refine S.n ?_
  refine TC.seq ?_
  refine TC.seq ?_
  refine TC.region ?_
  refine TL.v rfl (OpVal.fieldLoc rfl fo61_3 rfl) rfl rfl ?_
  refine TL.v rfl (OpVal.loadLoc rfl ag59 rfl (i:=0) rfl rfl) rfl rfl ?_
  refine TL.v rfl (OpVal.lenC rfl Tryz.underlying59 rfl) rfl rfl ?_
  refine TL.v rfl (OpVal.moveI (.inl rfl) rfl) rfl rfl ?_
  refine TL.nil ?_
  refine S.n ?_
  refine TC.block ?_
  refine TC.loopF (α:=Nat) [2,4,36,37,38,39,40,41,42,43,44,45,46,47,48,49,50,51,52,53,54,55,56,57,58,59,60] (fun k=>[(36,.int .i64 (k:Nat))]) (fun _=>_) (fun _=>_) (fun k=>k≤n.edges.length∧ ∀i,i<k→edgeB n.states (nth n.edges i Arrow.zero)=true) (fun k=>n.edges.length - k) (0) (by first|exact True.intro|omega|(dsimp only;omega)|(simp;done)|(simp;omega)) (by repeat (first|exact trivial|refine ⟨rfl,?_⟩)) (by rfl) (by rfl) (fun g1 j1 hg1=> ?_)
  obtain ⟨hk,hi⟩:=hg1
  refine TC.seq ?_
  refine TC.region ?_
  refine TL.v rfl (OpVal.lss rfl rfl rfl) rfl rfl ?_
  refine TL.nil ?_
  refine S.n ?_
  refine TC.seq ?_
  refine TC.condD rfl (fun h8=> ?_) (fun h8=> ?_)
  · try simp only [decide_eq_true_eq,decide_eq_false_iff_not,Bool.not_eq_true',Bool.not_eq_false',Bool.not_eq_eq_eq_not,Bool.not_true,Bool.not_false,Int.not_lt,Int.not_le,Decidable.not_not]at h8
    refine TC.skip ?_
    refine S.n ?_
    refine TC.seq ?_
    refine TC.block ?_
    refine TC.seq ?_
    refine TC.region ?_
    refine TL.v rfl (OpVal.indexN rfl Tryz.underlying59 sz58 rfl rfl (by first|assumption|exact (RS.rv (by assumption)).sl) (by omega)) rfl rfl ?_
    refine TL.v rfl (OpVal.loadSA Arrow.zero rfl ag58 sz58 rfl (by assumption) (by omega) (by omega)) rfl rfl ?_
    refine TL.op rfl (OpOk.alloc rfl ze58 rfl rfl (fun b9=> ?_))
    refine TL.op rfl (OpOk.storeAll rfl sz58 rfl rfl rfl rfl rfl rfl ?_)
    refine TL.nil ?_
    refine S.n ?_
    refine TC.seq ?_
    refine TC.region ?_
    refine TL.v rfl (OpVal.fieldLoc rfl fo58_0 rfl) rfl rfl ?_
    refine TL.v rfl (OpVal.loadLoc rfl ag3 rfl (i:=0) rfl rfl) rfl rfl ?_
    refine TL.v rfl (OpVal.fieldLoc rfl fo61_0 rfl) rfl rfl ?_
    refine TL.v rfl (OpVal.loadLoc rfl ag3 rfl (i:=1) rfl rfl) rfl rfl ?_
    refine TL.op rfl (OpOk.callP (state_con _ _ _) rfl rfl pf74 rfl rfl rfl ?_)
    refine TL.v rfl (OpVal.not rfl rfl) rfl rfl ?_
    refine TL.v rfl (OpVal.moveB (.inl rfl) rfl) rfl rfl ?_
    refine TL.split 46 rfl (fun h11=> ?_) (fun h11=> ?_)
    · try simp only [decide_eq_true_eq,decide_eq_false_iff_not,Bool.not_eq_true',Bool.not_eq_false',Bool.not_eq_eq_eq_not,Bool.not_true,Bool.not_false,Int.not_lt,Int.not_le,Decidable.not_not]at h11
      refine TL.goff rfl rfl rfl rfl rfl rfl rfl rfl ?_
      refine TL.goff rfl rfl rfl rfl rfl rfl rfl rfl ?_
      refine TL.goff rfl rfl rfl rfl rfl rfl rfl rfl ?_
      refine TL.goff rfl rfl rfl rfl rfl rfl rfl rfl ?_
      refine TL.goff rfl rfl rfl rfl rfl rfl rfl rfl ?_
      refine TL.goff rfl rfl rfl rfl rfl rfl rfl rfl ?_
      refine TL.v rfl (OpVal.pickTB rfl rfl rfl) rfl rfl ?_
      refine TL.v rfl (OpVal.moveB (.inl rfl) rfl) rfl rfl ?_
      refine TL.goff rfl rfl rfl rfl rfl rfl rfl rfl ?_
      refine TL.goff rfl rfl rfl rfl rfl rfl rfl rfl ?_
      refine TL.goff rfl rfl rfl rfl rfl rfl rfl rfl ?_
      refine TL.goff rfl rfl rfl rfl rfl rfl rfl rfl ?_
      refine TL.v rfl (OpVal.pickTB rfl rfl rfl) rfl rfl ?_
      refine TL.nil ?_
      refine S.n ?_
      refine TC.cond rfl (fun _=> ?_) (fun h=>Bool.noConfusion h)
      refine TC.seq ?_
      refine TC.region ?_
      refine TL.v rfl (OpVal.moveI (.inr rfl) rfl) rfl rfl ?_
      refine TL.nil ?_
      refine S.n ?_
      refine TC.ret ?_
      refine B.r ?_
      refine S.r ?_
      refine S.r ?_
      refine B.r ?_
      refine S.r ?_
      -- leaf 6 ret [h3: t8=False; h4: t13=False; h5: False; h6: t25=False; h7: False; h8: True; h11: t46=True] H=['q10', 'q2']
      refine ret1P rfl (congrArg (Value.int _) ?_)
      exact (congrArg errB (show checkB n=false from by rw [checkB,edges_no (n:=n) (k:=g1) (by omega) (by simp [edgeB,h11]),Bool.and_false])).symm
    try simp only [decide_eq_true_eq,decide_eq_false_iff_not,Bool.not_eq_true',Bool.not_eq_false',Bool.not_eq_eq_eq_not,Bool.not_true,Bool.not_false,Int.not_lt,Int.not_le,Decidable.not_not]at h11
    refine TL.gv rfl rfl rfl rfl rfl (OpVal.fieldLoc rfl fo58_1 rfl) rfl rfl ?_
    refine TL.gv rfl rfl rfl rfl rfl (OpVal.loadLoc rfl ag3 rfl (i:=0) rfl rfl) rfl rfl ?_
    refine TL.gv rfl rfl rfl rfl rfl (OpVal.fieldLoc rfl fo61_0 rfl) rfl rfl ?_
    refine TL.gv rfl rfl rfl rfl rfl (OpVal.loadLoc rfl ag3 rfl (i:=1) rfl rfl) rfl rfl ?_
    refine TL.gon rfl rfl rfl rfl rfl (OpOk.callP (state_con _ _ _) rfl rfl pf74 rfl rfl rfl ?_)
    refine TL.gv rfl rfl rfl rfl rfl (OpVal.not rfl rfl) rfl rfl ?_
    refine TL.v rfl (OpVal.pickFB rfl rfl rfl) rfl rfl ?_
    refine TL.v rfl (OpVal.moveB (.inl rfl) rfl) rfl rfl ?_
    refine TL.split 54 rfl (fun h12=> ?_) (fun h12=> ?_)
    · try simp only [decide_eq_true_eq,decide_eq_false_iff_not,Bool.not_eq_true',Bool.not_eq_false',Bool.not_eq_eq_eq_not,Bool.not_true,Bool.not_false,Int.not_lt,Int.not_le,Decidable.not_not]at h12
      refine TL.goff rfl rfl rfl rfl rfl rfl rfl rfl ?_
      refine TL.goff rfl rfl rfl rfl rfl rfl rfl rfl ?_
      refine TL.goff rfl rfl rfl rfl rfl rfl rfl rfl ?_
      refine TL.goff rfl rfl rfl rfl rfl rfl rfl rfl ?_
      refine TL.v rfl (OpVal.pickTB rfl rfl rfl) rfl rfl ?_
      refine TL.nil ?_
      refine S.n ?_
      refine TC.cond rfl (fun _=> ?_) (fun h=>Bool.noConfusion h)
      refine TC.seq ?_
      refine TC.region ?_
      refine TL.v rfl (OpVal.moveI (.inr rfl) rfl) rfl rfl ?_
      refine TL.nil ?_
      refine S.n ?_
      refine TC.ret ?_
      refine B.r ?_
      refine S.r ?_
      refine S.r ?_
      refine B.r ?_
      refine S.r ?_
      -- leaf 7 ret [h3: t8=False; h4: t13=False; h5: False; h6: t25=False; h7: False; h8: True; h11: t46=False; h12: t54=True] H=['q10', 'q2']
      refine ret1P rfl (congrArg (Value.int _) ?_)
      exact (congrArg errB (show checkB n=false from by rw [checkB,edges_no (n:=n) (k:=g1) (by omega) (by simp [edgeB,h11,h12]),Bool.and_false])).symm
    try simp only [decide_eq_true_eq,decide_eq_false_iff_not,Bool.not_eq_true',Bool.not_eq_false',Bool.not_eq_eq_eq_not,Bool.not_true,Bool.not_false,Int.not_lt,Int.not_le,Decidable.not_not]at h12
    refine TL.gv rfl rfl rfl rfl rfl (OpVal.fieldLoc rfl fo58_2 rfl) rfl rfl ?_
    refine TL.gv rfl rfl rfl rfl rfl (OpVal.loadLocA rfl ag55 sz55 rfl (i:=0) rfl rfl rfl) rfl rfl ?_
    refine TL.gv rfl rfl rfl rfl rfl (OpVal.buildArrL rfl Tryz.underlying55 sz53 ze55 rfl) rfl rfl ?_
    refine TL.gv rfl rfl rfl rfl rfl (OpVal.eqlArr4 rfl Tryz.underlying55 Tryz.underlying53 ag53 sz53 eg55 rfl rfl rfl rfl) rfl rfl ?_
    refine TL.v rfl (OpVal.pickFB rfl rfl rfl) rfl rfl ?_
    refine TL.nil ?_
    refine S.n ?_
    refine TC.condD rfl (fun h13=> ?_) (fun h13=> ?_)
    · try simp only [decide_eq_true_eq,decide_eq_false_iff_not,Bool.not_eq_true',Bool.not_eq_false',Bool.not_eq_eq_eq_not,Bool.not_true,Bool.not_false,Int.not_lt,Int.not_le,Decidable.not_not]at h13
      refine TC.seq ?_
      refine TC.region ?_
      refine TL.v rfl (OpVal.moveI (.inr rfl) rfl) rfl rfl ?_
      refine TL.nil ?_
      refine S.n ?_
      refine TC.ret ?_
      refine B.r ?_
      refine S.r ?_
      refine S.r ?_
      refine B.r ?_
      refine S.r ?_
      -- leaf 8 ret [h3: t8=False; h4: t13=False; h5: False; h6: t25=False; h7: False; h8: True; h11: t46=False; h12: t54=False; h13: True] H=['q10', 'q2']
      refine ret1P rfl (congrArg (Value.int _) ?_)
      exact (congrArg errB (show checkB n=false from by rw [checkB,edges_no (n:=n) (k:=g1) (by omega) (by simp [edgeB,(BSet.zero_iff _).1 h13]),Bool.and_false])).symm
    try simp only [decide_eq_true_eq,decide_eq_false_iff_not,Bool.not_eq_true',Bool.not_eq_false',Bool.not_eq_eq_eq_not,Bool.not_true,Bool.not_false,Int.not_lt,Int.not_le,Decidable.not_not]at h13
    refine TC.skip ?_
    refine B.n ?_
    refine S.n ?_
    refine TC.region ?_
    refine TL.v rfl (OpVal.succ rfl rfl rfl (by omega)) rfl rfl ?_
    refine TL.v rfl (OpVal.moveI (.inl rfl) rfl) rfl rfl ?_
    refine TL.dropN 1 rfl ?_
    refine TL.nil ?_
    refine S.n ?_
    -- leaf 9 next [h3: t8=False; h4: t13=False; h5: False; h6: t25=False; h7: False; h8: True; h11: t46=False; h12: t54=False; h13: False] H=['q2']
    refine ⟨by repeat (first|exact Agr.mask|refine Agr.upd rfl ?_ |refine Agr.maskIn rfl ?_),g1+1,?_,?_,?_,?_,?_⟩
    · omega
    · exact ⟨by omega,all_step (p:=fun i=>edgeB n.states (nth n.edges i Arrow.zero)) hi (by simp only [edgeB,h11,h12,Bool.true_and,Bool.not_eq_true',decide_eq_false_iff_not];exact fun hx=>h13 ((BSet.zero_iff _).2 hx))⟩
    · repeat (first|exact trivial|refine ⟨rfl,?_⟩)
    · rfl
    rfl
  try simp only [decide_eq_true_eq,decide_eq_false_iff_not,Bool.not_eq_true',Bool.not_eq_false',Bool.not_eq_eq_eq_not,Bool.not_true,Bool.not_false,Int.not_lt,Int.not_le,Decidable.not_not]at h8
  refine TC.exit ?_
  refine S.x ?_
  refine S.x ?_
  refine TC.exitHere ?_
  refine S.n ?_
  refine TC.seq ?_
  refine TC.region ?_
  refine TL.v rfl (OpVal.moveI (.inr rfl) rfl) rfl rfl ?_
  refine TL.nil ?_
  refine S.n ?_
  refine TC.ret ?_
  -- leaf 10 ret [h3: t8=False; h4: t13=False; h5: False; h6: t25=False; h7: False; h8: False] H=['q2']
  refine ret1P rfl (congrArg (Value.int _) ?_)
  have he:=edges_yes (n:=n) (fun i h=>hi i (by omega))
  simp [errB,checkB,h3,h4,h5,h6,h7,he]
end Go.Proofs.YtamgjehhjkgelaaGreatDoor
end
