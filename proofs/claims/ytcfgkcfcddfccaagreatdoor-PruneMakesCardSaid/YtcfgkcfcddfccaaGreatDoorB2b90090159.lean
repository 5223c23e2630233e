/- Parts of a proof, one behind the other: what a machine reaches, functions decompiled, plain lemmas. Conditions stand with each lemma. -/
import Derived.Test.YtcfgkcfcddfccaaGreatDoorB436a4c84ed
import Derived.Test.YtcfgkcfcddfccaaGreatDoorB2a01e67502
import Derived.Test.YtcfgkcfcddfccaaGreatDoorBffc86649ad
import Derived.Test.YtcfgkcfcddfccaaGreatDoorBd3ad7cec3a
import Derived.ProofKit
import Derived.SizedLaws
import Derived.Below
import Derived.KernelRfl
import Derived.Shelf.SlSortCmp.NoneTotal
import Derived.Shelf.Sort.Plain
import Derived.Shelf.SlLaysZI
import Derived.Test.YtcfgkcfcddfccaaGreatDoorChecked
import Derived.CallsIn
import Derived.RunT
import Derived.Shelf.SlIterI.Sorted
import Derived.Shelf.SlIterI.Nil
import Derived.WideReads

set_option linter.unusedVariables false
set_option linter.unusedSimpArgs false
set_option linter.unusedSectionVars false
set_option maxRecDepth 100000
set_option maxHeartbeats 8000000
variable {ay aC aK:Option Go.Addr}{au aJ aF:Nat}

noncomputable section
namespace Go.Proofs.YtcfgkcfcddfccaaGreatDoor
open Go Go.E
theorem u8_of{k:Nat}(hk:k<256):(kH ((k:Nat):Int)).toNat=k:=by
  have:=VG ((k:Nat):Int);rw [VE]at this;omega
def gi_(s:BSet):UInt8:=((MI s).getD (0,false)).1
theorem lj_(s:BSet):MI s=some (gi_ s,decide (s≠BSet.zero))/\(s≠BSet.zero->s.has (gi_ s).toNat=true):=by
  by_cases h:s=BSet.zero
  · subst h
    have e:gi_ BSet.zero=0:=by unfold gi_;rw [p2_];rfl
    rw [p2_,e];exact ⟨rfl,λh=>absurd rfl h⟩
  obtain ⟨b,h1,h2⟩:=v1_ h;have e:gi_ s=b:=by unfold gi_;rw [h1];rfl
  rw [h1,e,decide_eq_true h];exact ⟨rfl,λ_=>h2⟩
theorem s0_{s:BSet}(h:s≠BSet.zero): ∀a,a<(gi_ s).toNat->s.has a=false:=by
  obtain ⟨b,h1, -,h3⟩:=of_ h;have e:gi_ s=b:=by unfold gi_;rw [h1];rfl
  rw [e];exact h3
def sJ(L:List BSet)(b:Nat):T_1:=L.map λs=>if s.has b then 1 else 0
theorem keyB_eq{L:List BSet}{b c:Nat}(h:sJ L b=sJ L c): ∀s∈L,s.has b=s.has c:=λs hs=>by
  have h1:=List.map_inj_left.1 h s hs;cases e1:s.has b<;>cases e2:s.has c<;>rw [e1,e2]at h1<;>first|rfl|exact absurd h1 (by decide)
theorem ve_ (L : List BSet) (hL : L.length <= 1024) {k : Nat} (hk : k < 256) : Jf_ L (kH ((k : Nat) : Int)) = some (sJ L k) := by
  unfold Jf_;rw [aQ (by omega)];obtain ⟨r,e,rfl⟩:=fC (step:=λq:T_1×Nat=>Yf L (kH ((k:Nat):Int)) q.1 q.2) (λ(l:T_1) j=>(l,j)) L.length
    (λj l=>l.length=L.length/\ ∀i,i<L.length->nth l i 0=if i<j then (if (nth L i BSet.zero).has k then 1 else 0) else 0) (λr=>r=sJ L k)
    (λj l hj hI=>by
      obtain ⟨h1,h2⟩:=hI;show (∃s',Yf L (kH ((k:Nat):Int)) l j=_/\_)\/_;unfold Yf Hv_;rw [bY (by omega),u8_of hk];cases hh:(nth L j BSet.zero).has k with
      |true=>
        rw [iteO_true,aQ (by omega)];refine .inl ⟨_,rfl,by rw [eX];exact h1,λi hi=> ?_⟩;rw [nI]
        by_cases e:j=i
        · subst e;rw [if_pos ⟨rfl,by omega⟩,if_pos (by omega),hh,if_pos rfl]
        rw [if_neg (λq=>e q.1),h2 i hi]
        by_cases e2:i<j
        · rw [if_pos e2,if_pos (show i<j+1 by omega)]
        rw [if_neg e2,if_neg (show ¬ i<j+1 by omega)]
      |false=>
        rw [iteO_false];refine .inl ⟨l,rfl,h1,λi hi=> ?_⟩;rw [h2 i hi]
        by_cases e:i=j
        · subst e;rw [if_neg (by omega),if_pos (by omega),hh,if_neg (by simp)]
        by_cases e2:i<j
        · rw [if_pos e2,if_pos (show i<j+1 by omega)]
        rw [if_neg e2,if_neg (show ¬ i<j+1 by omega)])
    (λl hI=>by
      obtain ⟨h1,h2⟩:=hI;refine ⟨l,?_,?_⟩
      · show Yf L (kH ((k:Nat):Int)) l L.length=_
        unfold Yf;rw [bK (by omega)];rfl
      refine Q7 (0:UInt8) (by unfold sJ;rw [List.length_map];exact h1) λi hi=> ?_;rw [h2 i (by omega),if_pos (by omega)];unfold sJ;rw [C9 _ _ _ BSet.zero 0 (by omega)])
    (s0:=List.replicate L.length 0) ⟨by rw [lq],λi hi=>by rw [VD,if_neg (by omega)]⟩
  exact e
structure PartI (L:List BSet) (k:Nat) (m:FM T_1 Int) (p:List BSet):Prop where
  len:p.length<=k
  at_: ∀b,b<k-> ∃i:Nat,i<p.length/\m.f (sJ L b)=some ((i:Nat):Int)
  val: ∀x v,m.f x=some v-> ∃i:Nat,i<p.length/\v=((i:Nat):Int)
  inj: ∀x y v,m.f x=some v->m.f y=some v->x=y
  has: ∀i,i<p.length-> ∀b,b<256->((nth p i BSet.zero).has b=true↔b<k/\m.f (sJ L b)=some ((i:Nat):Int))
  cn: ∃c:aj,c.length=k/\fH c=some p.length/\ ∀b,b<k->m.f (sJ L b)=some (nth c b (0:Int))
theorem t6_ {L : List BSet} {k : Nat} (hk : k < 256) {m : FM T_1 Int} {p : List BSet} {i : Nat} (hi : i < p.length) (hl : p.length <= k + 1) (h1 : m.f (sJ L k) = some ((i : Nat) : Int)) (at_ : ∀ b, b < k -> ∃ i : Nat, i < p.length /\ m.f (sJ L b) = some ((i : Nat) : Int))
    (val: ∀x v,m.f x=some v-> ∃i:Nat,i<p.length/\v=((i:Nat):Int)) (inj: ∀x y v,m.f x=some v->m.f y=some v->x=y)
    (has: ∀i,i<p.length-> ∀b,b<256->((nth p i BSet.zero).has b=true↔b<k/\m.f (sJ L b)=some ((i:Nat):Int)))
    (cn: ∃c:aj,c.length=k/\fH (c++[((i:Nat):Int)])=some p.length/\ ∀b,b<k->m.f (sJ L b)=some (nth c b (0:Int))):
    ∃p',F8_ k m p ((i:Nat):Int)=some (.inl (m,p',k+1))/\PartI L (k+1) m p':=by
  unfold F8_;rw [aQ ⟨Int.natCast_nonneg i,by omega⟩,aQ (by simp),w7_,gq,aQ ⟨Int.natCast_nonneg i,by omega⟩,iI];refine ⟨_,rfl,by rw [eX];exact hl,λb hb=> ?_,λx v hx=> ?_,inj,λj hj b hb=> ?_,?_⟩
  · rw [eX]
    by_cases e:b=k
    · subst e;exact ⟨i,hi,h1⟩
    exact at_ b (by omega)
  · rw [eX];exact val x v hx
  · rw [eX]at hj
    rw [nI]
    by_cases e:i=j
    · subst e
      rw [if_pos ⟨rfl,hi⟩,BSet.EX _ hb,Vu k hk hb,Bool.or_eq_true,dA,has i hi b hb];constructor
      · rintro (⟨h2,h3⟩|rfl)
        · exact ⟨by omega,h3⟩
        exact ⟨by omega,h1⟩
      rintro ⟨h2,h3⟩
      by_cases e:b=k
      · exact .inr e
      exact .inl ⟨by omega,h3⟩
    rw [if_neg (λq=>e q.1),has j hj b hb];constructor
    · rintro ⟨h2,h3⟩;exact ⟨by omega,h3⟩
    rintro ⟨h2,h3⟩;refine ⟨?_,h3⟩
    by_cases e2:b=k
    · subst e2
      rw [h1]at h3;have:=Option.some.inj h3;omega
    omega
  obtain ⟨c,h2,h3,h4⟩:=cn;refine ⟨c++[((i:Nat):Int)],by rw [gu,dN,h2],by rw [eX];exact h3,λb hb=> ?_⟩
  by_cases e:b=k
  · subst e;rw [h1,<-h2,sG]
  rw [rY _ _ _ _ (by omega)];exact h4 b (by omega)
theorem zz_ (L : List BSet) : ∃ r, Ik_ L = some r /\ (r.2 = 0 -> ∃ m, PartI L 256 m r.1) /\ r.1.length <= 256 /\ (L.length <= 1024 -> r.2 = 0) := by
  unfold Ik_
  by_cases hL:1024<((L.length:Nat):Int)
  · rw [bY hL];exact ⟨_,rfl,λh=>(by cases h),by simp,λh=>by omega⟩
  rw [bK hL];refine fC (step:=λq:(FM T_1 Int)×(List BSet)×Nat=>Yj L q.1 q.2.1 q.2.2) (λ(s:(FM T_1 Int)×List BSet) k=>(s.1,s.2,k)) 256 (λk s=>PartI L k s.1 s.2) _
    (λk s hk hI=> ?_) (λs hI=> ?_) (s0:=(FM.emp,[])) ⟨Nat.le_refl _,λb hb=>by omega,λx v hx=>(by cases hx),λx y v hx=>(by cases hx),λi hi=>(by simp at hi),[],rfl,rfl,λb hb=>by omega⟩
  · obtain ⟨m,p⟩:=s
    have hI:PartI L k m p:=hI;have hlen:=hI.len;show (∃s',Yj L m p k=_/\_)\/_;unfold Yj;rw [bY (by omega),ve_ L (by omega) hk,gq];left;cases hh:m.has (sJ L k)with
    |true=>
      rw [Bool.not_true,iteO_false];obtain ⟨v,hv⟩: ∃v,m.f (sJ L k)=some v:=by
        unfold FM.has at hh;exact Option.isSome_iff_exists.1 hh
      obtain ⟨i,hi,rfl⟩:=hI.val _ _ hv;have hg:m.get (sJ L k) 0=((i:Nat):Int):=by unfold FM.get;rw [hv];rfl
      rw [hg];obtain ⟨c,hc1,hc2,hc3⟩:=hI.cn;obtain ⟨p',e,hP⟩:=t6_ hk hi (by omega) hv hI.at_ hI.val hI.inj hI.has ⟨c,hc1,by
        rw [yh,hc2];unfold oW;rw [Option.bind_some,if_neg (by omega),if_neg (by omega)],hc3⟩
      exact ⟨(m,p'),e,hP⟩
    | false =>
      rw [Bool.not_false,iteO_true,aQ (by rw [dN];omega)];have hn:m.f (sJ L k)=none:=by
        unfold FM.has at hh;cases e:m.f (sJ L k)with
        |none=>rfl
        |some v=>rw [e]at hh;cases hh
      have hput: ∀x,(m.put (sJ L k) ((p.length:Nat):Int)).f x=if x=sJ L k then some ((p.length:Nat):Int) else m.f x:=λx=>rfl;have hne: ∀b,b<k->sJ L b≠sJ L k:=λb hb e=>by
        obtain ⟨i, -,hi⟩:=hI.at_ b hb;rw [e,hn]at hi;cases hi
      have hlen1:(p++[BSet.zero]).length=p.length+1:=by rw [gu,dN]
      obtain ⟨c,hc1,hc2,hc3⟩:=hI.cn;obtain ⟨p',e,hP⟩:=t6_ (L:=L) hk (m:=m.put (sJ L k) ((p.length:Nat):Int)) (p:=p++[BSet.zero]) (i:=p.length) (by omega) (by omega) (by rw [hput,if_pos rfl])
        (λb hb=>by
          obtain ⟨i,h1,h2⟩:=hI.at_ b hb;exact ⟨i,by omega,by rw [hput,if_neg (hne b hb)];exact h2⟩)
        (λx v hx=>by
          rw [hput]at hx
          by_cases e:x=sJ L k
          · rw [if_pos e]at hx;exact ⟨p.length,by omega,(Option.some.inj hx).symm⟩
          rw [if_neg e]at hx;obtain ⟨i,h1,h2⟩:=hI.val x v hx;exact ⟨i,by omega,h2⟩)
        (λx y v hx hy=>by
          rw [hput]at hx hy
          by_cases e:x=sJ L k
          · by_cases e2:y=sJ L k
            · rw [e,e2]
            rw [if_pos e]at hx;rw [if_neg e2]at hy;obtain ⟨i,h1,h2⟩:=hI.val y v hy;have:=Option.some.inj hx;omega
          by_cases e2:y=sJ L k
          · rw [if_neg e]at hx
            rw [if_pos e2]at hy;obtain ⟨i,h1,h2⟩:=hI.val x v hx;have:=Option.some.inj hy;omega
          rw [if_neg e]at hx;rw [if_neg e2]at hy;exact hI.inj x y v hx hy)
        (λi hi b hb=>by
          rw [hput]
          by_cases e:i<p.length
          · rw [rY _ _ _ _ e,hI.has i e b hb]
            by_cases e2:sJ L b=sJ L k
            · rw [if_pos e2]
              constructor
              · rintro ⟨h1,h2⟩
                exact absurd e2 (hne b h1)
              rintro ⟨h1,h2⟩;exact absurd e2 (hne b h1)
            rw [if_neg e2]
          obtain rfl:i=p.length:=by omega
          rw [sG];constructor
          · intro h
            rw [<-BSet.Uh,BSet.EX _ hb]at h;cases h
          rintro ⟨h1,h2⟩;rw [if_neg (hne b h1)]at h2;obtain ⟨j,h3,h4⟩:=hI.val _ _ h2;omega)
        ⟨c,hc1,by
          rw [yh,hc2,hlen1];unfold oW;rw [Option.bind_some,if_neg (by omega),if_pos rfl],λb hb=>by rw [hput,if_neg (hne b hb)];exact hc3 b hb⟩
      exact ⟨(_,p'),e,hP⟩
  obtain ⟨m,p⟩:=s;refine ⟨(p,0),?_,λ_=>⟨m,hI⟩,hI.len,λ_=>rfl⟩;show Yj L m p 256=_;unfold Yj;rw [bK (by omega)];rfl
theorem PartI.same{L:List BSet}{m:FM T_1 Int}{p:List BSet}(h:PartI L 256 m p){i:Nat}(hi:i<p.length){b c:Nat}(hb:b<256)(hc:c<256)(h1:(nth p i BSet.zero).has b=true)(h2:(nth p i BSet.zero).has c=true): ∀s∈L,s.has b=s.has c:=
  keyB_eq (h.inj _ _ _ ((h.has i hi b hb).1 h1).2 ((h.has i hi c hc).1 h2).2)
structure ClsI (p:List BSet) (l:aj):Prop where
  len:l.length=256
  at_: ∀b,b<256->nth l b (0:Int)= -1\/ ∃i:Nat,nth l b (0:Int)=((i:Nat):Int)/\i<p.length/\(nth p i BSet.zero).has b=true
def ClsR(p:List BSet)(r:aj×Int):Prop:=r.2=0->r.1.length=256/\ ∀b,b<256-> ∃i:Nat,nth r.1 b (0:Int)=((i:Nat):Int)/\i<p.length/\(nth p i BSet.zero).has b=true
theorem class_b4{p:List BSet}{l:aj}(h:ClsI p l): ∃r,aV (λq:Nat=>Fa l q) 0=some r/\ClsR p r:=by
  have hlen:=h.len;refine fC (step:=λq:Nat=>Fa l q) (λ(_:Unit) k=>k) 256 (λk _=> ∀b,b<k->0<=nth l b (0:Int)) _ (λk s hk hI=> ?_) (λs hI=> ?_) (s0:=()) (λb hb=>by omega)
  · show (∃s',Fa l k=_/\_)\/ ∃r,Fa l k=_/\_
    unfold Fa;rw [lq,bY (by omega),aQ (by omega)]
    by_cases c:nth l k (0:Int)<0
    · rw [bY c];exact .inr ⟨_,rfl,λh=>by cases h⟩
    rw [bK c];refine .inl ⟨(),rfl,λb hb=> ?_⟩
    by_cases e:b=k
    · subst e;omega
    exact hI b (by omega)
  refine ⟨(l,0),?_,λ_=>⟨hlen,λb hb=> ?_⟩⟩
  · show Fa l 256=_
    unfold Fa;rw [lq,bK (by omega)];rfl
  rcases h.at_ b hb with h1|h1
  · have:=hI b hb
    show ∃i:Nat,nth l b (0:Int)=_/\_;omega
  exact h1
theorem class_b3{p:List BSet}{k:Nat}(hk:k<p.length)(v:UInt8×Bool){l:aj}(h:ClsI p l):
    ∃r,aV (λq:aj×Nat=>Fb p k v q.1 q.2) (l,0)=some r/\((∃l',r= .inl (l',((v.1.toNat:Nat):Int),k+1)/\ClsI p l')\/r= .inr ([],1)):=by
  refine fC (step:=λq:aj×Nat=>Fb p k v q.1 q.2) (λ(l:aj) j=>(l,j)) 256 (λ_ l=>ClsI p l) _ (λj l hj hI=> ?_) (λl hI=> ?_) (s0:=l) h
  · have hlen:=hI.len
    show (∃s',Fb p k v l j=_/\_)\/ ∃r,Fb p k v l j=_/\_;unfold Fb F6_;rw [bY (by omega),u8_of hj];cases hh:(nth p k BSet.zero).has j with
    |false=>rw [Bool.not_false,iteO_true];exact .inl ⟨l,rfl,hI⟩
    |true=>
      rw [Bool.not_true,iteO_false,aQ (by omega)]
      by_cases c:0<=nth l j (0:Int)
      · rw [bY c];exact .inr ⟨_,rfl,.inr rfl⟩
      rw [bK c,aQ (by omega)];refine .inl ⟨_,rfl,by rw [eX];exact hlen,λb hb=> ?_⟩;rw [nI]
      by_cases e:j=b
      · subst e;rw [if_pos ⟨rfl,by omega⟩];exact .inr ⟨k,rfl,hk,hh⟩
      rw [if_neg (λq=>e q.1)];exact hI.at_ b hb
  refine ⟨_,?_,.inl ⟨l,rfl,hI⟩⟩;show Fb p k v l 256=_;unfold Fb;rw [bK (by omega)];rfl
theorem z8_{p:List BSet}{l:aj}(h:ClsI p l): ∃r,aV (λq:aj×Int×Nat=>Gw p q.1 q.2.1 q.2.2) (l, -1,0)=some r/\ClsR p r:=by
  refine fC (step:=λq:aj×Int×Nat=>Gw p q.1 q.2.1 q.2.2) (λ(s:aj×Int) k=>(s.1,s.2,k)) p.length (λ_ s=>ClsI p s.1) _ (λk s hk hI=> ?_) (λs hI=> ?_) (s0:=(l, -1)) h
  · obtain ⟨l,i⟩:=s
    show (∃s',Gw p l i k=_/\_)\/ ∃r,Gw p l i k=_/\_;unfold Gw;rw [bY (by omega),(lj_ _).1,gq];dsimp only
    by_cases c1:nth p k BSet.zero≠BSet.zero
    · rw [decide_eq_true c1,Bool.not_true,iteO_false]
      by_cases c2:(((gi_ (nth p k BSet.zero)).toNat:Nat):Int)<=i
      · rw [bY c2];exact .inr ⟨_,rfl,λh=>by cases h⟩
      rw [bK c2];obtain ⟨r,e,h2⟩:=class_b3 hk (gi_ (nth p k BSet.zero),true) hI;rw [e];rcases h2 with ⟨l',rfl,h2⟩|rfl
      · exact .inl ⟨(l',_),rfl,h2⟩
      exact .inr ⟨_,rfl,λh=>by cases h⟩
    rw [decide_eq_false c1,Bool.not_false,iteO_true];exact .inr ⟨_,rfl,λh=>by cases h⟩
  obtain ⟨l,i⟩:=s;obtain ⟨r,e,h2⟩:=class_b4 (p:=p) hI;refine ⟨r,?_,h2⟩;show Gw p l i p.length=_;unfold Gw;rw [bK (by omega),e];rfl
theorem class_go(p:List BSet): ∃r,Yi p=some r/\ClsR p r:=by
  unfold Yi;refine fC (step:=λq:aj×Nat=>IG p q.1 q.2) (λ(l:aj) k=>(l,k)) 256 (λk l=>l.length=256/\ ∀b,b<k->nth l b (0:Int)= -1) _ (λk l hk hI=> ?_) (λl hI=> ?_) (s0:=List.replicate 256 0) ⟨by rw [lq],λb hb=>by omega⟩
  · obtain ⟨h1,h2⟩:=hI
    show (∃s',IG p l k=_/\_)\/_;unfold IG;rw [lq,bY (by omega),aQ (by omega)];refine .inl ⟨_,rfl,by rw [eX];exact h1,λb hb=> ?_⟩;rw [nI]
    by_cases e:k=b
    · rw [if_pos ⟨e,by omega⟩]
    rw [if_neg (λq=>e q.1)];exact h2 b (by omega)
  obtain ⟨h1,h2⟩:=hI;obtain ⟨r,e,h3⟩:=z8_ (p:=p) (l:=l) ⟨h1,λb hb=> .inl (h2 b hb)⟩;refine ⟨r,?_,h3⟩;show IG p l 256=_;unfold IG;rw [lq,bK (by omega),e];rfl
structure PrtOk (p:List BSet):Prop where
  ne: ∀i,i<p.length-> ∃b,b<256/\(nth p i BSet.zero).has b=true
  disj: ∀i j,i<p.length->j<p.length-> ∀b,b<256->(nth p i BSet.zero).has b=true->(nth p j BSet.zero).has b=true->i=j
  cov: ∀b,b<256-> ∃i,i<p.length/\(nth p i BSet.zero).has b=true
  ord: ∀i j,i<j->j<p.length-> ∀b,b<256->(nth p j BSet.zero).has b=true-> ∃a,a<b/\(nth p i BSet.zero).has a=true
structure ClsK (p:List BSet) (k:Nat) (l:aj):Prop where
  len:l.length=256
  hit: ∀i,i<k-> ∀b,b<256->(nth p i BSet.zero).has b=true->nth l b (0:Int)=((i:Nat):Int)
  no: ∀b,b<256->(∀i,i<k->(nth p i BSet.zero).has b=false)->nth l b (0:Int)= -1
theorem z5_ {p : List BSet} (hP : PrtOk p) {k : Nat} (hk : k < p.length) (v : UInt8 × Bool) {l : aj} (h : ClsK p k l) :
    ∃l',aV (λq:aj×Nat=>Fb p k v q.1 q.2) (l,0)=some (.inl (l',((v.1.toNat:Nat):Int),k+1))/\ClsK p (k+1) l':=by
  have hfree: ∀b,b<256->(nth p k BSet.zero).has b=true->nth l b (0:Int)= -1:=λb hb hh=>h.no b hb λi hi=>by
    cases e:(nth p i BSet.zero).has b
    · rfl
    have:=hP.disj i k (by omega) hk b hb e hh;omega
  obtain ⟨r,e,l',rfl,h1⟩:=fC (step:=λq:aj×Nat=>Fb p k v q.1 q.2) (λ(l:aj) j=>(l,j)) 256 (λj x=>x.length=256/\ ∀b,b<256->nth x b (0:Int)=if b<j/\(nth p k BSet.zero).has b=true then ((k:Nat):Int) else nth l b (0:Int))
    (λr=> ∃l',r= .inl (l',((v.1.toNat:Nat):Int),k+1)/\l'.length=256/\ ∀b,b<256->nth l' b (0:Int)=if (nth p k BSet.zero).has b=true then ((k:Nat):Int) else nth l b (0:Int))
    (λj x hj hI=>by
      obtain ⟨hlen,hx⟩:=hI;left;show ∃s',Fb p k v x j=_/\_;unfold Fb F6_;rw [bY (by omega),u8_of hj];cases hh:(nth p k BSet.zero).has j with
      |false=>
        rw [Bool.not_false,iteO_true];refine ⟨x,rfl,hlen,λb hb=> ?_⟩;rw [hx b hb]
        by_cases e:b=j
        · subst e;rw [hh];simp
        by_cases e2:b<j
        · by_cases e3:(nth p k BSet.zero).has b=true
          · rw [if_pos ⟨e2,e3⟩,if_pos ⟨by omega,e3⟩]
          rw [if_neg (λq=>e3 q.2),if_neg (λq=>e3 q.2)]
        rw [if_neg (λq=>e2 q.1),if_neg (λq=>by omega)]
      |true=>
        have hxj:=hx j hj;rw [if_neg (λq=>Nat.lt_irrefl _ q.1),hfree j hj hh]at hxj;rw [Bool.not_true,iteO_false,aQ (by omega),bK (by omega),aQ (by omega)];refine ⟨_,rfl,by rw [eX];exact hlen,λb hb=> ?_⟩;rw [nI]
        by_cases e:j=b
        · subst e;rw [if_pos ⟨rfl,by omega⟩,if_pos ⟨by omega,hh⟩]
        rw [if_neg (λq=>e q.1),hx b hb]
        by_cases e2:b<j
        · by_cases e3:(nth p k BSet.zero).has b=true
          · rw [if_pos ⟨e2,e3⟩,if_pos ⟨by omega,e3⟩]
          rw [if_neg (λq=>e3 q.2),if_neg (λq=>e3 q.2)]
        rw [if_neg (λq=>e2 q.1),if_neg (λq=>by omega)])
    (λx hI=>by
      obtain ⟨hlen,hx⟩:=hI;refine ⟨_,?_,x,rfl,hlen,λb hb=> ?_⟩
      · show Fb p k v x 256=_
        unfold Fb;rw [bK (by omega)];rfl
      rw [hx b hb]
      by_cases e3:(nth p k BSet.zero).has b=true
      · rw [if_pos ⟨hb,e3⟩,if_pos e3]
      rw [if_neg (λq=>e3 q.2),if_neg e3])
    (s0:=l) ⟨h.len,λb hb=>by rw [if_neg (λq=>Nat.not_lt_zero _ q.1)]⟩
  obtain ⟨h1,h2⟩:=h1;refine ⟨l',e,h1,λi hi b hb hh=> ?_,λb hb hn=> ?_⟩
  · rw [h2 b hb]
    by_cases e:i=k
    · subst e;rw [if_pos hh]
    rw [if_neg (λq=>e (hP.disj i k (by omega) hk b hb hh q))];exact h.hit i (by omega) b hb hh
  rw [h2 b hb,if_neg (by rw [hn k (by omega)];exact Bool.false_ne_true)];exact h.no b hb λi hi=>hn i (by omega)
theorem t5_{b:Nat}(hb:b<256):BSet.zero.has b=false:=by
  rw [<-BSet.Uh,BSet.EX _ hb]
theorem vp_ {p : List BSet} (hP : PrtOk p) : ∃ l, Yi p = some (l, 0) := by
  unfold Yi ;obtain ⟨r,e,l,rfl⟩:=fC (step:=λq:aj×Nat=>IG p q.1 q.2) (λ(l:aj) k=>(l,k)) 256 (λk l=>l.length=256/\ ∀b,b<k->nth l b (0:Int)= -1) (λr=> ∃l,r=(l,0)) (λk l hk hI=>by
    obtain ⟨h1,h2⟩:=hI;show (∃s',IG p l k=_/\_)\/_;unfold IG;rw [lq,bY (by omega),aQ (by omega)];refine .inl ⟨_,rfl,by rw [eX];exact h1,λb hb=> ?_⟩;rw [nI]
    by_cases e:k=b
    · rw [if_pos ⟨e,by omega⟩]
    · rw [if_neg (λq=>e q.1)];exact h2 b (by omega)) (λl hI=>by
    obtain ⟨h1,h2⟩:=hI;obtain ⟨r,e,l',rfl⟩:=fC (step:=λq:aj×Int×Nat=>Gw p q.1 q.2.1 q.2.2) (λ(s:aj×Int) k=>(s.1,s.2,k)) p.length (λk s=>ClsK p k s.1/\(s.2= -1\/ ∃i,i<k/\s.2=(((gi_ (nth p i BSet.zero)).toNat:Nat):Int))) (λr=> ∃l,r=(l,0))
      (λk s hk hI=>by
        obtain ⟨l,i⟩:=s;obtain ⟨hI,hi⟩:=hI;dsimp only at hI hi;obtain ⟨b0,hb0,hb1⟩:=hP.ne k hk;have hz:nth p k BSet.zero≠BSet.zero:=λe=>by rw [e,t5_ hb0]at hb1;cases hb1
        left;show ∃s',Gw p l i k=_/\_;unfold Gw;rw [bY (by omega),(lj_ _).1,gq];dsimp only;have hf:=(lj_ (nth p k BSet.zero)).2 hz;have hlt: ¬ (((gi_ (nth p k BSet.zero)).toNat:Nat):Int)<=i:=by
          rcases hi with rfl|⟨j,hj,rfl⟩
          · omega
          obtain ⟨a,ha,h3⟩:=hP.ord j k hj hk _ (UInt8.toNat_lt _) hf;have hzj:nth p j BSet.zero≠BSet.zero:=λe=>by
            have:=UInt8.toNat_lt (gi_ (nth p k BSet.zero));rw [e,t5_ (by omega)]at h3;cases h3
          have h4:=s0_ hzj a;rw [h3]at h4;have: ¬ a<(gi_ (nth p j BSet.zero)).toNat:=λq=>by have:=h4 q;cases this
          omega
        rw [decide_eq_true hz,Bool.not_true,iteO_false,bK hlt];obtain ⟨l',e,hC⟩:=z5_ hP hk (gi_ (nth p k BSet.zero),true) hI;rw [e];exact ⟨(l',_),rfl,hC,.inr ⟨k,by omega,rfl⟩⟩)
      (λs hI=>by
        obtain ⟨l,i⟩:=s;obtain ⟨hI, -⟩:=hI;dsimp only at hI;have hlen:=hI.len;obtain ⟨r,e,rfl⟩:=fC (step:=λq:Nat=>Fa l q) (λ(_:Unit) k=>k) 256 (λ_ _=>True) (λr=>r=(l,0)) (λk s hk _=>by
          show (∃s',Fa l k=_/\_)\/ ∃r,Fa l k=_/\_;obtain ⟨i,hi,hh⟩:=hP.cov k hk;have:=hI.hit i hi k hk hh;unfold Fa;rw [lq,bY (by omega),aQ (by omega),bK (by omega)];exact .inl ⟨(),rfl,trivial⟩) (λs _=>⟨(l,0),by
            show Fa l 256=_;unfold Fa;rw [lq,bK (by omega)];rfl,rfl⟩) (s0:=()) trivial
        refine ⟨(l,0),?_,l,rfl⟩;show Gw p l i p.length=_;unfold Gw;rw [bK (by omega),e];rfl)
      (s0:=(l, -1)) ⟨⟨h1,λi hi=>absurd hi (Nat.not_lt_zero i),λb hb _=>h2 b hb⟩,.inl rfl⟩
    refine ⟨(l',0),?_,l',rfl⟩;show IG p l 256=_;unfold IG;rw [lq,bK (by omega),e];rfl) (s0:=List.replicate 256 0) ⟨by rw [lq],λb hb=>by omega⟩
  exact ⟨l,e⟩
theorem y4_ (l : List Arrow) (hl : l.length <= 1000000) : ∃ r, Id_ l = some r /\ (∀ e ∈ l, e.set ∈ r) /\ r.length <= l.length := by
  unfold Id_;obtain ⟨r,e,h⟩:=fC (step:=λq:(FM BSet Int)×(List BSet)×Nat=>Yp l q.1 q.2.1 q.2.2) (λ(s:(FM BSet Int)×List BSet) k=>(s.1,s.2,k)) l.length (λk s=>s.2.length<=k/\(∀x,s.1.has x=true->x∈s.2)/\ ∀e∈l.take k,e.set∈s.2) (λr=>(∀e∈l,e.set∈r)/\r.length<=l.length)
    (λk s hk hI=>by
      obtain ⟨m,p⟩:=s;obtain ⟨h1,h2,h3⟩:=hI;dsimp only at h1 h2 h3;show (∃s',Yp l m p k=_/\_)\/_;unfold Yp G4_;rw [bY (by omega),jS l hk Arrow.zero];cases hh:m.has (nth l k Arrow.zero).set with
      |true=>
        rw [Bool.not_true,iteO_false];refine .inl ⟨(m,p),rfl,by show p.length<=_;omega,h2,λe he=> ?_⟩;rcases List.mem_append.1 he with he|he
        · exact h3 e he
        rw [List.mem_singleton.1 he];exact h2 _ hh
      |false=>
        rw [Bool.not_false,iteO_true,aQ (by rw [dN];omega)];refine .inl ⟨(_,p++[(nth l k Arrow.zero).set]),rfl,by show (p++[_]).length<=_;rw [gu,dN];omega,λx hx=> ?_,λe he=> ?_⟩
        · show x∈p++[_]
          rw [List.mem_append,Ip]
          by_cases e:x=(nth l k Arrow.zero).set
          · exact .inr e
          refine .inl (h2 x ?_);have h4:(m.put (nth l k Arrow.zero).set ((p.length:Nat):Int)).f x=m.f x:=by show (if x=_ then _ else _)=_;rw [if_neg e]
          have hx':((m.put (nth l k Arrow.zero).set ((p.length:Nat):Int)).f x).isSome=true:=hx;rw [h4]at hx';exact hx'
        show e.set∈p++[_];rcases List.mem_append.1 he with he|he
        · exact List.mem_append_left _ (h3 e he)
        rw [List.mem_singleton.1 he];exact List.mem_append_right _ (List.mem_singleton.2 rfl))
    (λs hI=>by
      obtain ⟨m,p⟩:=s;obtain ⟨h1,h2,h3⟩:=hI;rw [List.take_length]at h3;refine ⟨p,?_,h3,h1⟩;show Yp l m p l.length=_;unfold Yp;rw [bK (by omega)];rfl)
    (s0:=(FM.emp,[])) ⟨Nat.le_refl _,λx hx=>(by cases hx),λe he=>(by cases he)⟩
  exact ⟨r,e,h⟩
theorem flt_or{α:Type}(p q:α->Bool)(h: ∀x,p x=true->q x=true->False): ∀l:List α,(l.filter λx=>p x || q x).length=(l.filter p).length+(l.filter q).length
  |[]=>rfl
  |x::l=>by
    have ih:=flt_or p q h l;cases hp:p x<;>cases hq:q x
    · simp [hp,hq,ih]
    · simp [hp,hq,ih];omega
    · simp [hp,hq,ih];omega
    exact (h x hp hq).elim
theorem up_not{row:aj}(hp:row.Pairwise (· < ·)){k:Nat}(hk:k<row.length):nth row k (0:Int)∉row.take k:=λhm=>by
  have h1:=hp;rw [<-List.take_append_drop (k+1) row,jS row hk (0:Int),List.pairwise_append,List.pairwise_append]at h1;exact Int.lt_irrefl _ (h1.1.2.2 _ hm _ (List.mem_singleton.2 rfl))
theorem wp_ {n : Nfa} {A : List (List Arrow)} (hA : Grp Arrow.frm id n.states.toNat A n.edges) (h0 : 0 <= n.states) (hE : n.edges.length <= 16384) {row : aj} (hr : ∀ x ∈ row, 0 <= x /\ x < n.states) (hp : row.Pairwise (· < ·)) (s : BSet) :
    ∃l,If_ A row s=some l/\l.length<=1000000/\ ∀q,q∈l↔ ∃e∈n.edges,e.frm∈row/\e.set.has (gi_ s).toNat=true/\e.to=q:=by
  have hlen:=hA.len;unfold If_;rw [(lj_ s).1,gq];obtain ⟨r,e,h1,h2⟩:=fC (step:=λq:aj×Nat=>Yl row A (gi_ s,decide (s≠BSet.zero)) q.1 q.2) (λ(l:aj) k=>(l,k)) row.length
    (λk l=>l.length<=(n.edges.filter λe=>decide (e.frm∈row.take k)).length/\ ∀q,q∈l↔ ∃e∈n.edges,e.frm∈row.take k/\e.set.has (gi_ s).toNat=true/\e.to=q) (λr=>r.length<=1000000/\ ∀q,q∈r↔ ∃e∈n.edges,e.frm∈row/\e.set.has (gi_ s).toNat=true/\e.to=q)
    (λk l hk hI=>by
      obtain ⟨h1,h2⟩:=hI;have h9:=Nat.le_trans h1 (List.length_filter_le _ _);have hx:=hr _ (jB hk (0:Int));have hg:nth A (nth row k (0:Int)).toNat ([]:List Arrow)=n.edges.filter λe=>decide (e.frm=nth row k (0:Int)):=by rw [hA.at hx.1 (by omega),List.map_id]
      have hgl:(nth A (nth row k (0:Int)).toNat ([]:List Arrow)).length<=16384:=by
        rw [hg];exact Nat.le_trans (List.length_filter_le _ _) hE
      show (∃s',Yl row A (gi_ s,decide (s≠BSet.zero)) l k=_/\_)\/_;unfold Yl;rw [bY (by omega),aQ (by omega)];obtain ⟨r,e,l',rfl,h3,h4⟩:=fC (step:=λq:aj×Nat=>Yo A row k (gi_ s,decide (s≠BSet.zero)) q.1 q.2) (λ(l:aj) j=>(l,j)) (nth A (nth row k (0:Int)).toNat ([]:List Arrow)).length
        (λj m=>m.length<=l.length+j/\ ∀q,q∈m↔q∈l\/ ∃e∈(nth A (nth row k (0:Int)).toNat ([]:List Arrow)).take j,e.set.has (gi_ s).toNat=true/\e.to=q)
        (λr=> ∃l',r= .inl (l',k+1)/\l'.length<=l.length+(nth A (nth row k (0:Int)).toNat ([]:List Arrow)).length/\ ∀q,q∈l'↔q∈l\/ ∃e∈nth A (nth row k (0:Int)).toNat ([]:List Arrow),e.set.has (gi_ s).toNat=true/\e.to=q)
        (λj m hj hI=>by
          obtain ⟨h3,h4⟩:=hI;show (∃s',Yo A row k (gi_ s,decide (s≠BSet.zero)) m j=_/\_)\/_;unfold Yo G3_;dsimp only;rw [bY (by omega)];cases hh:(nth (nth A (nth row k (0:Int)).toNat ([]:List Arrow)) j Arrow.zero).set.has (gi_ s).toNat with
          |true=>
            rw [iteO_true,aQ (by rw [dN];omega)];refine .inl ⟨_,rfl,by rw [gu,dN];omega,λq=> ?_⟩;rw [jS _ hj Arrow.zero,List.mem_append,Ip,h4];constructor
            · rintro ((h|⟨e,he,h5⟩)|rfl)
              · exact .inl h
              · exact .inr ⟨e,List.mem_append_left _ he,h5⟩
              exact .inr ⟨_,List.mem_append_right _ (List.mem_singleton.2 rfl),hh,rfl⟩
            rintro (h|⟨e,he,h5,h6⟩)
            · exact .inl (.inl h)
            rcases List.mem_append.1 he with he|he
            · exact .inl (.inr ⟨e,he,h5,h6⟩)
            rw [List.mem_singleton.1 he]at h6;exact .inr h6.symm
          |false=>
            rw [iteO_false];refine .inl ⟨m,rfl,by omega,λq=> ?_⟩;rw [jS _ hj Arrow.zero,h4];refine or_congr Iff.rfl ⟨λ⟨e,he,h5⟩=>⟨e,List.mem_append_left _ he,h5⟩,λ⟨e,he,h5,h6⟩=> ?_⟩;rcases List.mem_append.1 he with he|he
            · exact ⟨e,he,h5,h6⟩
            rw [List.mem_singleton.1 he,hh]at h5;cases h5)
        (λm hI=>by
          obtain ⟨h3,h4⟩:=hI;rw [List.take_length]at h4;refine ⟨.inl (m,k+1),?_,m,rfl,by omega,h4⟩;show Yo A row k (gi_ s,decide (s≠BSet.zero)) m (nth A (nth row k (0:Int)).toNat ([]:List Arrow)).length=_;unfold Yo;rw [bK (by omega)];rfl)
        (s0:=l) ⟨Nat.le_refl _,λq=>by simp⟩
      rw [e];have hcnt:(n.edges.filter λe=>decide (e.frm∈row.take (k+1))).length=(n.edges.filter λe=>decide (e.frm∈row.take k)).length+(nth A (nth row k (0:Int)).toNat ([]:List Arrow)).length:=by
        rw [hg,<-flt_or _ _ (λx h5 h6=>up_not hp hk (by rw [<-Gu h6];exact Gu h5)) n.edges];congr 1;apply List.filter_congr;intro x _;rw [jS row hk (0:Int),Bool.eq_iff_iff,Bool.or_eq_true,dA,dA,dA,List.mem_append,Ip]
      refine .inl ⟨l',rfl,by omega,λq=> ?_⟩;rw [h4,h2,jS row hk (0:Int),hg];constructor
      · rintro (⟨e,he,h5,h6⟩|⟨e,he,h6⟩)
        · exact ⟨e,he,List.mem_append_left _ h5,h6⟩
        obtain ⟨h7,h8⟩:=List.mem_filter.1 he;exact ⟨e,h7,List.mem_append_right _ (List.mem_singleton.2 (Gu h8)),h6⟩
      rintro ⟨e,he,h5,h6⟩;rcases List.mem_append.1 h5 with h5|h5
      · exact .inl ⟨e,he,h5,h6⟩
      exact .inr ⟨e,List.mem_filter.2 ⟨he,decide_eq_true (List.mem_singleton.1 h5)⟩,h6⟩)
    (λl hI=>by
      obtain ⟨h1,h2⟩:=hI;rw [List.take_length]at h2;have h3:=Nat.le_trans h1 (List.length_filter_le _ _);refine ⟨l,?_,by omega,h2⟩;show Yl row A (gi_ s,decide (s≠BSet.zero)) l row.length=_;unfold Yl;rw [bK (by omega)];rfl)
    (s0:=[]) ⟨Nat.zero_le _,λq=>by simp⟩
  exact ⟨r,e,h1,h2⟩
section
variable {α:Type} [DecidableEq α] {d:α} {cf:α->α->Int}
theorem q9_ (hc : GoodCmp cf) (x0 : List α) (step1 : List α × Nat -> Option ((List α × Nat) ⊕ List α)) (step2 : List α -> Nat -> Nat -> Option (Nat ⊕ ((List α × Nat) ⊕ List α)))
    (hend: ∀l k,x0.length<=k->step1 (l,k)=some (.inr l)) (hbody: ∀l k,k<x0.length->step1 (l,k)=aV (step2 l k) 0)
    (hlt: ∀l k j,k<x0.length->j<l.length->cf (nth l j d) (nth x0 k d)<0->step2 l k j=some (.inl (j+1)))
    (heq: ∀l k j,k<x0.length->j<l.length->nth l j d=nth x0 k d->step2 l k j=some (.inr (.inl (l,k+1))))
    (hins: ∀l k j,k<x0.length->l.length<=x0.length->j<=l.length->(j<l.length-> ¬ cf (nth l j d) (nth x0 k d)<0/\nth l j d≠nth x0 k d)->step2 l k j=some (.inr (.inl (l.take j++[nth x0 k d]++l.drop j,k+1)))):
    aV step1 ([],0)=some (rX d cf x0):=by
  refine Exists.elim (Ho (step:=step1) (λq=>q.2<=x0.length/\q.1.length<=q.2/\(q.1.Pairwise λx y=>cf x y<0)/\ ∀x,x∈q.1↔x∈x0.take q.2) (λr=>r=rX d cf x0) (λq=>x0.length - q.2) ?_ ([],0) ⟨Nat.zero_le _,Nat.le_refl _,List.Pairwise.nil,by simp⟩) (λr hr=>by rw [hr.1,hr.2]);rintro ⟨l,k⟩ ⟨hk,hl,hp,hm⟩;simp only at hk hl hp hm
  by_cases hkl:k<x0.length
  · left
    have qH : ∃r,aV (step2 l k) 0=some r/\ ∃l',r= .inl (l',k+1)/\l'.length<=k+1/\(l'.Pairwise λx y=>cf x y<0)/\ ∀x,x∈l'↔x∈l\/x=nth x0 k d:=by
      refine Ho (step:=step2 l k) (λj=>j<=l.length/\ ∀i,i<j->cf (nth l i d) (nth x0 k d)<0) _ (λj=>l.length - j) ?_ 0 ⟨Nat.zero_le _,λi hi=>absurd hi (Nat.not_lt_zero _)⟩;rintro j ⟨hj,hI⟩
      by_cases hjl:j<l.length
      · by_cases h1:cf (nth l j d) (nth x0 k d)<0
        · left
          refine ⟨j+1,hlt l k j hkl hjl h1,⟨by omega,λi hi=> ?_⟩,by omega⟩
          by_cases e:i=j
          · subst e;exact h1
          exact hI i (by omega)
        right
        by_cases h2:nth l j d=nth x0 k d
        · refine ⟨_,heq l k j hkl hjl h2,l,rfl,by omega,hp,λx=>⟨.inl,?_⟩⟩
          rintro (h|rfl)
          · exact h
          rw [<-h2];exact jB hjl d
        refine ⟨_,hins l k j hkl (by omega) hj (λ_=>⟨h1,h2⟩),_,rfl,?_,?_,?_⟩
        · simp only [gu,List.length_take,List.length_drop,dN];omega
        · have hxj:cf (nth x0 k d) (nth l j d)<0:=by
            have a:=hc.anti (nth x0 k d) (nth l j d);have b:=hc.eq (nth l j d) (nth x0 k d);have:cf (nth l j d) (nth x0 k d)≠0:=λh=>h2 (b.1 h);omega
          have hd:l.drop j=nth l j d::l.drop (j+1):=by
            have:=getD_some l hjl d;rw [List.getElem?_eq_getElem hjl,Option.some.injEq]at this;rw [<-this];exact List.drop_eq_getElem_cons hjl
          have hpd:(l.drop j).Pairwise λx y=>cf x y<0:=hp.sublist (List.drop_sublist ..);have hgt: ∀y∈l.drop j,cf (nth x0 k d) y<0:=λy hy=>by
            rw [hd]at hy hpd;rw [List.pairwise_cons]at hpd;rcases List.mem_cons.1 hy with rfl|hy
            · exact hxj
            exact hc.trans _ _ _ hxj (hpd.1 y hy)
          have hls: ∀y∈l.take j,cf y (nth x0 k d)<0:=λy hy=>by
            obtain ⟨i,hi,rfl⟩:=List.mem_iff_getElem.1 hy;have hij:i<j:=by simp at hi;omega
            have:=hI i hij;have e:=getD_some l (show i<l.length by omega) d;rw [List.getElem?_eq_getElem (show i<l.length by omega),Option.some.injEq]at e;rw [List.getElem_take,e];exact this
          rw [zQ,List.pairwise_append];refine ⟨hp.sublist (List.take_sublist ..),?_,λx hx y hy=> ?_⟩
          · rw [List.singleton_append,List.pairwise_cons]
            exact ⟨hgt,hpd⟩
          rw [List.singleton_append,List.mem_cons]at hy;rcases hy with rfl|hy
          · exact hls x hx
          exact hc.trans _ _ _ (hls x hx) (hgt y hy)
        intro x;rw [zQ,List.mem_append,List.singleton_append,List.mem_cons];have:x∈l↔x∈l.take j\/x∈l.drop j:=by rw [<-List.mem_append,List.take_append_drop]
        rw [this];constructor
        · rintro (h|h|h)
          · exact .inl (.inl h)
          · exact .inr h
          exact .inl (.inr h)
        rintro ((h|h)|h)
        · exact .inl h
        · exact .inr (.inr h)
        exact .inr (.inl h)
      right;have hj':j=l.length:=by omega
      subst hj';refine ⟨_,hins l k l.length hkl (by omega) hj (λh=>absurd h (Nat.lt_irrefl _)),_,rfl,?_,?_,?_⟩
      · simp only [gu,List.length_take,List.length_drop,dN];omega
      · rw [List.take_length,List.drop_length,List.append_nil,List.pairwise_append]
        refine ⟨hp,List.pairwise_singleton ..,λx hx y hy=> ?_⟩;rw [List.mem_singleton.1 hy];obtain ⟨i,hi,rfl⟩:=List.mem_iff_getElem.1 hx;have:=hI i hi;have e:=getD_some l hi d;rw [List.getElem?_eq_getElem hi,Option.some.injEq]at e;rw [e];exact this
      intro x;simp
    obtain ⟨r,h1,l',rfl,h2,h3,h4⟩:=qH;refine ⟨(l',k+1),by rw [hbody l k hkl,h1],⟨by simp only;omega,h2,h3,λx=> ?_⟩,by simp only;omega⟩;simp only;rw [h4,jS x0 hkl d,List.mem_append,Ip,hm]
  right;refine ⟨l,hend l k (by omega),rj_ hc hp (g1_ hc x0) λx=> ?_⟩;rw [hm,ZO,List.take_of_length_le (by omega)]
end
end Go.Proofs.YtcfgkcfcddfccaaGreatDoor
end

noncomputable section
namespace Go.E
open Go Go.RowKit
def FK(w:World):ak:=λb=>w.heap[b]?
theorem s2_(w:World):Reach w [] (FK w) (FK w) w []:=
  ⟨rfl,rfl,rfl,Nat.le_refl _,λ_ _ _=>rfl,ak.le.refl _,λ_ _ h=>h,λ_ _ h=> .inl h,by simp,by simp,by simp [fV],by simp,Nat.le_refl _⟩
theorem v6_(w:World)(a:Addr):(FK w).cell a=w.cell? a:=by
  unfold ak.cell World.cell? FK;cases w.heap[a.block]? with
  |none=>rfl
  |some o=>cases o<;>rfl
theorem Con.below{P:Program}{f:FuncId}{args:Array Value}{w:World}{v:Value}(h:Con P f args (FK w) [] (iU v (FK w))):
    Calls P f args w λe w'=>e= .returned v/\Below w.heap.size w w':=
  (h w (s2_ w)).mono λe w' ⟨r,σ',H',he,⟨h1,h2,h3⟩,k⟩=>⟨by rw [he,h1],⟨k.os,k.tape,k.output,k.size,λi hi=>k.frame i hi (by simp)⟩⟩
def DI(l:List Nat):Prop:= ∀x∈l,x<=140737488351232
theorem DI.left{a b:List Nat}(h:DI (a++b)):DI a:=λx hx=>h x (List.mem_append_left _ hx)
theorem DI.right{a b:List Nat}(h:DI (a++b)):DI b:=λx hx=>h x (List.mem_append_right _ hx)
theorem zk_{l:List Nat}(h:l.all (· <=reachBytes)=true):DI l:=λx hx=>by
  have:=List.all_eq_true.1 h x hx;exact Gu this
def Opn(P:Program)(w:World)(T:TypeId){α:Type}(ok:List Value->α->Prop):Prop:=
  ∀{H:Type} (enc:TypeId×Value->H) (held:Bool) (fuel:Nat) (cs:List Value) (d:DataW H) (ps:List MemPlace),DataW.trod enc P w 0 (λ_=>true) held fuel T cs=some (d,ps)->DI (DataW.weights P T d)-> ∃x,ok cs x
section
variable {P:Program} {w:World} {T E:TypeId}
theorem Opn.mono{α β:Type}{ok:List Value->α->Prop}{ok':List Value->β->Prop}(h:Opn P w T ok)(f:α->β)(hf: ∀cs x,ok cs x->ok' cs (f x)):Opn P w T ok':=λenc held fuel cs d ps ht hs=>
  let ⟨x,hx⟩:=h enc held fuel cs d ps ht hs;⟨f x,hf cs x hx⟩
theorem Opn.int{k:IntKind}(hT:P.underlying T=some (.int k)):Opn P w T (λcs (x:Int)=>cs=[.int k x]/\(Lit.int k x).wf=true):=λenc held fuel cs d ps ht _=>by
  obtain ⟨n,h,_,hw⟩:=DataW.trod_int hT ht;exact ⟨n,h,hw⟩
theorem Opn.bool(hT:P.underlying T=some .bool):Opn P w T (λcs (x:Bool)=>cs=[.bool x]):=λenc held fuel cs d ps ht _=>by
  obtain ⟨n,h,_⟩:=DataW.trod_bool hT ht;exact ⟨n,h⟩
theorem Opn.str(hT:P.underlying T=some .string):Opn P w T (λcs (x:List UInt8)=>cs=[.string (bs x)]/\x.length<=140737488351232):=λenc held fuel cs d ps ht hs=>by
  obtain ⟨s,h,hx,hw⟩:=DataW.trod_string hT ht;simp only [Prod.mk.injEq]at hx;obtain ⟨rfl,rfl⟩:=hx;exact ⟨s.data.toList,by rw [h,<-bs_of],hs _ (by simp [DataW.weights])⟩
theorem k9_ {α β : Type} {f : α -> Option β} : ∀ {l : List α} {r : List β}, l.mapM f = some r -> r.length = l.length /\ ∀ (i : Nat) (x : α), l[i]? = some x -> ∃ y : β, r[i]? = some y /\ f x = some y
  |[],r,h=>by simp at h;subst h;exact ⟨rfl,λi x hx=>by simp at hx⟩
  | a :: l, r, h => by
    rw [List.mapM_cons]at h;cases hf:f a with
    |none=>rw [hf]at h;cases h
    |some y=>
      cases hm:l.mapM f with
      |none=>rw [hf,hm]at h;cases h
      |some r'=>
        rw [hf,hm]at h;cases h;obtain ⟨h1,h2⟩:=k9_ hm;refine ⟨by simp [h1],λi x hx=> ?_⟩;cases i with
        |zero=>simp at hx;subst hx;exact ⟨y,rfl,hf⟩
        |succ i=>simp at hx;simpa using h2 i x hx
theorem mg_{H:Type}{ts:List TypeId}{ds:List (DataW H)}{i:Nat}{t:TypeId}{d:DataW H}(ht:ts[i]? =some t)(hd:ds[i]? =some d)(hs:DI (DataW.weightsEach P ts ds)):DI (DataW.weights P t d):=by
  induction ts generalizing i ds with
  |nil=>simp at ht
  |cons t' ts ih=>
    cases ds with
    |nil=>simp at hd
    |cons d' ds=>
      simp only [DataW.weightsEach]at hs;cases i with
      |zero=>simp at ht hd;subst ht hd;exact hs.left
      |succ i=>simp at ht hd;exact ih ht hd hs.right
theorem kt_{H:Type}{ds:List (DataW H)}{i:Nat}{d:DataW H}(hd:ds[i]? =some d)(hs:DI (DataW.weightsAll P E ds)):DI (DataW.weights P E d):=by
  induction ds generalizing i with
  |nil=>simp at hd
  |cons d' ds ih=>
    simp only [DataW.weightsAll]at hs;cases i with
    |zero=>simp at hd;subst hd;exact hs.left
    |succ i=>simp at hd;exact ih hd hs.right
theorem kg_{H:Type}{enc:TypeId×Value->H}{held:Bool}{fuel:Nat}{cs:List Value}{d:DataW H}{ps:List MemPlace}{fs:Array Field}(hT:P.underlying T=some (.struct fs))(h:DataW.trod enc P w 0 (λ_=>true) held fuel T cs=some (d,ps))(hs:DI (DataW.weights P T d)):
    cs.length=P.cellsOf T/\ ∀(i:Nat) (f:Field) {α:Type} {ok:List Value->α->Prop},fs.toList[i]? =some f->Opn P w f.type ok-> ∃x,ok ((cs.drop f.offset).take (P.cellsOf f.type)) x:=by
  cases fuel with
  |zero=>simp [DataW.trod]at h
  |succ fuel=>
    unfold DataW.trod at h;rw [hT]at h;simp only at h
    split at h
    · rename_i hl
      refine ⟨hl,λi f α ok hf ho=> ?_⟩;rw [Option.map_eq_some_iff]at h;obtain ⟨xs,h1,h2⟩:=h;simp only [Prod.mk.injEq]at h2;obtain ⟨rfl,rfl⟩:=h2;obtain ⟨h3,h4⟩:=k9_ h1;obtain ⟨y,h5,h6⟩:=h4 i f hf;refine ho enc held fuel _ y.1 y.2 h6 ?_;simp only [DataW.weights,hT]at hs;exact mg_ (i:=i) (by simp [hf]) (by simp [h5]) hs
    cases h
theorem uy_{H:Type}{enc:TypeId×Value->H}{held:Bool}{fuel n:Nat}{cs:List Value}{d:DataW H}{ps:List MemPlace}(hT:P.underlying T=some (.array n E))(h:DataW.trod enc P w 0 (λ_=>true) held fuel T cs=some (d,ps))(hs:DI (DataW.weights P T d)):
    cs.length=P.cellsOf T/\ ∀(i:Nat) {α:Type} {ok:List Value->α->Prop},i<n->Opn P w E ok-> ∃x,ok ((cs.drop (i * P.cellsOf E)).take (P.cellsOf E)) x:=by
  cases fuel with
  |zero=>simp [DataW.trod]at h
  |succ fuel=>
    unfold DataW.trod at h;rw [hT]at h;simp only at h
    split at h
    · rename_i hl
      refine ⟨hl,λi α ok hi ho=> ?_⟩;rw [Option.map_eq_some_iff]at h;obtain ⟨xs,h1,h2⟩:=h;simp only [Prod.mk.injEq]at h2;obtain ⟨rfl,rfl⟩:=h2;obtain ⟨h3,h4⟩:=k9_ h1;obtain ⟨y,h5,h6⟩:=h4 i i (by rw [List.getElem?_range hi]);refine ho enc held fuel _ y.1 y.2 h6 ?_;simp only [DataW.weights,hT]at hs;exact kt_ (i:=i) (by simp [h5]) hs
    cases h
theorem list4{cs:List Value}(h:cs.length=4): ∃a b c d,cs=[a,b,c,d]:=by
  match cs,h with
  |[a,b,c,d],_=>exact ⟨a,b,c,d,rfl⟩
theorem t1_{x:Int}(h:(Lit.int .u64 x).wf=true): ∃n:Nat,x=(n:Int)/\n<18446744073709551616:=by
  have h1:IntKind.u64.min=0:=rfl;have h2:IntKind.u64.max=18446744073709551615:=rfl;simp only [Lit.wf,Bool.and_eq_true,dA,h1,h2]at h;exact ⟨x.toNat,by omega,by omega⟩
theorem Opn.set(hT:P.underlying T=some (.array 4 E))(hE:P.underlying E=some (.int .u64))(hc:P.cellsOf T=4)(he:P.cellsOf E=1):Opn P w T (λcs (s:BSet)=>cs=(setA s).toList):=λenc held fuel cs d ps ht hs=>by
  obtain ⟨hl,hp⟩:=uy_ hT ht hs;rw [hc]at hl;obtain ⟨a,b,c,d,rfl⟩:=list4 hl;rw [he]at hp;obtain ⟨x0,h0,w0⟩:=hp 0 (by omega) (Opn.int hE);obtain ⟨x1,h1,w1⟩:=hp 1 (by omega) (Opn.int hE);obtain ⟨x2,h2,w2⟩:=hp 2 (by omega) (Opn.int hE);obtain ⟨x3,h3,w3⟩:=hp 3 (by omega) (Opn.int hE);simp at h0 h1 h2 h3;subst h0 h1 h2 h3;obtain ⟨n0,rfl,l0⟩:=t1_ w0;obtain ⟨n1,rfl,l1⟩:=t1_ w1;obtain ⟨n2,rfl,l2⟩:=t1_ w2;obtain ⟨n3,rfl,l3⟩:=t1_ w3;exact ⟨⟨n0,n1,n2,n3,l0,l1,l2,l3⟩,rfl⟩
theorem xs_{a:Addr}{n:Nat}{cs:List Value}(h:w.cells? 0 a n=some cs):cs.length=n/\ ∀j u,cs[j]? =some u->w.cell? (a.add j)=some u:=by
  unfold World.cells? at h;rw [if_pos (Nat.zero_le _)]at h;obtain ⟨h1,h2⟩:=k9_ h;rw [List.length_range]at h1;refine ⟨h1,λj u hj=> ?_⟩;have hlt:j<n:=by have:=(List.getElem?_eq_some_iff.1 hj).1;omega
  obtain ⟨y,h3,h4⟩:=h2 j j (by rw [List.getElem?_range hlt]);rw [hj]at h3;cases h3;exact h4
theorem Ll(cs:List Value)(a b:Nat):(cs.drop a).take b++cs.drop (a+b)=cs.drop a:=by
  rw [<-List.drop_drop];exact List.take_append_drop b (cs.drop a)
theorem Opn.arg{H:Type}{enc:TypeId×Value->H}{α:Type}{ok:List Value->α->Prop}(h:Opn P w T ok){v:Value}{d:DataW H}{ps:List MemPlace}(hd:DataW.Trod enc P w 0 (λ_=>true) true T v d ps)(hs:DI (DataW.weights P T d)): ∃x,ok v.cells.toList x:=by
  obtain ⟨fuel,hf⟩:=hd;exact h enc true fuel _ d ps hf hs
theorem ps_{r:Go.Reach}{b0:Nat}{v:Value}{t:TypeDesc}(hT:P.underlying T=some t)(ht:(∃fs,t= .struct fs)\/ ∃n e,t= .array n e)(h:Value.okWide P w r b0 T v): ∃cs,v= .agg cs:=by
  unfold Value.okWide at h;rw [hT]at h;rcases ht with ⟨fs,rfl⟩|⟨n,e,rfl⟩
  · obtain ⟨cs,h1,_⟩:=h;exact ⟨cs,h1⟩
  obtain ⟨cs,h1,_⟩:=h;exact ⟨cs,h1⟩
theorem agg_of{cs:Array Value}{l:List Value}(h:(Value.agg cs).cells.toList=l):Value.agg cs= .agg l.toArray:=by
  subst h;simp [Value.cells]
theorem Opn.sliceG {α : Type} {wK : α -> List Value} {size : Nat} {good : α -> Prop} (hT : P.underlying T = some (.slice E)) (hE : Opn P w E (λcs x => cs = wK x /\ good x)) (hc : P.cellsOf E = size) (hb : 0 < P.bytesOf E) (hl : ∀ x, (wK x).length = size) (h1 : ∀ x, ∀ u ∈ wK x, u.oneCell' = true) :
    Opn P w T (λcs (l:List α)=> ∃a c,cs=[.slice a l.length c]/\RS (FK w) size wK (.slice a l.length c) l/\ ∀x∈l,good x):=λenc held fuel cs d ps ht hs=>by
  cases fuel with
  |zero=>simp [DataW.trod]at ht
  |succ fuel=>
    unfold DataW.trod at ht;rw [hT]at ht
    split at ht
    all_goals (first|(rename_i he;cases he;done)|(rename_i he _;cases he;done)|(cases ht;done)|skip)
    · exact ⟨[],none,0,rfl,RS.nilF _ _ hl,by simp⟩
    rename_i e a len cap he
    cases he
    split at ht
    · rename_i hcap
      rw [Option.bind_eq_some_iff]at ht;obtain ⟨elems,h2,h3⟩:=ht;simp only [if_true]at h3;rw [Option.map_eq_some_iff]at h3;obtain ⟨rest,h4,h5⟩:=h3;simp only [Prod.mk.injEq]at h5;obtain ⟨rfl,rfl⟩:=h5;simp only [DataW.weights,hT]at hs;have hw0:=hs _ (iZ ..);obtain ⟨e1,e2⟩:=k9_ h2;rw [List.length_range]at e1;simp only [List.length_map]at hw0;have hlen:len<=140737488351232:=by
        have:len * 1<=(elems.length+rest.length) * P.bytesOf E:=Nat.mul_le_mul (by omega) hb;omega
      have hx: ∀i,i<len-> ∃x:α,w.cells? 0 (a.add (i * size)) size=some (wK x)/\good x:=λi hi=>by
        obtain ⟨y,h6,h7⟩:=e2 i i (by rw [List.getElem?_range hi]);rw [hc,Option.bind_eq_some_iff]at h7;obtain ⟨cs,h8,h9⟩:=h7;have hsm:DI (DataW.weights P E y.1):=kt_ (i:=i) (ds:=elems.map (·.1)) (by simp [h6]) (λx hx=>hs x (qE _ (List.mem_append_left _ hx)));obtain ⟨x,rfl,hg⟩:=hE enc held fuel cs y.1 y.2 h9 hsm;exact ⟨x,h8,hg⟩
      have hlist: ∀n,n<=len-> ∃l:List α,l.length=n/\(∀i x,l[i]? =some x->w.cells? 0 (a.add (i * size)) size=some (wK x))/\ ∀x∈l,good x:=by
        intro n
        induction n with
        |zero=>intro _;exact ⟨[],rfl,λi x h=>(by simp at h),by simp⟩
        |succ n ih=>
          intro hn;obtain ⟨l,g1,g2,g3⟩:=ih (by omega);obtain ⟨x,hx,hgx⟩:=hx n (by omega);refine ⟨l++[x],by simp [g1],λi y hy=> ?_,λy hy=>by
            rw [List.mem_append,Ip]at hy;rcases hy with hy|rfl
            · exact g3 y hy
            exact hgx⟩
          rw [List.getElem?_append]at hy
          split at hy
          · exact g2 i y hy
          rename_i hi
          have:i=n:=by
            have:=(List.getElem?_eq_some_iff.1 hy).1;simp at this;omega
          subst this;simp [g1]at hy;subst hy;exact hx
      obtain ⟨l,g1,g2,g3⟩:=hlist len (Nat.le_refl _);subst g1;refine ⟨l,some a,cap,rfl,⟨⟨⟨_,_,rfl,by simp,hcap.2.1⟩,yP hl l,?_,λu hu=> ?_,by omega⟩,hl⟩,g3⟩
      · intro a' m c' hv j u hj
        cases hv;rw [v6_]
        by_cases h0:size=0
        · have:(l.flatMap wK).length=0:=by rw [yP hl,h0,Nat.mul_zero]
          rw [List.getElem?_eq_none (by omega)]at hj;cases hj
        have hpos:0<size:=Nat.pos_of_ne_zero h0;have hjl:j<l.length * size:=by have:=(List.getElem?_eq_some_iff.1 hj).1;rwa [yP hl]at this
        have hq:j / size<l.length:=by rw [Nat.div_lt_iff_lt_mul hpos];exact hjl
        have hr:j % size<size:=Nat.mod_lt _ hpos;have hx:=g2 (j / size) l[j / size] (List.getElem?_eq_getElem hq);have hj':j=j / size * size+j % size:=by rw [Nat.mul_comm];exact (Nat.div_add_mod j size).symm
        rw [hj',ZX hl l _ _ _ (List.getElem?_eq_getElem hq) hr]at hj;have:=(xs_ hx).2 _ _ hj;rw [VB]at this;rw [hj'];exact this
      rw [List.mem_flatMap]at hu;obtain ⟨x,_,hx⟩:=hu;exact h1 x u hx
    cases ht
theorem Opn.slice{α:Type}{wK:α->List Value}{size:Nat}(hT:P.underlying T=some (.slice E))(hE:Opn P w E (λcs x=>cs=wK x))(hc:P.cellsOf E=size)(hb:0<P.bytesOf E)(hl: ∀x,(wK x).length=size)(h1: ∀x, ∀u∈wK x,u.oneCell'=true):
    Opn P w T (λcs (l:List α)=> ∃a c,cs=[.slice a l.length c]/\RS (FK w) size wK (.slice a l.length c) l):=
  Opn.mono (Opn.sliceG (good:=λ_=>True) hT (Opn.mono hE id λ_ _ h=>⟨h,trivial⟩) hc hb hl h1) id λ_ _ ⟨a,c,h,k,_⟩=>⟨a,c,h,k⟩
def I64(x:Int):Prop:= -9223372036854775808<=x/\x<=9223372036854775807
end
end Go.E
end

noncomputable section
namespace Go.Proofs.YtcfgkcfcddfccaaGreatDoor
open Go Go.E
abbrev vk(l:aj):aj:=rX 0 mO l
theorem vo_:(λx y:Int=>decide (x<=y))=λx y=> !decide (mO y x<0):=by
  funext x y
  by_cases h:x<=y
  · have: ¬ mO y x<0:=by rw [MZ];omega
    simp [h,this]
  have:mO y x<0:=by rw [MZ];omega
  simp [h,this]
theorem Lz_:ZH=gC (0:Int):=rfl
theorem aag_{l:aj}(h:l.length * 8<=140737488355328):ZW l=some (vk l):=by
  have hs:(List.mergeSort l λx y=>decide (x<=y))=uh mO l:=by rw [vo_];rfl
  rw [ZW,aQ h,hs,Lz_,zt_ 0 (by rw [Nl];omega),Nl];rfl
theorem z3_{l:aj}(h:l.length<=1000000):UE l=some (vk l):=by
  unfold UE;refine q9_ Hq l (λq=>Nz l q.1 q.2) (λm k j=>IJ m l k j) ?_ ?_ ?_ ?_ ?_
  · intro m k hk
    simp only [Nz,decide_eq_false (show ¬ ((k:Nat):Int)<((l.length:Nat):Int) by omega),iteO_false];rfl
  · intro m k hk
    simp only [Nz,qJ hk,iteO_true]
  · intro m k j hk hj hc
    rw [MZ]at hc;simp only [IJ,qJ hj,iteO_true,decide_eq_true hc];rfl
  · intro m k j hk hj he
    simp only [IJ,qJ hj,iteO_true,he,Int.lt_irrefl,decide_false,iteO_false,ND,decide_true];rfl
  intro m k j hk hm hj hn;have hg:UN j m l k=some (.inl (m.take j++[nth l k 0]++m.drop j,k+1)):=by
    unfold UN C8_;rw [aQ (by omega),aQ (by simp only [List.length_nil,List.length_take];omega),aQ (by simp only [gu,List.length_nil,List.length_take,dN];omega),aQ (by omega),aQ (by simp only [gu,List.length_nil,List.length_take,dN,List.length_drop];omega)];rfl
  by_cases hjl:j<m.length
  · obtain ⟨h1,h2⟩:=hn hjl
    rw [MZ]at h1;simp only [IJ,qJ hjl,iteO_true,decide_eq_false h1,iteO_false,ND,decide_eq_false h2,hg,fin_some]
  simp only [IJ,decide_eq_false (show ¬ ((j:Nat):Int)<((m.length:Nat):Int) by omega),iteO_false,ND,hg,fin_some]
theorem srtI_len(l:aj):(vk l).length<=l.length:=Lh_ l
theorem TR{l:aj}{x:Int}:x∈vk l↔x∈l:=ZO
def DF(n:Int):T_1:=(List.range 8).map λi=>kH (((G8 (zI n) (8 * i):Nat)):Int)
def yM(l:aj):T_1:=l.flatMap DF
theorem k1_(n:Int):(DF n).length=8:=by simp [DF]
theorem TQ: ∀l:aj,(yM l).length=l.length * 8
  |[]=>rfl
  |x::l=>by
    have:=TQ l;simp only [yM,List.flatMap_cons,gu,k1_,List.length_cons]at *;omega
theorem ikey_eq {l : aj} (h : l.length <= 1000000) : ZQ l = some (yM l) := by
  unfold ZQ;have hw0:IntKind.i64.wrap (8 * ((l.length:Nat):Int))=((8 * l.length:Nat):Int):=by rw [tJ (by omega) (by omega)];omega
  rw [hw0,aQ (by omega)];refine IB (step:=λq:T_1×Nat=>gm_ l q.1 q.2) l (0:Int) (λk=>yM (l.take k)) ?_ ?_
  · intro k hk
    have hlen:(yM (l.take k)).length<=8 * 1000000:=by rw [TQ,List.length_take];omega
    simp only [gm_,qJ hk,iteO_true];have hrow:aV (λq:T_1×Nat=>Z7 l k q.1 q.2) (yM (l.take k),0)=some (.inl (yM (l.take k)++(DF (nth l k 0)).take 8,k+1)):=by
      have:=nx_ (step:=λq:T_1×Nat=>Z7 l k q.1 q.2) (r:= .inl (yM (l.take k)++(DF (nth l k 0)).take 8,k+1)) (λi=>(yM (l.take k)++(DF (nth l k 0)).take i,i)) 8 ?_ ?_
      · simpa using this
      · intro i hi
        have hw:IntKind.i64.wrap (8 * ((i:Nat):Int))=((8 * i:Nat):Int):=by rw [tJ (by omega) (by omega)];omega
        have hi8:i<(DF (nth l k 0)).length:=by rw [k1_];exact hi
        have hn:nth (DF (nth l k 0)) i 0=kH (((G8 (zI (nth l k 0)) (8 * i):Nat)):Int):=by simp [nth,DF,List.getD,hi]
        simp only [Z7,hw,iI,decide_eq_true (show ((i:Nat):Int)<8 by omega),iteO_true];rw [aQ (by omega),aQ (by simp only [gu,List.length_take,dN];omega),jS _ hi8 0,hn,zQ];rfl
      simp only [Z7,show decide (((8:Nat):Int)<8)=false from rfl,iteO_false];rfl
    have h8:(DF (nth l k 0)).take 8=DF (nth l k 0):=List.take_of_length_le (by rw [k1_];exact Nat.le_refl _);rw [hrow,h8,jS l hk 0];simp [yM]
  simp only [gm_,Int.lt_irrefl,decide_false,iteO_false,List.take_length];rfl
theorem yq_{m n:Nat}(hm:m<18446744073709551616)(hn:n<18446744073709551616)(h: ∀i,i<8->m / 2 ^ (8 * i) % 256=n / 2 ^ (8 * i) % 256):m=n:=by
  have h0:=h 0 (by omega);have h1:=h 1 (by omega);have h2:=h 2 (by omega);have h3:=h 3 (by omega);have h4:=h 4 (by omega);have h5:=h 5 (by omega);have h6:=h 6 (by omega);have h7:=h 7 (by omega);simp only [Nat.mul_zero,Nat.pow_zero,Nat.div_one,Nat.reduceMul,Nat.reducePow]at h0 h1 h2 h3 h4 h5 h6 h7;omega
theorem zw_(a:Nat):(kH ((a:Nat):Int)).toNat=a % 256:=by
  have hw:IntKind.u8.wrap ((a:Nat):Int)=((a % 256:Nat):Int):=by
    simp only [IntKind.wrap,IntKind.bits,IntKind.signed,IntKind.min];simp
  unfold kH;rw [hw,iI,UInt8.toNat_ofNat'];omega
theorem aak_{x y:Int}(hx:I64 x)(hy:I64 y)(h:DF x=DF y):x=y:=by
  have hb:zI x=zI y:=by
    refine yq_ (by unfold zI;omega) (by unfold zI;omega) λi hi=> ?_;have h1:=congrArg (λl=>(nth l i (0:UInt8)).toNat) h;simp only [nth,DF,List.getD,List.getElem?_map,List.getElem?_range hi,Option.map_some,Option.getD_some,zw_,G8]at h1;rw [show min (8 * i) 64=8 * i by omega]at h1;exact h1
  unfold zI I64 at *;omega
theorem ui_: ∀{l m:aj},(∀x∈l,I64 x)->(∀x∈m,I64 x)->yM l=yM m->l=m
  |[],[],_,_,_=>rfl
  |[],y::m,_,_,h=>by have:=congrArg List.length h;rw [TQ,TQ]at this;simp at this
  |x::l,[],_,_,h=>by have:=congrArg List.length h;rw [TQ,TQ]at this;simp at this
  |x::l,y::m,hl,hm,h=>by
    have h':DF x++yM l=DF y++yM m:=h;obtain ⟨h1,h2⟩:=List.append_inj h' (by rw [k1_,k1_]);rw [aak_ (hl x (iZ ..)) (hm y (iZ ..)) h1,ui_ (λz hz=>hl z (qE _ hz)) (λz hz=>hm z (qE _ hz)) h2]
theorem sy_ (a b : aj) : YE a b = some (decide (a = b)) := by
  unfold YE
  by_cases hl:a.length=b.length
  · rw [decide_eq_false (show ¬ ((a.length:Nat):Int)≠((b.length:Nat):Int) by omega),iteO_false]
    refine Exists.elim (Nb (step:=λq:Nat=>C9_ a b q) (λ(_:Unit) k=>k) a (0:Int) (λp _=>p=b.take p.length) (λr=>r=decide (a=b)) ?_ ?_ (s0:=()) (by simp)) (λr hr=>by rw [hr.1,hr.2])
    · intro k s hk hI
      have hkb:k<b.length:=by omega
      have hkl:(a.take k).length=k:=by rw [List.length_take];omega
      rw [hkl]at hI
      by_cases he:nth a k 0=nth b k 0
      · left
        refine ⟨(),by simp only [C9_,qJ hk,iteO_true,aQ hkb,he,ne_eq,not_true_eq_false,decide_false,iteO_false];rfl,?_⟩;rw [gu,hkl,dN,jS b hkb 0,hI,he]
      right;refine ⟨false,by simp only [C9_,qJ hk,iteO_true,aQ hkb,ne_eq,he,not_false_eq_true,decide_true];rfl,?_⟩;rw [decide_eq_false];intro e;subst e;exact he rfl
    intro s hI;refine ⟨true,by simp only [C9_,Int.lt_irrefl,decide_false,iteO_false];rfl,?_⟩;rw [decide_eq_true];rw [hI,List.take_of_length_le (by omega)]
  rw [decide_eq_true (show ((a.length:Nat):Int)≠((b.length:Nat):Int) by omega),iteO_true,decide_eq_false (λe=>hl (by rw [e]))]
def yg_(L:aY)(r:aj):Int×Bool:=if r∈L then ((L.idxOf r:Nat),true) else (0,false)
def putL(L:aY)(r:aj):Int×Bool×Int×aY:=
  if r∈L then ((L.idxOf r:Nat),false,0,L) else if 4096<=L.length then (0,false,2,L) else ((L.length:Nat),true,0,L++[r])
def NG(r:aj):Prop:=(∀x∈r,I64 x)/\r.length<=1000000
structure Tab (t:ITable) (L:aY):Prop where
  rows:t.of.rows=L
  len:L.length<=4096
  good: ∀r∈L,NG r
  nd:L.Nodup
  at_: ∀r,NG r->t.of.places.f (yM r)=if r∈L then some ((L.idxOf r:Nat):Int) else none
theorem Tab.nil:Tab ⟨⟨[],FM.emp⟩⟩ []:=⟨rfl,by simp,by simp,List.nodup_nil,λr _=>by simp [FM.emp]⟩
theorem NG.srt{l:aj}(h:NG l):NG (vk l):=⟨λx hx=>h.1 x (TR.1 hx),Nat.le_trans (srtI_len l) h.2⟩
theorem Tab.find{t:ITable}{L:aY}(h:Tab t L){r:aj}(hr:NG r):(t.of.places.get (yM r) 0,t.of.places.has (yM r))=yg_ L r:=by
  unfold FM.get FM.has yg_;rw [h.at_ r hr]
  split<;>rfl
theorem Tab.add{t:ITable}{L:aY}(h:Tab t L){r:aj}(hr:NG r)(hn:r∉L)(hl: ¬ 4096<=L.length):Tab ⟨⟨L++[r],t.of.places.put (yM r) ((L.length:Nat):Int)⟩⟩ (L++[r]) where
  rows:=rfl
  len:=by rw [gu,dN];omega
  good q hq:=by
    rw [List.mem_append,Ip]at hq;rcases hq with hq|rfl
    · exact h.good q hq
    exact hr
  nd:=by
    rw [List.nodup_append];exact ⟨h.nd,by simp,λa ha b hb=>by rw [List.mem_singleton.1 hb];intro e;subst e;exact hn ha⟩
  at_ q hq := by
    simp only [FM.put]
    by_cases e:yM q=yM r
    · have:q=r:=ui_ hq.1 hr.1 e
      subst this;rw [if_pos rfl,if_pos (by simp),List.idxOf_append,if_neg hn];simp
    have hqr:q≠r:=λh=>e (by rw [h]);rw [if_neg e,h.at_ q hq]
    by_cases hm:q∈L
    · rw [if_pos hm,if_pos (List.mem_append_left _ hm),List.idxOf_append,if_pos hm]
    rw [if_neg hm,if_neg];rw [List.mem_append,Ip];rintro (h|h)
    · exact hm h
    exact hqr h
theorem put_eq{t:ITable}{L:aY}(h:Tab t L){l:aj}(hl:NG l): ∃t',TW t l=some ((putL L (vk l)).1,(putL L (vk l)).2.1,(putL L (vk l)).2.2.1,t')/\Tab t' (putL L (vk l)).2.2.2:=by
  have hs:=hl.srt;have hl2:=hl.2;have hs2:=hs.2;have hf:=h.find hs;unfold TW ev_;simp only [aag_ (l:=l) (by omega),ikey_eq hs2,bnd,Option.bind_some];rw [aQ (by rw [TQ];omega)];simp only [Option.bind_some];have hf1:t.of.places.get (yM (vk l)) 0=(yg_ L (vk l)).1:=congrArg Prod.fst hf;have hf2:t.of.places.has (yM (vk l))=(yg_ L (vk l)).2:=congrArg Prod.snd hf;simp only [hf1,hf2];unfold yg_ putL
  by_cases hm:vk l∈L
  · simp only [if_pos hm,iteO_true]
    exact ⟨_,rfl,⟨h.rows,h.len,h.good,h.nd,h.at_⟩⟩
  simp only [if_neg hm,iteO_false,h.rows]
  by_cases hf:4096<=L.length
  · simp only [if_pos hf,decide_eq_true (show (4096:Int)<=((L.length:Nat):Int) by omega),iteO_true]
    exact ⟨_,rfl,⟨rfl,h.len,h.good,h.nd,h.at_⟩⟩
  simp only [if_neg hf,decide_eq_false (show ¬ (4096:Int)<=((L.length:Nat):Int) by omega),iteO_false];unfold ey_;rw [aQ (by rw [TQ];omega),aQ (by rw [dN];simp only;omega)];exact ⟨_,rfl,h.add hs hm hf⟩
theorem xb_:qo_=TW:=rfl
def rowL(L:aY)(n:Int):aj×Int:=if 0<=n/\n<(L.length:Int) then (nth L n.toNat [],0) else ([],1)
theorem row_eq{t:ITable}{L:aY}(h:Tab t L)(n:Int):fp_ t n=some (rowL L n):=by
  unfold fp_ rowL;rw [h.rows]
  by_cases h0:n<0
  · rw [decide_eq_true h0,iteO_true,if_neg (by omega)]
  rw [decide_eq_false h0,iteO_false]
  by_cases h1:(L.length:Int)<=n
  · rw [decide_eq_true h1,iteO_true,if_neg (by omega)]
  rw [decide_eq_false h1,iteO_false,aQ (by omega),if_pos (by omega)];have:=(h.good _ (jB (show n.toNat<L.length by omega) [])).2;rw [aQ (by omega)]
theorem size_eq{t:ITable}{L:aY}(h:Tab t L):fi_ t=some ((L.length:Nat):Int):=by
  unfold fi_;rw [h.rows]
structure NS (n:Nfa):Prop where
  st0:0<=n.states
  st:n.states<=1024
  eN:n.edges.length<=16384
  es: ∀e∈n.edges,(0<=e.frm/\e.frm<n.states)/\0<=e.to/\e.to<n.states
  ss: ∀x∈n.starts,0<=x/\x<n.states
  sN:n.starts.length<=1000000
  fs: ∀x∈n.ends,0<=x/\x<n.states
theorem cls_two {S : Type} {B : S -> Int × BSet -> Option (Nat × S)} {x1 : List BSet} (I : Nat -> S -> Prop) (Q : S -> Prop)
    (hB: ∀k l,k<x1.length->I k l->(∃l',B l (((k:Nat):Int),nth x1 k BSet.zero)=some (0,l')/\I (k+1) l')\/ ∃l',B l (((k:Nat):Int),nth x1 k BSet.zero)=some (1,l')/\Q l') {l0:S} (h0:I 0 l0):
    ∃r,Yr (yN B) (0,l0) x1=some r/\((∃l,r=(0,l)/\I x1.length l)\/ ∃l,r=(1,l)/\Q l):=by
  unfold Yr;refine fC (step:=λq:Nat×(Nat×S)=>Nu x1 (yN B) q.1 q.2) (λ(s:S) k=>(k,(0,s))) x1.length I _ (λk l hk hI=> ?_) (λl hI=>⟨(0,l),?_,.inl ⟨l,rfl,hI⟩⟩) h0
  · show (∃s',Nu x1 (yN B) k (0,l)=_/\_)\/ ∃r,Nu x1 (yN B) k (0,l)=_/\_
    unfold Nu;rw [bY (by omega)];rcases hB k l hk hI with ⟨l',h1,h2⟩|⟨l',h1,h2⟩
    · have hs:yN B (0,l) (((k:Nat):Int),nth x1 k BSet.zero)=some ((0,l'),true):=by
        unfold yN;rw [if_pos rfl,h1];rfl
      rw [iy hs];exact .inl ⟨l',rfl,h2⟩
    have hs:yN B (0,l) (((k:Nat):Int),nth x1 k BSet.zero)=some ((1,l'),false):=by
      unfold yN;rw [if_pos rfl,h1];rfl
    rw [iy hs];exact .inr ⟨_,rfl,.inr ⟨l',rfl,h2⟩⟩
  show Nu x1 (yN B) x1.length (0,l)=_;unfold Nu;rw [bK (by omega)];rfl
def Iw(n:Nfa)(R:aY):Prop:= ∀r∈R,((∀x∈r,0<=x/\x<n.states)/\r.Pairwise (· < ·))/\r.length<=1024
def Big(n:Nfa):Prop:= ∃R:aY,R.Nodup/\Iw n R/\1024<=R.length
theorem x4_(l:aj):(vk l).Pairwise (· < ·):=(g1_ Hq l).imp λ{x y} h=>MZ.1 h
theorem sm_{n:Nfa}(hn:NS n){l:aj}(h: ∀x∈l,0<=x/\x<n.states):(vk l).length<=1024:=by
  have h0:=hn.st0;have h1:=hn.st;have hnd:(vk l).Nodup:=List.nodup_iff_pairwise_ne.2 ((g1_ Hq l).imp λ{x y} hlt e=>by
    subst e;have:=(Hq.eq x x).2 rfl;omega)
  have:=TS (m:=(List.range n.states.toNat).map λi:Nat=>((i:Nat):Int)) hnd λx hx=>by
    have:=h x (TR.1 hx);exact List.mem_map.2 ⟨x.toNat,List.mem_range.2 (by omega),by omega⟩
  rw [List.length_map,List.length_range]at this;omega
theorem Hl{R R':aY}(h:R <+: R'){s:Nat}(hs:s<R.length):nth R' s []=nth R s []:=by
  obtain ⟨t,rfl⟩:=h;exact rY _ _ _ _ hs
theorem put_go{n:Nfa}(hn:NS n){R:aY}{t:ITable}(hT:Tab t R)(hR:Iw n R){l:aj}(hl: ∀x∈l,0<=x/\x<n.states)(hll:l.length<=1000000):
    ∃v b e t',TW t l=some (v,b,e,t')/\ ∃R',Tab t' R'/\R <+: R'/\Iw n R'/\(e≠0/\Big n\/e=0/\ ∃j:Nat,v=((j:Nat):Int)/\j<R'.length/\ ∀q,q∈nth R' j []↔q∈l):=by
  have h0:=hn.st0;have h1:=hn.st;have hg:NG l:=⟨λx hx=>by have:=hl x hx;unfold I64;omega,hll⟩;obtain ⟨t',e,hT'⟩:=put_eq hT hg;refine ⟨_,_,_,t',e,_,hT',?_⟩;unfold putL
  by_cases hm:vk l∈R
  · rw [if_pos hm]
    refine ⟨List.prefix_refl _,hR,.inr ⟨rfl,R.idxOf (vk l),rfl,List.idxOf_lt_length_iff.2 hm,λq=> ?_⟩⟩;have:nth R (R.idxOf (vk l)) []=vk l:=by
      have h2:=List.idxOf_lt_length_iff.2 hm;have h3:=getD_some R h2 [];rw [List.getElem?_eq_getElem h2,List.getElem_idxOf]at h3;exact (Option.some.inj h3).symm
    show q∈nth R (R.idxOf (vk l)) []↔_;rw [this];exact TR
  rw [if_neg hm]
  by_cases hf:4096<=R.length
  · rw [if_pos hf]
    exact ⟨List.prefix_refl _,hR,.inl ⟨show (2:Int)≠0 from by decide,R,hT.nd,hR,by omega⟩⟩
  rw [if_neg hf];refine ⟨List.prefix_append _ _,λr hr=> ?_,.inr ⟨rfl,R.length,rfl,?_,λq=> ?_⟩⟩
  · rcases List.mem_append.1 hr with hr|hr
    · exact hR r hr
    rw [List.mem_singleton.1 hr];exact ⟨⟨λx hx=>hl x (TR.1 hx),x4_ l⟩,sm_ hn hl⟩
  · show R.length<(R++[vk l]).length
    rw [gu,dN];omega
  show q∈nth (R++[vk l]) R.length []↔_;rw [sG];exact TR
def NextS(n:Nfa)(p:List BSet)(r:aj)(c:Nat)(q:Int):Prop:= ∃e∈n.edges,e.frm∈r/\e.set.has (gi_ (nth p c BSet.zero)).toNat=true/\e.to=q
def Vx(n:Nfa)(p:List BSet)(R:aY)(r:aj)(c:Nat)(v:Int):Prop:= ∃j:Nat,v=((j:Nat):Int)/\j<R.length/\ ∀q,q∈nth R j []↔NextS n p r c q
theorem Vx.mono{n:Nfa}{p:List BSet}{R R':aY}{r:aj}{c:Nat}{v:Int}(h:Vx n p R r c v)(hp:R <+: R'):Vx n p R' r c v:=by
  obtain ⟨j,h1,h2,h3⟩:=h;have h4:=hp.length_le;exact ⟨j,h1,by omega,λq=>by rw [Hl hp h2];exact h3 q⟩
abbrev GSt:Type:=Int×aY×FM T_1 Int×aj
structure GenI (n:Nfa) (p:List BSet) (R:aY) (r:aj) (c:Nat) (s:GSt):Prop where
  tab:Tab ⟨⟨s.2.1,s.2.2.1⟩⟩ s.2.1
  pre:R <+: s.2.1
  rows:Iw n s.2.1
  len:s.2.2.2.length=p.length
  at_: ∀i,i<c->Vx n p s.2.1 r i (nth s.2.2.2 i (0:Int))
theorem gen_go{n:Nfa}(hn:NS n){A:List (List Arrow)}(hA:Grp Arrow.frm id n.states.toNat A n.edges)(p:List BSet){R:aY}{r:aj}(hr:((∀x∈r,0<=x/\x<n.states)/\r.Pairwise (· < ·))/\r.length<=1024){s0:GSt}(h0:GenI n p R r 0 s0)(x:Int):
    ∃z,Yr (yN (λ(q:Int×aY×(FM T_1 Int)×aj) (y:Int×BSet)=>PS A (r,x) q.1 q.2.1 q.2.2.1 q.2.2.2 y.1 y.2)) (0,s0) p=some z/\
      ((∃s,z=(0,s)/\GenI n p R r p.length s)\/ ∃s,z=(1,s)/\s.1≠0/\Big n):=by
  refine cls_two (GenI n p R r) (λs=>s.1≠0/\Big n) (λk s hk hI=> ?_) h0;obtain ⟨i0,R1,m1,l1⟩:=s;have hlen:l1.length=p.length:=hI.len;obtain ⟨l,e,h1,h2⟩:=wp_ hA hn.st0 hn.eN hr.1.1 hr.1.2 (nth p k BSet.zero);have hl: ∀x∈l,0<=x/\x<n.states:=λx hx=>by
    obtain ⟨e,he, -, -,rfl⟩:=(h2 x).1 hx;exact (hn.es e he).2
  obtain ⟨v,b,er,t',e2,R',hT',hp',hR',h3⟩:=put_go hn hI.tab hI.rows hl h1;have hrow:=hT'.rows;have hstep:PS A (r,x) i0 R1 m1 l1 ((k:Nat):Int) (nth p k BSet.zero)=aI (decide (er≠0)) (some (1,(er,t'.of.rows,t'.of.places,l1))) (aI (decide (1024<=v)) (some (1,(2,t'.of.rows,t'.of.places,l1))) (grd (0<=((k:Nat):Int)/\((k:Nat):Int)<(l1.length:Int)) (some (0,(i0,t'.of.rows,t'.of.places,(l1.set ((k:Nat):Int).toNat v)))))):=by
    unfold PS;rw [iy e,xb_,iy e2]
  show (∃l',PS A (r,x) i0 R1 m1 l1 ((k:Nat):Int) (nth p k BSet.zero)=_/\_)\/ ∃l',PS A (r,x) i0 R1 m1 l1 ((k:Nat):Int) (nth p k BSet.zero)=_/\_;rw [hstep];rcases h3 with h3|⟨rfl,j,rfl,hj,hq⟩
  · rw [bY h3.1];exact .inr ⟨_,rfl,h3⟩
  rw [bK (by simp)]
  by_cases c:1024<=((j:Nat):Int)
  · rw [bY c];exact .inr ⟨_,rfl,show (2:Int)≠0 from by decide,R',hT'.nd,hR',by omega⟩
  rw [bK c,aQ ⟨Int.natCast_nonneg k,by omega⟩,iI];refine .inl ⟨_,rfl,⟨?_,?_,?_,?_,λi hi=> ?_⟩⟩
  · show Tab ⟨⟨t'.of.rows,t'.of.places⟩⟩ t'.of.rows
    rw [hrow];have:t'=⟨⟨R',t'.of.places⟩⟩:=by
      obtain ⟨⟨a,b⟩⟩:=t';dsimp only at hrow ⊢;rw [hrow]
    rw [<-this];exact hT'
  · show R <+: t'.of.rows
    rw [hrow];exact hI.pre.trans hp'
  · show Iw n t'.of.rows
    rw [hrow];exact hR'
  · show (l1.set k _).length=_
    rw [eX];exact hlen
  show Vx n p t'.of.rows r i (nth (l1.set k _) i (0:Int));rw [hrow,nI]
  by_cases e:k=i
  · subst e
    rw [if_pos ⟨rfl,by omega⟩];exact ⟨j,rfl,hj,λq=>(hq q).trans (h2 q)⟩
  rw [if_neg (λq=>e q.1)];exact (hI.at_ i (by omega)).mono hp'
structure OI (n:Nfa) (p:List BSet) (R N:aY) (F:B_1) (k:Nat):Prop where
  rows:Iw n R
  len:R.length<=4096
  pos:0<R.length
  st: ∀q,q∈nth R 0 []↔q∈n.starts
  kle:k<=R.length
  lenN:N.length=k
  lenF:F.length=k
  row: ∀s,s<k->(nth N s ([]:aj)).length=p.length/\ ∀c,c<p.length->Vx n p R (nth R s []) c (nth (nth N s ([]:aj)) c (0:Int))
  fin: ∀s,s<k->(nth F s false=true↔ ∃x∈nth R s [],x∈n.ends)
abbrev OSt:Type:=Int×aY×(FM T_1 Int)×aY×B_1×Nat
structure OJ (n:Nfa) (p:List BSet) (s:OSt):Prop where
  tab:Tab ⟨⟨s.2.1,s.2.2.1⟩⟩ s.2.1
  oi:OI n p s.2.1 s.2.2.2.1 s.2.2.2.2.1 s.2.2.2.2.2
def OfR(n:Nfa)(p:List BSet)(cls:aj)(r:Dfa×Int):Prop:=(r.2=0->r.1.cls=cls/\ ∃R,R.Nodup/\OI n p R r.1.next r.1.fin R.length)/\(r.2≠0->Big n)
section
variable {n:Nfa} (hn:NS n) {A:List (List Arrow)} (hA:Grp Arrow.frm id n.states.toNat A n.edges) {E:B_1} (hE:E.length=n.states.toNat) (hE2: ∀x,0<=x->x<n.states->(nth E x.toNat false=true↔x∈n.ends)) {p:List BSet} (hp:p.length<=256) (v13:(List BSet)×Int) (hv:v13.1=p)
include hn hA hE hE2 hp hv
theorem of_b4 {i : Int} {R N : aY} {m : FM T_1 Int} {F : B_1} {k : Nat} (h : OJ n p (i, R, m, N, F, k)) (hk : k < R.length) (x : Int) :
    ∃r,aV (λq:Bool×Nat=>MJ (nth R k [],x) E v13 A i R m N F k q.1 q.2) (false,0)=some r/\((∃s:OSt,r= .inl s/\OJ n p s/\s.2.2.2.2.2=k+1)\/ ∃d e,r= .inr (d,e)/\e≠0/\Big n):=by
  have hoi:OI n p R N F k:=h.oi;have hr:=hoi.rows _ (jB hk ([]:aj));have hN:=hoi.lenN;have hF:=hoi.lenF;have hRl:=hoi.len;have h0:=hn.st0;have tail: ∀t:Bool,(t=true↔ ∃x∈nth R k [],x∈n.ends)-> ∃r,(grd (8 * v13.1.length<=281474976710656) (bnd (Ht_ v13.1) (λJa=>bnd (Yr (yN (λ(q:Int×aY×(FM T_1 Int)×aj) (y:Int×BSet)=>PS A (nth R k [],x) q.1 q.2.1 q.2.2.1 q.2.2.2 y.1 y.2)) (0,(i,R,m,(List.replicate v13.1.length (0:Int)))) Ja) (λmP=>Iq_ N F t k mP.1 mP.2.1 mP.2.2.1 mP.2.2.2.1 mP.2.2.2.2))))=some r/\((∃s:OSt,r= .inl s/\OJ n p s/\s.2.2.2.2.2=k+1)\/ ∃d e,r= .inr (d,e)/\e≠0/\Big n):=by
    intro t ht;rw [hv,aQ (by omega),show Ht_ p=some p from rfl,gq];obtain ⟨z,e,hz⟩:=gen_go hn hA p hr (R:=R) (s0:=(i,R,m,List.replicate p.length 0)) ⟨h.tab,List.prefix_refl _,hoi.rows,lq,λi hi=>by omega⟩ x;rw [iy e];rcases hz with ⟨⟨i',R',m',l'⟩,rfl,hG⟩|⟨⟨i',R',m',l'⟩,rfl,he⟩
    · have hlen:l'.length=p.length:=hG.len
      have hpre:R <+: R':=hG.pre;have hle:=hpre.length_le;have hT:Tab ⟨⟨R',m'⟩⟩ R':=hG.tab;refine ⟨.inl (i',R',m',N++[l'],F++[t],k+1),?_,.inl ⟨_,rfl,⟨hT,⟨hG.rows,hT.len,by show 0<R'.length;omega,λq=> ?_,?_,?_,?_,λs hs=> ?_,λs hs=> ?_⟩⟩,rfl⟩⟩
      · unfold Iq_
        show grd _ _=_;rw [aQ (by rw [dN];omega),aQ (by rw [dN];omega),aQ (by omega)];rfl
      · show q∈nth R' 0 []↔_
        rw [Hl hpre hoi.pos];exact hoi.st q
      · show k+1<=R'.length
        omega
      · show (N++[l']).length=k+1
        rw [gu,dN];omega
      · show (F++[t]).length=k+1
        rw [gu,dN];omega
      · show (nth (N++[l']) s ([]:aj)).length=_/\ ∀c,c<p.length->Vx n p R' (nth R' s []) c (nth (nth (N++[l']) s ([]:aj)) c (0:Int))
        by_cases e:s<k
        · rw [rY _ _ _ _ (by omega),Hl hpre (by omega)]
          obtain ⟨h5,h6⟩:=hoi.row s e;exact ⟨h5,λc hc=>(h6 c hc).mono hpre⟩
        obtain rfl:s=k:=by
          have:s<k+1:=hs;omega
        rw [show nth (N++[l']) s ([]:aj)=l' by rw [<-hN];exact sG _ _ _,Hl hpre hk];exact ⟨hlen,λc hc=>hG.at_ c hc⟩
      show nth (F++[t]) s false=true↔ ∃x∈nth R' s [],x∈n.ends
      by_cases e:s<k
      · rw [rY _ _ _ _ (by omega),Hl hpre (by omega)];exact hoi.fin s e
      obtain rfl:s=k:=by
        have:s<k+1:=hs;omega
      rw [show nth (F++[t]) s false=t by rw [<-hF];exact sG _ _ _,Hl hpre hk];exact ht
    exact ⟨.inr (⟨[],[],[]⟩,i'),rfl,.inr ⟨_,_,rfl,he⟩⟩
  refine fC (step:=λq:Bool×Nat=>MJ (nth R k [],x) E v13 A i R m N F k q.1 q.2) (λ(t:Bool) j=>(t,j)) (nth R k []).length (λj t=>t=true↔ ∃x∈(nth R k []).take j,x∈n.ends) _ (λj t hj hI=> ?_) (λt hI=> ?_) (s0:=false) (by simp)
  · show (∃s',MJ (nth R k [],x) E v13 A i R m N F k t j=_/\_)\/_
    unfold MJ Iv_;dsimp only;rw [bY (by omega),jS _ hj (0:Int)];have hx:=hr.1.1 _ (jB hj (0:Int));cases t with
    |true=>
      rw [iteO_true];refine .inl ⟨true,rfl,⟨λ_=> ?_,λ_=>rfl⟩⟩;obtain ⟨y,hy,h⟩:=hI.1 rfl;exact ⟨y,List.mem_append_left _ hy,h⟩
    |false=>
      rw [iteO_false,aQ (by omega)];refine .inl ⟨_,rfl,?_⟩;rw [hE2 _ hx.1 hx.2];constructor
      · intro h;exact ⟨_,List.mem_append_right _ (List.mem_singleton.2 rfl),h⟩
      rintro ⟨y,hy,h⟩;rcases List.mem_append.1 hy with hy|hy
      · have:=hI.2 ⟨y,hy,h⟩
        cases this
      rw [List.mem_singleton.1 hy]at h;exact h
  rw [List.take_length]at hI;obtain ⟨r,e,h2⟩:=tail t hI;refine ⟨r,?_,h2⟩;show MJ (nth R k [],x) E v13 A i R m N F k t (nth R k []).length=_;unfold MJ;dsimp only;rw [bK (by omega)];exact congrArg fin e
theorem of_b3(v26:aj×Int){s0:OSt}(h:OJ n p s0):
    ∃r,aV (λq:Int×aY×(FM T_1 Int)×aY×B_1×Nat=>PO E v13 A v26 q.1 q.2.1 q.2.2.1 q.2.2.2.1 q.2.2.2.2.1 q.2.2.2.2.2) s0=some r/\OfR n p v26.1 r:=by
  refine Ho (step:=λq:Int×aY×(FM T_1 Int)×aY×B_1×Nat=>PO E v13 A v26 q.1 q.2.1 q.2.2.1 q.2.2.2.1 q.2.2.2.2.1 q.2.2.2.2.2) (OJ n p) (OfR n p v26.1) (λs=>5000 - s.2.2.2.2.2) (λs hI=> ?_) s0 h;obtain ⟨i,R,m,N,F,k⟩:=s;have hoi:OI n p R N F k:=hI.oi;have hkl:=hoi.kle;have hRl:=hoi.len;show (∃s',PO E v13 A v26 i R m N F k=_/\_)\/ ∃r,PO E v13 A v26 i R m N F k=_/\_;have hT:Tab ⟨⟨R,m⟩⟩ R:=hI.tab;unfold PO;rw [size_eq hT,gq]
  by_cases hk:k<R.length
  · rw [bY (by omega),row_eq hT,gq]
    have e1:rowL R ((k:Nat):Int)=(nth R k [],0):=by
      unfold rowL;rw [if_pos ⟨Int.natCast_nonneg k,by omega⟩,iI]
    rw [e1,bK (by simp)];obtain ⟨r,e,h2⟩:=of_b4 hn hA hE hE2 hp v13 hv hI hk 0;have e':aV (λq:Bool×Nat=>MJ (nth R k [],0) E v13 A i R m N F k q.1 q.2) (false,0)=some r:=e;rw [e'];rcases h2 with ⟨s,rfl,h3,h4⟩|⟨d,e,rfl,h3,h5⟩
    · refine .inl ⟨s,rfl,h3,?_⟩
      show 5000 - s.2.2.2.2.2<5000 - k;omega
    exact .inr ⟨_,rfl,λh=>absurd h h3,λ_=>h5⟩
  rw [bK (by omega)];obtain rfl:k=R.length:=by omega
  exact .inr ⟨_,rfl,λ_=>⟨rfl,R,hT.nd,hoi⟩,λh=>absurd rfl h⟩
end
theorem PartI.prt{L:List BSet}{m:FM T_1 Int}{p:List BSet}(h:PartI L 256 m p):PrtOk p:=by
  obtain ⟨c,h1,h2,h3⟩:=h.cn;have has: ∀i,i<p.length-> ∀b,b<256->((nth p i BSet.zero).has b=true↔nth c b (0:Int)=((i:Nat):Int)):=λi hi b hb=>by
    rw [h.has i hi b hb,h3 b hb];exact ⟨λq=>Option.some.inj q.2,λq=>⟨hb,by rw [q]⟩⟩
  refine ⟨λi hi=> ?_,λi j hi hj b hb k1 k2=> ?_,λb hb=> ?_,λi j hij hj b hb k1=> ?_⟩
  · obtain ⟨b,k1,k2⟩:=Na h2 i hi
    exact ⟨b,by omega,(has i hi b (by omega)).2 k2⟩
  · have e1:=(has i hi b hb).1 k1
    have e2:=(has j hj b hb).1 k2;omega
  · obtain ⟨i,hi,k1⟩:=h.at_ b hb
    exact ⟨i,hi,(h.has i hi b hb).2 ⟨hb,k1⟩⟩
  obtain ⟨a,k2,k3⟩:=md_ h2 (p:=b) (by omega) (k:=i) (by rw [(has j hj b hb).1 k1];omega);exact ⟨a,k2,(has i (by omega) a (by omega)).2 k3⟩
def OfS(n:Nfa)(r:Dfa×Int):Prop:=(r.2≠0->A8 (kJ n)≠0\/1024<n.edges.length\/Big n)/\(r.2=0-> ∃L m p,PartI L 256 m p/\(∀e∈n.edges,e.set∈L)/\(∀b,b<256-> ∃i:Nat,nth r.1.cls b (0:Int)=((i:Nat):Int)/\i<p.length/\(nth p i BSet.zero).has b=true)/\r.1.cls.length=256/\ ∃R,R.Nodup/\OI n p R r.1.next r.1.fin R.length)
theorem of_go {n : Nfa} (hn : NS n) : ∃ r, J3_ n = some r /\ OfS n r := by
  have h0:=hn.st0;have h1:=hn.st;unfold J3_
  by_cases hc:A8 (kJ n)≠0
  · rw [bY hc];exact ⟨_,rfl,λ_=> .inl hc,λh=>by cases h⟩
  rw [bK hc];obtain ⟨L,eL,hL,hLl⟩:=y4_ n.edges (by have:=hn.eN;omega);obtain ⟨v13,e13,hP,hpl,hok⟩:=zz_ L;rw [iy eL,iy e13]
  by_cases c1:v13.2≠0
  · rw [bY c1];exact ⟨_,rfl,λ_=> .inr (.inl (by
      apply Decidable.byContradiction;intro q;exact c1 (hok (by omega)))),λh=>absurd h c1⟩
  rw [bK c1];obtain ⟨m,hPI⟩:=hP (by omega);obtain ⟨v26,e26,hC⟩:=class_go v13.1;rw [iy e26];have c2: ¬ v26.2≠0:=by
    obtain ⟨l,h5⟩:=vp_ hPI.prt;rw [h5]at e26;rw [<-Option.some.inj e26];exact λq=>q rfl
  rw [bK  c2,aQ ⟨h0,by omega⟩];have hC:=hC (by omega);obtain ⟨r,e,h⟩:=fC (step:=λq:(List (List Arrow))×Nat=>Ya n v13 v26 q.1 q.2) (λ(l:List (List Arrow)) k=>(l,k)) n.edges.length (λk l=>Grp Arrow.frm id n.states.toNat l (n.edges.take k)) (OfR n v13.1 v26.1)
    (λk l hk hI=>by
      have hlen:=hI.len;have hm:=(hn.es _ (jB hk Arrow.zero)).1;have hrow:(nth l (nth n.edges k Arrow.zero).frm.toNat []).length<=16384:=by
        rw [hI.at hm.1 (by omega),List.length_map];have:=List.length_filter_le (λx:Arrow=>decide (x.frm=(nth n.edges k Arrow.zero).frm)) (n.edges.take k);rw [List.length_take]at this;have:=hn.eN;omega
      refine .inl ⟨l.set (nth n.edges k Arrow.zero).frm.toNat (nth l (nth n.edges k Arrow.zero).frm.toNat []++[nth n.edges k Arrow.zero]),?_,?_⟩
      · show Ya n v13 v26 l k=_
        unfold Ya;rw [bY (by omega),aQ (by omega),aQ (by rw [dN];omega),aQ (by omega)];rfl
      rw [jS n.edges hk Arrow.zero];exact hI.snoc hm.1 (by omega))
    (λA hA    => by
      rw [List.take_length]at hA;obtain ⟨r,e,h⟩:=fC (step:=λq:B_1×Nat=>Yb n v13 A v26 q.1 q.2) (λ(l:B_1) k=>(l,k)) n.ends.length (λk l=>l.length=n.states.toNat/\ ∀x,0<=x->x<n.states->(nth l x.toNat false=true↔x∈n.ends.take k)) (OfR n v13.1 v26.1)
        (λk l hk hI=>by
          obtain ⟨h2,h3⟩:=hI;have hx:=hn.fs _ (jB hk (0:Int));show (∃s',Yb n v13 A v26 l k=_/\_)\/_;unfold Yb;rw [bY (by omega),aQ (by omega)];refine .inl ⟨_,rfl,by rw [eX];exact h2,λx hx0 hx1=> ?_⟩;rw [nI,jS _ hk (0:Int),List.mem_append,Ip]
          by_cases e:x=nth n.ends k (0:Int)
          · rw [if_pos ⟨by rw [e],by omega⟩]
            exact ⟨λ_=> .inr e,λ_=>rfl⟩
          rw [if_neg (λq=>e (by omega)),h3 x hx0 hx1];exact ⟨.inl,λh=>h.elim id λh=>absurd h e⟩)
        (λE hE=>by
          rw [List.take_length]at hE;show ∃r,Yb n v13 A v26 E n.ends.length=_/\_;unfold Yb;rw [bK (by omega),show jr_=some ⟨⟨[],FM.emp⟩⟩from rfl,gq];obtain ⟨v,b,er,t',e2,R',hT', -,hR',h3⟩:=put_go hn Tab.nil (λr hr=>by cases hr) hn.ss hn.sN;have e2':TW (⟨(⟨(⟨⟨[],FM.emp⟩⟩:ITable).of.rows,(⟨⟨[],FM.emp⟩⟩:ITable).of.places⟩:IStore)⟩:ITable) n.starts=some (v,b,er,t'):=e2;rw [iy e2'];dsimp only;rcases h3 with h3|⟨rfl,j,rfl,hj,hq⟩
          · rw [bY h3.1];exact ⟨_,rfl,λh=>absurd h h3.1,λ_=>h3.2⟩
          rw [bK (by simp)];have hrow:=hT'.rows;have hT2:Tab ⟨⟨R',t'.of.places⟩⟩ R':=by
            have:t'=⟨⟨R',t'.of.places⟩⟩:=by
              obtain ⟨⟨a,b⟩⟩:=t';dsimp only at hrow ⊢;rw [hrow]
            rw [<-this];exact hT'
          have hput:=put_eq Tab.nil (l:=n.starts) ⟨λx hx=>by have:=hn.ss x hx;unfold I64;omega,hn.sN⟩;obtain ⟨t2,e3,hT3⟩:=hput;have e4:=e2.symm.trans e3;have e5:t'=t2:=by
            have:=Option.some.inj e4;exact congrArg (λq=>q.2.2.2) this
          have hR1:R'=[vk n.starts]:=by
            have h5:=hT3.rows;rw [<-e5,hrow]at h5;rw [h5];unfold putL;rw [if_neg (by simp),if_neg (by simp)];rfl
          obtain ⟨r,e,h⟩:=of_b3 hn hA hE.1 hE.2 hpl v13 rfl v26 (s0:=(0,t'.of.rows,t'.of.places,[],[],0)) ⟨by rw [hrow];exact hT2,by
            rw [hrow];exact ⟨hR',hT'.len,by show 0<R'.length;rw [hR1];exact Nat.zero_lt_one,λq=>by show q∈nth R' 0 []↔_;rw [hR1];exact TR,Nat.zero_le _,rfl,rfl,λs hs=>absurd hs (Nat.not_lt_zero s),λs hs=>absurd hs (Nat.not_lt_zero s)⟩⟩
          refine ⟨r,?_,h⟩;exact congrArg fin e)
        (s0:=List.replicate n.states.toNat false) ⟨lq,λx hx0 hx1=>by rw [VD];simp⟩
      refine ⟨r,?_,h⟩;show Ya n v13 v26 A n.edges.length=_;unfold Ya;rw [bK (by omega),aQ ⟨h0,by omega⟩];exact congrArg fin e)
    (s0:=List.replicate n.states.toNat []) (by simpa using Grp.nil Arrow.frm id n.states.toNat)
  refine ⟨r,e,λq=> .inr (.inr (h.2 q)),λhr=> ?_⟩;obtain ⟨h2,R,h3,h4⟩:=h.1 hr;exact ⟨L,m,v13.1,hPI,hL,by rw [h2];exact hC.2,by rw [h2];exact hC.1,R,h3,h4⟩
def nst(n:Nfa)(P:Int->Prop)(b:UInt8)(q:Int):Prop:= ∃e∈n.edges,P e.frm/\e.set.has b.toNat=true/\e.to=q
def nrun(n:Nfa)(P:Int->Prop)(w:T_1):Int->Prop:=w.foldl (nst n) P
theorem of_run {n : Nfa} {d : Dfa} (h : OfS n (d, 0)) : ∃ R : aY, 0 < R.length /\ (∀ s, s < R.length -> (nth d.fin s false = true ↔ ∃ x ∈ nth R s [], x ∈ n.ends)) /\ (∀ q, q ∈ nth R 0 [] ↔ q ∈ n.starts) /\
    ∀(w:T_1) (s:Nat) (P:Int->Prop),s<R.length->(∀q,q∈nth R s []↔P q)-> ∃s':Nat,yK d ((s:Nat):Int) w=((s':Nat):Int)/\s'<R.length/\ ∀q,q∈nth R s' []↔nrun n P w q:=by
  obtain ⟨L,m,p,hPI,hL,hC, -,R, -,hO⟩:=h.2 rfl;refine ⟨R,hO.pos,hO.fin,hO.st,λw=> ?_⟩
  induction w with
  |nil=>exact λs P hs hP=>⟨s,rfl,hs,hP⟩
  |cons b w ih=>
    intro s P hs hP;have hb:=UInt8.toNat_lt b;obtain ⟨i,h1,h2,h3⟩:=hC b.toNat hb;dsimp only at h1;obtain ⟨j,h4,h5,h6⟩:=(hO.row s hs).2 i h2;have e1:dlt d ((s:Nat):Int) b=((j:Nat):Int):=by
      unfold dlt;rw [iI,h1,iI];exact h4
    have hne:nth p i BSet.zero≠BSet.zero:=λe=>by
      rw [e,<-BSet.Uh,BSet.EX _ hb]at h3;cases h3
    have hf:=(lj_ (nth p i BSet.zero)).2 hne;have hsame:=hPI.same h2 (UInt8.toNat_lt _) hb hf h3;obtain ⟨s',h7,h8,h9⟩:=ih j (nst n P b) h5 λq=>by
      rw [h6 q];unfold NextS nst;constructor
      · rintro ⟨e,he,h10,h11,h12⟩
        exact ⟨e,he,(hP _).1 h10,by rw [<-hsame _ (hL e he)];exact h11,h12⟩
      rintro ⟨e,he,h10,h11,h12⟩;exact ⟨e,he,(hP _).2 h10,by rw [hsame _ (hL e he)];exact h11,h12⟩
    refine ⟨s',?_,h8,h9⟩;show yK d (dlt d ((s:Nat):Int) b) w=_;rw [e1];exact h7
theorem of_takes{n:Nfa}{d:Dfa}(h:OfS n (d,0))(w:T_1):nth d.fin (yK d 0 w).toNat false=true↔ ∃q∈n.ends,nrun n (λq=>q∈n.starts) w q:=by
  obtain ⟨R,h1,h2,h3,h4⟩:=of_run h;obtain ⟨s,h5,h6,h7⟩:=h4 w 0 (λq=>q∈n.starts) h1 h3;have h5':yK d 0 w=((s:Nat):Int):=h5;rw [h5',iI,h2 s h6];constructor
  · rintro ⟨x,hx,he⟩;exact ⟨x,he,(h7 x).1 hx⟩
  rintro ⟨x,he,hx⟩;exact ⟨x,(h7 x).2 hx,he⟩
def Zo:aj->aY
  |[]=>[[]]
  |x::l=>Zo l++(Zo l).map (x:: ·)
theorem k6_ : ∀ {l r : aj}, l.Pairwise (· < ·) -> r.Pairwise (· < ·) -> (∀ x ∈ r, x ∈ l) -> r ∈ Zo l
  |[],r,_,_,h=>by
    cases r with
    |nil=>exact List.mem_singleton.2 rfl
    |cons x r=>cases h x iZ
  | y :: l, r, hl, hr, h => by
    obtain ⟨hl1,hl2⟩:=List.pairwise_cons.1 hl;unfold Zo;rw [List.mem_append];cases r with
    |nil=>exact .inl (k6_ hl2 List.Pairwise.nil λx hx=>by cases hx)
    |cons x r=>
      obtain ⟨hr1,hr2⟩:=List.pairwise_cons.1 hr
      by_cases e:x=y
      · subst e
        refine .inr (List.mem_map.2 ⟨r,k6_ hl2 hr2 λz hz=> ?_,rfl⟩);rcases List.mem_cons.1 (h z (qE _ hz))with q|q
        · have:=hr1 z hz
          omega
        exact q
      have hx:x∈l:=by
        rcases List.mem_cons.1 (h x iZ)with q|q
        · exact absurd q e
        exact q
      refine .inl (k6_ hl2 hr λz hz=> ?_);rcases List.mem_cons.1 (h z hz)with q|q
      · have h1:=hl1 x hx
        rcases List.mem_cons.1 hz with q2|q2
        · omega
        have:=hr1 z q2;omega
      exact q
theorem ZC{n:Nfa}(h5:n.states<=5){R:aY}(nd:R.Nodup)(hR:Iw n R):R.length<=32:=by
  have h:=TS (m:=Zo [0,1,2,3,4]) nd λr hr=>by
    obtain ⟨⟨h1,h2⟩, -⟩:=hR r hr;refine k6_ (by decide) h2 λx hx=> ?_;have:=h1 x hx;rcases (show x=0\/x=1\/x=2\/x=3\/x=4 by omega)with rfl|rfl|rfl|rfl|rfl<;>simp
  rwa [show (Zo [0,1,2,3,4]).length=32 from rfl]at h
theorem not_big{n:Nfa}(h5:n.states<=5): ¬ Big n:=λ⟨R,h1,h2,h3⟩=>by
  have:=ZC h5 h1 h2;omega
structure SubA (n:Nfa) (d:Dfa) (w:Nat) (R:aY):Prop where
  dr:DR d w
  len:R.length=d.next.length
  st: ∀q,q∈nth R 0 []↔q∈n.starts
  fin: ∀s,s<R.length->(nth d.fin s false=true↔ ∃x∈nth R s [],x∈n.ends)
  nx: ∀s,s<R.length-> ∀b:UInt8, ∃j:Nat,dlt d ((s:Nat):Int) b=((j:Nat):Int)/\j<R.length/\ ∀q,q∈nth R j []↔ ∃e∈n.edges,e.frm∈nth R s []/\e.set.has b.toNat=true/\e.to=q
theorem SubA.run{n:Nfa}{d:Dfa}{w:Nat}{R:aY}(h:SubA n d w R): ∀(u:T_1) (s:Nat) (P:Int->Prop),s<R.length->(∀q,q∈nth R s []↔P q)-> ∃s':Nat,yK d ((s:Nat):Int) u=((s':Nat):Int)/\s'<R.length/\ ∀q,q∈nth R s' []↔nrun n P u q
  |[],s,P,hs,hP=>⟨s,rfl,hs,hP⟩
  | b :: u, s, P, hs, hP => by
    obtain ⟨j,h1,h2,h3⟩:=h.nx s hs b;obtain ⟨s',h4,h5,h6⟩:=h.run u j (nst n P b) h2 λq=>by
      rw [h3 q];unfold nst;exact ⟨λ⟨e,he,k1,k2⟩=>⟨e,he,(hP _).1 k1,k2⟩,λ⟨e,he,k1,k2⟩=>⟨e,he,(hP _).2 k1,k2⟩⟩
    refine ⟨s',?_,h5,h6⟩;show yK d (dlt d ((s:Nat):Int) b) u=_;rw [h1];exact h4
theorem SubA.takes{n:Nfa}{d:Dfa}{w:Nat}{R:aY}(h:SubA n d w R)(u:T_1):fU d 0 u=true↔ ∃q∈n.ends,nrun n (λq=>q∈n.starts) u q:=by
  have hn:=h.dr.n1;have hl:=h.len;obtain ⟨s,h5,h6,h7⟩:=h.run u 0 (λq=>q∈n.starts) (by omega) h.st;have h5':yK d 0 u=((s:Nat):Int):=h5;unfold fU;rw [h5',iI,h.fin s h6];exact ⟨λ⟨x,hx,he⟩=>⟨x,he,(h7 x).1 hx⟩,λ⟨x,he,hx⟩=>⟨x,(h7 x).2 hx,he⟩⟩
theorem of_small{n:Nfa}(hn:NS n)(h5:n.states<=5)(hE:n.edges.length<=1024)(hc:A8 (kJ n)=0): ∃d,J3_ n=some (d,0)/\jU d=true/\ ∀u,fU d 0 u=true↔ ∃q∈n.ends,nrun n (λq=>q∈n.starts) u q:=by
  obtain ⟨⟨d,e⟩,h1,h2⟩:=of_go hn;have he:e=0:=by
    apply Decidable.byContradiction;intro q;rcases h2.1 q with h3|h3|h3
    · exact h3 hc
    · omega
    exact not_big h5 h3
  subst he;refine ⟨d,h1,?_,λu=>of_takes h2 u⟩;obtain ⟨L,m,p,hPI,hL,hC,h256,R,nd,hO⟩:=h2.2 rfl;dsimp only at hC h256 hO;have hRl:=ZC h5 nd hO.rows;have hlenN:=hO.lenN;have hlenF:=hO.lenF;have hpos:=hO.pos;obtain ⟨c,k1,k2,k3⟩:=hPI.cn;have hcls:d.cls=c:=Q7 (0:Int) (by omega) λb hb=>by
    obtain ⟨i,q1,q2,q3⟩:=hC b (by omega);have:=((hPI.has i q2 b (by omega)).1 q3).2;rw [k3 b (by omega)]at this;rw [q1,Option.some.inj this]
  refine DR.right (w:=p.length) ⟨by rw [hcls];exact k2,h256,by omega,by omega,by omega,λs hs=> ?_⟩;obtain ⟨q1,q2⟩:=hO.row s (by omega);refine ⟨q1,λc hc=> ?_⟩;obtain ⟨j,q3,q4, -⟩:=q2 c hc;omega
def stL(n:Nfa)(row:aj)(b:Nat):aj:=vk ((n.edges.filter λe=>row.contains e.frm && e.set.has b).map Arrow.to)
theorem w1_{n:Nfa}{row:aj}{b:Nat}{q:Int}:q∈stL n row b↔ ∃e∈n.edges,e.frm∈row/\e.set.has b=true/\e.to=q:=by
  unfold stL;rw [TR,List.mem_map];constructor
  · rintro ⟨e,he,rfl⟩
    obtain ⟨h1,h2⟩:=List.mem_filter.1 he;rw [Bool.and_eq_true,List.contains_iff_mem]at h2;exact ⟨e,h1,h2.1,h2.2,rfl⟩
  rintro ⟨e,h1,h2,h3,rfl⟩;exact ⟨e,List.mem_filter.2 ⟨h1,by rw [Bool.and_eq_true,List.contains_iff_mem];exact ⟨h2,h3⟩⟩,rfl⟩
theorem rstep_go {n : Nfa} (hE : n.edges.length <= 16384) (row : aj) {b : Nat} (hb : b < 256) : Fu_ n row ((b : Nat) : Int) = some (stL n row b) := by
  unfold Fu_;obtain ⟨r,e,rfl⟩:=fC (step:=λq:aj×Nat=>YO n row ((b:Nat):Int) q.1 q.2) (λ(s:aj) k=>(s,k)) n.edges.length (λk s=>s=(((n.edges.take k).filter λe=>row.contains e.frm && e.set.has b).map Arrow.to)) (λr=>r=stL n row b)
    (λk s hk hI=>by
      subst hI;have hle:((((n.edges.take k).filter λe=>row.contains e.frm && e.set.has b).map Arrow.to)).length<=k:=by
        rw [List.length_map];have:=List.length_filter_le (λe:Arrow=>row.contains e.frm && e.set.has b) (n.edges.take k);rw [List.length_take]at this;omega
      refine .inl ⟨_,?_,rfl⟩;show YO n row ((b:Nat):Int) (((n.edges.take k).filter λe=>row.contains e.frm && e.set.has b).map Arrow.to) k=_;unfold YO C7_;rw [bY (by omega),iI,jS _ hk Arrow.zero,List.filter_append,List.map_append];cases c1:row.contains (nth n.edges k Arrow.zero).frm with
      |false=>
        rw [iteO_false,List.filter_cons_of_neg (by rw [c1];simp)];simp only [List.filter_nil,List.map_nil,List.append_nil];rfl
      |true=>
        rw [iteO_true,aQ (by omega)];cases c2:(nth n.edges k Arrow.zero).set.has b with
        |false=>
          rw [iteO_false,List.filter_cons_of_neg (by rw [c1,c2];simp)];simp only [List.filter_nil,List.map_nil,List.append_nil];rfl
        |true=>
          rw [iteO_true,aQ (by rw [dN];omega),List.filter_cons_of_pos (by rw [c1,c2];rfl)];rfl)
    (λs hI=>by
      rw [List.take_length]at hI;subst hI;refine ⟨_,?_,rfl⟩;show YO n row ((b:Nat):Int) ((n.edges.filter λe=>row.contains e.frm && e.set.has b).map Arrow.to) n.edges.length=_;unfold YO;rw [bK (by omega),z3_ (by
        rw [List.length_map];have:=List.length_filter_le (λe:Arrow=>row.contains e.frm && e.set.has b) n.edges;omega),gq];rfl)
    (s0:=[]) (by simp)
  exact e
structure RO (n:Nfa) (F:aj) (R N:aY) (Z:B_1) (k:Nat):Prop where
  rows:Iw n R
  nd:R.Nodup
  pos:0<R.length
  st:nth R 0 []=n.starts
  kle:k<=R.length
  lenN:N.length=k
  lenZ:Z.length=k
  row: ∀s,s<k->(nth N s ([]:aj)).length=F.length/\ ∀c,c<F.length-> ∃j:Nat,nth (nth N s ([]:aj)) c (0:Int)=((j:Nat):Int)/\j<R.length/\nth R j []=stL n (nth R s []) (nth F c (0:Int)).toNat
  fin: ∀s,s<k->(nth Z s false=true↔ ∃x∈nth R s [],x∈n.ends)
section
variable {n:Nfa} (hn:NS n) (h5:n.states<=5) {F:aj} (hF:F.length<=256) (hFb: ∀c,c<F.length-> ∃b:Nat,b<256/\nth F c (0:Int)=((b:Nat):Int))
include hn h5 hF hFb
theorem rof_b2 {R N : aY} {Z : B_1} {k : Nat} (hR : RO n F R N Z k) (hk : k < R.length) :
    ∃R' row,(∀r,aV (λq:Bool×Nat=>MP k R' n N row Z q.1 q.2) (false,0)=some r->aV (λq:aY×aj×Nat=>Nv F k n N Z q.1 q.2.1 q.2.2) (R,([]:aj),0)=some r)/\Iw n R'/\R'.Nodup/\R <+: R'/\row.length=F.length/\ ∀c,c<F.length-> ∃j:Nat,nth row c (0:Int)=((j:Nat):Int)/\j<R'.length/\nth R' j []=stL n (nth R k []) (nth F c (0:Int)).toNat:=by
  have key: ∀m c (R1:aY) (row:aj),F.length - c=m->c<=F.length->Iw n R1->R1.Nodup->R <+: R1->row.length=c->(∀i,i<c-> ∃j:Nat,nth row i (0:Int)=((j:Nat):Int)/\j<R1.length/\nth R1 j []=stL n (nth R k []) (nth F i (0:Int)).toNat)->
      ∃R' row',(∀r,aV (λq:Bool×Nat=>MP k R' n N row' Z q.1 q.2) (false,0)=some r->aV (λq:aY×aj×Nat=>Nv F k n N Z q.1 q.2.1 q.2.2) (R1,row,c)=some r)/\Iw n R'/\R'.Nodup/\R <+: R'/\row'.length=F.length/\ ∀c,c<F.length-> ∃j:Nat,nth row' c (0:Int)=((j:Nat):Int)/\j<R'.length/\nth R' j []=stL n (nth R k []) (nth F c (0:Int)).toNat:=by
    intro m
    induction m with
    |zero=>
      intro c R1 row hm hc h1 h2 h3 h4 h6;obtain rfl:c=F.length:=by omega
      refine ⟨R1,row,λr hr=>ts_ ?_,h1,h2,h3,h4,h6⟩;show Nv F k n N Z R1 row F.length=_;unfold Nv;rw [bK (by omega),hr];rfl
    |succ m ih=>
      intro c R1 row hm hc h1 h2 h3 h4 h6;have hc':c<F.length:=by omega
      obtain ⟨b,hb,hbe⟩:=hFb c hc';have hle:=h3.length_le;have hRl:=ZC h5 h2 h1;have hrow: ∀x∈stL n (nth R k []) b,0<=x/\x<n.states:=λx hx=>by
        obtain ⟨e,he, -, -,rfl⟩:=w1_.1 hx;exact (hn.es e he).2
      obtain ⟨to,hto⟩: ∃to,stL n (nth R k []) b=to:=⟨_,rfl⟩;have hto2:(∀x∈to,0<=x/\x<n.states)/\to.Pairwise (· < ·):=⟨by rw [<-hto];exact hrow,by rw [<-hto];exact x4_ _⟩;have hto3:to.length<=1024:=by
        rw [<-hto];exact sm_ hn λx hx=>hrow x (TR.2 hx)
      obtain ⟨-,f2,f3,f4⟩:=ZL (λj=>decide (nth R1 j []=to)) R1.length 0;rw [Nat.zero_add]at f2 f4;have hstep: ∀R2:aY,R2=(if fup (λj=>decide (nth R1 j []=to)) R1.length 0=R1.length then R1++[to] else R1)->Nv F k n N Z R1 row c=some (.inl (R2,row++[((fup (λj=>decide (nth R1 j []=to)) R1.length 0:Nat):Int)],c+1)):=λR2 hR2=>by
        subst hR2;unfold Nv;rw [bY (by omega),aQ (by omega),hbe,Hl h3 hk,rstep_go hn.eN _ hb,gq,hto,tJ (by omega) (by omega)];refine lt_ (λj=>decide (nth R1 j []=to)) R1.length (λi a hi=> ?_) ?_
        · show UU R1 to row c a ((i:Nat):Int)=_
          unfold UU;rw [bY (by omega),aQ (by omega),iI,sy_,gq,tJ (by omega) (by omega)]
          by_cases e:nth R1 i []=to
          · rw [bY e,if_pos (decide_eq_true e)];rfl
          rw [bK e,if_neg (by simpa using e)];rfl
        show UU R1 to row c _ (-1)=_;unfold UU Ey_;rw [bK (by omega)];generalize fup (λj=>decide (nth R1 j []=to)) R1.length 0=f at f2 ⊢
        by_cases e:f=R1.length
        · rw [bY (by omega),bK (by omega),aQ (by rw [dN];omega),aQ (by rw [dN];omega),if_pos e];rfl
        rw [bK (by omega),aQ (by rw [dN];omega),if_neg e];rfl
      have hgo: ∀R2:aY,R2=(if fup (λj=>decide (nth R1 j []=to)) R1.length 0=R1.length then R1++[to] else R1)->Iw n R2/\R2.Nodup/\R1 <+: R2/\fup (λj=>decide (nth R1 j []=to)) R1.length 0<R2.length/\nth R2 (fup (λj=>decide (nth R1 j []=to)) R1.length 0) []=to:=λR2 hR2=>by
        subst hR2;generalize hf:fup (λj=>decide (nth R1 j []=to)) R1.length 0=f at f2 f3 f4 ⊢
        by_cases e:f=R1.length
        · rw [if_pos e]
          have hno:to∉R1:=λq=>by
            obtain ⟨j,hj,hj2⟩:=DN (d:=([]:aj)) q;have:=f3 j (Nat.zero_le _) (by omega);rw [decide_eq_true hj2]at this;cases this
          refine ⟨λr hr=> ?_,List.nodup_append.2 ⟨h2,List.nodup_cons.2 ⟨by simp,List.nodup_nil⟩,λa ha b hb q=>hno (by rw [<-List.mem_singleton.1 hb,<-q];exact ha)⟩,List.prefix_append _ _,by rw [gu,dN];omega,by rw [e];exact sG _ _ _⟩;rcases List.mem_append.1 hr with hr|hr
          · exact h1 r hr
          rw [List.mem_singleton.1 hr];exact ⟨hto2,hto3⟩
        rw [if_neg e];exact ⟨h1,h2,List.prefix_refl _,by omega,Gu (f4 (by omega))⟩
      obtain ⟨g1,g2,g3,g4,g5⟩:=hgo _ rfl;have hs:=hstep _ rfl;generalize (if fup (λj=>decide (nth R1 j []=to)) R1.length 0=R1.length then R1++[to] else R1)=R2 at hs g1 g2 g3 g4 g5;have hle2:=g3.length_le;obtain ⟨R',row',k1,k2⟩:=ih (c+1) R2 (row++[((fup (λj=>decide (nth R1 j []=to)) R1.length 0:Nat):Int)]) (by omega) (by omega) g1 g2 (h3.trans g3) (by rw [gu,dN,h4]) λi hi=>by
        by_cases e:i=c
        · subst e
          exact ⟨_,by rw [<-h4];exact sG _ _ _,g4,by rw [g5,hbe,iI,hto]⟩
        obtain ⟨j,q1,q2,q3⟩:=h6 i (by omega);exact ⟨j,by rw [rY _ _ _ _ (by omega)];exact q1,by omega,by rw [Hl g3 q2];exact q3⟩
      exact ⟨R',row',λr hr=>Eq.trans (qq_ hs) (k1 r hr),k2⟩
  exact key F.length 0 R [] rfl (Nat.zero_le _) hR.rows hR.nd (List.prefix_refl _) rfl λi hi=>by cases hi
theorem rof_b1 (v26 : aj × Int) {s0 : aY × B_1 × aY × Nat} (h : RO n F s0.2.2.1 s0.1 s0.2.1 s0.2.2.2) :
    ∃r,aV (λq:aY×B_1×aY×Nat=>P5 F n v26 q.1 q.2.1 q.2.2.1 q.2.2.2) s0=some r/\ ∃R N Z,r=(⟨v26.1,N,Z⟩,0)/\RO n F R N Z R.length:=by
  refine Ho (step:=λq:aY×B_1×aY×Nat=>P5 F n v26 q.1 q.2.1 q.2.2.1 q.2.2.2) (λs=>RO n F s.2.2.1 s.1 s.2.1 s.2.2.2) (λr=> ∃R N Z,r=(⟨v26.1,N,Z⟩,0)/\RO n F R N Z R.length) (λs=>100 - s.2.2.2) (λs hI=> ?_) s0 h;obtain ⟨N,Z,R,k⟩:=s;have hI:RO n F R N Z k:=hI;have hkl:=hI.kle;have hRl:=ZC h5 hI.nd hI.rows;have hN:=hI.lenN;have hZ:=hI.lenZ;show (∃s',P5 F n v26 N Z R k=_/\_)\/ ∃r,P5 F n v26 N Z R k=_/\_;unfold P5
  by_cases hk:k<R.length
  · rw [bY  (by omega)]
    obtain ⟨R',row,e,g1,g2,g3,g4,g5⟩:=rof_b2 hn h5 hF hFb hI hk;have hle:=g3.length_le;have hRl':=ZC h5 g2 g1;have hr:=(g1 _ (jB (l:=R') (i:=k) (by omega) ([]:aj))).2;obtain ⟨r,e2,t,rfl,ht⟩:=fC (step:=λq:Bool×Nat=>MP k R' n N row Z q.1 q.2) (λ(t:Bool) j=>(t,j)) (nth R' k []).length (λj t=>t=true↔ ∃x∈(nth R' k []).take j,x∈n.ends) (λr=> ∃t,r= .inl (N++[row],Z++[t],R',k+1)/\(t=true↔ ∃x∈nth R' k [],x∈n.ends))
      (λj t hj hI=>by
        show (∃s',MP k R' n N row Z t j=_/\_)\/_;unfold MP;rw [aQ (by omega),bY (by omega),jS _ hj (0:Int)];cases t with
        |true=>
          rw [iteO_true,aQ (by omega)];refine .inl ⟨true,rfl,⟨λ_=> ?_,λ_=>rfl⟩⟩;obtain ⟨y,hy,h⟩:=hI.1 rfl;exact ⟨y,List.mem_append_left _ hy,h⟩
        |false=>
          rw [iteO_false,aQ (by omega),aQ (by omega)];refine .inl ⟨_,rfl,?_⟩;rw [List.contains_iff_mem];constructor
          · intro h;exact ⟨_,List.mem_append_right _ (List.mem_singleton.2 rfl),h⟩
          rintro ⟨y,hy,h⟩;rcases List.mem_append.1 hy with hy|hy
          · have:=hI.2 ⟨y,hy,h⟩
            cases this
          rw [List.mem_singleton.1 hy]at h;exact h)
      (λt hI=>by
        rw [List.take_length]at hI;refine ⟨_,?_,t,rfl,hI⟩;show MP k R' n N row Z t (nth R' k []).length=_;unfold MP;rw [aQ (by omega),bK (by omega),aQ (by rw [dN];omega),aQ (by rw [dN];omega)];rfl)
      (s0:=false) (by simp)
    refine .inl ⟨_,e _ e2,⟨g1,g2,by show 0<R'.length;omega,?_,by show k+1<=R'.length;omega,?_,?_,λs hs=> ?_,λs hs=> ?_⟩,by show 100 - (k+1)<100 - k;omega⟩
    · show nth R' 0 []=_
      rw [Hl g3 hI.pos];exact hI.st
    · show (N++[row]).length=k+1
      rw [gu,dN,hN]
    · show (Z++[t]).length=k+1
      rw [gu,dN,hZ]
    · show (nth (N++[row]) s ([]:aj)).length=_/\ ∀c,c<F.length-> ∃j:Nat,nth (nth (N++[row]) s ([]:aj)) c (0:Int)=_/\j<R'.length/\nth R' j []=stL n (nth R' s []) _
      by_cases e:s<k
      · rw [rY _ _ _ _ (by omega),Hl g3 (by omega)]
        obtain ⟨q1,q2⟩:=hI.row s e;refine ⟨q1,λc hc=> ?_⟩;obtain ⟨j,q3,q4,q5⟩:=q2 c hc;exact ⟨j,q3,by omega,by rw [Hl g3 q4];exact q5⟩
      obtain rfl:s=k:=by
        have:s<k+1:=hs;omega
      rw [show nth (N++[row]) s ([]:aj)=row by rw [<-hN];exact sG _ _ _,Hl g3 hk];exact ⟨g4,g5⟩
    show nth (Z++[t]) s false=true↔ ∃x∈nth R' s [],x∈n.ends
    by_cases e:s<k
    · rw [rY _ _ _ _ (by omega),Hl g3 (by omega)];exact hI.fin s e
    obtain rfl:s=k:=by
      have:s<k+1:=hs;omega
    rw [show nth (Z++[t]) s false=t by rw [<-hZ];exact sG _ _ _];exact ht
  rw [bK (by omega)];obtain rfl:k=R.length:=by omega
  exact .inr ⟨_,rfl,R,N,Z,rfl,hI⟩
end
theorem rof_go{n:Nfa}(hn:NS n)(h5:n.states<=5)(hE:n.edges.length<=1024)(hc:kJ n=true)(hs:n.starts.Pairwise (· < ·)): ∃d,Gg_ n=some (d,0)/\jU d=true/\ ∀u,fU d 0 u=true↔ ∃q∈n.ends,nrun n (λq=>q∈n.starts) u q:=by
  have hst:=hn.st0;unfold Gg_;obtain ⟨L,eL,hL,hLl⟩:=vv_ n.edges (by omega);obtain ⟨cls,G,e1,h⟩:=vn_ L (by omega);obtain ⟨F,e2,hF1,hF2⟩:=x5_ h.full h.len;have hw:=h.le;rw [hc,Bool.not_true,iteO_false,iy eL,iy e1,bK (by simp),vr_ h.full h.len,gq,iy e2];have hlen0:n.starts.length<=1024:=by
    have:=TS (l:=n.starts) (m:=(List.range n.states.toNat).map λi:Nat=>((i:Nat):Int)) (List.nodup_iff_pairwise_ne.2 (hs.imp λ{x y} q e=>by omega)) λx hx=>by
      have:=hn.ss x hx;exact List.mem_map.2 ⟨x.toNat,List.mem_range.2 (by omega),by omega⟩
    rw [List.length_map,List.length_range]at this;omega
  obtain ⟨r,e3,R,N,Z,rfl,hO⟩:=rof_b1 hn h5 (F:=F) (by omega) (λc hc=>by
    obtain ⟨b,k1,k2, -⟩:=hF2 c (by omega);exact ⟨b,k1,k2⟩) (cls,0) (s0:=([],[],[n.starts],0)) ⟨λr hr=>by
      rw [List.mem_singleton.1 hr];exact ⟨⟨hn.ss,hs⟩,hlen0⟩,List.nodup_cons.2 ⟨by simp,List.nodup_nil⟩,Nat.zero_lt_one,rfl,Nat.zero_le _,rfl,rfl,λs hs=>absurd hs (Nat.not_lt_zero s),λs hs=>absurd hs (Nat.not_lt_zero s)⟩
  have hRl:=ZC h5 hO.nd hO.rows;have hlenN:=hO.lenN;have hlenZ:=hO.lenZ;have hpos:=hO.pos;have hA:SubA n ⟨cls,N,Z⟩ F.length R:=by
    refine ⟨⟨by rw [hF1];exact h.full,h.len,by show 1<=N.length;omega,by show N.length<=1024;omega,by show Z.length=N.length;omega,λs hs=> ?_⟩,hlenN.symm,λq=>by rw [hO.st],hO.fin,λs hs b=> ?_⟩
    · have hs':s<N.length:=hs
      obtain ⟨q1,q2⟩:=hO.row s (by omega);refine ⟨q1,λc hc=> ?_⟩;obtain ⟨j,q3,q4, -⟩:=q2 c hc;show 0<=nth (nth N s ([]:aj)) c (0:Int)/\nth (nth N s ([]:aj)) c (0:Int)<((N.length:Nat):Int);omega
    have hb:=UInt8.toNat_lt b;have hcl:=h.len;have h1:=(DT cls 0 _ h.full).2 _ (jB (l:=cls) (i:=b.toNat) (by omega) (0:Int));obtain ⟨c,hce⟩: ∃c:Nat,nth cls b.toNat (0:Int)=((c:Nat):Int):=⟨(nth cls b.toNat (0:Int)).toNat,by omega⟩;obtain ⟨j,q1,q2,q3⟩:=(hO.row s hs).2 c (by omega);obtain ⟨b',k1,k2,k3⟩:=hF2 c (by omega);have hlike:MS L b' b.toNat:=(h.pat (qf_ L) k1 hb).1 (by rw [k3,hce]);refine ⟨j,?_,q2,λq=> ?_⟩
    · unfold dlt
      show nth (nth N (((s:Nat):Int)).toNat ([]:aj)) (nth cls b.toNat (0:Int)).toNat (0:Int)=_;rw [iI,hce,iI];exact q1
    rw [q3,k2,iI,w1_];constructor
    · rintro ⟨e,he,z1,z2,z3⟩
      exact ⟨e,he,z1,by rw [<-hlike _ (hL e he)];exact z2,z3⟩
    rintro ⟨e,he,z1,z2,z3⟩;exact ⟨e,he,z1,by rw [hlike _ (hL e he)];exact z2,z3⟩
  exact ⟨⟨cls,N,Z⟩,e3,hA.dr.right,hA.takes⟩
def yH(R:aY)(c:Nat):aj:=R.map λr=>nth r c (0:Int)
structure ColI (R:aY) (c:Nat) (merged kept:aj) (m:FM T_1 Int):Prop where
  lenM:merged.length=c
  cnt:fH merged=some kept.length
  n:m.n=kept.length
  nk:kept.length<=c
  kp: ∀j,j<kept.length-> ∃e:Nat,nth kept j (0:Int)=((e:Nat):Int)/\e<c/\m.f (lu (yH R e))=some ((j:Nat):Int)
  at_: ∀e,e<c-> ∃j:Nat,j<kept.length/\nth merged e (0:Int)=((j:Nat):Int)/\m.f (lu (yH R e))=some ((j:Nat):Int)
  val: ∀y v,m.f y=some v-> ∃j:Nat,j<kept.length/\v=((j:Nat):Int)
  inj: ∀y z v,m.f y=some v->m.f z=some v->y=z
theorem nthA{l:aj}{x:Int}{j:Nat}(h:j<l.length):nth (l++[x]) j (0:Int)=nth l j (0:Int):=rY _ _ _ _ h
theorem aal_ {R : aY} {w c : Nat} (hc : c < w) (hw : w <= 256) {merged kept : aj} {m : FM T_1 Int} (h : ColI R c merged kept m) :
    ∃merged' kept' m',aI (!(m.has (lu (yH R c)))) (grd ((kept.length+[((c:Nat):Int)].length) * 8<=140737488355328) (UA merged c (kept++[((c:Nat):Int)]) (m.put (lu (yH R c)) ((m.n:Nat):Int)) ((m.n:Nat):Int))) (UA merged c kept m (m.get (lu (yH R c)) 0))=some (.inl (merged',kept',m',c+1))/\ColI R (c+1) merged' kept' m':=by
  have hnk:=h.nk;have hM:=h.lenM;have hn:=h.n;cases hh:m.has (lu (yH R c))with
  |true=>
    obtain ⟨v,hv⟩: ∃v,m.f (lu (yH R c))=some v:=by
      unfold FM.has at hh;exact Option.isSome_iff_exists.1 hh
    obtain ⟨j,hj,rfl⟩:=h.val _ _ hv;have hget:m.get (lu (yH R c)) 0=((j:Nat):Int):=by unfold FM.get;rw [hv];rfl
    rw [Bool.not_true,iteO_false,hget];unfold UA;rw [aQ (by rw [dN];omega)];refine ⟨_,_,_,rfl,by rw [gu,dN];omega,?_,hn,by omega,λi hi=> ?_,λe he=> ?_,h.val,h.inj⟩
    · rw [yh,h.cnt]
      unfold oW;rw [Option.bind_some,if_neg (by omega),if_neg (by omega)]
    · obtain ⟨e,h1,h2,h3⟩:=h.kp i hi
      exact ⟨e,h1,by omega,h3⟩
    by_cases ec:e=c
    · subst ec
      exact ⟨j,hj,by rw [<-hM];exact sG _ _ _,hv⟩
    obtain ⟨i,h1,h2,h3⟩:=h.at_ e (by omega);exact ⟨i,h1,by rw [nthA (by omega)];exact h2,h3⟩
  |false=>
    have hnone:m.f (lu (yH R c))=none:=by
      unfold FM.has at hh;cases e:m.f (lu (yH R c))with
      |none=>rfl
      |some v=>rw [e]at hh;cases hh
    have hput: ∀y,(m.put (lu (yH R c)) ((m.n:Nat):Int)).f y=if y=lu (yH R c) then some ((m.n:Nat):Int) else m.f y:=λy=>rfl;have hpn:(m.put (lu (yH R c)) ((m.n:Nat):Int)).n=m.n+1:=by
      show (if (m.f (lu (yH R c))).isSome then m.n else m.n+1)=_;rw [hnone];rfl
    have hlen:(kept++[((c:Nat):Int)]).length=kept.length+1:=by rw [gu,dN]
    have hold: ∀y v,m.f y=some v->y≠lu (yH R c):=λy v hy e=>by rw [e,hnone]at hy;cases hy
    rw [Bool.not_false,iteO_true,aQ (by rw [dN];omega)];unfold UA;rw [aQ (by rw [dN];omega)];refine ⟨_,_,_,rfl,by rw [gu,dN];omega,?_,by rw [hpn,hlen,hn],by rw [hlen];omega,λi hi=> ?_,λe he=> ?_,λy v hy=> ?_,λy z v hy hz=> ?_⟩
    · rw [yh,h.cnt,hlen]
      unfold oW;rw [Option.bind_some,if_neg (by omega),if_pos (by omega)]
    · rw [hlen]at hi
      by_cases ei:i=kept.length
      · subst ei
        exact ⟨c,sG _ _ _,by omega,by rw [hput,if_pos rfl,hn]⟩
      obtain ⟨e,h1,h2,h3⟩:=h.kp i (by omega);exact ⟨e,by rw [nthA (by omega)];exact h1,by omega,by rw [hput,if_neg (hold _ _ h3)];exact h3⟩
    · by_cases ec:e=c
      · subst ec
        exact ⟨kept.length,by omega,by rw [<-hn,<-hM];exact sG _ _ _,by rw [hput,if_pos rfl,hn]⟩
      obtain ⟨i,h1,h2,h3⟩:=h.at_ e (by omega);exact ⟨i,by omega,by rw [nthA (by omega)];exact h2,by rw [hput,if_neg (hold _ _ h3)];exact h3⟩
    · rw [hput]at hy
      by_cases e:y=lu (yH R c)
      · rw [if_pos e]at hy
        exact ⟨m.n,by omega,(Option.some.inj hy).symm⟩
      rw [if_neg e]at hy;obtain ⟨j,h1,h2⟩:=h.val y v hy;exact ⟨j,by omega,h2⟩
    rw [hput]at hy hz
    by_cases e:y=lu (yH R c)
    · by_cases e2:z=lu (yH R c)
      · rw [e,e2]
      rw [if_pos e]at hy;rw [if_neg e2]at hz;obtain ⟨j,h1,h2⟩:=h.val z v hz;have:=Option.some.inj hy;omega
    by_cases e2:z=lu (yH R c)
    · rw [if_neg e]at hy
      rw [if_pos e2]at hz;obtain ⟨j,h1,h2⟩:=h.val y v hy;have:=Option.some.inj hz;omega
    rw [if_neg e]at hy;rw [if_neg e2]at hz;exact h.inj y z v hy hz
structure Cols (R:aY) (w:Nat) (v:aj×aj):Prop where
  len:v.1.length=w
  cnt:fH v.1=some v.2.length
  nk:v.2.length<=w
  kp: ∀j,j<v.2.length-> ∃e:Nat,nth v.2 j (0:Int)=((e:Nat):Int)/\e<w
  at_: ∀e,e<w-> ∃j f:Nat,j<v.2.length/\nth v.1 e (0:Int)=((j:Nat):Int)/\nth v.2 j (0:Int)=((f:Nat):Int)/\f<w/\ ∀r∈R,nth r f (0:Int)=nth r e (0:Int)
  eq_: ∀e f,e<w->f<w->(∀r∈R,nth r e (0:Int)=nth r f (0:Int))->nth v.1 e (0:Int)=nth v.1 f (0:Int)
theorem vu_ {R : aY} {w : Nat} (hw : w <= 256) (h0 : 0 < R.length) (hl : R.length <= 100000) (hR : ∀ r ∈ R, r.length = w /\ ∀ c, c < w -> 0 <= nth r c (0 : Int) /\ nth r c (0 : Int) < 65536) : ∃ v, Hk_ R = some v /\ Cols R w v := by
  unfold Hk_;rw [aQ h0];have hfirst:=(hR _ (jB h0 ([]:aj))).1;refine fC (step:=λq:aj×aj×(FM T_1 Int)×Nat=>YF R q.1 q.2.1 q.2.2.1 q.2.2.2) (λ(s:aj×aj×FM T_1 Int) c=>(s.1,s.2.1,s.2.2,c)) w (λc s=>ColI R c s.1 s.2.1 s.2.2) _ (λc s hc hI=> ?_) (λs hI=> ?_) (s0:=([],[],FM.emp)) ⟨rfl,rfl,rfl,Nat.le_refl _,λj hj=>(by cases hj),λe he=>by omega,λy v hy=>(by cases hy),λy z v hy=>by cases hy⟩
  · obtain ⟨merged,kept,m⟩:=s
    obtain ⟨merged',kept',m',e,hC⟩:=aal_ hc hw hI;refine .inl ⟨(merged',kept',m'),?_,hC⟩;show YF R merged kept m c=_;unfold YF;rw [hfirst,bY (by omega)];obtain ⟨r,e2,rfl⟩:=fC (step:=λq:aj×Nat=>YG R c m kept merged q.1 q.2) (λ(x:aj) k=>(x,k)) R.length (λk x=>x=(R.take k).map λr=>nth r c (0:Int)) (λr=>r= .inl (merged',kept',m',c+1))
      (λk x hk hI=>by
        subst hI;have h1:=(hR _ (jB hk ([]:aj))).1;refine .inl ⟨_,?_,rfl⟩;show YG R c m kept merged _ k=_;unfold YG;rw [bY (by omega),aQ (by omega),aQ (by simp only [List.length_map,List.length_take,dN];omega),jS _ hk ([]:aj),List.map_append,List.map_singleton];rfl)
      (λx hI=>by
        subst hI;refine ⟨_,?_,rfl⟩;show YG R c m kept merged _ R.length=_;unfold YG;rw [bK (by omega),List.take_length,yl_ (by rw [List.length_map];omega),gq];exact congrArg fin e)
      (s0:=[]) (by simp)
    exact e2
  obtain ⟨merged,kept,m⟩:=s;have hC:ColI R w merged kept m:=hI;refine ⟨(merged,kept),?_,hC.lenM,hC.cnt,hC.nk,λj hj=> ?_,λe he=> ?_,λe f he hf hx=> ?_⟩
  · show YF R merged kept m w=_
    unfold YF;rw [hfirst,bK (by omega)];rfl
  · obtain ⟨e,h1,h2, -⟩:=hC.kp j hj
    exact ⟨e,h1,h2⟩
  · obtain ⟨j,h1,h2,h3⟩:=hC.at_ e he
    obtain ⟨f,h4,h5,h6⟩:=hC.kp j h1;refine ⟨j,f,h1,h2,h4,h5,?_⟩;have sml: ∀c,c<w->Sml (yH R c):=λc hc y hy=>by
      obtain ⟨r,hr,rfl⟩:=List.mem_map.1 hy;exact (hR r hr).2 c hc
    have h7:=n4_ (sml f h5) (sml e he) (hC.inj _ _ _ h6 h3);exact List.map_inj_left.1 h7
  obtain ⟨j, -,h2,h3⟩:=hC.at_ e he;obtain ⟨i, -,h5,h6⟩:=hC.at_ f hf;rw [show yH R e=yH R f from List.map_inj_left.2 hx,h6]at h3;rw [h2,h5,Option.some.inj h3]
structure SI (d:Dfa) (l g:aj) (n:Nat) (place states:aj):Prop where
  len:place.length=n
  st: ∀j,j<states.length->nth states j (0:Int)∈l/\nth place (gv g (nth states j (0:Int))).toNat (0:Int)=((j:Nat):Int)
  pl: ∀v:Nat,v<n->nth place v (0:Int)= -1\/ ∃j:Nat,j<states.length/\nth place v (0:Int)=((j:Nat):Int)/\gv g (nth states j (0:Int))=((v:Nat):Int)
  zero:0<states.length/\nth states 0 (0:Int)=0
section
variable {d:Dfa} {w:Nat} (hd:DR d w) {l:aj} (hR:Reached d w l) {g:aj} {n:Nat} (hG:Grps d w l g n)
include hd hR hG
omit hd hR in
theorem SI.le{place states:aj}(h:SI d l g n place states):states.length<=n:=by
  have h1:=TS (l:=List.range states.length) (m:=(List.range n).map λv=>(nth place v (0:Int)).toNat) List.nodup_range λj hj=>by
    obtain ⟨h1,h2⟩:=h.st j (List.mem_range.1 hj);have h3:=hG.rg _ h1;exact List.mem_map.2 ⟨(gv g (nth states j (0:Int))).toNat,List.mem_range.2 (by omega),by rw [h2,iI]⟩
  rwa [List.length_map,List.length_range,List.length_range]at h1
def Qq(d:Dfa)(w:Nat)(g states:aj)(s:Int)(row:aj):Prop:=row.length=w/\ ∀c,c<w-> ∃j:Nat,j<states.length/\nth row c (0:Int)=((j:Nat):Int)/\gv g (nth states j (0:Int))=gv g (nx d s c)
omit hd hR hG in
theorem Qq.mono{states states':aj}{s:Int}{row:aj}(h:Qq d w g states s row)(hp:states <+: states'):Qq d w g states' s row:=by
  refine ⟨h.1,λc hc=> ?_⟩;obtain ⟨j,h1,h2,h3⟩:=h.2 c hc;have:=hp.length_le;exact ⟨j,by omega,h2,by rw [Ij hp h1];exact h3⟩
theorem small_b3 {place states : aj} {k : Nat} (hk : k < states.length) (h : SI d l g n place states) (rows : aY) (hrl : rows.length <= 100000) (hF : fH ((0 : Int) :: rows.flatten) = some states.length) :
    ∃place' states' row,aV (λq:aj×aj×aj×Nat=>Nq d states k g rows q.1 q.2.1 q.2.2.1 q.2.2.2) (place,states,[],0)=some (.inl (place',states',rows++[row],k+1))/\SI d l g n place' states'/\states <+: states'/\Qq d w g states' (nth states k (0:Int)) row/\fH ((0:Int)::rows.flatten++row)=some states'.length:=by
  obtain ⟨hsl, -⟩:=h.st k hk;have hs:=hR.ok _ hsl;have hlen:=hd.len hs;have hgl:=hG.len;have hn1:=hG.n1;have hll:l.length<=d.next.length:=MX hR.nd hR.ok;have hn2:=hd.n2;have hw:=hd.NK;obtain ⟨r,e,place',states',row,rfl,h1,h2,h3,h4⟩:=fC (step:=λq:aj×aj×aj×Nat=>Nq d states k g rows q.1 q.2.1 q.2.2.1 q.2.2.2) (λ(s:aj×aj×aj) c=>(s.1,s.2.1,s.2.2,c)) w
    (λc s=>SI d l g n s.1 s.2.1/\states <+: s.2.1/\s.2.2.length=c/\fH ((0:Int)::rows.flatten++s.2.2)=some s.2.1.length/\ ∀i,i<c-> ∃j:Nat,j<s.2.1.length/\nth s.2.2 i (0:Int)=((j:Nat):Int)/\gv g (nth s.2.1 j (0:Int))=gv g (nx d (nth states k (0:Int)) i))
    (λr=> ∃place' states' row,r= .inl (place',states',rows++[row],k+1)/\SI d l g n place' states'/\states <+: states'/\Qq d w g states' (nth states k (0:Int)) row/\fH ((0:Int)::rows.flatten++row)=some states'.length)
    (λc s hc hI=>by
      obtain ⟨p,st,row⟩:=s;obtain ⟨hS,hP,hL,hCt,hM⟩:=hI;dsimp only at hS hP hL hCt hM;have htl:=hR.cl _ hsl c hc;have ht:=hR.ok _ htl;have hg:=hG.rg _ htl;have hpl:=hS.len;have hle:=SI.le hG hS;obtain ⟨t,hte⟩: ∃t,nth (nth d.next ((nth states k (0:Int)).toNat) ([]:aj)) c (0:Int)=t:=⟨_,rfl⟩;have hte':nx d (nth states k (0:Int)) c=t:=hte;rw [hte']at htl ht hg;obtain ⟨ht0,ht1⟩:=ht;obtain ⟨v,hv⟩: ∃v:Nat,gv g t=((v:Nat):Int):=⟨(gv g t).toNat,by omega⟩;have hv':nth g t.toNat (0:Int)=((v:Nat):Int):=hv;rw [hv]at hg;have j1: ∀p' st',SI d l g n p' st'->states <+: st'->st <+: st'->(∃j:Nat,j<st'.length/\nth p' v (0:Int)=((j:Nat):Int)/\gv g (nth st' j (0:Int))=((v:Nat):Int)/\oW (some st.length) ((j:Nat):Int)=some st'.length)->
          ∃s':aj×aj×aj,F9_ d states k c g row p' st'=some (.inl (s'.1,s'.2.1,s'.2.2,c+1))/\SI d l g n s'.1 s'.2.1/\states <+: s'.2.1/\s'.2.2.length=c+1/\fH ((0:Int)::rows.flatten++s'.2.2)=some s'.2.1.length/\ ∀i,i<c+1-> ∃j:Nat,j<s'.2.1.length/\nth s'.2.2 i (0:Int)=((j:Nat):Int)/\gv g (nth s'.2.1 j (0:Int))=gv g (nx d (nth states k (0:Int)) i):=by
        intro p' st' hS' hP' hQ' hj;obtain ⟨j,h4,h5,h6,h6b⟩:=hj;have hpl':=hS'.len;have hle':=hQ'.length_le;unfold F9_;rw [hte,aQ ⟨ht0,by omega⟩,hv',aQ (by omega),aQ (by rw [dN];omega),iI,h5];refine ⟨(p',st',row++[((j:Nat):Int)]),rfl,hS',hP',by show (row++[_]).length=_;rw [gu,dN];omega,by show fH ((0:Int)::rows.flatten++(row++[_]))=_;rw [<-zQ,yh,hCt];exact h6b,λi hi=> ?_⟩;show ∃q:Nat,q<st'.length/\nth (row++[((j:Nat):Int)]) i (0:Int)=((q:Nat):Int)/\gv g (nth st' q (0:Int))=_
        by_cases e:i=c
        · subst e
          exact ⟨j,h4,by rw [<-hL];exact sG _ _ _,by rw [hte',h6,hv]⟩
        obtain ⟨q,h7,h8,h9⟩:=hM i (by omega);exact ⟨q,by omega,by rw [nthA (by omega)];exact h8,by rw [Ij hQ' h7];exact h9⟩
      show (∃s',Nq d states k g rows p st row c=_/\_)\/_;left;unfold Nq;rw [hlen,bY (by omega),hte,aQ ⟨ht0,by omega⟩,hv',aQ (by omega),iI];rcases hS.pl v (by omega)with h4|h4
      · rw [bY (by omega),aQ ⟨ht0,by omega⟩,aQ (by omega),aQ (by rw [dN];omega)]
        have hlen2:(st++[t]).length=st.length+1:=by rw [gu,dN]
        have hnot: ∀j,j<st.length->(gv g (nth st j (0:Int))).toNat≠v:=λj hj e=>by
          have:=(hS.st j hj).2;rw [e,h4]at this;omega
        refine j1 _ _ ⟨by rw [eX];exact hpl,λj hj=> ?_,λu hu=> ?_,by omega,by rw [nthA hS.zero.1];exact hS.zero.2⟩ (hP.trans (List.prefix_append _ _)) (List.prefix_append _ _) ⟨st.length,by omega,?_,?_,?_⟩
        · rw [hlen2]at hj
          by_cases e:j=st.length
          · subst e
            rw [sG,hv,iI,nI,if_pos ⟨rfl,by omega⟩];exact ⟨htl,rfl⟩
          rw [nthA (by omega),nI,if_neg (λq=>hnot j (by omega) q.1.symm)];exact hS.st j (by omega)
        · rw [nI,hlen2]
          by_cases e:v=u
          · subst e
            rw [if_pos ⟨rfl,by omega⟩];exact .inr ⟨st.length,by omega,rfl,by rw [sG,hv]⟩
          rw [if_neg (λq=>e q.1)];refine (hS.pl u hu).imp id λ⟨j,h5,h6,h7⟩=>⟨j,by omega,h6,by rw [nthA h5];exact h7⟩
        · rw [nI,if_pos ⟨rfl,by omega⟩]
        · rw [sG,hv]
        unfold oW;rw [Option.bind_some,if_neg (by omega),if_pos rfl,hlen2]
      obtain ⟨j,h5,h6,h7⟩:=h4;rw [bK (by omega)];exact j1 _ _ hS hP (List.prefix_refl _) ⟨j,h5,h6,h7,by unfold oW;rw [Option.bind_some,if_neg (by omega),if_neg (by omega)]⟩)
    (λs hI=>by
      obtain ⟨p,st,row⟩:=s;obtain ⟨hS,hP,hL,hCt,hM⟩:=hI;dsimp only at hS hP hL hCt hM;refine ⟨.inl (p,st,rows++[row],k+1),?_,p,st,row,rfl,hS,hP,⟨hL,hM⟩,hCt⟩;show Nq d states k g rows p st row w=_;unfold Nq;rw [hlen,bK (by omega),aQ (by rw [dN];omega)];rfl)
    (s0:=(place,states,[])) ⟨h,List.prefix_refl _,rfl,(by show fH ((0:Int)::rows.flatten++[])=_;rw [List.append_nil];exact hF),λi hi=>by omega⟩
  exact ⟨place',states',row,e,h1,h2,h3,h4⟩
def zD(d:Dfa)(states:aj)(rows:aY)(v:aj×aj):Dfa:=
  ⟨d.cls.map λc=>nth v.1 c.toNat (0:Int),rows.map λr=>v.2.map λe=>nth r e.toNat (0:Int),states.map λs=>nth d.fin s.toNat false⟩
structure AllR (d:Dfa) (w:Nat) (l g:aj) (n:Nat) (states:aj) (rows:aY):Prop where
  si: ∃place,SI d l g n place states
  len:rows.length=states.length
  row: ∀k,k<states.length->Qq d w g states (nth states k (0:Int)) (nth rows k ([]:aj))
  fc:fH ((0:Int)::rows.flatten)=some states.length
  cm: ∀k,k<states.length-> ∃m,fH ((0:Int)::(rows.take k).flatten)=some m/\k<m
omit hd hR hG in
theorem small_b5 {states : aj} {rows : aY} {v : aj × aj} (hl : rows.length = states.length) (hs : ∀ s ∈ states, 0 <= s /\ s < (d.fin.length : Int)) (hsl : states.length <= 100000) (hv : v.2.length <= 256) (hw : w <= 256) (hkp : ∀ j, j < v.2.length -> ∃ e : Nat, nth v.2 j (0 : Int) = ((e : Nat) : Int) /\ e < w) (hrow : ∀ r ∈ rows, r.length = w) (cls : aj) :
    aV (λq:aY×B_1×Nat=>Nr states v rows d cls q.1 q.2.1 q.2.2) ([],[],0)=some ⟨cls,rows.map λr=>v.2.map λe=>nth r e.toNat (0:Int),states.map λs=>nth d.fin s.toNat false⟩:=by
  obtain ⟨r,e,rfl⟩:=fC (step:=λq:aY×B_1×Nat=>Nr states v rows d cls q.1 q.2.1 q.2.2) (λ(s:aY×B_1) k=>(s.1,s.2,k)) states.length
    (λk s=>s=((rows.take k).map (λr=>v.2.map λe=>nth r e.toNat (0:Int)),(states.take k).map λs=>nth d.fin s.toNat false)) (λr=>r=⟨cls,rows.map λr=>v.2.map λe=>nth r e.toNat (0:Int),states.map λs=>nth d.fin s.toNat false⟩)
    (λk s hk hI=>by
      subst hI;have hk2:k<rows.length:=by omega
      have hst:=hs _ (jB hk (0:Int));have hrl:=hrow _ (jB hk2 ([]:aj));refine .inl ⟨_,?_,rfl⟩;show Nr states v rows d cls _ _ k=_;unfold Nr;rw [bY (by omega),aQ (by omega)];obtain ⟨r,e,rfl⟩:=fC (step:=λq:aj×Nat=>PW v k rows ((rows.take k).map (λr=>v.2.map λe=>nth r e.toNat (0:Int))) states d ((states.take k).map λs=>nth d.fin s.toNat false) q.1 q.2) (λ(x:aj) j=>(x,j)) v.2.length
        (λj x=>x.length=v.2.length/\ ∀i,i<j->nth x i (0:Int)=nth (nth rows k ([]:aj)) (nth v.2 i (0:Int)).toNat (0:Int))
        (λr=>r= .inl ((rows.take (k+1)).map (λr=>v.2.map λe=>nth r e.toNat (0:Int)),(states.take (k+1)).map (λs=>nth d.fin s.toNat false),k+1))
        (λj x hj hI=>by
          obtain ⟨h1,h2⟩:=hI;obtain ⟨e,h3,h4⟩:=hkp j hj;refine .inl ⟨x.set j (nth (nth rows k ([]:aj)) (nth v.2 j (0:Int)).toNat (0:Int)),?_,by rw [eX];exact h1,λi hi=> ?_⟩
          · show PW v k rows _ states d _ x j=_
            unfold PW;rw [bY (by omega),aQ hk2,aQ (by omega),aQ (by omega)];rfl
          rw [nI]
          by_cases e:j=i
          · subst e;rw [if_pos ⟨rfl,by omega⟩]
          rw [if_neg (λq=>e q.1)];exact h2 i (by omega))
        (λx hI=>by
          obtain ⟨h1,h2⟩:=hI;have hx:x=v.2.map λe=>nth (nth rows k ([]:aj)) e.toNat (0:Int):=Q7 (0:Int) (by rw [List.length_map];exact h1) λi hi=>by
            rw [h2 i (by omega),C9 _ _ _ (0:Int) (0:Int) (by omega)]
          refine ⟨_,?_,rfl⟩;show PW v k rows _ states d _ x v.2.length=_;unfold PW;rw [bK (by omega),aQ (by simp only [List.length_map,List.length_take,dN];omega),aQ hst,aQ (by simp only [List.length_map,List.length_take,dN];omega),jS rows hk2 ([]:aj),jS states hk (0:Int),List.map_append,List.map_append,List.map_singleton,List.map_singleton,hx];rfl)
        (s0:=List.replicate v.2.length 0) ⟨lq,λi hi=>by omega⟩
      exact e)
    (λs hI=>by
      subst hI;refine ⟨_,?_,rfl⟩;show Nr states v rows d cls _ _ states.length=_;unfold Nr;rw [bK (by omega),List.take_length,List.take_of_length_le (by omega)];rfl)
    (s0:=([],[])) (by simp)
  exact e
theorem aam_ : ∃ states rows v, Ic_ d g ((n : Nat) : Int) = some (zD d states rows v) /\ AllR d w l g n states rows /\ Cols rows w v := by
  have hgl:=hG.len;have hn1:=hG.n1;have hll:l.length<=d.next.length:=MX hR.nd hR.ok;have hd2:=hd.n2;have hd1:=hd.n1;have hw:=hd.NK;have hcl:=hd.cl;have hf:=hd.fin;have hg0:=hG.rg 0 hR.zero;have hg0':0<=nth g 0 (0:Int)/\nth g 0 (0:Int)<((n:Nat):Int):=hg0;unfold Ic_;rw [aQ (by omega),iI];have qH: ∀place:aj,SI d l g n place [0]-> ∃r,aV (λq:aj×aj×aY×Nat=>PU d g q.1 q.2.1 q.2.2.1 q.2.2.2) (place,[0],[],0)=some r/\ ∃states rows v,r=zD d states rows v/\AllR d w l g n states rows/\Cols rows w v:=λplace hp=>by
    refine Ho (step:=λq:aj×aj×aY×Nat=>PU d g q.1 q.2.1 q.2.2.1 q.2.2.2) (λs=>SI d l g n s.1 s.2.1/\s.2.2.1.length=s.2.2.2/\s.2.2.2<=s.2.1.length/\fH ((0:Int)::s.2.2.1.flatten)=some s.2.1.length/\(∀k,k<s.2.2.2-> ∃m,fH ((0:Int)::(s.2.2.1.take k).flatten)=some m/\k<m)/\ ∀i,i<s.2.2.2->Qq d w g s.2.1 (nth s.2.1 i (0:Int)) (nth s.2.2.1 i ([]:aj)))
      (λr=> ∃states rows v,r=zD d states rows v/\AllR d w l g n states rows/\Cols rows w v) (λs=>5000 - s.2.2.2) (λs hI=> ?_) (place,[0],[],0) ⟨hp,rfl,Nat.zero_le _,rfl,λi hi=>(by cases hi),λi hi=>by cases hi⟩
    obtain ⟨p,st,rows,k⟩:=s;obtain ⟨hS,hL,hK,hF,hT,hM⟩:=hI;dsimp only at hS hL hK hF hT hM;have hle:=SI.le hG hS;show (∃s',PU d g p st rows k=_/\_)\/ ∃r,PU d g p st rows k=_/\_;unfold PU
    by_cases hk:k<st.length
    · have hs:=hR.ok _ (hS.st k hk).1
      obtain ⟨p',st',row,e,hS',hP',hW,hF'⟩:=small_b3 hd hR hG hk hS rows (by omega) hF;have hle':=hP'.length_le;rw [bY (by omega),aQ (by exact hs),e];refine .inl ⟨_,rfl,⟨hS',?_,?_,?_,λi hi=> ?_,λi hi=> ?_⟩,by show 5000 - (k+1)<5000 - k;omega⟩
      · show (rows++[row]).length=k+1
        rw [gu,dN];omega
      · show k+1<=st'.length
        omega
      · show fH ((0:Int)::(rows++[row]).flatten)=some st'.length
        rw [List.flatten_append,List.flatten_cons,List.flatten_nil,List.append_nil];exact hF'
      · show ∃m,fH ((0:Int)::((rows++[row]).take i).flatten)=some m/\i<m
        have hi':i<k+1:=hi
        by_cases ei:i=k
        · subst ei
          exact ⟨st.length,by rw [List.take_left' hL];exact hF,hk⟩
        obtain ⟨m,h1,h2⟩:=hT i (by omega);exact ⟨m,by rw [List.take_append_of_le_length (by omega)];exact h1,h2⟩
      show Qq d w g st' (nth st' i (0:Int)) (nth (rows++[row]) i ([]:aj));have hi':i<k+1:=hi;rw [Ij hP' (by omega)]
      by_cases ei:i=k
      · subst ei
        rw [show nth (rows++[row]) i ([]:aj)=row by rw [<-hL];exact sG _ _ _];exact hW
      rw [rY _ _ _ _ (by omega)];exact (hM i (by omega)).mono hP'
    obtain rfl:k=st.length:=by omega
    have hrows: ∀r∈rows,r.length=w/\ ∀c,c<w->0<=nth r c (0:Int)/\nth r c (0:Int)<65536:=λr hr=>by
      obtain ⟨i,hi,rfl⟩:=DN (d:=([]:aj)) hr;have h1:=hM i (by omega);refine ⟨h1.1,λc hc=> ?_⟩;obtain ⟨j,h2,h3, -⟩:=h1.2 c hc;omega
    obtain ⟨v,e,hC⟩:=vu_ hw (by have:=hS.zero.1;omega) (by omega) hrows;rw [bK (by omega),iy e,aQ (by omega)];refine .inr ⟨zD d st rows v,?_,st,rows,v,rfl,⟨⟨p,hS⟩,hL,hM,hF,hT⟩,hC⟩;have hCl:=hC.len;have hCn:=hC.nk;obtain ⟨r,e2,rfl⟩:=fC (step:=λq:aj×Nat=>Yq d v st rows q.1 q.2) (λ(x:aj) j=>(x,j)) d.cls.length
      (λj x=>x.length=d.cls.length/\ ∀i,i<j->nth x i (0:Int)=nth v.1 (nth d.cls i (0:Int)).toNat (0:Int)) (λr=>r=zD d st rows v)
      (λj x hj hI=>by
        obtain ⟨h1,h2⟩:=hI;have h3:=(DT d.cls 0 w hd.cnt).2 _ (jB hj (0:Int));refine .inl ⟨x.set j (nth v.1 (nth d.cls j (0:Int)).toNat (0:Int)),?_,by rw [eX];exact h1,λi hi=> ?_⟩
        · show Yq d v st rows x j=_
          unfold Yq;rw [bY (by omega),aQ (by omega),aQ (by omega)];rfl
        rw [nI]
        by_cases e:j=i
        · subst e;rw [if_pos ⟨rfl,by omega⟩]
        rw [if_neg (λq=>e q.1)];exact h2 i (by omega))
      (λx hI=>by
        obtain ⟨h1,h2⟩:=hI;have hx:x=d.cls.map λc=>nth v.1 c.toNat (0:Int):=Q7 (0:Int) (by rw [List.length_map];exact h1) λi hi=>by
          rw [h2 i (by omega),C9 _ _ _ (0:Int) (0:Int) (by omega)]
        refine ⟨_,?_,rfl⟩;show Yq d v st rows x d.cls.length=_;unfold Yq;rw [bK (by omega),small_b5 hL (λs hs=>by
          obtain ⟨i,hi,rfl⟩:=DN (d:=(0:Int)) hs;have:=hR.ok _ (hS.st i hi).1;obtain ⟨h3,h4⟩:=this;omega) (by omega) (by omega) hw hC.kp (λr hr=>(hrows r hr).1) x,hx];rfl)
      (s0:=List.replicate d.cls.length 0) ⟨lq,λi hi=>by omega⟩
    exact congrArg fin e2
  obtain ⟨r,e,states,rows,v,rfl,h1,h2⟩:=fC (step:=λq:aj×Nat=>Yk ((n:Nat):Int) g d q.1 q.2) (λ(x:aj) j=>(x,j)) n (λj x=>x.length=n/\ ∀i,i<j->nth x i (0:Int)= -1) (λr=> ∃states rows v,r=zD d states rows v/\AllR d w l g n states rows/\Cols rows w v)
    (λj x hj hI=>by
      obtain ⟨h1,h2⟩:=hI;refine .inl ⟨x.set j (-1),?_,by rw [eX];exact h1,λi hi=> ?_⟩
      · show Yk ((n:Nat):Int) g d x j=_
        unfold Yk;rw [lq,iI,bY (by omega),aQ (by omega)];rfl
      rw [nI]
      by_cases e:j=i
      · rw [if_pos ⟨e,by omega⟩]
      rw [if_neg (λq=>e q.1)];exact h2 i (by omega))
    (λx hI=>by
      obtain ⟨h1,h2⟩:=hI;obtain ⟨r,e,h⟩:=qH (x.set (nth g 0 (0:Int)).toNat 0) ⟨by rw [eX];exact h1,λj hj=>by
        have hj0:j=0:=by
          have:j<1:=hj;omega
        subst hj0;refine ⟨hR.zero,?_⟩;show nth (x.set (nth g 0 (0:Int)).toNat 0) (gv g 0).toNat (0:Int)=0;rw [nI,if_pos ⟨rfl,by show (gv g 0).toNat<x.length;omega⟩],λu hu=>by
        rw [nI]
        by_cases e:(nth g 0 (0:Int)).toNat=u
        · rw [if_pos ⟨e,by omega⟩]
          refine .inr ⟨0,Nat.zero_lt_one,rfl,?_⟩;show nth g 0 (0:Int)=_;omega
        rw [if_neg (λq=>e q.1)];exact .inl (h2 u hu),Nat.zero_lt_one,rfl⟩
      refine ⟨r,?_,h⟩;show Yk ((n:Nat):Int) g d x n=_;unfold Yk;rw [lq,iI,bK (by omega),aQ (by omega),aQ (by omega),e];rfl)
    (s0:=List.replicate n 0) ⟨lq,λi hi=>by omega⟩
  exact ⟨states,rows,v,e,h1,h2⟩
end
theorem cnt_comp {l m : aj} {k : Nat} (hm : fH m ≠ none) (h : fH l = some k) (hk : k <= m.length) : fH (l.map λc => nth m c.toNat (0 : Int)) = fH (m.take k) := by
  induction l using qp_ generalizing k with
  |h0=>
    have h0:some 0=some k:=h;have:=Option.some.inj h0;subst this;rw [List.take_zero];rfl
  |h1 l n ih=>
    rw [yh]at h;cases hl:fH l with
    |none=>rw [hl]at h;cases h
    |some j=>
      rw [hl]at h;unfold oW at h;rw [Option.bind_some]at h
      by_cases c:n<0\/((j:Nat):Int)<n
      · rw [if_pos c]at h;cases h
      rw [if_neg c]at h;have hjk:=Option.some.inj h;rw [List.map_append,List.map_singleton,yh]
      by_cases e:n=((j:Nat):Int)
      · rw [if_pos e]at hjk
        rw [ih hl (by omega),<-hjk,jy_ (by omega),yh,e,iI]
      rw [if_neg e]at hjk;subst hjk;rw [ih hl hk];cases hc:fH (m.take j)with
      |none=>
        have:fH m=none:=by
          have:=jf_ (m:=m.drop j) hc
          rwa [List.take_append_drop]at this
        exact absurd this hm
      |some q=>
        have hmem:nth m n.toNat (0:Int)∈m.take j:=by
          have h1:n.toNat<(m.take j).length:=by rw [List.length_take];omega
          have h2:=jB h1 (0:Int);have h3:nth (m.take j) n.toNat (0:Int)=nth m n.toNat (0:Int):=by
            unfold nth;rw [List.getD_eq_getElem?_getD,List.getD_eq_getElem?_getD,List.getElem?_take,if_pos (by omega)]
          rwa [h3]at h2
        have h4:=(DT (m.take j) 0 q hc).2 _ hmem;unfold oW;rw [Option.bind_some,if_neg (by omega),if_neg (by omega)]
theorem min_ok {d : Dfa} {w : Nat} (hd : DR d w) {l : aj} (hR : Reached d w l) {g : aj} {n : Nat} (hG : Grps d w l g n) {states : aj} {rows : aY} {v : aj × aj} (hA : AllR d w l g n states rows) (hC : Cols rows w v) :
    jU (zD d states rows v)=true/\ ∀i:Nat,i<states.length->fU (zD d states rows v) ((i:Nat):Int)=fU d (nth states i (0:Int)):=by
  obtain ⟨place,hS⟩:=hA.si;have hle:=SI.le hG hS;have hn1:=hG.n1;have hll:l.length<=d.next.length:=MX hR.nd hR.ok;have hd2:=hd.n2;have hz:=hS.zero;have hlen:=hA.len;have hcl:=hd.cl;have hCl:=hC.len;have hnext:(zD d states rows v).next.length=states.length:=by
    show (rows.map _).length=_;rw [List.length_map];exact hlen
  have hrow: ∀k,k<states.length->nth (zD d states rows v).next k ([]:aj)=v.2.map λe=>nth (nth rows k ([]:aj)) e.toNat (0:Int):=λk hk=>by
    show nth (rows.map _) k ([]:aj)=_;rw [C9 _ _ _ ([]:aj) ([]:aj) (by omega)]
  constructor
  · have hcnt:fH (zD d states rows v).cls=some v.2.length:=by
      show fH (d.cls.map _)=_;rw [cnt_comp (by rw [hC.cnt];exact λh=>by cases h) hd.cnt (by omega),List.take_of_length_le (by omega)];exact hC.cnt
    unfold jU;rw [hcnt,hnext];simp only [Bool.and_eq_true,dA,List.all_eq_true];refine ⟨⟨⟨?_,λr hr=> ?_⟩,by omega,by omega⟩,?_⟩
    · show (d.cls.map _).length=256
      rw [List.length_map];exact hcl
    · obtain ⟨q,hq,rfl⟩:=List.mem_map.1 hr
      obtain ⟨k,hk,rfl⟩:=DN (d:=([]:aj)) hq;have h1:=hA.row k (by omega);unfold zH;rw [Bool.and_eq_true,dA,List.length_map,List.all_eq_true];refine ⟨rfl,λx hx=> ?_⟩;obtain ⟨e,he,rfl⟩:=List.mem_map.1 hx;obtain ⟨j,hj,rfl⟩:=DN (d:=(0:Int)) he;obtain ⟨f,h2,h3⟩:=hC.kp j hj;rw [h2,iI];obtain ⟨i,h4,h5, -⟩:=h1.2 f h3;unfold y9;rw [Bool.and_eq_true,dA,dA];omega
    show (states.map _).length=states.length;rw [List.length_map]
  have key: ∀(u:T_1) (i:Nat) (s:Int),i<states.length->s∈l->gv g (nth states i (0:Int))=gv g s-> ∃j:Nat,yK (zD d states rows v) ((i:Nat):Int) u=((j:Nat):Int)/\j<states.length/\yK d s u∈l/\gv g (nth states j (0:Int))=gv g (yK d s u):=by
    intro u
    induction u with
    |nil=>exact λi s hi hs e=>⟨i,rfl,hi,hs,e⟩
    |cons b u ih=>
      intro i s hi hs e;have hb:=UInt8.toNat_lt b;have hc:=(DT d.cls 0 w hd.cnt).2 _ (jB (l:=d.cls) (i:=b.toNat) (by omega) (0:Int));obtain ⟨c,hce⟩: ∃c:Nat,nth d.cls b.toNat (0:Int)=((c:Nat):Int):=⟨(nth d.cls b.toNat (0:Int)).toNat,by omega⟩;have hcw:c<w:=by omega
      obtain ⟨j,f,h1,h2,h3,h4,h5⟩:=hC.at_ c hcw;obtain ⟨q,h6,h7,h8⟩:=(hA.row i hi).2 c hcw;have e1:dlt (zD d states rows v) ((i:Nat):Int) b=((q:Nat):Int):=by
        unfold dlt;rw [iI,hrow i hi];have e2:nth (zD d states rows v).cls b.toNat (0:Int)=((j:Nat):Int):=by
          show nth (d.cls.map _) b.toNat (0:Int)=_;rw [C9 _ _ _ (0:Int) (0:Int) (by omega),hce,iI,h2]
        rw [e2,iI,C9 _ _ _ (0:Int) (0:Int) h1,h3,iI,h5 _ (jB (by omega) ([]:aj))];exact h7
      have e3:dlt d s b=nx d s c:=by
        unfold dlt nx;rw [hce,iI]
      obtain ⟨j',h9,h10,h11,h12⟩:=ih q (nx d s c) h6 (hR.cl s hs c hcw) (by rw [h8];exact hG.same _ (hS.st i hi).1 s hs e c hcw);refine ⟨j',?_,h10,?_,?_⟩
      · show yK (zD d states rows v) (dlt (zD d states rows v) ((i:Nat):Int) b) u=_
        rw [e1];exact h9
      · show yK d (dlt d s b) u∈l
        rw [e3];exact h11
      show _=gv g (yK d (dlt d s b) u);rw [e3];exact h12
  intro i hi
  funext u
  obtain ⟨j,h1,h2,h3,h4⟩:=key u i _ hi (hS.st i hi).1 rfl;unfold fU;rw [h1,iI];show nth (states.map _) j false=_;rw [C9 _ _ _ (0:Int) false h2];exact hG.fin _ (hS.st j h2).1 _ h3 h4
theorem xc_{l:aj}(h: ∀i,i+1<l.length->nth l i 0<nth l (i+1) 0):l.Pairwise (· < ·):=by
  rw [List.pairwise_iff_getElem];have hn: ∀i (hi:i<l.length),l[i]=nth l i 0:=λi hi=>by
    have:=getD_some l hi 0;rw [List.getElem?_eq_getElem hi,Option.some.injEq]at this;exact this
  have key: ∀d i,i+d+1<l.length->nth l i 0<nth l (i+d+1) 0:=by
    intro d
    induction d with
    |zero=>intro i hi;exact h i hi
    |succ d ih=>
      intro i hi;have h1:=ih i (by omega);have h2:=h (i+d+1) (by omega);rw [show i+(d+1)+1=i+d+1+1 by omega];omega
  intro i j hi hj hij;rw [hn i hi,hn j hj];have:=key (j - i - 1) i (by omega)
  rwa [show i+(j - i - 1)+1=j by omega]at this
theorem wo_{l:aj}{n:Int}:GY l n=true↔(∀x∈l,0<=x/\x<n)/\l.Pairwise (· < ·):=by
  have hn: ∀i (hi:i<l.length),l[i]=nth l i 0:=λi hi=>by
    have:=getD_some l hi 0;rw [List.getElem?_eq_getElem hi,Option.some.injEq]at this;exact this
  constructor
  · intro h
    refine ⟨ta_ h,xc_ λi hi=> ?_⟩;unfold GY at h;rw [List.all_eq_true]at h;have:=h (i+1) (List.mem_range.2 hi);simp only [C_,zN,Bool.and_eq_true,Bool.not_eq_true',Bool.and_eq_false_iff,decide_eq_false_iff_not,dA,Nat.add_sub_cancel]at this;omega
  rintro ⟨h1,h2⟩;rw [GY,List.all_eq_true];intro i hi;have hi:=List.mem_range.1 hi;rw [List.pairwise_iff_getElem]at h2;have hx:=h1 _ (nth_mem hi 0);have h3:0<i->nth l (i - 1) 0<nth l i 0:=λh0=>by
    have:=h2 (i - 1) i (by omega) hi (by omega)
    rwa [hn,hn]at this
  simp only [C_,zN,Bool.and_eq_true,Bool.not_eq_true',Bool.and_eq_false_iff,decide_eq_false_iff_not,dA];omega
theorem o9_{n:Nfa}:kJ n=true↔0<=n.states/\n.states<=4096/\n.edges.length<=65536/\((∀x∈n.starts,0<=x/\x<n.states)/\n.starts.Pairwise (· < ·))/\((∀x∈n.ends,0<=x/\x<n.states)/\n.ends.Pairwise (· < ·))/\
    ∀e∈n.edges,0<=e.frm/\e.frm<n.states/\0<=e.to/\e.to<n.states/\e.set≠BSet.zero:=by
  simp only [kJ,Bool.and_eq_true,dA,wo_,List.all_eq_true,if_,zN,Bool.not_eq_true',decide_eq_false_iff_not];constructor
  · rintro ⟨⟨⟨⟨⟨h1,h2⟩,h3⟩,h4⟩,h5⟩,h6⟩
    exact ⟨h1,h2,by omega,h4,h5,λe he=>by have:=h6 e he;exact ⟨this.1.1.1,this.1.1.2,this.1.2.1,this.1.2.2,this.2⟩⟩
  rintro ⟨h1,h2,h3,h4,h5,h6⟩;exact ⟨⟨⟨⟨⟨h1,h2⟩,by omega⟩,h4⟩,h5⟩,λe he=>by have:=h6 e he;exact ⟨⟨⟨this.1,this.2.1⟩,this.2.2.1,this.2.2.2.1⟩,this.2.2.2.2⟩⟩
def srt(t:Fst):Fst:=⟨t.states,rX bD G_ t.starts,rX bD G_ t.ends,rX aO He t.arcs⟩
theorem qa_(t:Fst):MH t=some (if nR t=true then (srt t,0) else (⟨0,[],[],[]⟩,1)):=by
  unfold MH;rw [Un,bnd,Option.bind_some,ZF]
  by_cases h:nR t=true
  · have ht:=(yQ t).1 h
    have h1:=ht.startsN;have h2:=ht.endsN;have h3:=ht.arcsN;rw [h,if_pos rfl,Bool.not_true,iteO_false];simp only [Lx_ (l:=t.starts) (by omega),Lx_ (l:=t.ends) (by omega),Mi_ (l:=t.arcs) (by omega),bnd,Option.bind_some];rfl
  simp only [Bool.not_eq_true]at h;rw [h];rfl
structure Alike (s t:Fst):Prop where
  states:s.states=t.states
  starts: ∀x,x∈s.starts↔x∈t.starts
  ends: ∀x,x∈s.ends↔x∈t.ends
  arcs: ∀x,x∈s.arcs↔x∈t.arcs
structure Within (s t:Fst):Prop where
  starts: ∀x∈s.starts,x∈t.starts
  ends: ∀x∈s.ends,x∈t.ends
  arcs: ∀x∈s.arcs,x∈t.arcs
theorem tq_{α R:Type}{step:Nat->Option (Nat⊕R)}{y:R}(n:Nat)(hs: ∀k,k<n->step k=some (.inl (k+1)))(hd:step n=some (.inr y)):aV step 0=some y:=nx_ (λk=>k) n hs hd
theorem qb_(l:List Tip):Ct_ l l=some true:=by
  unfold Ct_;rw [decide_eq_false (by simp),iteO_false];refine tq_ (α:=Unit) l.length (λk hk=> ?_) ?_
  · simp only [Ea_,qJ hk,iteO_true,aQ hk,not_true_eq_false,decide_false,iteO_false];rfl
  simp only [Ea_,Int.lt_irrefl,decide_false,iteO_false];rfl
theorem rq_(t:Fst):Ee_ t t=some true:=by
  unfold Ee_;simp only [ne_eq,not_true_eq_false,decide_false,iteO_false,qb_,bnd,Option.bind_some,Bool.not_true];refine tq_ (α:=Unit) t.arcs.length (λk hk=> ?_) ?_
  · simp only [Fv_,qJ hk,iteO_true,aQ hk,not_true_eq_false,decide_false,iteO_false];rfl
  simp only [Fv_,Int.lt_irrefl,decide_false,iteO_false];rfl
def inN(t:Fst):Nfa:=⟨t.states,rX 0 mO (t.starts.map Tip.state),rX 0 mO (t.ends.map Tip.state),t.arcs.map λa=>⟨a.frm,a.to,a.set⟩⟩
theorem r2_{l:List Tip}(h:l.length<=1024):Hq_ l=some (rX 0 mO (l.map Tip.state)):=by
  unfold Hq_;refine IB (step:=λq:aj×Nat=>G6_ l q.1 q.2) l bD (λk=>(l.take k).map Tip.state) ?_ ?_
  · intro k hk
    simp only [G6_,qJ hk,iteO_true];rw [aQ (by simp only [List.length_map,List.length_take,dN];omega),jS l hk bD,List.map_append];rfl
  simp only [G6_,Int.lt_irrefl,decide_false,iteO_false,List.take_length];rw [Mj_ (by rw [List.length_map];omega)];rfl
theorem in_eq(t:Fst):Km_ t=some (if nR t=true then (inN t,0) else (⟨0,[],[],[]⟩,1)):=by
  unfold Km_;rw [Un,bnd,Option.bind_some,ZF]
  by_cases h:nR t=true
  · have ht:=(yQ t).1 h
    have h3:=ht.arcsN;rw [h,if_pos rfl,Bool.not_true,iteO_false];simp only [r2_ ht.startsN,r2_ ht.endsN,bnd,Option.bind_some];unfold Jl_;refine IB (step:=λq:(List Arrow)×Nat=>Iu_ t (rX 0 mO (t.starts.map Tip.state)) (rX 0 mO (t.ends.map Tip.state)) q.1 q.2) t.arcs aO (λk=>(t.arcs.take k).map λa=>(⟨a.frm,a.to,a.set⟩:Arrow)) ?_ ?_
    · intro k hk
      simp only [Iu_,qJ hk,iteO_true];rw [aQ (by simp only [List.length_map,List.length_take,dN];omega),jS t.arcs hk aO,List.map_append];rfl
    simp only [Iu_,Int.lt_irrefl,decide_false,iteO_false,List.take_length];rfl
  simp only [Bool.not_eq_true]at h;rw [h];rfl
theorem us_{t:Fst}(ht:FstOk t):kJ (inN t)=true:=by
  have h1:=ht.st1;have h2:=ht.arcsN;have hr: ∀l:List Tip,(∀p∈l,(0<=p.state/\p.state<t.states)/\p.out.length<=1024)->(∀x∈rX 0 mO (l.map Tip.state),0<=x/\x<t.states)/\(rX 0 mO (l.map Tip.state)).Pairwise (· < ·):=λl hl=>by
    refine ⟨λx hx=> ?_,(g1_ Hq _).imp λh=>MZ.1 h⟩;rw [ZO]at hx;obtain ⟨p,hp,rfl⟩:=List.mem_map.1 hx;exact (hl p hp).1
  refine o9_.2 ⟨ht.st0,by simp only [inN];omega,by simp only [inN,List.length_map];omega,hr _ ht.starts,hr _ ht.ends,λe he=> ?_⟩;obtain ⟨a,ha,rfl⟩:=List.mem_map.1 he;have:=ht.arcs a ha;exact ⟨this.1.1,this.1.2,this.2.1.1,this.2.1.2,this.2.2.1⟩
def em(a:Arc)(b:UInt8):T_1:=if a.copy then a.out++[b] else a.out
inductive Wy (t:Fst):Int->T_1->T_1->Int->Prop
  |nil (s:Int):Wy t s [] [] s
  |cons {w o:T_1} {q:Int} (a:Arc) (b:UInt8):a∈t.arcs->a.set.has b.toNat=true->Wy t a.to w o q->Wy t a.frm (b::w) (em a b++o) q
theorem Wy.cons_inv{t:Fst}{s q:Int}{b:UInt8}{w o:T_1}(h:Wy t s (b::w) o q): ∃a∈t.arcs,a.frm=s/\a.set.has b.toNat=true/\ ∃o',Wy t a.to w o' q/\o=em a b++o':=by
  cases h with
  |cons a b ha hb hw=>exact ⟨a,ha,rfl,hb,_,hw,rfl⟩
theorem Wy.split{t:Fst}: ∀{u v o:T_1} {s q:Int},Wy t s (u++v) o q-> ∃m o1 o2,Wy t s u o1 m/\Wy t m v o2 q/\o=o1++o2
  |[],v,o,s,q,h=>⟨s,[],o,.nil s,h,rfl⟩
  |b::u,v,o,s,q,h=>by
    obtain ⟨a,ha,rfl,hb,o',hw,rfl⟩:=Wy.cons_inv h;obtain ⟨m,o1,o2,h1,h2,rfl⟩:=Wy.split hw;exact ⟨m,em a b++o1,o2,.cons a b ha hb h1,h2,by rw [zQ]⟩
theorem Wy.map{t T:Fst}(f:Int->Int)(h: ∀a∈t.arcs,(⟨f a.frm,f a.to,a.set,a.out,a.copy⟩:Arc)∈T.arcs){s q:Int}{w o:T_1}(k:Wy t s w o q):Wy T (f s) w o (f q):=by
  induction k with
  |nil s=>exact .nil _
  |cons a b ha hb _ ih=>exact Wy.cons (⟨f a.frm,f a.to,a.set,a.out,a.copy⟩:Arc) b (h a ha) hb ih
def shT(n:Int)(l:List Tip):List Tip:=l.map λx=>⟨x.state+n,x.out⟩
def shA(n:Int)(l:List Arc):List Arc:=l.map λx=>⟨x.frm+n,x.to+n,x.set,x.out,x.copy⟩
def fAlt(a b:Fst):Fst:=⟨a.states+b.states,a.starts++shT a.states b.starts,a.ends++shT a.states b.ends,a.arcs++shA a.states b.arcs⟩
def mM(d:Dfa)(s:Int)(b:Nat):Int:=nth (nth d.next s.toNat ([]:aj)) ((nth d.cls b (0:Int)).toNat) (0:Int)
theorem dlt_N(d:Dfa)(s:Int)(b:UInt8):mM d s b.toNat=dlt d s b:=rfl
def yJ(d:Dfa)(y:Int)(s:BSet)(z:Int):BSet:=BSet.make λb=>s.has b && decide (mM d y b=z)
theorem zx_{d:Dfa}{y z:Int}{s:BSet}{b:UInt8}:(yJ d y s z).has b.toNat=true↔s.has b.toNat=true/\dlt d y b=z:=by
  unfold yJ;rw [BSet.EX _ (UInt8.toNat_lt b),dlt_N,Bool.and_eq_true,dA]
theorem hasZ(b:Nat)(hb:b<256):BSet.zero.has b=false:=by
  rw [<-BSet.Uh,BSet.EX _ hb]
def GN(n:Nat)(l:List Tip):List Tip:=l.map λx=>⟨x.state * ((n:Nat):Int),x.out⟩
def Zl(d:Dfa)(x:Tip):List Tip:=((List.range d.next.length).filter λy=>nth d.fin y false).map λy=>⟨x.state * ((d.next.length:Nat):Int)+((y:Nat):Int),x.out⟩
def yI(d:Dfa)(l:List Tip):List Tip:=l.flatMap (Zl d)
def I9(d:Dfa)(x:Arc)(y:Nat):List Arc:=((List.range d.next.length).filter λz=>decide (yJ d ((y:Nat):Int) x.set ((z:Nat):Int)≠BSet.zero)).map λz=>
  ⟨x.frm * ((d.next.length:Nat):Int)+((y:Nat):Int),x.to * ((d.next.length:Nat):Int)+((z:Nat):Int),yJ d ((y:Nat):Int) x.set ((z:Nat):Int),x.out,x.copy⟩
def zW(d:Dfa)(x:Arc)(k:Nat):List Arc:=(List.range k).flatMap (I9 d x)
def uf(d:Dfa)(l:List Arc):List Arc:=l.flatMap λx=>zW d x d.next.length
def fLim(t:Fst)(d:Dfa):Fst:=⟨t.states * ((d.next.length:Nat):Int),GN d.next.length t.starts,yI d t.ends,uf d t.arcs⟩
theorem mem_limS{n:Nat}{l:List Tip}{a:Tip}:a∈GN n l↔ ∃x∈l,a=⟨x.state * ((n:Nat):Int),x.out⟩:=by
  unfold GN;rw [List.mem_map];exact ⟨λ⟨x,h,e⟩=>⟨x,h,e.symm⟩,λ⟨x,h,e⟩=>⟨x,h,e.symm⟩⟩
theorem mem_limE{d:Dfa}{l:List Tip}{a:Tip}:a∈yI d l↔ ∃x∈l, ∃y:Nat,y<d.next.length/\nth d.fin y false=true/\a=⟨x.state * ((d.next.length:Nat):Int)+((y:Nat):Int),x.out⟩:=by
  unfold yI Zl;simp only [List.mem_flatMap,List.mem_map,List.mem_filter,List.mem_range];exact ⟨λ⟨x,hx,y,⟨h1,h2⟩,e⟩=>⟨x,hx,y,h1,h2,e.symm⟩,λ⟨x,hx,y,h1,h2,e⟩=>⟨x,hx,y,⟨h1,h2⟩,e.symm⟩⟩
theorem aan_{d:Dfa}{l:List Arc}{a:Arc}:a∈uf d l↔ ∃x∈l, ∃y:Nat,y<d.next.length/\ ∃z:Nat,z<d.next.length/\yJ d ((y:Nat):Int) x.set ((z:Nat):Int)≠BSet.zero/\
    a=⟨x.frm * ((d.next.length:Nat):Int)+((y:Nat):Int),x.to * ((d.next.length:Nat):Int)+((z:Nat):Int),yJ d ((y:Nat):Int) x.set ((z:Nat):Int),x.out,x.copy⟩:=by
  unfold uf zW I9;simp only [List.mem_flatMap,List.mem_map,List.mem_filter,List.mem_range,dA];exact ⟨λ⟨x,hx,y,hy,z,⟨h1,h2⟩,e⟩=>⟨x,hx,y,hy,z,h1,h2,e.symm⟩,λ⟨x,hx,y,hy,z,h1,h2,e⟩=>⟨x,hx,y,hy,z,⟨h1,h2⟩,e.symm⟩⟩
theorem okS_nat{d:Dfa}{y:Int}(h:okS d y): ∃k:Nat,y=((k:Nat):Int)/\k<d.next.length:=by
  obtain ⟨h1,h2⟩:=h;exact ⟨y.toNat,by omega,by omega⟩
theorem Ba{n s y m:Int}(hs:0<=s/\s<m)(hy:0<=y/\y<n):0<=s * n+y/\s * n+y<m * n:=by
  have h1:0<=s * n:=Int.mul_nonneg hs.1 (by omega);have h2:(s+1) * n<=m * n:=Int.mul_le_mul_of_nonneg_right (by omega) (by omega);rw [Int.add_mul,Int.one_mul]at h2;omega
def Iq(d:Dfa)(c:Nat):Int:=mM d ((c / 256:Nat):Int) (c % 256)
structure CanD (d:Dfa):Prop where
  right:jU d=true
  first: ∀c j,c<d.next.length * 256->Iq d c=((j:Nat):Int)-> ∀k,0<k->k<j-> ∃c',c'<c/\Iq d c'=((k:Nat):Int)
  come: ∀j,0<j->j<d.next.length-> ∃c,c<j * 256/\Iq d c=((j:Nat):Int)
  apart: ∀s t:Nat,s<d.next.length->t<d.next.length->fU d ((s:Nat):Int)=fU d ((t:Nat):Int)->s=t
  cls: ∀b c,b<256->c<256->(∀s,s<d.next.length->mM d ((s:Nat):Int) b=mM d ((s:Nat):Int) c)->nth d.cls b (0:Int)=nth d.cls c (0:Int)
theorem tp_{d:Dfa}{s:Int}{b:Nat}(hb:b<256)(u:T_1):fU d s (UInt8.ofNat b::u)=fU d (mM d s b) u:=by
  unfold fU yK;rw [List.foldl_cons,<-dlt_N,u8nat hb]
theorem um_{d d':Dfa}{s t:Int}{b:Nat}(hb:b<256)(h:fU d s=fU d' t):fU d (mM d s b)=fU d' (mM d' t b):=funext λu=>by
  rw [<-tp_ hb,<-tp_ hb,h]
theorem sv_{d:Dfa}(h:jU d=true){s b:Nat}(hs:s<d.next.length)(hb:b<256):0<=mM d ((s:Nat):Int) b/\mM d ((s:Nat):Int) b<(d.next.length:Int):=by
  have:=(tl_ h (s:=((s:Nat):Int)) ⟨by omega,by omega⟩ (UInt8.ofNat b)).nx;rw [<-dlt_N,u8nat hb]at this;exact this
theorem leastD{P:Nat->Prop}{c:Nat}(h:P c): ∃d,d<=c/\P d/\ ∀e,e<d-> ¬ P e:=by
  induction c using Nat.strongRecOn with
  |ind c ih=>
    by_cases k: ∃e,e<c/\P e
    · obtain ⟨e,k1,k2⟩:=k
      obtain ⟨d,h1,h2⟩:=ih e k1 k2;exact ⟨d,by omega,h2⟩
    exact ⟨c,Nat.le_refl _,h,λe he hp=>k ⟨e,he,hp⟩⟩
theorem s7_{d d':Dfa}(h':jU d'=true){c:Nat}(hc:c / 256<d'.next.length){j:Nat}(hx:Iq d c=((j:Nat):Int))(he:fU d ((c / 256:Nat):Int)=fU d' ((c / 256:Nat):Int)):
    ∃k:Nat,Iq d' c=((k:Nat):Int)/\k<d'.next.length/\fU d ((j:Nat):Int)=fU d' ((k:Nat):Int):=by
  have hb:c % 256<256:=by omega
  have hk:=sv_ h' hc hb;have h1:=um_ hb he;rw [show mM d ((c / 256:Nat):Int) (c % 256)=((j:Nat):Int)from hx]at h1;obtain ⟨k,hk2⟩: ∃k:Nat,mM d' ((c / 256:Nat):Int) (c % 256)=((k:Nat):Int):=⟨(mM d' ((c / 256:Nat):Int) (c % 256)).toNat,by omega⟩;rw [hk2]at h1;exact ⟨k,hk2,by omega,h1⟩
theorem rc_{d d':Dfa}(h:CanD d)(h':CanD d')(he:fU d 0=fU d' 0)(j:Nat):j<d.next.length->j<d'.next.length->fU d ((j:Nat):Int)=fU d' ((j:Nat):Int):=by
  induction j using Nat.strongRecOn with
  |ind j ih=>
    intro hj hj'
    by_cases c0:j=0
    · rw [c0];exact he
    obtain ⟨c1,hc1,hx1⟩:=h.come j (by omega) hj;obtain ⟨c,hc,hx,hl⟩:=leastD (P:=λc=>Iq d c=((j:Nat):Int)) hx1;have hi:=ih (c / 256) (by omega) (by omega) (by omega);obtain ⟨k,hk,hkl,k3⟩:=s7_ h'.right (by omega) hx hi
    by_cases ck:k=j
    · rw [ck]at k3;exact k3
    by_cases ck2:k<j
    · have:=ih k ck2 (by omega) (by omega)
      exact absurd (h.apart k j (by omega) hj (this.trans k3.symm)) ck
    obtain ⟨c',d1,d2⟩:=h'.first c k (by omega) hk j (by omega) (by omega);have hi':=ih (c' / 256) (by omega) (by omega) (by omega);obtain ⟨k',hk',hkl',e3⟩:=s7_ h.right (by omega) d2 hi'.symm
    by_cases cj:k'=j
    · rw [cj]at hk';exact absurd hk' (hl c' d1)
    by_cases cj2:k'<j
    · have:=ih k' cj2 (by omega) (by omega)
      exact absurd (h'.apart j k' hj' (by omega) (e3.trans this)) (by omega)
    obtain ⟨c'',f1,f2⟩:=h.first c' k' (by omega) hk' j (by omega) (by omega);exact absurd f2 (hl c'' (by omega))
theorem ux_{d d':Dfa}(h:CanD d)(h':CanD d')(he:fU d 0=fU d' 0)(h0:0<d.next.length):d'.next.length<=d.next.length:=by
  by_cases c:d'.next.length<=d.next.length
  · exact c
  obtain ⟨c1,hc,hx⟩:=h'.come d.next.length h0 (by omega);have hi:=rc_ h h' he (c1 / 256) (by omega) (by omega);obtain ⟨k,hk,hkl,e3⟩:=s7_ h.right (by omega) hx hi.symm;have:=rc_ h h' he k (by omega) (by omega);have:=h'.apart _ _ (by omega) (by omega) (e3.trans this);omega
theorem Mk_{d d':Dfa}(h1:d.cls=d'.cls)(h2:d.next=d'.next)(h3:d.fin=d'.fin):d=d':=by
  cases d;cases d';simp only at h1 h2 h3;subst h1 h2 h3;rfl
theorem yh_{d d':Dfa}(h:CanD d)(h':CanD d')(he:fU d 0=fU d' 0):d=d':=by
  obtain ⟨w,hd⟩:=DR.of h.right;obtain ⟨w',hd'⟩:=DR.of h'.right;have n1:=hd.n1;have n1':=hd'.n1;have hl:d.next.length=d'.next.length:=Nat.le_antisymm (ux_ h' h he.symm (by omega)) (ux_ h h' he (by omega));have hs: ∀s:Nat,s<d.next.length->fU d ((s:Nat):Int)=fU d' ((s:Nat):Int):=λs k=>rc_ h h' he s k (by omega);have hnx: ∀s b:Nat,s<d.next.length->b<256->mM d ((s:Nat):Int) b=mM d' ((s:Nat):Int) b:=λs b k hb=>by
    have g1:=sv_ h.right k hb;have g2:=sv_ h'.right (show s<d'.next.length by omega) hb;obtain ⟨x,hx⟩: ∃x:Nat,mM d ((s:Nat):Int) b=((x:Nat):Int):=⟨(mM d ((s:Nat):Int) b).toNat,by omega⟩;obtain ⟨y,hy⟩: ∃y:Nat,mM d' ((s:Nat):Int) b=((y:Nat):Int):=⟨(mM d' ((s:Nat):Int) b).toNat,by omega⟩;have h1:=um_ hb (hs s k);rw [hx]at g1 h1 ⊢;rw [hy]at g2 h1 ⊢;have:=h'.apart x y (by omega) (by omega) ((hs x (by omega)).symm.trans h1);rw [this]
  have same: ∀{d:Dfa}, ∀b c,nth d.cls b (0:Int)=nth d.cls c 0-> ∀s:Nat,mM d ((s:Nat):Int) b=mM d ((s:Nat):Int) c:=λb c e s=>by
    unfold mM;rw [e]
  have hc:d.cls=d'.cls/\w=w':=ri_ (by rw [hd.cl,hd'.cl]) hd.cnt hd'.cnt λa b ha hb=>by
    have hcl:=hd.cl;constructor
    · intro e
      exact h'.cls a b (by omega) (by omega) λs k=>by rw [<-hnx s a (by omega) (by omega),<-hnx s b (by omega) (by omega)];exact same a b e s
    intro e;exact h.cls a b (by omega) (by omega) λs k=>by rw [hnx s a (by omega) (by omega),hnx s b (by omega) (by omega)];exact same a b e s
  obtain ⟨hc,hw⟩:=hc;subst hw;refine Mk_ hc (Q7 [] hl λs k=> ?_) (Q7 false (by rw [hd.fin,hd'.fin];exact hl) λs k=> ?_)
  · have r1:=hd.row s k
    have r2:=hd'.row s (by omega);refine Q7 0 (by omega) λc hcw=> ?_;obtain ⟨b,hb,hv⟩:=Na hd.cnt c (by omega);have hcl:=hd.cl;have e:=hnx s b k (by omega);unfold mM at e;rw [iI,<-hc,hv,iI]at e;exact e
  have hf:=hd.fin;have e:=congrFun (hs s (by omega)) [];exact e
theorem u2_{α:Type}(l m:List α)(j:Nat)(d:α):nth (l++m) (l.length+j) d=nth m j d:=by
  unfold nth;rw [List.getD_eq_getElem?_getD,List.getD_eq_getElem?_getD,List.getElem?_append_right (by omega),Nat.add_sub_cancel_left]
theorem n5_{w:Nat}: ∀{R:aY},(∀r∈R,r.length=w)->R.flatten.length=R.length * w
  |[],_=>by simp
  |r::R,h=>by
    rw [List.flatten_cons,gu,n5_ λq hq=>h q (qE _ hq),h r iZ,List.length_cons,Nat.succ_mul,Nat.add_comm]
theorem k5_{w:Nat}: ∀{R:aY},(∀r∈R,r.length=w)-> ∀{s c:Nat},s<R.length->c<w->nth R.flatten (s * w+c) (0:Int)=nth (nth R s ([]:aj)) c (0:Int)
  |[],_,s,c,hs,_=>absurd hs (Nat.not_lt_zero _)
  | r :: R, h, s, c, hs, hc => by
    have hr:=h r iZ;rw [List.flatten_cons];cases s with
    |zero=>rw [Nat.zero_mul,Nat.zero_add,rY _ _ _ _ (by omega)];rfl
    |succ s=>
      rw [show (s+1) * w+c=r.length+(s * w+c) by rw [Nat.succ_mul,hr];omega,u2_,k5_ (λq hq=>h q (qE _ hq)) (by rw [List.length_cons]at hs;omega) hc];rfl
theorem x2_{w n p:Nat}(h:p<n * w): ∃s c,s<n/\c<w/\p=s * w+c:=by
  have hw:0<w:=by
    apply Nat.pos_of_ne_zero;intro e;rw [e,Nat.mul_zero]at h;cases h
  refine ⟨p / w,p % w,Nat.div_lt_of_lt_mul (by rw [Nat.mul_comm];exact h),Nat.mod_lt _ hw,?_⟩;rw [Nat.mul_comm];exact (Nat.div_add_mod p w).symm
structure Fc (d:Dfa) (cls:aj) (w:Nat) (R:aY):Prop where
  cl:cls.length=256
  cnt:fH cls=some w
  len:R.length=d.next.length
  row: ∀r∈R,r.length=w
  at_: ∀s b,s<R.length->b<256->mM d ((s:Nat):Int) b=nth (nth R s ([]:aj)) (nth cls b (0:Int)).toNat (0:Int)
  fc:fH ((0:Int)::R.flatten)=some R.length
  cm: ∀k,k<R.length-> ∃m,fH ((0:Int)::(R.take k).flatten)=some m/\k<m
theorem Fc.cls_at{d:Dfa}{cls:aj}{w:Nat}{R:aY}(h:Fc d cls w R){b:Nat}(hb:b<256): ∃e:Nat,e<w/\nth cls b (0:Int)=((e:Nat):Int):=by
  have hcl:=h.cl;have:=(DT cls 0 w h.cnt).2 _ (jB (l:=cls) (i:=b) (by omega) (0:Int));exact ⟨(nth cls b (0:Int)).toNat,by omega,by omega⟩
theorem Fc.first {d : Dfa} {cls : aj} {w : Nat} {R : aY} (h : Fc d cls w R) : ∀ c j, c < d.next.length * 256 -> Iq d c = ((j : Nat) : Int) -> ∀ k, 0 < k -> k < j -> ∃ c', c' < c /\ Iq d c' = ((k : Nat) : Int) := by
  intro c j hc hx k hk hkj;have hl:=h.len;have hcl:=h.cl;have hb:c % 256<256:=Nat.mod_lt _ (by omega);have hs:c / 256<R.length:=by omega
  obtain ⟨e,he,hce⟩:=h.cls_at hb;have hval:nth R.flatten (c / 256 * w+e) (0:Int)=((j:Nat):Int):=by
    rw [k5_ h.row hs he,<-hx];unfold Iq;rw [h.at_ _ _ hs hb,hce,iI]
  have hpl:c / 256 * w+e<R.length * w:=by
    have:=Nat.mul_le_mul_right w (show c / 256+1<=R.length by omega);rw [Nat.succ_mul]at this;omega
  obtain ⟨a,ha,hv⟩:=md_ h.fc (p:=c / 256 * w+e+1) (by rw [List.length_cons,n5_ h.row];omega) (k:=k) (by
    show ((k:Nat):Int)<nth R.flatten (c / 256 * w+e) (0:Int);rw [hval];omega)
  cases a with
  |zero=>
    have h0:(0:Int)=((k:Nat):Int):=hv;omega
  |succ a=>
    have hv':nth R.flatten a (0:Int)=((k:Nat):Int):=hv;obtain ⟨s',c',h1,h2,rfl⟩:=x2_ (w:=w) (n:=R.length) (p:=a) (by omega);rw [k5_ h.row h1 h2]at hv';have hss:s'<=c / 256:=by
      apply Decidable.byContradiction;intro q;have:=Nat.mul_le_mul_right w (show c / 256+1<=s' by omega);rw [Nat.succ_mul]at this;omega
    obtain ⟨b',k1,k2,k3⟩: ∃b',b'<256/\nth cls b' (0:Int)=((c':Nat):Int)/\(s'=c / 256->b'<c % 256):=by
      by_cases es:s'=c / 256
      · obtain ⟨b',q1,q2⟩:=md_ h.cnt (p:=c % 256) (by omega) (k:=c') (by rw [hce];rw [es]at ha;omega)
        exact ⟨b',by omega,q2,λ_=>q1⟩
      obtain ⟨b',q1,q2⟩:=Na h.cnt c' h2;exact ⟨b',by omega,q2,λq=>absurd q es⟩
    refine ⟨s' * 256+b',by omega,?_⟩;unfold Iq;rw [show (s' * 256+b') / 256=s' by omega,show (s' * 256+b') % 256=b' by omega,h.at_ _ _ h1 k1,k2,iI];exact hv'
theorem Fc.come{d:Dfa}{cls:aj}{w:Nat}{R:aY}(h:Fc d cls w R): ∀j,0<j->j<d.next.length-> ∃c,c<j * 256/\Iq d c=((j:Nat):Int):=by
  intro j h0 hj;have hl:=h.len;have hcl:=h.cl;obtain ⟨m,h1,h2⟩:=h.cm j (by omega);obtain ⟨a,ha,hv⟩:=Na h1 j h2;have hrow: ∀r∈R.take j,r.length=w:=λr hr=>h.row r (List.mem_of_mem_take hr);rw [List.length_cons,n5_ hrow]at ha;cases a with
  |zero=>
    have h0:(0:Int)=((j:Nat):Int):=hv;omega
  |succ a=>
    have hv':nth (R.take j).flatten a (0:Int)=((j:Nat):Int):=hv;obtain ⟨s',c',k1,k2,rfl⟩:=x2_ (w:=w) (n:=(R.take j).length) (p:=a) (by omega);rw [k5_ hrow k1 k2]at hv';rw [List.length_take]at k1;obtain ⟨b',q1,q2⟩:=Na h.cnt c' k2;refine ⟨s' * 256+b',by omega,?_⟩;unfold Iq;rw [show (s' * 256+b') / 256=s' by omega,show (s' * 256+b') % 256=b' by omega,h.at_ _ _ (by omega) (by omega),q2,iI,<-hv'];congr 1;unfold nth;rw [List.getD_eq_getElem?_getD,List.getD_eq_getElem?_getD,List.getElem?_take_of_lt (by omega)]
theorem min_can{d:Dfa}(h:jU d=true): ∃m,Ja_ d=some (m,0)/\CanD m/\fU m 0=fU d 0:=by
  obtain ⟨w,hd⟩:=DR.of h;obtain ⟨l,el,hR⟩:=vt_ hd;obtain ⟨g,n,eg,hG⟩:=x0_ hd hR;obtain ⟨states,rows,v,es,hA,hC⟩:=aam_ hd hR hG;obtain ⟨k1,k2⟩:=min_ok hd hR hG hA hC;obtain ⟨place,hS⟩:=hA.si;have k3:=k2 0 hS.zero.1;rw [hS.zero.2]at k3;have hlen:=hA.len;have hcl:=hd.cl;have hCl:=hC.len;have hnext:(zD d states rows v).next.length=states.length:=by
    show (rows.map _).length=_;rw [List.length_map];exact hlen
  have hrw: ∀r∈rows,r.length=w:=λr hr=>by
    obtain ⟨k,hk,rfl⟩:=DN (d:=([]:aj)) hr;exact (hA.row k (by omega)).1
  have hdl: ∀s b,s<rows.length->b<256->mM (zD d states rows v) ((s:Nat):Int) b=nth (nth rows s ([]:aj)) (nth d.cls b (0:Int)).toNat (0:Int):=λs b hs hb=>by
    have hc:=(DT d.cls 0 w hd.cnt).2 _ (jB (l:=d.cls) (i:=b) (by omega) (0:Int));obtain ⟨c,hce⟩: ∃c:Nat,nth d.cls b (0:Int)=((c:Nat):Int):=⟨(nth d.cls b (0:Int)).toNat,by omega⟩;obtain ⟨j,f,h1,h2,h3,h4,h5⟩:=hC.at_ c (by omega);unfold mM;rw [iI];show nth (nth (rows.map _) s ([]:aj)) (nth (d.cls.map _) b (0:Int)).toNat (0:Int)=_;rw [C9 _ _ _ (0:Int) (0:Int) (by omega),C9 _ _ _ ([]:aj) ([]:aj) hs,hce,iI,h2,iI,C9 _ _ _ (0:Int) (0:Int) h1,h3,iI];exact h5 _ (jB hs ([]:aj))
  have hfc:Fc (zD d states rows v) d.cls w rows:=⟨hcl,hd.cnt,by rw [hnext];exact hlen,hrw,hdl,by rw [hlen];exact hA.fc,λk hk=>hA.cm k (by omega)⟩;refine ⟨zD d states rows v,?_,⟨k1,hfc.first,hfc.come,λs t hs ht e=> ?_,λb c hb hc e=> ?_⟩,k3⟩
  · unfold Ja_
    rw [lk_,gq,if_pos h,bK (by simp),iy el,iy eg];dsimp only;rw [iy es]
  · rw [k2 s (by omega),k2 t (by omega)]at e
    obtain ⟨h1,h2⟩:=hS.st s (by omega);obtain ⟨h3,h4⟩:=hS.st t (by omega);rw [hG.like _ h1 _ h3 e,h4]at h2;omega
  have hb':=(DT d.cls 0 w hd.cnt).2 _ (jB (l:=d.cls) (i:=b) (by omega) (0:Int));have hc':=(DT d.cls 0 w hd.cnt).2 _ (jB (l:=d.cls) (i:=c) (by omega) (0:Int));show nth (d.cls.map _) b (0:Int)=nth (d.cls.map _) c (0:Int);rw [C9 _ _ _ (0:Int) (0:Int) (by omega),C9 _ _ _ (0:Int) (0:Int) (by omega)];refine hC.eq_ _ _ (by omega) (by omega) λr hr=> ?_;obtain ⟨s,hs,rfl⟩:=DN (d:=([]:aj)) hr;rw [<-hdl s b hs hb,<-hdl s c hs hc];exact e s (by omega)
end Go.Proofs.YtcfgkcfcddfccaaGreatDoor
end

noncomputable section
namespace Go.Proofs.YtcfgkcfcddfccaaGreatDoor
open Go Go.E
theorem nd_inj{l:aj}(h:l.Nodup){i j:Nat}(hi:i<l.length)(hj:j<l.length)(e:nth l i (0:Int)=nth l j 0):i=j:=by
  have h1:=getD_some l hi (0:Int);have h2:=getD_some l hj (0:Int);exact (List.getElem?_inj (j:=j) hi h).1 (by rw [h1,h2,e])
def cel(U:List B_1)(i k:Nat):Bool:=nth (nth U i ([]:B_1)) k false
theorem cel_set{U:List B_1}{i k:Nat}(hi:i<U.length)(hk:k<(nth U i ([]:B_1)).length)(a b:Nat):cel (U.set i ((nth U i ([]:B_1)).set k true)) a b=if i=a/\k=b then true else cel U a b:=by
  unfold cel;rw [nI]
  by_cases e:i=a
  · subst e
    rw [if_pos ⟨rfl,hi⟩,nI]
    by_cases e2:k=b
    · subst e2;rw [if_pos ⟨rfl,hk⟩,if_pos ⟨rfl,rfl⟩]
    rw [if_neg (λq=>e2 q.1),if_neg (λq=>e2 q.2)]
  rw [if_neg (λq=>e q.1),if_neg (λq=>e q.1)]
theorem py_: ∀{l:List Nat} {i x:Nat},i<l.length->x<nth l i 0->(l.set i x).sum<l.sum
  |[],i,x,h,_=>absurd h (Nat.not_lt_zero _)
  |y::l,0,x,_,h=>by
    have h':x<y:=h;rw [List.set_cons_zero,List.sum_cons,List.sum_cons];omega
  |y::l,i+1,x,hi,h=>by
    rw [List.set_cons_succ,List.sum_cons,List.sum_cons];have:=py_ (l:=l) (i:=i) (x:=x) (by rw [List.length_cons]at hi;omega) h;omega
def MR(U:List B_1):Nat:=(U.map λr=>r.count false).sum
theorem z0_{U:List B_1}{i k:Nat}(hi:i<U.length)(hk:k<(nth U i ([]:B_1)).length)(h:cel U i k=false):MR (U.set i ((nth U i ([]:B_1)).set k true))<MR U:=by
  unfold MR;rw [List.map_set];refine py_ (by rw [List.length_map];exact hi) ?_;rw [C9 _ _ _ ([]:B_1) 0 hi];unfold cel at h;generalize nth U i ([]:B_1)=l at hk h;have h2:l[k]=false:=by have:=getD_some l hk false;rw [List.getElem?_eq_getElem hk,h]at this;exact Option.some.inj this
  have h3:0<l.count false:=List.count_pos_iff.2 (h2▸List.getElem_mem hk);rw [List.count_set hk,h2];simp only [beq_self_eq_true,if_true,show (true == false)=false from rfl,Bool.false_eq_true,if_false,Nat.add_zero];omega
structure UOk (d:Dfa) (U:List B_1):Prop where
  len:U.length=d.next.length
  row: ∀i,i<d.next.length->(nth U i ([]:B_1)).length=d.next.length
  snd: ∀i k:Nat,i<d.next.length->k<d.next.length->cel U i k=true->fU d ((i:Nat):Int)≠fU d ((k:Nat):Int)
  bas: ∀i k:Nat,i<d.next.length->k<d.next.length->nth d.fin i false≠nth d.fin k false->cel U i k=true
def Stb(d:Dfa)(w:Nat)(U:List B_1)(s u:Nat):Prop:=cel U s u=false-> ∀c,c<w->cel U (nx d ((s:Nat):Int) c).toNat (nx d ((u:Nat):Int) c).toNat=false
structure PsI (d:Dfa) (w:Nat) (U0:List B_1) (i k:Nat) (U:List B_1) (t:Bool):Prop where
  a:UOk d U
  no:t=false->U=U0/\ ∀s u,s<d.next.length->u<d.next.length->(s<i\/s=i/\u<k)->Stb d w U s u
  yes:t=true->MR U<MR U0
section
variable {d:Dfa} {w:Nat} (hd:DR d w)
include hd
theorem ap_b6 {U0 : List B_1} {i k : Nat} (hi : i < d.next.length) (hk : k < d.next.length) {U : List B_1} {t : Bool} (h : PsI d w U0 i k U t) :
    ∃U' t',aV (λq:(List B_1)×Bool×Nat=>U5 d i k q.1 q.2.1 q.2.2) (U,t,0)=some (.inl (U',t',k+1))/\PsI d w U0 i (k+1) U' t':=by
  have hwi:=(hd.row i hi).1;have hwk:=(hd.row k hk).1;obtain ⟨r,e,U',t',rfl,h'⟩:=fC (step:=λq:(List B_1)×Bool×Nat=>U5 d i k q.1 q.2.1 q.2.2) (λ(z:(List B_1)×Bool) c=>(z.1,z.2,c)) w
    (λc z=>PsI d w U0 i k z.1 z.2/\(z.2=false->cel z.1 i k=false-> ∀c',c'<c->cel z.1 (nx d ((i:Nat):Int) c').toNat (nx d ((k:Nat):Int) c').toNat=false))
    (λr=> ∃U' t',r= .inl (U',t',k+1)/\PsI d w U0 i (k+1) U' t')
    (λc z hc hI=>by
      obtain ⟨U,t⟩:=z;obtain ⟨hA,hB⟩:=hI;dsimp only at hA hB;have hl:=hA.a.len;have hr:=hA.a.row i hi;obtain ⟨x0,x1⟩:=hd.Hz (s:=((i:Nat):Int)) ⟨by omega,by omega⟩ hc;obtain ⟨y0,y1⟩:=hd.Hz (s:=((k:Nat):Int)) ⟨by omega,by omega⟩ hc;have e1:nth (nth d.next i ([]:aj)) c (0:Int)=nx d ((i:Nat):Int) c:=rfl;have e2:nth (nth d.next k ([]:aj)) c (0:Int)=nx d ((k:Nat):Int) c:=rfl;have hrx:=hA.a.row (nx d ((i:Nat):Int) c).toNat (by omega);left;show ∃s':(List B_1)×Bool,U5 d i k U t c=some (.inl (s'.1,s'.2,c+1))/\_;have keep:(cel U i k=false->cel U (nx d ((i:Nat):Int) c).toNat (nx d ((k:Nat):Int) c).toNat=false)->(t=false->cel U i k=false-> ∀c',c'<c+1->cel U (nx d ((i:Nat):Int) c').toNat (nx d ((k:Nat):Int) c').toNat=false):=λhh ht hf c' hc'=>by
        by_cases e:c'=c
        · subst e;exact hh hf
        exact hB ht hf c' (by omega)
      unfold U5;rw [hwi,bY (by omega),aQ (by omega),aQ (by omega),e1,e2];cases c1:cel U i k with
      |true=>
        have c1':nth (nth U i ([]:B_1)) k false=true:=c1;rw [c1',Bool.not_true,iteO_false];exact ⟨(U,t),rfl,hA,keep λq=>by rw [c1]at q;cases q⟩
      | false =>
        have c1':nth (nth U i ([]:B_1)) k false=false:=c1;rw [c1',Bool.not_false,iteO_true,aQ (by omega),aQ (by omega),aQ (by omega)];cases c2:cel U (nx d ((i:Nat):Int) c).toNat (nx d ((k:Nat):Int) c).toNat with
        |false=>
          have c2':nth (nth U (nx d ((i:Nat):Int) c).toNat ([]:B_1)) (nx d ((k:Nat):Int) c).toNat false=false:=c2;rw [c2',iteO_false];exact ⟨(U,t),rfl,hA,keep λ_=>c2⟩
        |true=>
          have c2':nth (nth U (nx d ((i:Nat):Int) c).toNat ([]:B_1)) (nx d ((k:Nat):Int) c).toNat false=true:=c2;rw [c2',iteO_true,aQ (by omega),aQ (by omega)];have hs:=cel_set (U:=U) (i:=i) (k:=k) (by omega) (by omega);refine ⟨(U.set i ((nth U i ([]:B_1)).set k true),true),rfl,⟨⟨by rw [eX];exact hl,λa ha=> ?_,λa b ha hb hx=> ?_,λa b ha hb hx=> ?_⟩,λq=>(by cases q),λ_=> ?_⟩,λq=>by cases q⟩
          · rw [nI]
            by_cases e:i=a
            · rw [if_pos ⟨e,by omega⟩,eX];exact hr
            rw [if_neg (λq=>e q.1)];exact hA.a.row a ha
          · rw [hs]at hx
            by_cases e:i=a/\k=b
            · obtain ⟨rfl,rfl⟩:=e
              intro q;have h1:=hA.a.snd _ _ (by omega) (by omega) c2;rw [Int.toNat_of_nonneg x0,Int.toNat_of_nonneg y0]at h1;exact h1 (lan_nx hd q hc)
            rw [if_neg e]at hx;exact hA.a.snd a b ha hb hx
          · rw [hs]
            by_cases e:i=a/\k=b
            · rw [if_pos e]
            rw [if_neg e];exact hA.a.bas a b ha hb hx
          have h1:=z0_ (U:=U) (i:=i) (k:=k) (by omega) (by omega) c1;show MR (U.set i _)<MR U0;cases ht:t with
          |true=>have:=hA.yes ht;omega
          |false=>rw [(hA.no ht).1]at h1 ⊢;exact h1)
    (λz hI=>by
      obtain ⟨U,t⟩:=z;obtain ⟨hA,hB⟩:=hI;dsimp only at hA hB;refine ⟨_,?_,U,t,rfl,hA.a,λht=>⟨(hA.no ht).1,λs u hs hu hc=> ?_⟩,hA.yes⟩
      · show U5 d i k U t w=_
        unfold U5;rw [hwi,bK (by omega)];rfl
      by_cases e:s<i\/s=i/\u<k
      · exact (hA.no ht).2 s u hs hu e
      obtain rfl:s=i:=by omega
      obtain rfl:u=k:=by omega
      exact λq=>hB ht q)
    (s0:=(U,t)) ⟨h,λ_ _ c' hc'=>by cases hc'⟩
  exact ⟨U',t',e,h'⟩
theorem ap_b5{U0:List B_1}{i:Nat}(hi:i<d.next.length){U:List B_1}{t:Bool}(h:PsI d w U0 i 0 U t):
    ∃U' t',aV (λq:(List B_1)×Bool×Nat=>UZ d i q.1 q.2.1 q.2.2) (U,t,0)=some (.inl (U',t',i+1))/\PsI d w U0 (i+1) 0 U' t':=by
  obtain ⟨r,e,U',t',rfl,h'⟩:=fC (step:=λq:(List B_1)×Bool×Nat=>UZ d i q.1 q.2.1 q.2.2) (λ(z:(List B_1)×Bool) k=>(z.1,z.2,k)) d.next.length (λk z=>PsI d w U0 i k z.1 z.2) (λr=> ∃U' t',r= .inl (U',t',i+1)/\PsI d w U0 (i+1) 0 U' t')
    (λk z hk hI=>by
      obtain ⟨U,t⟩:=z;obtain ⟨U',t',e,h'⟩:=ap_b6 hd hi hk hI;refine .inl ⟨(U',t'),?_,h'⟩;show UZ d i U t k=_;unfold UZ;rw [bY (by omega)];exact e)
    (λz hI=>by
      obtain ⟨U,t⟩:=z;have hI:PsI d w U0 i d.next.length U t:=hI;refine ⟨_,?_,U,t,rfl,hI.a,λht=>⟨(hI.no ht).1,λs u hs hu hc=>(hI.no ht).2 s u hs hu (by omega)⟩,hI.yes⟩;show UZ d i U t d.next.length=_;unfold UZ;rw [bK (by omega)];rfl) (s0:=(U,t)) h
  exact ⟨U',t',e,h'⟩
theorem ap_b4{U0:List B_1}(h:UOk d U0):
    ∃U' t',aV (λq:(List B_1)×Bool×Nat=>U4 d q.1 q.2.1 q.2.2) (U0,false,0)=some (.inl (U',t'))/\PsI d w U0 d.next.length 0 U' t':=by
  obtain ⟨r,e,U',t',rfl,h'⟩:=fC (step:=λq:(List B_1)×Bool×Nat=>U4 d q.1 q.2.1 q.2.2) (λ(z:(List B_1)×Bool) i=>(z.1,z.2,i)) d.next.length (λi z=>PsI d w U0 i 0 z.1 z.2) (λr=> ∃U' t',r= .inl (U',t')/\PsI d w U0 d.next.length 0 U' t')
    (λi z hi hI=>by
      obtain ⟨U,t⟩:=z;obtain ⟨U',t',e,h'⟩:=ap_b5 hd hi hI;refine .inl ⟨(U',t'),?_,h'⟩;show U4 d U t i=_;unfold U4;rw [bY (by omega)];exact e)
    (λz hI=>by
      obtain ⟨U,t⟩:=z;refine ⟨_,?_,U,t,rfl,hI⟩;show U4 d U t d.next.length=_;unfold U4;rw [bK (by omega)];rfl) (s0:=(U0,false)) ⟨h,λ_=>⟨rfl,λs u _ _ q=>by omega⟩,λq=>by cases q⟩
  exact ⟨U',t',e,h'⟩
theorem aab_ : ∃ U, E0_ d = some U /\ U.length = d.next.length /\ (∀ i, i < d.next.length -> (nth U i ([] : B_1)).length = d.next.length) /\ ∀ i k : Nat, i < d.next.length -> k < d.next.length -> (cel U i k = false ↔ fU d ((i : Nat) : Int) = fU d ((k : Nat) : Int)) := by
  have hn2:=hd.n2;have hfin:=hd.fin;unfold E0_;obtain ⟨r,e,h1,h2⟩:=fC (step:=λq:(List B_1)×Nat=>Zb d q.1 q.2) (λ(U:List B_1) i=>(U,i)) d.next.length (λi U=>U.length=i/\ ∀a,a<i->nth U a ([]:B_1)=(List.range d.next.length).map λb=>nth d.fin a false != nth d.fin b false) (λU=>UOk d U/\ ∀s u,s<d.next.length->u<d.next.length->Stb d w U s u)
    (λi U hi hI=>by
      obtain ⟨h1,h2⟩:=hI;obtain ⟨r,e,rfl⟩:=fC (step:=λq:B_1×Nat=>Y1 d i U q.1 q.2) (λ(x:B_1) k=>(x,k)) d.next.length (λk x=>x.length=d.next.length/\ ∀b,b<k->nth x b false=(nth d.fin i false != nth d.fin b false)) (λr=>r= .inl (U++[(List.range d.next.length).map λb=>nth d.fin i false != nth d.fin b false],i+1))
        (λk x hk hx=>by
          obtain ⟨x1,x2⟩:=hx;refine .inl ⟨x.set k (nth d.fin i false != nth d.fin k false),?_,by rw [eX];exact x1,λb hb=> ?_⟩
          · show Y1 d i U x k=_
            unfold Y1;rw [bY (by omega),aQ (by omega),aQ (by omega),aQ (by omega)];rfl
          rw [nI]
          by_cases e:k=b
          · subst e;rw [if_pos ⟨rfl,by omega⟩]
          rw [if_neg (λq=>e q.1)];exact x2 b (by omega))
        (λx hx=>by
          obtain ⟨x1,x2⟩:=hx;refine ⟨_,?_,rfl⟩;have hxe:x=(List.range d.next.length).map λb=>nth d.fin i false != nth d.fin b false:=Q7 false (by rw [List.length_map,List.length_range];exact x1) λb hb=>by
            rw [x2 b (by omega),C9 _ _ _ 0 false (by rw [List.length_range];omega)];rw [s5_ (by omega)]
          show Y1 d i U x d.next.length=_;unfold Y1;rw [bK (by omega),aQ (by rw [dN];omega),hxe];rfl)
        (s0:=List.replicate d.next.length false) ⟨lq,λb hb=>by cases hb⟩
      refine .inl ⟨U++[(List.range d.next.length).map λb=>nth d.fin i false != nth d.fin b false],?_,by rw [gu,dN,h1],λa ha=> ?_⟩
      · show Zb d U i=_
        unfold Zb;rw [bY (by omega),aQ (by omega)];exact e
      by_cases ea:a=i
      · subst ea;rw [<-h1,sG,h1]
      rw [rY _ _ _ _ (by omega)];exact h2 a (by omega))
    (λU hI=>by
      obtain ⟨h1,h2⟩:=hI;have hcel: ∀a b,a<d.next.length->b<d.next.length->cel U a b=(nth d.fin a false != nth d.fin b false):=λa b ha hb=>by
        unfold cel;rw [h2 a ha,C9 _ _ _ 0 false (by rw [List.length_range];omega)];rw [s5_ hb]
      have hU:UOk d U:=⟨h1,λa ha=>by rw [h2 a ha,List.length_map,List.length_range],λa b ha hb hx q=>(by
        have h3:nth d.fin a false=nth d.fin b false:=congrFun q [];rw [hcel a b ha hb,h3,bne_self_eq_false]at hx;cases hx),λa b ha hb hx=>by rw [hcel a b ha hb,bne_iff_ne];exact hx⟩
      obtain ⟨r,e,h3⟩:=Ho (step:=λq:(List B_1)×Bool=>Cq_ d q.1 q.2) (λs=>UOk d s.1/\(s.2=false-> ∀a b,a<d.next.length->b<d.next.length->Stb d w s.1 a b)) (λU=>UOk d U/\ ∀s u,s<d.next.length->u<d.next.length->Stb d w U s u) (λs=>2 * MR s.1+if s.2=true then 1 else 0)
        (λs hI=>by
          obtain ⟨U,t⟩:=s;obtain ⟨hA,hB⟩:=hI;dsimp only at hA hB;show (∃s',Cq_ d U t=_/\_)\/ ∃r,Cq_ d U t=_/\_;unfold Cq_;cases t with
          |false=>rw [iteO_false];exact .inr ⟨U,rfl,hA,hB rfl⟩
          |true=>
            rw [iteO_true];obtain ⟨U',t',e,h'⟩:=ap_b4 hd hA;refine .inl ⟨(U',t'),e,⟨h'.a,λht a b ha hb=>(h'.no ht).2 a b ha hb (.inl ha)⟩,?_⟩;show 2 * MR U'+(if t'=true then 1 else 0)<2 * MR U+(if true=true then 1 else 0);rw [if_pos rfl];cases ht:t' with
            |true=>have:=h'.yes ht;rw [if_pos rfl];omega
            |false=>rw [(h'.no ht).1,if_neg (by simp)];omega)
        (U,true) ⟨hU,λq=>by cases q⟩
      refine ⟨r,?_,h3⟩;show Zb d U d.next.length=_;unfold Zb;rw [bK (by omega),e];rfl)
    (s0:=[]) ⟨rfl,λa ha=>by cases ha⟩
  refine ⟨r,e,h1.len,h1.row,λi k hi hk=>⟨λhc=> ?_,λq=> ?_⟩⟩
  · have key: ∀(u:T_1) (i k:Nat),i<d.next.length->k<d.next.length->cel r i k=false->fU d ((i:Nat):Int) u=fU d ((k:Nat):Int) u:=by
      intro u
      induction u with
      |nil=>
        intro i k hi hk hc;show nth d.fin i false=nth d.fin k false;apply Decidable.byContradiction;intro q;rw [h1.bas i k hi hk q]at hc;cases hc
      |cons b u ih=>
        intro i k hi hk hc;have hb:=UInt8.toNat_lt b;have hcl:=hd.cl;have hcb:=(DT d.cls 0 w hd.cnt).2 _ (jB (l:=d.cls) (i:=b.toNat) (by omega) (0:Int));have hcw:(nth d.cls b.toNat (0:Int)).toNat<w:=by omega
        have e1: ∀s:Int,dlt d s b=nx d s (nth d.cls b.toNat (0:Int)).toNat:=λs=>rfl;obtain ⟨x0,x1⟩:=hd.Hz (s:=((i:Nat):Int)) ⟨by omega,by omega⟩ hcw;obtain ⟨y0,y1⟩:=hd.Hz (s:=((k:Nat):Int)) ⟨by omega,by omega⟩ hcw;have h3:=ih _ _ (by omega) (by omega) (h2 i k hi hk hc _ hcw);rw [Int.toNat_of_nonneg x0,Int.toNat_of_nonneg y0]at h3;show fU d (dlt d ((i:Nat):Int) b) u=fU d (dlt d ((k:Nat):Int) b) u;rw [e1,e1];exact h3
    exact funext λu=>key u i k hi hk hc
  cases c:cel r i k with
  |false=>rfl
  |true=>exact absurd q (h1.snd i k hi hk c)
end
def kv(K:aj)(s:Int):Int:=nth K s.toNat (0:Int)
structure LkI (d:Dfa) (K:aj):Prop where
  len:K.length=d.next.length
  at_: ∀i:Nat,i<d.next.length-> ∃m:Nat,nth K i (0:Int)=((m:Nat):Int)/\m<=i/\fU d ((i:Nat):Int)=fU d ((m:Nat):Int)/\ ∀k:Nat,k<m->fU d ((i:Nat):Int)≠fU d ((k:Nat):Int)
theorem LkI.ok{d:Dfa}{K:aj}(h:LkI d K){s:Int}(hs:okS d s):okS d (kv K s)/\fU d (kv K s)=fU d s:=by
  obtain ⟨h0,h1⟩:=hs;obtain ⟨m,k1,k2,k3, -⟩:=h.at_ s.toNat (by omega);rw [Int.toNat_of_nonneg h0]at k3;unfold kv;rw [k1];exact ⟨⟨by omega,by omega⟩,k3.symm⟩
theorem LkI.eq{d:Dfa}{K:aj}(h:LkI d K){s t:Int}(hs:okS d s)(ht:okS d t):kv K s=kv K t↔fU d s=fU d t:=by
  constructor
  · intro e
    rw [<-(h.ok hs).2,<-(h.ok ht).2,e]
  intro e;obtain ⟨h0,h1⟩:=hs;obtain ⟨h2,h3⟩:=ht;obtain ⟨m,k1,k2,k3,k4⟩:=h.at_ s.toNat (by omega);obtain ⟨m',q1,q2,q3,q4⟩:=h.at_ t.toNat (by omega);rw [Int.toNat_of_nonneg h0]at k3 k4;rw [Int.toNat_of_nonneg h2]at q3 q4;unfold kv;rw [k1,q1];rcases Nat.lt_trichotomy m m' with c|c|c
  · exact absurd (e.symm.trans k3) (q4 m c)
  · rw [c]
  exact absurd (e.trans q3) (k4 m' c)
theorem LkI.idem{d:Dfa}{K:aj}(h:LkI d K){s:Int}(hs:okS d s):kv K (kv K s)=kv K s:=(h.eq (h.ok hs).1 hs).2 (h.ok hs).2
structure SnI (d:Dfa) (w:Nat) (K l:aj):Prop where
  nd:l.Nodup
  ok: ∀s∈l,okS d s
  gen: ∀P:Int->Prop,P (kv K 0)->(∀s c,P s->okS d s->c<w->P (kv K (nx d s c)))-> ∀s∈l,P s
structure SnF (d:Dfa) (w:Nat) (K l:aj):Prop extends SnI d w K l where
  zero:kv K 0∈l
  cl: ∀s∈l, ∀c,c<w->kv K (nx d s c)∈l
def EqC(d:Dfa)(K l:aj)(a b:Nat):Prop:= ∀s∈l,kv K (nx d s (nth d.cls a (0:Int)).toNat)=kv K (nx d s (nth d.cls b (0:Int)).toNat)
theorem ra_(d:Dfa)(K l:aj):EqvE (EqC d K l):=⟨λa s _=>rfl,λh s hs=>(h s hs).symm,λh k s hs=>(h s hs).trans (k s hs)⟩
structure OrI (d:Dfa) (K l G ord:aj) (R:aY) (Z:B_1) (k:Nat):Prop where
  nd:ord.Nodup
  sub: ∀s∈ord,s∈l
  zero:0<ord.length/\nth ord 0 (0:Int)=kv K 0
  kle:k<=ord.length
  len:R.length=k
  fin:Z=(ord.take k).map λs=>nth d.fin s.toNat false
  row: ∀i,i<k->(nth R i ([]:aj)).length=G.length/\ ∀c,c<G.length-> ∃j:Nat,nth (nth R i ([]:aj)) c (0:Int)=((j:Nat):Int)/\j<ord.length/\nth ord j (0:Int)=kv K (nx d (nth ord i (0:Int)) (nth d.cls (nth G c (0:Int)).toNat (0:Int)).toNat)
  fc:fH ((0:Int)::R.flatten)=some ord.length
  cm: ∀i,i<k-> ∃m,fH ((0:Int)::(R.take i).flatten)=some m/\i<m
section
variable {d:Dfa} {w:Nat} (hd:DR d w) {K:aj} (hK:LkI d K)
include hd hK
theorem cls_w{b:Nat}(hb:b<256):0<=nth d.cls b (0:Int)/\(nth d.cls b (0:Int)).toNat<w:=by
  have hcl:=hd.cl;have hcb:=(DT d.cls 0 w hd.cnt).2 _ (jB (l:=d.cls) (i:=b) (by omega) (0:Int));omega
theorem min_b8 {l : aj} (hl : ∀ s ∈ l, okS d s) {F : aj} {b : Nat} (hb : b < 256) {i : Nat} (hi : i < F.length) {f : Nat} (hf : f < 256) (hfe : nth F i (0 : Int) = ((f : Nat) : Int)) (a : Int) :
    ∃t:Bool,(t=true↔EqC d K l b f)/\aV (λq:Bool×Nat=>UJ l d b K ((i:Nat):Int) F a q.1 q.2) (true,0)=some (.inl (if t=true then ((i:Nat):Int) else a,IntKind.i64.wrap (((i:Nat):Int) - 1))):=by
  have hcl:=hd.cl;have hKl:=hK.len;obtain ⟨b0,b1⟩:=cls_w hd hK hb;obtain ⟨f0,f1⟩:=cls_w hd hK hf;obtain ⟨r,e,t,ht,rfl⟩:=fC (step:=λq:Bool×Nat=>UJ l d b K ((i:Nat):Int) F a q.1 q.2) (λ(t:Bool) k=>(t,k)) l.length (λk t=>t=true↔ ∀s∈l.take k,kv K (nx d s (nth d.cls b (0:Int)).toNat)=kv K (nx d s (nth d.cls f (0:Int)).toNat)) (λr=> ∃t:Bool,(t=true↔EqC d K l b f)/\r= .inl (if t=true then ((i:Nat):Int) else a,IntKind.i64.wrap (((i:Nat):Int) - 1)))
    (λk t hk hI=>by
      left;show ∃s',UJ l d b K ((i:Nat):Int) F a t k=_/\_;have hs:=hl _ (jB hk (0:Int));obtain ⟨s,hse⟩: ∃s,nth l k (0:Int)=s:=⟨_,rfl⟩;rw [hse]at hs;have hlen:=hd.len hs;obtain ⟨x0,x1⟩:=hd.Hz hs b1;obtain ⟨y0,y1⟩:=hd.Hz hs f1;have x0':0<=nth (nth d.next s.toNat ([]:aj)) (nth d.cls b (0:Int)).toNat (0:Int):=x0;have x1':nth (nth d.next s.toNat ([]:aj)) (nth d.cls b (0:Int)).toNat (0:Int)<((d.next.length:Nat):Int):=x1;have y0':0<=nth (nth d.next s.toNat ([]:aj)) (nth d.cls f (0:Int)).toNat (0:Int):=y0;have y1':nth (nth d.next s.toNat ([]:aj)) (nth d.cls f (0:Int)).toNat (0:Int)<((d.next.length:Nat):Int):=y1;unfold UJ;obtain ⟨s0,s1⟩:=hs;rw [bY (by omega),hse,aQ ⟨s0,s1⟩,jS _ hk (0:Int),hse];cases t with
      |false=>
        rw [iteO_false];refine ⟨false,rfl,λq=>(by cases q),λq=> ?_⟩;have:=hI.2 λz hz=>q z (List.mem_append_left _ hz);cases this
      |true=>
        have h1:=hI.1 rfl;rw [iteO_true,aQ (by omega),aQ (by omega),aQ (by omega),aQ (by omega),iI,hfe,aQ (by omega),iI,aQ (by omega),aQ (by omega)];refine ⟨_,rfl,?_⟩;rw [dA];constructor
        · intro q z hz
          rcases List.mem_append.1 hz with hz|hz
          · exact h1 z hz
          rw [List.mem_singleton.1 hz];exact q
        intro q;exact q s (List.mem_append_right _ (List.mem_singleton.2 rfl)))
    (λt hI=>by
      rw [List.take_length]at hI;refine ⟨_,?_,t,hI,rfl⟩;show UJ l d b K ((i:Nat):Int) F a t l.length=_;unfold UJ;rw [bK (by omega)];cases t
      · rfl
      rfl)
    (s0:=true) (by simp)
  exact ⟨t,ht,e⟩
theorem min_b11 {ord : aj} (hon : ord.length <= 100000) {k c : Nat} {G row : aj} {to : Int} (hto : nth K ((nth (nth d.next ((nth ord k (0 : Int)).toNat) ([] : aj)) ((nth d.cls ((nth G c (0 : Int)).toNat) (0 : Int)).toNat) (0 : Int)).toNat) (0 : Int) = to) (hrl : row.length <= 100000) :
    ∃(j:Nat) (ord':aj),aV (λq:Nat×Nat=>Ny ord K d k G c row q.1 q.2) (ord.length,0)=some (.inl (ord',row++[((j:Nat):Int)],c+1))/\(to∉ord/\j=ord.length/\ord'=ord++[to]\/j<ord.length/\nth ord j (0:Int)=to/\ord'=ord):=by
  obtain ⟨r,e,j,ord',rfl,h⟩:=fC (step:=λq:Nat×Nat=>Ny ord K d k G c row q.1 q.2) (λ(a:Nat) i=>(a,i)) ord.length (λi a=>to∉ord.take i/\a=ord.length\/a<ord.length/\nth ord a (0:Int)=to) (λr=> ∃(j:Nat) (ord':aj),r= .inl (ord',row++[((j:Nat):Int)],c+1)/\(to∉ord/\j=ord.length/\ord'=ord++[to]\/j<ord.length/\nth ord j (0:Int)=to/\ord'=ord))
    (λi a hi hI=>by
      left;show ∃s',Ny ord K d k G c row a i=_/\_;unfold Ny;rw [bY (by omega),hto]
      by_cases e:nth ord i (0:Int)=to
      · rw [bY e];exact ⟨i,rfl,.inr ⟨hi,e⟩⟩
      rw [bK e];refine ⟨a,rfl,hI.imp (λh=>⟨λq=> ?_,h.2⟩) id⟩;rw [jS _ hi (0:Int)]at q;rcases List.mem_append.1 q with q|q
      · exact h.1 q
      exact e (List.mem_singleton.1 q).symm)
    (λa hI=>by
      rw [List.take_length]at hI;show ∃r,Ny ord K d k G c row a ord.length=_/\_;unfold Ny El_;rw [bK (by omega),hto];rcases hI with ⟨h1,rfl⟩|⟨h1,h2⟩
      · rw [bY rfl,aQ (by rw [dN];omega),aQ (by rw [dN];omega)]
        exact ⟨_,rfl,_,_,rfl,.inl ⟨h1,rfl,rfl⟩⟩
      rw [bK (by omega),aQ (by rw [dN];omega)];exact ⟨_,rfl,_,_,rfl,.inr ⟨h1,h2,rfl⟩⟩)
    (s0:=ord.length) (.inl ⟨by simp,rfl⟩)
  exact ⟨j,ord',e,h⟩
theorem min_b9 {l : aj} (hl : SnF d w K l) {cls' G : aj} (hG : FcI (EqC d K l) 256 cls' G) {s0 : aY × B_1 × aj × Nat} (h : OrI d K l G s0.2.2.1 s0.1 s0.2.1 s0.2.2.2) :
    ∃r,aV (λq:aY×B_1×aj×Nat=>Nw G d K cls' q.1 q.2.1 q.2.2.1 q.2.2.2) s0=some r/\ ∃ord R Z,r=(⟨cls',R,Z⟩,0)/\OrI d K l G ord R Z ord.length:=by
  have hcl:=hd.cl;have hKl:=hK.len;have hn2:=hd.n2;have hfin:=hd.fin;have hGl:=hG.le;have bound: ∀{ord:aj},ord.Nodup->(∀s∈ord,s∈l)->ord.length<=1024:=λ{ord} h1 h2=>by
    have:=MX h1 λs hs=>hl.ok s (h2 s hs);omega
  refine Ho (step:=λq:aY×B_1×aj×Nat=>Nw G d K cls' q.1 q.2.1 q.2.2.1 q.2.2.2) (λs=>OrI d K l G s.2.2.1 s.1 s.2.1 s.2.2.2) (λr=> ∃ord R Z,r=(⟨cls',R,Z⟩,0)/\OrI d K l G ord R Z ord.length) (λs=>2000 - s.2.2.2) (λs hI=> ?_) s0 h;obtain ⟨R,Z,ord,k⟩:=s;have hI:OrI d K l G ord R Z k:=hI;have hb:=bound hI.nd hI.sub;have hkl:=hI.kle;have hRl:=hI.len;have hZl:Z.length=k:=by rw [hI.fin,List.length_map,List.length_take];omega
  show (∃s',Nw G d K cls' R Z ord k=_/\_)\/ ∃r,Nw G d K cls' R Z ord k=_/\_;unfold Nw
  by_cases hk:k<ord.length
  · rw [bY  (by omega)]
    obtain ⟨s,hse⟩: ∃s,nth ord k (0:Int)=s:=⟨_,rfl⟩;have hsl:s∈l:=by rw [<-hse];exact hI.sub _ (jB hk (0:Int))
    have hs:=hl.ok s hsl;obtain ⟨r,e,ord',row,rfl,g1,g2,g3,g4,g5,g6⟩:=fC (step:=λq:aj×aj×Nat=>P6 G k d K R Z q.1 q.2.1 q.2.2) (λ(z:aj×aj) c=>(z.1,z.2,c)) G.length
      (λc z=>z.1.Nodup/\(∀x∈z.1,x∈l)/\ord <+: z.1/\z.2.length=c/\fH ((0:Int)::R.flatten++z.2)=some z.1.length/\ ∀i,i<c-> ∃j:Nat,nth z.2 i (0:Int)=((j:Nat):Int)/\j<z.1.length/\nth z.1 j (0:Int)=kv K (nx d s (nth d.cls (nth G i (0:Int)).toNat (0:Int)).toNat))
      (λr=> ∃ord' row,r= .inl (R++[row],Z++[nth d.fin s.toNat false],ord',k+1)/\ord'.Nodup/\(∀x∈ord',x∈l)/\ord <+: ord'/\row.length=G.length/\fH ((0:Int)::R.flatten++row)=some ord'.length/\ ∀i,i<G.length-> ∃j:Nat,nth row i (0:Int)=((j:Nat):Int)/\j<ord'.length/\nth ord' j (0:Int)=kv K (nx d s (nth d.cls (nth G i (0:Int)).toNat (0:Int)).toNat))
      (λc z hc hz=>by
        obtain ⟨o,row⟩:=z;obtain ⟨z1,z2,z3,z4,z5,z6⟩:=hz;dsimp only at z1 z2 z3 z4 z5 z6;have hle:=z3.length_le;have hob:=bound z1 z2;have hse':nth o k (0:Int)=s:=by rw [Ij z3 hk,hse]
        obtain ⟨g,hg1,hg2, -⟩:=hG.fs c hc;obtain ⟨c0,c1⟩:=cls_w hd hK hg1;obtain ⟨x0,x1⟩:=hd.Hz hs c1;have hsn:=hd.len hs;have hmem:=hl.cl s hsl _ c1;obtain ⟨to,hto⟩: ∃to,kv K (nx d s (nth d.cls g (0:Int)).toNat)=to:=⟨_,rfl⟩;rw [hto]at hmem;left;obtain ⟨j,ord',e,hj⟩:=min_b11 hd hK (ord:=o) (by omega) (k:=k) (c:=c) (G:=G) (row:=row) (to:=to) (by rw [hse',hg2,iI];exact hto) (by omega);have x0':0<=nth (nth d.next s.toNat ([]:aj)) (nth d.cls g (0:Int)).toNat (0:Int):=x0;have x1':nth (nth d.next s.toNat ([]:aj)) (nth d.cls g (0:Int)).toNat (0:Int)<((d.next.length:Nat):Int):=x1;have hstep:P6 G k d K R Z o row c=some (.inl (ord',row++[((j:Nat):Int)],c+1)):=by
          unfold P6;obtain ⟨s0,s1⟩:=hs;rw [bY (by omega),aQ (by omega),hse',aQ ⟨s0,s1⟩,hg2,aQ (by omega),iI,aQ (by omega),aQ (by omega)];exact e
        have hat: ∀i,i<c->nth (row++[((j:Nat):Int)]) i (0:Int)=nth row i (0:Int):=λi hi=>rY _ _ _ _ (by omega);have hlast:nth (row++[((j:Nat):Int)]) c (0:Int)=((j:Nat):Int):=by rw [<-z4];exact sG _ _ _
        rcases hj with ⟨q1,q2,q3⟩|⟨q1,q2,q3⟩
        · subst q3
          have hlen:(o++[to]).length=o.length+1:=by rw [gu,dN]
          refine ⟨(o++[to],row++[((j:Nat):Int)]),hstep,List.nodup_append.2 ⟨z1,List.nodup_cons.2 ⟨by simp,List.nodup_nil⟩,λa ha b hb q=>q1 (by rw [<-List.mem_singleton.1 hb,<-q];exact ha)⟩,λx hx=> ?_,z3.trans (List.prefix_append _ _),by show (row++[_]).length=_;rw [gu,dN,z4],?_,λi hi=> ?_⟩
          · rcases List.mem_append.1 hx with hx|hx
            · exact z2 x hx
            rw [List.mem_singleton.1 hx];exact hmem
          · show fH ((0:Int)::R.flatten++(row++[_]))=some (o++[to]).length
            rw [<-zQ,yh,z5,hlen];unfold oW;rw [Option.bind_some,if_neg (by omega),if_pos (by omega)]
          show ∃j':Nat,nth (row++[((j:Nat):Int)]) i (0:Int)=((j':Nat):Int)/\j'<(o++[to]).length/\nth (o++[to]) j' (0:Int)=_
          by_cases ei:i=c
          · subst ei
            exact ⟨j,hlast,by omega,by rw [q2,sG,hg2,iI,hto]⟩
          obtain ⟨j',k1,k2,k3⟩:=z6 i (by omega);exact ⟨j',by rw [hat i (by omega)];exact k1,by omega,by rw [rY _ _ _ _ k2];exact k3⟩
        subst q3;refine ⟨(ord',row++[((j:Nat):Int)]),hstep,z1,z2,z3,by show (row++[_]).length=_;rw [gu,dN,z4],?_,λi hi=> ?_⟩
        · show fH ((0:Int)::R.flatten++(row++[_]))=some ord'.length
          rw [<-zQ,yh,z5];unfold oW;rw [Option.bind_some,if_neg (by omega),if_neg (by omega)]
        show ∃j':Nat,nth (row++[((j:Nat):Int)]) i (0:Int)=((j':Nat):Int)/\j'<ord'.length/\nth ord' j' (0:Int)=_
        by_cases ei:i=c
        · subst ei
          exact ⟨j,hlast,q1,by rw [q2,hg2,iI,hto]⟩
        obtain ⟨j',k1,k2,k3⟩:=z6 i (by omega);exact ⟨j',by rw [hat i (by omega)];exact k1,k2,k3⟩)
      (λz hz=>by
        obtain ⟨o,row⟩:=z;obtain ⟨z1,z2,z3,z4,z5,z6⟩:=hz;dsimp only at z1 z2 z3 z4 z5 z6;have hle:=z3.length_le;have hse':nth o k (0:Int)=s:=by rw [Ij z3 hk,hse]
        refine ⟨_,?_,o,row,rfl,z1,z2,z3,z4,z5,z6⟩;show P6 G k d K R Z o row G.length=_;unfold P6;obtain ⟨s0,s1⟩:=hs;rw [bK (by omega),aQ (by rw [dN];omega),aQ (by omega),hse',aQ (by omega),aQ (by rw [dN];omega)];rfl)
      (s0:=(ord,[])) ⟨hI.nd,hI.sub,List.prefix_refl _,rfl,by show fH ((0:Int)::R.flatten++[])=_;rw [List.append_nil];exact hI.fc,λi hi=>by cases hi⟩
    have hle:=g3.length_le;refine .inl ⟨_,e,⟨g1,g2,⟨by show 0<ord'.length;omega,?_⟩,by show k+1<=ord'.length;omega,?_,?_,λi hi=> ?_,?_,λi hi=> ?_⟩,by show 2000 - (k+1)<2000 - k;omega⟩
    · show nth ord' 0 (0:Int)=_
      rw [Ij g3 hI.zero.1];exact hI.zero.2
    · show (R++[row]).length=k+1
      rw [gu,dN,hRl]
    · show Z++[nth d.fin s.toNat false]=(ord'.take (k+1)).map _
      rw [jS _ (by omega) (0:Int),List.map_append,List.map_singleton,Ij g3 hk,hse,hI.fin];obtain ⟨t,rfl⟩:=g3;rw [List.take_append_of_le_length (by omega)]
    · show (nth (R++[row]) i ([]:aj)).length=_/\ ∀c,c<G.length-> ∃j:Nat,nth (nth (R++[row]) i ([]:aj)) c (0:Int)=_/\j<ord'.length/\nth ord' j (0:Int)=kv K (nx d (nth ord' i (0:Int)) _)
      have hi':i<k+1:=hi
      by_cases ei:i=k
      · subst ei
        rw [show nth (R++[row]) i ([]:aj)=row by rw [<-hRl];exact sG _ _ _,Ij g3 hk,hse];exact ⟨g4,g6⟩
      rw [rY _ _ _ _ (by omega),Ij g3 (by omega)];obtain ⟨q1,q2⟩:=hI.row i (by omega);refine ⟨q1,λc hc=> ?_⟩;obtain ⟨j,q3,q4,q5⟩:=q2 c hc;exact ⟨j,q3,by omega,by rw [Ij g3 q4];exact q5⟩
    · show fH ((0:Int)::(R++[row]).flatten)=some ord'.length
      rw [List.flatten_append,List.flatten_cons,List.flatten_nil,List.append_nil];exact g5
    show ∃m,fH ((0:Int)::((R++[row]).take i).flatten)=some m/\i<m;have hi':i<k+1:=hi
    by_cases ei:i=k
    · subst ei
      exact ⟨ord.length,by rw [List.take_left' hRl];exact hI.fc,hk⟩
    obtain ⟨m,q1,q2⟩:=hI.cm i (by omega);exact ⟨m,by rw [List.take_append_of_le_length (by omega)];exact q1,q2⟩
  obtain rfl:k=ord.length:=by omega
  rw [bK (by omega)];exact .inr ⟨_,rfl,ord,R,Z,rfl,hI⟩
end
open Classical in
theorem z7_ {d : Dfa} (h : jU d = true) : ∃ m, F3_ d = some (m, 0) /\ CanD m /\ fU m 0 = fU d 0 := by
  obtain ⟨w,hd⟩:=DR.of h;obtain ⟨U,eU,u1,u2,u3⟩:=aab_ hd;have hn1:=hd.n1;have hn2:=hd.n2;have hcl:=hd.cl;have hw:=hd.NK;unfold F3_;rw [lp_,gq,h,Bool.not_true,iteO_false,iy eU];obtain ⟨r, e, m, rfl, hm⟩ := fC (step := λq : aj × Nat => YL d U q.1 q.2) (λ(K : aj) i => (K, i)) d.next.length (λi K => K.length = i /\ ∀ a : Nat, a < i -> ∃ m : Nat, nth K a (0 : Int) = ((m : Nat) : Int) /\ m <= a /\ fU d ((a : Nat) : Int) = fU d ((m : Nat) : Int) /\ ∀ k : Nat, k < m -> fU d ((a : Nat) : Int) ≠ fU d ((k : Nat) : Int)) (λr => ∃ m, r = (m, 0) /\ CanD m /\ fU m 0 = fU d 0)
    (λi K hi hI=>by
      obtain ⟨k1,k2⟩:=hI;have hu:=u2 i hi;obtain ⟨-,f2,f3,f4⟩:=ZL (λk=> !cel U i k) i 0;rw [Nat.zero_add]at f2 f4;have hself:cel U i i=false:=(u3 i i hi hi).2 rfl;have hstep: ∀(k:Nat) (a:Int),k<=i->UL i U K a ((k:Nat):Int)=some (.inl (if (!cel U i k)=true then ((k:Nat):Int) else a,((k:Nat):Int) - 1)):=λk a hk=>by
        unfold UL;rw [bY (by omega),aQ (by omega),aQ (by omega),iI,tJ (by omega) (by omega)];show aI (!cel U i k) _ _=_;cases cel U i k<;>rfl
      left;refine ⟨K++[((fup (λk=> !cel U i k) i 0:Nat):Int)],?_,by rw [gu,dN,k1],λa ha=> ?_⟩
      · show YL d U K i=_
        unfold YL;rw [bY (by omega)];have h1:=hstep i ((i:Nat):Int) (Nat.le_refl _);rw [hself,Bool.not_false,if_pos rfl]at h1;rw [qq_ (step:=λq:Int×Int=>UL i U K q.1 q.2) h1];refine lt_ (step:=λq:Int×Int=>UL i U K q.1 q.2) (λk=> !cel U i k) i (λk a hk=>hstep k a (by omega)) ?_;show UL i U K _ (-1)=_;unfold UL;rw [bK (by omega),aQ (by rw [dN];omega)];rfl
      by_cases ea:a=i
      · subst ea
        refine ⟨fup (λk=> !cel U a k) a 0,by rw [<-k1];exact sG _ _ _,f2,?_,λk hk q=> ?_⟩
        · by_cases c:fup (λk=> !cel U a k) a 0=a
          · rw [c]
          have:=f4 (by omega);rw [Bool.not_eq_true']at this;exact (u3 a _ hi (by omega)).1 this
        have h1:=f3 k (Nat.zero_le _) hk;rw [(u3 a k hi (by omega)).2 q]at h1;cases h1
      rw [rY _ _ _ _ (by omega)];exact k2 a (by omega))
    (λK hI    => by
      have hK:LkI d K:=⟨hI.1,hI.2⟩;have hKl:=hK.len;have Vt:okS d 0:=⟨Int.le_refl _,by omega⟩;have kok: ∀{s:Int} {c:Nat},okS d s->c<w->okS d (kv K (nx d s c)):=λhs hc=>(hK.ok (hd.Hz hs hc)).1
      -- rows of the small one, when what is met is known
      have tail: ∀l:aj,SnF d w K l-> ∃r,aV (λq:aj×aj×Nat=>UK l d K q.1 q.2.1 q.2.2) ((List.replicate 256 (0:Int)),([]:aj),0)=some r/\ ∃m,r=(m,0)/\CanD m/\fU m 0=fU d 0:=λl hl=>by
        refine fC (step:=λq:aj×aj×Nat=>UK l d K q.1 q.2.1 q.2.2) (λ(s:aj×aj) b=>(s.1,s.2,b)) 256 (λb s=>FcI (EqC d K l) b s.1 s.2) _ (λb s hb hI=> ?_) (λs hI=> ?_) (s0:=(List.replicate 256 0,[])) (FcI.nil _)
        · obtain ⟨cls',G⟩:=s
          have hI:FcI (EqC d K l) b cls' G:=hI;have hGl:=hI.le;have hlen:=hI.len;have hst:=hI.step (ra_ d K l) hb (p:=λi=>decide (EqC d K l b (nth G i (0:Int)).toNat)) λi hi=>by
            rw [dA];exact ⟨(ra_ d K l).sm,(ra_ d K l).sm⟩
          have hf:=(ZL (λi=>decide (EqC d K l b (nth G i (0:Int)).toNat)) G.length 0).2.1;obtain ⟨f,hf0⟩: ∃f,fup (λi=>decide (EqC d K l b (nth G i (0:Int)).toNat)) G.length 0=f:=⟨_,rfl⟩;obtain ⟨G',hG'⟩: ∃G',(if f=G.length then G++[((b:Nat):Int)] else G)=G':=⟨_,rfl⟩;rw [hf0]at hf;rw [hf0,hG']at hst;refine .inl ⟨(cls'.set b ((f:Nat):Int),G'),?_,hst⟩;show UK l d K cls' G b=_;unfold UK;rw [bY (by omega),tJ (by omega) (by omega)];refine lt_ (step:=λq:Int×Int=>YK l d b K G cls' q.1 q.2) (λi=>decide (EqC d K l b (nth G i (0:Int)).toNat)) G.length (λi a hi=> ?_) ?_
          · obtain ⟨g,g1,g2,g3⟩:=hI.fs i hi
            obtain ⟨t,ht,e⟩:=min_b8 hd hK hl.ok hb hi (f:=g) (by omega) g2 a;show YK l d b K G cls' a ((i:Nat):Int)=some (.inl (if decide (EqC d K l b (nth G i (0:Int)).toNat)=true then ((i:Nat):Int) else a,((i:Nat):Int) - 1));unfold YK;rw [bY (by omega),e,tJ (by omega) (by omega),g2,iI]
            by_cases c:EqC d K l b g
            · rw [if_pos (ht.2 c),if_pos (decide_eq_true c)]
            rw [if_neg (λq=>c (ht.1 q)),if_neg (λq=>c (Gu q))]
          show YK l d b K G cls' ((fup (λi=>decide (EqC d K l b (nth G i (0:Int)).toNat)) G.length 0:Nat):Int) (-1)=_;rw [hf0];unfold YK;rw [bK (by omega)]
          by_cases c:f=G.length
          · rw [if_pos c]at hG'
            rw [bY (by omega),aQ (by rw [dN];omega),aQ (by omega),hG'];rfl
          rw [if_neg c]at hG';rw [bK (by omega),aQ (by omega),hG'];rfl
        obtain ⟨cls',G⟩:=s;have hG:FcI (EqC d K l) 256 cls' G:=hI;have hcl':=hG.len;have hGl:=hG.le;obtain ⟨r,e,ord,R,Z,rfl,hO⟩:=min_b9 hd hK hl hG (s0:=([],[],[kv K 0],0)) ⟨List.nodup_cons.2 ⟨by simp,List.nodup_nil⟩,λs hs=>by rw [List.mem_singleton.1 hs];exact hl.zero,⟨Nat.zero_lt_one,rfl⟩,Nat.zero_le _,rfl,rfl,λi hi=>(by cases hi),rfl,λi hi=>by cases hi⟩;have hRl:=hO.len;have hol:ord.length<=1024:=by
          have:=MX hO.nd λs hs=>hl.ok s (hO.sub s hs);omega
        have hZl:Z.length=ord.length:=by rw [hO.fin,List.length_map,List.take_length]
        have hz:=hO.zero
        -- a byte's class, and its first byte
        have hby: ∀b,b<256-> ∃c g:Nat,c<G.length/\nth cls' b (0:Int)=((c:Nat):Int)/\g<256/\nth G c (0:Int)=((g:Nat):Int)/\EqC d K l g b:=λb hb=>by
          obtain ⟨c,q1,q2,q3⟩:=hG.eq b hb;obtain ⟨g,q4,q5, -⟩:=hG.fs c q1;rw [q5,iI]at q3;exact ⟨c,g,q1,q2,q4,q5,q3⟩
        have hstep: ∀i b,i<ord.length->b<256-> ∃j:Nat,nth (nth R i ([]:aj)) (nth cls' b (0:Int)).toNat (0:Int)=((j:Nat):Int)/\j<ord.length/\nth ord j (0:Int)=kv K (nx d (nth ord i (0:Int)) (nth d.cls b (0:Int)).toNat):=λi b hi hb=>by
          obtain ⟨c,g,q1,q2,q3,q4,q5⟩:=hby b hb;obtain ⟨j,q6,q7,q8⟩:=(hO.row i hi).2 c q1;refine ⟨j,by rw [q2,iI];exact q6,q7,?_⟩;rw [q8,q4,iI];exact q5 _ (hO.sub _ (jB hi (0:Int)))
        have hdr:DR ⟨cls',R,Z⟩ G.length:=by
          refine ⟨hG.full,hcl',by show 1<=R.length;omega,by show R.length<=1024;omega,by show Z.length=R.length;omega,λs hs=> ?_⟩;have hs':s<R.length:=hs;obtain ⟨q1,q2⟩:=hO.row s (by omega);refine ⟨q1,λc hc=> ?_⟩;obtain ⟨j,q3,q4, -⟩:=q2 c hc;show 0<=nth (nth R s ([]:aj)) c (0:Int)/\nth (nth R s ([]:aj)) c (0:Int)<((R.length:Nat):Int);omega
        have hlan: ∀(u:T_1) (i:Nat),i<ord.length->fU ⟨cls',R,Z⟩ ((i:Nat):Int) u=fU d (nth ord i (0:Int)) u:=by
          intro u
          induction u with
          |nil=>
            intro i hi;show nth Z i false=nth d.fin (nth ord i (0:Int)).toNat false;rw [hO.fin,List.take_length,C9 _ _ _ (0:Int) false hi]
          |cons b u ih=>
            intro i hi;obtain ⟨j,q1,q2,q3⟩:=hstep i b.toNat hi (UInt8.toNat_lt b);have hok:=hl.ok _ (hO.sub _ (jB hi (0:Int)));obtain ⟨-,c1⟩:=cls_w hd hK (UInt8.toNat_lt b);have e1:dlt ⟨cls',R,Z⟩ ((i:Nat):Int) b=((j:Nat):Int):=q1;have e2:dlt d (nth ord i (0:Int)) b=nx d (nth ord i (0:Int)) (nth d.cls b.toNat (0:Int)).toNat:=rfl;show fU ⟨cls',R,Z⟩ (dlt ⟨cls',R,Z⟩ ((i:Nat):Int) b) u=fU d (dlt d (nth ord i (0:Int)) b) u;rw [e1,ih j q2,q3,e2,(hK.ok (hd.Hz hok c1)).2]
        have hfc:Fc ⟨cls',R,Z⟩ cls' G.length R:=⟨hcl',hG.full,rfl,λr hr=>by
          obtain ⟨k,hk,rfl⟩:=DN (d:=([]:aj)) hr;exact (hO.row k (by omega)).1,λs b hs hb=>rfl,by rw [hRl];exact hO.fc,λk hk=>hO.cm k (by omega)⟩
        have hsub: ∀s∈l,s∈ord:=hl.gen (λs=>s∈ord) (by rw [<-hz.2];exact jB hz.1 (0:Int)) λs c hs _ hc=>by
          obtain ⟨i,hi,rfl⟩:=DN (d:=(0:Int)) hs;obtain ⟨b,hb,hv⟩:=Na hd.cnt c hc;obtain ⟨j, -,q2,q3⟩:=hstep i b hi (by omega);rw [hv,iI]at q3;rw [<-q3];exact jB q2 (0:Int)
        have hfix: ∀s∈l,kv K s=s:=hl.gen (λs=>kv K s=s) (hK.idem Vt) λs c _ hs hc=>hK.idem (hd.Hz hs hc);refine ⟨(⟨cls',R,Z⟩,0),?_,_,rfl,⟨hdr.right,hfc.first,hfc.come,λs t hs ht q=> ?_,λb c hb hc q=> ?_⟩,?_⟩
        · show UK l d K cls' G 256=_
          unfold UK;rw [bK (by omega),aQ (by omega)];have e':aV (λq:aY×B_1×aj×Nat=>Nw G d K cls' q.1 q.2.1 q.2.2.1 q.2.2.2) ([],[],[nth K 0 (0:Int)],0)=some (⟨cls',R,Z⟩,0):=e;rw [e'];rfl
        · have hs':s<R.length:=hs
          have ht':t<R.length:=ht;have q2:fU d (nth ord s (0:Int))=fU d (nth ord t (0:Int)):=funext λu=>by
            rw [<-hlan u s (by omega),<-hlan u t (by omega),q]
          have ms:=hO.sub _ (jB (l:=ord) (i:=s) (by omega) (0:Int));have mt:=hO.sub _ (jB (l:=ord) (i:=t) (by omega) (0:Int));have q3:=(hK.eq (hl.ok _ ms) (hl.ok _ mt)).2 q2;rw [hfix _ ms,hfix _ mt]at q3;exact nd_inj hO.nd (by omega) (by omega) q3
        · refine (hG.pat (ra_ d K l) hb hc).2 λs hs=> ?_
          obtain ⟨i,hi,rfl⟩:=DN (d:=(0:Int)) (hsub s hs);obtain ⟨j,k1,k2,k3⟩:=hstep i b hi hb;obtain ⟨j',k4,k5,k6⟩:=hstep i c hi hc;have q2:=q i (by show i<R.length;omega);have q3:nth (nth R i ([]:aj)) (nth cls' b (0:Int)).toNat (0:Int)=nth (nth R i ([]:aj)) (nth cls' c (0:Int)).toNat (0:Int):=q2;rw [k1,k4]at q3;rw [<-k3,<-k6,show j=j' by omega]
        funext u
        have q:=hlan u 0 hz.1;rw [hz.2]at q;rw [<-congrFun (hK.ok Vt).2 u];exact q
      -- what is met
      obtain ⟨r, e, h⟩ := Ho (step := λq : aj × Nat => YJ d K q.1 q.2) (λs => SnI d w K s.1 /\ kv K 0 ∈ s.1 /\ s.2 <= s.1.length /\ ∀ i, i < s.2 -> ∀ c, c < w -> kv K (nx d (nth s.1 i (0 : Int)) c) ∈ s.1) (λr => ∃ m, r = (m, 0) /\ CanD m /\ fU m 0 = fU d 0) (λs => 2000 - s.2)
        (λs hI    => by
          obtain ⟨l,i⟩:=s;obtain ⟨h1,h2,h3,h4⟩:=hI;dsimp only at h1 h2 h3 h4;have hlen:=MX h1.nd h1.ok;show (∃s',YJ d K l i=_/\_)\/ ∃r,YJ d K l i=_/\_;unfold YJ
          by_cases hi:i<l.length
          · have hs := h1.ok _ (jB hi (0 : Int))
            have hsn:=hd.len hs;obtain ⟨s0,s1⟩:=hs;rw [bY (by omega),aQ ⟨s0,s1⟩];obtain ⟨r,e,l',rfl,g1,g2,g3⟩:=fC (step:=λq:aj×Nat=>YM d l i K q.1 q.2) (λ(x:aj) c=>(x,c)) w (λc x=>SnI d w K x/\l <+: x/\ ∀c',c'<c->kv K (nx d (nth l i (0:Int)) c')∈x) (λr=> ∃l',r= .inl (l',i+1)/\SnI d w K l'/\l <+: l'/\ ∀c',c'<w->kv K (nx d (nth l i (0:Int)) c')∈l')
              (λc x hc hx=>by
                obtain ⟨x1,x2,x3⟩:=hx;have hxl:=MX x1.nd x1.ok;have hno:=hd.Hz ⟨s0,s1⟩ hc;have hto:=hK.ok hno;obtain ⟨n0,n1⟩:=hno;have n0':0<=nth (nth d.next ((nth l i (0:Int)).toNat) ([]:aj)) c (0:Int):=n0;have n1':nth (nth d.next ((nth l i (0:Int)).toNat) ([]:aj)) c (0:Int)<((d.next.length:Nat):Int):=n1;obtain ⟨to,htoe⟩: ∃to,kv K (nx d (nth l i (0:Int)) c)=to:=⟨_,rfl⟩;have htoe':nth K ((nth (nth d.next ((nth l i (0:Int)).toNat) ([]:aj)) c (0:Int)).toNat) (0:Int)=to:=htoe;left;obtain ⟨r,e,x',rfl,y1,y2,y3⟩:=fC (step:=λq:Bool×Nat=>YI x K d l i c q.1 q.2) (λ(t:Bool) j=>(t,j)) x.length (λj t=>t=true↔to∈x.take j) (λr=> ∃x',r= .inl (x',c+1)/\(to∈x->x'=x)/\(to∉x->x'=x++[to])/\to∈x')
                  (λj t hj hI=>by
                    left;show ∃s',YI x K d l i c t j=_/\_;unfold YI;rw [bY (by omega),jS _ hj (0:Int),htoe'];cases t with
                    |true=>rw [iteO_true];exact ⟨true,rfl,λ_=>List.mem_append_left _ (hI.1 rfl),λ_=>rfl⟩
                    |false=>
                      rw [iteO_false];refine ⟨_,rfl,?_⟩;rw [dA,List.mem_append,Ip];exact ⟨λq=> .inr q.symm,λq=>q.elim (λq=>by have:=hI.2 q;cases this) λq=>q.symm⟩)
                  (λt hI=>by
                    rw [List.take_length]at hI;show ∃r,YI x K d l i c t x.length=_/\_;unfold YI;rw [bK (by omega),htoe'];cases t with
                    |true=>rw [Bool.not_true,iteO_false];exact ⟨_,rfl,x,rfl,λ_=>rfl,λq=>absurd (hI.1 rfl) q,hI.1 rfl⟩
                    |false=>
                      rw [Bool.not_false,iteO_true,aQ (by rw [dN];omega)];refine ⟨_,rfl,_,rfl,λq=> ?_,λ_=>rfl,List.mem_append_right _ (List.mem_singleton.2 rfl)⟩;have:=hI.2 q;cases this)
                  (s0:=false) (by simp)
                refine ⟨x',?_,?_⟩
                · show YM d l i K x c=_
                  unfold YM;rw [hsn,bY (by omega),aQ (by omega)];exact e
                by_cases q:to∈x
                · rw [y1 q]at y3 ⊢
                  refine ⟨x1,x2,λc' hc'=> ?_⟩
                  by_cases ec:c'=c
                  · subst ec;rw [htoe];exact q
                  exact x3 c' (by omega)
                rw [y2 q]at y3 ⊢;refine ⟨⟨List.nodup_append.2 ⟨x1.nd,List.nodup_cons.2 ⟨by simp,List.nodup_nil⟩,λa ha b hb z=>q (by rw [<-List.mem_singleton.1 hb,<-z];exact ha)⟩,λs hs=> ?_,λP p1 p2 s hs=> ?_⟩,x2.trans (List.prefix_append _ _),λc' hc'=> ?_⟩
                · rcases List.mem_append.1 hs with hs|hs
                  · exact x1.ok s hs
                  rw [List.mem_singleton.1 hs,<-htoe];exact hto.1
                · rcases List.mem_append.1 hs with hs|hs
                  · exact x1.gen P p1 p2 s hs
                  rw [List.mem_singleton.1 hs,<-htoe];exact p2 _ _ (h1.gen P p1 p2 _ (jB hi (0:Int))) ⟨s0,s1⟩ hc
                by_cases ec:c'=c
                · subst ec;rw [htoe];exact y3
                exact List.mem_append_left _ (x3 c' (by omega)))
              (λx hx=>by
                obtain ⟨x1,x2,x3⟩:=hx;refine ⟨_,?_,x,rfl,x1,x2,x3⟩;show YM d l i K x w=_;unfold YM;rw [hsn,bK (by omega)];rfl)
              (s0:=l) ⟨h1,List.prefix_refl _,λc' hc'=>by cases hc'⟩
            have hle:=g2.length_le;refine .inl ⟨(l',i+1),e,⟨g1,g2.subset h2,by show i+1<=l'.length;omega,λj hj c hc=> ?_⟩,by show 2000 - (i+1)<2000 - i;omega⟩;show kv K (nx d (nth l' j (0:Int)) c)∈l';have hj':j<i+1:=hj;rw [Ij g2 (by omega)]
            by_cases ej:j=i
            · subst ej;exact g3 c hc
            exact g2.subset (h4 j (by omega) c hc)
          rw [bK (by omega)];obtain rfl:i=l.length:=by omega
          obtain ⟨r,e,hr⟩:=tail l ⟨h1,h2,λs hs c hc=>by
            obtain ⟨j,hj,rfl⟩:=DN (d:=(0:Int)) hs;exact h4 j hj c hc⟩
          rw [e];exact .inr ⟨r,rfl,hr⟩)
        ([kv K 0],0) ⟨⟨List.nodup_cons.2 ⟨by simp,List.nodup_nil⟩,λs hs=>by rw [List.mem_singleton.1 hs];exact (hK.ok Vt).1,λP p1 _ s hs=>by rw [List.mem_singleton.1 hs];exact p1⟩,List.mem_singleton.2 rfl,Nat.zero_le _,λi hi=>by cases hi⟩
      refine ⟨r,?_,h⟩;show YL d U K d.next.length=_;unfold YL;rw [bK (by omega),aQ (by omega)];have e':aV (λq:aj×Nat=>YJ d K q.1 q.2) ([nth K 0 (0:Int)],0)=some r:=e;rw [e'];rfl)
    (s0:=[]) ⟨rfl,λa ha=>by cases ha⟩
  exact ⟨m,e,hm⟩
end Go.Proofs.YtcfgkcfcddfccaaGreatDoor
end

noncomputable section
namespace Go.Proofs.YtcfgkcfcddfccaaGreatDoor
open Go Go.E
theorem xu_{β γ:Type}{key:β->Int}{val:β->γ}{n:Nat}{l:List (List γ)}{xs:List β}(h:Grp key val n l xs){i:Nat}(hi:i<n):(nth l i []).length<=xs.length:=by
  rw [h.row i hi,List.length_map];exact List.length_filter_le ..
theorem Xi{α:Type}(l:List α)(k:Nat):(l.take k).length<=l.length:=by rw [List.length_take];omega
theorem x9_{t:Fst}(ht:FstOk t): ∃on bk,Hn_ t=some (t,on,bk)/\Grp Arc.frm Arc.to t.states.toNat on t.arcs/\Grp Arc.to Arc.frm t.states.toNat bk t.arcs:=by
  have h0:=ht.st0;have h1:=ht.st1;have hN:=ht.arcsN;unfold Hn_ Hb_;rw [aQ ⟨h0,by omega⟩,aQ ⟨h0,by omega⟩];obtain ⟨r,h2,on,bk,rfl,h3,h4⟩:=Nb (step:=λq:aY×aY×Nat=>YA t q.1 q.2.1 q.2.2) (λ(s:aY×aY) k=>(s.1,s.2,k)) t.arcs aO
    (λpre s=>Grp Arc.frm Arc.to t.states.toNat s.1 pre/\Grp Arc.to Arc.frm t.states.toNat s.2 pre)
    (λr=> ∃on bk,r=(t,on,bk)/\Grp Arc.frm Arc.to t.states.toNat on t.arcs/\Grp Arc.to Arc.frm t.states.toNat bk t.arcs)
    (λk s hk ⟨a1,a2⟩=>by
      obtain ⟨b1,b2,b3,b4⟩:=ht.arcs _ (Iy aO hk);have l1:=a1.len;have l2:=a2.len;have r1:=xu_ a1 (i:=(nth t.arcs k aO).frm.toNat) (by omega);have r2:=xu_ a2 (i:=(nth t.arcs k aO).to.toNat) (by omega);have r3:=Xi t.arcs k;refine .inl ⟨(s.1.set (nth t.arcs k aO).frm.toNat (nth s.1 (nth t.arcs k aO).frm.toNat []++[(nth t.arcs k aO).to]),s.2.set (nth t.arcs k aO).to.toNat (nth s.2 (nth t.arcs k aO).to.toNat []++[(nth t.arcs k aO).frm])),?_,a1.snoc b1.1 (by omega),a2.snoc b2.1 (by omega)⟩;show YA t s.1 s.2 k=_;unfold YA Hf_;rw [bY (by omega),aQ ⟨b1.1,by omega⟩,aQ (by simp only [dN];omega),aQ ⟨b1.1,by omega⟩,aQ ⟨b2.1,by omega⟩,aQ (by simp only [dN];omega),aQ ⟨b2.1,by omega⟩];rfl)
    (λs hI=>⟨(t,s.1,s.2),by
      show YA t s.1 s.2 t.arcs.length=_;unfold YA;rw [bK (by omega)];rfl,s.1,s.2,rfl,hI.1,hI.2⟩)
    (s0:=(List.replicate t.states.toNat [],List.replicate t.states.toNat [])) ⟨Grp.nil ..,Grp.nil ..⟩
  exact ⟨on,bk,h2,h3,h4⟩
theorem stE_on{t:Fst}(ht:FstOk t){key val:Arc->Int}{l:aY}(h:Grp key val t.states.toNat l t.arcs)(hk: ∀a∈t.arcs,0<=key a/\key a<t.states):stE l=λa b=> ∃x∈t.arcs,key x=a/\val x=b:=by
  funext a b
  refine propext ⟨λ⟨h0,hb⟩=> ?_,λ⟨x,hx,h1,h2⟩=> ?_⟩
  · have hlt:a.toNat<t.states.toNat:=by
      have:=h.len
      by_cases hl:a.toNat<l.length
      · omega
      unfold nth at hb;rw [List.getD_eq_getElem?_getD,List.getElem?_eq_none (by omega)]at hb;simp at hb
    rw [h.row _ hlt,List.mem_map]at hb;obtain ⟨x,hx,e⟩:=hb;have:=List.mem_filter.1 hx;exact ⟨x,this.1,by have:=Gu this.2;omega,e⟩
  have:=hk x hx;refine ⟨by omega,?_⟩;rw [h.row _ (by omega),List.mem_map];exact ⟨x,List.mem_filter.2 ⟨hx,decide_eq_true (by omega)⟩,h2⟩
theorem wu_{t:Fst}{key val:Arc->Int}{l:aY}(h:Grp key val t.states.toNat l t.arcs)(hk: ∀a∈t.arcs,0<=val a/\val a<t.states): ∀a, ∀z∈nth l a [],0<=z/\z<t.states.toNat:=λa z hz=>by
  have hl:=h.len
  by_cases ha:a<t.states.toNat
  · rw [h.row _ ha,List.mem_map]at hz
    obtain ⟨x,hx,rfl⟩:=hz;have:=hk x (List.mem_filter.1 hx).1;omega
  unfold nth at hz;rw [List.getD_eq_getElem?_getD,List.getElem?_eq_none (by omega)]at hz;simp at hz
def NY(p:Nat->Bool)(n:Nat)(num:aj):Prop:=num.length=n/\ ∀s:Int,0<=s->s<n->nth num s.toNat 0=lQ p s
theorem jx_(p:Nat->Bool)(l:List Tip)(k:Nat)(h:k<l.length):uQ p (l.take (k+1))=uQ p (l.take k)++(if 0<=lQ p (nth l k bD).state then [⟨lQ p (nth l k bD).state,(nth l k bD).out⟩] else []):=by
  rw [jS l h bD];unfold uQ;rw [List.filterMap_append];congr 1
  by_cases hc:0<=lQ p (nth l k bD).state
  · rw [List.filterMap_cons,if_pos hc,if_pos hc];rfl
  rw [List.filterMap_cons,if_neg hc,if_neg hc];rfl
theorem p1_(p:Nat->Bool)(l:List Arc)(k:Nat)(h:k<l.length):xX p (l.take (k+1))=xX p (l.take k)++(if 0<=lQ p (nth l k aO).frm/\0<=lQ p (nth l k aO).to then [⟨lQ p (nth l k aO).frm,lQ p (nth l k aO).to,(nth l k aO).set,(nth l k aO).out,(nth l k aO).copy⟩] else []):=by
  rw [jS l h aO];unfold xX;rw [List.filterMap_append];congr 1
  by_cases hc:0<=lQ p (nth l k aO).frm/\0<=lQ p (nth l k aO).to
  · rw [List.filterMap_cons,if_pos hc,if_pos hc];rfl
  rw [List.filterMap_cons,if_neg hc,if_neg hc];rfl
theorem xf_{t:Fst}(ht:FstOk t){p:Nat->Bool}{num:aj}(hn:NY p t.states.toNat num)(c:Nat)(S E:List Tip):
    aV (λq:List Arc×Nat=>Yn t num c S E q.1 q.2) (([]:List Arc),0)=bnd (MH ⟨(c:Int),S,E,xX p t.arcs⟩) (λv=>some (v.1,v.2)):=by
  have hN:=ht.arcsN;obtain ⟨r,hr⟩: ∃r,bnd (MH ⟨(c:Int),S,E,xX p t.arcs⟩) (λv=>some (v.1,v.2))=some r:=by rw [qa_];exact ⟨_,rfl⟩
  rw [hr];refine IB t.arcs aO (λk=>xX p (t.arcs.take k)) (λk hk=> ?_) ?_
  · obtain ⟨b1,b2,b3,b4⟩:=ht.arcs _ (Iy aO hk)
    have hl:=oh_ p (t.arcs.take k);have r3:=Xi t.arcs k;have e1:=hn.2 _ b1.1 (by omega);have e2:=hn.2 _ b2.1 (by omega);have l1:=hn.1;show Yn t num c S E _ k=_;unfold Yn F7_;rw [bY (by omega),aQ ⟨b1.1,by omega⟩,aQ ⟨b2.1,by omega⟩,e1,e2,p1_ p _ k hk]
    by_cases c1:0<=lQ p (nth t.arcs k aO).frm
    · rw [bY c1]
      by_cases c2:0<=lQ p (nth t.arcs k aO).to
      · rw [bY c2,if_pos ⟨c1,c2⟩,aQ (by simp only [dN];omega)];rfl
      rw [bK c2,if_neg (λh=>c2 h.2),List.append_nil];rfl
    rw [bK c1,if_neg (λh=>c1 h.1),List.append_nil];rfl
  show Yn t num c S E _ _=_;unfold Yn;rw [bK (by omega),List.take_length,hr];rfl
theorem xy_{t:Fst}(ht:FstOk t){p:Nat->Bool}{num:aj}(hn:NY p t.states.toNat num)(c:Nat)(S:List Tip):
    aV (λq:List Tip×Nat=>Yu t num c S q.1 q.2) (([]:List Tip),0)=bnd (MH ⟨(c:Int),S,uQ p t.ends,xX p t.arcs⟩) (λv=>some (v.1,v.2)):=by
  have hN:=ht.endsN;obtain ⟨r,hr⟩: ∃r,bnd (MH ⟨(c:Int),S,uQ p t.ends,xX p t.arcs⟩) (λv=>some (v.1,v.2))=some r:=by rw [qa_];exact ⟨_,rfl⟩
  rw [hr];refine IB t.ends bD (λk=>uQ p (t.ends.take k)) (λk hk=> ?_) ?_
  · obtain ⟨b1,b2⟩:=ht.ends _ (Iy bD hk)
    have hl:=ZM p (t.ends.take k);have r3:=Xi t.ends k;have e1:=hn.2 _ b1.1 (by omega);have l1:=hn.1;show Yu t num c S _ k=_;unfold Yu G5_;rw [bY (by omega),aQ ⟨b1.1,by omega⟩,e1,jx_ p _ k hk]
    by_cases c1:0<=lQ p (nth t.ends k bD).state
    · rw [bY c1,if_pos c1,aQ (by simp only [dN];omega)];rfl
    rw [bK c1,if_neg c1,List.append_nil];rfl
  show Yu t num c S _ _=_;unfold Yu;rw [bK (by omega),List.take_length,xf_ ht hn,hr];rfl
theorem sw_{t:Fst}(ht:FstOk t){p:Nat->Bool}{num:aj}(hn:NY p t.states.toNat num)(c:Nat):
    aV (λq:List Tip×Nat=>Yt t num c q.1 q.2) (([]:List Tip),0)=bnd (MH ⟨(c:Int),uQ p t.starts,uQ p t.ends,xX p t.arcs⟩) (λv=>some (v.1,v.2)):=by
  have hN:=ht.startsN;obtain ⟨r,hr⟩: ∃r,bnd (MH ⟨(c:Int),uQ p t.starts,uQ p t.ends,xX p t.arcs⟩) (λv=>some (v.1,v.2))=some r:=by rw [qa_];exact ⟨_,rfl⟩
  rw [hr];refine IB t.starts bD (λk=>uQ p (t.starts.take k)) (λk hk=> ?_) ?_
  · obtain ⟨b1,b2⟩:=ht.starts _ (Iy bD hk)
    have hl:=ZM p (t.starts.take k);have r3:=Xi t.starts k;have e1:=hn.2 _ b1.1 (by omega);have l1:=hn.1;show Yt t num c _ k=_;unfold Yt G7_;rw [bY (by omega),aQ ⟨b1.1,by omega⟩,e1,jx_ p _ k hk]
    by_cases c1:0<=lQ p (nth t.starts k bD).state
    · rw [bY c1,if_pos c1,aQ (by simp only [dN];omega)];rfl
    rw [bK c1,if_neg c1,List.append_nil];rfl
  show Yt t num c _ _=_;unfold Yt;rw [bK (by omega),List.take_length,xy_ ht hn,hr];rfl
theorem xh_ {t : Fst} (ht : FstOk t) {on bk : aY} (h1 : Grp Arc.frm Arc.to t.states.toNat on t.arcs) (h2 : Grp Arc.to Arc.frm t.states.toNat bk t.arcs) {l0 : aj} (hl0 : l0.length = t.states.toNat) (hm : ∀ i, i < t.states.toNat -> nth l0 i 0 = -1) :
    ∃num,Gp_ (yN (λ(q:aj×Nat) (x:Int)=>Uu q.1 q.2 x)) (0,(l0,0)) (⟨t.states,t.starts,t.ends,t.arcs⟩:Fst) on bk=some (0,(num,nH (jE t) t.states.toNat))/\NY (jE t) t.states.toNat num:=by
  have h0:=ht.st0;have hs1:=ht.st1;obtain ⟨ah,a1,a2,a3⟩:=t8_ (tips:=t.starts) (by omega) h1.len (wu_ h1 λa ha=>(ht.arcs a ha).2.1) (λx hx=>by have:=(ht.starts x hx).1;omega);obtain ⟨be,b1,b2,b3⟩:=t8_ (tips:=t.ends) (by omega) h2.len (wu_ h2 λa ha=>(ht.arcs a ha).1) (λx hx=>by have:=(ht.ends x hx).1;omega);rw [stE_on ht h1 λa ha=>(ht.arcs a ha).1]at a3;rw [stE_on ht h2 λa ha=>(ht.arcs a ha).2.1]at b3;have hp: ∀v,jE t v=(nth ah v false && nth be v false):=λv=>by
    rw [Bool.eq_iff_iff,Bool.and_eq_true,a3 v,b3 v];exact nf_
  unfold Gp_;rw [iy a1,iy b1];obtain ⟨r,e,f⟩:=fC (step:=λq:Nat×(Nat×aj×Nat)=>PZ ah be (yN (λ(q:aj×Nat) (x:Int)=>Uu q.1 q.2 x)) q.1 q.2) (λ(s:Nat×aj×Nat) k=>(k,s)) t.states.toNat
    (λk s=>s.1=0/\s.2.2=nH (jE t) k/\s.2.1.length=t.states.toNat/\ ∀i,i<t.states.toNat->nth s.2.1 i 0=if i<k then lQ (jE t) i else -1)
    (λr=>r.1=0/\r.2.2=nH (jE t) t.states.toNat/\NY (jE t) t.states.toNat r.2.1)
    (λk s hk ⟨c1,c2,c3,c4⟩=>by
      obtain ⟨j,l,c⟩:=s;obtain rfl:j=0:=c1;obtain rfl:c=nH (jE t) k:=c2;dsimp only at c3 c4;refine .inl ?_;show ∃s':Nat×aj×Nat,PZ ah be _ k (0,l,nH (jE t) k)=_/\_;unfold PZ Ef_;rw [bY (by omega)];have hk':=hp k;cases ha:nth ah k false with
      |false=>
        rw [ha,Bool.false_and]at hk';refine ⟨(0,l,nH (jE t) k),rfl,rfl,by simp only [nH,hk'];rfl,c3,λi hi=> ?_⟩;dsimp only;rw [c4 i hi]
        by_cases e1:i<k
        · rw [if_pos e1,if_pos (by omega)]
        rw [if_neg e1]
        by_cases e2:i<k+1
        · obtain rfl:i=k:=by omega
          rw [if_pos e2];unfold lQ;simp [hk']
        rw [if_neg e2]
      |true=>
        rw [iteO_true,aQ (by omega)];cases hb:nth be k false with
        |false=>
          rw [ha,hb,Bool.true_and]at hk';refine ⟨(0,l,nH (jE t) k),rfl,rfl,by simp only [nH,hk'];rfl,c3,λi hi=> ?_⟩;dsimp only;rw [c4 i hi]
          by_cases e1:i<k
          · rw [if_pos e1,if_pos (by omega)]
          rw [if_neg e1]
          by_cases e2:i<k+1
          · obtain rfl:i=k:=by omega
            rw [if_pos e2];unfold lQ;simp [hk']
          rw [if_neg e2]
        |true=>
          rw [ha,hb,Bool.true_and]at hk';have hy:yN (λ(q:aj×Nat) (x:Int)=>Uu q.1 q.2 x) (0,l,nH (jE t) k) ((k:Nat):Int)=some ((0,l.set k ((nH (jE t) k:Nat):Int),nH (jE t) k+1),true):=by
            unfold yN;rw [if_pos rfl];show (Uu l (nH (jE t) k) ((k:Nat):Int)).bind _=_;unfold Uu;have hself:=kx_ (jE t) k;rw [aQ ⟨by omega,by omega⟩,aQ (by omega)];rfl
          rw [iteO_true,iy hy];refine ⟨(0,l.set k ((nH (jE t) k:Nat):Int),nH (jE t) k+1),rfl,rfl,by simp only [nH,hk',if_true],by rw [eX];exact c3,λi hi=> ?_⟩;dsimp only;rw [nI]
          by_cases e1:k=i
          · subst e1
            rw [if_pos ⟨rfl,by omega⟩,if_pos (by omega),qe_ (by simpa using hk')];simp
          rw [if_neg (λh=>e1 h.1),c4 i hi]
          by_cases e2:i<k
          · rw [if_pos e2,if_pos (by omega)]
          rw [if_neg e2,if_neg (by omega)])
    (λs ⟨c1,c2,c3,c4⟩=>⟨s,by
      show PZ ah be _ _ s=_;unfold PZ;rw [bK (by omega)];rfl,c1,c2,c3,λv h1 h2=>by
        rw [c4 _ (by omega),if_pos (by omega),show ((v.toNat:Nat):Int)=v by omega]⟩)
    (s0:=(0,l0,0)) ⟨rfl,rfl,hl0,λi hi=>by rw [if_neg (by omega)];exact hm i hi⟩
  obtain ⟨j,num,c⟩:=r;obtain ⟨f1,f2,f3⟩:=f;dsimp only at f1 f2 f3;subst f1 f2;exact ⟨num,e,f3⟩
def Zk(t:Fst):Fst:=srt (NW (jE t) t)
theorem ok_rng{t:Fst}(ht:FstOk t):Rng t:=⟨λx hx=>(ht.starts x hx).1,λx hx=>(ht.ends x hx).1,λx hx=>⟨(ht.arcs x hx).1,(ht.arcs x hx).2.1⟩⟩
theorem xa_{t:Fst}(ht:FstOk t):FstOk (NW (jE t) t):=by
  have hr:=keep_rng (t:=t) (r:=NW (jE t) t) (λ_=>Iff.rfl) (λ_=>Iff.rfl) (λ_=>Iff.rfl) rfl (ok_rng ht);have h1:=ht.st1;have hc:=kx_ (jE t) t.states.toNat
  have l1:=ZM (jE t) t.starts;have l2:=ZM (jE t) t.ends;have l3:=oh_ (jE t) t.arcs;refine ⟨by show (0:Int)<=((nH (jE t) t.states.toNat:Nat):Int);omega,by have:=ht.st0;show ((nH (jE t) t.states.toNat:Nat):Int)<=1024;omega,Nat.le_trans l3 ht.arcsN,Nat.le_trans l1 ht.startsN,Nat.le_trans l2 ht.endsN,λy hy=>⟨hr.starts y hy,?_⟩,λy hy=>⟨hr.ends y hy,?_⟩,λy hy=>⟨(hr.arcs y hy).1,(hr.arcs y hy).2,?_⟩⟩
  · obtain ⟨x,hx,_,rfl⟩:=lw_.1 hy;exact (ht.starts x hx).2
  · obtain ⟨x,hx,_,rfl⟩:=lw_.1 hy;exact (ht.ends x hx).2
  obtain ⟨x,hx,_,_,rfl⟩:=rn_.1 hy;exact (ht.arcs x hx).2.2
theorem w5_ (t : Fst) : Yh t = some (if nR t = true then (Zk t, 0) else (⟨0, [], [], []⟩, 1)) := by
  unfold Yh;rw [Un,bnd,Option.bind_some,ZF]
  by_cases h:nR t=true
  · have ht:=(yQ t).1 h
    have h0:=ht.st0;have h1:=ht.st1;rw [h,Bool.not_true,iteO_false,aQ ⟨h0,by omega⟩,if_pos rfl];obtain ⟨r,e,rfl⟩:=fC (step:=λq:aj×Nat=>Ym t q.1 q.2) (λ(l:aj) k=>(l,k)) t.states.toNat
      (λk l=>l.length=t.states.toNat/\ ∀i,i<k->nth l i 0= -1) (λr=>r=(Zk t,0))
      (λk l hk ⟨c1,c2⟩=> .inl ⟨l.set k (-1),by
        show Ym t l k=_;unfold Ym;rw [lq,bY (by omega),aQ (by omega)];rfl,by rw [eX];exact c1,λi hi=>by
          rw [nI]
          by_cases e1:k=i
          · rw [if_pos ⟨e1,by omega⟩]
          rw [if_neg (λh=>e1 h.1)];exact c2 i (by omega)⟩)
      (λl ⟨c1,c2⟩=>⟨(Zk t,0),by
        obtain ⟨on,bk,u1,u2,u3⟩:=x9_ ht;obtain ⟨num,v1,v2⟩:=xh_ ht u2 u3 c1 c2;show Ym t l _=_;unfold Ym;rw [lq,bK (by omega),iy u1];dsimp only;rw [iy v1];unfold I2_;show fin (aV _ _)=_;rw [sw_ ht v2,qa_];show fin (bnd (some (if nR (NW (jE t) t)=true then (srt (NW (jE t) t),0) else _)) _)=_;rw [if_pos ((yQ _).2 (xa_ ht))];rfl,rfl⟩)
      (s0:=List.replicate t.states.toNat 0) ⟨lq ..,λi hi=>by omega⟩
    exact e
  simp only [Bool.not_eq_true]at h;rw [h];rfl
theorem Zy{α:Type}{b:Bool}{x y:Option α}(h1:b=true-> ∃r,x=some r)(h2:b=false-> ∃r,y=some r): ∃r,aI b x y=some r:=by
  cases b with
  |true=>exact h1 rfl
  |false=>exact h2 rfl
theorem M_{α:Type}(x:α): ∃r,some x=some r:=⟨x,rfl⟩
theorem tu_(t:Fst)(i:Int): ∃r,UG t i=some r:=by
  unfold UG;exact Zy (λ_=>Zy (λ_=>M_ _) (λ_=>M_ _)) (λ_=>M_ _)
theorem ua_(t:Fst)(i:Int): ∃r,UM t i=some r:=by
  unfold UM;obtain ⟨r,h, -⟩:=fC (step:=λq:Int×Nat=>Gy t q.1 q.2) (λ(s:Int) k=>(s,k)) t.arcs.length (λ_ _=>True) (λ_=>True)
    (λk s hk _=>by
      show (∃s',Gy t s k=_/\_)\/ ∃r,Gy t s k=_/\_;unfold Gy;rw [bY (by omega)]
      by_cases h:s<=60
      · rw [bY h];exact .inl ⟨_,rfl,trivial⟩
      rw [bK h];obtain ⟨r,hr⟩:=tu_ t s;exact .inr ⟨r,by rw [hr];rfl,trivial⟩)
    (λs _=>by
      show ∃r,Gy t s _=_/\_;unfold Gy;rw [bK (by omega)];obtain ⟨r,hr⟩:=tu_ t s;exact ⟨r,by rw [hr];rfl,trivial⟩) (s0:=i) trivial
  exact ⟨r,h⟩
theorem uj_(t:Fst)(i:Int): ∃r,UH t i=some r:=by
  unfold UH;obtain ⟨r,h, -⟩:=fC (step:=λq:Int×Nat=>Gx t q.1 q.2) (λ(s:Int) k=>(s,k)) t.ends.length (λ_ _=>True) (λ_=>True)
    (λk s hk _=>by
      show (∃s',Gx t s k=_/\_)\/ ∃r,Gx t s k=_/\_;unfold Gx;rw [bY (by omega)]
      by_cases h:s<=60
      · rw [bY h];exact .inl ⟨_,rfl,trivial⟩
      rw [bK h];obtain ⟨r,hr⟩:=ua_ t s;exact .inr ⟨r,by rw [hr];rfl,trivial⟩)
    (λs _=>by
      show ∃r,Gx t s _=_/\_;unfold Gx;rw [bK (by omega)];obtain ⟨r,hr⟩:=ua_ t s;exact ⟨r,by rw [hr];rfl,trivial⟩) (s0:=i) trivial
  exact ⟨r,h⟩
theorem kk_(t:Fst): ∃r,PY t=some r:=by
  unfold PY;obtain ⟨r,h, -⟩:=fC (step:=λq:Int×Nat=>Gz t q.1 q.2) (λ(s:Int) k=>(s,k)) t.starts.length (λ_ _=>True) (λ_=>True)
    (λk s hk _=>by
      show (∃s',Gz t s k=_/\_)\/ ∃r,Gz t s k=_/\_;unfold Gz;rw [bY (by omega)]
      by_cases h:s<=60
      · rw [bY h];exact .inl ⟨_,rfl,trivial⟩
      rw [bK h];obtain ⟨r,hr⟩:=uj_ t s;exact .inr ⟨r,by rw [hr];rfl,trivial⟩)
    (λs _=>by
      show ∃r,Gz t s _=_/\_;unfold Gz;rw [bK (by omega)];obtain ⟨r,hr⟩:=uj_ t s;exact ⟨r,by rw [hr];rfl,trivial⟩) trivial
  exact ⟨r,h⟩
def su:Fst:=⟨3,[⟨0,[]⟩],[⟨2,[]⟩],[⟨0,1,BSet.ofL [97],[],false⟩,⟨0,2,BSet.ofL [98],[],false⟩]⟩
theorem t18_b:nR su=true:=by kernel_rfl
theorem use0:jE su 0=true:=nf_.2 ⟨.base ⟨⟨0,[]⟩,by simp [su],rfl⟩,.step (a:=2) (.base ⟨⟨2,[]⟩,by simp [su],rfl⟩) ⟨⟨0,2,BSet.ofL [98],[],false⟩,by simp [su],rfl,rfl⟩⟩
theorem use2:jE su 2=true:=nf_.2 ⟨.step (a:=0) (.base ⟨⟨0,[]⟩,by simp [su],rfl⟩) ⟨⟨0,2,BSet.ofL [98],[],false⟩,by simp [su],rfl,rfl⟩,.base ⟨⟨2,[]⟩,by simp [su],rfl⟩⟩
theorem back18{s:Int}(h:Rch (enS su) (arB su) s):s≠1:=by
  cases h with
  |base h=>
    obtain ⟨x,hx,rfl⟩:=h;simp only [su,List.mem_cons,List.not_mem_nil,or_false]at hx;rw [hx];decide
  |step _ he=>
    obtain ⟨x,hx, -,rfl⟩:=he;simp only [su,List.mem_cons,List.not_mem_nil,or_false]at hx;rcases hx with rfl|rfl<;>decide
theorem use1:jE su 1=false:=by
  cases h:jE su 1
  · rfl
  exact absurd rfl (back18 (nf_.1 h).2)
theorem ce_{p:Nat->Bool}(h0:p 0=true)(h1:p 1=false)(h2:p 2=true):NW p su=⟨2,[⟨0,[]⟩],[⟨1,[]⟩],[⟨0,1,BSet.ofL [98],[],false⟩]⟩:=by
  have n0:lQ p 0=0:=by unfold lQ;rw [show (0:Int).toNat=0 from rfl,h0];rfl
  have n1:lQ p 1= -1:=by unfold lQ;rw [show (1:Int).toNat=1 from rfl,h1];rfl
  have n2:lQ p 2=1:=by unfold lQ;rw [show (2:Int).toNat=2 from rfl,h2];simp [nH,h0,h1]
  have c3:nH p 3=2:=by simp [nH,h0,h1,h2]
  show (⟨((nH p 3:Nat):Int),_,_,_⟩:Fst)=_;rw [c3];simp only [su,uQ,xX,List.filterMap_cons,List.filterMap_nil,n0,n1,n2];rfl
theorem keep18:NW (jE su) su=⟨2,[⟨0,[]⟩],[⟨1,[]⟩],[⟨0,1,BSet.ofL [98],[],false⟩]⟩:=ce_ use0 use1 use2
theorem trim18:Zk su=⟨2,[⟨0,[]⟩],[⟨1,[]⟩],[⟨0,1,BSet.ofL [98],[],false⟩]⟩:=by
  unfold Zk;rw [keep18];unfold srt;rw [I8_ hm_ (List.pairwise_singleton ..),I8_ hm_ (List.pairwise_singleton ..),I8_ iy_ (List.pairwise_singleton ..)]
theorem lm_(t:Fst): ∃b,II t=some b:=by
  unfold II;obtain ⟨b,hb⟩:=kk_ t;rw [iy hb];exact Zy (λ_=>Zy (λ_=>M_ _) (λ_=>M_ _)) (λ_=>M_ _)
theorem x3_(l:T_1){i:Nat}(hi:i<l.length):l.drop i=nth l i 0::l.drop (i+1):=by
  rw [List.drop_eq_getElem_cons hi];have:=getD_some l hi (0:UInt8);rw [List.getElem?_eq_getElem hi]at this;rw [Option.some.inj this]
theorem x1_{d:Dfa}(h:jU d=true)(l:T_1): ∀(m k:Nat) (q:Int),l.length - k=m->k<=l.length->okS d q->aV (λq:Int×Nat=>Ie_ l d q.1 q.2) (q,k)=some (yK d q (l.drop k),0)
  |0,k,q,hm,hk,hq=>by
    have e:k=l.length:=by omega
    subst e;refine DU ?_;simp only [Ie_];rw [bK (by omega),List.drop_length];rfl
  |m+1,k,q,hm,hk,hq=>by
    have hs:=tl_ h hq (nth l k (0:UInt8));rw [x3_ l (by omega),yK,List.foldl_cons];refine Nh ?_ (x1_ h l m (k+1) (dlt d q (nth l k 0)) (by omega) (by omega) hs.nx);simp only [Ie_];rw [bY (by omega),aQ (show 0<=q/\q<(d.next.length:Int)from hq),aQ hs.cl,aQ hs.c];rfl
theorem tk_eq(d:Dfa)(l:T_1)(hl:l.length<=281474976710656):It_ d l=some (if jU d=true then (nth d.fin (yK d 0 l).toNat false,0) else (false,1)):=by
  unfold It_ Kr_;rw [aQ hl,aQ hl,lk_,gq]
  by_cases h:jU d=true
  · obtain ⟨m,hm1,hm2,hn1,hn2,hfl,_⟩:=Hu h
    rw [if_pos h,if_pos h,bK (by omega),bK (by omega),bK (by omega),x1_ h l _ 0 0 rfl (Nat.zero_le _) (ok0 h),gq];have hq:=y6_ h l (ok0 h);rw [List.drop_zero];simp only [];rw [bK (by omega),aQ (by rw [hfl];exact hq)]
  rw [if_neg h,if_neg h];rfl
structure GB (F:Fst):Prop where
  sN:F.starts.length<=1024
  eN:F.ends.length<=1024
  aN:F.arcs.length<=16384
  s: ∀x∈F.starts,x.out.length<=1024
  e: ∀x∈F.ends,x.out.length<=1024
  a: ∀x∈F.arcs,x.out.length<=1024
def Gr(g:Grow)(F:Fst):Prop:=g.over=true/\ ¬ GB F\/g=⟨F,false⟩/\GB F
theorem Gr.nil(n:Int):Gr ⟨⟨n,[],[],[]⟩,false⟩ ⟨n,[],[],[]⟩:= .inr ⟨rfl,by simp,by simp,by simp,by simp,by simp,by simp⟩
theorem Gr.st{g:Grow}{F:Fst}(h:Gr g F)(x:Tip):Gr (Zu g x) ⟨F.states,F.starts++[x],F.ends,F.arcs⟩:=by
  unfold Zu
  split
  · rename_i hn
    refine .inl ⟨rfl,λq=> ?_⟩;have hl:(F.starts++[x]).length<=1024:=q.sN;rw [gu,dN]at hl;have hx:=q.s x (List.mem_append_right _ (List.mem_singleton.2 rfl));rcases h with ⟨h,h2⟩|⟨rfl,h⟩
    · exact h2 ⟨by omega,q.eN,q.aN,λy hy=>q.s y (List.mem_append_left _ hy),q.e,q.a⟩
    rcases hn with hn|hn|hn
    · cases hn
    · have hn':1024<=F.starts.length:=hn
      omega
    omega
  rename_i hn
  rcases h with ⟨h, -⟩|⟨rfl,h⟩
  · exact absurd (.inl h) hn
  simp only [Bool.false_eq_true,false_or,not_or,Nat.not_le,Nat.not_lt]at hn;refine .inr ⟨rfl,?_,h.eN,h.aN,λy hy=> ?_,h.e,h.a⟩
  · simp only [gu,dN];omega
  rcases List.mem_append.1 hy with hy|hy
  · exact h.s y hy
  rw [List.mem_singleton.1 hy];exact hn.2
theorem Gr.en{g:Grow}{F:Fst}(h:Gr g F)(x:Tip):Gr (Zv g x) ⟨F.states,F.starts,F.ends++[x],F.arcs⟩:=by
  unfold Zv
  split
  · rename_i hn
    refine .inl ⟨rfl,λq=> ?_⟩;have hl:(F.ends++[x]).length<=1024:=q.eN;rw [gu,dN]at hl;have hx:=q.e x (List.mem_append_right _ (List.mem_singleton.2 rfl));rcases h with ⟨h,h2⟩|⟨rfl,h⟩
    · exact h2 ⟨q.sN,by omega,q.aN,q.s,λy hy=>q.e y (List.mem_append_left _ hy),q.a⟩
    rcases hn with hn|hn|hn
    · cases hn
    · have hn':1024<=F.ends.length:=hn
      omega
    omega
  rename_i hn
  rcases h with ⟨h, -⟩|⟨rfl,h⟩
  · exact absurd (.inl h) hn
  simp only [Bool.false_eq_true,false_or,not_or,Nat.not_le,Nat.not_lt]at hn;refine .inr ⟨rfl,h.sN,?_,h.aN,h.s,λy hy=> ?_,h.a⟩
  · simp only [gu,dN];omega
  rcases List.mem_append.1 hy with hy|hy
  · exact h.e y hy
  rw [List.mem_singleton.1 hy];exact hn.2
theorem Gr.ar{g:Grow}{F:Fst}(h:Gr g F)(x:Arc):Gr (Zx g x) ⟨F.states,F.starts,F.ends,F.arcs++[x]⟩:=by
  unfold Zx
  split
  · rename_i hn
    refine .inl ⟨rfl,λq=> ?_⟩;have hl:(F.arcs++[x]).length<=16384:=q.aN;rw [gu,dN]at hl;have hx:=q.a x (List.mem_append_right _ (List.mem_singleton.2 rfl));rcases h with ⟨h,h2⟩|⟨rfl,h⟩
    · exact h2 ⟨q.sN,q.eN,by omega,q.s,q.e,λy hy=>q.a y (List.mem_append_left _ hy)⟩
    rcases hn with hn|hn|hn
    · cases hn
    · have hn':16384<=F.arcs.length:=hn
      omega
    omega
  rename_i hn
  rcases h with ⟨h, -⟩|⟨rfl,h⟩
  · exact absurd (.inl h) hn
  simp only [Bool.false_eq_true,false_or,not_or,Nat.not_le,Nat.not_lt]at hn;refine .inr ⟨rfl,h.sN,h.eN,?_,h.s,h.e,λy hy=> ?_⟩
  · simp only [gu,dN];omega
  rcases List.mem_append.1 hy with hy|hy
  · exact h.a y hy
  rw [List.mem_singleton.1 hy];exact hn.2
def pS(F:Fst)(l:List Tip):Fst:=⟨F.states,F.starts++l,F.ends,F.arcs⟩
def pE(F:Fst)(l:List Tip):Fst:=⟨F.states,F.starts,F.ends++l,F.arcs⟩
def pA(F:Fst)(l:List Arc):Fst:=⟨F.states,F.starts,F.ends,F.arcs++l⟩
theorem pS_nil(F:Fst):pS F []=F:=by simp [pS]
theorem y7_(F:Fst):pE F []=F:=by simp [pE]
theorem un_(F:Fst):pA F []=F:=by simp [pA]
theorem y1_(F:Fst)(l:List Tip)(x:Tip):pS F (l++[x])=⟨(pS F l).states,(pS F l).starts++[x],(pS F l).ends,(pS F l).arcs⟩:=by simp [pS]
theorem xp_(F:Fst)(l:List Tip)(x:Tip):pE F (l++[x])=⟨(pE F l).states,(pE F l).starts,(pE F l).ends++[x],(pE F l).arcs⟩:=by simp [pE]
theorem xg_(F:Fst)(l:List Arc)(x:Arc):pA F (l++[x])=⟨(pA F l).states,(pA F l).starts,(pA F l).ends,(pA F l).arcs++[x]⟩:=by simp [pA]
theorem uc_(F:Fst)(l m:List Arc):pA (pA F l) m=pA F (l++m):=by simp [pA]
theorem pE_app(F:Fst)(l m:List Tip):pE (pE F l) m=pE F (l++m):=by simp [pE]
theorem rb_(n:Int)(l:List Tip){k:Nat}(h:k<l.length):shT n (l.take (k+1))=shT n (l.take k)++[⟨(nth l k bD).state+n,(nth l k bD).out⟩]:=by
  rw [jS l h bD];unfold shT;rw [List.map_append];rfl
theorem tx_(n:Int)(l:List Arc){k:Nat}(h:k<l.length):shA n (l.take (k+1))=shA n (l.take k)++[⟨(nth l k aO).frm+n,(nth l k aO).to+n,(nth l k aO).set,(nth l k aO).out,(nth l k aO).copy⟩]:=by
  rw [jS l h aO];unfold shA;rw [List.map_append];rfl
theorem xY{a:Int}(h: -100000<=a/\a<=100000):IntKind.i64.wrap a=a:=tJ (by omega) (by omega)
theorem sd_{l:List Tip}{up:Int}(hr: ∀x∈l, -100000<=x.state+up/\x.state+up<=100000){g:Grow}{F:Fst}(h:Gr g F): ∃g',Fd_ g l up=some g'/\Gr g' (pS F (shT up l)):=by
  unfold Fd_;refine fC (step:=λq:Int×(List Tip)×(List Tip)×(List Arc)×Bool×Nat=>YH l up q.1 q.2.1 q.2.2.1 q.2.2.2.1 q.2.2.2.2.1 q.2.2.2.2.2) (λ(s:Grow) k=>(s.f.states,s.f.starts,s.f.ends,s.f.arcs,s.over,k)) l.length
    (λk s=>Gr s (pS F (shT up (l.take k)))) _ (λk s hk hI=> ?_) (λs hI=> ?_) (s0:=g) (by simpa [shT,pS_nil]using h)
  · refine .inl ⟨Zu s ⟨(nth l k bD).state+up,(nth l k bD).out⟩,?_,?_⟩
    · show YH l up s.f.states s.f.starts s.f.ends s.f.arcs s.over k=_
      unfold YH;rw [bY (by omega),uq_,gq,xY (hr _ (jB hk _))];rfl
    rw [rb_ up l hk,y1_];exact hI.st _
  rw [List.take_length]at hI;refine ⟨s,?_,hI⟩;show YH l up s.f.states s.f.starts s.f.ends s.f.arcs s.over l.length=_;unfold YH;rw [bK (by omega)];rfl
theorem xq_{l:List Tip}{up:Int}(hr: ∀x∈l, -100000<=x.state+up/\x.state+up<=100000){g:Grow}{F:Fst}(h:Gr g F): ∃g',F5_ g l up=some g'/\Gr g' (pE F (shT up l)):=by
  unfold F5_;refine fC (step:=λq:Int×(List Tip)×(List Tip)×(List Arc)×Bool×Nat=>YB l up q.1 q.2.1 q.2.2.1 q.2.2.2.1 q.2.2.2.2.1 q.2.2.2.2.2) (λ(s:Grow) k=>(s.f.states,s.f.starts,s.f.ends,s.f.arcs,s.over,k)) l.length
    (λk s=>Gr s (pE F (shT up (l.take k)))) _ (λk s hk hI=> ?_) (λs hI=> ?_) (s0:=g) (by simpa [shT,y7_]using h)
  · refine .inl ⟨Zv s ⟨(nth l k bD).state+up,(nth l k bD).out⟩,?_,?_⟩
    · show YB l up s.f.states s.f.starts s.f.ends s.f.arcs s.over k=_
      unfold YB;rw [bY (by omega),end_eq,gq,xY (hr _ (jB hk _))];rfl
    rw [rb_ up l hk,xp_];exact hI.en _
  rw [List.take_length]at hI;refine ⟨s,?_,hI⟩;show YB l up s.f.states s.f.starts s.f.ends s.f.arcs s.over l.length=_;unfold YB;rw [bK (by omega)];rfl
theorem yb_{l:List Arc}{up:Int}(hr: ∀x∈l,(-100000<=x.frm+up/\x.frm+up<=100000)/\ -100000<=x.to+up/\x.to+up<=100000){g:Grow}{F:Fst}(h:Gr g F): ∃g',Ga_ g l up=some g'/\Gr g' (pA F (shA up l)):=by
  unfold Ga_;refine fC (step:=λq:Int×(List Tip)×(List Tip)×(List Arc)×Bool×Nat=>YD l up q.1 q.2.1 q.2.2.1 q.2.2.2.1 q.2.2.2.2.1 q.2.2.2.2.2) (λ(s:Grow) k=>(s.f.states,s.f.starts,s.f.ends,s.f.arcs,s.over,k)) l.length
    (λk s=>Gr s (pA F (shA up (l.take k)))) _ (λk s hk hI=> ?_) (λs hI=> ?_) (s0:=g) (by simpa [shA,un_]using h)
  · have hm:=hr _ (jB hk aO)
    refine .inl ⟨Zx s ⟨(nth l k aO).frm+up,(nth l k aO).to+up,(nth l k aO).set,(nth l k aO).out,(nth l k aO).copy⟩,?_,?_⟩
    · show YD l up s.f.states s.f.starts s.f.ends s.f.arcs s.over k=_
      unfold YD;rw [bY (by omega),arc_eq,gq,xY hm.1,xY hm.2];rfl
    rw [tx_ up l hk,xg_];exact hI.ar _
  rw [List.take_length]at hI;refine ⟨s,?_,hI⟩;show YD l up s.f.states s.f.starts s.f.ends s.f.arcs s.over l.length=_;unfold YD;rw [bK (by omega)];rfl
def GEnd(F:Fst)(r:Fst×Int):Prop:=r=(⟨0,[],[],[]⟩,2)/\(¬ GB F\/1024<F.states)\/r=(F,0)/\GB F/\F.states<=1024
theorem gend{g:Grow}{F:Fst}(h:Gr g F):GEnd F (Vl g):=by
  unfold Vl
  split
  · rename_i hn
    refine .inl ⟨rfl,?_⟩;rcases h with ⟨-,h⟩|⟨rfl,h⟩
    · exact .inl h
    rcases hn with hn|hn
    · cases hn
    exact .inr hn
  rename_i hn
  rcases h with ⟨h, -⟩|⟨rfl,h⟩
  · exact absurd (.inl h) hn
  simp only [Bool.false_eq_true,false_or,Int.not_lt]at hn;exact .inr ⟨rfl,h,hn⟩
theorem uo_(l:List Tip):shT 0 l=l:=by
  unfold shT;have:(λx:Tip=>(⟨x.state+0,x.out⟩:Tip))=id:=funext λx=>by rw [Int.add_zero];rfl
  rw [this,List.map_id]
theorem aaf_(l:List Arc):shA 0 l=l:=by
  unfold shA;have:(λx:Arc=>(⟨x.frm+0,x.to+0,x.set,x.out,x.copy⟩:Arc))=id:=funext λx=>by rw [Int.add_zero,Int.add_zero];rfl
  rw [this,List.map_id]
theorem both_go(a b:Fst):Je_ a b=some (nR a && nR b):=by
  unfold Je_;rw [Un,gq];cases ha:nR a
  · rfl
  rw [Un,gq];cases hb:nR b<;>rfl
theorem alt_go{a b:Fst}(ha:FstOk a)(hb:FstOk b): ∃r,J1_ a b=some r/\GEnd (fAlt a b) r:=by
  have a0:=ha.st0;have a1:=ha.st1;have b0:=hb.st0;have b1:=hb.st1;have rT0: ∀l:List Tip,(∀x∈l,(0<=x.state/\x.state<a.states)/\x.out.length<=1024)-> ∀x∈l, -100000<=x.state+0/\x.state+0<=100000:=λl hl x hx=>by have:=hl x hx;omega
  have rT1: ∀l:List Tip,(∀x∈l,(0<=x.state/\x.state<b.states)/\x.out.length<=1024)-> ∀x∈l, -100000<=x.state+a.states/\x.state+a.states<=100000:=λl hl x hx=>by have:=hl x hx;omega
  unfold J1_;rw [both_go,(yQ a).2 ha,(yQ b).2 hb,gq];simp only [Bool.and_self,Bool.not_true,iteO_false];rw [xY (by omega)];obtain ⟨g1,e1,h1⟩:=sd_ (rT0 _ ha.starts) (Gr.nil (a.states+b.states));rw [iy e1];obtain ⟨g2,e2,h2⟩:=sd_ (rT1 _ hb.starts) h1;rw [iy e2];obtain ⟨g3,e3,h3⟩:=xq_ (rT0 _ ha.ends) h2;rw [iy e3];obtain ⟨g4,e4,h4⟩:=xq_ (rT1 _ hb.ends) h3;rw [iy e4];obtain ⟨g5,e5,h5⟩:=yb_ (l:=a.arcs) (up:=0) (λx hx=>by have:=ha.arcs x hx;omega) h4;rw [iy e5];obtain ⟨g6,e6,h6⟩:=yb_ (l:=b.arcs) (up:=a.states) (λx hx=>by have:=hb.arcs x hx;omega) h5;rw [iy e6,iy (qw_ g6)];refine ⟨Vl g6,rfl,?_⟩;have:=gend h6;rw [uo_,uo_,aaf_]at this;exact this
end Go.Proofs.YtcfgkcfcddfccaaGreatDoor
end

noncomputable section
namespace Go.Proofs.YtcfgkcfcddfccaaGreatDoor
open Go Go.E Go.E.OpVal Go.E.OpOk Go.Proofs.Tryz
open List (replicate)
def Hp_(kU:Nat)(uo:FM Int BSet):Option (((FM Int BSet)×Nat)⊕((FM Int BSet))):=
 nxt (uo,(kU+1))
def Yv(x0:Dfa)(x2:BSet)(x1:Int)(yU:FM Int BSet)(kU:Nat):Option (((FM Int BSet)×Nat)⊕((FM Int BSet))):=
 aI (decide ((kU:Int)<(x0.cls.length:Int))) (aI (x2.has (kH (kU:Int)).toNat) (grd (0<=x1/\x1<(x0.next.length:Int)) (grd (0<=(nth x0.cls kU 0)/\(nth x0.cls kU 0)<((nth x0.next x1.toNat []).length:Int)) (grd ([(kH (kU:Int))].length<=1000000000000) (bnd (Ui (yU.get (nth (nth x0.next x1.toNat []) ((nth x0.cls kU 0).toNat) 0) BSet.zero) (BSet.ofL [(kH (kU:Int))])) (λv38=>Hp_ kU (yU.put (nth (nth x0.next x1.toNat []) ((nth x0.cls kU 0).toNat) 0) v38)))))) (Hp_ kU yU)) (fin (some yU))
def Iy_(x0:Dfa)(x1:Int)(x2:BSet):Option ((FM Int BSet)):=
 aV (λq:(FM Int BSet)×Nat=>Yv x0 x2 x1 q.1 q.2) ((FM.emp:FM Int BSet),0)
theorem Ll_{σ:ak}{x0:Dfa}{x1:Int}{x2:BSet}(aA:dV σ aB ay au x0.cls)(aG:RZ σ (bH 1 aB aW) (.slice aC x0.next.length aJ) x0.next)(aH:dV σ dL aK aF x0.fin){r:(FM Int BSet)}(hh:Iy_ x0 x1 x2=some r):
  Con prog 64 #[.agg #[.slice ay x0.cls.length au,.slice aC x0.next.length aJ,.slice aK x0.fin.length aF],.int .i64 x1,sK x2] σ [] (λv σ' H'=> ∃(br1:Option Nat),v= .map br1/\σ=σ'/\H'=[Res.mapB lN sK br1 r]):=by
 dsimp only [Iy_]at hh;have f0_0b:=aA.rv.big;have f0_1b:=aG.big;refine cM 44 Tryz.func64 (λw0=> ?_);refine R2 ?_;refine TL.bx (λLW=> ?_);refine TL.bx (λXM=> ?_);refine R4 ?_;refine κ z (bd_ (enc:=lN) (encV:=sK) z z z (λyC=> ?_));refine R11 ?_;refine TC.lp hh () (rgs [(8,3),(15,28)]) (λ⟨yU,kU⟩ _=>([(15,.int .i64 (kU:Int))],[ω LW #[.slice ay x0.cls.length au,.slice aC x0.next.length aJ,.slice aK x0.fin.length aF] 35,ω XM (setA x2) 47,Res.mapB lN sK (some yC) yU])) (ψ [1,2] 3) ?_;rintro ⟨yU,kU⟩ _ _ z1 hh hR1;dsimp only [Yv]at hh ⊢;refine R5 ?_;refine ι z hh (λmJ hh=> ?_) (λmJ hh=> ?_)
 ·refine R1 ?_;refine TC.cutG (α:=((FM Int BSet))×(Unit)) (rgs [(8,3),(17,25)]) (λg=>[]) (λg=>[ω LW #[.slice ay x0.cls.length au,.slice aC x0.next.length aJ,.slice aK x0.fin.length aF] 35,ω XM (setA x2) 47,Res.mapB lN sK (some yC) g.1]) (λg=>σ) (λg=>Hp_ kU g.1=some z1) ?_ (λg j hg=> ?_)
  ·refine R13 ?_;refine TL.w z (Nk z zV DC z) (κ z (eG (qy_ _ x2 (kH (kU:Int)).toNat (BSet.isOk _) (UInt8.toNat_lt _)) z z xd_ z z z ?_));refine R1 ?_;refine TC.cB z hh (λh116 hh=> ?_) (λh116 hh=> ?_)
   ·refine R5 ?_;obtain ⟨u23,hh⟩:=gd hh;refine TL.w z iX ?_;obtain ⟨Ov,KJ,hg117⟩:=RZ.seg aG x1.toNat (by omega);replace KJ:dV _ aB Ov.1 Ov.2 (nth x0.next x1.toNat []):=KJ;have hk117b:=KJ.rv.big;refine TL.w z (OpVal.of (wP z oV z hg117 z) (v':= .slice Ov.1 ((nth x0.next x1.toNat []).length) Ov.2) z) (TL.i z z ?_);obtain ⟨u26,hh⟩:=gd hh;refine R4 ?_;obtain ⟨u37,hh⟩:=gd hh;obtain ⟨v38,u38,hh⟩:=bQ hh;refine TC.draw [10] (by kernel_rfl) (ν 0 z (b5_ (.inl z) z) z (ν 1 z mI z (ν 2 z (b5_ (.inl z) z) z (ν 3 z mI z (Δ 4 z (OpVal.of (dd_ BSet.zero (q:=(nth (nth x0.next x1.toNat []) ((nth x0.cls kU 0).toNat) 0)) z underlying98 Fq z (i:=2) z z (qv_ zV)) (v':=sK (yU.get (nth (nth x0.next x1.toNat []) ((nth x0.cls kU 0).toNat) 0) BSet.zero)) z) z (ν 5 z mI z (ν 6 z (Nk z zV DC z) z (Φ 7 z (gX (enc:=qC) [(kH (kU:Int))] (λE_ ER=>(k1 ?_)))))))))));refine Φ 8 z (Nj (rv_ _ _ _ [(kH (kU:Int))] u37) z z Jl z z z z (k0 ?_));refine Φ 9 z (eG (Jm_ u38) z z Jo z z z (k0 ?_));refine Θ 2 z z (TA.last 10 (by kernel_rfl) z z z (updB (nth (nth x0.next x1.toNat []) ((nth x0.cls kU 0).toNat) 0) v38 z underlying98 z z z z (qv_ zV) ?_));refine R1 ?_;exact cf ((yU.put (nth (nth x0.next x1.toNat []) ((nth x0.cls kU 0).toNat) 0) v38),()) hh (ψ [2,2] 3)
   refine R1 ?_;exact cf (yU,()) hh (ψ [2,2,2] 3)
  obtain ⟨uo,_⟩:=g;have hh:=hg;clear hg
  try dsimp only
  dsimp only [Hp_]at hh;refine R4 ?_;exact E.nx hR1 hh () (ψ [2,2,2] 3)
 refine R1 ?_;replace hh:=bF hR1 hh;refine R6 ?_;refine TC.iH (ψ [2] 1) (θ ?_);obtain rfl:=so hh;exact rz
end Go.Proofs.YtcfgkcfcddfccaaGreatDoor
end

noncomputable section
namespace Go.Proofs.YtcfgkcfcddfccaaGreatDoor
open Go Go.Shelf
def zv_:Go.Shelf.Ren:=⟨fun|7=>66|10=>129|n=>n,fun|23=>98|26=>3|3=>47|28=>76|0=>0|27=>75|33=>159|4=>4|n=>n,fun|n=>n⟩
theorem layK:Go.Proofs.SlLaysZI.n7 Tryz.prog zv_:={
  mixed:=by kernel_rfl,
  f7:=⟨Tryz.f66.name,by decide,Tryz.func66.trans (congrArg some (by kernel_rfl))⟩,
  f10:=⟨Tryz.f129.name,by decide,Tryz.func129.trans (congrArg some (by kernel_rfl))⟩,
  t0:=Tryz.underlying0,
  a0:=Tryz.isAgg0,
  z0:=Tryz.sizeOf0,
  v0:=Tryz.zeroValue0,
  t4:=Tryz.underlying4,
  a4:=Tryz.isAgg4,
  z4:=Tryz.sizeOf4,
  v4:=Tryz.zeroValue4,
  t23:=Tryz.underlying98,
  a23:=Tryz.isAgg98,
  z23:=Tryz.sizeOf98,
  v23:=Tryz.zeroValue98,
  t26:=Tryz.underlying3,
  a26:=Tryz.isAgg3,
  z26:=Tryz.sizeOf3,
  v26:=Tryz.zeroValue3,
  t27:=Tryz.underlying75,
  a27:=Tryz.isAgg75,
  z27:=Tryz.sizeOf75,
  v27:=Tryz.zeroValue75,
  t28:=Tryz.underlying76,
  a28:=Tryz.isAgg76,
  z28:=Tryz.sizeOf76,
  v28:=Tryz.zeroValue76,
  t33:=Tryz.underlying159,
  a33:=Tryz.isAgg159,
  z33:=Tryz.sizeOf159,
  v33:=Tryz.zeroValue159}
def yi_:Go.Shelf.Ren:=⟨fun|10=>129|n=>n,fun|33=>159|23=>98|0=>0|4=>4|26=>3|3=>47|n=>n,fun|n=>n⟩
theorem layK1:Go.Proofs.SlLaysZI.n10 Tryz.prog yi_:={
  mixed:=by kernel_rfl,
  f10:=⟨Tryz.f129.name,by decide,Tryz.func129.trans (congrArg some (by kernel_rfl))⟩,
  t0:=Tryz.underlying0,
  a0:=Tryz.isAgg0,
  z0:=Tryz.sizeOf0,
  v0:=Tryz.zeroValue0,
  t4:=Tryz.underlying4,
  a4:=Tryz.isAgg4,
  z4:=Tryz.sizeOf4,
  v4:=Tryz.zeroValue4,
  t23:=Tryz.underlying98,
  a23:=Tryz.isAgg98,
  z23:=Tryz.sizeOf98,
  v23:=Tryz.zeroValue98,
  t26:=Tryz.underlying3,
  a26:=Tryz.isAgg3,
  z26:=Tryz.sizeOf3,
  v26:=Tryz.zeroValue3,
  t33:=Tryz.underlying159,
  a33:=Tryz.isAgg159,
  z33:=Tryz.sizeOf159,
  v33:=Tryz.zeroValue159}
def w0_:Go.Shelf.Ren:=⟨fun|6=>65|8=>127|9=>128|11=>174|13=>176|12=>175|23=>206|24=>207|14=>197|15=>198|16=>199|17=>200|18=>201|19=>202|20=>203|21=>204|22=>205|25=>230|26=>231|27=>232|28=>233|29=>234|30=>190|31=>251|n=>n,fun|26=>3|28=>76|24=>31|0=>0|3=>3|37=>181|48=>263|50=>45|4=>4|40=>257|39=>256|45=>158|5=>5|9=>9|51=>276|55=>280|57=>293|58=>294|33=>159|n=>n,fun|n=>n⟩
theorem layK6:Go.Proofs.SlLaysZI.n6 Tryz.prog w0_:={
  mixed:=by kernel_rfl,
  f6:=⟨Tryz.f65.name,by decide,Tryz.func65.trans (congrArg some (by kernel_rfl))⟩,
  f8:=⟨Tryz.f127.name,by decide,Tryz.func127.trans (congrArg some (by kernel_rfl))⟩,
  f11:=⟨Tryz.f174.name,by decide,Tryz.func174.trans (congrArg some (by kernel_rfl))⟩,
  t0:=Tryz.underlying0,
  a0:=Tryz.isAgg0,
  z0:=Tryz.sizeOf0,
  v0:=Tryz.zeroValue0,
  t24:=Tryz.underlying31,
  a24:=Tryz.isAgg31,
  z24:=Tryz.sizeOf31,
  v24:=Tryz.zeroValue31,
  t26:=Tryz.underlying3,
  a26:=Tryz.isAgg3,
  z26:=Tryz.sizeOf3,
  v26:=Tryz.zeroValue3,
  t28:=Tryz.underlying76,
  a28:=Tryz.isAgg76,
  z28:=Tryz.sizeOf76,
  v28:=Tryz.zeroValue76,
  i26:=by kernel_rfl}
end Go.Proofs.YtcfgkcfcddfccaaGreatDoor
end

noncomputable section
namespace Go.E
open Go
def _root_.Go.Result.w{α:Type}:Result α->World
  | .ok _ w=>w
  | .halt _ w=>w
theorem nq_{p:Program}{w:World}{at_ u a v b}{r:World×List Addr}(h:w.viewStore p at_ u a v b= .ok r):r.1.drawn=w.drawn:=by
  unfold World.viewStore at h;simp only [bind,Except.bind,pure,Except.pure]at h
  repeat (split at h<;>try (cases h;done))
  all_goals (first|(cases h;rfl)|skip)
theorem ox_{p:Program}{w:World}{a v b}{r:World×List Addr}(h:w.farStore p a v b= .ok r):r.1.drawn=w.drawn:=by
  unfold World.farStore at h
  split at h
  · split at h
    · rename_i h2;cases h;exact nq_ h2
    cases h
  cases h
theorem xe_{α:Type}: ∀(a:Ask α) (w:World),w.drawn<=(w.ask a).2.drawn:=by
  intro a
  induction a with
  |done a=>intro w;exact Nat.le_refl _
  |ask what range k ih=>
    intro w;unfold World.ask;dsimp only
    split
    · exact ih _ w
    exact Nat.le_trans (Nat.le_succ _) (ih _ {w with drawn:=w.drawn+1})
theorem r5_(w:World)(c:Sys):w.drawn<=(w.sys c).2.drawn:=by
  unfold World.sys;have:=xe_ (Kernel.perform c w.os) w
  split
  · exact Nat.le_refl _
  rename_i h;rw [h]at this;exact this
theorem li_ {α : Type} (p : Program) : ∀ (m : Sem α) (w : World), w.drawn <= (m.run p w).w.drawn := by
  intro m
  induction m with
  |pure a=>intro w;exact Nat.le_refl _
  |load m a k ih=>
    intro w;unfold Sem.run
    split
    · exact ih _ w
    split
    · exact ih _ w
    exact Nat.le_refl _
  | store m a v k ih =>
    intro w;have go:w.drawn<=(match w.cell? a with
        | some _ => if w.frozen? a then Result.halt (.unsupported (.unsafePointer "a write to bytes that a string shares")) w else k.run p (w.setCell a v)
        |none=>match w.farStore p a v (m == Mode.atomic)with
          | .ok (w,_)=>k.run p w
          | .error h=> .halt h w).w.drawn:=by
      split
      · split
        · exact Nat.le_refl _
        exact ih (w.setCell _ _)
      split
      · rename_i h;have:=ox_ h;dsimp only at this;rw [<-this];exact ih _
      exact Nat.le_refl _
    cases v<;>first|exact go|exact Nat.le_refl _
  |new o k ih=>intro w;exact ih _ {w with heap:=w.heap.push o}
  |shape r k ih=>intro w;exact ih _ _
  |freeze a n k ih=>
    intro w;have h:(w.freeze a n).drawn=w.drawn:=by unfold World.freeze;split<;>rfl
    show _<=(k.run p (w.freeze a n)).w.drawn;rw [<-h];exact ih _
  |frozen a k ih=>intro w;exact ih _ _
  |getObj r k ih=>intro w;unfold Sem.run;split<;>first|exact Nat.le_refl _|exact ih _ w
  |setObj r o k ih=>intro w;unfold Sem.run;split<;>first|exact Nat.le_refl _|exact ih {w with heap:=w.heap.setIfInBounds r o}
  |choose q k ih=>
    intro w;unfold Sem.run
    split
    · exact ih _ w
    exact Nat.le_trans (Nat.le_succ _) (ih _ {w with drawn:=w.drawn+1})
  |sys c k ih=>intro w;exact Nat.le_trans (r5_ w c) (ih _ _)
  |program k ih=>intro w;exact ih _ _
  |mark m k ih=>intro w;exact ih _
  |halt h=>intro w;exact Nat.le_refl _
theorem pv_{α:Type}(p:Program)(m:Sem α)(w:World)(es:Array Event):w.drawn<=(m.runT p w es).1.w.drawn:=by
  rw [Sem.runT_fst];exact li_ p m w
theorem xo_{α:Type}{p:Program}{m:Sem α}{w:World}{es es':Array Event}{r:Result α}(h:m.runT p w es=(r,es')):w.drawn<=r.w.drawn:=by
  have:=pv_ p m w es;rw [h]at this;exact this
theorem wH{α:Type}{p:Program}{m:Sem α}{w w':World}{v:α}(h:m.run p w= .ok v w'):w.drawn<=w'.drawn:=by
  have:=li_ p m w;rw [h]at this;exact this
theorem DL{α:Type}{p:Program}{m:Sem α}{w w':World}{v:Halt}(h:m.run p w= .halt v w'):w.drawn<=w'.drawn:=by
  have:=li_ p m w;rw [h]at this;exact this
def _root_.Go.GStep.w:GStep->World
  | .go _ w _=>w
  | .comm _ _ _ _ w _=>w
  | .spawn _ _ w _=>w
  | .count _ w _=>w
  | .timer _ _ w _=>w
  | .alone _ _ w _=>w
  | .newcoro _ _ _ w _=>w
  | .coroswitch _ _ _ w _=>w
  | .collect _ w _=>w
  | .watch _ w _=>w
  | .ended _ w _=>w
theorem Kz(es:Array Event)(s:GStep):(GStep.after es s).w=s.w:=by cases s<;>rfl
theorem qn_(w:World)(fd:Nat)(t:ByteArray)(o:Outcome):w.drawn<=(endWith w fd t o).w.drawn:=by
  unfold endWith;have h:=r5_ w (.write fd t);dsimp only
  split<;>rename_i h2<;>rw [h2]at h
  · split<;>exact h
  · exact h
  exact h
theorem lg_(p:Program)(fr:Frame)(v:Value)(w:World):(endPrinting p fr v w).w=w:=by
  unfold endPrinting;dsimp only
  repeat (first|rfl|split)
theorem j7_(p:Program)(fr:Frame)(cs:List Frame)(d:Option Dying)(m:String)(w:World):w.drawn<=(endFatal p fr cs d m w).w.drawn:=by
  unfold endFatal;dsimp only
  split<;>rename_i h2
  · exact wH h2
  · exact DL h2
  exact DL h2
theorem ZR(p:Program)(main:Bool)(fr:Frame)(cs:List Frame)(d:Option Dying)(v:Value)(w:World):(doReturn p main fr cs d v w).w=w:=by
  unfold doReturn
  repeat (first|rfl|split)
theorem QZ{c:Prop}[Decidable c]{a b:GStep}{n:Nat}(h1:n<=a.w.drawn)(h2:n<=b.w.drawn):n<=(if c then a else b).w.drawn:=by
  split
  · exact h1
  exact h2
theorem kw_(p:Program)(fr:Frame)(cs:List Frame)(dy:Option Dying)(d:Deferred)(w:World):w.drawn<=(callDeferred p fr cs dy d w).w.drawn:=by
  unfold callDeferred;refine QZ (Nat.le_refl _) ?_;have h:=pv_ p (invoke d.target d.args) w #[];generalize (invoke d.target d.args).runT p w #[]=q at h ⊢;obtain ⟨r,es⟩:=q;dsimp only at h ⊢;rw [Kz]
  split<;>first|exact h|(exact Nat.le_trans h (j7_ ..))|(split<;>exact h)
theorem rt_(p:Program)(main:Bool)(fr:Frame)(cs:List Frame)(dy:Option Dying)(w:World):w.drawn<=(unwind p main fr cs dy w).w.drawn:=by
  unfold unwind
  split
  · split
    rename_i r es hq
    have h0:=xo_ hq;rw [Kz]
    split<;>exact h0
  · exact kw_ ..
  split
  · exact Nat.le_refl _
  · split
    · exact Nat.le_refl _
    split
    · exact Nat.le_refl _
    split
    · split
      · exact Nat.le_refl _
      split<;>rename_i h2<;>first|exact wH h2|exact DL h2
    split
    · rw [lg_];exact Nat.le_refl _
    exact Nat.le_refl _
  split
  · rw [ZR];exact Nat.le_refl _
  split
  rename_i r es hq
  have h0:=xo_ hq;rw [Kz]
  split
  · rw [ZR];exact h0
  · exact h0
  exact h0
theorem sx_(p:Program)(fr:Frame)(cs:List Frame)(dy:Option Dying)(g:Nat)(w:World):w.drawn<=(early p fr cs dy g w).w.drawn:=by
  unfold early;dsimp only
  repeat (first|exact Nat.le_refl _|split)
  all_goals (dsimp only [GStep.w];first|exact wH (by assumption)|exact DL (by assumption))
theorem qk_(p:Program)(fr:Frame)(d:Dying)(f:Fatal)(w:World):w.drawn<=(writeOn p fr d f w).w.drawn:=by
  unfold writeOn;dsimp only
  split
  · exact Nat.le_refl _
  split<;>rename_i hq<;>exact xo_ hq
theorem w6_(p:Program)(fr:Frame)(d:Dying)(w:World):w.drawn<=(die p fr d w).w.drawn:=by
  unfold die
  split
  · exact qk_ ..
  split
  · split
    · exact Nat.le_refl _
    exact qn_ ..
  dsimp only
  split
  · exact Nat.le_refl _
  · split<;>rename_i h2<;>first|exact wH h2|exact DL h2
  · rw [Kz]
    split<;>first|exact Nat.le_refl _|(rename_i hq;rw [Sem.runT_fst]at hq;first|exact wH hq|exact DL hq|(rw [lg_];exact DL hq))
  exact Nat.le_refl _
theorem q0_(p:Program)(fr:Frame)(cs:List Frame)(dy:Option Dying)(s:Sem Next)(w:World)(li:Bool):w.drawn<=(stepG.apply p li fr cs dy s w).w.drawn:=by
  unfold stepG.apply;have e:(if li=true then s.runT p w #[] else (s.run p w, #[])).1=s.run p w:=by
    split
    · exact Sem.runT_fst ..
    rfl
  dsimp only;rw [Kz,e];have h:=li_ p s w;generalize s.run p w=r at h ⊢
  split<;>first|exact h|(split<;>exact h)|exact Nat.le_trans h (j7_ ..)|exact Nat.le_trans h (sx_ ..)|(split<;>first|exact h|(split<;>exact h))|exact QZ h h
theorem pg_(p:Program)(fr:Frame)(cs:List Frame)(dy:Option Dying)(w:World)(li:Bool):w.drawn<=(stepG.oper p li fr cs dy w).w.drawn:=by
  unfold stepG.oper
  split
  · exact Nat.le_refl _
  split<;>exact q0_ ..
theorem vy_ (p : Program) (main : Bool) (fr : Frame) (cs : List Frame) (dy : Option Dying) (w : World) (li : Bool) : w.drawn <= (stepG.exec p main li fr cs dy w).w.drawn := by
  unfold stepG.exec;dsimp only
  split
  all_goals try (with_reducible exact q0_ ..)
  all_goals try (with_reducible exact pg_ ..)
  all_goals try (dsimp only [GStep.w];with_reducible exact Nat.le_refl _)
  · split
    · exact QZ (Nat.le_refl _) (Nat.le_refl _)
    rw [Kz]
    split
    · rename_i hq
      rw [Sem.runT_fst]at hq;rw [ZR];exact wH hq
    rename_i hq
    rw [Sem.runT_fst]at hq;exact DL hq
  · split
    · exact QZ (Nat.le_refl _) (Nat.le_refl _)
    rw [Kz]
    split
    · rename_i hq
      rw [Sem.runT_fst]at hq;rw [ZR];exact wH hq
    rename_i hq
    rw [Sem.runT_fst]at hq;exact DL hq
  · split<;>exact Nat.le_refl _
  · generalize exitTo _ _=q
    cases q with
    |some t=>exact Nat.le_refl _
    |none=>
      dsimp only [Option.elim]
      split
      · exact QZ (Nat.le_refl _) (Nat.le_refl _)
      rw [Kz]
      split
      · rename_i hq
        rw [Sem.runT_fst]at hq;rw [ZR];exact wH hq
      rename_i hq
      rw [Sem.runT_fst]at hq;exact DL hq
  · generalize gotoIn _ _=q
    cases q with
    |some t=>exact Nat.le_refl _
    |none=>
      dsimp only [Option.elim]
      split
      · exact QZ (Nat.le_refl _) (Nat.le_refl _)
      rw [Kz]
      split
      · rename_i hq
        rw [Sem.runT_fst]at hq;rw [ZR];exact wH hq
      rename_i hq
      rw [Sem.runT_fst]at hq;exact DL hq
  · rw [Kz]
    split
    · rename_i hq
      rw [Sem.runT_fst]at hq;exact Nat.le_trans (wH hq) (q0_ ..)
    rename_i hq
    rw [Sem.runT_fst]at hq;exact DL hq
  · rw [Kz]
    split
    · rename_i hq
      rw [Sem.runT_fst]at hq;exact wH hq
    · rename_i hq
      rw [Sem.runT_fst]at hq;exact DL hq
    rename_i hq
    rw [Sem.runT_fst]at hq;exact DL hq
  · generalize Extern.next _=q
    cases q with
    |none=>exact Nat.le_refl _
    |some e=>exact q0_ ..
  · refine QZ (Nat.le_refl _) ?_
    split
    · rename_i hq
      exact wH hq
    rename_i hq
    exact DL hq
  exact QZ (pg_ ..) (Nat.le_refl _)
theorem step_le(p:Program)(main:Bool)(g:Goroutine)(w:World)(li:Bool):w.drawn<=(stepG p main g w li).w.drawn:=by
  unfold stepG;dsimp only
  split
  · exact w6_ ..
  · exact vy_ ..
  exact rt_ ..
def SL(n:Nat):Stepped->Prop
  | .next m=>n<=m.world.drawn
  | .ended _ _=>True
theorem o7_(p:Program)(gs:Array Goroutine)(rest:Rest)(w:World):SL w.drawn (look p gs rest w):=by
  unfold look
  split
  · dsimp only
    split
    · trivial
    split
    · trivial
    split
    · rename_i hq;exact Nat.le_trans (wH hq) (Nat.le_refl _)
    · trivial
    trivial
  trivial
theorem n7_{rest:Rest}{cases:Array CommCase}{w w':World}(h:waitingAt rest cases w=some w'):w'.drawn=w.drawn:=by
  unfold waitingAt at h
  split at h
  · split at h
    · cases h;rfl
    cases h
  cases h;rfl
theorem te_(p:Program)(m:Machine)(k:Nat):SL m.world.drawn (serve p m k):=by
  unfold serve
  split
  · trivial
  · exact Nat.le_refl _
  dsimp only
  split
  · trivial
  exact Nat.le_refl _
theorem l9_(p:Program)(rest:Rest)(gs:Array Goroutine)(i:Nat)(g:Goroutine)(cases:Array CommCase)(bl:Bool)(sh:CommShape)(w:World):SL w.drawn (communicate p rest gs i g cases bl sh w).1:=by
  unfold communicate;dsimp only
  split
  · trivial
  split
  · split
    · split
      · rename_i h;show w.drawn<=_;exact Nat.le_of_eq (n7_ h).symm
      trivial
    exact Nat.le_refl _
  split
  · trivial
  rename_i hq
  have h:=wH hq
  split
  · split
    · rename_i hr;exact Nat.le_trans (Nat.le_trans h (DL hr)) (Nat.le_refl _)
    trivial
  · exact h
  · exact h
  · split
    · exact h
    split
    · rename_i hr;exact Nat.le_trans (Nat.le_trans h (wH hr)) (Nat.le_refl _)
    trivial
  · exact h
  · exact h
  trivial
theorem drain_w(w:World)(c:Nat):(drain w c).2.drawn=w.drawn:=by
  unfold drain
  split<;>rfl
theorem ue_(m:Machine)(k:Nat)(t:Timer)(a b:Nat):(retime m k t a b).2.world.drawn=m.world.drawn:=by
  unfold retime;dsimp only;cases t.chan with
  |none=>rfl
  |some c=>exact drain_w ..
theorem wx_ {m m' : Machine} {op : TimerOp} {v : Value} (h : timerOp m op = .ok (v, m')) : m'.world.drawn = m.world.drawn := by
  have named: ∀{m0:Machine} {var:Addr} {f:Nat->Timer->Value×Machine},(∀k t,(f k t).2.world.drawn=m.world.drawn)->timerOp.named m0 var f= .ok (v,m')->m'.world.drawn=m.world.drawn:=λ{m0 var f} hf h=>by
    unfold timerOp.named at h
    split at h
    · rename_i k _
      have:=hf k (m0.rest.timers.getD k default);have h2:=Except.ok.inj h;rw [h2]at this;exact this
    cases h
  unfold timerOp at h
  split at h
  · split at h
    · cases h;rfl
    split at h
    · split at h
      · cases h
      cases h;rfl
    cases h
  · exact named (λk t=>ue_ ..) h
  · split at h
    · rename_i hm
      refine named (λk t=> ?_) h;rw [ue_];unfold timerOp.opened at hm
      split at hm
      · split at hm
        · cases hm;rfl
        cases hm
      cases hm;rfl
    cases h
  cases h;rfl
theorem runT_le(p:Program)(m:Machine)(i:Nat)(li:Bool):SL m.world.drawn (runT p m i li).1:=by
  unfold runT;dsimp only;generalize m.gs.swapAt! i {(default:Goroutine)with status:= .finished}=q
  obtain ⟨g,gs⟩:=q;dsimp only;have h:=step_le p (i == 0) g m.world li;generalize stepG p (i == 0) g m.world li=s at h ⊢;cases s with
  |ended o w es=>trivial
  |comm g cases bl sh w es=>
    have:=l9_ p m.rest gs i g cases bl sh w;dsimp only [GStep.w]at h ⊢;generalize (communicate p m.rest gs i g cases bl sh w).1=r at this ⊢;cases r with
    |next m'=>exact Nat.le_trans h this
    |ended _ _=>trivial
  |go g w es=>exact h
  |spawn g c w es=>exact h
  |count g w es=>
    dsimp only
    split
    · trivial
    exact h
  |alone g on w es=>exact h
  |collect g w es=>
    have:=o7_ p (gs.setIfInBounds i g) m.rest w;dsimp only [GStep.w]at h ⊢;generalize look p (gs.setIfInBounds i g) m.rest w=r at this ⊢;cases r with
    |next m'=>exact Nat.le_trans h this
    |ended _ _=>trivial
  |watch g w es=>exact h
  |newcoro g c d w es=>exact h
  |coroswitch g c ex w es=>
    dsimp only
    split
    · exact h
    · exact h
    trivial
  |timer g op w es=>
    dsimp only
    split
    · rename_i hq
      have:=wx_ hq;exact Nat.le_trans h (Nat.le_of_eq this.symm)
    · exact h
    · trivial
    trivial
def ML(n:Nat):Move->Prop
  | .goroutine m _=>n<=m.world.drawn
  | .machine s _=>SL n s
theorem SL.mono{n k:Nat}{s:Stepped}(h:SL k s)(hn:n<=k):SL n s:=by
  cases s with
  |next m=>exact Nat.le_trans hn h
  |ended _ _=>trivial
theorem kp_ (p : Program) (m : Machine) : ML m.world.drawn (askOn p m) := by
  unfold askOn;dsimp only;have pick: ∀(m0:Machine) (rs:List Nat),m.world.drawn<=m0.world.drawn->ML m.world.drawn (match (choose (.sched rs.length)).run p m0.world with
      | .halt _ w => .machine (.ended (.stuck "sched" "") w)
      | .ok k world=>
        if rs.length<=1 then .goroutine {m0 with world} (rs.getD k 0) else
        match (choose (.extern "sched.slice" 65536)).run p world with
        | .halt _ w => .machine (.ended (.stuck "sched.slice" "") w)
        | .ok n world=> .goroutine {m0 with world,rest:={m0.rest with slice:=if n=0 then none else some (rs.getD k 0,n)}} (rs.getD k 0)):=λm0 rs h=>by
    split
    · trivial
    rename_i hq
    split
    · exact Nat.le_trans h (wH hq)
    split
    · trivial
    rename_i hr
    exact Nat.le_trans (Nat.le_trans h (wH hq)) (wH hr)
  split
  · trivial
  rename_i k wd hq
  have h:=wH hq
  split
  · exact SL.mono (te_ p _ _) h
  split
  · split
    · exact h
    split
    · exact h
    split<;>trivial
  split
  · exact pick {m with world:=wd} _ h
  split
  · trivial
  · rename_i w2 hr
    exact pick {m with world:=w2} _ (Nat.le_trans h (wH hr))
  · rename_i w2 hr
    exact Nat.le_trans (Nat.le_trans h (wH hr)) (Nat.le_refl _)
  rename_i k2 w2 hr
  exact pick (Machine.advanceTo {m with world:=w2} _) _ (Nat.le_trans (Nat.le_trans h (wH hr)) (Nat.le_refl _))
theorem ML.mono{n k:Nat}{s:Move}(h:ML k s)(hn:n<=k):ML n s:=by
  cases s with
  |goroutine m _=>exact Nat.le_trans hn h
  |machine s _=>exact SL.mono h hn
theorem ask_m (p : Program) (m : Machine) : ML m.world.drawn (ask p m) := by
  unfold ask
  split
  · split
    · trivial
    · rename_i w2 hq
      have:=o7_ p m.gs m.rest w2
      split
      · rename_i hl
        rw [hl]at this;exact ML.mono (kp_ p _) (Nat.le_trans (wH hq) this)
      exact SL.mono this (wH hq)
    rename_i hq
    exact ML.mono (kp_ p _) (wH hq)
  exact kp_ p m
theorem v8_(p:Program)(m:Machine):ML m.world.drawn (move p m):=by
  unfold move
  split
  · split
    · exact Nat.le_refl _
    trivial
  split
  · split
    · exact Nat.le_refl _
    exact ask_m p _
  exact ask_m p m
theorem va_{p:Program}{m m':Machine}(h:step p m= .next m'):m.world.drawn<=m'.world.drawn:=by
  have hm:=v8_ p m;unfold step stepT at h;generalize move p m=mv at hm h;cases mv with
  |goroutine m0 i=>
    have:=runT_le p m0 i true;dsimp only at h;rw [h]at this;exact Nat.le_trans hm this
  |machine s ops=>
    dsimp only at h;rw [h]at hm;exact hm
theorem sr_{p:Program}{m m':Machine}(h:Steps p m m'):m.world.drawn<=m'.world.drawn:=by
  have h':=StepsIn.of_steps h;clear h
  induction h' with
  |refl=>exact Nat.le_refl _
  |head _ hs _ ih=>exact Nat.le_trans (va_ hs) ih
theorem og_{P:Program}{f:FuncId}{args:Array Value}{w:World}{R:Ending->World->Prop}(h:Calls P f args w R)(hr: ∀e w',R e w'-> ∃v,e= .returned v):Calls P f args w λe w'=>R e w'/\w.drawn<=w'.drawn:=λcs=>by
  obtain ⟨e,w',fr,h1,h2,h3⟩:=h cs;obtain ⟨v,rfl⟩:=hr e w' h1;exact ⟨_,w',fr,⟨h1,sr_ (m:=lone _ cs w) h2⟩,h2,h3⟩
end Go.E
end

noncomputable section
namespace Go.E
open Go Go.RowKit Go.Maps Go.Sort Go.Shelf Go.Proofs
theorem Con.keysI{P:Program}{ρ:Ren}(L:SlLaysZI.n7 P ρ){σ:ak}{f g E:Nat}(hf:ρ.f 7=f)(hg:ρ.f 10=g)(hE:ρ.t 23=E)(b:Option Nat):
    Con P f #[.map b] σ [] (λv σ' H'=> ∃bm,v= .func (.func g) #[] #[.pointer (some ⟨bm,0,none⟩)]/\σ=σ'/\H'=[ω bm #[.map b] E]):=by
  subst hf hg hE;intro w hw;refine ((callsIn_wide (n:=5)).1 (AnyZI.keys_in L Fence.wide 5 trivial rfl b w)).mono λe w' ⟨h1,h2⟩=>⟨_,σ,_,h1,⟨w.heap.size,rfl,rfl,rfl⟩,?_⟩;subst h2;exact hw.bw_ _ _
def xU{V:Type}(m:FM Int V):List Int:=open Classical in if h: ∃l:List Int,l.Pairwise (· < ·)/\ ∀k,k∈l↔m.f k≠none then Classical.choose h else []
theorem xm_ : ∀ {l m : List Int}, l.Pairwise (· < ·) -> m.Pairwise (· < ·) -> (∀ k, k ∈ l ↔ k ∈ m) -> l = m
  |[],[],_,_,_=>rfl
  |[],y::m,_,_,h=>absurd ((h y).2 (iZ ..)) List.not_mem_nil
  |x::l,[],_,_,h=>absurd ((h x).1 (iZ ..)) List.not_mem_nil
  | x :: l, y :: m, h1, h2, h => by
    have a1:=List.pairwise_cons.1 h1;have a2:=List.pairwise_cons.1 h2;have e:x=y:=by
      rcases List.mem_cons.1 ((h x).1 (iZ ..))with e|e
      · exact e
      rcases List.mem_cons.1 ((h y).2 (iZ ..))with e2|e2
      · exact e2.symm
      have b1:=a2.1 x e;have b2:=a1.1 y e2;omega
    subst e;rw [xm_ a1.2 a2.2 λk=> ?_];constructor
    · intro hk
      rcases List.mem_cons.1 ((h k).1 (qE _ hk))with e|e
      · have:=a1.1 k hk
        omega
      exact e
    intro hk;rcases List.mem_cons.1 ((h k).2 (qE _ hk))with e|e
    · have:=a2.1 k hk
      omega
    exact e
theorem qi_{V:Type}{m:FM Int V}{l:List Int}(h1:l.Pairwise (· < ·))(h2: ∀k,k∈l↔m.f k≠none):xU m=l:=by
  unfold xU;have h: ∃l:List Int,l.Pairwise (· < ·)/\ ∀k,k∈l↔m.f k≠none:=⟨l,h1,h2⟩;rw [dif_pos h];obtain ⟨g1,g2⟩:=Classical.choose_spec h;exact xm_ g1 h1 λk=>(g2 k).trans (h2 k).symm
end Go.E
namespace Go.E
open Go Go.RowKit Go.Maps Go.Sort Go.Shelf Go.Proofs
abbrev RK:Value->Option (DataW Unit×List MemPlace):=λ_=>some (.lit (.bool true),[])
theorem own_of{V:Type}{P:Program}{K:Nat}(hK:P.underlying K=some (.int .i64)){encV:V->Value}{w:World}{b:Nat}{m:FM Int V}{zs:List (MapEntry×(Int×V))}{clock:Nat}(hR:Rep (zs.map Prod.snd) m)(hM:MapAt (Value.int .i64) encV w b zs clock)(hk: ∀k,m.f k≠none->(Lit.int .i64 k).wf=true)(hn:m.n<=1000000):
    ∃D:DataW Unit,w.ownsMap P K RK b m.n D/\Maps.size D=m.n/\(∀k,k∈intKeys D↔m.f k≠none)/\(intKeys D).Nodup:=by
  obtain ⟨⟨es,h1,h2⟩,h3,h4,h5,h6⟩:=hM;have hlen:es.size=m.n:=by rw [<-Array.length_toList,h2,List.length_map,<-hR.len,List.length_map]
  have hrd: ∀z∈zs,Go.WideElems.rd P K RK z.1=some ((.int .i64 z.2.1,.lit (.bool true)):Lit×DataW Unit):=λz hz=>by
    have hkey:keyOf P K z.1.key=some (.int .i64 z.2.1):=by
      rw [h3 z hz];have hw:=hk z.2.1 (by rw [(hR.mem z.2.1 z.2.2).1 (List.mem_map.2 ⟨z,hz,rfl⟩)];simp);simp [keyOf,hK,mapKey,hw]
    unfold Go.WideElems.rd;rw [hkey];rfl
  have mem_f: ∀(l:List (Lit×DataW Unit)) (y:Lit×DataW Unit),y∈l.foldr DataW.insert []↔y∈l:=λl y=>by
    induction l with
    |nil=>exact Iff.rfl
    |cons x l ih=>rw [List.foldr_cons,ChangeMaps.mem_insert_iff,ih,List.mem_cons]
  have len_f: ∀l:List (Lit×DataW Unit),(l.foldr DataW.insert []).length=l.length:=λl=>by
    induction l with
    |nil=>rfl
    |cons x l ih=>rw [List.foldr_cons,DataW.length_insert,ih,List.length_cons]
  refine ⟨_,⟨es,clock,h1,⟨by rw [hlen];unfold maxLen;omega,⟨λx hx=> ?_,?_,?_⟩,λx hx=> ?_⟩,Nat.le_of_eq hlen,rfl⟩,?_,λk=> ?_,?_⟩
  · rw [h2,List.mem_map]at hx
    obtain ⟨z,hz,rfl⟩:=hx;exact h5 z hz
  · rw [h2,List.map_map];exact h6
  · rw [h2,List.map_map]
    have hnd:=hR.nodup;rw [List.map_map]at hnd;have e:zs.map ((λx=>x.key) ∘ Prod.fst)=(zs.map (Prod.fst ∘ Prod.snd)).map (Value.int .i64):=by
      rw [List.map_map];exact List.map_congr_left λz hz=>h3 z hz
    rw [e];exact List.Pairwise.map _ (λa b hne hq=>hne (by cases hq;rfl)) hnd
  · rw [h2,List.mem_map]at hx
    obtain ⟨z,hz,rfl⟩:=hx;exact ⟨_,hrd z hz⟩
  · show (List.foldr DataW.insert [] _).length=_
    rw [len_f,List.length_map,Array.length_toList,hlen]
  · show k∈List.map _ (List.foldr DataW.insert [] _)↔_
    rw [List.mem_map];constructor
    · rintro ⟨y,hy,rfl⟩
      rw [mem_f,List.mem_map]at hy;obtain ⟨x,hx,rfl⟩:=hy;rw [h2,List.mem_map]at hx;obtain ⟨z,hz,rfl⟩:=hx;have e:Go.WideElems.rg P K RK z.1=(.int .i64 z.2.1,.lit (.bool true)):=by unfold Go.WideElems.rg;rw [hrd z hz];rfl
      rw [e];show m.f z.2.1≠none;rw [(hR.mem z.2.1 z.2.2).1 (List.mem_map.2 ⟨z,hz,rfl⟩)];simp
    intro hne;cases hv:m.f k with
    |none=>exact absurd hv hne
    |some v=>
      obtain ⟨z,hz,e⟩:=List.mem_map.1 ((hR.mem k v).2 hv);refine ⟨Go.WideElems.rg P K RK z.1,(mem_f _ _).2 (List.mem_map.2 ⟨z.1,by rw [h2];exact List.mem_map.2 ⟨z,hz,rfl⟩,rfl⟩),?_⟩;have e2:Go.WideElems.rg P K RK z.1=(.int .i64 z.2.1,.lit (.bool true)):=by unfold Go.WideElems.rg;rw [hrd z hz];rfl
      rw [e2];show z.2.1=k;rw [e]
  show (List.map _ (List.foldr DataW.insert [] _)).Nodup;have perm_f: ∀l:List (Lit×DataW Unit),(l.foldr DataW.insert []).Perm l:=λl=>by
    induction l with
    |nil=>exact List.Perm.refl _
    |cons x l ih=>exact (WideShapes.insert_perm x _).trans (ih.cons x)
  refine ((perm_f _).map _).nodup_iff.2 ?_;have hnd:=hR.nodup;rw [List.map_map]at hnd;rw [h2,List.map_map,List.map_map];have e:zs.map (((λp:Lit×DataW Unit=>intOf p.1) ∘ Go.WideElems.rg P K RK) ∘ Prod.fst)=zs.map (Prod.fst ∘ Prod.snd):=List.map_congr_left λz hz=>by
    show intOf (Go.WideElems.rg P K RK z.1).1=z.2.1;unfold Go.WideElems.rg;rw [hrd z hz];rfl
  rw [e];exact hnd
theorem rh_{V:Type}{m:FM Int V}{ss L:List Int}(hp:ss.Perm L)(hm: ∀k,k∈L↔m.f k≠none)(hnd:L.Nodup):ss.mergeSort (λx y=>decide (x<=y))=xU m:=by
  have hps:=List.mergeSort_perm ss (λx y=>decide (x<=y));have hn:(ss.mergeSort λx y=>decide (x<=y)).Nodup:=(hps.trans hp).nodup_iff.2 hnd;have hs:(ss.mergeSort λx y=>decide (x<=y)).Pairwise λx y=>decide (x<=y)=true:=List.pairwise_mergeSort (λa b c h1 h2=>by simp at *;omega) (λa b=>by simp;omega) ss;refine (qi_ ?_ λk=> ?_).symm
  · refine List.Pairwise.imp₂ (R:=λx y=>decide (x<=y)=true) (S:=λx y=>x≠y) (λa b h1 h2=>by simp at h1;omega) hs hn
  rw [(hps.trans hp).mem_iff];exact hm k
theorem Con.di_{V:Type}{P:Program}{ρk ρs ρ9:Ren}(Lk:SlLaysZI.n10 P ρk)(Ls:SlLaysZI.n6 P ρs)(L9:Lays.n189 P ρ9)(h9:ρs.f 9=ρ9.f 189){encV:V->Value}{b bm T f g E:Nat}{m:FM Int V}{σ:ak}(hf:ρs.f 6=f)(hg:ρk.f 10=g)(hE:ρs.t 26=E)
    (e9: ∀args w,(callFunc (ρ9.f 189) args).run P w= .ok (.enter (ρ9.f 189) args) w) (eg: ∀args w,(callFunc g args).run P w= .ok (.enter g args) w) (hk: ∀k,m.f k≠none->(Lit.int .i64 k).wf=true) (hn:m.n<=1000000):
    Con P f #[.func (.func g) #[] #[.pointer (some ⟨bm,0,none⟩)]] σ [ω bm #[.map (some b)] T,Res.mapB (Value.int .i64) encV (some b) m]
      (λv σ' H'=> ∃a c,v= .slice a (xU m).length c/\σ=σ'/\H'=[ε E 1 aB (.slice a (xU m).length c) (xU m),ω bm #[.map (some b)] T,Res.mapB (Value.int .i64) encV (some b) m]):=by
  subst hf hg hE;intro w hw;have hc:w.heap[bm]? =some (.cells #[.map (some b)] T (0,0)):=hw.holds _ (iZ ..);obtain ⟨zs,clock,hR,hM⟩:=(hw.holds _ (qE _ (iZ ..))).2 b rfl;obtain ⟨D,hown,hsz,hkeys,hnd⟩:=own_of Lk.t26 hR hM hk hn;have hbm:bm<w.heap.size:=(Array.getElem?_eq_some_iff.1 hc).1;have hcell:w.cell? ⟨bm,0,none⟩=some (.map (some b)):=by simp [World.cell?,hc]
  have hseq:=AnyZI.keys_gives (ρ:=ρk) Lk Fence.wide 2 trivial rfl (by omega) bm b m.n D w hbm hcell hown;have hsorts:AnyZI.SortsIn P ρs Fence.wide 4:=⟨λblk off cap ss W h1 h2 h3=>by rw [h9];exact callsIn_wide.2 (Any.slices_Sort_int L9 blk off cap ss W h1 h2 h3),λp cap W=>by rw [h9];exact callsIn_wide.2 (Any.slices_Sort_int_none L9 p cap W)⟩;have cS:=AnyZI.sorted_in Ls Fence.wide 5 trivial trivial trivial trivial rfl (by omega) hsorts (by rw [h9];exact e9) (ρk.f 10) #[.pointer (some ⟨bm,0,none⟩)] trivial eg _ (Maps.size D) (by rw [hsz];unfold maxLen;omega) (by rw [hsz];omega) w hseq;refine (og_ (callsIn_wide.1 cS) (λe w' h=>by obtain ⟨v,ss,h,_⟩:=h;exact ⟨v,h⟩)).mono λe w' h=> ?_;obtain ⟨⟨v,ss,h1,h2,h3,h4,h5⟩,hdr⟩:=h;have hsk:=rh_ h2 hkeys hnd;have hlen:ss.length=(xU m).length:=by rw [<-hsk,List.length_mergeSort]
  rw [hsk,hlen]at h3;have hshape: ∃a c,v= .slice a (xU m).length c:=by
    rcases h3.2 with ⟨h,h0⟩|⟨gb,cap,cur,h,_⟩
    · exact ⟨none,0,by rw [h,h0]⟩
    exact ⟨_,_,h⟩
  obtain ⟨a,c,hv⟩:=hshape;subst hv;refine ⟨_,σ,_,h1,⟨a,c,rfl,rfl,rfl⟩,?_⟩;have hone: ∀u∈(xU m).flatMap aB,u.oneCell'=true:=λu hu=>by
    rw [ZN]at hu;obtain ⟨k,_,rfl⟩:=List.mem_map.1 hu;rfl
  refine hw.Ph (r':=ε (ρs.t 26) 1 aB (.slice a (xU m).length c) (xU m)) (Value.slice a (xU m).length c).ownBlock rfl h5.os h5.tape h5.output h5.size hdr (λk hk=>h5.block k hk) ⟨⟨?_,?_⟩,hone,?_⟩ ?_
  · rw [ZN,List.length_map,Nat.mul_one]
  · rw [ZN]
    rcases h3.2 with h|⟨gb,cap,cur,h,_,r⟩
    · exact .inl h
    exact .inr ⟨gb,cap,cur,h,Nat.zero_le _,r⟩
  · have hl:(intKeys D).length=Maps.size D:=by
      obtain ⟨_,_,_,_,_,hD⟩:=hown;rw [hD];exact List.length_map ..
    have:=h2.length_eq;omega
  intro k hk;rcases h3.2 with ⟨h,h0⟩|⟨gb,cap,cur,h,hb,_⟩
  · rw [h]at hk;cases hk
  rw [h]at hk;cases hk;exact hb
theorem Con.dk_{V:Type}{P:Program}{ρk ρs ρ9:Ren}(Lk:SlLaysZI.n10 P ρk)(Ls:SlLaysZI.n6 P ρs)(L9:Lays.n189 P ρ9)(h9:ρs.f 9=ρ9.f 189){encV:V->Value}{b:Option Nat}{bm T f g E:Nat}{m:FM Int V}{σ:ak}(hf:ρs.f 6=f)(hg:ρk.f 10=g)(hE:ρs.t 26=E)
    (e9: ∀args w,(callFunc (ρ9.f 189) args).run P w= .ok (.enter (ρ9.f 189) args) w) (eg: ∀args w,(callFunc g args).run P w= .ok (.enter g args) w) (hk: ∀k,m.f k≠none->(Lit.int .i64 k).wf=true) (hn:m.n<=1000000):
    Con P f #[.func (.func g) #[] #[.pointer (some ⟨bm,0,none⟩)]] σ [ω bm #[.map b] T,Res.mapB (Value.int .i64) encV b m]
      (λv σ' H'=> ∃a c,v= .slice a (xU m).length c/\σ=σ'/\H'=[ε E 1 aB (.slice a (xU m).length c) (xU m),ω bm #[.map b] T,Res.mapB (Value.int .i64) encV b m]):=by
  cases b with
  |some b=>exact Con.di_ Lk Ls L9 h9 hf hg hE e9 eg hk hn
  |none=>
    subst hf hg hE;intro w hw;have hc:w.heap[bm]? =some (.cells #[.map none] T (0,0)):=hw.holds _ (iZ ..);have hm:m=FM.emp:=(hw.holds _ (qE _ (iZ ..))).1 rfl;have hsk0:xU m=[]:=qi_ List.Pairwise.nil λk=>by rw [hm];simp [FM.emp]
    have hbm:bm<w.heap.size:=(Array.getElem?_eq_some_iff.1 hc).1;have hcell:w.cell? ⟨bm,0,none⟩=some (.map none):=by simp [World.cell?,hc]
    have hseq:=AnyZI.keys_gives_nil (ρ:=ρk) Lk Fence.wide 2 trivial rfl bm w hbm hcell;have hsorts:AnyZI.SortsIn P ρs Fence.wide 4:=⟨λblk off cap ss W h1 h2 h3=>by rw [h9];exact callsIn_wide.2 (Any.slices_Sort_int L9 blk off cap ss W h1 h2 h3),λp cap W=>by rw [h9];exact callsIn_wide.2 (Any.slices_Sort_int_none L9 p cap W)⟩;have cS:=AnyZI.sorted_in Ls Fence.wide 5 trivial trivial trivial trivial rfl (by omega) hsorts (by rw [h9];exact e9) (ρk.f 10) #[.pointer (some ⟨bm,0,none⟩)] trivial eg _ 0 (Nat.zero_le _) (by omega) w hseq;refine (og_ (callsIn_wide.1 cS) (λe w' h=>by obtain ⟨v,ss,h,_⟩:=h;exact ⟨v,h⟩)).mono λe w' h=> ?_;obtain ⟨⟨v,ss,h1,h2,h3,h4,h5⟩,hdr⟩:=h;subst h2;obtain rfl:=h4.2 rfl;refine ⟨_,σ,_,h1,⟨none,0,by rw [hsk0];rfl,rfl,rfl⟩,?_⟩;rw [hsk0];exact hw.Ph (r':=ε (ρs.t 26) 1 aB (.slice none 0 0) []) none rfl h5.os h5.tape h5.output h5.size hdr (λk hk=>h5.block k hk) ⟨⟨rfl,.inl ⟨rfl,rfl⟩⟩,λu hu=>absurd hu List.not_mem_nil,Nat.zero_le _⟩ (λk hk=>by cases hk)
def yu_{V:Type}(m:FM Int V):Prop:= ∀k,m.f k≠none->(Lit.int .i64 k).wf=true
instance {V:Type} (m:FM Int V):Decidable (yu_ m):=Classical.propDecidable _
end Go.E
end
