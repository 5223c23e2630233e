/- PushTells: for every input the law returns true, and each argument reads afterwards as it read before. No condition of ours. -/
import Derived.Test.YtchebnpdnfhenaaGreatDoorB24214c72ff
import Derived.Test.YtchebnpdnfhenaaGreatDoorBec12559f29
import Derived.Test.YtchebnpdnfhenaaGreatDoorBbfc8597c7a
import Derived.Test.YtchebnpdnfhenaaGreatDoorB6e9adb2c49
import Derived.Test.YtchebnpdnfhenaaGreatDoorB98e6ae1a54
import Derived.KernelRfl
import Derived.ProofKit
import Derived.SizedLaws
import Derived.Below
import Derived.LaidMore
import Derived.OpenShut
import Derived.MakeChecks
import Derived.Test.YtchebnpdnfhenaaGreatDoorRows
import Derived.WalkKit
import Derived.ShutString
import Derived.ChangeOld
import Derived.Test.YtchebnpdnfhenaaGreatDoorTie
import Derived.Test.YtchebnpdnfhenaaGreatDoorCards
import Derived.SevenTiedAt
import Derived.Stop.Joined

set_option linter.unusedVariables false
set_option linter.unusedSimpArgs false
set_option linter.unusedSectionVars false
set_option maxRecDepth 100000
set_option maxHeartbeats 8000000

noncomputable section
namespace Go.Proofs.YtchebnpdnfhenaaGreatDoor
open Go Go.E
theorem m8_(l m:aC):Rf l m=some (decide (l=m)):=by
  by_cases e:l=m
  · subst e;rw [ll_,decide_eq_true rfl]
  unfold Rf
  rw [decide_eq_false e]
  by_cases hl:l.length=m.length
  rotate_left
  · rw [bI (by omega)]
  rw [bK (by omega)]
  have:=WM (step:=λk:Nat=>Iy l m k) (good:=true) (bad:=false) l.length (λk=>decide (nth l k []=nth m k [])) (λk hk hp=>by
    rw [jV]at hp
    show Iy l m k=_
    unfold Iy
    rw [bI (by omega),aF (by omega),bK (λh=>h hp)];rfl) (λk hk hp=>by
    rw [decide_eq_false_iff_not]at hp
    show Iy l m k=_
    unfold Iy
    rw [bI (by omega),aF (by omega),bI hp];rfl) (by
    show Iy l m l.length=_
    unfold Iy
    rw [bK (by omega)];rfl)
  rw [this,if_neg]
  intro h
  have h:=Nw.1 h
  exact e (DK [] hl λi hi=>by have:=h i hi;rwa [jV]at this)
structure ApI (q:Seq) (l:List B_1):Prop where
  len:l.length=q.next.length
  row: ∀s,s<q.next.length->(nth l s []).length=q.next.length
  un: ∀s t,s<q.next.length->t<q.next.length->nth (nth l s []) t false=true->dh q s≠dh q t
  like: ∀s t,s<q.next.length->t<q.next.length->nth (nth l s []) t false=false->LikeQ q s t
def V3(q:Seq)(s t b:Nat):Bool:=decide (nxQ q s b<0) != decide (nxQ q t b<0)
def unB(q:Seq)(s t k:Nat):Bool:=(nth q.fin s false != nth q.fin t false) || decide (nth q.tail s []≠nth q.tail t []) || !decide (nth q.outs s []=nth q.outs t []) || (List.range k).any (V3 q s t)
theorem tv_(q:Seq)(s t k:Nat):unB q s t (k+1)=(unB q s t k || V3 q s t k):=by
  unfold unB;rw [o0_,<-Bool.or_assoc]
theorem uo_ {q : Seq} (hq : eP q = true) {s t : Nat} (hs : s < q.next.length) (ht : t < q.next.length) : unB q s t 256 = false ↔ LikeQ q s t := by
  unfold unB
  rw [Bool.or_eq_false_iff,Bool.or_eq_false_iff,Bool.or_eq_false_iff]
  constructor
  · rintro ⟨⟨⟨h1,h2⟩,h3⟩,h4⟩
    have h3:nth q.outs s []=nth q.outs t []:=by
      rw [Bool.not_eq_false']at h3;exact jg h3
    have h2:=jo h2
    refine ⟨by simpa using h1,Classical.not_not.1 h2,λb hb=> ?_,λb _=>by unfold otQ;rw [h3]⟩
    have:V3 q s t b=false:=by
      cases c:V3 q s t b with
      |false=>rfl
      |true=>
        have:=r5_.2 ⟨b,hb,c⟩
        rw [h4]at this;cases this
    unfold V3 at this
    have:=bne_eq_false_iff_eq.1 this
    rwa [decide_eq_decide]at this
  intro h
  have ho:nth q.outs s []=nth q.outs t []:=DK [] (by rw [(vX hq hs).2,(vX hq ht).2]) λb hb=>h.out b (by rw [(vX hq hs).2]at hb;exact hb)
  refine ⟨⟨⟨by rw [h.fin];simp,decide_eq_false λe=>e h.tail⟩,by rw [decide_eq_true ho];rfl⟩,?_⟩
  cases c:(List.range 256).any (V3 q s t)with
  |false=>rfl
  |true=>
    obtain ⟨b,hb,h1⟩:=r5_.1 c
    unfold V3 at h1
    have h2:=h.neg b hb
    rw [show decide (nxQ q s b<0)=decide (nxQ q t b<0) by rw [decide_eq_decide];exact h2]at h1
    simp at h1
def Iz(q:Seq)(s n:Nat):B_1:=(List.range n).map λt=>unB q s t 256
theorem y4_{q:Seq}(hq:eP q=true){i k:Nat}(hi:i<q.next.length)(hk:k<q.next.length){r:B_1}(hr:r.length=q.next.length):
    ∀{u:Bool},u=unB q i k 0-> ∃r',Vw k q i (r.set k u)=some (.inl (r',k+1))/\r'.length=q.next.length/\nth r' k false=unB q i k 256/\ ∀t,t≠k->nth r' t false=nth r t false:=by
  rintro _ rfl
  obtain ⟨i1,i2⟩:=vX hq hi
  obtain ⟨k1,k2⟩:=vX hq hk
  unfold Vw
  refine Exists.elim (kT (step:=λz:B_1×Nat=>Q5 k q i z.1 z.2) (λz b=>(z,b)) 256 (λb z=>z.length=q.next.length/\nth z k false=unB q i k b/\ ∀t,t≠k->nth z t false=nth r t false) (λx=> ∃r',x= .inl (r',k+1)/\r'.length=q.next.length/\nth r' k false=unB q i k 256/\ ∀t,t≠k->nth r' t false=nth r t false) ?_ ?_ (s0:=r.set k (unB q i k 0)) ⟨by rw [gy];exact hr,G6 (by omega),λt ht=>DI ht⟩) (λx l7=> ?_)
  · rintro b z hb ⟨z1,z2,z3⟩
    left
    show ∃s',Q5 k q i z b=some (.inl (s',b+1))/\_
    unfold Q5
    have e1:nth (nth q.next i []) b 0=nxQ q i b:=rfl
    have e2:nth (nth q.next k []) b 0=nxQ q k b:=rfl
    rw [bI (by omega),aF (by omega),z2]
    simp only [e1,e2]
    cases c:unB q i k b with
    |true=>
      rw [iteO_true,aF (by omega)]
      exact ⟨_,rfl,by rw [gy];exact z1,by rw [G6 (by omega),tv_,c];rfl,λt ht=>by rw [DI ht];exact z3 t ht⟩
    |false=>
      rw [iteO_false,aF (by omega),aF (by omega),aF (by omega)]
      exact ⟨_,rfl,by rw [gy];exact z1,by rw [G6 (by omega),tv_,c];rfl,λt ht=>by rw [DI ht];exact z3 t ht⟩
  · rintro z ⟨z1,z2,z3⟩
    refine ⟨.inl (z,k+1),?_,z,rfl,z1,z2,z3⟩
    show Q5 k q i z 256=_
    unfold Q5
    rw [bK (by omega)];rfl
  obtain ⟨h1,r',rfl,h2⟩:=l7
  exact ⟨r',h1,h2⟩
theorem u0_ {q : Seq} (hq : eP q = true) {i : Nat} (hi : i < q.next.length) {M : List B_1} (hM : M.length <= 1024) :
    bC (λz:B_1×Nat=>NY q i M z.1 z.2) (List.replicate q.next.length false,0)=some (.inl (M++[Iz q i q.next.length],i+1)):=by
  obtain ⟨q1,q2,q3,q4,q5⟩:=mW hq
  refine Exists.elim (kT (step:=λz:B_1×Nat=>NY q i M z.1 z.2) (λz k=>(z,k)) q.next.length (λk z=>z.length=q.next.length/\ ∀t,t<k->nth z t false=unB q i t 256) (λx=>x= .inl (M++[Iz q i q.next.length],i+1)) ?_ ?_ (s0:=List.replicate q.next.length false) ⟨by simp,λt ht=>absurd ht (Nat.not_lt_zero _)⟩) (λx l7=> ?_)
  · rintro k z hk ⟨z1,z2⟩
    left
    show ∃s',NY q i M z k=some (.inl (s',k+1))/\_
    have fini: ∀u:Bool,u=unB q i k 0-> ∃s',Vw k q i (z.set k u)=some (.inl (s',k+1))/\s'.length=q.next.length/\ ∀t,t<k+1->nth s' t false=unB q i t 256:=λu hu=>by
      obtain ⟨r',a1,a2,a3,a4⟩:=y4_ hq hi hk z1 hu
      refine ⟨r',a1,a2,λt ht=> ?_⟩
      by_cases c:t=k
      · rw [c];exact a3
      rw [a4 t c];exact z2 t (by omega)
    unfold NY
    rw [bI (by omega),aF (by omega),aF (by omega)]
    have hu:unB q i k 0=((nth q.fin i false != nth q.fin k false) || decide (nth q.tail i []≠nth q.tail k []) || !decide (nth q.outs i []=nth q.outs k [])):=by unfold unB;simp
    cases c1:(nth q.fin i false != nth q.fin k false)with
    |true=>
      rw [iteO_true,aF (by omega)]
      exact fini true (by rw [hu,c1];rfl)
    |false=>
      rw [iteO_false,aF (by omega),aF (by omega)]
      by_cases c2:nth q.tail i []≠nth q.tail k []
      · rw [bI c2,aF (by omega)]
        exact fini true (by rw [hu,c1,decide_eq_true c2];rfl)
      rw [bK c2,aF (by omega),aF (by omega),m8_,fD,aF (by omega)]
      exact fini _ (by rw [hu,c1,decide_eq_false c2];rfl)
  · rintro z ⟨z1,z2⟩
    refine ⟨_,?_,rfl⟩
    have e:z=Iz q i q.next.length:=DK false (by unfold Iz;rw [List.length_map,List.length_range];exact z1) λt ht=>by
      rw [z2 t (by omega)]
      unfold Iz
      rw [zB _ _ _ 0 _ (by rw [List.length_range];omega),Yw (by omega)]
    show NY q i M z q.next.length=_
    unfold NY
    rw [bK (by omega),aF (by simp only [kD];omega),e];rfl
  obtain ⟨h1,rfl⟩:=l7
  exact h1
def rowN(l:List B_1)(n i:Nat):Nat:=jk (unM (nth l i [])) n
def N8(l:List B_1)(n:Nat):Nat:=jk (rowN l n) n
theorem y6_{l:List B_1}{n i k:Nat}(hl:l.length=n)(hr:(nth l i []).length=n)(hi:i<n)(hk:k<n)(h:nth (nth l i []) k false=false):N8 (l.set i ((nth l i []).set k true)) n<N8 l n:=by
  have h1:=sn_ hk hr h
  have h2:=jc_ (f:=rowN l n) (g:=rowN (l.set i ((nth l i []).set k true)) n) (s:=i) (n:=n) hi λj _ hne=>by unfold rowN;rw [DI hne]
  have h3:rowN (l.set i ((nth l i []).set k true)) n i=jk (unM ((nth l i []).set k true)) n:=by unfold rowN;rw [G6 (by omega)]
  have h4:rowN l n i=jk (unM (nth l i [])) n:=rfl
  unfold N8
  omega
def StbQ(q:Seq)(l:List B_1)(s t:Nat):Prop:=nth (nth l s []) t false=false-> ∀b,b<256->0<=nxQ q s b->0<=nxQ q t b->nth (nth l (nxQ q s b).toNat []) (nxQ q t b).toNat false=false
structure ApP (q:Seq) (l0:List B_1) (i k:Nat) (l:List B_1) (t:Bool):Prop where
  a:ApI q l
  no:t=false->l=l0/\ ∀s t,s<q.next.length->t<q.next.length->(s<i\/s=i/\t<k)->StbQ q l s t
  yes:t=true->N8 l q.next.length<N8 l0 q.next.length
theorem wh_ {q : Seq} (hq : eP q = true) (hp : PshQ q) {l0 : List B_1} {i k : Nat} (hi : i < q.next.length) (hk : k < q.next.length) {l : List B_1} {t : Bool} (h : ApP q l0 i k l t) :
    ∃l' t',bC (λz:(List B_1)×Bool×Nat=>MV i k q z.1 z.2.1 z.2.2) (l,t,0)=some (.inl (l',t',k+1))/\ApP q l0 i (k+1) l' t':=by
  obtain ⟨i1,i2⟩:=vX hq hi
  obtain ⟨k1,k2⟩:=vX hq hk
  have next: ∀{l:List B_1} {t:Bool},ApP q l0 i k l t->(t=false->StbQ q l i k)->ApP q l0 i (k+1) l t:=λ{l t} h hs=>⟨h.a,λht=>⟨(h.no ht).1,λs u hs' hu hc=>by
    by_cases c:s<i\/s=i/\u<k
    · exact (h.no ht).2 s u hs' hu c
    have e1:s=i:=by omega
    have e2:u=k:=by omega
    rw [e1,e2];exact hs ht⟩,h.yes⟩
  refine Exists.elim (kT (step:=λz:(List B_1)×Bool×Nat=>MV i k q z.1 z.2.1 z.2.2) (λ(z:(List B_1)×Bool) b=>(z.1,z.2,b)) 256 (λb z=>ApP q l0 i k z.1 z.2/\(z.2=false->nth (nth z.1 i []) k false=false-> ∀c,c<b->0<=nxQ q i c->0<=nxQ q k c->nth (nth z.1 (nxQ q i c).toNat []) (nxQ q k c).toNat false=false)) (λx=> ∃l' t',x= .inl (l',t',k+1)/\ApP q l0 i (k+1) l' t') ?_ ?_ (s0:=(l,t)) ⟨h,λ_ _ c hc=>absurd hc (Nat.not_lt_zero _)⟩) (λx l7=> ?_)
  · rintro b ⟨l,t⟩ hb ⟨hA,hB⟩
    simp only at hA hB
    have hl:=hA.a.len
    have hr:=hA.a.row i hi
    have hxi:=oG hq hi hb
    have hxk:=oG hq hk hb
    show (∃s':(List B_1)×Bool,MV i k q l t b=some (.inl (s'.1,s'.2,b+1))/\_)\/ ∃r,MV i k q l t b=some (.inr r)/\_
    unfold MV
    have e1:nth (nth q.next i []) b 0=nxQ q i b:=rfl
    have e2:nth (nth q.next k []) b 0=nxQ q k b:=rfl
    rw [bI (by omega),aF (by omega),aF (by omega)]
    simp only [e1,e2]
    cases c:nth (nth l i []) k false with
    |true=>
      right
      rw [qK]
      exact ⟨_,rfl,l,t,rfl,next hA λ_ e=>by rw [c]at e;cases e⟩
    | false =>
      left
      have skip:(0<=nxQ q i b->0<=nxQ q k b->nth (nth l (nxQ q i b).toNat []) (nxQ q k b).toNat false=false)->ApP q l0 i k l t/\(t=false->nth (nth l i []) k false=false-> ∀c,c<b+1->0<=nxQ q i c->0<=nxQ q k c->nth (nth l (nxQ q i c).toNat []) (nxQ q k c).toNat false=false):=λhh=>⟨hA,λht hf d hd h1 h2=>by
        by_cases e:d<b
        · exact hB ht hf d e h1 h2
        have:d=b:=by omega
        subst this;exact hh h1 h2⟩
      rw [uj,aF (by omega),aF (by omega)]
      by_cases d1:0<=nxQ q i b
      · rw [bI  d1]
        by_cases d2:0<=nxQ q k b
        · have hrx:=hA.a.row (nxQ q i b).toNat (by omega)
          rw [bI d2,aF (by omega),aF (by omega)]
          cases d3:nth (nth l (nxQ q i b).toNat []) (nxQ q k b).toNat false with
          |true=>
            rw [iteO_true,aF (by omega),aF (by omega)]
            refine ⟨(_,_),rfl,⟨⟨by rw [gy];exact hl,λs hs=> ?_,λs u hs hu he=> ?_,λs u hs hu he=> ?_⟩,λe=>(by cases e),λ_=> ?_⟩,λe=>(by cases e)⟩
            · by_cases e:s=i
              · rw [e,G6 (by omega),gy];exact hr
              rw [DI e];exact hA.a.row s hs
            · have old: ∀s u,s<q.next.length->u<q.next.length->nth (nth l s []) u false=true->dh q s≠dh q u:=hA.a.un
              by_cases e:s=i
              · rw [e,G6 (by omega)]at he
                by_cases f:u=k
                · rw [e,f]
                  intro g
                  have:=(LV hp hp hi hk hb g d1).2.2
                  exact old _ _ (by omega) (by omega) d3 this
                rw [DI f]at he
                rw [e];exact old i u hi hu he
              rw [DI e]at he;exact old s u hs hu he
            · by_cases e:s=i
              · rw [e,G6 (by omega)]at he
                by_cases f:u=k
                · rw [f,G6 (by omega)]at he;cases he
                rw [DI f]at he
                rw [e];exact hA.a.like i u hi hu he
              rw [DI e]at he;exact hA.a.like s u hs hu he
            have h1:=y6_ hl hr hi hk c
            show N8 (l.set i ((nth l i []).set k true)) _<_
            cases t with
            |true=>have:=hA.yes rfl;omega
            |false=>rw [(hA.no rfl).1]at h1 ⊢;exact h1
          |false=>
            rw [iteO_false]
            exact ⟨(l,t),rfl,skip λ_ _=>d3⟩
        rw [bK d2]
        exact ⟨(l,t),rfl,skip λ_ h=>absurd h d2⟩
      rw [bK d1]
      exact ⟨(l,t),rfl,skip λh=>absurd h d1⟩
  · rintro ⟨l,t⟩ ⟨hA,hB⟩
    simp only at hA hB
    refine ⟨.inl (l,t,k+1),?_,l,t,rfl,next hA λht hf b hb=>hB ht hf b hb⟩
    show MV i k q l t 256=_
    unfold MV
    rw [bK (by omega)];rfl
  obtain ⟨h1,l',t',rfl,h2⟩:=l7
  exact ⟨l',t',h1,h2⟩
theorem w8_{q:Seq}(hq:eP q=true)(hp:PshQ q){l0:List B_1}(h0:ApI q l0): ∃l t,bC (λz:(List B_1)×Bool×Nat=>NZ q z.1 z.2.1 z.2.2) (l0,false,0)=some (.inl (l,t))/\ApP q l0 q.next.length 0 l t:=by
  refine Exists.elim (kT (step:=λz:(List B_1)×Bool×Nat=>NZ q z.1 z.2.1 z.2.2) (λ(z:(List B_1)×Bool) i=>(z.1,z.2,i)) q.next.length (λi z=>ApP q l0 i 0 z.1 z.2) (λx=> ∃l t,x= .inl (l,t)/\ApP q l0 q.next.length 0 l t) ?_ ?_ (s0:=(l0,false)) ⟨h0,λ_=>⟨rfl,λs t _ _ c=>absurd c (by omega)⟩,λe=>(by cases e)⟩) (λx l7=> ?_)
  · rintro i ⟨l,t⟩ hi hA
    simp only at hA
    left
    show ∃s':(List B_1)×Bool,NZ q l t i=some (.inl (s'.1,s'.2,i+1))/\_
    unfold NZ
    rw [bI (by omega)]
    refine Exists.elim (kT (step:=λz:(List B_1)×Bool×Nat=>QY q i z.1 z.2.1 z.2.2) (λ(z:(List B_1)×Bool) k=>(z.1,z.2,k)) q.next.length (λk z=>ApP q l0 i k z.1 z.2) (λx=> ∃l t,x= .inl (l,t,i+1)/\ApP q l0 (i+1) 0 l t) ?_ ?_ (s0:=(l,t)) hA) (λx l7=> ?_)
    · rintro k ⟨l,t⟩ hk hA
      simp only at hA
      left
      obtain ⟨l',t',a1,a2⟩:=wh_ hq hp hi hk hA
      refine ⟨(l',t'),?_,a2⟩
      show QY q i l t k=_
      unfold QY
      rw [bI (by omega),a1]
    · rintro ⟨l,t⟩ hA
      simp only at hA
      refine ⟨.inl (l,t,i+1),?_,l,t,rfl,hA.a,λht=>⟨(hA.no ht).1,λs u hs hu c=>(hA.no ht).2 s u hs hu (by omega)⟩,hA.yes⟩
      show QY q i l t q.next.length=_
      unfold QY
      rw [bK (by omega)];rfl
    obtain ⟨h1,l',t',rfl,h2⟩:=l7
    exact ⟨(l',t'),h1,h2⟩
  · rintro ⟨l,t⟩ hA
    simp only at hA
    refine ⟨.inl (l,t),?_,l,t,rfl,hA⟩
    show NZ q l t q.next.length=_
    unfold NZ
    rw [bK (by omega)];rfl
  obtain ⟨h1,l',t',rfl,h2⟩:=l7
  exact ⟨l',t',h1,h2⟩
structure G_ (q:Seq) (l:List B_1):Prop where
  len:l.length=q.next.length
  row: ∀s,s<q.next.length->(nth l s []).length=q.next.length
  iff: ∀s t,s<q.next.length->t<q.next.length->(nth (nth l s []) t false=false↔dh q s=dh q t)
theorem zj_ {q : Seq} (hq : eP q = true) (hp : PshQ q) : ∃ l, C5_ q = some l /\ G_ q l := by
  obtain ⟨q1,q2,q3,q4,q5⟩:=mW hq
  unfold C5_
  refine kT (step:=λz:(List B_1)×Nat=>QZ q z.1 z.2) (λz i=>(z,i)) q.next.length (λi z=>z=(List.range i).map λs=>Iz q s q.next.length) (λl=>G_ q l) ?_ ?_ (s0:=[]) rfl
  · rintro i _ hi rfl
    left
    refine ⟨_,?_,rfl⟩
    show QZ q _ i=_
    unfold QZ
    rw [bI (by omega),aF (by omega),u0_ hq hi (by rw [List.length_map,List.length_range];omega),List.range_succ,List.map_append];rfl
  rintro _ rfl
  show ∃r,QZ q _ q.next.length=some (.inr r)/\_
  have hrow: ∀s,s<q.next.length->nth ((List.range q.next.length).map λs=>Iz q s q.next.length) s []=Iz q s q.next.length:=λs hs=>by rw [zB _ _ _ 0 _ (by rw [List.length_range];exact hs),Yw hs]
  have hcell: ∀s t,t<q.next.length->nth (Iz q s q.next.length) t false=unB q s t 256:=λs t ht=>by
    unfold Iz
    rw [zB _ _ _ 0 _ (by rw [List.length_range];exact ht),Yw ht]
  have h0:ApI q ((List.range q.next.length).map λs=>Iz q s q.next.length):=by
    refine ⟨by simp,λs hs=>by rw [hrow s hs];unfold Iz;simp,λs t hs ht he e=> ?_,λs t hs ht he=> ?_⟩
    · rw [hrow s hs,hcell s t ht,(uo_ hq hs ht).2 (tj_ hp hq hs ht e)]at he;cases he
    rw [hrow s hs,hcell s t ht]at he;exact (uo_ hq hs ht).1 he
  obtain ⟨r,k1,k2⟩:=PE (step:=λz:(List B_1)×Bool=>Vy q z.1 z.2) (λz=>ApI q z.1/\(z.2=false-> ∀s t,s<q.next.length->t<q.next.length->StbQ q z.1 s t)) (λz=>N8 z.1 q.next.length+if z.2=true then 1 else 0) (λl=>G_ q l) (by
    rintro ⟨l,t⟩ ⟨hA,hD⟩
    simp only at hA hD
    show (∃t',Vy q l t=some (.inl t')/\_/\_)\/ ∃r,Vy q l t=some (.inr r)/\_
    unfold Vy
    cases t with
    |false=>
      right
      rw [iteO_false]
      refine ⟨l,rfl,hA.len,hA.row,λs t hs ht=>⟨λh=>funext λw=> ?_,λh=> ?_⟩⟩
      · refine bisim (n:=q.next.length) (λs b hs hb=>oG hq hs hb) (R:=λs t=>nth (nth l s []) t false=false) (λs t hs ht h=>hA.like s t hs ht h) (λs t b hs ht h hb hx=> ?_) w s t hs ht h
        have:=(hA.like s t hs ht h).neg b hb
        exact hD rfl s t hs ht h b hb hx (by omega)
      cases c:nth (nth l s []) t false with
      |false=>rfl
      |true=>exact absurd h (hA.un s t hs ht c)
    |true=>
      left
      rw [iteO_true]
      obtain ⟨l',t',a1,a2⟩:=w8_ hq hp hA
      refine ⟨_,a1,⟨a2.a,λe s t hs ht=>(a2.no e).2 s t hs ht (by omega)⟩,?_⟩
      show N8 l' _+(if t'=true then 1 else 0)<N8 l _+1
      cases t' with
      |false=>rw [(a2.no rfl).1];exact Nat.lt_succ_self _
      |true=>have:=a2.yes rfl;rw [if_pos rfl];omega) (t:=(_,true)) ⟨h0,λe=>(by cases e)⟩
  refine ⟨r,?_,k2⟩
  unfold QZ
  rw [bK (by omega),k1];rfl
end Go.Proofs.YtchebnpdnfhenaaGreatDoor
end

noncomputable section
namespace Go.Proofs.YtchebnpdnfhenaaGreatDoor
open Go Go.E
structure LkI (q:Seq) (L:ak) (j:Nat):Prop where
  len:L.length=j
  at': ∀s,s<j-> ∃a:Nat,nth L s 0=((a:Nat):Int)/\a<=s/\dh q a=dh q s/\ ∀m,m<a->dh q m≠dh q s
theorem LkI.iff{q:Seq}{L:ak}{n:Nat}(h:LkI q L n){s t:Nat}(hs:s<n)(ht:t<n):nth L s 0=nth L t 0↔dh q s=dh q t:=by
  obtain ⟨a,a1,a2,a3,a4⟩:=h.at' s hs
  obtain ⟨b,b1,b2,b3,b4⟩:=h.at' t ht
  constructor
  · intro e
    have:a=b:=by omega
    subst this
    exact a3.symm.trans b3
  intro e
  have h1: ¬ a<b:=λc=>b4 a c (a3.trans e)
  have h2: ¬ b<a:=λc=>a4 b c (b3.trans e.symm)
  omega
theorem LkI.fix{q:Seq}{L:ak}{n:Nat}(h:LkI q L n){s:Nat}(hs:s<n):0<=nth L s 0/\nth L s 0<((n:Nat):Int)/\nth L (nth L s 0).toNat 0=nth L s 0:=by
  obtain ⟨a,a1,a2,a3,a4⟩:=h.at' s hs
  refine ⟨by omega,by omega,?_⟩
  rw [a1,iW,<-a1]
  exact (h.iff (show a<n by omega) hs).2 a3
theorem like_in {q : Seq} (hn : q.next.length <= 1024) {U : List B_1} (hU : G_ q U) {j : Nat} (hj : j < q.next.length) {L : ak} (hL : LkI q L j) : ∃ a : Nat, bC (λz : Int × Int => Ri j U L z.1 z.2) (((j : Nat) : Int), ((j : Nat) : Int)) = some (.inl (L ++ [((a : Nat) : Int)], j + 1)) /\ LkI q (L ++ [((a : Nat) : Int)]) (j + 1) := by
  have hlen:=hL.len
  have hUl:=hU.len
  have hUr:=hU.row j hj
  obtain ⟨r,h1,a,rfl,h2,h3,h4⟩:=PE (step:=λz:Int×Int=>Ri j U L z.1 z.2) (λz=> -1<=z.2/\z.2<=((j:Nat):Int)/\ ∃a:Nat,z.1=((a:Nat):Int)/\a<=j/\z.2<=((a:Nat):Int)/\dh q a=dh q j/\ ∀m:Nat,z.2<((m:Nat):Int)->m<a->dh q m≠dh q j) (λz=>(z.2+1).toNat) (λx=> ∃a:Nat,x= .inl (L++[((a:Nat):Int)],j+1)/\a<=j/\dh q a=dh q j/\ ∀m,m<a->dh q m≠dh q j) (by
    rintro ⟨x,k⟩ ⟨i1,i2,a,rfl,i3,i4,i5,i6⟩
    simp only at i1 i2 i4 i6
    show (∃t',Ri j U L ((a:Nat):Int) k=some (.inl t')/\_/\_)\/ ∃r,Ri j U L ((a:Nat):Int) k=some (.inr r)/\_
    unfold Ri
    by_cases c:0<=k
    · left
      obtain ⟨k',rfl⟩: ∃k':Nat,k=((k':Nat):Int):=⟨k.toNat,by omega⟩
      have hkn:k'<q.next.length:=by omega
      have hw:IntKind.i64.wrap (((k':Nat):Int) - 1)=((k':Nat):Int) - 1:=UM (by omega) (by omega)
      rw [bI c,aF (by omega),aF (by omega),iW,hw]
      have hiff:=hU.iff j k' hj hkn
      cases d:nth (nth U j []) k' false with
      |false=>
        rw [uj]
        refine ⟨_,rfl,⟨by show -1<=((k':Nat):Int) - 1;omega,by show ((k':Nat):Int) - 1<=_;omega,k',rfl,by omega,by show ((k':Nat):Int) - 1<=_;omega,(hiff.1 d).symm,λm hm hm2=> ?_⟩,?_⟩
        · have hm:((k':Nat):Int) - 1<((m:Nat):Int):=hm
          omega
        show (((k':Nat):Int) - 1+1).toNat<(((k':Nat):Int)+1).toNat
        omega
      |true=>
        rw [qK]
        have hne:dh q k'≠dh q j:=λe=>by
          have:=hiff.2 e.symm
          rw [d]at this;cases this
        have hak:k'≠a:=λe=>by subst e;exact hne i5
        refine ⟨_,rfl,⟨by show -1<=((k':Nat):Int) - 1;omega,by show ((k':Nat):Int) - 1<=_;omega,a,rfl,i3,by show ((k':Nat):Int) - 1<=_;omega,i5,λm hm hm2=> ?_⟩,?_⟩
        · have hm:((k':Nat):Int) - 1<((m:Nat):Int):=hm
          by_cases e:m=k'
          · rw [e];exact hne
          exact i6 m (by omega) hm2
        show (((k':Nat):Int) - 1+1).toNat<(((k':Nat):Int)+1).toNat
        omega
    right
    rw [bK c,aF (by simp only [kD];omega)]
    exact ⟨_,rfl,a,rfl,i3,i5,λm hm=>i6 m (by omega) hm⟩) (t:=(((j:Nat):Int),((j:Nat):Int))) ⟨by show -1<=((j:Nat):Int);omega,Int.le_refl _,j,rfl,Nat.le_refl _,Int.le_refl _,rfl,λm hm hm2=>by have hm:((j:Nat):Int)<((m:Nat):Int):=hm;omega⟩
  refine ⟨a,h1,by rw [gB,kD];omega,λs hs=> ?_⟩
  by_cases c:s<j
  · rw [G7 (by omega)];exact hL.at' s c
  have:s=j:=by omega
  subst this
  have e:=LX L ((a:Nat):Int) 0
  rw [hlen]at e
  exact ⟨a,e,h2,h3,h4⟩
def Sl(b:Nat)(row:ak)(k:Nat)(st:ak):Option ((ak×ak×Nat)⊕((bZ×fO×B_1×aC×ak×Nat)⊕(Seq×Int))):=
  grd (b<(row.set b (-1)).length) (nxt (st,(row.set b (-1)).set b ((k:Nat):Int),b+1))
theorem find_ok {p : Seq × Int} {L st ord row : ak} {i b : Nat} (hst : st.length <= 100000) (to : Int) (hto : nth L (nth (nth p.1.next (nth ord i 0).toNat []) b 0).toNat 0 = to) :
    (∃j,j<st.length/\nth st j 0=to/\bC (λz:Nat×Nat=>yV st L p ord i b row z.1 z.2) (st.length,0)=Sl b row j st)\/((∀j,j<st.length->nth st j 0≠to)/\bC (λz:Nat×Nat=>yV st L p ord i b row z.1 z.2) (st.length,0)=Sl b row st.length (st++[to])):=by
  have key: ∀(m k a:Nat),st.length - k=m->k<=st.length->(a<st.length/\nth st a 0=to\/a=st.length/\ ∀j,j<k->nth st j 0≠to)-> ∀R,yV st L p ord i b row (if (∃j,j<st.length/\nth st j 0=to) then 0 else 0) k=yV st L p ord i b row 0 k->R=bC (λz:Nat×Nat=>yV st L p ord i b row z.1 z.2) (a,k)->
      (∃j,j<st.length/\nth st j 0=to/\R=Sl b row j st)\/((∀j,j<st.length->nth st j 0≠to)/\R=Sl b row st.length (st++[to])):=by
    intro m
    induction m with
    |zero=>
      intro k a hm hk ha R _ hR
      have hk:k=st.length:=by omega
      subst hk
      have hd: ∀X,yV st L p ord i b row a st.length=fin X->bC (λz:Nat×Nat=>yV st L p ord i b row z.1 z.2) (a,st.length)=X:=λX hX=>by
        cases hx:X with
        |some x=>exact zD (by show yV st L p ord i b row a st.length=_;rw [hX,hx];rfl)
        |none=>
          cases hq:bC (λz:Nat×Nat=>yV st L p ord i b row z.1 z.2) (a,st.length)with
          |none=>rfl
          |some r=>
            obtain ⟨z,hz,_⟩:=gJ hq
            have hz:yV st L p ord i b row a st.length=some z:=hz
            rw [hX,hx]at hz;cases hz
      have hun:yV st L p ord i b row a st.length=fin (aN (decide (((a:Nat):Int)=((st.length:Nat):Int))) (Sl b row a (st++[to])) (Sl b row a st)):=by
        unfold yV
        rw [bK (by omega),hto,aF (by simp only [kD];omega)];rfl
      rw [hd _ hun]at hR
      rcases ha with ⟨a1,a2⟩|⟨a1,a2⟩
      · left
        rw [bK (by omega)]at hR
        exact ⟨a,a1,a2,hR⟩
      right
      subst a1
      rw [bI rfl]at hR
      exact ⟨a2,hR⟩
    |succ m ih=>
      intro k a hm hk ha R _ hR
      have hks:k<st.length:=by omega
      by_cases c:nth st k 0=to
      · refine ih (k+1) k (by omega) (by omega) (.inl ⟨hks,c⟩) R (by split<;>rfl) ?_
        rw [hR]
        refine ur_ ?_
        show yV st L p ord i b row a k=_
        unfold yV
        rw [bI (by omega),hto,bI c];rfl
      refine ih (k+1) a (by omega) (by omega) ?_ R (by split<;>rfl) ?_
      · rcases ha with ha|⟨a1,a2⟩
        · exact .inl ha
        refine .inr ⟨a1,λj hj=> ?_⟩
        by_cases e:j=k
        · rw [e];exact c
        exact a2 j (by omega)
      rw [hR]
      refine ur_ ?_
      show yV st L p ord i b row a k=_
      unfold yV
      rw [bI (by omega),hto,bK c];rfl
  exact key _ 0 st.length rfl (Nat.zero_le _) (.inr ⟨rfl,λj hj=>absurd hj (Nat.not_lt_zero _)⟩) _ (by split<;>rfl) rfl
def clR(L:ak)(s:Nat):Int:=nth L s 0
structure RowI (q:Seq) (L st:ak) (V:Nat->Int) (i b:Nat) (st' row:ak) (V':Nat->Int):Prop where
  bf:BfI q (clR L) st' V' (i * 256+b)
  fx: ∀j,j<st'.length->nth L (nth st' j 0).toNat 0=nth st' j 0
  ex: ∃X,st'=st++X
  len:row.length=256
  at': ∀c,c<b->nth row c 0=V' (i * 256+c)
  old: ∀c,c<i * 256->V' c=V c
theorem bfR_le{q:Seq}{cl:Nat->Int}{st:ak}{V:Nat->Int}{code:Nat}(h:BfI q cl st V code):st.length<=q.next.length:=by
  refine uf_ (n:=st.length) (f:=λs=>s) (g:=λj=>(nth st j 0).toNat) (λk hk=>⟨k,hk,rfl⟩) (λs hs=>by have:=h.rng s hs;show (nth st s 0).toNat<_;omega) λs t hs ht e=> ?_
  have e:(nth st s 0).toNat=(nth st t 0).toNat:=e
  exact h.dist s t hs ht (by rw [e])
theorem rrow_in{q:Seq}(hq:eP q=true){L:ak}(hL:LkI q L q.next.length){st:ak}{V:Nat->Int}{i:Nat}(hi:i<st.length)(h:BfI q (clR L) st V (i * 256))(hfx: ∀j,j<st.length->nth L (nth st j 0).toNat 0=nth st j 0)(e:Int){N:bZ}{O:fO}{F:B_1}{T:aC}(hN:N.length<=1024)(hO:O.length<=1024)(hF:F.length<=1024)(hT:T.length<=1024):
    ∃st' row V',bC (λz:ak×ak×Nat=>NS st i (q,e) L N O F T z.1 z.2.1 z.2.2) (st,List.replicate 256 0,0)=some (.inl (N++[row],O++[nth q.outs (nth st i 0).toNat []],F++[nth q.fin (nth st i 0).toNat false],T++[nth q.tail (nth st i 0).toNat []],st',i+1))/\RowI q L st V i 256 st' row V':=by
  obtain ⟨q1,q2,q3,q4,q5⟩:=mW hq
  have hLl:=hL.len
  have hs:=h.rng i hi
  obtain ⟨s,hs'⟩: ∃s:Nat,nth st i 0=((s:Nat):Int):=⟨(nth st i 0).toNat,by omega⟩
  have hsn:s<q.next.length:=by omega
  obtain ⟨r1,r2⟩:=vX hq hsn
  rw [hs',iW]
  refine Exists.elim (kT (step:=λz:ak×ak×Nat=>NS st i (q,e) L N O F T z.1 z.2.1 z.2.2) (λ(z:ak×ak) b=>(z.1,z.2,b)) 256 (λb z=> ∃V',RowI q L st V i b z.1 z.2 V') (λx=> ∃st' row V',x= .inl (N++[row],O++[nth q.outs s []],F++[nth q.fin s false],T++[nth q.tail s []],st',i+1)/\RowI q L st V i 256 st' row V') ?_ ?_ (s0:=(st,List.replicate 256 0)) ⟨V,h,hfx,⟨[],by simp⟩,by simp,λc hc=>absurd hc (Nat.not_lt_zero _),λc _=>rfl⟩) (λx l7=> ?_)
  · rintro b ⟨st1,row⟩ hb ⟨V1,k1,k2,⟨X,k3⟩,k4,k5,k6⟩
    simp only at k1 k2 k3 k4 k5 k6
    have hst1:i<st1.length:=by rw [k3,gB];omega
    have hat:nth st1 i 0=((s:Nat):Int):=by rw [k3,G7 hi];exact hs'
    have hd1:(i * 256+b) / 256=i:=by omega
    have hd2:(i * 256+b) % 256=b:=by omega
    have hlt:=oG hq hsn hb
    have hge:=sh_ hq hsn hb
    have hle:=bfR_le k1
    have hcell:nxQ q (nth st1 ((i * 256+b) / 256) 0).toNat ((i * 256+b) % 256)=nxQ q s b:=by rw [hd1,hd2,hat,iW]
    have e1:nth (nth q.next s []) b 0=nxQ q s b:=rfl
    have rows: ∀{z:Int} {r:ak},r.length=256->(∀c,c≠b->nth r c 0=nth row c 0)->nth r b 0=z-> ∀c,c<b+1->nth r c 0=upd V1 (i * 256+b) z (i * 256+c):=λ{z r} h1 h2 h3 c hc=>by
      by_cases f:c=b
      · rw [f,SX];exact h3
      rw [h2 c f,Am _ _ (by omega)];exact k5 c (by omega)
    have olds: ∀z c,c<i * 256->upd V1 (i * 256+b) z c=V c:=λz c hc=>by rw [Am _ _ (by omega)];exact k6 c hc
    have two: ∀z:Int,((row.set b (-1)).set b z).length=256/\(∀c,c≠b->nth ((row.set b (-1)).set b z) c 0=nth row c 0)/\nth ((row.set b (-1)).set b z) b 0=z:=λz=>⟨by simp [k4],λc hc=>by rw [DI hc,DI hc],G6 (by simp;omega)⟩
    left
    show ∃s':ak×ak,NS st i (q,e) L N O F T st1 row b=some (.inl (s'.1,s'.2,b+1))/\_
    unfold NS
    rw [bI (by omega),aF (by omega),hs',iW,aF (show 0<=((s:Nat):Int)/\((s:Nat):Int)<(q.next.length:Int) by omega),aF (show b<(nth q.next s []).length by omega)]
    show ∃s':ak×ak,aN (decide (nxQ q s b<0)) _ _=_/\_
    by_cases d:nxQ q s b<0
    · rw [bI d]
      refine ⟨(st1,row.set b (-1)),rfl,upd V1 (i * 256+b) (-1),k1.skip (by rw [hcell];exact d),k2,⟨X,k3⟩,by show (row.set b (-1)).length=256;rw [gy];exact k4,rows (by simp [k4]) (λc hc=>DI hc) (G6 (by omega)),olds _⟩
    have hz:(nxQ q s b).toNat<q.next.length:=by omega
    rw [bK d,aF (show 0<=((s:Nat):Int)/\((s:Nat):Int)<(q.next.length:Int) by omega),aF (show b<(nth q.next s []).length by omega)]
    show ∃s':ak×ak,grd (0<=nxQ q s b/\nxQ q s b<(L.length:Int)) (bC (λz:Nat×Nat=>yV st1 L (q,e) st i b row z.1 z.2) (st1.length,0))=_/\_
    rw [aF (by omega)]
    have hfz:=hL.fix hz
    rcases find_ok (p:=(q,e)) (L:=L) (st:=st1) (ord:=st) (row:=row) (i:=i) (b:=b) (by omega) (nth L (nxQ q s b).toNat 0) (by rw [hs',iW];rfl)with ⟨j,j1,j2,j3⟩|⟨j1,j2⟩
    · rw [j3]
      unfold Sl
      rw [aF (by simp;omega)]
      obtain ⟨t1,t2,t3⟩:=two ((j:Nat):Int)
      refine ⟨(st1,_),rfl,upd V1 (i * 256+b) ((j:Nat):Int),k1.old (by rw [hcell];omega) j1 (by rw [hcell];show nth L (nth st1 j 0).toNat 0=nth L (nxQ q s b).toNat 0;rw [k2 j j1];exact j2),k2,⟨X,k3⟩,t1,rows t1 t2 t3,olds _⟩
    rw [j2]
    unfold Sl
    rw [aF (by simp;omega)]
    obtain ⟨t1,t2,t3⟩:=two ((st1.length:Nat):Int)
    refine ⟨(st1++[nth L (nxQ q s b).toNat 0],_),rfl,upd V1 (i * 256+b) ((st1.length:Nat):Int),k1.new (by omega) (by rw [hcell];omega) ⟨hfz.1,hfz.2.1⟩ (by rw [hcell];exact hfz.2.2) (λj hj=>by
      rw [hcell]
      show nth L (nth st1 j 0).toNat 0≠nth L (nxQ q s b).toNat 0
      rw [k2 j hj];exact j1 j hj),λj hj=> ?_,⟨X++[nth L (nxQ q s b).toNat 0],by rw [k3,qH]⟩,t1,rows t1 t2 t3,olds _⟩
    show nth L (nth (st1++[nth L (nxQ q s b).toNat 0]) j 0).toNat 0=nth (st1++[nth L (nxQ q s b).toNat 0]) j 0
    by_cases f:j<st1.length
    · rw [G7 f];exact k2 j f
    have:j=st1.length:=by have:j<(st1++[nth L (nxQ q s b).toNat 0]).length:=hj;rw [gB,kD]at this;omega
    rw [this,LX];exact hfz.2.2
  · rintro ⟨st1,row⟩ ⟨V1,hR⟩
    simp only at hR
    refine ⟨.inl (N++[row],O++[nth q.outs s []],F++[nth q.fin s false],T++[nth q.tail s []],st1,i+1),?_,st1,row,V1,rfl,hR⟩
    show NS st i (q,e) L N O F T st1 row 256=_
    unfold NS
    rw [bK (by omega),aF (by simp only [kD];omega),hs',iW,aF (show 0<=((s:Nat):Int)/\((s:Nat):Int)<(q.outs.length:Int) by omega),aF (by simp only [kD];omega),aF (show 0<=((s:Nat):Int)/\((s:Nat):Int)<(q.fin.length:Int) by omega),aF (by simp only [kD];omega),aF (show 0<=((s:Nat):Int)/\((s:Nat):Int)<(q.tail.length:Int) by omega),aF (by simp only [kD];omega)];rfl
  obtain ⟨h1,st',row,V',rfl,h2⟩:=l7
  exact ⟨st',row,V',h1,h2⟩
structure RmI (q:Seq) (L:ak) (N:bZ) (O:fO) (F:B_1) (T:aC) (st:ak) (i:Nat) (V:Nat->Int):Prop where
  bf:BfI q (clR L) st V (i * 256)
  fx: ∀j,j<st.length->nth L (nth st j 0).toNat 0=nth st j 0
  le:i<=st.length
  n:N.length=i
  o:O.length=i
  f:F.length=i
  t:T.length=i
  rn: ∀j,j<i->(nth N j []).length=256/\ ∀b,b<256->nth (nth N j []) b 0=V (j * 256+b)
  ro: ∀j,j<i->nth O j []=nth q.outs (nth st j 0).toNat []
  rf: ∀j,j<i->nth F j false=nth q.fin (nth st j 0).toNat false
  rt: ∀j,j<i->nth T j []=nth q.tail (nth st j 0).toNat []
theorem tb_{α:Type}{l:List α}{i:Nat}{x d:α}(h:l.length=i){f:Nat->α}(h1: ∀j,j<i->nth l j d=f j)(h2:x=f i): ∀j,j<i+1->nth (l++[x]) j d=f j:=λj hj=>by
  by_cases c:j<i
  · rw [G7 (by omega)];exact h1 j c
  have:j=l.length:=by omega
  rw [this,LX,h2,h]
theorem ve_{n:Seq}(hn:eP n=true)(h0:n.next.length=0):n=Seq.zero:=by
  obtain ⟨q1,q2,q3,q4,q5⟩:=mW hn
  have hf:n.front=[]:=by
    simp only [eP,yP,Bool.and_eq_true,Bool.or_eq_true,jV]at hn
    rcases hn.1.2 with c|c
    · exact absurd h0 c
    exact c
  exact Gc_ hf (o7 h0) (o7 (by omega)) (o7 (by omega)) (o7 (by omega))
theorem rmin_ok (q : Seq) : ∃ p r, ZT q = some p /\ PushR q p /\ ZH q = some r /\ MinR p r := by
  obtain ⟨p,h1,h2⟩:=zw_ q
  unfold ZH
  rw [h1,fD]
  by_cases c0:p.2=0
  rotate_left
  · rw [bI c0]
    refine ⟨p,_,rfl,h2,rfl,?_⟩
    rw [(h2.errs c0).1];exact .err c0
  rw [bK (λh=>h c0)]
  obtain ⟨hP,hR,_,_⟩:=h2.psh c0
  by_cases c1:p.1.next.length=0
  · rw [bI (by omega)]
    refine ⟨p,_,rfl,h2,rfl,?_⟩
    rw [c0,ve_ hR c1];exact .none c0 c1
  rw [bK (by omega)]
  obtain ⟨q1,q2,q3,q4,q5⟩:=mW hR
  obtain ⟨U,u1,u2⟩:=zj_ hR hP
  rw [u1,fD]
  suffices hs: ∃r,bC (λz:ak×Nat=>NV p U z.1 z.2) ([],0)=some r/\MinR p r by
    obtain ⟨r,k1,k2⟩:=hs
    exact ⟨p,r,rfl,h2,k1,k2⟩
  refine kT (step:=λz:ak×Nat=>NV p U z.1 z.2) (λz j=>(z,j)) p.1.next.length (λj L=>LkI p.1 L j) (λr=>MinR p r) ?_ ?_ (s0:=[]) ⟨rfl,λs hs=>absurd hs (Nat.not_lt_zero _)⟩
  · intro j L hj hL
    left
    obtain ⟨a,a1,a2⟩:=like_in q1 u2 hj hL
    refine ⟨_,?_,a2⟩
    show NV p U L j=_
    unfold NV
    rw [bI (by omega),a1]
  intro L hL
  have hLl:=hL.len
  have hf0:=hL.fix (show 0<p.1.next.length by omega)
  show ∃r,NV p U L p.1.next.length=some (.inr r)/\_
  obtain ⟨r,k1,k2⟩:=PE (step:=λz:bZ×fO×B_1×aC×ak×Nat=>Vq p L z.1 z.2.1 z.2.2.1 z.2.2.2.1 z.2.2.2.2.1 z.2.2.2.2.2) (λz=> ∃V,RmI p.1 L z.1 z.2.1 z.2.2.1 z.2.2.2.1 z.2.2.2.2.1 z.2.2.2.2.2 V) (λz=>p.1.next.length+1 - z.2.2.2.2.2) (λr=>MinR p r) (by
    rintro ⟨N,O,F,T,st,i⟩ ⟨V,hI⟩
    simp only at hI
    have hle:=bfR_le hI.bf
    have hi:=hI.le
    have n1:=hI.n
    have n2:=hI.o
    have n3:=hI.f
    have n4:=hI.t
    show (∃t',Vq p L N O F T st i=some (.inl t')/\_/\_)\/ ∃r,Vq p L N O F T st i=some (.inr r)/\_
    unfold Vq
    by_cases c:i<st.length
    · left
      obtain ⟨st',row,V',m1,m2⟩:=rrow_in hR hL c hI.bf hI.fx p.2 (N:=N) (O:=O) (F:=F) (T:=T) (by omega) (by omega) (by omega) (by omega)
      obtain ⟨X,hX⟩:=m2.ex
      have hold: ∀j,j<st.length->nth st' j 0=nth st j 0:=λj hj=>by rw [hX,G7 hj]
      rw [bI (by omega),show p=(p.1,p.2)from rfl,m1]
      refine ⟨_,rfl,⟨V',by show BfI p.1 (clR L) st' V' ((i+1) * 256);rw [show (i+1) * 256=i * 256+256 by omega];exact m2.bf,m2.fx,by show i+1<=st'.length;rw [hX,gB];omega,by show (N++[row]).length=i+1;simp [n1],by show (O++[_]).length=i+1;simp [n2],by show (F++[_]).length=i+1;simp [n3],by show (T++[_]).length=i+1;simp [n4],λj hj=> ?_,?_,?_,?_⟩,?_⟩
      · have hj:j<i+1:=hj
        show (nth (N++[row]) j []).length=256/\ ∀b,b<256->nth (nth (N++[row]) j []) b 0=V' (j * 256+b)
        by_cases d:j<i
        · rw [G7 (by omega)]
          obtain ⟨a1,a2⟩:=hI.rn j d
          exact ⟨a1,λb hb=>by rw [a2 b hb,m2.old _ (by omega)]⟩
        have:j=N.length:=by omega
        subst this
        rw [LX]
        refine ⟨m2.len,λb hb=> ?_⟩
        rw [m2.at' b hb,n1]
      · exact tb_ n2 (λj hj=>by rw [hold j (by omega)];exact hI.ro j hj) (by rw [hold i c])
      · exact tb_ n3 (λj hj=>by rw [hold j (by omega)];exact hI.rf j hj) (by rw [hold i c])
      · exact tb_ n4 (λj hj=>by rw [hold j (by omega)];exact hI.rt j hj) (by rw [hold i c])
      show p.1.next.length+1 - (i+1)<p.1.next.length+1 - i
      omega
    right
    have:i=st.length:=by omega
    subst this
    rw [bK (by omega)]
    refine ⟨_,rfl,.made _ (st.map Int.toNat) c0 (hI.bf.min (λs t hs ht=>hL.iff hs ht) hR rfl n1 n2 n3 n4 (λj hj=>(hI.rn j hj).1) (λd hd=> ?_) hI.ro hI.rf hI.rt)⟩
    show nth (nth N (d / 256) []) (d % 256) 0=V d
    rw [(hI.rn (d / 256) (by omega)).2 (d % 256) (by omega),show d / 256 * 256+d % 256=d by omega]) (t:=([],[],[],[],[nth L 0 0],0)) ⟨λ_=>0,BfI.init _ ⟨hf0.1,hf0.2.1⟩ hf0.2.2,λj hj=>by
    have hj:j<1:=hj
    have:j=0:=by omega
    subst this;exact hf0.2.2,Nat.zero_le _,rfl,rfl,rfl,rfl,λj hj=>absurd hj (Nat.not_lt_zero _),λj hj=>absurd hj (Nat.not_lt_zero _),λj hj=>absurd hj (Nat.not_lt_zero _),λj hj=>absurd hj (Nat.not_lt_zero _)⟩
  refine ⟨r,?_,k2⟩
  unfold NV
  rw [bK (by omega),aF (by omega),k1];rfl
end Go.Proofs.YtchebnpdnfhenaaGreatDoor
end

noncomputable section
namespace Go.Proofs.YtchebnpdnfhenaaGreatDoor
open Go Go.E
theorem uc_: ∀p a b:T_1,Lib.compareBytes (p++a) (p++b)=Lib.compareBytes a b
  |[],_,_=>rfl
  |x::p,a,b=>by
    simp only [List.cons_append,Lib.compareBytes,UInt8.lt_irrefl,if_false]
    exact uc_ p a b
theorem cut_cmp{f:T_1}{x y:Tip}(hx:f <+: x.out)(hy:f <+: y.out):nI (zh f.length x) (zh f.length y)=nI x y:=by
  obtain ⟨a,ha⟩:=hx
  obtain ⟨b,hb⟩:=hy
  unfold nI zh
  simp only [<-ha,<-hb,List.drop_left,uc_]
theorem once_cut{l:List Tip}{f:T_1}(hf: ∀x∈l,f <+: x.out):ug aK nI (l.map (zh f.length))=(ug aK nI l).map (zh f.length):=by
  refine n1_ PN (hj_ PN _) ?_ λx=> ?_
  · rw [List.pairwise_map]
    refine (hj_ PN l).imp_of_mem λ{a b} ha hb h=> ?_
    rw [cut_cmp (hf a ((DN ..).1 ha)) (hf b ((DN ..).1 hb))];exact h
  rw [DN]
  simp only [List.mem_map]
  exact ⟨λ⟨y,h1,h2⟩=>⟨y,(DN ..).2 h1,h2⟩,λ⟨y,h1,h2⟩=>⟨y,(DN ..).1 h1,h2⟩⟩
theorem ym_(l:List Tip):jf ((ug aK nI l).map Tip.out)=jf (l.map Tip.out):=vp_ λx=>by
  simp only [List.mem_map]
  exact ⟨λ⟨y,h1,h2⟩=>⟨y,(DN ..).1 h1,h2⟩,λ⟨y,h1,h2⟩=>⟨y,(DN ..).2 h1,h2⟩⟩
theorem uy_(l:List Tip):IG l=if FC (ug aK nI l)=true then .inl 12 else if 4096<(jf (l.map Tip.out)).length then .inl 2 else
    if ∃x∈ug aK nI l,4096<(x.out.drop (jf (l.map Tip.out)).length).length then .inl 2 else .inr (jf (l.map Tip.out),(ug aK nI l).map (zh (jf (l.map Tip.out)).length)):=by
  rw [<-ym_ l];rfl
end Go.Proofs.YtchebnpdnfhenaaGreatDoor
end

noncomputable section
namespace Go.Proofs.YtchebnpdnfhenaaGreatDoor
open Go Go.E
def em(a:Arc)(b:UInt8):T_1:=if a.copy then a.out++[b] else a.out
inductive Wy (t:Fst):Int->T_1->T_1->Int->Prop
  |nil (s:Int):Wy t s [] [] s
  |cons {w o:T_1} {q:Int} (a:Arc) (b:UInt8):a∈t.arcs->a.set.has b.toNat=true->Wy t a.to w o q->Wy t a.frm (b::w) (em a b++o) q
theorem Wy.cons_inv{t:Fst}{s q:Int}{b:UInt8}{w o:T_1}(h:Wy t s (b::w) o q): ∃a∈t.arcs,a.frm=s/\a.set.has b.toNat=true/\ ∃o',Wy t a.to w o' q/\o=em a b++o':=by
  cases h with
  |cons a b ha hb hw=>exact ⟨a,ha,rfl,hb,_,hw,rfl⟩
theorem Wy.split{t:Fst}: ∀{u v o:T_1} {s q:Int},Wy t s (u++v) o q-> ∃m o1 o2,Wy t s u o1 m/\Wy t m v o2 q/\o=o1++o2
  |[],v,o,s,q,h=>⟨s,[],o,.nil s,h,rfl⟩
  |b::u,v,o,s,q,h=>by
    obtain ⟨a,ha,rfl,hb,o',hw,rfl⟩:=Wy.cons_inv h
    obtain ⟨m,o1,o2,h1,h2,rfl⟩:=Wy.split hw
    exact ⟨m,em a b++o1,o2,.cons a b ha hb h1,h2,by rw [qH]⟩
theorem Wy.map{t T:Fst}(f:Int->Int)(h: ∀a∈t.arcs,(⟨f a.frm,f a.to,a.set,a.out,a.copy⟩:Arc)∈T.arcs){s q:Int}{w o:T_1}(k:Wy t s w o q):Wy T (f s) w o (f q):=by
  induction k with
  |nil s=>exact .nil _
  |cons a b ha hb _ ih=>exact Wy.cons (⟨f a.frm,f a.to,a.set,a.out,a.copy⟩:Arc) b (h a ha) hb ih
end Go.Proofs.YtchebnpdnfhenaaGreatDoor
end

noncomputable section
namespace Go.Proofs.YtchebnpdnfhenaaGreatDoor
open Go Go.E
def Eqs(L:aC):Prop:= ∀x∈L, ∀y∈L,x=y
instance (L:aC):Decidable (Eqs L):=inferInstanceAs (Decidable (∀x∈L, ∀y∈L,x=y))
def xZ(L:aC):T_1:=L.getLastD []
theorem ux_(L:aC)(s:T_1):xZ (L++[s])=s:=by simp [xZ]
theorem ni_{L:aC}(h:L≠[]):xZ L∈L:=by
  unfold xZ
  rw [List.getLastD_eq_getLast?,List.getLast?_eq_some_getLast h]
  exact List.getLast_mem h
theorem Eqs.last{L:aC}(h:Eqs L){x:T_1}(hx:x∈L):x=xZ L:=h _ hx _ (ni_ (List.ne_nil_of_mem hx))
theorem ug_{L:aC}{s:T_1}:Eqs (L++[s])↔Eqs L/\(L≠[]->s=xZ L):=by
  constructor
  · intro h
    refine ⟨λx hx y hy=>h x (List.mem_append_left _ hx) y (List.mem_append_left _ hy),λhn=> ?_⟩
    exact h _ (List.mem_append_right _ (List.mem_singleton.2 rfl)) _ (List.mem_append_left _ (ni_ hn))
  rintro ⟨h1,h2⟩ x hx y hy
  have key: ∀z∈L++[s],z=s:=λz hz=>by
    rcases List.mem_append.1 hz with hz|hz
    · rw [h1.last hz,h2 (List.ne_nil_of_mem hz)]
    exact List.mem_singleton.1 hz
  rw [key x hx,key y hy]
theorem xd_{L M:aC}(h:Eqs M)(hs: ∀x∈L,x∈M):Eqs L:=λx hx y hy=>h x (hs x hx) y (hs y hy)
def FK(L:aC):Bool:= !L.isEmpty
theorem vf_(L:aC)(s:T_1):FK (L++[s])=true:=by cases L<;>rfl
theorem sc_{L:aC}:FK L=true↔L≠[]:=by cases L<;>simp [FK]
def Sm(E:List Tip)(x:Tip):aC:=(E.filter λe=>decide (e.state=x.state)).map λe=>x.out++e.out
def wu(E l:List Tip):aC:=l.flatMap (Sm E)
theorem vo_(E l:List Tip)(x:Tip):wu E (l++[x])=wu E l++Sm E x:=by simp [wu]
def V4(E l:List Tip):Int⊕(Bool×T_1):=
  if ¬ Eqs (wu E l) then .inl 12 else if 4096<(xZ (wu E l)).length then .inl 2 else .inr (FK (wu E l),xZ (wu E l))
def RI(A:List Arc)(b:UInt8)(x:Tip):List Tip:=((A.filter λa=>decide (a.frm=x.state)).filter λa=>a.set.has b.toNat).map λa=>⟨a.to,x.out++em a b⟩
def vI(A:List Arc)(l:List Tip)(b:UInt8):List Tip:=l.flatMap (RI A b)
theorem vz_(A:List Arc)(l:List Tip)(b:UInt8)(x:Tip):vI A (l++[x]) b=vI A l b++RI A b x:=by simp [vI]
theorem yh_(A:List Arc)(b:UInt8)(x:Tip):(RI A b x).length<=A.length:=by
  unfold RI
  rw [List.length_map]
  exact Nat.le_trans (List.length_filter_le _ _) (List.length_filter_le _ _)
theorem qr_(A:List Arc)(b:UInt8): ∀l:List Tip,(vI A l b).length<=l.length * A.length
  |[]=>by simp [vI]
  |x::l=>by
    have h1:=qr_ A b l
    have h2:=yh_ A b x
    show (RI A b x++vI A l b).length<=_
    rw [gB,List.length_cons,Nat.succ_mul];omega
theorem tr_{A:List Arc}{l:List Tip}{b:UInt8}{y:Tip}:y∈vI A l b↔ ∃x∈l, ∃a∈A,a.frm=x.state/\a.set.has b.toNat=true/\y=⟨a.to,x.out++em a b⟩:=by
  unfold vI RI
  simp only [List.mem_flatMap,List.mem_map,List.mem_filter,jV]
  exact ⟨λ⟨x,h1,a,⟨⟨h2,h3⟩,h4⟩,h5⟩=>⟨x,h1,a,h2,h3,h4,h5.symm⟩,λ⟨x,h1,a,h2,h3,h4,h5⟩=>⟨x,h1,a,⟨⟨h2,h3⟩,h4⟩,h5.symm⟩⟩
theorem n7_{E l:List Tip}{y:T_1}:y∈wu E l↔ ∃x∈l, ∃e∈E,e.state=x.state/\y=x.out++e.out:=by
  unfold wu Sm
  simp only [List.mem_flatMap,List.mem_map,List.mem_filter,jV]
  exact ⟨λ⟨x,h1,e,⟨h2,h3⟩,h5⟩=>⟨x,h1,e,h2,h3,h5.symm⟩,λ⟨x,h1,e,h2,h3,h5⟩=>⟨x,h1,e,⟨h2,h3⟩,h5.symm⟩⟩
structure Knows (n:Nat) (A:List Arc) (E:List Tip) (x:Maker):Prop where
  arcs:Grp Arc.frm id n x.arcs A
  ends:Grp Tip.state Tip.out n x.ends E
  al:A.length<=16384
  ao: ∀a∈A,a.out.length<=1024
  eo: ∀e∈E,e.out.length<=1024
  hn:n<=1024
theorem tail_in {n : Nat} {A : List Arc} {E : List Tip} {x0 : Maker} (h : Knows n A E x0) {l : List Tip} (hl : RowOk n l) {k : Nat} (hk : k < l.length) (P : aC) (hP : Eqs P) :
    bC (λq:Bool×T_1×Nat=>N7 x0 l k q.1 q.2.1 q.2.2) (FK P,xZ P,0)=some (if Eqs (P++Sm E (nth l k aK)) then .inl (FK (P++Sm E (nth l k aK)),xZ (P++Sm E (nth l k aK)),k+1) else .inr (.inl 12)):=by
  have hm:=wz aK hk
  have hs:=hl.st _ hm
  have ho:=hl.out _ hm
  have hg:=h.ends.at hs.1 hs.2
  have hX:Sm E (nth l k aK)=(nth x0.ends (nth l k aK).state.toNat []).map λo=>(nth l k aK).out++o:=by
    rw [hg,List.map_map];rfl
  have hgo: ∀o∈nth x0.ends (nth l k aK).state.toNat [],o.length<=1024:=by
    rw [hg]
    intro o ho
    obtain ⟨e,he,rfl⟩:=List.mem_map.1 ho
    exact h.eo e (List.mem_filter.1 he).1
  rw [hX]
  obtain ⟨r,h1,h2⟩:=kT (step:=λq:Bool×T_1×Nat=>N7 x0 l k q.1 q.2.1 q.2.2) (λ(s:Bool×T_1) j=>(s.1,s.2,j)) (nth x0.ends (nth l k aK).state.toNat []).length
    (λj s=>Eqs (P++((nth x0.ends (nth l k aK).state.toNat []).take j).map λo=>(nth l k aK).out++o)/\s=(FK (P++((nth x0.ends (nth l k aK).state.toNat []).take j).map λo=>(nth l k aK).out++o),xZ (P++((nth x0.ends (nth l k aK).state.toNat []).take j).map λo=>(nth l k aK).out++o)))
    (λr=>r=(if Eqs (P++(nth x0.ends (nth l k aK).state.toNat []).map λo=>(nth l k aK).out++o) then .inl (FK (P++(nth x0.ends (nth l k aK).state.toNat []).map λo=>(nth l k aK).out++o),xZ (P++(nth x0.ends (nth l k aK).state.toNat []).map λo=>(nth l k aK).out++o),k+1) else .inr (.inl 12)))
    (λj s hj hI=>by
      obtain ⟨hI,rfl⟩:=hI
      have hoj:=hgo _ (wz [] hj)
      have ht:((nth x0.ends (nth l k aK).state.toNat []).take (j+1)).map (λo=>(nth l k aK).out++o)=((nth x0.ends (nth l k aK).state.toNat []).take j).map (λo=>(nth l k aK).out++o)++[(nth l k aK).out++nth (nth x0.ends (nth l k aK).state.toNat []) j []]:=by
        rw [yH _ hj [],List.map_append];rfl
      have hsub: ∀y∈P++((nth x0.ends (nth l k aK).state.toNat []).take (j+1)).map (λo=>(nth l k aK).out++o),y∈P++(nth x0.ends (nth l k aK).state.toNat []).map λo=>(nth l k aK).out++o:=λy hy=>by
        rcases List.mem_append.1 hy with hy|hy
        · exact List.mem_append_left _ hy
        obtain ⟨o,ho,rfl⟩:=List.mem_map.1 hy
        exact List.mem_append_right _ (List.mem_map.2 ⟨o,List.mem_of_mem_take ho,rfl⟩)
      rw [ht,<-qH]at hsub
      have hst:N7 x0 l k (FK (P++((nth x0.ends (nth l k aK).state.toNat []).take j).map λo=>(nth l k aK).out++o)) (xZ (P++((nth x0.ends (nth l k aK).state.toNat []).take j).map λo=>(nth l k aK).out++o)) j
          =if P++((nth x0.ends (nth l k aK).state.toNat []).take j).map (λo=>(nth l k aK).out++o)≠[]/\(nth l k aK).out++nth (nth x0.ends (nth l k aK).state.toNat []) j []≠xZ (P++((nth x0.ends (nth l k aK).state.toNat []).take j).map λo=>(nth l k aK).out++o) then some (.inr (.inr (.inl 12)))
            else some (.inl (true,(nth l k aK).out++nth (nth x0.ends (nth l k aK).state.toNat []) j [],j+1)):=by
        unfold N7 Dd_
        rw [bI (by omega),aF (by omega)]
        by_cases c1:P++((nth x0.ends (nth l k aK).state.toNat []).take j).map (λo=>(nth l k aK).out++o)≠[]
        · rw [sc_.2 c1,iteO_true]
          by_cases c2:(nth l k aK).out++nth (nth x0.ends (nth l k aK).state.toNat []) j []≠xZ (P++((nth x0.ends (nth l k aK).state.toNat []).take j).map λo=>(nth l k aK).out++o)
          · rw [bI c2,if_pos ⟨c1,c2⟩];rfl
          rw [bK c2,if_neg (λq=>c2 q.2)];rfl
        rw [show FK (P++((nth x0.ends (nth l k aK).state.toNat []).take j).map λo=>(nth l k aK).out++o)=false from by rw [Bool.eq_false_iff];exact λq=>c1 (sc_.1 q),iteO_false,if_neg (λq=>c1 q.1)];rfl
      by_cases c:P++((nth x0.ends (nth l k aK).state.toNat []).take j).map (λo=>(nth l k aK).out++o)≠[]/\(nth l k aK).out++nth (nth x0.ends (nth l k aK).state.toNat []) j []≠xZ (P++((nth x0.ends (nth l k aK).state.toNat []).take j).map λo=>(nth l k aK).out++o)
      · rw [if_pos c]at hst
        exact .inr ⟨_,hst,by rw [if_neg λq=>c.2 ((ug_.1 (xd_ q hsub)).2 c.1)]⟩
      rw [if_neg c]at hst
      refine .inl ⟨(true,_),hst,?_,?_⟩
      · rw [ht,<-qH]
        exact ug_.2 ⟨hI,λq=>Classical.byContradiction λq2=>c ⟨q,q2⟩⟩
      rw [ht,<-qH,vf_,ux_])
    (λs hI=>by
      obtain ⟨hI,rfl⟩:=hI
      rw [List.take_length]at hI
      refine ⟨_,?_,rfl⟩
      rw [if_pos hI,List.take_length]
      show N7 x0 l k _ _ (nth x0.ends (nth l k aK).state.toNat []).length=_
      unfold N7
      rw [bK (by omega)];rfl) (s0:=(FK P,xZ P)) ⟨by simpa using hP,by simp⟩
  rw [<-h2];exact h1
theorem tail_ok {n : Nat} {A : List Arc} {E : List Tip} {x0 : Maker} (h : Knows n A E x0) {l : List Tip} (hl : RowOk n l) : Ed_ x0 l = some (V4 E l) := by
  unfold Ed_
  obtain ⟨r,h1,h2⟩:=kT (step:=λq:Bool×T_1×Nat=>QM l x0 q.1 q.2.1 q.2.2) (λ(s:Bool×T_1) k=>(s.1,s.2,k)) l.length (λk s=>Eqs (wu E (l.take k))/\s=(FK (wu E (l.take k)),xZ (wu E (l.take k)))) (λr=>r=V4 E l)
    (λk s hk hI=>by
      obtain ⟨hI,rfl⟩:=hI
      have hs:=hl.st _ (wz aK hk)
      have ht:wu E (l.take (k+1))=wu E (l.take k)++Sm E (nth l k aK):=by rw [yH l hk aK,vo_]
      have hst:QM l x0 (FK (wu E (l.take k))) (xZ (wu E (l.take k))) k=some (if Eqs (wu E (l.take (k+1))) then .inl (FK (wu E (l.take (k+1))),xZ (wu E (l.take (k+1))),k+1) else .inr (.inl 12)):=by
        unfold QM
        rw [bI (by omega),aF ⟨hs.1,by rw [h.ends.len];exact hs.2⟩,ht]
        exact tail_in h hl hk _ hI
      by_cases c:Eqs (wu E (l.take (k+1)))
      · rw [if_pos c]at hst
        exact .inl ⟨(_,_),hst,c,rfl⟩
      rw [if_neg c]at hst
      refine .inr ⟨_,hst,?_⟩
      unfold V4
      rw [if_pos]
      intro q
      refine c (xd_ q λy hy=> ?_)
      obtain ⟨x,hx,e,he⟩:=n7_.1 hy
      exact n7_.2 ⟨x,List.mem_of_mem_take hx,e,he⟩)
    (λs hI=>by
      obtain ⟨hI,rfl⟩:=hI
      rw [List.take_length]at hI
      refine ⟨_,?_,rfl⟩
      have hlen:(xZ (wu E l)).length<=281474976710656:=by
        by_cases c:wu E l=[]
        · rw [c];simp [xZ]
        obtain ⟨x,hx,e,he,_,hq⟩:=n7_.1 (ni_ c)
        have h3:=hl.out x hx
        have h4:=h.eo e he
        rw [hq,gB];omega
      rw [List.take_length]
      show QM l x0 _ _ l.length=_
      unfold QM V4
      rw [bK (by omega),if_neg (λq=>q hI),p9_ hlen,fD]
      by_cases c:4096<(xZ (wu E l)).length
      · rw [if_pos c,if_pos c];rfl
      rw [if_neg c,if_neg c];rfl) (s0:=(false,[])) ⟨by intro x hx;simp [wu]at hx,rfl⟩
  rw [<-h2];exact h1
theorem beh_in {n : Nat} {A : List Arc} {E : List Tip} {x0 : Maker} (h : Knows n A E x0) {l : List Tip} (hl : RowOk n l) (b : UInt8) {k : Nat} (hk : k < l.length) (P : List Tip) (hP : P.length + A.length <= 100000000000) :
    bC (λq:(List Tip)×Nat=>NT x0 l k b q.1 q.2) (P,0)=some (.inl (P++RI A b (nth l k aK),k+1)):=by
  have hm:=wz aK hk
  have hs:=hl.st _ hm
  have ho:=hl.out _ hm
  have hg:=h.arcs.at hs.1 hs.2
  rw [List.map_id]at hg
  have hga: ∀a∈nth x0.arcs (nth l k aK).state.toNat [],a.out.length<=1024:=by
    rw [hg];intro a ha;exact h.ao a (List.mem_filter.1 ha).1
  have hgl:(nth x0.arcs (nth l k aK).state.toNat []).length<=A.length:=by rw [hg];exact List.length_filter_le _ _
  have hX:RI A b (nth l k aK)=((nth x0.arcs (nth l k aK).state.toNat []).filter λa=>a.set.has b.toNat).map λa=>⟨a.to,(nth l k aK).out++em a b⟩:=by rw [hg];rfl
  rw [hX]
  obtain ⟨r,h1,h2⟩:=kT (step:=λq:(List Tip)×Nat=>NT x0 l k b q.1 q.2) (λs j=>(s,j)) (nth x0.arcs (nth l k aK).state.toNat []).length
    (λj s=>s=P++(((nth x0.arcs (nth l k aK).state.toNat []).take j).filter λa=>a.set.has b.toNat).map λa=>⟨a.to,(nth l k aK).out++em a b⟩)
    (λr=>r= .inl (P++((nth x0.arcs (nth l k aK).state.toNat []).filter λa=>a.set.has b.toNat).map λa=>⟨a.to,(nth l k aK).out++em a b⟩,k+1))
    (λj s hj hI=>by
      subst hI
      have hoj:=hga _ (wz bg hj)
      have hpl:(P++(((nth x0.arcs (nth l k aK).state.toNat []).take j).filter λa=>a.set.has b.toNat).map λa=>(⟨a.to,(nth l k aK).out++em a b⟩:Tip)).length<=100000000000:=by
        rw [gB,List.length_map]
        have h3:=List.length_filter_le (λa:Arc=>a.set.has b.toNat) ((nth x0.arcs (nth l k aK).state.toNat []).take j)
        rw [List.length_take]at h3
        omega
      refine .inl ⟨_,?_,rfl⟩
      rw [yH _ hj bg,List.filter_append,List.map_append,<-qH]
      generalize P++(((nth x0.arcs (nth l k aK).state.toNat []).take j).filter λa=>a.set.has b.toNat).map (λa=>(⟨a.to,(nth l k aK).out++em a b⟩:Tip))=S at hpl ⊢
      show NT x0 l k b S j=_
      unfold NT ZK Cu_
      rw [bI (by omega)]
      generalize nth (nth x0.arcs (nth l k aK).state.toNat []) j bg=a at hoj ⊢
      cases c:a.set.has b.toNat with
      |false=>
        rw [uj]
        simp [c,nxt]
      |true=>
        rw [qK,aF (by omega)]
        cases d:a.copy with
        |true=>
          rw [iteO_true,aF (by simp;omega),aF (by simp;omega)]
          unfold ZK
          simp [c,d,nxt,em]
        |false=>
          rw [iteO_false,aF (by simp;omega)]
          unfold ZK
          simp [c,d,nxt,em])
    (λs hI=>by
      subst hI
      refine ⟨_,?_,rfl⟩
      rw [List.take_length]
      show NT x0 l k b _ _=_
      unfold NT
      rw [bK (by omega)];rfl) (s0:=P) (by simp)
  rw [<-h2];exact h1
theorem beh_ok{n:Nat}{A:List Arc}{E:List Tip}{x0:Maker}(h:Knows n A E x0){l:List Tip}(hl:RowOk n l)(b:UInt8):Dn_ x0 l b=some (vI A l b):=by
  unfold Dn_
  have hal:=h.al
  have hll:=hl.len
  obtain ⟨r,h1,h2⟩:=kT (step:=λq:(List Tip)×Nat=>QT l x0 b q.1 q.2) (λs k=>(s,k)) l.length (λk s=>s=vI A (l.take k) b) (λr=>r=vI A l b)
    (λk s hk hI=>by
      subst hI
      have hs:=hl.st _ (wz aK hk)
      refine .inl ⟨_,?_,rfl⟩
      have hb:=qr_ A b (l.take k)
      have h3:(l.take k).length * A.length<=1000000 * 16384:=Nat.mul_le_mul (by rw [List.length_take];omega) hal
      show QT l x0 b _ k=_
      unfold QT
      rw [bI (by omega),aF ⟨hs.1,by rw [h.arcs.len];exact hs.2⟩,beh_in h hl b hk (vI A (l.take k) b) (by omega),yH l hk aK,vz_])
    (λs hI=>by
      subst hI
      refine ⟨_,?_,rfl⟩
      rw [List.take_length]
      show QT l x0 b _ l.length=_
      unfold QT
      rw [bK (by omega)];rfl) (s0:=[]) rfl
  rw [<-h2];exact h1
end Go.Proofs.YtchebnpdnfhenaaGreatDoor
end

noncomputable section
namespace Go.Proofs.YtchebnpdnfhenaaGreatDoor
open Go Go.E
end Go.Proofs.YtchebnpdnfhenaaGreatDoor
end

noncomputable section
namespace Go.Proofs.YtchebnpdnfhenaaGreatDoor
open Go Go.E
def VZ (A : List Arc) (most : Int) (l : List Tip) (b : UInt8) (R : List (List Tip)) : Int ⊕ (List (List Tip) × Int × T_1) :=
  if vI A l b=[] then .inr (R, -1,[]) else
  match IG (vI A l b)with
  | .inl k=> .inl k
  | .inr (f,r)=>match Ns most R r with
    | .inl k=> .inl k
    | .inr (i,R')=> .inr (R',((i:Nat):Int),f)
def EL (A : List Arc) (most : Int) (l : List Tip) (R : List (List Tip)) : Nat -> Int ⊕ (List (List Tip) × ak × aC)
  |0=> .inr (R,[],[])
  | k + 1 => match EL A most l R k with
    | .inl e=> .inl e
    | .inr (R1,N,O)=>match VZ A most l (qR ((k:Nat):Int)) R1 with
      | .inl e=> .inl e
      | .inr (R2,z,o)=> .inr (R2,N++[z],O++[o])
def OB(q:Seq)(N:ak)(O:aC)(b:Bool)(t:T_1):Seq:=⟨q.front,q.next++[N],q.outs++[O],q.fin++[b],q.tail++[t]⟩
def doD (A : List Arc) (E : List Tip) (most : Int) (l : List Tip) (R : List (List Tip)) (q : Seq) : Int ⊕ (List (List Tip) × Seq) :=
  match V4 E l with
  | .inl e=> .inl e
  | .inr (b,t)=>match EL A most l R 256 with
    | .inl e=> .inl e
    | .inr (R',N,O)=> .inr (R',OB q N O b t)
def allD (A : List Arc) (E : List Tip) (most : Int) : Nat -> Nat -> List (List Tip) -> Seq -> Int ⊕ (List (List Tip) × Seq)
  |0,_,R,q=> .inr (R,q)
  | g + 1, s, R, q => if s < R.length then
      match doD A E most (nth R s []) R q with
      | .inl e=> .inl e
      | .inr (R',q')=>allD A E most g (s+1) R' q'
    else .inr (R,q)
def ofT(t:Fst)(most:Int):Int⊕(List (List Tip)×Seq):=
  if t.starts=[] then .inr ([],Seq.zero) else
  match IG t.starts with
  | .inl e=> .inl e
  | .inr (f,l)=>allD t.arcs t.ends most 1025 0 [l] ⟨f,[],[],[],[]⟩
def ofR:Int⊕(List (List Tip)×Seq)->Seq×Int
  | .inl e=>(Seq.zero,e)
  | .inr (_,q)=>(q,0)
theorem vu_{n:Int}(hn:0<=n){l:List Tip}(h:l.Pairwise λx y=>x.state<y.state)(hs: ∀x∈l,0<=x.state/\x.state<n):(l.length:Int)<=n:=by
  have h1:(l.map λx=>x.state.toNat).Nodup:=by
    rw [List.Nodup,List.pairwise_map]
    refine h.imp_of_mem λ{a b} ha hb q e=> ?_
    have h2:=(hs a ha).1
    have h3:=(hs b hb).1
    omega
  have h2:=hx_ h1 (m:=List.range n.toNat) λx hx=>by
    obtain ⟨y,hy,rfl⟩:=List.mem_map.1 hx
    have:=hs y hy
    rw [List.mem_range];omega
  rw [List.length_map,List.length_range]at h2
  omega
theorem dup_inc {l : List Tip} (h : l.Pairwise λx y => nI x y < 0) (hd : ¬ FC l = true) : l.Pairwise λx y => x.state < y.state := by
  have key: ∀l:List Tip,(l.Pairwise λx y=>nI x y<0)-> ¬ FC l=true->l.Pairwise λx y=>x.state<y.state:=by
    intro l
    induction l with
    |nil=>intro _ _;exact List.Pairwise.nil
    |cons a l ih=>
      intro h hd
      rw [List.pairwise_cons]at h
      cases l with
      |nil=>simp
      |cons b l=>
        rw [FC,Bool.or_eq_true,jV]at hd
        have h1:=ih h.2 (λq=>hd (.inr q))
        refine List.pairwise_cons.2 ⟨λx hx=> ?_,h1⟩
        have hab:a.state<b.state:=by
          have h2:=h.1 b (jm ..)
          have h3:a.state≠b.state:=λq=>hd (.inl q)
          unfold nI qU FD at h2
          repeat' split at h2
          all_goals omega
        rcases List.mem_cons.1 hx with rfl|hx
        · exact hab
        have:=(List.pairwise_cons.1 h1).1 x hx
        omega
  exact key l h hd
theorem strip_row{n:Int}(hn:0<=n/\n<=1024){l:List Tip}(hs: ∀x∈l,0<=x.state/\x.state<n){f:T_1}{r:List Tip}(h:IG l= .inr (f,r)):
    RowOk n r/\f.length<=4096/\(∀x,x∈r↔ ∃y∈l,y.state=x.state/\y.out=f++x.out)/\f=jf (l.map Tip.out):=by
  rw [uy_]at h
  by_cases c1:FC (ug aK nI l)=true
  · rw [if_pos c1]at h;cases h
  rw [if_neg c1]at h
  by_cases c2:4096<(jf (l.map Tip.out)).length
  · rw [if_pos c2]at h;cases h
  rw [if_neg c2]at h
  by_cases c3: ∃x∈ug aK nI l,4096<(x.out.drop (jf (l.map Tip.out)).length).length
  · rw [if_pos c3]at h;cases h
  rw [if_neg c3]at h
  cases h
  have hso: ∀x∈ug aK nI l,0<=x.state/\x.state<n:=λx hx=>hs x ((DN ..).1 hx)
  have hinc:=dup_inc (hj_ PN l) c1
  have hlen:=vu_ hn.1 hinc hso
  refine ⟨⟨by rw [List.length_map];omega,?_,λx hx=> ?_,λx hx=> ?_⟩,by omega,λx=> ?_,rfl⟩
  · rw [List.pairwise_map];exact hinc
  · obtain ⟨y,hy,rfl⟩:=List.mem_map.1 hx
    exact hso y hy
  · obtain ⟨y,hy,rfl⟩:=List.mem_map.1 hx
    exact Nat.le_of_not_lt λq=>c3 ⟨y,hy,q⟩
  rw [List.mem_map]
  constructor
  · rintro ⟨y,hy,rfl⟩
    have hm:=(DN ..).1 hy
    refine ⟨y,hm,rfl,?_⟩
    obtain ⟨u,hu⟩:=LW (List.mem_map.2 ⟨y,hm,rfl⟩:y.out∈l.map Tip.out)
    show y.out=_++y.out.drop _
    rw [<-hu,List.drop_left]
  rintro ⟨y,hy,h1,h2⟩
  refine ⟨y,(DN ..).2 hy,?_⟩
  unfold zh
  rw [h1,h2,List.drop_left]
theorem beh_st{n:Int}{A:List Arc}(hA: ∀a∈A,0<=a.to/\a.to<n)(l:List Tip)(b:UInt8): ∀x∈vI A l b,0<=x.state/\x.state<n:=λx hx=>by
  obtain ⟨y,_,a,ha,_,_,rfl⟩:=tr_.1 hx
  exact hA a ha
theorem beh_out{n:Int}{A:List Arc}(hA: ∀a∈A,a.out.length<=1024){l:List Tip}(hl:RowOk n l)(b:UInt8): ∀x∈vI A l b,x.out.length<=281474976710656:=λx hx=>by
  obtain ⟨y,hy,a,ha,_,_,rfl⟩:=tr_.1 hx
  have h1:=hl.out y hy
  have h2:=hA a ha
  show (y.out++em a b).length<=_
  unfold em
  rw [gB]
  split
  · rw [gB,kD];omega
  omega
theorem nr_{α:Type}(l:List α)(m:Nat)(x z:α)(h:l.length<m):(l++List.replicate (m - l.length) z).set l.length x=(l++[x])++List.replicate (m - (l++[x]).length) z:=by
  rw [List.set_append_right _ _ (Nat.le_refl _),Nat.sub_self,gB,kD,show m - l.length=(m - (l.length+1))+1 by omega,List.replicate_succ,List.set_cons_zero]
  simp
theorem Jd_{α:Type}(l:List α)(i:Nat)(x y:α):(l.set i x).set i y=l.set i y:=by simp
structure Fits (n:Nat) (A:List Arc) (E:List Tip) (x:Maker):Prop extends Knows n A E x where
  to: ∀a∈A,0<=a.to/\a.to<(n:Int)
  few:n * A.length<=1000000
  m1:1<=x.most
  m2:x.most<=1024
theorem xr_{most:Int}{R R':List (List Tip)}{r:List Tip}{i:Nat}(h:Ns most R r= .inr (i,R'))(hR:(R.length:Int)<=most):(R'.length:Int)<=most/\(∃X,R'=R++X)/\i<R'.length/\nth R' i []=r:=by
  unfold Ns at h
  by_cases c:r∈R
  · rw [if_pos c]at h;cases h
    exact ⟨hR,⟨[],(List.append_nil _).symm⟩,re_ c,w5_ c⟩
  rw [if_neg c]at h
  by_cases d:most<=(R.length:Int)
  · rw [if_pos d]at h;cases h
  rw [if_neg d]at h;cases h
  exact ⟨by simp;omega,⟨_,rfl⟩,by simp,LX R r []⟩
theorem zr_{A:List Arc}{most:Int}{l:List Tip}{b:UInt8}{R R':List (List Tip)}{z:Int}{o:T_1}(h:VZ A most l b R= .inr (R',z,o))(hR:(R.length:Int)<=most):(R'.length:Int)<=most/\ ∃X,R'=R++X:=by
  unfold VZ at h
  by_cases c:vI A l b=[]
  · rw [if_pos c]at h;cases h
    exact ⟨hR,[],(List.append_nil _).symm⟩
  rw [if_neg c]at h
  split at h
  · cases h
  split at h
  · cases h
  rename_i q;cases h
  have:=xr_ q hR
  exact ⟨this.1,this.2.1⟩
theorem kj_{A:List Arc}{most:Int}{l:List Tip}{R:List (List Tip)}(hR:(R.length:Int)<=most): ∀{k:Nat} {R':List (List Tip)} {N:ak} {O:aC},EL A most l R k= .inr (R',N,O)->(R'.length:Int)<=most/\(∃X,R'=R++X)/\N.length=k/\O.length=k
  |0,R',N,O,h=>by cases h;exact ⟨hR,⟨[],(List.append_nil _).symm⟩,rfl,rfl⟩
  |k+1,R',N,O,h=>by
    rw [EL]at h
    split at h
    · cases h
    rename_i R1 N1 O1 q
    obtain ⟨h1,⟨X,h2⟩,h3,h4⟩:=kj_ hR q
    split at h
    · cases h
    rename_i R2 z o q2
    cases h
    obtain ⟨h5,Y,h6⟩:=zr_ q2 h1
    exact ⟨h5,⟨X++Y,by rw [h6,h2,qH]⟩,by simp [h3],by simp [h4]⟩
end Go.Proofs.YtchebnpdnfhenaaGreatDoor
end

noncomputable section
namespace Go.Proofs.YtchebnpdnfhenaaGreatDoor
open Go Go.E
theorem qw_{β γ:Type}{key:β->Int}{val:β->γ}{n:Nat}{l:List (List γ)}{xs:List β}(h:Grp key val n l xs){i:Nat}(hi:i<n):(nth l i []).length<=xs.length:=by
  rw [h.row i hi,List.length_map];exact List.length_filter_le ..
theorem i3_{α:Type}(l:List α)(k:Nat):(l.take k).length<=l.length:=by rw [List.length_take];omega
theorem xh_{t:Fst}(ht:FstOk t): ∃on bk,E0_ t=some (t,on,bk)/\Grp Arc.frm Arc.to t.states.toNat on t.arcs/\Grp Arc.to Arc.frm t.states.toNat bk t.arcs:=by
  have h0:=ht.st0
  have h1:=ht.st1
  have hN:=ht.arcsN
  unfold E0_ Et_
  rw [aF ⟨h0,by omega⟩,aF ⟨h0,by omega⟩]
  obtain ⟨r,h2,on,bk,rfl,h3,h4⟩:=zs_ (step:=λq:bZ×bZ×Nat=>QJ t q.1 q.2.1 q.2.2) (λ(s:bZ×bZ) k=>(s.1,s.2,k)) t.arcs bg
    (λpre s=>Grp Arc.frm Arc.to t.states.toNat s.1 pre/\Grp Arc.to Arc.frm t.states.toNat s.2 pre)
    (λr=> ∃on bk,r=(t,on,bk)/\Grp Arc.frm Arc.to t.states.toNat on t.arcs/\Grp Arc.to Arc.frm t.states.toNat bk t.arcs)
    (λk s hk ⟨a1,a2⟩=>by
      obtain ⟨b1,b2,b3,b4⟩:=ht.arcs _ (wz bg hk)
      have l1:=a1.len
      have l2:=a2.len
      have r1:=qw_ a1 (i:=(nth t.arcs k bg).frm.toNat) (by omega)
      have r2:=qw_ a2 (i:=(nth t.arcs k bg).to.toNat) (by omega)
      have r3:=i3_ t.arcs k
      refine .inl ⟨(s.1.set (nth t.arcs k bg).frm.toNat (nth s.1 (nth t.arcs k bg).frm.toNat []++[(nth t.arcs k bg).to]),s.2.set (nth t.arcs k bg).to.toNat (nth s.2 (nth t.arcs k bg).to.toNat []++[(nth t.arcs k bg).frm])),?_,a1.snoc b1.1 (by omega),a2.snoc b2.1 (by omega)⟩
      show QJ t s.1 s.2 k=_
      unfold QJ Er_
      rw [bI (by omega),aF ⟨b1.1,by omega⟩,aF (by simp only [kD];omega),aF ⟨b1.1,by omega⟩,aF ⟨b2.1,by omega⟩,aF (by simp only [kD];omega),aF ⟨b2.1,by omega⟩]
      rfl)
    (λs hI=>⟨(t,s.1,s.2),by
      show QJ t s.1 s.2 t.arcs.length=_
      unfold QJ
      rw [bK (by omega)];rfl,s.1,s.2,rfl,hI.1,hI.2⟩)
    (s0:=(List.replicate t.states.toNat [],List.replicate t.states.toNat [])) ⟨Grp.nil ..,Grp.nil ..⟩
  exact ⟨on,bk,h2,h3,h4⟩
theorem z5_{t:Fst}(ht:FstOk t){key val:Arc->Int}{l:bZ}(h:Grp key val t.states.toNat l t.arcs)(hk: ∀a∈t.arcs,0<=key a/\key a<t.states):stE l=λa b=> ∃x∈t.arcs,key x=a/\val x=b:=by
  funext a b
  refine propext ⟨λ⟨h0,hb⟩=> ?_,λ⟨x,hx,h1,h2⟩=> ?_⟩
  · have hlt:a.toNat<t.states.toNat:=by
      have:=h.len
      by_cases hl:a.toNat<l.length
      · omega
      unfold nth at hb
      rw [List.getD_eq_getElem?_getD,List.getElem?_eq_none (by omega)]at hb
      simp at hb
    rw [h.row _ hlt,List.mem_map]at hb
    obtain ⟨x,hx,e⟩:=hb
    have:=List.mem_filter.1 hx
    exact ⟨x,this.1,by have:=jg this.2;omega,e⟩
  have:=hk x hx
  refine ⟨by omega,?_⟩
  rw [h.row _ (by omega),List.mem_map]
  exact ⟨x,List.mem_filter.2 ⟨hx,decide_eq_true (by omega)⟩,h2⟩
theorem v2_{t:Fst}{key val:Arc->Int}{l:bZ}(h:Grp key val t.states.toNat l t.arcs)(hk: ∀a∈t.arcs,0<=val a/\val a<t.states): ∀a, ∀z∈nth l a [],0<=z/\z<t.states.toNat:=λa z hz=>by
  have hl:=h.len
  by_cases ha:a<t.states.toNat
  · rw [h.row _ ha,List.mem_map]at hz
    obtain ⟨x,hx,rfl⟩:=hz
    have:=hk x (List.mem_filter.1 hx).1
    omega
  unfold nth at hz
  rw [List.getD_eq_getElem?_getD,List.getElem?_eq_none (by omega)]at hz
  simp at hz
def xm_(p:Nat->Bool)(n:Nat)(num:ak):Prop:=num.length=n/\ ∀s:Int,0<=s->s<n->nth num s.toNat 0=pO p s
theorem pd_(p:Nat->Bool)(l:List Tip)(k:Nat)(h:k<l.length):yG p (l.take (k+1))=yG p (l.take k)++(if 0<=pO p (nth l k aK).state then [⟨pO p (nth l k aK).state,(nth l k aK).out⟩] else []):=by
  rw [yH l h aK]
  unfold yG
  rw [List.filterMap_append]
  congr 1
  by_cases hc:0<=pO p (nth l k aK).state
  · rw [List.filterMap_cons,if_pos hc,if_pos hc];rfl
  rw [List.filterMap_cons,if_neg hc,if_neg hc];rfl
theorem vg_(p:Nat->Bool)(l:List Arc)(k:Nat)(h:k<l.length):AP p (l.take (k+1))=AP p (l.take k)++(if 0<=pO p (nth l k bg).frm/\0<=pO p (nth l k bg).to then [⟨pO p (nth l k bg).frm,pO p (nth l k bg).to,(nth l k bg).set,(nth l k bg).out,(nth l k bg).copy⟩] else []):=by
  rw [yH l h bg]
  unfold AP
  rw [List.filterMap_append]
  congr 1
  by_cases hc:0<=pO p (nth l k bg).frm/\0<=pO p (nth l k bg).to
  · rw [List.filterMap_cons,if_pos hc,if_pos hc];rfl
  rw [List.filterMap_cons,if_neg hc,if_neg hc];rfl
theorem vv_{t:Fst}(ht:FstOk t){p:Nat->Bool}{num:ak}(hn:xm_ p t.states.toNat num)(c:Nat)(S E:List Tip):
    bC (λq:List Arc×Nat=>QB t num c S E q.1 q.2) (([]:List Arc),0)=bnd (MP ⟨(c:Int),S,E,AP p t.arcs⟩) (λv=>some (v.1,v.2)):=by
  have hN:=ht.arcsN
  obtain ⟨r,hr⟩: ∃r,bnd (MP ⟨(c:Int),S,E,AP p t.arcs⟩) (λv=>some (v.1,v.2))=some r:=by rw [ql_];exact ⟨_,rfl⟩
  rw [hr]
  refine na_ t.arcs bg (λk=>AP p (t.arcs.take k)) (λk hk=> ?_) ?_
  · obtain ⟨b1,b2,b3,b4⟩:=ht.arcs _ (wz bg hk)
    have hl:=rw_ p (t.arcs.take k)
    have r3:=i3_ t.arcs k
    have e1:=hn.2 _ b1.1 (by omega)
    have e2:=hn.2 _ b2.1 (by omega)
    have l1:=hn.1
    show QB t num c S E _ k=_
    unfold QB Du_
    rw [bI (by omega),aF ⟨b1.1,by omega⟩,aF ⟨b2.1,by omega⟩,e1,e2,vg_ p _ k hk]
    by_cases c1:0<=pO p (nth t.arcs k bg).frm
    · rw [bI c1]
      by_cases c2:0<=pO p (nth t.arcs k bg).to
      · rw [bI c2,if_pos ⟨c1,c2⟩,aF (by simp only [kD];omega)];rfl
      rw [bK c2,if_neg (λh=>c2 h.2),List.append_nil];rfl
    rw [bK c1,if_neg (λh=>c1 h.1),List.append_nil];rfl
  show QB t num c S E _ _=_
  unfold QB
  rw [bK (by omega),List.take_length,hr];rfl
theorem w4_{t:Fst}(ht:FstOk t){p:Nat->Bool}{num:ak}(hn:xm_ p t.states.toNat num)(c:Nat)(S:List Tip):
    bC (λq:List Tip×Nat=>Qu t num c S q.1 q.2) (([]:List Tip),0)=bnd (MP ⟨(c:Int),S,yG p t.ends,AP p t.arcs⟩) (λv=>some (v.1,v.2)):=by
  have hN:=ht.endsN
  obtain ⟨r,hr⟩: ∃r,bnd (MP ⟨(c:Int),S,yG p t.ends,AP p t.arcs⟩) (λv=>some (v.1,v.2))=some r:=by rw [ql_];exact ⟨_,rfl⟩
  rw [hr]
  refine na_ t.ends aK (λk=>yG p (t.ends.take k)) (λk hk=> ?_) ?_
  · obtain ⟨b1,b2⟩:=ht.ends _ (wz aK hk)
    have hl:=ki_ p (t.ends.take k)
    have r3:=i3_ t.ends k
    have e1:=hn.2 _ b1.1 (by omega)
    have l1:=hn.1
    show Qu t num c S _ k=_
    unfold Qu Ek_
    rw [bI (by omega),aF ⟨b1.1,by omega⟩,e1,pd_ p _ k hk]
    by_cases c1:0<=pO p (nth t.ends k aK).state
    · rw [bI c1,if_pos c1,aF (by simp only [kD];omega)];rfl
    rw [bK c1,if_neg c1,List.append_nil];rfl
  show Qu t num c S _ _=_
  unfold Qu
  rw [bK (by omega),List.take_length,vv_ ht hn,hr];rfl
theorem te_{t:Fst}(ht:FstOk t){p:Nat->Bool}{num:ak}(hn:xm_ p t.states.toNat num)(c:Nat):
    bC (λq:List Tip×Nat=>Qx t num c q.1 q.2) (([]:List Tip),0)=bnd (MP ⟨(c:Int),yG p t.starts,yG p t.ends,AP p t.arcs⟩) (λv=>some (v.1,v.2)):=by
  have hN:=ht.startsN
  obtain ⟨r,hr⟩: ∃r,bnd (MP ⟨(c:Int),yG p t.starts,yG p t.ends,AP p t.arcs⟩) (λv=>some (v.1,v.2))=some r:=by rw [ql_];exact ⟨_,rfl⟩
  rw [hr]
  refine na_ t.starts aK (λk=>yG p (t.starts.take k)) (λk hk=> ?_) ?_
  · obtain ⟨b1,b2⟩:=ht.starts _ (wz aK hk)
    have hl:=ki_ p (t.starts.take k)
    have r3:=i3_ t.starts k
    have e1:=hn.2 _ b1.1 (by omega)
    have l1:=hn.1
    show Qx t num c _ k=_
    unfold Qx Em_
    rw [bI (by omega),aF ⟨b1.1,by omega⟩,e1,pd_ p _ k hk]
    by_cases c1:0<=pO p (nth t.starts k aK).state
    · rw [bI c1,if_pos c1,aF (by simp only [kD];omega)];rfl
    rw [bK c1,if_neg c1,List.append_nil];rfl
  show Qx t num c _ _=_
  unfold Qx
  rw [bK (by omega),List.take_length,w4_ ht hn,hr];rfl
theorem vt_ {t : Fst} (ht : FstOk t) {on bk : bZ} (h1 : Grp Arc.frm Arc.to t.states.toNat on t.arcs) (h2 : Grp Arc.to Arc.frm t.states.toNat bk t.arcs) {l0 : ak} (hl0 : l0.length = t.states.toNat) (hm : ∀ i, i < t.states.toNat -> nth l0 i 0 = -1) :
    ∃num,Ec_ (Nl (λ(q:ak×Nat) (x:Int)=>Vl q.1 q.2 x)) (0,(l0,0)) (⟨t.states,t.starts,t.ends,t.arcs⟩:Fst) on bk=some (0,(num,jA (mG t) t.states.toNat))/\xm_ (mG t) t.states.toNat num:=by
  have h0:=ht.st0
  have hs1:=ht.st1
  obtain ⟨ah,a1,a2,a3⟩:=to_ (tips:=t.starts) (by omega) h1.len (v2_ h1 λa ha=>(ht.arcs a ha).2.1) (λx hx=>by have:=(ht.starts x hx).1;omega)
  obtain ⟨be,b1,b2,b3⟩:=to_ (tips:=t.ends) (by omega) h2.len (v2_ h2 λa ha=>(ht.arcs a ha).1) (λx hx=>by have:=(ht.ends x hx).1;omega)
  rw [z5_ ht h1 λa ha=>(ht.arcs a ha).1]at a3
  rw [z5_ ht h2 λa ha=>(ht.arcs a ha).2.1]at b3
  have hp: ∀v,mG t v=(nth ah v false && nth be v false):=λv=>by
    rw [Bool.eq_iff_iff,Bool.and_eq_true,a3 v,b3 v];exact t0_
  unfold Ec_
  rw [yR a1,yR b1]
  obtain ⟨r,e,f⟩:=kT (step:=λq:Nat×(Nat×ak×Nat)=>QL ah be (Nl (λ(q:ak×Nat) (x:Int)=>Vl q.1 q.2 x)) q.1 q.2) (λ(s:Nat×ak×Nat) k=>(k,s)) t.states.toNat
    (λk s=>s.1=0/\s.2.2=jA (mG t) k/\s.2.1.length=t.states.toNat/\ ∀i,i<t.states.toNat->nth s.2.1 i 0=if i<k then pO (mG t) i else -1)
    (λr=>r.1=0/\r.2.2=jA (mG t) t.states.toNat/\xm_ (mG t) t.states.toNat r.2.1)
    (λk s hk ⟨c1,c2,c3,c4⟩=>by
      obtain ⟨j,l,c⟩:=s
      obtain rfl:j=0:=c1
      obtain rfl:c=jA (mG t) k:=c2
      dsimp only at c3 c4
      refine .inl ?_
      show ∃s':Nat×ak×Nat,QL ah be _ k (0,l,jA (mG t) k)=_/\_
      unfold QL Cr_
      rw [bI (by omega)]
      have hk':=hp k
      cases ha:nth ah k false with
      |false=>
        rw [ha,Bool.false_and]at hk'
        refine ⟨(0,l,jA (mG t) k),rfl,rfl,by simp only [jA,hk'];rfl,c3,λi hi=> ?_⟩
        dsimp only
        rw [c4 i hi]
        by_cases e1:i<k
        · rw [if_pos e1,if_pos (by omega)]
        rw [if_neg e1]
        by_cases e2:i<k+1
        · obtain rfl:i=k:=by omega
          rw [if_pos e2];unfold pO;simp [hk']
        rw [if_neg e2]
      |true=>
        rw [iteO_true,aF (by omega)]
        cases hb:nth be k false with
        |false=>
          rw [ha,hb,Bool.true_and]at hk'
          refine ⟨(0,l,jA (mG t) k),rfl,rfl,by simp only [jA,hk'];rfl,c3,λi hi=> ?_⟩
          dsimp only
          rw [c4 i hi]
          by_cases e1:i<k
          · rw [if_pos e1,if_pos (by omega)]
          rw [if_neg e1]
          by_cases e2:i<k+1
          · obtain rfl:i=k:=by omega
            rw [if_pos e2];unfold pO;simp [hk']
          rw [if_neg e2]
        |true=>
          rw [ha,hb,Bool.true_and]at hk'
          have hy:Nl (λ(q:ak×Nat) (x:Int)=>Vl q.1 q.2 x) (0,l,jA (mG t) k) ((k:Nat):Int)=some ((0,l.set k ((jA (mG t) k:Nat):Int),jA (mG t) k+1),true):=by
            unfold Nl
            rw [if_pos rfl]
            show (Vl l (jA (mG t) k) ((k:Nat):Int)).bind _=_
            unfold Vl
            have hself:=PI (mG t) k
            rw [aF ⟨by omega,by omega⟩,aF (by omega)];rfl
          rw [iteO_true,yR hy]
          refine ⟨(0,l.set k ((jA (mG t) k:Nat):Int),jA (mG t) k+1),rfl,rfl,by simp only [jA,hk',if_true],by rw [gy];exact c3,λi hi=> ?_⟩
          dsimp only
          rw [jO]
          by_cases e1:k=i
          · subst e1
            rw [if_pos ⟨rfl,by omega⟩,if_pos (by omega),ks_ (by simpa using hk')];simp
          rw [if_neg (λh=>e1 h.1),c4 i hi]
          by_cases e2:i<k
          · rw [if_pos e2,if_pos (by omega)]
          rw [if_neg e2,if_neg (by omega)])
    (λs ⟨c1,c2,c3,c4⟩=>⟨s,by
      show QL ah be _ _ s=_
      unfold QL
      rw [bK (by omega)];rfl,c1,c2,c3,λv h1 h2=>by
        rw [c4 _ (by omega),if_pos (by omega),show ((v.toNat:Nat):Int)=v by omega]⟩)
    (s0:=(0,l0,0)) ⟨rfl,rfl,hl0,λi hi=>by rw [if_neg (by omega)];exact hm i hi⟩
  obtain ⟨j,num,c⟩:=r
  obtain ⟨f1,f2,f3⟩:=f
  dsimp only at f1 f2 f3
  subst f1 f2
  exact ⟨num,e,f3⟩
def DX(t:Fst):Fst:=srt (ZW (mG t) t)
theorem ok_rng{t:Fst}(ht:FstOk t):Rng t:=⟨λx hx=>(ht.starts x hx).1,λx hx=>(ht.ends x hx).1,λx hx=>⟨(ht.arcs x hx).1,(ht.arcs x hx).2.1⟩⟩
theorem xv_{t:Fst}(ht:FstOk t):FstOk (ZW (mG t) t):=by
  have hr:=zi_ (t:=t) (r:=ZW (mG t) t) (λ_=>Iff.rfl) (λ_=>Iff.rfl) (λ_=>Iff.rfl) rfl (ok_rng ht)
  have h1:=ht.st1
  have hc:=PI (mG t) t.states.toNat
  have l1:=ki_ (mG t) t.starts
  have l2:=ki_ (mG t) t.ends
  have l3:=rw_ (mG t) t.arcs
  refine ⟨by show (0:Int)<=((jA (mG t) t.states.toNat:Nat):Int);omega,by have:=ht.st0;show ((jA (mG t) t.states.toNat:Nat):Int)<=1024;omega,Nat.le_trans l3 ht.arcsN,Nat.le_trans l1 ht.startsN,Nat.le_trans l2 ht.endsN,λy hy=>⟨hr.starts y hy,?_⟩,λy hy=>⟨hr.ends y hy,?_⟩,λy hy=>⟨(hr.arcs y hy).1,(hr.arcs y hy).2,?_⟩⟩
  · obtain ⟨x,hx,_,rfl⟩:=km_.1 hy;exact (ht.starts x hx).2
  · obtain ⟨x,hx,_,rfl⟩:=km_.1 hy;exact (ht.ends x hx).2
  obtain ⟨x,hx,_,_,rfl⟩:=se_.1 hy;exact (ht.arcs x hx).2.2
theorem trim_eq (t : Fst) : Fk_ t = some (if AB t = true then (DX t, 0) else (⟨0, [], [], []⟩, 1)) := by
  unfold Fk_
  rw [Gg_,bnd,Option.bind_some,w0_]
  by_cases h:AB t=true
  · have ht:=(kz_ t).1 h
    have h0:=ht.st0
    have h1:=ht.st1
    rw [h,Bool.not_true,iteO_false,aF ⟨h0,by omega⟩,if_pos rfl]
    obtain ⟨r,e,rfl⟩:=kT (step:=λq:ak×Nat=>Qv t q.1 q.2) (λ(l:ak) k=>(l,k)) t.states.toNat
      (λk l=>l.length=t.states.toNat/\ ∀i,i<k->nth l i 0= -1) (λr=>r=(DX t,0))
      (λk l hk ⟨c1,c2⟩=> .inl ⟨l.set k (-1),by
        show Qv t l k=_
        unfold Qv
        rw [r_,bI (by omega),aF (by omega)];rfl,by rw [gy];exact c1,λi hi=>by
          rw [jO]
          by_cases e1:k=i
          · rw [if_pos ⟨e1,by omega⟩]
          rw [if_neg (λh=>e1 h.1)];exact c2 i (by omega)⟩)
      (λl ⟨c1,c2⟩=>⟨(DX t,0),by
        obtain ⟨on,bk,u1,u2,u3⟩:=xh_ ht
        obtain ⟨num,v1,v2⟩:=vt_ ht u2 u3 c1 c2
        show Qv t l _=_
        unfold Qv
        rw [r_,bK (by omega),yR u1]
        dsimp only
        rw [yR v1]
        unfold F9_
        show fin (bC _ _)=_
        rw [te_ ht v2,ql_]
        show fin (bnd (some (if AB (ZW (mG t) t)=true then (srt (ZW (mG t) t),0) else _)) _)=_
        rw [if_pos ((kz_ _).2 (xv_ ht))];rfl,rfl⟩)
      (s0:=List.replicate t.states.toNat 0) ⟨r_ ..,λi hi=>by omega⟩
    exact e
  simp only [Bool.not_eq_true]at h
  rw [h];rfl
theorem yv_{t:Fst}(ht:FstOk t):FstOk (DX t):=srt_ok (xv_ ht)
end Go.Proofs.YtchebnpdnfhenaaGreatDoor
end

noncomputable section
namespace Go.Proofs.YtchebnpdnfhenaaGreatDoor
open Go Go.E
theorem nm_{A:List Arc}{most:Int}{l:List Tip}{R:List (List Tip)}{e:Int}{k:Nat}(h:EL A most l R k= .inl e): ∀j,EL A most l R (k+j)= .inl e
  |0=>h
  |j+1=>by
    show EL A most l R (k+j+1)=_
    rw [EL,nm_ h j]
def DoQ(n:Int)(x0:Maker):Int⊕(List (List Tip)×Seq)->Int⊕Maker->Prop
  | .inl e,r=>r= .inl e
  | .inr (R',q'),r=> ∃m',r= .inr ⟨x0.arcs,x0.ends,x0.most,R',m',q'⟩/\Places n m' R'
theorem Fits.with'{n:Nat}{A:List Arc}{E:List Tip}{x:Maker}(h:Fits n A E x)(R:List (List Tip))(m:FM T_1 Int)(q:Seq):Fits n A E ⟨x.arcs,x.ends,x.most,R,m,q⟩:=
  ⟨⟨h.arcs,h.ends,h.al,h.ao,h.eo,h.hn⟩,h.to,h.few,h.m1,h.m2⟩
structure QOk (q:Seq) (k:Nat):Prop where
  n:q.next.length=k
  o:q.outs.length=k
  e:q.fin.length=k
  t:q.tail.length=k
theorem QOk.push{q:Seq}{k:Nat}(h:QOk q k)(N:ak)(O:aC)(b:Bool)(t:T_1):QOk (OB q N O b t) (k+1):=⟨by simp [OB,h.n],by simp [OB,h.o],by simp [OB,h.e],by simp [OB,h.t]⟩
theorem do_ok {n : Nat} {A : List Arc} {E : List Tip} {x0 : Maker} (h : Fits n A E x0) (hp : Places n x0.places x0.rows) (hR : (x0.rows.length : Int) <= x0.most) {s : Nat} (hs : s < x0.rows.length) {c : Nat} (hq : QOk x0.q c) (hc : c <= 1024) :
    ∃r,Eu_ x0 ((s:Nat):Int)=some r/\DoQ n x0 (doD A E x0.most (nth x0.rows s []) x0.rows x0.q) r:=by
  have hl:RowOk n (nth x0.rows s []):=hp.ok _ (wz _ hs)
  have hn:=h.hn
  have hm2:=h.m2
  have hlen:(nth x0.rows s []).length<=n:=by
    have:=vu_ (by omega) hl.inc hl.st
    omega
  unfold Eu_ doD
  rw [aF (by omega),iW,tail_ok h.toKnows hl,fD]
  cases htl:V4 E (nth x0.rows s [])with
  |inl e=>exact ⟨_,rfl,rfl⟩
  | inr bt =>
    obtain ⟨bb,tt⟩:=bt
    show ∃r,D2_ x0 ((s:Nat):Int) (bb,tt)=some r/\DoQ n x0 (match EL A x0.most (nth x0.rows s []) x0.rows 256 with| .inl e=> .inl e| .inr (R',N,O)=> .inr (R',OB x0.q N O bb tt)) r
    unfold D2_
    refine kT (step:=λq:(List (List Tip))×(FM T_1 Int)×ak×aC×Nat=>MW x0 ((s:Nat):Int) (bb,tt) q.1 q.2.1 q.2.2.1 q.2.2.2.1 q.2.2.2.2) (λ(z:List (List Tip)×FM T_1 Int×ak×aC) k=>(z.1,z.2.1,z.2.2.1,z.2.2.2,k)) 256
      (λk z=> ∃R N O,EL A x0.most (nth x0.rows s []) x0.rows k= .inr (R,N,O)/\Places n z.2.1 R/\z.1=R/\z.2.2.1=N++List.replicate (256 - N.length) 0/\z.2.2.2=O++List.replicate (256 - O.length) [])
      _ ?_ ?_ (s0:=(x0.rows,x0.places,List.replicate 256 0,List.replicate 256 [])) ⟨x0.rows,[],[],rfl,hp,rfl,by simp,by simp⟩
    · rintro k ⟨z1,m,z3,z4⟩ hk ⟨R,N,O,hb,hpl,e1,e3,e4⟩
      simp only at e1 e3 e4 hpl
      subst e1 e3 e4
      obtain ⟨hRl,⟨X,hX⟩,hN,hO⟩:=kj_ hR hb
      have hfit:=h.with' z1 m x0.q
      have hb1:EL A x0.most (nth x0.rows s []) x0.rows (k+1)=match VZ A x0.most (nth x0.rows s []) (qR ((k:Nat):Int)) z1 with| .inl e=> .inl e| .inr (R2,z,o)=> .inr (R2,N++[z],O++[o]):=by rw [EL,hb]<;>rfl
      have hbl:(vI A (nth x0.rows s []) (qR ((k:Nat):Int))).length<=1000000:=by
        have h1:=qr_ A (qR ((k:Nat):Int)) (nth x0.rows s [])
        have h2:(nth x0.rows s []).length * A.length<=n * A.length:=Nat.mul_le_mul_right _ hlen
        have h3:=h.few
        omega
      have hkN:k<(N++List.replicate (256 - N.length) (0:Int)).length:=by simp;omega
      have hkO:k<(O++List.replicate (256 - O.length) ([]:T_1)).length:=by simp;omega
      have e1:(N++List.replicate (256 - N.length) (0:Int)).set k (-1)=(N++[-1])++List.replicate (256 - (N++[(-1:Int)]).length) 0:=by
        have:=nr_ N 256 (-1:Int) 0 (by omega)
        rwa [hN]at this ⊢
      have e2: ∀z:Int,((N++List.replicate (256 - N.length) (0:Int)).set k (-1)).set k z=(N++[z])++List.replicate (256 - (N++[z]).length) 0:=λz=>by
        rw [Jd_]
        have:=nr_ N 256 z 0 (by omega)
        rwa [hN]at this ⊢
      have e3: ∀o:T_1,(O++List.replicate (256 - O.length) ([]:T_1)).set k o=(O++[o])++List.replicate (256 - (O++[o]).length) []:=λo=>by
        have:=nr_ O 256 o [] (by omega)
        rwa [hO]at this ⊢
      have hO1:O++List.replicate (256 - O.length) ([]:T_1)=(O++[[]])++List.replicate (256 - (O++[([]:T_1)]).length) []:=by
        rw [qH,gB,kD,show 256 - O.length=(256 - (O.length+1))+1 by omega,List.replicate_succ];rfl
      -- the step
      have hst:MW x0 ((s:Nat):Int) (bb,tt) z1 m (N++List.replicate (256 - N.length) 0) (O++List.replicate (256 - O.length) []) k=
          aN (decide (0<(((vI A (nth x0.rows s []) (qR ((k:Nat):Int))).length:Nat):Int))) (bnd (some (IG (vI A (nth x0.rows s []) (qR ((k:Nat):Int))))) (λv41=>su v41 (λv41k=>fin (some (.inl v41k))) (λv41r=>bnd (IK (⟨x0.arcs,x0.ends,x0.most,z1,m,x0.q⟩:Maker) v41r.2) (λv52=>su v52 (λv52k=>fin (some (.inl v52k))) (λv52r=>nxt (v52r.2.rows,v52r.2.places,((N++List.replicate (256 - N.length) (0:Int)).set k (-1)).set k v52r.1,(O++List.replicate (256 - O.length) []).set k v41r.1,k+1))))))
          (nxt (z1,m,(N++List.replicate (256 - N.length) (0:Int)).set k (-1),O++List.replicate (256 - O.length) [],k+1)):=by
        unfold MW
        rw [bI (by omega),aF hkN,iW,beh_ok hfit.toKnows hl,fD,uj_ hbl (beh_out h.ao hl _)]
        simp only [aF hkO,aF (show k<((N++List.replicate (256 - N.length) (0:Int)).set k (-1)).length by rw [gy];exact hkN)]
      show (∃s':List (List Tip)×FM T_1 Int×ak×aC,MW x0 ((s:Nat):Int) (bb,tt) z1 m (N++List.replicate (256 - N.length) 0) (O++List.replicate (256 - O.length) []) k=some (.inl (s'.1,s'.2.1,s'.2.2.1,s'.2.2.2,k+1))/\_)\/ ∃r,MW x0 ((s:Nat):Int) (bb,tt) z1 m (N++List.replicate (256 - N.length) 0) (O++List.replicate (256 - O.length) []) k=some (.inr r)/\_
      rw [hst]
      unfold VZ at hb1
      by_cases cb:vI A (nth x0.rows s []) (qR ((k:Nat):Int))=[]
      · rw [if_pos cb]at hb1
        left
        refine ⟨(z1,m,_,_),?_,z1,_,_,hb1,hpl,rfl,rfl,rfl⟩
        rw [cb,bK (by simp),e1,hO1];rfl
      rw [if_neg cb]at hb1
      have hpos:0<(vI A (nth x0.rows s []) (qR ((k:Nat):Int))).length:=List.length_pos_iff.2 cb
      rw [bI (by omega),fD]
      cases hsd:IG (vI A (nth x0.rows s []) (qR ((k:Nat):Int)))with
      |inl e=>
        rw [hsd]at hb1
        right
        refine ⟨.inl e,rfl,?_⟩
        have:=nm_ hb1 (256 - (k+1))
        rw [show k+1+(256 - (k+1))=256 by omega]at this
        rw [this];rfl
      |inr fr=>
        obtain ⟨f,r⟩:=fr
        rw [hsd]at hb1
        have hrow:=(strip_row (n:=n) (by omega) (beh_st h.to _ _) hsd).1
        obtain ⟨k1,k2⟩:=ub_ (n:=n) (x0:=⟨x0.arcs,x0.ends,x0.most,z1,m,x0.q⟩) (by omega) hpl hrow (show z1.length<=1000000 by omega)
        show (∃s',bnd (IK ⟨x0.arcs,x0.ends,x0.most,z1,m,x0.q⟩ r) _=_/\_)\/ ∃q,bnd (IK ⟨x0.arcs,x0.ends,x0.most,z1,m,x0.q⟩ r) _=_/\_
        cases hsn:Ns x0.most z1 r with
        |inl e=>
          simp only [hsn]at hb1
          rw [k1 e hsn,fD]
          right
          refine ⟨.inl e,rfl,?_⟩
          have:=nm_ hb1 (256 - (k+1))
          rw [show k+1+(256 - (k+1))=256 by omega]at this
          rw [this];rfl
        |inr iR=>
          obtain ⟨i,R'⟩:=iR
          simp only [hsn]at hb1
          obtain ⟨m',hm1,hm2⟩:=k2 i R' hsn
          rw [hm1,fD]
          left
          refine ⟨(R',m',_,_),?_,R',_,_,hb1,hm2,rfl,rfl,rfl⟩
          show nxt (R',m',_,_,k+1)=_
          rw [e2,e3];rfl
    rintro ⟨z1,m,z3,z4⟩ ⟨R,N,O,hb,hpl,e1,e3,e4⟩
    simp only at e1 e3 e4 hpl
    subst e1 e3 e4
    obtain ⟨hRl,⟨X,hX⟩,hN,hO⟩:=kj_ hR hb
    have hq1:=hq.n
    have hq2:=hq.o
    have hq3:=hq.e
    have hq4:=hq.t
    refine ⟨.inr ⟨x0.arcs,x0.ends,x0.most,z1,m,OB x0.q N O bb tt⟩,?_,?_⟩
    · show MW x0 ((s:Nat):Int) (bb,tt) z1 m (N++List.replicate (256 - N.length) 0) (O++List.replicate (256 - O.length) []) 256=_
      unfold MW
      rw [bK (by omega),aF (by simp;omega),aF (by simp;omega),aF (by simp;omega),aF (by simp;omega),hN,hO,Nat.sub_self,List.replicate_zero,List.append_nil,List.replicate_zero,List.append_nil]
      rfl
    rw [hb]
    exact ⟨m,rfl,hpl⟩
theorem do_len{A:List Arc}{E:List Tip}{most:Int}{l:List Tip}{R R':List (List Tip)}{q q':Seq}{c:Nat}(h:doD A E most l R q= .inr (R',q'))(hR:(R.length:Int)<=most)(hq:QOk q c):
    (R'.length:Int)<=most/\(∃X,R'=R++X)/\QOk q' (c+1)/\q'.front=q.front:=by
  unfold doD at h
  split at h
  · cases h
  split at h
  · cases h
  rename_i hb
  cases h
  obtain ⟨h1,h2,_,_⟩:=kj_ hR hb
  exact ⟨h1,h2,hq.push _ _ _ _,rfl⟩
theorem x8_ {n : Nat} {A : List Arc} {E : List Tip} {x0 : Maker} (h : Fits n A E x0) (v : T_1 × (List Tip)) : ∀ (g s : Nat) (R : List (List Tip)) (m : FM T_1 Int) (q : Seq), 1025 - s <= g -> s <= R.length -> Places n m R -> (R.length : Int) <= x0.most -> QOk q s -> q.front = v.1 ->
    bC (λq:(List (List Tip))×(FM T_1 Int)×bZ×fO×B_1×aC×Nat=>MS x0 v q.1 q.2.1 q.2.2.1 q.2.2.2.1 q.2.2.2.2.1 q.2.2.2.2.2.1 q.2.2.2.2.2.2) (R,m,q.next,q.outs,q.fin,q.tail,s)=some (ofR (allD A E x0.most g s R q))
  |0,s,R,m,q,hg,hs,hp,hR,hq,hf=>by have:=h.m2;omega
  | g + 1, s, R, m, q, hg, hs, hp, hR, hq, hf => by
    have hm2:=h.m2
    rw [allD]
    by_cases c:s<R.length
    · rw [if_pos c]
      have hfit:=h.with' R m q
      obtain ⟨r,h1,h2⟩:=do_ok hfit hp hR c hq (by omega)
      have eq1:(⟨v.1,q.next,q.outs,q.fin,q.tail⟩:Seq)=q:=by rw [<-hf]
      have hst:MS x0 v R m q.next q.outs q.fin q.tail s=su r (λk=>fin (bnd (Fb_ k) (λv70=>some (v70.1,v70.2)))) (λr=>nxt (r.rows,r.places,r.q.next,r.q.outs,r.q.fin,r.q.tail,(s+1))):=by
        unfold MS
        rw [bI (by omega),eq1,h1,fD]
      cases hd:doD A E x0.most (nth R s []) R q with
      |inl e=>
        have h2:r= .inl e:=by
          have:=h2
          change DoQ n _ (doD A E x0.most (nth R s []) R q) r at this
          rw [hd]at this;exact this
        refine zD ?_
        show MS x0 v R m q.next q.outs q.fin q.tail s=_
        rw [hst,h2];rfl
      |inr rq=>
        obtain ⟨R',q'⟩:=rq
        obtain ⟨m',h3,h4⟩: ∃m',r= .inr ⟨x0.arcs,x0.ends,x0.most,R',m',q'⟩/\Places n m' R':=by
          have:=h2
          change DoQ n _ (doD A E x0.most (nth R s []) R q) r at this
          rw [hd]at this;exact this
        obtain ⟨h5,⟨X,h6⟩,h7,h8⟩:=do_len hd hR hq
        have hlen:R.length<=R'.length:=by rw [h6,gB];omega
        refine II (s':=(R',m',q'.next,q'.outs,q'.fin,q'.tail,s+1)) ?_ (x8_ h v g (s+1) R' m' q' (by omega) (by omega) h4 h5 h7 (h8.trans hf))
        show MS x0 v R m q.next q.outs q.fin q.tail s=_
        rw [hst,h3];rfl
    rw [if_neg c]
    refine zD ?_
    show MS x0 v R m q.next q.outs q.fin q.tail s=_
    have eq1:(⟨v.1,q.next,q.outs,q.fin,q.tail⟩:Seq)=q:=by rw [<-hf]
    unfold MS
    rw [bK (by omega),eq1];rfl
theorem all_eq{n:Nat}{t:Fst}{x0:Maker}(h:Fits n t.arcs t.ends x0)(hn:t.states=n)(ht:FstOk t)(hr:x0.rows=[])(hm:x0.places=FM.emp)(hq:x0.q=Seq.zero):En_ x0 t=some (ofR (ofT t x0.most)):=by
  have hn2:=h.hn
  have hm1:=h.m1
  unfold En_ ofT
  by_cases c:t.starts=[]
  · rw [if_pos c,c,bI (by simp)];rfl
  rw [if_neg c]
  have hpos:=List.length_pos_iff.2 c
  have hsl:=ht.startsN
  have hss: ∀x∈t.starts,0<=x.state/\x.state<(n:Int):=λx hx=>by rw [<-hn];exact (ht.starts x hx).1
  rw [bK (by omega),aF (by omega),uj_ (by omega) (λx hx=>by have:=(ht.starts x hx).2;omega),fD]
  cases hsd:IG t.starts with
  |inl e=>rfl
  |inr fl=>
    obtain ⟨f,l⟩:=fl
    have hrow:=(strip_row (n:=n) (by omega) hss hsd).1
    obtain ⟨k1,k2⟩:=ub_ (n:=n) (x0:=⟨x0.arcs,x0.ends,x0.most,x0.rows,x0.places,⟨f,x0.q.next,x0.q.outs,x0.q.fin,x0.q.tail⟩⟩) (by omega) (by rw [hr,hm];exact Places.nil n) hrow (by rw [hr];simp)
    have hsn:Ns x0.most x0.rows l= .inr (0,[l]):=by
      unfold Ns
      rw [hr,if_neg (by simp),if_neg (by simp;omega)];rfl
    obtain ⟨m',h1,h2⟩:=k2 0 [l] hsn
    show bnd (IK ⟨x0.arcs,x0.ends,x0.most,x0.rows,x0.places,⟨f,x0.q.next,x0.q.outs,x0.q.fin,x0.q.tail⟩⟩ l) _=_
    rw [h1,fD]
    show bC _ ([l],m',x0.q.next,x0.q.outs,x0.q.fin,x0.q.tail,0)=_
    rw [hq]
    exact x8_ h (f,l) 1025 0 [l] m' ⟨f,[],[],[],[]⟩ (by omega) (by simp) h2 (by simp;omega) ⟨rfl,rfl,rfl,rfl⟩ rfl
end Go.Proofs.YtchebnpdnfhenaaGreatDoor
end

noncomputable section
namespace Go.Proofs.YtchebnpdnfhenaaGreatDoor
open Go Go.E
def ofD(t:Fst)(most:Int):Seq×Int:=if AB t=true/\1<=most/\most<=1024 then ofR (ofT (DX t) most) else (Seq.zero,1)
theorem of_ends {T : Fst} (hT : FstOk T) {most : Int} (h1 : 1 <= most) (h2 : most <= 1024) (hf : T.states.toNat * T.arcs.length <= 1000000) (e : Int) {la : List (List Arc)} (hG : Grp Arc.frm id T.states.toNat la T.arcs) :
    bC (λq:fO×Nat=>MQ (T,e) la most q.1 q.2) ((List.replicate T.states.toNat ([]:aC)),0)=some (ofR (ofT T most)):=by
  have hs:=hT.st0
  obtain ⟨r,k1,k2⟩:=kT (step:=λq:fO×Nat=>MQ (T,e) la most q.1 q.2) (λl k=>(l,k)) T.ends.length (λk l=>Grp Tip.state Tip.out T.states.toNat l (T.ends.take k)) (λr=>r=ofR (ofT T most))
    (λk l hk hI=>by
      have hx:=(hT.ends _ (wz aK hk)).1
      have hle:=hI.len
      have hen:=hT.endsN
      have hgl:(nth l (nth T.ends k aK).state.toNat []).length<=1024:=by
        have h3:=qw_ hI (i:=(nth T.ends k aK).state.toNat) (by omega)
        rw [List.length_take]at h3;omega
      refine .inl ⟨l.set (nth T.ends k aK).state.toNat (nth l (nth T.ends k aK).state.toNat []++[(nth T.ends k aK).out]),?_,?_⟩
      · show MQ (T,e) la most l k=_
        unfold MQ
        show aN (decide (((k:Nat):Int)<((T.ends.length:Nat):Int))) _ _=_
        rw [bI (by omega),aF ⟨hx.1,by show (nth T.ends k aK).state<_;omega⟩,aF (by show ((nth l (nth T.ends k aK).state.toNat []).length+1) * 16<=_;omega),aF ⟨hx.1,by show (nth T.ends k aK).state<_;omega⟩];rfl
      rw [yH _ hk aK]
      exact hI.snoc hx.1 (by omega))
    (λl hI=>by
      rw [List.take_length]at hI
      refine ⟨_,?_,rfl⟩
      have hfit:Fits T.states.toNat T.arcs T.ends ⟨la,l,most,[],FM.emp,⟨[],[],[],[],[]⟩⟩:=
        ⟨⟨hG,hI,hT.arcsN,λa ha=>(hT.arcs a ha).2.2.2,λx hx=>(hT.ends x hx).2,by have:=hT.st1;omega⟩,λa ha=>by have:=(hT.arcs a ha).2.1;omega,hf,h1,h2⟩
      show MQ (T,e) la most l T.ends.length=_
      unfold MQ
      rw [bK (by show ¬ ((T.ends.length:Nat):Int)<((T.ends.length:Nat):Int);omega),all_eq hfit (by omega) hT rfl rfl rfl,fD];rfl) (s0:=List.replicate T.states.toNat []) (Grp.nil ..)
  rw [<-k2];exact k1
theorem of_all {T : Fst} (hT : FstOk T) {most : Int} (h1 : 1 <= most) (h2 : most <= 1024) (hf : T.states.toNat * T.arcs.length <= 1000000) (e : Int) : Fe_ (T, e) most = some (ofR (ofT T most)) := by
  have hs:=hT.st0
  unfold Fe_
  obtain ⟨r,k1,k2⟩:=kT (step:=λq:(List (List Arc))×Nat=>Qm (T,e) most q.1 q.2) (λl k=>(l,k)) T.arcs.length (λk l=>Grp Arc.frm id T.states.toNat l (T.arcs.take k)) (λr=>r=ofR (ofT T most))
    (λk l hk hI=>by
      have hx:=(hT.arcs _ (wz bg hk)).1
      have hle:=hI.len
      have hen:=hT.arcsN
      have hgl:(nth l (nth T.arcs k bg).frm.toNat []).length<=16384:=by
        have h3:=qw_ hI (i:=(nth T.arcs k bg).frm.toNat) (by omega)
        rw [List.length_take]at h3;omega
      refine .inl ⟨l.set (nth T.arcs k bg).frm.toNat (nth l (nth T.arcs k bg).frm.toNat []++[(nth T.arcs k bg)]),?_,?_⟩
      · show Qm (T,e) most l k=_
        unfold Qm
        show aN (decide (((k:Nat):Int)<((T.arcs.length:Nat):Int))) _ _=_
        rw [bI (by omega),aF ⟨hx.1,by show (nth T.arcs k bg).frm<_;omega⟩,aF (by show ((nth l (nth T.arcs k bg).frm.toNat []).length+1) * 72<=_;omega),aF ⟨hx.1,by show (nth T.arcs k bg).frm<_;omega⟩];rfl
      rw [yH _ hk bg]
      exact hI.snoc hx.1 (by omega))
    (λl hI=>by
      rw [List.take_length]at hI
      refine ⟨_,?_,rfl⟩
      show Qm (T,e) most l T.arcs.length=_
      unfold Qm
      rw [bK (by show ¬ ((T.arcs.length:Nat):Int)<((T.arcs.length:Nat):Int);omega)]
      show fin (bC (λq:fO×Nat=>MQ (T,e) l most q.1 q.2) ((List.replicate T.states.toNat ([]:aC)),0))=_
      rw [of_ends hT h1 h2 hf e hI];rfl) (s0:=List.replicate T.states.toNat []) (Grp.nil ..)
  rw [<-k2];exact k1
theorem of_eq(t:Fst)(most:Int)(hf:AB t=true->(DX t).states.toNat * (DX t).arcs.length<=1000000):Gv_ t most=some (ofD t most):=by
  unfold Gv_ ofD
  rw [Gg_,fD]
  cases hb:AB t with
  |false=>rw [bI (by decide),if_neg (by simp)];rfl
  |true=>
    have ht:=(kz_ t).1 hb
    have hT:=yv_ ht
    have h0:=hT.st0
    have h9:=hT.st1
    rw [bK (by decide)]
    by_cases c1:most<1
    · rw [bI c1,if_neg (λq=>by omega)];rfl
    rw [bK c1]
    by_cases c2:1024<most
    · rw [bI c2,if_neg (λq=>by omega)];rfl
    rw [bK c2,if_pos ⟨rfl,by omega,by omega⟩,trim_eq,hb,if_pos rfl,fD,bK (by simp)]
    show grd (0<=(DX t).states/\24 * (DX t).states.toNat<=281474976710656) (grd (0<=(DX t).states/\24 * (DX t).states.toNat<=281474976710656) (Fe_ (DX t,0) most))=_
    rw [aF ⟨h0,by omega⟩,aF ⟨h0,by omega⟩,of_all hT (by omega) (by omega) (hf hb)]
end Go.Proofs.YtchebnpdnfhenaaGreatDoor
end

noncomputable section
namespace Go.Proofs.YtchebnpdnfhenaaGreatDoor
open Go Go.E
def aFrm(back:Bool)(x:Arc):Int:=if back=true then x.to else x.frm
def aTo(back:Bool)(x:Arc):Int:=if back=true then x.frm else x.to
def aE(t:Fst)(back:Bool)(a b:Int):Prop:= ∃x∈t.arcs,aFrm back x=a/\aTo back x=b
structure GI (t:Fst) (tips:List Tip) (back:Bool) (l:B_1):Prop where
  len:l.length=t.states.toNat
  sound: ∀v:Nat,nth l v false=true->Rch (λc=> ∃x∈tips,x.state=c) (aE t back) v
  tip: ∀x∈tips,nth l x.state.toNat false=true
end Go.Proofs.YtchebnpdnfhenaaGreatDoor
end

noncomputable section
namespace Go.Proofs.YtchebnpdnfhenaaGreatDoor
open Go Go.E
end Go.Proofs.YtchebnpdnfhenaaGreatDoor
end

noncomputable section
namespace Go.Proofs.YtchebnpdnfhenaaGreatDoor
open Go Go.E
section
variable {α:Type} (cf:α->α->Int)
def insG(x:α):List α->List α
  |[]=>[x]
  |y::l=>if cf y x<0 then y::insG x l else x::y::l
def Wq:List α->List α
  |[]=>[]
  |x::l=>insG cf x (Wq l)
theorem n0_(x:α): ∀l,(insG cf x l).Perm (x::l)
  |[]=>List.Perm.refl _
  |y::l=>by
    unfold insG
    split
    · exact ((n0_ x l).cons y).trans (List.Perm.swap x y l)
    exact List.Perm.refl _
theorem nx_: ∀l,(Wq cf l).Perm l
  |[]=>List.Perm.refl _
  |x::l=>(n0_ cf x _).trans ((nx_ l).cons x)
variable {cf} [DecidableEq α] (hc:GoodCmp cf)
include hc
theorem of_ (x : α) : ∀ l : List α, l.Pairwise (λx y => ¬ cf y x < 0) -> (insG cf x l).Pairwise λx y => ¬ cf y x < 0
  |[],_=>List.pairwise_singleton _ _
  | y :: l, h => by
    obtain ⟨h1,h2⟩:=List.pairwise_cons.1 h
    unfold insG
    split
    · rename_i h3
      refine List.pairwise_cons.2 ⟨λz hz=> ?_,of_ x l h2⟩
      rcases List.mem_cons.1 ((n0_ cf x l).mem_iff.1 hz)with rfl|hz
      · have:=hc.anti y z
        omega
      exact h1 z hz
    rename_i h3
    refine List.pairwise_cons.2 ⟨λz hz=> ?_,h⟩
    rcases List.mem_cons.1 hz with rfl|hz
    · exact h3
    exact hc.le_trans h3 (h1 z hz)
theorem k1_: ∀l:List α,(Wq cf l).Pairwise λx y=> ¬ cf y x<0
  |[]=>List.Pairwise.nil
  |x::l=>of_ hc x _ (k1_ l)
theorem xg_(l:List α):Wq cf l=sF cf l:=by
  refine List.Perm.eq_of_pairwise (le:=λx y=> ¬ cf y x<0) (λx y _ _ h k=> ?_) (k1_ hc l) (Hk_ hc l) ((nx_ cf l).trans (List.mergeSort_perm l _).symm)
  have e:=hc.eq x y
  have a:=hc.anti y x
  exact e.1 (by omega)
end
theorem wv_(l:List Tip):Wq nI l=sF nI l:=xg_ PN l
end Go.Proofs.YtchebnpdnfhenaaGreatDoor
end

noncomputable section
namespace Go.Proofs.YtchebnpdnfhenaaGreatDoor
open Go Go.E Go.E.OpVal Go.E.OpOk
end Go.Proofs.YtchebnpdnfhenaaGreatDoor
end

noncomputable section
namespace Go.Proofs.YtchebnpdnfhenaaGreatDoor
open Go Go.E
theorem wg_{t:Fst}(ht:FstOk t)(hu: ∀s,s<t.states.toNat->mG t s=true)(h1:t.starts.Pairwise λx y=>nI x y<0)(h2:t.ends.Pairwise λx y=>nI x y<0)(h3:t.arcs.Pairwise λx y=>Nq x y<0):DX t=t:=by
  have hs:=ht.st0
  have e:ZW (mG t) t=t:=by
    show (⟨((jA (mG t) t.states.toNat:Nat):Int),yG (mG t) t.starts,yG (mG t) t.ends,AP (mG t) t.arcs⟩:Fst)=t
    rw [kg_ _ hu,rr_ hu (λx hx=>by have:=(ht.starts x hx).1;omega),rr_ hu (λx hx=>by have:=(ht.ends x hx).1;omega),xc_ hu (λx hx=>by have:=ht.arcs x hx;omega),show ((t.states.toNat:Nat):Int)=t.states by omega]
  unfold DX
  rw [e]
  unfold srt
  rw [Hs_ PN h1,Hs_ PN h2,Hs_ nt_ h3]
def onceK(l:List Tip):List Tip:=ddN aK (Wq nI l) (Wq nI l).length
theorem I6_(l:List Tip):onceK l=ug aK nI l:=by unfold onceK ug;rw [wv_,Qo]
def t5_(l:List Tip):Int⊕(T_1×List Tip):=
  let m:=onceK l
  if FC m=true then .inl 12 else
  let f:=jf (m.map Tip.out)
  if 4096<f.length then .inl 2 else
  if ∃x∈m,4096<(x.out.drop f.length).length then .inl 2 else .inr (f,m.map (zh f.length))
theorem q4_(l:List Tip):t5_ l=IG l:=by unfold t5_ IG;rw [I6_]
def byteK (A : List Arc) (most : Int) (l : List Tip) (b : UInt8) (R : List (List Tip)) : Int ⊕ (List (List Tip) × Int × T_1) :=
  if vI A l b=[] then .inr (R, -1,[]) else
  match t5_ (vI A l b)with
  | .inl k=> .inl k
  | .inr (f,r)=>match Ns most R r with
    | .inl k=> .inl k
    | .inr (i,R')=> .inr (R',((i:Nat):Int),f)
theorem zt_(A:List Arc)(most:Int)(l:List Tip)(b:UInt8)(R:List (List Tip)):byteK A most l b R=VZ A most l b R:=by unfold byteK VZ;rw [q4_]<;>rfl
def uk_ (A : List Arc) (most : Int) (l : List Tip) (R : List (List Tip)) : Nat -> Int ⊕ (List (List Tip) × ak × aC)
  |0=> .inr (R,[],[])
  | k + 1 => match uk_ A most l R k with
    | .inl e=> .inl e
    | .inr (R1,N,O)=>match byteK A most l (qR ((k:Nat):Int)) R1 with
      | .inl e=> .inl e
      | .inr (R2,z,o)=> .inr (R2,N++[z],O++[o])
theorem r1_(A:List Arc)(most:Int)(l:List Tip)(R:List (List Tip)): ∀k,uk_ A most l R k=EL A most l R k
  |0=>rfl
  |k+1=>by
    rw [uk_,EL,r1_ A most l R k]
    cases EL A most l R k with
    |inl e=>rfl
    |inr x=>simp only [zt_]<;>rfl
def doK (A : List Arc) (E : List Tip) (most : Int) (l : List Tip) (R : List (List Tip)) (q : Seq) : Int ⊕ (List (List Tip) × Seq) :=
  match V4 E l with
  | .inl e=> .inl e
  | .inr (b,t)=>match uk_ A most l R 256 with
    | .inl e=> .inl e
    | .inr (R',N,O)=> .inr (R',OB q N O b t)
theorem doK_eq(A:List Arc)(E:List Tip)(most:Int)(l:List Tip)(R:List (List Tip))(q:Seq):doK A E most l R q=doD A E most l R q:=by unfold doK doD;rw [r1_]<;>rfl
def allK (A : List Arc) (E : List Tip) (most : Int) : Nat -> Nat -> List (List Tip) -> Seq -> Int ⊕ (List (List Tip) × Seq)
  |0,_,R,q=> .inr (R,q)
  | g + 1, s, R, q => if s < R.length then
      match doK A E most (nth R s []) R q with
      | .inl e=> .inl e
      | .inr (R',q')=>allK A E most g (s+1) R' q'
    else .inr (R,q)
theorem wj_(A:List Arc)(E:List Tip)(most:Int): ∀(g s:Nat) (R:List (List Tip)) (q:Seq),allK A E most g s R q=allD A E most g s R q
  |0,_,_,_=>rfl
  | g + 1, s, R, q => by
    rw [allK,allD,doK_eq]
    by_cases c:s<R.length
    · rw [if_pos c,if_pos c]
      cases doD A E most (nth R s []) R q with
      |inl e=>rfl
      |inr x=>exact wj_ A E most g (s+1) _ _
    rw [if_neg c,if_neg c]
def ofK(t:Fst)(most:Int):Int⊕(List (List Tip)×Seq):=
  if t.starts=[] then .inr ([],Seq.zero) else
  match t5_ t.starts with
  | .inl e=> .inl e
  | .inr (f,l)=>allK t.arcs t.ends most 1025 0 [l] ⟨f,[],[],[],[]⟩
theorem ofK_eq(t:Fst)(most:Int):ofK t most=ofT t most:=by
  unfold ofK ofT
  rw [q4_]
  by_cases c:t.starts=[]
  · rw [if_pos c,if_pos c]
  rw [if_neg c,if_neg c]
  cases IG t.starts with
  |inl e=>rfl
  |inr x=>exact wj_ ..
end Go.Proofs.YtchebnpdnfhenaaGreatDoor
end

noncomputable section
namespace Go.E
open Go
structure Grow where
  f:Fst
  over:Bool
end Go.E
end

noncomputable section
namespace Go.Proofs.YtchebnpdnfhenaaGreatDoor
open Go Go.E Go.E.OpVal Go.E.OpOk
end Go.Proofs.YtchebnpdnfhenaaGreatDoor
end

noncomputable section
namespace Go.Proofs.YtchebnpdnfhenaaGreatDoor
open Go Go.E Go.E.OpVal Go.E.OpOk
end Go.Proofs.YtchebnpdnfhenaaGreatDoor
end

noncomputable section
namespace Go.E
open Go
end Go.E
end

noncomputable section
namespace Go.E
open Go
structure FPr where
  p:Int
  q:Int
  deriving DecidableEq
def fz_:FPr:=⟨0,0⟩
structure SPr where
  a:List UInt8
  b:List UInt8
  deriving DecidableEq
def SPr.zero:SPr:=⟨[],[]⟩
structure Visit where
  at':FPr
  lag:SPr
  deriving DecidableEq
def Visit.zero:Visit:=⟨fz_,SPr.zero⟩
structure FBox where
  what:Visit
  frm:Int
  by':UInt8
  deriving DecidableEq
def FBox.zero:FBox:=⟨Visit.zero,0,0⟩
structure Hop where
  live:Bool
  last:Bool
  x:Int
  y:Int
  by':UInt8
  deriving DecidableEq
def Hop.zero:Hop:=⟨false,false,0,0,0⟩
structure FBack where
  frm:Int
  x:Int
  y:Int
  deriving DecidableEq
def FBack.zero:FBack:=⟨0,0,0⟩
structure Search where
  t:Fst
  arcs:List (List Int)
  ends:List (List (List UInt8))
  hops:List Hop
  row:List FBox
  place:List Int
  text:List UInt8
  found:Bool
end Go.E
end

noncomputable section
namespace Go.Proofs.YtchebnpdnfhenaaGreatDoor
open Go Go.E Go.E.OpVal Go.E.OpOk Go.Proofs.Tryz
open List (replicate)
theorem pf14:plainF Tryz.prog 14=true:=by kernel_rfl
theorem pf18:plainF Tryz.prog 18=true:=by kernel_rfl
theorem pf19:plainF Tryz.prog 19=true:=by kernel_rfl
theorem pf30:plainF Tryz.prog 30=true:=by kernel_rfl
theorem pf38:plainF Tryz.prog 38=true:=by kernel_rfl
theorem pf39:plainF Tryz.prog 39=true:=by kernel_rfl
theorem Wh:plainF Tryz.prog 51=true:=by kernel_rfl
def C3_:Option (Bool):=
 grd ([(97:UInt8)].length<=1000000000000) (grd ([(98:UInt8)].length<=1000000000000) (grd ([(99:UInt8)].length<=1000000000000) (bnd (Gv_ (⟨3,[(⟨0,([]:T_1)⟩:Tip)],[(⟨2,([122]:T_1)⟩:Tip)],[(⟨0,1,(BSet.ofL [(97:UInt8)]),([]:T_1),false⟩:Arc),(⟨1,2,(BSet.ofL [(98:UInt8)]),([120]:T_1),false⟩:Arc),(⟨1,2,(BSet.ofL [(99:UInt8)]),([120,121]:T_1),false⟩:Arc)]⟩:Fst) 9) (λv20=>bnd (NH v20.1) (λv28=>bnd (Fc_ v28.1 ([97,99]:T_1)) (λv36=>aN (decide (v20.2=0)) (aN (decide (v28.2=v20.2)) (aN (decide (v28.1.front=([120]:T_1))) (aN (decide (((v28.1.next.length:Nat):Int)=3)) (aN (decide (v36.1=([120,121,122]:T_1))) (aN v36.2.2.1 (some (decide (v36.2.2.2=v20.2))) (some false)) (some false)) (some false)) (some false)) (some false)) (some false)))))))
theorem Gq_{σ:aj}(hgl:Dz σ 1 2){r:Bool}(hh:C3_=some r):
  Con prog 30 #[] σ [] (jQ (.bool r) σ):=by
 dsimp only [C3_]at hh
 refine Con.mk (n:=72) Tryz.func30 z z z (λw0=> ?_)
 refine ψ (TL.j z z (ε (ψ (ω z (nD z JB vP z) (ν z (OpOk.lit (enc:=dJ) [(⟨0,([]:T_1)⟩:Tip)] z kX jP vP z z z g_ (by decide) (by decide) aK z (by decide) z (by decide) PL (λyU yx=> ?_)))))))
 refine ω z (nD z JB vP z) (ν z (OpOk.lit (enc:=dJ) [(⟨2,([122]:T_1)⟩:Tip)] z kX jP vP z z z g_ (by decide) (by decide) aK z (by decide) z (by decide) PL (λAz c105=> ?_)))
 refine ν z (OpOk.lit (enc:=kE) [(97:UInt8)] z Ho Ju MX z z z UL (by decide) (by decide) (0:UInt8) z (by decide) z (by decide) UO (λa107 yw=> ?_))
 obtain ⟨u7,hh⟩:=aP hh
 refine ν z (ch_ (wu_ _ _ _ [(97:UInt8)] u7) z z Wh z z z z ?_)
 refine ω z (nD z Ov AO z) (ν z (OpOk.lit (enc:=kE) [(98:UInt8)] z Ho Ju MX z z z UL (by decide) (by decide) (0:UInt8) z (by decide) z (by decide) UO (λa110 c111=> ?_)))
 obtain ⟨u10,hh⟩:=aP hh
 refine ν z (ch_ (wu_ _ _ _ [(98:UInt8)] u10) z z Wh z z z z ?_)
 refine ω z (nD z Ov AO z) (ν z (OpOk.lit (enc:=kE) [(99:UInt8)] z Ho Ju MX z z z UL (by decide) (by decide) (0:UInt8) z (by decide) z (by decide) UO (λa113 c114=> ?_)))
 obtain ⟨u13,hh⟩:=aP hh
 refine ν z (ch_ (wu_ _ _ _ [(99:UInt8)] u13) z z Wh z z z z ?_)
 refine ω z (nD z Ov AO z) (ν z (OpOk.lit (enc:=kF) [(⟨0,1,(BSet.ofL [(97:UInt8)]),([]:T_1),false⟩:Arc),(⟨1,2,(BSet.ofL [(98:UInt8)]),([120]:T_1),false⟩:Arc),(⟨1,2,(BSet.ofL [(99:UInt8)]),([120,121]:T_1),false⟩:Arc)] z qF nZ AO z z z wB (by decide) (by decide) bg z (by decide) z (by decide) YN (λa116 c117=> ?_)))
 refine ω z (nD z Ox RN z) (ν z (OpOk.alloc z RN z z (λb119=> ?_)))
 refine ν z (storeAll z AL z z z z z z ?_)
 refine ε (ψ (ω z (kG z IB AL z (i:=0) z z) (θ 3 z z (TL.oh g_ (λτ123 lX nU=> ?_)))))
 replace hgl:=hgl.mono lX
 have hr121b:=nU.rv.big
 refine θ 2 z z (TL.oh g_ (λτ126 uM tu=> ?_))
 replace hgl:=hgl.mono uM
 replace nU:=nU.mono uM
 have hr124b:=tu.rv.big
 refine θ 1 z z (TL.oh wB (λτ129 kY Uj=> ?_))
 replace hgl:=hgl.mono kY
 replace nU:=nU.mono kY
 replace tu:=tu.mono kY
 have hr127b:=Uj.rv.big
 obtain ⟨v20,u20,hh⟩:=dM hh
 refine ν z (OpOk.call (It_ (x0:=(⟨3,[(⟨0,([]:T_1)⟩:Tip)],[(⟨2,([122]:T_1)⟩:Tip)],[(⟨0,1,(BSet.ofL [(97:UInt8)]),([]:T_1),false⟩:Arc),(⟨1,2,(BSet.ofL [(98:UInt8)]),([120]:T_1),false⟩:Arc),(⟨1,2,(BSet.ofL [(99:UInt8)]),([120,121]:T_1),false⟩:Arc)]⟩:Fst)) hgl nU tu Uj u20) z z pf14 z z z z ?_)
 rintro _ τ130 _ qh ⟨a130_1,c130_1,a130_2,c130_2,a130_3,c130_3,a130_4,c130_4,rfl,hr130_0,hr130_1,hr130_2,hr130_3,rfl⟩
 replace hgl:=hgl.mono qh
 have hr130_0b:=hr130_0.big
 have hr130_1b:=hr130_1.big
 have hr130_2b:=hr130_2.rv.big
 have hr130_3b:=hr130_3.rv.big
 refine ω z (wC (.inl z) z) (ω z (OpVal.extract z z z) (ω z (OpVal.extract z z z) (ν z (OpOk.alloc z if_ z z (λb131=> ?_)))))
 refine ν z (storeAll z fE z z z z z z ?_)
 refine ξ z z (ε (ψ (ω z (kG z ji fE z (i:=0) z z) ?_)))
 obtain ⟨v28,u28,hh⟩:=dM hh
 refine ν z (OpOk.call (Ge_ (x0:=v20.1) hgl hr130_0 hr130_1 hr130_2 hr130_3 u28) z z Wj z z z z ?_)
 rintro _ τ133 _ hle133 ⟨a133_1,c133_1,a133_2,c133_2,a133_3,c133_3,a133_4,c133_4,rfl,hr133_0,hr133_1,hr133_2,hr133_3,rfl⟩
 have hr133_0b:=hr133_0.big
 have hr133_1b:=hr133_1.big
 have hr133_2b:=hr133_2.rv.big
 have hr133_3b:=hr133_3.rv.big
 refine ω z (wC (.inl z) z) (ω z (OpVal.extract z z z) (ω z (OpVal.extract z z z) (ν z (OpOk.alloc z if_ z z (λb134=> ?_)))))
 refine ν z (storeAll z fE z z z z z z ?_)
 refine ξ z z (ε (ψ (ω z (kG z ji fE z (i:=0) z z) ?_)))
 obtain ⟨v36,u36,hh⟩:=dM hh
 refine ν z (jF (Id_ (x0:=v28.1) hr133_0 hr133_1 hr133_2 hr133_3 u36) z z pf19 z z z ?_)
 refine ω z (wC (.inl z) z) (ω z (OpVal.extract z z z) (ω z (OpVal.extract z z z) (ω z (OpVal.extract z z z) (ω z (OpVal.extract z z z) (ω z (eu (.inr z) z) (ξ z z (TL.j z z (ξ z z (ε (ψ (ξ z z (ω z (OpVal.eql z z z) (TL.j z z (TL.split 44 z (λEW=> ?_) (λEW=> ?_)))))))))))))))
 ·replace hh:=gZ EW hh
  replace EW:=jg EW
  refine Ψ z (dw (.inl z) z) (Ψ z (dw (.inl z) z) (Ψ z (OpVal.eql z z z) (ω z (dS z z z) (TL.j z z (TL.split 49 z (λEU=> ?_) (λEU=> ?_))))))
  ·replace hh:=gZ EU hh
   replace EU:=jg EU
   refine Ψ z (aS z DL z) (Ψ z (aZ z iG z (i:=0) z z) (Ψ z (cw_ z z z) (ω z (dS z z z) (TL.j z z (TL.split 54 z (λqx=> ?_) (λqx=> ?_))))))
   ·replace hh:=gZ qx hh
    replace qx:=jg qx
    refine Ψ z (aS z kS z) (Ψ z (aZ z jT z (i:=0) z z) (Ψ z (lenC z eU z) (Ψ z (OpVal.eql z z z) (ω z (dS z z z) (TL.j z z (TL.split 60 z (λES=> ?_) (λES=> ?_)))))))
    ·replace hh:=gZ ES hh
     replace ES:=jg ES
     refine Ψ z (eu (.inl z) z) (Ψ z (cw_ z z z) (ω z (dS z z z) (TL.j z z (TL.split 64 z (λuP=> ?_) (λuP=> ?_)))))
     ·replace hh:=gZ uP hh
      replace uP:=jg uP
      refine Ψ z (moveB (.inl z) z) (ω z (dS z z z) (TL.j z z (TL.split 67 z (λYK=> ?_) (λYK=> ?_))))
      ·replace hh:=gZ YK hh
       refine Ψ z (dw (.inl z) z) (Ψ z (dw (.inl z) z) (Ψ z (OpVal.eql z z z) (ω z (dS z z z) (TL.j z z (ε (TC.sG (Sub.pre 0 z) (TC.back (TC.ret ?_))))))))
       obtain rfl:=so hh
       exact rq [0] ⟨z,z,z⟩
      replace hh:=gY YK hh
      refine π z (π z (π z (ω z (dV z z z) (TL.j z z (ε (TC.sG (Sub.pre 0 z) (TC.back (TC.ret ?_))))))))
      obtain rfl:=so hh
      exact rq [0] ⟨z,z,z⟩
     replace hh:=gY uP hh
     replace uP:=jo uP
     refine π z (ω z (dV z z z) (TL.j z z (π z (π z (π z (ω z (dV z z z) (TL.j z z (ε (TC.sG (Sub.pre 0 z) (TC.back (TC.ret ?_)))))))))))
     obtain rfl:=so hh
     exact rq [0] ⟨z,z,z⟩
    replace hh:=gY ES hh
    replace ES:=jo ES
    refine π z (π z (ω z (dV z z z) (TL.j z z (π z (ω z (dV z z z) (TL.j z z (π z (π z (π z (ω z (dV z z z) (TL.j z z (ε (TC.sG (Sub.pre 0 z) (TC.back (TC.ret ?_)))))))))))))))
    obtain rfl:=so hh
    exact rq [0] ⟨z,z,z⟩
   replace hh:=gY qx hh
   replace qx:=jo qx
   refine π z (π z (π z (π z (ω z (dV z z z) (TL.j z z (π z (π z (ω z (dV z z z) (TL.j z z (π z (ω z (dV z z z) (TL.j z z (π z (π z (π z ?_)))))))))))))))
   refine ω z (dV z z z) (TL.j z z (ε (TC.sG (Sub.pre 0 z) (TC.back (TC.ret ?_)))))
   obtain rfl:=so hh
   exact rq [0] ⟨z,z,z⟩
  replace hh:=gY EU hh
  replace EU:=jo EU
  refine π z (π z (π z (ω z (dV z z z) (TL.j z z (π z (π z (π z (π z (ω z (dV z z z) (TL.j z z (π z (π z (ω z (dV z z z) (TL.j z z (π z ?_)))))))))))))))
  refine ω z (dV z z z) (TL.j z z (π z (π z (π z (ω z (dV z z z) (TL.j z z (ε (TC.sG (Sub.pre 0 z) (TC.back (TC.ret ?_))))))))))
  obtain rfl:=so hh
  exact rq [0] ⟨z,z,z⟩
 replace hh:=gY EW hh
 replace EW:=jo EW
 refine π z (π z (π z (ω z (dV z z z) (TL.j z z (π z (π z (π z (ω z (dV z z z) (TL.j z z (π z (π z (π z (π z (ω z (dV z z z) (TL.j z z ?_)))))))))))))))
 refine π z (π z (ω z (dV z z z) (TL.j z z (π z (ω z (dV z z z) (TL.j z z (π z (π z (π z (ω z (dV z z z) (TL.j z z (ε (TC.sG (Sub.pre 0 z) (TC.back (TC.ret ?_)))))))))))))))
 obtain rfl:=so hh
 exact rq [0] ⟨z,z,z⟩
def C2_(x0:Seq)(x1:Seq):Option (Bool):=
 bnd (Cw_ x0) (λv5=>aN (!v5) (some true) (bnd (Cw_ x1) (λv9=>aN (!v9) (some true) (bnd (F0_ x0 x1) (λv15=>bnd (Db_ x0 x1) (λv23=>bnd (C3_) (λv29=>aN v29 (aN (v15.1 == v23.1) (some (decide (v15.2=v23.2))) (some false)) (some false))))))))
theorem F5_{σ:aj}{x0:Seq}{aI:Option Addr}{aH:Nat}{aA:Option Addr}{aX:Nat}{aU:Option Addr}{ay:Nat}{bJ:Option Addr}{bD:Nat}{x1:Seq}{eF:Option Addr}{dZ:Nat}{iL:Option Addr}{o9:Nat}{nH:Option Addr}{iK:Nat}{rZ:Option Addr}{o8:Nat}(hgl:Dz σ 1 2)(au:RZ σ (aB 1 aG bn) (.slice aI x0.next.length aH) x0.next)(aY:RZ σ (aB 1 aJ bF) (.slice aA x0.outs.length aX) x0.outs)(aV:dA σ eq_ aU ay x0.fin)(aQ:dA σ aJ bJ bD x0.tail)(bP:RZ σ (aB 1 aG bn) (.slice eF x1.next.length dZ) x1.next)(ku:RZ σ (aB 1 aJ bF) (.slice iL x1.outs.length o9) x1.outs)(kQ:dA σ eq_ nH iK x1.fin)(j_:dA σ aJ rZ o8 x1.tail){r:Bool}(hh:C2_ x0 x1=some r):
  Con prog 10 #[.agg (oI x0 aI aH aA aX aU ay bJ bD),.agg (oI x1 eF dZ iL o9 nH iK rZ o8)] σ [] (jQ (.bool r) σ):=by
 dsimp only [C2_]at hh
 have f0_0b:=au.big
 have f0_1b:=aY.big
 have f0_2b:=aV.rv.big
 have f0_3b:=aQ.rv.big
 have f1_0b:=bP.big
 have f1_1b:=ku.big
 have f1_2b:=kQ.rv.big
 have f1_3b:=j_.rv.big
 refine Con.mk (n:=40) Tryz.func10 z z z (λw0=> ?_)
 refine ψ (ν z (boxA z z z z (λbG=> ?_)))
 refine ν z (boxA z z z z (λd_=> ?_))
 refine TL.j z z (ε (ζ (ψ (ω z (kG z ji fE z (i:=1) z z) ?_))))
 obtain ⟨v5,u5,hh⟩:=dM hh
 refine ν z (jF (Fo_ (x0:=x0) au aY aV aQ u5) z z pf18 z z z ?_)
 refine ω z (OpVal.not z z) (TL.j z z (TL.split 12 z (λbW=> ?_) (λbW=> ?_)))
 ·replace hh:=gZ bW hh
  refine π z (π z (π z (ω z (dS z z z) (ε (TC.t z (ψ (TL.j z z (ε (TC.rt 0 (S.r ?_))))))))))
  obtain rfl:=so hh
  exact rq [4] ⟨z,z,z⟩
 replace hh:=gY bW hh
 refine Ψ z (kG z ji fE z (i:=0) z z) ?_
 obtain ⟨v9,u9,hh⟩:=dM hh
 refine TL.gon z z z z z (jF (Fo_ (x0:=x1) bP ku kQ j_ u9) z z pf18 z z z ?_)
 refine Ψ z (OpVal.not z z) (ω z (dV z z z) (ε (TC.cB z hh (λdN hh=> ?_) (λdN hh=> ?_))))
 ·refine ψ (TL.j z z (ε (TC.rt 0 (S.r ?_))))
  obtain rfl:=so hh
  exact rq [4] ⟨z,z,z⟩
 refine ι (S.n (ψ (ω z (kG z ji fE z (i:=1) z z) (ω z (kG z ji fE z (i:=0) z z) ?_))))
 obtain ⟨v15,u15,hh⟩:=dM hh
 refine ν z (jF (Ib_ (x0:=x0) (x1:=x1) hgl au aY aV aQ bP ku kQ j_ u15) z z pf38 z z z ?_)
 refine ω z (wC (.inl z) z) (ω z (OpVal.extract z z z) (ω z (OpVal.extract z z z) (TL.j z z (ξ z z (ε (ψ (ω z (kG z ji fE z (i:=1) z z) (ω z (kG z ji fE z (i:=0) z z) ?_))))))))
 obtain ⟨v23,u23,hh⟩:=dM hh
 refine ν z (jF (Gw_ (x0:=x0) (x1:=x1) au aY aV aQ bP ku kQ j_ u23) z z pf39 z z z ?_)
 refine ω z (wC (.inl z) z) (ω z (OpVal.extract z z z) (ω z (OpVal.extract z z z) (TL.j z z (ξ z z (ε (ψ ?_))))))
 obtain ⟨v29,u29,hh⟩:=dM hh
 refine ν z (jF (Gq_ hgl u29) z z pf30 z z z ?_)
 refine TL.j z z (TL.split 30 z (λdP=> ?_) (λdP=> ?_))
 ·replace hh:=gZ dP hh
  refine Ψ z (moveB (.inl z) z) (Ψ z (moveB (.inl z) z) (Ψ z (eqlB z z z underlying4) (ω z (dS z z z) (TL.j z z (TL.split 35 z (λdU=> ?_) (λdU=> ?_))))))
  ·replace hh:=gZ dU hh
   refine Ψ z (dw (.inl z) z) (Ψ z (dw (.inl z) z) (Ψ z (OpVal.eql z z z) (ω z (dS z z z) (TL.j z z (ε (TC.rt 0 ?_))))))
   obtain rfl:=so hh
   exact rq [4] ⟨z,z,z⟩
  replace hh:=gY dU hh
  refine π z (π z (π z (ω z (dV z z z) (TL.j z z (ε (TC.rt 0 ?_))))))
  obtain rfl:=so hh
  exact rq [4] ⟨z,z,z⟩
 replace hh:=gY dP hh
 refine π z (π z (π z (ω z (dV z z z) (TL.j z z (π z (π z (π z (ω z (dV z z z) (TL.j z z (ε (TC.rt 0 ?_)))))))))))
 obtain rfl:=so hh
 exact rq [4] ⟨z,z,z⟩
end Go.Proofs.YtchebnpdnfhenaaGreatDoor
end

noncomputable section
namespace Go.Proofs.YtchebnpdnfhenaaGreatDoor
open Go Go.E
def r0:ak:=List.replicate 256 (-1)
def o0:aC:=List.replicate 256 []
def qP:Seq:=⟨[],[r0.set 97 1,(r0.set 98 2).set 99 2,r0],[o0,(o0.set 98 [120]).set 99 [120,121],o0],[false,false,true],[[],[],[122]]⟩
theorem r0_at{b:Nat}(hb:b<256):nth r0 b 0= -1:=by
  unfold r0
  have h: ∀(n i:Nat) (x:Int),i<n->nth (List.replicate n x) i 0=x:=λn i x h=>by
    rw [Tn _ (by rw [r_];exact h),List.getElem_replicate]
  exact h 256 b (-1) hb
theorem z4_:r0.length=256:=r_
theorem o0_len:o0.length=256:=r_
theorem qP_n:qP.next.length=3:=rfl
theorem yx_:eP qP=true:=by decide+kernel
theorem qP2: ∀{w y:T_1},dh qP 2 w=some y->w=[]/\y=[122]
  |[],y,h=>by
    rw [dh,if_pos (show nth qP.fin 2 false=true from rfl)]at h
    exact ⟨rfl,(Option.some.inj h).symm⟩
  |b::w,y,h=>by
    have hb:=UInt8.toNat_lt b
    rw [dh,if_pos (show nxQ qP 2 b.toNat<0 by show nth r0 b.toNat 0<0;rw [r0_at (by omega)];decide)]at h
    cases h
theorem qP1 : ∀ {w y : T_1}, dh qP 1 w = some y -> y = [120, 122] \/ y = [120, 121, 122]
  |[],y,h=>by
    rw [dh,if_neg (show ¬ nth qP.fin 1 false=true by decide)]at h;cases h
  | b :: w, y, h => by
    have hb:=UInt8.toNat_lt b
    have hn:nxQ qP 1 b.toNat=if b.toNat=99 then 2 else if b.toNat=98 then 2 else -1:=by
      show nth ((r0.set 98 2).set 99 2) b.toNat 0=_
      have hl:=z4_
      rw [jO,jO,gy]
      by_cases c:b.toNat=99
      · rw [if_pos c,if_pos ⟨c.symm,by omega⟩]
      rw [if_neg c,if_neg (λe=>c e.1.symm)]
      by_cases d:b.toNat=98
      · rw [if_pos d,if_pos ⟨d.symm,by omega⟩]
      rw [if_neg d,if_neg (λe=>d e.1.symm),r0_at (by omega)]
    have ho:otQ qP 1 b.toNat=if b.toNat=99 then [120,121] else if b.toNat=98 then [120] else []:=by
      show nth ((o0.set 98 [120]).set 99 [120,121]) b.toNat []=_
      have hl:=o0_len
      rw [jO,jO,gy]
      by_cases c:b.toNat=99
      · rw [if_pos c,if_pos ⟨c.symm,by omega⟩]
      rw [if_neg c,if_neg (λe=>c e.1.symm)]
      by_cases d:b.toNat=98
      · rw [if_pos d,if_pos ⟨d.symm,by omega⟩]
      rw [if_neg d,if_neg (λe=>d e.1.symm)]
      unfold o0;rw [AV]
    rw [dh,hn,ho]at h
    by_cases c:b.toNat=99
    · rw [if_pos c,if_pos c,if_neg (by decide)]at h
      cases hy:dh qP 2 w with
      |none=>rw [show (2:Int).toNat=2 from rfl,hy]at h;cases h
      |some z=>
        rw [show (2:Int).toNat=2 from rfl,hy]at h
        rw [(qP2 hy).2]at h
        exact .inr (Option.some.inj h).symm
    rw [if_neg c,if_neg c]at h
    by_cases d:b.toNat=98
    · rw [if_pos d,if_pos d,if_neg (by decide)]at h
      cases hy:dh qP 2 w with
      |none=>rw [show (2:Int).toNat=2 from rfl,hy]at h;cases h
      |some z=>
        rw [show (2:Int).toNat=2 from rfl,hy]at h
        rw [(qP2 hy).2]at h
        exact .inl (Option.some.inj h).symm
    rw [if_neg d,if_neg d,if_pos (by decide)]at h;cases h
theorem qP0 : ∀ {w y : T_1}, dh qP 0 w = some y -> y = [120, 122] \/ y = [120, 121, 122]
  |[],y,h=>by
    rw [dh,if_neg (show ¬ nth qP.fin 0 false=true by decide)]at h;cases h
  | b :: w, y, h => by
    have hb:=UInt8.toNat_lt b
    have hn:nxQ qP 0 b.toNat=if b.toNat=97 then 1 else -1:=by
      show nth (r0.set 97 1) b.toNat 0=_
      have hl:=z4_
      rw [jO]
      by_cases c:b.toNat=97
      · rw [if_pos c,if_pos ⟨c.symm,by omega⟩]
      rw [if_neg c,if_neg (λe=>c e.1.symm),r0_at (by omega)]
    have ho:otQ qP 0 b.toNat=[]:=by
      show nth o0 b.toNat []=_
      unfold o0;rw [AV]
    rw [dh,hn,ho]at h
    by_cases c:b.toNat=97
    · rw [if_pos c,if_neg (by decide)]at h
      cases hy:dh qP 1 w with
      |none=>rw [show (1:Int).toNat=1 from rfl,hy]at h;cases h
      |some z=>
        rw [show (1:Int).toNat=1 from rfl,hy]at h
        have:z=y:=Option.some.inj h
        rw [<-this];exact qP1 hy
    rw [if_neg c,if_pos (by decide)]at h;cases h
theorem zm_:dh qP 0 [97,98]=some [120,122]:=by decide+kernel
theorem qP_ac:dh qP 0 [97,99]=some [120,121,122]:=by decide+kernel
theorem qP_1b:dh qP 1 [98]=some [120,122]:=by decide+kernel
theorem qP_2:dh qP 2 []=some [122]:=by decide+kernel
theorem qP_no:dh qP 0 []=none/\dh qP 0 [97]=none/\dh qP 0 [98]=none:=by decide+kernel
theorem qP_min : ∃ m, NH qP = some (m, 0) /\ CanQ m /\ m.front = [120] /\ m.next.length = 3 /\ uf m [97, 99] = some [120, 121, 122] := by
  obtain ⟨p,r,_,h2,h3,h4⟩:=z7_ qP
  have hn:=qP_n
  have hlive:VY qP 0:=⟨_,_,zm_⟩
  cases h2 with
  |wrong h=>exact absurd yx_ h
  |none _ h=>
    rcases h with h|h
    · omega
    exact absurd hlive h
  |made l m v a1 a2 a3 a4 a5=>
    have hk:=m9_ (m:=m) a5
    have hk0:=(hk 0 a2).2 ⟨.zero,(a4.live 0 a2).2 a3⟩
    have hc0:=a4.com 0 a2
    have hl0:nth l 0 []=[120]:=by
      have u1:=hc0 _ _ zm_
      have u2:=hc0 _ _ qP_ac
      have u3:=a4.up 0 a2 ((a4.live 0 a2).2 a3) [120] λw y hy=>by
        rcases qP0 hy with e|e
        · rw [e];exact ⟨[122],rfl⟩
        rw [e];exact ⟨[121,122],rfl⟩
      obtain ⟨x,hx⟩:=u3
      rw [<-hx]at u1 u2
      cases x with
      |nil=>exact hx.symm
      |cons c x=>
        exfalso
        obtain ⟨y1,e1⟩:=u1
        obtain ⟨y2,e2⟩:=u2
        have f1:c=122:=(List.cons.inj (List.cons.inj e1).2).1
        have f2:c=121:=(List.cons.inj (List.cons.inj e2).2).1
        rw [f1]at f2;exact absurd f2 (by decide)
    have hlen: ∀s,s<qP.next.length->(nth l s []).length<=3:=λs hs=>by
      have hs:s=0\/s=1\/s=2:=by omega
      rcases hs with rfl|rfl|rfl
      · rw [hl0];decide
      · exact Nat.le_trans (a4.com 1 hs _ _ qP_1b).length_le (by decide)
      exact Nat.le_trans (a4.com 2 hs _ _ qP_2).length_le (by decide)
    have hot: ∀s b,s<qP.next.length->b<256->(otQ qP s b).length<=2:=λs b hs hb=>by
      have hs:s=0\/s=1\/s=2:=by omega
      rcases hs with rfl|rfl|rfl
      · show (nth o0 b []).length<=2
        unfold o0;rw [AV];decide
      · show (nth ((o0.set 98 [120]).set 99 [120,121]) b []).length<=2
        rw [jO,jO]
        split
        · decide
        split
        · decide
        unfold o0;rw [AV];decide
      show (nth o0 b []).length<=2
      unfold o0;rw [AV];decide
    have hr:eP (pJ qP l (oZ v m))=true:=by
      refine Iv_ a1 a2 hk0 ?_ λa h1 _ b hb=> ?_
      · show ([]++nth l 0 []).length<=_
        rw [hl0];decide
      unfold otP
      split
      · exact Nat.zero_le _
      split
      · have g1:=hot a b h1 hb
        have g2:=oG a1 h1 hb
        have g3:=hlen (nxQ qP a b).toNat (by omega)
        rw [List.length_drop,gB];omega
      exact Nat.zero_le _
    have e0:zk qP l (oZ v m)=(pJ qP l (oZ v m),0):=by unfold zk;rw [if_pos hr]
    have hpr:PushR qP (zk qP l (oZ v m)):= .made l m v a1 a2 a3 a4 a5
    rw [e0]at h4 hpr
    have hr2:=(MinR.err' hpr h4).1
    obtain ⟨k1,k2,k3⟩:=h4.can hpr hr2
    have hpl:(pJ qP l (oZ v m)).next.length<=3:=by rw [Yv];exact PI _ _
    have hpp:=un_ a2 hk0
    have hfr:r.1.front=[120]:=by
      cases h4 with
      |err h=>exact absurd rfl h
      |none _ h=>
        have h:(pJ qP l (oZ v m)).next.length=0:=h
        rw [Yv]at h;omega
      |made n st _ h=>
        rw [h.front]
        show []++nth l 0 []=_
        rw [hl0];rfl
    have k3:r.1.next.length<=3:=Nat.le_trans k3 hpl
    refine ⟨r.1,by rw [h3];exact congrArg some (Prod.ext rfl hr2),k1,hfr,?_,?_⟩
    · have hs: ∀w,(dh r.1 0 w).isSome=(dh qP 0 w).isSome:=λw=>by
        have:=k2 w
        unfold uf at this
        cases c:dh r.1 0 w with
        |none=>cases d:dh qP 0 w with
          |none=>rfl
          |some y=>rw [c,d]at this;cases this
        |some y=>cases d:dh qP 0 w with
          |none=>rw [c,d]at this;cases this
          |some y=>rfl
      have step: ∀{s b:Nat} {w:T_1},s<r.1.next.length->b<256->(dh r.1 s (UInt8.ofNat b::w)).isSome=true->0<=nxQ r.1 s b/\nxQ r.1 s b<(r.1.next.length:Int)/\(dh r.1 (nxQ r.1 s b).toNat w).isSome=true:=λ{s b w} hs' hb h=>by
        by_cases c:0<=nxQ r.1 s b
        · rw [jn_ hb c,Option.isSome_map]at h
          exact ⟨c,k1.lt s b hs' hb,h⟩
        rw [q9_ hb (by omega)]at h;cases h
      have hpos:0<r.1.next.length:=by
        by_cases c:0<r.1.next.length
        · exact c
        exfalso
        have:=hs [97,98]
        rw [zm_,LY (o7 (by omega)) (o7 (by have:=(mW k1.right).2.2.1;omega))]at this
        cases this
      obtain ⟨b1,b2,b3⟩:=step (s:=0) (b:=97) (w:=[98]) hpos (by decide) (by show (dh r.1 0 [97,98]).isSome=true;rw [hs,zm_];rfl)
      obtain ⟨c1,c2,c3⟩:=step (s:=(nxQ r.1 0 97).toNat) (b:=98) (w:=[]) (by omega) (by decide) b3
      have n0:(dh r.1 0 []).isSome=false:=by rw [hs,qP_no.1];rfl
      have n1:(dh r.1 0 [98]).isSome=false:=by rw [hs,qP_no.2.2];rfl
      have n2:(dh r.1 (nxQ r.1 0 97).toNat []).isSome=false:=by
        have:=hs [97]
        rw [qP_no.2.1,show ([97]:T_1)=UInt8.ofNat 97::[]from rfl,jn_ (by decide) b1,Option.isSome_map]at this
        exact this
      have d1:(nxQ r.1 0 97).toNat≠0:=λe=>by rw [e]at b3;exact absurd (n1.symm.trans b3) (by decide)
      have d2:(nxQ r.1 (nxQ r.1 0 97).toNat 98).toNat≠0:=λe=>by rw [e,n0]at c3;cases c3
      have d3:(nxQ r.1 (nxQ r.1 0 97).toNat 98).toNat≠(nxQ r.1 0 97).toNat:=λe=>by rw [e,n2]at c3;cases c3
      omega
    rw [k2]
    unfold uf
    rw [qP_ac];rfl
def tP:Fst:=⟨3,[⟨0,[]⟩],[⟨2,[122]⟩],[⟨0,1,BSet.ofL [97],[],false⟩,⟨1,2,BSet.ofL [98],[120],false⟩,⟨1,2,BSet.ofL [99],[120,121],false⟩]⟩
theorem tP_b:AB tP=true:=by kernel_rfl
theorem tP_on(s:Nat)(h:s<3):Rch (onS tP) (arE tP) (s:Int):=by
  have h0:Rch (onS tP) (arE tP) 0:= .base ⟨⟨0,[]⟩,by simp [tP],rfl⟩
  have h1:Rch (onS tP) (arE tP) 1:= .step h0 ⟨⟨0,1,BSet.ofL [97],[],false⟩,by simp [tP],rfl,rfl⟩
  have h2:Rch (onS tP) (arE tP) 2:= .step h1 ⟨⟨1,2,BSet.ofL [98],[120],false⟩,by simp [tP],rfl,rfl⟩
  match s,h with
  |0,_=>exact h0
  |1,_=>exact h1
  |2,_=>exact h2
theorem tP_back(s:Nat)(h:s<3):Rch (enS tP) (arB tP) (s:Int):=by
  have h2:Rch (enS tP) (arB tP) 2:= .base ⟨⟨2,[122]⟩,by simp [tP],rfl⟩
  have h1:Rch (enS tP) (arB tP) 1:= .step h2 ⟨⟨1,2,BSet.ofL [98],[120],false⟩,by simp [tP],rfl,rfl⟩
  have h0:Rch (enS tP) (arB tP) 0:= .step h1 ⟨⟨0,1,BSet.ofL [97],[],false⟩,by simp [tP],rfl,rfl⟩
  match s,h with
  |0,_=>exact h0
  |1,_=>exact h1
  |2,_=>exact h2
theorem xl_:DX tP=tP:=wg_ ((kz_ tP).1 tP_b) (λs h=>t0_.2 ⟨tP_on s h,tP_back s h⟩) (by decide+kernel) (by decide+kernel) (by decide+kernel)
def okP:Bool:=match ofK tP 9 with
  | .inl _=>false
  | .inr (_,q)=>decide (q.front=qP.front) && decide (q.next=qP.next) && decide (q.outs=qP.outs) && decide (q.fin=qP.fin) && decide (q.tail=qP.tail)
theorem okP_t:okP=true:=by kernel_rfl
theorem awake22:C3_=some true:=by
  unfold C3_
  rw [aF (by decide),aF (by decide),aF (by decide)]
  show bnd (Gv_ tP 9) _=_
  rw [of_eq tP 9 (λ_=>by rw [xl_];decide),fD]
  unfold ofD
  rw [if_pos ⟨tP_b,by decide,by decide⟩,xl_,<-ofK_eq]
  have h:=okP_t
  unfold okP at h
  cases hk:ofK tP 9 with
  |inl e=>rw [hk]at h;cases h
  |inr x=>
    obtain ⟨R,q⟩:=x
    rw [hk]at h
    simp only [Bool.and_eq_true,jV]at h
    obtain ⟨⟨⟨⟨h1,h2⟩,h3⟩,h4⟩,h5⟩:=h
    have e:q=qP:=Gc_ h1 h2 h3 h4 h5
    subst e
    obtain ⟨m,m1,m2,m3,m4,m5⟩:=qP_min
    show bnd (NH qP) _=_
    rw [m1,fD]
    show bnd (Fc_ m [97,99]) _=_
    obtain ⟨a1,a2,a3⟩:=vr_ m2.right [97,99]
    rw [m5]at a1 a2
    have a1:(Nu m [97,99]).1=[120,121,122]:=a1
    rw [zh_ m [97,99] (by decide),fD,show (ofR (Sum.inr (R,qP))).2=0 from rfl,bI rfl,bI rfl,bI m3,bI (by show ((m.next.length:Nat):Int)=3;rw [m4];rfl),bI a1,a2]
    show aN true (some (decide ((Nu m [97,99]).2.2.2=0))) _=_
    rw [a3];rfl
end Go.Proofs.YtchebnpdnfhenaaGreatDoor
end

noncomputable section
namespace Go.Proofs.YtchebnpdnfhenaaGreatDoor
open Go Go.E
end Go.Proofs.YtchebnpdnfhenaaGreatDoor
end

noncomputable section
namespace Go.Proofs.YtchebnpdnfhenaaGreatDoor
open Go Go.E
end Go.Proofs.YtchebnpdnfhenaaGreatDoor
end

noncomputable section
namespace Go.Proofs.YtchebnpdnfhenaaGreatDoor
open Go Go.E
theorem vk_(l:B_1):ZJ l l=some true:=by
  unfold ZJ
  rw [decide_eq_false (by simp),iteO_false]
  refine m5_ (α:=Unit) l.length (λk hk=> ?_) ?_
  · simp only [ZP,Ws hk,iteO_true,aF hk,bne_self_eq_false,iteO_false];rfl
  simp only [ZP,Int.lt_irrefl,decide_false,iteO_false];rfl
theorem q5_(q:Seq):ZR q q=some true:=by
  unfold ZR
  rw [bK (by simp),bK (by simp),bK (by simp),vk_,fD,qK,ll_,fD,qK]
  refine m5_ (α:=Unit) q.next.length (λk hk=> ?_) ?_
  · unfold Iw ZN
    rw [bI (by omega),aF hk,r8_,fD,qK]
    by_cases c:k<q.outs.length
    · rw [bI (by omega),aF c,ll_,fD,qK];rfl
    rw [bK (by omega)];rfl
  unfold Iw
  rw [bK (by omega)];rfl
end Go.Proofs.YtchebnpdnfhenaaGreatDoor
end

noncomputable section
namespace Go.Proofs.YtchebnpdnfhenaaGreatDoor
open Go Go.E
end Go.Proofs.YtchebnpdnfhenaaGreatDoor
end

noncomputable section
namespace Go.Proofs.YtchebnpdnfhenaaGreatDoor
open Go Go.E
theorem fewQ_in(q:Seq)(k:Nat)(hl:(nth q.outs k []).length<=300): ∃r,bC (λz:Int×Nat=>NU q k z.1 z.2) (0,0)=some r/\(r= .inl (k+1)\/r= .inr false):=by
  refine kT (step:=λz:Int×Nat=>NU q k z.1 z.2) (λ(s:Int) j=>(s,j)) (nth q.outs k []).length (λ_ _=>True) _ (λj s hj _=> .inl ?_) (λs _=> ?_) (s0:=0) trivial
  · show ∃s',NU q k s j=_/\_
    unfold NU
    rw [bI (by omega)]
    exact ⟨_,rfl,trivial⟩
  show ∃r,NU q k s (nth q.outs k []).length=_/\_
  unfold NU
  rw [bK (by omega)]
  by_cases c:20000<s
  · rw [bI c];exact ⟨_,rfl,.inr rfl⟩
  rw [bK c];exact ⟨_,rfl,.inl rfl⟩
theorem fewQ(q:Seq): ∃b,Cw_ q=some b/\(b=true->q.next.length<=12):=by
  unfold Cw_
  by_cases c1:12<q.next.length
  · rw [bI (by omega)];exact ⟨_,rfl,λh=>by cases h⟩
  rw [bK (by omega)]
  by_cases c2:13<q.outs.length
  · rw [bI (by omega)];exact ⟨_,rfl,λh=>by cases h⟩
  rw [bK (by omega)]
  by_cases c3:5000<q.front.length
  · rw [bI (by omega)];exact ⟨_,rfl,λh=>by cases h⟩
  rw [bK (by omega)]
  refine kT (step:=λz:Nat=>Rh q z) (λ(_:Unit) k=>k) q.outs.length (λ_ _=>True) (λb=>b=true->q.next.length<=12) (λk _ hk _=> ?_) (λ_ _=> ?_) (s0:=()) trivial
  · show (∃s':Unit,Rh q k=_/\_)\/ ∃r,Rh q k=_/\_
    unfold Rh
    rw [bI (by omega)]
    by_cases d:300<(nth q.outs k []).length
    · rw [bI (by omega)]
      exact .inr ⟨_,rfl,λ_=>by omega⟩
    rw [bK (by omega)]
    obtain ⟨r,h1,h2⟩:=fewQ_in q k (by omega)
    rw [h1]
    rcases h2 with rfl|rfl
    · exact .inl ⟨(),rfl,trivial⟩
    exact .inr ⟨_,rfl,λ_=>by omega⟩
  refine ⟨true,?_,λ_=>by omega⟩
  unfold Rh
  rw [bK (by omega)];rfl
end Go.Proofs.YtchebnpdnfhenaaGreatDoor
end

noncomputable section
namespace Go.Proofs.YtchebnpdnfhenaaGreatDoor
open Go Go.E
theorem WL{α:Type}[DecidableEq α]{l m:List α}(d:α)(hl:l.length=m.length){step:Nat->Option (Nat⊕Bool)}(hy: ∀k,k<l.length->nth l k d=nth m k d->step k=some (.inl (k+1)))(hn: ∀k,k<l.length->nth l k d≠nth m k d->step k=some (.inr false))(hd:step l.length=some (.inr true)):
    bC step 0=some (decide (l=m)):=by
  have:=WM (step:=step) (good:=true) (bad:=false) l.length (λk=>decide (nth l k d=nth m k d)) (λk hk hp=>hy k hk (jg hp)) (λk hk hp=>hn k hk (jo hp)) hd
  rw [this]
  by_cases e:l=m
  · rw [decide_eq_true e,if_pos]
    exact Nw.2 λk _=>decide_eq_true (by rw [e])
  rw [decide_eq_false e,if_neg]
  intro h
  exact e (DK d hl λi hi=>jg (Nw.1 h i hi))
theorem eqB_eq(l m:B_1):Eh_ l m=some (decide (l=m)):=by
  unfold Eh_
  by_cases hl:l.length=m.length
  · rw [bK (by omega)]
    refine WL false hl (λk hk e=> ?_) (λk hk e=> ?_) ?_ <;>unfold Dl_
    · rw [bI (by omega),aF (by omega),e,bne_self_eq_false,iteO_false];rfl
    · rw [bI (by omega),aF (by omega),bne_iff_ne.2 e,iteO_true];rfl
    rw [bK (by omega)];rfl
  rw [bI (by omega),decide_eq_false (λe=>hl (by rw [e]))]
theorem us_(l m:aC):Ds_ l m=some (decide (l=m)):=by
  unfold Ds_
  by_cases hl:l.length=m.length
  · rw [bK (by omega)]
    refine WL [] hl (λk hk e=> ?_) (λk hk e=> ?_) ?_ <;>unfold Do_
    · rw [bI (by omega),aF (by omega),bK (λh=>h e)];rfl
    · rw [bI (by omega),aF (by omega),bI e];rfl
    rw [bK (by omega)];rfl
  rw [bI (by omega),decide_eq_false (λe=>hl (by rw [e]))]
theorem eqI_eq(l m:ak):Eo_ l m=some (decide (l=m)):=by
  unfold Eo_
  by_cases hl:l.length=m.length
  · rw [bK (by omega)]
    refine WL 0 hl (λk hk e=> ?_) (λk hk e=> ?_) ?_ <;>unfold Dm_
    · rw [bI (by omega),aF (by omega),bK (λh=>h e)];rfl
    · rw [bI (by omega),aF (by omega),bI e];rfl
    rw [bK (by omega)];rfl
  rw [bI (by omega),decide_eq_false (λe=>hl (by rw [e]))]
theorem wy_(l m:bZ):Dc_ l m=some (decide (l=m)):=by
  unfold Dc_
  by_cases hl:l.length=m.length
  · rw [bK (by omega)]
    refine WL [] hl (λk hk e=> ?_) (λk hk e=> ?_) ?_ <;>unfold Cm_
    · rw [bI (by omega),aF (by omega),eqI_eq,fD,decide_eq_true e,qK];rfl
    · rw [bI (by omega),aF (by omega),eqI_eq,fD,decide_eq_false e,uj];rfl
    rw [bK (by omega)];rfl
  rw [bI (by omega),decide_eq_false (λe=>hl (by rw [e]))]
theorem w1_(l m:fO):De_ l m=some (decide (l=m)):=by
  unfold De_
  by_cases hl:l.length=m.length
  · rw [bK (by omega)]
    refine WL [] hl (λk hk e=> ?_) (λk hk e=> ?_) ?_ <;>unfold Cp_
    · rw [bI (by omega),aF (by omega),us_,fD,decide_eq_true e,qK];rfl
    · rw [bI (by omega),aF (by omega),us_,fD,decide_eq_false e,uj];rfl
    rw [bK (by omega)];rfl
  rw [bI (by omega),decide_eq_false (λe=>hl (by rw [e]))]
theorem sl_(a:Seq):ZB a a=some true:=by
  unfold ZB
  rw [bI rfl,eqB_eq,fD,decide_eq_true rfl,iteO_true,us_,fD,decide_eq_true rfl,iteO_true,wy_,fD,decide_eq_true rfl,iteO_true,w1_,fD,decide_eq_true rfl]
theorem u8_{a b:Seq}(h:a≠b):ZB a b=some false:=by
  unfold ZB
  by_cases h1:a.front=b.front
  rotate_left
  · rw [bK h1]
  rw [bI h1,eqB_eq,fD]
  by_cases h2:a.fin=b.fin
  rotate_left
  · rw [bK h2]
  rw [bI h2,us_,fD]
  by_cases h3:a.tail=b.tail
  rotate_left
  · rw [bK h3]
  rw [bI h3,wy_,fD]
  by_cases h4:a.next=b.next
  rotate_left
  · rw [bK h4]
  rw [bI h4,w1_,fD,decide_eq_false (λh5=>h (Gc_ h1 h4 h5 h2 h3))]
theorem zk_(l m:B_1):ZJ l m=some (decide (l=m)):=by
  unfold ZJ
  by_cases hl:l.length=m.length
  · rw [bK (by omega)]
    refine WL false hl (λk hk e=> ?_) (λk hk e=> ?_) ?_ <;>unfold ZP
    · rw [bI (by omega),aF (by omega),e,bne_self_eq_false,iteO_false];rfl
    · rw [bI (by omega),aF (by omega),bne_iff_ne.2 e,iteO_true];rfl
    rw [bK (by omega)];rfl
  rw [bI (by omega),decide_eq_false (λe=>hl (by rw [e]))]
theorem sa_(l m:ak):ZQ l m=some (decide (l=m)):=by
  by_cases e:l=m
  · subst e;rw [r8_,decide_eq_true rfl]
  unfold ZQ
  by_cases hl:l.length=m.length
  · rw [bK (by omega)]
    refine WL 0 hl (λk hk e=> ?_) (λk hk e=> ?_) ?_ <;>unfold ZL
    · rw [bI (by omega),aF (by omega),bK (λh=>h e)];rfl
    · rw [bI (by omega),aF (by omega),bI e];rfl
    rw [bK (by omega)];rfl
  rw [bI (by omega),decide_eq_false e]
theorem v4_{a b:Seq}(ha:a.outs.length=a.next.length)(h:a≠b):ZR a b=some false:=by
  unfold ZR
  by_cases h1:a.front=b.front
  rotate_left
  · rw [bI h1]
  rw [bK (λe=>e h1)]
  by_cases h2:a.next.length=b.next.length
  rotate_left
  · rw [bI (by omega)]
  rw [bK (by omega)]
  by_cases h3:a.outs.length=b.outs.length
  rotate_left
  · rw [bI (by omega)]
  rw [bK (by omega),zk_,fD]
  by_cases h4:a.fin=b.fin
  rotate_left
  · rw [decide_eq_false h4,uj]
  rw [decide_eq_true h4,qK,m8_,fD]
  by_cases h5:a.tail=b.tail
  rotate_left
  · rw [decide_eq_false h5,uj]
  rw [decide_eq_true h5,qK]
  have:=WM (step:=λk:Nat=>Iw a b k) (good:=true) (bad:=false) a.next.length (λk=>decide (nth a.next k []=nth b.next k []) && decide (nth a.outs k []=nth b.outs k [])) (λk hk hp=>by
    rw [Bool.and_eq_true,jV,jV]at hp
    show Iw a b k=_
    unfold Iw ZN
    rw [bI (by omega),aF (by omega),sa_,fD,decide_eq_true hp.1,qK,bI (by omega),aF (by omega),m8_,fD,decide_eq_true hp.2,qK];rfl) (λk hk hp=>by
    show Iw a b k=_
    unfold Iw ZN
    rw [bI (by omega),aF (by omega),sa_,fD]
    by_cases e:nth a.next k []=nth b.next k []
    · rw [decide_eq_true e,Bool.true_and,decide_eq_false_iff_not]at hp
      rw [decide_eq_true e,qK,bI (by omega),aF (by omega),m8_,fD,decide_eq_false hp,uj];rfl
    · rw [decide_eq_false e,uj];rfl) (by
    show Iw a b a.next.length=_
    unfold Iw
    rw [bK (by omega)];rfl)
  rw [this,if_neg]
  intro hall
  refine h (Gc_ h1 (DK [] h2 λi hi=> ?_) (DK [] h3 λi hi=> ?_) h4 h5)
  · have:=Nw.1 hall i hi
    rw [Bool.and_eq_true,jV,jV]at this;exact this.1
  have:=Nw.1 hall i (by omega)
  rw [Bool.and_eq_true,jV,jV]at this;exact this.2
theorem both22(q:Seq): ∃p r,Zz q=some p/\ZT q=some p/\NH q=some r/\ZH q=some r/\PushR q p/\MinR p r:=by
  obtain ⟨p,r,a1,a2,a3,a4⟩:=z7_ q
  obtain ⟨p',r',b1,b2,b3,b4⟩:=rmin_ok q
  have e:=a2.uniq b2
  subst e
  have e:=a4.uniq a2 b4
  subst e
  exact ⟨p,r,a1,b1,a3,b3,a2,a4⟩
theorem PushR.err2{q:Seq}{r:Seq×Int}(h:PushR q r)(hq:eP q=true):r.2=0\/r.2=2:=by
  cases h with
  |wrong h1=>exact absurd hq h1
  |none _ _=>exact .inl rfl
  |made l m v h1 h2 h3 h4 h5=>
    unfold zk
    split
    · exact .inl rfl
    exact .inr rfl
theorem same22(p q:Seq): ∃b,F0_ p q=some b/\Db_ p q=some b:=by
  obtain ⟨x,r,a1,a2,a3,a4,a5,a6⟩:=both22 p
  obtain ⟨y,s,b1,b2,b3,b4,b5,b6⟩:=both22 q
  unfold F0_ Db_
  rw [Ev_,fD,jh_,fD]
  by_cases hp:eP p=true
  rotate_left
  · rw [if_neg hp,bI (by decide),Bool.eq_false_iff.2 hp,uj]
    exact ⟨_,rfl,rfl⟩
  rw [if_pos hp,bK (by decide),hp,qK,Ev_,fD,jh_,fD]
  by_cases hq:eP q=true
  rotate_left
  · rw [if_neg hq,bI (by decide),Bool.eq_false_iff.2 hq,uj]
    exact ⟨_,rfl,rfl⟩
  rw [if_pos hq,bK (by decide),hq,qK,a3,fD,a4,fD,b4,fD]
  have e1:r.2=0\/r.2=2:=by rw [(MinR.err' a5 a6).1];exact a5.err2 hp
  have e2:s.2=0\/s.2=2:=by rw [(MinR.err' b5 b6).1];exact b5.err2 hq
  rcases e1 with e1|e1
  rotate_left
  · rw [e1,bI (by decide),bI (by decide)]
    exact ⟨_,rfl,rfl⟩
  rw [e1,bK (by decide),bK (by decide),b3,fD]
  rcases e2 with e2|e2
  rotate_left
  · rw [e2,bI (by decide),bI (by decide)]
    exact ⟨_,rfl,rfl⟩
  rw [e2,bK (by decide),bK (by decide)]
  by_cases e:r.1=s.1
  · rw [e,sl_,fD,q5_,fD]
    exact ⟨_,rfl,rfl⟩
  have hc:=(a6.can a5 e1).1
  rw [u8_ e,fD,v4_ (mW hc.right).2.1 e,fD]
  exact ⟨_,rfl,rfl⟩
theorem r3_(p q:Seq):C2_ p q=some true:=by
  unfold C2_
  obtain ⟨b,hb,_⟩:=fewQ p
  rw [hb,fD]
  cases b with
  |false=>rw [uj]
  |true=>
    rw [qK]
    obtain ⟨b,hb,_⟩:=fewQ q
    rw [hb,fD]
    cases b with
    |false=>rw [uj]
    |true=>
      obtain ⟨b,s1,s2⟩:=same22 p q
      rw [qK,s1,fD,s2,fD,awake22,fD,iteO_true,beq_self_eq_true,iteO_true,decide_eq_true rfl]
end Go.Proofs.YtchebnpdnfhenaaGreatDoor
end

noncomputable section
namespace Go.E
open Go Go.RowKit
def vU(w:World):aj:=λb=>w.heap[b]?
theorem sy_(w:World):Reach w [] (vU w) (vU w) w []:=
  ⟨rfl,rfl,rfl,Nat.le_refl _,λ_ _ _=>rfl,aj.le.refl _,λ_ _ h=>h,λ_ _ h=> .inl h,by simp,by simp,by simp [iJ],by simp,Nat.le_refl _⟩
theorem va_(w:World)(a:Addr):(vU w).cell a=w.cell? a:=by
  unfold aj.cell World.cell? vU
  cases w.heap[a.block]? with
  |none=>rfl
  |some o=>cases o<;>rfl
theorem Con.below{P:Program}{f:FuncId}{args:Array Value}{w:World}{v:Value}(h:Con P f args (vU w) [] (jQ v (vU w))):
    Calls P f args w λe w'=>e= .returned v/\Below w.heap.size w w':=
  (h w (sy_ w)).mono λe w' ⟨r,σ',H',he,⟨h1,h2,h3⟩,k⟩=>⟨by rw [he,h1],⟨k.os,k.tape,k.output,k.size,λi hi=>k.frame i hi (by simp)⟩⟩
def DF(l:List Nat):Prop:= ∀x∈l,x<=140737488351232
theorem DF.left{a b:List Nat}(h:DF (a++b)):DF a:=λx hx=>h x (List.mem_append_left _ hx)
theorem DF.right{a b:List Nat}(h:DF (a++b)):DF b:=λx hx=>h x (List.mem_append_right _ hx)
theorem za_{l:List Nat}(h:l.all (· <=reachBytes)=true):DF l:=λx hx=>by
  have:=List.all_eq_true.1 h x hx
  exact jg this
def Opn(P:Program)(w:World)(T:TypeId){α:Type}(ok:List Value->α->Prop):Prop:=
  ∀{H:Type} (enc:TypeId×Value->H) (held:Bool) (fuel:Nat) (cs:List Value) (d:DataW H) (ps:List MemPlace),DataW.trod enc P w 0 (λ_=>true) held fuel T cs=some (d,ps)->DF (DataW.weights P T d)-> ∃x,ok cs x
section
variable {P:Program} {w:World} {T E:TypeId}
theorem Opn.mono{α β:Type}{ok:List Value->α->Prop}{ok':List Value->β->Prop}(h:Opn P w T ok)(f:α->β)(hf: ∀cs x,ok cs x->ok' cs (f x)):Opn P w T ok':=λenc held fuel cs d ps ht hs=>
  let ⟨x,hx⟩:=h enc held fuel cs d ps ht hs;⟨f x,hf cs x hx⟩
theorem Opn.int{k:IntKind}(hT:P.underlying T=some (.int k)):Opn P w T (λcs (x:Int)=>cs=[.int k x]/\(Lit.int k x).wf=true):=λenc held fuel cs d ps ht _=>by
  obtain ⟨n,h,_,hw⟩:=DataW.trod_int hT ht
  exact ⟨n,h,hw⟩
theorem Opn.bool(hT:P.underlying T=some .bool):Opn P w T (λcs (x:Bool)=>cs=[.bool x]):=λenc held fuel cs d ps ht _=>by
  obtain ⟨n,h,_⟩:=DataW.trod_bool hT ht
  exact ⟨n,h⟩
theorem Opn.str(hT:P.underlying T=some .string):Opn P w T (λcs (x:List UInt8)=>cs=[.string (bs x)]/\x.length<=140737488351232):=λenc held fuel cs d ps ht hs=>by
  obtain ⟨s,h,hx,hw⟩:=DataW.trod_string hT ht
  simp only [Prod.mk.injEq]at hx
  obtain ⟨rfl,rfl⟩:=hx
  exact ⟨s.data.toList,by rw [h,<-bs_of],hs _ (by simp [DataW.weights])⟩
theorem kv_ {α β : Type} {f : α -> Option β} : ∀ {l : List α} {r : List β}, l.mapM f = some r -> r.length = l.length /\ ∀ (i : Nat) (x : α), l[i]? = some x -> ∃ y : β, r[i]? = some y /\ f x = some y
  |[],r,h=>by simp at h;subst h;exact ⟨rfl,λi x hx=>by simp at hx⟩
  | a :: l, r, h => by
    rw [List.mapM_cons]at h
    cases hf:f a with
    |none=>rw [hf]at h;cases h
    |some y=>
      cases hm:l.mapM f with
      |none=>rw [hf,hm]at h;cases h
      |some r'=>
        rw [hf,hm]at h
        cases h
        obtain ⟨h1,h2⟩:=kv_ hm
        refine ⟨by simp [h1],λi x hx=> ?_⟩
        cases i with
        |zero=>simp at hx;subst hx;exact ⟨y,rfl,hf⟩
        |succ i=>simp at hx;simpa using h2 i x hx
theorem lu_{H:Type}{ts:List TypeId}{ds:List (DataW H)}{i:Nat}{t:TypeId}{d:DataW H}(ht:ts[i]? =some t)(hd:ds[i]? =some d)(hs:DF (DataW.weightsEach P ts ds)):DF (DataW.weights P t d):=by
  induction ts generalizing i ds with
  |nil=>simp at ht
  |cons t' ts ih=>
    cases ds with
    |nil=>simp at hd
    |cons d' ds=>
      simp only [DataW.weightsEach]at hs
      cases i with
      |zero=>simp at ht hd;subst ht hd;exact hs.left
      |succ i=>simp at ht hd;exact ih ht hd hs.right
theorem kl_{H:Type}{ds:List (DataW H)}{i:Nat}{d:DataW H}(hd:ds[i]? =some d)(hs:DF (DataW.weightsAll P E ds)):DF (DataW.weights P E d):=by
  induction ds generalizing i with
  |nil=>simp at hd
  |cons d' ds ih=>
    simp only [DataW.weightsAll]at hs
    cases i with
    |zero=>simp at hd;subst hd;exact hs.left
    |succ i=>simp at hd;exact ih hd hs.right
theorem su_{H:Type}{enc:TypeId×Value->H}{held:Bool}{fuel:Nat}{cs:List Value}{d:DataW H}{ps:List MemPlace}{fs:Array Field}(hT:P.underlying T=some (.struct fs))(h:DataW.trod enc P w 0 (λ_=>true) held fuel T cs=some (d,ps))(hs:DF (DataW.weights P T d)):
    cs.length=P.cellsOf T/\ ∀(i:Nat) (f:Field) {α:Type} {ok:List Value->α->Prop},fs.toList[i]? =some f->Opn P w f.type ok-> ∃x,ok ((cs.drop f.offset).take (P.cellsOf f.type)) x:=by
  cases fuel with
  |zero=>simp [DataW.trod]at h
  |succ fuel=>
    unfold DataW.trod at h
    rw [hT]at h
    simp only at h
    split at h
    · rename_i hl
      refine ⟨hl,λi f α ok hf ho=> ?_⟩
      rw [Option.map_eq_some_iff]at h
      obtain ⟨xs,h1,h2⟩:=h
      simp only [Prod.mk.injEq]at h2
      obtain ⟨rfl,rfl⟩:=h2
      obtain ⟨h3,h4⟩:=kv_ h1
      obtain ⟨y,h5,h6⟩:=h4 i f hf
      refine ho enc held fuel _ y.1 y.2 h6 ?_
      simp only [DataW.weights,hT]at hs
      exact lu_ (i:=i) (by simp [hf]) (by simp [h5]) hs
    cases h
theorem u3_{H:Type}{enc:TypeId×Value->H}{held:Bool}{fuel n:Nat}{cs:List Value}{d:DataW H}{ps:List MemPlace}(hT:P.underlying T=some (.array n E))(h:DataW.trod enc P w 0 (λ_=>true) held fuel T cs=some (d,ps))(hs:DF (DataW.weights P T d)):
    cs.length=P.cellsOf T/\ ∀(i:Nat) {α:Type} {ok:List Value->α->Prop},i<n->Opn P w E ok-> ∃x,ok ((cs.drop (i * P.cellsOf E)).take (P.cellsOf E)) x:=by
  cases fuel with
  |zero=>simp [DataW.trod]at h
  |succ fuel=>
    unfold DataW.trod at h
    rw [hT]at h
    simp only at h
    split at h
    · rename_i hl
      refine ⟨hl,λi α ok hi ho=> ?_⟩
      rw [Option.map_eq_some_iff]at h
      obtain ⟨xs,h1,h2⟩:=h
      simp only [Prod.mk.injEq]at h2
      obtain ⟨rfl,rfl⟩:=h2
      obtain ⟨h3,h4⟩:=kv_ h1
      obtain ⟨y,h5,h6⟩:=h4 i i (by rw [List.getElem?_range hi])
      refine ho enc held fuel _ y.1 y.2 h6 ?_
      simp only [DataW.weights,hT]at hs
      exact kl_ (i:=i) (by simp [h5]) hs
    cases h
theorem list4{cs:List Value}(h:cs.length=4): ∃a b c d,cs=[a,b,c,d]:=by
  match cs,h with
  |[a,b,c,d],_=>exact ⟨a,b,c,d,rfl⟩
theorem tl_{x:Int}(h:(Lit.int .u64 x).wf=true): ∃n:Nat,x=(n:Int)/\n<18446744073709551616:=by
  have h1:IntKind.u64.min=0:=rfl
  have h2:IntKind.u64.max=18446744073709551615:=rfl
  simp only [Lit.wf,Bool.and_eq_true,jV,h1,h2]at h
  exact ⟨x.toNat,by omega,by omega⟩
theorem Opn.set(hT:P.underlying T=some (.array 4 E))(hE:P.underlying E=some (.int .u64))(hc:P.cellsOf T=4)(he:P.cellsOf E=1):Opn P w T (λcs (s:BSet)=>cs=(setA s).toList):=λenc held fuel cs d ps ht hs=>by
  obtain ⟨hl,hp⟩:=u3_ hT ht hs
  rw [hc]at hl
  obtain ⟨a,b,c,d,rfl⟩:=list4 hl
  rw [he]at hp
  obtain ⟨x0,h0,w0⟩:=hp 0 (by omega) (Opn.int hE)
  obtain ⟨x1,h1,w1⟩:=hp 1 (by omega) (Opn.int hE)
  obtain ⟨x2,h2,w2⟩:=hp 2 (by omega) (Opn.int hE)
  obtain ⟨x3,h3,w3⟩:=hp 3 (by omega) (Opn.int hE)
  simp at h0 h1 h2 h3
  subst h0 h1 h2 h3
  obtain ⟨n0,rfl,l0⟩:=tl_ w0
  obtain ⟨n1,rfl,l1⟩:=tl_ w1
  obtain ⟨n2,rfl,l2⟩:=tl_ w2
  obtain ⟨n3,rfl,l3⟩:=tl_ w3
  exact ⟨⟨n0,n1,n2,n3,l0,l1,l2,l3⟩,rfl⟩
theorem wf_{a:Addr}{n:Nat}{cs:List Value}(h:w.cells? 0 a n=some cs):cs.length=n/\ ∀j u,cs[j]? =some u->w.cell? (a.add j)=some u:=by
  unfold World.cells? at h
  rw [if_pos (Nat.zero_le _)]at h
  obtain ⟨h1,h2⟩:=kv_ h
  rw [List.length_range]at h1
  refine ⟨h1,λj u hj=> ?_⟩
  have hlt:j<n:=by have:=(List.getElem?_eq_some_iff.1 hj).1;omega
  obtain ⟨y,h3,h4⟩:=h2 j j (by rw [List.getElem?_range hlt])
  rw [hj]at h3;cases h3;exact h4
theorem k6_(cs:List Value)(a b:Nat):(cs.drop a).take b++cs.drop (a+b)=cs.drop a:=by
  rw [<-List.drop_drop];exact List.take_append_drop b (cs.drop a)
theorem Opn.arg{H:Type}{enc:TypeId×Value->H}{α:Type}{ok:List Value->α->Prop}(h:Opn P w T ok){v:Value}{d:DataW H}{ps:List MemPlace}(hd:DataW.Trod enc P w 0 (λ_=>true) true T v d ps)(hs:DF (DataW.weights P T d)): ∃x,ok v.cells.toList x:=by
  obtain ⟨fuel,hf⟩:=hd
  exact h enc true fuel _ d ps hf hs
theorem po_{r:Go.Reach}{b0:Nat}{v:Value}{t:TypeDesc}(hT:P.underlying T=some t)(ht:(∃fs,t= .struct fs)\/ ∃n e,t= .array n e)(h:Value.okWide P w r b0 T v): ∃cs,v= .agg cs:=by
  unfold Value.okWide at h
  rw [hT]at h
  rcases ht with ⟨fs,rfl⟩|⟨n,e,rfl⟩
  · obtain ⟨cs,h1,_⟩:=h;exact ⟨cs,h1⟩
  obtain ⟨cs,h1,_⟩:=h;exact ⟨cs,h1⟩
theorem z6_{cs:Array Value}{l:List Value}(h:(Value.agg cs).cells.toList=l):Value.agg cs= .agg l.toArray:=by
  subst h;simp [Value.cells]
theorem Opn.cs_ {α : Type} {uT : α -> List Value} {size : Nat} {good : α -> Prop} (hT : P.underlying T = some (.slice E)) (hE : Opn P w E (λcs x => cs = uT x /\ good x)) (hc : P.cellsOf E = size) (hb : 0 < P.bytesOf E) (hl : ∀ x, (uT x).length = size) (h1 : ∀ x, ∀ u ∈ uT x, u.oneCell' = true) :
    Opn P w T (λcs (l:List α)=> ∃a c,cs=[.slice a l.length c]/\RS (vU w) size uT (.slice a l.length c) l/\ ∀x∈l,good x):=λenc held fuel cs d ps ht hs=>by
  cases fuel with
  |zero=>simp [DataW.trod]at ht
  |succ fuel=>
    unfold DataW.trod at ht
    rw [hT]at ht
    split at ht
    all_goals (first|(rename_i he;cases he;done)|(rename_i he _;cases he;done)|(cases ht;done)|skip)
    · exact ⟨[],none,0,rfl,RS.nilF _ _ hl,by simp⟩
    rename_i e a len cap he
    cases he
    split at ht
    · rename_i hcap
      rw [Option.bind_eq_some_iff]at ht
      obtain ⟨elems,h2,h3⟩:=ht
      simp only [if_true]at h3
      rw [Option.map_eq_some_iff]at h3
      obtain ⟨rest,h4,h5⟩:=h3
      simp only [Prod.mk.injEq]at h5
      obtain ⟨rfl,rfl⟩:=h5
      simp only [DataW.weights,hT]at hs
      have hw0:=hs _ (jm ..)
      obtain ⟨e1,e2⟩:=kv_ h2
      rw [List.length_range]at e1
      simp only [List.length_map]at hw0
      have hlen:len<=140737488351232:=by
        have:len * 1<=(elems.length+rest.length) * P.bytesOf E:=Nat.mul_le_mul (by omega) hb
        omega
      have hx: ∀i,i<len-> ∃x:α,w.cells? 0 (a.add (i * size)) size=some (uT x)/\good x:=λi hi=>by
        obtain ⟨y,h6,h7⟩:=e2 i i (by rw [List.getElem?_range hi])
        rw [hc,Option.bind_eq_some_iff]at h7
        obtain ⟨cs,h8,h9⟩:=h7
        have hsm:DF (DataW.weights P E y.1):=kl_ (i:=i) (ds:=elems.map (·.1)) (by simp [h6]) (λx hx=>hs x (pF _ (List.mem_append_left _ hx)))
        obtain ⟨x,rfl,hg⟩:=hE enc held fuel cs y.1 y.2 h9 hsm
        exact ⟨x,h8,hg⟩
      have hlist: ∀n,n<=len-> ∃l:List α,l.length=n/\(∀i x,l[i]? =some x->w.cells? 0 (a.add (i * size)) size=some (uT x))/\ ∀x∈l,good x:=by
        intro n
        induction n with
        |zero=>intro _;exact ⟨[],rfl,λi x h=>(by simp at h),by simp⟩
        |succ n ih=>
          intro hn
          obtain ⟨l,g1,g2,g3⟩:=ih (by omega)
          obtain ⟨x,hx,hgx⟩:=hx n (by omega)
          refine ⟨l++[x],by simp [g1],λi y hy=> ?_,λy hy=>by
            rw [List.mem_append,yK]at hy
            rcases hy with hy|rfl
            · exact g3 y hy
            exact hgx⟩
          rw [List.getElem?_append]at hy
          split at hy
          · exact g2 i y hy
          rename_i hi
          have:i=n:=by
            have:=(List.getElem?_eq_some_iff.1 hy).1
            simp at this;omega
          subst this
          simp [g1]at hy;subst hy;exact hx
      obtain ⟨l,g1,g2,g3⟩:=hlist len (Nat.le_refl _)
      subst g1
      refine ⟨l,some a,cap,rfl,⟨⟨⟨_,_,rfl,by simp,hcap.2.1⟩,um hl l,?_,λu hu=> ?_,by omega⟩,hl⟩,g3⟩
      · intro a' m c' hv j u hj
        cases hv
        rw [va_]
        by_cases h0:size=0
        · have:(l.flatMap uT).length=0:=by rw [um hl,h0,Nat.mul_zero]
          rw [List.getElem?_eq_none (by omega)]at hj;cases hj
        have hpos:0<size:=Nat.pos_of_ne_zero h0
        have hjl:j<l.length * size:=by have:=(List.getElem?_eq_some_iff.1 hj).1;rwa [um hl]at this
        have hq:j / size<l.length:=by rw [Nat.div_lt_iff_lt_mul hpos];exact hjl
        have hr:j % size<size:=Nat.mod_lt _ hpos
        have hx:=g2 (j / size) l[j / size] (List.getElem?_eq_getElem hq)
        have hj':j=j / size * size+j % size:=by rw [Nat.mul_comm];exact (Nat.div_add_mod j size).symm
        rw [hj',YM hl l _ _ _ (List.getElem?_eq_getElem hq) hr]at hj
        have:=(wf_ hx).2 _ _ hj
        rw [Z8]at this
        rw [hj'];exact this
      rw [List.mem_flatMap]at hu
      obtain ⟨x,_,hx⟩:=hu
      exact h1 x u hx
    cases ht
theorem Opn.slice{α:Type}{uT:α->List Value}{size:Nat}(hT:P.underlying T=some (.slice E))(hE:Opn P w E (λcs x=>cs=uT x))(hc:P.cellsOf E=size)(hb:0<P.bytesOf E)(hl: ∀x,(uT x).length=size)(h1: ∀x, ∀u∈uT x,u.oneCell'=true):
    Opn P w T (λcs (l:List α)=> ∃a c,cs=[.slice a l.length c]/\RS (vU w) size uT (.slice a l.length c) l):=
  Opn.mono (Opn.cs_ (good:=λ_=>True) hT (Opn.mono hE id λ_ _ h=>⟨h,trivial⟩) hc hb hl h1) id λ_ _ ⟨a,c,h,k,_⟩=>⟨a,c,h,k⟩
def I64(x:Int):Prop:= -9223372036854775808<=x/\x<=9223372036854775807
theorem wf_i64{x:Int}(h:(Lit.int .i64 x).wf=true):I64 x:=by
  have h1:IntKind.i64.min= -9223372036854775808:=rfl
  have h2:IntKind.i64.max=9223372036854775807:=rfl
  simp only [Lit.wf,Bool.and_eq_true,jV,h1,h2]at h
  exact h
theorem Opn.int64(hT:P.underlying T=some (.int .i64)):Opn P w T (λcs (x:Int)=>cs=[.int .i64 x]/\I64 x):=Opn.mono (Opn.int hT) id λ_ _ h=>⟨h.1,wf_i64 h.2⟩
theorem Opn.db_{α:Type}{K:Pk α}{good:α->Prop}(hT:P.underlying T=some (.slice E))(hE:Opn P w E (λcs x=> ∃p,cs=K.enc x p/\K.ok (vU w) x p/\good x))(hc:P.cellsOf E=K.size)(hb:0<P.bytesOf E):
    Opn P w T (λcs (l:List α)=> ∃a c,cs=[.slice a l.length c]/\RZ (vU w) K (.slice a l.length c) l/\ ∀x∈l,good x):=by
  have h:Opn P w T (λcs (z:List (α×K.P))=> ∃a c,cs=[.slice a z.length c]/\RS (vU w) K.size K.en (.slice a z.length c) z/\ ∀m∈z,K.ok (vU w) m.1 m.2/\good m.1):=Opn.cs_ (P:=P) (w:=w) (T:=T) (E:=E) (α:=α×K.P) (uT:=K.en) (size:=K.size) (good:=λm=>K.ok (vU w) m.1 m.2/\good m.1) hT (λenc held fuel cs d ps ht hs=>by
    obtain ⟨x,p,h1,h2,h3⟩:=hE enc held fuel cs d ps ht hs
    exact ⟨(x,p),h1,h2,h3⟩) hc hb K.Y3 K.c8_
  intro H enc held fuel cs d ps ht hs
  obtain ⟨z,a,c,h1,h2,h3⟩:=h enc held fuel cs d ps ht hs
  refine ⟨z.map Prod.fst,a,c,by rw [List.length_map];exact h1,⟨z,⟨rfl,λm hm=>(h3 m hm).1⟩,by rw [List.length_map];exact h2⟩,λx hx=> ?_⟩
  obtain ⟨m,hm,rfl⟩:=List.mem_map.1 hx
  exact (h3 m hm).2
end
end Go.E
end

noncomputable section
namespace Go.E
open Go Go.ChangeShapes Go.WideShapes
theorem qn_{α:Type}(l:List α)(i:Nat):((l.drop (i * 1)).take 1)=(l[i]?).toList:=by
  rw [Nat.mul_one]
  cases h:l[i]? with
  |none=>rw [List.drop_of_length_le (by simpa using h)];rfl
  |some x=>
    obtain ⟨hi,rfl⟩:=List.getElem?_eq_some_iff.1 h
    rw [List.drop_eq_getElem_cons hi];rfl
end Go.E
end

noncomputable section
namespace Go.E
open Go Go.ChangeShapes Go.WideShapes
theorem me_{P:Program}{w:World}{n:String}{d:DataW Unit}: ∀{laid:List (String×DataW Unit)} {ps:List MemPlace},DataW.LaidVars P w laid ps->(n,d)∈laid->
    ∃g t cs fuel p,P.globalNamed n=some g/\(P.globals[g]?).map (·.type)=some t/\w.var? P n=some cs/\DataW.trod (λ_=>()) P w 0 (λ_=>true) false fuel t cs.toList=some (d,p)/\ ∀x∈MemPlace.row ⟨g,0,none⟩ cs.size,x∈ps
  |[],ps,_,hm=>by cases hm
  |(m,e)::r,ps,h,hm=>by
    obtain ⟨g,t,cs,fuel,p,q,h1,h2,h3,h4,h5,h6⟩:=h
    rcases List.mem_cons.1 hm with hm|hm
    · cases hm
      exact ⟨g,t,cs,fuel,p,h1,h2,h3,h4,λx hx=>by rw [h6];exact List.mem_append_left _ (List.mem_append_left _ hx)⟩
    obtain ⟨g',t',cs',fuel',p',k1,k2,k3,k4,k5⟩:=me_ h5 hm
    exact ⟨g',t',cs',fuel',p',k1,k2,k3,k4,λx hx=>by rw [h6];exact List.mem_append_right _ (k5 x hx)⟩
def zd_{H:Type}(k:IntKind)(l:List Int):DataW H:= .agg (l.map λz=> .lit (.int k z))
theorem pv_ {P : Program} {W : World} {laid : List (String × DataW Unit)} {name : String} {g T E : Nat} {k : IntKind} {l : List Int} (h : laidMetH P laid W) (hpl : (laid.all λx => x.2.handleName?.isNone) = true) (hm : (name, zd_ k l) ∈ laid)
    (hg:P.globalNamed name=some g) (hT:(P.globals[g]?).map (·.type)=some T)
    (hu:P.underlying T=some (.array l.length E)) (hE:P.underlying E=some (.int k)) (hc:P.cellsOf E=1) (hcT:P.cellsOf T=l.length) (hl:0<l.length): ∃t,W.heap[g]? =some (.cells (l.map (Value.int k)).toArray t):=by
  rw [MakeChecks.laidMetH_plain _ _ _ hpl]at h
  obtain ⟨ps,hlv,_,hok⟩:=h
  obtain ⟨g0,t0,cs,fu,p,hg0,ht0,hv0,hd0,hps⟩:=me_ hlv hm
  obtain rfl:=Option.some.inj (hg.symm.trans hg0)
  obtain rfl:=Option.some.inj (hT.symm.trans ht0)
  obtain ⟨xs,m,rfl,hx,hlen,hn,hel⟩:=DataW.trod_array hu hd0
  rw [hcT]at hlen
  have hx1:xs.map (·.1)=l.map λz=>(.lit (.int k z):DataW Unit):=by
    have:=congrArg Prod.fst hx
    simp only [zd_,DataW.agg.injEq]at this
    exact this.symm
  have hcs:cs.toList=l.map (Value.int k):=by
    apply List.ext_getElem?
    intro i
    by_cases hi:i<l.length
    · have h1:=hel i hi
      rw [hc,qn_]at h1
      have hxi:i<xs.length:=by omega
      rw [List.getElem?_eq_getElem hxi]at h1
      obtain ⟨z,e1,e2,_⟩:=DataW.trod_int hE h1
      have h2:(xs.map (·.1))[i]? =some (.lit (.int k z)):=by rw [List.getElem?_map,List.getElem?_eq_getElem hxi,e2];rfl
      rw [hx1,List.getElem?_map,List.getElem?_eq_getElem hi]at h2
      simp only [Option.map_some,Option.some.injEq,DataW.lit.injEq,Lit.int.injEq,true_and]at h2
      have h3:cs.toList[i]? =some (.int k z):=by
        cases hz:cs.toList[i]? with
        |none=>rw [hz]at e1;cases e1
        |some y=>rw [hz]at e1;simp at e1;rw [e1]
      rw [h3,List.getElem?_map,List.getElem?_eq_getElem hi,<-h2];rfl
    rw [List.getElem?_eq_none (by omega),List.getElem?_eq_none (by rw [List.length_map];omega)]
  have hmem:MemPlace.cell g 0∈ps:=by
    refine hps _ ?_
    simp only [MemPlace.row,List.mem_map,List.mem_range]
    exact ⟨0, by have : cs.size = l.length := by rw [<- Array.length_toList, hlen]
                 omega,by simp⟩
  obtain ⟨⟨c,t,hb⟩,_⟩:=hok g 0 hmem
  refine ⟨t,?_⟩
  have hv:W.var? P name=some c:=by unfold World.var?;rw [hg];simp [hb]
  rw [hv0]at hv
  rw [hb,<-Option.some.inj hv,<-hcs]
theorem yn_{P:Program}{W:World}{laid:List (String×DataW Unit)}{n1 n2:String}{g1 g2 T1 E1 T2 E2:Nat}{d1 d2:DataW Unit}(h:laidMetH P laid W)(hpl:(laid.all λx=>x.2.handleName?.isNone)=true)(m1:(n1,d1)∈laid)(m2:(n2,d2)∈laid)
    (e1:d1=zd_ .u8 (deB.map λb=>((b.toNat:Nat):Int))) (e2:d2=zd_ .u64 (p10.map λx=>((x:Nat):Int)))
    (hg1:P.globalNamed n1=some g1) (hT1:(P.globals[g1]?).map (·.type)=some T1) (hu1:P.underlying T1=some (.array 64 E1)) (hE1:P.underlying E1=some (.int .u8)) (hc1:P.cellsOf E1=1) (hcT1:P.cellsOf T1=64)
    (hg2:P.globalNamed n2=some g2) (hT2:(P.globals[g2]?).map (·.type)=some T2) (hu2:P.underlying T2=some (.array 20 E2)) (hE2:P.underlying E2=some (.int .u64)) (hc2:P.cellsOf E2=1) (hcT2:P.cellsOf T2=20):Dz (vU W) g1 g2:=by
  subst e1 e2
  refine ⟨?_,?_⟩
  · obtain ⟨t,ht⟩:=pv_ h hpl m1 hg1 hT1 hu1 hE1 hc1 hcT1 (by decide)
    exact ⟨t,ht⟩
  obtain ⟨t,ht⟩:=pv_ h hpl m2 hg2 hT2 hu2 hE2 hc2 hcT2 (by decide)
  exact ⟨t,ht⟩
end Go.E
end

section
/- PushTells: for every input the law returns true, and each argument reads afterwards as it read before. No condition of ours. -/
namespace Go.Proofs.YtchebnpdnfhenaaGreatDoor
open Go Go.E Go.ChangeShapes Go.WideShapes Go.ChangeAt Go.RowKit
theorem qa_ : ownKnob Tryz.prog.godebug = none := by kernel_rfl
theorem im_ : laidOutB Tryz.prog = true := by kernel_rfl
def gj_ : List (String × DataW Unit) := [("math/bits.deBruijn32tab", Rows.laid_math_bits_deBruijn32tab), ("math/bits.deBruijn64tab", Rows.laid_math_bits_deBruijn64tab), ("internal/strconv.uint64pow10", Rows.laid_internal_strconv_uint64pow10)]
theorem or_ (os : Os) (args : Array Value) : laidMetH Tryz.prog gj_ ((World.doorLaid Tryz.prog 400 os).forCall (λ_ _ => 0) ⟨#[], args, []⟩).memory :=
  laidMetH_of_parts3 (fuel := 8) (laidMet_of_run' 8 (by kernel_rfl) (by kernel_rfl)) (by kernel_rfl) (by kernel_rfl)
theorem mk_ : Tryz.prog.cellsOf 3 = 1 := by kernel_rfl
theorem mq_ : Tryz.prog.cellsOf 4 = 1 := by kernel_rfl
theorem i4_ : Tryz.prog.cellsOf 9 = 1 := by kernel_rfl
theorem li_ : Tryz.prog.cellsOf 27 = 1 := by kernel_rfl
theorem lf_ : Tryz.prog.cellsOf 28 = 1 := by kernel_rfl
theorem l3_ : Tryz.prog.cellsOf 29 = 1 := by kernel_rfl
theorem ir_ : Tryz.prog.cellsOf 30 = 1 := by kernel_rfl
theorem lj_ : Tryz.prog.cellsOf 32 = 5 := by kernel_rfl
theorem lp_ : Tryz.prog.cellsOf 86 = 1 := by kernel_rfl
theorem mu_ : Tryz.prog.bytesOf 3 = 8 := by kernel_rfl
theorem ml_ : Tryz.prog.bytesOf 4 = 1 := by kernel_rfl
theorem mx_ : Tryz.prog.bytesOf 9 = 16 := by kernel_rfl
theorem le_ : Tryz.prog.bytesOf 30 = 24 := by kernel_rfl
theorem lg_ : Tryz.prog.bytesOf 86 = 24 := by kernel_rfl
theorem jw_ {w : World} : Opn Tryz.prog w 9 (λcs (x : List UInt8) => cs = [.string (bs x)]) := Opn.mono (Opn.str Tryz.underlying9) id λcs x h => h.1
theorem mw_ {w : World} : Opn Tryz.prog w 3 (λcs (x : Int) => cs = [.int .i64 x] /\ (I64 x)) := Opn.int64 Tryz.underlying3
theorem ln_ {w : World} : Opn Tryz.prog w 86 (λcs (x : List Int) => ∃ (a0 : Option Addr) (c0 : Nat), cs = [.slice a0 x.length c0] /\ RS (vU w) 1 aG (.slice a0 x.length c0) x /\ (∀ q0 ∈ x, I64 q0)) := Opn.cs_ Tryz.underlying86 mw_ mk_ (by rw [mu_]; decide) bn jS
theorem n9_ {w : World} : Opn Tryz.prog w 86 (λcs (x : List Int) => ∃ p, cs = (aB 1 aG bn).enc x p /\ (aB 1 aG bn).ok (vU w) x p /\ ∀ q0 ∈ x, I64 q0) := Opn.mono ln_ id λcs x h => by
  obtain ⟨a, c, h1, h2, h3⟩ := h
  exact ⟨(a, c), h1, h2, h3⟩
theorem nz_ {w : World} : Opn Tryz.prog w 27 (λcs (x : List (List Int)) => ∃ (a0 : Option Addr) (c0 : Nat), cs = [.slice a0 x.length c0] /\ RZ (vU w) (aB 1 aG bn) (.slice a0 x.length c0) x) := Opn.mono (Opn.db_ (K := (aB 1 aG bn)) Tryz.underlying27 n9_ lp_ (by rw [lg_]; decide)) id λcs l ⟨a, c, h1, h2, _⟩ => ⟨a, c, h1, h2⟩
theorem jf_ {w : World} : Opn Tryz.prog w 30 (λcs (x : List (List UInt8)) => ∃ (a0 : Option Addr) (c0 : Nat), cs = [.slice a0 x.length c0] /\ RS (vU w) 1 aJ (.slice a0 x.length c0) x) := Opn.slice Tryz.underlying30 jw_ i4_ (by rw [mx_]; decide) bF rE
theorem nc_ {w : World} : Opn Tryz.prog w 30 (λcs (x : List (List UInt8)) => ∃ p, cs = (aB 1 aJ bF).enc x p /\ (aB 1 aJ bF).ok (vU w) x p /\ True) := Opn.mono jf_ id λcs x h => by
  obtain ⟨a, c, h1, h2⟩ := h
  exact ⟨(a, c), h1, h2, trivial⟩
theorem nd_ {w : World} : Opn Tryz.prog w 28 (λcs (x : List (List (List UInt8))) => ∃ (a0 : Option Addr) (c0 : Nat), cs = [.slice a0 x.length c0] /\ RZ (vU w) (aB 1 aJ bF) (.slice a0 x.length c0) x) := Opn.mono (Opn.db_ (K := (aB 1 aJ bF)) Tryz.underlying28 nc_ ir_ (by rw [le_]; decide)) id λcs l ⟨a, c, h1, h2, _⟩ => ⟨a, c, h1, h2⟩
theorem o3_ {w : World} : Opn Tryz.prog w 4 (λcs (x : Bool) => cs = [.bool x]) := Opn.bool Tryz.underlying4
theorem oi_ {w : World} : Opn Tryz.prog w 29 (λcs (x : List Bool) => ∃ (a0 : Option Addr) (c0 : Nat), cs = [.slice a0 x.length c0] /\ RS (vU w) 1 eq_ (.slice a0 x.length c0) x) := Opn.slice Tryz.underlying29 o3_ mq_ (by rw [ml_]; decide) jc qZ
theorem jb_ {w : World} : Opn Tryz.prog w 32 (λcs (x : Seq) => ∃ (a0 : Option Addr) (c0 : Nat), ∃ (a1 : Option Addr) (c1 : Nat), ∃ (a2 : Option Addr) (c2 : Nat), ∃ (a3 : Option Addr) (c3 : Nat), cs = [.string (bs x.front), .slice a0 x.next.length c0, .slice a1 x.outs.length c1, .slice a2 x.fin.length c2, .slice a3 x.tail.length c3] /\ RZ (vU w) (aB 1 aG bn) (.slice a0 x.next.length c0) x.next /\ RZ (vU w) (aB 1 aJ bF) (.slice a1 x.outs.length c1) x.outs /\ RS (vU w) 1 eq_ (.slice a2 x.fin.length c2) x.fin /\ RS (vU w) 1 aJ (.slice a3 x.tail.length c3) x.tail) := by
  intro H enc held fuel cs d ps ht hs
  obtain ⟨hl, hp⟩ := su_ Tryz.underlying32 ht hs
  rw [lj_] at hl
  obtain ⟨x0, h0⟩ := hp 0 _ rfl jw_
  replace h0 : (cs.drop 0).take (Tryz.prog.cellsOf 9) = [.string (bs x0)] := h0
  rw [i4_] at h0
  obtain ⟨x1, a1_a0, c1_c0, h1, f1_a0⟩ := hp 1 _ rfl nz_
  replace h1 : (cs.drop 1).take (Tryz.prog.cellsOf 27) = [.slice a1_a0 x1.length c1_c0] := h1
  rw [li_] at h1
  obtain ⟨x2, a2_a0, c2_c0, h2, f2_a0⟩ := hp 2 _ rfl nd_
  replace h2 : (cs.drop 2).take (Tryz.prog.cellsOf 28) = [.slice a2_a0 x2.length c2_c0] := h2
  rw [lf_] at h2
  obtain ⟨x3, a3_a0, c3_c0, h3, f3_a0⟩ := hp 3 _ rfl oi_
  replace h3 : (cs.drop 3).take (Tryz.prog.cellsOf 29) = [.slice a3_a0 x3.length c3_c0] := h3
  rw [l3_] at h3
  obtain ⟨x4, a4_a0, c4_c0, h4, f4_a0⟩ := hp 4 _ rfl jf_
  replace h4 : (cs.drop 4).take (Tryz.prog.cellsOf 30) = [.slice a4_a0 x4.length c4_c0] := h4
  rw [ir_] at h4
  have e : cs = ((cs.drop 0).take 1 ++ ((cs.drop 1).take 1 ++ ((cs.drop 2).take 1 ++ ((cs.drop 3).take 1 ++ ((cs.drop 4).take 1 ++ cs.drop 5))))) := by
    rw [k6_ cs 4 1]; rw [k6_ cs 3 1]; rw [k6_ cs 2 1]; rw [k6_ cs 1 1]; rw [k6_ cs 0 1]; rfl
  rw [h0, h1, h2, h3, h4, List.drop_of_length_le (by omega)] at e
  exact ⟨⟨x0, x1, x2, x3, x4⟩, a1_a0, c1_c0, a2_a0, c2_c0, a3_a0, c3_c0, a4_a0, c4_c0, e, f1_a0, f2_a0, f3_a0, f4_a0⟩
set_option maxRecDepth 100000 in
theorem ms_ (os : Os) (started : os.Started) (H : Type) (enc : TypeId × Value -> H) :
    ReturnsInHanded {} Tryz.checked os 10 .any (λw args => (Rows.pushTellsSpec.pre enc Tryz.prog Tryz.f10 [] false w args /\ laidMetH Tryz.prog gj_ w) /\ sizedMet enc Tryz.prog Tryz.f10 (OpenSpec.ofChange Rows.pushTellsSpec) false w args)
      (Rows.pushTellsSpec.post enc Tryz.prog Tryz.f10 false true false false) := by
  refine returnsInHanded_of_change_and (C := Tryz.checked) (X := λw _ => laidMetH Tryz.prog gj_ w) (λ_ _ _ hh h => h.of_heap hh) qa_ started (by kernel_rfl) Tryz.func10
    (ChangeSpec.witness_shaped (enc := enc) (C := Tryz.checked) (os := os) (X := λw _ => laidMetH Tryz.prog gj_ w) false (World.doorLaid Tryz.prog 400 os) #[.agg #[.string ⟨#[]⟩, .slice none 0 0, .slice none 0 0, .slice none 0 0, .slice none 0 0], .agg #[.string ⟨#[]⟩, .slice none 0 0, .slice none 0 0, .slice none 0 0, .slice none 0 0]] 8 rfl (World.shaped_of_RefB (by kernel_rfl) (by kernel_rfl)) (by kernel_rfl) (by kernel_rfl) (by kernel_rfl) (or_ os _)) ?_
  intro W base args ds gs before hval0 hW _ hsz0 hL _
  have hgl := yn_ (P := Tryz.prog) (laid := gj_) (g1 := 1) (g2 := 2) (T1 := 266) (T2 := 274) (by exact hL) (by kernel_rfl) (List.mem_cons_of_mem _ (List.mem_cons_self ..)) (List.mem_cons_of_mem _ (List.mem_cons_of_mem _ (List.mem_cons_self ..))) (by kernel_rfl) (by kernel_rfl) (by kernel_rfl) (by kernel_rfl) (by exact Tryz.underlying266) Tryz.underlying5 (by kernel_rfl) (by kernel_rfl) (by kernel_rfl) (by kernel_rfl) (by exact Tryz.underlying274) Tryz.underlying62 (by kernel_rfl) (by kernel_rfl)
  have hsz1 : (DataW.weightsEach Tryz.prog (Tryz.f10.params.toList ++ Rows.pushTellsSpec.plain.varTypes Tryz.prog) (ds ++ gs)).all (· <= reachBytes) = true := hsz0
  have hval : ∀ (j : Nat) t v, Tryz.f10.params[j]? = some t -> args[j]? = some v -> Value.okWide Tryz.prog W .any base t v := hval0
  have hW' := hW
  obtain ⟨p, q, hA0, hV, rfl, hfz, hnd⟩ := hW
  have hA : DataW.TrodAll enc Tryz.prog W 0 (λ_ => true) true Tryz.f10.params.toList args.toList ds p := hA0
  rw [Tryz.params10] at hA hval hsz1
  have hsm := za_ hsz1
  obtain ⟨v0, vs0, d0, ds0, p0, q0, hargs, rfl, rfl, h0, r0⟩ := trodAll_cons hA
  obtain ⟨v1, vs1, d1, ds1, p1, q1, rfl, rfl, rfl, h1, r1⟩ := trodAll_cons r0
  obtain ⟨rfl, rfl, rfl⟩ := trodAll_nil r1
  obtain rfl : args = #[v0, v1] := by cases args; simp_all
  obtain ⟨rfl, rfl⟩ := trodVars_none hV
  clear hA0 hval0 hsz0 hsz1
  have s0 := lu_ (P := Tryz.prog) (i := 0) rfl rfl hsm
  have k0 := h0
  have lt0 : ∀ x ∈ p0, x.block < W.heap.size := by obtain ⟨m, hm⟩ := k0; exact DataW.trod_lt m _ _ _ hm
  obtain ⟨n0, rfl⟩ := po_ Tryz.underlying32 (.inl ⟨_, rfl⟩) (hval 0 32 v0 rfl rfl)
  obtain ⟨x0, aI, aH, aA, aX, aU, ay, bJ, bD, e0, au, aY, aV, aQ⟩ := jb_.arg h0 s0
  replace e0 := z6_ e0
  have g0 : ∀ W', Below W.heap.size W W' -> DataW.Trod enc Tryz.prog W' 0 (λb => decide (b < W.heap.size)) true 32 _ d0 p0 := λW' bel => Below.trod im_ (by kernel_rfl) (of_decide_eq_true (by kernel_rfl)) k0 bel lt0
  have s1 := lu_ (P := Tryz.prog) (i := 1) rfl rfl hsm
  have k1 := h1
  have lt1 : ∀ x ∈ p1, x.block < W.heap.size := by obtain ⟨m, hm⟩ := k1; exact DataW.trod_lt m _ _ _ hm
  obtain ⟨n1, rfl⟩ := po_ Tryz.underlying32 (.inl ⟨_, rfl⟩) (hval 1 32 v1 rfl rfl)
  obtain ⟨x1, eF, dZ, iL, o9, nH, iK, rZ, o8, e1, bP, ku, kQ, j_⟩ := jb_.arg h1 s1
  replace e1 := z6_ e1
  have g1 : ∀ W', Below W.heap.size W W' -> DataW.Trod enc Tryz.prog W' 0 (λb => decide (b < W.heap.size)) true 32 _ d1 p1 := λW' bel => Below.trod im_ (by kernel_rfl) (of_decide_eq_true (by kernel_rfl)) k1 bel lt1
  have hcall : Calls Tryz.prog 10 #[.agg ([.string (bs x0.front), .slice aI x0.next.length aH, .slice aA x0.outs.length aX, .slice aU x0.fin.length ay, .slice bJ x0.tail.length bD]).toArray, .agg ([.string (bs x1.front), .slice eF x1.next.length dZ, .slice iL x1.outs.length o9, .slice nH x1.fin.length iK, .slice rZ x1.tail.length o8]).toArray] W λe w' => e = .returned (.bool true) /\ Below W.heap.size W w' := Con.below (F5_ hgl au aY aV aQ bP ku kQ j_ (r3_ x0 x1))
  have hcall2 : Calls Tryz.prog 10 #[(.agg n0), (.agg n1)] W λe w' => e = .returned (.bool true) /\ Below W.heap.size W w' := by
    rw [e0, e1]; exact hcall
  refine hcall2.mono λe W' ⟨he, bel⟩ => ?_
  subst he
  exact ⟨_, rfl, _, _, _, [], _, [], hW', trodAll_mk1 (shut_bool Tryz.underlying4 _), (trodAll_cons_mk (g0 W' bel) (trodAll_cons_mk (g1 W' bel) trodAll_mk0)), rfl, bel.frame _, λh => by cases h⟩
theorem os_ : Rows.pushTellsRow.holds Tryz.pinned (OpenSpec.ofChange Rows.pushTellsSpec) :=
  OpenClaim.holds_of_wide 10 Tryz.f10 rfl rfl rfl rfl rfl rfl rfl ⟨rfl, rfl, rfl, rfl, rfl⟩ rfl rfl rfl rfl rfl (by kernel_rfl) Tryz.func10 (by kernel_rfl)
    (of_decide_eq_true (by kernel_rfl)) (by unfold Func.isWrapper; first | (rw [if_pos (by decide +kernel)]; kernel_rfl) | (rw [if_neg (by decide +kernel)]; exact ⟨rfl, rfl⟩))
    (λos started H enc _ => ms_ os started H enc)
theorem pushTells_row : Rows.PushTellsSaid := os_
#print axioms pushTells_row
theorem nv_ : ∀ (j : Nat) (t : TypeId), Tryz.f10.params[j]? = some t -> Tryz.prog.wantsStandIn t = false := λj t ht => by
  rw [Tryz.params10] at ht
  have hm : t ∈ [32, 32] := by simpa using Array.mem_of_getElem? ht
  have hall : ([32, 32].all λu => !Tryz.prog.wantsStandIn u) = true := by kernel_rfl
  exact (show Tryz.prog.wantsStandIn t = false by simpa using List.all_eq_true.1 hall t hm)
theorem pushTells_holds : Rows.PushTellsCardSaid :=
  Claim7.holds_tied_plain_at .later [] [.data, .data, .data] true (true, "f568851396d7a30d6bc57c5301dc3eaf4fd31757d6a99dca80f817a9aab275e4") true
    pushTells_row (λ_ h => by cases h) (by kernel_rfl) (λ_ h => by cases h) pushTells_row_tie rfl ⟨rfl, rfl⟩ (by kernel_rfl) rfl
    (λf fn hf hfn => by
      obtain rfl : f = 10 := Option.some.inj ((show Tryz.prog.funcNamed "whittle/whittlelaw22.PushTells" = some 10 by kernel_rfl).symm.trans hf) |>.symm
      obtain rfl : fn = Tryz.f10 := (Option.some.inj (Tryz.func10.symm.trans hfn)).symm
      exact ⟨by kernel_rfl, nv_⟩)
    (by kernel_rfl)
#print axioms pushTells_holds
end Go.Proofs.YtchebnpdnfhenaaGreatDoor
end
