/- PushMakes: for every input the law returns true, and each argument reads afterwards as it read before. No condition of ours. -/
import Derived.Test.YtchebnpdnfhenaaGreatDoorBb501fecef1
import Derived.Test.YtchebnpdnfhenaaGreatDoorBcf9365863c
import Derived.Test.YtchebnpdnfhenaaGreatDoorB4982517361
import Derived.Test.YtchebnpdnfhenaaGreatDoorBf4486f8d57
import Derived.Test.YtchebnpdnfhenaaGreatDoorB58f978d2a1
import Derived.KernelRfl
import Derived.ProofKit
import Derived.SizedLaws
import Derived.Below
import Derived.LaidMore
import Derived.OpenShut
import Derived.MakeChecks
import Derived.Test.YtchebnpdnfhenaaGreatDoorRows
import Derived.WalkKit
import Derived.ShutString
import Derived.ChangeOld
import Derived.Test.YtchebnpdnfhenaaGreatDoorTie
import Derived.Test.YtchebnpdnfhenaaGreatDoorCards
import Derived.SevenTiedAt
import Derived.Stop.Joined

set_option linter.unusedVariables false
set_option linter.unusedSimpArgs false
set_option linter.unusedSectionVars false
set_option maxRecDepth 100000
set_option maxHeartbeats 8000000

noncomputable section
namespace Go.Proofs.YtchebnpdnfhenaaGreatDoor
open Go Go.E
structure LkI (q:Seq) (L:ak) (j:Nat):Prop where
  len:L.length=j
  at': ∀s,s<j-> ∃a:Nat,nth L s 0=((a:Nat):Int)/\a<=s/\cu q a=cu q s/\ ∀m,m<a->cu q m≠cu q s
theorem LkI.iff{q:Seq}{L:ak}{n:Nat}(h:LkI q L n){s t:Nat}(hs:s<n)(ht:t<n):nth L s 0=nth L t 0↔cu q s=cu q t:=by
  obtain ⟨a,a1,a2,a3,a4⟩:=h.at' s hs
  obtain ⟨b,b1,b2,b3,b4⟩:=h.at' t ht
  constructor
  · intro e
    have:a=b:=by omega
    subst this
    exact a3.symm.trans b3
  intro e
  have h1: ¬ a<b:=λc=>b4 a c (a3.trans e)
  have h2: ¬ b<a:=λc=>a4 b c (b3.trans e.symm)
  omega
theorem LkI.fix{q:Seq}{L:ak}{n:Nat}(h:LkI q L n){s:Nat}(hs:s<n):0<=nth L s 0/\nth L s 0<((n:Nat):Int)/\nth L (nth L s 0).toNat 0=nth L s 0:=by
  obtain ⟨a,a1,a2,a3,a4⟩:=h.at' s hs
  refine ⟨by omega,by omega,?_⟩
  rw [a1,iT,<-a1]
  exact (h.iff (show a<n by omega) hs).2 a3
theorem like_in {q : Seq} (hn : q.next.length <= 1024) {U : List B_1} (hU : GY q U) {j : Nat} (hj : j < q.next.length) {L : ak} (hL : LkI q L j) : ∃ a : Nat, bC (λz : Int × Int => QM j U L z.1 z.2) (((j : Nat) : Int), ((j : Nat) : Int)) = some (.inl (L ++ [((a : Nat) : Int)], j + 1)) /\ LkI q (L ++ [((a : Nat) : Int)]) (j + 1) := by
  have hlen:=hL.len
  have hUl:=hU.len
  have hUr:=hU.row j hj
  obtain ⟨r,h1,a,rfl,h2,h3,h4⟩:=Pj (step:=λz:Int×Int=>QM j U L z.1 z.2) (λz=> -1<=z.2/\z.2<=((j:Nat):Int)/\ ∃a:Nat,z.1=((a:Nat):Int)/\a<=j/\z.2<=((a:Nat):Int)/\cu q a=cu q j/\ ∀m:Nat,z.2<((m:Nat):Int)->m<a->cu q m≠cu q j) (λz=>(z.2+1).toNat) (λx=> ∃a:Nat,x= .inl (L++[((a:Nat):Int)],j+1)/\a<=j/\cu q a=cu q j/\ ∀m,m<a->cu q m≠cu q j) (by
    rintro ⟨x,k⟩ ⟨i1,i2,a,rfl,i3,i4,i5,i6⟩
    simp only at i1 i2 i4 i6
    show (∃t',QM j U L ((a:Nat):Int) k=some (.inl t')/\_/\_)\/ ∃r,QM j U L ((a:Nat):Int) k=some (.inr r)/\_
    unfold QM
    by_cases c:0<=k
    · left
      obtain ⟨k',rfl⟩: ∃k':Nat,k=((k':Nat):Int):=⟨k.toNat,by omega⟩
      have hkn:k'<q.next.length:=by omega
      have hw:IntKind.i64.wrap (((k':Nat):Int) - 1)=((k':Nat):Int) - 1:=UK (by omega) (by omega)
      rw [bV c,aH (by omega),aH (by omega),iT,hw]
      have hiff:=hU.iff j k' hj hkn
      cases d:nth (nth U j []) k' false with
      |false=>
        rw [zi]
        refine ⟨_,rfl,⟨by show -1<=((k':Nat):Int) - 1;omega,by show ((k':Nat):Int) - 1<=_;omega,k',rfl,by omega,by show ((k':Nat):Int) - 1<=_;omega,(hiff.1 d).symm,λm hm hm2=> ?_⟩,?_⟩
        · have hm:((k':Nat):Int) - 1<((m:Nat):Int):=hm
          omega
        show (((k':Nat):Int) - 1+1).toNat<(((k':Nat):Int)+1).toNat
        omega
      |true=>
        rw [vJ]
        have hne:cu q k'≠cu q j:=λe=>by
          have:=hiff.2 e.symm
          rw [d]at this;cases this
        have hak:k'≠a:=λe=>by subst e;exact hne i5
        refine ⟨_,rfl,⟨by show -1<=((k':Nat):Int) - 1;omega,by show ((k':Nat):Int) - 1<=_;omega,a,rfl,i3,by show ((k':Nat):Int) - 1<=_;omega,i5,λm hm hm2=> ?_⟩,?_⟩
        · have hm:((k':Nat):Int) - 1<((m:Nat):Int):=hm
          by_cases e:m=k'
          · rw [e];exact hne
          exact i6 m (by omega) hm2
        show (((k':Nat):Int) - 1+1).toNat<(((k':Nat):Int)+1).toNat
        omega
    right
    rw [bQ c,aH (by simp only [jZ];omega)]
    exact ⟨_,rfl,a,rfl,i3,i5,λm hm=>i6 m (by omega) hm⟩) (t:=(((j:Nat):Int),((j:Nat):Int))) ⟨by show -1<=((j:Nat):Int);omega,Int.le_refl _,j,rfl,Nat.le_refl _,Int.le_refl _,rfl,λm hm hm2=>by have hm:((j:Nat):Int)<((m:Nat):Int):=hm;omega⟩
  refine ⟨a,h1,by rw [fU,jZ];omega,λs hs=> ?_⟩
  by_cases c:s<j
  · rw [GU (by omega)];exact hL.at' s c
  have:s=j:=by omega
  subst this
  have e:=LC L ((a:Nat):Int) 0
  rw [hlen]at e
  exact ⟨a,e,h2,h3,h4⟩
def R_(b:Nat)(row:ak)(k:Nat)(st:ak):Option ((ak×ak×Nat)⊕((bW×fJ×B_1×aB×ak×Nat)⊕(Seq×Int))):=
  grd (b<(row.set b (-1)).length) (nxt (st,(row.set b (-1)).set b ((k:Nat):Int),b+1))
theorem aac_ {p : Seq × Int} {L st ord row : ak} {i b : Nat} (hst : st.length <= 100000) (to : Int) (hto : nth L (nth (nth p.1.next (nth ord i 0).toNat []) b 0).toNat 0 = to) :
    (∃j,j<st.length/\nth st j 0=to/\bC (λz:Nat×Nat=>yM st L p ord i b row z.1 z.2) (st.length,0)=R_ b row j st)\/((∀j,j<st.length->nth st j 0≠to)/\bC (λz:Nat×Nat=>yM st L p ord i b row z.1 z.2) (st.length,0)=R_ b row st.length (st++[to])):=by
  have key: ∀(m k a:Nat),st.length - k=m->k<=st.length->(a<st.length/\nth st a 0=to\/a=st.length/\ ∀j,j<k->nth st j 0≠to)-> ∀R,yM st L p ord i b row (if (∃j,j<st.length/\nth st j 0=to) then 0 else 0) k=yM st L p ord i b row 0 k->R=bC (λz:Nat×Nat=>yM st L p ord i b row z.1 z.2) (a,k)->
      (∃j,j<st.length/\nth st j 0=to/\R=R_ b row j st)\/((∀j,j<st.length->nth st j 0≠to)/\R=R_ b row st.length (st++[to])):=by
    intro m
    induction m with
    |zero=>
      intro k a hm hk ha R _ hR
      have hk:k=st.length:=by omega
      subst hk
      have hd: ∀X,yM st L p ord i b row a st.length=fin X->bC (λz:Nat×Nat=>yM st L p ord i b row z.1 z.2) (a,st.length)=X:=λX hX=>by
        cases hx:X with
        |some x=>exact zn (by show yM st L p ord i b row a st.length=_;rw [hX,hx];rfl)
        |none=>
          cases hq:bC (λz:Nat×Nat=>yM st L p ord i b row z.1 z.2) (a,st.length)with
          |none=>rfl
          |some r=>
            obtain ⟨z,hz,_⟩:=iq hq
            have hz:yM st L p ord i b row a st.length=some z:=hz
            rw [hX,hx]at hz;cases hz
      have hun:yM st L p ord i b row a st.length=fin (aQ (decide (((a:Nat):Int)=((st.length:Nat):Int))) (R_ b row a (st++[to])) (R_ b row a st)):=by
        unfold yM
        rw [bQ (by omega),hto,aH (by simp only [jZ];omega)];rfl
      rw [hd _ hun]at hR
      rcases ha with ⟨a1,a2⟩|⟨a1,a2⟩
      · left
        rw [bQ (by omega)]at hR
        exact ⟨a,a1,a2,hR⟩
      right
      subst a1
      rw [bV rfl]at hR
      exact ⟨a2,hR⟩
    |succ m ih=>
      intro k a hm hk ha R _ hR
      have hks:k<st.length:=by omega
      by_cases c:nth st k 0=to
      · refine ih (k+1) k (by omega) (by omega) (.inl ⟨hks,c⟩) R (by split<;>rfl) ?_
        rw [hR]
        refine uj_ ?_
        show yM st L p ord i b row a k=_
        unfold yM
        rw [bV (by omega),hto,bV c];rfl
      refine ih (k+1) a (by omega) (by omega) ?_ R (by split<;>rfl) ?_
      · rcases ha with ha|⟨a1,a2⟩
        · exact .inl ha
        refine .inr ⟨a1,λj hj=> ?_⟩
        by_cases e:j=k
        · rw [e];exact c
        exact a2 j (by omega)
      rw [hR]
      refine uj_ ?_
      show yM st L p ord i b row a k=_
      unfold yM
      rw [bV (by omega),hto,bQ c];rfl
  exact key _ 0 st.length rfl (Nat.zero_le _) (.inr ⟨rfl,λj hj=>absurd hj (Nat.not_lt_zero _)⟩) _ (by split<;>rfl) rfl
def clR(L:ak)(s:Nat):Int:=nth L s 0
structure RowI (q:Seq) (L st:ak) (V:Nat->Int) (i b:Nat) (st' row:ak) (V':Nat->Int):Prop where
  bf:BfI q (clR L) st' V' (i * 256+b)
  fx: ∀j,j<st'.length->nth L (nth st' j 0).toNat 0=nth st' j 0
  ex: ∃X,st'=st++X
  len:row.length=256
  at': ∀c,c<b->nth row c 0=V' (i * 256+c)
  old: ∀c,c<i * 256->V' c=V c
theorem zx_{q:Seq}{cl:Nat->Int}{st:ak}{V:Nat->Int}{code:Nat}(h:BfI q cl st V code):st.length<=q.next.length:=by
  refine tw_ (n:=st.length) (f:=λs=>s) (g:=λj=>(nth st j 0).toNat) (λk hk=>⟨k,hk,rfl⟩) (λs hs=>by have:=h.rng s hs;show (nth st s 0).toNat<_;omega) λs t hs ht e=> ?_
  have e:(nth st s 0).toNat=(nth st t 0).toNat:=e
  exact h.dist s t hs ht (by rw [e])
theorem rrow_in{q:Seq}(hq:eH q=true){L:ak}(hL:LkI q L q.next.length){st:ak}{V:Nat->Int}{i:Nat}(hi:i<st.length)(h:BfI q (clR L) st V (i * 256))(hfx: ∀j,j<st.length->nth L (nth st j 0).toNat 0=nth st j 0)(e:Int){N:bW}{O:fJ}{F:B_1}{T:aB}(hN:N.length<=1024)(hO:O.length<=1024)(hF:F.length<=1024)(hT:T.length<=1024):
    ∃st' row V',bC (λz:ak×ak×Nat=>Nz st i (q,e) L N O F T z.1 z.2.1 z.2.2) (st,List.replicate 256 0,0)=some (.inl (N++[row],O++[nth q.outs (nth st i 0).toNat []],F++[nth q.fin (nth st i 0).toNat false],T++[nth q.tail (nth st i 0).toNat []],st',i+1))/\RowI q L st V i 256 st' row V':=by
  obtain ⟨q1,q2,q3,q4,q5⟩:=ni hq
  have hLl:=hL.len
  have hs:=h.rng i hi
  obtain ⟨s,hs'⟩: ∃s:Nat,nth st i 0=((s:Nat):Int):=⟨(nth st i 0).toNat,by omega⟩
  have hsn:s<q.next.length:=by omega
  obtain ⟨r1,r2⟩:=vM hq hsn
  rw [hs',iT]
  refine Exists.elim (kM (step:=λz:ak×ak×Nat=>Nz st i (q,e) L N O F T z.1 z.2.1 z.2.2) (λ(z:ak×ak) b=>(z.1,z.2,b)) 256 (λb z=> ∃V',RowI q L st V i b z.1 z.2 V') (λx=> ∃st' row V',x= .inl (N++[row],O++[nth q.outs s []],F++[nth q.fin s false],T++[nth q.tail s []],st',i+1)/\RowI q L st V i 256 st' row V') ?_ ?_ (s0:=(st,List.replicate 256 0)) ⟨V,h,hfx,⟨[],by simp⟩,by simp,λc hc=>absurd hc (Nat.not_lt_zero _),λc _=>rfl⟩) (λx lX=> ?_)
  · rintro b ⟨st1,row⟩ hb ⟨V1,k1,k2,⟨X,k3⟩,k4,k5,k6⟩
    simp only at k1 k2 k3 k4 k5 k6
    have hst1:i<st1.length:=by rw [k3,fU];omega
    have hat:nth st1 i 0=((s:Nat):Int):=by rw [k3,GU hi];exact hs'
    have hd1:(i * 256+b) / 256=i:=by omega
    have hd2:(i * 256+b) % 256=b:=by omega
    have hlt:=oC hq hsn hb
    have hge:=sb_ hq hsn hb
    have hle:=zx_ k1
    have hcell:nxQ q (nth st1 ((i * 256+b) / 256) 0).toNat ((i * 256+b) % 256)=nxQ q s b:=by rw [hd1,hd2,hat,iT]
    have e1:nth (nth q.next s []) b 0=nxQ q s b:=rfl
    have rows: ∀{z:Int} {r:ak},r.length=256->(∀c,c≠b->nth r c 0=nth row c 0)->nth r b 0=z-> ∀c,c<b+1->nth r c 0=upd V1 (i * 256+b) z (i * 256+c):=λ{z r} h1 h2 h3 c hc=>by
      by_cases f:c=b
      · rw [f,SX];exact h3
      rw [h2 c f,Af _ _ (by omega)];exact k5 c (by omega)
    have olds: ∀z c,c<i * 256->upd V1 (i * 256+b) z c=V c:=λz c hc=>by rw [Af _ _ (by omega)];exact k6 c hc
    have two: ∀z:Int,((row.set b (-1)).set b z).length=256/\(∀c,c≠b->nth ((row.set b (-1)).set b z) c 0=nth row c 0)/\nth ((row.set b (-1)).set b z) b 0=z:=λz=>⟨by simp [k4],λc hc=>by rw [Du hc,Du hc],GN (by simp;omega)⟩
    left
    show ∃s':ak×ak,Nz st i (q,e) L N O F T st1 row b=some (.inl (s'.1,s'.2,b+1))/\_
    unfold Nz
    rw [bV (by omega),aH (by omega),hs',iT,aH (show 0<=((s:Nat):Int)/\((s:Nat):Int)<(q.next.length:Int) by omega),aH (show b<(nth q.next s []).length by omega)]
    show ∃s':ak×ak,aQ (decide (nxQ q s b<0)) _ _=_/\_
    by_cases d:nxQ q s b<0
    · rw [bV d]
      refine ⟨(st1,row.set b (-1)),rfl,upd V1 (i * 256+b) (-1),k1.skip (by rw [hcell];exact d),k2,⟨X,k3⟩,by show (row.set b (-1)).length=256;rw [fQ];exact k4,rows (by simp [k4]) (λc hc=>Du hc) (GN (by omega)),olds _⟩
    have hz:(nxQ q s b).toNat<q.next.length:=by omega
    rw [bQ d,aH (show 0<=((s:Nat):Int)/\((s:Nat):Int)<(q.next.length:Int) by omega),aH (show b<(nth q.next s []).length by omega)]
    show ∃s':ak×ak,grd (0<=nxQ q s b/\nxQ q s b<(L.length:Int)) (bC (λz:Nat×Nat=>yM st1 L (q,e) st i b row z.1 z.2) (st1.length,0))=_/\_
    rw [aH (by omega)]
    have hfz:=hL.fix hz
    rcases aac_ (p:=(q,e)) (L:=L) (st:=st1) (ord:=st) (row:=row) (i:=i) (b:=b) (by omega) (nth L (nxQ q s b).toNat 0) (by rw [hs',iT];rfl)with ⟨j,j1,j2,j3⟩|⟨j1,j2⟩
    · rw [j3]
      unfold R_
      rw [aH (by simp;omega)]
      obtain ⟨t1,t2,t3⟩:=two ((j:Nat):Int)
      refine ⟨(st1,_),rfl,upd V1 (i * 256+b) ((j:Nat):Int),k1.old (by rw [hcell];omega) j1 (by rw [hcell];show nth L (nth st1 j 0).toNat 0=nth L (nxQ q s b).toNat 0;rw [k2 j j1];exact j2),k2,⟨X,k3⟩,t1,rows t1 t2 t3,olds _⟩
    rw [j2]
    unfold R_
    rw [aH (by simp;omega)]
    obtain ⟨t1,t2,t3⟩:=two ((st1.length:Nat):Int)
    refine ⟨(st1++[nth L (nxQ q s b).toNat 0],_),rfl,upd V1 (i * 256+b) ((st1.length:Nat):Int),k1.new (by omega) (by rw [hcell];omega) ⟨hfz.1,hfz.2.1⟩ (by rw [hcell];exact hfz.2.2) (λj hj=>by
      rw [hcell]
      show nth L (nth st1 j 0).toNat 0≠nth L (nxQ q s b).toNat 0
      rw [k2 j hj];exact j1 j hj),λj hj=> ?_,⟨X++[nth L (nxQ q s b).toNat 0],by rw [k3,qA]⟩,t1,rows t1 t2 t3,olds _⟩
    show nth L (nth (st1++[nth L (nxQ q s b).toNat 0]) j 0).toNat 0=nth (st1++[nth L (nxQ q s b).toNat 0]) j 0
    by_cases f:j<st1.length
    · rw [GU f];exact k2 j f
    have:j=st1.length:=by have:j<(st1++[nth L (nxQ q s b).toNat 0]).length:=hj;rw [fU,jZ]at this;omega
    rw [this,LC];exact hfz.2.2
  · rintro ⟨st1,row⟩ ⟨V1,hR⟩
    simp only at hR
    refine ⟨.inl (N++[row],O++[nth q.outs s []],F++[nth q.fin s false],T++[nth q.tail s []],st1,i+1),?_,st1,row,V1,rfl,hR⟩
    show Nz st i (q,e) L N O F T st1 row 256=_
    unfold Nz
    rw [bQ (by omega),aH (by simp only [jZ];omega),hs',iT,aH (show 0<=((s:Nat):Int)/\((s:Nat):Int)<(q.outs.length:Int) by omega),aH (by simp only [jZ];omega),aH (show 0<=((s:Nat):Int)/\((s:Nat):Int)<(q.fin.length:Int) by omega),aH (by simp only [jZ];omega),aH (show 0<=((s:Nat):Int)/\((s:Nat):Int)<(q.tail.length:Int) by omega),aH (by simp only [jZ];omega)];rfl
  obtain ⟨h1,st',row,V',rfl,h2⟩:=lX
  exact ⟨st',row,V',h1,h2⟩
structure RmI (q:Seq) (L:ak) (N:bW) (O:fJ) (F:B_1) (T:aB) (st:ak) (i:Nat) (V:Nat->Int):Prop where
  bf:BfI q (clR L) st V (i * 256)
  fx: ∀j,j<st.length->nth L (nth st j 0).toNat 0=nth st j 0
  le:i<=st.length
  n:N.length=i
  o:O.length=i
  f:F.length=i
  t:T.length=i
  rn: ∀j,j<i->(nth N j []).length=256/\ ∀b,b<256->nth (nth N j []) b 0=V (j * 256+b)
  ro: ∀j,j<i->nth O j []=nth q.outs (nth st j 0).toNat []
  rf: ∀j,j<i->nth F j false=nth q.fin (nth st j 0).toNat false
  rt: ∀j,j<i->nth T j []=nth q.tail (nth st j 0).toNat []
theorem s8_{α:Type}{l:List α}{i:Nat}{x d:α}(h:l.length=i){f:Nat->α}(h1: ∀j,j<i->nth l j d=f j)(h2:x=f i): ∀j,j<i+1->nth (l++[x]) j d=f j:=λj hj=>by
  by_cases c:j<i
  · rw [GU (by omega)];exact h1 j c
  have:j=l.length:=by omega
  rw [this,LC,h2,h]
theorem ut_{n:Seq}(hn:eH n=true)(h0:n.next.length=0):n=Seq.zero:=by
  obtain ⟨q1,q2,q3,q4,q5⟩:=ni hn
  have hf:n.front=[]:=by
    simp only [eH,gi_,Bool.and_eq_true,Bool.or_eq_true,lg]at hn
    rcases hn.1.2 with c|c
    · exact absurd h0 c
    exact c
  exact G8_ hf (oU h0) (oU (by omega)) (oU (by omega)) (oU (by omega))
theorem rmin_ok (q : Seq) : ∃ p r, Vo q = some p /\ PushR q p /\ Cs_ q = some r /\ MinR p r := by
  obtain ⟨p,h1,h2⟩:=zl_ q
  unfold Cs_
  rw [h1,gJ]
  by_cases c0:p.2=0
  rotate_left
  · rw [bV c0]
    refine ⟨p,_,rfl,h2,rfl,?_⟩
    rw [(h2.errs c0).1];exact .err c0
  rw [bQ (λh=>h c0)]
  obtain ⟨hP,hR,_,_⟩:=h2.psh c0
  by_cases c1:p.1.next.length=0
  · rw [bV (by omega)]
    refine ⟨p,_,rfl,h2,rfl,?_⟩
    rw [c0,ut_ hR c1];exact .none c0 c1
  rw [bQ (by omega)]
  obtain ⟨q1,q2,q3,q4,q5⟩:=ni hR
  obtain ⟨U,u1,u2⟩:=zm_ hR hP
  rw [u1,gJ]
  suffices hs: ∃r,bC (λz:ak×Nat=>ND p U z.1 z.2) ([],0)=some r/\MinR p r by
    obtain ⟨r,k1,k2⟩:=hs
    exact ⟨p,r,rfl,h2,k1,k2⟩
  refine kM (step:=λz:ak×Nat=>ND p U z.1 z.2) (λz j=>(z,j)) p.1.next.length (λj L=>LkI p.1 L j) (λr=>MinR p r) ?_ ?_ (s0:=[]) ⟨rfl,λs hs=>absurd hs (Nat.not_lt_zero _)⟩
  · intro j L hj hL
    left
    obtain ⟨a,a1,a2⟩:=like_in q1 u2 hj hL
    refine ⟨_,?_,a2⟩
    show ND p U L j=_
    unfold ND
    rw [bV (by omega),a1]
  intro L hL
  have hLl:=hL.len
  have hf0:=hL.fix (show 0<p.1.next.length by omega)
  show ∃r,ND p U L p.1.next.length=some (.inr r)/\_
  obtain ⟨r,k1,k2⟩:=Pj (step:=λz:bW×fJ×B_1×aB×ak×Nat=>Vs p L z.1 z.2.1 z.2.2.1 z.2.2.2.1 z.2.2.2.2.1 z.2.2.2.2.2) (λz=> ∃V,RmI p.1 L z.1 z.2.1 z.2.2.1 z.2.2.2.1 z.2.2.2.2.1 z.2.2.2.2.2 V) (λz=>p.1.next.length+1 - z.2.2.2.2.2) (λr=>MinR p r) (by
    rintro ⟨N,O,F,T,st,i⟩ ⟨V,hI⟩
    simp only at hI
    have hle:=zx_ hI.bf
    have hi:=hI.le
    have n1:=hI.n
    have n2:=hI.o
    have n3:=hI.f
    have n4:=hI.t
    show (∃t',Vs p L N O F T st i=some (.inl t')/\_/\_)\/ ∃r,Vs p L N O F T st i=some (.inr r)/\_
    unfold Vs
    by_cases c:i<st.length
    · left
      obtain ⟨st',row,V',m1,m2⟩:=rrow_in hR hL c hI.bf hI.fx p.2 (N:=N) (O:=O) (F:=F) (T:=T) (by omega) (by omega) (by omega) (by omega)
      obtain ⟨X,hX⟩:=m2.ex
      have hold: ∀j,j<st.length->nth st' j 0=nth st j 0:=λj hj=>by rw [hX,GU hj]
      rw [bV (by omega),show p=(p.1,p.2)from rfl,m1]
      refine ⟨_,rfl,⟨V',by show BfI p.1 (clR L) st' V' ((i+1) * 256);rw [show (i+1) * 256=i * 256+256 by omega];exact m2.bf,m2.fx,by show i+1<=st'.length;rw [hX,fU];omega,by show (N++[row]).length=i+1;simp [n1],by show (O++[_]).length=i+1;simp [n2],by show (F++[_]).length=i+1;simp [n3],by show (T++[_]).length=i+1;simp [n4],λj hj=> ?_,?_,?_,?_⟩,?_⟩
      · have hj:j<i+1:=hj
        show (nth (N++[row]) j []).length=256/\ ∀b,b<256->nth (nth (N++[row]) j []) b 0=V' (j * 256+b)
        by_cases d:j<i
        · rw [GU (by omega)]
          obtain ⟨a1,a2⟩:=hI.rn j d
          exact ⟨a1,λb hb=>by rw [a2 b hb,m2.old _ (by omega)]⟩
        have:j=N.length:=by omega
        subst this
        rw [LC]
        refine ⟨m2.len,λb hb=> ?_⟩
        rw [m2.at' b hb,n1]
      · exact s8_ n2 (λj hj=>by rw [hold j (by omega)];exact hI.ro j hj) (by rw [hold i c])
      · exact s8_ n3 (λj hj=>by rw [hold j (by omega)];exact hI.rf j hj) (by rw [hold i c])
      · exact s8_ n4 (λj hj=>by rw [hold j (by omega)];exact hI.rt j hj) (by rw [hold i c])
      show p.1.next.length+1 - (i+1)<p.1.next.length+1 - i
      omega
    right
    have:i=st.length:=by omega
    subst this
    rw [bQ (by omega)]
    refine ⟨_,rfl,.made _ (st.map Int.toNat) c0 (hI.bf.min (λs t hs ht=>hL.iff hs ht) hR rfl n1 n2 n3 n4 (λj hj=>(hI.rn j hj).1) (λd hd=> ?_) hI.ro hI.rf hI.rt)⟩
    show nth (nth N (d / 256) []) (d % 256) 0=V d
    rw [(hI.rn (d / 256) (by omega)).2 (d % 256) (by omega),show d / 256 * 256+d % 256=d by omega]) (t:=([],[],[],[],[nth L 0 0],0)) ⟨λ_=>0,BfI.init _ ⟨hf0.1,hf0.2.1⟩ hf0.2.2,λj hj=>by
    have hj:j<1:=hj
    have:j=0:=by omega
    subst this;exact hf0.2.2,Nat.zero_le _,rfl,rfl,rfl,rfl,λj hj=>absurd hj (Nat.not_lt_zero _),λj hj=>absurd hj (Nat.not_lt_zero _),λj hj=>absurd hj (Nat.not_lt_zero _),λj hj=>absurd hj (Nat.not_lt_zero _)⟩
  refine ⟨r,?_,k2⟩
  unfold ND
  rw [bQ (by omega),aH (by omega),k1];rfl
end Go.Proofs.YtchebnpdnfhenaaGreatDoor
end

noncomputable section
namespace Go.Proofs.YtchebnpdnfhenaaGreatDoor
open Go Go.E
theorem tl_: ∀p a b:T_1,Lib.compareBytes (p++a) (p++b)=Lib.compareBytes a b
  |[],_,_=>rfl
  |x::p,a,b=>by
    simp only [List.cons_append,Lib.compareBytes,UInt8.lt_irrefl,if_false]
    exact tl_ p a b
theorem cut_cmp{f:T_1}{x y:Tip}(hx:f <+: x.out)(hy:f <+: y.out):nG (yV f.length x) (yV f.length y)=nG x y:=by
  obtain ⟨a,ha⟩:=hx
  obtain ⟨b,hb⟩:=hy
  unfold nG yV
  simp only [<-ha,<-hb,List.drop_left,tl_]
theorem once_cut{l:List Tip}{f:T_1}(hf: ∀x∈l,f <+: x.out):tH aG nG (l.map (yV f.length))=(tH aG nG l).map (yV f.length):=by
  refine n1_ Pv (he_ Pv _) ?_ λx=> ?_
  · rw [List.pairwise_map]
    refine (he_ Pv l).imp_of_mem λ{a b} ha hb h=> ?_
    rw [cut_cmp (hf a ((Dw ..).1 ha)) (hf b ((Dw ..).1 hb))];exact h
  rw [Dw]
  simp only [List.mem_map]
  exact ⟨λ⟨y,h1,h2⟩=>⟨y,(Dw ..).2 h1,h2⟩,λ⟨y,h1,h2⟩=>⟨y,(Dw ..).1 h1,h2⟩⟩
theorem yn_(l:List Tip):iZ ((tH aG nG l).map Tip.out)=iZ (l.map Tip.out):=vh_ λx=>by
  simp only [List.mem_map]
  exact ⟨λ⟨y,h1,h2⟩=>⟨y,(Dw ..).1 h1,h2⟩,λ⟨y,h1,h2⟩=>⟨y,(Dw ..).2 h1,h2⟩⟩
theorem u0_(l:List Tip):Ir l=if Fh (tH aG nG l)=true then .inl 12 else if 4096<(iZ (l.map Tip.out)).length then .inl 2 else
    if ∃x∈tH aG nG l,4096<(x.out.drop (iZ (l.map Tip.out)).length).length then .inl 2 else .inr (iZ (l.map Tip.out),(tH aG nG l).map (yV (iZ (l.map Tip.out)).length)):=by
  rw [<-yn_ l];rfl
end Go.Proofs.YtchebnpdnfhenaaGreatDoor
end

noncomputable section
namespace Go.Proofs.YtchebnpdnfhenaaGreatDoor
open Go Go.E
def em(a:Arc)(b:UInt8):T_1:=if a.copy then a.out++[b] else a.out
inductive Wy (t:Fst):Int->T_1->T_1->Int->Prop
  |nil (s:Int):Wy t s [] [] s
  |cons {w o:T_1} {q:Int} (a:Arc) (b:UInt8):a∈t.arcs->a.set.has b.toNat=true->Wy t a.to w o q->Wy t a.frm (b::w) (em a b++o) q
theorem Wy.cons_inv{t:Fst}{s q:Int}{b:UInt8}{w o:T_1}(h:Wy t s (b::w) o q): ∃a∈t.arcs,a.frm=s/\a.set.has b.toNat=true/\ ∃o',Wy t a.to w o' q/\o=em a b++o':=by
  cases h with
  |cons a b ha hb hw=>exact ⟨a,ha,rfl,hb,_,hw,rfl⟩
theorem Wy.split{t:Fst}: ∀{u v o:T_1} {s q:Int},Wy t s (u++v) o q-> ∃m o1 o2,Wy t s u o1 m/\Wy t m v o2 q/\o=o1++o2
  |[],v,o,s,q,h=>⟨s,[],o,.nil s,h,rfl⟩
  |b::u,v,o,s,q,h=>by
    obtain ⟨a,ha,rfl,hb,o',hw,rfl⟩:=Wy.cons_inv h
    obtain ⟨m,o1,o2,h1,h2,rfl⟩:=Wy.split hw
    exact ⟨m,em a b++o1,o2,.cons a b ha hb h1,h2,by rw [qA]⟩
theorem Wy.map{t T:Fst}(f:Int->Int)(h: ∀a∈t.arcs,(⟨f a.frm,f a.to,a.set,a.out,a.copy⟩:Arc)∈T.arcs){s q:Int}{w o:T_1}(k:Wy t s w o q):Wy T (f s) w o (f q):=by
  induction k with
  |nil s=>exact .nil _
  |cons a b ha hb _ ih=>exact Wy.cons (⟨f a.frm,f a.to,a.set,a.out,a.copy⟩:Arc) b (h a ha) hb ih
end Go.Proofs.YtchebnpdnfhenaaGreatDoor
end

noncomputable section
namespace Go.Proofs.YtchebnpdnfhenaaGreatDoor
open Go Go.E
def Eqs(L:aB):Prop:= ∀x∈L, ∀y∈L,x=y
instance (L:aB):Decidable (Eqs L):=inferInstanceAs (Decidable (∀x∈L, ∀y∈L,x=y))
def wM(L:aB):T_1:=L.getLastD []
theorem uz_(L:aB)(s:T_1):wM (L++[s])=s:=by simp [wM]
theorem nd_{L:aB}(h:L≠[]):wM L∈L:=by
  unfold wM
  rw [List.getLastD_eq_getLast?,List.getLast?_eq_some_getLast h]
  exact List.getLast_mem h
theorem Eqs.last{L:aB}(h:Eqs L){x:T_1}(hx:x∈L):x=wM L:=h _ hx _ (nd_ (List.ne_nil_of_mem hx))
theorem t9_{L:aB}{s:T_1}:Eqs (L++[s])↔Eqs L/\(L≠[]->s=wM L):=by
  constructor
  · intro h
    refine ⟨λx hx y hy=>h x (List.mem_append_left _ hx) y (List.mem_append_left _ hy),λhn=> ?_⟩
    exact h _ (List.mem_append_right _ (List.mem_singleton.2 rfl)) _ (List.mem_append_left _ (nd_ hn))
  rintro ⟨h1,h2⟩ x hx y hy
  have key: ∀z∈L++[s],z=s:=λz hz=>by
    rcases List.mem_append.1 hz with hz|hz
    · rw [h1.last hz,h2 (List.ne_nil_of_mem hz)]
    exact List.mem_singleton.1 hz
  rw [key x hx,key y hy]
theorem xn_{L M:aB}(h:Eqs M)(hs: ∀x∈L,x∈M):Eqs L:=λx hx y hy=>h x (hs x hx) y (hs y hy)
def Fp(L:aB):Bool:= !L.isEmpty
theorem u5_(L:aB)(s:T_1):Fp (L++[s])=true:=by cases L<;>rfl
theorem rt_{L:aB}:Fp L=true↔L≠[]:=by cases L<;>simp [Fp]
def Sl(E:List Tip)(x:Tip):aB:=(E.filter λe=>decide (e.state=x.state)).map λe=>x.out++e.out
def vT(E l:List Tip):aB:=l.flatMap (Sl E)
theorem u7_(E l:List Tip)(x:Tip):vT E (l++[x])=vT E l++Sl E x:=by simp [vT]
def VY(E l:List Tip):Int⊕(Bool×T_1):=
  if ¬ Eqs (vT E l) then .inl 12 else if 4096<(wM (vT E l)).length then .inl 2 else .inr (Fp (vT E l),wM (vT E l))
def Ry(A:List Arc)(b:UInt8)(x:Tip):List Tip:=((A.filter λa=>decide (a.frm=x.state)).filter λa=>a.set.has b.toNat).map λa=>⟨a.to,x.out++em a b⟩
def uZ(A:List Arc)(l:List Tip)(b:UInt8):List Tip:=l.flatMap (Ry A b)
theorem xr_(A:List Arc)(l:List Tip)(b:UInt8)(x:Tip):uZ A (l++[x]) b=uZ A l b++Ry A b x:=by simp [uZ]
theorem zg_(A:List Arc)(b:UInt8)(x:Tip):(Ry A b x).length<=A.length:=by
  unfold Ry
  rw [List.length_map]
  exact Nat.le_trans (List.length_filter_le _ _) (List.length_filter_le _ _)
theorem p0_(A:List Arc)(b:UInt8): ∀l:List Tip,(uZ A l b).length<=l.length * A.length
  |[]=>by simp [uZ]
  |x::l=>by
    have h1:=p0_ A b l
    have h2:=zg_ A b x
    show (Ry A b x++uZ A l b).length<=_
    rw [fU,List.length_cons,Nat.succ_mul];omega
theorem ue_{A:List Arc}{l:List Tip}{b:UInt8}{y:Tip}:y∈uZ A l b↔ ∃x∈l, ∃a∈A,a.frm=x.state/\a.set.has b.toNat=true/\y=⟨a.to,x.out++em a b⟩:=by
  unfold uZ Ry
  simp only [List.mem_flatMap,List.mem_map,List.mem_filter,lg]
  exact ⟨λ⟨x,h1,a,⟨⟨h2,h3⟩,h4⟩,h5⟩=>⟨x,h1,a,h2,h3,h4,h5.symm⟩,λ⟨x,h1,a,h2,h3,h4,h5⟩=>⟨x,h1,a,⟨⟨h2,h3⟩,h4⟩,h5.symm⟩⟩
theorem n9_{E l:List Tip}{y:T_1}:y∈vT E l↔ ∃x∈l, ∃e∈E,e.state=x.state/\y=x.out++e.out:=by
  unfold vT Sl
  simp only [List.mem_flatMap,List.mem_map,List.mem_filter,lg]
  exact ⟨λ⟨x,h1,e,⟨h2,h3⟩,h5⟩=>⟨x,h1,e,h2,h3,h5.symm⟩,λ⟨x,h1,e,h2,h3,h5⟩=>⟨x,h1,e,⟨h2,h3⟩,h5.symm⟩⟩
structure Knows (n:Nat) (A:List Arc) (E:List Tip) (x:Maker):Prop where
  arcs:Grp Arc.frm id n x.arcs A
  ends:Grp Tip.state Tip.out n x.ends E
  al:A.length<=16384
  ao: ∀a∈A,a.out.length<=1024
  eo: ∀e∈E,e.out.length<=1024
  hn:n<=1024
theorem aad_ {n : Nat} {A : List Arc} {E : List Tip} {x0 : Maker} (h : Knows n A E x0) {l : List Tip} (hl : RowOk n l) {k : Nat} (hk : k < l.length) (P : aB) (hP : Eqs P) :
    bC (λq:Bool×T_1×Nat=>NK x0 l k q.1 q.2.1 q.2.2) (Fp P,wM P,0)=some (if Eqs (P++Sl E (nth l k aG)) then .inl (Fp (P++Sl E (nth l k aG)),wM (P++Sl E (nth l k aG)),k+1) else .inr (.inl 12)):=by
  have hm:=vU aG hk
  have hs:=hl.st _ hm
  have ho:=hl.out _ hm
  have hg:=h.ends.at hs.1 hs.2
  have hX:Sl E (nth l k aG)=(nth x0.ends (nth l k aG).state.toNat []).map λo=>(nth l k aG).out++o:=by
    rw [hg,List.map_map];rfl
  have hgo: ∀o∈nth x0.ends (nth l k aG).state.toNat [],o.length<=1024:=by
    rw [hg]
    intro o ho
    obtain ⟨e,he,rfl⟩:=List.mem_map.1 ho
    exact h.eo e (List.mem_filter.1 he).1
  rw [hX]
  obtain ⟨r,h1,h2⟩:=kM (step:=λq:Bool×T_1×Nat=>NK x0 l k q.1 q.2.1 q.2.2) (λ(s:Bool×T_1) j=>(s.1,s.2,j)) (nth x0.ends (nth l k aG).state.toNat []).length
    (λj s=>Eqs (P++((nth x0.ends (nth l k aG).state.toNat []).take j).map λo=>(nth l k aG).out++o)/\s=(Fp (P++((nth x0.ends (nth l k aG).state.toNat []).take j).map λo=>(nth l k aG).out++o),wM (P++((nth x0.ends (nth l k aG).state.toNat []).take j).map λo=>(nth l k aG).out++o)))
    (λr=>r=(if Eqs (P++(nth x0.ends (nth l k aG).state.toNat []).map λo=>(nth l k aG).out++o) then .inl (Fp (P++(nth x0.ends (nth l k aG).state.toNat []).map λo=>(nth l k aG).out++o),wM (P++(nth x0.ends (nth l k aG).state.toNat []).map λo=>(nth l k aG).out++o),k+1) else .inr (.inl 12)))
    (λj s hj hI=>by
      obtain ⟨hI,rfl⟩:=hI
      have hoj:=hgo _ (vU [] hj)
      have ht:((nth x0.ends (nth l k aG).state.toNat []).take (j+1)).map (λo=>(nth l k aG).out++o)=((nth x0.ends (nth l k aG).state.toNat []).take j).map (λo=>(nth l k aG).out++o)++[(nth l k aG).out++nth (nth x0.ends (nth l k aG).state.toNat []) j []]:=by
        rw [yw _ hj [],List.map_append];rfl
      have hsub: ∀y∈P++((nth x0.ends (nth l k aG).state.toNat []).take (j+1)).map (λo=>(nth l k aG).out++o),y∈P++(nth x0.ends (nth l k aG).state.toNat []).map λo=>(nth l k aG).out++o:=λy hy=>by
        rcases List.mem_append.1 hy with hy|hy
        · exact List.mem_append_left _ hy
        obtain ⟨o,ho,rfl⟩:=List.mem_map.1 hy
        exact List.mem_append_right _ (List.mem_map.2 ⟨o,List.mem_of_mem_take ho,rfl⟩)
      rw [ht,<-qA]at hsub
      have hst:NK x0 l k (Fp (P++((nth x0.ends (nth l k aG).state.toNat []).take j).map λo=>(nth l k aG).out++o)) (wM (P++((nth x0.ends (nth l k aG).state.toNat []).take j).map λo=>(nth l k aG).out++o)) j
          =if P++((nth x0.ends (nth l k aG).state.toNat []).take j).map (λo=>(nth l k aG).out++o)≠[]/\(nth l k aG).out++nth (nth x0.ends (nth l k aG).state.toNat []) j []≠wM (P++((nth x0.ends (nth l k aG).state.toNat []).take j).map λo=>(nth l k aG).out++o) then some (.inr (.inr (.inl 12)))
            else some (.inl (true,(nth l k aG).out++nth (nth x0.ends (nth l k aG).state.toNat []) j [],j+1)):=by
        unfold NK C7_
        rw [bV (by omega),aH (by omega)]
        by_cases c1:P++((nth x0.ends (nth l k aG).state.toNat []).take j).map (λo=>(nth l k aG).out++o)≠[]
        · rw [rt_.2 c1,iteO_true]
          by_cases c2:(nth l k aG).out++nth (nth x0.ends (nth l k aG).state.toNat []) j []≠wM (P++((nth x0.ends (nth l k aG).state.toNat []).take j).map λo=>(nth l k aG).out++o)
          · rw [bV c2,if_pos ⟨c1,c2⟩];rfl
          rw [bQ c2,if_neg (λq=>c2 q.2)];rfl
        rw [show Fp (P++((nth x0.ends (nth l k aG).state.toNat []).take j).map λo=>(nth l k aG).out++o)=false from by rw [Bool.eq_false_iff];exact λq=>c1 (rt_.1 q),iteO_false,if_neg (λq=>c1 q.1)];rfl
      by_cases c:P++((nth x0.ends (nth l k aG).state.toNat []).take j).map (λo=>(nth l k aG).out++o)≠[]/\(nth l k aG).out++nth (nth x0.ends (nth l k aG).state.toNat []) j []≠wM (P++((nth x0.ends (nth l k aG).state.toNat []).take j).map λo=>(nth l k aG).out++o)
      · rw [if_pos c]at hst
        exact .inr ⟨_,hst,by rw [if_neg λq=>c.2 ((t9_.1 (xn_ q hsub)).2 c.1)]⟩
      rw [if_neg c]at hst
      refine .inl ⟨(true,_),hst,?_,?_⟩
      · rw [ht,<-qA]
        exact t9_.2 ⟨hI,λq=>Classical.byContradiction λq2=>c ⟨q,q2⟩⟩
      rw [ht,<-qA,u5_,uz_])
    (λs hI=>by
      obtain ⟨hI,rfl⟩:=hI
      rw [List.take_length]at hI
      refine ⟨_,?_,rfl⟩
      rw [if_pos hI,List.take_length]
      show NK x0 l k _ _ (nth x0.ends (nth l k aG).state.toNat []).length=_
      unfold NK
      rw [bQ (by omega)];rfl) (s0:=(Fp P,wM P)) ⟨by simpa using hP,by simp⟩
  rw [<-h2];exact h1
theorem tail_ok {n : Nat} {A : List Arc} {E : List Tip} {x0 : Maker} (h : Knows n A E x0) {l : List Tip} (hl : RowOk n l) : D0_ x0 l = some (VY E l) := by
  unfold D0_
  obtain ⟨r,h1,h2⟩:=kM (step:=λq:Bool×T_1×Nat=>QD l x0 q.1 q.2.1 q.2.2) (λ(s:Bool×T_1) k=>(s.1,s.2,k)) l.length (λk s=>Eqs (vT E (l.take k))/\s=(Fp (vT E (l.take k)),wM (vT E (l.take k)))) (λr=>r=VY E l)
    (λk s hk hI=>by
      obtain ⟨hI,rfl⟩:=hI
      have hs:=hl.st _ (vU aG hk)
      have ht:vT E (l.take (k+1))=vT E (l.take k)++Sl E (nth l k aG):=by rw [yw l hk aG,u7_]
      have hst:QD l x0 (Fp (vT E (l.take k))) (wM (vT E (l.take k))) k=some (if Eqs (vT E (l.take (k+1))) then .inl (Fp (vT E (l.take (k+1))),wM (vT E (l.take (k+1))),k+1) else .inr (.inl 12)):=by
        unfold QD
        rw [bV (by omega),aH ⟨hs.1,by rw [h.ends.len];exact hs.2⟩,ht]
        exact aad_ h hl hk _ hI
      by_cases c:Eqs (vT E (l.take (k+1)))
      · rw [if_pos c]at hst
        exact .inl ⟨(_,_),hst,c,rfl⟩
      rw [if_neg c]at hst
      refine .inr ⟨_,hst,?_⟩
      unfold VY
      rw [if_pos]
      intro q
      refine c (xn_ q λy hy=> ?_)
      obtain ⟨x,hx,e,he⟩:=n9_.1 hy
      exact n9_.2 ⟨x,List.mem_of_mem_take hx,e,he⟩)
    (λs hI=>by
      obtain ⟨hI,rfl⟩:=hI
      rw [List.take_length]at hI
      refine ⟨_,?_,rfl⟩
      have hlen:(wM (vT E l)).length<=281474976710656:=by
        by_cases c:vT E l=[]
        · rw [c];simp [wM]
        obtain ⟨x,hx,e,he,_,hq⟩:=n9_.1 (nd_ c)
        have h3:=hl.out x hx
        have h4:=h.eo e he
        rw [hq,fU];omega
      rw [List.take_length]
      show QD l x0 _ _ l.length=_
      unfold QD VY
      rw [bQ (by omega),if_neg (λq=>q hI),qj_ hlen,gJ]
      by_cases c:4096<(wM (vT E l)).length
      · rw [if_pos c,if_pos c];rfl
      rw [if_neg c,if_neg c];rfl) (s0:=(false,[])) ⟨by intro x hx;simp [vT]at hx,rfl⟩
  rw [<-h2];exact h1
theorem beh_in {n : Nat} {A : List Arc} {E : List Tip} {x0 : Maker} (h : Knows n A E x0) {l : List Tip} (hl : RowOk n l) (b : UInt8) {k : Nat} (hk : k < l.length) (P : List Tip) (hP : P.length + A.length <= 100000000000) :
    bC (λq:(List Tip)×Nat=>NC x0 l k b q.1 q.2) (P,0)=some (.inl (P++Ry A b (nth l k aG),k+1)):=by
  have hm:=vU aG hk
  have hs:=hl.st _ hm
  have ho:=hl.out _ hm
  have hg:=h.arcs.at hs.1 hs.2
  rw [List.map_id]at hg
  have hga: ∀a∈nth x0.arcs (nth l k aG).state.toNat [],a.out.length<=1024:=by
    rw [hg];intro a ha;exact h.ao a (List.mem_filter.1 ha).1
  have hgl:(nth x0.arcs (nth l k aG).state.toNat []).length<=A.length:=by rw [hg];exact List.length_filter_le _ _
  have hX:Ry A b (nth l k aG)=((nth x0.arcs (nth l k aG).state.toNat []).filter λa=>a.set.has b.toNat).map λa=>⟨a.to,(nth l k aG).out++em a b⟩:=by rw [hg];rfl
  rw [hX]
  obtain ⟨r,h1,h2⟩:=kM (step:=λq:(List Tip)×Nat=>NC x0 l k b q.1 q.2) (λs j=>(s,j)) (nth x0.arcs (nth l k aG).state.toNat []).length
    (λj s=>s=P++(((nth x0.arcs (nth l k aG).state.toNat []).take j).filter λa=>a.set.has b.toNat).map λa=>⟨a.to,(nth l k aG).out++em a b⟩)
    (λr=>r= .inl (P++((nth x0.arcs (nth l k aG).state.toNat []).filter λa=>a.set.has b.toNat).map λa=>⟨a.to,(nth l k aG).out++em a b⟩,k+1))
    (λj s hj hI=>by
      subst hI
      have hoj:=hga _ (vU aZ hj)
      have hpl:(P++(((nth x0.arcs (nth l k aG).state.toNat []).take j).filter λa=>a.set.has b.toNat).map λa=>(⟨a.to,(nth l k aG).out++em a b⟩:Tip)).length<=100000000000:=by
        rw [fU,List.length_map]
        have h3:=List.length_filter_le (λa:Arc=>a.set.has b.toNat) ((nth x0.arcs (nth l k aG).state.toNat []).take j)
        rw [List.length_take]at h3
        omega
      refine .inl ⟨_,?_,rfl⟩
      rw [yw _ hj aZ,List.filter_append,List.map_append,<-qA]
      generalize P++(((nth x0.arcs (nth l k aG).state.toNat []).take j).filter λa=>a.set.has b.toNat).map (λa=>(⟨a.to,(nth l k aG).out++em a b⟩:Tip))=S at hpl ⊢
      show NC x0 l k b S j=_
      unfold NC ZA Cr_
      rw [bV (by omega)]
      generalize nth (nth x0.arcs (nth l k aG).state.toNat []) j aZ=a at hoj ⊢
      cases c:a.set.has b.toNat with
      |false=>
        rw [zi]
        simp [c,nxt]
      |true=>
        rw [vJ,aH (by omega)]
        cases d:a.copy with
        |true=>
          rw [iteO_true,aH (by simp;omega),aH (by simp;omega)]
          unfold ZA
          simp [c,d,nxt,em]
        |false=>
          rw [iteO_false,aH (by simp;omega)]
          unfold ZA
          simp [c,d,nxt,em])
    (λs hI=>by
      subst hI
      refine ⟨_,?_,rfl⟩
      rw [List.take_length]
      show NC x0 l k b _ _=_
      unfold NC
      rw [bQ (by omega)];rfl) (s0:=P) (by simp)
  rw [<-h2];exact h1
theorem beh_ok{n:Nat}{A:List Arc}{E:List Tip}{x0:Maker}(h:Knows n A E x0){l:List Tip}(hl:RowOk n l)(b:UInt8):Dg_ x0 l b=some (uZ A l b):=by
  unfold Dg_
  have hal:=h.al
  have hll:=hl.len
  obtain ⟨r,h1,h2⟩:=kM (step:=λq:(List Tip)×Nat=>QL l x0 b q.1 q.2) (λs k=>(s,k)) l.length (λk s=>s=uZ A (l.take k) b) (λr=>r=uZ A l b)
    (λk s hk hI=>by
      subst hI
      have hs:=hl.st _ (vU aG hk)
      refine .inl ⟨_,?_,rfl⟩
      have hb:=p0_ A b (l.take k)
      have h3:(l.take k).length * A.length<=1000000 * 16384:=Nat.mul_le_mul (by rw [List.length_take];omega) hal
      show QL l x0 b _ k=_
      unfold QL
      rw [bV (by omega),aH ⟨hs.1,by rw [h.arcs.len];exact hs.2⟩,beh_in h hl b hk (uZ A (l.take k) b) (by omega),yw l hk aG,xr_])
    (λs hI=>by
      subst hI
      refine ⟨_,?_,rfl⟩
      rw [List.take_length]
      show QL l x0 b _ l.length=_
      unfold QL
      rw [bQ (by omega)];rfl) (s0:=[]) rfl
  rw [<-h2];exact h1
end Go.Proofs.YtchebnpdnfhenaaGreatDoor
end

noncomputable section
namespace Go.Proofs.YtchebnpdnfhenaaGreatDoor
open Go Go.E
end Go.Proofs.YtchebnpdnfhenaaGreatDoor
end

noncomputable section
namespace Go.Proofs.YtchebnpdnfhenaaGreatDoor
open Go Go.E
def VZ (A : List Arc) (most : Int) (l : List Tip) (b : UInt8) (R : List (List Tip)) : Int ⊕ (List (List Tip) × Int × T_1) :=
  if uZ A l b=[] then .inr (R, -1,[]) else
  match Ir (uZ A l b)with
  | .inl k=> .inl k
  | .inr (f,r)=>match M_ most R r with
    | .inl k=> .inl k
    | .inr (i,R')=> .inr (R',((i:Nat):Int),f)
def Et (A : List Arc) (most : Int) (l : List Tip) (R : List (List Tip)) : Nat -> Int ⊕ (List (List Tip) × ak × aB)
  |0=> .inr (R,[],[])
  | k + 1 => match Et A most l R k with
    | .inl e=> .inl e
    | .inr (R1,N,O)=>match VZ A most l (qK ((k:Nat):Int)) R1 with
      | .inl e=> .inl e
      | .inr (R2,z,o)=> .inr (R2,N++[z],O++[o])
def Oi(q:Seq)(N:ak)(O:aB)(b:Bool)(t:T_1):Seq:=⟨q.front,q.next++[N],q.outs++[O],q.fin++[b],q.tail++[t]⟩
def doD (A : List Arc) (E : List Tip) (most : Int) (l : List Tip) (R : List (List Tip)) (q : Seq) : Int ⊕ (List (List Tip) × Seq) :=
  match VY E l with
  | .inl e=> .inl e
  | .inr (b,t)=>match Et A most l R 256 with
    | .inl e=> .inl e
    | .inr (R',N,O)=> .inr (R',Oi q N O b t)
def allD (A : List Arc) (E : List Tip) (most : Int) : Nat -> Nat -> List (List Tip) -> Seq -> Int ⊕ (List (List Tip) × Seq)
  |0,_,R,q=> .inr (R,q)
  | g + 1, s, R, q => if s < R.length then
      match doD A E most (nth R s []) R q with
      | .inl e=> .inl e
      | .inr (R',q')=>allD A E most g (s+1) R' q'
    else .inr (R,q)
def ofT(t:Fst)(most:Int):Int⊕(List (List Tip)×Seq):=
  if t.starts=[] then .inr ([],Seq.zero) else
  match Ir t.starts with
  | .inl e=> .inl e
  | .inr (f,l)=>allD t.arcs t.ends most 1025 0 [l] ⟨f,[],[],[],[]⟩
def ofR:Int⊕(List (List Tip)×Seq)->Seq×Int
  | .inl e=>(Seq.zero,e)
  | .inr (_,q)=>(q,0)
theorem w9_{n:Int}(hn:0<=n){l:List Tip}(h:l.Pairwise λx y=>x.state<y.state)(hs: ∀x∈l,0<=x.state/\x.state<n):(l.length:Int)<=n:=by
  have h1:(l.map λx=>x.state.toNat).Nodup:=by
    rw [List.Nodup,List.pairwise_map]
    refine h.imp_of_mem λ{a b} ha hb q e=> ?_
    have h2:=(hs a ha).1
    have h3:=(hs b hb).1
    omega
  have h2:=Z4 h1 (m:=List.range n.toNat) λx hx=>by
    obtain ⟨y,hy,rfl⟩:=List.mem_map.1 hx
    have:=hs y hy
    rw [List.mem_range];omega
  rw [List.length_map,List.length_range]at h2
  omega
theorem dup_inc {l : List Tip} (h : l.Pairwise λx y => nG x y < 0) (hd : ¬ Fh l = true) : l.Pairwise λx y => x.state < y.state := by
  have key: ∀l:List Tip,(l.Pairwise λx y=>nG x y<0)-> ¬ Fh l=true->l.Pairwise λx y=>x.state<y.state:=by
    intro l
    induction l with
    |nil=>intro _ _;exact List.Pairwise.nil
    |cons a l ih=>
      intro h hd
      rw [List.pairwise_cons]at h
      cases l with
      |nil=>simp
      |cons b l=>
        rw [Fh,Bool.or_eq_true,lg]at hd
        have h1:=ih h.2 (λq=>hd (.inr q))
        refine List.pairwise_cons.2 ⟨λx hx=> ?_,h1⟩
        have hab:a.state<b.state:=by
          have h2:=h.1 b (ji ..)
          have h3:a.state≠b.state:=λq=>hd (.inl q)
          unfold nG qL Fg at h2
          repeat' split at h2
          all_goals omega
        rcases List.mem_cons.1 hx with rfl|hx
        · exact hab
        have:=(List.pairwise_cons.1 h1).1 x hx
        omega
  exact key l h hd
theorem strip_row{n:Int}(hn:0<=n/\n<=1024){l:List Tip}(hs: ∀x∈l,0<=x.state/\x.state<n){f:T_1}{r:List Tip}(h:Ir l= .inr (f,r)):
    RowOk n r/\f.length<=4096/\(∀x,x∈r↔ ∃y∈l,y.state=x.state/\y.out=f++x.out)/\f=iZ (l.map Tip.out):=by
  rw [u0_]at h
  by_cases c1:Fh (tH aG nG l)=true
  · rw [if_pos c1]at h;cases h
  rw [if_neg c1]at h
  by_cases c2:4096<(iZ (l.map Tip.out)).length
  · rw [if_pos c2]at h;cases h
  rw [if_neg c2]at h
  by_cases c3: ∃x∈tH aG nG l,4096<(x.out.drop (iZ (l.map Tip.out)).length).length
  · rw [if_pos c3]at h;cases h
  rw [if_neg c3]at h
  cases h
  have hso: ∀x∈tH aG nG l,0<=x.state/\x.state<n:=λx hx=>hs x ((Dw ..).1 hx)
  have hinc:=dup_inc (he_ Pv l) c1
  have hlen:=w9_ hn.1 hinc hso
  refine ⟨⟨by rw [List.length_map];omega,?_,λx hx=> ?_,λx hx=> ?_⟩,by omega,λx=> ?_,rfl⟩
  · rw [List.pairwise_map];exact hinc
  · obtain ⟨y,hy,rfl⟩:=List.mem_map.1 hx
    exact hso y hy
  · obtain ⟨y,hy,rfl⟩:=List.mem_map.1 hx
    exact Nat.le_of_not_lt λq=>c3 ⟨y,hy,q⟩
  rw [List.mem_map]
  constructor
  · rintro ⟨y,hy,rfl⟩
    have hm:=(Dw ..).1 hy
    refine ⟨y,hm,rfl,?_⟩
    obtain ⟨u,hu⟩:=Ls (List.mem_map.2 ⟨y,hm,rfl⟩:y.out∈l.map Tip.out)
    show y.out=_++y.out.drop _
    rw [<-hu,List.drop_left]
  rintro ⟨y,hy,h1,h2⟩
  refine ⟨y,(Dw ..).2 hy,?_⟩
  unfold yV
  rw [h1,h2,List.drop_left]
theorem beh_st{n:Int}{A:List Arc}(hA: ∀a∈A,0<=a.to/\a.to<n)(l:List Tip)(b:UInt8): ∀x∈uZ A l b,0<=x.state/\x.state<n:=λx hx=>by
  obtain ⟨y,_,a,ha,_,_,rfl⟩:=ue_.1 hx
  exact hA a ha
theorem aaa_{n:Int}{A:List Arc}(hA: ∀a∈A,a.out.length<=1024){l:List Tip}(hl:RowOk n l)(b:UInt8): ∀x∈uZ A l b,x.out.length<=281474976710656:=λx hx=>by
  obtain ⟨y,hy,a,ha,_,_,rfl⟩:=ue_.1 hx
  have h1:=hl.out y hy
  have h2:=hA a ha
  show (y.out++em a b).length<=_
  unfold em
  rw [fU]
  split
  · rw [fU,jZ];omega
  omega
theorem oe_{α:Type}(l:List α)(m:Nat)(x z:α)(h:l.length<m):(l++List.replicate (m - l.length) z).set l.length x=(l++[x])++List.replicate (m - (l++[x]).length) z:=by
  rw [List.set_append_right _ _ (Nat.le_refl _),Nat.sub_self,fU,jZ,show m - l.length=(m - (l.length+1))+1 by omega,List.replicate_succ,List.set_cons_zero]
  simp
theorem Is_{α:Type}(l:List α)(i:Nat)(x y:α):(l.set i x).set i y=l.set i y:=by simp
structure Fits (n:Nat) (A:List Arc) (E:List Tip) (x:Maker):Prop extends Knows n A E x where
  to: ∀a∈A,0<=a.to/\a.to<(n:Int)
  few:n * A.length<=1000000
  m1:1<=x.most
  m2:x.most<=1024
theorem v6_{most:Int}{R R':List (List Tip)}{r:List Tip}{i:Nat}(h:M_ most R r= .inr (i,R'))(hR:(R.length:Int)<=most):(R'.length:Int)<=most/\(∃X,R'=R++X)/\i<R'.length/\nth R' i []=r:=by
  unfold M_ at h
  by_cases c:r∈R
  · rw [if_pos c]at h;cases h
    exact ⟨hR,⟨[],(List.append_nil _).symm⟩,rf_ c,xh_ c⟩
  rw [if_neg c]at h
  by_cases d:most<=(R.length:Int)
  · rw [if_pos d]at h;cases h
  rw [if_neg d]at h;cases h
  exact ⟨by simp;omega,⟨_,rfl⟩,by simp,LC R r []⟩
theorem zk_{A:List Arc}{most:Int}{l:List Tip}{b:UInt8}{R R':List (List Tip)}{z:Int}{o:T_1}(h:VZ A most l b R= .inr (R',z,o))(hR:(R.length:Int)<=most):(R'.length:Int)<=most/\ ∃X,R'=R++X:=by
  unfold VZ at h
  by_cases c:uZ A l b=[]
  · rw [if_pos c]at h;cases h
    exact ⟨hR,[],(List.append_nil _).symm⟩
  rw [if_neg c]at h
  split at h
  · cases h
  split at h
  · cases h
  rename_i q;cases h
  have:=v6_ q hR
  exact ⟨this.1,this.2.1⟩
theorem kx_{A:List Arc}{most:Int}{l:List Tip}{R:List (List Tip)}(hR:(R.length:Int)<=most): ∀{k:Nat} {R':List (List Tip)} {N:ak} {O:aB},Et A most l R k= .inr (R',N,O)->(R'.length:Int)<=most/\(∃X,R'=R++X)/\N.length=k/\O.length=k
  |0,R',N,O,h=>by cases h;exact ⟨hR,⟨[],(List.append_nil _).symm⟩,rfl,rfl⟩
  |k+1,R',N,O,h=>by
    rw [Et]at h
    split at h
    · cases h
    rename_i R1 N1 O1 q
    obtain ⟨h1,⟨X,h2⟩,h3,h4⟩:=kx_ hR q
    split at h
    · cases h
    rename_i R2 z o q2
    cases h
    obtain ⟨h5,Y,h6⟩:=zk_ q2 h1
    exact ⟨h5,⟨X++Y,by rw [h6,h2,qA]⟩,by simp [h3],by simp [h4]⟩
end Go.Proofs.YtchebnpdnfhenaaGreatDoor
end

noncomputable section
namespace Go.Proofs.YtchebnpdnfhenaaGreatDoor
open Go Go.E
theorem qk_{β γ:Type}{key:β->Int}{val:β->γ}{n:Nat}{l:List (List γ)}{xs:List β}(h:Grp key val n l xs){i:Nat}(hi:i<n):(nth l i []).length<=xs.length:=by
  rw [h.row i hi,List.length_map];exact List.length_filter_le ..
theorem iw_{α:Type}(l:List α)(k:Nat):(l.take k).length<=l.length:=by rw [List.length_take];omega
theorem wg_{t:Fst}(ht:FstOk t): ∃on bk,Ei_ t=some (t,on,bk)/\Grp Arc.frm Arc.to t.states.toNat on t.arcs/\Grp Arc.to Arc.frm t.states.toNat bk t.arcs:=by
  have h0:=ht.st0
  have h1:=ht.st1
  have hN:=ht.arcsN
  unfold Ei_ Eg_
  rw [aH ⟨h0,by omega⟩,aH ⟨h0,by omega⟩]
  obtain ⟨r,h2,on,bk,rfl,h3,h4⟩:=zd_ (step:=λq:bW×bW×Nat=>QA t q.1 q.2.1 q.2.2) (λ(s:bW×bW) k=>(s.1,s.2,k)) t.arcs aZ
    (λpre s=>Grp Arc.frm Arc.to t.states.toNat s.1 pre/\Grp Arc.to Arc.frm t.states.toNat s.2 pre)
    (λr=> ∃on bk,r=(t,on,bk)/\Grp Arc.frm Arc.to t.states.toNat on t.arcs/\Grp Arc.to Arc.frm t.states.toNat bk t.arcs)
    (λk s hk ⟨a1,a2⟩=>by
      obtain ⟨b1,b2,b3,b4⟩:=ht.arcs _ (vU aZ hk)
      have l1:=a1.len
      have l2:=a2.len
      have r1:=qk_ a1 (i:=(nth t.arcs k aZ).frm.toNat) (by omega)
      have r2:=qk_ a2 (i:=(nth t.arcs k aZ).to.toNat) (by omega)
      have r3:=iw_ t.arcs k
      refine .inl ⟨(s.1.set (nth t.arcs k aZ).frm.toNat (nth s.1 (nth t.arcs k aZ).frm.toNat []++[(nth t.arcs k aZ).to]),s.2.set (nth t.arcs k aZ).to.toNat (nth s.2 (nth t.arcs k aZ).to.toNat []++[(nth t.arcs k aZ).frm])),?_,a1.snoc b1.1 (by omega),a2.snoc b2.1 (by omega)⟩
      show QA t s.1 s.2 k=_
      unfold QA Ee_
      rw [bV (by omega),aH ⟨b1.1,by omega⟩,aH (by simp only [jZ];omega),aH ⟨b1.1,by omega⟩,aH ⟨b2.1,by omega⟩,aH (by simp only [jZ];omega),aH ⟨b2.1,by omega⟩]
      rfl)
    (λs hI=>⟨(t,s.1,s.2),by
      show QA t s.1 s.2 t.arcs.length=_
      unfold QA
      rw [bQ (by omega)];rfl,s.1,s.2,rfl,hI.1,hI.2⟩)
    (s0:=(List.replicate t.states.toNat [],List.replicate t.states.toNat [])) ⟨Grp.nil ..,Grp.nil ..⟩
  exact ⟨on,bk,h2,h3,h4⟩
theorem zz_{t:Fst}(ht:FstOk t){key val:Arc->Int}{l:bW}(h:Grp key val t.states.toNat l t.arcs)(hk: ∀a∈t.arcs,0<=key a/\key a<t.states):stE l=λa b=> ∃x∈t.arcs,key x=a/\val x=b:=by
  funext a b
  refine propext ⟨λ⟨h0,hb⟩=> ?_,λ⟨x,hx,h1,h2⟩=> ?_⟩
  · have hlt:a.toNat<t.states.toNat:=by
      have:=h.len
      by_cases hl:a.toNat<l.length
      · omega
      unfold nth at hb
      rw [List.getD_eq_getElem?_getD,List.getElem?_eq_none (by omega)]at hb
      simp at hb
    rw [h.row _ hlt,List.mem_map]at hb
    obtain ⟨x,hx,e⟩:=hb
    have:=List.mem_filter.1 hx
    exact ⟨x,this.1,by have:=jk this.2;omega,e⟩
  have:=hk x hx
  refine ⟨by omega,?_⟩
  rw [h.row _ (by omega),List.mem_map]
  exact ⟨x,List.mem_filter.2 ⟨hx,decide_eq_true (by omega)⟩,h2⟩
theorem v8_{t:Fst}{key val:Arc->Int}{l:bW}(h:Grp key val t.states.toNat l t.arcs)(hk: ∀a∈t.arcs,0<=val a/\val a<t.states): ∀a, ∀z∈nth l a [],0<=z/\z<t.states.toNat:=λa z hz=>by
  have hl:=h.len
  by_cases ha:a<t.states.toNat
  · rw [h.row _ ha,List.mem_map]at hz
    obtain ⟨x,hx,rfl⟩:=hz
    have:=hk x (List.mem_filter.1 hx).1
    omega
  unfold nth at hz
  rw [List.getD_eq_getElem?_getD,List.getElem?_eq_none (by omega)]at hz
  simp at hz
def wr_(p:Nat->Bool)(n:Nat)(num:ak):Prop:=num.length=n/\ ∀s:Int,0<=s->s<n->nth num s.toNat 0=pz p s
theorem px_(p:Nat->Bool)(l:List Tip)(k:Nat)(h:k<l.length):yu p (l.take (k+1))=yu p (l.take k)++(if 0<=pz p (nth l k aG).state then [⟨pz p (nth l k aG).state,(nth l k aG).out⟩] else []):=by
  rw [yw l h aG]
  unfold yu
  rw [List.filterMap_append]
  congr 1
  by_cases hc:0<=pz p (nth l k aG).state
  · rw [List.filterMap_cons,if_pos hc,if_pos hc];rfl
  rw [List.filterMap_cons,if_neg hc,if_neg hc];rfl
theorem u4_(p:Nat->Bool)(l:List Arc)(k:Nat)(h:k<l.length):Aw p (l.take (k+1))=Aw p (l.take k)++(if 0<=pz p (nth l k aZ).frm/\0<=pz p (nth l k aZ).to then [⟨pz p (nth l k aZ).frm,pz p (nth l k aZ).to,(nth l k aZ).set,(nth l k aZ).out,(nth l k aZ).copy⟩] else []):=by
  rw [yw l h aZ]
  unfold Aw
  rw [List.filterMap_append]
  congr 1
  by_cases hc:0<=pz p (nth l k aZ).frm/\0<=pz p (nth l k aZ).to
  · rw [List.filterMap_cons,if_pos hc,if_pos hc];rfl
  rw [List.filterMap_cons,if_neg hc,if_neg hc];rfl
theorem v0_{t:Fst}(ht:FstOk t){p:Nat->Bool}{num:ak}(hn:wr_ p t.states.toNat num)(c:Nat)(S E:List Tip):
    bC (λq:List Arc×Nat=>QE t num c S E q.1 q.2) (([]:List Arc),0)=bnd (MB ⟨(c:Int),S,E,Aw p t.arcs⟩) (λv=>some (v.1,v.2)):=by
  have hN:=ht.arcsN
  obtain ⟨r,hr⟩: ∃r,bnd (MB ⟨(c:Int),S,E,Aw p t.arcs⟩) (λv=>some (v.1,v.2))=some r:=by rw [p3_];exact ⟨_,rfl⟩
  rw [hr]
  refine nh_ t.arcs aZ (λk=>Aw p (t.arcs.take k)) (λk hk=> ?_) ?_
  · obtain ⟨b1,b2,b3,b4⟩:=ht.arcs _ (vU aZ hk)
    have hl:=rw_ p (t.arcs.take k)
    have r3:=iw_ t.arcs k
    have e1:=hn.2 _ b1.1 (by omega)
    have e2:=hn.2 _ b2.1 (by omega)
    have l1:=hn.1
    show QE t num c S E _ k=_
    unfold QE Dm_
    rw [bV (by omega),aH ⟨b1.1,by omega⟩,aH ⟨b2.1,by omega⟩,e1,e2,u4_ p _ k hk]
    by_cases c1:0<=pz p (nth t.arcs k aZ).frm
    · rw [bV c1]
      by_cases c2:0<=pz p (nth t.arcs k aZ).to
      · rw [bV c2,if_pos ⟨c1,c2⟩,aH (by simp only [jZ];omega)];rfl
      rw [bQ c2,if_neg (λh=>c2 h.2),List.append_nil];rfl
    rw [bQ c1,if_neg (λh=>c1 h.1),List.append_nil];rfl
  show QE t num c S E _ _=_
  unfold QE
  rw [bQ (by omega),List.take_length,hr];rfl
theorem wv_{t:Fst}(ht:FstOk t){p:Nat->Bool}{num:ak}(hn:wr_ p t.states.toNat num)(c:Nat)(S:List Tip):
    bC (λq:List Tip×Nat=>QH t num c S q.1 q.2) (([]:List Tip),0)=bnd (MB ⟨(c:Int),S,yu p t.ends,Aw p t.arcs⟩) (λv=>some (v.1,v.2)):=by
  have hN:=ht.endsN
  obtain ⟨r,hr⟩: ∃r,bnd (MB ⟨(c:Int),S,yu p t.ends,Aw p t.arcs⟩) (λv=>some (v.1,v.2))=some r:=by rw [p3_];exact ⟨_,rfl⟩
  rw [hr]
  refine nh_ t.ends aG (λk=>yu p (t.ends.take k)) (λk hk=> ?_) ?_
  · obtain ⟨b1,b2⟩:=ht.ends _ (vU aG hk)
    have hl:=ks_ p (t.ends.take k)
    have r3:=iw_ t.ends k
    have e1:=hn.2 _ b1.1 (by omega)
    have l1:=hn.1
    show QH t num c S _ k=_
    unfold QH D9_
    rw [bV (by omega),aH ⟨b1.1,by omega⟩,e1,px_ p _ k hk]
    by_cases c1:0<=pz p (nth t.ends k aG).state
    · rw [bV c1,if_pos c1,aH (by simp only [jZ];omega)];rfl
    rw [bQ c1,if_neg c1,List.append_nil];rfl
  show QH t num c S _ _=_
  unfold QH
  rw [bQ (by omega),List.take_length,v0_ ht hn,hr];rfl
theorem sv_{t:Fst}(ht:FstOk t){p:Nat->Bool}{num:ak}(hn:wr_ p t.states.toNat num)(c:Nat):
    bC (λq:List Tip×Nat=>QJ t num c q.1 q.2) (([]:List Tip),0)=bnd (MB ⟨(c:Int),yu p t.starts,yu p t.ends,Aw p t.arcs⟩) (λv=>some (v.1,v.2)):=by
  have hN:=ht.startsN
  obtain ⟨r,hr⟩: ∃r,bnd (MB ⟨(c:Int),yu p t.starts,yu p t.ends,Aw p t.arcs⟩) (λv=>some (v.1,v.2))=some r:=by rw [p3_];exact ⟨_,rfl⟩
  rw [hr]
  refine nh_ t.starts aG (λk=>yu p (t.starts.take k)) (λk hk=> ?_) ?_
  · obtain ⟨b1,b2⟩:=ht.starts _ (vU aG hk)
    have hl:=ks_ p (t.starts.take k)
    have r3:=iw_ t.starts k
    have e1:=hn.2 _ b1.1 (by omega)
    have l1:=hn.1
    show QJ t num c _ k=_
    unfold QJ D8_
    rw [bV (by omega),aH ⟨b1.1,by omega⟩,e1,px_ p _ k hk]
    by_cases c1:0<=pz p (nth t.starts k aG).state
    · rw [bV c1,if_pos c1,aH (by simp only [jZ];omega)];rfl
    rw [bQ c1,if_neg c1,List.append_nil];rfl
  show QJ t num c _ _=_
  unfold QJ
  rw [bQ (by omega),List.take_length,wv_ ht hn,hr];rfl
theorem wq_ {t : Fst} (ht : FstOk t) {on bk : bW} (h1 : Grp Arc.frm Arc.to t.states.toNat on t.arcs) (h2 : Grp Arc.to Arc.frm t.states.toNat bk t.arcs) {l0 : ak} (hl0 : l0.length = t.states.toNat) (hm : ∀ i, i < t.states.toNat -> nth l0 i 0 = -1) :
    ∃num,Dx_ (MW (λ(q:ak×Nat) (x:Int)=>Vj q.1 q.2 x)) (0,(l0,0)) (⟨t.states,t.starts,t.ends,t.arcs⟩:Fst) on bk=some (0,(num,jv (mD t) t.states.toNat))/\wr_ (mD t) t.states.toNat num:=by
  have h0:=ht.st0
  have hs1:=ht.st1
  obtain ⟨ah,a1,a2,a3⟩:=tm_ (tips:=t.starts) (by omega) h1.len (v8_ h1 λa ha=>(ht.arcs a ha).2.1) (λx hx=>by have:=(ht.starts x hx).1;omega)
  obtain ⟨be,b1,b2,b3⟩:=tm_ (tips:=t.ends) (by omega) h2.len (v8_ h2 λa ha=>(ht.arcs a ha).1) (λx hx=>by have:=(ht.ends x hx).1;omega)
  rw [zz_ ht h1 λa ha=>(ht.arcs a ha).1]at a3
  rw [zz_ ht h2 λa ha=>(ht.arcs a ha).2.1]at b3
  have hp: ∀v,mD t v=(nth ah v false && nth be v false):=λv=>by
    rw [Bool.eq_iff_iff,Bool.and_eq_true,a3 v,b3 v];exact uk_
  unfold Dx_
  rw [yH a1,yH b1]
  obtain ⟨r,e,f⟩:=kM (step:=λq:Nat×(Nat×ak×Nat)=>QC ah be (MW (λ(q:ak×Nat) (x:Int)=>Vj q.1 q.2 x)) q.1 q.2) (λ(s:Nat×ak×Nat) k=>(k,s)) t.states.toNat
    (λk s=>s.1=0/\s.2.2=jv (mD t) k/\s.2.1.length=t.states.toNat/\ ∀i,i<t.states.toNat->nth s.2.1 i 0=if i<k then pz (mD t) i else -1)
    (λr=>r.1=0/\r.2.2=jv (mD t) t.states.toNat/\wr_ (mD t) t.states.toNat r.2.1)
    (λk s hk ⟨c1,c2,c3,c4⟩=>by
      obtain ⟨j,l,c⟩:=s
      obtain rfl:j=0:=c1
      obtain rfl:c=jv (mD t) k:=c2
      dsimp only at c3 c4
      refine .inl ?_
      show ∃s':Nat×ak×Nat,QC ah be _ k (0,l,jv (mD t) k)=_/\_
      unfold QC Cn_
      rw [bV (by omega)]
      have hk':=hp k
      cases ha:nth ah k false with
      |false=>
        rw [ha,Bool.false_and]at hk'
        refine ⟨(0,l,jv (mD t) k),rfl,rfl,by simp only [jv,hk'];rfl,c3,λi hi=> ?_⟩
        dsimp only
        rw [c4 i hi]
        by_cases e1:i<k
        · rw [if_pos e1,if_pos (by omega)]
        rw [if_neg e1]
        by_cases e2:i<k+1
        · obtain rfl:i=k:=by omega
          rw [if_pos e2];unfold pz;simp [hk']
        rw [if_neg e2]
      |true=>
        rw [iteO_true,aH (by omega)]
        cases hb:nth be k false with
        |false=>
          rw [ha,hb,Bool.true_and]at hk'
          refine ⟨(0,l,jv (mD t) k),rfl,rfl,by simp only [jv,hk'];rfl,c3,λi hi=> ?_⟩
          dsimp only
          rw [c4 i hi]
          by_cases e1:i<k
          · rw [if_pos e1,if_pos (by omega)]
          rw [if_neg e1]
          by_cases e2:i<k+1
          · obtain rfl:i=k:=by omega
            rw [if_pos e2];unfold pz;simp [hk']
          rw [if_neg e2]
        |true=>
          rw [ha,hb,Bool.true_and]at hk'
          have hy:MW (λ(q:ak×Nat) (x:Int)=>Vj q.1 q.2 x) (0,l,jv (mD t) k) ((k:Nat):Int)=some ((0,l.set k ((jv (mD t) k:Nat):Int),jv (mD t) k+1),true):=by
            unfold MW
            rw [if_pos rfl]
            show (Vj l (jv (mD t) k) ((k:Nat):Int)).bind _=_
            unfold Vj
            have hself:=Po (mD t) k
            rw [aH ⟨by omega,by omega⟩,aH (by omega)];rfl
          rw [iteO_true,yH hy]
          refine ⟨(0,l.set k ((jv (mD t) k:Nat):Int),jv (mD t) k+1),rfl,rfl,by simp only [jv,hk',if_true],by rw [fQ];exact c3,λi hi=> ?_⟩
          dsimp only
          rw [jP]
          by_cases e1:k=i
          · subst e1
            rw [if_pos ⟨rfl,by omega⟩,if_pos (by omega),k5_ (by simpa using hk')];simp
          rw [if_neg (λh=>e1 h.1),c4 i hi]
          by_cases e2:i<k
          · rw [if_pos e2,if_pos (by omega)]
          rw [if_neg e2,if_neg (by omega)])
    (λs ⟨c1,c2,c3,c4⟩=>⟨s,by
      show QC ah be _ _ s=_
      unfold QC
      rw [bQ (by omega)];rfl,c1,c2,c3,λv h1 h2=>by
        rw [c4 _ (by omega),if_pos (by omega),show ((v.toNat:Nat):Int)=v by omega]⟩)
    (s0:=(0,l0,0)) ⟨rfl,rfl,hl0,λi hi=>by rw [if_neg (by omega)];exact hm i hi⟩
  obtain ⟨j,num,c⟩:=r
  obtain ⟨f1,f2,f3⟩:=f
  dsimp only at f1 f2 f3
  subst f1 f2
  exact ⟨num,e,f3⟩
def DI(t:Fst):Fst:=srt (ZF (mD t) t)
theorem ok_rng{t:Fst}(ht:FstOk t):Rng t:=⟨λx hx=>(ht.starts x hx).1,λx hx=>(ht.ends x hx).1,λx hx=>⟨(ht.arcs x hx).1,(ht.arcs x hx).2.1⟩⟩
theorem vo_{t:Fst}(ht:FstOk t):FstOk (ZF (mD t) t):=by
  have hr:=zj_ (t:=t) (r:=ZF (mD t) t) (λ_=>Iff.rfl) (λ_=>Iff.rfl) (λ_=>Iff.rfl) rfl (ok_rng ht)
  have h1:=ht.st1
  have hc:=Po (mD t) t.states.toNat
  have l1:=ks_ (mD t) t.starts
  have l2:=ks_ (mD t) t.ends
  have l3:=rw_ (mD t) t.arcs
  refine ⟨by show (0:Int)<=((jv (mD t) t.states.toNat:Nat):Int);omega,by have:=ht.st0;show ((jv (mD t) t.states.toNat:Nat):Int)<=1024;omega,Nat.le_trans l3 ht.arcsN,Nat.le_trans l1 ht.startsN,Nat.le_trans l2 ht.endsN,λy hy=>⟨hr.starts y hy,?_⟩,λy hy=>⟨hr.ends y hy,?_⟩,λy hy=>⟨(hr.arcs y hy).1,(hr.arcs y hy).2,?_⟩⟩
  · obtain ⟨x,hx,_,rfl⟩:=j9_.1 hy;exact (ht.starts x hx).2
  · obtain ⟨x,hx,_,rfl⟩:=j9_.1 hy;exact (ht.ends x hx).2
  obtain ⟨x,hx,_,_,rfl⟩:=rg_.1 hy;exact (ht.arcs x hx).2.2
theorem trim_eq (t : Fst) : Fg_ t = some (if Aq t = true then (DI t, 0) else (⟨0, [], [], []⟩, 1)) := by
  unfold Fg_
  rw [F5_,bnd,Option.bind_some,xt_]
  by_cases h:Aq t=true
  · have ht:=(kw_ t).1 h
    have h0:=ht.st0
    have h1:=ht.st1
    rw [h,Bool.not_true,iteO_false,aH ⟨h0,by omega⟩,if_pos rfl]
    obtain ⟨r,e,rfl⟩:=kM (step:=λq:ak×Nat=>Qu t q.1 q.2) (λ(l:ak) k=>(l,k)) t.states.toNat
      (λk l=>l.length=t.states.toNat/\ ∀i,i<k->nth l i 0= -1) (λr=>r=(DI t,0))
      (λk l hk ⟨c1,c2⟩=> .inl ⟨l.set k (-1),by
        show Qu t l k=_
        unfold Qu
        rw [rU,bV (by omega),aH (by omega)];rfl,by rw [fQ];exact c1,λi hi=>by
          rw [jP]
          by_cases e1:k=i
          · rw [if_pos ⟨e1,by omega⟩]
          rw [if_neg (λh=>e1 h.1)];exact c2 i (by omega)⟩)
      (λl ⟨c1,c2⟩=>⟨(DI t,0),by
        obtain ⟨on,bk,u1,u2,u3⟩:=wg_ ht
        obtain ⟨num,v1,v2⟩:=wq_ ht u2 u3 c1 c2
        show Qu t l _=_
        unfold Qu
        rw [rU,bQ (by omega),yH u1]
        dsimp only
        rw [yH v1]
        unfold Fy_
        show fin (bC _ _)=_
        rw [sv_ ht v2,p3_]
        show fin (bnd (some (if Aq (ZF (mD t) t)=true then (srt (ZF (mD t) t),0) else _)) _)=_
        rw [if_pos ((kw_ _).2 (vo_ ht))];rfl,rfl⟩)
      (s0:=List.replicate t.states.toNat 0) ⟨rU ..,λi hi=>by omega⟩
    exact e
  simp only [Bool.not_eq_true]at h
  rw [h];rfl
theorem yq_{t:Fst}(ht:FstOk t):FstOk (DI t):=srt_ok (vo_ ht)
end Go.Proofs.YtchebnpdnfhenaaGreatDoor
end

noncomputable section
namespace Go.Proofs.YtchebnpdnfhenaaGreatDoor
open Go Go.E
theorem nz_{A:List Arc}{most:Int}{l:List Tip}{R:List (List Tip)}{e:Int}{k:Nat}(h:Et A most l R k= .inl e): ∀j,Et A most l R (k+j)= .inl e
  |0=>h
  |j+1=>by
    show Et A most l R (k+j+1)=_
    rw [Et,nz_ h j]
def DoQ(n:Int)(x0:Maker):Int⊕(List (List Tip)×Seq)->Int⊕Maker->Prop
  | .inl e,r=>r= .inl e
  | .inr (R',q'),r=> ∃m',r= .inr ⟨x0.arcs,x0.ends,x0.most,R',m',q'⟩/\Places n m' R'
theorem Fits.with'{n:Nat}{A:List Arc}{E:List Tip}{x:Maker}(h:Fits n A E x)(R:List (List Tip))(m:FM T_1 Int)(q:Seq):Fits n A E ⟨x.arcs,x.ends,x.most,R,m,q⟩:=
  ⟨⟨h.arcs,h.ends,h.al,h.ao,h.eo,h.hn⟩,h.to,h.few,h.m1,h.m2⟩
structure QOk (q:Seq) (k:Nat):Prop where
  n:q.next.length=k
  o:q.outs.length=k
  e:q.fin.length=k
  t:q.tail.length=k
theorem QOk.push{q:Seq}{k:Nat}(h:QOk q k)(N:ak)(O:aB)(b:Bool)(t:T_1):QOk (Oi q N O b t) (k+1):=⟨by simp [Oi,h.n],by simp [Oi,h.o],by simp [Oi,h.e],by simp [Oi,h.t]⟩
theorem do_ok {n : Nat} {A : List Arc} {E : List Tip} {x0 : Maker} (h : Fits n A E x0) (hp : Places n x0.places x0.rows) (hR : (x0.rows.length : Int) <= x0.most) {s : Nat} (hs : s < x0.rows.length) {c : Nat} (hq : QOk x0.q c) (hc : c <= 1024) :
    ∃r,El_ x0 ((s:Nat):Int)=some r/\DoQ n x0 (doD A E x0.most (nth x0.rows s []) x0.rows x0.q) r:=by
  have hl:RowOk n (nth x0.rows s []):=hp.ok _ (vU _ hs)
  have hn:=h.hn
  have hm2:=h.m2
  have hlen:(nth x0.rows s []).length<=n:=by
    have:=w9_ (by omega) hl.inc hl.st
    omega
  unfold El_ doD
  rw [aH (by omega),iT,tail_ok h.toKnows hl,gJ]
  cases htl:VY E (nth x0.rows s [])with
  |inl e=>exact ⟨_,rfl,rfl⟩
  | inr bt =>
    obtain ⟨bb,tt⟩:=bt
    show ∃r,Dn_ x0 ((s:Nat):Int) (bb,tt)=some r/\DoQ n x0 (match Et A x0.most (nth x0.rows s []) x0.rows 256 with| .inl e=> .inl e| .inr (R',N,O)=> .inr (R',Oi x0.q N O bb tt)) r
    unfold Dn_
    refine kM (step:=λq:(List (List Tip))×(FM T_1 Int)×ak×aB×Nat=>MI x0 ((s:Nat):Int) (bb,tt) q.1 q.2.1 q.2.2.1 q.2.2.2.1 q.2.2.2.2) (λ(z:List (List Tip)×FM T_1 Int×ak×aB) k=>(z.1,z.2.1,z.2.2.1,z.2.2.2,k)) 256
      (λk z=> ∃R N O,Et A x0.most (nth x0.rows s []) x0.rows k= .inr (R,N,O)/\Places n z.2.1 R/\z.1=R/\z.2.2.1=N++List.replicate (256 - N.length) 0/\z.2.2.2=O++List.replicate (256 - O.length) [])
      _ ?_ ?_ (s0:=(x0.rows,x0.places,List.replicate 256 0,List.replicate 256 [])) ⟨x0.rows,[],[],rfl,hp,rfl,by simp,by simp⟩
    · rintro k ⟨z1,m,z3,z4⟩ hk ⟨R,N,O,hb,hpl,e1,e3,e4⟩
      simp only at e1 e3 e4 hpl
      subst e1 e3 e4
      obtain ⟨hRl,⟨X,hX⟩,hN,hO⟩:=kx_ hR hb
      have hfit:=h.with' z1 m x0.q
      have hb1:Et A x0.most (nth x0.rows s []) x0.rows (k+1)=match VZ A x0.most (nth x0.rows s []) (qK ((k:Nat):Int)) z1 with| .inl e=> .inl e| .inr (R2,z,o)=> .inr (R2,N++[z],O++[o]):=by rw [Et,hb]<;>rfl
      have hbl:(uZ A (nth x0.rows s []) (qK ((k:Nat):Int))).length<=1000000:=by
        have h1:=p0_ A (qK ((k:Nat):Int)) (nth x0.rows s [])
        have h2:(nth x0.rows s []).length * A.length<=n * A.length:=Nat.mul_le_mul_right _ hlen
        have h3:=h.few
        omega
      have hkN:k<(N++List.replicate (256 - N.length) (0:Int)).length:=by simp;omega
      have hkO:k<(O++List.replicate (256 - O.length) ([]:T_1)).length:=by simp;omega
      have e1:(N++List.replicate (256 - N.length) (0:Int)).set k (-1)=(N++[-1])++List.replicate (256 - (N++[(-1:Int)]).length) 0:=by
        have:=oe_ N 256 (-1:Int) 0 (by omega)
        rwa [hN]at this ⊢
      have e2: ∀z:Int,((N++List.replicate (256 - N.length) (0:Int)).set k (-1)).set k z=(N++[z])++List.replicate (256 - (N++[z]).length) 0:=λz=>by
        rw [Is_]
        have:=oe_ N 256 z 0 (by omega)
        rwa [hN]at this ⊢
      have e3: ∀o:T_1,(O++List.replicate (256 - O.length) ([]:T_1)).set k o=(O++[o])++List.replicate (256 - (O++[o]).length) []:=λo=>by
        have:=oe_ O 256 o [] (by omega)
        rwa [hO]at this ⊢
      have hO1:O++List.replicate (256 - O.length) ([]:T_1)=(O++[[]])++List.replicate (256 - (O++[([]:T_1)]).length) []:=by
        rw [qA,fU,jZ,show 256 - O.length=(256 - (O.length+1))+1 by omega,List.replicate_succ];rfl
      -- the step
      have hst:MI x0 ((s:Nat):Int) (bb,tt) z1 m (N++List.replicate (256 - N.length) 0) (O++List.replicate (256 - O.length) []) k=
          aQ (decide (0<(((uZ A (nth x0.rows s []) (qK ((k:Nat):Int))).length:Nat):Int))) (bnd (some (Ir (uZ A (nth x0.rows s []) (qK ((k:Nat):Int))))) (λv41=>rV v41 (λv41k=>fin (some (.inl v41k))) (λv41r=>bnd (Iz (⟨x0.arcs,x0.ends,x0.most,z1,m,x0.q⟩:Maker) v41r.2) (λv52=>rV v52 (λv52k=>fin (some (.inl v52k))) (λv52r=>nxt (v52r.2.rows,v52r.2.places,((N++List.replicate (256 - N.length) (0:Int)).set k (-1)).set k v52r.1,(O++List.replicate (256 - O.length) []).set k v41r.1,k+1))))))
          (nxt (z1,m,(N++List.replicate (256 - N.length) (0:Int)).set k (-1),O++List.replicate (256 - O.length) [],k+1)):=by
        unfold MI
        rw [bV (by omega),aH hkN,iT,beh_ok hfit.toKnows hl,gJ,t6_ hbl (aaa_ h.ao hl _)]
        simp only [aH hkO,aH (show k<((N++List.replicate (256 - N.length) (0:Int)).set k (-1)).length by rw [fQ];exact hkN)]
      show (∃s':List (List Tip)×FM T_1 Int×ak×aB,MI x0 ((s:Nat):Int) (bb,tt) z1 m (N++List.replicate (256 - N.length) 0) (O++List.replicate (256 - O.length) []) k=some (.inl (s'.1,s'.2.1,s'.2.2.1,s'.2.2.2,k+1))/\_)\/ ∃r,MI x0 ((s:Nat):Int) (bb,tt) z1 m (N++List.replicate (256 - N.length) 0) (O++List.replicate (256 - O.length) []) k=some (.inr r)/\_
      rw [hst]
      unfold VZ at hb1
      by_cases cb:uZ A (nth x0.rows s []) (qK ((k:Nat):Int))=[]
      · rw [if_pos cb]at hb1
        left
        refine ⟨(z1,m,_,_),?_,z1,_,_,hb1,hpl,rfl,rfl,rfl⟩
        rw [cb,bQ (by simp),e1,hO1];rfl
      rw [if_neg cb]at hb1
      have hpos:0<(uZ A (nth x0.rows s []) (qK ((k:Nat):Int))).length:=List.length_pos_iff.2 cb
      rw [bV (by omega),gJ]
      cases hsd:Ir (uZ A (nth x0.rows s []) (qK ((k:Nat):Int)))with
      |inl e=>
        rw [hsd]at hb1
        right
        refine ⟨.inl e,rfl,?_⟩
        have:=nz_ hb1 (256 - (k+1))
        rw [show k+1+(256 - (k+1))=256 by omega]at this
        rw [this];rfl
      |inr fr=>
        obtain ⟨f,r⟩:=fr
        rw [hsd]at hb1
        have hrow:=(strip_row (n:=n) (by omega) (beh_st h.to _ _) hsd).1
        obtain ⟨k1,k2⟩:=uo_ (n:=n) (x0:=⟨x0.arcs,x0.ends,x0.most,z1,m,x0.q⟩) (by omega) hpl hrow (show z1.length<=1000000 by omega)
        show (∃s',bnd (Iz ⟨x0.arcs,x0.ends,x0.most,z1,m,x0.q⟩ r) _=_/\_)\/ ∃q,bnd (Iz ⟨x0.arcs,x0.ends,x0.most,z1,m,x0.q⟩ r) _=_/\_
        cases hsn:M_ x0.most z1 r with
        |inl e=>
          simp only [hsn]at hb1
          rw [k1 e hsn,gJ]
          right
          refine ⟨.inl e,rfl,?_⟩
          have:=nz_ hb1 (256 - (k+1))
          rw [show k+1+(256 - (k+1))=256 by omega]at this
          rw [this];rfl
        |inr iR=>
          obtain ⟨i,R'⟩:=iR
          simp only [hsn]at hb1
          obtain ⟨m',hm1,hm2⟩:=k2 i R' hsn
          rw [hm1,gJ]
          left
          refine ⟨(R',m',_,_),?_,R',_,_,hb1,hm2,rfl,rfl,rfl⟩
          show nxt (R',m',_,_,k+1)=_
          rw [e2,e3];rfl
    rintro ⟨z1,m,z3,z4⟩ ⟨R,N,O,hb,hpl,e1,e3,e4⟩
    simp only at e1 e3 e4 hpl
    subst e1 e3 e4
    obtain ⟨hRl,⟨X,hX⟩,hN,hO⟩:=kx_ hR hb
    have hq1:=hq.n
    have hq2:=hq.o
    have hq3:=hq.e
    have hq4:=hq.t
    refine ⟨.inr ⟨x0.arcs,x0.ends,x0.most,z1,m,Oi x0.q N O bb tt⟩,?_,?_⟩
    · show MI x0 ((s:Nat):Int) (bb,tt) z1 m (N++List.replicate (256 - N.length) 0) (O++List.replicate (256 - O.length) []) 256=_
      unfold MI
      rw [bQ (by omega),aH (by simp;omega),aH (by simp;omega),aH (by simp;omega),aH (by simp;omega),hN,hO,Nat.sub_self,List.replicate_zero,List.append_nil,List.replicate_zero,List.append_nil]
      rfl
    rw [hb]
    exact ⟨m,rfl,hpl⟩
theorem do_len{A:List Arc}{E:List Tip}{most:Int}{l:List Tip}{R R':List (List Tip)}{q q':Seq}{c:Nat}(h:doD A E most l R q= .inr (R',q'))(hR:(R.length:Int)<=most)(hq:QOk q c):
    (R'.length:Int)<=most/\(∃X,R'=R++X)/\QOk q' (c+1)/\q'.front=q.front:=by
  unfold doD at h
  split at h
  · cases h
  split at h
  · cases h
  rename_i hb
  cases h
  obtain ⟨h1,h2,_,_⟩:=kx_ hR hb
  exact ⟨h1,h2,hq.push _ _ _ _,rfl⟩
theorem v5_ {n : Nat} {A : List Arc} {E : List Tip} {x0 : Maker} (h : Fits n A E x0) (v : T_1 × (List Tip)) : ∀ (g s : Nat) (R : List (List Tip)) (m : FM T_1 Int) (q : Seq), 1025 - s <= g -> s <= R.length -> Places n m R -> (R.length : Int) <= x0.most -> QOk q s -> q.front = v.1 ->
    bC (λq:(List (List Tip))×(FM T_1 Int)×bW×fJ×B_1×aB×Nat=>MG x0 v q.1 q.2.1 q.2.2.1 q.2.2.2.1 q.2.2.2.2.1 q.2.2.2.2.2.1 q.2.2.2.2.2.2) (R,m,q.next,q.outs,q.fin,q.tail,s)=some (ofR (allD A E x0.most g s R q))
  |0,s,R,m,q,hg,hs,hp,hR,hq,hf=>by have:=h.m2;omega
  | g + 1, s, R, m, q, hg, hs, hp, hR, hq, hf => by
    have hm2:=h.m2
    rw [allD]
    by_cases c:s<R.length
    · rw [if_pos c]
      have hfit:=h.with' R m q
      obtain ⟨r,h1,h2⟩:=do_ok hfit hp hR c hq (by omega)
      have eq1:(⟨v.1,q.next,q.outs,q.fin,q.tail⟩:Seq)=q:=by rw [<-hf]
      have hst:MG x0 v R m q.next q.outs q.fin q.tail s=rV r (λk=>fin (bnd (E6_ k) (λv70=>some (v70.1,v70.2)))) (λr=>nxt (r.rows,r.places,r.q.next,r.q.outs,r.q.fin,r.q.tail,(s+1))):=by
        unfold MG
        rw [bV (by omega),eq1,h1,gJ]
      cases hd:doD A E x0.most (nth R s []) R q with
      |inl e=>
        have h2:r= .inl e:=by
          have:=h2
          change DoQ n _ (doD A E x0.most (nth R s []) R q) r at this
          rw [hd]at this;exact this
        refine zn ?_
        show MG x0 v R m q.next q.outs q.fin q.tail s=_
        rw [hst,h2];rfl
      |inr rq=>
        obtain ⟨R',q'⟩:=rq
        obtain ⟨m',h3,h4⟩: ∃m',r= .inr ⟨x0.arcs,x0.ends,x0.most,R',m',q'⟩/\Places n m' R':=by
          have:=h2
          change DoQ n _ (doD A E x0.most (nth R s []) R q) r at this
          rw [hd]at this;exact this
        obtain ⟨h5,⟨X,h6⟩,h7,h8⟩:=do_len hd hR hq
        have hlen:R.length<=R'.length:=by rw [h6,fU];omega
        refine Iu (s':=(R',m',q'.next,q'.outs,q'.fin,q'.tail,s+1)) ?_ (v5_ h v g (s+1) R' m' q' (by omega) (by omega) h4 h5 h7 (h8.trans hf))
        show MG x0 v R m q.next q.outs q.fin q.tail s=_
        rw [hst,h3];rfl
    rw [if_neg c]
    refine zn ?_
    show MG x0 v R m q.next q.outs q.fin q.tail s=_
    have eq1:(⟨v.1,q.next,q.outs,q.fin,q.tail⟩:Seq)=q:=by rw [<-hf]
    unfold MG
    rw [bQ (by omega),eq1];rfl
theorem all_eq{n:Nat}{t:Fst}{x0:Maker}(h:Fits n t.arcs t.ends x0)(hn:t.states=n)(ht:FstOk t)(hr:x0.rows=[])(hm:x0.places=FM.emp)(hq:x0.q=Seq.zero):Eb_ x0 t=some (ofR (ofT t x0.most)):=by
  have hn2:=h.hn
  have hm1:=h.m1
  unfold Eb_ ofT
  by_cases c:t.starts=[]
  · rw [if_pos c,c,bV (by simp)];rfl
  rw [if_neg c]
  have hpos:=List.length_pos_iff.2 c
  have hsl:=ht.startsN
  have hss: ∀x∈t.starts,0<=x.state/\x.state<(n:Int):=λx hx=>by rw [<-hn];exact (ht.starts x hx).1
  rw [bQ (by omega),aH (by omega),t6_ (by omega) (λx hx=>by have:=(ht.starts x hx).2;omega),gJ]
  cases hsd:Ir t.starts with
  |inl e=>rfl
  |inr fl=>
    obtain ⟨f,l⟩:=fl
    have hrow:=(strip_row (n:=n) (by omega) hss hsd).1
    obtain ⟨k1,k2⟩:=uo_ (n:=n) (x0:=⟨x0.arcs,x0.ends,x0.most,x0.rows,x0.places,⟨f,x0.q.next,x0.q.outs,x0.q.fin,x0.q.tail⟩⟩) (by omega) (by rw [hr,hm];exact Places.nil n) hrow (by rw [hr];simp)
    have hsn:M_ x0.most x0.rows l= .inr (0,[l]):=by
      unfold M_
      rw [hr,if_neg (by simp),if_neg (by simp;omega)];rfl
    obtain ⟨m',h1,h2⟩:=k2 0 [l] hsn
    show bnd (Iz ⟨x0.arcs,x0.ends,x0.most,x0.rows,x0.places,⟨f,x0.q.next,x0.q.outs,x0.q.fin,x0.q.tail⟩⟩ l) _=_
    rw [h1,gJ]
    show bC _ ([l],m',x0.q.next,x0.q.outs,x0.q.fin,x0.q.tail,0)=_
    rw [hq]
    exact v5_ h (f,l) 1025 0 [l] m' ⟨f,[],[],[],[]⟩ (by omega) (by simp) h2 (by simp;omega) ⟨rfl,rfl,rfl,rfl⟩ rfl
end Go.Proofs.YtchebnpdnfhenaaGreatDoor
end

noncomputable section
namespace Go.Proofs.YtchebnpdnfhenaaGreatDoor
open Go Go.E
def ofD(t:Fst)(most:Int):Seq×Int:=if Aq t=true/\1<=most/\most<=1024 then ofR (ofT (DI t) most) else (Seq.zero,1)
theorem of_ends {T : Fst} (hT : FstOk T) {most : Int} (h1 : 1 <= most) (h2 : most <= 1024) (hf : T.states.toNat * T.arcs.length <= 1000000) (e : Int) {la : List (List Arc)} (hG : Grp Arc.frm id T.states.toNat la T.arcs) :
    bC (λq:fJ×Nat=>MC (T,e) la most q.1 q.2) ((List.replicate T.states.toNat ([]:aB)),0)=some (ofR (ofT T most)):=by
  have hs:=hT.st0
  obtain ⟨r,k1,k2⟩:=kM (step:=λq:fJ×Nat=>MC (T,e) la most q.1 q.2) (λl k=>(l,k)) T.ends.length (λk l=>Grp Tip.state Tip.out T.states.toNat l (T.ends.take k)) (λr=>r=ofR (ofT T most))
    (λk l hk hI=>by
      have hx:=(hT.ends _ (vU aG hk)).1
      have hle:=hI.len
      have hen:=hT.endsN
      have hgl:(nth l (nth T.ends k aG).state.toNat []).length<=1024:=by
        have h3:=qk_ hI (i:=(nth T.ends k aG).state.toNat) (by omega)
        rw [List.length_take]at h3;omega
      refine .inl ⟨l.set (nth T.ends k aG).state.toNat (nth l (nth T.ends k aG).state.toNat []++[(nth T.ends k aG).out]),?_,?_⟩
      · show MC (T,e) la most l k=_
        unfold MC
        show aQ (decide (((k:Nat):Int)<((T.ends.length:Nat):Int))) _ _=_
        rw [bV (by omega),aH ⟨hx.1,by show (nth T.ends k aG).state<_;omega⟩,aH (by show ((nth l (nth T.ends k aG).state.toNat []).length+1) * 16<=_;omega),aH ⟨hx.1,by show (nth T.ends k aG).state<_;omega⟩];rfl
      rw [yw _ hk aG]
      exact hI.snoc hx.1 (by omega))
    (λl hI=>by
      rw [List.take_length]at hI
      refine ⟨_,?_,rfl⟩
      have hfit:Fits T.states.toNat T.arcs T.ends ⟨la,l,most,[],FM.emp,⟨[],[],[],[],[]⟩⟩:=
        ⟨⟨hG,hI,hT.arcsN,λa ha=>(hT.arcs a ha).2.2.2,λx hx=>(hT.ends x hx).2,by have:=hT.st1;omega⟩,λa ha=>by have:=(hT.arcs a ha).2.1;omega,hf,h1,h2⟩
      show MC (T,e) la most l T.ends.length=_
      unfold MC
      rw [bQ (by show ¬ ((T.ends.length:Nat):Int)<((T.ends.length:Nat):Int);omega),all_eq hfit (by omega) hT rfl rfl rfl,gJ];rfl) (s0:=List.replicate T.states.toNat []) (Grp.nil ..)
  rw [<-k2];exact k1
theorem of_all {T : Fst} (hT : FstOk T) {most : Int} (h1 : 1 <= most) (h2 : most <= 1024) (hf : T.states.toNat * T.arcs.length <= 1000000) (e : Int) : E5_ (T, e) most = some (ofR (ofT T most)) := by
  have hs:=hT.st0
  unfold E5_
  obtain ⟨r,k1,k2⟩:=kM (step:=λq:(List (List Arc))×Nat=>Qe (T,e) most q.1 q.2) (λl k=>(l,k)) T.arcs.length (λk l=>Grp Arc.frm id T.states.toNat l (T.arcs.take k)) (λr=>r=ofR (ofT T most))
    (λk l hk hI=>by
      have hx:=(hT.arcs _ (vU aZ hk)).1
      have hle:=hI.len
      have hen:=hT.arcsN
      have hgl:(nth l (nth T.arcs k aZ).frm.toNat []).length<=16384:=by
        have h3:=qk_ hI (i:=(nth T.arcs k aZ).frm.toNat) (by omega)
        rw [List.length_take]at h3;omega
      refine .inl ⟨l.set (nth T.arcs k aZ).frm.toNat (nth l (nth T.arcs k aZ).frm.toNat []++[(nth T.arcs k aZ)]),?_,?_⟩
      · show Qe (T,e) most l k=_
        unfold Qe
        show aQ (decide (((k:Nat):Int)<((T.arcs.length:Nat):Int))) _ _=_
        rw [bV (by omega),aH ⟨hx.1,by show (nth T.arcs k aZ).frm<_;omega⟩,aH (by show ((nth l (nth T.arcs k aZ).frm.toNat []).length+1) * 72<=_;omega),aH ⟨hx.1,by show (nth T.arcs k aZ).frm<_;omega⟩];rfl
      rw [yw _ hk aZ]
      exact hI.snoc hx.1 (by omega))
    (λl hI=>by
      rw [List.take_length]at hI
      refine ⟨_,?_,rfl⟩
      show Qe (T,e) most l T.arcs.length=_
      unfold Qe
      rw [bQ (by show ¬ ((T.arcs.length:Nat):Int)<((T.arcs.length:Nat):Int);omega)]
      show fin (bC (λq:fJ×Nat=>MC (T,e) l most q.1 q.2) ((List.replicate T.states.toNat ([]:aB)),0))=_
      rw [of_ends hT h1 h2 hf e hI];rfl) (s0:=List.replicate T.states.toNat []) (Grp.nil ..)
  rw [<-k2];exact k1
theorem of_eq(t:Fst)(most:Int)(hf:Aq t=true->(DI t).states.toNat * (DI t).arcs.length<=1000000):Gg_ t most=some (ofD t most):=by
  unfold Gg_ ofD
  rw [F5_,gJ]
  cases hb:Aq t with
  |false=>rw [bV (by decide),if_neg (by simp)];rfl
  |true=>
    have ht:=(kw_ t).1 hb
    have hT:=yq_ ht
    have h0:=hT.st0
    have h9:=hT.st1
    rw [bQ (by decide)]
    by_cases c1:most<1
    · rw [bV c1,if_neg (λq=>by omega)];rfl
    rw [bQ c1]
    by_cases c2:1024<most
    · rw [bV c2,if_neg (λq=>by omega)];rfl
    rw [bQ c2,if_pos ⟨rfl,by omega,by omega⟩,trim_eq,hb,if_pos rfl,gJ,bQ (by simp)]
    show grd (0<=(DI t).states/\24 * (DI t).states.toNat<=281474976710656) (grd (0<=(DI t).states/\24 * (DI t).states.toNat<=281474976710656) (E5_ (DI t,0) most))=_
    rw [aH ⟨h0,by omega⟩,aH ⟨h0,by omega⟩,of_all hT (by omega) (by omega) (hf hb)]
end Go.Proofs.YtchebnpdnfhenaaGreatDoor
end

noncomputable section
namespace Go.Proofs.YtchebnpdnfhenaaGreatDoor
open Go Go.E
def aFrm(back:Bool)(x:Arc):Int:=if back=true then x.to else x.frm
def aTo(back:Bool)(x:Arc):Int:=if back=true then x.frm else x.to
def aE(t:Fst)(back:Bool)(a b:Int):Prop:= ∃x∈t.arcs,aFrm back x=a/\aTo back x=b
structure GI (t:Fst) (tips:List Tip) (back:Bool) (l:B_1):Prop where
  len:l.length=t.states.toNat
  sound: ∀v:Nat,nth l v false=true->Rch (λc=> ∃x∈tips,x.state=c) (aE t back) v
  tip: ∀x∈tips,nth l x.state.toNat false=true
end Go.Proofs.YtchebnpdnfhenaaGreatDoor
end

noncomputable section
namespace Go.Proofs.YtchebnpdnfhenaaGreatDoor
open Go Go.E
end Go.Proofs.YtchebnpdnfhenaaGreatDoor
end

noncomputable section
namespace Go.Proofs.YtchebnpdnfhenaaGreatDoor
open Go Go.E
section
variable {α:Type} (cf:α->α->Int)
def insG(x:α):List α->List α
  |[]=>[x]
  |y::l=>if cf y x<0 then y::insG x l else x::y::l
def Wh:List α->List α
  |[]=>[]
  |x::l=>insG cf x (Wh l)
theorem nn_(x:α): ∀l,(insG cf x l).Perm (x::l)
  |[]=>List.Perm.refl _
  |y::l=>by
    unfold insG
    split
    · exact ((nn_ x l).cons y).trans (List.Perm.swap x y l)
    exact List.Perm.refl _
theorem oc_: ∀l,(Wh cf l).Perm l
  |[]=>List.Perm.refl _
  |x::l=>(nn_ cf x _).trans ((oc_ l).cons x)
variable {cf} [DecidableEq α] (hc:GoodCmp cf)
include hc
theorem n5_ (x : α) : ∀ l : List α, l.Pairwise (λx y => ¬ cf y x < 0) -> (insG cf x l).Pairwise λx y => ¬ cf y x < 0
  |[],_=>List.pairwise_singleton _ _
  | y :: l, h => by
    obtain ⟨h1,h2⟩:=List.pairwise_cons.1 h
    unfold insG
    split
    · rename_i h3
      refine List.pairwise_cons.2 ⟨λz hz=> ?_,n5_ x l h2⟩
      rcases List.mem_cons.1 ((nn_ cf x l).mem_iff.1 hz)with rfl|hz
      · have:=hc.anti y z
        omega
      exact h1 z hz
    rename_i h3
    refine List.pairwise_cons.2 ⟨λz hz=> ?_,h⟩
    rcases List.mem_cons.1 hz with rfl|hz
    · exact h3
    exact hc.le_trans h3 (h1 z hz)
theorem kr_: ∀l:List α,(Wh cf l).Pairwise λx y=> ¬ cf y x<0
  |[]=>List.Pairwise.nil
  |x::l=>n5_ hc x _ (kr_ l)
theorem v7_(l:List α):Wh cf l=rY cf l:=by
  refine List.Perm.eq_of_pairwise (le:=λx y=> ¬ cf y x<0) (λx y _ _ h k=> ?_) (kr_ hc l) (G0_ hc l) ((oc_ cf l).trans (List.mergeSort_perm l _).symm)
  have e:=hc.eq x y
  have a:=hc.anti y x
  exact e.1 (by omega)
end
theorem vu_(l:List Tip):Wh nG l=rY nG l:=v7_ Pv l
end Go.Proofs.YtchebnpdnfhenaaGreatDoor
end

noncomputable section
namespace Go.Proofs.YtchebnpdnfhenaaGreatDoor
open Go Go.E Go.E.OpVal Go.E.OpOk
end Go.Proofs.YtchebnpdnfhenaaGreatDoor
end

noncomputable section
namespace Go.Proofs.YtchebnpdnfhenaaGreatDoor
open Go Go.E
theorem wf_{t:Fst}(ht:FstOk t)(hu: ∀s,s<t.states.toNat->mD t s=true)(h1:t.starts.Pairwise λx y=>nG x y<0)(h2:t.ends.Pairwise λx y=>nG x y<0)(h3:t.arcs.Pairwise λx y=>Nb x y<0):DI t=t:=by
  have hs:=ht.st0
  have e:ZF (mD t) t=t:=by
    show (⟨((jv (mD t) t.states.toNat:Nat):Int),yu (mD t) t.starts,yu (mD t) t.ends,Aw (mD t) t.arcs⟩:Fst)=t
    rw [ki_ _ hu,ru_ hu (λx hx=>by have:=(ht.starts x hx).1;omega),ru_ hu (λx hx=>by have:=(ht.ends x hx).1;omega),w7_ hu (λx hx=>by have:=ht.arcs x hx;omega),show ((t.states.toNat:Nat):Int)=t.states by omega]
  unfold DI
  rw [e]
  unfold srt
  rw [Hc_ Pv h1,Hc_ Pv h2,Hc_ m7_ h3]
def onceK(l:List Tip):List Tip:=ddN aG (Wh nG l) (Wh nG l).length
theorem Io_(l:List Tip):onceK l=tH aG nG l:=by unfold onceK tH;rw [vu_,Qg]
def ts_(l:List Tip):Int⊕(T_1×List Tip):=
  let m:=onceK l
  if Fh m=true then .inl 12 else
  let f:=iZ (m.map Tip.out)
  if 4096<f.length then .inl 2 else
  if ∃x∈m,4096<(x.out.drop f.length).length then .inl 2 else .inr (f,m.map (yV f.length))
theorem rd_(l:List Tip):ts_ l=Ir l:=by unfold ts_ Ir;rw [Io_]
def byteK (A : List Arc) (most : Int) (l : List Tip) (b : UInt8) (R : List (List Tip)) : Int ⊕ (List (List Tip) × Int × T_1) :=
  if uZ A l b=[] then .inr (R, -1,[]) else
  match ts_ (uZ A l b)with
  | .inl k=> .inl k
  | .inr (f,r)=>match M_ most R r with
    | .inl k=> .inl k
    | .inr (i,R')=> .inr (R',((i:Nat):Int),f)
theorem yr_(A:List Arc)(most:Int)(l:List Tip)(b:UInt8)(R:List (List Tip)):byteK A most l b R=VZ A most l b R:=by unfold byteK VZ;rw [rd_]<;>rfl
def uc_ (A : List Arc) (most : Int) (l : List Tip) (R : List (List Tip)) : Nat -> Int ⊕ (List (List Tip) × ak × aB)
  |0=> .inr (R,[],[])
  | k + 1 => match uc_ A most l R k with
    | .inl e=> .inl e
    | .inr (R1,N,O)=>match byteK A most l (qK ((k:Nat):Int)) R1 with
      | .inl e=> .inl e
      | .inr (R2,z,o)=> .inr (R2,N++[z],O++[o])
theorem q6_(A:List Arc)(most:Int)(l:List Tip)(R:List (List Tip)): ∀k,uc_ A most l R k=Et A most l R k
  |0=>rfl
  |k+1=>by
    rw [uc_,Et,q6_ A most l R k]
    cases Et A most l R k with
    |inl e=>rfl
    |inr x=>simp only [yr_]<;>rfl
def doK (A : List Arc) (E : List Tip) (most : Int) (l : List Tip) (R : List (List Tip)) (q : Seq) : Int ⊕ (List (List Tip) × Seq) :=
  match VY E l with
  | .inl e=> .inl e
  | .inr (b,t)=>match uc_ A most l R 256 with
    | .inl e=> .inl e
    | .inr (R',N,O)=> .inr (R',Oi q N O b t)
theorem doK_eq(A:List Arc)(E:List Tip)(most:Int)(l:List Tip)(R:List (List Tip))(q:Seq):doK A E most l R q=doD A E most l R q:=by unfold doK doD;rw [q6_]<;>rfl
def allK (A : List Arc) (E : List Tip) (most : Int) : Nat -> Nat -> List (List Tip) -> Seq -> Int ⊕ (List (List Tip) × Seq)
  |0,_,R,q=> .inr (R,q)
  | g + 1, s, R, q => if s < R.length then
      match doK A E most (nth R s []) R q with
      | .inl e=> .inl e
      | .inr (R',q')=>allK A E most g (s+1) R' q'
    else .inr (R,q)
theorem xd_(A:List Arc)(E:List Tip)(most:Int): ∀(g s:Nat) (R:List (List Tip)) (q:Seq),allK A E most g s R q=allD A E most g s R q
  |0,_,_,_=>rfl
  | g + 1, s, R, q => by
    rw [allK,allD,doK_eq]
    by_cases c:s<R.length
    · rw [if_pos c,if_pos c]
      cases doD A E most (nth R s []) R q with
      |inl e=>rfl
      |inr x=>exact xd_ A E most g (s+1) _ _
    rw [if_neg c,if_neg c]
def ofK(t:Fst)(most:Int):Int⊕(List (List Tip)×Seq):=
  if t.starts=[] then .inr ([],Seq.zero) else
  match ts_ t.starts with
  | .inl e=> .inl e
  | .inr (f,l)=>allK t.arcs t.ends most 1025 0 [l] ⟨f,[],[],[],[]⟩
theorem ofK_eq(t:Fst)(most:Int):ofK t most=ofT t most:=by
  unfold ofK ofT
  rw [rd_]
  by_cases c:t.starts=[]
  · rw [if_pos c,if_pos c]
  rw [if_neg c,if_neg c]
  cases Ir t.starts with
  |inl e=>rfl
  |inr x=>exact xd_ ..
end Go.Proofs.YtchebnpdnfhenaaGreatDoor
end

noncomputable section
namespace Go.E
open Go
structure Grow where
  f:Fst
  over:Bool
end Go.E
end

noncomputable section
namespace Go.Proofs.YtchebnpdnfhenaaGreatDoor
open Go Go.E Go.E.OpVal Go.E.OpOk
end Go.Proofs.YtchebnpdnfhenaaGreatDoor
end

noncomputable section
namespace Go.Proofs.YtchebnpdnfhenaaGreatDoor
open Go Go.E Go.E.OpVal Go.E.OpOk
end Go.Proofs.YtchebnpdnfhenaaGreatDoor
end

noncomputable section
namespace Go.E
open Go
end Go.E
end

noncomputable section
namespace Go.E
open Go
structure FPr where
  p:Int
  q:Int
  deriving DecidableEq
def fz_:FPr:=⟨0,0⟩
structure SPr where
  a:List UInt8
  b:List UInt8
  deriving DecidableEq
def SPr.zero:SPr:=⟨[],[]⟩
structure Visit where
  at':FPr
  lag:SPr
  deriving DecidableEq
def Visit.zero:Visit:=⟨fz_,SPr.zero⟩
structure FBox where
  what:Visit
  frm:Int
  by':UInt8
  deriving DecidableEq
def FBox.zero:FBox:=⟨Visit.zero,0,0⟩
structure Hop where
  live:Bool
  last:Bool
  x:Int
  y:Int
  by':UInt8
  deriving DecidableEq
def Hop.zero:Hop:=⟨false,false,0,0,0⟩
structure FBack where
  frm:Int
  x:Int
  y:Int
  deriving DecidableEq
def FBack.zero:FBack:=⟨0,0,0⟩
structure Search where
  t:Fst
  arcs:List (List Int)
  ends:List (List (List UInt8))
  hops:List Hop
  row:List FBox
  place:List Int
  text:List UInt8
  found:Bool
end Go.E
end

noncomputable section
namespace Go.Proofs.YtchebnpdnfhenaaGreatDoor
open Go Go.E Go.E.OpVal Go.E.OpOk Go.Proofs.Tryz
open List (replicate)
theorem pf14:plainF Tryz.prog 14=true:=by kernel_rfl
theorem pf17:plainF Tryz.prog 17=true:=by kernel_rfl
theorem pf18:plainF Tryz.prog 18=true:=by kernel_rfl
theorem pf19:plainF Tryz.prog 19=true:=by kernel_rfl
theorem pf29:plainF Tryz.prog 29=true:=by kernel_rfl
theorem pf30:plainF Tryz.prog 30=true:=by kernel_rfl
theorem pf32:plainF Tryz.prog 32=true:=by kernel_rfl
theorem pf37:plainF Tryz.prog 37=true:=by kernel_rfl
theorem V9:plainF Tryz.prog 51=true:=by kernel_rfl
def C0_:Option (Bool):=
 grd ([(97:UInt8)].length<=1000000000000) (grd ([(98:UInt8)].length<=1000000000000) (grd ([(99:UInt8)].length<=1000000000000) (bnd (Gg_ (⟨3,[(⟨0,([]:T_1)⟩:Tip)],[(⟨2,([122]:T_1)⟩:Tip)],[(⟨0,1,(BSet.ofL [(97:UInt8)]),([]:T_1),false⟩:Arc),(⟨1,2,(BSet.ofL [(98:UInt8)]),([120]:T_1),false⟩:Arc),(⟨1,2,(BSet.ofL [(99:UInt8)]),([120,121]:T_1),false⟩:Arc)]⟩:Fst) 9) (λv20=>bnd (Qi v20.1) (λv28=>bnd (E4_ v28.1 ([97,99]:T_1)) (λv36=>aQ (decide (v20.2=0)) (aQ (decide (v28.2=v20.2)) (aQ (decide (v28.1.front=([120]:T_1))) (aQ (decide (((v28.1.next.length:Nat):Int)=3)) (aQ (decide (v36.1=([120,121,122]:T_1))) (aQ v36.2.2.1 (some (decide (v36.2.2.2=v20.2))) (some false)) (some false)) (some false)) (some false)) (some false)) (some false)))))))
theorem Gb_{σ:aj}(hgl:Dx σ 1 2){r:Bool}(hh:C0_=some r):
  Con prog 30 #[] σ [] (kZ (.bool r) σ):=by
 dsimp only [C0_]at hh
 refine Con.mk (n:=72) Tryz.func30 z z z (λw0=> ?_)
 refine ξ (TL.j z z (ε (ξ (ω z (ny z Jt vC z) (ν z (OpOk.lit (enc:=dD) [(⟨0,([]:T_1)⟩:Tip)] z kS jQ vC z z z gQ (by decide) (by decide) aG z (by decide) z (by decide) Px (λyL xY=> ?_)))))))
 refine ω z (ny z Jt vC z) (ν z (OpOk.lit (enc:=dD) [(⟨2,([122]:T_1)⟩:Tip)] z kS jQ vC z z z gQ (by decide) (by decide) aG z (by decide) z (by decide) Px (λAm c105=> ?_)))
 refine ν z (OpOk.lit (enc:=ku) [(97:UInt8)] z G7 Jm MJ z z z UJ (by decide) (by decide) (0:UInt8) z (by decide) z (by decide) UL (λa107 xX=> ?_))
 obtain ⟨u7,hh⟩:=aP hh
 refine ν z (Z9 (xj_ _ _ _ [(97:UInt8)] u7) z z V9 z z z z ?_)
 refine ω z (ny z Oj Au z) (ν z (OpOk.lit (enc:=ku) [(98:UInt8)] z G7 Jm MJ z z z UJ (by decide) (by decide) (0:UInt8) z (by decide) z (by decide) UL (λa110 c111=> ?_)))
 obtain ⟨u10,hh⟩:=aP hh
 refine ν z (Z9 (xj_ _ _ _ [(98:UInt8)] u10) z z V9 z z z z ?_)
 refine ω z (ny z Oj Au z) (ν z (OpOk.lit (enc:=ku) [(99:UInt8)] z G7 Jm MJ z z z UJ (by decide) (by decide) (0:UInt8) z (by decide) z (by decide) UL (λa113 c114=> ?_)))
 obtain ⟨u13,hh⟩:=aP hh
 refine ν z (Z9 (xj_ _ _ _ [(99:UInt8)] u13) z z V9 z z z z ?_)
 refine ω z (ny z Oj Au z) (ν z (OpOk.lit (enc:=kC) [(⟨0,1,(BSet.ofL [(97:UInt8)]),([]:T_1),false⟩:Arc),(⟨1,2,(BSet.ofL [(98:UInt8)]),([120]:T_1),false⟩:Arc),(⟨1,2,(BSet.ofL [(99:UInt8)]),([120,121]:T_1),false⟩:Arc)] z qw nY Au z z z vV (by decide) (by decide) aZ z (by decide) z (by decide) YG (λa116 c117=> ?_)))
 refine ω z (ny z Ol RI z) (ν z (OpOk.alloc z RI z z (λb119=> ?_)))
 refine ν z (storeAll z Ar z z z z z z ?_)
 refine ε (ξ (ω z (lG z Io Ar z (i:=0) z z) (ζ 3 z z (TL.og gQ (λτ123 lV nS=> ?_)))))
 replace hgl:=hgl.mono lV
 have hr121b:=nS.rv.big
 refine ζ 2 z z (TL.og gQ (λτ126 uq sS=> ?_))
 replace hgl:=hgl.mono uq
 replace nS:=nS.mono uq
 have hr124b:=sS.rv.big
 refine ζ 1 z z (TL.og vV (λτ129 kT Uh=> ?_))
 replace hgl:=hgl.mono kT
 replace nS:=nS.mono kT
 replace sS:=sS.mono kT
 have hr127b:=Uh.rv.big
 obtain ⟨v20,u20,hh⟩:=dJ hh
 refine ν z (OpOk.call (Ic_ (x0:=(⟨3,[(⟨0,([]:T_1)⟩:Tip)],[(⟨2,([122]:T_1)⟩:Tip)],[(⟨0,1,(BSet.ofL [(97:UInt8)]),([]:T_1),false⟩:Arc),(⟨1,2,(BSet.ofL [(98:UInt8)]),([120]:T_1),false⟩:Arc),(⟨1,2,(BSet.ofL [(99:UInt8)]),([120,121]:T_1),false⟩:Arc)]⟩:Fst)) hgl nS sS Uh u20) z z pf14 z z z z ?_)
 rintro _ τ130 _ pV ⟨a130_1,c130_1,a130_2,c130_2,a130_3,c130_3,a130_4,c130_4,rfl,hr130_0,hr130_1,hr130_2,hr130_3,rfl⟩
 replace hgl:=hgl.mono pV
 have hr130_0b:=hr130_0.big
 have hr130_1b:=hr130_1.big
 have hr130_2b:=hr130_2.rv.big
 have hr130_3b:=hr130_3.rv.big
 refine ω z (vS (.inl z) z) (ω z (OpVal.extract z z z) (ω z (OpVal.extract z z z) (ν z (OpOk.alloc z nD z z (λb131=> ?_)))))
 refine ν z (storeAll z fB z z z z z z ?_)
 refine ψ z z (ε (ξ (ω z (lG z jw fB z (i:=0) z z) ?_)))
 obtain ⟨v28,u28,hh⟩:=dJ hh
 refine ν z (OpOk.call (G6_ (x0:=v20.1) hgl hr130_0 hr130_1 hr130_2 hr130_3 u28) z z pf29 z z z z ?_)
 rintro _ τ133 _ hle133 ⟨a133_1,c133_1,a133_2,c133_2,a133_3,c133_3,a133_4,c133_4,rfl,hr133_0,hr133_1,hr133_2,hr133_3,rfl⟩
 have hr133_0b:=hr133_0.big
 have hr133_1b:=hr133_1.big
 have hr133_2b:=hr133_2.rv.big
 have hr133_3b:=hr133_3.rv.big
 refine ω z (vS (.inl z) z) (ω z (OpVal.extract z z z) (ω z (OpVal.extract z z z) (ν z (OpOk.alloc z nD z z (λb134=> ?_)))))
 refine ν z (storeAll z fB z z z z z z ?_)
 refine ψ z z (ε (ξ (ω z (lG z jw fB z (i:=0) z z) ?_)))
 obtain ⟨v36,u36,hh⟩:=dJ hh
 refine ν z (kD (Ht_ (x0:=v28.1) hr133_0 hr133_1 hr133_2 hr133_3 u36) z z pf19 z z z ?_)
 refine ω z (vS (.inl z) z) (ω z (OpVal.extract z z z) (ω z (OpVal.extract z z z) (ω z (OpVal.extract z z z) (ω z (OpVal.extract z z z) (ω z (dX (.inr z) z) (ψ z z (TL.j z z (ψ z z (ε (ξ (ψ z z (ω z (OpVal.eql z z z) (TL.j z z (TL.split 44 z (λEJ=> ?_) (λEJ=> ?_)))))))))))))))
 ·replace hh:=ig EJ hh
  replace EJ:=jk EJ
  refine Ψ z (cO (.inl z) z) (Ψ z (cO (.inl z) z) (Ψ z (OpVal.eql z z z) (ω z (dQ z z z) (TL.j z z (TL.split 49 z (λEI=> ?_) (λEI=> ?_))))))
  ·replace hh:=ig EI hh
   replace EI:=jk EI
   refine Ψ z (aU z GR z) (Ψ z (bg z iK z (i:=0) z z) (Ψ z (cz_ z z z) (ω z (dQ z z z) (TL.j z z (TL.split 54 z (λqj=> ?_) (λqj=> ?_))))))
   ·replace hh:=ig qj hh
    replace qj:=jk qj
    refine Ψ z (aU z kW z) (Ψ z (bg z j_ z (i:=0) z z) (Ψ z (lenC z eX z) (Ψ z (OpVal.eql z z z) (ω z (dQ z z z) (TL.j z z (TL.split 60 z (λEH=> ?_) (λEH=> ?_)))))))
    ·replace hh:=ig EH hh
     replace EH:=jk EH
     refine Ψ z (dX (.inl z) z) (Ψ z (cz_ z z z) (ω z (dQ z z z) (TL.j z z (TL.split 64 z (λuz=> ?_) (λuz=> ?_)))))
     ·replace hh:=ig uz hh
      replace uz:=jk uz
      refine Ψ z (moveB (.inl z) z) (ω z (dQ z z z) (TL.j z z (TL.split 67 z (λYD=> ?_) (λYD=> ?_))))
      ·replace hh:=ig YD hh
       refine Ψ z (cO (.inl z) z) (Ψ z (cO (.inl z) z) (Ψ z (OpVal.eql z z z) (ω z (dQ z z z) (TL.j z z (ε (TC.qR (Sub.pre 0 z) (TC.back (TC.ret ?_))))))))
       obtain rfl:=so hh
       exact rq [0] ⟨z,z,z⟩
      replace hh:=iw YD hh
      refine π z (π z (π z (ω z (dU z z z) (TL.j z z (ε (TC.qR (Sub.pre 0 z) (TC.back (TC.ret ?_))))))))
      obtain rfl:=so hh
      exact rq [0] ⟨z,z,z⟩
     replace hh:=iw uz hh
     replace uz:=jy uz
     refine π z (ω z (dU z z z) (TL.j z z (π z (π z (π z (ω z (dU z z z) (TL.j z z (ε (TC.qR (Sub.pre 0 z) (TC.back (TC.ret ?_)))))))))))
     obtain rfl:=so hh
     exact rq [0] ⟨z,z,z⟩
    replace hh:=iw EH hh
    replace EH:=jy EH
    refine π z (π z (ω z (dU z z z) (TL.j z z (π z (ω z (dU z z z) (TL.j z z (π z (π z (π z (ω z (dU z z z) (TL.j z z (ε (TC.qR (Sub.pre 0 z) (TC.back (TC.ret ?_)))))))))))))))
    obtain rfl:=so hh
    exact rq [0] ⟨z,z,z⟩
   replace hh:=iw qj hh
   replace qj:=jy qj
   refine π z (π z (π z (π z (ω z (dU z z z) (TL.j z z (π z (π z (ω z (dU z z z) (TL.j z z (π z (ω z (dU z z z) (TL.j z z (π z (π z (π z ?_)))))))))))))))
   refine ω z (dU z z z) (TL.j z z (ε (TC.qR (Sub.pre 0 z) (TC.back (TC.ret ?_)))))
   obtain rfl:=so hh
   exact rq [0] ⟨z,z,z⟩
  replace hh:=iw EI hh
  replace EI:=jy EI
  refine π z (π z (π z (ω z (dU z z z) (TL.j z z (π z (π z (π z (π z (ω z (dU z z z) (TL.j z z (π z (π z (ω z (dU z z z) (TL.j z z (π z ?_)))))))))))))))
  refine ω z (dU z z z) (TL.j z z (π z (π z (π z (ω z (dU z z z) (TL.j z z (ε (TC.qR (Sub.pre 0 z) (TC.back (TC.ret ?_))))))))))
  obtain rfl:=so hh
  exact rq [0] ⟨z,z,z⟩
 replace hh:=iw EJ hh
 replace EJ:=jy EJ
 refine π z (π z (π z (ω z (dU z z z) (TL.j z z (π z (π z (π z (ω z (dU z z z) (TL.j z z (π z (π z (π z (π z (ω z (dU z z z) (TL.j z z ?_)))))))))))))))
 refine π z (π z (ω z (dU z z z) (TL.j z z (π z (ω z (dU z z z) (TL.j z z (π z (π z (π z (ω z (dU z z z) (TL.j z z (ε (TC.qR (Sub.pre 0 z) (TC.back (TC.ret ?_)))))))))))))))
 obtain rfl:=so hh
 exact rq [0] ⟨z,z,z⟩
def Ct_(x0:Seq):Option (Bool):=
 bnd (Dh_ x0) (λv4=>aQ (!v4) (some true) (bnd (Ev_ x0) (λv8=>bnd (QZ x0) (λv17=>bnd (Ny v8.1 v17.1) (λv27=>aQ (!v27) (some false) (bnd (Ch_ v8.2.1 v17.2.1) (λv32=>aQ (!v32) (some false) (aQ (decide (v8.2.2≠v17.2.2)) (some false) (bnd (Ve x0) (λv42=>bnd (Vo x0) (λv50=>bnd (Qi x0) (λv58=>bnd (Cs_ x0) (λv66=>bnd (C0_) (λv73=>aQ v73 (bnd (Cm_ v42.1 v50.1) (λv77=>aQ v77 (aQ (decide (v42.2=v50.2)) (bnd (Cm_ v58.1 v66.1) (λv87=>aQ v87 (some (decide (v58.2=v66.2))) (some false))) (some false)) (some false))) (some false)))))))))))))))
theorem Fx_{σ:aj}{x0:Seq}{aN:Option Addr}{aK:Nat}{aA:Option Addr}{aY:Nat}{aW:Option Addr}{ay:Nat}{bI:Option Addr}{bD:Nat}(hgl:Dx σ 1 2)(au:RZ σ (aC 1 aF bn) (.slice aN x0.next.length aK) x0.next)(aV:RZ σ (aC 1 aI bF) (.slice aA x0.outs.length aY) x0.outs)(aS:dH σ eq_ aW ay x0.fin)(aO:dH σ aI bI bD x0.tail){r:Bool}(hh:Ct_ x0=some r):
  Con prog 9 #[.agg (qF x0 aN aK aA aY aW ay bI bD)] σ [] (kZ (.bool r) σ):=by
 dsimp only [Ct_]at hh
 have f0_0b:=au.big
 have f0_1b:=aV.big
 have f0_2b:=aS.rv.big
 have f0_3b:=aO.rv.big
 refine Con.mk (n:=88) Tryz.func9 z z z (λw0=> ?_)
 refine ξ (ν z (boxA z z z z (λbG=> ?_)))
 refine TL.j z z (ε (θ (ξ (ω z (lG z jw fB z (i:=0) z z) ?_))))
 obtain ⟨v4,u4,hh⟩:=dJ hh
 refine ν z (kD (Gr_ (x0:=x0) au aV aS aO u4) z z pf18 z z z ?_)
 refine ω z (OpVal.not z z) (ε (TC.cB z hh (λgG hh=> ?_) (λgG hh=> ?_)))
 ·refine ξ (TL.j z z (ε (TC.rt 0 (S.r ?_))))
  obtain rfl:=so hh
  exact rq [2] ⟨z,z,z⟩
 refine ι (S.n (ξ (ω z (lG z jw fB z (i:=0) z z) ?_)))
 obtain ⟨v8,u8,hh⟩:=dJ hh
 refine ν z (OpOk.call (He_ (x0:=x0) au aV aS aO u8) z z pf32 z z z z ?_)
 rintro _ τ104 _ oz ⟨a104_1,c104_1,a104_2,c104_2,rfl,hr104_0,hr104_1,rfl⟩
 replace au:=au.mono oz
 replace aV:=aV.mono oz
 replace aS:=aS.mono oz
 replace aO:=aO.mono oz
 replace hgl:=hgl.mono oz
 have hr104_0b:=hr104_0.rv.big
 have hr104_1b:=hr104_1.rv.big
 refine ω z (vS (.inl z) z) (ω z (OpVal.extract z z z) (ω z (OpVal.extract z z z) (ω z (OpVal.extract z z z) (Ξ z z (Ξ z z (ψ z z (ε (ξ (ω z (lG z jw fB z (i:=0) z z) ?_)))))))))
 obtain ⟨v17,RQ,hh⟩:=dJ hh
 refine ν z (OpOk.call (Er_ (x0:=x0) au aV aS aO RQ) z z pf33 z z z z ?_)
 rintro _ τ105 _ jf ⟨a105_1,c105_1,a105_2,c105_2,rfl,hr105_0,hr105_1,rfl⟩
 replace au:=au.mono jf
 replace aV:=aV.mono jf
 replace aS:=aS.mono jf
 replace aO:=aO.mono jf
 replace hgl:=hgl.mono jf
 replace hr104_0:=hr104_0.mono jf
 replace hr104_1:=hr104_1.mono jf
 have hr105_0b:=hr105_0.rv.big
 have hr105_1b:=hr105_1.rv.big
 refine ω z (vS (.inl z) z) (ω z (OpVal.extract z z z) (ω z (OpVal.extract z z z) (ω z (OpVal.extract z z z) (Ξ z z (Ξ z z (ψ z z (ε (θ (ξ (Ξ z z (Ξ z z ?_)))))))))))
 obtain ⟨v27,u27,hh⟩:=dJ hh
 refine ν z (kD (Cw_ hr104_0 hr105_0 u27) z z Oq z z z ?_)
 refine ω z (OpVal.not z z) (TL.j z z (TL.split 36 z (λdW=> ?_) (λdW=> ?_)))
 ·replace hh:=ig dW hh
  refine π z (π z (π z (π z (ω z (dQ z z z) (TL.j z z (π z (π z (π z (ω z (dQ z z z) (ε (TC.t z (ξ (TL.j z z (ε (TC.qR (Sub.pre 0 z) ?_)))))))))))))))
  refine TC.back (TC.ret (S.r ?_))
  obtain rfl:=so hh
  exact rq [2] ⟨z,z,z⟩
 replace hh:=iw dW hh
 refine Ψ z (gK (.inl z) z) (Ψ z (gK (.inl z) z) ?_)
 obtain ⟨v32,u32,hh⟩:=dJ hh
 refine TL.gon z z z z z (kD (Ew_ hr104_1 hr105_1 u32) z z pf34 z z z ?_)
 refine Ψ z (OpVal.not z z) (ω z (dU z z z) (TL.j z z (TL.split 42 z (λdP=> ?_) (λdP=> ?_))))
 ·replace hh:=ig dP hh
  refine π z (π z (π z (ω z (dQ z z z) (ε (TC.t z (ξ (TL.j z z (ε (TC.qR (Sub.pre 0 z) (TC.back (TC.ret (S.r ?_))))))))))))
  obtain rfl:=so hh
  exact rq [2] ⟨z,z,z⟩
 replace hh:=iw dP hh
 refine Ψ z (cO (.inl z) z) (Ψ z (cO (.inl z) z) (Ψ z (OpVal.neq z z z) (ω z (dU z z z) (ε (TC.cD z hh (λfH hh=> ?_) (λfH hh=> ?_))))))
 ·refine ξ (TL.j z z (ε (TC.qR (Sub.pre 0 z) (TC.back (TC.ret (S.r ?_))))))
  obtain rfl:=so hh
  exact rq [2] ⟨z,z,z⟩
 refine ι (S.n (ξ (ω z (lG z jw fB z (i:=0) z z) ?_)))
 obtain ⟨v42,u42,hh⟩:=dJ hh
 refine ν z (OpOk.call (Gw_ (x0:=x0) au aV aS aO u42) z z pf35 z z z z ?_)
 rintro _ τ109 _ kV ⟨a109_1,c109_1,a109_2,c109_2,a109_3,c109_3,a109_4,c109_4,rfl,hr109_0,hr109_1,hr109_2,hr109_3,rfl⟩
 replace au:=au.mono kV
 replace aV:=aV.mono kV
 replace aS:=aS.mono kV
 replace aO:=aO.mono kV
 replace hgl:=hgl.mono kV
 have hr109_0b:=hr109_0.big
 have hr109_1b:=hr109_1.big
 have hr109_2b:=hr109_2.rv.big
 have hr109_3b:=hr109_3.rv.big
 refine ω z (vS (.inl z) z) (ω z (OpVal.extract z z z) (ω z (OpVal.extract z z z) (ν z (OpOk.alloc z nD z z (λb110=> ?_)))))
 refine ν z (storeAll z fB z z z z z z ?_)
 refine ψ z z (ε (ξ (ω z (lG z jw fB z (i:=1) z z) ?_)))
 obtain ⟨v50,N7,hh⟩:=dJ hh
 refine ν z (OpOk.call (E3_ (x0:=x0) au aV aS aO N7) z z pf36 z z z z ?_)
 rintro _ τ112 _ kU ⟨a112_1,c112_1,a112_2,c112_2,a112_3,c112_3,a112_4,c112_4,rfl,hr112_0,hr112_1,hr112_2,hr112_3,rfl⟩
 replace au:=au.mono kU
 replace aV:=aV.mono kU
 replace aS:=aS.mono kU
 replace aO:=aO.mono kU
 replace hgl:=hgl.mono kU
 replace hr109_0:=hr109_0.mono kU
 replace hr109_1:=hr109_1.mono kU
 replace hr109_2:=hr109_2.mono kU
 replace hr109_3:=hr109_3.mono kU
 have hr112_0b:=hr112_0.big
 have hr112_1b:=hr112_1.big
 have hr112_2b:=hr112_2.rv.big
 have hr112_3b:=hr112_3.rv.big
 refine ω z (vS (.inl z) z) (ω z (OpVal.extract z z z) (ω z (OpVal.extract z z z) (ν z (OpOk.alloc z nD z z (λb113=> ?_)))))
 refine ν z (storeAll z fB z z z z z z ?_)
 refine ψ z z (ε (ξ (ω z (lG z jw fB z (i:=2) z z) ?_)))
 obtain ⟨v58,u58,hh⟩:=dJ hh
 refine ν z (OpOk.call (G6_ (x0:=x0) hgl au aV aS aO u58) z z pf29 z z z z ?_)
 rintro _ τ115 _ jO ⟨a115_1,c115_1,a115_2,c115_2,a115_3,c115_3,a115_4,c115_4,rfl,hr115_0,hr115_1,hr115_2,hr115_3,rfl⟩
 replace au:=au.mono jO
 replace aV:=aV.mono jO
 replace aS:=aS.mono jO
 replace aO:=aO.mono jO
 replace hgl:=hgl.mono jO
 replace hr109_0:=hr109_0.mono jO
 replace hr109_1:=hr109_1.mono jO
 replace hr109_2:=hr109_2.mono jO
 replace hr109_3:=hr109_3.mono jO
 replace hr112_0:=hr112_0.mono jO
 replace hr112_1:=hr112_1.mono jO
 replace hr112_2:=hr112_2.mono jO
 replace hr112_3:=hr112_3.mono jO
 have hr115_0b:=hr115_0.big
 have hr115_1b:=hr115_1.big
 have hr115_2b:=hr115_2.rv.big
 have hr115_3b:=hr115_3.rv.big
 refine ω z (vS (.inl z) z) (ω z (OpVal.extract z z z) (ω z (OpVal.extract z z z) (ν z (OpOk.alloc z nD z z (λb116=> ?_)))))
 refine ν z (storeAll z fB z z z z z z ?_)
 refine ψ z z (ε (ξ (ω z (lG z jw fB z (i:=3) z z) ?_)))
 obtain ⟨v66,u66,hh⟩:=dJ hh
 refine ν z (OpOk.call (Gn_ (x0:=x0) au aV aS aO u66) z z pf37 z z z z ?_)
 rintro _ τ118 _ gZ ⟨a118_1,c118_1,a118_2,c118_2,a118_3,c118_3,a118_4,c118_4,rfl,hr118_0,hr118_1,hr118_2,hr118_3,rfl⟩
 replace hgl:=hgl.mono gZ
 replace hr109_0:=hr109_0.mono gZ
 replace hr109_1:=hr109_1.mono gZ
 replace hr109_2:=hr109_2.mono gZ
 replace hr109_3:=hr109_3.mono gZ
 replace hr112_0:=hr112_0.mono gZ
 replace hr112_1:=hr112_1.mono gZ
 replace hr112_2:=hr112_2.mono gZ
 replace hr112_3:=hr112_3.mono gZ
 replace hr115_0:=hr115_0.mono gZ
 replace hr115_1:=hr115_1.mono gZ
 replace hr115_2:=hr115_2.mono gZ
 replace hr115_3:=hr115_3.mono gZ
 have hr118_0b:=hr118_0.big
 have hr118_1b:=hr118_1.big
 have hr118_2b:=hr118_2.rv.big
 have hr118_3b:=hr118_3.rv.big
 refine ω z (vS (.inl z) z) (ω z (OpVal.extract z z z) (ω z (OpVal.extract z z z) (ν z (OpOk.alloc z nD z z (λb119=> ?_)))))
 refine ν z (storeAll z fB z z z z z z ?_)
 refine ψ z z (ε (ξ ?_))
 obtain ⟨v73,u73,hh⟩:=dJ hh
 refine ν z (kD (Gb_ hgl u73) z z pf30 z z z ?_)
 refine TL.j z z (TL.split 68 z (λEL=> ?_) (λEL=> ?_))
 ·replace hh:=ig EL hh
  refine Ψ z (lG z jw fB z (i:=3) z z) (Ψ z (lG z jw fB z (i:=2) z z) ?_)
  obtain ⟨v77,u77,hh⟩:=dJ hh
  refine TL.gon z z z z z (kD (E1_ (x0:=v42.1) (x1:=v50.1) hr109_0 hr109_1 hr109_2 hr109_3 hr112_0 hr112_1 hr112_2 hr112_3 u77) z z pf17 z z z ?_)
  refine ω z (dQ z z z) (TL.j z z (TL.split 73 z (λh122=> ?_) (λh122=> ?_)))
  ·replace hh:=ig h122 hh
   refine Ψ z (cO (.inl z) z) (Ψ z (cO (.inl z) z) (Ψ z (OpVal.eql z z z) (ω z (dQ z z z) (TL.j z z (TL.split 78 z (λAc=> ?_) (λAc=> ?_))))))
   ·replace hh:=ig Ac hh
    replace Ac:=jk Ac
    refine Ψ z (lG z jw fB z (i:=1) z z) (Ψ z (lG z jw fB z (i:=0) z z) ?_)
    obtain ⟨v87,u87,hh⟩:=dJ hh
    refine TL.gon z z z z z (kD (E1_ (x0:=v58.1) (x1:=v66.1) hr115_0 hr115_1 hr115_2 hr115_3 hr118_0 hr118_1 hr118_2 hr118_3 u87) z z pf17 z z z ?_)
    refine ω z (dQ z z z) (TL.j z z (TL.split 83 z (λrM=> ?_) (λrM=> ?_)))
    ·replace hh:=ig rM hh
     refine Ψ z (cO (.inl z) z) (Ψ z (cO (.inl z) z) (Ψ z (OpVal.eql z z z) (ω z (dQ z z z) (TL.j z z (ε (TC.qR (Sub.pre 0 z) (TC.back (TC.ret ?_))))))))
     obtain rfl:=so hh
     exact rq [2] ⟨z,z,z⟩
    replace hh:=iw rM hh
    refine π z (π z (π z (ω z (dU z z z) (TL.j z z (ε (TC.qR (Sub.pre 0 z) (TC.back (TC.ret ?_))))))))
    obtain rfl:=so hh
    exact rq [2] ⟨z,z,z⟩
   replace hh:=iw Ac hh
   replace Ac:=jy Ac
   refine π z (π z (π z (ω z (dU z z z) (TL.j z z (π z (π z (π z (ω z (dU z z z) (TL.j z z (ε (TC.qR (Sub.pre 0 z) (TC.back (TC.ret ?_)))))))))))))
   obtain rfl:=so hh
   exact rq [2] ⟨z,z,z⟩
  replace hh:=iw h122 hh
  refine π z (π z (π z (ω z (dU z z z) (TL.j z z (π z (π z (π z (ω z (dU z z z) (TL.j z z (π z (π z (π z (ω z (dU z z z) (TL.j z z (ε ?_)))))))))))))))
  refine TC.qR (Sub.pre 0 z) (TC.back (TC.ret ?_))
  obtain rfl:=so hh
  exact rq [2] ⟨z,z,z⟩
 replace hh:=iw EL hh
 refine π z (π z (π z (ω z (dU z z z) (TL.j z z (π z (π z (π z (ω z (dU z z z) (TL.j z z (π z (π z (π z (ω z (dU z z z) (TL.j z z (π z ?_)))))))))))))))
 refine π z (π z (ω z (dU z z z) (TL.j z z (ε (TC.qR (Sub.pre 0 z) (TC.back (TC.ret ?_)))))))
 obtain rfl:=so hh
 exact rq [2] ⟨z,z,z⟩
end Go.Proofs.YtchebnpdnfhenaaGreatDoor
end

noncomputable section
namespace Go.Proofs.YtchebnpdnfhenaaGreatDoor
open Go Go.E
def r0:ak:=List.replicate 256 (-1)
def o0:aB:=List.replicate 256 []
def qP:Seq:=⟨[],[r0.set 97 1,(r0.set 98 2).set 99 2,r0],[o0,(o0.set 98 [120]).set 99 [120,121],o0],[false,false,true],[[],[],[122]]⟩
theorem r0_at{b:Nat}(hb:b<256):nth r0 b 0= -1:=by
  unfold r0
  have h: ∀(n i:Nat) (x:Int),i<n->nth (List.replicate n x) i 0=x:=λn i x h=>by
    rw [Tf _ (by rw [rU];exact h),List.getElem_replicate]
  exact h 256 b (-1) hb
theorem z5_:r0.length=256:=rU
theorem o0_len:o0.length=256:=rU
theorem qP_n:qP.next.length=3:=rfl
theorem yg_:eH qP=true:=by decide+kernel
theorem qP2: ∀{w y:T_1},cu qP 2 w=some y->w=[]/\y=[122]
  |[],y,h=>by
    rw [cu,if_pos (show nth qP.fin 2 false=true from rfl)]at h
    exact ⟨rfl,(Option.some.inj h).symm⟩
  |b::w,y,h=>by
    have hb:=UInt8.toNat_lt b
    rw [cu,if_pos (show nxQ qP 2 b.toNat<0 by show nth r0 b.toNat 0<0;rw [r0_at (by omega)];decide)]at h
    cases h
theorem qP1 : ∀ {w y : T_1}, cu qP 1 w = some y -> y = [120, 122] \/ y = [120, 121, 122]
  |[],y,h=>by
    rw [cu,if_neg (show ¬ nth qP.fin 1 false=true by decide)]at h;cases h
  | b :: w, y, h => by
    have hb:=UInt8.toNat_lt b
    have hn:nxQ qP 1 b.toNat=if b.toNat=99 then 2 else if b.toNat=98 then 2 else -1:=by
      show nth ((r0.set 98 2).set 99 2) b.toNat 0=_
      have hl:=z5_
      rw [jP,jP,fQ]
      by_cases c:b.toNat=99
      · rw [if_pos c,if_pos ⟨c.symm,by omega⟩]
      rw [if_neg c,if_neg (λe=>c e.1.symm)]
      by_cases d:b.toNat=98
      · rw [if_pos d,if_pos ⟨d.symm,by omega⟩]
      rw [if_neg d,if_neg (λe=>d e.1.symm),r0_at (by omega)]
    have ho:otQ qP 1 b.toNat=if b.toNat=99 then [120,121] else if b.toNat=98 then [120] else []:=by
      show nth ((o0.set 98 [120]).set 99 [120,121]) b.toNat []=_
      have hl:=o0_len
      rw [jP,jP,fQ]
      by_cases c:b.toNat=99
      · rw [if_pos c,if_pos ⟨c.symm,by omega⟩]
      rw [if_neg c,if_neg (λe=>c e.1.symm)]
      by_cases d:b.toNat=98
      · rw [if_pos d,if_pos ⟨d.symm,by omega⟩]
      rw [if_neg d,if_neg (λe=>d e.1.symm)]
      unfold o0;rw [AB]
    rw [cu,hn,ho]at h
    by_cases c:b.toNat=99
    · rw [if_pos c,if_pos c,if_neg (by decide)]at h
      cases hy:cu qP 2 w with
      |none=>rw [show (2:Int).toNat=2 from rfl,hy]at h;cases h
      |some z=>
        rw [show (2:Int).toNat=2 from rfl,hy]at h
        rw [(qP2 hy).2]at h
        exact .inr (Option.some.inj h).symm
    rw [if_neg c,if_neg c]at h
    by_cases d:b.toNat=98
    · rw [if_pos d,if_pos d,if_neg (by decide)]at h
      cases hy:cu qP 2 w with
      |none=>rw [show (2:Int).toNat=2 from rfl,hy]at h;cases h
      |some z=>
        rw [show (2:Int).toNat=2 from rfl,hy]at h
        rw [(qP2 hy).2]at h
        exact .inl (Option.some.inj h).symm
    rw [if_neg d,if_neg d,if_pos (by decide)]at h;cases h
theorem qP0 : ∀ {w y : T_1}, cu qP 0 w = some y -> y = [120, 122] \/ y = [120, 121, 122]
  |[],y,h=>by
    rw [cu,if_neg (show ¬ nth qP.fin 0 false=true by decide)]at h;cases h
  | b :: w, y, h => by
    have hb:=UInt8.toNat_lt b
    have hn:nxQ qP 0 b.toNat=if b.toNat=97 then 1 else -1:=by
      show nth (r0.set 97 1) b.toNat 0=_
      have hl:=z5_
      rw [jP]
      by_cases c:b.toNat=97
      · rw [if_pos c,if_pos ⟨c.symm,by omega⟩]
      rw [if_neg c,if_neg (λe=>c e.1.symm),r0_at (by omega)]
    have ho:otQ qP 0 b.toNat=[]:=by
      show nth o0 b.toNat []=_
      unfold o0;rw [AB]
    rw [cu,hn,ho]at h
    by_cases c:b.toNat=97
    · rw [if_pos c,if_neg (by decide)]at h
      cases hy:cu qP 1 w with
      |none=>rw [show (1:Int).toNat=1 from rfl,hy]at h;cases h
      |some z=>
        rw [show (1:Int).toNat=1 from rfl,hy]at h
        have:z=y:=Option.some.inj h
        rw [<-this];exact qP1 hy
    rw [if_neg c,if_pos (by decide)]at h;cases h
theorem zc_:cu qP 0 [97,98]=some [120,122]:=by decide+kernel
theorem qP_ac:cu qP 0 [97,99]=some [120,121,122]:=by decide+kernel
theorem qP_1b:cu qP 1 [98]=some [120,122]:=by decide+kernel
theorem qP_2:cu qP 2 []=some [122]:=by decide+kernel
theorem qP_no:cu qP 0 []=none/\cu qP 0 [97]=none/\cu qP 0 [98]=none:=by decide+kernel
theorem qP_min : ∃ m, Qi qP = some (m, 0) /\ CanQ m /\ m.front = [120] /\ m.next.length = 3 /\ tJ m [97, 99] = some [120, 121, 122] := by
  obtain ⟨p,r,_,h2,h3,h4⟩:=zu_ qP
  have hn:=qP_n
  have hlive:V4 qP 0:=⟨_,_,zc_⟩
  cases h2 with
  |wrong h=>exact absurd yg_ h
  |none _ h=>
    rcases h with h|h
    · omega
    exact absurd hlive h
  |made l m v a1 a2 a3 a4 a5=>
    have hk:=m4_ (m:=m) a5
    have hk0:=(hk 0 a2).2 ⟨.zero,(a4.live 0 a2).2 a3⟩
    have hc0:=a4.com 0 a2
    have hl0:nth l 0 []=[120]:=by
      have u1:=hc0 _ _ zc_
      have u2:=hc0 _ _ qP_ac
      have u3:=a4.up 0 a2 ((a4.live 0 a2).2 a3) [120] λw y hy=>by
        rcases qP0 hy with e|e
        · rw [e];exact ⟨[122],rfl⟩
        rw [e];exact ⟨[121,122],rfl⟩
      obtain ⟨x,hx⟩:=u3
      rw [<-hx]at u1 u2
      cases x with
      |nil=>exact hx.symm
      |cons c x=>
        exfalso
        obtain ⟨y1,e1⟩:=u1
        obtain ⟨y2,e2⟩:=u2
        have f1:c=122:=(List.cons.inj (List.cons.inj e1).2).1
        have f2:c=121:=(List.cons.inj (List.cons.inj e2).2).1
        rw [f1]at f2;exact absurd f2 (by decide)
    have hlen: ∀s,s<qP.next.length->(nth l s []).length<=3:=λs hs=>by
      have hs:s=0\/s=1\/s=2:=by omega
      rcases hs with rfl|rfl|rfl
      · rw [hl0];decide
      · exact Nat.le_trans (a4.com 1 hs _ _ qP_1b).length_le (by decide)
      exact Nat.le_trans (a4.com 2 hs _ _ qP_2).length_le (by decide)
    have hot: ∀s b,s<qP.next.length->b<256->(otQ qP s b).length<=2:=λs b hs hb=>by
      have hs:s=0\/s=1\/s=2:=by omega
      rcases hs with rfl|rfl|rfl
      · show (nth o0 b []).length<=2
        unfold o0;rw [AB];decide
      · show (nth ((o0.set 98 [120]).set 99 [120,121]) b []).length<=2
        rw [jP,jP]
        split
        · decide
        split
        · decide
        unfold o0;rw [AB];decide
      show (nth o0 b []).length<=2
      unfold o0;rw [AB];decide
    have hr:eH (o9 qP l (oQ v m))=true:=by
      refine Ib_ a1 a2 hk0 ?_ λa h1 _ b hb=> ?_
      · show ([]++nth l 0 []).length<=_
        rw [hl0];decide
      unfold otP
      split
      · exact Nat.zero_le _
      split
      · have g1:=hot a b h1 hb
        have g2:=oC a1 h1 hb
        have g3:=hlen (nxQ qP a b).toNat (by omega)
        rw [List.length_drop,fU];omega
      exact Nat.zero_le _
    have e0:zL qP l (oQ v m)=(o9 qP l (oQ v m),0):=by unfold zL;rw [if_pos hr]
    have hpr:PushR qP (zL qP l (oQ v m)):= .made l m v a1 a2 a3 a4 a5
    rw [e0]at h4 hpr
    have hr2:=(MinR.err' hpr h4).1
    obtain ⟨k1,k2,k3⟩:=h4.can hpr hr2
    have hpl:(o9 qP l (oQ v m)).next.length<=3:=by rw [WH];exact Po _ _
    have hpp:=um_ a2 hk0
    have hfr:r.1.front=[120]:=by
      cases h4 with
      |err h=>exact absurd rfl h
      |none _ h=>
        have h:(o9 qP l (oQ v m)).next.length=0:=h
        rw [WH]at h;omega
      |made n st _ h=>
        rw [h.front]
        show []++nth l 0 []=_
        rw [hl0];rfl
    have k3:r.1.next.length<=3:=Nat.le_trans k3 hpl
    refine ⟨r.1,by rw [h3];exact congrArg some (Prod.ext rfl hr2),k1,hfr,?_,?_⟩
    · have hs: ∀w,(cu r.1 0 w).isSome=(cu qP 0 w).isSome:=λw=>by
        have:=k2 w
        unfold tJ at this
        cases c:cu r.1 0 w with
        |none=>cases d:cu qP 0 w with
          |none=>rfl
          |some y=>rw [c,d]at this;cases this
        |some y=>cases d:cu qP 0 w with
          |none=>rw [c,d]at this;cases this
          |some y=>rfl
      have step: ∀{s b:Nat} {w:T_1},s<r.1.next.length->b<256->(cu r.1 s (UInt8.ofNat b::w)).isSome=true->0<=nxQ r.1 s b/\nxQ r.1 s b<(r.1.next.length:Int)/\(cu r.1 (nxQ r.1 s b).toNat w).isSome=true:=λ{s b w} hs' hb h=>by
        by_cases c:0<=nxQ r.1 s b
        · rw [jg_ hb c,Option.isSome_map]at h
          exact ⟨c,k1.lt s b hs' hb,h⟩
        rw [qz_ hb (by omega)]at h;cases h
      have hpos:0<r.1.next.length:=by
        by_cases c:0<r.1.next.length
        · exact c
        exfalso
        have:=hs [97,98]
        rw [zc_,LD (oU (by omega)) (oU (by have:=(ni k1.right).2.2.1;omega))]at this
        cases this
      obtain ⟨b1,b2,b3⟩:=step (s:=0) (b:=97) (w:=[98]) hpos (by decide) (by show (cu r.1 0 [97,98]).isSome=true;rw [hs,zc_];rfl)
      obtain ⟨c1,c2,c3⟩:=step (s:=(nxQ r.1 0 97).toNat) (b:=98) (w:=[]) (by omega) (by decide) b3
      have n0:(cu r.1 0 []).isSome=false:=by rw [hs,qP_no.1];rfl
      have n1:(cu r.1 0 [98]).isSome=false:=by rw [hs,qP_no.2.2];rfl
      have n2:(cu r.1 (nxQ r.1 0 97).toNat []).isSome=false:=by
        have:=hs [97]
        rw [qP_no.2.1,show ([97]:T_1)=UInt8.ofNat 97::[]from rfl,jg_ (by decide) b1,Option.isSome_map]at this
        exact this
      have d1:(nxQ r.1 0 97).toNat≠0:=λe=>by rw [e]at b3;exact absurd (n1.symm.trans b3) (by decide)
      have d2:(nxQ r.1 (nxQ r.1 0 97).toNat 98).toNat≠0:=λe=>by rw [e,n0]at c3;cases c3
      have d3:(nxQ r.1 (nxQ r.1 0 97).toNat 98).toNat≠(nxQ r.1 0 97).toNat:=λe=>by rw [e,n2]at c3;cases c3
      omega
    rw [k2]
    unfold tJ
    rw [qP_ac];rfl
def tP:Fst:=⟨3,[⟨0,[]⟩],[⟨2,[122]⟩],[⟨0,1,BSet.ofL [97],[],false⟩,⟨1,2,BSet.ofL [98],[120],false⟩,⟨1,2,BSet.ofL [99],[120,121],false⟩]⟩
theorem tP_b:Aq tP=true:=by kernel_rfl
theorem tP_on(s:Nat)(h:s<3):Rch (onS tP) (arE tP) (s:Int):=by
  have h0:Rch (onS tP) (arE tP) 0:= .base ⟨⟨0,[]⟩,by simp [tP],rfl⟩
  have h1:Rch (onS tP) (arE tP) 1:= .step h0 ⟨⟨0,1,BSet.ofL [97],[],false⟩,by simp [tP],rfl,rfl⟩
  have h2:Rch (onS tP) (arE tP) 2:= .step h1 ⟨⟨1,2,BSet.ofL [98],[120],false⟩,by simp [tP],rfl,rfl⟩
  match s,h with
  |0,_=>exact h0
  |1,_=>exact h1
  |2,_=>exact h2
theorem tP_back(s:Nat)(h:s<3):Rch (enS tP) (arB tP) (s:Int):=by
  have h2:Rch (enS tP) (arB tP) 2:= .base ⟨⟨2,[122]⟩,by simp [tP],rfl⟩
  have h1:Rch (enS tP) (arB tP) 1:= .step h2 ⟨⟨1,2,BSet.ofL [98],[120],false⟩,by simp [tP],rfl,rfl⟩
  have h0:Rch (enS tP) (arB tP) 0:= .step h1 ⟨⟨0,1,BSet.ofL [97],[],false⟩,by simp [tP],rfl,rfl⟩
  match s,h with
  |0,_=>exact h0
  |1,_=>exact h1
  |2,_=>exact h2
theorem w2_:DI tP=tP:=wf_ ((kw_ tP).1 tP_b) (λs h=>uk_.2 ⟨tP_on s h,tP_back s h⟩) (by decide+kernel) (by decide+kernel) (by decide+kernel)
def okP:Bool:=match ofK tP 9 with
  | .inl _=>false
  | .inr (_,q)=>decide (q.front=qP.front) && decide (q.next=qP.next) && decide (q.outs=qP.outs) && decide (q.fin=qP.fin) && decide (q.tail=qP.tail)
theorem okP_t:okP=true:=by kernel_rfl
theorem awake22:C0_=some true:=by
  unfold C0_
  rw [aH (by decide),aH (by decide),aH (by decide)]
  show bnd (Gg_ tP 9) _=_
  rw [of_eq tP 9 (λ_=>by rw [w2_];decide),gJ]
  unfold ofD
  rw [if_pos ⟨tP_b,by decide,by decide⟩,w2_,<-ofK_eq]
  have h:=okP_t
  unfold okP at h
  cases hk:ofK tP 9 with
  |inl e=>rw [hk]at h;cases h
  |inr x=>
    obtain ⟨R,q⟩:=x
    rw [hk]at h
    simp only [Bool.and_eq_true,lg]at h
    obtain ⟨⟨⟨⟨h1,h2⟩,h3⟩,h4⟩,h5⟩:=h
    have e:q=qP:=G8_ h1 h2 h3 h4 h5
    subst e
    obtain ⟨m,m1,m2,m3,m4,m5⟩:=qP_min
    show bnd (Qi qP) _=_
    rw [m1,gJ]
    show bnd (E4_ m [97,99]) _=_
    obtain ⟨a1,a2,a3⟩:=ve_ m2.right [97,99]
    rw [m5]at a1 a2
    have a1:(Na m [97,99]).1=[120,121,122]:=a1
    rw [zs_ m [97,99] (by decide),gJ,show (ofR (Sum.inr (R,qP))).2=0 from rfl,bV rfl,bV rfl,bV m3,bV (by show ((m.next.length:Nat):Int)=3;rw [m4];rfl),bV a1,a2]
    show aQ true (some (decide ((Na m [97,99]).2.2.2=0))) _=_
    rw [a3];rfl
end Go.Proofs.YtchebnpdnfhenaaGreatDoor
end

noncomputable section
namespace Go.Proofs.YtchebnpdnfhenaaGreatDoor
open Go Go.E
end Go.Proofs.YtchebnpdnfhenaaGreatDoor
end

noncomputable section
namespace Go.Proofs.YtchebnpdnfhenaaGreatDoor
open Go Go.E
end Go.Proofs.YtchebnpdnfhenaaGreatDoor
end

noncomputable section
namespace Go.Proofs.YtchebnpdnfhenaaGreatDoor
open Go Go.E
theorem pm_(l:B_1):Ch_ l l=some true:=by
  unfold Ch_
  rw [decide_eq_false (by simp),iteO_false]
  refine m0_ (α:=Unit) l.length (λk hk=> ?_) ?_
  · simp only [Bq_,Wj hk,iteO_true,aH hk,bne_self_eq_false,iteO_false];rfl
  simp only [Bq_,Int.lt_irrefl,decide_false,iteO_false];rfl
theorem l5_(q:Seq):Cm_ q q=some true:=by
  unfold Cm_
  rw [bQ (by simp),bQ (by simp),bQ (by simp),pm_,gJ,vJ,jl_,gJ,vJ]
  refine m0_ (α:=Unit) q.next.length (λk hk=> ?_) ?_
  · unfold Bz_ Cl_
    rw [bV (by omega),aH hk,w8_,gJ,vJ]
    by_cases c:k<q.outs.length
    · rw [bV (by omega),aH c,jl_,gJ,vJ];rfl
    rw [bQ (by omega)];rfl
  unfold Bz_
  rw [bQ (by omega)];rfl
end Go.Proofs.YtchebnpdnfhenaaGreatDoor
end

noncomputable section
namespace Go.Proofs.YtchebnpdnfhenaaGreatDoor
open Go Go.E
end Go.Proofs.YtchebnpdnfhenaaGreatDoor
end

noncomputable section
namespace Go.Proofs.YtchebnpdnfhenaaGreatDoor
open Go Go.E
theorem fewQ_in(q:Seq)(k:Nat)(hl:(nth q.outs k []).length<=300): ∃r,bC (λz:Int×Nat=>NG q k z.1 z.2) (0,0)=some r/\(r= .inl (k+1)\/r= .inr false):=by
  refine kM (step:=λz:Int×Nat=>NG q k z.1 z.2) (λ(s:Int) j=>(s,j)) (nth q.outs k []).length (λ_ _=>True) _ (λj s hj _=> .inl ?_) (λs _=> ?_) (s0:=0) trivial
  · show ∃s',NG q k s j=_/\_
    unfold NG
    rw [bV (by omega)]
    exact ⟨_,rfl,trivial⟩
  show ∃r,NG q k s (nth q.outs k []).length=_/\_
  unfold NG
  rw [bQ (by omega)]
  by_cases c:20000<s
  · rw [bV c];exact ⟨_,rfl,.inr rfl⟩
  rw [bQ c];exact ⟨_,rfl,.inl rfl⟩
theorem fewQ(q:Seq): ∃b,Dh_ q=some b/\(b=true->q.next.length<=12):=by
  unfold Dh_
  by_cases c1:12<q.next.length
  · rw [bV (by omega)];exact ⟨_,rfl,λh=>by cases h⟩
  rw [bQ (by omega)]
  by_cases c2:13<q.outs.length
  · rw [bV (by omega)];exact ⟨_,rfl,λh=>by cases h⟩
  rw [bQ (by omega)]
  by_cases c3:5000<q.front.length
  · rw [bV (by omega)];exact ⟨_,rfl,λh=>by cases h⟩
  rw [bQ (by omega)]
  refine kM (step:=λz:Nat=>QN q z) (λ(_:Unit) k=>k) q.outs.length (λ_ _=>True) (λb=>b=true->q.next.length<=12) (λk _ hk _=> ?_) (λ_ _=> ?_) (s0:=()) trivial
  · show (∃s':Unit,QN q k=_/\_)\/ ∃r,QN q k=_/\_
    unfold QN
    rw [bV (by omega)]
    by_cases d:300<(nth q.outs k []).length
    · rw [bV (by omega)]
      exact .inr ⟨_,rfl,λ_=>by omega⟩
    rw [bQ (by omega)]
    obtain ⟨r,h1,h2⟩:=fewQ_in q k (by omega)
    rw [h1]
    rcases h2 with rfl|rfl
    · exact .inl ⟨(),rfl,trivial⟩
    exact .inr ⟨_,rfl,λ_=>by omega⟩
  refine ⟨true,?_,λ_=>by omega⟩
  unfold QN
  rw [bQ (by omega)];rfl
end Go.Proofs.YtchebnpdnfhenaaGreatDoor
end

noncomputable section
namespace Go.Proofs.YtchebnpdnfhenaaGreatDoor
open Go Go.E
theorem both22(q:Seq): ∃p r,Ve q=some p/\Vo q=some p/\Qi q=some r/\Cs_ q=some r/\PushR q p/\MinR p r:=by
  obtain ⟨p,r,a1,a2,a3,a4⟩:=zu_ q
  obtain ⟨p',r',b1,b2,b3,b4⟩:=rmin_ok q
  have e:=a2.uniq b2
  subst e
  have e:=a4.uniq a2 b4
  subst e
  exact ⟨p,r,a1,b1,a3,b3,a2,a4⟩
theorem y5_(q:Seq): ∃r,Ev_ q=some r/\QZ q=some r:=by
  unfold Ev_
  rw [Fc_,gJ]
  by_cases hq:eH q=true
  · obtain ⟨⟨l,m⟩,f1,f2⟩:=r6_ hq
    obtain ⟨l',m',g1,g2⟩:=pj_ hq
    obtain ⟨e1,e2⟩:=f2.uniq g2
    simp only at e1 e2
    subst e1 e2
    rw [if_pos hq,bQ (by decide),f1,gJ]
    exact ⟨_,rfl,g1⟩
  rw [if_neg hq,bV (by decide)]
  refine ⟨_,rfl,?_⟩
  unfold QZ
  rw [kt_,gJ,Bool.eq_false_iff.2 hq,zi]
theorem se_(q:Seq):Ct_ q=some true:=by
  unfold Ct_
  obtain ⟨b,hb,_⟩:=fewQ q
  rw [hb,gJ]
  cases b with
  |false=>rw [zi]
  |true=>
    obtain ⟨r,f1,f2⟩:=y5_ q
    obtain ⟨p,s,a1,a2,a3,a4,_,_⟩:=both22 q
    rw [vJ,f1,gJ,f2,gJ,jl_,gJ,vJ,pm_,gJ,vJ,bQ (λh=>h rfl),a1,gJ,a2,gJ,a3,gJ,a4,gJ,awake22,gJ,iteO_true,l5_,gJ,iteO_true,bV rfl,l5_,gJ,iteO_true,decide_eq_true rfl]
end Go.Proofs.YtchebnpdnfhenaaGreatDoor
end

noncomputable section
namespace Go.E
open Go Go.RowKit
def vH(w:World):aj:=λb=>w.heap[b]?
theorem s9_(w:World):Reach w [] (vH w) (vH w) w []:=
  ⟨rfl,rfl,rfl,Nat.le_refl _,λ_ _ _=>rfl,aj.le.refl _,λ_ _ h=>h,λ_ _ h=> .inl h,by simp,by simp,by simp [iG],by simp,Nat.le_refl _⟩
theorem vk_(w:World)(a:Addr):(vH w).cell a=w.cell? a:=by
  unfold aj.cell World.cell? vH
  cases w.heap[a.block]? with
  |none=>rfl
  |some o=>cases o<;>rfl
theorem Con.below{P:Program}{f:FuncId}{args:Array Value}{w:World}{v:Value}(h:Con P f args (vH w) [] (kZ v (vH w))):
    Calls P f args w λe w'=>e= .returned v/\Below w.heap.size w w':=
  (h w (s9_ w)).mono λe w' ⟨r,σ',H',he,⟨h1,h2,h3⟩,k⟩=>⟨by rw [he,h1],⟨k.os,k.tape,k.output,k.size,λi hi=>k.frame i hi (by simp)⟩⟩
def jp_(l:List Nat):Prop:= ∀x∈l,x<=140737488351232
theorem jp_.left{a b:List Nat}(h:jp_ (a++b)):jp_ a:=λx hx=>h x (List.mem_append_left _ hx)
theorem jp_.right{a b:List Nat}(h:jp_ (a++b)):jp_ b:=λx hx=>h x (List.mem_append_right _ hx)
theorem yx_{l:List Nat}(h:l.all (· <=reachBytes)=true):jp_ l:=λx hx=>by
  have:=List.all_eq_true.1 h x hx
  exact jk this
def Opn(P:Program)(w:World)(T:TypeId){α:Type}(ok:List Value->α->Prop):Prop:=
  ∀{H:Type} (enc:TypeId×Value->H) (held:Bool) (fuel:Nat) (cs:List Value) (d:DataW H) (ps:List MemPlace),DataW.trod enc P w 0 (λ_=>true) held fuel T cs=some (d,ps)->jp_ (DataW.weights P T d)-> ∃x,ok cs x
section
variable {P:Program} {w:World} {T E:TypeId}
theorem Opn.mono{α β:Type}{ok:List Value->α->Prop}{ok':List Value->β->Prop}(h:Opn P w T ok)(f:α->β)(hf: ∀cs x,ok cs x->ok' cs (f x)):Opn P w T ok':=λenc held fuel cs d ps ht hs=>
  let ⟨x,hx⟩:=h enc held fuel cs d ps ht hs;⟨f x,hf cs x hx⟩
theorem Opn.int{k:IntKind}(hT:P.underlying T=some (.int k)):Opn P w T (λcs (x:Int)=>cs=[.int k x]/\(Lit.int k x).wf=true):=λenc held fuel cs d ps ht _=>by
  obtain ⟨n,h,_,hw⟩:=DataW.trod_int hT ht
  exact ⟨n,h,hw⟩
theorem Opn.bool(hT:P.underlying T=some .bool):Opn P w T (λcs (x:Bool)=>cs=[.bool x]):=λenc held fuel cs d ps ht _=>by
  obtain ⟨n,h,_⟩:=DataW.trod_bool hT ht
  exact ⟨n,h⟩
theorem Opn.str(hT:P.underlying T=some .string):Opn P w T (λcs (x:List UInt8)=>cs=[.string (bs x)]/\x.length<=140737488351232):=λenc held fuel cs d ps ht hs=>by
  obtain ⟨s,h,hx,hw⟩:=DataW.trod_string hT ht
  simp only [Prod.mk.injEq]at hx
  obtain ⟨rfl,rfl⟩:=hx
  exact ⟨s.data.toList,by rw [h,<-bs_of],hs _ (by simp [DataW.weights])⟩
theorem ko_ {α β : Type} {f : α -> Option β} : ∀ {l : List α} {r : List β}, l.mapM f = some r -> r.length = l.length /\ ∀ (i : Nat) (x : α), l[i]? = some x -> ∃ y : β, r[i]? = some y /\ f x = some y
  |[],r,h=>by simp at h;subst h;exact ⟨rfl,λi x hx=>by simp at hx⟩
  | a :: l, r, h => by
    rw [List.mapM_cons]at h
    cases hf:f a with
    |none=>rw [hf]at h;cases h
    |some y=>
      cases hm:l.mapM f with
      |none=>rw [hf,hm]at h;cases h
      |some r'=>
        rw [hf,hm]at h
        cases h
        obtain ⟨h1,h2⟩:=ko_ hm
        refine ⟨by simp [h1],λi x hx=> ?_⟩
        cases i with
        |zero=>simp at hx;subst hx;exact ⟨y,rfl,hf⟩
        |succ i=>simp at hx;simpa using h2 i x hx
theorem pq_{H:Type}{ts:List TypeId}{ds:List (DataW H)}{i:Nat}{t:TypeId}{d:DataW H}(ht:ts[i]? =some t)(hd:ds[i]? =some d)(hs:jp_ (DataW.weightsEach P ts ds)):jp_ (DataW.weights P t d):=by
  induction ts generalizing i ds with
  |nil=>simp at ht
  |cons t' ts ih=>
    cases ds with
    |nil=>simp at hd
    |cons d' ds=>
      simp only [DataW.weightsEach]at hs
      cases i with
      |zero=>simp at ht hd;subst ht hd;exact hs.left
      |succ i=>simp at ht hd;exact ih ht hd hs.right
theorem kh_{H:Type}{ds:List (DataW H)}{i:Nat}{d:DataW H}(hd:ds[i]? =some d)(hs:jp_ (DataW.weightsAll P E ds)):jp_ (DataW.weights P E d):=by
  induction ds generalizing i with
  |nil=>simp at hd
  |cons d' ds ih=>
    simp only [DataW.weightsAll]at hs
    cases i with
    |zero=>simp at hd;subst hd;exact hs.left
    |succ i=>simp at hd;exact ih hd hs.right
theorem tb_{H:Type}{enc:TypeId×Value->H}{held:Bool}{fuel:Nat}{cs:List Value}{d:DataW H}{ps:List MemPlace}{fs:Array Field}(hT:P.underlying T=some (.struct fs))(h:DataW.trod enc P w 0 (λ_=>true) held fuel T cs=some (d,ps))(hs:jp_ (DataW.weights P T d)):
    cs.length=P.cellsOf T/\ ∀(i:Nat) (f:Field) {α:Type} {ok:List Value->α->Prop},fs.toList[i]? =some f->Opn P w f.type ok-> ∃x,ok ((cs.drop f.offset).take (P.cellsOf f.type)) x:=by
  cases fuel with
  |zero=>simp [DataW.trod]at h
  |succ fuel=>
    unfold DataW.trod at h
    rw [hT]at h
    simp only at h
    split at h
    · rename_i hl
      refine ⟨hl,λi f α ok hf ho=> ?_⟩
      rw [Option.map_eq_some_iff]at h
      obtain ⟨xs,h1,h2⟩:=h
      simp only [Prod.mk.injEq]at h2
      obtain ⟨rfl,rfl⟩:=h2
      obtain ⟨h3,h4⟩:=ko_ h1
      obtain ⟨y,h5,h6⟩:=h4 i f hf
      refine ho enc held fuel _ y.1 y.2 h6 ?_
      simp only [DataW.weights,hT]at hs
      exact pq_ (i:=i) (by simp [hf]) (by simp [h5]) hs
    cases h
theorem ux_{H:Type}{enc:TypeId×Value->H}{held:Bool}{fuel n:Nat}{cs:List Value}{d:DataW H}{ps:List MemPlace}(hT:P.underlying T=some (.array n E))(h:DataW.trod enc P w 0 (λ_=>true) held fuel T cs=some (d,ps))(hs:jp_ (DataW.weights P T d)):
    cs.length=P.cellsOf T/\ ∀(i:Nat) {α:Type} {ok:List Value->α->Prop},i<n->Opn P w E ok-> ∃x,ok ((cs.drop (i * P.cellsOf E)).take (P.cellsOf E)) x:=by
  cases fuel with
  |zero=>simp [DataW.trod]at h
  |succ fuel=>
    unfold DataW.trod at h
    rw [hT]at h
    simp only at h
    split at h
    · rename_i hl
      refine ⟨hl,λi α ok hi ho=> ?_⟩
      rw [Option.map_eq_some_iff]at h
      obtain ⟨xs,h1,h2⟩:=h
      simp only [Prod.mk.injEq]at h2
      obtain ⟨rfl,rfl⟩:=h2
      obtain ⟨h3,h4⟩:=ko_ h1
      obtain ⟨y,h5,h6⟩:=h4 i i (by rw [List.getElem?_range hi])
      refine ho enc held fuel _ y.1 y.2 h6 ?_
      simp only [DataW.weights,hT]at hs
      exact kh_ (i:=i) (by simp [h5]) hs
    cases h
theorem list4{cs:List Value}(h:cs.length=4): ∃a b c d,cs=[a,b,c,d]:=by
  match cs,h with
  |[a,b,c,d],_=>exact ⟨a,b,c,d,rfl⟩
theorem t3_{x:Int}(h:(Lit.int .u64 x).wf=true): ∃n:Nat,x=(n:Int)/\n<18446744073709551616:=by
  have h1:IntKind.u64.min=0:=rfl
  have h2:IntKind.u64.max=18446744073709551615:=rfl
  simp only [Lit.wf,Bool.and_eq_true,lg,h1,h2]at h
  exact ⟨x.toNat,by omega,by omega⟩
theorem Opn.set(hT:P.underlying T=some (.array 4 E))(hE:P.underlying E=some (.int .u64))(hc:P.cellsOf T=4)(he:P.cellsOf E=1):Opn P w T (λcs (s:BSet)=>cs=(setA s).toList):=λenc held fuel cs d ps ht hs=>by
  obtain ⟨hl,hp⟩:=ux_ hT ht hs
  rw [hc]at hl
  obtain ⟨a,b,c,d,rfl⟩:=list4 hl
  rw [he]at hp
  obtain ⟨x0,h0,w0⟩:=hp 0 (by omega) (Opn.int hE)
  obtain ⟨x1,h1,w1⟩:=hp 1 (by omega) (Opn.int hE)
  obtain ⟨x2,h2,w2⟩:=hp 2 (by omega) (Opn.int hE)
  obtain ⟨x3,h3,w3⟩:=hp 3 (by omega) (Opn.int hE)
  simp at h0 h1 h2 h3
  subst h0 h1 h2 h3
  obtain ⟨n0,rfl,l0⟩:=t3_ w0
  obtain ⟨n1,rfl,l1⟩:=t3_ w1
  obtain ⟨n2,rfl,l2⟩:=t3_ w2
  obtain ⟨n3,rfl,l3⟩:=t3_ w3
  exact ⟨⟨n0,n1,n2,n3,l0,l1,l2,l3⟩,rfl⟩
theorem v4_{a:Addr}{n:Nat}{cs:List Value}(h:w.cells? 0 a n=some cs):cs.length=n/\ ∀j u,cs[j]? =some u->w.cell? (a.add j)=some u:=by
  unfold World.cells? at h
  rw [if_pos (Nat.zero_le _)]at h
  obtain ⟨h1,h2⟩:=ko_ h
  rw [List.length_range]at h1
  refine ⟨h1,λj u hj=> ?_⟩
  have hlt:j<n:=by have:=(List.getElem?_eq_some_iff.1 hj).1;omega
  obtain ⟨y,h3,h4⟩:=h2 j j (by rw [List.getElem?_range hlt])
  rw [hj]at h3;cases h3;exact h4
theorem kd_(cs:List Value)(a b:Nat):(cs.drop a).take b++cs.drop (a+b)=cs.drop a:=by
  rw [<-List.drop_drop];exact List.take_append_drop b (cs.drop a)
theorem Opn.arg{H:Type}{enc:TypeId×Value->H}{α:Type}{ok:List Value->α->Prop}(h:Opn P w T ok){v:Value}{d:DataW H}{ps:List MemPlace}(hd:DataW.Trod enc P w 0 (λ_=>true) true T v d ps)(hs:jp_ (DataW.weights P T d)): ∃x,ok v.cells.toList x:=by
  obtain ⟨fuel,hf⟩:=hd
  exact h enc true fuel _ d ps hf hs
theorem vi_{r:Go.Reach}{b0:Nat}{v:Value}{t:TypeDesc}(hT:P.underlying T=some t)(ht:(∃fs,t= .struct fs)\/ ∃n e,t= .array n e)(h:Value.okWide P w r b0 T v): ∃cs,v= .agg cs:=by
  unfold Value.okWide at h
  rw [hT]at h
  rcases ht with ⟨fs,rfl⟩|⟨n,e,rfl⟩
  · obtain ⟨cs,h1,_⟩:=h;exact ⟨cs,h1⟩
  obtain ⟨cs,h1,_⟩:=h;exact ⟨cs,h1⟩
theorem agg_of{cs:Array Value}{l:List Value}(h:(Value.agg cs).cells.toList=l):Value.agg cs= .agg l.toArray:=by
  subst h;simp [Value.cells]
theorem Opn.cj_ {α : Type} {uH : α -> List Value} {size : Nat} {good : α -> Prop} (hT : P.underlying T = some (.slice E)) (hE : Opn P w E (λcs x => cs = uH x /\ good x)) (hc : P.cellsOf E = size) (hb : 0 < P.bytesOf E) (hl : ∀ x, (uH x).length = size) (h1 : ∀ x, ∀ u ∈ uH x, u.oneCell' = true) :
    Opn P w T (λcs (l:List α)=> ∃a c,cs=[.slice a l.length c]/\RS (vH w) size uH (.slice a l.length c) l/\ ∀x∈l,good x):=λenc held fuel cs d ps ht hs=>by
  cases fuel with
  |zero=>simp [DataW.trod]at ht
  |succ fuel=>
    unfold DataW.trod at ht
    rw [hT]at ht
    split at ht
    all_goals (first|(rename_i he;cases he;done)|(rename_i he _;cases he;done)|(cases ht;done)|skip)
    · exact ⟨[],none,0,rfl,RS.nilF _ _ hl,by simp⟩
    rename_i e a len cap he
    cases he
    split at ht
    · rename_i hcap
      rw [Option.bind_eq_some_iff]at ht
      obtain ⟨elems,h2,h3⟩:=ht
      simp only [if_true]at h3
      rw [Option.map_eq_some_iff]at h3
      obtain ⟨rest,h4,h5⟩:=h3
      simp only [Prod.mk.injEq]at h5
      obtain ⟨rfl,rfl⟩:=h5
      simp only [DataW.weights,hT]at hs
      have hw0:=hs _ (ji ..)
      obtain ⟨e1,e2⟩:=ko_ h2
      rw [List.length_range]at e1
      simp only [List.length_map]at hw0
      have hlen:len<=140737488351232:=by
        have:len * 1<=(elems.length+rest.length) * P.bytesOf E:=Nat.mul_le_mul (by omega) hb
        omega
      have hx: ∀i,i<len-> ∃x:α,w.cells? 0 (a.add (i * size)) size=some (uH x)/\good x:=λi hi=>by
        obtain ⟨y,h6,h7⟩:=e2 i i (by rw [List.getElem?_range hi])
        rw [hc,Option.bind_eq_some_iff]at h7
        obtain ⟨cs,h8,h9⟩:=h7
        have hsm:jp_ (DataW.weights P E y.1):=kh_ (i:=i) (ds:=elems.map (·.1)) (by simp [h6]) (λx hx=>hs x (o7 _ (List.mem_append_left _ hx)))
        obtain ⟨x,rfl,hg⟩:=hE enc held fuel cs y.1 y.2 h9 hsm
        exact ⟨x,h8,hg⟩
      have hlist: ∀n,n<=len-> ∃l:List α,l.length=n/\(∀i x,l[i]? =some x->w.cells? 0 (a.add (i * size)) size=some (uH x))/\ ∀x∈l,good x:=by
        intro n
        induction n with
        |zero=>intro _;exact ⟨[],rfl,λi x h=>(by simp at h),by simp⟩
        |succ n ih=>
          intro hn
          obtain ⟨l,g1,g2,g3⟩:=ih (by omega)
          obtain ⟨x,hx,hgx⟩:=hx n (by omega)
          refine ⟨l++[x],by simp [g1],λi y hy=> ?_,λy hy=>by
            rw [List.mem_append,yB]at hy
            rcases hy with hy|rfl
            · exact g3 y hy
            exact hgx⟩
          rw [List.getElem?_append]at hy
          split at hy
          · exact g2 i y hy
          rename_i hi
          have:i=n:=by
            have:=(List.getElem?_eq_some_iff.1 hy).1
            simp at this;omega
          subst this
          simp [g1]at hy;subst hy;exact hx
      obtain ⟨l,g1,g2,g3⟩:=hlist len (Nat.le_refl _)
      subst g1
      refine ⟨l,some a,cap,rfl,⟨⟨⟨_,_,rfl,by simp,hcap.2.1⟩,tK hl l,?_,λu hu=> ?_,by omega⟩,hl⟩,g3⟩
      · intro a' m c' hv j u hj
        cases hv
        rw [vk_]
        by_cases h0:size=0
        · have:(l.flatMap uH).length=0:=by rw [tK hl,h0,Nat.mul_zero]
          rw [List.getElem?_eq_none (by omega)]at hj;cases hj
        have hpos:0<size:=Nat.pos_of_ne_zero h0
        have hjl:j<l.length * size:=by have:=(List.getElem?_eq_some_iff.1 hj).1;rwa [tK hl]at this
        have hq:j / size<l.length:=by rw [Nat.div_lt_iff_lt_mul hpos];exact hjl
        have hr:j % size<size:=Nat.mod_lt _ hpos
        have hx:=g2 (j / size) l[j / size] (List.getElem?_eq_getElem hq)
        have hj':j=j / size * size+j % size:=by rw [Nat.mul_comm];exact (Nat.div_add_mod j size).symm
        rw [hj',YF hl l _ _ _ (List.getElem?_eq_getElem hq) hr]at hj
        have:=(v4_ hx).2 _ _ hj
        rw [ZP]at this
        rw [hj'];exact this
      rw [List.mem_flatMap]at hu
      obtain ⟨x,_,hx⟩:=hu
      exact h1 x u hx
    cases ht
theorem Opn.slice{α:Type}{uH:α->List Value}{size:Nat}(hT:P.underlying T=some (.slice E))(hE:Opn P w E (λcs x=>cs=uH x))(hc:P.cellsOf E=size)(hb:0<P.bytesOf E)(hl: ∀x,(uH x).length=size)(h1: ∀x, ∀u∈uH x,u.oneCell'=true):
    Opn P w T (λcs (l:List α)=> ∃a c,cs=[.slice a l.length c]/\RS (vH w) size uH (.slice a l.length c) l):=
  Opn.mono (Opn.cj_ (good:=λ_=>True) hT (Opn.mono hE id λ_ _ h=>⟨h,trivial⟩) hc hb hl h1) id λ_ _ ⟨a,c,h,k,_⟩=>⟨a,c,h,k⟩
def I64(x:Int):Prop:= -9223372036854775808<=x/\x<=9223372036854775807
theorem wf_i64{x:Int}(h:(Lit.int .i64 x).wf=true):I64 x:=by
  have h1:IntKind.i64.min= -9223372036854775808:=rfl
  have h2:IntKind.i64.max=9223372036854775807:=rfl
  simp only [Lit.wf,Bool.and_eq_true,lg,h1,h2]at h
  exact h
theorem Opn.int64(hT:P.underlying T=some (.int .i64)):Opn P w T (λcs (x:Int)=>cs=[.int .i64 x]/\I64 x):=Opn.mono (Opn.int hT) id λ_ _ h=>⟨h.1,wf_i64 h.2⟩
theorem Opn.c9_{α:Type}{K:Pk α}{good:α->Prop}(hT:P.underlying T=some (.slice E))(hE:Opn P w E (λcs x=> ∃p,cs=K.enc x p/\K.ok (vH w) x p/\good x))(hc:P.cellsOf E=K.size)(hb:0<P.bytesOf E):
    Opn P w T (λcs (l:List α)=> ∃a c,cs=[.slice a l.length c]/\RZ (vH w) K (.slice a l.length c) l/\ ∀x∈l,good x):=by
  have h:Opn P w T (λcs (z:List (α×K.P))=> ∃a c,cs=[.slice a z.length c]/\RS (vH w) K.size K.en (.slice a z.length c) z/\ ∀m∈z,K.ok (vH w) m.1 m.2/\good m.1):=Opn.cj_ (P:=P) (w:=w) (T:=T) (E:=E) (α:=α×K.P) (uH:=K.en) (size:=K.size) (good:=λm=>K.ok (vH w) m.1 m.2/\good m.1) hT (λenc held fuel cs d ps ht hs=>by
    obtain ⟨x,p,h1,h2,h3⟩:=hE enc held fuel cs d ps ht hs
    exact ⟨(x,p),h1,h2,h3⟩) hc hb K.YV K.dc_
  intro H enc held fuel cs d ps ht hs
  obtain ⟨z,a,c,h1,h2,h3⟩:=h enc held fuel cs d ps ht hs
  refine ⟨z.map Prod.fst,a,c,by rw [List.length_map];exact h1,⟨z,⟨rfl,λm hm=>(h3 m hm).1⟩,by rw [List.length_map];exact h2⟩,λx hx=> ?_⟩
  obtain ⟨m,hm,rfl⟩:=List.mem_map.1 hx
  exact (h3 m hm).2
end
end Go.E
end

noncomputable section
namespace Go.E
open Go Go.ChangeShapes Go.WideShapes
theorem qg_{α:Type}(l:List α)(i:Nat):((l.drop (i * 1)).take 1)=(l[i]?).toList:=by
  rw [Nat.mul_one]
  cases h:l[i]? with
  |none=>rw [List.drop_of_length_le (by simpa using h)];rfl
  |some x=>
    obtain ⟨hi,rfl⟩:=List.getElem?_eq_some_iff.1 h
    rw [List.drop_eq_getElem_cons hi];rfl
end Go.E
end

noncomputable section
namespace Go.E
open Go Go.ChangeShapes Go.WideShapes
theorem mf_{P:Program}{w:World}{n:String}{d:DataW Unit}: ∀{laid:List (String×DataW Unit)} {ps:List MemPlace},DataW.LaidVars P w laid ps->(n,d)∈laid->
    ∃g t cs fuel p,P.globalNamed n=some g/\(P.globals[g]?).map (·.type)=some t/\w.var? P n=some cs/\DataW.trod (λ_=>()) P w 0 (λ_=>true) false fuel t cs.toList=some (d,p)/\ ∀x∈MemPlace.row ⟨g,0,none⟩ cs.size,x∈ps
  |[],ps,_,hm=>by cases hm
  |(m,e)::r,ps,h,hm=>by
    obtain ⟨g,t,cs,fuel,p,q,h1,h2,h3,h4,h5,h6⟩:=h
    rcases List.mem_cons.1 hm with hm|hm
    · cases hm
      exact ⟨g,t,cs,fuel,p,h1,h2,h3,h4,λx hx=>by rw [h6];exact List.mem_append_left _ (List.mem_append_left _ hx)⟩
    obtain ⟨g',t',cs',fuel',p',k1,k2,k3,k4,k5⟩:=mf_ h5 hm
    exact ⟨g',t',cs',fuel',p',k1,k2,k3,k4,λx hx=>by rw [h6];exact List.mem_append_right _ (k5 x hx)⟩
def zb_{H:Type}(k:IntKind)(l:List Int):DataW H:= .agg (l.map λz=> .lit (.int k z))
theorem pi_ {P : Program} {W : World} {laid : List (String × DataW Unit)} {name : String} {g T E : Nat} {k : IntKind} {l : List Int} (h : laidMetH P laid W) (hpl : (laid.all λx => x.2.handleName?.isNone) = true) (hm : (name, zb_ k l) ∈ laid)
    (hg:P.globalNamed name=some g) (hT:(P.globals[g]?).map (·.type)=some T)
    (hu:P.underlying T=some (.array l.length E)) (hE:P.underlying E=some (.int k)) (hc:P.cellsOf E=1) (hcT:P.cellsOf T=l.length) (hl:0<l.length): ∃t,W.heap[g]? =some (.cells (l.map (Value.int k)).toArray t):=by
  rw [MakeChecks.laidMetH_plain _ _ _ hpl]at h
  obtain ⟨ps,hlv,_,hok⟩:=h
  obtain ⟨g0,t0,cs,fu,p,hg0,ht0,hv0,hd0,hps⟩:=mf_ hlv hm
  obtain rfl:=Option.some.inj (hg.symm.trans hg0)
  obtain rfl:=Option.some.inj (hT.symm.trans ht0)
  obtain ⟨xs,m,rfl,hx,hlen,hn,hel⟩:=DataW.trod_array hu hd0
  rw [hcT]at hlen
  have hx1:xs.map (·.1)=l.map λz=>(.lit (.int k z):DataW Unit):=by
    have:=congrArg Prod.fst hx
    simp only [zb_,DataW.agg.injEq]at this
    exact this.symm
  have hcs:cs.toList=l.map (Value.int k):=by
    apply List.ext_getElem?
    intro i
    by_cases hi:i<l.length
    · have h1:=hel i hi
      rw [hc,qg_]at h1
      have hxi:i<xs.length:=by omega
      rw [List.getElem?_eq_getElem hxi]at h1
      obtain ⟨z,e1,e2,_⟩:=DataW.trod_int hE h1
      have h2:(xs.map (·.1))[i]? =some (.lit (.int k z)):=by rw [List.getElem?_map,List.getElem?_eq_getElem hxi,e2];rfl
      rw [hx1,List.getElem?_map,List.getElem?_eq_getElem hi]at h2
      simp only [Option.map_some,Option.some.injEq,DataW.lit.injEq,Lit.int.injEq,true_and]at h2
      have h3:cs.toList[i]? =some (.int k z):=by
        cases hz:cs.toList[i]? with
        |none=>rw [hz]at e1;cases e1
        |some y=>rw [hz]at e1;simp at e1;rw [e1]
      rw [h3,List.getElem?_map,List.getElem?_eq_getElem hi,<-h2];rfl
    rw [List.getElem?_eq_none (by omega),List.getElem?_eq_none (by rw [List.length_map];omega)]
  have hmem:MemPlace.cell g 0∈ps:=by
    refine hps _ ?_
    simp only [MemPlace.row,List.mem_map,List.mem_range]
    exact ⟨0, by have : cs.size = l.length := by rw [<- Array.length_toList, hlen]
                 omega,by simp⟩
  obtain ⟨⟨c,t,hb⟩,_⟩:=hok g 0 hmem
  refine ⟨t,?_⟩
  have hv:W.var? P name=some c:=by unfold World.var?;rw [hg];simp [hb]
  rw [hv0]at hv
  rw [hb,<-Option.some.inj hv,<-hcs]
theorem y4_{P:Program}{W:World}{laid:List (String×DataW Unit)}{n1 n2:String}{g1 g2 T1 E1 T2 E2:Nat}{d1 d2:DataW Unit}(h:laidMetH P laid W)(hpl:(laid.all λx=>x.2.handleName?.isNone)=true)(m1:(n1,d1)∈laid)(m2:(n2,d2)∈laid)
    (e1:d1=zb_ .u8 (deB.map λb=>((b.toNat:Nat):Int))) (e2:d2=zb_ .u64 (p10.map λx=>((x:Nat):Int)))
    (hg1:P.globalNamed n1=some g1) (hT1:(P.globals[g1]?).map (·.type)=some T1) (hu1:P.underlying T1=some (.array 64 E1)) (hE1:P.underlying E1=some (.int .u8)) (hc1:P.cellsOf E1=1) (hcT1:P.cellsOf T1=64)
    (hg2:P.globalNamed n2=some g2) (hT2:(P.globals[g2]?).map (·.type)=some T2) (hu2:P.underlying T2=some (.array 20 E2)) (hE2:P.underlying E2=some (.int .u64)) (hc2:P.cellsOf E2=1) (hcT2:P.cellsOf T2=20):Dx (vH W) g1 g2:=by
  subst e1 e2
  refine ⟨?_,?_⟩
  · obtain ⟨t,ht⟩:=pi_ h hpl m1 hg1 hT1 hu1 hE1 hc1 hcT1 (by decide)
    exact ⟨t,ht⟩
  obtain ⟨t,ht⟩:=pi_ h hpl m2 hg2 hT2 hu2 hE2 hc2 hcT2 (by decide)
  exact ⟨t,ht⟩
end Go.E
end

section
/- PushMakes: for every input the law returns true, and each argument reads afterwards as it read before. No condition of ours. -/
namespace Go.Proofs.YtchebnpdnfhenaaGreatDoor
open Go Go.E Go.ChangeShapes Go.WideShapes Go.ChangeAt Go.RowKit
theorem qn_ : ownKnob Tryz.prog.godebug = none := by kernel_rfl
theorem le_ : laidOutB Tryz.prog = true := by kernel_rfl
def gg_ : List (String × DataW Unit) := [("math/bits.deBruijn32tab", Rows.laid_math_bits_deBruijn32tab), ("math/bits.deBruijn64tab", Rows.laid_math_bits_deBruijn64tab), ("internal/strconv.uint64pow10", Rows.laid_internal_strconv_uint64pow10)]
theorem or_ (os : Os) (args : Array Value) : laidMetH Tryz.prog gg_ ((World.doorLaid Tryz.prog 400 os).forCall (λ_ _ => 0) ⟨#[], args, []⟩).memory :=
  laidMetH_of_parts3 (fuel := 8) (laidMet_of_run' 8 (by kernel_rfl) (by kernel_rfl)) (by kernel_rfl) (by kernel_rfl)
theorem mk_ : Tryz.prog.cellsOf 3 = 1 := by kernel_rfl
theorem mr_ : Tryz.prog.cellsOf 4 = 1 := by kernel_rfl
theorem i2_ : Tryz.prog.cellsOf 9 = 1 := by kernel_rfl
theorem lh_ : Tryz.prog.cellsOf 27 = 1 := by kernel_rfl
theorem lu_ : Tryz.prog.cellsOf 28 = 1 := by kernel_rfl
theorem lx_ : Tryz.prog.cellsOf 29 = 1 := by kernel_rfl
theorem in_ : Tryz.prog.cellsOf 30 = 1 := by kernel_rfl
theorem ld_ : Tryz.prog.cellsOf 32 = 5 := by kernel_rfl
theorem lk_ : Tryz.prog.cellsOf 86 = 1 := by kernel_rfl
theorem ms_ : Tryz.prog.bytesOf 3 = 8 := by kernel_rfl
theorem mu_ : Tryz.prog.bytesOf 4 = 1 := by kernel_rfl
theorem mp_ : Tryz.prog.bytesOf 9 = 16 := by kernel_rfl
theorem lj_ : Tryz.prog.bytesOf 30 = 24 := by kernel_rfl
theorem lw_ : Tryz.prog.bytesOf 86 = 24 := by kernel_rfl
theorem jy_ {w : World} : Opn Tryz.prog w 9 (λcs (x : List UInt8) => cs = [.string (bs x)]) := Opn.mono (Opn.str Tryz.underlying9) id λcs x h => h.1
theorem ml_ {w : World} : Opn Tryz.prog w 3 (λcs (x : Int) => cs = [.int .i64 x] /\ (I64 x)) := Opn.int64 Tryz.underlying3
theorem lb_ {w : World} : Opn Tryz.prog w 86 (λcs (x : List Int) => ∃ (a0 : Option Addr) (c0 : Nat), cs = [.slice a0 x.length c0] /\ RS (vH w) 1 aF (.slice a0 x.length c0) x /\ (∀ q0 ∈ x, I64 q0)) := Opn.cj_ Tryz.underlying86 ml_ mk_ (by rw [ms_]; decide) bn jR
theorem ne_ {w : World} : Opn Tryz.prog w 86 (λcs (x : List Int) => ∃ p, cs = (aC 1 aF bn).enc x p /\ (aC 1 aF bn).ok (vH w) x p /\ ∀ q0 ∈ x, I64 q0) := Opn.mono lb_ id λcs x h => by
  obtain ⟨a, c, h1, h2, h3⟩ := h
  exact ⟨(a, c), h1, h2, h3⟩
theorem of_ {w : World} : Opn Tryz.prog w 27 (λcs (x : List (List Int)) => ∃ (a0 : Option Addr) (c0 : Nat), cs = [.slice a0 x.length c0] /\ RZ (vH w) (aC 1 aF bn) (.slice a0 x.length c0) x) := Opn.mono (Opn.c9_ (K := (aC 1 aF bn)) Tryz.underlying27 ne_ lk_ (by rw [lw_]; decide)) id λcs l ⟨a, c, h1, h2, _⟩ => ⟨a, c, h1, h2⟩
theorem jh_ {w : World} : Opn Tryz.prog w 30 (λcs (x : List (List UInt8)) => ∃ (a0 : Option Addr) (c0 : Nat), cs = [.slice a0 x.length c0] /\ RS (vH w) 1 aI (.slice a0 x.length c0) x) := Opn.slice Tryz.underlying30 jy_ i2_ (by rw [mp_]; decide) bF qX
theorem na_ {w : World} : Opn Tryz.prog w 30 (λcs (x : List (List UInt8)) => ∃ p, cs = (aC 1 aI bF).enc x p /\ (aC 1 aI bF).ok (vH w) x p /\ True) := Opn.mono jh_ id λcs x h => by
  obtain ⟨a, c, h1, h2⟩ := h
  exact ⟨(a, c), h1, h2, trivial⟩
theorem nx_ {w : World} : Opn Tryz.prog w 28 (λcs (x : List (List (List UInt8))) => ∃ (a0 : Option Addr) (c0 : Nat), cs = [.slice a0 x.length c0] /\ RZ (vH w) (aC 1 aI bF) (.slice a0 x.length c0) x) := Opn.mono (Opn.c9_ (K := (aC 1 aI bF)) Tryz.underlying28 na_ in_ (by rw [lj_]; decide)) id λcs l ⟨a, c, h1, h2, _⟩ => ⟨a, c, h1, h2⟩
theorem oy_ {w : World} : Opn Tryz.prog w 4 (λcs (x : Bool) => cs = [.bool x]) := Opn.bool Tryz.underlying4
theorem nj_ {w : World} : Opn Tryz.prog w 29 (λcs (x : List Bool) => ∃ (a0 : Option Addr) (c0 : Nat), cs = [.slice a0 x.length c0] /\ RS (vH w) 1 eq_ (.slice a0 x.length c0) x) := Opn.slice Tryz.underlying29 oy_ mr_ (by rw [mu_]; decide) iQ qQ
theorem nv_ {w : World} : Opn Tryz.prog w 32 (λcs (x : Seq) => ∃ (a0 : Option Addr) (c0 : Nat), ∃ (a1 : Option Addr) (c1 : Nat), ∃ (a2 : Option Addr) (c2 : Nat), ∃ (a3 : Option Addr) (c3 : Nat), cs = [.string (bs x.front), .slice a0 x.next.length c0, .slice a1 x.outs.length c1, .slice a2 x.fin.length c2, .slice a3 x.tail.length c3] /\ RZ (vH w) (aC 1 aF bn) (.slice a0 x.next.length c0) x.next /\ RZ (vH w) (aC 1 aI bF) (.slice a1 x.outs.length c1) x.outs /\ RS (vH w) 1 eq_ (.slice a2 x.fin.length c2) x.fin /\ RS (vH w) 1 aI (.slice a3 x.tail.length c3) x.tail) := by
  intro H enc held fuel cs d ps ht hs
  obtain ⟨hl, hp⟩ := tb_ Tryz.underlying32 ht hs
  rw [ld_] at hl
  obtain ⟨x0, h0⟩ := hp 0 _ rfl jy_
  replace h0 : (cs.drop 0).take (Tryz.prog.cellsOf 9) = [.string (bs x0)] := h0
  rw [i2_] at h0
  obtain ⟨x1, a1_a0, c1_c0, h1, f1_a0⟩ := hp 1 _ rfl of_
  replace h1 : (cs.drop 1).take (Tryz.prog.cellsOf 27) = [.slice a1_a0 x1.length c1_c0] := h1
  rw [lh_] at h1
  obtain ⟨x2, a2_a0, c2_c0, h2, f2_a0⟩ := hp 2 _ rfl nx_
  replace h2 : (cs.drop 2).take (Tryz.prog.cellsOf 28) = [.slice a2_a0 x2.length c2_c0] := h2
  rw [lu_] at h2
  obtain ⟨x3, a3_a0, c3_c0, h3, f3_a0⟩ := hp 3 _ rfl nj_
  replace h3 : (cs.drop 3).take (Tryz.prog.cellsOf 29) = [.slice a3_a0 x3.length c3_c0] := h3
  rw [lx_] at h3
  obtain ⟨x4, a4_a0, c4_c0, h4, f4_a0⟩ := hp 4 _ rfl jh_
  replace h4 : (cs.drop 4).take (Tryz.prog.cellsOf 30) = [.slice a4_a0 x4.length c4_c0] := h4
  rw [in_] at h4
  have e : cs = ((cs.drop 0).take 1 ++ ((cs.drop 1).take 1 ++ ((cs.drop 2).take 1 ++ ((cs.drop 3).take 1 ++ ((cs.drop 4).take 1 ++ cs.drop 5))))) := by
    rw [kd_ cs 4 1]; rw [kd_ cs 3 1]; rw [kd_ cs 2 1]; rw [kd_ cs 1 1]; rw [kd_ cs 0 1]; rfl
  rw [h0, h1, h2, h3, h4, List.drop_of_length_le (by omega)] at e
  exact ⟨⟨x0, x1, x2, x3, x4⟩, a1_a0, c1_c0, a2_a0, c2_c0, a3_a0, c3_c0, a4_a0, c4_c0, e, f1_a0, f2_a0, f3_a0, f4_a0⟩
set_option maxRecDepth 100000 in
theorem mv_ (os : Os) (started : os.Started) (H : Type) (enc : TypeId × Value -> H) :
    ReturnsInHanded {} Tryz.checked os 9 .any (λw args => (Rows.pushMakesSpec.pre enc Tryz.prog Tryz.f9 [] false w args /\ laidMetH Tryz.prog gg_ w) /\ sizedMet enc Tryz.prog Tryz.f9 (OpenSpec.ofChange Rows.pushMakesSpec) false w args)
      (Rows.pushMakesSpec.post enc Tryz.prog Tryz.f9 false true false false) := by
  refine returnsInHanded_of_change_and (C := Tryz.checked) (X := λw _ => laidMetH Tryz.prog gg_ w) (λ_ _ _ hh h => h.of_heap hh) qn_ started (by kernel_rfl) Tryz.func9
    (ChangeSpec.witness_shaped (enc := enc) (C := Tryz.checked) (os := os) (X := λw _ => laidMetH Tryz.prog gg_ w) false (World.doorLaid Tryz.prog 400 os) #[.agg #[.string ⟨#[]⟩, .slice none 0 0, .slice none 0 0, .slice none 0 0, .slice none 0 0]] 8 rfl (World.shaped_of_RefB (by kernel_rfl) (by kernel_rfl)) (by kernel_rfl) (by kernel_rfl) (by kernel_rfl) (or_ os _)) ?_
  intro W base args ds gs before hval0 hW _ hsz0 hL _
  have hgl := y4_ (P := Tryz.prog) (laid := gg_) (g1 := 1) (g2 := 2) (T1 := 266) (T2 := 274) (by exact hL) (by kernel_rfl) (List.mem_cons_of_mem _ (List.mem_cons_self ..)) (List.mem_cons_of_mem _ (List.mem_cons_of_mem _ (List.mem_cons_self ..))) (by kernel_rfl) (by kernel_rfl) (by kernel_rfl) (by kernel_rfl) (by exact Tryz.underlying266) Tryz.underlying5 (by kernel_rfl) (by kernel_rfl) (by kernel_rfl) (by kernel_rfl) (by exact Tryz.underlying274) Tryz.underlying62 (by kernel_rfl) (by kernel_rfl)
  have hsz1 : (DataW.weightsEach Tryz.prog (Tryz.f9.params.toList ++ Rows.pushMakesSpec.plain.varTypes Tryz.prog) (ds ++ gs)).all (· <= reachBytes) = true := hsz0
  have hval : ∀ (j : Nat) t v, Tryz.f9.params[j]? = some t -> args[j]? = some v -> Value.okWide Tryz.prog W .any base t v := hval0
  have hW' := hW
  obtain ⟨p, q, hA0, hV, rfl, hfz, hnd⟩ := hW
  have hA : DataW.TrodAll enc Tryz.prog W 0 (λ_ => true) true Tryz.f9.params.toList args.toList ds p := hA0
  rw [Tryz.params9] at hA hval hsz1
  have hsm := yx_ hsz1
  obtain ⟨v0, vs0, d0, ds0, p0, q0, hargs, rfl, rfl, h0, r0⟩ := trodAll_cons hA
  obtain ⟨rfl, rfl, rfl⟩ := trodAll_nil r0
  obtain rfl : args = #[v0] := by cases args; simp_all
  obtain ⟨rfl, rfl⟩ := trodVars_none hV
  clear hA0 hval0 hsz0 hsz1
  have s0 := pq_ (P := Tryz.prog) (i := 0) rfl rfl hsm
  have k0 := h0
  have lt0 : ∀ x ∈ p0, x.block < W.heap.size := by obtain ⟨m, hm⟩ := k0; exact DataW.trod_lt m _ _ _ hm
  obtain ⟨n0, rfl⟩ := vi_ Tryz.underlying32 (.inl ⟨_, rfl⟩) (hval 0 32 v0 rfl rfl)
  obtain ⟨x0, aN, aK, aA, aY, aW, ay, bI, bD, e0, au, aV, aS, aO⟩ := nv_.arg h0 s0
  replace e0 := agg_of e0
  have g0 : ∀ W', Below W.heap.size W W' -> DataW.Trod enc Tryz.prog W' 0 (λb => decide (b < W.heap.size)) true 32 _ d0 p0 := λW' bel => Below.trod le_ (by kernel_rfl) (of_decide_eq_true (by kernel_rfl)) k0 bel lt0
  have hcall : Calls Tryz.prog 9 #[.agg ([.string (bs x0.front), .slice aN x0.next.length aK, .slice aA x0.outs.length aY, .slice aW x0.fin.length ay, .slice bI x0.tail.length bD]).toArray] W λe w' => e = .returned (.bool true) /\ Below W.heap.size W w' := Con.below (Fx_ hgl au aV aS aO (se_ x0))
  have hcall2 : Calls Tryz.prog 9 #[(.agg n0)] W λe w' => e = .returned (.bool true) /\ Below W.heap.size W w' := by
    rw [e0]; exact hcall
  refine hcall2.mono λe W' ⟨he, bel⟩ => ?_
  subst he
  exact ⟨_, rfl, _, _, _, [], _, [], hW', trodAll_mk1 (shut_bool Tryz.underlying4 _), (trodAll_cons_mk (g0 W' bel) trodAll_mk0), rfl, bel.frame _, λh => by cases h⟩
theorem ou_ : Rows.pushMakesRow.holds Tryz.pinned (OpenSpec.ofChange Rows.pushMakesSpec) :=
  OpenClaim.holds_of_wide 9 Tryz.f9 rfl rfl rfl rfl rfl rfl rfl ⟨rfl, rfl, rfl, rfl, rfl⟩ rfl rfl rfl rfl rfl (by kernel_rfl) Tryz.func9 (by kernel_rfl)
    (of_decide_eq_true (by kernel_rfl)) (by unfold Func.isWrapper; first | (rw [if_pos (by decide +kernel)]; kernel_rfl) | (rw [if_neg (by decide +kernel)]; exact ⟨rfl, rfl⟩))
    (λos started H enc _ => mv_ os started H enc)
theorem pushMakes_row : Rows.PushMakesSaid := ou_
#print axioms pushMakes_row
theorem nc_ : ∀ (j : Nat) (t : TypeId), Tryz.f9.params[j]? = some t -> Tryz.prog.wantsStandIn t = false := λj t ht => by
  rw [Tryz.params9] at ht
  have hm : t ∈ [32] := by simpa using Array.mem_of_getElem? ht
  have hall : ([32].all λu => !Tryz.prog.wantsStandIn u) = true := by kernel_rfl
  exact (show Tryz.prog.wantsStandIn t = false by simpa using List.all_eq_true.1 hall t hm)
theorem pushMakes_holds : Rows.PushMakesCardSaid :=
  Claim7.holds_tied_plain_at .later [] [.data, .data, .data] true (true, "f568851396d7a30d6bc57c5301dc3eaf4fd31757d6a99dca80f817a9aab275e4") true
    pushMakes_row (λ_ h => by cases h) (by kernel_rfl) (λ_ h => by cases h) pushMakes_row_tie rfl ⟨rfl, rfl⟩ (by kernel_rfl) rfl
    (λf fn hf hfn => by
      obtain rfl : f = 9 := Option.some.inj ((show Tryz.prog.funcNamed "whittle/whittlelaw22.PushMakes" = some 9 by kernel_rfl).symm.trans hf) |>.symm
      obtain rfl : fn = Tryz.f9 := (Option.some.inj (Tryz.func9.symm.trans hfn)).symm
      exact ⟨by kernel_rfl, nc_⟩)
    (by kernel_rfl)
#print axioms pushMakes_holds
end Go.Proofs.YtchebnpdnfhenaaGreatDoor
end
