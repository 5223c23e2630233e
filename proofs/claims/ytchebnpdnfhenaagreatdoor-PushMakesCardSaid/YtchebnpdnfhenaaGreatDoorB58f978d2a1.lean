/- Parts of a proof, one behind the other: what a machine reaches, functions decompiled, plain lemmas. Conditions stand with each lemma. -/
import Derived.Test.YtchebnpdnfhenaaGreatDoorBb501fecef1
import Derived.Test.YtchebnpdnfhenaaGreatDoorBcf9365863c
import Derived.Test.YtchebnpdnfhenaaGreatDoorB4982517361
import Derived.Test.YtchebnpdnfhenaaGreatDoorBf4486f8d57
import Derived.Laws.Append

set_option linter.unusedVariables false
set_option linter.unusedSimpArgs false
set_option linter.unusedSectionVars false
set_option maxRecDepth 100000
set_option maxHeartbeats 8000000
variable {aN aA aW bI jd jL yJ P_:Option Go.Addr}{aK aY ay bD jc EW jK EU:Nat}

noncomputable section
namespace Go.Proofs.YtchebnpdnfhenaaGreatDoor
open Go Go.E
structure BfI (q:Seq) (cl:Nat->Int) (st:ak) (V:Nat->Int) (code:Nat):Prop where
  pos:0<st.length
  rng: ∀i,i<st.length->0<=nth st i 0/\nth st i 0<(q.next.length:Int)
  zero:cl (nth st 0 0).toNat=cl 0
  neg: ∀c,c<code->nxQ q (nth st (c / 256) 0).toNat (c % 256)<0->V c= -1
  val: ∀c,c<code->0<=nxQ q (nth st (c / 256) 0).toNat (c % 256)-> ∃j:Nat,j<st.length/\V c=((j:Nat):Int)/\cl (nth st j 0).toNat=cl (nxQ q (nth st (c / 256) 0).toNat (c % 256)).toNat
  dist: ∀i j,i<st.length->j<st.length->cl (nth st i 0).toNat=cl (nth st j 0).toNat->i=j
  first: ∀c j,c<code->V c=((j:Nat):Int)-> ∀k,0<k->k<j-> ∃c',c'<c/\V c'=((k:Nat):Int)
  come: ∀j,0<j->j<st.length-> ∃c,c<code/\c<j * 256/\V c=((j:Nat):Int)
def upd(V:Nat->Int)(c:Nat)(x:Int):Nat->Int:=λd=>if d=c then x else V d
theorem SX(V:Nat->Int)(c:Nat)(x:Int):upd V c x c=x:=if_pos rfl
theorem Af(V:Nat->Int){c d:Nat}(x:Int)(h:d<c):upd V c x d=V d:=if_neg (by omega)
section
variable {q:Seq} {cl:Nat->Int} {st:ak} {V:Nat->Int} {code:Nat}
theorem BfI.init{q:Seq}{cl:Nat->Int}(V:Nat->Int){z:Int}(hz:0<=z/\z<(q.next.length:Int))(hcl:cl z.toNat=cl 0):BfI q cl [z] V 0:=by
  have h0: ∀i,i<([z]:ak).length->i=0:=λi hi=>by rw [jZ]at hi;omega
  refine ⟨by simp,λi hi=> ?_,hcl,λc hc=>absurd hc (Nat.not_lt_zero _),λc hc=>absurd hc (Nat.not_lt_zero _),λi j hi hj _=>by rw [h0 i hi,h0 j hj],λc j hc=>absurd hc (Nat.not_lt_zero _),λj hj hj2=> ?_⟩
  · rw [h0 i hi];exact hz
  have:=h0 j hj2;omega
theorem BfI.skip(h:BfI q cl st V code)(hn:nxQ q (nth st (code / 256) 0).toNat (code % 256)<0):BfI q cl st (upd V code (-1)) (code+1):=by
  refine ⟨h.pos,h.rng,h.zero,λc hc hc2=> ?_,λc hc hc2=> ?_,h.dist,λc j hc hv k hk hkj=> ?_,λj hj hj2=> ?_⟩
  · by_cases e:c=code
    · rw [e,SX]
    rw [Af _ _ (by omega)];exact h.neg c (by omega) hc2
  · by_cases e:c=code
    · subst e;omega
    rw [Af _ _ (by omega)];exact h.val c (by omega) hc2
  · by_cases e:c=code
    · rw [e,SX]at hv;omega
    rw [Af _ _ (by omega)]at hv
    obtain ⟨c',h1,h2⟩:=h.first c j (by omega) hv k hk hkj
    exact ⟨c',h1,by rw [Af _ _ (by omega)];exact h2⟩
  obtain ⟨c,h1,h2,h3⟩:=h.come j hj hj2
  exact ⟨c,by omega,h2,by rw [Af _ _ h1];exact h3⟩
theorem BfI.old(h:BfI q cl st V code)(h0:0<=nxQ q (nth st (code / 256) 0).toNat (code % 256)){j:Nat}(hj:j<st.length)(hcl:cl (nth st j 0).toNat=cl (nxQ q (nth st (code / 256) 0).toNat (code % 256)).toNat):BfI q cl st (upd V code ((j:Nat):Int)) (code+1):=by
  refine ⟨h.pos,h.rng,h.zero,λc hc hc2=> ?_,λc hc hc2=> ?_,h.dist,λc i hc hv k hk hkj=> ?_,λi hi hi2=> ?_⟩
  · by_cases e:c=code
    · subst e;omega
    rw [Af _ _ (by omega)];exact h.neg c (by omega) hc2
  · by_cases e:c=code
    · subst e;exact ⟨j,hj,SX _ _ _,hcl⟩
    rw [Af _ _ (by omega)];exact h.val c (by omega) hc2
  · by_cases e:c=code
    · rw [e,SX]at hv
      obtain ⟨c',h1,_,h3⟩:=h.come k hk (by omega)
      exact ⟨c',by omega,by rw [Af _ _ h1];exact h3⟩
    rw [Af _ _ (by omega)]at hv
    obtain ⟨c',h1,h2⟩:=h.first c i (by omega) hv k hk hkj
    exact ⟨c',h1,by rw [Af _ _ (by omega)];exact h2⟩
  obtain ⟨c,h1,h2,h3⟩:=h.come i hi hi2
  exact ⟨c,by omega,h2,by rw [Af _ _ h1];exact h3⟩
theorem BfI.new(h:BfI q cl st V code)(hc:code<st.length * 256)(h0:0<=nxQ q (nth st (code / 256) 0).toNat (code % 256)){z:Int}(hz:0<=z/\z<(q.next.length:Int))(hcl:cl z.toNat=cl (nxQ q (nth st (code / 256) 0).toNat (code % 256)).toNat)
    (hnew: ∀j,j<st.length->cl (nth st j 0).toNat≠cl (nxQ q (nth st (code / 256) 0).toNat (code % 256)).toNat):BfI q cl (st++[z]) (upd V code ((st.length:Nat):Int)) (code+1):=by
  have hold: ∀i,i<st.length->nth (st++[z]) i 0=nth st i 0:=λi hi=>GU hi _
  have hat:nth (st++[z]) st.length 0=z:=LC _ _ _
  have hlen:(st++[z]).length=st.length+1:=by simp
  have hp:=h.pos
  have hrow: ∀c,c<code+1->nth (st++[z]) (c / 256) 0=nth st (c / 256) 0:=λc hc'=>hold _ (by omega)
  refine ⟨by omega,λi hi=> ?_,by rw [hold 0 hp];exact h.zero,λc hc hc2=> ?_,λc hc hc2=> ?_,λi j hi hj he=> ?_,λc i hc hv k hk hkj=> ?_,λi hi hi2=> ?_⟩
  · by_cases e:i<st.length
    · rw [hold i e];exact h.rng i e
    rw [show i=st.length by omega,hat];exact hz
  · rw [hrow c hc]at hc2
    by_cases e:c=code
    · subst e;omega
    rw [Af _ _ (by omega)];exact h.neg c (by omega) hc2
  · rw [hrow c hc]at hc2 ⊢
    by_cases e:c=code
    · subst e
      exact ⟨st.length,by omega,SX _ _ _,by rw [hat];exact hcl⟩
    rw [Af _ _ (by omega)]
    obtain ⟨j,h1,h2,h3⟩:=h.val c (by omega) hc2
    exact ⟨j,by omega,h2,by rw [hold j h1];exact h3⟩
  · by_cases e:i<st.length
    · by_cases f:j<st.length
      · rw [hold i e,hold j f]at he;exact h.dist i j e f he
      rw [hold i e,show j=st.length by omega,hat,hcl]at he
      exact absurd he (hnew i e)
    by_cases f:j<st.length
    · rw [hold j f,show i=st.length by omega,hat,hcl]at he
      exact absurd he.symm (hnew j f)
    omega
  · by_cases e:c=code
    · rw [e,SX]at hv
      obtain ⟨c',h1,_,h3⟩:=h.come k hk (by omega)
      exact ⟨c',by omega,by rw [Af _ _ h1];exact h3⟩
    rw [Af _ _ (by omega)]at hv
    obtain ⟨c',h1,h2⟩:=h.first c i (by omega) hv k hk hkj
    exact ⟨c',h1,by rw [Af _ _ (by omega)];exact h2⟩
  by_cases e:i<st.length
  · obtain ⟨c,h1,h2,h3⟩:=h.come i hi e
    exact ⟨c,by omega,h2,by rw [Af _ _ h1];exact h3⟩
  refine ⟨code,by omega,by omega,?_⟩
  rw [SX,show i=st.length by omega]
end
theorem BfI.min{q m:Seq}{cl:Nat->Int}{st:ak}{V:Nat->Int}(h:BfI q cl st V (st.length * 256))(hcl: ∀s t,s<q.next.length->t<q.next.length->(cl s=cl t↔cu q s=cu q t))(hq:eH q=true)
    (e0:m.front=q.front) (e1:m.next.length=st.length) (e2:m.outs.length=st.length) (e3:m.fin.length=st.length) (e4:m.tail.length=st.length) (e5: ∀i,i<st.length->(nth m.next i []).length=256) (e6: ∀c,c<st.length * 256->nxC m c=V c)
    (e7: ∀i,i<st.length->nth m.outs i []=nth q.outs (nth st i 0).toNat []) (e8: ∀i,i<st.length->nth m.fin i false=nth q.fin (nth st i 0).toNat false) (e9: ∀i,i<st.length->nth m.tail i []=nth q.tail (nth st i 0).toNat []):MinQ q m (st.map Int.toNat):=by
  have hl:(st.map Int.toNat).length=st.length:=List.length_map ..
  have hat: ∀i,i<st.length->nth (st.map Int.toNat) i 0=(nth st i 0).toNat:=λi hi=>zk _ _ _ 0 _ hi
  have hr: ∀i,i<st.length->(nth st i 0).toNat<q.next.length:=λi hi=>by have:=h.rng i hi;omega
  have hp:=h.pos
  have hn: ∀i b,i<st.length->b<256->i * 256+b<st.length * 256/\(i * 256+b) / 256=i/\(i * 256+b) % 256=b:=λi b hi hb=>⟨by omega,by omega,by omega⟩
  have hcell: ∀i b,i<st.length->b<256->nxQ m i b=V (i * 256+b):=λi b hi hb=>by
    obtain ⟨a1,a2,a3⟩:=hn i b hi hb
    have:=e6 _ a1
    unfold nxC at this
    rw [a2,a3]at this;exact this
  refine ⟨e0,by omega,by omega,by omega,by omega,by omega,λi hi=> ?_,?_,λi j hi hj he=> ?_,λi hi=>e5 i (by omega),λi hi=> ?_,λi hi=> ?_,λi hi=> ?_,λi b hi hb hx=> ?_,λi b hi hb hx=> ?_,λc j hc hv k hk hkj=> ?_,λj hj hj2=> ?_⟩
  · rw [hat i (by omega)];exact hr i (by omega)
  · rw [hat 0 hp]
    exact (hcl _ _ (hr 0 hp) (by have:=hr 0 hp;omega)).1 h.zero
  · rw [hat i (by omega),hat j (by omega)]at he
    exact h.dist i j (by omega) (by omega) ((hcl _ _ (hr i (by omega)) (hr j (by omega))).2 he)
  · rw [hat i (by omega)];exact e7 i (by omega)
  · rw [hat i (by omega)];exact e8 i (by omega)
  · rw [hat i (by omega)];exact e9 i (by omega)
  · rw [hat i (by omega)]at hx
    obtain ⟨a1,a2,a3⟩:=hn i b (by omega) hb
    rw [hcell i b (by omega) hb]
    exact h.neg _ a1 (by rw [a2,a3];exact hx)
  · rw [hat i (by omega)]at hx
    obtain ⟨a1,a2,a3⟩:=hn i b (by omega) hb
    obtain ⟨j,h1,h2,h3⟩:=h.val _ a1 (by rw [a2,a3];exact hx)
    rw [a2,a3]at h3
    refine ⟨j,by omega,by rw [hcell i b (by omega) hb];exact h2,?_⟩
    rw [hat j h1,hat i (by omega)]
    have hz:=oC hq (hr i (by omega)) hb
    exact (hcl _ _ (hr j h1) (by omega)).1 h3
  · rw [hl]at hc
    rw [e6 c hc]at hv
    obtain ⟨c',h1,h2⟩:=h.first c j hc hv k hk hkj
    exact ⟨c',h1,by rw [e6 c' (by omega)];exact h2⟩
  obtain ⟨c,h1,h2,h3⟩:=h.come j hj (by omega)
  exact ⟨c,h2,by rw [e6 c h1];exact h3⟩
theorem PushR.psh{q:Seq}{r:Seq×Int}(h:PushR q r)(h0:r.2=0):PshQ r.1/\eH r.1=true/\(∀w,tJ r.1 w=tJ q w)/\r.1.next.length<=q.next.length:=by
  have hem: ∀w,tJ Seq.zero w=Option.none:=λw=>by unfold tJ;rw [LD rfl rfl];rfl
  cases h with
  |wrong _=>exact absurd h0 (by decide)
  |none h1 h2=>
    refine ⟨p6_.toPshQ,p6_.right,λw=> ?_,Nat.zero_le _⟩
    rw [hem]
    unfold tJ
    cases ho:cu q 0 w with
    |none=>rfl
    |some y=>
      rcases h2 with h2|h2
      · rw [LD (oU h2) (oU (by have:=(ni h1).2.2.1;omega))]at ho;cases ho
      exact absurd ⟨w,y,ho⟩ h2
  |made l m v h1 h2 h3 h4 h5=>
    have hk:=m4_ (m:=m) h5
    have hk0:=(hk 0 h2).2 ⟨.zero,(h4.live 0 h2).2 h3⟩
    unfold zL at h0 ⊢
    by_cases c:eH (o9 q l (oQ v m))=true
    · rw [if_pos c]
      exact ⟨Iq_ h1 h4 hk,c,Ih_ h1 h4 hk h2 hk0,by rw [WH];exact Po _ _⟩
    rw [if_neg c]at h0;exact absurd h0 (by decide)
theorem PushR.errs{q:Seq}{r:Seq×Int}(h:PushR q r)(h0:r.2≠0):r.1=Seq.zero/\(r.2=1\/r.2=2):=by
  cases h with
  |wrong _=>exact ⟨rfl,.inl rfl⟩
  |none _ _=>exact absurd rfl h0
  |made l m v h1 h2 h3 h4 h5=>
    unfold zL at h0 ⊢
    by_cases c:eH (o9 q l (oQ v m))=true
    · rw [if_pos c]at h0;exact absurd rfl h0
    rw [if_neg c];exact ⟨rfl,.inr rfl⟩
inductive MinR (p:Seq×Int):Seq×Int->Prop
  |err:p.2≠0->MinR p (Seq.zero,p.2)
  |none:p.2=0->p.1.next.length=0->MinR p (Seq.zero,0)
  |made (m:Seq) (st:List Nat):p.2=0->MinQ p.1 m st->MinR p (m,0)
theorem MinR.err'{q:Seq}{p r:Seq×Int}(_:PushR q p)(k:MinR p r):r.2=p.2/\(r.2≠0->r.1=Seq.zero):=by
  cases k with
  |err h0=>exact ⟨rfl,λ_=>rfl⟩
  |none h0 _=>exact ⟨h0.symm,λ_=>rfl⟩
  |made m st h0 _=>exact ⟨h0.symm,λe=>absurd rfl e⟩
theorem MinR.can{q:Seq}{p r:Seq×Int}(h:PushR q p)(k:MinR p r)(h0:r.2=0):CanQ r.1/\(∀w,tJ r.1 w=tJ q w)/\r.1.next.length<=p.1.next.length:=by
  cases k with
  |err e=>exact absurd h0 e
  |none e1 e2=>
    obtain ⟨h1,h2,h3,h4⟩:=h.psh e1
    refine ⟨p6_,λw=> ?_,Nat.zero_le _⟩
    rw [<-h3]
    unfold tJ
    rw [LD rfl rfl,LD (oU e2) (oU (by have:=(ni h2).2.2.1;omega))]
    rfl
  |made m st e1 e2=>
    obtain ⟨h1,h2,h3,h4⟩:=h.psh e1
    obtain ⟨k1,k2,k3⟩:=e2.can h1 h2
    refine ⟨k1,λw=> ?_,k3⟩
    rw [<-h3]
    unfold tJ
    rw [k2,e2.front]
theorem MinR.same{q q':Seq}{p p' r r':Seq×Int}(h:PushR q p)(h':PushR q' p')(k:MinR p r)(k':MinR p' r')(h0:r.2=0)(h0':r'.2=0)(he: ∀w,tJ q w=tJ q' w):r.1=r'.1:=by
  obtain ⟨a1,a2,_⟩:=k.can h h0
  obtain ⟨b1,b2,_⟩:=k'.can h' h0'
  exact wm_ a1 b1 λw=>by rw [a2,b2,he]
theorem MinR.uniq{q:Seq}{p r r':Seq×Int}(h:PushR q p)(k:MinR p r)(k':MinR p r'):r=r':=by
  obtain ⟨a1,a2⟩:=MinR.err' h k
  obtain ⟨b1,b2⟩:=MinR.err' h k'
  refine Prod.ext ?_ (a1.trans b1.symm)
  by_cases c:p.2=0
  · exact k.same h h k' (by rw [a1];exact c) (by rw [b1];exact c) λ_=>rfl
  rw [a2 (by rw [a1];exact c),b2 (by rw [b1];exact c)]
end Go.Proofs.YtchebnpdnfhenaaGreatDoor
end

noncomputable section
namespace Go.E
open Go
def SrcC{α:Type}(σ:aj)(H:List Res)(size:Nat)(enc:α->List Value)(s:Value)(ls:List α):Prop:=
  ∃a c,s= .slice a ls.length c/\ ∀(P:Program) (w:World),jS σ H w-> ∀n,n<=ls.length->(Builtin.firstCells size n s).run P w= .ok ((ls.take n).flatMap enc).toArray w
theorem q2_{α:Type}{enc:α->List Value}{size:Nat}(hl: ∀x,(enc x).length=size)(l:List α)(n:Nat):(l.take n).flatMap enc=(l.flatMap enc).take (n * size):=k0_ hl l n
theorem SrcC.sealed{α:Type}{σ:aj}{H:List Res}{size:Nat}{enc:α->List Value}{s:Value}{ls:List α}(h:RS σ size enc s ls)(hl: ∀x,(enc x).length=size):SrcC σ H size enc s ls:=by
  obtain ⟨a,c,rfl,hn,hc⟩:=h.rv.sl
  refine ⟨a,c,rfl,λP w hw n hle=> ?_⟩
  cases a with
  |none=>
    obtain ⟨h1,_⟩:=hn rfl
    have:ls=[]:=oU h1
    subst this
    simp [Builtin.firstCells]
  |some ad=>
    refine run_firstCells_some w size n ad _ _ _ (by rw [tK hl,List.length_take];congr 1;omega) λj v hj=> ?_
    rw [q2_ hl,List.getElem?_take]at hj
    split at hj
    · exact hw.cell (h.rv.cell ad _ c rfl j v hj)
    cases hj
theorem u6_{α:Type}{enc:α->List Value}{size:Nat}(hl: ∀x,(enc x).length=size)(l m:List α)(k:Nat)(hk:k+m.length<=l.length):
    oM (l.flatMap enc) (k * size) (m.flatMap enc)=(l.take k++(m++l.drop (k+m.length))).flatMap enc:=by
  rw [List.flatMap_append,List.flatMap_append,oM,q2_ hl l k,tK hl m,<-Nat.add_mul]
  have h1:l.flatMap enc=(l.take (k+m.length)).flatMap enc++(l.drop (k+m.length)).flatMap enc:=by rw [<-List.flatMap_append,List.take_append_drop]
  have h2:(l.flatMap enc).drop ((k+m.length) * size)=(l.drop (k+m.length)).flatMap enc:=by
    rw [h1,List.drop_append_of_le_length (by rw [tK hl,List.length_take,Nat.min_eq_left hk];exact Nat.le_refl _),List.drop_of_length_le (by rw [tK hl,List.length_take,Nat.min_eq_left hk];exact Nat.le_refl _),List.nil_append]
  rw [h2];try rw [qA]
theorem OpOk.copyV {X : Ctx} {e : Env} {σ : aj} {F : List Res} {o : Oper} {x y : Operand} {K : Env -> aj -> List Res -> Prop} {α : Type} {T ty E size k m' d : Nat} {enc : α -> List Value} {v u s : Value} {l ls : List α}
    (ho:o.op= .call {callee:= .builtin .copy,args:= #[x,y],argTypes:= #[T,ty]}) (ht:X.P.underlying T=some (.slice E)) (hs:szOf X.P E=some size) (hd:o.dst=some d) (hn:Nat.blt d X.n=true)
    (hx:ev e x=u) (hv:VwOk v u size k m') (hm:l.length - k=m') (hk:k<=l.length) (hy:ev e y=s) (hsrc:SrcC σ (φ E size enc v l::F) size enc s ls) (hl: ∀x,(enc x).length=size) (h0:0<size) (h1: ∀x, ∀u∈enc x,u.oneCell'=true)
    (kk:K (upd e d (.int .i64 ((min ls.length (l.length - k):Nat):Int))) σ (φ E size enc v (l.take k++(ls.take (min ls.length (l.length - k))++l.drop (k+min ls.length (l.length - k))))::F)):OpOk X o e σ (φ E size enc v l::F) K:=by
  subst hm
  intro u0 C0 τ0 w a hw ha K' Q hK
  obtain ⟨hown,hone,hbg⟩:=hw.holds _ (ji ..)
  have hsees:jS σ (φ E size enc v l::F) w:=⟨hw.fit,hw.holds⟩
  obtain ⟨as',cs',rfl,hfirst⟩:=hsrc
  obtain ⟨a',c',rfl,hnn,hc⟩:=hv.sl
  have hmin: ∀p q:Nat,Nat.min p q=min p q:=λ_ _=>rfl
  generalize hN:min ls.length (l.length - k)=N at kk
  have hN1:N<=ls.length:=by omega
  have hN2:N<=l.length - k:=by omega
  have hlenN:(ls.take N).length=N:=by rw [List.length_take];omega
  have hlen:(l.take k++(ls.take N++l.drop (k+N))).length=l.length:=by simp only [fU,List.length_take,List.length_drop];omega
  have hf:=hfirst X.P w hsees N hN1
  have hsz:=zl (P:=X.P) hs
  have hgo:goInt N= .int .i64 ((N:Nat):Int):=rfl
  cases a' with
  |none=>
    obtain ⟨h2,_⟩:=hnn rfl
    have hN0:N=0:=by omega
    subst hN0
    have e1:l.take k++(ls.take 0++l.drop (k+0))=l:=by rw [List.take_zero,List.nil_append,Nat.add_zero,List.take_append_drop]
    rw [e1]at kk
    have hrun:(Builtin.copy_ #[T,ty] o.type #[.slice none (l.length - k) c',.slice as' ls.length cs']).run X.P w= .ok (.int .i64 ((0:Nat):Int)) w:=by
      simp [Builtin.copy_,run_underlying ht,Builtin.lenOf,hsz,hmin,hN,hf,goInt]
    refine Oper.vP (v:= .int .i64 ((0:Nat):Int)) (w':=w) ?_ (hK _ _ _ _ _ kk hw (xQ ha hd hn _))
    rw [ha.eval']
    simp [execOp,ho,resolve,invoke,builtin,hx,hy,hrun]
  |some ad=>
    by_cases hj:0<l.length - k
    · have hel:=hv.el 0 hj
      rcases id hown.2 with ⟨hvn,hmn⟩|⟨g,cap,cur,rfl,_⟩
      · omega
      simp only [oK,Nat.zero_mul,Nat.add_zero]at hel
      have had:ad=⟨g,k * size,none⟩:=by
        have h3:(ad.add 0)=(⟨g,0,none⟩:Addr).add (k * size):=by injection hel with h;injection h
        rw [Dv]at h3
        simpa [Addr.add]using h3
      subst had
      obtain ⟨w',hst,hown',hgr,hdr⟩:=World.ownsRow.spliced X.P hown (k:=k * size) (vs:=(ls.take N).flatMap enc) (by rw [tK hl,tK hl,hlenN,<-Nat.add_mul];exact Nat.mul_le_mul_right _ (by omega)) (λu hu=>by
        obtain ⟨q,_,hq⟩:=List.mem_flatMap.1 hu
        exact h1 q u hq)
      have hsp:=u6_ hl l (ls.take N) k (by rw [hlenN];omega)
      rw [hlenN]at hsp
      rw [hsp]at hown'
      have hrun:(Builtin.copy_ #[T,ty] o.type #[.slice (some ⟨g,k * size,none⟩) (l.length - k) c',.slice as' ls.length cs']).run X.P w= .ok (.int .i64 ((N:Nat):Int)) w':=by
        simp [Builtin.copy_,run_underlying ht,Builtin.lenOf,hsz,hmin,hN,hf,hst,goInt]
      have hR:Reach u0 C0 τ0 σ w' (φ E size enc (.slice (some ⟨g,0,none⟩) l.length cap) (l.take k++(ls.take N++l.drop (k+N)))::F):=by
        refine hw.GX (some g) (some g) rfl rfl hgr.os hgr.tape hgr.output hgr.size hdr (λq hq hne=>hgr.block q hq (λhx=>hne (by cases hx;rfl))) ?_ (λq hq=> .inl hq)
        show _/\_/\_
        rw [hlen]
        refine ⟨hown',λu hu=> ?_,hbg⟩
        obtain ⟨q,_,hq⟩:=List.mem_flatMap.1 hu
        exact h1 q u hq
      refine Oper.vP (v:= .int .i64 ((N:Nat):Int)) (w':=w') ?_ (hK _ _ _ _ _ kk hR (xQ ha hd hn _))
      rw [ha.eval']
      simp [execOp,ho,resolve,invoke,builtin,hx,hy,hrun]
    have hN0:N=0:=by omega
    subst hN0
    have e1:l.take k++(ls.take 0++l.drop (k+0))=l:=by rw [List.take_zero,List.nil_append,Nat.add_zero,List.take_append_drop]
    rw [e1]at kk
    have hrun:(Builtin.copy_ #[T,ty] o.type #[.slice (some ad) (l.length - k) c',.slice as' ls.length cs']).run X.P w= .ok (.int .i64 ((0:Nat):Int)) w:=by
      simp [Builtin.copy_,run_underlying ht,Builtin.lenOf,hsz,hmin,hN,hf,goInt,storeCells]
    refine Oper.vP (v:= .int .i64 ((0:Nat):Int)) (w':=w) ?_ (hK _ _ _ _ _ kk hw (xQ ha hd hn _))
    rw [ha.eval']
    simp [execOp,ho,resolve,invoke,builtin,hx,hy,hrun]
section
variable {α:Type} {σ:aj} {k:Pk α} {z w:List (α×k.P)} {l m:List α}
theorem ZOk.take(h:ZOk σ k z l)(n:Nat):ZOk σ k (z.take n) (l.take n):=⟨by rw [List.map_take,h.eq],λu hu=>h.ok u (List.mem_of_mem_take hu)⟩
theorem ZOk.drop(h:ZOk σ k z l)(n:Nat):ZOk σ k (z.drop n) (l.drop n):=⟨by rw [List.map_drop,h.eq],λu hu=>h.ok u (List.mem_of_mem_drop hu)⟩
end
theorem OpOk.da_{X:Ctx}{e:Env}{σ:aj}{F:List Res}{o:Oper}{x y:Operand}{K:Env->aj->List Res->Prop}{α:Type}{T ty E size p m' d N q:Nat}{enc:α->List Value}{v u s:Value}{l ls:List α}
    (ho:o.op= .call {callee:= .builtin .copy,args:= #[x,y],argTypes:= #[T,ty]}) (ht:X.P.underlying T=some (.slice E)) (hs:szOf X.P E=some size) (hd:o.dst=some d) (hn:Nat.blt d X.n=true)
    (hx:ev e x=u) (hv:VwOk v u size p m') (hq:l.length=q) (hm:q - p=m') (hk:p<=q) (hy:ev e y=s) (hsrc:SrcC σ (φ E size enc v l::F) size enc s ls) (hl: ∀x,(enc x).length=size) (h0:0<size) (h1: ∀x, ∀u∈enc x,u.oneCell'=true) (hN:min ls.length (q - p)=N)
    (kk:K (upd e d (.int .i64 ((N:Nat):Int))) σ (φ E size enc v (l.take p++(ls.take N++l.drop (p+N)))::F)):OpOk X o e σ (φ E size enc v l::F) K:=by
  subst hq;subst hN
  exact OpOk.copyV ho ht hs hd hn hx hv hm hk hy hsrc hl h0 h1 kk
end Go.E
end

noncomputable section
namespace Go.Proofs.YtchebnpdnfhenaaGreatDoor
open Go Go.E Go.E.OpVal Go.E.OpOk Go.Proofs.Tryz
open List (replicate)
theorem pf35:plainF Tryz.prog 35=true:=by kernel_rfl
theorem pf66:plainF Tryz.prog 66=true:=by kernel_rfl
theorem pf67:plainF Tryz.prog 67=true:=by kernel_rfl
theorem pf68:plainF Tryz.prog 68=true:=by kernel_rfl
theorem V7:plainF Tryz.prog 69=true:=by kernel_rfl
def Nq(x0:Seq)(gq:ak)(bZ:Nat)(x1:ak)(uf:ak)(dF:ak)(gy:Nat):Option ((ak×ak×Nat)⊕((ak×ak×Nat)⊕(ak×ak))):=
 aQ (decide ((gy:Int)<(((nth x0.next ((nth gq bZ 0).toNat) []).length:Nat):Int))) (aQ (decide (0<=(nth (nth x0.next ((nth gq bZ 0).toNat) []) gy 0))) (grd (0<=(nth (nth x0.next ((nth gq bZ 0).toNat) []) gy 0)/\(nth (nth x0.next ((nth gq bZ 0).toNat) []) gy 0)<(x1.length:Int)) (grd (0<=(nth x1 ((nth (nth x0.next ((nth gq bZ 0).toNat) []) gy 0).toNat) 0)/\(nth x1 ((nth (nth x0.next ((nth gq bZ 0).toNat) []) gy 0).toNat) 0)<(uf.length:Int)) (aQ (decide ((nth uf ((nth x1 ((nth (nth x0.next ((nth gq bZ 0).toNat) []) gy 0).toNat) 0).toNat) 0)<0)) (grd (0<=(nth (nth x0.next ((nth gq bZ 0).toNat) []) gy 0)/\(nth (nth x0.next ((nth gq bZ 0).toNat) []) gy 0)<(x1.length:Int)) (grd (0<=(nth x1 ((nth (nth x0.next ((nth gq bZ 0).toNat) []) gy 0).toNat) 0)/\(nth x1 ((nth (nth x0.next ((nth gq bZ 0).toNat) []) gy 0).toNat) 0)<(uf.length:Int)) (grd ((dF.length+[(nth (nth x0.next ((nth gq bZ 0).toNat) []) gy 0)].length) * 8<=140737488355328) (nxt ((uf.set ((nth x1 ((nth (nth x0.next ((nth gq bZ 0).toNat) []) gy 0).toNat) 0).toNat) ((dF.length:Nat):Int)),(dF++[(nth (nth x0.next ((nth gq bZ 0).toNat) []) gy 0)]),(gy+1)))))) (nxt (uf,dF,(gy+1)))))) (nxt (uf,dF,(gy+1)))) (fin (nxt (uf,dF,(bZ+1))))
def Vh(x0:Seq)(x1:ak)(gX:ak)(gq:ak)(bZ:Nat):Option ((ak×ak×Nat)⊕(ak×ak)):=
 aQ (decide ((bZ:Int)<((gq.length:Nat):Int))) (grd (0<=(nth gq bZ 0)/\(nth gq bZ 0)<(x0.next.length:Int)) (bC (λq:ak×ak×Nat=>Nq x0 gq bZ x1 q.1 q.2.1 q.2.2) (gX,gq,0))) (fin (some (gq,gX)))
def QI(x2:Int)(x1:ak)(x0:Seq)(zH:ak)(Bj:Nat):Option ((ak×Nat)⊕(ak×ak)):=
 aQ (decide ((Bj:Int)<(((replicate x2.toNat (0:Int)).length:Nat):Int))) (grd (Bj<zH.length) (nxt ((zH.set Bj (-1)),(Bj+1)))) (fin (grd (0<x1.length) (grd (0<=(nth x1 0 0)/\(nth x1 0 0)<(zH.length:Int)) (bC (λq:ak×ak×Nat=>Vh x0 x1 q.1 q.2.1 q.2.2) ((zH.set ((nth x1 0 0).toNat) 0),[0],0)))))
def En_(x0:Seq)(x1:ak)(x2:Int):Option (ak×ak):=
 grd (0<=x2/\8 * x2.toNat<=281474976710656) (bC (λq:ak×Nat=>QI x2 x1 x0 q.1 q.2) ((replicate x2.toNat (0:Int)),0))
def H2_(σ:aj)(r:ak×ak):Value->aj->List Res->Prop:=λv σ' H'=>
 ∃a1 c1 a2 c2,v= .tuple #[.slice a1 r.1.length c1,.slice a2 r.2.length c2]/\dH σ' aF a1 c1 r.1/\dH σ' aF a2 c2 r.2/\H'=[]
theorem Hn_{σ:aj}{x0:Seq}{x1:ak}{x2:Int}(au:RZ σ (aC 1 aF bn) (.slice aN x0.next.length aK) x0.next)(aV:RZ σ (aC 1 aI bF) (.slice aA x0.outs.length aY) x0.outs)(aS:dH σ eq_ aW ay x0.fin)(aO:dH σ aI bI bD x0.tail)(dN:dH σ aF jd jc x1){r:ak×ak}(hh:En_ x0 x1 x2=some r):
  Con prog 67 #[.agg (qF x0 aN aK aA aY aW ay bI bD),.slice jd x1.length jc,.int .i64 x2] σ [] (H2_ σ r):=by
 dsimp only [En_]at hh
 have f0_0b:=au.big
 have f0_1b:=aV.big
 have f0_2b:=aS.rv.big
 have f0_3b:=aO.rv.big
 have f1_0b:=dN.rv.big
 refine Con.mk (n:=77) Tryz.func67 z z z (λw0=> ?_)
 refine ξ (ν z (boxA z z z z (λbG=> ?_)))
 refine Ξ z z (Ξ z z (ε (ξ (ψ z z ?_))))
 obtain ⟨u5,hh⟩:=aP hh
 refine ν rfl (oW (m:=x2.toNat) (enc:=aF) (0:Int) rfl bY dh uJ lq rfl rfl (vN u5.1) (vN u5.1) (by omega) (by decide) bn (by decide) rfl jR (λjD jC=> ?_))
 refine Ξ z z (ε (θ (ξ (Ξ z z (ω z (lenC z bY z) (ψ z z (ε (υ (TC.iE (α:=(ak×Nat)×(Unit)) (rgs [(9,1),(18,7)]) (λg=>[(18,.int .i64 ((g.1.2:Nat):Int))]) (λg=>[jh bG x0 aN aK aA aY aW ay bI bD,φ 3 1 aF (.slice jD (replicate x2.toNat (0:Int)).length jC) g.1.1]) (λg=>σ) (λg=>bC (λq:ak×Nat=>QI x2 x1 x0 q.1 q.2) g.1=some r/\g.1.1.length=(replicate x2.toNat (0:Int)).length) (λg=>fZ (λq:ak×Nat=>QI x2 x1 x0 q.1 q.2) g.1) (((replicate x2.toNat (0:Int)),0),()) (Θ [1] 2) z (by repeat (first|exact trivial|refine ⟨z,?_⟩)) ⟨hh,z⟩ (λg1 j1 hg1=> ?_))))))))))
 obtain ⟨⟨zH,Bj⟩,_⟩:=g1
 obtain ⟨hh,Kz⟩:=hg1
 try dsimp only at Kz ⊢
 obtain ⟨z1,hh,hR1⟩:=iq hh
 dsimp only [QI]at hh
 refine χ (i:=1) z (λ_ hb115 _=> ?_)
 refine ξ (ω z (OpVal.lss z z z) (ε (θ (TC.cD z hh (λh116 hh=> ?_) (λh116 hh=> ?_)))))
 ·refine ι (S.n (θ (υ (ξ (ψ z z (ψ z z (ε (η (Ξ z z (ψ z z ?_))))))))))
  obtain ⟨u15,hh⟩:=aP hh
  refine TL.isSl (i:=1) z (λhs117 _ _=> ?_)
  refine ω z (bT z bY dh z z hs117 (by omega)) (ζ 1 z z ?_)
  have B_:(zH.set Bj (-1)).length=(replicate x2.toNat (0:Int)).length:=by rw [fQ];exact Kz
  refine ν z (lF (-1) z dh z z z z bn jR (by omega) (by omega) ?_)
  refine TL.nil (B.n (S.n (η (ω z (OpVal.succ z z z (by omega)) (ψ z z (ε ?_))))))
  obtain ⟨hh,X4⟩:=dL hR1 hh
  exact lf (((zH.set Bj (-1)),(Bj+1)),()) X4 ⟨hh,B_⟩ (Θ [1] 2)
 refine TC.exit (S.x (S.x ?_))
 replace hh:=dI hR1 hh
 refine Δ (S.n (ξ (ν z (OpOk.lit (enc:=aF) [0] z bY dh lq z z z bn (by decide) (by decide) (0:Int) z (by decide) z (by decide) jR (λyg xW=> ?_)))))
 refine Ξ z z (ε (ξ (Ξ z z (Ξ z z ?_))))
 obtain ⟨u23,hh⟩:=aP hh
 refine ω z (bT (i:=0) z bY dh z z dN.rv.sl (by omega)) (ω z (fD (0:Int) z fC z dN (by omega) z) ?_)
 obtain ⟨u25,hh⟩:=aP hh
 refine TL.isSl (i:=2) z (λhs123 _ _=> ?_)
 refine ω z (OpVal.index z bY dh z z hs123 u25.1 u25.2) (ζ 2 z z ?_)
 have BZ:(zH.set ((nth x1 0 0).toNat) 0).length=(replicate x2.toNat (0:Int)).length:=by rw [fQ];exact Kz
 refine ν z (lF 0 z dh z z z z bn jR (by omega) (by omega) ?_)
 refine ε (θ (ξ (ψ z z (ε (υ (TC.iE (α:=(ak×ak×Nat)×((Option Addr)×Nat)) (rgs [(10,2),(13,1),(31,44)]) (λg=>[(10,.slice g.2.1 g.1.2.1.length g.2.2),(11,.int .i64 ((g.1.2.2:Nat):Int))]) (λg=>[jh bG x0 aN aK aA aY aW ay bI bD,φ 3 1 aF (.slice jD (replicate x2.toNat (0:Int)).length jC) g.1.1,φ 3 1 aF (.slice g.2.1 g.1.2.1.length g.2.2) g.1.2.1]) (λg=>σ) (λg=>bC (λq:ak×ak×Nat=>Vh x0 x1 q.1 q.2.1 q.2.2) g.1=some r/\g.1.1.length=(replicate x2.toNat (0:Int)).length) (λg=>fZ (λq:ak×ak×Nat=>Vh x0 x1 q.1 q.2.1 q.2.2) g.1) (((zH.set ((nth x1 0 0).toNat) 0),[0],0),(yg,xW)) (Θ [1,1,2] 3) z (by repeat (first|exact trivial|refine ⟨z,?_⟩)) ⟨hh,BZ⟩ (λg2 j2 hg2=> ?_)))))))
 obtain ⟨⟨gX,gq,bZ⟩,⟨a141,PG⟩⟩:=g2
 obtain ⟨hh,qN⟩:=hg2
 try dsimp only at qN ⊢
 obtain ⟨z1,hh,hR1⟩:=iq hh
 dsimp only [Vh]at hh
 refine χ (i:=1) z (λ_ U3 _=> ?_)
 refine χ (i:=2) z (λ_ C_ _=> ?_)
 refine θ (ξ (ψ z z (Ξ z z (ω z (lenC z bY z) (ω z (OpVal.lss z z z) (ε (TC.cD z hh (λEF hh=> ?_) (λEF hh=> ?_))))))))
 ·refine ι (S.n (θ (υ (θ ?_))))
  obtain ⟨u38,hh⟩:=aP hh
  refine TC.draw [] (by kernel_rfl) (TA.a 0 z (aU z kW z) z (TA.b 1 z (bg z j_ z (i:=0) z z) z (TA.a 2 z (gK (.inl z) z) z (TA.a 3 z (cO (.inl z) z) z (TA.isSl (i:=2) z (λwO _ _=> ?_))))))
  refine TA.b 4 z (bT z bY dh z z wO (by omega)) z (TA.b 5 z (nZ (0:Int) z fC z (q:=2) z bn (by omega) z) z (TA.b 6 z (OpVal.index z eX fP z z au.isSl u38.1 u38.2) z ?_))
  obtain ⟨yx,nT,KU⟩:=RZ.seg au ((nth gq bZ 0).toNat) (by omega)
  replace nT:dH _ aF yx.1 yx.2 (nth x0.next ((nth gq bZ 0).toNat) []):=nT
  have hk150b:=nT.rv.big
  refine TA.b 7 z (OpVal.of (lZ z hs_ z KU z) (v':= .slice yx.1 ((nth x0.next ((nth gq bZ 0).toNat) []).length) yx.2) z) z (TA.b 8 z (lenC z bY z) z (TA.a 9 z (cO (.inl z) z) z (TA.dn (S.n (υ (TC.iE (α:=(ak×ak×Nat)×((Option Addr)×Nat)) (rgs [(10,1),(13,1),(46,29)]) (λg=>[(10,.slice g.2.1 g.1.2.1.length g.2.2),(46,.int .i64 ((g.1.2.2:Nat):Int))]) (λg=>[jh bG x0 aN aK aA aY aW ay bI bD,φ 3 1 aF (.slice jD (replicate x2.toNat (0:Int)).length jC) g.1.1,φ 3 1 aF (.slice g.2.1 g.1.2.1.length g.2.2) g.1.2.1]) (λg=>σ) (λg=>bC (λq:ak×ak×Nat=>Nq x0 gq bZ x1 q.1 q.2.1 q.2.2) g.1=some z1/\g.1.1.length=(replicate x2.toNat (0:Int)).length) (λg=>fZ (λq:ak×ak×Nat=>Nq x0 gq bZ x1 q.1 q.2.1 q.2.2) g.1) ((gX,gq,0),(a141,PG)) (Θ [2,2,2] 3) z (by repeat (first|exact trivial|refine ⟨z,?_⟩)) ⟨hh,qN⟩ (λg3 j3 hg3=> ?_)))))))
  obtain ⟨⟨uf,dF,gy⟩,⟨a167,c168⟩⟩:=g3
  obtain ⟨hh,BL⟩:=hg3
  try dsimp only at BL ⊢
  obtain ⟨z2,hh,hR2⟩:=iq hh
  dsimp only [Nq]at hh
  refine χ (i:=1) z (λ_ hb170 _=> ?_)
  refine χ (i:=2) z (λ_ hb171 _=> ?_)
  refine ξ (ω z (OpVal.lss z z z) (ε (θ (TC.cD z hh (λh172 hh=> ?_) (λh172 hh=> ?_)))))
  ·refine ι (S.n (θ (υ (ξ (ω z (bT z bY dh z z nT.rv.sl (by omega)) (ω z (fD (0:Int) z fC z nT (by omega) z) (ψ z z (ε (ξ (ψ z z (ω z (OpVal.geq z z z) (TL.j z z (TL.split 52 z (λAa=> ?_) (λAa=> ?_))))))))))))))
   ·replace hh:=ig Aa hh
    replace Aa:=jk Aa
    refine Ψ z (gK (.inl z) z) (Ψ z (gK (.inl z) z) (Ψ z (cO (.inl z) z) ?_))
    obtain ⟨NZ,hh⟩:=aP hh
    refine Ψ z (OpVal.index z bY dh z z dN.rv.sl NZ.1 NZ.2) (Ψ z (fD (0:Int) z fC z dN (by omega) z) ?_)
    obtain ⟨Jj,hh⟩:=aP hh
    refine TL.isSl (i:=1) z (λhs174 _ _=> ?_)
    refine Ψ z (OpVal.index z bY dh z z hs174 Jj.1 Jj.2) (Ψ z (nZ (0:Int) z fC z (q:=1) z bn (by omega) z) (Ψ z (OpVal.lss z z z) (ω z (dQ z z z) (ε (TC.cD z hh (λLj hh=> ?_) (λLj hh=> ?_))))))
    ·refine ξ (Ξ z z (Ξ z z (ψ z z ?_)))
     obtain ⟨u61,hh⟩:=aP hh
     refine ω z (OpVal.index z bY dh z z dN.rv.sl u61.1 u61.2) (ω z (fD (0:Int) z fC z dN (by omega) z) (Ξ z z (ω z (lenC z bY z) ?_)))
     obtain ⟨u65,hh⟩:=aP hh
     refine TL.isSl (i:=1) z (λhs176 _ _=> ?_)
     refine ω z (OpVal.index z bY dh z z hs176 u65.1 u65.2) (ζ 1 z z ?_)
     have Kq:(uf.set ((nth x1 ((nth (nth x0.next ((nth gq bZ 0).toNat) []) gy 0).toNat) 0).toNat) ((dF.length:Nat):Int)).length=(replicate x2.toNat (0:Int)).length:=by rw [fQ];exact BL
     refine ν z (lF ((dF.length:Nat):Int) z dh z z z z bn jR (by omega) (by omega) ?_)
     refine ε (η (Ξ z z (ψ z z (ν z (OpOk.lit (enc:=aF) [(nth (nth x0.next ((nth gq bZ 0).toNat) []) gy 0)] z bY dh lq z z z bn (by decide) (by decide) (0:Int) z (by decide) z (by decide) jR (λIi H8=> ?_))))))
     refine ζ 3 z z ?_
     obtain ⟨u70,hh⟩:=aP hh
     refine ν z (as_ z z bY dh uJ lq z z (by decide) z z z (.inr ⟨_,0,z⟩) (by simpa using u70) (by decide) (λa181 c182=> ?_))
     refine Ξ z z (TL.nil (B.n (S.n (η (ω z (OpVal.succ z z z (by omega)) (ψ z z (ε ?_)))))))
     obtain ⟨hh,DZ⟩:=dL hR2 hh
     exact lf (((uf.set ((nth x1 ((nth (nth x0.next ((nth gq bZ 0).toNat) []) gy 0).toNat) 0).toNat) ((dF.length:Nat):Int)),(dF++[(nth (nth x0.next ((nth gq bZ 0).toNat) []) gy 0)]),(gy+1)),(a181,c182)) DZ ⟨hh,Kq⟩ (Θ [2,3] 3)
    refine ι (B.n (S.n (η (ω z (OpVal.succ z z z (by omega)) (ψ z z (ε ?_))))))
    obtain ⟨hh,DY⟩:=dL hR2 hh
    exact lf ((uf,dF,(gy+1)),(a167,c168)) DY ⟨hh,BL⟩ (Θ [2,2,2] 3)
   replace hh:=iw Aa hh
   replace Aa:=jy Aa
   refine π z (π z (π z (π z (π z (π z (π z (π z (ω z (dU z z z) (ε (TC.f z (ι (B.n (S.n (η (ω z (OpVal.succ z z z (by omega)) ?_)))))))))))))))
   refine ψ z z (ε ?_)
   obtain ⟨hh,DX⟩:=dL hR2 hh
   exact lf ((uf,dF,(gy+1)),(a167,c168)) DX ⟨hh,BL⟩ (Θ [2,2,2] 3)
  refine TC.exit (S.x (S.x ?_))
  replace hh:=dI hR2 hh
  refine Δ (B.n (S.n (η (ψ z z (ω z (OpVal.succ z z z (by omega)) (ψ z z (ε ?_)))))))
  obtain ⟨hh,XD⟩:=dL hR1 hh
  exact lf ((uf,dF,(bZ+1)),(a167,c168)) XD ⟨hh,BL⟩ (Θ [2,2,2] 3)
 refine TC.exit (S.x (S.x ?_))
 replace hh:=dI hR1 hh
 refine Δ (S.n (ξ (Ξ z z (Ξ z z (Ξ z z (Ξ z z (ε ?_)))))))
 rw [<-qN]
 refine TC.front 2 z z (TC.og bn (λτ189 pO FN=> ?_))
 have hr187b:=FN.rv.big
 refine TC.front 1 z z (TC.og bn (λτ192 Yi Ue=> ?_))
 replace FN:=FN.mono Yi
 have hr190b:=Ue.rv.big
 refine TC.rt 0 ?_
 obtain rfl:=so hh
 exact rq [6,7] ⟨a141,PG,jD,jC,z,FN,Ue,z⟩
def Qq(x1:ak)(x0:B_1)(qU:B_1)(aT:Nat):Option ((B_1×Nat)⊕(B_1)):=
 aQ (decide ((aT:Int)<((x1.length:Nat):Int))) (grd (0<=(nth x1 aT 0)/\(nth x1 aT 0)<(x0.length:Int)) (grd (aT<qU.length) (nxt ((qU.set aT (nth x0 ((nth x1 aT 0).toNat) false)),(aT+1))))) (fin (some qU))
def Fe_(x0:B_1)(x1:ak):Option (B_1):=
 grd (1 * x1.length<=281474976710656) (bC (λq:B_1×Nat=>Qq x1 x0 q.1 q.2) ((replicate x1.length false),0))
def H5_(σ:aj)(r:B_1):Value->aj->List Res->Prop:=λv σ' H'=>
 ∃a1 c1,v= .slice a1 r.length c1/\σ=σ'/\H'=[dR 4 eq_ a1 c1 r]
theorem Ge_{σ:aj}{x0:B_1}{x1:ak}(au:dH σ eq_ aN aK x0)(dN:dH σ aF jd jc x1){r:B_1}(hh:Fe_ x0 x1=some r):
  Con prog 68 #[.slice aN x0.length aK,.slice jd x1.length jc] σ [] (H5_ σ r):=by
 dsimp only [Fe_]at hh
 have f0_0b:=au.rv.big
 have f1_0b:=dN.rv.big
 refine Con.mk (n:=27) Tryz.func68 z z z (λw0=> ?_)
 refine ξ (Ξ z z (ε (ξ (Ξ z z (ω z (lenC z bY z) ?_)))))
 obtain ⟨u4,hh⟩:=aP hh
 refine ν z (oW (enc:=eq_) false z g_ gV GV Ap z z z z (by omega) (by decide) iQ (by decide) z qQ (λyL xY=> ?_))
 refine Ξ z z (ε (θ (ξ (Ξ z z (ω z (lenC z bY z) (ψ z z (ε (υ (TC.iE (α:=(B_1×Nat)×(Unit)) (rgs [(6,2),(13,13)]) (λg=>[(13,.int .i64 ((g.1.2:Nat):Int))]) (λg=>[φ 4 1 eq_ (.slice yL (replicate x1.length false).length xY) g.1.1]) (λg=>σ) (λg=>bC (λq:B_1×Nat=>Qq x1 x0 q.1 q.2) g.1=some r/\g.1.1.length=(replicate x1.length false).length) (λg=>fZ (λq:B_1×Nat=>Qq x1 x0 q.1 q.2) g.1) (((replicate x1.length false),0),()) (Sub.pre 1 z) z (by repeat (first|exact trivial|refine ⟨z,?_⟩)) ⟨hh,z⟩ (λg1 j1 hg1=> ?_))))))))))
 obtain ⟨⟨qU,aT⟩,_⟩:=g1
 obtain ⟨hh,sU⟩:=hg1
 try dsimp only at sU ⊢
 obtain ⟨z1,hh,hR1⟩:=iq hh
 dsimp only [Qq]at hh
 refine χ (i:=0) z (λ_ hb113 _=> ?_)
 refine ξ (ω z (OpVal.lss z z z) (ε (θ (TC.cD z hh (λjX hh=> ?_) (λjX hh=> ?_)))))
 ·refine ι (S.n (θ (υ (ξ (ψ z z (ω z (bT z bY dh z z dN.rv.sl (by omega)) (ω z (fD (0:Int) z fC z dN (by omega) z) (ψ z z (ψ z z (ε (η (Ξ z z (ψ z z (Ξ z z (ψ z z ?_)))))))))))))))
  obtain ⟨yh,hh⟩:=aP hh
  refine ω z (OpVal.index z g_ gV z z au.rv.sl yh.1 yh.2) (ω z (fD false z nX z au (by omega) z) ?_)
  obtain ⟨u21,hh⟩:=aP hh
  refine TL.isSl (i:=0) z (λJU _ _=> ?_)
  refine ω z (bT z g_ gV z z JU (by omega)) ?_
  have Ky:(qU.set aT (nth x0 ((nth x1 aT 0).toNat) false)).length=(replicate x1.length false).length:=by rw [fQ];exact sU
  refine ν z (lF (nth x0 ((nth x1 aT 0).toNat) false) z gV z z z z iQ qQ (by omega) (by omega) ?_)
  refine TL.nil (B.n (S.n (η (ω z (OpVal.succ z z z (by omega)) (ψ z z (ε ?_))))))
  obtain ⟨hh,qZ⟩:=dL hR1 hh
  exact lf (((qU.set aT (nth x0 ((nth x1 aT 0).toNat) false)),(aT+1)),()) qZ ⟨hh,Ky⟩ (Sub.pre 1 z)
 refine TC.exit (S.x (S.x ?_))
 replace hh:=dI hR1 hh
 refine Δ (S.n (ξ (Ξ z z (Ξ z z (ε ?_)))))
 rw [<-sU]
 refine TC.ret ?_
 obtain rfl:=so hh
 exact ro [dR 4 eq_ yL xY qU] z (RVs.tmp z RVs.nil) ⟨yL,xY,z,z,z⟩
def QG(x1:ak)(x0:aB)(qU:aB)(aT:Nat):Option ((aB×Nat)⊕(aB)):=
 aQ (decide ((aT:Int)<((x1.length:Nat):Int))) (grd (0<=(nth x1 aT 0)/\(nth x1 aT 0)<(x0.length:Int)) (grd (aT<qU.length) (nxt ((qU.set aT (nth x0 ((nth x1 aT 0).toNat) [])),(aT+1))))) (fin (some qU))
def Fb_(x0:aB)(x1:ak):Option (aB):=
 grd (16 * x1.length<=281474976710656) (bC (λq:aB×Nat=>QG x1 x0 q.1 q.2) ((replicate x1.length ([]:T_1)),0))
def H3_(σ:aj)(r:aB):Value->aj->List Res->Prop:=λv σ' H'=>
 ∃a1 c1,v= .slice a1 r.length c1/\σ=σ'/\H'=[dR 9 aI a1 c1 r]
theorem Fi_{σ:aj}{x0:aB}{x1:ak}(au:dH σ aI aN aK x0)(dN:dH σ aF jd jc x1){r:aB}(hh:Fb_ x0 x1=some r):
  Con prog 69 #[.slice aN x0.length aK,.slice jd x1.length jc] σ [] (H3_ σ r):=by
 dsimp only [Fb_]at hh
 have f0_0b:=au.rv.big
 have f1_0b:=dN.rv.big
 refine Con.mk (n:=27) Tryz.func69 z z z (λw0=> ?_)
 refine ξ (Ξ z z (ε (ξ (Ξ z z (ω z (lenC z bY z) ?_)))))
 obtain ⟨u4,hh⟩:=aP hh
 refine ν z (oW (enc:=aI) ([]:T_1) z fF fK zo sG z z z z (by omega) (by decide) bF (by decide) z qX (λyL xY=> ?_))
 refine Ξ z z (ε (θ (ξ (Ξ z z (ω z (lenC z bY z) (ψ z z (ε (υ (TC.iE (α:=(aB×Nat)×(Unit)) (rgs [(6,2),(13,13)]) (λg=>[(13,.int .i64 ((g.1.2:Nat):Int))]) (λg=>[φ 9 1 aI (.slice yL (replicate x1.length ([]:T_1)).length xY) g.1.1]) (λg=>σ) (λg=>bC (λq:aB×Nat=>QG x1 x0 q.1 q.2) g.1=some r/\g.1.1.length=(replicate x1.length ([]:T_1)).length) (λg=>fZ (λq:aB×Nat=>QG x1 x0 q.1 q.2) g.1) (((replicate x1.length ([]:T_1)),0),()) (Sub.pre 1 z) z (by repeat (first|exact trivial|refine ⟨z,?_⟩)) ⟨hh,z⟩ (λg1 j1 hg1=> ?_))))))))))
 obtain ⟨⟨qU,aT⟩,_⟩:=g1
 obtain ⟨hh,sU⟩:=hg1
 try dsimp only at sU ⊢
 obtain ⟨z1,hh,hR1⟩:=iq hh
 dsimp only [QG]at hh
 refine χ (i:=0) z (λ_ hb113 _=> ?_)
 refine ξ (ω z (OpVal.lss z z z) (ε (θ (TC.cD z hh (λjX hh=> ?_) (λjX hh=> ?_)))))
 ·refine ι (S.n (θ (υ (ξ (ψ z z (ω z (bT z bY dh z z dN.rv.sl (by omega)) (ω z (fD (0:Int) z fC z dN (by omega) z) (ψ z z (ψ z z (ε (η (Ξ z z (ψ z z (Ξ z z (ψ z z ?_)))))))))))))))
  obtain ⟨yh,hh⟩:=aP hh
  refine ω z (OpVal.index z fF fK z z au.rv.sl yh.1 yh.2) (ω z (fD ([]:T_1) z iK z au (by omega) z) ?_)
  obtain ⟨u21,hh⟩:=aP hh
  refine TL.isSl (i:=0) z (λJU _ _=> ?_)
  refine ω z (bT z fF fK z z JU (by omega)) ?_
  have Ky:(qU.set aT (nth x0 ((nth x1 aT 0).toNat) [])).length=(replicate x1.length ([]:T_1)).length:=by rw [fQ];exact sU
  refine ν z (lF (nth x0 ((nth x1 aT 0).toNat) []) z fK z z z z bF qX (by omega) (by omega) ?_)
  refine TL.nil (B.n (S.n (η (ω z (OpVal.succ z z z (by omega)) (ψ z z (ε ?_))))))
  obtain ⟨hh,qZ⟩:=dL hR1 hh
  exact lf (((qU.set aT (nth x0 ((nth x1 aT 0).toNat) [])),(aT+1)),()) qZ ⟨hh,Ky⟩ (Sub.pre 1 z)
 refine TC.exit (S.x (S.x ?_))
 replace hh:=dI hR1 hh
 refine Δ (S.n (ξ (Ξ z z (Ξ z z (ε ?_)))))
 rw [<-sU]
 refine TC.ret ?_
 obtain rfl:=so hh
 exact ro [dR 9 aI yL xY qU] z (RVs.tmp z RVs.nil) ⟨yL,xY,z,z,z⟩
def Qk(v24:ak×Int)(v33:ak×ak)(fA:bW)(oP:fJ)(v5:Seq×Int)(dO:Nat)(lu:ak)(fO:Nat):Option ((ak×Nat)⊕((bW×fJ×Nat)⊕(Seq×Int))):=
 aQ (decide ((fO:Int)<(((replicate 256 (0:Int)).length:Nat):Int))) (grd (fO<lu.length) (aQ (decide (0<=(nth lu fO 0))) (grd (0<=(nth lu fO 0)/\(nth lu fO 0)<(v24.1.length:Int)) (grd (0<=(nth v24.1 ((nth lu fO 0).toNat) 0)/\(nth v24.1 ((nth lu fO 0).toNat) 0)<(v33.2.length:Int)) (grd (fO<lu.length) (nxt ((lu.set fO (nth v33.2 ((nth v24.1 ((nth lu fO 0).toNat) 0).toNat) 0)),(fO+1)))))) (nxt (lu,(fO+1))))) (fin (grd ((fA.length+[lu].length) * 24<=140737488355328) (grd ((oP.length+[((replicate 256 ([]:T_1)).take 0++((nth v5.1.outs ((nth v33.1 dO 0).toNat) []).take (min (nth v5.1.outs ((nth v33.1 dO 0).toNat) []).length (replicate 256 ([]:T_1)).length)++(replicate 256 ([]:T_1)).drop (0+(min (nth v5.1.outs ((nth v33.1 dO 0).toNat) []).length (replicate 256 ([]:T_1)).length))))].length) * 24<=140737488355328) (nxt ((fA++[lu]),(oP++[((replicate 256 ([]:T_1)).take 0++((nth v5.1.outs ((nth v33.1 dO 0).toNat) []).take (min (nth v5.1.outs ((nth v33.1 dO 0).toNat) []).length (replicate 256 ([]:T_1)).length)++(replicate 256 ([]:T_1)).drop (0+(min (nth v5.1.outs ((nth v33.1 dO 0).toNat) []).length (replicate 256 ([]:T_1)).length))))]),(dO+1))))))
def Eu_(v33:ak×ak)(dO:Nat)(v5:Seq×Int)(v24:ak×Int)(fA:bW)(oP:fJ):Option ((bW×fJ×Nat)⊕(Seq×Int)):=
 grd (0<=(nth v33.1 dO 0)/\(nth v33.1 dO 0)<(v5.1.next.length:Int)) (grd (0<=(nth v33.1 dO 0)/\(nth v33.1 dO 0)<(v5.1.outs.length:Int)) (bC (λq:ak×Nat=>Qk v24 v33 fA oP v5 dO q.1 q.2) (((replicate 256 (0:Int)).take 0++((nth v5.1.next ((nth v33.1 dO 0).toNat) []).take (min (nth v5.1.next ((nth v33.1 dO 0).toNat) []).length (replicate 256 (0:Int)).length)++(replicate 256 (0:Int)).drop (0+(min (nth v5.1.next ((nth v33.1 dO 0).toNat) []).length (replicate 256 (0:Int)).length)))),0)))
def Qj(v33:ak×ak)(v5:Seq×Int)(v24:ak×Int)(vw:B_1)(lC:aB)(fA:bW)(oP:fJ)(dO:Nat):Option ((bW×fJ×Nat)⊕(Seq×Int)):=
 aQ (decide ((dO:Int)<((v33.1.length:Nat):Int))) (Eu_ v33 dO v5 v24 fA oP) (fin (some ((⟨v5.1.front,fA,oP,vw,lC⟩:Seq),0)))
def Fm_(v33:ak×ak)(v5:Seq×Int)(v24:ak×Int)(vw:B_1)(lC:aB):Option (Seq×Int):=
 bC (λq:bW×fJ×Nat=>Qj v33 v5 v24 vw lC q.1 q.2.1 q.2.2) (([]:bW),([]:fJ),0)
def Qi(x0:Seq):Option (Seq×Int):=
 bnd (Ve x0) (λv5=>aQ (decide (v5.2≠0)) (some ((⟨([]:T_1),([]:bW),([]:fJ),([]:B_1),([]:aB)⟩:Seq),v5.2)) (aQ (decide (((v5.1.next.length:Nat):Int)=0)) (some ((⟨([]:T_1),([]:bW),([]:fJ),([]:B_1),([]:aB)⟩:Seq),v5.2)) (bnd (Fd_ v5.1) (λv24=>bnd (En_ v5.1 v24.1 v24.2) (λv33=>bnd (Fe_ v5.1.fin v33.1) (λv44=>bnd (Fb_ v5.1.tail v33.1) (λv48=>Fm_ v33 v5 v24 v44 v48)))))))
def Ia_(σ:aj)(r:Seq×Int):Value->aj->List Res->Prop:=λv σ' H'=>
 ∃a1 c1 a2 c2 a3 c3 a4 c4,v= .tuple #[.agg (qF r.1 a1 c1 a2 c2 a3 c3 a4 c4),.int .i64 r.2]/\RZ σ' (aC 1 aF bn) (.slice a1 r.1.next.length c1) r.1.next/\RZ σ' (aC 1 aI bF) (.slice a2 r.1.outs.length c2) r.1.outs/\dH σ' eq_ a3 c3 r.1.fin/\dH σ' aI a4 c4 r.1.tail/\H'=[]
theorem G6_{σ:aj}{x0:Seq}(hgl:Dx σ 1 2)(au:RZ σ (aC 1 aF bn) (.slice aN x0.next.length aK) x0.next)(aV:RZ σ (aC 1 aI bF) (.slice aA x0.outs.length aY) x0.outs)(aS:dH σ eq_ aW ay x0.fin)(aO:dH σ aI bI bD x0.tail){r:Seq×Int}(hh:Qi x0=some r):
  Con prog 29 #[.agg (qF x0 aN aK aA aY aW ay bI bD)] σ [] (Ia_ σ r):=by
 dsimp only [Qi]at hh
 have f0_0b:=au.big
 have f0_1b:=aV.big
 have f0_2b:=aS.rv.big
 have f0_3b:=aO.rv.big
 refine Con.mk (n:=110) Tryz.func29 z z z (λw0=> ?_)
 refine ξ (ν z (boxA z z z z (λbG=> ?_)))
 refine ν z (OpOk.alloc z nD z z (λeY=> ?_))
 refine ψ z z (ε (ξ (ω z (lG z jw fB z (i:=1) z z) ?_)))
 obtain ⟨v5,u5,hh⟩:=dJ hh
 refine ν z (OpOk.call (Gw_ (x0:=x0) au aV aS aO u5) z z pf35 z z z z ?_)
 rintro _ τ105 _ jf ⟨a105_1,c105_1,a105_2,c105_2,a105_3,c105_3,a105_4,c105_4,rfl,hr105_0,hr105_1,hr105_2,hr105_3,rfl⟩
 replace hgl:=hgl.mono jf
 have hr105_0b:=hr105_0.big
 have hr105_1b:=hr105_1.big
 have hr105_2b:=hr105_2.rv.big
 have hr105_3b:=hr105_3.rv.big
 refine ω z (vS (.inl z) z) (ω z (OpVal.extract z z z) (ω z (OpVal.extract z z z) (ζ 1 z z (ν z (storeAll z fB z z z z z z ?_)))))
 refine ψ z z (ε (θ (ξ (ψ z z (ω z (OpVal.neq z z z) (TL.j z z (TL.split 23 z (λdW=> ?_) (λdW=> ?_))))))))
 ·replace hh:=ig dW hh
  replace dW:=jk dW
  refine π z (π z (π z (π z (ω z (dQ z z z) (ε (TC.t z (ξ (ω z (ny z wH nD z) (ψ z z (ζ 1 z z (ν z (storeAll z fB z z z z z z ?_))))))))))))
  refine ψ z z (ε (TC.rt 1 (S.r ?_)))
  obtain rfl:=so hh
  exact ro [] z (RVs.agg jw fB z (i:=0) z z (RVs.tmp z RVs.nil)) ⟨none,0,none,0,none,0,none,0,z,(RZ.nilF _ (aC 1 aF bn)),(RZ.nilF _ (aC 1 aI bF)),(RS.nilF _ eq_ iQ),(RS.nilF _ aI bF),z⟩
 replace hh:=iw dW hh
 replace dW:=jy dW
 refine Ψ z (aU z kW z) (Ψ z (bg z j_ z (i:=0) z z) (Ψ z (lenC z eX z) (Ψ z (OpVal.eql z z z) (ω z (dU z z z) (ε (TC.cD z hh (λdP hh=> ?_) (λdP hh=> ?_)))))))
 ·refine ξ (ω z (ny z wH nD z) (ψ z z (ζ 1 z z (ν z (storeAll z fB z z z z z z ?_)))))
  refine ψ z z (ε (TC.rt 1 (S.r ?_)))
  obtain rfl:=so hh
  exact ro [] z (RVs.agg jw fB z (i:=0) z z (RVs.tmp z RVs.nil)) ⟨none,0,none,0,none,0,none,0,z,(RZ.nilF _ (aC 1 aF bn)),(RZ.nilF _ (aC 1 aI bF)),(RS.nilF _ eq_ iQ),(RS.nilF _ aI bF),z⟩
 refine ι (S.n (ξ (ω z (lG z jw fB z (i:=0) z z) ?_)))
 obtain ⟨v24,u24,hh⟩:=dJ hh
 refine ν z (OpOk.call (Hr_ (x0:=v5.1) hgl hr105_0 hr105_1 hr105_2 hr105_3 u24) z z pf66 z z z z ?_)
 rintro _ τ108 _ pX ⟨a108_1,c108_1,rfl,hr108_0,rfl⟩
 replace hr105_0:=hr105_0.mono pX
 replace hr105_1:=hr105_1.mono pX
 replace hr105_2:=hr105_2.mono pX
 replace hr105_3:=hr105_3.mono pX
 have hr108_0b:=hr108_0.rv.big
 refine ω z (vS (.inl z) z) (ω z (OpVal.extract z z z) (ω z (OpVal.extract z z z) (Ξ z z (ψ z z (ε (ξ (ω z (lG z jw fB z (i:=0) z z) (Ξ z z (ψ z z ?_)))))))))
 obtain ⟨v33,u33,hh⟩:=dJ hh
 refine ν z (OpOk.call (Hn_ (x0:=v5.1) hr105_0 hr105_1 hr105_2 hr105_3 hr108_0 u33) z z pf67 z z z z ?_)
 rintro _ τ109 _ kV ⟨a109_1,c109_1,a109_2,c109_2,rfl,hr109_0,hr109_1,rfl⟩
 replace hr105_0:=hr105_0.mono kV
 replace hr105_1:=hr105_1.mono kV
 replace hr105_2:=hr105_2.mono kV
 replace hr105_3:=hr105_3.mono kV
 replace hr108_0:=hr108_0.mono kV
 have hr109_0b:=hr109_0.rv.big
 have hr109_1b:=hr109_1.rv.big
 refine ω z (vS (.inl z) z) (ω z (OpVal.extract z z z) (ω z (OpVal.extract z z z) (Ξ z z (Ξ z z (ε (TC.cutG (α:=(B_1×aB)×(Nat×(Option Addr)×Nat×(Option Addr)×Nat)) (rgs [(9,1),(43,11)]) (λg=>[(9,loc g.2.1 0)]) (λg=>[jh bG v5.1 a105_1 c105_1 a105_2 c105_2 a105_3 c105_3 a105_4 c105_4,κ eY #[.string (bs ([]:T_1)),bM,bM,bM,bM] 32,κ g.2.1 #[.string (bs v5.1.front),bM,bM,.slice g.2.2.1 g.1.1.length g.2.2.2.1,.slice g.2.2.2.2.1 g.1.2.length g.2.2.2.2.2] 32,φ 4 1 eq_ (.slice g.2.2.1 g.1.1.length g.2.2.2.1) g.1.1,φ 9 1 aI (.slice g.2.2.2.2.1 g.1.2.length g.2.2.2.2.2) g.1.2]) (λg=>τ109) (λg=>Fm_ v33 v5 v24 g.1.1 g.1.2=some r) ?_ (λg j hg=> ?_)))))))
 ·skip
  obtain ⟨v44,u44,hh⟩:=dJ hh
  obtain ⟨v48,u48,hh⟩:=dJ hh
  refine TC.draw [12] (by kernel_rfl) (TA.a 0 z (aU z GR z) z (TA.b 1 z (bg z iK z (i:=0) z z) z (TA.a 2 z (aU z uF z) z (TA.b 3 z (bg z rX z (i:=0) z z) z (TA.a 4 z (gK (.inl z) z) z (TA.a 6 z (aU z uX z) z (TA.b 7 z (bg z mJ z (i:=0) z z) z (TA.a 8 z (gK (.inl z) z) z (TA.actN [5,11] (by kernel_rfl) (an z z (OpOk.call (Ge_ hr105_2 hr109_0 u44) z z pf68 z z z z ?_) (an z z (OpOk.alloc z nD z z (λb128=>(k1 ?_))) (True.intro))))))))))))
  ·skip
   rintro _ _ _ Ym ⟨a126_1,c126_1,rfl,rfl,rfl⟩
   refine k1 (TA.actN [9,11] (by kernel_rfl) (an z z (OpOk.call (Fi_ hr105_3 hr109_0 u48) z z V7 z z z z ?_) (an z z (OpOk.alloc z nD z z (λb132=>(k2 ?_))) (True.intro))))
   ·skip
    rintro _ _ _ pV ⟨a130_1,c130_1,rfl,rfl,rfl⟩
    refine k2 (TA.a 10 z (ny z wH nD z) z (TA.ac 11 z (OpOk.alloc z nD z z (λb134=>(k3 ?_)))))
    refine TA.last 12 (by kernel_rfl) z z z (storeAll z fB z z z z z z ?_)
    exact TZ.done (by kernel_rfl) (S.n (cf ((v44,v48),(b134,a126_1,c126_1,a130_1,c130_1)) hh (Θ [1,2,2,4,4] 5)))
   skip
   refine TA.ac 9 z (OpOk.call (Fi_ hr105_3 hr109_0 u48) z z V7 z z z z ?_)
   rintro _ _ _ hle136 ⟨a136_1,c136_1,rfl,rfl,rfl⟩
   refine k3 (TA.a 10 z (ny z wH nD z) z (TA.front 1 z z (TA.last 12 (by kernel_rfl) z z z (storeAll z fB z z z z z z ?_))))
   exact TZ.done (by kernel_rfl) (S.n (cf ((v44,v48),(b132,a126_1,c126_1,a136_1,c136_1)) hh (Θ [1,2,2,4,4] 5)))
  skip
  refine TA.ac 5 z (OpOk.call (Ge_ hr105_2 hr109_0 u44) z z pf68 z z z z ?_)
  rintro _ _ _ hle138 ⟨a138_1,c138_1,rfl,rfl,rfl⟩
  refine k2 (TA.ac 9 z (OpOk.call (Fi_ hr105_3 hr109_0 u48) z z V7 z z z z ?_))
  rintro _ _ _ Yl ⟨a140_1,c140_1,rfl,rfl,rfl⟩
  refine k3 (TA.a 10 z (ny z wH nD z) z (TA.front 2 z z (TA.last 12 (by kernel_rfl) z z z (storeAll z fB z z z z z z ?_))))
  exact TZ.done (by kernel_rfl) (S.n (cf ((v44,v48),(b128,a138_1,c138_1,a140_1,c140_1)) hh (Θ [1,2,2,4,4] 5)))
 skip
 obtain ⟨⟨vw,lC⟩,⟨Y8,oZ,oV,qG,c119⟩⟩:=g
 have hh:=hg;clear hg
 try dsimp only
 dsimp only [Fm_]at hh
 refine χ (i:=3) z (λ_ hb142 _=> ?_)
 refine χ (i:=4) z (λ_ U4 _=> ?_)
 refine θ (ξ (Ξ z z (ω z (lenC z bY z) (ψ z z (ε (υ (TC.nilS 86 1 (aC 1 aF bn).en ?_)))))))
 have wo:=ZOk.nil τ109 (aC 1 aF bn)
 refine TC.nilS 30 1 (aC 1 aI bF).en ?_
 have AU:=ZOk.nil τ109 (aC 1 aI bF)
 refine TC.iE (α:=(bW×fJ×Nat)×((Option Addr)×Nat×(List (ak×(aC 1 aF bn).P))×(Option Addr)×Nat×(List (aB×(aC 1 aI bF).P))×aj)) (rgs [(11,5),(56,53)]) (λg=>[(56,.int .i64 ((g.1.2.2:Nat):Int))]) (λg=>[jh bG v5.1 a105_1 c105_1 a105_2 c105_2 a105_3 c105_3 a105_4 c105_4,κ eY #[.string (bs ([]:T_1)),bM,bM,bM,bM] 32,κ Y8 #[.string (bs v5.1.front),.slice g.2.1 g.1.1.length g.2.2.1,.slice g.2.2.2.2.1 g.1.2.1.length g.2.2.2.2.2.1,.slice oZ vw.length oV,.slice qG lC.length c119] 32,φ 86 1 (aC 1 aF bn).en (.slice g.2.1 g.1.1.length g.2.2.1) g.2.2.2.1,φ 30 1 (aC 1 aI bF).en (.slice g.2.2.2.2.1 g.1.2.1.length g.2.2.2.2.2.1) g.2.2.2.2.2.2.1,dR 4 eq_ oZ oV vw,dR 9 aI qG c119 lC]) (λg=>g.2.2.2.2.2.2.2) (λg=>bC (λq:bW×fJ×Nat=>Qj v33 v5 v24 vw lC q.1 q.2.1 q.2.2) g.1=some r/\ZOk g.2.2.2.2.2.2.2 (aC 1 aF bn) g.2.2.2.1 g.1.1/\ZOk g.2.2.2.2.2.2.2 (aC 1 aI bF) g.2.2.2.2.2.2.1 g.1.2.1/\aj.le τ109 g.2.2.2.2.2.2.2) (λg=>fZ (λq:bW×fJ×Nat=>Qj v33 v5 v24 vw lC q.1 q.2.1 q.2.2) g.1) ((([]:bW),([]:fJ),0),(none,0,[],none,0,[],τ109)) (Θ [6,6,2,3,6,6,6] 7) z (by repeat (first|exact trivial|refine ⟨z,?_⟩)) ⟨hh,wo,AU,(aj.le.refl _)⟩ (λg1 j1 hg1=> ?_)
 obtain ⟨⟨fA,oP,dO⟩,⟨Aj,c173,Ja,Ii,H8,I_,τ187⟩⟩:=g1
 obtain ⟨hh,nM,kE,pO⟩:=hg1
 try dsimp only at nM
 try dsimp only at kE
 dsimp only at pO
 replace hr105_0:=hr105_0.mono pO
 replace hr105_1:=hr105_1.mono pO
 replace hr108_0:=hr108_0.mono pO
 replace hr109_0:=hr109_0.mono pO
 replace hr109_1:=hr109_1.mono pO
 try dsimp only
 obtain ⟨z1,hh,hR1⟩:=iq hh
 dsimp only [Qj]at hh
 have zf175b:=nM.length
 have zf181b:=kE.length
 refine χ (i:=3) z (λ_ hb189 _=> ?_)
 refine χ (i:=4) z (λ_ hb190 _=> ?_)
 refine χ (i:=5) z (λ_ hb191 _=> ?_)
 refine χ (i:=6) z (λ_ hb192 _=> ?_)
 refine ξ (ω z (OpVal.lss z z z) (ε (θ (TC.cD z hh (λz_ hh=> ?_) (λz_ hh=> ?_)))))
 ·refine ι (S.n (θ (υ (ξ (ω z (bT z bY dh z z hr109_0.rv.sl (by omega)) (ω z (fD (0:Int) z fC z hr109_0 (by omega) z) (ψ z z (ε (TC.cutG (α:=(Unit)×((Option Addr)×Nat×(Option Addr)×Nat×aj)) [12,13,60,61] (λg=>[(12,.slice g.2.1 ((replicate 256 (0:Int)).length) g.2.2.1),(13,.slice g.2.2.2.1 ((replicate 256 ([]:T_1)).length) g.2.2.2.2.1)]) (λg=>[jh bG v5.1 a105_1 c105_1 a105_2 c105_2 a105_3 c105_3 a105_4 c105_4,κ eY #[.string (bs ([]:T_1)),bM,bM,bM,bM] 32,κ Y8 #[.string (bs v5.1.front),.slice Aj fA.length c173,.slice Ii oP.length H8,.slice oZ vw.length oV,.slice qG lC.length c119] 32,φ 86 1 (aC 1 aF bn).en (.slice Aj fA.length c173) Ja,φ 30 1 (aC 1 aI bF).en (.slice Ii oP.length H8) I_,dR 4 eq_ oZ oV vw,dR 9 aI qG c119 lC,φ 3 1 aF (.slice g.2.1 (replicate 256 (0:Int)).length g.2.2.1) (replicate 256 (0:Int)),φ 9 1 aI (.slice g.2.2.2.1 (replicate 256 ([]:T_1)).length g.2.2.2.2.1) (replicate 256 ([]:T_1))]) (λg=>g.2.2.2.2.2) (λg=>Eu_ v33 dO v5 v24 fA oP=some z1/\ZOk g.2.2.2.2.2 (aC 1 aF bn) Ja fA/\ZOk g.2.2.2.2.2 (aC 1 aI bF) I_ oP/\aj.le τ187 g.2.2.2.2.2) ?_ (λg j hg=> ?_))))))))))
  ·skip
   refine TC.draw [] (by kernel_rfl) (TA.actN [0,1] (by kernel_rfl) (an z z (oW (m:=256) (enc:=aF) (0:Int) z bY dh uJ lq z z z z (by omega) (by decide) bn (by decide) z jR (λa208 YO=>(k1 ?_))) (an z z (oW (m:=256) (enc:=aI) ([]:T_1) z fF fK zo sG z z z z (by omega) (by decide) bF (by decide) z qX (λx9 c212=>(k1 ?_))) (True.intro))))
   ·skip
    refine TA.a 2 z (gK (.inr z) z) z (TA.ac 1 z (oW (m:=256) (enc:=aI) ([]:T_1) z fF fK zo sG z z z z (by omega) (by decide) bF (by decide) z qX (λZh YN=>(k2 ?_))))
    exact TA.a 3 z (gK (.inr z) z) z (TA.dn (S.n (cf ((),(a208,YO,Zh,YN,τ187)) ⟨hh,nM,kE,(aj.le.refl _)⟩ (Θ [1,8,8,8,8,8,8,8] 9))))
   skip
   refine TA.ac 0 z (oW (m:=256) (enc:=aF) (0:Int) z bY dh uJ lq z z z z (by omega) (by decide) bn (by decide) z jR (λtq c218=>(k2 ?_)))
   exact TA.a 2 z (gK (.inr z) z) z (TA.a 3 z (gK (.inr z) z) z (TA.dn (S.n (cf ((),(tq,c218,x9,c212,τ187)) ⟨hh,nM,kE,(aj.le.refl _)⟩ (Θ [1,1,8,8,8,8,8,8,8] 9)))))
  skip
  obtain ⟨_,⟨oG,c198,Ih,c201,τ220⟩⟩:=g
  obtain ⟨hh,iy,vZ,pI⟩:=hg
  try dsimp only at iy
  try dsimp only at vZ
  dsimp only at pI
  replace hr105_0:=hr105_0.mono pI
  replace hr105_1:=hr105_1.mono pI
  replace hr108_0:=hr108_0.mono pI
  replace hr109_1:=hr109_1.mono pI
  replace nM:=nM.mono pI
  replace kE:=kE.mono pI
  try dsimp only
  dsimp only [Eu_]at hh
  have zf194b:=iy.length
  have zf195b:=vZ.length
  refine χ (i:=3) z (λ_ La _=> ?_)
  refine χ (i:=4) z (λ_ K_ _=> ?_)
  refine χ (i:=5) z (λ_ UU _=> ?_)
  refine χ (i:=6) z (λ_ hb225 _=> ?_)
  refine χ (i:=7) z (λ_ hb226 _=> ?_)
  refine χ (i:=8) z (λ_ hb227 _=> ?_)
  refine ξ (Ξ z z (ω z (aU z kW z) (ω z (bg z j_ z (i:=0) z z) (ψ z z ?_))))
  obtain ⟨u67,hh⟩:=aP hh
  refine ω z (OpVal.index z eX fP z z hr105_0.isSl u67.1 u67.2) ?_
  obtain ⟨OA,Gx,hg228⟩:=RZ.seg hr105_0 ((nth v33.1 dO 0).toNat) (by omega)
  replace Gx:dH _ aF OA.1 OA.2 (nth v5.1.next ((nth v33.1 dO 0).toNat) []):=Gx
  have hk228b:=Gx.rv.big
  refine ω z (OpVal.of (lZ z hs_ z hg228 z) (v':= .slice OA.1 ((nth v5.1.next ((nth v33.1 dO 0).toNat) []).length) OA.2) z) (TL.isSl (i:=7) z (λhs229 _ _=> ?_))
  refine ζ 7 z z ?_
  have oL:((replicate 256 (0:Int)).take 0++((nth v5.1.next ((nth v33.1 dO 0).toNat) []).take (min (nth v5.1.next ((nth v33.1 dO 0).toNat) []).length (replicate 256 (0:Int)).length)++(replicate 256 (0:Int)).drop (0+(min (nth v5.1.next ((nth v33.1 dO 0).toNat) []).length (replicate 256 (0:Int)).length)))).length=(replicate 256 (0:Int)).length:=by simp only [fU,List.length_take,List.length_drop];omega
  refine ν rfl (da_ (p:=0) (N:=(min (nth v5.1.next ((nth v33.1 dO 0).toNat) []).length (replicate 256 (0:Int)).length)) rfl bY dh rfl rfl rfl (VwOk.self hs229) rfl rfl (by omega) rfl (SrcC.sealed Gx bn) bn (by decide) jR (by first|rfl|((try simp only [List.length_take]);omega)) ?_)
  refine ε (ξ (Ξ z z (ω z (aU z o_ z) (ω z (bg z qx z (i:=1) z z) (ψ z z ?_)))))
  obtain ⟨VG,hh⟩:=aP hh
  refine ω z (OpVal.index z mY nC z z hr105_1.isSl VG.1 VG.2) ?_
  obtain ⟨Oz,Gw,hg232⟩:=RZ.seg hr105_1 ((nth v33.1 dO 0).toNat) (by omega)
  replace Gw:dH _ aI Oz.1 Oz.2 (nth v5.1.outs ((nth v33.1 dO 0).toNat) []):=Gw
  have hk232b:=Gw.rv.big
  refine ω z (OpVal.of (lZ z mJ z hg232 z) (v':= .slice Oz.1 ((nth v5.1.outs ((nth v33.1 dO 0).toNat) []).length) Oz.2) z) (TL.isSl (i:=8) z (λhs233 _ _=> ?_))
  refine ζ 8 z z ?_
  have hn235:((replicate 256 ([]:T_1)).take 0++((nth v5.1.outs ((nth v33.1 dO 0).toNat) []).take (min (nth v5.1.outs ((nth v33.1 dO 0).toNat) []).length (replicate 256 ([]:T_1)).length)++(replicate 256 ([]:T_1)).drop (0+(min (nth v5.1.outs ((nth v33.1 dO 0).toNat) []).length (replicate 256 ([]:T_1)).length)))).length=(replicate 256 ([]:T_1)).length:=by simp only [fU,List.length_take,List.length_drop];omega
  refine ν rfl (da_ (p:=0) (N:=(min (nth v5.1.outs ((nth v33.1 dO 0).toNat) []).length (replicate 256 ([]:T_1)).length)) rfl fF fK rfl rfl rfl (VwOk.self hs233) rfl rfl (by omega) rfl (SrcC.sealed Gw bF) bF (by decide) qX (by first|rfl|((try simp only [List.length_take]);omega)) ?_)
  refine ε (θ (ξ (Ξ z z (ω z (lenC z bY z) (ψ z z (ε (υ (TC.iE (α:=(ak×Nat)×(aj)) (rgs [(14,2),(78,18)]) (λg=>[(78,.int .i64 ((g.1.2:Nat):Int))]) (λg=>[jh bG v5.1 a105_1 c105_1 a105_2 c105_2 a105_3 c105_3 a105_4 c105_4,κ eY #[.string (bs ([]:T_1)),bM,bM,bM,bM] 32,κ Y8 #[.string (bs v5.1.front),.slice Aj fA.length c173,.slice Ii oP.length H8,.slice oZ vw.length oV,.slice qG lC.length c119] 32,φ 86 1 (aC 1 aF bn).en (.slice Aj fA.length c173) Ja,φ 30 1 (aC 1 aI bF).en (.slice Ii oP.length H8) I_,dR 4 eq_ oZ oV vw,dR 9 aI qG c119 lC,φ 3 1 aF (.slice oG (replicate 256 (0:Int)).length c198) g.1.1,φ 9 1 aI (.slice Ih (replicate 256 ([]:T_1)).length c201) ((replicate 256 ([]:T_1)).take 0++((nth v5.1.outs ((nth v33.1 dO 0).toNat) []).take (min (nth v5.1.outs ((nth v33.1 dO 0).toNat) []).length (replicate 256 ([]:T_1)).length)++(replicate 256 ([]:T_1)).drop (0+(min (nth v5.1.outs ((nth v33.1 dO 0).toNat) []).length (replicate 256 ([]:T_1)).length))))]) (λg=>g.2) (λg=>bC (λq:ak×Nat=>Qk v24 v33 fA oP v5 dO q.1 q.2) g.1=some z1/\ZOk g.2 (aC 1 aF bn) Ja fA/\ZOk g.2 (aC 1 aI bF) I_ oP/\g.1.1.length=(replicate 256 (0:Int)).length/\((replicate 256 ([]:T_1)).take 0++((nth v5.1.outs ((nth v33.1 dO 0).toNat) []).take (min (nth v5.1.outs ((nth v33.1 dO 0).toNat) []).length (replicate 256 ([]:T_1)).length)++(replicate 256 ([]:T_1)).drop (0+(min (nth v5.1.outs ((nth v33.1 dO 0).toNat) []).length (replicate 256 ([]:T_1)).length)))).length=(replicate 256 ([]:T_1)).length/\aj.le τ220 g.2) (λg=>fZ (λq:ak×Nat=>Qk v24 v33 fA oP v5 dO q.1 q.2) g.1) ((((replicate 256 (0:Int)).take 0++((nth v5.1.next ((nth v33.1 dO 0).toNat) []).take (min (nth v5.1.next ((nth v33.1 dO 0).toNat) []).length (replicate 256 (0:Int)).length)++(replicate 256 (0:Int)).drop (0+(min (nth v5.1.next ((nth v33.1 dO 0).toNat) []).length (replicate 256 (0:Int)).length)))),0),τ220) (Θ [1,8,8,8,8,8,8,8] 9) z (by repeat (first|exact trivial|refine ⟨z,?_⟩)) ⟨hh,iy,vZ,oL,hn235,(aj.le.refl _)⟩ (λg2 j2 hg2=> ?_)))))))))
  obtain ⟨⟨lu,fO⟩,τ258⟩:=g2
  obtain ⟨hh,vY,nJ,F7,wX,lU⟩:=hg2
  try dsimp only at vY
  try dsimp only at nJ
  try dsimp only at F7
  try dsimp only at wX
  dsimp only at lU
  replace hr108_0:=hr108_0.mono lU
  replace hr109_1:=hr109_1.mono lU
  replace nM:=nM.mono lU
  replace kE:=kE.mono lU
  try dsimp only
  obtain ⟨z2,hh,hR2⟩:=iq hh
  dsimp only [Qk]at hh
  have zf252b:=vY.length
  have zf253b:=nJ.length
  refine χ (i:=3) z (λ_ hb260 _=> ?_)
  refine χ (i:=4) z (λ_ hb261 _=> ?_)
  refine χ (i:=5) z (λ_ hb262 _=> ?_)
  refine χ (i:=6) z (λ_ hb263 _=> ?_)
  refine χ (i:=7) z (λ_ hb264 _=> ?_)
  refine χ (i:=8) z (λ_ hb265 _=> ?_)
  refine ξ (ω z (OpVal.lss z z z) (ε (θ (TC.cD z hh (λzZ hh=> ?_) (λzZ hh=> ?_)))))
  ·refine ι (S.n (θ (υ (ξ (ψ z z ?_)))))
   obtain ⟨NY,hh⟩:=aP hh
   refine TL.isSl (i:=7) z (λhs267 _ _=> ?_)
   refine ω z (bT z bY dh z z hs267 (by omega)) (ω z (nZ (0:Int) z fC z (q:=7) z bn (by omega) z) (ψ z z (ψ z z (ε (ξ (ψ z z (ω z (OpVal.geq z z z) (ε (TC.cD z hh (λh268 hh=> ?_) (λh268 hh=> ?_))))))))))
   ·refine η (Ξ z z (ψ z z (Ξ z z (Ξ z z (ψ z z ?_)))))
    obtain ⟨u93,hh⟩:=aP hh
    refine ω z (OpVal.index z bY dh z z hr108_0.rv.sl u93.1 u93.2) (ω z (fD (0:Int) z fC z hr108_0 (by omega) z) ?_)
    obtain ⟨u95,hh⟩:=aP hh
    refine ω z (OpVal.index z bY dh z z hr109_1.rv.sl u95.1 u95.2) (ω z (fD (0:Int) z fC z hr109_1 (by omega) z) ?_)
    obtain ⟨u97,hh⟩:=aP hh
    refine TL.isSl (i:=7) z (λhs269 _ _=> ?_)
    refine ω z (bT z bY dh z z hs269 (by omega)) (ζ 7 z z ?_)
    have BJ:(lu.set fO (nth v33.2 ((nth v24.1 ((nth lu fO 0).toNat) 0).toNat) 0)).length=(replicate 256 (0:Int)).length:=by rw [fQ];exact F7
    refine ν z (lF (nth v33.2 ((nth v24.1 ((nth lu fO 0).toNat) 0).toNat) 0) z dh z z z z bn jR (by omega) (by omega) ?_)
    refine TL.nil (B.n (S.n (η (ω z (OpVal.succ z z z (by omega)) (ψ z z (ε ?_))))))
    obtain ⟨hh,Xm⟩:=dL hR2 hh
    exact lf (((lu.set fO (nth v33.2 ((nth v24.1 ((nth lu fO 0).toNat) 0).toNat) 0)),(fO+1)),τ258) Xm ⟨hh,vY,nJ,BJ,wX,lU⟩ (Θ [8,1,8,8,8,8,8,8,8] 9)
   refine ι (B.n (S.n (η (ω z (OpVal.succ z z z (by omega)) (ψ z z (ε ?_))))))
   obtain ⟨hh,Xl⟩:=dL hR2 hh
   exact lf ((lu,(fO+1)),τ258) Xl ⟨hh,vY,nJ,F7,wX,lU⟩ (Θ [8,8,8,8,8,8,8,8,8] 9)
  refine TC.exit (S.x (S.x ?_))
  replace hh:=dI hR2 hh
  refine Δ (S.n (ξ (ω z (aU z kW z) (ω z (bg z j_ z (i:=2) z z) (Ξ z z ?_)))))
  rw [show Value.slice oG ((replicate 256 (0:Int)).length) c198=Value.slice oG lu.length c198 from by rw [F7]]
  refine ζ 7 z z (TL.og bn (λτ277 xA Ua=> ?_))
  replace nM:=nM.mono xA
  replace kE:=kE.mono xA
  replace vY:=vY.mono xA
  replace nJ:=nJ.mono xA
  have hr275b:=Ua.rv.big
  have Rn:ZOk _ (aC 1 aF bn) ([(lu,(oG,c198))]:List (ak×(aC 1 aF bn).P)) [lu]:=ZOk.cons (Ua) (ZOk.nil _ _)
  refine ν z (litZ Rn z eX fP z kY z z z (by decide) (by decide) z (by decide) z (by decide) (λZc YJ=> ?_))
  refine ζ 4 z z ?_
  obtain ⟨u105,hh⟩:=aP hh
  refine ν z (L8 (k:=(aC 1 aF bn)) vY Rn z z eX fP mG kY z z (by decide) z z z (.inr ⟨_,0,z⟩) (by simpa using u105) (by decide) (λa280 c281 AP=> ?_))
  refine ω z (aU z kW z) (ζ 4 z z (ν z (f_ z jB z z z z z ?_)))
  refine ε (η (ω z (aU z o_ z) (ω z (bg z qx z (i:=0) z z) (Ξ z z ?_))))
  rw [show Value.slice Ih ((replicate 256 ([]:T_1)).length) c201=Value.slice Ih ((replicate 256 ([]:T_1)).take 0++((nth v5.1.outs ((nth v33.1 dO 0).toNat) []).take (min (nth v5.1.outs ((nth v33.1 dO 0).toNat) []).length (replicate 256 ([]:T_1)).length)++(replicate 256 ([]:T_1)).drop (0+(min (nth v5.1.outs ((nth v33.1 dO 0).toNat) []).length (replicate 256 ([]:T_1)).length)))).length c201 from by rw [wX]]
  refine ζ 8 z z (TL.og bF (λτ287 xu TW=> ?_))
  replace nM:=nM.mono xu
  replace kE:=kE.mono xu
  replace nJ:=nJ.mono xu
  replace AP:=AP.mono xu
  have hr285b:=TW.rv.big
  have Rl:ZOk _ (aC 1 aI bF) ([(((replicate 256 ([]:T_1)).take 0++((nth v5.1.outs ((nth v33.1 dO 0).toNat) []).take (min (nth v5.1.outs ((nth v33.1 dO 0).toNat) []).length (replicate 256 ([]:T_1)).length)++(replicate 256 ([]:T_1)).drop (0+(min (nth v5.1.outs ((nth v33.1 dO 0).toNat) []).length (replicate 256 ([]:T_1)).length)))),(Ih,c201))]:List (aB×(aC 1 aI bF).P)) [((replicate 256 ([]:T_1)).take 0++((nth v5.1.outs ((nth v33.1 dO 0).toNat) []).take (min (nth v5.1.outs ((nth v33.1 dO 0).toNat) []).length (replicate 256 ([]:T_1)).length)++(replicate 256 ([]:T_1)).drop (0+(min (nth v5.1.outs ((nth v33.1 dO 0).toNat) []).length (replicate 256 ([]:T_1)).length))))]:=ZOk.cons (TW) (ZOk.nil _ _)
  refine ν z (litZ Rl z mY nC z Hg z z z (by decide) (by decide) z (by decide) z (by decide) (λa283 c284=> ?_))
  refine ζ 6 z z ?_
  obtain ⟨G9,hh⟩:=aP hh
  refine ν z (L8 (k:=(aC 1 aI bF)) nJ Rl z z mY nC RJ Hg z z (by decide) z z z (.inr ⟨_,0,z⟩) (by simpa using G9) (by decide) (λa290 c291 zf292=> ?_))
  refine ω z (aU z o_ z) (ζ 2 z z (ν z (f_ z RN z z z z z ?_)))
  refine TL.nil (B.n (S.n (η (ω z (OpVal.succ z z z (by omega)) (ψ z z (ε ?_))))))
  obtain ⟨hh,Xe⟩:=dL hR1 hh
  exact lf (((fA++[lu]),(oP++[((replicate 256 ([]:T_1)).take 0++((nth v5.1.outs ((nth v33.1 dO 0).toNat) []).take (min (nth v5.1.outs ((nth v33.1 dO 0).toNat) []).length (replicate 256 ([]:T_1)).length)++(replicate 256 ([]:T_1)).drop (0+(min (nth v5.1.outs ((nth v33.1 dO 0).toNat) []).length (replicate 256 ([]:T_1)).length))))]),(dO+1)),(a280,c281,(Ja++([(lu,(oG,c198))]:List (ak×(aC 1 aF bn).P))),a290,c291,(I_++([(((replicate 256 ([]:T_1)).take 0++((nth v5.1.outs ((nth v33.1 dO 0).toNat) []).take (min (nth v5.1.outs ((nth v33.1 dO 0).toNat) []).length (replicate 256 ([]:T_1)).length)++(replicate 256 ([]:T_1)).drop (0+(min (nth v5.1.outs ((nth v33.1 dO 0).toNat) []).length (replicate 256 ([]:T_1)).length)))),(Ih,c201))]:List (aB×(aC 1 aI bF).P))),τ287)) Xe ⟨hh,AP,zf292,((((pO.trans pI).trans lU).trans xA).trans xu)⟩ (Θ [8,8,3,5,4,8,8] 7)
 refine TC.exit (S.x (S.x ?_))
 replace hh:=dI hR1 hh
 refine Δ (S.n (ξ (ω z (lG z jw fB z (i:=2) z z) (ζ 1 z z (ν z (storeAll z fB z z z z z z ?_))))))
 refine ψ z z (ε (TC.front 3 z z (TC.LV nM (λτ296 Yc uS=> ?_))))
 replace kE:=kE.mono Yc
 have hr294b:=uS.big
 refine TC.front 3 z z (TC.LV kE (λτ299 Yb yZ=> ?_))
 replace uS:=uS.mono Yb
 have hr297b:=yZ.big
 refine TC.front 3 z z (TC.og iQ (λτ302 KI FD=> ?_))
 replace uS:=uS.mono KI
 replace yZ:=yZ.mono KI
 have hr300b:=FD.rv.big
 refine TC.front 3 z z (TC.og bF (λτ305 Ej TV=> ?_))
 replace uS:=uS.mono Ej
 replace yZ:=yZ.mono Ej
 replace FD:=FD.mono Ej
 have hr303b:=TV.rv.big
 refine TC.rt 1 ?_
 obtain rfl:=so hh
 exact ro [] z (RVs.agg jw fB z (i:=0) z z (RVs.tmp z RVs.nil)) ⟨Aj,c173,Ii,H8,oZ,oV,qG,c119,z,uS,yZ,FD,TV,z⟩
end Go.Proofs.YtchebnpdnfhenaaGreatDoor
end

noncomputable section
namespace Go.Proofs.YtchebnpdnfhenaaGreatDoor
open Go Go.E
structure PlI (L:ak) (c:Nat) (st pl:ak):Prop where
  len:pl.length=c
  at': ∀p,p<c->(nth pl p 0<0/\ ∀j,j<st.length->nth L (nth st j 0).toNat 0≠((p:Nat):Int))\/ ∃j,j<st.length/\nth pl p 0=((j:Nat):Int)/\nth L (nth st j 0).toNat 0=((p:Nat):Int)
def clL(L:ak)(s:Nat):Int:=nth L s 0
theorem w6_{q:Seq}{L:ak}{c:Nat}(hL:PrtR q L c){st:ak}{V:Nat->Int}{code:Nat}(h:BfI q (clL L) st V code):st.length<=c:=by
  have hr: ∀j,j<st.length->0<=nth L (nth st j 0).toNat 0/\nth L (nth st j 0).toNat 0<((c:Nat):Int):=λj hj=>by
    have:=h.rng j hj
    exact hL.rng _ (by omega)
  refine tw_ (n:=st.length) (f:=λs=>s) (g:=λj=>(nth L (nth st j 0).toNat 0).toNat) (λk hk=>⟨k,hk,rfl⟩) (λs hs=>by have:=hr s hs;show (nth L (nth st s 0).toNat 0).toNat<c;omega) λs t hs ht e=> ?_
  have e:(nth L (nth st s 0).toNat 0).toNat=(nth L (nth st t 0).toNat 0).toNat:=e
  have h1:=hr s hs
  have h2:=hr t ht
  exact h.dist s t hs ht (show nth L (nth st s 0).toNat 0=nth L (nth st t 0).toNat 0 by omega)
theorem yl_ {q : Seq} (hq : eH q = true) {L : ak} {c : Nat} (hL : PrtR q L c) {st pl : ak} {V : Nat -> Int} {i : Nat} (hi : i < st.length) (h : BfI q (clL L) st V (i * 256)) (hp : PlI L c st pl) :
    ∃pl' st' V',bC (λz:ak×ak×Nat=>Nq q st i L z.1 z.2.1 z.2.2) (pl,st,0)=some (.inl (pl',st',i+1))/\BfI q (clL L) st' V' ((i+1) * 256)/\PlI L c st' pl'/\i+1<=st'.length:=by
  obtain ⟨q1,q2,q3,q4,q5⟩:=ni hq
  have hLl:=hL.len
  have hLc:=hL.le
  have hs:=h.rng i hi
  obtain ⟨s,hs'⟩: ∃s:Nat,nth st i 0=((s:Nat):Int):=⟨(nth st i 0).toNat,by omega⟩
  have hsn:s<q.next.length:=by omega
  obtain ⟨r1,r2⟩:=vM hq hsn
  refine Exists.elim (kM (step:=λz:ak×ak×Nat=>Nq q st i L z.1 z.2.1 z.2.2) (λ(z:ak×ak) b=>(z.1,z.2,b)) 256 (λb z=> ∃V',BfI q (clL L) z.2 V' (i * 256+b)/\PlI L c z.2 z.1/\(∃X,z.2=st++X)) (λr=> ∃pl' st' V',r= .inl (pl',st',i+1)/\BfI q (clL L) st' V' ((i+1) * 256)/\PlI L c st' pl'/\i+1<=st'.length) ?_ ?_ (s0:=(pl,st)) ⟨V,h,hp,[],by simp⟩) (λr lX=> ?_)
  · rintro b ⟨pl1,st1⟩ hb ⟨V1,k1,k2,X,k3⟩
    simp only at k1 k2 k3
    have hst1:i<st1.length:=by rw [k3,fU];omega
    have hat:nth st1 i 0=((s:Nat):Int):=by rw [k3,GU hi];exact hs'
    have hd1:(i * 256+b) / 256=i:=by omega
    have hd2:(i * 256+b) % 256=b:=by omega
    have hlt:=oC hq hsn hb
    have hle:=w6_ hL k1
    left
    show ∃s':ak×ak,Nq q st i L pl1 st1 b=some (.inl (s'.1,s'.2,b+1))/\_
    unfold Nq
    rw [hs',iT,bV (by omega)]
    have e1:nth (nth q.next s []) b 0=nxQ q s b:=rfl
    simp only [e1]
    have hcell:nxQ q (nth st1 ((i * 256+b) / 256) 0).toNat ((i * 256+b) % 256)=nxQ q s b:=by rw [hd1,hd2,hat,iT]
    by_cases d:0<=nxQ q s b
    · have hz:(nxQ q s b).toNat<q.next.length:=by omega
      have hpz:=hL.rng _ hz
      obtain ⟨p,hp'⟩: ∃p:Nat,nth L (nxQ q s b).toNat 0=((p:Nat):Int):=⟨(nth L (nxQ q s b).toNat 0).toNat,by omega⟩
      have hpc:p<c:=by omega
      have hpl:=k2.len
      rw [bV d,aH (by omega),hp',aH (by omega),iT]
      rcases k2.at' p hpc with ⟨a1,a2⟩|⟨j,a1,a2,a3⟩
      · rw [bV a1,aH (by omega),aH (by omega),aH (by simp only [jZ];omega)]
        refine ⟨(pl1.set p ((st1.length:Nat):Int),st1++[nxQ q s b]),rfl,upd V1 (i * 256+b) ((st1.length:Nat):Int),?_,⟨by rw [fQ];exact hpl,λp' hq'=> ?_⟩,X++[nxQ q s b],by rw [k3,qA]⟩
        · exact k1.new (by omega) (by rw [hcell];exact d) ⟨d,hlt⟩ (by rw [hcell]) λj hj=>by
            rw [hcell]
            show nth L (nth st1 j 0).toNat 0≠nth L (nxQ q s b).toNat 0
            rw [hp'];exact a2 j hj
        show (nth (pl1.set p _) p' 0<0/\_)\/_
        rw [jP]
        by_cases e:p=p'
        · subst e
          rw [if_pos ⟨rfl,by omega⟩]
          refine .inr ⟨st1.length,by simp,rfl,?_⟩
          show nth L (nth (st1++[nxQ q s b]) st1.length 0).toNat 0=_
          rw [LC];exact hp'
        rw [if_neg (λf=>e f.1)]
        rcases k2.at' p' hq' with ⟨b1,b2⟩|⟨j,b1,b2,b3⟩
        · refine .inl ⟨b1,λj hj=> ?_⟩
          show nth L (nth (st1++[nxQ q s b]) j 0).toNat 0≠_
          by_cases f:j<st1.length
          · rw [GU f];exact b2 j f
          have:j=st1.length:=by have:j<(st1++[nxQ q s b]).length:=hj;rw [fU,jZ]at this;omega
          rw [this,LC,hp']
          omega
        refine .inr ⟨j,by show j<(st1++_).length;rw [fU];omega,b2,?_⟩
        show nth L (nth (st1++[nxQ q s b]) j 0).toNat 0=_
        rw [GU b1];exact b3
      rw [bQ (by omega)]
      refine ⟨(pl1,st1),rfl,upd V1 (i * 256+b) ((j:Nat):Int),?_,k2,X,k3⟩
      exact k1.old (by rw [hcell];exact d) a1 (by rw [hcell];show nth L (nth st1 j 0).toNat 0=nth L (nxQ q s b).toNat 0;rw [a3,hp'])
    rw [bQ d]
    exact ⟨(pl1,st1),rfl,upd V1 (i * 256+b) (-1),k1.skip (by rw [hcell];omega),k2,X,k3⟩
  · rintro ⟨pl1,st1⟩ ⟨V1,k1,k2,X,k3⟩
    simp only at k1 k2 k3
    refine ⟨.inl (pl1,st1,i+1),?_,pl1,st1,V1,rfl,?_,k2,by rw [k3,fU];omega⟩
    · show Nq q st i L pl1 st1 256=_
      unfold Nq
      rw [hs',iT,bQ (by omega)];rfl
    rw [show (i+1) * 256=i * 256+256 by omega];exact k1
  obtain ⟨h1,pl',st',V',rfl,h2⟩:=lX
  exact ⟨pl',st',V',h1,h2⟩
theorem x6_ {q : Seq} (hq : eH q = true) (h0 : 0 < q.next.length) {L : ak} {c : Nat} (hL : PrtR q L c) : ∃ st pl V, En_ q L ((c : Nat) : Int) = some (st, pl) /\ BfI q (clL L) st V (st.length * 256) /\ PlI L c st pl := by
  obtain ⟨q1,q2,q3,q4,q5⟩:=ni hq
  have hLl:=hL.len
  have hLc:=hL.le
  have hL0:=hL.rng 0 h0
  unfold En_
  rw [aH (by omega),iT]
  refine Exists.elim (kM (step:=λz:ak×Nat=>QI ((c:Nat):Int) L q z.1 z.2) (λz k=>(z,k)) c (λk z=>z.length=c/\ ∀p,p<k->nth z p 0= -1) (λr=> ∃st pl V,r=(st,pl)/\BfI q (clL L) st V (st.length * 256)/\PlI L c st pl) ?_ ?_ (s0:=List.replicate c 0) ⟨by simp,λp hp=>absurd hp (Nat.not_lt_zero _)⟩) (λr lX=> ?_)
  · rintro k z hk ⟨k1,k2⟩
    left
    show ∃s',QI ((c:Nat):Int) L q z k=some (.inl (s',k+1))/\_
    unfold QI
    rw [iT,bV (by simp only [rU];omega),aH (by omega)]
    refine ⟨_,rfl,by rw [fQ];exact k1,λp hp=> ?_⟩
    rw [jP]
    by_cases e:k=p
    · rw [if_pos ⟨e,by omega⟩]
    rw [if_neg (λf=>e f.1)];exact k2 p (by omega)
  · rintro z ⟨k1,k2⟩
    show ∃r,QI ((c:Nat):Int) L q z c=some (.inr r)/\_
    obtain ⟨p0,hp0⟩: ∃p:Nat,nth L 0 0=((p:Nat):Int):=⟨(nth L 0 0).toNat,by omega⟩
    obtain ⟨r,m1,m2⟩:=Pj (step:=λz:ak×ak×Nat=>Vh q L z.1 z.2.1 z.2.2) (λz=> ∃V,BfI q (clL L) z.2.1 V (z.2.2 * 256)/\PlI L c z.2.1 z.1/\z.2.2<=z.2.1.length) (λz=>c+1 - z.2.2) (λr=> ∃st pl V,r=(st,pl)/\BfI q (clL L) st V (st.length * 256)/\PlI L c st pl) (by
      rintro ⟨pl,st,i⟩ ⟨V,n1,n2,n3⟩
      simp only at n1 n2 n3
      have hle:=w6_ hL n1
      show (∃t',Vh q L pl st i=some (.inl t')/\_/\_)\/ ∃r,Vh q L pl st i=some (.inr r)/\_
      unfold Vh
      by_cases d:i<st.length
      · left
        have hs:=n1.rng i d
        obtain ⟨pl',st',V',m1,m2,m3,m4⟩:=yl_ hq hL d n1 n2
        rw [bV (by omega),aH (by omega)]
        refine ⟨_,m1,⟨V',m2,m3,m4⟩,?_⟩
        show c+1 - (i+1)<c+1 - i
        omega
      · right
        rw [bQ (by omega)]
        have:i=st.length:=by omega
        subst this
        exact ⟨_,rfl,st,pl,V,rfl,n1,n2⟩) (t:=(z.set p0 0,[0],0)) (by
      refine ⟨λ_=>0,BfI.init _ ⟨Int.le_refl _,by omega⟩ rfl,⟨by show (z.set p0 0).length=c;rw [fQ];exact k1,λp hp=> ?_⟩,Nat.zero_le _⟩
      show (nth (z.set p0 0) p 0<0/\_)\/_
      rw [jP]
      by_cases e:p0=p
      · subst e
        rw [if_pos ⟨rfl,by omega⟩]
        exact .inr ⟨0,by simp,rfl,hp0⟩
      rw [if_neg (λf=>e f.1),k2 p hp]
      refine .inl ⟨by decide,λj hj=> ?_⟩
      have hj:j<1:=hj
      have:j=0:=by omega
      subst this
      show nth L 0 0≠_
      rw [hp0];omega)
    refine ⟨r,?_,m2⟩
    unfold QI
    rw [iT,bQ (by simp only [rU];omega),aH (by omega),hp0,aH (by omega),iT,m1];rfl
  obtain ⟨h1,st,pl,V,rfl,h2⟩:=lX
  exact ⟨st,pl,V,h1,h2⟩
theorem t8_{α β:Type}(f:β->α)(d:α)(e:β)(l:List β){k:Nat}(hk:k<l.length):(((l.take k).map f++List.replicate (l.length - k) d).set k (f (nth l k e)))=(l.take (k+1)).map f++List.replicate (l.length - (k+1)) d:=by
  rw [yw l hk e,List.map_append,qA,List.set_append_right _ _ (by rw [List.length_map,List.length_take];omega),List.length_map,List.length_take,show k - min k l.length=0 by omega,show l.length - k=(l.length - (k+1))+1 by omega,List.replicate_succ]
  rfl
theorem zh_{l:B_1}{st:ak}(h: ∀i,i<st.length->0<=nth st i 0/\nth st i 0<(l.length:Int))(hs:st.length<=1000000):Fe_ l st=some (st.map λs=>nth l s.toNat false):=by
  unfold Fe_
  rw [aH (by omega)]
  refine Exists.elim (kM (step:=λz:B_1×Nat=>Qq st l z.1 z.2) (λz k=>(z,k)) st.length (λk z=>z=(st.take k).map (λs=>nth l s.toNat false)++List.replicate (st.length - k) false) (λr=>r=st.map λs=>nth l s.toNat false) ?_ ?_ (s0:=List.replicate st.length false) (by simp)) (λr lX=> ?_)
  · rintro k _ hk rfl
    left
    have hr:=h k hk
    refine ⟨_,?_,rfl⟩
    show Qq st l _ k=_
    unfold Qq
    rw [bV (by omega),aH hr,aH (by simp;omega)]
    have:=t8_ (λs=>nth l s.toNat false) false (0:Int) st hk
    rw [this];rfl
  · rintro _ rfl
    refine ⟨_,?_,rfl⟩
    show Qq st l _ st.length=_
    unfold Qq
    rw [bQ (by omega)]
    simp [fin]
  obtain ⟨h1,rfl⟩:=lX
  exact h1
theorem ze_{l:aB}{st:ak}(h: ∀i,i<st.length->0<=nth st i 0/\nth st i 0<(l.length:Int))(hs:st.length<=1000000):Fb_ l st=some (st.map λs=>nth l s.toNat []):=by
  unfold Fb_
  rw [aH (by omega)]
  refine Exists.elim (kM (step:=λz:aB×Nat=>QG st l z.1 z.2) (λz k=>(z,k)) st.length (λk z=>z=(st.take k).map (λs=>nth l s.toNat [])++List.replicate (st.length - k) []) (λr=>r=st.map λs=>nth l s.toNat []) ?_ ?_ (s0:=List.replicate st.length []) (by simp)) (λr lX=> ?_)
  · rintro k _ hk rfl
    left
    have hr:=h k hk
    refine ⟨_,?_,rfl⟩
    show QG st l _ k=_
    unfold QG
    rw [bV (by omega),aH hr,aH (by simp;omega)]
    have:=t8_ (λs=>nth l s.toNat ([]:T_1)) [] (0:Int) st hk
    rw [this];rfl
  · rintro _ rfl
    refine ⟨_,?_,rfl⟩
    show QG st l _ st.length=_
    unfold QG
    rw [bQ (by omega)]
    simp [fin]
  obtain ⟨h1,rfl⟩:=lX
  exact h1
theorem xq_{α:Type}(d:α){x:List α}(h:x.length=256):(List.replicate 256 d).take 0++(x.take (min x.length (List.replicate 256 d).length)++(List.replicate 256 d).drop (0+min x.length (List.replicate 256 d).length))=x:=by
  have hr:(List.replicate 256 d).length=256:=rU
  generalize List.replicate 256 d=y at hr
  rw [hr,h,Nat.min_self,List.take_zero,List.nil_append,Nat.zero_add,List.take_of_length_le (Nat.le_of_eq h),List.drop_of_length_le (Nat.le_of_eq hr),List.append_nil]
def Rz(q:Seq)(L pl:ak)(s b:Nat):Int:=if 0<=nxQ q s b then nth pl (nth L (nxQ q s b).toNat 0).toNat 0 else nxQ q s b
def NM(q:Seq)(L pl:ak)(s:Int):ak:=(List.range 256).map (Rz q L pl s.toNat)
theorem wj_ {q : Seq} (hq : eH q = true) {L : ak} {c : Nat} (hL : PrtR q L c) {st pl : ak} (hpl : pl.length = c) {i : Nat} {N : bW} {O : fJ} (hi : i < st.length) (hst : st.length <= 1024) (hN : N.length <= 1024) (hO : O.length <= 1024) (hs : 0 <= nth st i 0 /\ nth st i 0 < (q.next.length : Int)) (e : Int) :
    Eu_ (st,pl) i (q,e) (L,((c:Nat):Int)) N O=some (.inl (N++[NM q L pl (nth st i 0)],O++[nth q.outs (nth st i 0).toNat []],i+1)):=by
  obtain ⟨q1,q2,q3,q4,q5⟩:=ni hq
  have hLl:=hL.len
  obtain ⟨s,hs'⟩: ∃s:Nat,nth st i 0=((s:Nat):Int):=⟨(nth st i 0).toNat,by omega⟩
  rw [hs']at hs ⊢
  have hsn:s<q.next.length:=by omega
  obtain ⟨r1,r2⟩:=vM hq hsn
  unfold Eu_
  show grd (0<=nth st i 0/\nth st i 0<(q.next.length:Int)) (grd (0<=nth st i 0/\nth st i 0<(q.outs.length:Int)) _)=_
  rw [hs',aH (by omega),aH (by omega),iT,xq_ 0 r1]
  unfold NM
  rw [iT]
  refine Exists.elim (kM (step:=λz:ak×Nat=>Qk (L,((c:Nat):Int)) (st,pl) N O (q,e) i z.1 z.2) (λz k=>(z,k)) 256 (λk z=>z.length=256/\(∀b,b<k->nth z b 0=Rz q L pl s b)/\ ∀b,k<=b->nth z b 0=nxQ q s b) (λr=>r= .inl (N++[(List.range 256).map (Rz q L pl s)],O++[nth q.outs s []],i+1)) ?_ ?_ (s0:=nth q.next s []) ⟨r1,λb hb=>absurd hb (Nat.not_lt_zero _),λb _=>rfl⟩) (λr lX=> ?_)
  · rintro k z hk ⟨k1,k2,k3⟩
    left
    have hlt:=oC hq hsn hk
    have e3:=k3 k (Nat.le_refl _)
    show ∃s',Qk (L,((c:Nat):Int)) (st,pl) N O (q,e) i z k=some (.inl (s',k+1))/\_
    unfold Qk
    rw [bV (by simp only [rU];omega),aH (by omega),e3]
    by_cases d:0<=nxQ q s k
    · have hz:=hL.rng (nxQ q s k).toNat (by omega)
      rw [bV d,aH (show 0<=nxQ q s k/\nxQ q s k<((L,((c:Nat):Int)).1.length:Int) by show _/\_<(L.length:Int);omega),aH (show 0<=nth L (nxQ q s k).toNat 0/\nth L (nxQ q s k).toNat 0<(pl.length:Int) by omega),aH (by omega)]
      refine ⟨_,rfl,by rw [fQ];exact k1,λb hb=> ?_,λb hb=> ?_⟩
      · rw [jP]
        by_cases f:k=b
        · subst f;rw [if_pos ⟨rfl,by omega⟩];unfold Rz;rw [if_pos d]
        rw [if_neg (λg=>f g.1)];exact k2 b (by omega)
      rw [jP,if_neg (λg=>by omega)];exact k3 b (by omega)
    rw [bQ d]
    refine ⟨_,rfl,k1,λb hb=> ?_,λb hb=>k3 b (by omega)⟩
    by_cases f:b<k
    · exact k2 b f
    have:b=k:=by omega
    subst this;rw [e3];unfold Rz;rw [if_neg d]
  · rintro z ⟨k1,k2,k3⟩
    have ez:z=(List.range 256).map (Rz q L pl s):=kk_ 0 k1 k2
    refine ⟨_,?_,rfl⟩
    show Qk (L,((c:Nat):Int)) (st,pl) N O (q,e) i z 256=_
    unfold Qk
    have e5:nth (st,pl).1 i 0=((s:Nat):Int):=hs'
    simp only [e5,iT]
    rw [bQ (by simp only [rU];omega),xq_ [] r2,aH (by simp only [jZ];omega),aH (by simp only [jZ];omega),ez];rfl
  obtain ⟨h1,rfl⟩:=lX
  exact h1
theorem zu_(q:Seq): ∃p r,Ve q=some p/\PushR q p/\Qi q=some r/\MinR p r:=by
  obtain ⟨p,h1,h2⟩:=Iu_ q
  unfold Qi
  rw [h1,gJ]
  by_cases c0:p.2=0
  rotate_left
  · rw [bV c0]
    exact ⟨p,_,rfl,h2,rfl,.err c0⟩
  rw [bQ (λh=>h c0)]
  by_cases c1:p.1.next.length=0
  · rw [bV (by omega)]
    exact ⟨p,_,rfl,h2,rfl,by rw [c0];exact .none c0 c1⟩
  rw [bQ (by omega)]
  obtain ⟨hP,hR,_,_⟩:=h2.psh c0
  obtain ⟨q1,q2,q3,q4,q5⟩:=ni hR
  obtain ⟨L,c,l1,l2⟩:=y7_ hR hP
  obtain ⟨st,pl,V,o1,o2,o3⟩:=x6_ hR (by omega) l2
  have hle:=w6_ l2 o2
  have hLc:=l2.le
  rw [l1,gJ]
  show ∃p_1 r,_/\_/\bnd (En_ p.1 L ((c:Nat):Int)) _=_/\_
  rw [o1,gJ,show ((st,pl):ak×ak).1=st from rfl,zh_ (λi hi=>by have:=o2.rng i hi;omega) (by omega),gJ,ze_ (λi hi=>by have:=o2.rng i hi;omega) (by omega),gJ]
  unfold Fm_
  refine Exists.elim (kM (step:=λz:bW×fJ×Nat=>Qj (st,pl) p (L,((c:Nat):Int)) (st.map λs=>nth p.1.fin s.toNat false) (st.map λs=>nth p.1.tail s.toNat []) z.1 z.2.1 z.2.2) (λ(z:bW×fJ) k=>(z.1,z.2,k)) st.length (λk z=>z=((st.take k).map (NM p.1 L pl),(st.take k).map λs=>nth p.1.outs s.toNat []))
    (λr=>r=((⟨p.1.front,st.map (NM p.1 L pl),st.map (λs=>nth p.1.outs s.toNat []),st.map (λs=>nth p.1.fin s.toNat false),st.map (λs=>nth p.1.tail s.toNat [])⟩:Seq),(0:Int))) ?_ ?_ (s0:=([],[])) rfl) (λr lX=> ?_)
  · rintro k _ hk rfl
    left
    have hr:=o2.rng k hk
    refine ⟨(_,_),?_,rfl⟩
    show Qj (st,pl) p (L,((c:Nat):Int)) _ _ _ _ k=_
    unfold Qj
    rw [bV (by show ((k:Nat):Int)<((st.length:Nat):Int);omega)]
    rw [show p=(p.1,p.2)from rfl,wj_ hR l2 o3.len hk (by omega) (by rw [List.length_map,List.length_take];omega) (by rw [List.length_map,List.length_take];omega) hr p.2,yw st hk 0,List.map_append,List.map_append];rfl
  · rintro _ rfl
    refine ⟨_,?_,rfl⟩
    show Qj (st,pl) p (L,((c:Nat):Int)) _ _ _ _ st.length=_
    unfold Qj
    rw [bQ (by show ¬ ((st.length:Nat):Int)<((st.length:Nat):Int);omega),List.take_length];rfl
  obtain ⟨h3,rfl⟩:=lX
  refine ⟨p,_,rfl,h2,h3,.made _ (st.map Int.toNat) c0 (o2.min (λs t hs ht=>l2.iff s t hs ht) hR rfl (by simp) (by simp) (by simp) (by simp) (λi hi=> ?_) (λd hd=> ?_) (λi hi=>zk _ _ _ 0 _ hi) (λi hi=>zk _ _ _ 0 _ hi) λi hi=>zk _ _ _ 0 _ hi)⟩
  · show (nth (st.map (NM p.1 L pl)) i []).length=256
    rw [zk _ _ _ 0 _ hi]
    unfold NM
    rw [List.length_map,List.length_range]
  have hdi:d / 256<st.length:=by omega
  have hr:=o2.rng _ hdi
  have e:nxC (⟨p.1.front,st.map (NM p.1 L pl),st.map (λs=>nth p.1.outs s.toNat []),st.map (λs=>nth p.1.fin s.toNat false),st.map (λs=>nth p.1.tail s.toNat [])⟩:Seq) d=Rz p.1 L pl (nth st (d / 256) 0).toNat (d % 256):=by
    show nth (nth (st.map (NM p.1 L pl)) (d / 256) []) (d % 256) 0=_
    rw [zk _ _ _ 0 _ hdi]
    unfold NM
    rw [zk _ _ _ 0 _ (by rw [List.length_range];omega),Yy (by omega)]
  rw [e]
  unfold Rz
  by_cases f:0<=nxQ p.1 (nth st (d / 256) 0).toNat (d % 256)
  · rw [if_pos f]
    obtain ⟨j,j1,j2,j3⟩:=o2.val d hd f
    have hz:=oC hR (show (nth st (d / 256) 0).toNat<_ by omega) (show d % 256<256 by omega)
    have hpz:=l2.rng (nxQ p.1 (nth st (d / 256) 0).toNat (d % 256)).toNat (by omega)
    have j3:nth L (nth st j 0).toNat 0=nth L (nxQ p.1 (nth st (d / 256) 0).toNat (d % 256)).toNat 0:=j3
    rcases o3.at' (nth L (nxQ p.1 (nth st (d / 256) 0).toNat (d % 256)).toNat 0).toNat (by omega)with ⟨_,a2⟩|⟨j',a1,a2,a3⟩
    · exact absurd (by rw [j3];omega) (a2 j j1)
    have:j=j':=o2.dist j j' j1 a1 (show nth L (nth st j 0).toNat 0=nth L (nth st j' 0).toNat 0 by rw [j3,a3];omega)
    rw [j2,a2,this]
  rw [if_neg f,o2.neg d hd (by omega)]
  have:=sb_ hR (show (nth st (d / 256) 0).toNat<_ by omega) (show d % 256<256 by omega)
  omega
theorem rm_ (q : Seq) (k : Nat) (hn : (nth q.next k []).length = 256) (ho : (nth q.outs k []).length = 256) (hk : k < q.outs.length) :
    ZC q k=some (if (List.range 256).all (Fq (nth q.next k []) (nth q.outs k []) q.next.length)=true then .inl (k+1) else .inr false):=by
  unfold ZC
  refine kl_ (step:=λj:Nat=>Vu q k j) 256 (Fq (nth q.next k []) (nth q.outs k []) q.next.length) ?_ ?_ ?_
  · intro j hj hp
    simp only [Fq,Bool.and_eq_true,Bool.or_eq_true,lg]at hp
    obtain ⟨⟨⟨p1,p2⟩,p3⟩,p4⟩:=hp
    simp only [Vu,Bo_]
    rw [bV (by omega),aH (by omega),aH (by omega),aH (by omega),bQ (by omega),bQ (by omega)]
    by_cases c:nth (nth q.next k ([]:ak)) j (0:Int)= -1
    · rw [bV c,bQ (by rcases p4 with p4|p4<;>simp_all),bQ (by omega)];rfl
    rw [bQ c,bQ (by omega)];rfl
  · intro j hj hp
    simp only [Vu,Bo_]
    rw [bV (by omega),aH (by omega),aH (by omega),aH (by omega)]
    by_cases c1:nth (nth q.next k ([]:ak)) j (0:Int)< -1
    · rw [bV c1];rfl
    rw [bQ c1]
    by_cases c2:((q.next.length:Nat):Int)<=nth (nth q.next k ([]:ak)) j (0:Int)
    · rw [bV c2];rfl
    rw [bQ c2]
    by_cases c4:nth (nth q.next k ([]:ak)) j (0:Int)= -1
    · rw [bV c4]
      by_cases c5:nth (nth q.outs k ([]:aB)) j ([]:T_1)=[]
      · exfalso
        simp only [Fq,c5]at hp
        rw [decide_eq_true (by omega),decide_eq_true (by omega)]at hp
        simp at hp
      rw [bV c5];rfl
    rw [bQ c4]
    by_cases c3:4096<(nth (nth q.outs k ([]:aB)) j ([]:T_1)).length
    · rw [bV (by omega)];rfl
    exfalso
    simp only [Fq]at hp
    rw [decide_eq_true (by omega),decide_eq_true (by omega),decide_eq_true (by omega),decide_eq_true c4]at hp
    simp at hp
  simp only [Vu]
  rw [bQ (by omega)];rfl
theorem kt_ (q : Seq) : Zz q = some (eH q) := by
  unfold Zz
  have fls: ∀{b:Bool},b=false->(some false:Option Bool)=some b:=λh=>by rw [h]
  by_cases h1:q.next.length<=1024
  rotate_left
  · rw [bV (by omega)];exact fls (by simp [eH,gi_,h1])
  rw [bQ (by omega)]
  by_cases h2:q.outs.length=q.next.length
  rotate_left
  · rw [bV (by omega)];exact fls (by simp [eH,gi_,h2])
  rw [bQ (by omega)]
  by_cases h3:q.fin.length=q.next.length
  rotate_left
  · rw [bV (by omega)];exact fls (by simp [eH,gi_,h3])
  rw [bQ (by omega)]
  by_cases h4:q.tail.length=q.next.length
  rotate_left
  · rw [bV (by omega)];exact fls (by simp [eH,gi_,h4])
  rw [bQ (by omega)]
  by_cases h5:q.front.length<=4096
  rotate_left
  · rw [bV (by omega)];exact fls (by simp [eH,gi_,h5])
  rw [bQ (by omega)]
  have key:(decide (q.next.length≠0) || decide (q.front=[]))=true->Bp_ q=some (eH q):=by
    intro h6
    have hs:gi_ q=true:=by simp only [gi_,h6,Bool.and_true,Bool.and_eq_true,lg];exact ⟨⟨⟨⟨h1,h2⟩,h3⟩,h4⟩,h5⟩
    unfold Bp_ eH
    rw [hs,Bool.true_and]
    have hc:=kl_ (step:=λk:Nat=>Vt q k) (good:=true) (bad:=false) q.next.length (Es q) ?_ ?_ ?_
    · rw [hc];cases (List.range q.next.length).all (Es q)<;>rfl
    · intro k hk hp
      simp only [Es,NS,Bool.and_eq_true,lg]at hp
      obtain ⟨⟨p1,p2⟩,⟨p3,p4⟩,p5⟩:=hp
      have hj:=rm_ q k p3 p4 (by omega)
      rw [if_pos p5]at hj
      simp only [Vt]
      rw [bV (by omega),bQ (by omega),aH (by omega),bQ (by omega),aH (by omega),bQ (by omega),aH (by omega)]
      cases hf:nth q.fin k false with
      |true=>rw [vJ];exact hj
      |false=>
        rw [hf,Bool.false_or,lg]at p2
        rw [zi,aH (by omega),bQ (by simp [p2])];exact hj
    · intro k hk hp
      simp only [Vt]
      rw [bV (by omega)]
      by_cases c3:(nth q.next k ([]:ak)).length=256
      rotate_left
      · rw [bV (by omega)];rfl
      rw [bQ (by omega),aH (by omega)]
      by_cases c4:(nth q.outs k ([]:aB)).length=256
      rotate_left
      · rw [bV (by omega)];rfl
      rw [bQ (by omega),aH (by omega)]
      by_cases c1:4096<(nth q.tail k ([]:T_1)).length
      · rw [bV (by omega)];rfl
      rw [bQ (by omega),aH (by omega)]
      have hj:(nth q.fin k false || decide (nth q.tail k []=[]))=true->ZC q k=some (.inr false):=by
        intro hh
        rw [rm_ q k c3 c4 (by omega)]
        simp only [Es,NS,hh,Bool.and_true]at hp
        rw [decide_eq_true (by omega),decide_eq_true c3,decide_eq_true c4,Bool.true_and,Bool.true_and,Bool.true_and]at hp
        rw [hp];rfl
      cases hf:nth q.fin k false with
      |true=>rw [vJ];exact hj (by rw [hf];rfl)
      |false=>
        rw [zi,aH (by omega)]
        by_cases c2:nth q.tail k ([]:T_1)=[]
        · rw [bQ (by simp [c2])];exact hj (by rw [c2];simp)
        rw [bV c2];rfl
    simp only [Vt]
    rw [bQ (by omega)];rfl
  by_cases h6:q.next.length=0
  · rw [bV (by omega)]
    by_cases h7:q.front=[]
    · rw [bQ (by simp [h7])];exact key (by simp [h7])
    rw [bV h7];exact fls (by simp [eH,gi_,h6,h7])
  rw [bQ (by omega)];exact key (by simp [h6])
end Go.Proofs.YtchebnpdnfhenaaGreatDoor
end

noncomputable section
namespace Go.Proofs.YtchebnpdnfhenaaGreatDoor
open Go Go.E Go.E.OpVal Go.E.OpOk Go.Proofs.Tryz
open List (replicate)
theorem Oq:plainF Tryz.prog 27=true:=by kernel_rfl
theorem pf34:plainF Tryz.prog 34=true:=by kernel_rfl
theorem pf52:plainF Tryz.prog 52=true:=by kernel_rfl
def Bq_(x0:B_1)(x1:B_1)(jJ:Nat):Option ((Nat)⊕(Bool)):=
 aQ (decide ((jJ:Int)<((x0.length:Nat):Int))) (grd (jJ<x1.length) (aQ ((nth x0 jJ false) != (nth x1 jJ false)) (fin (some false)) (nxt (jJ+1)))) (fin (some true))
def Ch_(x0:B_1)(x1:B_1):Option (Bool):=
 aQ (decide (((x0.length:Nat):Int)≠((x1.length:Nat):Int))) (some false) (bC (λq:Nat=>Bq_ x0 x1 q) 0)
theorem Ew_{σ:aj}{x0:B_1}{x1:B_1}(au:dH σ eq_ aN aK x0)(dN:dH σ eq_ jd jc x1){r:Bool}(hh:Ch_ x0 x1=some r):
  Con prog 34 #[.slice aN x0.length aK,.slice jd x1.length jc] σ [] (kZ (.bool r) σ):=by
 dsimp only [Ch_]at hh
 have f0_0b:=au.rv.big
 have f1_0b:=dN.rv.big
 refine Con.mk (n:=26) Tryz.func34 z z z (λw0=> ?_)
 refine ξ (TL.j z z (ε (θ (ξ (Ξ z z (ω z (lenC z g_ z) (Ξ z z (ω z (lenC z g_ z) (ω z (OpVal.neq z z z) (ε (TC.cD z hh (λgI hh=> ?_) (λgI hh=> ?_))))))))))))
 ·refine ξ (TL.j z z (ε (TC.ret (S.r ?_))))
  obtain rfl:=so hh
  exact rq [4] ⟨z,z,z⟩
 refine ι (S.n (θ (ξ (ψ z z (ε (υ (TC.iE (α:=(Nat)×(Unit)) (rgs [(4,2),(11,15)]) (λg=>[(5,.int .i64 ((g.1:Nat):Int))]) (λg=>[]) (λg=>σ) (λg=>bC (λq:Nat=>Bq_ x0 x1 q) g.1=some r) (λg=>fZ (λq:Nat=>Bq_ x0 x1 q) g.1) (0,()) (Sub.pre 0 z) z (by repeat (first|exact trivial|refine ⟨z,?_⟩)) hh (λg1 j1 hg1=> ?_))))))))
 obtain ⟨jJ,_⟩:=g1
 have hh:=hg1;clear hg1
 try dsimp only
 obtain ⟨z1,hh,hR1⟩:=iq hh
 dsimp only [Bq_]at hh
 refine θ (ξ (ψ z z (Ξ z z (ω z (lenC z g_ z) (ω z (OpVal.lss z z z) (ε (TC.cD z hh (λdM hh=> ?_) (λdM hh=> ?_))))))))
 ·refine ι (S.n (θ (υ (θ ?_))))
  obtain ⟨yh,hh⟩:=aP hh
  refine TC.draw [] (by kernel_rfl) (TA.a 0 z (gK (.inl z) z) z (TA.a 1 z (cO (.inl z) z) z (TA.b 2 z (bT z g_ gV z z au.rv.sl (by omega)) z (TA.b 3 z (fD false z nX z au (by omega) z) z (TA.a 4 z (gK (.inl z) z) z (TA.a 5 z (cO (.inl z) z) z (TA.b 6 z (bT z g_ gV z z dN.rv.sl (by omega)) z (TA.b 7 z (fD false z nX z dN (by omega) z) z (TA.a 8 z (neqB z z z underlying4) z (TA.dn (S.n (TC.cB z hh (λdW hh=> ?_) (λdW hh=> ?_)))))))))))))
  ·refine ξ (TL.j z z (ε (TC.ret (B.r (S.r (S.r ?_))))))
   replace hh:=dI hR1 hh
   refine B.r (S.r ?_)
   obtain rfl:=so hh
   exact rq [4] ⟨z,z,z⟩
  refine ι (B.n (S.n (η (ψ z z (ω z (OpVal.succ z z z (by omega)) (ψ z z (ε ?_)))))))
  obtain ⟨hh,ru⟩:=dL hR1 hh
  exact lf ((jJ+1),()) ru hh (Sub.pre 0 z)
 refine TC.exit (S.x (S.x ?_))
 replace hh:=dI hR1 hh
 refine Δ (S.n (ξ (TL.j z z (ε (TC.ret ?_)))))
 obtain rfl:=so hh
 exact rq [4] ⟨z,z,z⟩
def Cl_(aT:Nat):Option ((Nat)⊕(Bool)):=
 nxt (aT+1)
def Bz_(x0:Seq)(x1:Seq)(aT:Nat):Option ((Nat)⊕(Bool)):=
 aQ (decide ((aT:Int)<((x0.next.length:Nat):Int))) (grd (aT<x1.next.length) (bnd (C8_ (nth x0.next aT []) (nth x1.next aT [])) (λv60=>aQ (!v60) (fin (some false)) (aQ (decide ((aT:Int)<((x0.outs.length:Nat):Int))) (grd (aT<x1.outs.length) (bnd (Ny (nth x0.outs aT []) (nth x1.outs aT [])) (λv79=>aQ (!v79) (fin (some false)) (Cl_ aT)))) (Cl_ aT))))) (fin (some true))
def Cm_(x0:Seq)(x1:Seq):Option (Bool):=
 aQ (decide (x0.front≠x1.front)) (some false) (aQ (decide (((x0.next.length:Nat):Int)≠((x1.next.length:Nat):Int))) (some false) (aQ (decide (((x0.outs.length:Nat):Int)≠((x1.outs.length:Nat):Int))) (some false) (bnd (Ch_ x0.fin x1.fin) (λv32=>aQ (!v32) (some false) (bnd (Ny x0.tail x1.tail) (λv40=>aQ (!v40) (some false) (bC (λq:Nat=>Bz_ x0 x1 q) 0)))))))
theorem E1_{σ:aj}{x0:Seq}{x1:Seq}(au:RZ σ (aC 1 aF bn) (.slice aN x0.next.length aK) x0.next)(aV:RZ σ (aC 1 aI bF) (.slice aA x0.outs.length aY) x0.outs)(aS:dH σ eq_ aW ay x0.fin)(aO:dH σ aI bI bD x0.tail)(dN:RZ σ (aC 1 aF bn) (.slice jd x1.next.length jc) x1.next)(LH:RZ σ (aC 1 aI bF) (.slice jL x1.outs.length EW) x1.outs)(Py:dH σ eq_ yJ jK x1.fin)(LG:dH σ aI P_ EU x1.tail){r:Bool}(hh:Cm_ x0 x1=some r):
  Con prog 17 #[.agg (qF x0 aN aK aA aY aW ay bI bD),.agg (qF x1 jd jc jL EW yJ jK P_ EU)] σ [] (kZ (.bool r) σ):=by
 dsimp only [Cm_]at hh
 have f0_0b:=au.big
 have f0_1b:=aV.big
 have f0_2b:=aS.rv.big
 have f0_3b:=aO.rv.big
 have f1_0b:=dN.big
 have f1_1b:=LH.big
 have f1_2b:=Py.rv.big
 have f1_3b:=LG.rv.big
 refine Con.mk (n:=85) Tryz.func17 z z z (λw0=> ?_)
 refine ξ (ν z (boxA z z z z (λbG=> ?_)))
 refine ν z (boxA z z z z (λeY=> ?_))
 refine TL.j z z (ε (θ (ξ (ω z (aU z GR z) (ω z (bg z iK z (i:=1) z z) (ω z (aU z GR z) (ω z (bg z iK z (i:=0) z z) (ω z (Iw z z z) (TL.j z z (TL.split 11 z (λdM=> ?_) (λdM=> ?_)))))))))))
 ·replace hh:=ig dM hh
  replace dM:=jk dM
  refine π z (π z (π z (π z (π z (π z (π z (ω z (dQ z z z) (TL.j z z (π z (π z (π z (π z (π z (π z (π z ?_)))))))))))))))
  refine ω z (dQ z z z) (TL.j z z (π z (π z (π z (π z (π z (π z (ω z (dQ z z z) (TL.j z z (π z (π z (π z (π z (π z (π z ?_)))))))))))))))
  refine ω z (dQ z z z) (ε (TC.t z (ξ (TL.j z z (ε (TC.rt 0 (S.r ?_)))))))
  obtain rfl:=so hh
  exact rq [4] ⟨z,z,z⟩
 replace hh:=iw dM hh
 replace dM:=jy dM
 refine Ψ z (aU z kW z) (Ψ z (bg z j_ z (i:=1) z z) (Ψ z (lenC z eX z) (Ψ z (aU z kW z) (Ψ z (bg z j_ z (i:=0) z z) (Ψ z (lenC z eX z) (Ψ z (OpVal.neq z z z) (ω z (dU z z z) (TL.j z z (TL.split 20 z (λdW=> ?_) (λdW=> ?_))))))))))
 ·replace hh:=ig dW hh
  replace dW:=jk dW
  refine π z (π z (π z (π z (π z (π z (π z (ω z (dQ z z z) (TL.j z z (π z (π z (π z (π z (π z (π z (ω z (dQ z z z) ?_)))))))))))))))
  refine TL.j z z (π z (π z (π z (π z (π z (π z (ω z (dQ z z z) (ε (TC.t z (ξ (TL.j z z (ε (TC.rt 0 (S.r ?_))))))))))))))
  obtain rfl:=so hh
  exact rq [4] ⟨z,z,z⟩
 replace hh:=iw dW hh
 replace dW:=jy dW
 refine Ψ z (aU z o_ z) (Ψ z (bg z qx z (i:=1) z z) (Ψ z (lenC z mY z) (Ψ z (aU z o_ z) (Ψ z (bg z qx z (i:=0) z z) (Ψ z (lenC z mY z) (Ψ z (OpVal.neq z z z) (ω z (dU z z z) (TL.j z z (TL.split 29 z (λdP=> ?_) (λdP=> ?_))))))))))
 ·replace hh:=ig dP hh
  replace dP:=jk dP
  refine π z (π z (π z (π z (π z (π z (ω z (dQ z z z) (TL.j z z (π z (π z (π z (π z (π z (π z (ω z (dQ z z z) (ε ?_)))))))))))))))
  refine TC.t z (ξ (TL.j z z (ε (TC.rt 0 (S.r ?_)))))
  obtain rfl:=so hh
  exact rq [4] ⟨z,z,z⟩
 replace hh:=iw dP hh
 replace dP:=jy dP
 refine Ψ z (aU z uF z) (Ψ z (bg z rX z (i:=1) z z) (Ψ z (aU z uF z) (Ψ z (bg z rX z (i:=0) z z) ?_)))
 obtain ⟨v32,u32,hh⟩:=dJ hh
 refine TL.gon z z z z z (kD (Ew_ aS Py u32) z z pf34 z z z ?_)
 refine Ψ z (OpVal.not z z) (ω z (dU z z z) (TL.j z z (TL.split 37 z (λfH=> ?_) (λfH=> ?_))))
 ·replace hh:=ig fH hh
  refine π z (π z (π z (π z (π z (π z (ω z (dQ z z z) (ε (TC.t z (ξ (TL.j z z (ε (TC.rt 0 (S.r ?_)))))))))))))
  obtain rfl:=so hh
  exact rq [4] ⟨z,z,z⟩
 replace hh:=iw fH hh
 refine Ψ z (aU z uX z) (Ψ z (bg z mJ z (i:=1) z z) (Ψ z (aU z uX z) (Ψ z (bg z mJ z (i:=0) z z) ?_)))
 obtain ⟨v40,u40,hh⟩:=dJ hh
 refine TL.gon z z z z z (kD (Cw_ aO LG u40) z z Oq z z z ?_)
 refine Ψ z (OpVal.not z z) (ω z (dU z z z) (ε (TC.cB z hh (λlY hh=> ?_) (λlY hh=> ?_))))
 ·refine ξ (TL.j z z (ε (TC.rt 0 (S.r ?_))))
  obtain rfl:=so hh
  exact rq [4] ⟨z,z,z⟩
 refine ι (S.n (θ (ξ (ψ z z (ε (υ (TC.iE (α:=(Nat)×(Unit)) (rgs [(4,2),(45,40)]) (λg=>[(5,.int .i64 ((g.1:Nat):Int))]) (λg=>[jh bG x0 aN aK aA aY aW ay bI bD,jh eY x1 jd jc jL EW yJ jK P_ EU]) (λg=>σ) (λg=>bC (λq:Nat=>Bz_ x0 x1 q) g.1=some r) (λg=>fZ (λq:Nat=>Bz_ x0 x1 q) g.1) (0,()) (Θ [1] 2) z (by repeat (first|exact trivial|refine ⟨z,?_⟩)) hh (λg1 j1 hg1=> ?_))))))))
 obtain ⟨aT,_⟩:=g1
 have hh:=hg1;clear hg1
 try dsimp only
 obtain ⟨z1,hh,hR1⟩:=iq hh
 dsimp only [Bz_]at hh
 refine θ (ξ (ψ z z (ω z (aU z kW z) (ω z (bg z j_ z (i:=0) z z) (ω z (lenC z eX z) (ω z (OpVal.lss z z z) (ε (TC.cD z hh (λAd hh=> ?_) (λAd hh=> ?_)))))))))
 ·refine ι (S.n (TC.cutG (α:=(Unit)×(Unit)) (rgs [(4,1),(52,33)]) (λg=>[]) (λg=>[jh bG x0 aN aK aA aY aW ay bI bD,jh eY x1 jd jc jL EW yJ jK P_ EU]) (λg=>σ) (λg=>Cl_ aT=some z1) ?_ (λg j hg=> ?_)))
  ·skip
   refine υ (θ (TC.draw [] (by kernel_rfl) (TA.a 0 z (aU z kW z) z (TA.b 1 z (bg z j_ z (i:=0) z z) z (TA.a 2 z (cO (.inl z) z) z (TA.b 3 z (bT z eX fP z z au.isSl (by omega)) z ?_))))))
   obtain ⟨zD,uV,KZ⟩:=RZ.seg au aT (by omega)
   replace uV:dH _ aF zD.1 zD.2 (nth x0.next aT []):=uV
   have hk114b:=uV.rv.big
   refine TA.b 4 z (OpVal.of (lZ z hs_ z KZ z) (v':= .slice zD.1 ((nth x0.next aT []).length) zD.2) z) z (TA.a 5 z (aU z kW z) z (TA.b 6 z (bg z j_ z (i:=1) z z) z (TA.a 7 z (cO (.inl z) z) z ?_)))
   obtain ⟨u58,hh⟩:=aP hh
   refine TA.b 8 z (bT z eX fP z z dN.isSl (by omega)) z ?_
   obtain ⟨OV,Gz,hg115⟩:=RZ.seg dN aT (by omega)
   replace Gz:dH _ aF OV.1 OV.2 (nth x1.next aT []):=Gz
   have hk115b:=Gz.rv.big
   refine TA.b 9 z (OpVal.of (lZ z hs_ z hg115 z) (v':= .slice OV.1 ((nth x1.next aT []).length) OV.2) z) z ?_
   obtain ⟨v60,u60,hh⟩:=dJ hh
   refine TA.ac 10 z (kD (Gh_ uV Gz u60) z z pf52 z z z (k0 ?_))
   refine TA.a 11 z (OpVal.not z z) z (TA.a 12 z (moveB (.inl z) z) z (TA.split 64 z (λh116=> ?_) (λh116=> ?_)))
   ·replace hh:=ig h116 hh
    refine TA.off 13 z z z z z z (TA.off 14 z z z z z z (TA.off 15 z z z z z z (TA.off 16 z z z z z z (TA.off 17 z z z z z z (TA.off 18 z z z z z z (TA.uY 19 z (by kernel_rfl) (by kernel_rfl) (by kernel_rfl) (by kernel_rfl) z z z z z z z (TA.uY 20 z (by kernel_rfl) (by kernel_rfl) (by kernel_rfl) (by kernel_rfl) z z z z z z z (TA.uY 21 z (by kernel_rfl) (by kernel_rfl) (by kernel_rfl) (by kernel_rfl) z z z z z z z (TA.uY 22 z (by kernel_rfl) (by kernel_rfl) (by kernel_rfl) (by kernel_rfl) z z z z z z z (TA.uY 23 z (by kernel_rfl) (by kernel_rfl) (by kernel_rfl) (by kernel_rfl) z z z z z z z (TA.uY 24 z (by kernel_rfl) (by kernel_rfl) (by kernel_rfl) (by kernel_rfl) z z z z z z z (TA.uY 25 z (by kernel_rfl) (by kernel_rfl) (by kernel_rfl) (by kernel_rfl) z z z z z z z (TA.uY 26 z (by kernel_rfl) (by kernel_rfl) (by kernel_rfl) (by kernel_rfl) z z z z z z z (TA.uY 27 z (by kernel_rfl) (by kernel_rfl) (by kernel_rfl) (by kernel_rfl) z z z z z z z (TA.uY 28 z (by kernel_rfl) (by kernel_rfl) (by kernel_rfl) (by kernel_rfl) z z z z z z z ?_)))))))))))))))
    refine TA.uY 29 z (by kernel_rfl) (by kernel_rfl) (by kernel_rfl) (by kernel_rfl) z z z z z z z (TA.uY 30 z (by kernel_rfl) (by kernel_rfl) (by kernel_rfl) (by kernel_rfl) z z z z z z z (TA.off 31 z z z z z z (TA.a 32 z (dQ z z z) z (TA.dn (S.n (TC.t z (ξ (TL.j z z (ε (TC.rt 0 (B.r (S.r (S.r ?_)))))))))))))
    replace hh:=dI hR1 hh
    refine B.r (S.r ?_)
    obtain rfl:=so hh
    exact rq [4] ⟨z,z,z⟩
   replace hh:=iw h116 hh
   refine TA.on 13 z z z z (cO (.inl z) z) z (TA.on 14 z z z z (aU z o_ z) z (TA.on 15 z z z z (bg z qx z (i:=0) z z) z (TA.on 16 z z z z (lenC z mY z) z (TA.on 17 z z z z (OpVal.lss z z z) z (TA.on 18 z z z z (moveB (.inl z) z) z (TA.split 70 z (λql=> ?_) (λql=> ?_)))))))
   ·replace hh:=ig ql hh
    replace ql:=jk ql
    refine TA.on 19 z z z z (aU z o_ z) z (TA.on 20 z z z z (bg z qx z (i:=0) z z) z (TA.on 21 z z z z (cO (.inl z) z) z (TA.on 22 z z z z (bT z mY nC z z aV.isSl (by omega)) z ?_)))
    obtain ⟨sK,mP,C9⟩:=RZ.seg aV aT (by omega)
    replace mP:dH _ aI sK.1 sK.2 (nth x0.outs aT []):=mP
    have hk118b:=mP.rv.big
    refine TA.on 23 z z z z (OpVal.of (lZ z mJ z C9 z) (v':= .slice sK.1 ((nth x0.outs aT []).length) sK.2) z) z (TA.on 24 z z z z (aU z o_ z) z (TA.on 25 z z z z (bg z qx z (i:=1) z z) z (TA.on 26 z z z z (cO (.inl z) z) z ?_)))
    obtain ⟨u77,hh⟩:=aP hh
    refine TA.on 27 z z z z (bT z mY nC z z LH.isSl (by omega)) z ?_
    obtain ⟨sJ,lW,CZ⟩:=RZ.seg LH aT (by omega)
    replace lW:dH _ aI sJ.1 sJ.2 (nth x1.outs aT []):=lW
    have hk119b:=lW.rv.big
    refine TA.on 28 z z z z (OpVal.of (lZ z mJ z CZ z) (v':= .slice sJ.1 ((nth x1.outs aT []).length) sJ.2) z) z ?_
    obtain ⟨v79,u79,hh⟩:=dJ hh
    refine TA.di_ 29 (by kernel_rfl) z z z z z z (kD (Cw_ mP lW u79) z z Oq z z z (k0 ?_))
    refine TA.on 30 z z z z (OpVal.not z z) z (TA.on 31 z z z z (dQ z z z) z (TA.a 32 z (dU z z z) z (TA.dn (S.n (TC.cB z hh (λLp hh=> ?_) (λLp hh=> ?_))))))
    ·refine ξ (TL.j z z (ε (TC.rt 0 (B.r (S.r (S.r ?_))))))
     replace hh:=dI hR1 hh
     refine B.r (S.r ?_)
     obtain rfl:=so hh
     exact rq [4] ⟨z,z,z⟩
    exact ι (B.n (S.n (cf ((),()) hh (Θ [1,1] 2))))
   replace hh:=iw ql hh
   replace ql:=jy ql
   refine TA.off 19 z z z z z z (TA.off 20 z z z z z z (TA.off 21 z z z z z z (TA.off 22 z z z z z z (TA.off 23 z z z z z z (TA.off 24 z z z z z z (TA.off 25 z z z z z z (TA.off 26 z z z z z z (TA.off 27 z z z z z z (TA.off 28 z z z z z z (TA.off 29 z z z z z z (TA.off 30 z z z z z z (TA.on 31 z z z z (dU z z z) z (TA.a 32 z (dU z z z) z (TA.dn (S.n ?_)))))))))))))))
   exact TC.f z (ι (B.n (S.n (cf ((),()) hh (Θ [1,1] 2)))))
  skip
  obtain ⟨_,_⟩:=g
  have hh:=hg;clear hg
  try dsimp only
  dsimp only [Cl_]at hh
  refine η (ψ z z (ω z (OpVal.succ z z z (by omega)) (ψ z z (ε ?_))))
  obtain ⟨hh,Eb⟩:=dL hR1 hh
  exact lf ((aT+1),()) Eb hh (Θ [1,1] 2)
 refine TC.exit (S.x (S.x ?_))
 replace hh:=dI hR1 hh
 refine Δ (S.n (ξ (TL.j z z (ε (TC.rt 0 ?_)))))
 obtain rfl:=so hh
 exact rq [4] ⟨z,z,z⟩
end Go.Proofs.YtchebnpdnfhenaaGreatDoor
end

noncomputable section
namespace Go.E
open Go
section
variable {β:Type} {E' E size:Nat} {enc:β->List Value} {v:Value}
theorem Zn.one(l:List β)(p:Option Addr×Nat):Zn [(l,p)] [l]:=rfl
theorem Zn.app{z y:List (NP β)}{l k:List (List β)}(h:Zn z l)(h2:Zn y k):Zn (z++y) (l++k):=by
  unfold Zn at *;rw [List.map_append,h,h2]
theorem Reach.dx_{w0:World}{C:List Nat}{σ0 σ:aj}{w:World}{F:List Res}(E' E size:Nat)(enc:β->List Value)(h:Reach w0 C σ0 σ w F):Reach w0 C σ0 σ w (Res.nest E' E size enc (.slice none 0 0) []::F):=
  Reach.star (G:=[_]) (h.nilRow E' 1)
variable {X:Ctx} {e:Env} {σ:aj} {H F:List Res} {o:Oper} {x y:Operand} {K:Env->aj->List Res->Prop} {z u:List (NP β)} {l k:List (List β)}
theorem OpOk.buildN{T d:Nat}{parts:Array (Nat×Operand)}{zv:Value}{a:Option Addr}{m c:Nat}{l':List β}(hm:l'.length=m)(ho:o.op= .buildSlice T 1 parts)(ht:X.P.underlying T=some (.slice E'))(hs:szOf X.P E'=some 1)(hz:zeroOf X.P E'=some zv)(hd:o.dst=some d)(hn:Nat.blt d X.n=true)
    (hz0:zv.cells.toList=[.slice none 0 0]) (hf:Og (λi=>some (i * 1,1)) [.slice none 0 0] (parts.toList.map λx=>(x.1,ev e x.2))=some [.slice a m c])
    (kk: ∀a1 c1,Zn [(l',(a,c))] [l']->K (upd e d (.slice a1 ([l']:List (List β)).length c1)) σ (Res.nest E' E size enc (.slice a1 ([l']:List (List β)).length c1) [(l',(a,c))]::F)):OpOk X o e σ (φ E size enc (.slice a m c) l'::F) K:=by
  subst hm
  refine OpOk.then (OpOk.lit (enc:=(o8:NP β->List Value)) (K:=λe' σ' G=> ∃a1 c1,e'=upd e d (.slice a1 1 c1)/\σ'=σ/\G=φ E' 1 o8 (.slice a1 1 c1) [(l',(a,c))]::φ E size enc (.slice a l'.length c) l'::F) [(l',(a,c))] ho ht hs hz hd hn rfl kq_ (by decide) (by decide) oq hz0 (by decide) hf (by decide) qm_ λa1 c1=>⟨a1,c1,rfl,rfl,rfl⟩) ?_
  rintro e' σ' G ⟨a1,c1,rfl,rfl,rfl⟩
  exact ⟨_,λw h=>Reach.star (G:=[φ E' 1 o8 (.slice a1 1 c1) [(l',(a,c))],Pe E size enc (l',(a,c))]) h,kk a1 c1 (Zn.one l' (a,c))⟩
theorem OpOk.dh_{T d nV:Nat}{zv w:Value}{ty:TypeId}(ho:o.op= .call {callee:= .builtin .append,args:= #[x,y],argTypes:= #[T,ty]})(hty:ty=T)(ht:X.P.underlying T=some (.slice E'))(hs:szOf X.P E'=some 1)(hby:byOf X.P E'=some nV)(hz:zeroOf X.P E'=some zv)
    (hd:o.dst=some d) (hn:Nat.blt d X.n=true) (hzs:zv.cells.size=1) (hx:ev e x=v) (hy:ev e y=w) (hZ:Zn z l) (hU:Zn u k) (hb0:(l.length+k.length) * nV<=140737488355328) (qh:0<nV)
    (kk: ∀a c,Zn (z++u) (l++k)->K (upd e d (.slice a (l++k).length c)) σ (Res.nest E' E size enc (.slice a (l++k).length c) (z++u)::F)):OpOk X o e σ (Res.nest E' E size enc v z::Res.nest E' E size enc w u::F) K:=by
  refine OpOk.by (H':=φ E' 1 o8 v z::φ E' 1 o8 w u::(sW E size enc z++(sW E size enc u++F))) (λw' h=> ?_) ?_
  · have h1:=h.Va
    have h2:Reach _ _ _ _ _ (Res.nest E' E size enc w u::(φ E' 1 o8 v z::sW E size enc z++F)):=h1.perm (by
      simp only [List.cons_append]
      exact (List.perm_middle (l₁:=φ E' 1 o8 v z::sW E size enc z)).symm)
    have h3:=h2.Va
    refine h3.perm ?_
    simp only [List.cons_append]
    refine List.Perm.trans (List.Perm.swap _ _ _) (List.Perm.cons _ ?_)
    refine List.Perm.symm ((List.perm_middle (l₁:=sW E size enc u)).trans (List.Perm.cons _ ?_))
    rw [<-qA,<-qA]
    exact (List.perm_append_comm).append_right F
  refine OpOk.then (OpOk.as_ (enc:=(o8:NP β->List Value)) (K:=λe' σ' G=> ∃a c,e'=upd e d (.slice a (z++u).length c)/\σ'=σ/\G=φ E' 1 o8 (.slice a (z++u).length c) (z++u)::φ E' 1 o8 w u::(sW E size enc z++(sW E size enc u++F))) ho hty ht hs hby hz hd hn (by decide) hzs hx hy (.inr ⟨_,0,rfl⟩) (by rw [hZ.len,hU.len];exact hb0) qh λa c=>⟨a,c,rfl,rfl,rfl⟩) ?_
  rintro e' σ' G ⟨a,c,rfl,rfl,rfl⟩
  have hl:(z++u).length=(l++k).length:=by rw [fU,fU,hZ.len,hU.len]
  rw [hl]
  refine ⟨_,λw' h=>Reach.star ?_,kk a c (hZ.app hU)⟩
  have h1:=h.sub (H':=φ E' 1 o8 (.slice a (l++k).length c) (z++u)::(sW E size enc z++(sW E size enc u++F))) (List.Sublist.cons_cons _ (List.sublist_cons_self _ _))
  have e1:sW E size enc (z++u)=sW E size enc z++sW E size enc u:=List.map_append
  rw [e1]
  simpa only [List.cons_append,qA]using h1
end
end Go.E
end

noncomputable section
namespace Go.Proofs.YtchebnpdnfhenaaGreatDoor
open Go Go.E Go.E.OpVal Go.E.OpOk Go.Proofs.Tryz
open List (replicate)
theorem by29:byOf Tryz.prog 29=some 24:=by kernel_rfl
theorem pf33:plainF Tryz.prog 33=true:=by kernel_rfl
theorem pf36:plainF Tryz.prog 36=true:=by kernel_rfl
theorem pf55:plainF Tryz.prog 55=true:=by kernel_rfl
theorem pf71:plainF Tryz.prog 71=true:=by kernel_rfl
theorem pf74:plainF Tryz.prog 74=true:=by kernel_rfl
theorem pf75:plainF Tryz.prog 75=true:=by kernel_rfl
def QW(x0:Seq)(dG:Nat)(jG:B_1)(dA:aB)(t146:Bool)(yE:aB)(kL:Nat):Option ((aB×Nat)⊕((aB×B_1×Bool×Nat)⊕((aB×B_1×Bool)⊕(aB×B_1×Int)))):=
 aQ (decide ((kL:Int)<256)) (grd (kL<(nth x0.next dG []).length) (aQ (decide (0<=(nth (nth x0.next dG []) kL 0))) (grd (0<=(nth (nth x0.next dG []) kL 0)/\(nth (nth x0.next dG []) kL 0)<(jG.length:Int)) (aQ (nth jG ((nth (nth x0.next dG []) kL 0).toNat) false) (grd (dG<x0.outs.length) (grd (kL<(nth x0.outs dG []).length) (grd (0<=(nth (nth x0.next dG []) kL 0)/\(nth (nth x0.next dG []) kL 0)<(dA.length:Int)) (grd ((nth (nth x0.outs dG []) kL []).length+(nth dA ((nth (nth x0.next dG []) kL 0).toNat) []).length<=9223372036854775807) (grd ((yE.length+[((nth (nth x0.outs dG []) kL [])++(nth dA ((nth (nth x0.next dG []) kL 0).toNat) []))].length) * 16<=140737488355328) (nxt ((yE++[((nth (nth x0.outs dG []) kL [])++(nth dA ((nth (nth x0.next dG []) kL 0).toNat) []))]),(kL+1)))))))) (nxt (yE,(kL+1))))) (nxt (yE,(kL+1))))) (fin (aQ (decide (((yE.length:Nat):Int)=0)) (nxt (dA,jG,t146,(dG+1))) (bnd (Dc_ yE) (λv87=>grd (dG<jG.length) (aQ (!(nth jG dG false)) (grd (dG<jG.length) (grd (dG<dA.length) (nxt ((dA.set dG v87),(jG.set dG true),true,(dG+1))))) (grd (dG<dA.length) (aQ (decide (v87≠(nth dA dG []))) (grd (dG<jG.length) (grd (dG<dA.length) (nxt ((dA.set dG v87),(jG.set dG true),true,(dG+1))))) (nxt (dA,jG,t146,(dG+1))))))))))
def Bj_(x0:Seq)(dG:Nat)(jG:B_1)(dA:aB)(t146:Bool)(Wx:aB):Option ((aB×B_1×Bool×Nat)⊕((aB×B_1×Bool)⊕(aB×B_1×Int))):=
 bC (λq:aB×Nat=>QW x0 dG jG dA t146 q.1 q.2) (Wx,0)
def QX(x0:Seq)(dA:aB)(jG:B_1)(t146:Bool)(dG:Nat):Option ((aB×B_1×Bool×Nat)⊕((aB×B_1×Bool)⊕(aB×B_1×Int))):=
 aQ (decide ((dG:Int)<((x0.next.length:Nat):Int))) (grd (dG<x0.fin.length) (aQ (nth x0.fin dG false) (grd (dG<x0.tail.length) (grd ((([]:aB).length+[(nth x0.tail dG [])].length) * 16<=140737488355328) (Bj_ x0 dG jG dA t146 (([]:aB)++[(nth x0.tail dG [])])))) (Bj_ x0 dG jG dA t146 ([]:aB)))) (fin (nxt (dA,jG,t146)))
def Vq(x0:Seq)(O7:aB)(aJ:B_1)(t124:Bool):Option ((aB×B_1×Bool)⊕(aB×B_1×Int)):=
 aQ t124 (bC (λq:aB×B_1×Bool×Nat=>QX x0 q.1 q.2.1 q.2.2.1 q.2.2.2) (O7,aJ,false,0)) (fin (some (O7,aJ,0)))
def QZ(x0:Seq):Option (aB×B_1×Int):=
 bnd (Zz x0) (λv6=>aQ (!v6) (some (([]:aB),([]:B_1),1)) (grd (16 * x0.next.length<=281474976710656) (grd (1 * x0.next.length<=281474976710656) (bC (λq:aB×B_1×Bool=>Vq x0 q.1 q.2.1 q.2.2) ((replicate x0.next.length ([]:T_1)),(replicate x0.next.length false),true)))))
def Gi_(σ:aj)(r:aB×B_1×Int):Value->aj->List Res->Prop:=λv σ' H'=>
 ∃a1 c1 a2 c2,v= .tuple #[.slice a1 r.1.length c1,.slice a2 r.2.1.length c2,.int .i64 r.2.2]/\dH σ' aI a1 c1 r.1/\dH σ' eq_ a2 c2 r.2.1/\H'=[]
theorem Er_{σ:aj}{x0:Seq}(au:RZ σ (aC 1 aF bn) (.slice aN x0.next.length aK) x0.next)(aV:RZ σ (aC 1 aI bF) (.slice aA x0.outs.length aY) x0.outs)(aS:dH σ eq_ aW ay x0.fin)(aO:dH σ aI bI bD x0.tail){r:aB×B_1×Int}(hh:QZ x0=some r):
  Con prog 33 #[.agg (qF x0 aN aK aA aY aW ay bI bD)] σ [] (Gi_ σ r):=by
 dsimp only [QZ]at hh
 have f0_0b:=au.big
 have f0_1b:=aV.big
 have f0_2b:=aS.rv.big
 have f0_3b:=aO.rv.big
 refine Con.mk (n:=106) Tryz.func33 z z z (λw0=> ?_)
 refine ξ (ν z (boxA z z z z (λbG=> ?_)))
 refine Ξ z z (Ξ z z (ψ z z (ε (θ (ξ (ω z (lG z jw fB z (i:=0) z z) ?_))))))
 obtain ⟨v6,u6,hh⟩:=dJ hh
 refine ν z (kD (Et_ (x0:=x0) au aV aS aO u6) z z pf55 z z z ?_)
 refine ω z (OpVal.not z z) (ε (TC.cB z hh (λgG hh=> ?_) (λgG hh=> ?_)))
 ·refine ξ (Ξ z z (Ξ z z (ψ z z (ε (TC.rt 0 (S.r ?_))))))
  obtain rfl:=so hh
  exact rq [2,3,4] ⟨none,0,none,0,z,(RS.nilF _ aI bF),(RS.nilF _ eq_ iQ),z⟩
 refine ι (S.n (ξ (ω z (aU z kW z) (ω z (bg z j_ z (i:=0) z z) (ω z (lenC z eX z) (ψ z z (ε (ξ (ψ z z ?_)))))))))
 obtain ⟨u16,hh⟩:=aP hh
 refine ν z (oW (enc:=aI) ([]:T_1) z fF fK zo sG z z z z (by omega) (by decide) bF (by decide) z qX (λAm c105=> ?_))
 refine Ξ z z (ε (ξ (ψ z z ?_)))
 obtain ⟨yh,hh⟩:=aP hh
 refine ν z (oW (enc:=eq_) false z g_ gV GV Ap z z z z (by omega) (by decide) iQ (by decide) z qQ (λa107 xX=> ?_))
 refine Ξ z z (ε (θ (ξ (TL.j z z (ε (υ (TC.iE (α:=(aB×B_1×Bool)×(Unit)) (rgs [(8,6),(24,80)]) (λg=>[(8,.bool g.1.2.2)]) (λg=>[jh bG x0 aN aK aA aY aW ay bI bD,φ 9 1 aI (.slice Am (replicate x0.next.length ([]:T_1)).length c105) g.1.1,φ 4 1 eq_ (.slice a107 (replicate x0.next.length false).length xX) g.1.2.1]) (λg=>σ) (λg=>bC (λq:aB×B_1×Bool=>Vq x0 q.1 q.2.1 q.2.2) g.1=some r/\g.1.1.length=(replicate x0.next.length ([]:T_1)).length/\g.1.2.1.length=(replicate x0.next.length false).length) (λg=>fZ (λq:aB×B_1×Bool=>Vq x0 q.1 q.2.1 q.2.2) g.1) (((replicate x0.next.length ([]:T_1)),(replicate x0.next.length false),true),()) (Θ [1,2] 3) z (by repeat (first|exact trivial|refine ⟨z,?_⟩)) ⟨hh,z,z⟩ (λg1 j1 hg1=> ?_))))))))
 obtain ⟨⟨O7,aJ,t124⟩,_⟩:=g1
 obtain ⟨hh,Kw,fV⟩:=hg1
 try dsimp only at Kw fV ⊢
 obtain ⟨z1,hh,hR1⟩:=iq hh
 dsimp only [Vq]at hh
 refine χ (i:=1) z (λ_ hb125 _=> ?_)
 refine χ (i:=2) z (λ_ Df _=> ?_)
 refine θ (ξ (TL.j z z (ε (TC.cB z hh (λh127 hh=> ?_) (λh127 hh=> ?_)))))
 ·refine ι (S.n (υ (ξ (TL.j z z (ε (ξ (ψ z z (ε (υ (TC.iE (α:=(aB×B_1×Bool×Nat)×(Unit)) (rgs [(8,6),(25,79)]) (λg=>[(8,.bool g.1.2.2.1),(9,.int .i64 ((g.1.2.2.2:Nat):Int))]) (λg=>[jh bG x0 aN aK aA aY aW ay bI bD,φ 9 1 aI (.slice Am (replicate x0.next.length ([]:T_1)).length c105) g.1.1,φ 4 1 eq_ (.slice a107 (replicate x0.next.length false).length xX) g.1.2.1]) (λg=>σ) (λg=>bC (λq:aB×B_1×Bool×Nat=>QX x0 q.1 q.2.1 q.2.2.1 q.2.2.2) g.1=some z1/\g.1.1.length=(replicate x0.next.length ([]:T_1)).length/\g.1.2.1.length=(replicate x0.next.length false).length) (λg=>fZ (λq:aB×B_1×Bool×Nat=>QX x0 q.1 q.2.1 q.2.2.1 q.2.2.2) g.1) ((O7,aJ,false,0),()) (Θ [2,2,2] 3) z (by repeat (first|exact trivial|refine ⟨z,?_⟩)) ⟨hh,Kw,fV⟩ (λg2 j2 hg2=> ?_)))))))))))
  obtain ⟨⟨dA,jG,t146,dG⟩,_⟩:=g2
  obtain ⟨hh,mO,Gp⟩:=hg2
  try dsimp only at mO Gp ⊢
  obtain ⟨z2,hh,hR2⟩:=iq hh
  dsimp only [QX]at hh
  refine χ (i:=1) z (λ_ hb148 _=> ?_)
  refine χ (i:=2) z (λ_ hb149 _=> ?_)
  refine θ (ξ (ψ z z (ψ z z (ω z (OpVal.lss z z z) (ε (TC.cD z hh (λuy hh=> ?_) (λuy hh=> ?_)))))))
  ·refine ι (S.n (θ (υ (ξ (Ξ z z (ε (TC.cutG (α:=(aB)×((Option Addr)×Nat)) (rgs [(10,1),(30,13)]) (λg=>[(10,.slice g.2.1 g.1.length g.2.2)]) (λg=>[jh bG x0 aN aK aA aY aW ay bI bD,φ 9 1 aI (.slice Am (replicate x0.next.length ([]:T_1)).length c105) dA,φ 4 1 eq_ (.slice a107 (replicate x0.next.length false).length xX) jG,φ 9 1 aI (.slice g.2.1 g.1.length g.2.2) g.1]) (λg=>σ) (λg=>Bj_ x0 dG jG dA t146 g.1=some z2/\dA.length=(replicate x0.next.length ([]:T_1)).length/\jG.length=(replicate x0.next.length false).length) ?_ (λg j hg=> ?_))))))))
   ·skip
    refine ξ (ω z (aU z uF z) (ω z (bg z rX z (i:=0) z z) (ψ z z ?_)))
    obtain ⟨u32,hh⟩:=aP hh
    refine ω z (bT z g_ gV z z aS.rv.sl (by omega)) (ω z (fD false z nX z aS (by omega) z) (ε (TC.cB z hh (λYA hh=> ?_) (λYA hh=> ?_))))
    ·refine η (Ξ z z (ω z (aU z uX z) (ω z (bg z mJ z (i:=0) z z) (ψ z z ?_))))
     obtain ⟨u38,hh⟩:=aP hh
     refine ω z (bT z fF fK z z aO.rv.sl (by omega)) (ω z (fD ([]:T_1) z iK z aO (by omega) z) (ν z (OpOk.lit (enc:=aI) [(nth x0.tail dG [])] z fF fK sG z z z bF (by decide) (by decide) ([]:T_1) z (by decide) z (by decide) qX (λa158 c159=> ?_))))
     refine TL.nilS 9 1 aI ?_
     obtain ⟨MS,hh⟩:=aP hh
     refine ν z (as_ z z fF fK zo sG z z (by decide) z z z (.inr ⟨_,0,z⟩) (by simp) (by decide) (λa162 c163=> ?_))
     exact Ξ z z (ε (cf ((([]:aB)++[(nth x0.tail dG [])]),(a162,c163)) ⟨hh,mO,Gp⟩ (Θ [4,4,4] 4)))
    exact TC.nilS 9 1 aI (ι (S.n (cf (([]:aB),(none,0)) ⟨hh,mO,Gp⟩ (Θ [3,3,3] 4))))
   skip
   obtain ⟨Wx,⟨Zk,c156⟩⟩:=g
   obtain ⟨hh,Gm,Gl⟩:=hg
   try dsimp only at Gm Gl ⊢
   dsimp only [Bj_]at hh
   refine χ (i:=1) z (λ_ hb165 _=> ?_)
   refine χ (i:=2) z (λ_ hb166 _=> ?_)
   refine χ (i:=3) z (λ_ hb167 _=> ?_)
   refine θ (ξ (ψ z z (ε (υ (TC.iE (α:=(aB×Nat)×((Option Addr)×Nat)) (rgs [(10,3),(43,36)]) (λg=>[(10,.slice g.2.1 g.1.1.length g.2.2),(11,.int .i64 ((g.1.2:Nat):Int))]) (λg=>[jh bG x0 aN aK aA aY aW ay bI bD,φ 9 1 aI (.slice Am (replicate x0.next.length ([]:T_1)).length c105) dA,φ 4 1 eq_ (.slice a107 (replicate x0.next.length false).length xX) jG,φ 9 1 aI (.slice g.2.1 g.1.1.length g.2.2) g.1.1]) (λg=>σ) (λg=>bC (λq:aB×Nat=>QW x0 dG jG dA t146 q.1 q.2) g.1=some z2/\dA.length=(replicate x0.next.length ([]:T_1)).length/\jG.length=(replicate x0.next.length false).length) (λg=>fZ (λq:aB×Nat=>QW x0 dG jG dA t146 q.1 q.2) g.1) ((Wx,0),(Zk,c156)) (Θ [3,3,3,3] 4) z (by repeat (first|exact trivial|refine ⟨z,?_⟩)) ⟨hh,Gm,Gl⟩ (λg3 j3 hg3=> ?_))))))
   obtain ⟨⟨yE,kL⟩,⟨qp,qm⟩⟩:=g3
   obtain ⟨hh,mM,uU⟩:=hg3
   try dsimp only at mM uU ⊢
   obtain ⟨z3,hh,zX⟩:=iq hh
   dsimp only [QW]at hh
   refine χ (i:=1) z (λ_ hb188 _=> ?_)
   refine χ (i:=2) z (λ_ hb189 _=> ?_)
   refine χ (i:=3) z (λ_ hb190 _=> ?_)
   refine θ (ξ (ψ z z (ω z (OpVal.lss z z z) (ε (TC.cD z hh (λh191 hh=> ?_) (λh191 hh=> ?_))))))
   ·refine ι (S.n (θ (υ (ξ (ω z (aU z kW z) (ω z (bg z j_ z (i:=0) z z) (ψ z z (ω z (bT z eX fP z z au.isSl (by omega)) ?_))))))))
    obtain ⟨OB,Cm,hg192⟩:=RZ.seg au dG (by omega)
    replace Cm:dH _ aF OB.1 OB.2 (nth x0.next dG []):=Cm
    have hk192b:=Cm.rv.big
    refine ω z (OpVal.of (lZ z hs_ z hg192 z) (v':= .slice OB.1 ((nth x0.next dG []).length) OB.2) z) (ψ z z ?_)
    obtain ⟨NZ,hh⟩:=aP hh
    refine ω z (bT z bY dh z z Cm.rv.sl (by omega)) (ω z (fD (0:Int) z fC z Cm (by omega) z) (ψ z z (ε (ξ (ψ z z (ω z (OpVal.geq z z z) (TL.j z z (TL.split 57 z (λz_=> ?_) (λz_=> ?_)))))))))
    ·replace hh:=ig z_ hh
     replace z_:=jk z_
     refine Ψ z (gK (.inl z) z) (Ψ z (cO (.inl z) z) ?_)
     obtain ⟨u60,hh⟩:=aP hh
     refine TL.isSl (i:=2) z (λhs194 _ _=> ?_)
     refine Ψ z (OpVal.index z g_ gV z z hs194 u60.1 u60.2) (Ψ z (nZ false z nX z (q:=2) z iQ (by omega) z) (ω z (dQ z z z) (ε (TC.cB z hh (λh195 hh=> ?_) (λh195 hh=> ?_)))))
     ·have u67:=Hl hh
      replace hh:=Hw hh
      obtain ⟨u70,hh⟩:=aP hh
      obtain ⟨VG,hh⟩:=aP hh
      obtain ⟨MP,hh⟩:=aP hh
      obtain ⟨u78,hh⟩:=aP hh
      refine TC.draw [15,16] (by kernel_rfl) (TA.a 0 z (gK (.inl z) z) z (TA.a 1 z (aU z o_ z) z (TA.b 2 z (bg z qx z (i:=0) z z) z (TA.a 3 z (cO (.inl z) z) z (TA.b 4 z (bT z mY nC z z aV.isSl (by omega)) z ?_)))))
      obtain ⟨Ju,Cj,hg203⟩:=RZ.seg aV dG (by omega)
      replace Cj:dH _ aI Ju.1 Ju.2 (nth x0.outs dG []):=Cj
      have hk203b:=Cj.rv.big
      refine TA.b 5 z (OpVal.of (lZ z mJ z hg203 z) (v':= .slice Ju.1 ((nth x0.outs dG []).length) Ju.2) z) z (TA.a 6 z (cO (.inl z) z) z (TA.b 7 z (bT z fF fK z z Cj.rv.sl (by omega)) z (TA.b 8 z (fD ([]:T_1) z iK z Cj (by omega) z) z (TA.a 9 z (gK (.inl z) z) z (TA.a 10 z (cO (.inl z) z) z (TA.isSl (i:=1) z (λhs204 _ _=> ?_)))))))
      refine TA.b 11 z (OpVal.index z fF fK z z hs204 VG.1 VG.2) z (TA.b 12 z (nZ ([]:T_1) z iK z (q:=1) z bF (by omega) z) z (TA.a 13 z (PU z z z MP) z (TA.ac 14 z (OpOk.lit (enc:=aI) [((nth (nth x0.outs dG []) kL [])++(nth dA ((nth (nth x0.next dG []) kL 0).toNat) []))] z fF fK sG z z z bF (by decide) (by decide) ([]:T_1) z (by decide) z (by decide) qX (λyI c206=>(k1 ?_))))))
      refine TA.front 4 z z (TA.last 15 (by kernel_rfl) z z z (as_ z z fF fK zo sG z z (by decide) z z z (.inr ⟨_,0,z⟩) (by simpa using u78) (by decide) (λa208 YO=> ?_)))
      refine TZ.v 16 (by kernel_rfl) z z z (gK (.inr z) z) z z (TZ.done (by kernel_rfl) (B.n (S.n (η (ψ z z (ω z (OpVal.succ z z z (by omega)) (ψ z z (ε ?_))))))))
      obtain ⟨hh,DV⟩:=dL zX hh
      exact lf (((yE++[((nth (nth x0.outs dG []) kL [])++(nth dA ((nth (nth x0.next dG []) kL 0).toNat) []))]),(kL+1)),(a208,YO)) DV ⟨hh,mM,uU⟩ (Θ [4,4,4] 4)
     refine ι (B.n (S.n (η (ψ z z (ω z (OpVal.succ z z z (by omega)) (ψ z z (ε ?_)))))))
     obtain ⟨hh,Xz⟩:=dL zX hh
     exact lf ((yE,(kL+1)),(qp,qm)) Xz ⟨hh,mM,uU⟩ (Θ [3,3,3,3] 4)
    replace hh:=iw z_ hh
    replace z_:=jy z_
    refine π z (π z (π z (π z (ω z (dU z z z) (ε (TC.f z (ι (B.n (S.n (η (ψ z z (ω z (OpVal.succ z z z (by omega)) (ψ z z (ε ?_))))))))))))))
    obtain ⟨hh,Xy⟩:=dL zX hh
    exact lf ((yE,(kL+1)),(qp,qm)) Xy ⟨hh,mM,uU⟩ (Θ [3,3,3,3] 4)
   refine TC.exit (S.x (S.x ?_))
   replace hh:=dI zX hh
   refine Δ (S.n (θ (ξ (Ξ z z (ω z (lenC z fF z) (ω z (OpVal.eql z z z) (ε (TC.cD z hh (λYx hh=> ?_) (λYx hh=> ?_)))))))))
   ·refine TC.exit (S.x (Δ (S.n (η (ψ z z (ω z (OpVal.succ z z z (by omega)) (ψ z z (ε ?_))))))))
    obtain ⟨hh,Xx⟩:=dL hR2 hh
    exact lf ((dA,jG,t146,(dG+1)),()) Xx ⟨hh,mM,uU⟩ (Θ [2,2,2] 3)
   refine ι (S.n (ξ (Ξ z z ?_)))
   obtain ⟨v87,u87,hh⟩:=dJ hh
   refine ζ 3 z z (ν z (U_ (Con.lend bF (λ_ hle216 hr215=>Go_ hr215 u87)) z z pf71 z z z z ?_))
   refine ω z (dX (.inr z) z) (ε (ξ (Ξ z z (ψ z z ?_))))
   obtain ⟨u91,hh⟩:=aP hh
   refine TL.isSl (i:=3) z (λJH _ _=> ?_)
   refine ω z (bT z g_ gV z z JH (by omega)) (ω z (nZ false z nX z (q:=3) z iQ (by omega) z) (ω z (OpVal.not z z) (TL.j z z (TL.split 89 z (λYv=> ?_) (λYv=> ?_)))))
   ·replace hh:=ig Yv hh
    refine π z (π z (π z (π z (π z (π z (ω z (dQ z z z) (ε (TC.t z (ξ (Ξ z z (ψ z z ?_)))))))))))
    obtain ⟨Oa,hh⟩:=aP hh
    refine TL.isSl (i:=3) z (λhs219 _ _=> ?_)
    refine ω z (bT z g_ gV z z hs219 (by omega)) (ζ 3 z z ?_)
    have hn220:(jG.set dG true).length=(replicate x0.next.length false).length:=by rw [fQ];exact uU
    refine ν z (lF true z gV z z z z iQ qQ (by omega) (by omega) ?_)
    refine ε (ξ (Ξ z z (ψ z z (ω z (dX (.inl z) z) ?_))))
    obtain ⟨u109,hh⟩:=aP hh
    refine TL.isSl (i:=3) z (λhs221 _ _=> ?_)
    refine ω z (bT z fF fK z z hs221 (by omega)) (ζ 3 z z ?_)
    have hn222:(dA.set dG v87).length=(replicate x0.next.length ([]:T_1)).length:=by rw [fQ];exact mM
    refine ν z (lF v87 z fK z z z z bF qX (by omega) (by omega) ?_)
    refine ε (η (TL.j z z (TL.nil (B.n (S.n (η (ψ z z (ω z (OpVal.succ z z z (by omega)) (ψ z z (ε ?_))))))))))
    obtain ⟨hh,Xw⟩:=dL hR2 hh
    exact lf (((dA.set dG v87),(jG.set dG true),true,(dG+1)),()) Xw ⟨hh,hn222,hn220⟩ (Θ [1,1,3] 3)
   replace hh:=iw Yv hh
   refine Ψ z (dX (.inl z) z) (Ψ z (gK (.inl z) z) (Ψ z (cO (.inl z) z) ?_))
   obtain ⟨u98,hh⟩:=aP hh
   refine TL.isSl (i:=2) z (λBo _ _=> ?_)
   refine Ψ z (bT z fF fK z z Bo (by omega)) (Ψ z (nZ ([]:T_1) z iK z (q:=2) z bF (by omega) z) (Ψ z (Iw z z z) (ω z (dU z z z) (ε (TC.cD z hh (λYt hh=> ?_) (λYt hh=> ?_))))))
   ·refine ξ (Ξ z z (ψ z z ?_))
    obtain ⟨Oa,hh⟩:=aP hh
    refine TL.isSl (i:=3) z (λhs226 _ _=> ?_)
    refine ω z (bT z g_ gV z z hs226 (by omega)) (ζ 3 z z ?_)
    have hn227:(jG.set dG true).length=(replicate x0.next.length false).length:=by rw [fQ];exact uU
    refine ν z (lF true z gV z z z z iQ qQ (by omega) (by omega) ?_)
    refine ε (ξ (Ξ z z (ψ z z (ω z (dX (.inl z) z) ?_))))
    obtain ⟨u109,hh⟩:=aP hh
    refine TL.isSl (i:=3) z (λhs228 _ _=> ?_)
    refine ω z (bT z fF fK z z hs228 (by omega)) (ζ 3 z z ?_)
    have hn229:(dA.set dG v87).length=(replicate x0.next.length ([]:T_1)).length:=by rw [fQ];exact mM
    refine ν z (lF v87 z fK z z z z bF qX (by omega) (by omega) ?_)
    refine ε (η (TL.j z z (TL.nil (B.n (S.n (η (ψ z z (ω z (OpVal.succ z z z (by omega)) (ψ z z (ε ?_))))))))))
    obtain ⟨hh,DT⟩:=dL hR2 hh
    exact lf (((dA.set dG v87),(jG.set dG true),true,(dG+1)),()) DT ⟨hh,hn229,hn227⟩ (Θ [1,1,3] 3)
   refine ι (B.n (S.n (η (ψ z z (ω z (OpVal.succ z z z (by omega)) (ψ z z (ε ?_)))))))
   obtain ⟨hh,Xt⟩:=dL hR2 hh
   exact lf ((dA,jG,t146,(dG+1)),()) Xt ⟨hh,mM,uU⟩ (Θ [3,3,3] 3)
  refine TC.exit (S.x (S.x ?_))
  replace hh:=dI hR2 hh
  refine Δ (B.n (S.n ?_))
  obtain ⟨hh,DR⟩:=dL hR1 hh
  exact lf ((dA,jG,t146),()) DR ⟨hh,mO,Gp⟩ (Θ [2,2,2] 3)
 refine TC.exit (S.x (S.x ?_))
 replace hh:=dI hR1 hh
 refine Δ (S.n (ξ (Ξ z z (Ξ z z (Ξ z z (Ξ z z (ψ z z (ε ?_))))))))
 rw [<-Kw]
 rw [<-fV]
 refine TC.front 1 z z (TC.og bF (λτ235 rC FK=> ?_))
 have hr233b:=FK.rv.big
 refine TC.front 1 z z (TC.og iQ (λτ238 xB BH=> ?_))
 replace FK:=FK.mono xB
 have hr236b:=BH.rv.big
 refine TC.rt 0 ?_
 obtain rfl:=so hh
 exact rq [2,3,4] ⟨Am,c105,a107,xX,z,FK,BH,z⟩
def QY(gY:ak)(iV:Nat)(x0:Seq)(lN:B_1)(u_:ak)(ug:Nat):Option ((ak×Nat)⊕((B_1×ak×Nat)⊕(B_1))):=
 aQ (decide ((ug:Int)<256)) (grd (0<=(nth gY iV 0)/\(nth gY iV 0)<(x0.next.length:Int)) (grd (ug<(nth x0.next ((nth gY iV 0).toNat) []).length) (aQ (decide (0<=(nth (nth x0.next ((nth gY iV 0).toNat) []) ug 0))) (grd (0<=(nth gY iV 0)/\(nth gY iV 0)<(x0.next.length:Int)) (grd (ug<(nth x0.next ((nth gY iV 0).toNat) []).length) (grd ((u_.length+[(nth (nth x0.next ((nth gY iV 0).toNat) []) ug 0)].length) * 8<=140737488355328) (nxt ((u_++[(nth (nth x0.next ((nth gY iV 0).toNat) []) ug 0)]),(ug+1)))))) (nxt (u_,(ug+1)))))) (fin (nxt ((lN.set ((nth gY iV 0).toNat) true),u_,(iV+1))))
def Vr(x0:Seq)(lN:B_1)(gY:ak)(iV:Nat):Option ((B_1×ak×Nat)⊕(B_1)):=
 aQ (decide ((iV:Int)<((gY.length:Nat):Int))) (grd (0<=(nth gY iV 0)/\(nth gY iV 0)<(lN.length:Int)) (aQ (nth lN ((nth gY iV 0).toNat) false) (nxt (lN,gY,(iV+1))) (grd (0<=(nth gY iV 0)/\(nth gY iV 0)<(lN.length:Int)) (bC (λq:ak×Nat=>QY gY iV x0 lN q.1 q.2) (gY,0))))) (fin (some lN))
def Ci_(x0:Seq):Option (B_1):=
 grd (1 * x0.next.length<=281474976710656) (bC (λq:B_1×ak×Nat=>Vr x0 q.1 q.2.1 q.2.2) ((replicate x0.next.length false),[0],0))
def Gc_(σ:aj)(r:B_1):Value->aj->List Res->Prop:=λv σ' H'=>
 ∃a1 c1,v= .slice a1 r.length c1/\σ=σ'/\H'=[dR 4 eq_ a1 c1 r]
theorem F4_{σ:aj}{x0:Seq}(au:RZ σ (aC 1 aF bn) (.slice aN x0.next.length aK) x0.next)(aV:RZ σ (aC 1 aI bF) (.slice aA x0.outs.length aY) x0.outs)(aS:dH σ eq_ aW ay x0.fin)(aO:dH σ aI bI bD x0.tail){r:B_1}(hh:Ci_ x0=some r):
  Con prog 74 #[.agg (qF x0 aN aK aA aY aW ay bI bD)] σ [] (Gc_ σ r):=by
 dsimp only [Ci_]at hh
 have f0_0b:=au.big
 have f0_1b:=aV.big
 have f0_2b:=aS.rv.big
 have f0_3b:=aO.rv.big
 refine Con.mk (n:=55) Tryz.func74 z z z (λw0=> ?_)
 refine ξ (ν z (boxA z z z z (λbG=> ?_)))
 refine Ξ z z (ε (ξ (ω z (aU z kW z) (ω z (bg z j_ z (i:=0) z z) (ω z (lenC z eX z) ?_)))))
 obtain ⟨u6,hh⟩:=aP hh
 refine ν z (oW (enc:=eq_) false z g_ gV GV Ap z z z z (by omega) (by decide) iQ (by decide) z qQ (λjD jC=> ?_))
 refine Ξ z z (ε (ξ (ν z (OpOk.lit (enc:=aF) [0] z bY dh lq z z z bn (by decide) (by decide) (0:Int) z (by decide) z (by decide) jR (λjY c107=> ?_)))))
 refine Ξ z z (ε (θ (ξ (ψ z z (ε (υ (TC.iE (α:=(B_1×ak×Nat)×((Option Addr)×Nat)) (rgs [(4,4),(13,41)]) (λg=>[(4,.slice g.2.1 g.1.2.1.length g.2.2),(5,.int .i64 ((g.1.2.2:Nat):Int))]) (λg=>[jh bG x0 aN aK aA aY aW ay bI bD,φ 4 1 eq_ (.slice jD (replicate x0.next.length false).length jC) g.1.1,φ 3 1 aF (.slice g.2.1 g.1.2.1.length g.2.2) g.1.2.1]) (λg=>σ) (λg=>bC (λq:B_1×ak×Nat=>Vr x0 q.1 q.2.1 q.2.2) g.1=some r/\g.1.1.length=(replicate x0.next.length false).length) (λg=>fZ (λq:B_1×ak×Nat=>Vr x0 q.1 q.2.1 q.2.2) g.1) (((replicate x0.next.length false),[0],0),(jY,c107)) (Θ [1,2] 3) z (by repeat (first|exact trivial|refine ⟨z,?_⟩)) ⟨hh,z⟩ (λg1 j1 hg1=> ?_))))))))
 obtain ⟨⟨lN,gY,iV⟩,⟨a124,Ah⟩⟩:=g1
 obtain ⟨hh,Gq⟩:=hg1
 try dsimp only at Gq ⊢
 obtain ⟨z1,hh,hR1⟩:=iq hh
 dsimp only [Vr]at hh
 refine χ (i:=1) z (λ_ GK _=> ?_)
 refine χ (i:=2) z (λ_ Dc _=> ?_)
 refine θ (ξ (ψ z z (Ξ z z (ω z (lenC z bY z) (ω z (OpVal.lss z z z) (ε (TC.cD z hh (λrJ hh=> ?_) (λrJ hh=> ?_))))))))
 ·refine ι (S.n (θ (υ (ξ (Ξ z z (ψ z z (TL.isSl (i:=2) z (λwP _ _=> ?_))))))))
  refine ω z (bT z bY dh z z wP (by omega)) (ω z (nZ (0:Int) z fC z (q:=2) z bn (by omega) z) (ψ z z (ε (θ (ξ (Ξ z z (ψ z z ?_)))))))
  obtain ⟨u22,hh⟩:=aP hh
  refine TL.isSl (i:=1) z (λJQ _ _=> ?_)
  refine ω z (OpVal.index z g_ gV z z JQ u22.1 u22.2) (ω z (nZ false z nX z (q:=1) z iQ (by omega) z) (ε (TC.cB z hh (λuD hh=> ?_) (λuD hh=> ?_))))
  ·refine TC.exit (S.x (Δ (S.n (η (ψ z z (ω z (OpVal.succ z z z (by omega)) (ψ z z (ε ?_))))))))
   obtain ⟨hh,D_⟩:=dL hR1 hh
   exact lf ((lN,gY,(iV+1)),(a124,Ah)) D_ ⟨hh,Gq⟩ (Θ [2,2,2] 3)
  refine ι (S.n (ξ (Ξ z z (ψ z z ?_))))
  obtain ⟨u26,hh⟩:=aP hh
  refine TL.isSl (i:=1) z (λBv _ _=> ?_)
  refine ω z (OpVal.index z g_ gV z z Bv u26.1 u26.2) (ζ 1 z z ?_)
  have BQ:(lN.set ((nth gY iV 0).toNat) true).length=(replicate x0.next.length false).length:=by rw [fQ];exact Gq
  refine ν z (lF true z gV z z z z iQ qQ (by omega) (by omega) ?_)
  refine ε (ξ (ψ z z (ε (υ (TC.iE (α:=(ak×Nat)×((Option Addr)×Nat)) (rgs [(4,1),(7,1),(30,24)]) (λg=>[(4,.slice g.2.1 g.1.1.length g.2.2),(7,.int .i64 ((g.1.2:Nat):Int))]) (λg=>[jh bG x0 aN aK aA aY aW ay bI bD,φ 4 1 eq_ (.slice jD (replicate x0.next.length false).length jC) (lN.set ((nth gY iV 0).toNat) true),φ 3 1 aF (.slice g.2.1 g.1.1.length g.2.2) g.1.1]) (λg=>σ) (λg=>bC (λq:ak×Nat=>QY gY iV x0 lN q.1 q.2) g.1=some z1/\(lN.set ((nth gY iV 0).toNat) true).length=(replicate x0.next.length false).length) (λg=>fZ (λq:ak×Nat=>QY gY iV x0 lN q.1 q.2) g.1) ((gY,0),(a124,Ah)) (Θ [2,1,2] 3) z (by repeat (first|exact trivial|refine ⟨z,?_⟩)) ⟨hh,BQ⟩ (λg2 j2 hg2=> ?_))))))
  obtain ⟨⟨u_,ug⟩,⟨a149,c150⟩⟩:=g2
  obtain ⟨hh,Gn⟩:=hg2
  try dsimp only at Gn ⊢
  obtain ⟨z2,hh,hR2⟩:=iq hh
  dsimp only [QY]at hh
  refine χ (i:=1) z (λ_ hb152 _=> ?_)
  refine χ (i:=2) z (λ_ U1 _=> ?_)
  refine θ (ξ (ψ z z (ω z (OpVal.lss z z z) (ε (TC.cD z hh (λYB hh=> ?_) (λYB hh=> ?_))))))
  ·refine ι (S.n (θ (υ (ξ (ω z (aU z kW z) (ω z (bg z j_ z (i:=0) z z) (ψ z z ?_)))))))
   obtain ⟨u34,hh⟩:=aP hh
   refine ω z (OpVal.index z eX fP z z au.isSl u34.1 u34.2) ?_
   obtain ⟨OH,CP,hg155⟩:=RZ.seg au ((nth gY iV 0).toNat) (by omega)
   replace CP:dH _ aF OH.1 OH.2 (nth x0.next ((nth gY iV 0).toNat) []):=CP
   have hk155b:=CP.rv.big
   refine ω z (OpVal.of (lZ z hs_ z hg155 z) (v':= .slice OH.1 ((nth x0.next ((nth gY iV 0).toNat) []).length) OH.2) z) (ψ z z ?_)
   obtain ⟨u37,hh⟩:=aP hh
   refine ω z (bT z bY dh z z CP.rv.sl (by omega)) (ω z (fD (0:Int) z fC z CP (by omega) z) (ω z (OpVal.geq z z z) (ε (TC.cD z hh (λh156 hh=> ?_) (λh156 hh=> ?_)))))
   ·refine η (Ξ z z (ω z (aU z kW z) (ω z (bg z j_ z (i:=0) z z) (ψ z z ?_))))
    obtain ⟨u44,hh⟩:=aP hh
    refine ω z (OpVal.index z eX fP z z au.isSl u44.1 u44.2) ?_
    obtain ⟨sH,kX,hg157⟩:=RZ.seg au ((nth gY iV 0).toNat) (by omega)
    replace kX:dH _ aF sH.1 sH.2 (nth x0.next ((nth gY iV 0).toNat) []):=kX
    have hk157b:=kX.rv.big
    refine ω z (OpVal.of (lZ z hs_ z hg157 z) (v':= .slice sH.1 ((nth x0.next ((nth gY iV 0).toNat) []).length) sH.2) z) (ψ z z ?_)
    obtain ⟨MQ,hh⟩:=aP hh
    refine ω z (bT z bY dh z z kX.rv.sl (by omega)) (ω z (fD (0:Int) z fC z kX (by omega) z) (ν z (OpOk.lit (enc:=aF) [(nth (nth x0.next ((nth gY iV 0).toNat) []) ug 0)] z bY dh lq z z z bn (by decide) (by decide) (0:Int) z (by decide) z (by decide) jR (λa158 c159=> ?_))))
    refine ζ 3 z z ?_
    obtain ⟨N7,hh⟩:=aP hh
    refine ν z (as_ z z bY dh uJ lq z z (by decide) z z z (.inr ⟨_,0,z⟩) (by simpa using N7) (by decide) (λa161 c162=> ?_))
    refine Ξ z z (TL.nil (B.n (S.n (η (ψ z z (ω z (OpVal.succ z z z (by omega)) (ψ z z (ε ?_))))))))
    obtain ⟨hh,XM⟩:=dL hR2 hh
    exact lf (((u_++[(nth (nth x0.next ((nth gY iV 0).toNat) []) ug 0)]),(ug+1)),(a161,c162)) XM ⟨hh,Gn⟩ (Θ [3,3] 3)
   refine ι (B.n (S.n (η (ψ z z (ω z (OpVal.succ z z z (by omega)) (ψ z z (ε ?_)))))))
   obtain ⟨hh,XL⟩:=dL hR2 hh
   exact lf ((u_,(ug+1)),(a149,c150)) XL ⟨hh,Gn⟩ (Θ [2,2,2] 3)
  refine TC.exit (S.x (S.x ?_))
  replace hh:=dI hR2 hh
  refine Δ (B.n (S.n (η (ψ z z (ω z (OpVal.succ z z z (by omega)) (ψ z z (ε ?_)))))))
  obtain ⟨hh,wZ⟩:=dL hR1 hh
  exact lf (((lN.set ((nth gY iV 0).toNat) true),u_,(iV+1)),(a149,c150)) wZ ⟨hh,Gn⟩ (Θ [2,2,2] 3)
 refine TC.exit (S.x (S.x ?_))
 replace hh:=dI hR1 hh
 refine Δ (S.n (ξ (Ξ z z (Ξ z z (ε ?_)))))
 rw [<-Gq]
 refine TC.qR (Θ [1] 1) (TC.ret ?_)
 obtain rfl:=so hh
 exact ro [dR 4 eq_ jD jC lN] z (RVs.tmp z RVs.nil) ⟨jD,jC,z,z,z⟩
def ZB(iJ:bW)(lM:ak)(iI:fJ)(mV:aB)(bH:Nat)(x0:Seq)(eu:B_1)(iU:aB)(Jp:T_1):Option ((bW×fJ×B_1×aB×Nat)⊕(Seq×Int)):=
 grd ((iJ.length+[lM].length) * 24<=140737488355328) (grd ((iI.length+[mV].length) * 24<=140737488355328) (grd (bH<x0.fin.length) (grd ((eu.length+[(nth x0.fin bH false)].length) * 1<=140737488355328) (grd ((iU.length+[Jp].length) * 16<=140737488355328) (nxt ((iJ++[lM]),(iI++[mV]),(eu++[(nth x0.fin bH false)]),(iU++[Jp]),(bH+1)))))))
def QS(bH:Nat)(x0:Seq)(aJ:ak)(v5:aB×B_1×Int)(iJ:bW)(iI:fJ)(eu:B_1)(iU:aB)(lM:ak)(mV:aB)(dS:Nat):Option ((ak×aB×Nat)⊕((bW×fJ×B_1×aB×Nat)⊕(Seq×Int))):=
 aQ (decide ((dS:Int)<256)) (grd (bH<x0.next.length) (grd (dS<(nth x0.next bH []).length) (grd (dS<lM.length) (aQ (decide (0<=(nth (nth x0.next bH []) dS 0))) (grd (0<=(nth (nth x0.next bH []) dS 0)/\(nth (nth x0.next bH []) dS 0)<(aJ.length:Int)) (aQ (decide (0<=(nth aJ ((nth (nth x0.next bH []) dS 0).toNat) 0))) (grd (0<=(nth (nth x0.next bH []) dS 0)/\(nth (nth x0.next bH []) dS 0)<(aJ.length:Int)) (grd (dS<(lM.set dS (-1)).length) (grd (bH<x0.outs.length) (grd (dS<(nth x0.outs bH []).length) (grd (0<=(nth (nth x0.next bH []) dS 0)/\(nth (nth x0.next bH []) dS 0)<(v5.1.length:Int)) (grd ((nth (nth x0.outs bH []) dS []).length+(nth v5.1 ((nth (nth x0.next bH []) dS 0).toNat) []).length<=9223372036854775807) (grd ((nth v5.1 bH []).length<=((nth (nth x0.outs bH []) dS [])++(nth v5.1 ((nth (nth x0.next bH []) dS 0).toNat) [])).length/\((nth (nth x0.outs bH []) dS [])++(nth v5.1 ((nth (nth x0.next bH []) dS 0).toNat) [])).length<=((nth (nth x0.outs bH []) dS [])++(nth v5.1 ((nth (nth x0.next bH []) dS 0).toNat) [])).length) (grd (dS<mV.length) (nxt (((lM.set dS (-1)).set dS (nth aJ ((nth (nth x0.next bH []) dS 0).toNat) 0)),(mV.set dS (((nth (nth x0.outs bH []) dS [])++(nth v5.1 ((nth (nth x0.next bH []) dS 0).toNat) [])).drop ((nth v5.1 bH []).length))),(dS+1))))))))))) (nxt ((lM.set dS (-1)),mV,(dS+1))))) (nxt ((lM.set dS (-1)),mV,(dS+1))))))) (fin (grd (bH<x0.fin.length) (aQ (nth x0.fin bH false) (grd (bH<x0.tail.length) (grd ((nth v5.1 bH []).length<=(nth x0.tail bH []).length/\(nth x0.tail bH []).length<=(nth x0.tail bH []).length) (ZB iJ lM iI mV bH x0 eu iU ((nth x0.tail bH []).drop ((nth v5.1 bH []).length))))) (ZB iJ lM iI mV bH x0 eu iU ([]:T_1)))))
def NH(v32:B_1)(aJ:ak)(v5:aB×B_1×Int)(x0:Seq)(iJ:bW)(iI:fJ)(eu:B_1)(iU:aB)(bH:Nat):Option ((bW×fJ×B_1×aB×Nat)⊕(Seq×Int)):=
 aQ (decide ((bH:Int)<((v32.length:Nat):Int))) (grd (bH<aJ.length) (aQ (decide ((nth aJ bH 0)<0)) (nxt (iJ,iI,eu,iU,(bH+1))) (grd (bH<v5.1.length) (bC (λq:ak×aB×Nat=>QS bH x0 aJ v5 iJ iI eu iU q.1 q.2.1 q.2.2) ((replicate 256 (0:Int)),(replicate 256 ([]:T_1)),0))))) (fin (bnd (Zz (⟨(x0.front++(nth v5.1 0 [])),iJ,iI,eu,iU⟩:Seq)) (λNV=>aQ (!NV) (some ((⟨([]:T_1),([]:bW),([]:fJ),([]:B_1),([]:aB)⟩:Seq),2)) (some ((⟨(x0.front++(nth v5.1 0 [])),iJ,iI,eu,iU⟩:Seq),0)))))
def QO(v32:B_1)(v5:aB×B_1×Int)(x0:Seq)(aJ:ak)(bP:Nat)(aX:Nat):Option ((ak×Nat×Nat)⊕(Seq×Int)):=
 aQ (decide ((aX:Int)<((v32.length:Nat):Int))) (grd (aX<aJ.length) (aQ (nth v32 aX false) (grd (aX<v5.2.1.length) (aQ (nth v5.2.1 aX false) (grd (aX<(aJ.set aX (-1)).length) (grd (bP+1<=9223372036854775807) (nxt (((aJ.set aX (-1)).set aX (bP:Int)),(bP+1),(aX+1))))) (nxt ((aJ.set aX (-1)),bP,(aX+1))))) (nxt ((aJ.set aX (-1)),bP,(aX+1))))) (fin (grd (0<v5.1.length) (grd (x0.front.length+(nth v5.1 0 []).length<=9223372036854775807) (bC (λq:bW×fJ×B_1×aB×Nat=>NH v32 aJ v5 x0 q.1 q.2.1 q.2.2.1 q.2.2.2.1 q.2.2.2.2) (([]:bW),([]:fJ),([]:B_1),([]:aB),0)))))
def Vo(x0:Seq):Option (Seq×Int):=
 bnd (QZ x0) (λv5=>aQ (decide (v5.2.2≠0)) (some ((⟨([]:T_1),([]:bW),([]:fJ),([]:B_1),([]:aB)⟩:Seq),v5.2.2)) (aQ (decide (((v5.2.1.length:Nat):Int)=0)) (some ((⟨([]:T_1),([]:bW),([]:fJ),([]:B_1),([]:aB)⟩:Seq),0)) (grd (0<v5.2.1.length) (aQ (!(nth v5.2.1 0 false)) (some ((⟨([]:T_1),([]:bW),([]:fJ),([]:B_1),([]:aB)⟩:Seq),0)) (bnd (Ci_ x0) (λv32=>grd (8 * v32.length<=281474976710656) (bC (λq:ak×Nat×Nat=>QO v32 v5 x0 q.1 q.2.1 q.2.2) ((replicate v32.length (0:Int)),0,0))))))))
def Gz_(σ:aj)(r:Seq×Int):Value->aj->List Res->Prop:=λv σ' H'=>
 ∃a1 c1 a2 c2 a3 c3 a4 c4,v= .tuple #[.agg (qF r.1 a1 c1 a2 c2 a3 c3 a4 c4),.int .i64 r.2]/\RZ σ' (aC 1 aF bn) (.slice a1 r.1.next.length c1) r.1.next/\RZ σ' (aC 1 aI bF) (.slice a2 r.1.outs.length c2) r.1.outs/\dH σ' eq_ a3 c3 r.1.fin/\dH σ' aI a4 c4 r.1.tail/\H'=[]
theorem E3_{σ:aj}{x0:Seq}(au:RZ σ (aC 1 aF bn) (.slice aN x0.next.length aK) x0.next)(aV:RZ σ (aC 1 aI bF) (.slice aA x0.outs.length aY) x0.outs)(aS:dH σ eq_ aW ay x0.fin)(aO:dH σ aI bI bD x0.tail){r:Seq×Int}(hh:Vo x0=some r):
  Con prog 36 #[.agg (qF x0 aN aK aA aY aW ay bI bD)] σ [] (Gz_ σ r):=by
 dsimp only [Vo]at hh
 have f0_0b:=au.big
 have f0_1b:=aV.big
 have f0_2b:=aS.rv.big
 have f0_3b:=aO.rv.big
 refine Con.mk (n:=190) Tryz.func36 z z z (λw0=> ?_)
 refine ξ (ν z (boxA z z z z (λbG=> ?_)))
 refine ν z (OpOk.alloc z nD z z (λeY=> ?_))
 refine ψ z z (ε (ξ (ω z (lG z jw fB z (i:=1) z z) ?_)))
 obtain ⟨v5,u5,hh⟩:=dJ hh
 refine ν z (OpOk.call (Er_ (x0:=x0) au aV aS aO u5) z z pf33 z z z z ?_)
 rintro _ τ105 _ jf ⟨a105_1,c105_1,a105_2,c105_2,rfl,hr105_0,hr105_1,rfl⟩
 replace au:=au.mono jf
 replace aV:=aV.mono jf
 replace aS:=aS.mono jf
 replace aO:=aO.mono jf
 have hr105_0b:=hr105_0.rv.big
 have hr105_1b:=hr105_1.rv.big
 refine ω z (vS (.inl z) z) (ω z (OpVal.extract z z z) (ω z (OpVal.extract z z z) (ω z (OpVal.extract z z z) (Ξ z z (Ξ z z (ψ z z (ε (θ (ξ (ψ z z (ω z (OpVal.neq z z z) (ε (TC.cD z hh (λdW hh=> ?_) (λdW hh=> ?_))))))))))))))
 ·refine ξ (ω z (ny z wH nD z) (ψ z z (ν z (storeAll z fB z z z z z z ?_))))
  refine ψ z z (ε (TC.rt 1 (S.r ?_)))
  obtain rfl:=so hh
  exact ro [] z (RVs.agg jw fB z (i:=0) z z (RVs.tmp z RVs.nil)) ⟨none,0,none,0,none,0,none,0,z,(RZ.nilF _ (aC 1 aF bn)),(RZ.nilF _ (aC 1 aI bF)),(RS.nilF _ eq_ iQ),(RS.nilF _ aI bF),z⟩
 refine ι (S.n (θ (ξ (Ξ z z (ω z (lenC z g_ z) (ω z (OpVal.eql z z z) (TL.j z z (TL.split 33 z (λdP=> ?_) (λdP=> ?_)))))))))
 ·replace hh:=ig dP hh
  replace dP:=jk dP
  refine π z (π z (π z (π z (ω z (dQ z z z) (ε (TC.t z (ξ (ω z (ny z wH nD z) (ν z (storeAll z fB z z z z z z ?_))))))))))
  refine ψ z z (ε (TC.rt 1 (S.r ?_)))
  obtain rfl:=so hh
  exact ro [] z (RVs.agg jw fB z (i:=0) z z (RVs.tmp z RVs.nil)) ⟨none,0,none,0,none,0,none,0,z,(RZ.nilF _ (aC 1 aF bn)),(RZ.nilF _ (aC 1 aI bF)),(RS.nilF _ eq_ iQ),(RS.nilF _ aI bF),z⟩
 replace hh:=iw dP hh
 replace dP:=jy dP
 refine Ψ z (gK (.inl z) z) ?_
 obtain ⟨u24,hh⟩:=aP hh
 refine Ψ z (bT (i:=0) z g_ gV z z hr105_1.rv.sl (by omega)) (Ψ z (fD false z nX z hr105_1 (by omega) z) (Ψ z (OpVal.not z z) (ω z (dU z z z) (ε (TC.cB z hh (λfH hh=> ?_) (λfH hh=> ?_))))))
 ·refine ξ (ω z (ny z wH nD z) (ν z (storeAll z fB z z z z z z ?_)))
  refine ψ z z (ε (TC.rt 1 (S.r ?_)))
  obtain rfl:=so hh
  exact ro [] z (RVs.agg jw fB z (i:=0) z z (RVs.tmp z RVs.nil)) ⟨none,0,none,0,none,0,none,0,z,(RZ.nilF _ (aC 1 aF bn)),(RZ.nilF _ (aC 1 aI bF)),(RS.nilF _ eq_ iQ),(RS.nilF _ aI bF),z⟩
 refine ι (S.n (ξ (ω z (lG z jw fB z (i:=1) z z) ?_)))
 obtain ⟨v32,u32,hh⟩:=dJ hh
 refine ν z (OpOk.call (F4_ (x0:=x0) au aV aS aO u32) z z pf74 z z z z ?_)
 rintro _ _ _ kV ⟨a109_1,c109_1,rfl,rfl,rfl⟩
 refine Ξ z z (ε (ξ (Ξ z z (ω z (lenC z g_ z) ?_))))
 obtain ⟨u36,hh⟩:=aP hh
 refine ν z (oW (enc:=aF) (0:Int) z bY dh uJ lq z z z z (by omega) (by decide) bn (by decide) z jR (λQc PK=> ?_))
 refine Ξ z z (ε (ξ (ψ z z (ε (θ (ξ (ψ z z (ε (υ (TC.iE (α:=(ak×Nat×Nat)×(Unit)) (rgs [(9,2),(45,25)]) (λg=>[(9,.int .i64 ((g.1.2.1:Nat):Int)),(10,.int .i64 ((g.1.2.2:Nat):Int))]) (λg=>[jh bG x0 aN aK aA aY aW ay bI bD,κ eY #[.string (bs ([]:T_1)),bM,bM,bM,bM] 32,dR 4 eq_ a109_1 c109_1 v32,φ 3 1 aF (.slice Qc (replicate v32.length (0:Int)).length PK) g.1.1]) (λg=>τ105) (λg=>bC (λq:ak×Nat×Nat=>QO v32 v5 x0 q.1 q.2.1 q.2.2) g.1=some r/\g.1.1.length=(replicate v32.length (0:Int)).length) (λg=>fZ (λq:ak×Nat×Nat=>QO v32 v5 x0 q.1 q.2.1 q.2.2) g.1) (((replicate v32.length (0:Int)),0,0),()) (Θ [1,2,3] 4) z (by repeat (first|exact trivial|refine ⟨z,?_⟩)) ⟨hh,z⟩ (λg1 j1 hg1=> ?_)))))))))))
 obtain ⟨⟨aJ,bP,aX⟩,_⟩:=g1
 obtain ⟨hh,fV⟩:=hg1
 try dsimp only at fV ⊢
 obtain ⟨z1,hh,hR1⟩:=iq hh
 dsimp only [QO]at hh
 refine χ (i:=2) z (λ_ Df _=> ?_)
 refine χ (i:=3) z (λ_ GK _=> ?_)
 refine θ (ξ (ψ z z (Ξ z z (ω z (lenC z g_ z) (ω z (OpVal.lss z z z) (ε (TC.cD z hh (λh128 hh=> ?_) (λh128 hh=> ?_))))))))
 ·refine ι (S.n (θ (υ (ξ (Ξ z z (ψ z z ?_))))))
  obtain ⟨u46,hh⟩:=aP hh
  refine TL.isSl (i:=3) z (λJR _ _=> ?_)
  refine ω z (bT z bY dh z z JR (by omega)) (ζ 3 z z ?_)
  have Kv:(aJ.set aX (-1)).length=(replicate v32.length (0:Int)).length:=by rw [fQ];exact fV
  refine ν z (lF (-1) z dh z z z z bn jR (by omega) (by omega) ?_)
  refine ε (ξ (Ξ z z (ψ z z (TL.isSl (i:=3) z (λJQ _ _=> ?_)))))
  refine ω z (bT z g_ gV z z JQ (by omega)) (ω z (nZ false z nX z (q:=3) z iQ (by omega) z) (TL.j z z (TL.split 58 z (λuD=> ?_) (λuD=> ?_))))
  ·replace hh:=ig uD hh
   refine Ψ z (gK (.inl z) z) (Ψ z (cO (.inl z) z) ?_)
   obtain ⟨u55,hh⟩:=aP hh
   refine Ψ z (bT z g_ gV z z hr105_1.rv.sl (by omega)) (Ψ z (fD false z nX z hr105_1 (by omega) z) (ω z (dQ z z z) (ε (TC.cB z hh (λLl hh=> ?_) (λLl hh=> ?_)))))
   ·refine ξ (Ξ z z (ψ z z (ψ z z ?_)))
    obtain ⟨u61,hh⟩:=aP hh
    refine TL.isSl (i:=0) z (λBv _ _=> ?_)
    refine ω z (bT z bY dh z z Bv (by omega)) ?_
    have BQ:((aJ.set aX (-1)).set aX (bP:Int)).length=(replicate v32.length (0:Int)).length:=by rw [fQ];exact Kv
    refine ν z (lF (bP:Int) z dh z z z z bn jR (by omega) (by omega) ?_)
    refine ε (η (ψ z z ?_))
    obtain ⟨u64,hh⟩:=aP hh
    refine ω z (OpVal.succ z z z (by omega)) (ψ z z (TL.nil (B.n (S.n (η (ψ z z (ω z (OpVal.succ z z z (by omega)) (ψ z z (ε ?_)))))))))
    obtain ⟨hh,xg⟩:=dL hR1 hh
    exact lf ((((aJ.set aX (-1)).set aX (bP:Int)),(bP+1),(aX+1)),()) xg ⟨hh,BQ⟩ (Θ [3,3,3] 4)
   refine ι (B.n (S.n (η (ψ z z (ω z (OpVal.succ z z z (by omega)) (ψ z z (ε ?_)))))))
   obtain ⟨hh,D7⟩:=dL hR1 hh
   exact lf (((aJ.set aX (-1)),bP,(aX+1)),()) D7 ⟨hh,Kv⟩ (Θ [3,3,3] 4)
  replace hh:=iw uD hh
  refine π z (π z (π z (π z (ω z (dU z z z) (ε (TC.f z (ι (B.n (S.n (η (ψ z z (ω z (OpVal.succ z z z (by omega)) (ψ z z (ε ?_))))))))))))))
  obtain ⟨hh,qY⟩:=dL hR1 hh
  exact lf (((aJ.set aX (-1)),bP,(aX+1)),()) qY ⟨hh,Kv⟩ (Θ [3,3,3] 4)
 refine TC.exit (S.x (S.x ?_))
 replace hh:=dI hR1 hh
 refine Δ (S.n (θ ?_))
 obtain ⟨u72,hh⟩:=aP hh
 obtain ⟨VG,hh⟩:=aP hh
 refine TC.draw [8] (by kernel_rfl) (TA.a 0 z (aU z GR z) z (TA.b 1 z (bg z iK z (i:=0) z z) z (TA.a 2 z (gK (.inl z) z) z (TA.b 3 z (bT (i:=0) z fF fK z z hr105_0.rv.sl (by omega)) z (TA.b 4 z (fD ([]:T_1) z iK z hr105_0 (by omega) z) z (TA.a 5 z (PU z z z VG) z (TA.a 6 z (ny z wH nD z) z (TA.ac 7 z (OpOk.alloc z nD z z (λIa=>(k1 ?_)))))))))))
 refine TA.last 8 (by kernel_rfl) z z z (storeAll z fB z z z z z z ?_)
 refine TZ.done (by kernel_rfl) (S.n (θ (ξ (ψ z z (ε (υ (TC.nilS 86 1 (aC 1 aF bn).en ?_)))))))
 have zf210:=ZOk.nil τ105 (aC 1 aF bn)
 refine TC.nilS 30 1 (aC 1 aI bF).en ?_
 have oI:=ZOk.nil τ105 (aC 1 aI bF)
 refine TC.nilS 4 1 eq_ (TC.nilS 9 1 aI (TC.iE (α:=(bW×fJ×B_1×aB×Nat)×((Option Addr)×Nat×(List (ak×(aC 1 aF bn).P))×(Option Addr)×Nat×(List (aB×(aC 1 aI bF).P))×(Option Addr)×Nat×(Option Addr)×Nat×aj)) (rgs [(12,8),(77,108)]) (λg=>[(12,.int .i64 ((g.1.2.2.2.2:Nat):Int))]) (λg=>[jh bG x0 aN aK aA aY aW ay bI bD,κ eY #[.string (bs ([]:T_1)),bM,bM,bM,bM] 32,dR 4 eq_ a109_1 c109_1 v32,φ 3 1 aF (.slice Qc (replicate v32.length (0:Int)).length PK) aJ,κ Ia #[.string (bs (x0.front++(nth v5.1 0 []))),.slice g.2.1 g.1.1.length g.2.2.1,.slice g.2.2.2.2.1 g.1.2.1.length g.2.2.2.2.2.1,.slice g.2.2.2.2.2.2.2.1 g.1.2.2.1.length g.2.2.2.2.2.2.2.2.1,.slice g.2.2.2.2.2.2.2.2.2.1 g.1.2.2.2.1.length g.2.2.2.2.2.2.2.2.2.2.1] 32,φ 86 1 (aC 1 aF bn).en (.slice g.2.1 g.1.1.length g.2.2.1) g.2.2.2.1,φ 30 1 (aC 1 aI bF).en (.slice g.2.2.2.2.1 g.1.2.1.length g.2.2.2.2.2.1) g.2.2.2.2.2.2.1,φ 4 1 eq_ (.slice g.2.2.2.2.2.2.2.1 g.1.2.2.1.length g.2.2.2.2.2.2.2.2.1) g.1.2.2.1,φ 9 1 aI (.slice g.2.2.2.2.2.2.2.2.2.1 g.1.2.2.2.1.length g.2.2.2.2.2.2.2.2.2.2.1) g.1.2.2.2.1]) (λg=>g.2.2.2.2.2.2.2.2.2.2.2) (λg=>bC (λq:bW×fJ×B_1×aB×Nat=>NH v32 aJ v5 x0 q.1 q.2.1 q.2.2.1 q.2.2.2.1 q.2.2.2.2) g.1=some r/\aJ.length=(replicate v32.length (0:Int)).length/\ZOk g.2.2.2.2.2.2.2.2.2.2.2 (aC 1 aF bn) g.2.2.2.1 g.1.1/\ZOk g.2.2.2.2.2.2.2.2.2.2.2 (aC 1 aI bF) g.2.2.2.2.2.2.1 g.1.2.1/\aj.le τ105 g.2.2.2.2.2.2.2.2.2.2.2) (λg=>fZ (λq:bW×fJ×B_1×aB×Nat=>NH v32 aJ v5 x0 q.1 q.2.1 q.2.2.1 q.2.2.2.1 q.2.2.2.2) g.1) ((([]:bW),([]:fJ),([]:B_1),([]:aB),0),(none,0,[],none,0,[],none,0,none,0,τ105)) (Θ [1,2,3,4,8,8,8,8] 9) z (by repeat (first|exact trivial|refine ⟨z,?_⟩)) ⟨hh,fV,zf210,oI,(aj.le.refl _)⟩ (λg2 j2 hg2=> ?_)))
 obtain ⟨⟨iJ,iI,eu,iU,bH⟩,⟨uK,uI,z193,oG,c198,wC,a203,xR,yc,c208,τ216⟩⟩:=g2
 obtain ⟨hh,Ko,iy,dw,pK⟩:=hg2
 try dsimp only at Ko
 try dsimp only at iy
 try dsimp only at dw
 dsimp only at pK
 replace au:=au.mono pK
 replace aV:=aV.mono pK
 replace aS:=aS.mono pK
 replace aO:=aO.mono pK
 replace hr105_0:=hr105_0.mono pK
 try dsimp only
 obtain ⟨z1,hh,hR1⟩:=iq hh
 dsimp only [NH]at hh
 have zf194b:=iy.length
 have zf200b:=dw.length
 refine χ (i:=2) z (λ_ hb218 _=> ?_)
 refine χ (i:=3) z (λ_ hb219 _=> ?_)
 refine χ (i:=5) z (λ_ hb220 _=> ?_)
 refine χ (i:=6) z (λ_ UW _=> ?_)
 refine χ (i:=7) z (λ_ La _=> ?_)
 refine χ (i:=8) z (λ_ K_ _=> ?_)
 refine θ (ξ (ψ z z (Ξ z z (ω z (lenC z g_ z) (ω z (OpVal.lss z z z) (ε (TC.cD z hh (λh224 hh=> ?_) (λh224 hh=> ?_))))))))
 ·refine ι (S.n (θ (υ (θ (ξ (Ξ z z (ψ z z ?_)))))))
  obtain ⟨u85,hh⟩:=aP hh
  refine TL.isSl (i:=3) z (λhs225 _ _=> ?_)
  refine ω z (bT z bY dh z z hs225 (by omega)) (ω z (nZ (0:Int) z fC z (q:=3) z bn (by omega) z) (ω z (OpVal.lss z z z) (ε (TC.cD z hh (λYr hh=> ?_) (λYr hh=> ?_)))))
  ·refine TC.exit (S.x (Δ (S.n (η (ψ z z (ω z (OpVal.succ z z z (by omega)) (ψ z z (ε ?_))))))))
   obtain ⟨hh,DU⟩:=dL hR1 hh
   exact lf ((iJ,iI,eu,iU,(bH+1)),(uK,uI,z193,oG,c198,wC,a203,xR,yc,c208,τ216)) DU ⟨hh,Ko,iy,dw,pK⟩ (Θ [8,8,8,8,8,8,8,8,8] 9)
  refine ι (S.n (ξ (Ξ z z (ψ z z ?_))))
  obtain ⟨u90,hh⟩:=aP hh
  refine ω z (bT z fF fK z z hr105_0.rv.sl (by omega)) (ω z (fD ([]:T_1) z iK z hr105_0 (by omega) z) (ω z (rQ z kG z) (ψ z z (ε (ξ (ν z (oW (m:=256) (enc:=aF) (0:Int) z bY dh uJ lq z z z z (by omega) (by decide) bn (by decide) z jR (λa228 c229=> ?_))))))))
  refine Ξ z z (ε (ξ (ν z (oW (m:=256) (enc:=aI) ([]:T_1) z fF fK zo sG z z z z (by omega) (by decide) bF (by decide) z qX (λDq c232=> ?_)))))
  refine Ξ z z (ε (θ (ξ (ψ z z (ε (υ (TC.iE (α:=(ak×aB×Nat)×(aj)) (rgs [(16,3),(95,50)]) (λg=>[(16,.int .i64 ((g.1.2.2:Nat):Int))]) (λg=>[jh bG x0 aN aK aA aY aW ay bI bD,κ eY #[.string (bs ([]:T_1)),bM,bM,bM,bM] 32,dR 4 eq_ a109_1 c109_1 v32,φ 3 1 aF (.slice Qc (replicate v32.length (0:Int)).length PK) aJ,κ Ia #[.string (bs (x0.front++(nth v5.1 0 []))),.slice uK iJ.length uI,.slice oG iI.length c198,.slice a203 eu.length xR,.slice yc iU.length c208] 32,φ 86 1 (aC 1 aF bn).en (.slice uK iJ.length uI) z193,φ 30 1 (aC 1 aI bF).en (.slice oG iI.length c198) wC,dR 4 eq_ a203 xR eu,dR 9 aI yc c208 iU,φ 3 1 aF (.slice a228 (replicate 256 (0:Int)).length c229) g.1.1,φ 9 1 aI (.slice Dq (replicate 256 ([]:T_1)).length c232) g.1.2.1]) (λg=>g.2) (λg=>bC (λq:ak×aB×Nat=>QS bH x0 aJ v5 iJ iI eu iU q.1 q.2.1 q.2.2) g.1=some z1/\aJ.length=(replicate v32.length (0:Int)).length/\ZOk g.2 (aC 1 aF bn) z193 iJ/\ZOk g.2 (aC 1 aI bF) wC iI/\g.1.1.length=(replicate 256 (0:Int)).length/\g.1.2.1.length=(replicate 256 ([]:T_1)).length/\aj.le τ216 g.2) (λg=>fZ (λq:ak×aB×Nat=>QS bH x0 aJ v5 iJ iI eu iU q.1 q.2.1 q.2.2) g.1) (((replicate 256 (0:Int)),(replicate 256 ([]:T_1)),0),τ216) (Θ [1,10,10,10,10,10,10,10,10,10] 11) z (by repeat (first|exact trivial|refine ⟨z,?_⟩)) ⟨hh,Ko,iy,dw,z,z,(aj.le.refl _)⟩ (λg3 j3 hg3=> ?_))))))))
  obtain ⟨⟨lM,mV,dS⟩,τ261⟩:=g3
  obtain ⟨hh,qM,vX,lJ,F6,y8,jl⟩:=hg3
  try dsimp only at qM
  try dsimp only at vX
  try dsimp only at lJ
  try dsimp only at F6
  try dsimp only at y8
  dsimp only at jl
  replace au:=au.mono jl
  replace aV:=aV.mono jl
  replace aS:=aS.mono jl
  replace aO:=aO.mono jl
  replace hr105_0:=hr105_0.mono jl
  replace iy:=iy.mono jl
  replace dw:=dw.mono jl
  try dsimp only
  obtain ⟨z2,hh,hR2⟩:=iq hh
  dsimp only [QS]at hh
  have zf254b:=vX.length
  have zf255b:=lJ.length
  refine χ (i:=2) z (λ_ hb263 _=> ?_)
  refine χ (i:=3) z (λ_ hb264 _=> ?_)
  refine χ (i:=5) z (λ_ hb265 _=> ?_)
  refine χ (i:=6) z (λ_ hb266 _=> ?_)
  refine χ (i:=7) z (λ_ hb267 _=> ?_)
  refine χ (i:=8) z (λ_ hb268 _=> ?_)
  refine χ (i:=9) z (λ_ hb269 _=> ?_)
  refine χ (i:=10) z (λ_ hb270 _=> ?_)
  refine θ (ξ (ψ z z (ω z (OpVal.lss z z z) (ε (TC.cD z hh (λh271 hh=> ?_) (λh271 hh=> ?_))))))
  ·refine ι (S.n (θ (υ (ξ (ω z (aU z kW z) (ω z (bg z j_ z (i:=0) z z) (ψ z z ?_)))))))
   obtain ⟨Oa,hh⟩:=aP hh
   refine ω z (bT z eX fP z z au.isSl (by omega)) ?_
   obtain ⟨Oy,Ci,hg272⟩:=RZ.seg au bH (by omega)
   replace Ci:dH _ aF Oy.1 Oy.2 (nth x0.next bH []):=Ci
   have hk272b:=Ci.rv.big
   refine ω z (OpVal.of (lZ z hs_ z hg272 z) (v':= .slice Oy.1 ((nth x0.next bH []).length) Oy.2) z) (ψ z z ?_)
   obtain ⟨G_,hh⟩:=aP hh
   refine ω z (bT z bY dh z z Ci.rv.sl (by omega)) (ω z (fD (0:Int) z fC z Ci (by omega) z) (ψ z z (ε (ξ (Ξ z z (ψ z z ?_))))))
   obtain ⟨G9,hh⟩:=aP hh
   refine TL.isSl (i:=9) z (λhs273 _ _=> ?_)
   refine ω z (bT z bY dh z z hs273 (by omega)) (ζ 9 z z ?_)
   have J9:(lM.set dS (-1)).length=(replicate 256 (0:Int)).length:=by rw [fQ];exact F6
   refine ν z (lF (-1) z dh z z z z bn jR (by omega) (by omega) ?_)
   refine ε (ξ (ψ z z (ω z (OpVal.geq z z z) (TL.j z z (TL.split 112 z (λEy=> ?_) (λEy=> ?_))))))
   ·replace hh:=ig Ey hh
    replace Ey:=jk Ey
    refine Ψ z (gK (.inl z) z) (Ψ z (cO (.inl z) z) ?_)
    obtain ⟨u119,hh⟩:=aP hh
    refine TL.isSl (i:=4) z (λhs276 _ _=> ?_)
    refine Ψ z (OpVal.index z bY dh z z hs276 u119.1 u119.2) (Ψ z (nZ (0:Int) z fC z (q:=4) z bn (by omega) z) (Ψ z (OpVal.geq z z z) (ω z (dQ z z z) (ε (TC.cD z hh (λh277 hh=> ?_) (λh277 hh=> ?_))))))
    ·refine ξ (Ξ z z (ψ z z (Ξ z z (ψ z z ?_))))
     obtain ⟨u127,hh⟩:=aP hh
     refine TL.isSl (i:=4) z (λhs278 _ _=> ?_)
     refine ω z (OpVal.index z bY dh z z hs278 u127.1 u127.2) (ω z (nZ (0:Int) z fC z (q:=4) z bn (by omega) z) ?_)
     obtain ⟨u129,hh⟩:=aP hh
     refine TL.isSl (i:=0) z (λhs279 _ _=> ?_)
     refine ω z (bT z bY dh z z hs279 (by omega)) ?_
     have hn280:((lM.set dS (-1)).set dS (nth aJ ((nth (nth x0.next bH []) dS 0).toNat) 0)).length=(replicate 256 (0:Int)).length:=by rw [fQ];exact J9
     refine ν z (lF (nth aJ ((nth (nth x0.next bH []) dS 0).toNat) 0) z dh z z z z bn jR (by omega) (by omega) ?_)
     refine ε (θ ?_)
     obtain ⟨u134,hh⟩:=aP hh
     obtain ⟨VK,hh⟩:=aP hh
     obtain ⟨Jk,hh⟩:=aP hh
     obtain ⟨u143,hh⟩:=aP hh
     refine TC.draw [] (by kernel_rfl) (TA.a 0 z (aU z o_ z) z (TA.b 1 z (bg z qx z (i:=1) z z) z (TA.a 2 z (cO (.inl z) z) z (TA.b 3 z (bT z mY nC z z aV.isSl (by omega)) z ?_))))
     obtain ⟨Ox,Ce,hg282⟩:=RZ.seg aV bH (by omega)
     replace Ce:dH _ aI Ox.1 Ox.2 (nth x0.outs bH []):=Ce
     have hk282b:=Ce.rv.big
     refine TA.b 4 z (OpVal.of (lZ z mJ z hg282 z) (v':= .slice Ox.1 ((nth x0.outs bH []).length) Ox.2) z) z (TA.a 5 z (cO (.inl z) z) z (TA.b 6 z (bT z fF fK z z Ce.rv.sl (by omega)) z (TA.b 7 z (fD ([]:T_1) z iK z Ce (by omega) z) z (TA.a 8 z (gK (.inl z) z) z (TA.a 9 z (cO (.inl z) z) z (TA.b 10 z (OpVal.index z fF fK z z hr105_0.rv.sl Jk.1 Jk.2) z (TA.b 11 z (fD ([]:T_1) z iK z hr105_0 (by omega) z) z (TA.a 12 z (PU z z z u143) z (TA.a 13 z (dX (.inr z) z) z (TA.dn (S.n (η (Ξ z z (ψ z z (ω z (dX (.inl z) z) ?_)))))))))))))))
     refine ψ z z ?_
     obtain ⟨u149,hh⟩:=aP hh
     refine ω z (bh_ (l:=((nth (nth x0.outs bH []) dS [])++(nth v5.1 ((nth (nth x0.next bH []) dS 0).toNat) []))) (i:=(nth v5.1 bH []).length) z kG z z (by omega) (by omega)) ?_
     obtain ⟨u150,hh⟩:=aP hh
     refine TL.isSl (i:=10) z (λhs283 _ _=> ?_)
     refine ω z (bT z fF fK z z hs283 (by omega)) (ζ 10 z z ?_)
     have hn284:(mV.set dS (((nth (nth x0.outs bH []) dS [])++(nth v5.1 ((nth (nth x0.next bH []) dS 0).toNat) [])).drop ((nth v5.1 bH []).length))).length=(replicate 256 ([]:T_1)).length:=by rw [fQ];exact y8
     refine ν z (lF (((nth (nth x0.outs bH []) dS [])++(nth v5.1 ((nth (nth x0.next bH []) dS 0).toNat) [])).drop ((nth v5.1 bH []).length)) z fK z z z z bF qX (by omega) (by omega) ?_)
     refine TL.nil (B.n (S.n (η (ψ z z (ω z (OpVal.succ z z z (by omega)) (ψ z z (ε ?_)))))))
     obtain ⟨hh,Xg⟩:=dL hR2 hh
     exact lf ((((lM.set dS (-1)).set dS (nth aJ ((nth (nth x0.next bH []) dS 0).toNat) 0)),(mV.set dS (((nth (nth x0.outs bH []) dS [])++(nth v5.1 ((nth (nth x0.next bH []) dS 0).toNat) [])).drop ((nth v5.1 bH []).length))),(dS+1)),τ261) Xg ⟨hh,qM,vX,lJ,hn280,hn284,jl⟩ (Θ [1,10,10,10,10,10,10,10,10,10] 11)
    refine ι (B.n (S.n (η (ψ z z (ω z (OpVal.succ z z z (by omega)) (ψ z z (ε ?_)))))))
    obtain ⟨hh,DL⟩:=dL hR2 hh
    exact lf (((lM.set dS (-1)),mV,(dS+1)),τ261) DL ⟨hh,qM,vX,lJ,J9,y8,jl⟩ (Θ [10,1,10,10,10,10,10,10,10,10,10] 11)
   replace hh:=iw Ey hh
   replace Ey:=jy Ey
   refine π z (π z (π z (π z (π z (ω z (dU z z z) (ε (TC.f z (ι (B.n (S.n (η (ψ z z (ω z (OpVal.succ z z z (by omega)) (ψ z z (ε ?_)))))))))))))))
   obtain ⟨hh,Xf⟩:=dL hR2 hh
   exact lf (((lM.set dS (-1)),mV,(dS+1)),τ261) Xf ⟨hh,qM,vX,lJ,J9,y8,jl⟩ (Θ [10,1,10,10,10,10,10,10,10,10,10] 11)
  refine TC.exit (S.x (S.x ?_))
  replace hh:=dI hR2 hh
  refine Δ (S.n (ξ (ω z (dX (.inr z) z) (ε (TC.cutG (α:=(T_1)×(aj)) (rgs [(19,1),(145,12)]) (λg=>[(19,.string (bs g.1))]) (λg=>[jh bG x0 aN aK aA aY aW ay bI bD,κ eY #[.string (bs ([]:T_1)),bM,bM,bM,bM] 32,dR 4 eq_ a109_1 c109_1 v32,φ 3 1 aF (.slice Qc (replicate v32.length (0:Int)).length PK) aJ,κ Ia #[.string (bs (x0.front++(nth v5.1 0 []))),.slice uK iJ.length uI,.slice oG iI.length c198,.slice a203 eu.length xR,.slice yc iU.length c208] 32,φ 86 1 (aC 1 aF bn).en (.slice uK iJ.length uI) z193,φ 30 1 (aC 1 aI bF).en (.slice oG iI.length c198) wC,dR 4 eq_ a203 xR eu,dR 9 aI yc c208 iU,φ 3 1 aF (.slice a228 (replicate 256 (0:Int)).length c229) lM,φ 9 1 aI (.slice Dq (replicate 256 ([]:T_1)).length c232) mV]) (λg=>g.2) (λg=>ZB iJ lM iI mV bH x0 eu iU g.1=some z1/\aJ.length=(replicate v32.length (0:Int)).length/\ZOk g.2 (aC 1 aF bn) z193 iJ/\ZOk g.2 (aC 1 aI bF) wC iI/\lM.length=(replicate 256 (0:Int)).length/\mV.length=(replicate 256 ([]:T_1)).length/\aj.le τ261 g.2) ?_ (λg j hg=> ?_))))))
  ·skip
   refine ξ (ω z (aU z uF z) (ω z (bg z rX z (i:=0) z z) (ψ z z ?_)))
   obtain ⟨VI,hh⟩:=aP hh
   refine ω z (bT z g_ gV z z aS.rv.sl (by omega)) (ω z (fD false z nX z aS (by omega) z) (ε (TC.cB z hh (λh294 hh=> ?_) (λh294 hh=> ?_))))
   ·refine η (ω z (aU z uX z) (ω z (bg z mJ z (i:=0) z z) (ψ z z ?_)))
    obtain ⟨u164,hh⟩:=aP hh
    refine ω z (bT z fF fK z z aO.rv.sl (by omega)) (ω z (fD ([]:T_1) z iK z aO (by omega) z) (ψ z z ?_))
    obtain ⟨u167,hh⟩:=aP hh
    exact ω z (bh_ (l:=(nth x0.tail bH [])) (i:=(nth v5.1 bH []).length) z kG z z (by omega) (by omega)) (ω z (dX (.inr z) z) (ε (cf (((nth x0.tail bH []).drop ((nth v5.1 bH []).length)),τ261) ⟨hh,qM,vX,lJ,F6,y8,(aj.le.refl _)⟩ (Θ [10,10,10,10,10,10,10,10,10,10,10] 11))))
   exact ι (S.n (cf (([]:T_1),τ261) ⟨hh,qM,vX,lJ,F6,y8,(aj.le.refl _)⟩ (Θ [10,10,10,10,10,10,10,10,10,10,10] 11)))
  skip
  obtain ⟨Jp,τ295⟩:=g
  obtain ⟨hh,Us,AO,vW,Ur,Uo,xq⟩:=hg
  try dsimp only at Us
  try dsimp only at AO
  try dsimp only at vW
  try dsimp only at Ur
  try dsimp only at Uo
  dsimp only at xq
  replace aS:=aS.mono xq
  replace iy:=iy.mono xq
  replace dw:=dw.mono xq
  try dsimp only
  dsimp only [ZB]at hh
  have zf289b:=AO.length
  have zf290b:=vW.length
  refine χ (i:=2) z (λ_ hb297 _=> ?_)
  refine χ (i:=3) z (λ_ hb298 _=> ?_)
  refine χ (i:=5) z (λ_ hb299 _=> ?_)
  refine χ (i:=6) z (λ_ hb300 _=> ?_)
  refine χ (i:=7) z (λ_ hb301 _=> ?_)
  refine χ (i:=8) z (λ_ hb302 _=> ?_)
  refine χ (i:=9) z (λ_ hb303 _=> ?_)
  refine χ (i:=10) z (λ_ hb304 _=> ?_)
  refine ξ (ω z (aU z kW z) (ω z (bg z j_ z (i:=4) z z) (Ξ z z ?_)))
  rw [<-Ur]
  refine ζ 9 z z (TL.og bn (λτ309 iM TU=> ?_))
  replace aS:=aS.mono iM
  replace iy:=iy.mono iM
  replace dw:=dw.mono iM
  replace AO:=AO.mono iM
  replace vW:=vW.mono iM
  have hr307b:=TU.rv.big
  have rZ:ZOk _ (aC 1 aF bn) ([(lM,(a228,c229))]:List (ak×(aC 1 aF bn).P)) [lM]:=ZOk.cons (TU) (ZOk.nil _ _)
  refine ν z (litZ rZ z eX fP z kY z z z (by decide) (by decide) z (by decide) z (by decide) (λa305 c306=> ?_))
  refine ζ 6 z z ?_
  obtain ⟨VH,hh⟩:=aP hh
  refine ν z (L8 (k:=(aC 1 aF bn)) AO rZ z z eX fP mG kY z z (by decide) z z z (.inr ⟨_,0,z⟩) (by simpa using VH) (by decide) (λa312 c313 IB=> ?_))
  refine ω z (aU z kW z) (ζ 6 z z (ν z (f_ z jB z z z z z ?_)))
  refine ε (ξ (ω z (aU z o_ z) (ω z (bg z qx z (i:=0) z z) (Ξ z z ?_))))
  rw [<-Uo]
  refine ζ 10 z z (TL.og bF (λτ319 uh TS=> ?_))
  replace aS:=aS.mono uh
  replace iy:=iy.mono uh
  replace dw:=dw.mono uh
  replace vW:=vW.mono uh
  replace IB:=IB.mono uh
  have hr317b:=TS.rv.big
  have Rj:ZOk _ (aC 1 aI bF) ([(mV,(Dq,c232))]:List (aB×(aC 1 aI bF).P)) [mV]:=ZOk.cons (TS) (ZOk.nil _ _)
  refine ν z (litZ Rj z mY nC z Hg z z z (by decide) (by decide) z (by decide) z (by decide) (λa315 c316=> ?_))
  refine ζ 8 z z ?_
  obtain ⟨u180,hh⟩:=aP hh
  refine ν z (L8 (k:=(aC 1 aI bF)) vW Rj z z mY nC RJ Hg z z (by decide) z z z (.inr ⟨_,0,z⟩) (by simpa using u180) (by decide) (λa322 c323 zf324=> ?_))
  refine ω z (aU z o_ z) (ζ 2 z z (ν z (f_ z RN z z z z z ?_)))
  refine ε (θ ?_)
  obtain ⟨u188,hh⟩:=aP hh
  obtain ⟨u191,hh⟩:=aP hh
  refine TC.draw [8,9,10] (by kernel_rfl) (TA.a 0 z (aU z uF z) z (TA.b 1 z (bg z rX z (i:=0) z z) z (TA.a 2 z (aU z uF z) z (TA.b 3 z (bg z rX z (i:=5) z z) z (TA.a 4 z (cO (.inl z) z) z (TA.b 5 z (bT z g_ gV z z aS.rv.sl (by omega)) z (TA.b 6 z (fD false z nX z aS (by omega) z) z (TA.ac 7 z (OpOk.lit (enc:=eq_) [(nth x0.fin bH false)] z g_ gV Ap z z z iQ (by decide) (by decide) false z (by decide) z (by decide) qQ (λa330 c331=>(k1 ?_)))))))))))
  refine TA.front 10 z z (TA.last 8 (by kernel_rfl) z z z (as_ z z g_ gV GV Ap z z (by decide) z z z (.inr ⟨_,0,z⟩) (by simpa using u191) (by decide) (λa333 c334=> ?_)))
  refine TZ.v 9 (by kernel_rfl) z z z (aU z uF z) z z (TZ.front 2 z z (TZ.last 10 (by kernel_rfl) z z z (f_ z Jh z z z z z ?_)))
  refine TZ.done (by kernel_rfl) (S.n (η (ω z (aU z uX z) (ω z (bg z mJ z (i:=0) z z) (ω z (dX (.inl z) z) (ν z (OpOk.lit (enc:=aI) [Jp] z fF fK sG z z z bF (by decide) (by decide) ([]:T_1) z (by decide) z (by decide) qX (λa335 c336=> ?_))))))))
  refine ζ 12 z z ?_
  obtain ⟨u198,hh⟩:=aP hh
  refine ν z (as_ z z fF fK zo sG z z (by decide) z z z (.inr ⟨_,0,z⟩) (by simpa using u198) (by decide) (λa338 c339=> ?_))
  refine ω z (aU z uX z) (ζ 2 z z (ν z (f_ z nC z z z z z ?_)))
  refine TL.nil (B.n (S.n (η (ψ z z (ω z (OpVal.succ z z z (by omega)) (ψ z z (ε ?_)))))))
  obtain ⟨hh,WT⟩:=dL hR1 hh
  exact lf (((iJ++[lM]),(iI++[mV]),(eu++[(nth x0.fin bH false)]),(iU++[Jp]),(bH+1)),(a312,c313,(z193++([(lM,(a228,c229))]:List (ak×(aC 1 aF bn).P))),a322,c323,(wC++([(mV,(Dq,c232))]:List (aB×(aC 1 aI bF).P))),a333,c334,a338,c339,τ319)) WT ⟨hh,Us,IB,zf324,((((pK.trans jl).trans xq).trans iM).trans uh)⟩ (Θ [1,3,5,7,4,12,12,12,12] 9)
 refine TC.exit (S.x (S.x ?_))
 replace hh:=dI hR1 hh
 refine Δ (S.n (θ (ξ (ω z (lG z jw fB z (i:=4) z z) (ζ 5 z z (TL.LV iy (λτ343 Ya sN=> ?_)))))))
 replace dw:=dw.mono Ya
 have hr341b:=sN.big
 refine ζ 5 z z (TL.LV dw (λτ346 X_ wQ=> ?_))
 replace sN:=sN.mono X_
 have hr344b:=wQ.big
 refine ζ 5 z z (TL.og iQ (λτ349 KH BD=> ?_))
 replace sN:=sN.mono KH
 replace wQ:=wQ.mono KH
 have hr347b:=BD.rv.big
 refine ζ 5 z z (TL.og bF (λτ352 Ei JX=> ?_))
 replace sN:=sN.mono Ei
 replace wQ:=wQ.mono Ei
 replace BD:=BD.mono Ei
 have hr350b:=JX.rv.big
 obtain ⟨NV,u205,hh⟩:=dJ hh
 refine ν z (kD (Et_ (x0:=(⟨(x0.front++(nth v5.1 0 [])),iJ,iI,eu,iU⟩:Seq)) sN wQ BD JX u205) z z pf55 z z z ?_)
 refine ω z (OpVal.not z z) (ε (TC.cB z hh (λh353 hh=> ?_) (λh353 hh=> ?_)))
 ·refine ξ (ω z (ny z wH nD z) (ζ 1 z z (ν z (storeAll z fB z z z z z z ?_))))
  refine ψ z z (ε (TC.rt 1 (S.r ?_)))
  obtain rfl:=so hh
  exact ro [] z (RVs.agg jw fB z (i:=0) z z (RVs.tmp z RVs.nil)) ⟨none,0,none,0,none,0,none,0,z,(RZ.nilF _ (aC 1 aF bn)),(RZ.nilF _ (aC 1 aI bF)),(RS.nilF _ eq_ iQ),(RS.nilF _ aI bF),z⟩
 refine ι (S.n (ξ (ω z (lG z jw fB z (i:=4) z z) (ζ 1 z z (ν z (storeAll z fB z z z z z z ?_))))))
 refine ψ z z (ε (TC.rt 1 ?_))
 obtain rfl:=so hh
 exact ro [] z (RVs.agg jw fB z (i:=0) z z (RVs.tmp z RVs.nil)) ⟨uK,uI,oG,c198,a203,xR,yc,c208,z,sN,wQ,BD,JX,z⟩
def QU(bZ:Nat)(x0:Seq)(fE:Nat)(t_:B_1)(qC:Nat):Option ((B_1×Nat)⊕((B_1×Nat)⊕(((List B_1)×Nat)⊕((List B_1))))):=
 aQ (decide ((qC:Int)<256)) (grd (bZ<t_.length) (aQ (nth t_ bZ false) (grd (bZ<t_.length) (nxt ((t_.set bZ true),(qC+1)))) (grd (qC<(nth x0.next fE []).length) (grd (qC<(nth x0.next bZ []).length) (grd (bZ<t_.length) (nxt ((t_.set bZ ((decide ((nth (nth x0.next fE []) qC 0)<0)) != (decide ((nth (nth x0.next bZ []) qC 0)<0)))),(qC+1)))))))) (fin (nxt (t_,(bZ+1))))
def Vw(bZ:Nat)(x0:Seq)(fE:Nat)(u_:B_1):Option ((B_1×Nat)⊕(((List B_1)×Nat)⊕((List B_1)))):=
 bC (λq:B_1×Nat=>QU bZ x0 fE q.1 q.2) (u_,0)
def NJ(x0:Seq)(fE:Nat)(cZ:List B_1)(mW:B_1)(bZ:Nat):Option ((B_1×Nat)⊕(((List B_1)×Nat)⊕((List B_1)))):=
 aQ (decide ((bZ:Int)<((x0.next.length:Nat):Int))) (grd (fE<x0.fin.length) (grd (bZ<x0.fin.length) (aQ ((nth x0.fin fE false) != (nth x0.fin bZ false)) (grd (bZ<mW.length) (Vw bZ x0 fE (mW.set bZ true))) (grd (fE<x0.tail.length) (grd (bZ<x0.tail.length) (aQ (decide ((nth x0.tail fE [])≠(nth x0.tail bZ []))) (grd (bZ<mW.length) (Vw bZ x0 fE (mW.set bZ true))) (grd (fE<x0.outs.length) (grd (bZ<x0.outs.length) (bnd (Ny (nth x0.outs fE []) (nth x0.outs bZ [])) (λv56=>grd (bZ<mW.length) (Vw bZ x0 fE (mW.set bZ (!v56))))))))))))) (fin (grd ((cZ.length+([mW]:List B_1).length) * 24<=140737488355328) (nxt ((cZ++([mW]:List B_1)),(fE+1)))))
def MH(iL:Nat)(fO:Nat)(x0:Seq)(jV:List B_1)(wE:Bool)(mg:Nat):Option (((List B_1)×Bool×Nat)⊕(((List B_1)×Bool×Nat)⊕(((List B_1)×Bool×Nat)⊕(((List B_1)×Bool)⊕((List B_1)))))):=
 aQ (decide ((mg:Int)<256)) (grd (iL<jV.length) (grd (fO<(nth jV iL []).length) (aQ (!(nth (nth jV iL []) fO false)) (grd (mg<(nth x0.next iL []).length) (grd (mg<(nth x0.next fO []).length) (aQ (decide (0<=(nth (nth x0.next iL []) mg 0))) (aQ (decide (0<=(nth (nth x0.next fO []) mg 0))) (grd (0<=(nth (nth x0.next iL []) mg 0)/\(nth (nth x0.next iL []) mg 0)<(jV.length:Int)) (grd (0<=(nth (nth x0.next fO []) mg 0)/\(nth (nth x0.next fO []) mg 0)<((nth jV ((nth (nth x0.next iL []) mg 0).toNat) []).length:Int)) (aQ (nth (nth jV ((nth (nth x0.next iL []) mg 0).toNat) []) ((nth (nth x0.next fO []) mg 0).toNat) false) (grd (iL<jV.length) (grd (fO<(nth jV iL []).length) (nxt ((jV.set iL ((nth jV iL []).set fO true)),true,(mg+1))))) (nxt (jV,wE,(mg+1)))))) (nxt (jV,wE,(mg+1)))) (nxt (jV,wE,(mg+1)))))) (fin (nxt (jV,wE,(fO+1))))))) (fin (nxt (jV,wE,(fO+1))))
def QV(x0:Seq)(iL:Nat)(Jw:List B_1)(Jl:Bool)(fO:Nat):Option (((List B_1)×Bool×Nat)⊕(((List B_1)×Bool×Nat)⊕(((List B_1)×Bool)⊕((List B_1))))):=
 aQ (decide ((fO:Int)<((x0.next.length:Nat):Int))) (bC (λq:(List B_1)×Bool×Nat=>MH iL fO x0 q.1 q.2.1 q.2.2) (Jw,Jl,0)) (fin (nxt (Jw,Jl,(iL+1))))
def NI(x0:Seq)(kK:List B_1)(t234:Bool)(iL:Nat):Option (((List B_1)×Bool×Nat)⊕(((List B_1)×Bool)⊕((List B_1)))):=
 aQ (decide ((iL:Int)<((x0.next.length:Nat):Int))) (bC (λq:(List B_1)×Bool×Nat=>QV x0 iL q.1 q.2.1 q.2.2) (kK,t234,0)) (fin (nxt (kK,t234)))
def Vx(x0:Seq)(O6:List B_1)(t213:Bool):Option (((List B_1)×Bool)⊕((List B_1))):=
 aQ t213 (bC (λq:(List B_1)×Bool×Nat=>NI x0 q.1 q.2.1 q.2.2) (O6,false,0)) (fin (some O6))
def QT(x0:Seq)(cZ:List B_1)(fE:Nat):Option (((List B_1)×Nat)⊕((List B_1))):=
 aQ (decide ((fE:Int)<((x0.next.length:Nat):Int))) (grd (1 * x0.next.length<=281474976710656) (bC (λq:B_1×Nat=>NJ x0 fE cZ q.1 q.2) ((replicate x0.next.length false),0))) (fin (bC (λq:(List B_1)×Bool=>Vx x0 q.1 q.2) (cZ,true)))
def C2_(x0:Seq):Option ((List B_1)):=
 bC (λq:(List B_1)×Nat=>QT x0 q.1 q.2) (([]:List B_1),0)
def Gl_(σ:aj)(r:(List B_1)):Value->aj->List Res->Prop:=λv σ' H'=>
 ∃a1 c1,v= .slice a1 r.length c1/\RZ σ' (aC 1 eq_ iQ) (.slice a1 r.length c1) r/\H'=[]
theorem Gd_ {σ : aj} {x0 : Seq} {aN : Option Addr} {aK : Nat} {aA : Option Addr} {aY : Nat} {aW : Option Addr} {ay : Nat} {bI : Option Addr} {bD : Nat} (au : RZ σ (aC 1 aF bn) (.slice aN x0.next.length aK) x0.next) (aV : RZ σ (aC 1 aI bF) (.slice aA x0.outs.length aY) x0.outs) (aS : dH σ eq_ aW ay x0.fin) (aO : dH σ aI bI bD x0.tail) {r : (List B_1)} (hh : C2_ x0 = some r) :
  Con prog 75 #[.agg (qF x0 aN aK aA aY aW ay bI bD)] σ [] (Gl_ σ r):=by
 dsimp only [C2_]at hh
 have f0_0b:=au.big
 have f0_1b:=aV.big
 have f0_2b:=aS.rv.big
 have f0_3b:=aO.rv.big
 refine Con.mk (n:=172) Tryz.func75 z z z (λw0=> ?_)
 refine ξ (ν z (boxA z z z z (λbG=> ?_)))
 refine Ξ z z (ε (ξ (ω z (aU z kW z) (ω z (bg z j_ z (i:=0) z z) (ω z (lenC z eX z) (ψ z z (ε (ξ (Ξ z z (ε (θ (ξ (ψ z z (ε (υ ?_)))))))))))))))
 refine TC.by (λw h=>Reach.dx_ 29 4 1 eq_ h) ?_
 have zf124:Zn ([]:List (NP Bool)) ([]:List B_1):=Zn.nil
 refine TC.iE (α:=((List B_1)×Nat)×((Option Addr)×Nat×(List (NP Bool)))) (rgs [(4,5),(19,89)]) (λg=>[(4,.slice g.2.1 g.1.1.length g.2.2.1),(5,.int .i64 ((g.1.2:Nat):Int))]) (λg=>[jh bG x0 aN aK aA aY aW ay bI bD,Res.nest 29 4 1 eq_ (.slice g.2.1 g.1.1.length g.2.2.1) g.2.2.2]) (λg=>σ) (λg=>bC (λq:(List B_1)×Nat=>QT x0 q.1 q.2) g.1=some r/\Zn g.2.2.2 g.1.1) (λg=>fZ (λq:(List B_1)×Nat=>QT x0 q.1 q.2) g.1) ((([]:List B_1),0),(none,0,([]:List (NP Bool)))) (Θ [1] 2) z (by repeat (first|exact trivial|refine ⟨z,?_⟩)) ⟨hh,zf124⟩ (λg1 j1 hg1=> ?_)
 obtain ⟨⟨cZ,fE⟩,⟨a119,qE,AY⟩⟩:=g1
 obtain ⟨hh,mF⟩:=hg1
 try dsimp only at mF ⊢
 obtain ⟨z1,hh,hR1⟩:=iq hh
 dsimp only [QT]at hh
 have zf122b:=mF.len
 refine TC.know (nU (q:=1) z mF) (λ⟨_,Df⟩=> ?_)
 refine θ (ξ (ψ z z (ψ z z (ω z (OpVal.lss z z z) (ε (TC.cD z hh (λh127 hh=> ?_) (λh127 hh=> ?_)))))))
 ·refine ι (S.n (θ (υ (ξ (ψ z z ?_)))))
  obtain ⟨u13,hh⟩:=aP hh
  refine ν z (oW (enc:=eq_) false z g_ gV GV Ap z z z z (by omega) (by decide) iQ (by decide) z qQ (λQa PI=> ?_))
  refine Ξ z z (ε (θ (ξ (ψ z z (ε (υ (TC.iE (α:=(B_1×Nat)×(Unit)) (rgs [(7,2),(26,78)]) (λg=>[(7,.int .i64 ((g.1.2:Nat):Int))]) (λg=>[jh bG x0 aN aK aA aY aW ay bI bD,Res.nest 29 4 1 eq_ (.slice a119 cZ.length qE) AY,φ 4 1 eq_ (.slice Qa (replicate x0.next.length false).length PI) g.1.1]) (λg=>σ) (λg=>bC (λq:B_1×Nat=>NJ x0 fE cZ q.1 q.2) g.1=some z1/\Zn AY cZ/\g.1.1.length=(replicate x0.next.length false).length) (λg=>fZ (λq:B_1×Nat=>NJ x0 fE cZ q.1 q.2) g.1) (((replicate x0.next.length false),0),()) (Θ [2,2] 3) z (by repeat (first|exact trivial|refine ⟨z,?_⟩)) ⟨hh,mF,z⟩ (λg2 j2 hg2=> ?_))))))))
  obtain ⟨⟨mW,bZ⟩,_⟩:=g2
  obtain ⟨hh,sF,BP⟩:=hg2
  try dsimp only at sF BP ⊢
  obtain ⟨z2,hh,hR2⟩:=iq hh
  dsimp only [NJ]at hh
  have zf140b:=sF.len
  refine TC.know (nU (q:=1) z sF) (λ⟨_,U3⟩=> ?_)
  refine χ (i:=2) z (λ_ C_ _=> ?_)
  refine θ (ξ (ψ z z (ψ z z (ω z (OpVal.lss z z z) (ε (TC.cD z hh (λEF hh=> ?_) (λEF hh=> ?_)))))))
  ·refine ι (S.n (θ (υ (TC.cutG (α:=(B_1)×(Unit)) (rgs [(31,41)]) (λg=>[]) (λg=>[jh bG x0 aN aK aA aY aW ay bI bD,Res.nest 29 4 1 eq_ (.slice a119 cZ.length qE) AY,φ 4 1 eq_ (.slice Qa (replicate x0.next.length false).length PI) g.1]) (λg=>σ) (λg=>Vw bZ x0 fE g.1=some z2/\Zn AY cZ/\g.1.length=(replicate x0.next.length false).length) ?_ (λg j hg=> ?_)))))
   ·skip
    refine TC.draw [41] (by kernel_rfl) (TA.a 0 z (gK (.inl z) z) z (TA.a 1 z (cO (.inl z) z) z (TA.a 2 z (aU z uF z) z (TA.b 3 z (bg z rX z (i:=0) z z) z (TA.a 4 z (cO (.inl z) z) z ?_)))))
    obtain ⟨u24,hh⟩:=aP hh
    refine TA.b 5 z (bT z g_ gV z z aS.rv.sl (by omega)) z (TA.b 6 z (fD false z nX z aS (by omega) z) z (TA.a 7 z (aU z uF z) z (TA.b 8 z (bg z rX z (i:=0) z z) z (TA.a 9 z (cO (.inl z) z) z ?_))))
    obtain ⟨u29,hh⟩:=aP hh
    refine TA.b 10 z (bT z g_ gV z z aS.rv.sl (by omega)) z (TA.b 11 z (fD false z nX z aS (by omega) z) z (TA.a 12 z (neqB z z z underlying4) z (TA.a 13 z (moveB (.inl z) z) z (TA.split 44 z (λuy=> ?_) (λuy=> ?_)))))
    ·replace hh:=ig uy hh
     refine TA.off 14 z z z z z z (TA.off 15 z z z z z z (TA.off 16 z z z z z z (TA.off 17 z z z z z z (TA.off 18 z z z z z z (TA.off 19 z z z z z z (TA.off 20 z z z z z z (TA.off 21 z z z z z z (TA.off 22 z z z z z z (TA.off 23 z z z z z z (TA.off 24 z z z z z z (TA.a 25 z (dQ z z z) z (TA.a 26 z (moveB (.inl z) z) z (TA.off 27 z z z z z z (TA.off 28 z z z z z z (TA.off 29 z z z z z z ?_)))))))))))))))
     refine TA.off 30 z z z z z z (TA.off 31 z z z z z z (TA.off 32 z z z z z z (TA.off 33 z z z z z z (TA.off 34 z z z z z z (TA.off 35 z z z z z z (TA.off 36 z z z z z z (TA.off 37 z z z z z z (TA.off 38 z z z z z z (TA.a 39 z (dQ z z z) z ?_)))))))))
     obtain ⟨u59,hh⟩:=aP hh
     refine TA.isSl (i:=2) z (λJM _ _=> ?_)
     refine TA.b 40 z (bT z g_ gV z z JM (by omega)) z (TA.front 2 z z ?_)
     have Gl:(mW.set bZ true).length=(replicate x0.next.length false).length:=by rw [fQ];exact BP
     refine TA.last 41 (by kernel_rfl) z z z (lF true z gV z z z z iQ qQ (by omega) (by omega) ?_)
     exact TZ.done (by kernel_rfl) (S.n (cf ((mW.set bZ true),()) ⟨hh,sF,Gl⟩ (Θ [2,2] 3)))
    replace hh:=iw uy hh
    refine TA.on 14 z z z z (aU z uX z) z (TA.on 15 z z z z (bg z mJ z (i:=0) z z) z (TA.on 16 z z z z (cO (.inl z) z) z ?_))
    obtain ⟨u36,hh⟩:=aP hh
    refine TA.on 17 z z z z (bT z fF fK z z aO.rv.sl (by omega)) z (TA.on 18 z z z z (fD ([]:T_1) z iK z aO (by omega) z) z (TA.on 19 z z z z (aU z uX z) z (TA.on 20 z z z z (bg z mJ z (i:=0) z z) z (TA.on 21 z z z z (cO (.inl z) z) z ?_))))
    obtain ⟨MS,hh⟩:=aP hh
    refine TA.on 22 z z z z (bT z fF fK z z aO.rv.sl (by omega)) z (TA.on 23 z z z z (fD ([]:T_1) z iK z aO (by omega) z) z (TA.on 24 z z z z (Iw z z z) z (TA.a 25 z (dU z z z) z (TA.a 26 z (moveB (.inl z) z) z (TA.split 57 z (λEC=> ?_) (λEC=> ?_))))))
    ·replace hh:=ig EC hh
     replace EC:=jk EC
     refine TA.off 27 z z z z z z (TA.off 28 z z z z z z (TA.off 29 z z z z z z (TA.off 30 z z z z z z (TA.off 31 z z z z z z (TA.off 32 z z z z z z (TA.off 33 z z z z z z (TA.off 34 z z z z z z (TA.off 35 z z z z z z (TA.off 36 z z z z z z (TA.off 37 z z z z z z (TA.off 38 z z z z z z (TA.a 39 z (dQ z z z) z ?_))))))))))))
     obtain ⟨u59,hh⟩:=aP hh
     refine TA.isSl (i:=2) z (λJL _ _=> ?_)
     refine TA.b 40 z (bT z g_ gV z z JL (by omega)) z (TA.front 2 z z ?_)
     have Kr:(mW.set bZ true).length=(replicate x0.next.length false).length:=by rw [fQ];exact BP
     refine TA.last 41 (by kernel_rfl) z z z (lF true z gV z z z z iQ qQ (by omega) (by omega) ?_)
     exact TZ.done (by kernel_rfl) (S.n (cf ((mW.set bZ true),()) ⟨hh,sF,Kr⟩ (Θ [2,2] 3)))
    replace hh:=iw EC hh
    replace EC:=jy EC
    refine TA.on 27 z z z z (aU z o_ z) z (TA.on 28 z z z z (bg z qx z (i:=0) z z) z (TA.on 29 z z z z (cO (.inl z) z) z ?_))
    obtain ⟨u49,hh⟩:=aP hh
    refine TA.on 30 z z z z (bT z mY nC z z aV.isSl (by omega)) z ?_
    obtain ⟨OG,Gy,hg156⟩:=RZ.seg aV fE (by omega)
    replace Gy:dH _ aI OG.1 OG.2 (nth x0.outs fE []):=Gy
    have hk156b:=Gy.rv.big
    refine TA.on 31 z z z z (OpVal.of (lZ z mJ z hg156 z) (v':= .slice OG.1 ((nth x0.outs fE []).length) OG.2) z) z (TA.on 32 z z z z (aU z o_ z) z (TA.on 33 z z z z (bg z qx z (i:=0) z z) z (TA.on 34 z z z z (cO (.inl z) z) z ?_)))
    obtain ⟨Jj,hh⟩:=aP hh
    refine TA.on 35 z z z z (bT z mY nC z z aV.isSl (by omega)) z ?_
    obtain ⟨sH,kX,hg157⟩:=RZ.seg aV bZ (by omega)
    replace kX:dH _ aI sH.1 sH.2 (nth x0.outs bZ []):=kX
    have hk157b:=kX.rv.big
    refine TA.on 36 z z z z (OpVal.of (lZ z mJ z hg157 z) (v':= .slice sH.1 ((nth x0.outs bZ []).length) sH.2) z) z ?_
    obtain ⟨v56,u56,hh⟩:=dJ hh
    refine TA.di_ 37 (by kernel_rfl) z z z z z z (kD (Cw_ Gy kX u56) z z Oq z z z (k0 ?_))
    refine TA.on 38 z z z z (OpVal.not z z) z (TA.a 39 z (dU z z z) z ?_)
    obtain ⟨u59,hh⟩:=aP hh
    refine TA.isSl (i:=2) z (λJK _ _=> ?_)
    refine TA.b 40 z (bT z g_ gV z z JK (by omega)) z (TA.front 2 z z ?_)
    have BM:(mW.set bZ (!v56)).length=(replicate x0.next.length false).length:=by rw [fQ];exact BP
    refine TA.last 41 (by kernel_rfl) z z z (lF (!v56) z gV z z z z iQ qQ (by omega) (by omega) ?_)
    exact TZ.done (by kernel_rfl) (S.n (cf ((mW.set bZ (!v56)),()) ⟨hh,sF,BM⟩ (Θ [2,2] 3)))
   skip
   obtain ⟨u_,_⟩:=g
   obtain ⟨hh,Fb,zf⟩:=hg
   try dsimp only at Fb zf ⊢
   dsimp only [Vw]at hh
   have zf147b:=Fb.len
   refine TC.know (nU (q:=1) z Fb) (λ⟨_,hb160⟩=> ?_)
   refine χ (i:=2) z (λ_ hb161 _=> ?_)
   refine ξ (ψ z z (ε (υ (TC.iE (α:=(B_1×Nat)×(Unit)) (rgs [(8,1),(72,32)]) (λg=>[(8,.int .i64 ((g.1.2:Nat):Int))]) (λg=>[jh bG x0 aN aK aA aY aW ay bI bD,Res.nest 29 4 1 eq_ (.slice a119 cZ.length qE) AY,φ 4 1 eq_ (.slice Qa (replicate x0.next.length false).length PI) g.1.1]) (λg=>σ) (λg=>bC (λq:B_1×Nat=>QU bZ x0 fE q.1 q.2) g.1=some z2/\Zn AY cZ/\g.1.1.length=(replicate x0.next.length false).length) (λg=>fZ (λq:B_1×Nat=>QU bZ x0 fE q.1 q.2) g.1) ((u_,0),()) (Θ [2,2,2] 3) z (by repeat (first|exact trivial|refine ⟨z,?_⟩)) ⟨hh,Fb,zf⟩ (λg3 j3 hg3=> ?_)))))
   obtain ⟨⟨t_,qC⟩,_⟩:=g3
   obtain ⟨hh,qH,wY⟩:=hg3
   try dsimp only at qH wY ⊢
   obtain ⟨z3,hh,zX⟩:=iq hh
   dsimp only [QU]at hh
   have zf172b:=qH.len
   refine TC.know (nU (q:=1) z qH) (λ⟨_,hb176⟩=> ?_)
   refine χ (i:=2) z (λ_ U0 _=> ?_)
   refine θ (ξ (ψ z z (ω z (OpVal.lss z z z) (ε (TC.cD z hh (λh178 hh=> ?_) (λh178 hh=> ?_))))))
   ·refine ι (S.n (θ (υ (TC.draw [28] (by kernel_rfl) (TA.a 0 z (gK (.inl z) z) z (TA.a 1 z (cO (.inl z) z) z (TA.a 2 z (gK (.inl z) z) z (TA.a 3 z (cO (.inl z) z) z ?_))))))))
    obtain ⟨u68,hh⟩:=aP hh
    refine TA.isSl (i:=2) z (λhs179 _ _=> ?_)
    refine TA.b 4 z (bT z g_ gV z z hs179 (by omega)) z (TA.b 5 z (nZ false z nX z (q:=2) z iQ (by omega) z) z (TA.a 6 z (moveB (.inl z) z) z (TA.split 82 z (λYz=> ?_) (λYz=> ?_))))
    ·replace hh:=ig Yz hh
     refine TA.off 7 z z z z z z (TA.off 8 z z z z z z (TA.off 9 z z z z z z (TA.off 10 z z z z z z (TA.off 11 z z z z z z (TA.off 12 z z z z z z (TA.off 13 z z z z z z (TA.off 14 z z z z z z (TA.off 15 z z z z z z (TA.off 16 z z z z z z (TA.off 17 z z z z z z (TA.off 18 z z z z z z (TA.off 19 z z z z z z (TA.off 20 z z z z z z (TA.off 21 z z z z z z (TA.off 22 z z z z z z ?_)))))))))))))))
     refine TA.off 23 z z z z z z (TA.off 24 z z z z z z (TA.off 25 z z z z z z (TA.a 26 z (dQ z z z) z ?_)))
     obtain ⟨u91,hh⟩:=aP hh
     refine TA.isSl (i:=2) z (λhs181 _ _=> ?_)
     refine TA.b 27 z (bT z g_ gV z z hs181 (by omega)) z (TA.front 2 z z ?_)
     have mM:(t_.set bZ true).length=(replicate x0.next.length false).length:=by rw [fQ];exact wY
     refine TA.last 28 (by kernel_rfl) z z z (lF true z gV z z z z iQ qQ (by omega) (by omega) ?_)
     refine TZ.done (by kernel_rfl) (B.n (S.n (η (ψ z z (ω z (OpVal.succ z z z (by omega)) (ψ z z (ε ?_)))))))
     obtain ⟨hh,DZ⟩:=dL zX hh
     exact lf (((t_.set bZ true),(qC+1)),()) DZ ⟨hh,qH,mM⟩ (Θ [2,2] 3)
    replace hh:=iw Yz hh
    refine TA.on 7 z z z z (aU z kW z) z (TA.on 8 z z z z (bg z j_ z (i:=0) z z) z (TA.on 9 z z z z (cO (.inl z) z) z (TA.on 10 z z z z (bT z eX fP z z au.isSl (by omega)) z ?_)))
    obtain ⟨OE,CJ,hg184⟩:=RZ.seg au fE (by omega)
    replace CJ:dH _ aF OE.1 OE.2 (nth x0.next fE []):=CJ
    have hk184b:=CJ.rv.big
    refine TA.on 11 z z z z (OpVal.of (lZ z hs_ z hg184 z) (v':= .slice OE.1 ((nth x0.next fE []).length) OE.2) z) z (TA.on 12 z z z z (cO (.inl z) z) z ?_)
    obtain ⟨u77,hh⟩:=aP hh
    refine TA.on 13 z z z z (bT z bY dh z z CJ.rv.sl (by omega)) z (TA.on 14 z z z z (fD (0:Int) z fC z CJ (by omega) z) z (TA.on 15 z z z z (OpVal.lss z z z) z (TA.on 16 z z z z (aU z kW z) z (TA.on 17 z z z z (bg z j_ z (i:=0) z z) z (TA.on 18 z z z z (cO (.inl z) z) z (TA.on 19 z z z z (bT z eX fP z z au.isSl (by omega)) z ?_))))))
    obtain ⟨OD,CG,hg185⟩:=RZ.seg au bZ (by omega)
    replace CG:dH _ aF OD.1 OD.2 (nth x0.next bZ []):=CG
    have hk185b:=CG.rv.big
    refine TA.on 20 z z z z (OpVal.of (lZ z hs_ z hg185 z) (v':= .slice OD.1 ((nth x0.next bZ []).length) OD.2) z) z (TA.on 21 z z z z (cO (.inl z) z) z ?_)
    obtain ⟨u86,hh⟩:=aP hh
    refine TA.on 22 z z z z (bT z bY dh z z CG.rv.sl (by omega)) z (TA.on 23 z z z z (fD (0:Int) z fC z CG (by omega) z) z (TA.on 24 z z z z (OpVal.lss z z z) z (TA.on 25 z z z z (neqB z z z underlying4) z (TA.a 26 z (dU z z z) z ?_))))
    obtain ⟨u91,hh⟩:=aP hh
    refine TA.isSl (i:=2) z (λJI _ _=> ?_)
    refine TA.b 27 z (bT z g_ gV z z JI (by omega)) z (TA.front 2 z z ?_)
    have hn187:(t_.set bZ ((decide ((nth (nth x0.next fE []) qC 0)<0)) != (decide ((nth (nth x0.next bZ []) qC 0)<0)))).length=(replicate x0.next.length false).length:=by rw [fQ];exact wY
    refine TA.last 28 (by kernel_rfl) z z z (lF ((decide ((nth (nth x0.next fE []) qC 0)<0)) != (decide ((nth (nth x0.next bZ []) qC 0)<0))) z gV z z z z iQ qQ (by omega) (by omega) ?_)
    refine TZ.done (by kernel_rfl) (B.n (S.n (η (ψ z z (ω z (OpVal.succ z z z (by omega)) (ψ z z (ε ?_)))))))
    obtain ⟨hh,XC⟩:=dL zX hh
    exact lf (((t_.set bZ ((decide ((nth (nth x0.next fE []) qC 0)<0)) != (decide ((nth (nth x0.next bZ []) qC 0)<0)))),(qC+1)),()) XC ⟨hh,qH,hn187⟩ (Θ [2,2] 3)
   refine TC.exit (S.x (S.x ?_))
   replace hh:=dI zX hh
   refine Δ (B.n (S.n (η (ψ z z (ω z (OpVal.succ z z z (by omega)) (ψ z z (ε ?_)))))))
   obtain ⟨hh,DW⟩:=dL hR2 hh
   exact lf ((t_,(bZ+1)),()) DW ⟨hh,qH,wY⟩ (Θ [2,2,2] 3)
  refine TC.exit (S.x (S.x ?_))
  replace hh:=dI hR2 hh
  refine Δ (S.n (η (Ξ z z (Ξ z z ?_))))
  rw [<-BP]
  refine ζ 2 z z (ν z (buildN z z underlying125 Jh VA z z z z (λa190 c191 zf192=> ?_)))
  refine ζ 2 z z ?_
  obtain ⟨u102,hh⟩:=aP hh
  refine ν z (dh_ z z underlying125 Jh by29 VA z z (by decide) z z sF zf192 (by simpa using u102) (by decide) (λa194 c195 iO=> ?_))
  refine Ξ z z (TL.nil (B.n (S.n (η (ψ z z (ω z (OpVal.succ z z z (by omega)) (ψ z z (ε ?_))))))))
  obtain ⟨hh,XB⟩:=dL hR1 hh
  exact lf (((cZ++([mW]:List B_1)),(fE+1)),(a194,c195,(AY++([(mW,(Qa,PI))]:List (NP Bool))))) XB ⟨hh,iO⟩ (Θ [1] 2)
 refine TC.exit (S.x (S.x ?_))
 replace hh:=dI hR1 hh
 refine Δ (S.n (θ (ξ (TL.j z z (ε (υ (TC.iE (α:=((List B_1)×Bool)×((List (NP Bool)))) (rgs [(9,7),(108,63)]) (λg=>[(9,.bool g.1.2)]) (λg=>[jh bG x0 aN aK aA aY aW ay bI bD,Res.nest 29 4 1 eq_ (.slice a119 cZ.length qE) g.2]) (λg=>σ) (λg=>bC (λq:(List B_1)×Bool=>Vx x0 q.1 q.2) g.1=some r/\g.1.1.length=cZ.length/\Zn g.2 g.1.1) (λg=>fZ (λq:(List B_1)×Bool=>Vx x0 q.1 q.2) g.1) ((cZ,true),AY) (Θ [1,1] 2) z (by repeat (first|exact trivial|refine ⟨z,?_⟩)) ⟨hh,z,mF⟩ (λg4 j4 hg4=> ?_))))))))
 obtain ⟨⟨O6,t213⟩,z211⟩:=g4
 obtain ⟨hh,J_,oI⟩:=hg4
 try dsimp only at J_ oI ⊢
 obtain ⟨z1,hh,hR1⟩:=iq hh
 dsimp only [Vx]at hh
 have zf212b:=oI.len
 refine TC.know (nU (q:=1) z oI) (λ⟨_,hb214⟩=> ?_)
 refine θ (ξ (TL.j z z (ε (TC.cB z hh (λYw hh=> ?_) (λYw hh=> ?_)))))
 ·refine ι (S.n (υ (ξ (TL.j z z (ε (ξ (ψ z z (ε (υ (TC.iE (α := ((List B_1) × Bool × Nat) × ((List (NP Bool)))) (rgs [(9, 7), (109, 62)]) (λg => [(9, .bool g.1.2.1), (10, .int .i64 ((g.1.2.2 : Nat) : Int))]) (λg => [κ bG #[.string (bs x0.front), .slice aN x0.next.length aK, .slice aA x0.outs.length aY, .slice aW x0.fin.length ay, .slice bI x0.tail.length bD] 32, Res.nest 29 4 1 eq_ (.slice a119 cZ.length qE) g.2]) (λg => σ) (λg => bC (λq : (List B_1) × Bool × Nat => NI x0 q.1 q.2.1 q.2.2) g.1 = some z1 /\ g.1.1.length = cZ.length /\ Zn g.2 g.1.1) (λg => fZ (λq : (List B_1) × Bool × Nat => NI x0 q.1 q.2.1 q.2.2) g.1) ((O6, false, 0), z211) (Θ [1, 1] 2) z (by repeat (first | exact trivial | refine ⟨z, ?_⟩)) ⟨hh, J_, oI⟩ (λg5 j5 hg5 => ?_)))))))))))
  obtain ⟨⟨kK,t234,iL⟩,z232⟩:=g5
  obtain ⟨hh,oL,jA⟩:=hg5
  try dsimp only at oL jA ⊢
  obtain ⟨z2,hh,hR2⟩:=iq hh
  dsimp only [NI]at hh
  have zf233b:=jA.len
  refine TC.know (nU (q:=1) z jA) (λ⟨_,GH⟩=> ?_)
  refine θ (ξ (ψ z z (ψ z z (ω z (OpVal.lss z z z) (ε (TC.cD z hh (λLh hh=> ?_) (λLh hh=> ?_)))))))
  ·refine ι (S.n (θ (υ (ξ (ψ z z (ε (υ (TC.iE (α:=((List B_1)×Bool×Nat)×((List (NP Bool)))) (rgs [(9,1),(11,5),(114,57)]) (λg=>[(9,.bool g.1.2.1),(11,.int .i64 ((g.1.2.2:Nat):Int))]) (λg=>[jh bG x0 aN aK aA aY aW ay bI bD,Res.nest 29 4 1 eq_ (.slice a119 cZ.length qE) g.2]) (λg=>σ) (λg=>bC (λq:(List B_1)×Bool×Nat=>QV x0 iL q.1 q.2.1 q.2.2) g.1=some z2/\g.1.1.length=cZ.length/\Zn g.2 g.1.1) (λg=>fZ (λq:(List B_1)×Bool×Nat=>QV x0 iL q.1 q.2.1 q.2.2) g.1) ((kK,t234,0),z232) (Θ [1,1] 2) z (by repeat (first|exact trivial|refine ⟨z,?_⟩)) ⟨hh,oL,jA⟩ (λg6 j6 hg6=> ?_)))))))))
   obtain ⟨⟨Jw,Jl,fO⟩,z254⟩:=g6
   obtain ⟨hh,qM,lJ⟩:=hg6
   try dsimp only at qM lJ ⊢
   obtain ⟨z3,hh,zX⟩:=iq hh
   dsimp only [QV]at hh
   have zf255b:=lJ.len
   refine TC.know (nU (q:=1) z lJ) (λ⟨_,hb258⟩=> ?_)
   refine θ (ξ (ψ z z (ψ z z (ω z (OpVal.lss z z z) (ε (TC.cD z hh (λh259 hh=> ?_) (λh259 hh=> ?_)))))))
   ·refine ι (S.n (θ (υ (ξ (ψ z z (ε (υ (TC.iE (α:=((List B_1)×Bool×Nat)×((List (NP Bool)))) (rgs [(9,1),(12,4),(119,52)]) (λg=>[(9,.bool g.1.2.1),(12,.int .i64 ((g.1.2.2:Nat):Int))]) (λg=>[jh bG x0 aN aK aA aY aW ay bI bD,Res.nest 29 4 1 eq_ (.slice a119 cZ.length qE) g.2]) (λg=>σ) (λg=>bC (λq:(List B_1)×Bool×Nat=>MH iL fO x0 q.1 q.2.1 q.2.2) g.1=some z3/\g.1.1.length=cZ.length/\Zn g.2 g.1.1) (λg=>fZ (λq:(List B_1)×Bool×Nat=>MH iL fO x0 q.1 q.2.1 q.2.2) g.1) ((Jw,Jl,0),z254) (Θ [1,1] 2) z (by repeat (first|exact trivial|refine ⟨z,?_⟩)) ⟨hh,qM,lJ⟩ (λg7 j7 hg7=> ?_)))))))))
    obtain ⟨⟨jV,wE,mg⟩,GZ⟩:=g7
    obtain ⟨hh,wW,lI⟩:=hg7
    try dsimp only at wW lI ⊢
    obtain ⟨z4,hh,Z5⟩:=iq hh
    dsimp only [MH]at hh
    have zf277b:=lI.len
    refine TC.know (nU (q:=1) z lI) (λ⟨_,hb280⟩=> ?_)
    refine θ (ξ (ψ z z (ω z (OpVal.lss z z z) (TL.j z z (TL.split 121 z (λzY=> ?_) (λzY=> ?_))))))
    ·replace hh:=ig zY hh
     replace zY:=jk zY
     refine Ψ z (gK (.inl z) z) (Ψ z (cO (.inl z) z) ?_)
     obtain ⟨u124,hh⟩:=aP hh
     refine TL.know (nU (q:=1) z lI) (λ⟨JG,hs282b⟩=> ?_)
     refine Ψ z (bT z underlying125 Jh z z JG (by omega)) ?_
     obtain ⟨p283,JD,KE⟩:=Zn.at lI (i:=iL) (by omega)
     refine Ψ z (Dj z rX z (q:=1) z JD KE) (Ψ z (cO (.inl z) z) ?_)
     obtain ⟨u127,hh⟩:=aP hh
     refine TL.know (iq_ (q:=1) z JD KE) (λ⟨hs284,hs284b⟩=> ?_)
     refine Ψ z (bT z g_ gV z z hs284 (by omega)) (Ψ z (OpVal.seen (ir_ (q:=1) z JD KE) (nZ false z nX z (q:=0) z iQ (by omega) z)) (Ψ z (OpVal.not z z) (ω z (dQ z z z) (ε (TC.cB z hh (λYq hh=> ?_) (λYq hh=> ?_))))))
     ·refine ι (S.n (θ (υ (ξ (ω z (aU z kW z) (ω z (bg z j_ z (i:=0) z z) (ψ z z (ω z (bT z eX fP z z au.isSl (by omega)) ?_))))))))
      obtain ⟨Ou,Cb,hg286⟩:=RZ.seg au iL (by omega)
      replace Cb:dH _ aF Ou.1 Ou.2 (nth x0.next iL []):=Cb
      have hk286b:=Cb.rv.big
      refine ω z (OpVal.of (lZ z hs_ z hg286 z) (v':= .slice Ou.1 ((nth x0.next iL []).length) Ou.2) z) (ψ z z ?_)
      obtain ⟨VK,hh⟩:=aP hh
      refine ω z (bT z bY dh z z Cb.rv.sl (by omega)) (ω z (fD (0:Int) z fC z Cb (by omega) z) (ψ z z (ε (ξ (ω z (aU z kW z) (ω z (bg z j_ z (i:=0) z z) (ψ z z (ω z (bT z eX fP z z au.isSl (by omega)) ?_))))))))
      obtain ⟨zy,pY,KR⟩:=RZ.seg au fO (by omega)
      replace pY:dH _ aF zy.1 zy.2 (nth x0.next fO []):=pY
      have hk287b:=pY.rv.big
      refine ω z (OpVal.of (lZ z hs_ z KR z) (v':= .slice zy.1 ((nth x0.next fO []).length) zy.2) z) (ψ z z ?_)
      obtain ⟨u146,hh⟩:=aP hh
      refine ω z (bT z bY dh z z pY.rv.sl (by omega)) (ω z (fD (0:Int) z fC z pY (by omega) z) (ψ z z (ε (ξ (ψ z z (ω z (OpVal.geq z z z) (TL.j z z (TL.split 151 z (λEw=> ?_) (λEw=> ?_)))))))))
      ·replace hh:=ig Ew hh
       replace Ew:=jk Ew
       refine Ψ z (cO (.inl z) z) (Ψ z (OpVal.geq z z z) (ω z (dQ z z z) (TL.j z z (TL.split 155 z (λEu=> ?_) (λEu=> ?_)))))
       ·replace hh:=ig Eu hh
        replace Eu:=jk Eu
        refine Ψ z (gK (.inl z) z) (Ψ z (cO (.inl z) z) ?_)
        obtain ⟨u158,hh⟩:=aP hh
        refine TL.know (nU (q:=1) z lI) (λ⟨hs290,hs290b⟩=> ?_)
        refine Ψ z (OpVal.index z underlying125 Jh z z hs290 u158.1 u158.2) ?_
        obtain ⟨p291,JC,KD⟩:=Zn.at lI (i:=(nth (nth x0.next iL []) mg 0).toNat) (by omega)
        refine Ψ z (Dj z rX z (q:=1) z JC KD) (Ψ z (cO (.inl z) z) ?_)
        obtain ⟨u161,hh⟩:=aP hh
        refine TL.know (iq_ (q:=1) z JC KD) (λ⟨hs292,hs292b⟩=> ?_)
        refine Ψ z (OpVal.index z g_ gV z z hs292 u161.1 u161.2) (Ψ z (OpVal.seen (ir_ (q:=1) z JC KD) (nZ false z nX z (q:=0) z iQ (by omega) z)) (ω z (dQ z z z) (ε (TC.cB z hh (λh293 hh=> ?_) (λh293 hh=> ?_)))))
        ·refine ξ (Ξ z z (ψ z z ?_))
         obtain ⟨u166,hh⟩:=aP hh
         refine TL.know (nU (q:=1) z lI) (λ⟨hs294,hs294b⟩=> ?_)
         refine ω z (bT z underlying125 Jh z z hs294 (by omega)) ?_
         obtain ⟨p295,Fv,Gu⟩:=Zn.at lI (i:=iL) (by omega)
         refine ω z (Dj z rX z (q:=1) z Fv Gu) (Ξ z z (ε (ξ (Ξ z z (ψ z z ?_)))))
         obtain ⟨u171,hh⟩:=aP hh
         refine TL.know (iq_ (q:=1) z Fv Gu) (λ⟨hs296,hs296b⟩=> ?_)
         refine ω z (bT z g_ gV z z hs296 (by omega)) (ζ 1 z z (TL.by (λw h=>Reach.takeN Fv Gu h) ?_))
         have hn299:(jV.set iL ((nth jV iL []).set fO true)).length=cZ.length:=(fQ ..).trans wW
         refine ν z (lF true z gV z z z z iQ qQ (by decide) (by omega) ?_)
         refine TL.by (λw h=>Reach.putN Fv Gu (by rw [fQ]) h) ?_
         have zf298:=Zn.set lI iL ((nth jV iL []).set fO true) p295
         refine ε (η (TL.j z z (TL.nil (B.n (S.n (η (ψ z z (ω z (OpVal.succ z z z (by omega)) (ψ z z (ε ?_))))))))))
         obtain ⟨hh,Xd⟩:=dL Z5 hh
         exact lf (((jV.set iL ((nth jV iL []).set fO true)),true,(mg+1)),(GZ.set iL (((nth jV iL []).set fO true),p295))) Xd ⟨hh,hn299,zf298⟩ (Θ [1] 2)
        refine ι (B.n (S.n (η (ψ z z (ω z (OpVal.succ z z z (by omega)) (ψ z z (ε ?_)))))))
        obtain ⟨hh,Xc⟩:=dL Z5 hh
        exact lf ((jV,wE,(mg+1)),GZ) Xc ⟨hh,wW,lI⟩ (Θ [1,1] 2)
       replace hh:=iw Eu hh
       replace Eu:=jy Eu
       refine π z (π z (π z (π z (π z (π z (π z (ω z (dU z z z) (ε (TC.f z (ι (B.n (S.n (η (ψ z z (ω z (OpVal.succ z z z (by omega)) ?_)))))))))))))))
       refine ψ z z (ε ?_)
       obtain ⟨hh,Xb⟩:=dL Z5 hh
       exact lf ((jV,wE,(mg+1)),GZ) Xb ⟨hh,wW,lI⟩ (Θ [1,1] 2)
      replace hh:=iw Ew hh
      replace Ew:=jy Ew
      refine π z (π z (ω z (dU z z z) (TL.j z z (π z (π z (π z (π z (π z (π z (π z (ω z (dU z z z) (ε (TC.f z (ι (B.n ?_)))))))))))))))
      refine S.n (η (ψ z z (ω z (OpVal.succ z z z (by omega)) (ψ z z (ε ?_)))))
      obtain ⟨hh,Xa⟩:=dL Z5 hh
      exact lf ((jV,wE,(mg+1)),GZ) Xa ⟨hh,wW,lI⟩ (Θ [1,1] 2)
     refine TC.exit (S.x (S.x ?_))
     replace hh:=dI Z5 hh
     refine Δ (B.n (S.n (η (ψ z z (ω z (OpVal.succ z z z (by omega)) (ψ z z (ε ?_)))))))
     obtain ⟨hh,W_⟩:=dL zX hh
     exact lf ((jV,wE,(fO+1)),GZ) W_ ⟨hh,wW,lI⟩ (Θ [1,1] 2)
    replace hh:=iw zY hh
    replace zY:=jy zY
    refine π z (π z (π z (π z (π z (π z (π z (π z (ω z (dU z z z) (ε (TC.f z (TC.exit (S.x (S.x ?_)))))))))))))
    replace hh:=dI Z5 hh
    refine Δ (B.n (S.n (η (ψ z z (ω z (OpVal.succ z z z (by omega)) (ψ z z (ε ?_)))))))
    obtain ⟨hh,W9⟩:=dL zX hh
    exact lf ((jV,wE,(fO+1)),GZ) W9 ⟨hh,wW,lI⟩ (Θ [1,1] 2)
   refine TC.exit (S.x (S.x ?_))
   replace hh:=dI zX hh
   refine Δ (B.n (S.n (η (ψ z z (ω z (OpVal.succ z z z (by omega)) (ψ z z (ε ?_)))))))
   obtain ⟨hh,WZ⟩:=dL hR2 hh
   exact lf ((Jw,Jl,(iL+1)),z254) WZ ⟨hh,qM,lJ⟩ (Θ [1,1] 2)
  refine TC.exit (S.x (S.x ?_))
  replace hh:=dI hR2 hh
  refine Δ (B.n (S.n ?_))
  obtain ⟨hh,WY⟩:=dL hR1 hh
  exact lf ((kK,t234),z232) WY ⟨hh,oL,jA⟩ (Θ [1,1] 2)
 refine TC.exit (S.x (S.x ?_))
 replace hh:=dI hR1 hh
 refine Δ (S.n (ξ (Ξ z z (Ξ z z (ε ?_)))))
 rw [<-J_]
 refine TC.front 1 z z (TC.Z8 (λw h=>Reach.bj_ iQ oI h) (λτ310 hle309 TT=> ?_))
 have hr308b:=TT.big
 refine TC.rt 0 ?_
 obtain rfl:=so hh
 exact rq [2] ⟨a119,qE,z,TT,z⟩
def QM(aX:Nat)(v25:(List B_1))(aJ:ak)(DK:Int)(wL:Int):Option ((Int×Int)⊕((ak×Nat)⊕(Seq×Int))):=
 aQ (decide (0<=wL)) (grd (aX<v25.length) (grd (0<=wL/\wL<((nth v25 aX []).length:Int)) (aQ (!(nth (nth v25 aX []) wL.toNat false)) (nxt (wL,(IntKind.i64.wrap (wL - 1)))) (nxt (DK,(IntKind.i64.wrap (wL - 1))))))) (fin (grd ((aJ.length+[DK].length) * 8<=140737488355328) (nxt ((aJ++[DK]),(aX+1)))))
def yM(nN:ak)(aJ:ak)(v5:Seq×Int)(d_:ak)(eF:Nat)(gW:Nat)(kN:ak)(vF:Nat)(zI:Nat):Option ((Nat×Nat)⊕((ak×ak×Nat)⊕((bW×fJ×B_1×aB×ak×Nat)⊕(Seq×Int)))):=
 aQ (decide ((zI:Int)<((nN.length:Nat):Int))) (aQ (decide ((nth nN zI 0)=(nth aJ ((nth (nth v5.1.next ((nth d_ eF 0).toNat) []) gW 0).toNat) 0))) (nxt (zI,(zI+1))) (nxt (vF,(zI+1)))) (fin (aQ (decide ((vF:Int)=((nN.length:Nat):Int))) (grd ((nN.length+[(nth aJ ((nth (nth v5.1.next ((nth d_ eF 0).toNat) []) gW 0).toNat) 0)].length) * 8<=140737488355328) (grd (gW<(kN.set gW (-1)).length) (nxt ((nN++[(nth aJ ((nth (nth v5.1.next ((nth d_ eF 0).toNat) []) gW 0).toNat) 0)]),((kN.set gW (-1)).set gW (vF:Int)),(gW+1))))) (grd (gW<(kN.set gW (-1)).length) (nxt (nN,((kN.set gW (-1)).set gW (vF:Int)),(gW+1))))))
def Nz(d_:ak)(eF:Nat)(v5:Seq×Int)(aJ:ak)(jF:bW)(l9:fJ)(nO:B_1)(tZ:aB)(nN:ak)(kN:ak)(gW:Nat):Option ((ak×ak×Nat)⊕((bW×fJ×B_1×aB×ak×Nat)⊕(Seq×Int))):=
 aQ (decide ((gW:Int)<256)) (grd (gW<kN.length) (grd (0<=(nth d_ eF 0)/\(nth d_ eF 0)<(v5.1.next.length:Int)) (grd (gW<(nth v5.1.next ((nth d_ eF 0).toNat) []).length) (aQ (decide ((nth (nth v5.1.next ((nth d_ eF 0).toNat) []) gW 0)<0)) (nxt (nN,(kN.set gW (-1)),(gW+1))) (grd (0<=(nth d_ eF 0)/\(nth d_ eF 0)<(v5.1.next.length:Int)) (grd (gW<(nth v5.1.next ((nth d_ eF 0).toNat) []).length) (grd (0<=(nth (nth v5.1.next ((nth d_ eF 0).toNat) []) gW 0)/\(nth (nth v5.1.next ((nth d_ eF 0).toNat) []) gW 0)<(aJ.length:Int)) (bC (λq:Nat×Nat=>yM nN aJ v5 d_ eF gW kN q.1 q.2) (nN.length,0))))))))) (fin (grd ((jF.length+[kN].length) * 24<=140737488355328) (grd (0<=(nth d_ eF 0)/\(nth d_ eF 0)<(v5.1.outs.length:Int)) (grd ((l9.length+[(nth v5.1.outs ((nth d_ eF 0).toNat) [])].length) * 24<=140737488355328) (grd (0<=(nth d_ eF 0)/\(nth d_ eF 0)<(v5.1.fin.length:Int)) (grd ((nO.length+[(nth v5.1.fin ((nth d_ eF 0).toNat) false)].length) * 1<=140737488355328) (grd (0<=(nth d_ eF 0)/\(nth d_ eF 0)<(v5.1.tail.length:Int)) (grd ((tZ.length+[(nth v5.1.tail ((nth d_ eF 0).toNat) [])].length) * 16<=140737488355328) (nxt ((jF++[kN]),(l9++[(nth v5.1.outs ((nth d_ eF 0).toNat) [])]),(nO++[(nth v5.1.fin ((nth d_ eF 0).toNat) false)]),(tZ++[(nth v5.1.tail ((nth d_ eF 0).toNat) [])]),nN,(eF+1)))))))))))
def Vs(v5:Seq×Int)(aJ:ak)(jF:bW)(l9:fJ)(nO:B_1)(tZ:aB)(d_:ak)(eF:Nat):Option ((bW×fJ×B_1×aB×ak×Nat)⊕(Seq×Int)):=
 aQ (decide ((eF:Int)<((d_.length:Nat):Int))) (bC (λq:ak×ak×Nat=>Nz d_ eF v5 aJ jF l9 nO tZ q.1 q.2.1 q.2.2) (d_,(replicate 256 (0:Int)),0)) (fin (some ((⟨v5.1.front,jF,l9,nO,tZ⟩:Seq),0)))
def ND(v5:Seq×Int)(v25:(List B_1))(aJ:ak)(aX:Nat):Option ((ak×Nat)⊕(Seq×Int)):=
 aQ (decide ((aX:Int)<((v5.1.next.length:Nat):Int))) (bC (λq:Int×Int=>QM aX v25 aJ q.1 q.2) ((aX:Int),(aX:Int))) (fin (grd (0<aJ.length) (bC (λq:bW×fJ×B_1×aB×ak×Nat=>Vs v5 aJ q.1 q.2.1 q.2.2.1 q.2.2.2.1 q.2.2.2.2.1 q.2.2.2.2.2) (([]:bW),([]:fJ),([]:B_1),([]:aB),[(nth aJ 0 0)],0))))
def Cs_(x0:Seq):Option (Seq×Int):=
 bnd (Vo x0) (λv5=>aQ (decide (v5.2≠0)) (some (v5.1,v5.2)) (aQ (decide (((v5.1.next.length:Nat):Int)=0)) (some (v5.1,v5.2)) (bnd (C2_ v5.1) (λv25=>bC (λq:ak×Nat=>ND v5 v25 q.1 q.2) (([]:ak),0)))))
def G2_(σ:aj)(r:Seq×Int):Value->aj->List Res->Prop:=λv σ' H'=>
 ∃a1 c1 a2 c2 a3 c3 a4 c4,v= .tuple #[.agg (qF r.1 a1 c1 a2 c2 a3 c3 a4 c4),.int .i64 r.2]/\RZ σ' (aC 1 aF bn) (.slice a1 r.1.next.length c1) r.1.next/\RZ σ' (aC 1 aI bF) (.slice a2 r.1.outs.length c2) r.1.outs/\dH σ' eq_ a3 c3 r.1.fin/\dH σ' aI a4 c4 r.1.tail/\H'=[]
theorem Gn_{σ:aj}{x0:Seq}(au:RZ σ (aC 1 aF bn) (.slice aN x0.next.length aK) x0.next)(aV:RZ σ (aC 1 aI bF) (.slice aA x0.outs.length aY) x0.outs)(aS:dH σ eq_ aW ay x0.fin)(aO:dH σ aI bI bD x0.tail){r:Seq×Int}(hh:Cs_ x0=some r):
  Con prog 37 #[.agg (qF x0 aN aK aA aY aW ay bI bD)] σ [] (G2_ σ r):=by
 dsimp only [Cs_]at hh
 have f0_0b:=au.big
 have f0_1b:=aV.big
 have f0_2b:=aS.rv.big
 have f0_3b:=aO.rv.big
 refine Con.mk (n:=172) Tryz.func37 z z z (λw0=> ?_)
 refine ξ (ν z (boxA z z z z (λbG=> ?_)))
 refine ν z (OpOk.alloc z nD z z (λeY=> ?_))
 refine ψ z z (ε (ξ (ω z (lG z jw fB z (i:=1) z z) ?_)))
 obtain ⟨v5,u5,hh⟩:=dJ hh
 refine ν z (OpOk.call (E3_ (x0:=x0) au aV aS aO u5) z z pf36 z z z z ?_)
 rintro _ τ105 _ jf ⟨a105_1,c105_1,a105_2,c105_2,a105_3,c105_3,a105_4,c105_4,rfl,hr105_0,hr105_1,hr105_2,hr105_3,rfl⟩
 have hr105_0b:=hr105_0.big
 have hr105_1b:=hr105_1.big
 have hr105_2b:=hr105_2.rv.big
 have hr105_3b:=hr105_3.rv.big
 refine ω z (vS (.inl z) z) (ω z (OpVal.extract z z z) (ω z (OpVal.extract z z z) (ν z (OpOk.alloc z nD z z (λxZ=> ?_)))))
 refine ν z (storeAll z fB z z z z z z ?_)
 refine ψ z z (ε (θ (ξ (ψ z z (ω z (OpVal.neq z z z) (TL.j z z (TL.split 27 z (λfH=> ?_) (λfH=> ?_))))))))
 ·replace hh:=ig fH hh
  replace fH:=jk fH
  refine π z (π z (π z (π z (ω z (dQ z z z) (ε (TC.t z (ξ (ω z (lG z jw fB z (i:=0) z z) (ψ z z (ζ 1 z z (ν z (storeAll z fB z z z z z z ?_))))))))))))
  refine ψ z z (ε (TC.rt 1 (S.r ?_)))
  obtain rfl:=so hh
  exact ro [] z (RVs.agg jw fB z (i:=0) z z (RVs.tmp z RVs.nil)) ⟨a105_1,c105_1,a105_2,c105_2,a105_3,c105_3,a105_4,c105_4,z,hr105_0,hr105_1,hr105_2,hr105_3,z⟩
 replace hh:=iw fH hh
 replace fH:=jy fH
 refine Ψ z (aU z kW z) (Ψ z (bg z j_ z (i:=0) z z) (Ψ z (lenC z eX z) (Ψ z (OpVal.eql z z z) (ω z (dU z z z) (ε (TC.cD z hh (λlY hh=> ?_) (λlY hh=> ?_)))))))
 ·refine ξ (ω z (lG z jw fB z (i:=0) z z) (ψ z z (ζ 1 z z (ν z (storeAll z fB z z z z z z ?_)))))
  refine ψ z z (ε (TC.rt 1 (S.r ?_)))
  obtain rfl:=so hh
  exact ro [] z (RVs.agg jw fB z (i:=0) z z (RVs.tmp z RVs.nil)) ⟨a105_1,c105_1,a105_2,c105_2,a105_3,c105_3,a105_4,c105_4,z,hr105_0,hr105_1,hr105_2,hr105_3,z⟩
 refine ι (S.n (ξ (ω z (lG z jw fB z (i:=0) z z) ?_)))
 obtain ⟨v25,u25,hh⟩:=dJ hh
 refine ν z (OpOk.call (Gd_ (x0:=v5.1) hr105_0 hr105_1 hr105_2 hr105_3 u25) z z pf75 z z z z ?_)
 rintro _ τ110 _ zW ⟨a110_1,c110_1,rfl,hr110_0,rfl⟩
 replace hr105_0:=hr105_0.mono zW
 replace hr105_1:=hr105_1.mono zW
 replace hr105_2:=hr105_2.mono zW
 replace hr105_3:=hr105_3.mono zW
 have hr110_0b:=hr110_0.big
 refine Ξ z z (ε (ξ (Ξ z z (ε (θ (ξ (ψ z z (ε (υ (TC.nilS 3 1 aF (TC.iE (α:=(ak×Nat)×((Option Addr)×Nat)) (rgs [(7,4),(37,26)]) (λg=>[(7,.slice g.2.1 g.1.1.length g.2.2),(8,.int .i64 ((g.1.2:Nat):Int))]) (λg=>[κ eY #[.string (bs ([]:T_1)),bM,bM,bM,bM] 32,jh xZ v5.1 a105_1 c105_1 a105_2 c105_2 a105_3 c105_3 a105_4 c105_4,φ 3 1 aF (.slice g.2.1 g.1.1.length g.2.2) g.1.1]) (λg=>τ110) (λg=>bC (λq:ak×Nat=>ND v5 v25 q.1 q.2) g.1=some r) (λg=>fZ (λq:ak×Nat=>ND v5 v25 q.1 q.2) g.1) ((([]:ak),0),(none,0)) (Θ [1,2] 3) z (by repeat (first|exact trivial|refine ⟨z,?_⟩)) hh (λg1 j1 hg1=> ?_))))))))))))
 obtain ⟨⟨aJ,aX⟩,⟨Qb,c124⟩⟩:=g1
 have hh:=hg1;clear hg1
 try dsimp only
 obtain ⟨z1,hh,hR1⟩:=iq hh
 dsimp only [ND]at hh
 refine χ (i:=2) z (λ_ GK _=> ?_)
 refine θ (ξ (ψ z z (ω z (aU z kW z) (ω z (bg z j_ z (i:=1) z z) (ω z (lenC z eX z) (ω z (OpVal.lss z z z) (ε (TC.cD z hh (λh128 hh=> ?_) (λh128 hh=> ?_)))))))))
 ·refine ι (S.n (θ (υ (ξ (ψ z z (ψ z z (ε (θ (ξ (ψ z z (ψ z z (ε (υ (TC.iE (α:=(Int×Int)×(Unit)) (rgs [(9,2),(46,13)]) (λg=>[(9,.int .i64 g.1.1),(10,.int .i64 g.1.2)]) (λg=>[κ eY #[.string (bs ([]:T_1)),bM,bM,bM,bM] 32,jh xZ v5.1 a105_1 c105_1 a105_2 c105_2 a105_3 c105_3 a105_4 c105_4,dR 3 aF Qb c124 aJ]) (λg=>τ110) (λg=>bC (λq:Int×Int=>QM aX v25 aJ q.1 q.2) g.1=some z1) (λg=>fZ (λq:Int×Int=>QM aX v25 aJ q.1 q.2) g.1) (((aX:Int),(aX:Int)),()) (Θ [2,2,2] 3) z (by repeat (first|exact trivial|refine ⟨z,?_⟩)) hh (λg2 j2 hg2=> ?_)))))))))))))))
  obtain ⟨⟨DK,wL⟩,_⟩:=g2
  have hh:=hg2;clear hg2
  try dsimp only
  obtain ⟨z2,hh,hR2⟩:=iq hh
  dsimp only [QM]at hh
  refine χ (i:=2) z (λ_ U5 _=> ?_)
  refine θ (ξ (ψ z z (ω z (OpVal.geq z z z) (ε (TC.cD z hh (λqj hh=> ?_) (λqj hh=> ?_))))))
  ·refine ι (S.n (θ (υ (ξ (Ξ z z (ψ z z ?_))))))
   obtain ⟨u42,hh⟩:=aP hh
   refine ω z (bT z underlying125 Jh z z hr110_0.isSl (by omega)) ?_
   obtain ⟨zA,qc,KW⟩:=RZ.seg hr110_0 aX (by omega)
   replace qc:dH _ eq_ zA.1 zA.2 (nth v25 aX []):=qc
   have hk139b:=qc.rv.big
   refine ω z (OpVal.of (lZ z rX z KW z) (v':= .slice zA.1 ((nth v25 aX []).length) zA.2) z) (ψ z z ?_)
   obtain ⟨u45,hh⟩:=aP hh
   refine ω z (OpVal.index z g_ gV z z qc.rv.sl u45.1 u45.2) (ω z (fD false z nX z qc (by omega) z) (ω z (OpVal.not z z) (ε (TC.cB z hh (λuz hh=> ?_) (λuz hh=> ?_)))))
   ·refine η (ψ z z (ψ z z (TL.nil (B.n (S.n (η (ψ z z (ω z (subW z z z) (ψ z z (ε ?_))))))))))
    obtain ⟨hh,XU⟩:=dL hR2 hh
    exact lf ((wL,(IntKind.i64.wrap (wL - 1))),()) XU hh (Θ [2,2,2] 3)
   refine ι (B.n (S.n (η (ψ z z (ω z (subW z z z) (ψ z z (ε ?_)))))))
   obtain ⟨hh,D6⟩:=dL hR2 hh
   exact lf ((DK,(IntKind.i64.wrap (wL - 1))),()) D6 hh (Θ [2,2,2] 3)
  refine TC.exit (S.x (S.x ?_))
  replace hh:=dI hR2 hh
  refine Δ (S.n (η (Ξ z z (ψ z z (ν z (OpOk.lit (enc:=aF) [DK] z bY dh lq z z z bn (by decide) (by decide) (0:Int) z (by decide) z (by decide) jR (λa143 c144=> ?_)))))))
  refine ζ 3 z z ?_
  obtain ⟨u56,hh⟩:=aP hh
  refine ν z (as_ z z bY dh uJ lq z z (by decide) z z z (.inr ⟨_,0,z⟩) (by simpa using u56) (by decide) (λa146 YT=> ?_))
  refine Ξ z z (TL.nil (B.n (S.n (η (ψ z z (ω z (OpVal.succ z z z (by omega)) (ψ z z (ε ?_))))))))
  obtain ⟨hh,XR⟩:=dL hR1 hh
  exact lf (((aJ++[DK]),(aX+1)),(a146,YT)) XR hh (Θ [3,3] 3)
 refine TC.exit (S.x (S.x ?_))
 replace hh:=dI hR1 hh
 refine Δ (S.n (ξ (ω z (aU z GR z) (ω z (bg z iK z (i:=1) z z) (ω z (ny z wH nD z) (ν z (OpOk.alloc z nD z z (λY5=> ?_))))))))
 refine ν z (storeAll z fB z z z z z z ?_)
 refine ε (ξ (Ξ z z ?_))
 obtain ⟨u67,hh⟩:=aP hh
 refine TL.isSl (i:=3) z (λJM _ _=> ?_)
 refine ω z (bT (i:=0) z bY dh z z JM (by omega)) (ω z (nZ (0:Int) z fC z (q:=3) z bn (by omega) z) (ν z (OpOk.lit (enc:=aF) [(nth aJ 0 0)] z bY dh lq z z z bn (by decide) (by decide) (0:Int) z (by decide) z (by decide) jR (λa152 xU=> ?_))))
 refine Ξ z z (ε (θ (ξ (ψ z z (ε (υ (TC.nilS 86 1 (aC 1 aF bn).en ?_)))))))
 have zf227:=ZOk.nil τ110 (aC 1 aF bn)
 refine TC.nilS 30 1 (aC 1 aI bF).en ?_
 have uN:=ZOk.nil τ110 (aC 1 aI bF)
 refine TC.nilS 4 1 eq_ (TC.nilS 9 1 aI (TC.iE (α:=(bW×fJ×B_1×aB×ak×Nat)×((Option Addr)×Nat×(List (ak×(aC 1 aF bn).P))×(Option Addr)×Nat×(List (aB×(aC 1 aI bF).P))×(Option Addr)×Nat×(Option Addr)×Nat×(Option Addr)×Nat×aj)) (rgs [(12,8),(70,101)]) (λg=>[(12,.slice g.2.2.2.2.2.2.2.2.2.2.2.1 g.1.2.2.2.2.1.length g.2.2.2.2.2.2.2.2.2.2.2.2.1),(13,.int .i64 ((g.1.2.2.2.2.2:Nat):Int))]) (λg=>[κ eY #[.string (bs ([]:T_1)),bM,bM,bM,bM] 32,jh xZ v5.1 a105_1 c105_1 a105_2 c105_2 a105_3 c105_3 a105_4 c105_4,dR 3 aF Qb c124 aJ,κ Y5 #[.string (bs v5.1.front),.slice g.2.1 g.1.1.length g.2.2.1,.slice g.2.2.2.2.1 g.1.2.1.length g.2.2.2.2.2.1,.slice g.2.2.2.2.2.2.2.1 g.1.2.2.1.length g.2.2.2.2.2.2.2.2.1,.slice g.2.2.2.2.2.2.2.2.2.1 g.1.2.2.2.1.length g.2.2.2.2.2.2.2.2.2.2.1] 32,φ 86 1 (aC 1 aF bn).en (.slice g.2.1 g.1.1.length g.2.2.1) g.2.2.2.1,φ 30 1 (aC 1 aI bF).en (.slice g.2.2.2.2.1 g.1.2.1.length g.2.2.2.2.2.1) g.2.2.2.2.2.2.1,φ 4 1 eq_ (.slice g.2.2.2.2.2.2.2.1 g.1.2.2.1.length g.2.2.2.2.2.2.2.2.1) g.1.2.2.1,φ 9 1 aI (.slice g.2.2.2.2.2.2.2.2.2.1 g.1.2.2.2.1.length g.2.2.2.2.2.2.2.2.2.2.1) g.1.2.2.2.1,φ 3 1 aF (.slice g.2.2.2.2.2.2.2.2.2.2.2.1 g.1.2.2.2.2.1.length g.2.2.2.2.2.2.2.2.2.2.2.2.1) g.1.2.2.2.2.1]) (λg=>g.2.2.2.2.2.2.2.2.2.2.2.2.2) (λg=>bC (λq:bW×fJ×B_1×aB×ak×Nat=>Vs v5 aJ q.1 q.2.1 q.2.2.1 q.2.2.2.1 q.2.2.2.2.1 q.2.2.2.2.2) g.1=some r/\ZOk g.2.2.2.2.2.2.2.2.2.2.2.2.2 (aC 1 aF bn) g.2.2.2.1 g.1.1/\ZOk g.2.2.2.2.2.2.2.2.2.2.2.2.2 (aC 1 aI bF) g.2.2.2.2.2.2.1 g.1.2.1/\aj.le τ110 g.2.2.2.2.2.2.2.2.2.2.2.2.2) (λg=>fZ (λq:bW×fJ×B_1×aB×ak×Nat=>Vs v5 aJ q.1 q.2.1 q.2.2.1 q.2.2.2.1 q.2.2.2.2.1 q.2.2.2.2.2) g.1) ((([]:bW),([]:fJ),([]:B_1),([]:aB),[(nth aJ 0 0)],0),(none,0,[],none,0,[],none,0,none,0,a152,xU,τ110)) (Θ [4,1,2,3,4,5,8,8,8] 9) z (by repeat (first|exact trivial|refine ⟨z,?_⟩)) ⟨hh,zf227,uN,(aj.le.refl _)⟩ (λg3 j3 hg3=> ?_)))
 obtain ⟨⟨jF,l9,nO,tZ,d_,eF⟩,⟨yI,c206,I9,x9,c212,z213,tq,c218,Me,c222,a224,c225,τ233⟩⟩:=g3
 obtain ⟨hh,oJ,iW,rC⟩:=hg3
 try dsimp only at oJ
 try dsimp only at iW
 dsimp only at rC
 replace hr105_0:=hr105_0.mono rC
 replace hr105_1:=hr105_1.mono rC
 replace hr105_2:=hr105_2.mono rC
 replace hr105_3:=hr105_3.mono rC
 try dsimp only
 obtain ⟨z1,hh,hR1⟩:=iq hh
 dsimp only [Vs]at hh
 have zf208b:=oJ.length
 have zf214b:=iW.length
 refine χ (i:=2) z (λ_ UR _=> ?_)
 refine χ (i:=4) z (λ_ GH _=> ?_)
 refine χ (i:=5) z (λ_ UQ _=> ?_)
 refine χ (i:=6) z (λ_ UO _=> ?_)
 refine χ (i:=7) z (λ_ UN _=> ?_)
 refine χ (i:=8) z (λ_ hb240 _=> ?_)
 refine θ (ξ (ψ z z (Ξ z z (ω z (lenC z bY z) (ω z (OpVal.lss z z z) (ε (TC.cD z hh (λh241 hh=> ?_) (λh241 hh=> ?_))))))))
 ·refine ι (S.n (θ (υ (ξ (Ξ z z (ψ z z (TL.isSl (i:=8) z (λhs242 _ _=> ?_))))))))
  refine ω z (bT z bY dh z z hs242 (by omega)) (ω z (nZ (0:Int) z fC z (q:=8) z bn (by omega) z) (ψ z z (ε (ξ (ν z (oW (m:=256) (enc:=aF) (0:Int) z bY dh uJ lq z z z z (by omega) (by decide) bn (by decide) z jR (λP8 PE=> ?_)))))))
  refine Ξ z z (ε (θ (ξ (ψ z z (ε (υ (TC.iE (α:=(ak×ak×Nat)×((Option Addr)×Nat×aj)) (rgs [(12,1),(16,4),(81,54)]) (λg=>[(12,.slice g.2.1 g.1.1.length g.2.2.1),(16,.int .i64 ((g.1.2.2:Nat):Int))]) (λg=>[κ eY #[.string (bs ([]:T_1)),bM,bM,bM,bM] 32,jh xZ v5.1 a105_1 c105_1 a105_2 c105_2 a105_3 c105_3 a105_4 c105_4,dR 3 aF Qb c124 aJ,κ Y5 #[.string (bs v5.1.front),.slice yI jF.length c206,.slice x9 l9.length c212,.slice tq nO.length c218,.slice Me tZ.length c222] 32,φ 86 1 (aC 1 aF bn).en (.slice yI jF.length c206) I9,φ 30 1 (aC 1 aI bF).en (.slice x9 l9.length c212) z213,dR 4 eq_ tq c218 nO,dR 9 aI Me c222 tZ,φ 3 1 aF (.slice g.2.1 g.1.1.length g.2.2.1) g.1.1,φ 3 1 aF (.slice P8 (replicate 256 (0:Int)).length PE) g.1.2.1]) (λg=>g.2.2.2) (λg=>bC (λq:ak×ak×Nat=>Nz d_ eF v5 aJ jF l9 nO tZ q.1 q.2.1 q.2.2) g.1=some z1/\ZOk g.2.2.2 (aC 1 aF bn) I9 jF/\ZOk g.2.2.2 (aC 1 aI bF) z213 l9/\g.1.2.1.length=(replicate 256 (0:Int)).length/\aj.le τ233 g.2.2.2) (λg=>fZ (λq:ak×ak×Nat=>Nz d_ eF v5 aJ jF l9 nO tZ q.1 q.2.1 q.2.2) g.1) ((d_,(replicate 256 (0:Int)),0),(a224,c225,τ233)) (Θ [9,9,9,9,9,9,9,9,9] 10) z (by repeat (first|exact trivial|refine ⟨z,?_⟩)) ⟨hh,oJ,iW,z,(aj.le.refl _)⟩ (λg4 j4 hg4=> ?_))))))))
  obtain ⟨⟨nN,kN,gW⟩,⟨Ig,H7,τ272⟩⟩:=g4
  obtain ⟨hh,su,r_,BJ,lT⟩:=hg4
  try dsimp only at su
  try dsimp only at r_
  try dsimp only at BJ
  dsimp only at lT
  replace hr105_0:=hr105_0.mono lT
  replace hr105_1:=hr105_1.mono lT
  replace hr105_2:=hr105_2.mono lT
  replace hr105_3:=hr105_3.mono lT
  replace oJ:=oJ.mono lT
  replace iW:=iW.mono lT
  try dsimp only
  obtain ⟨z2,hh,hR2⟩:=iq hh
  dsimp only [Nz]at hh
  have zf264b:=su.length
  have zf265b:=r_.length
  refine χ (i:=2) z (λ_ hb274 _=> ?_)
  refine χ (i:=4) z (λ_ hb275 _=> ?_)
  refine χ (i:=5) z (λ_ hb276 _=> ?_)
  refine χ (i:=6) z (λ_ hb277 _=> ?_)
  refine χ (i:=7) z (λ_ hb278 _=> ?_)
  refine χ (i:=8) z (λ_ hb279 _=> ?_)
  refine χ (i:=9) z (λ_ hb280 _=> ?_)
  refine θ (ξ (ψ z z (ω z (OpVal.lss z z z) (ε (TC.cD z hh (λzY hh=> ?_) (λzY hh=> ?_))))))
  ·refine ι (S.n (θ (υ (ξ (Ξ z z (ψ z z ?_))))))
   obtain ⟨u88,hh⟩:=aP hh
   refine TL.isSl (i:=9) z (λJG _ _=> ?_)
   refine ω z (bT z bY dh z z JG (by omega)) (ζ 9 z z ?_)
   have Ut:(kN.set gW (-1)).length=(replicate 256 (0:Int)).length:=by rw [fQ];exact BJ
   refine ν z (lF (-1) z dh z z z z bn jR (by omega) (by omega) ?_)
   refine ε (θ (ξ (ω z (aU z kW z) (ω z (bg z j_ z (i:=2) z z) (ψ z z ?_)))))
   obtain ⟨u93,hh⟩:=aP hh
   refine ω z (OpVal.index z eX fP z z hr105_0.isSl u93.1 u93.2) ?_
   obtain ⟨Ov,Cc,hg284⟩:=RZ.seg hr105_0 ((nth d_ eF 0).toNat) (by omega)
   replace Cc:dH _ aF Ov.1 Ov.2 (nth v5.1.next ((nth d_ eF 0).toNat) []):=Cc
   have hk284b:=Cc.rv.big
   refine ω z (OpVal.of (lZ z hs_ z hg284 z) (v':= .slice Ov.1 ((nth v5.1.next ((nth d_ eF 0).toNat) []).length) Ov.2) z) (ψ z z ?_)
   obtain ⟨u96,hh⟩:=aP hh
   refine ω z (bT z bY dh z z Cc.rv.sl (by omega)) (ω z (fD (0:Int) z fC z Cc (by omega) z) (ω z (OpVal.lss z z z) (ε (TC.cD z hh (λYq hh=> ?_) (λYq hh=> ?_)))))
   ·refine TC.exit (S.x (Δ (S.n (η (ψ z z (ω z (OpVal.succ z z z (by omega)) (ψ z z (ε ?_))))))))
    obtain ⟨hh,DL⟩:=dL hR2 hh
    exact lf ((nN,(kN.set gW (-1)),(gW+1)),(Ig,H7,τ272)) DL ⟨hh,su,r_,Ut,lT⟩ (Θ [9,9,9,9,9,9,9,9,9] 10)
   refine ι (S.n (ξ (Ξ z z (ω z (aU z kW z) (ω z (bg z j_ z (i:=2) z z) (ψ z z ?_))))))
   obtain ⟨u103,hh⟩:=aP hh
   refine ω z (OpVal.index z eX fP z z hr105_0.isSl u103.1 u103.2) ?_
   obtain ⟨zy,pY,KR⟩:=RZ.seg hr105_0 ((nth d_ eF 0).toNat) (by omega)
   replace pY:dH _ aF zy.1 zy.2 (nth v5.1.next ((nth d_ eF 0).toNat) []):=pY
   have hk287b:=pY.rv.big
   refine ω z (OpVal.of (lZ z hs_ z KR z) (v':= .slice zy.1 ((nth v5.1.next ((nth d_ eF 0).toNat) []).length) zy.2) z) (ψ z z ?_)
   obtain ⟨N_,hh⟩:=aP hh
   refine ω z (bT z bY dh z z pY.rv.sl (by omega)) (ω z (fD (0:Int) z fC z pY (by omega) z) ?_)
   obtain ⟨u108,hh⟩:=aP hh
   refine TL.isSl (i:=3) z (λhs288 _ _=> ?_)
   refine ω z (OpVal.index z bY dh z z hs288 u108.1 u108.2) (ω z (nZ (0:Int) z fC z (q:=3) z bn (by omega) z) (ψ z z (ε (ξ (Ξ z z (ω z (lenC z bY z) (ψ z z (ε (θ (ξ (ψ z z (ε (υ (TC.iE (α:=(Nat×Nat)×(aj)) (rgs [(18,2),(110,13)]) (λg=>[(18,.int .i64 ((g.1.1:Nat):Int)),(19,.int .i64 ((g.1.2:Nat):Int))]) (λg=>[κ eY #[.string (bs ([]:T_1)),bM,bM,bM,bM] 32,jh xZ v5.1 a105_1 c105_1 a105_2 c105_2 a105_3 c105_3 a105_4 c105_4,dR 3 aF Qb c124 aJ,κ Y5 #[.string (bs v5.1.front),.slice yI jF.length c206,.slice x9 l9.length c212,.slice tq nO.length c218,.slice Me tZ.length c222] 32,φ 86 1 (aC 1 aF bn).en (.slice yI jF.length c206) I9,φ 30 1 (aC 1 aI bF).en (.slice x9 l9.length c212) z213,dR 4 eq_ tq c218 nO,dR 9 aI Me c222 tZ,dR 3 aF Ig H7 nN,φ 3 1 aF (.slice P8 (replicate 256 (0:Int)).length PE) (kN.set gW (-1))]) (λg=>g.2) (λg=>bC (λq:Nat×Nat=>yM nN aJ v5 d_ eF gW kN q.1 q.2) g.1=some z2/\ZOk g.2 (aC 1 aF bn) I9 jF/\ZOk g.2 (aC 1 aI bF) z213 l9/\(kN.set gW (-1)).length=(replicate 256 (0:Int)).length/\aj.le τ272 g.2) (λg=>fZ (λq:Nat×Nat=>yM nN aJ v5 d_ eF gW kN q.1 q.2) g.1) ((nN.length,0),τ272) (Θ [9,9,9,9,9,9,9,9,9] 10) z (by repeat (first|exact trivial|refine ⟨z,?_⟩)) ⟨hh,su,r_,Ut,(aj.le.refl _)⟩ (λg5 j5 hg5=> ?_)))))))))))))))
   obtain ⟨⟨vF,zI⟩,τ307⟩:=g5
   obtain ⟨hh,yR,yQ,BI,iM⟩:=hg5
   try dsimp only at yR
   try dsimp only at yQ
   try dsimp only at BI
   dsimp only at iM
   replace hr105_1:=hr105_1.mono iM
   replace hr105_2:=hr105_2.mono iM
   replace hr105_3:=hr105_3.mono iM
   replace oJ:=oJ.mono iM
   replace iW:=iW.mono iM
   replace su:=su.mono iM
   replace r_:=r_.mono iM
   try dsimp only
   obtain ⟨z3,hh,zX⟩:=iq hh
   dsimp only [yM]at hh
   have zf302b:=yR.length
   have zf303b:=yQ.length
   refine χ (i:=2) z (λ_ hb309 _=> ?_)
   refine χ (i:=4) z (λ_ hb310 _=> ?_)
   refine χ (i:=5) z (λ_ hb311 _=> ?_)
   refine χ (i:=6) z (λ_ hb312 _=> ?_)
   refine χ (i:=7) z (λ_ hb313 _=> ?_)
   refine χ (i:=8) z (λ_ hb314 _=> ?_)
   refine χ (i:=9) z (λ_ hb315 _=> ?_)
   refine θ (ξ (ψ z z (Ξ z z (ω z (lenC z bY z) (ω z (OpVal.lss z z z) (ε (TC.cD z hh (λh316 hh=> ?_) (λh316 hh=> ?_))))))))
   ·refine ι (S.n (θ (υ (ξ (Ξ z z (ψ z z (TL.isSl (i:=8) z (λhs317 _ _=> ?_))))))))
    refine ω z (bT z bY dh z z hs317 (by omega)) (ω z (nZ (0:Int) z fC z (q:=8) z bn (by omega) z) (ψ z z (ω z (OpVal.eql z z z) (ε (TC.cD z hh (λh318 hh=> ?_) (λh318 hh=> ?_))))))
    ·refine η (ψ z z (ψ z z (TL.nil (B.n (S.n (η (ψ z z (ω z (OpVal.succ z z z (by omega)) (ψ z z (ε ?_))))))))))
     obtain ⟨hh,WX⟩:=dL zX hh
     exact lf ((zI,(zI+1)),τ307) WX ⟨hh,yR,yQ,BI,iM⟩ (Θ [9,9,9,9,9,9,9,9,9,9] 10)
    refine ι (B.n (S.n (η (ψ z z (ω z (OpVal.succ z z z (by omega)) (ψ z z (ε ?_)))))))
    obtain ⟨hh,WW⟩:=dL zX hh
    exact lf ((vF,(zI+1)),τ307) WW ⟨hh,yR,yQ,BI,iM⟩ (Θ [9,9,9,9,9,9,9,9,9,9] 10)
   refine TC.exit (S.x (S.x ?_))
   replace hh:=dI zX hh
   refine Δ (S.n (θ (ξ (ψ z z (Ξ z z (ω z (lenC z bY z) (ω z (OpVal.eql z z z) (ε (TC.cD z hh (λh321 hh=> ?_) (λh321 hh=> ?_))))))))))
   ·refine η (Ξ z z (ψ z z (ν z (OpOk.lit (enc:=aF) [(nth aJ ((nth (nth v5.1.next ((nth d_ eF 0).toNat) []) gW 0).toNat) 0)] z bY dh lq z z z bn (by decide) (by decide) (0:Int) z (by decide) z (by decide) jR (λa322 c323=> ?_)))))
    refine ζ 9 z z ?_
    obtain ⟨VK,hh⟩:=aP hh
    refine ν z (as_ z z bY dh uJ lq z z (by decide) z z z (.inr ⟨_,0,z⟩) (by simpa using VK) (by decide) (λa325 c326=> ?_))
    refine Ξ z z (ε (η (Ξ z z (ψ z z (ψ z z ?_)))))
    obtain ⟨VJ,hh⟩:=aP hh
    refine TL.isSl (i:=10) z (λhs327 _ _=> ?_)
    refine ω z (bT z bY dh z z hs327 (by omega)) (ζ 10 z z ?_)
    have hn328:((kN.set gW (-1)).set gW (vF:Int)).length=(replicate 256 (0:Int)).length:=by rw [fQ];exact BI
    refine ν z (lF (vF:Int) z dh z z z z bn jR (by omega) (by omega) ?_)
    refine TL.nil (B.n (S.n (η (ψ z z (ω z (OpVal.succ z z z (by omega)) (ψ z z (ε ?_)))))))
    obtain ⟨hh,WV⟩:=dL hR2 hh
    exact lf (((nN++[(nth aJ ((nth (nth v5.1.next ((nth d_ eF 0).toNat) []) gW 0).toNat) 0)]),((kN.set gW (-1)).set gW (vF:Int)),(gW+1)),(a325,c326,τ307)) WV ⟨hh,yR,yQ,hn328,(lT.trans iM)⟩ (Θ [1,10,10,10,10,10,10,10,10] 10)
   refine ι (S.n (η (Ξ z z (ψ z z (ψ z z ?_)))))
   obtain ⟨VJ,hh⟩:=aP hh
   refine TL.isSl (i:=9) z (λhs330 _ _=> ?_)
   refine ω z (bT z bY dh z z hs330 (by omega)) (ζ 9 z z ?_)
   have hn331:((kN.set gW (-1)).set gW (vF:Int)).length=(replicate 256 (0:Int)).length:=by rw [fQ];exact BI
   refine ν z (lF (vF:Int) z dh z z z z bn jR (by omega) (by omega) ?_)
   refine TL.nil (B.n (S.n (η (ψ z z (ω z (OpVal.succ z z z (by omega)) (ψ z z (ε ?_)))))))
   obtain ⟨hh,WU⟩:=dL hR2 hh
   exact lf ((nN,((kN.set gW (-1)).set gW (vF:Int)),(gW+1)),(Ig,H7,τ307)) WU ⟨hh,yR,yQ,hn331,(lT.trans iM)⟩ (Θ [9,9,9,9,9,9,9,9,9] 10)
  refine TC.exit (S.x (S.x ?_))
  replace hh:=dI hR2 hh
  refine Δ (S.n (ξ (ω z (aU z kW z) (ω z (bg z j_ z (i:=3) z z) (Ξ z z ?_)))))
  rw [<-BJ]
  refine ζ 9 z z (TL.og bn (λτ337 pG TQ=> ?_))
  replace hr105_1:=hr105_1.mono pG
  replace hr105_2:=hr105_2.mono pG
  replace hr105_3:=hr105_3.mono pG
  replace oJ:=oJ.mono pG
  replace iW:=iW.mono pG
  replace su:=su.mono pG
  replace r_:=r_.mono pG
  have hr335b:=TQ.rv.big
  have Rh:ZOk _ (aC 1 aF bn) ([(kN,(P8,PE))]:List (ak×(aC 1 aF bn).P)) [kN]:=ZOk.cons (TQ) (ZOk.nil _ _)
  refine ν z (litZ Rh z eX fP z kY z z z (by decide) (by decide) z (by decide) z (by decide) (λa333 c334=> ?_))
  refine ζ 5 z z ?_
  obtain ⟨u151,hh⟩:=aP hh
  refine ν z (L8 (k:=(aC 1 aF bn)) su Rh z z eX fP mG kY z z (by decide) z z z (.inr ⟨_,0,z⟩) (by simpa using u151) (by decide) (λa340 c341 zf342=> ?_))
  refine ω z (aU z kW z) (ζ 5 z z (ν z (f_ z jB z z z z z ?_)))
  refine ε (θ ?_)
  obtain ⟨VI,hh⟩:=aP hh
  obtain ⟨u162,hh⟩:=aP hh
  refine TC.draw [8,9,10] (by kernel_rfl) (TA.a 0 z (aU z o_ z) z (TA.b 1 z (bg z qx z (i:=0) z z) z (TA.a 2 z (aU z o_ z) z (TA.b 3 z (bg z qx z (i:=4) z z) z (TA.a 4 z (cO (.inl z) z) z (TA.b 5 z (OpVal.index z mY nC z z hr105_1.isSl VI.1 VI.2) z ?_))))))
  obtain ⟨Bc,Gv,hg351⟩:=RZ.seg hr105_1 ((nth d_ eF 0).toNat) (by omega)
  replace Gv:dH _ aI Bc.1 Bc.2 (nth v5.1.outs ((nth d_ eF 0).toNat) []):=Gv
  have hk351b:=Gv.rv.big
  refine TA.b 6 z (OpVal.of (lZ z mJ z hg351 z) (v':= .slice Bc.1 ((nth v5.1.outs ((nth d_ eF 0).toNat) []).length) Bc.2) z) z ?_
  have Rf:ZOk _ (aC 1 aI bF) ([((nth v5.1.outs ((nth d_ eF 0).toNat) []),(Bc.1,Bc.2))]:List (aB×(aC 1 aI bF).P)) [(nth v5.1.outs ((nth d_ eF 0).toNat) [])]:=ZOk.cons (Gv) (ZOk.nil _ _)
  refine TA.ac 7 z (litZ Rf z mY nC z Hg z z z (by decide) (by decide) z (by decide) z (by decide) (λa352 c353=>(k1 ?_)))
  refine TA.front 7 z z (TA.last 8 (by kernel_rfl) z z z (L8 (k:=(aC 1 aI bF)) r_ Rf z z mY nC RJ Hg z z (by decide) z z z (.inr ⟨_,0,z⟩) (by simpa using u162) (by decide) (λa356 c357 zf358=> ?_)))
  refine TZ.v 9 (by kernel_rfl) z z z (aU z o_ z) z z (TZ.front 2 z z (TZ.last 10 (by kernel_rfl) z z z (f_ z RN z z z z z ?_)))
  refine TZ.done (by kernel_rfl) (S.n (θ ?_))
  obtain ⟨u170,hh⟩:=aP hh
  obtain ⟨VH,hh⟩:=aP hh
  refine TC.draw [8,9,10] (by kernel_rfl) (TA.a 0 z (aU z uF z) z (TA.b 1 z (bg z rX z (i:=0) z z) z (TA.a 2 z (aU z uF z) z (TA.b 3 z (bg z rX z (i:=6) z z) z (TA.a 4 z (cO (.inl z) z) z (TA.b 5 z (OpVal.index z g_ gV z z hr105_2.rv.sl u170.1 u170.2) z (TA.b 6 z (fD false z nX z hr105_2 (by omega) z) z (TA.ac 7 z (OpOk.lit (enc:=eq_) [(nth v5.1.fin ((nth d_ eF 0).toNat) false)] z g_ gV Ap z z z iQ (by decide) (by decide) false z (by decide) z (by decide) qQ (λa364 c365=>(k1 ?_)))))))))))
  refine TA.front 9 z z (TA.last 8 (by kernel_rfl) z z z (as_ z z g_ gV GV Ap z z (by decide) z z z (.inr ⟨_,0,z⟩) (by simpa using VH) (by decide) (λa367 c368=> ?_)))
  refine TZ.v 9 (by kernel_rfl) z z z (aU z uF z) z z (TZ.front 2 z z (TZ.last 10 (by kernel_rfl) z z z (f_ z Jh z z z z z ?_)))
  refine TZ.done (by kernel_rfl) (S.n ?_)
  obtain ⟨u181,hh⟩:=aP hh
  obtain ⟨u184,hh⟩:=aP hh
  refine TC.draw [8,9,10] (by kernel_rfl) (TA.a 0 z (aU z uX z) z (TA.b 1 z (bg z mJ z (i:=0) z z) z (TA.a 2 z (aU z uX z) z (TA.b 3 z (bg z mJ z (i:=8) z z) z (TA.a 4 z (cO (.inl z) z) z (TA.b 5 z (OpVal.index z fF fK z z hr105_3.rv.sl u181.1 u181.2) z (TA.b 6 z (fD ([]:T_1) z iK z hr105_3 (by omega) z) z (TA.ac 7 z (OpOk.lit (enc:=aI) [(nth v5.1.tail ((nth d_ eF 0).toNat) [])] z fF fK sG z z z bF (by decide) (by decide) ([]:T_1) z (by decide) z (by decide) qX (λa374 c375=>(k1 ?_)))))))))))
  refine TA.front 11 z z (TA.last 8 (by kernel_rfl) z z z (as_ z z fF fK zo sG z z (by decide) z z z (.inr ⟨_,0,z⟩) (by simpa using u184) (by decide) (λa377 c378=> ?_)))
  refine TZ.v 9 (by kernel_rfl) z z z (aU z uX z) z z (TZ.front 2 z z (TZ.last 10 (by kernel_rfl) z z z (f_ z nC z z z z z ?_)))
  refine TZ.done (by kernel_rfl) (B.n (S.n (η (ψ z z (ω z (OpVal.succ z z z (by omega)) (ψ z z (ε ?_)))))))
  obtain ⟨hh,WR⟩:=dL hR1 hh
  exact lf (((jF++[kN]),(l9++[(nth v5.1.outs ((nth d_ eF 0).toNat) [])]),(nO++[(nth v5.1.fin ((nth d_ eF 0).toNat) false)]),(tZ++[(nth v5.1.tail ((nth d_ eF 0).toNat) [])]),nN,(eF+1)),(a340,c341,(I9++([(kN,(P8,PE))]:List (ak×(aC 1 aF bn).P))),a356,c357,(z213++([((nth v5.1.outs ((nth d_ eF 0).toNat) []),(Bc.1,Bc.2))]:List (aB×(aC 1 aI bF).P))),a367,c368,a377,c378,Ig,H7,τ337)) WR ⟨hh,zf342,zf358,((rC.trans lT).trans pG)⟩ (Θ [12,2,4,6,8,5,12,12,12] 9)
 refine TC.exit (S.x (S.x ?_))
 replace hh:=dI hR1 hh
 refine Δ (S.n (ξ (ω z (lG z jw fB z (i:=3) z z) (ν z (storeAll z fB z z z z z z ?_)))))
 refine ψ z z (ε (TC.front 4 z z (TC.LV oJ (λτ382 X9 uQ=> ?_))))
 replace iW:=iW.mono X9
 have hr380b:=uQ.big
 refine TC.front 4 z z (TC.LV iW (λτ385 X8 yY=> ?_))
 replace uQ:=uQ.mono X8
 have hr383b:=yY.big
 refine TC.front 4 z z (TC.og iQ (λτ388 KG FC=> ?_))
 replace uQ:=uQ.mono KG
 replace yY:=yY.mono KG
 have hr386b:=FC.rv.big
 refine TC.front 4 z z (TC.og bF (λτ391 Eh TP=> ?_))
 replace uQ:=uQ.mono Eh
 replace yY:=yY.mono Eh
 replace FC:=FC.mono Eh
 have hr389b:=TP.rv.big
 refine TC.rt 1 ?_
 obtain rfl:=so hh
 exact ro [] z (RVs.agg jw fB z (i:=0) z z (RVs.tmp z RVs.nil)) ⟨yI,c206,x9,c212,tq,c218,Me,c222,z,uQ,yY,FC,TP,z⟩
end Go.Proofs.YtchebnpdnfhenaaGreatDoor
end

noncomputable section
namespace Go.Proofs.YtchebnpdnfhenaaGreatDoor
open Go Go.E
structure PaI (q:Seq) (l0:aB) (m0:B_1) (j:Nat) (l:aB) (m:B_1) (t:Bool):Prop where
  b:FrB q l m
  no:t=false->l=l0/\m=m0/\ ∀s,s<j->MV q l m s
  yes:t=true->jg (yX l m) q.next.length<jg (yX l0 m0) q.next.length
theorem wt_{q:Seq}(l:aB)(m:B_1)(s k:Nat):(vI q l m s k).length<=k+1:=by
  induction k with
  |zero=>unfold vI;rw [fU];split<;>simp
  |succ k ih=>
    rw [lf_,fU]
    unfold G8
    split
    · rw [jZ];omega
    rw [List.length_nil];omega
theorem ws_ {q : Seq} (hq : eH q = true) {l0 : aB} {m0 : B_1} {l : aB} {m : B_1} {t : Bool} {j : Nat} (hj : j < q.next.length) (h : PaI q l0 m0 j l m t) :
    ∃l' m' t',Bj_ q j m l t (vI q l m j 0)=some (.inl (l',m',t',j+1))/\PaI q l0 m0 (j+1) l' m' t':=by
  obtain ⟨q1,q2,q3,q4,q5⟩:=ni hq
  obtain ⟨r1,r2⟩:=vM hq hj
  have hl:=h.b.fr.ln
  have hm:=h.b.fr.mn
  have hle:=h.b.le hq
  unfold Bj_
  refine Exists.elim (kM (step:=λz:aB×Nat=>QW q j m l t z.1 z.2) (λz k=>(z,k)) 256 (λk z=>z=vI q l m j k) (λr=> ∃l' m' t',r= .inl (l',m',t',j+1)/\PaI q l0 m0 (j+1) l' m' t') ?_ ?_ (s0:=vI q l m j 0) rfl) (λr lX=> ?_)
  · rintro k _ hk rfl
    left
    have hlt:=oC hq hj hk
    have hol:=O8 hq hj hk
    have hcn:=wt_ (q:=q) l m j k
    show ∃s',QW q j m l t _ k=some (.inl (s',k+1))/\_
    refine ⟨_,?_,rfl⟩
    unfold QW
    have e1:nth (nth q.next j []) k 0=nxQ q j k:=rfl
    have e2:nth (nth q.outs j []) k []=otQ q j k:=rfl
    rw [bV (by omega),aH (by omega),lf_]
    unfold G8
    simp only [e1,e2]
    by_cases c:0<=nxQ q j k
    · rw [bV c,aH (show 0<=nxQ q j k/\nxQ q j k<(m.length:Int) by omega)]
      cases d:nth m (nxQ q j k).toNat false with
      |false=>rw [iteO_false,if_neg (λe=>by simp at e),List.append_nil];rfl
      |true=>
        have hlz:=hle _ (show (nxQ q j k).toNat<_ by omega) d
        rw [iteO_true,if_pos ⟨c,rfl⟩,aH (by omega),aH (by omega),aH (show 0<=nxQ q j k/\nxQ q j k<(l.length:Int) by omega),aH (show (otQ q j k).length+(nth l (nxQ q j k).toNat []).length<=_ by omega),aH (by simp only [jZ];omega)];rfl
    rw [bQ c,if_neg (λe=>c e.1),List.append_nil];rfl
  · rintro _ rfl
    have hlen:=kb_ hq hj hle (k:=256) (Nat.le_refl _)
    have hall:vI q l m j 256=jT q l m j:=rfl
    rw [hall]at hlen ⊢
    have hmono: ∀s,s<j+1->MV q l m j->(∀s,s<j->MV q l m s)->MV q l m s:=λs hs h1 h2=>by
      by_cases c:s=j
      · rw [c];exact h1
      exact h2 s (by omega)
    have keep:MV q l m j->PaI q l0 m0 (j+1) l m t:=λhd=>⟨h.b,λht=>⟨(h.no ht).1,(h.no ht).2.1,λs hs=>hmono s hs hd (h.no ht).2.2⟩,h.yes⟩
    have step:jT q l m j≠[]->(nth m j false=true->iZ (jT q l m j)≠nth l j [])->PaI q l0 m0 (j+1) (l.set j (iZ (jT q l m j))) (m.set j true) true:=λhn hc=>by
      refine ⟨h.b.put hq hj hn,λht=>(by cases ht),λ_=> ?_⟩
      have h1:=h.b.mea hq hj hc
      cases t with
      |true=>have:=h.yes rfl;omega
      |false=>
        obtain ⟨e1,e2,_⟩:=h.no rfl
        rw [<-e1,<-e2];exact h1
    show ∃r,QW q j m l t (jT q l m j) 256=some (.inr r)/\_
    unfold QW
    rw [bQ (by omega)]
    by_cases c:jT q l m j=[]
    · rw [bV (by rw [c];rfl)]
      refine ⟨_,rfl,l,m,t,rfl,keep ⟨λhmj=> ?_,λ_=>c⟩⟩
      exact absurd c (h.b.dn j hj hmj).1
    rw [bQ (λe=>c (oU (by omega))),rLcp_eq (λx hx=>by have:=hlen x hx;omega),gJ,aH (by omega)]
    cases d:nth m j false with
    |false=>
      rw [zi,aH (by omega),aH (by omega)]
      exact ⟨_,rfl,_,_,_,rfl,step c λe=>(by rw [d]at e;cases e)⟩
    |true=>
      rw [vJ,aH (by omega)]
      by_cases e:iZ (jT q l m j)=nth l j []
      · rw [bQ (λf=>f e)]
        exact ⟨_,rfl,l,m,t,rfl,keep ⟨λ_=>e.symm,λf=>(by rw [d]at f;cases f)⟩⟩
      rw [bV e,aH (by omega),aH (by omega)]
      exact ⟨_,rfl,_,_,_,rfl,step c λ_=>e⟩
  obtain ⟨h1,l',m',t',rfl,h2⟩:=lX
  exact ⟨l',m',t',h1,h2⟩
theorem pj_ {q : Seq} (hq : eH q = true) : ∃ l m, QZ q = some (l, m, 0) /\ FrOk q l m := by
  obtain ⟨q1,q2,q3,q4,q5⟩:=ni hq
  unfold QZ
  rw [kt_,gJ,hq,vJ,aH (by omega),aH (by omega)]
  have hmf: ∀s,nth (List.replicate q.next.length false) s false=false:=λs=>AB _ _ _
  refine Exists.elim (Pj (step:=λz:aB×B_1×Bool=>Vq q z.1 z.2.1 z.2.2) (λz=>FrB q z.1 z.2.1/\(z.2.2=false-> ∀s,s<q.next.length->MV q z.1 z.2.1 s)) (λz=>jg (yX z.1 z.2.1) q.next.length+if z.2.2=true then 1 else 0) (λr=> ∃l m,r=(l,m,0)/\FrOk q l m) ?_
    (t:=(List.replicate q.next.length [],List.replicate q.next.length false,true)) ⟨⟨⟨by simp,by simp,λs _ _=>AB _ _ _,λs _ k=>(by rw [hmf]at k;cases k),λs _ k=>(by rw [hmf]at k;cases k)⟩,λs _ k=>(by rw [hmf]at k;cases k),λs _ k=>(by rw [hmf]at k;cases k)⟩,λe=>(by cases e)⟩) (λr lX=> ?_)
  · rintro ⟨l,m,t⟩ ⟨hI,hD⟩
    simp only at hI hD
    show (∃t',Vq q l m t=some (.inl t')/\_/\_)\/ ∃r,Vq q l m t=some (.inr r)/\_
    unfold Vq
    cases t with
    |false=>
      right
      rw [iteO_false]
      exact ⟨_,rfl,l,m,rfl,hI.fr.ok hq (hI.le hq) (hD rfl)⟩
    |true=>
      left
      rw [iteO_true]
      refine Exists.elim (kM (step:=λz:aB×B_1×Bool×Nat=>QX q z.1 z.2.1 z.2.2.1 z.2.2.2) (λ(z:aB×B_1×Bool) j=>(z.1,z.2.1,z.2.2,j)) q.next.length (λj z=>PaI q l m j z.1 z.2.1 z.2.2) (λr=> ∃l' m' t',r= .inl (l',m',t')/\PaI q l m q.next.length l' m' t') ?_ ?_ (s0:=(l,m,false)) ⟨hI,λ_=>⟨rfl,rfl,λs hs=>by omega⟩,λe=>(by cases e)⟩) (λr lX=> ?_)
      · rintro j ⟨l1,m1,t1⟩ hj hP
        simp only at hP
        left
        show ∃s':aB×B_1×Bool,QX q l1 m1 t1 j=some (.inl (s'.1,s'.2.1,s'.2.2,j+1))/\_
        unfold QX
        rw [bV (by omega),aH (by omega)]
        obtain ⟨l2,m2,t2,k1,k2⟩:=ws_ hq hj hP
        refine ⟨(l2,m2,t2),?_,k2⟩
        rw [<-k1]
        unfold vI
        cases nth q.fin j false with
        |true=>rw [iteO_true,aH (by omega),aH (by simp),if_pos rfl];rfl
        |false=>rw [iteO_false,if_neg (by decide)];rfl
      · rintro ⟨l1,m1,t1⟩ hP
        refine ⟨.inl (l1,m1,t1),?_,l1,m1,t1,rfl,hP⟩
        show QX q l1 m1 t1 q.next.length=_
        unfold QX
        rw [bQ (by omega)];rfl
      obtain ⟨h1,l',m',t',rfl,h2⟩:=lX
      refine ⟨_,h1,⟨h2.b,λe=>(h2.no e).2.2⟩,?_⟩
      show jg (yX l' m') _+(if t'=true then 1 else 0)<jg (yX l m) _+1
      cases t' with
      |false=>
        obtain ⟨e1,e2,_⟩:=h2.no rfl
        rw [e1,e2];exact Nat.lt_succ_self _
      |true=>have:=h2.yes rfl;rw [if_pos rfl];omega
  obtain ⟨h1,l,m,rfl,h2⟩:=lX
  exact ⟨l,m,h1,h2⟩
structure RcI (q:Seq) (v:B_1) (w:ak) (i:Nat):Prop where
  len:v.length=q.next.length
  hd:0<w.length/\nth w 0 0=0
  le:i<=w.length
  rng: ∀j,j<w.length->0<=nth w j 0/\nth w j 0<(q.next.length:Int)/\RchQ q (nth w j 0).toNat
  done: ∀j,j<i->nth v (nth w j 0).toNat false=true
  rch: ∀s,s<q.next.length->nth v s false=true->RchQ q s
  cl: ∀s,s<q.next.length->nth v s false=true-> ∀b,b<256->0<=nxQ q s b-> ∃j,j<w.length/\nth w j 0=nxQ q s b
  mu:w.length+256 * jg (unM v) q.next.length<=1+256 * q.next.length
theorem tc_ {q : Seq} (hq : eH q = true) (h0 : 0 < q.next.length) : ∃ v, Ci_ q = some v /\ RchOk q v := by
  have hn1:=(ni hq).1
  unfold Ci_
  rw [aH (by omega)]
  refine Pj (step:=λz:B_1×ak×Nat=>Vr q z.1 z.2.1 z.2.2) (λz=>RcI q z.1 z.2.1 z.2.2) (λz=>257 * jg (unM z.1) q.next.length+z.2.1.length - z.2.2) (λr=>RchOk q r) ?_ ?_
  · rintro ⟨v,w,i⟩ hI
    simp only at hI
    have hl:=hI.len
    have hmu:=hI.mu
    show (∃t',Vr q v w i=some (.inl t')/\_/\_)\/ ∃r,Vr q v w i=some (.inr r)/\_
    unfold Vr
    by_cases c:i<w.length
    rotate_left
    · right
      rw [bQ (by omega)]
      refine ⟨_,rfl,tq_ hq hl h0 ?_ hI.rch λs hs h b hb hb0=> ?_⟩
      · have:=hI.done 0 (by have:=hI.hd.1;omega)
        rw [hI.hd.2]at this;exact this
      obtain ⟨j,j1,j2⟩:=hI.cl s hs h b hb hb0
      rw [<-j2];exact hI.done j (by omega)
    left
    obtain ⟨g1,g2,g3⟩:=hI.rng i c
    obtain ⟨s,hs'⟩: ∃s:Nat,nth w i 0=((s:Nat):Int):=⟨(nth w i 0).toNat,by omega⟩
    rw [hs',iT]at g3
    have hs:s<q.next.length:=by omega
    obtain ⟨r1,r2⟩:=vM hq hs
    rw [bV (by omega),hs',aH (by omega),iT]
    cases d:nth v s false with
    |true=>
      rw [iteO_true]
      refine ⟨_,rfl,⟨hl,hI.hd,by show i+1<=w.length;omega,hI.rng,λj hj=> ?_,hI.rch,hI.cl,hmu⟩,?_⟩
      · have hj:j<i+1:=hj
        by_cases e:j<i
        · exact hI.done j e
        have:j=i:=by omega
        subst this;show nth v (nth w j 0).toNat false=true;rw [hs',iT];exact d
      show 257 * jg (unM v) q.next.length+w.length - (i+1)<257 * jg (unM v) q.next.length+w.length - i
      omega
    | false =>
      rw [iteO_false,aH (by omega)]
      have hset:=sj_ hs hl d
      refine Exists.elim (kM (step:=λz:ak×Nat=>QY w i q v z.1 z.2) (λz k=>(z,k)) 256 (λk z=> ∃X,z=w++X/\X.length<=k/\(∀x∈X, ∃b,b<k/\0<=x/\x=nxQ q s b)/\ ∀b,b<k->0<=nxQ q s b->nxQ q s b∈X)
        (λr=> ∃w',r= .inl (v.set s true,w',i+1)/\ ∃X,w'=w++X/\X.length<=256/\(∀x∈X, ∃b,b<256/\0<=x/\x=nxQ q s b)/\ ∀b,b<256->0<=nxQ q s b->nxQ q s b∈X) ?_ ?_ (s0:=w) ⟨[],by simp,Nat.le_refl _,by simp,λb hb=>by omega⟩) (λr lX=> ?_)
      · rintro k _ hk ⟨X,rfl,x1,x2,x3⟩
        left
        show ∃s',QY w i q v (w++X) k=some (.inl (s',k+1))/\_
        unfold QY
        have e1:nth (nth q.next s []) k 0=nxQ q s k:=rfl
        rw [bV (by omega),hs',aH (by omega),iT,aH (by omega)]
        simp only [e1]
        by_cases e:0<=nxQ q s k
        · rw [bV e,aH (by omega),aH (by omega),aH (by simp only [fU,jZ];omega)]
          refine ⟨_,rfl,X++[nxQ q s k],by rw [qA],by rw [fU,jZ];omega,λx hx=> ?_,λb hb hb0=> ?_⟩
          · rcases List.mem_append.1 hx with hx|hx
            · obtain ⟨b,b1,b2,b3⟩:=x2 x hx
              exact ⟨b,by omega,b2,b3⟩
            rw [yB]at hx
            exact ⟨k,by omega,by rw [hx];exact e,hx⟩
          by_cases f:b<k
          · exact List.mem_append_left _ (x3 b f hb0)
          have:b=k:=by omega
          subst this
          exact List.mem_append_right _ (List.mem_singleton.2 rfl)
        rw [bQ e]
        refine ⟨_,rfl,X,rfl,by omega,λx hx=> ?_,λb hb hb0=> ?_⟩
        · obtain ⟨b,b1,b2,b3⟩:=x2 x hx
          exact ⟨b,by omega,b2,b3⟩
        by_cases f:b<k
        · exact x3 b f hb0
        have:b=k:=by omega
        subst this;exact absurd hb0 e
      · rintro _ ⟨X,rfl,x1,x2,x3⟩
        refine ⟨.inl (v.set s true,w++X,i+1),?_,_,rfl,X,rfl,x1,x2,x3⟩
        show QY w i q v (w++X) 256=_
        unfold QY
        rw [bQ (by omega),hs',iT];rfl
      obtain ⟨h1,w',rfl,h2⟩:=lX
      refine ⟨_,h1,?_,?_⟩
      · obtain ⟨X,rfl,x1,x2,x3⟩:=h2
        have hold: ∀j,j<w.length->nth (w++X) j 0=nth w j 0:=λj hj=>GU hj _
        refine ⟨by show (v.set s true).length=_;rw [fQ];exact hl,⟨by have:=hI.hd.1;rw [fU];omega,by rw [hold 0 hI.hd.1];exact hI.hd.2⟩,by show i+1<=(w++X).length;rw [fU];omega,λj hj=> ?_,λj hj=> ?_,λt ht h=> ?_,λt ht h b hb hb0=> ?_,?_⟩
        · show 0<=nth (w++X) j 0/\nth (w++X) j 0<_/\RchQ q (nth (w++X) j 0).toNat
          by_cases e:j<w.length
          · rw [hold j e];exact hI.rng j e
          have hm:=vU (0:Int) hj
          rw [Tf _ hj,List.getElem_append_right (by omega)]at *
          obtain ⟨b,b1,b2,b3⟩:=x2 _ (List.getElem_mem (l:=X) (n:=j - w.length) (by have:j<(w++X).length:=hj;rw [fU]at this;omega))
          have:=oC hq hs b1
          exact ⟨b2,by rw [b3];exact this,by rw [b3];exact g3.step b1 (by omega)⟩
        · have hj:j<i+1:=hj
          show nth (v.set s true) (nth (w++X) j 0).toNat false=true
          rw [hold j (by omega),jP]
          split
          · rfl
          rename_i e
          by_cases f:j<i
          · exact hI.done j f
          have:j=i:=by omega
          subst this
          rw [hs',iT]at e
          exact absurd ⟨rfl,by omega⟩ e
        · have h:nth (v.set s true) t false=true:=h
          rw [jP]at h
          by_cases e:s=t
          · rw [<-e];exact g3
          rw [if_neg (λf=>e f.1)]at h;exact hI.rch t ht h
        · have h:nth (v.set s true) t false=true:=h
          rw [jP]at h
          by_cases e:s=t
          · subst e
            obtain ⟨j,hj,e2⟩:=List.getElem_of_mem (List.mem_append_right w (x3 b hb hb0))
            exact ⟨j,hj,by rw [Tf _ hj];exact e2⟩
          rw [if_neg (λf=>e f.1)]at h
          obtain ⟨j,j1,j2⟩:=hI.cl t ht h b hb hb0
          exact ⟨j,by show j<(w++X).length;rw [fU];omega,by show nth (w++X) j 0=_;rw [hold j j1];exact j2⟩
        show (w++X).length+256 * jg (unM (v.set s true)) _<=_
        rw [fU];omega
      obtain ⟨X,rfl,x1,_,_⟩:=h2
      show 257 * jg (unM (v.set s true)) _+(w++X).length - (i+1)<257 * jg (unM v) _+w.length - i
      rw [fU];omega
  have hmf: ∀s,nth (List.replicate q.next.length false) s false=false:=λs=>AB _ _ _
  have hu:=wh_ (List.replicate q.next.length false) q.next.length
  refine ⟨by simp,⟨by simp,rfl⟩,Nat.zero_le _,λj hj=> ?_,λj hj=>absurd hj (Nat.not_lt_zero _),λs _ h=>(by rw [hmf]at h;cases h),λs _ h=>(by rw [hmf]at h;cases h),?_⟩
  · have hj:j<1:=hj
    have:j=0:=by omega
    subst this
    exact ⟨Int.le_refl _,by show (0:Int)<_;omega,.zero⟩
  show ([0]:ak).length+256 * jg (unM (List.replicate q.next.length false)) _<=_
  rw [jZ];omega
structure RtI (q:Seq) (l:aB) (k:Nat->Bool) (s j:Nat) (N:ak) (O:aB):Prop where
  n:N.length=256
  o:O.length=256
  nx: ∀b,b<j->nth N b 0=nxP q k s b
  ot: ∀b,b<j->nth O b []=otP q l k s b
  rest: ∀b,j<=b->nth O b []=[]
theorem RtI.none{q:Seq}{l:aB}{k:Nat->Bool}{s j:Nat}{N:ak}{O:aB}(h:RtI q l k s j N O)(hj:j<256)(h1:nxP q k s j= -1)(h2:otP q l k s j=[]):RtI q l k s (j+1) (N.set j (-1)) O:=by
  refine ⟨by rw [fQ];exact h.n,h.o,Gp_ 0 h.n hj h.nx h1.symm,λb hb=> ?_,λb hb=>h.rest b (by omega)⟩
  by_cases c:b<j
  · exact h.ot b c
  have:b=j:=by omega
  subst this;rw [h2];exact h.rest b (Nat.le_refl _)
theorem RtI.some{q:Seq}{l:aB}{k:Nat->Bool}{s j:Nat}{N:ak}{O:aB}(h:RtI q l k s j N O)(hj:j<256){z:Int}{o:T_1}(h1:nxP q k s j=z)(h2:otP q l k s j=o):RtI q l k s (j+1) ((N.set j (-1)).set j z) (O.set j o):=by
  have h3:=h.n
  have h4:=h.o
  refine ⟨by simp [h3],by simp [h4],λb hb=> ?_,Gp_ [] h4 hj h.ot h2.symm,λb hb=> ?_⟩
  · rw [jP,jP]
    by_cases c:j=b
    · subst c;rw [if_pos ⟨rfl,by simp;omega⟩,h1]
    rw [if_neg (λe=>c e.1),if_neg (λe=>c e.1)];exact h.nx b (by omega)
  rw [jP,if_neg (λe=>by omega)];exact h.rest b (by omega)
theorem vs_ {q : Seq} (hq : eH q = true) {l : aB} {m : B_1} (h : FrOk q l m) {k : Nat -> Bool} (hk : V3 q m k) {P : ak} (hP : s0_ q.next.length k P) {v : B_1} (hv : v.length = q.next.length) (v5 : aB × B_1 × Int) (e5 : v5 = (l, m, 0)) :
    bC (λz:bW×fJ×B_1×aB×Nat=>NH v P v5 q z.1 z.2.1 z.2.2.1 z.2.2.2.1 z.2.2.2.2) (([]:bW),([]:fJ),([]:B_1),([]:aB),0)=some (zL q l k):=by
  subst e5
  obtain ⟨q1,q2,q3,q4,q5⟩:=ni hq
  have hll:=h.ln
  have hml:=h.mn
  have hPl:=hP.1
  refine Exists.elim (kM (step:=λz:bW×fJ×B_1×aB×Nat=>NH v P (l,m,0) q z.1 z.2.1 z.2.2.1 z.2.2.2.1 z.2.2.2.2) (λ(z:bW×fJ×B_1×aB) j=>(z.1,z.2.1,z.2.2.1,z.2.2.2,j)) q.next.length (λj z=>z=(kR k j (nxR q k),kR k j (otR q l k),kR k j (λs=>nth q.fin s false),kR k j (tlP q l))) (λr=>r=zL q l k) ?_ ?_ (s0:=([],[],[],[])) rfl) (λr lX=> ?_)
  · rintro j ⟨N,O,F,T⟩ hj hI
    cases hI
    obtain ⟨r1,r2⟩:=vM hq hj
    have hls:=h.le j hj
    have g1:=SV k j (nxR q k)
    have g2:=SV k j (otR q l k)
    have g3:=SV k j (λs=>nth q.fin s false)
    have g4:=SV k j (tlP q l)
    left
    show ∃s':bW×fJ×B_1×aB,NH v P (l,m,0) q _ _ _ _ j=some (.inl (s'.1,s'.2.1,s'.2.2.1,s'.2.2.2,j+1))/\_
    unfold NH
    rw [bV (by omega),aH (by omega)]
    have hPj:=hP.2 j hj
    by_cases c:k j=true
    · rw [if_pos c]at hPj
      rw [bQ (by omega),aH (by show j<l.length;omega)]
      refine ⟨(kR k (j+1) (nxR q k),kR k (j+1) (otR q l k),kR k (j+1) (λs=>nth q.fin s false),kR k (j+1) (tlP q l)),?_,rfl⟩
      have hj3: ∀T':T_1,T'=tlP q l j->ZB (kR k j (nxR q k)) (nxR q k j) (kR k j (otR q l k)) (otR q l k j) j q (kR k j (λs=>nth q.fin s false)) (kR k j (tlP q l)) T'=some (.inl (kR k (j+1) (nxR q k),kR k (j+1) (otR q l k),kR k (j+1) (λs=>nth q.fin s false),kR k (j+1) (tlP q l),j+1)):=by
        rintro _ rfl
        unfold ZB
        rw [aH (by simp only [jZ];omega),aH (by simp only [jZ];omega),aH (by omega),aH (by simp only [jZ];omega),aH (by simp only [jZ];omega),SS c,SS c,SS c (λs=>nth q.fin s false),SS c (tlP q l)];rfl
      refine Exists.elim (kM (step:=λz:ak×aB×Nat=>QS j q P (l,m,0) (kR k j (nxR q k)) (kR k j (otR q l k)) (kR k j (λs=>nth q.fin s false)) (kR k j (tlP q l)) z.1 z.2.1 z.2.2) (λ(z:ak×aB) i=>(z.1,z.2,i)) 256 (λi z=>RtI q l k j i z.1 z.2) (λr=>r= .inl (kR k (j+1) (nxR q k),kR k (j+1) (otR q l k),kR k (j+1) (λs=>nth q.fin s false),kR k (j+1) (tlP q l),j+1)) ?_ ?_ (s0:=(List.replicate 256 0,List.replicate 256 [])) ⟨by simp,by simp,λb hb=>by omega,λb hb=>by omega,λb _=>AB _ _ _⟩) (λr lX=> ?_)
      · rintro i ⟨N,O⟩ hi hI
        simp only at hI
        have hNl:=hI.n
        have hOl:=hI.o
        have hlt:=oC hq hj hi
        have hol:=O8 hq hj hi
        left
        show ∃s':ak×aB,QS j q P (l,m,0) _ _ _ _ N O i=some (.inl (s'.1,s'.2,i+1))/\_
        unfold QS
        have e1:nth (nth q.next j []) i 0=nxQ q j i:=rfl
        have e2:nth (nth q.outs j []) i []=otQ q j i:=rfl
        rw [bV (by omega),aH (by omega),aH (by omega),aH (by omega)]
        simp only [e1,e2]
        by_cases e:nxQ q j i<0
        · rw [bQ (by omega)]
          exact ⟨(_,_),rfl,hI.none hi (by unfold nxP;rw [if_pos e]) (by unfold otP;rw [if_pos e])⟩
        have hz:(nxQ q j i).toNat<q.next.length:=by omega
        have hlz:=h.le _ hz
        have hg:0<=nxQ q j i/\nxQ q j i<(P.length:Int):=by omega
        have hg2:0<=nxQ q j i/\nxQ q j i<(l.length:Int):=by omega
        have hPz:=hP.2 _ hz
        rw [bV (by omega),aH hg]
        by_cases d:k (nxQ q j i).toNat=true
        · rw [if_pos d]at hPz
          have hfv:=(nt_ hq h hj hi (by omega) ((hk _ hz).1 d).2).length_le
          have ho:otP q l k j i=(otQ q j i++nth l (nxQ q j i).toNat []).drop (nth l j []).length:=by unfold otP;rw [if_neg e,if_pos d]
          rw [bV (by omega),aH hg,aH (by simp;omega),aH (by omega),aH (by omega),aH hg2,aH (by show (otQ q j i).length+(nth l (nxQ q j i).toNat []).length<=_;omega),aH (by show (nth l j []).length<=(otQ q j i++nth l (nxQ q j i).toNat []).length/\_;exact ⟨hfv,Nat.le_refl _⟩),aH (by omega)]
          refine ⟨(_,_),rfl,hI.some hi ?_ ho⟩
          unfold nxP;rw [if_neg e,if_pos d];exact hPz.symm
        rw [if_neg d]at hPz
        rw [bQ (by omega)]
        exact ⟨(_,_),rfl,hI.none hi (by unfold nxP;rw [if_neg e,if_neg d]) (by unfold otP;rw [if_neg e,if_neg d])⟩
      · rintro ⟨N,O⟩ hI
        simp only at hI
        have e1:N=nxR q k j:=kk_ 0 hI.n hI.nx
        have e2:O=otR q l k j:=kk_ [] hI.o hI.ot
        subst e1 e2
        refine ⟨_,?_,rfl⟩
        show QS j q P (l,m,0) _ _ _ _ _ _ 256=_
        unfold QS
        rw [bQ (by omega),aH (by omega)]
        cases hf:nth q.fin j false with
        |true=>
          have hcom:=(h.com j hj [] (nth q.tail j []) (by rw [cu,if_pos hf])).length_le
          rw [iteO_true,aH (by omega),aH (by show (nth l j []).length<=_/\_;omega)]
          show fin (ZB _ _ _ _ _ _ _ _ ((nth q.tail j []).drop (nth l j []).length))=_
          rw [hj3 _ (by unfold tlP;rw [if_pos hf])];rfl
        |false=>
          rw [iteO_false,hj3 _ (by unfold tlP;rw [if_neg (by rw [hf];decide)])];rfl
      obtain ⟨t1,rfl⟩:=lX
      exact t1
    rw [if_neg c]at hPj
    rw [bV (by omega)]
    exact ⟨(_,_,_,_),rfl,by rw [Sj c,Sj c,Sj c,Sj c (tlP q l)]⟩
  · rintro ⟨N,O,F,T⟩ hI
    cases hI
    refine ⟨_,?_,rfl⟩
    show NH v P (l,m,0) q _ _ _ _ q.next.length=_
    unfold NH
    rw [bQ (by omega)]
    change fin (bnd (Zz (o9 q l k)) λNV=>aQ (!NV) (some (Seq.zero,2)) (some (o9 q l k,0)))=_
    rw [kt_,gJ]
    unfold zL
    cases c:eH (o9 q l k)with
    |true=>rw [vJ,if_pos rfl];rfl
    |false=>rw [zi,if_neg (by decide)];rfl
  obtain ⟨h1,rfl⟩:=lX
  exact h1
theorem zl_ (q : Seq) : ∃ r, Vo q = some r /\ PushR q r := by
  unfold Vo
  by_cases hq:eH q=true
  rotate_left
  · unfold QZ
    rw [kt_,gJ,Bool.eq_false_iff.2 hq,zi,gJ,bV (by decide)]
    exact ⟨_,rfl,.wrong hq⟩
  obtain ⟨q1,q2,q3,q4,q5⟩:=ni hq
  obtain ⟨l,m,f1,f2⟩:=pj_ hq
  have hll:=f2.ln
  have hml:=f2.mn
  rw [f1,gJ,bQ (show ¬ (0:Int)≠0 by decide)]
  by_cases c0:q.next.length=0
  · rw [bV (by show ((m.length:Nat):Int)=0;omega)]
    exact ⟨_,rfl,.none hq (.inl c0)⟩
  have h0:0<q.next.length:=by omega
  rw [bQ (by show ¬ ((m.length:Nat):Int)=0;omega),aH (by show 0<m.length;omega)]
  cases hm:nth m 0 false with
  |false=>
    rw [zi]
    exact ⟨_,rfl,.none hq (.inr λh=>by have:=(f2.live 0 h0).2 h;rw [hm]at this;cases this)⟩
  |true=>
    rw [vJ]
    obtain ⟨v,v1,v2⟩:=tc_ hq h0
    have hvl:=v2.len
    have hls:=f2.le 0 h0
    rw [v1,gJ,aH (by omega)]
    refine ⟨zL q l (oQ v m),?_,.made l m v hq h0 ((f2.live 0 h0).1 hm) f2 v2⟩
    have hk:=m4_ (m:=m) v2
    refine Exists.elim (kM (step:=λz:ak×Nat×Nat=>QO v (l,m,0) q z.1 z.2.1 z.2.2) (λ(z:ak×Nat) j=>(z.1,z.2,j)) q.next.length (λj z=>NuI q.next.length (oQ v m) j z.1/\z.2=jv (oQ v m) j) (λr=>r=zL q l (oQ v m)) ?_ ?_ (s0:=(List.replicate v.length 0,0)) ⟨⟨by simp [hvl],λs hs=>by omega⟩,rfl⟩) (λr lX=> ?_)
    · rintro j ⟨P,c⟩ hj ⟨hI,hc⟩
      simp only at hI hc
      subst hc
      have hPl:=hI.len
      have hcj:=Po (oQ v m) j
      left
      show ∃s':ak×Nat,QO v (l,m,0) q P _ j=some (.inl (s'.1,s'.2,j+1))/\_
      unfold QO
      rw [bV (by omega),aH (by omega)]
      cases d1:nth v j false with
      |false=>
        have hkj: ¬ oQ v m j=true:=by unfold oQ;rw [d1];simp
        rw [iteO_false]
        exact ⟨(_,_),rfl,hI.no hj hkj,by simp only [jv];rw [if_neg hkj];rfl⟩
      |true=>
        rw [iteO_true,aH (by show j<m.length;omega)]
        change ∃s':ak×Nat,aQ (nth m j false) _ _=_/\_
        cases d2:nth m j false with
        |false=>
          have hkj: ¬ oQ v m j=true:=by unfold oQ;rw [d1,d2];simp
          rw [iteO_false]
          exact ⟨(_,_),rfl,hI.no hj hkj,by simp only [jv];rw [if_neg hkj];rfl⟩
        |true=>
          have hkj:oQ v m j=true:=by unfold oQ;rw [d1,d2];rfl
          rw [iteO_true,aH (by simp;omega),aH (show jv (oQ v m) j+1<=_ by omega)]
          exact ⟨(_,_),rfl,hI.put hj hkj,by simp only [jv];rw [if_pos hkj]⟩
    · rintro ⟨P,c⟩ ⟨hI,hc⟩
      simp only at hI hc
      refine ⟨zL q l (oQ v m),?_,rfl⟩
      show QO v (l,m,0) q P c q.next.length=_
      unfold QO
      rw [bQ (by omega),aH (by show 0<l.length;omega),aH (by show q.front.length+(nth l 0 []).length<=_;omega),vs_ hq f2 hk ⟨hI.len,λs hs=>hI.at' s hs⟩ hvl (l,m,0) rfl];rfl
    obtain ⟨h1,rfl⟩:=lX
    exact h1
theorem yk_(l m:aB):Ny l m=some (decide (l=m)):=by
  by_cases e:l=m
  · subst e;rw [jl_,decide_eq_true rfl]
  unfold Ny
  rw [decide_eq_false e]
  by_cases hl:l.length=m.length
  rotate_left
  · rw [bV (by omega)]
  rw [bQ (by omega)]
  have:=kl_ (step:=λk:Nat=>Ik l m k) (good:=true) (bad:=false) l.length (λk=>decide (nth l k []=nth m k [])) (λk hk hp=>by
    rw [lg]at hp
    show Ik l m k=_
    unfold Ik
    rw [bV (by omega),aH (by omega),bQ (λh=>h hp)];rfl) (λk hk hp=>by
    rw [decide_eq_false_iff_not]at hp
    show Ik l m k=_
    unfold Ik
    rw [bV (by omega),aH (by omega),bV hp];rfl) (by
    show Ik l m l.length=_
    unfold Ik
    rw [bQ (by omega)];rfl)
  rw [this,if_neg]
  intro h
  have h:=ZV.1 h
  exact e (Hz [] hl λi hi=>by have:=h i hi;rwa [lg]at this)
structure ApI (q:Seq) (l:List B_1):Prop where
  len:l.length=q.next.length
  row: ∀s,s<q.next.length->(nth l s []).length=q.next.length
  un: ∀s t,s<q.next.length->t<q.next.length->nth (nth l s []) t false=true->cu q s≠cu q t
  like: ∀s t,s<q.next.length->t<q.next.length->nth (nth l s []) t false=false->LikeQ q s t
def VW(q:Seq)(s t b:Nat):Bool:=decide (nxQ q s b<0) != decide (nxQ q t b<0)
def unB(q:Seq)(s t k:Nat):Bool:=(nth q.fin s false != nth q.fin t false) || decide (nth q.tail s []≠nth q.tail t []) || !decide (nth q.outs s []=nth q.outs t []) || (List.range k).any (VW q s t)
theorem tj_(q:Seq)(s t k:Nat):unB q s t (k+1)=(unB q s t k || VW q s t k):=by
  unfold unB;rw [op_,<-Bool.or_assoc]
theorem to_ {q : Seq} (hq : eH q = true) {s t : Nat} (hs : s < q.next.length) (ht : t < q.next.length) : unB q s t 256 = false ↔ LikeQ q s t := by
  unfold unB
  rw [Bool.or_eq_false_iff,Bool.or_eq_false_iff,Bool.or_eq_false_iff]
  constructor
  · rintro ⟨⟨⟨h1,h2⟩,h3⟩,h4⟩
    have h3:nth q.outs s []=nth q.outs t []:=by
      rw [Bool.not_eq_false']at h3;exact jk h3
    have h2:=jy h2
    refine ⟨by simpa using h1,Classical.not_not.1 h2,λb hb=> ?_,λb _=>by unfold otQ;rw [h3]⟩
    have:VW q s t b=false:=by
      cases c:VW q s t b with
      |false=>rfl
      |true=>
        have:=r3_.2 ⟨b,hb,c⟩
        rw [h4]at this;cases this
    unfold VW at this
    have:=bne_eq_false_iff_eq.1 this
    rwa [decide_eq_decide]at this
  intro h
  have ho:nth q.outs s []=nth q.outs t []:=Hz [] (by rw [(vM hq hs).2,(vM hq ht).2]) λb hb=>h.out b (by rw [(vM hq hs).2]at hb;exact hb)
  refine ⟨⟨⟨by rw [h.fin];simp,decide_eq_false λe=>e h.tail⟩,by rw [decide_eq_true ho];rfl⟩,?_⟩
  cases c:(List.range 256).any (VW q s t)with
  |false=>rfl
  |true=>
    obtain ⟨b,hb,h1⟩:=r3_.1 c
    unfold VW at h1
    have h2:=h.neg b hb
    rw [show decide (nxQ q s b<0)=decide (nxQ q t b<0) by rw [decide_eq_decide];exact h2]at h1
    simp at h1
def Il(q:Seq)(s n:Nat):B_1:=(List.range n).map λt=>unB q s t 256
theorem yv_{q:Seq}(hq:eH q=true){i k:Nat}(hi:i<q.next.length)(hk:k<q.next.length){r:B_1}(hr:r.length=q.next.length):
    ∀{u:Bool},u=unB q i k 0-> ∃r',Vw k q i (r.set k u)=some (.inl (r',k+1))/\r'.length=q.next.length/\nth r' k false=unB q i k 256/\ ∀t,t≠k->nth r' t false=nth r t false:=by
  rintro _ rfl
  obtain ⟨i1,i2⟩:=vM hq hi
  obtain ⟨k1,k2⟩:=vM hq hk
  unfold Vw
  refine Exists.elim (kM (step:=λz:B_1×Nat=>QU k q i z.1 z.2) (λz b=>(z,b)) 256 (λb z=>z.length=q.next.length/\nth z k false=unB q i k b/\ ∀t,t≠k->nth z t false=nth r t false) (λx=> ∃r',x= .inl (r',k+1)/\r'.length=q.next.length/\nth r' k false=unB q i k 256/\ ∀t,t≠k->nth r' t false=nth r t false) ?_ ?_ (s0:=r.set k (unB q i k 0)) ⟨by rw [fQ];exact hr,GN (by omega),λt ht=>Du ht⟩) (λx lX=> ?_)
  · rintro b z hb ⟨z1,z2,z3⟩
    left
    show ∃s',QU k q i z b=some (.inl (s',b+1))/\_
    unfold QU
    have e1:nth (nth q.next i []) b 0=nxQ q i b:=rfl
    have e2:nth (nth q.next k []) b 0=nxQ q k b:=rfl
    rw [bV (by omega),aH (by omega),z2]
    simp only [e1,e2]
    cases c:unB q i k b with
    |true=>
      rw [iteO_true,aH (by omega)]
      exact ⟨_,rfl,by rw [fQ];exact z1,by rw [GN (by omega),tj_,c];rfl,λt ht=>by rw [Du ht];exact z3 t ht⟩
    |false=>
      rw [iteO_false,aH (by omega),aH (by omega),aH (by omega)]
      exact ⟨_,rfl,by rw [fQ];exact z1,by rw [GN (by omega),tj_,c];rfl,λt ht=>by rw [Du ht];exact z3 t ht⟩
  · rintro z ⟨z1,z2,z3⟩
    refine ⟨.inl (z,k+1),?_,z,rfl,z1,z2,z3⟩
    show QU k q i z 256=_
    unfold QU
    rw [bQ (by omega)];rfl
  obtain ⟨h1,r',rfl,h2⟩:=lX
  exact ⟨r',h1,h2⟩
theorem u1_ {q : Seq} (hq : eH q = true) {i : Nat} (hi : i < q.next.length) {M : List B_1} (hM : M.length <= 1024) :
    bC (λz:B_1×Nat=>NJ q i M z.1 z.2) (List.replicate q.next.length false,0)=some (.inl (M++[Il q i q.next.length],i+1)):=by
  obtain ⟨q1,q2,q3,q4,q5⟩:=ni hq
  refine Exists.elim (kM (step:=λz:B_1×Nat=>NJ q i M z.1 z.2) (λz k=>(z,k)) q.next.length (λk z=>z.length=q.next.length/\ ∀t,t<k->nth z t false=unB q i t 256) (λx=>x= .inl (M++[Il q i q.next.length],i+1)) ?_ ?_ (s0:=List.replicate q.next.length false) ⟨by simp,λt ht=>absurd ht (Nat.not_lt_zero _)⟩) (λx lX=> ?_)
  · rintro k z hk ⟨z1,z2⟩
    left
    show ∃s',NJ q i M z k=some (.inl (s',k+1))/\_
    have fini: ∀u:Bool,u=unB q i k 0-> ∃s',Vw k q i (z.set k u)=some (.inl (s',k+1))/\s'.length=q.next.length/\ ∀t,t<k+1->nth s' t false=unB q i t 256:=λu hu=>by
      obtain ⟨r',a1,a2,a3,a4⟩:=yv_ hq hi hk z1 hu
      refine ⟨r',a1,a2,λt ht=> ?_⟩
      by_cases c:t=k
      · rw [c];exact a3
      rw [a4 t c];exact z2 t (by omega)
    unfold NJ
    rw [bV (by omega),aH (by omega),aH (by omega)]
    have hu:unB q i k 0=((nth q.fin i false != nth q.fin k false) || decide (nth q.tail i []≠nth q.tail k []) || !decide (nth q.outs i []=nth q.outs k [])):=by unfold unB;simp
    cases c1:(nth q.fin i false != nth q.fin k false)with
    |true=>
      rw [iteO_true,aH (by omega)]
      exact fini true (by rw [hu,c1];rfl)
    |false=>
      rw [iteO_false,aH (by omega),aH (by omega)]
      by_cases c2:nth q.tail i []≠nth q.tail k []
      · rw [bV c2,aH (by omega)]
        exact fini true (by rw [hu,c1,decide_eq_true c2];rfl)
      rw [bQ c2,aH (by omega),aH (by omega),yk_,gJ,aH (by omega)]
      exact fini _ (by rw [hu,c1,decide_eq_false c2];rfl)
  · rintro z ⟨z1,z2⟩
    refine ⟨_,?_,rfl⟩
    have e:z=Il q i q.next.length:=Hz false (by unfold Il;rw [List.length_map,List.length_range];exact z1) λt ht=>by
      rw [z2 t (by omega)]
      unfold Il
      rw [zk _ _ _ 0 _ (by rw [List.length_range];omega),Yy (by omega)]
    show NJ q i M z q.next.length=_
    unfold NJ
    rw [bQ (by omega),aH (by simp only [jZ];omega),e];rfl
  obtain ⟨h1,rfl⟩:=lX
  exact h1
def rowN(l:List B_1)(n i:Nat):Nat:=jg (unM (nth l i [])) n
def NQ(l:List B_1)(n:Nat):Nat:=jg (rowN l n) n
theorem ye_{l:List B_1}{n i k:Nat}(hl:l.length=n)(hr:(nth l i []).length=n)(hi:i<n)(hk:k<n)(h:nth (nth l i []) k false=false):NQ (l.set i ((nth l i []).set k true)) n<NQ l n:=by
  have h1:=sj_ hk hr h
  have h2:=ji_ (f:=rowN l n) (g:=rowN (l.set i ((nth l i []).set k true)) n) (s:=i) (n:=n) hi λj _ hne=>by unfold rowN;rw [Du hne]
  have h3:rowN (l.set i ((nth l i []).set k true)) n i=jg (unM ((nth l i []).set k true)) n:=by unfold rowN;rw [GN (by omega)]
  have h4:rowN l n i=jg (unM (nth l i [])) n:=rfl
  unfold NQ
  omega
def StbQ(q:Seq)(l:List B_1)(s t:Nat):Prop:=nth (nth l s []) t false=false-> ∀b,b<256->0<=nxQ q s b->0<=nxQ q t b->nth (nth l (nxQ q s b).toNat []) (nxQ q t b).toNat false=false
structure ApP (q:Seq) (l0:List B_1) (i k:Nat) (l:List B_1) (t:Bool):Prop where
  a:ApI q l
  no:t=false->l=l0/\ ∀s t,s<q.next.length->t<q.next.length->(s<i\/s=i/\t<k)->StbQ q l s t
  yes:t=true->NQ l q.next.length<NQ l0 q.next.length
theorem wc_ {q : Seq} (hq : eH q = true) (hp : PshQ q) {l0 : List B_1} {i k : Nat} (hi : i < q.next.length) (hk : k < q.next.length) {l : List B_1} {t : Bool} (h : ApP q l0 i k l t) :
    ∃l' t',bC (λz:(List B_1)×Bool×Nat=>MH i k q z.1 z.2.1 z.2.2) (l,t,0)=some (.inl (l',t',k+1))/\ApP q l0 i (k+1) l' t':=by
  obtain ⟨i1,i2⟩:=vM hq hi
  obtain ⟨k1,k2⟩:=vM hq hk
  have next: ∀{l:List B_1} {t:Bool},ApP q l0 i k l t->(t=false->StbQ q l i k)->ApP q l0 i (k+1) l t:=λ{l t} h hs=>⟨h.a,λht=>⟨(h.no ht).1,λs u hs' hu hc=>by
    by_cases c:s<i\/s=i/\u<k
    · exact (h.no ht).2 s u hs' hu c
    have e1:s=i:=by omega
    have e2:u=k:=by omega
    rw [e1,e2];exact hs ht⟩,h.yes⟩
  refine Exists.elim (kM (step:=λz:(List B_1)×Bool×Nat=>MH i k q z.1 z.2.1 z.2.2) (λ(z:(List B_1)×Bool) b=>(z.1,z.2,b)) 256 (λb z=>ApP q l0 i k z.1 z.2/\(z.2=false->nth (nth z.1 i []) k false=false-> ∀c,c<b->0<=nxQ q i c->0<=nxQ q k c->nth (nth z.1 (nxQ q i c).toNat []) (nxQ q k c).toNat false=false)) (λx=> ∃l' t',x= .inl (l',t',k+1)/\ApP q l0 i (k+1) l' t') ?_ ?_ (s0:=(l,t)) ⟨h,λ_ _ c hc=>absurd hc (Nat.not_lt_zero _)⟩) (λx lX=> ?_)
  · rintro b ⟨l,t⟩ hb ⟨hA,hB⟩
    simp only at hA hB
    have hl:=hA.a.len
    have hr:=hA.a.row i hi
    have hxi:=oC hq hi hb
    have hxk:=oC hq hk hb
    show (∃s':(List B_1)×Bool,MH i k q l t b=some (.inl (s'.1,s'.2,b+1))/\_)\/ ∃r,MH i k q l t b=some (.inr r)/\_
    unfold MH
    have e1:nth (nth q.next i []) b 0=nxQ q i b:=rfl
    have e2:nth (nth q.next k []) b 0=nxQ q k b:=rfl
    rw [bV (by omega),aH (by omega),aH (by omega)]
    simp only [e1,e2]
    cases c:nth (nth l i []) k false with
    |true=>
      right
      rw [vJ]
      exact ⟨_,rfl,l,t,rfl,next hA λ_ e=>by rw [c]at e;cases e⟩
    | false =>
      left
      have skip:(0<=nxQ q i b->0<=nxQ q k b->nth (nth l (nxQ q i b).toNat []) (nxQ q k b).toNat false=false)->ApP q l0 i k l t/\(t=false->nth (nth l i []) k false=false-> ∀c,c<b+1->0<=nxQ q i c->0<=nxQ q k c->nth (nth l (nxQ q i c).toNat []) (nxQ q k c).toNat false=false):=λhh=>⟨hA,λht hf d hd h1 h2=>by
        by_cases e:d<b
        · exact hB ht hf d e h1 h2
        have:d=b:=by omega
        subst this;exact hh h1 h2⟩
      rw [zi,aH (by omega),aH (by omega)]
      by_cases d1:0<=nxQ q i b
      · rw [bV  d1]
        by_cases d2:0<=nxQ q k b
        · have hrx:=hA.a.row (nxQ q i b).toNat (by omega)
          rw [bV d2,aH (by omega),aH (by omega)]
          cases d3:nth (nth l (nxQ q i b).toNat []) (nxQ q k b).toNat false with
          |true=>
            rw [iteO_true,aH (by omega),aH (by omega)]
            refine ⟨(_,_),rfl,⟨⟨by rw [fQ];exact hl,λs hs=> ?_,λs u hs hu he=> ?_,λs u hs hu he=> ?_⟩,λe=>(by cases e),λ_=> ?_⟩,λe=>(by cases e)⟩
            · by_cases e:s=i
              · rw [e,GN (by omega),fQ];exact hr
              rw [Du e];exact hA.a.row s hs
            · have old: ∀s u,s<q.next.length->u<q.next.length->nth (nth l s []) u false=true->cu q s≠cu q u:=hA.a.un
              by_cases e:s=i
              · rw [e,GN (by omega)]at he
                by_cases f:u=k
                · rw [e,f]
                  intro g
                  have:=(Lu hp hp hi hk hb g d1).2.2
                  exact old _ _ (by omega) (by omega) d3 this
                rw [Du f]at he
                rw [e];exact old i u hi hu he
              rw [Du e]at he;exact old s u hs hu he
            · by_cases e:s=i
              · rw [e,GN (by omega)]at he
                by_cases f:u=k
                · rw [f,GN (by omega)]at he;cases he
                rw [Du f]at he
                rw [e];exact hA.a.like i u hi hu he
              rw [Du e]at he;exact hA.a.like s u hs hu he
            have h1:=ye_ hl hr hi hk c
            show NQ (l.set i ((nth l i []).set k true)) _<_
            cases t with
            |true=>have:=hA.yes rfl;omega
            |false=>rw [(hA.no rfl).1]at h1 ⊢;exact h1
          |false=>
            rw [iteO_false]
            exact ⟨(l,t),rfl,skip λ_ _=>d3⟩
        rw [bQ d2]
        exact ⟨(l,t),rfl,skip λ_ h=>absurd h d2⟩
      rw [bQ d1]
      exact ⟨(l,t),rfl,skip λh=>absurd h d1⟩
  · rintro ⟨l,t⟩ ⟨hA,hB⟩
    simp only at hA hB
    refine ⟨.inl (l,t,k+1),?_,l,t,rfl,next hA λht hf b hb=>hB ht hf b hb⟩
    show MH i k q l t 256=_
    unfold MH
    rw [bQ (by omega)];rfl
  obtain ⟨h1,l',t',rfl,h2⟩:=lX
  exact ⟨l',t',h1,h2⟩
theorem xe_{q:Seq}(hq:eH q=true)(hp:PshQ q){l0:List B_1}(h0:ApI q l0): ∃l t,bC (λz:(List B_1)×Bool×Nat=>NI q z.1 z.2.1 z.2.2) (l0,false,0)=some (.inl (l,t))/\ApP q l0 q.next.length 0 l t:=by
  refine Exists.elim (kM (step:=λz:(List B_1)×Bool×Nat=>NI q z.1 z.2.1 z.2.2) (λ(z:(List B_1)×Bool) i=>(z.1,z.2,i)) q.next.length (λi z=>ApP q l0 i 0 z.1 z.2) (λx=> ∃l t,x= .inl (l,t)/\ApP q l0 q.next.length 0 l t) ?_ ?_ (s0:=(l0,false)) ⟨h0,λ_=>⟨rfl,λs t _ _ c=>absurd c (by omega)⟩,λe=>(by cases e)⟩) (λx lX=> ?_)
  · rintro i ⟨l,t⟩ hi hA
    simp only at hA
    left
    show ∃s':(List B_1)×Bool,NI q l t i=some (.inl (s'.1,s'.2,i+1))/\_
    unfold NI
    rw [bV (by omega)]
    refine Exists.elim (kM (step:=λz:(List B_1)×Bool×Nat=>QV q i z.1 z.2.1 z.2.2) (λ(z:(List B_1)×Bool) k=>(z.1,z.2,k)) q.next.length (λk z=>ApP q l0 i k z.1 z.2) (λx=> ∃l t,x= .inl (l,t,i+1)/\ApP q l0 (i+1) 0 l t) ?_ ?_ (s0:=(l,t)) hA) (λx lX=> ?_)
    · rintro k ⟨l,t⟩ hk hA
      simp only at hA
      left
      obtain ⟨l',t',a1,a2⟩:=wc_ hq hp hi hk hA
      refine ⟨(l',t'),?_,a2⟩
      show QV q i l t k=_
      unfold QV
      rw [bV (by omega),a1]
    · rintro ⟨l,t⟩ hA
      simp only at hA
      refine ⟨.inl (l,t,i+1),?_,l,t,rfl,hA.a,λht=>⟨(hA.no ht).1,λs u hs hu c=>(hA.no ht).2 s u hs hu (by omega)⟩,hA.yes⟩
      show QV q i l t q.next.length=_
      unfold QV
      rw [bQ (by omega)];rfl
    obtain ⟨h1,l',t',rfl,h2⟩:=lX
    exact ⟨(l',t'),h1,h2⟩
  · rintro ⟨l,t⟩ hA
    simp only at hA
    refine ⟨.inl (l,t),?_,l,t,rfl,hA⟩
    show NI q l t q.next.length=_
    unfold NI
    rw [bQ (by omega)];rfl
  obtain ⟨h1,l',t',rfl,h2⟩:=lX
  exact ⟨l',t',h1,h2⟩
structure GY (q:Seq) (l:List B_1):Prop where
  len:l.length=q.next.length
  row: ∀s,s<q.next.length->(nth l s []).length=q.next.length
  iff: ∀s t,s<q.next.length->t<q.next.length->(nth (nth l s []) t false=false↔cu q s=cu q t)
theorem zm_ {q : Seq} (hq : eH q = true) (hp : PshQ q) : ∃ l, C2_ q = some l /\ GY q l := by
  obtain ⟨q1,q2,q3,q4,q5⟩:=ni hq
  unfold C2_
  refine kM (step:=λz:(List B_1)×Nat=>QT q z.1 z.2) (λz i=>(z,i)) q.next.length (λi z=>z=(List.range i).map λs=>Il q s q.next.length) (λl=>GY q l) ?_ ?_ (s0:=[]) rfl
  · rintro i _ hi rfl
    left
    refine ⟨_,?_,rfl⟩
    show QT q _ i=_
    unfold QT
    rw [bV (by omega),aH (by omega),u1_ hq hi (by rw [List.length_map,List.length_range];omega),List.range_succ,List.map_append];rfl
  rintro _ rfl
  show ∃r,QT q _ q.next.length=some (.inr r)/\_
  have hrow: ∀s,s<q.next.length->nth ((List.range q.next.length).map λs=>Il q s q.next.length) s []=Il q s q.next.length:=λs hs=>by rw [zk _ _ _ 0 _ (by rw [List.length_range];exact hs),Yy hs]
  have hcell: ∀s t,t<q.next.length->nth (Il q s q.next.length) t false=unB q s t 256:=λs t ht=>by
    unfold Il
    rw [zk _ _ _ 0 _ (by rw [List.length_range];exact ht),Yy ht]
  have h0:ApI q ((List.range q.next.length).map λs=>Il q s q.next.length):=by
    refine ⟨by simp,λs hs=>by rw [hrow s hs];unfold Il;simp,λs t hs ht he e=> ?_,λs t hs ht he=> ?_⟩
    · rw [hrow s hs,hcell s t ht,(to_ hq hs ht).2 (sh_ hp hq hs ht e)]at he;cases he
    rw [hrow s hs,hcell s t ht]at he;exact (to_ hq hs ht).1 he
  obtain ⟨r,k1,k2⟩:=Pj (step:=λz:(List B_1)×Bool=>Vx q z.1 z.2) (λz=>ApI q z.1/\(z.2=false-> ∀s t,s<q.next.length->t<q.next.length->StbQ q z.1 s t)) (λz=>NQ z.1 q.next.length+if z.2=true then 1 else 0) (λl=>GY q l) (by
    rintro ⟨l,t⟩ ⟨hA,hD⟩
    simp only at hA hD
    show (∃t',Vx q l t=some (.inl t')/\_/\_)\/ ∃r,Vx q l t=some (.inr r)/\_
    unfold Vx
    cases t with
    |false=>
      right
      rw [iteO_false]
      refine ⟨l,rfl,hA.len,hA.row,λs t hs ht=>⟨λh=>funext λw=> ?_,λh=> ?_⟩⟩
      · refine bisim (n:=q.next.length) (λs b hs hb=>oC hq hs hb) (R:=λs t=>nth (nth l s []) t false=false) (λs t hs ht h=>hA.like s t hs ht h) (λs t b hs ht h hb hx=> ?_) w s t hs ht h
        have:=(hA.like s t hs ht h).neg b hb
        exact hD rfl s t hs ht h b hb hx (by omega)
      cases c:nth (nth l s []) t false with
      |false=>rfl
      |true=>exact absurd h (hA.un s t hs ht c)
    |true=>
      left
      rw [iteO_true]
      obtain ⟨l',t',a1,a2⟩:=xe_ hq hp hA
      refine ⟨_,a1,⟨a2.a,λe s t hs ht=>(a2.no e).2 s t hs ht (by omega)⟩,?_⟩
      show NQ l' _+(if t'=true then 1 else 0)<NQ l _+1
      cases t' with
      |false=>rw [(a2.no rfl).1];exact Nat.lt_succ_self _
      |true=>have:=a2.yes rfl;rw [if_pos rfl];omega) (t:=(_,true)) ⟨h0,λe=>(by cases e)⟩
  refine ⟨r,?_,k2⟩
  unfold QT
  rw [bQ (by omega),k1];rfl
end Go.Proofs.YtchebnpdnfhenaaGreatDoor
end
