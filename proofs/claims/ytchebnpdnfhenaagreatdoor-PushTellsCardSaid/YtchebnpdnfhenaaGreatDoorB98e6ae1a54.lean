/- Parts of a proof, one behind the other: what a machine reaches, functions decompiled, plain lemmas. Conditions stand with each lemma. -/
import Derived.Test.YtchebnpdnfhenaaGreatDoorB24214c72ff
import Derived.Test.YtchebnpdnfhenaaGreatDoorBec12559f29
import Derived.Test.YtchebnpdnfhenaaGreatDoorBbfc8597c7a
import Derived.Test.YtchebnpdnfhenaaGreatDoorB6e9adb2c49
import Derived.Laws.Append

set_option linter.unusedVariables false
set_option linter.unusedSimpArgs false
set_option linter.unusedSectionVars false
set_option maxRecDepth 100000
set_option maxHeartbeats 8000000
variable {aI aA aU bJ eF iL nH rZ:Option Go.Addr}{aH aX ay bD dZ o9 iK o8:Nat}

noncomputable section
namespace Go.Proofs.YtchebnpdnfhenaaGreatDoor
open Go Go.E
structure BfI (q:Seq) (cl:Nat->Int) (st:ak) (V:Nat->Int) (code:Nat):Prop where
  pos:0<st.length
  rng: ∀i,i<st.length->0<=nth st i 0/\nth st i 0<(q.next.length:Int)
  zero:cl (nth st 0 0).toNat=cl 0
  neg: ∀c,c<code->nxQ q (nth st (c / 256) 0).toNat (c % 256)<0->V c= -1
  val: ∀c,c<code->0<=nxQ q (nth st (c / 256) 0).toNat (c % 256)-> ∃j:Nat,j<st.length/\V c=((j:Nat):Int)/\cl (nth st j 0).toNat=cl (nxQ q (nth st (c / 256) 0).toNat (c % 256)).toNat
  dist: ∀i j,i<st.length->j<st.length->cl (nth st i 0).toNat=cl (nth st j 0).toNat->i=j
  first: ∀c j,c<code->V c=((j:Nat):Int)-> ∀k,0<k->k<j-> ∃c',c'<c/\V c'=((k:Nat):Int)
  come: ∀j,0<j->j<st.length-> ∃c,c<code/\c<j * 256/\V c=((j:Nat):Int)
def upd(V:Nat->Int)(c:Nat)(x:Int):Nat->Int:=λd=>if d=c then x else V d
theorem SX(V:Nat->Int)(c:Nat)(x:Int):upd V c x c=x:=if_pos rfl
theorem Am(V:Nat->Int){c d:Nat}(x:Int)(h:d<c):upd V c x d=V d:=if_neg (by omega)
section
variable {q:Seq} {cl:Nat->Int} {st:ak} {V:Nat->Int} {code:Nat}
theorem BfI.init{q:Seq}{cl:Nat->Int}(V:Nat->Int){z:Int}(hz:0<=z/\z<(q.next.length:Int))(hcl:cl z.toNat=cl 0):BfI q cl [z] V 0:=by
  have h0: ∀i,i<([z]:ak).length->i=0:=λi hi=>by rw [kD]at hi;omega
  refine ⟨by simp,λi hi=> ?_,hcl,λc hc=>absurd hc (Nat.not_lt_zero _),λc hc=>absurd hc (Nat.not_lt_zero _),λi j hi hj _=>by rw [h0 i hi,h0 j hj],λc j hc=>absurd hc (Nat.not_lt_zero _),λj hj hj2=> ?_⟩
  · rw [h0 i hi];exact hz
  have:=h0 j hj2;omega
theorem BfI.skip(h:BfI q cl st V code)(hn:nxQ q (nth st (code / 256) 0).toNat (code % 256)<0):BfI q cl st (upd V code (-1)) (code+1):=by
  refine ⟨h.pos,h.rng,h.zero,λc hc hc2=> ?_,λc hc hc2=> ?_,h.dist,λc j hc hv k hk hkj=> ?_,λj hj hj2=> ?_⟩
  · by_cases e:c=code
    · rw [e,SX]
    rw [Am _ _ (by omega)];exact h.neg c (by omega) hc2
  · by_cases e:c=code
    · subst e;omega
    rw [Am _ _ (by omega)];exact h.val c (by omega) hc2
  · by_cases e:c=code
    · rw [e,SX]at hv;omega
    rw [Am _ _ (by omega)]at hv
    obtain ⟨c',h1,h2⟩:=h.first c j (by omega) hv k hk hkj
    exact ⟨c',h1,by rw [Am _ _ (by omega)];exact h2⟩
  obtain ⟨c,h1,h2,h3⟩:=h.come j hj hj2
  exact ⟨c,by omega,h2,by rw [Am _ _ h1];exact h3⟩
theorem BfI.old(h:BfI q cl st V code)(h0:0<=nxQ q (nth st (code / 256) 0).toNat (code % 256)){j:Nat}(hj:j<st.length)(hcl:cl (nth st j 0).toNat=cl (nxQ q (nth st (code / 256) 0).toNat (code % 256)).toNat):BfI q cl st (upd V code ((j:Nat):Int)) (code+1):=by
  refine ⟨h.pos,h.rng,h.zero,λc hc hc2=> ?_,λc hc hc2=> ?_,h.dist,λc i hc hv k hk hkj=> ?_,λi hi hi2=> ?_⟩
  · by_cases e:c=code
    · subst e;omega
    rw [Am _ _ (by omega)];exact h.neg c (by omega) hc2
  · by_cases e:c=code
    · subst e;exact ⟨j,hj,SX _ _ _,hcl⟩
    rw [Am _ _ (by omega)];exact h.val c (by omega) hc2
  · by_cases e:c=code
    · rw [e,SX]at hv
      obtain ⟨c',h1,_,h3⟩:=h.come k hk (by omega)
      exact ⟨c',by omega,by rw [Am _ _ h1];exact h3⟩
    rw [Am _ _ (by omega)]at hv
    obtain ⟨c',h1,h2⟩:=h.first c i (by omega) hv k hk hkj
    exact ⟨c',h1,by rw [Am _ _ (by omega)];exact h2⟩
  obtain ⟨c,h1,h2,h3⟩:=h.come i hi hi2
  exact ⟨c,by omega,h2,by rw [Am _ _ h1];exact h3⟩
theorem BfI.new(h:BfI q cl st V code)(hc:code<st.length * 256)(h0:0<=nxQ q (nth st (code / 256) 0).toNat (code % 256)){z:Int}(hz:0<=z/\z<(q.next.length:Int))(hcl:cl z.toNat=cl (nxQ q (nth st (code / 256) 0).toNat (code % 256)).toNat)
    (hnew: ∀j,j<st.length->cl (nth st j 0).toNat≠cl (nxQ q (nth st (code / 256) 0).toNat (code % 256)).toNat):BfI q cl (st++[z]) (upd V code ((st.length:Nat):Int)) (code+1):=by
  have hold: ∀i,i<st.length->nth (st++[z]) i 0=nth st i 0:=λi hi=>G7 hi _
  have hat:nth (st++[z]) st.length 0=z:=LX _ _ _
  have hlen:(st++[z]).length=st.length+1:=by simp
  have hp:=h.pos
  have hrow: ∀c,c<code+1->nth (st++[z]) (c / 256) 0=nth st (c / 256) 0:=λc hc'=>hold _ (by omega)
  refine ⟨by omega,λi hi=> ?_,by rw [hold 0 hp];exact h.zero,λc hc hc2=> ?_,λc hc hc2=> ?_,λi j hi hj he=> ?_,λc i hc hv k hk hkj=> ?_,λi hi hi2=> ?_⟩
  · by_cases e:i<st.length
    · rw [hold i e];exact h.rng i e
    rw [show i=st.length by omega,hat];exact hz
  · rw [hrow c hc]at hc2
    by_cases e:c=code
    · subst e;omega
    rw [Am _ _ (by omega)];exact h.neg c (by omega) hc2
  · rw [hrow c hc]at hc2 ⊢
    by_cases e:c=code
    · subst e
      exact ⟨st.length,by omega,SX _ _ _,by rw [hat];exact hcl⟩
    rw [Am _ _ (by omega)]
    obtain ⟨j,h1,h2,h3⟩:=h.val c (by omega) hc2
    exact ⟨j,by omega,h2,by rw [hold j h1];exact h3⟩
  · by_cases e:i<st.length
    · by_cases f:j<st.length
      · rw [hold i e,hold j f]at he;exact h.dist i j e f he
      rw [hold i e,show j=st.length by omega,hat,hcl]at he
      exact absurd he (hnew i e)
    by_cases f:j<st.length
    · rw [hold j f,show i=st.length by omega,hat,hcl]at he
      exact absurd he.symm (hnew j f)
    omega
  · by_cases e:c=code
    · rw [e,SX]at hv
      obtain ⟨c',h1,_,h3⟩:=h.come k hk (by omega)
      exact ⟨c',by omega,by rw [Am _ _ h1];exact h3⟩
    rw [Am _ _ (by omega)]at hv
    obtain ⟨c',h1,h2⟩:=h.first c i (by omega) hv k hk hkj
    exact ⟨c',h1,by rw [Am _ _ (by omega)];exact h2⟩
  by_cases e:i<st.length
  · obtain ⟨c,h1,h2,h3⟩:=h.come i hi e
    exact ⟨c,by omega,h2,by rw [Am _ _ h1];exact h3⟩
  refine ⟨code,by omega,by omega,?_⟩
  rw [SX,show i=st.length by omega]
end
theorem BfI.min{q m:Seq}{cl:Nat->Int}{st:ak}{V:Nat->Int}(h:BfI q cl st V (st.length * 256))(hcl: ∀s t,s<q.next.length->t<q.next.length->(cl s=cl t↔dh q s=dh q t))(hq:eP q=true)
    (e0:m.front=q.front) (e1:m.next.length=st.length) (e2:m.outs.length=st.length) (e3:m.fin.length=st.length) (e4:m.tail.length=st.length) (e5: ∀i,i<st.length->(nth m.next i []).length=256) (e6: ∀c,c<st.length * 256->nxC m c=V c)
    (e7: ∀i,i<st.length->nth m.outs i []=nth q.outs (nth st i 0).toNat []) (e8: ∀i,i<st.length->nth m.fin i false=nth q.fin (nth st i 0).toNat false) (e9: ∀i,i<st.length->nth m.tail i []=nth q.tail (nth st i 0).toNat []):MinQ q m (st.map Int.toNat):=by
  have hl:(st.map Int.toNat).length=st.length:=List.length_map ..
  have hat: ∀i,i<st.length->nth (st.map Int.toNat) i 0=(nth st i 0).toNat:=λi hi=>zB _ _ _ 0 _ hi
  have hr: ∀i,i<st.length->(nth st i 0).toNat<q.next.length:=λi hi=>by have:=h.rng i hi;omega
  have hp:=h.pos
  have hn: ∀i b,i<st.length->b<256->i * 256+b<st.length * 256/\(i * 256+b) / 256=i/\(i * 256+b) % 256=b:=λi b hi hb=>⟨by omega,by omega,by omega⟩
  have hcell: ∀i b,i<st.length->b<256->nxQ m i b=V (i * 256+b):=λi b hi hb=>by
    obtain ⟨a1,a2,a3⟩:=hn i b hi hb
    have:=e6 _ a1
    unfold nxC at this
    rw [a2,a3]at this;exact this
  refine ⟨e0,by omega,by omega,by omega,by omega,by omega,λi hi=> ?_,?_,λi j hi hj he=> ?_,λi hi=>e5 i (by omega),λi hi=> ?_,λi hi=> ?_,λi hi=> ?_,λi b hi hb hx=> ?_,λi b hi hb hx=> ?_,λc j hc hv k hk hkj=> ?_,λj hj hj2=> ?_⟩
  · rw [hat i (by omega)];exact hr i (by omega)
  · rw [hat 0 hp]
    exact (hcl _ _ (hr 0 hp) (by have:=hr 0 hp;omega)).1 h.zero
  · rw [hat i (by omega),hat j (by omega)]at he
    exact h.dist i j (by omega) (by omega) ((hcl _ _ (hr i (by omega)) (hr j (by omega))).2 he)
  · rw [hat i (by omega)];exact e7 i (by omega)
  · rw [hat i (by omega)];exact e8 i (by omega)
  · rw [hat i (by omega)];exact e9 i (by omega)
  · rw [hat i (by omega)]at hx
    obtain ⟨a1,a2,a3⟩:=hn i b (by omega) hb
    rw [hcell i b (by omega) hb]
    exact h.neg _ a1 (by rw [a2,a3];exact hx)
  · rw [hat i (by omega)]at hx
    obtain ⟨a1,a2,a3⟩:=hn i b (by omega) hb
    obtain ⟨j,h1,h2,h3⟩:=h.val _ a1 (by rw [a2,a3];exact hx)
    rw [a2,a3]at h3
    refine ⟨j,by omega,by rw [hcell i b (by omega) hb];exact h2,?_⟩
    rw [hat j h1,hat i (by omega)]
    have hz:=oG hq (hr i (by omega)) hb
    exact (hcl _ _ (hr j h1) (by omega)).1 h3
  · rw [hl]at hc
    rw [e6 c hc]at hv
    obtain ⟨c',h1,h2⟩:=h.first c j hc hv k hk hkj
    exact ⟨c',h1,by rw [e6 c' (by omega)];exact h2⟩
  obtain ⟨c,h1,h2,h3⟩:=h.come j hj (by omega)
  exact ⟨c,h2,by rw [e6 c h1];exact h3⟩
theorem PushR.psh{q:Seq}{r:Seq×Int}(h:PushR q r)(h0:r.2=0):PshQ r.1/\eP r.1=true/\(∀w,uf r.1 w=uf q w)/\r.1.next.length<=q.next.length:=by
  have hem: ∀w,uf Seq.zero w=Option.none:=λw=>by unfold uf;rw [LY rfl rfl];rfl
  cases h with
  |wrong _=>exact absurd h0 (by decide)
  |none h1 h2=>
    refine ⟨qf_.toPshQ,qf_.right,λw=> ?_,Nat.zero_le _⟩
    rw [hem]
    unfold uf
    cases ho:dh q 0 w with
    |none=>rfl
    |some y=>
      rcases h2 with h2|h2
      · rw [LY (o7 h2) (o7 (by have:=(mW h1).2.2.1;omega))]at ho;cases ho
      exact absurd ⟨w,y,ho⟩ h2
  |made l m v h1 h2 h3 h4 h5=>
    have hk:=m9_ (m:=m) h5
    have hk0:=(hk 0 h2).2 ⟨.zero,(h4.live 0 h2).2 h3⟩
    unfold zk at h0 ⊢
    by_cases c:eP (pJ q l (oZ v m))=true
    · rw [if_pos c]
      exact ⟨I8_ h1 h4 hk,c,I5_ h1 h4 hk h2 hk0,by rw [Yv];exact PI _ _⟩
    rw [if_neg c]at h0;exact absurd h0 (by decide)
theorem PushR.errs{q:Seq}{r:Seq×Int}(h:PushR q r)(h0:r.2≠0):r.1=Seq.zero/\(r.2=1\/r.2=2):=by
  cases h with
  |wrong _=>exact ⟨rfl,.inl rfl⟩
  |none _ _=>exact absurd rfl h0
  |made l m v h1 h2 h3 h4 h5=>
    unfold zk at h0 ⊢
    by_cases c:eP (pJ q l (oZ v m))=true
    · rw [if_pos c]at h0;exact absurd rfl h0
    rw [if_neg c];exact ⟨rfl,.inr rfl⟩
inductive MinR (p:Seq×Int):Seq×Int->Prop
  |err:p.2≠0->MinR p (Seq.zero,p.2)
  |none:p.2=0->p.1.next.length=0->MinR p (Seq.zero,0)
  |made (m:Seq) (st:List Nat):p.2=0->MinQ p.1 m st->MinR p (m,0)
theorem MinR.err'{q:Seq}{p r:Seq×Int}(_:PushR q p)(k:MinR p r):r.2=p.2/\(r.2≠0->r.1=Seq.zero):=by
  cases k with
  |err h0=>exact ⟨rfl,λ_=>rfl⟩
  |none h0 _=>exact ⟨h0.symm,λ_=>rfl⟩
  |made m st h0 _=>exact ⟨h0.symm,λe=>absurd rfl e⟩
theorem MinR.can{q:Seq}{p r:Seq×Int}(h:PushR q p)(k:MinR p r)(h0:r.2=0):CanQ r.1/\(∀w,uf r.1 w=uf q w)/\r.1.next.length<=p.1.next.length:=by
  cases k with
  |err e=>exact absurd h0 e
  |none e1 e2=>
    obtain ⟨h1,h2,h3,h4⟩:=h.psh e1
    refine ⟨qf_,λw=> ?_,Nat.zero_le _⟩
    rw [<-h3]
    unfold uf
    rw [LY rfl rfl,LY (o7 e2) (o7 (by have:=(mW h2).2.2.1;omega))]
    rfl
  |made m st e1 e2=>
    obtain ⟨h1,h2,h3,h4⟩:=h.psh e1
    obtain ⟨k1,k2,k3⟩:=e2.can h1 h2
    refine ⟨k1,λw=> ?_,k3⟩
    rw [<-h3]
    unfold uf
    rw [k2,e2.front]
theorem MinR.same{q q':Seq}{p p' r r':Seq×Int}(h:PushR q p)(h':PushR q' p')(k:MinR p r)(k':MinR p' r')(h0:r.2=0)(h0':r'.2=0)(he: ∀w,uf q w=uf q' w):r.1=r'.1:=by
  obtain ⟨a1,a2,_⟩:=k.can h h0
  obtain ⟨b1,b2,_⟩:=k'.can h' h0'
  exact xz_ a1 b1 λw=>by rw [a2,b2,he]
theorem MinR.uniq{q:Seq}{p r r':Seq×Int}(h:PushR q p)(k:MinR p r)(k':MinR p r'):r=r':=by
  obtain ⟨a1,a2⟩:=MinR.err' h k
  obtain ⟨b1,b2⟩:=MinR.err' h k'
  refine Prod.ext ?_ (a1.trans b1.symm)
  by_cases c:p.2=0
  · exact k.same h h k' (by rw [a1];exact c) (by rw [b1];exact c) λ_=>rfl
  rw [a2 (by rw [a1];exact c),b2 (by rw [b1];exact c)]
end Go.Proofs.YtchebnpdnfhenaaGreatDoor
end

noncomputable section
namespace Go.E
open Go
def SrcC{α:Type}(σ:aj)(H:List Res)(size:Nat)(enc:α->List Value)(s:Value)(ls:List α):Prop:=
  ∃a c,s= .slice a ls.length c/\ ∀(P:Program) (w:World),jR σ H w-> ∀n,n<=ls.length->(Builtin.firstCells size n s).run P w= .ok ((ls.take n).flatMap enc).toArray w
theorem ra_{α:Type}{enc:α->List Value}{size:Nat}(hl: ∀x,(enc x).length=size)(l:List α)(n:Nat):(l.take n).flatMap enc=(l.flatMap enc).take (n * size):=k9_ hl l n
theorem SrcC.sealed{α:Type}{σ:aj}{H:List Res}{size:Nat}{enc:α->List Value}{s:Value}{ls:List α}(h:RS σ size enc s ls)(hl: ∀x,(enc x).length=size):SrcC σ H size enc s ls:=by
  obtain ⟨a,c,rfl,hn,hc⟩:=h.rv.sl
  refine ⟨a,c,rfl,λP w hw n hle=> ?_⟩
  cases a with
  |none=>
    obtain ⟨h1,_⟩:=hn rfl
    have:ls=[]:=o7 h1
    subst this
    simp [Builtin.firstCells]
  |some ad=>
    refine run_firstCells_some w size n ad _ _ _ (by rw [um hl,List.length_take];congr 1;omega) λj v hj=> ?_
    rw [ra_ hl,List.getElem?_take]at hj
    split at hj
    · exact hw.cell (h.rv.cell ad _ c rfl j v hj)
    cases hj
theorem vm_{α:Type}{enc:α->List Value}{size:Nat}(hl: ∀x,(enc x).length=size)(l m:List α)(k:Nat)(hk:k+m.length<=l.length):
    oP (l.flatMap enc) (k * size) (m.flatMap enc)=(l.take k++(m++l.drop (k+m.length))).flatMap enc:=by
  rw [List.flatMap_append,List.flatMap_append,oP,ra_ hl l k,um hl m,<-Nat.add_mul]
  have h1:l.flatMap enc=(l.take (k+m.length)).flatMap enc++(l.drop (k+m.length)).flatMap enc:=by rw [<-List.flatMap_append,List.take_append_drop]
  have h2:(l.flatMap enc).drop ((k+m.length) * size)=(l.drop (k+m.length)).flatMap enc:=by
    rw [h1,List.drop_append_of_le_length (by rw [um hl,List.length_take,Nat.min_eq_left hk];exact Nat.le_refl _),List.drop_of_length_le (by rw [um hl,List.length_take,Nat.min_eq_left hk];exact Nat.le_refl _),List.nil_append]
  rw [h2];try rw [qH]
theorem OpOk.copyV {X : Ctx} {e : Env} {σ : aj} {F : List Res} {o : Oper} {x y : Operand} {K : Env -> aj -> List Res -> Prop} {α : Type} {T ty E size k m' d : Nat} {enc : α -> List Value} {v u s : Value} {l ls : List α}
    (ho:o.op= .call {callee:= .builtin .copy,args:= #[x,y],argTypes:= #[T,ty]}) (ht:X.P.underlying T=some (.slice E)) (hs:szOf X.P E=some size) (hd:o.dst=some d) (hn:Nat.blt d X.n=true)
    (hx:ev e x=u) (hv:VwOk v u size k m') (hm:l.length - k=m') (hk:k<=l.length) (hy:ev e y=s) (hsrc:SrcC σ (φ E size enc v l::F) size enc s ls) (hl: ∀x,(enc x).length=size) (h0:0<size) (h1: ∀x, ∀u∈enc x,u.oneCell'=true)
    (kk:K (upd e d (.int .i64 ((min ls.length (l.length - k):Nat):Int))) σ (φ E size enc v (l.take k++(ls.take (min ls.length (l.length - k))++l.drop (k+min ls.length (l.length - k))))::F)):OpOk X o e σ (φ E size enc v l::F) K:=by
  subst hm
  intro u0 C0 τ0 w a hw ha K' Q hK
  obtain ⟨hown,hone,hbg⟩:=hw.holds _ (jm ..)
  have hsees:jR σ (φ E size enc v l::F) w:=⟨hw.fit,hw.holds⟩
  obtain ⟨as',cs',rfl,hfirst⟩:=hsrc
  obtain ⟨a',c',rfl,hnn,hc⟩:=hv.sl
  have hmin: ∀p q:Nat,Nat.min p q=min p q:=λ_ _=>rfl
  generalize hN:min ls.length (l.length - k)=N at kk
  have hN1:N<=ls.length:=by omega
  have hN2:N<=l.length - k:=by omega
  have hlenN:(ls.take N).length=N:=by rw [List.length_take];omega
  have hlen:(l.take k++(ls.take N++l.drop (k+N))).length=l.length:=by simp only [gB,List.length_take,List.length_drop];omega
  have hf:=hfirst X.P w hsees N hN1
  have hsz:=zC (P:=X.P) hs
  have hgo:goInt N= .int .i64 ((N:Nat):Int):=rfl
  cases a' with
  |none=>
    obtain ⟨h2,_⟩:=hnn rfl
    have hN0:N=0:=by omega
    subst hN0
    have e1:l.take k++(ls.take 0++l.drop (k+0))=l:=by rw [List.take_zero,List.nil_append,Nat.add_zero,List.take_append_drop]
    rw [e1]at kk
    have hrun:(Builtin.copy_ #[T,ty] o.type #[.slice none (l.length - k) c',.slice as' ls.length cs']).run X.P w= .ok (.int .i64 ((0:Nat):Int)) w:=by
      simp [Builtin.copy_,run_underlying ht,Builtin.lenOf,hsz,hmin,hN,hf,goInt]
    refine Oper.vZ (v:= .int .i64 ((0:Nat):Int)) (w':=w) ?_ (hK _ _ _ _ _ kk hw (yh ha hd hn _))
    rw [ha.eval']
    simp [execOp,ho,resolve,invoke,builtin,hx,hy,hrun]
  |some ad=>
    by_cases hj:0<l.length - k
    · have hel:=hv.el 0 hj
      rcases id hown.2 with ⟨hvn,hmn⟩|⟨g,cap,cur,rfl,_⟩
      · omega
      simp only [oN,Nat.zero_mul,Nat.add_zero]at hel
      have had:ad=⟨g,k * size,none⟩:=by
        have h3:(ad.add 0)=(⟨g,0,none⟩:Addr).add (k * size):=by injection hel with h;injection h
        rw [DJ]at h3
        simpa [Addr.add]using h3
      subst had
      obtain ⟨w',hst,hown',hgr,hdr⟩:=World.ownsRow.spliced X.P hown (k:=k * size) (vs:=(ls.take N).flatMap enc) (by rw [um hl,um hl,hlenN,<-Nat.add_mul];exact Nat.mul_le_mul_right _ (by omega)) (λu hu=>by
        obtain ⟨q,_,hq⟩:=List.mem_flatMap.1 hu
        exact h1 q u hq)
      have hsp:=vm_ hl l (ls.take N) k (by rw [hlenN];omega)
      rw [hlenN]at hsp
      rw [hsp]at hown'
      have hrun:(Builtin.copy_ #[T,ty] o.type #[.slice (some ⟨g,k * size,none⟩) (l.length - k) c',.slice as' ls.length cs']).run X.P w= .ok (.int .i64 ((N:Nat):Int)) w':=by
        simp [Builtin.copy_,run_underlying ht,Builtin.lenOf,hsz,hmin,hN,hf,hst,goInt]
      have hR:Reach u0 C0 τ0 σ w' (φ E size enc (.slice (some ⟨g,0,none⟩) l.length cap) (l.take k++(ls.take N++l.drop (k+N)))::F):=by
        refine hw.G9 (some g) (some g) rfl rfl hgr.os hgr.tape hgr.output hgr.size hdr (λq hq hne=>hgr.block q hq (λhx=>hne (by cases hx;rfl))) ?_ (λq hq=> .inl hq)
        show _/\_/\_
        rw [hlen]
        refine ⟨hown',λu hu=> ?_,hbg⟩
        obtain ⟨q,_,hq⟩:=List.mem_flatMap.1 hu
        exact h1 q u hq
      refine Oper.vZ (v:= .int .i64 ((N:Nat):Int)) (w':=w') ?_ (hK _ _ _ _ _ kk hR (yh ha hd hn _))
      rw [ha.eval']
      simp [execOp,ho,resolve,invoke,builtin,hx,hy,hrun]
    have hN0:N=0:=by omega
    subst hN0
    have e1:l.take k++(ls.take 0++l.drop (k+0))=l:=by rw [List.take_zero,List.nil_append,Nat.add_zero,List.take_append_drop]
    rw [e1]at kk
    have hrun:(Builtin.copy_ #[T,ty] o.type #[.slice (some ad) (l.length - k) c',.slice as' ls.length cs']).run X.P w= .ok (.int .i64 ((0:Nat):Int)) w:=by
      simp [Builtin.copy_,run_underlying ht,Builtin.lenOf,hsz,hmin,hN,hf,goInt,storeCells]
    refine Oper.vZ (v:= .int .i64 ((0:Nat):Int)) (w':=w) ?_ (hK _ _ _ _ _ kk hw (yh ha hd hn _))
    rw [ha.eval']
    simp [execOp,ho,resolve,invoke,builtin,hx,hy,hrun]
section
variable {α:Type} {σ:aj} {k:Pk α} {z w:List (α×k.P)} {l m:List α}
theorem ZOk.take(h:ZOk σ k z l)(n:Nat):ZOk σ k (z.take n) (l.take n):=⟨by rw [List.map_take,h.eq],λu hu=>h.ok u (List.mem_of_mem_take hu)⟩
theorem ZOk.drop(h:ZOk σ k z l)(n:Nat):ZOk σ k (z.drop n) (l.drop n):=⟨by rw [List.map_drop,h.eq],λu hu=>h.ok u (List.mem_of_mem_drop hu)⟩
end
theorem OpOk.dc_{X:Ctx}{e:Env}{σ:aj}{F:List Res}{o:Oper}{x y:Operand}{K:Env->aj->List Res->Prop}{α:Type}{T ty E size p m' d N q:Nat}{enc:α->List Value}{v u s:Value}{l ls:List α}
    (ho:o.op= .call {callee:= .builtin .copy,args:= #[x,y],argTypes:= #[T,ty]}) (ht:X.P.underlying T=some (.slice E)) (hs:szOf X.P E=some size) (hd:o.dst=some d) (hn:Nat.blt d X.n=true)
    (hx:ev e x=u) (hv:VwOk v u size p m') (hq:l.length=q) (hm:q - p=m') (hk:p<=q) (hy:ev e y=s) (hsrc:SrcC σ (φ E size enc v l::F) size enc s ls) (hl: ∀x,(enc x).length=size) (h0:0<size) (h1: ∀x, ∀u∈enc x,u.oneCell'=true) (hN:min ls.length (q - p)=N)
    (kk:K (upd e d (.int .i64 ((N:Nat):Int))) σ (φ E size enc v (l.take p++(ls.take N++l.drop (p+N)))::F)):OpOk X o e σ (φ E size enc v l::F) K:=by
  subst hq;subst hN
  exact OpOk.copyV ho ht hs hd hn hx hv hm hk hy hsrc hl h0 h1 kk
end Go.E
end

noncomputable section
namespace Go.Proofs.YtchebnpdnfhenaaGreatDoor
open Go Go.E Go.E.OpVal Go.E.OpOk Go.Proofs.Tryz
open List (replicate)
theorem pf113:plainF Tryz.prog 113=true:=by kernel_rfl
theorem SS:plainF Tryz.prog 114=true:=by kernel_rfl
theorem pf115:plainF Tryz.prog 115=true:=by kernel_rfl
theorem pf116:plainF Tryz.prog 116=true:=by kernel_rfl
theorem pf117:plainF Tryz.prog 117=true:=by kernel_rfl
theorem Wj:plainF Tryz.prog 29=true:=by kernel_rfl
theorem pf35:plainF Tryz.prog 35=true:=by kernel_rfl
theorem pf66:plainF Tryz.prog 66=true:=by kernel_rfl
theorem pf67:plainF Tryz.prog 67=true:=by kernel_rfl
theorem pf68:plainF Tryz.prog 68=true:=by kernel_rfl
theorem V9:plainF Tryz.prog 69=true:=by kernel_rfl
theorem pf76:plainF Tryz.prog 76=true:=by kernel_rfl
def NI(x0:Seq)(gU:ak)(cu:Nat)(x1:ak)(uF:ak)(dK:ak)(gW:Nat):Option ((ak×ak×Nat)⊕((ak×ak×Nat)⊕(ak×ak))):=
 aN (decide ((gW:Int)<(((nth x0.next ((nth gU cu 0).toNat) []).length:Nat):Int))) (aN (decide (0<=(nth (nth x0.next ((nth gU cu 0).toNat) []) gW 0))) (grd (0<=(nth (nth x0.next ((nth gU cu 0).toNat) []) gW 0)/\(nth (nth x0.next ((nth gU cu 0).toNat) []) gW 0)<(x1.length:Int)) (grd (0<=(nth x1 ((nth (nth x0.next ((nth gU cu 0).toNat) []) gW 0).toNat) 0)/\(nth x1 ((nth (nth x0.next ((nth gU cu 0).toNat) []) gW 0).toNat) 0)<(uF.length:Int)) (aN (decide ((nth uF ((nth x1 ((nth (nth x0.next ((nth gU cu 0).toNat) []) gW 0).toNat) 0).toNat) 0)<0)) (grd (0<=(nth (nth x0.next ((nth gU cu 0).toNat) []) gW 0)/\(nth (nth x0.next ((nth gU cu 0).toNat) []) gW 0)<(x1.length:Int)) (grd (0<=(nth x1 ((nth (nth x0.next ((nth gU cu 0).toNat) []) gW 0).toNat) 0)/\(nth x1 ((nth (nth x0.next ((nth gU cu 0).toNat) []) gW 0).toNat) 0)<(uF.length:Int)) (grd ((dK.length+[(nth (nth x0.next ((nth gU cu 0).toNat) []) gW 0)].length) * 8<=140737488355328) (nxt ((uF.set ((nth x1 ((nth (nth x0.next ((nth gU cu 0).toNat) []) gW 0).toNat) 0).toNat) ((dK.length:Nat):Int)),(dK++[(nth (nth x0.next ((nth gU cu 0).toNat) []) gW 0)]),(gW+1)))))) (nxt (uF,dK,(gW+1)))))) (nxt (uF,dK,(gW+1)))) (fin (nxt (uF,dK,(cu+1))))
def Vk(x0:Seq)(x1:ak)(iy:ak)(gU:ak)(cu:Nat):Option ((ak×ak×Nat)⊕(ak×ak)):=
 aN (decide ((cu:Int)<((gU.length:Nat):Int))) (grd (0<=(nth gU cu 0)/\(nth gU cu 0)<(x0.next.length:Int)) (bC (λq:ak×ak×Nat=>NI x0 gU cu x1 q.1 q.2.1 q.2.2) (iy,gU,0))) (fin (some (gU,iy)))
def Qy(x2:Int)(x1:ak)(x0:Seq)(zU:ak)(BA:Nat):Option ((ak×Nat)⊕(ak×ak)):=
 aN (decide ((BA:Int)<(((replicate x2.toNat (0:Int)).length:Nat):Int))) (grd (BA<zU.length) (nxt ((zU.set BA (-1)),(BA+1)))) (fin (grd (0<x1.length) (grd (0<=(nth x1 0 0)/\(nth x1 0 0)<(zU.length:Int)) (bC (λq:ak×ak×Nat=>Vk x0 x1 q.1 q.2.1 q.2.2) ((zU.set ((nth x1 0 0).toNat) 0),[0],0)))))
def E1_(x0:Seq)(x1:ak)(x2:Int):Option (ak×ak):=
 grd (0<=x2/\8 * x2.toNat<=281474976710656) (bC (λq:ak×Nat=>Qy x2 x1 x0 q.1 q.2) ((replicate x2.toNat (0:Int)),0))
def Il_(σ:aj)(r:ak×ak):Value->aj->List Res->Prop:=λv σ' H'=>
 ∃a1 c1 a2 c2,v= .tuple #[.slice a1 r.1.length c1,.slice a2 r.2.length c2]/\dA σ' aG a1 c1 r.1/\dA σ' aG a2 c2 r.2/\H'=[]
theorem H7_{σ:aj}{x0:Seq}{x1:ak}{x2:Int}(au:RZ σ (aB 1 aG bn) (.slice aI x0.next.length aH) x0.next)(aY:RZ σ (aB 1 aJ bF) (.slice aA x0.outs.length aX) x0.outs)(aV:dA σ eq_ aU ay x0.fin)(aQ:dA σ aJ bJ bD x0.tail)(bP:dA σ aG eF dZ x1){r:ak×ak}(hh:E1_ x0 x1 x2=some r):
  Con prog 67 #[.agg (oI x0 aI aH aA aX aU ay bJ bD),.slice eF x1.length dZ,.int .i64 x2] σ [] (Il_ σ r):=by
 dsimp only [E1_]at hh
 have f0_0b:=au.big
 have f0_1b:=aY.big
 have f0_2b:=aV.rv.big
 have f0_3b:=aQ.rv.big
 have f1_0b:=bP.rv.big
 refine Con.mk (n:=77) Tryz.func67 z z z (λw0=> ?_)
 refine ψ (ν z (boxA z z z z (λbG=> ?_)))
 refine Φ z z (Φ z z (ε (ψ (ξ z z ?_))))
 obtain ⟨u5,hh⟩:=aP hh
 refine ν rfl (pz (m:=x2.toNat) (enc:=aG) (0:Int) rfl b_ dB uV lu rfl rfl (vN u5.1) (vN u5.1) (by omega) (by decide) bn (by decide) rfl jS (λjE jD=> ?_))
 refine Φ z z (ε (ζ (ψ (Φ z z (ω z (lenC z b_ z) (ξ z z (ε (υ (TC.ig (α:=(ak×Nat)×(Unit)) (rgs [(9,1),(18,7)]) (λg=>[(18,.int .i64 ((g.1.2:Nat):Int))]) (λg=>[jl bG x0 aI aH aA aX aU ay bJ bD,φ 3 1 aG (.slice jE (replicate x2.toNat (0:Int)).length jD) g.1.1]) (λg=>σ) (λg=>bC (λq:ak×Nat=>Qy x2 x1 x0 q.1 q.2) g.1=some r/\g.1.1.length=(replicate x2.toNat (0:Int)).length) (λg=>f_ (λq:ak×Nat=>Qy x2 x1 x0 q.1 q.2) g.1) (((replicate x2.toNat (0:Int)),0),()) (Θ [1] 2) z (by repeat (first|exact trivial|refine ⟨z,?_⟩)) ⟨hh,z⟩ (λg1 j1 hg1=> ?_))))))))))
 obtain ⟨⟨zU,BA⟩,_⟩:=g1
 obtain ⟨hh,KI⟩:=hg1
 try dsimp only at KI ⊢
 obtain ⟨z1,hh,hR1⟩:=gJ hh
 dsimp only [Qy]at hh
 refine χ (i:=1) z (λ_ hb115 _=> ?_)
 refine ψ (ω z (OpVal.lss z z z) (ε (ζ (TC.cD z hh (λh116 hh=> ?_) (λh116 hh=> ?_)))))
 ·refine ι (S.n (ζ (υ (ψ (ξ z z (ξ z z (ε (η (Φ z z (ξ z z ?_))))))))))
  obtain ⟨u15,hh⟩:=aP hh
  refine TL.isSl (i:=1) z (λhs117 _ _=> ?_)
  refine ω z (bU z b_ dB z z hs117 (by omega)) (θ 1 z z ?_)
  have Cm:(zU.set BA (-1)).length=(replicate x2.toNat (0:Int)).length:=by rw [gy];exact KI
  refine ν z (lG (-1) z dB z z z z bn jS (by omega) (by omega) ?_)
  refine TL.nil (B.n (S.n (η (ω z (OpVal.succ z z z (by omega)) (ξ z z (ε ?_))))))
  obtain ⟨hh,X9⟩:=dO hR1 hh
  exact lf (((zU.set BA (-1)),(BA+1)),()) X9 ⟨hh,Cm⟩ (Θ [1] 2)
 refine TC.exit (S.x (S.x ?_))
 replace hh:=dG hR1 hh
 refine Δ (S.n (ψ (ν z (OpOk.lit (enc:=aG) [0] z b_ dB lu z z z bn (by decide) (by decide) (0:Int) z (by decide) z (by decide) jS (λyD yu=> ?_)))))
 refine Φ z z (ε (ψ (Φ z z (Φ z z ?_))))
 obtain ⟨u23,hh⟩:=aP hh
 refine ω z (bU (i:=0) z b_ dB z z bP.rv.sl (by omega)) (ω z (fF (0:Int) z fJ z bP (by omega) z) ?_)
 obtain ⟨u25,hh⟩:=aP hh
 refine TL.isSl (i:=2) z (λhs123 _ _=> ?_)
 refine ω z (OpVal.index z b_ dB z z hs123 u25.1 u25.2) (θ 2 z z ?_)
 have Cj:(zU.set ((nth x1 0 0).toNat) 0).length=(replicate x2.toNat (0:Int)).length:=by rw [gy];exact KI
 refine ν z (lG 0 z dB z z z z bn jS (by omega) (by omega) ?_)
 refine ε (ζ (ψ (ξ z z (ε (υ (TC.ig (α:=(ak×ak×Nat)×((Option Addr)×Nat)) (rgs [(10,2),(13,1),(31,44)]) (λg=>[(10,.slice g.2.1 g.1.2.1.length g.2.2),(11,.int .i64 ((g.1.2.2:Nat):Int))]) (λg=>[jl bG x0 aI aH aA aX aU ay bJ bD,φ 3 1 aG (.slice jE (replicate x2.toNat (0:Int)).length jD) g.1.1,φ 3 1 aG (.slice g.2.1 g.1.2.1.length g.2.2) g.1.2.1]) (λg=>σ) (λg=>bC (λq:ak×ak×Nat=>Vk x0 x1 q.1 q.2.1 q.2.2) g.1=some r/\g.1.1.length=(replicate x2.toNat (0:Int)).length) (λg=>f_ (λq:ak×ak×Nat=>Vk x0 x1 q.1 q.2.1 q.2.2) g.1) (((zU.set ((nth x1 0 0).toNat) 0),[0],0),(yD,yu)) (Θ [1,1,2] 3) z (by repeat (first|exact trivial|refine ⟨z,?_⟩)) ⟨hh,Cj⟩ (λg2 j2 hg2=> ?_)))))))
 obtain ⟨⟨iy,gU,cu⟩,⟨a141,PW⟩⟩:=g2
 obtain ⟨hh,qX⟩:=hg2
 try dsimp only at qX ⊢
 obtain ⟨z1,hh,hR1⟩:=gJ hh
 dsimp only [Vk]at hh
 refine χ (i:=1) z (λ_ U5 _=> ?_)
 refine χ (i:=2) z (λ_ Dk _=> ?_)
 refine ζ (ψ (ξ z z (Φ z z (ω z (lenC z b_ z) (ω z (OpVal.lss z z z) (ε (TC.cD z hh (λEP hh=> ?_) (λEP hh=> ?_))))))))
 ·refine ι (S.n (ζ (υ (ζ ?_))))
  obtain ⟨u38,hh⟩:=aP hh
  refine TC.draw [] (by kernel_rfl) (Ω 0 z (aS z kS z) z (TA.b 1 z (aZ z jT z (i:=0) z z) z (Ω 2 z (gu (.inl z) z) z (Ω 3 z (dw (.inl z) z) z (TA.isSl (i:=2) z (λwW _ _=> ?_))))))
  refine TA.b 4 z (bU z b_ dB z z wW (by omega)) z (TA.b 5 z (og (0:Int) z fJ z (q:=2) z bn (by omega) z) z (TA.b 6 z (OpVal.index z eU fZ z z au.isSl u38.1 u38.2) z ?_))
  obtain ⟨yI,nV,Lj⟩:=RZ.seg au ((nth gU cu 0).toNat) (by omega)
  replace nV:dA _ aG yI.1 yI.2 (nth x0.next ((nth gU cu 0).toNat) []):=nV
  have hk150b:=nV.rv.big
  refine TA.b 7 z (OpVal.of (kZ z hs_ z Lj z) (v':= .slice yI.1 ((nth x0.next ((nth gU cu 0).toNat) []).length) yI.2) z) z (TA.b 8 z (lenC z b_ z) z (Ω 9 z (dw (.inl z) z) z (TA.dn (S.n (υ (TC.ig (α:=(ak×ak×Nat)×((Option Addr)×Nat)) (rgs [(10,1),(13,1),(46,29)]) (λg=>[(10,.slice g.2.1 g.1.2.1.length g.2.2),(46,.int .i64 ((g.1.2.2:Nat):Int))]) (λg=>[jl bG x0 aI aH aA aX aU ay bJ bD,φ 3 1 aG (.slice jE (replicate x2.toNat (0:Int)).length jD) g.1.1,φ 3 1 aG (.slice g.2.1 g.1.2.1.length g.2.2) g.1.2.1]) (λg=>σ) (λg=>bC (λq:ak×ak×Nat=>NI x0 gU cu x1 q.1 q.2.1 q.2.2) g.1=some z1/\g.1.1.length=(replicate x2.toNat (0:Int)).length) (λg=>f_ (λq:ak×ak×Nat=>NI x0 gU cu x1 q.1 q.2.1 q.2.2) g.1) ((iy,gU,0),(a141,PW)) (Θ [2,2,2] 3) z (by repeat (first|exact trivial|refine ⟨z,?_⟩)) ⟨hh,qX⟩ (λg3 j3 hg3=> ?_)))))))
  obtain ⟨⟨uF,dK,gW⟩,⟨a167,c168⟩⟩:=g3
  obtain ⟨hh,BR⟩:=hg3
  try dsimp only at BR ⊢
  obtain ⟨z2,hh,hR2⟩:=gJ hh
  dsimp only [NI]at hh
  refine χ (i:=1) z (λ_ hb170 _=> ?_)
  refine χ (i:=2) z (λ_ hb171 _=> ?_)
  refine ψ (ω z (OpVal.lss z z z) (ε (ζ (TC.cD z hh (λh172 hh=> ?_) (λh172 hh=> ?_)))))
  ·refine ι (S.n (ζ (υ (ψ (ω z (bU z b_ dB z z nV.rv.sl (by omega)) (ω z (fF (0:Int) z fJ z nV (by omega) z) (ξ z z (ε (ψ (ξ z z (ω z (OpVal.geq z z z) (TL.j z z (TL.split 52 z (λAk=> ?_) (λAk=> ?_))))))))))))))
   ·replace hh:=gZ Ak hh
    replace Ak:=jg Ak
    refine Ψ z (gu (.inl z) z) (Ψ z (gu (.inl z) z) (Ψ z (dw (.inl z) z) ?_))
    obtain ⟨Oi,hh⟩:=aP hh
    refine Ψ z (OpVal.index z b_ dB z z bP.rv.sl Oi.1 Oi.2) (Ψ z (fF (0:Int) z fJ z bP (by omega) z) ?_)
    obtain ⟨Jp,hh⟩:=aP hh
    refine TL.isSl (i:=1) z (λhs174 _ _=> ?_)
    refine Ψ z (OpVal.index z b_ dB z z hs174 Jp.1 Jp.2) (Ψ z (og (0:Int) z fJ z (q:=1) z bn (by omega) z) (Ψ z (OpVal.lss z z z) (ω z (dS z z z) (ε (TC.cD z hh (λLK hh=> ?_) (λLK hh=> ?_))))))
    ·refine ψ (Φ z z (Φ z z (ξ z z ?_)))
     obtain ⟨u61,hh⟩:=aP hh
     refine ω z (OpVal.index z b_ dB z z bP.rv.sl u61.1 u61.2) (ω z (fF (0:Int) z fJ z bP (by omega) z) (Φ z z (ω z (lenC z b_ z) ?_)))
     obtain ⟨u65,hh⟩:=aP hh
     refine TL.isSl (i:=1) z (λhs176 _ _=> ?_)
     refine ω z (OpVal.index z b_ dB z z hs176 u65.1 u65.2) (θ 1 z z ?_)
     have KA:(uF.set ((nth x1 ((nth (nth x0.next ((nth gU cu 0).toNat) []) gW 0).toNat) 0).toNat) ((dK.length:Nat):Int)).length=(replicate x2.toNat (0:Int)).length:=by rw [gy];exact BR
     refine ν z (lG ((dK.length:Nat):Int) z dB z z z z bn jS (by omega) (by omega) ?_)
     refine ε (η (Φ z z (ξ z z (ν z (OpOk.lit (enc:=aG) [(nth (nth x0.next ((nth gU cu 0).toNat) []) gW 0)] z b_ dB lu z z z bn (by decide) (by decide) (0:Int) z (by decide) z (by decide) jS (λIr Ie=> ?_))))))
     refine θ 3 z z ?_
     obtain ⟨u70,hh⟩:=aP hh
     refine ν z (as_ z z b_ dB uV lu z z (by decide) z z z (.inr ⟨_,0,z⟩) (by simpa using u70) (by decide) (λa181 c182=> ?_))
     refine Φ z z (TL.nil (B.n (S.n (η (ω z (OpVal.succ z z z (by omega)) (ξ z z (ε ?_)))))))
     obtain ⟨hh,Ec⟩:=dO hR2 hh
     exact lf (((uF.set ((nth x1 ((nth (nth x0.next ((nth gU cu 0).toNat) []) gW 0).toNat) 0).toNat) ((dK.length:Nat):Int)),(dK++[(nth (nth x0.next ((nth gU cu 0).toNat) []) gW 0)]),(gW+1)),(a181,c182)) Ec ⟨hh,KA⟩ (Θ [2,3] 3)
    refine ι (B.n (S.n (η (ω z (OpVal.succ z z z (by omega)) (ξ z z (ε ?_))))))
    obtain ⟨hh,Eb⟩:=dO hR2 hh
    exact lf ((uF,dK,(gW+1)),(a167,c168)) Eb ⟨hh,BR⟩ (Θ [2,2,2] 3)
   replace hh:=gY Ak hh
   replace Ak:=jo Ak
   refine π z (π z (π z (π z (π z (π z (π z (π z (ω z (dV z z z) (ε (TC.f z (ι (B.n (S.n (η (ω z (OpVal.succ z z z (by omega)) ?_)))))))))))))))
   refine ξ z z (ε ?_)
   obtain ⟨hh,Ea⟩:=dO hR2 hh
   exact lf ((uF,dK,(gW+1)),(a167,c168)) Ea ⟨hh,BR⟩ (Θ [2,2,2] 3)
  refine TC.exit (S.x (S.x ?_))
  replace hh:=dG hR2 hh
  refine Δ (B.n (S.n (η (ξ z z (ω z (OpVal.succ z z z (by omega)) (ξ z z (ε ?_)))))))
  obtain ⟨hh,XI⟩:=dO hR1 hh
  exact lf ((uF,dK,(cu+1)),(a167,c168)) XI ⟨hh,BR⟩ (Θ [2,2,2] 3)
 refine TC.exit (S.x (S.x ?_))
 replace hh:=dG hR1 hh
 refine Δ (S.n (ψ (Φ z z (Φ z z (Φ z z (Φ z z (ε ?_)))))))
 rw [<-qX]
 refine TC.front 2 z z (TC.oh bn (λτ189 qc F5=> ?_))
 have hr187b:=F5.rv.big
 refine TC.front 1 z z (TC.oh bn (λτ192 Yn Ug=> ?_))
 replace F5:=F5.mono Yn
 have hr190b:=Ug.rv.big
 refine TC.rt 0 ?_
 obtain rfl:=so hh
 exact rq [6,7] ⟨a141,PW,jE,jD,z,F5,Ug,z⟩
def Qz(x1:ak)(x0:B_1)(ru:B_1)(aT:Nat):Option ((B_1×Nat)⊕(B_1)):=
 aN (decide ((aT:Int)<((x1.length:Nat):Int))) (grd (0<=(nth x1 aT 0)/\(nth x1 aT 0)<(x0.length:Int)) (grd (aT<ru.length) (nxt ((ru.set aT (nth x0 ((nth x1 aT 0).toNat) false)),(aT+1))))) (fin (some ru))
def Fi_(x0:B_1)(x1:ak):Option (B_1):=
 grd (1 * x1.length<=281474976710656) (bC (λq:B_1×Nat=>Qz x1 x0 q.1 q.2) ((replicate x1.length false),0))
def Im_(σ:aj)(r:B_1):Value->aj->List Res->Prop:=λv σ' H'=>
 ∃a1 c1,v= .slice a1 r.length c1/\σ=σ'/\H'=[dW 4 eq_ a1 c1 r]
theorem Gz_{σ:aj}{x0:B_1}{x1:ak}(au:dA σ eq_ aI aH x0)(bP:dA σ aG eF dZ x1){r:B_1}(hh:Fi_ x0 x1=some r):
  Con prog 68 #[.slice aI x0.length aH,.slice eF x1.length dZ] σ [] (Im_ σ r):=by
 dsimp only [Fi_]at hh
 have f0_0b:=au.rv.big
 have f1_0b:=bP.rv.big
 refine Con.mk (n:=27) Tryz.func68 z z z (λw0=> ?_)
 refine ψ (Φ z z (ε (ψ (Φ z z (ω z (lenC z b_ z) ?_)))))
 obtain ⟨u4,hh⟩:=aP hh
 refine ν z (pz (enc:=eq_) false z gI gQ G8 AA z z z z (by omega) (by decide) jc (by decide) z qZ (λyU yx=> ?_))
 refine Φ z z (ε (ζ (ψ (Φ z z (ω z (lenC z b_ z) (ξ z z (ε (υ (TC.ig (α:=(B_1×Nat)×(Unit)) (rgs [(6,2),(13,13)]) (λg=>[(13,.int .i64 ((g.1.2:Nat):Int))]) (λg=>[φ 4 1 eq_ (.slice yU (replicate x1.length false).length yx) g.1.1]) (λg=>σ) (λg=>bC (λq:B_1×Nat=>Qz x1 x0 q.1 q.2) g.1=some r/\g.1.1.length=(replicate x1.length false).length) (λg=>f_ (λq:B_1×Nat=>Qz x1 x0 q.1 q.2) g.1) (((replicate x1.length false),0),()) (Sub.pre 1 z) z (by repeat (first|exact trivial|refine ⟨z,?_⟩)) ⟨hh,z⟩ (λg1 j1 hg1=> ?_))))))))))
 obtain ⟨⟨ru,aT⟩,_⟩:=g1
 obtain ⟨hh,tC⟩:=hg1
 try dsimp only at tC ⊢
 obtain ⟨z1,hh,hR1⟩:=gJ hh
 dsimp only [Qz]at hh
 refine χ (i:=0) z (λ_ hb113 _=> ?_)
 refine ψ (ω z (OpVal.lss z z z) (ε (ζ (TC.cD z hh (λjM hh=> ?_) (λjM hh=> ?_)))))
 ·refine ι (S.n (ζ (υ (ψ (ξ z z (ω z (bU z b_ dB z z bP.rv.sl (by omega)) (ω z (fF (0:Int) z fJ z bP (by omega) z) (ξ z z (ξ z z (ε (η (Φ z z (ξ z z (Φ z z (ξ z z ?_)))))))))))))))
  obtain ⟨wo,hh⟩:=aP hh
  refine ω z (OpVal.index z gI gQ z z au.rv.sl wo.1 wo.2) (ω z (fF false z nG z au (by omega) z) ?_)
  obtain ⟨u21,hh⟩:=aP hh
  refine TL.isSl (i:=0) z (λJ5 _ _=> ?_)
  refine ω z (bU z gI gQ z z J5 (by omega)) ?_
  have KH:(ru.set aT (nth x0 ((nth x1 aT 0).toNat) false)).length=(replicate x1.length false).length:=by rw [gy];exact tC
  refine ν z (lG (nth x0 ((nth x1 aT 0).toNat) false) z gQ z z z z jc qZ (by omega) (by omega) ?_)
  refine TL.nil (B.n (S.n (η (ω z (OpVal.succ z z z (by omega)) (ξ z z (ε ?_))))))
  obtain ⟨hh,rG⟩:=dO hR1 hh
  exact lf (((ru.set aT (nth x0 ((nth x1 aT 0).toNat) false)),(aT+1)),()) rG ⟨hh,KH⟩ (Sub.pre 1 z)
 refine TC.exit (S.x (S.x ?_))
 replace hh:=dG hR1 hh
 refine Δ (S.n (ψ (Φ z z (Φ z z (ε ?_)))))
 rw [<-tC]
 refine TC.ret ?_
 obtain rfl:=so hh
 exact ro [dW 4 eq_ yU yx ru] z (RVs.tmp z RVs.nil) ⟨yU,yx,z,z,z⟩
def Qw(x1:ak)(x0:aC)(ru:aC)(aT:Nat):Option ((aC×Nat)⊕(aC)):=
 aN (decide ((aT:Int)<((x1.length:Nat):Int))) (grd (0<=(nth x1 aT 0)/\(nth x1 aT 0)<(x0.length:Int)) (grd (aT<ru.length) (nxt ((ru.set aT (nth x0 ((nth x1 aT 0).toNat) [])),(aT+1))))) (fin (some ru))
def Fn_(x0:aC)(x1:ak):Option (aC):=
 grd (16 * x1.length<=281474976710656) (bC (λq:aC×Nat=>Qw x1 x0 q.1 q.2) ((replicate x1.length ([]:T_1)),0))
def Ij_(σ:aj)(r:aC):Value->aj->List Res->Prop:=λv σ' H'=>
 ∃a1 c1,v= .slice a1 r.length c1/\σ=σ'/\H'=[dW 9 aJ a1 c1 r]
theorem Fr_{σ:aj}{x0:aC}{x1:ak}(au:dA σ aJ aI aH x0)(bP:dA σ aG eF dZ x1){r:aC}(hh:Fn_ x0 x1=some r):
  Con prog 69 #[.slice aI x0.length aH,.slice eF x1.length dZ] σ [] (Ij_ σ r):=by
 dsimp only [Fn_]at hh
 have f0_0b:=au.rv.big
 have f1_0b:=bP.rv.big
 refine Con.mk (n:=27) Tryz.func69 z z z (λw0=> ?_)
 refine ψ (Φ z z (ε (ψ (Φ z z (ω z (lenC z b_ z) ?_)))))
 obtain ⟨u4,hh⟩:=aP hh
 refine ν z (pz (enc:=aJ) ([]:T_1) z fK fU zF sQ z z z z (by omega) (by decide) bF (by decide) z rE (λyU yx=> ?_))
 refine Φ z z (ε (ζ (ψ (Φ z z (ω z (lenC z b_ z) (ξ z z (ε (υ (TC.ig (α:=(aC×Nat)×(Unit)) (rgs [(6,2),(13,13)]) (λg=>[(13,.int .i64 ((g.1.2:Nat):Int))]) (λg=>[φ 9 1 aJ (.slice yU (replicate x1.length ([]:T_1)).length yx) g.1.1]) (λg=>σ) (λg=>bC (λq:aC×Nat=>Qw x1 x0 q.1 q.2) g.1=some r/\g.1.1.length=(replicate x1.length ([]:T_1)).length) (λg=>f_ (λq:aC×Nat=>Qw x1 x0 q.1 q.2) g.1) (((replicate x1.length ([]:T_1)),0),()) (Sub.pre 1 z) z (by repeat (first|exact trivial|refine ⟨z,?_⟩)) ⟨hh,z⟩ (λg1 j1 hg1=> ?_))))))))))
 obtain ⟨⟨ru,aT⟩,_⟩:=g1
 obtain ⟨hh,tC⟩:=hg1
 try dsimp only at tC ⊢
 obtain ⟨z1,hh,hR1⟩:=gJ hh
 dsimp only [Qw]at hh
 refine χ (i:=0) z (λ_ hb113 _=> ?_)
 refine ψ (ω z (OpVal.lss z z z) (ε (ζ (TC.cD z hh (λjM hh=> ?_) (λjM hh=> ?_)))))
 ·refine ι (S.n (ζ (υ (ψ (ξ z z (ω z (bU z b_ dB z z bP.rv.sl (by omega)) (ω z (fF (0:Int) z fJ z bP (by omega) z) (ξ z z (ξ z z (ε (η (Φ z z (ξ z z (Φ z z (ξ z z ?_)))))))))))))))
  obtain ⟨wo,hh⟩:=aP hh
  refine ω z (OpVal.index z fK fU z z au.rv.sl wo.1 wo.2) (ω z (fF ([]:T_1) z iG z au (by omega) z) ?_)
  obtain ⟨u21,hh⟩:=aP hh
  refine TL.isSl (i:=0) z (λJ5 _ _=> ?_)
  refine ω z (bU z fK fU z z J5 (by omega)) ?_
  have KH:(ru.set aT (nth x0 ((nth x1 aT 0).toNat) [])).length=(replicate x1.length ([]:T_1)).length:=by rw [gy];exact tC
  refine ν z (lG (nth x0 ((nth x1 aT 0).toNat) []) z fU z z z z bF rE (by omega) (by omega) ?_)
  refine TL.nil (B.n (S.n (η (ω z (OpVal.succ z z z (by omega)) (ξ z z (ε ?_))))))
  obtain ⟨hh,rG⟩:=dO hR1 hh
  exact lf (((ru.set aT (nth x0 ((nth x1 aT 0).toNat) [])),(aT+1)),()) rG ⟨hh,KH⟩ (Sub.pre 1 z)
 refine TC.exit (S.x (S.x ?_))
 replace hh:=dG hR1 hh
 refine Δ (S.n (ψ (Φ z z (Φ z z (ε ?_)))))
 rw [<-tC]
 refine TC.ret ?_
 obtain rfl:=so hh
 exact ro [dW 9 aJ yU yx ru] z (RVs.tmp z RVs.nil) ⟨yU,yx,z,z,z⟩
def QE(v24:ak×Int)(v33:ak×ak)(fM:bZ)(oW:fO)(v5:Seq×Int)(dR:Nat)(lC:ak)(gq:Nat):Option ((ak×Nat)⊕((bZ×fO×Nat)⊕(Seq×Int))):=
 aN (decide ((gq:Int)<(((replicate 256 (0:Int)).length:Nat):Int))) (grd (gq<lC.length) (aN (decide (0<=(nth lC gq 0))) (grd (0<=(nth lC gq 0)/\(nth lC gq 0)<(v24.1.length:Int)) (grd (0<=(nth v24.1 ((nth lC gq 0).toNat) 0)/\(nth v24.1 ((nth lC gq 0).toNat) 0)<(v33.2.length:Int)) (grd (gq<lC.length) (nxt ((lC.set gq (nth v33.2 ((nth v24.1 ((nth lC gq 0).toNat) 0).toNat) 0)),(gq+1)))))) (nxt (lC,(gq+1))))) (fin (grd ((fM.length+[lC].length) * 24<=140737488355328) (grd ((oW.length+[((replicate 256 ([]:T_1)).take 0++((nth v5.1.outs ((nth v33.1 dR 0).toNat) []).take (min (nth v5.1.outs ((nth v33.1 dR 0).toNat) []).length (replicate 256 ([]:T_1)).length)++(replicate 256 ([]:T_1)).drop (0+(min (nth v5.1.outs ((nth v33.1 dR 0).toNat) []).length (replicate 256 ([]:T_1)).length))))].length) * 24<=140737488355328) (nxt ((fM++[lC]),(oW++[((replicate 256 ([]:T_1)).take 0++((nth v5.1.outs ((nth v33.1 dR 0).toNat) []).take (min (nth v5.1.outs ((nth v33.1 dR 0).toNat) []).length (replicate 256 ([]:T_1)).length)++(replicate 256 ([]:T_1)).drop (0+(min (nth v5.1.outs ((nth v33.1 dR 0).toNat) []).length (replicate 256 ([]:T_1)).length))))]),(dR+1))))))
def E8_(v33:ak×ak)(dR:Nat)(v5:Seq×Int)(v24:ak×Int)(fM:bZ)(oW:fO):Option ((bZ×fO×Nat)⊕(Seq×Int)):=
 grd (0<=(nth v33.1 dR 0)/\(nth v33.1 dR 0)<(v5.1.next.length:Int)) (grd (0<=(nth v33.1 dR 0)/\(nth v33.1 dR 0)<(v5.1.outs.length:Int)) (bC (λq:ak×Nat=>QE v24 v33 fM oW v5 dR q.1 q.2) (((replicate 256 (0:Int)).take 0++((nth v5.1.next ((nth v33.1 dR 0).toNat) []).take (min (nth v5.1.next ((nth v33.1 dR 0).toNat) []).length (replicate 256 (0:Int)).length)++(replicate 256 (0:Int)).drop (0+(min (nth v5.1.next ((nth v33.1 dR 0).toNat) []).length (replicate 256 (0:Int)).length)))),0)))
def Qp(v33:ak×ak)(v5:Seq×Int)(v24:ak×Int)(vO:B_1)(lD:aC)(fM:bZ)(oW:fO)(dR:Nat):Option ((bZ×fO×Nat)⊕(Seq×Int)):=
 aN (decide ((dR:Int)<((v33.1.length:Nat):Int))) (E8_ v33 dR v5 v24 fM oW) (fin (some ((⟨v5.1.front,fM,oW,vO,lD⟩:Seq),0)))
def Fv_(v33:ak×ak)(v5:Seq×Int)(v24:ak×Int)(vO:B_1)(lD:aC):Option (Seq×Int):=
 bC (λq:bZ×fO×Nat=>Qp v33 v5 v24 vO lD q.1 q.2.1 q.2.2) (([]:bZ),([]:fO),0)
def NH(x0:Seq):Option (Seq×Int):=
 bnd (Zz x0) (λv5=>aN (decide (v5.2≠0)) (some ((⟨([]:T_1),([]:bZ),([]:fO),([]:B_1),([]:aC)⟩:Seq),v5.2)) (aN (decide (((v5.1.next.length:Nat):Int)=0)) (some ((⟨([]:T_1),([]:bZ),([]:fO),([]:B_1),([]:aC)⟩:Seq),v5.2)) (bnd (Fj_ v5.1) (λv24=>bnd (E1_ v5.1 v24.1 v24.2) (λv33=>bnd (Fi_ v5.1.fin v33.1) (λv44=>bnd (Fn_ v5.1.tail v33.1) (λv48=>Fv_ v33 v5 v24 v44 v48)))))))
def Iw_(σ:aj)(r:Seq×Int):Value->aj->List Res->Prop:=λv σ' H'=>
 ∃a1 c1 a2 c2 a3 c3 a4 c4,v= .tuple #[.agg (oI r.1 a1 c1 a2 c2 a3 c3 a4 c4),.int .i64 r.2]/\RZ σ' (aB 1 aG bn) (.slice a1 r.1.next.length c1) r.1.next/\RZ σ' (aB 1 aJ bF) (.slice a2 r.1.outs.length c2) r.1.outs/\dA σ' eq_ a3 c3 r.1.fin/\dA σ' aJ a4 c4 r.1.tail/\H'=[]
theorem Ge_{σ:aj}{x0:Seq}(hgl:Dz σ 1 2)(au:RZ σ (aB 1 aG bn) (.slice aI x0.next.length aH) x0.next)(aY:RZ σ (aB 1 aJ bF) (.slice aA x0.outs.length aX) x0.outs)(aV:dA σ eq_ aU ay x0.fin)(aQ:dA σ aJ bJ bD x0.tail){r:Seq×Int}(hh:NH x0=some r):
  Con prog 29 #[.agg (oI x0 aI aH aA aX aU ay bJ bD)] σ [] (Iw_ σ r):=by
 dsimp only [NH]at hh
 have f0_0b:=au.big
 have f0_1b:=aY.big
 have f0_2b:=aV.rv.big
 have f0_3b:=aQ.rv.big
 refine Con.mk (n:=110) Tryz.func29 z z z (λw0=> ?_)
 refine ψ (ν z (boxA z z z z (λbG=> ?_)))
 refine ν z (OpOk.alloc z if_ z z (λd_=> ?_))
 refine ξ z z (ε (ψ (ω z (kG z ji fE z (i:=1) z z) ?_)))
 obtain ⟨v5,u5,hh⟩:=dM hh
 refine ν z (OpOk.call (Ie_ (x0:=x0) au aY aV aQ u5) z z pf35 z z z z ?_)
 rintro _ τ105 _ oD ⟨a105_1,c105_1,a105_2,c105_2,a105_3,c105_3,a105_4,c105_4,rfl,hr105_0,hr105_1,hr105_2,hr105_3,rfl⟩
 replace hgl:=hgl.mono oD
 have hr105_0b:=hr105_0.big
 have hr105_1b:=hr105_1.big
 have hr105_2b:=hr105_2.rv.big
 have hr105_3b:=hr105_3.rv.big
 refine ω z (wC (.inl z) z) (ω z (OpVal.extract z z z) (ω z (OpVal.extract z z z) (θ 1 z z (ν z (storeAll z fE z z z z z z ?_)))))
 refine ξ z z (ε (ζ (ψ (ξ z z (ω z (OpVal.neq z z z) (TL.j z z (TL.split 23 z (λdN=> ?_) (λdN=> ?_))))))))
 ·replace hh:=gZ dN hh
  replace dN:=jg dN
  refine π z (π z (π z (π z (ω z (dS z z z) (ε (TC.t z (ψ (ω z (nD z wP if_ z) (ξ z z (θ 1 z z (ν z (storeAll z fE z z z z z z ?_))))))))))))
  refine ξ z z (ε (TC.rt 1 (S.r ?_)))
  obtain rfl:=so hh
  exact ro [] z (RVs.agg ji fE z (i:=0) z z (RVs.tmp z RVs.nil)) ⟨none,0,none,0,none,0,none,0,z,(RZ.nilF _ (aB 1 aG bn)),(RZ.nilF _ (aB 1 aJ bF)),(RS.nilF _ eq_ jc),(RS.nilF _ aJ bF),z⟩
 replace hh:=gY dN hh
 replace dN:=jo dN
 refine Ψ z (aS z kS z) (Ψ z (aZ z jT z (i:=0) z z) (Ψ z (lenC z eU z) (Ψ z (OpVal.eql z z z) (ω z (dV z z z) (ε (TC.cD z hh (λdP hh=> ?_) (λdP hh=> ?_)))))))
 ·refine ψ (ω z (nD z wP if_ z) (ξ z z (θ 1 z z (ν z (storeAll z fE z z z z z z ?_)))))
  refine ξ z z (ε (TC.rt 1 (S.r ?_)))
  obtain rfl:=so hh
  exact ro [] z (RVs.agg ji fE z (i:=0) z z (RVs.tmp z RVs.nil)) ⟨none,0,none,0,none,0,none,0,z,(RZ.nilF _ (aB 1 aG bn)),(RZ.nilF _ (aB 1 aJ bF)),(RS.nilF _ eq_ jc),(RS.nilF _ aJ bF),z⟩
 refine ι (S.n (ψ (ω z (kG z ji fE z (i:=0) z z) ?_)))
 obtain ⟨v24,u24,hh⟩:=dM hh
 refine ν z (OpOk.call (H1_ (x0:=v5.1) hgl hr105_0 hr105_1 hr105_2 hr105_3 u24) z z pf66 z z z z ?_)
 rintro _ τ108 _ ql ⟨a108_1,c108_1,rfl,hr108_0,rfl⟩
 replace hr105_0:=hr105_0.mono ql
 replace hr105_1:=hr105_1.mono ql
 replace hr105_2:=hr105_2.mono ql
 replace hr105_3:=hr105_3.mono ql
 have hr108_0b:=hr108_0.rv.big
 refine ω z (wC (.inl z) z) (ω z (OpVal.extract z z z) (ω z (OpVal.extract z z z) (Φ z z (ξ z z (ε (ψ (ω z (kG z ji fE z (i:=0) z z) (Φ z z (ξ z z ?_)))))))))
 obtain ⟨v33,u33,hh⟩:=dM hh
 refine ν z (OpOk.call (H7_ (x0:=v5.1) hr105_0 hr105_1 hr105_2 hr105_3 hr108_0 u33) z z pf67 z z z z ?_)
 rintro _ τ109 _ lY ⟨a109_1,c109_1,a109_2,c109_2,rfl,hr109_0,hr109_1,rfl⟩
 replace hr105_0:=hr105_0.mono lY
 replace hr105_1:=hr105_1.mono lY
 replace hr105_2:=hr105_2.mono lY
 replace hr105_3:=hr105_3.mono lY
 replace hr108_0:=hr108_0.mono lY
 have hr109_0b:=hr109_0.rv.big
 have hr109_1b:=hr109_1.rv.big
 refine ω z (wC (.inl z) z) (ω z (OpVal.extract z z z) (ω z (OpVal.extract z z z) (Φ z z (Φ z z (ε (TC.cutG (α:=(B_1×aC)×(Nat×(Option Addr)×Nat×(Option Addr)×Nat)) (rgs [(9,1),(43,11)]) (λg=>[(9,loc g.2.1 0)]) (λg=>[jl bG v5.1 a105_1 c105_1 a105_2 c105_2 a105_3 c105_3 a105_4 c105_4,κ d_ #[.string (bs ([]:T_1)),bT,bT,bT,bT] 32,κ g.2.1 #[.string (bs v5.1.front),bT,bT,.slice g.2.2.1 g.1.1.length g.2.2.2.1,.slice g.2.2.2.2.1 g.1.2.length g.2.2.2.2.2] 32,φ 4 1 eq_ (.slice g.2.2.1 g.1.1.length g.2.2.2.1) g.1.1,φ 9 1 aJ (.slice g.2.2.2.2.1 g.1.2.length g.2.2.2.2.2) g.1.2]) (λg=>τ109) (λg=>Fv_ v33 v5 v24 g.1.1 g.1.2=some r) ?_ (λg j hg=> ?_)))))))
 ·skip
  obtain ⟨v44,u44,hh⟩:=dM hh
  obtain ⟨v48,u48,hh⟩:=dM hh
  refine TC.draw [12] (by kernel_rfl) (Ω 0 z (aS z DL z) z (TA.b 1 z (aZ z iG z (i:=0) z z) z (Ω 2 z (aS z tV z) z (TA.b 3 z (aZ z qV z (i:=0) z z) z (Ω 4 z (gu (.inl z) z) z (Ω 6 z (aS z uh z) z (TA.b 7 z (aZ z lJ z (i:=0) z z) z (Ω 8 z (gu (.inl z) z) z (TA.actN [5,11] (by kernel_rfl) (an z z (OpOk.call (Gz_ hr105_2 hr109_0 u44) z z pf68 z z z z ?_) (an z z (OpOk.alloc z if_ z z (λb128=>(k1 ?_))) (True.intro))))))))))))
  ·skip
   rintro _ _ _ Yr ⟨a126_1,c126_1,rfl,rfl,rfl⟩
   refine k1 (TA.actN [9,11] (by kernel_rfl) (an z z (OpOk.call (Fr_ hr105_3 hr109_0 u48) z z V9 z z z z ?_) (an z z (OpOk.alloc z if_ z z (λb132=>(k2 ?_))) (True.intro))))
   ·skip
    rintro _ _ _ qh ⟨a130_1,c130_1,rfl,rfl,rfl⟩
    refine k2 (Ω 10 z (nD z wP if_ z) z (TA.ac 11 z (OpOk.alloc z if_ z z (λb134=>(k3 ?_)))))
    refine TA.last 12 (by kernel_rfl) z z z (storeAll z fE z z z z z z ?_)
    exact TZ.done (by kernel_rfl) (S.n (cf ((v44,v48),(b134,a126_1,c126_1,a130_1,c130_1)) hh (Θ [1,2,2,4,4] 5)))
   skip
   refine TA.ac 9 z (OpOk.call (Fr_ hr105_3 hr109_0 u48) z z V9 z z z z ?_)
   rintro _ _ _ hle136 ⟨a136_1,c136_1,rfl,rfl,rfl⟩
   refine k3 (Ω 10 z (nD z wP if_ z) z (TA.front 1 z z (TA.last 12 (by kernel_rfl) z z z (storeAll z fE z z z z z z ?_))))
   exact TZ.done (by kernel_rfl) (S.n (cf ((v44,v48),(b132,a126_1,c126_1,a136_1,c136_1)) hh (Θ [1,2,2,4,4] 5)))
  skip
  refine TA.ac 5 z (OpOk.call (Gz_ hr105_2 hr109_0 u44) z z pf68 z z z z ?_)
  rintro _ _ _ hle138 ⟨a138_1,c138_1,rfl,rfl,rfl⟩
  refine k2 (TA.ac 9 z (OpOk.call (Fr_ hr105_3 hr109_0 u48) z z V9 z z z z ?_))
  rintro _ _ _ Yq ⟨a140_1,c140_1,rfl,rfl,rfl⟩
  refine k3 (Ω 10 z (nD z wP if_ z) z (TA.front 2 z z (TA.last 12 (by kernel_rfl) z z z (storeAll z fE z z z z z z ?_))))
  exact TZ.done (by kernel_rfl) (S.n (cf ((v44,v48),(b128,a138_1,c138_1,a140_1,c140_1)) hh (Θ [1,2,2,4,4] 5)))
 skip
 obtain ⟨⟨vO,lD⟩,⟨P_,pq,o_,qM,c119⟩⟩:=g
 have hh:=hg;clear hg
 try dsimp only
 dsimp only [Fv_]at hh
 refine χ (i:=3) z (λ_ hb142 _=> ?_)
 refine χ (i:=4) z (λ_ U6 _=> ?_)
 refine ζ (ψ (Φ z z (ω z (lenC z b_ z) (ξ z z (ε (υ (TC.nilS 86 1 (aB 1 aG bn).en ?_)))))))
 have wI:=ZOk.nil τ109 (aB 1 aG bn)
 refine TC.nilS 30 1 (aB 1 aJ bF).en ?_
 have A_:=ZOk.nil τ109 (aB 1 aJ bF)
 refine TC.ig (α:=(bZ×fO×Nat)×((Option Addr)×Nat×(List (ak×(aB 1 aG bn).P))×(Option Addr)×Nat×(List (aC×(aB 1 aJ bF).P))×aj)) (rgs [(11,5),(56,53)]) (λg=>[(56,.int .i64 ((g.1.2.2:Nat):Int))]) (λg=>[jl bG v5.1 a105_1 c105_1 a105_2 c105_2 a105_3 c105_3 a105_4 c105_4,κ d_ #[.string (bs ([]:T_1)),bT,bT,bT,bT] 32,κ P_ #[.string (bs v5.1.front),.slice g.2.1 g.1.1.length g.2.2.1,.slice g.2.2.2.2.1 g.1.2.1.length g.2.2.2.2.2.1,.slice pq vO.length o_,.slice qM lD.length c119] 32,φ 86 1 (aB 1 aG bn).en (.slice g.2.1 g.1.1.length g.2.2.1) g.2.2.2.1,φ 30 1 (aB 1 aJ bF).en (.slice g.2.2.2.2.1 g.1.2.1.length g.2.2.2.2.2.1) g.2.2.2.2.2.2.1,dW 4 eq_ pq o_ vO,dW 9 aJ qM c119 lD]) (λg=>g.2.2.2.2.2.2.2) (λg=>bC (λq:bZ×fO×Nat=>Qp v33 v5 v24 vO lD q.1 q.2.1 q.2.2) g.1=some r/\ZOk g.2.2.2.2.2.2.2 (aB 1 aG bn) g.2.2.2.1 g.1.1/\ZOk g.2.2.2.2.2.2.2 (aB 1 aJ bF) g.2.2.2.2.2.2.1 g.1.2.1/\aj.le τ109 g.2.2.2.2.2.2.2) (λg=>f_ (λq:bZ×fO×Nat=>Qp v33 v5 v24 vO lD q.1 q.2.1 q.2.2) g.1) ((([]:bZ),([]:fO),0),(none,0,[],none,0,[],τ109)) (Θ [6,6,2,3,6,6,6] 7) z (by repeat (first|exact trivial|refine ⟨z,?_⟩)) ⟨hh,wI,A_,(aj.le.refl _)⟩ (λg1 j1 hg1=> ?_)
 obtain ⟨⟨fM,oW,dR⟩,⟨Au,c173,Jh,Ir,Ie,Jg,τ187⟩⟩:=g1
 obtain ⟨hh,nO,kH,qc⟩:=hg1
 try dsimp only at nO
 try dsimp only at kH
 dsimp only at qc
 replace hr105_0:=hr105_0.mono qc
 replace hr105_1:=hr105_1.mono qc
 replace hr108_0:=hr108_0.mono qc
 replace hr109_0:=hr109_0.mono qc
 replace hr109_1:=hr109_1.mono qc
 try dsimp only
 obtain ⟨z1,hh,hR1⟩:=gJ hh
 dsimp only [Qp]at hh
 have zf175b:=nO.length
 have zf181b:=kH.length
 refine χ (i:=3) z (λ_ hb189 _=> ?_)
 refine χ (i:=4) z (λ_ hb190 _=> ?_)
 refine χ (i:=5) z (λ_ hb191 _=> ?_)
 refine χ (i:=6) z (λ_ hb192 _=> ?_)
 refine ψ (ω z (OpVal.lss z z z) (ε (ζ (TC.cD z hh (λAj hh=> ?_) (λAj hh=> ?_)))))
 ·refine ι (S.n (ζ (υ (ψ (ω z (bU z b_ dB z z hr109_0.rv.sl (by omega)) (ω z (fF (0:Int) z fJ z hr109_0 (by omega) z) (ξ z z (ε (TC.cutG (α:=(Unit)×((Option Addr)×Nat×(Option Addr)×Nat×aj)) [12,13,60,61] (λg=>[(12,.slice g.2.1 ((replicate 256 (0:Int)).length) g.2.2.1),(13,.slice g.2.2.2.1 ((replicate 256 ([]:T_1)).length) g.2.2.2.2.1)]) (λg=>[jl bG v5.1 a105_1 c105_1 a105_2 c105_2 a105_3 c105_3 a105_4 c105_4,κ d_ #[.string (bs ([]:T_1)),bT,bT,bT,bT] 32,κ P_ #[.string (bs v5.1.front),.slice Au fM.length c173,.slice Ir oW.length Ie,.slice pq vO.length o_,.slice qM lD.length c119] 32,φ 86 1 (aB 1 aG bn).en (.slice Au fM.length c173) Jh,φ 30 1 (aB 1 aJ bF).en (.slice Ir oW.length Ie) Jg,dW 4 eq_ pq o_ vO,dW 9 aJ qM c119 lD,φ 3 1 aG (.slice g.2.1 (replicate 256 (0:Int)).length g.2.2.1) (replicate 256 (0:Int)),φ 9 1 aJ (.slice g.2.2.2.1 (replicate 256 ([]:T_1)).length g.2.2.2.2.1) (replicate 256 ([]:T_1))]) (λg=>g.2.2.2.2.2) (λg=>E8_ v33 dR v5 v24 fM oW=some z1/\ZOk g.2.2.2.2.2 (aB 1 aG bn) Jh fM/\ZOk g.2.2.2.2.2 (aB 1 aJ bF) Jg oW/\aj.le τ187 g.2.2.2.2.2) ?_ (λg j hg=> ?_))))))))))
  ·skip
   refine TC.draw [] (by kernel_rfl) (TA.actN [0,1] (by kernel_rfl) (an z z (pz (m:=256) (enc:=aG) (0:Int) z b_ dB uV lu z z z z (by omega) (by decide) bn (by decide) z jS (λa208 YW=>(k1 ?_))) (an z z (pz (m:=256) (enc:=aJ) ([]:T_1) z fK fU zF sQ z z z z (by omega) (by decide) bF (by decide) z rE (λyB c212=>(k1 ?_))) (True.intro))))
   ·skip
    refine Ω 2 z (gu (.inr z) z) z (TA.ac 1 z (pz (m:=256) (enc:=aJ) ([]:T_1) z fK fU zF sQ z z z z (by omega) (by decide) bF (by decide) z rE (λZo YV=>(k2 ?_))))
    exact Ω 3 z (gu (.inr z) z) z (TA.dn (S.n (cf ((),(a208,YW,Zo,YV,τ187)) ⟨hh,nO,kH,(aj.le.refl _)⟩ (Θ [1,8,8,8,8,8,8,8] 9))))
   skip
   refine TA.ac 0 z (pz (m:=256) (enc:=aG) (0:Int) z b_ dB uV lu z z z z (by omega) (by decide) bn (by decide) z jS (λtY c218=>(k2 ?_)))
   exact Ω 2 z (gu (.inr z) z) z (Ω 3 z (gu (.inr z) z) z (TA.dn (S.n (cf ((),(tY,c218,yB,c212,τ187)) ⟨hh,nO,kH,(aj.le.refl _)⟩ (Θ [1,1,8,8,8,8,8,8,8] 9)))))
  skip
  obtain ⟨_,⟨oJ,c198,Iq,c201,τ220⟩⟩:=g
  obtain ⟨hh,iD,wH,pW⟩:=hg
  try dsimp only at iD
  try dsimp only at wH
  dsimp only at pW
  replace hr105_0:=hr105_0.mono pW
  replace hr105_1:=hr105_1.mono pW
  replace hr108_0:=hr108_0.mono pW
  replace hr109_1:=hr109_1.mono pW
  replace nO:=nO.mono pW
  replace kH:=kH.mono pW
  try dsimp only
  dsimp only [E8_]at hh
  have zf194b:=iD.length
  have zf195b:=wH.length
  refine χ (i:=3) z (λ_ LD _=> ?_)
  refine χ (i:=4) z (λ_ LC _=> ?_)
  refine χ (i:=5) z (λ_ UY _=> ?_)
  refine χ (i:=6) z (λ_ hb225 _=> ?_)
  refine χ (i:=7) z (λ_ hb226 _=> ?_)
  refine χ (i:=8) z (λ_ hb227 _=> ?_)
  refine ψ (Φ z z (ω z (aS z kS z) (ω z (aZ z jT z (i:=0) z z) (ξ z z ?_))))
  obtain ⟨u67,hh⟩:=aP hh
  refine ω z (OpVal.index z eU fZ z z hr105_0.isSl u67.1 u67.2) ?_
  obtain ⟨OJ,GV,hg228⟩:=RZ.seg hr105_0 ((nth v33.1 dR 0).toNat) (by omega)
  replace GV:dA _ aG OJ.1 OJ.2 (nth v5.1.next ((nth v33.1 dR 0).toNat) []):=GV
  have hk228b:=GV.rv.big
  refine ω z (OpVal.of (kZ z hs_ z hg228 z) (v':= .slice OJ.1 ((nth v5.1.next ((nth v33.1 dR 0).toNat) []).length) OJ.2) z) (TL.isSl (i:=7) z (λhs229 _ _=> ?_))
  refine θ 7 z z ?_
  have oO:((replicate 256 (0:Int)).take 0++((nth v5.1.next ((nth v33.1 dR 0).toNat) []).take (min (nth v5.1.next ((nth v33.1 dR 0).toNat) []).length (replicate 256 (0:Int)).length)++(replicate 256 (0:Int)).drop (0+(min (nth v5.1.next ((nth v33.1 dR 0).toNat) []).length (replicate 256 (0:Int)).length)))).length=(replicate 256 (0:Int)).length:=by simp only [gB,List.length_take,List.length_drop];omega
  refine ν rfl (dc_ (p:=0) (N:=(min (nth v5.1.next ((nth v33.1 dR 0).toNat) []).length (replicate 256 (0:Int)).length)) rfl b_ dB rfl rfl rfl (VwOk.self hs229) rfl rfl (by omega) rfl (SrcC.sealed GV bn) bn (by decide) jS (by first|rfl|((try simp only [List.length_take]);omega)) ?_)
  refine ε (ψ (Φ z z (ω z (aS z oQ z) (ω z (aZ z pI z (i:=1) z z) (ξ z z ?_)))))
  obtain ⟨VH,hh⟩:=aP hh
  refine ω z (OpVal.index z lI mM z z hr105_1.isSl VH.1 VH.2) ?_
  obtain ⟨OI,GU,hg232⟩:=RZ.seg hr105_1 ((nth v33.1 dR 0).toNat) (by omega)
  replace GU:dA _ aJ OI.1 OI.2 (nth v5.1.outs ((nth v33.1 dR 0).toNat) []):=GU
  have hk232b:=GU.rv.big
  refine ω z (OpVal.of (kZ z lJ z hg232 z) (v':= .slice OI.1 ((nth v5.1.outs ((nth v33.1 dR 0).toNat) []).length) OI.2) z) (TL.isSl (i:=8) z (λhs233 _ _=> ?_))
  refine θ 8 z z ?_
  have hn235:((replicate 256 ([]:T_1)).take 0++((nth v5.1.outs ((nth v33.1 dR 0).toNat) []).take (min (nth v5.1.outs ((nth v33.1 dR 0).toNat) []).length (replicate 256 ([]:T_1)).length)++(replicate 256 ([]:T_1)).drop (0+(min (nth v5.1.outs ((nth v33.1 dR 0).toNat) []).length (replicate 256 ([]:T_1)).length)))).length=(replicate 256 ([]:T_1)).length:=by simp only [gB,List.length_take,List.length_drop];omega
  refine ν rfl (dc_ (p:=0) (N:=(min (nth v5.1.outs ((nth v33.1 dR 0).toNat) []).length (replicate 256 ([]:T_1)).length)) rfl fK fU rfl rfl rfl (VwOk.self hs233) rfl rfl (by omega) rfl (SrcC.sealed GU bF) bF (by decide) rE (by first|rfl|((try simp only [List.length_take]);omega)) ?_)
  refine ε (ζ (ψ (Φ z z (ω z (lenC z b_ z) (ξ z z (ε (υ (TC.ig (α:=(ak×Nat)×(aj)) (rgs [(14,2),(78,18)]) (λg=>[(78,.int .i64 ((g.1.2:Nat):Int))]) (λg=>[jl bG v5.1 a105_1 c105_1 a105_2 c105_2 a105_3 c105_3 a105_4 c105_4,κ d_ #[.string (bs ([]:T_1)),bT,bT,bT,bT] 32,κ P_ #[.string (bs v5.1.front),.slice Au fM.length c173,.slice Ir oW.length Ie,.slice pq vO.length o_,.slice qM lD.length c119] 32,φ 86 1 (aB 1 aG bn).en (.slice Au fM.length c173) Jh,φ 30 1 (aB 1 aJ bF).en (.slice Ir oW.length Ie) Jg,dW 4 eq_ pq o_ vO,dW 9 aJ qM c119 lD,φ 3 1 aG (.slice oJ (replicate 256 (0:Int)).length c198) g.1.1,φ 9 1 aJ (.slice Iq (replicate 256 ([]:T_1)).length c201) ((replicate 256 ([]:T_1)).take 0++((nth v5.1.outs ((nth v33.1 dR 0).toNat) []).take (min (nth v5.1.outs ((nth v33.1 dR 0).toNat) []).length (replicate 256 ([]:T_1)).length)++(replicate 256 ([]:T_1)).drop (0+(min (nth v5.1.outs ((nth v33.1 dR 0).toNat) []).length (replicate 256 ([]:T_1)).length))))]) (λg=>g.2) (λg=>bC (λq:ak×Nat=>QE v24 v33 fM oW v5 dR q.1 q.2) g.1=some z1/\ZOk g.2 (aB 1 aG bn) Jh fM/\ZOk g.2 (aB 1 aJ bF) Jg oW/\g.1.1.length=(replicate 256 (0:Int)).length/\((replicate 256 ([]:T_1)).take 0++((nth v5.1.outs ((nth v33.1 dR 0).toNat) []).take (min (nth v5.1.outs ((nth v33.1 dR 0).toNat) []).length (replicate 256 ([]:T_1)).length)++(replicate 256 ([]:T_1)).drop (0+(min (nth v5.1.outs ((nth v33.1 dR 0).toNat) []).length (replicate 256 ([]:T_1)).length)))).length=(replicate 256 ([]:T_1)).length/\aj.le τ220 g.2) (λg=>f_ (λq:ak×Nat=>QE v24 v33 fM oW v5 dR q.1 q.2) g.1) ((((replicate 256 (0:Int)).take 0++((nth v5.1.next ((nth v33.1 dR 0).toNat) []).take (min (nth v5.1.next ((nth v33.1 dR 0).toNat) []).length (replicate 256 (0:Int)).length)++(replicate 256 (0:Int)).drop (0+(min (nth v5.1.next ((nth v33.1 dR 0).toNat) []).length (replicate 256 (0:Int)).length)))),0),τ220) (Θ [1,8,8,8,8,8,8,8] 9) z (by repeat (first|exact trivial|refine ⟨z,?_⟩)) ⟨hh,iD,wH,oO,hn235,(aj.le.refl _)⟩ (λg2 j2 hg2=> ?_)))))))))
  obtain ⟨⟨lC,gq⟩,τ258⟩:=g2
  obtain ⟨hh,wG,nM,Gn,xw,lW⟩:=hg2
  try dsimp only at wG
  try dsimp only at nM
  try dsimp only at Gn
  try dsimp only at xw
  dsimp only at lW
  replace hr108_0:=hr108_0.mono lW
  replace hr109_1:=hr109_1.mono lW
  replace nO:=nO.mono lW
  replace kH:=kH.mono lW
  try dsimp only
  obtain ⟨z2,hh,hR2⟩:=gJ hh
  dsimp only [QE]at hh
  have zf252b:=wG.length
  have zf253b:=nM.length
  refine χ (i:=3) z (λ_ hb260 _=> ?_)
  refine χ (i:=4) z (λ_ hb261 _=> ?_)
  refine χ (i:=5) z (λ_ hb262 _=> ?_)
  refine χ (i:=6) z (λ_ hb263 _=> ?_)
  refine χ (i:=7) z (λ_ hb264 _=> ?_)
  refine χ (i:=8) z (λ_ hb265 _=> ?_)
  refine ψ (ω z (OpVal.lss z z z) (ε (ζ (TC.cD z hh (λAi hh=> ?_) (λAi hh=> ?_)))))
  ·refine ι (S.n (ζ (υ (ψ (ξ z z ?_)))))
   obtain ⟨Oh,hh⟩:=aP hh
   refine TL.isSl (i:=7) z (λhs267 _ _=> ?_)
   refine ω z (bU z b_ dB z z hs267 (by omega)) (ω z (og (0:Int) z fJ z (q:=7) z bn (by omega) z) (ξ z z (ξ z z (ε (ψ (ξ z z (ω z (OpVal.geq z z z) (ε (TC.cD z hh (λh268 hh=> ?_) (λh268 hh=> ?_))))))))))
   ·refine η (Φ z z (ξ z z (Φ z z (Φ z z (ξ z z ?_)))))
    obtain ⟨u93,hh⟩:=aP hh
    refine ω z (OpVal.index z b_ dB z z hr108_0.rv.sl u93.1 u93.2) (ω z (fF (0:Int) z fJ z hr108_0 (by omega) z) ?_)
    obtain ⟨u95,hh⟩:=aP hh
    refine ω z (OpVal.index z b_ dB z z hr109_1.rv.sl u95.1 u95.2) (ω z (fF (0:Int) z fJ z hr109_1 (by omega) z) ?_)
    obtain ⟨u97,hh⟩:=aP hh
    refine TL.isSl (i:=7) z (λhs269 _ _=> ?_)
    refine ω z (bU z b_ dB z z hs269 (by omega)) (θ 7 z z ?_)
    have BP:(lC.set gq (nth v33.2 ((nth v24.1 ((nth lC gq 0).toNat) 0).toNat) 0)).length=(replicate 256 (0:Int)).length:=by rw [gy];exact Gn
    refine ν z (lG (nth v33.2 ((nth v24.1 ((nth lC gq 0).toNat) 0).toNat) 0) z dB z z z z bn jS (by omega) (by omega) ?_)
    refine TL.nil (B.n (S.n (η (ω z (OpVal.succ z z z (by omega)) (ξ z z (ε ?_))))))
    obtain ⟨hh,Xr⟩:=dO hR2 hh
    exact lf (((lC.set gq (nth v33.2 ((nth v24.1 ((nth lC gq 0).toNat) 0).toNat) 0)),(gq+1)),τ258) Xr ⟨hh,wG,nM,BP,xw,lW⟩ (Θ [8,1,8,8,8,8,8,8,8] 9)
   refine ι (B.n (S.n (η (ω z (OpVal.succ z z z (by omega)) (ξ z z (ε ?_))))))
   obtain ⟨hh,Xq⟩:=dO hR2 hh
   exact lf ((lC,(gq+1)),τ258) Xq ⟨hh,wG,nM,Gn,xw,lW⟩ (Θ [8,8,8,8,8,8,8,8,8] 9)
  refine TC.exit (S.x (S.x ?_))
  replace hh:=dG hR2 hh
  refine Δ (S.n (ψ (ω z (aS z kS z) (ω z (aZ z jT z (i:=2) z z) (Φ z z ?_)))))
  rw [show Value.slice oJ ((replicate 256 (0:Int)).length) c198=Value.slice oJ lC.length c198 from by rw [Gn]]
  refine θ 7 z z (TL.oh bn (λτ277 xJ Uc=> ?_))
  replace nO:=nO.mono xJ
  replace kH:=kH.mono xJ
  replace wG:=wG.mono xJ
  replace nM:=nM.mono xJ
  have hr275b:=Uc.rv.big
  have Rt:ZOk _ (aB 1 aG bn) ([(lC,(oJ,c198))]:List (ak×(aB 1 aG bn).P)) [lC]:=ZOk.cons (Uc) (ZOk.nil _ _)
  refine ν z (litZ Rt z eU fZ z lq z z z (by decide) (by decide) z (by decide) z (by decide) (λZi YQ=> ?_))
  refine θ 4 z z ?_
  obtain ⟨u105,hh⟩:=aP hh
  refine ν z (MJ (k:=(aB 1 aG bn)) wG Rt z z eU fZ mV lq z z (by decide) z z z (.inr ⟨_,0,z⟩) (by simpa using u105) (by decide) (λa280 c281 AZ=> ?_))
  refine ω z (aS z kS z) (θ 4 z z (ν z (gK z jC z z z z z ?_)))
  refine ε (η (ω z (aS z oQ z) (ω z (aZ z pI z (i:=0) z z) (Φ z z ?_))))
  rw [show Value.slice Iq ((replicate 256 ([]:T_1)).length) c201=Value.slice Iq ((replicate 256 ([]:T_1)).take 0++((nth v5.1.outs ((nth v33.1 dR 0).toNat) []).take (min (nth v5.1.outs ((nth v33.1 dR 0).toNat) []).length (replicate 256 ([]:T_1)).length)++(replicate 256 ([]:T_1)).drop (0+(min (nth v5.1.outs ((nth v33.1 dR 0).toNat) []).length (replicate 256 ([]:T_1)).length)))).length c201 from by rw [xw]]
  refine θ 8 z z (TL.oh bF (λτ287 xH T_=> ?_))
  replace nO:=nO.mono xH
  replace kH:=kH.mono xH
  replace nM:=nM.mono xH
  replace AZ:=AZ.mono xH
  have hr285b:=T_.rv.big
  have Rq:ZOk _ (aB 1 aJ bF) ([(((replicate 256 ([]:T_1)).take 0++((nth v5.1.outs ((nth v33.1 dR 0).toNat) []).take (min (nth v5.1.outs ((nth v33.1 dR 0).toNat) []).length (replicate 256 ([]:T_1)).length)++(replicate 256 ([]:T_1)).drop (0+(min (nth v5.1.outs ((nth v33.1 dR 0).toNat) []).length (replicate 256 ([]:T_1)).length)))),(Iq,c201))]:List (aC×(aB 1 aJ bF).P)) [((replicate 256 ([]:T_1)).take 0++((nth v5.1.outs ((nth v33.1 dR 0).toNat) []).take (min (nth v5.1.outs ((nth v33.1 dR 0).toNat) []).length (replicate 256 ([]:T_1)).length)++(replicate 256 ([]:T_1)).drop (0+(min (nth v5.1.outs ((nth v33.1 dR 0).toNat) []).length (replicate 256 ([]:T_1)).length))))]:=ZOk.cons (T_) (ZOk.nil _ _)
  refine ν z (litZ Rq z lI mM z Hy z z z (by decide) (by decide) z (by decide) z (by decide) (λa283 c284=> ?_))
  refine θ 6 z z ?_
  obtain ⟨Ht,hh⟩:=aP hh
  refine ν z (MJ (k:=(aB 1 aJ bF)) nM Rq z z lI mM RP Hy z z (by decide) z z z (.inr ⟨_,0,z⟩) (by simpa using Ht) (by decide) (λa290 c291 zf292=> ?_))
  refine ω z (aS z oQ z) (θ 2 z z (ν z (gK z RQ z z z z z ?_)))
  refine TL.nil (B.n (S.n (η (ω z (OpVal.succ z z z (by omega)) (ξ z z (ε ?_))))))
  obtain ⟨hh,Xj⟩:=dO hR1 hh
  exact lf (((fM++[lC]),(oW++[((replicate 256 ([]:T_1)).take 0++((nth v5.1.outs ((nth v33.1 dR 0).toNat) []).take (min (nth v5.1.outs ((nth v33.1 dR 0).toNat) []).length (replicate 256 ([]:T_1)).length)++(replicate 256 ([]:T_1)).drop (0+(min (nth v5.1.outs ((nth v33.1 dR 0).toNat) []).length (replicate 256 ([]:T_1)).length))))]),(dR+1)),(a280,c281,(Jh++([(lC,(oJ,c198))]:List (ak×(aB 1 aG bn).P))),a290,c291,(Jg++([(((replicate 256 ([]:T_1)).take 0++((nth v5.1.outs ((nth v33.1 dR 0).toNat) []).take (min (nth v5.1.outs ((nth v33.1 dR 0).toNat) []).length (replicate 256 ([]:T_1)).length)++(replicate 256 ([]:T_1)).drop (0+(min (nth v5.1.outs ((nth v33.1 dR 0).toNat) []).length (replicate 256 ([]:T_1)).length)))),(Iq,c201))]:List (aC×(aB 1 aJ bF).P))),τ287)) Xj ⟨hh,AZ,zf292,((((qc.trans pW).trans lW).trans xJ).trans xH)⟩ (Θ [8,8,3,5,4,8,8] 7)
 refine TC.exit (S.x (S.x ?_))
 replace hh:=dG hR1 hh
 refine Δ (S.n (ψ (ω z (kG z ji fE z (i:=2) z z) (θ 1 z z (ν z (storeAll z fE z z z z z z ?_))))))
 refine ξ z z (ε (TC.front 3 z z (TC.Md nO (λτ296 Yh vw=> ?_))))
 replace kH:=kH.mono Yh
 have hr294b:=vw.big
 refine TC.front 3 z z (TC.Md kH (λτ299 Yg zn=> ?_))
 replace vw:=vw.mono Yg
 have hr297b:=zn.big
 refine TC.front 3 z z (TC.oh jc (λτ302 KW FW=> ?_))
 replace vw:=vw.mono KW
 replace zn:=zn.mono KW
 have hr300b:=FW.rv.big
 refine TC.front 3 z z (TC.oh bF (λτ305 Ez TY=> ?_))
 replace vw:=vw.mono Ez
 replace zn:=zn.mono Ez
 replace FW:=FW.mono Ez
 have hr303b:=TY.rv.big
 refine TC.rt 1 ?_
 obtain rfl:=so hh
 exact ro [] z (RVs.agg ji fE z (i:=0) z z (RVs.tmp z RVs.nil)) ⟨Au,c173,Ir,Ie,pq,o_,qM,c119,z,vw,zn,FW,TY,z⟩
def Dl_(x0:B_1)(x1:B_1)(cZ:Nat):Option ((Nat)⊕(Bool)):=
 aN (decide ((cZ:Int)<((x0.length:Nat):Int))) (grd (cZ<x1.length) (aN ((nth x0 cZ false) != (nth x1 cZ false)) (fin (some false)) (nxt (cZ+1)))) (fin (some true))
def Eh_(x0:B_1)(x1:B_1):Option (Bool):=
 aN (decide (((x0.length:Nat):Int)≠((x1.length:Nat):Int))) (some false) (bC (λq:Nat=>Dl_ x0 x1 q) 0)
theorem Hn_{σ:aj}{x0:B_1}{x1:B_1}(au:dA σ eq_ aI aH x0)(bP:dA σ eq_ eF dZ x1){r:Bool}(hh:Eh_ x0 x1=some r):
  Con prog 113 #[.slice aI x0.length aH,.slice eF x1.length dZ] σ [] (jQ (.bool r) σ):=by
 dsimp only [Eh_]at hh
 have f0_0b:=au.rv.big
 have f1_0b:=bP.rv.big
 refine Con.mk (n:=26) Tryz.func113 z z z (λw0=> ?_)
 refine ψ (TL.j z z (ε (ζ (ψ (Φ z z (ω z (lenC z gI z) (Φ z z (ω z (lenC z gI z) (ω z (OpVal.neq z z z) (ε (TC.cD z hh (λfC hh=> ?_) (λfC hh=> ?_))))))))))))
 ·refine ψ (TL.j z z (ε (TC.ret (S.r ?_))))
  obtain rfl:=so hh
  exact rq [4] ⟨z,z,z⟩
 refine ι (S.n (ζ (ψ (Φ z z (ω z (lenC z gI z) (ξ z z (ε (υ (TC.ig (α:=(Nat)×(Unit)) (rgs [(4,2),(13,13)]) (λg=>[(13,.int .i64 ((g.1:Nat):Int))]) (λg=>[]) (λg=>σ) (λg=>bC (λq:Nat=>Dl_ x0 x1 q) g.1=some r) (λg=>f_ (λq:Nat=>Dl_ x0 x1 q) g.1) (0,()) (Sub.pre 0 z) z (by repeat (first|exact trivial|refine ⟨z,?_⟩)) hh (λg1 j1 hg1=> ?_))))))))))
 obtain ⟨cZ,_⟩:=g1
 have hh:=hg1;clear hg1
 try dsimp only
 obtain ⟨z1,hh,hR1⟩:=gJ hh
 dsimp only [Dl_]at hh
 refine ψ (ω z (OpVal.lss z z z) (ε (ζ (TC.cD z hh (λbW hh=> ?_) (λbW hh=> ?_)))))
 ·refine ι (S.n (ζ (υ (ψ (ξ z z (ξ z z (ε (ζ ?_))))))))
  obtain ⟨u20,hh⟩:=aP hh
  refine TC.draw [] (by kernel_rfl) (Ω 0 z (gu (.inl z) z) z (Ω 1 z (dw (.inl z) z) z (TA.b 2 z (bU z gI gQ z z au.rv.sl (by omega)) z (TA.b 3 z (fF false z nG z au (by omega) z) z (Ω 4 z (gu (.inl z) z) z (Ω 5 z (dw (.inl z) z) z (TA.b 6 z (bU z gI gQ z z bP.rv.sl (by omega)) z (TA.b 7 z (fF false z nG z bP (by omega) z) z (Ω 8 z (neqB z z z underlying4) z (TA.dn (S.n (TC.cB z hh (λdN hh=> ?_) (λdN hh=> ?_)))))))))))))
  ·refine ψ (TL.j z z (ε (TC.ret (B.r (S.r (S.r ?_))))))
   replace hh:=dG hR1 hh
   refine B.r (S.r ?_)
   obtain rfl:=so hh
   exact rq [4] ⟨z,z,z⟩
  refine ι (B.n (S.n (η (ω z (OpVal.succ z z z (by omega)) (ξ z z (ε ?_))))))
  obtain ⟨hh,jZ⟩:=dO hR1 hh
  exact lf ((cZ+1),()) jZ hh (Sub.pre 0 z)
 refine TC.exit (S.x (S.x ?_))
 replace hh:=dG hR1 hh
 refine Δ (S.n (ψ (TL.j z z (ε (TC.ret ?_)))))
 obtain rfl:=so hh
 exact rq [4] ⟨z,z,z⟩
def Do_(x0:aC)(x1:aC)(cZ:Nat):Option ((Nat)⊕(Bool)):=
 aN (decide ((cZ:Int)<((x0.length:Nat):Int))) (grd (cZ<x1.length) (aN (decide ((nth x0 cZ [])≠(nth x1 cZ []))) (fin (some false)) (nxt (cZ+1)))) (fin (some true))
def Ds_(x0:aC)(x1:aC):Option (Bool):=
 aN (decide (((x0.length:Nat):Int)≠((x1.length:Nat):Int))) (some false) (bC (λq:Nat=>Do_ x0 x1 q) 0)
theorem Ga_{σ:aj}{x0:aC}{x1:aC}(au:dA σ aJ aI aH x0)(bP:dA σ aJ eF dZ x1){r:Bool}(hh:Ds_ x0 x1=some r):
  Con prog 114 #[.slice aI x0.length aH,.slice eF x1.length dZ] σ [] (jQ (.bool r) σ):=by
 dsimp only [Ds_]at hh
 have f0_0b:=au.rv.big
 have f1_0b:=bP.rv.big
 refine Con.mk (n:=26) Tryz.func114 z z z (λw0=> ?_)
 refine ψ (TL.j z z (ε (ζ (ψ (Φ z z (ω z (lenC z fK z) (Φ z z (ω z (lenC z fK z) (ω z (OpVal.neq z z z) (ε (TC.cD z hh (λfC hh=> ?_) (λfC hh=> ?_))))))))))))
 ·refine ψ (TL.j z z (ε (TC.ret (S.r ?_))))
  obtain rfl:=so hh
  exact rq [4] ⟨z,z,z⟩
 refine ι (S.n (ζ (ψ (Φ z z (ω z (lenC z fK z) (ξ z z (ε (υ (TC.ig (α:=(Nat)×(Unit)) (rgs [(4,2),(13,13)]) (λg=>[(13,.int .i64 ((g.1:Nat):Int))]) (λg=>[]) (λg=>σ) (λg=>bC (λq:Nat=>Do_ x0 x1 q) g.1=some r) (λg=>f_ (λq:Nat=>Do_ x0 x1 q) g.1) (0,()) (Sub.pre 0 z) z (by repeat (first|exact trivial|refine ⟨z,?_⟩)) hh (λg1 j1 hg1=> ?_))))))))))
 obtain ⟨cZ,_⟩:=g1
 have hh:=hg1;clear hg1
 try dsimp only
 obtain ⟨z1,hh,hR1⟩:=gJ hh
 dsimp only [Do_]at hh
 refine ψ (ω z (OpVal.lss z z z) (ε (ζ (TC.cD z hh (λbW hh=> ?_) (λbW hh=> ?_)))))
 ·refine ι (S.n (ζ (υ (ψ (ξ z z (ξ z z (ε (ζ ?_))))))))
  obtain ⟨u20,hh⟩:=aP hh
  refine TC.draw [] (by kernel_rfl) (Ω 0 z (gu (.inl z) z) z (Ω 1 z (dw (.inl z) z) z (TA.b 2 z (bU z fK fU z z au.rv.sl (by omega)) z (TA.b 3 z (fF ([]:T_1) z iG z au (by omega) z) z (Ω 4 z (gu (.inl z) z) z (Ω 5 z (dw (.inl z) z) z (TA.b 6 z (bU z fK fU z z bP.rv.sl (by omega)) z (TA.b 7 z (fF ([]:T_1) z iG z bP (by omega) z) z (Ω 8 z (Ih z z z) z (TA.dn (S.n (TC.cD z hh (λdN hh=> ?_) (λdN hh=> ?_)))))))))))))
  ·refine ψ (TL.j z z (ε (TC.ret (B.r (S.r (S.r ?_))))))
   replace hh:=dG hR1 hh
   refine B.r (S.r ?_)
   obtain rfl:=so hh
   exact rq [4] ⟨z,z,z⟩
  refine ι (B.n (S.n (η (ω z (OpVal.succ z z z (by omega)) (ξ z z (ε ?_))))))
  obtain ⟨hh,jZ⟩:=dO hR1 hh
  exact lf ((cZ+1),()) jZ hh (Sub.pre 0 z)
 refine TC.exit (S.x (S.x ?_))
 replace hh:=dG hR1 hh
 refine Δ (S.n (ψ (TL.j z z (ε (TC.ret ?_)))))
 obtain rfl:=so hh
 exact rq [4] ⟨z,z,z⟩
def Dm_(x0:ak)(x1:ak)(cZ:Nat):Option ((Nat)⊕(Bool)):=
 aN (decide ((cZ:Int)<((x0.length:Nat):Int))) (grd (cZ<x1.length) (aN (decide ((nth x0 cZ 0)≠(nth x1 cZ 0))) (fin (some false)) (nxt (cZ+1)))) (fin (some true))
def Eo_(x0:ak)(x1:ak):Option (Bool):=
 aN (decide (((x0.length:Nat):Int)≠((x1.length:Nat):Int))) (some false) (bC (λq:Nat=>Dm_ x0 x1 q) 0)
theorem Hp_{σ:aj}{x0:ak}{x1:ak}(au:dA σ aG aI aH x0)(bP:dA σ aG eF dZ x1){r:Bool}(hh:Eo_ x0 x1=some r):
  Con prog 116 #[.slice aI x0.length aH,.slice eF x1.length dZ] σ [] (jQ (.bool r) σ):=by
 dsimp only [Eo_]at hh
 have f0_0b:=au.rv.big
 have f1_0b:=bP.rv.big
 refine Con.mk (n:=26) Tryz.func116 z z z (λw0=> ?_)
 refine ψ (TL.j z z (ε (ζ (ψ (Φ z z (ω z (lenC z b_ z) (Φ z z (ω z (lenC z b_ z) (ω z (OpVal.neq z z z) (ε (TC.cD z hh (λfC hh=> ?_) (λfC hh=> ?_))))))))))))
 ·refine ψ (TL.j z z (ε (TC.ret (S.r ?_))))
  obtain rfl:=so hh
  exact rq [4] ⟨z,z,z⟩
 refine ι (S.n (ζ (ψ (Φ z z (ω z (lenC z b_ z) (ξ z z (ε (υ (TC.ig (α:=(Nat)×(Unit)) (rgs [(4,2),(13,13)]) (λg=>[(13,.int .i64 ((g.1:Nat):Int))]) (λg=>[]) (λg=>σ) (λg=>bC (λq:Nat=>Dm_ x0 x1 q) g.1=some r) (λg=>f_ (λq:Nat=>Dm_ x0 x1 q) g.1) (0,()) (Sub.pre 0 z) z (by repeat (first|exact trivial|refine ⟨z,?_⟩)) hh (λg1 j1 hg1=> ?_))))))))))
 obtain ⟨cZ,_⟩:=g1
 have hh:=hg1;clear hg1
 try dsimp only
 obtain ⟨z1,hh,hR1⟩:=gJ hh
 dsimp only [Dm_]at hh
 refine ψ (ω z (OpVal.lss z z z) (ε (ζ (TC.cD z hh (λbW hh=> ?_) (λbW hh=> ?_)))))
 ·refine ι (S.n (ζ (υ (ψ (ξ z z (ξ z z (ε (ζ ?_))))))))
  obtain ⟨u20,hh⟩:=aP hh
  refine TC.draw [] (by kernel_rfl) (Ω 0 z (gu (.inl z) z) z (Ω 1 z (dw (.inl z) z) z (TA.b 2 z (bU z b_ dB z z au.rv.sl (by omega)) z (TA.b 3 z (fF (0:Int) z fJ z au (by omega) z) z (Ω 4 z (gu (.inl z) z) z (Ω 5 z (dw (.inl z) z) z (TA.b 6 z (bU z b_ dB z z bP.rv.sl (by omega)) z (TA.b 7 z (fF (0:Int) z fJ z bP (by omega) z) z (Ω 8 z (OpVal.neq z z z) z (TA.dn (S.n (TC.cD z hh (λdN hh=> ?_) (λdN hh=> ?_)))))))))))))
  ·refine ψ (TL.j z z (ε (TC.ret (B.r (S.r (S.r ?_))))))
   replace hh:=dG hR1 hh
   refine B.r (S.r ?_)
   obtain rfl:=so hh
   exact rq [4] ⟨z,z,z⟩
  refine ι (B.n (S.n (η (ω z (OpVal.succ z z z (by omega)) (ξ z z (ε ?_))))))
  obtain ⟨hh,jZ⟩:=dO hR1 hh
  exact lf ((cZ+1),()) jZ hh (Sub.pre 0 z)
 refine TC.exit (S.x (S.x ?_))
 replace hh:=dG hR1 hh
 refine Δ (S.n (ψ (TL.j z z (ε (TC.ret ?_)))))
 obtain rfl:=so hh
 exact rq [4] ⟨z,z,z⟩
def Cm_(x0:bZ)(x1:bZ)(cZ:Nat):Option ((Nat)⊕(Bool)):=
 aN (decide ((cZ:Int)<((x0.length:Nat):Int))) (grd (cZ<x1.length) (bnd (Eo_ (nth x0 cZ []) (nth x1 cZ [])) (λv25=>aN (!v25) (fin (some false)) (nxt (cZ+1))))) (fin (some true))
def Dc_(x0:bZ)(x1:bZ):Option (Bool):=
 aN (decide (((x0.length:Nat):Int)≠((x1.length:Nat):Int))) (some false) (bC (λq:Nat=>Cm_ x0 x1 q) 0)
theorem Gx_{σ:aj}{x0:bZ}{x1:bZ}(au:RZ σ (aB 1 aG bn) (.slice aI x0.length aH) x0)(bP:RZ σ (aB 1 aG bn) (.slice eF x1.length dZ) x1){r:Bool}(hh:Dc_ x0 x1=some r):
  Con prog 115 #[.slice aI x0.length aH,.slice eF x1.length dZ,.func (.func 116) #[] #[]] σ [] (jQ (.bool r) σ):=by
 dsimp only [Dc_]at hh
 have f0_0b:=au.big
 have f1_0b:=bP.big
 refine Con.mk (n:=32) Tryz.func115 z z z (λw0=> ?_)
 refine ψ (TL.j z z (ε (ζ (ψ (Φ z z (ω z (lenC z eU z) (Φ z z (ω z (lenC z eU z) (ω z (OpVal.neq z z z) (ε (TC.cD z hh (λfC hh=> ?_) (λfC hh=> ?_))))))))))))
 ·refine ψ (TL.j z z (ε (TC.ret (S.r ?_))))
  obtain rfl:=so hh
  exact rq [6] ⟨z,z,z⟩
 refine ι (S.n (ζ (ψ (Φ z z (ω z (lenC z eU z) (ξ z z (ε (υ (TC.ig (α:=(Nat)×(Unit)) (rgs [(6,4),(17,15)]) (λg=>[(17,.int .i64 ((g.1:Nat):Int))]) (λg=>[]) (λg=>σ) (λg=>bC (λq:Nat=>Cm_ x0 x1 q) g.1=some r) (λg=>f_ (λq:Nat=>Cm_ x0 x1 q) g.1) (0,()) (Sub.pre 0 z) z (by repeat (first|exact trivial|refine ⟨z,?_⟩)) hh (λg1 j1 hg1=> ?_))))))))))
 obtain ⟨cZ,_⟩:=g1
 have hh:=hg1;clear hg1
 try dsimp only
 obtain ⟨z1,hh,hR1⟩:=gJ hh
 dsimp only [Cm_]at hh
 refine ψ (ω z (OpVal.lss z z z) (ε (ζ (TC.cD z hh (λbW hh=> ?_) (λbW hh=> ?_)))))
 ·refine ι (S.n (ζ (υ (ψ (ξ z z (ω z (bU z eU fZ z z au.isSl (by omega)) ?_))))))
  obtain ⟨zQ,tK,Lu⟩:=RZ.seg au cZ (by omega)
  replace tK:dA _ aG zQ.1 zQ.2 (nth x0 cZ []):=tK
  have hk106b:=tK.rv.big
  refine ω z (OpVal.of (kZ z hs_ z Lu z) (v':= .slice zQ.1 ((nth x0 cZ []).length) zQ.2) z) (ξ z z (Φ z z (ε (ψ (Φ z z (ξ z z ?_))))))
  obtain ⟨wo,hh⟩:=aP hh
  refine ω z (bU z eU fZ z z bP.isSl (by omega)) ?_
  obtain ⟨zO,tJ,Ls⟩:=RZ.seg bP cZ (by omega)
  replace tJ:dA _ aG zO.1 zO.2 (nth x1 cZ []):=tJ
  have hk107b:=tJ.rv.big
  refine ω z (OpVal.of (kZ z hs_ z Ls z) (v':= .slice zO.1 ((nth x1 cZ []).length) zO.2) z) (Φ z z (ε (ψ (ω z (Vb (.inl z) z) (Φ z z (Φ z z ?_))))))
  obtain ⟨v25,u25,hh⟩:=dM hh
  refine ν z (jF (Hp_ tK tJ u25) z z pf116 z z z ?_)
  refine ω z (OpVal.not z z) (ε (TC.cB z hh (λdU hh=> ?_) (λdU hh=> ?_)))
  ·refine ψ (TL.j z z (ε (TC.ret (B.r (S.r (S.r ?_))))))
   replace hh:=dG hR1 hh
   refine B.r (S.r ?_)
   obtain rfl:=so hh
   exact rq [6] ⟨z,z,z⟩
  refine ι (B.n (S.n (η (ω z (OpVal.succ z z z (by omega)) (ξ z z (ε ?_))))))
  obtain ⟨hh,Es⟩:=dO hR1 hh
  exact lf ((cZ+1),()) Es hh (Sub.pre 0 z)
 refine TC.exit (S.x (S.x ?_))
 replace hh:=dG hR1 hh
 refine Δ (S.n (ψ (TL.j z z (ε (TC.ret ?_)))))
 obtain rfl:=so hh
 exact rq [6] ⟨z,z,z⟩
def Cp_(x0:fO)(x1:fO)(cZ:Nat):Option ((Nat)⊕(Bool)):=
 aN (decide ((cZ:Int)<((x0.length:Nat):Int))) (grd (cZ<x1.length) (bnd (Ds_ (nth x0 cZ []) (nth x1 cZ [])) (λv25=>aN (!v25) (fin (some false)) (nxt (cZ+1))))) (fin (some true))
def De_(x0:fO)(x1:fO):Option (Bool):=
 aN (decide (((x0.length:Nat):Int)≠((x1.length:Nat):Int))) (some false) (bC (λq:Nat=>Cp_ x0 x1 q) 0)
theorem Gu_{σ:aj}{x0:fO}{x1:fO}(au:RZ σ (aB 1 aJ bF) (.slice aI x0.length aH) x0)(bP:RZ σ (aB 1 aJ bF) (.slice eF x1.length dZ) x1){r:Bool}(hh:De_ x0 x1=some r):
  Con prog 117 #[.slice aI x0.length aH,.slice eF x1.length dZ,.func (.func 114) #[] #[]] σ [] (jQ (.bool r) σ):=by
 dsimp only [De_]at hh
 have f0_0b:=au.big
 have f1_0b:=bP.big
 refine Con.mk (n:=32) Tryz.func117 z z z (λw0=> ?_)
 refine ψ (TL.j z z (ε (ζ (ψ (Φ z z (ω z (lenC z lI z) (Φ z z (ω z (lenC z lI z) (ω z (OpVal.neq z z z) (ε (TC.cD z hh (λfC hh=> ?_) (λfC hh=> ?_))))))))))))
 ·refine ψ (TL.j z z (ε (TC.ret (S.r ?_))))
  obtain rfl:=so hh
  exact rq [6] ⟨z,z,z⟩
 refine ι (S.n (ζ (ψ (Φ z z (ω z (lenC z lI z) (ξ z z (ε (υ (TC.ig (α:=(Nat)×(Unit)) (rgs [(6,4),(17,15)]) (λg=>[(17,.int .i64 ((g.1:Nat):Int))]) (λg=>[]) (λg=>σ) (λg=>bC (λq:Nat=>Cp_ x0 x1 q) g.1=some r) (λg=>f_ (λq:Nat=>Cp_ x0 x1 q) g.1) (0,()) (Sub.pre 0 z) z (by repeat (first|exact trivial|refine ⟨z,?_⟩)) hh (λg1 j1 hg1=> ?_))))))))))
 obtain ⟨cZ,_⟩:=g1
 have hh:=hg1;clear hg1
 try dsimp only
 obtain ⟨z1,hh,hR1⟩:=gJ hh
 dsimp only [Cp_]at hh
 refine ψ (ω z (OpVal.lss z z z) (ε (ζ (TC.cD z hh (λbW hh=> ?_) (λbW hh=> ?_)))))
 ·refine ι (S.n (ζ (υ (ψ (ξ z z (ω z (bU z lI mM z z au.isSl (by omega)) ?_))))))
  obtain ⟨zQ,tK,Lu⟩:=RZ.seg au cZ (by omega)
  replace tK:dA _ aJ zQ.1 zQ.2 (nth x0 cZ []):=tK
  have hk106b:=tK.rv.big
  refine ω z (OpVal.of (kZ z lJ z Lu z) (v':= .slice zQ.1 ((nth x0 cZ []).length) zQ.2) z) (ξ z z (Φ z z (ε (ψ (Φ z z (ξ z z ?_))))))
  obtain ⟨wo,hh⟩:=aP hh
  refine ω z (bU z lI mM z z bP.isSl (by omega)) ?_
  obtain ⟨zO,tJ,Ls⟩:=RZ.seg bP cZ (by omega)
  replace tJ:dA _ aJ zO.1 zO.2 (nth x1 cZ []):=tJ
  have hk107b:=tJ.rv.big
  refine ω z (OpVal.of (kZ z lJ z Ls z) (v':= .slice zO.1 ((nth x1 cZ []).length) zO.2) z) (Φ z z (ε (ψ (ω z (Vb (.inl z) z) (Φ z z (Φ z z ?_))))))
  obtain ⟨v25,u25,hh⟩:=dM hh
  refine ν z (jF (Ga_ tK tJ u25) z z SS z z z ?_)
  refine ω z (OpVal.not z z) (ε (TC.cB z hh (λdU hh=> ?_) (λdU hh=> ?_)))
  ·refine ψ (TL.j z z (ε (TC.ret (B.r (S.r (S.r ?_))))))
   replace hh:=dG hR1 hh
   refine B.r (S.r ?_)
   obtain rfl:=so hh
   exact rq [6] ⟨z,z,z⟩
  refine ι (B.n (S.n (η (ω z (OpVal.succ z z z (by omega)) (ξ z z (ε ?_))))))
  obtain ⟨hh,Es⟩:=dO hR1 hh
  exact lf ((cZ+1),()) Es hh (Sub.pre 0 z)
 refine TC.exit (S.x (S.x ?_))
 replace hh:=dG hR1 hh
 refine Δ (S.n (ψ (TL.j z z (ε (TC.ret ?_)))))
 obtain rfl:=so hh
 exact rq [6] ⟨z,z,z⟩
def ZB(x0:Seq)(x1:Seq):Option (Bool):=
 aN (decide (x0.front=x1.front)) (bnd (Eh_ x0.fin x1.fin) (λv14=>aN v14 (bnd (Ds_ x0.tail x1.tail) (λv21=>aN v21 (bnd (Dc_ x0.next x1.next) (λv28=>aN v28 (bnd (De_ x0.outs x1.outs) (λv35=>some v35)) (some false))) (some false))) (some false))) (some false)
theorem H3_{σ:aj}{x0:Seq}{x1:Seq}(au:RZ σ (aB 1 aG bn) (.slice aI x0.next.length aH) x0.next)(aY:RZ σ (aB 1 aJ bF) (.slice aA x0.outs.length aX) x0.outs)(aV:dA σ eq_ aU ay x0.fin)(aQ:dA σ aJ bJ bD x0.tail)(bP:RZ σ (aB 1 aG bn) (.slice eF x1.next.length dZ) x1.next)(ku:RZ σ (aB 1 aJ bF) (.slice iL x1.outs.length o9) x1.outs)(kQ:dA σ eq_ nH iK x1.fin)(j_:dA σ aJ rZ o8 x1.tail){r:Bool}(hh:ZB x0 x1=some r):
  Con prog 76 #[.agg (oI x0 aI aH aA aX aU ay bJ bD),.agg (oI x1 eF dZ iL o9 nH iK rZ o8)] σ [] (jQ (.bool r) σ):=by
 dsimp only [ZB]at hh
 have f0_0b:=au.big
 have f0_1b:=aY.big
 have f0_2b:=aV.rv.big
 have f0_3b:=aQ.rv.big
 have f1_0b:=bP.big
 have f1_1b:=ku.big
 have f1_2b:=kQ.rv.big
 have f1_3b:=j_.rv.big
 refine Con.mk (n:=38) Tryz.func76 z z z (λw0=> ?_)
 refine ψ (ν z (boxA z z z z (λbG=> ?_)))
 refine ν z (boxA z z z z (λd_=> ?_))
 refine TL.j z z (ε (ψ (ω z (aS z DL z) (ω z (aZ z iG z (i:=1) z z) (ω z (aS z DL z) (ω z (aZ z iG z (i:=0) z z) (ω z (cw_ z z z) (TL.j z z (TL.split 10 z (λbW=> ?_) (λbW=> ?_))))))))))
 ·replace hh:=gZ bW hh
  replace bW:=jg bW
  refine Ψ z (aS z tV z) (Ψ z (aZ z qV z (i:=1) z z) (Ψ z (aS z tV z) (Ψ z (aZ z qV z (i:=0) z z) ?_)))
  obtain ⟨v14,u14,hh⟩:=dM hh
  refine TL.gon z z z z z (jF (Hn_ aV kQ u14) z z pf113 z z z ?_)
  refine ω z (dS z z z) (TL.j z z (TL.split 17 z (λdN=> ?_) (λdN=> ?_)))
  ·replace hh:=gZ dN hh
   refine Ψ z (aS z uh z) (Ψ z (aZ z lJ z (i:=1) z z) (Ψ z (aS z uh z) (Ψ z (aZ z lJ z (i:=0) z z) ?_)))
   obtain ⟨v21,u21,hh⟩:=dM hh
   refine TL.gon z z z z z (jF (Ga_ aQ j_ u21) z z SS z z z ?_)
   refine ω z (dS z z z) (TL.j z z (TL.split 24 z (λdP=> ?_) (λdP=> ?_)))
   ·replace hh:=gZ dP hh
    refine Ψ z (aS z kS z) (Ψ z (aZ z jT z (i:=1) z z) (Ψ z (aS z kS z) (Ψ z (aZ z jT z (i:=0) z z) ?_)))
    obtain ⟨v28,u28,hh⟩:=dM hh
    refine TL.gon z z z z z (jF (Gx_ au bP u28) z z pf115 z z z ?_)
    refine ω z (dS z z z) (TL.j z z (TL.split 31 z (λdU=> ?_) (λdU=> ?_)))
    ·replace hh:=gZ dU hh
     refine Ψ z (aS z oQ z) (Ψ z (aZ z pI z (i:=1) z z) (Ψ z (aS z oQ z) (Ψ z (aZ z pI z (i:=0) z z) ?_)))
     obtain ⟨v35,u35,hh⟩:=dM hh
     refine TL.gon z z z z z (jF (Gu_ aY ku u35) z z pf117 z z z ?_)
     refine ω z (dS z z z) (TL.j z z (ε (TC.rt 0 ?_)))
     obtain rfl:=so hh
     exact rq [4] ⟨z,z,z⟩
    replace hh:=gY dU hh
    refine π z (π z (π z (π z (π z (ω z (dV z z z) (TL.j z z (ε (TC.rt 0 ?_))))))))
    obtain rfl:=so hh
    exact rq [4] ⟨z,z,z⟩
   replace hh:=gY dP hh
   refine π z (π z (π z (π z (π z (ω z (dV z z z) (TL.j z z (π z (π z (π z (π z (π z (ω z (dV z z z) (TL.j z z (ε (TC.rt 0 ?_)))))))))))))))
   obtain rfl:=so hh
   exact rq [4] ⟨z,z,z⟩
  replace hh:=gY dN hh
  refine π z (π z (π z (π z (π z (ω z (dV z z z) (TL.j z z (π z (π z (π z (π z (π z (ω z (dV z z z) (TL.j z z (π z (π z ?_)))))))))))))))
  refine π z (π z (π z (ω z (dV z z z) (TL.j z z (ε (TC.rt 0 ?_))))))
  obtain rfl:=so hh
  exact rq [4] ⟨z,z,z⟩
 replace hh:=gY bW hh
 replace bW:=jo bW
 refine π z (π z (π z (π z (π z (ω z (dV z z z) (TL.j z z (π z (π z (π z (π z (π z (ω z (dV z z z) (TL.j z z (π z (π z ?_)))))))))))))))
 refine π z (π z (π z (ω z (dV z z z) (TL.j z z (π z (π z (π z (π z (π z (ω z (dV z z z) (TL.j z z (ε (TC.rt 0 ?_)))))))))))))
 obtain rfl:=so hh
 exact rq [4] ⟨z,z,z⟩
def F0_(x0:Seq)(x1:Seq):Option (Bool×Int):=
 bnd (NG x0) (λv6=>aN (decide (v6≠0)) (some (false,1)) (bnd (NG x1) (λv10=>aN (decide (v10≠0)) (some (false,1)) (bnd (NH x0) (λv16=>aN (decide (v16.2≠0)) (some (false,v16.2)) (bnd (NH x1) (λv28=>aN (decide (v28.2≠0)) (some (false,v28.2)) (bnd (ZB v16.1 v28.1) (λv41=>some (v41,0))))))))))
theorem Ib_{σ:aj}{x0:Seq}{x1:Seq}(hgl:Dz σ 1 2)(au:RZ σ (aB 1 aG bn) (.slice aI x0.next.length aH) x0.next)(aY:RZ σ (aB 1 aJ bF) (.slice aA x0.outs.length aX) x0.outs)(aV:dA σ eq_ aU ay x0.fin)(aQ:dA σ aJ bJ bD x0.tail)(bP:RZ σ (aB 1 aG bn) (.slice eF x1.next.length dZ) x1.next)(ku:RZ σ (aB 1 aJ bF) (.slice iL x1.outs.length o9) x1.outs)(kQ:dA σ eq_ nH iK x1.fin)(j_:dA σ aJ rZ o8 x1.tail){r:Bool×Int}(hh:F0_ x0 x1=some r):
  Con prog 38 #[.agg (oI x0 aI aH aA aX aU ay bJ bD),.agg (oI x1 eF dZ iL o9 nH iK rZ o8)] σ [] (jQ (.tuple #[.bool r.1,.int .i64 r.2]) σ):=by
 dsimp only [F0_]at hh
 have f0_0b:=au.big
 have f0_1b:=aY.big
 have f0_2b:=aV.rv.big
 have f0_3b:=aQ.rv.big
 have f1_0b:=bP.big
 have f1_1b:=ku.big
 have f1_2b:=kQ.rv.big
 have f1_3b:=j_.rv.big
 refine Con.mk (n:=34) Tryz.func38 z z z (λw0=> ?_)
 refine ψ (ν z (boxA z z z z (λbG=> ?_)))
 refine ν z (boxA z z z z (λd_=> ?_))
 refine TL.j z z (ξ z z (ε (ζ (ψ (ω z (kG z ji fE z (i:=1) z z) ?_)))))
 obtain ⟨v6,u6,hh⟩:=dM hh
 refine ν z (jF (Ej_ (x0:=x0) au aY aV aQ u6) z z JC z z z ?_)
 refine ω z (OpVal.neq z z z) (TL.j z z (TL.split 10 z (λbW=> ?_) (λbW=> ?_)))
 ·replace hh:=gZ bW hh
  replace bW:=jg bW
  refine π z (π z (π z (ω z (dS z z z) (ε (TC.t z (ψ (TL.j z z (ξ z z (ε (TC.rt 0 (S.r ?_)))))))))))
  obtain rfl:=so hh
  exact rq [4,5] ⟨z,z,z⟩
 replace hh:=gY bW hh
 replace bW:=jo bW
 refine Ψ z (kG z ji fE z (i:=0) z z) ?_
 obtain ⟨v10,u10,hh⟩:=dM hh
 refine TL.gon z z z z z (jF (Ej_ (x0:=x1) bP ku kQ j_ u10) z z JC z z z ?_)
 refine Ψ z (OpVal.neq z z z) (ω z (dV z z z) (ε (TC.cD z hh (λdN hh=> ?_) (λdN hh=> ?_))))
 ·refine ψ (TL.j z z (ξ z z (ε (TC.rt 0 (S.r ?_)))))
  obtain rfl:=so hh
  exact rq [4,5] ⟨z,z,z⟩
 refine ι (S.n (ψ (ω z (kG z ji fE z (i:=1) z z) ?_)))
 obtain ⟨v16,u16,hh⟩:=dM hh
 refine ν z (OpOk.call (Ge_ (x0:=x0) hgl au aY aV aQ u16) z z Wj z z z z ?_)
 rintro _ τ107 _ nC ⟨a107_1,c107_1,a107_2,c107_2,a107_3,c107_3,a107_4,c107_4,rfl,hr107_0,hr107_1,hr107_2,hr107_3,rfl⟩
 replace bP:=bP.mono nC
 replace ku:=ku.mono nC
 replace kQ:=kQ.mono nC
 replace j_:=j_.mono nC
 replace hgl:=hgl.mono nC
 have hr107_0b:=hr107_0.big
 have hr107_1b:=hr107_1.big
 have hr107_2b:=hr107_2.rv.big
 have hr107_3b:=hr107_3.rv.big
 refine ω z (wC (.inl z) z) (ω z (OpVal.extract z z z) (ω z (OpVal.extract z z z) (θ 1 z z (ν z (storeAll z fE z z z z z z ?_)))))
 refine ξ z z (ε (ζ (ψ (ξ z z (ω z (OpVal.neq z z z) (ε (TC.cD z hh (λdU hh=> ?_) (λdU hh=> ?_))))))))
 ·refine ψ (ξ z z (TL.j z z (ξ z z (ε (TC.sG (Sub.pre 0 z) (TC.back (TC.ret (S.r ?_))))))))
  obtain rfl:=so hh
  exact rq [4,5] ⟨z,z,z⟩
 refine ι (S.n (ψ (ω z (kG z ji fE z (i:=1) z z) ?_)))
 obtain ⟨v28,u28,hh⟩:=dM hh
 refine ν z (OpOk.call (Ge_ (x0:=x1) hgl bP ku kQ j_ u28) z z Wj z z z z ?_)
 rintro _ τ109 _ lY ⟨a109_1,c109_1,a109_2,c109_2,a109_3,c109_3,a109_4,c109_4,rfl,hr109_0,hr109_1,hr109_2,hr109_3,rfl⟩
 replace hr107_0:=hr107_0.mono lY
 replace hr107_1:=hr107_1.mono lY
 replace hr107_2:=hr107_2.mono lY
 replace hr107_3:=hr107_3.mono lY
 have hr109_0b:=hr109_0.big
 have hr109_1b:=hr109_1.big
 have hr109_2b:=hr109_2.rv.big
 have hr109_3b:=hr109_3.rv.big
 refine ω z (wC (.inl z) z) (ω z (OpVal.extract z z z) (ω z (OpVal.extract z z z) (θ 1 z z (ν z (storeAll z fE z z z z z z ?_)))))
 refine ξ z z (ε (ζ (ψ (ξ z z (ω z (OpVal.neq z z z) (ε (TC.cD z hh (λyc hh=> ?_) (λyc hh=> ?_))))))))
 ·refine ψ (ξ z z (TL.j z z (ξ z z (ε (TC.sG (Sub.pre 0 z) (TC.back (TC.ret (S.r ?_))))))))
  obtain rfl:=so hh
  exact rq [4,5] ⟨z,z,z⟩
 refine ι (S.n (ψ (ω z (kG z ji fE z (i:=1) z z) (ω z (kG z ji fE z (i:=0) z z) ?_))))
 obtain ⟨v41,FB,hh⟩:=dM hh
 refine ν z (jF (H3_ (x0:=v16.1) (x1:=v28.1) hr107_0 hr107_1 hr107_2 hr107_3 hr109_0 hr109_1 hr109_2 hr109_3 FB) z z pf76 z z z ?_)
 refine TL.j z z (ξ z z (ε (TC.sG (Sub.pre 0 z) (TC.back (TC.ret ?_)))))
 obtain rfl:=so hh
 exact rq [4,5] ⟨z,z,z⟩
end Go.Proofs.YtchebnpdnfhenaaGreatDoor
end

noncomputable section
namespace Go.Proofs.YtchebnpdnfhenaaGreatDoor
open Go Go.E
structure PlI (L:ak) (c:Nat) (st pl:ak):Prop where
  len:pl.length=c
  at': ∀p,p<c->(nth pl p 0<0/\ ∀j,j<st.length->nth L (nth st j 0).toNat 0≠((p:Nat):Int))\/ ∃j,j<st.length/\nth pl p 0=((j:Nat):Int)/\nth L (nth st j 0).toNat 0=((p:Nat):Int)
def clL(L:ak)(s:Nat):Int:=nth L s 0
theorem wo_{q:Seq}{L:ak}{c:Nat}(hL:PrtR q L c){st:ak}{V:Nat->Int}{code:Nat}(h:BfI q (clL L) st V code):st.length<=c:=by
  have hr: ∀j,j<st.length->0<=nth L (nth st j 0).toNat 0/\nth L (nth st j 0).toNat 0<((c:Nat):Int):=λj hj=>by
    have:=h.rng j hj
    exact hL.rng _ (by omega)
  refine uf_ (n:=st.length) (f:=λs=>s) (g:=λj=>(nth L (nth st j 0).toNat 0).toNat) (λk hk=>⟨k,hk,rfl⟩) (λs hs=>by have:=hr s hs;show (nth L (nth st s 0).toNat 0).toNat<c;omega) λs t hs ht e=> ?_
  have e:(nth L (nth st s 0).toNat 0).toNat=(nth L (nth st t 0).toNat 0).toNat:=e
  have h1:=hr s hs
  have h2:=hr t ht
  exact h.dist s t hs ht (show nth L (nth st s 0).toNat 0=nth L (nth st t 0).toNat 0 by omega)
theorem zl_ {q : Seq} (hq : eP q = true) {L : ak} {c : Nat} (hL : PrtR q L c) {st pl : ak} {V : Nat -> Int} {i : Nat} (hi : i < st.length) (h : BfI q (clL L) st V (i * 256)) (hp : PlI L c st pl) :
    ∃pl' st' V',bC (λz:ak×ak×Nat=>NI q st i L z.1 z.2.1 z.2.2) (pl,st,0)=some (.inl (pl',st',i+1))/\BfI q (clL L) st' V' ((i+1) * 256)/\PlI L c st' pl'/\i+1<=st'.length:=by
  obtain ⟨q1,q2,q3,q4,q5⟩:=mW hq
  have hLl:=hL.len
  have hLc:=hL.le
  have hs:=h.rng i hi
  obtain ⟨s,hs'⟩: ∃s:Nat,nth st i 0=((s:Nat):Int):=⟨(nth st i 0).toNat,by omega⟩
  have hsn:s<q.next.length:=by omega
  obtain ⟨r1,r2⟩:=vX hq hsn
  refine Exists.elim (kT (step:=λz:ak×ak×Nat=>NI q st i L z.1 z.2.1 z.2.2) (λ(z:ak×ak) b=>(z.1,z.2,b)) 256 (λb z=> ∃V',BfI q (clL L) z.2 V' (i * 256+b)/\PlI L c z.2 z.1/\(∃X,z.2=st++X)) (λr=> ∃pl' st' V',r= .inl (pl',st',i+1)/\BfI q (clL L) st' V' ((i+1) * 256)/\PlI L c st' pl'/\i+1<=st'.length) ?_ ?_ (s0:=(pl,st)) ⟨V,h,hp,[],by simp⟩) (λr l7=> ?_)
  · rintro b ⟨pl1,st1⟩ hb ⟨V1,k1,k2,X,k3⟩
    simp only at k1 k2 k3
    have hst1:i<st1.length:=by rw [k3,gB];omega
    have hat:nth st1 i 0=((s:Nat):Int):=by rw [k3,G7 hi];exact hs'
    have hd1:(i * 256+b) / 256=i:=by omega
    have hd2:(i * 256+b) % 256=b:=by omega
    have hlt:=oG hq hsn hb
    have hle:=wo_ hL k1
    left
    show ∃s':ak×ak,NI q st i L pl1 st1 b=some (.inl (s'.1,s'.2,b+1))/\_
    unfold NI
    rw [hs',iW,bI (by omega)]
    have e1:nth (nth q.next s []) b 0=nxQ q s b:=rfl
    simp only [e1]
    have hcell:nxQ q (nth st1 ((i * 256+b) / 256) 0).toNat ((i * 256+b) % 256)=nxQ q s b:=by rw [hd1,hd2,hat,iW]
    by_cases d:0<=nxQ q s b
    · have hz:(nxQ q s b).toNat<q.next.length:=by omega
      have hpz:=hL.rng _ hz
      obtain ⟨p,hp'⟩: ∃p:Nat,nth L (nxQ q s b).toNat 0=((p:Nat):Int):=⟨(nth L (nxQ q s b).toNat 0).toNat,by omega⟩
      have hpc:p<c:=by omega
      have hpl:=k2.len
      rw [bI d,aF (by omega),hp',aF (by omega),iW]
      rcases k2.at' p hpc with ⟨a1,a2⟩|⟨j,a1,a2,a3⟩
      · rw [bI a1,aF (by omega),aF (by omega),aF (by simp only [kD];omega)]
        refine ⟨(pl1.set p ((st1.length:Nat):Int),st1++[nxQ q s b]),rfl,upd V1 (i * 256+b) ((st1.length:Nat):Int),?_,⟨by rw [gy];exact hpl,λp' hq'=> ?_⟩,X++[nxQ q s b],by rw [k3,qH]⟩
        · exact k1.new (by omega) (by rw [hcell];exact d) ⟨d,hlt⟩ (by rw [hcell]) λj hj=>by
            rw [hcell]
            show nth L (nth st1 j 0).toNat 0≠nth L (nxQ q s b).toNat 0
            rw [hp'];exact a2 j hj
        show (nth (pl1.set p _) p' 0<0/\_)\/_
        rw [jO]
        by_cases e:p=p'
        · subst e
          rw [if_pos ⟨rfl,by omega⟩]
          refine .inr ⟨st1.length,by simp,rfl,?_⟩
          show nth L (nth (st1++[nxQ q s b]) st1.length 0).toNat 0=_
          rw [LX];exact hp'
        rw [if_neg (λf=>e f.1)]
        rcases k2.at' p' hq' with ⟨b1,b2⟩|⟨j,b1,b2,b3⟩
        · refine .inl ⟨b1,λj hj=> ?_⟩
          show nth L (nth (st1++[nxQ q s b]) j 0).toNat 0≠_
          by_cases f:j<st1.length
          · rw [G7 f];exact b2 j f
          have:j=st1.length:=by have:j<(st1++[nxQ q s b]).length:=hj;rw [gB,kD]at this;omega
          rw [this,LX,hp']
          omega
        refine .inr ⟨j,by show j<(st1++_).length;rw [gB];omega,b2,?_⟩
        show nth L (nth (st1++[nxQ q s b]) j 0).toNat 0=_
        rw [G7 b1];exact b3
      rw [bK (by omega)]
      refine ⟨(pl1,st1),rfl,upd V1 (i * 256+b) ((j:Nat):Int),?_,k2,X,k3⟩
      exact k1.old (by rw [hcell];exact d) a1 (by rw [hcell];show nth L (nth st1 j 0).toNat 0=nth L (nxQ q s b).toNat 0;rw [a3,hp'])
    rw [bK d]
    exact ⟨(pl1,st1),rfl,upd V1 (i * 256+b) (-1),k1.skip (by rw [hcell];omega),k2,X,k3⟩
  · rintro ⟨pl1,st1⟩ ⟨V1,k1,k2,X,k3⟩
    simp only at k1 k2 k3
    refine ⟨.inl (pl1,st1,i+1),?_,pl1,st1,V1,rfl,?_,k2,by rw [k3,gB];omega⟩
    · show NI q st i L pl1 st1 256=_
      unfold NI
      rw [hs',iW,bK (by omega)];rfl
    rw [show (i+1) * 256=i * 256+256 by omega];exact k1
  obtain ⟨h1,pl',st',V',rfl,h2⟩:=l7
  exact ⟨pl',st',V',h1,h2⟩
theorem yl_ {q : Seq} (hq : eP q = true) (h0 : 0 < q.next.length) {L : ak} {c : Nat} (hL : PrtR q L c) : ∃ st pl V, E1_ q L ((c : Nat) : Int) = some (st, pl) /\ BfI q (clL L) st V (st.length * 256) /\ PlI L c st pl := by
  obtain ⟨q1,q2,q3,q4,q5⟩:=mW hq
  have hLl:=hL.len
  have hLc:=hL.le
  have hL0:=hL.rng 0 h0
  unfold E1_
  rw [aF (by omega),iW]
  refine Exists.elim (kT (step:=λz:ak×Nat=>Qy ((c:Nat):Int) L q z.1 z.2) (λz k=>(z,k)) c (λk z=>z.length=c/\ ∀p,p<k->nth z p 0= -1) (λr=> ∃st pl V,r=(st,pl)/\BfI q (clL L) st V (st.length * 256)/\PlI L c st pl) ?_ ?_ (s0:=List.replicate c 0) ⟨by simp,λp hp=>absurd hp (Nat.not_lt_zero _)⟩) (λr l7=> ?_)
  · rintro k z hk ⟨k1,k2⟩
    left
    show ∃s',Qy ((c:Nat):Int) L q z k=some (.inl (s',k+1))/\_
    unfold Qy
    rw [iW,bI (by simp only [r_];omega),aF (by omega)]
    refine ⟨_,rfl,by rw [gy];exact k1,λp hp=> ?_⟩
    rw [jO]
    by_cases e:k=p
    · rw [if_pos ⟨e,by omega⟩]
    rw [if_neg (λf=>e f.1)];exact k2 p (by omega)
  · rintro z ⟨k1,k2⟩
    show ∃r,Qy ((c:Nat):Int) L q z c=some (.inr r)/\_
    obtain ⟨p0,hp0⟩: ∃p:Nat,nth L 0 0=((p:Nat):Int):=⟨(nth L 0 0).toNat,by omega⟩
    obtain ⟨r,m1,m2⟩:=PE (step:=λz:ak×ak×Nat=>Vk q L z.1 z.2.1 z.2.2) (λz=> ∃V,BfI q (clL L) z.2.1 V (z.2.2 * 256)/\PlI L c z.2.1 z.1/\z.2.2<=z.2.1.length) (λz=>c+1 - z.2.2) (λr=> ∃st pl V,r=(st,pl)/\BfI q (clL L) st V (st.length * 256)/\PlI L c st pl) (by
      rintro ⟨pl,st,i⟩ ⟨V,n1,n2,n3⟩
      simp only at n1 n2 n3
      have hle:=wo_ hL n1
      show (∃t',Vk q L pl st i=some (.inl t')/\_/\_)\/ ∃r,Vk q L pl st i=some (.inr r)/\_
      unfold Vk
      by_cases d:i<st.length
      · left
        have hs:=n1.rng i d
        obtain ⟨pl',st',V',m1,m2,m3,m4⟩:=zl_ hq hL d n1 n2
        rw [bI (by omega),aF (by omega)]
        refine ⟨_,m1,⟨V',m2,m3,m4⟩,?_⟩
        show c+1 - (i+1)<c+1 - i
        omega
      · right
        rw [bK (by omega)]
        have:i=st.length:=by omega
        subst this
        exact ⟨_,rfl,st,pl,V,rfl,n1,n2⟩) (t:=(z.set p0 0,[0],0)) (by
      refine ⟨λ_=>0,BfI.init _ ⟨Int.le_refl _,by omega⟩ rfl,⟨by show (z.set p0 0).length=c;rw [gy];exact k1,λp hp=> ?_⟩,Nat.zero_le _⟩
      show (nth (z.set p0 0) p 0<0/\_)\/_
      rw [jO]
      by_cases e:p0=p
      · subst e
        rw [if_pos ⟨rfl,by omega⟩]
        exact .inr ⟨0,by simp,rfl,hp0⟩
      rw [if_neg (λf=>e f.1),k2 p hp]
      refine .inl ⟨by decide,λj hj=> ?_⟩
      have hj:j<1:=hj
      have:j=0:=by omega
      subst this
      show nth L 0 0≠_
      rw [hp0];omega)
    refine ⟨r,?_,m2⟩
    unfold Qy
    rw [iW,bK (by simp only [r_];omega),aF (by omega),hp0,aF (by omega),iW,m1];rfl
  obtain ⟨h1,st,pl,V,rfl,h2⟩:=l7
  exact ⟨st,pl,V,h1,h2⟩
theorem ua_{α β:Type}(f:β->α)(d:α)(e:β)(l:List β){k:Nat}(hk:k<l.length):(((l.take k).map f++List.replicate (l.length - k) d).set k (f (nth l k e)))=(l.take (k+1)).map f++List.replicate (l.length - (k+1)) d:=by
  rw [yH l hk e,List.map_append,qH,List.set_append_right _ _ (by rw [List.length_map,List.length_take];omega),List.length_map,List.length_take,show k - min k l.length=0 by omega,show l.length - k=(l.length - (k+1))+1 by omega,List.replicate_succ]
  rfl
theorem y8_{l:B_1}{st:ak}(h: ∀i,i<st.length->0<=nth st i 0/\nth st i 0<(l.length:Int))(hs:st.length<=1000000):Fi_ l st=some (st.map λs=>nth l s.toNat false):=by
  unfold Fi_
  rw [aF (by omega)]
  refine Exists.elim (kT (step:=λz:B_1×Nat=>Qz st l z.1 z.2) (λz k=>(z,k)) st.length (λk z=>z=(st.take k).map (λs=>nth l s.toNat false)++List.replicate (st.length - k) false) (λr=>r=st.map λs=>nth l s.toNat false) ?_ ?_ (s0:=List.replicate st.length false) (by simp)) (λr l7=> ?_)
  · rintro k _ hk rfl
    left
    have hr:=h k hk
    refine ⟨_,?_,rfl⟩
    show Qz st l _ k=_
    unfold Qz
    rw [bI (by omega),aF hr,aF (by simp;omega)]
    have:=ua_ (λs=>nth l s.toNat false) false (0:Int) st hk
    rw [this];rfl
  · rintro _ rfl
    refine ⟨_,?_,rfl⟩
    show Qz st l _ st.length=_
    unfold Qz
    rw [bK (by omega)]
    simp [fin]
  obtain ⟨h1,rfl⟩:=l7
  exact h1
theorem zb_{l:aC}{st:ak}(h: ∀i,i<st.length->0<=nth st i 0/\nth st i 0<(l.length:Int))(hs:st.length<=1000000):Fn_ l st=some (st.map λs=>nth l s.toNat []):=by
  unfold Fn_
  rw [aF (by omega)]
  refine Exists.elim (kT (step:=λz:aC×Nat=>Qw st l z.1 z.2) (λz k=>(z,k)) st.length (λk z=>z=(st.take k).map (λs=>nth l s.toNat [])++List.replicate (st.length - k) []) (λr=>r=st.map λs=>nth l s.toNat []) ?_ ?_ (s0:=List.replicate st.length []) (by simp)) (λr l7=> ?_)
  · rintro k _ hk rfl
    left
    have hr:=h k hk
    refine ⟨_,?_,rfl⟩
    show Qw st l _ k=_
    unfold Qw
    rw [bI (by omega),aF hr,aF (by simp;omega)]
    have:=ua_ (λs=>nth l s.toNat ([]:T_1)) [] (0:Int) st hk
    rw [this];rfl
  · rintro _ rfl
    refine ⟨_,?_,rfl⟩
    show Qw st l _ st.length=_
    unfold Qw
    rw [bK (by omega)]
    simp [fin]
  obtain ⟨h1,rfl⟩:=l7
  exact h1
theorem xj_{α:Type}(d:α){x:List α}(h:x.length=256):(List.replicate 256 d).take 0++(x.take (min x.length (List.replicate 256 d).length)++(List.replicate 256 d).drop (0+min x.length (List.replicate 256 d).length))=x:=by
  have hr:(List.replicate 256 d).length=256:=r_
  generalize List.replicate 256 d=y at hr
  rw [hr,h,Nat.min_self,List.take_zero,List.nil_append,Nat.zero_add,List.take_of_length_le (Nat.le_of_eq h),List.drop_of_length_le (Nat.le_of_eq hr),List.append_nil]
def newV(q:Seq)(L pl:ak)(s b:Nat):Int:=if 0<=nxQ q s b then nth pl (nth L (nxQ q s b).toNat 0).toNat 0 else nxQ q s b
def Ob(q:Seq)(L pl:ak)(s:Int):ak:=(List.range 256).map (newV q L pl s.toNat)
theorem xy_ {q : Seq} (hq : eP q = true) {L : ak} {c : Nat} (hL : PrtR q L c) {st pl : ak} (hpl : pl.length = c) {i : Nat} {N : bZ} {O : fO} (hi : i < st.length) (hst : st.length <= 1024) (hN : N.length <= 1024) (hO : O.length <= 1024) (hs : 0 <= nth st i 0 /\ nth st i 0 < (q.next.length : Int)) (e : Int) :
    E8_ (st,pl) i (q,e) (L,((c:Nat):Int)) N O=some (.inl (N++[Ob q L pl (nth st i 0)],O++[nth q.outs (nth st i 0).toNat []],i+1)):=by
  obtain ⟨q1,q2,q3,q4,q5⟩:=mW hq
  have hLl:=hL.len
  obtain ⟨s,hs'⟩: ∃s:Nat,nth st i 0=((s:Nat):Int):=⟨(nth st i 0).toNat,by omega⟩
  rw [hs']at hs ⊢
  have hsn:s<q.next.length:=by omega
  obtain ⟨r1,r2⟩:=vX hq hsn
  unfold E8_
  show grd (0<=nth st i 0/\nth st i 0<(q.next.length:Int)) (grd (0<=nth st i 0/\nth st i 0<(q.outs.length:Int)) _)=_
  rw [hs',aF (by omega),aF (by omega),iW,xj_ 0 r1]
  unfold Ob
  rw [iW]
  refine Exists.elim (kT (step:=λz:ak×Nat=>QE (L,((c:Nat):Int)) (st,pl) N O (q,e) i z.1 z.2) (λz k=>(z,k)) 256 (λk z=>z.length=256/\(∀b,b<k->nth z b 0=newV q L pl s b)/\ ∀b,k<=b->nth z b 0=nxQ q s b) (λr=>r= .inl (N++[(List.range 256).map (newV q L pl s)],O++[nth q.outs s []],i+1)) ?_ ?_ (s0:=nth q.next s []) ⟨r1,λb hb=>absurd hb (Nat.not_lt_zero _),λb _=>rfl⟩) (λr l7=> ?_)
  · rintro k z hk ⟨k1,k2,k3⟩
    left
    have hlt:=oG hq hsn hk
    have e3:=k3 k (Nat.le_refl _)
    show ∃s',QE (L,((c:Nat):Int)) (st,pl) N O (q,e) i z k=some (.inl (s',k+1))/\_
    unfold QE
    rw [bI (by simp only [r_];omega),aF (by omega),e3]
    by_cases d:0<=nxQ q s k
    · have hz:=hL.rng (nxQ q s k).toNat (by omega)
      rw [bI d,aF (show 0<=nxQ q s k/\nxQ q s k<((L,((c:Nat):Int)).1.length:Int) by show _/\_<(L.length:Int);omega),aF (show 0<=nth L (nxQ q s k).toNat 0/\nth L (nxQ q s k).toNat 0<(pl.length:Int) by omega),aF (by omega)]
      refine ⟨_,rfl,by rw [gy];exact k1,λb hb=> ?_,λb hb=> ?_⟩
      · rw [jO]
        by_cases f:k=b
        · subst f;rw [if_pos ⟨rfl,by omega⟩];unfold newV;rw [if_pos d]
        rw [if_neg (λg=>f g.1)];exact k2 b (by omega)
      rw [jO,if_neg (λg=>by omega)];exact k3 b (by omega)
    rw [bK d]
    refine ⟨_,rfl,k1,λb hb=> ?_,λb hb=>k3 b (by omega)⟩
    by_cases f:b<k
    · exact k2 b f
    have:b=k:=by omega
    subst this;rw [e3];unfold newV;rw [if_neg d]
  · rintro z ⟨k1,k2,k3⟩
    have ez:z=(List.range 256).map (newV q L pl s):=ky_ 0 k1 k2
    refine ⟨_,?_,rfl⟩
    show QE (L,((c:Nat):Int)) (st,pl) N O (q,e) i z 256=_
    unfold QE
    have e5:nth (st,pl).1 i 0=((s:Nat):Int):=hs'
    simp only [e5,iW]
    rw [bK (by simp only [r_];omega),xj_ [] r2,aF (by simp only [kD];omega),aF (by simp only [kD];omega),ez];rfl
  obtain ⟨h1,rfl⟩:=l7
  exact h1
theorem z7_(q:Seq): ∃p r,Zz q=some p/\PushR q p/\NH q=some r/\MinR p r:=by
  obtain ⟨p,h1,h2⟩:=Jc_ q
  unfold NH
  rw [h1,fD]
  by_cases c0:p.2=0
  rotate_left
  · rw [bI c0]
    exact ⟨p,_,rfl,h2,rfl,.err c0⟩
  rw [bK (λh=>h c0)]
  by_cases c1:p.1.next.length=0
  · rw [bI (by omega)]
    exact ⟨p,_,rfl,h2,rfl,by rw [c0];exact .none c0 c1⟩
  rw [bK (by omega)]
  obtain ⟨hP,hR,_,_⟩:=h2.psh c0
  obtain ⟨q1,q2,q3,q4,q5⟩:=mW hR
  obtain ⟨L,c,l1,l2⟩:=yt_ hR hP
  obtain ⟨st,pl,V,o1,o2,o3⟩:=yl_ hR (by omega) l2
  have hle:=wo_ l2 o2
  have hLc:=l2.le
  rw [l1,fD]
  show ∃p_1 r,_/\_/\bnd (E1_ p.1 L ((c:Nat):Int)) _=_/\_
  rw [o1,fD,show ((st,pl):ak×ak).1=st from rfl,y8_ (λi hi=>by have:=o2.rng i hi;omega) (by omega),fD,zb_ (λi hi=>by have:=o2.rng i hi;omega) (by omega),fD]
  unfold Fv_
  refine Exists.elim (kT (step:=λz:bZ×fO×Nat=>Qp (st,pl) p (L,((c:Nat):Int)) (st.map λs=>nth p.1.fin s.toNat false) (st.map λs=>nth p.1.tail s.toNat []) z.1 z.2.1 z.2.2) (λ(z:bZ×fO) k=>(z.1,z.2,k)) st.length (λk z=>z=((st.take k).map (Ob p.1 L pl),(st.take k).map λs=>nth p.1.outs s.toNat []))
    (λr=>r=((⟨p.1.front,st.map (Ob p.1 L pl),st.map (λs=>nth p.1.outs s.toNat []),st.map (λs=>nth p.1.fin s.toNat false),st.map (λs=>nth p.1.tail s.toNat [])⟩:Seq),(0:Int))) ?_ ?_ (s0:=([],[])) rfl) (λr l7=> ?_)
  · rintro k _ hk rfl
    left
    have hr:=o2.rng k hk
    refine ⟨(_,_),?_,rfl⟩
    show Qp (st,pl) p (L,((c:Nat):Int)) _ _ _ _ k=_
    unfold Qp
    rw [bI (by show ((k:Nat):Int)<((st.length:Nat):Int);omega)]
    rw [show p=(p.1,p.2)from rfl,xy_ hR l2 o3.len hk (by omega) (by rw [List.length_map,List.length_take];omega) (by rw [List.length_map,List.length_take];omega) hr p.2,yH st hk 0,List.map_append,List.map_append];rfl
  · rintro _ rfl
    refine ⟨_,?_,rfl⟩
    show Qp (st,pl) p (L,((c:Nat):Int)) _ _ _ _ st.length=_
    unfold Qp
    rw [bK (by show ¬ ((st.length:Nat):Int)<((st.length:Nat):Int);omega),List.take_length];rfl
  obtain ⟨h3,rfl⟩:=l7
  refine ⟨p,_,rfl,h2,h3,.made _ (st.map Int.toNat) c0 (o2.min (λs t hs ht=>l2.iff s t hs ht) hR rfl (by simp) (by simp) (by simp) (by simp) (λi hi=> ?_) (λd hd=> ?_) (λi hi=>zB _ _ _ 0 _ hi) (λi hi=>zB _ _ _ 0 _ hi) λi hi=>zB _ _ _ 0 _ hi)⟩
  · show (nth (st.map (Ob p.1 L pl)) i []).length=256
    rw [zB _ _ _ 0 _ hi]
    unfold Ob
    rw [List.length_map,List.length_range]
  have hdi:d / 256<st.length:=by omega
  have hr:=o2.rng _ hdi
  have e:nxC (⟨p.1.front,st.map (Ob p.1 L pl),st.map (λs=>nth p.1.outs s.toNat []),st.map (λs=>nth p.1.fin s.toNat false),st.map (λs=>nth p.1.tail s.toNat [])⟩:Seq) d=newV p.1 L pl (nth st (d / 256) 0).toNat (d % 256):=by
    show nth (nth (st.map (Ob p.1 L pl)) (d / 256) []) (d % 256) 0=_
    rw [zB _ _ _ 0 _ hdi]
    unfold Ob
    rw [zB _ _ _ 0 _ (by rw [List.length_range];omega),Yw (by omega)]
  rw [e]
  unfold newV
  by_cases f:0<=nxQ p.1 (nth st (d / 256) 0).toNat (d % 256)
  · rw [if_pos f]
    obtain ⟨j,j1,j2,j3⟩:=o2.val d hd f
    have hz:=oG hR (show (nth st (d / 256) 0).toNat<_ by omega) (show d % 256<256 by omega)
    have hpz:=l2.rng (nxQ p.1 (nth st (d / 256) 0).toNat (d % 256)).toNat (by omega)
    have j3:nth L (nth st j 0).toNat 0=nth L (nxQ p.1 (nth st (d / 256) 0).toNat (d % 256)).toNat 0:=j3
    rcases o3.at' (nth L (nxQ p.1 (nth st (d / 256) 0).toNat (d % 256)).toNat 0).toNat (by omega)with ⟨_,a2⟩|⟨j',a1,a2,a3⟩
    · exact absurd (by rw [j3];omega) (a2 j j1)
    have:j=j':=o2.dist j j' j1 a1 (show nth L (nth st j 0).toNat 0=nth L (nth st j' 0).toNat 0 by rw [j3,a3];omega)
    rw [j2,a2,this]
  rw [if_neg f,o2.neg d hd (by omega)]
  have:=sh_ hR (show (nth st (d / 256) 0).toNat<_ by omega) (show d % 256<256 by omega)
  omega
theorem q0_ (q : Seq) (k : Nat) (hn : (nth q.next k []).length = 256) (ho : (nth q.outs k []).length = 256) (hk : k < q.outs.length) :
    ZO q k=some (if (List.range 256).all (FI (nth q.next k []) (nth q.outs k []) q.next.length)=true then .inl (k+1) else .inr false):=by
  unfold ZO
  refine WM (step:=λj:Nat=>Vu q k j) 256 (FI (nth q.next k []) (nth q.outs k []) q.next.length) ?_ ?_ ?_
  · intro j hj hp
    simp only [FI,Bool.and_eq_true,Bool.or_eq_true,jV]at hp
    obtain ⟨⟨⟨p1,p2⟩,p3⟩,p4⟩:=hp
    simp only [Vu,Br_]
    rw [bI (by omega),aF (by omega),aF (by omega),aF (by omega),bK (by omega),bK (by omega)]
    by_cases c:nth (nth q.next k ([]:ak)) j (0:Int)= -1
    · rw [bI c,bK (by rcases p4 with p4|p4<;>simp_all),bK (by omega)];rfl
    rw [bK c,bK (by omega)];rfl
  · intro j hj hp
    simp only [Vu,Br_]
    rw [bI (by omega),aF (by omega),aF (by omega),aF (by omega)]
    by_cases c1:nth (nth q.next k ([]:ak)) j (0:Int)< -1
    · rw [bI c1];rfl
    rw [bK c1]
    by_cases c2:((q.next.length:Nat):Int)<=nth (nth q.next k ([]:ak)) j (0:Int)
    · rw [bI c2];rfl
    rw [bK c2]
    by_cases c4:nth (nth q.next k ([]:ak)) j (0:Int)= -1
    · rw [bI c4]
      by_cases c5:nth (nth q.outs k ([]:aC)) j ([]:T_1)=[]
      · exfalso
        simp only [FI,c5]at hp
        rw [decide_eq_true (by omega),decide_eq_true (by omega)]at hp
        simp at hp
      rw [bI c5];rfl
    rw [bK c4]
    by_cases c3:4096<(nth (nth q.outs k ([]:aC)) j ([]:T_1)).length
    · rw [bI (by omega)];rfl
    exfalso
    simp only [FI]at hp
    rw [decide_eq_true (by omega),decide_eq_true (by omega),decide_eq_true (by omega),decide_eq_true c4]at hp
    simp at hp
  simp only [Vu]
  rw [bK (by omega)];rfl
theorem jh_ (q : Seq) : Q_ q = some (eP q) := by
  unfold Q_
  have fls: ∀{b:Bool},b=false->(some false:Option Bool)=some b:=λh=>by rw [h]
  by_cases h1:q.next.length<=1024
  rotate_left
  · rw [bI (by omega)];exact fls (by simp [eP,yP,h1])
  rw [bK (by omega)]
  by_cases h2:q.outs.length=q.next.length
  rotate_left
  · rw [bI (by omega)];exact fls (by simp [eP,yP,h2])
  rw [bK (by omega)]
  by_cases h3:q.fin.length=q.next.length
  rotate_left
  · rw [bI (by omega)];exact fls (by simp [eP,yP,h3])
  rw [bK (by omega)]
  by_cases h4:q.tail.length=q.next.length
  rotate_left
  · rw [bI (by omega)];exact fls (by simp [eP,yP,h4])
  rw [bK (by omega)]
  by_cases h5:q.front.length<=4096
  rotate_left
  · rw [bI (by omega)];exact fls (by simp [eP,yP,h5])
  rw [bK (by omega)]
  have key:(decide (q.next.length≠0) || decide (q.front=[]))=true->Bs_ q=some (eP q):=by
    intro h6
    have hs:yP q=true:=by simp only [yP,h6,Bool.and_true,Bool.and_eq_true,jV];exact ⟨⟨⟨⟨h1,h2⟩,h3⟩,h4⟩,h5⟩
    unfold Bs_ eP
    rw [hs,Bool.true_and]
    have hc:=WM (step:=λk:Nat=>Vx q k) (good:=true) (bad:=false) q.next.length (EH q) ?_ ?_ ?_
    · rw [hc];cases (List.range q.next.length).all (EH q)<;>rfl
    · intro k hk hp
      simp only [EH,N_,Bool.and_eq_true,jV]at hp
      obtain ⟨⟨p1,p2⟩,⟨p3,p4⟩,p5⟩:=hp
      have hj:=q0_ q k p3 p4 (by omega)
      rw [if_pos p5]at hj
      simp only [Vx]
      rw [bI (by omega),bK (by omega),aF (by omega),bK (by omega),aF (by omega),bK (by omega),aF (by omega)]
      cases hf:nth q.fin k false with
      |true=>rw [qK];exact hj
      |false=>
        rw [hf,Bool.false_or,jV]at p2
        rw [uj,aF (by omega),bK (by simp [p2])];exact hj
    · intro k hk hp
      simp only [Vx]
      rw [bI (by omega)]
      by_cases c3:(nth q.next k ([]:ak)).length=256
      rotate_left
      · rw [bI (by omega)];rfl
      rw [bK (by omega),aF (by omega)]
      by_cases c4:(nth q.outs k ([]:aC)).length=256
      rotate_left
      · rw [bI (by omega)];rfl
      rw [bK (by omega),aF (by omega)]
      by_cases c1:4096<(nth q.tail k ([]:T_1)).length
      · rw [bI (by omega)];rfl
      rw [bK (by omega),aF (by omega)]
      have hj:(nth q.fin k false || decide (nth q.tail k []=[]))=true->ZO q k=some (.inr false):=by
        intro hh
        rw [q0_ q k c3 c4 (by omega)]
        simp only [EH,N_,hh,Bool.and_true]at hp
        rw [decide_eq_true (by omega),decide_eq_true c3,decide_eq_true c4,Bool.true_and,Bool.true_and,Bool.true_and]at hp
        rw [hp];rfl
      cases hf:nth q.fin k false with
      |true=>rw [qK];exact hj (by rw [hf];rfl)
      |false=>
        rw [uj,aF (by omega)]
        by_cases c2:nth q.tail k ([]:T_1)=[]
        · rw [bK (by simp [c2])];exact hj (by rw [c2];simp)
        rw [bI c2];rfl
    simp only [Vx]
    rw [bK (by omega)];rfl
  by_cases h6:q.next.length=0
  · rw [bI (by omega)]
    by_cases h7:q.front=[]
    · rw [bK (by simp [h7])];exact key (by simp [h7])
    rw [bI h7];exact fls (by simp [eP,yP,h6,h7])
  rw [bK (by omega)];exact key (by simp [h6])
end Go.Proofs.YtchebnpdnfhenaaGreatDoor
end

noncomputable section
namespace Go.Proofs.YtchebnpdnfhenaaGreatDoor
open Go Go.E Go.E.OpVal Go.E.OpOk Go.Proofs.Tryz
open List (replicate)
theorem Wn:plainF Tryz.prog 27=true:=by kernel_rfl
theorem pf34:plainF Tryz.prog 34=true:=by kernel_rfl
theorem pf52:plainF Tryz.prog 52=true:=by kernel_rfl
def ZP(x0:B_1)(x1:B_1)(cZ:Nat):Option ((Nat)⊕(Bool)):=
 aN (decide ((cZ:Int)<((x0.length:Nat):Int))) (grd (cZ<x1.length) (aN ((nth x0 cZ false) != (nth x1 cZ false)) (fin (some false)) (nxt (cZ+1)))) (fin (some true))
def ZJ(x0:B_1)(x1:B_1):Option (Bool):=
 aN (decide (((x0.length:Nat):Int)≠((x1.length:Nat):Int))) (some false) (bC (λq:Nat=>ZP x0 x1 q) 0)
theorem Gp_{σ:aj}{x0:B_1}{x1:B_1}(au:dA σ eq_ aI aH x0)(bP:dA σ eq_ eF dZ x1){r:Bool}(hh:ZJ x0 x1=some r):
  Con prog 34 #[.slice aI x0.length aH,.slice eF x1.length dZ] σ [] (jQ (.bool r) σ):=by
 dsimp only [ZJ]at hh
 have f0_0b:=au.rv.big
 have f1_0b:=bP.rv.big
 refine Con.mk (n:=26) Tryz.func34 z z z (λw0=> ?_)
 refine ψ (TL.j z z (ε (ζ (ψ (Φ z z (ω z (lenC z gI z) (Φ z z (ω z (lenC z gI z) (ω z (OpVal.neq z z z) (ε (TC.cD z hh (λfC hh=> ?_) (λfC hh=> ?_))))))))))))
 ·refine ψ (TL.j z z (ε (TC.ret (S.r ?_))))
  obtain rfl:=so hh
  exact rq [4] ⟨z,z,z⟩
 refine ι (S.n (ζ (ψ (ξ z z (ε (υ (TC.ig (α:=(Nat)×(Unit)) (rgs [(4,2),(11,15)]) (λg=>[(5,.int .i64 ((g.1:Nat):Int))]) (λg=>[]) (λg=>σ) (λg=>bC (λq:Nat=>ZP x0 x1 q) g.1=some r) (λg=>f_ (λq:Nat=>ZP x0 x1 q) g.1) (0,()) (Sub.pre 0 z) z (by repeat (first|exact trivial|refine ⟨z,?_⟩)) hh (λg1 j1 hg1=> ?_))))))))
 obtain ⟨cZ,_⟩:=g1
 have hh:=hg1;clear hg1
 try dsimp only
 obtain ⟨z1,hh,hR1⟩:=gJ hh
 dsimp only [ZP]at hh
 refine ζ (ψ (ξ z z (Φ z z (ω z (lenC z gI z) (ω z (OpVal.lss z z z) (ε (TC.cD z hh (λbW hh=> ?_) (λbW hh=> ?_))))))))
 ·refine ι (S.n (ζ (υ (ζ ?_))))
  obtain ⟨wo,hh⟩:=aP hh
  refine TC.draw [] (by kernel_rfl) (Ω 0 z (gu (.inl z) z) z (Ω 1 z (dw (.inl z) z) z (TA.b 2 z (bU z gI gQ z z au.rv.sl (by omega)) z (TA.b 3 z (fF false z nG z au (by omega) z) z (Ω 4 z (gu (.inl z) z) z (Ω 5 z (dw (.inl z) z) z (TA.b 6 z (bU z gI gQ z z bP.rv.sl (by omega)) z (TA.b 7 z (fF false z nG z bP (by omega) z) z (Ω 8 z (neqB z z z underlying4) z (TA.dn (S.n (TC.cB z hh (λdN hh=> ?_) (λdN hh=> ?_)))))))))))))
  ·refine ψ (TL.j z z (ε (TC.ret (B.r (S.r (S.r ?_))))))
   replace hh:=dG hR1 hh
   refine B.r (S.r ?_)
   obtain rfl:=so hh
   exact rq [4] ⟨z,z,z⟩
  refine ι (B.n (S.n (η (ξ z z (ω z (OpVal.succ z z z (by omega)) (ξ z z (ε ?_)))))))
  obtain ⟨hh,jZ⟩:=dO hR1 hh
  exact lf ((cZ+1),()) jZ hh (Sub.pre 0 z)
 refine TC.exit (S.x (S.x ?_))
 replace hh:=dG hR1 hh
 refine Δ (S.n (ψ (TL.j z z (ε (TC.ret ?_)))))
 obtain rfl:=so hh
 exact rq [4] ⟨z,z,z⟩
def ZN(aT:Nat):Option ((Nat)⊕(Bool)):=
 nxt (aT+1)
def Iw(x0:Seq)(x1:Seq)(aT:Nat):Option ((Nat)⊕(Bool)):=
 aN (decide ((aT:Int)<((x0.next.length:Nat):Int))) (grd (aT<x1.next.length) (bnd (ZQ (nth x0.next aT []) (nth x1.next aT [])) (λv60=>aN (!v60) (fin (some false)) (aN (decide ((aT:Int)<((x0.outs.length:Nat):Int))) (grd (aT<x1.outs.length) (bnd (Rf (nth x0.outs aT []) (nth x1.outs aT [])) (λv79=>aN (!v79) (fin (some false)) (ZN aT)))) (ZN aT))))) (fin (some true))
def ZR(x0:Seq)(x1:Seq):Option (Bool):=
 aN (decide (x0.front≠x1.front)) (some false) (aN (decide (((x0.next.length:Nat):Int)≠((x1.next.length:Nat):Int))) (some false) (aN (decide (((x0.outs.length:Nat):Int)≠((x1.outs.length:Nat):Int))) (some false) (bnd (ZJ x0.fin x1.fin) (λv32=>aN (!v32) (some false) (bnd (Rf x0.tail x1.tail) (λv40=>aN (!v40) (some false) (bC (λq:Nat=>Iw x0 x1 q) 0)))))))
theorem Gt_{σ:aj}{x0:Seq}{x1:Seq}(au:RZ σ (aB 1 aG bn) (.slice aI x0.next.length aH) x0.next)(aY:RZ σ (aB 1 aJ bF) (.slice aA x0.outs.length aX) x0.outs)(aV:dA σ eq_ aU ay x0.fin)(aQ:dA σ aJ bJ bD x0.tail)(bP:RZ σ (aB 1 aG bn) (.slice eF x1.next.length dZ) x1.next)(ku:RZ σ (aB 1 aJ bF) (.slice iL x1.outs.length o9) x1.outs)(kQ:dA σ eq_ nH iK x1.fin)(j_:dA σ aJ rZ o8 x1.tail){r:Bool}(hh:ZR x0 x1=some r):
  Con prog 17 #[.agg (oI x0 aI aH aA aX aU ay bJ bD),.agg (oI x1 eF dZ iL o9 nH iK rZ o8)] σ [] (jQ (.bool r) σ):=by
 dsimp only [ZR]at hh
 have f0_0b:=au.big
 have f0_1b:=aY.big
 have f0_2b:=aV.rv.big
 have f0_3b:=aQ.rv.big
 have f1_0b:=bP.big
 have f1_1b:=ku.big
 have f1_2b:=kQ.rv.big
 have f1_3b:=j_.rv.big
 refine Con.mk (n:=85) Tryz.func17 z z z (λw0=> ?_)
 refine ψ (ν z (boxA z z z z (λbG=> ?_)))
 refine ν z (boxA z z z z (λd_=> ?_))
 refine TL.j z z (ε (ζ (ψ (ω z (aS z DL z) (ω z (aZ z iG z (i:=1) z z) (ω z (aS z DL z) (ω z (aZ z iG z (i:=0) z z) (ω z (Ih z z z) (TL.j z z (TL.split 11 z (λbW=> ?_) (λbW=> ?_)))))))))))
 ·replace hh:=gZ bW hh
  replace bW:=jg bW
  refine π z (π z (π z (π z (π z (π z (π z (ω z (dS z z z) (TL.j z z (π z (π z (π z (π z (π z (π z (π z ?_)))))))))))))))
  refine ω z (dS z z z) (TL.j z z (π z (π z (π z (π z (π z (π z (ω z (dS z z z) (TL.j z z (π z (π z (π z (π z (π z (π z ?_)))))))))))))))
  refine ω z (dS z z z) (ε (TC.t z (ψ (TL.j z z (ε (TC.rt 0 (S.r ?_)))))))
  obtain rfl:=so hh
  exact rq [4] ⟨z,z,z⟩
 replace hh:=gY bW hh
 replace bW:=jo bW
 refine Ψ z (aS z kS z) (Ψ z (aZ z jT z (i:=1) z z) (Ψ z (lenC z eU z) (Ψ z (aS z kS z) (Ψ z (aZ z jT z (i:=0) z z) (Ψ z (lenC z eU z) (Ψ z (OpVal.neq z z z) (ω z (dV z z z) (TL.j z z (TL.split 20 z (λdN=> ?_) (λdN=> ?_))))))))))
 ·replace hh:=gZ dN hh
  replace dN:=jg dN
  refine π z (π z (π z (π z (π z (π z (π z (ω z (dS z z z) (TL.j z z (π z (π z (π z (π z (π z (π z (ω z (dS z z z) ?_)))))))))))))))
  refine TL.j z z (π z (π z (π z (π z (π z (π z (ω z (dS z z z) (ε (TC.t z (ψ (TL.j z z (ε (TC.rt 0 (S.r ?_))))))))))))))
  obtain rfl:=so hh
  exact rq [4] ⟨z,z,z⟩
 replace hh:=gY dN hh
 replace dN:=jo dN
 refine Ψ z (aS z oQ z) (Ψ z (aZ z pI z (i:=1) z z) (Ψ z (lenC z lI z) (Ψ z (aS z oQ z) (Ψ z (aZ z pI z (i:=0) z z) (Ψ z (lenC z lI z) (Ψ z (OpVal.neq z z z) (ω z (dV z z z) (TL.j z z (TL.split 29 z (λdP=> ?_) (λdP=> ?_))))))))))
 ·replace hh:=gZ dP hh
  replace dP:=jg dP
  refine π z (π z (π z (π z (π z (π z (ω z (dS z z z) (TL.j z z (π z (π z (π z (π z (π z (π z (ω z (dS z z z) (ε ?_)))))))))))))))
  refine TC.t z (ψ (TL.j z z (ε (TC.rt 0 (S.r ?_)))))
  obtain rfl:=so hh
  exact rq [4] ⟨z,z,z⟩
 replace hh:=gY dP hh
 replace dP:=jo dP
 refine Ψ z (aS z tV z) (Ψ z (aZ z qV z (i:=1) z z) (Ψ z (aS z tV z) (Ψ z (aZ z qV z (i:=0) z z) ?_)))
 obtain ⟨v32,u32,hh⟩:=dM hh
 refine TL.gon z z z z z (jF (Gp_ aV kQ u32) z z pf34 z z z ?_)
 refine Ψ z (OpVal.not z z) (ω z (dV z z z) (TL.j z z (TL.split 37 z (λdU=> ?_) (λdU=> ?_))))
 ·replace hh:=gZ dU hh
  refine π z (π z (π z (π z (π z (π z (ω z (dS z z z) (ε (TC.t z (ψ (TL.j z z (ε (TC.rt 0 (S.r ?_)))))))))))))
  obtain rfl:=so hh
  exact rq [4] ⟨z,z,z⟩
 replace hh:=gY dU hh
 refine Ψ z (aS z uh z) (Ψ z (aZ z lJ z (i:=1) z z) (Ψ z (aS z uh z) (Ψ z (aZ z lJ z (i:=0) z z) ?_)))
 obtain ⟨v40,u40,hh⟩:=dM hh
 refine TL.gon z z z z z (jF (D4_ aQ j_ u40) z z Wn z z z ?_)
 refine Ψ z (OpVal.not z z) (ω z (dV z z z) (ε (TC.cB z hh (λl9 hh=> ?_) (λl9 hh=> ?_))))
 ·refine ψ (TL.j z z (ε (TC.rt 0 (S.r ?_))))
  obtain rfl:=so hh
  exact rq [4] ⟨z,z,z⟩
 refine ι (S.n (ζ (ψ (ξ z z (ε (υ (TC.ig (α:=(Nat)×(Unit)) (rgs [(4,2),(45,40)]) (λg=>[(5,.int .i64 ((g.1:Nat):Int))]) (λg=>[jl bG x0 aI aH aA aX aU ay bJ bD,jl d_ x1 eF dZ iL o9 nH iK rZ o8]) (λg=>σ) (λg=>bC (λq:Nat=>Iw x0 x1 q) g.1=some r) (λg=>f_ (λq:Nat=>Iw x0 x1 q) g.1) (0,()) (Θ [1] 2) z (by repeat (first|exact trivial|refine ⟨z,?_⟩)) hh (λg1 j1 hg1=> ?_))))))))
 obtain ⟨aT,_⟩:=g1
 have hh:=hg1;clear hg1
 try dsimp only
 obtain ⟨z1,hh,hR1⟩:=gJ hh
 dsimp only [Iw]at hh
 refine ζ (ψ (ξ z z (ω z (aS z kS z) (ω z (aZ z jT z (i:=0) z z) (ω z (lenC z eU z) (ω z (OpVal.lss z z z) (ε (TC.cD z hh (λqA hh=> ?_) (λqA hh=> ?_)))))))))
 ·refine ι (S.n (TC.cutG (α:=(Unit)×(Unit)) (rgs [(4,1),(52,33)]) (λg=>[]) (λg=>[jl bG x0 aI aH aA aX aU ay bJ bD,jl d_ x1 eF dZ iL o9 nH iK rZ o8]) (λg=>σ) (λg=>ZN aT=some z1) ?_ (λg j hg=> ?_)))
  ·skip
   refine υ (ζ (TC.draw [] (by kernel_rfl) (Ω 0 z (aS z kS z) z (TA.b 1 z (aZ z jT z (i:=0) z z) z (Ω 2 z (dw (.inl z) z) z (TA.b 3 z (bU z eU fZ z z au.isSl (by omega)) z ?_))))))
   obtain ⟨zN,vG,Lr⟩:=RZ.seg au aT (by omega)
   replace vG:dA _ aG zN.1 zN.2 (nth x0.next aT []):=vG
   have hk114b:=vG.rv.big
   refine TA.b 4 z (OpVal.of (kZ z hs_ z Lr z) (v':= .slice zN.1 ((nth x0.next aT []).length) zN.2) z) z (Ω 5 z (aS z kS z) z (TA.b 6 z (aZ z jT z (i:=1) z z) z (Ω 7 z (dw (.inl z) z) z ?_)))
   obtain ⟨u58,hh⟩:=aP hh
   refine TA.b 8 z (bU z eU fZ z z bP.isSl (by omega)) z ?_
   obtain ⟨O7,GY,hg115⟩:=RZ.seg bP aT (by omega)
   replace GY:dA _ aG O7.1 O7.2 (nth x1.next aT []):=GY
   have hk115b:=GY.rv.big
   refine TA.b 9 z (OpVal.of (kZ z hs_ z hg115 z) (v':= .slice O7.1 ((nth x1.next aT []).length) O7.2) z) z ?_
   obtain ⟨v60,u60,hh⟩:=dM hh
   refine TA.ac 10 z (jF (Gy_ vG GY u60) z z pf52 z z z (k0 ?_))
   refine Ω 11 z (OpVal.not z z) z (Ω 12 z (moveB (.inl z) z) z (TA.split 64 z (λh116=> ?_) (λh116=> ?_)))
   ·replace hh:=gZ h116 hh
    refine TA.off 13 z z z z z z (TA.off 14 z z z z z z (TA.off 15 z z z z z z (TA.off 16 z z z z z z (TA.off 17 z z z z z z (TA.off 18 z z z z z z (TA.vH 19 z (by kernel_rfl) (by kernel_rfl) (by kernel_rfl) (by kernel_rfl) z z z z z z z (TA.vH 20 z (by kernel_rfl) (by kernel_rfl) (by kernel_rfl) (by kernel_rfl) z z z z z z z (TA.vH 21 z (by kernel_rfl) (by kernel_rfl) (by kernel_rfl) (by kernel_rfl) z z z z z z z (TA.vH 22 z (by kernel_rfl) (by kernel_rfl) (by kernel_rfl) (by kernel_rfl) z z z z z z z (TA.vH 23 z (by kernel_rfl) (by kernel_rfl) (by kernel_rfl) (by kernel_rfl) z z z z z z z (TA.vH 24 z (by kernel_rfl) (by kernel_rfl) (by kernel_rfl) (by kernel_rfl) z z z z z z z (TA.vH 25 z (by kernel_rfl) (by kernel_rfl) (by kernel_rfl) (by kernel_rfl) z z z z z z z (TA.vH 26 z (by kernel_rfl) (by kernel_rfl) (by kernel_rfl) (by kernel_rfl) z z z z z z z (TA.vH 27 z (by kernel_rfl) (by kernel_rfl) (by kernel_rfl) (by kernel_rfl) z z z z z z z (TA.vH 28 z (by kernel_rfl) (by kernel_rfl) (by kernel_rfl) (by kernel_rfl) z z z z z z z ?_)))))))))))))))
    refine TA.vH 29 z (by kernel_rfl) (by kernel_rfl) (by kernel_rfl) (by kernel_rfl) z z z z z z z (TA.vH 30 z (by kernel_rfl) (by kernel_rfl) (by kernel_rfl) (by kernel_rfl) z z z z z z z (TA.off 31 z z z z z z (Ω 32 z (dS z z z) z (TA.dn (S.n (TC.t z (ψ (TL.j z z (ε (TC.rt 0 (B.r (S.r (S.r ?_)))))))))))))
    replace hh:=dG hR1 hh
    refine B.r (S.r ?_)
    obtain rfl:=so hh
    exact rq [4] ⟨z,z,z⟩
   replace hh:=gY h116 hh
   refine TA.on 13 z z z z (dw (.inl z) z) z (TA.on 14 z z z z (aS z oQ z) z (TA.on 15 z z z z (aZ z pI z (i:=0) z z) z (TA.on 16 z z z z (lenC z lI z) z (TA.on 17 z z z z (OpVal.lss z z z) z (TA.on 18 z z z z (moveB (.inl z) z) z (TA.split 70 z (λqy=> ?_) (λqy=> ?_)))))))
   ·replace hh:=gZ qy hh
    replace qy:=jg qy
    refine TA.on 19 z z z z (aS z oQ z) z (TA.on 20 z z z z (aZ z pI z (i:=0) z z) z (TA.on 21 z z z z (dw (.inl z) z) z (TA.on 22 z z z z (bU z lI mM z z aY.isSl (by omega)) z ?_)))
    obtain ⟨sV,mQ,Dj⟩:=RZ.seg aY aT (by omega)
    replace mQ:dA _ aJ sV.1 sV.2 (nth x0.outs aT []):=mQ
    have hk118b:=mQ.rv.big
    refine TA.on 23 z z z z (OpVal.of (kZ z lJ z Dj z) (v':= .slice sV.1 ((nth x0.outs aT []).length) sV.2) z) z (TA.on 24 z z z z (aS z oQ z) z (TA.on 25 z z z z (aZ z pI z (i:=1) z z) z (TA.on 26 z z z z (dw (.inl z) z) z ?_)))
    obtain ⟨u77,hh⟩:=aP hh
    refine TA.on 27 z z z z (bU z lI mM z z ku.isSl (by omega)) z ?_
    obtain ⟨sU,lZ,Di⟩:=RZ.seg ku aT (by omega)
    replace lZ:dA _ aJ sU.1 sU.2 (nth x1.outs aT []):=lZ
    have hk119b:=lZ.rv.big
    refine TA.on 28 z z z z (OpVal.of (kZ z lJ z Di z) (v':= .slice sU.1 ((nth x1.outs aT []).length) sU.2) z) z ?_
    obtain ⟨v79,u79,hh⟩:=dM hh
    refine TA.dv_ 29 (by kernel_rfl) z z z z z z (jF (D4_ mQ lZ u79) z z Wn z z z (k0 ?_))
    refine TA.on 30 z z z z (OpVal.not z z) z (TA.on 31 z z z z (dS z z z) z (Ω 32 z (dV z z z) z (TA.dn (S.n (TC.cB z hh (λLQ hh=> ?_) (λLQ hh=> ?_))))))
    ·refine ψ (TL.j z z (ε (TC.rt 0 (B.r (S.r (S.r ?_))))))
     replace hh:=dG hR1 hh
     refine B.r (S.r ?_)
     obtain rfl:=so hh
     exact rq [4] ⟨z,z,z⟩
    exact ι (B.n (S.n (cf ((),()) hh (Θ [1,1] 2))))
   replace hh:=gY qy hh
   replace qy:=jo qy
   refine TA.off 19 z z z z z z (TA.off 20 z z z z z z (TA.off 21 z z z z z z (TA.off 22 z z z z z z (TA.off 23 z z z z z z (TA.off 24 z z z z z z (TA.off 25 z z z z z z (TA.off 26 z z z z z z (TA.off 27 z z z z z z (TA.off 28 z z z z z z (TA.off 29 z z z z z z (TA.off 30 z z z z z z (TA.on 31 z z z z (dV z z z) z (Ω 32 z (dV z z z) z (TA.dn (S.n ?_)))))))))))))))
   exact TC.f z (ι (B.n (S.n (cf ((),()) hh (Θ [1,1] 2)))))
  skip
  obtain ⟨_,_⟩:=g
  have hh:=hg;clear hg
  try dsimp only
  dsimp only [ZN]at hh
  refine η (ξ z z (ω z (OpVal.succ z z z (by omega)) (ξ z z (ε ?_))))
  obtain ⟨hh,En⟩:=dO hR1 hh
  exact lf ((aT+1),()) En hh (Θ [1,1] 2)
 refine TC.exit (S.x (S.x ?_))
 replace hh:=dG hR1 hh
 refine Δ (S.n (ψ (TL.j z z (ε (TC.rt 0 ?_)))))
 obtain rfl:=so hh
 exact rq [4] ⟨z,z,z⟩
end Go.Proofs.YtchebnpdnfhenaaGreatDoor
end

noncomputable section
namespace Go.E
open Go
section
variable {β:Type} {E' E size:Nat} {enc:β->List Value} {v:Value}
theorem Zn.one(l:List β)(p:Option Addr×Nat):Zn [(l,p)] [l]:=rfl
theorem Zn.app{z y:List (NP β)}{l k:List (List β)}(h:Zn z l)(h2:Zn y k):Zn (z++y) (l++k):=by
  unfold Zn at *;rw [List.map_append,h,h2]
theorem Reach.dw_{w0:World}{C:List Nat}{σ0 σ:aj}{w:World}{F:List Res}(E' E size:Nat)(enc:β->List Value)(h:Reach w0 C σ0 σ w F):Reach w0 C σ0 σ w (Res.nest E' E size enc (.slice none 0 0) []::F):=
  Reach.star (G:=[_]) (h.nilRow E' 1)
variable {X:Ctx} {e:Env} {σ:aj} {H F:List Res} {o:Oper} {x y:Operand} {K:Env->aj->List Res->Prop} {z u:List (NP β)} {l k:List (List β)}
theorem OpOk.buildN{T d:Nat}{parts:Array (Nat×Operand)}{zv:Value}{a:Option Addr}{m c:Nat}{l':List β}(hm:l'.length=m)(ho:o.op= .buildSlice T 1 parts)(ht:X.P.underlying T=some (.slice E'))(hs:szOf X.P E'=some 1)(hz:zeroOf X.P E'=some zv)(hd:o.dst=some d)(hn:Nat.blt d X.n=true)
    (hz0:zv.cells.toList=[.slice none 0 0]) (hf:Pe (λi=>some (i * 1,1)) [.slice none 0 0] (parts.toList.map λx=>(x.1,ev e x.2))=some [.slice a m c])
    (kk: ∀a1 c1,Zn [(l',(a,c))] [l']->K (upd e d (.slice a1 ([l']:List (List β)).length c1)) σ (Res.nest E' E size enc (.slice a1 ([l']:List (List β)).length c1) [(l',(a,c))]::F)):OpOk X o e σ (φ E size enc (.slice a m c) l'::F) K:=by
  subst hm
  refine OpOk.then (OpOk.lit (enc:=(pG:NP β->List Value)) (K:=λe' σ' G=> ∃a1 c1,e'=upd e d (.slice a1 1 c1)/\σ'=σ/\G=φ E' 1 pG (.slice a1 1 c1) [(l',(a,c))]::φ E size enc (.slice a l'.length c) l'::F) [(l',(a,c))] ho ht hs hz hd hn rfl ke_ (by decide) (by decide) ou hz0 (by decide) hf (by decide) qb_ λa1 c1=>⟨a1,c1,rfl,rfl,rfl⟩) ?_
  rintro e' σ' G ⟨a1,c1,rfl,rfl,rfl⟩
  exact ⟨_,λw h=>Reach.star (G:=[φ E' 1 pG (.slice a1 1 c1) [(l',(a,c))],Px E size enc (l',(a,c))]) h,kk a1 c1 (Zn.one l' (a,c))⟩
theorem OpOk.dl_{T d nY:Nat}{zv w:Value}{ty:TypeId}(ho:o.op= .call {callee:= .builtin .append,args:= #[x,y],argTypes:= #[T,ty]})(hty:ty=T)(ht:X.P.underlying T=some (.slice E'))(hs:szOf X.P E'=some 1)(hby:byOf X.P E'=some nY)(hz:zeroOf X.P E'=some zv)
    (hd:o.dst=some d) (hn:Nat.blt d X.n=true) (hzs:zv.cells.size=1) (hx:ev e x=v) (hy:ev e y=w) (hZ:Zn z l) (hU:Zn u k) (hb0:(l.length+k.length) * nY<=140737488355328) (qw:0<nY)
    (kk: ∀a c,Zn (z++u) (l++k)->K (upd e d (.slice a (l++k).length c)) σ (Res.nest E' E size enc (.slice a (l++k).length c) (z++u)::F)):OpOk X o e σ (Res.nest E' E size enc v z::Res.nest E' E size enc w u::F) K:=by
  refine OpOk.by (H':=φ E' 1 pG v z::φ E' 1 pG w u::(tN E size enc z++(tN E size enc u++F))) (λw' h=> ?_) ?_
  · have h1:=h.Vd
    have h2:Reach _ _ _ _ _ (Res.nest E' E size enc w u::(φ E' 1 pG v z::tN E size enc z++F)):=h1.perm (by
      simp only [List.cons_append]
      exact (List.perm_middle (l₁:=φ E' 1 pG v z::tN E size enc z)).symm)
    have h3:=h2.Vd
    refine h3.perm ?_
    simp only [List.cons_append]
    refine List.Perm.trans (List.Perm.swap _ _ _) (List.Perm.cons _ ?_)
    refine List.Perm.symm ((List.perm_middle (l₁:=tN E size enc u)).trans (List.Perm.cons _ ?_))
    rw [<-qH,<-qH]
    exact (List.perm_append_comm).append_right F
  refine OpOk.then (OpOk.as_ (enc:=(pG:NP β->List Value)) (K:=λe' σ' G=> ∃a c,e'=upd e d (.slice a (z++u).length c)/\σ'=σ/\G=φ E' 1 pG (.slice a (z++u).length c) (z++u)::φ E' 1 pG w u::(tN E size enc z++(tN E size enc u++F))) ho hty ht hs hby hz hd hn (by decide) hzs hx hy (.inr ⟨_,0,rfl⟩) (by rw [hZ.len,hU.len];exact hb0) qw λa c=>⟨a,c,rfl,rfl,rfl⟩) ?_
  rintro e' σ' G ⟨a,c,rfl,rfl,rfl⟩
  have hl:(z++u).length=(l++k).length:=by rw [gB,gB,hZ.len,hU.len]
  rw [hl]
  refine ⟨_,λw' h=>Reach.star ?_,kk a c (hZ.app hU)⟩
  have h1:=h.sub (H':=φ E' 1 pG (.slice a (l++k).length c) (z++u)::(tN E size enc z++(tN E size enc u++F))) (List.Sublist.cons_cons _ (List.sublist_cons_self _ _))
  have e1:tN E size enc (z++u)=tN E size enc z++tN E size enc u:=List.map_append
  rw [e1]
  simpa only [List.cons_append,qH]using h1
end
end Go.E
end

noncomputable section
namespace Go.Proofs.YtchebnpdnfhenaaGreatDoor
open Go Go.E Go.E.OpVal Go.E.OpOk Go.Proofs.Tryz
open List (replicate)
theorem by29:byOf Tryz.prog 29=some 24:=by kernel_rfl
theorem pf17:plainF Tryz.prog 17=true:=by kernel_rfl
theorem pf33:plainF Tryz.prog 33=true:=by kernel_rfl
theorem pf36:plainF Tryz.prog 36=true:=by kernel_rfl
theorem pf37:plainF Tryz.prog 37=true:=by kernel_rfl
theorem OA:plainF Tryz.prog 55=true:=by kernel_rfl
theorem pf71:plainF Tryz.prog 71=true:=by kernel_rfl
theorem pf74:plainF Tryz.prog 74=true:=by kernel_rfl
theorem pf75:plainF Tryz.prog 75=true:=by kernel_rfl
def Q8(x0:Seq)(dL:Nat)(jI:B_1)(dH:aC)(t146:Bool)(yN:aC)(kP:Nat):Option ((aC×Nat)⊕((aC×B_1×Bool×Nat)⊕((aC×B_1×Bool)⊕(aC×B_1×Int)))):=
 aN (decide ((kP:Int)<256)) (grd (kP<(nth x0.next dL []).length) (aN (decide (0<=(nth (nth x0.next dL []) kP 0))) (grd (0<=(nth (nth x0.next dL []) kP 0)/\(nth (nth x0.next dL []) kP 0)<(jI.length:Int)) (aN (nth jI ((nth (nth x0.next dL []) kP 0).toNat) false) (grd (dL<x0.outs.length) (grd (kP<(nth x0.outs dL []).length) (grd (0<=(nth (nth x0.next dL []) kP 0)/\(nth (nth x0.next dL []) kP 0)<(dH.length:Int)) (grd ((nth (nth x0.outs dL []) kP []).length+(nth dH ((nth (nth x0.next dL []) kP 0).toNat) []).length<=9223372036854775807) (grd ((yN.length+[((nth (nth x0.outs dL []) kP [])++(nth dH ((nth (nth x0.next dL []) kP 0).toNat) []))].length) * 16<=140737488355328) (nxt ((yN++[((nth (nth x0.outs dL []) kP [])++(nth dH ((nth (nth x0.next dL []) kP 0).toNat) []))]),(kP+1)))))))) (nxt (yN,(kP+1))))) (nxt (yN,(kP+1))))) (fin (aN (decide (((yN.length:Nat):Int)=0)) (nxt (dH,jI,t146,(dL+1))) (bnd (Dp_ yN) (λv87=>grd (dL<jI.length) (aN (!(nth jI dL false)) (grd (dL<jI.length) (grd (dL<dH.length) (nxt ((dH.set dL v87),(jI.set dL true),true,(dL+1))))) (grd (dL<dH.length) (aN (decide (v87≠(nth dH dL []))) (grd (dL<jI.length) (grd (dL<dH.length) (nxt ((dH.set dL v87),(jI.set dL true),true,(dL+1))))) (nxt (dH,jI,t146,(dL+1))))))))))
def Bo_(x0:Seq)(dL:Nat)(jI:B_1)(dH:aC)(t146:Bool)(WE:aC):Option ((aC×B_1×Bool×Nat)⊕((aC×B_1×Bool)⊕(aC×B_1×Int))):=
 bC (λq:aC×Nat=>Q8 x0 dL jI dH t146 q.1 q.2) (WE,0)
def Q7(x0:Seq)(dH:aC)(jI:B_1)(t146:Bool)(dL:Nat):Option ((aC×B_1×Bool×Nat)⊕((aC×B_1×Bool)⊕(aC×B_1×Int))):=
 aN (decide ((dL:Int)<((x0.next.length:Nat):Int))) (grd (dL<x0.fin.length) (aN (nth x0.fin dL false) (grd (dL<x0.tail.length) (grd ((([]:aC).length+[(nth x0.tail dL [])].length) * 16<=140737488355328) (Bo_ x0 dL jI dH t146 (([]:aC)++[(nth x0.tail dL [])])))) (Bo_ x0 dL jI dH t146 ([]:aC)))) (fin (nxt (dH,jI,t146)))
def Vs(x0:Seq)(Pn:aC)(aO:B_1)(t124:Bool):Option ((aC×B_1×Bool)⊕(aC×B_1×Int)):=
 aN t124 (bC (λq:aC×B_1×Bool×Nat=>Q7 x0 q.1 q.2.1 q.2.2.1 q.2.2.2) (Pn,aO,false,0)) (fin (some (Pn,aO,0)))
def B5_(x0:Seq):Option (aC×B_1×Int):=
 bnd (Q_ x0) (λv6=>aN (!v6) (some (([]:aC),([]:B_1),1)) (grd (16 * x0.next.length<=281474976710656) (grd (1 * x0.next.length<=281474976710656) (bC (λq:aC×B_1×Bool=>Vs x0 q.1 q.2.1 q.2.2) ((replicate x0.next.length ([]:T_1)),(replicate x0.next.length false),true)))))
def G2_(σ:aj)(r:aC×B_1×Int):Value->aj->List Res->Prop:=λv σ' H'=>
 ∃a1 c1 a2 c2,v= .tuple #[.slice a1 r.1.length c1,.slice a2 r.2.1.length c2,.int .i64 r.2.2]/\dA σ' aJ a1 c1 r.1/\dA σ' eq_ a2 c2 r.2.1/\H'=[]
theorem Gj_{σ:aj}{x0:Seq}(au:RZ σ (aB 1 aG bn) (.slice aI x0.next.length aH) x0.next)(aY:RZ σ (aB 1 aJ bF) (.slice aA x0.outs.length aX) x0.outs)(aV:dA σ eq_ aU ay x0.fin)(aQ:dA σ aJ bJ bD x0.tail){r:aC×B_1×Int}(hh:B5_ x0=some r):
  Con prog 33 #[.agg (oI x0 aI aH aA aX aU ay bJ bD)] σ [] (G2_ σ r):=by
 dsimp only [B5_]at hh
 have f0_0b:=au.big
 have f0_1b:=aY.big
 have f0_2b:=aV.rv.big
 have f0_3b:=aQ.rv.big
 refine Con.mk (n:=106) Tryz.func33 z z z (λw0=> ?_)
 refine ψ (ν z (boxA z z z z (λbG=> ?_)))
 refine Φ z z (Φ z z (ξ z z (ε (ζ (ψ (ω z (kG z ji fE z (i:=0) z z) ?_))))))
 obtain ⟨v6,u6,hh⟩:=dM hh
 refine ν z (jF (C1_ (x0:=x0) au aY aV aQ u6) z z OA z z z ?_)
 refine ω z (OpVal.not z z) (ε (TC.cB z hh (λiI hh=> ?_) (λiI hh=> ?_)))
 ·refine ψ (Φ z z (Φ z z (ξ z z (ε (TC.rt 0 (S.r ?_))))))
  obtain rfl:=so hh
  exact rq [2,3,4] ⟨none,0,none,0,z,(RS.nilF _ aJ bF),(RS.nilF _ eq_ jc),z⟩
 refine ι (S.n (ψ (ω z (aS z kS z) (ω z (aZ z jT z (i:=0) z z) (ω z (lenC z eU z) (ξ z z (ε (ψ (ξ z z ?_)))))))))
 obtain ⟨u16,hh⟩:=aP hh
 refine ν z (pz (enc:=aJ) ([]:T_1) z fK fU zF sQ z z z z (by omega) (by decide) bF (by decide) z rE (λAz c105=> ?_))
 refine Φ z z (ε (ψ (ξ z z ?_)))
 obtain ⟨wo,hh⟩:=aP hh
 refine ν z (pz (enc:=eq_) false z gI gQ G8 AA z z z z (by omega) (by decide) jc (by decide) z qZ (λa107 yw=> ?_))
 refine Φ z z (ε (ζ (ψ (TL.j z z (ε (υ (TC.ig (α:=(aC×B_1×Bool)×(Unit)) (rgs [(8,6),(24,80)]) (λg=>[(8,.bool g.1.2.2)]) (λg=>[jl bG x0 aI aH aA aX aU ay bJ bD,φ 9 1 aJ (.slice Az (replicate x0.next.length ([]:T_1)).length c105) g.1.1,φ 4 1 eq_ (.slice a107 (replicate x0.next.length false).length yw) g.1.2.1]) (λg=>σ) (λg=>bC (λq:aC×B_1×Bool=>Vs x0 q.1 q.2.1 q.2.2) g.1=some r/\g.1.1.length=(replicate x0.next.length ([]:T_1)).length/\g.1.2.1.length=(replicate x0.next.length false).length) (λg=>f_ (λq:aC×B_1×Bool=>Vs x0 q.1 q.2.1 q.2.2) g.1) (((replicate x0.next.length ([]:T_1)),(replicate x0.next.length false),true),()) (Θ [1,2] 3) z (by repeat (first|exact trivial|refine ⟨z,?_⟩)) ⟨hh,z,z⟩ (λg1 j1 hg1=> ?_))))))))
 obtain ⟨⟨Pn,aO,t124⟩,_⟩:=g1
 obtain ⟨hh,KG,gG⟩:=hg1
 try dsimp only at KG gG ⊢
 obtain ⟨z1,hh,hR1⟩:=gJ hh
 dsimp only [Vs]at hh
 refine χ (i:=1) z (λ_ hb125 _=> ?_)
 refine χ (i:=2) z (λ_ Dn _=> ?_)
 refine ζ (ψ (TL.j z z (ε (TC.cB z hh (λh127 hh=> ?_) (λh127 hh=> ?_)))))
 ·refine ι (S.n (υ (ψ (TL.j z z (ε (ψ (ξ z z (ε (υ (TC.ig (α:=(aC×B_1×Bool×Nat)×(Unit)) (rgs [(8,6),(25,79)]) (λg=>[(8,.bool g.1.2.2.1),(9,.int .i64 ((g.1.2.2.2:Nat):Int))]) (λg=>[jl bG x0 aI aH aA aX aU ay bJ bD,φ 9 1 aJ (.slice Az (replicate x0.next.length ([]:T_1)).length c105) g.1.1,φ 4 1 eq_ (.slice a107 (replicate x0.next.length false).length yw) g.1.2.1]) (λg=>σ) (λg=>bC (λq:aC×B_1×Bool×Nat=>Q7 x0 q.1 q.2.1 q.2.2.1 q.2.2.2) g.1=some z1/\g.1.1.length=(replicate x0.next.length ([]:T_1)).length/\g.1.2.1.length=(replicate x0.next.length false).length) (λg=>f_ (λq:aC×B_1×Bool×Nat=>Q7 x0 q.1 q.2.1 q.2.2.1 q.2.2.2) g.1) ((Pn,aO,false,0),()) (Θ [2,2,2] 3) z (by repeat (first|exact trivial|refine ⟨z,?_⟩)) ⟨hh,KG,gG⟩ (λg2 j2 hg2=> ?_)))))))))))
  obtain ⟨⟨dH,jI,t146,dL⟩,_⟩:=g2
  obtain ⟨hh,mP,Gz⟩:=hg2
  try dsimp only at mP Gz ⊢
  obtain ⟨z2,hh,hR2⟩:=gJ hh
  dsimp only [Q7]at hh
  refine χ (i:=1) z (λ_ hb148 _=> ?_)
  refine χ (i:=2) z (λ_ hb149 _=> ?_)
  refine ζ (ψ (ξ z z (ξ z z (ω z (OpVal.lss z z z) (ε (TC.cD z hh (λuO hh=> ?_) (λuO hh=> ?_)))))))
  ·refine ι (S.n (ζ (υ (ψ (Φ z z (ε (TC.cutG (α:=(aC)×((Option Addr)×Nat)) (rgs [(10,1),(30,13)]) (λg=>[(10,.slice g.2.1 g.1.length g.2.2)]) (λg=>[jl bG x0 aI aH aA aX aU ay bJ bD,φ 9 1 aJ (.slice Az (replicate x0.next.length ([]:T_1)).length c105) dH,φ 4 1 eq_ (.slice a107 (replicate x0.next.length false).length yw) jI,φ 9 1 aJ (.slice g.2.1 g.1.length g.2.2) g.1]) (λg=>σ) (λg=>Bo_ x0 dL jI dH t146 g.1=some z2/\dH.length=(replicate x0.next.length ([]:T_1)).length/\jI.length=(replicate x0.next.length false).length) ?_ (λg j hg=> ?_))))))))
   ·skip
    refine ψ (ω z (aS z tV z) (ω z (aZ z qV z (i:=0) z z) (ξ z z ?_)))
    obtain ⟨u32,hh⟩:=aP hh
    refine ω z (bU z gI gQ z z aV.rv.sl (by omega)) (ω z (fF false z nG z aV (by omega) z) (ε (TC.cB z hh (λYH hh=> ?_) (λYH hh=> ?_))))
    ·refine η (Φ z z (ω z (aS z uh z) (ω z (aZ z lJ z (i:=0) z z) (ξ z z ?_))))
     obtain ⟨u38,hh⟩:=aP hh
     refine ω z (bU z fK fU z z aQ.rv.sl (by omega)) (ω z (fF ([]:T_1) z iG z aQ (by omega) z) (ν z (OpOk.lit (enc:=aJ) [(nth x0.tail dL [])] z fK fU sQ z z z bF (by decide) (by decide) ([]:T_1) z (by decide) z (by decide) rE (λa158 c159=> ?_))))
     refine TL.nilS 9 1 aJ ?_
     obtain ⟨FB,hh⟩:=aP hh
     refine ν z (as_ z z fK fU zF sQ z z (by decide) z z z (.inr ⟨_,0,z⟩) (by simp) (by decide) (λa162 c163=> ?_))
     exact Φ z z (ε (cf ((([]:aC)++[(nth x0.tail dL [])]),(a162,c163)) ⟨hh,mP,Gz⟩ (Θ [4,4,4] 4)))
    exact TC.nilS 9 1 aJ (ι (S.n (cf (([]:aC),(none,0)) ⟨hh,mP,Gz⟩ (Θ [3,3,3] 4))))
   skip
   obtain ⟨WE,⟨Zr,c156⟩⟩:=g
   obtain ⟨hh,Gx,Gw⟩:=hg
   try dsimp only at Gx Gw ⊢
   dsimp only [Bo_]at hh
   refine χ (i:=1) z (λ_ hb165 _=> ?_)
   refine χ (i:=2) z (λ_ hb166 _=> ?_)
   refine χ (i:=3) z (λ_ hb167 _=> ?_)
   refine ζ (ψ (ξ z z (ε (υ (TC.ig (α:=(aC×Nat)×((Option Addr)×Nat)) (rgs [(10,3),(43,36)]) (λg=>[(10,.slice g.2.1 g.1.1.length g.2.2),(11,.int .i64 ((g.1.2:Nat):Int))]) (λg=>[jl bG x0 aI aH aA aX aU ay bJ bD,φ 9 1 aJ (.slice Az (replicate x0.next.length ([]:T_1)).length c105) dH,φ 4 1 eq_ (.slice a107 (replicate x0.next.length false).length yw) jI,φ 9 1 aJ (.slice g.2.1 g.1.1.length g.2.2) g.1.1]) (λg=>σ) (λg=>bC (λq:aC×Nat=>Q8 x0 dL jI dH t146 q.1 q.2) g.1=some z2/\dH.length=(replicate x0.next.length ([]:T_1)).length/\jI.length=(replicate x0.next.length false).length) (λg=>f_ (λq:aC×Nat=>Q8 x0 dL jI dH t146 q.1 q.2) g.1) ((WE,0),(Zr,c156)) (Θ [3,3,3,3] 4) z (by repeat (first|exact trivial|refine ⟨z,?_⟩)) ⟨hh,Gx,Gw⟩ (λg3 j3 hg3=> ?_))))))
   obtain ⟨⟨yN,kP⟩,⟨qE,qB⟩⟩:=g3
   obtain ⟨hh,mO,vF⟩:=hg3
   try dsimp only at mO vF ⊢
   obtain ⟨z3,hh,Ag⟩:=gJ hh
   dsimp only [Q8]at hh
   refine χ (i:=1) z (λ_ hb188 _=> ?_)
   refine χ (i:=2) z (λ_ hb189 _=> ?_)
   refine χ (i:=3) z (λ_ hb190 _=> ?_)
   refine ζ (ψ (ξ z z (ω z (OpVal.lss z z z) (ε (TC.cD z hh (λh191 hh=> ?_) (λh191 hh=> ?_))))))
   ·refine ι (S.n (ζ (υ (ψ (ω z (aS z kS z) (ω z (aZ z jT z (i:=0) z z) (ξ z z (ω z (bU z eU fZ z z au.isSl (by omega)) ?_))))))))
    obtain ⟨OL,CQ,hg192⟩:=RZ.seg au dL (by omega)
    replace CQ:dA _ aG OL.1 OL.2 (nth x0.next dL []):=CQ
    have hk192b:=CQ.rv.big
    refine ω z (OpVal.of (kZ z hs_ z hg192 z) (v':= .slice OL.1 ((nth x0.next dL []).length) OL.2) z) (ξ z z ?_)
    obtain ⟨Oi,hh⟩:=aP hh
    refine ω z (bU z b_ dB z z CQ.rv.sl (by omega)) (ω z (fF (0:Int) z fJ z CQ (by omega) z) (ξ z z (ε (ψ (ξ z z (ω z (OpVal.geq z z z) (TL.j z z (TL.split 57 z (λAj=> ?_) (λAj=> ?_)))))))))
    ·replace hh:=gZ Aj hh
     replace Aj:=jg Aj
     refine Ψ z (gu (.inl z) z) (Ψ z (dw (.inl z) z) ?_)
     obtain ⟨u60,hh⟩:=aP hh
     refine TL.isSl (i:=2) z (λhs194 _ _=> ?_)
     refine Ψ z (OpVal.index z gI gQ z z hs194 u60.1 u60.2) (Ψ z (og false z nG z (q:=2) z jc (by omega) z) (ω z (dS z z z) (ε (TC.cB z hh (λh195 hh=> ?_) (λh195 hh=> ?_)))))
     ·have u67:=H7 hh
      replace hh:=Hz hh
      obtain ⟨u70,hh⟩:=aP hh
      obtain ⟨VH,hh⟩:=aP hh
      obtain ⟨Nc,hh⟩:=aP hh
      obtain ⟨u78,hh⟩:=aP hh
      refine TC.draw [15,16] (by kernel_rfl) (Ω 0 z (gu (.inl z) z) z (Ω 1 z (aS z oQ z) z (TA.b 2 z (aZ z pI z (i:=0) z z) z (Ω 3 z (dw (.inl z) z) z (TA.b 4 z (bU z lI mM z z aY.isSl (by omega)) z ?_)))))
      obtain ⟨JD,CP,hg203⟩:=RZ.seg aY dL (by omega)
      replace CP:dA _ aJ JD.1 JD.2 (nth x0.outs dL []):=CP
      have hk203b:=CP.rv.big
      refine TA.b 5 z (OpVal.of (kZ z lJ z hg203 z) (v':= .slice JD.1 ((nth x0.outs dL []).length) JD.2) z) z (Ω 6 z (dw (.inl z) z) z (TA.b 7 z (bU z fK fU z z CP.rv.sl (by omega)) z (TA.b 8 z (fF ([]:T_1) z iG z CP (by omega) z) z (Ω 9 z (gu (.inl z) z) z (Ω 10 z (dw (.inl z) z) z (TA.isSl (i:=1) z (λhs204 _ _=> ?_)))))))
      refine TA.b 11 z (OpVal.index z fK fU z z hs204 VH.1 VH.2) z (TA.b 12 z (og ([]:T_1) z iG z (q:=1) z bF (by omega) z) z (Ω 13 z (P8 z z z Nc) z (TA.ac 14 z (OpOk.lit (enc:=aJ) [((nth (nth x0.outs dL []) kP [])++(nth dH ((nth (nth x0.next dL []) kP 0).toNat) []))] z fK fU sQ z z z bF (by decide) (by decide) ([]:T_1) z (by decide) z (by decide) rE (λyS c206=>(k1 ?_))))))
      refine TA.front 4 z z (TA.last 15 (by kernel_rfl) z z z (as_ z z fK fU zF sQ z z (by decide) z z z (.inr ⟨_,0,z⟩) (by simpa using u78) (by decide) (λa208 YW=> ?_)))
      refine TZ.v 16 (by kernel_rfl) z z z (gu (.inr z) z) z z (TZ.done (by kernel_rfl) (B.n (S.n (η (ξ z z (ω z (OpVal.succ z z z (by omega)) (ξ z z (ε ?_))))))))
      obtain ⟨hh,D9⟩:=dO Ag hh
      exact lf (((yN++[((nth (nth x0.outs dL []) kP [])++(nth dH ((nth (nth x0.next dL []) kP 0).toNat) []))]),(kP+1)),(a208,YW)) D9 ⟨hh,mO,vF⟩ (Θ [4,4,4] 4)
     refine ι (B.n (S.n (η (ξ z z (ω z (OpVal.succ z z z (by omega)) (ξ z z (ε ?_)))))))
     obtain ⟨hh,XE⟩:=dO Ag hh
     exact lf ((yN,(kP+1)),(qE,qB)) XE ⟨hh,mO,vF⟩ (Θ [3,3,3,3] 4)
    replace hh:=gY Aj hh
    replace Aj:=jo Aj
    refine π z (π z (π z (π z (ω z (dV z z z) (ε (TC.f z (ι (B.n (S.n (η (ξ z z (ω z (OpVal.succ z z z (by omega)) (ξ z z (ε ?_))))))))))))))
    obtain ⟨hh,XD⟩:=dO Ag hh
    exact lf ((yN,(kP+1)),(qE,qB)) XD ⟨hh,mO,vF⟩ (Θ [3,3,3,3] 4)
   refine TC.exit (S.x (S.x ?_))
   replace hh:=dG Ag hh
   refine Δ (S.n (ζ (ψ (Φ z z (ω z (lenC z fK z) (ω z (OpVal.eql z z z) (ε (TC.cD z hh (λYF hh=> ?_) (λYF hh=> ?_)))))))))
   ·refine TC.exit (S.x (Δ (S.n (η (ξ z z (ω z (OpVal.succ z z z (by omega)) (ξ z z (ε ?_))))))))
    obtain ⟨hh,XC⟩:=dO hR2 hh
    exact lf ((dH,jI,t146,(dL+1)),()) XC ⟨hh,mO,vF⟩ (Θ [2,2,2] 3)
   refine ι (S.n (ψ (Φ z z ?_)))
   obtain ⟨v87,u87,hh⟩:=dM hh
   refine θ 3 z z (ν z (Ve (Con.lend bF (λ_ hle216 hr215=>G8_ hr215 u87)) z z pf71 z z z z ?_))
   refine ω z (eu (.inr z) z) (ε (ψ (Φ z z (ξ z z ?_))))
   obtain ⟨u91,hh⟩:=aP hh
   refine TL.isSl (i:=3) z (λJR _ _=> ?_)
   refine ω z (bU z gI gQ z z JR (by omega)) (ω z (og false z nG z (q:=3) z jc (by omega) z) (ω z (OpVal.not z z) (TL.j z z (TL.split 89 z (λYD=> ?_) (λYD=> ?_)))))
   ·replace hh:=gZ YD hh
    refine π z (π z (π z (π z (π z (π z (ω z (dS z z z) (ε (TC.t z (ψ (Φ z z (ξ z z ?_)))))))))))
    obtain ⟨Oo,hh⟩:=aP hh
    refine TL.isSl (i:=3) z (λhs219 _ _=> ?_)
    refine ω z (bU z gI gQ z z hs219 (by omega)) (θ 3 z z ?_)
    have hn220:(jI.set dL true).length=(replicate x0.next.length false).length:=by rw [gy];exact vF
    refine ν z (lG true z gQ z z z z jc qZ (by omega) (by omega) ?_)
    refine ε (ψ (Φ z z (ξ z z (ω z (eu (.inl z) z) ?_))))
    obtain ⟨u109,hh⟩:=aP hh
    refine TL.isSl (i:=3) z (λhs221 _ _=> ?_)
    refine ω z (bU z fK fU z z hs221 (by omega)) (θ 3 z z ?_)
    have hn222:(dH.set dL v87).length=(replicate x0.next.length ([]:T_1)).length:=by rw [gy];exact mO
    refine ν z (lG v87 z fU z z z z bF rE (by omega) (by omega) ?_)
    refine ε (η (TL.j z z (TL.nil (B.n (S.n (η (ξ z z (ω z (OpVal.succ z z z (by omega)) (ξ z z (ε ?_))))))))))
    obtain ⟨hh,XB⟩:=dO hR2 hh
    exact lf (((dH.set dL v87),(jI.set dL true),true,(dL+1)),()) XB ⟨hh,hn222,hn220⟩ (Θ [1,1,3] 3)
   replace hh:=gY YD hh
   refine Ψ z (eu (.inl z) z) (Ψ z (gu (.inl z) z) (Ψ z (dw (.inl z) z) ?_))
   obtain ⟨u98,hh⟩:=aP hh
   refine TL.isSl (i:=2) z (λBF _ _=> ?_)
   refine Ψ z (bU z fK fU z z BF (by omega)) (Ψ z (og ([]:T_1) z iG z (q:=2) z bF (by omega) z) (Ψ z (Ih z z z) (ω z (dV z z z) (ε (TC.cD z hh (λYB hh=> ?_) (λYB hh=> ?_))))))
   ·refine ψ (Φ z z (ξ z z ?_))
    obtain ⟨Oo,hh⟩:=aP hh
    refine TL.isSl (i:=3) z (λhs226 _ _=> ?_)
    refine ω z (bU z gI gQ z z hs226 (by omega)) (θ 3 z z ?_)
    have hn227:(jI.set dL true).length=(replicate x0.next.length false).length:=by rw [gy];exact vF
    refine ν z (lG true z gQ z z z z jc qZ (by omega) (by omega) ?_)
    refine ε (ψ (Φ z z (ξ z z (ω z (eu (.inl z) z) ?_))))
    obtain ⟨u109,hh⟩:=aP hh
    refine TL.isSl (i:=3) z (λhs228 _ _=> ?_)
    refine ω z (bU z fK fU z z hs228 (by omega)) (θ 3 z z ?_)
    have hn229:(dH.set dL v87).length=(replicate x0.next.length ([]:T_1)).length:=by rw [gy];exact mO
    refine ν z (lG v87 z fU z z z z bF rE (by omega) (by omega) ?_)
    refine ε (η (TL.j z z (TL.nil (B.n (S.n (η (ξ z z (ω z (OpVal.succ z z z (by omega)) (ξ z z (ε ?_))))))))))
    obtain ⟨hh,D7⟩:=dO hR2 hh
    exact lf (((dH.set dL v87),(jI.set dL true),true,(dL+1)),()) D7 ⟨hh,hn229,hn227⟩ (Θ [1,1,3] 3)
   refine ι (B.n (S.n (η (ξ z z (ω z (OpVal.succ z z z (by omega)) (ξ z z (ε ?_)))))))
   obtain ⟨hh,Xy⟩:=dO hR2 hh
   exact lf ((dH,jI,t146,(dL+1)),()) Xy ⟨hh,mO,vF⟩ (Θ [3,3,3] 3)
  refine TC.exit (S.x (S.x ?_))
  replace hh:=dG hR2 hh
  refine Δ (B.n (S.n ?_))
  obtain ⟨hh,D6⟩:=dO hR1 hh
  exact lf ((dH,jI,t146),()) D6 ⟨hh,mP,Gz⟩ (Θ [2,2,2] 3)
 refine TC.exit (S.x (S.x ?_))
 replace hh:=dG hR1 hh
 refine Δ (S.n (ψ (Φ z z (Φ z z (Φ z z (Φ z z (ξ z z (ε ?_))))))))
 rw [<-KG]
 rw [<-gG]
 refine TC.front 1 z z (TC.oh bF (λτ235 rH FZ=> ?_))
 have hr233b:=FZ.rv.big
 refine TC.front 1 z z (TC.oh jc (λτ238 xK BN=> ?_))
 replace FZ:=FZ.mono xK
 have hr236b:=BN.rv.big
 refine TC.rt 0 ?_
 obtain rfl:=so hh
 exact rq [2,3,4] ⟨Az,c105,a107,yw,z,FZ,BN,z⟩
def Q9(iC:ak)(iZ:Nat)(x0:Seq)(lS:B_1)(vJ:ak)(uG:Nat):Option ((ak×Nat)⊕((B_1×ak×Nat)⊕(B_1))):=
 aN (decide ((uG:Int)<256)) (grd (0<=(nth iC iZ 0)/\(nth iC iZ 0)<(x0.next.length:Int)) (grd (uG<(nth x0.next ((nth iC iZ 0).toNat) []).length) (aN (decide (0<=(nth (nth x0.next ((nth iC iZ 0).toNat) []) uG 0))) (grd (0<=(nth iC iZ 0)/\(nth iC iZ 0)<(x0.next.length:Int)) (grd (uG<(nth x0.next ((nth iC iZ 0).toNat) []).length) (grd ((vJ.length+[(nth (nth x0.next ((nth iC iZ 0).toNat) []) uG 0)].length) * 8<=140737488355328) (nxt ((vJ++[(nth (nth x0.next ((nth iC iZ 0).toNat) []) uG 0)]),(uG+1)))))) (nxt (vJ,(uG+1)))))) (fin (nxt ((lS.set ((nth iC iZ 0).toNat) true),vJ,(iZ+1))))
def Vt(x0:Seq)(lS:B_1)(iC:ak)(iZ:Nat):Option ((B_1×ak×Nat)⊕(B_1)):=
 aN (decide ((iZ:Int)<((iC.length:Nat):Int))) (grd (0<=(nth iC iZ 0)/\(nth iC iZ 0)<(lS.length:Int)) (aN (nth lS ((nth iC iZ 0).toNat) false) (nxt (lS,iC,(iZ+1))) (grd (0<=(nth iC iZ 0)/\(nth iC iZ 0)<(lS.length:Int)) (bC (λq:ak×Nat=>Q9 iC iZ x0 lS q.1 q.2) (iC,0))))) (fin (some lS))
def Cn_(x0:Seq):Option (B_1):=
 grd (1 * x0.next.length<=281474976710656) (bC (λq:B_1×ak×Nat=>Vt x0 q.1 q.2.1 q.2.2) ((replicate x0.next.length false),[0],0))
def Gr_(σ:aj)(r:B_1):Value->aj->List Res->Prop:=λv σ' H'=>
 ∃a1 c1,v= .slice a1 r.length c1/\σ=σ'/\H'=[dW 4 eq_ a1 c1 r]
theorem Gf_{σ:aj}{x0:Seq}(au:RZ σ (aB 1 aG bn) (.slice aI x0.next.length aH) x0.next)(aY:RZ σ (aB 1 aJ bF) (.slice aA x0.outs.length aX) x0.outs)(aV:dA σ eq_ aU ay x0.fin)(aQ:dA σ aJ bJ bD x0.tail){r:B_1}(hh:Cn_ x0=some r):
  Con prog 74 #[.agg (oI x0 aI aH aA aX aU ay bJ bD)] σ [] (Gr_ σ r):=by
 dsimp only [Cn_]at hh
 have f0_0b:=au.big
 have f0_1b:=aY.big
 have f0_2b:=aV.rv.big
 have f0_3b:=aQ.rv.big
 refine Con.mk (n:=55) Tryz.func74 z z z (λw0=> ?_)
 refine ψ (ν z (boxA z z z z (λbG=> ?_)))
 refine Φ z z (ε (ψ (ω z (aS z kS z) (ω z (aZ z jT z (i:=0) z z) (ω z (lenC z eU z) ?_)))))
 obtain ⟨u6,hh⟩:=aP hh
 refine ν z (pz (enc:=eq_) false z gI gQ G8 AA z z z z (by omega) (by decide) jc (by decide) z qZ (λjE jD=> ?_))
 refine Φ z z (ε (ψ (ν z (OpOk.lit (enc:=aG) [0] z b_ dB lu z z z bn (by decide) (by decide) (0:Int) z (by decide) z (by decide) jS (λkC c107=> ?_)))))
 refine Φ z z (ε (ζ (ψ (ξ z z (ε (υ (TC.ig (α:=(B_1×ak×Nat)×((Option Addr)×Nat)) (rgs [(4,4),(13,41)]) (λg=>[(4,.slice g.2.1 g.1.2.1.length g.2.2),(5,.int .i64 ((g.1.2.2:Nat):Int))]) (λg=>[jl bG x0 aI aH aA aX aU ay bJ bD,φ 4 1 eq_ (.slice jE (replicate x0.next.length false).length jD) g.1.1,φ 3 1 aG (.slice g.2.1 g.1.2.1.length g.2.2) g.1.2.1]) (λg=>σ) (λg=>bC (λq:B_1×ak×Nat=>Vt x0 q.1 q.2.1 q.2.2) g.1=some r/\g.1.1.length=(replicate x0.next.length false).length) (λg=>f_ (λq:B_1×ak×Nat=>Vt x0 q.1 q.2.1 q.2.2) g.1) (((replicate x0.next.length false),[0],0),(kC,c107)) (Θ [1,2] 3) z (by repeat (first|exact trivial|refine ⟨z,?_⟩)) ⟨hh,z⟩ (λg1 j1 hg1=> ?_))))))))
 obtain ⟨⟨lS,iC,iZ⟩,⟨a124,Aq⟩⟩:=g1
 obtain ⟨hh,GH⟩:=hg1
 try dsimp only at GH ⊢
 obtain ⟨z1,hh,hR1⟩:=gJ hh
 dsimp only [Vt]at hh
 refine χ (i:=1) z (λ_ G5 _=> ?_)
 refine χ (i:=2) z (λ_ Dl _=> ?_)
 refine ζ (ψ (ξ z z (Φ z z (ω z (lenC z b_ z) (ω z (OpVal.lss z z z) (ε (TC.cD z hh (λrV hh=> ?_) (λrV hh=> ?_))))))))
 ·refine ι (S.n (ζ (υ (ψ (Φ z z (ξ z z (TL.isSl (i:=2) z (λwX _ _=> ?_))))))))
  refine ω z (bU z b_ dB z z wX (by omega)) (ω z (og (0:Int) z fJ z (q:=2) z bn (by omega) z) (ξ z z (ε (ζ (ψ (Φ z z (ξ z z ?_)))))))
  obtain ⟨u22,hh⟩:=aP hh
  refine TL.isSl (i:=1) z (λJ3 _ _=> ?_)
  refine ω z (OpVal.index z gI gQ z z J3 u22.1 u22.2) (ω z (og false z nG z (q:=1) z jc (by omega) z) (ε (TC.cB z hh (λuQ hh=> ?_) (λuQ hh=> ?_))))
  ·refine TC.exit (S.x (Δ (S.n (η (ξ z z (ω z (OpVal.succ z z z (by omega)) (ξ z z (ε ?_))))))))
   obtain ⟨hh,Ej⟩:=dO hR1 hh
   exact lf ((lS,iC,(iZ+1)),(a124,Aq)) Ej ⟨hh,GH⟩ (Θ [2,2,2] 3)
  refine ι (S.n (ψ (Φ z z (ξ z z ?_))))
  obtain ⟨u26,hh⟩:=aP hh
  refine TL.isSl (i:=1) z (λBH _ _=> ?_)
  refine ω z (OpVal.index z gI gQ z z BH u26.1 u26.2) (θ 1 z z ?_)
  have Cb:(lS.set ((nth iC iZ 0).toNat) true).length=(replicate x0.next.length false).length:=by rw [gy];exact GH
  refine ν z (lG true z gQ z z z z jc qZ (by omega) (by omega) ?_)
  refine ε (ψ (ξ z z (ε (υ (TC.ig (α:=(ak×Nat)×((Option Addr)×Nat)) (rgs [(4,1),(7,1),(30,24)]) (λg=>[(4,.slice g.2.1 g.1.1.length g.2.2),(7,.int .i64 ((g.1.2:Nat):Int))]) (λg=>[jl bG x0 aI aH aA aX aU ay bJ bD,φ 4 1 eq_ (.slice jE (replicate x0.next.length false).length jD) (lS.set ((nth iC iZ 0).toNat) true),φ 3 1 aG (.slice g.2.1 g.1.1.length g.2.2) g.1.1]) (λg=>σ) (λg=>bC (λq:ak×Nat=>Q9 iC iZ x0 lS q.1 q.2) g.1=some z1/\(lS.set ((nth iC iZ 0).toNat) true).length=(replicate x0.next.length false).length) (λg=>f_ (λq:ak×Nat=>Q9 iC iZ x0 lS q.1 q.2) g.1) ((iC,0),(a124,Aq)) (Θ [2,1,2] 3) z (by repeat (first|exact trivial|refine ⟨z,?_⟩)) ⟨hh,Cb⟩ (λg2 j2 hg2=> ?_))))))
  obtain ⟨⟨vJ,uG⟩,⟨a149,c150⟩⟩:=g2
  obtain ⟨hh,Gy⟩:=hg2
  try dsimp only at Gy ⊢
  obtain ⟨z2,hh,hR2⟩:=gJ hh
  dsimp only [Q9]at hh
  refine χ (i:=1) z (λ_ hb152 _=> ?_)
  refine χ (i:=2) z (λ_ U3 _=> ?_)
  refine ζ (ψ (ξ z z (ω z (OpVal.lss z z z) (ε (TC.cD z hh (λYI hh=> ?_) (λYI hh=> ?_))))))
  ·refine ι (S.n (ζ (υ (ψ (ω z (aS z kS z) (ω z (aZ z jT z (i:=0) z z) (ξ z z ?_)))))))
   obtain ⟨u34,hh⟩:=aP hh
   refine ω z (OpVal.index z eU fZ z z au.isSl u34.1 u34.2) ?_
   obtain ⟨OU,CX,hg155⟩:=RZ.seg au ((nth iC iZ 0).toNat) (by omega)
   replace CX:dA _ aG OU.1 OU.2 (nth x0.next ((nth iC iZ 0).toNat) []):=CX
   have hk155b:=CX.rv.big
   refine ω z (OpVal.of (kZ z hs_ z hg155 z) (v':= .slice OU.1 ((nth x0.next ((nth iC iZ 0).toNat) []).length) OU.2) z) (ξ z z ?_)
   obtain ⟨u37,hh⟩:=aP hh
   refine ω z (bU z b_ dB z z CX.rv.sl (by omega)) (ω z (fF (0:Int) z fJ z CX (by omega) z) (ω z (OpVal.geq z z z) (ε (TC.cD z hh (λh156 hh=> ?_) (λh156 hh=> ?_)))))
   ·refine η (Φ z z (ω z (aS z kS z) (ω z (aZ z jT z (i:=0) z z) (ξ z z ?_))))
    obtain ⟨u44,hh⟩:=aP hh
    refine ω z (OpVal.index z eU fZ z z au.isSl u44.1 u44.2) ?_
    obtain ⟨sS,lg,hg157⟩:=RZ.seg au ((nth iC iZ 0).toNat) (by omega)
    replace lg:dA _ aG sS.1 sS.2 (nth x0.next ((nth iC iZ 0).toNat) []):=lg
    have hk157b:=lg.rv.big
    refine ω z (OpVal.of (kZ z hs_ z hg157 z) (v':= .slice sS.1 ((nth x0.next ((nth iC iZ 0).toNat) []).length) sS.2) z) (ξ z z ?_)
    obtain ⟨Nh,hh⟩:=aP hh
    refine ω z (bU z b_ dB z z lg.rv.sl (by omega)) (ω z (fF (0:Int) z fJ z lg (by omega) z) (ν z (OpOk.lit (enc:=aG) [(nth (nth x0.next ((nth iC iZ 0).toNat) []) uG 0)] z b_ dB lu z z z bn (by decide) (by decide) (0:Int) z (by decide) z (by decide) jS (λa158 c159=> ?_))))
    refine θ 3 z z ?_
    obtain ⟨VI,hh⟩:=aP hh
    refine ν z (as_ z z b_ dB uV lu z z (by decide) z z z (.inr ⟨_,0,z⟩) (by simpa using VI) (by decide) (λa161 c162=> ?_))
    refine Φ z z (TL.nil (B.n (S.n (η (ξ z z (ω z (OpVal.succ z z z (by omega)) (ξ z z (ε ?_))))))))
    obtain ⟨hh,XT⟩:=dO hR2 hh
    exact lf (((vJ++[(nth (nth x0.next ((nth iC iZ 0).toNat) []) uG 0)]),(uG+1)),(a161,c162)) XT ⟨hh,Gy⟩ (Θ [3,3] 3)
   refine ι (B.n (S.n (η (ξ z z (ω z (OpVal.succ z z z (by omega)) (ξ z z (ε ?_)))))))
   obtain ⟨hh,XR⟩:=dO hR2 hh
   exact lf ((vJ,(uG+1)),(a149,c150)) XR ⟨hh,Gy⟩ (Θ [2,2,2] 3)
  refine TC.exit (S.x (S.x ?_))
  replace hh:=dG hR2 hh
  refine Δ (B.n (S.n (η (ξ z z (ω z (OpVal.succ z z z (by omega)) (ξ z z (ε ?_)))))))
  obtain ⟨hh,xB⟩:=dO hR1 hh
  exact lf (((lS.set ((nth iC iZ 0).toNat) true),vJ,(iZ+1)),(a149,c150)) xB ⟨hh,Gy⟩ (Θ [2,2,2] 3)
 refine TC.exit (S.x (S.x ?_))
 replace hh:=dG hR1 hh
 refine Δ (S.n (ψ (Φ z z (Φ z z (ε ?_)))))
 rw [<-GH]
 refine TC.sG (Θ [1] 1) (TC.ret ?_)
 obtain rfl:=so hh
 exact ro [dW 4 eq_ jE jD lS] z (RVs.tmp z RVs.nil) ⟨jE,jD,z,z,z⟩
def ZM(iP:bZ)(lQ:ak)(iO:fO)(mY:aC)(bH:Nat)(x0:Seq)(eY:B_1)(iY:aC)(Jw:T_1):Option ((bZ×fO×B_1×aC×Nat)⊕(Seq×Int)):=
 grd ((iP.length+[lQ].length) * 24<=140737488355328) (grd ((iO.length+[mY].length) * 24<=140737488355328) (grd (bH<x0.fin.length) (grd ((eY.length+[(nth x0.fin bH false)].length) * 1<=140737488355328) (grd ((iY.length+[Jw].length) * 16<=140737488355328) (nxt ((iP++[lQ]),(iO++[mY]),(eY++[(nth x0.fin bH false)]),(iY++[Jw]),(bH+1)))))))
def QW(bH:Nat)(x0:Seq)(aO:ak)(v5:aC×B_1×Int)(iP:bZ)(iO:fO)(eY:B_1)(iY:aC)(lQ:ak)(mY:aC)(dX:Nat):Option ((ak×aC×Nat)⊕((bZ×fO×B_1×aC×Nat)⊕(Seq×Int))):=
 aN (decide ((dX:Int)<256)) (grd (bH<x0.next.length) (grd (dX<(nth x0.next bH []).length) (grd (dX<lQ.length) (aN (decide (0<=(nth (nth x0.next bH []) dX 0))) (grd (0<=(nth (nth x0.next bH []) dX 0)/\(nth (nth x0.next bH []) dX 0)<(aO.length:Int)) (aN (decide (0<=(nth aO ((nth (nth x0.next bH []) dX 0).toNat) 0))) (grd (0<=(nth (nth x0.next bH []) dX 0)/\(nth (nth x0.next bH []) dX 0)<(aO.length:Int)) (grd (dX<(lQ.set dX (-1)).length) (grd (bH<x0.outs.length) (grd (dX<(nth x0.outs bH []).length) (grd (0<=(nth (nth x0.next bH []) dX 0)/\(nth (nth x0.next bH []) dX 0)<(v5.1.length:Int)) (grd ((nth (nth x0.outs bH []) dX []).length+(nth v5.1 ((nth (nth x0.next bH []) dX 0).toNat) []).length<=9223372036854775807) (grd ((nth v5.1 bH []).length<=((nth (nth x0.outs bH []) dX [])++(nth v5.1 ((nth (nth x0.next bH []) dX 0).toNat) [])).length/\((nth (nth x0.outs bH []) dX [])++(nth v5.1 ((nth (nth x0.next bH []) dX 0).toNat) [])).length<=((nth (nth x0.outs bH []) dX [])++(nth v5.1 ((nth (nth x0.next bH []) dX 0).toNat) [])).length) (grd (dX<mY.length) (nxt (((lQ.set dX (-1)).set dX (nth aO ((nth (nth x0.next bH []) dX 0).toNat) 0)),(mY.set dX (((nth (nth x0.outs bH []) dX [])++(nth v5.1 ((nth (nth x0.next bH []) dX 0).toNat) [])).drop ((nth v5.1 bH []).length))),(dX+1))))))))))) (nxt ((lQ.set dX (-1)),mY,(dX+1))))) (nxt ((lQ.set dX (-1)),mY,(dX+1))))))) (fin (grd (bH<x0.fin.length) (aN (nth x0.fin bH false) (grd (bH<x0.tail.length) (grd ((nth v5.1 bH []).length<=(nth x0.tail bH []).length/\(nth x0.tail bH []).length<=(nth x0.tail bH []).length) (ZM iP lQ iO mY bH x0 eY iY ((nth x0.tail bH []).drop ((nth v5.1 bH []).length))))) (ZM iP lQ iO mY bH x0 eY iY ([]:T_1)))))
def NW(v32:B_1)(aO:ak)(v5:aC×B_1×Int)(x0:Seq)(iP:bZ)(iO:fO)(eY:B_1)(iY:aC)(bH:Nat):Option ((bZ×fO×B_1×aC×Nat)⊕(Seq×Int)):=
 aN (decide ((bH:Int)<((v32.length:Nat):Int))) (grd (bH<aO.length) (aN (decide ((nth aO bH 0)<0)) (nxt (iP,iO,eY,iY,(bH+1))) (grd (bH<v5.1.length) (bC (λq:ak×aC×Nat=>QW bH x0 aO v5 iP iO eY iY q.1 q.2.1 q.2.2) ((replicate 256 (0:Int)),(replicate 256 ([]:T_1)),0))))) (fin (bnd (Q_ (⟨(x0.front++(nth v5.1 0 [])),iP,iO,eY,iY⟩:Seq)) (λOe=>aN (!Oe) (some ((⟨([]:T_1),([]:bZ),([]:fO),([]:B_1),([]:aC)⟩:Seq),2)) (some ((⟨(x0.front++(nth v5.1 0 [])),iP,iO,eY,iY⟩:Seq),0)))))
def QX(v32:B_1)(v5:aC×B_1×Int)(x0:Seq)(aO:ak)(bV:Nat)(aW:Nat):Option ((ak×Nat×Nat)⊕(Seq×Int)):=
 aN (decide ((aW:Int)<((v32.length:Nat):Int))) (grd (aW<aO.length) (aN (nth v32 aW false) (grd (aW<v5.2.1.length) (aN (nth v5.2.1 aW false) (grd (aW<(aO.set aW (-1)).length) (grd (bV+1<=9223372036854775807) (nxt (((aO.set aW (-1)).set aW (bV:Int)),(bV+1),(aW+1))))) (nxt ((aO.set aW (-1)),bV,(aW+1))))) (nxt ((aO.set aW (-1)),bV,(aW+1))))) (fin (grd (0<v5.1.length) (grd (x0.front.length+(nth v5.1 0 []).length<=9223372036854775807) (bC (λq:bZ×fO×B_1×aC×Nat=>NW v32 aO v5 x0 q.1 q.2.1 q.2.2.1 q.2.2.2.1 q.2.2.2.2) (([]:bZ),([]:fO),([]:B_1),([]:aC),0)))))
def ZT(x0:Seq):Option (Seq×Int):=
 bnd (B5_ x0) (λv5=>aN (decide (v5.2.2≠0)) (some ((⟨([]:T_1),([]:bZ),([]:fO),([]:B_1),([]:aC)⟩:Seq),v5.2.2)) (aN (decide (((v5.2.1.length:Nat):Int)=0)) (some ((⟨([]:T_1),([]:bZ),([]:fO),([]:B_1),([]:aC)⟩:Seq),0)) (grd (0<v5.2.1.length) (aN (!(nth v5.2.1 0 false)) (some ((⟨([]:T_1),([]:bZ),([]:fO),([]:B_1),([]:aC)⟩:Seq),0)) (bnd (Cn_ x0) (λv32=>grd (8 * v32.length<=281474976710656) (bC (λq:ak×Nat×Nat=>QX v32 v5 x0 q.1 q.2.1 q.2.2) ((replicate v32.length (0:Int)),0,0))))))))
def Hd_(σ:aj)(r:Seq×Int):Value->aj->List Res->Prop:=λv σ' H'=>
 ∃a1 c1 a2 c2 a3 c3 a4 c4,v= .tuple #[.agg (oI r.1 a1 c1 a2 c2 a3 c3 a4 c4),.int .i64 r.2]/\RZ σ' (aB 1 aG bn) (.slice a1 r.1.next.length c1) r.1.next/\RZ σ' (aB 1 aJ bF) (.slice a2 r.1.outs.length c2) r.1.outs/\dA σ' eq_ a3 c3 r.1.fin/\dA σ' aJ a4 c4 r.1.tail/\H'=[]
theorem Gs_{σ:aj}{x0:Seq}(au:RZ σ (aB 1 aG bn) (.slice aI x0.next.length aH) x0.next)(aY:RZ σ (aB 1 aJ bF) (.slice aA x0.outs.length aX) x0.outs)(aV:dA σ eq_ aU ay x0.fin)(aQ:dA σ aJ bJ bD x0.tail){r:Seq×Int}(hh:ZT x0=some r):
  Con prog 36 #[.agg (oI x0 aI aH aA aX aU ay bJ bD)] σ [] (Hd_ σ r):=by
 dsimp only [ZT]at hh
 have f0_0b:=au.big
 have f0_1b:=aY.big
 have f0_2b:=aV.rv.big
 have f0_3b:=aQ.rv.big
 refine Con.mk (n:=190) Tryz.func36 z z z (λw0=> ?_)
 refine ψ (ν z (boxA z z z z (λbG=> ?_)))
 refine ν z (OpOk.alloc z if_ z z (λd_=> ?_))
 refine ξ z z (ε (ψ (ω z (kG z ji fE z (i:=1) z z) ?_)))
 obtain ⟨v5,u5,hh⟩:=dM hh
 refine ν z (OpOk.call (Gj_ (x0:=x0) au aY aV aQ u5) z z pf33 z z z z ?_)
 rintro _ τ105 _ oD ⟨a105_1,c105_1,a105_2,c105_2,rfl,hr105_0,hr105_1,rfl⟩
 replace au:=au.mono oD
 replace aY:=aY.mono oD
 replace aV:=aV.mono oD
 replace aQ:=aQ.mono oD
 have hr105_0b:=hr105_0.rv.big
 have hr105_1b:=hr105_1.rv.big
 refine ω z (wC (.inl z) z) (ω z (OpVal.extract z z z) (ω z (OpVal.extract z z z) (ω z (OpVal.extract z z z) (Φ z z (Φ z z (ξ z z (ε (ζ (ψ (ξ z z (ω z (OpVal.neq z z z) (ε (TC.cD z hh (λdN hh=> ?_) (λdN hh=> ?_))))))))))))))
 ·refine ψ (ω z (nD z wP if_ z) (ξ z z (ν z (storeAll z fE z z z z z z ?_))))
  refine ξ z z (ε (TC.rt 1 (S.r ?_)))
  obtain rfl:=so hh
  exact ro [] z (RVs.agg ji fE z (i:=0) z z (RVs.tmp z RVs.nil)) ⟨none,0,none,0,none,0,none,0,z,(RZ.nilF _ (aB 1 aG bn)),(RZ.nilF _ (aB 1 aJ bF)),(RS.nilF _ eq_ jc),(RS.nilF _ aJ bF),z⟩
 refine ι (S.n (ζ (ψ (Φ z z (ω z (lenC z gI z) (ω z (OpVal.eql z z z) (TL.j z z (TL.split 33 z (λdP=> ?_) (λdP=> ?_)))))))))
 ·replace hh:=gZ dP hh
  replace dP:=jg dP
  refine π z (π z (π z (π z (ω z (dS z z z) (ε (TC.t z (ψ (ω z (nD z wP if_ z) (ν z (storeAll z fE z z z z z z ?_))))))))))
  refine ξ z z (ε (TC.rt 1 (S.r ?_)))
  obtain rfl:=so hh
  exact ro [] z (RVs.agg ji fE z (i:=0) z z (RVs.tmp z RVs.nil)) ⟨none,0,none,0,none,0,none,0,z,(RZ.nilF _ (aB 1 aG bn)),(RZ.nilF _ (aB 1 aJ bF)),(RS.nilF _ eq_ jc),(RS.nilF _ aJ bF),z⟩
 replace hh:=gY dP hh
 replace dP:=jo dP
 refine Ψ z (gu (.inl z) z) ?_
 obtain ⟨u24,hh⟩:=aP hh
 refine Ψ z (bU (i:=0) z gI gQ z z hr105_1.rv.sl (by omega)) (Ψ z (fF false z nG z hr105_1 (by omega) z) (Ψ z (OpVal.not z z) (ω z (dV z z z) (ε (TC.cB z hh (λdU hh=> ?_) (λdU hh=> ?_))))))
 ·refine ψ (ω z (nD z wP if_ z) (ν z (storeAll z fE z z z z z z ?_)))
  refine ξ z z (ε (TC.rt 1 (S.r ?_)))
  obtain rfl:=so hh
  exact ro [] z (RVs.agg ji fE z (i:=0) z z (RVs.tmp z RVs.nil)) ⟨none,0,none,0,none,0,none,0,z,(RZ.nilF _ (aB 1 aG bn)),(RZ.nilF _ (aB 1 aJ bF)),(RS.nilF _ eq_ jc),(RS.nilF _ aJ bF),z⟩
 refine ι (S.n (ψ (ω z (kG z ji fE z (i:=1) z z) ?_)))
 obtain ⟨v32,u32,hh⟩:=dM hh
 refine ν z (OpOk.call (Gf_ (x0:=x0) au aY aV aQ u32) z z pf74 z z z z ?_)
 rintro _ _ _ lY ⟨a109_1,c109_1,rfl,rfl,rfl⟩
 refine Φ z z (ε (ψ (Φ z z (ω z (lenC z gI z) ?_))))
 obtain ⟨u36,hh⟩:=aP hh
 refine ν z (pz (enc:=aG) (0:Int) z b_ dB uV lu z z z z (by omega) (by decide) bn (by decide) z jS (λQk PY=> ?_))
 refine Φ z z (ε (ψ (ξ z z (ε (ζ (ψ (ξ z z (ε (υ (TC.ig (α:=(ak×Nat×Nat)×(Unit)) (rgs [(9,2),(45,25)]) (λg=>[(9,.int .i64 ((g.1.2.1:Nat):Int)),(10,.int .i64 ((g.1.2.2:Nat):Int))]) (λg=>[jl bG x0 aI aH aA aX aU ay bJ bD,κ d_ #[.string (bs ([]:T_1)),bT,bT,bT,bT] 32,dW 4 eq_ a109_1 c109_1 v32,φ 3 1 aG (.slice Qk (replicate v32.length (0:Int)).length PY) g.1.1]) (λg=>τ105) (λg=>bC (λq:ak×Nat×Nat=>QX v32 v5 x0 q.1 q.2.1 q.2.2) g.1=some r/\g.1.1.length=(replicate v32.length (0:Int)).length) (λg=>f_ (λq:ak×Nat×Nat=>QX v32 v5 x0 q.1 q.2.1 q.2.2) g.1) (((replicate v32.length (0:Int)),0,0),()) (Θ [1,2,3] 4) z (by repeat (first|exact trivial|refine ⟨z,?_⟩)) ⟨hh,z⟩ (λg1 j1 hg1=> ?_)))))))))))
 obtain ⟨⟨aO,bV,aW⟩,_⟩:=g1
 obtain ⟨hh,gG⟩:=hg1
 try dsimp only at gG ⊢
 obtain ⟨z1,hh,hR1⟩:=gJ hh
 dsimp only [QX]at hh
 refine χ (i:=2) z (λ_ Dn _=> ?_)
 refine χ (i:=3) z (λ_ G5 _=> ?_)
 refine ζ (ψ (ξ z z (Φ z z (ω z (lenC z gI z) (ω z (OpVal.lss z z z) (ε (TC.cD z hh (λh128 hh=> ?_) (λh128 hh=> ?_))))))))
 ·refine ι (S.n (ζ (υ (ψ (Φ z z (ξ z z ?_))))))
  obtain ⟨u46,hh⟩:=aP hh
  refine TL.isSl (i:=3) z (λJ4 _ _=> ?_)
  refine ω z (bU z b_ dB z z J4 (by omega)) (θ 3 z z ?_)
  have KF:(aO.set aW (-1)).length=(replicate v32.length (0:Int)).length:=by rw [gy];exact gG
  refine ν z (lG (-1) z dB z z z z bn jS (by omega) (by omega) ?_)
  refine ε (ψ (Φ z z (ξ z z (TL.isSl (i:=3) z (λJ3 _ _=> ?_)))))
  refine ω z (bU z gI gQ z z J3 (by omega)) (ω z (og false z nG z (q:=3) z jc (by omega) z) (TL.j z z (TL.split 58 z (λuQ=> ?_) (λuQ=> ?_))))
  ·replace hh:=gZ uQ hh
   refine Ψ z (gu (.inl z) z) (Ψ z (dw (.inl z) z) ?_)
   obtain ⟨u55,hh⟩:=aP hh
   refine Ψ z (bU z gI gQ z z hr105_1.rv.sl (by omega)) (Ψ z (fF false z nG z hr105_1 (by omega) z) (ω z (dS z z z) (ε (TC.cB z hh (λLM hh=> ?_) (λLM hh=> ?_)))))
   ·refine ψ (Φ z z (ξ z z (ξ z z ?_)))
    obtain ⟨u61,hh⟩:=aP hh
    refine TL.isSl (i:=0) z (λBH _ _=> ?_)
    refine ω z (bU z b_ dB z z BH (by omega)) ?_
    have Cb:((aO.set aW (-1)).set aW (bV:Int)).length=(replicate v32.length (0:Int)).length:=by rw [gy];exact KF
    refine ν z (lG (bV:Int) z dB z z z z bn jS (by omega) (by omega) ?_)
    refine ε (η (ξ z z ?_))
    obtain ⟨u64,hh⟩:=aP hh
    refine ω z (OpVal.succ z z z (by omega)) (ξ z z (TL.nil (B.n (S.n (η (ξ z z (ω z (OpVal.succ z z z (by omega)) (ξ z z (ε ?_)))))))))
    obtain ⟨hh,xC⟩:=dO hR1 hh
    exact lf ((((aO.set aW (-1)).set aW (bV:Int)),(bV+1),(aW+1)),()) xC ⟨hh,Cb⟩ (Θ [3,3,3] 4)
   refine ι (B.n (S.n (η (ξ z z (ω z (OpVal.succ z z z (by omega)) (ξ z z (ε ?_)))))))
   obtain ⟨hh,Ef⟩:=dO hR1 hh
   exact lf (((aO.set aW (-1)),bV,(aW+1)),()) Ef ⟨hh,KF⟩ (Θ [3,3,3] 4)
  replace hh:=gY uQ hh
  refine π z (π z (π z (π z (ω z (dV z z z) (ε (TC.f z (ι (B.n (S.n (η (ξ z z (ω z (OpVal.succ z z z (by omega)) (ξ z z (ε ?_))))))))))))))
  obtain ⟨hh,rF⟩:=dO hR1 hh
  exact lf (((aO.set aW (-1)),bV,(aW+1)),()) rF ⟨hh,KF⟩ (Θ [3,3,3] 4)
 refine TC.exit (S.x (S.x ?_))
 replace hh:=dG hR1 hh
 refine Δ (S.n (ζ ?_))
 obtain ⟨u72,hh⟩:=aP hh
 obtain ⟨VH,hh⟩:=aP hh
 refine TC.draw [8] (by kernel_rfl) (Ω 0 z (aS z DL z) z (TA.b 1 z (aZ z iG z (i:=0) z z) z (Ω 2 z (gu (.inl z) z) z (TA.b 3 z (bU (i:=0) z fK fU z z hr105_0.rv.sl (by omega)) z (TA.b 4 z (fF ([]:T_1) z iG z hr105_0 (by omega) z) z (Ω 5 z (P8 z z z VH) z (Ω 6 z (nD z wP if_ z) z (TA.ac 7 z (OpOk.alloc z if_ z z (λIj=>(k1 ?_)))))))))))
 refine TA.last 8 (by kernel_rfl) z z z (storeAll z fE z z z z z z ?_)
 refine TZ.done (by kernel_rfl) (S.n (ζ (ψ (ξ z z (ε (υ (TC.nilS 86 1 (aB 1 aG bn).en ?_)))))))
 have zf210:=ZOk.nil τ105 (aB 1 aG bn)
 refine TC.nilS 30 1 (aB 1 aJ bF).en ?_
 have oL:=ZOk.nil τ105 (aB 1 aJ bF)
 refine TC.nilS 4 1 eq_ (TC.nilS 9 1 aJ (TC.ig (α:=(bZ×fO×B_1×aC×Nat)×((Option Addr)×Nat×(List (ak×(aB 1 aG bn).P))×(Option Addr)×Nat×(List (aC×(aB 1 aJ bF).P))×(Option Addr)×Nat×(Option Addr)×Nat×aj)) (rgs [(12,8),(77,108)]) (λg=>[(12,.int .i64 ((g.1.2.2.2.2:Nat):Int))]) (λg=>[jl bG x0 aI aH aA aX aU ay bJ bD,κ d_ #[.string (bs ([]:T_1)),bT,bT,bT,bT] 32,dW 4 eq_ a109_1 c109_1 v32,φ 3 1 aG (.slice Qk (replicate v32.length (0:Int)).length PY) aO,κ Ij #[.string (bs (x0.front++(nth v5.1 0 []))),.slice g.2.1 g.1.1.length g.2.2.1,.slice g.2.2.2.2.1 g.1.2.1.length g.2.2.2.2.2.1,.slice g.2.2.2.2.2.2.2.1 g.1.2.2.1.length g.2.2.2.2.2.2.2.2.1,.slice g.2.2.2.2.2.2.2.2.2.1 g.1.2.2.2.1.length g.2.2.2.2.2.2.2.2.2.2.1] 32,φ 86 1 (aB 1 aG bn).en (.slice g.2.1 g.1.1.length g.2.2.1) g.2.2.2.1,φ 30 1 (aB 1 aJ bF).en (.slice g.2.2.2.2.1 g.1.2.1.length g.2.2.2.2.2.1) g.2.2.2.2.2.2.1,φ 4 1 eq_ (.slice g.2.2.2.2.2.2.2.1 g.1.2.2.1.length g.2.2.2.2.2.2.2.2.1) g.1.2.2.1,φ 9 1 aJ (.slice g.2.2.2.2.2.2.2.2.2.1 g.1.2.2.2.1.length g.2.2.2.2.2.2.2.2.2.2.1) g.1.2.2.2.1]) (λg=>g.2.2.2.2.2.2.2.2.2.2.2) (λg=>bC (λq:bZ×fO×B_1×aC×Nat=>NW v32 aO v5 x0 q.1 q.2.1 q.2.2.1 q.2.2.2.1 q.2.2.2.2) g.1=some r/\aO.length=(replicate v32.length (0:Int)).length/\ZOk g.2.2.2.2.2.2.2.2.2.2.2 (aB 1 aG bn) g.2.2.2.1 g.1.1/\ZOk g.2.2.2.2.2.2.2.2.2.2.2 (aB 1 aJ bF) g.2.2.2.2.2.2.1 g.1.2.1/\aj.le τ105 g.2.2.2.2.2.2.2.2.2.2.2) (λg=>f_ (λq:bZ×fO×B_1×aC×Nat=>NW v32 aO v5 x0 q.1 q.2.1 q.2.2.1 q.2.2.2.1 q.2.2.2.2) g.1) ((([]:bZ),([]:fO),([]:B_1),([]:aC),0),(none,0,[],none,0,[],none,0,none,0,τ105)) (Θ [1,2,3,4,8,8,8,8] 9) z (by repeat (first|exact trivial|refine ⟨z,?_⟩)) ⟨hh,gG,zf210,oL,(aj.le.refl _)⟩ (λg2 j2 hg2=> ?_)))
 obtain ⟨⟨iP,iO,eY,iY,bH⟩,⟨uX,uU,z193,oJ,c198,wM,a203,yj,yC,c208,τ216⟩⟩:=g2
 obtain ⟨hh,Kz,iD,dF,pY⟩:=hg2
 try dsimp only at Kz
 try dsimp only at iD
 try dsimp only at dF
 dsimp only at pY
 replace au:=au.mono pY
 replace aY:=aY.mono pY
 replace aV:=aV.mono pY
 replace aQ:=aQ.mono pY
 replace hr105_0:=hr105_0.mono pY
 try dsimp only
 obtain ⟨z1,hh,hR1⟩:=gJ hh
 dsimp only [NW]at hh
 have zf194b:=iD.length
 have zf200b:=dF.length
 refine χ (i:=2) z (λ_ hb218 _=> ?_)
 refine χ (i:=3) z (λ_ hb219 _=> ?_)
 refine χ (i:=5) z (λ_ hb220 _=> ?_)
 refine χ (i:=6) z (λ_ UZ _=> ?_)
 refine χ (i:=7) z (λ_ LD _=> ?_)
 refine χ (i:=8) z (λ_ LC _=> ?_)
 refine ζ (ψ (ξ z z (Φ z z (ω z (lenC z gI z) (ω z (OpVal.lss z z z) (ε (TC.cD z hh (λh224 hh=> ?_) (λh224 hh=> ?_))))))))
 ·refine ι (S.n (ζ (υ (ζ (ψ (Φ z z (ξ z z ?_)))))))
  obtain ⟨u85,hh⟩:=aP hh
  refine TL.isSl (i:=3) z (λhs225 _ _=> ?_)
  refine ω z (bU z b_ dB z z hs225 (by omega)) (ω z (og (0:Int) z fJ z (q:=3) z bn (by omega) z) (ω z (OpVal.lss z z z) (ε (TC.cD z hh (λYA hh=> ?_) (λYA hh=> ?_)))))
  ·refine TC.exit (S.x (Δ (S.n (η (ξ z z (ω z (OpVal.succ z z z (by omega)) (ξ z z (ε ?_))))))))
   obtain ⟨hh,D8⟩:=dO hR1 hh
   exact lf ((iP,iO,eY,iY,(bH+1)),(uX,uU,z193,oJ,c198,wM,a203,yj,yC,c208,τ216)) D8 ⟨hh,Kz,iD,dF,pY⟩ (Θ [8,8,8,8,8,8,8,8,8] 9)
  refine ι (S.n (ψ (Φ z z (ξ z z ?_))))
  obtain ⟨u90,hh⟩:=aP hh
  refine ω z (bU z fK fU z z hr105_0.rv.sl (by omega)) (ω z (fF ([]:T_1) z iG z hr105_0 (by omega) z) (ω z (rY z kK z) (ξ z z (ε (ψ (ν z (pz (m:=256) (enc:=aG) (0:Int) z b_ dB uV lu z z z z (by omega) (by decide) bn (by decide) z jS (λa228 c229=> ?_))))))))
  refine Φ z z (ε (ψ (ν z (pz (m:=256) (enc:=aJ) ([]:T_1) z fK fU zF sQ z z z z (by omega) (by decide) bF (by decide) z rE (λDy c232=> ?_)))))
  refine Φ z z (ε (ζ (ψ (ξ z z (ε (υ (TC.ig (α:=(ak×aC×Nat)×(aj)) (rgs [(16,3),(95,50)]) (λg=>[(16,.int .i64 ((g.1.2.2:Nat):Int))]) (λg=>[jl bG x0 aI aH aA aX aU ay bJ bD,κ d_ #[.string (bs ([]:T_1)),bT,bT,bT,bT] 32,dW 4 eq_ a109_1 c109_1 v32,φ 3 1 aG (.slice Qk (replicate v32.length (0:Int)).length PY) aO,κ Ij #[.string (bs (x0.front++(nth v5.1 0 []))),.slice uX iP.length uU,.slice oJ iO.length c198,.slice a203 eY.length yj,.slice yC iY.length c208] 32,φ 86 1 (aB 1 aG bn).en (.slice uX iP.length uU) z193,φ 30 1 (aB 1 aJ bF).en (.slice oJ iO.length c198) wM,dW 4 eq_ a203 yj eY,dW 9 aJ yC c208 iY,φ 3 1 aG (.slice a228 (replicate 256 (0:Int)).length c229) g.1.1,φ 9 1 aJ (.slice Dy (replicate 256 ([]:T_1)).length c232) g.1.2.1]) (λg=>g.2) (λg=>bC (λq:ak×aC×Nat=>QW bH x0 aO v5 iP iO eY iY q.1 q.2.1 q.2.2) g.1=some z1/\aO.length=(replicate v32.length (0:Int)).length/\ZOk g.2 (aB 1 aG bn) z193 iP/\ZOk g.2 (aB 1 aJ bF) wM iO/\g.1.1.length=(replicate 256 (0:Int)).length/\g.1.2.1.length=(replicate 256 ([]:T_1)).length/\aj.le τ216 g.2) (λg=>f_ (λq:ak×aC×Nat=>QW bH x0 aO v5 iP iO eY iY q.1 q.2.1 q.2.2) g.1) (((replicate 256 (0:Int)),(replicate 256 ([]:T_1)),0),τ216) (Θ [1,10,10,10,10,10,10,10,10,10] 11) z (by repeat (first|exact trivial|refine ⟨z,?_⟩)) ⟨hh,Kz,iD,dF,z,z,(aj.le.refl _)⟩ (λg3 j3 hg3=> ?_))))))))
  obtain ⟨⟨lQ,mY,dX⟩,τ261⟩:=g3
  obtain ⟨hh,qW,wF,lM,Gm,zu,jq⟩:=hg3
  try dsimp only at qW
  try dsimp only at wF
  try dsimp only at lM
  try dsimp only at Gm
  try dsimp only at zu
  dsimp only at jq
  replace au:=au.mono jq
  replace aY:=aY.mono jq
  replace aV:=aV.mono jq
  replace aQ:=aQ.mono jq
  replace hr105_0:=hr105_0.mono jq
  replace iD:=iD.mono jq
  replace dF:=dF.mono jq
  try dsimp only
  obtain ⟨z2,hh,hR2⟩:=gJ hh
  dsimp only [QW]at hh
  have zf254b:=wF.length
  have zf255b:=lM.length
  refine χ (i:=2) z (λ_ hb263 _=> ?_)
  refine χ (i:=3) z (λ_ hb264 _=> ?_)
  refine χ (i:=5) z (λ_ hb265 _=> ?_)
  refine χ (i:=6) z (λ_ hb266 _=> ?_)
  refine χ (i:=7) z (λ_ hb267 _=> ?_)
  refine χ (i:=8) z (λ_ hb268 _=> ?_)
  refine χ (i:=9) z (λ_ hb269 _=> ?_)
  refine χ (i:=10) z (λ_ hb270 _=> ?_)
  refine ζ (ψ (ξ z z (ω z (OpVal.lss z z z) (ε (TC.cD z hh (λh271 hh=> ?_) (λh271 hh=> ?_))))))
  ·refine ι (S.n (ζ (υ (ψ (ω z (aS z kS z) (ω z (aZ z jT z (i:=0) z z) (ξ z z ?_)))))))
   obtain ⟨Oo,hh⟩:=aP hh
   refine ω z (bU z eU fZ z z au.isSl (by omega)) ?_
   obtain ⟨OH,CO,hg272⟩:=RZ.seg au bH (by omega)
   replace CO:dA _ aG OH.1 OH.2 (nth x0.next bH []):=CO
   have hk272b:=CO.rv.big
   refine ω z (OpVal.of (kZ z hs_ z hg272 z) (v':= .slice OH.1 ((nth x0.next bH []).length) OH.2) z) (ξ z z ?_)
   obtain ⟨Hu,hh⟩:=aP hh
   refine ω z (bU z b_ dB z z CO.rv.sl (by omega)) (ω z (fF (0:Int) z fJ z CO (by omega) z) (ξ z z (ε (ψ (Φ z z (ξ z z ?_))))))
   obtain ⟨Ht,hh⟩:=aP hh
   refine TL.isSl (i:=9) z (λhs273 _ _=> ?_)
   refine ω z (bU z b_ dB z z hs273 (by omega)) (θ 9 z z ?_)
   have Kw:(lQ.set dX (-1)).length=(replicate 256 (0:Int)).length:=by rw [gy];exact Gm
   refine ν z (lG (-1) z dB z z z z bn jS (by omega) (by omega) ?_)
   refine ε (ψ (ξ z z (ω z (OpVal.geq z z z) (TL.j z z (TL.split 112 z (λEK=> ?_) (λEK=> ?_))))))
   ·replace hh:=gZ EK hh
    replace EK:=jg EK
    refine Ψ z (gu (.inl z) z) (Ψ z (dw (.inl z) z) ?_)
    obtain ⟨u119,hh⟩:=aP hh
    refine TL.isSl (i:=4) z (λhs276 _ _=> ?_)
    refine Ψ z (OpVal.index z b_ dB z z hs276 u119.1 u119.2) (Ψ z (og (0:Int) z fJ z (q:=4) z bn (by omega) z) (Ψ z (OpVal.geq z z z) (ω z (dS z z z) (ε (TC.cD z hh (λh277 hh=> ?_) (λh277 hh=> ?_))))))
    ·refine ψ (Φ z z (ξ z z (Φ z z (ξ z z ?_))))
     obtain ⟨u127,hh⟩:=aP hh
     refine TL.isSl (i:=4) z (λhs278 _ _=> ?_)
     refine ω z (OpVal.index z b_ dB z z hs278 u127.1 u127.2) (ω z (og (0:Int) z fJ z (q:=4) z bn (by omega) z) ?_)
     obtain ⟨u129,hh⟩:=aP hh
     refine TL.isSl (i:=0) z (λhs279 _ _=> ?_)
     refine ω z (bU z b_ dB z z hs279 (by omega)) ?_
     have hn280:((lQ.set dX (-1)).set dX (nth aO ((nth (nth x0.next bH []) dX 0).toNat) 0)).length=(replicate 256 (0:Int)).length:=by rw [gy];exact Kw
     refine ν z (lG (nth aO ((nth (nth x0.next bH []) dX 0).toNat) 0) z dB z z z z bn jS (by omega) (by omega) ?_)
     refine ε (ζ ?_)
     obtain ⟨u134,hh⟩:=aP hh
     obtain ⟨VN,hh⟩:=aP hh
     obtain ⟨Jq,hh⟩:=aP hh
     obtain ⟨u143,hh⟩:=aP hh
     refine TC.draw [] (by kernel_rfl) (Ω 0 z (aS z oQ z) z (TA.b 1 z (aZ z pI z (i:=1) z z) z (Ω 2 z (dw (.inl z) z) z (TA.b 3 z (bU z lI mM z z aY.isSl (by omega)) z ?_))))
     obtain ⟨OG,CJ,hg282⟩:=RZ.seg aY bH (by omega)
     replace CJ:dA _ aJ OG.1 OG.2 (nth x0.outs bH []):=CJ
     have hk282b:=CJ.rv.big
     refine TA.b 4 z (OpVal.of (kZ z lJ z hg282 z) (v':= .slice OG.1 ((nth x0.outs bH []).length) OG.2) z) z (Ω 5 z (dw (.inl z) z) z (TA.b 6 z (bU z fK fU z z CJ.rv.sl (by omega)) z (TA.b 7 z (fF ([]:T_1) z iG z CJ (by omega) z) z (Ω 8 z (gu (.inl z) z) z (Ω 9 z (dw (.inl z) z) z (TA.b 10 z (OpVal.index z fK fU z z hr105_0.rv.sl Jq.1 Jq.2) z (TA.b 11 z (fF ([]:T_1) z iG z hr105_0 (by omega) z) z (Ω 12 z (P8 z z z u143) z (Ω 13 z (eu (.inr z) z) z (TA.dn (S.n (η (Φ z z (ξ z z (ω z (eu (.inl z) z) ?_)))))))))))))))
     refine ξ z z ?_
     obtain ⟨u149,hh⟩:=aP hh
     refine ω z (bk_ (l:=((nth (nth x0.outs bH []) dX [])++(nth v5.1 ((nth (nth x0.next bH []) dX 0).toNat) []))) (i:=(nth v5.1 bH []).length) z kK z z (by omega) (by omega)) ?_
     obtain ⟨u150,hh⟩:=aP hh
     refine TL.isSl (i:=10) z (λhs283 _ _=> ?_)
     refine ω z (bU z fK fU z z hs283 (by omega)) (θ 10 z z ?_)
     have hn284:(mY.set dX (((nth (nth x0.outs bH []) dX [])++(nth v5.1 ((nth (nth x0.next bH []) dX 0).toNat) [])).drop ((nth v5.1 bH []).length))).length=(replicate 256 ([]:T_1)).length:=by rw [gy];exact zu
     refine ν z (lG (((nth (nth x0.outs bH []) dX [])++(nth v5.1 ((nth (nth x0.next bH []) dX 0).toNat) [])).drop ((nth v5.1 bH []).length)) z fU z z z z bF rE (by omega) (by omega) ?_)
     refine TL.nil (B.n (S.n (η (ξ z z (ω z (OpVal.succ z z z (by omega)) (ξ z z (ε ?_)))))))
     obtain ⟨hh,Xl⟩:=dO hR2 hh
     exact lf ((((lQ.set dX (-1)).set dX (nth aO ((nth (nth x0.next bH []) dX 0).toNat) 0)),(mY.set dX (((nth (nth x0.outs bH []) dX [])++(nth v5.1 ((nth (nth x0.next bH []) dX 0).toNat) [])).drop ((nth v5.1 bH []).length))),(dX+1)),τ261) Xl ⟨hh,qW,wF,lM,hn280,hn284,jq⟩ (Θ [1,10,10,10,10,10,10,10,10,10] 11)
    refine ι (B.n (S.n (η (ξ z z (ω z (OpVal.succ z z z (by omega)) (ξ z z (ε ?_)))))))
    obtain ⟨hh,DZ⟩:=dO hR2 hh
    exact lf (((lQ.set dX (-1)),mY,(dX+1)),τ261) DZ ⟨hh,qW,wF,lM,Kw,zu,jq⟩ (Θ [10,1,10,10,10,10,10,10,10,10,10] 11)
   replace hh:=gY EK hh
   replace EK:=jo EK
   refine π z (π z (π z (π z (π z (ω z (dV z z z) (ε (TC.f z (ι (B.n (S.n (η (ξ z z (ω z (OpVal.succ z z z (by omega)) (ξ z z (ε ?_)))))))))))))))
   obtain ⟨hh,Xk⟩:=dO hR2 hh
   exact lf (((lQ.set dX (-1)),mY,(dX+1)),τ261) Xk ⟨hh,qW,wF,lM,Kw,zu,jq⟩ (Θ [10,1,10,10,10,10,10,10,10,10,10] 11)
  refine TC.exit (S.x (S.x ?_))
  replace hh:=dG hR2 hh
  refine Δ (S.n (ψ (ω z (eu (.inr z) z) (ε (TC.cutG (α:=(T_1)×(aj)) (rgs [(19,1),(145,12)]) (λg=>[(19,.string (bs g.1))]) (λg=>[jl bG x0 aI aH aA aX aU ay bJ bD,κ d_ #[.string (bs ([]:T_1)),bT,bT,bT,bT] 32,dW 4 eq_ a109_1 c109_1 v32,φ 3 1 aG (.slice Qk (replicate v32.length (0:Int)).length PY) aO,κ Ij #[.string (bs (x0.front++(nth v5.1 0 []))),.slice uX iP.length uU,.slice oJ iO.length c198,.slice a203 eY.length yj,.slice yC iY.length c208] 32,φ 86 1 (aB 1 aG bn).en (.slice uX iP.length uU) z193,φ 30 1 (aB 1 aJ bF).en (.slice oJ iO.length c198) wM,dW 4 eq_ a203 yj eY,dW 9 aJ yC c208 iY,φ 3 1 aG (.slice a228 (replicate 256 (0:Int)).length c229) lQ,φ 9 1 aJ (.slice Dy (replicate 256 ([]:T_1)).length c232) mY]) (λg=>g.2) (λg=>ZM iP lQ iO mY bH x0 eY iY g.1=some z1/\aO.length=(replicate v32.length (0:Int)).length/\ZOk g.2 (aB 1 aG bn) z193 iP/\ZOk g.2 (aB 1 aJ bF) wM iO/\lQ.length=(replicate 256 (0:Int)).length/\mY.length=(replicate 256 ([]:T_1)).length/\aj.le τ261 g.2) ?_ (λg j hg=> ?_))))))
  ·skip
   refine ψ (ω z (aS z tV z) (ω z (aZ z qV z (i:=0) z z) (ξ z z ?_)))
   obtain ⟨VK,hh⟩:=aP hh
   refine ω z (bU z gI gQ z z aV.rv.sl (by omega)) (ω z (fF false z nG z aV (by omega) z) (ε (TC.cB z hh (λh294 hh=> ?_) (λh294 hh=> ?_))))
   ·refine η (ω z (aS z uh z) (ω z (aZ z lJ z (i:=0) z z) (ξ z z ?_)))
    obtain ⟨u164,hh⟩:=aP hh
    refine ω z (bU z fK fU z z aQ.rv.sl (by omega)) (ω z (fF ([]:T_1) z iG z aQ (by omega) z) (ξ z z ?_))
    obtain ⟨u167,hh⟩:=aP hh
    exact ω z (bk_ (l:=(nth x0.tail bH [])) (i:=(nth v5.1 bH []).length) z kK z z (by omega) (by omega)) (ω z (eu (.inr z) z) (ε (cf (((nth x0.tail bH []).drop ((nth v5.1 bH []).length)),τ261) ⟨hh,qW,wF,lM,Gm,zu,(aj.le.refl _)⟩ (Θ [10,10,10,10,10,10,10,10,10,10,10] 11))))
   exact ι (S.n (cf (([]:T_1),τ261) ⟨hh,qW,wF,lM,Gm,zu,(aj.le.refl _)⟩ (Θ [10,10,10,10,10,10,10,10,10,10,10] 11)))
  skip
  obtain ⟨Jw,τ295⟩:=g
  obtain ⟨hh,Uu,AY,wE,Ut,Us,xG⟩:=hg
  try dsimp only at Uu
  try dsimp only at AY
  try dsimp only at wE
  try dsimp only at Ut
  try dsimp only at Us
  dsimp only at xG
  replace aV:=aV.mono xG
  replace iD:=iD.mono xG
  replace dF:=dF.mono xG
  try dsimp only
  dsimp only [ZM]at hh
  have zf289b:=AY.length
  have zf290b:=wE.length
  refine χ (i:=2) z (λ_ hb297 _=> ?_)
  refine χ (i:=3) z (λ_ hb298 _=> ?_)
  refine χ (i:=5) z (λ_ hb299 _=> ?_)
  refine χ (i:=6) z (λ_ hb300 _=> ?_)
  refine χ (i:=7) z (λ_ hb301 _=> ?_)
  refine χ (i:=8) z (λ_ hb302 _=> ?_)
  refine χ (i:=9) z (λ_ hb303 _=> ?_)
  refine χ (i:=10) z (λ_ hb304 _=> ?_)
  refine ψ (ω z (aS z kS z) (ω z (aZ z jT z (i:=4) z z) (Φ z z ?_)))
  rw [<-Ut]
  refine θ 9 z z (TL.oh bn (λτ309 iT TW=> ?_))
  replace aV:=aV.mono iT
  replace iD:=iD.mono iT
  replace dF:=dF.mono iT
  replace AY:=AY.mono iT
  replace wE:=wE.mono iT
  have hr307b:=TW.rv.big
  have sH:ZOk _ (aB 1 aG bn) ([(lQ,(a228,c229))]:List (ak×(aB 1 aG bn).P)) [lQ]:=ZOk.cons (TW) (ZOk.nil _ _)
  refine ν z (litZ sH z eU fZ z lq z z z (by decide) (by decide) z (by decide) z (by decide) (λa305 c306=> ?_))
  refine θ 6 z z ?_
  obtain ⟨VJ,hh⟩:=aP hh
  refine ν z (MJ (k:=(aB 1 aG bn)) AY sH z z eU fZ mV lq z z (by decide) z z z (.inr ⟨_,0,z⟩) (by simpa using VJ) (by decide) (λa312 c313 IL=> ?_))
  refine ω z (aS z kS z) (θ 6 z z (ν z (gK z jC z z z z z ?_)))
  refine ε (ψ (ω z (aS z oQ z) (ω z (aZ z pI z (i:=0) z z) (Φ z z ?_))))
  rw [<-Us]
  refine θ 10 z z (TL.oh bF (λτ319 uH TU=> ?_))
  replace aV:=aV.mono uH
  replace iD:=iD.mono uH
  replace dF:=dF.mono uH
  replace wE:=wE.mono uH
  replace IL:=IL.mono uH
  have hr317b:=TU.rv.big
  have Rn:ZOk _ (aB 1 aJ bF) ([(mY,(Dy,c232))]:List (aC×(aB 1 aJ bF).P)) [mY]:=ZOk.cons (TU) (ZOk.nil _ _)
  refine ν z (litZ Rn z lI mM z Hy z z z (by decide) (by decide) z (by decide) z (by decide) (λa315 c316=> ?_))
  refine θ 8 z z ?_
  obtain ⟨u180,hh⟩:=aP hh
  refine ν z (MJ (k:=(aB 1 aJ bF)) wE Rn z z lI mM RP Hy z z (by decide) z z z (.inr ⟨_,0,z⟩) (by simpa using u180) (by decide) (λa322 c323 zf324=> ?_))
  refine ω z (aS z oQ z) (θ 2 z z (ν z (gK z RQ z z z z z ?_)))
  refine ε (ζ ?_)
  obtain ⟨u188,hh⟩:=aP hh
  obtain ⟨u191,hh⟩:=aP hh
  refine TC.draw [8,9,10] (by kernel_rfl) (Ω 0 z (aS z tV z) z (TA.b 1 z (aZ z qV z (i:=0) z z) z (Ω 2 z (aS z tV z) z (TA.b 3 z (aZ z qV z (i:=5) z z) z (Ω 4 z (dw (.inl z) z) z (TA.b 5 z (bU z gI gQ z z aV.rv.sl (by omega)) z (TA.b 6 z (fF false z nG z aV (by omega) z) z (TA.ac 7 z (OpOk.lit (enc:=eq_) [(nth x0.fin bH false)] z gI gQ AA z z z jc (by decide) (by decide) false z (by decide) z (by decide) qZ (λa330 c331=>(k1 ?_)))))))))))
  refine TA.front 10 z z (TA.last 8 (by kernel_rfl) z z z (as_ z z gI gQ G8 AA z z (by decide) z z z (.inr ⟨_,0,z⟩) (by simpa using u191) (by decide) (λa333 c334=> ?_)))
  refine TZ.v 9 (by kernel_rfl) z z z (aS z tV z) z z (TZ.front 2 z z (TZ.last 10 (by kernel_rfl) z z z (gK z Js z z z z z ?_)))
  refine TZ.done (by kernel_rfl) (S.n (η (ω z (aS z uh z) (ω z (aZ z lJ z (i:=0) z z) (ω z (eu (.inl z) z) (ν z (OpOk.lit (enc:=aJ) [Jw] z fK fU sQ z z z bF (by decide) (by decide) ([]:T_1) z (by decide) z (by decide) rE (λa335 c336=> ?_))))))))
  refine θ 12 z z ?_
  obtain ⟨u198,hh⟩:=aP hh
  refine ν z (as_ z z fK fU zF sQ z z (by decide) z z z (.inr ⟨_,0,z⟩) (by simpa using u198) (by decide) (λa338 c339=> ?_))
  refine ω z (aS z uh z) (θ 2 z z (ν z (gK z mM z z z z z ?_)))
  refine TL.nil (B.n (S.n (η (ξ z z (ω z (OpVal.succ z z z (by omega)) (ξ z z (ε ?_)))))))
  obtain ⟨hh,WY⟩:=dO hR1 hh
  exact lf (((iP++[lQ]),(iO++[mY]),(eY++[(nth x0.fin bH false)]),(iY++[Jw]),(bH+1)),(a312,c313,(z193++([(lQ,(a228,c229))]:List (ak×(aB 1 aG bn).P))),a322,c323,(wM++([(mY,(Dy,c232))]:List (aC×(aB 1 aJ bF).P))),a333,c334,a338,c339,τ319)) WY ⟨hh,Uu,IL,zf324,((((pY.trans jq).trans xG).trans iT).trans uH)⟩ (Θ [1,3,5,7,4,12,12,12,12] 9)
 refine TC.exit (S.x (S.x ?_))
 replace hh:=dG hR1 hh
 refine Δ (S.n (ζ (ψ (ω z (kG z ji fE z (i:=4) z z) (θ 5 z z (TL.Md iD (λτ343 Yf sW=> ?_)))))))
 replace dF:=dF.mono Yf
 have hr341b:=sW.big
 refine θ 5 z z (TL.Md dF (λτ346 Ye wY=> ?_))
 replace sW:=sW.mono Ye
 have hr344b:=wY.big
 refine θ 5 z z (TL.oh jc (λτ349 KU BK=> ?_))
 replace sW:=sW.mono KU
 replace wY:=wY.mono KU
 have hr347b:=BK.rv.big
 refine θ 5 z z (TL.oh bF (λτ352 Ey J8=> ?_))
 replace sW:=sW.mono Ey
 replace wY:=wY.mono Ey
 replace BK:=BK.mono Ey
 have hr350b:=J8.rv.big
 obtain ⟨Oe,u205,hh⟩:=dM hh
 refine ν z (jF (C1_ (x0:=(⟨(x0.front++(nth v5.1 0 [])),iP,iO,eY,iY⟩:Seq)) sW wY BK J8 u205) z z OA z z z ?_)
 refine ω z (OpVal.not z z) (ε (TC.cB z hh (λh353 hh=> ?_) (λh353 hh=> ?_)))
 ·refine ψ (ω z (nD z wP if_ z) (θ 1 z z (ν z (storeAll z fE z z z z z z ?_))))
  refine ξ z z (ε (TC.rt 1 (S.r ?_)))
  obtain rfl:=so hh
  exact ro [] z (RVs.agg ji fE z (i:=0) z z (RVs.tmp z RVs.nil)) ⟨none,0,none,0,none,0,none,0,z,(RZ.nilF _ (aB 1 aG bn)),(RZ.nilF _ (aB 1 aJ bF)),(RS.nilF _ eq_ jc),(RS.nilF _ aJ bF),z⟩
 refine ι (S.n (ψ (ω z (kG z ji fE z (i:=4) z z) (θ 1 z z (ν z (storeAll z fE z z z z z z ?_))))))
 refine ξ z z (ε (TC.rt 1 ?_))
 obtain rfl:=so hh
 exact ro [] z (RVs.agg ji fE z (i:=0) z z (RVs.tmp z RVs.nil)) ⟨uX,uU,oJ,c198,a203,yj,yC,c208,z,sW,wY,BK,J8,z⟩
def Q5(cu:Nat)(x0:Seq)(fP:Nat)(uD:B_1)(qJ:Nat):Option ((B_1×Nat)⊕((B_1×Nat)⊕(((List B_1)×Nat)⊕((List B_1))))):=
 aN (decide ((qJ:Int)<256)) (grd (cu<uD.length) (aN (nth uD cu false) (grd (cu<uD.length) (nxt ((uD.set cu true),(qJ+1)))) (grd (qJ<(nth x0.next fP []).length) (grd (qJ<(nth x0.next cu []).length) (grd (cu<uD.length) (nxt ((uD.set cu ((decide ((nth (nth x0.next fP []) qJ 0)<0)) != (decide ((nth (nth x0.next cu []) qJ 0)<0)))),(qJ+1)))))))) (fin (nxt (uD,(cu+1))))
def Vw(cu:Nat)(x0:Seq)(fP:Nat)(vJ:B_1):Option ((B_1×Nat)⊕(((List B_1)×Nat)⊕((List B_1)))):=
 bC (λq:B_1×Nat=>Q5 cu x0 fP q.1 q.2) (vJ,0)
def NY(x0:Seq)(fP:Nat)(dD:List B_1)(mZ:B_1)(cu:Nat):Option ((B_1×Nat)⊕(((List B_1)×Nat)⊕((List B_1)))):=
 aN (decide ((cu:Int)<((x0.next.length:Nat):Int))) (grd (fP<x0.fin.length) (grd (cu<x0.fin.length) (aN ((nth x0.fin fP false) != (nth x0.fin cu false)) (grd (cu<mZ.length) (Vw cu x0 fP (mZ.set cu true))) (grd (fP<x0.tail.length) (grd (cu<x0.tail.length) (aN (decide ((nth x0.tail fP [])≠(nth x0.tail cu []))) (grd (cu<mZ.length) (Vw cu x0 fP (mZ.set cu true))) (grd (fP<x0.outs.length) (grd (cu<x0.outs.length) (bnd (Rf (nth x0.outs fP []) (nth x0.outs cu [])) (λv56=>grd (cu<mZ.length) (Vw cu x0 fP (mZ.set cu (!v56))))))))))))) (fin (grd ((dD.length+([mZ]:List B_1).length) * 24<=140737488355328) (nxt ((dD++([mZ]:List B_1)),(fP+1)))))
def MV(iQ:Nat)(gq:Nat)(x0:Seq)(jX:List B_1)(wO:Bool)(mF:Nat):Option (((List B_1)×Bool×Nat)⊕(((List B_1)×Bool×Nat)⊕(((List B_1)×Bool×Nat)⊕(((List B_1)×Bool)⊕((List B_1)))))):=
 aN (decide ((mF:Int)<256)) (grd (iQ<jX.length) (grd (gq<(nth jX iQ []).length) (aN (!(nth (nth jX iQ []) gq false)) (grd (mF<(nth x0.next iQ []).length) (grd (mF<(nth x0.next gq []).length) (aN (decide (0<=(nth (nth x0.next iQ []) mF 0))) (aN (decide (0<=(nth (nth x0.next gq []) mF 0))) (grd (0<=(nth (nth x0.next iQ []) mF 0)/\(nth (nth x0.next iQ []) mF 0)<(jX.length:Int)) (grd (0<=(nth (nth x0.next gq []) mF 0)/\(nth (nth x0.next gq []) mF 0)<((nth jX ((nth (nth x0.next iQ []) mF 0).toNat) []).length:Int)) (aN (nth (nth jX ((nth (nth x0.next iQ []) mF 0).toNat) []) ((nth (nth x0.next gq []) mF 0).toNat) false) (grd (iQ<jX.length) (grd (gq<(nth jX iQ []).length) (nxt ((jX.set iQ ((nth jX iQ []).set gq true)),true,(mF+1))))) (nxt (jX,wO,(mF+1)))))) (nxt (jX,wO,(mF+1)))) (nxt (jX,wO,(mF+1)))))) (fin (nxt (jX,wO,(gq+1))))))) (fin (nxt (jX,wO,(gq+1))))
def QY(x0:Seq)(iQ:Nat)(JF:List B_1)(Jt:Bool)(gq:Nat):Option (((List B_1)×Bool×Nat)⊕(((List B_1)×Bool×Nat)⊕(((List B_1)×Bool)⊕((List B_1))))):=
 aN (decide ((gq:Int)<((x0.next.length:Nat):Int))) (bC (λq:(List B_1)×Bool×Nat=>MV iQ gq x0 q.1 q.2.1 q.2.2) (JF,Jt,0)) (fin (nxt (JF,Jt,(iQ+1))))
def NZ(x0:Seq)(kN:List B_1)(t234:Bool)(iQ:Nat):Option (((List B_1)×Bool×Nat)⊕(((List B_1)×Bool)⊕((List B_1)))):=
 aN (decide ((iQ:Int)<((x0.next.length:Nat):Int))) (bC (λq:(List B_1)×Bool×Nat=>QY x0 iQ q.1 q.2.1 q.2.2) (kN,t234,0)) (fin (nxt (kN,t234)))
def Vy(x0:Seq)(Pm:List B_1)(t213:Bool):Option (((List B_1)×Bool)⊕((List B_1))):=
 aN t213 (bC (λq:(List B_1)×Bool×Nat=>NZ x0 q.1 q.2.1 q.2.2) (Pm,false,0)) (fin (some Pm))
def QZ(x0:Seq)(dD:List B_1)(fP:Nat):Option (((List B_1)×Nat)⊕((List B_1))):=
 aN (decide ((fP:Int)<((x0.next.length:Nat):Int))) (grd (1 * x0.next.length<=281474976710656) (bC (λq:B_1×Nat=>NY x0 fP dD q.1 q.2) ((replicate x0.next.length false),0))) (fin (bC (λq:(List B_1)×Bool=>Vy x0 q.1 q.2) (dD,true)))
def C5_(x0:Seq):Option ((List B_1)):=
 bC (λq:(List B_1)×Nat=>QZ x0 q.1 q.2) (([]:List B_1),0)
def G4_(σ:aj)(r:(List B_1)):Value->aj->List Res->Prop:=λv σ' H'=>
 ∃a1 c1,v= .slice a1 r.length c1/\RZ σ' (aB 1 eq_ jc) (.slice a1 r.length c1) r/\H'=[]
theorem Go_ {σ : aj} {x0 : Seq} {aI : Option Addr} {aH : Nat} {aA : Option Addr} {aX : Nat} {aU : Option Addr} {ay : Nat} {bJ : Option Addr} {bD : Nat} (au : RZ σ (aB 1 aG bn) (.slice aI x0.next.length aH) x0.next) (aY : RZ σ (aB 1 aJ bF) (.slice aA x0.outs.length aX) x0.outs) (aV : dA σ eq_ aU ay x0.fin) (aQ : dA σ aJ bJ bD x0.tail) {r : (List B_1)} (hh : C5_ x0 = some r) :
  Con prog 75 #[.agg (oI x0 aI aH aA aX aU ay bJ bD)] σ [] (G4_ σ r):=by
 dsimp only [C5_]at hh
 have f0_0b:=au.big
 have f0_1b:=aY.big
 have f0_2b:=aV.rv.big
 have f0_3b:=aQ.rv.big
 refine Con.mk (n:=172) Tryz.func75 z z z (λw0=> ?_)
 refine ψ (ν z (boxA z z z z (λbG=> ?_)))
 refine Φ z z (ε (ψ (ω z (aS z kS z) (ω z (aZ z jT z (i:=0) z z) (ω z (lenC z eU z) (ξ z z (ε (ψ (Φ z z (ε (ζ (ψ (ξ z z (ε (υ ?_)))))))))))))))
 refine TC.by (λw h=>Reach.dw_ 29 4 1 eq_ h) ?_
 have zf124:Zn ([]:List (NP Bool)) ([]:List B_1):=Zn.nil
 refine TC.ig (α:=((List B_1)×Nat)×((Option Addr)×Nat×(List (NP Bool)))) (rgs [(4,5),(19,89)]) (λg=>[(4,.slice g.2.1 g.1.1.length g.2.2.1),(5,.int .i64 ((g.1.2:Nat):Int))]) (λg=>[jl bG x0 aI aH aA aX aU ay bJ bD,Res.nest 29 4 1 eq_ (.slice g.2.1 g.1.1.length g.2.2.1) g.2.2.2]) (λg=>σ) (λg=>bC (λq:(List B_1)×Nat=>QZ x0 q.1 q.2) g.1=some r/\Zn g.2.2.2 g.1.1) (λg=>f_ (λq:(List B_1)×Nat=>QZ x0 q.1 q.2) g.1) ((([]:List B_1),0),(none,0,([]:List (NP Bool)))) (Θ [1] 2) z (by repeat (first|exact trivial|refine ⟨z,?_⟩)) ⟨hh,zf124⟩ (λg1 j1 hg1=> ?_)
 obtain ⟨⟨dD,fP⟩,⟨a119,qL,Bd⟩⟩:=g1
 obtain ⟨hh,mJ⟩:=hg1
 try dsimp only at mJ ⊢
 obtain ⟨z1,hh,hR1⟩:=gJ hh
 dsimp only [QZ]at hh
 have zf122b:=mJ.len
 refine TC.know (nX (q:=1) z mJ) (λ⟨_,Dn⟩=> ?_)
 refine ζ (ψ (ξ z z (ξ z z (ω z (OpVal.lss z z z) (ε (TC.cD z hh (λh127 hh=> ?_) (λh127 hh=> ?_)))))))
 ·refine ι (S.n (ζ (υ (ψ (ξ z z ?_)))))
  obtain ⟨u13,hh⟩:=aP hh
  refine ν z (pz (enc:=eq_) false z gI gQ G8 AA z z z z (by omega) (by decide) jc (by decide) z qZ (λQi PX=> ?_))
  refine Φ z z (ε (ζ (ψ (ξ z z (ε (υ (TC.ig (α:=(B_1×Nat)×(Unit)) (rgs [(7,2),(26,78)]) (λg=>[(7,.int .i64 ((g.1.2:Nat):Int))]) (λg=>[jl bG x0 aI aH aA aX aU ay bJ bD,Res.nest 29 4 1 eq_ (.slice a119 dD.length qL) Bd,φ 4 1 eq_ (.slice Qi (replicate x0.next.length false).length PX) g.1.1]) (λg=>σ) (λg=>bC (λq:B_1×Nat=>NY x0 fP dD q.1 q.2) g.1=some z1/\Zn Bd dD/\g.1.1.length=(replicate x0.next.length false).length) (λg=>f_ (λq:B_1×Nat=>NY x0 fP dD q.1 q.2) g.1) (((replicate x0.next.length false),0),()) (Θ [2,2] 3) z (by repeat (first|exact trivial|refine ⟨z,?_⟩)) ⟨hh,mJ,z⟩ (λg2 j2 hg2=> ?_))))))))
  obtain ⟨⟨mZ,cu⟩,_⟩:=g2
  obtain ⟨hh,sO,B_⟩:=hg2
  try dsimp only at sO B_ ⊢
  obtain ⟨z2,hh,hR2⟩:=gJ hh
  dsimp only [NY]at hh
  have zf140b:=sO.len
  refine TC.know (nX (q:=1) z sO) (λ⟨_,U5⟩=> ?_)
  refine χ (i:=2) z (λ_ Dk _=> ?_)
  refine ζ (ψ (ξ z z (ξ z z (ω z (OpVal.lss z z z) (ε (TC.cD z hh (λEP hh=> ?_) (λEP hh=> ?_)))))))
  ·refine ι (S.n (ζ (υ (TC.cutG (α:=(B_1)×(Unit)) (rgs [(31,41)]) (λg=>[]) (λg=>[jl bG x0 aI aH aA aX aU ay bJ bD,Res.nest 29 4 1 eq_ (.slice a119 dD.length qL) Bd,φ 4 1 eq_ (.slice Qi (replicate x0.next.length false).length PX) g.1]) (λg=>σ) (λg=>Vw cu x0 fP g.1=some z2/\Zn Bd dD/\g.1.length=(replicate x0.next.length false).length) ?_ (λg j hg=> ?_)))))
   ·skip
    refine TC.draw [41] (by kernel_rfl) (Ω 0 z (gu (.inl z) z) z (Ω 1 z (dw (.inl z) z) z (Ω 2 z (aS z tV z) z (TA.b 3 z (aZ z qV z (i:=0) z z) z (Ω 4 z (dw (.inl z) z) z ?_)))))
    obtain ⟨u24,hh⟩:=aP hh
    refine TA.b 5 z (bU z gI gQ z z aV.rv.sl (by omega)) z (TA.b 6 z (fF false z nG z aV (by omega) z) z (Ω 7 z (aS z tV z) z (TA.b 8 z (aZ z qV z (i:=0) z z) z (Ω 9 z (dw (.inl z) z) z ?_))))
    obtain ⟨u29,hh⟩:=aP hh
    refine TA.b 10 z (bU z gI gQ z z aV.rv.sl (by omega)) z (TA.b 11 z (fF false z nG z aV (by omega) z) z (Ω 12 z (neqB z z z underlying4) z (Ω 13 z (moveB (.inl z) z) z (TA.split 44 z (λuO=> ?_) (λuO=> ?_)))))
    ·replace hh:=gZ uO hh
     refine TA.off 14 z z z z z z (TA.off 15 z z z z z z (TA.off 16 z z z z z z (TA.off 17 z z z z z z (TA.off 18 z z z z z z (TA.off 19 z z z z z z (TA.off 20 z z z z z z (TA.off 21 z z z z z z (TA.off 22 z z z z z z (TA.off 23 z z z z z z (TA.off 24 z z z z z z (Ω 25 z (dS z z z) z (Ω 26 z (moveB (.inl z) z) z (TA.off 27 z z z z z z (TA.off 28 z z z z z z (TA.off 29 z z z z z z ?_)))))))))))))))
     refine TA.off 30 z z z z z z (TA.off 31 z z z z z z (TA.off 32 z z z z z z (TA.off 33 z z z z z z (TA.off 34 z z z z z z (TA.off 35 z z z z z z (TA.off 36 z z z z z z (TA.off 37 z z z z z z (TA.off 38 z z z z z z (Ω 39 z (dS z z z) z ?_)))))))))
     obtain ⟨u59,hh⟩:=aP hh
     refine TA.isSl (i:=2) z (λJY _ _=> ?_)
     refine TA.b 40 z (bU z gI gQ z z JY (by omega)) z (TA.front 2 z z ?_)
     have Gw:(mZ.set cu true).length=(replicate x0.next.length false).length:=by rw [gy];exact B_
     refine TA.last 41 (by kernel_rfl) z z z (lG true z gQ z z z z jc qZ (by omega) (by omega) ?_)
     exact TZ.done (by kernel_rfl) (S.n (cf ((mZ.set cu true),()) ⟨hh,sO,Gw⟩ (Θ [2,2] 3)))
    replace hh:=gY uO hh
    refine TA.on 14 z z z z (aS z uh z) z (TA.on 15 z z z z (aZ z lJ z (i:=0) z z) z (TA.on 16 z z z z (dw (.inl z) z) z ?_))
    obtain ⟨u36,hh⟩:=aP hh
    refine TA.on 17 z z z z (bU z fK fU z z aQ.rv.sl (by omega)) z (TA.on 18 z z z z (fF ([]:T_1) z iG z aQ (by omega) z) z (TA.on 19 z z z z (aS z uh z) z (TA.on 20 z z z z (aZ z lJ z (i:=0) z z) z (TA.on 21 z z z z (dw (.inl z) z) z ?_))))
    obtain ⟨FB,hh⟩:=aP hh
    refine TA.on 22 z z z z (bU z fK fU z z aQ.rv.sl (by omega)) z (TA.on 23 z z z z (fF ([]:T_1) z iG z aQ (by omega) z) z (TA.on 24 z z z z (Ih z z z) z (Ω 25 z (dV z z z) z (Ω 26 z (moveB (.inl z) z) z (TA.split 57 z (λEN=> ?_) (λEN=> ?_))))))
    ·replace hh:=gZ EN hh
     replace EN:=jg EN
     refine TA.off 27 z z z z z z (TA.off 28 z z z z z z (TA.off 29 z z z z z z (TA.off 30 z z z z z z (TA.off 31 z z z z z z (TA.off 32 z z z z z z (TA.off 33 z z z z z z (TA.off 34 z z z z z z (TA.off 35 z z z z z z (TA.off 36 z z z z z z (TA.off 37 z z z z z z (TA.off 38 z z z z z z (Ω 39 z (dS z z z) z ?_))))))))))))
     obtain ⟨u59,hh⟩:=aP hh
     refine TA.isSl (i:=2) z (λJX _ _=> ?_)
     refine TA.b 40 z (bU z gI gQ z z JX (by omega)) z (TA.front 2 z z ?_)
     have KC:(mZ.set cu true).length=(replicate x0.next.length false).length:=by rw [gy];exact B_
     refine TA.last 41 (by kernel_rfl) z z z (lG true z gQ z z z z jc qZ (by omega) (by omega) ?_)
     exact TZ.done (by kernel_rfl) (S.n (cf ((mZ.set cu true),()) ⟨hh,sO,KC⟩ (Θ [2,2] 3)))
    replace hh:=gY EN hh
    replace EN:=jo EN
    refine TA.on 27 z z z z (aS z oQ z) z (TA.on 28 z z z z (aZ z pI z (i:=0) z z) z (TA.on 29 z z z z (dw (.inl z) z) z ?_))
    obtain ⟨u49,hh⟩:=aP hh
    refine TA.on 30 z z z z (bU z lI mM z z aY.isSl (by omega)) z ?_
    obtain ⟨OT,GX,hg156⟩:=RZ.seg aY fP (by omega)
    replace GX:dA _ aJ OT.1 OT.2 (nth x0.outs fP []):=GX
    have hk156b:=GX.rv.big
    refine TA.on 31 z z z z (OpVal.of (kZ z lJ z hg156 z) (v':= .slice OT.1 ((nth x0.outs fP []).length) OT.2) z) z (TA.on 32 z z z z (aS z oQ z) z (TA.on 33 z z z z (aZ z pI z (i:=0) z z) z (TA.on 34 z z z z (dw (.inl z) z) z ?_)))
    obtain ⟨Jp,hh⟩:=aP hh
    refine TA.on 35 z z z z (bU z lI mM z z aY.isSl (by omega)) z ?_
    obtain ⟨sS,lg,hg157⟩:=RZ.seg aY cu (by omega)
    replace lg:dA _ aJ sS.1 sS.2 (nth x0.outs cu []):=lg
    have hk157b:=lg.rv.big
    refine TA.on 36 z z z z (OpVal.of (kZ z lJ z hg157 z) (v':= .slice sS.1 ((nth x0.outs cu []).length) sS.2) z) z ?_
    obtain ⟨v56,u56,hh⟩:=dM hh
    refine TA.dv_ 37 (by kernel_rfl) z z z z z z (jF (D4_ GX lg u56) z z Wn z z z (k0 ?_))
    refine TA.on 38 z z z z (OpVal.not z z) z (Ω 39 z (dV z z z) z ?_)
    obtain ⟨u59,hh⟩:=aP hh
    refine TA.isSl (i:=2) z (λJW _ _=> ?_)
    refine TA.b 40 z (bU z gI gQ z z JW (by omega)) z (TA.front 2 z z ?_)
    have BU:(mZ.set cu (!v56)).length=(replicate x0.next.length false).length:=by rw [gy];exact B_
    refine TA.last 41 (by kernel_rfl) z z z (lG (!v56) z gQ z z z z jc qZ (by omega) (by omega) ?_)
    exact TZ.done (by kernel_rfl) (S.n (cf ((mZ.set cu (!v56)),()) ⟨hh,sO,BU⟩ (Θ [2,2] 3)))
   skip
   obtain ⟨vJ,_⟩:=g
   obtain ⟨hh,Fv,zy⟩:=hg
   try dsimp only at Fv zy ⊢
   dsimp only [Vw]at hh
   have zf147b:=Fv.len
   refine TC.know (nX (q:=1) z Fv) (λ⟨_,hb160⟩=> ?_)
   refine χ (i:=2) z (λ_ hb161 _=> ?_)
   refine ψ (ξ z z (ε (υ (TC.ig (α:=(B_1×Nat)×(Unit)) (rgs [(8,1),(72,32)]) (λg=>[(8,.int .i64 ((g.1.2:Nat):Int))]) (λg=>[jl bG x0 aI aH aA aX aU ay bJ bD,Res.nest 29 4 1 eq_ (.slice a119 dD.length qL) Bd,φ 4 1 eq_ (.slice Qi (replicate x0.next.length false).length PX) g.1.1]) (λg=>σ) (λg=>bC (λq:B_1×Nat=>Q5 cu x0 fP q.1 q.2) g.1=some z2/\Zn Bd dD/\g.1.1.length=(replicate x0.next.length false).length) (λg=>f_ (λq:B_1×Nat=>Q5 cu x0 fP q.1 q.2) g.1) ((vJ,0),()) (Θ [2,2,2] 3) z (by repeat (first|exact trivial|refine ⟨z,?_⟩)) ⟨hh,Fv,zy⟩ (λg3 j3 hg3=> ?_)))))
   obtain ⟨⟨uD,qJ⟩,_⟩:=g3
   obtain ⟨hh,qN,xA⟩:=hg3
   try dsimp only at qN xA ⊢
   obtain ⟨z3,hh,Ag⟩:=gJ hh
   dsimp only [Q5]at hh
   have zf172b:=qN.len
   refine TC.know (nX (q:=1) z qN) (λ⟨_,hb176⟩=> ?_)
   refine χ (i:=2) z (λ_ U2 _=> ?_)
   refine ζ (ψ (ξ z z (ω z (OpVal.lss z z z) (ε (TC.cD z hh (λh178 hh=> ?_) (λh178 hh=> ?_))))))
   ·refine ι (S.n (ζ (υ (TC.draw [28] (by kernel_rfl) (Ω 0 z (gu (.inl z) z) z (Ω 1 z (dw (.inl z) z) z (Ω 2 z (gu (.inl z) z) z (Ω 3 z (dw (.inl z) z) z ?_))))))))
    obtain ⟨u68,hh⟩:=aP hh
    refine TA.isSl (i:=2) z (λhs179 _ _=> ?_)
    refine TA.b 4 z (bU z gI gQ z z hs179 (by omega)) z (TA.b 5 z (og false z nG z (q:=2) z jc (by omega) z) z (Ω 6 z (moveB (.inl z) z) z (TA.split 82 z (λYG=> ?_) (λYG=> ?_))))
    ·replace hh:=gZ YG hh
     refine TA.off 7 z z z z z z (TA.off 8 z z z z z z (TA.off 9 z z z z z z (TA.off 10 z z z z z z (TA.off 11 z z z z z z (TA.off 12 z z z z z z (TA.off 13 z z z z z z (TA.off 14 z z z z z z (TA.off 15 z z z z z z (TA.off 16 z z z z z z (TA.off 17 z z z z z z (TA.off 18 z z z z z z (TA.off 19 z z z z z z (TA.off 20 z z z z z z (TA.off 21 z z z z z z (TA.off 22 z z z z z z ?_)))))))))))))))
     refine TA.off 23 z z z z z z (TA.off 24 z z z z z z (TA.off 25 z z z z z z (Ω 26 z (dS z z z) z ?_)))
     obtain ⟨u91,hh⟩:=aP hh
     refine TA.isSl (i:=2) z (λhs181 _ _=> ?_)
     refine TA.b 27 z (bU z gI gQ z z hs181 (by omega)) z (TA.front 2 z z ?_)
     have mO:(uD.set cu true).length=(replicate x0.next.length false).length:=by rw [gy];exact xA
     refine TA.last 28 (by kernel_rfl) z z z (lG true z gQ z z z z jc qZ (by omega) (by omega) ?_)
     refine TZ.done (by kernel_rfl) (B.n (S.n (η (ξ z z (ω z (OpVal.succ z z z (by omega)) (ξ z z (ε ?_)))))))
     obtain ⟨hh,Ec⟩:=dO Ag hh
     exact lf (((uD.set cu true),(qJ+1)),()) Ec ⟨hh,qN,mO⟩ (Θ [2,2] 3)
    replace hh:=gY YG hh
    refine TA.on 7 z z z z (aS z kS z) z (TA.on 8 z z z z (aZ z jT z (i:=0) z z) z (TA.on 9 z z z z (dw (.inl z) z) z (TA.on 10 z z z z (bU z eU fZ z z au.isSl (by omega)) z ?_)))
    obtain ⟨OQ,CV,hg184⟩:=RZ.seg au fP (by omega)
    replace CV:dA _ aG OQ.1 OQ.2 (nth x0.next fP []):=CV
    have hk184b:=CV.rv.big
    refine TA.on 11 z z z z (OpVal.of (kZ z hs_ z hg184 z) (v':= .slice OQ.1 ((nth x0.next fP []).length) OQ.2) z) z (TA.on 12 z z z z (dw (.inl z) z) z ?_)
    obtain ⟨u77,hh⟩:=aP hh
    refine TA.on 13 z z z z (bU z b_ dB z z CV.rv.sl (by omega)) z (TA.on 14 z z z z (fF (0:Int) z fJ z CV (by omega) z) z (TA.on 15 z z z z (OpVal.lss z z z) z (TA.on 16 z z z z (aS z kS z) z (TA.on 17 z z z z (aZ z jT z (i:=0) z z) z (TA.on 18 z z z z (dw (.inl z) z) z (TA.on 19 z z z z (bU z eU fZ z z au.isSl (by omega)) z ?_))))))
    obtain ⟨OO,CU,hg185⟩:=RZ.seg au cu (by omega)
    replace CU:dA _ aG OO.1 OO.2 (nth x0.next cu []):=CU
    have hk185b:=CU.rv.big
    refine TA.on 20 z z z z (OpVal.of (kZ z hs_ z hg185 z) (v':= .slice OO.1 ((nth x0.next cu []).length) OO.2) z) z (TA.on 21 z z z z (dw (.inl z) z) z ?_)
    obtain ⟨u86,hh⟩:=aP hh
    refine TA.on 22 z z z z (bU z b_ dB z z CU.rv.sl (by omega)) z (TA.on 23 z z z z (fF (0:Int) z fJ z CU (by omega) z) z (TA.on 24 z z z z (OpVal.lss z z z) z (TA.on 25 z z z z (neqB z z z underlying4) z (Ω 26 z (dV z z z) z ?_))))
    obtain ⟨u91,hh⟩:=aP hh
    refine TA.isSl (i:=2) z (λJU _ _=> ?_)
    refine TA.b 27 z (bU z gI gQ z z JU (by omega)) z (TA.front 2 z z ?_)
    have hn187:(uD.set cu ((decide ((nth (nth x0.next fP []) qJ 0)<0)) != (decide ((nth (nth x0.next cu []) qJ 0)<0)))).length=(replicate x0.next.length false).length:=by rw [gy];exact xA
    refine TA.last 28 (by kernel_rfl) z z z (lG ((decide ((nth (nth x0.next fP []) qJ 0)<0)) != (decide ((nth (nth x0.next cu []) qJ 0)<0))) z gQ z z z z jc qZ (by omega) (by omega) ?_)
    refine TZ.done (by kernel_rfl) (B.n (S.n (η (ξ z z (ω z (OpVal.succ z z z (by omega)) (ξ z z (ε ?_)))))))
    obtain ⟨hh,XH⟩:=dO Ag hh
    exact lf (((uD.set cu ((decide ((nth (nth x0.next fP []) qJ 0)<0)) != (decide ((nth (nth x0.next cu []) qJ 0)<0)))),(qJ+1)),()) XH ⟨hh,qN,hn187⟩ (Θ [2,2] 3)
   refine TC.exit (S.x (S.x ?_))
   replace hh:=dG Ag hh
   refine Δ (B.n (S.n (η (ξ z z (ω z (OpVal.succ z z z (by omega)) (ξ z z (ε ?_)))))))
   obtain ⟨hh,D_⟩:=dO hR2 hh
   exact lf ((uD,(cu+1)),()) D_ ⟨hh,qN,xA⟩ (Θ [2,2,2] 3)
  refine TC.exit (S.x (S.x ?_))
  replace hh:=dG hR2 hh
  refine Δ (S.n (η (Φ z z (Φ z z ?_))))
  rw [<-B_]
  refine θ 2 z z (ν z (buildN z z underlying125 Js VB z z z z (λa190 c191 zf192=> ?_)))
  refine θ 2 z z ?_
  obtain ⟨u102,hh⟩:=aP hh
  refine ν z (dl_ z z underlying125 Js by29 VB z z (by decide) z z sO zf192 (by simpa using u102) (by decide) (λa194 c195 iU=> ?_))
  refine Φ z z (TL.nil (B.n (S.n (η (ξ z z (ω z (OpVal.succ z z z (by omega)) (ξ z z (ε ?_))))))))
  obtain ⟨hh,XG⟩:=dO hR1 hh
  exact lf (((dD++([mZ]:List B_1)),(fP+1)),(a194,c195,(Bd++([(mZ,(Qi,PX))]:List (NP Bool))))) XG ⟨hh,iU⟩ (Θ [1] 2)
 refine TC.exit (S.x (S.x ?_))
 replace hh:=dG hR1 hh
 refine Δ (S.n (ζ (ψ (TL.j z z (ε (υ (TC.ig (α:=((List B_1)×Bool)×((List (NP Bool)))) (rgs [(9,7),(108,63)]) (λg=>[(9,.bool g.1.2)]) (λg=>[jl bG x0 aI aH aA aX aU ay bJ bD,Res.nest 29 4 1 eq_ (.slice a119 dD.length qL) g.2]) (λg=>σ) (λg=>bC (λq:(List B_1)×Bool=>Vy x0 q.1 q.2) g.1=some r/\g.1.1.length=dD.length/\Zn g.2 g.1.1) (λg=>f_ (λq:(List B_1)×Bool=>Vy x0 q.1 q.2) g.1) ((dD,true),Bd) (Θ [1,1] 2) z (by repeat (first|exact trivial|refine ⟨z,?_⟩)) ⟨hh,z,mJ⟩ (λg4 j4 hg4=> ?_))))))))
 obtain ⟨⟨Pm,t213⟩,z211⟩:=g4
 obtain ⟨hh,Ky,oL⟩:=hg4
 try dsimp only at Ky oL ⊢
 obtain ⟨z1,hh,hR1⟩:=gJ hh
 dsimp only [Vy]at hh
 have zf212b:=oL.len
 refine TC.know (nX (q:=1) z oL) (λ⟨_,hb214⟩=> ?_)
 refine ζ (ψ (TL.j z z (ε (TC.cB z hh (λYE hh=> ?_) (λYE hh=> ?_)))))
 ·refine ι (S.n (υ (ψ (TL.j z z (ε (ψ (ξ z z (ε (υ (TC.ig (α := ((List B_1) × Bool × Nat) × ((List (NP Bool)))) (rgs [(9, 7), (109, 62)]) (λg => [(9, .bool g.1.2.1), (10, .int .i64 ((g.1.2.2 : Nat) : Int))]) (λg => [κ bG #[.string (bs x0.front), .slice aI x0.next.length aH, .slice aA x0.outs.length aX, .slice aU x0.fin.length ay, .slice bJ x0.tail.length bD] 32, Res.nest 29 4 1 eq_ (.slice a119 dD.length qL) g.2]) (λg => σ) (λg => bC (λq : (List B_1) × Bool × Nat => NZ x0 q.1 q.2.1 q.2.2) g.1 = some z1 /\ g.1.1.length = dD.length /\ Zn g.2 g.1.1) (λg => f_ (λq : (List B_1) × Bool × Nat => NZ x0 q.1 q.2.1 q.2.2) g.1) ((Pm, false, 0), z211) (Θ [1, 1] 2) z (by repeat (first | exact trivial | refine ⟨z, ?_⟩)) ⟨hh, Ky, oL⟩ (λg5 j5 hg5 => ?_)))))))))))
  obtain ⟨⟨kN,t234,iQ⟩,z232⟩:=g5
  obtain ⟨hh,oO,jB⟩:=hg5
  try dsimp only at oO jB ⊢
  obtain ⟨z2,hh,hR2⟩:=gJ hh
  dsimp only [NZ]at hh
  have zf233b:=jB.len
  refine TC.know (nX (q:=1) z jB) (λ⟨_,GZ⟩=> ?_)
  refine ζ (ψ (ξ z z (ξ z z (ω z (OpVal.lss z z z) (ε (TC.cD z hh (λLJ hh=> ?_) (λLJ hh=> ?_)))))))
  ·refine ι (S.n (ζ (υ (ψ (ξ z z (ε (υ (TC.ig (α:=((List B_1)×Bool×Nat)×((List (NP Bool)))) (rgs [(9,1),(11,5),(114,57)]) (λg=>[(9,.bool g.1.2.1),(11,.int .i64 ((g.1.2.2:Nat):Int))]) (λg=>[jl bG x0 aI aH aA aX aU ay bJ bD,Res.nest 29 4 1 eq_ (.slice a119 dD.length qL) g.2]) (λg=>σ) (λg=>bC (λq:(List B_1)×Bool×Nat=>QY x0 iQ q.1 q.2.1 q.2.2) g.1=some z2/\g.1.1.length=dD.length/\Zn g.2 g.1.1) (λg=>f_ (λq:(List B_1)×Bool×Nat=>QY x0 iQ q.1 q.2.1 q.2.2) g.1) ((kN,t234,0),z232) (Θ [1,1] 2) z (by repeat (first|exact trivial|refine ⟨z,?_⟩)) ⟨hh,oO,jB⟩ (λg6 j6 hg6=> ?_)))))))))
   obtain ⟨⟨JF,Jt,gq⟩,z254⟩:=g6
   obtain ⟨hh,qW,lM⟩:=hg6
   try dsimp only at qW lM ⊢
   obtain ⟨z3,hh,Ag⟩:=gJ hh
   dsimp only [QY]at hh
   have zf255b:=lM.len
   refine TC.know (nX (q:=1) z lM) (λ⟨_,hb258⟩=> ?_)
   refine ζ (ψ (ξ z z (ξ z z (ω z (OpVal.lss z z z) (ε (TC.cD z hh (λh259 hh=> ?_) (λh259 hh=> ?_)))))))
   ·refine ι (S.n (ζ (υ (ψ (ξ z z (ε (υ (TC.ig (α:=((List B_1)×Bool×Nat)×((List (NP Bool)))) (rgs [(9,1),(12,4),(119,52)]) (λg=>[(9,.bool g.1.2.1),(12,.int .i64 ((g.1.2.2:Nat):Int))]) (λg=>[jl bG x0 aI aH aA aX aU ay bJ bD,Res.nest 29 4 1 eq_ (.slice a119 dD.length qL) g.2]) (λg=>σ) (λg=>bC (λq:(List B_1)×Bool×Nat=>MV iQ gq x0 q.1 q.2.1 q.2.2) g.1=some z3/\g.1.1.length=dD.length/\Zn g.2 g.1.1) (λg=>f_ (λq:(List B_1)×Bool×Nat=>MV iQ gq x0 q.1 q.2.1 q.2.2) g.1) ((JF,Jt,0),z254) (Θ [1,1] 2) z (by repeat (first|exact trivial|refine ⟨z,?_⟩)) ⟨hh,qW,lM⟩ (λg7 j7 hg7=> ?_)))))))))
    obtain ⟨⟨jX,wO,mF⟩,He⟩:=g7
    obtain ⟨hh,xu,lK⟩:=hg7
    try dsimp only at xu lK ⊢
    obtain ⟨z4,hh,hR4⟩:=gJ hh
    dsimp only [MV]at hh
    have zf277b:=lK.len
    refine TC.know (nX (q:=1) z lK) (λ⟨_,hb280⟩=> ?_)
    refine ζ (ψ (ξ z z (ω z (OpVal.lss z z z) (TL.j z z (TL.split 121 z (λAh=> ?_) (λAh=> ?_))))))
    ·replace hh:=gZ Ah hh
     replace Ah:=jg Ah
     refine Ψ z (gu (.inl z) z) (Ψ z (dw (.inl z) z) ?_)
     obtain ⟨u124,hh⟩:=aP hh
     refine TL.know (nX (q:=1) z lK) (λ⟨JQ,hs282b⟩=> ?_)
     refine Ψ z (bU z underlying125 Js z z JQ (by omega)) ?_
     obtain ⟨p283,JL,KP⟩:=Zn.at lK (i:=iQ) (by omega)
     refine Ψ z (Dt z qV z (q:=1) z JL KP) (Ψ z (dw (.inl z) z) ?_)
     obtain ⟨u127,hh⟩:=aP hh
     refine TL.know (is_ (q:=1) z JL KP) (λ⟨hs284,hs284b⟩=> ?_)
     refine Ψ z (bU z gI gQ z z hs284 (by omega)) (Ψ z (OpVal.seen (iq_ (q:=1) z JL KP) (og false z nG z (q:=0) z jc (by omega) z)) (Ψ z (OpVal.not z z) (ω z (dS z z z) (ε (TC.cB z hh (λYz hh=> ?_) (λYz hh=> ?_))))))
     ·refine ι (S.n (ζ (υ (ψ (ω z (aS z kS z) (ω z (aZ z jT z (i:=0) z z) (ξ z z (ω z (bU z eU fZ z z au.isSl (by omega)) ?_))))))))
      obtain ⟨OD,CB,hg286⟩:=RZ.seg au iQ (by omega)
      replace CB:dA _ aG OD.1 OD.2 (nth x0.next iQ []):=CB
      have hk286b:=CB.rv.big
      refine ω z (OpVal.of (kZ z hs_ z hg286 z) (v':= .slice OD.1 ((nth x0.next iQ []).length) OD.2) z) (ξ z z ?_)
      obtain ⟨VN,hh⟩:=aP hh
      refine ω z (bU z b_ dB z z CB.rv.sl (by omega)) (ω z (fF (0:Int) z fJ z CB (by omega) z) (ξ z z (ε (ψ (ω z (aS z kS z) (ω z (aZ z jT z (i:=0) z z) (ξ z z (ω z (bU z eU fZ z z au.isSl (by omega)) ?_))))))))
      obtain ⟨zJ,qm,Lh⟩:=RZ.seg au gq (by omega)
      replace qm:dA _ aG zJ.1 zJ.2 (nth x0.next gq []):=qm
      have hk287b:=qm.rv.big
      refine ω z (OpVal.of (kZ z hs_ z Lh z) (v':= .slice zJ.1 ((nth x0.next gq []).length) zJ.2) z) (ξ z z ?_)
      obtain ⟨u146,hh⟩:=aP hh
      refine ω z (bU z b_ dB z z qm.rv.sl (by omega)) (ω z (fF (0:Int) z fJ z qm (by omega) z) (ξ z z (ε (ψ (ξ z z (ω z (OpVal.geq z z z) (TL.j z z (TL.split 151 z (λEJ=> ?_) (λEJ=> ?_)))))))))
      ·replace hh:=gZ EJ hh
       replace EJ:=jg EJ
       refine Ψ z (dw (.inl z) z) (Ψ z (OpVal.geq z z z) (ω z (dS z z z) (TL.j z z (TL.split 155 z (λEI=> ?_) (λEI=> ?_)))))
       ·replace hh:=gZ EI hh
        replace EI:=jg EI
        refine Ψ z (gu (.inl z) z) (Ψ z (dw (.inl z) z) ?_)
        obtain ⟨u158,hh⟩:=aP hh
        refine TL.know (nX (q:=1) z lK) (λ⟨hs290,hs290b⟩=> ?_)
        refine Ψ z (OpVal.index z underlying125 Js z z hs290 u158.1 u158.2) ?_
        obtain ⟨p291,JK,KO⟩:=Zn.at lK (i:=(nth (nth x0.next iQ []) mF 0).toNat) (by omega)
        refine Ψ z (Dt z qV z (q:=1) z JK KO) (Ψ z (dw (.inl z) z) ?_)
        obtain ⟨u161,hh⟩:=aP hh
        refine TL.know (is_ (q:=1) z JK KO) (λ⟨hs292,hs292b⟩=> ?_)
        refine Ψ z (OpVal.index z gI gQ z z hs292 u161.1 u161.2) (Ψ z (OpVal.seen (iq_ (q:=1) z JK KO) (og false z nG z (q:=0) z jc (by omega) z)) (ω z (dS z z z) (ε (TC.cB z hh (λh293 hh=> ?_) (λh293 hh=> ?_)))))
        ·refine ψ (Φ z z (ξ z z ?_))
         obtain ⟨u166,hh⟩:=aP hh
         refine TL.know (nX (q:=1) z lK) (λ⟨hs294,hs294b⟩=> ?_)
         refine ω z (bU z underlying125 Js z z hs294 (by omega)) ?_
         obtain ⟨p295,FP,GN⟩:=Zn.at lK (i:=iQ) (by omega)
         refine ω z (Dt z qV z (q:=1) z FP GN) (Φ z z (ε (ψ (Φ z z (ξ z z ?_)))))
         obtain ⟨u171,hh⟩:=aP hh
         refine TL.know (is_ (q:=1) z FP GN) (λ⟨hs296,hs296b⟩=> ?_)
         refine ω z (bU z gI gQ z z hs296 (by omega)) (θ 1 z z (TL.by (λw h=>Reach.takeN FP GN h) ?_))
         have hn299:(jX.set iQ ((nth jX iQ []).set gq true)).length=dD.length:=(gy ..).trans xu
         refine ν z (lG true z gQ z z z z jc qZ (by decide) (by omega) ?_)
         refine TL.by (λw h=>Reach.putN FP GN (by rw [gy]) h) ?_
         have zf298:=Zn.set lK iQ ((nth jX iQ []).set gq true) p295
         refine ε (η (TL.j z z (TL.nil (B.n (S.n (η (ξ z z (ω z (OpVal.succ z z z (by omega)) (ξ z z (ε ?_))))))))))
         obtain ⟨hh,Xi⟩:=dO hR4 hh
         exact lf (((jX.set iQ ((nth jX iQ []).set gq true)),true,(mF+1)),(He.set iQ (((nth jX iQ []).set gq true),p295))) Xi ⟨hh,hn299,zf298⟩ (Θ [1] 2)
        refine ι (B.n (S.n (η (ξ z z (ω z (OpVal.succ z z z (by omega)) (ξ z z (ε ?_)))))))
        obtain ⟨hh,Xh⟩:=dO hR4 hh
        exact lf ((jX,wO,(mF+1)),He) Xh ⟨hh,xu,lK⟩ (Θ [1,1] 2)
       replace hh:=gY EI hh
       replace EI:=jo EI
       refine π z (π z (π z (π z (π z (π z (π z (ω z (dV z z z) (ε (TC.f z (ι (B.n (S.n (η (ξ z z (ω z (OpVal.succ z z z (by omega)) ?_)))))))))))))))
       refine ξ z z (ε ?_)
       obtain ⟨hh,Xg⟩:=dO hR4 hh
       exact lf ((jX,wO,(mF+1)),He) Xg ⟨hh,xu,lK⟩ (Θ [1,1] 2)
      replace hh:=gY EJ hh
      replace EJ:=jo EJ
      refine π z (π z (ω z (dV z z z) (TL.j z z (π z (π z (π z (π z (π z (π z (π z (ω z (dV z z z) (ε (TC.f z (ι (B.n ?_)))))))))))))))
      refine S.n (η (ξ z z (ω z (OpVal.succ z z z (by omega)) (ξ z z (ε ?_)))))
      obtain ⟨hh,Xf⟩:=dO hR4 hh
      exact lf ((jX,wO,(mF+1)),He) Xf ⟨hh,xu,lK⟩ (Θ [1,1] 2)
     refine TC.exit (S.x (S.x ?_))
     replace hh:=dG hR4 hh
     refine Δ (B.n (S.n (η (ξ z z (ω z (OpVal.succ z z z (by omega)) (ξ z z (ε ?_)))))))
     obtain ⟨hh,Xe⟩:=dO Ag hh
     exact lf ((jX,wO,(gq+1)),He) Xe ⟨hh,xu,lK⟩ (Θ [1,1] 2)
    replace hh:=gY Ah hh
    replace Ah:=jo Ah
    refine π z (π z (π z (π z (π z (π z (π z (π z (ω z (dV z z z) (ε (TC.f z (TC.exit (S.x (S.x ?_)))))))))))))
    replace hh:=dG hR4 hh
    refine Δ (B.n (S.n (η (ξ z z (ω z (OpVal.succ z z z (by omega)) (ξ z z (ε ?_)))))))
    obtain ⟨hh,Xd⟩:=dO Ag hh
    exact lf ((jX,wO,(gq+1)),He) Xd ⟨hh,xu,lK⟩ (Θ [1,1] 2)
   refine TC.exit (S.x (S.x ?_))
   replace hh:=dG Ag hh
   refine Δ (B.n (S.n (η (ξ z z (ω z (OpVal.succ z z z (by omega)) (ξ z z (ε ?_)))))))
   obtain ⟨hh,Xc⟩:=dO hR2 hh
   exact lf ((JF,Jt,(iQ+1)),z254) Xc ⟨hh,qW,lM⟩ (Θ [1,1] 2)
  refine TC.exit (S.x (S.x ?_))
  replace hh:=dG hR2 hh
  refine Δ (B.n (S.n ?_))
  obtain ⟨hh,Xb⟩:=dO hR1 hh
  exact lf ((kN,t234),z232) Xb ⟨hh,oO,jB⟩ (Θ [1,1] 2)
 refine TC.exit (S.x (S.x ?_))
 replace hh:=dG hR1 hh
 refine Δ (S.n (ψ (Φ z z (Φ z z (ε ?_)))))
 rw [<-Ky]
 refine TC.front 1 z z (TC.ci_ (λw h=>Reach.bg_ jc oL h) (λτ310 hle309 TV=> ?_))
 have hr308b:=TV.big
 refine TC.rt 0 ?_
 obtain rfl:=so hh
 exact rq [2] ⟨a119,qL,z,TV,z⟩
def Ri(aW:Nat)(v25:(List B_1))(aO:ak)(DY:Int)(wV:Int):Option ((Int×Int)⊕((ak×Nat)⊕(Seq×Int))):=
 aN (decide (0<=wV)) (grd (aW<v25.length) (grd (0<=wV/\wV<((nth v25 aW []).length:Int)) (aN (!(nth (nth v25 aW []) wV.toNat false)) (nxt (wV,(IntKind.i64.wrap (wV - 1)))) (nxt (DY,(IntKind.i64.wrap (wV - 1))))))) (fin (grd ((aO.length+[DY].length) * 8<=140737488355328) (nxt ((aO++[DY]),(aW+1)))))
def yV(nP:ak)(aO:ak)(v5:Seq×Int)(eX:ak)(fA:Nat)(iw:Nat)(kU:ak)(vS:Nat)(zV:Nat):Option ((Nat×Nat)⊕((ak×ak×Nat)⊕((bZ×fO×B_1×aC×ak×Nat)⊕(Seq×Int)))):=
 aN (decide ((zV:Int)<((nP.length:Nat):Int))) (aN (decide ((nth nP zV 0)=(nth aO ((nth (nth v5.1.next ((nth eX fA 0).toNat) []) iw 0).toNat) 0))) (nxt (zV,(zV+1))) (nxt (vS,(zV+1)))) (fin (aN (decide ((vS:Int)=((nP.length:Nat):Int))) (grd ((nP.length+[(nth aO ((nth (nth v5.1.next ((nth eX fA 0).toNat) []) iw 0).toNat) 0)].length) * 8<=140737488355328) (grd (iw<(kU.set iw (-1)).length) (nxt ((nP++[(nth aO ((nth (nth v5.1.next ((nth eX fA 0).toNat) []) iw 0).toNat) 0)]),((kU.set iw (-1)).set iw (vS:Int)),(iw+1))))) (grd (iw<(kU.set iw (-1)).length) (nxt (nP,((kU.set iw (-1)).set iw (vS:Int)),(iw+1))))))
def NS(eX:ak)(fA:Nat)(v5:Seq×Int)(aO:ak)(jH:bZ)(mD:fO)(nR:B_1)(uz:aC)(nP:ak)(kU:ak)(iw:Nat):Option ((ak×ak×Nat)⊕((bZ×fO×B_1×aC×ak×Nat)⊕(Seq×Int))):=
 aN (decide ((iw:Int)<256)) (grd (iw<kU.length) (grd (0<=(nth eX fA 0)/\(nth eX fA 0)<(v5.1.next.length:Int)) (grd (iw<(nth v5.1.next ((nth eX fA 0).toNat) []).length) (aN (decide ((nth (nth v5.1.next ((nth eX fA 0).toNat) []) iw 0)<0)) (nxt (nP,(kU.set iw (-1)),(iw+1))) (grd (0<=(nth eX fA 0)/\(nth eX fA 0)<(v5.1.next.length:Int)) (grd (iw<(nth v5.1.next ((nth eX fA 0).toNat) []).length) (grd (0<=(nth (nth v5.1.next ((nth eX fA 0).toNat) []) iw 0)/\(nth (nth v5.1.next ((nth eX fA 0).toNat) []) iw 0)<(aO.length:Int)) (bC (λq:Nat×Nat=>yV nP aO v5 eX fA iw kU q.1 q.2) (nP.length,0))))))))) (fin (grd ((jH.length+[kU].length) * 24<=140737488355328) (grd (0<=(nth eX fA 0)/\(nth eX fA 0)<(v5.1.outs.length:Int)) (grd ((mD.length+[(nth v5.1.outs ((nth eX fA 0).toNat) [])].length) * 24<=140737488355328) (grd (0<=(nth eX fA 0)/\(nth eX fA 0)<(v5.1.fin.length:Int)) (grd ((nR.length+[(nth v5.1.fin ((nth eX fA 0).toNat) false)].length) * 1<=140737488355328) (grd (0<=(nth eX fA 0)/\(nth eX fA 0)<(v5.1.tail.length:Int)) (grd ((uz.length+[(nth v5.1.tail ((nth eX fA 0).toNat) [])].length) * 16<=140737488355328) (nxt ((jH++[kU]),(mD++[(nth v5.1.outs ((nth eX fA 0).toNat) [])]),(nR++[(nth v5.1.fin ((nth eX fA 0).toNat) false)]),(uz++[(nth v5.1.tail ((nth eX fA 0).toNat) [])]),nP,(fA+1)))))))))))
def Vq(v5:Seq×Int)(aO:ak)(jH:bZ)(mD:fO)(nR:B_1)(uz:aC)(eX:ak)(fA:Nat):Option ((bZ×fO×B_1×aC×ak×Nat)⊕(Seq×Int)):=
 aN (decide ((fA:Int)<((eX.length:Nat):Int))) (bC (λq:ak×ak×Nat=>NS eX fA v5 aO jH mD nR uz q.1 q.2.1 q.2.2) (eX,(replicate 256 (0:Int)),0)) (fin (some ((⟨v5.1.front,jH,mD,nR,uz⟩:Seq),0)))
def NV(v5:Seq×Int)(v25:(List B_1))(aO:ak)(aW:Nat):Option ((ak×Nat)⊕(Seq×Int)):=
 aN (decide ((aW:Int)<((v5.1.next.length:Nat):Int))) (bC (λq:Int×Int=>Ri aW v25 aO q.1 q.2) ((aW:Int),(aW:Int))) (fin (grd (0<aO.length) (bC (λq:bZ×fO×B_1×aC×ak×Nat=>Vq v5 aO q.1 q.2.1 q.2.2.1 q.2.2.2.1 q.2.2.2.2.1 q.2.2.2.2.2) (([]:bZ),([]:fO),([]:B_1),([]:aC),[(nth aO 0 0)],0))))
def ZH(x0:Seq):Option (Seq×Int):=
 bnd (ZT x0) (λv5=>aN (decide (v5.2≠0)) (some (v5.1,v5.2)) (aN (decide (((v5.1.next.length:Nat):Int)=0)) (some (v5.1,v5.2)) (bnd (C5_ v5.1) (λv25=>bC (λq:ak×Nat=>NV v5 v25 q.1 q.2) (([]:ak),0)))))
def Hg_(σ:aj)(r:Seq×Int):Value->aj->List Res->Prop:=λv σ' H'=>
 ∃a1 c1 a2 c2 a3 c3 a4 c4,v= .tuple #[.agg (oI r.1 a1 c1 a2 c2 a3 c3 a4 c4),.int .i64 r.2]/\RZ σ' (aB 1 aG bn) (.slice a1 r.1.next.length c1) r.1.next/\RZ σ' (aB 1 aJ bF) (.slice a2 r.1.outs.length c2) r.1.outs/\dA σ' eq_ a3 c3 r.1.fin/\dA σ' aJ a4 c4 r.1.tail/\H'=[]
theorem Fl_{σ:aj}{x0:Seq}(au:RZ σ (aB 1 aG bn) (.slice aI x0.next.length aH) x0.next)(aY:RZ σ (aB 1 aJ bF) (.slice aA x0.outs.length aX) x0.outs)(aV:dA σ eq_ aU ay x0.fin)(aQ:dA σ aJ bJ bD x0.tail){r:Seq×Int}(hh:ZH x0=some r):
  Con prog 37 #[.agg (oI x0 aI aH aA aX aU ay bJ bD)] σ [] (Hg_ σ r):=by
 dsimp only [ZH]at hh
 have f0_0b:=au.big
 have f0_1b:=aY.big
 have f0_2b:=aV.rv.big
 have f0_3b:=aQ.rv.big
 refine Con.mk (n:=172) Tryz.func37 z z z (λw0=> ?_)
 refine ψ (ν z (boxA z z z z (λbG=> ?_)))
 refine ν z (OpOk.alloc z if_ z z (λd_=> ?_))
 refine ξ z z (ε (ψ (ω z (kG z ji fE z (i:=1) z z) ?_)))
 obtain ⟨v5,u5,hh⟩:=dM hh
 refine ν z (OpOk.call (Gs_ (x0:=x0) au aY aV aQ u5) z z pf36 z z z z ?_)
 rintro _ τ105 _ oD ⟨a105_1,c105_1,a105_2,c105_2,a105_3,c105_3,a105_4,c105_4,rfl,hr105_0,hr105_1,hr105_2,hr105_3,rfl⟩
 have hr105_0b:=hr105_0.big
 have hr105_1b:=hr105_1.big
 have hr105_2b:=hr105_2.rv.big
 have hr105_3b:=hr105_3.rv.big
 refine ω z (wC (.inl z) z) (ω z (OpVal.extract z z z) (ω z (OpVal.extract z z z) (ν z (OpOk.alloc z if_ z z (λyA=> ?_)))))
 refine ν z (storeAll z fE z z z z z z ?_)
 refine ξ z z (ε (ζ (ψ (ξ z z (ω z (OpVal.neq z z z) (TL.j z z (TL.split 27 z (λdU=> ?_) (λdU=> ?_))))))))
 ·replace hh:=gZ dU hh
  replace dU:=jg dU
  refine π z (π z (π z (π z (ω z (dS z z z) (ε (TC.t z (ψ (ω z (kG z ji fE z (i:=0) z z) (ξ z z (θ 1 z z (ν z (storeAll z fE z z z z z z ?_))))))))))))
  refine ξ z z (ε (TC.rt 1 (S.r ?_)))
  obtain rfl:=so hh
  exact ro [] z (RVs.agg ji fE z (i:=0) z z (RVs.tmp z RVs.nil)) ⟨a105_1,c105_1,a105_2,c105_2,a105_3,c105_3,a105_4,c105_4,z,hr105_0,hr105_1,hr105_2,hr105_3,z⟩
 replace hh:=gY dU hh
 replace dU:=jo dU
 refine Ψ z (aS z kS z) (Ψ z (aZ z jT z (i:=0) z z) (Ψ z (lenC z eU z) (Ψ z (OpVal.eql z z z) (ω z (dV z z z) (ε (TC.cD z hh (λl9 hh=> ?_) (λl9 hh=> ?_)))))))
 ·refine ψ (ω z (kG z ji fE z (i:=0) z z) (ξ z z (θ 1 z z (ν z (storeAll z fE z z z z z z ?_)))))
  refine ξ z z (ε (TC.rt 1 (S.r ?_)))
  obtain rfl:=so hh
  exact ro [] z (RVs.agg ji fE z (i:=0) z z (RVs.tmp z RVs.nil)) ⟨a105_1,c105_1,a105_2,c105_2,a105_3,c105_3,a105_4,c105_4,z,hr105_0,hr105_1,hr105_2,hr105_3,z⟩
 refine ι (S.n (ψ (ω z (kG z ji fE z (i:=0) z z) ?_)))
 obtain ⟨v25,u25,hh⟩:=dM hh
 refine ν z (OpOk.call (Go_ (x0:=v5.1) hr105_0 hr105_1 hr105_2 hr105_3 u25) z z pf75 z z z z ?_)
 rintro _ τ110 _ oC ⟨a110_1,c110_1,rfl,hr110_0,rfl⟩
 replace hr105_0:=hr105_0.mono oC
 replace hr105_1:=hr105_1.mono oC
 replace hr105_2:=hr105_2.mono oC
 replace hr105_3:=hr105_3.mono oC
 have hr110_0b:=hr110_0.big
 refine Φ z z (ε (ψ (Φ z z (ε (ζ (ψ (ξ z z (ε (υ (TC.nilS 3 1 aG (TC.ig (α:=(ak×Nat)×((Option Addr)×Nat)) (rgs [(7,4),(37,26)]) (λg=>[(7,.slice g.2.1 g.1.1.length g.2.2),(8,.int .i64 ((g.1.2:Nat):Int))]) (λg=>[κ d_ #[.string (bs ([]:T_1)),bT,bT,bT,bT] 32,jl yA v5.1 a105_1 c105_1 a105_2 c105_2 a105_3 c105_3 a105_4 c105_4,φ 3 1 aG (.slice g.2.1 g.1.1.length g.2.2) g.1.1]) (λg=>τ110) (λg=>bC (λq:ak×Nat=>NV v5 v25 q.1 q.2) g.1=some r) (λg=>f_ (λq:ak×Nat=>NV v5 v25 q.1 q.2) g.1) ((([]:ak),0),(none,0)) (Θ [1,2] 3) z (by repeat (first|exact trivial|refine ⟨z,?_⟩)) hh (λg1 j1 hg1=> ?_))))))))))))
 obtain ⟨⟨aO,aW⟩,⟨Qj,c124⟩⟩:=g1
 have hh:=hg1;clear hg1
 try dsimp only
 obtain ⟨z1,hh,hR1⟩:=gJ hh
 dsimp only [NV]at hh
 refine χ (i:=2) z (λ_ G5 _=> ?_)
 refine ζ (ψ (ξ z z (ω z (aS z kS z) (ω z (aZ z jT z (i:=1) z z) (ω z (lenC z eU z) (ω z (OpVal.lss z z z) (ε (TC.cD z hh (λh128 hh=> ?_) (λh128 hh=> ?_)))))))))
 ·refine ι (S.n (ζ (υ (ψ (ξ z z (ξ z z (ε (ζ (ψ (ξ z z (ξ z z (ε (υ (TC.ig (α:=(Int×Int)×(Unit)) (rgs [(9,2),(46,13)]) (λg=>[(9,.int .i64 g.1.1),(10,.int .i64 g.1.2)]) (λg=>[κ d_ #[.string (bs ([]:T_1)),bT,bT,bT,bT] 32,jl yA v5.1 a105_1 c105_1 a105_2 c105_2 a105_3 c105_3 a105_4 c105_4,dW 3 aG Qj c124 aO]) (λg=>τ110) (λg=>bC (λq:Int×Int=>Ri aW v25 aO q.1 q.2) g.1=some z1) (λg=>f_ (λq:Int×Int=>Ri aW v25 aO q.1 q.2) g.1) (((aW:Int),(aW:Int)),()) (Θ [2,2,2] 3) z (by repeat (first|exact trivial|refine ⟨z,?_⟩)) hh (λg2 j2 hg2=> ?_)))))))))))))))
  obtain ⟨⟨DY,wV⟩,_⟩:=g2
  have hh:=hg2;clear hg2
  try dsimp only
  obtain ⟨z2,hh,hR2⟩:=gJ hh
  dsimp only [Ri]at hh
  refine χ (i:=2) z (λ_ U7 _=> ?_)
  refine ζ (ψ (ξ z z (ω z (OpVal.geq z z z) (ε (TC.cD z hh (λqx hh=> ?_) (λqx hh=> ?_))))))
  ·refine ι (S.n (ζ (υ (ψ (Φ z z (ξ z z ?_))))))
   obtain ⟨u42,hh⟩:=aP hh
   refine ω z (bU z underlying125 Js z z hr110_0.isSl (by omega)) ?_
   obtain ⟨zK,qo,Ll⟩:=RZ.seg hr110_0 aW (by omega)
   replace qo:dA _ eq_ zK.1 zK.2 (nth v25 aW []):=qo
   have hk139b:=qo.rv.big
   refine ω z (OpVal.of (kZ z qV z Ll z) (v':= .slice zK.1 ((nth v25 aW []).length) zK.2) z) (ξ z z ?_)
   obtain ⟨u45,hh⟩:=aP hh
   refine ω z (OpVal.index z gI gQ z z qo.rv.sl u45.1 u45.2) (ω z (fF false z nG z qo (by omega) z) (ω z (OpVal.not z z) (ε (TC.cB z hh (λuP hh=> ?_) (λuP hh=> ?_)))))
   ·refine η (ξ z z (ξ z z (TL.nil (B.n (S.n (η (ξ z z (ω z (subW z z z) (ξ z z (ε ?_))))))))))
    obtain ⟨hh,X0⟩:=dO hR2 hh
    exact lf ((wV,(IntKind.i64.wrap (wV - 1))),()) X0 hh (Θ [2,2,2] 3)
   refine ι (B.n (S.n (η (ξ z z (ω z (subW z z z) (ξ z z (ε ?_)))))))
   obtain ⟨hh,Ee⟩:=dO hR2 hh
   exact lf ((DY,(IntKind.i64.wrap (wV - 1))),()) Ee hh (Θ [2,2,2] 3)
  refine TC.exit (S.x (S.x ?_))
  replace hh:=dG hR2 hh
  refine Δ (S.n (η (Φ z z (ξ z z (ν z (OpOk.lit (enc:=aG) [DY] z b_ dB lu z z z bn (by decide) (by decide) (0:Int) z (by decide) z (by decide) jS (λa143 c144=> ?_)))))))
  refine θ 3 z z ?_
  obtain ⟨u56,hh⟩:=aP hh
  refine ν z (as_ z z b_ dB uV lu z z (by decide) z z z (.inr ⟨_,0,z⟩) (by simpa using u56) (by decide) (λa146 Y1=> ?_))
  refine Φ z z (TL.nil (B.n (S.n (η (ξ z z (ω z (OpVal.succ z z z (by omega)) (ξ z z (ε ?_))))))))
  obtain ⟨hh,XY⟩:=dO hR1 hh
  exact lf (((aO++[DY]),(aW+1)),(a146,Y1)) XY hh (Θ [3,3] 3)
 refine TC.exit (S.x (S.x ?_))
 replace hh:=dG hR1 hh
 refine Δ (S.n (ψ (ω z (aS z DL z) (ω z (aZ z iG z (i:=1) z z) (ω z (nD z wP if_ z) (ν z (OpOk.alloc z if_ z z (λZb=> ?_))))))))
 refine ν z (storeAll z fE z z z z z z ?_)
 refine ε (ψ (Φ z z ?_))
 obtain ⟨u67,hh⟩:=aP hh
 refine TL.isSl (i:=3) z (λJY _ _=> ?_)
 refine ω z (bU (i:=0) z b_ dB z z JY (by omega)) (ω z (og (0:Int) z fJ z (q:=3) z bn (by omega) z) (ν z (OpOk.lit (enc:=aG) [(nth aO 0 0)] z b_ dB lu z z z bn (by decide) (by decide) (0:Int) z (by decide) z (by decide) jS (λa152 yt=> ?_))))
 refine Φ z z (ε (ζ (ψ (ξ z z (ε (υ (TC.nilS 86 1 (aB 1 aG bn).en ?_)))))))
 have zf227:=ZOk.nil τ110 (aB 1 aG bn)
 refine TC.nilS 30 1 (aB 1 aJ bF).en ?_
 have uZ:=ZOk.nil τ110 (aB 1 aJ bF)
 refine TC.nilS 4 1 eq_ (TC.nilS 9 1 aJ (TC.ig (α:=(bZ×fO×B_1×aC×ak×Nat)×((Option Addr)×Nat×(List (ak×(aB 1 aG bn).P))×(Option Addr)×Nat×(List (aC×(aB 1 aJ bF).P))×(Option Addr)×Nat×(Option Addr)×Nat×(Option Addr)×Nat×aj)) (rgs [(12,8),(70,101)]) (λg=>[(12,.slice g.2.2.2.2.2.2.2.2.2.2.2.1 g.1.2.2.2.2.1.length g.2.2.2.2.2.2.2.2.2.2.2.2.1),(13,.int .i64 ((g.1.2.2.2.2.2:Nat):Int))]) (λg=>[κ d_ #[.string (bs ([]:T_1)),bT,bT,bT,bT] 32,jl yA v5.1 a105_1 c105_1 a105_2 c105_2 a105_3 c105_3 a105_4 c105_4,dW 3 aG Qj c124 aO,κ Zb #[.string (bs v5.1.front),.slice g.2.1 g.1.1.length g.2.2.1,.slice g.2.2.2.2.1 g.1.2.1.length g.2.2.2.2.2.1,.slice g.2.2.2.2.2.2.2.1 g.1.2.2.1.length g.2.2.2.2.2.2.2.2.1,.slice g.2.2.2.2.2.2.2.2.2.1 g.1.2.2.2.1.length g.2.2.2.2.2.2.2.2.2.2.1] 32,φ 86 1 (aB 1 aG bn).en (.slice g.2.1 g.1.1.length g.2.2.1) g.2.2.2.1,φ 30 1 (aB 1 aJ bF).en (.slice g.2.2.2.2.1 g.1.2.1.length g.2.2.2.2.2.1) g.2.2.2.2.2.2.1,φ 4 1 eq_ (.slice g.2.2.2.2.2.2.2.1 g.1.2.2.1.length g.2.2.2.2.2.2.2.2.1) g.1.2.2.1,φ 9 1 aJ (.slice g.2.2.2.2.2.2.2.2.2.1 g.1.2.2.2.1.length g.2.2.2.2.2.2.2.2.2.2.1) g.1.2.2.2.1,φ 3 1 aG (.slice g.2.2.2.2.2.2.2.2.2.2.2.1 g.1.2.2.2.2.1.length g.2.2.2.2.2.2.2.2.2.2.2.2.1) g.1.2.2.2.2.1]) (λg=>g.2.2.2.2.2.2.2.2.2.2.2.2.2) (λg=>bC (λq:bZ×fO×B_1×aC×ak×Nat=>Vq v5 aO q.1 q.2.1 q.2.2.1 q.2.2.2.1 q.2.2.2.2.1 q.2.2.2.2.2) g.1=some r/\ZOk g.2.2.2.2.2.2.2.2.2.2.2.2.2 (aB 1 aG bn) g.2.2.2.1 g.1.1/\ZOk g.2.2.2.2.2.2.2.2.2.2.2.2.2 (aB 1 aJ bF) g.2.2.2.2.2.2.1 g.1.2.1/\aj.le τ110 g.2.2.2.2.2.2.2.2.2.2.2.2.2) (λg=>f_ (λq:bZ×fO×B_1×aC×ak×Nat=>Vq v5 aO q.1 q.2.1 q.2.2.1 q.2.2.2.1 q.2.2.2.2.1 q.2.2.2.2.2) g.1) ((([]:bZ),([]:fO),([]:B_1),([]:aC),[(nth aO 0 0)],0),(none,0,[],none,0,[],none,0,none,0,a152,yt,τ110)) (Θ [4,1,2,3,4,5,8,8,8] 9) z (by repeat (first|exact trivial|refine ⟨z,?_⟩)) ⟨hh,zf227,uZ,(aj.le.refl _)⟩ (λg3 j3 hg3=> ?_)))
 obtain ⟨⟨jH,mD,nR,uz,eX,fA⟩,⟨yS,c206,Jf,yB,c212,z213,tY,c218,MO,c222,a224,c225,τ233⟩⟩:=g3
 obtain ⟨hh,oM,jd,rH⟩:=hg3
 try dsimp only at oM
 try dsimp only at jd
 dsimp only at rH
 replace hr105_0:=hr105_0.mono rH
 replace hr105_1:=hr105_1.mono rH
 replace hr105_2:=hr105_2.mono rH
 replace hr105_3:=hr105_3.mono rH
 try dsimp only
 obtain ⟨z1,hh,hR1⟩:=gJ hh
 dsimp only [Vq]at hh
 have zf208b:=oM.length
 have zf214b:=jd.length
 refine χ (i:=2) z (λ_ UW _=> ?_)
 refine χ (i:=4) z (λ_ GZ _=> ?_)
 refine χ (i:=5) z (λ_ UU _=> ?_)
 refine χ (i:=6) z (λ_ UR _=> ?_)
 refine χ (i:=7) z (λ_ UQ _=> ?_)
 refine χ (i:=8) z (λ_ hb240 _=> ?_)
 refine ζ (ψ (ξ z z (Φ z z (ω z (lenC z b_ z) (ω z (OpVal.lss z z z) (ε (TC.cD z hh (λh241 hh=> ?_) (λh241 hh=> ?_))))))))
 ·refine ι (S.n (ζ (υ (ψ (Φ z z (ξ z z (TL.isSl (i:=8) z (λhs242 _ _=> ?_))))))))
  refine ω z (bU z b_ dB z z hs242 (by omega)) (ω z (og (0:Int) z fJ z (q:=8) z bn (by omega) z) (ξ z z (ε (ψ (ν z (pz (m:=256) (enc:=aG) (0:Int) z b_ dB uV lu z z z z (by omega) (by decide) bn (by decide) z jS (λQg PV=> ?_)))))))
  refine Φ z z (ε (ζ (ψ (ξ z z (ε (υ (TC.ig (α:=(ak×ak×Nat)×((Option Addr)×Nat×aj)) (rgs [(12,1),(16,4),(81,54)]) (λg=>[(12,.slice g.2.1 g.1.1.length g.2.2.1),(16,.int .i64 ((g.1.2.2:Nat):Int))]) (λg=>[κ d_ #[.string (bs ([]:T_1)),bT,bT,bT,bT] 32,jl yA v5.1 a105_1 c105_1 a105_2 c105_2 a105_3 c105_3 a105_4 c105_4,dW 3 aG Qj c124 aO,κ Zb #[.string (bs v5.1.front),.slice yS jH.length c206,.slice yB mD.length c212,.slice tY nR.length c218,.slice MO uz.length c222] 32,φ 86 1 (aB 1 aG bn).en (.slice yS jH.length c206) Jf,φ 30 1 (aB 1 aJ bF).en (.slice yB mD.length c212) z213,dW 4 eq_ tY c218 nR,dW 9 aJ MO c222 uz,φ 3 1 aG (.slice g.2.1 g.1.1.length g.2.2.1) g.1.1,φ 3 1 aG (.slice Qg (replicate 256 (0:Int)).length PV) g.1.2.1]) (λg=>g.2.2.2) (λg=>bC (λq:ak×ak×Nat=>NS eX fA v5 aO jH mD nR uz q.1 q.2.1 q.2.2) g.1=some z1/\ZOk g.2.2.2 (aB 1 aG bn) Jf jH/\ZOk g.2.2.2 (aB 1 aJ bF) z213 mD/\g.1.2.1.length=(replicate 256 (0:Int)).length/\aj.le τ233 g.2.2.2) (λg=>f_ (λq:ak×ak×Nat=>NS eX fA v5 aO jH mD nR uz q.1 q.2.1 q.2.2) g.1) ((eX,(replicate 256 (0:Int)),0),(a224,c225,τ233)) (Θ [9,9,9,9,9,9,9,9,9] 10) z (by repeat (first|exact trivial|refine ⟨z,?_⟩)) ⟨hh,oM,jd,z,(aj.le.refl _)⟩ (λg4 j4 hg4=> ?_))))))))
  obtain ⟨⟨nP,kU,iw⟩,⟨Ip,Ic,τ272⟩⟩:=g4
  obtain ⟨hh,sK,sJ,BP,lV⟩:=hg4
  try dsimp only at sK
  try dsimp only at sJ
  try dsimp only at BP
  dsimp only at lV
  replace hr105_0:=hr105_0.mono lV
  replace hr105_1:=hr105_1.mono lV
  replace hr105_2:=hr105_2.mono lV
  replace hr105_3:=hr105_3.mono lV
  replace oM:=oM.mono lV
  replace jd:=jd.mono lV
  try dsimp only
  obtain ⟨z2,hh,hR2⟩:=gJ hh
  dsimp only [NS]at hh
  have zf264b:=sK.length
  have zf265b:=sJ.length
  refine χ (i:=2) z (λ_ hb274 _=> ?_)
  refine χ (i:=4) z (λ_ hb275 _=> ?_)
  refine χ (i:=5) z (λ_ hb276 _=> ?_)
  refine χ (i:=6) z (λ_ hb277 _=> ?_)
  refine χ (i:=7) z (λ_ hb278 _=> ?_)
  refine χ (i:=8) z (λ_ hb279 _=> ?_)
  refine χ (i:=9) z (λ_ hb280 _=> ?_)
  refine ζ (ψ (ξ z z (ω z (OpVal.lss z z z) (ε (TC.cD z hh (λAh hh=> ?_) (λAh hh=> ?_))))))
  ·refine ι (S.n (ζ (υ (ψ (Φ z z (ξ z z ?_))))))
   obtain ⟨u88,hh⟩:=aP hh
   refine TL.isSl (i:=9) z (λJQ _ _=> ?_)
   refine ω z (bU z b_ dB z z JQ (by omega)) (θ 9 z z ?_)
   have Uw:(kU.set iw (-1)).length=(replicate 256 (0:Int)).length:=by rw [gy];exact BP
   refine ν z (lG (-1) z dB z z z z bn jS (by omega) (by omega) ?_)
   refine ε (ζ (ψ (ω z (aS z kS z) (ω z (aZ z jT z (i:=2) z z) (ξ z z ?_)))))
   obtain ⟨u93,hh⟩:=aP hh
   refine ω z (OpVal.index z eU fZ z z hr105_0.isSl u93.1 u93.2) ?_
   obtain ⟨OE,CG,hg284⟩:=RZ.seg hr105_0 ((nth eX fA 0).toNat) (by omega)
   replace CG:dA _ aG OE.1 OE.2 (nth v5.1.next ((nth eX fA 0).toNat) []):=CG
   have hk284b:=CG.rv.big
   refine ω z (OpVal.of (kZ z hs_ z hg284 z) (v':= .slice OE.1 ((nth v5.1.next ((nth eX fA 0).toNat) []).length) OE.2) z) (ξ z z ?_)
   obtain ⟨u96,hh⟩:=aP hh
   refine ω z (bU z b_ dB z z CG.rv.sl (by omega)) (ω z (fF (0:Int) z fJ z CG (by omega) z) (ω z (OpVal.lss z z z) (ε (TC.cD z hh (λYz hh=> ?_) (λYz hh=> ?_)))))
   ·refine TC.exit (S.x (Δ (S.n (η (ξ z z (ω z (OpVal.succ z z z (by omega)) (ξ z z (ε ?_))))))))
    obtain ⟨hh,DZ⟩:=dO hR2 hh
    exact lf ((nP,(kU.set iw (-1)),(iw+1)),(Ip,Ic,τ272)) DZ ⟨hh,sK,sJ,Uw,lV⟩ (Θ [9,9,9,9,9,9,9,9,9] 10)
   refine ι (S.n (ψ (Φ z z (ω z (aS z kS z) (ω z (aZ z jT z (i:=2) z z) (ξ z z ?_))))))
   obtain ⟨u103,hh⟩:=aP hh
   refine ω z (OpVal.index z eU fZ z z hr105_0.isSl u103.1 u103.2) ?_
   obtain ⟨zJ,qm,Lh⟩:=RZ.seg hr105_0 ((nth eX fA 0).toNat) (by omega)
   replace qm:dA _ aG zJ.1 zJ.2 (nth v5.1.next ((nth eX fA 0).toNat) []):=qm
   have hk287b:=qm.rv.big
   refine ω z (OpVal.of (kZ z hs_ z Lh z) (v':= .slice zJ.1 ((nth v5.1.next ((nth eX fA 0).toNat) []).length) zJ.2) z) (ξ z z ?_)
   obtain ⟨Om,hh⟩:=aP hh
   refine ω z (bU z b_ dB z z qm.rv.sl (by omega)) (ω z (fF (0:Int) z fJ z qm (by omega) z) ?_)
   obtain ⟨u108,hh⟩:=aP hh
   refine TL.isSl (i:=3) z (λhs288 _ _=> ?_)
   refine ω z (OpVal.index z b_ dB z z hs288 u108.1 u108.2) (ω z (og (0:Int) z fJ z (q:=3) z bn (by omega) z) (ξ z z (ε (ψ (Φ z z (ω z (lenC z b_ z) (ξ z z (ε (ζ (ψ (ξ z z (ε (υ (TC.ig (α:=(Nat×Nat)×(aj)) (rgs [(18,2),(110,13)]) (λg=>[(18,.int .i64 ((g.1.1:Nat):Int)),(19,.int .i64 ((g.1.2:Nat):Int))]) (λg=>[κ d_ #[.string (bs ([]:T_1)),bT,bT,bT,bT] 32,jl yA v5.1 a105_1 c105_1 a105_2 c105_2 a105_3 c105_3 a105_4 c105_4,dW 3 aG Qj c124 aO,κ Zb #[.string (bs v5.1.front),.slice yS jH.length c206,.slice yB mD.length c212,.slice tY nR.length c218,.slice MO uz.length c222] 32,φ 86 1 (aB 1 aG bn).en (.slice yS jH.length c206) Jf,φ 30 1 (aB 1 aJ bF).en (.slice yB mD.length c212) z213,dW 4 eq_ tY c218 nR,dW 9 aJ MO c222 uz,dW 3 aG Ip Ic nP,φ 3 1 aG (.slice Qg (replicate 256 (0:Int)).length PV) (kU.set iw (-1))]) (λg=>g.2) (λg=>bC (λq:Nat×Nat=>yV nP aO v5 eX fA iw kU q.1 q.2) g.1=some z2/\ZOk g.2 (aB 1 aG bn) Jf jH/\ZOk g.2 (aB 1 aJ bF) z213 mD/\(kU.set iw (-1)).length=(replicate 256 (0:Int)).length/\aj.le τ272 g.2) (λg=>f_ (λq:Nat×Nat=>yV nP aO v5 eX fA iw kU q.1 q.2) g.1) ((nP.length,0),τ272) (Θ [9,9,9,9,9,9,9,9,9] 10) z (by repeat (first|exact trivial|refine ⟨z,?_⟩)) ⟨hh,sK,sJ,Uw,(aj.le.refl _)⟩ (λg5 j5 hg5=> ?_)))))))))))))))
   obtain ⟨⟨vS,zV⟩,τ307⟩:=g5
   obtain ⟨hh,y7,y5,BO,iT⟩:=hg5
   try dsimp only at y7
   try dsimp only at y5
   try dsimp only at BO
   dsimp only at iT
   replace hr105_1:=hr105_1.mono iT
   replace hr105_2:=hr105_2.mono iT
   replace hr105_3:=hr105_3.mono iT
   replace oM:=oM.mono iT
   replace jd:=jd.mono iT
   replace sK:=sK.mono iT
   replace sJ:=sJ.mono iT
   try dsimp only
   obtain ⟨z3,hh,Ag⟩:=gJ hh
   dsimp only [yV]at hh
   have zf302b:=y7.length
   have zf303b:=y5.length
   refine χ (i:=2) z (λ_ hb309 _=> ?_)
   refine χ (i:=4) z (λ_ hb310 _=> ?_)
   refine χ (i:=5) z (λ_ hb311 _=> ?_)
   refine χ (i:=6) z (λ_ hb312 _=> ?_)
   refine χ (i:=7) z (λ_ hb313 _=> ?_)
   refine χ (i:=8) z (λ_ hb314 _=> ?_)
   refine χ (i:=9) z (λ_ hb315 _=> ?_)
   refine ζ (ψ (ξ z z (Φ z z (ω z (lenC z b_ z) (ω z (OpVal.lss z z z) (ε (TC.cD z hh (λh316 hh=> ?_) (λh316 hh=> ?_))))))))
   ·refine ι (S.n (ζ (υ (ψ (Φ z z (ξ z z (TL.isSl (i:=8) z (λhs317 _ _=> ?_))))))))
    refine ω z (bU z b_ dB z z hs317 (by omega)) (ω z (og (0:Int) z fJ z (q:=8) z bn (by omega) z) (ξ z z (ω z (OpVal.eql z z z) (ε (TC.cD z hh (λh318 hh=> ?_) (λh318 hh=> ?_))))))
    ·refine η (ξ z z (ξ z z (TL.nil (B.n (S.n (η (ξ z z (ω z (OpVal.succ z z z (by omega)) (ξ z z (ε ?_))))))))))
     obtain ⟨hh,Xa⟩:=dO Ag hh
     exact lf ((zV,(zV+1)),τ307) Xa ⟨hh,y7,y5,BO,iT⟩ (Θ [9,9,9,9,9,9,9,9,9,9] 10)
    refine ι (B.n (S.n (η (ξ z z (ω z (OpVal.succ z z z (by omega)) (ξ z z (ε ?_)))))))
    obtain ⟨hh,W_⟩:=dO Ag hh
    exact lf ((vS,(zV+1)),τ307) W_ ⟨hh,y7,y5,BO,iT⟩ (Θ [9,9,9,9,9,9,9,9,9,9] 10)
   refine TC.exit (S.x (S.x ?_))
   replace hh:=dG Ag hh
   refine Δ (S.n (ζ (ψ (ξ z z (Φ z z (ω z (lenC z b_ z) (ω z (OpVal.eql z z z) (ε (TC.cD z hh (λh321 hh=> ?_) (λh321 hh=> ?_))))))))))
   ·refine η (Φ z z (ξ z z (ν z (OpOk.lit (enc:=aG) [(nth aO ((nth (nth v5.1.next ((nth eX fA 0).toNat) []) iw 0).toNat) 0)] z b_ dB lu z z z bn (by decide) (by decide) (0:Int) z (by decide) z (by decide) jS (λa322 c323=> ?_)))))
    refine θ 9 z z ?_
    obtain ⟨VN,hh⟩:=aP hh
    refine ν z (as_ z z b_ dB uV lu z z (by decide) z z z (.inr ⟨_,0,z⟩) (by simpa using VN) (by decide) (λa325 c326=> ?_))
    refine Φ z z (ε (η (Φ z z (ξ z z (ξ z z ?_)))))
    obtain ⟨VL,hh⟩:=aP hh
    refine TL.isSl (i:=10) z (λhs327 _ _=> ?_)
    refine ω z (bU z b_ dB z z hs327 (by omega)) (θ 10 z z ?_)
    have hn328:((kU.set iw (-1)).set iw (vS:Int)).length=(replicate 256 (0:Int)).length:=by rw [gy];exact BO
    refine ν z (lG (vS:Int) z dB z z z z bn jS (by omega) (by omega) ?_)
    refine TL.nil (B.n (S.n (η (ξ z z (ω z (OpVal.succ z z z (by omega)) (ξ z z (ε ?_)))))))
    obtain ⟨hh,W9⟩:=dO hR2 hh
    exact lf (((nP++[(nth aO ((nth (nth v5.1.next ((nth eX fA 0).toNat) []) iw 0).toNat) 0)]),((kU.set iw (-1)).set iw (vS:Int)),(iw+1)),(a325,c326,τ307)) W9 ⟨hh,y7,y5,hn328,(lV.trans iT)⟩ (Θ [1,10,10,10,10,10,10,10,10] 10)
   refine ι (S.n (η (Φ z z (ξ z z (ξ z z ?_)))))
   obtain ⟨VL,hh⟩:=aP hh
   refine TL.isSl (i:=9) z (λhs330 _ _=> ?_)
   refine ω z (bU z b_ dB z z hs330 (by omega)) (θ 9 z z ?_)
   have hn331:((kU.set iw (-1)).set iw (vS:Int)).length=(replicate 256 (0:Int)).length:=by rw [gy];exact BO
   refine ν z (lG (vS:Int) z dB z z z z bn jS (by omega) (by omega) ?_)
   refine TL.nil (B.n (S.n (η (ξ z z (ω z (OpVal.succ z z z (by omega)) (ξ z z (ε ?_)))))))
   obtain ⟨hh,WZ⟩:=dO hR2 hh
   exact lf ((nP,((kU.set iw (-1)).set iw (vS:Int)),(iw+1)),(Ip,Ic,τ307)) WZ ⟨hh,y7,y5,hn331,(lV.trans iT)⟩ (Θ [9,9,9,9,9,9,9,9,9] 10)
  refine TC.exit (S.x (S.x ?_))
  replace hh:=dG hR2 hh
  refine Δ (S.n (ψ (ω z (aS z kS z) (ω z (aZ z jT z (i:=3) z z) (Φ z z ?_)))))
  rw [<-BP]
  refine θ 9 z z (TL.oh bn (λτ337 pV TT=> ?_))
  replace hr105_1:=hr105_1.mono pV
  replace hr105_2:=hr105_2.mono pV
  replace hr105_3:=hr105_3.mono pV
  replace oM:=oM.mono pV
  replace jd:=jd.mono pV
  replace sK:=sK.mono pV
  replace sJ:=sJ.mono pV
  have hr335b:=TT.rv.big
  have Rk:ZOk _ (aB 1 aG bn) ([(kU,(Qg,PV))]:List (ak×(aB 1 aG bn).P)) [kU]:=ZOk.cons (TT) (ZOk.nil _ _)
  refine ν z (litZ Rk z eU fZ z lq z z z (by decide) (by decide) z (by decide) z (by decide) (λa333 c334=> ?_))
  refine θ 5 z z ?_
  obtain ⟨u151,hh⟩:=aP hh
  refine ν z (MJ (k:=(aB 1 aG bn)) sK Rk z z eU fZ mV lq z z (by decide) z z z (.inr ⟨_,0,z⟩) (by simpa using u151) (by decide) (λa340 c341 zf342=> ?_))
  refine ω z (aS z kS z) (θ 5 z z (ν z (gK z jC z z z z z ?_)))
  refine ε (ζ ?_)
  obtain ⟨VK,hh⟩:=aP hh
  obtain ⟨u162,hh⟩:=aP hh
  refine TC.draw [8,9,10] (by kernel_rfl) (Ω 0 z (aS z oQ z) z (TA.b 1 z (aZ z pI z (i:=0) z z) z (Ω 2 z (aS z oQ z) z (TA.b 3 z (aZ z pI z (i:=4) z z) z (Ω 4 z (dw (.inl z) z) z (TA.b 5 z (OpVal.index z lI mM z z hr105_1.isSl VK.1 VK.2) z ?_))))))
  obtain ⟨Bl,GR,hg351⟩:=RZ.seg hr105_1 ((nth eX fA 0).toNat) (by omega)
  replace GR:dA _ aJ Bl.1 Bl.2 (nth v5.1.outs ((nth eX fA 0).toNat) []):=GR
  have hk351b:=GR.rv.big
  refine TA.b 6 z (OpVal.of (kZ z lJ z hg351 z) (v':= .slice Bl.1 ((nth v5.1.outs ((nth eX fA 0).toNat) []).length) Bl.2) z) z ?_
  have Rj:ZOk _ (aB 1 aJ bF) ([((nth v5.1.outs ((nth eX fA 0).toNat) []),(Bl.1,Bl.2))]:List (aC×(aB 1 aJ bF).P)) [(nth v5.1.outs ((nth eX fA 0).toNat) [])]:=ZOk.cons (GR) (ZOk.nil _ _)
  refine TA.ac 7 z (litZ Rj z lI mM z Hy z z z (by decide) (by decide) z (by decide) z (by decide) (λa352 c353=>(k1 ?_)))
  refine TA.front 7 z z (TA.last 8 (by kernel_rfl) z z z (MJ (k:=(aB 1 aJ bF)) sJ Rj z z lI mM RP Hy z z (by decide) z z z (.inr ⟨_,0,z⟩) (by simpa using u162) (by decide) (λa356 c357 zf358=> ?_)))
  refine TZ.v 9 (by kernel_rfl) z z z (aS z oQ z) z z (TZ.front 2 z z (TZ.last 10 (by kernel_rfl) z z z (gK z RQ z z z z z ?_)))
  refine TZ.done (by kernel_rfl) (S.n (ζ ?_))
  obtain ⟨u170,hh⟩:=aP hh
  obtain ⟨VJ,hh⟩:=aP hh
  refine TC.draw [8,9,10] (by kernel_rfl) (Ω 0 z (aS z tV z) z (TA.b 1 z (aZ z qV z (i:=0) z z) z (Ω 2 z (aS z tV z) z (TA.b 3 z (aZ z qV z (i:=6) z z) z (Ω 4 z (dw (.inl z) z) z (TA.b 5 z (OpVal.index z gI gQ z z hr105_2.rv.sl u170.1 u170.2) z (TA.b 6 z (fF false z nG z hr105_2 (by omega) z) z (TA.ac 7 z (OpOk.lit (enc:=eq_) [(nth v5.1.fin ((nth eX fA 0).toNat) false)] z gI gQ AA z z z jc (by decide) (by decide) false z (by decide) z (by decide) qZ (λa364 c365=>(k1 ?_)))))))))))
  refine TA.front 9 z z (TA.last 8 (by kernel_rfl) z z z (as_ z z gI gQ G8 AA z z (by decide) z z z (.inr ⟨_,0,z⟩) (by simpa using VJ) (by decide) (λa367 c368=> ?_)))
  refine TZ.v 9 (by kernel_rfl) z z z (aS z tV z) z z (TZ.front 2 z z (TZ.last 10 (by kernel_rfl) z z z (gK z Js z z z z z ?_)))
  refine TZ.done (by kernel_rfl) (S.n ?_)
  obtain ⟨u181,hh⟩:=aP hh
  obtain ⟨u184,hh⟩:=aP hh
  refine TC.draw [8,9,10] (by kernel_rfl) (Ω 0 z (aS z uh z) z (TA.b 1 z (aZ z lJ z (i:=0) z z) z (Ω 2 z (aS z uh z) z (TA.b 3 z (aZ z lJ z (i:=8) z z) z (Ω 4 z (dw (.inl z) z) z (TA.b 5 z (OpVal.index z fK fU z z hr105_3.rv.sl u181.1 u181.2) z (TA.b 6 z (fF ([]:T_1) z iG z hr105_3 (by omega) z) z (TA.ac 7 z (OpOk.lit (enc:=aJ) [(nth v5.1.tail ((nth eX fA 0).toNat) [])] z fK fU sQ z z z bF (by decide) (by decide) ([]:T_1) z (by decide) z (by decide) rE (λa374 c375=>(k1 ?_)))))))))))
  refine TA.front 11 z z (TA.last 8 (by kernel_rfl) z z z (as_ z z fK fU zF sQ z z (by decide) z z z (.inr ⟨_,0,z⟩) (by simpa using u184) (by decide) (λa377 c378=> ?_)))
  refine TZ.v 9 (by kernel_rfl) z z z (aS z uh z) z z (TZ.front 2 z z (TZ.last 10 (by kernel_rfl) z z z (gK z mM z z z z z ?_)))
  refine TZ.done (by kernel_rfl) (B.n (S.n (η (ξ z z (ω z (OpVal.succ z z z (by omega)) (ξ z z (ε ?_)))))))
  obtain ⟨hh,WW⟩:=dO hR1 hh
  exact lf (((jH++[kU]),(mD++[(nth v5.1.outs ((nth eX fA 0).toNat) [])]),(nR++[(nth v5.1.fin ((nth eX fA 0).toNat) false)]),(uz++[(nth v5.1.tail ((nth eX fA 0).toNat) [])]),nP,(fA+1)),(a340,c341,(Jf++([(kU,(Qg,PV))]:List (ak×(aB 1 aG bn).P))),a356,c357,(z213++([((nth v5.1.outs ((nth eX fA 0).toNat) []),(Bl.1,Bl.2))]:List (aC×(aB 1 aJ bF).P))),a367,c368,a377,c378,Ip,Ic,τ337)) WW ⟨hh,zf342,zf358,((rH.trans lV).trans pV)⟩ (Θ [12,2,4,6,8,5,12,12,12] 9)
 refine TC.exit (S.x (S.x ?_))
 replace hh:=dG hR1 hh
 refine Δ (S.n (ψ (ω z (kG z ji fE z (i:=3) z z) (ν z (storeAll z fE z z z z z z ?_)))))
 refine ξ z z (ε (TC.front 4 z z (TC.Md oM (λτ382 Yd vk=> ?_))))
 replace jd:=jd.mono Yd
 have hr380b:=vk.big
 refine TC.front 4 z z (TC.Md jd (λτ385 Yc zl=> ?_))
 replace vk:=vk.mono Yc
 have hr383b:=zl.big
 refine TC.front 4 z z (TC.oh jc (λτ388 KR FV=> ?_))
 replace vk:=vk.mono KR
 replace zl:=zl.mono KR
 have hr386b:=FV.rv.big
 refine TC.front 4 z z (TC.oh bF (λτ391 Ew TS=> ?_))
 replace vk:=vk.mono Ew
 replace zl:=zl.mono Ew
 replace FV:=FV.mono Ew
 have hr389b:=TS.rv.big
 refine TC.rt 1 ?_
 obtain rfl:=so hh
 exact ro [] z (RVs.agg ji fE z (i:=0) z z (RVs.tmp z RVs.nil)) ⟨yS,c206,yB,c212,tY,c218,MO,c222,z,vk,zl,FV,TS,z⟩
def Db_(x0:Seq)(x1:Seq):Option (Bool×Int):=
 bnd (Q_ x0) (λv6=>aN (!v6) (some (false,1)) (bnd (Q_ x1) (λv10=>aN (!v10) (some (false,1)) (bnd (ZH x0) (λv16=>bnd (ZH x1) (λv24=>aN (decide (v16.2≠0)) (some (false,2)) (aN (decide (v24.2≠0)) (some (false,2)) (bnd (ZR v16.1 v24.1) (λv41=>some (v41,0))))))))))
theorem Gw_{σ:aj}{x0:Seq}{x1:Seq}(au:RZ σ (aB 1 aG bn) (.slice aI x0.next.length aH) x0.next)(aY:RZ σ (aB 1 aJ bF) (.slice aA x0.outs.length aX) x0.outs)(aV:dA σ eq_ aU ay x0.fin)(aQ:dA σ aJ bJ bD x0.tail)(bP:RZ σ (aB 1 aG bn) (.slice eF x1.next.length dZ) x1.next)(ku:RZ σ (aB 1 aJ bF) (.slice iL x1.outs.length o9) x1.outs)(kQ:dA σ eq_ nH iK x1.fin)(j_:dA σ aJ rZ o8 x1.tail){r:Bool×Int}(hh:Db_ x0 x1=some r):
  Con prog 39 #[.agg (oI x0 aI aH aA aX aU ay bJ bD),.agg (oI x1 eF dZ iL o9 nH iK rZ o8)] σ [] (jQ (.tuple #[.bool r.1,.int .i64 r.2]) σ):=by
 dsimp only [Db_]at hh
 have f0_0b:=au.big
 have f0_1b:=aY.big
 have f0_2b:=aV.rv.big
 have f0_3b:=aQ.rv.big
 have f1_0b:=bP.big
 have f1_1b:=ku.big
 have f1_2b:=kQ.rv.big
 have f1_3b:=j_.rv.big
 refine Con.mk (n:=37) Tryz.func39 z z z (λw0=> ?_)
 refine ψ (ν z (boxA z z z z (λbG=> ?_)))
 refine ν z (boxA z z z z (λd_=> ?_))
 refine TL.j z z (ξ z z (ε (ζ (ψ (ω z (kG z ji fE z (i:=1) z z) ?_)))))
 obtain ⟨v6,u6,hh⟩:=dM hh
 refine ν z (jF (C1_ (x0:=x0) au aY aV aQ u6) z z OA z z z ?_)
 refine ω z (OpVal.not z z) (TL.j z z (TL.split 13 z (λbW=> ?_) (λbW=> ?_)))
 ·replace hh:=gZ bW hh
  refine π z (π z (π z (ω z (dS z z z) (ε (TC.t z (ψ (TL.j z z (ξ z z (ε (TC.rt 0 (S.r ?_)))))))))))
  obtain rfl:=so hh
  exact rq [4,5] ⟨z,z,z⟩
 replace hh:=gY bW hh
 refine Ψ z (kG z ji fE z (i:=0) z z) ?_
 obtain ⟨v10,u10,hh⟩:=dM hh
 refine TL.gon z z z z z (jF (C1_ (x0:=x1) bP ku kQ j_ u10) z z OA z z z ?_)
 refine Ψ z (OpVal.not z z) (ω z (dV z z z) (ε (TC.cB z hh (λdN hh=> ?_) (λdN hh=> ?_))))
 ·refine ψ (TL.j z z (ξ z z (ε (TC.rt 0 (S.r ?_)))))
  obtain rfl:=so hh
  exact rq [4,5] ⟨z,z,z⟩
 refine ι (S.n (ψ (ω z (kG z ji fE z (i:=1) z z) ?_)))
 obtain ⟨v16,u16,hh⟩:=dM hh
 refine ν z (OpOk.call (Fl_ (x0:=x0) au aY aV aQ u16) z z pf37 z z z z ?_)
 rintro _ τ107 _ nC ⟨a107_1,c107_1,a107_2,c107_2,a107_3,c107_3,a107_4,c107_4,rfl,hr107_0,hr107_1,hr107_2,hr107_3,rfl⟩
 replace bP:=bP.mono nC
 replace ku:=ku.mono nC
 replace kQ:=kQ.mono nC
 replace j_:=j_.mono nC
 have hr107_0b:=hr107_0.big
 have hr107_1b:=hr107_1.big
 have hr107_2b:=hr107_2.rv.big
 have hr107_3b:=hr107_3.rv.big
 refine ω z (wC (.inl z) z) (ω z (OpVal.extract z z z) (ω z (OpVal.extract z z z) (ν z (OpOk.alloc z if_ z z (λMC=> ?_)))))
 refine ν z (storeAll z fE z z z z z z ?_)
 refine ξ z z (ε (ψ (ω z (kG z ji fE z (i:=1) z z) ?_)))
 obtain ⟨v24,u24,hh⟩:=dM hh
 refine ν z (OpOk.call (Fl_ (x0:=x1) bP ku kQ j_ u24) z z pf37 z z z z ?_)
 rintro _ τ110 _ oC ⟨a110_1,c110_1,a110_2,c110_2,a110_3,c110_3,a110_4,c110_4,rfl,hr110_0,hr110_1,hr110_2,hr110_3,rfl⟩
 replace hr107_0:=hr107_0.mono oC
 replace hr107_1:=hr107_1.mono oC
 replace hr107_2:=hr107_2.mono oC
 replace hr107_3:=hr107_3.mono oC
 have hr110_0b:=hr110_0.big
 have hr110_1b:=hr110_1.big
 have hr110_2b:=hr110_2.rv.big
 have hr110_3b:=hr110_3.rv.big
 refine ω z (wC (.inl z) z) (ω z (OpVal.extract z z z) (ω z (OpVal.extract z z z) (ν z (OpOk.alloc z if_ z z (λP_=> ?_)))))
 refine ν z (storeAll z fE z z z z z z ?_)
 refine ξ z z (ε (ζ (ψ (ξ z z (ω z (OpVal.neq z z z) (TL.j z z (TL.split 30 z (λqA=> ?_) (λqA=> ?_))))))))
 ·replace hh:=gZ qA hh
  replace qA:=jg qA
  refine π z (π z (ω z (dS z z z) (ε (TC.t z (ψ (TL.j z z (ξ z z (ε (TC.sG (Sub.pre 0 z) (TC.back (TC.ret (S.r ?_))))))))))))
  obtain rfl:=so hh
  exact rq [4,5] ⟨z,z,z⟩
 replace hh:=gY qA hh
 replace qA:=jo qA
 refine Ψ z (dw (.inl z) z) (Ψ z (OpVal.neq z z z) (ω z (dV z z z) (ε (TC.cD z hh (λjM hh=> ?_) (λjM hh=> ?_)))))
 ·refine ψ (TL.j z z (ξ z z (ε (TC.sG (Sub.pre 0 z) (TC.back (TC.ret (S.r ?_)))))))
  obtain rfl:=so hh
  exact rq [4,5] ⟨z,z,z⟩
 refine ι (S.n (ψ (ω z (kG z ji fE z (i:=1) z z) (ω z (kG z ji fE z (i:=0) z z) ?_))))
 obtain ⟨v41,FB,hh⟩:=dM hh
 refine ν z (jF (Gt_ (x0:=v16.1) (x1:=v24.1) hr107_0 hr107_1 hr107_2 hr107_3 hr110_0 hr110_1 hr110_2 hr110_3 FB) z z pf17 z z z ?_)
 refine TL.j z z (ξ z z (ε (TC.sG (Sub.pre 0 z) (TC.back (TC.ret ?_)))))
 obtain rfl:=so hh
 exact rq [4,5] ⟨z,z,z⟩
end Go.Proofs.YtchebnpdnfhenaaGreatDoor
end

noncomputable section
namespace Go.Proofs.YtchebnpdnfhenaaGreatDoor
open Go Go.E
structure PaI (q:Seq) (l0:aC) (m0:B_1) (j:Nat) (l:aC) (m:B_1) (t:Bool):Prop where
  b:FrB q l m
  no:t=false->l=l0/\m=m0/\ ∀s,s<j->Np q l m s
  yes:t=true->jk (zf l m) q.next.length<jk (zf l0 m0) q.next.length
theorem xx_{q:Seq}(l:aC)(m:B_1)(s k:Nat):(vV q l m s k).length<=k+1:=by
  induction k with
  |zero=>unfold vV;rw [gB];split<;>simp
  |succ k ih=>
    rw [lv_,gB]
    unfold Hq
    split
    · rw [kD];omega
    rw [List.length_nil];omega
theorem x1_ {q : Seq} (hq : eP q = true) {l0 : aC} {m0 : B_1} {l : aC} {m : B_1} {t : Bool} {j : Nat} (hj : j < q.next.length) (h : PaI q l0 m0 j l m t) :
    ∃l' m' t',Bo_ q j m l t (vV q l m j 0)=some (.inl (l',m',t',j+1))/\PaI q l0 m0 (j+1) l' m' t':=by
  obtain ⟨q1,q2,q3,q4,q5⟩:=mW hq
  obtain ⟨r1,r2⟩:=vX hq hj
  have hl:=h.b.fr.ln
  have hm:=h.b.fr.mn
  have hle:=h.b.le hq
  unfold Bo_
  refine Exists.elim (kT (step:=λz:aC×Nat=>Q8 q j m l t z.1 z.2) (λz k=>(z,k)) 256 (λk z=>z=vV q l m j k) (λr=> ∃l' m' t',r= .inl (l',m',t',j+1)/\PaI q l0 m0 (j+1) l' m' t') ?_ ?_ (s0:=vV q l m j 0) rfl) (λr l7=> ?_)
  · rintro k _ hk rfl
    left
    have hlt:=oG hq hj hk
    have hol:=Pv hq hj hk
    have hcn:=xx_ (q:=q) l m j k
    show ∃s',Q8 q j m l t _ k=some (.inl (s',k+1))/\_
    refine ⟨_,?_,rfl⟩
    unfold Q8
    have e1:nth (nth q.next j []) k 0=nxQ q j k:=rfl
    have e2:nth (nth q.outs j []) k []=otQ q j k:=rfl
    rw [bI (by omega),aF (by omega),lv_]
    unfold Hq
    simp only [e1,e2]
    by_cases c:0<=nxQ q j k
    · rw [bI c,aF (show 0<=nxQ q j k/\nxQ q j k<(m.length:Int) by omega)]
      cases d:nth m (nxQ q j k).toNat false with
      |false=>rw [iteO_false,if_neg (λe=>by simp at e),List.append_nil];rfl
      |true=>
        have hlz:=hle _ (show (nxQ q j k).toNat<_ by omega) d
        rw [iteO_true,if_pos ⟨c,rfl⟩,aF (by omega),aF (by omega),aF (show 0<=nxQ q j k/\nxQ q j k<(l.length:Int) by omega),aF (show (otQ q j k).length+(nth l (nxQ q j k).toNat []).length<=_ by omega),aF (by simp only [kD];omega)];rfl
    rw [bK c,if_neg (λe=>c e.1),List.append_nil];rfl
  · rintro _ rfl
    have hlen:=lb_ hq hj hle (k:=256) (Nat.le_refl _)
    have hall:vV q l m j 256=jU q l m j:=rfl
    rw [hall]at hlen ⊢
    have hmono: ∀s,s<j+1->Np q l m j->(∀s,s<j->Np q l m s)->Np q l m s:=λs hs h1 h2=>by
      by_cases c:s=j
      · rw [c];exact h1
      exact h2 s (by omega)
    have keep:Np q l m j->PaI q l0 m0 (j+1) l m t:=λhd=>⟨h.b,λht=>⟨(h.no ht).1,(h.no ht).2.1,λs hs=>hmono s hs hd (h.no ht).2.2⟩,h.yes⟩
    have step:jU q l m j≠[]->(nth m j false=true->jf (jU q l m j)≠nth l j [])->PaI q l0 m0 (j+1) (l.set j (jf (jU q l m j))) (m.set j true) true:=λhn hc=>by
      refine ⟨h.b.put hq hj hn,λht=>(by cases ht),λ_=> ?_⟩
      have h1:=h.b.mea hq hj hc
      cases t with
      |true=>have:=h.yes rfl;omega
      |false=>
        obtain ⟨e1,e2,_⟩:=h.no rfl
        rw [<-e1,<-e2];exact h1
    show ∃r,Q8 q j m l t (jU q l m j) 256=some (.inr r)/\_
    unfold Q8
    rw [bK (by omega)]
    by_cases c:jU q l m j=[]
    · rw [bI (by rw [c];rfl)]
      refine ⟨_,rfl,l,m,t,rfl,keep ⟨λhmj=> ?_,λ_=>c⟩⟩
      exact absurd c (h.b.dn j hj hmj).1
    rw [bK (λe=>c (o7 (by omega))),rLcp_eq (λx hx=>by have:=hlen x hx;omega),fD,aF (by omega)]
    cases d:nth m j false with
    |false=>
      rw [uj,aF (by omega),aF (by omega)]
      exact ⟨_,rfl,_,_,_,rfl,step c λe=>(by rw [d]at e;cases e)⟩
    |true=>
      rw [qK,aF (by omega)]
      by_cases e:jf (jU q l m j)=nth l j []
      · rw [bK (λf=>f e)]
        exact ⟨_,rfl,l,m,t,rfl,keep ⟨λ_=>e.symm,λf=>(by rw [d]at f;cases f)⟩⟩
      rw [bI e,aF (by omega),aF (by omega)]
      exact ⟨_,rfl,_,_,_,rfl,step c λ_=>e⟩
  obtain ⟨h1,l',m',t',rfl,h2⟩:=l7
  exact ⟨l',m',t',h1,h2⟩
theorem uv_ {q : Seq} (hq : eP q = true) : ∃ l m, B5_ q = some (l, m, 0) /\ FrOk q l m := by
  obtain ⟨q1,q2,q3,q4,q5⟩:=mW hq
  unfold B5_
  rw [jh_,fD,hq,qK,aF (by omega),aF (by omega)]
  have hmf: ∀s,nth (List.replicate q.next.length false) s false=false:=λs=>AV _ _ _
  refine Exists.elim (PE (step:=λz:aC×B_1×Bool=>Vs q z.1 z.2.1 z.2.2) (λz=>FrB q z.1 z.2.1/\(z.2.2=false-> ∀s,s<q.next.length->Np q z.1 z.2.1 s)) (λz=>jk (zf z.1 z.2.1) q.next.length+if z.2.2=true then 1 else 0) (λr=> ∃l m,r=(l,m,0)/\FrOk q l m) ?_
    (t:=(List.replicate q.next.length [],List.replicate q.next.length false,true)) ⟨⟨⟨by simp,by simp,λs _ _=>AV _ _ _,λs _ k=>(by rw [hmf]at k;cases k),λs _ k=>(by rw [hmf]at k;cases k)⟩,λs _ k=>(by rw [hmf]at k;cases k),λs _ k=>(by rw [hmf]at k;cases k)⟩,λe=>(by cases e)⟩) (λr l7=> ?_)
  · rintro ⟨l,m,t⟩ ⟨hI,hD⟩
    simp only at hI hD
    show (∃t',Vs q l m t=some (.inl t')/\_/\_)\/ ∃r,Vs q l m t=some (.inr r)/\_
    unfold Vs
    cases t with
    |false=>
      right
      rw [iteO_false]
      exact ⟨_,rfl,l,m,rfl,hI.fr.ok hq (hI.le hq) (hD rfl)⟩
    |true=>
      left
      rw [iteO_true]
      refine Exists.elim (kT (step:=λz:aC×B_1×Bool×Nat=>Q7 q z.1 z.2.1 z.2.2.1 z.2.2.2) (λ(z:aC×B_1×Bool) j=>(z.1,z.2.1,z.2.2,j)) q.next.length (λj z=>PaI q l m j z.1 z.2.1 z.2.2) (λr=> ∃l' m' t',r= .inl (l',m',t')/\PaI q l m q.next.length l' m' t') ?_ ?_ (s0:=(l,m,false)) ⟨hI,λ_=>⟨rfl,rfl,λs hs=>by omega⟩,λe=>(by cases e)⟩) (λr l7=> ?_)
      · rintro j ⟨l1,m1,t1⟩ hj hP
        simp only at hP
        left
        show ∃s':aC×B_1×Bool,Q7 q l1 m1 t1 j=some (.inl (s'.1,s'.2.1,s'.2.2,j+1))/\_
        unfold Q7
        rw [bI (by omega),aF (by omega)]
        obtain ⟨l2,m2,t2,k1,k2⟩:=x1_ hq hj hP
        refine ⟨(l2,m2,t2),?_,k2⟩
        rw [<-k1]
        unfold vV
        cases nth q.fin j false with
        |true=>rw [iteO_true,aF (by omega),aF (by simp),if_pos rfl];rfl
        |false=>rw [iteO_false,if_neg (by decide)];rfl
      · rintro ⟨l1,m1,t1⟩ hP
        refine ⟨.inl (l1,m1,t1),?_,l1,m1,t1,rfl,hP⟩
        show Q7 q l1 m1 t1 q.next.length=_
        unfold Q7
        rw [bK (by omega)];rfl
      obtain ⟨h1,l',m',t',rfl,h2⟩:=l7
      refine ⟨_,h1,⟨h2.b,λe=>(h2.no e).2.2⟩,?_⟩
      show jk (zf l' m') _+(if t'=true then 1 else 0)<jk (zf l m) _+1
      cases t' with
      |false=>
        obtain ⟨e1,e2,_⟩:=h2.no rfl
        rw [e1,e2];exact Nat.lt_succ_self _
      |true=>have:=h2.yes rfl;rw [if_pos rfl];omega
  obtain ⟨h1,l,m,rfl,h2⟩:=l7
  exact ⟨l,m,h1,h2⟩
structure RcI (q:Seq) (v:B_1) (w:ak) (i:Nat):Prop where
  len:v.length=q.next.length
  hd:0<w.length/\nth w 0 0=0
  le:i<=w.length
  rng: ∀j,j<w.length->0<=nth w j 0/\nth w j 0<(q.next.length:Int)/\RchQ q (nth w j 0).toNat
  done: ∀j,j<i->nth v (nth w j 0).toNat false=true
  rch: ∀s,s<q.next.length->nth v s false=true->RchQ q s
  cl: ∀s,s<q.next.length->nth v s false=true-> ∀b,b<256->0<=nxQ q s b-> ∃j,j<w.length/\nth w j 0=nxQ q s b
  mu:w.length+256 * jk (unM v) q.next.length<=1+256 * q.next.length
theorem sr_ {q : Seq} (hq : eP q = true) (h0 : 0 < q.next.length) : ∃ v, Cn_ q = some v /\ RchOk q v := by
  have hn1:=(mW hq).1
  unfold Cn_
  rw [aF (by omega)]
  refine PE (step:=λz:B_1×ak×Nat=>Vt q z.1 z.2.1 z.2.2) (λz=>RcI q z.1 z.2.1 z.2.2) (λz=>257 * jk (unM z.1) q.next.length+z.2.1.length - z.2.2) (λr=>RchOk q r) ?_ ?_
  · rintro ⟨v,w,i⟩ hI
    simp only at hI
    have hl:=hI.len
    have hmu:=hI.mu
    show (∃t',Vt q v w i=some (.inl t')/\_/\_)\/ ∃r,Vt q v w i=some (.inr r)/\_
    unfold Vt
    by_cases c:i<w.length
    rotate_left
    · right
      rw [bK (by omega)]
      refine ⟨_,rfl,ue_ hq hl h0 ?_ hI.rch λs hs h b hb hb0=> ?_⟩
      · have:=hI.done 0 (by have:=hI.hd.1;omega)
        rw [hI.hd.2]at this;exact this
      obtain ⟨j,j1,j2⟩:=hI.cl s hs h b hb hb0
      rw [<-j2];exact hI.done j (by omega)
    left
    obtain ⟨g1,g2,g3⟩:=hI.rng i c
    obtain ⟨s,hs'⟩: ∃s:Nat,nth w i 0=((s:Nat):Int):=⟨(nth w i 0).toNat,by omega⟩
    rw [hs',iW]at g3
    have hs:s<q.next.length:=by omega
    obtain ⟨r1,r2⟩:=vX hq hs
    rw [bI (by omega),hs',aF (by omega),iW]
    cases d:nth v s false with
    |true=>
      rw [iteO_true]
      refine ⟨_,rfl,⟨hl,hI.hd,by show i+1<=w.length;omega,hI.rng,λj hj=> ?_,hI.rch,hI.cl,hmu⟩,?_⟩
      · have hj:j<i+1:=hj
        by_cases e:j<i
        · exact hI.done j e
        have:j=i:=by omega
        subst this;show nth v (nth w j 0).toNat false=true;rw [hs',iW];exact d
      show 257 * jk (unM v) q.next.length+w.length - (i+1)<257 * jk (unM v) q.next.length+w.length - i
      omega
    | false =>
      rw [iteO_false,aF (by omega)]
      have hset:=sn_ hs hl d
      refine Exists.elim (kT (step:=λz:ak×Nat=>Q9 w i q v z.1 z.2) (λz k=>(z,k)) 256 (λk z=> ∃X,z=w++X/\X.length<=k/\(∀x∈X, ∃b,b<k/\0<=x/\x=nxQ q s b)/\ ∀b,b<k->0<=nxQ q s b->nxQ q s b∈X)
        (λr=> ∃w',r= .inl (v.set s true,w',i+1)/\ ∃X,w'=w++X/\X.length<=256/\(∀x∈X, ∃b,b<256/\0<=x/\x=nxQ q s b)/\ ∀b,b<256->0<=nxQ q s b->nxQ q s b∈X) ?_ ?_ (s0:=w) ⟨[],by simp,Nat.le_refl _,by simp,λb hb=>by omega⟩) (λr l7=> ?_)
      · rintro k _ hk ⟨X,rfl,x1,x2,x3⟩
        left
        show ∃s',Q9 w i q v (w++X) k=some (.inl (s',k+1))/\_
        unfold Q9
        have e1:nth (nth q.next s []) k 0=nxQ q s k:=rfl
        rw [bI (by omega),hs',aF (by omega),iW,aF (by omega)]
        simp only [e1]
        by_cases e:0<=nxQ q s k
        · rw [bI e,aF (by omega),aF (by omega),aF (by simp only [gB,kD];omega)]
          refine ⟨_,rfl,X++[nxQ q s k],by rw [qH],by rw [gB,kD];omega,λx hx=> ?_,λb hb hb0=> ?_⟩
          · rcases List.mem_append.1 hx with hx|hx
            · obtain ⟨b,b1,b2,b3⟩:=x2 x hx
              exact ⟨b,by omega,b2,b3⟩
            rw [yK]at hx
            exact ⟨k,by omega,by rw [hx];exact e,hx⟩
          by_cases f:b<k
          · exact List.mem_append_left _ (x3 b f hb0)
          have:b=k:=by omega
          subst this
          exact List.mem_append_right _ (List.mem_singleton.2 rfl)
        rw [bK e]
        refine ⟨_,rfl,X,rfl,by omega,λx hx=> ?_,λb hb hb0=> ?_⟩
        · obtain ⟨b,b1,b2,b3⟩:=x2 x hx
          exact ⟨b,by omega,b2,b3⟩
        by_cases f:b<k
        · exact x3 b f hb0
        have:b=k:=by omega
        subst this;exact absurd hb0 e
      · rintro _ ⟨X,rfl,x1,x2,x3⟩
        refine ⟨.inl (v.set s true,w++X,i+1),?_,_,rfl,X,rfl,x1,x2,x3⟩
        show Q9 w i q v (w++X) 256=_
        unfold Q9
        rw [bK (by omega),hs',iW];rfl
      obtain ⟨h1,w',rfl,h2⟩:=l7
      refine ⟨_,h1,?_,?_⟩
      · obtain ⟨X,rfl,x1,x2,x3⟩:=h2
        have hold: ∀j,j<w.length->nth (w++X) j 0=nth w j 0:=λj hj=>G7 hj _
        refine ⟨by show (v.set s true).length=_;rw [gy];exact hl,⟨by have:=hI.hd.1;rw [gB];omega,by rw [hold 0 hI.hd.1];exact hI.hd.2⟩,by show i+1<=(w++X).length;rw [gB];omega,λj hj=> ?_,λj hj=> ?_,λt ht h=> ?_,λt ht h b hb hb0=> ?_,?_⟩
        · show 0<=nth (w++X) j 0/\nth (w++X) j 0<_/\RchQ q (nth (w++X) j 0).toNat
          by_cases e:j<w.length
          · rw [hold j e];exact hI.rng j e
          have hm:=wz (0:Int) hj
          rw [Tn _ hj,List.getElem_append_right (by omega)]at *
          obtain ⟨b,b1,b2,b3⟩:=x2 _ (List.getElem_mem (l:=X) (n:=j - w.length) (by have:j<(w++X).length:=hj;rw [gB]at this;omega))
          have:=oG hq hs b1
          exact ⟨b2,by rw [b3];exact this,by rw [b3];exact g3.step b1 (by omega)⟩
        · have hj:j<i+1:=hj
          show nth (v.set s true) (nth (w++X) j 0).toNat false=true
          rw [hold j (by omega),jO]
          split
          · rfl
          rename_i e
          by_cases f:j<i
          · exact hI.done j f
          have:j=i:=by omega
          subst this
          rw [hs',iW]at e
          exact absurd ⟨rfl,by omega⟩ e
        · have h:nth (v.set s true) t false=true:=h
          rw [jO]at h
          by_cases e:s=t
          · rw [<-e];exact g3
          rw [if_neg (λf=>e f.1)]at h;exact hI.rch t ht h
        · have h:nth (v.set s true) t false=true:=h
          rw [jO]at h
          by_cases e:s=t
          · subst e
            obtain ⟨j,hj,e2⟩:=List.getElem_of_mem (List.mem_append_right w (x3 b hb hb0))
            exact ⟨j,hj,by rw [Tn _ hj];exact e2⟩
          rw [if_neg (λf=>e f.1)]at h
          obtain ⟨j,j1,j2⟩:=hI.cl t ht h b hb hb0
          exact ⟨j,by show j<(w++X).length;rw [gB];omega,by show nth (w++X) j 0=_;rw [hold j j1];exact j2⟩
        show (w++X).length+256 * jk (unM (v.set s true)) _<=_
        rw [gB];omega
      obtain ⟨X,rfl,x1,_,_⟩:=h2
      show 257 * jk (unM (v.set s true)) _+(w++X).length - (i+1)<257 * jk (unM v) _+w.length - i
      rw [gB];omega
  have hmf: ∀s,nth (List.replicate q.next.length false) s false=false:=λs=>AV _ _ _
  have hu:=x2_ (List.replicate q.next.length false) q.next.length
  refine ⟨by simp,⟨by simp,rfl⟩,Nat.zero_le _,λj hj=> ?_,λj hj=>absurd hj (Nat.not_lt_zero _),λs _ h=>(by rw [hmf]at h;cases h),λs _ h=>(by rw [hmf]at h;cases h),?_⟩
  · have hj:j<1:=hj
    have:j=0:=by omega
    subst this
    exact ⟨Int.le_refl _,by show (0:Int)<_;omega,.zero⟩
  show ([0]:ak).length+256 * jk (unM (List.replicate q.next.length false)) _<=_
  rw [kD];omega
structure RtI (q:Seq) (l:aC) (k:Nat->Bool) (s j:Nat) (N:ak) (O:aC):Prop where
  n:N.length=256
  o:O.length=256
  nx: ∀b,b<j->nth N b 0=nxP q k s b
  ot: ∀b,b<j->nth O b []=otP q l k s b
  rest: ∀b,j<=b->nth O b []=[]
theorem RtI.none{q:Seq}{l:aC}{k:Nat->Bool}{s j:Nat}{N:ak}{O:aC}(h:RtI q l k s j N O)(hj:j<256)(h1:nxP q k s j= -1)(h2:otP q l k s j=[]):RtI q l k s (j+1) (N.set j (-1)) O:=by
  refine ⟨by rw [gy];exact h.n,h.o,G9_ 0 h.n hj h.nx h1.symm,λb hb=> ?_,λb hb=>h.rest b (by omega)⟩
  by_cases c:b<j
  · exact h.ot b c
  have:b=j:=by omega
  subst this;rw [h2];exact h.rest b (Nat.le_refl _)
theorem RtI.some{q:Seq}{l:aC}{k:Nat->Bool}{s j:Nat}{N:ak}{O:aC}(h:RtI q l k s j N O)(hj:j<256){z:Int}{o:T_1}(h1:nxP q k s j=z)(h2:otP q l k s j=o):RtI q l k s (j+1) ((N.set j (-1)).set j z) (O.set j o):=by
  have h3:=h.n
  have h4:=h.o
  refine ⟨by simp [h3],by simp [h4],λb hb=> ?_,G9_ [] h4 hj h.ot h2.symm,λb hb=> ?_⟩
  · rw [jO,jO]
    by_cases c:j=b
    · subst c;rw [if_pos ⟨rfl,by simp;omega⟩,h1]
    rw [if_neg (λe=>c e.1),if_neg (λe=>c e.1)];exact h.nx b (by omega)
  rw [jO,if_neg (λe=>by omega)];exact h.rest b (by omega)
theorem v6_ {q : Seq} (hq : eP q = true) {l : aC} {m : B_1} (h : FrOk q l m) {k : Nat -> Bool} (hk : V5 q m k) {P : ak} (hP : sm_ q.next.length k P) {v : B_1} (hv : v.length = q.next.length) (v5 : aC × B_1 × Int) (e5 : v5 = (l, m, 0)) :
    bC (λz:bZ×fO×B_1×aC×Nat=>NW v P v5 q z.1 z.2.1 z.2.2.1 z.2.2.2.1 z.2.2.2.2) (([]:bZ),([]:fO),([]:B_1),([]:aC),0)=some (zk q l k):=by
  subst e5
  obtain ⟨q1,q2,q3,q4,q5⟩:=mW hq
  have hll:=h.ln
  have hml:=h.mn
  have hPl:=hP.1
  refine Exists.elim (kT (step:=λz:bZ×fO×B_1×aC×Nat=>NW v P (l,m,0) q z.1 z.2.1 z.2.2.1 z.2.2.2.1 z.2.2.2.2) (λ(z:bZ×fO×B_1×aC) j=>(z.1,z.2.1,z.2.2.1,z.2.2.2,j)) q.next.length (λj z=>z=(kR k j (nxR q k),kR k j (otR q l k),kR k j (λs=>nth q.fin s false),kR k j (tlP q l))) (λr=>r=zk q l k) ?_ ?_ (s0:=([],[],[],[])) rfl) (λr l7=> ?_)
  · rintro j ⟨N,O,F,T⟩ hj hI
    cases hI
    obtain ⟨r1,r2⟩:=vX hq hj
    have hls:=h.le j hj
    have g1:=S_ k j (nxR q k)
    have g2:=S_ k j (otR q l k)
    have g3:=S_ k j (λs=>nth q.fin s false)
    have g4:=S_ k j (tlP q l)
    left
    show ∃s':bZ×fO×B_1×aC,NW v P (l,m,0) q _ _ _ _ j=some (.inl (s'.1,s'.2.1,s'.2.2.1,s'.2.2.2,j+1))/\_
    unfold NW
    rw [bI (by omega),aF (by omega)]
    have hPj:=hP.2 j hj
    by_cases c:k j=true
    · rw [if_pos c]at hPj
      rw [bK (by omega),aF (by show j<l.length;omega)]
      refine ⟨(kR k (j+1) (nxR q k),kR k (j+1) (otR q l k),kR k (j+1) (λs=>nth q.fin s false),kR k (j+1) (tlP q l)),?_,rfl⟩
      have hj3: ∀T':T_1,T'=tlP q l j->ZM (kR k j (nxR q k)) (nxR q k j) (kR k j (otR q l k)) (otR q l k j) j q (kR k j (λs=>nth q.fin s false)) (kR k j (tlP q l)) T'=some (.inl (kR k (j+1) (nxR q k),kR k (j+1) (otR q l k),kR k (j+1) (λs=>nth q.fin s false),kR k (j+1) (tlP q l),j+1)):=by
        rintro _ rfl
        unfold ZM
        rw [aF (by simp only [kD];omega),aF (by simp only [kD];omega),aF (by omega),aF (by simp only [kD];omega),aF (by simp only [kD];omega),Tc c,Tc c,Tc c (λs=>nth q.fin s false),Tc c (tlP q l)];rfl
      refine Exists.elim (kT (step:=λz:ak×aC×Nat=>QW j q P (l,m,0) (kR k j (nxR q k)) (kR k j (otR q l k)) (kR k j (λs=>nth q.fin s false)) (kR k j (tlP q l)) z.1 z.2.1 z.2.2) (λ(z:ak×aC) i=>(z.1,z.2,i)) 256 (λi z=>RtI q l k j i z.1 z.2) (λr=>r= .inl (kR k (j+1) (nxR q k),kR k (j+1) (otR q l k),kR k (j+1) (λs=>nth q.fin s false),kR k (j+1) (tlP q l),j+1)) ?_ ?_ (s0:=(List.replicate 256 0,List.replicate 256 [])) ⟨by simp,by simp,λb hb=>by omega,λb hb=>by omega,λb _=>AV _ _ _⟩) (λr l7=> ?_)
      · rintro i ⟨N,O⟩ hi hI
        simp only at hI
        have hNl:=hI.n
        have hOl:=hI.o
        have hlt:=oG hq hj hi
        have hol:=Pv hq hj hi
        left
        show ∃s':ak×aC,QW j q P (l,m,0) _ _ _ _ N O i=some (.inl (s'.1,s'.2,i+1))/\_
        unfold QW
        have e1:nth (nth q.next j []) i 0=nxQ q j i:=rfl
        have e2:nth (nth q.outs j []) i []=otQ q j i:=rfl
        rw [bI (by omega),aF (by omega),aF (by omega),aF (by omega)]
        simp only [e1,e2]
        by_cases e:nxQ q j i<0
        · rw [bK (by omega)]
          exact ⟨(_,_),rfl,hI.none hi (by unfold nxP;rw [if_pos e]) (by unfold otP;rw [if_pos e])⟩
        have hz:(nxQ q j i).toNat<q.next.length:=by omega
        have hlz:=h.le _ hz
        have hg:0<=nxQ q j i/\nxQ q j i<(P.length:Int):=by omega
        have hg2:0<=nxQ q j i/\nxQ q j i<(l.length:Int):=by omega
        have hPz:=hP.2 _ hz
        rw [bI (by omega),aF hg]
        by_cases d:k (nxQ q j i).toNat=true
        · rw [if_pos d]at hPz
          have hfv:=(nf_ hq h hj hi (by omega) ((hk _ hz).1 d).2).length_le
          have ho:otP q l k j i=(otQ q j i++nth l (nxQ q j i).toNat []).drop (nth l j []).length:=by unfold otP;rw [if_neg e,if_pos d]
          rw [bI (by omega),aF hg,aF (by simp;omega),aF (by omega),aF (by omega),aF hg2,aF (by show (otQ q j i).length+(nth l (nxQ q j i).toNat []).length<=_;omega),aF (by show (nth l j []).length<=(otQ q j i++nth l (nxQ q j i).toNat []).length/\_;exact ⟨hfv,Nat.le_refl _⟩),aF (by omega)]
          refine ⟨(_,_),rfl,hI.some hi ?_ ho⟩
          unfold nxP;rw [if_neg e,if_pos d];exact hPz.symm
        rw [if_neg d]at hPz
        rw [bK (by omega)]
        exact ⟨(_,_),rfl,hI.none hi (by unfold nxP;rw [if_neg e,if_neg d]) (by unfold otP;rw [if_neg e,if_neg d])⟩
      · rintro ⟨N,O⟩ hI
        simp only at hI
        have e1:N=nxR q k j:=ky_ 0 hI.n hI.nx
        have e2:O=otR q l k j:=ky_ [] hI.o hI.ot
        subst e1 e2
        refine ⟨_,?_,rfl⟩
        show QW j q P (l,m,0) _ _ _ _ _ _ 256=_
        unfold QW
        rw [bK (by omega),aF (by omega)]
        cases hf:nth q.fin j false with
        |true=>
          have hcom:=(h.com j hj [] (nth q.tail j []) (by rw [dh,if_pos hf])).length_le
          rw [iteO_true,aF (by omega),aF (by show (nth l j []).length<=_/\_;omega)]
          show fin (ZM _ _ _ _ _ _ _ _ ((nth q.tail j []).drop (nth l j []).length))=_
          rw [hj3 _ (by unfold tlP;rw [if_pos hf])];rfl
        |false=>
          rw [iteO_false,hj3 _ (by unfold tlP;rw [if_neg (by rw [hf];decide)])];rfl
      obtain ⟨t1,rfl⟩:=l7
      exact t1
    rw [if_neg c]at hPj
    rw [bI (by omega)]
    exact ⟨(_,_,_,_),rfl,by rw [Si c,Si c,Si c,Si c (tlP q l)]⟩
  · rintro ⟨N,O,F,T⟩ hI
    cases hI
    refine ⟨_,?_,rfl⟩
    show NW v P (l,m,0) q _ _ _ _ q.next.length=_
    unfold NW
    rw [bK (by omega)]
    change fin (bnd (Q_ (pJ q l k)) λOe=>aN (!Oe) (some (Seq.zero,2)) (some (pJ q l k,0)))=_
    rw [jh_,fD]
    unfold zk
    cases c:eP (pJ q l k)with
    |true=>rw [qK,if_pos rfl];rfl
    |false=>rw [uj,if_neg (by decide)];rfl
  obtain ⟨h1,rfl⟩:=l7
  exact h1
theorem zw_ (q : Seq) : ∃ r, ZT q = some r /\ PushR q r := by
  unfold ZT
  by_cases hq:eP q=true
  rotate_left
  · unfold B5_
    rw [jh_,fD,Bool.eq_false_iff.2 hq,uj,fD,bI (by decide)]
    exact ⟨_,rfl,.wrong hq⟩
  obtain ⟨q1,q2,q3,q4,q5⟩:=mW hq
  obtain ⟨l,m,f1,f2⟩:=uv_ hq
  have hll:=f2.ln
  have hml:=f2.mn
  rw [f1,fD,bK (show ¬ (0:Int)≠0 by decide)]
  by_cases c0:q.next.length=0
  · rw [bI (by show ((m.length:Nat):Int)=0;omega)]
    exact ⟨_,rfl,.none hq (.inl c0)⟩
  have h0:0<q.next.length:=by omega
  rw [bK (by show ¬ ((m.length:Nat):Int)=0;omega),aF (by show 0<m.length;omega)]
  cases hm:nth m 0 false with
  |false=>
    rw [uj]
    exact ⟨_,rfl,.none hq (.inr λh=>by have:=(f2.live 0 h0).2 h;rw [hm]at this;cases this)⟩
  |true=>
    rw [qK]
    obtain ⟨v,v1,v2⟩:=sr_ hq h0
    have hvl:=v2.len
    have hls:=f2.le 0 h0
    rw [v1,fD,aF (by omega)]
    refine ⟨zk q l (oZ v m),?_,.made l m v hq h0 ((f2.live 0 h0).1 hm) f2 v2⟩
    have hk:=m9_ (m:=m) v2
    refine Exists.elim (kT (step:=λz:ak×Nat×Nat=>QX v (l,m,0) q z.1 z.2.1 z.2.2) (λ(z:ak×Nat) j=>(z.1,z.2,j)) q.next.length (λj z=>NuI q.next.length (oZ v m) j z.1/\z.2=jA (oZ v m) j) (λr=>r=zk q l (oZ v m)) ?_ ?_ (s0:=(List.replicate v.length 0,0)) ⟨⟨by simp [hvl],λs hs=>by omega⟩,rfl⟩) (λr l7=> ?_)
    · rintro j ⟨P,c⟩ hj ⟨hI,hc⟩
      simp only at hI hc
      subst hc
      have hPl:=hI.len
      have hcj:=PI (oZ v m) j
      left
      show ∃s':ak×Nat,QX v (l,m,0) q P _ j=some (.inl (s'.1,s'.2,j+1))/\_
      unfold QX
      rw [bI (by omega),aF (by omega)]
      cases d1:nth v j false with
      |false=>
        have hkj: ¬ oZ v m j=true:=by unfold oZ;rw [d1];simp
        rw [iteO_false]
        exact ⟨(_,_),rfl,hI.no hj hkj,by simp only [jA];rw [if_neg hkj];rfl⟩
      |true=>
        rw [iteO_true,aF (by show j<m.length;omega)]
        change ∃s':ak×Nat,aN (nth m j false) _ _=_/\_
        cases d2:nth m j false with
        |false=>
          have hkj: ¬ oZ v m j=true:=by unfold oZ;rw [d1,d2];simp
          rw [iteO_false]
          exact ⟨(_,_),rfl,hI.no hj hkj,by simp only [jA];rw [if_neg hkj];rfl⟩
        |true=>
          have hkj:oZ v m j=true:=by unfold oZ;rw [d1,d2];rfl
          rw [iteO_true,aF (by simp;omega),aF (show jA (oZ v m) j+1<=_ by omega)]
          exact ⟨(_,_),rfl,hI.put hj hkj,by simp only [jA];rw [if_pos hkj]⟩
    · rintro ⟨P,c⟩ ⟨hI,hc⟩
      simp only at hI hc
      refine ⟨zk q l (oZ v m),?_,rfl⟩
      show QX v (l,m,0) q P c q.next.length=_
      unfold QX
      rw [bK (by omega),aF (by show 0<l.length;omega),aF (by show q.front.length+(nth l 0 []).length<=_;omega),v6_ hq f2 hk ⟨hI.len,λs hs=>hI.at' s hs⟩ hvl (l,m,0) rfl];rfl
    obtain ⟨h1,rfl⟩:=l7
    exact h1
end Go.Proofs.YtchebnpdnfhenaaGreatDoor
end
