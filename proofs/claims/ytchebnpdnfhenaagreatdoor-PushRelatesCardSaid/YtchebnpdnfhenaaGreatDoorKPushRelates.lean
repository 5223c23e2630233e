/- PushRelates: for every input the law returns true, and each argument reads afterwards as it read before. No condition of ours. -/
import Derived.Test.YtchebnpdnfhenaaGreatDoorB16777e74aa
import Derived.Test.YtchebnpdnfhenaaGreatDoorBf8037b03d9
import Derived.Test.YtchebnpdnfhenaaGreatDoorBec9f443190
import Derived.Test.YtchebnpdnfhenaaGreatDoorBeab7e328f1
import Derived.Test.YtchebnpdnfhenaaGreatDoorB7112f1f327
import Derived.KernelRfl
import Derived.ProofKit
import Derived.SizedLaws
import Derived.Below
import Derived.LaidMore
import Derived.OpenShut
import Derived.MakeChecks
import Derived.Test.YtchebnpdnfhenaaGreatDoorRows
import Derived.WalkKit
import Derived.ShutString
import Derived.ChangeOld
import Derived.Test.YtchebnpdnfhenaaGreatDoorTie
import Derived.Test.YtchebnpdnfhenaaGreatDoorCards
import Derived.SevenTiedAt
import Derived.Stop.Joined

set_option linter.unusedVariables false
set_option linter.unusedSimpArgs false
set_option linter.unusedSectionVars false
set_option maxRecDepth 100000
set_option maxHeartbeats 8000000

noncomputable section
namespace Go.Proofs.YtchebnpdnfhenaaGreatDoor
open Go Go.E
theorem n0_{A:List Arc}{most:Int}{l:List Tip}{R:List (List Tip)}{e:Int}{k:Nat}(h:hm_ A most l R k= .inl e): ∀j,hm_ A most l R (k+j)= .inl e
  |0=>h
  |j+1=>by
    show hm_ A most l R (k+j+1)=_
    rw [hm_,n0_ h j]
def DoQ(n:Int)(x0:Maker):Int⊕(List (List Tip)×Seq)→Int⊕Maker→Prop
  | .inl e,r=>r= .inl e
  | .inr (R',q'),r=> ∃m',r= .inr ⟨x0.arcs,x0.ends,x0.most,R',m',q'⟩∧Places n m' R'
theorem Fits.with'{n:Nat}{A:List Arc}{E:List Tip}{x:Maker}(h:Fits n A E x)(R:List (List Tip))(m:FM T_1 Int)(q:Seq):Fits n A E ⟨x.arcs,x.ends,x.most,R,m,q⟩:=
  ⟨⟨h.arcs,h.ends,h.al,h.ao,h.eo,h.hn⟩,h.to,h.few,h.m1,h.m2⟩
structure QOk (q:Seq) (k:Nat):Prop where
  n:q.next.length=k
  o:q.outs.length=k
  e:q.fin.length=k
  t:q.tail.length=k
theorem QOk.push{q:Seq}{k:Nat}(h:QOk q k)(N:N_1)(O:T_2)(b:Bool)(t:T_1):QOk (p3_ q N O b t) (k+1):=⟨by simp [p3_,h.n],by simp [p3_,h.o],by simp [p3_,h.e],by simp [p3_,h.t]⟩
theorem do_ok {n : Nat} {A : List Arc} {E : List Tip} {x0 : Maker} (h : Fits n A E x0) (hp : Places n x0.places x0.rows) (hR : (x0.rows.length : Int) ≤ x0.most) {s : Nat} (hs : s < x0.rows.length) {c : Nat} (hq : QOk x0.q c) (hc : c ≤ 1024) :
    ∃r,Fh_ x0 ((s:Nat):Int)=some r∧DoQ n x0 (doD A E x0.most (nth x0.rows s []) x0.rows x0.q) r:=by
  have hl:RowOk n (nth x0.rows s []):=hp.ok _ (fv_ _ hs)
  have hn:=h.hn
  have hm2:=h.m2
  have hlen:(nth x0.rows s []).length≤n:=by
    have:=wn_ (by omega) hl.inc hl.st
    omega
  unfold Fh_ doD
  rw [dx_ (by omega),tn_,tail_ok h.toKnows hl,d7_]
  cases htl:su_ E (nth x0.rows s [])with
  |inl e=>exact ⟨_,rfl,rfl⟩
  | inr bt =>
    obtain ⟨bb,tt⟩:=bt
    show ∃r,Ed_ x0 ((s:Nat):Int) (bb,tt)=some r∧DoQ n x0 (match hm_ A x0.most (nth x0.rows s []) x0.rows 256 with| .inl e=> .inl e| .inr (R',N,O)=> .inr (R',p3_ x0.q N O bb tt)) r
    unfold Ed_
    refine ej_ (step:=fun q:(List (List Tip))×(FM T_1 Int)×N_1×T_2×Nat=>Al_ x0 ((s:Nat):Int) (bb,tt) q.1 q.2.1 q.2.2.1 q.2.2.2.1 q.2.2.2.2) (fun (z:List (List Tip)×FM T_1 Int×N_1×T_2) k=>(z.1,z.2.1,z.2.2.1,z.2.2.2,k)) 256
      (fun k z=> ∃R N O,hm_ A x0.most (nth x0.rows s []) x0.rows k= .inr (R,N,O)∧Places n z.2.1 R∧z.1=R∧z.2.2.1=N++List.replicate (256 - N.length) 0∧z.2.2.2=O++List.replicate (256 - O.length) [])
      _ ?_ ?_ (s0:=(x0.rows,x0.places,List.replicate 256 0,List.replicate 256 [])) ⟨x0.rows,[],[],rfl,hp,rfl,by simp,by simp⟩
    · rintro k ⟨z1,m,z3,z4⟩ hk ⟨R,N,O,hb,hpl,e1,e3,e4⟩
      simp only at e1 e3 e4 hpl
      subst e1 e3 e4
      obtain ⟨hRl,⟨X,hX⟩,hN,hO⟩:=j8_ hR hb
      have hfit:=h.with' z1 m x0.q
      have hb1:hm_ A x0.most (nth x0.rows s []) x0.rows (k+1)=match sw_ A x0.most (nth x0.rows s []) (jo_ ((k:Nat):Int)) z1 with| .inl e=> .inl e| .inr (R2,z,o)=> .inr (R2,N++[z],O++[o]):=by rw [hm_,hb]<;>rfl
      have hbl:(mj_ A (nth x0.rows s []) (jo_ ((k:Nat):Int))).length≤1000000:=by
        have h1:=py_ A (jo_ ((k:Nat):Int)) (nth x0.rows s [])
        have h2:(nth x0.rows s []).length * A.length≤n * A.length:=Nat.mul_le_mul_right _ hlen
        have h3:=h.few
        omega
      have hkN:k<(N++List.replicate (256 - N.length) (0:Int)).length:=by simp;omega
      have hkO:k<(O++List.replicate (256 - O.length) ([]:T_1)).length:=by simp;omega
      have e1:(N++List.replicate (256 - N.length) (0:Int)).set k (-1)=(N++[-1])++List.replicate (256 - (N++[(-1:Int)]).length) 0:=by
        have:=nn_ N 256 (-1:Int) 0 (by omega)
        rwa [hN]at this ⊢
      have e2: ∀z:Int,((N++List.replicate (256 - N.length) (0:Int)).set k (-1)).set k z=(N++[z])++List.replicate (256 - (N++[z]).length) 0:=fun z=>by
        rw [Jp_]
        have:=nn_ N 256 z 0 (by omega)
        rwa [hN]at this ⊢
      have e3: ∀o:T_1,(O++List.replicate (256 - O.length) ([]:T_1)).set k o=(O++[o])++List.replicate (256 - (O++[o]).length) []:=fun o=>by
        have:=nn_ O 256 o [] (by omega)
        rwa [hO]at this ⊢
      have hO1:O++List.replicate (256 - O.length) ([]:T_1)=(O++[[]])++List.replicate (256 - (O++[([]:T_1)]).length) []:=by
        rw [ap_,la_,lo_,show 256 - O.length=(256 - (O.length+1))+1 by omega,List.replicate_succ];rfl
      -- the step
      have hst:Al_ x0 ((s:Nat):Int) (bb,tt) z1 m (N++List.replicate (256 - N.length) 0) (O++List.replicate (256 - O.length) []) k=
          d4_ (decide (0<(((mj_ A (nth x0.rows s []) (jo_ ((k:Nat):Int))).length:Nat):Int))) (bnd (some (iq_ (mj_ A (nth x0.rows s []) (jo_ ((k:Nat):Int))))) (fun v41=>j6_ v41 (fun v41k=>fin (some (.inl v41k))) (fun v41r=>bnd (Af_ (⟨x0.arcs,x0.ends,x0.most,z1,m,x0.q⟩:Maker) v41r.2) (fun v52=>j6_ v52 (fun v52k=>fin (some (.inl v52k))) (fun v52r=>Ch_ k v52r.2.rows v52r.2.places (((N++List.replicate (256 - N.length) (0:Int)).set k (-1)).set k v52r.1) ((O++List.replicate (256 - O.length) []).set k v41r.1))))))
          (Ch_ k z1 m ((N++List.replicate (256 - N.length) (0:Int)).set k (-1)) (O++List.replicate (256 - O.length) [])):=by
        unfold Al_
        rw [dy_ (by omega),dx_ hkN,tn_,beh_ok hfit.toKnows hl,d7_,te_ hbl (aaa_ h.ao hl _)]
        simp only [dx_ hkO,dx_ (show k<((N++List.replicate (256 - N.length) (0:Int)).set k (-1)).length by rw [ls_];exact hkN)]
      show (∃s':List (List Tip)×FM T_1 Int×N_1×T_2,Al_ x0 ((s:Nat):Int) (bb,tt) z1 m (N++List.replicate (256 - N.length) 0) (O++List.replicate (256 - O.length) []) k=some (.inl (s'.1,s'.2.1,s'.2.2.1,s'.2.2.2,k+1))∧_)∨ ∃r,Al_ x0 ((s:Nat):Int) (bb,tt) z1 m (N++List.replicate (256 - N.length) 0) (O++List.replicate (256 - O.length) []) k=some (.inr r)∧_
      rw [hst]
      unfold sw_ at hb1
      by_cases cb:mj_ A (nth x0.rows s []) (jo_ ((k:Nat):Int))=[]
      · rw [if_pos cb]at hb1
        left
        refine ⟨(z1,m,_,_),?_,z1,_,_,hb1,hpl,rfl,rfl,rfl⟩
        rw [cb,dz_ (by simp),e1,hO1];rfl
      rw [if_neg cb]at hb1
      have hpos:0<(mj_ A (nth x0.rows s []) (jo_ ((k:Nat):Int))).length:=List.length_pos_iff.2 cb
      rw [dy_ (by omega),d7_]
      cases hsd:iq_ (mj_ A (nth x0.rows s []) (jo_ ((k:Nat):Int)))with
      |inl e=>
        rw [hsd]at hb1
        right
        refine ⟨.inl e,rfl,?_⟩
        have:=n0_ hb1 (256 - (k+1))
        rw [show k+1+(256 - (k+1))=256 by omega]at this
        rw [this];rfl
      |inr fr=>
        obtain ⟨f,r⟩:=fr
        rw [hsd]at hb1
        have hrow:=(strip_row (n:=n) (by omega) (beh_st h.to _ _) hsd).1
        obtain ⟨k1,k2⟩:=tf_ (n:=n) (x0:=⟨x0.arcs,x0.ends,x0.most,z1,m,x0.q⟩) (by omega) hpl hrow (show z1.length≤1000000 by omega)
        show (∃s',bnd (Af_ ⟨x0.arcs,x0.ends,x0.most,z1,m,x0.q⟩ r) _=_∧_)∨ ∃q,bnd (Af_ ⟨x0.arcs,x0.ends,x0.most,z1,m,x0.q⟩ r) _=_∧_
        cases hsn:jl_ x0.most z1 r with
        |inl e=>
          simp only [hsn]at hb1
          rw [k1 e hsn,d7_]
          right
          refine ⟨.inl e,rfl,?_⟩
          have:=n0_ hb1 (256 - (k+1))
          rw [show k+1+(256 - (k+1))=256 by omega]at this
          rw [this];rfl
        |inr iR=>
          obtain ⟨i,R'⟩:=iR
          simp only [hsn]at hb1
          obtain ⟨m',hm1,hm2⟩:=k2 i R' hsn
          rw [hm1,d7_]
          left
          refine ⟨(R',m',_,_),?_,R',_,_,hb1,hm2,rfl,rfl,rfl⟩
          show Ch_ k R' m' _ _=_
          rw [e2,e3];rfl
    rintro ⟨z1,m,z3,z4⟩ ⟨R,N,O,hb,hpl,e1,e3,e4⟩
    simp only at e1 e3 e4 hpl
    subst e1 e3 e4
    obtain ⟨hRl,⟨X,hX⟩,hN,hO⟩:=j8_ hR hb
    have hq1:=hq.n
    have hq2:=hq.o
    have hq3:=hq.e
    have hq4:=hq.t
    refine ⟨.inr ⟨x0.arcs,x0.ends,x0.most,z1,m,p3_ x0.q N O bb tt⟩,?_,?_⟩
    · show Al_ x0 ((s:Nat):Int) (bb,tt) z1 m (N++List.replicate (256 - N.length) 0) (O++List.replicate (256 - O.length) []) 256=_
      unfold Al_
      rw [dz_ (by omega),dx_ (by simp;omega),dx_ (by simp;omega),dx_ (by simp;omega),dx_ (by simp;omega),hN,hO,Nat.sub_self,List.replicate_zero,List.append_nil,List.replicate_zero,List.append_nil]
      rfl
    rw [hb]
    exact ⟨m,rfl,hpl⟩
theorem do_len{A:List Arc}{E:List Tip}{most:Int}{l:List Tip}{R R':List (List Tip)}{q q':Seq}{c:Nat}(h:doD A E most l R q= .inr (R',q'))(hR:(R.length:Int)≤most)(hq:QOk q c):
    (R'.length:Int)≤most∧(∃X,R'=R++X)∧QOk q' (c+1)∧q'.front=q.front:=by
  unfold doD at h
  split at h
  · cases h
  split at h
  · cases h
  rename_i hb
  cases h
  obtain ⟨h1,h2,_,_⟩:=j8_ hR hb
  exact ⟨h1,h2,hq.push _ _ _ _,rfl⟩
theorem w6_ {n : Nat} {A : List Arc} {E : List Tip} {x0 : Maker} (h : Fits n A E x0) (v : T_1 × (List Tip)) : ∀ (g s : Nat) (R : List (List Tip)) (m : FM T_1 Int) (q : Seq), 1025 - s ≤ g → s ≤ R.length → Places n m R → (R.length : Int) ≤ x0.most → QOk q s → q.front = v.1 →
    ed_ (fun q:(List (List Tip))×(FM T_1 Int)×N_2×T_3×B_1×T_2×Nat=>Ag_ x0 v q.1 q.2.1 q.2.2.1 q.2.2.2.1 q.2.2.2.2.1 q.2.2.2.2.2.1 q.2.2.2.2.2.2) (R,m,q.next,q.outs,q.fin,q.tail,s)=some (ofR (allD A E x0.most g s R q))
  |0,s,R,m,q,hg,hs,hp,hR,hq,hf=>by have:=h.m2;omega
  | g + 1, s, R, m, q, hg, hs, hp, hR, hq, hf => by
    have hm2:=h.m2
    rw [allD]
    by_cases c:s<R.length
    · rw [if_pos c]
      have hfit:=h.with' R m q
      obtain ⟨r,h1,h2⟩:=do_ok hfit hp hR c hq (by omega)
      have eq1:(⟨v.1,q.next,q.outs,q.fin,q.tail⟩:Seq)=q:=by rw [←hf]
      have hst:Ag_ x0 v R m q.next q.outs q.fin q.tail s=j6_ r (fun k=>fin (bnd (F5_ k) (fun v70=>some (v70.1,v70.2)))) (fun r=>nxt (r.rows,r.places,r.q.next,r.q.outs,r.q.fin,r.q.tail,(s+1))):=by
        unfold Ag_
        rw [dy_ (by omega),eq1,h1,d7_]
      cases hd:doD A E x0.most (nth R s []) R q with
      |inl e=>
        have h2:r= .inl e:=by
          have:=h2
          change DoQ n _ (doD A E x0.most (nth R s []) R q) r at this
          rw [hd]at this;exact this
        refine e1_ ?_
        show Ag_ x0 v R m q.next q.outs q.fin q.tail s=_
        rw [hst,h2];rfl
      |inr rq=>
        obtain ⟨R',q'⟩:=rq
        obtain ⟨m',h3,h4⟩: ∃m',r= .inr ⟨x0.arcs,x0.ends,x0.most,R',m',q'⟩∧Places n m' R':=by
          have:=h2
          change DoQ n _ (doD A E x0.most (nth R s []) R q) r at this
          rw [hd]at this;exact this
        obtain ⟨h5,⟨X,h6⟩,h7,h8⟩:=do_len hd hR hq
        have hlen:R.length≤R'.length:=by rw [h6,la_];omega
        refine fq_ (s':=(R',m',q'.next,q'.outs,q'.fin,q'.tail,s+1)) ?_ (w6_ h v g (s+1) R' m' q' (by omega) (by omega) h4 h5 h7 (h8.trans hf))
        show Ag_ x0 v R m q.next q.outs q.fin q.tail s=_
        rw [hst,h3];rfl
    rw [if_neg c]
    refine e1_ ?_
    show Ag_ x0 v R m q.next q.outs q.fin q.tail s=_
    have eq1:(⟨v.1,q.next,q.outs,q.fin,q.tail⟩:Seq)=q:=by rw [←hf]
    unfold Ag_
    rw [dz_ (by omega),eq1];rfl
theorem all_eq{n:Nat}{t:Fst}{x0:Maker}(h:Fits n t.arcs t.ends x0)(hn:t.states=n)(ht:FstOk t)(hr:x0.rows=[])(hm:x0.places=FM.emp)(hq:x0.q=Seq.zero):E2_ x0 t=some (ofR (ofT t x0.most)):=by
  have hn2:=h.hn
  have hm1:=h.m1
  unfold E2_ ofT
  by_cases c:t.starts=[]
  · rw [if_pos c,c,dy_ (by simp)];rfl
  rw [if_neg c]
  have hpos:=List.length_pos_iff.2 c
  have hsl:=ht.startsN
  have hss: ∀x∈t.starts,0≤x.state∧x.state<(n:Int):=fun x hx=>by rw [←hn];exact (ht.starts x hx).1
  rw [dz_ (by omega),dx_ (by omega),te_ (by omega) (fun x hx=>by have:=(ht.starts x hx).2;omega),d7_]
  cases hsd:iq_ t.starts with
  |inl e=>rfl
  |inr fl=>
    obtain ⟨f,l⟩:=fl
    have hrow:=(strip_row (n:=n) (by omega) hss hsd).1
    obtain ⟨k1,k2⟩:=tf_ (n:=n) (x0:=⟨x0.arcs,x0.ends,x0.most,x0.rows,x0.places,⟨f,x0.q.next,x0.q.outs,x0.q.fin,x0.q.tail⟩⟩) (by omega) (by rw [hr,hm];exact Places.nil n) hrow (by rw [hr];simp)
    have hsn:jl_ x0.most x0.rows l= .inr (0,[l]):=by
      unfold jl_
      rw [hr,if_neg (by simp),if_neg (by simp;omega)];rfl
    obtain ⟨m',h1,h2⟩:=k2 0 [l] hsn
    show bnd (Af_ ⟨x0.arcs,x0.ends,x0.most,x0.rows,x0.places,⟨f,x0.q.next,x0.q.outs,x0.q.fin,x0.q.tail⟩⟩ l) _=_
    rw [h1,d7_]
    show ed_ _ ([l],m',x0.q.next,x0.q.outs,x0.q.fin,x0.q.tail,0)=_
    rw [hq]
    exact w6_ h (f,l) 1025 0 [l] m' ⟨f,[],[],[],[]⟩ (by omega) (by simp) h2 (by simp;omega) ⟨rfl,rfl,rfl,rfl⟩ rfl
end Go.Proofs.YtchebnpdnfhenaaGreatDoor
end

noncomputable section
namespace Go.Proofs.YtchebnpdnfhenaaGreatDoor
open Go Go.E
def ofD(t:Fst)(most:Int):Seq×Int:=if qr_ t=true∧1≤most∧most≤1024 then ofR (ofT (jy_ t) most) else (Seq.zero,1)
theorem of_ends {T : Fst} (hT : FstOk T) {most : Int} (h1 : 1 ≤ most) (h2 : most ≤ 1024) (hf : T.states.toNat * T.arcs.length ≤ 1000000) (e : Int) {la : List (List Arc)} (hG : Grp Arc.frm id T.states.toNat la T.arcs) :
    ed_ (fun q:T_3×Nat=>C5_ (T,e) la most q.1 q.2) ((List.replicate T.states.toNat ([]:T_2)),0)=some (ofR (ofT T most)):=by
  have hs:=hT.st0
  obtain ⟨r,k1,k2⟩:=ej_ (step:=fun q:T_3×Nat=>C5_ (T,e) la most q.1 q.2) (fun l k=>(l,k)) T.ends.length (fun k l=>Grp Tip.state Tip.out T.states.toNat l (T.ends.take k)) (fun r=>r=ofR (ofT T most))
    (fun k l hk hI=>by
      have hx:=(hT.ends _ (fv_ tz_ hk)).1
      have hle:=hI.len
      have hen:=hT.endsN
      have hgl:(nth l (nth T.ends k tz_).state.toNat []).length≤1024:=by
        have h3:=p9_ hI (i:=(nth T.ends k tz_).state.toNat) (by omega)
        rw [List.length_take]at h3;omega
      refine .inl ⟨l.set (nth T.ends k tz_).state.toNat (nth l (nth T.ends k tz_).state.toNat []++[(nth T.ends k tz_).out]),?_,?_⟩
      · show C5_ (T,e) la most l k=_
        unfold C5_ G5_
        show d4_ (decide (((k:Nat):Int)<((T.ends.length:Nat):Int))) _ _=_
        rw [dy_ (by omega),dx_ ⟨hx.1,by show (nth T.ends k tz_).state<_;omega⟩,dx_ (by show ((nth l (nth T.ends k tz_).state.toNat []).length+1) * 16≤_;omega),dx_ ⟨hx.1,by show (nth T.ends k tz_).state<_;omega⟩];rfl
      rw [eu_ _ hk tz_]
      exact hI.snoc hx.1 (by omega))
    (fun l hI=>by
      rw [List.take_length]at hI
      refine ⟨_,?_,rfl⟩
      have hfit:Fits T.states.toNat T.arcs T.ends ⟨la,l,most,[],FM.emp,⟨[],[],[],[],[]⟩⟩:=
        ⟨⟨hG,hI,hT.arcsN,fun a ha=>(hT.arcs a ha).2.2.2,fun x hx=>(hT.ends x hx).2,by have:=hT.st1;omega⟩,fun a ha=>by have:=(hT.arcs a ha).2.1;omega,hf,h1,h2⟩
      show C5_ (T,e) la most l T.ends.length=_
      unfold C5_
      rw [dz_ (by show ¬ ((T.ends.length:Nat):Int)<((T.ends.length:Nat):Int);omega),all_eq hfit (by omega) hT rfl rfl rfl,d7_];rfl) (s0:=List.replicate T.states.toNat []) (Grp.nil ..)
  rw [←k2];exact k1
theorem of_all {T : Fst} (hT : FstOk T) {most : Int} (h1 : 1 ≤ most) (h2 : most ≤ 1024) (hf : T.states.toNat * T.arcs.length ≤ 1000000) (e : Int) : F4_ (T, e) most = some (ofR (ofT T most)) := by
  have hs:=hT.st0
  unfold F4_
  obtain ⟨r,k1,k2⟩:=ej_ (step:=fun q:(List (List Arc))×Nat=>Ec_ (T,e) most q.1 q.2) (fun l k=>(l,k)) T.arcs.length (fun k l=>Grp Arc.frm id T.states.toNat l (T.arcs.take k)) (fun r=>r=ofR (ofT T most))
    (fun k l hk hI=>by
      have hx:=(hT.arcs _ (fv_ az_ hk)).1
      have hle:=hI.len
      have hen:=hT.arcsN
      have hgl:(nth l (nth T.arcs k az_).frm.toNat []).length≤16384:=by
        have h3:=p9_ hI (i:=(nth T.arcs k az_).frm.toNat) (by omega)
        rw [List.length_take]at h3;omega
      refine .inl ⟨l.set (nth T.arcs k az_).frm.toNat (nth l (nth T.arcs k az_).frm.toNat []++[(nth T.arcs k az_)]),?_,?_⟩
      · show Ec_ (T,e) most l k=_
        unfold Ec_ G8_
        show d4_ (decide (((k:Nat):Int)<((T.arcs.length:Nat):Int))) _ _=_
        rw [dy_ (by omega),dx_ ⟨hx.1,by show (nth T.arcs k az_).frm<_;omega⟩,dx_ (by show ((nth l (nth T.arcs k az_).frm.toNat []).length+1) * 72≤_;omega),dx_ ⟨hx.1,by show (nth T.arcs k az_).frm<_;omega⟩];rfl
      rw [eu_ _ hk az_]
      exact hI.snoc hx.1 (by omega))
    (fun l hI=>by
      rw [List.take_length]at hI
      refine ⟨_,?_,rfl⟩
      show Ec_ (T,e) most l T.arcs.length=_
      unfold Ec_
      rw [dz_ (by show ¬ ((T.arcs.length:Nat):Int)<((T.arcs.length:Nat):Int);omega)]
      show fin (ed_ (fun q:T_3×Nat=>C5_ (T,e) l most q.1 q.2) ((List.replicate T.states.toNat ([]:T_2)),0))=_
      rw [of_ends hT h1 h2 hf e hI];rfl) (s0:=List.replicate T.states.toNat []) (Grp.nil ..)
  rw [←k2];exact k1
theorem of_eq(t:Fst)(most:Int)(hf:qr_ t=true→(jy_ t).states.toNat * (jy_ t).arcs.length≤1000000):Hc_ t most=some (ofD t most):=by
  unfold Hc_ ofD
  rw [G3_,d7_]
  cases hb:qr_ t with
  |false=>rw [dy_ (by decide),if_neg (by simp)];rfl
  |true=>
    have ht:=(k0_ t).1 hb
    have hT:=ys_ ht
    have h0:=hT.st0
    have h9:=hT.st1
    rw [dz_ (by decide)]
    by_cases c1:most<1
    · rw [dy_ c1,if_neg (fun q=>by omega)];rfl
    rw [dz_ c1]
    by_cases c2:1024<most
    · rw [dy_ c2,if_neg (fun q=>by omega)];rfl
    rw [dz_ c2,if_pos ⟨rfl,by omega,by omega⟩,trim_eq,hb,if_pos rfl,d7_,dz_ (by simp)]
    show grd (0≤(jy_ t).states∧24 * (jy_ t).states.toNat≤281474976710656) (grd (0≤(jy_ t).states∧24 * (jy_ t).states.toNat≤281474976710656) (F4_ (jy_ t,0) most))=_
    rw [dx_ ⟨h0,by omega⟩,dx_ ⟨h0,by omega⟩,of_all hT (by omega) (by omega) (hf hb)]
end Go.Proofs.YtchebnpdnfhenaaGreatDoor
end

noncomputable section
namespace Go.Proofs.YtchebnpdnfhenaaGreatDoor
open Go Go.E
def aFrm(back:Bool)(x:Arc):Int:=if back=true then x.to else x.frm
def aTo(back:Bool)(x:Arc):Int:=if back=true then x.frm else x.to
def aE(t:Fst)(back:Bool)(a b:Int):Prop:= ∃x∈t.arcs,aFrm back x=a∧aTo back x=b
structure GI (t:Fst) (tips:List Tip) (back:Bool) (l:B_1):Prop where
  len:l.length=t.states.toNat
  sound: ∀v:Nat,nth l v false=true→Rch (fun c=> ∃x∈tips,x.state=c) (aE t back) v
  tip: ∀x∈tips,nth l x.state.toNat false=true
end Go.Proofs.YtchebnpdnfhenaaGreatDoor
end

noncomputable section
namespace Go.Proofs.YtchebnpdnfhenaaGreatDoor
open Go Go.E
end Go.Proofs.YtchebnpdnfhenaaGreatDoor
end

noncomputable section
namespace Go.Proofs.YtchebnpdnfhenaaGreatDoor
open Go Go.E
section
variable {α:Type} (cf:α→α→Int)
def insG(x:α):List α→List α
  |[]=>[x]
  |y::l=>if cf y x<0 then y::insG x l else x::y::l
def nr_:List α→List α
  |[]=>[]
  |x::l=>insG cf x (nr_ l)
theorem ob_(x:α): ∀l,(insG cf x l).Perm (x::l)
  |[]=>List.Perm.refl _
  |y::l=>by
    unfold insG
    split
    · exact ((ob_ x l).cons y).trans (List.Perm.swap x y l)
    exact List.Perm.refl _
theorem n6_: ∀l,(nr_ cf l).Perm l
  |[]=>List.Perm.refl _
  |x::l=>(ob_ cf x _).trans ((n6_ l).cons x)
variable {cf} [DecidableEq α] (hc:GoodCmp cf)
include hc
theorem n4_ (x : α) : ∀ l : List α, l.Pairwise (fun x y => ¬ cf y x < 0) → (insG cf x l).Pairwise fun x y => ¬ cf y x < 0
  |[],_=>List.pairwise_singleton _ _
  | y :: l, h => by
    obtain ⟨h1,h2⟩:=List.pairwise_cons.1 h
    unfold insG
    split
    · rename_i h3
      refine List.pairwise_cons.2 ⟨fun z hz=> ?_,n4_ x l h2⟩
      rcases List.mem_cons.1 ((ob_ cf x l).mem_iff.1 hz)with rfl|hz
      · have:=hc.anti y z
        omega
      exact h1 z hz
    rename_i h3
    refine List.pairwise_cons.2 ⟨fun z hz=> ?_,h⟩
    rcases List.mem_cons.1 hz with rfl|hz
    · exact h3
    exact hc.le_trans h3 (h1 z hz)
theorem k3_: ∀l:List α,(nr_ cf l).Pairwise fun x y=> ¬ cf y x<0
  |[]=>List.Pairwise.nil
  |x::l=>n4_ hc x _ (k3_ l)
theorem wk_(l:List α):nr_ cf l=gi_ cf l:=by
  refine List.Perm.eq_of_pairwise (le:=fun x y=> ¬ cf y x<0) (fun x y _ _ h k=> ?_) (k3_ hc l) (Hx_ hc l) ((n6_ cf l).trans (List.mergeSort_perm l _).symm)
  have e:=hc.eq x y
  have a:=hc.anti y x
  exact e.1 (by omega)
end
theorem w9_(l:List Tip):nr_ ex_ l=gi_ ex_ l:=wk_ fn_ l
end Go.Proofs.YtchebnpdnfhenaaGreatDoor
end

noncomputable section
namespace Go.Proofs.YtchebnpdnfhenaaGreatDoor
open Go Go.E Go.E.OpVal Go.E.OpOk
end Go.Proofs.YtchebnpdnfhenaaGreatDoor
end

noncomputable section
namespace Go.Proofs.YtchebnpdnfhenaaGreatDoor
open Go Go.E
theorem vw_{t:Fst}(ht:FstOk t)(hu: ∀s,s<t.states.toNat→hy_ t s=true)(h1:t.starts.Pairwise fun x y=>ex_ x y<0)(h2:t.ends.Pairwise fun x y=>ex_ x y<0)(h3:t.arcs.Pairwise fun x y=>ji_ x y<0):jy_ t=t:=by
  have hs:=ht.st0
  have e:uj_ (hy_ t) t=t:=by
    show (⟨((f3_ (hy_ t) t.states.toNat:Nat):Int),hv_ (hy_ t) t.starts,hv_ (hy_ t) t.ends,iw_ (hy_ t) t.arcs⟩:Fst)=t
    rw [kj_ _ hu,rl_ hu (fun x hx=>by have:=(ht.starts x hx).1;omega),rl_ hu (fun x hx=>by have:=(ht.ends x hx).1;omega),wm_ hu (fun x hx=>by have:=ht.arcs x hx;omega),show ((t.states.toNat:Nat):Int)=t.states by omega]
  unfold jy_
  rw [e]
  unfold srt
  rw [H8_ fn_ h1,H8_ fn_ h2,H8_ m6_ h3]
def aab_(l:List Tip):List Tip:=ddN tz_ (nr_ ex_ l) (nr_ ex_ l).length
theorem Jn_(l:List Tip):aab_ l=gt_ tz_ ex_ l:=by unfold aab_ gt_;rw [w9_,Ef_]
def t6_(l:List Tip):Int⊕(T_1×List Tip):=
  let m:=aab_ l
  if th_ m=true then .inl 12 else
  let f:=fw_ (m.map Tip.out)
  if 4096<f.length then .inl 2 else
  if ∃x∈m,4096<(x.out.drop f.length).length then .inl 2 else .inr (f,m.map (pi_ f.length))
theorem rn_(l:List Tip):t6_ l=iq_ l:=by unfold t6_ iq_;rw [Jn_]
def z3_ (A : List Arc) (most : Int) (l : List Tip) (b : UInt8) (R : List (List Tip)) : Int ⊕ (List (List Tip) × Int × T_1) :=
  if mj_ A l b=[] then .inr (R, -1,[]) else
  match t6_ (mj_ A l b)with
  | .inl k=> .inl k
  | .inr (f,r)=>match jl_ most R r with
    | .inl k=> .inl k
    | .inr (i,R')=> .inr (R',((i:Nat):Int),f)
theorem ym_(A:List Arc)(most:Int)(l:List Tip)(b:UInt8)(R:List (List Tip)):z3_ A most l b R=sw_ A most l b R:=by unfold z3_ sw_;rw [rn_]<;>rfl
def ty_ (A : List Arc) (most : Int) (l : List Tip) (R : List (List Tip)) : Nat → Int ⊕ (List (List Tip) × N_1 × T_2)
  |0=> .inr (R,[],[])
  | k + 1 => match ty_ A most l R k with
    | .inl e=> .inl e
    | .inr (R1,N,O)=>match z3_ A most l (jo_ ((k:Nat):Int)) R1 with
      | .inl e=> .inl e
      | .inr (R2,z,o)=> .inr (R2,N++[z],O++[o])
theorem rb_(A:List Arc)(most:Int)(l:List Tip)(R:List (List Tip)): ∀k,ty_ A most l R k=hm_ A most l R k
  |0=>rfl
  |k+1=>by
    rw [ty_,hm_,rb_ A most l R k]
    cases hm_ A most l R k with
    |inl e=>rfl
    |inr x=>simp only [ym_]<;>rfl
def doK (A : List Arc) (E : List Tip) (most : Int) (l : List Tip) (R : List (List Tip)) (q : Seq) : Int ⊕ (List (List Tip) × Seq) :=
  match su_ E l with
  | .inl e=> .inl e
  | .inr (b,t)=>match ty_ A most l R 256 with
    | .inl e=> .inl e
    | .inr (R',N,O)=> .inr (R',p3_ q N O b t)
theorem doK_eq(A:List Arc)(E:List Tip)(most:Int)(l:List Tip)(R:List (List Tip))(q:Seq):doK A E most l R q=doD A E most l R q:=by unfold doK doD;rw [rb_]<;>rfl
def allK (A : List Arc) (E : List Tip) (most : Int) : Nat → Nat → List (List Tip) → Seq → Int ⊕ (List (List Tip) × Seq)
  |0,_,R,q=> .inr (R,q)
  | g + 1, s, R, q => if s < R.length then
      match doK A E most (nth R s []) R q with
      | .inl e=> .inl e
      | .inr (R',q')=>allK A E most g (s+1) R' q'
    else .inr (R,q)
theorem xk_(A:List Arc)(E:List Tip)(most:Int): ∀(g s:Nat) (R:List (List Tip)) (q:Seq),allK A E most g s R q=allD A E most g s R q
  |0,_,_,_=>rfl
  | g + 1, s, R, q => by
    rw [allK,allD,doK_eq]
    by_cases c:s<R.length
    · rw [if_pos c,if_pos c]
      cases doD A E most (nth R s []) R q with
      |inl e=>rfl
      |inr x=>exact xk_ A E most g (s+1) _ _
    rw [if_neg c,if_neg c]
def ofK(t:Fst)(most:Int):Int⊕(List (List Tip)×Seq):=
  if t.starts=[] then .inr ([],Seq.zero) else
  match t6_ t.starts with
  | .inl e=> .inl e
  | .inr (f,l)=>allK t.arcs t.ends most 1025 0 [l] ⟨f,[],[],[],[]⟩
theorem ofK_eq(t:Fst)(most:Int):ofK t most=ofT t most:=by
  unfold ofK ofT
  rw [rn_]
  by_cases c:t.starts=[]
  · rw [if_pos c,if_pos c]
  rw [if_neg c,if_neg c]
  cases iq_ t.starts with
  |inl e=>rfl
  |inr x=>exact xk_ ..
end Go.Proofs.YtchebnpdnfhenaaGreatDoor
end

noncomputable section
namespace Go.E
open Go
structure Grow where
  f:Fst
  over:Bool
end Go.E
end

noncomputable section
namespace Go.Proofs.YtchebnpdnfhenaaGreatDoor
open Go Go.E Go.E.OpVal Go.E.OpOk
end Go.Proofs.YtchebnpdnfhenaaGreatDoor
end

noncomputable section
namespace Go.Proofs.YtchebnpdnfhenaaGreatDoor
open Go Go.E Go.E.OpVal Go.E.OpOk
end Go.Proofs.YtchebnpdnfhenaaGreatDoor
end

noncomputable section
namespace Go.E
open Go
end Go.E
end

noncomputable section
namespace Go.E
open Go
structure FPr where
  p:Int
  q:Int
  deriving DecidableEq
def fz_:FPr:=⟨0,0⟩
structure SPr where
  a:List UInt8
  b:List UInt8
  deriving DecidableEq
def SPr.zero:SPr:=⟨[],[]⟩
structure Visit where
  at':FPr
  lag:SPr
  deriving DecidableEq
def Visit.zero:Visit:=⟨fz_,SPr.zero⟩
structure FBox where
  what:Visit
  frm:Int
  by':UInt8
  deriving DecidableEq
def FBox.zero:FBox:=⟨Visit.zero,0,0⟩
structure Hop where
  live:Bool
  last:Bool
  x:Int
  y:Int
  by':UInt8
  deriving DecidableEq
def Hop.zero:Hop:=⟨false,false,0,0,0⟩
structure FBack where
  frm:Int
  x:Int
  y:Int
  deriving DecidableEq
def FBack.zero:FBack:=⟨0,0,0⟩
structure Search where
  t:Fst
  arcs:List (List Int)
  ends:List (List (List UInt8))
  hops:List Hop
  row:List FBox
  place:List Int
  text:List UInt8
  found:Bool
end Go.E
end

noncomputable section
namespace Go.Proofs.YtchebnpdnfhenaaGreatDoor
open Go Go.E Go.E.OpVal Go.E.OpOk Go.Proofs.Tryz
theorem pf14:plainF Tryz.prog 14=true:=by kernel_rfl
theorem pf17:plainF Tryz.prog 17=true:=by kernel_rfl
theorem pf18:plainF Tryz.prog 18=true:=by kernel_rfl
theorem pf19:plainF Tryz.prog 19=true:=by kernel_rfl
theorem pf30:plainF Tryz.prog 30=true:=by kernel_rfl
theorem pf38:plainF Tryz.prog 38=true:=by kernel_rfl
theorem pf51:plainF Tryz.prog 51=true:=by kernel_rfl
def As_:Option (Bool):=
 grd ([(97:UInt8)].length≤1000000000000) (grd ([(98:UInt8)].length≤1000000000000) (grd ([(99:UInt8)].length≤1000000000000) (bnd (Hc_ (⟨3,[(⟨0,([]:T_1)⟩:Tip)],[(⟨2,([122]:T_1)⟩:Tip)],[(⟨0,1,(BSet.ofL [(97:UInt8)]),([]:T_1),false⟩:Arc),(⟨1,2,(BSet.ofL [(98:UInt8)]),([120]:T_1),false⟩:Arc),(⟨1,2,(BSet.ofL [(99:UInt8)]),([120,121]:T_1),false⟩:Arc)]⟩:Fst) 9) (fun v20=>bnd (Ct_ v20.1) (fun v28=>bnd (Ea_ v28.1 ([97,99]:T_1)) (fun v36=>d4_ (decide (v20.2=0)) (d4_ (decide (v28.2=v20.2)) (d4_ (decide (v28.1.front=([120]:T_1))) (d4_ (decide (((v28.1.next.length:Nat):Int)=3)) (d4_ (decide (v36.1=([120,121,122]:T_1))) (d4_ v36.2.2.1 (some (decide (v36.2.2.2=v20.2))) (some false)) (some false)) (some false)) (some false)) (some false)) (some false)))))))
theorem C0_{σ:dw_}(hgl:GT2 σ 1 2){r:Bool}(hh:As_=some r):
  Con Tryz.prog 30 #[] σ [] (e5_ (.bool r) σ):=by
 dsimp only [As_]at hh
 refine Con.mk (n:=72) Tryz.func30 z z z (fun w0=> ?_)
 refine TC.a (TL.j z z (TL.en (TC.a (TL.w z (aw_ z pl76 k8_ z) (TL.op z (OpOk.lit (enc:=d2_) [(⟨0,([]:T_1)⟩:Tip)] z underlying22 gh_ k8_ z z z d0_ (by decide) (by decide) tz_ z (by decide) z (by decide) f5_ (fun a101 c102=> ?_)))))))
 refine TL.w z (aw_ z pl76 k8_ z) (TL.op z (OpOk.lit (enc:=d2_) [(⟨2,([122]:T_1)⟩:Tip)] z underlying22 gh_ k8_ z z z d0_ (by decide) (by decide) tz_ z (by decide) z (by decide) f5_ (fun a104 c105=> ?_)))
 refine TL.op z (OpOk.lit (enc:=e7_) [(97:UInt8)] z underlying60 sz5 ze5 z z z g7_ (by decide) (by decide) (0:UInt8) z (by decide) z (by decide) g3_ (fun a107 c108=> ?_))
 obtain ⟨u7,hh⟩:=d1_ hh
 refine TL.op z (ch_ (v4_ _ _ _ [(97:UInt8)] u7) z z pf51 z z z z ?_)
 refine TL.w z (aw_ z pl66 og_ z) (TL.op z (OpOk.lit (enc:=e7_) [(98:UInt8)] z underlying60 sz5 ze5 z z z g7_ (by decide) (by decide) (0:UInt8) z (by decide) z (by decide) g3_ (fun a110 c111=> ?_)))
 obtain ⟨u10,hh⟩:=d1_ hh
 refine TL.op z (ch_ (v4_ _ _ _ [(98:UInt8)] u10) z z pf51 z z z z ?_)
 refine TL.w z (aw_ z pl66 og_ z) (TL.op z (OpOk.lit (enc:=e7_) [(99:UInt8)] z underlying60 sz5 ze5 z z z g7_ (by decide) (by decide) (0:UInt8) z (by decide) z (by decide) g3_ (fun a113 c114=> ?_)))
 obtain ⟨u13,hh⟩:=d1_ hh
 refine TL.op z (ch_ (v4_ _ _ _ [(99:UInt8)] u13) z z pf51 z z z z ?_)
 refine TL.w z (aw_ z pl66 og_ z) (TL.op z (OpOk.lit (enc:=ep_) [(⟨0,1,(BSet.ofL [(97:UInt8)]),([]:T_1),false⟩:Arc),(⟨1,2,(BSet.ofL [(98:UInt8)]),([120]:T_1),false⟩:Arc),(⟨1,2,(BSet.ofL [(99:UInt8)]),([120,121]:T_1),false⟩:Arc)] z underlying23 h0_ og_ z z z eo_ (by decide) (by decide) az_ z (by decide) z (by decide) g0_ (fun a116 c117=> ?_)))
 refine TL.w z (aw_ z pl25 xw_ z) (TL.op z (OpOk.alloc z xw_ z z (fun b119=> ?_)))
 refine TL.op z (storeAll z ol_ z z z z z z ?_)
 refine TL.en (TC.a (TL.w z (am_ z s6_ ol_ z (i:=0) z z) (TL.front 3 z z (TL.a4_ d0_ (fun τ123 hle122 hr121=> ?_)))))
 replace hgl:=hgl.mono hle122
 have hr121b:=hr121.rv.big
 refine TL.front 2 z z (TL.a4_ d0_ (fun τ126 hle125 hr124=> ?_))
 replace hgl:=hgl.mono hle125
 replace hr121:=hr121.mono hle125
 have hr124b:=hr124.rv.big
 refine TL.front 1 z z (TL.a4_ eo_ (fun τ129 hle128 hr127=> ?_))
 replace hgl:=hgl.mono hle128
 replace hr121:=hr121.mono hle128
 replace hr124:=hr124.mono hle128
 have hr127b:=hr127.rv.big
 obtain ⟨v20,u20,hh⟩:=d8_ hh
 refine TL.op z (OpOk.call (Je_ (x0:=(⟨3,[(⟨0,([]:T_1)⟩:Tip)],[(⟨2,([122]:T_1)⟩:Tip)],[(⟨0,1,(BSet.ofL [(97:UInt8)]),([]:T_1),false⟩:Arc),(⟨1,2,(BSet.ofL [(98:UInt8)]),([120]:T_1),false⟩:Arc),(⟨1,2,(BSet.ofL [(99:UInt8)]),([120,121]:T_1),false⟩:Arc)]⟩:Fst)) hgl hr121 hr124 hr127 u20) z z pf14 z z z z ?_)
 rintro _ τ130 _ hle130 ⟨a130_1,c130_1,a130_2,c130_2,a130_3,c130_3,a130_4,c130_4,rfl,hr130_0,hr130_1,hr130_2,hr130_3,rfl⟩
 replace hgl:=hgl.mono hle130
 have hr130_0b:=hr130_0.big
 have hr130_1b:=hr130_1.big
 have hr130_2b:=hr130_2.rv.big
 have hr130_3b:=hr130_3.rv.big
 refine TL.w z (a5_ (.inl z) z) (TL.w z (OpVal.extract z z z) (TL.w z (OpVal.extract z z z) (TL.op z (OpOk.alloc z jg_ z z (fun b131=> ?_)))))
 refine TL.op z (storeAll z fi_ z z z z z z ?_)
 refine TL.i z z (TL.en (TC.a (TL.w z (am_ z gu_ fi_ z (i:=0) z z) ?_)))
 obtain ⟨v28,u28,hh⟩:=d8_ hh
 refine TL.op z (OpOk.call (Fm_ (x0:=v20.1) hgl hr130_0 hr130_1 hr130_2 hr130_3 u28) z z pf29 z z z z ?_)
 rintro _ τ133 _ hle133 ⟨a133_1,c133_1,a133_2,c133_2,a133_3,c133_3,a133_4,c133_4,rfl,hr133_0,hr133_1,hr133_2,hr133_3,rfl⟩
 have hr133_0b:=hr133_0.big
 have hr133_1b:=hr133_1.big
 have hr133_2b:=hr133_2.rv.big
 have hr133_3b:=hr133_3.rv.big
 refine TL.w z (a5_ (.inl z) z) (TL.w z (OpVal.extract z z z) (TL.w z (OpVal.extract z z z) (TL.op z (OpOk.alloc z jg_ z z (fun b134=> ?_)))))
 refine TL.op z (storeAll z fi_ z z z z z z ?_)
 refine TL.i z z (TL.en (TC.a (TL.w z (am_ z gu_ fi_ z (i:=0) z z) ?_)))
 obtain ⟨v36,u36,hh⟩:=d8_ hh
 refine TL.op z (av_ (Fy_ (x0:=v28.1) hr133_0 hr133_1 hr133_2 hr133_3 u36) z z pf19 z z z ?_)
 refine TL.w z (a5_ (.inl z) z) (TL.w z (OpVal.extract z z z) (TL.w z (OpVal.extract z z z) (TL.w z (OpVal.extract z z z) (TL.w z (OpVal.extract z z z) (TL.w z (ad_ (.inr z) z) (TL.i z z (TL.j z z (TL.i z z (TL.en (TC.a (TL.i z z (TL.w z (OpVal.eql z z z) (TL.j z z (TL.split 44 z (fun h136=> ?_) (fun h136=> ?_)))))))))))))))
 ·replace hh:=ea_ h136 hh
  replace h136:=dt_ h136
  refine TL.g z (aj_ (.inl z) z) (TL.g z (aj_ (.inl z) z) (TL.g z (OpVal.eql z z z) (TL.w z (ai_ z z z) (TL.j z z (TL.split 49 z (fun h137=> ?_) (fun h137=> ?_))))))
  ·replace hh:=ea_ h137 hh
   replace h137:=dt_ h137
   refine TL.g z (aa_ z g5_ z) (TL.g z (ab_ z ag9 z (i:=0) z z) (TL.g z (cg_ z z z) (TL.w z (ai_ z z z) (TL.j z z (TL.split 54 z (fun h138=> ?_) (fun h138=> ?_))))))
   ·replace hh:=ea_ h138 hh
    replace h138:=dt_ h138
    refine TL.g z (aa_ z e0_ z) (TL.g z (ab_ z hn_ z (i:=0) z z) (TL.g z (lenC z underlying27 z) (TL.g z (OpVal.eql z z z) (TL.w z (ai_ z z z) (TL.j z z (TL.split 60 z (fun h139=> ?_) (fun h139=> ?_)))))))
    ·replace hh:=ea_ h139 hh
     replace h139:=dt_ h139
     refine TL.g z (ad_ (.inl z) z) (TL.g z (cg_ z z z) (TL.w z (ai_ z z z) (TL.j z z (TL.split 64 z (fun h140=> ?_) (fun h140=> ?_)))))
     ·replace hh:=ea_ h140 hh
      replace h140:=dt_ h140
      refine TL.g z (moveB (.inl z) z) (TL.w z (ai_ z z z) (TL.j z z (TL.split 67 z (fun h141=> ?_) (fun h141=> ?_))))
      ·replace hh:=ea_ h141 hh
       refine TL.g z (aj_ (.inl z) z) (TL.g z (aj_ (.inl z) z) (TL.g z (OpVal.eql z z z) (TL.w z (ai_ z z z) (TL.j z z (TL.en (TC.ax_ (Sub.pre 0 z) (TC.back (TC.ret ?_))))))))
       obtain rfl:=so hh
       exact rq [0] ⟨z,z,z⟩
      replace hh:=d9_ h141 hh
      refine TL.f z (TL.f z (TL.f z (TL.w z (ac_ z z z) (TL.j z z (TL.en (TC.ax_ (Sub.pre 0 z) (TC.back (TC.ret ?_))))))))
      obtain rfl:=so hh
      exact rq [0] ⟨z,z,z⟩
     replace hh:=d9_ h140 hh
     replace h140:=df_ h140
     refine TL.f z (TL.w z (ac_ z z z) (TL.j z z (TL.f z (TL.f z (TL.f z (TL.w z (ac_ z z z) (TL.j z z (TL.en (TC.ax_ (Sub.pre 0 z) (TC.back (TC.ret ?_)))))))))))
     obtain rfl:=so hh
     exact rq [0] ⟨z,z,z⟩
    replace hh:=d9_ h139 hh
    replace h139:=df_ h139
    refine TL.f z (TL.f z (TL.w z (ac_ z z z) (TL.j z z (TL.f z (TL.w z (ac_ z z z) (TL.j z z (TL.f z (TL.f z (TL.f z (TL.w z (ac_ z z z) (TL.j z z (TL.en (TC.ax_ (Sub.pre 0 z) (TC.back (TC.ret ?_)))))))))))))))
    obtain rfl:=so hh
    exact rq [0] ⟨z,z,z⟩
   replace hh:=d9_ h138 hh
   replace h138:=df_ h138
   refine TL.f z (TL.f z (TL.f z (TL.f z (TL.w z (ac_ z z z) (TL.j z z (TL.f z (TL.f z (TL.w z (ac_ z z z) (TL.j z z (TL.f z (TL.w z (ac_ z z z) (TL.j z z (TL.f z (TL.f z (TL.f z ?_)))))))))))))))
   refine TL.w z (ac_ z z z) (TL.j z z (TL.en (TC.ax_ (Sub.pre 0 z) (TC.back (TC.ret ?_)))))
   obtain rfl:=so hh
   exact rq [0] ⟨z,z,z⟩
  replace hh:=d9_ h137 hh
  replace h137:=df_ h137
  refine TL.f z (TL.f z (TL.f z (TL.w z (ac_ z z z) (TL.j z z (TL.f z (TL.f z (TL.f z (TL.f z (TL.w z (ac_ z z z) (TL.j z z (TL.f z (TL.f z (TL.w z (ac_ z z z) (TL.j z z (TL.f z ?_)))))))))))))))
  refine TL.w z (ac_ z z z) (TL.j z z (TL.f z (TL.f z (TL.f z (TL.w z (ac_ z z z) (TL.j z z (TL.en (TC.ax_ (Sub.pre 0 z) (TC.back (TC.ret ?_))))))))))
  obtain rfl:=so hh
  exact rq [0] ⟨z,z,z⟩
 replace hh:=d9_ h136 hh
 replace h136:=df_ h136
 refine TL.f z (TL.f z (TL.f z (TL.w z (ac_ z z z) (TL.j z z (TL.f z (TL.f z (TL.f z (TL.w z (ac_ z z z) (TL.j z z (TL.f z (TL.f z (TL.f z (TL.f z (TL.w z (ac_ z z z) (TL.j z z ?_)))))))))))))))
 refine TL.f z (TL.f z (TL.w z (ac_ z z z) (TL.j z z (TL.f z (TL.w z (ac_ z z z) (TL.j z z (TL.f z (TL.f z (TL.f z (TL.w z (ac_ z z z) (TL.j z z (TL.en (TC.ax_ (Sub.pre 0 z) (TC.back (TC.ret ?_)))))))))))))))
 obtain rfl:=so hh
 exact rq [0] ⟨z,z,z⟩
def Cc_(x0:Seq)(x1:T_1):Option (Bool):=
 grd (x1.length≤281474976710656) (bnd (Dt_ x0) (fun v4=>d4_ (!v4) (some true) (d4_ (decide (50<((x1.length:Nat):Int))) (some true) (bnd (Ea_ x0 x1) (fun v14=>bnd (Ex_ x0) (fun v25=>bnd (Ct_ x0) (fun v33=>d4_ (decide (v14.2.2.2≠0)) (bnd (As_) (fun v50=>d4_ v50 (d4_ (decide (v25.2=v33.2)) (d4_ (decide (v14.2.2.2=0)) (some true) (some (decide (v25.2=v14.2.2.2)))) (some false)) (some false))) (d4_ (decide (v25.2≠0)) (bnd (As_) (fun v50=>d4_ v50 (d4_ (decide (v25.2=v33.2)) (d4_ (decide (v14.2.2.2=0)) (some true) (some (decide (v25.2=v14.2.2.2)))) (some false)) (some false))) (d4_ (decide (v33.2≠0)) (bnd (As_) (fun v50=>d4_ v50 (d4_ (decide (v25.2=v33.2)) (d4_ (decide (v14.2.2.2=0)) (some true) (some (decide (v25.2=v14.2.2.2)))) (some false)) (some false))) (bnd (Ea_ v25.1 x1) (fun v68=>bnd (Ea_ v33.1 x1) (fun v80=>bnd (Ct_ v33.1) (fun v91=>bnd (Gq_ x0 v33.1) (fun v100=>bnd (As_) (fun v106=>d4_ v106 (d4_ (decide (v68.2.2.2=0)) (d4_ (decide (v80.2.2.2=v68.2.2.2)) (d4_ (decide (v14.1=v68.1)) (d4_ (v14.2.2.1 == v68.2.2.1) (d4_ (decide (v14.1=v80.1)) (d4_ (v14.2.2.1 == v80.2.2.1) (d4_ (decide (v91.2=v68.2.2.2)) (bnd (Ck_ v91.1 v33.1) (fun v144=>d4_ v144 (d4_ (decide (((v33.1.next.length:Nat):Int)≤((v25.1.next.length:Nat):Int))) (d4_ (decide (((v25.1.next.length:Nat):Int)≤((x0.next.length:Nat):Int))) (d4_ v100.1 (some (decide (v100.2=v68.2.2.2))) (some false)) (some false)) (some false)) (some false))) (some false)) (some false)) (some false)) (some false)) (some false)) (some false)) (some false)) (some false))))))))))))))))
theorem Gh_ {σ : dw_} {x0 : Seq} {a0_0 : Option Addr} {c0_0 : Nat} {a0_1 : Option Addr} {c0_1 : Nat} {a0_2 : Option Addr} {c0_2 : Nat} {a0_3 : Option Addr} {c0_3 : Nat} {x1 : T_1} (hgl : GT2 σ 1 2) (f0_0 : RZ σ (d6_ 1 eI_ ei_) (.slice a0_0 x0.next.length c0_0) x0.next) (f0_1 : RZ σ (d6_ 1 eS_ el_) (.slice a0_1 x0.outs.length c0_1) x0.outs) (f0_2 : rS_ σ et_ a0_2 c0_2 x0.fin) (f0_3 : rS_ σ eS_ a0_3 c0_3 x0.tail) {r : Bool} (hh : Cc_ x0 x1 = some r) :
  Con Tryz.prog 11 #[.agg (aq_ x0 a0_0 c0_0 a0_1 c0_1 a0_2 c0_2 a0_3 c0_3),.string (bs x1)] σ [] (e5_ (.bool r) σ):=by
 dsimp only [Cc_]at hh
 have f0_0b:=f0_0.big
 have f0_1b:=f0_1.big
 have f0_2b:=f0_2.rv.big
 have f0_3b:=f0_3.rv.big
 refine Con.mk (n:=169) Tryz.func11 z z z (fun w0=> ?_)
 have x1b:=nx_ hh
 replace hh:=nb_ hh
 refine TC.a (TL.op z (boxA z z z z (fun b101=> ?_)))
 refine TL.j z z (TL.en (TC.seq (TC.a (TL.w z (am_ z gu_ fi_ z (i:=0) z z) ?_))))
 obtain ⟨v4,u4,hh⟩:=d8_ hh
 refine TL.op z (av_ (Hm_ (x0:=x0) f0_0 f0_1 f0_2 f0_3 u4) z z pf18 z z z ?_)
 refine TL.w z (OpVal.not z z) (TL.j z z (TL.split 28 z (fun h103=> ?_) (fun h103=> ?_)))
 ·replace hh:=ea_ h103 hh
  refine TL.f z (TL.f z (TL.f z (TL.w z (ai_ z z z) (TL.en (TC.t z (TC.a (TL.j z z (TL.en (TC.rt 0 (S.r ?_))))))))))
  obtain rfl:=so hh
  exact rq [4] ⟨z,z,z⟩
 replace hh:=d9_ h103 hh
 refine TL.g z (ad_ (.inl z) z) (TL.g z (a7_ z underlying9 z) (TL.g z (OpVal.gtr z z z) (TL.w z (ac_ z z z) (TL.en (TC.cD z hh (fun h104 hh=> ?_) (fun h104 hh=> ?_))))))
 ·refine TC.a (TL.j z z (TL.en (TC.rt 0 (S.r ?_))))
  obtain rfl:=so hh
  exact rq [4] ⟨z,z,z⟩
 refine TC.skip (S.n (TC.a (TL.w z (am_ z gu_ fi_ z (i:=0) z z) (TL.w z (ad_ (.inl z) z) ?_))))
 obtain ⟨v14,u14,hh⟩:=d8_ hh
 refine TL.op z (av_ (Fy_ (x0:=x0) f0_0 f0_1 f0_2 f0_3 u14) z z pf19 z z z ?_)
 refine TL.w z (a5_ (.inl z) z) (TL.w z (OpVal.extract z z z) (TL.w z (OpVal.extract z z z) (TL.w z (OpVal.extract z z z) (TL.w z (OpVal.extract z z z) (TL.w z (ad_ (.inr z) z) (TL.i z z (TL.j z z (TL.i z z (TL.en (TC.a (TL.w z (am_ z gu_ fi_ z (i:=0) z z) ?_)))))))))))
 obtain ⟨v25,u25,hh⟩:=d8_ hh
 refine TL.op z (OpOk.call (Hs_ (x0:=x0) f0_0 f0_1 f0_2 f0_3 u25) z z pf35 z z z z ?_)
 rintro _ τ105 _ hle105 ⟨a105_1,c105_1,a105_2,c105_2,a105_3,c105_3,a105_4,c105_4,rfl,hr105_0,hr105_1,hr105_2,hr105_3,rfl⟩
 replace f0_0:=f0_0.mono hle105
 replace f0_1:=f0_1.mono hle105
 replace f0_2:=f0_2.mono hle105
 replace f0_3:=f0_3.mono hle105
 replace hgl:=hgl.mono hle105
 have hr105_0b:=hr105_0.big
 have hr105_1b:=hr105_1.big
 have hr105_2b:=hr105_2.rv.big
 have hr105_3b:=hr105_3.rv.big
 refine TL.w z (a5_ (.inl z) z) (TL.w z (OpVal.extract z z z) (TL.w z (OpVal.extract z z z) (TL.op z (OpOk.alloc z jg_ z z (fun b106=> ?_)))))
 refine TL.op z (storeAll z fi_ z z z z z z ?_)
 refine TL.i z z (TL.en (TC.a (TL.w z (am_ z gu_ fi_ z (i:=1) z z) ?_)))
 obtain ⟨v33,u33,hh⟩:=d8_ hh
 refine TL.op z (OpOk.call (Fm_ (x0:=x0) hgl f0_0 f0_1 f0_2 f0_3 u33) z z pf29 z z z z ?_)
 rintro _ τ108 _ hle108 ⟨a108_1,c108_1,a108_2,c108_2,a108_3,c108_3,a108_4,c108_4,rfl,hr108_0,hr108_1,hr108_2,hr108_3,rfl⟩
 replace f0_0:=f0_0.mono hle108
 replace f0_1:=f0_1.mono hle108
 replace f0_2:=f0_2.mono hle108
 replace f0_3:=f0_3.mono hle108
 replace hgl:=hgl.mono hle108
 replace hr105_0:=hr105_0.mono hle108
 replace hr105_1:=hr105_1.mono hle108
 replace hr105_2:=hr105_2.mono hle108
 replace hr105_3:=hr105_3.mono hle108
 have hr108_0b:=hr108_0.big
 have hr108_1b:=hr108_1.big
 have hr108_2b:=hr108_2.rv.big
 have hr108_3b:=hr108_3.rv.big
 refine TL.w z (a5_ (.inl z) z) (TL.w z (OpVal.extract z z z) (TL.w z (OpVal.extract z z z) (TL.op z (OpOk.alloc z jg_ z z (fun b109=> ?_)))))
 refine TL.op z (storeAll z fi_ z z z z z z ?_)
 refine TL.i z z (TL.en (TC.seq (TC.a (TL.i z z (TL.w z (OpVal.neq z z z) (TL.j z z (TL.split 53 z (fun h111=> ?_) (fun h111=> ?_))))))))
 ·replace hh:=ea_ h111 hh
  replace h111:=dt_ h111
  refine TL.f z (TL.f z (TL.w z (ai_ z z z) (TL.j z z (TL.f z (TL.f z (TL.w z (ai_ z z z) (TL.en (TC.t z (TC.a ?_)))))))))
  obtain ⟨v50,u50,hh⟩:=d8_ hh
  refine TL.op z (av_ (C0_ hgl u50) z z pf30 z z z ?_)
  refine TL.j z z (TL.split 62 z (fun h112=> ?_) (fun h112=> ?_))
  ·replace hh:=ea_ h112 hh
   refine TL.g z (aj_ (.inl z) z) (TL.g z (aj_ (.inl z) z) (TL.g z (OpVal.eql z z z) (TL.w z (ai_ z z z) (TL.j z z (TL.split 67 z (fun h113=> ?_) (fun h113=> ?_))))))
   ·replace hh:=ea_ h113 hh
    replace h113:=dt_ h113
    refine TL.g z (aj_ (.inl z) z) (TL.g z (OpVal.eql z z z) (TL.g z (moveB (.inl z) z) (TL.split 70 z (fun h114=> ?_) (fun h114=> ?_))))
    ·replace hh:=ea_ h114 hh
     replace h114:=dt_ h114
     refine TL.f z (TL.f z (TL.f z (TL.g z (ai_ z z z) (TL.w z (ai_ z z z) (TL.j z z (TL.en (TC.ax_ (Sub.pre 0 z) (TC.back (TC.ret (S.r ?_))))))))))
     obtain rfl:=so hh
     exact rq [4] ⟨z,z,z⟩
    replace hh:=d9_ h114 hh
    replace h114:=df_ h114
    refine TL.g z (aj_ (.inl z) z) (TL.g z (aj_ (.inl z) z) (TL.g z (OpVal.eql z z z) (TL.g z (ac_ z z z) (TL.w z (ai_ z z z) (TL.j z z (TL.en (TC.ax_ (Sub.pre 0 z) (TC.back (TC.ret (S.r ?_))))))))))
    obtain rfl:=so hh
    exact rq [4] ⟨z,z,z⟩
   replace hh:=d9_ h113 hh
   replace h113:=df_ h113
   refine TL.f z (TL.f z (TL.f z (TL.f z (TL.f z (TL.f z (TL.f z (TL.w z (ac_ z z z) (TL.j z z (TL.en (TC.ax_ (Sub.pre 0 z) (TC.back (TC.ret (S.r ?_)))))))))))))
   obtain rfl:=so hh
   exact rq [4] ⟨z,z,z⟩
  replace hh:=d9_ h112 hh
  refine TL.f z (TL.f z (TL.f z (TL.w z (ac_ z z z) (TL.j z z (TL.f z (TL.f z (TL.f z (TL.f z (TL.f z (TL.f z (TL.f z (TL.w z (ac_ z z z) (TL.j z z (TL.en (TC.ax_ (Sub.pre 0 z) ?_)))))))))))))))
  refine TC.back (TC.ret (S.r ?_))
  obtain rfl:=so hh
  exact rq [4] ⟨z,z,z⟩
 replace hh:=d9_ h111 hh
 replace h111:=df_ h111
 refine TL.g z (aj_ (.inl z) z) (TL.g z (OpVal.neq z z z) (TL.w z (ac_ z z z) (TL.j z z (TL.split 57 z (fun h115=> ?_) (fun h115=> ?_)))))
 ·replace hh:=ea_ h115 hh
  replace h115:=dt_ h115
  refine TL.f z (TL.f z (TL.w z (ai_ z z z) (TL.en (TC.t z (TC.a ?_)))))
  obtain ⟨v50,u50,hh⟩:=d8_ hh
  refine TL.op z (av_ (C0_ hgl u50) z z pf30 z z z ?_)
  refine TL.j z z (TL.split 62 z (fun h116=> ?_) (fun h116=> ?_))
  ·replace hh:=ea_ h116 hh
   refine TL.g z (aj_ (.inl z) z) (TL.g z (aj_ (.inl z) z) (TL.g z (OpVal.eql z z z) (TL.w z (ai_ z z z) (TL.j z z (TL.split 67 z (fun h117=> ?_) (fun h117=> ?_))))))
   ·replace hh:=ea_ h117 hh
    replace h117:=dt_ h117
    refine TL.g z (aj_ (.inl z) z) (TL.g z (OpVal.eql z z z) (TL.g z (moveB (.inl z) z) (TL.split 70 z (fun h118=> ?_) (fun h118=> ?_))))
    ·replace hh:=ea_ h118 hh
     replace h118:=dt_ h118
     refine TL.f z (TL.f z (TL.f z (TL.g z (ai_ z z z) (TL.w z (ai_ z z z) (TL.j z z (TL.en (TC.ax_ (Sub.pre 0 z) (TC.back (TC.ret (S.r ?_))))))))))
     obtain rfl:=so hh
     exact rq [4] ⟨z,z,z⟩
    replace hh:=d9_ h118 hh
    replace h118:=df_ h118
    refine TL.g z (aj_ (.inl z) z) (TL.g z (aj_ (.inl z) z) (TL.g z (OpVal.eql z z z) (TL.g z (ac_ z z z) (TL.w z (ai_ z z z) (TL.j z z (TL.en (TC.ax_ (Sub.pre 0 z) (TC.back (TC.ret (S.r ?_))))))))))
    obtain rfl:=so hh
    exact rq [4] ⟨z,z,z⟩
   replace hh:=d9_ h117 hh
   replace h117:=df_ h117
   refine TL.f z (TL.f z (TL.f z (TL.f z (TL.f z (TL.f z (TL.f z (TL.w z (ac_ z z z) (TL.j z z (TL.en (TC.ax_ (Sub.pre 0 z) (TC.back (TC.ret (S.r ?_)))))))))))))
   obtain rfl:=so hh
   exact rq [4] ⟨z,z,z⟩
  replace hh:=d9_ h116 hh
  refine TL.f z (TL.f z (TL.f z (TL.w z (ac_ z z z) (TL.j z z (TL.f z (TL.f z (TL.f z (TL.f z (TL.f z (TL.f z (TL.f z (TL.w z (ac_ z z z) (TL.j z z (TL.en (TC.ax_ (Sub.pre 0 z) ?_)))))))))))))))
  refine TC.back (TC.ret (S.r ?_))
  obtain rfl:=so hh
  exact rq [4] ⟨z,z,z⟩
 replace hh:=d9_ h115 hh
 replace h115:=df_ h115
 refine TL.g z (aj_ (.inl z) z) (TL.g z (OpVal.neq z z z) (TL.w z (ac_ z z z) (TL.en (TC.cD z hh (fun h119 hh=> ?_) (fun h119 hh=> ?_)))))
 ·refine TC.a ?_
  obtain ⟨v50,u50,hh⟩:=d8_ hh
  refine TL.op z (av_ (C0_ hgl u50) z z pf30 z z z ?_)
  refine TL.j z z (TL.split 62 z (fun h120=> ?_) (fun h120=> ?_))
  ·replace hh:=ea_ h120 hh
   refine TL.g z (aj_ (.inl z) z) (TL.g z (aj_ (.inl z) z) (TL.g z (OpVal.eql z z z) (TL.w z (ai_ z z z) (TL.j z z (TL.split 67 z (fun h121=> ?_) (fun h121=> ?_))))))
   ·replace hh:=ea_ h121 hh
    replace h121:=dt_ h121
    refine TL.g z (aj_ (.inl z) z) (TL.g z (OpVal.eql z z z) (TL.g z (moveB (.inl z) z) (TL.split 70 z (fun h122=> ?_) (fun h122=> ?_))))
    ·replace hh:=ea_ h122 hh
     replace h122:=dt_ h122
     refine TL.f z (TL.f z (TL.f z (TL.g z (ai_ z z z) (TL.w z (ai_ z z z) (TL.j z z (TL.en (TC.ax_ (Sub.pre 0 z) (TC.back (TC.ret (S.r ?_))))))))))
     obtain rfl:=so hh
     exact rq [4] ⟨z,z,z⟩
    replace hh:=d9_ h122 hh
    replace h122:=df_ h122
    refine TL.g z (aj_ (.inl z) z) (TL.g z (aj_ (.inl z) z) (TL.g z (OpVal.eql z z z) (TL.g z (ac_ z z z) (TL.w z (ai_ z z z) (TL.j z z (TL.en (TC.ax_ (Sub.pre 0 z) (TC.back (TC.ret (S.r ?_))))))))))
    obtain rfl:=so hh
    exact rq [4] ⟨z,z,z⟩
   replace hh:=d9_ h121 hh
   replace h121:=df_ h121
   refine TL.f z (TL.f z (TL.f z (TL.f z (TL.f z (TL.f z (TL.f z (TL.w z (ac_ z z z) (TL.j z z (TL.en (TC.ax_ (Sub.pre 0 z) (TC.back (TC.ret (S.r ?_)))))))))))))
   obtain rfl:=so hh
   exact rq [4] ⟨z,z,z⟩
  replace hh:=d9_ h120 hh
  refine TL.f z (TL.f z (TL.f z (TL.w z (ac_ z z z) (TL.j z z (TL.f z (TL.f z (TL.f z (TL.f z (TL.f z (TL.f z (TL.f z (TL.w z (ac_ z z z) (TL.j z z (TL.en (TC.ax_ (Sub.pre 0 z) ?_)))))))))))))))
  refine TC.back (TC.ret (S.r ?_))
  obtain rfl:=so hh
  exact rq [4] ⟨z,z,z⟩
 refine TC.skip (S.n (TC.a (TL.w z (am_ z gu_ fi_ z (i:=1) z z) (TL.w z (ad_ (.inl z) z) ?_))))
 obtain ⟨v68,u68,hh⟩:=d8_ hh
 refine TL.op z (av_ (Fy_ (x0:=v25.1) hr105_0 hr105_1 hr105_2 hr105_3 u68) z z pf19 z z z ?_)
 refine TL.w z (a5_ (.inl z) z) (TL.w z (OpVal.extract z z z) (TL.w z (OpVal.extract z z z) (TL.w z (OpVal.extract z z z) (TL.w z (OpVal.extract z z z) (TL.w z (ad_ (.inr z) z) (TL.i z z (TL.j z z (TL.i z z (TL.en (TC.a (TL.w z (am_ z gu_ fi_ z (i:=0) z z) (TL.w z (ad_ (.inl z) z) ?_))))))))))))
 obtain ⟨v80,u80,hh⟩:=d8_ hh
 refine TL.op z (av_ (Fy_ (x0:=v33.1) hr108_0 hr108_1 hr108_2 hr108_3 u80) z z pf19 z z z ?_)
 refine TL.w z (a5_ (.inl z) z) (TL.w z (OpVal.extract z z z) (TL.w z (OpVal.extract z z z) (TL.w z (OpVal.extract z z z) (TL.w z (OpVal.extract z z z) (TL.w z (ad_ (.inr z) z) (TL.i z z (TL.j z z (TL.i z z (TL.en (TC.a (TL.w z (am_ z gu_ fi_ z (i:=0) z z) ?_)))))))))))
 obtain ⟨v91,u91,hh⟩:=d8_ hh
 refine TL.op z (OpOk.call (Fm_ (x0:=v33.1) hgl hr108_0 hr108_1 hr108_2 hr108_3 u91) z z pf29 z z z z ?_)
 rintro _ τ123 _ hle123 ⟨a123_1,c123_1,a123_2,c123_2,a123_3,c123_3,a123_4,c123_4,rfl,hr123_0,hr123_1,hr123_2,hr123_3,rfl⟩
 replace f0_0:=f0_0.mono hle123
 replace f0_1:=f0_1.mono hle123
 replace f0_2:=f0_2.mono hle123
 replace f0_3:=f0_3.mono hle123
 replace hgl:=hgl.mono hle123
 replace hr108_0:=hr108_0.mono hle123
 replace hr108_1:=hr108_1.mono hle123
 replace hr108_2:=hr108_2.mono hle123
 replace hr108_3:=hr108_3.mono hle123
 have hr123_0b:=hr123_0.big
 have hr123_1b:=hr123_1.big
 have hr123_2b:=hr123_2.rv.big
 have hr123_3b:=hr123_3.rv.big
 refine TL.w z (a5_ (.inl z) z) (TL.w z (OpVal.extract z z z) (TL.w z (OpVal.extract z z z) (TL.op z (OpOk.alloc z jg_ z z (fun b124=> ?_)))))
 refine TL.op z (storeAll z fi_ z z z z z z ?_)
 refine TL.i z z (TL.en (TC.a (TL.w z (am_ z gu_ fi_ z (i:=3) z z) (TL.w z (am_ z gu_ fi_ z (i:=1) z z) ?_))))
 obtain ⟨v100,u100,hh⟩:=d8_ hh
 refine TL.op z (av_ (Iv_ (x0:=x0) (x1:=v33.1) hgl f0_0 f0_1 f0_2 f0_3 hr108_0 hr108_1 hr108_2 hr108_3 u100) z z pf38 z z z ?_)
 refine TL.w z (a5_ (.inl z) z) (TL.w z (OpVal.extract z z z) (TL.w z (OpVal.extract z z z) (TL.j z z (TL.i z z (TL.en (TC.a ?_))))))
 obtain ⟨v106,u106,hh⟩:=d8_ hh
 refine TL.op z (av_ (C0_ hgl u106) z z pf30 z z z ?_)
 refine TL.j z z (TL.split 104 z (fun h126=> ?_) (fun h126=> ?_))
 ·replace hh := ea_ h126 hh
  refine TL.g z (aj_ (.inl z) z) (TL.g z (OpVal.eql z z z) (TL.w z (ai_ z z z) (TL.j z z (TL.split 108 z (fun h127=> ?_) (fun h127=> ?_)))))
  ·replace hh := ea_ h127 hh
   replace h127:=dt_ h127
   refine TL.g z (aj_ (.inl z) z) (TL.g z (aj_ (.inl z) z) (TL.g z (OpVal.eql z z z) (TL.w z (ai_ z z z) (TL.j z z (TL.split 113 z (fun h128=> ?_) (fun h128=> ?_))))))
   ·replace hh := ea_ h128 hh
    replace h128:=dt_ h128
    refine TL.g z (ad_ (.inl z) z) (TL.g z (ad_ (.inl z) z) (TL.g z (cg_ z z z) (TL.w z (ai_ z z z) (TL.j z z (TL.split 118 z (fun h129=> ?_) (fun h129=> ?_))))))
    ·replace hh := ea_ h129 hh
     replace h129:=dt_ h129
     refine TL.g z (moveB (.inl z) z) (TL.g z (moveB (.inl z) z) (TL.g z (eqlB z z z underlying4) (TL.w z (ai_ z z z) (TL.j z z (TL.split 123 z (fun h130=> ?_) (fun h130=> ?_))))))
     ·replace hh:=ea_ h130 hh
      refine TL.g z (ad_ (.inl z) z) (TL.g z (ad_ (.inl z) z) (TL.g z (cg_ z z z) (TL.w z (ai_ z z z) (TL.j z z (TL.split 128 z (fun h131=> ?_) (fun h131=> ?_))))))
      ·replace hh:=ea_ h131 hh
       replace h131:=dt_ h131
       refine TL.g z (moveB (.inl z) z) (TL.g z (moveB (.inl z) z) (TL.g z (eqlB z z z underlying4) (TL.w z (ai_ z z z) (TL.j z z (TL.split 133 z (fun h132=> ?_) (fun h132=> ?_))))))
       ·replace hh:=ea_ h132 hh
        refine TL.g z (aj_ (.inl z) z) (TL.g z (aj_ (.inl z) z) (TL.g z (OpVal.eql z z z) (TL.w z (ai_ z z z) (TL.j z z (TL.split 138 z (fun h133=> ?_) (fun h133=> ?_))))))
        ·replace hh:=ea_ h133 hh
         replace h133:=dt_ h133
         refine TL.g z (am_ z gu_ fi_ z (i:=0) z z) (TL.g z (am_ z gu_ fi_ z (i:=1) z z) ?_)
         obtain ⟨v144,u144,hh⟩:=d8_ hh
         refine TL.gon z z z z z (av_ (Hi_ (x0:=v91.1) (x1:=v33.1) hr123_0 hr123_1 hr123_2 hr123_3 hr108_0 hr108_1 hr108_2 hr108_3 u144) z z pf17 z z z ?_)
         refine TL.w z (ai_ z z z) (TL.j z z (TL.split 143 z (fun h134=> ?_) (fun h134=> ?_)))
         ·replace hh:=ea_ h134 hh
          refine TL.g z (aa_ z e0_ z) (TL.g z (ab_ z hn_ z (i:=1) z z) (TL.g z (lenC z underlying27 z) (TL.g z (aa_ z e0_ z) (TL.g z (ab_ z hn_ z (i:=2) z z) (TL.g z (lenC z underlying27 z) (TL.g z (OpVal.leq z z z) (TL.w z (ai_ z z z) (TL.j z z (TL.split 152 z (fun h135=> ?_) (fun h135=> ?_))))))))))
          ·replace hh:=ea_ h135 hh
           replace h135:=dt_ h135
           refine TL.g z (aa_ z e0_ z) (TL.g z (ab_ z hn_ z (i:=2) z z) (TL.g z (lenC z underlying27 z) (TL.g z (aa_ z e0_ z) (TL.g z (ab_ z hn_ z (i:=3) z z) (TL.g z (lenC z underlying27 z) (TL.g z (OpVal.leq z z z) (TL.w z (ai_ z z z) (TL.j z z (TL.split 161 z (fun h136=> ?_) (fun h136=> ?_))))))))))
           ·replace hh:=ea_ h136 hh
            replace h136:=dt_ h136
            refine TL.g z (moveB (.inl z) z) (TL.w z (ai_ z z z) (TL.j z z (TL.split 164 z (fun h137=> ?_) (fun h137=> ?_))))
            ·replace hh:=ea_ h137 hh
             refine TL.g z (aj_ (.inl z) z) (TL.g z (aj_ (.inl z) z) (TL.g z (OpVal.eql z z z) (TL.w z (ai_ z z z) (TL.j z z (TL.en (TC.ax_ (Sub.pre 0 z) (TC.back (TC.ret ?_))))))))
             obtain rfl:=so hh
             exact rq [4] ⟨z,z,z⟩
            replace hh:=d9_ h137 hh
            refine TL.f z (TL.f z (TL.f z (TL.w z (ac_ z z z) (TL.j z z (TL.en (TC.ax_ (Sub.pre 0 z) (TC.back (TC.ret ?_))))))))
            obtain rfl:=so hh
            exact rq [4] ⟨z,z,z⟩
           replace hh:=d9_ h136 hh
           replace h136:=df_ h136
           refine TL.f z (TL.w z (ac_ z z z) (TL.j z z (TL.f z (TL.f z (TL.f z (TL.w z (ac_ z z z) (TL.j z z (TL.en (TC.ax_ (Sub.pre 0 z) (TC.back (TC.ret ?_)))))))))))
           obtain rfl:=so hh
           exact rq [4] ⟨z,z,z⟩
          replace hh:=d9_ h135 hh
          replace h135:=df_ h135
          refine TL.f z (TL.f z (TL.f z (TL.f z (TL.f z (TL.f z (TL.f z (TL.w z (ac_ z z z) (TL.j z z (TL.f z (TL.w z (ac_ z z z) (TL.j z z (TL.f z (TL.f z (TL.f z (TL.w z (ac_ z z z) ?_)))))))))))))))
          refine TL.j z z (TL.en (TC.ax_ (Sub.pre 0 z) (TC.back (TC.ret ?_))))
          obtain rfl:=so hh
          exact rq [4] ⟨z,z,z⟩
         replace hh:=d9_ h134 hh
         refine TL.f z (TL.f z (TL.f z (TL.f z (TL.f z (TL.f z (TL.f z (TL.w z (ac_ z z z) (TL.j z z (TL.f z (TL.f z (TL.f z (TL.f z (TL.f z (TL.f z (TL.f z ?_)))))))))))))))
         refine TL.w z (ac_ z z z) (TL.j z z (TL.f z (TL.w z (ac_ z z z) (TL.j z z (TL.f z (TL.f z (TL.f z (TL.w z (ac_ z z z) (TL.j z z (TL.en (TC.ax_ (Sub.pre 0 z) (TC.back (TC.ret ?_)))))))))))))
         obtain rfl:=so hh
         exact rq [4] ⟨z,z,z⟩
        replace hh:=d9_ h133 hh
        replace h133:=df_ h133
        refine TL.f z (TL.f z (TL.f z (TL.w z (ac_ z z z) (TL.j z z (TL.f z (TL.f z (TL.f z (TL.f z (TL.f z (TL.f z (TL.f z (TL.w z (ac_ z z z) (TL.j z z (TL.f z (TL.f z ?_)))))))))))))))
        refine TL.f z (TL.f z (TL.f z (TL.f z (TL.f z (TL.w z (ac_ z z z) (TL.j z z (TL.f z (TL.w z (ac_ z z z) (TL.j z z (TL.f z (TL.f z (TL.f z (TL.w z (ac_ z z z) (TL.j z z (TL.en ?_)))))))))))))))
        refine TC.ax_ (Sub.pre 0 z) (TC.back (TC.ret ?_))
        obtain rfl:=so hh
        exact rq [4] ⟨z,z,z⟩
       replace hh:=d9_ h132 hh
       refine TL.f z (TL.f z (TL.f z (TL.w z (ac_ z z z) (TL.j z z (TL.f z (TL.f z (TL.f z (TL.w z (ac_ z z z) (TL.j z z (TL.f z (TL.f z (TL.f z (TL.f z (TL.f z (TL.f z ?_)))))))))))))))
       refine TL.f z (TL.w z (ac_ z z z) (TL.j z z (TL.f z (TL.f z (TL.f z (TL.f z (TL.f z (TL.f z (TL.f z (TL.w z (ac_ z z z) (TL.j z z (TL.f z (TL.w z (ac_ z z z) (TL.j z z (TL.f z ?_)))))))))))))))
       refine TL.f z (TL.f z (TL.w z (ac_ z z z) (TL.j z z (TL.en (TC.ax_ (Sub.pre 0 z) (TC.back (TC.ret ?_)))))))
       obtain rfl:=so hh
       exact rq [4] ⟨z,z,z⟩
      replace hh:=d9_ h131 hh
      replace h131:=df_ h131
      refine TL.f z (TL.f z (TL.f z (TL.w z (ac_ z z z) (TL.j z z (TL.f z (TL.f z (TL.f z (TL.w z (ac_ z z z) (TL.j z z (TL.f z (TL.f z (TL.f z (TL.w z (ac_ z z z) (TL.j z z (TL.f z ?_)))))))))))))))
      refine TL.f z (TL.f z (TL.f z (TL.f z (TL.f z (TL.f z (TL.w z (ac_ z z z) (TL.j z z (TL.f z (TL.f z (TL.f z (TL.f z (TL.f z (TL.f z (TL.f z (TL.w z (ac_ z z z) ?_)))))))))))))))
      refine TL.j z z (TL.f z (TL.w z (ac_ z z z) (TL.j z z (TL.f z (TL.f z (TL.f z (TL.w z (ac_ z z z) (TL.j z z (TL.en (TC.ax_ (Sub.pre 0 z) (TC.back (TC.ret ?_))))))))))))
      obtain rfl:=so hh
      exact rq [4] ⟨z,z,z⟩
     replace hh:=d9_ h130 hh
     refine TL.f z (TL.f z (TL.f z (TL.w z (ac_ z z z) (TL.j z z (TL.f z (TL.f z (TL.f z (TL.w z (ac_ z z z) (TL.j z z (TL.f z (TL.f z (TL.f z (TL.w z (ac_ z z z) (TL.j z z (TL.f z ?_)))))))))))))))
     refine TL.f z (TL.f z (TL.w z (ac_ z z z) (TL.j z z (TL.f z (TL.f z (TL.f z (TL.f z (TL.f z (TL.f z (TL.f z (TL.w z (ac_ z z z) (TL.j z z (TL.f z (TL.f z (TL.f z ?_)))))))))))))))
     refine TL.f z (TL.f z (TL.f z (TL.f z (TL.w z (ac_ z z z) (TL.j z z (TL.f z (TL.w z (ac_ z z z) (TL.j z z (TL.f z (TL.f z (TL.f z (TL.w z (ac_ z z z) (TL.j z z (TL.en (TC.ax_ (Sub.pre 0 z) ?_)))))))))))))))
     refine TC.back (TC.ret ?_)
     obtain rfl:=so hh
     exact rq [4] ⟨z,z,z⟩
    replace hh:=d9_ h129 hh
    replace h129:=df_ h129
    refine TL.f z (TL.f z (TL.f z (TL.w z (ac_ z z z) (TL.j z z (TL.f z (TL.f z (TL.f z (TL.w z (ac_ z z z) (TL.j z z (TL.f z (TL.f z (TL.f z (TL.w z (ac_ z z z) (TL.j z z (TL.f z ?_)))))))))))))))
    refine TL.f z (TL.f z (TL.w z (ac_ z z z) (TL.j z z (TL.f z (TL.f z (TL.f z (TL.w z (ac_ z z z) (TL.j z z (TL.f z (TL.f z (TL.f z (TL.f z (TL.f z (TL.f z (TL.f z ?_)))))))))))))))
    refine TL.w z (ac_ z z z) (TL.j z z (TL.f z (TL.f z (TL.f z (TL.f z (TL.f z (TL.f z (TL.f z (TL.w z (ac_ z z z) (TL.j z z (TL.f z (TL.w z (ac_ z z z) (TL.j z z (TL.f z (TL.f z ?_)))))))))))))))
    refine TL.f z (TL.w z (ac_ z z z) (TL.j z z (TL.en (TC.ax_ (Sub.pre 0 z) (TC.back (TC.ret ?_))))))
    obtain rfl:=so hh
    exact rq [4] ⟨z,z,z⟩
   replace hh:=d9_ h128 hh
   replace h128:=df_ h128
   refine TL.f z (TL.f z (TL.f z (TL.w z (ac_ z z z) (TL.j z z (TL.f z (TL.f z (TL.f z (TL.w z (ac_ z z z) (TL.j z z (TL.f z (TL.f z (TL.f z (TL.w z (ac_ z z z) (TL.j z z (TL.f z ?_)))))))))))))))
   refine TL.f z (TL.f z (TL.w z (ac_ z z z) (TL.j z z (TL.f z (TL.f z (TL.f z (TL.w z (ac_ z z z) (TL.j z z (TL.f z (TL.f z (TL.f z (TL.w z (ac_ z z z) (TL.j z z (TL.f z (TL.f z ?_)))))))))))))))
   refine TL.f z (TL.f z (TL.f z (TL.f z (TL.f z (TL.w z (ac_ z z z) (TL.j z z (TL.f z (TL.f z (TL.f z (TL.f z (TL.f z (TL.f z (TL.f z (TL.w z (ac_ z z z) (TL.j z z ?_)))))))))))))))
   refine TL.f z (TL.w z (ac_ z z z) (TL.j z z (TL.f z (TL.f z (TL.f z (TL.w z (ac_ z z z) (TL.j z z (TL.en (TC.ax_ (Sub.pre 0 z) (TC.back (TC.ret ?_)))))))))))
   obtain rfl:=so hh
   exact rq [4] ⟨z,z,z⟩
  replace hh:=d9_ h127 hh
  replace h127:=df_ h127
  refine TL.f z (TL.f z (TL.f z (TL.w z (ac_ z z z) (TL.j z z (TL.f z (TL.f z (TL.f z (TL.w z (ac_ z z z) (TL.j z z (TL.f z (TL.f z (TL.f z (TL.w z (ac_ z z z) (TL.j z z (TL.f z ?_)))))))))))))))
  refine TL.f z (TL.f z (TL.w z (ac_ z z z) (TL.j z z (TL.f z (TL.f z (TL.f z (TL.w z (ac_ z z z) (TL.j z z (TL.f z (TL.f z (TL.f z (TL.w z (ac_ z z z) (TL.j z z (TL.f z (TL.f z ?_)))))))))))))))
  refine TL.f z (TL.w z (ac_ z z z) (TL.j z z (TL.f z (TL.f z (TL.f z (TL.f z (TL.f z (TL.f z (TL.f z (TL.w z (ac_ z z z) (TL.j z z (TL.f z (TL.f z (TL.f z (TL.f z ?_)))))))))))))))
  refine TL.f z (TL.f z (TL.f z (TL.w z (ac_ z z z) (TL.j z z (TL.f z (TL.w z (ac_ z z z) (TL.j z z (TL.f z (TL.f z (TL.f z (TL.w z (ac_ z z z) (TL.j z z (TL.en (TC.ax_ (Sub.pre 0 z) (TC.back ?_)))))))))))))))
  refine TC.ret ?_
  obtain rfl:=so hh
  exact rq [4] ⟨z,z,z⟩
 replace hh:=d9_ h126 hh
 refine TL.f z (TL.f z (TL.w z (ac_ z z z) (TL.j z z (TL.f z (TL.f z (TL.f z (TL.w z (ac_ z z z) (TL.j z z (TL.f z (TL.f z (TL.f z (TL.w z (ac_ z z z) (TL.j z z (TL.f z (TL.f z ?_)))))))))))))))
 refine TL.f z (TL.w z (ac_ z z z) (TL.j z z (TL.f z (TL.f z (TL.f z (TL.w z (ac_ z z z) (TL.j z z (TL.f z (TL.f z (TL.f z (TL.w z (ac_ z z z) (TL.j z z (TL.f z (TL.f z (TL.f z ?_)))))))))))))))
 refine TL.w z (ac_ z z z) (TL.j z z (TL.f z (TL.f z (TL.f z (TL.w z (ac_ z z z) (TL.j z z (TL.f z (TL.f z (TL.f z (TL.f z (TL.f z (TL.f z (TL.f z (TL.w z (ac_ z z z) (TL.j z z ?_)))))))))))))))
 refine TL.f z (TL.f z (TL.f z (TL.f z (TL.f z (TL.f z (TL.f z (TL.w z (ac_ z z z) (TL.j z z (TL.f z (TL.w z (ac_ z z z) (TL.j z z (TL.f z (TL.f z (TL.f z (TL.w z (ac_ z z z) ?_)))))))))))))))
 refine TL.j z z (TL.en (TC.ax_ (Sub.pre 0 z) (TC.back (TC.ret ?_))))
 obtain rfl:=so hh
 exact rq [4] ⟨z,z,z⟩
end Go.Proofs.YtchebnpdnfhenaaGreatDoor
end

noncomputable section
namespace Go.Proofs.YtchebnpdnfhenaaGreatDoor
open Go Go.E
def r0:N_1:=List.replicate 256 (-1)
def o0:T_2:=List.replicate 256 []
def qP:Seq:=⟨[],[r0.set 97 1,(r0.set 98 2).set 99 2,r0],[o0,(o0.set 98 [120]).set 99 [120,121],o0],[false,false,true],[[],[],[122]]⟩
theorem r0_at{b:Nat}(hb:b<256):nth r0 b 0= -1:=by
  unfold r0
  have h: ∀(n i:Nat) (x:Int),i<n→nth (List.replicate n x) i 0=x:=fun n i x h=>by
    rw [h3_ _ (by rw [lr_];exact h),List.getElem_replicate]
  exact h 256 b (-1) hb
theorem zr_:r0.length=256:=lr_
theorem o0_len:o0.length=256:=lr_
theorem qP_n:qP.next.length=3:=rfl
theorem y3_:d5_ qP=true:=by decide+kernel
theorem qP2: ∀{w y:T_1},eq_ qP 2 w=some y→w=[]∧y=[122]
  |[],y,h=>by
    rw [eq_,if_pos (show nth qP.fin 2 false=true from rfl)]at h
    exact ⟨rfl,(Option.some.inj h).symm⟩
  |b::w,y,h=>by
    have hb:=UInt8.toNat_lt b
    rw [eq_,if_pos (show nxQ qP 2 b.toNat<0 by show nth r0 b.toNat 0<0;rw [r0_at (by omega)];decide)]at h
    cases h
theorem qP1 : ∀ {w y : T_1}, eq_ qP 1 w = some y → y = [120, 122] ∨ y = [120, 121, 122]
  |[],y,h=>by
    rw [eq_,if_neg (show ¬ nth qP.fin 1 false=true by decide)]at h;cases h
  | b :: w, y, h => by
    have hb:=UInt8.toNat_lt b
    have hn:nxQ qP 1 b.toNat=if b.toNat=99 then 2 else if b.toNat=98 then 2 else -1:=by
      show nth ((r0.set 98 2).set 99 2) b.toNat 0=_
      have hl:=zr_
      rw [eb_,eb_,ls_]
      by_cases c:b.toNat=99
      · rw [if_pos c,if_pos ⟨c.symm,by omega⟩]
      rw [if_neg c,if_neg (fun e=>c e.1.symm)]
      by_cases d:b.toNat=98
      · rw [if_pos d,if_pos ⟨d.symm,by omega⟩]
      rw [if_neg d,if_neg (fun e=>d e.1.symm),r0_at (by omega)]
    have ho:otQ qP 1 b.toNat=if b.toNat=99 then [120,121] else if b.toNat=98 then [120] else []:=by
      show nth ((o0.set 98 [120]).set 99 [120,121]) b.toNat []=_
      have hl:=o0_len
      rw [eb_,eb_,ls_]
      by_cases c:b.toNat=99
      · rw [if_pos c,if_pos ⟨c.symm,by omega⟩]
      rw [if_neg c,if_neg (fun e=>c e.1.symm)]
      by_cases d:b.toNat=98
      · rw [if_pos d,if_pos ⟨d.symm,by omega⟩]
      rw [if_neg d,if_neg (fun e=>d e.1.symm)]
      unfold o0;rw [fu_]
    rw [eq_,hn,ho]at h
    by_cases c:b.toNat=99
    · rw [if_pos c,if_pos c,if_neg (by decide)]at h
      cases hy:eq_ qP 2 w with
      |none=>rw [show (2:Int).toNat=2 from rfl,hy]at h;cases h
      |some z=>
        rw [show (2:Int).toNat=2 from rfl,hy]at h
        rw [(qP2 hy).2]at h
        exact .inr (Option.some.inj h).symm
    rw [if_neg c,if_neg c]at h
    by_cases d:b.toNat=98
    · rw [if_pos d,if_pos d,if_neg (by decide)]at h
      cases hy:eq_ qP 2 w with
      |none=>rw [show (2:Int).toNat=2 from rfl,hy]at h;cases h
      |some z=>
        rw [show (2:Int).toNat=2 from rfl,hy]at h
        rw [(qP2 hy).2]at h
        exact .inl (Option.some.inj h).symm
    rw [if_neg d,if_neg d,if_pos (by decide)]at h;cases h
theorem qP0 : ∀ {w y : T_1}, eq_ qP 0 w = some y → y = [120, 122] ∨ y = [120, 121, 122]
  |[],y,h=>by
    rw [eq_,if_neg (show ¬ nth qP.fin 0 false=true by decide)]at h;cases h
  | b :: w, y, h => by
    have hb:=UInt8.toNat_lt b
    have hn:nxQ qP 0 b.toNat=if b.toNat=97 then 1 else -1:=by
      show nth (r0.set 97 1) b.toNat 0=_
      have hl:=zr_
      rw [eb_]
      by_cases c:b.toNat=97
      · rw [if_pos c,if_pos ⟨c.symm,by omega⟩]
      rw [if_neg c,if_neg (fun e=>c e.1.symm),r0_at (by omega)]
    have ho:otQ qP 0 b.toNat=[]:=by
      show nth o0 b.toNat []=_
      unfold o0;rw [fu_]
    rw [eq_,hn,ho]at h
    by_cases c:b.toNat=97
    · rw [if_pos c,if_neg (by decide)]at h
      cases hy:eq_ qP 1 w with
      |none=>rw [show (1:Int).toNat=1 from rfl,hy]at h;cases h
      |some z=>
        rw [show (1:Int).toNat=1 from rfl,hy]at h
        have:z=y:=Option.some.inj h
        rw [←this];exact qP1 hy
    rw [if_neg c,if_pos (by decide)]at h;cases h
theorem x1_:eq_ qP 0 [97,98]=some [120,122]:=by decide+kernel
theorem qP_ac:eq_ qP 0 [97,99]=some [120,121,122]:=by decide+kernel
theorem qP_1b:eq_ qP 1 [98]=some [120,122]:=by decide+kernel
theorem qP_2:eq_ qP 2 []=some [122]:=by decide+kernel
theorem qP_no:eq_ qP 0 []=none∧eq_ qP 0 [97]=none∧eq_ qP 0 [98]=none:=by decide+kernel
theorem qP_min : ∃ m, Ct_ qP = some (m, 0) ∧ CanQ m ∧ m.front = [120] ∧ m.next.length = 3 ∧ fx_ m [97, 99] = some [120, 121, 122] := by
  obtain ⟨p,r,_,h2,h3,h4⟩:=vk_ qP
  have hn:=qP_n
  have hlive:p5_ qP 0:=⟨_,_,x1_⟩
  cases h2 with
  |wrong h=>exact absurd y3_ h
  |none _ h=>
    rcases h with h|h
    · omega
    exact absurd hlive h
  |made l m v a1 a2 a3 a4 a5=>
    have hk:=jb_ (m:=m) a5
    have hk0:=(hk 0 a2).2 ⟨.zero,(a4.live 0 a2).2 a3⟩
    have hc0:=a4.com 0 a2
    have hl0:nth l 0 []=[120]:=by
      have u1:=hc0 _ _ x1_
      have u2:=hc0 _ _ qP_ac
      have u3:=a4.up 0 a2 ((a4.live 0 a2).2 a3) [120] fun w y hy=>by
        rcases qP0 hy with e|e
        · rw [e];exact ⟨[122],rfl⟩
        rw [e];exact ⟨[121,122],rfl⟩
      obtain ⟨x,hx⟩:=u3
      rw [←hx]at u1 u2
      cases x with
      |nil=>exact hx.symm
      |cons c x=>
        exfalso
        obtain ⟨y1,e1⟩:=u1
        obtain ⟨y2,e2⟩:=u2
        have f1:c=122:=(List.cons.inj (List.cons.inj e1).2).1
        have f2:c=121:=(List.cons.inj (List.cons.inj e2).2).1
        rw [f1]at f2;exact absurd f2 (by decide)
    have hlen: ∀s,s<qP.next.length→(nth l s []).length≤3:=fun s hs=>by
      have hs:s=0∨s=1∨s=2:=by omega
      rcases hs with rfl|rfl|rfl
      · rw [hl0];decide
      · exact Nat.le_trans (a4.com 1 hs _ _ qP_1b).length_le (by decide)
      exact Nat.le_trans (a4.com 2 hs _ _ qP_2).length_le (by decide)
    have hot: ∀s b,s<qP.next.length→b<256→(otQ qP s b).length≤2:=fun s b hs hb=>by
      have hs:s=0∨s=1∨s=2:=by omega
      rcases hs with rfl|rfl|rfl
      · show (nth o0 b []).length≤2
        unfold o0;rw [fu_];decide
      · show (nth ((o0.set 98 [120]).set 99 [120,121]) b []).length≤2
        rw [eb_,eb_]
        split
        · decide
        split
        · decide
        unfold o0;rw [fu_];decide
      show (nth o0 b []).length≤2
      unfold o0;rw [fu_];decide
    have hr:d5_ (fc_ qP l (fr_ v m))=true:=by
      refine Ie_ a1 a2 hk0 ?_ fun a h1 _ b hb=> ?_
      · show ([]++nth l 0 []).length≤_
        rw [hl0];decide
      unfold otP
      split
      · exact Nat.zero_le _
      split
      · have g1:=hot a b h1 hb
        have g2:=e2_ a1 h1 hb
        have g3:=hlen (nxQ qP a b).toNat (by omega)
        rw [List.length_drop,la_];omega
      exact Nat.zero_le _
    have e0:ig_ qP l (fr_ v m)=(fc_ qP l (fr_ v m),0):=by unfold ig_;rw [if_pos hr]
    have hpr:PushR qP (ig_ qP l (fr_ v m)):= .made l m v a1 a2 a3 a4 a5
    rw [e0]at h4 hpr
    have hr2:=(MinR.err' hpr h4).1
    obtain ⟨k1,k2,k3⟩:=h4.can hpr hr2
    have hpl:(fc_ qP l (fr_ v m)).next.length≤3:=by rw [gl_];exact gn_ _ _
    have hpp:=m3_ a2 hk0
    have hfr:r.1.front=[120]:=by
      cases h4 with
      |err h=>exact absurd rfl h
      |none _ h=>
        have h:(fc_ qP l (fr_ v m)).next.length=0:=h
        rw [gl_]at h;omega
      |made n st _ h=>
        rw [h.front]
        show []++nth l 0 []=_
        rw [hl0];rfl
    have k3:r.1.next.length≤3:=Nat.le_trans k3 hpl
    refine ⟨r.1,by rw [h3];exact congrArg some (Prod.ext rfl hr2),k1,hfr,?_,?_⟩
    · have hs: ∀w,(eq_ r.1 0 w).isSome=(eq_ qP 0 w).isSome:=fun w=>by
        have:=k2 w
        unfold fx_ at this
        cases c:eq_ r.1 0 w with
        |none=>cases d:eq_ qP 0 w with
          |none=>rfl
          |some y=>rw [c,d]at this;cases this
        |some y=>cases d:eq_ qP 0 w with
          |none=>rw [c,d]at this;cases this
          |some y=>rfl
      have step: ∀{s b:Nat} {w:T_1},s<r.1.next.length→b<256→(eq_ r.1 s (UInt8.ofNat b::w)).isSome=true→0≤nxQ r.1 s b∧nxQ r.1 s b<(r.1.next.length:Int)∧(eq_ r.1 (nxQ r.1 s b).toNat w).isSome=true:=fun {s b w} hs' hb h=>by
        by_cases c:0≤nxQ r.1 s b
        · rw [ie_ hb c,Option.isSome_map]at h
          exact ⟨c,k1.lt s b hs' hb,h⟩
        rw [rx_ hb (by omega)]at h;cases h
      have hpos:0<r.1.next.length:=by
        by_cases c:0<r.1.next.length
        · exact c
        exfalso
        have:=hs [97,98]
        rw [x1_,fp_ (en_ (by omega)) (en_ (by have:=(d3_ k1.right).2.2.1;omega))]at this
        cases this
      obtain ⟨b1,b2,b3⟩:=step (s:=0) (b:=97) (w:=[98]) hpos (by decide) (by show (eq_ r.1 0 [97,98]).isSome=true;rw [hs,x1_];rfl)
      obtain ⟨c1,c2,c3⟩:=step (s:=(nxQ r.1 0 97).toNat) (b:=98) (w:=[]) (by omega) (by decide) b3
      have n0:(eq_ r.1 0 []).isSome=false:=by rw [hs,qP_no.1];rfl
      have n1:(eq_ r.1 0 [98]).isSome=false:=by rw [hs,qP_no.2.2];rfl
      have n2:(eq_ r.1 (nxQ r.1 0 97).toNat []).isSome=false:=by
        have:=hs [97]
        rw [qP_no.2.1,show ([97]:T_1)=UInt8.ofNat 97::[]from rfl,ie_ (by decide) b1,Option.isSome_map]at this
        exact this
      have d1:(nxQ r.1 0 97).toNat≠0:=fun e=>by rw [e]at b3;exact absurd (n1.symm.trans b3) (by decide)
      have d2:(nxQ r.1 (nxQ r.1 0 97).toNat 98).toNat≠0:=fun e=>by rw [e,n0]at c3;cases c3
      have d3:(nxQ r.1 (nxQ r.1 0 97).toNat 98).toNat≠(nxQ r.1 0 97).toNat:=fun e=>by rw [e,n2]at c3;cases c3
      omega
    rw [k2]
    unfold fx_
    rw [qP_ac];rfl
def tP:Fst:=⟨3,[⟨0,[]⟩],[⟨2,[122]⟩],[⟨0,1,BSet.ofL [97],[],false⟩,⟨1,2,BSet.ofL [98],[120],false⟩,⟨1,2,BSet.ofL [99],[120,121],false⟩]⟩
theorem tP_b:qr_ tP=true:=by kernel_rfl
theorem tP_on(s:Nat)(h:s<3):Rch (onS tP) (arE tP) (s:Int):=by
  have h0:Rch (onS tP) (arE tP) 0:= .base ⟨⟨0,[]⟩,by simp [tP],rfl⟩
  have h1:Rch (onS tP) (arE tP) 1:= .step h0 ⟨⟨0,1,BSet.ofL [97],[],false⟩,by simp [tP],rfl,rfl⟩
  have h2:Rch (onS tP) (arE tP) 2:= .step h1 ⟨⟨1,2,BSet.ofL [98],[120],false⟩,by simp [tP],rfl,rfl⟩
  match s,h with
  |0,_=>exact h0
  |1,_=>exact h1
  |2,_=>exact h2
theorem tP_back(s:Nat)(h:s<3):Rch (enS tP) (arB tP) (s:Int):=by
  have h2:Rch (enS tP) (arB tP) 2:= .base ⟨⟨2,[122]⟩,by simp [tP],rfl⟩
  have h1:Rch (enS tP) (arB tP) 1:= .step h2 ⟨⟨1,2,BSet.ofL [98],[120],false⟩,by simp [tP],rfl,rfl⟩
  have h0:Rch (enS tP) (arB tP) 0:= .step h1 ⟨⟨0,1,BSet.ofL [97],[],false⟩,by simp [tP],rfl,rfl⟩
  match s,h with
  |0,_=>exact h0
  |1,_=>exact h1
  |2,_=>exact h2
theorem wz_:jy_ tP=tP:=vw_ ((k0_ tP).1 tP_b) (fun s h=>t5_.2 ⟨tP_on s h,tP_back s h⟩) (by decide+kernel) (by decide+kernel) (by decide+kernel)
def okP:Bool:=match ofK tP 9 with
  | .inl _=>false
  | .inr (_,q)=>decide (q.front=qP.front) && decide (q.next=qP.next) && decide (q.outs=qP.outs) && decide (q.fin=qP.fin) && decide (q.tail=qP.tail)
theorem okP_t:okP=true:=by kernel_rfl
theorem sr_:As_=some true:=by
  unfold As_
  rw [dx_ (by decide),dx_ (by decide),dx_ (by decide)]
  show bnd (Hc_ tP 9) _=_
  rw [of_eq tP 9 (fun _=>by rw [wz_];decide),d7_]
  unfold ofD
  rw [if_pos ⟨tP_b,by decide,by decide⟩,wz_,←ofK_eq]
  have h:=okP_t
  unfold okP at h
  cases hk:ofK tP 9 with
  |inl e=>rw [hk]at h;cases h
  |inr x=>
    obtain ⟨R,q⟩:=x
    rw [hk]at h
    simp only [Bool.and_eq_true,dq_]at h
    obtain ⟨⟨⟨⟨h1,h2⟩,h3⟩,h4⟩,h5⟩:=h
    have e:q=qP:=H2_ h1 h2 h3 h4 h5
    subst e
    obtain ⟨m,m1,m2,m3,m4,m5⟩:=qP_min
    show bnd (Ct_ qP) _=_
    rw [m1,d7_]
    show bnd (Ea_ m [97,99]) _=_
    obtain ⟨a1,a2,a3⟩:=ja_ m2.right [97,99]
    rw [m5]at a1 a2
    have a1:(it_ m [97,99]).1=[120,121,122]:=a1
    rw [mr_ m [97,99] (by decide),d7_,show (ofR (Sum.inr (R,qP))).2=0 from rfl,dy_ rfl,dy_ rfl,dy_ m3,dy_ (by show ((m.next.length:Nat):Int)=3;rw [m4];rfl),dy_ a1,a2]
    show d4_ true (some (decide ((it_ m [97,99]).2.2.2=0))) _=_
    rw [a3];rfl
end Go.Proofs.YtchebnpdnfhenaaGreatDoor
end

noncomputable section
namespace Go.Proofs.YtchebnpdnfhenaaGreatDoor
open Go Go.E
end Go.Proofs.YtchebnpdnfhenaaGreatDoor
end

noncomputable section
namespace Go.Proofs.YtchebnpdnfhenaaGreatDoor
open Go Go.E
end Go.Proofs.YtchebnpdnfhenaaGreatDoor
end

noncomputable section
namespace Go.Proofs.YtchebnpdnfhenaaGreatDoor
open Go Go.E
theorem uu_(l:B_1):C3_ l l=some true:=by
  unfold C3_
  rw [decide_eq_false (by simp),iteO_false]
  refine mu_ (α:=Unit) l.length (fun k hk=> ?_) ?_
  · simp only [A9_,nq_ hk,iteO_true,dx_ hk,bne_self_eq_false,iteO_false];rfl
  simp only [A9_,Int.lt_irrefl,decide_false,iteO_false];rfl
theorem rq_(q:Seq):Ck_ q q=some true:=by
  unfold Ck_
  rw [dz_ (by simp),dz_ (by simp),dz_ (by simp),uu_,d7_,e8_,li_,d7_,e8_]
  refine mu_ (α:=Unit) q.next.length (fun k hk=> ?_) ?_
  · unfold Bk_ Ce_
    rw [dy_ (by omega),dx_ hk,vu_,d7_,e8_]
    by_cases c:k<q.outs.length
    · rw [dy_ (by omega),dx_ c,li_,d7_,e8_];rfl
    rw [dz_ (by omega)];rfl
  unfold Bk_
  rw [dz_ (by omega)];rfl
end Go.Proofs.YtchebnpdnfhenaaGreatDoor
end

noncomputable section
namespace Go.Proofs.YtchebnpdnfhenaaGreatDoor
open Go Go.E
end Go.Proofs.YtchebnpdnfhenaaGreatDoor
end

noncomputable section
namespace Go.Proofs.YtchebnpdnfhenaaGreatDoor
open Go Go.E
theorem z7_(q:Seq)(k:Nat)(hl:(nth q.outs k []).length≤300): ∃r,ed_ (fun z:Int×Nat=>Ae_ q k z.1 z.2) (0,0)=some r∧(r= .inl (k+1)∨r= .inr false):=by
  refine ej_ (step:=fun z:Int×Nat=>Ae_ q k z.1 z.2) (fun (s:Int) j=>(s,j)) (nth q.outs k []).length (fun _ _=>True) _ (fun j s hj _=> .inl ?_) (fun s _=> ?_) (s0:=0) trivial
  · show ∃s',Ae_ q k s j=_∧_
    unfold Ae_
    rw [dy_ (by omega)]
    exact ⟨_,rfl,trivial⟩
  show ∃r,Ae_ q k s (nth q.outs k []).length=_∧_
  unfold Ae_
  rw [dz_ (by omega)]
  by_cases c:20000<s
  · rw [dy_ c];exact ⟨_,rfl,.inr rfl⟩
  rw [dz_ c];exact ⟨_,rfl,.inl rfl⟩
theorem fewQ(q:Seq): ∃b,Dt_ q=some b∧(b=true→q.next.length≤12):=by
  unfold Dt_
  by_cases c1:12<q.next.length
  · rw [dy_ (by omega)];exact ⟨_,rfl,fun h=>by cases h⟩
  rw [dz_ (by omega)]
  by_cases c2:13<q.outs.length
  · rw [dy_ (by omega)];exact ⟨_,rfl,fun h=>by cases h⟩
  rw [dz_ (by omega)]
  by_cases c3:5000<q.front.length
  · rw [dy_ (by omega)];exact ⟨_,rfl,fun h=>by cases h⟩
  rw [dz_ (by omega)]
  refine ej_ (step:=fun z:Nat=>Ah_ q z) (fun (_:Unit) k=>k) q.outs.length (fun _ _=>True) (fun b=>b=true→q.next.length≤12) (fun k _ hk _=> ?_) (fun _ _=> ?_) (s0:=()) trivial
  · show (∃s':Unit,Ah_ q k=_∧_)∨ ∃r,Ah_ q k=_∧_
    unfold Ah_
    rw [dy_ (by omega)]
    by_cases d:300<(nth q.outs k []).length
    · rw [dy_ (by omega)]
      exact .inr ⟨_,rfl,fun _=>by omega⟩
    rw [dz_ (by omega)]
    obtain ⟨r,h1,h2⟩:=z7_ q k (by omega)
    rw [h1]
    rcases h2 with rfl|rfl
    · exact .inl ⟨(),rfl,trivial⟩
    exact .inr ⟨_,rfl,fun _=>by omega⟩
  refine ⟨true,?_,fun _=>by omega⟩
  unfold Ah_
  rw [dz_ (by omega)];rfl
end Go.Proofs.YtchebnpdnfhenaaGreatDoor
end

noncomputable section
namespace Go.Proofs.YtchebnpdnfhenaaGreatDoor
open Go Go.E
theorem ng_{α:Type}[DecidableEq α]{l m:List α}(d:α)(hl:l.length=m.length){step:Nat→Option (Nat⊕Bool)}(hy: ∀k,k<l.length→nth l k d=nth m k d→step k=some (.inl (k+1)))(hn: ∀k,k<l.length→nth l k d≠nth m k d→step k=some (.inr false))(hd:step l.length=some (.inr true)):
    ed_ step 0=some (decide (l=m)):=by
  have:=jc_ (step:=step) (good:=true) (bad:=false) l.length (fun k=>decide (nth l k d=nth m k d)) (fun k hk hp=>hy k hk (dt_ hp)) (fun k hk hp=>hn k hk (df_ hp)) hd
  rw [this]
  by_cases e:l=m
  · rw [decide_eq_true e,if_pos]
    exact g2_.2 fun k _=>decide_eq_true (by rw [e])
  rw [decide_eq_false e,if_neg]
  intro h
  exact e (gr_ d hl fun i hi=>dt_ (g2_.1 h i hi))
theorem eqB_eq(l m:B_1):E0_ l m=some (decide (l=m)):=by
  unfold E0_
  by_cases hl:l.length=m.length
  · rw [dz_ (by omega)]
    refine ng_ false hl (fun k hk e=> ?_) (fun k hk e=> ?_) ?_ <;>unfold Dr_
    · rw [dy_ (by omega),dx_ (by omega),e,bne_self_eq_false,iteO_false];rfl
    · rw [dy_ (by omega),dx_ (by omega),bne_iff_ne.2 e,iteO_true];rfl
    rw [dz_ (by omega)];rfl
  rw [dy_ (by omega),decide_eq_false (fun e=>hl (by rw [e]))]
theorem vd_(l m:T_2):D8_ l m=some (decide (l=m)):=by
  unfold D8_
  by_cases hl:l.length=m.length
  · rw [dz_ (by omega)]
    refine ng_ [] hl (fun k hk e=> ?_) (fun k hk e=> ?_) ?_ <;>unfold Dx_
    · rw [dy_ (by omega),dx_ (by omega),dz_ (fun h=>h e)];rfl
    · rw [dy_ (by omega),dx_ (by omega),dy_ e];rfl
    rw [dz_ (by omega)];rfl
  rw [dy_ (by omega),decide_eq_false (fun e=>hl (by rw [e]))]
theorem z0_(l m:N_1):E3_ l m=some (decide (l=m)):=by
  unfold E3_
  by_cases hl:l.length=m.length
  · rw [dz_ (by omega)]
    refine ng_ 0 hl (fun k hk e=> ?_) (fun k hk e=> ?_) ?_ <;>unfold Ds_
    · rw [dy_ (by omega),dx_ (by omega),dz_ (fun h=>h e)];rfl
    · rw [dy_ (by omega),dx_ (by omega),dy_ e];rfl
    rw [dz_ (by omega)];rfl
  rw [dy_ (by omega),decide_eq_false (fun e=>hl (by rw [e]))]
theorem eqFI_eq(l m:N_2):Dh_ l m=some (decide (l=m)):=by
  unfold Dh_
  by_cases hl:l.length=m.length
  · rw [dz_ (by omega)]
    refine ng_ [] hl (fun k hk e=> ?_) (fun k hk e=> ?_) ?_ <;>unfold Ci_
    · rw [dy_ (by omega),dx_ (by omega),z0_,d7_,decide_eq_true e,e8_];rfl
    · rw [dy_ (by omega),dx_ (by omega),z0_,d7_,decide_eq_false e,fg_];rfl
    rw [dz_ (by omega)];rfl
  rw [dy_ (by omega),decide_eq_false (fun e=>hl (by rw [e]))]
theorem eqFS_eq(l m:T_3):Dg_ l m=some (decide (l=m)):=by
  unfold Dg_
  by_cases hl:l.length=m.length
  · rw [dz_ (by omega)]
    refine ng_ [] hl (fun k hk e=> ?_) (fun k hk e=> ?_) ?_ <;>unfold Cf_
    · rw [dy_ (by omega),dx_ (by omega),vd_,d7_,decide_eq_true e,e8_];rfl
    · rw [dy_ (by omega),dx_ (by omega),vd_,d7_,decide_eq_false e,fg_];rfl
    rw [dz_ (by omega)];rfl
  rw [dy_ (by omega),decide_eq_false (fun e=>hl (by rw [e]))]
theorem s0_(a:Seq):Fp_ a a=some true:=by
  unfold Fp_
  rw [dy_ rfl,eqB_eq,d7_,decide_eq_true rfl,iteO_true,vd_,d7_,decide_eq_true rfl,iteO_true,eqFI_eq,d7_,decide_eq_true rfl,iteO_true,eqFS_eq,d7_,decide_eq_true rfl]
theorem both22(q:Seq): ∃p r,Ex_ q=some p∧De_ q=some p∧Ct_ q=some r∧F0_ q=some r∧PushR q p∧MinR p r:=by
  obtain ⟨p,r,a1,a2,a3,a4⟩:=vk_ q
  obtain ⟨p',r',b1,b2,b3,b4⟩:=rmin_ok q
  have e:=a2.uniq b2
  subst e
  have e:=a4.uniq a2 b4
  subst e
  exact ⟨p,r,a1,b1,a3,b3,a2,a4⟩
theorem PushR.bad{q:Seq}{r:Seq×Int}(h:PushR q r)(hq: ¬ d5_ q=true):r=(Seq.zero,1):=by
  cases h with
  |wrong _=>rfl
  |none h1 _=>exact absurd h1 hq
  |made _ _ _ h1=>exact absurd h1 hq
theorem r3_{q:Seq}{p r:Seq×Int}(h:PushR q p)(k:MinR p r)(h0:r.2=0):Ct_ r.1=some (r.1,0):=by
  obtain ⟨a1,a2,_⟩:=k.can h h0
  have hp0:p.2=0:=by rw [←(MinR.err' h k).1];exact h0
  obtain ⟨p',r',_,b2,b3,b4⟩:=vk_ r.1
  have hs:=h.again b2 hp0 a1.right a2
  have hr':r'.2=0:=by rw [(MinR.err' b2 b4).1];exact hs
  obtain ⟨c1,c2,_⟩:=b4.can b2 hr'
  have e:=r6_ c1 a1 c2
  rw [b3]
  exact congrArg some (Prod.ext e hr')
theorem ow_(q:Seq)(w:T_1)(hw:w.length≤281474976710656):Cc_ q w=some true:=by
  unfold Cc_
  obtain ⟨b,hb,_⟩:=fewQ q
  rw [dx_ hw,hb,d7_]
  cases b with
  |false=>rw [fg_]
  |true=>
    rw [e8_]
    by_cases c:50<w.length
    · rw [dy_ (by omega)]
    rw [dz_ (by omega),mr_ q w (by omega),d7_]
    obtain ⟨p,r,a1,a2,a3,a4,a5,a6⟩:=both22 q
    have hrp:=(MinR.err' a5 a6).1
    rw [a1,d7_,a3,d7_]
    by_cases hq:d5_ q=true
    rotate_left
    · have e1:(it_ q w).2.2.2=1:=by unfold it_;rw [if_neg hq]
      rw [e1,dy_ (show (1:Int)≠0 by decide),sr_,d7_,iteO_true,hrp,dy_ rfl,dz_ (show ¬ (1:Int)=0 by decide),a5.bad hq];rfl
    obtain ⟨e1,e2,e3⟩:=ja_ hq w
    rw [e3,dz_ (show ¬ (0:Int)≠0 by decide)]
    by_cases c1:p.2=0
    rotate_left
    · rw [dy_ c1,sr_,d7_,iteO_true,hrp,dy_ rfl,dy_ rfl]
    have c2:r.2=0:=by rw [hrp];exact c1
    rw [dz_ (fun h=>h c1),dz_ (fun h=>h c2)]
    obtain ⟨h1,h2,h3,h4⟩:=a5.psh c1
    obtain ⟨k1,k2,k3⟩:=a6.can a5 c2
    have hs:Gq_ q r.1=some (true,0):=by
      unfold Gq_
      rw [Fg_,d7_,if_pos hq,dz_ (by decide),Fg_,d7_,if_pos k1.right,dz_ (by decide),a3,d7_,dz_ (fun h=>h c2),r3_ a5 a6 c2,d7_,dz_ (show ¬ (0:Int)≠0 by decide)]
      show bnd (Fp_ r.1 r.1) _=_
      rw [s0_,d7_]
    obtain ⟨f1,f2,f3⟩:=ja_ h2 w
    obtain ⟨g1,g2,g3⟩:=ja_ k1.right w
    rw [h3]at f1 f2
    rw [k2]at g1 g2
    rw [mr_ p.1 w (by omega),d7_,mr_ r.1 w (by omega),d7_,r3_ a5 a6 c2,d7_,hs,d7_,sr_,d7_,iteO_true,f3,dy_ rfl,g3,dy_ rfl,e1,f1,dy_ rfl,e2,f2,beq_self_eq_true,iteO_true,g1,dy_ rfl,g2,beq_self_eq_true,iteO_true,dy_ rfl]
    show bnd (Ck_ r.1 r.1) _=_
    rw [rq_,d7_,iteO_true,dy_ (by omega),dy_ (by omega)];rfl
end Go.Proofs.YtchebnpdnfhenaaGreatDoor
end

noncomputable section
namespace Go.E
open Go Go.RowKit
def hd_(w:World):dw_:=fun b=>w.heap[b]?
theorem se_(w:World):Reach w [] (hd_ w) (hd_ w) w []:=
  ⟨rfl,rfl,rfl,Nat.le_refl _,fun _ _ _=>rfl,dw_.le.refl _,fun _ _ h=>h,fun _ _ h=> .inl h,by simp,by simp,by simp [fj_],by simp,Nat.le_refl _⟩
theorem u8_(w:World)(a:Addr):(hd_ w).cell a=w.cell? a:=by
  unfold dw_.cell World.cell? hd_
  cases w.heap[a.block]? with
  |none=>rfl
  |some o=>cases o<;>rfl
theorem Con.below{P:Program}{f:FuncId}{args:Array Value}{w:World}{v:Value}(h:Con P f args (hd_ w) [] (e5_ v (hd_ w))):
    Calls P f args w fun e w'=>e= .returned v∧Below w.heap.size w w':=
  (h w (se_ w)).mono fun e w' ⟨r,σ',H',he,⟨h1,h2,h3⟩,k⟩=>⟨by rw [he,h1],⟨k.os,k.tape,k.output,k.size,fun i hi=>k.frame i hi (by simp)⟩⟩
def jh_(l:List Nat):Prop:= ∀x∈l,x≤140737488351232
theorem jh_.left{a b:List Nat}(h:jh_ (a++b)):jh_ a:=fun x hx=>h x (List.mem_append_left _ hx)
theorem jh_.right{a b:List Nat}(h:jh_ (a++b)):jh_ b:=fun x hx=>h x (List.mem_append_right _ hx)
theorem ya_{l:List Nat}(h:l.all (· ≤reachBytes)=true):jh_ l:=fun x hx=>by
  have:=List.all_eq_true.1 h x hx
  exact dt_ this
def Opn(P:Program)(w:World)(T:TypeId){α:Type}(ok:List Value→α→Prop):Prop:=
  ∀{H:Type} (enc:TypeId×Value→H) (held:Bool) (fuel:Nat) (cs:List Value) (d:DataW H) (ps:List MemPlace),DataW.trod enc P w 0 (fun _=>true) held fuel T cs=some (d,ps)→jh_ (DataW.weights P T d)→ ∃x,ok cs x
section
variable {P:Program} {w:World} {T E:TypeId}
theorem Opn.mono{α β:Type}{ok:List Value→α→Prop}{ok':List Value→β→Prop}(h:Opn P w T ok)(f:α→β)(hf: ∀cs x,ok cs x→ok' cs (f x)):Opn P w T ok':=fun enc held fuel cs d ps ht hs=>
  let ⟨x,hx⟩:=h enc held fuel cs d ps ht hs;⟨f x,hf cs x hx⟩
theorem Opn.int{k:IntKind}(hT:P.underlying T=some (.int k)):Opn P w T (fun cs (x:Int)=>cs=[.int k x]∧(Lit.int k x).wf=true):=fun enc held fuel cs d ps ht _=>by
  obtain ⟨n,h,_,hw⟩:=DataW.trod_int hT ht
  exact ⟨n,h,hw⟩
theorem Opn.bool(hT:P.underlying T=some .bool):Opn P w T (fun cs (x:Bool)=>cs=[.bool x]):=fun enc held fuel cs d ps ht _=>by
  obtain ⟨n,h,_⟩:=DataW.trod_bool hT ht
  exact ⟨n,h⟩
theorem Opn.str(hT:P.underlying T=some .string):Opn P w T (fun cs (x:List UInt8)=>cs=[.string (bs x)]∧x.length≤140737488351232):=fun enc held fuel cs d ps ht hs=>by
  obtain ⟨s,h,hx,hw⟩:=DataW.trod_string hT ht
  simp only [Prod.mk.injEq]at hx
  obtain ⟨rfl,rfl⟩:=hx
  exact ⟨s.data.toList,by rw [h,←bs_of],hs _ (by simp [DataW.weights])⟩
theorem kq_ {α β : Type} {f : α → Option β} : ∀ {l : List α} {r : List β}, l.mapM f = some r → r.length = l.length ∧ ∀ (i : Nat) (x : α), l[i]? = some x → ∃ y : β, r[i]? = some y ∧ f x = some y
  |[],r,h=>by simp at h;subst h;exact ⟨rfl,fun i x hx=>by simp at hx⟩
  | a :: l, r, h => by
    rw [List.mapM_cons]at h
    cases hf:f a with
    |none=>rw [hf]at h;cases h
    |some y=>
      cases hm:l.mapM f with
      |none=>rw [hf,hm]at h;cases h
      |some r'=>
        rw [hf,hm]at h
        cases h
        obtain ⟨h1,h2⟩:=kq_ hm
        refine ⟨by simp [h1],fun i x hx=> ?_⟩
        cases i with
        |zero=>simp at hx;subst hx;exact ⟨y,rfl,hf⟩
        |succ i=>simp at hx;simpa using h2 i x hx
theorem lp_{H:Type}{ts:List TypeId}{ds:List (DataW H)}{i:Nat}{t:TypeId}{d:DataW H}(ht:ts[i]? =some t)(hd:ds[i]? =some d)(hs:jh_ (DataW.weightsEach P ts ds)):jh_ (DataW.weights P t d):=by
  induction ts generalizing i ds with
  |nil=>simp at ht
  |cons t' ts ih=>
    cases ds with
    |nil=>simp at hd
    |cons d' ds=>
      simp only [DataW.weightsEach]at hs
      cases i with
      |zero=>simp at ht hd;subst ht hd;exact hs.left
      |succ i=>simp at ht hd;exact ih ht hd hs.right
theorem kh_{H:Type}{ds:List (DataW H)}{i:Nat}{d:DataW H}(hd:ds[i]? =some d)(hs:jh_ (DataW.weightsAll P E ds)):jh_ (DataW.weights P E d):=by
  induction ds generalizing i with
  |nil=>simp at hd
  |cons d' ds ih=>
    simp only [DataW.weightsAll]at hs
    cases i with
    |zero=>simp at hd;subst hd;exact hs.left
    |succ i=>simp at hd;exact ih hd hs.right
theorem s5_{H:Type}{enc:TypeId×Value→H}{held:Bool}{fuel:Nat}{cs:List Value}{d:DataW H}{ps:List MemPlace}{fs:Array Field}(hT:P.underlying T=some (.struct fs))(h:DataW.trod enc P w 0 (fun _=>true) held fuel T cs=some (d,ps))(hs:jh_ (DataW.weights P T d)):
    cs.length=P.cellsOf T∧ ∀(i:Nat) (f:Field) {α:Type} {ok:List Value→α→Prop},fs.toList[i]? =some f→Opn P w f.type ok→ ∃x,ok ((cs.drop f.offset).take (P.cellsOf f.type)) x:=by
  cases fuel with
  |zero=>simp [DataW.trod]at h
  |succ fuel=>
    unfold DataW.trod at h
    rw [hT]at h
    simp only at h
    split at h
    · rename_i hl
      refine ⟨hl,fun i f α ok hf ho=> ?_⟩
      rw [Option.map_eq_some_iff]at h
      obtain ⟨xs,h1,h2⟩:=h
      simp only [Prod.mk.injEq]at h2
      obtain ⟨rfl,rfl⟩:=h2
      obtain ⟨h3,h4⟩:=kq_ h1
      obtain ⟨y,h5,h6⟩:=h4 i f hf
      refine ho enc held fuel _ y.1 y.2 h6 ?_
      simp only [DataW.weights,hT]at hs
      exact lp_ (i:=i) (by simp [hf]) (by simp [h5]) hs
    cases h
theorem uq_{H:Type}{enc:TypeId×Value→H}{held:Bool}{fuel n:Nat}{cs:List Value}{d:DataW H}{ps:List MemPlace}(hT:P.underlying T=some (.array n E))(h:DataW.trod enc P w 0 (fun _=>true) held fuel T cs=some (d,ps))(hs:jh_ (DataW.weights P T d)):
    cs.length=P.cellsOf T∧ ∀(i:Nat) {α:Type} {ok:List Value→α→Prop},i<n→Opn P w E ok→ ∃x,ok ((cs.drop (i * P.cellsOf E)).take (P.cellsOf E)) x:=by
  cases fuel with
  |zero=>simp [DataW.trod]at h
  |succ fuel=>
    unfold DataW.trod at h
    rw [hT]at h
    simp only at h
    split at h
    · rename_i hl
      refine ⟨hl,fun i α ok hi ho=> ?_⟩
      rw [Option.map_eq_some_iff]at h
      obtain ⟨xs,h1,h2⟩:=h
      simp only [Prod.mk.injEq]at h2
      obtain ⟨rfl,rfl⟩:=h2
      obtain ⟨h3,h4⟩:=kq_ h1
      obtain ⟨y,h5,h6⟩:=h4 i i (by rw [List.getElem?_range hi])
      refine ho enc held fuel _ y.1 y.2 h6 ?_
      simp only [DataW.weights,hT]at hs
      exact kh_ (i:=i) (by simp [h5]) hs
    cases h
theorem list4{cs:List Value}(h:cs.length=4): ∃a b c d,cs=[a,b,c,d]:=by
  match cs,h with
  |[a,b,c,d],_=>exact ⟨a,b,c,d,rfl⟩
theorem tw_{x:Int}(h:(Lit.int .u64 x).wf=true): ∃n:Nat,x=(n:Int)∧n<18446744073709551616:=by
  have h1:IntKind.u64.min=0:=rfl
  have h2:IntKind.u64.max=18446744073709551615:=rfl
  simp only [Lit.wf,Bool.and_eq_true,dq_,h1,h2]at h
  exact ⟨x.toNat,by omega,by omega⟩
theorem Opn.set(hT:P.underlying T=some (.array 4 E))(hE:P.underlying E=some (.int .u64))(hc:P.cellsOf T=4)(he:P.cellsOf E=1):Opn P w T (fun cs (s:BSet)=>cs=(setA s).toList):=fun enc held fuel cs d ps ht hs=>by
  obtain ⟨hl,hp⟩:=uq_ hT ht hs
  rw [hc]at hl
  obtain ⟨a,b,c,d,rfl⟩:=list4 hl
  rw [he]at hp
  obtain ⟨x0,h0,w0⟩:=hp 0 (by omega) (Opn.int hE)
  obtain ⟨x1,h1,w1⟩:=hp 1 (by omega) (Opn.int hE)
  obtain ⟨x2,h2,w2⟩:=hp 2 (by omega) (Opn.int hE)
  obtain ⟨x3,h3,w3⟩:=hp 3 (by omega) (Opn.int hE)
  simp at h0 h1 h2 h3
  subst h0 h1 h2 h3
  obtain ⟨n0,rfl,l0⟩:=tw_ w0
  obtain ⟨n1,rfl,l1⟩:=tw_ w1
  obtain ⟨n2,rfl,l2⟩:=tw_ w2
  obtain ⟨n3,rfl,l3⟩:=tw_ w3
  exact ⟨⟨n0,n1,n2,n3,l0,l1,l2,l3⟩,rfl⟩
theorem wj_{a:Addr}{n:Nat}{cs:List Value}(h:w.cells? 0 a n=some cs):cs.length=n∧ ∀j u,cs[j]? =some u→w.cell? (a.add j)=some u:=by
  unfold World.cells? at h
  rw [if_pos (Nat.zero_le _)]at h
  obtain ⟨h1,h2⟩:=kq_ h
  rw [List.length_range]at h1
  refine ⟨h1,fun j u hj=> ?_⟩
  have hlt:j<n:=by have:=(List.getElem?_eq_some_iff.1 hj).1;omega
  obtain ⟨y,h3,h4⟩:=h2 j j (by rw [List.getElem?_range hlt])
  rw [hj]at h3;cases h3;exact h4
theorem kk_(cs:List Value)(a b:Nat):(cs.drop a).take b++cs.drop (a+b)=cs.drop a:=by
  rw [←List.drop_drop];exact List.take_append_drop b (cs.drop a)
theorem Opn.arg{H:Type}{enc:TypeId×Value→H}{α:Type}{ok:List Value→α→Prop}(h:Opn P w T ok){v:Value}{d:DataW H}{ps:List MemPlace}(hd:DataW.Trod enc P w 0 (fun _=>true) true T v d ps)(hs:jh_ (DataW.weights P T d)): ∃x,ok v.cells.toList x:=by
  obtain ⟨fuel,hf⟩:=hd
  exact h enc true fuel _ d ps hf hs
theorem uz_{r:Go.Reach}{b0:Nat}{v:Value}{t:TypeDesc}(hT:P.underlying T=some t)(ht:(∃fs,t= .struct fs)∨ ∃n e,t= .array n e)(h:Value.okWide P w r b0 T v): ∃cs,v= .agg cs:=by
  unfold Value.okWide at h
  rw [hT]at h
  rcases ht with ⟨fs,rfl⟩|⟨n,e,rfl⟩
  · obtain ⟨cs,h1,_⟩:=h;exact ⟨cs,h1⟩
  obtain ⟨cs,h1,_⟩:=h;exact ⟨cs,h1⟩
theorem agg_of{cs:Array Value}{l:List Value}(h:(Value.agg cs).cells.toList=l):Value.agg cs= .agg l.toArray:=by
  subst h;simp [Value.cells]
theorem Opn.cu_ {α : Type} {enc0 : α → List Value} {size : Nat} {good : α → Prop} (hT : P.underlying T = some (.slice E)) (hE : Opn P w E (fun cs x => cs = enc0 x ∧ good x)) (hc : P.cellsOf E = size) (hb : 0 < P.bytesOf E) (hl : ∀ x, (enc0 x).length = size) (h1 : ∀ x, ∀ u ∈ enc0 x, u.oneCell' = true) :
    Opn P w T (fun cs (l:List α)=> ∃a c,cs=[.slice a l.length c]∧RS (hd_ w) size enc0 (.slice a l.length c) l∧ ∀x∈l,good x):=fun enc held fuel cs d ps ht hs=>by
  cases fuel with
  |zero=>simp [DataW.trod]at ht
  |succ fuel=>
    unfold DataW.trod at ht
    rw [hT]at ht
    split at ht
    all_goals (first|(rename_i he;cases he;done)|(rename_i he _;cases he;done)|(cases ht;done)|skip)
    · exact ⟨[],none,0,rfl,RS.nilF _ _ hl,by simp⟩
    rename_i e a len cap he
    cases he
    split at ht
    · rename_i hcap
      rw [Option.bind_eq_some_iff]at ht
      obtain ⟨elems,h2,h3⟩:=ht
      simp only [if_true]at h3
      rw [Option.map_eq_some_iff]at h3
      obtain ⟨rest,h4,h5⟩:=h3
      simp only [Prod.mk.injEq]at h5
      obtain ⟨rfl,rfl⟩:=h5
      simp only [DataW.weights,hT]at hs
      have hw0:=hs _ (mc_ ..)
      obtain ⟨e1,e2⟩:=kq_ h2
      rw [List.length_range]at e1
      simp only [List.length_map]at hw0
      have hlen:len≤140737488351232:=by
        have:len * 1≤(elems.length+rest.length) * P.bytesOf E:=Nat.mul_le_mul (by omega) hb
        omega
      have hx: ∀i,i<len→ ∃x:α,w.cells? 0 (a.add (i * size)) size=some (enc0 x)∧good x:=fun i hi=>by
        obtain ⟨y,h6,h7⟩:=e2 i i (by rw [List.getElem?_range hi])
        rw [hc,Option.bind_eq_some_iff]at h7
        obtain ⟨cs,h8,h9⟩:=h7
        have hsm:jh_ (DataW.weights P E y.1):=kh_ (i:=i) (ds:=elems.map (·.1)) (by simp [h6]) (fun x hx=>hs x (mm_ _ (List.mem_append_left _ hx)))
        obtain ⟨x,rfl,hg⟩:=hE enc held fuel cs y.1 y.2 h9 hsm
        exact ⟨x,h8,hg⟩
      have hlist: ∀n,n≤len→ ∃l:List α,l.length=n∧(∀i x,l[i]? =some x→w.cells? 0 (a.add (i * size)) size=some (enc0 x))∧ ∀x∈l,good x:=by
        intro n
        induction n with
        |zero=>intro _;exact ⟨[],rfl,fun i x h=>(by simp at h),by simp⟩
        |succ n ih=>
          intro hn
          obtain ⟨l,g1,g2,g3⟩:=ih (by omega)
          obtain ⟨x,hx,hgx⟩:=hx n (by omega)
          refine ⟨l++[x],by simp [g1],fun i y hy=> ?_,fun y hy=>by
            rw [List.mem_append,mo_]at hy
            rcases hy with hy|rfl
            · exact g3 y hy
            exact hgx⟩
          rw [List.getElem?_append]at hy
          split at hy
          · exact g2 i y hy
          rename_i hi
          have:i=n:=by
            have:=(List.getElem?_eq_some_iff.1 hy).1
            simp at this;omega
          subst this
          simp [g1]at hy;subst hy;exact hx
      obtain ⟨l,g1,g2,g3⟩:=hlist len (Nat.le_refl _)
      subst g1
      refine ⟨l,some a,cap,rfl,⟨⟨⟨_,_,rfl,by simp,hcap.2.1⟩,ee_ hl l,?_,fun u hu=> ?_,by omega⟩,hl⟩,g3⟩
      · intro a' m c' hv j u hj
        cases hv
        rw [u8_]
        by_cases h0:size=0
        · have:(l.flatMap enc0).length=0:=by rw [ee_ hl,h0,Nat.mul_zero]
          rw [List.getElem?_eq_none (by omega)]at hj;cases hj
        have hpos:0<size:=Nat.pos_of_ne_zero h0
        have hjl:j<l.length * size:=by have:=(List.getElem?_eq_some_iff.1 hj).1;rwa [ee_ hl]at this
        have hq:j / size<l.length:=by rw [Nat.div_lt_iff_lt_mul hpos];exact hjl
        have hr:j % size<size:=Nat.mod_lt _ hpos
        have hx:=g2 (j / size) l[j / size] (List.getElem?_eq_getElem hq)
        have hj':j=j / size * size+j % size:=by rw [Nat.mul_comm];exact (Nat.div_add_mod j size).symm
        rw [hj',ge_ hl l _ _ _ (List.getElem?_eq_getElem hq) hr]at hj
        have:=(wj_ hx).2 _ _ hj
        rw [lt_]at this
        rw [hj'];exact this
      rw [List.mem_flatMap]at hu
      obtain ⟨x,_,hx⟩:=hu
      exact h1 x u hx
    cases ht
theorem Opn.slice{α:Type}{enc0:α→List Value}{size:Nat}(hT:P.underlying T=some (.slice E))(hE:Opn P w E (fun cs x=>cs=enc0 x))(hc:P.cellsOf E=size)(hb:0<P.bytesOf E)(hl: ∀x,(enc0 x).length=size)(h1: ∀x, ∀u∈enc0 x,u.oneCell'=true):
    Opn P w T (fun cs (l:List α)=> ∃a c,cs=[.slice a l.length c]∧RS (hd_ w) size enc0 (.slice a l.length c) l):=
  Opn.mono (Opn.cu_ (good:=fun _=>True) hT (Opn.mono hE id fun _ _ h=>⟨h,trivial⟩) hc hb hl h1) id fun _ _ ⟨a,c,h,k,_⟩=>⟨a,c,h,k⟩
def I64(x:Int):Prop:= -9223372036854775808≤x∧x≤9223372036854775807
theorem wf_i64{x:Int}(h:(Lit.int .i64 x).wf=true):I64 x:=by
  have h1:IntKind.i64.min= -9223372036854775808:=rfl
  have h2:IntKind.i64.max=9223372036854775807:=rfl
  simp only [Lit.wf,Bool.and_eq_true,dq_,h1,h2]at h
  exact h
theorem Opn.int64(hT:P.underlying T=some (.int .i64)):Opn P w T (fun cs (x:Int)=>cs=[.int .i64 x]∧I64 x):=Opn.mono (Opn.int hT) id fun _ _ h=>⟨h.1,wf_i64 h.2⟩
theorem Opn.da_{α:Type}{K:Pk α}{good:α→Prop}(hT:P.underlying T=some (.slice E))(hE:Opn P w E (fun cs x=> ∃p,cs=K.enc x p∧K.ok (hd_ w) x p∧good x))(hc:P.cellsOf E=K.size)(hb:0<P.bytesOf E):
    Opn P w T (fun cs (l:List α)=> ∃a c,cs=[.slice a l.length c]∧RZ (hd_ w) K (.slice a l.length c) l∧ ∀x∈l,good x):=by
  have h:Opn P w T (fun cs (z:List (α×K.P))=> ∃a c,cs=[.slice a z.length c]∧RS (hd_ w) K.size K.en (.slice a z.length c) z∧ ∀m∈z,K.ok (hd_ w) m.1 m.2∧good m.1):=Opn.cu_ (P:=P) (w:=w) (T:=T) (E:=E) (α:=α×K.P) (enc0:=K.en) (size:=K.size) (good:=fun m=>K.ok (hd_ w) m.1 m.2∧good m.1) hT (fun enc held fuel cs d ps ht hs=>by
    obtain ⟨x,p,h1,h2,h3⟩:=hE enc held fuel cs d ps ht hs
    exact ⟨(x,p),h1,h2,h3⟩) hc hb K.bm_ K.dc_
  intro H enc held fuel cs d ps ht hs
  obtain ⟨z,a,c,h1,h2,h3⟩:=h enc held fuel cs d ps ht hs
  refine ⟨z.map Prod.fst,a,c,by rw [List.length_map];exact h1,⟨z,⟨rfl,fun m hm=>(h3 m hm).1⟩,by rw [List.length_map];exact h2⟩,fun x hx=> ?_⟩
  obtain ⟨m,hm,rfl⟩:=List.mem_map.1 hx
  exact (h3 m hm).2
end
end Go.E
end

noncomputable section
namespace Go.E
open Go Go.ChangeShapes Go.WideShapes
theorem p4_{α:Type}(l:List α)(i:Nat):((l.drop (i * 1)).take 1)=(l[i]?).toList:=by
  rw [Nat.mul_one]
  cases h:l[i]? with
  |none=>rw [List.drop_of_length_le (by simpa using h)];rfl
  |some x=>
    obtain ⟨hi,rfl⟩:=List.getElem?_eq_some_iff.1 h
    rw [List.drop_eq_getElem_cons hi];rfl
end Go.E
end

noncomputable section
namespace Go.E
open Go Go.ChangeShapes Go.WideShapes
theorem me_{P:Program}{w:World}{n:String}{d:DataW Unit}: ∀{laid:List (String×DataW Unit)} {ps:List MemPlace},DataW.LaidVars P w laid ps→(n,d)∈laid→
    ∃g t cs fuel p,P.globalNamed n=some g∧(P.globals[g]?).map (·.type)=some t∧w.var? P n=some cs∧DataW.trod (fun _=>()) P w 0 (fun _=>true) false fuel t cs.toList=some (d,p)∧ ∀x∈MemPlace.row ⟨g,0,none⟩ cs.size,x∈ps
  |[],ps,_,hm=>by cases hm
  |(m,e)::r,ps,h,hm=>by
    obtain ⟨g,t,cs,fuel,p,q,h1,h2,h3,h4,h5,h6⟩:=h
    rcases List.mem_cons.1 hm with hm|hm
    · cases hm
      exact ⟨g,t,cs,fuel,p,h1,h2,h3,h4,fun x hx=>by rw [h6];exact List.mem_append_left _ (List.mem_append_left _ hx)⟩
    obtain ⟨g',t',cs',fuel',p',k1,k2,k3,k4,k5⟩:=me_ h5 hm
    exact ⟨g',t',cs',fuel',p',k1,k2,k3,k4,fun x hx=>by rw [h6];exact List.mem_append_right _ (k5 x hx)⟩
def yd_{H:Type}(k:IntKind)(l:List Int):DataW H:= .agg (l.map fun z=> .lit (.int k z))
theorem pg_ {P : Program} {W : World} {laid : List (String × DataW Unit)} {name : String} {g T E : Nat} {k : IntKind} {l : List Int} (h : laidMetH P laid W) (hpl : (laid.all fun x => x.2.handleName?.isNone) = true) (hm : (name, yd_ k l) ∈ laid)
    (hg:P.globalNamed name=some g) (hT:(P.globals[g]?).map (·.type)=some T)
    (hu:P.underlying T=some (.array l.length E)) (hE:P.underlying E=some (.int k)) (hc:P.cellsOf E=1) (hcT:P.cellsOf T=l.length) (hl:0<l.length): ∃t,W.heap[g]? =some (.cells (l.map (Value.int k)).toArray t):=by
  rw [MakeChecks.laidMetH_plain _ _ _ hpl]at h
  obtain ⟨ps,hlv,_,hok⟩:=h
  obtain ⟨g0,t0,cs,fu,p,hg0,ht0,hv0,hd0,hps⟩:=me_ hlv hm
  obtain rfl:=Option.some.inj (hg.symm.trans hg0)
  obtain rfl:=Option.some.inj (hT.symm.trans ht0)
  obtain ⟨xs,m,rfl,hx,hlen,hn,hel⟩:=DataW.trod_array hu hd0
  rw [hcT]at hlen
  have hx1:xs.map (·.1)=l.map fun z=>(.lit (.int k z):DataW Unit):=by
    have:=congrArg Prod.fst hx
    simp only [yd_,DataW.agg.injEq]at this
    exact this.symm
  have hcs:cs.toList=l.map (Value.int k):=by
    apply List.ext_getElem?
    intro i
    by_cases hi:i<l.length
    · have h1:=hel i hi
      rw [hc,p4_]at h1
      have hxi:i<xs.length:=by omega
      rw [List.getElem?_eq_getElem hxi]at h1
      obtain ⟨z,e1,e2,_⟩:=DataW.trod_int hE h1
      have h2:(xs.map (·.1))[i]? =some (.lit (.int k z)):=by rw [List.getElem?_map,List.getElem?_eq_getElem hxi,e2];rfl
      rw [hx1,List.getElem?_map,List.getElem?_eq_getElem hi]at h2
      simp only [Option.map_some,Option.some.injEq,DataW.lit.injEq,Lit.int.injEq,true_and]at h2
      have h3:cs.toList[i]? =some (.int k z):=by
        cases hz:cs.toList[i]? with
        |none=>rw [hz]at e1;cases e1
        |some y=>rw [hz]at e1;simp at e1;rw [e1]
      rw [h3,List.getElem?_map,List.getElem?_eq_getElem hi,←h2];rfl
    rw [List.getElem?_eq_none (by omega),List.getElem?_eq_none (by rw [List.length_map];omega)]
  have hmem:MemPlace.cell g 0∈ps:=by
    refine hps _ ?_
    simp only [MemPlace.row,List.mem_map,List.mem_range]
    exact ⟨0, by have : cs.size = l.length := by rw [← Array.length_toList, hlen]
                 omega,by simp⟩
  obtain ⟨⟨c,t,hb⟩,_⟩:=hok g 0 hmem
  refine ⟨t,?_⟩
  have hv:W.var? P name=some c:=by unfold World.var?;rw [hg];simp [hb]
  rw [hv0]at hv
  rw [hb,←Option.some.inj hv,←hcs]
theorem yh_{P:Program}{W:World}{laid:List (String×DataW Unit)}{n1 n2:String}{g1 g2 T1 E1 T2 E2:Nat}{d1 d2:DataW Unit}(h:laidMetH P laid W)(hpl:(laid.all fun x=>x.2.handleName?.isNone)=true)(m1:(n1,d1)∈laid)(m2:(n2,d2)∈laid)
    (e1:d1=yd_ .u8 (deB.map fun b=>((b.toNat:Nat):Int))) (e2:d2=yd_ .u64 (p10.map fun x=>((x:Nat):Int)))
    (hg1:P.globalNamed n1=some g1) (hT1:(P.globals[g1]?).map (·.type)=some T1) (hu1:P.underlying T1=some (.array 64 E1)) (hE1:P.underlying E1=some (.int .u8)) (hc1:P.cellsOf E1=1) (hcT1:P.cellsOf T1=64)
    (hg2:P.globalNamed n2=some g2) (hT2:(P.globals[g2]?).map (·.type)=some T2) (hu2:P.underlying T2=some (.array 20 E2)) (hE2:P.underlying E2=some (.int .u64)) (hc2:P.cellsOf E2=1) (hcT2:P.cellsOf T2=20):GT2 (hd_ W) g1 g2:=by
  subst e1 e2
  refine ⟨?_,?_⟩
  · obtain ⟨t,ht⟩:=pg_ h hpl m1 hg1 hT1 hu1 hE1 hc1 hcT1 (by decide)
    exact ⟨t,ht⟩
  obtain ⟨t,ht⟩:=pg_ h hpl m2 hg2 hT2 hu2 hE2 hc2 hcT2 (by decide)
  exact ⟨t,ht⟩
end Go.E
end

section
/- PushRelates: for every input the law returns true, and each argument reads afterwards as it read before. No condition of ours. -/
namespace Go.Proofs.YtchebnpdnfhenaaGreatDoor
open Go Go.E Go.ChangeShapes Go.WideShapes Go.ChangeAt Go.RowKit
theorem m9_ : ownKnob Tryz.prog.godebug = none := by kernel_rfl
theorem hp_ : laidOutB Tryz.prog = true := by kernel_rfl
def fo_ : List (String × DataW Unit) := [("math/bits.deBruijn32tab", Rows.laid_math_bits_deBruijn32tab), ("math/bits.deBruijn64tab", Rows.laid_math_bits_deBruijn64tab), ("internal/strconv.uint64pow10", Rows.laid_internal_strconv_uint64pow10)]
theorem mq_ (os : Os) (args : Array Value) : laidMetH Tryz.prog fo_ ((World.doorLaid Tryz.prog 400 os).forCall (fun _ _ => 0) ⟨#[], args, []⟩).memory :=
  laidMetH_of_parts3 (fuel := 8) (laidMet_of_run' 8 (by kernel_rfl) (by kernel_rfl)) (by kernel_rfl) (by kernel_rfl)
theorem kw_ : Tryz.prog.cellsOf 3 = 1 := by kernel_rfl
theorem ks_ : Tryz.prog.cellsOf 4 = 1 := by kernel_rfl
theorem h6_ : Tryz.prog.cellsOf 9 = 1 := by kernel_rfl
theorem jt_ : Tryz.prog.cellsOf 27 = 1 := by kernel_rfl
theorem jq_ : Tryz.prog.cellsOf 28 = 1 := by kernel_rfl
theorem js_ : Tryz.prog.cellsOf 29 = 1 := by kernel_rfl
theorem hs_ : Tryz.prog.cellsOf 30 = 1 := by kernel_rfl
theorem j0_ : Tryz.prog.cellsOf 32 = 5 := by kernel_rfl
theorem ju_ : Tryz.prog.cellsOf 86 = 1 := by kernel_rfl
theorem kl_ : Tryz.prog.bytesOf 3 = 8 := by kernel_rfl
theorem kc_ : Tryz.prog.bytesOf 4 = 1 := by kernel_rfl
theorem kr_ : Tryz.prog.bytesOf 9 = 16 := by kernel_rfl
theorem jx_ : Tryz.prog.bytesOf 30 = 24 := by kernel_rfl
theorem j2_ : Tryz.prog.bytesOf 86 = 24 := by kernel_rfl
theorem ir_ {w : World} : Opn Tryz.prog w 9 (fun cs (x : List UInt8) => cs = [.string (bs x)]) := Opn.mono (Opn.str Tryz.underlying9) id fun cs x h => h.1
theorem lb_ {w : World} : Opn Tryz.prog w 3 (fun cs (x : Int) => cs = [.int .i64 x] ∧ (I64 x)) := Opn.int64 Tryz.underlying3
theorem j5_ {w : World} : Opn Tryz.prog w 86 (fun cs (x : List Int) => ∃ (a0 : Option Addr) (c0 : Nat), cs = [.slice a0 x.length c0] ∧ RS (hd_ w) 1 eI_ (.slice a0 x.length c0) x ∧ (∀ q0 ∈ x, I64 q0)) := Opn.cu_ Tryz.underlying86 lb_ kw_ (by rw [kl_]; decide) ei_ h9_
theorem lj_ {w : World} : Opn Tryz.prog w 86 (fun cs (x : List Int) => ∃ p, cs = (d6_ 1 eI_ ei_).enc x p ∧ (d6_ 1 eI_ ei_).ok (hd_ w) x p ∧ ∀ q0 ∈ x, I64 q0) := Opn.mono j5_ id fun cs x h => by
  obtain ⟨a, c, h1, h2, h3⟩ := h
  exact ⟨(a, c), h1, h2, h3⟩
theorem l0_ {w : World} : Opn Tryz.prog w 27 (fun cs (x : List (List Int)) => ∃ (a0 : Option Addr) (c0 : Nat), cs = [.slice a0 x.length c0] ∧ RZ (hd_ w) (d6_ 1 eI_ ei_) (.slice a0 x.length c0) x) := Opn.mono (Opn.da_ (K := (d6_ 1 eI_ ei_)) Tryz.underlying27 lj_ ju_ (by rw [j2_]; decide)) id fun cs l ⟨a, c, h1, h2, _⟩ => ⟨a, c, h1, h2⟩
theorem if_ {w : World} : Opn Tryz.prog w 30 (fun cs (x : List (List UInt8)) => ∃ (a0 : Option Addr) (c0 : Nat), cs = [.slice a0 x.length c0] ∧ RS (hd_ w) 1 eS_ (.slice a0 x.length c0) x) := Opn.slice Tryz.underlying30 ir_ h6_ (by rw [kr_]; decide) el_ of_
theorem lx_ {w : World} : Opn Tryz.prog w 30 (fun cs (x : List (List UInt8)) => ∃ p, cs = (d6_ 1 eS_ el_).enc x p ∧ (d6_ 1 eS_ el_).ok (hd_ w) x p ∧ True) := Opn.mono if_ id fun cs x h => by
  obtain ⟨a, c, h1, h2⟩ := h
  exact ⟨(a, c), h1, h2, trivial⟩
theorem lm_ {w : World} : Opn Tryz.prog w 28 (fun cs (x : List (List (List UInt8))) => ∃ (a0 : Option Addr) (c0 : Nat), cs = [.slice a0 x.length c0] ∧ RZ (hd_ w) (d6_ 1 eS_ el_) (.slice a0 x.length c0) x) := Opn.mono (Opn.da_ (K := (d6_ 1 eS_ el_)) Tryz.underlying28 lx_ hs_ (by rw [jx_]; decide)) id fun cs l ⟨a, c, h1, h2, _⟩ => ⟨a, c, h1, h2⟩
theorem mn_ {w : World} : Opn Tryz.prog w 4 (fun cs (x : Bool) => cs = [.bool x]) := Opn.bool Tryz.underlying4
theorem lk_ {w : World} : Opn Tryz.prog w 29 (fun cs (x : List Bool) => ∃ (a0 : Option Addr) (c0 : Nat), cs = [.slice a0 x.length c0] ∧ RS (hd_ w) 1 et_ (.slice a0 x.length c0) x) := Opn.slice Tryz.underlying29 mn_ ks_ (by rw [kc_]; decide) ef_ fd_
theorem le_ {w : World} : Opn Tryz.prog w 32 (fun cs (x : Seq) => ∃ (a0 : Option Addr) (c0 : Nat), ∃ (a1 : Option Addr) (c1 : Nat), ∃ (a2 : Option Addr) (c2 : Nat), ∃ (a3 : Option Addr) (c3 : Nat), cs = [.string (bs x.front), .slice a0 x.next.length c0, .slice a1 x.outs.length c1, .slice a2 x.fin.length c2, .slice a3 x.tail.length c3] ∧ RZ (hd_ w) (d6_ 1 eI_ ei_) (.slice a0 x.next.length c0) x.next ∧ RZ (hd_ w) (d6_ 1 eS_ el_) (.slice a1 x.outs.length c1) x.outs ∧ RS (hd_ w) 1 et_ (.slice a2 x.fin.length c2) x.fin ∧ RS (hd_ w) 1 eS_ (.slice a3 x.tail.length c3) x.tail) := by
  intro H enc held fuel cs d ps ht hs
  obtain ⟨hl, hp⟩ := s5_ Tryz.underlying32 ht hs
  rw [j0_] at hl
  obtain ⟨x0, h0⟩ := hp 0 _ rfl ir_
  replace h0 : (cs.drop 0).take (Tryz.prog.cellsOf 9) = [.string (bs x0)] := h0
  rw [h6_] at h0
  obtain ⟨x1, a1_a0, c1_c0, h1, f1_a0⟩ := hp 1 _ rfl l0_
  replace h1 : (cs.drop 1).take (Tryz.prog.cellsOf 27) = [.slice a1_a0 x1.length c1_c0] := h1
  rw [jt_] at h1
  obtain ⟨x2, a2_a0, c2_c0, h2, f2_a0⟩ := hp 2 _ rfl lm_
  replace h2 : (cs.drop 2).take (Tryz.prog.cellsOf 28) = [.slice a2_a0 x2.length c2_c0] := h2
  rw [jq_] at h2
  obtain ⟨x3, a3_a0, c3_c0, h3, f3_a0⟩ := hp 3 _ rfl lk_
  replace h3 : (cs.drop 3).take (Tryz.prog.cellsOf 29) = [.slice a3_a0 x3.length c3_c0] := h3
  rw [js_] at h3
  obtain ⟨x4, a4_a0, c4_c0, h4, f4_a0⟩ := hp 4 _ rfl if_
  replace h4 : (cs.drop 4).take (Tryz.prog.cellsOf 30) = [.slice a4_a0 x4.length c4_c0] := h4
  rw [hs_] at h4
  have e : cs = ((cs.drop 0).take 1 ++ ((cs.drop 1).take 1 ++ ((cs.drop 2).take 1 ++ ((cs.drop 3).take 1 ++ ((cs.drop 4).take 1 ++ cs.drop 5))))) := by
    rw [kk_ cs 4 1]; rw [kk_ cs 3 1]; rw [kk_ cs 2 1]; rw [kk_ cs 1 1]; rw [kk_ cs 0 1]; rfl
  rw [h0, h1, h2, h3, h4, List.drop_of_length_le (by omega)] at e
  exact ⟨⟨x0, x1, x2, x3, x4⟩, a1_a0, c1_c0, a2_a0, c2_c0, a3_a0, c3_c0, a4_a0, c4_c0, e, f1_a0, f2_a0, f3_a0, f4_a0⟩
set_option maxRecDepth 100000 in
theorem km_ (os : Os) (started : os.Started) (H : Type) (enc : TypeId × Value → H) :
    ReturnsInHanded {} Tryz.checked os 11 .any (fun w args => (Rows.pushRelatesSpec.pre enc Tryz.prog Tryz.f11 [] false w args ∧ laidMetH Tryz.prog fo_ w) ∧ sizedMet enc Tryz.prog Tryz.f11 (OpenSpec.ofChange Rows.pushRelatesSpec) false w args)
      (Rows.pushRelatesSpec.post enc Tryz.prog Tryz.f11 false true false false) := by
  refine returnsInHanded_of_change_and (C := Tryz.checked) (X := fun w _ => laidMetH Tryz.prog fo_ w) (fun _ _ _ hh h => h.of_heap hh) m9_ started (by kernel_rfl) Tryz.func11
    (ChangeSpec.witness_shaped (enc := enc) (C := Tryz.checked) (os := os) (X := fun w _ => laidMetH Tryz.prog fo_ w) false (World.doorLaid Tryz.prog 400 os) #[.agg #[.string ⟨#[]⟩, .slice none 0 0, .slice none 0 0, .slice none 0 0, .slice none 0 0], .string ⟨#[]⟩] 8 rfl (World.shaped_of_RefB (by kernel_rfl) (by kernel_rfl)) (by kernel_rfl) (by kernel_rfl) (by kernel_rfl) (mq_ os _)) ?_
  intro W base args ds gs before hval0 hW _ hsz0 hL _
  have hgl := yh_ (P := Tryz.prog) (laid := fo_) (g1 := 1) (g2 := 2) (T1 := 266) (T2 := 274) (by exact hL) (by kernel_rfl) (List.mem_cons_of_mem _ (List.mem_cons_self ..)) (List.mem_cons_of_mem _ (List.mem_cons_of_mem _ (List.mem_cons_self ..))) (by kernel_rfl) (by kernel_rfl) (by kernel_rfl) (by kernel_rfl) (by exact Tryz.underlying266) Tryz.underlying5 (by kernel_rfl) (by kernel_rfl) (by kernel_rfl) (by kernel_rfl) (by exact Tryz.underlying274) Tryz.underlying62 (by kernel_rfl) (by kernel_rfl)
  have hsz1 : (DataW.weightsEach Tryz.prog (Tryz.f11.params.toList ++ Rows.pushRelatesSpec.plain.varTypes Tryz.prog) (ds ++ gs)).all (· ≤ reachBytes) = true := hsz0
  have hval : ∀ (j : Nat) t v, Tryz.f11.params[j]? = some t → args[j]? = some v → Value.okWide Tryz.prog W .any base t v := hval0
  have hW' := hW
  obtain ⟨p, q, hA0, hV, rfl, hfz, hnd⟩ := hW
  have hA : DataW.TrodAll enc Tryz.prog W 0 (fun _ => true) true Tryz.f11.params.toList args.toList ds p := hA0
  rw [Tryz.params11] at hA hval hsz1
  have hsm := ya_ hsz1
  obtain ⟨v0, vs0, d0, ds0, p0, q0, hargs, rfl, rfl, h0, r0⟩ := trodAll_cons hA
  obtain ⟨v1, vs1, d1, ds1, p1, q1, rfl, rfl, rfl, h1, r1⟩ := trodAll_cons r0
  obtain ⟨rfl, rfl, rfl⟩ := trodAll_nil r1
  obtain rfl : args = #[v0, v1] := by cases args; simp_all
  obtain ⟨rfl, rfl⟩ := trodVars_none hV
  clear hA0 hval0 hsz0 hsz1
  have s0 := lp_ (P := Tryz.prog) (i := 0) rfl rfl hsm
  have k0 := h0
  have lt0 : ∀ x ∈ p0, x.block < W.heap.size := by obtain ⟨m, hm⟩ := k0; exact DataW.trod_lt m _ _ _ hm
  obtain ⟨n0, rfl⟩ := uz_ Tryz.underlying32 (.inl ⟨_, rfl⟩) (hval 0 32 v0 rfl rfl)
  obtain ⟨x0, a0_0, c0_0, a0_1, c0_1, a0_2, c0_2, a0_3, c0_3, e0, f0_0, f0_1, f0_2, f0_3⟩ := le_.arg h0 s0
  replace e0 := agg_of e0
  have g0 : ∀ W', Below W.heap.size W W' → DataW.Trod enc Tryz.prog W' 0 (fun b => decide (b < W.heap.size)) true 32 _ d0 p0 := fun W' bel => Below.trod hp_ (by kernel_rfl) (of_decide_eq_true (by kernel_rfl)) k0 bel lt0
  have s1 := lp_ (P := Tryz.prog) (i := 1) rfl rfl hsm
  have k1 := h1
  have lt1 : ∀ x ∈ p1, x.block < W.heap.size := by obtain ⟨m, hm⟩ := k1; exact DataW.trod_lt m _ _ _ hm
  obtain ⟨n1, rfl⟩ := okWide_string Tryz.underlying9 (hval 1 9 v1 rfl rfl)
  obtain ⟨x1, e1, b1⟩ := Opn.arg (Opn.str Tryz.underlying9) h1 s1
  simp only [Value.cells] at e1
  replace e1 := List.head_eq_of_cons_eq e1
  have g1 : ∀ W', Below W.heap.size W W' → DataW.Trod enc Tryz.prog W' 0 (fun b => decide (b < W.heap.size)) true 9 _ d1 p1 := fun W' bel => Below.trod hp_ (by kernel_rfl) (of_decide_eq_true (by kernel_rfl)) k1 bel lt1
  have hcall : Calls Tryz.prog 11 #[.agg ([.string (bs x0.front), .slice a0_0 x0.next.length c0_0, .slice a0_1 x0.outs.length c0_1, .slice a0_2 x0.fin.length c0_2, .slice a0_3 x0.tail.length c0_3]).toArray, .string (bs x1)] W fun e w' => e = .returned (.bool true) ∧ Below W.heap.size W w' := Con.below (Gh_ hgl f0_0 f0_1 f0_2 f0_3 (ow_ x0 x1 (Nat.le_trans b1 (by decide))))
  have hcall2 : Calls Tryz.prog 11 #[(.agg n0), (.string n1)] W fun e w' => e = .returned (.bool true) ∧ Below W.heap.size W w' := by
    rw [e0, e1]; exact hcall
  refine hcall2.mono fun e W' ⟨he, bel⟩ => ?_
  subst he
  exact ⟨_, rfl, _, _, _, [], _, [], hW', trodAll_mk1 (shut_bool Tryz.underlying4 _), (trodAll_cons_mk (g0 W' bel) (trodAll_cons_mk (g1 W' bel) trodAll_mk0)), rfl, bel.frame _, fun h => by cases h⟩
theorem ml_ : Rows.pushRelatesRow.holds Tryz.pinned (OpenSpec.ofChange Rows.pushRelatesSpec) :=
  OpenClaim.holds_of_wide 11 Tryz.f11 rfl rfl rfl rfl rfl rfl rfl ⟨rfl, rfl, rfl, rfl, rfl⟩ rfl rfl rfl rfl rfl (by kernel_rfl) Tryz.func11 (by kernel_rfl)
    (of_decide_eq_true (by kernel_rfl)) (by unfold Func.isWrapper; first | (rw [if_pos (by decide +kernel)]; kernel_rfl) | (rw [if_neg (by decide +kernel)]; exact ⟨rfl, rfl⟩))
    (fun os started H enc _ => km_ os started H enc)
theorem pushRelates_row : Rows.PushRelatesSaid := ml_
#print axioms pushRelates_row
theorem lf_ : ∀ (j : Nat) (t : TypeId), Tryz.f11.params[j]? = some t → Tryz.prog.wantsStandIn t = false := fun j t ht => by
  rw [Tryz.params11] at ht
  have hm : t ∈ [32, 9] := by simpa using Array.mem_of_getElem? ht
  have hall : ([32, 9].all fun u => !Tryz.prog.wantsStandIn u) = true := by kernel_rfl
  exact (show Tryz.prog.wantsStandIn t = false by simpa using List.all_eq_true.1 hall t hm)
theorem pushRelates_holds : Rows.PushRelatesCardSaid :=
  Claim7.holds_tied_plain_at .later [] [.data, .data, .data] true (true, "f568851396d7a30d6bc57c5301dc3eaf4fd31757d6a99dca80f817a9aab275e4") true
    pushRelates_row (fun _ h => by cases h) (by kernel_rfl) (fun _ h => by cases h) pushRelates_row_tie rfl ⟨rfl, rfl⟩ (by kernel_rfl) rfl
    (fun f fn hf hfn => by
      obtain rfl : f = 11 := Option.some.inj ((show Tryz.prog.funcNamed "whittle/whittlelaw22.PushRelates" = some 11 by kernel_rfl).symm.trans hf) |>.symm
      obtain rfl : fn = Tryz.f11 := (Option.some.inj (Tryz.func11.symm.trans hfn)).symm
      exact ⟨by kernel_rfl, lf_⟩)
    (by kernel_rfl)
#print axioms pushRelates_holds
end Go.Proofs.YtchebnpdnfhenaaGreatDoor
end
