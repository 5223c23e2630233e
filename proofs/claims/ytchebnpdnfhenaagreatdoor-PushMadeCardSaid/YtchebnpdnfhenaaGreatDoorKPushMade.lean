/- PushMade: for every input the law returns true, and each argument reads afterwards as it read before. No condition of ours. -/
import Derived.Test.YtchebnpdnfhenaaGreatDoorBe54edaa7b1
import Derived.Test.YtchebnpdnfhenaaGreatDoorBc7c94354ed
import Derived.Test.YtchebnpdnfhenaaGreatDoorB49fafd953b
import Derived.Test.YtchebnpdnfhenaaGreatDoorBd5be553240
import Derived.Test.YtchebnpdnfhenaaGreatDoorBdea7eb941c
import Derived.KernelRfl
import Derived.ProofKit
import Derived.SizedLaws
import Derived.Below
import Derived.LaidMore
import Derived.OpenShut
import Derived.MakeChecks
import Derived.Test.YtchebnpdnfhenaaGreatDoorRows
import Derived.WalkKit
import Derived.ShutString
import Derived.ChangeOld
import Derived.Test.YtchebnpdnfhenaaGreatDoorTie
import Derived.Test.YtchebnpdnfhenaaGreatDoorCards
import Derived.SevenTiedAt
import Derived.Stop.Joined

set_option linter.unusedVariables false
set_option linter.unusedSimpArgs false
set_option linter.unusedSectionVars false
set_option maxRecDepth 100000
set_option maxHeartbeats 8000000

noncomputable section
namespace Go.Proofs.YtchebnpdnfhenaaGreatDoor
open Go Go.E
def r0:N_1:=List.replicate 256 (-1)
def o0:T_2:=List.replicate 256 []
def qP:Seq:=⟨[],[r0.set 97 1,(r0.set 98 2).set 99 2,r0],[o0,(o0.set 98 [120]).set 99 [120,121],o0],[false,false,true],[[],[],[122]]⟩
theorem r0_at{b:Nat}(hb:b<256):nth r0 b 0= -1:=by
  unfold r0
  have h: ∀(n i:Nat) (x:Int),i<n→nth (List.replicate n x) i 0=x:=fun n i x h=>by
    rw [kd_ _ (by rw [lr_];exact h),List.getElem_replicate]
  exact h 256 b (-1) hb
theorem r0_len:r0.length=256:=lr_
theorem o0_len:o0.length=256:=lr_
theorem qP_n:qP.next.length=3:=rfl
theorem qP_right:d9_ qP=true:=by decide+kernel
theorem qP2: ∀{w y:T_1},ev_ qP 2 w=some y→w=[]∧y=[122]
  |[],y,h=>by
    rw [ev_,if_pos (show nth qP.fin 2 false=true from rfl)]at h
    exact ⟨rfl,(Option.some.inj h).symm⟩
  |b::w,y,h=>by
    have hb:=UInt8.toNat_lt b
    rw [ev_,if_pos (show nxQ qP 2 b.toNat<0 by show nth r0 b.toNat 0<0;rw [r0_at (by omega)];decide)]at h
    cases h
theorem qP1 : ∀ {w y : T_1}, ev_ qP 1 w = some y → y = [120, 122] ∨ y = [120, 121, 122]
  |[],y,h=>by
    rw [ev_,if_neg (show ¬ nth qP.fin 1 false=true by decide)]at h;cases h
  | b :: w, y, h => by
    have hb:=UInt8.toNat_lt b
    have hn:nxQ qP 1 b.toNat=if b.toNat=99 then 2 else if b.toNat=98 then 2 else -1:=by
      show nth ((r0.set 98 2).set 99 2) b.toNat 0=_
      have hl:=r0_len
      rw [ek_,ek_,ls_]
      by_cases c:b.toNat=99
      · rw [if_pos c,if_pos ⟨c.symm,by omega⟩]
      rw [if_neg c,if_neg (fun e=>c e.1.symm)]
      by_cases d:b.toNat=98
      · rw [if_pos d,if_pos ⟨d.symm,by omega⟩]
      rw [if_neg d,if_neg (fun e=>d e.1.symm),r0_at (by omega)]
    have ho:otQ qP 1 b.toNat=if b.toNat=99 then [120,121] else if b.toNat=98 then [120] else []:=by
      show nth ((o0.set 98 [120]).set 99 [120,121]) b.toNat []=_
      have hl:=o0_len
      rw [ek_,ek_,ls_]
      by_cases c:b.toNat=99
      · rw [if_pos c,if_pos ⟨c.symm,by omega⟩]
      rw [if_neg c,if_neg (fun e=>c e.1.symm)]
      by_cases d:b.toNat=98
      · rw [if_pos d,if_pos ⟨d.symm,by omega⟩]
      rw [if_neg d,if_neg (fun e=>d e.1.symm)]
      unfold o0;rw [g9_]
    rw [ev_,hn,ho]at h
    by_cases c:b.toNat=99
    · rw [if_pos c,if_pos c,if_neg (by decide)]at h
      cases hy:ev_ qP 2 w with
      |none=>rw [show (2:Int).toNat=2 from rfl,hy]at h;cases h
      |some z=>
        rw [show (2:Int).toNat=2 from rfl,hy]at h
        rw [(qP2 hy).2]at h
        exact .inr (Option.some.inj h).symm
    rw [if_neg c,if_neg c]at h
    by_cases d:b.toNat=98
    · rw [if_pos d,if_pos d,if_neg (by decide)]at h
      cases hy:ev_ qP 2 w with
      |none=>rw [show (2:Int).toNat=2 from rfl,hy]at h;cases h
      |some z=>
        rw [show (2:Int).toNat=2 from rfl,hy]at h
        rw [(qP2 hy).2]at h
        exact .inl (Option.some.inj h).symm
    rw [if_neg d,if_neg d,if_pos (by decide)]at h;cases h
theorem qP0 : ∀ {w y : T_1}, ev_ qP 0 w = some y → y = [120, 122] ∨ y = [120, 121, 122]
  |[],y,h=>by
    rw [ev_,if_neg (show ¬ nth qP.fin 0 false=true by decide)]at h;cases h
  | b :: w, y, h => by
    have hb:=UInt8.toNat_lt b
    have hn:nxQ qP 0 b.toNat=if b.toNat=97 then 1 else -1:=by
      show nth (r0.set 97 1) b.toNat 0=_
      have hl:=r0_len
      rw [ek_]
      by_cases c:b.toNat=97
      · rw [if_pos c,if_pos ⟨c.symm,by omega⟩]
      rw [if_neg c,if_neg (fun e=>c e.1.symm),r0_at (by omega)]
    have ho:otQ qP 0 b.toNat=[]:=by
      show nth o0 b.toNat []=_
      unfold o0;rw [g9_]
    rw [ev_,hn,ho]at h
    by_cases c:b.toNat=97
    · rw [if_pos c,if_neg (by decide)]at h
      cases hy:ev_ qP 1 w with
      |none=>rw [show (1:Int).toNat=1 from rfl,hy]at h;cases h
      |some z=>
        rw [show (1:Int).toNat=1 from rfl,hy]at h
        have:z=y:=Option.some.inj h
        rw [←this];exact qP1 hy
    rw [if_neg c,if_pos (by decide)]at h;cases h
theorem qP_ab:ev_ qP 0 [97,98]=some [120,122]:=by decide+kernel
theorem qP_ac:ev_ qP 0 [97,99]=some [120,121,122]:=by decide+kernel
theorem qP_1b:ev_ qP 1 [98]=some [120,122]:=by decide+kernel
theorem qP_2:ev_ qP 2 []=some [122]:=by decide+kernel
theorem qP_no:ev_ qP 0 []=none∧ev_ qP 0 [97]=none∧ev_ qP 0 [98]=none:=by decide+kernel
theorem qP_min : ∃ m, B3_ qP = some (m, 0) ∧ CanQ m ∧ m.front = [120] ∧ m.next.length = 3 ∧ fj_ m [97, 99] = some [120, 121, 122] := by
  obtain ⟨p,r,_,h2,h3,h4⟩:=yv_ qP
  have hn:=qP_n
  have hlive:rb_ qP 0:=⟨_,_,qP_ab⟩
  cases h2 with
  |wrong h=>exact absurd qP_right h
  |none _ h=>
    rcases h with h|h
    · omega
    exact absurd hlive h
  |made l m v a1 a2 a3 a4 a5=>
    have hk:=le_ (m:=m) a5
    have hk0:=(hk 0 a2).2 ⟨.zero,(a4.live 0 a2).2 a3⟩
    have hc0:=a4.com 0 a2
    have hl0:nth l 0 []=[120]:=by
      have u1:=hc0 _ _ qP_ab
      have u2:=hc0 _ _ qP_ac
      have u3:=a4.up 0 a2 ((a4.live 0 a2).2 a3) [120] fun w y hy=>by
        rcases qP0 hy with e|e
        · rw [e];exact ⟨[122],rfl⟩
        rw [e];exact ⟨[121,122],rfl⟩
      obtain ⟨x,hx⟩:=u3
      rw [←hx]at u1 u2
      cases x with
      |nil=>exact hx.symm
      |cons c x=>
        exfalso
        obtain ⟨y1,e1⟩:=u1
        obtain ⟨y2,e2⟩:=u2
        have f1:c=122:=(List.cons.inj (List.cons.inj e1).2).1
        have f2:c=121:=(List.cons.inj (List.cons.inj e2).2).1
        rw [f1]at f2;exact absurd f2 (by decide)
    have hlen: ∀s,s<qP.next.length→(nth l s []).length≤3:=fun s hs=>by
      have hs:s=0∨s=1∨s=2:=by omega
      rcases hs with rfl|rfl|rfl
      · rw [hl0];decide
      · exact Nat.le_trans (a4.com 1 hs _ _ qP_1b).length_le (by decide)
      exact Nat.le_trans (a4.com 2 hs _ _ qP_2).length_le (by decide)
    have hot: ∀s b,s<qP.next.length→b<256→(otQ qP s b).length≤2:=fun s b hs hb=>by
      have hs:s=0∨s=1∨s=2:=by omega
      rcases hs with rfl|rfl|rfl
      · show (nth o0 b []).length≤2
        unfold o0;rw [g9_];decide
      · show (nth ((o0.set 98 [120]).set 99 [120,121]) b []).length≤2
        rw [ek_,ek_]
        split
        · decide
        split
        · decide
        unfold o0;rw [g9_];decide
      show (nth o0 b []).length≤2
      unfold o0;rw [g9_];decide
    have hr:d9_ (fo_ qP l (h6_ v m))=true:=by
      refine Hm_ a1 a2 hk0 ?_ fun a h1 _ b hb=> ?_
      · show ([]++nth l 0 []).length≤_
        rw [hl0];decide
      unfold otP
      split
      · exact Nat.zero_le _
      split
      · have g1:=hot a b h1 hb
        have g2:=fe_ a1 h1 hb
        have g3:=hlen (nxQ qP a b).toNat (by omega)
        rw [List.length_drop,la_];omega
      exact Nat.zero_le _
    have e0:ml_ qP l (h6_ v m)=(fo_ qP l (h6_ v m),0):=by unfold ml_;rw [if_pos hr]
    have hpr:PushR qP (ml_ qP l (h6_ v m)):= .made l m v a1 a2 a3 a4 a5
    rw [e0]at h4 hpr
    have hr2:=(MinR.err' hpr h4).1
    obtain ⟨k1,k2,k3⟩:=h4.can hpr hr2
    have hpl:(fo_ qP l (h6_ v m)).next.length≤3:=by rw [hd_];exact he_ _ _
    have hpp:=ny_ a2 hk0
    have hfr:r.1.front=[120]:=by
      cases h4 with
      |err h=>exact absurd rfl h
      |none _ h=>
        have h:(fo_ qP l (h6_ v m)).next.length=0:=h
        rw [hd_]at h;omega
      |made n st _ h=>
        rw [h.front]
        show []++nth l 0 []=_
        rw [hl0];rfl
    have k3:r.1.next.length≤3:=Nat.le_trans k3 hpl
    refine ⟨r.1,by rw [h3];exact congrArg some (Prod.ext rfl hr2),k1,hfr,?_,?_⟩
    · have hs: ∀w,(ev_ r.1 0 w).isSome=(ev_ qP 0 w).isSome:=fun w=>by
        have:=k2 w
        unfold fj_ at this
        cases c:ev_ r.1 0 w with
        |none=>cases d:ev_ qP 0 w with
          |none=>rfl
          |some y=>rw [c,d]at this;cases this
        |some y=>cases d:ev_ qP 0 w with
          |none=>rw [c,d]at this;cases this
          |some y=>rfl
      have step: ∀{s b:Nat} {w:T_1},s<r.1.next.length→b<256→(ev_ r.1 s (UInt8.ofNat b::w)).isSome=true→0≤nxQ r.1 s b∧nxQ r.1 s b<(r.1.next.length:Int)∧(ev_ r.1 (nxQ r.1 s b).toNat w).isSome=true:=fun {s b w} hs' hb h=>by
        by_cases c:0≤nxQ r.1 s b
        · rw [i8_ hb c,Option.isSome_map]at h
          exact ⟨c,k1.lt s b hs' hb,h⟩
        rw [sh_ hb (by omega)]at h;cases h
      have hpos:0<r.1.next.length:=by
        by_cases c:0<r.1.next.length
        · exact c
        exfalso
        have:=hs [97,98]
        rw [qP_ab,f0_ (en_ (by omega)) (en_ (by have:=(d7_ k1.right).2.2.1;omega))]at this
        cases this
      obtain ⟨b1,b2,b3⟩:=step (s:=0) (b:=97) (w:=[98]) hpos (by decide) (by show (ev_ r.1 0 [97,98]).isSome=true;rw [hs,qP_ab];rfl)
      obtain ⟨c1,c2,c3⟩:=step (s:=(nxQ r.1 0 97).toNat) (b:=98) (w:=[]) (by omega) (by decide) b3
      have n0:(ev_ r.1 0 []).isSome=false:=by rw [hs,qP_no.1];rfl
      have n1:(ev_ r.1 0 [98]).isSome=false:=by rw [hs,qP_no.2.2];rfl
      have n2:(ev_ r.1 (nxQ r.1 0 97).toNat []).isSome=false:=by
        have:=hs [97]
        rw [qP_no.2.1,show ([97]:T_1)=UInt8.ofNat 97::[]from rfl,i8_ (by decide) b1,Option.isSome_map]at this
        exact this
      have d1:(nxQ r.1 0 97).toNat≠0:=fun e=>by rw [e]at b3;exact absurd (n1.symm.trans b3) (by decide)
      have d2:(nxQ r.1 (nxQ r.1 0 97).toNat 98).toNat≠0:=fun e=>by rw [e,n0]at c3;cases c3
      have d3:(nxQ r.1 (nxQ r.1 0 97).toNat 98).toNat≠(nxQ r.1 0 97).toNat:=fun e=>by rw [e,n2]at c3;cases c3
      omega
    rw [k2]
    unfold fj_
    rw [qP_ac];rfl
def tP:Fst:=⟨3,[⟨0,[]⟩],[⟨2,[122]⟩],[⟨0,1,BSet.ofL [97],[],false⟩,⟨1,2,BSet.ofL [98],[120],false⟩,⟨1,2,BSet.ofL [99],[120,121],false⟩]⟩
theorem tP_b:jw_ tP=true:=by kernel_rfl
theorem tP_on(s:Nat)(h:s<3):Rch (onS tP) (arE tP) (s:Int):=by
  have h0:Rch (onS tP) (arE tP) 0:= .base ⟨⟨0,[]⟩,by simp [tP],rfl⟩
  have h1:Rch (onS tP) (arE tP) 1:= .step h0 ⟨⟨0,1,BSet.ofL [97],[],false⟩,by simp [tP],rfl,rfl⟩
  have h2:Rch (onS tP) (arE tP) 2:= .step h1 ⟨⟨1,2,BSet.ofL [98],[120],false⟩,by simp [tP],rfl,rfl⟩
  match s,h with
  |0,_=>exact h0
  |1,_=>exact h1
  |2,_=>exact h2
theorem tP_back(s:Nat)(h:s<3):Rch (enS tP) (arB tP) (s:Int):=by
  have h2:Rch (enS tP) (arB tP) 2:= .base ⟨⟨2,[122]⟩,by simp [tP],rfl⟩
  have h1:Rch (enS tP) (arB tP) 1:= .step h2 ⟨⟨1,2,BSet.ofL [98],[120],false⟩,by simp [tP],rfl,rfl⟩
  have h0:Rch (enS tP) (arB tP) 0:= .step h1 ⟨⟨0,1,BSet.ofL [97],[],false⟩,by simp [tP],rfl,rfl⟩
  match s,h with
  |0,_=>exact h0
  |1,_=>exact h1
  |2,_=>exact h2
theorem ya_:fv_ tP=tP:=yt_ ((fw_ tP).1 tP_b) (fun s h=>r5_.2 ⟨tP_on s h,tP_back s h⟩) (by decide+kernel) (by decide+kernel) (by decide+kernel)
def okP:Bool:=match ofK tP 9 with
  | .inl _=>false
  | .inr (_,q)=>decide (q.front=qP.front) && decide (q.next=qP.next) && decide (q.outs=qP.outs) && decide (q.fin=qP.fin) && decide (q.tail=qP.tail)
theorem okP_t:okP=true:=by kernel_rfl
theorem mj_:An_=some true:=by
  unfold An_
  rw [d3_ (by decide),d3_ (by decide),d3_ (by decide)]
  show bnd (E8_ tP 9) _=_
  rw [of_eq tP 9 (fun _=>by rw [ya_];decide),ed_]
  unfold ofD
  rw [if_pos ⟨tP_b,by decide,by decide⟩,ya_,←ofK_eq]
  have h:=okP_t
  unfold okP at h
  cases hk:ofK tP 9 with
  |inl e=>rw [hk]at h;cases h
  |inr x=>
    obtain ⟨R,q⟩:=x
    rw [hk]at h
    simp only [Bool.and_eq_true,dq_]at h
    obtain ⟨⟨⟨⟨h1,h2⟩,h3⟩,h4⟩,h5⟩:=h
    have e:q=qP:=Hp_ h1 h2 h3 h4 h5
    subst e
    obtain ⟨m,m1,m2,m3,m4,m5⟩:=qP_min
    show bnd (B3_ qP) _=_
    rw [m1,ed_]
    show bnd (Ez_ m [97,99]) _=_
    obtain ⟨a1,a2,a3⟩:=ma_ m2.right [97,99]
    rw [m5]at a1 a2
    have a1:(gi_ m [97,99]).1=[120,121,122]:=a1
    rw [apply_eq m [97,99] (by decide),ed_,show (ofR (Sum.inr (R,qP))).2=0 from rfl,d4_ rfl,d4_ rfl,d4_ m3,d4_ (by show ((m.next.length:Nat):Int)=3;rw [m4];rfl),d4_ a1,a2]
    show ec_ true (some (decide ((gi_ m [97,99]).2.2.2=0))) _=_
    rw [a3];rfl
end Go.Proofs.YtchebnpdnfhenaaGreatDoor
end

noncomputable section
namespace Go.Proofs.YtchebnpdnfhenaaGreatDoor
open Go Go.E
theorem ex_ite{α:Type}{b:Bool}{x y:Option α}(h1:b=true→ ∃r,x=some r)(h2:b=false→ ∃r,y=some r): ∃r,ec_ b x y=some r:=by
  cases b with
  |true=>exact h1 rfl
  |false=>exact h2 rfl
theorem uc_{α:Type}(x:α): ∃r,some x=some r:=⟨x,rfl⟩
theorem vi_(t:Fst)(i:Int): ∃r,Bc_ t i=some r:=by
  unfold Bc_
  exact ex_ite (fun _=>ex_ite (fun _=>uc_ _) (fun _=>uc_ _)) (fun _=>uc_ _)
theorem vj_(t:Fst)(i:Int): ∃r,Bd_ t i=some r:=by
  unfold Bd_
  obtain ⟨r,h, -⟩:=er_ (step:=fun q:Int×Nat=>Af_ t q.1 q.2) (fun (s:Int) k=>(s,k)) t.arcs.length (fun _ _=>True) (fun _=>True)
    (fun k s hk _=>by
      show (∃s',Af_ t s k=_∧_)∨ ∃r,Af_ t s k=_∧_
      unfold Af_
      rw [d4_ (by omega)]
      by_cases h:s≤60
      · rw [d4_ h];exact .inl ⟨_,rfl,trivial⟩
      rw [d5_ h];obtain ⟨r,hr⟩:=vi_ t s;exact .inr ⟨r,by rw [hr];rfl,trivial⟩)
    (fun s _=>by
      show ∃r,Af_ t s _=_∧_
      unfold Af_
      rw [d5_ (by omega)]
      obtain ⟨r,hr⟩:=vi_ t s;exact ⟨r,by rw [hr];rfl,trivial⟩) (s0:=i) trivial
  exact ⟨r,h⟩
theorem vb_(t:Fst)(i:Int): ∃r,Bf_ t i=some r:=by
  unfold Bf_
  obtain ⟨r,h, -⟩:=er_ (step:=fun q:Int×Nat=>Ac_ t q.1 q.2) (fun (s:Int) k=>(s,k)) t.ends.length (fun _ _=>True) (fun _=>True)
    (fun k s hk _=>by
      show (∃s',Ac_ t s k=_∧_)∨ ∃r,Ac_ t s k=_∧_
      unfold Ac_
      rw [d4_ (by omega)]
      by_cases h:s≤60
      · rw [d4_ h];exact .inl ⟨_,rfl,trivial⟩
      rw [d5_ h];obtain ⟨r,hr⟩:=vj_ t s;exact .inr ⟨r,by rw [hr];rfl,trivial⟩)
    (fun s _=>by
      show ∃r,Ac_ t s _=_∧_
      unfold Ac_
      rw [d5_ (by omega)]
      obtain ⟨r,hr⟩:=vj_ t s;exact ⟨r,by rw [hr];rfl,trivial⟩) (s0:=i) trivial
  exact ⟨r,h⟩
theorem uf_(t:Fst): ∃r,Cz_ t=some r:=by
  unfold Cz_
  obtain ⟨r,h, -⟩:=er_ (step:=fun q:Int×Nat=>Ab_ t q.1 q.2) (fun (s:Int) k=>(s,k)) t.starts.length (fun _ _=>True) (fun _=>True)
    (fun k s hk _=>by
      show (∃s',Ab_ t s k=_∧_)∨ ∃r,Ab_ t s k=_∧_
      unfold Ab_
      rw [d4_ (by omega)]
      by_cases h:s≤60
      · rw [d4_ h];exact .inl ⟨_,rfl,trivial⟩
      rw [d5_ h];obtain ⟨r,hr⟩:=vb_ t s;exact .inr ⟨r,by rw [hr];rfl,trivial⟩)
    (fun s _=>by
      show ∃r,Ab_ t s _=_∧_
      unfold Ab_
      rw [d5_ (by omega)]
      obtain ⟨r,hr⟩:=vb_ t s;exact ⟨r,by rw [hr];rfl,trivial⟩) trivial
  exact ⟨r,h⟩
end Go.Proofs.YtchebnpdnfhenaaGreatDoor
end

noncomputable section
namespace Go.Proofs.YtchebnpdnfhenaaGreatDoor
open Go Go.E
theorem um_(s:BSet): ∃r,Ch_ s=some r:=by
  unfold Ch_
  obtain ⟨r,h, -⟩:=er_ (step:=fun q:T_1×Nat=>Aa_ s q.1 q.2) (fun (l:T_1) k=>(l,k)) 256 (fun k l=>l.length≤k) (fun _=>True)
    (fun k l hk hI=>by
      refine .inl ?_
      show ∃s',Aa_ s l k=_∧_
      unfold Aa_ By_
      rw [d4_ (by omega),d3_ hk]
      cases s.has k with
      |true=>exact ⟨_,by rw [iteO_true,d3_ (by simp only [lo_];omega)];rfl,by simp only [la_,lo_];omega⟩
      |false=>exact ⟨l,rfl,by omega⟩)
    (fun l hI=>⟨l,by
      show Aa_ s l 256=_
      unfold Aa_
      rw [d5_ (by omega)];rfl,trivial⟩) (s0:=[]) (Nat.le_refl _)
  exact ⟨r,h⟩
end Go.Proofs.YtchebnpdnfhenaaGreatDoor
end

noncomputable section
namespace Go.Proofs.YtchebnpdnfhenaaGreatDoor
open Go Go.E
theorem uy_(t:Fst)(i:Int): ∃r,Be_ t i=some r∧(r=true→t.arcs.length≤14∧(t.states≤5∨1024<t.states)):=by
  unfold Be_
  obtain ⟨b,hb⟩:=uf_ t
  rw [eu_ hb]
  cases b with
  |false=>exact ⟨false,rfl,fun q=>by cases q⟩
  |true=>
    rw [iteO_true]
    by_cases h:((t.arcs.length:Nat):Int)≤14
    · rw [d4_ h]
      by_cases h2:t.states≤5
      · rw [d4_ h2];exact ⟨_,rfl,fun _=>⟨by omega,.inl h2⟩⟩
      rw [d5_ h2]
      by_cases h3:1024<t.states
      · rw [d4_ h3];exact ⟨_,rfl,fun _=>⟨by omega,.inr h3⟩⟩
      rw [d5_ h3];exact ⟨_,rfl,fun q=>by cases q⟩
    rw [d5_ h]
    exact ⟨false,rfl,fun q=>by cases q⟩
theorem few21(t:Fst): ∃r,C1_ t=some r∧(r=true→t.arcs.length≤14∧(t.states≤5∨1024<t.states)):=by
  unfold C1_
  refine er_ (step:=fun q:Int×Nat=>Ad_ t q.1 q.2) (fun (s:Int) k=>(s,k)) t.arcs.length (fun _ _=>True) _
    (fun k s hk _=> ?_) (fun s _=> ?_) (s0:=0) trivial
  · show (∃s',Ad_ t s k=_∧_)∨ ∃r,Ad_ t s k=_∧_
    unfold Ad_
    rw [d4_ (by omega)]
    by_cases h:s≤40
    · obtain ⟨b,hb⟩:=um_ (nth t.arcs k az_).set
      rw [d4_ h,eu_ hb];exact .inl ⟨_,rfl,trivial⟩
    rw [d5_ h]
    obtain ⟨r,hr,ha⟩:=uy_ t s
    exact .inr ⟨r,by rw [hr];rfl,ha⟩
  show ∃r,Ad_ t s t.arcs.length=_∧_
  unfold Ad_
  rw [d5_ (by omega)]
  obtain ⟨r,hr,ha⟩:=uy_ t s
  exact ⟨r,by rw [hr];rfl,ha⟩
theorem lz_(t:Fst)(h0:0≤t.states):(fv_ t).states≤t.states∧(fv_ t).arcs.length≤t.arcs.length:=by
  have l1:=E3_ (d:=az_) (cf:=in_) (jb_ (g4_ t) t.arcs)
  have l2:=on_ (g4_ t) t.arcs
  have l3:=he_ (g4_ t) t.states.toNat
  have e:(fv_ t).states=((gl_ (g4_ t) t.states.toNat:Nat):Int):=rfl
  refine ⟨by omega,?_⟩
  show (gy_ az_ in_ (jb_ (g4_ t) t.arcs)).length≤_
  omega
theorem few_of{t:Fst}(h:t.arcs.length≤14∧(t.states≤5∨1024<t.states))(hb:jw_ t=true):(fv_ t).states.toNat * (fv_ t).arcs.length≤1000000:=by
  have ht:=(fw_ t).1 hb
  have h1:=ht.st0
  have h2:=ht.st1
  obtain ⟨h3,h4⟩:=lz_ t h1
  have h5:(fv_ t).states.toNat * (fv_ t).arcs.length≤5 * 14:=Nat.mul_le_mul (by omega) (by omega)
  omega
theorem w0_(l:B_1):Cj_ l l=some true:=by
  unfold Cj_
  rw [decide_eq_false (by simp),iteO_false]
  refine nj_ (α:=Unit) l.length (fun k hk=> ?_) ?_
  · simp only [A1_,oa_ hk,iteO_true,d3_ hk,bne_self_eq_false,iteO_false];rfl
  simp only [A1_,Int.lt_irrefl,decide_false,iteO_false];rfl
theorem mw_(q:Seq):Ay_ q q=some true:=by
  unfold Ay_
  rw [d5_ (by simp),d5_ (by simp),d5_ (by simp),w0_,ed_,gk_,qm_,ed_,gk_]
  refine nj_ (α:=Unit) q.next.length (fun k hk=> ?_) ?_
  · unfold A5_ B0_
    rw [d4_ (by omega),d3_ hk,zg_,ed_,gk_]
    by_cases c:k<q.outs.length
    · rw [d4_ (by omega),d3_ c,qm_,ed_,gk_];rfl
    rw [d5_ (by omega)];rfl
  unfold A5_
  rw [d5_ (by omega)];rfl
end Go.Proofs.YtchebnpdnfhenaaGreatDoor
end

noncomputable section
namespace Go.Proofs.YtchebnpdnfhenaaGreatDoor
open Go Go.E
def arcQ(q:Seq)(s b:Nat):Arc:=⟨((s:Nat):Int),nth (nth q.next s []) b 0,BSet.ofL [hn_ ((b:Nat):Int)],nth (nth q.outs s []) b [],false⟩
def s0_(q:Seq)(s b:Nat):List Arc:=if nth (nth q.next s []) b 0<0 then [] else [arcQ q s b]
def px_(q:Seq)(s j:Nat):List Arc:=(List.range j).flatMap (s0_ q s)
def j4_(q:Seq)(k:Nat):List Arc:=(List.range k).flatMap fun s=>px_ q s 256
def wr_(q:Seq)(s:Nat):List Tip:=if nth q.fin s false=true then [⟨((s:Nat):Int),nth q.tail s []⟩] else []
def m8_(q:Seq)(k:Nat):List Tip:=(List.range k).flatMap (wr_ q)
theorem lj_(q:Seq)(s j:Nat):px_ q s (j+1)=px_ q s j++s0_ q s j:=by simp [px_,List.range_succ]
theorem j9_(q:Seq)(k:Nat):j4_ q (k+1)=j4_ q k++px_ q k 256:=by simp [j4_,List.range_succ]
theorem qn_(q:Seq)(k:Nat):m8_ q (k+1)=m8_ q k++wr_ q k:=by simp [m8_,List.range_succ]
theorem yd_(q:Seq)(s b:Nat):(s0_ q s b).length≤1:=by unfold s0_;split<;>simp
theorem xg_(q:Seq)(s:Nat):(wr_ q s).length≤1:=by unfold wr_;split<;>simp
theorem ve_(q:Seq)(s:Nat): ∀j,(px_ q s j).length≤j
  |0=>by simp [px_]
  |j+1=>by
    rw [lj_,la_]
    have:=ve_ q s j
    have:=yd_ q s j
    omega
theorem sd_(q:Seq): ∀k,(j4_ q k).length≤k * 256
  |0=>by simp [j4_]
  |k+1=>by
    rw [j9_,la_]
    have:=sd_ q k
    have:=ve_ q k 256
    omega
theorem sf_(q:Seq): ∀k,(m8_ q k).length≤k
  |0=>by simp [m8_]
  |k+1=>by
    rw [qn_,la_]
    have:=sf_ q k
    have:=xg_ q k
    omega
theorem sn_ (q : Seq) (s : Nat) : ∀ {i j : Nat}, i ≤ j → (px_ q s i).length ≤ (px_ q s j).length
  | i, 0, h => by have : i = 0 := by omega
                  subst this;exact Nat.le_refl _
  |i,j+1,h=>by
    by_cases e:i=j+1
    · subst e;exact Nat.le_refl _
    have:=sn_ q s (i:=i) (j:=j) (by omega)
    rw [lj_,la_];omega
theorem pz_(q:Seq): ∀{i j:Nat},i≤j→(j4_ q i).length≤(j4_ q j).length
  | i, 0, h => by have : i = 0 := by omega
                  subst this;exact Nat.le_refl _
  |i,j+1,h=>by
    by_cases e:i=j+1
    · subst e;exact Nat.le_refl _
    have:=pz_ q (i:=i) (j:=j) (by omega)
    rw [j9_,la_];omega
def f9_(q:Seq):List Tip:=if 0<q.next.length then [⟨0,q.front⟩] else []
def hp_(q:Seq):Fst:=⟨((q.next.length:Nat):Int),f9_ q,m8_ q q.next.length,j4_ q q.next.length⟩
def sz_:Fst:=⟨0,[],[],[]⟩
def jr_(q:Seq):Fst×Int:=if d9_ q=true then (if jw_ (hp_ q)=true then (srt (hp_ q),0) else (sz_,2)) else (sz_,1)
theorem wb_{q:Seq}(h:16384<(j4_ q q.next.length).length): ¬ jw_ (hp_ q)=true:=fun hb=>by
  have h2:(j4_ q q.next.length).length≤16384:=((fw_ _).1 hb).arcsN
  omega
theorem back_in{q:Seq}(h:d9_ q=true){k:Nat}(hk:k<q.next.length)(E:List Tip)(L:List Arc)(hL:L.length≤16384):
    ∃r,Dj_ q k L E=some r∧(r= .inl (E,L++px_ q k 256,k+1)∧(L++px_ q k 256).length≤16384∨r= .inr (sz_,2)∧16384<(L++px_ q k 256).length):=by
  have hst:=gc_ h (s:=((k:Nat):Int)) (by omega) (by omega)
  rw [tn_]at hst
  simp only [iu_,z5_,Bool.and_eq_true,dq_]at hst
  obtain ⟨_,⟨hn,ho⟩,_⟩:=hst
  obtain ⟨q1,q2,q3,q4,q5⟩:=d7_ h
  unfold Dj_
  refine er_ (step:=fun z:(List Arc)×Nat=>Bz_ q k E z.1 z.2) (fun l j=>(l,j)) 256 (fun j l=>l=L++px_ q k j∧l.length≤16384) _ ?_ ?_ (s0:=L) ⟨by simp [px_],hL⟩
  · rintro j l hj ⟨rfl,hl⟩
    show (∃s',Bz_ q k E (L++px_ q k j) j=some (.inl (s',j+1))∧_)∨ ∃r,Bz_ q k E (L++px_ q k j) j=some (.inr r)∧_
    unfold Bz_ Et_
    rw [d4_ (by omega),lj_,←ap_]
    by_cases c:nth (nth q.next k []) j 0<0
    · left
      rw [d4_ c]
      unfold s0_
      rw [if_pos c,List.append_nil]
      exact ⟨_,rfl,rfl,hl⟩
    rw [d5_ c]
    by_cases d:16384≤(L++px_ q k j).length
    · right
      rw [d4_ (by omega)]
      refine ⟨_,rfl,.inr ⟨rfl,?_⟩⟩
      have h1:=sn_ q k (i:=j+1) (j:=256) (by omega)
      rw [lj_,la_]at h1
      unfold s0_ at h1
      rw [if_neg c,lo_]at h1
      rw [la_]at d ⊢
      omega
    left
    rw [d5_ (by omega),d3_ (by simp),d3_ (by omega),d3_ (by omega),d3_ (by simp only [lo_];omega)]
    unfold s0_
    rw [if_neg c]
    exact ⟨_,rfl,rfl,by rw [la_,lo_];omega⟩
  rintro l ⟨rfl,hl⟩
  refine ⟨.inl (E,L++px_ q k 256,k+1),?_,.inl ⟨rfl,hl⟩⟩
  show Bz_ q k E (L++px_ q k 256) 256=_
  unfold Bz_
  rw [d5_ (by omega)];rfl
theorem Hq_(T:Fst):(bnd (B8_ T) (fun v100=>ec_ (decide (v100≠0)) (some (sz_,2)) (bnd (B5_ T) (fun v106=>some (v106.1,v106.2)))))=some (if jw_ T=true then (srt T,0) else (sz_,2)):=by
  rw [Dq_,ed_,om_,ed_]
  cases hb:jw_ T with
  |true=>rw [d5_ (by decide),if_pos rfl];rfl
  |false=>rw [d4_ (by decide),if_neg (by decide)]
theorem back_eq (q : Seq) : Fj_ q = some (jr_ q) := by
  unfold Fj_ jr_
  rw [Ff_,ed_]
  by_cases h:d9_ q=true
  · rw [if_pos h,d5_ (by decide),if_pos h]
    obtain ⟨q1,q2,q3,q4,q5⟩:=d7_ h
    have hj : D7_ q (f9_ q) = some (if jw_ (hp_ q) = true then (srt (hp_ q), 0) else (sz_, 2)) := by
      unfold D7_
      obtain ⟨r,h1,h2⟩:=er_ (step:=fun z:(List Tip)×(List Arc)×Nat=>Bi_ q (f9_ q) z.1 z.2.1 z.2.2) (fun (z:List Tip×List Arc) k=>(z.1,z.2,k)) q.next.length (fun k z=>z.1=m8_ q k∧z.2=j4_ q k∧z.2.length≤16384) (fun r=>r=(if jw_ (hp_ q)=true then (srt (hp_ q),0) else (sz_,2)))
        (by
          rintro k ⟨E,L⟩ hk ⟨h1,h2,h3⟩
          simp only at h1 h2 h3
          have hst:Bi_ q (f9_ q) E L k=Dj_ q k L (m8_ q (k+1)):=by
            unfold Bi_
            rw [d4_ (by omega),d3_ (by omega),qn_,←h1]
            have hel:=sf_ q k
            unfold wr_
            cases c:nth q.fin k false with
            |true=>rw [iteO_true,d3_ (by omega),d3_ (by rw [h1];simp only [lo_];omega),if_pos rfl]
            |false=>rw [iteO_false,if_neg (by simp),List.append_nil]
          obtain ⟨r,k1,k2⟩:=back_in h hk (m8_ q (k+1)) L h3
          show (∃s':List Tip×List Arc,Bi_ q (f9_ q) E L k=some (.inl (s'.1,s'.2,k+1))∧_)∨ ∃r,Bi_ q (f9_ q) E L k=some (.inr r)∧_
          rw [hst,k1]
          rcases k2 with ⟨rfl,k3⟩|⟨rfl,k3⟩
          · exact .inl ⟨(m8_ q (k+1),L++px_ q k 256),rfl,rfl,by rw [j9_,h2],k3⟩
          refine .inr ⟨_,rfl,?_⟩
          rw [if_neg]
          refine wb_ ?_
          have:=pz_ q (i:=k+1) (j:=q.next.length) (by omega)
          rw [j9_,←h2]at this;omega)
        (by
          rintro ⟨E,L⟩ ⟨h1,h2,h3⟩
          simp only at h1 h2 h3
          refine ⟨_,?_,rfl⟩
          show Bi_ q (f9_ q) E L q.next.length=_
          unfold Bi_
          rw [d5_ (by omega),h1,h2]
          show fin (bnd (B8_ (hp_ q)) (fun v100=>ec_ (decide (v100≠0)) (some (sz_,2)) (bnd (B5_ (hp_ q)) (fun v106=>some (v106.1,v106.2)))))=_
          rw [Hq_];rfl) (s0:=([],[])) ⟨rfl,rfl,by simp⟩
      rw [←h2];exact h1
    unfold f9_ at hj
    by_cases c:0<q.next.length
    · rw [d4_ (by omega),d3_ (by simp)]
      rw [if_pos c]at hj;exact hj
    rw [d5_ (by omega)]
    rw [if_neg c]at hj;exact hj
  rw [if_neg h,d4_ (by decide),if_neg h];rfl
end Go.Proofs.YtchebnpdnfhenaaGreatDoor
end

noncomputable section
namespace Go.Proofs.YtchebnpdnfhenaaGreatDoor
open Go Go.E
end Go.Proofs.YtchebnpdnfhenaaGreatDoor
end

noncomputable section
namespace Go.Proofs.YtchebnpdnfhenaaGreatDoor
open Go Go.E
end Go.Proofs.YtchebnpdnfhenaaGreatDoor
end

noncomputable section
namespace Go.Proofs.YtchebnpdnfhenaaGreatDoor
open Go Go.E
def shT(n:Int)(l:List Tip):List Tip:=l.map fun x=>⟨x.state+n,x.out⟩
def shA(n:Int)(l:List Arc):List Arc:=l.map fun x=>⟨x.frm+n,x.to+n,x.set,x.out,x.copy⟩
def fAlt(a b:Fst):Fst:=⟨a.states+b.states,a.starts++shT a.states b.starts,a.ends++shT a.states b.ends,a.arcs++shA a.states b.arcs⟩
theorem oz_{n:Int}{l:List Tip}{y:Tip}:y∈shT n l↔ ∃x∈l,y=⟨x.state+n,x.out⟩:=by
  unfold shT;rw [List.mem_map]
  exact ⟨fun ⟨x,h,e⟩=>⟨x,h,e.symm⟩,fun ⟨x,h,e⟩=>⟨x,h,e.symm⟩⟩
theorem ui_{n:Int}{l:List Arc}{y:Arc}:y∈shA n l↔ ∃x∈l,y=⟨x.frm+n,x.to+n,x.set,x.out,x.copy⟩:=by
  unfold shA;rw [List.mem_map]
  exact ⟨fun ⟨x,h,e⟩=>⟨x,h,e.symm⟩,fun ⟨x,h,e⟩=>⟨x,h,e.symm⟩⟩
theorem alt_left{a b:Fst}(ha:FstOk a)(hb:FstOk b): ∀x∈(fAlt a b).arcs,x.frm<a.states→x.to<a.states∧(⟨id x.frm,id x.to,x.set,x.out,x.copy⟩:Arc)∈a.arcs:=fun x hx h=>by
  rcases List.mem_append.1 hx with hx|hx
  · exact ⟨(ha.arcs x hx).2.1.2,hx⟩
  obtain ⟨y,hy,rfl⟩:=ui_.1 hx
  have:=(hb.arcs y hy).1.1
  dsimp only at h;omega
theorem zb_{a b:Fst}(ha:FstOk a)(hb:FstOk b): ∀x∈(fAlt a b).arcs,a.states≤x.frm→a.states≤x.to∧(⟨x.frm - a.states,x.to - a.states,x.set,x.out,x.copy⟩:Arc)∈b.arcs:=fun x hx h=>by
  rcases List.mem_append.1 hx with hx|hx
  · have:=(ha.arcs x hx).1.2;omega
  obtain ⟨y,hy,rfl⟩:=ui_.1 hx
  have:=(hb.arcs y hy).2.1.1
  dsimp only
  refine ⟨by omega,?_⟩
  rw [show y.frm+a.states - a.states=y.frm by omega,show y.to+a.states - a.states=y.to by omega];exact hy
theorem rel_alt{a b:Fst}(ha:FstOk a)(hb:FstOk b){w o:T_1}:Rel (fAlt a b) w o↔Rel a w o∨Rel b w o:=by
  constructor
  · rintro ⟨x,hx,e,he,m,hw,rfl⟩
    rcases List.mem_append.1 hx with hx|hx
    · obtain ⟨h1,h2⟩:=Wy.unmap (fun s=>s<a.states) id (alt_left ha hb) hw (ha.starts x hx).1.2
      rcases List.mem_append.1 he with he|he
      · exact .inl ⟨x,hx,e,he,m,h2,rfl⟩
      obtain ⟨y,hy,rfl⟩:=oz_.1 he
      have:=(hb.ends y hy).1.1
      dsimp only at h1;omega
    obtain ⟨x',hx',rfl⟩:=oz_.1 hx
    obtain ⟨h1,h2⟩:=Wy.unmap (fun s=>a.states≤s) (fun s=>s - a.states) (zb_ ha hb) hw (by have:=(hb.starts x' hx').1.1;dsimp only;omega)
    dsimp only at h2
    rw [show x'.state+a.states - a.states=x'.state by omega]at h2
    rcases List.mem_append.1 he with he|he
    · have:=(ha.ends e he).1.2;omega
    obtain ⟨y,hy,rfl⟩:=oz_.1 he
    dsimp only at h2
    rw [show y.state+a.states - a.states=y.state by omega]at h2
    exact .inr ⟨x',hx',y,hy,m,h2,rfl⟩
  rintro (⟨x,hx,e,he,m,hw,rfl⟩|⟨x,hx,e,he,m,hw,rfl⟩)
  · exact ⟨x,List.mem_append_left _ hx,e,List.mem_append_left _ he,m,hw.map id (fun y hy=>List.mem_append_left _ hy),rfl⟩
  exact ⟨_,List.mem_append_right _ (oz_.2 ⟨x,hx,rfl⟩),_,List.mem_append_right _ (oz_.2 ⟨e,he,rfl⟩),m,hw.map (fun s=>s+a.states) (fun y hy=>List.mem_append_right _ (ui_.2 ⟨y,hy,rfl⟩)),rfl⟩
end Go.Proofs.YtchebnpdnfhenaaGreatDoor
end

noncomputable section
namespace Go.Proofs.YtchebnpdnfhenaaGreatDoor
open Go Go.E
theorem Alike.rel{s t:Fst}(h:Alike s t)(w o:T_1):Rel s w o↔Rel t w o:=by
  rw [←m0_,←m0_,h.outs]
theorem Wy.c0_{t:Fst}{s q:Int}{w o:T_1}(h:Wy t s w o q)(hq:Rch (enS t) (arB t) q):Rch (enS t) (arB t) s:=by
  induction h with
  |nil=>exact hq
  |cons a b ha hb _ ih=>exact .step (ih hq) ⟨a,ha,rfl,rfl⟩
theorem va_{t:Fst}{a:Int}(h0:0≤a)(h:Use t a):g4_ t a.toNat=true:=r5_.2 (by rw [show ((a.toNat:Nat):Int)=a by omega];exact h)
theorem keep_way{t:Fst}(ht:Rng t){s q:Int}{w o:T_1}(h:Wy t s w o q)(hs:Rch (onS t) (arE t) s)(hq:Rch (enS t) (arB t) q):Wy (m5_ (g4_ t) t) (iy_ (g4_ t) s) w o (iy_ (g4_ t) q):=by
  induction h with
  |nil s=>exact .nil _
  | @cons w o q a b ha hb hw ih=>
    have h1:Rch (onS t) (arE t) a.to:= .step hs ⟨a,ha,rfl,rfl⟩
    have h2:=hw.c0_ hq
    have h3:Rch (enS t) (arB t) a.frm:= .step h2 ⟨a,ha,rfl,rfl⟩
    have hr:=ht.arcs a ha
    exact Wy.cons (t:=m5_ (g4_ t) t) (⟨iy_ (g4_ t) a.frm,iy_ (g4_ t) a.to,a.set,a.out,a.copy⟩:Arc) b (i1_.2 ⟨a,ha,va_ hr.1.1 ⟨hs,h3⟩,va_ hr.2.1 ⟨h1,h2⟩,rfl⟩) hb (ih h1 hq)
theorem xn_{t:Fst}(ht:Rng t){p:Nat→Bool}{s' q':Int}{w o:T_1}(h:Wy (m5_ p t) s' w o q'): ∀s:Int,0≤s→p s.toNat=true→s'=iy_ p s→ ∃q:Int,0≤q∧p q.toNat=true∧q'=iy_ p q∧Wy t s w o q:=by
  induction h with
  |nil s'=>exact fun s h0 h1 h2=>⟨s,h0,h1,h2,.nil s⟩
  | @cons w o q' a b ha hb hw ih=>
    intro s h0 h1 h2
    obtain ⟨x,hx,h3,h4,rfl⟩:=i1_.1 ha
    dsimp only at h2 ih hb
    have hr:=ht.arcs x hx
    obtain rfl:=nn_ hr.1.1 h0 h3 h1 h2
    obtain ⟨q,k0,k1,k2,k3⟩:=ih x.to hr.2.1 h4 rfl
    exact ⟨q,k0,k1,k2,Wy.cons x b hx hb k3⟩
theorem rel_keep{t:Fst}(ht:Rng t){w o:T_1}:Rel (m5_ (g4_ t) t) w o↔Rel t w o:=by
  constructor
  · rintro ⟨x',hx',e',he',m,hw,rfl⟩
    obtain ⟨x,hx,h1,rfl⟩:=fx_.1 hx'
    obtain ⟨e,he,h2,rfl⟩:=fx_.1 he'
    obtain ⟨q,k0,k1,k2,k3⟩:=xn_ ht hw x.state (ht.starts x hx).1 h1 rfl
    dsimp only at k2
    obtain rfl:=nn_ (ht.ends e he).1 k0 h2 k1 k2
    exact ⟨x,hx,e,he,m,k3,rfl⟩
  rintro ⟨x,hx,e,he,m,hw,rfl⟩
  have h1:Rch (onS t) (arE t) x.state:= .base ⟨x,hx,rfl⟩
  have h2:Rch (enS t) (arB t) e.state:= .base ⟨e,he,rfl⟩
  have h3:=hw.c0_ h2
  have h4:Rch (onS t) (arE t) e.state:=by
    have: ∀{s q:Int} {w o:T_1},Wy t s w o q→Rch (onS t) (arE t) s→Rch (onS t) (arE t) q:=fun h=>by
      induction h with
      |nil=>exact id
      |cons a b ha hb _ ih=>exact fun h=>ih (.step h ⟨a,ha,rfl,rfl⟩)
    exact this hw h1
  exact ⟨_,fx_.2 ⟨x,hx,va_ (ht.starts x hx).1 ⟨h1,h3⟩,rfl⟩,_,fx_.2 ⟨e,he,va_ (ht.ends e he).1 ⟨h4,h2⟩,rfl⟩,m,keep_way ht hw h1 h2,rfl⟩
theorem r3_{t:Fst}(ht:FstOk t){w o:T_1}:Rel (fv_ t) w o↔Rel t w o:=
  ((lb_ (m5_ (g4_ t) t)).rel w o).trans (rel_keep (x2_ ht))
end Go.Proofs.YtchebnpdnfhenaaGreatDoor
end

noncomputable section
namespace Go.Proofs.YtchebnpdnfhenaaGreatDoor
open Go Go.E
def RelL(T:Fst)(l:List Tip)(w y:T_1):Prop:= ∃x∈l, ∃e∈T.ends, ∃m,Wy T x.state w m e.state∧y=x.out++(m++e.out)
theorem os_{T:Fst}{w y:T_1}:RelL T T.starts w y↔Rel T w y:=Iff.rfl
theorem vy_{T:Fst}{l:List Tip}{y:T_1}:RelL T l [] y↔y∈f1_ T.ends l:=by
  rw [ij_]
  constructor
  · rintro ⟨x,hx,e,he,m,hw,rfl⟩
    obtain ⟨rfl,h⟩:=hw.b7_
    exact ⟨x,hx,e,he,h,by simp⟩
  rintro ⟨x,hx,e,he,h,rfl⟩
  exact ⟨x,hx,e,he,[],by rw [h];exact .nil _,by simp⟩
theorem oi_{T:Fst}{l:List Tip}{b:UInt8}{w y:T_1}:RelL T l (b::w) y↔RelL T (j6_ T.arcs l b) w y:=by
  constructor
  · rintro ⟨x,hx,e,he,m,hw,rfl⟩
    obtain ⟨a,ha,h1,h2,o,h3,rfl⟩:=hw.cons_inv
    exact ⟨⟨a.to,x.out++em a b⟩,is_.2 ⟨x,hx,a,ha,h1,h2,rfl⟩,e,he,o,h3,by simp [ap_]⟩
  rintro ⟨z,hz,e,he,m,hw,rfl⟩
  obtain ⟨x,hx,a,ha,h1,h2,rfl⟩:=is_.1 hz
  refine ⟨x,hx,e,he,em a b++m,?_,by simp [ap_]⟩
  rw [←h1];exact .cons a b ha h2 hw
theorem zv_{T:Fst}{w y:T_1}: ¬ RelL T [] w y:=by
  rintro ⟨x,hx,_⟩;cases hx
theorem p0_{n:Int}(hn:0≤n∧n≤1024){T:Fst}{l:List Tip}(hs: ∀x∈l,0≤x.state∧x.state<n){f:T_1}{r:List Tip}(h:hb_ l= .inr (f,r)){w y:T_1}:
    RelL T l w y↔ ∃u,y=f++u∧RelL T r w u:=by
  have hm:=(strip_row hn hs h).2.2.1
  have hf:=(strip_row hn hs h).2.2.2
  constructor
  · rintro ⟨x,hx,e,he,m,hw,rfl⟩
    obtain ⟨u,hu⟩:=hu_ (List.mem_map.2 ⟨x,hx,rfl⟩:x.out∈l.map Tip.out)
    rw [←hf]at hu
    refine ⟨u++(m++e.out),by rw [←hu,ap_],⟨x.state,u⟩,(hm _).2 ⟨x,hx,rfl,hu.symm⟩,e,he,m,hw,rfl⟩
  rintro ⟨u,rfl,x,hx,e,he,m,hw,rfl⟩
  obtain ⟨z,hz,h1,h2⟩:=(hm x).1 hx
  exact ⟨z,hz,e,he,m,by rw [h1];exact hw,by rw [h2,ap_]⟩
def wo_(A:List Arc)(R:List (List Tip))(l:List Tip)(b:UInt8)(z:Int)(o:T_1):Prop:=
  (j6_ A l b=[]∧z= -1∧o=[])∨(j6_ A l b≠[]∧0≤z∧z<(R.length:Int)∧hb_ (j6_ A l b)= .inr (o,nth R z.toNat []))
theorem wo_.more{A:List Arc}{R:List (List Tip)}{l:List Tip}{b:UInt8}{z:Int}{o:T_1}(h:wo_ A R l b z o)(X:List (List Tip)):wo_ A (R++X) l b z o:=by
  rcases h with h|⟨h1,h2,h3,h4⟩
  · exact .inl h
  exact .inr ⟨h1,h2,by rw [la_];omega,by rw [gb_ (by omega)];exact h4⟩
theorem yj_{A:List Arc}{most:Int}{l:List Tip}{b:UInt8}{R R':List (List Tip)}{z:Int}{o:T_1}(h:mh_ A most l b R= .inr (R',z,o))(hR:(R.length:Int)≤most):wo_ A R' l b z o:=by
  unfold mh_ at h
  by_cases c:j6_ A l b=[]
  · rw [if_pos c]at h;cases h
    exact .inl ⟨c,rfl,rfl⟩
  rw [if_neg c]at h
  split at h
  · cases h
  rename_i f r q1
  split at h
  · cases h
  rename_i i R1 q;cases h
  obtain ⟨h1,_,h3,h4⟩:=tb_ q hR
  refine .inr ⟨c,by omega,by omega,?_⟩
  rw [tn_,h4];exact q1
theorem hs_{α:Type}(l:List α)(x d:α){k:Nat}(h:k<l.length):nth (l++[x]) k d=nth l k d:=gb_ h d
theorem p8_{A:List Arc}{most:Int}{l:List Tip}{R:List (List Tip)}(hR:(R.length:Int)≤most): ∀{k:Nat} {R':List (List Tip)} {N:N_1} {O:T_2},gs_ A most l R k= .inr (R',N,O)→ ∀j,j<k→wo_ A R' l (hn_ ((j:Nat):Int)) (nth N j 0) (nth O j [])
  |0,R',N,O,h,j,hj=>by omega
  | k + 1, R', N, O, h, j, hj => by
    rw [gs_]at h
    split at h
    · cases h
    rename_i R1 N1 O1 q
    obtain ⟨h1,_,h3,h4⟩:=i6_ hR q
    split at h
    · cases h
    rename_i R2 z o q2
    cases h
    obtain ⟨h5,Y,h6⟩:=ux_ q2 h1
    by_cases c:j<k
    · rw [hs_ _ _ _ (by omega),hs_ _ _ _ (by omega),h6]
      exact (p8_ hR q j c).more Y
    have e:j=k:=by omega
    subst e
    have e1:=ff_ N1 z 0
    have e2:=ff_ O1 o []
    rw [h3]at e1
    rw [h4]at e2
    rw [e1,e2]
    exact yj_ q2 h1
structure RowR (A:List Arc) (E:List Tip) (R:List (List Tip)) (l:List Tip) (N:N_1) (O:T_2) (b:Bool) (t:T_1):Prop where
  tl:ke_ E l= .inr (b,t)
  n:N.length=256
  o:O.length=256
  cell: ∀j,j<256→wo_ A R l (hn_ ((j:Nat):Int)) (nth N j 0) (nth O j [])
theorem RowR.more{A:List Arc}{E:List Tip}{R:List (List Tip)}{l:List Tip}{N:N_1}{O:T_2}{b:Bool}{t:T_1}(h:RowR A E R l N O b t)(X:List (List Tip)):RowR A E (R++X) l N O b t:=
  ⟨h.tl,h.n,h.o,fun j hj=>(h.cell j hj).more X⟩
structure Made (A:List Arc) (E:List Tip) (R:List (List Tip)) (q:Seq) (k:Nat):Prop where
  ok:QOk q k
  le:k≤R.length
  row: ∀i,i<k→RowR A E R (nth R i []) (nth q.next i []) (nth q.outs i []) (nth q.fin i false) (nth q.tail i [])
theorem do_made{A:List Arc}{E:List Tip}{most:Int}{R R':List (List Tip)}{q q':Seq}{c:Nat}(h:doD A E most (nth R c []) R q= .inr (R',q'))(hR:(R.length:Int)≤most)(hc:c<R.length)(hq:Made A E R q c):
    Made A E R' q' (c+1):=by
  obtain ⟨_,⟨X,hX⟩,hq',_⟩:=yi_ h hR hq.ok
  refine ⟨hq',by rw [hX,la_];omega,fun i hi=> ?_⟩
  unfold doD at h
  split at h
  · cases h
  rename_i b t ht
  split at h
  · cases h
  rename_i R1 N O hb
  cases h
  obtain ⟨_,_,hN,hO⟩:=i6_ hR hb
  have k1:=hq.ok.n
  have k2:=hq.ok.o
  have k3:=hq.ok.e
  have k4:=hq.ok.t
  unfold n7_
  by_cases d:i<c
  · rw [hs_ _ _ _ (by omega),hs_ _ _ _ (by omega),hs_ _ _ _ (by omega),hs_ _ _ _ (by omega),hX,gb_ (by omega)]
    exact (hq.row i d).more X
  have e:i=c:=by omega
  subst e
  have e1:=ff_ q.next N []
  have e2:=ff_ q.outs O []
  have e3:=ff_ q.fin b false
  have e4:=ff_ q.tail t []
  rw [k1]at e1
  rw [k2]at e2
  rw [k3]at e3
  rw [k4]at e4
  rw [e1,e2,e3,e4]
  have hcell:=p8_ hR hb
  rw [hX,gb_ hc]
  rw [hX]at hcell
  exact ⟨ht,hN,hO,hcell⟩
theorem vp_{A:List Arc}{E:List Tip}{most:Int}(hm:most≤1024): ∀(g s:Nat) (R:List (List Tip)) (q:Seq) {R':List (List Tip)} {q':Seq},1025 - s≤g→(R.length:Int)≤most→Made A E R q s→w2_ A E most g s R q= .inr (R',q')→
    Made A E R' q' R'.length∧(∃X,R'=R++X)∧q'.front=q.front∧(R'.length:Int)≤most
  |0,s,R,q,R',q',hg,hR,hM,h=>by have:=hM.le;omega
  | g + 1, s, R, q, R', q', hg, hR, hM, h => by
    have hle:=hM.le
    rw [w2_]at h
    by_cases c:s<R.length
    · rw [if_pos c]at h
      split at h
      · cases h
      rename_i R1 q1 hd
      obtain ⟨h1,⟨X,h2⟩,h3,h4⟩:=yi_ hd hR hM.ok
      obtain ⟨k1,⟨Y,k2⟩,k3,k4⟩:=vp_ hm g (s+1) R1 q1 (by omega) h1 (do_made hd hR c hM) h
      exact ⟨k1,⟨X++Y,by rw [k2,h2,ap_]⟩,k3.trans h4,k4⟩
    rw [if_neg c]at h
    cases h
    have e:R.length=s:=by omega
    rw [e]
    exact ⟨hM,⟨[],(List.append_nil _).symm⟩,rfl,by omega⟩
structure IsMade (T:Fst) (R:List (List Tip)) (q:Seq):Prop where
  made:Made T.arcs T.ends R q R.length
  len:R.length≤1024
  pos:0<R.length
  fst:hb_ T.starts= .inr (q.front,nth R 0 [])
theorem x7_{T:Fst}{most:Int}(h1:1≤most)(hm:most≤1024){R:List (List Tip)}{q:Seq}(h:ofT T most= .inr (R,q)):(T.starts=[]∧q=Seq.zero)∨(T.starts≠[]∧IsMade T R q∧(R.length:Int)≤most):=by
  unfold ofT at h
  by_cases c:T.starts=[]
  · rw [if_pos c]at h;cases h
    exact .inl ⟨c,rfl⟩
  rw [if_neg c]at h
  split at h
  · cases h
  rename_i f l hs
  obtain ⟨k1,⟨X,k2⟩,k3,k4⟩:=vp_ hm 1025 0 [l] ⟨f,[],[],[],[]⟩ (by omega) (by simp;omega) ⟨⟨rfl,rfl,rfl,rfl⟩,by omega,fun i hi=>by omega⟩ h
  refine .inr ⟨c,⟨k1,by omega,by rw [k2];simp,?_⟩,k4⟩
  rw [k3,k2];exact hs
theorem sc_{E l:List Tip}{b:Bool}{t:T_1}(h:ke_ E l= .inr (b,t)):t.length≤4096∧(b=true∨t=[])∧(b=true→ ∀y,y∈f1_ E l↔y=t)∧(b=false→f1_ E l=[]):=by
  unfold ke_ at h
  by_cases c:Eqs (f1_ E l)
  · rw [if_neg (fun q=>q c)]at h
    by_cases d:4096<(hr_ (f1_ E l)).length
    · rw [if_pos d]at h;cases h
    rw [if_neg d]at h;cases h
    refine ⟨by omega,?_,fun hg y=>⟨fun hy=>c.last hy,fun hy=> ?_⟩,fun hg=> ?_⟩
    · cases hl:f1_ E l with
      |nil=>exact .inr rfl
      |cons x m=>exact .inl rfl
    · rw [hy];exact j0_ (li_.1 hg)
    cases hl:f1_ E l with
    |nil=>rfl
    |cons x m=>rw [hl]at hg;cases hg
  rw [if_pos c]at h;cases h
theorem toU8_u8(b:UInt8):hn_ ((b.toNat:Nat):Int)=b:=by
  have hb:=UInt8.toNat_lt b
  have:=nw_ (k:=b.toNat) (by omega)
  exact UInt8.toNat_inj.1 this
structure Has (n:Nat) (T:Fst):Prop where
  hn:n≤1024
  ss: ∀x∈T.starts,0≤x.state∧x.state<(n:Int)
  to: ∀a∈T.arcs,0≤a.to∧a.to<(n:Int)
theorem uw_{T:Fst}(hT:FstOk T):Has T.states.toNat T:=by
  have h0:=hT.st0
  have h1:=hT.st1
  refine ⟨by omega,fun x hx=> ?_,fun a ha=> ?_⟩
  · have:=(hT.starts x hx).1;omega
  have:=(hT.arcs a ha).2.1;omega
theorem IsMade.right{n:Nat}{T:Fst}(hT:Has n T){R:List (List Tip)}{q:Seq}(h:IsMade T R q):d9_ q=true:=by
  have hn:=hT.hn
  have k1:=h.made.ok.n
  have k2:=h.made.ok.o
  have k3:=h.made.ok.e
  have k4:=h.made.ok.t
  have hl:=h.len
  have hp:=h.pos
  have hf:=(strip_row (n:=n) (by omega) hT.ss h.fst).2.1
  unfold d9_ i7_
  rw [decide_eq_true (by omega),decide_eq_true (by omega),decide_eq_true (by omega),decide_eq_true (by omega),decide_eq_true hf,decide_eq_true (show q.next.length≠0 by omega),Bool.true_or]
  rw [Bool.and_true,Bool.and_true,Bool.and_true,Bool.and_true,Bool.and_true,Bool.true_and,hy_]
  intro i hi
  obtain ⟨r1,r2,r3,r4⟩:=h.made.row i (by omega)
  obtain ⟨t1,t2,_,_⟩:=sc_ r1
  unfold iu_ z5_
  rw [decide_eq_true t1,decide_eq_true r2,decide_eq_true r3,Bool.true_and,Bool.and_eq_true]
  constructor
  · rcases t2 with t2|t2
    · rw [t2,Bool.true_or]
    rw [t2];simp
  rw [Bool.true_and,Bool.true_and,hy_]
  intro j hj
  unfold n2_
  rcases r4 j hj with ⟨c1,c2,c3⟩|⟨c1,c2,c3,c4⟩
  · rw [c2,c3,decide_eq_true (by omega),decide_eq_true (by omega),decide_eq_true (by simp)]
    simp
  have ho:=(strip_row (n:=n) (by omega) (xl_ hT.to _ _) c4).2.1
  rw [decide_eq_true (by omega),decide_eq_true (by omega),decide_eq_true ho,decide_eq_true (show nth (nth q.next i []) j 0≠ -1 by omega)]
  rfl
def RunR(T:Fst)(l:List Tip)(w:T_1)(i:Nat)(acc:T_1)(r:T_1×Nat×Bool):Prop:=
  (r.2.2=true∧r.2.1=i+w.length∧ ∃u,r.1=acc++u∧ ∀y,RelL T l w y↔y=u)∨(r.2.2=false∧r.1=[]∧r.2.1≤i+w.length∧ ∀y, ¬ RelL T l w y)
theorem IsMade.run{n:Nat}{T:Fst}(hT:Has n T){R:List (List Tip)}{q:Seq}(h:IsMade T R q): ∀(w:T_1) (i:Nat) (s:Int) (acc:T_1),0≤s→s<(R.length:Int)→RunR T (nth R s.toNat []) w i acc (p1_ q w i s acc)
  |[],i,s,acc,h0,h1=>by
    obtain ⟨r1,r2,r3,r4⟩:=h.made.row s.toNat (by omega)
    obtain ⟨t1,t2,t3,t4⟩:=sc_ r1
    rw [p1_]
    cases c:nth q.fin s.toNat false with
    |true=>
      rw [if_pos rfl]
      exact .inl ⟨rfl,rfl,_,rfl,fun y=>by rw [vy_];exact t3 c y⟩
    |false=>
      rw [if_neg (by decide)]
      exact .inr ⟨rfl,rfl,Nat.le_refl _,fun y=>by rw [vy_,t4 c];simp⟩
  | b :: w, i, s, acc, h0, h1 => by
    have hn:=hT.hn
    obtain ⟨r1,r2,r3,r4⟩:=h.made.row s.toNat (by omega)
    have hb:=UInt8.toNat_lt b
    have hc:=r4 b.toNat (by omega)
    rw [toU8_u8]at hc
    rw [p1_]
    rcases hc with ⟨c1,c2,c3⟩|⟨c1,c2,c3,c4⟩
    · rw [if_pos (by omega)]
      refine .inr ⟨rfl,rfl,by simp,fun y=> ?_⟩
      rw [oi_,c1];exact zv_
    rw [if_neg (by omega)]
    have hs:=fun y=>p0_ (n:=n) (T:=T) (w:=w) (y:=y) (by omega) (xl_ hT.to _ _) c4
    rcases IsMade.run hT h w (i+1) (nth (nth q.next s.toNat []) b.toNat 0) (acc++nth (nth q.outs s.toNat []) b.toNat []) c2 c3 with ⟨e1,e2,u,e3,e4⟩|⟨e1,e2,e3,e4⟩
    · refine .inl ⟨e1,by rw [e2,List.length_cons];omega,nth (nth q.outs s.toNat []) b.toNat []++u,by rw [e3,ap_],fun y=> ?_⟩
      rw [oi_,hs]
      constructor
      · rintro ⟨v,rfl,hv⟩;rw [(e4 v).1 hv]
      rintro rfl;exact ⟨u,rfl,(e4 u).2 rfl⟩
    refine .inr ⟨e1,e2,by rw [List.length_cons];omega,fun y=> ?_⟩
    rw [oi_,hs]
    rintro ⟨v,rfl,hv⟩;exact e4 v hv
def ApR(P:T_1→Prop)(w:T_1)(r:T_1×Int×Bool×Int):Prop:=
  r.2.2.2=0∧((r.2.2.1=true∧r.2.1=((w.length:Nat):Int)∧ ∀y,P y↔y=r.1)∨(r.2.2.1=false∧r.1=[]∧0≤r.2.1∧r.2.1≤((w.length:Nat):Int)∧ ∀y, ¬ P y))
theorem IsMade.apply{n:Nat}{T:Fst}(hT:Has n T){R:List (List Tip)}{q:Seq}(h:IsMade T R q)(w:T_1):ApR (Rel T w) w (gi_ q w):=by
  have hn:=hT.hn
  have k1:=h.made.ok.n
  have hp:=h.pos
  unfold gi_
  rw [if_pos (h.right hT),if_neg (by omega)]
  have hs:=fun y=>p0_ (n:=n) (T:=T) (w:=w) (y:=y) (by omega) hT.ss h.fst
  refine ⟨rfl,?_⟩
  rcases h.run hT w 0 0 q.front (by omega) (by omega)with ⟨e1,e2,u,e3,e4⟩|⟨e1,e2,e3,e4⟩
  · refine .inl ⟨e1,by simp only [e2,Nat.zero_add],fun y=> ?_⟩
    show Rel T w y↔y=_
    rw [←os_,hs]
    show _↔y=(p1_ q w 0 0 q.front).1
    rw [e3]
    constructor
    · rintro ⟨v,rfl,hv⟩;rw [(e4 v).1 hv]
    rintro rfl;exact ⟨u,rfl,(e4 u).2 rfl⟩
  refine .inr ⟨e1,e2,by simp,by simp only;omega,fun y=> ?_⟩
  rw [←os_,hs]
  rintro ⟨v,rfl,hv⟩;exact e4 v hv
theorem oo_:d9_ Seq.zero=true:=rfl
theorem t0_(w:T_1):gi_ Seq.zero w=([],0,false,0):=by
  unfold gi_
  rw [if_pos oo_,if_pos (show Seq.zero.next.length=0 from rfl)]
theorem vl_{T:Fst}(h:T.starts=[])(w y:T_1): ¬ Rel T w y:=by
  rintro ⟨x,hx,_⟩
  rw [h]at hx;cases hx
theorem q9_{T:Fst}{n:Nat}(hT:Has n T){most:Int}(h1:1≤most)(hm:most≤1024){R:List (List Tip)}{q:Seq}(h:ofT T most= .inr (R,q))(w:T_1):d9_ q=true∧ApR (Rel T w) w (gi_ q w):=by
  rcases x7_ h1 hm h with ⟨h2,rfl⟩|⟨_,h2,_⟩
  · refine ⟨oo_,?_⟩
    rw [t0_]
    exact ⟨rfl,.inr ⟨rfl,rfl,Int.le_refl _,by simp,fun y=>vl_ h2 w y⟩⟩
  exact ⟨h2.right hT,h2.apply hT w⟩
theorem sm_{l:List Tip}{e:Int}(h:hb_ l= .inl e):e=2∨e=12:=by
  rw [l9_]at h
  split at h
  · cases h;exact .inr rfl
  split at h
  · cases h;exact .inl rfl
  split at h
  · cases h;exact .inl rfl
  cases h
theorem tail_err{E l:List Tip}{e:Int}(h:ke_ E l= .inl e):e=2∨e=12:=by
  unfold ke_ at h
  split at h
  · cases h;exact .inr rfl
  split at h
  · cases h;exact .inl rfl
  cases h
theorem aab_{A:List Arc}{most:Int}{l:List Tip}{b:UInt8}{R:List (List Tip)}{e:Int}(h:mh_ A most l b R= .inl e):e=2∨e=12:=by
  unfold mh_ at h
  split at h
  · cases h
  split at h
  · rename_i q;cases h;exact sm_ q
  split at h
  · rename_i q;cases h
    unfold i9_ at q
    split at q
    · cases q
    split at q
    · cases q;exact .inl rfl
    cases q
  cases h
theorem p7_{A:List Arc}{most:Int}{l:List Tip}{R:List (List Tip)}: ∀{k:Nat} {e:Int},gs_ A most l R k= .inl e→e=2∨e=12
  |0,e,h=>by cases h
  |k+1,e,h=>by
    rw [gs_]at h
    split at h
    · rename_i q;cases h;exact p7_ q
    split at h
    · rename_i q;cases h;exact aab_ q
    cases h
theorem do_err{A:List Arc}{E:List Tip}{most:Int}{l:List Tip}{R:List (List Tip)}{q:Seq}{e:Int}(h:doD A E most l R q= .inl e):e=2∨e=12:=by
  unfold doD at h
  split at h
  · rename_i q;cases h;exact tail_err q
  split at h
  · rename_i q;cases h;exact p7_ q
  cases h
theorem x5_{A:List Arc}{E:List Tip}{most:Int}: ∀(g s:Nat) (R:List (List Tip)) (q:Seq) {e:Int},w2_ A E most g s R q= .inl e→e=2∨e=12
  |0,s,R,q,e,h=>by cases h
  | g + 1, s, R, q, e, h => by
    rw [w2_]at h
    split at h
    · split at h
      · rename_i q;cases h;exact do_err q
      exact x5_ g _ _ _ h
    cases h
theorem of_err{T:Fst}{most:Int}{e:Int}(h:ofT T most= .inl e):e=2∨e=12:=by
  unfold ofT at h
  split at h
  · cases h
  split at h
  · rename_i q;cases h;exact sm_ q
  exact x5_ _ _ _ _ h
end Go.Proofs.YtchebnpdnfhenaaGreatDoor
end

noncomputable section
namespace Go.Proofs.YtchebnpdnfhenaaGreatDoor
open Go Go.E
end Go.Proofs.YtchebnpdnfhenaaGreatDoor
end

noncomputable section
namespace Go.Proofs.YtchebnpdnfhenaaGreatDoor
open Go Go.E
structure OneW (T:Fst):Prop where
  st: ∀x∈T.starts, ∀y∈T.starts,x=y
  arc: ∀a∈T.arcs, ∀c∈T.arcs,a.frm=c.frm→ ∀b:UInt8,a.set.has b.toNat=true→c.set.has b.toNat=true→a=c
  en: ∀e∈T.ends, ∀f∈T.ends,e.state=f.state→e=f
theorem OneW.alike{s t:Fst}(h:Alike s t)(k:OneW t):OneW s:=
  ⟨fun x hx y hy=>k.st x ((h.starts x).1 hx) y ((h.starts y).1 hy),fun a ha c hc=>k.arc a ((h.arcs a).1 ha) c ((h.arcs c).1 hc),fun e he f hf=>k.en e ((h.ends e).1 he) f ((h.ends f).1 hf)⟩
theorem OneW.keep{t:Fst}(ht:Rng t)(p:Nat→Bool)(k:OneW t):OneW (m5_ p t):=by
  refine ⟨fun x hx y hy=> ?_,fun a ha c hc he b h1 h2=> ?_,fun e he f hf h=> ?_⟩
  · obtain ⟨x1,hx1,_,rfl⟩:=fx_.1 hx
    obtain ⟨y1,hy1,_,rfl⟩:=fx_.1 hy
    rw [k.st x1 hx1 y1 hy1]
  · obtain ⟨a1,ha1,p1,_,rfl⟩:=i1_.1 ha
    obtain ⟨c1,hc1,p2,_,rfl⟩:=i1_.1 hc
    have:=nn_ (ht.arcs a1 ha1).1.1 (ht.arcs c1 hc1).1.1 p1 p2 he
    rw [k.arc a1 ha1 c1 hc1 this b h1 h2]
  obtain ⟨e1,he1,p1,rfl⟩:=fx_.1 he
  obtain ⟨f1,hf1,p2,rfl⟩:=fx_.1 hf
  have:=nn_ (ht.ends e1 he1).1 (ht.ends f1 hf1).1 p1 p2 h
  rw [k.en e1 he1 f1 hf1 this]
theorem OneW.trim{t:Fst}(ht:FstOk t)(k:OneW t):OneW (fv_ t):=(k.keep (x2_ ht) (g4_ t)).alike (lb_ _)
theorem OneW.pairs{t:Fst}(k:OneW t)(w:T_1): ∀p∈kh_ t w, ∀q∈kh_ t w,p=q:=by
  induction w using t5_ with
  |h0=>
    intro p hp q hq
    obtain ⟨x,hx,rfl⟩:=List.mem_map.1 (show p∈t.starts.map tp from hp)
    obtain ⟨y,hy,rfl⟩:=List.mem_map.1 (show q∈t.starts.map tp from hq)
    rw [k.st x hx y hy]
  |h1 w b ih=>
    intro p hp q hq
    rw [kt_,rh_]at hp hq
    obtain ⟨x,hx,a,ha,e1,b1,rfl⟩:=hp
    obtain ⟨y,hy,c,hc,e2,b2,rfl⟩:=hq
    have e:=ih x hx y hy
    subst e
    rw [k.arc a ha c hc (e1.trans e2.symm) b b1 b2]
theorem l0_{l:List Tip}(h: ∀x∈l, ∀y∈l,x=y){x:Tip}(hx:x∈l)(ho:x.out.length≤4096):hb_ l= .inr (x.out,[⟨x.state,[]⟩]):=by
  have e1:gy_ tz_ e0_ l=[x]:=lw_ fg_ (g2_ fg_ l) (List.pairwise_singleton _ _) fun y=>by
    rw [e4_,mo_]
    exact ⟨fun hy=>h y hy x hx,fun hy=>by rw [hy];exact hx⟩
  have e2:gn_ (l.map Tip.out)=x.out:=by
    have:gn_ (l.map Tip.out)=gn_ [x.out]:=qw_ fun y=>by
      rw [List.mem_map,mo_]
      exact ⟨fun ⟨z,hz,e⟩=>by rw [←e,h z hz x hx],fun e=>⟨x,hx,e.symm⟩⟩
    rw [this];rfl
  rw [l9_,e1,e2,if_neg (by simp [ud_]),if_neg (by omega),if_neg]
  · simp [pu_]
  rintro ⟨y,hy,h2⟩
  rw [mo_]at hy
  subst hy
  simp at h2
theorem xu_{E l:List Tip}{b:Bool}{t:T_1}(ht:t.length≤4096)(h: ∀y,y∈f1_ E l↔b=true∧y=t)(hb:b=true∨t=[]):ke_ E l= .inr (b,t):=by
  have hq:Eqs (f1_ E l):=fun x hx y hy=>by rw [((h x).1 hx).2,((h y).1 hy).2]
  unfold ke_
  rw [if_neg (fun q=>q hq)]
  cases b with
  |true=>
    have hm:=(h t).2 ⟨rfl,rfl⟩
    have e:hr_ (f1_ E l)=t:=(hq.last hm).symm
    rw [e,if_neg (by omega)]
    have:ks_ (f1_ E l)=true:=li_.2 (List.ne_nil_of_mem hm)
    rw [this]
  |false=>
    have e:f1_ E l=[]:=List.eq_nil_iff_forall_not_mem.2 fun y hy=>by have:=(h y).1 hy;cases this.1
    have e2:t=[]:=by rcases hb with hb|hb;cases hb;exact hb
    rw [e,e2,if_neg (by simp [hr_])];rfl
theorem j1_{q:Seq}{k:Nat}{a:Arc}:a∈j4_ q k↔ ∃s,s<k∧ ∃b,b<256∧ ¬ nth (nth q.next s []) b 0<0∧a=arcQ q s b:=by
  unfold j4_ px_ s0_
  simp only [List.mem_flatMap,List.mem_range]
  constructor
  · rintro ⟨s,hs,b,hb,h⟩
    by_cases c:nth (nth q.next s []) b 0<0
    · rw [if_pos c]at h;cases h
    rw [if_neg c,mo_]at h
    exact ⟨s,hs,b,hb,c,h⟩
  rintro ⟨s,hs,b,hb,c,h⟩
  refine ⟨s,hs,b,hb,?_⟩
  rw [if_neg c,mo_];exact h
theorem lc_{q:Seq}{k:Nat}{e:Tip}:e∈m8_ q k↔ ∃s,s<k∧nth q.fin s false=true∧e=⟨((s:Nat):Int),nth q.tail s []⟩:=by
  unfold m8_ wr_
  simp only [List.mem_flatMap,List.mem_range]
  constructor
  · rintro ⟨s,hs,h⟩
    by_cases c:nth q.fin s false=true
    · rw [if_pos c,mo_]at h
      exact ⟨s,hs,c,h⟩
    rw [if_neg c]at h;cases h
  rintro ⟨s,hs,c,h⟩
  refine ⟨s,hs,?_⟩
  rw [if_pos c,mo_];exact h
theorem G6_(b:Nat)(hb:b<256)(c:UInt8):(BSet.ofL [hn_ ((b:Nat):Int)]).has c.toNat=true↔c.toNat=b:=by
  have hc:=UInt8.toNat_lt c
  unfold BSet.ofL
  rw [BSet.dc_ _ (by omega)]
  have:=nw_ hb
  constructor
  · intro h
    have h:c.toNat=(hn_ ((b:Nat):Int)).toNat:=by simpa using h
    omega
  intro h
  have:c.toNat=(hn_ ((b:Nat):Int)).toNat:=by omega
  simpa using this
theorem back_one(q:Seq):OneW (hp_ q):=by
  refine ⟨fun x hx y hy=> ?_,fun a ha c hc he b h1 h2=> ?_,fun e he f hf h=> ?_⟩
  · have hx:x∈f9_ q:=hx
    have hy:y∈f9_ q:=hy
    unfold f9_ at hx hy
    by_cases c:0<q.next.length
    · rw [if_pos c,mo_]at hx hy
      rw [hx,hy]
    rw [if_neg c]at hx;cases hx
  · obtain ⟨s,hs,i,hi,_,rfl⟩:=j1_.1 ha
    obtain ⟨r,hr,j,hj,_,rfl⟩:=j1_.1 hc
    have he:((s:Nat):Int)=((r:Nat):Int):=he
    have e1:=(G6_ i hi b).1 h1
    have e2:=(G6_ j hj b).1 h2
    have:s=r:=by omega
    subst this
    have:i=j:=by omega
    subst this
    rfl
  obtain ⟨s,hs,_,rfl⟩:=lc_.1 he
  obtain ⟨r,hr,_,rfl⟩:=lc_.1 hf
  have h:((s:Nat):Int)=((r:Nat):Int):=h
  have:s=r:=by omega
  subst this;rfl
theorem beh_back{q:Seq}(h:d9_ q=true){s:Nat}(hs:s<q.next.length)(b:UInt8)(y:Tip):y∈j6_ (j4_ q q.next.length) [⟨((s:Nat):Int),[]⟩] b↔ ¬ nth (nth q.next s []) b.toNat 0<0∧y=⟨nth (nth q.next s []) b.toNat 0,nth (nth q.outs s []) b.toNat []⟩:=by
  have hb:=UInt8.toNat_lt b
  rw [is_]
  constructor
  · rintro ⟨x,hx,a,ha,e1,e2,rfl⟩
    rw [mo_]at hx
    subst hx
    obtain ⟨r,hr,j,hj,c,rfl⟩:=j1_.1 ha
    have e1:((r:Nat):Int)=((s:Nat):Int):=e1
    have:r=s:=by omega
    subst this
    have:=(G6_ j hj b).1 e2
    subst this
    exact ⟨c,rfl⟩
  rintro ⟨c,rfl⟩
  refine ⟨_,List.mem_singleton.2 rfl,arcQ q s b.toNat,j1_.2 ⟨s,hs,b.toNat,by omega,c,rfl⟩,rfl,(G6_ b.toNat (by omega) b).2 rfl,rfl⟩
def mf_(n:Nat):List (List Tip):=(List.range n).map fun s=>[⟨((s:Nat):Int),[]⟩]
theorem fu_(n:Nat):(mf_ n).length=n:=by simp [mf_]
theorem mg_{n i:Nat}(h:i<n):nth (mf_ n) i []=[⟨((i:Nat):Int),[]⟩]:=by
  unfold mf_ nth
  rw [List.getD_eq_getElem?_getD,List.getElem?_map,List.getElem?_range h];rfl
theorem back_has{q:Seq}(h:d9_ q=true):Has q.next.length (hp_ q):=by
  obtain ⟨q1,q2,q3,q4,q5⟩:=d7_ h
  refine ⟨q1,fun x hx=> ?_,fun a ha=> ?_⟩
  · have hx:x∈f9_ q:=hx
    unfold f9_ at hx
    by_cases c:0<q.next.length
    · rw [if_pos c,mo_]at hx
      rw [hx];exact ⟨Int.le_refl _,by show (0:Int)<_;omega⟩
    rw [if_neg c]at hx;cases hx
  obtain ⟨s,hs,b,hb,c,rfl⟩:=j1_.1 ha
  have:=ig_ h (s:=((s:Nat):Int)) (by omega) (by omega) (hn_ ((b:Nat):Int))
  obtain ⟨_,_,_,h4,_⟩:=this
  rw [nw_ hb,tn_]at h4
  exact ⟨by show 0≤nth (nth q.next s []) b 0;omega,h4⟩
theorem xb_ {q : Seq} (h : d9_ q = true) (hp : 0 < q.next.length) : IsMade (hp_ q) (mf_ q.next.length) q := by
  obtain ⟨q1,q2,q3,q4,q5⟩:=d7_ h
  refine ⟨⟨⟨(fu_ _).symm,q2.trans (fu_ _).symm,q3.trans (fu_ _).symm,q4.trans (fu_ _).symm⟩,Nat.le_refl _,fun i hi=> ?_⟩,by rw [fu_];exact q1,by rw [fu_];exact hp,?_⟩
  · rw [fu_]at hi
    rw [mg_ hi]
    have hst:=gc_ h (s:=((i:Nat):Int)) (by omega) (by omega)
    rw [tn_]at hst
    simp only [iu_,z5_,Bool.and_eq_true,Bool.or_eq_true,dq_]at hst
    obtain ⟨⟨t1,t2⟩,⟨t3,t4⟩,t5⟩:=hst
    refine ⟨xu_ t1 (fun y=> ?_) t2,t3,t4,fun j hj=> ?_⟩
    · rw [ij_]
      constructor
      · rintro ⟨x,hx,e,he,h1,rfl⟩
        rw [mo_]at hx
        subst hx
        obtain ⟨s,hs,hf,rfl⟩:=lc_.1 he
        have h1:((s:Nat):Int)=((i:Nat):Int):=h1
        have:s=i:=by omega
        subst this
        exact ⟨hf,rfl⟩
      rintro ⟨hf,rfl⟩
      exact ⟨_,List.mem_singleton.2 rfl,_,lc_.2 ⟨i,hi,hf,rfl⟩,rfl,rfl⟩
    have hbe:=beh_back h hi (hn_ ((j:Nat):Int))
    rw [nw_ hj]at hbe
    have hcell:=hy_.1 t5 j hj
    simp only [n2_,Bool.and_eq_true,Bool.or_eq_true,dq_]at hcell
    obtain ⟨⟨⟨c1,c2⟩,c3⟩,c4⟩:=hcell
    by_cases c:nth (nth q.next i []) j 0<0
    · refine .inl ⟨List.eq_nil_iff_forall_not_mem.2 fun y hy=>((hbe y).1 hy).1 c,by omega,?_⟩
      rcases c4 with c4|c4
      · exact absurd (show nth (nth q.next i []) j 0= -1 by omega) c4
      exact c4
    have hm:=(hbe _).2 ⟨c,rfl⟩
    refine .inr ⟨List.ne_nil_of_mem hm,by omega,by rw [fu_];exact c2,?_⟩
    have h1:=l0_ (fun x hx y hy=>by rw [((hbe x).1 hx).2,((hbe y).1 hy).2]) hm c3
    rw [mg_ (by omega)]
    show hb_ (j6_ (j4_ q q.next.length) _ _)=_
    rw [h1,show (((nth (nth q.next i []) j 0).toNat:Nat):Int)=nth (nth q.next i []) j 0 by omega]
  rw [mg_ hp]
  show hb_ (f9_ q)=_
  unfold f9_
  rw [if_pos hp]
  exact l0_ (fun x hx y hy=>by rw [List.mem_singleton.1 hx,List.mem_singleton.1 hy]) (List.mem_singleton.2 rfl) q5
theorem aac_{q:Seq}(h:d9_ q=true)(w:T_1):ApR (Rel (hp_ q) w) w (gi_ q w):=by
  by_cases hp:0<q.next.length
  · exact (xb_ h hp).apply (back_has h) w
  have e:gi_ q w=([],0,false,0):=by
    unfold gi_
    rw [if_pos h,if_pos (by omega)]
  rw [e]
  refine ⟨rfl,.inr ⟨rfl,rfl,Int.le_refl _,by simp,fun y=>vl_ ?_ w y⟩⟩
  show f9_ q=[]
  unfold f9_
  rw [if_neg hp]
structure Sing (n:Nat) (R:List (List Tip)):Prop where
  nd:R.Nodup
  one: ∀r∈R, ∃s:Int,0≤s∧s<(n:Int)∧r=[⟨s,[]⟩]
theorem Sing.len{n:Nat}{R:List (List Tip)}(h:Sing n R):R.length≤n:=by
  have h2:=ho_ h.nd (m:=mf_ n) fun r hr=>by
    obtain ⟨s,h0,h1,rfl⟩:=h.one r hr
    refine List.mem_map.2 ⟨s.toNat,List.mem_range.2 (by omega),?_⟩
    rw [show ((s.toNat:Nat):Int)=s by omega]
  rw [fu_]at h2;exact h2
theorem Sing.snoc{n:Nat}{R:List (List Tip)}(h:Sing n R){s:Int}(h0:0≤s)(h1:s<(n:Int))(hn:[⟨s,[]⟩]∉R):Sing n (R++[[⟨s,[]⟩]]):=by
  refine ⟨?_,fun r hr=> ?_⟩
  · rw [List.nodup_append]
    refine ⟨h.nd,List.pairwise_singleton _ _,fun a ha b hb=> ?_⟩
    rw [mo_]at hb
    subst hb
    intro e;subst e;exact hn ha
  rcases List.mem_append.1 hr with hr|hr
  · exact h.one r hr
  rw [mo_]at hr
  exact ⟨s,h0,h1,hr⟩
theorem Sing.state{n:Nat}{R:List (List Tip)}(h:Sing n R){most:Int}(hm:(n:Int)≤most){s:Int}(h0:0≤s)(h1:s<(n:Int)): ∃i R',i9_ most R [⟨s,[]⟩]= .inr (i,R')∧Sing n R':=by
  unfold i9_
  by_cases c:[⟨s,[]⟩]∈R
  · rw [if_pos c];exact ⟨_,_,rfl,h⟩
  have hs:=h.snoc h0 h1 c
  have hl:=hs.len
  rw [la_,lo_]at hl
  rw [if_neg c,if_neg (by omega)]
  exact ⟨_,_,rfl,hs⟩
structure OneN (n:Nat) (T:Fst):Prop extends OneW T,Has n T where
  ao: ∀a∈T.arcs,a.out.length≤1024
  eo: ∀e∈T.ends,e.out.length≤1024
  so: ∀e∈T.starts,e.out.length≤1024
theorem OneN.byte{n:Nat}{T:Fst}(h:OneN n T){most:Int}(hm:(n:Int)≤most){R:List (List Tip)}(hR:Sing n R){l:List Tip}{s:Int}(hl:l=[⟨s,[]⟩])(b:UInt8):
    ∃R' z o,mh_ T.arcs most l b R= .inr (R',z,o)∧Sing n R':=by
  subst hl
  unfold mh_
  by_cases c:j6_ T.arcs [⟨s,[]⟩] b=[]
  · rw [if_pos c];exact ⟨_,_,_,rfl,hR⟩
  rw [if_neg c]
  obtain ⟨y,hy⟩:=List.exists_mem_of_ne_nil _ c
  have hall: ∀x∈j6_ T.arcs [⟨s,[]⟩] b, ∀y∈j6_ T.arcs [⟨s,[]⟩] b,x=y:=fun x hx y hy=>by
    obtain ⟨z,hz,a,ha,e1,e2,rfl⟩:=is_.1 hx
    obtain ⟨u,hu,d,hd,e3,e4,rfl⟩:=is_.1 hy
    rw [mo_]at hz hu
    subst hz hu
    rw [h.arc a ha d hd (e1.trans e3.symm) b e2 e4]
  have hyo:y.out.length≤4096∧0≤y.state∧y.state<(n:Int):=by
    obtain ⟨z,hz,a,ha,e1,e2,rfl⟩:=is_.1 hy
    rw [mo_]at hz
    subst hz
    have:=h.ao a ha
    refine ⟨?_,h.to a ha⟩
    show ([]++em a b).length≤_
    rw [List.nil_append]
    unfold em
    split
    · rw [la_,lo_];omega
    omega
  rw [l0_ hall hy hyo.1]
  obtain ⟨i,R',h1,h2⟩:=hR.state hm hyo.2.1 hyo.2.2
  simp only [h1]
  exact ⟨_,_,_,rfl,h2⟩
theorem OneN.bytes{n:Nat}{T:Fst}(h:OneN n T){most:Int}(hm:(n:Int)≤most){R:List (List Tip)}(hR:Sing n R){l:List Tip}{s:Int}(hl:l=[⟨s,[]⟩]): ∀k:Nat,
    ∃R' N O,gs_ T.arcs most l R k= .inr (R',N,O)∧Sing n R'
  |0=>⟨_,_,_,rfl,hR⟩
  |k+1=>by
    obtain ⟨R1,N,O,h1,h2⟩:=OneN.bytes h hm hR hl k
    obtain ⟨R2,z,o,h3,h4⟩:=h.byte hm h2 hl (hn_ ((k:Nat):Int))
    refine ⟨R2,N++[z],O++[o],?_,h4⟩
    rw [gs_,h1]
    simp only [h3]
theorem OneN.do{n:Nat}{T:Fst}(h:OneN n T){most:Int}(hm:(n:Int)≤most){R:List (List Tip)}(hR:Sing n R){l:List Tip}{s:Int}(hl:l=[⟨s,[]⟩])(q:Seq):
    ∃R' q',doD T.arcs T.ends most l R q= .inr (R',q')∧Sing n R':=by
  obtain ⟨R',N,O,h1,h2⟩:=h.bytes hm hR hl 256
  have ht: ∃b t,ke_ T.ends l= .inr (b,t):=by
    unfold ke_
    have hq:Eqs (f1_ T.ends l):=fun x hx y hy=>by
      rw [ij_]at hx hy
      obtain ⟨z,hz,e,he,e1,rfl⟩:=hx
      obtain ⟨u,hu,f,hf,e2,rfl⟩:=hy
      rw [hl,mo_]at hz hu
      subst hz hu
      rw [h.en e he f hf (e1.trans e2.symm)]
    rw [if_neg (fun q=>q hq),if_neg]
    · exact ⟨_,_,rfl⟩
    by_cases c:f1_ T.ends l=[]
    · rw [c];simp [hr_]
    have hmm:=j0_ c
    rw [ij_]at hmm
    obtain ⟨z,hz,e,he,e1,e2⟩:=hmm
    rw [hl,mo_]at hz
    subst hz
    have:=h.eo e he
    rw [e2]
    show ¬ 4096<([]++e.out).length
    rw [List.nil_append];omega
  obtain ⟨b,t,ht⟩:=ht
  refine ⟨R',n7_ q N O b t,?_,h2⟩
  unfold doD
  rw [ht]
  simp only [h1]
theorem OneN.all{n:Nat}{T:Fst}(h:OneN n T){most:Int}(hm:(n:Int)≤most): ∀(g s:Nat) {R:List (List Tip)} (q:Seq),Sing n R→ ∃R' q',w2_ T.arcs T.ends most g s R q= .inr (R',q')∧Sing n R'
  |0,s,R,q,hR=>⟨R,q,rfl,hR⟩
  | g + 1, s, R, q, hR => by
    rw [w2_]
    by_cases c:s<R.length
    · rw [if_pos c]
      obtain ⟨z,_,_,e⟩:=hR.one _ (gf_ ([]:List Tip) c)
      obtain ⟨R1,q1,h1,h2⟩:=h.do hm hR e q
      obtain ⟨R2,q2,h3,h4⟩:=OneN.all h hm g (s+1) q1 h2
      refine ⟨R2,q2,?_,h4⟩
      simp only [h1];exact h3
    rw [if_neg c];exact ⟨R,q,rfl,hR⟩
theorem OneN.of{n:Nat}{T:Fst}(h:OneN n T){most:Int}(hm:(n:Int)≤most): ∃R q,ofT T most= .inr (R,q)∧Sing n R:=by
  unfold ofT
  by_cases c:T.starts=[]
  · rw [if_pos c];exact ⟨_,_,rfl,List.nodup_nil,fun r hr=>by cases hr⟩
  rw [if_neg c]
  obtain ⟨x,hx⟩:=List.exists_mem_of_ne_nil _ c
  have h1:=h.so x hx
  have h2:=h.ss x hx
  rw [l0_ h.st hx (by omega)]
  exact h.all hm 1025 0 _ ⟨List.pairwise_singleton _ _,fun r hr=>by rw [mo_]at hr;exact ⟨x.state,h2.1,h2.2,hr⟩⟩
theorem ApR.uniq{P Q:T_1→Prop}(hPQ: ∀y,P y↔Q y){w:T_1}{r s:T_1×Int×Bool×Int}(h:ApR P w r)(k:ApR Q w s):r.2.2.1=s.2.2.1∧r.1=s.1:=by
  rcases h.2 with ⟨h1,_,h2⟩|⟨h1,h2,_,_,h3⟩
  · have hr:=(h2 r.1).2 rfl
    rcases k.2 with ⟨k1,_,k2⟩|⟨k1,k2,_,_,k3⟩
    · exact ⟨h1.trans k1.symm,(k2 r.1).1 ((hPQ _).1 hr)⟩
    exact absurd ((hPQ _).1 hr) (k3 _)
  rcases k.2 with ⟨k1,_,k2⟩|⟨k1,k2,_,_,k3⟩
  · exact absurd ((hPQ _).2 ((k2 s.1).2 rfl)) (h3 _)
  exact ⟨h1.trans k1.symm,h2.trans k2.symm⟩
end Go.Proofs.YtchebnpdnfhenaaGreatDoor
end

noncomputable section
namespace Go.Proofs.YtchebnpdnfhenaaGreatDoor
open Go Go.E
def sw_(g:Grow)(x:Tip):Grow:=if g.over=true∨1024≤g.f.starts.length∨1024<x.out.length then ⟨g.f,true⟩ else ⟨⟨g.f.states,g.f.starts++[x],g.f.ends,g.f.arcs⟩,false⟩
def tp_(g:Grow)(x:Tip):Grow:=if g.over=true∨1024≤g.f.ends.length∨1024<x.out.length then ⟨g.f,true⟩ else ⟨⟨g.f.states,g.f.starts,g.f.ends++[x],g.f.arcs⟩,false⟩
def tk_(g:Grow)(x:Arc):Grow:=if g.over=true∨16384≤g.f.arcs.length∨1024<x.out.length then ⟨g.f,true⟩ else ⟨⟨g.f.states,g.f.starts,g.f.ends,g.f.arcs++[x]⟩,false⟩
def xa_(g:Grow):Fst×Int:=if g.over=true∨1024<g.f.states then (⟨0,[],[],[]⟩,2) else (g.f,0)
theorem start_eq(g:Grow)(x:Tip):Du_ g x=some (sw_ g x):=by
  unfold Du_ sw_
  obtain ⟨⟨n,S,E,A⟩,o⟩:=g
  cases o with
  |true=>rw [if_pos (.inl rfl)];rfl
  |false=>
    dsimp only
    rw [iteO_false]
    by_cases h1:1024≤S.length
    · rw [d4_ (by omega),if_pos (.inr (.inl h1))]
    rw [d5_ (by omega)]
    by_cases h2:1024<x.out.length
    · rw [d4_ (by omega),if_pos (.inr (.inr h2))]
    rw [d5_ (by omega),d3_ (by simp only [lo_];omega),if_neg (by simp;omega)]
theorem end_eq(g:Grow)(x:Tip):Eh_ g x=some (tp_ g x):=by
  unfold Eh_ tp_
  obtain ⟨⟨n,S,E,A⟩,o⟩:=g
  cases o with
  |true=>rw [if_pos (.inl rfl)];rfl
  |false=>
    dsimp only
    rw [iteO_false]
    by_cases h1:1024≤E.length
    · rw [d4_ (by omega),if_pos (.inr (.inl h1))]
    rw [d5_ (by omega)]
    by_cases h2:1024<x.out.length
    · rw [d4_ (by omega),if_pos (.inr (.inr h2))]
    rw [d5_ (by omega),d3_ (by simp only [lo_];omega),if_neg (by simp;omega)]
theorem arc_eq(g:Grow)(x:Arc):Ee_ g x=some (tk_ g x):=by
  unfold Ee_ tk_
  obtain ⟨⟨n,S,E,A⟩,o⟩:=g
  cases o with
  |true=>rw [if_pos (.inl rfl)];rfl
  |false=>
    dsimp only
    rw [iteO_false]
    by_cases h1:16384≤A.length
    · rw [d4_ (by omega),if_pos (.inr (.inl h1))]
    rw [d5_ (by omega)]
    by_cases h2:1024<x.out.length
    · rw [d4_ (by omega),if_pos (.inr (.inr h2))]
    rw [d5_ (by omega),d3_ (by simp only [lo_];omega),if_neg (by simp;omega)]
theorem look_eq(g:Grow):D2_ g=some (xa_ g):=by
  unfold D2_ xa_
  obtain ⟨⟨n,S,E,A⟩,o⟩:=g
  cases o with
  |true=>rw [if_pos (.inl rfl)];rfl
  |false=>
    dsimp only
    rw [iteO_false]
    by_cases h:1024<n
    · rw [d4_ h,if_pos (.inr h)]
    rw [d5_ h,if_neg (by simp;omega)]
structure GB (F:Fst):Prop where
  sN:F.starts.length≤1024
  eN:F.ends.length≤1024
  aN:F.arcs.length≤16384
  s: ∀x∈F.starts,x.out.length≤1024
  e: ∀x∈F.ends,x.out.length≤1024
  a: ∀x∈F.arcs,x.out.length≤1024
def Gr(g:Grow)(F:Fst):Prop:=g.over=true∨g=⟨F,false⟩∧GB F
theorem Gr.nil(n:Int):Gr ⟨⟨n,[],[],[]⟩,false⟩ ⟨n,[],[],[]⟩:= .inr ⟨rfl,by simp,by simp,by simp,by simp,by simp,by simp⟩
theorem Gr.st{g:Grow}{F:Fst}(h:Gr g F)(x:Tip):Gr (sw_ g x) ⟨F.states,F.starts++[x],F.ends,F.arcs⟩:=by
  unfold sw_
  split
  · exact .inl rfl
  rename_i hn
  rcases h with h|⟨rfl,h⟩
  · exact absurd (.inl h) hn
  simp only [Bool.false_eq_true,false_or,not_or,Nat.not_le,Nat.not_lt]at hn
  refine .inr ⟨rfl,?_,h.eN,h.aN,fun y hy=> ?_,h.e,h.a⟩
  · simp only [la_,lo_];omega
  rcases List.mem_append.1 hy with hy|hy
  · exact h.s y hy
  rw [List.mem_singleton.1 hy];exact hn.2
theorem Gr.en{g:Grow}{F:Fst}(h:Gr g F)(x:Tip):Gr (tp_ g x) ⟨F.states,F.starts,F.ends++[x],F.arcs⟩:=by
  unfold tp_
  split
  · exact .inl rfl
  rename_i hn
  rcases h with h|⟨rfl,h⟩
  · exact absurd (.inl h) hn
  simp only [Bool.false_eq_true,false_or,not_or,Nat.not_le,Nat.not_lt]at hn
  refine .inr ⟨rfl,h.sN,?_,h.aN,h.s,fun y hy=> ?_,h.a⟩
  · simp only [la_,lo_];omega
  rcases List.mem_append.1 hy with hy|hy
  · exact h.e y hy
  rw [List.mem_singleton.1 hy];exact hn.2
theorem Gr.ar{g:Grow}{F:Fst}(h:Gr g F)(x:Arc):Gr (tk_ g x) ⟨F.states,F.starts,F.ends,F.arcs++[x]⟩:=by
  unfold tk_
  split
  · exact .inl rfl
  rename_i hn
  rcases h with h|⟨rfl,h⟩
  · exact absurd (.inl h) hn
  simp only [Bool.false_eq_true,false_or,not_or,Nat.not_le,Nat.not_lt]at hn
  refine .inr ⟨rfl,h.sN,h.eN,?_,h.s,h.e,fun y hy=> ?_⟩
  · simp only [la_,lo_];omega
  rcases List.mem_append.1 hy with hy|hy
  · exact h.a y hy
  rw [List.mem_singleton.1 hy];exact hn.2
def pS(F:Fst)(l:List Tip):Fst:=⟨F.states,F.starts++l,F.ends,F.arcs⟩
def pE(F:Fst)(l:List Tip):Fst:=⟨F.states,F.starts,F.ends++l,F.arcs⟩
def pA(F:Fst)(l:List Arc):Fst:=⟨F.states,F.starts,F.ends,F.arcs++l⟩
theorem pS_nil(F:Fst):pS F []=F:=by simp [pS]
theorem pE_nil(F:Fst):pE F []=F:=by simp [pE]
theorem pA_nil(F:Fst):pA F []=F:=by simp [pA]
theorem pS_snoc(F:Fst)(l:List Tip)(x:Tip):pS F (l++[x])=⟨(pS F l).states,(pS F l).starts++[x],(pS F l).ends,(pS F l).arcs⟩:=by simp [pS]
theorem pE_snoc(F:Fst)(l:List Tip)(x:Tip):pE F (l++[x])=⟨(pE F l).states,(pE F l).starts,(pE F l).ends++[x],(pE F l).arcs⟩:=by simp [pE]
theorem pA_snoc(F:Fst)(l:List Arc)(x:Arc):pA F (l++[x])=⟨(pA F l).states,(pA F l).starts,(pA F l).ends,(pA F l).arcs++[x]⟩:=by simp [pA]
theorem vw_(n:Int)(l:List Tip){k:Nat}(h:k<l.length):shT n (l.take (k+1))=shT n (l.take k)++[⟨(nth l k tz_).state+n,(nth l k tz_).out⟩]:=by
  rw [ex_ l h tz_];unfold shT;rw [List.map_append];rfl
theorem shA_snoc(n:Int)(l:List Arc){k:Nat}(h:k<l.length):shA n (l.take (k+1))=shA n (l.take k)++[⟨(nth l k az_).frm+n,(nth l k az_).to+n,(nth l k az_).set,(nth l k az_).out,(nth l k az_).copy⟩]:=by
  rw [ex_ l h az_];unfold shA;rw [List.map_append];rfl
theorem yy_{a:Int}(h: -100000≤a∧a≤100000):IntKind.i64.wrap a=a:=ic_ (by omega) (by omega)
theorem s8_{l:List Tip}{up:Int}(hr: ∀x∈l, -100000≤x.state+up∧x.state+up≤100000){g:Grow}{F:Fst}(h:Gr g F): ∃g',Cm_ g l up=some g'∧Gr g' (pS F (shT up l)):=by
  unfold Cm_
  refine er_ (step:=fun q:Int×(List Tip)×(List Tip)×(List Arc)×Bool×Nat=>Al_ l up q.1 q.2.1 q.2.2.1 q.2.2.2.1 q.2.2.2.2.1 q.2.2.2.2.2) (fun (s:Grow) k=>(s.f.states,s.f.starts,s.f.ends,s.f.arcs,s.over,k)) l.length
    (fun k s=>Gr s (pS F (shT up (l.take k)))) _ (fun k s hk hI=> ?_) (fun s hI=> ?_) (s0:=g) (by simpa [shT,pS_nil]using h)
  · refine .inl ⟨sw_ s ⟨(nth l k tz_).state+up,(nth l k tz_).out⟩,?_,?_⟩
    · show Al_ l up s.f.states s.f.starts s.f.ends s.f.arcs s.over k=_
      unfold Al_
      rw [d4_ (by omega),start_eq,ed_,yy_ (hr _ (rq_ hk _))];rfl
    rw [vw_ up l hk,pS_snoc];exact hI.st _
  rw [List.take_length]at hI
  refine ⟨s,?_,hI⟩
  show Al_ l up s.f.states s.f.starts s.f.ends s.f.arcs s.over l.length=_
  unfold Al_
  rw [d5_ (by omega)];rfl
theorem zp_{l:List Tip}{up:Int}(hr: ∀x∈l, -100000≤x.state+up∧x.state+up≤100000){g:Grow}{F:Fst}(h:Gr g F): ∃g',C9_ g l up=some g'∧Gr g' (pE F (shT up l)):=by
  unfold C9_
  refine er_ (step:=fun q:Int×(List Tip)×(List Tip)×(List Arc)×Bool×Nat=>As_ l up q.1 q.2.1 q.2.2.1 q.2.2.2.1 q.2.2.2.2.1 q.2.2.2.2.2) (fun (s:Grow) k=>(s.f.states,s.f.starts,s.f.ends,s.f.arcs,s.over,k)) l.length
    (fun k s=>Gr s (pE F (shT up (l.take k)))) _ (fun k s hk hI=> ?_) (fun s hI=> ?_) (s0:=g) (by simpa [shT,pE_nil]using h)
  · refine .inl ⟨tp_ s ⟨(nth l k tz_).state+up,(nth l k tz_).out⟩,?_,?_⟩
    · show As_ l up s.f.states s.f.starts s.f.ends s.f.arcs s.over k=_
      unfold As_
      rw [d4_ (by omega),end_eq,ed_,yy_ (hr _ (rq_ hk _))];rfl
    rw [vw_ up l hk,pE_snoc];exact hI.en _
  rw [List.take_length]at hI
  refine ⟨s,?_,hI⟩
  show As_ l up s.f.states s.f.starts s.f.ends s.f.arcs s.over l.length=_
  unfold As_
  rw [d5_ (by omega)];rfl
theorem xc_{l:List Arc}{up:Int}(hr: ∀x∈l,(-100000≤x.frm+up∧x.frm+up≤100000)∧ -100000≤x.to+up∧x.to+up≤100000){g:Grow}{F:Fst}(h:Gr g F): ∃g',Db_ g l up=some g'∧Gr g' (pA F (shA up l)):=by
  unfold Db_
  refine er_ (step:=fun q:Int×(List Tip)×(List Tip)×(List Arc)×Bool×Nat=>At_ l up q.1 q.2.1 q.2.2.1 q.2.2.2.1 q.2.2.2.2.1 q.2.2.2.2.2) (fun (s:Grow) k=>(s.f.states,s.f.starts,s.f.ends,s.f.arcs,s.over,k)) l.length
    (fun k s=>Gr s (pA F (shA up (l.take k)))) _ (fun k s hk hI=> ?_) (fun s hI=> ?_) (s0:=g) (by simpa [shA,pA_nil]using h)
  · have hm:=hr _ (rq_ hk az_)
    refine .inl ⟨tk_ s ⟨(nth l k az_).frm+up,(nth l k az_).to+up,(nth l k az_).set,(nth l k az_).out,(nth l k az_).copy⟩,?_,?_⟩
    · show At_ l up s.f.states s.f.starts s.f.ends s.f.arcs s.over k=_
      unfold At_
      rw [d4_ (by omega),arc_eq,ed_,yy_ hm.1,yy_ hm.2];rfl
    rw [shA_snoc up l hk,pA_snoc];exact hI.ar _
  rw [List.take_length]at hI
  refine ⟨s,?_,hI⟩
  show At_ l up s.f.states s.f.starts s.f.ends s.f.arcs s.over l.length=_
  unfold At_
  rw [d5_ (by omega)];rfl
def GEnd(F:Fst)(r:Fst×Int):Prop:=r=(⟨0,[],[],[]⟩,2)∨r=(F,0)∧GB F∧F.states≤1024
theorem gend{g:Grow}{F:Fst}(h:Gr g F):GEnd F (xa_ g):=by
  unfold xa_
  split
  · exact .inl rfl
  rename_i hn
  rcases h with h|⟨rfl,h⟩
  · exact absurd (.inl h) hn
  simp only [Bool.false_eq_true,false_or,Int.not_lt]at hn
  exact .inr ⟨rfl,h,hn⟩
theorem v2_(l:List Tip):shT 0 l=l:=by
  unfold shT
  have:(fun x:Tip=>(⟨x.state+0,x.out⟩:Tip))=id:=funext fun x=>by rw [Int.add_zero];rfl
  rw [this,List.map_id]
theorem shA_zero(l:List Arc):shA 0 l=l:=by
  unfold shA
  have:(fun x:Arc=>(⟨x.frm+0,x.to+0,x.set,x.out,x.copy⟩:Arc))=id:=funext fun x=>by rw [Int.add_zero,Int.add_zero];rfl
  rw [this,List.map_id]
theorem both_go(a b:Fst):F6_ a b=some (jw_ a && jw_ b):=by
  unfold F6_
  rw [Dq_,ed_]
  cases ha:jw_ a
  · rfl
  rw [Dq_,ed_]
  cases hb:jw_ b<;>rfl
theorem alt_go{a b:Fst}(ha:FstOk a)(hb:FstOk b): ∃r,F5_ a b=some r∧GEnd (fAlt a b) r:=by
  have a0:=ha.st0
  have a1:=ha.st1
  have b0:=hb.st0
  have b1:=hb.st1
  have rT0: ∀l:List Tip,(∀x∈l,(0≤x.state∧x.state<a.states)∧x.out.length≤1024)→ ∀x∈l, -100000≤x.state+0∧x.state+0≤100000:=fun l hl x hx=>by have:=hl x hx;omega
  have rT1: ∀l:List Tip,(∀x∈l,(0≤x.state∧x.state<b.states)∧x.out.length≤1024)→ ∀x∈l, -100000≤x.state+a.states∧x.state+a.states≤100000:=fun l hl x hx=>by have:=hl x hx;omega
  unfold F5_
  rw [both_go,(fw_ a).2 ha,(fw_ b).2 hb,ed_]
  simp only [Bool.and_self,Bool.not_true,iteO_false]
  rw [yy_ (by omega)]
  obtain ⟨g1,e1,h1⟩:=s8_ (rT0 _ ha.starts) (Gr.nil (a.states+b.states))
  rw [eu_ e1]
  obtain ⟨g2,e2,h2⟩:=s8_ (rT1 _ hb.starts) h1
  rw [eu_ e2]
  obtain ⟨g3,e3,h3⟩:=zp_ (rT0 _ ha.ends) h2
  rw [eu_ e3]
  obtain ⟨g4,e4,h4⟩:=zp_ (rT1 _ hb.ends) h3
  rw [eu_ e4]
  obtain ⟨g5,e5,h5⟩:=xc_ (l:=a.arcs) (up:=0) (fun x hx=>by have:=ha.arcs x hx;omega) h4
  rw [eu_ e5]
  obtain ⟨g6,e6,h6⟩:=xc_ (l:=b.arcs) (up:=a.states) (fun x hx=>by have:=hb.arcs x hx;omega) h5
  rw [eu_ e6,eu_ (look_eq g6)]
  refine ⟨xa_ g6,rfl,?_⟩
  have:=gend h6
  rw [v2_,v2_,shA_zero]at this
  exact this
end Go.Proofs.YtchebnpdnfhenaaGreatDoor
end

noncomputable section
namespace Go.Proofs.YtchebnpdnfhenaaGreatDoor
open Go Go.E Go.E.OpVal Go.E.OpOk
theorem pf13:plainF Tryz.prog 13=true:=by kernel_rfl
theorem pf17:plainF Tryz.prog 17=true:=by kernel_rfl
theorem pf21:plainF Tryz.prog 21=true:=by kernel_rfl
theorem pf30:plainF Tryz.prog 30=true:=by kernel_rfl
theorem pf40:plainF Tryz.prog 40=true:=by kernel_rfl
def Ah_(v52:Seq×Int)(v60:Seq×Int):Option (Bool):=
 bnd (B3_ v52.1) (fun v99=>bnd (An_) (fun v106=>ec_ v106 (ec_ (decide (v52.2=0)) (ec_ (decide (v99.2=0)) (bnd (Ay_ v60.1 v99.1) (fun v118=>some v118)) (some false)) (some false)) (some false)))
def Cn_(x0:Fst)(x1:Int):Option (Bool):=
 bnd (C1_ x0) (fun v4=>ec_ (!v4) (some true) (ec_ (decide (20<x1)) (some true) (bnd (E8_ x0 x1) (fun v13=>ec_ (decide (v13.2≠0)) (bnd (An_) (fun v22=>some v22)) (bnd (F5_ x0 x0) (fun v26=>bnd (Fj_ v13.1) (fun v34=>bnd (E8_ v26.1 x1) (fun v43=>bnd (E8_ v34.1 x1) (fun v52=>bnd (B3_ v13.1) (fun v60=>ec_ (decide (v26.2≠0)) (bnd (An_) (fun v77=>some v77)) (ec_ (decide (v34.2≠0)) (bnd (An_) (fun v77=>some v77)) (ec_ (decide (v60.2≠0)) (bnd (An_) (fun v77=>some v77)) (ec_ (decide (v43.2=0)) (bnd (B3_ v43.1) (fun v82=>ec_ (decide (v82.2≠0)) (some false) (bnd (Ay_ v60.1 v82.1) (fun v94=>ec_ (!v94) (some false) (Ah_ v52 v60))))) (Ah_ v52 v60))))))))))))))
theorem F4_{σ:d0_}{x0:Fst}{a0_0:Option Addr}{c0_0:Nat}{a0_1:Option Addr}{c0_1:Nat}{a0_2:Option Addr}{c0_2:Nat}{x1:Int}(hgl:GT2 σ 1 2)(f0_0:RS σ 2 d2_ (.slice a0_0 x0.starts.length c0_0) x0.starts)(f0_1:RS σ 2 d2_ (.slice a0_1 x0.ends.length c0_1) x0.ends)(f0_2:RS σ 8 d8_ (.slice a0_2 x0.arcs.length c0_2) x0.arcs){r:Bool}(hh:Cn_ x0 x1=some r):
  Con Tryz.prog 12 #[.agg (au_ x0 a0_0 c0_0 a0_1 c0_1 a0_2 c0_2),.int .i64 x1] σ [] (fd_ (.bool r) σ):=by
 dsimp only [Cn_]at hh
 have f0_0b:=f0_0.rv.big
 have f0_1b:=f0_1.rv.big
 have f0_2b:=f0_2.rv.big
 refine Con.mk (n:=110) Tryz.func12 z z z (fun w0=> ?_)
 refine ξ (ζ z (boxA z z z z (fun b101=> ?_)))
 refine TL.j z z (κ (ν (ξ (ω z (ak_ z jc_ hi_ z (i:=0) z z) ?_))))
 obtain ⟨v4,u4,hh⟩:=eb_ hh
 refine ζ z (aw_ (Gr_ (x0:=x0) f0_0 f0_1 f0_2 u4) z z pf13 z z z ?_)
 refine ω z (OpVal.not z z) (TL.j z z (TL.split 24 z (fun h103=> ?_) (fun h103=> ?_)))
 ·replace hh:=ej_ h103 hh
  refine χ z (χ z (ω z (ah_ z z z) (κ (TC.t z (ξ (TL.j z z (κ (TC.rt 0 (S.r ?_)))))))))
  obtain rfl:=so hh
  exact rq [4] ⟨z,z,z⟩
 replace hh:=ei_ h103 hh
 refine TL.g z (ai_ (.inl z) z) (TL.g z (OpVal.gtr z z z) (ω z (ag_ z z z) (κ (TC.cD z hh (fun h104 hh=> ?_) (fun h104 hh=> ?_)))))
 ·refine ξ (TL.j z z (κ (TC.rt 0 (S.r ?_))))
  obtain rfl:=so hh
  exact rq [4] ⟨z,z,z⟩
 refine ι (S.n (ξ (ω z (ak_ z jc_ hi_ z (i:=0) z z) (θ z z ?_))))
 obtain ⟨v13,u13,hh⟩:=eb_ hh
 refine ζ z (OpOk.call (F3_ (x0:=x0) hgl f0_0 f0_1 f0_2 u13) z z pf14 z z z z ?_)
 rintro _ τ105 _ hle105 ⟨a105_1,c105_1,a105_2,c105_2,a105_3,c105_3,a105_4,c105_4,rfl,hr105_0,hr105_1,hr105_2,hr105_3,rfl⟩
 replace f0_0:=f0_0.mono hle105
 replace f0_1:=f0_1.mono hle105
 replace f0_2:=f0_2.mono hle105
 replace hgl:=hgl.mono hle105
 have hr105_0b:=hr105_0.big
 have hr105_1b:=hr105_1.big
 have hr105_2b:=hr105_2.rv.big
 have hr105_3b:=hr105_3.rv.big
 refine ω z (a8_ (.inl z) z) (ω z (OpVal.extract z z z) (ω z (OpVal.extract z z z) (ζ z (OpOk.alloc z ju_ z z (fun b106=> ?_)))))
 refine ζ z (storeAll z fs_ z z z z z z ?_)
 refine θ z z (κ (ν (ξ (θ z z (ω z (OpVal.neq z z z) (κ (TC.cD z hh (fun h108 hh=> ?_) (fun h108 hh=> ?_))))))))
 ·refine ξ ?_
  obtain ⟨v22,u22,hh⟩:=eb_ hh
  refine ζ z (aw_ (Bg_ hgl u22) z z pf30 z z z ?_)
  refine TL.j z z (κ (TC.ax_ (Sub.pre 0 z) (TC.back (TC.ret (S.r ?_)))))
  obtain rfl:=so hh
  exact rq [4] ⟨z,z,z⟩
 refine ι (S.n (ξ (ω z (ak_ z jc_ hi_ z (i:=1) z z) (ω z (ak_ z jc_ hi_ z (i:=1) z z) ?_))))
 obtain ⟨v26,u26,hh⟩:=eb_ hh
 refine ζ z (OpOk.call (Id_ (x0:=x0) (x1:=x0) f0_0 f0_1 f0_2 f0_0 f0_1 f0_2 u26) z z pf40 z z z z ?_)
 rintro _ τ109 _ hle109 ⟨a109_1,c109_1,a109_2,c109_2,a109_3,c109_3,rfl,hr109_0,hr109_1,hr109_2,rfl⟩
 replace hgl:=hgl.mono hle109
 replace hr105_0:=hr105_0.mono hle109
 replace hr105_1:=hr105_1.mono hle109
 replace hr105_2:=hr105_2.mono hle109
 replace hr105_3:=hr105_3.mono hle109
 have hr109_0b:=hr109_0.rv.big
 have hr109_1b:=hr109_1.rv.big
 have hr109_2b:=hr109_2.rv.big
 refine ω z (a8_ (.inl z) z) (ω z (OpVal.extract z z z) (ω z (OpVal.extract z z z) (ζ z (OpOk.alloc z m2_ z z (fun b110=> ?_)))))
 refine ζ z (storeAll z hi_ z z z z z z ?_)
 refine θ z z (κ (ξ (ω z (ak_ z h1_ fs_ z (i:=1) z z) ?_)))
 obtain ⟨v34,u34,hh⟩:=eb_ hh
 refine ζ z (OpOk.call (Ib_ (x0:=v13.1) hr105_0 hr105_1 hr105_2 hr105_3 u34) z z pf21 z z z z ?_)
 rintro _ τ112 _ hle112 ⟨a112_1,c112_1,a112_2,c112_2,a112_3,c112_3,rfl,hr112_0,hr112_1,hr112_2,rfl⟩
 replace hgl:=hgl.mono hle112
 replace hr105_0:=hr105_0.mono hle112
 replace hr105_1:=hr105_1.mono hle112
 replace hr105_2:=hr105_2.mono hle112
 replace hr105_3:=hr105_3.mono hle112
 replace hr109_0:=hr109_0.mono hle112
 replace hr109_1:=hr109_1.mono hle112
 replace hr109_2:=hr109_2.mono hle112
 have hr112_0b:=hr112_0.rv.big
 have hr112_1b:=hr112_1.rv.big
 have hr112_2b:=hr112_2.rv.big
 refine ω z (a8_ (.inl z) z) (ω z (OpVal.extract z z z) (ω z (OpVal.extract z z z) (ζ z (OpOk.alloc z m2_ z z (fun b113=> ?_)))))
 refine ζ z (storeAll z hi_ z z z z z z ?_)
 refine θ z z (κ (ξ (ω z (ak_ z jc_ hi_ z (i:=1) z z) (θ z z ?_))))
 obtain ⟨v43,u43,hh⟩:=eb_ hh
 refine ζ z (OpOk.call (F3_ (x0:=v26.1) hgl hr109_0 hr109_1 hr109_2 u43) z z pf14 z z z z ?_)
 rintro _ τ115 _ hle115 ⟨a115_1,c115_1,a115_2,c115_2,a115_3,c115_3,a115_4,c115_4,rfl,hr115_0,hr115_1,hr115_2,hr115_3,rfl⟩
 replace hgl:=hgl.mono hle115
 replace hr105_0:=hr105_0.mono hle115
 replace hr105_1:=hr105_1.mono hle115
 replace hr105_2:=hr105_2.mono hle115
 replace hr105_3:=hr105_3.mono hle115
 replace hr112_0:=hr112_0.mono hle115
 replace hr112_1:=hr112_1.mono hle115
 replace hr112_2:=hr112_2.mono hle115
 have hr115_0b:=hr115_0.big
 have hr115_1b:=hr115_1.big
 have hr115_2b:=hr115_2.rv.big
 have hr115_3b:=hr115_3.rv.big
 refine ω z (a8_ (.inl z) z) (ω z (OpVal.extract z z z) (ω z (OpVal.extract z z z) (ζ z (OpOk.alloc z ju_ z z (fun b116=> ?_)))))
 refine ζ z (storeAll z fs_ z z z z z z ?_)
 refine θ z z (κ (ξ (ω z (ak_ z jc_ hi_ z (i:=1) z z) (θ z z ?_))))
 obtain ⟨v52,u52,hh⟩:=eb_ hh
 refine ζ z (OpOk.call (F3_ (x0:=v34.1) hgl hr112_0 hr112_1 hr112_2 u52) z z pf14 z z z z ?_)
 rintro _ τ118 _ hle118 ⟨a118_1,c118_1,a118_2,c118_2,a118_3,c118_3,a118_4,c118_4,rfl,hr118_0,hr118_1,hr118_2,hr118_3,rfl⟩
 replace hgl:=hgl.mono hle118
 replace hr105_0:=hr105_0.mono hle118
 replace hr105_1:=hr105_1.mono hle118
 replace hr105_2:=hr105_2.mono hle118
 replace hr105_3:=hr105_3.mono hle118
 replace hr115_0:=hr115_0.mono hle118
 replace hr115_1:=hr115_1.mono hle118
 replace hr115_2:=hr115_2.mono hle118
 replace hr115_3:=hr115_3.mono hle118
 have hr118_0b:=hr118_0.big
 have hr118_1b:=hr118_1.big
 have hr118_2b:=hr118_2.rv.big
 have hr118_3b:=hr118_3.rv.big
 refine ω z (a8_ (.inl z) z) (ω z (OpVal.extract z z z) (ω z (OpVal.extract z z z) (ζ z (OpOk.alloc z ju_ z z (fun b119=> ?_)))))
 refine ζ z (storeAll z fs_ z z z z z z ?_)
 refine θ z z (κ (ξ (ω z (ak_ z h1_ fs_ z (i:=4) z z) ?_)))
 obtain ⟨v60,u60,hh⟩:=eb_ hh
 refine ζ z (OpOk.call (Fe_ (x0:=v13.1) hgl hr105_0 hr105_1 hr105_2 hr105_3 u60) z z pf29 z z z z ?_)
 rintro _ τ121 _ hle121 ⟨a121_1,c121_1,a121_2,c121_2,a121_3,c121_3,a121_4,c121_4,rfl,hr121_0,hr121_1,hr121_2,hr121_3,rfl⟩
 replace hgl:=hgl.mono hle121
 replace hr115_0:=hr115_0.mono hle121
 replace hr115_1:=hr115_1.mono hle121
 replace hr115_2:=hr115_2.mono hle121
 replace hr115_3:=hr115_3.mono hle121
 replace hr118_0:=hr118_0.mono hle121
 replace hr118_1:=hr118_1.mono hle121
 replace hr118_2:=hr118_2.mono hle121
 replace hr118_3:=hr118_3.mono hle121
 have hr121_0b:=hr121_0.big
 have hr121_1b:=hr121_1.big
 have hr121_2b:=hr121_2.rv.big
 have hr121_3b:=hr121_3.rv.big
 refine ω z (a8_ (.inl z) z) (ω z (OpVal.extract z z z) (ω z (OpVal.extract z z z) (ζ z (OpOk.alloc z ju_ z z (fun b122=> ?_)))))
 refine ζ z (storeAll z fs_ z z z z z z ?_)
 refine θ z z (κ (ν (ξ (θ z z (ω z (OpVal.neq z z z) (TL.j z z (TL.split 67 z (fun h124=> ?_) (fun h124=> ?_))))))))
 ·replace hh:=ej_ h124 hh
  replace h124:=dt_ h124
  refine χ z (χ z (ω z (ah_ z z z) (TL.j z z (χ z (χ z (ω z (ah_ z z z) (κ (TC.t z (ξ ?_)))))))))
  obtain ⟨v77,u77,hh⟩:=eb_ hh
  refine ζ z (aw_ (Bg_ hgl u77) z z pf30 z z z ?_)
  refine TL.j z z (κ (TC.ax_ (Sub.pre 0 z) (TC.back (TC.ret (S.r ?_)))))
  obtain rfl:=so hh
  exact rq [4] ⟨z,z,z⟩
 replace hh:=ei_ h124 hh
 replace h124:=df_ h124
 refine TL.g z (ai_ (.inl z) z) (TL.g z (OpVal.neq z z z) (ω z (ag_ z z z) (TL.j z z (TL.split 71 z (fun h125=> ?_) (fun h125=> ?_)))))
 ·replace hh:=ej_ h125 hh
  replace h125:=dt_ h125
  refine χ z (χ z (ω z (ah_ z z z) (κ (TC.t z (ξ ?_)))))
  obtain ⟨v77,u77,hh⟩:=eb_ hh
  refine ζ z (aw_ (Bg_ hgl u77) z z pf30 z z z ?_)
  refine TL.j z z (κ (TC.ax_ (Sub.pre 0 z) (TC.back (TC.ret (S.r ?_)))))
  obtain rfl:=so hh
  exact rq [4] ⟨z,z,z⟩
 replace hh:=ei_ h125 hh
 replace h125:=df_ h125
 refine TL.g z (ai_ (.inl z) z) (TL.g z (OpVal.neq z z z) (ω z (ag_ z z z) (κ (TC.cD z hh (fun h126 hh=> ?_) (fun h126 hh=> ?_)))))
 ·refine ξ ?_
  obtain ⟨v77,u77,hh⟩:=eb_ hh
  refine ζ z (aw_ (Bg_ hgl u77) z z pf30 z z z ?_)
  refine TL.j z z (κ (TC.ax_ (Sub.pre 0 z) (TC.back (TC.ret (S.r ?_)))))
  obtain rfl:=so hh
  exact rq [4] ⟨z,z,z⟩
 refine ι (S.n (TC.cutG (α:=(Unit)×(d0_)) (rgs [(4,1),(17,2),(76,15)]) (fun g=>[]) (fun g=>[cq_ b119 v52.1 a118_1 c118_1 a118_2 c118_2 a118_3 c118_3 a118_4 c118_4,cq_ b122 v60.1 a121_1 c121_1 a121_2 c121_2 a121_3 c121_3 a121_4 c121_4]) (fun g=>g.2) (fun g=>Ah_ v52 v60=some r∧d0_.le τ121 g.2) ?_ (fun g j hg=> ?_)))
 ·skip
  refine ξ (θ z z (ω z (OpVal.eql z z z) (κ (TC.cD z hh (fun h127 hh=> ?_) (fun h127 hh=> ?_)))))
  ·refine ξ (ω z (ak_ z h1_ fs_ z (i:=2) z z) ?_)
   obtain ⟨v82,u82,hh⟩:=eb_ hh
   refine ζ z (OpOk.call (Fe_ (x0:=v43.1) hgl hr115_0 hr115_1 hr115_2 hr115_3 u82) z z pf29 z z z z ?_)
   rintro _ τ128 _ hle128 ⟨a128_1,c128_1,a128_2,c128_2,a128_3,c128_3,a128_4,c128_4,rfl,hr128_0,hr128_1,hr128_2,hr128_3,rfl⟩
   replace hgl:=hgl.mono hle128
   replace hr118_0:=hr118_0.mono hle128
   replace hr118_1:=hr118_1.mono hle128
   replace hr118_2:=hr118_2.mono hle128
   replace hr118_3:=hr118_3.mono hle128
   replace hr121_0:=hr121_0.mono hle128
   replace hr121_1:=hr121_1.mono hle128
   replace hr121_2:=hr121_2.mono hle128
   replace hr121_3:=hr121_3.mono hle128
   have hr128_0b:=hr128_0.big
   have hr128_1b:=hr128_1.big
   have hr128_2b:=hr128_2.rv.big
   have hr128_3b:=hr128_3.rv.big
   refine ω z (a8_ (.inl z) z) (ω z (OpVal.extract z z z) (ω z (OpVal.extract z z z) (ζ z (OpOk.alloc z ju_ z z (fun b129=> ?_)))))
   refine ζ z (storeAll z fs_ z z z z z z ?_)
   refine θ z z (κ (ξ (θ z z (ω z (OpVal.neq z z z) (TL.j z z (TL.split 85 z (fun h131=> ?_) (fun h131=> ?_)))))))
   ·replace hh:=ej_ h131 hh
    replace h131:=dt_ h131
    refine χ z (χ z (χ z (χ z (ω z (ah_ z z z) (κ (TC.t z (ξ (TL.j z z (κ (TC.ax_ (Sub.pre 0 z) (TC.back (TC.ret (S.r ?_)))))))))))))
    obtain rfl:=so hh
    exact rq [4] ⟨z,z,z⟩
   replace hh:=ei_ h131 hh
   replace h131:=df_ h131
   refine TL.g z (ak_ z h1_ fs_ z (i:=1) z z) (TL.g z (ak_ z h1_ fs_ z (i:=0) z z) ?_)
   obtain ⟨v94,u94,hh⟩:=eb_ hh
   refine TL.gon z z z z z (aw_ (Ey_ (x0:=v60.1) (x1:=v82.1) hr121_0 hr121_1 hr121_2 hr121_3 hr128_0 hr128_1 hr128_2 hr128_3 u94) z z pf17 z z z ?_)
   refine TL.g z (OpVal.not z z) (ω z (ag_ z z z) (κ (TC.cB z hh (fun h132 hh=> ?_) (fun h132 hh=> ?_))))
   ·refine ξ (TL.j z z (κ (TC.ax_ (Sub.pre 0 z) (TC.back (TC.ret (S.r ?_))))))
    obtain rfl:=so hh
    exact rq [4] ⟨z,z,z⟩
   exact ι (S.n (cf ((),τ128) ⟨hh,hle128⟩ (δ [1,2] 2)))
  exact ι (S.n (cf ((),τ121) ⟨hh,(d0_.le.refl _)⟩ (δ [1] 2)))
 skip
 obtain ⟨_,τ133⟩:=g
 obtain ⟨hh,hle134⟩:=hg
 dsimp only at hle134
 replace hgl:=hgl.mono hle134
 replace hr118_0:=hr118_0.mono hle134
 replace hr118_1:=hr118_1.mono hle134
 replace hr118_2:=hr118_2.mono hle134
 replace hr118_3:=hr118_3.mono hle134
 replace hr121_0:=hr121_0.mono hle134
 replace hr121_1:=hr121_1.mono hle134
 replace hr121_2:=hr121_2.mono hle134
 replace hr121_3:=hr121_3.mono hle134
 try dsimp only
 dsimp only [Ah_]at hh
 refine ξ (ω z (ak_ z h1_ fs_ z (i:=0) z z) ?_)
 obtain ⟨v99,u99,hh⟩:=eb_ hh
 refine ζ z (OpOk.call (Fe_ (x0:=v52.1) hgl hr118_0 hr118_1 hr118_2 hr118_3 u99) z z pf29 z z z z ?_)
 rintro _ τ135 _ hle135 ⟨a135_1,c135_1,a135_2,c135_2,a135_3,c135_3,a135_4,c135_4,rfl,hr135_0,hr135_1,hr135_2,hr135_3,rfl⟩
 replace hgl:=hgl.mono hle135
 replace hr121_0:=hr121_0.mono hle135
 replace hr121_1:=hr121_1.mono hle135
 replace hr121_2:=hr121_2.mono hle135
 replace hr121_3:=hr121_3.mono hle135
 have hr135_0b:=hr135_0.big
 have hr135_1b:=hr135_1.big
 have hr135_2b:=hr135_2.rv.big
 have hr135_3b:=hr135_3.rv.big
 refine ω z (a8_ (.inl z) z) (ω z (OpVal.extract z z z) (ω z (OpVal.extract z z z) (ζ z (OpOk.alloc z ju_ z z (fun b136=> ?_)))))
 refine ζ z (storeAll z fs_ z z z z z z ?_)
 refine θ z z (κ (ξ ?_))
 obtain ⟨v106,u106,hh⟩:=eb_ hh
 refine ζ z (aw_ (Bg_ hgl u106) z z pf30 z z z ?_)
 refine TL.j z z (TL.split 97 z (fun h138=> ?_) (fun h138=> ?_))
 ·replace hh:=ej_ h138 hh
  refine TL.g z (ai_ (.inl z) z) (TL.g z (OpVal.eql z z z) (ω z (ah_ z z z) (TL.j z z (TL.split 101 z (fun h139=> ?_) (fun h139=> ?_)))))
  ·replace hh:=ej_ h139 hh
   replace h139:=dt_ h139
   refine TL.g z (ai_ (.inl z) z) (TL.g z (OpVal.eql z z z) (ω z (ah_ z z z) (TL.j z z (TL.split 105 z (fun h140=> ?_) (fun h140=> ?_)))))
   ·replace hh:=ej_ h140 hh
    replace h140:=dt_ h140
    refine TL.g z (ak_ z h1_ fs_ z (i:=2) z z) (TL.g z (ak_ z h1_ fs_ z (i:=0) z z) ?_)
    obtain ⟨v118,u118,hh⟩:=eb_ hh
    refine TL.gon z z z z z (aw_ (Ey_ (x0:=v60.1) (x1:=v99.1) hr121_0 hr121_1 hr121_2 hr121_3 hr135_0 hr135_1 hr135_2 hr135_3 u118) z z pf17 z z z ?_)
    refine ω z (ah_ z z z) (TL.j z z (κ (TC.ax_ (Sub.pre 0 z) (TC.back (TC.ret ?_)))))
    obtain rfl:=so hh
    exact rq [4] ⟨z,z,z⟩
   replace hh:=ei_ h140 hh
   replace h140:=df_ h140
   refine χ z (χ z (χ z (ω z (ag_ z z z) (TL.j z z (κ (TC.ax_ (Sub.pre 0 z) (TC.back (TC.ret ?_))))))))
   obtain rfl:=so hh
   exact rq [4] ⟨z,z,z⟩
  replace hh:=ei_ h139 hh
  replace h139:=df_ h139
  refine χ z (χ z (ω z (ag_ z z z) (TL.j z z (χ z (χ z (χ z (ω z (ag_ z z z) (TL.j z z (κ (TC.ax_ (Sub.pre 0 z) (TC.back (TC.ret ?_))))))))))))
  obtain rfl:=so hh
  exact rq [4] ⟨z,z,z⟩
 replace hh:=ei_ h138 hh
 refine χ z (χ z (ω z (ag_ z z z) (TL.j z z (χ z (χ z (ω z (ag_ z z z) (TL.j z z (χ z (χ z (χ z (ω z (ag_ z z z) (TL.j z z (κ (TC.ax_ (Sub.pre 0 z) (TC.back ?_)))))))))))))))
 refine TC.ret ?_
 obtain rfl:=so hh
 exact rq [4] ⟨z,z,z⟩
end Go.Proofs.YtchebnpdnfhenaaGreatDoor
end

noncomputable section
namespace Go.Proofs.YtchebnpdnfhenaaGreatDoor
open Go Go.E
theorem yk_{q p:Seq}(hq:d9_ q=true)(hp:d9_ p=true){w:T_1}(e1:(gi_ p w).2.2.1=(gi_ q w).2.2.1)(e2:(gi_ p w).1=(gi_ q w).1):fj_ p w=fj_ q w:=by
  obtain ⟨a1,a2,_⟩:=ma_ hq w
  obtain ⟨b1,b2,_⟩:=ma_ hp w
  rw [a1,b1]at e2
  rw [a2,b2]at e1
  cases c:fj_ p w with
  |none=>cases d:fj_ q w with
    |none=>rfl
    |some y=>rw [c,d]at e1;cases e1
  |some y=>cases d:fj_ q w with
    |none=>rw [c,d]at e1;cases e1
    |some y'=>
      rw [c,d]at e2
      rw [show y=y' from e2]
theorem u5_{q p:Seq}{x r:Seq×Int}(h:PushR q x)(k:MinR x r)(h0:r.2=0)(hp:d9_ p=true)(he: ∀w,fj_ p w=fj_ q w):B3_ p=some (r.1,0):=by
  have hx:x.2=0:=by rw [←(MinR.err' h k).1];exact h0
  obtain ⟨p',r',_,b2,b3,b4⟩:=yv_ p
  have hs:=h.again b2 hx hp he
  have hr':r'.2=0:=by rw [(MinR.err' b2 b4).1];exact hs
  have e:=k.same h b2 b4 h0 hr' fun w=>(he w).symm
  rw [b3]
  exact congrArg some (Prod.ext e.symm hr')
theorem uo_ (t : Fst) (most : Int) : Cn_ t most = some true := by
  unfold Cn_
  obtain ⟨b,hb,hf⟩:=few21 t
  rw [hb,ed_]
  cases b with
  |false=>rw [id_]
  |true=>
    rw [gk_]
    have hfew:=hf rfl
    by_cases c1:20<most
    · rw [d4_ c1]
    rw [d5_ c1,of_eq t most (fun q=>few_of hfew q),ed_]
    unfold ofD
    by_cases c3:jw_ t=true∧1≤most∧most≤1024
    rotate_left
    · rw [if_neg c3,d4_ (show (1:Int)≠0 by decide),mj_,ed_]
    rw [if_pos c3]
    have ht:=(fw_ t).1 c3.1
    have hst0:=ht.st0
    have hst1:=ht.st1
    cases ho:ofT (fv_ t) most with
    |inl e=>
      have:=of_err ho
      rw [d4_ (show (ofR (.inl e)).2≠0 by show e≠0;omega),mj_,ed_]
    | inr Rq =>
      obtain ⟨R,q⟩:=Rq
      have hT:=uw_ (nr_ ht)
      have happ:=fun w=>q9_ hT c3.2.1 c3.2.2 ho w
      have hq:d9_ q=true:=(happ []).1
      have hqn:(q.next.length:Int)≤most:=by
        rcases x7_ c3.2.1 c3.2.2 ho with ⟨_,rfl⟩|⟨_,hM,hl⟩
        · show ((0:Nat):Int)≤most;omega
        have:=hM.made.ok.n;omega
      show ec_ (decide ((0:Int)≠0)) _ _=_
      rw [d5_ (by decide)]
      show bnd (F5_ t t) (fun v26=>bnd (Fj_ q) _)=_
      obtain ⟨r,ra,rg⟩:=alt_go ht ht
      rw [ra,ed_,back_eq q,ed_]
      have hbA:jw_ r.1=true→(fv_ r.1).states.toNat * (fv_ r.1).arcs.length≤1000000:=fun hB=>by
        have hA:=(fw_ _).1 hB
        have h0:=hA.st0
        obtain ⟨l1,l2⟩:=lz_ r.1 h0
        have hs:r.1.states≤10∧r.1.arcs.length≤28:=by
          rcases rg with rg|⟨rg,_⟩
          · rw [rg];exact ⟨by show (0:Int)≤10;decide,Nat.zero_le _⟩
          rw [rg]
          refine ⟨by show t.states+t.states≤10;omega,?_⟩
          show (t.arcs++shA t.states t.arcs).length≤28
          rw [la_]
          have:(shA t.states t.arcs).length=t.arcs.length:=by unfold shA;rw [List.length_map]
          omega
        have:(fv_ r.1).states.toNat * (fv_ r.1).arcs.length≤10 * 28:=Nat.mul_le_mul (by omega) (by omega)
        omega
      have hbB:jw_ (jr_ q).1=true→(fv_ (jr_ q).1).states.toNat * (fv_ (jr_ q).1).arcs.length≤1000000:=fun hB=>by
        have hA:=(fw_ _).1 hB
        have h0:=hA.st0
        obtain ⟨l1,l2⟩:=lz_ (jr_ q).1 h0
        have hs:(jr_ q).1.states≤20∧(jr_ q).1.arcs.length≤5120:=by
          unfold jr_
          rw [if_pos hq]
          by_cases c:jw_ (hp_ q)=true
          · rw [if_pos c]
            refine ⟨by show ((q.next.length:Nat):Int)≤20;omega,?_⟩
            have k1:=E3_ (d:=az_) (cf:=in_) (j4_ q q.next.length)
            have k2:=sd_ q q.next.length
            show (gy_ az_ in_ (j4_ q q.next.length)).length≤_
            omega
          rw [if_neg c];exact ⟨by show (0:Int)≤20;decide,Nat.zero_le _⟩
        have:(fv_ (jr_ q).1).states.toNat * (fv_ (jr_ q).1).arcs.length≤20 * 5120:=Nat.mul_le_mul (by omega) (by omega)
        omega
      rw [of_eq r.1 most hbA,ed_,of_eq (jr_ q).1 most hbB,ed_]
      obtain ⟨x,s,_,x2,x3,x4⟩:=yv_ q
      show bnd (B3_ q) _=_
      rw [x3,ed_]
      by_cases d1:r.2=0
      rotate_left
      · rw [d4_ d1,mj_,ed_]
      rw [d5_ (fun h=>h d1)]
      by_cases d2:(jr_ q).2=0
      rotate_left
      · rw [d4_ d2,mj_,ed_]
      rw [d5_ (fun h=>h d2)]
      by_cases d3:s.2=0
      rotate_left
      · rw [d4_ d3,mj_,ed_]
      rw [d5_ (fun h=>h d3)]
      have hj:Ah_ (ofD (jr_ q).1 most) s=some true:=by
        have hF:jw_ (hp_ q)=true:=by
          by_cases c:jw_ (hp_ q)=true
          · exact c
          unfold jr_ at d2
          rw [if_pos hq,if_neg c]at d2
          exact absurd d2 (by decide)
        have eB:(jr_ q).1=srt (hp_ q):=by unfold jr_;rw [if_pos hq,if_pos hF]
        rw [eB]
        have hk:=(fw_ _).1 hF
        have hT0:=srt_ok hk
        have hB:jw_ (srt (hp_ q))=true:=(fw_ _).2 hT0
        have h1:OneW (srt (hp_ q)):=(back_one q).alike (lb_ _)
        have hTr:=nr_ hT0
        have hless:=lz_ (srt (hp_ q)) hT0.st0
        have hst:(srt (hp_ q)).states=((q.next.length:Nat):Int):=rfl
        have h0:=hTr.st0
        have hone:OneN (fv_ (srt (hp_ q))).states.toNat (fv_ (srt (hp_ q))):=
          ⟨h1.trim hT0,uw_ hTr,fun a ha=>(hTr.arcs a ha).2.2.2,fun e he=>(hTr.ends e he).2,fun e he=>(hTr.starts e he).2⟩
        obtain ⟨R',p,ho',_⟩:=hone.of (most:=most) (by omega)
        have hp:=fun w=>q9_ (uw_ hTr) (most:=most) c3.2.1 c3.2.2 ho' w
        have hpr:d9_ p=true:=(hp []).1
        have he: ∀w,fj_ p w=fj_ q w:=fun w=>by
          have hrel: ∀y,Rel (fv_ (srt (hp_ q))) w y↔Rel (hp_ q) w y:=fun y=>(r3_ hT0).trans ((lb_ (hp_ q)).rel w y)
          obtain ⟨u1,u2⟩:=(hp w).2.uniq hrel (aac_ hq w)
          exact yk_ hq hpr u1 u2
        have hofD:ofD (srt (hp_ q)) most=(p,0):=by
          unfold ofD
          rw [if_pos ⟨hB,c3.2.1,c3.2.2⟩,ho'];rfl
        unfold Ah_
        rw [hofD]
        show bnd (B3_ p) _=_
        rw [u5_ x2 x4 d3 hpr he,ed_,mj_,ed_,iteO_true,d4_ rfl,d4_ rfl]
        show bnd (Ay_ s.1 s.1) _=_
        rw [mw_,ed_]
      by_cases d4:(ofD r.1 most).2=0
      rotate_left
      · rw [d5_ d4];exact hj
      rw [d4_ d4]
      have rA:r=(fAlt t t,0):=by
        rcases rg with rg|⟨rg,_⟩
        · rw [rg]at d1;exact absurd d1 (by decide)
        exact rg
      have eA:r.1=fAlt t t:=by rw [rA]
      rw [eA]at d4 ⊢
      unfold ofD at d4 ⊢
      by_cases c4:jw_ (fAlt t t)=true∧1≤most∧most≤1024
      rotate_left
      · rw [if_neg c4]at d4;exact absurd d4 (by decide)
      rw [if_pos c4]at d4 ⊢
      have hA:=(fw_ _).1 c4.1
      cases ho2:ofT (fv_ (fAlt t t)) most with
      |inl e=>
        have:=of_err ho2
        rw [ho2]at d4
        have d4:e=0:=d4
        omega
      | inr Rp =>
        obtain ⟨R2,p⟩:=Rp
        have hp:=fun w=>q9_ (uw_ (nr_ hA)) (most:=most) c3.2.1 c3.2.2 ho2 w
        have hpr:d9_ p=true:=(hp []).1
        have he: ∀w,fj_ p w=fj_ q w:=fun w=>by
          have hrel: ∀y,Rel (fv_ (fAlt t t)) w y↔Rel (fv_ t) w y:=fun y=>by
            rw [r3_ hA,r3_ ht,rel_alt ht ht]
            exact or_self_iff
          obtain ⟨u1,u2⟩:=(hp w).2.uniq hrel (happ w).2
          exact yk_ hq hpr u1 u2
        show bnd (B3_ p) _=_
        rw [u5_ x2 x4 d3 hpr he,ed_,d5_ (show ¬ (0:Int)≠0 by decide)]
        show bnd (Ay_ s.1 s.1) _=_
        rw [mw_,ed_,gk_]
        show Ah_ (ofD (jr_ q).1 most) s=some true
        exact hj
end Go.Proofs.YtchebnpdnfhenaaGreatDoor
end

noncomputable section
namespace Go.E
open Go Go.RowKit
def ly_(w:World):d0_:=fun b=>w.heap[b]?
theorem t6_(w:World):Reach w [] (ly_ w) (ly_ w) w []:=
  ⟨rfl,rfl,rfl,Nat.le_refl _,fun _ _ _=>rfl,d0_.le.refl _,fun _ _ h=>h,fun _ _ h=> .inl h,by simp,by simp,by simp [fq_],by simp,Nat.le_refl _⟩
theorem ws_(w:World)(a:Addr):(ly_ w).cell a=w.cell? a:=by
  unfold d0_.cell World.cell? ly_
  cases w.heap[a.block]? with
  |none=>rfl
  |some o=>cases o<;>rfl
theorem Con.below{P:Program}{f:FuncId}{args:Array Value}{w:World}{v:Value}(h:Con P f args (ly_ w) [] (fd_ v (ly_ w))):
    Calls P f args w fun e w'=>e= .returned v∧Below w.heap.size w w':=
  (h w (t6_ w)).mono fun e w' ⟨r,σ',H',he,⟨h1,h2,h3⟩,k⟩=>⟨by rw [he,h1],⟨k.os,k.tape,k.output,k.size,fun i hi=>k.frame i hi (by simp)⟩⟩
def kf_(l:List Nat):Prop:= ∀x∈l,x≤140737488351232
theorem kf_.left{a b:List Nat}(h:kf_ (a++b)):kf_ a:=fun x hx=>h x (List.mem_append_left _ hx)
theorem kf_.right{a b:List Nat}(h:kf_ (a++b)):kf_ b:=fun x hx=>h x (List.mem_append_right _ hx)
theorem small_of{l:List Nat}(h:l.all (· ≤reachBytes)=true):kf_ l:=fun x hx=>by
  have:=List.all_eq_true.1 h x hx
  exact dt_ this
def Opn(P:Program)(w:World)(T:TypeId){α:Type}(ok:List Value→α→Prop):Prop:=
  ∀{H:Type} (enc:TypeId×Value→H) (held:Bool) (fuel:Nat) (cs:List Value) (d:DataW H) (ps:List MemPlace),DataW.trod enc P w 0 (fun _=>true) held fuel T cs=some (d,ps)→kf_ (DataW.weights P T d)→ ∃x,ok cs x
section
variable {P:Program} {w:World} {T E:TypeId}
theorem Opn.mono{α β:Type}{ok:List Value→α→Prop}{ok':List Value→β→Prop}(h:Opn P w T ok)(f:α→β)(hf: ∀cs x,ok cs x→ok' cs (f x)):Opn P w T ok':=fun enc held fuel cs d ps ht hs=>
  let ⟨x,hx⟩:=h enc held fuel cs d ps ht hs;⟨f x,hf cs x hx⟩
theorem Opn.int{k:IntKind}(hT:P.underlying T=some (.int k)):Opn P w T (fun cs (x:Int)=>cs=[.int k x]∧(Lit.int k x).wf=true):=fun enc held fuel cs d ps ht _=>by
  obtain ⟨n,h,_,hw⟩:=DataW.trod_int hT ht
  exact ⟨n,h,hw⟩
theorem Opn.bool(hT:P.underlying T=some .bool):Opn P w T (fun cs (x:Bool)=>cs=[.bool x]):=fun enc held fuel cs d ps ht _=>by
  obtain ⟨n,h,_⟩:=DataW.trod_bool hT ht
  exact ⟨n,h⟩
theorem Opn.str(hT:P.underlying T=some .string):Opn P w T (fun cs (x:List UInt8)=>cs=[.string (bs x)]∧x.length≤140737488351232):=fun enc held fuel cs d ps ht hs=>by
  obtain ⟨s,h,hx,hw⟩:=DataW.trod_string hT ht
  simp only [Prod.mk.injEq]at hx
  obtain ⟨rfl,rfl⟩:=hx
  exact ⟨s.data.toList,by rw [h,←bs_of],hs _ (by simp [DataW.weights])⟩
theorem k9_ {α β : Type} {f : α → Option β} : ∀ {l : List α} {r : List β}, l.mapM f = some r → r.length = l.length ∧ ∀ (i : Nat) (x : α), l[i]? = some x → ∃ y : β, r[i]? = some y ∧ f x = some y
  |[],r,h=>by simp at h;subst h;exact ⟨rfl,fun i x hx=>by simp at hx⟩
  | a :: l, r, h => by
    rw [List.mapM_cons]at h
    cases hf:f a with
    |none=>rw [hf]at h;cases h
    |some y=>
      cases hm:l.mapM f with
      |none=>rw [hf,hm]at h;cases h
      |some r'=>
        rw [hf,hm]at h
        cases h
        obtain ⟨h1,h2⟩:=k9_ hm
        refine ⟨by simp [h1],fun i x hx=> ?_⟩
        cases i with
        |zero=>simp at hx;subst hx;exact ⟨y,rfl,hf⟩
        |succ i=>simp at hx;simpa using h2 i x hx
theorem mb_{H:Type}{ts:List TypeId}{ds:List (DataW H)}{i:Nat}{t:TypeId}{d:DataW H}(ht:ts[i]? =some t)(hd:ds[i]? =some d)(hs:kf_ (DataW.weightsEach P ts ds)):kf_ (DataW.weights P t d):=by
  induction ts generalizing i ds with
  |nil=>simp at ht
  |cons t' ts ih=>
    cases ds with
    |nil=>simp at hd
    |cons d' ds=>
      simp only [DataW.weightsEach]at hs
      cases i with
      |zero=>simp at ht hd;subst ht hd;exact hs.left
      |succ i=>simp at ht hd;exact ih ht hd hs.right
theorem k4_{H:Type}{ds:List (DataW H)}{i:Nat}{d:DataW H}(hd:ds[i]? =some d)(hs:kf_ (DataW.weightsAll P E ds)):kf_ (DataW.weights P E d):=by
  induction ds generalizing i with
  |nil=>simp at hd
  |cons d' ds ih=>
    simp only [DataW.weightsAll]at hs
    cases i with
    |zero=>simp at hd;subst hd;exact hs.left
    |succ i=>simp at hd;exact ih hd hs.right
theorem kx_{H:Type}{enc:TypeId×Value→H}{held:Bool}{fuel:Nat}{cs:List Value}{d:DataW H}{ps:List MemPlace}{fs:Array Field}(hT:P.underlying T=some (.struct fs))(h:DataW.trod enc P w 0 (fun _=>true) held fuel T cs=some (d,ps))(hs:kf_ (DataW.weights P T d)):
    cs.length=P.cellsOf T∧ ∀(i:Nat) (f:Field) {α:Type} {ok:List Value→α→Prop},fs.toList[i]? =some f→Opn P w f.type ok→ ∃x,ok ((cs.drop f.offset).take (P.cellsOf f.type)) x:=by
  cases fuel with
  |zero=>simp [DataW.trod]at h
  |succ fuel=>
    unfold DataW.trod at h
    rw [hT]at h
    simp only at h
    split at h
    · rename_i hl
      refine ⟨hl,fun i f α ok hf ho=> ?_⟩
      rw [Option.map_eq_some_iff]at h
      obtain ⟨xs,h1,h2⟩:=h
      simp only [Prod.mk.injEq]at h2
      obtain ⟨rfl,rfl⟩:=h2
      obtain ⟨h3,h4⟩:=k9_ h1
      obtain ⟨y,h5,h6⟩:=h4 i f hf
      refine ho enc held fuel _ y.1 y.2 h6 ?_
      simp only [DataW.weights,hT]at hs
      exact mb_ (i:=i) (by simp [hf]) (by simp [h5]) hs
    cases h
theorem wu_{H:Type}{enc:TypeId×Value→H}{held:Bool}{fuel n:Nat}{cs:List Value}{d:DataW H}{ps:List MemPlace}(hT:P.underlying T=some (.array n E))(h:DataW.trod enc P w 0 (fun _=>true) held fuel T cs=some (d,ps))(hs:kf_ (DataW.weights P T d)):
    cs.length=P.cellsOf T∧ ∀(i:Nat) {α:Type} {ok:List Value→α→Prop},i<n→Opn P w E ok→ ∃x,ok ((cs.drop (i * P.cellsOf E)).take (P.cellsOf E)) x:=by
  cases fuel with
  |zero=>simp [DataW.trod]at h
  |succ fuel=>
    unfold DataW.trod at h
    rw [hT]at h
    simp only at h
    split at h
    · rename_i hl
      refine ⟨hl,fun i α ok hi ho=> ?_⟩
      rw [Option.map_eq_some_iff]at h
      obtain ⟨xs,h1,h2⟩:=h
      simp only [Prod.mk.injEq]at h2
      obtain ⟨rfl,rfl⟩:=h2
      obtain ⟨h3,h4⟩:=k9_ h1
      obtain ⟨y,h5,h6⟩:=h4 i i (by rw [List.getElem?_range hi])
      refine ho enc held fuel _ y.1 y.2 h6 ?_
      simp only [DataW.weights,hT]at hs
      exact k4_ (i:=i) (by simp [h5]) hs
    cases h
theorem list4{cs:List Value}(h:cs.length=4): ∃a b c d,cs=[a,b,c,d]:=by
  match cs,h with
  |[a,b,c,d],_=>exact ⟨a,b,c,d,rfl⟩
theorem vr_{x:Int}(h:(Lit.int .u64 x).wf=true): ∃n:Nat,x=(n:Int)∧n<18446744073709551616:=by
  have h1:IntKind.u64.min=0:=rfl
  have h2:IntKind.u64.max=18446744073709551615:=rfl
  simp only [Lit.wf,Bool.and_eq_true,dq_,h1,h2]at h
  exact ⟨x.toNat,by omega,by omega⟩
theorem Opn.set(hT:P.underlying T=some (.array 4 E))(hE:P.underlying E=some (.int .u64))(hc:P.cellsOf T=4)(he:P.cellsOf E=1):Opn P w T (fun cs (s:BSet)=>cs=(setA s).toList):=fun enc held fuel cs d ps ht hs=>by
  obtain ⟨hl,hp⟩:=wu_ hT ht hs
  rw [hc]at hl
  obtain ⟨a,b,c,d,rfl⟩:=list4 hl
  rw [he]at hp
  obtain ⟨x0,h0,w0⟩:=hp 0 (by omega) (Opn.int hE)
  obtain ⟨x1,h1,w1⟩:=hp 1 (by omega) (Opn.int hE)
  obtain ⟨x2,h2,w2⟩:=hp 2 (by omega) (Opn.int hE)
  obtain ⟨x3,h3,w3⟩:=hp 3 (by omega) (Opn.int hE)
  simp at h0 h1 h2 h3
  subst h0 h1 h2 h3
  obtain ⟨n0,rfl,l0⟩:=vr_ w0
  obtain ⟨n1,rfl,l1⟩:=vr_ w1
  obtain ⟨n2,rfl,l2⟩:=vr_ w2
  obtain ⟨n3,rfl,l3⟩:=vr_ w3
  exact ⟨⟨n0,n1,n2,n3,l0,l1,l2,l3⟩,rfl⟩
theorem xo_{a:Addr}{n:Nat}{cs:List Value}(h:w.cells? 0 a n=some cs):cs.length=n∧ ∀j u,cs[j]? =some u→w.cell? (a.add j)=some u:=by
  unfold World.cells? at h
  rw [if_pos (Nat.zero_le _)]at h
  obtain ⟨h1,h2⟩:=k9_ h
  rw [List.length_range]at h1
  refine ⟨h1,fun j u hj=> ?_⟩
  have hlt:j<n:=by have:=(List.getElem?_eq_some_iff.1 hj).1;omega
  obtain ⟨y,h3,h4⟩:=h2 j j (by rw [List.getElem?_range hlt])
  rw [hj]at h3;cases h3;exact h4
theorem g6_(cs:List Value)(a b:Nat):(cs.drop a).take b++cs.drop (a+b)=cs.drop a:=by
  rw [←List.drop_drop];exact List.take_append_drop b (cs.drop a)
theorem Opn.arg{H:Type}{enc:TypeId×Value→H}{α:Type}{ok:List Value→α→Prop}(h:Opn P w T ok){v:Value}{d:DataW H}{ps:List MemPlace}(hd:DataW.Trod enc P w 0 (fun _=>true) true T v d ps)(hs:kf_ (DataW.weights P T d)): ∃x,ok v.cells.toList x:=by
  obtain ⟨fuel,hf⟩:=hd
  exact h enc true fuel _ d ps hf hs
theorem wt_{r:Go.Reach}{b0:Nat}{v:Value}{t:TypeDesc}(hT:P.underlying T=some t)(ht:(∃fs,t= .struct fs)∨ ∃n e,t= .array n e)(h:Value.okWide P w r b0 T v): ∃cs,v= .agg cs:=by
  unfold Value.okWide at h
  rw [hT]at h
  rcases ht with ⟨fs,rfl⟩|⟨n,e,rfl⟩
  · obtain ⟨cs,h1,_⟩:=h;exact ⟨cs,h1⟩
  obtain ⟨cs,h1,_⟩:=h;exact ⟨cs,h1⟩
theorem agg_of{cs:Array Value}{l:List Value}(h:(Value.agg cs).cells.toList=l):Value.agg cs= .agg l.toArray:=by
  subst h;simp [Value.cells]
theorem Opn.sliceG {α : Type} {enc0 : α → List Value} {size : Nat} {good : α → Prop} (hT : P.underlying T = some (.slice E)) (hE : Opn P w E (fun cs x => cs = enc0 x ∧ good x)) (hc : P.cellsOf E = size) (hb : 0 < P.bytesOf E) (hl : ∀ x, (enc0 x).length = size) (h1 : ∀ x, ∀ u ∈ enc0 x, u.oneCell' = true) :
    Opn P w T (fun cs (l:List α)=> ∃a c,cs=[.slice a l.length c]∧RS (ly_ w) size enc0 (.slice a l.length c) l∧ ∀x∈l,good x):=fun enc held fuel cs d ps ht hs=>by
  cases fuel with
  |zero=>simp [DataW.trod]at ht
  |succ fuel=>
    unfold DataW.trod at ht
    rw [hT]at ht
    split at ht
    all_goals (first|(rename_i he;cases he;done)|(rename_i he _;cases he;done)|(cases ht;done)|skip)
    · exact ⟨[],none,0,rfl,RS.nilF _ _ hl,by simp⟩
    rename_i e a len cap he
    cases he
    split at ht
    · rename_i hcap
      rw [Option.bind_eq_some_iff]at ht
      obtain ⟨elems,h2,h3⟩:=ht
      simp only [if_true]at h3
      rw [Option.map_eq_some_iff]at h3
      obtain ⟨rest,h4,h5⟩:=h3
      simp only [Prod.mk.injEq]at h5
      obtain ⟨rfl,rfl⟩:=h5
      simp only [DataW.weights,hT]at hs
      have hw0:=hs _ (mc_ ..)
      obtain ⟨e1,e2⟩:=k9_ h2
      rw [List.length_range]at e1
      simp only [List.length_map]at hw0
      have hlen:len≤140737488351232:=by
        have:len * 1≤(elems.length+rest.length) * P.bytesOf E:=Nat.mul_le_mul (by omega) hb
        omega
      have hx: ∀i,i<len→ ∃x:α,w.cells? 0 (a.add (i * size)) size=some (enc0 x)∧good x:=fun i hi=>by
        obtain ⟨y,h6,h7⟩:=e2 i i (by rw [List.getElem?_range hi])
        rw [hc,Option.bind_eq_some_iff]at h7
        obtain ⟨cs,h8,h9⟩:=h7
        have hsm:kf_ (DataW.weights P E y.1):=k4_ (i:=i) (ds:=elems.map (·.1)) (by simp [h6]) (fun x hx=>hs x (mm_ _ (List.mem_append_left _ hx)))
        obtain ⟨x,rfl,hg⟩:=hE enc held fuel cs y.1 y.2 h9 hsm
        exact ⟨x,h8,hg⟩
      have hlist: ∀n,n≤len→ ∃l:List α,l.length=n∧(∀i x,l[i]? =some x→w.cells? 0 (a.add (i * size)) size=some (enc0 x))∧ ∀x∈l,good x:=by
        intro n
        induction n with
        |zero=>intro _;exact ⟨[],rfl,fun i x h=>(by simp at h),by simp⟩
        |succ n ih=>
          intro hn
          obtain ⟨l,g1,g2,g3⟩:=ih (by omega)
          obtain ⟨x,hx,hgx⟩:=hx n (by omega)
          refine ⟨l++[x],by simp [g1],fun i y hy=> ?_,fun y hy=>by
            rw [List.mem_append,mo_]at hy
            rcases hy with hy|rfl
            · exact g3 y hy
            exact hgx⟩
          rw [List.getElem?_append]at hy
          split at hy
          · exact g2 i y hy
          rename_i hi
          have:i=n:=by
            have:=(List.getElem?_eq_some_iff.1 hy).1
            simp at this;omega
          subst this
          simp [g1]at hy;subst hy;exact hx
      obtain ⟨l,g1,g2,g3⟩:=hlist len (Nat.le_refl _)
      subst g1
      refine ⟨l,some a,cap,rfl,⟨⟨⟨_,_,rfl,by simp,hcap.2.1⟩,eg_ hl l,?_,fun u hu=> ?_,by omega⟩,hl⟩,g3⟩
      · intro a' m c' hv j u hj
        cases hv
        rw [ws_]
        by_cases h0:size=0
        · have:(l.flatMap enc0).length=0:=by rw [eg_ hl,h0,Nat.mul_zero]
          rw [List.getElem?_eq_none (by omega)]at hj;cases hj
        have hpos:0<size:=Nat.pos_of_ne_zero h0
        have hjl:j<l.length * size:=by have:=(List.getElem?_eq_some_iff.1 hj).1;rwa [eg_ hl]at this
        have hq:j / size<l.length:=by rw [Nat.div_lt_iff_lt_mul hpos];exact hjl
        have hr:j % size<size:=Nat.mod_lt _ hpos
        have hx:=g2 (j / size) l[j / size] (List.getElem?_eq_getElem hq)
        have hj':j=j / size * size+j % size:=by rw [Nat.mul_comm];exact (Nat.div_add_mod j size).symm
        rw [hj',gx_ hl l _ _ _ (List.getElem?_eq_getElem hq) hr]at hj
        have:=(xo_ hx).2 _ _ hj
        rw [l3_]at this
        rw [hj'];exact this
      rw [List.mem_flatMap]at hu
      obtain ⟨x,_,hx⟩:=hu
      exact h1 x u hx
    cases ht
theorem Opn.slice{α:Type}{enc0:α→List Value}{size:Nat}(hT:P.underlying T=some (.slice E))(hE:Opn P w E (fun cs x=>cs=enc0 x))(hc:P.cellsOf E=size)(hb:0<P.bytesOf E)(hl: ∀x,(enc0 x).length=size)(h1: ∀x, ∀u∈enc0 x,u.oneCell'=true):
    Opn P w T (fun cs (l:List α)=> ∃a c,cs=[.slice a l.length c]∧RS (ly_ w) size enc0 (.slice a l.length c) l):=
  Opn.mono (Opn.sliceG (good:=fun _=>True) hT (Opn.mono hE id fun _ _ h=>⟨h,trivial⟩) hc hb hl h1) id fun _ _ ⟨a,c,h,k,_⟩=>⟨a,c,h,k⟩
def I64(x:Int):Prop:= -9223372036854775808≤x∧x≤9223372036854775807
theorem wf_i64{x:Int}(h:(Lit.int .i64 x).wf=true):I64 x:=by
  have h1:IntKind.i64.min= -9223372036854775808:=rfl
  have h2:IntKind.i64.max=9223372036854775807:=rfl
  simp only [Lit.wf,Bool.and_eq_true,dq_,h1,h2]at h
  exact h
theorem Opn.int64(hT:P.underlying T=some (.int .i64)):Opn P w T (fun cs (x:Int)=>cs=[.int .i64 x]∧I64 x):=Opn.mono (Opn.int hT) id fun _ _ h=>⟨h.1,wf_i64 h.2⟩
end
end Go.E
end

noncomputable section
namespace Go.E
open Go Go.ChangeShapes Go.WideShapes
theorem q2_{α:Type}(l:List α)(i:Nat):((l.drop (i * 1)).take 1)=(l[i]?).toList:=by
  rw [Nat.mul_one]
  cases h:l[i]? with
  |none=>rw [List.drop_of_length_le (by simpa using h)];rfl
  |some x=>
    obtain ⟨hi,rfl⟩:=List.getElem?_eq_some_iff.1 h
    rw [List.drop_eq_getElem_cons hi];rfl
end Go.E
end

noncomputable section
namespace Go.E
open Go Go.ChangeShapes Go.WideShapes
theorem mp_{P:Program}{w:World}{n:String}{d:DataW Unit}: ∀{laid:List (String×DataW Unit)} {ps:List MemPlace},DataW.LaidVars P w laid ps→(n,d)∈laid→
    ∃g t cs fuel p,P.globalNamed n=some g∧(P.globals[g]?).map (·.type)=some t∧w.var? P n=some cs∧DataW.trod (fun _=>()) P w 0 (fun _=>true) false fuel t cs.toList=some (d,p)∧ ∀x∈MemPlace.row ⟨g,0,none⟩ cs.size,x∈ps
  |[],ps,_,hm=>by cases hm
  |(m,e)::r,ps,h,hm=>by
    obtain ⟨g,t,cs,fuel,p,q,h1,h2,h3,h4,h5,h6⟩:=h
    rcases List.mem_cons.1 hm with hm|hm
    · cases hm
      exact ⟨g,t,cs,fuel,p,h1,h2,h3,h4,fun x hx=>by rw [h6];exact List.mem_append_left _ (List.mem_append_left _ hx)⟩
    obtain ⟨g',t',cs',fuel',p',k1,k2,k3,k4,k5⟩:=mp_ h5 hm
    exact ⟨g',t',cs',fuel',p',k1,k2,k3,k4,fun x hx=>by rw [h6];exact List.mem_append_right _ (k5 x hx)⟩
def laidI{H:Type}(k:IntKind)(l:List Int):DataW H:= .agg (l.map fun z=> .lit (.int k z))
theorem p2_ {P : Program} {W : World} {laid : List (String × DataW Unit)} {name : String} {g T E : Nat} {k : IntKind} {l : List Int} (h : laidMetH P laid W) (hpl : (laid.all fun x => x.2.handleName?.isNone) = true) (hm : (name, laidI k l) ∈ laid)
    (hg:P.globalNamed name=some g) (hT:(P.globals[g]?).map (·.type)=some T)
    (hu:P.underlying T=some (.array l.length E)) (hE:P.underlying E=some (.int k)) (hc:P.cellsOf E=1) (hcT:P.cellsOf T=l.length) (hl:0<l.length): ∃t,W.heap[g]? =some (.cells (l.map (Value.int k)).toArray t):=by
  rw [MakeChecks.laidMetH_plain _ _ _ hpl]at h
  obtain ⟨ps,hlv,_,hok⟩:=h
  obtain ⟨g0,t0,cs,fu,p,hg0,ht0,hv0,hd0,hps⟩:=mp_ hlv hm
  obtain rfl:=Option.some.inj (hg.symm.trans hg0)
  obtain rfl:=Option.some.inj (hT.symm.trans ht0)
  obtain ⟨xs,m,rfl,hx,hlen,hn,hel⟩:=DataW.trod_array hu hd0
  rw [hcT]at hlen
  have hx1:xs.map (·.1)=l.map fun z=>(.lit (.int k z):DataW Unit):=by
    have:=congrArg Prod.fst hx
    simp only [laidI,DataW.agg.injEq]at this
    exact this.symm
  have hcs:cs.toList=l.map (Value.int k):=by
    apply List.ext_getElem?
    intro i
    by_cases hi:i<l.length
    · have h1:=hel i hi
      rw [hc,q2_]at h1
      have hxi:i<xs.length:=by omega
      rw [List.getElem?_eq_getElem hxi]at h1
      obtain ⟨z,e1,e2,_⟩:=DataW.trod_int hE h1
      have h2:(xs.map (·.1))[i]? =some (.lit (.int k z)):=by rw [List.getElem?_map,List.getElem?_eq_getElem hxi,e2];rfl
      rw [hx1,List.getElem?_map,List.getElem?_eq_getElem hi]at h2
      simp only [Option.map_some,Option.some.injEq,DataW.lit.injEq,Lit.int.injEq,true_and]at h2
      have h3:cs.toList[i]? =some (.int k z):=by
        cases hz:cs.toList[i]? with
        |none=>rw [hz]at e1;cases e1
        |some y=>rw [hz]at e1;simp at e1;rw [e1]
      rw [h3,List.getElem?_map,List.getElem?_eq_getElem hi,←h2];rfl
    rw [List.getElem?_eq_none (by omega),List.getElem?_eq_none (by rw [List.length_map];omega)]
  have hmem:MemPlace.cell g 0∈ps:=by
    refine hps _ ?_
    simp only [MemPlace.row,List.mem_map,List.mem_range]
    exact ⟨0, by have : cs.size = l.length := by rw [← Array.length_toList, hlen]
                 omega,by simp⟩
  obtain ⟨⟨c,t,hb⟩,_⟩:=hok g 0 hmem
  refine ⟨t,?_⟩
  have hv:W.var? P name=some c:=by unfold World.var?;rw [hg];simp [hb]
  rw [hv0]at hv
  rw [hb,←Option.some.inj hv,←hcs]
theorem laid_gt2{P:Program}{W:World}{laid:List (String×DataW Unit)}{n1 n2:String}{g1 g2 T1 E1 T2 E2:Nat}{d1 d2:DataW Unit}(h:laidMetH P laid W)(hpl:(laid.all fun x=>x.2.handleName?.isNone)=true)(m1:(n1,d1)∈laid)(m2:(n2,d2)∈laid)
    (e1:d1=laidI .u8 (deB.map fun b=>((b.toNat:Nat):Int))) (e2:d2=laidI .u64 (p10.map fun x=>((x:Nat):Int)))
    (hg1:P.globalNamed n1=some g1) (hT1:(P.globals[g1]?).map (·.type)=some T1) (hu1:P.underlying T1=some (.array 64 E1)) (hE1:P.underlying E1=some (.int .u8)) (hc1:P.cellsOf E1=1) (hcT1:P.cellsOf T1=64)
    (hg2:P.globalNamed n2=some g2) (hT2:(P.globals[g2]?).map (·.type)=some T2) (hu2:P.underlying T2=some (.array 20 E2)) (hE2:P.underlying E2=some (.int .u64)) (hc2:P.cellsOf E2=1) (hcT2:P.cellsOf T2=20):GT2 (ly_ W) g1 g2:=by
  subst e1 e2
  refine ⟨?_,?_⟩
  · obtain ⟨t,ht⟩:=p2_ h hpl m1 hg1 hT1 hu1 hE1 hc1 hcT1 (by decide)
    exact ⟨t,ht⟩
  obtain ⟨t,ht⟩:=p2_ h hpl m2 hg2 hT2 hu2 hE2 hc2 hcT2 (by decide)
  exact ⟨t,ht⟩
end Go.E
end

section
/- PushMade: for every input the law returns true, and each argument reads afterwards as it read before. No condition of ours. -/
namespace Go.Proofs.YtchebnpdnfhenaaGreatDoor
open Go Go.E Go.ChangeShapes Go.WideShapes Go.ChangeAt Go.RowKit
theorem ta_ : ownKnob Tryz.prog.godebug = none := by kernel_rfl
theorem jl_ : laidOutB Tryz.prog = true := by kernel_rfl
def hg_ : List (String × DataW Unit) := [("math/bits.deBruijn32tab", Rows.laid_math_bits_deBruijn32tab), ("math/bits.deBruijn64tab", Rows.laid_math_bits_deBruijn64tab), ("internal/strconv.uint64pow10", Rows.laid_internal_strconv_uint64pow10)]
theorem rc_ (os : Os) (args : Array Value) : laidMetH Tryz.prog hg_ ((World.doorLaid Tryz.prog 400 os).forCall (fun _ _ => 0) ⟨#[], args, []⟩).memory :=
  laidMetH_of_parts3 (fuel := 8) (laidMet_of_run' 8 (by kernel_rfl) (by kernel_rfl)) (by kernel_rfl) (by kernel_rfl)
theorem hf_ : Tryz.prog.cellsOf 3 = 1 := by kernel_rfl
theorem ok_ : Tryz.prog.cellsOf 4 = 1 := by kernel_rfl
theorem j5_ : Tryz.prog.cellsOf 9 = 1 := by kernel_rfl
theorem jn_ : Tryz.prog.cellsOf 22 = 1 := by kernel_rfl
theorem na_ : Tryz.prog.cellsOf 23 = 1 := by kernel_rfl
theorem m3_ : Tryz.prog.cellsOf 25 = 4 := by kernel_rfl
theorem nb_ : Tryz.prog.cellsOf 62 = 1 := by kernel_rfl
theorem jo_ : Tryz.prog.cellsOf 64 = 4 := by kernel_rfl
theorem jm_ : Tryz.prog.cellsOf 66 = 8 := by kernel_rfl
theorem jq_ : Tryz.prog.cellsOf 76 = 2 := by kernel_rfl
theorem ne_ : Tryz.prog.bytesOf 66 = 72 := by kernel_rfl
theorem m6_ : Tryz.prog.bytesOf 76 = 24 := by kernel_rfl
theorem h8_ {w : World} : Opn Tryz.prog w 3 (fun cs (x : Int) => cs = [.int .i64 x]) := Opn.mono (Opn.int Tryz.underlying3) id fun cs x h => h.1
theorem ll_ {w : World} : Opn Tryz.prog w 9 (fun cs (x : List UInt8) => cs = [.string (bs x)]) := Opn.mono (Opn.str Tryz.underlying9) id fun cs x h => h.1
theorem pf_ {w : World} : Opn Tryz.prog w 76 (fun cs (x : Tip) => cs = d2_ x) := by
  intro H enc held fuel cs d ps ht hs
  obtain ⟨hl, hp⟩ := kx_ Tryz.underlying76 ht hs
  rw [jq_] at hl
  obtain ⟨x0, h0⟩ := hp 0 _ rfl h8_
  replace h0 : (cs.drop 0).take (Tryz.prog.cellsOf 3) = [.int .i64 x0] := h0
  rw [hf_] at h0
  obtain ⟨x1, h1⟩ := hp 1 _ rfl ll_
  replace h1 : (cs.drop 1).take (Tryz.prog.cellsOf 9) = [.string (bs x1)] := h1
  rw [j5_] at h1
  have e : cs = ((cs.drop 0).take 1 ++ ((cs.drop 1).take 1 ++ cs.drop 2)) := by
    rw [g6_ cs 1 1]; rw [g6_ cs 0 1]; rfl
  rw [h0, h1, List.drop_of_length_le (by omega)] at e
  exact ⟨⟨x0, x1⟩, e⟩
theorem ko_ {w : World} : Opn Tryz.prog w 22 (fun cs (x : List Tip) => ∃ (a0 : Option Addr) (c0 : Nat), cs = [.slice a0 x.length c0] ∧ RS (ly_ w) 2 d2_ (.slice a0 x.length c0) x) := Opn.slice Tryz.underlying22 pf_ jq_ (by rw [m6_]; decide) d1_ fc_
theorem pj_ {w : World} : Opn Tryz.prog w 64 (fun cs (x : BSet) => cs = (setA x).toList) := Opn.set Tryz.underlying64 Tryz.underlying62 jo_ nb_
theorem q8_ {w : World} : Opn Tryz.prog w 4 (fun cs (x : Bool) => cs = [.bool x]) := Opn.bool Tryz.underlying4
theorem po_ {w : World} : Opn Tryz.prog w 66 (fun cs (x : Arc) => cs = d8_ x) := by
  intro H enc held fuel cs d ps ht hs
  obtain ⟨hl, hp⟩ := kx_ Tryz.underlying66 ht hs
  rw [jm_] at hl
  obtain ⟨x0, h0⟩ := hp 0 _ rfl h8_
  replace h0 : (cs.drop 0).take (Tryz.prog.cellsOf 3) = [.int .i64 x0] := h0
  rw [hf_] at h0
  obtain ⟨x1, h1⟩ := hp 1 _ rfl h8_
  replace h1 : (cs.drop 1).take (Tryz.prog.cellsOf 3) = [.int .i64 x1] := h1
  rw [hf_] at h1
  obtain ⟨x2, h2⟩ := hp 2 _ rfl pj_
  replace h2 : (cs.drop 2).take (Tryz.prog.cellsOf 64) = (setA x2).toList := h2
  rw [jo_] at h2
  obtain ⟨x3, h3⟩ := hp 3 _ rfl ll_
  replace h3 : (cs.drop 6).take (Tryz.prog.cellsOf 9) = [.string (bs x3)] := h3
  rw [j5_] at h3
  obtain ⟨x4, h4⟩ := hp 4 _ rfl q8_
  replace h4 : (cs.drop 7).take (Tryz.prog.cellsOf 4) = [.bool x4] := h4
  rw [ok_] at h4
  have e : cs = ((cs.drop 0).take 1 ++ ((cs.drop 1).take 1 ++ ((cs.drop 2).take 4 ++ ((cs.drop 6).take 1 ++ ((cs.drop 7).take 1 ++ cs.drop 8))))) := by
    rw [g6_ cs 7 1]; rw [g6_ cs 6 1]; rw [g6_ cs 2 4]; rw [g6_ cs 1 1]; rw [g6_ cs 0 1]; rfl
  rw [h0, h1, h2, h3, h4, List.drop_of_length_le (by omega)] at e
  exact ⟨⟨x0, x1, x2, x3, x4⟩, e⟩
theorem pt_ {w : World} : Opn Tryz.prog w 23 (fun cs (x : List Arc) => ∃ (a0 : Option Addr) (c0 : Nat), cs = [.slice a0 x.length c0] ∧ RS (ly_ w) 8 d8_ (.slice a0 x.length c0) x) := Opn.slice Tryz.underlying23 po_ jm_ (by rw [ne_]; decide) ee_ f5_
theorem py_ {w : World} : Opn Tryz.prog w 25 (fun cs (x : Fst) => ∃ (a0 : Option Addr) (c0 : Nat), ∃ (a1 : Option Addr) (c1 : Nat), ∃ (a2 : Option Addr) (c2 : Nat), cs = [.int .i64 x.states, .slice a0 x.starts.length c0, .slice a1 x.ends.length c1, .slice a2 x.arcs.length c2] ∧ RS (ly_ w) 2 d2_ (.slice a0 x.starts.length c0) x.starts ∧ RS (ly_ w) 2 d2_ (.slice a1 x.ends.length c1) x.ends ∧ RS (ly_ w) 8 d8_ (.slice a2 x.arcs.length c2) x.arcs) := by
  intro H enc held fuel cs d ps ht hs
  obtain ⟨hl, hp⟩ := kx_ Tryz.underlying25 ht hs
  rw [m3_] at hl
  obtain ⟨x0, h0⟩ := hp 0 _ rfl h8_
  replace h0 : (cs.drop 0).take (Tryz.prog.cellsOf 3) = [.int .i64 x0] := h0
  rw [hf_] at h0
  obtain ⟨x1, a1_a0, c1_c0, h1, f1_a0⟩ := hp 1 _ rfl ko_
  replace h1 : (cs.drop 1).take (Tryz.prog.cellsOf 22) = [.slice a1_a0 x1.length c1_c0] := h1
  rw [jn_] at h1
  obtain ⟨x2, a2_a0, c2_c0, h2, f2_a0⟩ := hp 2 _ rfl ko_
  replace h2 : (cs.drop 2).take (Tryz.prog.cellsOf 22) = [.slice a2_a0 x2.length c2_c0] := h2
  rw [jn_] at h2
  obtain ⟨x3, a3_a0, c3_c0, h3, f3_a0⟩ := hp 3 _ rfl pt_
  replace h3 : (cs.drop 3).take (Tryz.prog.cellsOf 23) = [.slice a3_a0 x3.length c3_c0] := h3
  rw [na_] at h3
  have e : cs = ((cs.drop 0).take 1 ++ ((cs.drop 1).take 1 ++ ((cs.drop 2).take 1 ++ ((cs.drop 3).take 1 ++ cs.drop 4)))) := by
    rw [g6_ cs 3 1]; rw [g6_ cs 2 1]; rw [g6_ cs 1 1]; rw [g6_ cs 0 1]; rfl
  rw [h0, h1, h2, h3, List.drop_of_length_le (by omega)] at e
  exact ⟨⟨x0, x1, x2, x3⟩, a1_a0, c1_c0, a2_a0, c2_c0, a3_a0, c3_c0, e, f1_a0, f2_a0, f3_a0⟩
theorem o2_ {w : World} : Opn Tryz.prog w 3 (fun cs (x : Int) => cs = [.int .i64 x] ∧ (I64 x)) := Opn.int64 Tryz.underlying3
set_option maxRecDepth 100000 in
theorem n5_ (os : Os) (started : os.Started) (H : Type) (enc : TypeId × Value → H) :
    ReturnsInHanded {} Tryz.checked os 12 .any (fun w args => (Rows.pushMadeSpec.pre enc Tryz.prog Tryz.f12 [] false w args ∧ laidMetH Tryz.prog hg_ w) ∧ sizedMet enc Tryz.prog Tryz.f12 (OpenSpec.ofChange Rows.pushMadeSpec) false w args)
      (Rows.pushMadeSpec.post enc Tryz.prog Tryz.f12 false true false false) := by
  refine returnsInHanded_of_change_and (C := Tryz.checked) (X := fun w _ => laidMetH Tryz.prog hg_ w) (fun _ _ _ hh h => h.of_heap hh) ta_ started (by kernel_rfl) Tryz.func12
    (ChangeSpec.witness_shaped (enc := enc) (C := Tryz.checked) (os := os) (X := fun w _ => laidMetH Tryz.prog hg_ w) false (World.doorLaid Tryz.prog 400 os) #[.agg #[.int .i64 0, .slice none 0 0, .slice none 0 0, .slice none 0 0], .int .i64 0] 8 rfl (World.shaped_of_RefB (by kernel_rfl) (by kernel_rfl)) (by kernel_rfl) (by kernel_rfl) (by kernel_rfl) (rc_ os _)) ?_
  intro W base args ds gs before hval0 hW _ hsz0 hL _
  have hgl := laid_gt2 (P := Tryz.prog) (laid := hg_) (g1 := 1) (g2 := 2) (T1 := 266) (T2 := 274) (by exact hL) (by kernel_rfl) (List.mem_cons_of_mem _ (List.mem_cons_self ..)) (List.mem_cons_of_mem _ (List.mem_cons_of_mem _ (List.mem_cons_self ..))) (by kernel_rfl) (by kernel_rfl) (by kernel_rfl) (by kernel_rfl) (by exact Tryz.underlying266) Tryz.underlying5 (by kernel_rfl) (by kernel_rfl) (by kernel_rfl) (by kernel_rfl) (by exact Tryz.underlying274) Tryz.underlying62 (by kernel_rfl) (by kernel_rfl)
  have hsz1 : (DataW.weightsEach Tryz.prog (Tryz.f12.params.toList ++ Rows.pushMadeSpec.plain.varTypes Tryz.prog) (ds ++ gs)).all (· ≤ reachBytes) = true := hsz0
  have hval : ∀ (j : Nat) t v, Tryz.f12.params[j]? = some t → args[j]? = some v → Value.okWide Tryz.prog W .any base t v := hval0
  have hW' := hW
  obtain ⟨p, q, hA0, hV, rfl, hfz, hnd⟩ := hW
  have hA : DataW.TrodAll enc Tryz.prog W 0 (fun _ => true) true Tryz.f12.params.toList args.toList ds p := hA0
  rw [Tryz.params12] at hA hval hsz1
  have hsm := small_of hsz1
  obtain ⟨v0, vs0, d0, ds0, p0, q0, hargs, rfl, rfl, h0, r0⟩ := trodAll_cons hA
  obtain ⟨v1, vs1, d1, ds1, p1, q1, rfl, rfl, rfl, h1, r1⟩ := trodAll_cons r0
  obtain ⟨rfl, rfl, rfl⟩ := trodAll_nil r1
  obtain rfl : args = #[v0, v1] := by cases args; simp_all
  obtain ⟨rfl, rfl⟩ := trodVars_none hV
  clear hA0 hval0 hsz0 hsz1
  have s0 := mb_ (P := Tryz.prog) (i := 0) rfl rfl hsm
  have k0 := h0
  have lt0 : ∀ x ∈ p0, x.block < W.heap.size := by obtain ⟨m, hm⟩ := k0; exact DataW.trod_lt m _ _ _ hm
  obtain ⟨n0, rfl⟩ := wt_ Tryz.underlying25 (.inl ⟨_, rfl⟩) (hval 0 25 v0 rfl rfl)
  obtain ⟨x0, a0_0, c0_0, a0_1, c0_1, a0_2, c0_2, e0, f0_0, f0_1, f0_2⟩ := py_.arg h0 s0
  replace e0 := agg_of e0
  have g0 : ∀ W', Below W.heap.size W W' → DataW.Trod enc Tryz.prog W' 0 (fun b => decide (b < W.heap.size)) true 25 _ d0 p0 := fun W' bel => Below.trod jl_ (by kernel_rfl) (of_decide_eq_true (by kernel_rfl)) k0 bel lt0
  have s1 := mb_ (P := Tryz.prog) (i := 1) rfl rfl hsm
  have k1 := h1
  have lt1 : ∀ x ∈ p1, x.block < W.heap.size := by obtain ⟨m, hm⟩ := k1; exact DataW.trod_lt m _ _ _ hm
  obtain ⟨n1, rfl⟩ := okWide_int Tryz.underlying3 (hval 1 3 v1 rfl rfl)
  obtain ⟨x1, e1, w1⟩ := o2_.arg h1 s1
  simp only [Value.cells] at e1
  replace e1 := List.head_eq_of_cons_eq e1
  have g1 : ∀ W', Below W.heap.size W W' → DataW.Trod enc Tryz.prog W' 0 (fun b => decide (b < W.heap.size)) true 3 _ d1 p1 := fun W' bel => Below.trod jl_ (by kernel_rfl) (of_decide_eq_true (by kernel_rfl)) k1 bel lt1
  have hcall : Calls Tryz.prog 12 #[.agg ([.int .i64 x0.states, .slice a0_0 x0.starts.length c0_0, .slice a0_1 x0.ends.length c0_1, .slice a0_2 x0.arcs.length c0_2]).toArray, .int .i64 x1] W fun e w' => e = .returned (.bool true) ∧ Below W.heap.size W w' := Con.below (F4_ hgl f0_0 f0_1 f0_2 (uo_ x0 x1))
  have hcall2 : Calls Tryz.prog 12 #[(.agg n0), (.int .i64 n1)] W fun e w' => e = .returned (.bool true) ∧ Below W.heap.size W w' := by
    rw [e0, e1]; exact hcall
  refine hcall2.mono fun e W' ⟨he, bel⟩ => ?_
  subst he
  exact ⟨_, rfl, _, _, _, [], _, [], hW', trodAll_mk1 (shut_bool Tryz.underlying4 _), (trodAll_cons_mk (g0 W' bel) (trodAll_cons_mk (g1 W' bel) trodAll_mk0)), rfl, bel.frame _, fun h => by cases h⟩
theorem r1_ : Rows.pushMadeRow.holds Tryz.pinned (OpenSpec.ofChange Rows.pushMadeSpec) :=
  OpenClaim.holds_of_wide 12 Tryz.f12 rfl rfl rfl rfl rfl rfl rfl ⟨rfl, rfl, rfl, rfl, rfl⟩ rfl rfl rfl rfl rfl (by kernel_rfl) Tryz.func12 (by kernel_rfl)
    (of_decide_eq_true (by kernel_rfl)) (by unfold Func.isWrapper; first | (rw [if_pos (by decide +kernel)]; kernel_rfl) | (rw [if_neg (by decide +kernel)]; exact ⟨rfl, rfl⟩))
    (fun os started H enc _ => n5_ os started H enc)
theorem pushMade_row : Rows.PushMadeSaid := r1_
#print axioms pushMade_row
theorem ps_ : ∀ (j : Nat) (t : TypeId), Tryz.f12.params[j]? = some t → Tryz.prog.wantsStandIn t = false := fun j t ht => by
  rw [Tryz.params12] at ht
  have hm : t ∈ [25, 3] := by simpa using Array.mem_of_getElem? ht
  have hall : ([25, 3].all fun u => !Tryz.prog.wantsStandIn u) = true := by kernel_rfl
  exact (show Tryz.prog.wantsStandIn t = false by simpa using List.all_eq_true.1 hall t hm)
theorem pushMade_holds : Rows.PushMadeCardSaid :=
  Claim7.holds_tied_plain_at .later [] [.data, .data, .data] true (true, "f568851396d7a30d6bc57c5301dc3eaf4fd31757d6a99dca80f817a9aab275e4") true
    pushMade_row (fun _ h => by cases h) (by kernel_rfl) (fun _ h => by cases h) pushMade_row_tie rfl ⟨rfl, rfl⟩ (by kernel_rfl) rfl
    (fun f fn hf hfn => by
      obtain rfl : f = 12 := Option.some.inj ((show Tryz.prog.funcNamed "whittle/whittlelaw22.PushMade" = some 12 by kernel_rfl).symm.trans hf) |>.symm
      obtain rfl : fn = Tryz.f12 := (Option.some.inj (Tryz.func12.symm.trans hfn)).symm
      exact ⟨by kernel_rfl, ps_⟩)
    (by kernel_rfl)
#print axioms pushMade_holds
end Go.Proofs.YtchebnpdnfhenaaGreatDoor
end
