/- PushApart: for every input the law returns true, and each argument reads afterwards as it read before. No condition of ours. -/
import Derived.Test.YtchebnpdnfhenaaGreatDoorBc333143100
import Derived.Test.YtchebnpdnfhenaaGreatDoorB58588d4ec8
import Derived.Test.YtchebnpdnfhenaaGreatDoorB81fe9de1a8
import Derived.Test.YtchebnpdnfhenaaGreatDoorB41e73f49a7
import Derived.Laws.Append
import Derived.KernelRfl
import Derived.ProofKit
import Derived.SizedLaws
import Derived.Below
import Derived.LaidMore
import Derived.OpenShut
import Derived.MakeChecks
import Derived.Test.YtchebnpdnfhenaaGreatDoorRows
import Derived.WalkKit
import Derived.ShutString
import Derived.ChangeOld
import Derived.Test.YtchebnpdnfhenaaGreatDoorTie
import Derived.Test.YtchebnpdnfhenaaGreatDoorCards
import Derived.SevenTiedAt
import Derived.Stop.Joined

set_option linter.unusedVariables false
set_option linter.unusedSimpArgs false
set_option linter.unusedSectionVars false
set_option maxRecDepth 100000
set_option maxHeartbeats 80000000

noncomputable section
namespace Go.Proofs.YtchebnpdnfhenaaGreatDoor
open Go Go.E
def wl_(t:T_1):T_1:=Lib.decDigits t.length++58::t
theorem pf_{t:T_1}(h:t.length≤4096):(wl_ t).length≤4200:=by
  have:=km_ (u:=t.length) (by omega)
  unfold wl_
  simp only [List.length_append,List.length_cons];omega
theorem sg_{t u x y:T_1}(h:wl_ t++x=wl_ u++y):t=u∧x=y:=by
  unfold wl_ at h
  rw [List.append_assoc,List.append_assoc,List.cons_append,List.cons_append]at h
  obtain ⟨h1,h2⟩:=ke_ (hk_ _) (hk_ _) h
  exact List.append_inj h2 (o4_ h1)
theorem p5_{t b:T_1}(h:t.length≤4096)(hb:b.length≤1000000000):Ci_ t ⟨b⟩=some ⟨b++wl_ t⟩:=by
  have hd:=km_ (u:=t.length) (by omega)
  unfold Ci_
  rw [dt_ (by omega),dt_ (by omega),lq_ (by omega),Int.toNat_natCast]
  show bnd (fw_ ⟨b⟩ _) _=_
  rw [oo_ _ _ (by omega) (by omega),ea_]
  show bnd (hg_ ⟨b++Lib.decDigits t.length⟩ 58) _=_
  rw [hp_ _ _ (by rw [List.length_append];omega),ea_]
  show bnd (fw_ ⟨b++Lib.decDigits t.length++[58]⟩ t) _=_
  rw [oo_ _ _ (by omega) (by simp only [List.length_append,List.length_singleton];omega),ea_]
  show some _=some _
  unfold wl_
  simp [List.append_assoc]
def ko_(q:Seq)(s b:Nat):T_1:=if 0≤nxQ q s b then 103::(Lib.decDigits b++58::wl_ (otQ q s b)) else []
def xf_(q:Seq)(s:Nat):T_1:=if nth q.fin s false=true then 101::wl_ (nth q.tail s []) else []
def qn_(q:Seq)(s k:Nat):T_1:=(List.range k).flatMap (ko_ q s)
def j9_(q:Seq)(s:Nat):T_1:=xf_ q s++qn_ q s 256
theorem mu_(q:Seq)(s k:Nat):qn_ q s (k+1)=qn_ q s k++ko_ q s k:=by
  unfold qn_;rw [List.range_succ,List.flatMap_append,List.flatMap_singleton]
theorem qx_{q:Seq}(hq:d0_ q=true){s b:Nat}(hs:s<q.next.length)(hb:b<256):(ko_ q s b).length≤5000:=by
  have h1:=pf_ (mk_ hq hs hb)
  have h2:=km_ (u:=b) (by omega)
  unfold ko_
  split
  · simp only [List.length_cons,List.length_append];omega
  simp
theorem xw_ {q : Seq} (hq : d0_ q = true) {s : Nat} (hs : s < q.next.length) : Ei_ q ((s : Nat) : Int) = some (j9_ q s) := by
  obtain ⟨q1,q2,q3,q4,q5⟩:=dz_ hq
  obtain ⟨r1,r2⟩:=e5_ hq hs
  have hj: ∀E:T_1,E.length≤5000→Cm_ ((s:Nat):Int) q E=some (E++qn_ q s 256):=fun E hE=>by
    unfold Cm_
    rw [dt_ (by omega)]
    refine Exists.elim (eg_ (step:=fun z:T_1×Nat=>Bk_ q ((s:Nat):Int) z.1 z.2) (fun z k=>(z,k)) 256 (fun k z=>z=E++qn_ q s k∧z.length≤5000 * (k+1)) (fun r=>r=E++qn_ q s 256) ?_ ?_ (s0:=E) ⟨by simp [qn_],by omega⟩) (fun r hh_=> ?_)
    · rintro k _ hk ⟨rfl,hl⟩
      left
      have hol:=mk_ hq hs hk
      have hcl:=qx_ hq hs hk
      have hd:=km_ (u:=k) (by omega)
      refine ⟨E++qn_ q s (k+1),?_,rfl,by rw [mu_,←List.append_assoc,List.length_append];omega⟩
      show Bk_ q ((s:Nat):Int) (E++qn_ q s k) k=_
      unfold Bk_ Dg_
      have e1:nth (nth q.next s []) k 0=nxQ q s k:=rfl
      have e2:nth (nth q.outs s []) k []=otQ q s k:=rfl
      rw [Int.toNat_natCast,dv_ (by omega)]
      simp only [e1,e2]
      rw [mu_,←List.append_assoc]
      generalize hB:E++qn_ q s k=B at hl ⊢
      by_cases c:0≤nxQ q s k
      · rw [dv_ c,hp_ _ _ (by omega),ea_,dt_ (by omega),lq_ (by omega),Int.toNat_natCast]
        show bnd (fw_ ⟨B++[103]⟩ _) _=_
        rw [oo_ _ _ (by omega) (by simp only [List.length_append,List.length_singleton];omega),ea_]
        show bnd (hg_ ⟨B++[103]++Lib.decDigits k⟩ 58) _=_
        rw [hp_ _ _ (by simp only [List.length_append,List.length_singleton];omega),ea_,dt_ (by omega),dt_ (by omega)]
        show bnd (Ci_ (otQ q s k) ⟨B++[103]++Lib.decDigits k++[58]⟩) _=_
        rw [p5_ hol (by simp only [List.length_append,List.length_singleton];omega),ea_]
        show some (Sum.inl (_,_))=_
        unfold ko_
        rw [if_pos c]
        simp [List.append_assoc]
      rw [dw_ c]
      unfold ko_
      rw [if_neg c,List.append_nil];rfl
    · rintro _ ⟨rfl,_⟩
      refine ⟨_,?_,rfl⟩
      show Bk_ q ((s:Nat):Int) (E++qn_ q s 256) 256=_
      unfold Bk_ jb_
      rw [Int.toNat_natCast,dw_ (by omega),ea_];rfl
    obtain ⟨h1,rfl⟩:=hh_
    exact h1
  have ht:=(fk_ hq hs).1
  unfold Ei_ j9_ xf_
  rw [dt_ (by omega),Int.toNat_natCast]
  cases nth q.fin s false with
  |true=>
    have:=pf_ ht
    rw [iteO_true,hp_ _ _ (by simp),ea_,dt_ (by omega),p5_ ht (by simp),ea_,if_pos rfl]
    exact hj _ (by simp only [List.length_append,List.length_cons,List.length_nil];omega)
  |false=>
    rw [iteO_false,if_neg (by decide)]
    exact hj [] (by simp)
def m8_(q:Seq)(s:Nat):Nat→Nat→T_1
  |_,0=>[]
  |b,n+1=>ko_ q s b++m8_ q s (b+1) n
theorem u6_(q:Seq)(s b:Nat): ∀n,m8_ q s b n=(List.range' b n).flatMap (ko_ q s)
  |0=>rfl
  |n+1=>by rw [m8_,u6_ q s (b+1) n,List.range'_succ,List.flatMap_cons]
theorem sp_(q:Seq)(s:Nat):qn_ q s 256=m8_ q s 0 256:=by rw [u6_,qn_,List.range_eq_range']
theorem rr_(q:Seq)(s:Nat): ∀n b,m8_ q s b n=[]∨ ∃c X,b≤c∧m8_ q s b n=103::(Lib.decDigits c++58::X)
  |0,_=> .inl rfl
  | n + 1, b => by
    rw [m8_]
    unfold ko_
    by_cases c:0≤nxQ q s b
    · rw [if_pos c]
      exact .inr ⟨b,wl_ (otQ q s b)++m8_ q s (b+1) n,Nat.le_refl _,by simp only [List.cons_append,List.append_assoc]⟩
    rw [if_neg c,List.nil_append]
    rcases rr_ q s n (b+1)with h|⟨d,X,h1,h2⟩
    · exact .inl h
    exact .inr ⟨d,X,by omega,h2⟩
theorem pj_ {q : Seq} {s t : Nat} : ∀ {n b : Nat}, m8_ q s b n = m8_ q t b n → ∀ i, i < n → (0 ≤ nxQ q s (b + i) ↔ 0 ≤ nxQ q t (b + i)) ∧ (0 ≤ nxQ q s (b + i) → otQ q s (b + i) = otQ q t (b + i))
  |0,b,_,i,hi=>absurd hi (Nat.not_lt_zero _)
  | n + 1, b, h, i, hi => by
    have one: ∀{s t:Nat},0≤nxQ q s b→ ¬ 0≤nxQ q t b→m8_ q s b (n+1)≠m8_ q t b (n+1):=fun {s t} c d h=>by
      rw [m8_,m8_]at h
      unfold ko_ at h
      rw [if_pos c,if_neg d,List.nil_append,List.cons_append,List.append_assoc,List.cons_append]at h
      rcases rr_ q t n (b+1)with e|⟨f,X,h1,h2⟩
      · rw [e]at h;cases h
      rw [h2]at h
      obtain ⟨_,h⟩:=List.cons.inj h
      have:=o4_ (ke_ (hk_ _) (hk_ _) h).1
      omega
    by_cases c:0≤nxQ q s b
    · by_cases d:0≤nxQ q t b
      · rw [m8_,m8_]at h
        unfold ko_ at h
        rw [if_pos c,if_pos d,List.cons_append,List.cons_append,List.append_assoc,List.append_assoc,List.cons_append,List.cons_append]at h
        obtain ⟨_,h⟩:=List.cons.inj h
        obtain ⟨h1,h2⟩:=sg_ (ke_ (hk_ _) (hk_ _) h).2
        by_cases e:i=0
        · subst e;exact ⟨⟨fun _=>d,fun _=>c⟩,fun _=>h1⟩
        have:=pj_ h2 (i - 1) (by omega)
        rwa [show b+1+(i - 1)=b+i by omega]at this
      exact absurd h (one c d)
    by_cases d:0≤nxQ q t b
    · exact absurd h.symm (one d c)
    rw [m8_,m8_]at h
    unfold ko_ at h
    rw [if_neg c,if_neg d,List.nil_append,List.nil_append]at h
    by_cases e:i=0
    · subst e;exact ⟨⟨fun k=>absurd k c,fun k=>absurd k d⟩,fun k=>absurd k c⟩
    have:=pj_ h (i - 1) (by omega)
    rwa [show b+1+(i - 1)=b+i by omega]at this
theorem n2_ {q : Seq} (hq : d0_ q = true) {s t : Nat} (hs : s < q.next.length) (ht : t < q.next.length) : j9_ q s = j9_ q t ↔ LikeQ q s t := by
  constructor
  · intro h
    unfold j9_ at h
    rw [sp_,sp_]at h
    have hno: ∀{s t:Nat},nth q.fin s false=true→ ¬ nth q.fin t false=true→xf_ q s++m8_ q s 0 256≠xf_ q t++m8_ q t 0 256:=fun {s t} c d h=>by
      unfold xf_ at h
      rw [if_pos c,if_neg d,List.nil_append,List.cons_append]at h
      rcases rr_ q t 256 0 with e|⟨f,X,_,e⟩
      · rw [e]at h;cases h
      rw [e]at h
      have:=(List.cons.inj h).1
      exact absurd this (by decide)
    have key:nth q.fin s false=nth q.fin t false∧nth q.tail s []=nth q.tail t []∧m8_ q s 0 256=m8_ q t 0 256:=by
      by_cases c:nth q.fin s false=true
      · by_cases d:nth q.fin t false=true
        · unfold xf_ at h
          rw [if_pos c,if_pos d,List.cons_append,List.cons_append]at h
          obtain ⟨h1,h2⟩:=sg_ (List.cons.inj h).2
          exact ⟨c.trans d.symm,h1,h2⟩
        exact absurd h (hno c d)
      by_cases d:nth q.fin t false=true
      · exact absurd h.symm (hno d c)
      unfold xf_ at h
      rw [if_neg c,if_neg d,List.nil_append,List.nil_append]at h
      refine ⟨(Bool.eq_false_iff.2 c).trans (Bool.eq_false_iff.2 d).symm,?_,h⟩
      rcases (fk_ hq hs).2 with e|e
      · exact absurd e c
      rcases (fk_ hq ht).2 with f|f
      · exact absurd f d
      rw [e,f]
    have hrow:=pj_ key.2.2
    refine ⟨key.1,key.2.1,fun b hb=> ?_,fun b hb=> ?_⟩
    · have:=(hrow b hb).1
      rw [Nat.zero_add]at this;omega
    have:=hrow b hb
    rw [Nat.zero_add]at this
    by_cases c:0≤nxQ q s b
    · exact this.2 c
    rw [he_ hq hs hb (by omega),he_ hq ht hb (by have:=this.1;omega)]
  intro h
  unfold j9_ xf_ qn_
  rw [h.fin,h.tail]
  congr 1
  rw [List.flatMap_def,List.flatMap_def,List.map_congr_left fun b hb=> ?_]
  have hb:=List.mem_range.1 hb
  have h1:=h.neg b hb
  unfold ko_
  rw [h.out b hb]
  by_cases c:0≤nxQ q s b
  · rw [if_pos c,if_pos (by omega)]
  rw [if_neg c,if_neg (by omega)]
structure NumI (K:Nat→T_1) (N k:Nat) (L:N_1) (m:FM T_1 Int):Prop where
  len:L.length=N
  rng: ∀s,s<k→0≤nth L s 0∧nth L s 0<((m.n:Nat):Int)
  same: ∀s t,s<k→t<k→(nth L s 0=nth L t 0↔K s=K t)
  onto: ∀i,i<m.n→ ∃s,s<k∧nth L s 0=((i:Nat):Int)
  at': ∀s,s<k→m.f (K s)=some (nth L s 0)
  is: ∀y v,m.f y=some v→ ∃s,s<k∧y=K s
  le:m.n≤k
theorem NumI.nil(K:Nat→T_1){N:Nat}{L:N_1}(h:L.length=N):NumI K N 0 L FM.emp:=
  ⟨h,fun s hs=>absurd hs (Nat.not_lt_zero _),fun s t hs=>absurd hs (Nat.not_lt_zero _),fun i hi=>absurd hi (Nat.not_lt_zero _),fun s hs=>absurd hs (Nat.not_lt_zero _),fun y v h=>(by cases h),Nat.le_refl _⟩
theorem qs_ {K : Nat → T_1} {N k : Nat} {L : N_1} {m : FM T_1 Int} (h : NumI K N k L m) (hk : k < N) (hl : (K k).length ≤ 281474976710656) : ∃ i m', Ce_ ⟨m⟩ (K k) = some (i, ⟨m'⟩) ∧ NumI K N (k + 1) (L.set k i) m' := by
  have hlen:=h.len
  unfold Ce_
  rw [dt_ hl]
  have hold: ∀{i:Int} {s:Nat},s<k→nth (L.set k i) s 0=nth L s 0:=fun {i s} hs=>by rw [d6_,if_neg (fun e=>by omega)]
  have hnew: ∀{i:Int},nth (L.set k i) k 0=i:=fun {i}=>by rw [d6_,if_pos ⟨rfl,by omega⟩]
  cases c:m.f (K k)with
  |some v=>
    have hh:m.has (K k)=true:=by unfold FM.has;rw [c];rfl
    have hg:m.get (K k) 0=v:=by unfold FM.get;rw [c];rfl
    rw [show (⟨m⟩:Numb).places=m from rfl,hh,hg,f3_]
    obtain ⟨s0,hs0,e0⟩:=h.is _ _ c
    have hv:v=nth L s0 0:=by
      have:=h.at' s0 hs0
      rw [←e0,c]at this;exact Option.some.inj this
    have hsame0: ∀s,s<k→(nth L s 0=v↔K s=K k):=fun s hs=>by rw [hv,h.same s s0 hs hs0,e0]
    refine ⟨v,m,rfl,by rw [List.length_set];exact hlen,fun s hs=> ?_,fun s t hs ht=> ?_,fun i hi=> ?_,fun s hs=> ?_,fun y v' hy=> ?_,by have:=h.le;omega⟩
    · by_cases e:s=k
      · subst e;rw [hnew,hv];exact h.rng s0 hs0
      rw [hold (by omega)];exact h.rng s (by omega)
    · by_cases e:s=k
      · subst e
        by_cases f:t=s
        · subst f;exact ⟨fun _=>rfl,fun _=>rfl⟩
        rw [hnew,hold (by omega)]
        have:=hsame0 t (by omega)
        exact ⟨fun g=>(this.1 g.symm).symm,fun g=>(this.2 g.symm).symm⟩
      by_cases f:t=k
      · subst f;rw [hnew,hold (by omega)];exact hsame0 s (by omega)
      rw [hold (by omega),hold (by omega)];exact h.same s t (by omega) (by omega)
    · obtain ⟨s,hs,e⟩:=h.onto i hi
      exact ⟨s,by omega,by rw [hold hs];exact e⟩
    · by_cases e:s=k
      · subst e;rw [hnew];exact c
      rw [hold (by omega)];exact h.at' s (by omega)
    obtain ⟨s,hs,e⟩:=h.is y v' hy
    exact ⟨s,by omega,e⟩
  |none=>
    have hh:m.has (K k)=false:=by unfold FM.has;rw [c];rfl
    rw [show (⟨m⟩:Numb).places=m from rfl,hh,f4_]
    have hne: ∀s,s<k→K s≠K k:=fun s hs e=>by
      have:=h.at' s hs
      rw [e,c]at this;cases this
    have hn:(m.put (K k) ((m.n:Nat):Int)).n=m.n+1:=by unfold FM.put;simp [c]
    have hf: ∀y,(m.put (K k) ((m.n:Nat):Int)).f y=if y=K k then some ((m.n:Nat):Int) else m.f y:=fun y=>rfl
    refine ⟨((m.n:Nat):Int),m.put (K k) ((m.n:Nat):Int),rfl,by rw [List.length_set];exact hlen,fun s hs=> ?_,fun s t hs ht=> ?_,fun i hi=> ?_,fun s hs=> ?_,fun y v' hy=> ?_,by rw [hn];have:=h.le;omega⟩
    · rw [hn]
      by_cases e:s=k
      · subst e;rw [hnew];omega
      rw [hold (by omega)];have:=h.rng s (by omega);omega
    · by_cases e:s=k
      · subst e
        by_cases f:t=s
        · subst f;exact ⟨fun _=>rfl,fun _=>rfl⟩
        rw [hnew,hold (by omega)]
        have:=h.rng t (by omega)
        exact ⟨fun g=>by omega,fun g=>absurd g.symm (hne t (by omega))⟩
      by_cases f:t=k
      · subst f;rw [hnew,hold (by omega)]
        have:=h.rng s (by omega)
        exact ⟨fun g=>by omega,fun g=>absurd g (hne s (by omega))⟩
      rw [hold (by omega),hold (by omega)];exact h.same s t (by omega) (by omega)
    · rw [hn]at hi
      by_cases e:i=m.n
      · exact ⟨k,by omega,by rw [hnew,e]⟩
      obtain ⟨s,hs,e⟩:=h.onto i (by omega)
      exact ⟨s,by omega,by rw [hold hs];exact e⟩
    · rw [hf]
      by_cases e:s=k
      · subst e;rw [hnew,if_pos rfl]
      rw [hold (by omega),if_neg (hne s (by omega))];exact h.at' s (by omega)
    rw [hf]at hy
    by_cases e:y=K k
    · exact ⟨k,by omega,e⟩
    rw [if_neg e]at hy
    obtain ⟨s,hs,e⟩:=h.is y v' hy
    exact ⟨s,by omega,e⟩
def nr_(q:Seq)(L:N_1)(s b:Nat):N_1:=if 0≤nxQ q s b then [nth L (nxQ q s b).toNat 0] else []
def no_(q:Seq)(L:N_1)(s k:Nat):N_1:=nth L s 0::(List.range k).flatMap (nr_ q L s)
theorem in_(q:Seq)(L:N_1)(s k:Nat):no_ q L s (k+1)=no_ q L s k++nr_ q L s k:=by
  unfold no_;rw [List.range_succ,List.flatMap_append,List.flatMap_singleton];rfl
theorem o2_(q:Seq)(L:N_1)(s:Nat): ∀k,(no_ q L s k).length≤k+1
  |0=>by simp [no_]
  |k+1=>by
    have:=o2_ q L s k
    rw [in_,List.length_append]
    unfold nr_
    split<;>simp<;>omega
theorem ot_{q:Seq}{L:N_1}{s t:Nat}(hn: ∀b,b<256→(nxQ q s b<0↔nxQ q t b<0)): ∀k,k≤256→(no_ q L s k=no_ q L t k↔nth L s 0=nth L t 0∧ ∀b,b<k→0≤nxQ q s b→nth L (nxQ q s b).toNat 0=nth L (nxQ q t b).toNat 0)
  |0,_=>by
    unfold no_
    simp
  | k + 1, hk => by
    have ih:=ot_ (L:=L) hn k (by omega)
    have hnk:=hn k (by omega)
    rw [in_,in_]
    have hlc:(nr_ q L s k).length=(nr_ q L t k).length:=by
      unfold nr_
      by_cases c:0≤nxQ q s k
      · rw [if_pos c,if_pos (by omega)];rfl
      rw [if_neg c,if_neg (by omega)]
    constructor
    · intro h
      obtain ⟨h1,h2⟩:=List.append_inj' h hlc
      obtain ⟨h3,h4⟩:=ih.1 h1
      refine ⟨h3,fun b hb h0=> ?_⟩
      by_cases c:b<k
      · exact h4 b c h0
      have:b=k:=by omega
      subst this
      unfold nr_ at h2
      rw [if_pos h0,if_pos (by omega)]at h2
      exact List.head_eq_of_cons_eq h2
    rintro ⟨h1,h2⟩
    rw [ih.2 ⟨h1,fun b hb=>h2 b (by omega)⟩]
    congr 1
    unfold nr_
    by_cases c:0≤nxQ q s k
    · rw [if_pos c,if_pos (by omega),h2 k (by omega) c]
    rw [if_neg c,if_neg (by omega)]
structure PrtI (q:Seq) (L:N_1) (c:Nat):Prop where
  len:L.length=q.next.length
  rng: ∀s,s<q.next.length→0≤nth L s 0∧nth L s 0<((c:Nat):Int)
  onto: ∀i,i<c→ ∃s,s<q.next.length∧nth L s 0=((i:Nat):Int)
  like: ∀s t,s<q.next.length→t<q.next.length→nth L s 0=nth L t 0→LikeQ q s t
  same: ∀s t,s<q.next.length→t<q.next.length→ek_ q s=ek_ q t→nth L s 0=nth L t 0
theorem PrtI.le{q:Seq}{L:N_1}{c:Nat}(h:PrtI q L c):c≤q.next.length:=
  va_ (f:=fun s=>(nth L s 0).toNat) (g:=fun s=>s) (fun k hk=>by obtain ⟨s,h1,h2⟩:=h.onto k hk;exact ⟨s,h1,by show (nth L s 0).toNat=k;omega⟩) (fun s hs=>hs) (fun s t _ _ e=>by rw [e])
structure PrtR (q:Seq) (L:N_1) (c:Nat):Prop where
  len:L.length=q.next.length
  rng: ∀s,s<q.next.length→0≤nth L s 0∧nth L s 0<((c:Nat):Int)
  iff: ∀s t,s<q.next.length→t<q.next.length→(nth L s 0=nth L t 0↔ek_ q s=ek_ q t)
  le:c≤q.next.length
theorem xy_ {q : Seq} (hq : d0_ q = true) (hp : PshQ q) : ∃ L c, Ea_ q = some (L, ((c : Nat) : Int)) ∧ PrtR q L c := by
  obtain ⟨q1,q2,q3,q4,q5⟩:=dz_ hq
  -- one round
  have round: ∀L c,PrtI q L c→ ∃r,B8_ q L c=some r∧((∃L',r= .inr (L',((c:Nat):Int))∧PrtR q L' c)∨ ∃L' c',r= .inl (L',c')∧PrtI q L' c'∧c<c'):=by
    intro L c hI
    have hL:=hI.len
    have hle:=hI.le
    have hsml: ∀s k,s<q.next.length→k≤256→Sml (no_ q L s k):=fun s k hs=>by
      induction k with
      |zero=>intro _ x hx;rw [show no_ q L s 0=[nth L s 0]from rfl,List.mem_singleton]at hx;rw [hx];have:=hI.rng s hs;omega
      |succ k ih=>
        intro hk x hx
        rw [in_,List.mem_append]at hx
        rcases hx with hx|hx
        · exact ih (by omega) x hx
        unfold nr_ at hx
        split at hx
        · rw [List.mem_singleton]at hx
          have h1:=ex_ hq hs (show k<256 by omega)
          have:=hI.rng (nxQ q s k).toNat (by omega)
          rw [hx];omega
        cases hx
    unfold B8_
    rw [dt_ (by omega)]
    refine eg_ (step:=fun z:N_1×(FM T_1 Int)×Nat=>Bl_ L q c z.1 z.2.1 z.2.2) (fun (z:N_1×FM T_1 Int) k=>(z.1,z.2,k)) q.next.length (fun k z=>NumI (fun s=>je_ (no_ q L s 256)) q.next.length k z.1 z.2) _ ?_ ?_ (s0:=(List.replicate L.length 0,FM.emp)) (NumI.nil _ (by simp [hL]))
    · rintro k ⟨M,m⟩ hk hN
      simp only at hN
      left
      have hMl:=hN.len
      obtain ⟨r1,r2⟩:=e5_ hq hk
      have hkl:(je_ (no_ q L k 256)).length≤600:=by rw [mx_];have:=o2_ q L k 256;omega
      obtain ⟨i,m',n1,n2⟩:=qs_ hN hk (by show (je_ (no_ q L k 256)).length≤_;omega)
      show ∃s':N_1×FM T_1 Int,Bl_ L q c M m k=some (.inl (s'.1,s'.2,k+1))∧_
      refine ⟨(M.set k i,m'),?_,n2⟩
      unfold Bl_
      rw [dv_ (by simp only [List.length_replicate];omega),dt_ (by omega),dt_ (by omega),dt_ hk]
      refine Exists.elim (eg_ (step:=fun z:T_1×Nat=>Bi_ q k L m M z.1 z.2) (fun z j=>(z,j)) 256 (fun j z=>z=je_ (no_ q L k j)) (fun r=>r= .inl (M.set k i,m',k+1)) ?_ ?_ (s0:=[ix_ (t4_ .i64 (nth L k 0) 8),ix_ (nth L k 0)]) (by simp [no_,je_,yr_])) (fun r hh_=> ?_)
      · rintro j _ hj rfl
        left
        have h1:=ex_ hq hk hj
        have h3:(je_ (no_ q L k j)).length≤600:=by rw [mx_];have:=o2_ q L k j;omega
        refine ⟨_,?_,rfl⟩
        show Bi_ q k L m M (je_ (no_ q L k j)) j=_
        unfold Bi_ De_
        have e1:nth (nth q.next k []) j 0=nxQ q k j:=rfl
        rw [dv_ (by omega),in_]
        simp only [e1]
        unfold nr_
        by_cases d:0≤nxQ q k j
        · have hg:0≤nxQ q k j∧nxQ q k j<(L.length:Int):=by omega
          rw [dv_ d,dt_ hg,dt_ hg,dt_ (by simp only [List.length_cons,List.length_nil];omega),if_pos d]
          unfold je_
          rw [List.flatMap_append,List.flatMap_singleton];rfl
        rw [dw_ d,if_neg d,List.append_nil];rfl
      · rintro _ rfl
        refine ⟨_,?_,rfl⟩
        show Bi_ q k L m M (je_ (no_ q L k 256)) 256=_
        unfold Bi_
        rw [dw_ (by omega),n1,ea_,dt_ (by omega)];rfl
      obtain ⟨h1,rfl⟩:=hh_
      exact h1
    rintro ⟨M,m⟩ hN
    simp only at hN
    have hiff: ∀s t,s<q.next.length→t<q.next.length→(nth M s 0=nth M t 0↔no_ q L s 256=no_ q L t 256):=fun s t hs ht=>by
      rw [hN.same s t hs ht]
      exact ⟨q1_ (hsml s 256 hs (Nat.le_refl _)) (hsml t 256 ht (Nat.le_refl _)),fun e=>by rw [e]⟩
    have hfine: ∀s t,s<q.next.length→t<q.next.length→nth M s 0=nth M t 0→nth L s 0=nth L t 0:=fun s t hs ht e=>by
      have:=(hiff s t hs ht).1 e
      unfold no_ at this
      exact (List.cons.inj this).1
    have hsame: ∀s t,s<q.next.length→t<q.next.length→ek_ q s=ek_ q t→nth M s 0=nth M t 0:=fun s t hs ht e=>by
      have hlk:=v2_ hp hq hs ht e
      rw [hiff s t hs ht,ot_ hlk.neg 256 (Nat.le_refl _)]
      refine ⟨hI.same s t hs ht e,fun b hb h0=> ?_⟩
      obtain ⟨k1,_,k3⟩:=gj_ hp hp hs ht hb e h0
      have h1:=ex_ hq hs hb
      have h2:=ex_ hq ht hb
      exact hI.same _ _ (by omega) (by omega) k3
    have hcc:c≤m.n:=va_ (n:=q.next.length) (f:=fun s=>(nth L s 0).toNat) (g:=fun s=>(nth M s 0).toNat) (fun k hk=>by obtain ⟨s,h1,h2⟩:=hI.onto k hk;exact ⟨s,h1,by show (nth L s 0).toNat=k;omega⟩) (fun s hs=>by have:=hN.rng s hs;show (nth M s 0).toNat<_;omega) (fun s t hs ht e=>by
      have h1:=hN.rng s hs
      have h2:=hN.rng t ht
      have e:(nth M s 0).toNat=(nth M t 0).toNat:=e
      show (nth L s 0).toNat=(nth L t 0).toNat
      rw [hfine s t hs ht (by omega)])
    show ∃r,Bl_ L q c M m q.next.length=some (.inr r)∧_
    unfold Bl_
    rw [dw_ (by simp only [List.length_replicate];omega)]
    by_cases e:m.n=c
    · rw [dv_ (by omega)]
      refine ⟨_,rfl,.inl ⟨M,rfl,hN.len,fun s hs=>by have:=hN.rng s hs;omega,fun s t hs ht=>⟨fun h=> ?_,hsame s t hs ht⟩,hle⟩⟩
      have hback: ∀s t,s<q.next.length→t<q.next.length→nth L s 0=nth L t 0→nth M s 0=nth M t 0:=fun s t hs ht e'=>by
        have h1:=hN.rng s hs
        have h2:=hN.rng t ht
        have:=pigeon (n:=q.next.length) (c:=c) (f:=fun s=>(nth L s 0).toNat) (g:=fun s=>(nth M s 0).toNat) (fun k hk=>by obtain ⟨s,h1,h2⟩:=hI.onto k hk;exact ⟨s,h1,by show (nth L s 0).toNat=k;omega⟩) (fun s hs=>by have:=hN.rng s hs;show (nth M s 0).toNat<_;omega) (fun s t hs ht e=>by
          have h1:=hN.rng s hs
          have h2:=hN.rng t ht
          have e:(nth M s 0).toNat=(nth M t 0).toNat:=e
          show (nth L s 0).toNat=(nth L t 0).toNat
          rw [hfine s t hs ht (by omega)]) hs ht (by show (nth L s 0).toNat=(nth L t 0).toNat;rw [e'])
        have this:(nth M s 0).toNat=(nth M t 0).toNat:=this
        omega
      refine funext fun w=>zp_ (n:=q.next.length) (fun s b hs hb=>ex_ hq hs hb) (R:=fun s t=>nth M s 0=nth M t 0) (fun s t hs ht h=>hI.like s t hs ht (hfine s t hs ht h)) (fun s t b hs ht h hb h0=> ?_) w s t hs ht h
      have hlk:=hI.like s t hs ht (hfine s t hs ht h)
      have h1:=ex_ hq hs hb
      have h2:=ex_ hq ht hb
      have h3:=hlk.neg b hb
      exact hback _ _ (by omega) (by omega) (((ot_ hlk.neg 256 (Nat.le_refl _)).1 ((hiff s t hs ht).1 h)).2 b hb h0)
    rw [dw_ (by omega)]
    exact ⟨_,rfl,.inr ⟨M,m.n,rfl,⟨hN.len,hN.rng,hN.onto,fun s t hs ht h=>hI.like s t hs ht (hfine s t hs ht h),hsame⟩,by omega⟩⟩
  unfold Ea_
  rw [dt_ (by omega)]
  refine Exists.elim (eg_ (step:=fun z:N_1×(FM T_1 Int)×Nat=>Bg_ q z.1 z.2.1 z.2.2) (fun (z:N_1×FM T_1 Int) k=>(z.1,z.2,k)) q.next.length (fun k z=>NumI (j9_ q) q.next.length k z.1 z.2) (fun r=> ∃L c,r=(L,((c:Nat):Int))∧PrtR q L c) ?_ ?_ (s0:=(List.replicate q.next.length 0,FM.emp)) (NumI.nil _ (by simp))) (fun r hh_=> ?_)
  · rintro k ⟨M,m⟩ hk hN
    simp only at hN
    left
    have hMl:=hN.len
    have hlen:(j9_ q k).length≤281474976710656:=by
      have h1: ∀j,j≤256→(qn_ q k j).length≤5000 * j:=fun j=>by
        induction j with
        |zero=>intro _;simp [qn_]
        |succ j ih=>
          intro hj
          have:=ih (by omega)
          have:=qx_ hq hk (show j<256 by omega)
          rw [mu_,List.length_append];omega
      have h2:=h1 256 (Nat.le_refl _)
      have h3:=pf_ (fk_ hq hk).1
      unfold j9_ xf_
      rw [List.length_append]
      split
      · rw [List.length_cons];omega
      rw [List.length_nil];omega
    obtain ⟨i,m',n1,n2⟩:=qs_ hN hk hlen
    show ∃s':N_1×FM T_1 Int,Bg_ q M m k=some (.inl (s'.1,s'.2,k+1))∧_
    refine ⟨(M.set k i,m'),?_,n2⟩
    unfold Bg_
    rw [dv_ (by simp only [List.length_replicate];omega),xw_ hq hk,ea_,n1,ea_,dt_ (by omega)];rfl
  · rintro ⟨M,m⟩ hN
    simp only at hN
    show ∃r,Bg_ q M m q.next.length=some (.inr r)∧_
    have h0:PrtI q M m.n:=⟨hN.len,hN.rng,hN.onto,fun s t hs ht h=>(n2_ hq hs ht).1 ((hN.same s t hs ht).1 h),fun s t hs ht h=>(hN.same s t hs ht).2 ((n2_ hq hs ht).2 (v2_ hp hq hs ht h))⟩
    obtain ⟨r,k1,k2⟩:=l0_ (step:=fun z:N_1×Nat=>B8_ q z.1 z.2) (fun z=>PrtI q z.1 z.2) (fun z=>q.next.length - z.2) (fun r=> ∃L c,r=(L,((c:Nat):Int))∧PrtR q L c) (fun ⟨L,c⟩ hI=>by
      obtain ⟨r,r1,r2⟩:=round L c hI
      rcases r2 with ⟨L',rfl,r3⟩|⟨L',c',rfl,r3,r4⟩
      · exact .inr ⟨_,r1,L',c,rfl,r3⟩
      refine .inl ⟨_,r1,r3,?_⟩
      have:=r3.le
      show q.next.length - c'<q.next.length - c
      omega) (t:=(M,m.n)) h0
    refine ⟨r,?_,k2⟩
    unfold Bg_
    rw [dw_ (by simp only [List.length_replicate];omega),k1];rfl
  obtain ⟨h1,L,c,rfl,h2⟩:=hh_
  exact ⟨L,c,h1,h2⟩
end Go.Proofs.YtchebnpdnfhenaaGreatDoor
end

noncomputable section
namespace Go.Proofs.YtchebnpdnfhenaaGreatDoor
open Go Go.E
structure BfI (q:Seq) (cl:Nat→Int) (st:N_1) (V:Nat→Int) (code:Nat):Prop where
  pos:0<st.length
  rng: ∀i,i<st.length→0≤nth st i 0∧nth st i 0<(q.next.length:Int)
  zero:cl (nth st 0 0).toNat=cl 0
  neg: ∀c,c<code→nxQ q (nth st (c / 256) 0).toNat (c % 256)<0→V c= -1
  val: ∀c,c<code→0≤nxQ q (nth st (c / 256) 0).toNat (c % 256)→ ∃j:Nat,j<st.length∧V c=((j:Nat):Int)∧cl (nth st j 0).toNat=cl (nxQ q (nth st (c / 256) 0).toNat (c % 256)).toNat
  dist: ∀i j,i<st.length→j<st.length→cl (nth st i 0).toNat=cl (nth st j 0).toNat→i=j
  first: ∀c j,c<code→V c=((j:Nat):Int)→ ∀k,0<k→k<j→ ∃c',c'<c∧V c'=((k:Nat):Int)
  come: ∀j,0<j→j<st.length→ ∃c,c<code∧c<j * 256∧V c=((j:Nat):Int)
def upd(V:Nat→Int)(c:Nat)(x:Int):Nat→Int:=fun d=>if d=c then x else V d
theorem m5_(V:Nat→Int)(c:Nat)(x:Int):upd V c x c=x:=if_pos rfl
theorem gp_(V:Nat→Int){c d:Nat}(x:Int)(h:d<c):upd V c x d=V d:=if_neg (by omega)
section
variable {q:Seq} {cl:Nat→Int} {st:N_1} {V:Nat→Int} {code:Nat}
theorem BfI.init{q:Seq}{cl:Nat→Int}(V:Nat→Int){z:Int}(hz:0≤z∧z<(q.next.length:Int))(hcl:cl z.toNat=cl 0):BfI q cl [z] V 0:=by
  have h0: ∀i,i<([z]:N_1).length→i=0:=fun i hi=>by rw [List.length_singleton]at hi;omega
  refine ⟨by simp,fun i hi=> ?_,hcl,fun c hc=>absurd hc (Nat.not_lt_zero _),fun c hc=>absurd hc (Nat.not_lt_zero _),fun i j hi hj _=>by rw [h0 i hi,h0 j hj],fun c j hc=>absurd hc (Nat.not_lt_zero _),fun j hj hj2=> ?_⟩
  · rw [h0 i hi];exact hz
  have:=h0 j hj2;omega
theorem BfI.skip(h:BfI q cl st V code)(hn:nxQ q (nth st (code / 256) 0).toNat (code % 256)<0):BfI q cl st (upd V code (-1)) (code+1):=by
  refine ⟨h.pos,h.rng,h.zero,fun c hc hc2=> ?_,fun c hc hc2=> ?_,h.dist,fun c j hc hv k hk hkj=> ?_,fun j hj hj2=> ?_⟩
  · by_cases e:c=code
    · rw [e,m5_]
    rw [gp_ _ _ (by omega)];exact h.neg c (by omega) hc2
  · by_cases e:c=code
    · subst e;omega
    rw [gp_ _ _ (by omega)];exact h.val c (by omega) hc2
  · by_cases e:c=code
    · rw [e,m5_]at hv;omega
    rw [gp_ _ _ (by omega)]at hv
    obtain ⟨c',h1,h2⟩:=h.first c j (by omega) hv k hk hkj
    exact ⟨c',h1,by rw [gp_ _ _ (by omega)];exact h2⟩
  obtain ⟨c,h1,h2,h3⟩:=h.come j hj hj2
  exact ⟨c,by omega,h2,by rw [gp_ _ _ h1];exact h3⟩
theorem BfI.old(h:BfI q cl st V code)(h0:0≤nxQ q (nth st (code / 256) 0).toNat (code % 256)){j:Nat}(hj:j<st.length)(hcl:cl (nth st j 0).toNat=cl (nxQ q (nth st (code / 256) 0).toNat (code % 256)).toNat):BfI q cl st (upd V code ((j:Nat):Int)) (code+1):=by
  refine ⟨h.pos,h.rng,h.zero,fun c hc hc2=> ?_,fun c hc hc2=> ?_,h.dist,fun c i hc hv k hk hkj=> ?_,fun i hi hi2=> ?_⟩
  · by_cases e:c=code
    · subst e;omega
    rw [gp_ _ _ (by omega)];exact h.neg c (by omega) hc2
  · by_cases e:c=code
    · subst e;exact ⟨j,hj,m5_ _ _ _,hcl⟩
    rw [gp_ _ _ (by omega)];exact h.val c (by omega) hc2
  · by_cases e:c=code
    · rw [e,m5_]at hv
      obtain ⟨c',h1,_,h3⟩:=h.come k hk (by omega)
      exact ⟨c',by omega,by rw [gp_ _ _ h1];exact h3⟩
    rw [gp_ _ _ (by omega)]at hv
    obtain ⟨c',h1,h2⟩:=h.first c i (by omega) hv k hk hkj
    exact ⟨c',h1,by rw [gp_ _ _ (by omega)];exact h2⟩
  obtain ⟨c,h1,h2,h3⟩:=h.come i hi hi2
  exact ⟨c,by omega,h2,by rw [gp_ _ _ h1];exact h3⟩
theorem BfI.new(h:BfI q cl st V code)(hc:code<st.length * 256)(h0:0≤nxQ q (nth st (code / 256) 0).toNat (code % 256)){z:Int}(hz:0≤z∧z<(q.next.length:Int))(hcl:cl z.toNat=cl (nxQ q (nth st (code / 256) 0).toNat (code % 256)).toNat)
    (hnew: ∀j,j<st.length→cl (nth st j 0).toNat≠cl (nxQ q (nth st (code / 256) 0).toNat (code % 256)).toNat):BfI q cl (st++[z]) (upd V code ((st.length:Nat):Int)) (code+1):=by
  have hold: ∀i,i<st.length→nth (st++[z]) i 0=nth st i 0:=fun i hi=>f7_ hi _
  have hat:nth (st++[z]) st.length 0=z:=gi_ _ _ _
  have hlen:(st++[z]).length=st.length+1:=by simp
  have hp:=h.pos
  have hrow: ∀c,c<code+1→nth (st++[z]) (c / 256) 0=nth st (c / 256) 0:=fun c hc'=>hold _ (by omega)
  refine ⟨by omega,fun i hi=> ?_,by rw [hold 0 hp];exact h.zero,fun c hc hc2=> ?_,fun c hc hc2=> ?_,fun i j hi hj he=> ?_,fun c i hc hv k hk hkj=> ?_,fun i hi hi2=> ?_⟩
  · by_cases e:i<st.length
    · rw [hold i e];exact h.rng i e
    rw [show i=st.length by omega,hat];exact hz
  · rw [hrow c hc]at hc2
    by_cases e:c=code
    · subst e;omega
    rw [gp_ _ _ (by omega)];exact h.neg c (by omega) hc2
  · rw [hrow c hc]at hc2 ⊢
    by_cases e:c=code
    · subst e
      exact ⟨st.length,by omega,m5_ _ _ _,by rw [hat];exact hcl⟩
    rw [gp_ _ _ (by omega)]
    obtain ⟨j,h1,h2,h3⟩:=h.val c (by omega) hc2
    exact ⟨j,by omega,h2,by rw [hold j h1];exact h3⟩
  · by_cases e:i<st.length
    · by_cases f:j<st.length
      · rw [hold i e,hold j f]at he;exact h.dist i j e f he
      rw [hold i e,show j=st.length by omega,hat,hcl]at he
      exact absurd he (hnew i e)
    by_cases f:j<st.length
    · rw [hold j f,show i=st.length by omega,hat,hcl]at he
      exact absurd he.symm (hnew j f)
    omega
  · by_cases e:c=code
    · rw [e,m5_]at hv
      obtain ⟨c',h1,_,h3⟩:=h.come k hk (by omega)
      exact ⟨c',by omega,by rw [gp_ _ _ h1];exact h3⟩
    rw [gp_ _ _ (by omega)]at hv
    obtain ⟨c',h1,h2⟩:=h.first c i (by omega) hv k hk hkj
    exact ⟨c',h1,by rw [gp_ _ _ (by omega)];exact h2⟩
  by_cases e:i<st.length
  · obtain ⟨c,h1,h2,h3⟩:=h.come i hi e
    exact ⟨c,by omega,h2,by rw [gp_ _ _ h1];exact h3⟩
  refine ⟨code,by omega,by omega,?_⟩
  rw [m5_,show i=st.length by omega]
end
theorem BfI.min{q m:Seq}{cl:Nat→Int}{st:N_1}{V:Nat→Int}(h:BfI q cl st V (st.length * 256))(hcl: ∀s t,s<q.next.length→t<q.next.length→(cl s=cl t↔ek_ q s=ek_ q t))(hq:d0_ q=true)
    (e0:m.front=q.front) (e1:m.next.length=st.length) (e2:m.outs.length=st.length) (e3:m.fin.length=st.length) (e4:m.tail.length=st.length) (e5: ∀i,i<st.length→(nth m.next i []).length=256) (e6: ∀c,c<st.length * 256→nxC m c=V c)
    (e7: ∀i,i<st.length→nth m.outs i []=nth q.outs (nth st i 0).toNat []) (e8: ∀i,i<st.length→nth m.fin i false=nth q.fin (nth st i 0).toNat false) (e9: ∀i,i<st.length→nth m.tail i []=nth q.tail (nth st i 0).toNat []):MinQ q m (st.map Int.toNat):=by
  have hl:(st.map Int.toNat).length=st.length:=List.length_map ..
  have hat: ∀i,i<st.length→nth (st.map Int.toNat) i 0=(nth st i 0).toNat:=fun i hi=>fh_ _ _ _ 0 _ hi
  have hr: ∀i,i<st.length→(nth st i 0).toNat<q.next.length:=fun i hi=>by have:=h.rng i hi;omega
  have hp:=h.pos
  have hn: ∀i b,i<st.length→b<256→i * 256+b<st.length * 256∧(i * 256+b) / 256=i∧(i * 256+b) % 256=b:=fun i b hi hb=>⟨by omega,by omega,by omega⟩
  have hcell: ∀i b,i<st.length→b<256→nxQ m i b=V (i * 256+b):=fun i b hi hb=>by
    obtain ⟨a1,a2,a3⟩:=hn i b hi hb
    have:=e6 _ a1
    unfold nxC at this
    rw [a2,a3]at this;exact this
  refine ⟨e0,by omega,by omega,by omega,by omega,by omega,fun i hi=> ?_,?_,fun i j hi hj he=> ?_,fun i hi=>e5 i (by omega),fun i hi=> ?_,fun i hi=> ?_,fun i hi=> ?_,fun i b hi hb hx=> ?_,fun i b hi hb hx=> ?_,fun c j hc hv k hk hkj=> ?_,fun j hj hj2=> ?_⟩
  · rw [hat i (by omega)];exact hr i (by omega)
  · rw [hat 0 hp]
    exact (hcl _ _ (hr 0 hp) (by have:=hr 0 hp;omega)).1 h.zero
  · rw [hat i (by omega),hat j (by omega)]at he
    exact h.dist i j (by omega) (by omega) ((hcl _ _ (hr i (by omega)) (hr j (by omega))).2 he)
  · rw [hat i (by omega)];exact e7 i (by omega)
  · rw [hat i (by omega)];exact e8 i (by omega)
  · rw [hat i (by omega)];exact e9 i (by omega)
  · rw [hat i (by omega)]at hx
    obtain ⟨a1,a2,a3⟩:=hn i b (by omega) hb
    rw [hcell i b (by omega) hb]
    exact h.neg _ a1 (by rw [a2,a3];exact hx)
  · rw [hat i (by omega)]at hx
    obtain ⟨a1,a2,a3⟩:=hn i b (by omega) hb
    obtain ⟨j,h1,h2,h3⟩:=h.val _ a1 (by rw [a2,a3];exact hx)
    rw [a2,a3]at h3
    refine ⟨j,by omega,by rw [hcell i b (by omega) hb];exact h2,?_⟩
    rw [hat j h1,hat i (by omega)]
    have hz:=ex_ hq (hr i (by omega)) hb
    exact (hcl _ _ (hr j h1) (by omega)).1 h3
  · rw [hl]at hc
    rw [e6 c hc]at hv
    obtain ⟨c',h1,h2⟩:=h.first c j hc hv k hk hkj
    exact ⟨c',h1,by rw [e6 c' (by omega)];exact h2⟩
  obtain ⟨c,h1,h2,h3⟩:=h.come j hj (by omega)
  exact ⟨c,h2,by rw [e6 c h1];exact h3⟩
theorem PushR.psh{q:Seq}{r:Seq×Int}(h:PushR q r)(h0:r.2=0):PshQ r.1∧d0_ r.1=true∧(∀w,ga_ r.1 w=ga_ q w)∧r.1.next.length≤q.next.length:=by
  have hem: ∀w,ga_ Seq.zero w=Option.none:=fun w=>by unfold ga_;rw [fe_ rfl rfl];rfl
  cases h with
  |wrong _=>exact absurd h0 (by decide)
  |none h1 h2=>
    refine ⟨pe_.toPshQ,pe_.right,fun w=> ?_,Nat.zero_le _⟩
    rw [hem]
    unfold ga_
    cases ho:ek_ q 0 w with
    |none=>rfl
    |some y=>
      rcases h2 with h2|h2
      · rw [fe_ (List.eq_nil_of_length_eq_zero h2) (List.eq_nil_of_length_eq_zero (by have:=(dz_ h1).2.2.1;omega))]at ho;cases ho
      exact absurd ⟨w,y,ho⟩ h2
  |made l m v h1 h2 h3 h4 h5=>
    have hk:=o9_ (m:=m) h5
    have hk0:=(hk 0 h2).2 ⟨.zero,(h4.live 0 h2).2 h3⟩
    unfold lf_ at h0 ⊢
    by_cases c:d0_ (fq_ q l (g2_ v m))=true
    · rw [if_pos c]
      exact ⟨Hl_ h1 h4 hk,c,Hh_ h1 h4 hk h2 hk0,by rw [gz_];exact gk_ _ _⟩
    rw [if_neg c]at h0;exact absurd h0 (by decide)
inductive MinR (p:Seq×Int):Seq×Int→Prop
  |err:p.2≠0→MinR p (Seq.zero,p.2)
  |none:p.2=0→p.1.next.length=0→MinR p (Seq.zero,0)
  |made (m:Seq) (st:List Nat):p.2=0→MinQ p.1 m st→MinR p (m,0)
theorem MinR.err'{q:Seq}{p r:Seq×Int}(_:PushR q p)(k:MinR p r):r.2=p.2∧(r.2≠0→r.1=Seq.zero):=by
  cases k with
  |err h0=>exact ⟨rfl,fun _=>rfl⟩
  |none h0 _=>exact ⟨h0.symm,fun _=>rfl⟩
  |made m st h0 _=>exact ⟨h0.symm,fun e=>absurd rfl e⟩
theorem MinR.can{q:Seq}{p r:Seq×Int}(h:PushR q p)(k:MinR p r)(h0:r.2=0):CanQ r.1∧(∀w,ga_ r.1 w=ga_ q w)∧r.1.next.length≤p.1.next.length:=by
  cases k with
  |err e=>exact absurd h0 e
  |none e1 e2=>
    obtain ⟨h1,h2,h3,h4⟩:=h.psh e1
    refine ⟨pe_,fun w=> ?_,Nat.zero_le _⟩
    rw [←h3]
    unfold ga_
    rw [fe_ rfl rfl,fe_ (List.eq_nil_of_length_eq_zero e2) (List.eq_nil_of_length_eq_zero (by have:=(dz_ h2).2.2.1;omega))]
    rfl
  |made m st e1 e2=>
    obtain ⟨h1,h2,h3,h4⟩:=h.psh e1
    obtain ⟨k1,k2,k3⟩:=e2.can h1 h2
    refine ⟨k1,fun w=> ?_,k3⟩
    rw [←h3]
    unfold ga_
    rw [k2,e2.front]
theorem MinR.same{q q':Seq}{p p' r r':Seq×Int}(h:PushR q p)(h':PushR q' p')(k:MinR p r)(k':MinR p' r')(h0:r.2=0)(h0':r'.2=0)(he: ∀w,ga_ q w=ga_ q' w):r.1=r'.1:=by
  obtain ⟨a1,a2,_⟩:=k.can h h0
  obtain ⟨b1,b2,_⟩:=k'.can h' h0'
  exact vh_ a1 b1 fun w=>by rw [a2,b2,he]
end Go.Proofs.YtchebnpdnfhenaaGreatDoor
end

noncomputable section
namespace Go.E
open Go
def z6_{α:Type}(σ:ds_)(H:List Res)(size:Nat)(enc:α→List Value)(s:Value)(ls:List α):Prop:=
  ∃a c,s= .slice a ls.length c∧ ∀(P:Program) (w:World),gc_ σ H w→ ∀n,n≤ls.length→(Builtin.firstCells size n s).run P w= .ok ((ls.take n).flatMap enc).toArray w
theorem qr_{α:Type}{enc:α→List Value}{size:Nat}(hl: ∀x,(enc x).length=size)(l:List α)(n:Nat):(l.take n).flatMap enc=(l.flatMap enc).take (n * size):=jv_ hl l n
theorem z6_.sealed{α:Type}{σ:ds_}{H:List Res}{size:Nat}{enc:α→List Value}{s:Value}{ls:List α}(h:RS σ size enc s ls)(hl: ∀x,(enc x).length=size):z6_ σ H size enc s ls:=by
  obtain ⟨a,c,rfl,hn,hc⟩:=h.rv.sl
  refine ⟨a,c,rfl,fun P w hw n hle=> ?_⟩
  cases a with
  |none=>
    obtain ⟨h1,_⟩:=hn rfl
    have:ls=[]:=List.eq_nil_of_length_eq_zero h1
    subst this
    simp [Builtin.firstCells]
  |some ad=>
    refine run_firstCells_some w size n ad _ _ _ (by rw [d3_ hl,List.length_take];congr 1;omega) fun j v hj=> ?_
    rw [qr_ hl,List.getElem?_take]at hj
    split at hj
    · exact hw.cell (h.rv.cell ad _ c rfl j v hj)
    cases hj
theorem tz_{α:Type}{enc:α→List Value}{size:Nat}(hl: ∀x,(enc x).length=size)(l m:List α)(k:Nat)(hk:k+m.length≤l.length):
    er_ (l.flatMap enc) (k * size) (m.flatMap enc)=(l.take k++(m++l.drop (k+m.length))).flatMap enc:=by
  rw [List.flatMap_append,List.flatMap_append,er_,qr_ hl l k,d3_ hl m,←Nat.add_mul]
  have h1:l.flatMap enc=(l.take (k+m.length)).flatMap enc++(l.drop (k+m.length)).flatMap enc:=by rw [←List.flatMap_append,List.take_append_drop]
  have h2:(l.flatMap enc).drop ((k+m.length) * size)=(l.drop (k+m.length)).flatMap enc:=by
    rw [h1,List.drop_append_of_le_length (by rw [d3_ hl,List.length_take,Nat.min_eq_left hk];exact Nat.le_refl _),List.drop_of_length_le (by rw [d3_ hl,List.length_take,Nat.min_eq_left hk];exact Nat.le_refl _),List.nil_append]
  rw [h2];try rw [List.append_assoc]
theorem OpOk.copyV {X : Ctx} {e : Env} {σ : ds_} {F : List Res} {o : Oper} {x y : Operand} {K : Env → ds_ → List Res → Prop} {α : Type} {T ty E size k m' d : Nat} {enc : α → List Value} {v u s : Value} {l ls : List α}
    (ho:o.op= .call {callee:= .builtin .copy,args:= #[x,y],argTypes:= #[T,ty]}) (ht:X.P.underlying T=some (.slice E)) (hs:szOf X.P E=some size) (hd:o.dst=some d) (hn:Nat.blt d X.n=true)
    (hx:ev e x=u) (hv:VwOk v u size k m') (hm:l.length - k=m') (hk:k≤l.length) (hy:ev e y=s) (hsrc:z6_ σ (Res.rowS E size enc v l::F) size enc s ls) (hl: ∀x,(enc x).length=size) (h0:0<size) (h1: ∀x, ∀u∈enc x,u.oneCell'=true)
    (kk:K (upd e d (.int .i64 ((min ls.length (l.length - k):Nat):Int))) σ (Res.rowS E size enc v (l.take k++(ls.take (min ls.length (l.length - k))++l.drop (k+min ls.length (l.length - k))))::F)):OpOk X o e σ (Res.rowS E size enc v l::F) K:=by
  subst hm
  intro u0 C0 τ0 w a hw ha K' Q hK
  obtain ⟨hown,hone,hbg⟩:=hw.holds _ (List.mem_cons_self ..)
  have hsees:gc_ σ (Res.rowS E size enc v l::F) w:=⟨hw.fit,hw.holds⟩
  obtain ⟨as',cs',rfl,hfirst⟩:=hsrc
  obtain ⟨a',c',rfl,hnn,hc⟩:=hv.sl
  have hmin: ∀p q:Nat,Nat.min p q=min p q:=fun _ _=>rfl
  generalize hN:min ls.length (l.length - k)=N at kk
  have hN1:N≤ls.length:=by omega
  have hN2:N≤l.length - k:=by omega
  have hlenN:(ls.take N).length=N:=by rw [List.length_take];omega
  have hlen:(l.take k++(ls.take N++l.drop (k+N))).length=l.length:=by simp only [List.length_append,List.length_take,List.length_drop];omega
  have hf:=hfirst X.P w hsees N hN1
  have hsz:=eh_ (P:=X.P) hs
  have hgo:goInt N= .int .i64 ((N:Nat):Int):=rfl
  cases a' with
  |none=>
    obtain ⟨h2,_⟩:=hnn rfl
    have hN0:N=0:=by omega
    subst hN0
    have e1:l.take k++(ls.take 0++l.drop (k+0))=l:=by rw [List.take_zero,List.nil_append,Nat.add_zero,List.take_append_drop]
    rw [e1]at kk
    have hrun:(Builtin.copy_ #[T,ty] o.type #[.slice none (l.length - k) c',.slice as' ls.length cs']).run X.P w= .ok (.int .i64 ((0:Nat):Int)) w:=by
      simp [Builtin.copy_,run_underlying ht,Builtin.lenOf,hsz,hmin,hN,hf,goInt]
    refine Oper.am_ (v:= .int .i64 ((0:Nat):Int)) (w':=w) ?_ (hK _ _ _ _ _ kk hw (e0_ ha hd hn _))
    rw [ha.eval']
    simp [execOp,ho,resolve,invoke,builtin,hx,hy,hrun]
  |some ad=>
    by_cases hj:0<l.length - k
    · have hel:=hv.el 0 hj
      rcases id hown.2 with ⟨hvn,hmn⟩|⟨g,cap,cur,rfl,_⟩
      · omega
      simp only [ht_,Nat.zero_mul,Nat.add_zero]at hel
      have had:ad=⟨g,k * size,none⟩:=by
        have h3:(ad.add 0)=(⟨g,0,none⟩:Addr).add (k * size):=by injection hel with h;injection h
        rw [fn_]at h3
        simpa [Addr.add]using h3
      subst had
      obtain ⟨w',hst,hown',hgr,hdr⟩:=World.ownsRow.spliced X.P hown (k:=k * size) (vs:=(ls.take N).flatMap enc) (by rw [d3_ hl,d3_ hl,hlenN,←Nat.add_mul];exact Nat.mul_le_mul_right _ (by omega)) (fun u hu=>by
        obtain ⟨q,_,hq⟩:=List.mem_flatMap.1 hu
        exact h1 q u hq)
      have hsp:=tz_ hl l (ls.take N) k (by rw [hlenN];omega)
      rw [hlenN]at hsp
      rw [hsp]at hown'
      have hrun:(Builtin.copy_ #[T,ty] o.type #[.slice (some ⟨g,k * size,none⟩) (l.length - k) c',.slice as' ls.length cs']).run X.P w= .ok (.int .i64 ((N:Nat):Int)) w':=by
        simp [Builtin.copy_,run_underlying ht,Builtin.lenOf,hsz,hmin,hN,hf,hst,goInt]
      have hR:Reach u0 C0 τ0 σ w' (Res.rowS E size enc (.slice (some ⟨g,0,none⟩) l.length cap) (l.take k++(ls.take N++l.drop (k+N)))::F):=by
        refine hw.bg_ (some g) (some g) rfl rfl hgr.os hgr.tape hgr.output hgr.size hdr (fun q hq hne=>hgr.block q hq (fun hx=>hne (by cases hx;rfl))) ?_ (fun q hq=> .inl hq)
        show _∧_∧_
        rw [hlen]
        refine ⟨hown',fun u hu=> ?_,hbg⟩
        obtain ⟨q,_,hq⟩:=List.mem_flatMap.1 hu
        exact h1 q u hq
      refine Oper.am_ (v:= .int .i64 ((N:Nat):Int)) (w':=w') ?_ (hK _ _ _ _ _ kk hR (e0_ ha hd hn _))
      rw [ha.eval']
      simp [execOp,ho,resolve,invoke,builtin,hx,hy,hrun]
    have hN0:N=0:=by omega
    subst hN0
    have e1:l.take k++(ls.take 0++l.drop (k+0))=l:=by rw [List.take_zero,List.nil_append,Nat.add_zero,List.take_append_drop]
    rw [e1]at kk
    have hrun:(Builtin.copy_ #[T,ty] o.type #[.slice (some ad) (l.length - k) c',.slice as' ls.length cs']).run X.P w= .ok (.int .i64 ((0:Nat):Int)) w:=by
      simp [Builtin.copy_,run_underlying ht,Builtin.lenOf,hsz,hmin,hN,hf,goInt,storeCells]
    refine Oper.am_ (v:= .int .i64 ((0:Nat):Int)) (w':=w) ?_ (hK _ _ _ _ _ kk hw (e0_ ha hd hn _))
    rw [ha.eval']
    simp [execOp,ho,resolve,invoke,builtin,hx,hy,hrun]
section
variable {α:Type} {σ:ds_} {k:Pk α} {z w:List (α×k.P)} {l m:List α}
theorem ZOk.take(h:ZOk σ k z l)(n:Nat):ZOk σ k (z.take n) (l.take n):=⟨by rw [List.map_take,h.eq],fun u hu=>h.ok u (List.mem_of_mem_take hu)⟩
theorem ZOk.drop(h:ZOk σ k z l)(n:Nat):ZOk σ k (z.drop n) (l.drop n):=⟨by rw [List.map_drop,h.eq],fun u hu=>h.ok u (List.mem_of_mem_drop hu)⟩
end
end Go.E
end

noncomputable section
namespace Go.E
open Go
theorem OpOk.c6_{X:Ctx}{e:Env}{σ:ds_}{F:List Res}{o:Oper}{x y:Operand}{K:Env→ds_→List Res→Prop}{α:Type}{T ty E size p m' d N q:Nat}{enc:α→List Value}{v u s:Value}{l ls:List α}
    (ho:o.op= .call {callee:= .builtin .copy,args:= #[x,y],argTypes:= #[T,ty]}) (ht:X.P.underlying T=some (.slice E)) (hs:szOf X.P E=some size) (hd:o.dst=some d) (hn:Nat.blt d X.n=true)
    (hx:ev e x=u) (hv:VwOk v u size p m') (hq:l.length=q) (hm:q - p=m') (hk:p≤q) (hy:ev e y=s) (hsrc:z6_ σ (Res.rowS E size enc v l::F) size enc s ls) (hl: ∀x,(enc x).length=size) (h0:0<size) (h1: ∀x, ∀u∈enc x,u.oneCell'=true) (hN:min ls.length (q - p)=N)
    (kk:K (upd e d (.int .i64 ((N:Nat):Int))) σ (Res.rowS E size enc v (l.take p++(ls.take N++l.drop (p+N)))::F)):OpOk X o e σ (Res.rowS E size enc v l::F) K:=by
  subst hq;subst hN
  exact OpOk.copyV ho ht hs hd hn hx hv hm hk hy hsrc hl h0 h1 kk
theorem OpVal.bi_{P:Program}{n:Nat}{e:Env}{σ:ds_}{H:List Res}{o:Oper}{x y:Operand}{T E size m q k i f:Nat}{kk:IntKind}{v:Value}(ho:o.op= .indexAddr T x y)(ht:P.underlying T=some (.array m E))(hz:szOf P E=some size)(hx:ev e x=ht_ v q)(hy:ev e y= .int kk (i:Nat))(hi:i<m)(hf:i * size=f)(hs:lt_ v k)(hj:0<k):OpVal P n o e σ H (ht_ v (q+f)):=fun w _=>by
  subst hf
  obtain ⟨a,c,rfl,_⟩:=hs.some hj
  have h0:(i:Int)<(m:Int):=by omega
  simp [execOp,ho,hx,hy,Instr.indexAt,asIntOf,run_underlying ht,eh_ hz,h0,ht_,Instr.sureAddr,i9_]
  intro h;omega
end Go.E
end

noncomputable section
namespace Go.Proofs.YtchebnpdnfhenaaGreatDoor
open Go Go.E Go.E.OpVal Go.E.OpOk Go.Proofs.Tryz
theorem pf35:plainF Tryz.prog 35=true:=by kernel_rfl
theorem pf66:plainF Tryz.prog 66=true:=by kernel_rfl
theorem pf67:plainF Tryz.prog 67=true:=by kernel_rfl
theorem pf68:plainF Tryz.prog 68=true:=by kernel_rfl
theorem pf69:plainF Tryz.prog 69=true:=by kernel_rfl
def Co_(k169:Nat)(l173:N_1)(l175:N_1):Option ((N_1×N_1×Nat)⊕((N_1×N_1×Nat)⊕(N_1×N_1))):=
 nxt (l173,l175,(k169+1))
def A2_(x0:Seq)(l140:N_1)(k143:Nat)(x1:N_1)(l164:N_1)(l166:N_1)(k169:Nat):Option ((N_1×N_1×Nat)⊕((N_1×N_1×Nat)⊕(N_1×N_1))):=
 d2_ (decide ((k169:Int)<(((nth x0.next ((nth l140 k143 0).toNat) []).length:Nat):Int))) (d2_ (decide (0≤(nth (nth x0.next ((nth l140 k143 0).toNat) []) k169 0))) (grd (0≤(nth (nth x0.next ((nth l140 k143 0).toNat) []) k169 0)∧(nth (nth x0.next ((nth l140 k143 0).toNat) []) k169 0)<(x1.length:Int)) (grd (0≤(nth x1 ((nth (nth x0.next ((nth l140 k143 0).toNat) []) k169 0).toNat) 0)∧(nth x1 ((nth (nth x0.next ((nth l140 k143 0).toNat) []) k169 0).toNat) 0)<(l164.length:Int)) (d2_ (decide ((nth l164 ((nth x1 ((nth (nth x0.next ((nth l140 k143 0).toNat) []) k169 0).toNat) 0).toNat) 0)<0)) (grd (0≤(nth (nth x0.next ((nth l140 k143 0).toNat) []) k169 0)∧(nth (nth x0.next ((nth l140 k143 0).toNat) []) k169 0)<(x1.length:Int)) (grd (0≤(nth x1 ((nth (nth x0.next ((nth l140 k143 0).toNat) []) k169 0).toNat) 0)∧(nth x1 ((nth (nth x0.next ((nth l140 k143 0).toNat) []) k169 0).toNat) 0)<(l164.length:Int)) (grd ((l166.length+[(nth (nth x0.next ((nth l140 k143 0).toNat) []) k169 0)].length) * 8≤140737488355328) (Co_ k169 (l164.set ((nth x1 ((nth (nth x0.next ((nth l140 k143 0).toNat) []) k169 0).toNat) 0).toNat) ((l166.length:Nat):Int)) (l166++[(nth (nth x0.next ((nth l140 k143 0).toNat) []) k169 0)]))))) (Co_ k169 l164 l166)))) (Co_ k169 l164 l166)) (fin (nxt (l164,l166,(k143+1))))
def Bs_(x0:Seq)(x1:N_1)(l138:N_1)(l140:N_1)(k143:Nat):Option ((N_1×N_1×Nat)⊕(N_1×N_1)):=
 d2_ (decide ((k143:Int)<((l140.length:Nat):Int))) (grd (0≤(nth l140 k143 0)∧(nth l140 k143 0)<(x0.next.length:Int)) (ec_ (fun q:N_1×N_1×Nat=>A2_ x0 l140 k143 x1 q.1 q.2.1 q.2.2) (l138,l140,0))) (fin (some (l140,l138)))
def Bb_(x2:Int)(x1:N_1)(x0:Seq)(l112:N_1)(k114:Nat):Option ((N_1×Nat)⊕(N_1×N_1)):=
 d2_ (decide ((k114:Int)<(((List.replicate x2.toNat (0:Int)).length:Nat):Int))) (grd (k114<l112.length) (nxt ((l112.set k114 (-1)),(k114+1)))) (fin (grd (0<x1.length) (grd (0≤(nth x1 0 0)∧(nth x1 0 0)<(l112.length:Int)) (ec_ (fun q:N_1×N_1×Nat=>Bs_ x0 x1 q.1 q.2.1 q.2.2) ((l112.set ((nth x1 0 0).toNat) 0),[0],0)))))
def Dt_(x0:Seq)(x1:N_1)(x2:Int):Option (N_1×N_1):=
 grd (0≤x2∧8 * x2.toNat≤281474976710656) (ec_ (fun q:N_1×Nat=>Bb_ x2 x1 x0 q.1 q.2) ((List.replicate x2.toNat (0:Int)),0))
def Gx_(σ:ds_)(r:N_1×N_1):Value→ds_→List Res→Prop:=fun v σ' H'=>
 ∃a1 c1 a2 c2,v= .tuple #[.slice a1 r.1.length c1,.slice a2 r.2.length c2]∧rS_ σ' eI_ a1 c1 r.1∧rS_ σ' eI_ a2 c2 r.2∧H'=[]
theorem Gf_{σ:ds_}{x0:Seq}{a0_0:Option Addr}{c0_0:Nat}{a0_1:Option Addr}{c0_1:Nat}{a0_2:Option Addr}{c0_2:Nat}{a0_3:Option Addr}{c0_3:Nat}{x1:N_1}{a1_0:Option Addr}{c1_0:Nat}{x2:Int}(f0_0:RZ σ (dy_ 1 eI_ d8_) (.slice a0_0 x0.next.length c0_0) x0.next)(f0_1:RZ σ (dy_ 1 eS_ ed_) (.slice a0_1 x0.outs.length c0_1) x0.outs)(f0_2:rS_ σ em_ a0_2 c0_2 x0.fin)(f0_3:rS_ σ eS_ a0_3 c0_3 x0.tail)(f1_0:rS_ σ eI_ a1_0 c1_0 x1){r:N_1×N_1}(hh:Dt_ x0 x1 x2=some r):
  Con Tryz.prog 67 #[.agg (aq_ x0 a0_0 c0_0 a0_1 c0_1 a0_2 c0_2 a0_3 c0_3),.slice a1_0 x1.length c1_0,.int .i64 x2] σ [] (Gx_ σ r):=by
 dsimp only [Dt_]at hh
 have f0_0b:=f0_0.big
 have f0_1b:=f0_1.big
 have f0_2b:=f0_2.rv.big
 have f0_3b:=f0_3.rv.big
 have f1_0b:=f1_0.rv.big
 refine Con.mk (n:=77) Tryz.func67 z z z (fun w0=> ?_)
 refine TC.a (TL.op z (boxA z z z z (fun b101=> ?_)))
 refine TL.s z z (TL.s z z (TL.en (TC.a (TL.i z z ?_))))
 obtain ⟨u5,hh⟩:=dx_ hh
 refine TL.op rfl (ax_ (m:=x2.toNat) (enc:=eI_) (0:Int) rfl underlying86 sz3 by3 ze3 rfl rfl (vN u5.1) (vN u5.1) (by omega) (by decide) d8_ (by decide) rfl hl_ (fun a103 c104=> ?_))
 refine TL.s z z (TL.en (TC.seq (TC.a (TL.s z z (TL.w z (lenC z underlying86 z) (TL.i z z (TL.en (TC.block (TC.ap_ (α:=(N_1×Nat)×(Unit)) (rgs [(9,1),(18,7)]) (fun g=>[(18,.int .i64 ((g.1.2:Nat):Int))]) (fun g=>[cq_ b101 x0 a0_0 c0_0 a0_1 c0_1 a0_2 c0_2 a0_3 c0_3,Res.rowS 3 1 eI_ (.slice a103 (List.replicate x2.toNat (0:Int)).length c104) g.1.1]) (fun g=>σ) (fun g=>ec_ (fun q:N_1×Nat=>Bb_ x2 x1 x0 q.1 q.2) g.1=some r∧g.1.1.length=(List.replicate x2.toNat (0:Int)).length) (fun g=>d7_ (fun q:N_1×Nat=>Bb_ x2 x1 x0 q.1 q.2) g.1) (((List.replicate x2.toNat (0:Int)),0),()) (Sub.f [1] 2) z (by repeat (first|exact trivial|refine ⟨z,?_⟩)) ⟨hh,z⟩ (fun g1 j1 hg1=> ?_))))))))))
 obtain ⟨⟨l112,k114⟩,_⟩:=g1
 obtain ⟨hh,hn113⟩:=hg1
 try dsimp only at hn113 ⊢
 obtain ⟨z1,hh,hR1⟩:=eb_ hh
 dsimp only [Bb_]at hh
 refine TC.isSl (i:=1) z (fun _ hb115 _=> ?_)
 refine TC.a (TL.w z (OpVal.lss z z z) (TL.en (TC.seq (TC.cD z hh (fun h116 hh=> ?_) (fun h116 hh=> ?_)))))
 ·refine TC.skip (S.n (TC.seq (TC.block (TC.a (TL.i z z (TL.i z z (TL.en (TC.region (TL.s z z (TL.i z z ?_))))))))))
  obtain ⟨u15,hh⟩:=dx_ hh
  refine TL.isSl (i:=1) z (fun hs117 _ _=> ?_)
  refine TL.w z (ag_ z underlying86 sz3 z z hs117 (by omega)) (TL.front 1 z z ?_)
  have hn118:(l112.set k114 (-1)).length=(List.replicate x2.toNat (0:Int)).length:=by rw [List.length_set];exact hn113
  refine TL.op z (au_ (-1) z sz3 z z z z d8_ hl_ (by omega) (by omega) ?_)
  refine TL.nil (B.n (S.n (TC.region (TL.w z (OpVal.succ z z z (by omega)) (TL.i z z (TL.en ?_))))))
  obtain ⟨hh,hlt119⟩:=en_ hR1 hh
  exact lf (((l112.set k114 (-1)),(k114+1)),()) hlt119 ⟨hh,hn118⟩ (Sub.f [1] 2)
 refine TC.exit (S.x (S.x ?_))
 replace hh:=d9_ hR1 hh
 refine TC.ad_ (S.n (TC.a (TL.op z (OpOk.lit (enc:=eI_) [0] z underlying86 sz3 ze3 z z z d8_ (by decide) (by decide) (0:Int) z (by decide) z (by decide) hl_ (fun a120 c121=> ?_)))))
 refine TL.s z z (TL.en (TC.a (TL.s z z (TL.s z z ?_))))
 obtain ⟨u23,hh⟩:=dx_ hh
 refine TL.w z (ag_ (i:=0) z underlying86 sz3 z z f1_0.rv.sl (by omega)) (TL.w z (aj_ (0:Int) z ag3 z f1_0 (by omega) z) ?_)
 obtain ⟨u25,hh⟩:=dx_ hh
 refine TL.isSl (i:=2) z (fun hs123 _ _=> ?_)
 refine TL.w z (OpVal.index z underlying86 sz3 z z hs123 u25.1 u25.2) (TL.front 2 z z ?_)
 have hn124:(l112.set ((nth x1 0 0).toNat) 0).length=(List.replicate x2.toNat (0:Int)).length:=by rw [List.length_set];exact hn113
 refine TL.op z (au_ 0 z sz3 z z z z d8_ hl_ (by omega) (by omega) ?_)
 refine TL.en (TC.seq (TC.a (TL.i z z (TL.en (TC.block (TC.ap_ (α:=(N_1×N_1×Nat)×((Option Addr)×Nat)) (rgs [(10,2),(13,1),(31,44)]) (fun g=>[(10,.slice g.2.1 g.1.2.1.length g.2.2),(11,.int .i64 ((g.1.2.2:Nat):Int))]) (fun g=>[cq_ b101 x0 a0_0 c0_0 a0_1 c0_1 a0_2 c0_2 a0_3 c0_3,Res.rowS 3 1 eI_ (.slice a103 (List.replicate x2.toNat (0:Int)).length c104) g.1.1,Res.rowS 3 1 eI_ (.slice g.2.1 g.1.2.1.length g.2.2) g.1.2.1]) (fun g=>σ) (fun g=>ec_ (fun q:N_1×N_1×Nat=>Bs_ x0 x1 q.1 q.2.1 q.2.2) g.1=some r∧g.1.1.length=(List.replicate x2.toNat (0:Int)).length) (fun g=>d7_ (fun q:N_1×N_1×Nat=>Bs_ x0 x1 q.1 q.2.1 q.2.2) g.1) (((l112.set ((nth x1 0 0).toNat) 0),[0],0),(a120,c121)) (Sub.f [1,1,2] 3) z (by repeat (first|exact trivial|refine ⟨z,?_⟩)) ⟨hh,hn124⟩ (fun g2 j2 hg2=> ?_)))))))
 obtain ⟨⟨l138,l140,k143⟩,⟨a141,c142⟩⟩:=g2
 obtain ⟨hh,hn139⟩:=hg2
 try dsimp only at hn139 ⊢
 obtain ⟨z1,hh,hR1⟩:=eb_ hh
 dsimp only [Bs_]at hh
 refine TC.isSl (i:=1) z (fun _ hb144 _=> ?_)
 refine TC.isSl (i:=2) z (fun _ hb145 _=> ?_)
 refine TC.seq (TC.a (TL.i z z (TL.s z z (TL.w z (lenC z underlying86 z) (TL.w z (OpVal.lss z z z) (TL.en (TC.cD z hh (fun h146 hh=> ?_) (fun h146 hh=> ?_))))))))
 ·refine TC.skip (S.n (TC.seq (TC.block (TC.seq ?_))))
  obtain ⟨u38,hh⟩:=dx_ hh
  refine TC.draw [] (by kernel_rfl) (TA.a 0 z (aa_ z ey_ z) z (TA.b 1 z (ab_ z hv_ z (i:=0) z z) z (TA.a 2 z (ai_ (.inl z) z) z (TA.a 3 z (ah_ (.inl z) z) z (TA.isSl (i:=2) z (fun hs149 _ _=> ?_))))))
  refine TA.b 4 z (ag_ z underlying86 sz3 z z hs149 (by omega)) z (TA.b 5 z (az_ (0:Int) z ag3 z (q:=2) z d8_ (by omega) z) z (TA.b 6 z (OpVal.index z underlying27 e4_ z z f0_0.isSl u38.1 u38.2) z ?_))
  obtain ⟨p150,hk150,hg150⟩:=RZ.seg f0_0 ((nth l140 k143 0).toNat) (by omega)
  replace hk150:rS_ _ eI_ p150.1 p150.2 (nth x0.next ((nth l140 k143 0).toNat) []):=hk150
  have hk150b:=hk150.rv.big
  refine TA.b 7 z (OpVal.of (an_ z ie_ z hg150 z) (v':= .slice p150.1 ((nth x0.next ((nth l140 k143 0).toNat) []).length) p150.2) z) z (TA.b 8 z (lenC z underlying86 z) z (TA.a 9 z (ah_ (.inl z) z) z (TA.dn (S.n (TC.block (TC.ap_ (α:=(N_1×N_1×Nat)×((Option Addr)×Nat)) (rgs [(10,1),(13,1),(46,29)]) (fun g=>[(10,.slice g.2.1 g.1.2.1.length g.2.2),(46,.int .i64 ((g.1.2.2:Nat):Int))]) (fun g=>[cq_ b101 x0 a0_0 c0_0 a0_1 c0_1 a0_2 c0_2 a0_3 c0_3,Res.rowS 3 1 eI_ (.slice a103 (List.replicate x2.toNat (0:Int)).length c104) g.1.1,Res.rowS 3 1 eI_ (.slice g.2.1 g.1.2.1.length g.2.2) g.1.2.1]) (fun g=>σ) (fun g=>ec_ (fun q:N_1×N_1×Nat=>A2_ x0 l140 k143 x1 q.1 q.2.1 q.2.2) g.1=some z1∧g.1.1.length=(List.replicate x2.toNat (0:Int)).length) (fun g=>d7_ (fun q:N_1×N_1×Nat=>A2_ x0 l140 k143 x1 q.1 q.2.1 q.2.2) g.1) ((l138,l140,0),(a141,c142)) (Sub.f [2,2,2] 3) z (by repeat (first|exact trivial|refine ⟨z,?_⟩)) ⟨hh,hn139⟩ (fun g3 j3 hg3=> ?_)))))))
  obtain ⟨⟨l164,l166,k169⟩,⟨a167,c168⟩⟩:=g3
  obtain ⟨hh,hn165⟩:=hg3
  try dsimp only at hn165 ⊢
  obtain ⟨z2,hh,hR2⟩:=eb_ hh
  dsimp only [A2_]at hh
  refine TC.isSl (i:=1) z (fun _ hb170 _=> ?_)
  refine TC.isSl (i:=2) z (fun _ hb171 _=> ?_)
  refine TC.a (TL.w z (OpVal.lss z z z) (TL.en (TC.seq (TC.cD z hh (fun h172 hh=> ?_) (fun h172 hh=> ?_)))))
  ·refine TC.skip (S.n (TC.cutG (α:=(N_1×N_1)×((Option Addr)×Nat)) (rgs [(10,1),(13,1),(48,26)]) (fun g=>[(10,.slice g.2.1 g.1.2.length g.2.2)]) (fun g=>[cq_ b101 x0 a0_0 c0_0 a0_1 c0_1 a0_2 c0_2 a0_3 c0_3,Res.rowS 3 1 eI_ (.slice a103 (List.replicate x2.toNat (0:Int)).length c104) g.1.1,Res.rowS 3 1 eI_ (.slice g.2.1 g.1.2.length g.2.2) g.1.2]) (fun g=>σ) (fun g=>Co_ k169 g.1.1 g.1.2=some z2∧g.1.1.length=(List.replicate x2.toNat (0:Int)).length) ?_ (fun g j hg=> ?_)))
   ·skip
    refine TC.block (TC.a (TL.w z (ag_ z underlying86 sz3 z z hk150.rv.sl (by omega)) (TL.w z (aj_ (0:Int) z ag3 z hk150 (by omega) z) (TL.i z z (TL.en (TC.a (TL.i z z (TL.w z (OpVal.geq z z z) (TL.j z z (TL.split 52 z (fun h178=> ?_) (fun h178=> ?_)))))))))))
    ·replace hh:=ei_ h178 hh
     replace h178:=of_decide_eq_true h178
     refine TL.g z (ai_ (.inl z) z) (TL.g z (ai_ (.inl z) z) (TL.g z (ah_ (.inl z) z) ?_))
     obtain ⟨u52,hh⟩:=dx_ hh
     refine TL.g z (OpVal.index z underlying86 sz3 z z f1_0.rv.sl u52.1 u52.2) (TL.g z (aj_ (0:Int) z ag3 z f1_0 (by omega) z) ?_)
     obtain ⟨u54,hh⟩:=dx_ hh
     refine TL.isSl (i:=1) z (fun hs179 _ _=> ?_)
     refine TL.g z (OpVal.index z underlying86 sz3 z z hs179 u54.1 u54.2) (TL.g z (az_ (0:Int) z ag3 z (q:=1) z d8_ (by omega) z) (TL.g z (OpVal.lss z z z) (TL.w z (al_ z z z) (TL.en (TC.cD z hh (fun h180 hh=> ?_) (fun h180 hh=> ?_))))))
     ·refine TC.a (TL.s z z (TL.s z z (TL.i z z ?_)))
      obtain ⟨u61,hh⟩:=dx_ hh
      refine TL.w z (OpVal.index z underlying86 sz3 z z f1_0.rv.sl u61.1 u61.2) (TL.w z (aj_ (0:Int) z ag3 z f1_0 (by omega) z) (TL.s z z (TL.w z (lenC z underlying86 z) ?_)))
      obtain ⟨u65,hh⟩:=dx_ hh
      refine TL.isSl (i:=1) z (fun hs181 _ _=> ?_)
      refine TL.w z (OpVal.index z underlying86 sz3 z z hs181 u65.1 u65.2) (TL.front 1 z z ?_)
      have hn182:(l164.set ((nth x1 ((nth (nth x0.next ((nth l140 k143 0).toNat) []) k169 0).toNat) 0).toNat) ((l166.length:Nat):Int)).length=(List.replicate x2.toNat (0:Int)).length:=by rw [List.length_set];exact hn165
      refine TL.op z (au_ ((l166.length:Nat):Int) z sz3 z z z z d8_ hl_ (by omega) (by omega) ?_)
      refine TL.en (TC.region (TL.s z z (TL.i z z (TL.op z (OpOk.lit (enc:=eI_) [(nth (nth x0.next ((nth l140 k143 0).toNat) []) k169 0)] z underlying86 sz3 ze3 z z z d8_ (by decide) (by decide) (0:Int) z (by decide) z (by decide) hl_ (fun a183 c184=> ?_))))))
      refine TL.front 3 z z ?_
      obtain ⟨u70,hh⟩:=dx_ hh
      refine TL.op z (as_ z z underlying86 sz3 by3 ze3 z z (by decide) z z z (.inr ⟨_,0,z⟩) (by simpa using u70) (by decide) (fun a186 c187=> ?_))
      exact TL.s z z (TL.nil (B.n (S.n (cf (((l164.set ((nth x1 ((nth (nth x0.next ((nth l140 k143 0).toNat) []) k169 0).toNat) 0).toNat) ((l166.length:Nat):Int)),(l166++[(nth (nth x0.next ((nth l140 k143 0).toNat) []) k169 0)])),(a186,c187)) ⟨hh,hn182⟩ (Sub.f [2,3] 3)))))
     exact TC.skip (B.n (S.n (cf ((l164,l166),(a167,c168)) ⟨hh,hn165⟩ (Sub.f [2,2,2] 3))))
    replace hh:=ej_ h178 hh
    replace h178:=of_decide_eq_false h178
    exact TL.f z (TL.f z (TL.f z (TL.f z (TL.f z (TL.f z (TL.f z (TL.f z (TL.w z (ak_ z z z) (TL.en (TC.f z (TC.skip (B.n (S.n (cf ((l164,l166),(a167,c168)) ⟨hh,hn165⟩ (Sub.f [2,2,2] 3)))))))))))))))
   skip
   obtain ⟨⟨l173,l175⟩,⟨a176,c177⟩⟩:=g
   obtain ⟨hh,hn174⟩:=hg
   try dsimp only at hn174 ⊢
   dsimp only [Co_]at hh
   refine TC.isSl (i:=1) z (fun _ hb188 _=> ?_)
   refine TC.isSl (i:=2) z (fun _ hb189 _=> ?_)
   refine TC.region (TL.w z (OpVal.succ z z z (by omega)) (TL.i z z (TL.en ?_)))
   obtain ⟨hh,hlt190⟩:=en_ hR2 hh
   exact lf ((l173,l175,(k169+1)),(a176,c177)) hlt190 ⟨hh,hn174⟩ (Sub.f [2,2,2] 3)
  refine TC.exit (S.x (S.x ?_))
  replace hh:=d9_ hR2 hh
  refine TC.ad_ (B.n (S.n (TC.region (TL.i z z (TL.w z (OpVal.succ z z z (by omega)) (TL.i z z (TL.en ?_)))))))
  obtain ⟨hh,hlt191⟩:=en_ hR1 hh
  exact lf ((l164,l166,(k143+1)),(a167,c168)) hlt191 ⟨hh,hn165⟩ (Sub.f [2,2,2] 3)
 refine TC.exit (S.x (S.x ?_))
 replace hh:=d9_ hR1 hh
 refine TC.ad_ (S.n (TC.a (TL.s z z (TL.s z z (TL.s z z (TL.s z z (TL.en ?_)))))))
 rw [←hn139]
 refine TC.front 2 z z (TC.a0_ d8_ (fun τ194 hle193 hr192=> ?_))
 have hr192b:=hr192.rv.big
 refine TC.front 1 z z (TC.a0_ d8_ (fun τ197 hle196 hr195=> ?_))
 replace hr192:=hr192.mono hle196
 have hr195b:=hr195.rv.big
 refine TC.rt 0 ?_
 obtain rfl:=so hh
 exact rq [6,7] ⟨a141,c142,a103,c104,z,hr192,hr195,z⟩
def Bd_(x1:N_1)(x0:B_1)(l110:B_1)(k112:Nat):Option ((B_1×Nat)⊕(B_1)):=
 d2_ (decide ((k112:Int)<((x1.length:Nat):Int))) (grd (0≤(nth x1 k112 0)∧(nth x1 k112 0)<(x0.length:Int)) (grd (k112<l110.length) (nxt ((l110.set k112 (nth x0 ((nth x1 k112 0).toNat) false)),(k112+1))))) (fin (some l110))
def Eh_(x0:B_1)(x1:N_1):Option (B_1):=
 grd (1 * x1.length≤281474976710656) (ec_ (fun q:B_1×Nat=>Bd_ x1 x0 q.1 q.2) ((List.replicate x1.length false),0))
def Gz_(σ:ds_)(r:B_1):Value→ds_→List Res→Prop:=fun v σ' H'=>
 ∃a1 c1,v= .slice a1 r.length c1∧σ=σ'∧H'=[rs_ 4 em_ a1 c1 r]
theorem Fg_{σ:ds_}{x0:B_1}{a0_0:Option Addr}{c0_0:Nat}{x1:N_1}{a1_0:Option Addr}{c1_0:Nat}(f0_0:rS_ σ em_ a0_0 c0_0 x0)(f1_0:rS_ σ eI_ a1_0 c1_0 x1){r:B_1}(hh:Eh_ x0 x1=some r):
  Con Tryz.prog 68 #[.slice a0_0 x0.length c0_0,.slice a1_0 x1.length c1_0] σ [] (Gz_ σ r):=by
 dsimp only [Eh_]at hh
 have f0_0b:=f0_0.rv.big
 have f1_0b:=f1_0.rv.big
 refine Con.mk (n:=27) Tryz.func68 z z z (fun w0=> ?_)
 refine TC.a (TL.s z z (TL.en (TC.a (TL.s z z (TL.w z (lenC z underlying86 z) ?_)))))
 obtain ⟨u4,hh⟩:=dx_ hh
 refine TL.op z (ax_ (enc:=em_) false z underlying29 sz4 by4 ze4 z z z z (by omega) (by decide) d5_ (by decide) z e1_ (fun a101 c102=> ?_))
 refine TL.s z z (TL.en (TC.seq (TC.a (TL.s z z (TL.w z (lenC z underlying86 z) (TL.i z z (TL.en (TC.block (TC.ap_ (α:=(B_1×Nat)×(Unit)) (rgs [(6,2),(13,13)]) (fun g=>[(13,.int .i64 ((g.1.2:Nat):Int))]) (fun g=>[Res.rowS 4 1 em_ (.slice a101 (List.replicate x1.length false).length c102) g.1.1]) (fun g=>σ) (fun g=>ec_ (fun q:B_1×Nat=>Bd_ x1 x0 q.1 q.2) g.1=some r∧g.1.1.length=(List.replicate x1.length false).length) (fun g=>d7_ (fun q:B_1×Nat=>Bd_ x1 x0 q.1 q.2) g.1) (((List.replicate x1.length false),0),()) (Sub.pre 1 z) z (by repeat (first|exact trivial|refine ⟨z,?_⟩)) ⟨hh,z⟩ (fun g1 j1 hg1=> ?_))))))))))
 obtain ⟨⟨l110,k112⟩,_⟩:=g1
 obtain ⟨hh,hn111⟩:=hg1
 try dsimp only at hn111 ⊢
 obtain ⟨z1,hh,hR1⟩:=eb_ hh
 dsimp only [Bd_]at hh
 refine TC.isSl (i:=0) z (fun _ hb113 _=> ?_)
 refine TC.a (TL.w z (OpVal.lss z z z) (TL.en (TC.seq (TC.cD z hh (fun h114 hh=> ?_) (fun h114 hh=> ?_)))))
 ·refine TC.skip (S.n (TC.seq (TC.block (TC.a (TL.i z z (TL.w z (ag_ z underlying86 sz3 z z f1_0.rv.sl (by omega)) (TL.w z (aj_ (0:Int) z ag3 z f1_0 (by omega) z) (TL.i z z (TL.i z z (TL.en (TC.region (TL.s z z (TL.i z z (TL.s z z (TL.i z z ?_)))))))))))))))
  obtain ⟨u19,hh⟩:=dx_ hh
  refine TL.w z (OpVal.index z underlying29 sz4 z z f0_0.rv.sl u19.1 u19.2) (TL.w z (aj_ false z ag4 z f0_0 (by omega) z) ?_)
  obtain ⟨u21,hh⟩:=dx_ hh
  refine TL.isSl (i:=0) z (fun hs115 _ _=> ?_)
  refine TL.w z (ag_ z underlying29 sz4 z z hs115 (by omega)) ?_
  have hn116:(l110.set k112 (nth x0 ((nth x1 k112 0).toNat) false)).length=(List.replicate x1.length false).length:=by rw [List.length_set];exact hn111
  refine TL.op z (au_ (nth x0 ((nth x1 k112 0).toNat) false) z sz4 z z z z d5_ e1_ (by omega) (by omega) ?_)
  refine TL.nil (B.n (S.n (TC.region (TL.w z (OpVal.succ z z z (by omega)) (TL.i z z (TL.en ?_))))))
  obtain ⟨hh,hlt117⟩:=en_ hR1 hh
  exact lf (((l110.set k112 (nth x0 ((nth x1 k112 0).toNat) false)),(k112+1)),()) hlt117 ⟨hh,hn116⟩ (Sub.pre 1 z)
 refine TC.exit (S.x (S.x ?_))
 replace hh:=d9_ hR1 hh
 refine TC.ad_ (S.n (TC.a (TL.s z z (TL.s z z (TL.en ?_)))))
 rw [←hn111]
 refine TC.ret ?_
 obtain rfl:=so hh
 exact ro [rs_ 4 em_ a101 c102 l110] z (RVs.tmp z RVs.nil) ⟨a101,c102,z,z,z⟩
def Bh_(x1:N_1)(x0:T_2)(l110:T_2)(k112:Nat):Option ((T_2×Nat)⊕(T_2)):=
 d2_ (decide ((k112:Int)<((x1.length:Nat):Int))) (grd (0≤(nth x1 k112 0)∧(nth x1 k112 0)<(x0.length:Int)) (grd (k112<l110.length) (nxt ((l110.set k112 (nth x0 ((nth x1 k112 0).toNat) [])),(k112+1))))) (fin (some l110))
def Eb_(x0:T_2)(x1:N_1):Option (T_2):=
 grd (16 * x1.length≤281474976710656) (ec_ (fun q:T_2×Nat=>Bh_ x1 x0 q.1 q.2) ((List.replicate x1.length ([]:T_1)),0))
def Gw_(σ:ds_)(r:T_2):Value→ds_→List Res→Prop:=fun v σ' H'=>
 ∃a1 c1,v= .slice a1 r.length c1∧σ=σ'∧H'=[rs_ 9 eS_ a1 c1 r]
theorem Ek_{σ:ds_}{x0:T_2}{a0_0:Option Addr}{c0_0:Nat}{x1:N_1}{a1_0:Option Addr}{c1_0:Nat}(f0_0:rS_ σ eS_ a0_0 c0_0 x0)(f1_0:rS_ σ eI_ a1_0 c1_0 x1){r:T_2}(hh:Eb_ x0 x1=some r):
  Con Tryz.prog 69 #[.slice a0_0 x0.length c0_0,.slice a1_0 x1.length c1_0] σ [] (Gw_ σ r):=by
 dsimp only [Eb_]at hh
 have f0_0b:=f0_0.rv.big
 have f1_0b:=f1_0.rv.big
 refine Con.mk (n:=27) Tryz.func69 z z z (fun w0=> ?_)
 refine TC.a (TL.s z z (TL.en (TC.a (TL.s z z (TL.w z (lenC z underlying86 z) ?_)))))
 obtain ⟨u4,hh⟩:=dx_ hh
 refine TL.op z (ax_ (enc:=eS_) ([]:T_1) z underlying30 sz9 by9 ze9 z z z z (by omega) (by decide) ed_ (by decide) z na_ (fun a101 c102=> ?_))
 refine TL.s z z (TL.en (TC.seq (TC.a (TL.s z z (TL.w z (lenC z underlying86 z) (TL.i z z (TL.en (TC.block (TC.ap_ (α:=(T_2×Nat)×(Unit)) (rgs [(6,2),(13,13)]) (fun g=>[(13,.int .i64 ((g.1.2:Nat):Int))]) (fun g=>[Res.rowS 9 1 eS_ (.slice a101 (List.replicate x1.length ([]:T_1)).length c102) g.1.1]) (fun g=>σ) (fun g=>ec_ (fun q:T_2×Nat=>Bh_ x1 x0 q.1 q.2) g.1=some r∧g.1.1.length=(List.replicate x1.length ([]:T_1)).length) (fun g=>d7_ (fun q:T_2×Nat=>Bh_ x1 x0 q.1 q.2) g.1) (((List.replicate x1.length ([]:T_1)),0),()) (Sub.pre 1 z) z (by repeat (first|exact trivial|refine ⟨z,?_⟩)) ⟨hh,z⟩ (fun g1 j1 hg1=> ?_))))))))))
 obtain ⟨⟨l110,k112⟩,_⟩:=g1
 obtain ⟨hh,hn111⟩:=hg1
 try dsimp only at hn111 ⊢
 obtain ⟨z1,hh,hR1⟩:=eb_ hh
 dsimp only [Bh_]at hh
 refine TC.isSl (i:=0) z (fun _ hb113 _=> ?_)
 refine TC.a (TL.w z (OpVal.lss z z z) (TL.en (TC.seq (TC.cD z hh (fun h114 hh=> ?_) (fun h114 hh=> ?_)))))
 ·refine TC.skip (S.n (TC.seq (TC.block (TC.a (TL.i z z (TL.w z (ag_ z underlying86 sz3 z z f1_0.rv.sl (by omega)) (TL.w z (aj_ (0:Int) z ag3 z f1_0 (by omega) z) (TL.i z z (TL.i z z (TL.en (TC.region (TL.s z z (TL.i z z (TL.s z z (TL.i z z ?_)))))))))))))))
  obtain ⟨u19,hh⟩:=dx_ hh
  refine TL.w z (OpVal.index z underlying30 sz9 z z f0_0.rv.sl u19.1 u19.2) (TL.w z (aj_ ([]:T_1) z ag9 z f0_0 (by omega) z) ?_)
  obtain ⟨u21,hh⟩:=dx_ hh
  refine TL.isSl (i:=0) z (fun hs115 _ _=> ?_)
  refine TL.w z (ag_ z underlying30 sz9 z z hs115 (by omega)) ?_
  have hn116:(l110.set k112 (nth x0 ((nth x1 k112 0).toNat) [])).length=(List.replicate x1.length ([]:T_1)).length:=by rw [List.length_set];exact hn111
  refine TL.op z (au_ (nth x0 ((nth x1 k112 0).toNat) []) z sz9 z z z z ed_ na_ (by omega) (by omega) ?_)
  refine TL.nil (B.n (S.n (TC.region (TL.w z (OpVal.succ z z z (by omega)) (TL.i z z (TL.en ?_))))))
  obtain ⟨hh,hlt117⟩:=en_ hR1 hh
  exact lf (((l110.set k112 (nth x0 ((nth x1 k112 0).toNat) [])),(k112+1)),()) hlt117 ⟨hh,hn116⟩ (Sub.pre 1 z)
 refine TC.exit (S.x (S.x ?_))
 replace hh:=d9_ hR1 hh
 refine TC.ad_ (S.n (TC.a (TL.s z z (TL.s z z (TL.en ?_)))))
 rw [←hn111]
 refine TC.ret ?_
 obtain rfl:=so hh
 exact ro [rs_ 9 eS_ a101 c102 l110] z (RVs.tmp z RVs.nil) ⟨a101,c102,z,z,z⟩
def D0_(k257:Nat)(l269:N_1):Option ((N_1×Nat)⊕((N_2×T_3×Nat)⊕(Seq×Int))):=
 nxt (l269,(k257+1))
def Bz_(v24:N_1×Int)(v33:N_1×N_1)(l171:N_2)(l177:T_3)(v5:Seq×Int)(k182:Nat)(l254:N_1)(k257:Nat):Option ((N_1×Nat)⊕((N_2×T_3×Nat)⊕(Seq×Int))):=
 d2_ (decide ((k257:Int)<(((List.replicate 256 (0:Int)).length:Nat):Int))) (grd (k257<l254.length) (d2_ (decide (0≤(nth l254 k257 0))) (grd (0≤(nth l254 k257 0)∧(nth l254 k257 0)<(v24.1.length:Int)) (grd (0≤(nth v24.1 ((nth l254 k257 0).toNat) 0)∧(nth v24.1 ((nth l254 k257 0).toNat) 0)<(v33.2.length:Int)) (grd (k257<l254.length) (D0_ k257 (l254.set k257 (nth v33.2 ((nth v24.1 ((nth l254 k257 0).toNat) 0).toNat) 0)))))) (D0_ k257 l254))) (fin (grd ((l171.length+[l254].length) * 24≤140737488355328) (grd ((l177.length+[((List.replicate 256 ([]:T_1)).take 0++((nth v5.1.outs ((nth v33.1 k182 0).toNat) []).take (min (nth v5.1.outs ((nth v33.1 k182 0).toNat) []).length (List.replicate 256 ([]:T_1)).length)++(List.replicate 256 ([]:T_1)).drop (0+(min (nth v5.1.outs ((nth v33.1 k182 0).toNat) []).length (List.replicate 256 ([]:T_1)).length))))].length) * 24≤140737488355328) (nxt ((l171++[l254]),(l177++[((List.replicate 256 ([]:T_1)).take 0++((nth v5.1.outs ((nth v33.1 k182 0).toNat) []).take (min (nth v5.1.outs ((nth v33.1 k182 0).toNat) []).length (List.replicate 256 ([]:T_1)).length)++(List.replicate 256 ([]:T_1)).drop (0+(min (nth v5.1.outs ((nth v33.1 k182 0).toNat) []).length (List.replicate 256 ([]:T_1)).length))))]),(k182+1))))))
def D2_(v33:N_1×N_1)(k182:Nat)(v5:Seq×Int)(v24:N_1×Int)(l171:N_2)(l177:T_3):Option ((N_2×T_3×Nat)⊕(Seq×Int)):=
 grd (0≤(nth v33.1 k182 0)∧(nth v33.1 k182 0)<(v5.1.next.length:Int)) (grd (0≤(nth v33.1 k182 0)∧(nth v33.1 k182 0)<(v5.1.outs.length:Int)) (ec_ (fun q:N_1×Nat=>Bz_ v24 v33 l171 l177 v5 k182 q.1 q.2) (((List.replicate 256 (0:Int)).take 0++((nth v5.1.next ((nth v33.1 k182 0).toNat) []).take (min (nth v5.1.next ((nth v33.1 k182 0).toNat) []).length (List.replicate 256 (0:Int)).length)++(List.replicate 256 (0:Int)).drop (0+(min (nth v5.1.next ((nth v33.1 k182 0).toNat) []).length (List.replicate 256 (0:Int)).length)))),0)))
def By_(v33:N_1×N_1)(v5:Seq×Int)(v24:N_1×Int)(l113:B_1)(l117:T_2)(l171:N_2)(l177:T_3)(k182:Nat):Option ((N_2×T_3×Nat)⊕(Seq×Int)):=
 d2_ (decide ((k182:Int)<((v33.1.length:Nat):Int))) (D2_ v33 k182 v5 v24 l171 l177) (fin (some ((⟨v5.1.front,l171,l177,l113,l117⟩:Seq),0)))
def Eq_(v33:N_1×N_1)(v5:Seq×Int)(v24:N_1×Int)(l113:B_1)(l117:T_2):Option (Seq×Int):=
 ec_ (fun q:N_2×T_3×Nat=>By_ v33 v5 v24 l113 l117 q.1 q.2.1 q.2.2) (([]:N_2),([]:T_3),0)
def Dq_(x0:Seq):Option (Seq×Int):=
 bnd (D9_ x0) (fun v5=>d2_ (decide (v5.2≠0)) (some ((⟨([]:T_1),([]:N_2),([]:T_3),([]:B_1),([]:T_2)⟩:Seq),v5.2)) (d2_ (decide (((v5.1.next.length:Nat):Int)=0)) (some ((⟨([]:T_1),([]:N_2),([]:T_3),([]:B_1),([]:T_2)⟩:Seq),v5.2)) (bnd (Ea_ v5.1) (fun v24=>bnd (Dt_ v5.1 v24.1 v24.2) (fun v33=>bnd (Eh_ v5.1.fin v33.1) (fun v44=>bnd (Eb_ v5.1.tail v33.1) (fun v48=>Eq_ v33 v5 v24 v44 v48)))))))
def Ha_(σ:ds_)(r:Seq×Int):Value→ds_→List Res→Prop:=fun v σ' H'=>
 ∃a1 c1 a2 c2 a3 c3 a4 c4,v= .tuple #[.agg (aq_ r.1 a1 c1 a2 c2 a3 c3 a4 c4),.int .i64 r.2]∧RZ σ' (dy_ 1 eI_ d8_) (.slice a1 r.1.next.length c1) r.1.next∧RZ σ' (dy_ 1 eS_ ed_) (.slice a2 r.1.outs.length c2) r.1.outs∧rS_ σ' em_ a3 c3 r.1.fin∧rS_ σ' eS_ a4 c4 r.1.tail∧H'=[]
theorem Fy_{σ:ds_}{x0:Seq}{a0_0:Option Addr}{c0_0:Nat}{a0_1:Option Addr}{c0_1:Nat}{a0_2:Option Addr}{c0_2:Nat}{a0_3:Option Addr}{c0_3:Nat}(hgl:GT2 σ 1 2)(f0_0:RZ σ (dy_ 1 eI_ d8_) (.slice a0_0 x0.next.length c0_0) x0.next)(f0_1:RZ σ (dy_ 1 eS_ ed_) (.slice a0_1 x0.outs.length c0_1) x0.outs)(f0_2:rS_ σ em_ a0_2 c0_2 x0.fin)(f0_3:rS_ σ eS_ a0_3 c0_3 x0.tail){r:Seq×Int}(hh:Dq_ x0=some r):
  Con Tryz.prog 29 #[.agg (aq_ x0 a0_0 c0_0 a0_1 c0_1 a0_2 c0_2 a0_3 c0_3)] σ [] (Ha_ σ r):=by
 dsimp only [Dq_]at hh
 have f0_0b:=f0_0.big
 have f0_1b:=f0_1.big
 have f0_2b:=f0_2.rv.big
 have f0_3b:=f0_3.rv.big
 refine Con.mk (n:=110) Tryz.func29 z z z (fun w0=> ?_)
 refine TC.a (TL.op z (boxA z z z z (fun b101=> ?_)))
 refine TL.op z (OpOk.alloc z i0_ z z (fun b103=> ?_))
 refine TL.i z z (TL.en (TC.a (TL.w z (ao_ z hd_ fi_ z (i:=1) z z) ?_)))
 obtain ⟨v5,u5,hh⟩:=d4_ hh
 refine TL.op z (OpOk.call (Gp_ (x0:=x0) f0_0 f0_1 f0_2 f0_3 u5) z z pf35 z z z z ?_)
 rintro _ τ105 _ hle105 ⟨a105_1,c105_1,a105_2,c105_2,a105_3,c105_3,a105_4,c105_4,rfl,hr105_0,hr105_1,hr105_2,hr105_3,rfl⟩
 replace hgl:=hgl.mono hle105
 have hr105_0b:=hr105_0.big
 have hr105_1b:=hr105_1.big
 have hr105_2b:=hr105_2.rv.big
 have hr105_3b:=hr105_3.rv.big
 refine TL.w z (ba_ (.inl z) z) (TL.w z (OpVal.extract z z z) (TL.w z (OpVal.extract z z z) (TL.front 1 z z (TL.op z (storeAll z fi_ z z z z z z ?_)))))
 refine TL.i z z (TL.en (TC.seq (TC.a (TL.i z z (TL.w z (OpVal.neq z z z) (TL.j z z (TL.split 23 z (fun h106=> ?_) (fun h106=> ?_))))))))
 ·replace hh:=ei_ h106 hh
  replace h106:=of_decide_eq_true h106
  refine TL.f z (TL.f z (TL.f z (TL.f z (TL.w z (al_ z z z) (TL.en (TC.t z (TC.a (TL.w z (ar_ z po_ i0_ z) (TL.i z z (TL.front 1 z z (TL.op z (storeAll z fi_ z z z z z z ?_))))))))))))
  refine TL.i z z (TL.en (TC.rt 1 (S.r ?_)))
  obtain rfl:=so hh
  exact ro [] z (RVs.agg hd_ fi_ z (i:=0) z z (RVs.tmp z RVs.nil)) ⟨none,0,none,0,none,0,none,0,z,(RZ.nilF _ (dy_ 1 eI_ d8_)),(RZ.nilF _ (dy_ 1 eS_ ed_)),(RS.nilF _ em_ d5_),(RS.nilF _ eS_ ed_),z⟩
 replace hh:=ej_ h106 hh
 replace h106:=of_decide_eq_false h106
 refine TL.g z (aa_ z ey_ z) (TL.g z (ab_ z hv_ z (i:=0) z z) (TL.g z (lenC z underlying27 z) (TL.g z (OpVal.eql z z z) (TL.w z (ak_ z z z) (TL.en (TC.cD z hh (fun h107 hh=> ?_) (fun h107 hh=> ?_)))))))
 ·refine TC.a (TL.w z (ar_ z po_ i0_ z) (TL.i z z (TL.front 1 z z (TL.op z (storeAll z fi_ z z z z z z ?_)))))
  refine TL.i z z (TL.en (TC.rt 1 (S.r ?_)))
  obtain rfl:=so hh
  exact ro [] z (RVs.agg hd_ fi_ z (i:=0) z z (RVs.tmp z RVs.nil)) ⟨none,0,none,0,none,0,none,0,z,(RZ.nilF _ (dy_ 1 eI_ d8_)),(RZ.nilF _ (dy_ 1 eS_ ed_)),(RS.nilF _ em_ d5_),(RS.nilF _ eS_ ed_),z⟩
 refine TC.skip (S.n (TC.a (TL.w z (ao_ z hd_ fi_ z (i:=0) z z) ?_)))
 obtain ⟨v24,u24,hh⟩:=d4_ hh
 refine TL.op z (OpOk.call (Gk_ (x0:=v5.1) hgl hr105_0 hr105_1 hr105_2 hr105_3 u24) z z pf66 z z z z ?_)
 rintro _ τ108 _ hle108 ⟨a108_1,c108_1,rfl,hr108_0,rfl⟩
 replace hr105_0:=hr105_0.mono hle108
 replace hr105_1:=hr105_1.mono hle108
 replace hr105_2:=hr105_2.mono hle108
 replace hr105_3:=hr105_3.mono hle108
 have hr108_0b:=hr108_0.rv.big
 refine TL.w z (ba_ (.inl z) z) (TL.w z (OpVal.extract z z z) (TL.w z (OpVal.extract z z z) (TL.s z z (TL.i z z (TL.en (TC.a (TL.w z (ao_ z hd_ fi_ z (i:=0) z z) (TL.s z z (TL.i z z ?_)))))))))
 obtain ⟨v33,u33,hh⟩:=d4_ hh
 refine TL.op z (OpOk.call (Gf_ (x0:=v5.1) hr105_0 hr105_1 hr105_2 hr105_3 hr108_0 u33) z z pf67 z z z z ?_)
 rintro _ τ109 _ hle109 ⟨a109_1,c109_1,a109_2,c109_2,rfl,hr109_0,hr109_1,rfl⟩
 replace hr105_0:=hr105_0.mono hle109
 replace hr105_1:=hr105_1.mono hle109
 replace hr105_2:=hr105_2.mono hle109
 replace hr105_3:=hr105_3.mono hle109
 replace hr108_0:=hr108_0.mono hle109
 have hr109_0b:=hr109_0.rv.big
 have hr109_1b:=hr109_1.rv.big
 refine TL.w z (ba_ (.inl z) z) (TL.w z (OpVal.extract z z z) (TL.w z (OpVal.extract z z z) (TL.s z z (TL.s z z (TL.en (TC.cutG (α:=(B_1×T_2)×(Nat×(Option Addr)×Nat×(Option Addr)×Nat)) (rgs [(9,1),(43,11)]) (fun g=>[(9,loc g.2.1 0)]) (fun g=>[cq_ b101 v5.1 a105_1 c105_1 a105_2 c105_2 a105_3 c105_3 a105_4 c105_4,Res.cells b103 #[.string (bs ([]:T_1)),.slice none 0 0,.slice none 0 0,.slice none 0 0,.slice none 0 0] 32,Res.cells g.2.1 #[.string (bs v5.1.front),.slice none 0 0,.slice none 0 0,.slice g.2.2.1 g.1.1.length g.2.2.2.1,.slice g.2.2.2.2.1 g.1.2.length g.2.2.2.2.2] 32,Res.rowS 4 1 em_ (.slice g.2.2.1 g.1.1.length g.2.2.2.1) g.1.1,Res.rowS 9 1 eS_ (.slice g.2.2.2.2.1 g.1.2.length g.2.2.2.2.2) g.1.2]) (fun g=>τ109) (fun g=>Eq_ v33 v5 v24 g.1.1 g.1.2=some r) ?_ (fun g j hg=> ?_)))))))
 ·skip
  obtain ⟨v44,u44,hh⟩:=d4_ hh
  obtain ⟨v48,u48,hh⟩:=d4_ hh
  refine TC.draw [12] (by kernel_rfl) (TA.a 0 z (aa_ z h3_ z) z (TA.b 1 z (ab_ z ag9 z (i:=0) z z) z (TA.a 2 z (aa_ z fu_ z) z (TA.b 3 z (ab_ z nb_ z (i:=0) z z) z (TA.a 4 z (ai_ (.inl z) z) z (TA.a 6 z (aa_ z f2_ z) z (TA.b 7 z (ab_ z iz_ z (i:=0) z z) z (TA.a 8 z (ai_ (.inl z) z) z (TA.actN [5,11] (by kernel_rfl) (an z z (OpOk.call (Fg_ hr105_2 hr109_0 u44) z z pf68 z z z z ?_) (an z z (OpOk.alloc z i0_ z z (fun b128=>(k1 ?_))) (True.intro))))))))))))
  ·skip
   rintro _ _ _ hle126 ⟨a126_1,c126_1,rfl,rfl,rfl⟩
   refine k1 (TA.actN [9,11] (by kernel_rfl) (an z z (OpOk.call (Ek_ hr105_3 hr109_0 u48) z z pf69 z z z z ?_) (an z z (OpOk.alloc z i0_ z z (fun b132=>(k2 ?_))) (True.intro))))
   ·skip
    rintro _ _ _ hle130 ⟨a130_1,c130_1,rfl,rfl,rfl⟩
    refine k2 (TA.a 10 z (ar_ z po_ i0_ z) z (TA.ac 11 z (OpOk.alloc z i0_ z z (fun b134=>(k3 ?_)))))
    refine TA.last 12 (by kernel_rfl) z z z (storeAll z fi_ z z z z z z ?_)
    exact TZ.done (by kernel_rfl) (S.n (cf ((v44,v48),(b134,a126_1,c126_1,a130_1,c130_1)) hh (Sub.f [1,2,2,4,4] 5)))
   skip
   refine TA.ac 9 z (OpOk.call (Ek_ hr105_3 hr109_0 u48) z z pf69 z z z z ?_)
   rintro _ _ _ hle136 ⟨a136_1,c136_1,rfl,rfl,rfl⟩
   refine k3 (TA.a 10 z (ar_ z po_ i0_ z) z (TA.front 1 z z (TA.last 12 (by kernel_rfl) z z z (storeAll z fi_ z z z z z z ?_))))
   exact TZ.done (by kernel_rfl) (S.n (cf ((v44,v48),(b132,a126_1,c126_1,a136_1,c136_1)) hh (Sub.f [1,2,2,4,4] 5)))
  skip
  refine TA.ac 5 z (OpOk.call (Fg_ hr105_2 hr109_0 u44) z z pf68 z z z z ?_)
  rintro _ _ _ hle138 ⟨a138_1,c138_1,rfl,rfl,rfl⟩
  refine k2 (TA.ac 9 z (OpOk.call (Ek_ hr105_3 hr109_0 u48) z z pf69 z z z z ?_))
  rintro _ _ _ hle140 ⟨a140_1,c140_1,rfl,rfl,rfl⟩
  refine k3 (TA.a 10 z (ar_ z po_ i0_ z) z (TA.front 2 z z (TA.last 12 (by kernel_rfl) z z z (storeAll z fi_ z z z z z z ?_))))
  exact TZ.done (by kernel_rfl) (S.n (cf ((v44,v48),(b128,a138_1,c138_1,a140_1,c140_1)) hh (Sub.f [1,2,2,4,4] 5)))
 skip
 obtain ⟨⟨l113,l117⟩,⟨b111,a114,c115,a118,c119⟩⟩:=g
 have hh:=hg;clear hg
 try dsimp only
 dsimp only [Eq_]at hh
 refine TC.isSl (i:=3) z (fun _ hb142 _=> ?_)
 refine TC.isSl (i:=4) z (fun _ hb143 _=> ?_)
 refine TC.seq (TC.a (TL.s z z (TL.w z (lenC z underlying86 z) (TL.i z z (TL.en (TC.block (TC.nilS 86 1 (dy_ 1 eI_ d8_).en ?_)))))))
 have zf183:=ZOk.nil τ109 (dy_ 1 eI_ d8_)
 refine TC.nilS 30 1 (dy_ 1 eS_ ed_).en ?_
 have zf185:=ZOk.nil τ109 (dy_ 1 eS_ ed_)
 refine TC.ap_ (α:=(N_2×T_3×Nat)×((Option Addr)×Nat×(List (N_1×(dy_ 1 eI_ d8_).P))×(Option Addr)×Nat×(List (T_2×(dy_ 1 eS_ ed_).P))×ds_)) (rgs [(11,5),(56,53)]) (fun g=>[(56,.int .i64 ((g.1.2.2:Nat):Int))]) (fun g=>[cq_ b101 v5.1 a105_1 c105_1 a105_2 c105_2 a105_3 c105_3 a105_4 c105_4,Res.cells b103 #[.string (bs ([]:T_1)),.slice none 0 0,.slice none 0 0,.slice none 0 0,.slice none 0 0] 32,Res.cells b111 #[.string (bs v5.1.front),.slice g.2.1 g.1.1.length g.2.2.1,.slice g.2.2.2.2.1 g.1.2.1.length g.2.2.2.2.2.1,.slice a114 l113.length c115,.slice a118 l117.length c119] 32,Res.rowS 86 1 (dy_ 1 eI_ d8_).en (.slice g.2.1 g.1.1.length g.2.2.1) g.2.2.2.1,Res.rowS 30 1 (dy_ 1 eS_ ed_).en (.slice g.2.2.2.2.1 g.1.2.1.length g.2.2.2.2.2.1) g.2.2.2.2.2.2.1,rs_ 4 em_ a114 c115 l113,rs_ 9 eS_ a118 c119 l117]) (fun g=>g.2.2.2.2.2.2.2) (fun g=>ec_ (fun q:N_2×T_3×Nat=>By_ v33 v5 v24 l113 l117 q.1 q.2.1 q.2.2) g.1=some r∧ZOk g.2.2.2.2.2.2.2 (dy_ 1 eI_ d8_) g.2.2.2.1 g.1.1∧ZOk g.2.2.2.2.2.2.2 (dy_ 1 eS_ ed_) g.2.2.2.2.2.2.1 g.1.2.1∧ds_.le τ109 g.2.2.2.2.2.2.2) (fun g=>d7_ (fun q:N_2×T_3×Nat=>By_ v33 v5 v24 l113 l117 q.1 q.2.1 q.2.2) g.1) ((([]:N_2),([]:T_3),0),(none,0,[],none,0,[],τ109)) (Sub.f [6,6,2,3,6,6,6] 7) z (by repeat (first|exact trivial|refine ⟨z,?_⟩)) ⟨hh,zf183,zf185,(ds_.le.refl _)⟩ (fun g1 j1 hg1=> ?_)
 obtain ⟨⟨l171,l177,k182⟩,⟨a172,c173,z174,a178,c179,z180,τ187⟩⟩:=g1
 obtain ⟨hh,zf175,zf181,hle188⟩:=hg1
 try dsimp only at zf175
 try dsimp only at zf181
 dsimp only at hle188
 replace hr105_0:=hr105_0.mono hle188
 replace hr105_1:=hr105_1.mono hle188
 replace hr108_0:=hr108_0.mono hle188
 replace hr109_0:=hr109_0.mono hle188
 replace hr109_1:=hr109_1.mono hle188
 try dsimp only
 obtain ⟨z1,hh,hR1⟩:=eb_ hh
 dsimp only [By_]at hh
 have zf175b:=zf175.length
 have zf181b:=zf181.length
 refine TC.isSl (i:=3) z (fun _ hb189 _=> ?_)
 refine TC.isSl (i:=4) z (fun _ hb190 _=> ?_)
 refine TC.isSl (i:=5) z (fun _ hb191 _=> ?_)
 refine TC.isSl (i:=6) z (fun _ hb192 _=> ?_)
 refine TC.a (TL.w z (OpVal.lss z z z) (TL.en (TC.seq (TC.cD z hh (fun h193 hh=> ?_) (fun h193 hh=> ?_)))))
 ·refine TC.skip (S.n (TC.seq (TC.block (TC.a (TL.w z (ag_ z underlying86 sz3 z z hr109_0.rv.sl (by omega)) (TL.w z (aj_ (0:Int) z ag3 z hr109_0 (by omega) z) (TL.i z z (TL.en (TC.cutG (α:=(Unit)×((Option Addr)×Nat×(Option Addr)×Nat×ds_)) [12,13,60,61] (fun g=>[(12,.slice g.2.1 ((List.replicate 256 (0:Int)).length) g.2.2.1),(13,.slice g.2.2.2.1 ((List.replicate 256 ([]:T_1)).length) g.2.2.2.2.1)]) (fun g=>[cq_ b101 v5.1 a105_1 c105_1 a105_2 c105_2 a105_3 c105_3 a105_4 c105_4,Res.cells b103 #[.string (bs ([]:T_1)),.slice none 0 0,.slice none 0 0,.slice none 0 0,.slice none 0 0] 32,Res.cells b111 #[.string (bs v5.1.front),.slice a172 l171.length c173,.slice a178 l177.length c179,.slice a114 l113.length c115,.slice a118 l117.length c119] 32,Res.rowS 86 1 (dy_ 1 eI_ d8_).en (.slice a172 l171.length c173) z174,Res.rowS 30 1 (dy_ 1 eS_ ed_).en (.slice a178 l177.length c179) z180,rs_ 4 em_ a114 c115 l113,rs_ 9 eS_ a118 c119 l117,Res.rowS 3 1 eI_ (.slice g.2.1 (List.replicate 256 (0:Int)).length g.2.2.1) (List.replicate 256 (0:Int)),Res.rowS 9 1 eS_ (.slice g.2.2.2.1 (List.replicate 256 ([]:T_1)).length g.2.2.2.2.1) (List.replicate 256 ([]:T_1))]) (fun g=>g.2.2.2.2.2) (fun g=>D2_ v33 k182 v5 v24 l171 l177=some z1∧ZOk g.2.2.2.2.2 (dy_ 1 eI_ d8_) z174 l171∧ZOk g.2.2.2.2.2 (dy_ 1 eS_ ed_) z180 l177∧ds_.le τ187 g.2.2.2.2.2) ?_ (fun g j hg=> ?_))))))))))
  ·skip
   refine TC.draw [] (by kernel_rfl) (TA.actN [0,1] (by kernel_rfl) (an z z (ax_ (m:=256) (enc:=eI_) (0:Int) z underlying86 sz3 by3 ze3 z z z z (by omega) (by decide) d8_ (by decide) z hl_ (fun a208 c209=>(k1 ?_))) (an z z (ax_ (m:=256) (enc:=eS_) ([]:T_1) z underlying30 sz9 by9 ze9 z z z z (by omega) (by decide) ed_ (by decide) z na_ (fun a211 c212=>(k1 ?_))) (True.intro))))
   ·skip
    refine TA.a 2 z (ai_ (.inr z) z) z (TA.ac 1 z (ax_ (m:=256) (enc:=eS_) ([]:T_1) z underlying30 sz9 by9 ze9 z z z z (by omega) (by decide) ed_ (by decide) z na_ (fun a214 c215=>(k2 ?_))))
    exact TA.a 3 z (ai_ (.inr z) z) z (TA.dn (S.n (cf ((),(a208,c209,a214,c215,τ187)) ⟨hh,zf175,zf181,(ds_.le.refl _)⟩ (Sub.f [1,8,8,8,8,8,8,8] 9))))
   skip
   refine TA.ac 0 z (ax_ (m:=256) (enc:=eI_) (0:Int) z underlying86 sz3 by3 ze3 z z z z (by omega) (by decide) d8_ (by decide) z hl_ (fun a217 c218=>(k2 ?_)))
   exact TA.a 2 z (ai_ (.inr z) z) z (TA.a 3 z (ai_ (.inr z) z) z (TA.dn (S.n (cf ((),(a217,c218,a211,c212,τ187)) ⟨hh,zf175,zf181,(ds_.le.refl _)⟩ (Sub.f [1,1,8,8,8,8,8,8,8] 9)))))
  skip
  obtain ⟨_,⟨a197,c198,a200,c201,τ220⟩⟩:=g
  obtain ⟨hh,zf194,zf195,hle221⟩:=hg
  try dsimp only at zf194
  try dsimp only at zf195
  dsimp only at hle221
  replace hr105_0:=hr105_0.mono hle221
  replace hr105_1:=hr105_1.mono hle221
  replace hr108_0:=hr108_0.mono hle221
  replace hr109_1:=hr109_1.mono hle221
  replace zf175:=zf175.mono hle221
  replace zf181:=zf181.mono hle221
  try dsimp only
  dsimp only [D2_]at hh
  have zf194b:=zf194.length
  have zf195b:=zf195.length
  refine TC.isSl (i:=3) z (fun _ hb222 _=> ?_)
  refine TC.isSl (i:=4) z (fun _ hb223 _=> ?_)
  refine TC.isSl (i:=5) z (fun _ hb224 _=> ?_)
  refine TC.isSl (i:=6) z (fun _ hb225 _=> ?_)
  refine TC.isSl (i:=7) z (fun _ hb226 _=> ?_)
  refine TC.isSl (i:=8) z (fun _ hb227 _=> ?_)
  refine TC.a (TL.s z z (TL.w z (aa_ z ey_ z) (TL.w z (ab_ z hv_ z (i:=0) z z) (TL.i z z ?_))))
  obtain ⟨u67,hh⟩:=dx_ hh
  refine TL.w z (OpVal.index z underlying27 e4_ z z hr105_0.isSl u67.1 u67.2) ?_
  obtain ⟨p228,hk228,hg228⟩:=RZ.seg hr105_0 ((nth v33.1 k182 0).toNat) (by omega)
  replace hk228:rS_ _ eI_ p228.1 p228.2 (nth v5.1.next ((nth v33.1 k182 0).toNat) []):=hk228
  have hk228b:=hk228.rv.big
  refine TL.w z (OpVal.of (an_ z ie_ z hg228 z) (v':= .slice p228.1 ((nth v5.1.next ((nth v33.1 k182 0).toNat) []).length) p228.2) z) (TL.isSl (i:=7) z (fun hs229 _ _=> ?_))
  refine TL.front 7 z z ?_
  have hn231:((List.replicate 256 (0:Int)).take 0++((nth v5.1.next ((nth v33.1 k182 0).toNat) []).take (min (nth v5.1.next ((nth v33.1 k182 0).toNat) []).length (List.replicate 256 (0:Int)).length)++(List.replicate 256 (0:Int)).drop (0+(min (nth v5.1.next ((nth v33.1 k182 0).toNat) []).length (List.replicate 256 (0:Int)).length)))).length=(List.replicate 256 (0:Int)).length:=by simp only [List.length_append,List.length_take,List.length_drop];omega
  refine TL.op rfl (c6_ (p:=0) (N:=(min (nth v5.1.next ((nth v33.1 k182 0).toNat) []).length (List.replicate 256 (0:Int)).length)) rfl underlying86 sz3 rfl rfl rfl (VwOk.self hs229) rfl rfl (by omega) rfl (z6_.sealed hk228 d8_) d8_ (by decide) hl_ (by first|rfl|((try simp only [List.length_take]);omega)) ?_)
  refine TL.en (TC.a (TL.s z z (TL.w z (aa_ z e7_ z) (TL.w z (ab_ z kv_ z (i:=1) z z) (TL.i z z ?_)))))
  obtain ⟨u74,hh⟩:=dx_ hh
  refine TL.w z (OpVal.index z underlying28 iu_ z z hr105_1.isSl u74.1 u74.2) ?_
  obtain ⟨p232,hk232,hg232⟩:=RZ.seg hr105_1 ((nth v33.1 k182 0).toNat) (by omega)
  replace hk232:rS_ _ eS_ p232.1 p232.2 (nth v5.1.outs ((nth v33.1 k182 0).toNat) []):=hk232
  have hk232b:=hk232.rv.big
  refine TL.w z (OpVal.of (an_ z iz_ z hg232 z) (v':= .slice p232.1 ((nth v5.1.outs ((nth v33.1 k182 0).toNat) []).length) p232.2) z) (TL.isSl (i:=8) z (fun hs233 _ _=> ?_))
  refine TL.front 8 z z ?_
  have hn235:((List.replicate 256 ([]:T_1)).take 0++((nth v5.1.outs ((nth v33.1 k182 0).toNat) []).take (min (nth v5.1.outs ((nth v33.1 k182 0).toNat) []).length (List.replicate 256 ([]:T_1)).length)++(List.replicate 256 ([]:T_1)).drop (0+(min (nth v5.1.outs ((nth v33.1 k182 0).toNat) []).length (List.replicate 256 ([]:T_1)).length)))).length=(List.replicate 256 ([]:T_1)).length:=by simp only [List.length_append,List.length_take,List.length_drop];omega
  refine TL.op rfl (c6_ (p:=0) (N:=(min (nth v5.1.outs ((nth v33.1 k182 0).toNat) []).length (List.replicate 256 ([]:T_1)).length)) rfl underlying30 sz9 rfl rfl rfl (VwOk.self hs233) rfl rfl (by omega) rfl (z6_.sealed hk232 ed_) ed_ (by decide) na_ (by first|rfl|((try simp only [List.length_take]);omega)) ?_)
  refine TL.en (TC.seq (TC.a (TL.s z z (TL.w z (lenC z underlying86 z) (TL.i z z (TL.en (TC.block (TC.ap_ (α:=(N_1×Nat)×(ds_)) (rgs [(14,2),(78,18)]) (fun g=>[(78,.int .i64 ((g.1.2:Nat):Int))]) (fun g=>[cq_ b101 v5.1 a105_1 c105_1 a105_2 c105_2 a105_3 c105_3 a105_4 c105_4,Res.cells b103 #[.string (bs ([]:T_1)),.slice none 0 0,.slice none 0 0,.slice none 0 0,.slice none 0 0] 32,Res.cells b111 #[.string (bs v5.1.front),.slice a172 l171.length c173,.slice a178 l177.length c179,.slice a114 l113.length c115,.slice a118 l117.length c119] 32,Res.rowS 86 1 (dy_ 1 eI_ d8_).en (.slice a172 l171.length c173) z174,Res.rowS 30 1 (dy_ 1 eS_ ed_).en (.slice a178 l177.length c179) z180,rs_ 4 em_ a114 c115 l113,rs_ 9 eS_ a118 c119 l117,Res.rowS 3 1 eI_ (.slice a197 (List.replicate 256 (0:Int)).length c198) g.1.1,Res.rowS 9 1 eS_ (.slice a200 (List.replicate 256 ([]:T_1)).length c201) ((List.replicate 256 ([]:T_1)).take 0++((nth v5.1.outs ((nth v33.1 k182 0).toNat) []).take (min (nth v5.1.outs ((nth v33.1 k182 0).toNat) []).length (List.replicate 256 ([]:T_1)).length)++(List.replicate 256 ([]:T_1)).drop (0+(min (nth v5.1.outs ((nth v33.1 k182 0).toNat) []).length (List.replicate 256 ([]:T_1)).length))))]) (fun g=>g.2) (fun g=>ec_ (fun q:N_1×Nat=>Bz_ v24 v33 l171 l177 v5 k182 q.1 q.2) g.1=some z1∧ZOk g.2 (dy_ 1 eI_ d8_) z174 l171∧ZOk g.2 (dy_ 1 eS_ ed_) z180 l177∧g.1.1.length=(List.replicate 256 (0:Int)).length∧((List.replicate 256 ([]:T_1)).take 0++((nth v5.1.outs ((nth v33.1 k182 0).toNat) []).take (min (nth v5.1.outs ((nth v33.1 k182 0).toNat) []).length (List.replicate 256 ([]:T_1)).length)++(List.replicate 256 ([]:T_1)).drop (0+(min (nth v5.1.outs ((nth v33.1 k182 0).toNat) []).length (List.replicate 256 ([]:T_1)).length)))).length=(List.replicate 256 ([]:T_1)).length∧ds_.le τ220 g.2) (fun g=>d7_ (fun q:N_1×Nat=>Bz_ v24 v33 l171 l177 v5 k182 q.1 q.2) g.1) ((((List.replicate 256 (0:Int)).take 0++((nth v5.1.next ((nth v33.1 k182 0).toNat) []).take (min (nth v5.1.next ((nth v33.1 k182 0).toNat) []).length (List.replicate 256 (0:Int)).length)++(List.replicate 256 (0:Int)).drop (0+(min (nth v5.1.next ((nth v33.1 k182 0).toNat) []).length (List.replicate 256 (0:Int)).length)))),0),τ220) (Sub.f [1,8,8,8,8,8,8,8] 9) z (by repeat (first|exact trivial|refine ⟨z,?_⟩)) ⟨hh,zf194,zf195,hn231,hn235,(ds_.le.refl _)⟩ (fun g2 j2 hg2=> ?_)))))))))
  obtain ⟨⟨l254,k257⟩,τ258⟩:=g2
  obtain ⟨hh,zf252,zf253,hn255,hn256,hle259⟩:=hg2
  try dsimp only at zf252
  try dsimp only at zf253
  try dsimp only at hn255
  try dsimp only at hn256
  dsimp only at hle259
  replace hr108_0:=hr108_0.mono hle259
  replace hr109_1:=hr109_1.mono hle259
  replace zf175:=zf175.mono hle259
  replace zf181:=zf181.mono hle259
  try dsimp only
  obtain ⟨z2,hh,hR2⟩:=eb_ hh
  dsimp only [Bz_]at hh
  have zf252b:=zf252.length
  have zf253b:=zf253.length
  refine TC.isSl (i:=3) z (fun _ hb260 _=> ?_)
  refine TC.isSl (i:=4) z (fun _ hb261 _=> ?_)
  refine TC.isSl (i:=5) z (fun _ hb262 _=> ?_)
  refine TC.isSl (i:=6) z (fun _ hb263 _=> ?_)
  refine TC.isSl (i:=7) z (fun _ hb264 _=> ?_)
  refine TC.isSl (i:=8) z (fun _ hb265 _=> ?_)
  refine TC.a (TL.w z (OpVal.lss z z z) (TL.en (TC.seq (TC.cD z hh (fun h266 hh=> ?_) (fun h266 hh=> ?_)))))
  ·refine TC.skip (S.n (TC.cutG (α:=(N_1)×(ds_)) (rgs [(14,2),(80,15)]) (fun g=>[]) (fun g=>[cq_ b101 v5.1 a105_1 c105_1 a105_2 c105_2 a105_3 c105_3 a105_4 c105_4,Res.cells b103 #[.string (bs ([]:T_1)),.slice none 0 0,.slice none 0 0,.slice none 0 0,.slice none 0 0] 32,Res.cells b111 #[.string (bs v5.1.front),.slice a172 l171.length c173,.slice a178 l177.length c179,.slice a114 l113.length c115,.slice a118 l117.length c119] 32,Res.rowS 86 1 (dy_ 1 eI_ d8_).en (.slice a172 l171.length c173) z174,Res.rowS 30 1 (dy_ 1 eS_ ed_).en (.slice a178 l177.length c179) z180,rs_ 4 em_ a114 c115 l113,rs_ 9 eS_ a118 c119 l117,Res.rowS 3 1 eI_ (.slice a197 (List.replicate 256 (0:Int)).length c198) g.1,Res.rowS 9 1 eS_ (.slice a200 (List.replicate 256 ([]:T_1)).length c201) ((List.replicate 256 ([]:T_1)).take 0++((nth v5.1.outs ((nth v33.1 k182 0).toNat) []).take (min (nth v5.1.outs ((nth v33.1 k182 0).toNat) []).length (List.replicate 256 ([]:T_1)).length)++(List.replicate 256 ([]:T_1)).drop (0+(min (nth v5.1.outs ((nth v33.1 k182 0).toNat) []).length (List.replicate 256 ([]:T_1)).length))))]) (fun g=>g.2) (fun g=>D0_ k257 g.1=some z2∧ZOk g.2 (dy_ 1 eI_ d8_) z174 l171∧ZOk g.2 (dy_ 1 eS_ ed_) z180 l177∧g.1.length=(List.replicate 256 (0:Int)).length∧((List.replicate 256 ([]:T_1)).take 0++((nth v5.1.outs ((nth v33.1 k182 0).toNat) []).take (min (nth v5.1.outs ((nth v33.1 k182 0).toNat) []).length (List.replicate 256 ([]:T_1)).length)++(List.replicate 256 ([]:T_1)).drop (0+(min (nth v5.1.outs ((nth v33.1 k182 0).toNat) []).length (List.replicate 256 ([]:T_1)).length)))).length=(List.replicate 256 ([]:T_1)).length∧ds_.le τ258 g.2) ?_ (fun g j hg=> ?_)))
   ·skip
    refine TC.block (TC.a (TL.i z z ?_))
    obtain ⟨u82,hh⟩:=dx_ hh
    refine TL.isSl (i:=7) z (fun hs272 _ _=> ?_)
    refine TL.w z (ag_ z underlying86 sz3 z z hs272 (by omega)) (TL.w z (az_ (0:Int) z ag3 z (q:=7) z d8_ (by omega) z) (TL.i z z (TL.i z z (TL.en (TC.a (TL.i z z (TL.w z (OpVal.geq z z z) (TL.en (TC.cD z hh (fun h273 hh=> ?_) (fun h273 hh=> ?_))))))))))
    ·refine TC.region (TL.s z z (TL.i z z (TL.s z z (TL.s z z (TL.i z z ?_)))))
     obtain ⟨u93,hh⟩:=dx_ hh
     refine TL.w z (OpVal.index z underlying86 sz3 z z hr108_0.rv.sl u93.1 u93.2) (TL.w z (aj_ (0:Int) z ag3 z hr108_0 (by omega) z) ?_)
     obtain ⟨u95,hh⟩:=dx_ hh
     refine TL.w z (OpVal.index z underlying86 sz3 z z hr109_1.rv.sl u95.1 u95.2) (TL.w z (aj_ (0:Int) z ag3 z hr109_1 (by omega) z) ?_)
     obtain ⟨u97,hh⟩:=dx_ hh
     refine TL.isSl (i:=7) z (fun hs274 _ _=> ?_)
     refine TL.w z (ag_ z underlying86 sz3 z z hs274 (by omega)) (TL.front 7 z z ?_)
     have hn275:(l254.set k257 (nth v33.2 ((nth v24.1 ((nth l254 k257 0).toNat) 0).toNat) 0)).length=(List.replicate 256 (0:Int)).length:=by rw [List.length_set];exact hn255
     refine TL.op z (au_ (nth v33.2 ((nth v24.1 ((nth l254 k257 0).toNat) 0).toNat) 0) z sz3 z z z z d8_ hl_ (by omega) (by omega) ?_)
     exact TL.nil (B.n (S.n (cf ((l254.set k257 (nth v33.2 ((nth v24.1 ((nth l254 k257 0).toNat) 0).toNat) 0)),τ258) ⟨hh,zf252,zf253,hn275,hn256,(ds_.le.refl _)⟩ (Sub.f [8,1,8,8,8,8,8,8,8] 9))))
    exact TC.skip (B.n (S.n (cf (l254,τ258) ⟨hh,zf252,zf253,hn255,hn256,(ds_.le.refl _)⟩ (Sub.f [8,8,8,8,8,8,8,8,8] 9))))
   skip
   obtain ⟨l269,τ276⟩:=g
   obtain ⟨hh,zf267,zf268,hn270,hn271,hle277⟩:=hg
   try dsimp only at zf267
   try dsimp only at zf268
   try dsimp only at hn270
   try dsimp only at hn271
   dsimp only at hle277
   replace zf175:=zf175.mono hle277
   replace zf181:=zf181.mono hle277
   replace zf252:=zf252.mono hle277
   replace zf253:=zf253.mono hle277
   try dsimp only
   dsimp only [D0_]at hh
   have zf267b:=zf267.length
   have zf268b:=zf268.length
   refine TC.isSl (i:=3) z (fun _ hb278 _=> ?_)
   refine TC.isSl (i:=4) z (fun _ hb279 _=> ?_)
   refine TC.isSl (i:=5) z (fun _ hb280 _=> ?_)
   refine TC.isSl (i:=6) z (fun _ hb281 _=> ?_)
   refine TC.isSl (i:=7) z (fun _ hb282 _=> ?_)
   refine TC.isSl (i:=8) z (fun _ hb283 _=> ?_)
   refine TC.region (TL.w z (OpVal.succ z z z (by omega)) (TL.i z z (TL.en ?_)))
   obtain ⟨hh,hlt284⟩:=en_ hR2 hh
   exact lf ((l269,(k257+1)),τ276) hlt284 ⟨hh,zf267,zf268,hn270,hn271,(hle259.trans hle277)⟩ (Sub.f [8,8,8,8,8,8,8,8,8] 9)
  refine TC.exit (S.x (S.x ?_))
  replace hh:=d9_ hR2 hh
  refine TC.ad_ (S.n (TC.a (TL.w z (aa_ z ey_ z) (TL.w z (ab_ z hv_ z (i:=2) z z) (TL.s z z ?_)))))
  rw [show Value.slice a197 ((List.replicate 256 (0:Int)).length) c198=Value.slice a197 l254.length c198 from by rw [hn255]]
  refine TL.front 7 z z (TL.a0_ d8_ (fun τ289 hle288 hr287=> ?_))
  replace zf175:=zf175.mono hle288
  replace zf181:=zf181.mono hle288
  replace zf252:=zf252.mono hle288
  replace zf253:=zf253.mono hle288
  have hr287b:=hr287.rv.big
  have zf290:ZOk _ (dy_ 1 eI_ d8_) ([(l254,(a197,c198))]:List (N_1×(dy_ 1 eI_ d8_).P)) [l254]:=ZOk.cons (hr287) (ZOk.nil _ _)
  refine TL.op z (litZ zf290 z underlying27 e4_ z gv_ z z z (by decide) (by decide) z (by decide) z (by decide) (fun a285 c286=> ?_))
  refine TL.front 4 z z ?_
  obtain ⟨u105,hh⟩:=dx_ hh
  refine TL.op z (bd_ (k:=(dy_ 1 eI_ d8_)) zf252 zf290 z z underlying27 e4_ g7_ gv_ z z (by decide) z z z (.inr ⟨_,0,z⟩) (by simpa using u105) (by decide) (fun a292 c293 zf294=> ?_))
  refine TL.w z (aa_ z ey_ z) (TL.front 4 z z (TL.op z (af_ z fo_ z z z z z ?_)))
  refine TL.en (TC.region (TL.w z (aa_ z e7_ z) (TL.w z (ab_ z kv_ z (i:=0) z z) (TL.s z z ?_))))
  rw [show Value.slice a200 ((List.replicate 256 ([]:T_1)).length) c201=Value.slice a200 ((List.replicate 256 ([]:T_1)).take 0++((nth v5.1.outs ((nth v33.1 k182 0).toNat) []).take (min (nth v5.1.outs ((nth v33.1 k182 0).toNat) []).length (List.replicate 256 ([]:T_1)).length)++(List.replicate 256 ([]:T_1)).drop (0+(min (nth v5.1.outs ((nth v33.1 k182 0).toNat) []).length (List.replicate 256 ([]:T_1)).length)))).length c201 from by rw [hn256]]
  refine TL.front 8 z z (TL.a0_ ed_ (fun τ299 hle298 hr297=> ?_))
  replace zf175:=zf175.mono hle298
  replace zf181:=zf181.mono hle298
  replace zf253:=zf253.mono hle298
  replace zf294:=zf294.mono hle298
  have hr297b:=hr297.rv.big
  have zf300:ZOk _ (dy_ 1 eS_ ed_) ([(((List.replicate 256 ([]:T_1)).take 0++((nth v5.1.outs ((nth v33.1 k182 0).toNat) []).take (min (nth v5.1.outs ((nth v33.1 k182 0).toNat) []).length (List.replicate 256 ([]:T_1)).length)++(List.replicate 256 ([]:T_1)).drop (0+(min (nth v5.1.outs ((nth v33.1 k182 0).toNat) []).length (List.replicate 256 ([]:T_1)).length)))),(a200,c201))]:List (T_2×(dy_ 1 eS_ ed_).P)) [((List.replicate 256 ([]:T_1)).take 0++((nth v5.1.outs ((nth v33.1 k182 0).toNat) []).take (min (nth v5.1.outs ((nth v33.1 k182 0).toNat) []).length (List.replicate 256 ([]:T_1)).length)++(List.replicate 256 ([]:T_1)).drop (0+(min (nth v5.1.outs ((nth v33.1 k182 0).toNat) []).length (List.replicate 256 ([]:T_1)).length))))]:=ZOk.cons (hr297) (ZOk.nil _ _)
  refine TL.op z (litZ zf300 z underlying28 iu_ z wf_ z z z (by decide) (by decide) z (by decide) z (by decide) (fun a295 c296=> ?_))
  refine TL.front 6 z z ?_
  obtain ⟨u112,hh⟩:=dx_ hh
  refine TL.op z (bd_ (k:=(dy_ 1 eS_ ed_)) zf253 zf300 z z underlying28 iu_ ym_ wf_ z z (by decide) z z z (.inr ⟨_,0,z⟩) (by simpa using u112) (by decide) (fun a302 c303 zf304=> ?_))
  refine TL.w z (aa_ z e7_ z) (TL.front 2 z z (TL.op z (af_ z yg_ z z z z z ?_)))
  refine TL.nil (B.n (S.n (TC.region (TL.w z (OpVal.succ z z z (by omega)) (TL.i z z (TL.en ?_))))))
  obtain ⟨hh,hlt305⟩:=en_ hR1 hh
  exact lf (((l171++[l254]),(l177++[((List.replicate 256 ([]:T_1)).take 0++((nth v5.1.outs ((nth v33.1 k182 0).toNat) []).take (min (nth v5.1.outs ((nth v33.1 k182 0).toNat) []).length (List.replicate 256 ([]:T_1)).length)++(List.replicate 256 ([]:T_1)).drop (0+(min (nth v5.1.outs ((nth v33.1 k182 0).toNat) []).length (List.replicate 256 ([]:T_1)).length))))]),(k182+1)),(a292,c293,(z174++([(l254,(a197,c198))]:List (N_1×(dy_ 1 eI_ d8_).P))),a302,c303,(z180++([(((List.replicate 256 ([]:T_1)).take 0++((nth v5.1.outs ((nth v33.1 k182 0).toNat) []).take (min (nth v5.1.outs ((nth v33.1 k182 0).toNat) []).length (List.replicate 256 ([]:T_1)).length)++(List.replicate 256 ([]:T_1)).drop (0+(min (nth v5.1.outs ((nth v33.1 k182 0).toNat) []).length (List.replicate 256 ([]:T_1)).length)))),(a200,c201))]:List (T_2×(dy_ 1 eS_ ed_).P))),τ299)) hlt305 ⟨hh,zf294,zf304,((((hle188.trans hle221).trans hle259).trans hle288).trans hle298)⟩ (Sub.f [8,8,3,5,4,8,8] 7)
 refine TC.exit (S.x (S.x ?_))
 replace hh:=d9_ hR1 hh
 refine TC.ad_ (S.n (TC.a (TL.w z (ao_ z hd_ fi_ z (i:=2) z z) (TL.front 1 z z (TL.op z (storeAll z fi_ z z z z z z ?_))))))
 refine TL.i z z (TL.en (TC.front 3 z z (TC.bw_ zf175 (fun τ308 hle307 hr306=> ?_))))
 replace zf181:=zf181.mono hle307
 have hr306b:=hr306.big
 refine TC.front 3 z z (TC.bw_ zf181 (fun τ311 hle310 hr309=> ?_))
 replace hr306:=hr306.mono hle310
 have hr309b:=hr309.big
 refine TC.front 3 z z (TC.a0_ d5_ (fun τ314 hle313 hr312=> ?_))
 replace hr306:=hr306.mono hle313
 replace hr309:=hr309.mono hle313
 have hr312b:=hr312.rv.big
 refine TC.front 3 z z (TC.a0_ ed_ (fun τ317 hle316 hr315=> ?_))
 replace hr306:=hr306.mono hle316
 replace hr309:=hr309.mono hle316
 replace hr312:=hr312.mono hle316
 have hr315b:=hr315.rv.big
 refine TC.rt 1 ?_
 obtain rfl:=so hh
 exact ro [] z (RVs.agg hd_ fi_ z (i:=0) z z (RVs.tmp z RVs.nil)) ⟨a172,c173,a178,c179,a114,c115,a118,c119,z,hr306,hr309,hr312,hr315,z⟩
end Go.Proofs.YtchebnpdnfhenaaGreatDoor
end

noncomputable section
namespace Go.Proofs.YtchebnpdnfhenaaGreatDoor
open Go Go.E
structure PlI (L:N_1) (c:Nat) (st pl:N_1):Prop where
  len:pl.length=c
  at': ∀p,p<c→(nth pl p 0<0∧ ∀j,j<st.length→nth L (nth st j 0).toNat 0≠((p:Nat):Int))∨ ∃j,j<st.length∧nth pl p 0=((j:Nat):Int)∧nth L (nth st j 0).toNat 0=((p:Nat):Int)
def clL(L:N_1)(s:Nat):Int:=nth L s 0
theorem wi_{q:Seq}{L:N_1}{c:Nat}(hL:PrtR q L c){st:N_1}{V:Nat→Int}{code:Nat}(h:BfI q (clL L) st V code):st.length≤c:=by
  have hr: ∀j,j<st.length→0≤nth L (nth st j 0).toNat 0∧nth L (nth st j 0).toNat 0<((c:Nat):Int):=fun j hj=>by
    have:=h.rng j hj
    exact hL.rng _ (by omega)
  refine va_ (n:=st.length) (f:=fun s=>s) (g:=fun j=>(nth L (nth st j 0).toNat 0).toNat) (fun k hk=>⟨k,hk,rfl⟩) (fun s hs=>by have:=hr s hs;show (nth L (nth st s 0).toNat 0).toNat<c;omega) fun s t hs ht e=> ?_
  have e:(nth L (nth st s 0).toNat 0).toNat=(nth L (nth st t 0).toNat 0).toNat:=e
  have h1:=hr s hs
  have h2:=hr t ht
  exact h.dist s t hs ht (show nth L (nth st s 0).toNat 0=nth L (nth st t 0).toNat 0 by omega)
theorem xk_ {q : Seq} (hq : d0_ q = true) {L : N_1} {c : Nat} (hL : PrtR q L c) {st pl : N_1} {V : Nat → Int} {i : Nat} (hi : i < st.length) (h : BfI q (clL L) st V (i * 256)) (hp : PlI L c st pl) :
    ∃pl' st' V',ec_ (fun z:N_1×N_1×Nat=>A2_ q st i L z.1 z.2.1 z.2.2) (pl,st,0)=some (.inl (pl',st',i+1))∧BfI q (clL L) st' V' ((i+1) * 256)∧PlI L c st' pl'∧i+1≤st'.length:=by
  obtain ⟨q1,q2,q3,q4,q5⟩:=dz_ hq
  have hLl:=hL.len
  have hLc:=hL.le
  have hs:=h.rng i hi
  obtain ⟨s,hs'⟩: ∃s:Nat,nth st i 0=((s:Nat):Int):=⟨(nth st i 0).toNat,by omega⟩
  have hsn:s<q.next.length:=by omega
  obtain ⟨r1,r2⟩:=e5_ hq hsn
  refine Exists.elim (eg_ (step:=fun z:N_1×N_1×Nat=>A2_ q st i L z.1 z.2.1 z.2.2) (fun (z:N_1×N_1) b=>(z.1,z.2,b)) 256 (fun b z=> ∃V',BfI q (clL L) z.2 V' (i * 256+b)∧PlI L c z.2 z.1∧(∃X,z.2=st++X)) (fun r=> ∃pl' st' V',r= .inl (pl',st',i+1)∧BfI q (clL L) st' V' ((i+1) * 256)∧PlI L c st' pl'∧i+1≤st'.length) ?_ ?_ (s0:=(pl,st)) ⟨V,h,hp,[],by simp⟩) (fun r hh_=> ?_)
  · rintro b ⟨pl1,st1⟩ hb ⟨V1,k1,k2,X,k3⟩
    simp only at k1 k2 k3
    have hst1:i<st1.length:=by rw [k3,List.length_append];omega
    have hat:nth st1 i 0=((s:Nat):Int):=by rw [k3,f7_ hi];exact hs'
    have hd1:(i * 256+b) / 256=i:=by omega
    have hd2:(i * 256+b) % 256=b:=by omega
    have hlt:=ex_ hq hsn hb
    have hle:=wi_ hL k1
    left
    show ∃s':N_1×N_1,A2_ q st i L pl1 st1 b=some (.inl (s'.1,s'.2,b+1))∧_
    unfold A2_ Co_
    rw [hs',Int.toNat_natCast,dv_ (by omega)]
    have e1:nth (nth q.next s []) b 0=nxQ q s b:=rfl
    simp only [e1]
    have hcell:nxQ q (nth st1 ((i * 256+b) / 256) 0).toNat ((i * 256+b) % 256)=nxQ q s b:=by rw [hd1,hd2,hat,Int.toNat_natCast]
    by_cases d:0≤nxQ q s b
    · have hz:(nxQ q s b).toNat<q.next.length:=by omega
      have hpz:=hL.rng _ hz
      obtain ⟨p,hp'⟩: ∃p:Nat,nth L (nxQ q s b).toNat 0=((p:Nat):Int):=⟨(nth L (nxQ q s b).toNat 0).toNat,by omega⟩
      have hpc:p<c:=by omega
      have hpl:=k2.len
      rw [dv_ d,dt_ (by omega),hp',dt_ (by omega),Int.toNat_natCast]
      rcases k2.at' p hpc with ⟨a1,a2⟩|⟨j,a1,a2,a3⟩
      · rw [dv_ a1,dt_ (by omega),dt_ (by omega),dt_ (by simp only [List.length_singleton];omega)]
        refine ⟨(pl1.set p ((st1.length:Nat):Int),st1++[nxQ q s b]),rfl,upd V1 (i * 256+b) ((st1.length:Nat):Int),?_,⟨by rw [List.length_set];exact hpl,fun p' hq'=> ?_⟩,X++[nxQ q s b],by rw [k3,List.append_assoc]⟩
        · exact k1.new (by omega) (by rw [hcell];exact d) ⟨d,hlt⟩ (by rw [hcell]) fun j hj=>by
            rw [hcell]
            show nth L (nth st1 j 0).toNat 0≠nth L (nxQ q s b).toNat 0
            rw [hp'];exact a2 j hj
        show (nth (pl1.set p _) p' 0<0∧_)∨_
        rw [d6_]
        by_cases e:p=p'
        · subst e
          rw [if_pos ⟨rfl,by omega⟩]
          refine .inr ⟨st1.length,by simp,rfl,?_⟩
          show nth L (nth (st1++[nxQ q s b]) st1.length 0).toNat 0=_
          rw [gi_];exact hp'
        rw [if_neg (fun f=>e f.1)]
        rcases k2.at' p' hq' with ⟨b1,b2⟩|⟨j,b1,b2,b3⟩
        · refine .inl ⟨b1,fun j hj=> ?_⟩
          show nth L (nth (st1++[nxQ q s b]) j 0).toNat 0≠_
          by_cases f:j<st1.length
          · rw [f7_ f];exact b2 j f
          have:j=st1.length:=by have:j<(st1++[nxQ q s b]).length:=hj;rw [List.length_append,List.length_singleton]at this;omega
          rw [this,gi_,hp']
          omega
        refine .inr ⟨j,by show j<(st1++_).length;rw [List.length_append];omega,b2,?_⟩
        show nth L (nth (st1++[nxQ q s b]) j 0).toNat 0=_
        rw [f7_ b1];exact b3
      rw [dw_ (by omega)]
      refine ⟨(pl1,st1),rfl,upd V1 (i * 256+b) ((j:Nat):Int),?_,k2,X,k3⟩
      exact k1.old (by rw [hcell];exact d) a1 (by rw [hcell];show nth L (nth st1 j 0).toNat 0=nth L (nxQ q s b).toNat 0;rw [a3,hp'])
    rw [dw_ d]
    exact ⟨(pl1,st1),rfl,upd V1 (i * 256+b) (-1),k1.skip (by rw [hcell];omega),k2,X,k3⟩
  · rintro ⟨pl1,st1⟩ ⟨V1,k1,k2,X,k3⟩
    simp only at k1 k2 k3
    refine ⟨.inl (pl1,st1,i+1),?_,pl1,st1,V1,rfl,?_,k2,by rw [k3,List.length_append];omega⟩
    · show A2_ q st i L pl1 st1 256=_
      unfold A2_
      rw [hs',Int.toNat_natCast,dw_ (by omega)];rfl
    rw [show (i+1) * 256=i * 256+256 by omega];exact k1
  obtain ⟨h1,pl',st',V',rfl,h2⟩:=hh_
  exact ⟨pl',st',V',h1,h2⟩
theorem ws_ {q : Seq} (hq : d0_ q = true) (h0 : 0 < q.next.length) {L : N_1} {c : Nat} (hL : PrtR q L c) : ∃ st pl V, Dt_ q L ((c : Nat) : Int) = some (st, pl) ∧ BfI q (clL L) st V (st.length * 256) ∧ PlI L c st pl := by
  obtain ⟨q1,q2,q3,q4,q5⟩:=dz_ hq
  have hLl:=hL.len
  have hLc:=hL.le
  have hL0:=hL.rng 0 h0
  unfold Dt_
  rw [dt_ (by omega),Int.toNat_natCast]
  refine Exists.elim (eg_ (step:=fun z:N_1×Nat=>Bb_ ((c:Nat):Int) L q z.1 z.2) (fun z k=>(z,k)) c (fun k z=>z.length=c∧ ∀p,p<k→nth z p 0= -1) (fun r=> ∃st pl V,r=(st,pl)∧BfI q (clL L) st V (st.length * 256)∧PlI L c st pl) ?_ ?_ (s0:=List.replicate c 0) ⟨by simp,fun p hp=>absurd hp (Nat.not_lt_zero _)⟩) (fun r hh_=> ?_)
  · rintro k z hk ⟨k1,k2⟩
    left
    show ∃s',Bb_ ((c:Nat):Int) L q z k=some (.inl (s',k+1))∧_
    unfold Bb_
    rw [Int.toNat_natCast,dv_ (by simp only [List.length_replicate];omega),dt_ (by omega)]
    refine ⟨_,rfl,by rw [List.length_set];exact k1,fun p hp=> ?_⟩
    rw [d6_]
    by_cases e:k=p
    · rw [if_pos ⟨e,by omega⟩]
    rw [if_neg (fun f=>e f.1)];exact k2 p (by omega)
  · rintro z ⟨k1,k2⟩
    show ∃r,Bb_ ((c:Nat):Int) L q z c=some (.inr r)∧_
    obtain ⟨p0,hp0⟩: ∃p:Nat,nth L 0 0=((p:Nat):Int):=⟨(nth L 0 0).toNat,by omega⟩
    obtain ⟨r,m1,m2⟩:=l0_ (step:=fun z:N_1×N_1×Nat=>Bs_ q L z.1 z.2.1 z.2.2) (fun z=> ∃V,BfI q (clL L) z.2.1 V (z.2.2 * 256)∧PlI L c z.2.1 z.1∧z.2.2≤z.2.1.length) (fun z=>c+1 - z.2.2) (fun r=> ∃st pl V,r=(st,pl)∧BfI q (clL L) st V (st.length * 256)∧PlI L c st pl) (by
      rintro ⟨pl,st,i⟩ ⟨V,n1,n2,n3⟩
      simp only at n1 n2 n3
      have hle:=wi_ hL n1
      show (∃t',Bs_ q L pl st i=some (.inl t')∧_∧_)∨ ∃r,Bs_ q L pl st i=some (.inr r)∧_
      unfold Bs_
      by_cases d:i<st.length
      · left
        have hs:=n1.rng i d
        obtain ⟨pl',st',V',m1,m2,m3,m4⟩:=xk_ hq hL d n1 n2
        rw [dv_ (by omega),dt_ (by omega)]
        refine ⟨_,m1,⟨V',m2,m3,m4⟩,?_⟩
        show c+1 - (i+1)<c+1 - i
        omega
      · right
        rw [dw_ (by omega)]
        have:i=st.length:=by omega
        subst this
        exact ⟨_,rfl,st,pl,V,rfl,n1,n2⟩) (t:=(z.set p0 0,[0],0)) (by
      refine ⟨fun _=>0,BfI.init _ ⟨Int.le_refl _,by omega⟩ rfl,⟨by show (z.set p0 0).length=c;rw [List.length_set];exact k1,fun p hp=> ?_⟩,Nat.zero_le _⟩
      show (nth (z.set p0 0) p 0<0∧_)∨_
      rw [d6_]
      by_cases e:p0=p
      · subst e
        rw [if_pos ⟨rfl,by omega⟩]
        exact .inr ⟨0,by simp,rfl,hp0⟩
      rw [if_neg (fun f=>e f.1),k2 p hp]
      refine .inl ⟨by decide,fun j hj=> ?_⟩
      have hj:j<1:=hj
      have:j=0:=by omega
      subst this
      show nth L 0 0≠_
      rw [hp0];omega)
    refine ⟨r,?_,m2⟩
    unfold Bb_
    rw [Int.toNat_natCast,dw_ (by simp only [List.length_replicate];omega),dt_ (by omega),hp0,dt_ (by omega),Int.toNat_natCast,m1];rfl
  obtain ⟨h1,st,pl,V,rfl,h2⟩:=hh_
  exact ⟨st,pl,V,h1,h2⟩
theorem sq_{α β:Type}(f:β→α)(d:α)(e:β)(l:List β){k:Nat}(hk:k<l.length):(((l.take k).map f++List.replicate (l.length - k) d).set k (f (nth l k e)))=(l.take (k+1)).map f++List.replicate (l.length - (k+1)) d:=by
  rw [el_ l hk e,List.map_append,List.append_assoc,List.set_append_right _ _ (by rw [List.length_map,List.length_take];omega),List.length_map,List.length_take,show k - min k l.length=0 by omega,show l.length - k=(l.length - (k+1))+1 by omega,List.replicate_succ]
  rfl
theorem xx_{l:B_1}{st:N_1}(h: ∀i,i<st.length→0≤nth st i 0∧nth st i 0<(l.length:Int))(hs:st.length≤1000000):Eh_ l st=some (st.map fun s=>nth l s.toNat false):=by
  unfold Eh_
  rw [dt_ (by omega)]
  refine Exists.elim (eg_ (step:=fun z:B_1×Nat=>Bd_ st l z.1 z.2) (fun z k=>(z,k)) st.length (fun k z=>z=(st.take k).map (fun s=>nth l s.toNat false)++List.replicate (st.length - k) false) (fun r=>r=st.map fun s=>nth l s.toNat false) ?_ ?_ (s0:=List.replicate st.length false) (by simp)) (fun r hh_=> ?_)
  · rintro k _ hk rfl
    left
    have hr:=h k hk
    refine ⟨_,?_,rfl⟩
    show Bd_ st l _ k=_
    unfold Bd_
    rw [dv_ (by omega),dt_ hr,dt_ (by simp;omega)]
    have:=sq_ (fun s=>nth l s.toNat false) false (0:Int) st hk
    rw [this];rfl
  · rintro _ rfl
    refine ⟨_,?_,rfl⟩
    show Bd_ st l _ st.length=_
    unfold Bd_
    rw [dw_ (by omega)]
    simp [fin]
  obtain ⟨h1,rfl⟩:=hh_
  exact h1
theorem xz_{l:T_2}{st:N_1}(h: ∀i,i<st.length→0≤nth st i 0∧nth st i 0<(l.length:Int))(hs:st.length≤1000000):Eb_ l st=some (st.map fun s=>nth l s.toNat []):=by
  unfold Eb_
  rw [dt_ (by omega)]
  refine Exists.elim (eg_ (step:=fun z:T_2×Nat=>Bh_ st l z.1 z.2) (fun z k=>(z,k)) st.length (fun k z=>z=(st.take k).map (fun s=>nth l s.toNat [])++List.replicate (st.length - k) []) (fun r=>r=st.map fun s=>nth l s.toNat []) ?_ ?_ (s0:=List.replicate st.length []) (by simp)) (fun r hh_=> ?_)
  · rintro k _ hk rfl
    left
    have hr:=h k hk
    refine ⟨_,?_,rfl⟩
    show Bh_ st l _ k=_
    unfold Bh_
    rw [dv_ (by omega),dt_ hr,dt_ (by simp;omega)]
    have:=sq_ (fun s=>nth l s.toNat ([]:T_1)) [] (0:Int) st hk
    rw [this];rfl
  · rintro _ rfl
    refine ⟨_,?_,rfl⟩
    show Bh_ st l _ st.length=_
    unfold Bh_
    rw [dw_ (by omega)]
    simp [fin]
  obtain ⟨h1,rfl⟩:=hh_
  exact h1
theorem vy_{α:Type}(d:α){x:List α}(h:x.length=256):(List.replicate 256 d).take 0++(x.take (min x.length (List.replicate 256 d).length)++(List.replicate 256 d).drop (0+min x.length (List.replicate 256 d).length))=x:=by
  have hr:(List.replicate 256 d).length=256:=List.length_replicate
  generalize List.replicate 256 d=y at hr
  rw [hr,h,Nat.min_self,List.take_zero,List.nil_append,Nat.zero_add,List.take_of_length_le (Nat.le_of_eq h),List.drop_of_length_le (Nat.le_of_eq hr),List.append_nil]
def yt_(q:Seq)(L pl:N_1)(s b:Nat):Int:=if 0≤nxQ q s b then nth pl (nth L (nxQ q s b).toNat 0).toNat 0 else nxQ q s b
def w5_(q:Seq)(L pl:N_1)(s:Int):N_1:=(List.range 256).map (yt_ q L pl s.toNat)
theorem vc_ {q : Seq} (hq : d0_ q = true) {L : N_1} {c : Nat} (hL : PrtR q L c) {st pl : N_1} (hpl : pl.length = c) {i : Nat} {N : N_2} {O : T_3} (hi : i < st.length) (hst : st.length ≤ 1024) (hN : N.length ≤ 1024) (hO : O.length ≤ 1024) (hs : 0 ≤ nth st i 0 ∧ nth st i 0 < (q.next.length : Int)) (e : Int) :
    D2_ (st,pl) i (q,e) (L,((c:Nat):Int)) N O=some (.inl (N++[w5_ q L pl (nth st i 0)],O++[nth q.outs (nth st i 0).toNat []],i+1)):=by
  obtain ⟨q1,q2,q3,q4,q5⟩:=dz_ hq
  have hLl:=hL.len
  obtain ⟨s,hs'⟩: ∃s:Nat,nth st i 0=((s:Nat):Int):=⟨(nth st i 0).toNat,by omega⟩
  rw [hs']at hs ⊢
  have hsn:s<q.next.length:=by omega
  obtain ⟨r1,r2⟩:=e5_ hq hsn
  unfold D2_
  show grd (0≤nth st i 0∧nth st i 0<(q.next.length:Int)) (grd (0≤nth st i 0∧nth st i 0<(q.outs.length:Int)) _)=_
  rw [hs',dt_ (by omega),dt_ (by omega),Int.toNat_natCast,vy_ 0 r1]
  unfold w5_
  rw [Int.toNat_natCast]
  refine Exists.elim (eg_ (step:=fun z:N_1×Nat=>Bz_ (L,((c:Nat):Int)) (st,pl) N O (q,e) i z.1 z.2) (fun z k=>(z,k)) 256 (fun k z=>z.length=256∧(∀b,b<k→nth z b 0=yt_ q L pl s b)∧ ∀b,k≤b→nth z b 0=nxQ q s b) (fun r=>r= .inl (N++[(List.range 256).map (yt_ q L pl s)],O++[nth q.outs s []],i+1)) ?_ ?_ (s0:=nth q.next s []) ⟨r1,fun b hb=>absurd hb (Nat.not_lt_zero _),fun b _=>rfl⟩) (fun r hh_=> ?_)
  · rintro k z hk ⟨k1,k2,k3⟩
    left
    have hlt:=ex_ hq hsn hk
    have e3:=k3 k (Nat.le_refl _)
    show ∃s',Bz_ (L,((c:Nat):Int)) (st,pl) N O (q,e) i z k=some (.inl (s',k+1))∧_
    unfold Bz_ D0_
    rw [dv_ (by simp only [List.length_replicate];omega),dt_ (by omega),e3]
    by_cases d:0≤nxQ q s k
    · have hz:=hL.rng (nxQ q s k).toNat (by omega)
      rw [dv_ d,dt_ (show 0≤nxQ q s k∧nxQ q s k<((L,((c:Nat):Int)).1.length:Int) by show _∧_<(L.length:Int);omega),dt_ (show 0≤nth L (nxQ q s k).toNat 0∧nth L (nxQ q s k).toNat 0<(pl.length:Int) by omega),dt_ (by omega)]
      refine ⟨_,rfl,by rw [List.length_set];exact k1,fun b hb=> ?_,fun b hb=> ?_⟩
      · rw [d6_]
        by_cases f:k=b
        · subst f;rw [if_pos ⟨rfl,by omega⟩];unfold yt_;rw [if_pos d]
        rw [if_neg (fun g=>f g.1)];exact k2 b (by omega)
      rw [d6_,if_neg (fun g=>by omega)];exact k3 b (by omega)
    rw [dw_ d]
    refine ⟨_,rfl,k1,fun b hb=> ?_,fun b hb=>k3 b (by omega)⟩
    by_cases f:b<k
    · exact k2 b f
    have:b=k:=by omega
    subst this;rw [e3];unfold yt_;rw [if_neg d]
  · rintro z ⟨k1,k2,k3⟩
    have ez:z=(List.range 256).map (yt_ q L pl s):=ov_ 0 k1 k2
    refine ⟨_,?_,rfl⟩
    show Bz_ (L,((c:Nat):Int)) (st,pl) N O (q,e) i z 256=_
    unfold Bz_
    have e5:nth (st,pl).1 i 0=((s:Nat):Int):=hs'
    simp only [e5,Int.toNat_natCast]
    rw [dw_ (by simp only [List.length_replicate];omega),vy_ [] r2,dt_ (by simp only [List.length_singleton];omega),dt_ (by simp only [List.length_singleton];omega),ez];rfl
  obtain ⟨h1,rfl⟩:=hh_
  exact h1
theorem yj_(q:Seq): ∃p r,D9_ q=some p∧PushR q p∧Dq_ q=some r∧MinR p r:=by
  obtain ⟨p,h1,h2⟩:=Hp_ q
  unfold Dq_
  rw [h1,ea_]
  by_cases c0:p.2=0
  rotate_left
  · rw [dv_ c0]
    exact ⟨p,_,rfl,h2,rfl,.err c0⟩
  rw [dw_ (fun h=>h c0)]
  by_cases c1:p.1.next.length=0
  · rw [dv_ (by omega)]
    exact ⟨p,_,rfl,h2,rfl,by rw [c0];exact .none c0 c1⟩
  rw [dw_ (by omega)]
  obtain ⟨hP,hR,_,_⟩:=h2.psh c0
  obtain ⟨q1,q2,q3,q4,q5⟩:=dz_ hR
  obtain ⟨L,c,l1,l2⟩:=xy_ hR hP
  obtain ⟨st,pl,V,o1,o2,o3⟩:=ws_ hR (by omega) l2
  have hle:=wi_ l2 o2
  have hLc:=l2.le
  rw [l1,ea_]
  show ∃p_1 r,_∧_∧bnd (Dt_ p.1 L ((c:Nat):Int)) _=_∧_
  rw [o1,ea_,show ((st,pl):N_1×N_1).1=st from rfl,xx_ (fun i hi=>by have:=o2.rng i hi;omega) (by omega),ea_,xz_ (fun i hi=>by have:=o2.rng i hi;omega) (by omega),ea_]
  unfold Eq_
  refine Exists.elim (eg_ (step:=fun z:N_2×T_3×Nat=>By_ (st,pl) p (L,((c:Nat):Int)) (st.map fun s=>nth p.1.fin s.toNat false) (st.map fun s=>nth p.1.tail s.toNat []) z.1 z.2.1 z.2.2) (fun (z:N_2×T_3) k=>(z.1,z.2,k)) st.length (fun k z=>z=((st.take k).map (w5_ p.1 L pl),(st.take k).map fun s=>nth p.1.outs s.toNat []))
    (fun r=>r=((⟨p.1.front,st.map (w5_ p.1 L pl),st.map (fun s=>nth p.1.outs s.toNat []),st.map (fun s=>nth p.1.fin s.toNat false),st.map (fun s=>nth p.1.tail s.toNat [])⟩:Seq),(0:Int))) ?_ ?_ (s0:=([],[])) rfl) (fun r hh_=> ?_)
  · rintro k _ hk rfl
    left
    have hr:=o2.rng k hk
    refine ⟨(_,_),?_,rfl⟩
    show By_ (st,pl) p (L,((c:Nat):Int)) _ _ _ _ k=_
    unfold By_
    rw [dv_ (by show ((k:Nat):Int)<((st.length:Nat):Int);omega)]
    rw [show p=(p.1,p.2)from rfl,vc_ hR l2 o3.len hk (by omega) (by rw [List.length_map,List.length_take];omega) (by rw [List.length_map,List.length_take];omega) hr p.2,el_ st hk 0,List.map_append,List.map_append];rfl
  · rintro _ rfl
    refine ⟨_,?_,rfl⟩
    show By_ (st,pl) p (L,((c:Nat):Int)) _ _ _ _ st.length=_
    unfold By_
    rw [dw_ (by show ¬ ((st.length:Nat):Int)<((st.length:Nat):Int);omega),List.take_length];rfl
  obtain ⟨h3,rfl⟩:=hh_
  refine ⟨p,_,rfl,h2,h3,.made _ (st.map Int.toNat) c0 (o2.min (fun s t hs ht=>l2.iff s t hs ht) hR rfl (by simp) (by simp) (by simp) (by simp) (fun i hi=> ?_) (fun d hd=> ?_) (fun i hi=>fh_ _ _ _ 0 _ hi) (fun i hi=>fh_ _ _ _ 0 _ hi) fun i hi=>fh_ _ _ _ 0 _ hi)⟩
  · show (nth (st.map (w5_ p.1 L pl)) i []).length=256
    rw [fh_ _ _ _ 0 _ hi]
    unfold w5_
    rw [List.length_map,List.length_range]
  have hdi:d / 256<st.length:=by omega
  have hr:=o2.rng _ hdi
  have e:nxC (⟨p.1.front,st.map (w5_ p.1 L pl),st.map (fun s=>nth p.1.outs s.toNat []),st.map (fun s=>nth p.1.fin s.toNat false),st.map (fun s=>nth p.1.tail s.toNat [])⟩:Seq) d=yt_ p.1 L pl (nth st (d / 256) 0).toNat (d % 256):=by
    show nth (nth (st.map (w5_ p.1 L pl)) (d / 256) []) (d % 256) 0=_
    rw [fh_ _ _ _ 0 _ hdi]
    unfold w5_
    rw [fh_ _ _ _ 0 _ (by rw [List.length_range];omega),jj_ (by omega)]
  rw [e]
  unfold yt_
  by_cases f:0≤nxQ p.1 (nth st (d / 256) 0).toNat (d % 256)
  · rw [if_pos f]
    obtain ⟨j,j1,j2,j3⟩:=o2.val d hd f
    have hz:=ex_ hR (show (nth st (d / 256) 0).toNat<_ by omega) (show d % 256<256 by omega)
    have hpz:=l2.rng (nxQ p.1 (nth st (d / 256) 0).toNat (d % 256)).toNat (by omega)
    have j3:nth L (nth st j 0).toNat 0=nth L (nxQ p.1 (nth st (d / 256) 0).toNat (d % 256)).toNat 0:=j3
    rcases o3.at' (nth L (nxQ p.1 (nth st (d / 256) 0).toNat (d % 256)).toNat 0).toNat (by omega)with ⟨_,a2⟩|⟨j',a1,a2,a3⟩
    · exact absurd (by rw [j3];omega) (a2 j j1)
    have:j=j':=o2.dist j j' j1 a1 (show nth L (nth st j 0).toNat 0=nth L (nth st j' 0).toNat 0 by rw [j3,a3];omega)
    rw [j2,a2,this]
  rw [if_neg f,o2.neg d hd (by omega)]
  have:=r7_ hR (show (nth st (d / 256) 0).toNat<_ by omega) (show d % 256<256 by omega)
  omega
end Go.Proofs.YtchebnpdnfhenaaGreatDoor
end

noncomputable section
namespace Go.Proofs.YtchebnpdnfhenaaGreatDoor
open Go Go.E
end Go.Proofs.YtchebnpdnfhenaaGreatDoor
end

noncomputable section
namespace Go.Proofs.YtchebnpdnfhenaaGreatDoor
open Go Go.E Go.E.OpVal Go.E.OpOk
end Go.Proofs.YtchebnpdnfhenaaGreatDoor
end

noncomputable section
namespace Go.Proofs.YtchebnpdnfhenaaGreatDoor
open Go Go.E
theorem sx_: ∀p a b:T_1,Lib.compareBytes (p++a) (p++b)=Lib.compareBytes a b
  |[],_,_=>rfl
  |x::p,a,b=>by
    simp only [List.cons_append,Lib.compareBytes,UInt8.lt_irrefl,if_false]
    exact sx_ p a b
theorem zq_{f:T_1}{x y:Tip}(hx:f <+: x.out)(hy:f <+: y.out):eo_ (nw_ f.length x) (nw_ f.length y)=eo_ x y:=by
  obtain ⟨a,ha⟩:=hx
  obtain ⟨b,hb⟩:=hy
  unfold eo_ nw_
  simp only [←ha,←hb,List.drop_left,sx_]
theorem once_cut{l:List Tip}{f:T_1}(hf: ∀x∈l,f <+: x.out):gb_ Tip.zero eo_ (l.map (nw_ f.length))=(gb_ Tip.zero eo_ l).map (nw_ f.length):=by
  refine ml_ fa_ (gl_ fa_ _) ?_ fun x=> ?_
  · rw [List.pairwise_map]
    refine (gl_ fa_ l).imp_of_mem fun {a b} ha hb h=> ?_
    rw [zq_ (hf a ((ez_ ..).1 ha)) (hf b ((ez_ ..).1 hb))];exact h
  rw [ez_]
  simp only [List.mem_map]
  exact ⟨fun ⟨y,h1,h2⟩=>⟨y,(ez_ ..).2 h1,h2⟩,fun ⟨y,h1,h2⟩=>⟨y,(ez_ ..).1 h1,h2⟩⟩
theorem x2_(l:List Tip):ft_ ((gb_ Tip.zero eo_ l).map Tip.out)=ft_ (l.map Tip.out):=tu_ fun x=>by
  simp only [List.mem_map]
  exact ⟨fun ⟨y,h1,h2⟩=>⟨y,(ez_ ..).1 h1,h2⟩,fun ⟨y,h1,h2⟩=>⟨y,(ez_ ..).2 h1,h2⟩⟩
theorem tr_(l:List Tip):h7_ l=if s6_ (gb_ Tip.zero eo_ l)=true then .inl 12 else if 4096<(ft_ (l.map Tip.out)).length then .inl 2 else
    if ∃x∈gb_ Tip.zero eo_ l,4096<(x.out.drop (ft_ (l.map Tip.out)).length).length then .inl 2 else .inr (ft_ (l.map Tip.out),(gb_ Tip.zero eo_ l).map (nw_ (ft_ (l.map Tip.out)).length)):=by
  rw [←x2_ l];rfl
end Go.Proofs.YtchebnpdnfhenaaGreatDoor
end

noncomputable section
namespace Go.Proofs.YtchebnpdnfhenaaGreatDoor
open Go Go.E
def em(a:Arc)(b:UInt8):T_1:=if a.copy then a.out++[b] else a.out
inductive Wy (t:Fst):Int→T_1→T_1→Int→Prop
  |nil (s:Int):Wy t s [] [] s
  |cons {w o:T_1} {q:Int} (a:Arc) (b:UInt8):a∈t.arcs→a.set.has b.toNat=true→Wy t a.to w o q→Wy t a.frm (b::w) (em a b++o) q
theorem Wy.cons_inv{t:Fst}{s q:Int}{b:UInt8}{w o:T_1}(h:Wy t s (b::w) o q): ∃a∈t.arcs,a.frm=s∧a.set.has b.toNat=true∧ ∃o',Wy t a.to w o' q∧o=em a b++o':=by
  cases h with
  |cons a b ha hb hw=>exact ⟨a,ha,rfl,hb,_,hw,rfl⟩
theorem Wy.split{t:Fst}: ∀{u v o:T_1} {s q:Int},Wy t s (u++v) o q→ ∃m o1 o2,Wy t s u o1 m∧Wy t m v o2 q∧o=o1++o2
  |[],v,o,s,q,h=>⟨s,[],o,.nil s,h,rfl⟩
  |b::u,v,o,s,q,h=>by
    obtain ⟨a,ha,rfl,hb,o',hw,rfl⟩:=Wy.cons_inv h
    obtain ⟨m,o1,o2,h1,h2,rfl⟩:=Wy.split hw
    exact ⟨m,em a b++o1,o2,.cons a b ha hb h1,h2,by rw [List.append_assoc]⟩
theorem Wy.map{t T:Fst}(f:Int→Int)(h: ∀a∈t.arcs,(⟨f a.frm,f a.to,a.set,a.out,a.copy⟩:Arc)∈T.arcs){s q:Int}{w o:T_1}(k:Wy t s w o q):Wy T (f s) w o (f q):=by
  induction k with
  |nil s=>exact .nil _
  |cons a b ha hb _ ih=>exact Wy.cons (⟨f a.frm,f a.to,a.set,a.out,a.copy⟩:Arc) b (h a ha) hb ih
end Go.Proofs.YtchebnpdnfhenaaGreatDoor
end

noncomputable section
namespace Go.Proofs.YtchebnpdnfhenaaGreatDoor
open Go Go.E
def Eqs(L:T_2):Prop:= ∀x∈L, ∀y∈L,x=y
instance (L:T_2):Decidable (Eqs L):=inferInstanceAs (Decidable (∀x∈L, ∀y∈L,x=y))
def g0_(L:T_2):T_1:=L.getLastD []
theorem tf_(L:T_2)(s:T_1):g0_ (L++[s])=s:=by simp [g0_]
theorem my_{L:T_2}(h:L≠[]):g0_ L∈L:=by
  unfold g0_
  rw [List.getLastD_eq_getLast?,List.getLast?_eq_some_getLast h]
  exact List.getLast_mem h
theorem Eqs.last{L:T_2}(h:Eqs L){x:T_1}(hx:x∈L):x=g0_ L:=h _ hx _ (my_ (List.ne_nil_of_mem hx))
theorem st_{L:T_2}{s:T_1}:Eqs (L++[s])↔Eqs L∧(L≠[]→s=g0_ L):=by
  constructor
  · intro h
    refine ⟨fun x hx y hy=>h x (List.mem_append_left _ hx) y (List.mem_append_left _ hy),fun hn=> ?_⟩
    exact h _ (List.mem_append_right _ (List.mem_singleton.2 rfl)) _ (List.mem_append_left _ (my_ hn))
  rintro ⟨h1,h2⟩ x hx y hy
  have key: ∀z∈L++[s],z=s:=fun z hz=>by
    rcases List.mem_append.1 hz with hz|hz
    · rw [h1.last hz,h2 (List.ne_nil_of_mem hz)]
    exact List.mem_singleton.1 hz
  rw [key x hx,key y hy]
theorem up_{L M:T_2}(h:Eqs M)(hs: ∀x∈L,x∈M):Eqs L:=fun x hx y hy=>h x (hs x hx) y (hs y hy)
def j0_(L:T_2):Bool:= !L.isEmpty
theorem ta_(L:T_2)(s:T_1):j0_ (L++[s])=true:=by cases L<;>rfl
theorem p1_{L:T_2}:j0_ L=true↔L≠[]:=by cases L<;>simp [j0_]
def qj_(E:List Tip)(x:Tip):T_2:=(E.filter fun e=>decide (e.state=x.state)).map fun e=>x.out++e.out
def gs_(E l:List Tip):T_2:=l.flatMap (qj_ E)
theorem td_(E l:List Tip)(x:Tip):gs_ E (l++[x])=gs_ E l++qj_ E x:=by simp [gs_]
def rn_(E l:List Tip):Int⊕(Bool×T_1):=
  if ¬ Eqs (gs_ E l) then .inl 12 else if 4096<(g0_ (gs_ E l)).length then .inl 2 else .inr (j0_ (gs_ E l),g0_ (gs_ E l))
def yl_(A:List Arc)(b:UInt8)(x:Tip):List Tip:=((A.filter fun a=>decide (a.frm=x.state)).filter fun a=>a.set.has b.toNat).map fun a=>⟨a.to,x.out++em a b⟩
def lj_(A:List Arc)(l:List Tip)(b:UInt8):List Tip:=l.flatMap (yl_ A b)
theorem wg_(A:List Arc)(l:List Tip)(b:UInt8)(x:Tip):lj_ A (l++[x]) b=lj_ A l b++yl_ A b x:=by simp [lj_]
theorem x6_(A:List Arc)(b:UInt8)(x:Tip):(yl_ A b x).length≤A.length:=by
  unfold yl_
  rw [List.length_map]
  exact Nat.le_trans (List.length_filter_le _ _) (List.length_filter_le _ _)
theorem pa_(A:List Arc)(b:UInt8): ∀l:List Tip,(lj_ A l b).length≤l.length * A.length
  |[]=>by simp [lj_]
  |x::l=>by
    have h1:=pa_ A b l
    have h2:=x6_ A b x
    show (yl_ A b x++lj_ A l b).length≤_
    rw [List.length_append,List.length_cons,Nat.succ_mul];omega
theorem s5_{A:List Arc}{l:List Tip}{b:UInt8}{y:Tip}:y∈lj_ A l b↔ ∃x∈l, ∃a∈A,a.frm=x.state∧a.set.has b.toNat=true∧y=⟨a.to,x.out++em a b⟩:=by
  unfold lj_ yl_
  simp only [List.mem_flatMap,List.mem_map,List.mem_filter,decide_eq_true_eq]
  exact ⟨fun ⟨x,h1,a,⟨⟨h2,h3⟩,h4⟩,h5⟩=>⟨x,h1,a,h2,h3,h4,h5.symm⟩,fun ⟨x,h1,a,h2,h3,h4,h5⟩=>⟨x,h1,a,⟨⟨h2,h3⟩,h4⟩,h5.symm⟩⟩
theorem mm_{E l:List Tip}{y:T_1}:y∈gs_ E l↔ ∃x∈l, ∃e∈E,e.state=x.state∧y=x.out++e.out:=by
  unfold gs_ qj_
  simp only [List.mem_flatMap,List.mem_map,List.mem_filter,decide_eq_true_eq]
  exact ⟨fun ⟨x,h1,e,⟨h2,h3⟩,h5⟩=>⟨x,h1,e,h2,h3,h5.symm⟩,fun ⟨x,h1,e,h2,h3,h5⟩=>⟨x,h1,e,⟨h2,h3⟩,h5.symm⟩⟩
structure Knows (n:Nat) (A:List Arc) (E:List Tip) (x:Maker):Prop where
  arcs:Grp Arc.frm id n x.arcs A
  ends:Grp Tip.state Tip.out n x.ends E
  al:A.length≤16384
  ao: ∀a∈A,a.out.length≤1024
  eo: ∀e∈E,e.out.length≤1024
  hn:n≤1024
theorem y2_ {n : Nat} {A : List Arc} {E : List Tip} {x0 : Maker} (h : Knows n A E x0) {l : List Tip} (hl : RowOk n l) {k : Nat} (hk : k < l.length) (P : T_2) (hP : Eqs P) :
    ec_ (fun q:Bool×T_1×Nat=>Am_ x0 l k q.1 q.2.1 q.2.2) (j0_ P,g0_ P,0)=some (if Eqs (P++qj_ E (nth l k Tip.zero)) then .inl (j0_ (P++qj_ E (nth l k Tip.zero)),g0_ (P++qj_ E (nth l k Tip.zero)),k+1) else .inr (.inl 12)):=by
  have hm:=e9_ Tip.zero hk
  have hs:=hl.st _ hm
  have ho:=hl.out _ hm
  have hg:=h.ends.at hs.1 hs.2
  have hX:qj_ E (nth l k Tip.zero)=(nth x0.ends (nth l k Tip.zero).state.toNat []).map fun o=>(nth l k Tip.zero).out++o:=by
    rw [hg,List.map_map];rfl
  have hgo: ∀o∈nth x0.ends (nth l k Tip.zero).state.toNat [],o.length≤1024:=by
    rw [hg]
    intro o ho
    obtain ⟨e,he,rfl⟩:=List.mem_map.1 ho
    exact h.eo e (List.mem_filter.1 he).1
  rw [hX]
  obtain ⟨r,h1,h2⟩:=eg_ (step:=fun q:Bool×T_1×Nat=>Am_ x0 l k q.1 q.2.1 q.2.2) (fun (s:Bool×T_1) j=>(s.1,s.2,j)) (nth x0.ends (nth l k Tip.zero).state.toNat []).length
    (fun j s=>Eqs (P++((nth x0.ends (nth l k Tip.zero).state.toNat []).take j).map fun o=>(nth l k Tip.zero).out++o)∧s=(j0_ (P++((nth x0.ends (nth l k Tip.zero).state.toNat []).take j).map fun o=>(nth l k Tip.zero).out++o),g0_ (P++((nth x0.ends (nth l k Tip.zero).state.toNat []).take j).map fun o=>(nth l k Tip.zero).out++o)))
    (fun r=>r=(if Eqs (P++(nth x0.ends (nth l k Tip.zero).state.toNat []).map fun o=>(nth l k Tip.zero).out++o) then .inl (j0_ (P++(nth x0.ends (nth l k Tip.zero).state.toNat []).map fun o=>(nth l k Tip.zero).out++o),g0_ (P++(nth x0.ends (nth l k Tip.zero).state.toNat []).map fun o=>(nth l k Tip.zero).out++o),k+1) else .inr (.inl 12)))
    (fun j s hj hI=>by
      obtain ⟨hI,rfl⟩:=hI
      have hoj:=hgo _ (e9_ [] hj)
      have ht:((nth x0.ends (nth l k Tip.zero).state.toNat []).take (j+1)).map (fun o=>(nth l k Tip.zero).out++o)=((nth x0.ends (nth l k Tip.zero).state.toNat []).take j).map (fun o=>(nth l k Tip.zero).out++o)++[(nth l k Tip.zero).out++nth (nth x0.ends (nth l k Tip.zero).state.toNat []) j []]:=by
        rw [el_ _ hj [],List.map_append];rfl
      have hsub: ∀y∈P++((nth x0.ends (nth l k Tip.zero).state.toNat []).take (j+1)).map (fun o=>(nth l k Tip.zero).out++o),y∈P++(nth x0.ends (nth l k Tip.zero).state.toNat []).map fun o=>(nth l k Tip.zero).out++o:=fun y hy=>by
        rcases List.mem_append.1 hy with hy|hy
        · exact List.mem_append_left _ hy
        obtain ⟨o,ho,rfl⟩:=List.mem_map.1 hy
        exact List.mem_append_right _ (List.mem_map.2 ⟨o,List.mem_of_mem_take ho,rfl⟩)
      rw [ht,←List.append_assoc]at hsub
      have hst:Am_ x0 l k (j0_ (P++((nth x0.ends (nth l k Tip.zero).state.toNat []).take j).map fun o=>(nth l k Tip.zero).out++o)) (g0_ (P++((nth x0.ends (nth l k Tip.zero).state.toNat []).take j).map fun o=>(nth l k Tip.zero).out++o)) j
          =if P++((nth x0.ends (nth l k Tip.zero).state.toNat []).take j).map (fun o=>(nth l k Tip.zero).out++o)≠[]∧(nth l k Tip.zero).out++nth (nth x0.ends (nth l k Tip.zero).state.toNat []) j []≠g0_ (P++((nth x0.ends (nth l k Tip.zero).state.toNat []).take j).map fun o=>(nth l k Tip.zero).out++o) then some (.inr (.inr (.inl 12)))
            else some (.inl (true,(nth l k Tip.zero).out++nth (nth x0.ends (nth l k Tip.zero).state.toNat []) j [],j+1)):=by
        unfold Am_ Ca_
        rw [dv_ (by omega),dt_ (by omega)]
        by_cases c1:P++((nth x0.ends (nth l k Tip.zero).state.toNat []).take j).map (fun o=>(nth l k Tip.zero).out++o)≠[]
        · rw [p1_.2 c1,iteO_true]
          by_cases c2:(nth l k Tip.zero).out++nth (nth x0.ends (nth l k Tip.zero).state.toNat []) j []≠g0_ (P++((nth x0.ends (nth l k Tip.zero).state.toNat []).take j).map fun o=>(nth l k Tip.zero).out++o)
          · rw [dv_ c2,if_pos ⟨c1,c2⟩];rfl
          rw [dw_ c2,if_neg (fun q=>c2 q.2)];rfl
        rw [show j0_ (P++((nth x0.ends (nth l k Tip.zero).state.toNat []).take j).map fun o=>(nth l k Tip.zero).out++o)=false from by rw [Bool.eq_false_iff];exact fun q=>c1 (p1_.1 q),iteO_false,if_neg (fun q=>c1 q.1)];rfl
      by_cases c:P++((nth x0.ends (nth l k Tip.zero).state.toNat []).take j).map (fun o=>(nth l k Tip.zero).out++o)≠[]∧(nth l k Tip.zero).out++nth (nth x0.ends (nth l k Tip.zero).state.toNat []) j []≠g0_ (P++((nth x0.ends (nth l k Tip.zero).state.toNat []).take j).map fun o=>(nth l k Tip.zero).out++o)
      · rw [if_pos c]at hst
        exact .inr ⟨_,hst,by rw [if_neg fun q=>c.2 ((st_.1 (up_ q hsub)).2 c.1)]⟩
      rw [if_neg c]at hst
      refine .inl ⟨(true,_),hst,?_,?_⟩
      · rw [ht,←List.append_assoc]
        exact st_.2 ⟨hI,fun q=>Classical.byContradiction fun q2=>c ⟨q,q2⟩⟩
      rw [ht,←List.append_assoc,ta_,tf_])
    (fun s hI=>by
      obtain ⟨hI,rfl⟩:=hI
      rw [List.take_length]at hI
      refine ⟨_,?_,rfl⟩
      rw [if_pos hI,List.take_length]
      show Am_ x0 l k _ _ (nth x0.ends (nth l k Tip.zero).state.toNat []).length=_
      unfold Am_
      rw [dw_ (by omega)];rfl) (s0:=(j0_ P,g0_ P)) ⟨by simpa using hP,by simp⟩
  rw [←h2];exact h1
theorem y0_ {n : Nat} {A : List Arc} {E : List Tip} {x0 : Maker} (h : Knows n A E x0) {l : List Tip} (hl : RowOk n l) : C7_ x0 l = some (rn_ E l) := by
  unfold C7_
  obtain ⟨r,h1,h2⟩:=eg_ (step:=fun q:Bool×T_1×Nat=>Ap_ l x0 q.1 q.2.1 q.2.2) (fun (s:Bool×T_1) k=>(s.1,s.2,k)) l.length (fun k s=>Eqs (gs_ E (l.take k))∧s=(j0_ (gs_ E (l.take k)),g0_ (gs_ E (l.take k)))) (fun r=>r=rn_ E l)
    (fun k s hk hI=>by
      obtain ⟨hI,rfl⟩:=hI
      have hs:=hl.st _ (e9_ Tip.zero hk)
      have ht:gs_ E (l.take (k+1))=gs_ E (l.take k)++qj_ E (nth l k Tip.zero):=by rw [el_ l hk Tip.zero,td_]
      have hst:Ap_ l x0 (j0_ (gs_ E (l.take k))) (g0_ (gs_ E (l.take k))) k=some (if Eqs (gs_ E (l.take (k+1))) then .inl (j0_ (gs_ E (l.take (k+1))),g0_ (gs_ E (l.take (k+1))),k+1) else .inr (.inl 12)):=by
        unfold Ap_
        rw [dv_ (by omega),dt_ ⟨hs.1,by rw [h.ends.len];exact hs.2⟩,ht]
        exact y2_ h hl hk _ hI
      by_cases c:Eqs (gs_ E (l.take (k+1)))
      · rw [if_pos c]at hst
        exact .inl ⟨(_,_),hst,c,rfl⟩
      rw [if_neg c]at hst
      refine .inr ⟨_,hst,?_⟩
      unfold rn_
      rw [if_pos]
      intro q
      refine c (up_ q fun y hy=> ?_)
      obtain ⟨x,hx,e,he⟩:=mm_.1 hy
      exact mm_.2 ⟨x,List.mem_of_mem_take hx,e,he⟩)
    (fun s hI=>by
      obtain ⟨hI,rfl⟩:=hI
      rw [List.take_length]at hI
      refine ⟨_,?_,rfl⟩
      have hlen:(g0_ (gs_ E l)).length≤281474976710656:=by
        by_cases c:gs_ E l=[]
        · rw [c];simp [g0_]
        obtain ⟨x,hx,e,he,_,hq⟩:=mm_.1 (my_ c)
        have h3:=hl.out x hx
        have h4:=h.eo e he
        rw [hq,List.length_append];omega
      rw [List.take_length]
      show Ap_ l x0 _ _ l.length=_
      unfold Ap_ rn_
      rw [dw_ (by omega),if_neg (fun q=>q hI),pn_ hlen,ea_]
      by_cases c:4096<(g0_ (gs_ E l)).length
      · rw [if_pos c,if_pos c];rfl
      rw [if_neg c,if_neg c];rfl) (s0:=(false,[])) ⟨by intro x hx;simp [gs_]at hx,rfl⟩
  rw [←h2];exact h1
theorem beh_in {n : Nat} {A : List Arc} {E : List Tip} {x0 : Maker} (h : Knows n A E x0) {l : List Tip} (hl : RowOk n l) (b : UInt8) {k : Nat} (hk : k < l.length) (P : List Tip) (hP : P.length + A.length ≤ 100000000000) :
    ec_ (fun q:(List Tip)×Nat=>Ag_ x0 l k b q.1 q.2) (P,0)=some (.inl (P++yl_ A b (nth l k Tip.zero),k+1)):=by
  have hm:=e9_ Tip.zero hk
  have hs:=hl.st _ hm
  have ho:=hl.out _ hm
  have hg:=h.arcs.at hs.1 hs.2
  rw [List.map_id]at hg
  have hga: ∀a∈nth x0.arcs (nth l k Tip.zero).state.toNat [],a.out.length≤1024:=by
    rw [hg];intro a ha;exact h.ao a (List.mem_filter.1 ha).1
  have hgl:(nth x0.arcs (nth l k Tip.zero).state.toNat []).length≤A.length:=by rw [hg];exact List.length_filter_le _ _
  have hX:yl_ A b (nth l k Tip.zero)=((nth x0.arcs (nth l k Tip.zero).state.toNat []).filter fun a=>a.set.has b.toNat).map fun a=>⟨a.to,(nth l k Tip.zero).out++em a b⟩:=by rw [hg];rfl
  rw [hX]
  obtain ⟨r,h1,h2⟩:=eg_ (step:=fun q:(List Tip)×Nat=>Ag_ x0 l k b q.1 q.2) (fun s j=>(s,j)) (nth x0.arcs (nth l k Tip.zero).state.toNat []).length
    (fun j s=>s=P++(((nth x0.arcs (nth l k Tip.zero).state.toNat []).take j).filter fun a=>a.set.has b.toNat).map fun a=>⟨a.to,(nth l k Tip.zero).out++em a b⟩)
    (fun r=>r= .inl (P++((nth x0.arcs (nth l k Tip.zero).state.toNat []).filter fun a=>a.set.has b.toNat).map fun a=>⟨a.to,(nth l k Tip.zero).out++em a b⟩,k+1))
    (fun j s hj hI=>by
      subst hI
      have hoj:=hga _ (e9_ Arc.zero hj)
      have hpl:(P++(((nth x0.arcs (nth l k Tip.zero).state.toNat []).take j).filter fun a=>a.set.has b.toNat).map fun a=>(⟨a.to,(nth l k Tip.zero).out++em a b⟩:Tip)).length≤100000000000:=by
        rw [List.length_append,List.length_map]
        have h3:=List.length_filter_le (fun a:Arc=>a.set.has b.toNat) ((nth x0.arcs (nth l k Tip.zero).state.toNat []).take j)
        rw [List.length_take]at h3
        omega
      refine .inl ⟨_,?_,rfl⟩
      rw [el_ _ hj Arc.zero,List.filter_append,List.map_append,←List.append_assoc]
      generalize P++(((nth x0.arcs (nth l k Tip.zero).state.toNat []).take j).filter fun a=>a.set.has b.toNat).map (fun a=>(⟨a.to,(nth l k Tip.zero).out++em a b⟩:Tip))=S at hpl ⊢
      show Ag_ x0 l k b S j=_
      unfold Ag_ Ax_ Bu_
      rw [dv_ (by omega)]
      generalize nth (nth x0.arcs (nth l k Tip.zero).state.toNat []) j Arc.zero=a at hoj ⊢
      cases c:a.set.has b.toNat with
      |false=>
        rw [f4_]
        simp [c,nxt]
      |true=>
        rw [f3_,dt_ (by omega)]
        cases d:a.copy with
        |true=>
          rw [iteO_true,dt_ (by simp;omega),dt_ (by simp;omega)]
          unfold Ax_
          simp [c,d,nxt,em]
        |false=>
          rw [iteO_false,dt_ (by simp;omega)]
          unfold Ax_
          simp [c,d,nxt,em])
    (fun s hI=>by
      subst hI
      refine ⟨_,?_,rfl⟩
      rw [List.take_length]
      show Ag_ x0 l k b _ _=_
      unfold Ag_
      rw [dw_ (by omega)];rfl) (s0:=P) (by simp)
  rw [←h2];exact h1
theorem beh_ok{n:Nat}{A:List Arc}{E:List Tip}{x0:Maker}(h:Knows n A E x0){l:List Tip}(hl:RowOk n l)(b:UInt8):Cj_ x0 l b=some (lj_ A l b):=by
  unfold Cj_
  have hal:=h.al
  have hll:=hl.len
  obtain ⟨r,h1,h2⟩:=eg_ (step:=fun q:(List Tip)×Nat=>Aj_ l x0 b q.1 q.2) (fun s k=>(s,k)) l.length (fun k s=>s=lj_ A (l.take k) b) (fun r=>r=lj_ A l b)
    (fun k s hk hI=>by
      subst hI
      have hs:=hl.st _ (e9_ Tip.zero hk)
      refine .inl ⟨_,?_,rfl⟩
      have hb:=pa_ A b (l.take k)
      have h3:(l.take k).length * A.length≤1000000 * 16384:=Nat.mul_le_mul (by rw [List.length_take];omega) hal
      show Aj_ l x0 b _ k=_
      unfold Aj_
      rw [dv_ (by omega),dt_ ⟨hs.1,by rw [h.arcs.len];exact hs.2⟩,beh_in h hl b hk (lj_ A (l.take k) b) (by omega),el_ l hk Tip.zero,wg_])
    (fun s hI=>by
      subst hI
      refine ⟨_,?_,rfl⟩
      rw [List.take_length]
      show Aj_ l x0 b _ l.length=_
      unfold Aj_
      rw [dw_ (by omega)];rfl) (s0:=[]) rfl
  rw [←h2];exact h1
end Go.Proofs.YtchebnpdnfhenaaGreatDoor
end

noncomputable section
namespace Go.Proofs.YtchebnpdnfhenaaGreatDoor
open Go Go.E
end Go.Proofs.YtchebnpdnfhenaaGreatDoor
end

noncomputable section
namespace Go.Proofs.YtchebnpdnfhenaaGreatDoor
open Go Go.E
def rq_ (A : List Arc) (most : Int) (l : List Tip) (b : UInt8) (R : List (List Tip)) : Int ⊕ (List (List Tip) × Int × T_1) :=
  if lj_ A l b=[] then .inr (R, -1,[]) else
  match h7_ (lj_ A l b)with
  | .inl k=> .inl k
  | .inr (f,r)=>match i4_ most R r with
    | .inl k=> .inl k
    | .inr (i,R')=> .inr (R',((i:Nat):Int),f)
def g4_ (A : List Arc) (most : Int) (l : List Tip) (R : List (List Tip)) : Nat → Int ⊕ (List (List Tip) × N_1 × T_2)
  |0=> .inr (R,[],[])
  | k + 1 => match g4_ A most l R k with
    | .inl e=> .inl e
    | .inr (R1,N,O)=>match rq_ A most l (ix_ ((k:Nat):Int)) R1 with
      | .inl e=> .inl e
      | .inr (R2,z,o)=> .inr (R2,N++[z],O++[o])
def oy_(q:Seq)(N:N_1)(O:T_2)(b:Bool)(t:T_1):Seq:=⟨q.front,q.next++[N],q.outs++[O],q.fin++[b],q.tail++[t]⟩
def doD (A : List Arc) (E : List Tip) (most : Int) (l : List Tip) (R : List (List Tip)) (q : Seq) : Int ⊕ (List (List Tip) × Seq) :=
  match rn_ E l with
  | .inl e=> .inl e
  | .inr (b,t)=>match g4_ A most l R 256 with
    | .inl e=> .inl e
    | .inr (R',N,O)=> .inr (R',oy_ q N O b t)
def z9_ (A : List Arc) (E : List Tip) (most : Int) : Nat → Nat → List (List Tip) → Seq → Int ⊕ (List (List Tip) × Seq)
  |0,_,R,q=> .inr (R,q)
  | g + 1, s, R, q => if s < R.length then
      match doD A E most (nth R s []) R q with
      | .inl e=> .inl e
      | .inr (R',q')=>z9_ A E most g (s+1) R' q'
    else .inr (R,q)
def ofT(t:Fst)(most:Int):Int⊕(List (List Tip)×Seq):=
  if t.starts=[] then .inr ([],Seq.zero) else
  match h7_ t.starts with
  | .inl e=> .inl e
  | .inr (f,l)=>z9_ t.arcs t.ends most 1025 0 [l] ⟨f,[],[],[],[]⟩
def ofR:Int⊕(List (List Tip)×Seq)→Seq×Int
  | .inl e=>(Seq.zero,e)
  | .inr (_,q)=>(q,0)
theorem vl_{n:Int}(hn:0≤n){l:List Tip}(h:l.Pairwise fun x y=>x.state<y.state)(hs: ∀x∈l,0≤x.state∧x.state<n):(l.length:Int)≤n:=by
  have h1:(l.map fun x=>x.state.toNat).Nodup:=by
    rw [List.Nodup,List.pairwise_map]
    refine h.imp_of_mem fun {a b} ha hb q e=> ?_
    have h2:=(hs a ha).1
    have h3:=(hs b hb).1
    omega
  have h2:=gf_ h1 (m:=List.range n.toNat) fun x hx=>by
    obtain ⟨y,hy,rfl⟩:=List.mem_map.1 hx
    have:=hs y hy
    rw [List.mem_range];omega
  rw [List.length_map,List.length_range]at h2
  omega
theorem zf_ {l : List Tip} (h : l.Pairwise fun x y => eo_ x y < 0) (hd : ¬ s6_ l = true) : l.Pairwise fun x y => x.state < y.state := by
  have key: ∀l:List Tip,(l.Pairwise fun x y=>eo_ x y<0)→ ¬ s6_ l=true→l.Pairwise fun x y=>x.state<y.state:=by
    intro l
    induction l with
    |nil=>intro _ _;exact List.Pairwise.nil
    |cons a l ih=>
      intro h hd
      rw [List.pairwise_cons]at h
      cases l with
      |nil=>simp
      |cons b l=>
        rw [s6_,Bool.or_eq_true,decide_eq_true_eq]at hd
        have h1:=ih h.2 (fun q=>hd (.inr q))
        refine List.pairwise_cons.2 ⟨fun x hx=> ?_,h1⟩
        have hab:a.state<b.state:=by
          have h2:=h.1 b (List.mem_cons_self ..)
          have h3:a.state≠b.state:=fun q=>hd (.inl q)
          unfold eo_ i7_ sz_ at h2
          repeat' split at h2
          all_goals omega
        rcases List.mem_cons.1 hx with rfl|hx
        · exact hab
        have:=(List.pairwise_cons.1 h1).1 x hx
        omega
  exact key l h hd
theorem strip_row{n:Int}(hn:0≤n∧n≤1024){l:List Tip}(hs: ∀x∈l,0≤x.state∧x.state<n){f:T_1}{r:List Tip}(h:h7_ l= .inr (f,r)):
    RowOk n r∧f.length≤4096∧(∀x,x∈r↔ ∃y∈l,y.state=x.state∧y.out=f++x.out)∧f=ft_ (l.map Tip.out):=by
  rw [tr_]at h
  by_cases c1:s6_ (gb_ Tip.zero eo_ l)=true
  · rw [if_pos c1]at h;cases h
  rw [if_neg c1]at h
  by_cases c2:4096<(ft_ (l.map Tip.out)).length
  · rw [if_pos c2]at h;cases h
  rw [if_neg c2]at h
  by_cases c3: ∃x∈gb_ Tip.zero eo_ l,4096<(x.out.drop (ft_ (l.map Tip.out)).length).length
  · rw [if_pos c3]at h;cases h
  rw [if_neg c3]at h
  cases h
  have hso: ∀x∈gb_ Tip.zero eo_ l,0≤x.state∧x.state<n:=fun x hx=>hs x ((ez_ ..).1 hx)
  have hinc:=zf_ (gl_ fa_ l) c1
  have hlen:=vl_ hn.1 hinc hso
  refine ⟨⟨by rw [List.length_map];omega,?_,fun x hx=> ?_,fun x hx=> ?_⟩,by omega,fun x=> ?_,rfl⟩
  · rw [List.pairwise_map];exact hinc
  · obtain ⟨y,hy,rfl⟩:=List.mem_map.1 hx
    exact hso y hy
  · obtain ⟨y,hy,rfl⟩:=List.mem_map.1 hx
    exact Nat.le_of_not_lt fun q=>c3 ⟨y,hy,q⟩
  rw [List.mem_map]
  constructor
  · rintro ⟨y,hy,rfl⟩
    have hm:=(ez_ ..).1 hy
    refine ⟨y,hm,rfl,?_⟩
    obtain ⟨u,hu⟩:=gx_ (List.mem_map.2 ⟨y,hm,rfl⟩:y.out∈l.map Tip.out)
    show y.out=_++y.out.drop _
    rw [←hu,List.drop_left]
  rintro ⟨y,hy,h1,h2⟩
  refine ⟨y,(ez_ ..).2 hy,?_⟩
  unfold nw_
  rw [h1,h2,List.drop_left]
theorem beh_st{n:Int}{A:List Arc}(hA: ∀a∈A,0≤a.to∧a.to<n)(l:List Tip)(b:UInt8): ∀x∈lj_ A l b,0≤x.state∧x.state<n:=fun x hx=>by
  obtain ⟨y,_,a,ha,_,_,rfl⟩:=s5_.1 hx
  exact hA a ha
theorem ze_{n:Int}{A:List Arc}(hA: ∀a∈A,a.out.length≤1024){l:List Tip}(hl:RowOk n l)(b:UInt8): ∀x∈lj_ A l b,x.out.length≤281474976710656:=fun x hx=>by
  obtain ⟨y,hy,a,ha,_,_,rfl⟩:=s5_.1 hx
  have h1:=hl.out y hy
  have h2:=hA a ha
  show (y.out++em a b).length≤_
  unfold em
  rw [List.length_append]
  split
  · rw [List.length_append,List.length_singleton];omega
  omega
theorem l3_{α:Type}(l:List α)(m:Nat)(x z:α)(h:l.length<m):(l++List.replicate (m - l.length) z).set l.length x=(l++[x])++List.replicate (m - (l++[x]).length) z:=by
  rw [List.set_append_right _ _ (Nat.le_refl _),Nat.sub_self,List.length_append,List.length_singleton,show m - l.length=(m - (l.length+1))+1 by omega,List.replicate_succ,List.set_cons_zero]
  simp
theorem Hm_{α:Type}(l:List α)(i:Nat)(x y:α):(l.set i x).set i y=l.set i y:=by simp
structure Fits (n:Nat) (A:List Arc) (E:List Tip) (x:Maker):Prop extends Knows n A E x where
  to: ∀a∈A,0≤a.to∧a.to<(n:Int)
  few:n * A.length≤1000000
  m1:1≤x.most
  m2:x.most≤1024
theorem ug_{most:Int}{R R':List (List Tip)}{r:List Tip}{i:Nat}(h:i4_ most R r= .inr (i,R'))(hR:(R.length:Int)≤most):(R'.length:Int)≤most∧(∃X,R'=R++X)∧i<R'.length∧nth R' i []=r:=by
  unfold i4_ at h
  by_cases c:r∈R
  · rw [if_pos c]at h;cases h
    exact ⟨hR,⟨[],(List.append_nil _).symm⟩,pz_ c,vo_ c⟩
  rw [if_neg c]at h
  by_cases d:most≤(R.length:Int)
  · rw [if_pos d]at h;cases h
  rw [if_neg d]at h;cases h
  exact ⟨by simp;omega,⟨_,rfl⟩,by simp,gi_ R r []⟩
theorem w4_{A:List Arc}{most:Int}{l:List Tip}{b:UInt8}{R R':List (List Tip)}{z:Int}{o:T_1}(h:rq_ A most l b R= .inr (R',z,o))(hR:(R.length:Int)≤most):(R'.length:Int)≤most∧ ∃X,R'=R++X:=by
  unfold rq_ at h
  by_cases c:lj_ A l b=[]
  · rw [if_pos c]at h;cases h
    exact ⟨hR,[],(List.append_nil _).symm⟩
  rw [if_neg c]at h
  split at h
  · cases h
  split at h
  · cases h
  rename_i q;cases h
  have:=ug_ q hR
  exact ⟨this.1,this.2.1⟩
theorem j8_{A:List Arc}{most:Int}{l:List Tip}{R:List (List Tip)}(hR:(R.length:Int)≤most): ∀{k:Nat} {R':List (List Tip)} {N:N_1} {O:T_2},g4_ A most l R k= .inr (R',N,O)→(R'.length:Int)≤most∧(∃X,R'=R++X)∧N.length=k∧O.length=k
  |0,R',N,O,h=>by cases h;exact ⟨hR,⟨[],(List.append_nil _).symm⟩,rfl,rfl⟩
  |k+1,R',N,O,h=>by
    rw [g4_]at h
    split at h
    · cases h
    rename_i R1 N1 O1 q
    obtain ⟨h1,⟨X,h2⟩,h3,h4⟩:=j8_ hR q
    split at h
    · cases h
    rename_i R2 z o q2
    cases h
    obtain ⟨h5,Y,h6⟩:=w4_ q2 h1
    exact ⟨h5,⟨X++Y,by rw [h6,h2,List.append_assoc]⟩,by simp [h3],by simp [h4]⟩
end Go.Proofs.YtchebnpdnfhenaaGreatDoor
end

noncomputable section
namespace Go.Proofs.YtchebnpdnfhenaaGreatDoor
open Go Go.E
theorem pg_{β γ:Type}{key:β→Int}{val:β→γ}{n:Nat}{l:List (List γ)}{xs:List β}(h:Grp key val n l xs){i:Nat}(hi:i<n):(nth l i []).length≤xs.length:=by
  rw [h.row i hi,List.length_map];exact List.length_filter_le ..
theorem h2_{α:Type}(l:List α)(k:Nat):(l.take k).length≤l.length:=by rw [List.length_take];omega
theorem vd_{t:Fst}(ht:FstOk t): ∃on bk,Ds_ t=some (t,on,bk)∧Grp Arc.frm Arc.to t.states.toNat on t.arcs∧Grp Arc.to Arc.frm t.states.toNat bk t.arcs:=by
  have h0:=ht.st0
  have h1:=ht.st1
  have hN:=ht.arcsN
  unfold Ds_ Dk_
  rw [dt_ ⟨h0,by omega⟩,dt_ ⟨h0,by omega⟩]
  obtain ⟨r,h2,on,bk,rfl,h3,h4⟩:=xp_ (step:=fun q:N_2×N_2×Nat=>Ay_ t q.1 q.2.1 q.2.2) (fun (s:N_2×N_2) k=>(s.1,s.2,k)) t.arcs Arc.zero
    (fun pre s=>Grp Arc.frm Arc.to t.states.toNat s.1 pre∧Grp Arc.to Arc.frm t.states.toNat s.2 pre)
    (fun r=> ∃on bk,r=(t,on,bk)∧Grp Arc.frm Arc.to t.states.toNat on t.arcs∧Grp Arc.to Arc.frm t.states.toNat bk t.arcs)
    (fun k s hk ⟨a1,a2⟩=>by
      obtain ⟨b1,b2,b3,b4⟩:=ht.arcs _ (e9_ Arc.zero hk)
      have l1:=a1.len
      have l2:=a2.len
      have r1:=pg_ a1 (i:=(nth t.arcs k Arc.zero).frm.toNat) (by omega)
      have r2:=pg_ a2 (i:=(nth t.arcs k Arc.zero).to.toNat) (by omega)
      have r3:=h2_ t.arcs k
      refine .inl ⟨(s.1.set (nth t.arcs k Arc.zero).frm.toNat (nth s.1 (nth t.arcs k Arc.zero).frm.toNat []++[(nth t.arcs k Arc.zero).to]),s.2.set (nth t.arcs k Arc.zero).to.toNat (nth s.2 (nth t.arcs k Arc.zero).to.toNat []++[(nth t.arcs k Arc.zero).frm])),?_,a1.snoc b1.1 (by omega),a2.snoc b2.1 (by omega)⟩
      show Ay_ t s.1 s.2 k=_
      unfold Ay_ Di_ Dl_
      rw [dv_ (by omega),dt_ ⟨b1.1,by omega⟩,dt_ (by simp only [List.length_singleton];omega),dt_ ⟨b1.1,by omega⟩,dt_ ⟨b2.1,by omega⟩,dt_ (by simp only [List.length_singleton];omega),dt_ ⟨b2.1,by omega⟩]
      rfl)
    (fun s hI=>⟨(t,s.1,s.2),by
      show Ay_ t s.1 s.2 t.arcs.length=_
      unfold Ay_
      rw [dw_ (by omega)];rfl,s.1,s.2,rfl,hI.1,hI.2⟩)
    (s0:=(List.replicate t.states.toNat [],List.replicate t.states.toNat [])) ⟨Grp.nil ..,Grp.nil ..⟩
  exact ⟨on,bk,h2,h3,h4⟩
theorem yh_{t:Fst}(ht:FstOk t){key val:Arc→Int}{l:N_2}(h:Grp key val t.states.toNat l t.arcs)(hk: ∀a∈t.arcs,0≤key a∧key a<t.states):stE l=fun a b=> ∃x∈t.arcs,key x=a∧val x=b:=by
  funext a b
  refine propext ⟨fun ⟨h0,hb⟩=> ?_,fun ⟨x,hx,h1,h2⟩=> ?_⟩
  · have hlt:a.toNat<t.states.toNat:=by
      have:=h.len
      by_cases hl:a.toNat<l.length
      · omega
      unfold nth at hb
      rw [List.getD_eq_getElem?_getD,List.getElem?_eq_none (by omega)]at hb
      simp at hb
    rw [h.row _ hlt,List.mem_map]at hb
    obtain ⟨x,hx,e⟩:=hb
    have:=List.mem_filter.1 hx
    exact ⟨x,this.1,by have:=of_decide_eq_true this.2;omega,e⟩
  have:=hk x hx
  refine ⟨by omega,?_⟩
  rw [h.row _ (by omega),List.mem_map]
  exact ⟨x,List.mem_filter.2 ⟨hx,decide_eq_true (by omega)⟩,h2⟩
theorem vg_{t:Fst}{key val:Arc→Int}{l:N_2}(h:Grp key val t.states.toNat l t.arcs)(hk: ∀a∈t.arcs,0≤val a∧val a<t.states): ∀a, ∀z∈nth l a [],0≤z∧z<t.states.toNat:=fun a z hz=>by
  have hl:=h.len
  by_cases ha:a<t.states.toNat
  · rw [h.row _ ha,List.mem_map]at hz
    obtain ⟨x,hx,rfl⟩:=hz
    have:=hk x (List.mem_filter.1 hx).1
    omega
  unfold nth at hz
  rw [List.getD_eq_getElem?_getD,List.getElem?_eq_none (by omega)]at hz
  simp at hz
def u7_(p:Nat→Bool)(n:Nat)(num:N_1):Prop:=num.length=n∧ ∀s:Int,0≤s→s<n→nth num s.toNat 0=iq_ p s
theorem nv_(p:Nat→Bool)(l:List Tip)(k:Nat)(h:k<l.length):g5_ p (l.take (k+1))=g5_ p (l.take k)++(if 0≤iq_ p (nth l k Tip.zero).state then [⟨iq_ p (nth l k Tip.zero).state,(nth l k Tip.zero).out⟩] else []):=by
  rw [el_ l h Tip.zero]
  unfold g5_
  rw [List.filterMap_append]
  congr 1
  by_cases hc:0≤iq_ p (nth l k Tip.zero).state
  · rw [List.filterMap_cons,if_pos hc,if_pos hc];rfl
  rw [List.filterMap_cons,if_neg hc,if_neg hc];rfl
theorem tv_(p:Nat→Bool)(l:List Arc)(k:Nat)(h:k<l.length):h8_ p (l.take (k+1))=h8_ p (l.take k)++(if 0≤iq_ p (nth l k Arc.zero).frm∧0≤iq_ p (nth l k Arc.zero).to then [⟨iq_ p (nth l k Arc.zero).frm,iq_ p (nth l k Arc.zero).to,(nth l k Arc.zero).set,(nth l k Arc.zero).out,(nth l k Arc.zero).copy⟩] else []):=by
  rw [el_ l h Arc.zero]
  unfold h8_
  rw [List.filterMap_append]
  congr 1
  by_cases hc:0≤iq_ p (nth l k Arc.zero).frm∧0≤iq_ p (nth l k Arc.zero).to
  · rw [List.filterMap_cons,if_pos hc,if_pos hc];rfl
  rw [List.filterMap_cons,if_neg hc,if_neg hc];rfl
theorem vn_{t:Fst}(ht:FstOk t){p:Nat→Bool}{num:N_1}(hn:u7_ p t.states.toNat num)(c:Nat)(S E:List Tip):
    ec_ (fun q:List Arc×Nat=>Bc_ t num c S E q.1 q.2) (([]:List Arc),0)=bnd (Cf_ ⟨(c:Int),S,E,h8_ p t.arcs⟩) (fun v=>some (v.1,v.2)):=by
  have hN:=ht.arcsN
  obtain ⟨r,hr⟩: ∃r,bnd (Cf_ ⟨(c:Int),S,E,h8_ p t.arcs⟩) (fun v=>some (v.1,v.2))=some r:=by rw [o3_];exact ⟨_,rfl⟩
  rw [hr]
  refine m1_ t.arcs Arc.zero (fun k=>h8_ p (t.arcs.take k)) (fun k hk=> ?_) ?_
  · obtain ⟨b1,b2,b3,b4⟩:=ht.arcs _ (e9_ Arc.zero hk)
    have hl:=q6_ p (t.arcs.take k)
    have r3:=h2_ t.arcs k
    have e1:=hn.2 _ b1.1 (by omega)
    have e2:=hn.2 _ b2.1 (by omega)
    have l1:=hn.1
    show Bc_ t num c S E _ k=_
    unfold Bc_ Cp_
    rw [dv_ (by omega),dt_ ⟨b1.1,by omega⟩,dt_ ⟨b2.1,by omega⟩,e1,e2,tv_ p _ k hk]
    by_cases c1:0≤iq_ p (nth t.arcs k Arc.zero).frm
    · rw [dv_ c1]
      by_cases c2:0≤iq_ p (nth t.arcs k Arc.zero).to
      · rw [dv_ c2,if_pos ⟨c1,c2⟩,dt_ (by simp only [List.length_singleton];omega)];rfl
      rw [dw_ c2,if_neg (fun h=>c2 h.2),List.append_nil];rfl
    rw [dw_ c1,if_neg (fun h=>c1 h.1),List.append_nil];rfl
  show Bc_ t num c S E _ _=_
  unfold Bc_
  rw [dw_ (by omega),List.take_length,hr];rfl
theorem u9_{t:Fst}(ht:FstOk t){p:Nat→Bool}{num:N_1}(hn:u7_ p t.states.toNat num)(c:Nat)(S:List Tip):
    ec_ (fun q:List Tip×Nat=>Bj_ t num c S q.1 q.2) (([]:List Tip),0)=bnd (Cf_ ⟨(c:Int),S,g5_ p t.ends,h8_ p t.arcs⟩) (fun v=>some (v.1,v.2)):=by
  have hN:=ht.endsN
  obtain ⟨r,hr⟩: ∃r,bnd (Cf_ ⟨(c:Int),S,g5_ p t.ends,h8_ p t.arcs⟩) (fun v=>some (v.1,v.2))=some r:=by rw [o3_];exact ⟨_,rfl⟩
  rw [hr]
  refine m1_ t.ends Tip.zero (fun k=>g5_ p (t.ends.take k)) (fun k hk=> ?_) ?_
  · obtain ⟨b1,b2⟩:=ht.ends _ (e9_ Tip.zero hk)
    have hl:=j1_ p (t.ends.take k)
    have r3:=h2_ t.ends k
    have e1:=hn.2 _ b1.1 (by omega)
    have l1:=hn.1
    show Bj_ t num c S _ k=_
    unfold Bj_ Dc_
    rw [dv_ (by omega),dt_ ⟨b1.1,by omega⟩,e1,nv_ p _ k hk]
    by_cases c1:0≤iq_ p (nth t.ends k Tip.zero).state
    · rw [dv_ c1,if_pos c1,dt_ (by simp only [List.length_singleton];omega)];rfl
    rw [dw_ c1,if_neg c1,List.append_nil];rfl
  show Bj_ t num c S _ _=_
  unfold Bj_
  rw [dw_ (by omega),List.take_length,vn_ ht hn,hr];rfl
theorem ro_{t:Fst}(ht:FstOk t){p:Nat→Bool}{num:N_1}(hn:u7_ p t.states.toNat num)(c:Nat):
    ec_ (fun q:List Tip×Nat=>A9_ t num c q.1 q.2) (([]:List Tip),0)=bnd (Cf_ ⟨(c:Int),g5_ p t.starts,g5_ p t.ends,h8_ p t.arcs⟩) (fun v=>some (v.1,v.2)):=by
  have hN:=ht.startsN
  obtain ⟨r,hr⟩: ∃r,bnd (Cf_ ⟨(c:Int),g5_ p t.starts,g5_ p t.ends,h8_ p t.arcs⟩) (fun v=>some (v.1,v.2))=some r:=by rw [o3_];exact ⟨_,rfl⟩
  rw [hr]
  refine m1_ t.starts Tip.zero (fun k=>g5_ p (t.starts.take k)) (fun k hk=> ?_) ?_
  · obtain ⟨b1,b2⟩:=ht.starts _ (e9_ Tip.zero hk)
    have hl:=j1_ p (t.starts.take k)
    have r3:=h2_ t.starts k
    have e1:=hn.2 _ b1.1 (by omega)
    have l1:=hn.1
    show A9_ t num c _ k=_
    unfold A9_ Dd_
    rw [dv_ (by omega),dt_ ⟨b1.1,by omega⟩,e1,nv_ p _ k hk]
    by_cases c1:0≤iq_ p (nth t.starts k Tip.zero).state
    · rw [dv_ c1,if_pos c1,dt_ (by simp only [List.length_singleton];omega)];rfl
    rw [dw_ c1,if_neg c1,List.append_nil];rfl
  show A9_ t num c _ _=_
  unfold A9_
  rw [dw_ (by omega),List.take_length,u9_ ht hn,hr];rfl
theorem ur_ {t : Fst} (ht : FstOk t) {on bk : N_2} (h1 : Grp Arc.frm Arc.to t.states.toNat on t.arcs) (h2 : Grp Arc.to Arc.frm t.states.toNat bk t.arcs) {l0 : N_1} (hl0 : l0.length = t.states.toNat) (hm : ∀ i, i < t.states.toNat → nth l0 i 0 = -1) :
    ∃num,C0_ (nh_ (fun (q:N_1×Nat) (x:Int)=>Bt_ q.1 q.2 x)) (0,(l0,0)) (⟨t.states,t.starts,t.ends,t.arcs⟩:Fst) on bk=some (0,(num,f0_ (g6_ t) t.states.toNat))∧u7_ (g6_ t) t.states.toNat num:=by
  have h0:=ht.st0
  have hs1:=ht.st1
  obtain ⟨ah,a1,a2,a3⟩:=sk_ (tips:=t.starts) (by omega) h1.len (vg_ h1 fun a ha=>(ht.arcs a ha).2.1) (fun x hx=>by have:=(ht.starts x hx).1;omega)
  obtain ⟨be,b1,b2,b3⟩:=sk_ (tips:=t.ends) (by omega) h2.len (vg_ h2 fun a ha=>(ht.arcs a ha).1) (fun x hx=>by have:=(ht.ends x hx).1;omega)
  rw [yh_ ht h1 fun a ha=>(ht.arcs a ha).1]at a3
  rw [yh_ ht h2 fun a ha=>(ht.arcs a ha).2.1]at b3
  have hp: ∀v,g6_ t v=(nth ah v false && nth be v false):=fun v=>by
    rw [Bool.eq_iff_iff,Bool.and_eq_true,a3 v,b3 v];exact sa_
  unfold C0_
  rw [et_ a1,et_ b1]
  obtain ⟨r,e,f⟩:=eg_ (step:=fun q:Nat×(Nat×N_1×Nat)=>Ao_ ah be (nh_ (fun (q:N_1×Nat) (x:Int)=>Bt_ q.1 q.2 x)) q.1 q.2) (fun (s:Nat×N_1×Nat) k=>(k,s)) t.states.toNat
    (fun k s=>s.1=0∧s.2.2=f0_ (g6_ t) k∧s.2.1.length=t.states.toNat∧ ∀i,i<t.states.toNat→nth s.2.1 i 0=if i<k then iq_ (g6_ t) i else -1)
    (fun r=>r.1=0∧r.2.2=f0_ (g6_ t) t.states.toNat∧u7_ (g6_ t) t.states.toNat r.2.1)
    (fun k s hk ⟨c1,c2,c3,c4⟩=>by
      obtain ⟨j,l,c⟩:=s
      obtain rfl:j=0:=c1
      obtain rfl:c=f0_ (g6_ t) k:=c2
      dsimp only at c3 c4
      refine .inl ?_
      show ∃s':Nat×N_1×Nat,Ao_ ah be _ k (0,l,f0_ (g6_ t) k)=_∧_
      unfold Ao_ Br_
      rw [dv_ (by omega)]
      have hk':=hp k
      cases ha:nth ah k false with
      |false=>
        rw [ha,Bool.false_and]at hk'
        refine ⟨(0,l,f0_ (g6_ t) k),rfl,rfl,by simp only [f0_,hk'];rfl,c3,fun i hi=> ?_⟩
        dsimp only
        rw [c4 i hi]
        by_cases e1:i<k
        · rw [if_pos e1,if_pos (by omega)]
        rw [if_neg e1]
        by_cases e2:i<k+1
        · obtain rfl:i=k:=by omega
          rw [if_pos e2];unfold iq_;simp [hk']
        rw [if_neg e2]
      |true=>
        rw [iteO_true,dt_ (by omega)]
        cases hb:nth be k false with
        |false=>
          rw [ha,hb,Bool.true_and]at hk'
          refine ⟨(0,l,f0_ (g6_ t) k),rfl,rfl,by simp only [f0_,hk'];rfl,c3,fun i hi=> ?_⟩
          dsimp only
          rw [c4 i hi]
          by_cases e1:i<k
          · rw [if_pos e1,if_pos (by omega)]
          rw [if_neg e1]
          by_cases e2:i<k+1
          · obtain rfl:i=k:=by omega
            rw [if_pos e2];unfold iq_;simp [hk']
          rw [if_neg e2]
        |true=>
          rw [ha,hb,Bool.true_and]at hk'
          have hy:nh_ (fun (q:N_1×Nat) (x:Int)=>Bt_ q.1 q.2 x) (0,l,f0_ (g6_ t) k) ((k:Nat):Int)=some ((0,l.set k ((f0_ (g6_ t) k:Nat):Int),f0_ (g6_ t) k+1),true):=by
            unfold nh_
            rw [if_pos rfl]
            show (Bt_ l (f0_ (g6_ t) k) ((k:Nat):Int)).bind _=_
            unfold Bt_
            have hself:=gk_ (g6_ t) k
            rw [dt_ ⟨by omega,by omega⟩,dt_ (by omega)];rfl
          rw [iteO_true,et_ hy]
          refine ⟨(0,l.set k ((f0_ (g6_ t) k:Nat):Int),f0_ (g6_ t) k+1),rfl,rfl,by simp only [f0_,hk',if_true],by rw [List.length_set];exact c3,fun i hi=> ?_⟩
          dsimp only
          rw [d6_]
          by_cases e1:k=i
          · subst e1
            rw [if_pos ⟨rfl,by omega⟩,if_pos (by omega),j3_ (by simpa using hk')];simp
          rw [if_neg (fun h=>e1 h.1),c4 i hi]
          by_cases e2:i<k
          · rw [if_pos e2,if_pos (by omega)]
          rw [if_neg e2,if_neg (by omega)])
    (fun s ⟨c1,c2,c3,c4⟩=>⟨s,by
      show Ao_ ah be _ _ s=_
      unfold Ao_
      rw [dw_ (by omega)];rfl,c1,c2,c3,fun v h1 h2=>by
        rw [c4 _ (by omega),if_pos (by omega),show ((v.toNat:Nat):Int)=v by omega]⟩)
    (s0:=(0,l0,0)) ⟨rfl,rfl,hl0,fun i hi=>by rw [if_neg (by omega)];exact hm i hi⟩
  obtain ⟨j,num,c⟩:=r
  obtain ⟨f1,f2,f3⟩:=f
  dsimp only at f1 f2 f3
  subst f1 f2
  exact ⟨num,e,f3⟩
def jc_(t:Fst):Fst:=srt (te_ (g6_ t) t)
theorem ok_rng{t:Fst}(ht:FstOk t):Rng t:=⟨fun x hx=>(ht.starts x hx).1,fun x hx=>(ht.ends x hx).1,fun x hx=>⟨(ht.arcs x hx).1,(ht.arcs x hx).2.1⟩⟩
theorem v6_{t:Fst}(ht:FstOk t):FstOk (te_ (g6_ t) t):=by
  have hr:=wp_ (t:=t) (r:=te_ (g6_ t) t) (fun _=>Iff.rfl) (fun _=>Iff.rfl) (fun _=>Iff.rfl) rfl (ok_rng ht)
  have h1:=ht.st1
  have hc:=gk_ (g6_ t) t.states.toNat
  have l1:=j1_ (g6_ t) t.starts
  have l2:=j1_ (g6_ t) t.ends
  have l3:=q6_ (g6_ t) t.arcs
  refine ⟨by show (0:Int)≤((f0_ (g6_ t) t.states.toNat:Nat):Int);omega,by have:=ht.st0;show ((f0_ (g6_ t) t.states.toNat:Nat):Int)≤1024;omega,Nat.le_trans l3 ht.arcsN,Nat.le_trans l1 ht.startsN,Nat.le_trans l2 ht.endsN,fun y hy=>⟨hr.starts y hy,?_⟩,fun y hy=>⟨hr.ends y hy,?_⟩,fun y hy=>⟨(hr.arcs y hy).1,(hr.arcs y hy).2,?_⟩⟩
  · obtain ⟨x,hx,_,rfl⟩:=j5_.1 hy;exact (ht.starts x hx).2
  · obtain ⟨x,hx,_,rfl⟩:=j5_.1 hy;exact (ht.ends x hx).2
  obtain ⟨x,hx,_,_,rfl⟩:=p6_.1 hy;exact (ht.arcs x hx).2.2
theorem zh_ (t : Fst) : Ef_ t = some (if ps_ t = true then (jc_ t, 0) else (⟨0, [], [], []⟩, 1)) := by
  unfold Ef_
  rw [E5_,bnd,Option.bind_some,ut_]
  by_cases h:ps_ t=true
  · have ht:=(jr_ t).1 h
    have h0:=ht.st0
    have h1:=ht.st1
    rw [h,Bool.not_true,iteO_false,dt_ ⟨h0,by omega⟩,if_pos rfl]
    obtain ⟨r,e,rfl⟩:=eg_ (step:=fun q:N_1×Nat=>Ba_ t q.1 q.2) (fun (l:N_1) k=>(l,k)) t.states.toNat
      (fun k l=>l.length=t.states.toNat∧ ∀i,i<k→nth l i 0= -1) (fun r=>r=(jc_ t,0))
      (fun k l hk ⟨c1,c2⟩=> .inl ⟨l.set k (-1),by
        show Ba_ t l k=_
        unfold Ba_
        rw [List.length_replicate,dv_ (by omega),dt_ (by omega)];rfl,by rw [List.length_set];exact c1,fun i hi=>by
          rw [d6_]
          by_cases e1:k=i
          · rw [if_pos ⟨e1,by omega⟩]
          rw [if_neg (fun h=>e1 h.1)];exact c2 i (by omega)⟩)
      (fun l ⟨c1,c2⟩=>⟨(jc_ t,0),by
        obtain ⟨on,bk,u1,u2,u3⟩:=vd_ ht
        obtain ⟨num,v1,v2⟩:=ur_ ht u2 u3 c1 c2
        show Ba_ t l _=_
        unfold Ba_
        rw [List.length_replicate,dw_ (by omega),et_ u1]
        dsimp only
        rw [et_ v1]
        unfold Ez_
        show fin (ec_ _ _)=_
        rw [ro_ ht v2,o3_]
        show fin (bnd (some (if ps_ (te_ (g6_ t) t)=true then (srt (te_ (g6_ t) t),0) else _)) _)=_
        rw [if_pos ((jr_ _).2 (v6_ ht))];rfl,rfl⟩)
      (s0:=List.replicate t.states.toNat 0) ⟨List.length_replicate ..,fun i hi=>by omega⟩
    exact e
  simp only [Bool.not_eq_true]at h
  rw [h];rfl
theorem xc_{t:Fst}(ht:FstOk t):FstOk (jc_ t):=srt_ok (v6_ ht)
end Go.Proofs.YtchebnpdnfhenaaGreatDoor
end

noncomputable section
namespace Go.Proofs.YtchebnpdnfhenaaGreatDoor
open Go Go.E
theorem md_{A:List Arc}{most:Int}{l:List Tip}{R:List (List Tip)}{e:Int}{k:Nat}(h:g4_ A most l R k= .inl e): ∀j,g4_ A most l R (k+j)= .inl e
  |0=>h
  |j+1=>by
    show g4_ A most l R (k+j+1)=_
    rw [g4_,md_ h j]
def DoQ(n:Int)(x0:Maker):Int⊕(List (List Tip)×Seq)→Int⊕Maker→Prop
  | .inl e,r=>r= .inl e
  | .inr (R',q'),r=> ∃m',r= .inr ⟨x0.arcs,x0.ends,x0.most,R',m',q'⟩∧Places n m' R'
theorem Fits.with'{n:Nat}{A:List Arc}{E:List Tip}{x:Maker}(h:Fits n A E x)(R:List (List Tip))(m:FM T_1 Int)(q:Seq):Fits n A E ⟨x.arcs,x.ends,x.most,R,m,q⟩:=
  ⟨⟨h.arcs,h.ends,h.al,h.ao,h.eo,h.hn⟩,h.to,h.few,h.m1,h.m2⟩
structure QOk (q:Seq) (k:Nat):Prop where
  n:q.next.length=k
  o:q.outs.length=k
  e:q.fin.length=k
  t:q.tail.length=k
theorem QOk.push{q:Seq}{k:Nat}(h:QOk q k)(N:N_1)(O:T_2)(b:Bool)(t:T_1):QOk (oy_ q N O b t) (k+1):=⟨by simp [oy_,h.n],by simp [oy_,h.o],by simp [oy_,h.e],by simp [oy_,h.t]⟩
theorem do_ok {n : Nat} {A : List Arc} {E : List Tip} {x0 : Maker} (h : Fits n A E x0) (hp : Places n x0.places x0.rows) (hR : (x0.rows.length : Int) ≤ x0.most) {s : Nat} (hs : s < x0.rows.length) {c : Nat} (hq : QOk x0.q c) (hc : c ≤ 1024) :
    ∃r,Dp_ x0 ((s:Nat):Int)=some r∧DoQ n x0 (doD A E x0.most (nth x0.rows s []) x0.rows x0.q) r:=by
  have hl:RowOk n (nth x0.rows s []):=hp.ok _ (e9_ _ hs)
  have hn:=h.hn
  have hm2:=h.m2
  have hlen:(nth x0.rows s []).length≤n:=by
    have:=vl_ (by omega) hl.inc hl.st
    omega
  unfold Dp_ doD
  rw [dt_ (by omega),Int.toNat_natCast,y0_ h.toKnows hl,ea_]
  cases htl:rn_ E (nth x0.rows s [])with
  |inl e=>exact ⟨_,rfl,rfl⟩
  | inr bt =>
    obtain ⟨bb,tt⟩:=bt
    show ∃r,Cq_ x0 ((s:Nat):Int) (bb,tt)=some r∧DoQ n x0 (match g4_ A x0.most (nth x0.rows s []) x0.rows 256 with| .inl e=> .inl e| .inr (R',N,O)=> .inr (R',oy_ x0.q N O bb tt)) r
    unfold Cq_
    refine eg_ (step:=fun q:(List (List Tip))×(FM T_1 Int)×N_1×T_2×Nat=>An_ x0 ((s:Nat):Int) (bb,tt) q.1 q.2.1 q.2.2.1 q.2.2.2.1 q.2.2.2.2) (fun (z:List (List Tip)×FM T_1 Int×N_1×T_2) k=>(z.1,z.2.1,z.2.2.1,z.2.2.2,k)) 256
      (fun k z=> ∃R N O,g4_ A x0.most (nth x0.rows s []) x0.rows k= .inr (R,N,O)∧Places n z.2.1 R∧z.1=R∧z.2.2.1=N++List.replicate (256 - N.length) 0∧z.2.2.2=O++List.replicate (256 - O.length) [])
      _ ?_ ?_ (s0:=(x0.rows,x0.places,List.replicate 256 0,List.replicate 256 [])) ⟨x0.rows,[],[],rfl,hp,rfl,by simp,by simp⟩
    · rintro k ⟨z1,m,z3,z4⟩ hk ⟨R,N,O,hb,hpl,e1,e3,e4⟩
      simp only at e1 e3 e4 hpl
      subst e1 e3 e4
      obtain ⟨hRl,⟨X,hX⟩,hN,hO⟩:=j8_ hR hb
      have hfit:=h.with' z1 m x0.q
      have hb1:g4_ A x0.most (nth x0.rows s []) x0.rows (k+1)=match rq_ A x0.most (nth x0.rows s []) (ix_ ((k:Nat):Int)) z1 with| .inl e=> .inl e| .inr (R2,z,o)=> .inr (R2,N++[z],O++[o]):=by rw [g4_,hb]<;>rfl
      have hbl:(lj_ A (nth x0.rows s []) (ix_ ((k:Nat):Int))).length≤1000000:=by
        have h1:=pa_ A (ix_ ((k:Nat):Int)) (nth x0.rows s [])
        have h2:(nth x0.rows s []).length * A.length≤n * A.length:=Nat.mul_le_mul_right _ hlen
        have h3:=h.few
        omega
      have hkN:k<(N++List.replicate (256 - N.length) (0:Int)).length:=by simp;omega
      have hkO:k<(O++List.replicate (256 - O.length) ([]:T_1)).length:=by simp;omega
      have e1:(N++List.replicate (256 - N.length) (0:Int)).set k (-1)=(N++[-1])++List.replicate (256 - (N++[(-1:Int)]).length) 0:=by
        have:=l3_ N 256 (-1:Int) 0 (by omega)
        rwa [hN]at this ⊢
      have e2: ∀z:Int,((N++List.replicate (256 - N.length) (0:Int)).set k (-1)).set k z=(N++[z])++List.replicate (256 - (N++[z]).length) 0:=fun z=>by
        rw [Hm_]
        have:=l3_ N 256 z 0 (by omega)
        rwa [hN]at this ⊢
      have e3: ∀o:T_1,(O++List.replicate (256 - O.length) ([]:T_1)).set k o=(O++[o])++List.replicate (256 - (O++[o]).length) []:=fun o=>by
        have:=l3_ O 256 o [] (by omega)
        rwa [hO]at this ⊢
      have hO1:O++List.replicate (256 - O.length) ([]:T_1)=(O++[[]])++List.replicate (256 - (O++[([]:T_1)]).length) []:=by
        rw [List.append_assoc,List.length_append,List.length_singleton,show 256 - O.length=(256 - (O.length+1))+1 by omega,List.replicate_succ];rfl
      -- the step
      have hst:An_ x0 ((s:Nat):Int) (bb,tt) z1 m (N++List.replicate (256 - N.length) 0) (O++List.replicate (256 - O.length) []) k=
          d2_ (decide (0<(((lj_ A (nth x0.rows s []) (ix_ ((k:Nat):Int))).length:Nat):Int))) (bnd (some (h7_ (lj_ A (nth x0.rows s []) (ix_ ((k:Nat):Int))))) (fun v41=>jf_ v41 (fun v41k=>fin (some (.inl v41k))) (fun v41r=>bnd (Ah_ (⟨x0.arcs,x0.ends,x0.most,z1,m,x0.q⟩:Maker) v41r.2) (fun v52=>jf_ v52 (fun v52k=>fin (some (.inl v52k))) (fun v52r=>Bp_ k v52r.2.rows v52r.2.places (((N++List.replicate (256 - N.length) (0:Int)).set k (-1)).set k v52r.1) ((O++List.replicate (256 - O.length) []).set k v41r.1))))))
          (Bp_ k z1 m ((N++List.replicate (256 - N.length) (0:Int)).set k (-1)) (O++List.replicate (256 - O.length) [])):=by
        unfold An_
        rw [dv_ (by omega),dt_ hkN,Int.toNat_natCast,beh_ok hfit.toKnows hl,ea_,so_ hbl (ze_ h.ao hl _)]
        simp only [dt_ hkO,dt_ (show k<((N++List.replicate (256 - N.length) (0:Int)).set k (-1)).length by rw [List.length_set];exact hkN)]
      show (∃s':List (List Tip)×FM T_1 Int×N_1×T_2,An_ x0 ((s:Nat):Int) (bb,tt) z1 m (N++List.replicate (256 - N.length) 0) (O++List.replicate (256 - O.length) []) k=some (.inl (s'.1,s'.2.1,s'.2.2.1,s'.2.2.2,k+1))∧_)∨ ∃r,An_ x0 ((s:Nat):Int) (bb,tt) z1 m (N++List.replicate (256 - N.length) 0) (O++List.replicate (256 - O.length) []) k=some (.inr r)∧_
      rw [hst]
      unfold rq_ at hb1
      by_cases cb:lj_ A (nth x0.rows s []) (ix_ ((k:Nat):Int))=[]
      · rw [if_pos cb]at hb1
        left
        refine ⟨(z1,m,_,_),?_,z1,_,_,hb1,hpl,rfl,rfl,rfl⟩
        rw [cb,dw_ (by simp),e1,hO1];rfl
      rw [if_neg cb]at hb1
      have hpos:0<(lj_ A (nth x0.rows s []) (ix_ ((k:Nat):Int))).length:=List.length_pos_iff.2 cb
      rw [dv_ (by omega),ea_]
      cases hsd:h7_ (lj_ A (nth x0.rows s []) (ix_ ((k:Nat):Int)))with
      |inl e=>
        rw [hsd]at hb1
        right
        refine ⟨.inl e,rfl,?_⟩
        have:=md_ hb1 (256 - (k+1))
        rw [show k+1+(256 - (k+1))=256 by omega]at this
        rw [this];rfl
      |inr fr=>
        obtain ⟨f,r⟩:=fr
        rw [hsd]at hb1
        have hrow:=(strip_row (n:=n) (by omega) (beh_st h.to _ _) hsd).1
        obtain ⟨k1,k2⟩:=r8_ (n:=n) (x0:=⟨x0.arcs,x0.ends,x0.most,z1,m,x0.q⟩) (by omega) hpl hrow (show z1.length≤1000000 by omega)
        show (∃s',bnd (Ah_ ⟨x0.arcs,x0.ends,x0.most,z1,m,x0.q⟩ r) _=_∧_)∨ ∃q,bnd (Ah_ ⟨x0.arcs,x0.ends,x0.most,z1,m,x0.q⟩ r) _=_∧_
        cases hsn:i4_ x0.most z1 r with
        |inl e=>
          simp only [hsn]at hb1
          rw [k1 e hsn,ea_]
          right
          refine ⟨.inl e,rfl,?_⟩
          have:=md_ hb1 (256 - (k+1))
          rw [show k+1+(256 - (k+1))=256 by omega]at this
          rw [this];rfl
        |inr iR=>
          obtain ⟨i,R'⟩:=iR
          simp only [hsn]at hb1
          obtain ⟨m',hm1,hm2⟩:=k2 i R' hsn
          rw [hm1,ea_]
          left
          refine ⟨(R',m',_,_),?_,R',_,_,hb1,hm2,rfl,rfl,rfl⟩
          show Bp_ k R' m' _ _=_
          rw [e2,e3];rfl
    rintro ⟨z1,m,z3,z4⟩ ⟨R,N,O,hb,hpl,e1,e3,e4⟩
    simp only at e1 e3 e4 hpl
    subst e1 e3 e4
    obtain ⟨hRl,⟨X,hX⟩,hN,hO⟩:=j8_ hR hb
    have hq1:=hq.n
    have hq2:=hq.o
    have hq3:=hq.e
    have hq4:=hq.t
    refine ⟨.inr ⟨x0.arcs,x0.ends,x0.most,z1,m,oy_ x0.q N O bb tt⟩,?_,?_⟩
    · show An_ x0 ((s:Nat):Int) (bb,tt) z1 m (N++List.replicate (256 - N.length) 0) (O++List.replicate (256 - O.length) []) 256=_
      unfold An_
      rw [dw_ (by omega),dt_ (by simp;omega),dt_ (by simp;omega),dt_ (by simp;omega),dt_ (by simp;omega),hN,hO,Nat.sub_self,List.replicate_zero,List.append_nil,List.replicate_zero,List.append_nil]
      rfl
    rw [hb]
    exact ⟨m,rfl,hpl⟩
theorem aaa_{A:List Arc}{E:List Tip}{most:Int}{l:List Tip}{R R':List (List Tip)}{q q':Seq}{c:Nat}(h:doD A E most l R q= .inr (R',q'))(hR:(R.length:Int)≤most)(hq:QOk q c):
    (R'.length:Int)≤most∧(∃X,R'=R++X)∧QOk q' (c+1)∧q'.front=q.front:=by
  unfold doD at h
  split at h
  · cases h
  split at h
  · cases h
  rename_i hb
  cases h
  obtain ⟨h1,h2,_,_⟩:=j8_ hR hb
  exact ⟨h1,h2,hq.push _ _ _ _,rfl⟩
theorem wa_ {n : Nat} {A : List Arc} {E : List Tip} {x0 : Maker} (h : Fits n A E x0) (v : T_1 × (List Tip)) : ∀ (g s : Nat) (R : List (List Tip)) (m : FM T_1 Int) (q : Seq), 1025 - s ≤ g → s ≤ R.length → Places n m R → (R.length : Int) ≤ x0.most → QOk q s → q.front = v.1 →
    ec_ (fun q:(List (List Tip))×(FM T_1 Int)×N_2×T_3×B_1×T_2×Nat=>Ai_ x0 v q.1 q.2.1 q.2.2.1 q.2.2.2.1 q.2.2.2.2.1 q.2.2.2.2.2.1 q.2.2.2.2.2.2) (R,m,q.next,q.outs,q.fin,q.tail,s)=some (ofR (z9_ A E x0.most g s R q))
  |0,s,R,m,q,hg,hs,hp,hR,hq,hf=>by have:=h.m2;omega
  | g + 1, s, R, m, q, hg, hs, hp, hR, hq, hf => by
    have hm2:=h.m2
    rw [z9_]
    by_cases c:s<R.length
    · rw [if_pos c]
      have hfit:=h.with' R m q
      obtain ⟨r,h1,h2⟩:=do_ok hfit hp hR c hq (by omega)
      have eq1:(⟨v.1,q.next,q.outs,q.fin,q.tail⟩:Seq)=q:=by rw [←hf]
      have hst:Ai_ x0 v R m q.next q.outs q.fin q.tail s=jf_ r (fun k=>fin (bnd (D6_ k) (fun v70=>some (v70.1,v70.2)))) (fun r=>nxt (r.rows,r.places,r.q.next,r.q.outs,r.q.fin,r.q.tail,(s+1))):=by
        unfold Ai_
        rw [dv_ (by omega),eq1,h1,ea_]
      cases hd:doD A E x0.most (nth R s []) R q with
      |inl e=>
        have h2:r= .inl e:=by
          have:=h2
          change DoQ n _ (doD A E x0.most (nth R s []) R q) r at this
          rw [hd]at this;exact this
        refine es_ ?_
        show Ai_ x0 v R m q.next q.outs q.fin q.tail s=_
        rw [hst,h2];rfl
      |inr rq=>
        obtain ⟨R',q'⟩:=rq
        obtain ⟨m',h3,h4⟩: ∃m',r= .inr ⟨x0.arcs,x0.ends,x0.most,R',m',q'⟩∧Places n m' R':=by
          have:=h2
          change DoQ n _ (doD A E x0.most (nth R s []) R q) r at this
          rw [hd]at this;exact this
        obtain ⟨h5,⟨X,h6⟩,h7,h8⟩:=aaa_ hd hR hq
        have hlen:R.length≤R'.length:=by rw [h6,List.length_append];omega
        refine ff_ (s':=(R',m',q'.next,q'.outs,q'.fin,q'.tail,s+1)) ?_ (wa_ h v g (s+1) R' m' q' (by omega) (by omega) h4 h5 h7 (h8.trans hf))
        show Ai_ x0 v R m q.next q.outs q.fin q.tail s=_
        rw [hst,h3];rfl
    rw [if_neg c]
    refine es_ ?_
    show Ai_ x0 v R m q.next q.outs q.fin q.tail s=_
    have eq1:(⟨v.1,q.next,q.outs,q.fin,q.tail⟩:Seq)=q:=by rw [←hf]
    unfold Ai_
    rw [dw_ (by omega),eq1];rfl
theorem all_eq{n:Nat}{t:Fst}{x0:Maker}(h:Fits n t.arcs t.ends x0)(hn:t.states=n)(ht:FstOk t)(hr:x0.rows=[])(hm:x0.places=FM.emp)(hq:x0.q=Seq.zero):Df_ x0 t=some (ofR (ofT t x0.most)):=by
  have hn2:=h.hn
  have hm1:=h.m1
  unfold Df_ ofT
  by_cases c:t.starts=[]
  · rw [if_pos c,c,dv_ (by simp)];rfl
  rw [if_neg c]
  have hpos:=List.length_pos_iff.2 c
  have hsl:=ht.startsN
  have hss: ∀x∈t.starts,0≤x.state∧x.state<(n:Int):=fun x hx=>by rw [←hn];exact (ht.starts x hx).1
  rw [dw_ (by omega),dt_ (by omega),so_ (by omega) (fun x hx=>by have:=(ht.starts x hx).2;omega),ea_]
  cases hsd:h7_ t.starts with
  |inl e=>rfl
  |inr fl=>
    obtain ⟨f,l⟩:=fl
    have hrow:=(strip_row (n:=n) (by omega) hss hsd).1
    obtain ⟨k1,k2⟩:=r8_ (n:=n) (x0:=⟨x0.arcs,x0.ends,x0.most,x0.rows,x0.places,⟨f,x0.q.next,x0.q.outs,x0.q.fin,x0.q.tail⟩⟩) (by omega) (by rw [hr,hm];exact Places.nil n) hrow (by rw [hr];simp)
    have hsn:i4_ x0.most x0.rows l= .inr (0,[l]):=by
      unfold i4_
      rw [hr,if_neg (by simp),if_neg (by simp;omega)];rfl
    obtain ⟨m',h1,h2⟩:=k2 0 [l] hsn
    show bnd (Ah_ ⟨x0.arcs,x0.ends,x0.most,x0.rows,x0.places,⟨f,x0.q.next,x0.q.outs,x0.q.fin,x0.q.tail⟩⟩ l) _=_
    rw [h1,ea_]
    show ec_ _ ([l],m',x0.q.next,x0.q.outs,x0.q.fin,x0.q.tail,0)=_
    rw [hq]
    exact wa_ h (f,l) 1025 0 [l] m' ⟨f,[],[],[],[]⟩ (by omega) (by simp) h2 (by simp;omega) ⟨rfl,rfl,rfl,rfl⟩ rfl
end Go.Proofs.YtchebnpdnfhenaaGreatDoor
end

noncomputable section
namespace Go.Proofs.YtchebnpdnfhenaaGreatDoor
open Go Go.E
def ofD(t:Fst)(most:Int):Seq×Int:=if ps_ t=true∧1≤most∧most≤1024 then ofR (ofT (jc_ t) most) else (Seq.zero,1)
theorem zx_ {T : Fst} (hT : FstOk T) {most : Int} (h1 : 1 ≤ most) (h2 : most ≤ 1024) (hf : T.states.toNat * T.arcs.length ≤ 1000000) (e : Int) {la : List (List Arc)} (hG : Grp Arc.frm id T.states.toNat la T.arcs) :
    ec_ (fun q:T_3×Nat=>B2_ (T,e) la most q.1 q.2) ((List.replicate T.states.toNat ([]:T_2)),0)=some (ofR (ofT T most)):=by
  have hs:=hT.st0
  obtain ⟨r,k1,k2⟩:=eg_ (step:=fun q:T_3×Nat=>B2_ (T,e) la most q.1 q.2) (fun l k=>(l,k)) T.ends.length (fun k l=>Grp Tip.state Tip.out T.states.toNat l (T.ends.take k)) (fun r=>r=ofR (ofT T most))
    (fun k l hk hI=>by
      have hx:=(hT.ends _ (e9_ Tip.zero hk)).1
      have hle:=hI.len
      have hen:=hT.endsN
      have hgl:(nth l (nth T.ends k Tip.zero).state.toNat []).length≤1024:=by
        have h3:=pg_ hI (i:=(nth T.ends k Tip.zero).state.toNat) (by omega)
        rw [List.length_take]at h3;omega
      refine .inl ⟨l.set (nth T.ends k Tip.zero).state.toNat (nth l (nth T.ends k Tip.zero).state.toNat []++[(nth T.ends k Tip.zero).out]),?_,?_⟩
      · show B2_ (T,e) la most l k=_
        unfold B2_ E9_
        show d2_ (decide (((k:Nat):Int)<((T.ends.length:Nat):Int))) _ _=_
        rw [dv_ (by omega),dt_ ⟨hx.1,by show (nth T.ends k Tip.zero).state<_;omega⟩,dt_ (by show ((nth l (nth T.ends k Tip.zero).state.toNat []).length+1) * 16≤_;omega),dt_ ⟨hx.1,by show (nth T.ends k Tip.zero).state<_;omega⟩];rfl
      rw [el_ _ hk Tip.zero]
      exact hI.snoc hx.1 (by omega))
    (fun l hI=>by
      rw [List.take_length]at hI
      refine ⟨_,?_,rfl⟩
      have hfit:Fits T.states.toNat T.arcs T.ends ⟨la,l,most,[],FM.emp,⟨[],[],[],[],[]⟩⟩:=
        ⟨⟨hG,hI,hT.arcsN,fun a ha=>(hT.arcs a ha).2.2.2,fun x hx=>(hT.ends x hx).2,by have:=hT.st1;omega⟩,fun a ha=>by have:=(hT.arcs a ha).2.1;omega,hf,h1,h2⟩
      show B2_ (T,e) la most l T.ends.length=_
      unfold B2_
      rw [dw_ (by show ¬ ((T.ends.length:Nat):Int)<((T.ends.length:Nat):Int);omega),all_eq hfit (by omega) hT rfl rfl rfl,ea_];rfl) (s0:=List.replicate T.states.toNat []) (Grp.nil ..)
  rw [←k2];exact k1
theorem of_all {T : Fst} (hT : FstOk T) {most : Int} (h1 : 1 ≤ most) (h2 : most ≤ 1024) (hf : T.states.toNat * T.arcs.length ≤ 1000000) (e : Int) : D8_ (T, e) most = some (ofR (ofT T most)) := by
  have hs:=hT.st0
  unfold D8_
  obtain ⟨r,k1,k2⟩:=eg_ (step:=fun q:(List (List Arc))×Nat=>Cu_ (T,e) most q.1 q.2) (fun l k=>(l,k)) T.arcs.length (fun k l=>Grp Arc.frm id T.states.toNat l (T.arcs.take k)) (fun r=>r=ofR (ofT T most))
    (fun k l hk hI=>by
      have hx:=(hT.arcs _ (e9_ Arc.zero hk)).1
      have hle:=hI.len
      have hen:=hT.arcsN
      have hgl:(nth l (nth T.arcs k Arc.zero).frm.toNat []).length≤16384:=by
        have h3:=pg_ hI (i:=(nth T.arcs k Arc.zero).frm.toNat) (by omega)
        rw [List.length_take]at h3;omega
      refine .inl ⟨l.set (nth T.arcs k Arc.zero).frm.toNat (nth l (nth T.arcs k Arc.zero).frm.toNat []++[(nth T.arcs k Arc.zero)]),?_,?_⟩
      · show Cu_ (T,e) most l k=_
        unfold Cu_ Fc_
        show d2_ (decide (((k:Nat):Int)<((T.arcs.length:Nat):Int))) _ _=_
        rw [dv_ (by omega),dt_ ⟨hx.1,by show (nth T.arcs k Arc.zero).frm<_;omega⟩,dt_ (by show ((nth l (nth T.arcs k Arc.zero).frm.toNat []).length+1) * 72≤_;omega),dt_ ⟨hx.1,by show (nth T.arcs k Arc.zero).frm<_;omega⟩];rfl
      rw [el_ _ hk Arc.zero]
      exact hI.snoc hx.1 (by omega))
    (fun l hI=>by
      rw [List.take_length]at hI
      refine ⟨_,?_,rfl⟩
      show Cu_ (T,e) most l T.arcs.length=_
      unfold Cu_
      rw [dw_ (by show ¬ ((T.arcs.length:Nat):Int)<((T.arcs.length:Nat):Int);omega)]
      show fin (ec_ (fun q:T_3×Nat=>B2_ (T,e) l most q.1 q.2) ((List.replicate T.states.toNat ([]:T_2)),0))=_
      rw [zx_ hT h1 h2 hf e hI];rfl) (s0:=List.replicate T.states.toNat []) (Grp.nil ..)
  rw [←k2];exact k1
theorem of_eq(t:Fst)(most:Int)(hf:ps_ t=true→(jc_ t).states.toNat * (jc_ t).arcs.length≤1000000):Fi_ t most=some (ofD t most):=by
  unfold Fi_ ofD
  rw [E5_,ea_]
  cases hb:ps_ t with
  |false=>rw [dv_ (by decide),if_neg (by simp)];rfl
  |true=>
    have ht:=(jr_ t).1 hb
    have hT:=xc_ ht
    have h0:=hT.st0
    have h9:=hT.st1
    rw [dw_ (by decide)]
    by_cases c1:most<1
    · rw [dv_ c1,if_neg (fun q=>by omega)];rfl
    rw [dw_ c1]
    by_cases c2:1024<most
    · rw [dv_ c2,if_neg (fun q=>by omega)];rfl
    rw [dw_ c2,if_pos ⟨rfl,by omega,by omega⟩,zh_,hb,if_pos rfl,ea_,dw_ (by simp)]
    show grd (0≤(jc_ t).states∧24 * (jc_ t).states.toNat≤281474976710656) (grd (0≤(jc_ t).states∧24 * (jc_ t).states.toNat≤281474976710656) (D8_ (jc_ t,0) most))=_
    rw [dt_ ⟨h0,by omega⟩,dt_ ⟨h0,by omega⟩,of_all hT (by omega) (by omega) (hf hb)]
end Go.Proofs.YtchebnpdnfhenaaGreatDoor
end

noncomputable section
namespace Go.Proofs.YtchebnpdnfhenaaGreatDoor
open Go Go.E
def aFrm(back:Bool)(x:Arc):Int:=if back=true then x.to else x.frm
def aTo(back:Bool)(x:Arc):Int:=if back=true then x.frm else x.to
def aE(t:Fst)(back:Bool)(a b:Int):Prop:= ∃x∈t.arcs,aFrm back x=a∧aTo back x=b
structure GI (t:Fst) (tips:List Tip) (back:Bool) (l:B_1):Prop where
  len:l.length=t.states.toNat
  sound: ∀v:Nat,nth l v false=true→Rch (fun c=> ∃x∈tips,x.state=c) (aE t back) v
  tip: ∀x∈tips,nth l x.state.toNat false=true
end Go.Proofs.YtchebnpdnfhenaaGreatDoor
end

noncomputable section
namespace Go.Proofs.YtchebnpdnfhenaaGreatDoor
open Go Go.E
end Go.Proofs.YtchebnpdnfhenaaGreatDoor
end

noncomputable section
namespace Go.Proofs.YtchebnpdnfhenaaGreatDoor
open Go Go.E
section
variable {α:Type} (cf:α→α→Int)
def z1_(x:α):List α→List α
  |[]=>[x]
  |y::l=>if cf y x<0 then y::z1_ x l else x::y::l
def mj_:List α→List α
  |[]=>[]
  |x::l=>z1_ cf x (mj_ l)
theorem mn_(x:α): ∀l,(z1_ cf x l).Perm (x::l)
  |[]=>List.Perm.refl _
  |y::l=>by
    unfold z1_
    split
    · exact ((mn_ x l).cons y).trans (List.Perm.swap x y l)
    exact List.Perm.refl _
theorem mq_: ∀l,(mj_ cf l).Perm l
  |[]=>List.Perm.refl _
  |x::l=>(mn_ cf x _).trans ((mq_ l).cons x)
variable {cf} [DecidableEq α] (hc:GoodCmp cf)
include hc
theorem m3_ (x : α) : ∀ l : List α, l.Pairwise (fun x y => ¬ cf y x < 0) → (z1_ cf x l).Pairwise fun x y => ¬ cf y x < 0
  |[],_=>List.pairwise_singleton _ _
  | y :: l, h => by
    obtain ⟨h1,h2⟩:=List.pairwise_cons.1 h
    unfold z1_
    split
    · rename_i h3
      refine List.pairwise_cons.2 ⟨fun z hz=> ?_,m3_ x l h2⟩
      rcases List.mem_cons.1 ((mn_ cf x l).mem_iff.1 hz)with rfl|hz
      · have:=hc.anti y z
        omega
      exact h1 z hz
    rename_i h3
    refine List.pairwise_cons.2 ⟨fun z hz=> ?_,h⟩
    rcases List.mem_cons.1 hz with rfl|hz
    · exact h3
    exact hc.le_trans h3 (h1 z hz)
theorem jp_: ∀l:List α,(mj_ cf l).Pairwise fun x y=> ¬ cf y x<0
  |[]=>List.Pairwise.nil
  |x::l=>m3_ hc x _ (jp_ l)
theorem v1_(l:List α):mj_ cf l=fz_ cf l:=by
  refine List.Perm.eq_of_pairwise (le:=fun x y=> ¬ cf y x<0) (fun x y _ _ h k=> ?_) (jp_ hc l) (Fv_ hc l) ((mq_ cf l).trans (List.mergeSort_perm l _).symm)
  have e:=hc.eq x y
  have a:=hc.anti y x
  exact e.1 (by omega)
end
theorem uz_(l:List Tip):mj_ eo_ l=fz_ eo_ l:=v1_ fa_ l
end Go.Proofs.YtchebnpdnfhenaaGreatDoor
end

noncomputable section
namespace Go.Proofs.YtchebnpdnfhenaaGreatDoor
open Go Go.E Go.E.OpVal Go.E.OpOk
end Go.Proofs.YtchebnpdnfhenaaGreatDoor
end

noncomputable section
namespace Go.Proofs.YtchebnpdnfhenaaGreatDoor
open Go Go.E
theorem vw_{t:Fst}(ht:FstOk t)(hu: ∀s,s<t.states.toNat→g6_ t s=true)(h1:t.starts.Pairwise fun x y=>eo_ x y<0)(h2:t.ends.Pairwise fun x y=>eo_ x y<0)(h3:t.arcs.Pairwise fun x y=>i6_ x y<0):jc_ t=t:=by
  have hs:=ht.st0
  have e:te_ (g6_ t) t=t:=by
    show (⟨((f0_ (g6_ t) t.states.toNat:Nat):Int),g5_ (g6_ t) t.starts,g5_ (g6_ t) t.ends,h8_ (g6_ t) t.arcs⟩:Fst)=t
    rw [jq_ _ hu,qm_ hu (fun x hx=>by have:=(ht.starts x hx).1;omega),qm_ hu (fun x hx=>by have:=(ht.ends x hx).1;omega),t7_ hu (fun x hx=>by have:=ht.arcs x hx;omega),show ((t.states.toNat:Nat):Int)=t.states by omega]
  unfold jc_
  rw [e]
  unfold srt
  rw [F5_ fa_ h1,F5_ fa_ h2,F5_ l2_ h3]
def zu_(l:List Tip):List Tip:=ddN Tip.zero (mj_ eo_ l) (mj_ eo_ l).length
theorem Hj_(l:List Tip):zu_ l=gb_ Tip.zero eo_ l:=by unfold zu_ gb_;rw [uz_,Cv_]
def s8_(l:List Tip):Int⊕(T_1×List Tip):=
  let m:=zu_ l
  if s6_ m=true then .inl 12 else
  let f:=ft_ (m.map Tip.out)
  if 4096<f.length then .inl 2 else
  if ∃x∈m,4096<(x.out.drop f.length).length then .inl 2 else .inr (f,m.map (nw_ f.length))
theorem qv_(l:List Tip):s8_ l=h7_ l:=by unfold s8_ h7_;rw [Hj_]
def zd_ (A : List Arc) (most : Int) (l : List Tip) (b : UInt8) (R : List (List Tip)) : Int ⊕ (List (List Tip) × Int × T_1) :=
  if lj_ A l b=[] then .inr (R, -1,[]) else
  match s8_ (lj_ A l b)with
  | .inl k=> .inl k
  | .inr (f,r)=>match i4_ most R r with
    | .inl k=> .inl k
    | .inr (i,R')=> .inr (R',((i:Nat):Int),f)
theorem w3_(A:List Arc)(most:Int)(l:List Tip)(b:UInt8)(R:List (List Tip)):zd_ A most l b R=rq_ A most l b R:=by unfold zd_ rq_;rw [qv_]<;>rfl
def su_ (A : List Arc) (most : Int) (l : List Tip) (R : List (List Tip)) : Nat → Int ⊕ (List (List Tip) × N_1 × T_2)
  |0=> .inr (R,[],[])
  | k + 1 => match su_ A most l R k with
    | .inl e=> .inl e
    | .inr (R1,N,O)=>match zd_ A most l (ix_ ((k:Nat):Int)) R1 with
      | .inl e=> .inl e
      | .inr (R2,z,o)=> .inr (R2,N++[z],O++[o])
theorem p9_(A:List Arc)(most:Int)(l:List Tip)(R:List (List Tip)): ∀k,su_ A most l R k=g4_ A most l R k
  |0=>rfl
  |k+1=>by
    rw [su_,g4_,p9_ A most l R k]
    cases g4_ A most l R k with
    |inl e=>rfl
    |inr x=>simp only [w3_]<;>rfl
def doK (A : List Arc) (E : List Tip) (most : Int) (l : List Tip) (R : List (List Tip)) (q : Seq) : Int ⊕ (List (List Tip) × Seq) :=
  match rn_ E l with
  | .inl e=> .inl e
  | .inr (b,t)=>match su_ A most l R 256 with
    | .inl e=> .inl e
    | .inr (R',N,O)=> .inr (R',oy_ q N O b t)
theorem doK_eq(A:List Arc)(E:List Tip)(most:Int)(l:List Tip)(R:List (List Tip))(q:Seq):doK A E most l R q=doD A E most l R q:=by unfold doK doD;rw [p9_]<;>rfl
def allK (A : List Arc) (E : List Tip) (most : Int) : Nat → Nat → List (List Tip) → Seq → Int ⊕ (List (List Tip) × Seq)
  |0,_,R,q=> .inr (R,q)
  | g + 1, s, R, q => if s < R.length then
      match doK A E most (nth R s []) R q with
      | .inl e=> .inl e
      | .inr (R',q')=>allK A E most g (s+1) R' q'
    else .inr (R,q)
theorem uw_(A:List Arc)(E:List Tip)(most:Int): ∀(g s:Nat) (R:List (List Tip)) (q:Seq),allK A E most g s R q=z9_ A E most g s R q
  |0,_,_,_=>rfl
  | g + 1, s, R, q => by
    rw [allK,z9_,doK_eq]
    by_cases c:s<R.length
    · rw [if_pos c,if_pos c]
      cases doD A E most (nth R s []) R q with
      |inl e=>rfl
      |inr x=>exact uw_ A E most g (s+1) _ _
    rw [if_neg c,if_neg c]
def ofK(t:Fst)(most:Int):Int⊕(List (List Tip)×Seq):=
  if t.starts=[] then .inr ([],Seq.zero) else
  match s8_ t.starts with
  | .inl e=> .inl e
  | .inr (f,l)=>allK t.arcs t.ends most 1025 0 [l] ⟨f,[],[],[],[]⟩
theorem ofK_eq(t:Fst)(most:Int):ofK t most=ofT t most:=by
  unfold ofK ofT
  rw [qv_]
  by_cases c:t.starts=[]
  · rw [if_pos c,if_pos c]
  rw [if_neg c,if_neg c]
  cases h7_ t.starts with
  |inl e=>rfl
  |inr x=>exact uw_ ..
end Go.Proofs.YtchebnpdnfhenaaGreatDoor
end

noncomputable section
namespace Go.E
open Go
section
variable {β:Type} {E' E size:Nat} {enc:β→List Value} {v:Value}
variable {X:Ctx} {e:Env} {σ:ds_} {H F:List Res} {o:Oper} {x y:Operand} {K:Env→ds_→List Res→Prop} {z u:List (NP β)} {l k:List (List β)}
end
end Go.E
end

noncomputable section
namespace Go.Proofs.YtchebnpdnfhenaaGreatDoor
open Go Go.E Go.E.OpVal Go.E.OpOk
end Go.Proofs.YtchebnpdnfhenaaGreatDoor
end

noncomputable section
namespace Go.E
open Go
structure Grow where
  f:Fst
  over:Bool
end Go.E
end

noncomputable section
namespace Go.Proofs.YtchebnpdnfhenaaGreatDoor
open Go Go.E Go.E.OpVal Go.E.OpOk
end Go.Proofs.YtchebnpdnfhenaaGreatDoor
end

noncomputable section
namespace Go.Proofs.YtchebnpdnfhenaaGreatDoor
open Go Go.E Go.E.OpVal Go.E.OpOk
end Go.Proofs.YtchebnpdnfhenaaGreatDoor
end

noncomputable section
namespace Go.E
open Go
theorem EqAt.arr2{P:Program}{n:Nat}{T E:TypeId}{a0 a1 b0 b1:Value}{p q:Bool}(hT:P.underlying T=some (.array 2 E))(hA:aggOf P E=some false)(hz:szOf P E=some 1)(h0:EqAt P n E a0 b0 p)(h1:EqAt P n E a1 b1 q):EqAt P (n+1) T (.agg #[a0,a1]) (.agg #[b0,b1]) (p && q):=fun d w=>by
  have g: ∀(cs:Array Value) (i:Nat) (u:Value),cs[i]? =some u→(part E cs i).run P w= .ok u w:=fun cs i u h=>fv_ hA h w
  rw [←Nat.add_assoc,Op.equalIn]
  simp only [Sem.run_bind,run_underlying hT,Result.andThen_ok,eh_ hz,Std.Legacy.Range.forIn_eq_forIn_range',Std.Legacy.Range.size,Nat.sub_zero,Nat.add_sub_cancel,Nat.div_one,List.range'_succ,List.range'_zero,List.forIn_cons,List.forIn_nil,Nat.mul_one,Nat.zero_add]
  rw [g _ 0 a0 rfl,Result.andThen_ok,g _ 0 b0 rfl,Result.andThen_ok,h0 d w,Result.andThen_ok]
  cases p
  · simp
  simp only [Bool.not_true,Bool.false_eq_true,if_false,Sem.run_pure,Result.andThen_ok,Sem.run_bind]
  rw [g _ 1 a1 rfl,Result.andThen_ok,g _ 1 b1 rfl,Result.andThen_ok,h1 d w,Result.andThen_ok]
  cases q<;>simp
end Go.E
end

noncomputable section
namespace Go.E
open Go
structure FPr where
  p:Int
  q:Int
  deriving DecidableEq
def FPr.zero:FPr:=⟨0,0⟩
def encFPr(x:FPr):List Value:=[.int .i64 x.p,.int .i64 x.q]
theorem hr_(x:FPr):(encFPr x).length=2:=rfl
theorem oa_: ∀x, ∀u∈encFPr x,u.oneCell'=true:=fun x u hu=>by
  simp [encFPr]at hu
  rcases hu with rfl|rfl<;>rfl
structure SPr where
  a:List UInt8
  b:List UInt8
  deriving DecidableEq
def SPr.zero:SPr:=⟨[],[]⟩
structure Visit where
  at':FPr
  lag:SPr
  deriving DecidableEq
def Visit.zero:Visit:=⟨FPr.zero,SPr.zero⟩
structure FBox where
  what:Visit
  frm:Int
  by':UInt8
  deriving DecidableEq
def FBox.zero:FBox:=⟨Visit.zero,0,0⟩
structure Hop where
  live:Bool
  last:Bool
  x:Int
  y:Int
  by':UInt8
  deriving DecidableEq
def Hop.zero:Hop:=⟨false,false,0,0,0⟩
structure FBack where
  frm:Int
  x:Int
  y:Int
  deriving DecidableEq
def FBack.zero:FBack:=⟨0,0,0⟩
structure Search where
  t:Fst
  arcs:List (List Int)
  ends:List (List (List UInt8))
  hops:List Hop
  row:List FBox
  place:List Int
  text:List UInt8
  found:Bool
end Go.E
end

noncomputable section
namespace Go.Proofs.YtchebnpdnfhenaaGreatDoor
open Go Go.E Go.E.OpVal Go.E.OpOk Go.Proofs.Tryz
theorem pf14:plainF Tryz.prog 14=true:=by kernel_rfl
theorem pf19:plainF Tryz.prog 19=true:=by kernel_rfl
theorem pf29:plainF Tryz.prog 29=true:=by kernel_rfl
theorem pf51:plainF Tryz.prog 51=true:=by kernel_rfl
def Bn_:Option (Bool):=
 grd ([(97:UInt8)].length≤1000000000000) (grd ([(98:UInt8)].length≤1000000000000) (grd ([(99:UInt8)].length≤1000000000000) (bnd (Fi_ (⟨3,[(⟨0,([]:T_1)⟩:Tip)],[(⟨2,([122]:T_1)⟩:Tip)],[(⟨0,1,(BSet.ofL [(97:UInt8)]),([]:T_1),false⟩:Arc),(⟨1,2,(BSet.ofL [(98:UInt8)]),([120]:T_1),false⟩:Arc),(⟨1,2,(BSet.ofL [(99:UInt8)]),([120,121]:T_1),false⟩:Arc)]⟩:Fst) 9) (fun v20=>bnd (Dq_ v20.1) (fun v28=>bnd (D7_ v28.1 ([97,99]:T_1)) (fun v36=>d2_ (decide (v20.2=0)) (d2_ (decide (v28.2=v20.2)) (d2_ (decide (v28.1.front=([120]:T_1))) (d2_ (decide (((v28.1.next.length:Nat):Int)=3)) (d2_ (decide (v36.1=([120,121,122]:T_1))) (d2_ v36.2.2.1 (some (decide (v36.2.2.2=v20.2))) (some false)) (some false)) (some false)) (some false)) (some false)) (some false)))))))
theorem Dy_{σ:ds_}(hgl:GT2 σ 1 2){r:Bool}(hh:Bn_=some r):
  Con Tryz.prog 30 #[] σ [] (e2_ (.bool r) σ):=by
 dsimp only [Bn_]at hh
 refine Con.mk (n:=72) Tryz.func30 z z z (fun w0=> ?_)
 refine TC.a (TL.j z z (TL.en (TC.a (TL.w z (ar_ z zr_ j4_ z) (TL.op z (OpOk.lit (enc:=encTip) [(⟨0,([]:T_1)⟩:Tip)] z underlying22 fy_ j4_ z z z du_ (by decide) (by decide) Tip.zero z (by decide) z (by decide) fj_ (fun a101 c102=> ?_)))))))
 refine TL.w z (ar_ z zr_ j4_ z) (TL.op z (OpOk.lit (enc:=encTip) [(⟨2,([122]:T_1)⟩:Tip)] z underlying22 fy_ j4_ z z z du_ (by decide) (by decide) Tip.zero z (by decide) z (by decide) fj_ (fun a104 c105=> ?_)))
 refine TL.op z (OpOk.lit (enc:=ew_) [(97:UInt8)] z underlying60 sz5 ze5 z z z gm_ (by decide) (by decide) (0:UInt8) z (by decide) z (by decide) go_ (fun a107 c108=> ?_))
 obtain ⟨u7,hh⟩:=dx_ hh
 refine TL.op z (cg_ (vz_ _ _ _ [(97:UInt8)] u7) z z pf51 z z z z ?_)
 refine TL.w z (ar_ z pl66 m9_ z) (TL.op z (OpOk.lit (enc:=ew_) [(98:UInt8)] z underlying60 sz5 ze5 z z z gm_ (by decide) (by decide) (0:UInt8) z (by decide) z (by decide) go_ (fun a110 c111=> ?_)))
 obtain ⟨u10,hh⟩:=dx_ hh
 refine TL.op z (cg_ (vz_ _ _ _ [(98:UInt8)] u10) z z pf51 z z z z ?_)
 refine TL.w z (ar_ z pl66 m9_ z) (TL.op z (OpOk.lit (enc:=ew_) [(99:UInt8)] z underlying60 sz5 ze5 z z z gm_ (by decide) (by decide) (0:UInt8) z (by decide) z (by decide) go_ (fun a113 c114=> ?_)))
 obtain ⟨u13,hh⟩:=dx_ hh
 refine TL.op z (cg_ (vz_ _ _ _ [(99:UInt8)] u13) z z pf51 z z z z ?_)
 refine TL.w z (ar_ z pl66 m9_ z) (TL.op z (OpOk.lit (enc:=encArc) [(⟨0,1,(BSet.ofL [(97:UInt8)]),([]:T_1),false⟩:Arc),(⟨1,2,(BSet.ofL [(98:UInt8)]),([120]:T_1),false⟩:Arc),(⟨1,2,(BSet.ofL [(99:UInt8)]),([120,121]:T_1),false⟩:Arc)] z underlying23 g9_ m9_ z z z ef_ (by decide) (by decide) Arc.zero z (by decide) z (by decide) gh_ (fun a116 c117=> ?_)))
 refine TL.w z (ar_ z z8_ wn_ z) (TL.op z (OpOk.alloc z wn_ z z (fun b119=> ?_)))
 refine TL.op z (storeAll z nf_ z z z z z z ?_)
 refine TL.en (TC.a (TL.w z (ao_ z ri_ nf_ z (i:=0) z z) (TL.front 3 z z (TL.a0_ du_ (fun τ123 hle122 hr121=> ?_)))))
 replace hgl:=hgl.mono hle122
 have hr121b:=hr121.rv.big
 refine TL.front 2 z z (TL.a0_ du_ (fun τ126 hle125 hr124=> ?_))
 replace hgl:=hgl.mono hle125
 replace hr121:=hr121.mono hle125
 have hr124b:=hr124.rv.big
 refine TL.front 1 z z (TL.a0_ ef_ (fun τ129 hle128 hr127=> ?_))
 replace hgl:=hgl.mono hle128
 replace hr121:=hr121.mono hle128
 replace hr124:=hr124.mono hle128
 have hr127b:=hr127.rv.big
 obtain ⟨v20,u20,hh⟩:=d4_ hh
 refine TL.op z (OpOk.call (G4_ (x0:=(⟨3,[(⟨0,([]:T_1)⟩:Tip)],[(⟨2,([122]:T_1)⟩:Tip)],[(⟨0,1,(BSet.ofL [(97:UInt8)]),([]:T_1),false⟩:Arc),(⟨1,2,(BSet.ofL [(98:UInt8)]),([120]:T_1),false⟩:Arc),(⟨1,2,(BSet.ofL [(99:UInt8)]),([120,121]:T_1),false⟩:Arc)]⟩:Fst)) hgl hr121 hr124 hr127 u20) z z pf14 z z z z ?_)
 rintro _ τ130 _ hle130 ⟨a130_1,c130_1,a130_2,c130_2,a130_3,c130_3,a130_4,c130_4,rfl,hr130_0,hr130_1,hr130_2,hr130_3,rfl⟩
 replace hgl:=hgl.mono hle130
 have hr130_0b:=hr130_0.big
 have hr130_1b:=hr130_1.big
 have hr130_2b:=hr130_2.rv.big
 have hr130_3b:=hr130_3.rv.big
 refine TL.w z (ba_ (.inl z) z) (TL.w z (OpVal.extract z z z) (TL.w z (OpVal.extract z z z) (TL.op z (OpOk.alloc z i0_ z z (fun b131=> ?_)))))
 refine TL.op z (storeAll z fi_ z z z z z z ?_)
 refine TL.i z z (TL.en (TC.a (TL.w z (ao_ z hd_ fi_ z (i:=0) z z) ?_)))
 obtain ⟨v28,u28,hh⟩:=d4_ hh
 refine TL.op z (OpOk.call (Fy_ (x0:=v20.1) hgl hr130_0 hr130_1 hr130_2 hr130_3 u28) z z pf29 z z z z ?_)
 rintro _ τ133 _ hle133 ⟨a133_1,c133_1,a133_2,c133_2,a133_3,c133_3,a133_4,c133_4,rfl,hr133_0,hr133_1,hr133_2,hr133_3,rfl⟩
 have hr133_0b:=hr133_0.big
 have hr133_1b:=hr133_1.big
 have hr133_2b:=hr133_2.rv.big
 have hr133_3b:=hr133_3.rv.big
 refine TL.w z (ba_ (.inl z) z) (TL.w z (OpVal.extract z z z) (TL.w z (OpVal.extract z z z) (TL.op z (OpOk.alloc z i0_ z z (fun b134=> ?_)))))
 refine TL.op z (storeAll z fi_ z z z z z z ?_)
 refine TL.i z z (TL.en (TC.a (TL.w z (ao_ z hd_ fi_ z (i:=0) z z) ?_)))
 obtain ⟨v36,u36,hh⟩:=d4_ hh
 refine TL.op z (aw_ (Gq_ (x0:=v28.1) hr133_0 hr133_1 hr133_2 hr133_3 u36) z z pf19 z z z ?_)
 refine TL.w z (ba_ (.inl z) z) (TL.w z (OpVal.extract z z z) (TL.w z (OpVal.extract z z z) (TL.w z (OpVal.extract z z z) (TL.w z (OpVal.extract z z z) (TL.w z (ac_ (.inr z) z) (TL.i z z (TL.j z z (TL.i z z (TL.en (TC.a (TL.i z z (TL.w z (OpVal.eql z z z) (TL.j z z (TL.split 44 z (fun h136=> ?_) (fun h136=> ?_)))))))))))))))
 ·replace hh:=ei_ h136 hh
  replace h136:=of_decide_eq_true h136
  refine TL.g z (ah_ (.inl z) z) (TL.g z (ah_ (.inl z) z) (TL.g z (OpVal.eql z z z) (TL.w z (al_ z z z) (TL.j z z (TL.split 49 z (fun h137=> ?_) (fun h137=> ?_))))))
  ·replace hh:=ei_ h137 hh
   replace h137:=of_decide_eq_true h137
   refine TL.g z (aa_ z h3_ z) (TL.g z (ab_ z ag9 z (i:=0) z z) (TL.g z (dd_ z z z) (TL.w z (al_ z z z) (TL.j z z (TL.split 54 z (fun h138=> ?_) (fun h138=> ?_))))))
   ·replace hh:=ei_ h138 hh
    replace h138:=of_decide_eq_true h138
    refine TL.g z (aa_ z ey_ z) (TL.g z (ab_ z hv_ z (i:=0) z z) (TL.g z (lenC z underlying27 z) (TL.g z (OpVal.eql z z z) (TL.w z (al_ z z z) (TL.j z z (TL.split 60 z (fun h139=> ?_) (fun h139=> ?_)))))))
    ·replace hh:=ei_ h139 hh
     replace h139:=of_decide_eq_true h139
     refine TL.g z (ac_ (.inl z) z) (TL.g z (dd_ z z z) (TL.w z (al_ z z z) (TL.j z z (TL.split 64 z (fun h140=> ?_) (fun h140=> ?_)))))
     ·replace hh:=ei_ h140 hh
      replace h140:=of_decide_eq_true h140
      refine TL.g z (moveB (.inl z) z) (TL.w z (al_ z z z) (TL.j z z (TL.split 67 z (fun h141=> ?_) (fun h141=> ?_))))
      ·replace hh:=ei_ h141 hh
       refine TL.g z (ah_ (.inl z) z) (TL.g z (ah_ (.inl z) z) (TL.g z (OpVal.eql z z z) (TL.w z (al_ z z z) (TL.j z z (TL.en (TC.a1_ (Sub.pre 0 z) (TC.back (TC.ret ?_))))))))
       obtain rfl:=so hh
       exact rq [0] ⟨z,z,z⟩
      replace hh:=ej_ h141 hh
      refine TL.f z (TL.f z (TL.f z (TL.w z (ak_ z z z) (TL.j z z (TL.en (TC.a1_ (Sub.pre 0 z) (TC.back (TC.ret ?_))))))))
      obtain rfl:=so hh
      exact rq [0] ⟨z,z,z⟩
     replace hh:=ej_ h140 hh
     replace h140:=of_decide_eq_false h140
     refine TL.f z (TL.w z (ak_ z z z) (TL.j z z (TL.f z (TL.f z (TL.f z (TL.w z (ak_ z z z) (TL.j z z (TL.en (TC.a1_ (Sub.pre 0 z) (TC.back (TC.ret ?_)))))))))))
     obtain rfl:=so hh
     exact rq [0] ⟨z,z,z⟩
    replace hh:=ej_ h139 hh
    replace h139:=of_decide_eq_false h139
    refine TL.f z (TL.f z (TL.w z (ak_ z z z) (TL.j z z (TL.f z (TL.w z (ak_ z z z) (TL.j z z (TL.f z (TL.f z (TL.f z (TL.w z (ak_ z z z) (TL.j z z (TL.en (TC.a1_ (Sub.pre 0 z) (TC.back (TC.ret ?_)))))))))))))))
    obtain rfl:=so hh
    exact rq [0] ⟨z,z,z⟩
   replace hh:=ej_ h138 hh
   replace h138:=of_decide_eq_false h138
   refine TL.f z (TL.f z (TL.f z (TL.f z (TL.w z (ak_ z z z) (TL.j z z (TL.f z (TL.f z (TL.w z (ak_ z z z) (TL.j z z (TL.f z (TL.w z (ak_ z z z) (TL.j z z (TL.f z (TL.f z (TL.f z ?_)))))))))))))))
   refine TL.w z (ak_ z z z) (TL.j z z (TL.en (TC.a1_ (Sub.pre 0 z) (TC.back (TC.ret ?_)))))
   obtain rfl:=so hh
   exact rq [0] ⟨z,z,z⟩
  replace hh:=ej_ h137 hh
  replace h137:=of_decide_eq_false h137
  refine TL.f z (TL.f z (TL.f z (TL.w z (ak_ z z z) (TL.j z z (TL.f z (TL.f z (TL.f z (TL.f z (TL.w z (ak_ z z z) (TL.j z z (TL.f z (TL.f z (TL.w z (ak_ z z z) (TL.j z z (TL.f z ?_)))))))))))))))
  refine TL.w z (ak_ z z z) (TL.j z z (TL.f z (TL.f z (TL.f z (TL.w z (ak_ z z z) (TL.j z z (TL.en (TC.a1_ (Sub.pre 0 z) (TC.back (TC.ret ?_))))))))))
  obtain rfl:=so hh
  exact rq [0] ⟨z,z,z⟩
 replace hh:=ej_ h136 hh
 replace h136:=of_decide_eq_false h136
 refine TL.f z (TL.f z (TL.f z (TL.w z (ak_ z z z) (TL.j z z (TL.f z (TL.f z (TL.f z (TL.w z (ak_ z z z) (TL.j z z (TL.f z (TL.f z (TL.f z (TL.f z (TL.w z (ak_ z z z) (TL.j z z ?_)))))))))))))))
 refine TL.f z (TL.f z (TL.w z (ak_ z z z) (TL.j z z (TL.f z (TL.w z (ak_ z z z) (TL.j z z (TL.f z (TL.f z (TL.f z (TL.w z (ak_ z z z) (TL.j z z (TL.en (TC.a1_ (Sub.pre 0 z) (TC.back (TC.ret ?_)))))))))))))))
 obtain rfl:=so hh
 exact rq [0] ⟨z,z,z⟩
end Go.Proofs.YtchebnpdnfhenaaGreatDoor
end

noncomputable section
namespace Go.Proofs.YtchebnpdnfhenaaGreatDoor
open Go Go.E
def r0:N_1:=List.replicate 256 (-1)
def o0:T_2:=List.replicate 256 []
def qP:Seq:=⟨[],[r0.set 97 1,(r0.set 98 2).set 99 2,r0],[o0,(o0.set 98 [120]).set 99 [120,121],o0],[false,false,true],[[],[],[122]]⟩
theorem y1_{b:Nat}(hb:b<256):nth r0 b 0= -1:=by
  unfold r0
  have h: ∀(n i:Nat) (x:Int),i<n→nth (List.replicate n x) i 0=x:=fun n i x h=>by
    rw [hf_ _ (by rw [List.length_replicate];exact h),List.getElem_replicate]
  exact h 256 b (-1) hb
theorem yi_:r0.length=256:=List.length_replicate
theorem o0_len:o0.length=256:=List.length_replicate
theorem qP_n:qP.next.length=3:=rfl
theorem wq_:d0_ qP=true:=by decide+kernel
theorem qP2: ∀{w y:T_1},ek_ qP 2 w=some y→w=[]∧y=[122]
  |[],y,h=>by
    rw [ek_,if_pos (show nth qP.fin 2 false=true from rfl)]at h
    exact ⟨rfl,(Option.some.inj h).symm⟩
  |b::w,y,h=>by
    have hb:=UInt8.toNat_lt b
    rw [ek_,if_pos (show nxQ qP 2 b.toNat<0 by show nth r0 b.toNat 0<0;rw [y1_ (by omega)];decide)]at h
    cases h
theorem qP1 : ∀ {w y : T_1}, ek_ qP 1 w = some y → y = [120, 122] ∨ y = [120, 121, 122]
  |[],y,h=>by
    rw [ek_,if_neg (show ¬ nth qP.fin 1 false=true by decide)]at h;cases h
  | b :: w, y, h => by
    have hb:=UInt8.toNat_lt b
    have hn:nxQ qP 1 b.toNat=if b.toNat=99 then 2 else if b.toNat=98 then 2 else -1:=by
      show nth ((r0.set 98 2).set 99 2) b.toNat 0=_
      have hl:=yi_
      rw [d6_,d6_,List.length_set]
      by_cases c:b.toNat=99
      · rw [if_pos c,if_pos ⟨c.symm,by omega⟩]
      rw [if_neg c,if_neg (fun e=>c e.1.symm)]
      by_cases d:b.toNat=98
      · rw [if_pos d,if_pos ⟨d.symm,by omega⟩]
      rw [if_neg d,if_neg (fun e=>d e.1.symm),y1_ (by omega)]
    have ho:otQ qP 1 b.toNat=if b.toNat=99 then [120,121] else if b.toNat=98 then [120] else []:=by
      show nth ((o0.set 98 [120]).set 99 [120,121]) b.toNat []=_
      have hl:=o0_len
      rw [d6_,d6_,List.length_set]
      by_cases c:b.toNat=99
      · rw [if_pos c,if_pos ⟨c.symm,by omega⟩]
      rw [if_neg c,if_neg (fun e=>c e.1.symm)]
      by_cases d:b.toNat=98
      · rw [if_pos d,if_pos ⟨d.symm,by omega⟩]
      rw [if_neg d,if_neg (fun e=>d e.1.symm)]
      unfold o0;rw [f8_]
    rw [ek_,hn,ho]at h
    by_cases c:b.toNat=99
    · rw [if_pos c,if_pos c,if_neg (by decide)]at h
      cases hy:ek_ qP 2 w with
      |none=>rw [show (2:Int).toNat=2 from rfl,hy]at h;cases h
      |some z=>
        rw [show (2:Int).toNat=2 from rfl,hy]at h
        rw [(qP2 hy).2]at h
        exact .inr (Option.some.inj h).symm
    rw [if_neg c,if_neg c]at h
    by_cases d:b.toNat=98
    · rw [if_pos d,if_pos d,if_neg (by decide)]at h
      cases hy:ek_ qP 2 w with
      |none=>rw [show (2:Int).toNat=2 from rfl,hy]at h;cases h
      |some z=>
        rw [show (2:Int).toNat=2 from rfl,hy]at h
        rw [(qP2 hy).2]at h
        exact .inl (Option.some.inj h).symm
    rw [if_neg d,if_neg d,if_pos (by decide)]at h;cases h
theorem qP0 : ∀ {w y : T_1}, ek_ qP 0 w = some y → y = [120, 122] ∨ y = [120, 121, 122]
  |[],y,h=>by
    rw [ek_,if_neg (show ¬ nth qP.fin 0 false=true by decide)]at h;cases h
  | b :: w, y, h => by
    have hb:=UInt8.toNat_lt b
    have hn:nxQ qP 0 b.toNat=if b.toNat=97 then 1 else -1:=by
      show nth (r0.set 97 1) b.toNat 0=_
      have hl:=yi_
      rw [d6_]
      by_cases c:b.toNat=97
      · rw [if_pos c,if_pos ⟨c.symm,by omega⟩]
      rw [if_neg c,if_neg (fun e=>c e.1.symm),y1_ (by omega)]
    have ho:otQ qP 0 b.toNat=[]:=by
      show nth o0 b.toNat []=_
      unfold o0;rw [f8_]
    rw [ek_,hn,ho]at h
    by_cases c:b.toNat=97
    · rw [if_pos c,if_neg (by decide)]at h
      cases hy:ek_ qP 1 w with
      |none=>rw [show (1:Int).toNat=1 from rfl,hy]at h;cases h
      |some z=>
        rw [show (1:Int).toNat=1 from rfl,hy]at h
        have:z=y:=Option.some.inj h
        rw [←this];exact qP1 hy
    rw [if_neg c,if_pos (by decide)]at h;cases h
theorem xo_:ek_ qP 0 [97,98]=some [120,122]:=by decide+kernel
theorem qP_ac:ek_ qP 0 [97,99]=some [120,121,122]:=by decide+kernel
theorem qP_1b:ek_ qP 1 [98]=some [120,122]:=by decide+kernel
theorem qP_2:ek_ qP 2 []=some [122]:=by decide+kernel
theorem y9_:ek_ qP 0 []=none∧ek_ qP 0 [97]=none∧ek_ qP 0 [98]=none:=by decide+kernel
theorem qP_min : ∃ m, Dq_ qP = some (m, 0) ∧ CanQ m ∧ m.front = [120] ∧ m.next.length = 3 ∧ ga_ m [97, 99] = some [120, 121, 122] := by
  obtain ⟨p,r,_,h2,h3,h4⟩:=yj_ qP
  have hn:=qP_n
  have hlive:rb_ qP 0:=⟨_,_,xo_⟩
  cases h2 with
  |wrong h=>exact absurd wq_ h
  |none _ h=>
    rcases h with h|h
    · omega
    exact absurd hlive h
  |made l m v a1 a2 a3 a4 a5=>
    have hk:=o9_ (m:=m) a5
    have hk0:=(hk 0 a2).2 ⟨.zero,(a4.live 0 a2).2 a3⟩
    have hc0:=a4.com 0 a2
    have hl0:nth l 0 []=[120]:=by
      have u1:=hc0 _ _ xo_
      have u2:=hc0 _ _ qP_ac
      have u3:=a4.up 0 a2 ((a4.live 0 a2).2 a3) [120] fun w y hy=>by
        rcases qP0 hy with e|e
        · rw [e];exact ⟨[122],rfl⟩
        rw [e];exact ⟨[121,122],rfl⟩
      obtain ⟨x,hx⟩:=u3
      rw [←hx]at u1 u2
      cases x with
      |nil=>exact hx.symm
      |cons c x=>
        exfalso
        obtain ⟨y1,e1⟩:=u1
        obtain ⟨y2,e2⟩:=u2
        have f1:c=122:=(List.cons.inj (List.cons.inj e1).2).1
        have f2:c=121:=(List.cons.inj (List.cons.inj e2).2).1
        rw [f1]at f2;exact absurd f2 (by decide)
    have hlen: ∀s,s<qP.next.length→(nth l s []).length≤3:=fun s hs=>by
      have hs:s=0∨s=1∨s=2:=by omega
      rcases hs with rfl|rfl|rfl
      · rw [hl0];decide
      · exact Nat.le_trans (a4.com 1 hs _ _ qP_1b).length_le (by decide)
      exact Nat.le_trans (a4.com 2 hs _ _ qP_2).length_le (by decide)
    have hot: ∀s b,s<qP.next.length→b<256→(otQ qP s b).length≤2:=fun s b hs hb=>by
      have hs:s=0∨s=1∨s=2:=by omega
      rcases hs with rfl|rfl|rfl
      · show (nth o0 b []).length≤2
        unfold o0;rw [f8_];decide
      · show (nth ((o0.set 98 [120]).set 99 [120,121]) b []).length≤2
        rw [d6_,d6_]
        split
        · decide
        split
        · decide
        unfold o0;rw [f8_];decide
      show (nth o0 b []).length≤2
      unfold o0;rw [f8_];decide
    have hr:d0_ (fq_ qP l (g2_ v m))=true:=by
      refine G8_ a1 a2 hk0 ?_ fun a h1 _ b hb=> ?_
      · show ([]++nth l 0 []).length≤_
        rw [hl0];decide
      unfold otP
      split
      · exact Nat.zero_le _
      split
      · have g1:=hot a b h1 hb
        have g2:=ex_ a1 h1 hb
        have g3:=hlen (nxQ qP a b).toNat (by omega)
        rw [List.length_drop,List.length_append];omega
      exact Nat.zero_le _
    have e0:lf_ qP l (g2_ v m)=(fq_ qP l (g2_ v m),0):=by unfold lf_;rw [if_pos hr]
    have hpr:PushR qP (lf_ qP l (g2_ v m)):= .made l m v a1 a2 a3 a4 a5
    rw [e0]at h4 hpr
    have hr2:=(MinR.err' hpr h4).1
    obtain ⟨k1,k2,k3⟩:=h4.can hpr hr2
    have hpl:(fq_ qP l (g2_ v m)).next.length≤3:=by rw [gz_];exact gk_ _ _
    have hpp:=s4_ a2 hk0
    have hfr:r.1.front=[120]:=by
      cases h4 with
      |err h=>exact absurd rfl h
      |none _ h=>
        have h:(fq_ qP l (g2_ v m)).next.length=0:=h
        rw [gz_]at h;omega
      |made n st _ h=>
        rw [h.front]
        show []++nth l 0 []=_
        rw [hl0];rfl
    have k3:r.1.next.length≤3:=Nat.le_trans k3 hpl
    refine ⟨r.1,by rw [h3];exact congrArg some (Prod.ext rfl hr2),k1,hfr,?_,?_⟩
    · have hs: ∀w,(ek_ r.1 0 w).isSome=(ek_ qP 0 w).isSome:=fun w=>by
        have:=k2 w
        unfold ga_ at this
        cases c:ek_ r.1 0 w with
        |none=>cases d:ek_ qP 0 w with
          |none=>rfl
          |some y=>rw [c,d]at this;cases this
        |some y=>cases d:ek_ qP 0 w with
          |none=>rw [c,d]at this;cases this
          |some y=>rfl
      have step: ∀{s b:Nat} {w:T_1},s<r.1.next.length→b<256→(ek_ r.1 s (UInt8.ofNat b::w)).isSome=true→0≤nxQ r.1 s b∧nxQ r.1 s b<(r.1.next.length:Int)∧(ek_ r.1 (nxQ r.1 s b).toNat w).isSome=true:=fun {s b w} hs' hb h=>by
        by_cases c:0≤nxQ r.1 s b
        · rw [ic_ hb c,Option.isSome_map]at h
          exact ⟨c,k1.lt s b hs' hb,h⟩
        rw [qc_ hb (by omega)]at h;cases h
      have hpos:0<r.1.next.length:=by
        by_cases c:0<r.1.next.length
        · exact c
        exfalso
        have:=hs [97,98]
        rw [xo_,fe_ (List.eq_nil_of_length_eq_zero (by omega)) (List.eq_nil_of_length_eq_zero (by have:=(dz_ k1.right).2.2.1;omega))]at this
        cases this
      obtain ⟨b1,b2,b3⟩:=step (s:=0) (b:=97) (w:=[98]) hpos (by decide) (by show (ek_ r.1 0 [97,98]).isSome=true;rw [hs,xo_];rfl)
      obtain ⟨c1,c2,c3⟩:=step (s:=(nxQ r.1 0 97).toNat) (b:=98) (w:=[]) (by omega) (by decide) b3
      have n0:(ek_ r.1 0 []).isSome=false:=by rw [hs,y9_.1];rfl
      have n1:(ek_ r.1 0 [98]).isSome=false:=by rw [hs,y9_.2.2];rfl
      have n2:(ek_ r.1 (nxQ r.1 0 97).toNat []).isSome=false:=by
        have:=hs [97]
        rw [y9_.2.1,show ([97]:T_1)=UInt8.ofNat 97::[]from rfl,ic_ (by decide) b1,Option.isSome_map]at this
        exact this
      have d1:(nxQ r.1 0 97).toNat≠0:=fun e=>by rw [e]at b3;exact absurd (n1.symm.trans b3) (by decide)
      have d2:(nxQ r.1 (nxQ r.1 0 97).toNat 98).toNat≠0:=fun e=>by rw [e,n0]at c3;cases c3
      have d3:(nxQ r.1 (nxQ r.1 0 97).toNat 98).toNat≠(nxQ r.1 0 97).toNat:=fun e=>by rw [e,n2]at c3;cases c3
      omega
    rw [k2]
    unfold ga_
    rw [qP_ac];rfl
def tP:Fst:=⟨3,[⟨0,[]⟩],[⟨2,[122]⟩],[⟨0,1,BSet.ofL [97],[],false⟩,⟨1,2,BSet.ofL [98],[120],false⟩,⟨1,2,BSet.ofL [99],[120,121],false⟩]⟩
theorem tP_b:ps_ tP=true:=by kernel_rfl
theorem tP_on(s:Nat)(h:s<3):Rch (onS tP) (arE tP) (s:Int):=by
  have h0:Rch (onS tP) (arE tP) 0:= .base ⟨⟨0,[]⟩,by simp [tP],rfl⟩
  have h1:Rch (onS tP) (arE tP) 1:= .step h0 ⟨⟨0,1,BSet.ofL [97],[],false⟩,by simp [tP],rfl,rfl⟩
  have h2:Rch (onS tP) (arE tP) 2:= .step h1 ⟨⟨1,2,BSet.ofL [98],[120],false⟩,by simp [tP],rfl,rfl⟩
  match s,h with
  |0,_=>exact h0
  |1,_=>exact h1
  |2,_=>exact h2
theorem zz_(s:Nat)(h:s<3):Rch (enS tP) (arB tP) (s:Int):=by
  have h2:Rch (enS tP) (arB tP) 2:= .base ⟨⟨2,[122]⟩,by simp [tP],rfl⟩
  have h1:Rch (enS tP) (arB tP) 1:= .step h2 ⟨⟨1,2,BSet.ofL [98],[120],false⟩,by simp [tP],rfl,rfl⟩
  have h0:Rch (enS tP) (arB tP) 0:= .step h1 ⟨⟨0,1,BSet.ofL [97],[],false⟩,by simp [tP],rfl,rfl⟩
  match s,h with
  |0,_=>exact h0
  |1,_=>exact h1
  |2,_=>exact h2
theorem wh_:jc_ tP=tP:=vw_ ((jr_ tP).1 tP_b) (fun s h=>sa_.2 ⟨tP_on s h,zz_ s h⟩) (by decide+kernel) (by decide+kernel) (by decide+kernel)
def okP:Bool:=match ofK tP 9 with
  | .inl _=>false
  | .inr (_,q)=>decide (q.front=qP.front) && decide (q.next=qP.next) && decide (q.outs=qP.outs) && decide (q.fin=qP.fin) && decide (q.tail=qP.tail)
theorem okP_t:okP=true:=by kernel_rfl
theorem vj_:Bn_=some true:=by
  unfold Bn_
  rw [dt_ (by decide),dt_ (by decide),dt_ (by decide)]
  show bnd (Fi_ tP 9) _=_
  rw [of_eq tP 9 (fun _=>by rw [wh_];decide),ea_]
  unfold ofD
  rw [if_pos ⟨tP_b,by decide,by decide⟩,wh_,←ofK_eq]
  have h:=okP_t
  unfold okP at h
  cases hk:ofK tP 9 with
  |inl e=>rw [hk]at h;cases h
  |inr x=>
    obtain ⟨R,q⟩:=x
    rw [hk]at h
    simp only [Bool.and_eq_true,decide_eq_true_eq]at h
    obtain ⟨⟨⟨⟨h1,h2⟩,h3⟩,h4⟩,h5⟩:=h
    have e:q=qP:=Gd_ h1 h2 h3 h4 h5
    subst e
    obtain ⟨m,m1,m2,m3,m4,m5⟩:=qP_min
    show bnd (Dq_ qP) _=_
    rw [m1,ea_]
    show bnd (D7_ m [97,99]) _=_
    obtain ⟨a1,a2,a3⟩:=t3_ m2.right [97,99]
    rw [m5]at a1 a2
    have a1:(iy_ m [97,99]).1=[120,121,122]:=a1
    rw [xh_ m [97,99] (by decide),ea_,show (ofR (Sum.inr (R,qP))).2=0 from rfl,dv_ rfl,dv_ rfl,dv_ m3,dv_ (by show ((m.next.length:Nat):Int)=3;rw [m4];rfl),dv_ a1,a2]
    show d2_ true (some (decide ((iy_ m [97,99]).2.2.2=0))) _=_
    rw [a3];rfl
end Go.Proofs.YtchebnpdnfhenaaGreatDoor
end

noncomputable section
namespace Go.Proofs.YtchebnpdnfhenaaGreatDoor
open Go Go.E
end Go.Proofs.YtchebnpdnfhenaaGreatDoor
end

noncomputable section
namespace Go.Proofs.YtchebnpdnfhenaaGreatDoor
open Go Go.E
end Go.Proofs.YtchebnpdnfhenaaGreatDoor
end

noncomputable section
namespace Go.Proofs.YtchebnpdnfhenaaGreatDoor
open Go Go.E
end Go.Proofs.YtchebnpdnfhenaaGreatDoor
end

noncomputable section
namespace Go.Proofs.YtchebnpdnfhenaaGreatDoor
open Go Go.E
end Go.Proofs.YtchebnpdnfhenaaGreatDoor
end

noncomputable section
namespace Go.Proofs.YtchebnpdnfhenaaGreatDoor
open Go Go.E
end Go.Proofs.YtchebnpdnfhenaaGreatDoor
end

noncomputable section
namespace Go.Proofs.YtchebnpdnfhenaaGreatDoor
open Go Go.E
theorem zs_(q:Seq)(k:Nat)(hl:(nth q.outs k []).length≤300): ∃r,ec_ (fun z:Int×Nat=>Af_ q k z.1 z.2) (0,0)=some r∧(r= .inl (k+1)∨r= .inr false):=by
  refine eg_ (step:=fun z:Int×Nat=>Af_ q k z.1 z.2) (fun (s:Int) j=>(s,j)) (nth q.outs k []).length (fun _ _=>True) _ (fun j s hj _=> .inl ?_) (fun s _=> ?_) (s0:=0) trivial
  · show ∃s',Af_ q k s j=_∧_
    unfold Af_
    rw [dv_ (by omega)]
    exact ⟨_,rfl,trivial⟩
  show ∃r,Af_ q k s (nth q.outs k []).length=_∧_
  unfold Af_
  rw [dw_ (by omega)]
  by_cases c:20000<s
  · rw [dv_ c];exact ⟨_,rfl,.inr rfl⟩
  rw [dw_ c];exact ⟨_,rfl,.inl rfl⟩
theorem fewQ(q:Seq): ∃b,Cg_ q=some b∧(b=true→q.next.length≤12):=by
  unfold Cg_
  by_cases c1:12<q.next.length
  · rw [dv_ (by omega)];exact ⟨_,rfl,fun h=>by cases h⟩
  rw [dw_ (by omega)]
  by_cases c2:13<q.outs.length
  · rw [dv_ (by omega)];exact ⟨_,rfl,fun h=>by cases h⟩
  rw [dw_ (by omega)]
  by_cases c3:5000<q.front.length
  · rw [dv_ (by omega)];exact ⟨_,rfl,fun h=>by cases h⟩
  rw [dw_ (by omega)]
  refine eg_ (step:=fun z:Nat=>Ak_ q z) (fun (_:Unit) k=>k) q.outs.length (fun _ _=>True) (fun b=>b=true→q.next.length≤12) (fun k _ hk _=> ?_) (fun _ _=> ?_) (s0:=()) trivial
  · show (∃s':Unit,Ak_ q k=_∧_)∨ ∃r,Ak_ q k=_∧_
    unfold Ak_
    rw [dv_ (by omega)]
    by_cases d:300<(nth q.outs k []).length
    · rw [dv_ (by omega)]
      exact .inr ⟨_,rfl,fun _=>by omega⟩
    rw [dw_ (by omega)]
    obtain ⟨r,h1,h2⟩:=zs_ q k (by omega)
    rw [h1]
    rcases h2 with rfl|rfl
    · exact .inl ⟨(),rfl,trivial⟩
    exact .inr ⟨_,rfl,fun _=>by omega⟩
  refine ⟨true,?_,fun _=>by omega⟩
  unfold Ak_
  rw [dw_ (by omega)];rfl
end Go.Proofs.YtchebnpdnfhenaaGreatDoor
end

noncomputable section
namespace Go.Proofs.YtchebnpdnfhenaaGreatDoor
open Go Go.E Go.E.OpVal Go.E.OpOk Go.Proofs.Tryz
theorem yv_:aggOf Tryz.prog 117=some true:=by kernel_rfl
theorem by117:byOf Tryz.prog 117=some 16:=by kernel_rfl
theorem eg117:Tryz.prog.eqGuardType Tryz.prog.depth 117=false:=by kernel_rfl
theorem es117(x y:FPr):Go.E.EqAt Tryz.prog 2 117 (.agg (Go.E.encFPr x).toArray) (.agg (Go.E.encFPr y).toArray) (decide (x=y)):=
 (EqAt.arr2 underlying117 (by kernel_rfl) (by kernel_rfl) (EqAt.int underlying3 x.p y.p) (EqAt.int underlying3 x.q y.q)).of (by rw [Bool.eq_iff_iff];cases x;cases y;simp)
theorem pf18:plainF Tryz.prog 18=true:=by kernel_rfl
theorem pf27:plainF Tryz.prog 27=true:=by kernel_rfl
theorem pf30:plainF Tryz.prog 30=true:=by kernel_rfl
theorem pf31:plainF Tryz.prog 31=true:=by kernel_rfl
theorem nd_:szOf Tryz.prog 117=some 2:=by kernel_rfl
theorem tg_:zeroOf Tryz.prog 117=some (.agg #[.int .i64 0,.int .i64 0]):=by kernel_rfl
def Az_(k140:Nat)(l143:List FPr):Option (((List FPr)×Nat)⊕(((List FPr)×Nat)⊕(Bool))):=
 nxt (l143,(k140+1))
def Aq_(l137:List FPr)(k140:Nat)(x155:FPr)(t156:Bool):Option (((List FPr)×Nat)⊕(((List FPr)×Nat)⊕(Bool))):=
 d2_ (!t156) (grd ((l137.length+[x155].length) * 16≤140737488355328) (Az_ k140 (l137++[x155]))) (Az_ k140 l137)
def Ab_(l137:List FPr)(k140:Nat)(x164:FPr)(t165:Bool)(k166:Nat):Option ((FPr×Bool×Nat)⊕(((List FPr)×Nat)⊕(((List FPr)×Nat)⊕(Bool)))):=
 d2_ (decide ((k166:Int)<((l137.length:Nat):Int))) (d2_ (!t165) (nxt (x164,decide ((nth l137 k166 FPr.zero)=x164),(k166+1))) (fin (Aq_ l137 k140 x164 t165))) (fin (Aq_ l137 k140 x164 t165))
def Ac_(l114:List FPr)(k117:Nat)(x0:Seq)(l137:List FPr)(k140:Nat):Option (((List FPr)×Nat)⊕(((List FPr)×Nat)⊕(Bool))):=
 d2_ (decide ((k140:Int)<256)) (grd (0≤((nth l114 k117 FPr.zero).p)∧((nth l114 k117 FPr.zero).p)<(x0.next.length:Int)) (grd (k140<(nth x0.next (((nth l114 k117 FPr.zero).p).toNat) []).length) (grd (0≤((nth l114 k117 FPr.zero).q)∧((nth l114 k117 FPr.zero).q)<(x0.next.length:Int)) (grd (k140<(nth x0.next (((nth l114 k117 FPr.zero).q).toNat) []).length) (d2_ ((decide ((nth (nth x0.next (((nth l114 k117 FPr.zero).p).toNat) []) k140 0)<0)) != (decide ((nth (nth x0.next (((nth l114 k117 FPr.zero).q).toNat) []) k140 0)<0))) (fin (fin (some false))) (ec_ (fun q:FPr×Bool×Nat=>Ab_ l137 k140 q.1 q.2.1 q.2.2) ((⟨(nth (nth x0.next (((nth l114 k117 FPr.zero).p).toNat) []) k140 0),(nth (nth x0.next (((nth l114 k117 FPr.zero).q).toNat) []) k140 0)⟩:FPr),decide ((nth (nth x0.next (((nth l114 k117 FPr.zero).p).toNat) []) k140 0)<0),0))))))) (fin (nxt (l137,(k117+1))))
def Al_(x0:Seq)(l114:List FPr)(k117:Nat):Option (((List FPr)×Nat)⊕(Bool)):=
 d2_ (decide ((k117:Int)<((l114.length:Nat):Int))) (grd (0≤((nth l114 k117 FPr.zero).p)∧((nth l114 k117 FPr.zero).p)<(x0.fin.length:Int)) (grd (0≤((nth l114 k117 FPr.zero).q)∧((nth l114 k117 FPr.zero).q)<(x0.fin.length:Int)) (d2_ ((nth x0.fin (((nth l114 k117 FPr.zero).p).toNat) false) != (nth x0.fin (((nth l114 k117 FPr.zero).q).toNat) false)) (fin (some false)) (grd (0≤((nth l114 k117 FPr.zero).p)∧((nth l114 k117 FPr.zero).p)<(x0.tail.length:Int)) (grd (0≤((nth l114 k117 FPr.zero).q)∧((nth l114 k117 FPr.zero).q)<(x0.tail.length:Int)) (d2_ (decide ((nth x0.tail (((nth l114 k117 FPr.zero).p).toNat) [])≠(nth x0.tail (((nth l114 k117 FPr.zero).q).toNat) []))) (fin (some false)) (grd (0≤((nth l114 k117 FPr.zero).p)∧((nth l114 k117 FPr.zero).p)<(x0.outs.length:Int)) (grd (0≤((nth l114 k117 FPr.zero).q)∧((nth l114 k117 FPr.zero).q)<(x0.outs.length:Int)) (bnd (A1_ (nth x0.outs (((nth l114 k117 FPr.zero).p).toNat) []) (nth x0.outs (((nth l114 k117 FPr.zero).q).toNat) [])) (fun v60=>d2_ (!v60) (fin (some false)) (ec_ (fun q:(List FPr)×Nat=>Ac_ l114 k117 x0 q.1 q.2) (l114,0)))))))))))) (fin (some true))
def B3_(x0:Seq)(x1:Int)(x2:Int):Option (Bool):=
 ec_ (fun q:(List FPr)×Nat=>Al_ x0 q.1 q.2) ([(⟨x1,x2⟩:FPr)],0)
theorem Fe_{σ:ds_}{x0:Seq}{a0_0:Option Addr}{c0_0:Nat}{a0_1:Option Addr}{c0_1:Nat}{a0_2:Option Addr}{c0_2:Nat}{a0_3:Option Addr}{c0_3:Nat}{x1:Int}{x2:Int}(f0_0:RZ σ (dy_ 1 eI_ d8_) (.slice a0_0 x0.next.length c0_0) x0.next)(f0_1:RZ σ (dy_ 1 eS_ ed_) (.slice a0_1 x0.outs.length c0_1) x0.outs)(f0_2:rS_ σ em_ a0_2 c0_2 x0.fin)(f0_3:rS_ σ eS_ a0_3 c0_3 x0.tail){r:Bool}(hh:B3_ x0 x1 x2=some r):
  Con Tryz.prog 31 #[.agg (aq_ x0 a0_0 c0_0 a0_1 c0_1 a0_2 c0_2 a0_3 c0_3),.int .i64 x1,.int .i64 x2] σ [] (e2_ (.bool r) σ):=by
 dsimp only [B3_]at hh
 have f0_0b:=f0_0.big
 have f0_1b:=f0_1.big
 have f0_2b:=f0_2.rv.big
 have f0_3b:=f0_3.rv.big
 refine Con.mk (n:=126) Tryz.func31 z z z (fun w0=> ?_)
 refine TC.a (TL.op z (boxA z z z z (fun b101=> ?_)))
 refine TL.j z z (TL.en (TC.a (TL.i z z (TL.i z z (TL.w z (bl_ z underlying117 sz3 tg_ z) (TL.op z (OpOk.lit (enc:=encFPr) [(⟨x1,x2⟩:FPr)] z underlying118 nd_ tg_ z z z hr_ (by decide) (by decide) FPr.zero z (by decide) z (by decide) oa_ (fun a103 c104=> ?_))))))))
 refine TL.s z z (TL.en (TC.seq (TC.a (TL.i z z (TL.en (TC.block (TC.ap_ (α:=((List FPr)×Nat)×((Option Addr)×Nat)) (rgs [(6,9),(19,107)]) (fun g=>[(7,.slice g.2.1 g.1.1.length g.2.2),(8,.int .i64 ((g.1.2:Nat):Int))]) (fun g=>[cq_ b101 x0 a0_0 c0_0 a0_1 c0_1 a0_2 c0_2 a0_3 c0_3,Res.rowS 117 2 encFPr (.slice g.2.1 g.1.1.length g.2.2) g.1.1]) (fun g=>σ) (fun g=>ec_ (fun q:(List FPr)×Nat=>Al_ x0 q.1 q.2) g.1=some r) (fun g=>d7_ (fun q:(List FPr)×Nat=>Al_ x0 q.1 q.2) g.1) (([(⟨x1,x2⟩:FPr)],0),(a103,c104)) (Sub.f [1] 2) z (by repeat (first|exact trivial|refine ⟨z,?_⟩)) hh (fun g1 j1 hg1=> ?_))))))))
 obtain ⟨⟨l114,k117⟩,⟨a115,c116⟩⟩:=g1
 have hh:=hg1;clear hg1
 try dsimp only
 obtain ⟨z1,hh,hR1⟩:=eb_ hh
 dsimp only [Al_]at hh
 refine TC.isSl (i:=1) z (fun _ hb118 _=> ?_)
 refine TC.seq (TC.a (TL.i z z (TL.s z z (TL.w z (lenC z underlying118 z) (TL.w z (OpVal.lss z z z) (TL.en (TC.cD z hh (fun h119 hh=> ?_) (fun h119 hh=> ?_))))))))
 ·refine TC.skip (S.n (TC.seq (TC.block (TC.a (TL.s z z (TL.i z z (TL.isSl (i:=1) z (fun hs120 _ _=> ?_))))))))
  refine TL.w z (ag_ z underlying118 nd_ z z hs120 (by omega)) (TL.isSl (i:=1) z (fun hs121 _ _=> ?_))
  refine TL.w z (bi_ (i:=0) (f:=0) z underlying117 sz3 z z (by decide) z hs121 (by omega)) (TL.w z (b4_ FPr.zero z ag3 z (q:=1) z hr_ (by omega) (by omega) z) (TL.i z z (TL.en (TC.a (TL.s z z (TL.i z z (TL.isSl (i:=1) z (fun hs122 _ _=> ?_))))))))
  refine TL.w z (ag_ z underlying118 nd_ z z hs122 (by omega)) (TL.isSl (i:=1) z (fun hs123 _ _=> ?_))
  refine TL.w z (bi_ (i:=1) (f:=1) z underlying117 sz3 z z (by decide) z hs123 (by omega)) (TL.w z (b4_ FPr.zero z ag3 z (q:=1) z hr_ (by omega) (by omega) z) (TL.i z z (TL.en (TC.seq (TC.seq (TC.draw [] (by kernel_rfl) (TA.a 0 z (aa_ z fu_ z) z (TA.b 1 z (ab_ z nb_ z (i:=0) z z) z (TA.a 2 z (ah_ (.inl z) z) z ?_)))))))))
  obtain ⟨u28,hh⟩:=dx_ hh
  refine TA.b 3 z (OpVal.index z underlying29 sz4 z z f0_2.rv.sl u28.1 u28.2) z (TA.b 4 z (aj_ false z ag4 z f0_2 (by omega) z) z (TA.a 5 z (aa_ z fu_ z) z (TA.b 6 z (ab_ z nb_ z (i:=0) z z) z (TA.a 7 z (ah_ (.inl z) z) z ?_))))
  obtain ⟨u33,hh⟩:=dx_ hh
  refine TA.b 8 z (OpVal.index z underlying29 sz4 z z f0_2.rv.sl u33.1 u33.2) z (TA.b 9 z (aj_ false z ag4 z f0_2 (by omega) z) z (TA.a 10 z (neqB z z z underlying4) z (TA.a 11 z (moveB (.inl z) z) z (TA.split 46 z (fun h124=> ?_) (fun h124=> ?_)))))
  ·replace hh:=ei_ h124 hh
   refine TA.off 12 z z z z z z (TA.off 13 z z z z z z (TA.off 14 z z z z z z (TA.off 15 z z z z z z (TA.off 16 z z z z z z (TA.off 17 z z z z z z (TA.off 18 z z z z z z (TA.off 19 z z z z z z (TA.off 20 z z z z z z (TA.off 21 z z z z z z (TA.off 22 z z z z z z (TA.a 23 z (al_ z z z) z (TA.a 24 z (moveB (.inl z) z) z (TA.off 25 z z z z z z (TA.off 26 z z z z z z (TA.off 27 z z z z z z ?_)))))))))))))))
   refine TA.off 28 z z z z z z (TA.off 29 z z z z z z (TA.off 30 z z z z z z (TA.off 31 z z z z z z (TA.off 32 z z z z z z (TA.off 33 z z z z z z (TA.off 34 z z z z z z (TA.off 35 z z z z z z (TA.off 36 z z z z z z (TA.a 37 z (al_ z z z) z (TA.dn (S.n (TC.t z (TC.a (TL.j z z (TL.en ?_)))))))))))))))
   refine TC.rt 0 (S.r (B.r (S.r (S.r ?_))))
   replace hh:=d9_ hR1 hh
   refine B.r (S.r ?_)
   obtain rfl:=so hh
   exact rq [6] ⟨z,z,z⟩
  replace hh:=ej_ h124 hh
  refine TA.on 12 z z z z (aa_ z f2_ z) z (TA.on 13 z z z z (ab_ z iz_ z (i:=0) z z) z (TA.on 14 z z z z (ah_ (.inl z) z) z ?_))
  obtain ⟨u40,hh⟩:=dx_ hh
  refine TA.on 15 z z z z (OpVal.index z underlying30 sz9 z z f0_3.rv.sl u40.1 u40.2) z (TA.on 16 z z z z (aj_ ([]:T_1) z ag9 z f0_3 (by omega) z) z (TA.on 17 z z z z (aa_ z f2_ z) z (TA.on 18 z z z z (ab_ z iz_ z (i:=0) z z) z (TA.on 19 z z z z (ah_ (.inl z) z) z ?_))))
  obtain ⟨u45,hh⟩:=dx_ hh
  refine TA.on 20 z z z z (OpVal.index z underlying30 sz9 z z f0_3.rv.sl u45.1 u45.2) z (TA.on 21 z z z z (aj_ ([]:T_1) z ag9 z f0_3 (by omega) z) z (TA.on 22 z z z z (b0_ z z z) z (TA.a 23 z (ak_ z z z) z (TA.a 24 z (moveB (.inl z) z) z (TA.split 59 z (fun h125=> ?_) (fun h125=> ?_))))))
  ·replace hh:=ei_ h125 hh
   replace h125:=of_decide_eq_true h125
   refine TA.off 25 z z z z z z (TA.off 26 z z z z z z (TA.off 27 z z z z z z (TA.off 28 z z z z z z (TA.off 29 z z z z z z (TA.off 30 z z z z z z (TA.off 31 z z z z z z (TA.off 32 z z z z z z (TA.off 33 z z z z z z (TA.off 34 z z z z z z (TA.off 35 z z z z z z (TA.off 36 z z z z z z (TA.a 37 z (al_ z z z) z (TA.dn (S.n (TC.t z ?_)))))))))))))))
   refine TC.a (TL.j z z (TL.en (TC.rt 0 (S.r (B.r (S.r (S.r ?_)))))))
   replace hh:=d9_ hR1 hh
   refine B.r (S.r ?_)
   obtain rfl:=so hh
   exact rq [6] ⟨z,z,z⟩
  replace hh:=ej_ h125 hh
  replace h125:=of_decide_eq_false h125
  refine TA.on 25 z z z z (aa_ z e7_ z) z (TA.on 26 z z z z (ab_ z kv_ z (i:=0) z z) z (TA.on 27 z z z z (ah_ (.inl z) z) z ?_))
  obtain ⟨u53,hh⟩:=dx_ hh
  refine TA.on 28 z z z z (OpVal.index z underlying28 iu_ z z f0_1.isSl u53.1 u53.2) z ?_
  obtain ⟨p126,hk126,hg126⟩:=RZ.seg f0_1 (((nth l114 k117 FPr.zero).p).toNat) (by omega)
  replace hk126:RS _ 1 eS_ (.slice p126.1 (nth x0.outs (((nth l114 k117 FPr.zero).p).toNat) []).length p126.2) (nth x0.outs (((nth l114 k117 FPr.zero).p).toNat) []):=hk126
  have hk126b:=hk126.rv.big
  refine TA.on 29 z z z z (OpVal.of (an_ z iz_ z hg126 z) (v':= .slice p126.1 ((nth x0.outs (((nth l114 k117 FPr.zero).p).toNat) []).length) p126.2) z) z (TA.on 30 z z z z (aa_ z e7_ z) z (TA.on 31 z z z z (ab_ z kv_ z (i:=0) z z) z (TA.on 32 z z z z (ah_ (.inl z) z) z ?_)))
  obtain ⟨u58,hh⟩:=dx_ hh
  refine TA.on 33 z z z z (OpVal.index z underlying28 iu_ z z f0_1.isSl u58.1 u58.2) z ?_
  obtain ⟨p127,hk127,hg127⟩:=RZ.seg f0_1 (((nth l114 k117 FPr.zero).q).toNat) (by omega)
  replace hk127:RS _ 1 eS_ (.slice p127.1 (nth x0.outs (((nth l114 k117 FPr.zero).q).toNat) []).length p127.2) (nth x0.outs (((nth l114 k117 FPr.zero).q).toNat) []):=hk127
  have hk127b:=hk127.rv.big
  refine TA.on 34 z z z z (OpVal.of (an_ z iz_ z hg127 z) (v':= .slice p127.1 ((nth x0.outs (((nth l114 k117 FPr.zero).q).toNat) []).length) p127.2) z) z ?_
  obtain ⟨v60,u60,hh⟩:=d4_ hh
  refine TA.actOn 35 (by kernel_rfl) z z z z z z (aw_ (Ff_ hk126 hk127 u60) z z pf27 z z z (k0 ?_))
  refine TA.on 36 z z z z (OpVal.not z z) z (TA.a 37 z (ak_ z z z) z (TA.dn (S.n (TC.cB z hh (fun h128 hh=> ?_) (fun h128 hh=> ?_)))))
  ·refine TC.a (TL.j z z (TL.en (TC.rt 0 (S.r (B.r (S.r (S.r ?_)))))))
   replace hh:=d9_ hR1 hh
   refine B.r (S.r ?_)
   obtain rfl:=so hh
   exact rq [6] ⟨z,z,z⟩
  refine TC.skip (S.n (TC.a (TL.i z z (TL.en (TC.block (TC.ap_ (α:=((List FPr)×Nat)×((Option Addr)×Nat)) (rgs [(6,2),(11,4),(73,53)]) (fun g=>[(7,.slice g.2.1 g.1.1.length g.2.2),(11,.int .i64 ((g.1.2:Nat):Int))]) (fun g=>[cq_ b101 x0 a0_0 c0_0 a0_1 c0_1 a0_2 c0_2 a0_3 c0_3,Res.rowS 117 2 encFPr (.slice g.2.1 g.1.1.length g.2.2) g.1.1]) (fun g=>σ) (fun g=>ec_ (fun q:(List FPr)×Nat=>Ac_ l114 k117 x0 q.1 q.2) g.1=some z1) (fun g=>d7_ (fun q:(List FPr)×Nat=>Ac_ l114 k117 x0 q.1 q.2) g.1) ((l114,0),(a115,c116)) (Sub.f [1,1] 2) z (by repeat (first|exact trivial|refine ⟨z,?_⟩)) hh (fun g2 j2 hg2=> ?_)))))))
  obtain ⟨⟨l137,k140⟩,⟨a138,c139⟩⟩:=g2
  have hh:=hg2;clear hg2
  try dsimp only
  obtain ⟨z2,hh,hR2⟩:=eb_ hh
  dsimp only [Ac_]at hh
  refine TC.isSl (i:=1) z (fun _ hb141 _=> ?_)
  refine TC.seq (TC.a (TL.i z z (TL.w z (OpVal.lss z z z) (TL.en (TC.cD z hh (fun h142 hh=> ?_) (fun h142 hh=> ?_))))))
  ·refine TC.skip (S.n (TC.cutG (α:=((List FPr))×((Option Addr)×Nat)) (rgs [(6,2),(12,3),(77,49)]) (fun g=>[(7,.slice g.2.1 g.1.length g.2.2)]) (fun g=>[cq_ b101 x0 a0_0 c0_0 a0_1 c0_1 a0_2 c0_2 a0_3 c0_3,Res.rowS 117 2 encFPr (.slice g.2.1 g.1.length g.2.2) g.1]) (fun g=>σ) (fun g=>Az_ k140 g.1=some z2) ?_ (fun g j hg=> ?_)))
   ·skip
    refine TC.block (TC.seq ?_)
    obtain ⟨u70,hh⟩:=dx_ hh
    obtain ⟨u73,hh⟩:=dx_ hh
    obtain ⟨u78,hh⟩:=dx_ hh
    obtain ⟨u81,hh⟩:=dx_ hh
    refine TC.draw [18] (by kernel_rfl) (TA.a 0 z (aa_ z ey_ z) z (TA.b 1 z (ab_ z hv_ z (i:=0) z z) z (TA.a 2 z (ah_ (.inl z) z) z (TA.b 3 z (OpVal.index z underlying27 e4_ z z f0_0.isSl u70.1 u70.2) z ?_))))
    obtain ⟨p150,hk150,hg150⟩:=RZ.seg f0_0 (((nth l114 k117 FPr.zero).p).toNat) (by omega)
    replace hk150:RS _ 1 eI_ (.slice p150.1 (nth x0.next (((nth l114 k117 FPr.zero).p).toNat) []).length p150.2) (nth x0.next (((nth l114 k117 FPr.zero).p).toNat) []):=hk150
    have hk150b:=hk150.rv.big
    refine TA.b 4 z (OpVal.of (an_ z ie_ z hg150 z) (v':= .slice p150.1 ((nth x0.next (((nth l114 k117 FPr.zero).p).toNat) []).length) p150.2) z) z (TA.a 5 z (ah_ (.inl z) z) z (TA.b 6 z (ag_ z underlying86 sz3 z z hk150.rv.sl (by omega)) z (TA.b 7 z (aj_ (0:Int) z ag3 z hk150 (by omega) z) z (TA.a 8 z (aa_ z ey_ z) z (TA.b 9 z (ab_ z hv_ z (i:=0) z z) z (TA.a 10 z (ah_ (.inl z) z) z (TA.b 11 z (OpVal.index z underlying27 e4_ z z f0_0.isSl u78.1 u78.2) z ?_)))))))
    obtain ⟨p151,hk151,hg151⟩:=RZ.seg f0_0 (((nth l114 k117 FPr.zero).q).toNat) (by omega)
    replace hk151:RS _ 1 eI_ (.slice p151.1 (nth x0.next (((nth l114 k117 FPr.zero).q).toNat) []).length p151.2) (nth x0.next (((nth l114 k117 FPr.zero).q).toNat) []):=hk151
    have hk151b:=hk151.rv.big
    refine TA.b 12 z (OpVal.of (an_ z ie_ z hg151 z) (v':= .slice p151.1 ((nth x0.next (((nth l114 k117 FPr.zero).q).toNat) []).length) p151.2) z) z (TA.a 13 z (ah_ (.inl z) z) z (TA.b 14 z (ag_ z underlying86 sz3 z z hk151.rv.sl (by omega)) z (TA.b 15 z (aj_ (0:Int) z ag3 z hk151 (by omega) z) z (TA.a 16 z (bl_ z underlying117 sz3 tg_ z) z (TA.ac 17 z (OpOk.alloc z tg_ z z (fun b152=>(k1 ?_))))))))
    refine TA.last 18 (by kernel_rfl) z z z (storeAll z nd_ z z z z z z ?_)
    refine TZ.done (by kernel_rfl) (S.n (TC.seq (TC.a (TL.w z (OpVal.of (a6_ (i:=0) z underlying117 sz3 z z (by decide)) (v':=loc b152 0) z) (TL.w z (ab_ z ag3 z (i:=0) z z) (TL.w z (OpVal.lss z z z) (TL.w z (OpVal.of (a6_ (i:=1) z underlying117 sz3 z z (by decide)) (v':=loc b152 1) z) (TL.w z (ab_ z ag3 z (i:=0) z z) (TL.w z (OpVal.lss z z z) (TL.w z (neqB z z z underlying4) (TL.en (TC.cB z hh (fun h154 hh=> ?_) (fun h154 hh=> ?_)))))))))))))
    ·refine TC.a (TL.j z z (TL.en (TC.rt 0 (S.r (B.r (S.r (S.r ?_)))))))
     replace hh:=d9_ hR2 hh
     refine B.r (B.r (S.r (S.r ?_)))
     replace hh:=d9_ hR1 hh
     refine B.r (S.r ?_)
     obtain rfl:=so hh
     exact rq [6] ⟨z,z,z⟩
    refine TC.skip (S.n (TC.a (TL.w z (OpVal.of (a6_ (i:=0) z underlying117 sz3 z z (by decide)) (v':=loc b152 0) z) (TL.w z (ab_ z ag3 z (i:=0) z z) (TL.w z (OpVal.lss z z z) (TL.j z z (TL.en (TC.cutG (α:=(FPr×Bool)×(Unit)) (rgs [(13,2),(104,16)]) (fun g=>[(13,.bool g.1.2)]) (fun g=>[cq_ b101 x0 a0_0 c0_0 a0_1 c0_1 a0_2 c0_2 a0_3 c0_3,Res.rowS 117 2 encFPr (.slice a138 l137.length c139) l137,Res.cells b152 #[.int .i64 g.1.1.p,.int .i64 g.1.1.q] 117]) (fun g=>σ) (fun g=>Aq_ l137 k140 g.1.1 g.1.2=some z2) ?_ (fun g j hg=> ?_)))))))))
    ·skip
     refine TC.a (TL.i z z (TL.en (TC.block (TC.ap_ (α:=(FPr×Bool×Nat)×(Unit)) (rgs [(13,2),(104,16)]) (fun g=>[(13,.bool g.1.2.1),(14,.int .i64 ((g.1.2.2:Nat):Int))]) (fun g=>[cq_ b101 x0 a0_0 c0_0 a0_1 c0_1 a0_2 c0_2 a0_3 c0_3,Res.rowS 117 2 encFPr (.slice a138 l137.length c139) l137,Res.cells b152 #[.int .i64 g.1.1.p,.int .i64 g.1.1.q] 117]) (fun g=>σ) (fun g=>ec_ (fun q:FPr×Bool×Nat=>Ab_ l137 k140 q.1 q.2.1 q.2.2) g.1=some z2) (fun g=>d7_ (fun q:FPr×Bool×Nat=>Ab_ l137 k140 q.1 q.2.1 q.2.2) g.1) (((⟨(nth (nth x0.next (((nth l114 k117 FPr.zero).p).toNat) []) k140 0),(nth (nth x0.next (((nth l114 k117 FPr.zero).q).toNat) []) k140 0)⟩:FPr),decide ((nth (nth x0.next (((nth l114 k117 FPr.zero).p).toNat) []) k140 0)<0),0),()) (Sub.f [2,2] 3) z (by repeat (first|exact trivial|refine ⟨z,?_⟩)) hh (fun g3 j3 hg3=> ?_)))))
     obtain ⟨⟨x164,t165,k166⟩,_⟩:=g3
     have hh:=hg3;clear hg3
     try dsimp only
     obtain ⟨z3,hh,hR3⟩:=eb_ hh
     dsimp only [Ab_]at hh
     refine TC.isSl (i:=1) z (fun _ hb167 _=> ?_)
     refine TC.seq (TC.a (TL.i z z (TL.s z z (TL.w z (lenC z underlying118 z) (TL.w z (OpVal.lss z z z) (TL.j z z (TL.split 108 z (fun h168=> ?_) (fun h168=> ?_))))))))
     ·replace hh:=ei_ h168 hh
      replace h168:=of_decide_eq_true h168
      refine TL.g z (moveB (.inl z) z) (TL.g z (OpVal.not z z) (TL.w z (al_ z z z) (TL.en (TC.cB z hh (fun h169 hh=> ?_) (fun h169 hh=> ?_)))))
      ·refine TC.skip (S.n (TC.seq (TC.block (TC.draw [] (by kernel_rfl) (TA.a 0 z (ai_ (.inl z) z) z (TA.a 1 z (ah_ (.inl z) z) z (TA.isSl (i:=1) z (fun hs171 _ _=> ?_))))))))
       refine TA.b 2 z (ag_ z underlying118 nd_ z z hs171 (by omega)) z (TA.b 3 z (a8_ FPr.zero z yv_ nd_ z (q:=1) z hr_ (by omega) (by omega)) z (TA.b 4 z (ao_ z yv_ nd_ z (i:=2) z z) z (TA.a 5 z (dh_ (p:=(nth l137 k166 FPr.zero)=x164) z z z eg117 (es117 (nth l137 k166 FPr.zero) x164) z) z (TA.a 6 z (moveB (.inr z) z) z (TA.dn (B.n (S.n (TC.region (TL.i z z (TL.w z (OpVal.succ z z z (by omega)) (TL.i z z (TL.en ?_))))))))))))
       obtain ⟨hh,hlt172⟩:=en_ hR3 hh
       exact lf ((x164,decide ((nth l137 k166 FPr.zero)=x164),(k166+1)),()) hlt172 hh (Sub.f [2,2,2] 3)
      refine TC.exit (S.x (S.x ?_))
      replace hh:=d9_ hR3 hh
      exact TC.ad_ (S.n (cf ((x164,t165),()) hh (Sub.f [2,2,2] 3)))
     replace hh:=ej_ h168 hh
     replace h168:=of_decide_eq_false h168
     refine TL.f z (TL.f z (TL.w z (ak_ z z z) (TL.en (TC.f z (TC.exit (S.x (S.x ?_)))))))
     replace hh:=d9_ hR3 hh
     exact TC.ad_ (S.n (cf ((x164,t165),()) hh (Sub.f [2,2,2] 3)))
    skip
    obtain ⟨⟨x155,t156⟩,_⟩:=g
    have hh:=hg;clear hg
    try dsimp only
    dsimp only [Aq_]at hh
    refine TC.isSl (i:=1) z (fun _ hb173 _=> ?_)
    refine TC.a (TL.j z z (TL.w z (OpVal.not z z) (TL.en (TC.cB z hh (fun h174 hh=> ?_) (fun h174 hh=> ?_)))))
    ·refine TC.region (TL.s z z (TL.w z (ao_ z yv_ nd_ z (i:=2) z z) (TL.op z (OpOk.lit (enc:=encFPr) [x155] z underlying118 nd_ tg_ z z z hr_ (by decide) (by decide) FPr.zero z (by decide) z (by decide) oa_ (fun a175 c176=> ?_)))))
     refine TL.front 2 z z ?_
     obtain ⟨u122,hh⟩:=dx_ hh
     refine TL.op z (as_ z z underlying118 nd_ by117 tg_ z z (by decide) z z z (.inr ⟨_,0,z⟩) (by simpa using u122) (by decide) (fun a178 c179=> ?_))
     exact TL.s z z (TL.nil (B.n (S.n (cf ((l137++[x155]),(a178,c179)) hh (Sub.f [2] 2)))))
    exact TC.skip (B.n (S.n (cf (l137,(a138,c139)) hh (Sub.f [1,1] 2))))
   skip
   obtain ⟨l143,⟨a144,c145⟩⟩:=g
   have hh:=hg;clear hg
   try dsimp only
   dsimp only [Az_]at hh
   refine TC.isSl (i:=1) z (fun _ hb180 _=> ?_)
   refine TC.region (TL.i z z (TL.w z (OpVal.succ z z z (by omega)) (TL.i z z (TL.en ?_))))
   obtain ⟨hh,hlt181⟩:=en_ hR2 hh
   exact lf ((l143,(k140+1)),(a144,c145)) hlt181 hh (Sub.f [1,1] 2)
  refine TC.exit (S.x (S.x ?_))
  replace hh:=d9_ hR2 hh
  refine TC.ad_ (B.n (S.n (TC.region (TL.i z z (TL.w z (OpVal.succ z z z (by omega)) (TL.i z z (TL.en ?_)))))))
  obtain ⟨hh,hlt182⟩:=en_ hR1 hh
  exact lf ((l137,(k117+1)),(a138,c139)) hlt182 hh (Sub.f [1,1] 2)
 refine TC.exit (S.x (S.x ?_))
 replace hh:=d9_ hR1 hh
 refine TC.ad_ (S.n (TC.a (TL.j z z (TL.en (TC.rt 0 ?_)))))
 obtain rfl:=so hh
 exact rq [6] ⟨z,z,z⟩
def Ad_(k111:Nat)(v8:Seq×Int)(k115:Nat):Option ((Nat)⊕((Nat)⊕(Bool))):=
 d2_ (decide ((k115:Int)<(k111:Int))) (bnd (B3_ v8.1 (k111:Int) (k115:Int)) (fun v40=>d2_ v40 (fin (fin (some false))) (nxt (k115+1)))) (fin (nxt (k111+1)))
def Ae_(v8:Seq×Int)(k111:Nat):Option ((Nat)⊕(Bool)):=
 d2_ (decide ((k111:Int)<((v8.1.next.length:Nat):Int))) (ec_ (fun q:Nat=>Ad_ k111 v8 q) 0) (fin (bnd (Bn_) (fun v48=>some v48)))
def Bw_(x0:Seq):Option (Bool):=
 bnd (Cg_ x0) (fun v4=>d2_ (!v4) (some true) (bnd (Dq_ x0) (fun v8=>d2_ (decide (v8.2≠0)) (bnd (Bn_) (fun v17=>d2_ v17 (some (decide (((v8.1.next.length:Nat):Int)=0))) (some false))) (ec_ (fun q:Nat=>Ae_ v8 q) 0))))
theorem Ey_{σ:ds_}{x0:Seq}{a0_0:Option Addr}{c0_0:Nat}{a0_1:Option Addr}{c0_1:Nat}{a0_2:Option Addr}{c0_2:Nat}{a0_3:Option Addr}{c0_3:Nat}(hgl:GT2 σ 1 2)(f0_0:RZ σ (dy_ 1 eI_ d8_) (.slice a0_0 x0.next.length c0_0) x0.next)(f0_1:RZ σ (dy_ 1 eS_ ed_) (.slice a0_1 x0.outs.length c0_1) x0.outs)(f0_2:rS_ σ em_ a0_2 c0_2 x0.fin)(f0_3:rS_ σ eS_ a0_3 c0_3 x0.tail){r:Bool}(hh:Bw_ x0=some r):
  Con Tryz.prog 8 #[.agg (aq_ x0 a0_0 c0_0 a0_1 c0_1 a0_2 c0_2 a0_3 c0_3)] σ [] (e2_ (.bool r) σ):=by
 dsimp only [Bw_]at hh
 have f0_0b:=f0_0.big
 have f0_1b:=f0_1.big
 have f0_2b:=f0_2.rv.big
 have f0_3b:=f0_3.rv.big
 refine Con.mk (n:=43) Tryz.func8 z z z (fun w0=> ?_)
 refine TC.a (TL.op z (boxA z z z z (fun b101=> ?_)))
 refine TL.j z z (TL.en (TC.seq (TC.a (TL.w z (ao_ z hd_ fi_ z (i:=0) z z) ?_))))
 obtain ⟨v4,u4,hh⟩:=d4_ hh
 refine TL.op z (aw_ (Fn_ (x0:=x0) f0_0 f0_1 f0_2 f0_3 u4) z z pf18 z z z ?_)
 refine TL.w z (OpVal.not z z) (TL.en (TC.cB z hh (fun h103 hh=> ?_) (fun h103 hh=> ?_)))
 ·refine TC.a (TL.j z z (TL.en (TC.rt 0 (S.r ?_))))
  obtain rfl:=so hh
  exact rq [2] ⟨z,z,z⟩
 refine TC.skip (S.n (TC.a (TL.w z (ao_ z hd_ fi_ z (i:=0) z z) ?_)))
 obtain ⟨v8,u8,hh⟩:=d4_ hh
 refine TL.op z (OpOk.call (Fy_ (x0:=x0) hgl f0_0 f0_1 f0_2 f0_3 u8) z z pf29 z z z z ?_)
 rintro _ τ104 _ hle104 ⟨a104_1,c104_1,a104_2,c104_2,a104_3,c104_3,a104_4,c104_4,rfl,hr104_0,hr104_1,hr104_2,hr104_3,rfl⟩
 replace hgl:=hgl.mono hle104
 have hr104_0b:=hr104_0.big
 have hr104_1b:=hr104_1.big
 have hr104_2b:=hr104_2.rv.big
 have hr104_3b:=hr104_3.rv.big
 refine TL.w z (ba_ (.inl z) z) (TL.w z (OpVal.extract z z z) (TL.w z (OpVal.extract z z z) (TL.op z (OpOk.alloc z i0_ z z (fun b105=> ?_)))))
 refine TL.op z (storeAll z fi_ z z z z z z ?_)
 refine TL.i z z (TL.en (TC.seq (TC.a (TL.i z z (TL.w z (OpVal.neq z z z) (TL.en (TC.cD z hh (fun h107 hh=> ?_) (fun h107 hh=> ?_))))))))
 ·refine TC.a ?_
  obtain ⟨v17,u17,hh⟩:=d4_ hh
  refine TL.op z (aw_ (Dy_ hgl u17) z z pf30 z z z ?_)
  refine TL.j z z (TL.split 19 z (fun h108=> ?_) (fun h108=> ?_))
  ·replace hh:=ei_ h108 hh
   refine TL.g z (aa_ z ey_ z) (TL.g z (ab_ z hv_ z (i:=0) z z) (TL.g z (lenC z underlying27 z) (TL.g z (OpVal.eql z z z) (TL.w z (al_ z z z) (TL.j z z (TL.en (TC.a1_ (Sub.pre 0 z) (TC.back (TC.ret (S.r ?_))))))))))
   obtain rfl:=so hh
   exact rq [2] ⟨z,z,z⟩
  replace hh:=ej_ h108 hh
  refine TL.f z (TL.f z (TL.f z (TL.f z (TL.w z (ak_ z z z) (TL.j z z (TL.en (TC.a1_ (Sub.pre 0 z) (TC.back (TC.ret (S.r ?_))))))))))
  obtain rfl:=so hh
  exact rq [2] ⟨z,z,z⟩
 refine TC.skip (S.n (TC.a (TL.w z (aa_ z ey_ z) (TL.w z (ab_ z hv_ z (i:=0) z z) (TL.w z (lenC z underlying27 z) (TL.i z z (TL.en (TC.seq (TC.a (TL.i z z (TL.en (TC.block (TC.ap_ (α:=(Nat)×(Unit)) (rgs [(2,1),(6,2),(28,14)]) (fun g=>[(6,.int .i64 ((g.1:Nat):Int))]) (fun g=>[cq_ b105 v8.1 a104_1 c104_1 a104_2 c104_2 a104_3 c104_3 a104_4 c104_4]) (fun g=>τ104) (fun g=>ec_ (fun q:Nat=>Ae_ v8 q) g.1=some r) (fun g=>d7_ (fun q:Nat=>Ae_ v8 q) g.1) (0,()) (Sub.pre 1 z) z (by repeat (first|exact trivial|refine ⟨z,?_⟩)) hh (fun g1 j1 hg1=> ?_))))))))))))))
 obtain ⟨k111,_⟩:=g1
 have hh:=hg1;clear hg1
 try dsimp only
 obtain ⟨z1,hh,hR1⟩:=eb_ hh
 dsimp only [Ae_]at hh
 refine TC.seq (TC.a (TL.i z z (TL.i z z (TL.w z (OpVal.lss z z z) (TL.en (TC.cD z hh (fun h112 hh=> ?_) (fun h112 hh=> ?_)))))))
 ·refine TC.skip (S.n (TC.seq (TC.block (TC.a (TL.i z z (TL.en (TC.block (TC.ap_ (α:=(Nat)×(Unit)) (rgs [(2,1),(7,1),(33,9)]) (fun g=>[(7,.int .i64 ((g.1:Nat):Int))]) (fun g=>[cq_ b105 v8.1 a104_1 c104_1 a104_2 c104_2 a104_3 c104_3 a104_4 c104_4]) (fun g=>τ104) (fun g=>ec_ (fun q:Nat=>Ad_ k111 v8 q) g.1=some z1) (fun g=>d7_ (fun q:Nat=>Ad_ k111 v8 q) g.1) (0,()) (Sub.pre 1 z) z (by repeat (first|exact trivial|refine ⟨z,?_⟩)) hh (fun g2 j2 hg2=> ?_)))))))))
  obtain ⟨k115,_⟩:=g2
  have hh:=hg2;clear hg2
  try dsimp only
  obtain ⟨z2,hh,hR2⟩:=eb_ hh
  dsimp only [Ad_]at hh
  refine TC.seq (TC.a (TL.i z z (TL.i z z (TL.w z (OpVal.lss z z z) (TL.en (TC.cD z hh (fun h116 hh=> ?_) (fun h116 hh=> ?_)))))))
  ·refine TC.skip (S.n (TC.seq (TC.block (TC.a (TL.w z (ao_ z hd_ fi_ z (i:=0) z z) (TL.i z z (TL.i z z ?_)))))))
   obtain ⟨v40,u40,hh⟩:=d4_ hh
   refine TL.op z (aw_ (Fe_ (x0:=v8.1) hr104_0 hr104_1 hr104_2 hr104_3 u40) z z pf31 z z z ?_)
   refine TL.en (TC.cB z hh (fun h117 hh=> ?_) (fun h117 hh=> ?_))
   ·refine TC.a (TL.j z z (TL.en (TC.a1_ (Sub.pre 0 z) (TC.back (TC.ret (B.r (S.r (S.r ?_))))))))
    replace hh:=d9_ hR2 hh
    refine B.r (B.r (S.r (S.r ?_)))
    replace hh:=d9_ hR1 hh
    refine B.r (S.r ?_)
    obtain rfl:=so hh
    exact rq [2] ⟨z,z,z⟩
   refine TC.skip (B.n (S.n (TC.region (TL.i z z (TL.w z (OpVal.succ z z z (by omega)) (TL.i z z (TL.en ?_)))))))
   obtain ⟨hh,hlt118⟩:=en_ hR2 hh
   exact lf ((k115+1),()) hlt118 hh (Sub.pre 1 z)
  refine TC.exit (S.x (S.x ?_))
  replace hh:=d9_ hR2 hh
  refine TC.ad_ (B.n (S.n (TC.region (TL.i z z (TL.w z (OpVal.succ z z z (by omega)) (TL.i z z (TL.en ?_)))))))
  obtain ⟨hh,hlt119⟩:=en_ hR1 hh
  exact lf ((k111+1),()) hlt119 hh (Sub.pre 1 z)
 refine TC.exit (S.x (S.x ?_))
 replace hh:=d9_ hR1 hh
 refine TC.ad_ (S.n (TC.a ?_))
 obtain ⟨v48,u48,hh⟩:=d4_ hh
 refine TL.op z (aw_ (Dy_ hgl u48) z z pf30 z z z ?_)
 refine TL.j z z (TL.en (TC.a1_ (Sub.pre 0 z) (TC.back (TC.ret ?_))))
 obtain rfl:=so hh
 exact rq [2] ⟨z,z,z⟩
end Go.Proofs.YtchebnpdnfhenaaGreatDoor
end

noncomputable section
namespace Go.Proofs.YtchebnpdnfhenaaGreatDoor
open Go Go.E
theorem sc_{S R:Type}{step:S→Option (S⊕R)}{s:S}{X:Option R}(h:step s=fin X):ec_ step s=X:=by
  cases hx:X with
  |some x=>exact es_ (by rw [h,hx];rfl)
  |none=>
    cases hq:ec_ step s with
    |none=>rfl
    |some r=>
      obtain ⟨z,hz,_⟩:=eb_ hq
      rw [h,hx]at hz;cases hz
theorem t0_(l m:T_2):A1_ l m=some (decide (l=m)):=by
  by_cases e:l=m
  · subst e;rw [tp_,decide_eq_true rfl]
  unfold A1_
  rw [decide_eq_false e]
  by_cases hl:l.length=m.length
  rotate_left
  · rw [dv_ (by omega)]
  rw [dw_ (by omega)]
  have:=or_ (step:=fun k:Nat=>Aa_ l m k) (good:=true) (bad:=false) l.length (fun k=>decide (nth l k []=nth m k [])) (fun k hk hp=>by
    rw [decide_eq_true_eq]at hp
    show Aa_ l m k=_
    unfold Aa_
    rw [dv_ (by omega),dt_ (by omega),dw_ (fun h=>h hp)];rfl) (fun k hk hp=>by
    rw [decide_eq_false_iff_not]at hp
    show Aa_ l m k=_
    unfold Aa_
    rw [dv_ (by omega),dt_ (by omega),dv_ hp];rfl) (by
    show Aa_ l m l.length=_
    unfold Aa_
    rw [dw_ (by omega)];rfl)
  rw [this,if_neg]
  intro h
  exact e (ik_ [] hl fun i hi=>of_decide_eq_true (hs_.1 h i hi))
def z0_(l:List FPr)(x:FPr)(k:Nat):Bool:=(List.range l.length).any fun j=>decide (k≤j) && decide (nth l j FPr.zero=x)
theorem j7_{l:List FPr}{x:FPr}{k:Nat}:z0_ l x k=true↔ ∃j,k≤j∧j<l.length∧nth l j FPr.zero=x:=by
  unfold z0_
  rw [uv_]
  constructor
  · rintro ⟨j,h1,h2⟩
    rw [Bool.and_eq_true,decide_eq_true_eq,decide_eq_true_eq]at h2
    exact ⟨j,h2.1,h1,h2.2⟩
  rintro ⟨j,h1,h2,h3⟩
  exact ⟨j,h2,by rw [Bool.and_eq_true,decide_eq_true_eq,decide_eq_true_eq];exact ⟨h1,h3⟩⟩
theorem r6_ (l : List FPr) (b : Nat) (x : FPr) : ∀ (m k : Nat) (t : Bool), l.length - k = m → k ≤ l.length → ec_ (fun z : FPr × Bool × Nat => Ab_ l b z.1 z.2.1 z.2.2) (x, t, k) = Aq_ l b x (t || z0_ l x k)
  |0,k,t,hm,hk=>by
    have e:z0_ l x k=false:=Bool.eq_false_iff.2 fun h=>by obtain ⟨j,h1,h2,_⟩:=j7_.1 h;omega
    rw [e,Bool.or_false]
    refine sc_ ?_
    show Ab_ l b x t k=_
    unfold Ab_
    rw [dw_ (by omega)]
  | m + 1, k, t, hm, hk => by
    cases t with
    |true=>
      rw [Bool.true_or]
      refine sc_ ?_
      show Ab_ l b x true k=_
      unfold Ab_
      rw [dv_ (by omega),f3_]
    |false=>
      have h1:(fun z:FPr×Bool×Nat=>Ab_ l b z.1 z.2.1 z.2.2) (x,false,k)=some (.inl (x,decide (nth l k FPr.zero=x),k+1)):=by
        show Ab_ l b x false k=_
        unfold Ab_
        rw [dv_ (by omega),f4_];rfl
      rw [xa_ h1,r6_ l b x m (k+1) _ (by omega) (by omega)]
      congr 1
      rw [Bool.false_or,Bool.eq_iff_iff,Bool.or_eq_true,decide_eq_true_eq,j7_,j7_]
      constructor
      · rintro (h|⟨j,h2,h3,h4⟩)
        · exact ⟨k,Nat.le_refl _,by omega,h⟩
        exact ⟨j,by omega,h3,h4⟩
      rintro ⟨j,h2,h3,h4⟩
      by_cases c:j=k
      · subst c;exact .inl h4
      exact .inr ⟨j,by omega,h3,h4⟩
def yf_(n:Nat):List FPr:=(List.range n).flatMap fun a=>(List.range n).map fun b=>(⟨((a:Nat):Int),((b:Nat):Int)⟩:FPr)
theorem tb_(n:Nat):(yf_ n).length=n * n:=by
  have: ∀m:Nat,((List.range m).flatMap fun a=>(List.range n).map fun b=>(⟨((a:Nat):Int),((b:Nat):Int)⟩:FPr)).length=m * n:=fun m=>by
    induction m with
    |zero=>simp
    |succ m ih=>rw [List.range_succ,List.flatMap_append,List.length_append,ih,List.flatMap_singleton,List.length_map,List.length_range,Nat.succ_mul]
  exact this n
structure AlI (q:Seq) (i k:Nat) (l:List FPr):Prop where
  nd:l.Nodup
  rng: ∀x∈l,0≤x.p∧x.p<(q.next.length:Int)∧0≤x.q∧x.q<(q.next.length:Int)
  hd:0<l.length∧nth l 0 FPr.zero=⟨((i:Nat):Int),((k:Nat):Int)⟩
theorem AlI.le{q:Seq}{i k:Nat}{l:List FPr}(h:AlI q i k l):l.length≤q.next.length * q.next.length:=by
  have h2:=gf_ h.nd (m:=yf_ q.next.length) fun x hx=>by
    obtain ⟨h1,h2,h3,h4⟩:=h.rng x hx
    refine List.mem_flatMap.2 ⟨x.p.toNat,List.mem_range.2 (by omega),List.mem_map.2 ⟨x.q.toNat,List.mem_range.2 (by omega),?_⟩⟩
    rw [show ((x.p.toNat:Nat):Int)=x.p by omega,show ((x.q.toNat:Nat):Int)=x.q by omega]
  rw [tb_]at h2;exact h2
def prNx(q:Seq)(x:FPr)(b:Nat):FPr:=⟨nxQ q x.p.toNat b,nxQ q x.q.toNat b⟩
structure GoQ (q:Seq) (l:List FPr) (x:FPr) (b:Nat):Prop where
  neg: ∀c,c<b→(nxQ q x.p.toNat c<0↔nxQ q x.q.toNat c<0)
  mem: ∀c,c<b→0≤nxQ q x.p.toNat c→prNx q x c∈l
theorem alike_row {q : Seq} (hq : d0_ q = true) {i k : Nat} {l : List FPr} (h : AlI q i k l) {j : Nat} (hj : j < l.length) :
    ∃r,ec_ (fun z:(List FPr)×Nat=>Ac_ l j q z.1 z.2) (l,0)=some r∧(r= .inr false∨ ∃X,r= .inl (l++X,j+1)∧AlI q i k (l++X)∧GoQ q (l++X) (nth l j FPr.zero) 256):=by
  obtain ⟨q1,q2,q3,q4,q5⟩:=dz_ hq
  have hn2:q.next.length * q.next.length≤1024 * 1024:=Nat.mul_le_mul q1 q1
  obtain ⟨g1,g2,g3,g4⟩:=h.rng _ (e9_ FPr.zero hj)
  obtain ⟨s,hs⟩: ∃s:Nat,(nth l j FPr.zero).p=((s:Nat):Int):=⟨(nth l j FPr.zero).p.toNat,by omega⟩
  obtain ⟨t,ht⟩: ∃t:Nat,(nth l j FPr.zero).q=((t:Nat):Int):=⟨(nth l j FPr.zero).q.toNat,by omega⟩
  have hsn:s<q.next.length:=by omega
  have htn:t<q.next.length:=by omega
  have hp1:=(e5_ hq hsn).1
  have hp2:=(e5_ hq htn).1
  have hnx: ∀b,prNx q (nth l j FPr.zero) b=⟨nxQ q s b,nxQ q t b⟩:=fun b=>by unfold prNx;rw [hs,ht,Int.toNat_natCast,Int.toNat_natCast]
  have hgo: ∀{l':List FPr} {b:Nat},(∀c,c<b→(nxQ q s c<0↔nxQ q t c<0))→(∀c,c<b→0≤nxQ q s c→(⟨nxQ q s c,nxQ q t c⟩:FPr)∈l')→GoQ q l' (nth l j FPr.zero) b:=fun {l' b} a1 a2=>⟨fun c hc=>by rw [hs,ht,Int.toNat_natCast,Int.toNat_natCast];exact a1 c hc,fun c hc h0=>by rw [hs,Int.toNat_natCast]at h0;rw [hnx];exact a2 c hc h0⟩
  refine eg_ (step:=fun z:(List FPr)×Nat=>Ac_ l j q z.1 z.2) (fun z b=>(z,b)) 256 (fun b z=> ∃X,z=l++X∧AlI q i k z∧(∀c,c<b→(nxQ q s c<0↔nxQ q t c<0))∧ ∀c,c<b→0≤nxQ q s c→(⟨nxQ q s c,nxQ q t c⟩:FPr)∈z) _ ?_ ?_ (s0:=l) ⟨[],by simp,h,fun c hc=>absurd hc (Nat.not_lt_zero _),fun c hc=>absurd hc (Nat.not_lt_zero _)⟩
  · rintro b _ hb ⟨X,rfl,hA,a1,a2⟩
    have hl1:=ex_ hq hsn hb
    have hl2:=ex_ hq htn hb
    have hlen:=hA.le
    have e1:nth (nth q.next s []) b 0=nxQ q s b:=rfl
    have e2:nth (nth q.next t []) b 0=nxQ q t b:=rfl
    show (∃s',Ac_ l j q (l++X) b=some (.inl (s',b+1))∧_)∨ ∃r,Ac_ l j q (l++X) b=some (.inr r)∧_
    unfold Ac_
    rw [dv_ (by omega),hs,ht,Int.toNat_natCast,Int.toNat_natCast,dt_ (by omega),dt_ (by omega),dt_ (by omega),dt_ (by omega)]
    simp only [e1,e2]
    cases c:(decide (nxQ q s b<0) != decide (nxQ q t b<0))with
    |true=>
      right
      rw [iteO_true]
      exact ⟨_,rfl,.inl rfl⟩
    |false=>
      left
      have hsg:nxQ q s b<0↔nxQ q t b<0:=by
        have:=bne_eq_false_iff_eq.1 c
        rwa [decide_eq_decide]at this
      have hneg: ∀c,c<b+1→(nxQ q s c<0↔nxQ q t c<0):=fun c hc=>by
        by_cases e:c=b
        · rw [e];exact hsg
        exact a1 c (by omega)
      rw [iteO_false,r6_ (l++X) b ⟨nxQ q s b,nxQ q t b⟩ _ 0 _ rfl (Nat.zero_le _)]
      cases d:(decide (nxQ q s b<0) || z0_ (l++X) ⟨nxQ q s b,nxQ q t b⟩ 0)with
      |true=>
        unfold Aq_ Az_
        rw [f3_]
        refine ⟨l++X,rfl,X,rfl,hA,hneg,fun c hc h0=> ?_⟩
        by_cases e:c=b
        · subst e
          rw [Bool.or_eq_true,decide_eq_true_eq,j7_]at d
          rcases d with d|⟨j',_,d2,d3⟩
          · omega
          rw [←d3];exact e9_ _ d2
        exact a2 c (by omega) h0
      |false=>
        rw [Bool.or_eq_false_iff,decide_eq_false_iff_not]at d
        unfold Aq_ Az_
        rw [f4_,dt_ (by simp only [List.length_singleton];omega)]
        have hnm:(⟨nxQ q s b,nxQ q t b⟩:FPr)∉l++X:=fun hm=>by
          obtain ⟨j',h1,h2⟩:=List.getElem_of_mem hm
          have h3:z0_ (l++X) ⟨nxQ q s b,nxQ q t b⟩ 0=true:=j7_.2 ⟨j',Nat.zero_le _,h1,(hf_ _ h1 _).trans h2⟩
          rw [d.2]at h3;cases h3
        refine ⟨(l++X)++[⟨nxQ q s b,nxQ q t b⟩],rfl,X++[⟨nxQ q s b,nxQ q t b⟩],by rw [List.append_assoc],⟨?_,fun x hx=> ?_,by have:=hA.hd.1;rw [List.length_append];omega,by rw [f7_ hA.hd.1];exact hA.hd.2⟩,hneg,fun c hc h0=> ?_⟩
        · rw [List.nodup_append]
          refine ⟨hA.nd,List.pairwise_singleton _ _,fun a ha b' hb' e=> ?_⟩
          rw [List.mem_singleton]at hb'
          rw [e,hb']at ha;exact hnm ha
        · rcases List.mem_append.1 hx with hx|hx
          · exact hA.rng x hx
          rw [List.mem_singleton]at hx
          rw [hx]
          exact ⟨by show 0≤nxQ q s b;omega,hl1,by show 0≤nxQ q t b;omega,hl2⟩
        by_cases e:c=b
        · subst e;exact List.mem_append_right _ (List.mem_singleton.2 rfl)
        exact List.mem_append_left _ (a2 c (by omega) h0)
  rintro _ ⟨X,rfl,hA,a1,a2⟩
  refine ⟨.inl (l++X,j+1),?_,.inr ⟨X,rfl,hA,hgo a1 a2⟩⟩
  show Ac_ l j q (l++X) 256=_
  unfold Ac_
  rw [dw_ (by omega)];rfl
theorem w7_ {q : Seq} (h : CanQ q) {i k : Nat} (hi : i < q.next.length) (hk : k < q.next.length) (hne : i ≠ k) : B3_ q ((i : Nat) : Int) ((k : Nat) : Int) = some false := by
  have hq:=h.right
  obtain ⟨q1,q2,q3,q4,q5⟩:=dz_ hq
  unfold B3_
  obtain ⟨r,r1,r2⟩:=l0_ (step:=fun z:(List FPr)×Nat=>Al_ q z.1 z.2) (fun z=>AlI q i k z.1∧z.2≤z.1.length∧ ∀j,j<z.2→LikeQ q (nth z.1 j FPr.zero).p.toNat (nth z.1 j FPr.zero).q.toNat∧GoQ q z.1 (nth z.1 j FPr.zero) 256) (fun z=>q.next.length * q.next.length+1 - z.2) (fun r=>r=false) (by
    rintro ⟨l,j⟩ ⟨hA,hle,hD⟩
    simp only at hA hle hD
    have hlen:=hA.le
    show (∃t',Al_ q l j=some (.inl t')∧_∧_)∨ ∃r,Al_ q l j=some (.inr r)∧_
    by_cases c:j<l.length
    rotate_left
    · exfalso
      have hj:j=l.length:=by omega
      subst hj
      have hall: ∀s t,s<q.next.length→t<q.next.length→(⟨((s:Nat):Int),((t:Nat):Int)⟩:FPr)∈l→LikeQ q s t∧ ∀b,b<256→0≤nxQ q s b→(⟨nxQ q s b,nxQ q t b⟩:FPr)∈l:=fun s t _ _ hm=>by
        obtain ⟨a,a1,a2⟩:=List.getElem_of_mem hm
        have:=hD a a1
        rw [hf_ _ a1,a2]at this
        exact ⟨this.1,fun b hb h0=>this.2.mem b hb h0⟩
      refine hne (h.apart i k hi hk (funext fun w=>zp_ (n:=q.next.length) (fun s b hs hb=>ex_ hq hs hb) (R:=fun s t=>(⟨((s:Nat):Int),((t:Nat):Int)⟩:FPr)∈l) (fun s t hs ht hm=>(hall s t hs ht hm).1) (fun s t b hs ht hm hb h0=> ?_) w i k hi hk ?_))
      · obtain ⟨a1,a2⟩:=hall s t hs ht hm
        have:=a2 b hb h0
        have hg:=a1.neg b hb
        rw [show (((nxQ q s b).toNat:Nat):Int)=nxQ q s b by omega,show (((nxQ q t b).toNat:Nat):Int)=nxQ q t b by omega]
        exact this
      rw [←hA.hd.2];exact e9_ _ hA.hd.1
    obtain ⟨g1,g2,g3,g4⟩:=hA.rng _ (e9_ FPr.zero c)
    unfold Al_
    rw [dv_ (by omega),dt_ (by omega),dt_ (by omega)]
    cases d1:(nth q.fin (nth l j FPr.zero).p.toNat false != nth q.fin (nth l j FPr.zero).q.toNat false)with
    |true=>rw [iteO_true];exact .inr ⟨_,rfl,rfl⟩
    |false=>
      rw [iteO_false,dt_ (by omega),dt_ (by omega)]
      by_cases d2:nth q.tail (nth l j FPr.zero).p.toNat []≠nth q.tail (nth l j FPr.zero).q.toNat []
      · rw [dv_ d2];exact .inr ⟨_,rfl,rfl⟩
      rw [dw_ d2,dt_ (by omega),dt_ (by omega),t0_,ea_]
      by_cases d3:nth q.outs (nth l j FPr.zero).p.toNat []=nth q.outs (nth l j FPr.zero).q.toNat []
      rotate_left
      · rw [decide_eq_false d3,f4_];exact .inr ⟨_,rfl,rfl⟩
      rw [decide_eq_true d3,f3_]
      obtain ⟨r,k1,k2⟩:=alike_row hq hA c
      rw [k1]
      rcases k2 with rfl|⟨X,rfl,k3,k4⟩
      · exact .inr ⟨_,rfl,rfl⟩
      left
      refine ⟨_,rfl,⟨k3,by show j+1≤(l++X).length;rw [List.length_append];omega,fun a ha=> ?_⟩,?_⟩
      · have ha:a<j+1:=ha
        show LikeQ q (nth (l++X) a FPr.zero).p.toNat (nth (l++X) a FPr.zero).q.toNat∧GoQ q (l++X) (nth (l++X) a FPr.zero) 256
        rw [f7_ (by omega)]
        by_cases e:a=j
        · subst e
          exact ⟨⟨bne_eq_false_iff_eq.1 d1,Classical.not_not.1 d2,k4.neg,fun b _=>by unfold otQ;rw [d3]⟩,k4⟩
        obtain ⟨b1,b2⟩:=hD a (by omega)
        exact ⟨b1,b2.neg,fun c hc h0=>List.mem_append_left _ (b2.mem c hc h0)⟩
      show q.next.length * q.next.length+1 - (j+1)<q.next.length * q.next.length+1 - j
      omega) (t:=([⟨((i:Nat):Int),((k:Nat):Int)⟩],0)) ⟨⟨List.pairwise_singleton _ _,fun x hx=>by rw [List.mem_singleton]at hx;rw [hx];exact ⟨by show 0≤((i:Nat):Int);omega,by show ((i:Nat):Int)<_;omega,by show 0≤((k:Nat):Int);omega,by show ((k:Nat):Int)<_;omega⟩,by simp,rfl⟩,Nat.zero_le _,fun j hj=>absurd hj (Nat.not_lt_zero _)⟩
  rw [←r2];exact r1
theorem q4_ (q : Seq) : Bw_ q = some true := by
  unfold Bw_
  obtain ⟨b,hb,_⟩:=fewQ q
  rw [hb,ea_]
  cases b with
  |false=>rw [f4_]
  |true=>
    obtain ⟨p,r,_,h2,h3,h4⟩:=yj_ q
    rw [f3_,h3,ea_]
    by_cases c:r.2=0
    rotate_left
    · have e:=(MinR.err' h2 h4).2 c
      rw [dv_ c,vj_,ea_,iteO_true,e];rfl
    rw [dw_ (fun h=>h c)]
    have hc:=(h4.can h2 c).1
    obtain ⟨x,x1,rfl⟩:=eg_ (step:=fun z:Nat=>Ae_ r z) (fun (_:Unit) i=>i) r.1.next.length (fun _ _=>True) (fun x=>x=true) (fun i _ hi _=>by
      left
      show ∃_s:Unit,Ae_ r i=some (.inl (i+1))∧True
      refine ⟨(),?_,trivial⟩
      unfold Ae_
      rw [dv_ (by omega)]
      obtain ⟨y,y1,rfl⟩:=eg_ (step:=fun z:Nat=>Ad_ i r z) (fun (_:Unit) k=>k) i (fun _ _=>True) (fun y=>y= .inl (i+1)) (fun k _ hk _=>by
        left
        show ∃_s:Unit,Ad_ i r k=some (.inl (k+1))∧True
        refine ⟨(),?_,trivial⟩
        unfold Ad_
        rw [dv_ (by omega),w7_ hc hi (by omega) (by omega),ea_,iteO_false];rfl) (fun _ _=>by
        refine ⟨_,?_,rfl⟩
        show Ad_ i r i=_
        unfold Ad_
        rw [dw_ (by omega)];rfl) (s0:=()) trivial
      exact y1) (fun _ _=>by
      refine ⟨_,?_,rfl⟩
      show Ae_ r r.1.next.length=_
      unfold Ae_
      rw [dw_ (by omega),vj_,ea_];rfl) (s0:=()) trivial
    exact x1
end Go.Proofs.YtchebnpdnfhenaaGreatDoor
end

noncomputable section
namespace Go.E
open Go Go.RowKit
def gr_(w:World):ds_:=fun b=>w.heap[b]?
theorem rg_(w:World):Reach w [] (gr_ w) (gr_ w) w []:=
  ⟨rfl,rfl,rfl,Nat.le_refl _,fun _ _ _=>rfl,ds_.le.refl _,fun _ _ h=>h,fun _ _ h=> .inl h,by simp,by simp,by simp [e6_],by simp,Nat.le_refl _⟩
theorem tk_(w:World)(a:Addr):(gr_ w).cell a=w.cell? a:=by
  unfold ds_.cell World.cell? gr_
  cases w.heap[a.block]? with
  |none=>rfl
  |some o=>cases o<;>rfl
theorem Con.below{P:Program}{f:FuncId}{args:Array Value}{w:World}{v:Value}(h:Con P f args (gr_ w) [] (e2_ v (gr_ w))):
    Calls P f args w fun e w'=>e= .returned v∧Below w.heap.size w w':=
  (h w (rg_ w)).mono fun e w' ⟨r,σ',H',he,⟨h1,h2,h3⟩,k⟩=>⟨by rw [he,h1],⟨k.os,k.tape,k.output,k.size,fun i hi=>k.frame i hi (by simp)⟩⟩
def iv_(l:List Nat):Prop:= ∀x∈l,x≤140737488351232
theorem iv_.left{a b:List Nat}(h:iv_ (a++b)):iv_ a:=fun x hx=>h x (List.mem_append_left _ hx)
theorem iv_.right{a b:List Nat}(h:iv_ (a++b)):iv_ b:=fun x hx=>h x (List.mem_append_right _ hx)
theorem xe_{l:List Nat}(h:l.all (· ≤reachBytes)=true):iv_ l:=fun x hx=>by
  have:=List.all_eq_true.1 h x hx
  exact of_decide_eq_true this
def Opn(P:Program)(w:World)(T:TypeId){α:Type}(ok:List Value→α→Prop):Prop:=
  ∀{H:Type} (enc:TypeId×Value→H) (held:Bool) (fuel:Nat) (cs:List Value) (d:DataW H) (ps:List MemPlace),DataW.trod enc P w 0 (fun _=>true) held fuel T cs=some (d,ps)→iv_ (DataW.weights P T d)→ ∃x,ok cs x
section
variable {P:Program} {w:World} {T E:TypeId}
theorem Opn.mono{α β:Type}{ok:List Value→α→Prop}{ok':List Value→β→Prop}(h:Opn P w T ok)(f:α→β)(hf: ∀cs x,ok cs x→ok' cs (f x)):Opn P w T ok':=fun enc held fuel cs d ps ht hs=>
  let ⟨x,hx⟩:=h enc held fuel cs d ps ht hs;⟨f x,hf cs x hx⟩
theorem Opn.int{k:IntKind}(hT:P.underlying T=some (.int k)):Opn P w T (fun cs (x:Int)=>cs=[.int k x]∧(Lit.int k x).wf=true):=fun enc held fuel cs d ps ht _=>by
  obtain ⟨n,h,_,hw⟩:=DataW.trod_int hT ht
  exact ⟨n,h,hw⟩
theorem Opn.bool(hT:P.underlying T=some .bool):Opn P w T (fun cs (x:Bool)=>cs=[.bool x]):=fun enc held fuel cs d ps ht _=>by
  obtain ⟨n,h,_⟩:=DataW.trod_bool hT ht
  exact ⟨n,h⟩
theorem Opn.str(hT:P.underlying T=some .string):Opn P w T (fun cs (x:List UInt8)=>cs=[.string (bs x)]∧x.length≤140737488351232):=fun enc held fuel cs d ps ht hs=>by
  obtain ⟨s,h,hx,hw⟩:=DataW.trod_string hT ht
  simp only [Prod.mk.injEq]at hx
  obtain ⟨rfl,rfl⟩:=hx
  exact ⟨s.data.toList,by rw [h,←bs_of],hs _ (by simp [DataW.weights])⟩
theorem jl_ {α β : Type} {f : α → Option β} : ∀ {l : List α} {r : List β}, l.mapM f = some r → r.length = l.length ∧ ∀ (i : Nat) (x : α), l[i]? = some x → ∃ y : β, r[i]? = some y ∧ f x = some y
  |[],r,h=>by simp at h;subst h;exact ⟨rfl,fun i x hx=>by simp at hx⟩
  | a :: l, r, h => by
    rw [List.mapM_cons]at h
    cases hf:f a with
    |none=>rw [hf]at h;cases h
    |some y=>
      cases hm:l.mapM f with
      |none=>rw [hf,hm]at h;cases h
      |some r'=>
        rw [hf,hm]at h
        cases h
        obtain ⟨h1,h2⟩:=jl_ hm
        refine ⟨by simp [h1],fun i x hx=> ?_⟩
        cases i with
        |zero=>simp at hx;subst hx;exact ⟨y,rfl,hf⟩
        |succ i=>simp at hx;simpa using h2 i x hx
theorem n8_{H:Type}{ts:List TypeId}{ds:List (DataW H)}{i:Nat}{t:TypeId}{d:DataW H}(ht:ts[i]? =some t)(hd:ds[i]? =some d)(hs:iv_ (DataW.weightsEach P ts ds)):iv_ (DataW.weights P t d):=by
  induction ts generalizing i ds with
  |nil=>simp at ht
  |cons t' ts ih=>
    cases ds with
    |nil=>simp at hd
    |cons d' ds=>
      simp only [DataW.weightsEach]at hs
      cases i with
      |zero=>simp at ht hd;subst ht hd;exact hs.left
      |succ i=>simp at ht hd;exact ih ht hd hs.right
theorem ji_{H:Type}{ds:List (DataW H)}{i:Nat}{d:DataW H}(hd:ds[i]? =some d)(hs:iv_ (DataW.weightsAll P E ds)):iv_ (DataW.weights P E d):=by
  induction ds generalizing i with
  |nil=>simp at hd
  |cons d' ds ih=>
    simp only [DataW.weightsAll]at hs
    cases i with
    |zero=>simp at hd;subst hd;exact hs.left
    |succ i=>simp at hd;exact ih hd hs.right
theorem rv_{H:Type}{enc:TypeId×Value→H}{held:Bool}{fuel:Nat}{cs:List Value}{d:DataW H}{ps:List MemPlace}{fs:Array Field}(hT:P.underlying T=some (.struct fs))(h:DataW.trod enc P w 0 (fun _=>true) held fuel T cs=some (d,ps))(hs:iv_ (DataW.weights P T d)):
    cs.length=P.cellsOf T∧ ∀(i:Nat) (f:Field) {α:Type} {ok:List Value→α→Prop},fs.toList[i]? =some f→Opn P w f.type ok→ ∃x,ok ((cs.drop f.offset).take (P.cellsOf f.type)) x:=by
  cases fuel with
  |zero=>simp [DataW.trod]at h
  |succ fuel=>
    unfold DataW.trod at h
    rw [hT]at h
    simp only at h
    split at h
    · rename_i hl
      refine ⟨hl,fun i f α ok hf ho=> ?_⟩
      rw [Option.map_eq_some_iff]at h
      obtain ⟨xs,h1,h2⟩:=h
      simp only [Prod.mk.injEq]at h2
      obtain ⟨rfl,rfl⟩:=h2
      obtain ⟨h3,h4⟩:=jl_ h1
      obtain ⟨y,h5,h6⟩:=h4 i f hf
      refine ho enc held fuel _ y.1 y.2 h6 ?_
      simp only [DataW.weights,hT]at hs
      exact n8_ (i:=i) (by simp [hf]) (by simp [h5]) hs
    cases h
theorem t1_{H:Type}{enc:TypeId×Value→H}{held:Bool}{fuel n:Nat}{cs:List Value}{d:DataW H}{ps:List MemPlace}(hT:P.underlying T=some (.array n E))(h:DataW.trod enc P w 0 (fun _=>true) held fuel T cs=some (d,ps))(hs:iv_ (DataW.weights P T d)):
    cs.length=P.cellsOf T∧ ∀(i:Nat) {α:Type} {ok:List Value→α→Prop},i<n→Opn P w E ok→ ∃x,ok ((cs.drop (i * P.cellsOf E)).take (P.cellsOf E)) x:=by
  cases fuel with
  |zero=>simp [DataW.trod]at h
  |succ fuel=>
    unfold DataW.trod at h
    rw [hT]at h
    simp only at h
    split at h
    · rename_i hl
      refine ⟨hl,fun i α ok hi ho=> ?_⟩
      rw [Option.map_eq_some_iff]at h
      obtain ⟨xs,h1,h2⟩:=h
      simp only [Prod.mk.injEq]at h2
      obtain ⟨rfl,rfl⟩:=h2
      obtain ⟨h3,h4⟩:=jl_ h1
      obtain ⟨y,h5,h6⟩:=h4 i i (by rw [List.getElem?_range hi])
      refine ho enc held fuel _ y.1 y.2 h6 ?_
      simp only [DataW.weights,hT]at hs
      exact ji_ (i:=i) (by simp [h5]) hs
    cases h
theorem list4{cs:List Value}(h:cs.length=4): ∃a b c d,cs=[a,b,c,d]:=by
  match cs,h with
  |[a,b,c,d],_=>exact ⟨a,b,c,d,rfl⟩
theorem sf_{x:Int}(h:(Lit.int .u64 x).wf=true): ∃n:Nat,x=(n:Int)∧n<18446744073709551616:=by
  have h1:IntKind.u64.min=0:=rfl
  have h2:IntKind.u64.max=18446744073709551615:=rfl
  simp only [Lit.wf,Bool.and_eq_true,decide_eq_true_eq,h1,h2]at h
  exact ⟨x.toNat,by omega,by omega⟩
theorem Opn.set(hT:P.underlying T=some (.array 4 E))(hE:P.underlying E=some (.int .u64))(hc:P.cellsOf T=4)(he:P.cellsOf E=1):Opn P w T (fun cs (s:BSet)=>cs=(setA s).toList):=fun enc held fuel cs d ps ht hs=>by
  obtain ⟨hl,hp⟩:=t1_ hT ht hs
  rw [hc]at hl
  obtain ⟨a,b,c,d,rfl⟩:=list4 hl
  rw [he]at hp
  obtain ⟨x0,h0,w0⟩:=hp 0 (by omega) (Opn.int hE)
  obtain ⟨x1,h1,w1⟩:=hp 1 (by omega) (Opn.int hE)
  obtain ⟨x2,h2,w2⟩:=hp 2 (by omega) (Opn.int hE)
  obtain ⟨x3,h3,w3⟩:=hp 3 (by omega) (Opn.int hE)
  simp at h0 h1 h2 h3
  subst h0 h1 h2 h3
  obtain ⟨n0,rfl,l0⟩:=sf_ w0
  obtain ⟨n1,rfl,l1⟩:=sf_ w1
  obtain ⟨n2,rfl,l2⟩:=sf_ w2
  obtain ⟨n3,rfl,l3⟩:=sf_ w3
  exact ⟨⟨n0,n1,n2,n3,l0,l1,l2,l3⟩,rfl⟩
theorem us_{a:Addr}{n:Nat}{cs:List Value}(h:w.cells? 0 a n=some cs):cs.length=n∧ ∀j u,cs[j]? =some u→w.cell? (a.add j)=some u:=by
  unfold World.cells? at h
  rw [if_pos (Nat.zero_le _)]at h
  obtain ⟨h1,h2⟩:=jl_ h
  rw [List.length_range]at h1
  refine ⟨h1,fun j u hj=> ?_⟩
  have hlt:j<n:=by have:=(List.getElem?_eq_some_iff.1 hj).1;omega
  obtain ⟨y,h3,h4⟩:=h2 j j (by rw [List.getElem?_range hlt])
  rw [hj]at h3;cases h3;exact h4
theorem ju_(cs:List Value)(a b:Nat):(cs.drop a).take b++cs.drop (a+b)=cs.drop a:=by
  rw [←List.drop_drop];exact List.take_append_drop b (cs.drop a)
theorem Opn.arg{H:Type}{enc:TypeId×Value→H}{α:Type}{ok:List Value→α→Prop}(h:Opn P w T ok){v:Value}{d:DataW H}{ps:List MemPlace}(hd:DataW.Trod enc P w 0 (fun _=>true) true T v d ps)(hs:iv_ (DataW.weights P T d)): ∃x,ok v.cells.toList x:=by
  obtain ⟨fuel,hf⟩:=hd
  exact h enc true fuel _ d ps hf hs
theorem tq_{r:Go.Reach}{b0:Nat}{v:Value}{t:TypeDesc}(hT:P.underlying T=some t)(ht:(∃fs,t= .struct fs)∨ ∃n e,t= .array n e)(h:Value.okWide P w r b0 T v): ∃cs,v= .agg cs:=by
  unfold Value.okWide at h
  rw [hT]at h
  rcases ht with ⟨fs,rfl⟩|⟨n,e,rfl⟩
  · obtain ⟨cs,h1,_⟩:=h;exact ⟨cs,h1⟩
  obtain ⟨cs,h1,_⟩:=h;exact ⟨cs,h1⟩
theorem agg_of{cs:Array Value}{l:List Value}(h:(Value.agg cs).cells.toList=l):Value.agg cs= .agg l.toArray:=by
  subst h;simp [Value.cells]
theorem Opn.ct_ {α : Type} {enc0 : α → List Value} {size : Nat} {good : α → Prop} (hT : P.underlying T = some (.slice E)) (hE : Opn P w E (fun cs x => cs = enc0 x ∧ good x)) (hc : P.cellsOf E = size) (hb : 0 < P.bytesOf E) (hl : ∀ x, (enc0 x).length = size) (h1 : ∀ x, ∀ u ∈ enc0 x, u.oneCell' = true) :
    Opn P w T (fun cs (l:List α)=> ∃a c,cs=[.slice a l.length c]∧RS (gr_ w) size enc0 (.slice a l.length c) l∧ ∀x∈l,good x):=fun enc held fuel cs d ps ht hs=>by
  cases fuel with
  |zero=>simp [DataW.trod]at ht
  |succ fuel=>
    unfold DataW.trod at ht
    rw [hT]at ht
    split at ht
    all_goals (first|(rename_i he;cases he;done)|(rename_i he _;cases he;done)|(cases ht;done)|skip)
    · exact ⟨[],none,0,rfl,RS.nilF _ _ hl,by simp⟩
    rename_i e a len cap he
    cases he
    split at ht
    · rename_i hcap
      rw [Option.bind_eq_some_iff]at ht
      obtain ⟨elems,h2,h3⟩:=ht
      simp only [if_true]at h3
      rw [Option.map_eq_some_iff]at h3
      obtain ⟨rest,h4,h5⟩:=h3
      simp only [Prod.mk.injEq]at h5
      obtain ⟨rfl,rfl⟩:=h5
      simp only [DataW.weights,hT]at hs
      have hw0:=hs _ (List.mem_cons_self ..)
      obtain ⟨e1,e2⟩:=jl_ h2
      rw [List.length_range]at e1
      simp only [List.length_map]at hw0
      have hlen:len≤140737488351232:=by
        have:len * 1≤(elems.length+rest.length) * P.bytesOf E:=Nat.mul_le_mul (by omega) hb
        omega
      have hx: ∀i,i<len→ ∃x:α,w.cells? 0 (a.add (i * size)) size=some (enc0 x)∧good x:=fun i hi=>by
        obtain ⟨y,h6,h7⟩:=e2 i i (by rw [List.getElem?_range hi])
        rw [hc,Option.bind_eq_some_iff]at h7
        obtain ⟨cs,h8,h9⟩:=h7
        have hsm:iv_ (DataW.weights P E y.1):=ji_ (i:=i) (ds:=elems.map (·.1)) (by simp [h6]) (fun x hx=>hs x (List.mem_cons_of_mem _ (List.mem_append_left _ hx)))
        obtain ⟨x,rfl,hg⟩:=hE enc held fuel cs y.1 y.2 h9 hsm
        exact ⟨x,h8,hg⟩
      have hlist: ∀n,n≤len→ ∃l:List α,l.length=n∧(∀i x,l[i]? =some x→w.cells? 0 (a.add (i * size)) size=some (enc0 x))∧ ∀x∈l,good x:=by
        intro n
        induction n with
        |zero=>intro _;exact ⟨[],rfl,fun i x h=>(by simp at h),by simp⟩
        |succ n ih=>
          intro hn
          obtain ⟨l,g1,g2,g3⟩:=ih (by omega)
          obtain ⟨x,hx,hgx⟩:=hx n (by omega)
          refine ⟨l++[x],by simp [g1],fun i y hy=> ?_,fun y hy=>by
            rw [List.mem_append,List.mem_singleton]at hy
            rcases hy with hy|rfl
            · exact g3 y hy
            exact hgx⟩
          rw [List.getElem?_append]at hy
          split at hy
          · exact g2 i y hy
          rename_i hi
          have:i=n:=by
            have:=(List.getElem?_eq_some_iff.1 hy).1
            simp at this;omega
          subst this
          simp [g1]at hy;subst hy;exact hx
      obtain ⟨l,g1,g2,g3⟩:=hlist len (Nat.le_refl _)
      subst g1
      refine ⟨l,some a,cap,rfl,⟨⟨⟨_,_,rfl,by simp,hcap.2.1⟩,d3_ hl l,?_,fun u hu=> ?_,by omega⟩,hl⟩,g3⟩
      · intro a' m c' hv j u hj
        cases hv
        rw [tk_]
        by_cases h0:size=0
        · have:(l.flatMap enc0).length=0:=by rw [d3_ hl,h0,Nat.mul_zero]
          rw [List.getElem?_eq_none (by omega)]at hj;cases hj
        have hpos:0<size:=Nat.pos_of_ne_zero h0
        have hjl:j<l.length * size:=by have:=(List.getElem?_eq_some_iff.1 hj).1;rwa [d3_ hl]at this
        have hq:j / size<l.length:=by rw [Nat.div_lt_iff_lt_mul hpos];exact hjl
        have hr:j % size<size:=Nat.mod_lt _ hpos
        have hx:=g2 (j / size) l[j / size] (List.getElem?_eq_getElem hq)
        have hj':j=j / size * size+j % size:=by rw [Nat.mul_comm];exact (Nat.div_add_mod j size).symm
        rw [hj',fs_ hl l _ _ _ (List.getElem?_eq_getElem hq) hr]at hj
        have:=(us_ hx).2 _ _ hj
        rw [i9_]at this
        rw [hj'];exact this
      rw [List.mem_flatMap]at hu
      obtain ⟨x,_,hx⟩:=hu
      exact h1 x u hx
    cases ht
theorem Opn.slice{α:Type}{enc0:α→List Value}{size:Nat}(hT:P.underlying T=some (.slice E))(hE:Opn P w E (fun cs x=>cs=enc0 x))(hc:P.cellsOf E=size)(hb:0<P.bytesOf E)(hl: ∀x,(enc0 x).length=size)(h1: ∀x, ∀u∈enc0 x,u.oneCell'=true):
    Opn P w T (fun cs (l:List α)=> ∃a c,cs=[.slice a l.length c]∧RS (gr_ w) size enc0 (.slice a l.length c) l):=
  Opn.mono (Opn.ct_ (good:=fun _=>True) hT (Opn.mono hE id fun _ _ h=>⟨h,trivial⟩) hc hb hl h1) id fun _ _ ⟨a,c,h,k,_⟩=>⟨a,c,h,k⟩
def I64(x:Int):Prop:= -9223372036854775808≤x∧x≤9223372036854775807
theorem aad_{x:Int}(h:(Lit.int .i64 x).wf=true):I64 x:=by
  have h1:IntKind.i64.min= -9223372036854775808:=rfl
  have h2:IntKind.i64.max=9223372036854775807:=rfl
  simp only [Lit.wf,Bool.and_eq_true,decide_eq_true_eq,h1,h2]at h
  exact h
theorem Opn.int64(hT:P.underlying T=some (.int .i64)):Opn P w T (fun cs (x:Int)=>cs=[.int .i64 x]∧I64 x):=Opn.mono (Opn.int hT) id fun _ _ h=>⟨h.1,aad_ h.2⟩
theorem Opn.da_{α:Type}{K:Pk α}{good:α→Prop}(hT:P.underlying T=some (.slice E))(hE:Opn P w E (fun cs x=> ∃p,cs=K.enc x p∧K.ok (gr_ w) x p∧good x))(hc:P.cellsOf E=K.size)(hb:0<P.bytesOf E):
    Opn P w T (fun cs (l:List α)=> ∃a c,cs=[.slice a l.length c]∧RZ (gr_ w) K (.slice a l.length c) l∧ ∀x∈l,good x):=by
  have h:Opn P w T (fun cs (z:List (α×K.P))=> ∃a c,cs=[.slice a z.length c]∧RS (gr_ w) K.size K.en (.slice a z.length c) z∧ ∀m∈z,K.ok (gr_ w) m.1 m.2∧good m.1):=Opn.ct_ (P:=P) (w:=w) (T:=T) (E:=E) (α:=α×K.P) (enc0:=K.en) (size:=K.size) (good:=fun m=>K.ok (gr_ w) m.1 m.2∧good m.1) hT (fun enc held fuel cs d ps ht hs=>by
    obtain ⟨x,p,h1,h2,h3⟩:=hE enc held fuel cs d ps ht hs
    exact ⟨(x,p),h1,h2,h3⟩) hc hb K.bk_ K.c8_
  intro H enc held fuel cs d ps ht hs
  obtain ⟨z,a,c,h1,h2,h3⟩:=h enc held fuel cs d ps ht hs
  refine ⟨z.map Prod.fst,a,c,by rw [List.length_map];exact h1,⟨z,⟨rfl,fun m hm=>(h3 m hm).1⟩,by rw [List.length_map];exact h2⟩,fun x hx=> ?_⟩
  obtain ⟨m,hm,rfl⟩:=List.mem_map.1 hx
  exact (h3 m hm).2
end
end Go.E
end

noncomputable section
namespace Go.E
open Go Go.ChangeShapes Go.WideShapes
theorem pc_{α:Type}(l:List α)(i:Nat):((l.drop (i * 1)).take 1)=(l[i]?).toList:=by
  rw [Nat.mul_one]
  cases h:l[i]? with
  |none=>rw [List.drop_of_length_le (by simpa using h)];rfl
  |some x=>
    obtain ⟨hi,rfl⟩:=List.getElem?_eq_some_iff.1 h
    rw [List.drop_eq_getElem_cons hi];rfl
end Go.E
end

noncomputable section
namespace Go.E
open Go Go.ChangeShapes Go.WideShapes
theorem k2_{P:Program}{w:World}{n:String}{d:DataW Unit}: ∀{laid:List (String×DataW Unit)} {ps:List MemPlace},DataW.LaidVars P w laid ps→(n,d)∈laid→
    ∃g t cs fuel p,P.globalNamed n=some g∧(P.globals[g]?).map (·.type)=some t∧w.var? P n=some cs∧DataW.trod (fun _=>()) P w 0 (fun _=>true) false fuel t cs.toList=some (d,p)∧ ∀x∈MemPlace.row ⟨g,0,none⟩ cs.size,x∈ps
  |[],ps,_,hm=>by cases hm
  |(m,e)::r,ps,h,hm=>by
    obtain ⟨g,t,cs,fuel,p,q,h1,h2,h3,h4,h5,h6⟩:=h
    rcases List.mem_cons.1 hm with hm|hm
    · cases hm
      exact ⟨g,t,cs,fuel,p,h1,h2,h3,h4,fun x hx=>by rw [h6];exact List.mem_append_left _ (List.mem_append_left _ hx)⟩
    obtain ⟨g',t',cs',fuel',p',k1,k2,k3,k4,k5⟩:=k2_ h5 hm
    exact ⟨g',t',cs',fuel',p',k1,k2,k3,k4,fun x hx=>by rw [h6];exact List.mem_append_right _ (k5 x hx)⟩
def xs_{H:Type}(k:IntKind)(l:List Int):DataW H:= .agg (l.map fun z=> .lit (.int k z))
theorem nx_ {P : Program} {W : World} {laid : List (String × DataW Unit)} {name : String} {g T E : Nat} {k : IntKind} {l : List Int} (h : laidMetH P laid W) (hpl : (laid.all fun x => x.2.handleName?.isNone) = true) (hm : (name, xs_ k l) ∈ laid)
    (hg:P.globalNamed name=some g) (hT:(P.globals[g]?).map (·.type)=some T)
    (hu:P.underlying T=some (.array l.length E)) (hE:P.underlying E=some (.int k)) (hc:P.cellsOf E=1) (hcT:P.cellsOf T=l.length) (hl:0<l.length): ∃t,W.heap[g]? =some (.cells (l.map (Value.int k)).toArray t):=by
  rw [MakeChecks.laidMetH_plain _ _ _ hpl]at h
  obtain ⟨ps,hlv,_,hok⟩:=h
  obtain ⟨g0,t0,cs,fu,p,hg0,ht0,hv0,hd0,hps⟩:=k2_ hlv hm
  obtain rfl:=Option.some.inj (hg.symm.trans hg0)
  obtain rfl:=Option.some.inj (hT.symm.trans ht0)
  obtain ⟨xs,m,rfl,hx,hlen,hn,hel⟩:=DataW.trod_array hu hd0
  rw [hcT]at hlen
  have hx1:xs.map (·.1)=l.map fun z=>(.lit (.int k z):DataW Unit):=by
    have:=congrArg Prod.fst hx
    simp only [xs_,DataW.agg.injEq]at this
    exact this.symm
  have hcs:cs.toList=l.map (Value.int k):=by
    apply List.ext_getElem?
    intro i
    by_cases hi:i<l.length
    · have h1:=hel i hi
      rw [hc,pc_]at h1
      have hxi:i<xs.length:=by omega
      rw [List.getElem?_eq_getElem hxi]at h1
      obtain ⟨z,e1,e2,_⟩:=DataW.trod_int hE h1
      have h2:(xs.map (·.1))[i]? =some (.lit (.int k z)):=by rw [List.getElem?_map,List.getElem?_eq_getElem hxi,e2];rfl
      rw [hx1,List.getElem?_map,List.getElem?_eq_getElem hi]at h2
      simp only [Option.map_some,Option.some.injEq,DataW.lit.injEq,Lit.int.injEq,true_and]at h2
      have h3:cs.toList[i]? =some (.int k z):=by
        cases hz:cs.toList[i]? with
        |none=>rw [hz]at e1;cases e1
        |some y=>rw [hz]at e1;simp at e1;rw [e1]
      rw [h3,List.getElem?_map,List.getElem?_eq_getElem hi,←h2];rfl
    rw [List.getElem?_eq_none (by omega),List.getElem?_eq_none (by rw [List.length_map];omega)]
  have hmem:MemPlace.cell g 0∈ps:=by
    refine hps _ ?_
    simp only [MemPlace.row,List.mem_map,List.mem_range]
    exact ⟨0, by have : cs.size = l.length := by rw [← Array.length_toList, hlen]
                 omega,by simp⟩
  obtain ⟨⟨c,t,hb⟩,_⟩:=hok g 0 hmem
  refine ⟨t,?_⟩
  have hv:W.var? P name=some c:=by unfold World.var?;rw [hg];simp [hb]
  rw [hv0]at hv
  rw [hb,←Option.some.inj hv,←hcs]
theorem ww_{P:Program}{W:World}{laid:List (String×DataW Unit)}{n1 n2:String}{g1 g2 T1 E1 T2 E2:Nat}{d1 d2:DataW Unit}(h:laidMetH P laid W)(hpl:(laid.all fun x=>x.2.handleName?.isNone)=true)(m1:(n1,d1)∈laid)(m2:(n2,d2)∈laid)
    (e1:d1=xs_ .u8 (deB.map fun b=>((b.toNat:Nat):Int))) (e2:d2=xs_ .u64 (p10.map fun x=>((x:Nat):Int)))
    (hg1:P.globalNamed n1=some g1) (hT1:(P.globals[g1]?).map (·.type)=some T1) (hu1:P.underlying T1=some (.array 64 E1)) (hE1:P.underlying E1=some (.int .u8)) (hc1:P.cellsOf E1=1) (hcT1:P.cellsOf T1=64)
    (hg2:P.globalNamed n2=some g2) (hT2:(P.globals[g2]?).map (·.type)=some T2) (hu2:P.underlying T2=some (.array 20 E2)) (hE2:P.underlying E2=some (.int .u64)) (hc2:P.cellsOf E2=1) (hcT2:P.cellsOf T2=20):GT2 (gr_ W) g1 g2:=by
  subst e1 e2
  refine ⟨?_,?_⟩
  · obtain ⟨t,ht⟩:=nx_ h hpl m1 hg1 hT1 hu1 hE1 hc1 hcT1 (by decide)
    exact ⟨t,ht⟩
  obtain ⟨t,ht⟩:=nx_ h hpl m2 hg2 hT2 hu2 hE2 hc2 hcT2 (by decide)
  exact ⟨t,ht⟩
end Go.E
end

section
/- PushApart: for every input the law returns true, and each argument reads afterwards as it read before. No condition of ours. -/
namespace Go.Proofs.YtchebnpdnfhenaaGreatDoor
open Go Go.E Go.ChangeShapes Go.WideShapes Go.ChangeAt Go.RowKit
theorem pk_ : ownKnob Tryz.prog.godebug = none := by kernel_rfl
theorem kf_ : laidOutB Tryz.prog = true := by kernel_rfl
def fr_ : List (String × DataW Unit) := [("math/bits.deBruijn32tab", Rows.laid_math_bits_deBruijn32tab), ("math/bits.deBruijn64tab", Rows.laid_math_bits_deBruijn64tab), ("internal/strconv.uint64pow10", Rows.laid_internal_strconv_uint64pow10)]
theorem nm_ (os : Os) (args : Array Value) : laidMetH Tryz.prog fr_ ((World.doorLaid Tryz.prog 400 os).forCall (fun _ _ => 0) ⟨#[], args, []⟩).memory :=
  laidMetH_of_parts3 (fuel := 8) (laidMet_of_run' 8 (by kernel_rfl) (by kernel_rfl)) (by kernel_rfl) (by kernel_rfl)
theorem k8_ : Tryz.prog.cellsOf 3 = 1 := by kernel_rfl
theorem ld_ : Tryz.prog.cellsOf 4 = 1 := by kernel_rfl
theorem h4_ : Tryz.prog.cellsOf 9 = 1 := by kernel_rfl
theorem kt_ : Tryz.prog.cellsOf 27 = 1 := by kernel_rfl
theorem kj_ : Tryz.prog.cellsOf 28 = 1 := by kernel_rfl
theorem kp_ : Tryz.prog.cellsOf 29 = 1 := by kernel_rfl
theorem hu_ : Tryz.prog.cellsOf 30 = 1 := by kernel_rfl
theorem ku_ : Tryz.prog.cellsOf 32 = 5 := by kernel_rfl
theorem kd_ : Tryz.prog.cellsOf 86 = 1 := by kernel_rfl
theorem k9_ : Tryz.prog.bytesOf 3 = 8 := by kernel_rfl
theorem lh_ : Tryz.prog.bytesOf 4 = 1 := by kernel_rfl
theorem lb_ : Tryz.prog.bytesOf 9 = 16 := by kernel_rfl
theorem kb_ : Tryz.prog.bytesOf 30 = 24 := by kernel_rfl
theorem kl_ : Tryz.prog.bytesOf 86 = 24 := by kernel_rfl
theorem i3_ {w : World} : Opn Tryz.prog w 9 (fun cs (x : List UInt8) => cs = [.string (bs x)]) := Opn.mono (Opn.str Tryz.underlying9) id fun cs x h => h.1
theorem lg_ {w : World} : Opn Tryz.prog w 3 (fun cs (x : Int) => cs = [.int .i64 x] ∧ (I64 x)) := Opn.int64 Tryz.underlying3
theorem ks_ {w : World} : Opn Tryz.prog w 86 (fun cs (x : List Int) => ∃ (a0 : Option Addr) (c0 : Nat), cs = [.slice a0 x.length c0] ∧ RS (gr_ w) 1 eI_ (.slice a0 x.length c0) x ∧ (∀ q0 ∈ x, I64 q0)) := Opn.ct_ Tryz.underlying86 lg_ k8_ (by rw [k9_]; decide) d8_ hl_
theorem mc_ {w : World} : Opn Tryz.prog w 86 (fun cs (x : List Int) => ∃ p, cs = (dy_ 1 eI_ d8_).enc x p ∧ (dy_ 1 eI_ d8_).ok (gr_ w) x p ∧ ∀ q0 ∈ x, I64 q0) := Opn.mono ks_ id fun cs x h => by
  obtain ⟨a, c, h1, h2, h3⟩ := h
  exact ⟨(a, c), h1, h2, h3⟩
theorem mv_ {w : World} : Opn Tryz.prog w 27 (fun cs (x : List (List Int)) => ∃ (a0 : Option Addr) (c0 : Nat), cs = [.slice a0 x.length c0] ∧ RZ (gr_ w) (dy_ 1 eI_ d8_) (.slice a0 x.length c0) x) := Opn.mono (Opn.da_ (K := (dy_ 1 eI_ d8_)) Tryz.underlying27 mc_ kd_ (by rw [kl_]; decide)) id fun cs l ⟨a, c, h1, h2, _⟩ => ⟨a, c, h1, h2⟩
theorem ip_ {w : World} : Opn Tryz.prog w 30 (fun cs (x : List (List UInt8)) => ∃ (a0 : Option Addr) (c0 : Nat), cs = [.slice a0 x.length c0] ∧ RS (gr_ w) 1 eS_ (.slice a0 x.length c0) x) := Opn.slice Tryz.underlying30 i3_ h4_ (by rw [lb_]; decide) ed_ na_
theorem mo_ {w : World} : Opn Tryz.prog w 30 (fun cs (x : List (List UInt8)) => ∃ p, cs = (dy_ 1 eS_ ed_).enc x p ∧ (dy_ 1 eS_ ed_).ok (gr_ w) x p ∧ True) := Opn.mono ip_ id fun cs x h => by
  obtain ⟨a, c, h1, h2⟩ := h
  exact ⟨(a, c), h1, h2, trivial⟩
theorem l8_ {w : World} : Opn Tryz.prog w 28 (fun cs (x : List (List (List UInt8))) => ∃ (a0 : Option Addr) (c0 : Nat), cs = [.slice a0 x.length c0] ∧ RZ (gr_ w) (dy_ 1 eS_ ed_) (.slice a0 x.length c0) x) := Opn.mono (Opn.da_ (K := (dy_ 1 eS_ ed_)) Tryz.underlying28 mo_ hu_ (by rw [kb_]; decide)) id fun cs l ⟨a, c, h1, h2, _⟩ => ⟨a, c, h1, h2⟩
theorem nj_ {w : World} : Opn Tryz.prog w 4 (fun cs (x : Bool) => cs = [.bool x]) := Opn.bool Tryz.underlying4
theorem l7_ {w : World} : Opn Tryz.prog w 29 (fun cs (x : List Bool) => ∃ (a0 : Option Addr) (c0 : Nat), cs = [.slice a0 x.length c0] ∧ RS (gr_ w) 1 em_ (.slice a0 x.length c0) x) := Opn.slice Tryz.underlying29 nj_ ld_ (by rw [lh_]; decide) d5_ e1_
theorem m4_ {w : World} : Opn Tryz.prog w 32 (fun cs (x : Seq) => ∃ (a0 : Option Addr) (c0 : Nat), ∃ (a1 : Option Addr) (c1 : Nat), ∃ (a2 : Option Addr) (c2 : Nat), ∃ (a3 : Option Addr) (c3 : Nat), cs = [.string (bs x.front), .slice a0 x.next.length c0, .slice a1 x.outs.length c1, .slice a2 x.fin.length c2, .slice a3 x.tail.length c3] ∧ RZ (gr_ w) (dy_ 1 eI_ d8_) (.slice a0 x.next.length c0) x.next ∧ RZ (gr_ w) (dy_ 1 eS_ ed_) (.slice a1 x.outs.length c1) x.outs ∧ RS (gr_ w) 1 em_ (.slice a2 x.fin.length c2) x.fin ∧ RS (gr_ w) 1 eS_ (.slice a3 x.tail.length c3) x.tail) := by
  intro H enc held fuel cs d ps ht hs
  obtain ⟨hl, hp⟩ := rv_ Tryz.underlying32 ht hs
  rw [ku_] at hl
  obtain ⟨x0, h0⟩ := hp 0 _ rfl i3_
  replace h0 : (cs.drop 0).take (Tryz.prog.cellsOf 9) = [.string (bs x0)] := h0
  rw [h4_] at h0
  obtain ⟨x1, a1_a0, c1_c0, h1, f1_a0⟩ := hp 1 _ rfl mv_
  replace h1 : (cs.drop 1).take (Tryz.prog.cellsOf 27) = [.slice a1_a0 x1.length c1_c0] := h1
  rw [kt_] at h1
  obtain ⟨x2, a2_a0, c2_c0, h2, f2_a0⟩ := hp 2 _ rfl l8_
  replace h2 : (cs.drop 2).take (Tryz.prog.cellsOf 28) = [.slice a2_a0 x2.length c2_c0] := h2
  rw [kj_] at h2
  obtain ⟨x3, a3_a0, c3_c0, h3, f3_a0⟩ := hp 3 _ rfl l7_
  replace h3 : (cs.drop 3).take (Tryz.prog.cellsOf 29) = [.slice a3_a0 x3.length c3_c0] := h3
  rw [kp_] at h3
  obtain ⟨x4, a4_a0, c4_c0, h4, f4_a0⟩ := hp 4 _ rfl ip_
  replace h4 : (cs.drop 4).take (Tryz.prog.cellsOf 30) = [.slice a4_a0 x4.length c4_c0] := h4
  rw [hu_] at h4
  have e : cs = ((cs.drop 0).take 1 ++ ((cs.drop 1).take 1 ++ ((cs.drop 2).take 1 ++ ((cs.drop 3).take 1 ++ ((cs.drop 4).take 1 ++ cs.drop 5))))) := by
    rw [ju_ cs 4 1]; rw [ju_ cs 3 1]; rw [ju_ cs 2 1]; rw [ju_ cs 1 1]; rw [ju_ cs 0 1]; rfl
  rw [h0, h1, h2, h3, h4, List.drop_of_length_le (by omega)] at e
  exact ⟨⟨x0, x1, x2, x3, x4⟩, a1_a0, c1_c0, a2_a0, c2_c0, a3_a0, c3_c0, a4_a0, c4_c0, e, f1_a0, f2_a0, f3_a0, f4_a0⟩
set_option maxRecDepth 100000 in
theorem lc_ (os : Os) (started : os.Started) (H : Type) (enc : TypeId × Value → H) :
    ReturnsInHanded {} Tryz.checked os 8 .any (fun w args => (Rows.pushApartSpec.pre enc Tryz.prog Tryz.f8 [] false w args ∧ laidMetH Tryz.prog fr_ w) ∧ sizedMet enc Tryz.prog Tryz.f8 (OpenSpec.ofChange Rows.pushApartSpec) false w args)
      (Rows.pushApartSpec.post enc Tryz.prog Tryz.f8 false true false false) := by
  refine returnsInHanded_of_change_and (C := Tryz.checked) (X := fun w _ => laidMetH Tryz.prog fr_ w) (fun _ _ _ hh h => h.of_heap hh) pk_ started (by kernel_rfl) Tryz.func8
    (ChangeSpec.witness_shaped (enc := enc) (C := Tryz.checked) (os := os) (X := fun w _ => laidMetH Tryz.prog fr_ w) false (World.doorLaid Tryz.prog 400 os) #[.agg #[.string ⟨#[]⟩, .slice none 0 0, .slice none 0 0, .slice none 0 0, .slice none 0 0]] 8 rfl (World.shaped_of_RefB (by kernel_rfl) (by kernel_rfl)) (by kernel_rfl) (by kernel_rfl) (by kernel_rfl) (nm_ os _)) ?_
  intro W base args ds gs before hval0 hW _ hsz0 hL _
  have hgl := ww_ (P := Tryz.prog) (laid := fr_) (g1 := 1) (g2 := 2) (T1 := 266) (T2 := 274) (by exact hL) (by kernel_rfl) (List.mem_cons_of_mem _ (List.mem_cons_self ..)) (List.mem_cons_of_mem _ (List.mem_cons_of_mem _ (List.mem_cons_self ..))) (by kernel_rfl) (by kernel_rfl) (by kernel_rfl) (by kernel_rfl) (by exact Tryz.underlying266) Tryz.underlying5 (by kernel_rfl) (by kernel_rfl) (by kernel_rfl) (by kernel_rfl) (by exact Tryz.underlying274) Tryz.underlying62 (by kernel_rfl) (by kernel_rfl)
  have hsz1 : (DataW.weightsEach Tryz.prog (Tryz.f8.params.toList ++ Rows.pushApartSpec.plain.varTypes Tryz.prog) (ds ++ gs)).all (· ≤ reachBytes) = true := hsz0
  have hval : ∀ (j : Nat) t v, Tryz.f8.params[j]? = some t → args[j]? = some v → Value.okWide Tryz.prog W .any base t v := hval0
  have hW' := hW
  obtain ⟨p, q, hA0, hV, rfl, hfz, hnd⟩ := hW
  have hA : DataW.TrodAll enc Tryz.prog W 0 (fun _ => true) true Tryz.f8.params.toList args.toList ds p := hA0
  rw [Tryz.params8] at hA hval hsz1
  have hsm := xe_ hsz1
  obtain ⟨v0, vs0, d0, ds0, p0, q0, hargs, rfl, rfl, h0, r0⟩ := trodAll_cons hA
  obtain ⟨rfl, rfl, rfl⟩ := trodAll_nil r0
  obtain rfl : args = #[v0] := by cases args; simp_all
  obtain ⟨rfl, rfl⟩ := trodVars_none hV
  clear hA0 hval0 hsz0 hsz1
  have s0 := n8_ (P := Tryz.prog) (i := 0) rfl rfl hsm
  have k0 := h0
  have lt0 : ∀ x ∈ p0, x.block < W.heap.size := by obtain ⟨m, hm⟩ := k0; exact DataW.trod_lt m _ _ _ hm
  obtain ⟨n0, rfl⟩ := tq_ Tryz.underlying32 (.inl ⟨_, rfl⟩) (hval 0 32 v0 rfl rfl)
  obtain ⟨x0, a0_0, c0_0, a0_1, c0_1, a0_2, c0_2, a0_3, c0_3, e0, f0_0, f0_1, f0_2, f0_3⟩ := m4_.arg h0 s0
  replace e0 := agg_of e0
  have g0 : ∀ W', Below W.heap.size W W' → DataW.Trod enc Tryz.prog W' 0 (fun b => decide (b < W.heap.size)) true 32 _ d0 p0 := fun W' bel => Below.trod kf_ (by kernel_rfl) (of_decide_eq_true (by kernel_rfl)) k0 bel lt0
  have hcall : Calls Tryz.prog 8 #[.agg ([.string (bs x0.front), .slice a0_0 x0.next.length c0_0, .slice a0_1 x0.outs.length c0_1, .slice a0_2 x0.fin.length c0_2, .slice a0_3 x0.tail.length c0_3]).toArray] W fun e w' => e = .returned (.bool true) ∧ Below W.heap.size W w' := Con.below (Ey_ hgl f0_0 f0_1 f0_2 f0_3 (q4_ x0))
  have hcall2 : Calls Tryz.prog 8 #[(.agg n0)] W fun e w' => e = .returned (.bool true) ∧ Below W.heap.size W w' := by
    rw [e0]; exact hcall
  refine hcall2.mono fun e W' ⟨he, bel⟩ => ?_
  subst he
  exact ⟨_, rfl, _, _, _, [], _, [], hW', trodAll_mk1 (shut_bool Tryz.underlying4 _), (trodAll_cons_mk (g0 W' bel) trodAll_mk0), rfl, bel.frame _, fun h => by cases h⟩
theorem nn_ : Rows.pushApartRow.holds Tryz.pinned (OpenSpec.ofChange Rows.pushApartSpec) :=
  OpenClaim.holds_of_wide 8 Tryz.f8 rfl rfl rfl rfl rfl rfl rfl ⟨rfl, rfl, rfl, rfl, rfl⟩ rfl rfl rfl rfl rfl (by kernel_rfl) Tryz.func8 (by kernel_rfl)
    (of_decide_eq_true (by kernel_rfl)) (by unfold Func.isWrapper; first | (rw [if_pos (by decide +kernel)]; kernel_rfl) | (rw [if_neg (by decide +kernel)]; exact ⟨rfl, rfl⟩))
    (fun os started H enc _ => lc_ os started H enc)
theorem pushApart_row : Rows.PushApartSaid := nn_
#print axioms pushApart_row
theorem l9_ : ∀ (j : Nat) (t : TypeId), Tryz.f8.params[j]? = some t → Tryz.prog.wantsStandIn t = false := fun j t ht => by
  rw [Tryz.params8] at ht
  have hm : t ∈ [32] := by simpa using Array.mem_of_getElem? ht
  have hall : ([32].all fun u => !Tryz.prog.wantsStandIn u) = true := by kernel_rfl
  exact (show Tryz.prog.wantsStandIn t = false by simpa using List.all_eq_true.1 hall t hm)
theorem pushApart_holds : Rows.PushApartCardSaid :=
  Claim7.holds_tied_plain_at .later [] [.data, .data, .data] true (true, "f568851396d7a30d6bc57c5301dc3eaf4fd31757d6a99dca80f817a9aab275e4") true
    pushApart_row (fun _ h => by cases h) (by kernel_rfl) (fun _ h => by cases h) pushApart_row_tie rfl ⟨rfl, rfl⟩ (by kernel_rfl) rfl
    (fun f fn hf hfn => by
      obtain rfl : f = 8 := Option.some.inj ((show Tryz.prog.funcNamed "whittle/whittlelaw22.PushApart" = some 8 by kernel_rfl).symm.trans hf) |>.symm
      obtain rfl : fn = Tryz.f8 := (Option.some.inj (Tryz.func8.symm.trans hfn)).symm
      exact ⟨by kernel_rfl, l9_⟩)
    (by kernel_rfl)
#print axioms pushApart_holds
end Go.Proofs.YtchebnpdnfhenaaGreatDoor
end
