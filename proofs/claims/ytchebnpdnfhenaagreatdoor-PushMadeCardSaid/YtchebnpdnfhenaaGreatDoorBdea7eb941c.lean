/- Parts of a proof, one behind the other: what a machine reaches, functions decompiled, plain lemmas. Conditions stand with each lemma. -/
import Derived.Test.YtchebnpdnfhenaaGreatDoorBe54edaa7b1
import Derived.Test.YtchebnpdnfhenaaGreatDoorBc7c94354ed
import Derived.Test.YtchebnpdnfhenaaGreatDoorB49fafd953b
import Derived.Test.YtchebnpdnfhenaaGreatDoorBd5be553240
import Derived.Laws.Append
import Derived.KernelRfl

set_option linter.unusedVariables false
set_option linter.unusedSimpArgs false
set_option linter.unusedSectionVars false
set_option maxRecDepth 100000
set_option maxHeartbeats 8000000
variable {a0_0 a0_1 a0_2 a0_3 a0_5 a1_0 a1_1 a1_2 a1_3:Option Go.Addr}{Eb0 Eb1 Eb2 b0_0 b1_0 b2_0 c0_0 c0_1 c0_2 c0_3 c0_4 c0_6 c1_0 c1_1 c1_2 c1_3:Nat}

noncomputable section
namespace Go.Proofs.YtchebnpdnfhenaaGreatDoor
open Go Go.E
def z6_(t:T_1):T_1:=Lib.decDigits t.length++58::t
theorem rk_{t:T_1}(h:t.length≤4096):(z6_ t).length≤4200:=by
  have:=md_ (u:=t.length) (by omega)
  unfold z6_
  simp only [la_,List.length_cons];omega
theorem v6_{t u x y:T_1}(h:z6_ t++x=z6_ u++y):t=u∧x=y:=by
  unfold z6_ at h
  rw [ap_,ap_,List.cons_append,List.cons_append]at h
  obtain ⟨h1,h2⟩:=mn_ (iz_ _) (iz_ _) h
  exact List.append_inj h2 (q7_ h1)
theorem s1_{t b:T_1}(h:t.length≤4096)(hb:b.length≤1000000000):C2_ t ⟨b⟩=some ⟨b++z6_ t⟩:=by
  have hd:=md_ (u:=t.length) (by omega)
  unfold C2_
  rw [d3_ (by omega),d3_ (by omega),nm_ (by omega),tn_]
  show bnd (gz_ ⟨b⟩ _) _=_
  rw [qh_ _ _ (by omega) (by omega),ed_]
  show bnd (iv_ ⟨b++Lib.decDigits t.length⟩ 58) _=_
  rw [i5_ _ _ (by rw [la_];omega),ed_]
  show bnd (gz_ ⟨b++Lib.decDigits t.length++[58]⟩ t) _=_
  rw [qh_ _ _ (by omega) (by simp only [la_,lo_];omega),ed_]
  show some _=some _
  unfold z6_
  simp [ap_]
def l6_(q:Seq)(s b:Nat):T_1:=if 0≤nxQ q s b then 103::(Lib.decDigits b++58::z6_ (otQ q s b)) else []
def endK(q:Seq)(s:Nat):T_1:=if nth q.fin s false=true then 101::z6_ (nth q.tail s []) else []
def tf_(q:Seq)(s k:Nat):T_1:=(List.range k).flatMap (l6_ q s)
def lh_(q:Seq)(s:Nat):T_1:=endK q s++tf_ q s 256
theorem og_(q:Seq)(s k:Nat):tf_ q s (k+1)=tf_ q s k++l6_ q s k:=by
  unfold tf_;rw [List.range_succ,List.flatMap_append,List.flatMap_singleton]
theorem tv_{q:Seq}(hq:d9_ q=true){s b:Nat}(hs:s<q.next.length)(hb:b<256):(l6_ q s b).length≤5000:=by
  have h1:=rk_ (n9_ hq hs hb)
  have h2:=md_ (u:=b) (by omega)
  unfold l6_
  split
  · simp only [List.length_cons,la_];omega
  simp
theorem plain_eq {q : Seq} (hq : d9_ q = true) {s : Nat} (hs : s < q.next.length) : E5_ q ((s : Nat) : Int) = some (lh_ q s) := by
  obtain ⟨q1,q2,q3,q4,q5⟩:=d7_ hq
  obtain ⟨r1,r2⟩:=f7_ hq hs
  have hj: ∀E:T_1,E.length≤5000→C4_ ((s:Nat):Int) q E=some (E++tf_ q s 256):=fun E hE=>by
    unfold C4_
    rw [d3_ (by omega)]
    refine Exists.elim (er_ (step:=fun z:T_1×Nat=>Bl_ q ((s:Nat):Int) z.1 z.2) (fun z k=>(z,k)) 256 (fun k z=>z=E++tf_ q s k∧z.length≤5000 * (k+1)) (fun r=>r=E++tf_ q s 256) ?_ ?_ (s0:=E) ⟨by simp [tf_],by omega⟩) (fun r hh_=> ?_)
    · rintro k _ hk ⟨rfl,hl⟩
      left
      have hol:=n9_ hq hs hk
      have hcl:=tv_ hq hs hk
      have hd:=md_ (u:=k) (by omega)
      refine ⟨E++tf_ q s (k+1),?_,rfl,by rw [og_,←ap_,la_];omega⟩
      show Bl_ q ((s:Nat):Int) (E++tf_ q s k) k=_
      unfold Bl_ D5_
      have e1:nth (nth q.next s []) k 0=nxQ q s k:=rfl
      have e2:nth (nth q.outs s []) k []=otQ q s k:=rfl
      rw [tn_,d4_ (by omega)]
      simp only [e1,e2]
      rw [og_,←ap_]
      generalize hB:E++tf_ q s k=B at hl ⊢
      by_cases c:0≤nxQ q s k
      · rw [d4_ c,i5_ _ _ (by omega),ed_,d3_ (by omega),nm_ (by omega),tn_]
        show bnd (gz_ ⟨B++[103]⟩ _) _=_
        rw [qh_ _ _ (by omega) (by simp only [la_,lo_];omega),ed_]
        show bnd (iv_ ⟨B++[103]++Lib.decDigits k⟩ 58) _=_
        rw [i5_ _ _ (by simp only [la_,lo_];omega),ed_,d3_ (by omega),d3_ (by omega)]
        show bnd (C2_ (otQ q s k) ⟨B++[103]++Lib.decDigits k++[58]⟩) _=_
        rw [s1_ hol (by simp only [la_,lo_];omega),ed_]
        show some (Sum.inl (_,_))=_
        unfold l6_
        rw [if_pos c]
        simp [ap_]
      rw [d5_ c]
      unfold l6_
      rw [if_neg c,List.append_nil];rfl
    · rintro _ ⟨rfl,_⟩
      refine ⟨_,?_,rfl⟩
      show Bl_ q ((s:Nat):Int) (E++tf_ q s 256) 256=_
      unfold Bl_ kp_
      rw [tn_,d5_ (by omega),ed_];rfl
    obtain ⟨h1,rfl⟩:=hh_
    exact h1
  have ht:=(gg_ hq hs).1
  unfold E5_ lh_ endK
  rw [d3_ (by omega),tn_]
  cases nth q.fin s false with
  |true=>
    have:=rk_ ht
    rw [iteO_true,i5_ _ _ (by simp),ed_,d3_ (by omega),s1_ ht (by simp),ed_,if_pos rfl]
    exact hj _ (by simp only [la_,List.length_cons,List.length_nil];omega)
  |false=>
    rw [iteO_false,if_neg (by decide)]
    exact hj [] (by simp)
def pd_(q:Seq)(s:Nat):Nat→Nat→T_1
  |_,0=>[]
  |b,n+1=>l6_ q s b++pd_ q s (b+1) n
theorem zl_(q:Seq)(s b:Nat): ∀n,pd_ q s b n=(List.range' b n).flatMap (l6_ q s)
  |0=>rfl
  |n+1=>by rw [pd_,zl_ q s (b+1) n,List.range'_succ,List.flatMap_cons]
theorem u6_(q:Seq)(s:Nat):tf_ q s 256=pd_ q s 0 256:=by rw [zl_,tf_,List.range_eq_range']
theorem ub_(q:Seq)(s:Nat): ∀n b,pd_ q s b n=[]∨ ∃c X,b≤c∧pd_ q s b n=103::(Lib.decDigits c++58::X)
  |0,_=> .inl rfl
  | n + 1, b => by
    rw [pd_]
    unfold l6_
    by_cases c:0≤nxQ q s b
    · rw [if_pos c]
      exact .inr ⟨b,z6_ (otQ q s b)++pd_ q s (b+1) n,Nat.le_refl _,by simp only [List.cons_append,ap_]⟩
    rw [if_neg c,List.nil_append]
    rcases ub_ q s n (b+1)with h|⟨d,X,h1,h2⟩
    · exact .inl h
    exact .inr ⟨d,X,by omega,h2⟩
theorem rl_ {q : Seq} {s t : Nat} : ∀ {n b : Nat}, pd_ q s b n = pd_ q t b n → ∀ i, i < n → (0 ≤ nxQ q s (b + i) ↔ 0 ≤ nxQ q t (b + i)) ∧ (0 ≤ nxQ q s (b + i) → otQ q s (b + i) = otQ q t (b + i))
  |0,b,_,i,hi=>absurd hi (Nat.not_lt_zero _)
  | n + 1, b, h, i, hi => by
    have one: ∀{s t:Nat},0≤nxQ q s b→ ¬ 0≤nxQ q t b→pd_ q s b (n+1)≠pd_ q t b (n+1):=fun {s t} c d h=>by
      rw [pd_,pd_]at h
      unfold l6_ at h
      rw [if_pos c,if_neg d,List.nil_append,List.cons_append,ap_,List.cons_append]at h
      rcases ub_ q t n (b+1)with e|⟨f,X,h1,h2⟩
      · rw [e]at h;cases h
      rw [h2]at h
      obtain ⟨_,h⟩:=List.cons.inj h
      have:=q7_ (mn_ (iz_ _) (iz_ _) h).1
      omega
    by_cases c:0≤nxQ q s b
    · by_cases d:0≤nxQ q t b
      · rw [pd_,pd_]at h
        unfold l6_ at h
        rw [if_pos c,if_pos d,List.cons_append,List.cons_append,ap_,ap_,List.cons_append,List.cons_append]at h
        obtain ⟨_,h⟩:=List.cons.inj h
        obtain ⟨h1,h2⟩:=v6_ (mn_ (iz_ _) (iz_ _) h).2
        by_cases e:i=0
        · subst e;exact ⟨⟨fun _=>d,fun _=>c⟩,fun _=>h1⟩
        have:=rl_ h2 (i - 1) (by omega)
        rwa [show b+1+(i - 1)=b+i by omega]at this
      exact absurd h (one c d)
    by_cases d:0≤nxQ q t b
    · exact absurd h.symm (one d c)
    rw [pd_,pd_]at h
    unfold l6_ at h
    rw [if_neg c,if_neg d,List.nil_append,List.nil_append]at h
    by_cases e:i=0
    · subst e;exact ⟨⟨fun k=>absurd k c,fun k=>absurd k d⟩,fun k=>absurd k c⟩
    have:=rl_ h (i - 1) (by omega)
    rwa [show b+1+(i - 1)=b+i by omega]at this
theorem qp_ {q : Seq} (hq : d9_ q = true) {s t : Nat} (hs : s < q.next.length) (ht : t < q.next.length) : lh_ q s = lh_ q t ↔ LikeQ q s t := by
  constructor
  · intro h
    unfold lh_ at h
    rw [u6_,u6_]at h
    have hno: ∀{s t:Nat},nth q.fin s false=true→ ¬ nth q.fin t false=true→endK q s++pd_ q s 0 256≠endK q t++pd_ q t 0 256:=fun {s t} c d h=>by
      unfold endK at h
      rw [if_pos c,if_neg d,List.nil_append,List.cons_append]at h
      rcases ub_ q t 256 0 with e|⟨f,X,_,e⟩
      · rw [e]at h;cases h
      rw [e]at h
      have:=(List.cons.inj h).1
      exact absurd this (by decide)
    have key:nth q.fin s false=nth q.fin t false∧nth q.tail s []=nth q.tail t []∧pd_ q s 0 256=pd_ q t 0 256:=by
      by_cases c:nth q.fin s false=true
      · by_cases d:nth q.fin t false=true
        · unfold endK at h
          rw [if_pos c,if_pos d,List.cons_append,List.cons_append]at h
          obtain ⟨h1,h2⟩:=v6_ (List.cons.inj h).2
          exact ⟨c.trans d.symm,h1,h2⟩
        exact absurd h (hno c d)
      by_cases d:nth q.fin t false=true
      · exact absurd h.symm (hno d c)
      unfold endK at h
      rw [if_neg c,if_neg d,List.nil_append,List.nil_append]at h
      refine ⟨(Bool.eq_false_iff.2 c).trans (Bool.eq_false_iff.2 d).symm,?_,h⟩
      rcases (gg_ hq hs).2 with e|e
      · exact absurd e c
      rcases (gg_ hq ht).2 with f|f
      · exact absurd f d
      rw [e,f]
    have hrow:=rl_ key.2.2
    refine ⟨key.1,key.2.1,fun b hb=> ?_,fun b hb=> ?_⟩
    · have:=(hrow b hb).1
      rw [Nat.zero_add]at this;omega
    have:=hrow b hb
    rw [Nat.zero_add]at this
    by_cases c:0≤nxQ q s b
    · exact this.2 c
    rw [iw_ hq hs hb (by omega),iw_ hq ht hb (by have:=this.1;omega)]
  intro h
  unfold lh_ endK tf_
  rw [h.fin,h.tail]
  congr 1
  rw [List.flatMap_def,List.flatMap_def,List.map_congr_left fun b hb=> ?_]
  have hb:=List.mem_range.1 hb
  have h1:=h.neg b hb
  unfold l6_
  rw [h.out b hb]
  by_cases c:0≤nxQ q s b
  · rw [if_pos c,if_pos (by omega)]
  rw [if_neg c,if_neg (by omega)]
structure NumI (K:Nat→T_1) (N k:Nat) (L:N_1) (m:FM T_1 Int):Prop where
  len:L.length=N
  rng: ∀s,s<k→0≤nth L s 0∧nth L s 0<((m.n:Nat):Int)
  same: ∀s t,s<k→t<k→(nth L s 0=nth L t 0↔K s=K t)
  onto: ∀i,i<m.n→ ∃s,s<k∧nth L s 0=((i:Nat):Int)
  at': ∀s,s<k→m.f (K s)=some (nth L s 0)
  is: ∀y v,m.f y=some v→ ∃s,s<k∧y=K s
  le:m.n≤k
theorem NumI.nil(K:Nat→T_1){N:Nat}{L:N_1}(h:L.length=N):NumI K N 0 L FM.emp:=
  ⟨h,fun s hs=>absurd hs (Nat.not_lt_zero _),fun s t hs=>absurd hs (Nat.not_lt_zero _),fun i hi=>absurd hi (Nat.not_lt_zero _),fun s hs=>absurd hs (Nat.not_lt_zero _),fun y v h=>(by cases h),Nat.le_refl _⟩
theorem sv_ {K : Nat → T_1} {N k : Nat} {L : N_1} {m : FM T_1 Int} (h : NumI K N k L m) (hk : k < N) (hl : (K k).length ≤ 281474976710656) : ∃ i m', Cv_ ⟨m⟩ (K k) = some (i, ⟨m'⟩) ∧ NumI K N (k + 1) (L.set k i) m' := by
  have hlen:=h.len
  unfold Cv_
  rw [d3_ hl]
  have hold: ∀{i:Int} {s:Nat},s<k→nth (L.set k i) s 0=nth L s 0:=fun {i s} hs=>by rw [ek_,if_neg (fun e=>by omega)]
  have hnew: ∀{i:Int},nth (L.set k i) k 0=i:=fun {i}=>by rw [ek_,if_pos ⟨rfl,by omega⟩]
  cases c:m.f (K k)with
  |some v=>
    have hh:m.has (K k)=true:=by unfold FM.has;rw [c];rfl
    have hg:m.get (K k) 0=v:=by unfold FM.get;rw [c];rfl
    rw [show (⟨m⟩:Numb).places=m from rfl,hh,hg,gk_]
    obtain ⟨s0,hs0,e0⟩:=h.is _ _ c
    have hv:v=nth L s0 0:=by
      have:=h.at' s0 hs0
      rw [←e0,c]at this;exact Option.some.inj this
    have hsame0: ∀s,s<k→(nth L s 0=v↔K s=K k):=fun s hs=>by rw [hv,h.same s s0 hs hs0,e0]
    refine ⟨v,m,rfl,by rw [ls_];exact hlen,fun s hs=> ?_,fun s t hs ht=> ?_,fun i hi=> ?_,fun s hs=> ?_,fun y v' hy=> ?_,by have:=h.le;omega⟩
    · by_cases e:s=k
      · subst e;rw [hnew,hv];exact h.rng s0 hs0
      rw [hold (by omega)];exact h.rng s (by omega)
    · by_cases e:s=k
      · subst e
        by_cases f:t=s
        · subst f;exact ⟨fun _=>rfl,fun _=>rfl⟩
        rw [hnew,hold (by omega)]
        have:=hsame0 t (by omega)
        exact ⟨fun g=>(this.1 g.symm).symm,fun g=>(this.2 g.symm).symm⟩
      by_cases f:t=k
      · subst f;rw [hnew,hold (by omega)];exact hsame0 s (by omega)
      rw [hold (by omega),hold (by omega)];exact h.same s t (by omega) (by omega)
    · obtain ⟨s,hs,e⟩:=h.onto i hi
      exact ⟨s,by omega,by rw [hold hs];exact e⟩
    · by_cases e:s=k
      · subst e;rw [hnew];exact c
      rw [hold (by omega)];exact h.at' s (by omega)
    obtain ⟨s,hs,e⟩:=h.is y v' hy
    exact ⟨s,by omega,e⟩
  |none=>
    have hh:m.has (K k)=false:=by unfold FM.has;rw [c];rfl
    rw [show (⟨m⟩:Numb).places=m from rfl,hh,id_]
    have hne: ∀s,s<k→K s≠K k:=fun s hs e=>by
      have:=h.at' s hs
      rw [e,c]at this;cases this
    have hn:(m.put (K k) ((m.n:Nat):Int)).n=m.n+1:=by unfold FM.put;simp [c]
    have hf: ∀y,(m.put (K k) ((m.n:Nat):Int)).f y=if y=K k then some ((m.n:Nat):Int) else m.f y:=fun y=>rfl
    refine ⟨((m.n:Nat):Int),m.put (K k) ((m.n:Nat):Int),rfl,by rw [ls_];exact hlen,fun s hs=> ?_,fun s t hs ht=> ?_,fun i hi=> ?_,fun s hs=> ?_,fun y v' hy=> ?_,by rw [hn];have:=h.le;omega⟩
    · rw [hn]
      by_cases e:s=k
      · subst e;rw [hnew];omega
      rw [hold (by omega)];have:=h.rng s (by omega);omega
    · by_cases e:s=k
      · subst e
        by_cases f:t=s
        · subst f;exact ⟨fun _=>rfl,fun _=>rfl⟩
        rw [hnew,hold (by omega)]
        have:=h.rng t (by omega)
        exact ⟨fun g=>by omega,fun g=>absurd g.symm (hne t (by omega))⟩
      by_cases f:t=k
      · subst f;rw [hnew,hold (by omega)]
        have:=h.rng s (by omega)
        exact ⟨fun g=>by omega,fun g=>absurd g (hne s (by omega))⟩
      rw [hold (by omega),hold (by omega)];exact h.same s t (by omega) (by omega)
    · rw [hn]at hi
      by_cases e:i=m.n
      · exact ⟨k,by omega,by rw [hnew,e]⟩
      obtain ⟨s,hs,e⟩:=h.onto i (by omega)
      exact ⟨s,by omega,by rw [hold hs];exact e⟩
    · rw [hf]
      by_cases e:s=k
      · subst e;rw [hnew,if_pos rfl]
      rw [hold (by omega),if_neg (hne s (by omega))];exact h.at' s (by omega)
    rw [hf]at hy
    by_cases e:y=K k
    · exact ⟨k,by omega,e⟩
    rw [if_neg e]at hy
    obtain ⟨s,hs,e⟩:=h.is y v' hy
    exact ⟨s,by omega,e⟩
def pm_(q:Seq)(L:N_1)(s b:Nat):N_1:=if 0≤nxQ q s b then [nth L (nxQ q s b).toNat 0] else []
def pr_(q:Seq)(L:N_1)(s k:Nat):N_1:=nth L s 0::(List.range k).flatMap (pm_ q L s)
theorem j8_(q:Seq)(L:N_1)(s k:Nat):pr_ q L s (k+1)=pr_ q L s k++pm_ q L s k:=by
  unfold pr_;rw [List.range_succ,List.flatMap_append,List.flatMap_singleton];rfl
theorem r4_(q:Seq)(L:N_1)(s:Nat): ∀k,(pr_ q L s k).length≤k+1
  |0=>by simp [pr_]
  |k+1=>by
    have:=r4_ q L s k
    rw [j8_,la_]
    unfold pm_
    split<;>simp<;>omega
theorem q0_{q:Seq}{L:N_1}{s t:Nat}(hn: ∀b,b<256→(nxQ q s b<0↔nxQ q t b<0)): ∀k,k≤256→(pr_ q L s k=pr_ q L t k↔nth L s 0=nth L t 0∧ ∀b,b<k→0≤nxQ q s b→nth L (nxQ q s b).toNat 0=nth L (nxQ q t b).toNat 0)
  |0,_=>by
    unfold pr_
    simp
  | k + 1, hk => by
    have ih:=q0_ (L:=L) hn k (by omega)
    have hnk:=hn k (by omega)
    rw [j8_,j8_]
    have hlc:(pm_ q L s k).length=(pm_ q L t k).length:=by
      unfold pm_
      by_cases c:0≤nxQ q s k
      · rw [if_pos c,if_pos (by omega)];rfl
      rw [if_neg c,if_neg (by omega)]
    constructor
    · intro h
      obtain ⟨h1,h2⟩:=List.append_inj' h hlc
      obtain ⟨h3,h4⟩:=ih.1 h1
      refine ⟨h3,fun b hb h0=> ?_⟩
      by_cases c:b<k
      · exact h4 b c h0
      have:b=k:=by omega
      subst this
      unfold pm_ at h2
      rw [if_pos h0,if_pos (by omega)]at h2
      exact List.head_eq_of_cons_eq h2
    rintro ⟨h1,h2⟩
    rw [ih.2 ⟨h1,fun b hb=>h2 b (by omega)⟩]
    congr 1
    unfold pm_
    by_cases c:0≤nxQ q s k
    · rw [if_pos c,if_pos (by omega),h2 k (by omega) c]
    rw [if_neg c,if_neg (by omega)]
structure PrtI (q:Seq) (L:N_1) (c:Nat):Prop where
  len:L.length=q.next.length
  rng: ∀s,s<q.next.length→0≤nth L s 0∧nth L s 0<((c:Nat):Int)
  onto: ∀i,i<c→ ∃s,s<q.next.length∧nth L s 0=((i:Nat):Int)
  like: ∀s t,s<q.next.length→t<q.next.length→nth L s 0=nth L t 0→LikeQ q s t
  same: ∀s t,s<q.next.length→t<q.next.length→ev_ q s=ev_ q t→nth L s 0=nth L t 0
theorem PrtI.le{q:Seq}{L:N_1}{c:Nat}(h:PrtI q L c):c≤q.next.length:=
  zn_ (f:=fun s=>(nth L s 0).toNat) (g:=fun s=>s) (fun k hk=>by obtain ⟨s,h1,h2⟩:=h.onto k hk;exact ⟨s,h1,by show (nth L s 0).toNat=k;omega⟩) (fun s hs=>hs) (fun s t _ _ e=>by rw [e])
structure PrtR (q:Seq) (L:N_1) (c:Nat):Prop where
  len:L.length=q.next.length
  rng: ∀s,s<q.next.length→0≤nth L s 0∧nth L s 0<((c:Nat):Int)
  iff: ∀s t,s<q.next.length→t<q.next.length→(nth L s 0=nth L t 0↔ev_ q s=ev_ q t)
  le:c≤q.next.length
theorem parts_ok {q : Seq} (hq : d9_ q = true) (hp : PshQ q) : ∃ L c, Fc_ q = some (L, ((c : Nat) : Int)) ∧ PrtR q L c := by
  obtain ⟨q1,q2,q3,q4,q5⟩:=d7_ hq
  -- one round
  have round: ∀L c,PrtI q L c→ ∃r,Cq_ q L c=some r∧((∃L',r= .inr (L',((c:Nat):Int))∧PrtR q L' c)∨ ∃L' c',r= .inl (L',c')∧PrtI q L' c'∧c<c'):=by
    intro L c hI
    have hL:=hI.len
    have hle:=hI.le
    have hsml: ∀s k,s<q.next.length→k≤256→Sml (pr_ q L s k):=fun s k hs=>by
      induction k with
      |zero=>intro _ x hx;rw [show pr_ q L s 0=[nth L s 0]from rfl,mo_]at hx;rw [hx];have:=hI.rng s hs;omega
      |succ k ih=>
        intro hk x hx
        rw [j8_,List.mem_append]at hx
        rcases hx with hx|hx
        · exact ih (by omega) x hx
        unfold pm_ at hx
        split at hx
        · rw [mo_]at hx
          have h1:=fe_ hq hs (show k<256 by omega)
          have:=hI.rng (nxQ q s k).toNat (by omega)
          rw [hx];omega
        cases hx
    unfold Cq_
    rw [d3_ (by omega)]
    refine er_ (step:=fun z:N_1×(FM T_1 Int)×Nat=>Br_ L q c z.1 z.2.1 z.2.2) (fun (z:N_1×FM T_1 Int) k=>(z.1,z.2,k)) q.next.length (fun k z=>NumI (fun s=>kr_ (pr_ q L s 256)) q.next.length k z.1 z.2) _ ?_ ?_ (s0:=(List.replicate L.length 0,FM.emp)) (NumI.nil _ (by simp [hL]))
    · rintro k ⟨M,m⟩ hk hN
      simp only at hN
      left
      have hMl:=hN.len
      obtain ⟨r1,r2⟩:=f7_ hq hk
      have hkl:(kr_ (pr_ q L k 256)).length≤600:=by rw [o0_];have:=r4_ q L k 256;omega
      obtain ⟨i,m',n1,n2⟩:=sv_ hN hk (by show (kr_ (pr_ q L k 256)).length≤_;omega)
      show ∃s':N_1×FM T_1 Int,Br_ L q c M m k=some (.inl (s'.1,s'.2,k+1))∧_
      refine ⟨(M.set k i,m'),?_,n2⟩
      unfold Br_
      rw [d4_ (by simp only [lr_];omega),d3_ (by omega),d3_ (by omega),d3_ hk]
      refine Exists.elim (er_ (step:=fun z:T_1×Nat=>Bt_ q k L m M z.1 z.2) (fun z j=>(z,j)) 256 (fun j z=>z=kr_ (pr_ q L k j)) (fun r=>r= .inl (M.set k i,m',k+1)) ?_ ?_ (s0:=[hn_ (ww_ .i64 (nth L k 0) 8),hn_ (nth L k 0)]) (by simp [pr_,kr_,key2])) (fun r hh_=> ?_)
      · rintro j _ hj rfl
        left
        have h1:=fe_ hq hk hj
        have h3:(kr_ (pr_ q L k j)).length≤600:=by rw [o0_];have:=r4_ q L k j;omega
        refine ⟨_,?_,rfl⟩
        show Bt_ q k L m M (kr_ (pr_ q L k j)) j=_
        unfold Bt_ D4_
        have e1:nth (nth q.next k []) j 0=nxQ q k j:=rfl
        rw [d4_ (by omega),j8_]
        simp only [e1]
        unfold pm_
        by_cases d:0≤nxQ q k j
        · have hg:0≤nxQ q k j∧nxQ q k j<(L.length:Int):=by omega
          rw [d4_ d,d3_ hg,d3_ hg,d3_ (by simp only [List.length_cons,List.length_nil];omega),if_pos d]
          unfold kr_
          rw [List.flatMap_append,List.flatMap_singleton];rfl
        rw [d5_ d,if_neg d,List.append_nil];rfl
      · rintro _ rfl
        refine ⟨_,?_,rfl⟩
        show Bt_ q k L m M (kr_ (pr_ q L k 256)) 256=_
        unfold Bt_
        rw [d5_ (by omega),n1,ed_,d3_ (by omega)];rfl
      obtain ⟨h1,rfl⟩:=hh_
      exact h1
    rintro ⟨M,m⟩ hN
    simp only at hN
    have hiff: ∀s t,s<q.next.length→t<q.next.length→(nth M s 0=nth M t 0↔pr_ q L s 256=pr_ q L t 256):=fun s t hs ht=>by
      rw [hN.same s t hs ht]
      exact ⟨tu_ (hsml s 256 hs (Nat.le_refl _)) (hsml t 256 ht (Nat.le_refl _)),fun e=>by rw [e]⟩
    have hfine: ∀s t,s<q.next.length→t<q.next.length→nth M s 0=nth M t 0→nth L s 0=nth L t 0:=fun s t hs ht e=>by
      have:=(hiff s t hs ht).1 e
      unfold pr_ at this
      exact (List.cons.inj this).1
    have hsame: ∀s t,s<q.next.length→t<q.next.length→ev_ q s=ev_ q t→nth M s 0=nth M t 0:=fun s t hs ht e=>by
      have hlk:=yx_ hp hq hs ht e
      rw [hiff s t hs ht,q0_ hlk.neg 256 (Nat.le_refl _)]
      refine ⟨hI.same s t hs ht e,fun b hb h0=> ?_⟩
      obtain ⟨k1,_,k3⟩:=gv_ hp hp hs ht hb e h0
      have h1:=fe_ hq hs hb
      have h2:=fe_ hq ht hb
      exact hI.same _ _ (by omega) (by omega) k3
    have hcc:c≤m.n:=zn_ (n:=q.next.length) (f:=fun s=>(nth L s 0).toNat) (g:=fun s=>(nth M s 0).toNat) (fun k hk=>by obtain ⟨s,h1,h2⟩:=hI.onto k hk;exact ⟨s,h1,by show (nth L s 0).toNat=k;omega⟩) (fun s hs=>by have:=hN.rng s hs;show (nth M s 0).toNat<_;omega) (fun s t hs ht e=>by
      have h1:=hN.rng s hs
      have h2:=hN.rng t ht
      have e:(nth M s 0).toNat=(nth M t 0).toNat:=e
      show (nth L s 0).toNat=(nth L t 0).toNat
      rw [hfine s t hs ht (by omega)])
    show ∃r,Br_ L q c M m q.next.length=some (.inr r)∧_
    unfold Br_
    rw [d5_ (by simp only [lr_];omega)]
    by_cases e:m.n=c
    · rw [d4_ (by omega)]
      refine ⟨_,rfl,.inl ⟨M,rfl,hN.len,fun s hs=>by have:=hN.rng s hs;omega,fun s t hs ht=>⟨fun h=> ?_,hsame s t hs ht⟩,hle⟩⟩
      have hback: ∀s t,s<q.next.length→t<q.next.length→nth L s 0=nth L t 0→nth M s 0=nth M t 0:=fun s t hs ht e'=>by
        have h1:=hN.rng s hs
        have h2:=hN.rng t ht
        have:=pigeon (n:=q.next.length) (c:=c) (f:=fun s=>(nth L s 0).toNat) (g:=fun s=>(nth M s 0).toNat) (fun k hk=>by obtain ⟨s,h1,h2⟩:=hI.onto k hk;exact ⟨s,h1,by show (nth L s 0).toNat=k;omega⟩) (fun s hs=>by have:=hN.rng s hs;show (nth M s 0).toNat<_;omega) (fun s t hs ht e=>by
          have h1:=hN.rng s hs
          have h2:=hN.rng t ht
          have e:(nth M s 0).toNat=(nth M t 0).toNat:=e
          show (nth L s 0).toNat=(nth L t 0).toNat
          rw [hfine s t hs ht (by omega)]) hs ht (by show (nth L s 0).toNat=(nth L t 0).toNat;rw [e'])
        have this:(nth M s 0).toNat=(nth M t 0).toNat:=this
        omega
      refine funext fun w=>bisim (n:=q.next.length) (fun s b hs hb=>fe_ hq hs hb) (R:=fun s t=>nth M s 0=nth M t 0) (fun s t hs ht h=>hI.like s t hs ht (hfine s t hs ht h)) (fun s t b hs ht h hb h0=> ?_) w s t hs ht h
      have hlk:=hI.like s t hs ht (hfine s t hs ht h)
      have h1:=fe_ hq hs hb
      have h2:=fe_ hq ht hb
      have h3:=hlk.neg b hb
      exact hback _ _ (by omega) (by omega) (((q0_ hlk.neg 256 (Nat.le_refl _)).1 ((hiff s t hs ht).1 h)).2 b hb h0)
    rw [d5_ (by omega)]
    exact ⟨_,rfl,.inr ⟨M,m.n,rfl,⟨hN.len,hN.rng,hN.onto,fun s t hs ht h=>hI.like s t hs ht (hfine s t hs ht h),hsame⟩,by omega⟩⟩
  unfold Fc_
  rw [d3_ (by omega)]
  refine Exists.elim (er_ (step:=fun z:N_1×(FM T_1 Int)×Nat=>Bo_ q z.1 z.2.1 z.2.2) (fun (z:N_1×FM T_1 Int) k=>(z.1,z.2,k)) q.next.length (fun k z=>NumI (lh_ q) q.next.length k z.1 z.2) (fun r=> ∃L c,r=(L,((c:Nat):Int))∧PrtR q L c) ?_ ?_ (s0:=(List.replicate q.next.length 0,FM.emp)) (NumI.nil _ (by simp))) (fun r hh_=> ?_)
  · rintro k ⟨M,m⟩ hk hN
    simp only at hN
    left
    have hMl:=hN.len
    have hlen:(lh_ q k).length≤281474976710656:=by
      have h1: ∀j,j≤256→(tf_ q k j).length≤5000 * j:=fun j=>by
        induction j with
        |zero=>intro _;simp [tf_]
        |succ j ih=>
          intro hj
          have:=ih (by omega)
          have:=tv_ hq hk (show j<256 by omega)
          rw [og_,la_];omega
      have h2:=h1 256 (Nat.le_refl _)
      have h3:=rk_ (gg_ hq hk).1
      unfold lh_ endK
      rw [la_]
      split
      · rw [List.length_cons];omega
      rw [List.length_nil];omega
    obtain ⟨i,m',n1,n2⟩:=sv_ hN hk hlen
    show ∃s':N_1×FM T_1 Int,Bo_ q M m k=some (.inl (s'.1,s'.2,k+1))∧_
    refine ⟨(M.set k i,m'),?_,n2⟩
    unfold Bo_
    rw [d4_ (by simp only [lr_];omega),plain_eq hq hk,ed_,n1,ed_,d3_ (by omega)];rfl
  · rintro ⟨M,m⟩ hN
    simp only at hN
    show ∃r,Bo_ q M m q.next.length=some (.inr r)∧_
    have h0:PrtI q M m.n:=⟨hN.len,hN.rng,hN.onto,fun s t hs ht h=>(qp_ hq hs ht).1 ((hN.same s t hs ht).1 h),fun s t hs ht h=>(hN.same s t hs ht).2 ((qp_ hq hs ht).2 (yx_ hp hq hs ht h))⟩
    obtain ⟨r,k1,k2⟩:=r0_ (step:=fun z:N_1×Nat=>Cq_ q z.1 z.2) (fun z=>PrtI q z.1 z.2) (fun z=>q.next.length - z.2) (fun r=> ∃L c,r=(L,((c:Nat):Int))∧PrtR q L c) (fun ⟨L,c⟩ hI=>by
      obtain ⟨r,r1,r2⟩:=round L c hI
      rcases r2 with ⟨L',rfl,r3⟩|⟨L',c',rfl,r3,r4⟩
      · exact .inr ⟨_,r1,L',c,rfl,r3⟩
      refine .inl ⟨_,r1,r3,?_⟩
      have:=r3.le
      show q.next.length - c'<q.next.length - c
      omega) (t:=(M,m.n)) h0
    refine ⟨r,?_,k2⟩
    unfold Bo_
    rw [d5_ (by simp only [lr_];omega),k1];rfl
  obtain ⟨h1,L,c,rfl,h2⟩:=hh_
  exact ⟨L,c,h1,h2⟩
structure BfI (q:Seq) (cl:Nat→Int) (st:N_1) (V:Nat→Int) (code:Nat):Prop where
  pos:0<st.length
  rng: ∀i,i<st.length→0≤nth st i 0∧nth st i 0<(q.next.length:Int)
  zero:cl (nth st 0 0).toNat=cl 0
  neg: ∀c,c<code→nxQ q (nth st (c / 256) 0).toNat (c % 256)<0→V c= -1
  val: ∀c,c<code→0≤nxQ q (nth st (c / 256) 0).toNat (c % 256)→ ∃j:Nat,j<st.length∧V c=((j:Nat):Int)∧cl (nth st j 0).toNat=cl (nxQ q (nth st (c / 256) 0).toNat (c % 256)).toNat
  dist: ∀i j,i<st.length→j<st.length→cl (nth st i 0).toNat=cl (nth st j 0).toNat→i=j
  first: ∀c j,c<code→V c=((j:Nat):Int)→ ∀k,0<k→k<j→ ∃c',c'<c∧V c'=((k:Nat):Int)
  come: ∀j,0<j→j<st.length→ ∃c,c<code∧c<j * 256∧V c=((j:Nat):Int)
def upd(V:Nat→Int)(c:Nat)(x:Int):Nat→Int:=fun d=>if d=c then x else V d
theorem n3_(V:Nat→Int)(c:Nat)(x:Int):upd V c x c=x:=if_pos rfl
theorem h0_(V:Nat→Int){c d:Nat}(x:Int)(h:d<c):upd V c x d=V d:=if_neg (by omega)
section
variable {q:Seq} {cl:Nat→Int} {st:N_1} {V:Nat→Int} {code:Nat}
theorem BfI.init{q:Seq}{cl:Nat→Int}(V:Nat→Int){z:Int}(hz:0≤z∧z<(q.next.length:Int))(hcl:cl z.toNat=cl 0):BfI q cl [z] V 0:=by
  have h0: ∀i,i<([z]:N_1).length→i=0:=fun i hi=>by rw [lo_]at hi;omega
  refine ⟨by simp,fun i hi=> ?_,hcl,fun c hc=>absurd hc (Nat.not_lt_zero _),fun c hc=>absurd hc (Nat.not_lt_zero _),fun i j hi hj _=>by rw [h0 i hi,h0 j hj],fun c j hc=>absurd hc (Nat.not_lt_zero _),fun j hj hj2=> ?_⟩
  · rw [h0 i hi];exact hz
  have:=h0 j hj2;omega
theorem BfI.skip(h:BfI q cl st V code)(hn:nxQ q (nth st (code / 256) 0).toNat (code % 256)<0):BfI q cl st (upd V code (-1)) (code+1):=by
  refine ⟨h.pos,h.rng,h.zero,fun c hc hc2=> ?_,fun c hc hc2=> ?_,h.dist,fun c j hc hv k hk hkj=> ?_,fun j hj hj2=> ?_⟩
  · by_cases e:c=code
    · rw [e,n3_]
    rw [h0_ _ _ (by omega)];exact h.neg c (by omega) hc2
  · by_cases e:c=code
    · subst e;omega
    rw [h0_ _ _ (by omega)];exact h.val c (by omega) hc2
  · by_cases e:c=code
    · rw [e,n3_]at hv;omega
    rw [h0_ _ _ (by omega)]at hv
    obtain ⟨c',h1,h2⟩:=h.first c j (by omega) hv k hk hkj
    exact ⟨c',h1,by rw [h0_ _ _ (by omega)];exact h2⟩
  obtain ⟨c,h1,h2,h3⟩:=h.come j hj hj2
  exact ⟨c,by omega,h2,by rw [h0_ _ _ h1];exact h3⟩
theorem BfI.old(h:BfI q cl st V code)(h0:0≤nxQ q (nth st (code / 256) 0).toNat (code % 256)){j:Nat}(hj:j<st.length)(hcl:cl (nth st j 0).toNat=cl (nxQ q (nth st (code / 256) 0).toNat (code % 256)).toNat):BfI q cl st (upd V code ((j:Nat):Int)) (code+1):=by
  refine ⟨h.pos,h.rng,h.zero,fun c hc hc2=> ?_,fun c hc hc2=> ?_,h.dist,fun c i hc hv k hk hkj=> ?_,fun i hi hi2=> ?_⟩
  · by_cases e:c=code
    · subst e;omega
    rw [h0_ _ _ (by omega)];exact h.neg c (by omega) hc2
  · by_cases e:c=code
    · subst e;exact ⟨j,hj,n3_ _ _ _,hcl⟩
    rw [h0_ _ _ (by omega)];exact h.val c (by omega) hc2
  · by_cases e:c=code
    · rw [e,n3_]at hv
      obtain ⟨c',h1,_,h3⟩:=h.come k hk (by omega)
      exact ⟨c',by omega,by rw [h0_ _ _ h1];exact h3⟩
    rw [h0_ _ _ (by omega)]at hv
    obtain ⟨c',h1,h2⟩:=h.first c i (by omega) hv k hk hkj
    exact ⟨c',h1,by rw [h0_ _ _ (by omega)];exact h2⟩
  obtain ⟨c,h1,h2,h3⟩:=h.come i hi hi2
  exact ⟨c,by omega,h2,by rw [h0_ _ _ h1];exact h3⟩
theorem BfI.new(h:BfI q cl st V code)(hc:code<st.length * 256)(h0:0≤nxQ q (nth st (code / 256) 0).toNat (code % 256)){z:Int}(hz:0≤z∧z<(q.next.length:Int))(hcl:cl z.toNat=cl (nxQ q (nth st (code / 256) 0).toNat (code % 256)).toNat)
    (hnew: ∀j,j<st.length→cl (nth st j 0).toNat≠cl (nxQ q (nth st (code / 256) 0).toNat (code % 256)).toNat):BfI q cl (st++[z]) (upd V code ((st.length:Nat):Int)) (code+1):=by
  have hold: ∀i,i<st.length→nth (st++[z]) i 0=nth st i 0:=fun i hi=>gb_ hi _
  have hat:nth (st++[z]) st.length 0=z:=ff_ _ _ _
  have hlen:(st++[z]).length=st.length+1:=by simp
  have hp:=h.pos
  have hrow: ∀c,c<code+1→nth (st++[z]) (c / 256) 0=nth st (c / 256) 0:=fun c hc'=>hold _ (by omega)
  refine ⟨by omega,fun i hi=> ?_,by rw [hold 0 hp];exact h.zero,fun c hc hc2=> ?_,fun c hc hc2=> ?_,fun i j hi hj he=> ?_,fun c i hc hv k hk hkj=> ?_,fun i hi hi2=> ?_⟩
  · by_cases e:i<st.length
    · rw [hold i e];exact h.rng i e
    rw [show i=st.length by omega,hat];exact hz
  · rw [hrow c hc]at hc2
    by_cases e:c=code
    · subst e;omega
    rw [h0_ _ _ (by omega)];exact h.neg c (by omega) hc2
  · rw [hrow c hc]at hc2 ⊢
    by_cases e:c=code
    · subst e
      exact ⟨st.length,by omega,n3_ _ _ _,by rw [hat];exact hcl⟩
    rw [h0_ _ _ (by omega)]
    obtain ⟨j,h1,h2,h3⟩:=h.val c (by omega) hc2
    exact ⟨j,by omega,h2,by rw [hold j h1];exact h3⟩
  · by_cases e:i<st.length
    · by_cases f:j<st.length
      · rw [hold i e,hold j f]at he;exact h.dist i j e f he
      rw [hold i e,show j=st.length by omega,hat,hcl]at he
      exact absurd he (hnew i e)
    by_cases f:j<st.length
    · rw [hold j f,show i=st.length by omega,hat,hcl]at he
      exact absurd he.symm (hnew j f)
    omega
  · by_cases e:c=code
    · rw [e,n3_]at hv
      obtain ⟨c',h1,_,h3⟩:=h.come k hk (by omega)
      exact ⟨c',by omega,by rw [h0_ _ _ h1];exact h3⟩
    rw [h0_ _ _ (by omega)]at hv
    obtain ⟨c',h1,h2⟩:=h.first c i (by omega) hv k hk hkj
    exact ⟨c',h1,by rw [h0_ _ _ (by omega)];exact h2⟩
  by_cases e:i<st.length
  · obtain ⟨c,h1,h2,h3⟩:=h.come i hi e
    exact ⟨c,by omega,h2,by rw [h0_ _ _ h1];exact h3⟩
  refine ⟨code,by omega,by omega,?_⟩
  rw [n3_,show i=st.length by omega]
end
theorem BfI.min{q m:Seq}{cl:Nat→Int}{st:N_1}{V:Nat→Int}(h:BfI q cl st V (st.length * 256))(hcl: ∀s t,s<q.next.length→t<q.next.length→(cl s=cl t↔ev_ q s=ev_ q t))(hq:d9_ q=true)
    (e0:m.front=q.front) (e1:m.next.length=st.length) (e2:m.outs.length=st.length) (e3:m.fin.length=st.length) (e4:m.tail.length=st.length) (e5: ∀i,i<st.length→(nth m.next i []).length=256) (e6: ∀c,c<st.length * 256→nxC m c=V c)
    (e7: ∀i,i<st.length→nth m.outs i []=nth q.outs (nth st i 0).toNat []) (e8: ∀i,i<st.length→nth m.fin i false=nth q.fin (nth st i 0).toNat false) (e9: ∀i,i<st.length→nth m.tail i []=nth q.tail (nth st i 0).toNat []):MinQ q m (st.map Int.toNat):=by
  have hl:(st.map Int.toNat).length=st.length:=List.length_map ..
  have hat: ∀i,i<st.length→nth (st.map Int.toNat) i 0=(nth st i 0).toNat:=fun i hi=>gd_ _ _ _ 0 _ hi
  have hr: ∀i,i<st.length→(nth st i 0).toNat<q.next.length:=fun i hi=>by have:=h.rng i hi;omega
  have hp:=h.pos
  have hn: ∀i b,i<st.length→b<256→i * 256+b<st.length * 256∧(i * 256+b) / 256=i∧(i * 256+b) % 256=b:=fun i b hi hb=>⟨by omega,by omega,by omega⟩
  have hcell: ∀i b,i<st.length→b<256→nxQ m i b=V (i * 256+b):=fun i b hi hb=>by
    obtain ⟨a1,a2,a3⟩:=hn i b hi hb
    have:=e6 _ a1
    unfold nxC at this
    rw [a2,a3]at this;exact this
  refine ⟨e0,by omega,by omega,by omega,by omega,by omega,fun i hi=> ?_,?_,fun i j hi hj he=> ?_,fun i hi=>e5 i (by omega),fun i hi=> ?_,fun i hi=> ?_,fun i hi=> ?_,fun i b hi hb hx=> ?_,fun i b hi hb hx=> ?_,fun c j hc hv k hk hkj=> ?_,fun j hj hj2=> ?_⟩
  · rw [hat i (by omega)];exact hr i (by omega)
  · rw [hat 0 hp]
    exact (hcl _ _ (hr 0 hp) (by have:=hr 0 hp;omega)).1 h.zero
  · rw [hat i (by omega),hat j (by omega)]at he
    exact h.dist i j (by omega) (by omega) ((hcl _ _ (hr i (by omega)) (hr j (by omega))).2 he)
  · rw [hat i (by omega)];exact e7 i (by omega)
  · rw [hat i (by omega)];exact e8 i (by omega)
  · rw [hat i (by omega)];exact e9 i (by omega)
  · rw [hat i (by omega)]at hx
    obtain ⟨a1,a2,a3⟩:=hn i b (by omega) hb
    rw [hcell i b (by omega) hb]
    exact h.neg _ a1 (by rw [a2,a3];exact hx)
  · rw [hat i (by omega)]at hx
    obtain ⟨a1,a2,a3⟩:=hn i b (by omega) hb
    obtain ⟨j,h1,h2,h3⟩:=h.val _ a1 (by rw [a2,a3];exact hx)
    rw [a2,a3]at h3
    refine ⟨j,by omega,by rw [hcell i b (by omega) hb];exact h2,?_⟩
    rw [hat j h1,hat i (by omega)]
    have hz:=fe_ hq (hr i (by omega)) hb
    exact (hcl _ _ (hr j h1) (by omega)).1 h3
  · rw [hl]at hc
    rw [e6 c hc]at hv
    obtain ⟨c',h1,h2⟩:=h.first c j hc hv k hk hkj
    exact ⟨c',h1,by rw [e6 c' (by omega)];exact h2⟩
  obtain ⟨c,h1,h2,h3⟩:=h.come j hj (by omega)
  exact ⟨c,h2,by rw [e6 c h1];exact h3⟩
theorem PushR.psh{q:Seq}{r:Seq×Int}(h:PushR q r)(h0:r.2=0):PshQ r.1∧d9_ r.1=true∧(∀w,fj_ r.1 w=fj_ q w)∧r.1.next.length≤q.next.length:=by
  have hem: ∀w,fj_ Seq.zero w=Option.none:=fun w=>by unfold fj_;rw [f0_ rfl rfl];rfl
  cases h with
  |wrong _=>exact absurd h0 (by decide)
  |none h1 h2=>
    refine ⟨ri_.toPshQ,ri_.right,fun w=> ?_,Nat.zero_le _⟩
    rw [hem]
    unfold fj_
    cases ho:ev_ q 0 w with
    |none=>rfl
    |some y=>
      rcases h2 with h2|h2
      · rw [f0_ (en_ h2) (en_ (by have:=(d7_ h1).2.2.1;omega))]at ho;cases ho
      exact absurd ⟨w,y,ho⟩ h2
  |made l m v h1 h2 h3 h4 h5=>
    have hk:=le_ (m:=m) h5
    have hk0:=(hk 0 h2).2 ⟨.zero,(h4.live 0 h2).2 h3⟩
    unfold ml_ at h0 ⊢
    by_cases c:d9_ (fo_ q l (h6_ v m))=true
    · rw [if_pos c]
      exact ⟨Ha_ h1 h4 hk,c,G4_ h1 h4 hk h2 hk0,by rw [hd_];exact he_ _ _⟩
    rw [if_neg c]at h0;exact absurd h0 (by decide)
theorem PushR.again {q p : Seq} {r s : Seq × Int} (h : PushR q r) (k : PushR p s) (h0 : r.2 = 0) (hp : d9_ p = true) (he : ∀ w, fj_ p w = fj_ q w) : s.2 = 0 := by
  cases k with
  |wrong h1=>exact absurd hp h1
  |none _ _=>rfl
  |made lp mp vp p1 p2 p3 p4 p5=>
    have hlive: ∃w y,fj_ q w=some y:=by
      obtain ⟨w,y,hy⟩:=p3
      exact ⟨w,_,by rw [←he];unfold fj_;rw [hy];rfl⟩
    cases h with
    |wrong _=>exact absurd h0 (by decide)
    |none h1 h2=>
      exfalso
      obtain ⟨w,y,hy⟩:=hlive
      unfold fj_ at hy
      cases ho:ev_ q 0 w with
      |none=>rw [ho]at hy;cases hy
      |some z=>
        rcases h2 with h2|h2
        · rw [f0_ (en_ h2) (en_ (by have:=(d7_ h1).2.2.1;omega))]at ho;cases ho
        exact h2 ⟨w,z,ho⟩
    |made lq mq vq q1 q2 q3 q4 q5=>
      have hkq:=le_ (m:=mq) q5
      have hkp:=le_ (m:=mp) p5
      unfold ml_ at h0 ⊢
      by_cases c:d9_ (fo_ q lq (h6_ vq mq))=true
      · rw [if_pos (Ih_ q1 p1 q4 p4 hkq hkp q2 p2 ((hkq 0 q2).2 ⟨.zero,(q4.live 0 q2).2 q3⟩) ((hkp 0 p2).2 ⟨.zero,(p4.live 0 p2).2 p3⟩) he c)]
      rw [if_neg c]at h0;exact absurd h0 (by decide)
inductive MinR (p:Seq×Int):Seq×Int→Prop
  |err:p.2≠0→MinR p (Seq.zero,p.2)
  |none:p.2=0→p.1.next.length=0→MinR p (Seq.zero,0)
  |made (m:Seq) (st:List Nat):p.2=0→MinQ p.1 m st→MinR p (m,0)
theorem MinR.err'{q:Seq}{p r:Seq×Int}(_:PushR q p)(k:MinR p r):r.2=p.2∧(r.2≠0→r.1=Seq.zero):=by
  cases k with
  |err h0=>exact ⟨rfl,fun _=>rfl⟩
  |none h0 _=>exact ⟨h0.symm,fun _=>rfl⟩
  |made m st h0 _=>exact ⟨h0.symm,fun e=>absurd rfl e⟩
theorem MinR.can{q:Seq}{p r:Seq×Int}(h:PushR q p)(k:MinR p r)(h0:r.2=0):CanQ r.1∧(∀w,fj_ r.1 w=fj_ q w)∧r.1.next.length≤p.1.next.length:=by
  cases k with
  |err e=>exact absurd h0 e
  |none e1 e2=>
    obtain ⟨h1,h2,h3,h4⟩:=h.psh e1
    refine ⟨ri_,fun w=> ?_,Nat.zero_le _⟩
    rw [←h3]
    unfold fj_
    rw [f0_ rfl rfl,f0_ (en_ e2) (en_ (by have:=(d7_ h2).2.2.1;omega))]
    rfl
  |made m st e1 e2=>
    obtain ⟨h1,h2,h3,h4⟩:=h.psh e1
    obtain ⟨k1,k2,k3⟩:=e2.can h1 h2
    refine ⟨k1,fun w=> ?_,k3⟩
    rw [←h3]
    unfold fj_
    rw [k2,e2.front]
theorem MinR.same{q q':Seq}{p p' r r':Seq×Int}(h:PushR q p)(h':PushR q' p')(k:MinR p r)(k':MinR p' r')(h0:r.2=0)(h0':r'.2=0)(he: ∀w,fj_ q w=fj_ q' w):r.1=r'.1:=by
  obtain ⟨a1,a2,_⟩:=k.can h h0
  obtain ⟨b1,b2,_⟩:=k'.can h' h0'
  exact yl_ a1 b1 fun w=>by rw [a2,b2,he]
end Go.Proofs.YtchebnpdnfhenaaGreatDoor
end

noncomputable section
namespace Go.E
open Go
def SrcC{α:Type}(σ:d0_)(H:List Res)(size:Nat)(enc:α→List Value)(s:Value)(ls:List α):Prop:=
  ∃a c,s= .slice a ls.length c∧ ∀(P:Program) (w:World),hk_ σ H w→ ∀n,n≤ls.length→(Builtin.firstCells size n s).run P w= .ok ((ls.take n).flatMap enc).toArray w
theorem sg_{α:Type}{enc:α→List Value}{size:Nat}(hl: ∀x,(enc x).length=size)(l:List α)(n:Nat):(l.take n).flatMap enc=(l.flatMap enc).take (n * size):=lg_ hl l n
theorem SrcC.sealed{α:Type}{σ:d0_}{H:List Res}{size:Nat}{enc:α→List Value}{s:Value}{ls:List α}(h:RS σ size enc s ls)(hl: ∀x,(enc x).length=size):SrcC σ H size enc s ls:=by
  obtain ⟨a,c,rfl,hn,hc⟩:=h.rv.sl
  refine ⟨a,c,rfl,fun P w hw n hle=> ?_⟩
  cases a with
  |none=>
    obtain ⟨h1,_⟩:=hn rfl
    have:ls=[]:=en_ h1
    subst this
    simp [Builtin.firstCells]
  |some ad=>
    refine run_firstCells_some w size n ad _ _ _ (by rw [eg_ hl,List.length_take];congr 1;omega) fun j v hj=> ?_
    rw [sg_ hl,List.getElem?_take]at hj
    split at hj
    · exact hw.cell (h.rv.cell ad _ c rfl j v hj)
    cases hj
theorem wq_{α:Type}{enc:α→List Value}{size:Nat}(hl: ∀x,(enc x).length=size)(l m:List α)(k:Nat)(hk:k+m.length≤l.length):
    e7_ (l.flatMap enc) (k * size) (m.flatMap enc)=(l.take k++(m++l.drop (k+m.length))).flatMap enc:=by
  rw [List.flatMap_append,List.flatMap_append,e7_,sg_ hl l k,eg_ hl m,←Nat.add_mul]
  have h1:l.flatMap enc=(l.take (k+m.length)).flatMap enc++(l.drop (k+m.length)).flatMap enc:=by rw [←List.flatMap_append,List.take_append_drop]
  have h2:(l.flatMap enc).drop ((k+m.length) * size)=(l.drop (k+m.length)).flatMap enc:=by
    rw [h1,List.drop_append_of_le_length (by rw [eg_ hl,List.length_take,Nat.min_eq_left hk];exact Nat.le_refl _),List.drop_of_length_le (by rw [eg_ hl,List.length_take,Nat.min_eq_left hk];exact Nat.le_refl _),List.nil_append]
  rw [h2];try rw [ap_]
theorem OpOk.copyV {X : Ctx} {e : Env} {σ : d0_} {F : List Res} {o : Oper} {x y : Operand} {K : Env → d0_ → List Res → Prop} {α : Type} {T ty E size k m' d : Nat} {enc : α → List Value} {v u s : Value} {l ls : List α}
    (ho:o.op= .call {callee:= .builtin .copy,args:= #[x,y],argTypes:= #[T,ty]}) (ht:X.P.underlying T=some (.slice E)) (hs:szOf X.P E=some size) (hd:o.dst=some d) (hn:Nat.blt d X.n=true)
    (hx:ev e x=u) (hv:VwOk v u size k m') (hm:l.length - k=m') (hk:k≤l.length) (hy:ev e y=s) (hsrc:SrcC σ (ε E size enc v l::F) size enc s ls) (hl: ∀x,(enc x).length=size) (h0:0<size) (h1: ∀x, ∀u∈enc x,u.oneCell'=true)
    (kk:K (upd e d (.int .i64 ((min ls.length (l.length - k):Nat):Int))) σ (ε E size enc v (l.take k++(ls.take (min ls.length (l.length - k))++l.drop (k+min ls.length (l.length - k))))::F)):OpOk X o e σ (ε E size enc v l::F) K:=by
  subst hm
  intro u0 C0 τ0 w a hw ha K' Q hK
  obtain ⟨hown,hone,hbg⟩:=hw.holds _ (mc_ ..)
  have hsees:hk_ σ (ε E size enc v l::F) w:=⟨hw.fit,hw.holds⟩
  obtain ⟨as',cs',rfl,hfirst⟩:=hsrc
  obtain ⟨a',c',rfl,hnn,hc⟩:=hv.sl
  have hmin: ∀p q:Nat,Nat.min p q=min p q:=fun _ _=>rfl
  generalize hN:min ls.length (l.length - k)=N at kk
  have hN1:N≤ls.length:=by omega
  have hN2:N≤l.length - k:=by omega
  have hlenN:(ls.take N).length=N:=by rw [List.length_take];omega
  have hlen:(l.take k++(ls.take N++l.drop (k+N))).length=l.length:=by simp only [la_,List.length_take,List.length_drop];omega
  have hf:=hfirst X.P w hsees N hN1
  have hsz:=ew_ (P:=X.P) hs
  have hgo:goInt N= .int .i64 ((N:Nat):Int):=rfl
  cases a' with
  |none=>
    obtain ⟨h2,_⟩:=hnn rfl
    have hN0:N=0:=by omega
    subst hN0
    have e1:l.take k++(ls.take 0++l.drop (k+0))=l:=by rw [List.take_zero,List.nil_append,Nat.add_zero,List.take_append_drop]
    rw [e1]at kk
    have hrun:(Builtin.copy_ #[T,ty] o.type #[.slice none (l.length - k) c',.slice as' ls.length cs']).run X.P w= .ok (.int .i64 ((0:Nat):Int)) w:=by
      simp [Builtin.copy_,run_underlying ht,Builtin.lenOf,hsz,hmin,hN,hf,goInt]
    refine Oper.am_ (v:= .int .i64 ((0:Nat):Int)) (w':=w) ?_ (hK _ _ _ _ _ kk hw (fi_ ha hd hn _))
    rw [ha.eval']
    simp [execOp,ho,resolve,invoke,builtin,hx,hy,hrun]
  |some ad=>
    by_cases hj:0<l.length - k
    · have hel:=hv.el 0 hj
      rcases id hown.2 with ⟨hvn,hmn⟩|⟨g,cap,cur,rfl,_⟩
      · omega
      simp only [jj_,Nat.zero_mul,Nat.add_zero]at hel
      have had:ad=⟨g,k * size,none⟩:=by
        have h3:(ad.add 0)=(⟨g,0,none⟩:Addr).add (k * size):=by injection hel with h;injection h
        rw [gm_]at h3
        simpa [Addr.add]using h3
      subst had
      obtain ⟨w',hst,hown',hgr,hdr⟩:=World.ownsRow.spliced X.P hown (k:=k * size) (vs:=(ls.take N).flatMap enc) (by rw [eg_ hl,eg_ hl,hlenN,←Nat.add_mul];exact Nat.mul_le_mul_right _ (by omega)) (fun u hu=>by
        obtain ⟨q,_,hq⟩:=List.mem_flatMap.1 hu
        exact h1 q u hq)
      have hsp:=wq_ hl l (ls.take N) k (by rw [hlenN];omega)
      rw [hlenN]at hsp
      rw [hsp]at hown'
      have hrun:(Builtin.copy_ #[T,ty] o.type #[.slice (some ⟨g,k * size,none⟩) (l.length - k) c',.slice as' ls.length cs']).run X.P w= .ok (.int .i64 ((N:Nat):Int)) w':=by
        simp [Builtin.copy_,run_underlying ht,Builtin.lenOf,hsz,hmin,hN,hf,hst,goInt]
      have hR:Reach u0 C0 τ0 σ w' (ε E size enc (.slice (some ⟨g,0,none⟩) l.length cap) (l.take k++(ls.take N++l.drop (k+N)))::F):=by
        refine hw.bk_ (some g) (some g) rfl rfl hgr.os hgr.tape hgr.output hgr.size hdr (fun q hq hne=>hgr.block q hq (fun hx=>hne (by cases hx;rfl))) ?_ (fun q hq=> .inl hq)
        show _∧_∧_
        rw [hlen]
        refine ⟨hown',fun u hu=> ?_,hbg⟩
        obtain ⟨q,_,hq⟩:=List.mem_flatMap.1 hu
        exact h1 q u hq
      refine Oper.am_ (v:= .int .i64 ((N:Nat):Int)) (w':=w') ?_ (hK _ _ _ _ _ kk hR (fi_ ha hd hn _))
      rw [ha.eval']
      simp [execOp,ho,resolve,invoke,builtin,hx,hy,hrun]
    have hN0:N=0:=by omega
    subst hN0
    have e1:l.take k++(ls.take 0++l.drop (k+0))=l:=by rw [List.take_zero,List.nil_append,Nat.add_zero,List.take_append_drop]
    rw [e1]at kk
    have hrun:(Builtin.copy_ #[T,ty] o.type #[.slice (some ad) (l.length - k) c',.slice as' ls.length cs']).run X.P w= .ok (.int .i64 ((0:Nat):Int)) w:=by
      simp [Builtin.copy_,run_underlying ht,Builtin.lenOf,hsz,hmin,hN,hf,goInt,storeCells]
    refine Oper.am_ (v:= .int .i64 ((0:Nat):Int)) (w':=w) ?_ (hK _ _ _ _ _ kk hw (fi_ ha hd hn _))
    rw [ha.eval']
    simp [execOp,ho,resolve,invoke,builtin,hx,hy,hrun]
section
variable {α:Type} {σ:d0_} {k:Pk α} {z w:List (α×k.P)} {l m:List α}
end
theorem OpOk.dd_{X:Ctx}{e:Env}{σ:d0_}{F:List Res}{o:Oper}{x y:Operand}{K:Env→d0_→List Res→Prop}{α:Type}{T ty E size p m' d N q:Nat}{enc:α→List Value}{v u s:Value}{l ls:List α}
    (ho:o.op= .call {callee:= .builtin .copy,args:= #[x,y],argTypes:= #[T,ty]}) (ht:X.P.underlying T=some (.slice E)) (hs:szOf X.P E=some size) (hd:o.dst=some d) (hn:Nat.blt d X.n=true)
    (hx:ev e x=u) (hv:VwOk v u size p m') (hq:l.length=q) (hm:q - p=m') (hk:p≤q) (hy:ev e y=s) (hsrc:SrcC σ (ε E size enc v l::F) size enc s ls) (hl: ∀x,(enc x).length=size) (h0:0<size) (h1: ∀x, ∀u∈enc x,u.oneCell'=true) (hN:min ls.length (q - p)=N)
    (kk:K (upd e d (.int .i64 ((N:Nat):Int))) σ (ε E size enc v (l.take p++(ls.take N++l.drop (p+N)))::F)):OpOk X o e σ (ε E size enc v l::F) K:=by
  subst hq;subst hN
  exact OpOk.copyV ho ht hs hd hn hx hv hm hk hy hsrc hl h0 h1 kk
end Go.E
end

noncomputable section
namespace Go.Proofs.YtchebnpdnfhenaaGreatDoor
open Go Go.E Go.E.OpVal Go.E.OpOk Go.Proofs.Tryz
open List (replicate)
theorem pf35:plainF Tryz.prog 35=true:=by kernel_rfl
theorem pf66:plainF Tryz.prog 66=true:=by kernel_rfl
theorem pf67:plainF Tryz.prog 67=true:=by kernel_rfl
theorem pf68:plainF Tryz.prog 68=true:=by kernel_rfl
theorem pf69:plainF Tryz.prog 69=true:=by kernel_rfl
def C6_(k169:Nat)(l173:N_1)(l175:N_1):Option ((N_1×N_1×Nat)⊕((N_1×N_1×Nat)⊕(N_1×N_1))):=
 nxt (l173,l175,(k169+1))
def A4_(x0:Seq)(l140:N_1)(k143:Nat)(x1:N_1)(l164:N_1)(l166:N_1)(k169:Nat):Option ((N_1×N_1×Nat)⊕((N_1×N_1×Nat)⊕(N_1×N_1))):=
 ec_ (decide ((k169:Int)<(((nth x0.next ((nth l140 k143 0).toNat) []).length:Nat):Int))) (ec_ (decide (0≤(nth (nth x0.next ((nth l140 k143 0).toNat) []) k169 0))) (grd (0≤(nth (nth x0.next ((nth l140 k143 0).toNat) []) k169 0)∧(nth (nth x0.next ((nth l140 k143 0).toNat) []) k169 0)<(x1.length:Int)) (grd (0≤(nth x1 ((nth (nth x0.next ((nth l140 k143 0).toNat) []) k169 0).toNat) 0)∧(nth x1 ((nth (nth x0.next ((nth l140 k143 0).toNat) []) k169 0).toNat) 0)<(l164.length:Int)) (ec_ (decide ((nth l164 ((nth x1 ((nth (nth x0.next ((nth l140 k143 0).toNat) []) k169 0).toNat) 0).toNat) 0)<0)) (grd (0≤(nth (nth x0.next ((nth l140 k143 0).toNat) []) k169 0)∧(nth (nth x0.next ((nth l140 k143 0).toNat) []) k169 0)<(x1.length:Int)) (grd (0≤(nth x1 ((nth (nth x0.next ((nth l140 k143 0).toNat) []) k169 0).toNat) 0)∧(nth x1 ((nth (nth x0.next ((nth l140 k143 0).toNat) []) k169 0).toNat) 0)<(l164.length:Int)) (grd ((l166.length+[(nth (nth x0.next ((nth l140 k143 0).toNat) []) k169 0)].length) * 8≤140737488355328) (C6_ k169 (l164.set ((nth x1 ((nth (nth x0.next ((nth l140 k143 0).toNat) []) k169 0).toNat) 0).toNat) ((l166.length:Nat):Int)) (l166++[(nth (nth x0.next ((nth l140 k143 0).toNat) []) k169 0)]))))) (C6_ k169 l164 l166)))) (C6_ k169 l164 l166)) (fin (nxt (l164,l166,(k143+1))))
def B9_(x0:Seq)(x1:N_1)(l138:N_1)(l140:N_1)(k143:Nat):Option ((N_1×N_1×Nat)⊕(N_1×N_1)):=
 ec_ (decide ((k143:Int)<((l140.length:Nat):Int))) (grd (0≤(nth l140 k143 0)∧(nth l140 k143 0)<(x0.next.length:Int)) (eq_ (fun q:N_1×N_1×Nat=>A4_ x0 l140 k143 x1 q.1 q.2.1 q.2.2) (l138,l140,0))) (fin (some (l140,l138)))
def Bu_(x2:Int)(x1:N_1)(x0:Seq)(l112:N_1)(k114:Nat):Option ((N_1×Nat)⊕(N_1×N_1)):=
 ec_ (decide ((k114:Int)<(((replicate x2.toNat (0:Int)).length:Nat):Int))) (grd (k114<l112.length) (nxt ((l112.set k114 (-1)),(k114+1)))) (fin (grd (0<x1.length) (grd (0≤(nth x1 0 0)∧(nth x1 0 0)<(l112.length:Int)) (eq_ (fun q:N_1×N_1×Nat=>B9_ x0 x1 q.1 q.2.1 q.2.2) ((l112.set ((nth x1 0 0).toNat) 0),[0],0)))))
def En_(x0:Seq)(x1:N_1)(x2:Int):Option (N_1×N_1):=
 grd (0≤x2∧8 * x2.toNat≤281474976710656) (eq_ (fun q:N_1×Nat=>Bu_ x2 x1 x0 q.1 q.2) ((replicate x2.toNat (0:Int)),0))
def H3_(σ:d0_)(r:N_1×N_1):Value→d0_→List Res→Prop:=fun v σ' H'=>
 ∃a1 c1 a2 c2,v= .tuple #[.slice a1 r.1.length c1,.slice a2 r.2.length c2]∧rS_ σ' eI_ a1 c1 r.1∧rS_ σ' eI_ a2 c2 r.2∧H'=[]
theorem Hr_{σ:d0_}{x0:Seq}{x1:N_1}{x2:Int}(f0_0:RZ σ (ea_ 1 eI_ ep_) (.slice a0_0 x0.next.length c0_0) x0.next)(f0_1:RZ σ (ea_ 1 eS_ es_) (.slice a0_1 x0.outs.length c0_1) x0.outs)(f0_2:rS_ σ e1_ a0_2 c0_2 x0.fin)(f0_3:rS_ σ eS_ a0_3 c0_3 x0.tail)(f1_0:rS_ σ eI_ a1_0 c1_0 x1){r:N_1×N_1}(hh:En_ x0 x1 x2=some r):
  Con prog 67 #[.agg (aq_ x0 a0_0 c0_0 a0_1 c0_1 a0_2 c0_2 a0_3 c0_3),.slice a1_0 x1.length c1_0,.int .i64 x2] σ [] (H3_ σ r):=by
 dsimp only [En_]at hh
 have f0_0b:=f0_0.big
 have f0_1b:=f0_1.big
 have f0_2b:=f0_2.rv.big
 have f0_3b:=f0_3.rv.big
 have f1_0b:=f1_0.rv.big
 refine Con.mk (n:=77) Tryz.func67 z z z (fun w0=> ?_)
 refine ξ (ζ z (boxA z z z z (fun b101=> ?_)))
 refine TL.s z z (TL.s z z (κ (ξ (θ z z ?_))))
 obtain ⟨u5,hh⟩:=d6_ hh
 refine ζ rfl (a2_ (m:=x2.toNat) (enc:=eI_) (0:Int) rfl e2_ sz3 by3 ze3 rfl rfl (vN u5.1) (vN u5.1) (by omega) (by decide) ep_ (by decide) rfl i2_ (fun a103 c104=> ?_))
 refine TL.s z z (κ (ν (ξ (TL.s z z (ω z (lenC z e2_ z) (θ z z (κ (υ (TC.ao_ (α:=(N_1×Nat)×(Unit)) (rgs [(9,1),(18,7)]) (fun g=>[(18,.int .i64 ((g.1.2:Nat):Int))]) (fun g=>[cq_ b101 x0 a0_0 c0_0 a0_1 c0_1 a0_2 c0_2 a0_3 c0_3,ε 3 1 eI_ (.slice a103 (replicate x2.toNat (0:Int)).length c104) g.1.1]) (fun g=>σ) (fun g=>eq_ (fun q:N_1×Nat=>Bu_ x2 x1 x0 q.1 q.2) g.1=some r∧g.1.1.length=(replicate x2.toNat (0:Int)).length) (fun g=>eh_ (fun q:N_1×Nat=>Bu_ x2 x1 x0 q.1 q.2) g.1) (((replicate x2.toNat (0:Int)),0),()) (δ [1] 2) z (by repeat (first|exact trivial|refine ⟨z,?_⟩)) ⟨hh,z⟩ (fun g1 j1 hg1=> ?_))))))))))
 obtain ⟨⟨l112,k114⟩,_⟩:=g1
 obtain ⟨hh,hn113⟩:=hg1
 try dsimp only at hn113 ⊢
 obtain ⟨z1,hh,hR1⟩:=eo_ hh
 dsimp only [Bu_]at hh
 refine η (i:=1) z (fun _ hb115 _=> ?_)
 refine ξ (ω z (OpVal.lss z z z) (κ (ν (TC.cD z hh (fun h116 hh=> ?_) (fun h116 hh=> ?_)))))
 ·refine ι (S.n (ν (υ (ξ (θ z z (θ z z (κ (π (TL.s z z (θ z z ?_))))))))))
  obtain ⟨u15,hh⟩:=d6_ hh
  refine TL.isSl (i:=1) z (fun hs117 _ _=> ?_)
  refine ω z (af_ z e2_ sz3 z z hs117 (by omega)) (ψ 1 z z ?_)
  have hn118:(l112.set k114 (-1)).length=(replicate x2.toNat (0:Int)).length:=by rw [ls_];exact hn113
  refine ζ z (ay_ (-1) z sz3 z z z z ep_ i2_ (by omega) (by omega) ?_)
  refine TL.nil (B.n (S.n (π (ω z (OpVal.succ z z z (by omega)) (θ z z (κ ?_))))))
  obtain ⟨hh,hlt119⟩:=ey_ hR1 hh
  exact lf (((l112.set k114 (-1)),(k114+1)),()) hlt119 ⟨hh,hn118⟩ (δ [1] 2)
 refine TC.exit (S.x (S.x ?_))
 replace hh:=el_ hR1 hh
 refine Δ (S.n (ξ (ζ z (OpOk.lit (enc:=eI_) [0] z e2_ sz3 ze3 z z z ep_ (by decide) (by decide) (0:Int) z (by decide) z (by decide) i2_ (fun a120 c121=> ?_)))))
 refine TL.s z z (κ (ξ (TL.s z z (TL.s z z ?_))))
 obtain ⟨u23,hh⟩:=d6_ hh
 refine ω z (af_ (i:=0) z e2_ sz3 z z f1_0.rv.sl (by omega)) (ω z (al_ (0:Int) z ag3 z f1_0 (by omega) z) ?_)
 obtain ⟨u25,hh⟩:=d6_ hh
 refine TL.isSl (i:=2) z (fun hs123 _ _=> ?_)
 refine ω z (OpVal.index z e2_ sz3 z z hs123 u25.1 u25.2) (ψ 2 z z ?_)
 have hn124:(l112.set ((nth x1 0 0).toNat) 0).length=(replicate x2.toNat (0:Int)).length:=by rw [ls_];exact hn113
 refine ζ z (ay_ 0 z sz3 z z z z ep_ i2_ (by omega) (by omega) ?_)
 refine κ (ν (ξ (θ z z (κ (υ (TC.ao_ (α:=(N_1×N_1×Nat)×((Option Addr)×Nat)) (rgs [(10,2),(13,1),(31,44)]) (fun g=>[(10,.slice g.2.1 g.1.2.1.length g.2.2),(11,.int .i64 ((g.1.2.2:Nat):Int))]) (fun g=>[cq_ b101 x0 a0_0 c0_0 a0_1 c0_1 a0_2 c0_2 a0_3 c0_3,ε 3 1 eI_ (.slice a103 (replicate x2.toNat (0:Int)).length c104) g.1.1,ε 3 1 eI_ (.slice g.2.1 g.1.2.1.length g.2.2) g.1.2.1]) (fun g=>σ) (fun g=>eq_ (fun q:N_1×N_1×Nat=>B9_ x0 x1 q.1 q.2.1 q.2.2) g.1=some r∧g.1.1.length=(replicate x2.toNat (0:Int)).length) (fun g=>eh_ (fun q:N_1×N_1×Nat=>B9_ x0 x1 q.1 q.2.1 q.2.2) g.1) (((l112.set ((nth x1 0 0).toNat) 0),[0],0),(a120,c121)) (δ [1,1,2] 3) z (by repeat (first|exact trivial|refine ⟨z,?_⟩)) ⟨hh,hn124⟩ (fun g2 j2 hg2=> ?_)))))))
 obtain ⟨⟨l138,l140,k143⟩,⟨a141,c142⟩⟩:=g2
 obtain ⟨hh,hn139⟩:=hg2
 try dsimp only at hn139 ⊢
 obtain ⟨z1,hh,hR1⟩:=eo_ hh
 dsimp only [B9_]at hh
 refine η (i:=1) z (fun _ hb144 _=> ?_)
 refine η (i:=2) z (fun _ hb145 _=> ?_)
 refine ν (ξ (θ z z (TL.s z z (ω z (lenC z e2_ z) (ω z (OpVal.lss z z z) (κ (TC.cD z hh (fun h146 hh=> ?_) (fun h146 hh=> ?_))))))))
 ·refine ι (S.n (ν (υ (ν ?_))))
  obtain ⟨u38,hh⟩:=d6_ hh
  refine TC.draw [] (by kernel_rfl) (Ψ 0 z (aa_ z e8_ z) z (TA.b 1 z (ab_ z i0_ z (i:=0) z z) z (Ψ 2 z (aj_ (.inl z) z) z (Ψ 3 z (ai_ (.inl z) z) z (TA.isSl (i:=2) z (fun hs149 _ _=> ?_))))))
  refine TA.b 4 z (af_ z e2_ sz3 z z hs149 (by omega)) z (TA.b 5 z (a4_ (0:Int) z ag3 z (q:=2) z ep_ (by omega) z) z (TA.b 6 z (OpVal.index z fn_ fp_ z z f0_0.isSl u38.1 u38.2) z ?_))
  obtain ⟨p150,hk150,hg150⟩:=RZ.seg f0_0 ((nth l140 k143 0).toNat) (by omega)
  replace hk150:rS_ _ eI_ p150.1 p150.2 (nth x0.next ((nth l140 k143 0).toNat) []):=hk150
  have hk150b:=hk150.rv.big
  refine TA.b 7 z (OpVal.of (as_ z jx_ z hg150 z) (v':= .slice p150.1 ((nth x0.next ((nth l140 k143 0).toNat) []).length) p150.2) z) z (TA.b 8 z (lenC z e2_ z) z (Ψ 9 z (ai_ (.inl z) z) z (TA.dn (S.n (υ (TC.ao_ (α:=(N_1×N_1×Nat)×((Option Addr)×Nat)) (rgs [(10,1),(13,1),(46,29)]) (fun g=>[(10,.slice g.2.1 g.1.2.1.length g.2.2),(46,.int .i64 ((g.1.2.2:Nat):Int))]) (fun g=>[cq_ b101 x0 a0_0 c0_0 a0_1 c0_1 a0_2 c0_2 a0_3 c0_3,ε 3 1 eI_ (.slice a103 (replicate x2.toNat (0:Int)).length c104) g.1.1,ε 3 1 eI_ (.slice g.2.1 g.1.2.1.length g.2.2) g.1.2.1]) (fun g=>σ) (fun g=>eq_ (fun q:N_1×N_1×Nat=>A4_ x0 l140 k143 x1 q.1 q.2.1 q.2.2) g.1=some z1∧g.1.1.length=(replicate x2.toNat (0:Int)).length) (fun g=>eh_ (fun q:N_1×N_1×Nat=>A4_ x0 l140 k143 x1 q.1 q.2.1 q.2.2) g.1) ((l138,l140,0),(a141,c142)) (δ [2,2,2] 3) z (by repeat (first|exact trivial|refine ⟨z,?_⟩)) ⟨hh,hn139⟩ (fun g3 j3 hg3=> ?_)))))))
  obtain ⟨⟨l164,l166,k169⟩,⟨a167,c168⟩⟩:=g3
  obtain ⟨hh,hn165⟩:=hg3
  try dsimp only at hn165 ⊢
  obtain ⟨z2,hh,hR2⟩:=eo_ hh
  dsimp only [A4_]at hh
  refine η (i:=1) z (fun _ hb170 _=> ?_)
  refine η (i:=2) z (fun _ hb171 _=> ?_)
  refine ξ (ω z (OpVal.lss z z z) (κ (ν (TC.cD z hh (fun h172 hh=> ?_) (fun h172 hh=> ?_)))))
  ·refine ι (S.n (TC.cutG (α:=(N_1×N_1)×((Option Addr)×Nat)) (rgs [(10,1),(13,1),(48,26)]) (fun g=>[(10,.slice g.2.1 g.1.2.length g.2.2)]) (fun g=>[cq_ b101 x0 a0_0 c0_0 a0_1 c0_1 a0_2 c0_2 a0_3 c0_3,ε 3 1 eI_ (.slice a103 (replicate x2.toNat (0:Int)).length c104) g.1.1,ε 3 1 eI_ (.slice g.2.1 g.1.2.length g.2.2) g.1.2]) (fun g=>σ) (fun g=>C6_ k169 g.1.1 g.1.2=some z2∧g.1.1.length=(replicate x2.toNat (0:Int)).length) ?_ (fun g j hg=> ?_)))
   ·skip
    refine υ (ξ (ω z (af_ z e2_ sz3 z z hk150.rv.sl (by omega)) (ω z (al_ (0:Int) z ag3 z hk150 (by omega) z) (θ z z (κ (ξ (θ z z (ω z (OpVal.geq z z z) (TL.j z z (TL.split 52 z (fun h178=> ?_) (fun h178=> ?_)))))))))))
    ·replace hh:=ej_ h178 hh
     replace h178:=dt_ h178
     refine TL.g z (aj_ (.inl z) z) (TL.g z (aj_ (.inl z) z) (TL.g z (ai_ (.inl z) z) ?_))
     obtain ⟨u52,hh⟩:=d6_ hh
     refine TL.g z (OpVal.index z e2_ sz3 z z f1_0.rv.sl u52.1 u52.2) (TL.g z (al_ (0:Int) z ag3 z f1_0 (by omega) z) ?_)
     obtain ⟨u54,hh⟩:=d6_ hh
     refine TL.isSl (i:=1) z (fun hs179 _ _=> ?_)
     refine TL.g z (OpVal.index z e2_ sz3 z z hs179 u54.1 u54.2) (TL.g z (a4_ (0:Int) z ag3 z (q:=1) z ep_ (by omega) z) (TL.g z (OpVal.lss z z z) (ω z (ah_ z z z) (κ (TC.cD z hh (fun h180 hh=> ?_) (fun h180 hh=> ?_))))))
     ·refine ξ (TL.s z z (TL.s z z (θ z z ?_)))
      obtain ⟨u61,hh⟩:=d6_ hh
      refine ω z (OpVal.index z e2_ sz3 z z f1_0.rv.sl u61.1 u61.2) (ω z (al_ (0:Int) z ag3 z f1_0 (by omega) z) (TL.s z z (ω z (lenC z e2_ z) ?_)))
      obtain ⟨u65,hh⟩:=d6_ hh
      refine TL.isSl (i:=1) z (fun hs181 _ _=> ?_)
      refine ω z (OpVal.index z e2_ sz3 z z hs181 u65.1 u65.2) (ψ 1 z z ?_)
      have hn182:(l164.set ((nth x1 ((nth (nth x0.next ((nth l140 k143 0).toNat) []) k169 0).toNat) 0).toNat) ((l166.length:Nat):Int)).length=(replicate x2.toNat (0:Int)).length:=by rw [ls_];exact hn165
      refine ζ z (ay_ ((l166.length:Nat):Int) z sz3 z z z z ep_ i2_ (by omega) (by omega) ?_)
      refine κ (π (TL.s z z (θ z z (ζ z (OpOk.lit (enc:=eI_) [(nth (nth x0.next ((nth l140 k143 0).toNat) []) k169 0)] z e2_ sz3 ze3 z z z ep_ (by decide) (by decide) (0:Int) z (by decide) z (by decide) i2_ (fun a183 c184=> ?_))))))
      refine ψ 3 z z ?_
      obtain ⟨u70,hh⟩:=d6_ hh
      refine ζ z (av_ z z e2_ sz3 by3 ze3 z z (by decide) z z z (.inr ⟨_,0,z⟩) (by simpa using u70) (by decide) (fun a186 c187=> ?_))
      exact TL.s z z (TL.nil (B.n (S.n (cf (((l164.set ((nth x1 ((nth (nth x0.next ((nth l140 k143 0).toNat) []) k169 0).toNat) 0).toNat) ((l166.length:Nat):Int)),(l166++[(nth (nth x0.next ((nth l140 k143 0).toNat) []) k169 0)])),(a186,c187)) ⟨hh,hn182⟩ (δ [2,3] 3)))))
     exact ι (B.n (S.n (cf ((l164,l166),(a167,c168)) ⟨hh,hn165⟩ (δ [2,2,2] 3))))
    replace hh:=ei_ h178 hh
    replace h178:=df_ h178
    exact χ z (χ z (χ z (χ z (χ z (χ z (χ z (χ z (ω z (ag_ z z z) (κ (TC.f z (ι (B.n (S.n (cf ((l164,l166),(a167,c168)) ⟨hh,hn165⟩ (δ [2,2,2] 3)))))))))))))))
   skip
   obtain ⟨⟨l173,l175⟩,⟨a176,c177⟩⟩:=g
   obtain ⟨hh,hn174⟩:=hg
   try dsimp only at hn174 ⊢
   dsimp only [C6_]at hh
   refine η (i:=1) z (fun _ hb188 _=> ?_)
   refine η (i:=2) z (fun _ hb189 _=> ?_)
   refine π (ω z (OpVal.succ z z z (by omega)) (θ z z (κ ?_)))
   obtain ⟨hh,hlt190⟩:=ey_ hR2 hh
   exact lf ((l173,l175,(k169+1)),(a176,c177)) hlt190 ⟨hh,hn174⟩ (δ [2,2,2] 3)
  refine TC.exit (S.x (S.x ?_))
  replace hh:=el_ hR2 hh
  refine Δ (B.n (S.n (π (θ z z (ω z (OpVal.succ z z z (by omega)) (θ z z (κ ?_)))))))
  obtain ⟨hh,hlt191⟩:=ey_ hR1 hh
  exact lf ((l164,l166,(k143+1)),(a167,c168)) hlt191 ⟨hh,hn165⟩ (δ [2,2,2] 3)
 refine TC.exit (S.x (S.x ?_))
 replace hh:=el_ hR1 hh
 refine Δ (S.n (ξ (TL.s z z (TL.s z z (TL.s z z (TL.s z z (κ ?_)))))))
 rw [←hn139]
 refine TC.front 2 z z (TC.a3_ ep_ (fun τ194 hle193 hr192=> ?_))
 have hr192b:=hr192.rv.big
 refine TC.front 1 z z (TC.a3_ ep_ (fun τ197 hle196 hr195=> ?_))
 replace hr192:=hr192.mono hle196
 have hr195b:=hr195.rv.big
 refine TC.rt 0 ?_
 obtain rfl:=so hh
 exact rq [6,7] ⟨a141,c142,a103,c104,z,hr192,hr195,z⟩
def Bv_(x1:N_1)(x0:B_1)(l110:B_1)(k112:Nat):Option ((B_1×Nat)⊕(B_1)):=
 ec_ (decide ((k112:Int)<((x1.length:Nat):Int))) (grd (0≤(nth x1 k112 0)∧(nth x1 k112 0)<(x0.length:Int)) (grd (k112<l110.length) (nxt ((l110.set k112 (nth x0 ((nth x1 k112 0).toNat) false)),(k112+1))))) (fin (some l110))
def Fg_(x0:B_1)(x1:N_1):Option (B_1):=
 grd (1 * x1.length≤281474976710656) (eq_ (fun q:B_1×Nat=>Bv_ x1 x0 q.1 q.2) ((replicate x1.length false),0))
def H9_(σ:d0_)(r:B_1):Value→d0_→List Res→Prop:=fun v σ' H'=>
 ∃a1 c1,v= .slice a1 r.length c1∧σ=σ'∧H'=[rs_ 4 e1_ a1 c1 r]
theorem Gk_{σ:d0_}{x0:B_1}{x1:N_1}(f0_0:rS_ σ e1_ a0_0 c0_0 x0)(f1_0:rS_ σ eI_ a1_0 c1_0 x1){r:B_1}(hh:Fg_ x0 x1=some r):
  Con prog 68 #[.slice a0_0 x0.length c0_0,.slice a1_0 x1.length c1_0] σ [] (H9_ σ r):=by
 dsimp only [Fg_]at hh
 have f0_0b:=f0_0.rv.big
 have f1_0b:=f1_0.rv.big
 refine Con.mk (n:=27) Tryz.func68 z z z (fun w0=> ?_)
 refine ξ (TL.s z z (κ (ξ (TL.s z z (ω z (lenC z e2_ z) ?_)))))
 obtain ⟨u4,hh⟩:=d6_ hh
 refine ζ z (a2_ (enc:=e1_) false z h2_ sz4 by4 ze4 z z z z (by omega) (by decide) em_ (by decide) z fm_ (fun a101 c102=> ?_))
 refine TL.s z z (κ (ν (ξ (TL.s z z (ω z (lenC z e2_ z) (θ z z (κ (υ (TC.ao_ (α:=(B_1×Nat)×(Unit)) (rgs [(6,2),(13,13)]) (fun g=>[(13,.int .i64 ((g.1.2:Nat):Int))]) (fun g=>[ε 4 1 e1_ (.slice a101 (replicate x1.length false).length c102) g.1.1]) (fun g=>σ) (fun g=>eq_ (fun q:B_1×Nat=>Bv_ x1 x0 q.1 q.2) g.1=some r∧g.1.1.length=(replicate x1.length false).length) (fun g=>eh_ (fun q:B_1×Nat=>Bv_ x1 x0 q.1 q.2) g.1) (((replicate x1.length false),0),()) (Sub.pre 1 z) z (by repeat (first|exact trivial|refine ⟨z,?_⟩)) ⟨hh,z⟩ (fun g1 j1 hg1=> ?_))))))))))
 obtain ⟨⟨l110,k112⟩,_⟩:=g1
 obtain ⟨hh,hn111⟩:=hg1
 try dsimp only at hn111 ⊢
 obtain ⟨z1,hh,hR1⟩:=eo_ hh
 dsimp only [Bv_]at hh
 refine η (i:=0) z (fun _ hb113 _=> ?_)
 refine ξ (ω z (OpVal.lss z z z) (κ (ν (TC.cD z hh (fun h114 hh=> ?_) (fun h114 hh=> ?_)))))
 ·refine ι (S.n (ν (υ (ξ (θ z z (ω z (af_ z e2_ sz3 z z f1_0.rv.sl (by omega)) (ω z (al_ (0:Int) z ag3 z f1_0 (by omega) z) (θ z z (θ z z (κ (π (TL.s z z (θ z z (TL.s z z (θ z z ?_)))))))))))))))
  obtain ⟨u19,hh⟩:=d6_ hh
  refine ω z (OpVal.index z h2_ sz4 z z f0_0.rv.sl u19.1 u19.2) (ω z (al_ false z ag4 z f0_0 (by omega) z) ?_)
  obtain ⟨u21,hh⟩:=d6_ hh
  refine TL.isSl (i:=0) z (fun hs115 _ _=> ?_)
  refine ω z (af_ z h2_ sz4 z z hs115 (by omega)) ?_
  have hn116:(l110.set k112 (nth x0 ((nth x1 k112 0).toNat) false)).length=(replicate x1.length false).length:=by rw [ls_];exact hn111
  refine ζ z (ay_ (nth x0 ((nth x1 k112 0).toNat) false) z sz4 z z z z em_ fm_ (by omega) (by omega) ?_)
  refine TL.nil (B.n (S.n (π (ω z (OpVal.succ z z z (by omega)) (θ z z (κ ?_))))))
  obtain ⟨hh,hlt117⟩:=ey_ hR1 hh
  exact lf (((l110.set k112 (nth x0 ((nth x1 k112 0).toNat) false)),(k112+1)),()) hlt117 ⟨hh,hn116⟩ (Sub.pre 1 z)
 refine TC.exit (S.x (S.x ?_))
 replace hh:=el_ hR1 hh
 refine Δ (S.n (ξ (TL.s z z (TL.s z z (κ ?_)))))
 rw [←hn111]
 refine TC.ret ?_
 obtain rfl:=so hh
 exact ro [rs_ 4 e1_ a101 c102 l110] z (RVs.tmp z RVs.nil) ⟨a101,c102,z,z,z⟩
def Bs_(x1:N_1)(x0:T_2)(l110:T_2)(k112:Nat):Option ((T_2×Nat)⊕(T_2)):=
 ec_ (decide ((k112:Int)<((x1.length:Nat):Int))) (grd (0≤(nth x1 k112 0)∧(nth x1 k112 0)<(x0.length:Int)) (grd (k112<l110.length) (nxt ((l110.set k112 (nth x0 ((nth x1 k112 0).toNat) [])),(k112+1))))) (fin (some l110))
def Fa_(x0:T_2)(x1:N_1):Option (T_2):=
 grd (16 * x1.length≤281474976710656) (eq_ (fun q:T_2×Nat=>Bs_ x1 x0 q.1 q.2) ((replicate x1.length ([]:T_1)),0))
def H5_(σ:d0_)(r:T_2):Value→d0_→List Res→Prop:=fun v σ' H'=>
 ∃a1 c1,v= .slice a1 r.length c1∧σ=σ'∧H'=[rs_ 9 eS_ a1 c1 r]
theorem Fk_{σ:d0_}{x0:T_2}{x1:N_1}(f0_0:rS_ σ eS_ a0_0 c0_0 x0)(f1_0:rS_ σ eI_ a1_0 c1_0 x1){r:T_2}(hh:Fa_ x0 x1=some r):
  Con prog 69 #[.slice a0_0 x0.length c0_0,.slice a1_0 x1.length c1_0] σ [] (H5_ σ r):=by
 dsimp only [Fa_]at hh
 have f0_0b:=f0_0.rv.big
 have f1_0b:=f1_0.rv.big
 refine Con.mk (n:=27) Tryz.func69 z z z (fun w0=> ?_)
 refine ξ (TL.s z z (κ (ξ (TL.s z z (ω z (lenC z e2_ z) ?_)))))
 obtain ⟨u4,hh⟩:=d6_ hh
 refine ζ z (a2_ (enc:=eS_) ([]:T_1) z gw_ sz9 by9 ze9 z z z z (by omega) (by decide) es_ (by decide) z pn_ (fun a101 c102=> ?_))
 refine TL.s z z (κ (ν (ξ (TL.s z z (ω z (lenC z e2_ z) (θ z z (κ (υ (TC.ao_ (α:=(T_2×Nat)×(Unit)) (rgs [(6,2),(13,13)]) (fun g=>[(13,.int .i64 ((g.1.2:Nat):Int))]) (fun g=>[ε 9 1 eS_ (.slice a101 (replicate x1.length ([]:T_1)).length c102) g.1.1]) (fun g=>σ) (fun g=>eq_ (fun q:T_2×Nat=>Bs_ x1 x0 q.1 q.2) g.1=some r∧g.1.1.length=(replicate x1.length ([]:T_1)).length) (fun g=>eh_ (fun q:T_2×Nat=>Bs_ x1 x0 q.1 q.2) g.1) (((replicate x1.length ([]:T_1)),0),()) (Sub.pre 1 z) z (by repeat (first|exact trivial|refine ⟨z,?_⟩)) ⟨hh,z⟩ (fun g1 j1 hg1=> ?_))))))))))
 obtain ⟨⟨l110,k112⟩,_⟩:=g1
 obtain ⟨hh,hn111⟩:=hg1
 try dsimp only at hn111 ⊢
 obtain ⟨z1,hh,hR1⟩:=eo_ hh
 dsimp only [Bs_]at hh
 refine η (i:=0) z (fun _ hb113 _=> ?_)
 refine ξ (ω z (OpVal.lss z z z) (κ (ν (TC.cD z hh (fun h114 hh=> ?_) (fun h114 hh=> ?_)))))
 ·refine ι (S.n (ν (υ (ξ (θ z z (ω z (af_ z e2_ sz3 z z f1_0.rv.sl (by omega)) (ω z (al_ (0:Int) z ag3 z f1_0 (by omega) z) (θ z z (θ z z (κ (π (TL.s z z (θ z z (TL.s z z (θ z z ?_)))))))))))))))
  obtain ⟨u19,hh⟩:=d6_ hh
  refine ω z (OpVal.index z gw_ sz9 z z f0_0.rv.sl u19.1 u19.2) (ω z (al_ ([]:T_1) z ag9 z f0_0 (by omega) z) ?_)
  obtain ⟨u21,hh⟩:=d6_ hh
  refine TL.isSl (i:=0) z (fun hs115 _ _=> ?_)
  refine ω z (af_ z gw_ sz9 z z hs115 (by omega)) ?_
  have hn116:(l110.set k112 (nth x0 ((nth x1 k112 0).toNat) [])).length=(replicate x1.length ([]:T_1)).length:=by rw [ls_];exact hn111
  refine ζ z (ay_ (nth x0 ((nth x1 k112 0).toNat) []) z sz9 z z z z es_ pn_ (by omega) (by omega) ?_)
  refine TL.nil (B.n (S.n (π (ω z (OpVal.succ z z z (by omega)) (θ z z (κ ?_))))))
  obtain ⟨hh,hlt117⟩:=ey_ hR1 hh
  exact lf (((l110.set k112 (nth x0 ((nth x1 k112 0).toNat) [])),(k112+1)),()) hlt117 ⟨hh,hn116⟩ (Sub.pre 1 z)
 refine TC.exit (S.x (S.x ?_))
 replace hh:=el_ hR1 hh
 refine Δ (S.n (ξ (TL.s z z (TL.s z z (κ ?_)))))
 rw [←hn111]
 refine TC.ret ?_
 obtain rfl:=so hh
 exact ro [rs_ 9 eS_ a101 c102 l110] z (RVs.tmp z RVs.nil) ⟨a101,c102,z,z,z⟩
def Eq_(k257:Nat)(l269:N_1):Option ((N_1×Nat)⊕((N_2×T_3×Nat)⊕(Seq×Int))):=
 nxt (l269,(k257+1))
def Cd_(v24:N_1×Int)(v33:N_1×N_1)(l171:N_2)(l177:T_3)(v5:Seq×Int)(k182:Nat)(l254:N_1)(k257:Nat):Option ((N_1×Nat)⊕((N_2×T_3×Nat)⊕(Seq×Int))):=
 ec_ (decide ((k257:Int)<(((replicate 256 (0:Int)).length:Nat):Int))) (grd (k257<l254.length) (ec_ (decide (0≤(nth l254 k257 0))) (grd (0≤(nth l254 k257 0)∧(nth l254 k257 0)<(v24.1.length:Int)) (grd (0≤(nth v24.1 ((nth l254 k257 0).toNat) 0)∧(nth v24.1 ((nth l254 k257 0).toNat) 0)<(v33.2.length:Int)) (grd (k257<l254.length) (Eq_ k257 (l254.set k257 (nth v33.2 ((nth v24.1 ((nth l254 k257 0).toNat) 0).toNat) 0)))))) (Eq_ k257 l254))) (fin (grd ((l171.length+[l254].length) * 24≤140737488355328) (grd ((l177.length+[((replicate 256 ([]:T_1)).take 0++((nth v5.1.outs ((nth v33.1 k182 0).toNat) []).take (min (nth v5.1.outs ((nth v33.1 k182 0).toNat) []).length (replicate 256 ([]:T_1)).length)++(replicate 256 ([]:T_1)).drop (0+(min (nth v5.1.outs ((nth v33.1 k182 0).toNat) []).length (replicate 256 ([]:T_1)).length))))].length) * 24≤140737488355328) (nxt ((l171++[l254]),(l177++[((replicate 256 ([]:T_1)).take 0++((nth v5.1.outs ((nth v33.1 k182 0).toNat) []).take (min (nth v5.1.outs ((nth v33.1 k182 0).toNat) []).length (replicate 256 ([]:T_1)).length)++(replicate 256 ([]:T_1)).drop (0+(min (nth v5.1.outs ((nth v33.1 k182 0).toNat) []).length (replicate 256 ([]:T_1)).length))))]),(k182+1))))))
def Ep_(v33:N_1×N_1)(k182:Nat)(v5:Seq×Int)(v24:N_1×Int)(l171:N_2)(l177:T_3):Option ((N_2×T_3×Nat)⊕(Seq×Int)):=
 grd (0≤(nth v33.1 k182 0)∧(nth v33.1 k182 0)<(v5.1.next.length:Int)) (grd (0≤(nth v33.1 k182 0)∧(nth v33.1 k182 0)<(v5.1.outs.length:Int)) (eq_ (fun q:N_1×Nat=>Cd_ v24 v33 l171 l177 v5 k182 q.1 q.2) (((replicate 256 (0:Int)).take 0++((nth v5.1.next ((nth v33.1 k182 0).toNat) []).take (min (nth v5.1.next ((nth v33.1 k182 0).toNat) []).length (replicate 256 (0:Int)).length)++(replicate 256 (0:Int)).drop (0+(min (nth v5.1.next ((nth v33.1 k182 0).toNat) []).length (replicate 256 (0:Int)).length)))),0)))
def Cf_(v33:N_1×N_1)(v5:Seq×Int)(v24:N_1×Int)(l113:B_1)(l117:T_2)(l171:N_2)(l177:T_3)(k182:Nat):Option ((N_2×T_3×Nat)⊕(Seq×Int)):=
 ec_ (decide ((k182:Int)<((v33.1.length:Nat):Int))) (Ep_ v33 k182 v5 v24 l171 l177) (fin (some ((⟨v5.1.front,l171,l177,l113,l117⟩:Seq),0)))
def Fq_(v33:N_1×N_1)(v5:Seq×Int)(v24:N_1×Int)(l113:B_1)(l117:T_2):Option (Seq×Int):=
 eq_ (fun q:N_2×T_3×Nat=>Cf_ v33 v5 v24 l113 l117 q.1 q.2.1 q.2.2) (([]:N_2),([]:T_3),0)
def B3_(x0:Seq):Option (Seq×Int):=
 bnd (E1_ x0) (fun v5=>ec_ (decide (v5.2≠0)) (some ((⟨([]:T_1),([]:N_2),([]:T_3),([]:B_1),([]:T_2)⟩:Seq),v5.2)) (ec_ (decide (((v5.1.next.length:Nat):Int)=0)) (some ((⟨([]:T_1),([]:N_2),([]:T_3),([]:B_1),([]:T_2)⟩:Seq),v5.2)) (bnd (Fc_ v5.1) (fun v24=>bnd (En_ v5.1 v24.1 v24.2) (fun v33=>bnd (Fg_ v5.1.fin v33.1) (fun v44=>bnd (Fa_ v5.1.tail v33.1) (fun v48=>Fq_ v33 v5 v24 v44 v48)))))))
def In_(σ:d0_)(r:Seq×Int):Value→d0_→List Res→Prop:=fun v σ' H'=>
 ∃a1 c1 a2 c2 a3 c3 a4 c4,v= .tuple #[.agg (aq_ r.1 a1 c1 a2 c2 a3 c3 a4 c4),.int .i64 r.2]∧RZ σ' (ea_ 1 eI_ ep_) (.slice a1 r.1.next.length c1) r.1.next∧RZ σ' (ea_ 1 eS_ es_) (.slice a2 r.1.outs.length c2) r.1.outs∧rS_ σ' e1_ a3 c3 r.1.fin∧rS_ σ' eS_ a4 c4 r.1.tail∧H'=[]
theorem Fe_{σ:d0_}{x0:Seq}(hgl:GT2 σ 1 2)(f0_0:RZ σ (ea_ 1 eI_ ep_) (.slice a0_0 x0.next.length c0_0) x0.next)(f0_1:RZ σ (ea_ 1 eS_ es_) (.slice a0_1 x0.outs.length c0_1) x0.outs)(f0_2:rS_ σ e1_ a0_2 c0_2 x0.fin)(f0_3:rS_ σ eS_ a0_3 c0_3 x0.tail){r:Seq×Int}(hh:B3_ x0=some r):
  Con prog 29 #[.agg (aq_ x0 a0_0 c0_0 a0_1 c0_1 a0_2 c0_2 a0_3 c0_3)] σ [] (In_ σ r):=by
 dsimp only [B3_]at hh
 have f0_0b:=f0_0.big
 have f0_1b:=f0_1.big
 have f0_2b:=f0_2.rv.big
 have f0_3b:=f0_3.rv.big
 refine Con.mk (n:=110) Tryz.func29 z z z (fun w0=> ?_)
 refine ξ (ζ z (boxA z z z z (fun b101=> ?_)))
 refine ζ z (OpOk.alloc z ju_ z z (fun b103=> ?_))
 refine θ z z (κ (ξ (ω z (ak_ z h1_ fs_ z (i:=1) z z) ?_)))
 obtain ⟨v5,u5,hh⟩:=eb_ hh
 refine ζ z (OpOk.call (H0_ (x0:=x0) f0_0 f0_1 f0_2 f0_3 u5) z z pf35 z z z z ?_)
 rintro _ τ105 _ hle105 ⟨a105_1,c105_1,a105_2,c105_2,a105_3,c105_3,a105_4,c105_4,rfl,hr105_0,hr105_1,hr105_2,hr105_3,rfl⟩
 replace hgl:=hgl.mono hle105
 have hr105_0b:=hr105_0.big
 have hr105_1b:=hr105_1.big
 have hr105_2b:=hr105_2.rv.big
 have hr105_3b:=hr105_3.rv.big
 refine ω z (a8_ (.inl z) z) (ω z (OpVal.extract z z z) (ω z (OpVal.extract z z z) (ψ 1 z z (ζ z (storeAll z fs_ z z z z z z ?_)))))
 refine θ z z (κ (ν (ξ (θ z z (ω z (OpVal.neq z z z) (TL.j z z (TL.split 23 z (fun h106=> ?_) (fun h106=> ?_))))))))
 ·replace hh:=ej_ h106 hh
  replace h106:=dt_ h106
  refine χ z (χ z (χ z (χ z (ω z (ah_ z z z) (κ (TC.t z (ξ (ω z (an_ z q5_ ju_ z) (θ z z (ψ 1 z z (ζ z (storeAll z fs_ z z z z z z ?_))))))))))))
  refine θ z z (κ (TC.rt 1 (S.r ?_)))
  obtain rfl:=so hh
  exact ro [] z (RVs.agg h1_ fs_ z (i:=0) z z (RVs.tmp z RVs.nil)) ⟨none,0,none,0,none,0,none,0,z,(RZ.nilF _ (ea_ 1 eI_ ep_)),(RZ.nilF _ (ea_ 1 eS_ es_)),(RS.nilF _ e1_ em_),(RS.nilF _ eS_ es_),z⟩
 replace hh:=ei_ h106 hh
 replace h106:=df_ h106
 refine TL.g z (aa_ z e8_ z) (TL.g z (ab_ z i0_ z (i:=0) z z) (TL.g z (lenC z fn_ z) (TL.g z (OpVal.eql z z z) (ω z (ag_ z z z) (κ (TC.cD z hh (fun h107 hh=> ?_) (fun h107 hh=> ?_)))))))
 ·refine ξ (ω z (an_ z q5_ ju_ z) (θ z z (ψ 1 z z (ζ z (storeAll z fs_ z z z z z z ?_)))))
  refine θ z z (κ (TC.rt 1 (S.r ?_)))
  obtain rfl:=so hh
  exact ro [] z (RVs.agg h1_ fs_ z (i:=0) z z (RVs.tmp z RVs.nil)) ⟨none,0,none,0,none,0,none,0,z,(RZ.nilF _ (ea_ 1 eI_ ep_)),(RZ.nilF _ (ea_ 1 eS_ es_)),(RS.nilF _ e1_ em_),(RS.nilF _ eS_ es_),z⟩
 refine ι (S.n (ξ (ω z (ak_ z h1_ fs_ z (i:=0) z z) ?_)))
 obtain ⟨v24,u24,hh⟩:=eb_ hh
 refine ζ z (OpOk.call (Ht_ (x0:=v5.1) hgl hr105_0 hr105_1 hr105_2 hr105_3 u24) z z pf66 z z z z ?_)
 rintro _ τ108 _ hle108 ⟨a108_1,c108_1,rfl,hr108_0,rfl⟩
 replace hr105_0:=hr105_0.mono hle108
 replace hr105_1:=hr105_1.mono hle108
 replace hr105_2:=hr105_2.mono hle108
 replace hr105_3:=hr105_3.mono hle108
 have hr108_0b:=hr108_0.rv.big
 refine ω z (a8_ (.inl z) z) (ω z (OpVal.extract z z z) (ω z (OpVal.extract z z z) (TL.s z z (θ z z (κ (ξ (ω z (ak_ z h1_ fs_ z (i:=0) z z) (TL.s z z (θ z z ?_)))))))))
 obtain ⟨v33,u33,hh⟩:=eb_ hh
 refine ζ z (OpOk.call (Hr_ (x0:=v5.1) hr105_0 hr105_1 hr105_2 hr105_3 hr108_0 u33) z z pf67 z z z z ?_)
 rintro _ τ109 _ hle109 ⟨a109_1,c109_1,a109_2,c109_2,rfl,hr109_0,hr109_1,rfl⟩
 replace hr105_0:=hr105_0.mono hle109
 replace hr105_1:=hr105_1.mono hle109
 replace hr105_2:=hr105_2.mono hle109
 replace hr105_3:=hr105_3.mono hle109
 replace hr108_0:=hr108_0.mono hle109
 have hr109_0b:=hr109_0.rv.big
 have hr109_1b:=hr109_1.rv.big
 refine ω z (a8_ (.inl z) z) (ω z (OpVal.extract z z z) (ω z (OpVal.extract z z z) (TL.s z z (TL.s z z (κ (TC.cutG (α:=(B_1×T_2)×(Nat×(Option Addr)×Nat×(Option Addr)×Nat)) (rgs [(9,1),(43,11)]) (fun g=>[(9,loc g.2.1 0)]) (fun g=>[cq_ b101 v5.1 a105_1 c105_1 a105_2 c105_2 a105_3 c105_3 a105_4 c105_4,φ b103 #[.string (bs ([]:T_1)),nl_,nl_,nl_,nl_] 32,φ g.2.1 #[.string (bs v5.1.front),nl_,nl_,.slice g.2.2.1 g.1.1.length g.2.2.2.1,.slice g.2.2.2.2.1 g.1.2.length g.2.2.2.2.2] 32,ε 4 1 e1_ (.slice g.2.2.1 g.1.1.length g.2.2.2.1) g.1.1,ε 9 1 eS_ (.slice g.2.2.2.2.1 g.1.2.length g.2.2.2.2.2) g.1.2]) (fun g=>τ109) (fun g=>Fq_ v33 v5 v24 g.1.1 g.1.2=some r) ?_ (fun g j hg=> ?_)))))))
 ·skip
  obtain ⟨v44,u44,hh⟩:=eb_ hh
  obtain ⟨v48,u48,hh⟩:=eb_ hh
  refine TC.draw [12] (by kernel_rfl) (Ψ 0 z (aa_ z ib_ z) z (TA.b 1 z (ab_ z ag9 z (i:=0) z z) z (Ψ 2 z (aa_ z gq_ z) z (TA.b 3 z (ab_ z nz_ z (i:=0) z z) z (Ψ 4 z (aj_ (.inl z) z) z (Ψ 6 z (aa_ z g0_ z) z (TA.b 7 z (ab_ z kv_ z (i:=0) z z) z (Ψ 8 z (aj_ (.inl z) z) z (TA.actN [5,11] (by kernel_rfl) (an z z (OpOk.call (Gk_ hr105_2 hr109_0 u44) z z pf68 z z z z ?_) (an z z (OpOk.alloc z ju_ z z (fun b128=>(k1 ?_))) (True.intro))))))))))))
  ·skip
   rintro _ _ _ hle126 ⟨a126_1,c126_1,rfl,rfl,rfl⟩
   refine k1 (TA.actN [9,11] (by kernel_rfl) (an z z (OpOk.call (Fk_ hr105_3 hr109_0 u48) z z pf69 z z z z ?_) (an z z (OpOk.alloc z ju_ z z (fun b132=>(k2 ?_))) (True.intro))))
   ·skip
    rintro _ _ _ hle130 ⟨a130_1,c130_1,rfl,rfl,rfl⟩
    refine k2 (Ψ 10 z (an_ z q5_ ju_ z) z (TA.ac 11 z (OpOk.alloc z ju_ z z (fun b134=>(k3 ?_)))))
    refine TA.last 12 (by kernel_rfl) z z z (storeAll z fs_ z z z z z z ?_)
    exact TZ.done (by kernel_rfl) (S.n (cf ((v44,v48),(b134,a126_1,c126_1,a130_1,c130_1)) hh (δ [1,2,2,4,4] 5)))
   skip
   refine TA.ac 9 z (OpOk.call (Fk_ hr105_3 hr109_0 u48) z z pf69 z z z z ?_)
   rintro _ _ _ hle136 ⟨a136_1,c136_1,rfl,rfl,rfl⟩
   refine k3 (Ψ 10 z (an_ z q5_ ju_ z) z (TA.front 1 z z (TA.last 12 (by kernel_rfl) z z z (storeAll z fs_ z z z z z z ?_))))
   exact TZ.done (by kernel_rfl) (S.n (cf ((v44,v48),(b132,a126_1,c126_1,a136_1,c136_1)) hh (δ [1,2,2,4,4] 5)))
  skip
  refine TA.ac 5 z (OpOk.call (Gk_ hr105_2 hr109_0 u44) z z pf68 z z z z ?_)
  rintro _ _ _ hle138 ⟨a138_1,c138_1,rfl,rfl,rfl⟩
  refine k2 (TA.ac 9 z (OpOk.call (Fk_ hr105_3 hr109_0 u48) z z pf69 z z z z ?_))
  rintro _ _ _ hle140 ⟨a140_1,c140_1,rfl,rfl,rfl⟩
  refine k3 (Ψ 10 z (an_ z q5_ ju_ z) z (TA.front 2 z z (TA.last 12 (by kernel_rfl) z z z (storeAll z fs_ z z z z z z ?_))))
  exact TZ.done (by kernel_rfl) (S.n (cf ((v44,v48),(b128,a138_1,c138_1,a140_1,c140_1)) hh (δ [1,2,2,4,4] 5)))
 skip
 obtain ⟨⟨l113,l117⟩,⟨b111,a114,c115,a118,c119⟩⟩:=g
 have hh:=hg;clear hg
 try dsimp only
 dsimp only [Fq_]at hh
 refine η (i:=3) z (fun _ hb142 _=> ?_)
 refine η (i:=4) z (fun _ hb143 _=> ?_)
 refine ν (ξ (TL.s z z (ω z (lenC z e2_ z) (θ z z (κ (υ (TC.nilS 86 1 (ea_ 1 eI_ ep_).en ?_)))))))
 have zf183:=ZOk.nil τ109 (ea_ 1 eI_ ep_)
 refine TC.nilS 30 1 (ea_ 1 eS_ es_).en ?_
 have zf185:=ZOk.nil τ109 (ea_ 1 eS_ es_)
 refine TC.ao_ (α:=(N_2×T_3×Nat)×((Option Addr)×Nat×(List (N_1×(ea_ 1 eI_ ep_).P))×(Option Addr)×Nat×(List (T_2×(ea_ 1 eS_ es_).P))×d0_)) (rgs [(11,5),(56,53)]) (fun g=>[(56,.int .i64 ((g.1.2.2:Nat):Int))]) (fun g=>[cq_ b101 v5.1 a105_1 c105_1 a105_2 c105_2 a105_3 c105_3 a105_4 c105_4,φ b103 #[.string (bs ([]:T_1)),nl_,nl_,nl_,nl_] 32,φ b111 #[.string (bs v5.1.front),.slice g.2.1 g.1.1.length g.2.2.1,.slice g.2.2.2.2.1 g.1.2.1.length g.2.2.2.2.2.1,.slice a114 l113.length c115,.slice a118 l117.length c119] 32,ε 86 1 (ea_ 1 eI_ ep_).en (.slice g.2.1 g.1.1.length g.2.2.1) g.2.2.2.1,ε 30 1 (ea_ 1 eS_ es_).en (.slice g.2.2.2.2.1 g.1.2.1.length g.2.2.2.2.2.1) g.2.2.2.2.2.2.1,rs_ 4 e1_ a114 c115 l113,rs_ 9 eS_ a118 c119 l117]) (fun g=>g.2.2.2.2.2.2.2) (fun g=>eq_ (fun q:N_2×T_3×Nat=>Cf_ v33 v5 v24 l113 l117 q.1 q.2.1 q.2.2) g.1=some r∧ZOk g.2.2.2.2.2.2.2 (ea_ 1 eI_ ep_) g.2.2.2.1 g.1.1∧ZOk g.2.2.2.2.2.2.2 (ea_ 1 eS_ es_) g.2.2.2.2.2.2.1 g.1.2.1∧d0_.le τ109 g.2.2.2.2.2.2.2) (fun g=>eh_ (fun q:N_2×T_3×Nat=>Cf_ v33 v5 v24 l113 l117 q.1 q.2.1 q.2.2) g.1) ((([]:N_2),([]:T_3),0),(none,0,[],none,0,[],τ109)) (δ [6,6,2,3,6,6,6] 7) z (by repeat (first|exact trivial|refine ⟨z,?_⟩)) ⟨hh,zf183,zf185,(d0_.le.refl _)⟩ (fun g1 j1 hg1=> ?_)
 obtain ⟨⟨l171,l177,k182⟩,⟨a172,c173,z174,a178,c179,z180,τ187⟩⟩:=g1
 obtain ⟨hh,zf175,zf181,hle188⟩:=hg1
 try dsimp only at zf175
 try dsimp only at zf181
 dsimp only at hle188
 replace hr105_0:=hr105_0.mono hle188
 replace hr105_1:=hr105_1.mono hle188
 replace hr108_0:=hr108_0.mono hle188
 replace hr109_0:=hr109_0.mono hle188
 replace hr109_1:=hr109_1.mono hle188
 try dsimp only
 obtain ⟨z1,hh,hR1⟩:=eo_ hh
 dsimp only [Cf_]at hh
 have zf175b:=zf175.length
 have zf181b:=zf181.length
 refine η (i:=3) z (fun _ hb189 _=> ?_)
 refine η (i:=4) z (fun _ hb190 _=> ?_)
 refine η (i:=5) z (fun _ hb191 _=> ?_)
 refine η (i:=6) z (fun _ hb192 _=> ?_)
 refine ξ (ω z (OpVal.lss z z z) (κ (ν (TC.cD z hh (fun h193 hh=> ?_) (fun h193 hh=> ?_)))))
 ·refine ι (S.n (ν (υ (ξ (ω z (af_ z e2_ sz3 z z hr109_0.rv.sl (by omega)) (ω z (al_ (0:Int) z ag3 z hr109_0 (by omega) z) (θ z z (κ (TC.cutG (α:=(Unit)×((Option Addr)×Nat×(Option Addr)×Nat×d0_)) [12,13,60,61] (fun g=>[(12,.slice g.2.1 ((replicate 256 (0:Int)).length) g.2.2.1),(13,.slice g.2.2.2.1 ((replicate 256 ([]:T_1)).length) g.2.2.2.2.1)]) (fun g=>[cq_ b101 v5.1 a105_1 c105_1 a105_2 c105_2 a105_3 c105_3 a105_4 c105_4,φ b103 #[.string (bs ([]:T_1)),nl_,nl_,nl_,nl_] 32,φ b111 #[.string (bs v5.1.front),.slice a172 l171.length c173,.slice a178 l177.length c179,.slice a114 l113.length c115,.slice a118 l117.length c119] 32,ε 86 1 (ea_ 1 eI_ ep_).en (.slice a172 l171.length c173) z174,ε 30 1 (ea_ 1 eS_ es_).en (.slice a178 l177.length c179) z180,rs_ 4 e1_ a114 c115 l113,rs_ 9 eS_ a118 c119 l117,ε 3 1 eI_ (.slice g.2.1 (replicate 256 (0:Int)).length g.2.2.1) (replicate 256 (0:Int)),ε 9 1 eS_ (.slice g.2.2.2.1 (replicate 256 ([]:T_1)).length g.2.2.2.2.1) (replicate 256 ([]:T_1))]) (fun g=>g.2.2.2.2.2) (fun g=>Ep_ v33 k182 v5 v24 l171 l177=some z1∧ZOk g.2.2.2.2.2 (ea_ 1 eI_ ep_) z174 l171∧ZOk g.2.2.2.2.2 (ea_ 1 eS_ es_) z180 l177∧d0_.le τ187 g.2.2.2.2.2) ?_ (fun g j hg=> ?_))))))))))
  ·skip
   refine TC.draw [] (by kernel_rfl) (TA.actN [0,1] (by kernel_rfl) (an z z (a2_ (m:=256) (enc:=eI_) (0:Int) z e2_ sz3 by3 ze3 z z z z (by omega) (by decide) ep_ (by decide) z i2_ (fun a208 c209=>(k1 ?_))) (an z z (a2_ (m:=256) (enc:=eS_) ([]:T_1) z gw_ sz9 by9 ze9 z z z z (by omega) (by decide) es_ (by decide) z pn_ (fun a211 c212=>(k1 ?_))) (True.intro))))
   ·skip
    refine Ψ 2 z (aj_ (.inr z) z) z (TA.ac 1 z (a2_ (m:=256) (enc:=eS_) ([]:T_1) z gw_ sz9 by9 ze9 z z z z (by omega) (by decide) es_ (by decide) z pn_ (fun a214 c215=>(k2 ?_))))
    exact Ψ 3 z (aj_ (.inr z) z) z (TA.dn (S.n (cf ((),(a208,c209,a214,c215,τ187)) ⟨hh,zf175,zf181,(d0_.le.refl _)⟩ (δ [1,8,8,8,8,8,8,8] 9))))
   skip
   refine TA.ac 0 z (a2_ (m:=256) (enc:=eI_) (0:Int) z e2_ sz3 by3 ze3 z z z z (by omega) (by decide) ep_ (by decide) z i2_ (fun a217 c218=>(k2 ?_)))
   exact Ψ 2 z (aj_ (.inr z) z) z (Ψ 3 z (aj_ (.inr z) z) z (TA.dn (S.n (cf ((),(a217,c218,a211,c212,τ187)) ⟨hh,zf175,zf181,(d0_.le.refl _)⟩ (δ [1,1,8,8,8,8,8,8,8] 9)))))
  skip
  obtain ⟨_,⟨a197,c198,a200,c201,τ220⟩⟩:=g
  obtain ⟨hh,zf194,zf195,hle221⟩:=hg
  try dsimp only at zf194
  try dsimp only at zf195
  dsimp only at hle221
  replace hr105_0:=hr105_0.mono hle221
  replace hr105_1:=hr105_1.mono hle221
  replace hr108_0:=hr108_0.mono hle221
  replace hr109_1:=hr109_1.mono hle221
  replace zf175:=zf175.mono hle221
  replace zf181:=zf181.mono hle221
  try dsimp only
  dsimp only [Ep_]at hh
  have zf194b:=zf194.length
  have zf195b:=zf195.length
  refine η (i:=3) z (fun _ hb222 _=> ?_)
  refine η (i:=4) z (fun _ hb223 _=> ?_)
  refine η (i:=5) z (fun _ hb224 _=> ?_)
  refine η (i:=6) z (fun _ hb225 _=> ?_)
  refine η (i:=7) z (fun _ hb226 _=> ?_)
  refine η (i:=8) z (fun _ hb227 _=> ?_)
  refine ξ (TL.s z z (ω z (aa_ z e8_ z) (ω z (ab_ z i0_ z (i:=0) z z) (θ z z ?_))))
  obtain ⟨u67,hh⟩:=d6_ hh
  refine ω z (OpVal.index z fn_ fp_ z z hr105_0.isSl u67.1 u67.2) ?_
  obtain ⟨p228,hk228,hg228⟩:=RZ.seg hr105_0 ((nth v33.1 k182 0).toNat) (by omega)
  replace hk228:rS_ _ eI_ p228.1 p228.2 (nth v5.1.next ((nth v33.1 k182 0).toNat) []):=hk228
  have hk228b:=hk228.rv.big
  refine ω z (OpVal.of (as_ z jx_ z hg228 z) (v':= .slice p228.1 ((nth v5.1.next ((nth v33.1 k182 0).toNat) []).length) p228.2) z) (TL.isSl (i:=7) z (fun hs229 _ _=> ?_))
  refine ψ 7 z z ?_
  have hn231:((replicate 256 (0:Int)).take 0++((nth v5.1.next ((nth v33.1 k182 0).toNat) []).take (min (nth v5.1.next ((nth v33.1 k182 0).toNat) []).length (replicate 256 (0:Int)).length)++(replicate 256 (0:Int)).drop (0+(min (nth v5.1.next ((nth v33.1 k182 0).toNat) []).length (replicate 256 (0:Int)).length)))).length=(replicate 256 (0:Int)).length:=by simp only [la_,List.length_take,List.length_drop];omega
  refine ζ rfl (dd_ (p:=0) (N:=(min (nth v5.1.next ((nth v33.1 k182 0).toNat) []).length (replicate 256 (0:Int)).length)) rfl e2_ sz3 rfl rfl rfl (VwOk.self hs229) rfl rfl (by omega) rfl (SrcC.sealed hk228 ep_) ep_ (by decide) i2_ (by first|rfl|((try simp only [List.length_take]);omega)) ?_)
  refine κ (ξ (TL.s z z (ω z (aa_ z fy_ z) (ω z (ab_ z m4_ z (i:=1) z z) (θ z z ?_)))))
  obtain ⟨u74,hh⟩:=d6_ hh
  refine ω z (OpVal.index z l4_ kn_ z z hr105_1.isSl u74.1 u74.2) ?_
  obtain ⟨p232,hk232,hg232⟩:=RZ.seg hr105_1 ((nth v33.1 k182 0).toNat) (by omega)
  replace hk232:rS_ _ eS_ p232.1 p232.2 (nth v5.1.outs ((nth v33.1 k182 0).toNat) []):=hk232
  have hk232b:=hk232.rv.big
  refine ω z (OpVal.of (as_ z kv_ z hg232 z) (v':= .slice p232.1 ((nth v5.1.outs ((nth v33.1 k182 0).toNat) []).length) p232.2) z) (TL.isSl (i:=8) z (fun hs233 _ _=> ?_))
  refine ψ 8 z z ?_
  have hn235:((replicate 256 ([]:T_1)).take 0++((nth v5.1.outs ((nth v33.1 k182 0).toNat) []).take (min (nth v5.1.outs ((nth v33.1 k182 0).toNat) []).length (replicate 256 ([]:T_1)).length)++(replicate 256 ([]:T_1)).drop (0+(min (nth v5.1.outs ((nth v33.1 k182 0).toNat) []).length (replicate 256 ([]:T_1)).length)))).length=(replicate 256 ([]:T_1)).length:=by simp only [la_,List.length_take,List.length_drop];omega
  refine ζ rfl (dd_ (p:=0) (N:=(min (nth v5.1.outs ((nth v33.1 k182 0).toNat) []).length (replicate 256 ([]:T_1)).length)) rfl gw_ sz9 rfl rfl rfl (VwOk.self hs233) rfl rfl (by omega) rfl (SrcC.sealed hk232 es_) es_ (by decide) pn_ (by first|rfl|((try simp only [List.length_take]);omega)) ?_)
  refine κ (ν (ξ (TL.s z z (ω z (lenC z e2_ z) (θ z z (κ (υ (TC.ao_ (α:=(N_1×Nat)×(d0_)) (rgs [(14,2),(78,18)]) (fun g=>[(78,.int .i64 ((g.1.2:Nat):Int))]) (fun g=>[cq_ b101 v5.1 a105_1 c105_1 a105_2 c105_2 a105_3 c105_3 a105_4 c105_4,φ b103 #[.string (bs ([]:T_1)),nl_,nl_,nl_,nl_] 32,φ b111 #[.string (bs v5.1.front),.slice a172 l171.length c173,.slice a178 l177.length c179,.slice a114 l113.length c115,.slice a118 l117.length c119] 32,ε 86 1 (ea_ 1 eI_ ep_).en (.slice a172 l171.length c173) z174,ε 30 1 (ea_ 1 eS_ es_).en (.slice a178 l177.length c179) z180,rs_ 4 e1_ a114 c115 l113,rs_ 9 eS_ a118 c119 l117,ε 3 1 eI_ (.slice a197 (replicate 256 (0:Int)).length c198) g.1.1,ε 9 1 eS_ (.slice a200 (replicate 256 ([]:T_1)).length c201) ((replicate 256 ([]:T_1)).take 0++((nth v5.1.outs ((nth v33.1 k182 0).toNat) []).take (min (nth v5.1.outs ((nth v33.1 k182 0).toNat) []).length (replicate 256 ([]:T_1)).length)++(replicate 256 ([]:T_1)).drop (0+(min (nth v5.1.outs ((nth v33.1 k182 0).toNat) []).length (replicate 256 ([]:T_1)).length))))]) (fun g=>g.2) (fun g=>eq_ (fun q:N_1×Nat=>Cd_ v24 v33 l171 l177 v5 k182 q.1 q.2) g.1=some z1∧ZOk g.2 (ea_ 1 eI_ ep_) z174 l171∧ZOk g.2 (ea_ 1 eS_ es_) z180 l177∧g.1.1.length=(replicate 256 (0:Int)).length∧((replicate 256 ([]:T_1)).take 0++((nth v5.1.outs ((nth v33.1 k182 0).toNat) []).take (min (nth v5.1.outs ((nth v33.1 k182 0).toNat) []).length (replicate 256 ([]:T_1)).length)++(replicate 256 ([]:T_1)).drop (0+(min (nth v5.1.outs ((nth v33.1 k182 0).toNat) []).length (replicate 256 ([]:T_1)).length)))).length=(replicate 256 ([]:T_1)).length∧d0_.le τ220 g.2) (fun g=>eh_ (fun q:N_1×Nat=>Cd_ v24 v33 l171 l177 v5 k182 q.1 q.2) g.1) ((((replicate 256 (0:Int)).take 0++((nth v5.1.next ((nth v33.1 k182 0).toNat) []).take (min (nth v5.1.next ((nth v33.1 k182 0).toNat) []).length (replicate 256 (0:Int)).length)++(replicate 256 (0:Int)).drop (0+(min (nth v5.1.next ((nth v33.1 k182 0).toNat) []).length (replicate 256 (0:Int)).length)))),0),τ220) (δ [1,8,8,8,8,8,8,8] 9) z (by repeat (first|exact trivial|refine ⟨z,?_⟩)) ⟨hh,zf194,zf195,hn231,hn235,(d0_.le.refl _)⟩ (fun g2 j2 hg2=> ?_)))))))))
  obtain ⟨⟨l254,k257⟩,τ258⟩:=g2
  obtain ⟨hh,zf252,zf253,hn255,hn256,hle259⟩:=hg2
  try dsimp only at zf252
  try dsimp only at zf253
  try dsimp only at hn255
  try dsimp only at hn256
  dsimp only at hle259
  replace hr108_0:=hr108_0.mono hle259
  replace hr109_1:=hr109_1.mono hle259
  replace zf175:=zf175.mono hle259
  replace zf181:=zf181.mono hle259
  try dsimp only
  obtain ⟨z2,hh,hR2⟩:=eo_ hh
  dsimp only [Cd_]at hh
  have zf252b:=zf252.length
  have zf253b:=zf253.length
  refine η (i:=3) z (fun _ hb260 _=> ?_)
  refine η (i:=4) z (fun _ hb261 _=> ?_)
  refine η (i:=5) z (fun _ hb262 _=> ?_)
  refine η (i:=6) z (fun _ hb263 _=> ?_)
  refine η (i:=7) z (fun _ hb264 _=> ?_)
  refine η (i:=8) z (fun _ hb265 _=> ?_)
  refine ξ (ω z (OpVal.lss z z z) (κ (ν (TC.cD z hh (fun h266 hh=> ?_) (fun h266 hh=> ?_)))))
  ·refine ι (S.n (TC.cutG (α:=(N_1)×(d0_)) (rgs [(14,2),(80,15)]) (fun g=>[]) (fun g=>[cq_ b101 v5.1 a105_1 c105_1 a105_2 c105_2 a105_3 c105_3 a105_4 c105_4,φ b103 #[.string (bs ([]:T_1)),nl_,nl_,nl_,nl_] 32,φ b111 #[.string (bs v5.1.front),.slice a172 l171.length c173,.slice a178 l177.length c179,.slice a114 l113.length c115,.slice a118 l117.length c119] 32,ε 86 1 (ea_ 1 eI_ ep_).en (.slice a172 l171.length c173) z174,ε 30 1 (ea_ 1 eS_ es_).en (.slice a178 l177.length c179) z180,rs_ 4 e1_ a114 c115 l113,rs_ 9 eS_ a118 c119 l117,ε 3 1 eI_ (.slice a197 (replicate 256 (0:Int)).length c198) g.1,ε 9 1 eS_ (.slice a200 (replicate 256 ([]:T_1)).length c201) ((replicate 256 ([]:T_1)).take 0++((nth v5.1.outs ((nth v33.1 k182 0).toNat) []).take (min (nth v5.1.outs ((nth v33.1 k182 0).toNat) []).length (replicate 256 ([]:T_1)).length)++(replicate 256 ([]:T_1)).drop (0+(min (nth v5.1.outs ((nth v33.1 k182 0).toNat) []).length (replicate 256 ([]:T_1)).length))))]) (fun g=>g.2) (fun g=>Eq_ k257 g.1=some z2∧ZOk g.2 (ea_ 1 eI_ ep_) z174 l171∧ZOk g.2 (ea_ 1 eS_ es_) z180 l177∧g.1.length=(replicate 256 (0:Int)).length∧((replicate 256 ([]:T_1)).take 0++((nth v5.1.outs ((nth v33.1 k182 0).toNat) []).take (min (nth v5.1.outs ((nth v33.1 k182 0).toNat) []).length (replicate 256 ([]:T_1)).length)++(replicate 256 ([]:T_1)).drop (0+(min (nth v5.1.outs ((nth v33.1 k182 0).toNat) []).length (replicate 256 ([]:T_1)).length)))).length=(replicate 256 ([]:T_1)).length∧d0_.le τ258 g.2) ?_ (fun g j hg=> ?_)))
   ·skip
    refine υ (ξ (θ z z ?_))
    obtain ⟨u82,hh⟩:=d6_ hh
    refine TL.isSl (i:=7) z (fun hs272 _ _=> ?_)
    refine ω z (af_ z e2_ sz3 z z hs272 (by omega)) (ω z (a4_ (0:Int) z ag3 z (q:=7) z ep_ (by omega) z) (θ z z (θ z z (κ (ξ (θ z z (ω z (OpVal.geq z z z) (κ (TC.cD z hh (fun h273 hh=> ?_) (fun h273 hh=> ?_))))))))))
    ·refine π (TL.s z z (θ z z (TL.s z z (TL.s z z (θ z z ?_)))))
     obtain ⟨u93,hh⟩:=d6_ hh
     refine ω z (OpVal.index z e2_ sz3 z z hr108_0.rv.sl u93.1 u93.2) (ω z (al_ (0:Int) z ag3 z hr108_0 (by omega) z) ?_)
     obtain ⟨u95,hh⟩:=d6_ hh
     refine ω z (OpVal.index z e2_ sz3 z z hr109_1.rv.sl u95.1 u95.2) (ω z (al_ (0:Int) z ag3 z hr109_1 (by omega) z) ?_)
     obtain ⟨u97,hh⟩:=d6_ hh
     refine TL.isSl (i:=7) z (fun hs274 _ _=> ?_)
     refine ω z (af_ z e2_ sz3 z z hs274 (by omega)) (ψ 7 z z ?_)
     have hn275:(l254.set k257 (nth v33.2 ((nth v24.1 ((nth l254 k257 0).toNat) 0).toNat) 0)).length=(replicate 256 (0:Int)).length:=by rw [ls_];exact hn255
     refine ζ z (ay_ (nth v33.2 ((nth v24.1 ((nth l254 k257 0).toNat) 0).toNat) 0) z sz3 z z z z ep_ i2_ (by omega) (by omega) ?_)
     exact TL.nil (B.n (S.n (cf ((l254.set k257 (nth v33.2 ((nth v24.1 ((nth l254 k257 0).toNat) 0).toNat) 0)),τ258) ⟨hh,zf252,zf253,hn275,hn256,(d0_.le.refl _)⟩ (δ [8,1,8,8,8,8,8,8,8] 9))))
    exact ι (B.n (S.n (cf (l254,τ258) ⟨hh,zf252,zf253,hn255,hn256,(d0_.le.refl _)⟩ (δ [8,8,8,8,8,8,8,8,8] 9))))
   skip
   obtain ⟨l269,τ276⟩:=g
   obtain ⟨hh,zf267,zf268,hn270,hn271,hle277⟩:=hg
   try dsimp only at zf267
   try dsimp only at zf268
   try dsimp only at hn270
   try dsimp only at hn271
   dsimp only at hle277
   replace zf175:=zf175.mono hle277
   replace zf181:=zf181.mono hle277
   replace zf252:=zf252.mono hle277
   replace zf253:=zf253.mono hle277
   try dsimp only
   dsimp only [Eq_]at hh
   have zf267b:=zf267.length
   have zf268b:=zf268.length
   refine η (i:=3) z (fun _ hb278 _=> ?_)
   refine η (i:=4) z (fun _ hb279 _=> ?_)
   refine η (i:=5) z (fun _ hb280 _=> ?_)
   refine η (i:=6) z (fun _ hb281 _=> ?_)
   refine η (i:=7) z (fun _ hb282 _=> ?_)
   refine η (i:=8) z (fun _ hb283 _=> ?_)
   refine π (ω z (OpVal.succ z z z (by omega)) (θ z z (κ ?_)))
   obtain ⟨hh,hlt284⟩:=ey_ hR2 hh
   exact lf ((l269,(k257+1)),τ276) hlt284 ⟨hh,zf267,zf268,hn270,hn271,(hle259.trans hle277)⟩ (δ [8,8,8,8,8,8,8,8,8] 9)
  refine TC.exit (S.x (S.x ?_))
  replace hh:=el_ hR2 hh
  refine Δ (S.n (ξ (ω z (aa_ z e8_ z) (ω z (ab_ z i0_ z (i:=2) z z) (TL.s z z ?_)))))
  rw [show Value.slice a197 ((replicate 256 (0:Int)).length) c198=Value.slice a197 l254.length c198 from by rw [hn255]]
  refine ψ 7 z z (TL.a3_ ep_ (fun τ289 hle288 hr287=> ?_))
  replace zf175:=zf175.mono hle288
  replace zf181:=zf181.mono hle288
  replace zf252:=zf252.mono hle288
  replace zf253:=zf253.mono hle288
  have hr287b:=hr287.rv.big
  have zf290:ZOk _ (ea_ 1 eI_ ep_) ([(l254,(a197,c198))]:List (N_1×(ea_ 1 eI_ ep_).P)) [l254]:=ZOk.cons (hr287) (ZOk.nil _ _)
  refine ζ z (litZ zf290 z fn_ fp_ z h4_ z z z (by decide) (by decide) z (by decide) z (by decide) (fun a285 c286=> ?_))
  refine ψ 4 z z ?_
  obtain ⟨u105,hh⟩:=d6_ hh
  refine ζ z (bg_ (k:=(ea_ 1 eI_ ep_)) zf252 zf290 z z fn_ fp_ im_ h4_ z z (by decide) z z z (.inr ⟨_,0,z⟩) (by simpa using u105) (by decide) (fun a292 c293 zf294=> ?_))
  refine ω z (aa_ z e8_ z) (ψ 4 z z (ζ z (ae_ z go_ z z z z z ?_)))
  refine κ (π (ω z (aa_ z fy_ z) (ω z (ab_ z m4_ z (i:=0) z z) (TL.s z z ?_))))
  rw [show Value.slice a200 ((replicate 256 ([]:T_1)).length) c201=Value.slice a200 ((replicate 256 ([]:T_1)).take 0++((nth v5.1.outs ((nth v33.1 k182 0).toNat) []).take (min (nth v5.1.outs ((nth v33.1 k182 0).toNat) []).length (replicate 256 ([]:T_1)).length)++(replicate 256 ([]:T_1)).drop (0+(min (nth v5.1.outs ((nth v33.1 k182 0).toNat) []).length (replicate 256 ([]:T_1)).length)))).length c201 from by rw [hn256]]
  refine ψ 8 z z (TL.a3_ es_ (fun τ299 hle298 hr297=> ?_))
  replace zf175:=zf175.mono hle298
  replace zf181:=zf181.mono hle298
  replace zf253:=zf253.mono hle298
  replace zf294:=zf294.mono hle298
  have hr297b:=hr297.rv.big
  have zf300:ZOk _ (ea_ 1 eS_ es_) ([(((replicate 256 ([]:T_1)).take 0++((nth v5.1.outs ((nth v33.1 k182 0).toNat) []).take (min (nth v5.1.outs ((nth v33.1 k182 0).toNat) []).length (replicate 256 ([]:T_1)).length)++(replicate 256 ([]:T_1)).drop (0+(min (nth v5.1.outs ((nth v33.1 k182 0).toNat) []).length (replicate 256 ([]:T_1)).length)))),(a200,c201))]:List (T_2×(ea_ 1 eS_ es_).P)) [((replicate 256 ([]:T_1)).take 0++((nth v5.1.outs ((nth v33.1 k182 0).toNat) []).take (min (nth v5.1.outs ((nth v33.1 k182 0).toNat) []).length (replicate 256 ([]:T_1)).length)++(replicate 256 ([]:T_1)).drop (0+(min (nth v5.1.outs ((nth v33.1 k182 0).toNat) []).length (replicate 256 ([]:T_1)).length))))]:=ZOk.cons (hr297) (ZOk.nil _ _)
  refine ζ z (litZ zf300 z l4_ kn_ z yb_ z z z (by decide) (by decide) z (by decide) z (by decide) (fun a295 c296=> ?_))
  refine ψ 6 z z ?_
  obtain ⟨u112,hh⟩:=d6_ hh
  refine ζ z (bg_ (k:=(ea_ 1 eS_ es_)) zf253 zf300 z z l4_ kn_ by30 yb_ z z (by decide) z z z (.inr ⟨_,0,z⟩) (by simpa using u112) (by decide) (fun a302 c303 zf304=> ?_))
  refine ω z (aa_ z fy_ z) (ψ 2 z z (ζ z (ae_ z sz28 z z z z z ?_)))
  refine TL.nil (B.n (S.n (π (ω z (OpVal.succ z z z (by omega)) (θ z z (κ ?_))))))
  obtain ⟨hh,hlt305⟩:=ey_ hR1 hh
  exact lf (((l171++[l254]),(l177++[((replicate 256 ([]:T_1)).take 0++((nth v5.1.outs ((nth v33.1 k182 0).toNat) []).take (min (nth v5.1.outs ((nth v33.1 k182 0).toNat) []).length (replicate 256 ([]:T_1)).length)++(replicate 256 ([]:T_1)).drop (0+(min (nth v5.1.outs ((nth v33.1 k182 0).toNat) []).length (replicate 256 ([]:T_1)).length))))]),(k182+1)),(a292,c293,(z174++([(l254,(a197,c198))]:List (N_1×(ea_ 1 eI_ ep_).P))),a302,c303,(z180++([(((replicate 256 ([]:T_1)).take 0++((nth v5.1.outs ((nth v33.1 k182 0).toNat) []).take (min (nth v5.1.outs ((nth v33.1 k182 0).toNat) []).length (replicate 256 ([]:T_1)).length)++(replicate 256 ([]:T_1)).drop (0+(min (nth v5.1.outs ((nth v33.1 k182 0).toNat) []).length (replicate 256 ([]:T_1)).length)))),(a200,c201))]:List (T_2×(ea_ 1 eS_ es_).P))),τ299)) hlt305 ⟨hh,zf294,zf304,((((hle188.trans hle221).trans hle259).trans hle288).trans hle298)⟩ (δ [8,8,3,5,4,8,8] 7)
 refine TC.exit (S.x (S.x ?_))
 replace hh:=el_ hR1 hh
 refine Δ (S.n (ξ (ω z (ak_ z h1_ fs_ z (i:=2) z z) (ψ 1 z z (ζ z (storeAll z fs_ z z z z z z ?_))))))
 refine θ z z (κ (TC.front 3 z z (TC.b8_ zf175 (fun τ308 hle307 hr306=> ?_))))
 replace zf181:=zf181.mono hle307
 have hr306b:=hr306.big
 refine TC.front 3 z z (TC.b8_ zf181 (fun τ311 hle310 hr309=> ?_))
 replace hr306:=hr306.mono hle310
 have hr309b:=hr309.big
 refine TC.front 3 z z (TC.a3_ em_ (fun τ314 hle313 hr312=> ?_))
 replace hr306:=hr306.mono hle313
 replace hr309:=hr309.mono hle313
 have hr312b:=hr312.rv.big
 refine TC.front 3 z z (TC.a3_ es_ (fun τ317 hle316 hr315=> ?_))
 replace hr306:=hr306.mono hle316
 replace hr309:=hr309.mono hle316
 replace hr312:=hr312.mono hle316
 have hr315b:=hr315.rv.big
 refine TC.rt 1 ?_
 obtain rfl:=so hh
 exact ro [] z (RVs.agg h1_ fs_ z (i:=0) z z (RVs.tmp z RVs.nil)) ⟨a172,c173,a178,c179,a114,c115,a118,c119,z,hr306,hr309,hr312,hr315,z⟩
end Go.Proofs.YtchebnpdnfhenaaGreatDoor
end

noncomputable section
namespace Go.Proofs.YtchebnpdnfhenaaGreatDoor
open Go Go.E
structure PlI (L:N_1) (c:Nat) (st pl:N_1):Prop where
  len:pl.length=c
  at': ∀p,p<c→(nth pl p 0<0∧ ∀j,j<st.length→nth L (nth st j 0).toNat 0≠((p:Nat):Int))∨ ∃j,j<st.length∧nth pl p 0=((j:Nat):Int)∧nth L (nth st j 0).toNat 0=((p:Nat):Int)
def clL(L:N_1)(s:Nat):Int:=nth L s 0
theorem xd_{q:Seq}{L:N_1}{c:Nat}(hL:PrtR q L c){st:N_1}{V:Nat→Int}{code:Nat}(h:BfI q (clL L) st V code):st.length≤c:=by
  have hr: ∀j,j<st.length→0≤nth L (nth st j 0).toNat 0∧nth L (nth st j 0).toNat 0<((c:Nat):Int):=fun j hj=>by
    have:=h.rng j hj
    exact hL.rng _ (by omega)
  refine zn_ (n:=st.length) (f:=fun s=>s) (g:=fun j=>(nth L (nth st j 0).toNat 0).toNat) (fun k hk=>⟨k,hk,rfl⟩) (fun s hs=>by have:=hr s hs;show (nth L (nth st s 0).toNat 0).toNat<c;omega) fun s t hs ht e=> ?_
  have e:(nth L (nth st s 0).toNat 0).toNat=(nth L (nth st t 0).toNat 0).toNat:=e
  have h1:=hr s hs
  have h2:=hr t ht
  exact h.dist s t hs ht (show nth L (nth st s 0).toNat 0=nth L (nth st t 0).toNat 0 by omega)
theorem order_in {q : Seq} (hq : d9_ q = true) {L : N_1} {c : Nat} (hL : PrtR q L c) {st pl : N_1} {V : Nat → Int} {i : Nat} (hi : i < st.length) (h : BfI q (clL L) st V (i * 256)) (hp : PlI L c st pl) :
    ∃pl' st' V',eq_ (fun z:N_1×N_1×Nat=>A4_ q st i L z.1 z.2.1 z.2.2) (pl,st,0)=some (.inl (pl',st',i+1))∧BfI q (clL L) st' V' ((i+1) * 256)∧PlI L c st' pl'∧i+1≤st'.length:=by
  obtain ⟨q1,q2,q3,q4,q5⟩:=d7_ hq
  have hLl:=hL.len
  have hLc:=hL.le
  have hs:=h.rng i hi
  obtain ⟨s,hs'⟩: ∃s:Nat,nth st i 0=((s:Nat):Int):=⟨(nth st i 0).toNat,by omega⟩
  have hsn:s<q.next.length:=by omega
  obtain ⟨r1,r2⟩:=f7_ hq hsn
  refine Exists.elim (er_ (step:=fun z:N_1×N_1×Nat=>A4_ q st i L z.1 z.2.1 z.2.2) (fun (z:N_1×N_1) b=>(z.1,z.2,b)) 256 (fun b z=> ∃V',BfI q (clL L) z.2 V' (i * 256+b)∧PlI L c z.2 z.1∧(∃X,z.2=st++X)) (fun r=> ∃pl' st' V',r= .inl (pl',st',i+1)∧BfI q (clL L) st' V' ((i+1) * 256)∧PlI L c st' pl'∧i+1≤st'.length) ?_ ?_ (s0:=(pl,st)) ⟨V,h,hp,[],by simp⟩) (fun r hh_=> ?_)
  · rintro b ⟨pl1,st1⟩ hb ⟨V1,k1,k2,X,k3⟩
    simp only at k1 k2 k3
    have hst1:i<st1.length:=by rw [k3,la_];omega
    have hat:nth st1 i 0=((s:Nat):Int):=by rw [k3,gb_ hi];exact hs'
    have hd1:(i * 256+b) / 256=i:=by omega
    have hd2:(i * 256+b) % 256=b:=by omega
    have hlt:=fe_ hq hsn hb
    have hle:=xd_ hL k1
    left
    show ∃s':N_1×N_1,A4_ q st i L pl1 st1 b=some (.inl (s'.1,s'.2,b+1))∧_
    unfold A4_ C6_
    rw [hs',tn_,d4_ (by omega)]
    have e1:nth (nth q.next s []) b 0=nxQ q s b:=rfl
    simp only [e1]
    have hcell:nxQ q (nth st1 ((i * 256+b) / 256) 0).toNat ((i * 256+b) % 256)=nxQ q s b:=by rw [hd1,hd2,hat,tn_]
    by_cases d:0≤nxQ q s b
    · have hz:(nxQ q s b).toNat<q.next.length:=by omega
      have hpz:=hL.rng _ hz
      obtain ⟨p,hp'⟩: ∃p:Nat,nth L (nxQ q s b).toNat 0=((p:Nat):Int):=⟨(nth L (nxQ q s b).toNat 0).toNat,by omega⟩
      have hpc:p<c:=by omega
      have hpl:=k2.len
      rw [d4_ d,d3_ (by omega),hp',d3_ (by omega),tn_]
      rcases k2.at' p hpc with ⟨a1,a2⟩|⟨j,a1,a2,a3⟩
      · rw [d4_ a1,d3_ (by omega),d3_ (by omega),d3_ (by simp only [lo_];omega)]
        refine ⟨(pl1.set p ((st1.length:Nat):Int),st1++[nxQ q s b]),rfl,upd V1 (i * 256+b) ((st1.length:Nat):Int),?_,⟨by rw [ls_];exact hpl,fun p' hq'=> ?_⟩,X++[nxQ q s b],by rw [k3,ap_]⟩
        · exact k1.new (by omega) (by rw [hcell];exact d) ⟨d,hlt⟩ (by rw [hcell]) fun j hj=>by
            rw [hcell]
            show nth L (nth st1 j 0).toNat 0≠nth L (nxQ q s b).toNat 0
            rw [hp'];exact a2 j hj
        show (nth (pl1.set p _) p' 0<0∧_)∨_
        rw [ek_]
        by_cases e:p=p'
        · subst e
          rw [if_pos ⟨rfl,by omega⟩]
          refine .inr ⟨st1.length,by simp,rfl,?_⟩
          show nth L (nth (st1++[nxQ q s b]) st1.length 0).toNat 0=_
          rw [ff_];exact hp'
        rw [if_neg (fun f=>e f.1)]
        rcases k2.at' p' hq' with ⟨b1,b2⟩|⟨j,b1,b2,b3⟩
        · refine .inl ⟨b1,fun j hj=> ?_⟩
          show nth L (nth (st1++[nxQ q s b]) j 0).toNat 0≠_
          by_cases f:j<st1.length
          · rw [gb_ f];exact b2 j f
          have:j=st1.length:=by have:j<(st1++[nxQ q s b]).length:=hj;rw [la_,lo_]at this;omega
          rw [this,ff_,hp']
          omega
        refine .inr ⟨j,by show j<(st1++_).length;rw [la_];omega,b2,?_⟩
        show nth L (nth (st1++[nxQ q s b]) j 0).toNat 0=_
        rw [gb_ b1];exact b3
      rw [d5_ (by omega)]
      refine ⟨(pl1,st1),rfl,upd V1 (i * 256+b) ((j:Nat):Int),?_,k2,X,k3⟩
      exact k1.old (by rw [hcell];exact d) a1 (by rw [hcell];show nth L (nth st1 j 0).toNat 0=nth L (nxQ q s b).toNat 0;rw [a3,hp'])
    rw [d5_ d]
    exact ⟨(pl1,st1),rfl,upd V1 (i * 256+b) (-1),k1.skip (by rw [hcell];omega),k2,X,k3⟩
  · rintro ⟨pl1,st1⟩ ⟨V1,k1,k2,X,k3⟩
    simp only at k1 k2 k3
    refine ⟨.inl (pl1,st1,i+1),?_,pl1,st1,V1,rfl,?_,k2,by rw [k3,la_];omega⟩
    · show A4_ q st i L pl1 st1 256=_
      unfold A4_
      rw [hs',tn_,d5_ (by omega)];rfl
    rw [show (i+1) * 256=i * 256+256 by omega];exact k1
  obtain ⟨h1,pl',st',V',rfl,h2⟩:=hh_
  exact ⟨pl',st',V',h1,h2⟩
theorem order_ok {q : Seq} (hq : d9_ q = true) (h0 : 0 < q.next.length) {L : N_1} {c : Nat} (hL : PrtR q L c) : ∃ st pl V, En_ q L ((c : Nat) : Int) = some (st, pl) ∧ BfI q (clL L) st V (st.length * 256) ∧ PlI L c st pl := by
  obtain ⟨q1,q2,q3,q4,q5⟩:=d7_ hq
  have hLl:=hL.len
  have hLc:=hL.le
  have hL0:=hL.rng 0 h0
  unfold En_
  rw [d3_ (by omega),tn_]
  refine Exists.elim (er_ (step:=fun z:N_1×Nat=>Bu_ ((c:Nat):Int) L q z.1 z.2) (fun z k=>(z,k)) c (fun k z=>z.length=c∧ ∀p,p<k→nth z p 0= -1) (fun r=> ∃st pl V,r=(st,pl)∧BfI q (clL L) st V (st.length * 256)∧PlI L c st pl) ?_ ?_ (s0:=List.replicate c 0) ⟨by simp,fun p hp=>absurd hp (Nat.not_lt_zero _)⟩) (fun r hh_=> ?_)
  · rintro k z hk ⟨k1,k2⟩
    left
    show ∃s',Bu_ ((c:Nat):Int) L q z k=some (.inl (s',k+1))∧_
    unfold Bu_
    rw [tn_,d4_ (by simp only [lr_];omega),d3_ (by omega)]
    refine ⟨_,rfl,by rw [ls_];exact k1,fun p hp=> ?_⟩
    rw [ek_]
    by_cases e:k=p
    · rw [if_pos ⟨e,by omega⟩]
    rw [if_neg (fun f=>e f.1)];exact k2 p (by omega)
  · rintro z ⟨k1,k2⟩
    show ∃r,Bu_ ((c:Nat):Int) L q z c=some (.inr r)∧_
    obtain ⟨p0,hp0⟩: ∃p:Nat,nth L 0 0=((p:Nat):Int):=⟨(nth L 0 0).toNat,by omega⟩
    obtain ⟨r,m1,m2⟩:=r0_ (step:=fun z:N_1×N_1×Nat=>B9_ q L z.1 z.2.1 z.2.2) (fun z=> ∃V,BfI q (clL L) z.2.1 V (z.2.2 * 256)∧PlI L c z.2.1 z.1∧z.2.2≤z.2.1.length) (fun z=>c+1 - z.2.2) (fun r=> ∃st pl V,r=(st,pl)∧BfI q (clL L) st V (st.length * 256)∧PlI L c st pl) (by
      rintro ⟨pl,st,i⟩ ⟨V,n1,n2,n3⟩
      simp only at n1 n2 n3
      have hle:=xd_ hL n1
      show (∃t',B9_ q L pl st i=some (.inl t')∧_∧_)∨ ∃r,B9_ q L pl st i=some (.inr r)∧_
      unfold B9_
      by_cases d:i<st.length
      · left
        have hs:=n1.rng i d
        obtain ⟨pl',st',V',m1,m2,m3,m4⟩:=order_in hq hL d n1 n2
        rw [d4_ (by omega),d3_ (by omega)]
        refine ⟨_,m1,⟨V',m2,m3,m4⟩,?_⟩
        show c+1 - (i+1)<c+1 - i
        omega
      · right
        rw [d5_ (by omega)]
        have:i=st.length:=by omega
        subst this
        exact ⟨_,rfl,st,pl,V,rfl,n1,n2⟩) (t:=(z.set p0 0,[0],0)) (by
      refine ⟨fun _=>0,BfI.init _ ⟨Int.le_refl _,by omega⟩ rfl,⟨by show (z.set p0 0).length=c;rw [ls_];exact k1,fun p hp=> ?_⟩,Nat.zero_le _⟩
      show (nth (z.set p0 0) p 0<0∧_)∨_
      rw [ek_]
      by_cases e:p0=p
      · subst e
        rw [if_pos ⟨rfl,by omega⟩]
        exact .inr ⟨0,by simp,rfl,hp0⟩
      rw [if_neg (fun f=>e f.1),k2 p hp]
      refine .inl ⟨by decide,fun j hj=> ?_⟩
      have hj:j<1:=hj
      have:j=0:=by omega
      subst this
      show nth L 0 0≠_
      rw [hp0];omega)
    refine ⟨r,?_,m2⟩
    unfold Bu_
    rw [tn_,d5_ (by simp only [lr_];omega),d3_ (by omega),hp0,d3_ (by omega),tn_,m1];rfl
  obtain ⟨h1,st,pl,V,rfl,h2⟩:=hh_
  exact ⟨st,pl,V,h1,h2⟩
theorem v3_{α β:Type}(f:β→α)(d:α)(e:β)(l:List β){k:Nat}(hk:k<l.length):(((l.take k).map f++List.replicate (l.length - k) d).set k (f (nth l k e)))=(l.take (k+1)).map f++List.replicate (l.length - (k+1)) d:=by
  rw [ex_ l hk e,List.map_append,ap_,List.set_append_right _ _ (by rw [List.length_map,List.length_take];omega),List.length_map,List.length_take,show k - min k l.length=0 by omega,show l.length - k=(l.length - (k+1))+1 by omega,List.replicate_succ]
  rfl
theorem pickB_ok{l:B_1}{st:N_1}(h: ∀i,i<st.length→0≤nth st i 0∧nth st i 0<(l.length:Int))(hs:st.length≤1000000):Fg_ l st=some (st.map fun s=>nth l s.toNat false):=by
  unfold Fg_
  rw [d3_ (by omega)]
  refine Exists.elim (er_ (step:=fun z:B_1×Nat=>Bv_ st l z.1 z.2) (fun z k=>(z,k)) st.length (fun k z=>z=(st.take k).map (fun s=>nth l s.toNat false)++List.replicate (st.length - k) false) (fun r=>r=st.map fun s=>nth l s.toNat false) ?_ ?_ (s0:=List.replicate st.length false) (by simp)) (fun r hh_=> ?_)
  · rintro k _ hk rfl
    left
    have hr:=h k hk
    refine ⟨_,?_,rfl⟩
    show Bv_ st l _ k=_
    unfold Bv_
    rw [d4_ (by omega),d3_ hr,d3_ (by simp;omega)]
    have:=v3_ (fun s=>nth l s.toNat false) false (0:Int) st hk
    rw [this];rfl
  · rintro _ rfl
    refine ⟨_,?_,rfl⟩
    show Bv_ st l _ st.length=_
    unfold Bv_
    rw [d5_ (by omega)]
    simp [fin]
  obtain ⟨h1,rfl⟩:=hh_
  exact h1
theorem z9_{l:T_2}{st:N_1}(h: ∀i,i<st.length→0≤nth st i 0∧nth st i 0<(l.length:Int))(hs:st.length≤1000000):Fa_ l st=some (st.map fun s=>nth l s.toNat []):=by
  unfold Fa_
  rw [d3_ (by omega)]
  refine Exists.elim (er_ (step:=fun z:T_2×Nat=>Bs_ st l z.1 z.2) (fun z k=>(z,k)) st.length (fun k z=>z=(st.take k).map (fun s=>nth l s.toNat [])++List.replicate (st.length - k) []) (fun r=>r=st.map fun s=>nth l s.toNat []) ?_ ?_ (s0:=List.replicate st.length []) (by simp)) (fun r hh_=> ?_)
  · rintro k _ hk rfl
    left
    have hr:=h k hk
    refine ⟨_,?_,rfl⟩
    show Bs_ st l _ k=_
    unfold Bs_
    rw [d4_ (by omega),d3_ hr,d3_ (by simp;omega)]
    have:=v3_ (fun s=>nth l s.toNat ([]:T_1)) [] (0:Int) st hk
    rw [this];rfl
  · rintro _ rfl
    refine ⟨_,?_,rfl⟩
    show Bs_ st l _ st.length=_
    unfold Bs_
    rw [d5_ (by omega)]
    simp [fin]
  obtain ⟨h1,rfl⟩:=hh_
  exact h1
theorem yf_{α:Type}(d:α){x:List α}(h:x.length=256):(List.replicate 256 d).take 0++(x.take (min x.length (List.replicate 256 d).length)++(List.replicate 256 d).drop (0+min x.length (List.replicate 256 d).length))=x:=by
  have hr:(List.replicate 256 d).length=256:=lr_
  generalize List.replicate 256 d=y at hr
  rw [hr,h,Nat.min_self,List.take_zero,List.nil_append,Nat.zero_add,List.take_of_length_le (Nat.le_of_eq h),List.drop_of_length_le (Nat.le_of_eq hr),List.append_nil]
def newV(q:Seq)(L pl:N_1)(s b:Nat):Int:=if 0≤nxQ q s b then nth pl (nth L (nxQ q s b).toNat 0).toNat 0 else nxQ q s b
def newR(q:Seq)(L pl:N_1)(s:Int):N_1:=(List.range 256).map (newV q L pl s.toNat)
theorem x4_ {q : Seq} (hq : d9_ q = true) {L : N_1} {c : Nat} (hL : PrtR q L c) {st pl : N_1} (hpl : pl.length = c) {i : Nat} {N : N_2} {O : T_3} (hi : i < st.length) (hst : st.length ≤ 1024) (hN : N.length ≤ 1024) (hO : O.length ≤ 1024) (hs : 0 ≤ nth st i 0 ∧ nth st i 0 < (q.next.length : Int)) (e : Int) :
    Ep_ (st,pl) i (q,e) (L,((c:Nat):Int)) N O=some (.inl (N++[newR q L pl (nth st i 0)],O++[nth q.outs (nth st i 0).toNat []],i+1)):=by
  obtain ⟨q1,q2,q3,q4,q5⟩:=d7_ hq
  have hLl:=hL.len
  obtain ⟨s,hs'⟩: ∃s:Nat,nth st i 0=((s:Nat):Int):=⟨(nth st i 0).toNat,by omega⟩
  rw [hs']at hs ⊢
  have hsn:s<q.next.length:=by omega
  obtain ⟨r1,r2⟩:=f7_ hq hsn
  unfold Ep_
  show grd (0≤nth st i 0∧nth st i 0<(q.next.length:Int)) (grd (0≤nth st i 0∧nth st i 0<(q.outs.length:Int)) _)=_
  rw [hs',d3_ (by omega),d3_ (by omega),tn_,yf_ 0 r1]
  unfold newR
  rw [tn_]
  refine Exists.elim (er_ (step:=fun z:N_1×Nat=>Cd_ (L,((c:Nat):Int)) (st,pl) N O (q,e) i z.1 z.2) (fun z k=>(z,k)) 256 (fun k z=>z.length=256∧(∀b,b<k→nth z b 0=newV q L pl s b)∧ ∀b,k≤b→nth z b 0=nxQ q s b) (fun r=>r= .inl (N++[(List.range 256).map (newV q L pl s)],O++[nth q.outs s []],i+1)) ?_ ?_ (s0:=nth q.next s []) ⟨r1,fun b hb=>absurd hb (Nat.not_lt_zero _),fun b _=>rfl⟩) (fun r hh_=> ?_)
  · rintro k z hk ⟨k1,k2,k3⟩
    left
    have hlt:=fe_ hq hsn hk
    have e3:=k3 k (Nat.le_refl _)
    show ∃s',Cd_ (L,((c:Nat):Int)) (st,pl) N O (q,e) i z k=some (.inl (s',k+1))∧_
    unfold Cd_ Eq_
    rw [d4_ (by simp only [lr_];omega),d3_ (by omega),e3]
    by_cases d:0≤nxQ q s k
    · have hz:=hL.rng (nxQ q s k).toNat (by omega)
      rw [d4_ d,d3_ (show 0≤nxQ q s k∧nxQ q s k<((L,((c:Nat):Int)).1.length:Int) by show _∧_<(L.length:Int);omega),d3_ (show 0≤nth L (nxQ q s k).toNat 0∧nth L (nxQ q s k).toNat 0<(pl.length:Int) by omega),d3_ (by omega)]
      refine ⟨_,rfl,by rw [ls_];exact k1,fun b hb=> ?_,fun b hb=> ?_⟩
      · rw [ek_]
        by_cases f:k=b
        · subst f;rw [if_pos ⟨rfl,by omega⟩];unfold newV;rw [if_pos d]
        rw [if_neg (fun g=>f g.1)];exact k2 b (by omega)
      rw [ek_,if_neg (fun g=>by omega)];exact k3 b (by omega)
    rw [d5_ d]
    refine ⟨_,rfl,k1,fun b hb=> ?_,fun b hb=>k3 b (by omega)⟩
    by_cases f:b<k
    · exact k2 b f
    have:b=k:=by omega
    subst this;rw [e3];unfold newV;rw [if_neg d]
  · rintro z ⟨k1,k2,k3⟩
    have ez:z=(List.range 256).map (newV q L pl s):=q3_ 0 k1 k2
    refine ⟨_,?_,rfl⟩
    show Cd_ (L,((c:Nat):Int)) (st,pl) N O (q,e) i z 256=_
    unfold Cd_
    have e5:nth (st,pl).1 i 0=((s:Nat):Int):=hs'
    simp only [e5,tn_]
    rw [d5_ (by simp only [lr_];omega),yf_ [] r2,d3_ (by simp only [lo_];omega),d3_ (by simp only [lo_];omega),ez];rfl
  obtain ⟨h1,rfl⟩:=hh_
  exact h1
theorem yv_(q:Seq): ∃p r,E1_ q=some p∧PushR q p∧B3_ q=some r∧MinR p r:=by
  obtain ⟨p,h1,h2⟩:=I1_ q
  unfold B3_
  rw [h1,ed_]
  by_cases c0:p.2=0
  rotate_left
  · rw [d4_ c0]
    exact ⟨p,_,rfl,h2,rfl,.err c0⟩
  rw [d5_ (fun h=>h c0)]
  by_cases c1:p.1.next.length=0
  · rw [d4_ (by omega)]
    exact ⟨p,_,rfl,h2,rfl,by rw [c0];exact .none c0 c1⟩
  rw [d5_ (by omega)]
  obtain ⟨hP,hR,_,_⟩:=h2.psh c0
  obtain ⟨q1,q2,q3,q4,q5⟩:=d7_ hR
  obtain ⟨L,c,l1,l2⟩:=parts_ok hR hP
  obtain ⟨st,pl,V,o1,o2,o3⟩:=order_ok hR (by omega) l2
  have hle:=xd_ l2 o2
  have hLc:=l2.le
  rw [l1,ed_]
  show ∃p_1 r,_∧_∧bnd (En_ p.1 L ((c:Nat):Int)) _=_∧_
  rw [o1,ed_,show ((st,pl):N_1×N_1).1=st from rfl,pickB_ok (fun i hi=>by have:=o2.rng i hi;omega) (by omega),ed_,z9_ (fun i hi=>by have:=o2.rng i hi;omega) (by omega),ed_]
  unfold Fq_
  refine Exists.elim (er_ (step:=fun z:N_2×T_3×Nat=>Cf_ (st,pl) p (L,((c:Nat):Int)) (st.map fun s=>nth p.1.fin s.toNat false) (st.map fun s=>nth p.1.tail s.toNat []) z.1 z.2.1 z.2.2) (fun (z:N_2×T_3) k=>(z.1,z.2,k)) st.length (fun k z=>z=((st.take k).map (newR p.1 L pl),(st.take k).map fun s=>nth p.1.outs s.toNat []))
    (fun r=>r=((⟨p.1.front,st.map (newR p.1 L pl),st.map (fun s=>nth p.1.outs s.toNat []),st.map (fun s=>nth p.1.fin s.toNat false),st.map (fun s=>nth p.1.tail s.toNat [])⟩:Seq),(0:Int))) ?_ ?_ (s0:=([],[])) rfl) (fun r hh_=> ?_)
  · rintro k _ hk rfl
    left
    have hr:=o2.rng k hk
    refine ⟨(_,_),?_,rfl⟩
    show Cf_ (st,pl) p (L,((c:Nat):Int)) _ _ _ _ k=_
    unfold Cf_
    rw [d4_ (by show ((k:Nat):Int)<((st.length:Nat):Int);omega)]
    rw [show p=(p.1,p.2)from rfl,x4_ hR l2 o3.len hk (by omega) (by rw [List.length_map,List.length_take];omega) (by rw [List.length_map,List.length_take];omega) hr p.2,ex_ st hk 0,List.map_append,List.map_append];rfl
  · rintro _ rfl
    refine ⟨_,?_,rfl⟩
    show Cf_ (st,pl) p (L,((c:Nat):Int)) _ _ _ _ st.length=_
    unfold Cf_
    rw [d5_ (by show ¬ ((st.length:Nat):Int)<((st.length:Nat):Int);omega),List.take_length];rfl
  obtain ⟨h3,rfl⟩:=hh_
  refine ⟨p,_,rfl,h2,h3,.made _ (st.map Int.toNat) c0 (o2.min (fun s t hs ht=>l2.iff s t hs ht) hR rfl (by simp) (by simp) (by simp) (by simp) (fun i hi=> ?_) (fun d hd=> ?_) (fun i hi=>gd_ _ _ _ 0 _ hi) (fun i hi=>gd_ _ _ _ 0 _ hi) fun i hi=>gd_ _ _ _ 0 _ hi)⟩
  · show (nth (st.map (newR p.1 L pl)) i []).length=256
    rw [gd_ _ _ _ 0 _ hi]
    unfold newR
    rw [List.length_map,List.length_range]
  have hdi:d / 256<st.length:=by omega
  have hr:=o2.rng _ hdi
  have e:nxC (⟨p.1.front,st.map (newR p.1 L pl),st.map (fun s=>nth p.1.outs s.toNat []),st.map (fun s=>nth p.1.fin s.toNat false),st.map (fun s=>nth p.1.tail s.toNat [])⟩:Seq) d=newV p.1 L pl (nth st (d / 256) 0).toNat (d % 256):=by
    show nth (nth (st.map (newR p.1 L pl)) (d / 256) []) (d % 256) 0=_
    rw [gd_ _ _ _ 0 _ hdi]
    unfold newR
    rw [gd_ _ _ _ 0 _ (by rw [List.length_range];omega),ln_ (by omega)]
  rw [e]
  unfold newV
  by_cases f:0≤nxQ p.1 (nth st (d / 256) 0).toNat (d % 256)
  · rw [if_pos f]
    obtain ⟨j,j1,j2,j3⟩:=o2.val d hd f
    have hz:=fe_ hR (show (nth st (d / 256) 0).toNat<_ by omega) (show d % 256<256 by omega)
    have hpz:=l2.rng (nxQ p.1 (nth st (d / 256) 0).toNat (d % 256)).toNat (by omega)
    have j3:nth L (nth st j 0).toNat 0=nth L (nxQ p.1 (nth st (d / 256) 0).toNat (d % 256)).toNat 0:=j3
    rcases o3.at' (nth L (nxQ p.1 (nth st (d / 256) 0).toNat (d % 256)).toNat 0).toNat (by omega)with ⟨_,a2⟩|⟨j',a1,a2,a3⟩
    · exact absurd (by rw [j3];omega) (a2 j j1)
    have:j=j':=o2.dist j j' j1 a1 (show nth L (nth st j 0).toNat 0=nth L (nth st j' 0).toNat 0 by rw [j3,a3];omega)
    rw [j2,a2,this]
  rw [if_neg f,o2.neg d hd (by omega)]
  have:=u0_ hR (show (nth st (d / 256) 0).toNat<_ by omega) (show d % 256<256 by omega)
  omega
end Go.Proofs.YtchebnpdnfhenaaGreatDoor
end

noncomputable section
namespace Go.Proofs.YtchebnpdnfhenaaGreatDoor
open Go Go.E Go.E.OpVal Go.E.OpOk Go.Proofs.Tryz
open List (replicate)
theorem pf27:plainF Tryz.prog 27=true:=by kernel_rfl
theorem pf34:plainF Tryz.prog 34=true:=by kernel_rfl
theorem pf51:plainF Tryz.prog 51=true:=by kernel_rfl
theorem pf52:plainF Tryz.prog 52=true:=by kernel_rfl
def A1_(x0:B_1)(x1:B_1)(k104:Nat):Option ((Nat)⊕(Bool)):=
 ec_ (decide ((k104:Int)<((x0.length:Nat):Int))) (grd (k104<x1.length) (ec_ ((nth x0 k104 false) != (nth x1 k104 false)) (fin (some false)) (nxt (k104+1)))) (fin (some true))
def Cj_(x0:B_1)(x1:B_1):Option (Bool):=
 ec_ (decide (((x0.length:Nat):Int)≠((x1.length:Nat):Int))) (some false) (eq_ (fun q:Nat=>A1_ x0 x1 q) 0)
theorem Gf_{σ:d0_}{x0:B_1}{x1:B_1}(f0_0:rS_ σ e1_ a0_0 c0_0 x0)(f1_0:rS_ σ e1_ a1_0 c1_0 x1){r:Bool}(hh:Cj_ x0 x1=some r):
  Con prog 34 #[.slice a0_0 x0.length c0_0,.slice a1_0 x1.length c1_0] σ [] (fd_ (.bool r) σ):=by
 dsimp only [Cj_]at hh
 have f0_0b:=f0_0.rv.big
 have f1_0b:=f1_0.rv.big
 refine Con.mk (n:=26) Tryz.func34 z z z (fun w0=> ?_)
 refine ξ (TL.j z z (κ (ν (ξ (TL.s z z (ω z (lenC z h2_ z) (TL.s z z (ω z (lenC z h2_ z) (ω z (OpVal.neq z z z) (κ (TC.cD z hh (fun h101 hh=> ?_) (fun h101 hh=> ?_))))))))))))
 ·refine ξ (TL.j z z (κ (TC.ret (S.r ?_))))
  obtain rfl:=so hh
  exact rq [4] ⟨z,z,z⟩
 refine ι (S.n (ν (ξ (θ z z (κ (υ (TC.ao_ (α:=(Nat)×(Unit)) (rgs [(4,2),(11,15)]) (fun g=>[(5,.int .i64 ((g.1:Nat):Int))]) (fun g=>[]) (fun g=>σ) (fun g=>eq_ (fun q:Nat=>A1_ x0 x1 q) g.1=some r) (fun g=>eh_ (fun q:Nat=>A1_ x0 x1 q) g.1) (0,()) (Sub.pre 0 z) z (by repeat (first|exact trivial|refine ⟨z,?_⟩)) hh (fun g1 j1 hg1=> ?_))))))))
 obtain ⟨k104,_⟩:=g1
 have hh:=hg1;clear hg1
 try dsimp only
 obtain ⟨z1,hh,hR1⟩:=eo_ hh
 dsimp only [A1_]at hh
 refine ν (ξ (θ z z (TL.s z z (ω z (lenC z h2_ z) (ω z (OpVal.lss z z z) (κ (TC.cD z hh (fun h105 hh=> ?_) (fun h105 hh=> ?_))))))))
 ·refine ι (S.n (ν (υ (ν ?_))))
  obtain ⟨u19,hh⟩:=d6_ hh
  refine TC.draw [] (by kernel_rfl) (Ψ 0 z (aj_ (.inl z) z) z (Ψ 1 z (ai_ (.inl z) z) z (TA.b 2 z (af_ z h2_ sz4 z z f0_0.rv.sl (by omega)) z (TA.b 3 z (al_ false z ag4 z f0_0 (by omega) z) z (Ψ 4 z (aj_ (.inl z) z) z (Ψ 5 z (ai_ (.inl z) z) z (TA.b 6 z (af_ z h2_ sz4 z z f1_0.rv.sl (by omega)) z (TA.b 7 z (al_ false z ag4 z f1_0 (by omega) z) z (Ψ 8 z (neqB z z z underlying4) z (TA.dn (S.n (TC.cB z hh (fun h106 hh=> ?_) (fun h106 hh=> ?_)))))))))))))
  ·refine ξ (TL.j z z (κ (TC.ret (B.r (S.r (S.r ?_))))))
   replace hh:=el_ hR1 hh
   refine B.r (S.r ?_)
   obtain rfl:=so hh
   exact rq [4] ⟨z,z,z⟩
  refine ι (B.n (S.n (π (θ z z (ω z (OpVal.succ z z z (by omega)) (θ z z (κ ?_)))))))
  obtain ⟨hh,hlt107⟩:=ey_ hR1 hh
  exact lf ((k104+1),()) hlt107 hh (Sub.pre 0 z)
 refine TC.exit (S.x (S.x ?_))
 replace hh:=el_ hR1 hh
 refine Δ (S.n (ξ (TL.j z z (κ (TC.ret ?_)))))
 obtain rfl:=so hh
 exact rq [4] ⟨z,z,z⟩
def B0_(k112:Nat):Option ((Nat)⊕(Bool)):=
 nxt (k112+1)
def A5_(x0:Seq)(x1:Seq)(k112:Nat):Option ((Nat)⊕(Bool)):=
 ec_ (decide ((k112:Int)<((x0.next.length:Nat):Int))) (grd (k112<x1.next.length) (bnd (Ct_ (nth x0.next k112 []) (nth x1.next k112 [])) (fun v60=>ec_ (!v60) (fin (some false)) (ec_ (decide ((k112:Int)<((x0.outs.length:Nat):Int))) (grd (k112<x1.outs.length) (bnd (Bx_ (nth x0.outs k112 []) (nth x1.outs k112 [])) (fun v79=>ec_ (!v79) (fin (some false)) (B0_ k112)))) (B0_ k112))))) (fin (some true))
def Ay_(x0:Seq)(x1:Seq):Option (Bool):=
 ec_ (decide (x0.front≠x1.front)) (some false) (ec_ (decide (((x0.next.length:Nat):Int)≠((x1.next.length:Nat):Int))) (some false) (ec_ (decide (((x0.outs.length:Nat):Int)≠((x1.outs.length:Nat):Int))) (some false) (bnd (Cj_ x0.fin x1.fin) (fun v32=>ec_ (!v32) (some false) (bnd (Bx_ x0.tail x1.tail) (fun v40=>ec_ (!v40) (some false) (eq_ (fun q:Nat=>A5_ x0 x1 q) 0)))))))
theorem Ey_{σ:d0_}{x0:Seq}{x1:Seq}(f0_0:RZ σ (ea_ 1 eI_ ep_) (.slice a0_0 x0.next.length c0_0) x0.next)(f0_1:RZ σ (ea_ 1 eS_ es_) (.slice a0_1 x0.outs.length c0_1) x0.outs)(f0_2:rS_ σ e1_ a0_2 c0_2 x0.fin)(f0_3:rS_ σ eS_ a0_3 c0_3 x0.tail)(f1_0:RZ σ (ea_ 1 eI_ ep_) (.slice a1_0 x1.next.length c1_0) x1.next)(f1_1:RZ σ (ea_ 1 eS_ es_) (.slice a1_1 x1.outs.length c1_1) x1.outs)(f1_2:rS_ σ e1_ a1_2 c1_2 x1.fin)(f1_3:rS_ σ eS_ a1_3 c1_3 x1.tail){r:Bool}(hh:Ay_ x0 x1=some r):
  Con prog 17 #[.agg (aq_ x0 a0_0 c0_0 a0_1 c0_1 a0_2 c0_2 a0_3 c0_3),.agg (aq_ x1 a1_0 c1_0 a1_1 c1_1 a1_2 c1_2 a1_3 c1_3)] σ [] (fd_ (.bool r) σ):=by
 dsimp only [Ay_]at hh
 have f0_0b:=f0_0.big
 have f0_1b:=f0_1.big
 have f0_2b:=f0_2.rv.big
 have f0_3b:=f0_3.rv.big
 have f1_0b:=f1_0.big
 have f1_1b:=f1_1.big
 have f1_2b:=f1_2.rv.big
 have f1_3b:=f1_3.rv.big
 refine Con.mk (n:=85) Tryz.func17 z z z (fun w0=> ?_)
 refine ξ (ζ z (boxA z z z z (fun b101=> ?_)))
 refine ζ z (boxA z z z z (fun b103=> ?_))
 refine TL.j z z (κ (ν (ξ (ω z (aa_ z ib_ z) (ω z (ab_ z ag9 z (i:=1) z z) (ω z (aa_ z ib_ z) (ω z (ab_ z ag9 z (i:=0) z z) (ω z (b3_ z z z) (TL.j z z (TL.split 11 z (fun h105=> ?_) (fun h105=> ?_)))))))))))
 ·replace hh:=ej_ h105 hh
  replace h105:=dt_ h105
  refine χ z (χ z (χ z (χ z (χ z (χ z (χ z (ω z (ah_ z z z) (TL.j z z (χ z (χ z (χ z (χ z (χ z (χ z (χ z ?_)))))))))))))))
  refine ω z (ah_ z z z) (TL.j z z (χ z (χ z (χ z (χ z (χ z (χ z (ω z (ah_ z z z) (TL.j z z (χ z (χ z (χ z (χ z (χ z (χ z ?_)))))))))))))))
  refine ω z (ah_ z z z) (κ (TC.t z (ξ (TL.j z z (κ (TC.rt 0 (S.r ?_)))))))
  obtain rfl:=so hh
  exact rq [4] ⟨z,z,z⟩
 replace hh:=ei_ h105 hh
 replace h105:=df_ h105
 refine TL.g z (aa_ z e8_ z) (TL.g z (ab_ z i0_ z (i:=1) z z) (TL.g z (lenC z fn_ z) (TL.g z (aa_ z e8_ z) (TL.g z (ab_ z i0_ z (i:=0) z z) (TL.g z (lenC z fn_ z) (TL.g z (OpVal.neq z z z) (ω z (ag_ z z z) (TL.j z z (TL.split 20 z (fun h106=> ?_) (fun h106=> ?_))))))))))
 ·replace hh:=ej_ h106 hh
  replace h106:=dt_ h106
  refine χ z (χ z (χ z (χ z (χ z (χ z (χ z (ω z (ah_ z z z) (TL.j z z (χ z (χ z (χ z (χ z (χ z (χ z (ω z (ah_ z z z) ?_)))))))))))))))
  refine TL.j z z (χ z (χ z (χ z (χ z (χ z (χ z (ω z (ah_ z z z) (κ (TC.t z (ξ (TL.j z z (κ (TC.rt 0 (S.r ?_))))))))))))))
  obtain rfl:=so hh
  exact rq [4] ⟨z,z,z⟩
 replace hh:=ei_ h106 hh
 replace h106:=df_ h106
 refine TL.g z (aa_ z fy_ z) (TL.g z (ab_ z m4_ z (i:=1) z z) (TL.g z (lenC z l4_ z) (TL.g z (aa_ z fy_ z) (TL.g z (ab_ z m4_ z (i:=0) z z) (TL.g z (lenC z l4_ z) (TL.g z (OpVal.neq z z z) (ω z (ag_ z z z) (TL.j z z (TL.split 29 z (fun h107=> ?_) (fun h107=> ?_))))))))))
 ·replace hh:=ej_ h107 hh
  replace h107:=dt_ h107
  refine χ z (χ z (χ z (χ z (χ z (χ z (ω z (ah_ z z z) (TL.j z z (χ z (χ z (χ z (χ z (χ z (χ z (ω z (ah_ z z z) (κ ?_)))))))))))))))
  refine TC.t z (ξ (TL.j z z (κ (TC.rt 0 (S.r ?_)))))
  obtain rfl:=so hh
  exact rq [4] ⟨z,z,z⟩
 replace hh:=ei_ h107 hh
 replace h107:=df_ h107
 refine TL.g z (aa_ z gq_ z) (TL.g z (ab_ z nz_ z (i:=1) z z) (TL.g z (aa_ z gq_ z) (TL.g z (ab_ z nz_ z (i:=0) z z) ?_)))
 obtain ⟨v32,u32,hh⟩:=eb_ hh
 refine TL.gon z z z z z (aw_ (Gf_ f0_2 f1_2 u32) z z pf34 z z z ?_)
 refine TL.g z (OpVal.not z z) (ω z (ag_ z z z) (TL.j z z (TL.split 37 z (fun h108=> ?_) (fun h108=> ?_))))
 ·replace hh:=ej_ h108 hh
  refine χ z (χ z (χ z (χ z (χ z (χ z (ω z (ah_ z z z) (κ (TC.t z (ξ (TL.j z z (κ (TC.rt 0 (S.r ?_)))))))))))))
  obtain rfl:=so hh
  exact rq [4] ⟨z,z,z⟩
 replace hh:=ei_ h108 hh
 refine TL.g z (aa_ z g0_ z) (TL.g z (ab_ z kv_ z (i:=1) z z) (TL.g z (aa_ z g0_ z) (TL.g z (ab_ z kv_ z (i:=0) z z) ?_)))
 obtain ⟨v40,u40,hh⟩:=eb_ hh
 refine TL.gon z z z z z (aw_ (Es_ f0_3 f1_3 u40) z z pf27 z z z ?_)
 refine TL.g z (OpVal.not z z) (ω z (ag_ z z z) (κ (TC.cB z hh (fun h109 hh=> ?_) (fun h109 hh=> ?_))))
 ·refine ξ (TL.j z z (κ (TC.rt 0 (S.r ?_))))
  obtain rfl:=so hh
  exact rq [4] ⟨z,z,z⟩
 refine ι (S.n (ν (ξ (θ z z (κ (υ (TC.ao_ (α:=(Nat)×(Unit)) (rgs [(4,2),(45,40)]) (fun g=>[(5,.int .i64 ((g.1:Nat):Int))]) (fun g=>[cq_ b101 x0 a0_0 c0_0 a0_1 c0_1 a0_2 c0_2 a0_3 c0_3,cq_ b103 x1 a1_0 c1_0 a1_1 c1_1 a1_2 c1_2 a1_3 c1_3]) (fun g=>σ) (fun g=>eq_ (fun q:Nat=>A5_ x0 x1 q) g.1=some r) (fun g=>eh_ (fun q:Nat=>A5_ x0 x1 q) g.1) (0,()) (δ [1] 2) z (by repeat (first|exact trivial|refine ⟨z,?_⟩)) hh (fun g1 j1 hg1=> ?_))))))))
 obtain ⟨k112,_⟩:=g1
 have hh:=hg1;clear hg1
 try dsimp only
 obtain ⟨z1,hh,hR1⟩:=eo_ hh
 dsimp only [A5_]at hh
 refine ν (ξ (θ z z (ω z (aa_ z e8_ z) (ω z (ab_ z i0_ z (i:=0) z z) (ω z (lenC z fn_ z) (ω z (OpVal.lss z z z) (κ (TC.cD z hh (fun h113 hh=> ?_) (fun h113 hh=> ?_)))))))))
 ·refine ι (S.n (TC.cutG (α:=(Unit)×(Unit)) (rgs [(4,1),(52,33)]) (fun g=>[]) (fun g=>[cq_ b101 x0 a0_0 c0_0 a0_1 c0_1 a0_2 c0_2 a0_3 c0_3,cq_ b103 x1 a1_0 c1_0 a1_1 c1_1 a1_2 c1_2 a1_3 c1_3]) (fun g=>σ) (fun g=>B0_ k112=some z1) ?_ (fun g j hg=> ?_)))
  ·skip
   refine υ (ν (TC.draw [] (by kernel_rfl) (Ψ 0 z (aa_ z e8_ z) z (TA.b 1 z (ab_ z i0_ z (i:=0) z z) z (Ψ 2 z (ai_ (.inl z) z) z (TA.b 3 z (af_ z fn_ fp_ z z f0_0.isSl (by omega)) z ?_))))))
   obtain ⟨p114,hk114,hg114⟩:=RZ.seg f0_0 k112 (by omega)
   replace hk114:rS_ _ eI_ p114.1 p114.2 (nth x0.next k112 []):=hk114
   have hk114b:=hk114.rv.big
   refine TA.b 4 z (OpVal.of (as_ z jx_ z hg114 z) (v':= .slice p114.1 ((nth x0.next k112 []).length) p114.2) z) z (Ψ 5 z (aa_ z e8_ z) z (TA.b 6 z (ab_ z i0_ z (i:=1) z z) z (Ψ 7 z (ai_ (.inl z) z) z ?_)))
   obtain ⟨u58,hh⟩:=d6_ hh
   refine TA.b 8 z (af_ z fn_ fp_ z z f1_0.isSl (by omega)) z ?_
   obtain ⟨p115,hk115,hg115⟩:=RZ.seg f1_0 k112 (by omega)
   replace hk115:rS_ _ eI_ p115.1 p115.2 (nth x1.next k112 []):=hk115
   have hk115b:=hk115.rv.big
   refine TA.b 9 z (OpVal.of (as_ z jx_ z hg115 z) (v':= .slice p115.1 ((nth x1.next k112 []).length) p115.2) z) z ?_
   obtain ⟨v60,u60,hh⟩:=eb_ hh
   refine TA.ac 10 z (aw_ (Gj_ hk114 hk115 u60) z z pf52 z z z (k0 ?_))
   refine Ψ 11 z (OpVal.not z z) z (Ψ 12 z (moveB (.inl z) z) z (TA.split 64 z (fun h116=> ?_) (fun h116=> ?_)))
   ·replace hh:=ej_ h116 hh
    refine TA.off 13 z z z z z z (TA.off 14 z z z z z z (TA.off 15 z z z z z z (TA.off 16 z z z z z z (TA.off 17 z z z z z z (TA.off 18 z z z z z z (TA.ar_ 19 z (by kernel_rfl) (by kernel_rfl) (by kernel_rfl) (by kernel_rfl) z z z z z z z (TA.ar_ 20 z (by kernel_rfl) (by kernel_rfl) (by kernel_rfl) (by kernel_rfl) z z z z z z z (TA.ar_ 21 z (by kernel_rfl) (by kernel_rfl) (by kernel_rfl) (by kernel_rfl) z z z z z z z (TA.ar_ 22 z (by kernel_rfl) (by kernel_rfl) (by kernel_rfl) (by kernel_rfl) z z z z z z z (TA.ar_ 23 z (by kernel_rfl) (by kernel_rfl) (by kernel_rfl) (by kernel_rfl) z z z z z z z (TA.ar_ 24 z (by kernel_rfl) (by kernel_rfl) (by kernel_rfl) (by kernel_rfl) z z z z z z z (TA.ar_ 25 z (by kernel_rfl) (by kernel_rfl) (by kernel_rfl) (by kernel_rfl) z z z z z z z (TA.ar_ 26 z (by kernel_rfl) (by kernel_rfl) (by kernel_rfl) (by kernel_rfl) z z z z z z z (TA.ar_ 27 z (by kernel_rfl) (by kernel_rfl) (by kernel_rfl) (by kernel_rfl) z z z z z z z (TA.ar_ 28 z (by kernel_rfl) (by kernel_rfl) (by kernel_rfl) (by kernel_rfl) z z z z z z z ?_)))))))))))))))
    refine TA.ar_ 29 z (by kernel_rfl) (by kernel_rfl) (by kernel_rfl) (by kernel_rfl) z z z z z z z (TA.ar_ 30 z (by kernel_rfl) (by kernel_rfl) (by kernel_rfl) (by kernel_rfl) z z z z z z z (TA.off 31 z z z z z z (Ψ 32 z (ah_ z z z) z (TA.dn (S.n (TC.t z (ξ (TL.j z z (κ (TC.rt 0 (B.r (S.r (S.r ?_)))))))))))))
    replace hh:=el_ hR1 hh
    refine B.r (S.r ?_)
    obtain rfl:=so hh
    exact rq [4] ⟨z,z,z⟩
   replace hh:=ei_ h116 hh
   refine TA.on 13 z z z z (ai_ (.inl z) z) z (TA.on 14 z z z z (aa_ z fy_ z) z (TA.on 15 z z z z (ab_ z m4_ z (i:=0) z z) z (TA.on 16 z z z z (lenC z l4_ z) z (TA.on 17 z z z z (OpVal.lss z z z) z (TA.on 18 z z z z (moveB (.inl z) z) z (TA.split 70 z (fun h117=> ?_) (fun h117=> ?_)))))))
   ·replace hh:=ej_ h117 hh
    replace h117:=dt_ h117
    refine TA.on 19 z z z z (aa_ z fy_ z) z (TA.on 20 z z z z (ab_ z m4_ z (i:=0) z z) z (TA.on 21 z z z z (ai_ (.inl z) z) z (TA.on 22 z z z z (af_ z l4_ kn_ z z f0_1.isSl (by omega)) z ?_)))
    obtain ⟨p118,hk118,hg118⟩:=RZ.seg f0_1 k112 (by omega)
    replace hk118:rS_ _ eS_ p118.1 p118.2 (nth x0.outs k112 []):=hk118
    have hk118b:=hk118.rv.big
    refine TA.on 23 z z z z (OpVal.of (as_ z kv_ z hg118 z) (v':= .slice p118.1 ((nth x0.outs k112 []).length) p118.2) z) z (TA.on 24 z z z z (aa_ z fy_ z) z (TA.on 25 z z z z (ab_ z m4_ z (i:=1) z z) z (TA.on 26 z z z z (ai_ (.inl z) z) z ?_)))
    obtain ⟨u77,hh⟩:=d6_ hh
    refine TA.on 27 z z z z (af_ z l4_ kn_ z z f1_1.isSl (by omega)) z ?_
    obtain ⟨p119,hk119,hg119⟩:=RZ.seg f1_1 k112 (by omega)
    replace hk119:rS_ _ eS_ p119.1 p119.2 (nth x1.outs k112 []):=hk119
    have hk119b:=hk119.rv.big
    refine TA.on 28 z z z z (OpVal.of (as_ z kv_ z hg119 z) (v':= .slice p119.1 ((nth x1.outs k112 []).length) p119.2) z) z ?_
    obtain ⟨v79,u79,hh⟩:=eb_ hh
    refine TA.actOn 29 (by kernel_rfl) z z z z z z (aw_ (Es_ hk118 hk119 u79) z z pf27 z z z (k0 ?_))
    refine TA.on 30 z z z z (OpVal.not z z) z (TA.on 31 z z z z (ah_ z z z) z (Ψ 32 z (ag_ z z z) z (TA.dn (S.n (TC.cB z hh (fun h120 hh=> ?_) (fun h120 hh=> ?_))))))
    ·refine ξ (TL.j z z (κ (TC.rt 0 (B.r (S.r (S.r ?_))))))
     replace hh:=el_ hR1 hh
     refine B.r (S.r ?_)
     obtain rfl:=so hh
     exact rq [4] ⟨z,z,z⟩
    exact ι (B.n (S.n (cf ((),()) hh (δ [1,1] 2))))
   replace hh:=ei_ h117 hh
   replace h117:=df_ h117
   refine TA.off 19 z z z z z z (TA.off 20 z z z z z z (TA.off 21 z z z z z z (TA.off 22 z z z z z z (TA.off 23 z z z z z z (TA.off 24 z z z z z z (TA.off 25 z z z z z z (TA.off 26 z z z z z z (TA.off 27 z z z z z z (TA.off 28 z z z z z z (TA.off 29 z z z z z z (TA.off 30 z z z z z z (TA.on 31 z z z z (ag_ z z z) z (Ψ 32 z (ag_ z z z) z (TA.dn (S.n ?_)))))))))))))))
   exact TC.f z (ι (B.n (S.n (cf ((),()) hh (δ [1,1] 2)))))
  skip
  obtain ⟨_,_⟩:=g
  have hh:=hg;clear hg
  try dsimp only
  dsimp only [B0_]at hh
  refine π (θ z z (ω z (OpVal.succ z z z (by omega)) (θ z z (κ ?_))))
  obtain ⟨hh,hlt121⟩:=ey_ hR1 hh
  exact lf ((k112+1),()) hlt121 hh (δ [1,1] 2)
 refine TC.exit (S.x (S.x ?_))
 replace hh:=el_ hR1 hh
 refine Δ (S.n (ξ (TL.j z z (κ (TC.rt 0 ?_)))))
 obtain rfl:=so hh
 exact rq [4] ⟨z,z,z⟩
def Et_(k183:Nat)(l188:List Arc):Option (((List Arc)×Nat)⊕(((List Tip)×(List Arc)×Nat)⊕(Fst×Int))):=
 nxt (l188,(k183+1))
def Bz_(x0:Seq)(k147:Nat)(l155:List Tip)(l180:List Arc)(k183:Nat):Option (((List Arc)×Nat)⊕(((List Tip)×(List Arc)×Nat)⊕(Fst×Int))):=
 ec_ (decide ((k183:Int)<(((nth x0.next k147 []).length:Nat):Int))) (ec_ (decide ((nth (nth x0.next k147 []) k183 0)<0)) (Et_ k183 l180) (ec_ (decide (16384≤((l180.length:Nat):Int))) (fin (fin (some ((⟨0,([]:List Tip),([]:List Tip),([]:List Arc)⟩:Fst),2)))) (grd ([(hn_ (k183:Int))].length≤1000000000000) (grd (k147<x0.outs.length) (grd (k183<(nth x0.outs k147 []).length) (grd ((l180.length+[(⟨(k147:Int),(nth (nth x0.next k147 []) k183 0),(BSet.ofL [(hn_ (k183:Int))]),(nth (nth x0.outs k147 []) k183 []),false⟩:Arc)].length) * 72≤140737488355328) (Et_ k183 (l180++[(⟨(k147:Int),(nth (nth x0.next k147 []) k183 0),(BSet.ofL [(hn_ (k183:Int))]),(nth (nth x0.outs k147 []) k183 []),false⟩:Arc)])))))))) (fin (nxt (l155,l180,(k147+1))))
def Dj_(x0:Seq)(k147:Nat)(l144:List Arc)(l155:List Tip):Option (((List Tip)×(List Arc)×Nat)⊕(Fst×Int)):=
 eq_ (fun q:(List Arc)×Nat=>Bz_ x0 k147 l155 q.1 q.2) (l144,0)
def Bi_(x0:Seq)(l109:List Tip)(l140:List Tip)(l144:List Arc)(k147:Nat):Option (((List Tip)×(List Arc)×Nat)⊕(Fst×Int)):=
 ec_ (decide ((k147:Int)<((x0.next.length:Nat):Int))) (grd (k147<x0.fin.length) (ec_ (nth x0.fin k147 false) (grd (k147<x0.tail.length) (grd ((l140.length+[(⟨(k147:Int),(nth x0.tail k147 [])⟩:Tip)].length) * 24≤140737488355328) (Dj_ x0 k147 l144 (l140++[(⟨(k147:Int),(nth x0.tail k147 [])⟩:Tip)])))) (Dj_ x0 k147 l144 l140))) (fin (bnd (B8_ (⟨((x0.next.length:Nat):Int),l109,l140,l144⟩:Fst)) (fun v100=>ec_ (decide (v100≠0)) (some ((⟨0,([]:List Tip),([]:List Tip),([]:List Arc)⟩:Fst),2)) (bnd (B5_ (⟨((x0.next.length:Nat):Int),l109,l140,l144⟩:Fst)) (fun v106=>some (v106.1,v106.2))))))
def D7_(x0:Seq)(l109:List Tip):Option (Fst×Int):=
 eq_ (fun q:(List Tip)×(List Arc)×Nat=>Bi_ x0 l109 q.1 q.2.1 q.2.2) (([]:List Tip),([]:List Arc),0)
def Fj_(x0:Seq):Option (Fst×Int):=
 bnd (Dc_ x0) (fun v5=>ec_ (decide (v5≠0)) (some ((⟨0,([]:List Tip),([]:List Tip),([]:List Arc)⟩:Fst),1)) (ec_ (decide (0<((x0.next.length:Nat):Int))) (grd ((([]:List Tip).length+[(⟨0,x0.front⟩:Tip)].length) * 24≤140737488355328) (D7_ x0 (([]:List Tip)++[(⟨0,x0.front⟩:Tip)]))) (D7_ x0 ([]:List Tip))))
def Im_(σ:d0_)(r:Fst×Int):Value→d0_→List Res→Prop:=fun v σ' H'=>
 ∃a1 c1 a2 c2 a3 c3,v= .tuple #[.agg (au_ r.1 a1 c1 a2 c2 a3 c3),.int .i64 r.2]∧RS σ' 2 d2_ (.slice a1 r.1.starts.length c1) r.1.starts∧RS σ' 2 d2_ (.slice a2 r.1.ends.length c2) r.1.ends∧RS σ' 8 d8_ (.slice a3 r.1.arcs.length c3) r.1.arcs∧H'=[]
theorem Ib_{σ:d0_}{x0:Seq}(f0_0:RZ σ (ea_ 1 eI_ ep_) (.slice a0_0 x0.next.length c0_0) x0.next)(f0_1:RZ σ (ea_ 1 eS_ es_) (.slice a0_1 x0.outs.length c0_1) x0.outs)(f0_2:rS_ σ e1_ a0_2 c0_2 x0.fin)(f0_3:rS_ σ eS_ a0_3 c0_3 x0.tail){r:Fst×Int}(hh:Fj_ x0=some r):
  Con prog 21 #[.agg (aq_ x0 a0_0 c0_0 a0_1 c0_1 a0_2 c0_2 a0_3 c0_3)] σ [] (Im_ σ r):=by
 dsimp only [Fj_]at hh
 have f0_0b:=f0_0.big
 have f0_1b:=f0_1.big
 have f0_2b:=f0_2.rv.big
 have f0_3b:=f0_3.rv.big
 refine Con.mk (n:=97) Tryz.func21 z z z (fun w0=> ?_)
 refine ξ (ζ z (boxA z z z z (fun b101=> ?_)))
 refine ζ z (OpOk.alloc z m2_ z z (fun b103=> ?_))
 refine θ z z (κ (ν (ξ (ω z (ak_ z h1_ fs_ z (i:=1) z z) ?_))))
 obtain ⟨v5,u5,hh⟩:=eb_ hh
 refine ζ z (aw_ (Ev_ (x0:=x0) f0_0 f0_1 f0_2 f0_3 u5) z z pf23 z z z ?_)
 refine ω z (OpVal.neq z z z) (κ (TC.cD z hh (fun h105 hh=> ?_) (fun h105 hh=> ?_)))
 ·refine ξ (ω z (an_ z tx_ m2_ z) (ζ z (storeAll z hi_ z z z z z z ?_)))
  refine θ z z (κ (TC.rt 1 (S.r ?_)))
  obtain rfl:=so hh
  exact ro [] z (RVs.agg jc_ hi_ z (i:=0) z z (RVs.tmp z RVs.nil)) ⟨none,0,none,0,none,0,z,(RS.nilF _ d2_ d1_),(RS.nilF _ d2_ d1_),(RS.nilF _ d8_ ee_),z⟩
 refine ι (S.n (ξ (ω z (aa_ z e8_ z) (ω z (ab_ z i0_ z (i:=1) z z) (ω z (lenC z fn_ z) (ω z (an_ z tx_ m2_ z) (ζ z (OpOk.alloc z m2_ z z (fun b106=> ?_)))))))))
 refine ζ z (storeAll z hi_ z z z z z z ?_)
 refine κ (TC.cutG (α:=((List Tip))×((Option Addr)×Nat)) (rgs [(17,11)]) (fun g=>[]) (fun g=>[cq_ b101 x0 a0_0 c0_0 a0_1 c0_1 a0_2 c0_2 a0_3 c0_3,φ b103 #[.int .i64 0,nl_,nl_,nl_] 25,φ b106 #[.int .i64 ((x0.next.length:Nat):Int),.slice g.2.1 g.1.length g.2.2,nl_,nl_] 25,ε 76 2 d2_ (.slice g.2.1 g.1.length g.2.2) g.1]) (fun g=>σ) (fun g=>D7_ x0 g.1=some r) ?_ (fun g j hg=> ?_))
 ·skip
  refine ξ (ω z (aa_ z fa_ z) (ω z (ab_ z ag3 z (i:=0) z z) (ω z (OpVal.gtr z z z) (κ (TC.cD z hh (fun h112 hh=> ?_) (fun h112 hh=> ?_))))))
  ·refine π (ω z (aa_ z f2_ z) (ω z (ab_ z jv_ z (i:=0) z z) (ω z (aa_ z ib_ z) (ω z (ab_ z ag9 z (i:=2) z z) (ω z (an_ z wl_ ik_ z) (ζ z (OpOk.lit (enc:=d2_) [(⟨0,x0.front⟩:Tip)] z ge_ fr_ ik_ z z z d1_ (by decide) (by decide) tz_ z (by decide) z (by decide) fc_ (fun a113 c114=> ?_))))))))
   refine TL.nilS 76 2 d2_ ?_
   obtain ⟨u25,hh⟩:=d6_ hh
   refine ζ z (av_ z z ge_ fr_ w4_ ik_ z z (by decide) z z z (.inr ⟨_,0,z⟩) (by simp) (by decide) (fun a117 c118=> ?_))
   refine ω z (aa_ z f2_ z) (ψ 2 z z (ζ z (ae_ z w3_ z z z z z ?_)))
   exact κ (cf ((([]:List Tip)++[(⟨0,x0.front⟩:Tip)]),(a117,c118)) hh (δ [1,1,3,4] 4))
  exact TC.nilS 76 2 d2_ (ι (S.n (cf (([]:List Tip),(none,0)) hh (δ [1,2,3] 4))))
 skip
 obtain ⟨l109,⟨a110,c111⟩⟩:=g
 have hh:=hg;clear hg
 try dsimp only
 dsimp only [D7_]at hh
 refine η (i:=3) z (fun _ hb120 _=> ?_)
 refine ν (ξ (ω z (aa_ z e8_ z) (ω z (ab_ z i0_ z (i:=0) z z) (ω z (lenC z fn_ z) (θ z z (κ (υ (TC.nilS 76 2 d2_ (TC.nilS 66 8 d8_ (TC.ao_ (α:=((List Tip)×(List Arc)×Nat)×((Option Addr)×Nat×(Option Addr)×Nat)) (rgs [(3,1),(5,4),(31,58)]) (fun g=>[(31,.int .i64 ((g.1.2.2:Nat):Int))]) (fun g=>[cq_ b101 x0 a0_0 c0_0 a0_1 c0_1 a0_2 c0_2 a0_3 c0_3,φ b103 #[.int .i64 0,nl_,nl_,nl_] 25,φ b106 #[.int .i64 ((x0.next.length:Nat):Int),.slice a110 l109.length c111,.slice g.2.1 g.1.1.length g.2.2.1,.slice g.2.2.2.1 g.1.2.1.length g.2.2.2.2] 25,ε 76 2 d2_ (.slice a110 l109.length c111) l109,ε 76 2 d2_ (.slice g.2.1 g.1.1.length g.2.2.1) g.1.1,ε 66 8 d8_ (.slice g.2.2.2.1 g.1.2.1.length g.2.2.2.2) g.1.2.1]) (fun g=>σ) (fun g=>eq_ (fun q:(List Tip)×(List Arc)×Nat=>Bi_ x0 l109 q.1 q.2.1 q.2.2) g.1=some r) (fun g=>eh_ (fun q:(List Tip)×(List Arc)×Nat=>Bi_ x0 l109 q.1 q.2.1 q.2.2) g.1) ((([]:List Tip),([]:List Arc),0),(none,0,none,0)) (δ [1,5,5,5,5] 6) z (by repeat (first|exact trivial|refine ⟨z,?_⟩)) hh (fun g1 j1 hg1=> ?_)))))))))))
 obtain ⟨⟨l140,l144,k147⟩,⟨a141,c142,a145,c146⟩⟩:=g1
 have hh:=hg1;clear hg1
 try dsimp only
 obtain ⟨z1,hh,hR1⟩:=eo_ hh
 dsimp only [Bi_]at hh
 refine η (i:=3) z (fun _ hb150 _=> ?_)
 refine η (i:=4) z (fun _ hb151 _=> ?_)
 refine η (i:=5) z (fun _ hb152 _=> ?_)
 refine ξ (ω z (OpVal.lss z z z) (κ (ν (TC.cD z hh (fun h153 hh=> ?_) (fun h153 hh=> ?_)))))
 ·refine ι (S.n (ν (υ (ξ (θ z z (ω z (af_ z fn_ fp_ z z f0_0.isSl (by omega)) ?_))))))
  obtain ⟨p154,hk154,hg154⟩:=RZ.seg f0_0 k147 (by omega)
  replace hk154:rS_ _ eI_ p154.1 p154.2 (nth x0.next k147 []):=hk154
  have hk154b:=hk154.rv.big
  refine ω z (OpVal.of (as_ z jx_ z hg154 z) (v':= .slice p154.1 ((nth x0.next k147 []).length) p154.2) z) (θ z z (TL.s z z (κ (TC.cutG (α:=((List Tip))×((Option Addr)×Nat)) (rgs [(36,17)]) (fun g=>[]) (fun g=>[cq_ b101 x0 a0_0 c0_0 a0_1 c0_1 a0_2 c0_2 a0_3 c0_3,φ b103 #[.int .i64 0,nl_,nl_,nl_] 25,φ b106 #[.int .i64 ((x0.next.length:Nat):Int),.slice a110 l109.length c111,.slice g.2.1 g.1.length g.2.2,.slice a145 l144.length c146] 25,ε 76 2 d2_ (.slice a110 l109.length c111) l109,ε 76 2 d2_ (.slice g.2.1 g.1.length g.2.2) g.1,ε 66 8 d8_ (.slice a145 l144.length c146) l144]) (fun g=>σ) (fun g=>Dj_ x0 k147 l144 g.1=some z1) ?_ (fun g j hg=> ?_)))))
  ·skip
   refine ξ (ω z (aa_ z gq_ z) (ω z (ab_ z nz_ z (i:=0) z z) (θ z z ?_)))
   obtain ⟨u41,hh⟩:=d6_ hh
   refine ω z (af_ z h2_ sz4 z z f0_2.rv.sl (by omega)) (ω z (al_ false z ag4 z f0_2 (by omega) z) (κ (TC.cB z hh (fun h158 hh=> ?_) (fun h158 hh=> ?_))))
   ·have u49:=n8_ hh
    replace hh:=or_ hh
    obtain ⟨u53,hh⟩:=d6_ hh
    refine TC.draw [10,11,12] (by kernel_rfl) (Ψ 0 z (aa_ z f6_ z) z (TA.b 1 z (ab_ z jv_ z (i:=2) z z) z (Ψ 2 z (ai_ (.inl z) z) z (Ψ 3 z (aa_ z g0_ z) z (TA.b 4 z (ab_ z kv_ z (i:=0) z z) z (Ψ 5 z (ai_ (.inl z) z) z (TA.b 6 z (af_ z gw_ sz9 z z f0_3.rv.sl (by omega)) z (TA.b 7 z (al_ ([]:T_1) z ag9 z f0_3 (by omega) z) z (Ψ 8 z (an_ z wl_ ik_ z) z (TA.ac 9 z (OpOk.lit (enc:=d2_) [(⟨(k147:Int),(nth x0.tail k147 [])⟩:Tip)] z ge_ fr_ ik_ z z z d1_ (by decide) (by decide) tz_ z (by decide) z (by decide) fc_ (fun a164 c165=>(k1 ?_)))))))))))))
    refine TA.front 5 z z (TA.last 10 (by kernel_rfl) z z z (av_ z z ge_ fr_ w4_ ik_ z z (by decide) z z z (.inr ⟨_,0,z⟩) (by simpa using u53) (by decide) (fun a167 c168=> ?_)))
    refine TZ.v 11 (by kernel_rfl) z z z (aa_ z f6_ z) z z (TZ.front 4 z z (TZ.last 12 (by kernel_rfl) z z z (ae_ z w3_ z z z z z ?_)))
    exact TZ.done (by kernel_rfl) (S.n (cf ((l140++[(⟨(k147:Int),(nth x0.tail k147 [])⟩:Tip)]),(a167,c168)) hh (δ [6,2,6,3,6,6] 6)))
   exact ι (S.n (cf (l140,(a141,c142)) hh (δ [5,5,5,5,5,5] 6)))
  skip
  obtain ⟨l155,⟨a156,c157⟩⟩:=g
  have hh:=hg;clear hg
  try dsimp only
  dsimp only [Dj_]at hh
  refine η (i:=3) z (fun _ hb169 _=> ?_)
  refine η (i:=4) z (fun _ hb170 _=> ?_)
  refine η (i:=5) z (fun _ hb171 _=> ?_)
  refine ξ (TL.s z z (ω z (lenC z e2_ z) (θ z z (κ (υ (TC.ao_ (α:=((List Arc)×Nat)×((Option Addr)×Nat)) (rgs [(3,1),(7,2),(55,33)]) (fun g=>[(55,.int .i64 ((g.1.2:Nat):Int))]) (fun g=>[cq_ b101 x0 a0_0 c0_0 a0_1 c0_1 a0_2 c0_2 a0_3 c0_3,φ b103 #[.int .i64 0,nl_,nl_,nl_] 25,φ b106 #[.int .i64 ((x0.next.length:Nat):Int),.slice a110 l109.length c111,.slice a156 l155.length c157,.slice g.2.1 g.1.1.length g.2.2] 25,ε 76 2 d2_ (.slice a110 l109.length c111) l109,ε 76 2 d2_ (.slice a156 l155.length c157) l155,ε 66 8 d8_ (.slice g.2.1 g.1.1.length g.2.2) g.1.1]) (fun g=>σ) (fun g=>eq_ (fun q:(List Arc)×Nat=>Bz_ x0 k147 l155 q.1 q.2) g.1=some z1) (fun g=>eh_ (fun q:(List Arc)×Nat=>Bz_ x0 k147 l155 q.1 q.2) g.1) ((l144,0),(a145,c146)) (δ [5,5,5,5,5,5] 6) z (by repeat (first|exact trivial|refine ⟨z,?_⟩)) hh (fun g2 j2 hg2=> ?_)))))))
  obtain ⟨⟨l180,k183⟩,⟨a181,c182⟩⟩:=g2
  have hh:=hg2;clear hg2
  try dsimp only
  obtain ⟨z2,hh,hR2⟩:=eo_ hh
  dsimp only [Bz_]at hh
  refine η (i:=3) z (fun _ hb184 _=> ?_)
  refine η (i:=4) z (fun _ hb185 _=> ?_)
  refine η (i:=5) z (fun _ hb186 _=> ?_)
  refine ξ (ω z (OpVal.lss z z z) (κ (ν (TC.cD z hh (fun h187 hh=> ?_) (fun h187 hh=> ?_)))))
  ·refine ι (S.n (TC.cutG (α:=((List Arc))×((Option Addr)×Nat)) (rgs [(3,1),(7,2),(57,30)]) (fun g=>[]) (fun g=>[cq_ b101 x0 a0_0 c0_0 a0_1 c0_1 a0_2 c0_2 a0_3 c0_3,φ b103 #[.int .i64 0,nl_,nl_,nl_] 25,φ b106 #[.int .i64 ((x0.next.length:Nat):Int),.slice a110 l109.length c111,.slice a156 l155.length c157,.slice g.2.1 g.1.length g.2.2] 25,ε 76 2 d2_ (.slice a110 l109.length c111) l109,ε 76 2 d2_ (.slice a156 l155.length c157) l155,ε 66 8 d8_ (.slice g.2.1 g.1.length g.2.2) g.1]) (fun g=>σ) (fun g=>Et_ k183 g.1=some z2) ?_ (fun g j hg=> ?_)))
   ·skip
    refine υ (ξ (θ z z (ω z (af_ z e2_ sz3 z z hk154.rv.sl (by omega)) (ω z (al_ (0:Int) z ag3 z hk154 (by omega) z) (θ z z (θ z z (κ (ν (ξ (θ z z (ω z (OpVal.lss z z z) (κ (TC.cD z hh (fun h191 hh=> ?_) (fun h191 hh=> ?_))))))))))))))
    ·exact TC.exit (S.x (Δ (S.n (cf (l180,(a181,c182)) hh (δ [5,5,5,5,5,5] 6)))))
    refine ι (S.n (ν (ξ (ω z (aa_ z fk_ z) (ω z (ab_ z k0_ z (i:=2) z z) (ω z (lenC z h9_ z) (ω z (OpVal.geq z z z) (κ (TC.cD z hh (fun h192 hh=> ?_) (fun h192 hh=> ?_))))))))))
    ·refine ξ (ω z (an_ z tx_ m2_ z) (ψ 1 z z (ζ z (storeAll z hi_ z z z z z z ?_))))
     refine θ z z (κ (TC.rt 1 (S.r (B.r (S.r (S.r ?_))))))
     replace hh:=el_ hR2 hh
     refine B.r (B.r (S.r (S.r ?_)))
     replace hh:=el_ hR1 hh
     refine B.r (S.r ?_)
     obtain rfl:=so hh
     exact ro [] z (RVs.agg jc_ hi_ z (i:=0) z z (RVs.tmp z RVs.nil)) ⟨none,0,none,0,none,0,z,(RS.nilF _ d2_ d1_),(RS.nilF _ d2_ d1_),(RS.nilF _ d8_ ee_),z⟩
    refine ι (S.n ?_)
    obtain ⟨u81,hh⟩:=d6_ hh
    obtain ⟨u85,hh⟩:=d6_ hh
    obtain ⟨u88,hh⟩:=d6_ hh
    obtain ⟨u92,hh⟩:=d6_ hh
    refine TC.draw [18,19,20] (by kernel_rfl) (Ψ 0 z (aa_ z fk_ z) z (TA.b 1 z (ab_ z k0_ z (i:=2) z z) z (Ψ 2 z (ai_ (.inl z) z) z (Ψ 3 z (ai_ (.inl z) z) z (Ψ 4 z (ai_ (.inl z) z) z (Ψ 5 z (bn_ z underlying3 underlying5 z) z (Ψ 8 z (aa_ z fy_ z) z (TA.b 9 z (ab_ z m4_ z (i:=0) z z) z (Ψ 10 z (ai_ (.inl z) z) z (TA.b 11 z (af_ z l4_ kn_ z z f0_1.isSl (by omega)) z ?_))))))))))
    obtain ⟨p202,hk202,hg202⟩:=RZ.seg f0_1 k147 (by omega)
    replace hk202:rS_ _ eS_ p202.1 p202.2 (nth x0.outs k147 []):=hk202
    have hk202b:=hk202.rv.big
    refine TA.b 12 z (OpVal.of (as_ z kv_ z hg202 z) (v':= .slice p202.1 ((nth x0.outs k147 []).length) p202.2) z) z (Ψ 13 z (ai_ (.inl z) z) z (TA.b 14 z (af_ z gw_ sz9 z z hk202.rv.sl (by omega)) z (TA.b 15 z (al_ ([]:T_1) z ag9 z hk202 (by omega) z) z (TA.ac 6 z (OpOk.lit (enc:=e5_) [(hn_ (k183:Int))] z th_ sz5 ze5 z z z gr_ (by decide) (by decide) (0:UInt8) z (by decide) z (by decide) gt_ (fun a203 c204=>(k1 ?_)))))))
    refine TA.ac 7 z (b5_ (u3_ _ _ _ [(hn_ (k183:Int))] u81) z z pf51 z z z z (k0 ?_))
    refine Ψ 16 z (an_ z pl66 ki_ z) z (TA.ac 17 z (OpOk.lit (enc:=d8_) [(⟨(k147:Int),(nth (nth x0.next k147 []) k183 0),(BSet.ofL [(hn_ (k183:Int))]),(nth (nth x0.outs k147 []) k183 []),false⟩:Arc)] z h9_ g5_ ki_ z z z ee_ (by decide) (by decide) az_ z (by decide) z (by decide) f5_ (fun a206 c207=>(k1 ?_))))
    refine TA.front 6 z z (TA.last 18 (by kernel_rfl) z z z (av_ z z h9_ g5_ z8_ ki_ z z (by decide) z z z (.inr ⟨_,0,z⟩) (by simpa using u92) (by decide) (fun a209 c210=> ?_)))
    refine TZ.v 19 (by kernel_rfl) z z z (aa_ z fk_ z) z z (TZ.front 4 z z (TZ.last 20 (by kernel_rfl) z z z (ae_ z u4_ z z z z z ?_)))
    exact TZ.done (by kernel_rfl) (B.n (S.n (cf ((l180++[(⟨(k147:Int),(nth (nth x0.next k147 []) k183 0),(BSet.ofL [(hn_ (k183:Int))]),(nth (nth x0.outs k147 []) k183 []),false⟩:Arc)]),(a209,c210)) hh (δ [1,6,6,3,6,6] 6))))
   skip
   obtain ⟨l188,⟨a189,c190⟩⟩:=g
   have hh:=hg;clear hg
   try dsimp only
   dsimp only [Et_]at hh
   refine η (i:=3) z (fun _ hb211 _=> ?_)
   refine η (i:=4) z (fun _ hb212 _=> ?_)
   refine η (i:=5) z (fun _ hb213 _=> ?_)
   refine π (ω z (OpVal.succ z z z (by omega)) (θ z z (κ ?_)))
   obtain ⟨hh,hlt214⟩:=ey_ hR2 hh
   exact lf ((l188,(k183+1)),(a189,c190)) hlt214 hh (δ [5,5,5,5,5,5] 6)
  refine TC.exit (S.x (S.x ?_))
  replace hh:=el_ hR2 hh
  refine Δ (B.n (S.n (π (ω z (OpVal.succ z z z (by omega)) (θ z z (κ ?_))))))
  obtain ⟨hh,hlt215⟩:=ey_ hR1 hh
  exact lf ((l155,l180,(k147+1)),(a156,c157,a181,c182)) hlt215 hh (δ [5,5,5,5,5,5] 6)
 refine TC.exit (S.x (S.x ?_))
 replace hh:=el_ hR1 hh
 refine Δ (S.n (ν (ξ (ω z (ak_ z jc_ hi_ z (i:=2) z z) ?_))))
 obtain ⟨v100,u100,hh⟩:=eb_ hh
 refine ψ 5 z z (ψ 5 z z (ψ 5 z z (ζ z (b2_ (Con.lend d1_ (fun _ hle219 hr216=>Con.lend d1_ (fun _ hle220 hr217=>Con.lend ee_ (fun _ hle221 hr218=>C7_ (x0:=(⟨((x0.next.length:Nat):Int),l109,l140,l144⟩:Fst)) ((hr216.mono hle220).mono hle221) (hr217.mono hle221) hr218 u100)))) z z z7_ z z z z ?_))))
 refine ω z (OpVal.neq z z z) (κ (TC.cD z hh (fun h222 hh=> ?_) (fun h222 hh=> ?_)))
 ·refine ξ (ω z (an_ z tx_ m2_ z) (ψ 4 z z (ζ z (storeAll z hi_ z z z z z z ?_))))
  refine θ z z (κ (TC.rt 1 (S.r ?_)))
  obtain rfl:=so hh
  exact ro [] z (RVs.agg jc_ hi_ z (i:=0) z z (RVs.tmp z RVs.nil)) ⟨none,0,none,0,none,0,z,(RS.nilF _ d2_ d1_),(RS.nilF _ d2_ d1_),(RS.nilF _ d8_ ee_),z⟩
 refine ι (S.n (ξ (ω z (ak_ z jc_ hi_ z (i:=5) z z) (TL.a3_ d1_ (fun τ225 hle224 hr223=> ?_)))))
 have hr223b:=hr223.rv.big
 refine TL.a3_ d1_ (fun τ228 hle227 hr226=> ?_)
 replace hr223:=hr223.mono hle227
 have hr226b:=hr226.rv.big
 refine TL.a3_ ee_ (fun τ231 hle230 hr229=> ?_)
 replace hr223:=hr223.mono hle230
 replace hr226:=hr226.mono hle230
 have hr229b:=hr229.rv.big
 obtain ⟨v106,u106,hh⟩:=eb_ hh
 refine ζ z (OpOk.call (Gz_ (x0:=(⟨((x0.next.length:Nat):Int),l109,l140,l144⟩:Fst)) hr223 hr226 hr229 u106) z z pf56 z z z z ?_)
 rintro _ τ232 _ hle232 ⟨a232_1,c232_1,a232_2,c232_2,a232_3,c232_3,rfl,hr232_0,hr232_1,hr232_2,rfl⟩
 have hr232_0b:=hr232_0.rv.big
 have hr232_1b:=hr232_1.rv.big
 have hr232_2b:=hr232_2.rv.big
 refine ω z (OpVal.extract z z z) (ω z (OpVal.extract z z z) (ψ 1 z z (ζ z (storeAll z hi_ z z z z z z ?_))))
 refine θ z z (κ (TC.rt 1 ?_))
 obtain rfl:=so hh
 exact ro [] z (RVs.agg jc_ hi_ z (i:=0) z z (RVs.tmp z RVs.nil)) ⟨a232_1,c232_1,a232_2,c232_2,a232_3,c232_3,z,hr232_0,hr232_1,hr232_2,z⟩
end Go.Proofs.YtchebnpdnfhenaaGreatDoor
end

noncomputable section
namespace Go.E
open Go
section
variable {β:Type} {E' E size:Nat} {enc:β→List Value} {v:Value}
variable {X:Ctx} {e:Env} {σ:d0_} {H F:List Res} {o:Oper} {x y:Operand} {K:Env→d0_→List Res→Prop} {z u:List (NP β)} {l k:List (List β)}
end
end Go.E
end

noncomputable section
namespace Go.Proofs.YtchebnpdnfhenaaGreatDoor
open Go Go.E
structure PaI (q:Seq) (l0:T_2) (m0:B_1) (j:Nat) (l:T_2) (m:B_1) (t:Bool):Prop where
  b:FrB q l m
  no:t=false→l=l0∧m=m0∧ ∀s,s<j→y1_ q l m s
  yes:t=true→e6_ (ts_ l m) q.next.length<e6_ (ts_ l0 m0) q.next.length
structure RcI (q:Seq) (v:B_1) (w:N_1) (i:Nat):Prop where
  len:v.length=q.next.length
  hd:0<w.length∧nth w 0 0=0
  le:i≤w.length
  rng: ∀j,j<w.length→0≤nth w j 0∧nth w j 0<(q.next.length:Int)∧RchQ q (nth w j 0).toNat
  done: ∀j,j<i→nth v (nth w j 0).toNat false=true
  rch: ∀s,s<q.next.length→nth v s false=true→RchQ q s
  cl: ∀s,s<q.next.length→nth v s false=true→ ∀b,b<256→0≤nxQ q s b→ ∃j,j<w.length∧nth w j 0=nxQ q s b
  mu:w.length+256 * e6_ (unM v) q.next.length≤1+256 * q.next.length
structure RtI (q:Seq) (l:T_2) (k:Nat→Bool) (s j:Nat) (N:N_1) (O:T_2):Prop where
  n:N.length=256
  o:O.length=256
  nx: ∀b,b<j→nth N b 0=nxP q k s b
  ot: ∀b,b<j→nth O b []=otP q l k s b
  rest: ∀b,j≤b→nth O b []=[]
theorem RtI.none{q:Seq}{l:T_2}{k:Nat→Bool}{s j:Nat}{N:N_1}{O:T_2}(h:RtI q l k s j N O)(hj:j<256)(h1:nxP q k s j= -1)(h2:otP q l k s j=[]):RtI q l k s (j+1) (N.set j (-1)) O:=by
  refine ⟨by rw [ls_];exact h.n,h.o,Gl_ 0 h.n hj h.nx h1.symm,fun b hb=> ?_,fun b hb=>h.rest b (by omega)⟩
  by_cases c:b<j
  · exact h.ot b c
  have:b=j:=by omega
  subst this;rw [h2];exact h.rest b (Nat.le_refl _)
theorem RtI.some{q:Seq}{l:T_2}{k:Nat→Bool}{s j:Nat}{N:N_1}{O:T_2}(h:RtI q l k s j N O)(hj:j<256){z:Int}{o:T_1}(h1:nxP q k s j=z)(h2:otP q l k s j=o):RtI q l k s (j+1) ((N.set j (-1)).set j z) (O.set j o):=by
  have h3:=h.n
  have h4:=h.o
  refine ⟨by simp [h3],by simp [h4],fun b hb=> ?_,Gl_ [] h4 hj h.ot h2.symm,fun b hb=> ?_⟩
  · rw [ek_,ek_]
    by_cases c:j=b
    · subst c;rw [if_pos ⟨rfl,by simp;omega⟩,h1]
    rw [if_neg (fun e=>c e.1),if_neg (fun e=>c e.1)];exact h.nx b (by omega)
  rw [ek_,if_neg (fun e=>by omega)];exact h.rest b (by omega)
structure ApI (q:Seq) (l:List B_1):Prop where
  len:l.length=q.next.length
  row: ∀s,s<q.next.length→(nth l s []).length=q.next.length
  un: ∀s t,s<q.next.length→t<q.next.length→nth (nth l s []) t false=true→ev_ q s≠ev_ q t
  like: ∀s t,s<q.next.length→t<q.next.length→nth (nth l s []) t false=false→LikeQ q s t
def rowN(l:List B_1)(n i:Nat):Nat:=e6_ (unM (nth l i [])) n
def cntN(l:List B_1)(n:Nat):Nat:=e6_ (rowN l n) n
def StbQ(q:Seq)(l:List B_1)(s t:Nat):Prop:=nth (nth l s []) t false=false→ ∀b,b<256→0≤nxQ q s b→0≤nxQ q t b→nth (nth l (nxQ q s b).toNat []) (nxQ q t b).toNat false=false
structure ApP (q:Seq) (l0:List B_1) (i k:Nat) (l:List B_1) (t:Bool):Prop where
  a:ApI q l
  no:t=false→l=l0∧ ∀s t,s<q.next.length→t<q.next.length→(s<i∨s=i∧t<k)→StbQ q l s t
  yes:t=true→cntN l q.next.length<cntN l0 q.next.length
structure ApR22 (q:Seq) (l:List B_1):Prop where
  len:l.length=q.next.length
  row: ∀s,s<q.next.length→(nth l s []).length=q.next.length
  iff: ∀s t,s<q.next.length→t<q.next.length→(nth (nth l s []) t false=false↔ev_ q s=ev_ q t)
structure LkI (q:Seq) (L:N_1) (j:Nat):Prop where
  len:L.length=j
  at': ∀s,s<j→ ∃a:Nat,nth L s 0=((a:Nat):Int)∧a≤s∧ev_ q a=ev_ q s∧ ∀m,m<a→ev_ q m≠ev_ q s
theorem LkI.iff{q:Seq}{L:N_1}{n:Nat}(h:LkI q L n){s t:Nat}(hs:s<n)(ht:t<n):nth L s 0=nth L t 0↔ev_ q s=ev_ q t:=by
  obtain ⟨a,a1,a2,a3,a4⟩:=h.at' s hs
  obtain ⟨b,b1,b2,b3,b4⟩:=h.at' t ht
  constructor
  · intro e
    have:a=b:=by omega
    subst this
    exact a3.symm.trans b3
  intro e
  have h1: ¬ a<b:=fun c=>b4 a c (a3.trans e)
  have h2: ¬ b<a:=fun c=>a4 b c (b3.trans e.symm)
  omega
def clR(L:N_1)(s:Nat):Int:=nth L s 0
structure RowI (q:Seq) (L st:N_1) (V:Nat→Int) (i b:Nat) (st' row:N_1) (V':Nat→Int):Prop where
  bf:BfI q (clR L) st' V' (i * 256+b)
  fx: ∀j,j<st'.length→nth L (nth st' j 0).toNat 0=nth st' j 0
  ex: ∃X,st'=st++X
  len:row.length=256
  at': ∀c,c<b→nth row c 0=V' (i * 256+c)
  old: ∀c,c<i * 256→V' c=V c
structure RmI (q:Seq) (L:N_1) (N:N_2) (O:T_3) (F:B_1) (T:T_2) (st:N_1) (i:Nat) (V:Nat→Int):Prop where
  bf:BfI q (clR L) st V (i * 256)
  fx: ∀j,j<st.length→nth L (nth st j 0).toNat 0=nth st j 0
  le:i≤st.length
  n:N.length=i
  o:O.length=i
  f:F.length=i
  t:T.length=i
  rn: ∀j,j<i→(nth N j []).length=256∧ ∀b,b<256→nth (nth N j []) b 0=V (j * 256+b)
  ro: ∀j,j<i→nth O j []=nth q.outs (nth st j 0).toNat []
  rf: ∀j,j<i→nth F j false=nth q.fin (nth st j 0).toNat false
  rt: ∀j,j<i→nth T j []=nth q.tail (nth st j 0).toNat []
theorem v4_: ∀p a b:T_1,Lib.compareBytes (p++a) (p++b)=Lib.compareBytes a b
  |[],_,_=>rfl
  |x::p,a,b=>by
    simp only [List.cons_append,Lib.compareBytes,UInt8.lt_irrefl,if_false]
    exact v4_ p a b
theorem cut_cmp{f:T_1}{x y:Tip}(hx:f <+: x.out)(hy:f <+: y.out):e0_ (pu_ f.length x) (pu_ f.length y)=e0_ x y:=by
  obtain ⟨a,ha⟩:=hx
  obtain ⟨b,hb⟩:=hy
  unfold e0_ pu_
  simp only [←ha,←hb,List.drop_left,v4_]
theorem once_cut{l:List Tip}{f:T_1}(hf: ∀x∈l,f <+: x.out):gy_ tz_ e0_ (l.map (pu_ f.length))=(gy_ tz_ e0_ l).map (pu_ f.length):=by
  refine lw_ fg_ (g2_ fg_ _) ?_ fun x=> ?_
  · rw [List.pairwise_map]
    refine (g2_ fg_ l).imp_of_mem fun {a b} ha hb h=> ?_
    rw [cut_cmp (hf a ((e4_ ..).1 ha)) (hf b ((e4_ ..).1 hb))];exact h
  rw [e4_]
  simp only [List.mem_map]
  exact ⟨fun ⟨y,h1,h2⟩=>⟨y,(e4_ ..).2 h1,h2⟩,fun ⟨y,h1,h2⟩=>⟨y,(e4_ ..).1 h1,h2⟩⟩
theorem lcp_once(l:List Tip):gn_ ((gy_ tz_ e0_ l).map Tip.out)=gn_ (l.map Tip.out):=qw_ fun x=>by
  simp only [List.mem_map]
  exact ⟨fun ⟨y,h1,h2⟩=>⟨y,(e4_ ..).1 h1,h2⟩,fun ⟨y,h1,h2⟩=>⟨y,(e4_ ..).2 h1,h2⟩⟩
theorem l9_(l:List Tip):hb_ l=if ud_ (gy_ tz_ e0_ l)=true then .inl 12 else if 4096<(gn_ (l.map Tip.out)).length then .inl 2 else
    if ∃x∈gy_ tz_ e0_ l,4096<(x.out.drop (gn_ (l.map Tip.out)).length).length then .inl 2 else .inr (gn_ (l.map Tip.out),(gy_ tz_ e0_ l).map (pu_ (gn_ (l.map Tip.out)).length)):=by
  rw [←lcp_once l];rfl
def em(a:Arc)(b:UInt8):T_1:=if a.copy then a.out++[b] else a.out
theorem vn_(p:FPair)(a:Arc)(b:UInt8):wg_ p a b=p.out++em a b:=by
  unfold wg_ em;split<;>simp
inductive Wy (t:Fst):Int→T_1→T_1→Int→Prop
  |nil (s:Int):Wy t s [] [] s
  |cons {w o:T_1} {q:Int} (a:Arc) (b:UInt8):a∈t.arcs→a.set.has b.toNat=true→Wy t a.to w o q→Wy t a.frm (b::w) (em a b++o) q
theorem Wy.b7_{t:Fst}{s q:Int}{o:T_1}(h:Wy t s [] o q):o=[]∧q=s:=by
  cases h;exact ⟨rfl,rfl⟩
theorem Wy.cons_inv{t:Fst}{s q:Int}{b:UInt8}{w o:T_1}(h:Wy t s (b::w) o q): ∃a∈t.arcs,a.frm=s∧a.set.has b.toNat=true∧ ∃o',Wy t a.to w o' q∧o=em a b++o':=by
  cases h with
  |cons a b ha hb hw=>exact ⟨a,ha,rfl,hb,_,hw,rfl⟩
theorem Wy.append{t:Fst}{s m q:Int}{u v o p:T_1}(h:Wy t s u o m)(k:Wy t m v p q):Wy t s (u++v) (o++p) q:=by
  induction h with
  |nil s=>exact k
  |cons a b ha hb _ ih=>rw [ap_];exact .cons a b ha hb (ih k)
theorem Wy.split{t:Fst}: ∀{u v o:T_1} {s q:Int},Wy t s (u++v) o q→ ∃m o1 o2,Wy t s u o1 m∧Wy t m v o2 q∧o=o1++o2
  |[],v,o,s,q,h=>⟨s,[],o,.nil s,h,rfl⟩
  |b::u,v,o,s,q,h=>by
    obtain ⟨a,ha,rfl,hb,o',hw,rfl⟩:=Wy.cons_inv h
    obtain ⟨m,o1,o2,h1,h2,rfl⟩:=Wy.split hw
    exact ⟨m,em a b++o1,o2,.cons a b ha hb h1,h2,by rw [ap_]⟩
theorem Wy.one{t:Fst}{a:Arc}{b:UInt8}(ha:a∈t.arcs)(hb:a.set.has b.toNat=true):Wy t a.frm [b] (em a b) a.to:=by
  have:=Wy.cons a b ha hb (.nil a.to)
  rwa [List.append_nil]at this
theorem sp_ {t : Fst} (w : T_1) : ∀ q, q ∈ kh_ t w ↔ ∃ x ∈ t.starts, ∃ o, Wy t x.state w o q.state ∧ q.out = x.out ++ o := by
  induction w using t5_ with
  |h0=>
    intro q
    show q∈t.starts.map tp↔_
    rw [List.mem_map]
    constructor
    · rintro ⟨x,hx,rfl⟩;exact ⟨x,hx,[],.nil _,by simp [tp]⟩
    rintro ⟨x,hx,o,hw,ho⟩
    obtain ⟨rfl,e⟩:=hw.b7_
    refine ⟨x,hx,?_⟩
    obtain ⟨s,z⟩:=q
    rw [List.append_nil]at ho
    dsimp only at e ho
    subst e ho;rfl
  |h1 w b ih=>
    intro q
    rw [kt_,rh_]
    constructor
    · rintro ⟨p,hp,a,ha,h1,h2,rfl⟩
      obtain ⟨x,hx,o,hw,ho⟩:=(ih p).1 hp
      refine ⟨x,hx,o++em a b,?_,?_⟩
      · rw [←h1]at hw
        exact hw.append (Wy.one ha h2)
      show wg_ p a b=_
      rw [vn_,ho,ap_]
    rintro ⟨x,hx,o,hw,ho⟩
    obtain ⟨m,o1,o2,h1,h2,rfl⟩:=hw.split
    obtain ⟨a,ha,e,hb,o',h3,rfl⟩:=h2.cons_inv
    obtain ⟨rfl,e2⟩:=h3.b7_
    refine ⟨⟨m,x.out++o1⟩,(ih _).2 ⟨x,hx,o1,h1,rfl⟩,a,ha,e,hb,?_⟩
    obtain ⟨s,z⟩:=q
    dsimp only at e2 ho
    rw [vn_,e2,ho,List.append_nil]
    simp
def Rel(t:Fst)(w o:T_1):Prop:= ∃x∈t.starts, ∃e∈t.ends, ∃m,Wy t x.state w m e.state∧o=x.out++(m++e.out)
theorem m0_{t:Fst}{w o:T_1}:o∈sy_ t w↔Rel t w o:=by
  rw [tr_]
  constructor
  · rintro ⟨p,hp,e,he,h1,rfl⟩
    obtain ⟨x,hx,m,hw,ho⟩:=(sp_ w p).1 hp
    exact ⟨x,hx,e,he,m,by rw [h1];exact hw,by rw [ho,ap_]⟩
  rintro ⟨x,hx,e,he,m,hw,rfl⟩
  exact ⟨⟨e.state,x.out++m⟩,(sp_ w _).2 ⟨x,hx,m,hw,rfl⟩,e,he,rfl,by rw [ap_]⟩
theorem Wy.map{t T:Fst}(f:Int→Int)(h: ∀a∈t.arcs,(⟨f a.frm,f a.to,a.set,a.out,a.copy⟩:Arc)∈T.arcs){s q:Int}{w o:T_1}(k:Wy t s w o q):Wy T (f s) w o (f q):=by
  induction k with
  |nil s=>exact .nil _
  |cons a b ha hb _ ih=>exact Wy.cons (⟨f a.frm,f a.to,a.set,a.out,a.copy⟩:Arc) b (h a ha) hb ih
theorem Wy.unmap{t T:Fst}(P:Int→Prop)(g:Int→Int)(h: ∀a∈T.arcs,P a.frm→P a.to∧(⟨g a.frm,g a.to,a.set,a.out,a.copy⟩:Arc)∈t.arcs){s q:Int}{w o:T_1}(k:Wy T s w o q)(hs:P s):P q∧Wy t (g s) w o (g q):=by
  induction k with
  |nil s=>exact ⟨hs,.nil _⟩
  |cons a b ha hb _ ih=>
    obtain ⟨h1,h2⟩:=h a ha hs
    obtain ⟨h3,h4⟩:=ih h1
    exact ⟨h3,Wy.cons (⟨g a.frm,g a.to,a.set,a.out,a.copy⟩:Arc) b h2 hb h4⟩
def Eqs(L:T_2):Prop:= ∀x∈L, ∀y∈L,x=y
instance (L:T_2):Decidable (Eqs L):=inferInstanceAs (Decidable (∀x∈L, ∀y∈L,x=y))
def hr_(L:T_2):T_1:=L.getLastD []
theorem wv_(L:T_2)(s:T_1):hr_ (L++[s])=s:=by simp [hr_]
theorem j0_{L:T_2}(h:L≠[]):hr_ L∈L:=by
  unfold hr_
  rw [List.getLastD_eq_getLast?,List.getLast?_eq_some_getLast h]
  exact List.getLast_mem h
theorem Eqs.last{L:T_2}(h:Eqs L){x:T_1}(hx:x∈L):x=hr_ L:=h _ hx _ (j0_ (List.ne_nil_of_mem hx))
theorem u8_{L:T_2}{s:T_1}:Eqs (L++[s])↔Eqs L∧(L≠[]→s=hr_ L):=by
  constructor
  · intro h
    refine ⟨fun x hx y hy=>h x (List.mem_append_left _ hx) y (List.mem_append_left _ hy),fun hn=> ?_⟩
    exact h _ (List.mem_append_right _ (List.mem_singleton.2 rfl)) _ (List.mem_append_left _ (j0_ hn))
  rintro ⟨h1,h2⟩ x hx y hy
  have key: ∀z∈L++[s],z=s:=fun z hz=>by
    rcases List.mem_append.1 hz with hz|hz
    · rw [h1.last hz,h2 (List.ne_nil_of_mem hz)]
    exact List.mem_singleton.1 hz
  rw [key x hx,key y hy]
theorem xf_{L M:T_2}(h:Eqs M)(hs: ∀x∈L,x∈M):Eqs L:=fun x hx y hy=>h x (hs x hx) y (hs y hy)
def ks_(L:T_2):Bool:= !L.isEmpty
theorem wn_(L:T_2)(s:T_1):ks_ (L++[s])=true:=by cases L<;>rfl
theorem li_{L:T_2}:ks_ L=true↔L≠[]:=by cases L<;>simp [ks_]
def se_(E:List Tip)(x:Tip):T_2:=(E.filter fun e=>decide (e.state=x.state)).map fun e=>x.out++e.out
def f1_(E l:List Tip):T_2:=l.flatMap (se_ E)
theorem wi_(E l:List Tip)(x:Tip):f1_ E (l++[x])=f1_ E l++se_ E x:=by simp [f1_]
def ke_(E l:List Tip):Int⊕(Bool×T_1):=
  if ¬ Eqs (f1_ E l) then .inl 12 else if 4096<(hr_ (f1_ E l)).length then .inl 2 else .inr (ks_ (f1_ E l),hr_ (f1_ E l))
def behX(A:List Arc)(b:UInt8)(x:Tip):List Tip:=((A.filter fun a=>decide (a.frm=x.state)).filter fun a=>a.set.has b.toNat).map fun a=>⟨a.to,x.out++em a b⟩
def j6_(A:List Arc)(l:List Tip)(b:UInt8):List Tip:=l.flatMap (behX A b)
theorem y6_(A:List Arc)(l:List Tip)(b:UInt8)(x:Tip):j6_ A (l++[x]) b=j6_ A l b++behX A b x:=by simp [j6_]
theorem behX_len(A:List Arc)(b:UInt8)(x:Tip):(behX A b x).length≤A.length:=by
  unfold behX
  rw [List.length_map]
  exact Nat.le_trans (List.length_filter_le _ _) (List.length_filter_le _ _)
theorem ry_(A:List Arc)(b:UInt8): ∀l:List Tip,(j6_ A l b).length≤l.length * A.length
  |[]=>by simp [j6_]
  |x::l=>by
    have h1:=ry_ A b l
    have h2:=behX_len A b x
    show (behX A b x++j6_ A l b).length≤_
    rw [la_,List.length_cons,Nat.succ_mul];omega
theorem is_{A:List Arc}{l:List Tip}{b:UInt8}{y:Tip}:y∈j6_ A l b↔ ∃x∈l, ∃a∈A,a.frm=x.state∧a.set.has b.toNat=true∧y=⟨a.to,x.out++em a b⟩:=by
  unfold j6_ behX
  simp only [List.mem_flatMap,List.mem_map,List.mem_filter,dq_]
  exact ⟨fun ⟨x,h1,a,⟨⟨h2,h3⟩,h4⟩,h5⟩=>⟨x,h1,a,h2,h3,h4,h5.symm⟩,fun ⟨x,h1,a,h2,h3,h4,h5⟩=>⟨x,h1,a,⟨⟨h2,h3⟩,h4⟩,h5.symm⟩⟩
theorem ij_{E l:List Tip}{y:T_1}:y∈f1_ E l↔ ∃x∈l, ∃e∈E,e.state=x.state∧y=x.out++e.out:=by
  unfold f1_ se_
  simp only [List.mem_flatMap,List.mem_map,List.mem_filter,dq_]
  exact ⟨fun ⟨x,h1,e,⟨h2,h3⟩,h5⟩=>⟨x,h1,e,h2,h3,h5.symm⟩,fun ⟨x,h1,e,h2,h3,h5⟩=>⟨x,h1,e,⟨h2,h3⟩,h5.symm⟩⟩
structure Knows (n:Nat) (A:List Arc) (E:List Tip) (x:Maker):Prop where
  arcs:Grp Arc.frm id n x.arcs A
  ends:Grp Tip.state Tip.out n x.ends E
  al:A.length≤16384
  ao: ∀a∈A,a.out.length≤1024
  eo: ∀e∈E,e.out.length≤1024
  hn:n≤1024
theorem tail_in {n : Nat} {A : List Arc} {E : List Tip} {x0 : Maker} (h : Knows n A E x0) {l : List Tip} (hl : RowOk n l) {k : Nat} (hk : k < l.length) (P : T_2) (hP : Eqs P) :
    eq_ (fun q:Bool×T_1×Nat=>Ak_ x0 l k q.1 q.2.1 q.2.2) (ks_ P,hr_ P,0)=some (if Eqs (P++se_ E (nth l k tz_)) then .inl (ks_ (P++se_ E (nth l k tz_)),hr_ (P++se_ E (nth l k tz_)),k+1) else .inr (.inl 12)):=by
  have hm:=gf_ tz_ hk
  have hs:=hl.st _ hm
  have ho:=hl.out _ hm
  have hg:=h.ends.at hs.1 hs.2
  have hX:se_ E (nth l k tz_)=(nth x0.ends (nth l k tz_).state.toNat []).map fun o=>(nth l k tz_).out++o:=by
    rw [hg,List.map_map];rfl
  have hgo: ∀o∈nth x0.ends (nth l k tz_).state.toNat [],o.length≤1024:=by
    rw [hg]
    intro o ho
    obtain ⟨e,he,rfl⟩:=List.mem_map.1 ho
    exact h.eo e (List.mem_filter.1 he).1
  rw [hX]
  obtain ⟨r,h1,h2⟩:=er_ (step:=fun q:Bool×T_1×Nat=>Ak_ x0 l k q.1 q.2.1 q.2.2) (fun (s:Bool×T_1) j=>(s.1,s.2,j)) (nth x0.ends (nth l k tz_).state.toNat []).length
    (fun j s=>Eqs (P++((nth x0.ends (nth l k tz_).state.toNat []).take j).map fun o=>(nth l k tz_).out++o)∧s=(ks_ (P++((nth x0.ends (nth l k tz_).state.toNat []).take j).map fun o=>(nth l k tz_).out++o),hr_ (P++((nth x0.ends (nth l k tz_).state.toNat []).take j).map fun o=>(nth l k tz_).out++o)))
    (fun r=>r=(if Eqs (P++(nth x0.ends (nth l k tz_).state.toNat []).map fun o=>(nth l k tz_).out++o) then .inl (ks_ (P++(nth x0.ends (nth l k tz_).state.toNat []).map fun o=>(nth l k tz_).out++o),hr_ (P++(nth x0.ends (nth l k tz_).state.toNat []).map fun o=>(nth l k tz_).out++o),k+1) else .inr (.inl 12)))
    (fun j s hj hI=>by
      obtain ⟨hI,rfl⟩:=hI
      have hoj:=hgo _ (gf_ [] hj)
      have ht:((nth x0.ends (nth l k tz_).state.toNat []).take (j+1)).map (fun o=>(nth l k tz_).out++o)=((nth x0.ends (nth l k tz_).state.toNat []).take j).map (fun o=>(nth l k tz_).out++o)++[(nth l k tz_).out++nth (nth x0.ends (nth l k tz_).state.toNat []) j []]:=by
        rw [ex_ _ hj [],List.map_append];rfl
      have hsub: ∀y∈P++((nth x0.ends (nth l k tz_).state.toNat []).take (j+1)).map (fun o=>(nth l k tz_).out++o),y∈P++(nth x0.ends (nth l k tz_).state.toNat []).map fun o=>(nth l k tz_).out++o:=fun y hy=>by
        rcases List.mem_append.1 hy with hy|hy
        · exact List.mem_append_left _ hy
        obtain ⟨o,ho,rfl⟩:=List.mem_map.1 hy
        exact List.mem_append_right _ (List.mem_map.2 ⟨o,List.mem_of_mem_take ho,rfl⟩)
      rw [ht,←ap_]at hsub
      have hst:Ak_ x0 l k (ks_ (P++((nth x0.ends (nth l k tz_).state.toNat []).take j).map fun o=>(nth l k tz_).out++o)) (hr_ (P++((nth x0.ends (nth l k tz_).state.toNat []).take j).map fun o=>(nth l k tz_).out++o)) j
          =if P++((nth x0.ends (nth l k tz_).state.toNat []).take j).map (fun o=>(nth l k tz_).out++o)≠[]∧(nth l k tz_).out++nth (nth x0.ends (nth l k tz_).state.toNat []) j []≠hr_ (P++((nth x0.ends (nth l k tz_).state.toNat []).take j).map fun o=>(nth l k tz_).out++o) then some (.inr (.inr (.inl 12)))
            else some (.inl (true,(nth l k tz_).out++nth (nth x0.ends (nth l k tz_).state.toNat []) j [],j+1)):=by
        unfold Ak_ Cs_
        rw [d4_ (by omega),d3_ (by omega)]
        by_cases c1:P++((nth x0.ends (nth l k tz_).state.toNat []).take j).map (fun o=>(nth l k tz_).out++o)≠[]
        · rw [li_.2 c1,iteO_true]
          by_cases c2:(nth l k tz_).out++nth (nth x0.ends (nth l k tz_).state.toNat []) j []≠hr_ (P++((nth x0.ends (nth l k tz_).state.toNat []).take j).map fun o=>(nth l k tz_).out++o)
          · rw [d4_ c2,if_pos ⟨c1,c2⟩];rfl
          rw [d5_ c2,if_neg (fun q=>c2 q.2)];rfl
        rw [show ks_ (P++((nth x0.ends (nth l k tz_).state.toNat []).take j).map fun o=>(nth l k tz_).out++o)=false from by rw [Bool.eq_false_iff];exact fun q=>c1 (li_.1 q),iteO_false,if_neg (fun q=>c1 q.1)];rfl
      by_cases c:P++((nth x0.ends (nth l k tz_).state.toNat []).take j).map (fun o=>(nth l k tz_).out++o)≠[]∧(nth l k tz_).out++nth (nth x0.ends (nth l k tz_).state.toNat []) j []≠hr_ (P++((nth x0.ends (nth l k tz_).state.toNat []).take j).map fun o=>(nth l k tz_).out++o)
      · rw [if_pos c]at hst
        exact .inr ⟨_,hst,by rw [if_neg fun q=>c.2 ((u8_.1 (xf_ q hsub)).2 c.1)]⟩
      rw [if_neg c]at hst
      refine .inl ⟨(true,_),hst,?_,?_⟩
      · rw [ht,←ap_]
        exact u8_.2 ⟨hI,fun q=>Classical.byContradiction fun q2=>c ⟨q,q2⟩⟩
      rw [ht,←ap_,wn_,wv_])
    (fun s hI=>by
      obtain ⟨hI,rfl⟩:=hI
      rw [List.take_length]at hI
      refine ⟨_,?_,rfl⟩
      rw [if_pos hI,List.take_length]
      show Ak_ x0 l k _ _ (nth x0.ends (nth l k tz_).state.toNat []).length=_
      unfold Ak_
      rw [d5_ (by omega)];rfl) (s0:=(ks_ P,hr_ P)) ⟨by simpa using hP,by simp⟩
  rw [←h2];exact h1
theorem tail_ok {n : Nat} {A : List Arc} {E : List Tip} {x0 : Maker} (h : Knows n A E x0) {l : List Tip} (hl : RowOk n l) : Ds_ x0 l = some (ke_ E l) := by
  unfold Ds_
  obtain ⟨r,h1,h2⟩:=er_ (step:=fun q:Bool×T_1×Nat=>Ap_ l x0 q.1 q.2.1 q.2.2) (fun (s:Bool×T_1) k=>(s.1,s.2,k)) l.length (fun k s=>Eqs (f1_ E (l.take k))∧s=(ks_ (f1_ E (l.take k)),hr_ (f1_ E (l.take k)))) (fun r=>r=ke_ E l)
    (fun k s hk hI=>by
      obtain ⟨hI,rfl⟩:=hI
      have hs:=hl.st _ (gf_ tz_ hk)
      have ht:f1_ E (l.take (k+1))=f1_ E (l.take k)++se_ E (nth l k tz_):=by rw [ex_ l hk tz_,wi_]
      have hst:Ap_ l x0 (ks_ (f1_ E (l.take k))) (hr_ (f1_ E (l.take k))) k=some (if Eqs (f1_ E (l.take (k+1))) then .inl (ks_ (f1_ E (l.take (k+1))),hr_ (f1_ E (l.take (k+1))),k+1) else .inr (.inl 12)):=by
        unfold Ap_
        rw [d4_ (by omega),d3_ ⟨hs.1,by rw [h.ends.len];exact hs.2⟩,ht]
        exact tail_in h hl hk _ hI
      by_cases c:Eqs (f1_ E (l.take (k+1)))
      · rw [if_pos c]at hst
        exact .inl ⟨(_,_),hst,c,rfl⟩
      rw [if_neg c]at hst
      refine .inr ⟨_,hst,?_⟩
      unfold ke_
      rw [if_pos]
      intro q
      refine c (xf_ q fun y hy=> ?_)
      obtain ⟨x,hx,e,he⟩:=ij_.1 hy
      exact ij_.2 ⟨x,List.mem_of_mem_take hx,e,he⟩)
    (fun s hI=>by
      obtain ⟨hI,rfl⟩:=hI
      rw [List.take_length]at hI
      refine ⟨_,?_,rfl⟩
      have hlen:(hr_ (f1_ E l)).length≤281474976710656:=by
        by_cases c:f1_ E l=[]
        · rw [c];simp [hr_]
        obtain ⟨x,hx,e,he,_,hq⟩:=ij_.1 (j0_ c)
        have h3:=hl.out x hx
        have h4:=h.eo e he
        rw [hq,la_];omega
      rw [List.take_length]
      show Ap_ l x0 _ _ l.length=_
      unfold Ap_ ke_
      rw [d5_ (by omega),if_neg (fun q=>q hI),rn_ hlen,ed_]
      by_cases c:4096<(hr_ (f1_ E l)).length
      · rw [if_pos c,if_pos c];rfl
      rw [if_neg c,if_neg c];rfl) (s0:=(false,[])) ⟨by intro x hx;simp [f1_]at hx,rfl⟩
  rw [←h2];exact h1
theorem beh_in {n : Nat} {A : List Arc} {E : List Tip} {x0 : Maker} (h : Knows n A E x0) {l : List Tip} (hl : RowOk n l) (b : UInt8) {k : Nat} (hk : k < l.length) (P : List Tip) (hP : P.length + A.length ≤ 100000000000) :
    eq_ (fun q:(List Tip)×Nat=>Ae_ x0 l k b q.1 q.2) (P,0)=some (.inl (P++behX A b (nth l k tz_),k+1)):=by
  have hm:=gf_ tz_ hk
  have hs:=hl.st _ hm
  have ho:=hl.out _ hm
  have hg:=h.arcs.at hs.1 hs.2
  rw [List.map_id]at hg
  have hga: ∀a∈nth x0.arcs (nth l k tz_).state.toNat [],a.out.length≤1024:=by
    rw [hg];intro a ha;exact h.ao a (List.mem_filter.1 ha).1
  have hgl:(nth x0.arcs (nth l k tz_).state.toNat []).length≤A.length:=by rw [hg];exact List.length_filter_le _ _
  have hX:behX A b (nth l k tz_)=((nth x0.arcs (nth l k tz_).state.toNat []).filter fun a=>a.set.has b.toNat).map fun a=>⟨a.to,(nth l k tz_).out++em a b⟩:=by rw [hg];rfl
  rw [hX]
  obtain ⟨r,h1,h2⟩:=er_ (step:=fun q:(List Tip)×Nat=>Ae_ x0 l k b q.1 q.2) (fun s j=>(s,j)) (nth x0.arcs (nth l k tz_).state.toNat []).length
    (fun j s=>s=P++(((nth x0.arcs (nth l k tz_).state.toNat []).take j).filter fun a=>a.set.has b.toNat).map fun a=>⟨a.to,(nth l k tz_).out++em a b⟩)
    (fun r=>r= .inl (P++((nth x0.arcs (nth l k tz_).state.toNat []).filter fun a=>a.set.has b.toNat).map fun a=>⟨a.to,(nth l k tz_).out++em a b⟩,k+1))
    (fun j s hj hI=>by
      subst hI
      have hoj:=hga _ (gf_ az_ hj)
      have hpl:(P++(((nth x0.arcs (nth l k tz_).state.toNat []).take j).filter fun a=>a.set.has b.toNat).map fun a=>(⟨a.to,(nth l k tz_).out++em a b⟩:Tip)).length≤100000000000:=by
        rw [la_,List.length_map]
        have h3:=List.length_filter_le (fun a:Arc=>a.set.has b.toNat) ((nth x0.arcs (nth l k tz_).state.toNat []).take j)
        rw [List.length_take]at h3
        omega
      refine .inl ⟨_,?_,rfl⟩
      rw [ex_ _ hj az_,List.filter_append,List.map_append,←ap_]
      generalize P++(((nth x0.arcs (nth l k tz_).state.toNat []).take j).filter fun a=>a.set.has b.toNat).map (fun a=>(⟨a.to,(nth l k tz_).out++em a b⟩:Tip))=S at hpl ⊢
      show Ae_ x0 l k b S j=_
      unfold Ae_ Az_ Ca_
      rw [d4_ (by omega)]
      generalize nth (nth x0.arcs (nth l k tz_).state.toNat []) j az_=a at hoj ⊢
      cases c:a.set.has b.toNat with
      |false=>
        rw [id_]
        simp [c,nxt]
      |true=>
        rw [gk_,d3_ (by omega)]
        cases d:a.copy with
        |true=>
          rw [iteO_true,d3_ (by simp;omega),d3_ (by simp;omega)]
          unfold Az_
          simp [c,d,nxt,em]
        |false=>
          rw [iteO_false,d3_ (by simp;omega)]
          unfold Az_
          simp [c,d,nxt,em])
    (fun s hI=>by
      subst hI
      refine ⟨_,?_,rfl⟩
      rw [List.take_length]
      show Ae_ x0 l k b _ _=_
      unfold Ae_
      rw [d5_ (by omega)];rfl) (s0:=P) (by simp)
  rw [←h2];exact h1
theorem beh_ok{n:Nat}{A:List Arc}{E:List Tip}{x0:Maker}(h:Knows n A E x0){l:List Tip}(hl:RowOk n l)(b:UInt8):C0_ x0 l b=some (j6_ A l b):=by
  unfold C0_
  have hal:=h.al
  have hll:=hl.len
  obtain ⟨r,h1,h2⟩:=er_ (step:=fun q:(List Tip)×Nat=>Aj_ l x0 b q.1 q.2) (fun s k=>(s,k)) l.length (fun k s=>s=j6_ A (l.take k) b) (fun r=>r=j6_ A l b)
    (fun k s hk hI=>by
      subst hI
      have hs:=hl.st _ (gf_ tz_ hk)
      refine .inl ⟨_,?_,rfl⟩
      have hb:=ry_ A b (l.take k)
      have h3:(l.take k).length * A.length≤1000000 * 16384:=Nat.mul_le_mul (by rw [List.length_take];omega) hal
      show Aj_ l x0 b _ k=_
      unfold Aj_
      rw [d4_ (by omega),d3_ ⟨hs.1,by rw [h.arcs.len];exact hs.2⟩,beh_in h hl b hk (j6_ A (l.take k) b) (by omega),ex_ l hk tz_,y6_])
    (fun s hI=>by
      subst hI
      refine ⟨_,?_,rfl⟩
      rw [List.take_length]
      show Aj_ l x0 b _ l.length=_
      unfold Aj_
      rw [d5_ (by omega)];rfl) (s0:=[]) rfl
  rw [←h2];exact h1
theorem nw_{k:Nat}(h:k<256):(hn_ ((k:Nat):Int)).toNat=k:=by
  unfold hn_
  rw [IntKind.wrap_u8]
  have:((k:Int) % 256).toNat=k:=by omega
  rw [this,UInt8.toNat_ofNat'];omega
def mh_ (A : List Arc) (most : Int) (l : List Tip) (b : UInt8) (R : List (List Tip)) : Int ⊕ (List (List Tip) × Int × T_1) :=
  if j6_ A l b=[] then .inr (R, -1,[]) else
  match hb_ (j6_ A l b)with
  | .inl k=> .inl k
  | .inr (f,r)=>match i9_ most R r with
    | .inl k=> .inl k
    | .inr (i,R')=> .inr (R',((i:Nat):Int),f)
def gs_ (A : List Arc) (most : Int) (l : List Tip) (R : List (List Tip)) : Nat → Int ⊕ (List (List Tip) × N_1 × T_2)
  |0=> .inr (R,[],[])
  | k + 1 => match gs_ A most l R k with
    | .inl e=> .inl e
    | .inr (R1,N,O)=>match mh_ A most l (hn_ ((k:Nat):Int)) R1 with
      | .inl e=> .inl e
      | .inr (R2,z,o)=> .inr (R2,N++[z],O++[o])
def n7_(q:Seq)(N:N_1)(O:T_2)(b:Bool)(t:T_1):Seq:=⟨q.front,q.next++[N],q.outs++[O],q.fin++[b],q.tail++[t]⟩
def doD (A : List Arc) (E : List Tip) (most : Int) (l : List Tip) (R : List (List Tip)) (q : Seq) : Int ⊕ (List (List Tip) × Seq) :=
  match ke_ E l with
  | .inl e=> .inl e
  | .inr (b,t)=>match gs_ A most l R 256 with
    | .inl e=> .inl e
    | .inr (R',N,O)=> .inr (R',n7_ q N O b t)
def w2_ (A : List Arc) (E : List Tip) (most : Int) : Nat → Nat → List (List Tip) → Seq → Int ⊕ (List (List Tip) × Seq)
  |0,_,R,q=> .inr (R,q)
  | g + 1, s, R, q => if s < R.length then
      match doD A E most (nth R s []) R q with
      | .inl e=> .inl e
      | .inr (R',q')=>w2_ A E most g (s+1) R' q'
    else .inr (R,q)
def ofT(t:Fst)(most:Int):Int⊕(List (List Tip)×Seq):=
  if t.starts=[] then .inr ([],Seq.zero) else
  match hb_ t.starts with
  | .inl e=> .inl e
  | .inr (f,l)=>w2_ t.arcs t.ends most 1025 0 [l] ⟨f,[],[],[],[]⟩
def ofR:Int⊕(List (List Tip)×Seq)→Seq×Int
  | .inl e=>(Seq.zero,e)
  | .inr (_,q)=>(q,0)
theorem yz_{n:Int}(hn:0≤n){l:List Tip}(h:l.Pairwise fun x y=>x.state<y.state)(hs: ∀x∈l,0≤x.state∧x.state<n):(l.length:Int)≤n:=by
  have h1:(l.map fun x=>x.state.toNat).Nodup:=by
    rw [List.Nodup,List.pairwise_map]
    refine h.imp_of_mem fun {a b} ha hb q e=> ?_
    have h2:=(hs a ha).1
    have h3:=(hs b hb).1
    omega
  have h2:=ho_ h1 (m:=List.range n.toNat) fun x hx=>by
    obtain ⟨y,hy,rfl⟩:=List.mem_map.1 hx
    have:=hs y hy
    rw [List.mem_range];omega
  rw [List.length_map,List.length_range]at h2
  omega
theorem dup_inc {l : List Tip} (h : l.Pairwise fun x y => e0_ x y < 0) (hd : ¬ ud_ l = true) : l.Pairwise fun x y => x.state < y.state := by
  have key: ∀l:List Tip,(l.Pairwise fun x y=>e0_ x y<0)→ ¬ ud_ l=true→l.Pairwise fun x y=>x.state<y.state:=by
    intro l
    induction l with
    |nil=>intro _ _;exact List.Pairwise.nil
    |cons a l ih=>
      intro h hd
      rw [List.pairwise_cons]at h
      cases l with
      |nil=>simp
      |cons b l=>
        rw [ud_,Bool.or_eq_true,dq_]at hd
        have h1:=ih h.2 (fun q=>hd (.inr q))
        refine List.pairwise_cons.2 ⟨fun x hx=> ?_,h1⟩
        have hab:a.state<b.state:=by
          have h2:=h.1 b (mc_ ..)
          have h3:a.state≠b.state:=fun q=>hd (.inl q)
          unfold e0_ kl_ vq_ at h2
          repeat' split at h2
          all_goals omega
        rcases List.mem_cons.1 hx with rfl|hx
        · exact hab
        have:=(List.pairwise_cons.1 h1).1 x hx
        omega
  exact key l h hd
theorem strip_row{n:Int}(hn:0≤n∧n≤1024){l:List Tip}(hs: ∀x∈l,0≤x.state∧x.state<n){f:T_1}{r:List Tip}(h:hb_ l= .inr (f,r)):
    RowOk n r∧f.length≤4096∧(∀x,x∈r↔ ∃y∈l,y.state=x.state∧y.out=f++x.out)∧f=gn_ (l.map Tip.out):=by
  rw [l9_]at h
  by_cases c1:ud_ (gy_ tz_ e0_ l)=true
  · rw [if_pos c1]at h;cases h
  rw [if_neg c1]at h
  by_cases c2:4096<(gn_ (l.map Tip.out)).length
  · rw [if_pos c2]at h;cases h
  rw [if_neg c2]at h
  by_cases c3: ∃x∈gy_ tz_ e0_ l,4096<(x.out.drop (gn_ (l.map Tip.out)).length).length
  · rw [if_pos c3]at h;cases h
  rw [if_neg c3]at h
  cases h
  have hso: ∀x∈gy_ tz_ e0_ l,0≤x.state∧x.state<n:=fun x hx=>hs x ((e4_ ..).1 hx)
  have hinc:=dup_inc (g2_ fg_ l) c1
  have hlen:=yz_ hn.1 hinc hso
  refine ⟨⟨by rw [List.length_map];omega,?_,fun x hx=> ?_,fun x hx=> ?_⟩,by omega,fun x=> ?_,rfl⟩
  · rw [List.pairwise_map];exact hinc
  · obtain ⟨y,hy,rfl⟩:=List.mem_map.1 hx
    exact hso y hy
  · obtain ⟨y,hy,rfl⟩:=List.mem_map.1 hx
    exact Nat.le_of_not_lt fun q=>c3 ⟨y,hy,q⟩
  rw [List.mem_map]
  constructor
  · rintro ⟨y,hy,rfl⟩
    have hm:=(e4_ ..).1 hy
    refine ⟨y,hm,rfl,?_⟩
    obtain ⟨u,hu⟩:=hu_ (List.mem_map.2 ⟨y,hm,rfl⟩:y.out∈l.map Tip.out)
    show y.out=_++y.out.drop _
    rw [←hu,List.drop_left]
  rintro ⟨y,hy,h1,h2⟩
  refine ⟨y,(e4_ ..).2 hy,?_⟩
  unfold pu_
  rw [h1,h2,List.drop_left]
theorem xl_{n:Int}{A:List Arc}(hA: ∀a∈A,0≤a.to∧a.to<n)(l:List Tip)(b:UInt8): ∀x∈j6_ A l b,0≤x.state∧x.state<n:=fun x hx=>by
  obtain ⟨y,_,a,ha,_,_,rfl⟩:=is_.1 hx
  exact hA a ha
theorem beh_out{n:Int}{A:List Arc}(hA: ∀a∈A,a.out.length≤1024){l:List Tip}(hl:RowOk n l)(b:UInt8): ∀x∈j6_ A l b,x.out.length≤281474976710656:=fun x hx=>by
  obtain ⟨y,hy,a,ha,_,_,rfl⟩:=is_.1 hx
  have h1:=hl.out y hy
  have h2:=hA a ha
  show (y.out++em a b).length≤_
  unfold em
  rw [la_]
  split
  · rw [la_,lo_];omega
  omega
theorem o8_{α:Type}(l:List α)(m:Nat)(x z:α)(h:l.length<m):(l++List.replicate (m - l.length) z).set l.length x=(l++[x])++List.replicate (m - (l++[x]).length) z:=by
  rw [List.set_append_right _ _ (Nat.le_refl _),Nat.sub_self,la_,lo_,show m - l.length=(m - (l.length+1))+1 by omega,List.replicate_succ,List.set_cons_zero]
  simp
theorem Iz_{α:Type}(l:List α)(i:Nat)(x y:α):(l.set i x).set i y=l.set i y:=by simp
structure Fits (n:Nat) (A:List Arc) (E:List Tip) (x:Maker):Prop extends Knows n A E x where
  to: ∀a∈A,0≤a.to∧a.to<(n:Int)
  few:n * A.length≤1000000
  m1:1≤x.most
  m2:x.most≤1024
theorem tb_{most:Int}{R R':List (List Tip)}{r:List Tip}{i:Nat}(h:i9_ most R r= .inr (i,R'))(hR:(R.length:Int)≤most):(R'.length:Int)≤most∧(∃X,R'=R++X)∧i<R'.length∧nth R' i []=r:=by
  unfold i9_ at h
  by_cases c:r∈R
  · rw [if_pos c]at h;cases h
    exact ⟨hR,⟨[],(List.append_nil _).symm⟩,sj_ c,yu_ c⟩
  rw [if_neg c]at h
  by_cases d:most≤(R.length:Int)
  · rw [if_pos d]at h;cases h
  rw [if_neg d]at h;cases h
  exact ⟨by simp;omega,⟨_,rfl⟩,by simp,ff_ R r []⟩
theorem ux_{A:List Arc}{most:Int}{l:List Tip}{b:UInt8}{R R':List (List Tip)}{z:Int}{o:T_1}(h:mh_ A most l b R= .inr (R',z,o))(hR:(R.length:Int)≤most):(R'.length:Int)≤most∧ ∃X,R'=R++X:=by
  unfold mh_ at h
  by_cases c:j6_ A l b=[]
  · rw [if_pos c]at h;cases h
    exact ⟨hR,[],(List.append_nil _).symm⟩
  rw [if_neg c]at h
  split at h
  · cases h
  split at h
  · cases h
  rename_i q;cases h
  have:=tb_ q hR
  exact ⟨this.1,this.2.1⟩
theorem i6_{A:List Arc}{most:Int}{l:List Tip}{R:List (List Tip)}(hR:(R.length:Int)≤most): ∀{k:Nat} {R':List (List Tip)} {N:N_1} {O:T_2},gs_ A most l R k= .inr (R',N,O)→(R'.length:Int)≤most∧(∃X,R'=R++X)∧N.length=k∧O.length=k
  |0,R',N,O,h=>by cases h;exact ⟨hR,⟨[],(List.append_nil _).symm⟩,rfl,rfl⟩
  |k+1,R',N,O,h=>by
    rw [gs_]at h
    split at h
    · cases h
    rename_i R1 N1 O1 q
    obtain ⟨h1,⟨X,h2⟩,h3,h4⟩:=i6_ hR q
    split at h
    · cases h
    rename_i R2 z o q2
    cases h
    obtain ⟨h5,Y,h6⟩:=ux_ q2 h1
    exact ⟨h5,⟨X++Y,by rw [h6,h2,ap_]⟩,by simp [h3],by simp [h4]⟩
theorem rj_{β γ:Type}{key:β→Int}{val:β→γ}{n:Nat}{l:List (List γ)}{xs:List β}(h:Grp key val n l xs){i:Nat}(hi:i<n):(nth l i []).length≤xs.length:=by
  rw [h.row i hi,List.length_map];exact List.length_filter_le ..
theorem jg_{α:Type}(l:List α)(k:Nat):(l.take k).length≤l.length:=by rw [List.length_take];omega
theorem y4_{t:Fst}(ht:FstOk t): ∃on bk,Ef_ t=some (t,on,bk)∧Grp Arc.frm Arc.to t.states.toNat on t.arcs∧Grp Arc.to Arc.frm t.states.toNat bk t.arcs:=by
  have h0:=ht.st0
  have h1:=ht.st1
  have hN:=ht.arcsN
  unfold Ef_ Eb_
  rw [d3_ ⟨h0,by omega⟩,d3_ ⟨h0,by omega⟩]
  obtain ⟨r,h2,on,bk,rfl,h3,h4⟩:=iter_for (step:=fun q:N_2×N_2×Nat=>A0_ t q.1 q.2.1 q.2.2) (fun (s:N_2×N_2) k=>(s.1,s.2,k)) t.arcs az_
    (fun pre s=>Grp Arc.frm Arc.to t.states.toNat s.1 pre∧Grp Arc.to Arc.frm t.states.toNat s.2 pre)
    (fun r=> ∃on bk,r=(t,on,bk)∧Grp Arc.frm Arc.to t.states.toNat on t.arcs∧Grp Arc.to Arc.frm t.states.toNat bk t.arcs)
    (fun k s hk ⟨a1,a2⟩=>by
      obtain ⟨b1,b2,b3,b4⟩:=ht.arcs _ (gf_ az_ hk)
      have l1:=a1.len
      have l2:=a2.len
      have r1:=rj_ a1 (i:=(nth t.arcs k az_).frm.toNat) (by omega)
      have r2:=rj_ a2 (i:=(nth t.arcs k az_).to.toNat) (by omega)
      have r3:=jg_ t.arcs k
      refine .inl ⟨(s.1.set (nth t.arcs k az_).frm.toNat (nth s.1 (nth t.arcs k az_).frm.toNat []++[(nth t.arcs k az_).to]),s.2.set (nth t.arcs k az_).to.toNat (nth s.2 (nth t.arcs k az_).to.toNat []++[(nth t.arcs k az_).frm])),?_,a1.snoc b1.1 (by omega),a2.snoc b2.1 (by omega)⟩
      show A0_ t s.1 s.2 k=_
      unfold A0_ D9_ Ec_
      rw [d4_ (by omega),d3_ ⟨b1.1,by omega⟩,d3_ (by simp only [lo_];omega),d3_ ⟨b1.1,by omega⟩,d3_ ⟨b2.1,by omega⟩,d3_ (by simp only [lo_];omega),d3_ ⟨b2.1,by omega⟩]
      rfl)
    (fun s hI=>⟨(t,s.1,s.2),by
      show A0_ t s.1 s.2 t.arcs.length=_
      unfold A0_
      rw [d5_ (by omega)];rfl,s.1,s.2,rfl,hI.1,hI.2⟩)
    (s0:=(List.replicate t.states.toNat [],List.replicate t.states.toNat [])) ⟨Grp.nil ..,Grp.nil ..⟩
  exact ⟨on,bk,h2,h3,h4⟩
theorem stE_on{t:Fst}(ht:FstOk t){key val:Arc→Int}{l:N_2}(h:Grp key val t.states.toNat l t.arcs)(hk: ∀a∈t.arcs,0≤key a∧key a<t.states):stE l=fun a b=> ∃x∈t.arcs,key x=a∧val x=b:=by
  funext a b
  refine propext ⟨fun ⟨h0,hb⟩=> ?_,fun ⟨x,hx,h1,h2⟩=> ?_⟩
  · have hlt:a.toNat<t.states.toNat:=by
      have:=h.len
      by_cases hl:a.toNat<l.length
      · omega
      unfold nth at hb
      rw [List.getD_eq_getElem?_getD,List.getElem?_eq_none (by omega)]at hb
      simp at hb
    rw [h.row _ hlt,List.mem_map]at hb
    obtain ⟨x,hx,e⟩:=hb
    have:=List.mem_filter.1 hx
    exact ⟨x,this.1,by have:=dt_ this.2;omega,e⟩
  have:=hk x hx
  refine ⟨by omega,?_⟩
  rw [h.row _ (by omega),List.mem_map]
  exact ⟨x,List.mem_filter.2 ⟨hx,decide_eq_true (by omega)⟩,h2⟩
theorem xk_{t:Fst}{key val:Arc→Int}{l:N_2}(h:Grp key val t.states.toNat l t.arcs)(hk: ∀a∈t.arcs,0≤val a∧val a<t.states): ∀a, ∀z∈nth l a [],0≤z∧z<t.states.toNat:=fun a z hz=>by
  have hl:=h.len
  by_cases ha:a<t.states.toNat
  · rw [h.row _ ha,List.mem_map]at hz
    obtain ⟨x,hx,rfl⟩:=hz
    have:=hk x (List.mem_filter.1 hx).1
    omega
  unfold nth at hz
  rw [List.getD_eq_getElem?_getD,List.getElem?_eq_none (by omega)]at hz
  simp at hz
def w8_(p:Nat→Bool)(n:Nat)(num:N_1):Prop:=num.length=n∧ ∀s:Int,0≤s→s<n→nth num s.toNat 0=iy_ p s
theorem qa_(p:Nat→Bool)(l:List Tip)(k:Nat)(h:k<l.length):il_ p (l.take (k+1))=il_ p (l.take k)++(if 0≤iy_ p (nth l k tz_).state then [⟨iy_ p (nth l k tz_).state,(nth l k tz_).out⟩] else []):=by
  rw [ex_ l h tz_]
  unfold il_
  rw [List.filterMap_append]
  congr 1
  by_cases hc:0≤iy_ p (nth l k tz_).state
  · rw [List.filterMap_cons,if_pos hc,if_pos hc];rfl
  rw [List.filterMap_cons,if_neg hc,if_neg hc];rfl
theorem wm_(p:Nat→Bool)(l:List Arc)(k:Nat)(h:k<l.length):jb_ p (l.take (k+1))=jb_ p (l.take k)++(if 0≤iy_ p (nth l k az_).frm∧0≤iy_ p (nth l k az_).to then [⟨iy_ p (nth l k az_).frm,iy_ p (nth l k az_).to,(nth l k az_).set,(nth l k az_).out,(nth l k az_).copy⟩] else []):=by
  rw [ex_ l h az_]
  unfold jb_
  rw [List.filterMap_append]
  congr 1
  by_cases hc:0≤iy_ p (nth l k az_).frm∧0≤iy_ p (nth l k az_).to
  · rw [List.filterMap_cons,if_pos hc,if_pos hc];rfl
  rw [List.filterMap_cons,if_neg hc,if_neg hc];rfl
theorem zr_{t:Fst}(ht:FstOk t){p:Nat→Bool}{num:N_1}(hn:w8_ p t.states.toNat num)(c:Nat)(S E:List Tip):
    eq_ (fun q:List Arc×Nat=>Bk_ t num c S E q.1 q.2) (([]:List Arc),0)=bnd (B5_ ⟨(c:Int),S,E,jb_ p t.arcs⟩) (fun v=>some (v.1,v.2)):=by
  have hN:=ht.arcsN
  obtain ⟨r,hr⟩: ∃r,bnd (B5_ ⟨(c:Int),S,E,jb_ p t.arcs⟩) (fun v=>some (v.1,v.2))=some r:=by rw [om_];exact ⟨_,rfl⟩
  rw [hr]
  refine n0_ t.arcs az_ (fun k=>jb_ p (t.arcs.take k)) (fun k hk=> ?_) ?_
  · obtain ⟨b1,b2,b3,b4⟩:=ht.arcs _ (gf_ az_ hk)
    have hl:=on_ p (t.arcs.take k)
    have r3:=jg_ t.arcs k
    have e1:=hn.2 _ b1.1 (by omega)
    have e2:=hn.2 _ b2.1 (by omega)
    have l1:=hn.1
    show Bk_ t num c S E _ k=_
    unfold Bk_ C8_
    rw [d4_ (by omega),d3_ ⟨b1.1,by omega⟩,d3_ ⟨b2.1,by omega⟩,e1,e2,wm_ p _ k hk]
    by_cases c1:0≤iy_ p (nth t.arcs k az_).frm
    · rw [d4_ c1]
      by_cases c2:0≤iy_ p (nth t.arcs k az_).to
      · rw [d4_ c2,if_pos ⟨c1,c2⟩,d3_ (by simp only [lo_];omega)];rfl
      rw [d5_ c2,if_neg (fun h=>c2 h.2),List.append_nil];rfl
    rw [d5_ c1,if_neg (fun h=>c1 h.1),List.append_nil];rfl
  show Bk_ t num c S E _ _=_
  unfold Bk_
  rw [d5_ (by omega),List.take_length,hr];rfl
theorem z2_{t:Fst}(ht:FstOk t){p:Nat→Bool}{num:N_1}(hn:w8_ p t.states.toNat num)(c:Nat)(S:List Tip):
    eq_ (fun q:List Tip×Nat=>Bp_ t num c S q.1 q.2) (([]:List Tip),0)=bnd (B5_ ⟨(c:Int),S,il_ p t.ends,jb_ p t.arcs⟩) (fun v=>some (v.1,v.2)):=by
  have hN:=ht.endsN
  obtain ⟨r,hr⟩: ∃r,bnd (B5_ ⟨(c:Int),S,il_ p t.ends,jb_ p t.arcs⟩) (fun v=>some (v.1,v.2))=some r:=by rw [om_];exact ⟨_,rfl⟩
  rw [hr]
  refine n0_ t.ends tz_ (fun k=>il_ p (t.ends.take k)) (fun k hk=> ?_) ?_
  · obtain ⟨b1,b2⟩:=ht.ends _ (gf_ tz_ hk)
    have hl:=lq_ p (t.ends.take k)
    have r3:=jg_ t.ends k
    have e1:=hn.2 _ b1.1 (by omega)
    have l1:=hn.1
    show Bp_ t num c S _ k=_
    unfold Bp_ D6_
    rw [d4_ (by omega),d3_ ⟨b1.1,by omega⟩,e1,qa_ p _ k hk]
    by_cases c1:0≤iy_ p (nth t.ends k tz_).state
    · rw [d4_ c1,if_pos c1,d3_ (by simp only [lo_];omega)];rfl
    rw [d5_ c1,if_neg c1,List.append_nil];rfl
  show Bp_ t num c S _ _=_
  unfold Bp_
  rw [d5_ (by omega),List.take_length,zr_ ht hn,hr];rfl
theorem uj_{t:Fst}(ht:FstOk t){p:Nat→Bool}{num:N_1}(hn:w8_ p t.states.toNat num)(c:Nat):
    eq_ (fun q:List Tip×Nat=>Bn_ t num c q.1 q.2) (([]:List Tip),0)=bnd (B5_ ⟨(c:Int),il_ p t.starts,il_ p t.ends,jb_ p t.arcs⟩) (fun v=>some (v.1,v.2)):=by
  have hN:=ht.startsN
  obtain ⟨r,hr⟩: ∃r,bnd (B5_ ⟨(c:Int),il_ p t.starts,il_ p t.ends,jb_ p t.arcs⟩) (fun v=>some (v.1,v.2))=some r:=by rw [om_];exact ⟨_,rfl⟩
  rw [hr]
  refine n0_ t.starts tz_ (fun k=>il_ p (t.starts.take k)) (fun k hk=> ?_) ?_
  · obtain ⟨b1,b2⟩:=ht.starts _ (gf_ tz_ hk)
    have hl:=lq_ p (t.starts.take k)
    have r3:=jg_ t.starts k
    have e1:=hn.2 _ b1.1 (by omega)
    have l1:=hn.1
    show Bn_ t num c _ k=_
    unfold Bn_ D1_
    rw [d4_ (by omega),d3_ ⟨b1.1,by omega⟩,e1,qa_ p _ k hk]
    by_cases c1:0≤iy_ p (nth t.starts k tz_).state
    · rw [d4_ c1,if_pos c1,d3_ (by simp only [lo_];omega)];rfl
    rw [d5_ c1,if_neg c1,List.append_nil];rfl
  show Bn_ t num c _ _=_
  unfold Bn_
  rw [d5_ (by omega),List.take_length,z2_ ht hn,hr];rfl
theorem zo_ {t : Fst} (ht : FstOk t) {on bk : N_2} (h1 : Grp Arc.frm Arc.to t.states.toNat on t.arcs) (h2 : Grp Arc.to Arc.frm t.states.toNat bk t.arcs) {l0 : N_1} (hl0 : l0.length = t.states.toNat) (hm : ∀ i, i < t.states.toNat → nth l0 i 0 = -1) :
    ∃num,Dx_ (pw_ (fun (q:N_1×Nat) (x:Int)=>B7_ q.1 q.2 x)) (0,(l0,0)) (⟨t.states,t.starts,t.ends,t.arcs⟩:Fst) on bk=some (0,(num,gl_ (g4_ t) t.states.toNat))∧w8_ (g4_ t) t.states.toNat num:=by
  have h0:=ht.st0
  have hs1:=ht.st1
  obtain ⟨ah,a1,a2,a3⟩:=ur_ (tips:=t.starts) (by omega) h1.len (xk_ h1 fun a ha=>(ht.arcs a ha).2.1) (fun x hx=>by have:=(ht.starts x hx).1;omega)
  obtain ⟨be,b1,b2,b3⟩:=ur_ (tips:=t.ends) (by omega) h2.len (xk_ h2 fun a ha=>(ht.arcs a ha).1) (fun x hx=>by have:=(ht.ends x hx).1;omega)
  rw [stE_on ht h1 fun a ha=>(ht.arcs a ha).1]at a3
  rw [stE_on ht h2 fun a ha=>(ht.arcs a ha).2.1]at b3
  have hp: ∀v,g4_ t v=(nth ah v false && nth be v false):=fun v=>by
    rw [Bool.eq_iff_iff,Bool.and_eq_true,a3 v,b3 v];exact r5_
  unfold Dx_
  rw [eu_ a1,eu_ b1]
  obtain ⟨r,e,f⟩:=er_ (step:=fun q:Nat×(Nat×N_1×Nat)=>Ao_ ah be (pw_ (fun (q:N_1×Nat) (x:Int)=>B7_ q.1 q.2 x)) q.1 q.2) (fun (s:Nat×N_1×Nat) k=>(k,s)) t.states.toNat
    (fun k s=>s.1=0∧s.2.2=gl_ (g4_ t) k∧s.2.1.length=t.states.toNat∧ ∀i,i<t.states.toNat→nth s.2.1 i 0=if i<k then iy_ (g4_ t) i else -1)
    (fun r=>r.1=0∧r.2.2=gl_ (g4_ t) t.states.toNat∧w8_ (g4_ t) t.states.toNat r.2.1)
    (fun k s hk ⟨c1,c2,c3,c4⟩=>by
      obtain ⟨j,l,c⟩:=s
      obtain rfl:j=0:=c1
      obtain rfl:c=gl_ (g4_ t) k:=c2
      dsimp only at c3 c4
      refine .inl ?_
      show ∃s':Nat×N_1×Nat,Ao_ ah be _ k (0,l,gl_ (g4_ t) k)=_∧_
      unfold Ao_ B6_
      rw [d4_ (by omega)]
      have hk':=hp k
      cases ha:nth ah k false with
      |false=>
        rw [ha,Bool.false_and]at hk'
        refine ⟨(0,l,gl_ (g4_ t) k),rfl,rfl,by simp only [gl_,hk'];rfl,c3,fun i hi=> ?_⟩
        dsimp only
        rw [c4 i hi]
        by_cases e1:i<k
        · rw [if_pos e1,if_pos (by omega)]
        rw [if_neg e1]
        by_cases e2:i<k+1
        · obtain rfl:i=k:=by omega
          rw [if_pos e2];unfold iy_;simp [hk']
        rw [if_neg e2]
      |true=>
        rw [iteO_true,d3_ (by omega)]
        cases hb:nth be k false with
        |false=>
          rw [ha,hb,Bool.true_and]at hk'
          refine ⟨(0,l,gl_ (g4_ t) k),rfl,rfl,by simp only [gl_,hk'];rfl,c3,fun i hi=> ?_⟩
          dsimp only
          rw [c4 i hi]
          by_cases e1:i<k
          · rw [if_pos e1,if_pos (by omega)]
          rw [if_neg e1]
          by_cases e2:i<k+1
          · obtain rfl:i=k:=by omega
            rw [if_pos e2];unfold iy_;simp [hk']
          rw [if_neg e2]
        |true=>
          rw [ha,hb,Bool.true_and]at hk'
          have hy:pw_ (fun (q:N_1×Nat) (x:Int)=>B7_ q.1 q.2 x) (0,l,gl_ (g4_ t) k) ((k:Nat):Int)=some ((0,l.set k ((gl_ (g4_ t) k:Nat):Int),gl_ (g4_ t) k+1),true):=by
            unfold pw_
            rw [if_pos rfl]
            show (B7_ l (gl_ (g4_ t) k) ((k:Nat):Int)).bind _=_
            unfold B7_
            have hself:=he_ (g4_ t) k
            rw [d3_ ⟨by omega,by omega⟩,d3_ (by omega)];rfl
          rw [iteO_true,eu_ hy]
          refine ⟨(0,l.set k ((gl_ (g4_ t) k:Nat):Int),gl_ (g4_ t) k+1),rfl,rfl,by simp only [gl_,hk',if_true],by rw [ls_];exact c3,fun i hi=> ?_⟩
          dsimp only
          rw [ek_]
          by_cases e1:k=i
          · subst e1
            rw [if_pos ⟨rfl,by omega⟩,if_pos (by omega),je_ (by simpa using hk')];simp
          rw [if_neg (fun h=>e1 h.1),c4 i hi]
          by_cases e2:i<k
          · rw [if_pos e2,if_pos (by omega)]
          rw [if_neg e2,if_neg (by omega)])
    (fun s ⟨c1,c2,c3,c4⟩=>⟨s,by
      show Ao_ ah be _ _ s=_
      unfold Ao_
      rw [d5_ (by omega)];rfl,c1,c2,c3,fun v h1 h2=>by
        rw [c4 _ (by omega),if_pos (by omega),show ((v.toNat:Nat):Int)=v by omega]⟩)
    (s0:=(0,l0,0)) ⟨rfl,rfl,hl0,fun i hi=>by rw [if_neg (by omega)];exact hm i hi⟩
  obtain ⟨j,num,c⟩:=r
  obtain ⟨f1,f2,f3⟩:=f
  dsimp only at f1 f2 f3
  subst f1 f2
  exact ⟨num,e,f3⟩
def fv_(t:Fst):Fst:=srt (m5_ (g4_ t) t)
theorem x2_{t:Fst}(ht:FstOk t):Rng t:=⟨fun x hx=>(ht.starts x hx).1,fun x hx=>(ht.ends x hx).1,fun x hx=>⟨(ht.arcs x hx).1,(ht.arcs x hx).2.1⟩⟩
theorem zk_{t:Fst}(ht:FstOk t):FstOk (m5_ (g4_ t) t):=by
  have hr:=keep_rng (t:=t) (r:=m5_ (g4_ t) t) (fun _=>Iff.rfl) (fun _=>Iff.rfl) (fun _=>Iff.rfl) rfl (x2_ ht)
  have h1:=ht.st1
  have hc:=he_ (g4_ t) t.states.toNat
  have l1:=lq_ (g4_ t) t.starts
  have l2:=lq_ (g4_ t) t.ends
  have l3:=on_ (g4_ t) t.arcs
  refine ⟨by show (0:Int)≤((gl_ (g4_ t) t.states.toNat:Nat):Int);omega,by have:=ht.st0;show ((gl_ (g4_ t) t.states.toNat:Nat):Int)≤1024;omega,Nat.le_trans l3 ht.arcsN,Nat.le_trans l1 ht.startsN,Nat.le_trans l2 ht.endsN,fun y hy=>⟨hr.starts y hy,?_⟩,fun y hy=>⟨hr.ends y hy,?_⟩,fun y hy=>⟨(hr.arcs y hy).1,(hr.arcs y hy).2,?_⟩⟩
  · obtain ⟨x,hx,_,rfl⟩:=fx_.1 hy;exact (ht.starts x hx).2
  · obtain ⟨x,hx,_,rfl⟩:=fx_.1 hy;exact (ht.ends x hx).2
  obtain ⟨x,hx,_,_,rfl⟩:=i1_.1 hy;exact (ht.arcs x hx).2.2
theorem trim_eq (t : Fst) : Fd_ t = some (if jw_ t = true then (fv_ t, 0) else (⟨0, [], [], []⟩, 1)) := by
  unfold Fd_
  rw [Dq_,bnd,Option.bind_some,ym_]
  by_cases h:jw_ t=true
  · have ht:=(fw_ t).1 h
    have h0:=ht.st0
    have h1:=ht.st1
    rw [h,Bool.not_true,iteO_false,d3_ ⟨h0,by omega⟩,if_pos rfl]
    obtain ⟨r,e,rfl⟩:=er_ (step:=fun q:N_1×Nat=>Bq_ t q.1 q.2) (fun (l:N_1) k=>(l,k)) t.states.toNat
      (fun k l=>l.length=t.states.toNat∧ ∀i,i<k→nth l i 0= -1) (fun r=>r=(fv_ t,0))
      (fun k l hk ⟨c1,c2⟩=> .inl ⟨l.set k (-1),by
        show Bq_ t l k=_
        unfold Bq_
        rw [lr_,d4_ (by omega),d3_ (by omega)];rfl,by rw [ls_];exact c1,fun i hi=>by
          rw [ek_]
          by_cases e1:k=i
          · rw [if_pos ⟨e1,by omega⟩]
          rw [if_neg (fun h=>e1 h.1)];exact c2 i (by omega)⟩)
      (fun l ⟨c1,c2⟩=>⟨(fv_ t,0),by
        obtain ⟨on,bk,u1,u2,u3⟩:=y4_ ht
        obtain ⟨num,v1,v2⟩:=zo_ ht u2 u3 c1 c2
        show Bq_ t l _=_
        unfold Bq_
        rw [lr_,d5_ (by omega),eu_ u1]
        dsimp only
        rw [eu_ v1]
        unfold Fx_
        show fin (eq_ _ _)=_
        rw [uj_ ht v2,om_]
        show fin (bnd (some (if jw_ (m5_ (g4_ t) t)=true then (srt (m5_ (g4_ t) t),0) else _)) _)=_
        rw [if_pos ((fw_ _).2 (zk_ ht))];rfl,rfl⟩)
      (s0:=List.replicate t.states.toNat 0) ⟨lr_ ..,fun i hi=>by omega⟩
    exact e
  simp only [Bool.not_eq_true]at h
  rw [h];rfl
theorem nr_{t:Fst}(ht:FstOk t):FstOk (fv_ t):=srt_ok (zk_ ht)
theorem ou_{A:List Arc}{most:Int}{l:List Tip}{R:List (List Tip)}{e:Int}{k:Nat}(h:gs_ A most l R k= .inl e): ∀j,gs_ A most l R (k+j)= .inl e
  |0=>h
  |j+1=>by
    show gs_ A most l R (k+j+1)=_
    rw [gs_,ou_ h j]
def DoQ(n:Int)(x0:Maker):Int⊕(List (List Tip)×Seq)→Int⊕Maker→Prop
  | .inl e,r=>r= .inl e
  | .inr (R',q'),r=> ∃m',r= .inr ⟨x0.arcs,x0.ends,x0.most,R',m',q'⟩∧Places n m' R'
theorem Fits.with'{n:Nat}{A:List Arc}{E:List Tip}{x:Maker}(h:Fits n A E x)(R:List (List Tip))(m:FM T_1 Int)(q:Seq):Fits n A E ⟨x.arcs,x.ends,x.most,R,m,q⟩:=
  ⟨⟨h.arcs,h.ends,h.al,h.ao,h.eo,h.hn⟩,h.to,h.few,h.m1,h.m2⟩
structure QOk (q:Seq) (k:Nat):Prop where
  n:q.next.length=k
  o:q.outs.length=k
  e:q.fin.length=k
  t:q.tail.length=k
theorem QOk.push{q:Seq}{k:Nat}(h:QOk q k)(N:N_1)(O:T_2)(b:Bool)(t:T_1):QOk (n7_ q N O b t) (k+1):=⟨by simp [n7_,h.n],by simp [n7_,h.o],by simp [n7_,h.e],by simp [n7_,h.t]⟩
theorem do_ok {n : Nat} {A : List Arc} {E : List Tip} {x0 : Maker} (h : Fits n A E x0) (hp : Places n x0.places x0.rows) (hR : (x0.rows.length : Int) ≤ x0.most) {s : Nat} (hs : s < x0.rows.length) {c : Nat} (hq : QOk x0.q c) (hc : c ≤ 1024) :
    ∃r,Eg_ x0 ((s:Nat):Int)=some r∧DoQ n x0 (doD A E x0.most (nth x0.rows s []) x0.rows x0.q) r:=by
  have hl:RowOk n (nth x0.rows s []):=hp.ok _ (gf_ _ hs)
  have hn:=h.hn
  have hm2:=h.m2
  have hlen:(nth x0.rows s []).length≤n:=by
    have:=yz_ (by omega) hl.inc hl.st
    omega
  unfold Eg_ doD
  rw [d3_ (by omega),tn_,tail_ok h.toKnows hl,ed_]
  cases htl:ke_ E (nth x0.rows s [])with
  |inl e=>exact ⟨_,rfl,rfl⟩
  | inr bt =>
    obtain ⟨bb,tt⟩:=bt
    show ∃r,Di_ x0 ((s:Nat):Int) (bb,tt)=some r∧DoQ n x0 (match gs_ A x0.most (nth x0.rows s []) x0.rows 256 with| .inl e=> .inl e| .inr (R',N,O)=> .inr (R',n7_ x0.q N O bb tt)) r
    unfold Di_
    refine er_ (step:=fun q:(List (List Tip))×(FM T_1 Int)×N_1×T_2×Nat=>Am_ x0 ((s:Nat):Int) (bb,tt) q.1 q.2.1 q.2.2.1 q.2.2.2.1 q.2.2.2.2) (fun (z:List (List Tip)×FM T_1 Int×N_1×T_2) k=>(z.1,z.2.1,z.2.2.1,z.2.2.2,k)) 256
      (fun k z=> ∃R N O,gs_ A x0.most (nth x0.rows s []) x0.rows k= .inr (R,N,O)∧Places n z.2.1 R∧z.1=R∧z.2.2.1=N++List.replicate (256 - N.length) 0∧z.2.2.2=O++List.replicate (256 - O.length) [])
      _ ?_ ?_ (s0:=(x0.rows,x0.places,List.replicate 256 0,List.replicate 256 [])) ⟨x0.rows,[],[],rfl,hp,rfl,by simp,by simp⟩
    · rintro k ⟨z1,m,z3,z4⟩ hk ⟨R,N,O,hb,hpl,e1,e3,e4⟩
      simp only at e1 e3 e4 hpl
      subst e1 e3 e4
      obtain ⟨hRl,⟨X,hX⟩,hN,hO⟩:=i6_ hR hb
      have hfit:=h.with' z1 m x0.q
      have hb1:gs_ A x0.most (nth x0.rows s []) x0.rows (k+1)=match mh_ A x0.most (nth x0.rows s []) (hn_ ((k:Nat):Int)) z1 with| .inl e=> .inl e| .inr (R2,z,o)=> .inr (R2,N++[z],O++[o]):=by rw [gs_,hb]<;>rfl
      have hbl:(j6_ A (nth x0.rows s []) (hn_ ((k:Nat):Int))).length≤1000000:=by
        have h1:=ry_ A (hn_ ((k:Nat):Int)) (nth x0.rows s [])
        have h2:(nth x0.rows s []).length * A.length≤n * A.length:=Nat.mul_le_mul_right _ hlen
        have h3:=h.few
        omega
      have hkN:k<(N++List.replicate (256 - N.length) (0:Int)).length:=by simp;omega
      have hkO:k<(O++List.replicate (256 - O.length) ([]:T_1)).length:=by simp;omega
      have e1:(N++List.replicate (256 - N.length) (0:Int)).set k (-1)=(N++[-1])++List.replicate (256 - (N++[(-1:Int)]).length) 0:=by
        have:=o8_ N 256 (-1:Int) 0 (by omega)
        rwa [hN]at this ⊢
      have e2: ∀z:Int,((N++List.replicate (256 - N.length) (0:Int)).set k (-1)).set k z=(N++[z])++List.replicate (256 - (N++[z]).length) 0:=fun z=>by
        rw [Iz_]
        have:=o8_ N 256 z 0 (by omega)
        rwa [hN]at this ⊢
      have e3: ∀o:T_1,(O++List.replicate (256 - O.length) ([]:T_1)).set k o=(O++[o])++List.replicate (256 - (O++[o]).length) []:=fun o=>by
        have:=o8_ O 256 o [] (by omega)
        rwa [hO]at this ⊢
      have hO1:O++List.replicate (256 - O.length) ([]:T_1)=(O++[[]])++List.replicate (256 - (O++[([]:T_1)]).length) []:=by
        rw [ap_,la_,lo_,show 256 - O.length=(256 - (O.length+1))+1 by omega,List.replicate_succ];rfl
      -- the step
      have hst:Am_ x0 ((s:Nat):Int) (bb,tt) z1 m (N++List.replicate (256 - N.length) 0) (O++List.replicate (256 - O.length) []) k=
          ec_ (decide (0<(((j6_ A (nth x0.rows s []) (hn_ ((k:Nat):Int))).length:Nat):Int))) (bnd (some (hb_ (j6_ A (nth x0.rows s []) (hn_ ((k:Nat):Int))))) (fun v41=>ky_ v41 (fun v41k=>fin (some (.inl v41k))) (fun v41r=>bnd (Ag_ (⟨x0.arcs,x0.ends,x0.most,z1,m,x0.q⟩:Maker) v41r.2) (fun v52=>ky_ v52 (fun v52k=>fin (some (.inl v52k))) (fun v52r=>B2_ k v52r.2.rows v52r.2.places (((N++List.replicate (256 - N.length) (0:Int)).set k (-1)).set k v52r.1) ((O++List.replicate (256 - O.length) []).set k v41r.1))))))
          (B2_ k z1 m ((N++List.replicate (256 - N.length) (0:Int)).set k (-1)) (O++List.replicate (256 - O.length) [])):=by
        unfold Am_
        rw [d4_ (by omega),d3_ hkN,tn_,beh_ok hfit.toKnows hl,ed_,vg_ hbl (beh_out h.ao hl _)]
        simp only [d3_ hkO,d3_ (show k<((N++List.replicate (256 - N.length) (0:Int)).set k (-1)).length by rw [ls_];exact hkN)]
      show (∃s':List (List Tip)×FM T_1 Int×N_1×T_2,Am_ x0 ((s:Nat):Int) (bb,tt) z1 m (N++List.replicate (256 - N.length) 0) (O++List.replicate (256 - O.length) []) k=some (.inl (s'.1,s'.2.1,s'.2.2.1,s'.2.2.2,k+1))∧_)∨ ∃r,Am_ x0 ((s:Nat):Int) (bb,tt) z1 m (N++List.replicate (256 - N.length) 0) (O++List.replicate (256 - O.length) []) k=some (.inr r)∧_
      rw [hst]
      unfold mh_ at hb1
      by_cases cb:j6_ A (nth x0.rows s []) (hn_ ((k:Nat):Int))=[]
      · rw [if_pos cb]at hb1
        left
        refine ⟨(z1,m,_,_),?_,z1,_,_,hb1,hpl,rfl,rfl,rfl⟩
        rw [cb,d5_ (by simp),e1,hO1];rfl
      rw [if_neg cb]at hb1
      have hpos:0<(j6_ A (nth x0.rows s []) (hn_ ((k:Nat):Int))).length:=List.length_pos_iff.2 cb
      rw [d4_ (by omega),ed_]
      cases hsd:hb_ (j6_ A (nth x0.rows s []) (hn_ ((k:Nat):Int)))with
      |inl e=>
        rw [hsd]at hb1
        right
        refine ⟨.inl e,rfl,?_⟩
        have:=ou_ hb1 (256 - (k+1))
        rw [show k+1+(256 - (k+1))=256 by omega]at this
        rw [this];rfl
      |inr fr=>
        obtain ⟨f,r⟩:=fr
        rw [hsd]at hb1
        have hrow:=(strip_row (n:=n) (by omega) (xl_ h.to _ _) hsd).1
        obtain ⟨k1,k2⟩:=vu_ (n:=n) (x0:=⟨x0.arcs,x0.ends,x0.most,z1,m,x0.q⟩) (by omega) hpl hrow (show z1.length≤1000000 by omega)
        show (∃s',bnd (Ag_ ⟨x0.arcs,x0.ends,x0.most,z1,m,x0.q⟩ r) _=_∧_)∨ ∃q,bnd (Ag_ ⟨x0.arcs,x0.ends,x0.most,z1,m,x0.q⟩ r) _=_∧_
        cases hsn:i9_ x0.most z1 r with
        |inl e=>
          simp only [hsn]at hb1
          rw [k1 e hsn,ed_]
          right
          refine ⟨.inl e,rfl,?_⟩
          have:=ou_ hb1 (256 - (k+1))
          rw [show k+1+(256 - (k+1))=256 by omega]at this
          rw [this];rfl
        |inr iR=>
          obtain ⟨i,R'⟩:=iR
          simp only [hsn]at hb1
          obtain ⟨m',hm1,hm2⟩:=k2 i R' hsn
          rw [hm1,ed_]
          left
          refine ⟨(R',m',_,_),?_,R',_,_,hb1,hm2,rfl,rfl,rfl⟩
          show B2_ k R' m' _ _=_
          rw [e2,e3];rfl
    rintro ⟨z1,m,z3,z4⟩ ⟨R,N,O,hb,hpl,e1,e3,e4⟩
    simp only at e1 e3 e4 hpl
    subst e1 e3 e4
    obtain ⟨hRl,⟨X,hX⟩,hN,hO⟩:=i6_ hR hb
    have hq1:=hq.n
    have hq2:=hq.o
    have hq3:=hq.e
    have hq4:=hq.t
    refine ⟨.inr ⟨x0.arcs,x0.ends,x0.most,z1,m,n7_ x0.q N O bb tt⟩,?_,?_⟩
    · show Am_ x0 ((s:Nat):Int) (bb,tt) z1 m (N++List.replicate (256 - N.length) 0) (O++List.replicate (256 - O.length) []) 256=_
      unfold Am_
      rw [d5_ (by omega),d3_ (by simp;omega),d3_ (by simp;omega),d3_ (by simp;omega),d3_ (by simp;omega),hN,hO,Nat.sub_self,List.replicate_zero,List.append_nil,List.replicate_zero,List.append_nil]
      rfl
    rw [hb]
    exact ⟨m,rfl,hpl⟩
theorem yi_{A:List Arc}{E:List Tip}{most:Int}{l:List Tip}{R R':List (List Tip)}{q q':Seq}{c:Nat}(h:doD A E most l R q= .inr (R',q'))(hR:(R.length:Int)≤most)(hq:QOk q c):
    (R'.length:Int)≤most∧(∃X,R'=R++X)∧QOk q' (c+1)∧q'.front=q.front:=by
  unfold doD at h
  split at h
  · cases h
  split at h
  · cases h
  rename_i hb
  cases h
  obtain ⟨h1,h2,_,_⟩:=i6_ hR hb
  exact ⟨h1,h2,hq.push _ _ _ _,rfl⟩
theorem yr_ {n : Nat} {A : List Arc} {E : List Tip} {x0 : Maker} (h : Fits n A E x0) (v : T_1 × (List Tip)) : ∀ (g s : Nat) (R : List (List Tip)) (m : FM T_1 Int) (q : Seq), 1025 - s ≤ g → s ≤ R.length → Places n m R → (R.length : Int) ≤ x0.most → QOk q s → q.front = v.1 →
    eq_ (fun q:(List (List Tip))×(FM T_1 Int)×N_2×T_3×B_1×T_2×Nat=>Ai_ x0 v q.1 q.2.1 q.2.2.1 q.2.2.2.1 q.2.2.2.2.1 q.2.2.2.2.2.1 q.2.2.2.2.2.2) (R,m,q.next,q.outs,q.fin,q.tail,s)=some (ofR (w2_ A E x0.most g s R q))
  |0,s,R,m,q,hg,hs,hp,hR,hq,hf=>by have:=h.m2;omega
  | g + 1, s, R, m, q, hg, hs, hp, hR, hq, hf => by
    have hm2:=h.m2
    rw [w2_]
    by_cases c:s<R.length
    · rw [if_pos c]
      have hfit:=h.with' R m q
      obtain ⟨r,h1,h2⟩:=do_ok hfit hp hR c hq (by omega)
      have eq1:(⟨v.1,q.next,q.outs,q.fin,q.tail⟩:Seq)=q:=by rw [←hf]
      have hst:Ai_ x0 v R m q.next q.outs q.fin q.tail s=ky_ r (fun k=>fin (bnd (E2_ k) (fun v70=>some (v70.1,v70.2)))) (fun r=>nxt (r.rows,r.places,r.q.next,r.q.outs,r.q.fin,r.q.tail,(s+1))):=by
        unfold Ai_
        rw [d4_ (by omega),eq1,h1,ed_]
      cases hd:doD A E x0.most (nth R s []) R q with
      |inl e=>
        have h2:r= .inl e:=by
          have:=h2
          change DoQ n _ (doD A E x0.most (nth R s []) R q) r at this
          rw [hd]at this;exact this
        refine fb_ ?_
        show Ai_ x0 v R m q.next q.outs q.fin q.tail s=_
        rw [hst,h2];rfl
      |inr rq=>
        obtain ⟨R',q'⟩:=rq
        obtain ⟨m',h3,h4⟩: ∃m',r= .inr ⟨x0.arcs,x0.ends,x0.most,R',m',q'⟩∧Places n m' R':=by
          have:=h2
          change DoQ n _ (doD A E x0.most (nth R s []) R q) r at this
          rw [hd]at this;exact this
        obtain ⟨h5,⟨X,h6⟩,h7,h8⟩:=yi_ hd hR hq
        have hlen:R.length≤R'.length:=by rw [h6,la_];omega
        refine gp_ (s':=(R',m',q'.next,q'.outs,q'.fin,q'.tail,s+1)) ?_ (yr_ h v g (s+1) R' m' q' (by omega) (by omega) h4 h5 h7 (h8.trans hf))
        show Ai_ x0 v R m q.next q.outs q.fin q.tail s=_
        rw [hst,h3];rfl
    rw [if_neg c]
    refine fb_ ?_
    show Ai_ x0 v R m q.next q.outs q.fin q.tail s=_
    have eq1:(⟨v.1,q.next,q.outs,q.fin,q.tail⟩:Seq)=q:=by rw [←hf]
    unfold Ai_
    rw [d5_ (by omega),eq1];rfl
theorem all_eq{n:Nat}{t:Fst}{x0:Maker}(h:Fits n t.arcs t.ends x0)(hn:t.states=n)(ht:FstOk t)(hr:x0.rows=[])(hm:x0.places=FM.emp)(hq:x0.q=Seq.zero):D3_ x0 t=some (ofR (ofT t x0.most)):=by
  have hn2:=h.hn
  have hm1:=h.m1
  unfold D3_ ofT
  by_cases c:t.starts=[]
  · rw [if_pos c,c,d4_ (by simp)];rfl
  rw [if_neg c]
  have hpos:=List.length_pos_iff.2 c
  have hsl:=ht.startsN
  have hss: ∀x∈t.starts,0≤x.state∧x.state<(n:Int):=fun x hx=>by rw [←hn];exact (ht.starts x hx).1
  rw [d5_ (by omega),d3_ (by omega),vg_ (by omega) (fun x hx=>by have:=(ht.starts x hx).2;omega),ed_]
  cases hsd:hb_ t.starts with
  |inl e=>rfl
  |inr fl=>
    obtain ⟨f,l⟩:=fl
    have hrow:=(strip_row (n:=n) (by omega) hss hsd).1
    obtain ⟨k1,k2⟩:=vu_ (n:=n) (x0:=⟨x0.arcs,x0.ends,x0.most,x0.rows,x0.places,⟨f,x0.q.next,x0.q.outs,x0.q.fin,x0.q.tail⟩⟩) (by omega) (by rw [hr,hm];exact Places.nil n) hrow (by rw [hr];simp)
    have hsn:i9_ x0.most x0.rows l= .inr (0,[l]):=by
      unfold i9_
      rw [hr,if_neg (by simp),if_neg (by simp;omega)];rfl
    obtain ⟨m',h1,h2⟩:=k2 0 [l] hsn
    show bnd (Ag_ ⟨x0.arcs,x0.ends,x0.most,x0.rows,x0.places,⟨f,x0.q.next,x0.q.outs,x0.q.fin,x0.q.tail⟩⟩ l) _=_
    rw [h1,ed_]
    show eq_ _ ([l],m',x0.q.next,x0.q.outs,x0.q.fin,x0.q.tail,0)=_
    rw [hq]
    exact yr_ h (f,l) 1025 0 [l] m' ⟨f,[],[],[],[]⟩ (by omega) (by simp) h2 (by simp;omega) ⟨rfl,rfl,rfl,rfl⟩ rfl
def ofD(t:Fst)(most:Int):Seq×Int:=if jw_ t=true∧1≤most∧most≤1024 then ofR (ofT (fv_ t) most) else (Seq.zero,1)
theorem of_ends {T : Fst} (hT : FstOk T) {most : Int} (h1 : 1 ≤ most) (h2 : most ≤ 1024) (hf : T.states.toNat * T.arcs.length ≤ 1000000) (e : Int) {la : List (List Arc)} (hG : Grp Arc.frm id T.states.toNat la T.arcs) :
    eq_ (fun q:T_3×Nat=>Cg_ (T,e) la most q.1 q.2) ((List.replicate T.states.toNat ([]:T_2)),0)=some (ofR (ofT T most)):=by
  have hs:=hT.st0
  obtain ⟨r,k1,k2⟩:=er_ (step:=fun q:T_3×Nat=>Cg_ (T,e) la most q.1 q.2) (fun l k=>(l,k)) T.ends.length (fun k l=>Grp Tip.state Tip.out T.states.toNat l (T.ends.take k)) (fun r=>r=ofR (ofT T most))
    (fun k l hk hI=>by
      have hx:=(hT.ends _ (gf_ tz_ hk)).1
      have hle:=hI.len
      have hen:=hT.endsN
      have hgl:(nth l (nth T.ends k tz_).state.toNat []).length≤1024:=by
        have h3:=rj_ hI (i:=(nth T.ends k tz_).state.toNat) (by omega)
        rw [List.length_take]at h3;omega
      refine .inl ⟨l.set (nth T.ends k tz_).state.toNat (nth l (nth T.ends k tz_).state.toNat []++[(nth T.ends k tz_).out]),?_,?_⟩
      · show Cg_ (T,e) la most l k=_
        unfold Cg_ Gc_
        show ec_ (decide (((k:Nat):Int)<((T.ends.length:Nat):Int))) _ _=_
        rw [d4_ (by omega),d3_ ⟨hx.1,by show (nth T.ends k tz_).state<_;omega⟩,d3_ (by show ((nth l (nth T.ends k tz_).state.toNat []).length+1) * 16≤_;omega),d3_ ⟨hx.1,by show (nth T.ends k tz_).state<_;omega⟩];rfl
      rw [ex_ _ hk tz_]
      exact hI.snoc hx.1 (by omega))
    (fun l hI=>by
      rw [List.take_length]at hI
      refine ⟨_,?_,rfl⟩
      have hfit:Fits T.states.toNat T.arcs T.ends ⟨la,l,most,[],FM.emp,⟨[],[],[],[],[]⟩⟩:=
        ⟨⟨hG,hI,hT.arcsN,fun a ha=>(hT.arcs a ha).2.2.2,fun x hx=>(hT.ends x hx).2,by have:=hT.st1;omega⟩,fun a ha=>by have:=(hT.arcs a ha).2.1;omega,hf,h1,h2⟩
      show Cg_ (T,e) la most l T.ends.length=_
      unfold Cg_
      rw [d5_ (by show ¬ ((T.ends.length:Nat):Int)<((T.ends.length:Nat):Int);omega),all_eq hfit (by omega) hT rfl rfl rfl,ed_];rfl) (s0:=List.replicate T.states.toNat []) (Grp.nil ..)
  rw [←k2];exact k1
theorem of_all {T : Fst} (hT : FstOk T) {most : Int} (h1 : 1 ≤ most) (h2 : most ≤ 1024) (hf : T.states.toNat * T.arcs.length ≤ 1000000) (e : Int) : E4_ (T, e) most = some (ofR (ofT T most)) := by
  have hs:=hT.st0
  unfold E4_
  obtain ⟨r,k1,k2⟩:=er_ (step:=fun q:(List (List Arc))×Nat=>Dg_ (T,e) most q.1 q.2) (fun l k=>(l,k)) T.arcs.length (fun k l=>Grp Arc.frm id T.states.toNat l (T.arcs.take k)) (fun r=>r=ofR (ofT T most))
    (fun k l hk hI=>by
      have hx:=(hT.arcs _ (gf_ az_ hk)).1
      have hle:=hI.len
      have hen:=hT.arcsN
      have hgl:(nth l (nth T.arcs k az_).frm.toNat []).length≤16384:=by
        have h3:=rj_ hI (i:=(nth T.arcs k az_).frm.toNat) (by omega)
        rw [List.length_take]at h3;omega
      refine .inl ⟨l.set (nth T.arcs k az_).frm.toNat (nth l (nth T.arcs k az_).frm.toNat []++[(nth T.arcs k az_)]),?_,?_⟩
      · show Dg_ (T,e) most l k=_
        unfold Dg_ Gb_
        show ec_ (decide (((k:Nat):Int)<((T.arcs.length:Nat):Int))) _ _=_
        rw [d4_ (by omega),d3_ ⟨hx.1,by show (nth T.arcs k az_).frm<_;omega⟩,d3_ (by show ((nth l (nth T.arcs k az_).frm.toNat []).length+1) * 72≤_;omega),d3_ ⟨hx.1,by show (nth T.arcs k az_).frm<_;omega⟩];rfl
      rw [ex_ _ hk az_]
      exact hI.snoc hx.1 (by omega))
    (fun l hI=>by
      rw [List.take_length]at hI
      refine ⟨_,?_,rfl⟩
      show Dg_ (T,e) most l T.arcs.length=_
      unfold Dg_
      rw [d5_ (by show ¬ ((T.arcs.length:Nat):Int)<((T.arcs.length:Nat):Int);omega)]
      show fin (eq_ (fun q:T_3×Nat=>Cg_ (T,e) l most q.1 q.2) ((List.replicate T.states.toNat ([]:T_2)),0))=_
      rw [of_ends hT h1 h2 hf e hI];rfl) (s0:=List.replicate T.states.toNat []) (Grp.nil ..)
  rw [←k2];exact k1
theorem of_eq(t:Fst)(most:Int)(hf:jw_ t=true→(fv_ t).states.toNat * (fv_ t).arcs.length≤1000000):E8_ t most=some (ofD t most):=by
  unfold E8_ ofD
  rw [Dq_,ed_]
  cases hb:jw_ t with
  |false=>rw [d4_ (by decide),if_neg (by simp)];rfl
  |true=>
    have ht:=(fw_ t).1 hb
    have hT:=nr_ ht
    have h0:=hT.st0
    have h9:=hT.st1
    rw [d5_ (by decide)]
    by_cases c1:most<1
    · rw [d4_ c1,if_neg (fun q=>by omega)];rfl
    rw [d5_ c1]
    by_cases c2:1024<most
    · rw [d4_ c2,if_neg (fun q=>by omega)];rfl
    rw [d5_ c2,if_pos ⟨rfl,by omega,by omega⟩,trim_eq,hb,if_pos rfl,ed_,d5_ (by simp)]
    show grd (0≤(fv_ t).states∧24 * (fv_ t).states.toNat≤281474976710656) (grd (0≤(fv_ t).states∧24 * (fv_ t).states.toNat≤281474976710656) (E4_ (fv_ t,0) most))=_
    rw [d3_ ⟨h0,by omega⟩,d3_ ⟨h0,by omega⟩,of_all hT (by omega) (by omega) (hf hb)]
def aFrm(back:Bool)(x:Arc):Int:=if back=true then x.to else x.frm
def aTo(back:Bool)(x:Arc):Int:=if back=true then x.frm else x.to
def aE(t:Fst)(back:Bool)(a b:Int):Prop:= ∃x∈t.arcs,aFrm back x=a∧aTo back x=b
structure GI (t:Fst) (tips:List Tip) (back:Bool) (l:B_1):Prop where
  len:l.length=t.states.toNat
  sound: ∀v:Nat,nth l v false=true→Rch (fun c=> ∃x∈tips,x.state=c) (aE t back) v
  tip: ∀x∈tips,nth l x.state.toNat false=true
section
variable {α:Type} (cf:α→α→Int)
def insG(x:α):List α→List α
  |[]=>[x]
  |y::l=>if cf y x<0 then y::insG x l else x::y::l
def n6_:List α→List α
  |[]=>[]
  |x::l=>insG cf x (n6_ l)
theorem n1_(x:α): ∀l,(insG cf x l).Perm (x::l)
  |[]=>List.Perm.refl _
  |y::l=>by
    unfold insG
    split
    · exact ((n1_ x l).cons y).trans (List.Perm.swap x y l)
    exact List.Perm.refl _
theorem o4_: ∀l,(n6_ cf l).Perm l
  |[]=>List.Perm.refl _
  |x::l=>(n1_ cf x _).trans ((o4_ l).cons x)
variable {cf} [DecidableEq α] (hc:GoodCmp cf)
include hc
theorem o1_ (x : α) : ∀ l : List α, l.Pairwise (fun x y => ¬ cf y x < 0) → (insG cf x l).Pairwise fun x y => ¬ cf y x < 0
  |[],_=>List.pairwise_singleton _ _
  | y :: l, h => by
    obtain ⟨h1,h2⟩:=List.pairwise_cons.1 h
    unfold insG
    split
    · rename_i h3
      refine List.pairwise_cons.2 ⟨fun z hz=> ?_,o1_ x l h2⟩
      rcases List.mem_cons.1 ((n1_ cf x l).mem_iff.1 hz)with rfl|hz
      · have:=hc.anti y z
        omega
      exact h1 z hz
    rename_i h3
    refine List.pairwise_cons.2 ⟨fun z hz=> ?_,h⟩
    rcases List.mem_cons.1 hz with rfl|hz
    · exact h3
    exact hc.le_trans h3 (h1 z hz)
theorem k5_: ∀l:List α,(n6_ cf l).Pairwise fun x y=> ¬ cf y x<0
  |[]=>List.Pairwise.nil
  |x::l=>o1_ hc x _ (k5_ l)
theorem yo_(l:List α):n6_ cf l=g3_ cf l:=by
  refine List.Perm.eq_of_pairwise (le:=fun x y=> ¬ cf y x<0) (fun x y _ _ h k=> ?_) (k5_ hc l) (G3_ hc l) ((o4_ cf l).trans (List.mergeSort_perm l _).symm)
  have e:=hc.eq x y
  have a:=hc.anti y x
  exact e.1 (by omega)
end
theorem yw_(l:List Tip):n6_ e0_ l=g3_ e0_ l:=yo_ fg_ l
theorem yt_{t:Fst}(ht:FstOk t)(hu: ∀s,s<t.states.toNat→g4_ t s=true)(h1:t.starts.Pairwise fun x y=>e0_ x y<0)(h2:t.ends.Pairwise fun x y=>e0_ x y<0)(h3:t.arcs.Pairwise fun x y=>in_ x y<0):fv_ t=t:=by
  have hs:=ht.st0
  have e:m5_ (g4_ t) t=t:=by
    show (⟨((gl_ (g4_ t) t.states.toNat:Nat):Int),il_ (g4_ t) t.starts,il_ (g4_ t) t.ends,jb_ (g4_ t) t.arcs⟩:Fst)=t
    rw [k3_ _ hu,tc_ hu (fun x hx=>by have:=(ht.starts x hx).1;omega),tc_ hu (fun x hx=>by have:=(ht.ends x hx).1;omega),za_ hu (fun x hx=>by have:=ht.arcs x hx;omega),show ((t.states.toNat:Nat):Int)=t.states by omega]
  unfold fv_
  rw [e]
  unfold srt
  rw [Hf_ fg_ h1,Hf_ fg_ h2,Hf_ ot_ h3]
def onceK(l:List Tip):List Tip:=ddN tz_ (n6_ e0_ l) (n6_ e0_ l).length
theorem Iy_(l:List Tip):onceK l=gy_ tz_ e0_ l:=by unfold onceK gy_;rw [yw_,De_]
def u1_(l:List Tip):Int⊕(T_1×List Tip):=
  let m:=onceK l
  if ud_ m=true then .inl 12 else
  let f:=gn_ (m.map Tip.out)
  if 4096<f.length then .inl 2 else
  if ∃x∈m,4096<(x.out.drop f.length).length then .inl 2 else .inr (f,m.map (pu_ f.length))
theorem sr_(l:List Tip):u1_ l=hb_ l:=by unfold u1_ hb_;rw [Iy_]
def byteK (A : List Arc) (most : Int) (l : List Tip) (b : UInt8) (R : List (List Tip)) : Int ⊕ (List (List Tip) × Int × T_1) :=
  if j6_ A l b=[] then .inr (R, -1,[]) else
  match u1_ (j6_ A l b)with
  | .inl k=> .inl k
  | .inr (f,r)=>match i9_ most R r with
    | .inl k=> .inl k
    | .inr (i,R')=> .inr (R',((i:Nat):Int),f)
theorem byteK_eq(A:List Arc)(most:Int)(l:List Tip)(b:UInt8)(R:List (List Tip)):byteK A most l b R=mh_ A most l b R:=by unfold byteK mh_;rw [sr_]<;>rfl
def vx_ (A : List Arc) (most : Int) (l : List Tip) (R : List (List Tip)) : Nat → Int ⊕ (List (List Tip) × N_1 × T_2)
  |0=> .inr (R,[],[])
  | k + 1 => match vx_ A most l R k with
    | .inl e=> .inl e
    | .inr (R1,N,O)=>match byteK A most l (hn_ ((k:Nat):Int)) R1 with
      | .inl e=> .inl e
      | .inr (R2,z,o)=> .inr (R2,N++[z],O++[o])
theorem tg_(A:List Arc)(most:Int)(l:List Tip)(R:List (List Tip)): ∀k,vx_ A most l R k=gs_ A most l R k
  |0=>rfl
  |k+1=>by
    rw [vx_,gs_,tg_ A most l R k]
    cases gs_ A most l R k with
    |inl e=>rfl
    |inr x=>simp only [byteK_eq]<;>rfl
def doK (A : List Arc) (E : List Tip) (most : Int) (l : List Tip) (R : List (List Tip)) (q : Seq) : Int ⊕ (List (List Tip) × Seq) :=
  match ke_ E l with
  | .inl e=> .inl e
  | .inr (b,t)=>match vx_ A most l R 256 with
    | .inl e=> .inl e
    | .inr (R',N,O)=> .inr (R',n7_ q N O b t)
theorem doK_eq(A:List Arc)(E:List Tip)(most:Int)(l:List Tip)(R:List (List Tip))(q:Seq):doK A E most l R q=doD A E most l R q:=by unfold doK doD;rw [tg_]<;>rfl
def allK (A : List Arc) (E : List Tip) (most : Int) : Nat → Nat → List (List Tip) → Seq → Int ⊕ (List (List Tip) × Seq)
  |0,_,R,q=> .inr (R,q)
  | g + 1, s, R, q => if s < R.length then
      match doK A E most (nth R s []) R q with
      | .inl e=> .inl e
      | .inr (R',q')=>allK A E most g (s+1) R' q'
    else .inr (R,q)
theorem w7_(A:List Arc)(E:List Tip)(most:Int): ∀(g s:Nat) (R:List (List Tip)) (q:Seq),allK A E most g s R q=w2_ A E most g s R q
  |0,_,_,_=>rfl
  | g + 1, s, R, q => by
    rw [allK,w2_,doK_eq]
    by_cases c:s<R.length
    · rw [if_pos c,if_pos c]
      cases doD A E most (nth R s []) R q with
      |inl e=>rfl
      |inr x=>exact w7_ A E most g (s+1) _ _
    rw [if_neg c,if_neg c]
def ofK(t:Fst)(most:Int):Int⊕(List (List Tip)×Seq):=
  if t.starts=[] then .inr ([],Seq.zero) else
  match u1_ t.starts with
  | .inl e=> .inl e
  | .inr (f,l)=>allK t.arcs t.ends most 1025 0 [l] ⟨f,[],[],[],[]⟩
theorem ofK_eq(t:Fst)(most:Int):ofK t most=ofT t most:=by
  unfold ofK ofT
  rw [sr_]
  by_cases c:t.starts=[]
  · rw [if_pos c,if_pos c]
  rw [if_neg c,if_neg c]
  cases hb_ t.starts with
  |inl e=>rfl
  |inr x=>exact w7_ ..
end Go.Proofs.YtchebnpdnfhenaaGreatDoor
end

noncomputable section
namespace Go.E
open Go
structure Grow where
  f:Fst
  over:Bool
end Go.E
end

noncomputable section
namespace Go.Proofs.YtchebnpdnfhenaaGreatDoor
open Go Go.E Go.E.OpVal Go.E.OpOk Go.Proofs.Tryz
open List (replicate)
theorem hq_:foOf Tryz.prog 129 0=some 0:=by kernel_rfl
theorem hm_:foOf Tryz.prog 129 1=some 4:=by kernel_rfl
def Du_(x0:Grow)(x1:Tip):Option (Grow):=
 ec_ x0.over (some (⟨(⟨x0.f.states,x0.f.starts,x0.f.ends,x0.f.arcs⟩:Fst),true⟩:Grow)) (ec_ (decide (1024≤((x0.f.starts.length:Nat):Int))) (some (⟨(⟨x0.f.states,x0.f.starts,x0.f.ends,x0.f.arcs⟩:Fst),true⟩:Grow)) (ec_ (decide (1024<((x1.out.length:Nat):Int))) (some (⟨(⟨x0.f.states,x0.f.starts,x0.f.ends,x0.f.arcs⟩:Fst),true⟩:Grow)) (grd ((x0.f.starts.length+[x1].length) * 24≤140737488355328) (some (⟨(⟨x0.f.states,(x0.f.starts++[x1]),x0.f.ends,x0.f.arcs⟩:Fst),x0.over⟩:Grow)))))
theorem Gx_{σ:d0_}{x0:Grow}{x1:Tip}{r:Grow}(hh:Du_ x0 x1=some r):
  Con prog 118 #[loc b0_0 0,.agg #[.int .i64 x1.state,.string (bs x1.out)]] σ [φ b0_0 #[.int .i64 x0.f.states,.slice a0_1 x0.f.starts.length c0_2,.slice a0_3 x0.f.ends.length c0_4,.slice a0_5 x0.f.arcs.length c0_6,.bool x0.over] Eb0,ε 76 2 d2_ (.slice a0_1 x0.f.starts.length c0_2) x0.f.starts,ε 76 2 d2_ (.slice a0_3 x0.f.ends.length c0_4) x0.f.ends,ε 66 8 d8_ (.slice a0_5 x0.f.arcs.length c0_6) x0.f.arcs] (fun v σ' H'=> ∃ao1 co2 ao3 co4 ao5 co6,v= .tuple #[]∧σ=σ'∧H'=[φ b0_0 #[.int .i64 r.f.states,.slice ao1 r.f.starts.length co2,.slice ao3 r.f.ends.length co4,.slice ao5 r.f.arcs.length co6,.bool r.over] Eb0,ε 76 2 d2_ (.slice ao1 r.f.starts.length co2) r.f.starts,ε 76 2 d2_ (.slice ao3 r.f.ends.length co4) r.f.ends,ε 66 8 d8_ (.slice ao5 r.f.arcs.length co6) r.f.arcs]):=by
 dsimp only [Du_]at hh
 refine Con.mk (n:=38) Tryz.func118 z z z (fun w0=> ?_)
 refine TC.bz_ (ξ (ζ z (boxA z z z z (fun b108=> ?_))))
 refine κ (ν (ξ (TL.l z z (ω z (ac_ z z) (ω z (aa_ z hm_ z) (ω z (ab_ z ag4 z (i:=1) z z) (TL.j z z (TL.split 8 z (fun h110=> ?_) (fun h110=> ?_)))))))))
 ·replace hh:=ej_ h110 hh
  refine χ z (χ z (χ z (χ z (χ z (χ z (χ z (ω z (ah_ z z z) (TL.j z z (χ z (χ z (χ z (χ z (ω z (ah_ z z z) (κ (TC.t z ?_)))))))))))))))
  refine ξ (TL.l z z (ω z (ac_ z z) (ω z (aa_ z hm_ z) (ψ 1 z z (ζ z (bi_ z sz4 z z z z z ?_))))))
  refine κ (TC.ax_ (δ [4,4,4,3] 4) (TC.ret (S.r ?_)))
  obtain rfl:=so hh
  refine ⟨_,δ [3,3,3,3] 4,?_⟩
  exact ro [φ b0_0 #[.int .i64 x0.f.states,.slice a0_1 x0.f.starts.length c0_2,.slice a0_3 x0.f.ends.length c0_4,.slice a0_5 x0.f.arcs.length c0_6,.bool true] Eb0,ε 76 2 d2_ (.slice a0_1 x0.f.starts.length c0_2) x0.f.starts,ε 76 2 d2_ (.slice a0_3 x0.f.ends.length c0_4) x0.f.ends,ε 66 8 d8_ (.slice a0_5 x0.f.arcs.length c0_6) x0.f.arcs] z RVs.nil ⟨a0_1,c0_2,a0_3,c0_4,a0_5,c0_6,z,z,z⟩
 replace hh:=ei_ h110 hh
 refine TL.g z (a0_ (.inl z) z) (TL.g z (ac_ z z) (TL.g z (aa_ z hq_ z) (TL.g z (aa_ z f2_ z) (TL.g z (ab_ z jv_ z (i:=1) z z) (TL.g z (lenC z ge_ z) (TL.g z (OpVal.geq z z z) (ω z (ag_ z z z) (TL.j z z (TL.split 17 z (fun h111=> ?_) (fun h111=> ?_))))))))))
 ·replace hh:=ej_ h111 hh
  replace h111:=dt_ h111
  refine χ z (χ z (χ z (χ z (ω z (ah_ z z z) (κ (TC.t z (ξ (TL.l z z (ω z (ac_ z z) (ω z (aa_ z hm_ z) (ψ 1 z z (ζ z (bi_ z sz4 z z z z z ?_)))))))))))))
  refine κ (TC.ax_ (δ [4,4,4,3] 4) (TC.ret (S.r ?_)))
  obtain rfl:=so hh
  refine ⟨_,δ [3,3,3,3] 4,?_⟩
  exact ro [φ b0_0 #[.int .i64 x0.f.states,.slice a0_1 x0.f.starts.length c0_2,.slice a0_3 x0.f.ends.length c0_4,.slice a0_5 x0.f.arcs.length c0_6,.bool true] Eb0,ε 76 2 d2_ (.slice a0_1 x0.f.starts.length c0_2) x0.f.starts,ε 76 2 d2_ (.slice a0_3 x0.f.ends.length c0_4) x0.f.ends,ε 66 8 d8_ (.slice a0_5 x0.f.arcs.length c0_6) x0.f.arcs] z RVs.nil ⟨a0_1,c0_2,a0_3,c0_4,a0_5,c0_6,z,z,z⟩
 replace hh:=ei_ h111 hh
 replace h111:=df_ h111
 refine TL.g z (aa_ z fh_ z) (TL.g z (ab_ z ag9 z (i:=0) z z) (TL.g z (a5_ z u9_ z) (TL.g z (OpVal.gtr z z z) (ω z (ag_ z z z) (κ (TC.cD z hh (fun h112 hh=> ?_) (fun h112 hh=> ?_)))))))
 ·refine ξ (TL.l z z (ω z (ac_ z z) (ω z (aa_ z hm_ z) (ψ 1 z z (ζ z (bi_ z sz4 z z z z z ?_))))))
  refine κ (TC.ax_ (δ [4,4,4,3] 4) (TC.ret (S.r ?_)))
  obtain rfl:=so hh
  refine ⟨_,δ [3,3,3,3] 4,?_⟩
  exact ro [φ b0_0 #[.int .i64 x0.f.states,.slice a0_1 x0.f.starts.length c0_2,.slice a0_3 x0.f.ends.length c0_4,.slice a0_5 x0.f.arcs.length c0_6,.bool true] Eb0,ε 76 2 d2_ (.slice a0_1 x0.f.starts.length c0_2) x0.f.starts,ε 76 2 d2_ (.slice a0_3 x0.f.ends.length c0_4) x0.f.ends,ε 66 8 d8_ (.slice a0_5 x0.f.arcs.length c0_6) x0.f.arcs] z RVs.nil ⟨a0_1,c0_2,a0_3,c0_4,a0_5,c0_6,z,z,z⟩
 refine ι (S.n ?_)
 obtain ⟨u33,hh⟩:=d6_ hh
 refine TC.draw [8,9,10,11,12] (by kernel_rfl) (Ψ 0 z (a0_ (.inl z) z) z (Ψ 1 z (a0_ (.inl z) z) z (Ψ 2 z (ac_ z z) z (Ψ 3 z (aa_ z hq_ z) z (Ψ 4 z (aa_ z f2_ z) z (TA.b 5 z (ab_ z jv_ z (i:=1) z z) z (TA.b 6 z (ak_ z ni_ fr_ z (i:=0) z z) z (TA.ac 7 z (OpOk.lit (enc:=d2_) [x1] z ge_ fr_ ik_ z z z d1_ (by decide) (by decide) tz_ z (by decide) z (by decide) fc_ (fun a118 c119=>(k1 ?_)))))))))))
 refine TA.front 3 z z (TA.last 8 (by kernel_rfl) z z z (av_ z z ge_ fr_ w4_ ik_ z z (by decide) z z z (.inr ⟨_,0,z⟩) (by simpa using u33) (by decide) (fun a121 c122=> ?_)))
 refine TZ.v 9 (by kernel_rfl) z z z (ac_ z z) z z (TZ.v 10 (by kernel_rfl) z z z (aa_ z hq_ z) z z (TZ.v 11 (by kernel_rfl) z z z (aa_ z f2_ z) z z (TZ.front 3 z z (TZ.last 12 (by kernel_rfl) z z z (ae_ z w3_ z z z z z ?_)))))
 refine TZ.done (by kernel_rfl) ?_
 obtain rfl:=so hh
 refine ⟨_,δ [5,5,3,3] 4,?_⟩
 exact RetOk.mk' (rs:=[]) [φ b0_0 #[.int .i64 x0.f.states,.slice a121 ((x0.f.starts++[x1]).length) c122,.slice a0_3 x0.f.ends.length c0_4,.slice a0_5 x0.f.arcs.length c0_6,.bool x0.over] Eb0,ε 76 2 d2_ (.slice a121 (x0.f.starts++[x1]).length c122) (x0.f.starts++[x1]),ε 76 2 d2_ (.slice a0_3 x0.f.ends.length c0_4) x0.f.ends,ε 66 8 d8_ (.slice a0_5 x0.f.arcs.length c0_6) x0.f.arcs] z (.inr z) RVs.nil (List.sublist_append_left _ _) ⟨a121,c122,a0_3,c0_4,a0_5,c0_6,z,z,z⟩
def Eh_(x0:Grow)(x1:Tip):Option (Grow):=
 ec_ x0.over (some (⟨(⟨x0.f.states,x0.f.starts,x0.f.ends,x0.f.arcs⟩:Fst),true⟩:Grow)) (ec_ (decide (1024≤((x0.f.ends.length:Nat):Int))) (some (⟨(⟨x0.f.states,x0.f.starts,x0.f.ends,x0.f.arcs⟩:Fst),true⟩:Grow)) (ec_ (decide (1024<((x1.out.length:Nat):Int))) (some (⟨(⟨x0.f.states,x0.f.starts,x0.f.ends,x0.f.arcs⟩:Fst),true⟩:Grow)) (grd ((x0.f.ends.length+[x1].length) * 24≤140737488355328) (some (⟨(⟨x0.f.states,x0.f.starts,(x0.f.ends++[x1]),x0.f.arcs⟩:Fst),x0.over⟩:Grow)))))
theorem He_{σ:d0_}{x0:Grow}{x1:Tip}{r:Grow}(hh:Eh_ x0 x1=some r):
  Con prog 119 #[loc b0_0 0,.agg #[.int .i64 x1.state,.string (bs x1.out)]] σ [φ b0_0 #[.int .i64 x0.f.states,.slice a0_1 x0.f.starts.length c0_2,.slice a0_3 x0.f.ends.length c0_4,.slice a0_5 x0.f.arcs.length c0_6,.bool x0.over] Eb0,ε 76 2 d2_ (.slice a0_1 x0.f.starts.length c0_2) x0.f.starts,ε 76 2 d2_ (.slice a0_3 x0.f.ends.length c0_4) x0.f.ends,ε 66 8 d8_ (.slice a0_5 x0.f.arcs.length c0_6) x0.f.arcs] (fun v σ' H'=> ∃ao1 co2 ao3 co4 ao5 co6,v= .tuple #[]∧σ=σ'∧H'=[φ b0_0 #[.int .i64 r.f.states,.slice ao1 r.f.starts.length co2,.slice ao3 r.f.ends.length co4,.slice ao5 r.f.arcs.length co6,.bool r.over] Eb0,ε 76 2 d2_ (.slice ao1 r.f.starts.length co2) r.f.starts,ε 76 2 d2_ (.slice ao3 r.f.ends.length co4) r.f.ends,ε 66 8 d8_ (.slice ao5 r.f.arcs.length co6) r.f.arcs]):=by
 dsimp only [Eh_]at hh
 refine Con.mk (n:=38) Tryz.func119 z z z (fun w0=> ?_)
 refine TC.bz_ (ξ (ζ z (boxA z z z z (fun b108=> ?_))))
 refine κ (ν (ξ (TL.l z z (ω z (ac_ z z) (ω z (aa_ z hm_ z) (ω z (ab_ z ag4 z (i:=1) z z) (TL.j z z (TL.split 8 z (fun h110=> ?_) (fun h110=> ?_)))))))))
 ·replace hh:=ej_ h110 hh
  refine χ z (χ z (χ z (χ z (χ z (χ z (χ z (ω z (ah_ z z z) (TL.j z z (χ z (χ z (χ z (χ z (ω z (ah_ z z z) (κ (TC.t z ?_)))))))))))))))
  refine ξ (TL.l z z (ω z (ac_ z z) (ω z (aa_ z hm_ z) (ψ 1 z z (ζ z (bi_ z sz4 z z z z z ?_))))))
  refine κ (TC.ax_ (δ [4,4,4,3] 4) (TC.ret (S.r ?_)))
  obtain rfl:=so hh
  refine ⟨_,δ [3,3,3,3] 4,?_⟩
  exact ro [φ b0_0 #[.int .i64 x0.f.states,.slice a0_1 x0.f.starts.length c0_2,.slice a0_3 x0.f.ends.length c0_4,.slice a0_5 x0.f.arcs.length c0_6,.bool true] Eb0,ε 76 2 d2_ (.slice a0_1 x0.f.starts.length c0_2) x0.f.starts,ε 76 2 d2_ (.slice a0_3 x0.f.ends.length c0_4) x0.f.ends,ε 66 8 d8_ (.slice a0_5 x0.f.arcs.length c0_6) x0.f.arcs] z RVs.nil ⟨a0_1,c0_2,a0_3,c0_4,a0_5,c0_6,z,z,z⟩
 replace hh:=ei_ h110 hh
 refine TL.g z (a0_ (.inl z) z) (TL.g z (ac_ z z) (TL.g z (aa_ z hq_ z) (TL.g z (aa_ z f6_ z) (TL.g z (ab_ z jv_ z (i:=1) z z) (TL.g z (lenC z ge_ z) (TL.g z (OpVal.geq z z z) (ω z (ag_ z z z) (TL.j z z (TL.split 17 z (fun h111=> ?_) (fun h111=> ?_))))))))))
 ·replace hh:=ej_ h111 hh
  replace h111:=dt_ h111
  refine χ z (χ z (χ z (χ z (ω z (ah_ z z z) (κ (TC.t z (ξ (TL.l z z (ω z (ac_ z z) (ω z (aa_ z hm_ z) (ψ 1 z z (ζ z (bi_ z sz4 z z z z z ?_)))))))))))))
  refine κ (TC.ax_ (δ [4,4,4,3] 4) (TC.ret (S.r ?_)))
  obtain rfl:=so hh
  refine ⟨_,δ [3,3,3,3] 4,?_⟩
  exact ro [φ b0_0 #[.int .i64 x0.f.states,.slice a0_1 x0.f.starts.length c0_2,.slice a0_3 x0.f.ends.length c0_4,.slice a0_5 x0.f.arcs.length c0_6,.bool true] Eb0,ε 76 2 d2_ (.slice a0_1 x0.f.starts.length c0_2) x0.f.starts,ε 76 2 d2_ (.slice a0_3 x0.f.ends.length c0_4) x0.f.ends,ε 66 8 d8_ (.slice a0_5 x0.f.arcs.length c0_6) x0.f.arcs] z RVs.nil ⟨a0_1,c0_2,a0_3,c0_4,a0_5,c0_6,z,z,z⟩
 replace hh:=ei_ h111 hh
 replace h111:=df_ h111
 refine TL.g z (aa_ z fh_ z) (TL.g z (ab_ z ag9 z (i:=0) z z) (TL.g z (a5_ z u9_ z) (TL.g z (OpVal.gtr z z z) (ω z (ag_ z z z) (κ (TC.cD z hh (fun h112 hh=> ?_) (fun h112 hh=> ?_)))))))
 ·refine ξ (TL.l z z (ω z (ac_ z z) (ω z (aa_ z hm_ z) (ψ 1 z z (ζ z (bi_ z sz4 z z z z z ?_))))))
  refine κ (TC.ax_ (δ [4,4,4,3] 4) (TC.ret (S.r ?_)))
  obtain rfl:=so hh
  refine ⟨_,δ [3,3,3,3] 4,?_⟩
  exact ro [φ b0_0 #[.int .i64 x0.f.states,.slice a0_1 x0.f.starts.length c0_2,.slice a0_3 x0.f.ends.length c0_4,.slice a0_5 x0.f.arcs.length c0_6,.bool true] Eb0,ε 76 2 d2_ (.slice a0_1 x0.f.starts.length c0_2) x0.f.starts,ε 76 2 d2_ (.slice a0_3 x0.f.ends.length c0_4) x0.f.ends,ε 66 8 d8_ (.slice a0_5 x0.f.arcs.length c0_6) x0.f.arcs] z RVs.nil ⟨a0_1,c0_2,a0_3,c0_4,a0_5,c0_6,z,z,z⟩
 refine ι (S.n ?_)
 obtain ⟨u33,hh⟩:=d6_ hh
 refine TC.draw [8,9,10,11,12] (by kernel_rfl) (Ψ 0 z (a0_ (.inl z) z) z (Ψ 1 z (a0_ (.inl z) z) z (Ψ 2 z (ac_ z z) z (Ψ 3 z (aa_ z hq_ z) z (Ψ 4 z (aa_ z f6_ z) z (TA.b 5 z (ab_ z jv_ z (i:=1) z z) z (TA.b 6 z (ak_ z ni_ fr_ z (i:=0) z z) z (TA.ac 7 z (OpOk.lit (enc:=d2_) [x1] z ge_ fr_ ik_ z z z d1_ (by decide) (by decide) tz_ z (by decide) z (by decide) fc_ (fun a118 c119=>(k1 ?_)))))))))))
 refine TA.front 4 z z (TA.last 8 (by kernel_rfl) z z z (av_ z z ge_ fr_ w4_ ik_ z z (by decide) z z z (.inr ⟨_,0,z⟩) (by simpa using u33) (by decide) (fun a121 c122=> ?_)))
 refine TZ.v 9 (by kernel_rfl) z z z (ac_ z z) z z (TZ.v 10 (by kernel_rfl) z z z (aa_ z hq_ z) z z (TZ.v 11 (by kernel_rfl) z z z (aa_ z f6_ z) z z (TZ.front 3 z z (TZ.last 12 (by kernel_rfl) z z z (ae_ z w3_ z z z z z ?_)))))
 refine TZ.done (by kernel_rfl) ?_
 obtain rfl:=so hh
 refine ⟨_,δ [5,2,5,3] 4,?_⟩
 exact RetOk.mk' (rs:=[]) [φ b0_0 #[.int .i64 x0.f.states,.slice a0_1 x0.f.starts.length c0_2,.slice a121 ((x0.f.ends++[x1]).length) c122,.slice a0_5 x0.f.arcs.length c0_6,.bool x0.over] Eb0,ε 76 2 d2_ (.slice a0_1 x0.f.starts.length c0_2) x0.f.starts,ε 76 2 d2_ (.slice a121 (x0.f.ends++[x1]).length c122) (x0.f.ends++[x1]),ε 66 8 d8_ (.slice a0_5 x0.f.arcs.length c0_6) x0.f.arcs] z (.inr z) RVs.nil (List.sublist_append_left _ _) ⟨a0_1,c0_2,a121,c122,a0_5,c0_6,z,z,z⟩
def Ee_(x0:Grow)(x1:Arc):Option (Grow):=
 ec_ x0.over (some (⟨(⟨x0.f.states,x0.f.starts,x0.f.ends,x0.f.arcs⟩:Fst),true⟩:Grow)) (ec_ (decide (16384≤((x0.f.arcs.length:Nat):Int))) (some (⟨(⟨x0.f.states,x0.f.starts,x0.f.ends,x0.f.arcs⟩:Fst),true⟩:Grow)) (ec_ (decide (1024<((x1.out.length:Nat):Int))) (some (⟨(⟨x0.f.states,x0.f.starts,x0.f.ends,x0.f.arcs⟩:Fst),true⟩:Grow)) (grd ((x0.f.arcs.length+[x1].length) * 72≤140737488355328) (some (⟨(⟨x0.f.states,x0.f.starts,x0.f.ends,(x0.f.arcs++[x1])⟩:Fst),x0.over⟩:Grow)))))
theorem Hd_{σ:d0_}{x0:Grow}{x1:Arc}{r:Grow}(hh:Ee_ x0 x1=some r):
  Con prog 120 #[loc b0_0 0,.agg #[.int .i64 x1.frm,.int .i64 x1.to,.int .u64 ((x1.set.a:Nat):Int),.int .u64 ((x1.set.b:Nat):Int),.int .u64 ((x1.set.c:Nat):Int),.int .u64 ((x1.set.d:Nat):Int),.string (bs x1.out),.bool x1.copy]] σ [φ b0_0 #[.int .i64 x0.f.states,.slice a0_1 x0.f.starts.length c0_2,.slice a0_3 x0.f.ends.length c0_4,.slice a0_5 x0.f.arcs.length c0_6,.bool x0.over] Eb0,ε 76 2 d2_ (.slice a0_1 x0.f.starts.length c0_2) x0.f.starts,ε 76 2 d2_ (.slice a0_3 x0.f.ends.length c0_4) x0.f.ends,ε 66 8 d8_ (.slice a0_5 x0.f.arcs.length c0_6) x0.f.arcs] (fun v σ' H'=> ∃ao1 co2 ao3 co4 ao5 co6,v= .tuple #[]∧σ=σ'∧H'=[φ b0_0 #[.int .i64 r.f.states,.slice ao1 r.f.starts.length co2,.slice ao3 r.f.ends.length co4,.slice ao5 r.f.arcs.length co6,.bool r.over] Eb0,ε 76 2 d2_ (.slice ao1 r.f.starts.length co2) r.f.starts,ε 76 2 d2_ (.slice ao3 r.f.ends.length co4) r.f.ends,ε 66 8 d8_ (.slice ao5 r.f.arcs.length co6) r.f.arcs]):=by
 dsimp only [Ee_]at hh
 refine Con.mk (n:=38) Tryz.func120 z z z (fun w0=> ?_)
 refine TC.bz_ (ξ (ζ z (boxA z z z z (fun b108=> ?_))))
 refine κ (ν (ξ (TL.l z z (ω z (ac_ z z) (ω z (aa_ z hm_ z) (ω z (ab_ z ag4 z (i:=1) z z) (TL.j z z (TL.split 8 z (fun h110=> ?_) (fun h110=> ?_)))))))))
 ·replace hh:=ej_ h110 hh
  refine χ z (χ z (χ z (χ z (χ z (χ z (χ z (ω z (ah_ z z z) (TL.j z z (χ z (χ z (χ z (χ z (ω z (ah_ z z z) (κ (TC.t z ?_)))))))))))))))
  refine ξ (TL.l z z (ω z (ac_ z z) (ω z (aa_ z hm_ z) (ψ 1 z z (ζ z (bi_ z sz4 z z z z z ?_))))))
  refine κ (TC.ax_ (δ [4,4,4,3] 4) (TC.ret (S.r ?_)))
  obtain rfl:=so hh
  refine ⟨_,δ [3,3,3,3] 4,?_⟩
  exact ro [φ b0_0 #[.int .i64 x0.f.states,.slice a0_1 x0.f.starts.length c0_2,.slice a0_3 x0.f.ends.length c0_4,.slice a0_5 x0.f.arcs.length c0_6,.bool true] Eb0,ε 76 2 d2_ (.slice a0_1 x0.f.starts.length c0_2) x0.f.starts,ε 76 2 d2_ (.slice a0_3 x0.f.ends.length c0_4) x0.f.ends,ε 66 8 d8_ (.slice a0_5 x0.f.arcs.length c0_6) x0.f.arcs] z RVs.nil ⟨a0_1,c0_2,a0_3,c0_4,a0_5,c0_6,z,z,z⟩
 replace hh:=ei_ h110 hh
 refine TL.g z (a0_ (.inl z) z) (TL.g z (ac_ z z) (TL.g z (aa_ z hq_ z) (TL.g z (aa_ z fk_ z) (TL.g z (ab_ z k0_ z (i:=1) z z) (TL.g z (lenC z h9_ z) (TL.g z (OpVal.geq z z z) (ω z (ag_ z z z) (TL.j z z (TL.split 17 z (fun h111=> ?_) (fun h111=> ?_))))))))))
 ·replace hh:=ej_ h111 hh
  replace h111:=dt_ h111
  refine χ z (χ z (χ z (χ z (ω z (ah_ z z z) (κ (TC.t z (ξ (TL.l z z (ω z (ac_ z z) (ω z (aa_ z hm_ z) (ψ 1 z z (ζ z (bi_ z sz4 z z z z z ?_)))))))))))))
  refine κ (TC.ax_ (δ [4,4,4,3] 4) (TC.ret (S.r ?_)))
  obtain rfl:=so hh
  refine ⟨_,δ [3,3,3,3] 4,?_⟩
  exact ro [φ b0_0 #[.int .i64 x0.f.states,.slice a0_1 x0.f.starts.length c0_2,.slice a0_3 x0.f.ends.length c0_4,.slice a0_5 x0.f.arcs.length c0_6,.bool true] Eb0,ε 76 2 d2_ (.slice a0_1 x0.f.starts.length c0_2) x0.f.starts,ε 76 2 d2_ (.slice a0_3 x0.f.ends.length c0_4) x0.f.ends,ε 66 8 d8_ (.slice a0_5 x0.f.arcs.length c0_6) x0.f.arcs] z RVs.nil ⟨a0_1,c0_2,a0_3,c0_4,a0_5,c0_6,z,z,z⟩
 replace hh:=ei_ h111 hh
 replace h111:=df_ h111
 refine TL.g z (aa_ z it_ z) (TL.g z (ab_ z ag9 z (i:=0) z z) (TL.g z (a5_ z u9_ z) (TL.g z (OpVal.gtr z z z) (ω z (ag_ z z z) (κ (TC.cD z hh (fun h112 hh=> ?_) (fun h112 hh=> ?_)))))))
 ·refine ξ (TL.l z z (ω z (ac_ z z) (ω z (aa_ z hm_ z) (ψ 1 z z (ζ z (bi_ z sz4 z z z z z ?_))))))
  refine κ (TC.ax_ (δ [4,4,4,3] 4) (TC.ret (S.r ?_)))
  obtain rfl:=so hh
  refine ⟨_,δ [3,3,3,3] 4,?_⟩
  exact ro [φ b0_0 #[.int .i64 x0.f.states,.slice a0_1 x0.f.starts.length c0_2,.slice a0_3 x0.f.ends.length c0_4,.slice a0_5 x0.f.arcs.length c0_6,.bool true] Eb0,ε 76 2 d2_ (.slice a0_1 x0.f.starts.length c0_2) x0.f.starts,ε 76 2 d2_ (.slice a0_3 x0.f.ends.length c0_4) x0.f.ends,ε 66 8 d8_ (.slice a0_5 x0.f.arcs.length c0_6) x0.f.arcs] z RVs.nil ⟨a0_1,c0_2,a0_3,c0_4,a0_5,c0_6,z,z,z⟩
 refine ι (S.n ?_)
 obtain ⟨u33,hh⟩:=d6_ hh
 refine TC.draw [8,9,10,11,12] (by kernel_rfl) (Ψ 0 z (a0_ (.inl z) z) z (Ψ 1 z (a0_ (.inl z) z) z (Ψ 2 z (ac_ z z) z (Ψ 3 z (aa_ z hq_ z) z (Ψ 4 z (aa_ z fk_ z) z (TA.b 5 z (ab_ z k0_ z (i:=1) z z) z (TA.b 6 z (ak_ z r7_ g5_ z (i:=0) z z) z (TA.ac 7 z (OpOk.lit (enc:=d8_) [x1] z h9_ g5_ ki_ z z z ee_ (by decide) (by decide) az_ z (by decide) z (by decide) f5_ (fun a118 c119=>(k1 ?_)))))))))))
 refine TA.front 5 z z (TA.last 8 (by kernel_rfl) z z z (av_ z z h9_ g5_ z8_ ki_ z z (by decide) z z z (.inr ⟨_,0,z⟩) (by simpa using u33) (by decide) (fun a121 c122=> ?_)))
 refine TZ.v 9 (by kernel_rfl) z z z (ac_ z z) z z (TZ.v 10 (by kernel_rfl) z z z (aa_ z hq_ z) z z (TZ.v 11 (by kernel_rfl) z z z (aa_ z fk_ z) z z (TZ.front 3 z z (TZ.last 12 (by kernel_rfl) z z z (ae_ z u4_ z z z z z ?_)))))
 refine TZ.done (by kernel_rfl) ?_
 obtain rfl:=so hh
 refine ⟨_,δ [1,5,5,3] 4,?_⟩
 exact RetOk.mk' (rs:=[]) [φ b0_0 #[.int .i64 x0.f.states,.slice a0_1 x0.f.starts.length c0_2,.slice a0_3 x0.f.ends.length c0_4,.slice a121 ((x0.f.arcs++[x1]).length) c122,.bool x0.over] Eb0,ε 76 2 d2_ (.slice a0_1 x0.f.starts.length c0_2) x0.f.starts,ε 76 2 d2_ (.slice a0_3 x0.f.ends.length c0_4) x0.f.ends,ε 66 8 d8_ (.slice a121 (x0.f.arcs++[x1]).length c122) (x0.f.arcs++[x1])] z (.inr z) RVs.nil (List.sublist_append_left _ _) ⟨a0_1,c0_2,a0_3,c0_4,a121,c122,z,z,z⟩
def D2_(x0:Grow):Option (Fst×Int):=
 ec_ x0.over (some ((⟨0,([]:List Tip),([]:List Tip),([]:List Arc)⟩:Fst),2)) (ec_ (decide (1024<x0.f.states)) (some ((⟨0,([]:List Tip),([]:List Tip),([]:List Arc)⟩:Fst),2)) (some ((⟨x0.f.states,x0.f.starts,x0.f.ends,x0.f.arcs⟩:Fst),0)))
theorem G7_{σ:d0_}{x0:Grow}{x2g:Int}{r:Fst×Int}(hh:D2_ x0=some r):
  w5_ prog 78 #[loc b0_0 0,loc b1_0 0,loc b2_0 0] σ [φ b0_0 #[.int .i64 x0.f.states,.slice a0_1 x0.f.starts.length c0_2,.slice a0_3 x0.f.ends.length c0_4,.slice a0_5 x0.f.arcs.length c0_6,.bool x0.over] Eb0,ε 76 2 d2_ (.slice a0_1 x0.f.starts.length c0_2) x0.f.starts,ε 76 2 d2_ (.slice a0_3 x0.f.ends.length c0_4) x0.f.ends,ε 66 8 d8_ (.slice a0_5 x0.f.arcs.length c0_6) x0.f.arcs,φ b1_0 #[.int .i64 0,nl_,nl_,nl_] Eb1,φ b2_0 #[.int .i64 x2g] Eb2] (fun v σ' H'=> ∃ao1 co2 ao4 co5 ao7 co8,v= .tuple #[]∧RS σ' 2 d2_ (.slice ao1 r.1.starts.length co2) r.1.starts∧RS σ' 2 d2_ (.slice ao4 r.1.ends.length co5) r.1.ends∧RS σ' 8 d8_ (.slice ao7 r.1.arcs.length co8) r.1.arcs∧H'=[φ b1_0 (au_ r.1 ao1 co2 ao4 co5 ao7 co8) Eb1,φ b2_0 #[.int .i64 r.2] Eb2]):=by
 dsimp only [D2_]at hh
 refine w5_.mk (n:=31) Tryz.func78 z z z (fun w0=> ?_)
 refine TC.bz_ (ν (ξ (TL.l z z (ω z (ac_ z z) (ω z (aa_ z hm_ z) (ω z (ab_ z ag4 z (i:=0) z z) (TL.j z z (TL.split 10 z (fun h110=> ?_) (fun h110=> ?_)))))))))
 ·replace hh:=ej_ h110 hh
  refine χ z (χ z (χ z (χ z (χ z (χ z (ω z (ah_ z z z) (κ (TC.t z (ξ (TL.l z z (TL.l z z (ω z (an_ z tx_ m2_ z) (ω z (ac_ z z) (ψ 4 z z (ζ z (storeAll z hi_ z z z z z z ?_))))))))))))))))
  refine ω z (ac_ z z) (ψ 5 z z (ζ z (bj_ z sz33 z z z z z ?_)))
  refine κ (TC.ax_ (δ [1] 2) (TC.ret (S.r ?_)))
  obtain rfl:=so hh
  refine ⟨_,δ [1,1] 2,?_⟩
  exact ro [φ b1_0 #[.int .i64 0,nl_,nl_,nl_] Eb1,φ b2_0 #[.int .i64 2] Eb2] z RVs.nil ⟨none,0,none,0,none,0,z,(RS.nilF _ d2_ d1_),(RS.nilF _ d2_ d1_),(RS.nilF _ d8_ ee_),z⟩
 replace hh:=ei_ h110 hh
 refine TL.g z (a0_ (.inl z) z) (TL.g z (ac_ z z) (TL.g z (aa_ z hq_ z) (TL.g z (aa_ z fa_ z) (TL.g z (ab_ z ag3 z (i:=0) z z) (TL.g z (OpVal.gtr z z z) (ω z (ag_ z z z) (κ (TC.cD z hh (fun h111 hh=> ?_) (fun h111 hh=> ?_)))))))))
 ·refine ξ (TL.l z z (TL.l z z (ω z (an_ z tx_ m2_ z) (ω z (ac_ z z) (ψ 4 z z (ζ z (storeAll z hi_ z z z z z z ?_)))))))
  refine ω z (ac_ z z) (ψ 5 z z (ζ z (bj_ z sz33 z z z z z ?_)))
  refine κ (TC.ax_ (δ [1] 2) (TC.ret (S.r ?_)))
  obtain rfl:=so hh
  refine ⟨_,δ [1,1] 2,?_⟩
  exact ro [φ b1_0 #[.int .i64 0,nl_,nl_,nl_] Eb1,φ b2_0 #[.int .i64 2] Eb2] z RVs.nil ⟨none,0,none,0,none,0,z,(RS.nilF _ d2_ d1_),(RS.nilF _ d2_ d1_),(RS.nilF _ d8_ ee_),z⟩
 refine ι (S.n (π (TL.l z z (TL.l z z (TL.l z z (ω z (ac_ z z) (ω z (aa_ z hq_ z) (ω z (bb_ z jc_ hi_ z (i:=0) z z z) (ω z (ac_ z z) (ψ 4 z z (ζ z (storeAll z hi_ z z z z z z ?_))))))))))))
 refine ω z (ac_ z z) (ψ 5 z z (ζ z (bj_ z sz33 z z z z z ?_)))
 refine ψ 3 z z (TL.a3_ d1_ (fun τ114 hle113 hr112=> ?_))
 have hr112b:=hr112.rv.big
 refine ψ 3 z z (TL.a3_ d1_ (fun τ117 hle116 hr115=> ?_))
 replace hr112:=hr112.mono hle116
 have hr115b:=hr115.rv.big
 refine ψ 3 z z (TL.a3_ ee_ (fun τ120 hle119 hr118=> ?_))
 replace hr112:=hr112.mono hle119
 replace hr115:=hr115.mono hle119
 have hr118b:=hr118.rv.big
 refine TL.nil ?_
 obtain rfl:=so hh
 refine ⟨_,δ [1] 2,?_⟩
 exact RetOk.mk' (rs:=[]) [φ b1_0 (au_ x0.f a0_1 c0_2 a0_3 c0_4 a0_5 c0_6) Eb1,φ b2_0 #[.int .i64 0] Eb2] z (.inr z) RVs.nil (List.sublist_append_left _ _) ⟨a0_1,c0_2,a0_3,c0_4,a0_5,c0_6,z,hr112,hr115,hr118,z⟩
theorem pf118:plainF Tryz.prog 118=true:=by kernel_rfl
theorem pf119:plainF Tryz.prog 119=true:=by kernel_rfl
theorem pf120:plainF Tryz.prog 120=true:=by kernel_rfl
theorem pf77:plainF Tryz.prog 77=true:=by kernel_rfl
theorem pf78:plainF Tryz.prog 78=true:=by kernel_rfl
theorem pf79:plainF Tryz.prog 79=true:=by kernel_rfl
theorem pf80:plainF Tryz.prog 80=true:=by kernel_rfl
theorem pf81:plainF Tryz.prog 81=true:=by kernel_rfl
theorem pl129:plOf Tryz.prog 129=some #[(0,4),(4,1)]:=by kernel_rfl
theorem ze129:zeroOf Tryz.prog 129=some (.agg #[.int .i64 0,nl_,nl_,nl_,.bool false]):=by kernel_rfl
def Al_(x1:List Tip)(x2:Int)(i138:Int)(l140:List Tip)(l144:List Tip)(l148:List Arc)(t151:Bool)(k152:Nat):Option ((Int×(List Tip)×(List Tip)×(List Arc)×Bool×Nat)⊕(Grow)):=
 ec_ (decide ((k152:Int)<((x1.length:Nat):Int))) (bnd (Du_ (⟨(⟨i138,l140,l144,l148⟩:Fst),t151⟩:Grow) (⟨IntKind.i64.wrap (((nth x1 k152 tz_).state)+x2),(nth x1 k152 tz_).out⟩:Tip)) (fun v17=>nxt (v17.f.states,v17.f.starts,v17.f.ends,v17.f.arcs,v17.over,(k152+1)))) (fin (some (⟨(⟨i138,l140,l144,l148⟩:Fst),t151⟩:Grow)))
def Cm_(x0:Grow)(x1:List Tip)(x2:Int):Option (Grow):=
 eq_ (fun q:Int×(List Tip)×(List Tip)×(List Arc)×Bool×Nat=>Al_ x1 x2 q.1 q.2.1 q.2.2.1 q.2.2.2.1 q.2.2.2.2.1 q.2.2.2.2.2) (x0.f.states,x0.f.starts,x0.f.ends,x0.f.arcs,x0.over,0)
theorem Fi_{σ:d0_}{x0:Grow}{x1:List Tip}{x2:Int}(f1_0:RS σ 2 d2_ (.slice a1_0 x1.length c1_0) x1){r:Grow}(hh:Cm_ x0 x1 x2=some r):
  Con prog 79 #[loc b0_0 0,.slice a1_0 x1.length c1_0,.int .i64 x2] σ [φ b0_0 #[.int .i64 x0.f.states,.slice a0_1 x0.f.starts.length c0_2,.slice a0_3 x0.f.ends.length c0_4,.slice a0_5 x0.f.arcs.length c0_6,.bool x0.over] Eb0,ε 76 2 d2_ (.slice a0_1 x0.f.starts.length c0_2) x0.f.starts,ε 76 2 d2_ (.slice a0_3 x0.f.ends.length c0_4) x0.f.ends,ε 66 8 d8_ (.slice a0_5 x0.f.arcs.length c0_6) x0.f.arcs] (fun v σ' H'=> ∃ao1 co2 ao3 co4 ao5 co6,v= .tuple #[]∧σ=σ'∧H'=[φ b0_0 #[.int .i64 r.f.states,.slice ao1 r.f.starts.length co2,.slice ao3 r.f.ends.length co4,.slice ao5 r.f.arcs.length co6,.bool r.over] Eb0,ε 76 2 d2_ (.slice ao1 r.f.starts.length co2) r.f.starts,ε 76 2 d2_ (.slice ao3 r.f.ends.length co4) r.f.ends,ε 66 8 d8_ (.slice ao5 r.f.arcs.length co6) r.f.arcs]):=by
 dsimp only [Cm_]at hh
 have f1_0b:=f1_0.rv.big
 refine Con.mk (n:=24) Tryz.func79 z z z (fun w0=> ?_)
 refine ξ (TL.s z z (ω z (lenC z ge_ z) (θ z z (κ (υ (TC.ao_ (α:=(Int×(List Tip)×(List Tip)×(List Arc)×Bool×Nat)×((Option Addr)×Nat×(Option Addr)×Nat×(Option Addr)×Nat)) (rgs [(7,1),(10,14)]) (fun g=>[(10,.int .i64 ((g.1.2.2.2.2.2:Nat):Int))]) (fun g=>[φ b0_0 #[.int .i64 g.1.1,.slice g.2.1 g.1.2.1.length g.2.2.1,.slice g.2.2.2.1 g.1.2.2.1.length g.2.2.2.2.1,.slice g.2.2.2.2.2.1 g.1.2.2.2.1.length g.2.2.2.2.2.2,.bool g.1.2.2.2.2.1] Eb0,ε 76 2 d2_ (.slice g.2.1 g.1.2.1.length g.2.2.1) g.1.2.1,ε 76 2 d2_ (.slice g.2.2.2.1 g.1.2.2.1.length g.2.2.2.2.1) g.1.2.2.1,ε 66 8 d8_ (.slice g.2.2.2.2.2.1 g.1.2.2.2.1.length g.2.2.2.2.2.2) g.1.2.2.2.1]) (fun g=>σ) (fun g=>eq_ (fun q:Int×(List Tip)×(List Tip)×(List Arc)×Bool×Nat=>Al_ x1 x2 q.1 q.2.1 q.2.2.1 q.2.2.2.1 q.2.2.2.2.1 q.2.2.2.2.2) g.1=some r) (fun g=>eh_ (fun q:Int×(List Tip)×(List Tip)×(List Arc)×Bool×Nat=>Al_ x1 x2 q.1 q.2.1 q.2.2.1 q.2.2.2.1 q.2.2.2.2.1 q.2.2.2.2.2) g.1) ((x0.f.states,x0.f.starts,x0.f.ends,x0.f.arcs,x0.over,0),(a0_1,c0_2,a0_3,c0_4,a0_5,c0_6)) (δ [3,3,3,3] 4) z (by repeat (first|exact trivial|refine ⟨z,?_⟩)) hh (fun g1 j1 hg1=> ?_)))))))
 obtain ⟨⟨i138,l140,l144,l148,t151,k152⟩,⟨a141,c142,a145,c146,a149,c150⟩⟩:=g1
 have hh:=hg1;clear hg1
 try dsimp only
 obtain ⟨z1,hh,hR1⟩:=eo_ hh
 dsimp only [Al_]at hh
 refine η (i:=1) z (fun _ hb153 _=> ?_)
 refine η (i:=2) z (fun _ hb154 _=> ?_)
 refine η (i:=3) z (fun _ hb155 _=> ?_)
 refine ξ (ω z (OpVal.lss z z z) (κ (ν (TC.cD z hh (fun h156 hh=> ?_) (fun h156 hh=> ?_)))))
 ·refine ι (S.n (ν (υ (ξ (ω z (af_ z ge_ fr_ z z f1_0.rv.sl (by omega)) (ω z (a7_ tz_ z ni_ fr_ z f1_0 (by omega) (by omega)) (ζ z (OpOk.alloc z ik_ z z (fun b157=> ?_)))))))))
  refine ζ z (storeAll z fr_ z z z z z z ?_)
  refine κ (π (TL.l z z (ω z (aa_ z gj_ z) (ω z (ab_ z ag3 z (i:=0) z z) (θ z z (ω z (addW z z z) (ω z (aa_ z fh_ z) (ω z (ab_ z ag9 z (i:=0) z z) (ω z (an_ z wl_ ik_ z) (ψ 4 z z (ψ 4 z z (ψ 4 z z (ψ 4 z z ?_)))))))))))))
  obtain ⟨v17,u17,hh⟩:=eb_ hh
  refine ζ z (OpOk.call (Gx_ u17) z z pf118 z z z z ?_)
  rintro _ _ _ hle159 ⟨a159_1,c159_2,a159_3,c159_4,a159_5,c159_6,rfl,rfl,rfl⟩
  refine TL.nil (B.n (S.n (π (ω z (OpVal.succ z z z (by omega)) (θ z z (κ ?_))))))
  obtain ⟨hh,hlt163⟩:=ey_ hR1 hh
  exact lf ((v17.f.states,v17.f.starts,v17.f.ends,v17.f.arcs,v17.over,(k152+1)),(a159_1,c159_2,a159_3,c159_4,a159_5,c159_6)) hlt163 hh (δ [3,3,3,3] 4)
 refine TC.exit (S.x (S.x ?_))
 replace hh:=el_ hR1 hh
 refine Δ ?_
 obtain rfl:=so hh
 exact RetOk.mk' (rs:=[]) [φ b0_0 #[.int .i64 i138,.slice a141 l140.length c142,.slice a145 l144.length c146,.slice a149 l148.length c150,.bool t151] Eb0,ε 76 2 d2_ (.slice a141 l140.length c142) l140,ε 76 2 d2_ (.slice a145 l144.length c146) l144,ε 66 8 d8_ (.slice a149 l148.length c150) l148] z (.inr z) RVs.nil (List.sublist_append_left _ _) ⟨a141,c142,a145,c146,a149,c150,z,z,z⟩
def As_(x1:List Tip)(x2:Int)(i138:Int)(l140:List Tip)(l144:List Tip)(l148:List Arc)(t151:Bool)(k152:Nat):Option ((Int×(List Tip)×(List Tip)×(List Arc)×Bool×Nat)⊕(Grow)):=
 ec_ (decide ((k152:Int)<((x1.length:Nat):Int))) (bnd (Eh_ (⟨(⟨i138,l140,l144,l148⟩:Fst),t151⟩:Grow) (⟨IntKind.i64.wrap (((nth x1 k152 tz_).state)+x2),(nth x1 k152 tz_).out⟩:Tip)) (fun v17=>nxt (v17.f.states,v17.f.starts,v17.f.ends,v17.f.arcs,v17.over,(k152+1)))) (fin (some (⟨(⟨i138,l140,l144,l148⟩:Fst),t151⟩:Grow)))
def C9_(x0:Grow)(x1:List Tip)(x2:Int):Option (Grow):=
 eq_ (fun q:Int×(List Tip)×(List Tip)×(List Arc)×Bool×Nat=>As_ x1 x2 q.1 q.2.1 q.2.2.1 q.2.2.2.1 q.2.2.2.2.1 q.2.2.2.2.2) (x0.f.states,x0.f.starts,x0.f.ends,x0.f.arcs,x0.over,0)
theorem F0_{σ:d0_}{x0:Grow}{x1:List Tip}{x2:Int}(f1_0:RS σ 2 d2_ (.slice a1_0 x1.length c1_0) x1){r:Grow}(hh:C9_ x0 x1 x2=some r):
  Con prog 80 #[loc b0_0 0,.slice a1_0 x1.length c1_0,.int .i64 x2] σ [φ b0_0 #[.int .i64 x0.f.states,.slice a0_1 x0.f.starts.length c0_2,.slice a0_3 x0.f.ends.length c0_4,.slice a0_5 x0.f.arcs.length c0_6,.bool x0.over] Eb0,ε 76 2 d2_ (.slice a0_1 x0.f.starts.length c0_2) x0.f.starts,ε 76 2 d2_ (.slice a0_3 x0.f.ends.length c0_4) x0.f.ends,ε 66 8 d8_ (.slice a0_5 x0.f.arcs.length c0_6) x0.f.arcs] (fun v σ' H'=> ∃ao1 co2 ao3 co4 ao5 co6,v= .tuple #[]∧σ=σ'∧H'=[φ b0_0 #[.int .i64 r.f.states,.slice ao1 r.f.starts.length co2,.slice ao3 r.f.ends.length co4,.slice ao5 r.f.arcs.length co6,.bool r.over] Eb0,ε 76 2 d2_ (.slice ao1 r.f.starts.length co2) r.f.starts,ε 76 2 d2_ (.slice ao3 r.f.ends.length co4) r.f.ends,ε 66 8 d8_ (.slice ao5 r.f.arcs.length co6) r.f.arcs]):=by
 dsimp only [C9_]at hh
 have f1_0b:=f1_0.rv.big
 refine Con.mk (n:=24) Tryz.func80 z z z (fun w0=> ?_)
 refine ξ (TL.s z z (ω z (lenC z ge_ z) (θ z z (κ (υ (TC.ao_ (α:=(Int×(List Tip)×(List Tip)×(List Arc)×Bool×Nat)×((Option Addr)×Nat×(Option Addr)×Nat×(Option Addr)×Nat)) (rgs [(7,1),(10,14)]) (fun g=>[(10,.int .i64 ((g.1.2.2.2.2.2:Nat):Int))]) (fun g=>[φ b0_0 #[.int .i64 g.1.1,.slice g.2.1 g.1.2.1.length g.2.2.1,.slice g.2.2.2.1 g.1.2.2.1.length g.2.2.2.2.1,.slice g.2.2.2.2.2.1 g.1.2.2.2.1.length g.2.2.2.2.2.2,.bool g.1.2.2.2.2.1] Eb0,ε 76 2 d2_ (.slice g.2.1 g.1.2.1.length g.2.2.1) g.1.2.1,ε 76 2 d2_ (.slice g.2.2.2.1 g.1.2.2.1.length g.2.2.2.2.1) g.1.2.2.1,ε 66 8 d8_ (.slice g.2.2.2.2.2.1 g.1.2.2.2.1.length g.2.2.2.2.2.2) g.1.2.2.2.1]) (fun g=>σ) (fun g=>eq_ (fun q:Int×(List Tip)×(List Tip)×(List Arc)×Bool×Nat=>As_ x1 x2 q.1 q.2.1 q.2.2.1 q.2.2.2.1 q.2.2.2.2.1 q.2.2.2.2.2) g.1=some r) (fun g=>eh_ (fun q:Int×(List Tip)×(List Tip)×(List Arc)×Bool×Nat=>As_ x1 x2 q.1 q.2.1 q.2.2.1 q.2.2.2.1 q.2.2.2.2.1 q.2.2.2.2.2) g.1) ((x0.f.states,x0.f.starts,x0.f.ends,x0.f.arcs,x0.over,0),(a0_1,c0_2,a0_3,c0_4,a0_5,c0_6)) (δ [3,3,3,3] 4) z (by repeat (first|exact trivial|refine ⟨z,?_⟩)) hh (fun g1 j1 hg1=> ?_)))))))
 obtain ⟨⟨i138,l140,l144,l148,t151,k152⟩,⟨a141,c142,a145,c146,a149,c150⟩⟩:=g1
 have hh:=hg1;clear hg1
 try dsimp only
 obtain ⟨z1,hh,hR1⟩:=eo_ hh
 dsimp only [As_]at hh
 refine η (i:=1) z (fun _ hb153 _=> ?_)
 refine η (i:=2) z (fun _ hb154 _=> ?_)
 refine η (i:=3) z (fun _ hb155 _=> ?_)
 refine ξ (ω z (OpVal.lss z z z) (κ (ν (TC.cD z hh (fun h156 hh=> ?_) (fun h156 hh=> ?_)))))
 ·refine ι (S.n (ν (υ (ξ (ω z (af_ z ge_ fr_ z z f1_0.rv.sl (by omega)) (ω z (a7_ tz_ z ni_ fr_ z f1_0 (by omega) (by omega)) (ζ z (OpOk.alloc z ik_ z z (fun b157=> ?_)))))))))
  refine ζ z (storeAll z fr_ z z z z z z ?_)
  refine κ (π (TL.l z z (ω z (aa_ z gj_ z) (ω z (ab_ z ag3 z (i:=0) z z) (θ z z (ω z (addW z z z) (ω z (aa_ z fh_ z) (ω z (ab_ z ag9 z (i:=0) z z) (ω z (an_ z wl_ ik_ z) (ψ 4 z z (ψ 4 z z (ψ 4 z z (ψ 4 z z ?_)))))))))))))
  obtain ⟨v17,u17,hh⟩:=eb_ hh
  refine ζ z (OpOk.call (He_ u17) z z pf119 z z z z ?_)
  rintro _ _ _ hle159 ⟨a159_1,c159_2,a159_3,c159_4,a159_5,c159_6,rfl,rfl,rfl⟩
  refine TL.nil (B.n (S.n (π (ω z (OpVal.succ z z z (by omega)) (θ z z (κ ?_))))))
  obtain ⟨hh,hlt163⟩:=ey_ hR1 hh
  exact lf ((v17.f.states,v17.f.starts,v17.f.ends,v17.f.arcs,v17.over,(k152+1)),(a159_1,c159_2,a159_3,c159_4,a159_5,c159_6)) hlt163 hh (δ [3,3,3,3] 4)
 refine TC.exit (S.x (S.x ?_))
 replace hh:=el_ hR1 hh
 refine Δ ?_
 obtain rfl:=so hh
 exact RetOk.mk' (rs:=[]) [φ b0_0 #[.int .i64 i138,.slice a141 l140.length c142,.slice a145 l144.length c146,.slice a149 l148.length c150,.bool t151] Eb0,ε 76 2 d2_ (.slice a141 l140.length c142) l140,ε 76 2 d2_ (.slice a145 l144.length c146) l144,ε 66 8 d8_ (.slice a149 l148.length c150) l148] z (.inr z) RVs.nil (List.sublist_append_left _ _) ⟨a141,c142,a145,c146,a149,c150,z,z,z⟩
def At_(x1:List Arc)(x2:Int)(i138:Int)(l140:List Tip)(l144:List Tip)(l148:List Arc)(t151:Bool)(k152:Nat):Option ((Int×(List Tip)×(List Tip)×(List Arc)×Bool×Nat)⊕(Grow)):=
 ec_ (decide ((k152:Int)<((x1.length:Nat):Int))) (bnd (Ee_ (⟨(⟨i138,l140,l144,l148⟩:Fst),t151⟩:Grow) (⟨IntKind.i64.wrap (((nth x1 k152 az_).frm)+x2),IntKind.i64.wrap (((nth x1 k152 az_).to)+x2),(nth x1 k152 az_).set,(nth x1 k152 az_).out,(nth x1 k152 az_).copy⟩:Arc)) (fun v25=>nxt (v25.f.states,v25.f.starts,v25.f.ends,v25.f.arcs,v25.over,(k152+1)))) (fin (some (⟨(⟨i138,l140,l144,l148⟩:Fst),t151⟩:Grow)))
def Db_(x0:Grow)(x1:List Arc)(x2:Int):Option (Grow):=
 eq_ (fun q:Int×(List Tip)×(List Tip)×(List Arc)×Bool×Nat=>At_ x1 x2 q.1 q.2.1 q.2.2.1 q.2.2.2.1 q.2.2.2.2.1 q.2.2.2.2.2) (x0.f.states,x0.f.starts,x0.f.ends,x0.f.arcs,x0.over,0)
theorem F1_{σ:d0_}{x0:Grow}{x1:List Arc}{x2:Int}(f1_0:RS σ 8 d8_ (.slice a1_0 x1.length c1_0) x1){r:Grow}(hh:Db_ x0 x1 x2=some r):
  Con prog 81 #[loc b0_0 0,.slice a1_0 x1.length c1_0,.int .i64 x2] σ [φ b0_0 #[.int .i64 x0.f.states,.slice a0_1 x0.f.starts.length c0_2,.slice a0_3 x0.f.ends.length c0_4,.slice a0_5 x0.f.arcs.length c0_6,.bool x0.over] Eb0,ε 76 2 d2_ (.slice a0_1 x0.f.starts.length c0_2) x0.f.starts,ε 76 2 d2_ (.slice a0_3 x0.f.ends.length c0_4) x0.f.ends,ε 66 8 d8_ (.slice a0_5 x0.f.arcs.length c0_6) x0.f.arcs] (fun v σ' H'=> ∃ao1 co2 ao3 co4 ao5 co6,v= .tuple #[]∧σ=σ'∧H'=[φ b0_0 #[.int .i64 r.f.states,.slice ao1 r.f.starts.length co2,.slice ao3 r.f.ends.length co4,.slice ao5 r.f.arcs.length co6,.bool r.over] Eb0,ε 76 2 d2_ (.slice ao1 r.f.starts.length co2) r.f.starts,ε 76 2 d2_ (.slice ao3 r.f.ends.length co4) r.f.ends,ε 66 8 d8_ (.slice ao5 r.f.arcs.length co6) r.f.arcs]):=by
 dsimp only [Db_]at hh
 have f1_0b:=f1_0.rv.big
 refine Con.mk (n:=32) Tryz.func81 z z z (fun w0=> ?_)
 refine ξ (TL.s z z (ω z (lenC z h9_ z) (θ z z (κ (υ (TC.ao_ (α:=(Int×(List Tip)×(List Tip)×(List Arc)×Bool×Nat)×((Option Addr)×Nat×(Option Addr)×Nat×(Option Addr)×Nat)) (rgs [(7,1),(10,22)]) (fun g=>[(10,.int .i64 ((g.1.2.2.2.2.2:Nat):Int))]) (fun g=>[φ b0_0 #[.int .i64 g.1.1,.slice g.2.1 g.1.2.1.length g.2.2.1,.slice g.2.2.2.1 g.1.2.2.1.length g.2.2.2.2.1,.slice g.2.2.2.2.2.1 g.1.2.2.2.1.length g.2.2.2.2.2.2,.bool g.1.2.2.2.2.1] Eb0,ε 76 2 d2_ (.slice g.2.1 g.1.2.1.length g.2.2.1) g.1.2.1,ε 76 2 d2_ (.slice g.2.2.2.1 g.1.2.2.1.length g.2.2.2.2.1) g.1.2.2.1,ε 66 8 d8_ (.slice g.2.2.2.2.2.1 g.1.2.2.2.1.length g.2.2.2.2.2.2) g.1.2.2.2.1]) (fun g=>σ) (fun g=>eq_ (fun q:Int×(List Tip)×(List Tip)×(List Arc)×Bool×Nat=>At_ x1 x2 q.1 q.2.1 q.2.2.1 q.2.2.2.1 q.2.2.2.2.1 q.2.2.2.2.2) g.1=some r) (fun g=>eh_ (fun q:Int×(List Tip)×(List Tip)×(List Arc)×Bool×Nat=>At_ x1 x2 q.1 q.2.1 q.2.2.1 q.2.2.2.1 q.2.2.2.2.1 q.2.2.2.2.2) g.1) ((x0.f.states,x0.f.starts,x0.f.ends,x0.f.arcs,x0.over,0),(a0_1,c0_2,a0_3,c0_4,a0_5,c0_6)) (δ [3,3,3,3] 4) z (by repeat (first|exact trivial|refine ⟨z,?_⟩)) hh (fun g1 j1 hg1=> ?_)))))))
 obtain ⟨⟨i138,l140,l144,l148,t151,k152⟩,⟨a141,c142,a145,c146,a149,c150⟩⟩:=g1
 have hh:=hg1;clear hg1
 try dsimp only
 obtain ⟨z1,hh,hR1⟩:=eo_ hh
 dsimp only [At_]at hh
 refine η (i:=1) z (fun _ hb153 _=> ?_)
 refine η (i:=2) z (fun _ hb154 _=> ?_)
 refine η (i:=3) z (fun _ hb155 _=> ?_)
 refine ξ (ω z (OpVal.lss z z z) (κ (ν (TC.cD z hh (fun h156 hh=> ?_) (fun h156 hh=> ?_)))))
 ·refine ι (S.n (ν (υ (ξ (ω z (af_ z h9_ g5_ z z f1_0.rv.sl (by omega)) (ω z (a7_ az_ z r7_ g5_ z f1_0 (by omega) (by omega)) (ζ z (OpOk.alloc z ki_ z z (fun b157=> ?_)))))))))
  refine ζ z (storeAll z g5_ z z z z z z ?_)
  refine κ (π (TL.l z z (ω z (aa_ z ip_ z) (ω z (ab_ z ag3 z (i:=0) z z) (θ z z (ω z (addW z z z) (ω z (aa_ z i3_ z) (ω z (ab_ z ag3 z (i:=0) z z) (θ z z (ω z (addW z z z) (ω z (aa_ z jp_ z) (ω z (bb_ z ag64 sz64 z (i:=0) z z z) (ω z (aa_ z it_ z) (ω z (ab_ z ag9 z (i:=0) z z) (ω z (aa_ z m1_ z) ?_)))))))))))))))
  refine ω z (ab_ z ag4 z (i:=0) z z) (ω z (an_ z pl66 ki_ z) (ψ 4 z z (ψ 4 z z (ψ 4 z z (ψ 4 z z ?_)))))
  obtain ⟨v25,u25,hh⟩:=eb_ hh
  refine ζ z (OpOk.call (Hd_ u25) z z pf120 z z z z ?_)
  rintro _ _ _ hle159 ⟨a159_1,c159_2,a159_3,c159_4,a159_5,c159_6,rfl,rfl,rfl⟩
  refine TL.nil (B.n (S.n (π (ω z (OpVal.succ z z z (by omega)) (θ z z (κ ?_))))))
  obtain ⟨hh,hlt163⟩:=ey_ hR1 hh
  exact lf ((v25.f.states,v25.f.starts,v25.f.ends,v25.f.arcs,v25.over,(k152+1)),(a159_1,c159_2,a159_3,c159_4,a159_5,c159_6)) hlt163 hh (δ [3,3,3,3] 4)
 refine TC.exit (S.x (S.x ?_))
 replace hh:=el_ hR1 hh
 refine Δ ?_
 obtain rfl:=so hh
 exact RetOk.mk' (rs:=[]) [φ b0_0 #[.int .i64 i138,.slice a141 l140.length c142,.slice a145 l144.length c146,.slice a149 l148.length c150,.bool t151] Eb0,ε 76 2 d2_ (.slice a141 l140.length c142) l140,ε 76 2 d2_ (.slice a145 l144.length c146) l144,ε 66 8 d8_ (.slice a149 l148.length c150) l148] z (.inr z) RVs.nil (List.sublist_append_left _ _) ⟨a141,c142,a145,c146,a149,c150,z,z,z⟩
def F6_(x0:Fst)(x1:Fst):Option (Bool):=
 bnd (B8_ x0) (fun v5=>ec_ (decide (v5=0)) (bnd (B8_ x1) (fun v9=>some (decide (v9=0)))) (some false))
theorem Ia_{σ:d0_}{x0:Fst}{x1:Fst}(f0_0:RS σ 2 d2_ (.slice a0_0 x0.starts.length c0_0) x0.starts)(f0_1:RS σ 2 d2_ (.slice a0_1 x0.ends.length c0_1) x0.ends)(f0_2:RS σ 8 d8_ (.slice a0_2 x0.arcs.length c0_2) x0.arcs)(f1_0:RS σ 2 d2_ (.slice a1_0 x1.starts.length c1_0) x1.starts)(f1_1:RS σ 2 d2_ (.slice a1_1 x1.ends.length c1_1) x1.ends)(f1_2:RS σ 8 d8_ (.slice a1_2 x1.arcs.length c1_2) x1.arcs){r:Bool}(hh:F6_ x0 x1=some r):
  Con prog 77 #[.agg (au_ x0 a0_0 c0_0 a0_1 c0_1 a0_2 c0_2),.agg (au_ x1 a1_0 c1_0 a1_1 c1_1 a1_2 c1_2)] σ [] (fd_ (.bool r) σ):=by
 dsimp only [F6_]at hh
 have f0_0b:=f0_0.rv.big
 have f0_1b:=f0_1.rv.big
 have f0_2b:=f0_2.rv.big
 have f1_0b:=f1_0.rv.big
 have f1_1b:=f1_1.rv.big
 have f1_2b:=f1_2.rv.big
 refine Con.mk (n:=13) Tryz.func77 z z z (fun w0=> ?_)
 refine ξ (ζ z (boxA z z z z (fun b101=> ?_)))
 refine ζ z (boxA z z z z (fun b103=> ?_))
 refine TL.j z z (κ (ξ (ω z (ak_ z jc_ hi_ z (i:=1) z z) ?_)))
 obtain ⟨v5,u5,hh⟩:=eb_ hh
 refine ζ z (aw_ (C7_ (x0:=x0) f0_0 f0_1 f0_2 u5) z z z7_ z z z ?_)
 refine ω z (OpVal.eql z z z) (TL.j z z (TL.split 8 z (fun h105=> ?_) (fun h105=> ?_)))
 ·replace hh:=ej_ h105 hh
  replace h105:=dt_ h105
  refine TL.g z (ak_ z jc_ hi_ z (i:=0) z z) ?_
  obtain ⟨v9,u9,hh⟩:=eb_ hh
  refine TL.gon z z z z z (aw_ (C7_ (x0:=x1) f1_0 f1_1 f1_2 u9) z z z7_ z z z ?_)
  refine TL.g z (OpVal.eql z z z) (ω z (ah_ z z z) (TL.j z z (κ (TC.rt 0 ?_))))
  obtain rfl:=so hh
  exact rq [4] ⟨z,z,z⟩
 replace hh:=ei_ h105 hh
 replace h105:=df_ h105
 refine χ z (χ z (χ z (ω z (ag_ z z z) (TL.j z z (κ (TC.rt 0 ?_))))))
 obtain rfl:=so hh
 exact rq [4] ⟨z,z,z⟩
def F5_(x0:Fst)(x1:Fst):Option (Fst×Int):=
 bnd (F6_ x0 x1) (fun v7=>ec_ (!v7) (some ((⟨0,([]:List Tip),([]:List Tip),([]:List Arc)⟩:Fst),1)) (bnd (Cm_ (⟨(⟨IntKind.i64.wrap (x0.states+x1.states),([]:List Tip),([]:List Tip),([]:List Arc)⟩:Fst),false⟩:Grow) x0.starts 0) (fun v30=>bnd (Cm_ (⟨(⟨v30.f.states,v30.f.starts,v30.f.ends,v30.f.arcs⟩:Fst),v30.over⟩:Grow) x1.starts x0.states) (fun v36=>bnd (C9_ (⟨(⟨v36.f.states,v36.f.starts,v36.f.ends,v36.f.arcs⟩:Fst),v36.over⟩:Grow) x0.ends 0) (fun v40=>bnd (C9_ (⟨(⟨v40.f.states,v40.f.starts,v40.f.ends,v40.f.arcs⟩:Fst),v40.over⟩:Grow) x1.ends x0.states) (fun v46=>bnd (Db_ (⟨(⟨v46.f.states,v46.f.starts,v46.f.ends,v46.f.arcs⟩:Fst),v46.over⟩:Grow) x0.arcs 0) (fun v50=>bnd (Db_ (⟨(⟨v50.f.states,v50.f.starts,v50.f.ends,v50.f.arcs⟩:Fst),v50.over⟩:Grow) x1.arcs x0.states) (fun v56=>bnd (D2_ (⟨(⟨v56.f.states,v56.f.starts,v56.f.ends,v56.f.arcs⟩:Fst),v56.over⟩:Grow)) (fun v57=>some ((⟨v57.1.states,v57.1.starts,v57.1.ends,v57.1.arcs⟩:Fst),v57.2))))))))))
def Ip_(σ:d0_)(r:Fst×Int):Value→d0_→List Res→Prop:=fun v σ' H'=>
 ∃a1 c1 a2 c2 a3 c3,v= .tuple #[.agg (au_ r.1 a1 c1 a2 c2 a3 c3),.int .i64 r.2]∧RS σ' 2 d2_ (.slice a1 r.1.starts.length c1) r.1.starts∧RS σ' 2 d2_ (.slice a2 r.1.ends.length c2) r.1.ends∧RS σ' 8 d8_ (.slice a3 r.1.arcs.length c3) r.1.arcs∧H'=[]
theorem Id_{σ:d0_}{x0:Fst}{x1:Fst}(f0_0:RS σ 2 d2_ (.slice a0_0 x0.starts.length c0_0) x0.starts)(f0_1:RS σ 2 d2_ (.slice a0_1 x0.ends.length c0_1) x0.ends)(f0_2:RS σ 8 d8_ (.slice a0_2 x0.arcs.length c0_2) x0.arcs)(f1_0:RS σ 2 d2_ (.slice a1_0 x1.starts.length c1_0) x1.starts)(f1_1:RS σ 2 d2_ (.slice a1_1 x1.ends.length c1_1) x1.ends)(f1_2:RS σ 8 d8_ (.slice a1_2 x1.arcs.length c1_2) x1.arcs){r:Fst×Int}(hh:F5_ x0 x1=some r):
  Con prog 40 #[.agg (au_ x0 a0_0 c0_0 a0_1 c0_1 a0_2 c0_2),.agg (au_ x1 a1_0 c1_0 a1_1 c1_1 a1_2 c1_2)] σ [] (Ip_ σ r):=by
 dsimp only [F5_]at hh
 have f0_0b:=f0_0.rv.big
 have f0_1b:=f0_1.rv.big
 have f0_2b:=f0_2.rv.big
 have f1_0b:=f1_0.rv.big
 have f1_1b:=f1_1.rv.big
 have f1_2b:=f1_2.rv.big
 refine Con.mkD (n:=54) Tryz.func40 z z z (fun w0=> ?_)
 refine TB.seq lp_ (π (ζ z (boxA z z z z (fun b101=> ?_))))
 refine ζ z (boxA z z z z (fun b103=> ?_))
 refine ζ z (OpOk.alloc z m2_ z z (fun b105=> ?_))
 refine ζ z (OpOk.alloc z ze33 z z (fun b107=> ?_))
 refine κ (TB.seq lp_ (ξ (ω z (ak_ z jc_ hi_ z (i:=3) z z) (ω z (ak_ z jc_ hi_ z (i:=2) z z) ?_))))
 obtain ⟨v7,u7,hh⟩:=eb_ hh
 refine ζ z (aw_ (Ia_ (x0:=x0) (x1:=x1) f0_0 f0_1 f0_2 f1_0 f1_1 f1_2 u7) z z pf77 z z z ?_)
 refine ω z (OpVal.not z z) (κ (TC.cB z hh (fun h109 hh=> ?_) (fun h109 hh=> ?_)))
 ·refine ξ (ω z (an_ z tx_ m2_ z) (ψ 1 z z (ζ z (storeAll z hi_ z z z z z z ?_))))
  refine ψ 1 z z (ζ z (bj_ z sz33 z z z z z ?_))
  refine κ (TC.ax_ (δ [1] 2) (TC.ret (S.r ?_)))
  obtain rfl:=so hh
  exact ro [] z (RVs.agg jc_ hi_ z (i:=0) z z (RVs.one ag33 z (i:=1) z z RVs.nil)) ⟨none,0,none,0,none,0,z,(RS.nilF _ d2_ d1_),(RS.nilF _ d2_ d1_),(RS.nilF _ d8_ ee_),z⟩
 refine ι (S.n (TB.seq lp_ (π (ω z (an_ z pl129 ze129 z) (ζ z (boxA z z z z (fun b110=> ?_)))))))
 refine TL.l z z (κ (TB.seqD (TLB.v z (a0_ (.inl z) z) z z (TLB.dfr (dargs:=[loc b110 0,loc b105 0,loc b107 0]) z z z z z (fun a_ w_ hw_ ha_=> ?_)))))
 refine TB.fin (Q:=dfrQ _ _ _ _ 78 [loc b110 0,loc b105 0,loc b107 0]) (us_ (cap:=[]) (dargs:=[loc b110 0,loc b105 0,loc b107 0]) pf78) ?_ w_ a_ hw_ ha_
 clear hw_ ha_ a_ w_
 refine ξ (TL.l z z (ω z (aa_ z fa_ z) (ω z (ab_ z ag3 z (i:=4) z z) (ω z (aa_ z fa_ z) (ω z (ab_ z ag3 z (i:=3) z z) (ω z (addW z z z) (ω z (ac_ z z) (ω z (aa_ z hq_ z) (ω z (aa_ z fa_ z) (ζ z (bj_ z sz3 z z z z z ?_)))))))))))
 refine κ (ξ (TL.l z z (ω z (aa_ z f2_ z) (ω z (ab_ z jv_ z (i:=4) z z) (TL.nilS 76 2 d2_ (TL.nilS 76 2 d2_ (TL.nilS 66 8 d8_ (ψ 1 z z (ψ 2 z z (ψ 3 z z ?_))))))))))
 obtain ⟨v30,u30,hh⟩:=eb_ hh
 refine ζ z (OpOk.call (Fi_ f0_0 u30) z z pf79 z z z z ?_)
 rintro _ _ _ hle115 ⟨a115_1,c115_2,a115_3,c115_4,a115_5,c115_6,rfl,rfl,rfl⟩
 refine κ (ξ (TL.l z z (ω z (aa_ z f2_ z) (ω z (ab_ z jv_ z (i:=6) z z) (ω z (aa_ z fa_ z) (ω z (ab_ z ag3 z (i:=7) z z) (ψ 3 z z (ψ 3 z z (ψ 3 z z (ψ 3 z z ?_))))))))))
 obtain ⟨v36,u36,hh⟩:=eb_ hh
 refine ζ z (OpOk.call (Fi_ f1_0 u36) z z pf79 z z z z ?_)
 rintro _ _ _ hle119 ⟨a119_1,c119_2,a119_3,c119_4,a119_5,c119_6,rfl,rfl,rfl⟩
 refine κ (ξ (TL.l z z (ω z (aa_ z f6_ z) (ω z (ab_ z jv_ z (i:=7) z z) (ψ 3 z z (ψ 3 z z (ψ 3 z z (ψ 3 z z ?_))))))))
 obtain ⟨v40,u40,hh⟩:=eb_ hh
 refine ζ z (OpOk.call (F0_ f0_1 u40) z z pf80 z z z z ?_)
 rintro _ _ _ hle123 ⟨a123_1,c123_2,a123_3,c123_4,a123_5,c123_6,rfl,rfl,rfl⟩
 refine κ (ξ (TL.l z z (ω z (aa_ z f6_ z) (ω z (ab_ z jv_ z (i:=6) z z) (ω z (aa_ z fa_ z) (ω z (ab_ z ag3 z (i:=7) z z) (ψ 3 z z (ψ 3 z z (ψ 3 z z (ψ 3 z z ?_))))))))))
 obtain ⟨v46,u46,hh⟩:=eb_ hh
 refine ζ z (OpOk.call (F0_ f1_1 u46) z z pf80 z z z z ?_)
 rintro _ _ _ hle127 ⟨a127_1,c127_2,a127_3,c127_4,a127_5,c127_6,rfl,rfl,rfl⟩
 refine κ (ξ (TL.l z z (ω z (aa_ z fk_ z) (ω z (ab_ z k0_ z (i:=7) z z) (ψ 3 z z (ψ 3 z z (ψ 3 z z (ψ 3 z z ?_))))))))
 obtain ⟨v50,u50,hh⟩:=eb_ hh
 refine ζ z (OpOk.call (F1_ f0_2 u50) z z pf81 z z z z ?_)
 rintro _ _ _ hle131 ⟨a131_1,c131_2,a131_3,c131_4,a131_5,c131_6,rfl,rfl,rfl⟩
 refine κ (ξ (TL.l z z (ω z (aa_ z fk_ z) (ω z (ab_ z k0_ z (i:=6) z z) (ω z (aa_ z fa_ z) (ω z (ab_ z ag3 z (i:=7) z z) (ψ 3 z z (ψ 3 z z (ψ 3 z z (ψ 3 z z ?_))))))))))
 obtain ⟨v56,u56,hh⟩:=eb_ hh
 refine ζ z (OpOk.call (F1_ f1_2 u56) z z pf81 z z z z ?_)
 rintro _ _ _ hle135 ⟨a135_1,c135_2,a135_3,c135_4,a135_5,c135_6,rfl,rfl,rfl⟩
 refine κ (TC.front 4 z z (TC.front 5 z z (TC.front 5 z z (TC.front 5 z z (TC.front 5 z z (TC.front 5 z z ?_))))))
 obtain ⟨v57,u57,hh⟩:=eb_ hh
 refine TC.ret (⟨.inl z,_,Sub.pre 6 z,(G7_ u57).mono ?_⟩)
 rintro _ τ139 _ hle139 ⟨a139_1,c139_2,a139_4,c139_5,a139_7,c139_8,rfl,f139_3,f139_6,f139_9,rfl⟩
 have f139_3b:=f139_3.rv.big
 have f139_6b:=f139_6.rv.big
 have f139_9b:=f139_9.rv.big
 obtain rfl:=so hh
 exact RetOk.mk' (rs:=[.cell 4 25,.cell 5 33]) [] z (.inl z) (RVs.agg jc_ hi_ z (i:=0) z z (RVs.one ag33 z (i:=1) z z RVs.nil)) (List.nil_sublist _) ⟨a139_1,c139_2,a139_4,c139_5,a139_7,c139_8,z,f139_3,f139_6,f139_9,z⟩
end Go.Proofs.YtchebnpdnfhenaaGreatDoor
end

noncomputable section
namespace Go.E
open Go
structure FPr where
  p:Int
  q:Int
  deriving DecidableEq
def fz_:FPr:=⟨0,0⟩
structure SPr where
  a:List UInt8
  b:List UInt8
  deriving DecidableEq
def SPr.zero:SPr:=⟨[],[]⟩
structure Visit where
  at':FPr
  lag:SPr
  deriving DecidableEq
def Visit.zero:Visit:=⟨fz_,SPr.zero⟩
structure FBox where
  what:Visit
  frm:Int
  by':UInt8
  deriving DecidableEq
def FBox.zero:FBox:=⟨Visit.zero,0,0⟩
structure Hop where
  live:Bool
  last:Bool
  x:Int
  y:Int
  by':UInt8
  deriving DecidableEq
def Hop.zero:Hop:=⟨false,false,0,0,0⟩
structure FBack where
  frm:Int
  x:Int
  y:Int
  deriving DecidableEq
def FBack.zero:FBack:=⟨0,0,0⟩
structure Search where
  t:Fst
  arcs:List (List Int)
  ends:List (List (List UInt8))
  hops:List Hop
  row:List FBox
  place:List Int
  text:List UInt8
  found:Bool
end Go.E
end

noncomputable section
namespace Go.Proofs.YtchebnpdnfhenaaGreatDoor
open Go Go.E Go.E.OpVal Go.E.OpOk Go.Proofs.Tryz
open List (replicate)
theorem pf14:plainF Tryz.prog 14=true:=by kernel_rfl
theorem pf19:plainF Tryz.prog 19=true:=by kernel_rfl
theorem pf29:plainF Tryz.prog 29=true:=by kernel_rfl
def An_:Option (Bool):=
 grd ([(97:UInt8)].length≤1000000000000) (grd ([(98:UInt8)].length≤1000000000000) (grd ([(99:UInt8)].length≤1000000000000) (bnd (E8_ (⟨3,[(⟨0,([]:T_1)⟩:Tip)],[(⟨2,([122]:T_1)⟩:Tip)],[(⟨0,1,(BSet.ofL [(97:UInt8)]),([]:T_1),false⟩:Arc),(⟨1,2,(BSet.ofL [(98:UInt8)]),([120]:T_1),false⟩:Arc),(⟨1,2,(BSet.ofL [(99:UInt8)]),([120,121]:T_1),false⟩:Arc)]⟩:Fst) 9) (fun v20=>bnd (B3_ v20.1) (fun v28=>bnd (Ez_ v28.1 ([97,99]:T_1)) (fun v36=>ec_ (decide (v20.2=0)) (ec_ (decide (v28.2=v20.2)) (ec_ (decide (v28.1.front=([120]:T_1))) (ec_ (decide (((v28.1.next.length:Nat):Int)=3)) (ec_ (decide (v36.1=([120,121,122]:T_1))) (ec_ v36.2.2.1 (some (decide (v36.2.2.2=v20.2))) (some false)) (some false)) (some false)) (some false)) (some false)) (some false)))))))
theorem Bg_{σ:d0_}(hgl:GT2 σ 1 2){r:Bool}(hh:An_=some r):
  Con prog 30 #[] σ [] (fd_ (.bool r) σ):=by
 dsimp only [An_]at hh
 refine Con.mk (n:=72) Tryz.func30 z z z (fun w0=> ?_)
 refine ξ (TL.j z z (κ (ξ (ω z (an_ z wl_ ik_ z) (ζ z (OpOk.lit (enc:=d2_) [(⟨0,([]:T_1)⟩:Tip)] z ge_ fr_ ik_ z z z d1_ (by decide) (by decide) tz_ z (by decide) z (by decide) fc_ (fun a101 c102=> ?_)))))))
 refine ω z (an_ z wl_ ik_ z) (ζ z (OpOk.lit (enc:=d2_) [(⟨2,([122]:T_1)⟩:Tip)] z ge_ fr_ ik_ z z z d1_ (by decide) (by decide) tz_ z (by decide) z (by decide) fc_ (fun a104 c105=> ?_)))
 refine ζ z (OpOk.lit (enc:=e5_) [(97:UInt8)] z th_ sz5 ze5 z z z gr_ (by decide) (by decide) (0:UInt8) z (by decide) z (by decide) gt_ (fun a107 c108=> ?_))
 obtain ⟨u7,hh⟩:=d6_ hh
 refine ζ z (b5_ (u3_ _ _ _ [(97:UInt8)] u7) z z pf51 z z z z ?_)
 refine ω z (an_ z pl66 ki_ z) (ζ z (OpOk.lit (enc:=e5_) [(98:UInt8)] z th_ sz5 ze5 z z z gr_ (by decide) (by decide) (0:UInt8) z (by decide) z (by decide) gt_ (fun a110 c111=> ?_)))
 obtain ⟨u10,hh⟩:=d6_ hh
 refine ζ z (b5_ (u3_ _ _ _ [(98:UInt8)] u10) z z pf51 z z z z ?_)
 refine ω z (an_ z pl66 ki_ z) (ζ z (OpOk.lit (enc:=e5_) [(99:UInt8)] z th_ sz5 ze5 z z z gr_ (by decide) (by decide) (0:UInt8) z (by decide) z (by decide) gt_ (fun a113 c114=> ?_)))
 obtain ⟨u13,hh⟩:=d6_ hh
 refine ζ z (b5_ (u3_ _ _ _ [(99:UInt8)] u13) z z pf51 z z z z ?_)
 refine ω z (an_ z pl66 ki_ z) (ζ z (OpOk.lit (enc:=d8_) [(⟨0,1,(BSet.ofL [(97:UInt8)]),([]:T_1),false⟩:Arc),(⟨1,2,(BSet.ofL [(98:UInt8)]),([120]:T_1),false⟩:Arc),(⟨1,2,(BSet.ofL [(99:UInt8)]),([120,121]:T_1),false⟩:Arc)] z h9_ g5_ ki_ z z z ee_ (by decide) (by decide) az_ z (by decide) z (by decide) f5_ (fun a116 c117=> ?_)))
 refine ω z (an_ z tx_ m2_ z) (ζ z (OpOk.alloc z m2_ z z (fun b119=> ?_)))
 refine ζ z (storeAll z hi_ z z z z z z ?_)
 refine κ (ξ (ω z (ak_ z jc_ hi_ z (i:=0) z z) (ψ 3 z z (TL.a3_ d1_ (fun τ123 hle122 hr121=> ?_)))))
 replace hgl:=hgl.mono hle122
 have hr121b:=hr121.rv.big
 refine ψ 2 z z (TL.a3_ d1_ (fun τ126 hle125 hr124=> ?_))
 replace hgl:=hgl.mono hle125
 replace hr121:=hr121.mono hle125
 have hr124b:=hr124.rv.big
 refine ψ 1 z z (TL.a3_ ee_ (fun τ129 hle128 hr127=> ?_))
 replace hgl:=hgl.mono hle128
 replace hr121:=hr121.mono hle128
 replace hr124:=hr124.mono hle128
 have hr127b:=hr127.rv.big
 obtain ⟨v20,u20,hh⟩:=eb_ hh
 refine ζ z (OpOk.call (F3_ (x0:=(⟨3,[(⟨0,([]:T_1)⟩:Tip)],[(⟨2,([122]:T_1)⟩:Tip)],[(⟨0,1,(BSet.ofL [(97:UInt8)]),([]:T_1),false⟩:Arc),(⟨1,2,(BSet.ofL [(98:UInt8)]),([120]:T_1),false⟩:Arc),(⟨1,2,(BSet.ofL [(99:UInt8)]),([120,121]:T_1),false⟩:Arc)]⟩:Fst)) hgl hr121 hr124 hr127 u20) z z pf14 z z z z ?_)
 rintro _ τ130 _ hle130 ⟨a130_1,c130_1,a130_2,c130_2,a130_3,c130_3,a130_4,c130_4,rfl,hr130_0,hr130_1,hr130_2,hr130_3,rfl⟩
 replace hgl:=hgl.mono hle130
 have hr130_0b:=hr130_0.big
 have hr130_1b:=hr130_1.big
 have hr130_2b:=hr130_2.rv.big
 have hr130_3b:=hr130_3.rv.big
 refine ω z (a8_ (.inl z) z) (ω z (OpVal.extract z z z) (ω z (OpVal.extract z z z) (ζ z (OpOk.alloc z ju_ z z (fun b131=> ?_)))))
 refine ζ z (storeAll z fs_ z z z z z z ?_)
 refine θ z z (κ (ξ (ω z (ak_ z h1_ fs_ z (i:=0) z z) ?_)))
 obtain ⟨v28,u28,hh⟩:=eb_ hh
 refine ζ z (OpOk.call (Fe_ (x0:=v20.1) hgl hr130_0 hr130_1 hr130_2 hr130_3 u28) z z pf29 z z z z ?_)
 rintro _ τ133 _ hle133 ⟨a133_1,c133_1,a133_2,c133_2,a133_3,c133_3,a133_4,c133_4,rfl,hr133_0,hr133_1,hr133_2,hr133_3,rfl⟩
 have hr133_0b:=hr133_0.big
 have hr133_1b:=hr133_1.big
 have hr133_2b:=hr133_2.rv.big
 have hr133_3b:=hr133_3.rv.big
 refine ω z (a8_ (.inl z) z) (ω z (OpVal.extract z z z) (ω z (OpVal.extract z z z) (ζ z (OpOk.alloc z ju_ z z (fun b134=> ?_)))))
 refine ζ z (storeAll z fs_ z z z z z z ?_)
 refine θ z z (κ (ξ (ω z (ak_ z h1_ fs_ z (i:=0) z z) ?_)))
 obtain ⟨v36,u36,hh⟩:=eb_ hh
 refine ζ z (aw_ (Hy_ (x0:=v28.1) hr133_0 hr133_1 hr133_2 hr133_3 u36) z z pf19 z z z ?_)
 refine ω z (a8_ (.inl z) z) (ω z (OpVal.extract z z z) (ω z (OpVal.extract z z z) (ω z (OpVal.extract z z z) (ω z (OpVal.extract z z z) (ω z (ad_ (.inr z) z) (θ z z (TL.j z z (θ z z (κ (ξ (θ z z (ω z (OpVal.eql z z z) (TL.j z z (TL.split 44 z (fun h136=> ?_) (fun h136=> ?_)))))))))))))))
 ·replace hh:=ej_ h136 hh
  replace h136:=dt_ h136
  refine TL.g z (ai_ (.inl z) z) (TL.g z (ai_ (.inl z) z) (TL.g z (OpVal.eql z z z) (ω z (ah_ z z z) (TL.j z z (TL.split 49 z (fun h137=> ?_) (fun h137=> ?_))))))
  ·replace hh:=ej_ h137 hh
   replace h137:=dt_ h137
   refine TL.g z (aa_ z ib_ z) (TL.g z (ab_ z ag9 z (i:=0) z z) (TL.g z (dm_ z z z) (ω z (ah_ z z z) (TL.j z z (TL.split 54 z (fun h138=> ?_) (fun h138=> ?_))))))
   ·replace hh:=ej_ h138 hh
    replace h138:=dt_ h138
    refine TL.g z (aa_ z e8_ z) (TL.g z (ab_ z i0_ z (i:=0) z z) (TL.g z (lenC z fn_ z) (TL.g z (OpVal.eql z z z) (ω z (ah_ z z z) (TL.j z z (TL.split 60 z (fun h139=> ?_) (fun h139=> ?_)))))))
    ·replace hh:=ej_ h139 hh
     replace h139:=dt_ h139
     refine TL.g z (ad_ (.inl z) z) (TL.g z (dm_ z z z) (ω z (ah_ z z z) (TL.j z z (TL.split 64 z (fun h140=> ?_) (fun h140=> ?_)))))
     ·replace hh:=ej_ h140 hh
      replace h140:=dt_ h140
      refine TL.g z (moveB (.inl z) z) (ω z (ah_ z z z) (TL.j z z (TL.split 67 z (fun h141=> ?_) (fun h141=> ?_))))
      ·replace hh:=ej_ h141 hh
       refine TL.g z (ai_ (.inl z) z) (TL.g z (ai_ (.inl z) z) (TL.g z (OpVal.eql z z z) (ω z (ah_ z z z) (TL.j z z (κ (TC.ax_ (Sub.pre 0 z) (TC.back (TC.ret ?_))))))))
       obtain rfl:=so hh
       exact rq [0] ⟨z,z,z⟩
      replace hh:=ei_ h141 hh
      refine χ z (χ z (χ z (ω z (ag_ z z z) (TL.j z z (κ (TC.ax_ (Sub.pre 0 z) (TC.back (TC.ret ?_))))))))
      obtain rfl:=so hh
      exact rq [0] ⟨z,z,z⟩
     replace hh:=ei_ h140 hh
     replace h140:=df_ h140
     refine χ z (ω z (ag_ z z z) (TL.j z z (χ z (χ z (χ z (ω z (ag_ z z z) (TL.j z z (κ (TC.ax_ (Sub.pre 0 z) (TC.back (TC.ret ?_)))))))))))
     obtain rfl:=so hh
     exact rq [0] ⟨z,z,z⟩
    replace hh:=ei_ h139 hh
    replace h139:=df_ h139
    refine χ z (χ z (ω z (ag_ z z z) (TL.j z z (χ z (ω z (ag_ z z z) (TL.j z z (χ z (χ z (χ z (ω z (ag_ z z z) (TL.j z z (κ (TC.ax_ (Sub.pre 0 z) (TC.back (TC.ret ?_)))))))))))))))
    obtain rfl:=so hh
    exact rq [0] ⟨z,z,z⟩
   replace hh:=ei_ h138 hh
   replace h138:=df_ h138
   refine χ z (χ z (χ z (χ z (ω z (ag_ z z z) (TL.j z z (χ z (χ z (ω z (ag_ z z z) (TL.j z z (χ z (ω z (ag_ z z z) (TL.j z z (χ z (χ z (χ z ?_)))))))))))))))
   refine ω z (ag_ z z z) (TL.j z z (κ (TC.ax_ (Sub.pre 0 z) (TC.back (TC.ret ?_)))))
   obtain rfl:=so hh
   exact rq [0] ⟨z,z,z⟩
  replace hh:=ei_ h137 hh
  replace h137:=df_ h137
  refine χ z (χ z (χ z (ω z (ag_ z z z) (TL.j z z (χ z (χ z (χ z (χ z (ω z (ag_ z z z) (TL.j z z (χ z (χ z (ω z (ag_ z z z) (TL.j z z (χ z ?_)))))))))))))))
  refine ω z (ag_ z z z) (TL.j z z (χ z (χ z (χ z (ω z (ag_ z z z) (TL.j z z (κ (TC.ax_ (Sub.pre 0 z) (TC.back (TC.ret ?_))))))))))
  obtain rfl:=so hh
  exact rq [0] ⟨z,z,z⟩
 replace hh:=ei_ h136 hh
 replace h136:=df_ h136
 refine χ z (χ z (χ z (ω z (ag_ z z z) (TL.j z z (χ z (χ z (χ z (ω z (ag_ z z z) (TL.j z z (χ z (χ z (χ z (χ z (ω z (ag_ z z z) (TL.j z z ?_)))))))))))))))
 refine χ z (χ z (ω z (ag_ z z z) (TL.j z z (χ z (ω z (ag_ z z z) (TL.j z z (χ z (χ z (χ z (ω z (ag_ z z z) (TL.j z z (κ (TC.ax_ (Sub.pre 0 z) (TC.back (TC.ret ?_)))))))))))))))
 obtain rfl:=so hh
 exact rq [0] ⟨z,z,z⟩
end Go.Proofs.YtchebnpdnfhenaaGreatDoor
end
