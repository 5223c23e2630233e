/- Parts of a proof, one behind the other: what a machine reaches, functions decompiled, plain lemmas. Conditions stand with each lemma. -/
import Derived.Test.YtchebnpdnfhenaaGreatDoorB16777e74aa
import Derived.Test.YtchebnpdnfhenaaGreatDoorBf8037b03d9
import Derived.Test.YtchebnpdnfhenaaGreatDoorBec9f443190
import Derived.Test.YtchebnpdnfhenaaGreatDoorBeab7e328f1
import Derived.Laws.Append

set_option linter.unusedVariables false
set_option linter.unusedSimpArgs false
set_option linter.unusedSectionVars false
set_option maxRecDepth 100000
set_option maxHeartbeats 8000000
variable {a0_0 a0_1 a0_2 a0_3 a1_0 a1_1 a1_2 a1_3:Option Go.Addr}{c0_0 c0_1 c0_2 c0_3 c1_0 c1_1 c1_2 c1_3:Nat}

noncomputable section
namespace Go.Proofs.YtchebnpdnfhenaaGreatDoor
open Go Go.E
def xt_(t:T_1):T_1:=Lib.decDigits t.length++58::t
theorem qc_{t:T_1}(h:t.length≤4096):(xt_ t).length≤4200:=by
  have:=lh_ (u:=t.length) (by omega)
  unfold xt_
  simp only [la_,List.length_cons];omega
theorem to_{t u x y:T_1}(h:xt_ t++x=xt_ u++y):t=u∧x=y:=by
  unfold xt_ at h
  rw [ap_,ap_,List.cons_append,List.cons_append]at h
  obtain ⟨h1,h2⟩:=lv_ (h8_ _) (h8_ _) h
  exact List.append_inj h2 (qk_ h1)
theorem q1_{t b:T_1}(h:t.length≤4096)(hb:b.length≤1000000000):Dv_ t ⟨b⟩=some ⟨b++xt_ t⟩:=by
  have hd:=lh_ (u:=t.length) (by omega)
  unfold Dv_
  rw [dx_ (by omega),dx_ (by omega),mt_ (by omega),tn_]
  show bnd (gg_ ⟨b⟩ _) _=_
  rw [ps_ _ _ (by omega) (by omega),d7_]
  show bnd (h2_ ⟨b++Lib.decDigits t.length⟩ 58) _=_
  rw [ib_ _ _ (by rw [la_];omega),d7_]
  show bnd (gg_ ⟨b++Lib.decDigits t.length++[58]⟩ t) _=_
  rw [ps_ _ _ (by omega) (by simp only [la_,lo_];omega),d7_]
  show some _=some _
  unfold xt_
  simp [ap_]
def ly_(q:Seq)(s b:Nat):T_1:=if 0≤nxQ q s b then 103::(Lib.decDigits b++58::xt_ (otQ q s b)) else []
def zd_(q:Seq)(s:Nat):T_1:=if nth q.fin s false=true then 101::xt_ (nth q.tail s []) else []
def r2_(q:Seq)(s k:Nat):T_1:=(List.range k).flatMap (ly_ q s)
def k4_(q:Seq)(s:Nat):T_1:=zd_ q s++r2_ q s 256
theorem no_(q:Seq)(s k:Nat):r2_ q s (k+1)=r2_ q s k++ly_ q s k:=by
  unfold r2_;rw [List.range_succ,List.flatMap_append,List.flatMap_singleton]
theorem re_{q:Seq}(hq:d5_ q=true){s b:Nat}(hs:s<q.next.length)(hb:b<256):(ly_ q s b).length≤5000:=by
  have h1:=qc_ (ki_ hq hs hb)
  have h2:=lh_ (u:=b) (by omega)
  unfold ly_
  split
  · simp only [List.length_cons,la_];omega
  simp
theorem y7_ {q : Seq} (hq : d5_ q = true) {s : Nat} (hs : s < q.next.length) : F7_ q ((s : Nat) : Int) = some (k4_ q s) := by
  obtain ⟨q1,q2,q3,q4,q5⟩:=d3_ hq
  obtain ⟨r1,r2⟩:=ew_ hq hs
  have hj: ∀E:T_1,E.length≤5000→D4_ ((s:Nat):Int) q E=some (E++r2_ q s 256):=fun E hE=>by
    unfold D4_
    rw [dx_ (by omega)]
    refine Exists.elim (ej_ (step:=fun z:T_1×Nat=>Bt_ q ((s:Nat):Int) z.1 z.2) (fun z k=>(z,k)) 256 (fun k z=>z=E++r2_ q s k∧z.length≤5000 * (k+1)) (fun r=>r=E++r2_ q s 256) ?_ ?_ (s0:=E) ⟨by simp [r2_],by omega⟩) (fun r hh_=> ?_)
    · rintro k _ hk ⟨rfl,hl⟩
      left
      have hol:=ki_ hq hs hk
      have hcl:=re_ hq hs hk
      have hd:=lh_ (u:=k) (by omega)
      refine ⟨E++r2_ q s (k+1),?_,rfl,by rw [no_,←ap_,la_];omega⟩
      show Bt_ q ((s:Nat):Int) (E++r2_ q s k) k=_
      unfold Bt_ E4_
      have e1:nth (nth q.next s []) k 0=nxQ q s k:=rfl
      have e2:nth (nth q.outs s []) k []=otQ q s k:=rfl
      rw [tn_,dy_ (by omega)]
      simp only [e1,e2]
      rw [no_,←ap_]
      generalize hB:E++r2_ q s k=B at hl ⊢
      by_cases c:0≤nxQ q s k
      · rw [dy_ c,ib_ _ _ (by omega),d7_,dx_ (by omega),mt_ (by omega),tn_]
        show bnd (gg_ ⟨B++[103]⟩ _) _=_
        rw [ps_ _ _ (by omega) (by simp only [la_,lo_];omega),d7_]
        show bnd (h2_ ⟨B++[103]++Lib.decDigits k⟩ 58) _=_
        rw [ib_ _ _ (by simp only [la_,lo_];omega),d7_,dx_ (by omega),dx_ (by omega)]
        show bnd (Dv_ (otQ q s k) ⟨B++[103]++Lib.decDigits k++[58]⟩) _=_
        rw [q1_ hol (by simp only [la_,lo_];omega),d7_]
        show some (Sum.inl (_,_))=_
        unfold ly_
        rw [if_pos c]
        simp [ap_]
      rw [dz_ c]
      unfold ly_
      rw [if_neg c,List.append_nil];rfl
    · rintro _ ⟨rfl,_⟩
      refine ⟨_,?_,rfl⟩
      show Bt_ q ((s:Nat):Int) (E++r2_ q s 256) 256=_
      unfold Bt_ j3_
      rw [tn_,dz_ (by omega),d7_];rfl
    obtain ⟨h1,rfl⟩:=hh_
    exact h1
  have ht:=(f2_ hq hs).1
  unfold F7_ k4_ zd_
  rw [dx_ (by omega),tn_]
  cases nth q.fin s false with
  |true=>
    have:=qc_ ht
    rw [iteO_true,ib_ _ _ (by simp),d7_,dx_ (by omega),q1_ ht (by simp),d7_,if_pos rfl]
    exact hj _ (by simp only [la_,List.length_cons,List.length_nil];omega)
  |false=>
    rw [iteO_false,if_neg (by decide)]
    exact hj [] (by simp)
def oh_(q:Seq)(s:Nat):Nat→Nat→T_1
  |_,0=>[]
  |b,n+1=>ly_ q s b++oh_ q s (b+1) n
theorem xa_(q:Seq)(s b:Nat): ∀n,oh_ q s b n=(List.range' b n).flatMap (ly_ q s)
  |0=>rfl
  |n+1=>by rw [oh_,xa_ q s (b+1) n,List.range'_succ,List.flatMap_cons]
theorem tl_(q:Seq)(s:Nat):r2_ q s 256=oh_ q s 0 256:=by rw [xa_,r2_,List.range_eq_range']
theorem s9_(q:Seq)(s:Nat): ∀n b,oh_ q s b n=[]∨ ∃c X,b≤c∧oh_ q s b n=103::(Lib.decDigits c++58::X)
  |0,_=> .inl rfl
  | n + 1, b => by
    rw [oh_]
    unfold ly_
    by_cases c:0≤nxQ q s b
    · rw [if_pos c]
      exact .inr ⟨b,xt_ (otQ q s b)++oh_ q s (b+1) n,Nat.le_refl _,by simp only [List.cons_append,ap_]⟩
    rw [if_neg c,List.nil_append]
    rcases s9_ q s n (b+1)with h|⟨d,X,h1,h2⟩
    · exact .inl h
    exact .inr ⟨d,X,by omega,h2⟩
theorem qh_ {q : Seq} {s t : Nat} : ∀ {n b : Nat}, oh_ q s b n = oh_ q t b n → ∀ i, i < n → (0 ≤ nxQ q s (b + i) ↔ 0 ≤ nxQ q t (b + i)) ∧ (0 ≤ nxQ q s (b + i) → otQ q s (b + i) = otQ q t (b + i))
  |0,b,_,i,hi=>absurd hi (Nat.not_lt_zero _)
  | n + 1, b, h, i, hi => by
    have one: ∀{s t:Nat},0≤nxQ q s b→ ¬ 0≤nxQ q t b→oh_ q s b (n+1)≠oh_ q t b (n+1):=fun {s t} c d h=>by
      rw [oh_,oh_]at h
      unfold ly_ at h
      rw [if_pos c,if_neg d,List.nil_append,List.cons_append,ap_,List.cons_append]at h
      rcases s9_ q t n (b+1)with e|⟨f,X,h1,h2⟩
      · rw [e]at h;cases h
      rw [h2]at h
      obtain ⟨_,h⟩:=List.cons.inj h
      have:=qk_ (lv_ (h8_ _) (h8_ _) h).1
      omega
    by_cases c:0≤nxQ q s b
    · by_cases d:0≤nxQ q t b
      · rw [oh_,oh_]at h
        unfold ly_ at h
        rw [if_pos c,if_pos d,List.cons_append,List.cons_append,ap_,ap_,List.cons_append,List.cons_append]at h
        obtain ⟨_,h⟩:=List.cons.inj h
        obtain ⟨h1,h2⟩:=to_ (lv_ (h8_ _) (h8_ _) h).2
        by_cases e:i=0
        · subst e;exact ⟨⟨fun _=>d,fun _=>c⟩,fun _=>h1⟩
        have:=qh_ h2 (i - 1) (by omega)
        rwa [show b+1+(i - 1)=b+i by omega]at this
      exact absurd h (one c d)
    by_cases d:0≤nxQ q t b
    · exact absurd h.symm (one d c)
    rw [oh_,oh_]at h
    unfold ly_ at h
    rw [if_neg c,if_neg d,List.nil_append,List.nil_append]at h
    by_cases e:i=0
    · subst e;exact ⟨⟨fun k=>absurd k c,fun k=>absurd k d⟩,fun k=>absurd k c⟩
    have:=qh_ h (i - 1) (by omega)
    rwa [show b+1+(i - 1)=b+i by omega]at this
theorem pb_ {q : Seq} (hq : d5_ q = true) {s t : Nat} (hs : s < q.next.length) (ht : t < q.next.length) : k4_ q s = k4_ q t ↔ LikeQ q s t := by
  constructor
  · intro h
    unfold k4_ at h
    rw [tl_,tl_]at h
    have hno: ∀{s t:Nat},nth q.fin s false=true→ ¬ nth q.fin t false=true→zd_ q s++oh_ q s 0 256≠zd_ q t++oh_ q t 0 256:=fun {s t} c d h=>by
      unfold zd_ at h
      rw [if_pos c,if_neg d,List.nil_append,List.cons_append]at h
      rcases s9_ q t 256 0 with e|⟨f,X,_,e⟩
      · rw [e]at h;cases h
      rw [e]at h
      have:=(List.cons.inj h).1
      exact absurd this (by decide)
    have key:nth q.fin s false=nth q.fin t false∧nth q.tail s []=nth q.tail t []∧oh_ q s 0 256=oh_ q t 0 256:=by
      by_cases c:nth q.fin s false=true
      · by_cases d:nth q.fin t false=true
        · unfold zd_ at h
          rw [if_pos c,if_pos d,List.cons_append,List.cons_append]at h
          obtain ⟨h1,h2⟩:=to_ (List.cons.inj h).2
          exact ⟨c.trans d.symm,h1,h2⟩
        exact absurd h (hno c d)
      by_cases d:nth q.fin t false=true
      · exact absurd h.symm (hno d c)
      unfold zd_ at h
      rw [if_neg c,if_neg d,List.nil_append,List.nil_append]at h
      refine ⟨(Bool.eq_false_iff.2 c).trans (Bool.eq_false_iff.2 d).symm,?_,h⟩
      rcases (f2_ hq hs).2 with e|e
      · exact absurd e c
      rcases (f2_ hq ht).2 with f|f
      · exact absurd f d
      rw [e,f]
    have hrow:=qh_ key.2.2
    refine ⟨key.1,key.2.1,fun b hb=> ?_,fun b hb=> ?_⟩
    · have:=(hrow b hb).1
      rw [Nat.zero_add]at this;omega
    have:=hrow b hb
    rw [Nat.zero_add]at this
    by_cases c:0≤nxQ q s b
    · exact this.2 c
    rw [h1_ hq hs hb (by omega),h1_ hq ht hb (by have:=this.1;omega)]
  intro h
  unfold k4_ zd_ r2_
  rw [h.fin,h.tail]
  congr 1
  rw [List.flatMap_def,List.flatMap_def,List.map_congr_left fun b hb=> ?_]
  have hb:=List.mem_range.1 hb
  have h1:=h.neg b hb
  unfold ly_
  rw [h.out b hb]
  by_cases c:0≤nxQ q s b
  · rw [if_pos c,if_pos (by omega)]
  rw [if_neg c,if_neg (by omega)]
structure NumI (K:Nat→T_1) (N k:Nat) (L:N_1) (m:FM T_1 Int):Prop where
  len:L.length=N
  rng: ∀s,s<k→0≤nth L s 0∧nth L s 0<((m.n:Nat):Int)
  same: ∀s t,s<k→t<k→(nth L s 0=nth L t 0↔K s=K t)
  onto: ∀i,i<m.n→ ∃s,s<k∧nth L s 0=((i:Nat):Int)
  at': ∀s,s<k→m.f (K s)=some (nth L s 0)
  is: ∀y v,m.f y=some v→ ∃s,s<k∧y=K s
  le:m.n≤k
theorem NumI.nil(K:Nat→T_1){N:Nat}{L:N_1}(h:L.length=N):NumI K N 0 L FM.emp:=
  ⟨h,fun s hs=>absurd hs (Nat.not_lt_zero _),fun s t hs=>absurd hs (Nat.not_lt_zero _),fun i hi=>absurd hi (Nat.not_lt_zero _),fun s hs=>absurd hs (Nat.not_lt_zero _),fun y v h=>(by cases h),Nat.le_refl _⟩
theorem r7_ {K : Nat → T_1} {N k : Nat} {L : N_1} {m : FM T_1 Int} (h : NumI K N k L m) (hk : k < N) (hl : (K k).length ≤ 281474976710656) : ∃ i m', Do_ ⟨m⟩ (K k) = some (i, ⟨m'⟩) ∧ NumI K N (k + 1) (L.set k i) m' := by
  have hlen:=h.len
  unfold Do_
  rw [dx_ hl]
  have hold: ∀{i:Int} {s:Nat},s<k→nth (L.set k i) s 0=nth L s 0:=fun {i s} hs=>by rw [eb_,if_neg (fun e=>by omega)]
  have hnew: ∀{i:Int},nth (L.set k i) k 0=i:=fun {i}=>by rw [eb_,if_pos ⟨rfl,by omega⟩]
  cases c:m.f (K k)with
  |some v=>
    have hh:m.has (K k)=true:=by unfold FM.has;rw [c];rfl
    have hg:m.get (K k) 0=v:=by unfold FM.get;rw [c];rfl
    rw [show (⟨m⟩:Numb).places=m from rfl,hh,hg,e8_]
    obtain ⟨s0,hs0,e0⟩:=h.is _ _ c
    have hv:v=nth L s0 0:=by
      have:=h.at' s0 hs0
      rw [←e0,c]at this;exact Option.some.inj this
    have hsame0: ∀s,s<k→(nth L s 0=v↔K s=K k):=fun s hs=>by rw [hv,h.same s s0 hs hs0,e0]
    refine ⟨v,m,rfl,by rw [ls_];exact hlen,fun s hs=> ?_,fun s t hs ht=> ?_,fun i hi=> ?_,fun s hs=> ?_,fun y v' hy=> ?_,by have:=h.le;omega⟩
    · by_cases e:s=k
      · subst e;rw [hnew,hv];exact h.rng s0 hs0
      rw [hold (by omega)];exact h.rng s (by omega)
    · by_cases e:s=k
      · subst e
        by_cases f:t=s
        · subst f;exact ⟨fun _=>rfl,fun _=>rfl⟩
        rw [hnew,hold (by omega)]
        have:=hsame0 t (by omega)
        exact ⟨fun g=>(this.1 g.symm).symm,fun g=>(this.2 g.symm).symm⟩
      by_cases f:t=k
      · subst f;rw [hnew,hold (by omega)];exact hsame0 s (by omega)
      rw [hold (by omega),hold (by omega)];exact h.same s t (by omega) (by omega)
    · obtain ⟨s,hs,e⟩:=h.onto i hi
      exact ⟨s,by omega,by rw [hold hs];exact e⟩
    · by_cases e:s=k
      · subst e;rw [hnew];exact c
      rw [hold (by omega)];exact h.at' s (by omega)
    obtain ⟨s,hs,e⟩:=h.is y v' hy
    exact ⟨s,by omega,e⟩
  |none=>
    have hh:m.has (K k)=false:=by unfold FM.has;rw [c];rfl
    rw [show (⟨m⟩:Numb).places=m from rfl,hh,fg_]
    have hne: ∀s,s<k→K s≠K k:=fun s hs e=>by
      have:=h.at' s hs
      rw [e,c]at this;cases this
    have hn:(m.put (K k) ((m.n:Nat):Int)).n=m.n+1:=by unfold FM.put;simp [c]
    have hf: ∀y,(m.put (K k) ((m.n:Nat):Int)).f y=if y=K k then some ((m.n:Nat):Int) else m.f y:=fun y=>rfl
    refine ⟨((m.n:Nat):Int),m.put (K k) ((m.n:Nat):Int),rfl,by rw [ls_];exact hlen,fun s hs=> ?_,fun s t hs ht=> ?_,fun i hi=> ?_,fun s hs=> ?_,fun y v' hy=> ?_,by rw [hn];have:=h.le;omega⟩
    · rw [hn]
      by_cases e:s=k
      · subst e;rw [hnew];omega
      rw [hold (by omega)];have:=h.rng s (by omega);omega
    · by_cases e:s=k
      · subst e
        by_cases f:t=s
        · subst f;exact ⟨fun _=>rfl,fun _=>rfl⟩
        rw [hnew,hold (by omega)]
        have:=h.rng t (by omega)
        exact ⟨fun g=>by omega,fun g=>absurd g.symm (hne t (by omega))⟩
      by_cases f:t=k
      · subst f;rw [hnew,hold (by omega)]
        have:=h.rng s (by omega)
        exact ⟨fun g=>by omega,fun g=>absurd g (hne s (by omega))⟩
      rw [hold (by omega),hold (by omega)];exact h.same s t (by omega) (by omega)
    · rw [hn]at hi
      by_cases e:i=m.n
      · exact ⟨k,by omega,by rw [hnew,e]⟩
      obtain ⟨s,hs,e⟩:=h.onto i (by omega)
      exact ⟨s,by omega,by rw [hold hs];exact e⟩
    · rw [hf]
      by_cases e:s=k
      · subst e;rw [hnew,if_pos rfl]
      rw [hold (by omega),if_neg (hne s (by omega))];exact h.at' s (by omega)
    rw [hf]at hy
    by_cases e:y=K k
    · exact ⟨k,by omega,e⟩
    rw [if_neg e]at hy
    obtain ⟨s,hs,e⟩:=h.is y v' hy
    exact ⟨s,by omega,e⟩
def ou_(q:Seq)(L:N_1)(s b:Nat):N_1:=if 0≤nxQ q s b then [nth L (nxQ q s b).toNat 0] else []
def oo_(q:Seq)(L:N_1)(s k:Nat):N_1:=nth L s 0::(List.range k).flatMap (ou_ q L s)
theorem i9_(q:Seq)(L:N_1)(s k:Nat):oo_ q L s (k+1)=oo_ q L s k++ou_ q L s k:=by
  unfold oo_;rw [List.range_succ,List.flatMap_append,List.flatMap_singleton];rfl
theorem p2_(q:Seq)(L:N_1)(s:Nat): ∀k,(oo_ q L s k).length≤k+1
  |0=>by simp [oo_]
  |k+1=>by
    have:=p2_ q L s k
    rw [i9_,la_]
    unfold ou_
    split<;>simp<;>omega
theorem qj_{q:Seq}{L:N_1}{s t:Nat}(hn: ∀b,b<256→(nxQ q s b<0↔nxQ q t b<0)): ∀k,k≤256→(oo_ q L s k=oo_ q L t k↔nth L s 0=nth L t 0∧ ∀b,b<k→0≤nxQ q s b→nth L (nxQ q s b).toNat 0=nth L (nxQ q t b).toNat 0)
  |0,_=>by
    unfold oo_
    simp
  | k + 1, hk => by
    have ih:=qj_ (L:=L) hn k (by omega)
    have hnk:=hn k (by omega)
    rw [i9_,i9_]
    have hlc:(ou_ q L s k).length=(ou_ q L t k).length:=by
      unfold ou_
      by_cases c:0≤nxQ q s k
      · rw [if_pos c,if_pos (by omega)];rfl
      rw [if_neg c,if_neg (by omega)]
    constructor
    · intro h
      obtain ⟨h1,h2⟩:=List.append_inj' h hlc
      obtain ⟨h3,h4⟩:=ih.1 h1
      refine ⟨h3,fun b hb h0=> ?_⟩
      by_cases c:b<k
      · exact h4 b c h0
      have:b=k:=by omega
      subst this
      unfold ou_ at h2
      rw [if_pos h0,if_pos (by omega)]at h2
      exact List.head_eq_of_cons_eq h2
    rintro ⟨h1,h2⟩
    rw [ih.2 ⟨h1,fun b hb=>h2 b (by omega)⟩]
    congr 1
    unfold ou_
    by_cases c:0≤nxQ q s k
    · rw [if_pos c,if_pos (by omega),h2 k (by omega) c]
    rw [if_neg c,if_neg (by omega)]
structure PrtI (q:Seq) (L:N_1) (c:Nat):Prop where
  len:L.length=q.next.length
  rng: ∀s,s<q.next.length→0≤nth L s 0∧nth L s 0<((c:Nat):Int)
  onto: ∀i,i<c→ ∃s,s<q.next.length∧nth L s 0=((i:Nat):Int)
  like: ∀s t,s<q.next.length→t<q.next.length→nth L s 0=nth L t 0→LikeQ q s t
  same: ∀s t,s<q.next.length→t<q.next.length→eq_ q s=eq_ q t→nth L s 0=nth L t 0
theorem PrtI.le{q:Seq}{L:N_1}{c:Nat}(h:PrtI q L c):c≤q.next.length:=
  tp_ (f:=fun s=>(nth L s 0).toNat) (g:=fun s=>s) (fun k hk=>by obtain ⟨s,h1,h2⟩:=h.onto k hk;exact ⟨s,h1,by show (nth L s 0).toNat=k;omega⟩) (fun s hs=>hs) (fun s t _ _ e=>by rw [e])
structure PrtR (q:Seq) (L:N_1) (c:Nat):Prop where
  len:L.length=q.next.length
  rng: ∀s,s<q.next.length→0≤nth L s 0∧nth L s 0<((c:Nat):Int)
  iff: ∀s t,s<q.next.length→t<q.next.length→(nth L s 0=nth L t 0↔eq_ q s=eq_ q t)
  le:c≤q.next.length
theorem y2_ {q : Seq} (hq : d5_ q = true) (hp : PshQ q) : ∃ L c, F8_ q = some (L, ((c : Nat) : Int)) ∧ PrtR q L c := by
  obtain ⟨q1,q2,q3,q4,q5⟩:=d3_ hq
  -- one round
  have round: ∀L c,PrtI q L c→ ∃r,Dd_ q L c=some r∧((∃L',r= .inr (L',((c:Nat):Int))∧PrtR q L' c)∨ ∃L' c',r= .inl (L',c')∧PrtI q L' c'∧c<c'):=by
    intro L c hI
    have hL:=hI.len
    have hle:=hI.le
    have hsml: ∀s k,s<q.next.length→k≤256→Sml (oo_ q L s k):=fun s k hs=>by
      induction k with
      |zero=>intro _ x hx;rw [show oo_ q L s 0=[nth L s 0]from rfl,mo_]at hx;rw [hx];have:=hI.rng s hs;omega
      |succ k ih=>
        intro hk x hx
        rw [i9_,List.mem_append]at hx
        rcases hx with hx|hx
        · exact ih (by omega) x hx
        unfold ou_ at hx
        split at hx
        · rw [mo_]at hx
          have h1:=e2_ hq hs (show k<256 by omega)
          have:=hI.rng (nxQ q s k).toNat (by omega)
          rw [hx];omega
        cases hx
    unfold Dd_
    rw [dx_ (by omega)]
    refine ej_ (step:=fun z:N_1×(FM T_1 Int)×Nat=>Bu_ L q c z.1 z.2.1 z.2.2) (fun (z:N_1×FM T_1 Int) k=>(z.1,z.2,k)) q.next.length (fun k z=>NumI (fun s=>j4_ (oo_ q L s 256)) q.next.length k z.1 z.2) _ ?_ ?_ (s0:=(List.replicate L.length 0,FM.emp)) (NumI.nil _ (by simp [hL]))
    · rintro k ⟨M,m⟩ hk hN
      simp only at hN
      left
      have hMl:=hN.len
      obtain ⟨r1,r2⟩:=ew_ hq hk
      have hkl:(j4_ (oo_ q L k 256)).length≤600:=by rw [nj_];have:=p2_ q L k 256;omega
      obtain ⟨i,m',n1,n2⟩:=r7_ hN hk (by show (j4_ (oo_ q L k 256)).length≤_;omega)
      show ∃s':N_1×FM T_1 Int,Bu_ L q c M m k=some (.inl (s'.1,s'.2,k+1))∧_
      refine ⟨(M.set k i,m'),?_,n2⟩
      unfold Bu_
      rw [dy_ (by simp only [lr_];omega),dx_ (by omega),dx_ (by omega),dx_ hk]
      refine Exists.elim (ej_ (step:=fun z:T_1×Nat=>B3_ q k L m M z.1 z.2) (fun z j=>(z,j)) 256 (fun j z=>z=j4_ (oo_ q L k j)) (fun r=>r= .inl (M.set k i,m',k+1)) ?_ ?_ (s0:=[jo_ (uy_ .i64 (nth L k 0) 8),jo_ (nth L k 0)]) (by simp [oo_,j4_,zq_])) (fun r hh_=> ?_)
      · rintro j _ hj rfl
        left
        have h1:=e2_ hq hk hj
        have h3:(j4_ (oo_ q L k j)).length≤600:=by rw [nj_];have:=p2_ q L k j;omega
        refine ⟨_,?_,rfl⟩
        show B3_ q k L m M (j4_ (oo_ q L k j)) j=_
        unfold B3_ E5_
        have e1:nth (nth q.next k []) j 0=nxQ q k j:=rfl
        rw [dy_ (by omega),i9_]
        simp only [e1]
        unfold ou_
        by_cases d:0≤nxQ q k j
        · have hg:0≤nxQ q k j∧nxQ q k j<(L.length:Int):=by omega
          rw [dy_ d,dx_ hg,dx_ hg,dx_ (by simp only [List.length_cons,List.length_nil];omega),if_pos d]
          unfold j4_
          rw [List.flatMap_append,List.flatMap_singleton];rfl
        rw [dz_ d,if_neg d,List.append_nil];rfl
      · rintro _ rfl
        refine ⟨_,?_,rfl⟩
        show B3_ q k L m M (j4_ (oo_ q L k 256)) 256=_
        unfold B3_
        rw [dz_ (by omega),n1,d7_,dx_ (by omega)];rfl
      obtain ⟨h1,rfl⟩:=hh_
      exact h1
    rintro ⟨M,m⟩ hN
    simp only at hN
    have hiff: ∀s t,s<q.next.length→t<q.next.length→(nth M s 0=nth M t 0↔oo_ q L s 256=oo_ q L t 256):=fun s t hs ht=>by
      rw [hN.same s t hs ht]
      exact ⟨q4_ (hsml s 256 hs (Nat.le_refl _)) (hsml t 256 ht (Nat.le_refl _)),fun e=>by rw [e]⟩
    have hfine: ∀s t,s<q.next.length→t<q.next.length→nth M s 0=nth M t 0→nth L s 0=nth L t 0:=fun s t hs ht e=>by
      have:=(hiff s t hs ht).1 e
      unfold oo_ at this
      exact (List.cons.inj this).1
    have hsame: ∀s t,s<q.next.length→t<q.next.length→eq_ q s=eq_ q t→nth M s 0=nth M t 0:=fun s t hs ht e=>by
      have hlk:=si_ hp hq hs ht e
      rw [hiff s t hs ht,qj_ hlk.neg 256 (Nat.le_refl _)]
      refine ⟨hI.same s t hs ht e,fun b hb h0=> ?_⟩
      obtain ⟨k1,_,k3⟩:=f1_ hp hp hs ht hb e h0
      have h1:=e2_ hq hs hb
      have h2:=e2_ hq ht hb
      exact hI.same _ _ (by omega) (by omega) k3
    have hcc:c≤m.n:=tp_ (n:=q.next.length) (f:=fun s=>(nth L s 0).toNat) (g:=fun s=>(nth M s 0).toNat) (fun k hk=>by obtain ⟨s,h1,h2⟩:=hI.onto k hk;exact ⟨s,h1,by show (nth L s 0).toNat=k;omega⟩) (fun s hs=>by have:=hN.rng s hs;show (nth M s 0).toNat<_;omega) (fun s t hs ht e=>by
      have h1:=hN.rng s hs
      have h2:=hN.rng t ht
      have e:(nth M s 0).toNat=(nth M t 0).toNat:=e
      show (nth L s 0).toNat=(nth L t 0).toNat
      rw [hfine s t hs ht (by omega)])
    show ∃r,Bu_ L q c M m q.next.length=some (.inr r)∧_
    unfold Bu_
    rw [dz_ (by simp only [lr_];omega)]
    by_cases e:m.n=c
    · rw [dy_ (by omega)]
      refine ⟨_,rfl,.inl ⟨M,rfl,hN.len,fun s hs=>by have:=hN.rng s hs;omega,fun s t hs ht=>⟨fun h=> ?_,hsame s t hs ht⟩,hle⟩⟩
      have hback: ∀s t,s<q.next.length→t<q.next.length→nth L s 0=nth L t 0→nth M s 0=nth M t 0:=fun s t hs ht e'=>by
        have h1:=hN.rng s hs
        have h2:=hN.rng t ht
        have:=pigeon (n:=q.next.length) (c:=c) (f:=fun s=>(nth L s 0).toNat) (g:=fun s=>(nth M s 0).toNat) (fun k hk=>by obtain ⟨s,h1,h2⟩:=hI.onto k hk;exact ⟨s,h1,by show (nth L s 0).toNat=k;omega⟩) (fun s hs=>by have:=hN.rng s hs;show (nth M s 0).toNat<_;omega) (fun s t hs ht e=>by
          have h1:=hN.rng s hs
          have h2:=hN.rng t ht
          have e:(nth M s 0).toNat=(nth M t 0).toNat:=e
          show (nth L s 0).toNat=(nth L t 0).toNat
          rw [hfine s t hs ht (by omega)]) hs ht (by show (nth L s 0).toNat=(nth L t 0).toNat;rw [e'])
        have this:(nth M s 0).toNat=(nth M t 0).toNat:=this
        omega
      refine funext fun w=>bisim (n:=q.next.length) (fun s b hs hb=>e2_ hq hs hb) (R:=fun s t=>nth M s 0=nth M t 0) (fun s t hs ht h=>hI.like s t hs ht (hfine s t hs ht h)) (fun s t b hs ht h hb h0=> ?_) w s t hs ht h
      have hlk:=hI.like s t hs ht (hfine s t hs ht h)
      have h1:=e2_ hq hs hb
      have h2:=e2_ hq ht hb
      have h3:=hlk.neg b hb
      exact hback _ _ (by omega) (by omega) (((qj_ hlk.neg 256 (Nat.le_refl _)).1 ((hiff s t hs ht).1 h)).2 b hb h0)
    rw [dz_ (by omega)]
    exact ⟨_,rfl,.inr ⟨M,m.n,rfl,⟨hN.len,hN.rng,hN.onto,fun s t hs ht h=>hI.like s t hs ht (hfine s t hs ht h),hsame⟩,by omega⟩⟩
  unfold F8_
  rw [dx_ (by omega)]
  refine Exists.elim (ej_ (step:=fun z:N_1×(FM T_1 Int)×Nat=>By_ q z.1 z.2.1 z.2.2) (fun (z:N_1×FM T_1 Int) k=>(z.1,z.2,k)) q.next.length (fun k z=>NumI (k4_ q) q.next.length k z.1 z.2) (fun r=> ∃L c,r=(L,((c:Nat):Int))∧PrtR q L c) ?_ ?_ (s0:=(List.replicate q.next.length 0,FM.emp)) (NumI.nil _ (by simp))) (fun r hh_=> ?_)
  · rintro k ⟨M,m⟩ hk hN
    simp only at hN
    left
    have hMl:=hN.len
    have hlen:(k4_ q k).length≤281474976710656:=by
      have h1: ∀j,j≤256→(r2_ q k j).length≤5000 * j:=fun j=>by
        induction j with
        |zero=>intro _;simp [r2_]
        |succ j ih=>
          intro hj
          have:=ih (by omega)
          have:=re_ hq hk (show j<256 by omega)
          rw [no_,la_];omega
      have h2:=h1 256 (Nat.le_refl _)
      have h3:=qc_ (f2_ hq hk).1
      unfold k4_ zd_
      rw [la_]
      split
      · rw [List.length_cons];omega
      rw [List.length_nil];omega
    obtain ⟨i,m',n1,n2⟩:=r7_ hN hk hlen
    show ∃s':N_1×FM T_1 Int,By_ q M m k=some (.inl (s'.1,s'.2,k+1))∧_
    refine ⟨(M.set k i,m'),?_,n2⟩
    unfold By_
    rw [dy_ (by simp only [lr_];omega),y7_ hq hk,d7_,n1,d7_,dx_ (by omega)];rfl
  · rintro ⟨M,m⟩ hN
    simp only at hN
    show ∃r,By_ q M m q.next.length=some (.inr r)∧_
    have h0:PrtI q M m.n:=⟨hN.len,hN.rng,hN.onto,fun s t hs ht h=>(pb_ hq hs ht).1 ((hN.same s t hs ht).1 h),fun s t hs ht h=>(hN.same s t hs ht).2 ((pb_ hq hs ht).2 (si_ hp hq hs ht h))⟩
    obtain ⟨r,k1,k2⟩:=im_ (step:=fun z:N_1×Nat=>Dd_ q z.1 z.2) (fun z=>PrtI q z.1 z.2) (fun z=>q.next.length - z.2) (fun r=> ∃L c,r=(L,((c:Nat):Int))∧PrtR q L c) (fun ⟨L,c⟩ hI=>by
      obtain ⟨r,r1,r2⟩:=round L c hI
      rcases r2 with ⟨L',rfl,r3⟩|⟨L',c',rfl,r3,r4⟩
      · exact .inr ⟨_,r1,L',c,rfl,r3⟩
      refine .inl ⟨_,r1,r3,?_⟩
      have:=r3.le
      show q.next.length - c'<q.next.length - c
      omega) (t:=(M,m.n)) h0
    refine ⟨r,?_,k2⟩
    unfold By_
    rw [dz_ (by simp only [lr_];omega),k1];rfl
  obtain ⟨h1,L,c,rfl,h2⟩:=hh_
  exact ⟨L,c,h1,h2⟩
structure BfI (q:Seq) (cl:Nat→Int) (st:N_1) (V:Nat→Int) (code:Nat):Prop where
  pos:0<st.length
  rng: ∀i,i<st.length→0≤nth st i 0∧nth st i 0<(q.next.length:Int)
  zero:cl (nth st 0 0).toNat=cl 0
  neg: ∀c,c<code→nxQ q (nth st (c / 256) 0).toNat (c % 256)<0→V c= -1
  val: ∀c,c<code→0≤nxQ q (nth st (c / 256) 0).toNat (c % 256)→ ∃j:Nat,j<st.length∧V c=((j:Nat):Int)∧cl (nth st j 0).toNat=cl (nxQ q (nth st (c / 256) 0).toNat (c % 256)).toNat
  dist: ∀i j,i<st.length→j<st.length→cl (nth st i 0).toNat=cl (nth st j 0).toNat→i=j
  first: ∀c j,c<code→V c=((j:Nat):Int)→ ∀k,0<k→k<j→ ∃c',c'<c∧V c'=((k:Nat):Int)
  come: ∀j,0<j→j<st.length→ ∃c,c<code∧c<j * 256∧V c=((j:Nat):Int)
def upd(V:Nat→Int)(c:Nat)(x:Int):Nat→Int:=fun d=>if d=c then x else V d
theorem mf_(V:Nat→Int)(c:Nat)(x:Int):upd V c x c=x:=if_pos rfl
theorem gk_(V:Nat→Int){c d:Nat}(x:Int)(h:d<c):upd V c x d=V d:=if_neg (by omega)
section
variable {q:Seq} {cl:Nat→Int} {st:N_1} {V:Nat→Int} {code:Nat}
theorem BfI.init{q:Seq}{cl:Nat→Int}(V:Nat→Int){z:Int}(hz:0≤z∧z<(q.next.length:Int))(hcl:cl z.toNat=cl 0):BfI q cl [z] V 0:=by
  have h0: ∀i,i<([z]:N_1).length→i=0:=fun i hi=>by rw [lo_]at hi;omega
  refine ⟨by simp,fun i hi=> ?_,hcl,fun c hc=>absurd hc (Nat.not_lt_zero _),fun c hc=>absurd hc (Nat.not_lt_zero _),fun i j hi hj _=>by rw [h0 i hi,h0 j hj],fun c j hc=>absurd hc (Nat.not_lt_zero _),fun j hj hj2=> ?_⟩
  · rw [h0 i hi];exact hz
  have:=h0 j hj2;omega
theorem BfI.skip(h:BfI q cl st V code)(hn:nxQ q (nth st (code / 256) 0).toNat (code % 256)<0):BfI q cl st (upd V code (-1)) (code+1):=by
  refine ⟨h.pos,h.rng,h.zero,fun c hc hc2=> ?_,fun c hc hc2=> ?_,h.dist,fun c j hc hv k hk hkj=> ?_,fun j hj hj2=> ?_⟩
  · by_cases e:c=code
    · rw [e,mf_]
    rw [gk_ _ _ (by omega)];exact h.neg c (by omega) hc2
  · by_cases e:c=code
    · subst e;omega
    rw [gk_ _ _ (by omega)];exact h.val c (by omega) hc2
  · by_cases e:c=code
    · rw [e,mf_]at hv;omega
    rw [gk_ _ _ (by omega)]at hv
    obtain ⟨c',h1,h2⟩:=h.first c j (by omega) hv k hk hkj
    exact ⟨c',h1,by rw [gk_ _ _ (by omega)];exact h2⟩
  obtain ⟨c,h1,h2,h3⟩:=h.come j hj hj2
  exact ⟨c,by omega,h2,by rw [gk_ _ _ h1];exact h3⟩
theorem BfI.old(h:BfI q cl st V code)(h0:0≤nxQ q (nth st (code / 256) 0).toNat (code % 256)){j:Nat}(hj:j<st.length)(hcl:cl (nth st j 0).toNat=cl (nxQ q (nth st (code / 256) 0).toNat (code % 256)).toNat):BfI q cl st (upd V code ((j:Nat):Int)) (code+1):=by
  refine ⟨h.pos,h.rng,h.zero,fun c hc hc2=> ?_,fun c hc hc2=> ?_,h.dist,fun c i hc hv k hk hkj=> ?_,fun i hi hi2=> ?_⟩
  · by_cases e:c=code
    · subst e;omega
    rw [gk_ _ _ (by omega)];exact h.neg c (by omega) hc2
  · by_cases e:c=code
    · subst e;exact ⟨j,hj,mf_ _ _ _,hcl⟩
    rw [gk_ _ _ (by omega)];exact h.val c (by omega) hc2
  · by_cases e:c=code
    · rw [e,mf_]at hv
      obtain ⟨c',h1,_,h3⟩:=h.come k hk (by omega)
      exact ⟨c',by omega,by rw [gk_ _ _ h1];exact h3⟩
    rw [gk_ _ _ (by omega)]at hv
    obtain ⟨c',h1,h2⟩:=h.first c i (by omega) hv k hk hkj
    exact ⟨c',h1,by rw [gk_ _ _ (by omega)];exact h2⟩
  obtain ⟨c,h1,h2,h3⟩:=h.come i hi hi2
  exact ⟨c,by omega,h2,by rw [gk_ _ _ h1];exact h3⟩
theorem BfI.new(h:BfI q cl st V code)(hc:code<st.length * 256)(h0:0≤nxQ q (nth st (code / 256) 0).toNat (code % 256)){z:Int}(hz:0≤z∧z<(q.next.length:Int))(hcl:cl z.toNat=cl (nxQ q (nth st (code / 256) 0).toNat (code % 256)).toNat)
    (hnew: ∀j,j<st.length→cl (nth st j 0).toNat≠cl (nxQ q (nth st (code / 256) 0).toNat (code % 256)).toNat):BfI q cl (st++[z]) (upd V code ((st.length:Nat):Int)) (code+1):=by
  have hold: ∀i,i<st.length→nth (st++[z]) i 0=nth st i 0:=fun i hi=>fe_ hi _
  have hat:nth (st++[z]) st.length 0=z:=fk_ _ _ _
  have hlen:(st++[z]).length=st.length+1:=by simp
  have hp:=h.pos
  have hrow: ∀c,c<code+1→nth (st++[z]) (c / 256) 0=nth st (c / 256) 0:=fun c hc'=>hold _ (by omega)
  refine ⟨by omega,fun i hi=> ?_,by rw [hold 0 hp];exact h.zero,fun c hc hc2=> ?_,fun c hc hc2=> ?_,fun i j hi hj he=> ?_,fun c i hc hv k hk hkj=> ?_,fun i hi hi2=> ?_⟩
  · by_cases e:i<st.length
    · rw [hold i e];exact h.rng i e
    rw [show i=st.length by omega,hat];exact hz
  · rw [hrow c hc]at hc2
    by_cases e:c=code
    · subst e;omega
    rw [gk_ _ _ (by omega)];exact h.neg c (by omega) hc2
  · rw [hrow c hc]at hc2 ⊢
    by_cases e:c=code
    · subst e
      exact ⟨st.length,by omega,mf_ _ _ _,by rw [hat];exact hcl⟩
    rw [gk_ _ _ (by omega)]
    obtain ⟨j,h1,h2,h3⟩:=h.val c (by omega) hc2
    exact ⟨j,by omega,h2,by rw [hold j h1];exact h3⟩
  · by_cases e:i<st.length
    · by_cases f:j<st.length
      · rw [hold i e,hold j f]at he;exact h.dist i j e f he
      rw [hold i e,show j=st.length by omega,hat,hcl]at he
      exact absurd he (hnew i e)
    by_cases f:j<st.length
    · rw [hold j f,show i=st.length by omega,hat,hcl]at he
      exact absurd he.symm (hnew j f)
    omega
  · by_cases e:c=code
    · rw [e,mf_]at hv
      obtain ⟨c',h1,_,h3⟩:=h.come k hk (by omega)
      exact ⟨c',by omega,by rw [gk_ _ _ h1];exact h3⟩
    rw [gk_ _ _ (by omega)]at hv
    obtain ⟨c',h1,h2⟩:=h.first c i (by omega) hv k hk hkj
    exact ⟨c',h1,by rw [gk_ _ _ (by omega)];exact h2⟩
  by_cases e:i<st.length
  · obtain ⟨c,h1,h2,h3⟩:=h.come i hi e
    exact ⟨c,by omega,h2,by rw [gk_ _ _ h1];exact h3⟩
  refine ⟨code,by omega,by omega,?_⟩
  rw [mf_,show i=st.length by omega]
end
theorem BfI.min{q m:Seq}{cl:Nat→Int}{st:N_1}{V:Nat→Int}(h:BfI q cl st V (st.length * 256))(hcl: ∀s t,s<q.next.length→t<q.next.length→(cl s=cl t↔eq_ q s=eq_ q t))(hq:d5_ q=true)
    (e0:m.front=q.front) (e1:m.next.length=st.length) (e2:m.outs.length=st.length) (e3:m.fin.length=st.length) (e4:m.tail.length=st.length) (e5: ∀i,i<st.length→(nth m.next i []).length=256) (e6: ∀c,c<st.length * 256→nxC m c=V c)
    (e7: ∀i,i<st.length→nth m.outs i []=nth q.outs (nth st i 0).toNat []) (e8: ∀i,i<st.length→nth m.fin i false=nth q.fin (nth st i 0).toNat false) (e9: ∀i,i<st.length→nth m.tail i []=nth q.tail (nth st i 0).toNat []):MinQ q m (st.map Int.toNat):=by
  have hl:(st.map Int.toNat).length=st.length:=List.length_map ..
  have hat: ∀i,i<st.length→nth (st.map Int.toNat) i 0=(nth st i 0).toNat:=fun i hi=>fl_ _ _ _ 0 _ hi
  have hr: ∀i,i<st.length→(nth st i 0).toNat<q.next.length:=fun i hi=>by have:=h.rng i hi;omega
  have hp:=h.pos
  have hn: ∀i b,i<st.length→b<256→i * 256+b<st.length * 256∧(i * 256+b) / 256=i∧(i * 256+b) % 256=b:=fun i b hi hb=>⟨by omega,by omega,by omega⟩
  have hcell: ∀i b,i<st.length→b<256→nxQ m i b=V (i * 256+b):=fun i b hi hb=>by
    obtain ⟨a1,a2,a3⟩:=hn i b hi hb
    have:=e6 _ a1
    unfold nxC at this
    rw [a2,a3]at this;exact this
  refine ⟨e0,by omega,by omega,by omega,by omega,by omega,fun i hi=> ?_,?_,fun i j hi hj he=> ?_,fun i hi=>e5 i (by omega),fun i hi=> ?_,fun i hi=> ?_,fun i hi=> ?_,fun i b hi hb hx=> ?_,fun i b hi hb hx=> ?_,fun c j hc hv k hk hkj=> ?_,fun j hj hj2=> ?_⟩
  · rw [hat i (by omega)];exact hr i (by omega)
  · rw [hat 0 hp]
    exact (hcl _ _ (hr 0 hp) (by have:=hr 0 hp;omega)).1 h.zero
  · rw [hat i (by omega),hat j (by omega)]at he
    exact h.dist i j (by omega) (by omega) ((hcl _ _ (hr i (by omega)) (hr j (by omega))).2 he)
  · rw [hat i (by omega)];exact e7 i (by omega)
  · rw [hat i (by omega)];exact e8 i (by omega)
  · rw [hat i (by omega)];exact e9 i (by omega)
  · rw [hat i (by omega)]at hx
    obtain ⟨a1,a2,a3⟩:=hn i b (by omega) hb
    rw [hcell i b (by omega) hb]
    exact h.neg _ a1 (by rw [a2,a3];exact hx)
  · rw [hat i (by omega)]at hx
    obtain ⟨a1,a2,a3⟩:=hn i b (by omega) hb
    obtain ⟨j,h1,h2,h3⟩:=h.val _ a1 (by rw [a2,a3];exact hx)
    rw [a2,a3]at h3
    refine ⟨j,by omega,by rw [hcell i b (by omega) hb];exact h2,?_⟩
    rw [hat j h1,hat i (by omega)]
    have hz:=e2_ hq (hr i (by omega)) hb
    exact (hcl _ _ (hr j h1) (by omega)).1 h3
  · rw [hl]at hc
    rw [e6 c hc]at hv
    obtain ⟨c',h1,h2⟩:=h.first c j hc hv k hk hkj
    exact ⟨c',h1,by rw [e6 c' (by omega)];exact h2⟩
  obtain ⟨c,h1,h2,h3⟩:=h.come j hj (by omega)
  exact ⟨c,h2,by rw [e6 c h1];exact h3⟩
theorem PushR.psh{q:Seq}{r:Seq×Int}(h:PushR q r)(h0:r.2=0):PshQ r.1∧d5_ r.1=true∧(∀w,fx_ r.1 w=fx_ q w)∧r.1.next.length≤q.next.length:=by
  have hem: ∀w,fx_ Seq.zero w=Option.none:=fun w=>by unfold fx_;rw [fp_ rfl rfl];rfl
  cases h with
  |wrong _=>exact absurd h0 (by decide)
  |none h1 h2=>
    refine ⟨qb_.toPshQ,qb_.right,fun w=> ?_,Nat.zero_le _⟩
    rw [hem]
    unfold fx_
    cases ho:eq_ q 0 w with
    |none=>rfl
    |some y=>
      rcases h2 with h2|h2
      · rw [fp_ (en_ h2) (en_ (by have:=(d3_ h1).2.2.1;omega))]at ho;cases ho
      exact absurd ⟨w,y,ho⟩ h2
  |made l m v h1 h2 h3 h4 h5=>
    have hk:=jb_ (m:=m) h5
    have hk0:=(hk 0 h2).2 ⟨.zero,(h4.live 0 h2).2 h3⟩
    unfold ig_ at h0 ⊢
    by_cases c:d5_ (fc_ q l (fr_ v m))=true
    · rw [if_pos c]
      exact ⟨Ia_ h1 h4 hk,c,Hw_ h1 h4 hk h2 hk0,by rw [gl_];exact gn_ _ _⟩
    rw [if_neg c]at h0;exact absurd h0 (by decide)
theorem PushR.errs{q:Seq}{r:Seq×Int}(h:PushR q r)(h0:r.2≠0):r.1=Seq.zero∧(r.2=1∨r.2=2):=by
  cases h with
  |wrong _=>exact ⟨rfl,.inl rfl⟩
  |none _ _=>exact absurd rfl h0
  |made l m v h1 h2 h3 h4 h5=>
    unfold ig_ at h0 ⊢
    by_cases c:d5_ (fc_ q l (fr_ v m))=true
    · rw [if_pos c]at h0;exact absurd rfl h0
    rw [if_neg c];exact ⟨rfl,.inr rfl⟩
theorem PushR.again {q p : Seq} {r s : Seq × Int} (h : PushR q r) (k : PushR p s) (h0 : r.2 = 0) (hp : d5_ p = true) (he : ∀ w, fx_ p w = fx_ q w) : s.2 = 0 := by
  cases k with
  |wrong h1=>exact absurd hp h1
  |none _ _=>rfl
  |made lp mp vp p1 p2 p3 p4 p5=>
    have hlive: ∃w y,fx_ q w=some y:=by
      obtain ⟨w,y,hy⟩:=p3
      exact ⟨w,_,by rw [←he];unfold fx_;rw [hy];rfl⟩
    cases h with
    |wrong _=>exact absurd h0 (by decide)
    |none h1 h2=>
      exfalso
      obtain ⟨w,y,hy⟩:=hlive
      unfold fx_ at hy
      cases ho:eq_ q 0 w with
      |none=>rw [ho]at hy;cases hy
      |some z=>
        rcases h2 with h2|h2
        · rw [fp_ (en_ h2) (en_ (by have:=(d3_ h1).2.2.1;omega))]at ho;cases ho
        exact h2 ⟨w,z,ho⟩
    |made lq mq vq q1 q2 q3 q4 q5=>
      have hkq:=jb_ (m:=mq) q5
      have hkp:=jb_ (m:=mp) p5
      unfold ig_ at h0 ⊢
      by_cases c:d5_ (fc_ q lq (fr_ vq mq))=true
      · rw [if_pos (Jd_ q1 p1 q4 p4 hkq hkp q2 p2 ((hkq 0 q2).2 ⟨.zero,(q4.live 0 q2).2 q3⟩) ((hkp 0 p2).2 ⟨.zero,(p4.live 0 p2).2 p3⟩) he c)]
      rw [if_neg c]at h0;exact absurd h0 (by decide)
inductive MinR (p:Seq×Int):Seq×Int→Prop
  |err:p.2≠0→MinR p (Seq.zero,p.2)
  |none:p.2=0→p.1.next.length=0→MinR p (Seq.zero,0)
  |made (m:Seq) (st:List Nat):p.2=0→MinQ p.1 m st→MinR p (m,0)
theorem MinR.err'{q:Seq}{p r:Seq×Int}(_:PushR q p)(k:MinR p r):r.2=p.2∧(r.2≠0→r.1=Seq.zero):=by
  cases k with
  |err h0=>exact ⟨rfl,fun _=>rfl⟩
  |none h0 _=>exact ⟨h0.symm,fun _=>rfl⟩
  |made m st h0 _=>exact ⟨h0.symm,fun e=>absurd rfl e⟩
theorem MinR.can{q:Seq}{p r:Seq×Int}(h:PushR q p)(k:MinR p r)(h0:r.2=0):CanQ r.1∧(∀w,fx_ r.1 w=fx_ q w)∧r.1.next.length≤p.1.next.length:=by
  cases k with
  |err e=>exact absurd h0 e
  |none e1 e2=>
    obtain ⟨h1,h2,h3,h4⟩:=h.psh e1
    refine ⟨qb_,fun w=> ?_,Nat.zero_le _⟩
    rw [←h3]
    unfold fx_
    rw [fp_ rfl rfl,fp_ (en_ e2) (en_ (by have:=(d3_ h2).2.2.1;omega))]
    rfl
  |made m st e1 e2=>
    obtain ⟨h1,h2,h3,h4⟩:=h.psh e1
    obtain ⟨k1,k2,k3⟩:=e2.can h1 h2
    refine ⟨k1,fun w=> ?_,k3⟩
    rw [←h3]
    unfold fx_
    rw [k2,e2.front]
theorem MinR.same{q q':Seq}{p p' r r':Seq×Int}(h:PushR q p)(h':PushR q' p')(k:MinR p r)(k':MinR p' r')(h0:r.2=0)(h0':r'.2=0)(he: ∀w,fx_ q w=fx_ q' w):r.1=r'.1:=by
  obtain ⟨a1,a2,_⟩:=k.can h h0
  obtain ⟨b1,b2,_⟩:=k'.can h' h0'
  exact r6_ a1 b1 fun w=>by rw [a2,b2,he]
theorem MinR.uniq{q:Seq}{p r r':Seq×Int}(h:PushR q p)(k:MinR p r)(k':MinR p r'):r=r':=by
  obtain ⟨a1,a2⟩:=MinR.err' h k
  obtain ⟨b1,b2⟩:=MinR.err' h k'
  refine Prod.ext ?_ (a1.trans b1.symm)
  by_cases c:p.2=0
  · exact k.same h h k' (by rw [a1];exact c) (by rw [b1];exact c) fun _=>rfl
  rw [a2 (by rw [a1];exact c),b2 (by rw [b1];exact c)]
end Go.Proofs.YtchebnpdnfhenaaGreatDoor
end

noncomputable section
namespace Go.E
open Go
def SrcC{α:Type}(σ:dw_)(H:List Res)(size:Nat)(enc:α→List Value)(s:Value)(ls:List α):Prop:=
  ∃a c,s= .slice a ls.length c∧ ∀(P:Program) (w:World),gv_ σ H w→ ∀n,n≤ls.length→(Builtin.firstCells size n s).run P w= .ok ((ls.take n).flatMap enc).toArray w
theorem q7_{α:Type}{enc:α→List Value}{size:Nat}(hl: ∀x,(enc x).length=size)(l:List α)(n:Nat):(l.take n).flatMap enc=(l.flatMap enc).take (n * size):=kb_ hl l n
theorem SrcC.sealed{α:Type}{σ:dw_}{H:List Res}{size:Nat}{enc:α→List Value}{s:Value}{ls:List α}(h:RS σ size enc s ls)(hl: ∀x,(enc x).length=size):SrcC σ H size enc s ls:=by
  obtain ⟨a,c,rfl,hn,hc⟩:=h.rv.sl
  refine ⟨a,c,rfl,fun P w hw n hle=> ?_⟩
  cases a with
  |none=>
    obtain ⟨h1,_⟩:=hn rfl
    have:ls=[]:=en_ h1
    subst this
    simp [Builtin.firstCells]
  |some ad=>
    refine run_firstCells_some w size n ad _ _ _ (by rw [ee_ hl,List.length_take];congr 1;omega) fun j v hj=> ?_
    rw [q7_ hl,List.getElem?_take]at hj
    split at hj
    · exact hw.cell (h.rv.cell ad _ c rfl j v hj)
    cases hj
theorem va_{α:Type}{enc:α→List Value}{size:Nat}(hl: ∀x,(enc x).length=size)(l m:List α)(k:Nat)(hk:k+m.length≤l.length):
    e3_ (l.flatMap enc) (k * size) (m.flatMap enc)=(l.take k++(m++l.drop (k+m.length))).flatMap enc:=by
  rw [List.flatMap_append,List.flatMap_append,e3_,q7_ hl l k,ee_ hl m,←Nat.add_mul]
  have h1:l.flatMap enc=(l.take (k+m.length)).flatMap enc++(l.drop (k+m.length)).flatMap enc:=by rw [←List.flatMap_append,List.take_append_drop]
  have h2:(l.flatMap enc).drop ((k+m.length) * size)=(l.drop (k+m.length)).flatMap enc:=by
    rw [h1,List.drop_append_of_le_length (by rw [ee_ hl,List.length_take,Nat.min_eq_left hk];exact Nat.le_refl _),List.drop_of_length_le (by rw [ee_ hl,List.length_take,Nat.min_eq_left hk];exact Nat.le_refl _),List.nil_append]
  rw [h2];try rw [ap_]
theorem OpOk.copyV {X : Ctx} {e : Env} {σ : dw_} {F : List Res} {o : Oper} {x y : Operand} {K : Env → dw_ → List Res → Prop} {α : Type} {T ty E size k m' d : Nat} {enc : α → List Value} {v u s : Value} {l ls : List α}
    (ho:o.op= .call {callee:= .builtin .copy,args:= #[x,y],argTypes:= #[T,ty]}) (ht:X.P.underlying T=some (.slice E)) (hs:szOf X.P E=some size) (hd:o.dst=some d) (hn:Nat.blt d X.n=true)
    (hx:ev e x=u) (hv:VwOk v u size k m') (hm:l.length - k=m') (hk:k≤l.length) (hy:ev e y=s) (hsrc:SrcC σ (Res.rowS E size enc v l::F) size enc s ls) (hl: ∀x,(enc x).length=size) (h0:0<size) (h1: ∀x, ∀u∈enc x,u.oneCell'=true)
    (kk:K (upd e d (.int .i64 ((min ls.length (l.length - k):Nat):Int))) σ (Res.rowS E size enc v (l.take k++(ls.take (min ls.length (l.length - k))++l.drop (k+min ls.length (l.length - k))))::F)):OpOk X o e σ (Res.rowS E size enc v l::F) K:=by
  subst hm
  intro u0 C0 τ0 w a hw ha K' Q hK
  obtain ⟨hown,hone,hbg⟩:=hw.holds _ (mc_ ..)
  have hsees:gv_ σ (Res.rowS E size enc v l::F) w:=⟨hw.fit,hw.holds⟩
  obtain ⟨as',cs',rfl,hfirst⟩:=hsrc
  obtain ⟨a',c',rfl,hnn,hc⟩:=hv.sl
  have hmin: ∀p q:Nat,Nat.min p q=min p q:=fun _ _=>rfl
  generalize hN:min ls.length (l.length - k)=N at kk
  have hN1:N≤ls.length:=by omega
  have hN2:N≤l.length - k:=by omega
  have hlenN:(ls.take N).length=N:=by rw [List.length_take];omega
  have hlen:(l.take k++(ls.take N++l.drop (k+N))).length=l.length:=by simp only [la_,List.length_take,List.length_drop];omega
  have hf:=hfirst X.P w hsees N hN1
  have hsz:=er_ (P:=X.P) hs
  have hgo:goInt N= .int .i64 ((N:Nat):Int):=rfl
  cases a' with
  |none=>
    obtain ⟨h2,_⟩:=hnn rfl
    have hN0:N=0:=by omega
    subst hN0
    have e1:l.take k++(ls.take 0++l.drop (k+0))=l:=by rw [List.take_zero,List.nil_append,Nat.add_zero,List.take_append_drop]
    rw [e1]at kk
    have hrun:(Builtin.copy_ #[T,ty] o.type #[.slice none (l.length - k) c',.slice as' ls.length cs']).run X.P w= .ok (.int .i64 ((0:Nat):Int)) w:=by
      simp [Builtin.copy_,run_underlying ht,Builtin.lenOf,hsz,hmin,hN,hf,goInt]
    refine Oper.ao_ (v:= .int .i64 ((0:Nat):Int)) (w':=w) ?_ (hK _ _ _ _ _ kk hw (fa_ ha hd hn _))
    rw [ha.eval']
    simp [execOp,ho,resolve,invoke,builtin,hx,hy,hrun]
  |some ad=>
    by_cases hj:0<l.length - k
    · have hel:=hv.el 0 hj
      rcases id hown.2 with ⟨hvn,hmn⟩|⟨g,cap,cur,rfl,_⟩
      · omega
      simp only [io_,Nat.zero_mul,Nat.add_zero]at hel
      have had:ad=⟨g,k * size,none⟩:=by
        have h3:(ad.add 0)=(⟨g,0,none⟩:Addr).add (k * size):=by injection hel with h;injection h
        rw [f9_]at h3
        simpa [Addr.add]using h3
      subst had
      obtain ⟨w',hst,hown',hgr,hdr⟩:=World.ownsRow.spliced X.P hown (k:=k * size) (vs:=(ls.take N).flatMap enc) (by rw [ee_ hl,ee_ hl,hlenN,←Nat.add_mul];exact Nat.mul_le_mul_right _ (by omega)) (fun u hu=>by
        obtain ⟨q,_,hq⟩:=List.mem_flatMap.1 hu
        exact h1 q u hq)
      have hsp:=va_ hl l (ls.take N) k (by rw [hlenN];omega)
      rw [hlenN]at hsp
      rw [hsp]at hown'
      have hrun:(Builtin.copy_ #[T,ty] o.type #[.slice (some ⟨g,k * size,none⟩) (l.length - k) c',.slice as' ls.length cs']).run X.P w= .ok (.int .i64 ((N:Nat):Int)) w':=by
        simp [Builtin.copy_,run_underlying ht,Builtin.lenOf,hsz,hmin,hN,hf,hst,goInt]
      have hR:Reach u0 C0 τ0 σ w' (Res.rowS E size enc (.slice (some ⟨g,0,none⟩) l.length cap) (l.take k++(ls.take N++l.drop (k+N)))::F):=by
        refine hw.bi_ (some g) (some g) rfl rfl hgr.os hgr.tape hgr.output hgr.size hdr (fun q hq hne=>hgr.block q hq (fun hx=>hne (by cases hx;rfl))) ?_ (fun q hq=> .inl hq)
        show _∧_∧_
        rw [hlen]
        refine ⟨hown',fun u hu=> ?_,hbg⟩
        obtain ⟨q,_,hq⟩:=List.mem_flatMap.1 hu
        exact h1 q u hq
      refine Oper.ao_ (v:= .int .i64 ((N:Nat):Int)) (w':=w') ?_ (hK _ _ _ _ _ kk hR (fa_ ha hd hn _))
      rw [ha.eval']
      simp [execOp,ho,resolve,invoke,builtin,hx,hy,hrun]
    have hN0:N=0:=by omega
    subst hN0
    have e1:l.take k++(ls.take 0++l.drop (k+0))=l:=by rw [List.take_zero,List.nil_append,Nat.add_zero,List.take_append_drop]
    rw [e1]at kk
    have hrun:(Builtin.copy_ #[T,ty] o.type #[.slice (some ad) (l.length - k) c',.slice as' ls.length cs']).run X.P w= .ok (.int .i64 ((0:Nat):Int)) w:=by
      simp [Builtin.copy_,run_underlying ht,Builtin.lenOf,hsz,hmin,hN,hf,goInt,storeCells]
    refine Oper.ao_ (v:= .int .i64 ((0:Nat):Int)) (w':=w) ?_ (hK _ _ _ _ _ kk hw (fa_ ha hd hn _))
    rw [ha.eval']
    simp [execOp,ho,resolve,invoke,builtin,hx,hy,hrun]
section
variable {α:Type} {σ:dw_} {k:Pk α} {z w:List (α×k.P)} {l m:List α}
theorem ZOk.take(h:ZOk σ k z l)(n:Nat):ZOk σ k (z.take n) (l.take n):=⟨by rw [List.map_take,h.eq],fun u hu=>h.ok u (List.mem_of_mem_take hu)⟩
theorem ZOk.drop(h:ZOk σ k z l)(n:Nat):ZOk σ k (z.drop n) (l.drop n):=⟨by rw [List.map_drop,h.eq],fun u hu=>h.ok u (List.mem_of_mem_drop hu)⟩
end
theorem OpOk.dd_{X:Ctx}{e:Env}{σ:dw_}{F:List Res}{o:Oper}{x y:Operand}{K:Env→dw_→List Res→Prop}{α:Type}{T ty E size p m' d N q:Nat}{enc:α→List Value}{v u s:Value}{l ls:List α}
    (ho:o.op= .call {callee:= .builtin .copy,args:= #[x,y],argTypes:= #[T,ty]}) (ht:X.P.underlying T=some (.slice E)) (hs:szOf X.P E=some size) (hd:o.dst=some d) (hn:Nat.blt d X.n=true)
    (hx:ev e x=u) (hv:VwOk v u size p m') (hq:l.length=q) (hm:q - p=m') (hk:p≤q) (hy:ev e y=s) (hsrc:SrcC σ (Res.rowS E size enc v l::F) size enc s ls) (hl: ∀x,(enc x).length=size) (h0:0<size) (h1: ∀x, ∀u∈enc x,u.oneCell'=true) (hN:min ls.length (q - p)=N)
    (kk:K (upd e d (.int .i64 ((N:Nat):Int))) σ (Res.rowS E size enc v (l.take p++(ls.take N++l.drop (p+N)))::F)):OpOk X o e σ (Res.rowS E size enc v l::F) K:=by
  subst hq;subst hN
  exact OpOk.copyV ho ht hs hd hn hx hv hm hk hy hsrc hl h0 h1 kk
end Go.E
end

noncomputable section
namespace Go.Proofs.YtchebnpdnfhenaaGreatDoor
open Go Go.E Go.E.OpVal Go.E.OpOk Go.Proofs.Tryz
theorem pf113:plainF Tryz.prog 113=true:=by kernel_rfl
theorem pf114:plainF Tryz.prog 114=true:=by kernel_rfl
theorem pf115:plainF Tryz.prog 115=true:=by kernel_rfl
theorem pf116:plainF Tryz.prog 116=true:=by kernel_rfl
theorem pf117:plainF Tryz.prog 117=true:=by kernel_rfl
theorem pf29:plainF Tryz.prog 29=true:=by kernel_rfl
theorem pf35:plainF Tryz.prog 35=true:=by kernel_rfl
theorem pf66:plainF Tryz.prog 66=true:=by kernel_rfl
theorem pf67:plainF Tryz.prog 67=true:=by kernel_rfl
theorem pf68:plainF Tryz.prog 68=true:=by kernel_rfl
theorem pf69:plainF Tryz.prog 69=true:=by kernel_rfl
theorem pf76:plainF Tryz.prog 76=true:=by kernel_rfl
def D9_(k169:Nat)(l173:N_1)(l175:N_1):Option ((N_1×N_1×Nat)⊕((N_1×N_1×Nat)⊕(N_1×N_1))):=
 nxt (l173,l175,(k169+1))
def Bc_(x0:Seq)(l140:N_1)(k143:Nat)(x1:N_1)(l164:N_1)(l166:N_1)(k169:Nat):Option ((N_1×N_1×Nat)⊕((N_1×N_1×Nat)⊕(N_1×N_1))):=
 d4_ (decide ((k169:Int)<(((nth x0.next ((nth l140 k143 0).toNat) []).length:Nat):Int))) (d4_ (decide (0≤(nth (nth x0.next ((nth l140 k143 0).toNat) []) k169 0))) (grd (0≤(nth (nth x0.next ((nth l140 k143 0).toNat) []) k169 0)∧(nth (nth x0.next ((nth l140 k143 0).toNat) []) k169 0)<(x1.length:Int)) (grd (0≤(nth x1 ((nth (nth x0.next ((nth l140 k143 0).toNat) []) k169 0).toNat) 0)∧(nth x1 ((nth (nth x0.next ((nth l140 k143 0).toNat) []) k169 0).toNat) 0)<(l164.length:Int)) (d4_ (decide ((nth l164 ((nth x1 ((nth (nth x0.next ((nth l140 k143 0).toNat) []) k169 0).toNat) 0).toNat) 0)<0)) (grd (0≤(nth (nth x0.next ((nth l140 k143 0).toNat) []) k169 0)∧(nth (nth x0.next ((nth l140 k143 0).toNat) []) k169 0)<(x1.length:Int)) (grd (0≤(nth x1 ((nth (nth x0.next ((nth l140 k143 0).toNat) []) k169 0).toNat) 0)∧(nth x1 ((nth (nth x0.next ((nth l140 k143 0).toNat) []) k169 0).toNat) 0)<(l164.length:Int)) (grd ((l166.length+[(nth (nth x0.next ((nth l140 k143 0).toNat) []) k169 0)].length) * 8≤140737488355328) (D9_ k169 (l164.set ((nth x1 ((nth (nth x0.next ((nth l140 k143 0).toNat) []) k169 0).toNat) 0).toNat) ((l166.length:Nat):Int)) (l166++[(nth (nth x0.next ((nth l140 k143 0).toNat) []) k169 0)]))))) (D9_ k169 l164 l166)))) (D9_ k169 l164 l166)) (fin (nxt (l164,l166,(k143+1))))
def Cn_(x0:Seq)(x1:N_1)(l138:N_1)(l140:N_1)(k143:Nat):Option ((N_1×N_1×Nat)⊕(N_1×N_1)):=
 d4_ (decide ((k143:Int)<((l140.length:Nat):Int))) (grd (0≤(nth l140 k143 0)∧(nth l140 k143 0)<(x0.next.length:Int)) (ed_ (fun q:N_1×N_1×Nat=>Bc_ x0 l140 k143 x1 q.1 q.2.1 q.2.2) (l138,l140,0))) (fin (some (l140,l138)))
def Bz_(x2:Int)(x1:N_1)(x0:Seq)(l112:N_1)(k114:Nat):Option ((N_1×Nat)⊕(N_1×N_1)):=
 d4_ (decide ((k114:Int)<(((List.replicate x2.toNat (0:Int)).length:Nat):Int))) (grd (k114<l112.length) (nxt ((l112.set k114 (-1)),(k114+1)))) (fin (grd (0<x1.length) (grd (0≤(nth x1 0 0)∧(nth x1 0 0)<(l112.length:Int)) (ed_ (fun q:N_1×N_1×Nat=>Cn_ x0 x1 q.1 q.2.1 q.2.2) ((l112.set ((nth x1 0 0).toNat) 0),[0],0)))))
def Fq_(x0:Seq)(x1:N_1)(x2:Int):Option (N_1×N_1):=
 grd (0≤x2∧8 * x2.toNat≤281474976710656) (ed_ (fun q:N_1×Nat=>Bz_ x2 x1 x0 q.1 q.2) ((List.replicate x2.toNat (0:Int)),0))
def Ix_(σ:dw_)(r:N_1×N_1):Value→dw_→List Res→Prop:=fun v σ' H'=>
 ∃a1 c1 a2 c2,v= .tuple #[.slice a1 r.1.length c1,.slice a2 r.2.length c2]∧rS_ σ' eI_ a1 c1 r.1∧rS_ σ' eI_ a2 c2 r.2∧H'=[]
theorem In_{σ:dw_}{x0:Seq}{x1:N_1}{x2:Int}(f0_0:RZ σ (d6_ 1 eI_ ei_) (.slice a0_0 x0.next.length c0_0) x0.next)(f0_1:RZ σ (d6_ 1 eS_ el_) (.slice a0_1 x0.outs.length c0_1) x0.outs)(f0_2:rS_ σ et_ a0_2 c0_2 x0.fin)(f0_3:rS_ σ eS_ a0_3 c0_3 x0.tail)(f1_0:rS_ σ eI_ a1_0 c1_0 x1){r:N_1×N_1}(hh:Fq_ x0 x1 x2=some r):
  Con Tryz.prog 67 #[.agg (aq_ x0 a0_0 c0_0 a0_1 c0_1 a0_2 c0_2 a0_3 c0_3),.slice a1_0 x1.length c1_0,.int .i64 x2] σ [] (Ix_ σ r):=by
 dsimp only [Fq_]at hh
 have f0_0b:=f0_0.big
 have f0_1b:=f0_1.big
 have f0_2b:=f0_2.rv.big
 have f0_3b:=f0_3.rv.big
 have f1_0b:=f1_0.rv.big
 refine Con.mk (n:=77) Tryz.func67 z z z (fun w0=> ?_)
 refine TC.a (TL.op z (boxA z z z z (fun b101=> ?_)))
 refine TL.s z z (TL.s z z (TL.en (TC.a (TL.i z z ?_))))
 obtain ⟨u5,hh⟩:=d1_ hh
 refine TL.op rfl (a2_ (m:=x2.toNat) (enc:=eI_) (0:Int) rfl underlying86 sz3 by3 ze3 rfl rfl (vN u5.1) (vN u5.1) (by omega) (by decide) ei_ (by decide) rfl h9_ (fun a103 c104=> ?_))
 refine TL.s z z (TL.en (TC.seq (TC.a (TL.s z z (TL.w z (lenC z underlying86 z) (TL.i z z (TL.en (TC.block (TC.as_ (α:=(N_1×Nat)×(Unit)) (rgs [(9,1),(18,7)]) (fun g=>[(18,.int .i64 ((g.1.2:Nat):Int))]) (fun g=>[cq_ b101 x0 a0_0 c0_0 a0_1 c0_1 a0_2 c0_2 a0_3 c0_3,Res.rowS 3 1 eI_ (.slice a103 (List.replicate x2.toNat (0:Int)).length c104) g.1.1]) (fun g=>σ) (fun g=>ed_ (fun q:N_1×Nat=>Bz_ x2 x1 x0 q.1 q.2) g.1=some r∧g.1.1.length=(List.replicate x2.toNat (0:Int)).length) (fun g=>eg_ (fun q:N_1×Nat=>Bz_ x2 x1 x0 q.1 q.2) g.1) (((List.replicate x2.toNat (0:Int)),0),()) (Sub.f [1] 2) z (by repeat (first|exact trivial|refine ⟨z,?_⟩)) ⟨hh,z⟩ (fun g1 j1 hg1=> ?_))))))))))
 obtain ⟨⟨l112,k114⟩,_⟩:=g1
 obtain ⟨hh,hn113⟩:=hg1
 try dsimp only at hn113 ⊢
 obtain ⟨z1,hh,hR1⟩:=ek_ hh
 dsimp only [Bz_]at hh
 refine TC.isSl (i:=1) z (fun _ hb115 _=> ?_)
 refine TC.a (TL.w z (OpVal.lss z z z) (TL.en (TC.seq (TC.cD z hh (fun h116 hh=> ?_) (fun h116 hh=> ?_)))))
 ·refine TC.skip (S.n (TC.seq (TC.block (TC.a (TL.i z z (TL.i z z (TL.en (TC.region (TL.s z z (TL.i z z ?_))))))))))
  obtain ⟨u15,hh⟩:=d1_ hh
  refine TL.isSl (i:=1) z (fun hs117 _ _=> ?_)
  refine TL.w z (af_ z underlying86 sz3 z z hs117 (by omega)) (TL.front 1 z z ?_)
  have hn118:(l112.set k114 (-1)).length=(List.replicate x2.toNat (0:Int)).length:=by rw [ls_];exact hn113
  refine TL.op z (a0_ (-1) z sz3 z z z z ei_ h9_ (by omega) (by omega) ?_)
  refine TL.nil (B.n (S.n (TC.region (TL.w z (OpVal.succ z z z (by omega)) (TL.i z z (TL.en ?_))))))
  obtain ⟨hh,hlt119⟩:=ev_ hR1 hh
  exact lf (((l112.set k114 (-1)),(k114+1)),()) hlt119 ⟨hh,hn118⟩ (Sub.f [1] 2)
 refine TC.exit (S.x (S.x ?_))
 replace hh:=eh_ hR1 hh
 refine TC.ae_ (S.n (TC.a (TL.op z (OpOk.lit (enc:=eI_) [0] z underlying86 sz3 ze3 z z z ei_ (by decide) (by decide) (0:Int) z (by decide) z (by decide) h9_ (fun a120 c121=> ?_)))))
 refine TL.s z z (TL.en (TC.a (TL.s z z (TL.s z z ?_))))
 obtain ⟨u23,hh⟩:=d1_ hh
 refine TL.w z (af_ (i:=0) z underlying86 sz3 z z f1_0.rv.sl (by omega)) (TL.w z (al_ (0:Int) z ag3 z f1_0 (by omega) z) ?_)
 obtain ⟨u25,hh⟩:=d1_ hh
 refine TL.isSl (i:=2) z (fun hs123 _ _=> ?_)
 refine TL.w z (OpVal.index z underlying86 sz3 z z hs123 u25.1 u25.2) (TL.front 2 z z ?_)
 have hn124:(l112.set ((nth x1 0 0).toNat) 0).length=(List.replicate x2.toNat (0:Int)).length:=by rw [ls_];exact hn113
 refine TL.op z (a0_ 0 z sz3 z z z z ei_ h9_ (by omega) (by omega) ?_)
 refine TL.en (TC.seq (TC.a (TL.i z z (TL.en (TC.block (TC.as_ (α:=(N_1×N_1×Nat)×((Option Addr)×Nat)) (rgs [(10,2),(13,1),(31,44)]) (fun g=>[(10,.slice g.2.1 g.1.2.1.length g.2.2),(11,.int .i64 ((g.1.2.2:Nat):Int))]) (fun g=>[cq_ b101 x0 a0_0 c0_0 a0_1 c0_1 a0_2 c0_2 a0_3 c0_3,Res.rowS 3 1 eI_ (.slice a103 (List.replicate x2.toNat (0:Int)).length c104) g.1.1,Res.rowS 3 1 eI_ (.slice g.2.1 g.1.2.1.length g.2.2) g.1.2.1]) (fun g=>σ) (fun g=>ed_ (fun q:N_1×N_1×Nat=>Cn_ x0 x1 q.1 q.2.1 q.2.2) g.1=some r∧g.1.1.length=(List.replicate x2.toNat (0:Int)).length) (fun g=>eg_ (fun q:N_1×N_1×Nat=>Cn_ x0 x1 q.1 q.2.1 q.2.2) g.1) (((l112.set ((nth x1 0 0).toNat) 0),[0],0),(a120,c121)) (Sub.f [1,1,2] 3) z (by repeat (first|exact trivial|refine ⟨z,?_⟩)) ⟨hh,hn124⟩ (fun g2 j2 hg2=> ?_)))))))
 obtain ⟨⟨l138,l140,k143⟩,⟨a141,c142⟩⟩:=g2
 obtain ⟨hh,hn139⟩:=hg2
 try dsimp only at hn139 ⊢
 obtain ⟨z1,hh,hR1⟩:=ek_ hh
 dsimp only [Cn_]at hh
 refine TC.isSl (i:=1) z (fun _ hb144 _=> ?_)
 refine TC.isSl (i:=2) z (fun _ hb145 _=> ?_)
 refine TC.seq (TC.a (TL.i z z (TL.s z z (TL.w z (lenC z underlying86 z) (TL.w z (OpVal.lss z z z) (TL.en (TC.cD z hh (fun h146 hh=> ?_) (fun h146 hh=> ?_))))))))
 ·refine TC.skip (S.n (TC.seq (TC.block (TC.seq ?_))))
  obtain ⟨u38,hh⟩:=d1_ hh
  refine TC.draw [] (by kernel_rfl) (TA.a 0 z (aa_ z e0_ z) z (TA.b 1 z (ab_ z hn_ z (i:=0) z z) z (TA.a 2 z (ak_ (.inl z) z) z (TA.a 3 z (aj_ (.inl z) z) z (TA.isSl (i:=2) z (fun hs149 _ _=> ?_))))))
  refine TA.b 4 z (af_ z underlying86 sz3 z z hs149 (by omega)) z (TA.b 5 z (a3_ (0:Int) z ag3 z (q:=2) z ei_ (by omega) z) z (TA.b 6 z (OpVal.index z underlying27 fh_ z z f0_0.isSl u38.1 u38.2) z ?_))
  obtain ⟨p150,hk150,hg150⟩:=RZ.seg f0_0 ((nth l140 k143 0).toNat) (by omega)
  replace hk150:rS_ _ eI_ p150.1 p150.2 (nth x0.next ((nth l140 k143 0).toNat) []):=hk150
  have hk150b:=hk150.rv.big
  refine TA.b 7 z (OpVal.of (an_ z iv_ z hg150 z) (v':= .slice p150.1 ((nth x0.next ((nth l140 k143 0).toNat) []).length) p150.2) z) z (TA.b 8 z (lenC z underlying86 z) z (TA.a 9 z (aj_ (.inl z) z) z (TA.dn (S.n (TC.block (TC.as_ (α:=(N_1×N_1×Nat)×((Option Addr)×Nat)) (rgs [(10,1),(13,1),(46,29)]) (fun g=>[(10,.slice g.2.1 g.1.2.1.length g.2.2),(46,.int .i64 ((g.1.2.2:Nat):Int))]) (fun g=>[cq_ b101 x0 a0_0 c0_0 a0_1 c0_1 a0_2 c0_2 a0_3 c0_3,Res.rowS 3 1 eI_ (.slice a103 (List.replicate x2.toNat (0:Int)).length c104) g.1.1,Res.rowS 3 1 eI_ (.slice g.2.1 g.1.2.1.length g.2.2) g.1.2.1]) (fun g=>σ) (fun g=>ed_ (fun q:N_1×N_1×Nat=>Bc_ x0 l140 k143 x1 q.1 q.2.1 q.2.2) g.1=some z1∧g.1.1.length=(List.replicate x2.toNat (0:Int)).length) (fun g=>eg_ (fun q:N_1×N_1×Nat=>Bc_ x0 l140 k143 x1 q.1 q.2.1 q.2.2) g.1) ((l138,l140,0),(a141,c142)) (Sub.f [2,2,2] 3) z (by repeat (first|exact trivial|refine ⟨z,?_⟩)) ⟨hh,hn139⟩ (fun g3 j3 hg3=> ?_)))))))
  obtain ⟨⟨l164,l166,k169⟩,⟨a167,c168⟩⟩:=g3
  obtain ⟨hh,hn165⟩:=hg3
  try dsimp only at hn165 ⊢
  obtain ⟨z2,hh,hR2⟩:=ek_ hh
  dsimp only [Bc_]at hh
  refine TC.isSl (i:=1) z (fun _ hb170 _=> ?_)
  refine TC.isSl (i:=2) z (fun _ hb171 _=> ?_)
  refine TC.a (TL.w z (OpVal.lss z z z) (TL.en (TC.seq (TC.cD z hh (fun h172 hh=> ?_) (fun h172 hh=> ?_)))))
  ·refine TC.skip (S.n (TC.cutG (α:=(N_1×N_1)×((Option Addr)×Nat)) (rgs [(10,1),(13,1),(48,26)]) (fun g=>[(10,.slice g.2.1 g.1.2.length g.2.2)]) (fun g=>[cq_ b101 x0 a0_0 c0_0 a0_1 c0_1 a0_2 c0_2 a0_3 c0_3,Res.rowS 3 1 eI_ (.slice a103 (List.replicate x2.toNat (0:Int)).length c104) g.1.1,Res.rowS 3 1 eI_ (.slice g.2.1 g.1.2.length g.2.2) g.1.2]) (fun g=>σ) (fun g=>D9_ k169 g.1.1 g.1.2=some z2∧g.1.1.length=(List.replicate x2.toNat (0:Int)).length) ?_ (fun g j hg=> ?_)))
   ·skip
    refine TC.block (TC.a (TL.w z (af_ z underlying86 sz3 z z hk150.rv.sl (by omega)) (TL.w z (al_ (0:Int) z ag3 z hk150 (by omega) z) (TL.i z z (TL.en (TC.a (TL.i z z (TL.w z (OpVal.geq z z z) (TL.j z z (TL.split 52 z (fun h178=> ?_) (fun h178=> ?_)))))))))))
    ·replace hh:=ea_ h178 hh
     replace h178:=dt_ h178
     refine TL.g z (ak_ (.inl z) z) (TL.g z (ak_ (.inl z) z) (TL.g z (aj_ (.inl z) z) ?_))
     obtain ⟨u52,hh⟩:=d1_ hh
     refine TL.g z (OpVal.index z underlying86 sz3 z z f1_0.rv.sl u52.1 u52.2) (TL.g z (al_ (0:Int) z ag3 z f1_0 (by omega) z) ?_)
     obtain ⟨u54,hh⟩:=d1_ hh
     refine TL.isSl (i:=1) z (fun hs179 _ _=> ?_)
     refine TL.g z (OpVal.index z underlying86 sz3 z z hs179 u54.1 u54.2) (TL.g z (a3_ (0:Int) z ag3 z (q:=1) z ei_ (by omega) z) (TL.g z (OpVal.lss z z z) (TL.w z (ai_ z z z) (TL.en (TC.cD z hh (fun h180 hh=> ?_) (fun h180 hh=> ?_))))))
     ·refine TC.a (TL.s z z (TL.s z z (TL.i z z ?_)))
      obtain ⟨u61,hh⟩:=d1_ hh
      refine TL.w z (OpVal.index z underlying86 sz3 z z f1_0.rv.sl u61.1 u61.2) (TL.w z (al_ (0:Int) z ag3 z f1_0 (by omega) z) (TL.s z z (TL.w z (lenC z underlying86 z) ?_)))
      obtain ⟨u65,hh⟩:=d1_ hh
      refine TL.isSl (i:=1) z (fun hs181 _ _=> ?_)
      refine TL.w z (OpVal.index z underlying86 sz3 z z hs181 u65.1 u65.2) (TL.front 1 z z ?_)
      have hn182:(l164.set ((nth x1 ((nth (nth x0.next ((nth l140 k143 0).toNat) []) k169 0).toNat) 0).toNat) ((l166.length:Nat):Int)).length=(List.replicate x2.toNat (0:Int)).length:=by rw [ls_];exact hn165
      refine TL.op z (a0_ ((l166.length:Nat):Int) z sz3 z z z z ei_ h9_ (by omega) (by omega) ?_)
      refine TL.en (TC.region (TL.s z z (TL.i z z (TL.op z (OpOk.lit (enc:=eI_) [(nth (nth x0.next ((nth l140 k143 0).toNat) []) k169 0)] z underlying86 sz3 ze3 z z z ei_ (by decide) (by decide) (0:Int) z (by decide) z (by decide) h9_ (fun a183 c184=> ?_))))))
      refine TL.front 3 z z ?_
      obtain ⟨u70,hh⟩:=d1_ hh
      refine TL.op z (ay_ z z underlying86 sz3 by3 ze3 z z (by decide) z z z (.inr ⟨_,0,z⟩) (by simpa using u70) (by decide) (fun a186 c187=> ?_))
      exact TL.s z z (TL.nil (B.n (S.n (cf (((l164.set ((nth x1 ((nth (nth x0.next ((nth l140 k143 0).toNat) []) k169 0).toNat) 0).toNat) ((l166.length:Nat):Int)),(l166++[(nth (nth x0.next ((nth l140 k143 0).toNat) []) k169 0)])),(a186,c187)) ⟨hh,hn182⟩ (Sub.f [2,3] 3)))))
     exact TC.skip (B.n (S.n (cf ((l164,l166),(a167,c168)) ⟨hh,hn165⟩ (Sub.f [2,2,2] 3))))
    replace hh:=d9_ h178 hh
    replace h178:=df_ h178
    exact TL.f z (TL.f z (TL.f z (TL.f z (TL.f z (TL.f z (TL.f z (TL.f z (TL.w z (ac_ z z z) (TL.en (TC.f z (TC.skip (B.n (S.n (cf ((l164,l166),(a167,c168)) ⟨hh,hn165⟩ (Sub.f [2,2,2] 3)))))))))))))))
   skip
   obtain ⟨⟨l173,l175⟩,⟨a176,c177⟩⟩:=g
   obtain ⟨hh,hn174⟩:=hg
   try dsimp only at hn174 ⊢
   dsimp only [D9_]at hh
   refine TC.isSl (i:=1) z (fun _ hb188 _=> ?_)
   refine TC.isSl (i:=2) z (fun _ hb189 _=> ?_)
   refine TC.region (TL.w z (OpVal.succ z z z (by omega)) (TL.i z z (TL.en ?_)))
   obtain ⟨hh,hlt190⟩:=ev_ hR2 hh
   exact lf ((l173,l175,(k169+1)),(a176,c177)) hlt190 ⟨hh,hn174⟩ (Sub.f [2,2,2] 3)
  refine TC.exit (S.x (S.x ?_))
  replace hh:=eh_ hR2 hh
  refine TC.ae_ (B.n (S.n (TC.region (TL.i z z (TL.w z (OpVal.succ z z z (by omega)) (TL.i z z (TL.en ?_)))))))
  obtain ⟨hh,hlt191⟩:=ev_ hR1 hh
  exact lf ((l164,l166,(k143+1)),(a167,c168)) hlt191 ⟨hh,hn165⟩ (Sub.f [2,2,2] 3)
 refine TC.exit (S.x (S.x ?_))
 replace hh:=eh_ hR1 hh
 refine TC.ae_ (S.n (TC.a (TL.s z z (TL.s z z (TL.s z z (TL.s z z (TL.en ?_)))))))
 rw [←hn139]
 refine TC.front 2 z z (TC.a4_ ei_ (fun τ194 hle193 hr192=> ?_))
 have hr192b:=hr192.rv.big
 refine TC.front 1 z z (TC.a4_ ei_ (fun τ197 hle196 hr195=> ?_))
 replace hr192:=hr192.mono hle196
 have hr195b:=hr195.rv.big
 refine TC.rt 0 ?_
 obtain rfl:=so hh
 exact rq [6,7] ⟨a141,c142,a103,c104,z,hr192,hr195,z⟩
def B5_(x1:N_1)(x0:B_1)(l110:B_1)(k112:Nat):Option ((B_1×Nat)⊕(B_1)):=
 d4_ (decide ((k112:Int)<((x1.length:Nat):Int))) (grd (0≤(nth x1 k112 0)∧(nth x1 k112 0)<(x0.length:Int)) (grd (k112<l110.length) (nxt ((l110.set k112 (nth x0 ((nth x1 k112 0).toNat) false)),(k112+1))))) (fin (some l110))
def Ge_(x0:B_1)(x1:N_1):Option (B_1):=
 grd (1 * x1.length≤281474976710656) (ed_ (fun q:B_1×Nat=>B5_ x1 x0 q.1 q.2) ((List.replicate x1.length false),0))
def I1_(σ:dw_)(r:B_1):Value→dw_→List Res→Prop:=fun v σ' H'=>
 ∃a1 c1,v= .slice a1 r.length c1∧σ=σ'∧H'=[rs_ 4 et_ a1 c1 r]
theorem Hg_{σ:dw_}{x0:B_1}{x1:N_1}(f0_0:rS_ σ et_ a0_0 c0_0 x0)(f1_0:rS_ σ eI_ a1_0 c1_0 x1){r:B_1}(hh:Ge_ x0 x1=some r):
  Con Tryz.prog 68 #[.slice a0_0 x0.length c0_0,.slice a1_0 x1.length c1_0] σ [] (I1_ σ r):=by
 dsimp only [Ge_]at hh
 have f0_0b:=f0_0.rv.big
 have f1_0b:=f1_0.rv.big
 refine Con.mk (n:=27) Tryz.func68 z z z (fun w0=> ?_)
 refine TC.a (TL.s z z (TL.en (TC.a (TL.s z z (TL.w z (lenC z underlying86 z) ?_)))))
 obtain ⟨u4,hh⟩:=d1_ hh
 refine TL.op z (a2_ (enc:=et_) false z underlying29 sz4 by4 ze4 z z z z (by omega) (by decide) ef_ (by decide) z fd_ (fun a101 c102=> ?_))
 refine TL.s z z (TL.en (TC.seq (TC.a (TL.s z z (TL.w z (lenC z underlying86 z) (TL.i z z (TL.en (TC.block (TC.as_ (α:=(B_1×Nat)×(Unit)) (rgs [(6,2),(13,13)]) (fun g=>[(13,.int .i64 ((g.1.2:Nat):Int))]) (fun g=>[Res.rowS 4 1 et_ (.slice a101 (List.replicate x1.length false).length c102) g.1.1]) (fun g=>σ) (fun g=>ed_ (fun q:B_1×Nat=>B5_ x1 x0 q.1 q.2) g.1=some r∧g.1.1.length=(List.replicate x1.length false).length) (fun g=>eg_ (fun q:B_1×Nat=>B5_ x1 x0 q.1 q.2) g.1) (((List.replicate x1.length false),0),()) (Sub.pre 1 z) z (by repeat (first|exact trivial|refine ⟨z,?_⟩)) ⟨hh,z⟩ (fun g1 j1 hg1=> ?_))))))))))
 obtain ⟨⟨l110,k112⟩,_⟩:=g1
 obtain ⟨hh,hn111⟩:=hg1
 try dsimp only at hn111 ⊢
 obtain ⟨z1,hh,hR1⟩:=ek_ hh
 dsimp only [B5_]at hh
 refine TC.isSl (i:=0) z (fun _ hb113 _=> ?_)
 refine TC.a (TL.w z (OpVal.lss z z z) (TL.en (TC.seq (TC.cD z hh (fun h114 hh=> ?_) (fun h114 hh=> ?_)))))
 ·refine TC.skip (S.n (TC.seq (TC.block (TC.a (TL.i z z (TL.w z (af_ z underlying86 sz3 z z f1_0.rv.sl (by omega)) (TL.w z (al_ (0:Int) z ag3 z f1_0 (by omega) z) (TL.i z z (TL.i z z (TL.en (TC.region (TL.s z z (TL.i z z (TL.s z z (TL.i z z ?_)))))))))))))))
  obtain ⟨u19,hh⟩:=d1_ hh
  refine TL.w z (OpVal.index z underlying29 sz4 z z f0_0.rv.sl u19.1 u19.2) (TL.w z (al_ false z ag4 z f0_0 (by omega) z) ?_)
  obtain ⟨u21,hh⟩:=d1_ hh
  refine TL.isSl (i:=0) z (fun hs115 _ _=> ?_)
  refine TL.w z (af_ z underlying29 sz4 z z hs115 (by omega)) ?_
  have hn116:(l110.set k112 (nth x0 ((nth x1 k112 0).toNat) false)).length=(List.replicate x1.length false).length:=by rw [ls_];exact hn111
  refine TL.op z (a0_ (nth x0 ((nth x1 k112 0).toNat) false) z sz4 z z z z ef_ fd_ (by omega) (by omega) ?_)
  refine TL.nil (B.n (S.n (TC.region (TL.w z (OpVal.succ z z z (by omega)) (TL.i z z (TL.en ?_))))))
  obtain ⟨hh,hlt117⟩:=ev_ hR1 hh
  exact lf (((l110.set k112 (nth x0 ((nth x1 k112 0).toNat) false)),(k112+1)),()) hlt117 ⟨hh,hn116⟩ (Sub.pre 1 z)
 refine TC.exit (S.x (S.x ?_))
 replace hh:=eh_ hR1 hh
 refine TC.ae_ (S.n (TC.a (TL.s z z (TL.s z z (TL.en ?_)))))
 rw [←hn111]
 refine TC.ret ?_
 obtain rfl:=so hh
 exact ro [rs_ 4 et_ a101 c102 l110] z (RVs.tmp z RVs.nil) ⟨a101,c102,z,z,z⟩
def B4_(x1:N_1)(x0:T_2)(l110:T_2)(k112:Nat):Option ((T_2×Nat)⊕(T_2)):=
 d4_ (decide ((k112:Int)<((x1.length:Nat):Int))) (grd (0≤(nth x1 k112 0)∧(nth x1 k112 0)<(x0.length:Int)) (grd (k112<l110.length) (nxt ((l110.set k112 (nth x0 ((nth x1 k112 0).toNat) [])),(k112+1))))) (fin (some l110))
def F6_(x0:T_2)(x1:N_1):Option (T_2):=
 grd (16 * x1.length≤281474976710656) (ed_ (fun q:T_2×Nat=>B4_ x1 x0 q.1 q.2) ((List.replicate x1.length ([]:T_1)),0))
def I2_(σ:dw_)(r:T_2):Value→dw_→List Res→Prop:=fun v σ' H'=>
 ∃a1 c1,v= .slice a1 r.length c1∧σ=σ'∧H'=[rs_ 9 eS_ a1 c1 r]
theorem Gg_{σ:dw_}{x0:T_2}{x1:N_1}(f0_0:rS_ σ eS_ a0_0 c0_0 x0)(f1_0:rS_ σ eI_ a1_0 c1_0 x1){r:T_2}(hh:F6_ x0 x1=some r):
  Con Tryz.prog 69 #[.slice a0_0 x0.length c0_0,.slice a1_0 x1.length c1_0] σ [] (I2_ σ r):=by
 dsimp only [F6_]at hh
 have f0_0b:=f0_0.rv.big
 have f1_0b:=f1_0.rv.big
 refine Con.mk (n:=27) Tryz.func69 z z z (fun w0=> ?_)
 refine TC.a (TL.s z z (TL.en (TC.a (TL.s z z (TL.w z (lenC z underlying86 z) ?_)))))
 obtain ⟨u4,hh⟩:=d1_ hh
 refine TL.op z (a2_ (enc:=eS_) ([]:T_1) z underlying30 sz9 by9 ze9 z z z z (by omega) (by decide) el_ (by decide) z of_ (fun a101 c102=> ?_))
 refine TL.s z z (TL.en (TC.seq (TC.a (TL.s z z (TL.w z (lenC z underlying86 z) (TL.i z z (TL.en (TC.block (TC.as_ (α:=(T_2×Nat)×(Unit)) (rgs [(6,2),(13,13)]) (fun g=>[(13,.int .i64 ((g.1.2:Nat):Int))]) (fun g=>[Res.rowS 9 1 eS_ (.slice a101 (List.replicate x1.length ([]:T_1)).length c102) g.1.1]) (fun g=>σ) (fun g=>ed_ (fun q:T_2×Nat=>B4_ x1 x0 q.1 q.2) g.1=some r∧g.1.1.length=(List.replicate x1.length ([]:T_1)).length) (fun g=>eg_ (fun q:T_2×Nat=>B4_ x1 x0 q.1 q.2) g.1) (((List.replicate x1.length ([]:T_1)),0),()) (Sub.pre 1 z) z (by repeat (first|exact trivial|refine ⟨z,?_⟩)) ⟨hh,z⟩ (fun g1 j1 hg1=> ?_))))))))))
 obtain ⟨⟨l110,k112⟩,_⟩:=g1
 obtain ⟨hh,hn111⟩:=hg1
 try dsimp only at hn111 ⊢
 obtain ⟨z1,hh,hR1⟩:=ek_ hh
 dsimp only [B4_]at hh
 refine TC.isSl (i:=0) z (fun _ hb113 _=> ?_)
 refine TC.a (TL.w z (OpVal.lss z z z) (TL.en (TC.seq (TC.cD z hh (fun h114 hh=> ?_) (fun h114 hh=> ?_)))))
 ·refine TC.skip (S.n (TC.seq (TC.block (TC.a (TL.i z z (TL.w z (af_ z underlying86 sz3 z z f1_0.rv.sl (by omega)) (TL.w z (al_ (0:Int) z ag3 z f1_0 (by omega) z) (TL.i z z (TL.i z z (TL.en (TC.region (TL.s z z (TL.i z z (TL.s z z (TL.i z z ?_)))))))))))))))
  obtain ⟨u19,hh⟩:=d1_ hh
  refine TL.w z (OpVal.index z underlying30 sz9 z z f0_0.rv.sl u19.1 u19.2) (TL.w z (al_ ([]:T_1) z ag9 z f0_0 (by omega) z) ?_)
  obtain ⟨u21,hh⟩:=d1_ hh
  refine TL.isSl (i:=0) z (fun hs115 _ _=> ?_)
  refine TL.w z (af_ z underlying30 sz9 z z hs115 (by omega)) ?_
  have hn116:(l110.set k112 (nth x0 ((nth x1 k112 0).toNat) [])).length=(List.replicate x1.length ([]:T_1)).length:=by rw [ls_];exact hn111
  refine TL.op z (a0_ (nth x0 ((nth x1 k112 0).toNat) []) z sz9 z z z z el_ of_ (by omega) (by omega) ?_)
  refine TL.nil (B.n (S.n (TC.region (TL.w z (OpVal.succ z z z (by omega)) (TL.i z z (TL.en ?_))))))
  obtain ⟨hh,hlt117⟩:=ev_ hR1 hh
  exact lf (((l110.set k112 (nth x0 ((nth x1 k112 0).toNat) [])),(k112+1)),()) hlt117 ⟨hh,hn116⟩ (Sub.pre 1 z)
 refine TC.exit (S.x (S.x ?_))
 replace hh:=eh_ hR1 hh
 refine TC.ae_ (S.n (TC.a (TL.s z z (TL.s z z (TL.en ?_)))))
 rw [←hn111]
 refine TC.ret ?_
 obtain rfl:=so hh
 exact ro [rs_ 9 eS_ a101 c102 l110] z (RVs.tmp z RVs.nil) ⟨a101,c102,z,z,z⟩
def Ft_(k257:Nat)(l269:N_1):Option ((N_1×Nat)⊕((N_2×T_3×Nat)⊕(Seq×Int))):=
 nxt (l269,(k257+1))
def Cw_(v24:N_1×Int)(v33:N_1×N_1)(l171:N_2)(l177:T_3)(v5:Seq×Int)(k182:Nat)(l254:N_1)(k257:Nat):Option ((N_1×Nat)⊕((N_2×T_3×Nat)⊕(Seq×Int))):=
 d4_ (decide ((k257:Int)<(((List.replicate 256 (0:Int)).length:Nat):Int))) (grd (k257<l254.length) (d4_ (decide (0≤(nth l254 k257 0))) (grd (0≤(nth l254 k257 0)∧(nth l254 k257 0)<(v24.1.length:Int)) (grd (0≤(nth v24.1 ((nth l254 k257 0).toNat) 0)∧(nth v24.1 ((nth l254 k257 0).toNat) 0)<(v33.2.length:Int)) (grd (k257<l254.length) (Ft_ k257 (l254.set k257 (nth v33.2 ((nth v24.1 ((nth l254 k257 0).toNat) 0).toNat) 0)))))) (Ft_ k257 l254))) (fin (grd ((l171.length+[l254].length) * 24≤140737488355328) (grd ((l177.length+[((List.replicate 256 ([]:T_1)).take 0++((nth v5.1.outs ((nth v33.1 k182 0).toNat) []).take (min (nth v5.1.outs ((nth v33.1 k182 0).toNat) []).length (List.replicate 256 ([]:T_1)).length)++(List.replicate 256 ([]:T_1)).drop (0+(min (nth v5.1.outs ((nth v33.1 k182 0).toNat) []).length (List.replicate 256 ([]:T_1)).length))))].length) * 24≤140737488355328) (nxt ((l171++[l254]),(l177++[((List.replicate 256 ([]:T_1)).take 0++((nth v5.1.outs ((nth v33.1 k182 0).toNat) []).take (min (nth v5.1.outs ((nth v33.1 k182 0).toNat) []).length (List.replicate 256 ([]:T_1)).length)++(List.replicate 256 ([]:T_1)).drop (0+(min (nth v5.1.outs ((nth v33.1 k182 0).toNat) []).length (List.replicate 256 ([]:T_1)).length))))]),(k182+1))))))
def Fu_(v33:N_1×N_1)(k182:Nat)(v5:Seq×Int)(v24:N_1×Int)(l171:N_2)(l177:T_3):Option ((N_2×T_3×Nat)⊕(Seq×Int)):=
 grd (0≤(nth v33.1 k182 0)∧(nth v33.1 k182 0)<(v5.1.next.length:Int)) (grd (0≤(nth v33.1 k182 0)∧(nth v33.1 k182 0)<(v5.1.outs.length:Int)) (ed_ (fun q:N_1×Nat=>Cw_ v24 v33 l171 l177 v5 k182 q.1 q.2) (((List.replicate 256 (0:Int)).take 0++((nth v5.1.next ((nth v33.1 k182 0).toNat) []).take (min (nth v5.1.next ((nth v33.1 k182 0).toNat) []).length (List.replicate 256 (0:Int)).length)++(List.replicate 256 (0:Int)).drop (0+(min (nth v5.1.next ((nth v33.1 k182 0).toNat) []).length (List.replicate 256 (0:Int)).length)))),0)))
def Cy_(v33:N_1×N_1)(v5:Seq×Int)(v24:N_1×Int)(l113:B_1)(l117:T_2)(l171:N_2)(l177:T_3)(k182:Nat):Option ((N_2×T_3×Nat)⊕(Seq×Int)):=
 d4_ (decide ((k182:Int)<((v33.1.length:Nat):Int))) (Fu_ v33 k182 v5 v24 l171 l177) (fin (some ((⟨v5.1.front,l171,l177,l113,l117⟩:Seq),0)))
def Gi_(v33:N_1×N_1)(v5:Seq×Int)(v24:N_1×Int)(l113:B_1)(l117:T_2):Option (Seq×Int):=
 ed_ (fun q:N_2×T_3×Nat=>Cy_ v33 v5 v24 l113 l117 q.1 q.2.1 q.2.2) (([]:N_2),([]:T_3),0)
def Ct_(x0:Seq):Option (Seq×Int):=
 bnd (Ex_ x0) (fun v5=>d4_ (decide (v5.2≠0)) (some ((⟨([]:T_1),([]:N_2),([]:T_3),([]:B_1),([]:T_2)⟩:Seq),v5.2)) (d4_ (decide (((v5.1.next.length:Nat):Int)=0)) (some ((⟨([]:T_1),([]:N_2),([]:T_3),([]:B_1),([]:T_2)⟩:Seq),v5.2)) (bnd (F8_ v5.1) (fun v24=>bnd (Fq_ v5.1 v24.1 v24.2) (fun v33=>bnd (Ge_ v5.1.fin v33.1) (fun v44=>bnd (F6_ v5.1.tail v33.1) (fun v48=>Gi_ v33 v5 v24 v44 v48)))))))
def Ja_(σ:dw_)(r:Seq×Int):Value→dw_→List Res→Prop:=fun v σ' H'=>
 ∃a1 c1 a2 c2 a3 c3 a4 c4,v= .tuple #[.agg (aq_ r.1 a1 c1 a2 c2 a3 c3 a4 c4),.int .i64 r.2]∧RZ σ' (d6_ 1 eI_ ei_) (.slice a1 r.1.next.length c1) r.1.next∧RZ σ' (d6_ 1 eS_ el_) (.slice a2 r.1.outs.length c2) r.1.outs∧rS_ σ' et_ a3 c3 r.1.fin∧rS_ σ' eS_ a4 c4 r.1.tail∧H'=[]
theorem Fm_{σ:dw_}{x0:Seq}(hgl:GT2 σ 1 2)(f0_0:RZ σ (d6_ 1 eI_ ei_) (.slice a0_0 x0.next.length c0_0) x0.next)(f0_1:RZ σ (d6_ 1 eS_ el_) (.slice a0_1 x0.outs.length c0_1) x0.outs)(f0_2:rS_ σ et_ a0_2 c0_2 x0.fin)(f0_3:rS_ σ eS_ a0_3 c0_3 x0.tail){r:Seq×Int}(hh:Ct_ x0=some r):
  Con Tryz.prog 29 #[.agg (aq_ x0 a0_0 c0_0 a0_1 c0_1 a0_2 c0_2 a0_3 c0_3)] σ [] (Ja_ σ r):=by
 dsimp only [Ct_]at hh
 have f0_0b:=f0_0.big
 have f0_1b:=f0_1.big
 have f0_2b:=f0_2.rv.big
 have f0_3b:=f0_3.rv.big
 refine Con.mk (n:=110) Tryz.func29 z z z (fun w0=> ?_)
 refine TC.a (TL.op z (boxA z z z z (fun b101=> ?_)))
 refine TL.op z (OpOk.alloc z jg_ z z (fun b103=> ?_))
 refine TL.i z z (TL.en (TC.a (TL.w z (am_ z gu_ fi_ z (i:=1) z z) ?_)))
 obtain ⟨v5,u5,hh⟩:=d8_ hh
 refine TL.op z (OpOk.call (Hs_ (x0:=x0) f0_0 f0_1 f0_2 f0_3 u5) z z pf35 z z z z ?_)
 rintro _ τ105 _ hle105 ⟨a105_1,c105_1,a105_2,c105_2,a105_3,c105_3,a105_4,c105_4,rfl,hr105_0,hr105_1,hr105_2,hr105_3,rfl⟩
 replace hgl:=hgl.mono hle105
 have hr105_0b:=hr105_0.big
 have hr105_1b:=hr105_1.big
 have hr105_2b:=hr105_2.rv.big
 have hr105_3b:=hr105_3.rv.big
 refine TL.w z (a5_ (.inl z) z) (TL.w z (OpVal.extract z z z) (TL.w z (OpVal.extract z z z) (TL.front 1 z z (TL.op z (storeAll z fi_ z z z z z z ?_)))))
 refine TL.i z z (TL.en (TC.seq (TC.a (TL.i z z (TL.w z (OpVal.neq z z z) (TL.j z z (TL.split 23 z (fun h106=> ?_) (fun h106=> ?_))))))))
 ·replace hh:=ea_ h106 hh
  replace h106:=dt_ h106
  refine TL.f z (TL.f z (TL.f z (TL.f z (TL.w z (ai_ z z z) (TL.en (TC.t z (TC.a (TL.w z (aw_ z ql_ jg_ z) (TL.i z z (TL.front 1 z z (TL.op z (storeAll z fi_ z z z z z z ?_))))))))))))
  refine TL.i z z (TL.en (TC.rt 1 (S.r ?_)))
  obtain rfl:=so hh
  exact ro [] z (RVs.agg gu_ fi_ z (i:=0) z z (RVs.tmp z RVs.nil)) ⟨none,0,none,0,none,0,none,0,z,(RZ.nilF _ (d6_ 1 eI_ ei_)),(RZ.nilF _ (d6_ 1 eS_ el_)),(RS.nilF _ et_ ef_),(RS.nilF _ eS_ el_),z⟩
 replace hh:=d9_ h106 hh
 replace h106:=df_ h106
 refine TL.g z (aa_ z e0_ z) (TL.g z (ab_ z hn_ z (i:=0) z z) (TL.g z (lenC z underlying27 z) (TL.g z (OpVal.eql z z z) (TL.w z (ac_ z z z) (TL.en (TC.cD z hh (fun h107 hh=> ?_) (fun h107 hh=> ?_)))))))
 ·refine TC.a (TL.w z (aw_ z ql_ jg_ z) (TL.i z z (TL.front 1 z z (TL.op z (storeAll z fi_ z z z z z z ?_)))))
  refine TL.i z z (TL.en (TC.rt 1 (S.r ?_)))
  obtain rfl:=so hh
  exact ro [] z (RVs.agg gu_ fi_ z (i:=0) z z (RVs.tmp z RVs.nil)) ⟨none,0,none,0,none,0,none,0,z,(RZ.nilF _ (d6_ 1 eI_ ei_)),(RZ.nilF _ (d6_ 1 eS_ el_)),(RS.nilF _ et_ ef_),(RS.nilF _ eS_ el_),z⟩
 refine TC.skip (S.n (TC.a (TL.w z (am_ z gu_ fi_ z (i:=0) z z) ?_)))
 obtain ⟨v24,u24,hh⟩:=d8_ hh
 refine TL.op z (OpOk.call (Ii_ (x0:=v5.1) hgl hr105_0 hr105_1 hr105_2 hr105_3 u24) z z pf66 z z z z ?_)
 rintro _ τ108 _ hle108 ⟨a108_1,c108_1,rfl,hr108_0,rfl⟩
 replace hr105_0:=hr105_0.mono hle108
 replace hr105_1:=hr105_1.mono hle108
 replace hr105_2:=hr105_2.mono hle108
 replace hr105_3:=hr105_3.mono hle108
 have hr108_0b:=hr108_0.rv.big
 refine TL.w z (a5_ (.inl z) z) (TL.w z (OpVal.extract z z z) (TL.w z (OpVal.extract z z z) (TL.s z z (TL.i z z (TL.en (TC.a (TL.w z (am_ z gu_ fi_ z (i:=0) z z) (TL.s z z (TL.i z z ?_)))))))))
 obtain ⟨v33,u33,hh⟩:=d8_ hh
 refine TL.op z (OpOk.call (In_ (x0:=v5.1) hr105_0 hr105_1 hr105_2 hr105_3 hr108_0 u33) z z pf67 z z z z ?_)
 rintro _ τ109 _ hle109 ⟨a109_1,c109_1,a109_2,c109_2,rfl,hr109_0,hr109_1,rfl⟩
 replace hr105_0:=hr105_0.mono hle109
 replace hr105_1:=hr105_1.mono hle109
 replace hr105_2:=hr105_2.mono hle109
 replace hr105_3:=hr105_3.mono hle109
 replace hr108_0:=hr108_0.mono hle109
 have hr109_0b:=hr109_0.rv.big
 have hr109_1b:=hr109_1.rv.big
 refine TL.w z (a5_ (.inl z) z) (TL.w z (OpVal.extract z z z) (TL.w z (OpVal.extract z z z) (TL.s z z (TL.s z z (TL.en (TC.cutG (α:=(B_1×T_2)×(Nat×(Option Addr)×Nat×(Option Addr)×Nat)) (rgs [(9,1),(43,11)]) (fun g=>[(9,loc g.2.1 0)]) (fun g=>[cq_ b101 v5.1 a105_1 c105_1 a105_2 c105_2 a105_3 c105_3 a105_4 c105_4,Res.cells b103 #[.string (bs ([]:T_1)),nl_,nl_,nl_,nl_] 32,Res.cells g.2.1 #[.string (bs v5.1.front),nl_,nl_,.slice g.2.2.1 g.1.1.length g.2.2.2.1,.slice g.2.2.2.2.1 g.1.2.length g.2.2.2.2.2] 32,Res.rowS 4 1 et_ (.slice g.2.2.1 g.1.1.length g.2.2.2.1) g.1.1,Res.rowS 9 1 eS_ (.slice g.2.2.2.2.1 g.1.2.length g.2.2.2.2.2) g.1.2]) (fun g=>τ109) (fun g=>Gi_ v33 v5 v24 g.1.1 g.1.2=some r) ?_ (fun g j hg=> ?_)))))))
 ·skip
  obtain ⟨v44,u44,hh⟩:=d8_ hh
  obtain ⟨v48,u48,hh⟩:=d8_ hh
  refine TC.draw [12] (by kernel_rfl) (TA.a 0 z (aa_ z g5_ z) z (TA.b 1 z (ab_ z ag9 z (i:=0) z z) z (TA.a 2 z (aa_ z f6_ z) z (TA.b 3 z (ab_ z mx_ z (i:=0) z z) z (TA.a 4 z (ak_ (.inl z) z) z (TA.a 6 z (aa_ z gd_ z) z (TA.b 7 z (ab_ z ix_ z (i:=0) z z) z (TA.a 8 z (ak_ (.inl z) z) z (TA.actN [5,11] (by kernel_rfl) (an z z (OpOk.call (Hg_ hr105_2 hr109_0 u44) z z pf68 z z z z ?_) (an z z (OpOk.alloc z jg_ z z (fun b128=>(k1 ?_))) (True.intro))))))))))))
  ·skip
   rintro _ _ _ hle126 ⟨a126_1,c126_1,rfl,rfl,rfl⟩
   refine k1 (TA.actN [9,11] (by kernel_rfl) (an z z (OpOk.call (Gg_ hr105_3 hr109_0 u48) z z pf69 z z z z ?_) (an z z (OpOk.alloc z jg_ z z (fun b132=>(k2 ?_))) (True.intro))))
   ·skip
    rintro _ _ _ hle130 ⟨a130_1,c130_1,rfl,rfl,rfl⟩
    refine k2 (TA.a 10 z (aw_ z ql_ jg_ z) z (TA.ac 11 z (OpOk.alloc z jg_ z z (fun b134=>(k3 ?_)))))
    refine TA.last 12 (by kernel_rfl) z z z (storeAll z fi_ z z z z z z ?_)
    exact TZ.done (by kernel_rfl) (S.n (cf ((v44,v48),(b134,a126_1,c126_1,a130_1,c130_1)) hh (Sub.f [1,2,2,4,4] 5)))
   skip
   refine TA.ac 9 z (OpOk.call (Gg_ hr105_3 hr109_0 u48) z z pf69 z z z z ?_)
   rintro _ _ _ hle136 ⟨a136_1,c136_1,rfl,rfl,rfl⟩
   refine k3 (TA.a 10 z (aw_ z ql_ jg_ z) z (TA.front 1 z z (TA.last 12 (by kernel_rfl) z z z (storeAll z fi_ z z z z z z ?_))))
   exact TZ.done (by kernel_rfl) (S.n (cf ((v44,v48),(b132,a126_1,c126_1,a136_1,c136_1)) hh (Sub.f [1,2,2,4,4] 5)))
  skip
  refine TA.ac 5 z (OpOk.call (Hg_ hr105_2 hr109_0 u44) z z pf68 z z z z ?_)
  rintro _ _ _ hle138 ⟨a138_1,c138_1,rfl,rfl,rfl⟩
  refine k2 (TA.ac 9 z (OpOk.call (Gg_ hr105_3 hr109_0 u48) z z pf69 z z z z ?_))
  rintro _ _ _ hle140 ⟨a140_1,c140_1,rfl,rfl,rfl⟩
  refine k3 (TA.a 10 z (aw_ z ql_ jg_ z) z (TA.front 2 z z (TA.last 12 (by kernel_rfl) z z z (storeAll z fi_ z z z z z z ?_))))
  exact TZ.done (by kernel_rfl) (S.n (cf ((v44,v48),(b128,a138_1,c138_1,a140_1,c140_1)) hh (Sub.f [1,2,2,4,4] 5)))
 skip
 obtain ⟨⟨l113,l117⟩,⟨b111,a114,c115,a118,c119⟩⟩:=g
 have hh:=hg;clear hg
 try dsimp only
 dsimp only [Gi_]at hh
 refine TC.isSl (i:=3) z (fun _ hb142 _=> ?_)
 refine TC.isSl (i:=4) z (fun _ hb143 _=> ?_)
 refine TC.seq (TC.a (TL.s z z (TL.w z (lenC z underlying86 z) (TL.i z z (TL.en (TC.block (TC.nilS 86 1 (d6_ 1 eI_ ei_).en ?_)))))))
 have zf183:=ZOk.nil τ109 (d6_ 1 eI_ ei_)
 refine TC.nilS 30 1 (d6_ 1 eS_ el_).en ?_
 have zf185:=ZOk.nil τ109 (d6_ 1 eS_ el_)
 refine TC.as_ (α:=(N_2×T_3×Nat)×((Option Addr)×Nat×(List (N_1×(d6_ 1 eI_ ei_).P))×(Option Addr)×Nat×(List (T_2×(d6_ 1 eS_ el_).P))×dw_)) (rgs [(11,5),(56,53)]) (fun g=>[(56,.int .i64 ((g.1.2.2:Nat):Int))]) (fun g=>[cq_ b101 v5.1 a105_1 c105_1 a105_2 c105_2 a105_3 c105_3 a105_4 c105_4,Res.cells b103 #[.string (bs ([]:T_1)),nl_,nl_,nl_,nl_] 32,Res.cells b111 #[.string (bs v5.1.front),.slice g.2.1 g.1.1.length g.2.2.1,.slice g.2.2.2.2.1 g.1.2.1.length g.2.2.2.2.2.1,.slice a114 l113.length c115,.slice a118 l117.length c119] 32,Res.rowS 86 1 (d6_ 1 eI_ ei_).en (.slice g.2.1 g.1.1.length g.2.2.1) g.2.2.2.1,Res.rowS 30 1 (d6_ 1 eS_ el_).en (.slice g.2.2.2.2.1 g.1.2.1.length g.2.2.2.2.2.1) g.2.2.2.2.2.2.1,rs_ 4 et_ a114 c115 l113,rs_ 9 eS_ a118 c119 l117]) (fun g=>g.2.2.2.2.2.2.2) (fun g=>ed_ (fun q:N_2×T_3×Nat=>Cy_ v33 v5 v24 l113 l117 q.1 q.2.1 q.2.2) g.1=some r∧ZOk g.2.2.2.2.2.2.2 (d6_ 1 eI_ ei_) g.2.2.2.1 g.1.1∧ZOk g.2.2.2.2.2.2.2 (d6_ 1 eS_ el_) g.2.2.2.2.2.2.1 g.1.2.1∧dw_.le τ109 g.2.2.2.2.2.2.2) (fun g=>eg_ (fun q:N_2×T_3×Nat=>Cy_ v33 v5 v24 l113 l117 q.1 q.2.1 q.2.2) g.1) ((([]:N_2),([]:T_3),0),(none,0,[],none,0,[],τ109)) (Sub.f [6,6,2,3,6,6,6] 7) z (by repeat (first|exact trivial|refine ⟨z,?_⟩)) ⟨hh,zf183,zf185,(dw_.le.refl _)⟩ (fun g1 j1 hg1=> ?_)
 obtain ⟨⟨l171,l177,k182⟩,⟨a172,c173,z174,a178,c179,z180,τ187⟩⟩:=g1
 obtain ⟨hh,zf175,zf181,hle188⟩:=hg1
 try dsimp only at zf175
 try dsimp only at zf181
 dsimp only at hle188
 replace hr105_0:=hr105_0.mono hle188
 replace hr105_1:=hr105_1.mono hle188
 replace hr108_0:=hr108_0.mono hle188
 replace hr109_0:=hr109_0.mono hle188
 replace hr109_1:=hr109_1.mono hle188
 try dsimp only
 obtain ⟨z1,hh,hR1⟩:=ek_ hh
 dsimp only [Cy_]at hh
 have zf175b:=zf175.length
 have zf181b:=zf181.length
 refine TC.isSl (i:=3) z (fun _ hb189 _=> ?_)
 refine TC.isSl (i:=4) z (fun _ hb190 _=> ?_)
 refine TC.isSl (i:=5) z (fun _ hb191 _=> ?_)
 refine TC.isSl (i:=6) z (fun _ hb192 _=> ?_)
 refine TC.a (TL.w z (OpVal.lss z z z) (TL.en (TC.seq (TC.cD z hh (fun h193 hh=> ?_) (fun h193 hh=> ?_)))))
 ·refine TC.skip (S.n (TC.seq (TC.block (TC.a (TL.w z (af_ z underlying86 sz3 z z hr109_0.rv.sl (by omega)) (TL.w z (al_ (0:Int) z ag3 z hr109_0 (by omega) z) (TL.i z z (TL.en (TC.cutG (α:=(Unit)×((Option Addr)×Nat×(Option Addr)×Nat×dw_)) [12,13,60,61] (fun g=>[(12,.slice g.2.1 ((List.replicate 256 (0:Int)).length) g.2.2.1),(13,.slice g.2.2.2.1 ((List.replicate 256 ([]:T_1)).length) g.2.2.2.2.1)]) (fun g=>[cq_ b101 v5.1 a105_1 c105_1 a105_2 c105_2 a105_3 c105_3 a105_4 c105_4,Res.cells b103 #[.string (bs ([]:T_1)),nl_,nl_,nl_,nl_] 32,Res.cells b111 #[.string (bs v5.1.front),.slice a172 l171.length c173,.slice a178 l177.length c179,.slice a114 l113.length c115,.slice a118 l117.length c119] 32,Res.rowS 86 1 (d6_ 1 eI_ ei_).en (.slice a172 l171.length c173) z174,Res.rowS 30 1 (d6_ 1 eS_ el_).en (.slice a178 l177.length c179) z180,rs_ 4 et_ a114 c115 l113,rs_ 9 eS_ a118 c119 l117,Res.rowS 3 1 eI_ (.slice g.2.1 (List.replicate 256 (0:Int)).length g.2.2.1) (List.replicate 256 (0:Int)),Res.rowS 9 1 eS_ (.slice g.2.2.2.1 (List.replicate 256 ([]:T_1)).length g.2.2.2.2.1) (List.replicate 256 ([]:T_1))]) (fun g=>g.2.2.2.2.2) (fun g=>Fu_ v33 k182 v5 v24 l171 l177=some z1∧ZOk g.2.2.2.2.2 (d6_ 1 eI_ ei_) z174 l171∧ZOk g.2.2.2.2.2 (d6_ 1 eS_ el_) z180 l177∧dw_.le τ187 g.2.2.2.2.2) ?_ (fun g j hg=> ?_))))))))))
  ·skip
   refine TC.draw [] (by kernel_rfl) (TA.actN [0,1] (by kernel_rfl) (an z z (a2_ (m:=256) (enc:=eI_) (0:Int) z underlying86 sz3 by3 ze3 z z z z (by omega) (by decide) ei_ (by decide) z h9_ (fun a208 c209=>(k1 ?_))) (an z z (a2_ (m:=256) (enc:=eS_) ([]:T_1) z underlying30 sz9 by9 ze9 z z z z (by omega) (by decide) el_ (by decide) z of_ (fun a211 c212=>(k1 ?_))) (True.intro))))
   ·skip
    refine TA.a 2 z (ak_ (.inr z) z) z (TA.ac 1 z (a2_ (m:=256) (enc:=eS_) ([]:T_1) z underlying30 sz9 by9 ze9 z z z z (by omega) (by decide) el_ (by decide) z of_ (fun a214 c215=>(k2 ?_))))
    exact TA.a 3 z (ak_ (.inr z) z) z (TA.dn (S.n (cf ((),(a208,c209,a214,c215,τ187)) ⟨hh,zf175,zf181,(dw_.le.refl _)⟩ (Sub.f [1,8,8,8,8,8,8,8] 9))))
   skip
   refine TA.ac 0 z (a2_ (m:=256) (enc:=eI_) (0:Int) z underlying86 sz3 by3 ze3 z z z z (by omega) (by decide) ei_ (by decide) z h9_ (fun a217 c218=>(k2 ?_)))
   exact TA.a 2 z (ak_ (.inr z) z) z (TA.a 3 z (ak_ (.inr z) z) z (TA.dn (S.n (cf ((),(a217,c218,a211,c212,τ187)) ⟨hh,zf175,zf181,(dw_.le.refl _)⟩ (Sub.f [1,1,8,8,8,8,8,8,8] 9)))))
  skip
  obtain ⟨_,⟨a197,c198,a200,c201,τ220⟩⟩:=g
  obtain ⟨hh,zf194,zf195,hle221⟩:=hg
  try dsimp only at zf194
  try dsimp only at zf195
  dsimp only at hle221
  replace hr105_0:=hr105_0.mono hle221
  replace hr105_1:=hr105_1.mono hle221
  replace hr108_0:=hr108_0.mono hle221
  replace hr109_1:=hr109_1.mono hle221
  replace zf175:=zf175.mono hle221
  replace zf181:=zf181.mono hle221
  try dsimp only
  dsimp only [Fu_]at hh
  have zf194b:=zf194.length
  have zf195b:=zf195.length
  refine TC.isSl (i:=3) z (fun _ hb222 _=> ?_)
  refine TC.isSl (i:=4) z (fun _ hb223 _=> ?_)
  refine TC.isSl (i:=5) z (fun _ hb224 _=> ?_)
  refine TC.isSl (i:=6) z (fun _ hb225 _=> ?_)
  refine TC.isSl (i:=7) z (fun _ hb226 _=> ?_)
  refine TC.isSl (i:=8) z (fun _ hb227 _=> ?_)
  refine TC.a (TL.s z z (TL.w z (aa_ z e0_ z) (TL.w z (ab_ z hn_ z (i:=0) z z) (TL.i z z ?_))))
  obtain ⟨u67,hh⟩:=d1_ hh
  refine TL.w z (OpVal.index z underlying27 fh_ z z hr105_0.isSl u67.1 u67.2) ?_
  obtain ⟨p228,hk228,hg228⟩:=RZ.seg hr105_0 ((nth v33.1 k182 0).toNat) (by omega)
  replace hk228:rS_ _ eI_ p228.1 p228.2 (nth v5.1.next ((nth v33.1 k182 0).toNat) []):=hk228
  have hk228b:=hk228.rv.big
  refine TL.w z (OpVal.of (an_ z iv_ z hg228 z) (v':= .slice p228.1 ((nth v5.1.next ((nth v33.1 k182 0).toNat) []).length) p228.2) z) (TL.isSl (i:=7) z (fun hs229 _ _=> ?_))
  refine TL.front 7 z z ?_
  have hn231:((List.replicate 256 (0:Int)).take 0++((nth v5.1.next ((nth v33.1 k182 0).toNat) []).take (min (nth v5.1.next ((nth v33.1 k182 0).toNat) []).length (List.replicate 256 (0:Int)).length)++(List.replicate 256 (0:Int)).drop (0+(min (nth v5.1.next ((nth v33.1 k182 0).toNat) []).length (List.replicate 256 (0:Int)).length)))).length=(List.replicate 256 (0:Int)).length:=by simp only [la_,List.length_take,List.length_drop];omega
  refine TL.op rfl (dd_ (p:=0) (N:=(min (nth v5.1.next ((nth v33.1 k182 0).toNat) []).length (List.replicate 256 (0:Int)).length)) rfl underlying86 sz3 rfl rfl rfl (VwOk.self hs229) rfl rfl (by omega) rfl (SrcC.sealed hk228 ei_) ei_ (by decide) h9_ (by first|rfl|((try simp only [List.length_take]);omega)) ?_)
  refine TL.en (TC.a (TL.s z z (TL.w z (aa_ z fb_ z) (TL.w z (ab_ z jr_ z (i:=1) z z) (TL.i z z ?_)))))
  obtain ⟨u74,hh⟩:=d1_ hh
  refine TL.w z (OpVal.index z underlying28 iy_ z z hr105_1.isSl u74.1 u74.2) ?_
  obtain ⟨p232,hk232,hg232⟩:=RZ.seg hr105_1 ((nth v33.1 k182 0).toNat) (by omega)
  replace hk232:rS_ _ eS_ p232.1 p232.2 (nth v5.1.outs ((nth v33.1 k182 0).toNat) []):=hk232
  have hk232b:=hk232.rv.big
  refine TL.w z (OpVal.of (an_ z ix_ z hg232 z) (v':= .slice p232.1 ((nth v5.1.outs ((nth v33.1 k182 0).toNat) []).length) p232.2) z) (TL.isSl (i:=8) z (fun hs233 _ _=> ?_))
  refine TL.front 8 z z ?_
  have hn235:((List.replicate 256 ([]:T_1)).take 0++((nth v5.1.outs ((nth v33.1 k182 0).toNat) []).take (min (nth v5.1.outs ((nth v33.1 k182 0).toNat) []).length (List.replicate 256 ([]:T_1)).length)++(List.replicate 256 ([]:T_1)).drop (0+(min (nth v5.1.outs ((nth v33.1 k182 0).toNat) []).length (List.replicate 256 ([]:T_1)).length)))).length=(List.replicate 256 ([]:T_1)).length:=by simp only [la_,List.length_take,List.length_drop];omega
  refine TL.op rfl (dd_ (p:=0) (N:=(min (nth v5.1.outs ((nth v33.1 k182 0).toNat) []).length (List.replicate 256 ([]:T_1)).length)) rfl underlying30 sz9 rfl rfl rfl (VwOk.self hs233) rfl rfl (by omega) rfl (SrcC.sealed hk232 el_) el_ (by decide) of_ (by first|rfl|((try simp only [List.length_take]);omega)) ?_)
  refine TL.en (TC.seq (TC.a (TL.s z z (TL.w z (lenC z underlying86 z) (TL.i z z (TL.en (TC.block (TC.as_ (α:=(N_1×Nat)×(dw_)) (rgs [(14,2),(78,18)]) (fun g=>[(78,.int .i64 ((g.1.2:Nat):Int))]) (fun g=>[cq_ b101 v5.1 a105_1 c105_1 a105_2 c105_2 a105_3 c105_3 a105_4 c105_4,Res.cells b103 #[.string (bs ([]:T_1)),nl_,nl_,nl_,nl_] 32,Res.cells b111 #[.string (bs v5.1.front),.slice a172 l171.length c173,.slice a178 l177.length c179,.slice a114 l113.length c115,.slice a118 l117.length c119] 32,Res.rowS 86 1 (d6_ 1 eI_ ei_).en (.slice a172 l171.length c173) z174,Res.rowS 30 1 (d6_ 1 eS_ el_).en (.slice a178 l177.length c179) z180,rs_ 4 et_ a114 c115 l113,rs_ 9 eS_ a118 c119 l117,Res.rowS 3 1 eI_ (.slice a197 (List.replicate 256 (0:Int)).length c198) g.1.1,Res.rowS 9 1 eS_ (.slice a200 (List.replicate 256 ([]:T_1)).length c201) ((List.replicate 256 ([]:T_1)).take 0++((nth v5.1.outs ((nth v33.1 k182 0).toNat) []).take (min (nth v5.1.outs ((nth v33.1 k182 0).toNat) []).length (List.replicate 256 ([]:T_1)).length)++(List.replicate 256 ([]:T_1)).drop (0+(min (nth v5.1.outs ((nth v33.1 k182 0).toNat) []).length (List.replicate 256 ([]:T_1)).length))))]) (fun g=>g.2) (fun g=>ed_ (fun q:N_1×Nat=>Cw_ v24 v33 l171 l177 v5 k182 q.1 q.2) g.1=some z1∧ZOk g.2 (d6_ 1 eI_ ei_) z174 l171∧ZOk g.2 (d6_ 1 eS_ el_) z180 l177∧g.1.1.length=(List.replicate 256 (0:Int)).length∧((List.replicate 256 ([]:T_1)).take 0++((nth v5.1.outs ((nth v33.1 k182 0).toNat) []).take (min (nth v5.1.outs ((nth v33.1 k182 0).toNat) []).length (List.replicate 256 ([]:T_1)).length)++(List.replicate 256 ([]:T_1)).drop (0+(min (nth v5.1.outs ((nth v33.1 k182 0).toNat) []).length (List.replicate 256 ([]:T_1)).length)))).length=(List.replicate 256 ([]:T_1)).length∧dw_.le τ220 g.2) (fun g=>eg_ (fun q:N_1×Nat=>Cw_ v24 v33 l171 l177 v5 k182 q.1 q.2) g.1) ((((List.replicate 256 (0:Int)).take 0++((nth v5.1.next ((nth v33.1 k182 0).toNat) []).take (min (nth v5.1.next ((nth v33.1 k182 0).toNat) []).length (List.replicate 256 (0:Int)).length)++(List.replicate 256 (0:Int)).drop (0+(min (nth v5.1.next ((nth v33.1 k182 0).toNat) []).length (List.replicate 256 (0:Int)).length)))),0),τ220) (Sub.f [1,8,8,8,8,8,8,8] 9) z (by repeat (first|exact trivial|refine ⟨z,?_⟩)) ⟨hh,zf194,zf195,hn231,hn235,(dw_.le.refl _)⟩ (fun g2 j2 hg2=> ?_)))))))))
  obtain ⟨⟨l254,k257⟩,τ258⟩:=g2
  obtain ⟨hh,zf252,zf253,hn255,hn256,hle259⟩:=hg2
  try dsimp only at zf252
  try dsimp only at zf253
  try dsimp only at hn255
  try dsimp only at hn256
  dsimp only at hle259
  replace hr108_0:=hr108_0.mono hle259
  replace hr109_1:=hr109_1.mono hle259
  replace zf175:=zf175.mono hle259
  replace zf181:=zf181.mono hle259
  try dsimp only
  obtain ⟨z2,hh,hR2⟩:=ek_ hh
  dsimp only [Cw_]at hh
  have zf252b:=zf252.length
  have zf253b:=zf253.length
  refine TC.isSl (i:=3) z (fun _ hb260 _=> ?_)
  refine TC.isSl (i:=4) z (fun _ hb261 _=> ?_)
  refine TC.isSl (i:=5) z (fun _ hb262 _=> ?_)
  refine TC.isSl (i:=6) z (fun _ hb263 _=> ?_)
  refine TC.isSl (i:=7) z (fun _ hb264 _=> ?_)
  refine TC.isSl (i:=8) z (fun _ hb265 _=> ?_)
  refine TC.a (TL.w z (OpVal.lss z z z) (TL.en (TC.seq (TC.cD z hh (fun h266 hh=> ?_) (fun h266 hh=> ?_)))))
  ·refine TC.skip (S.n (TC.cutG (α:=(N_1)×(dw_)) (rgs [(14,2),(80,15)]) (fun g=>[]) (fun g=>[cq_ b101 v5.1 a105_1 c105_1 a105_2 c105_2 a105_3 c105_3 a105_4 c105_4,Res.cells b103 #[.string (bs ([]:T_1)),nl_,nl_,nl_,nl_] 32,Res.cells b111 #[.string (bs v5.1.front),.slice a172 l171.length c173,.slice a178 l177.length c179,.slice a114 l113.length c115,.slice a118 l117.length c119] 32,Res.rowS 86 1 (d6_ 1 eI_ ei_).en (.slice a172 l171.length c173) z174,Res.rowS 30 1 (d6_ 1 eS_ el_).en (.slice a178 l177.length c179) z180,rs_ 4 et_ a114 c115 l113,rs_ 9 eS_ a118 c119 l117,Res.rowS 3 1 eI_ (.slice a197 (List.replicate 256 (0:Int)).length c198) g.1,Res.rowS 9 1 eS_ (.slice a200 (List.replicate 256 ([]:T_1)).length c201) ((List.replicate 256 ([]:T_1)).take 0++((nth v5.1.outs ((nth v33.1 k182 0).toNat) []).take (min (nth v5.1.outs ((nth v33.1 k182 0).toNat) []).length (List.replicate 256 ([]:T_1)).length)++(List.replicate 256 ([]:T_1)).drop (0+(min (nth v5.1.outs ((nth v33.1 k182 0).toNat) []).length (List.replicate 256 ([]:T_1)).length))))]) (fun g=>g.2) (fun g=>Ft_ k257 g.1=some z2∧ZOk g.2 (d6_ 1 eI_ ei_) z174 l171∧ZOk g.2 (d6_ 1 eS_ el_) z180 l177∧g.1.length=(List.replicate 256 (0:Int)).length∧((List.replicate 256 ([]:T_1)).take 0++((nth v5.1.outs ((nth v33.1 k182 0).toNat) []).take (min (nth v5.1.outs ((nth v33.1 k182 0).toNat) []).length (List.replicate 256 ([]:T_1)).length)++(List.replicate 256 ([]:T_1)).drop (0+(min (nth v5.1.outs ((nth v33.1 k182 0).toNat) []).length (List.replicate 256 ([]:T_1)).length)))).length=(List.replicate 256 ([]:T_1)).length∧dw_.le τ258 g.2) ?_ (fun g j hg=> ?_)))
   ·skip
    refine TC.block (TC.a (TL.i z z ?_))
    obtain ⟨u82,hh⟩:=d1_ hh
    refine TL.isSl (i:=7) z (fun hs272 _ _=> ?_)
    refine TL.w z (af_ z underlying86 sz3 z z hs272 (by omega)) (TL.w z (a3_ (0:Int) z ag3 z (q:=7) z ei_ (by omega) z) (TL.i z z (TL.i z z (TL.en (TC.a (TL.i z z (TL.w z (OpVal.geq z z z) (TL.en (TC.cD z hh (fun h273 hh=> ?_) (fun h273 hh=> ?_))))))))))
    ·refine TC.region (TL.s z z (TL.i z z (TL.s z z (TL.s z z (TL.i z z ?_)))))
     obtain ⟨u93,hh⟩:=d1_ hh
     refine TL.w z (OpVal.index z underlying86 sz3 z z hr108_0.rv.sl u93.1 u93.2) (TL.w z (al_ (0:Int) z ag3 z hr108_0 (by omega) z) ?_)
     obtain ⟨u95,hh⟩:=d1_ hh
     refine TL.w z (OpVal.index z underlying86 sz3 z z hr109_1.rv.sl u95.1 u95.2) (TL.w z (al_ (0:Int) z ag3 z hr109_1 (by omega) z) ?_)
     obtain ⟨u97,hh⟩:=d1_ hh
     refine TL.isSl (i:=7) z (fun hs274 _ _=> ?_)
     refine TL.w z (af_ z underlying86 sz3 z z hs274 (by omega)) (TL.front 7 z z ?_)
     have hn275:(l254.set k257 (nth v33.2 ((nth v24.1 ((nth l254 k257 0).toNat) 0).toNat) 0)).length=(List.replicate 256 (0:Int)).length:=by rw [ls_];exact hn255
     refine TL.op z (a0_ (nth v33.2 ((nth v24.1 ((nth l254 k257 0).toNat) 0).toNat) 0) z sz3 z z z z ei_ h9_ (by omega) (by omega) ?_)
     exact TL.nil (B.n (S.n (cf ((l254.set k257 (nth v33.2 ((nth v24.1 ((nth l254 k257 0).toNat) 0).toNat) 0)),τ258) ⟨hh,zf252,zf253,hn275,hn256,(dw_.le.refl _)⟩ (Sub.f [8,1,8,8,8,8,8,8,8] 9))))
    exact TC.skip (B.n (S.n (cf (l254,τ258) ⟨hh,zf252,zf253,hn255,hn256,(dw_.le.refl _)⟩ (Sub.f [8,8,8,8,8,8,8,8,8] 9))))
   skip
   obtain ⟨l269,τ276⟩:=g
   obtain ⟨hh,zf267,zf268,hn270,hn271,hle277⟩:=hg
   try dsimp only at zf267
   try dsimp only at zf268
   try dsimp only at hn270
   try dsimp only at hn271
   dsimp only at hle277
   replace zf175:=zf175.mono hle277
   replace zf181:=zf181.mono hle277
   replace zf252:=zf252.mono hle277
   replace zf253:=zf253.mono hle277
   try dsimp only
   dsimp only [Ft_]at hh
   have zf267b:=zf267.length
   have zf268b:=zf268.length
   refine TC.isSl (i:=3) z (fun _ hb278 _=> ?_)
   refine TC.isSl (i:=4) z (fun _ hb279 _=> ?_)
   refine TC.isSl (i:=5) z (fun _ hb280 _=> ?_)
   refine TC.isSl (i:=6) z (fun _ hb281 _=> ?_)
   refine TC.isSl (i:=7) z (fun _ hb282 _=> ?_)
   refine TC.isSl (i:=8) z (fun _ hb283 _=> ?_)
   refine TC.region (TL.w z (OpVal.succ z z z (by omega)) (TL.i z z (TL.en ?_)))
   obtain ⟨hh,hlt284⟩:=ev_ hR2 hh
   exact lf ((l269,(k257+1)),τ276) hlt284 ⟨hh,zf267,zf268,hn270,hn271,(hle259.trans hle277)⟩ (Sub.f [8,8,8,8,8,8,8,8,8] 9)
  refine TC.exit (S.x (S.x ?_))
  replace hh:=eh_ hR2 hh
  refine TC.ae_ (S.n (TC.a (TL.w z (aa_ z e0_ z) (TL.w z (ab_ z hn_ z (i:=2) z z) (TL.s z z ?_)))))
  rw [show Value.slice a197 ((List.replicate 256 (0:Int)).length) c198=Value.slice a197 l254.length c198 from by rw [hn255]]
  refine TL.front 7 z z (TL.a4_ ei_ (fun τ289 hle288 hr287=> ?_))
  replace zf175:=zf175.mono hle288
  replace zf181:=zf181.mono hle288
  replace zf252:=zf252.mono hle288
  replace zf253:=zf253.mono hle288
  have hr287b:=hr287.rv.big
  have zf290:ZOk _ (d6_ 1 eI_ ei_) ([(l254,(a197,c198))]:List (N_1×(d6_ 1 eI_ ei_).P)) [l254]:=ZOk.cons (hr287) (ZOk.nil _ _)
  refine TL.op z (litZ zf290 z underlying27 fh_ z hg_ z z z (by decide) (by decide) z (by decide) z (by decide) (fun a285 c286=> ?_))
  refine TL.front 4 z z ?_
  obtain ⟨u105,hh⟩:=d1_ hh
  refine TL.op z (bf_ (k:=(d6_ 1 eI_ ei_)) zf252 zf290 z z underlying27 fh_ hx_ hg_ z z (by decide) z z z (.inr ⟨_,0,z⟩) (by simpa using u105) (by decide) (fun a292 c293 zf294=> ?_))
  refine TL.w z (aa_ z e0_ z) (TL.front 4 z z (TL.op z (ah_ z ga_ z z z z z ?_)))
  refine TL.en (TC.region (TL.w z (aa_ z fb_ z) (TL.w z (ab_ z jr_ z (i:=0) z z) (TL.s z z ?_))))
  rw [show Value.slice a200 ((List.replicate 256 ([]:T_1)).length) c201=Value.slice a200 ((List.replicate 256 ([]:T_1)).take 0++((nth v5.1.outs ((nth v33.1 k182 0).toNat) []).take (min (nth v5.1.outs ((nth v33.1 k182 0).toNat) []).length (List.replicate 256 ([]:T_1)).length)++(List.replicate 256 ([]:T_1)).drop (0+(min (nth v5.1.outs ((nth v33.1 k182 0).toNat) []).length (List.replicate 256 ([]:T_1)).length)))).length c201 from by rw [hn256]]
  refine TL.front 8 z z (TL.a4_ el_ (fun τ299 hle298 hr297=> ?_))
  replace zf175:=zf175.mono hle298
  replace zf181:=zf181.mono hle298
  replace zf253:=zf253.mono hle298
  replace zf294:=zf294.mono hle298
  have hr297b:=hr297.rv.big
  have zf300:ZOk _ (d6_ 1 eS_ el_) ([(((List.replicate 256 ([]:T_1)).take 0++((nth v5.1.outs ((nth v33.1 k182 0).toNat) []).take (min (nth v5.1.outs ((nth v33.1 k182 0).toNat) []).length (List.replicate 256 ([]:T_1)).length)++(List.replicate 256 ([]:T_1)).drop (0+(min (nth v5.1.outs ((nth v33.1 k182 0).toNat) []).length (List.replicate 256 ([]:T_1)).length)))),(a200,c201))]:List (T_2×(d6_ 1 eS_ el_).P)) [((List.replicate 256 ([]:T_1)).take 0++((nth v5.1.outs ((nth v33.1 k182 0).toNat) []).take (min (nth v5.1.outs ((nth v33.1 k182 0).toNat) []).length (List.replicate 256 ([]:T_1)).length)++(List.replicate 256 ([]:T_1)).drop (0+(min (nth v5.1.outs ((nth v33.1 k182 0).toNat) []).length (List.replicate 256 ([]:T_1)).length))))]:=ZOk.cons (hr297) (ZOk.nil _ _)
  refine TL.op z (litZ zf300 z underlying28 iy_ z wg_ z z z (by decide) (by decide) z (by decide) z (by decide) (fun a295 c296=> ?_))
  refine TL.front 6 z z ?_
  obtain ⟨u112,hh⟩:=d1_ hh
  refine TL.op z (bf_ (k:=(d6_ 1 eS_ el_)) zf253 zf300 z z underlying28 iy_ zy_ wg_ z z (by decide) z z z (.inr ⟨_,0,z⟩) (by simpa using u112) (by decide) (fun a302 c303 zf304=> ?_))
  refine TL.w z (aa_ z fb_ z) (TL.front 2 z z (TL.op z (ah_ z zo_ z z z z z ?_)))
  refine TL.nil (B.n (S.n (TC.region (TL.w z (OpVal.succ z z z (by omega)) (TL.i z z (TL.en ?_))))))
  obtain ⟨hh,hlt305⟩:=ev_ hR1 hh
  exact lf (((l171++[l254]),(l177++[((List.replicate 256 ([]:T_1)).take 0++((nth v5.1.outs ((nth v33.1 k182 0).toNat) []).take (min (nth v5.1.outs ((nth v33.1 k182 0).toNat) []).length (List.replicate 256 ([]:T_1)).length)++(List.replicate 256 ([]:T_1)).drop (0+(min (nth v5.1.outs ((nth v33.1 k182 0).toNat) []).length (List.replicate 256 ([]:T_1)).length))))]),(k182+1)),(a292,c293,(z174++([(l254,(a197,c198))]:List (N_1×(d6_ 1 eI_ ei_).P))),a302,c303,(z180++([(((List.replicate 256 ([]:T_1)).take 0++((nth v5.1.outs ((nth v33.1 k182 0).toNat) []).take (min (nth v5.1.outs ((nth v33.1 k182 0).toNat) []).length (List.replicate 256 ([]:T_1)).length)++(List.replicate 256 ([]:T_1)).drop (0+(min (nth v5.1.outs ((nth v33.1 k182 0).toNat) []).length (List.replicate 256 ([]:T_1)).length)))),(a200,c201))]:List (T_2×(d6_ 1 eS_ el_).P))),τ299)) hlt305 ⟨hh,zf294,zf304,((((hle188.trans hle221).trans hle259).trans hle288).trans hle298)⟩ (Sub.f [8,8,3,5,4,8,8] 7)
 refine TC.exit (S.x (S.x ?_))
 replace hh:=eh_ hR1 hh
 refine TC.ae_ (S.n (TC.a (TL.w z (am_ z gu_ fi_ z (i:=2) z z) (TL.front 1 z z (TL.op z (storeAll z fi_ z z z z z z ?_))))))
 refine TL.i z z (TL.en (TC.front 3 z z (TC.b0_ zf175 (fun τ308 hle307 hr306=> ?_))))
 replace zf181:=zf181.mono hle307
 have hr306b:=hr306.big
 refine TC.front 3 z z (TC.b0_ zf181 (fun τ311 hle310 hr309=> ?_))
 replace hr306:=hr306.mono hle310
 have hr309b:=hr309.big
 refine TC.front 3 z z (TC.a4_ ef_ (fun τ314 hle313 hr312=> ?_))
 replace hr306:=hr306.mono hle313
 replace hr309:=hr309.mono hle313
 have hr312b:=hr312.rv.big
 refine TC.front 3 z z (TC.a4_ el_ (fun τ317 hle316 hr315=> ?_))
 replace hr306:=hr306.mono hle316
 replace hr309:=hr309.mono hle316
 replace hr312:=hr312.mono hle316
 have hr315b:=hr315.rv.big
 refine TC.rt 1 ?_
 obtain rfl:=so hh
 exact ro [] z (RVs.agg gu_ fi_ z (i:=0) z z (RVs.tmp z RVs.nil)) ⟨a172,c173,a178,c179,a114,c115,a118,c119,z,hr306,hr309,hr312,hr315,z⟩
def Dr_(x0:B_1)(x1:B_1)(k104:Nat):Option ((Nat)⊕(Bool)):=
 d4_ (decide ((k104:Int)<((x0.length:Nat):Int))) (grd (k104<x1.length) (d4_ ((nth x0 k104 false) != (nth x1 k104 false)) (fin (some false)) (nxt (k104+1)))) (fin (some true))
def E0_(x0:B_1)(x1:B_1):Option (Bool):=
 d4_ (decide (((x0.length:Nat):Int)≠((x1.length:Nat):Int))) (some false) (ed_ (fun q:Nat=>Dr_ x0 x1 q) 0)
theorem H3_{σ:dw_}{x0:B_1}{x1:B_1}(f0_0:rS_ σ et_ a0_0 c0_0 x0)(f1_0:rS_ σ et_ a1_0 c1_0 x1){r:Bool}(hh:E0_ x0 x1=some r):
  Con Tryz.prog 113 #[.slice a0_0 x0.length c0_0,.slice a1_0 x1.length c1_0] σ [] (e5_ (.bool r) σ):=by
 dsimp only [E0_]at hh
 have f0_0b:=f0_0.rv.big
 have f1_0b:=f1_0.rv.big
 refine Con.mk (n:=26) Tryz.func113 z z z (fun w0=> ?_)
 refine TC.a (TL.j z z (TL.en (TC.seq (TC.a (TL.s z z (TL.w z (lenC z underlying29 z) (TL.s z z (TL.w z (lenC z underlying29 z) (TL.w z (OpVal.neq z z z) (TL.en (TC.cD z hh (fun h101 hh=> ?_) (fun h101 hh=> ?_))))))))))))
 ·refine TC.a (TL.j z z (TL.en (TC.ret (S.r ?_))))
  obtain rfl:=so hh
  exact rq [4] ⟨z,z,z⟩
 refine TC.skip (S.n (TC.seq (TC.a (TL.s z z (TL.w z (lenC z underlying29 z) (TL.i z z (TL.en (TC.block (TC.as_ (α:=(Nat)×(Unit)) (rgs [(4,2),(13,13)]) (fun g=>[(13,.int .i64 ((g.1:Nat):Int))]) (fun g=>[]) (fun g=>σ) (fun g=>ed_ (fun q:Nat=>Dr_ x0 x1 q) g.1=some r) (fun g=>eg_ (fun q:Nat=>Dr_ x0 x1 q) g.1) (0,()) (Sub.pre 0 z) z (by repeat (first|exact trivial|refine ⟨z,?_⟩)) hh (fun g1 j1 hg1=> ?_))))))))))
 obtain ⟨k104,_⟩:=g1
 have hh:=hg1;clear hg1
 try dsimp only
 obtain ⟨z1,hh,hR1⟩:=ek_ hh
 dsimp only [Dr_]at hh
 refine TC.a (TL.w z (OpVal.lss z z z) (TL.en (TC.seq (TC.cD z hh (fun h105 hh=> ?_) (fun h105 hh=> ?_)))))
 ·refine TC.skip (S.n (TC.seq (TC.block (TC.a (TL.i z z (TL.i z z (TL.en (TC.seq ?_))))))))
  obtain ⟨u20,hh⟩:=d1_ hh
  refine TC.draw [] (by kernel_rfl) (TA.a 0 z (ak_ (.inl z) z) z (TA.a 1 z (aj_ (.inl z) z) z (TA.b 2 z (af_ z underlying29 sz4 z z f0_0.rv.sl (by omega)) z (TA.b 3 z (al_ false z ag4 z f0_0 (by omega) z) z (TA.a 4 z (ak_ (.inl z) z) z (TA.a 5 z (aj_ (.inl z) z) z (TA.b 6 z (af_ z underlying29 sz4 z z f1_0.rv.sl (by omega)) z (TA.b 7 z (al_ false z ag4 z f1_0 (by omega) z) z (TA.a 8 z (neqB z z z underlying4) z (TA.dn (S.n (TC.cB z hh (fun h106 hh=> ?_) (fun h106 hh=> ?_)))))))))))))
  ·refine TC.a (TL.j z z (TL.en (TC.ret (B.r (S.r (S.r ?_))))))
   replace hh:=eh_ hR1 hh
   refine B.r (S.r ?_)
   obtain rfl:=so hh
   exact rq [4] ⟨z,z,z⟩
  refine TC.skip (B.n (S.n (TC.region (TL.w z (OpVal.succ z z z (by omega)) (TL.i z z (TL.en ?_))))))
  obtain ⟨hh,hlt107⟩:=ev_ hR1 hh
  exact lf ((k104+1),()) hlt107 hh (Sub.pre 0 z)
 refine TC.exit (S.x (S.x ?_))
 replace hh:=eh_ hR1 hh
 refine TC.ae_ (S.n (TC.a (TL.j z z (TL.en (TC.ret ?_)))))
 obtain rfl:=so hh
 exact rq [4] ⟨z,z,z⟩
def Dx_(x0:T_2)(x1:T_2)(k104:Nat):Option ((Nat)⊕(Bool)):=
 d4_ (decide ((k104:Int)<((x0.length:Nat):Int))) (grd (k104<x1.length) (d4_ (decide ((nth x0 k104 [])≠(nth x1 k104 []))) (fin (some false)) (nxt (k104+1)))) (fin (some true))
def D8_(x0:T_2)(x1:T_2):Option (Bool):=
 d4_ (decide (((x0.length:Nat):Int)≠((x1.length:Nat):Int))) (some false) (ed_ (fun q:Nat=>Dx_ x0 x1 q) 0)
theorem Gz_{σ:dw_}{x0:T_2}{x1:T_2}(f0_0:rS_ σ eS_ a0_0 c0_0 x0)(f1_0:rS_ σ eS_ a1_0 c1_0 x1){r:Bool}(hh:D8_ x0 x1=some r):
  Con Tryz.prog 114 #[.slice a0_0 x0.length c0_0,.slice a1_0 x1.length c1_0] σ [] (e5_ (.bool r) σ):=by
 dsimp only [D8_]at hh
 have f0_0b:=f0_0.rv.big
 have f1_0b:=f1_0.rv.big
 refine Con.mk (n:=26) Tryz.func114 z z z (fun w0=> ?_)
 refine TC.a (TL.j z z (TL.en (TC.seq (TC.a (TL.s z z (TL.w z (lenC z underlying30 z) (TL.s z z (TL.w z (lenC z underlying30 z) (TL.w z (OpVal.neq z z z) (TL.en (TC.cD z hh (fun h101 hh=> ?_) (fun h101 hh=> ?_))))))))))))
 ·refine TC.a (TL.j z z (TL.en (TC.ret (S.r ?_))))
  obtain rfl:=so hh
  exact rq [4] ⟨z,z,z⟩
 refine TC.skip (S.n (TC.seq (TC.a (TL.s z z (TL.w z (lenC z underlying30 z) (TL.i z z (TL.en (TC.block (TC.as_ (α:=(Nat)×(Unit)) (rgs [(4,2),(13,13)]) (fun g=>[(13,.int .i64 ((g.1:Nat):Int))]) (fun g=>[]) (fun g=>σ) (fun g=>ed_ (fun q:Nat=>Dx_ x0 x1 q) g.1=some r) (fun g=>eg_ (fun q:Nat=>Dx_ x0 x1 q) g.1) (0,()) (Sub.pre 0 z) z (by repeat (first|exact trivial|refine ⟨z,?_⟩)) hh (fun g1 j1 hg1=> ?_))))))))))
 obtain ⟨k104,_⟩:=g1
 have hh:=hg1;clear hg1
 try dsimp only
 obtain ⟨z1,hh,hR1⟩:=ek_ hh
 dsimp only [Dx_]at hh
 refine TC.a (TL.w z (OpVal.lss z z z) (TL.en (TC.seq (TC.cD z hh (fun h105 hh=> ?_) (fun h105 hh=> ?_)))))
 ·refine TC.skip (S.n (TC.seq (TC.block (TC.a (TL.i z z (TL.i z z (TL.en (TC.seq ?_))))))))
  obtain ⟨u20,hh⟩:=d1_ hh
  refine TC.draw [] (by kernel_rfl) (TA.a 0 z (ak_ (.inl z) z) z (TA.a 1 z (aj_ (.inl z) z) z (TA.b 2 z (af_ z underlying30 sz9 z z f0_0.rv.sl (by omega)) z (TA.b 3 z (al_ ([]:T_1) z ag9 z f0_0 (by omega) z) z (TA.a 4 z (ak_ (.inl z) z) z (TA.a 5 z (aj_ (.inl z) z) z (TA.b 6 z (af_ z underlying30 sz9 z z f1_0.rv.sl (by omega)) z (TA.b 7 z (al_ ([]:T_1) z ag9 z f1_0 (by omega) z) z (TA.a 8 z (bw_ z z z) z (TA.dn (S.n (TC.cD z hh (fun h106 hh=> ?_) (fun h106 hh=> ?_)))))))))))))
  ·refine TC.a (TL.j z z (TL.en (TC.ret (B.r (S.r (S.r ?_))))))
   replace hh:=eh_ hR1 hh
   refine B.r (S.r ?_)
   obtain rfl:=so hh
   exact rq [4] ⟨z,z,z⟩
  refine TC.skip (B.n (S.n (TC.region (TL.w z (OpVal.succ z z z (by omega)) (TL.i z z (TL.en ?_))))))
  obtain ⟨hh,hlt107⟩:=ev_ hR1 hh
  exact lf ((k104+1),()) hlt107 hh (Sub.pre 0 z)
 refine TC.exit (S.x (S.x ?_))
 replace hh:=eh_ hR1 hh
 refine TC.ae_ (S.n (TC.a (TL.j z z (TL.en (TC.ret ?_)))))
 obtain rfl:=so hh
 exact rq [4] ⟨z,z,z⟩
def Ds_(x0:N_1)(x1:N_1)(k104:Nat):Option ((Nat)⊕(Bool)):=
 d4_ (decide ((k104:Int)<((x0.length:Nat):Int))) (grd (k104<x1.length) (d4_ (decide ((nth x0 k104 0)≠(nth x1 k104 0))) (fin (some false)) (nxt (k104+1)))) (fin (some true))
def E3_(x0:N_1)(x1:N_1):Option (Bool):=
 d4_ (decide (((x0.length:Nat):Int)≠((x1.length:Nat):Int))) (some false) (ed_ (fun q:Nat=>Ds_ x0 x1 q) 0)
theorem H4_{σ:dw_}{x0:N_1}{x1:N_1}(f0_0:rS_ σ eI_ a0_0 c0_0 x0)(f1_0:rS_ σ eI_ a1_0 c1_0 x1){r:Bool}(hh:E3_ x0 x1=some r):
  Con Tryz.prog 116 #[.slice a0_0 x0.length c0_0,.slice a1_0 x1.length c1_0] σ [] (e5_ (.bool r) σ):=by
 dsimp only [E3_]at hh
 have f0_0b:=f0_0.rv.big
 have f1_0b:=f1_0.rv.big
 refine Con.mk (n:=26) Tryz.func116 z z z (fun w0=> ?_)
 refine TC.a (TL.j z z (TL.en (TC.seq (TC.a (TL.s z z (TL.w z (lenC z underlying86 z) (TL.s z z (TL.w z (lenC z underlying86 z) (TL.w z (OpVal.neq z z z) (TL.en (TC.cD z hh (fun h101 hh=> ?_) (fun h101 hh=> ?_))))))))))))
 ·refine TC.a (TL.j z z (TL.en (TC.ret (S.r ?_))))
  obtain rfl:=so hh
  exact rq [4] ⟨z,z,z⟩
 refine TC.skip (S.n (TC.seq (TC.a (TL.s z z (TL.w z (lenC z underlying86 z) (TL.i z z (TL.en (TC.block (TC.as_ (α:=(Nat)×(Unit)) (rgs [(4,2),(13,13)]) (fun g=>[(13,.int .i64 ((g.1:Nat):Int))]) (fun g=>[]) (fun g=>σ) (fun g=>ed_ (fun q:Nat=>Ds_ x0 x1 q) g.1=some r) (fun g=>eg_ (fun q:Nat=>Ds_ x0 x1 q) g.1) (0,()) (Sub.pre 0 z) z (by repeat (first|exact trivial|refine ⟨z,?_⟩)) hh (fun g1 j1 hg1=> ?_))))))))))
 obtain ⟨k104,_⟩:=g1
 have hh:=hg1;clear hg1
 try dsimp only
 obtain ⟨z1,hh,hR1⟩:=ek_ hh
 dsimp only [Ds_]at hh
 refine TC.a (TL.w z (OpVal.lss z z z) (TL.en (TC.seq (TC.cD z hh (fun h105 hh=> ?_) (fun h105 hh=> ?_)))))
 ·refine TC.skip (S.n (TC.seq (TC.block (TC.a (TL.i z z (TL.i z z (TL.en (TC.seq ?_))))))))
  obtain ⟨u20,hh⟩:=d1_ hh
  refine TC.draw [] (by kernel_rfl) (TA.a 0 z (ak_ (.inl z) z) z (TA.a 1 z (aj_ (.inl z) z) z (TA.b 2 z (af_ z underlying86 sz3 z z f0_0.rv.sl (by omega)) z (TA.b 3 z (al_ (0:Int) z ag3 z f0_0 (by omega) z) z (TA.a 4 z (ak_ (.inl z) z) z (TA.a 5 z (aj_ (.inl z) z) z (TA.b 6 z (af_ z underlying86 sz3 z z f1_0.rv.sl (by omega)) z (TA.b 7 z (al_ (0:Int) z ag3 z f1_0 (by omega) z) z (TA.a 8 z (OpVal.neq z z z) z (TA.dn (S.n (TC.cD z hh (fun h106 hh=> ?_) (fun h106 hh=> ?_)))))))))))))
  ·refine TC.a (TL.j z z (TL.en (TC.ret (B.r (S.r (S.r ?_))))))
   replace hh:=eh_ hR1 hh
   refine B.r (S.r ?_)
   obtain rfl:=so hh
   exact rq [4] ⟨z,z,z⟩
  refine TC.skip (B.n (S.n (TC.region (TL.w z (OpVal.succ z z z (by omega)) (TL.i z z (TL.en ?_))))))
  obtain ⟨hh,hlt107⟩:=ev_ hR1 hh
  exact lf ((k104+1),()) hlt107 hh (Sub.pre 0 z)
 refine TC.exit (S.x (S.x ?_))
 replace hh:=eh_ hR1 hh
 refine TC.ae_ (S.n (TC.a (TL.j z z (TL.en (TC.ret ?_)))))
 obtain rfl:=so hh
 exact rq [4] ⟨z,z,z⟩
def Ci_(x0:N_2)(x1:N_2)(k104:Nat):Option ((Nat)⊕(Bool)):=
 d4_ (decide ((k104:Int)<((x0.length:Nat):Int))) (grd (k104<x1.length) (bnd (E3_ (nth x0 k104 []) (nth x1 k104 [])) (fun v25=>d4_ (!v25) (fin (some false)) (nxt (k104+1))))) (fin (some true))
def Dh_(x0:N_2)(x1:N_2):Option (Bool):=
 d4_ (decide (((x0.length:Nat):Int)≠((x1.length:Nat):Int))) (some false) (ed_ (fun q:Nat=>Ci_ x0 x1 q) 0)
theorem Hb_{σ:dw_}{x0:N_2}{x1:N_2}(f0_0:RZ σ (d6_ 1 eI_ ei_) (.slice a0_0 x0.length c0_0) x0)(f1_0:RZ σ (d6_ 1 eI_ ei_) (.slice a1_0 x1.length c1_0) x1){r:Bool}(hh:Dh_ x0 x1=some r):
  Con Tryz.prog 115 #[.slice a0_0 x0.length c0_0,.slice a1_0 x1.length c1_0,.func (.func 116) #[] #[]] σ [] (e5_ (.bool r) σ):=by
 dsimp only [Dh_]at hh
 have f0_0b:=f0_0.big
 have f1_0b:=f1_0.big
 refine Con.mk (n:=32) Tryz.func115 z z z (fun w0=> ?_)
 refine TC.a (TL.j z z (TL.en (TC.seq (TC.a (TL.s z z (TL.w z (lenC z underlying27 z) (TL.s z z (TL.w z (lenC z underlying27 z) (TL.w z (OpVal.neq z z z) (TL.en (TC.cD z hh (fun h101 hh=> ?_) (fun h101 hh=> ?_))))))))))))
 ·refine TC.a (TL.j z z (TL.en (TC.ret (S.r ?_))))
  obtain rfl:=so hh
  exact rq [6] ⟨z,z,z⟩
 refine TC.skip (S.n (TC.seq (TC.a (TL.s z z (TL.w z (lenC z underlying27 z) (TL.i z z (TL.en (TC.block (TC.as_ (α:=(Nat)×(Unit)) (rgs [(6,4),(17,15)]) (fun g=>[(17,.int .i64 ((g.1:Nat):Int))]) (fun g=>[]) (fun g=>σ) (fun g=>ed_ (fun q:Nat=>Ci_ x0 x1 q) g.1=some r) (fun g=>eg_ (fun q:Nat=>Ci_ x0 x1 q) g.1) (0,()) (Sub.pre 0 z) z (by repeat (first|exact trivial|refine ⟨z,?_⟩)) hh (fun g1 j1 hg1=> ?_))))))))))
 obtain ⟨k104,_⟩:=g1
 have hh:=hg1;clear hg1
 try dsimp only
 obtain ⟨z1,hh,hR1⟩:=ek_ hh
 dsimp only [Ci_]at hh
 refine TC.a (TL.w z (OpVal.lss z z z) (TL.en (TC.seq (TC.cD z hh (fun h105 hh=> ?_) (fun h105 hh=> ?_)))))
 ·refine TC.skip (S.n (TC.seq (TC.block (TC.a (TL.i z z (TL.w z (af_ z underlying27 fh_ z z f0_0.isSl (by omega)) ?_))))))
  obtain ⟨p106,hk106,hg106⟩:=RZ.seg f0_0 k104 (by omega)
  replace hk106:rS_ _ eI_ p106.1 p106.2 (nth x0 k104 []):=hk106
  have hk106b:=hk106.rv.big
  refine TL.w z (OpVal.of (an_ z iv_ z hg106 z) (v':= .slice p106.1 ((nth x0 k104 []).length) p106.2) z) (TL.i z z (TL.s z z (TL.en (TC.a (TL.s z z (TL.i z z ?_))))))
  obtain ⟨u19,hh⟩:=d1_ hh
  refine TL.w z (af_ z underlying27 fh_ z z f1_0.isSl (by omega)) ?_
  obtain ⟨p107,hk107,hg107⟩:=RZ.seg f1_0 k104 (by omega)
  replace hk107:rS_ _ eI_ p107.1 p107.2 (nth x1 k104 []):=hk107
  have hk107b:=hk107.rv.big
  refine TL.w z (OpVal.of (an_ z iv_ z hg107 z) (v':= .slice p107.1 ((nth x1 k104 []).length) p107.2) z) (TL.s z z (TL.en (TC.a (TL.w z (bk_ (.inl z) z) (TL.s z z (TL.s z z ?_))))))
  obtain ⟨v25,u25,hh⟩:=d8_ hh
  refine TL.op z (av_ (H4_ hk106 hk107 u25) z z pf116 z z z ?_)
  refine TL.w z (OpVal.not z z) (TL.en (TC.cB z hh (fun h108 hh=> ?_) (fun h108 hh=> ?_)))
  ·refine TC.a (TL.j z z (TL.en (TC.ret (B.r (S.r (S.r ?_))))))
   replace hh:=eh_ hR1 hh
   refine B.r (S.r ?_)
   obtain rfl:=so hh
   exact rq [6] ⟨z,z,z⟩
  refine TC.skip (B.n (S.n (TC.region (TL.w z (OpVal.succ z z z (by omega)) (TL.i z z (TL.en ?_))))))
  obtain ⟨hh,hlt109⟩:=ev_ hR1 hh
  exact lf ((k104+1),()) hlt109 hh (Sub.pre 0 z)
 refine TC.exit (S.x (S.x ?_))
 replace hh:=eh_ hR1 hh
 refine TC.ae_ (S.n (TC.a (TL.j z z (TL.en (TC.ret ?_)))))
 obtain rfl:=so hh
 exact rq [6] ⟨z,z,z⟩
def Cf_(x0:T_3)(x1:T_3)(k104:Nat):Option ((Nat)⊕(Bool)):=
 d4_ (decide ((k104:Int)<((x0.length:Nat):Int))) (grd (k104<x1.length) (bnd (D8_ (nth x0 k104 []) (nth x1 k104 [])) (fun v25=>d4_ (!v25) (fin (some false)) (nxt (k104+1))))) (fin (some true))
def Dg_(x0:T_3)(x1:T_3):Option (Bool):=
 d4_ (decide (((x0.length:Nat):Int)≠((x1.length:Nat):Int))) (some false) (ed_ (fun q:Nat=>Cf_ x0 x1 q) 0)
theorem Hj_{σ:dw_}{x0:T_3}{x1:T_3}(f0_0:RZ σ (d6_ 1 eS_ el_) (.slice a0_0 x0.length c0_0) x0)(f1_0:RZ σ (d6_ 1 eS_ el_) (.slice a1_0 x1.length c1_0) x1){r:Bool}(hh:Dg_ x0 x1=some r):
  Con Tryz.prog 117 #[.slice a0_0 x0.length c0_0,.slice a1_0 x1.length c1_0,.func (.func 114) #[] #[]] σ [] (e5_ (.bool r) σ):=by
 dsimp only [Dg_]at hh
 have f0_0b:=f0_0.big
 have f1_0b:=f1_0.big
 refine Con.mk (n:=32) Tryz.func117 z z z (fun w0=> ?_)
 refine TC.a (TL.j z z (TL.en (TC.seq (TC.a (TL.s z z (TL.w z (lenC z underlying28 z) (TL.s z z (TL.w z (lenC z underlying28 z) (TL.w z (OpVal.neq z z z) (TL.en (TC.cD z hh (fun h101 hh=> ?_) (fun h101 hh=> ?_))))))))))))
 ·refine TC.a (TL.j z z (TL.en (TC.ret (S.r ?_))))
  obtain rfl:=so hh
  exact rq [6] ⟨z,z,z⟩
 refine TC.skip (S.n (TC.seq (TC.a (TL.s z z (TL.w z (lenC z underlying28 z) (TL.i z z (TL.en (TC.block (TC.as_ (α:=(Nat)×(Unit)) (rgs [(6,4),(17,15)]) (fun g=>[(17,.int .i64 ((g.1:Nat):Int))]) (fun g=>[]) (fun g=>σ) (fun g=>ed_ (fun q:Nat=>Cf_ x0 x1 q) g.1=some r) (fun g=>eg_ (fun q:Nat=>Cf_ x0 x1 q) g.1) (0,()) (Sub.pre 0 z) z (by repeat (first|exact trivial|refine ⟨z,?_⟩)) hh (fun g1 j1 hg1=> ?_))))))))))
 obtain ⟨k104,_⟩:=g1
 have hh:=hg1;clear hg1
 try dsimp only
 obtain ⟨z1,hh,hR1⟩:=ek_ hh
 dsimp only [Cf_]at hh
 refine TC.a (TL.w z (OpVal.lss z z z) (TL.en (TC.seq (TC.cD z hh (fun h105 hh=> ?_) (fun h105 hh=> ?_)))))
 ·refine TC.skip (S.n (TC.seq (TC.block (TC.a (TL.i z z (TL.w z (af_ z underlying28 iy_ z z f0_0.isSl (by omega)) ?_))))))
  obtain ⟨p106,hk106,hg106⟩:=RZ.seg f0_0 k104 (by omega)
  replace hk106:rS_ _ eS_ p106.1 p106.2 (nth x0 k104 []):=hk106
  have hk106b:=hk106.rv.big
  refine TL.w z (OpVal.of (an_ z ix_ z hg106 z) (v':= .slice p106.1 ((nth x0 k104 []).length) p106.2) z) (TL.i z z (TL.s z z (TL.en (TC.a (TL.s z z (TL.i z z ?_))))))
  obtain ⟨u19,hh⟩:=d1_ hh
  refine TL.w z (af_ z underlying28 iy_ z z f1_0.isSl (by omega)) ?_
  obtain ⟨p107,hk107,hg107⟩:=RZ.seg f1_0 k104 (by omega)
  replace hk107:rS_ _ eS_ p107.1 p107.2 (nth x1 k104 []):=hk107
  have hk107b:=hk107.rv.big
  refine TL.w z (OpVal.of (an_ z ix_ z hg107 z) (v':= .slice p107.1 ((nth x1 k104 []).length) p107.2) z) (TL.s z z (TL.en (TC.a (TL.w z (bk_ (.inl z) z) (TL.s z z (TL.s z z ?_))))))
  obtain ⟨v25,u25,hh⟩:=d8_ hh
  refine TL.op z (av_ (Gz_ hk106 hk107 u25) z z pf114 z z z ?_)
  refine TL.w z (OpVal.not z z) (TL.en (TC.cB z hh (fun h108 hh=> ?_) (fun h108 hh=> ?_)))
  ·refine TC.a (TL.j z z (TL.en (TC.ret (B.r (S.r (S.r ?_))))))
   replace hh:=eh_ hR1 hh
   refine B.r (S.r ?_)
   obtain rfl:=so hh
   exact rq [6] ⟨z,z,z⟩
  refine TC.skip (B.n (S.n (TC.region (TL.w z (OpVal.succ z z z (by omega)) (TL.i z z (TL.en ?_))))))
  obtain ⟨hh,hlt109⟩:=ev_ hR1 hh
  exact lf ((k104+1),()) hlt109 hh (Sub.pre 0 z)
 refine TC.exit (S.x (S.x ?_))
 replace hh:=eh_ hR1 hh
 refine TC.ae_ (S.n (TC.a (TL.j z z (TL.en (TC.ret ?_)))))
 obtain rfl:=so hh
 exact rq [6] ⟨z,z,z⟩
def Fp_(x0:Seq)(x1:Seq):Option (Bool):=
 d4_ (decide (x0.front=x1.front)) (bnd (E0_ x0.fin x1.fin) (fun v14=>d4_ v14 (bnd (D8_ x0.tail x1.tail) (fun v21=>d4_ v21 (bnd (Dh_ x0.next x1.next) (fun v28=>d4_ v28 (bnd (Dg_ x0.outs x1.outs) (fun v35=>some v35)) (some false))) (some false))) (some false))) (some false)
theorem Ik_{σ:dw_}{x0:Seq}{x1:Seq}(f0_0:RZ σ (d6_ 1 eI_ ei_) (.slice a0_0 x0.next.length c0_0) x0.next)(f0_1:RZ σ (d6_ 1 eS_ el_) (.slice a0_1 x0.outs.length c0_1) x0.outs)(f0_2:rS_ σ et_ a0_2 c0_2 x0.fin)(f0_3:rS_ σ eS_ a0_3 c0_3 x0.tail)(f1_0:RZ σ (d6_ 1 eI_ ei_) (.slice a1_0 x1.next.length c1_0) x1.next)(f1_1:RZ σ (d6_ 1 eS_ el_) (.slice a1_1 x1.outs.length c1_1) x1.outs)(f1_2:rS_ σ et_ a1_2 c1_2 x1.fin)(f1_3:rS_ σ eS_ a1_3 c1_3 x1.tail){r:Bool}(hh:Fp_ x0 x1=some r):
  Con Tryz.prog 76 #[.agg (aq_ x0 a0_0 c0_0 a0_1 c0_1 a0_2 c0_2 a0_3 c0_3),.agg (aq_ x1 a1_0 c1_0 a1_1 c1_1 a1_2 c1_2 a1_3 c1_3)] σ [] (e5_ (.bool r) σ):=by
 dsimp only [Fp_]at hh
 have f0_0b:=f0_0.big
 have f0_1b:=f0_1.big
 have f0_2b:=f0_2.rv.big
 have f0_3b:=f0_3.rv.big
 have f1_0b:=f1_0.big
 have f1_1b:=f1_1.big
 have f1_2b:=f1_2.rv.big
 have f1_3b:=f1_3.rv.big
 refine Con.mk (n:=38) Tryz.func76 z z z (fun w0=> ?_)
 refine TC.a (TL.op z (boxA z z z z (fun b101=> ?_)))
 refine TL.op z (boxA z z z z (fun b103=> ?_))
 refine TL.j z z (TL.en (TC.a (TL.w z (aa_ z g5_ z) (TL.w z (ab_ z ag9 z (i:=1) z z) (TL.w z (aa_ z g5_ z) (TL.w z (ab_ z ag9 z (i:=0) z z) (TL.w z (cg_ z z z) (TL.j z z (TL.split 10 z (fun h105=> ?_) (fun h105=> ?_))))))))))
 ·replace hh:=ea_ h105 hh
  replace h105:=dt_ h105
  refine TL.g z (aa_ z f6_ z) (TL.g z (ab_ z mx_ z (i:=1) z z) (TL.g z (aa_ z f6_ z) (TL.g z (ab_ z mx_ z (i:=0) z z) ?_)))
  obtain ⟨v14,u14,hh⟩:=d8_ hh
  refine TL.gon z z z z z (av_ (H3_ f0_2 f1_2 u14) z z pf113 z z z ?_)
  refine TL.w z (ai_ z z z) (TL.j z z (TL.split 17 z (fun h106=> ?_) (fun h106=> ?_)))
  ·replace hh:=ea_ h106 hh
   refine TL.g z (aa_ z gd_ z) (TL.g z (ab_ z ix_ z (i:=1) z z) (TL.g z (aa_ z gd_ z) (TL.g z (ab_ z ix_ z (i:=0) z z) ?_)))
   obtain ⟨v21,u21,hh⟩:=d8_ hh
   refine TL.gon z z z z z (av_ (Gz_ f0_3 f1_3 u21) z z pf114 z z z ?_)
   refine TL.w z (ai_ z z z) (TL.j z z (TL.split 24 z (fun h107=> ?_) (fun h107=> ?_)))
   ·replace hh:=ea_ h107 hh
    refine TL.g z (aa_ z e0_ z) (TL.g z (ab_ z hn_ z (i:=1) z z) (TL.g z (aa_ z e0_ z) (TL.g z (ab_ z hn_ z (i:=0) z z) ?_)))
    obtain ⟨v28,u28,hh⟩:=d8_ hh
    refine TL.gon z z z z z (av_ (Hb_ f0_0 f1_0 u28) z z pf115 z z z ?_)
    refine TL.w z (ai_ z z z) (TL.j z z (TL.split 31 z (fun h108=> ?_) (fun h108=> ?_)))
    ·replace hh:=ea_ h108 hh
     refine TL.g z (aa_ z fb_ z) (TL.g z (ab_ z jr_ z (i:=1) z z) (TL.g z (aa_ z fb_ z) (TL.g z (ab_ z jr_ z (i:=0) z z) ?_)))
     obtain ⟨v35,u35,hh⟩:=d8_ hh
     refine TL.gon z z z z z (av_ (Hj_ f0_1 f1_1 u35) z z pf117 z z z ?_)
     refine TL.w z (ai_ z z z) (TL.j z z (TL.en (TC.rt 0 ?_)))
     obtain rfl:=so hh
     exact rq [4] ⟨z,z,z⟩
    replace hh:=d9_ h108 hh
    refine TL.f z (TL.f z (TL.f z (TL.f z (TL.f z (TL.w z (ac_ z z z) (TL.j z z (TL.en (TC.rt 0 ?_))))))))
    obtain rfl:=so hh
    exact rq [4] ⟨z,z,z⟩
   replace hh:=d9_ h107 hh
   refine TL.f z (TL.f z (TL.f z (TL.f z (TL.f z (TL.w z (ac_ z z z) (TL.j z z (TL.f z (TL.f z (TL.f z (TL.f z (TL.f z (TL.w z (ac_ z z z) (TL.j z z (TL.en (TC.rt 0 ?_)))))))))))))))
   obtain rfl:=so hh
   exact rq [4] ⟨z,z,z⟩
  replace hh:=d9_ h106 hh
  refine TL.f z (TL.f z (TL.f z (TL.f z (TL.f z (TL.w z (ac_ z z z) (TL.j z z (TL.f z (TL.f z (TL.f z (TL.f z (TL.f z (TL.w z (ac_ z z z) (TL.j z z (TL.f z (TL.f z ?_)))))))))))))))
  refine TL.f z (TL.f z (TL.f z (TL.w z (ac_ z z z) (TL.j z z (TL.en (TC.rt 0 ?_))))))
  obtain rfl:=so hh
  exact rq [4] ⟨z,z,z⟩
 replace hh:=d9_ h105 hh
 replace h105:=df_ h105
 refine TL.f z (TL.f z (TL.f z (TL.f z (TL.f z (TL.w z (ac_ z z z) (TL.j z z (TL.f z (TL.f z (TL.f z (TL.f z (TL.f z (TL.w z (ac_ z z z) (TL.j z z (TL.f z (TL.f z ?_)))))))))))))))
 refine TL.f z (TL.f z (TL.f z (TL.w z (ac_ z z z) (TL.j z z (TL.f z (TL.f z (TL.f z (TL.f z (TL.f z (TL.w z (ac_ z z z) (TL.j z z (TL.en (TC.rt 0 ?_)))))))))))))
 obtain rfl:=so hh
 exact rq [4] ⟨z,z,z⟩
def Gq_(x0:Seq)(x1:Seq):Option (Bool×Int):=
 bnd (Dn_ x0) (fun v6=>d4_ (decide (v6≠0)) (some (false,1)) (bnd (Dn_ x1) (fun v10=>d4_ (decide (v10≠0)) (some (false,1)) (bnd (Ct_ x0) (fun v16=>d4_ (decide (v16.2≠0)) (some (false,v16.2)) (bnd (Ct_ x1) (fun v28=>d4_ (decide (v28.2≠0)) (some (false,v28.2)) (bnd (Fp_ v16.1 v28.1) (fun v41=>some (v41,0))))))))))
theorem Iv_{σ:dw_}{x0:Seq}{x1:Seq}(hgl:GT2 σ 1 2)(f0_0:RZ σ (d6_ 1 eI_ ei_) (.slice a0_0 x0.next.length c0_0) x0.next)(f0_1:RZ σ (d6_ 1 eS_ el_) (.slice a0_1 x0.outs.length c0_1) x0.outs)(f0_2:rS_ σ et_ a0_2 c0_2 x0.fin)(f0_3:rS_ σ eS_ a0_3 c0_3 x0.tail)(f1_0:RZ σ (d6_ 1 eI_ ei_) (.slice a1_0 x1.next.length c1_0) x1.next)(f1_1:RZ σ (d6_ 1 eS_ el_) (.slice a1_1 x1.outs.length c1_1) x1.outs)(f1_2:rS_ σ et_ a1_2 c1_2 x1.fin)(f1_3:rS_ σ eS_ a1_3 c1_3 x1.tail){r:Bool×Int}(hh:Gq_ x0 x1=some r):
  Con Tryz.prog 38 #[.agg (aq_ x0 a0_0 c0_0 a0_1 c0_1 a0_2 c0_2 a0_3 c0_3),.agg (aq_ x1 a1_0 c1_0 a1_1 c1_1 a1_2 c1_2 a1_3 c1_3)] σ [] (e5_ (.tuple #[.bool r.1,.int .i64 r.2]) σ):=by
 dsimp only [Gq_]at hh
 have f0_0b:=f0_0.big
 have f0_1b:=f0_1.big
 have f0_2b:=f0_2.rv.big
 have f0_3b:=f0_3.rv.big
 have f1_0b:=f1_0.big
 have f1_1b:=f1_1.big
 have f1_2b:=f1_2.rv.big
 have f1_3b:=f1_3.rv.big
 refine Con.mk (n:=34) Tryz.func38 z z z (fun w0=> ?_)
 refine TC.a (TL.op z (boxA z z z z (fun b101=> ?_)))
 refine TL.op z (boxA z z z z (fun b103=> ?_))
 refine TL.j z z (TL.i z z (TL.en (TC.seq (TC.a (TL.w z (am_ z gu_ fi_ z (i:=1) z z) ?_)))))
 obtain ⟨v6,u6,hh⟩:=d8_ hh
 refine TL.op z (av_ (Ez_ (x0:=x0) f0_0 f0_1 f0_2 f0_3 u6) z z pf23 z z z ?_)
 refine TL.w z (OpVal.neq z z z) (TL.j z z (TL.split 10 z (fun h105=> ?_) (fun h105=> ?_)))
 ·replace hh:=ea_ h105 hh
  replace h105:=dt_ h105
  refine TL.f z (TL.f z (TL.f z (TL.w z (ai_ z z z) (TL.en (TC.t z (TC.a (TL.j z z (TL.i z z (TL.en (TC.rt 0 (S.r ?_)))))))))))
  obtain rfl:=so hh
  exact rq [4,5] ⟨z,z,z⟩
 replace hh:=d9_ h105 hh
 replace h105:=df_ h105
 refine TL.g z (am_ z gu_ fi_ z (i:=0) z z) ?_
 obtain ⟨v10,u10,hh⟩:=d8_ hh
 refine TL.gon z z z z z (av_ (Ez_ (x0:=x1) f1_0 f1_1 f1_2 f1_3 u10) z z pf23 z z z ?_)
 refine TL.g z (OpVal.neq z z z) (TL.w z (ac_ z z z) (TL.en (TC.cD z hh (fun h106 hh=> ?_) (fun h106 hh=> ?_))))
 ·refine TC.a (TL.j z z (TL.i z z (TL.en (TC.rt 0 (S.r ?_)))))
  obtain rfl:=so hh
  exact rq [4,5] ⟨z,z,z⟩
 refine TC.skip (S.n (TC.a (TL.w z (am_ z gu_ fi_ z (i:=1) z z) ?_)))
 obtain ⟨v16,u16,hh⟩:=d8_ hh
 refine TL.op z (OpOk.call (Fm_ (x0:=x0) hgl f0_0 f0_1 f0_2 f0_3 u16) z z pf29 z z z z ?_)
 rintro _ τ107 _ hle107 ⟨a107_1,c107_1,a107_2,c107_2,a107_3,c107_3,a107_4,c107_4,rfl,hr107_0,hr107_1,hr107_2,hr107_3,rfl⟩
 replace f1_0:=f1_0.mono hle107
 replace f1_1:=f1_1.mono hle107
 replace f1_2:=f1_2.mono hle107
 replace f1_3:=f1_3.mono hle107
 replace hgl:=hgl.mono hle107
 have hr107_0b:=hr107_0.big
 have hr107_1b:=hr107_1.big
 have hr107_2b:=hr107_2.rv.big
 have hr107_3b:=hr107_3.rv.big
 refine TL.w z (a5_ (.inl z) z) (TL.w z (OpVal.extract z z z) (TL.w z (OpVal.extract z z z) (TL.front 1 z z (TL.op z (storeAll z fi_ z z z z z z ?_)))))
 refine TL.i z z (TL.en (TC.seq (TC.a (TL.i z z (TL.w z (OpVal.neq z z z) (TL.en (TC.cD z hh (fun h108 hh=> ?_) (fun h108 hh=> ?_))))))))
 ·refine TC.a (TL.i z z (TL.j z z (TL.i z z (TL.en (TC.ax_ (Sub.pre 0 z) (TC.back (TC.ret (S.r ?_))))))))
  obtain rfl:=so hh
  exact rq [4,5] ⟨z,z,z⟩
 refine TC.skip (S.n (TC.a (TL.w z (am_ z gu_ fi_ z (i:=1) z z) ?_)))
 obtain ⟨v28,u28,hh⟩:=d8_ hh
 refine TL.op z (OpOk.call (Fm_ (x0:=x1) hgl f1_0 f1_1 f1_2 f1_3 u28) z z pf29 z z z z ?_)
 rintro _ τ109 _ hle109 ⟨a109_1,c109_1,a109_2,c109_2,a109_3,c109_3,a109_4,c109_4,rfl,hr109_0,hr109_1,hr109_2,hr109_3,rfl⟩
 replace hr107_0:=hr107_0.mono hle109
 replace hr107_1:=hr107_1.mono hle109
 replace hr107_2:=hr107_2.mono hle109
 replace hr107_3:=hr107_3.mono hle109
 have hr109_0b:=hr109_0.big
 have hr109_1b:=hr109_1.big
 have hr109_2b:=hr109_2.rv.big
 have hr109_3b:=hr109_3.rv.big
 refine TL.w z (a5_ (.inl z) z) (TL.w z (OpVal.extract z z z) (TL.w z (OpVal.extract z z z) (TL.front 1 z z (TL.op z (storeAll z fi_ z z z z z z ?_)))))
 refine TL.i z z (TL.en (TC.seq (TC.a (TL.i z z (TL.w z (OpVal.neq z z z) (TL.en (TC.cD z hh (fun h110 hh=> ?_) (fun h110 hh=> ?_))))))))
 ·refine TC.a (TL.i z z (TL.j z z (TL.i z z (TL.en (TC.ax_ (Sub.pre 0 z) (TC.back (TC.ret (S.r ?_))))))))
  obtain rfl:=so hh
  exact rq [4,5] ⟨z,z,z⟩
 refine TC.skip (S.n (TC.a (TL.w z (am_ z gu_ fi_ z (i:=1) z z) (TL.w z (am_ z gu_ fi_ z (i:=0) z z) ?_))))
 obtain ⟨v41,u41,hh⟩:=d8_ hh
 refine TL.op z (av_ (Ik_ (x0:=v16.1) (x1:=v28.1) hr107_0 hr107_1 hr107_2 hr107_3 hr109_0 hr109_1 hr109_2 hr109_3 u41) z z pf76 z z z ?_)
 refine TL.j z z (TL.i z z (TL.en (TC.ax_ (Sub.pre 0 z) (TC.back (TC.ret ?_)))))
 obtain rfl:=so hh
 exact rq [4,5] ⟨z,z,z⟩
end Go.Proofs.YtchebnpdnfhenaaGreatDoor
end

noncomputable section
namespace Go.Proofs.YtchebnpdnfhenaaGreatDoor
open Go Go.E
structure PlI (L:N_1) (c:Nat) (st pl:N_1):Prop where
  len:pl.length=c
  at': ∀p,p<c→(nth pl p 0<0∧ ∀j,j<st.length→nth L (nth st j 0).toNat 0≠((p:Nat):Int))∨ ∃j,j<st.length∧nth pl p 0=((j:Nat):Int)∧nth L (nth st j 0).toNat 0=((p:Nat):Int)
def clL(L:N_1)(s:Nat):Int:=nth L s 0
theorem w1_{q:Seq}{L:N_1}{c:Nat}(hL:PrtR q L c){st:N_1}{V:Nat→Int}{code:Nat}(h:BfI q (clL L) st V code):st.length≤c:=by
  have hr: ∀j,j<st.length→0≤nth L (nth st j 0).toNat 0∧nth L (nth st j 0).toNat 0<((c:Nat):Int):=fun j hj=>by
    have:=h.rng j hj
    exact hL.rng _ (by omega)
  refine tp_ (n:=st.length) (f:=fun s=>s) (g:=fun j=>(nth L (nth st j 0).toNat 0).toNat) (fun k hk=>⟨k,hk,rfl⟩) (fun s hs=>by have:=hr s hs;show (nth L (nth st s 0).toNat 0).toNat<c;omega) fun s t hs ht e=> ?_
  have e:(nth L (nth st s 0).toNat 0).toNat=(nth L (nth st t 0).toNat 0).toNat:=e
  have h1:=hr s hs
  have h2:=hr t ht
  exact h.dist s t hs ht (show nth L (nth st s 0).toNat 0=nth L (nth st t 0).toNat 0 by omega)
theorem y9_ {q : Seq} (hq : d5_ q = true) {L : N_1} {c : Nat} (hL : PrtR q L c) {st pl : N_1} {V : Nat → Int} {i : Nat} (hi : i < st.length) (h : BfI q (clL L) st V (i * 256)) (hp : PlI L c st pl) :
    ∃pl' st' V',ed_ (fun z:N_1×N_1×Nat=>Bc_ q st i L z.1 z.2.1 z.2.2) (pl,st,0)=some (.inl (pl',st',i+1))∧BfI q (clL L) st' V' ((i+1) * 256)∧PlI L c st' pl'∧i+1≤st'.length:=by
  obtain ⟨q1,q2,q3,q4,q5⟩:=d3_ hq
  have hLl:=hL.len
  have hLc:=hL.le
  have hs:=h.rng i hi
  obtain ⟨s,hs'⟩: ∃s:Nat,nth st i 0=((s:Nat):Int):=⟨(nth st i 0).toNat,by omega⟩
  have hsn:s<q.next.length:=by omega
  obtain ⟨r1,r2⟩:=ew_ hq hsn
  refine Exists.elim (ej_ (step:=fun z:N_1×N_1×Nat=>Bc_ q st i L z.1 z.2.1 z.2.2) (fun (z:N_1×N_1) b=>(z.1,z.2,b)) 256 (fun b z=> ∃V',BfI q (clL L) z.2 V' (i * 256+b)∧PlI L c z.2 z.1∧(∃X,z.2=st++X)) (fun r=> ∃pl' st' V',r= .inl (pl',st',i+1)∧BfI q (clL L) st' V' ((i+1) * 256)∧PlI L c st' pl'∧i+1≤st'.length) ?_ ?_ (s0:=(pl,st)) ⟨V,h,hp,[],by simp⟩) (fun r hh_=> ?_)
  · rintro b ⟨pl1,st1⟩ hb ⟨V1,k1,k2,X,k3⟩
    simp only at k1 k2 k3
    have hst1:i<st1.length:=by rw [k3,la_];omega
    have hat:nth st1 i 0=((s:Nat):Int):=by rw [k3,fe_ hi];exact hs'
    have hd1:(i * 256+b) / 256=i:=by omega
    have hd2:(i * 256+b) % 256=b:=by omega
    have hlt:=e2_ hq hsn hb
    have hle:=w1_ hL k1
    left
    show ∃s':N_1×N_1,Bc_ q st i L pl1 st1 b=some (.inl (s'.1,s'.2,b+1))∧_
    unfold Bc_ D9_
    rw [hs',tn_,dy_ (by omega)]
    have e1:nth (nth q.next s []) b 0=nxQ q s b:=rfl
    simp only [e1]
    have hcell:nxQ q (nth st1 ((i * 256+b) / 256) 0).toNat ((i * 256+b) % 256)=nxQ q s b:=by rw [hd1,hd2,hat,tn_]
    by_cases d:0≤nxQ q s b
    · have hz:(nxQ q s b).toNat<q.next.length:=by omega
      have hpz:=hL.rng _ hz
      obtain ⟨p,hp'⟩: ∃p:Nat,nth L (nxQ q s b).toNat 0=((p:Nat):Int):=⟨(nth L (nxQ q s b).toNat 0).toNat,by omega⟩
      have hpc:p<c:=by omega
      have hpl:=k2.len
      rw [dy_ d,dx_ (by omega),hp',dx_ (by omega),tn_]
      rcases k2.at' p hpc with ⟨a1,a2⟩|⟨j,a1,a2,a3⟩
      · rw [dy_ a1,dx_ (by omega),dx_ (by omega),dx_ (by simp only [lo_];omega)]
        refine ⟨(pl1.set p ((st1.length:Nat):Int),st1++[nxQ q s b]),rfl,upd V1 (i * 256+b) ((st1.length:Nat):Int),?_,⟨by rw [ls_];exact hpl,fun p' hq'=> ?_⟩,X++[nxQ q s b],by rw [k3,ap_]⟩
        · exact k1.new (by omega) (by rw [hcell];exact d) ⟨d,hlt⟩ (by rw [hcell]) fun j hj=>by
            rw [hcell]
            show nth L (nth st1 j 0).toNat 0≠nth L (nxQ q s b).toNat 0
            rw [hp'];exact a2 j hj
        show (nth (pl1.set p _) p' 0<0∧_)∨_
        rw [eb_]
        by_cases e:p=p'
        · subst e
          rw [if_pos ⟨rfl,by omega⟩]
          refine .inr ⟨st1.length,by simp,rfl,?_⟩
          show nth L (nth (st1++[nxQ q s b]) st1.length 0).toNat 0=_
          rw [fk_];exact hp'
        rw [if_neg (fun f=>e f.1)]
        rcases k2.at' p' hq' with ⟨b1,b2⟩|⟨j,b1,b2,b3⟩
        · refine .inl ⟨b1,fun j hj=> ?_⟩
          show nth L (nth (st1++[nxQ q s b]) j 0).toNat 0≠_
          by_cases f:j<st1.length
          · rw [fe_ f];exact b2 j f
          have:j=st1.length:=by have:j<(st1++[nxQ q s b]).length:=hj;rw [la_,lo_]at this;omega
          rw [this,fk_,hp']
          omega
        refine .inr ⟨j,by show j<(st1++_).length;rw [la_];omega,b2,?_⟩
        show nth L (nth (st1++[nxQ q s b]) j 0).toNat 0=_
        rw [fe_ b1];exact b3
      rw [dz_ (by omega)]
      refine ⟨(pl1,st1),rfl,upd V1 (i * 256+b) ((j:Nat):Int),?_,k2,X,k3⟩
      exact k1.old (by rw [hcell];exact d) a1 (by rw [hcell];show nth L (nth st1 j 0).toNat 0=nth L (nxQ q s b).toNat 0;rw [a3,hp'])
    rw [dz_ d]
    exact ⟨(pl1,st1),rfl,upd V1 (i * 256+b) (-1),k1.skip (by rw [hcell];omega),k2,X,k3⟩
  · rintro ⟨pl1,st1⟩ ⟨V1,k1,k2,X,k3⟩
    simp only at k1 k2 k3
    refine ⟨.inl (pl1,st1,i+1),?_,pl1,st1,V1,rfl,?_,k2,by rw [k3,la_];omega⟩
    · show Bc_ q st i L pl1 st1 256=_
      unfold Bc_
      rw [hs',tn_,dz_ (by omega)];rfl
    rw [show (i+1) * 256=i * 256+256 by omega];exact k1
  obtain ⟨h1,pl',st',V',rfl,h2⟩:=hh_
  exact ⟨pl',st',V',h1,h2⟩
theorem x4_ {q : Seq} (hq : d5_ q = true) (h0 : 0 < q.next.length) {L : N_1} {c : Nat} (hL : PrtR q L c) : ∃ st pl V, Fq_ q L ((c : Nat) : Int) = some (st, pl) ∧ BfI q (clL L) st V (st.length * 256) ∧ PlI L c st pl := by
  obtain ⟨q1,q2,q3,q4,q5⟩:=d3_ hq
  have hLl:=hL.len
  have hLc:=hL.le
  have hL0:=hL.rng 0 h0
  unfold Fq_
  rw [dx_ (by omega),tn_]
  refine Exists.elim (ej_ (step:=fun z:N_1×Nat=>Bz_ ((c:Nat):Int) L q z.1 z.2) (fun z k=>(z,k)) c (fun k z=>z.length=c∧ ∀p,p<k→nth z p 0= -1) (fun r=> ∃st pl V,r=(st,pl)∧BfI q (clL L) st V (st.length * 256)∧PlI L c st pl) ?_ ?_ (s0:=List.replicate c 0) ⟨by simp,fun p hp=>absurd hp (Nat.not_lt_zero _)⟩) (fun r hh_=> ?_)
  · rintro k z hk ⟨k1,k2⟩
    left
    show ∃s',Bz_ ((c:Nat):Int) L q z k=some (.inl (s',k+1))∧_
    unfold Bz_
    rw [tn_,dy_ (by simp only [lr_];omega),dx_ (by omega)]
    refine ⟨_,rfl,by rw [ls_];exact k1,fun p hp=> ?_⟩
    rw [eb_]
    by_cases e:k=p
    · rw [if_pos ⟨e,by omega⟩]
    rw [if_neg (fun f=>e f.1)];exact k2 p (by omega)
  · rintro z ⟨k1,k2⟩
    show ∃r,Bz_ ((c:Nat):Int) L q z c=some (.inr r)∧_
    obtain ⟨p0,hp0⟩: ∃p:Nat,nth L 0 0=((p:Nat):Int):=⟨(nth L 0 0).toNat,by omega⟩
    obtain ⟨r,m1,m2⟩:=im_ (step:=fun z:N_1×N_1×Nat=>Cn_ q L z.1 z.2.1 z.2.2) (fun z=> ∃V,BfI q (clL L) z.2.1 V (z.2.2 * 256)∧PlI L c z.2.1 z.1∧z.2.2≤z.2.1.length) (fun z=>c+1 - z.2.2) (fun r=> ∃st pl V,r=(st,pl)∧BfI q (clL L) st V (st.length * 256)∧PlI L c st pl) (by
      rintro ⟨pl,st,i⟩ ⟨V,n1,n2,n3⟩
      simp only at n1 n2 n3
      have hle:=w1_ hL n1
      show (∃t',Cn_ q L pl st i=some (.inl t')∧_∧_)∨ ∃r,Cn_ q L pl st i=some (.inr r)∧_
      unfold Cn_
      by_cases d:i<st.length
      · left
        have hs:=n1.rng i d
        obtain ⟨pl',st',V',m1,m2,m3,m4⟩:=y9_ hq hL d n1 n2
        rw [dy_ (by omega),dx_ (by omega)]
        refine ⟨_,m1,⟨V',m2,m3,m4⟩,?_⟩
        show c+1 - (i+1)<c+1 - i
        omega
      · right
        rw [dz_ (by omega)]
        have:i=st.length:=by omega
        subst this
        exact ⟨_,rfl,st,pl,V,rfl,n1,n2⟩) (t:=(z.set p0 0,[0],0)) (by
      refine ⟨fun _=>0,BfI.init _ ⟨Int.le_refl _,by omega⟩ rfl,⟨by show (z.set p0 0).length=c;rw [ls_];exact k1,fun p hp=> ?_⟩,Nat.zero_le _⟩
      show (nth (z.set p0 0) p 0<0∧_)∨_
      rw [eb_]
      by_cases e:p0=p
      · subst e
        rw [if_pos ⟨rfl,by omega⟩]
        exact .inr ⟨0,by simp,rfl,hp0⟩
      rw [if_neg (fun f=>e f.1),k2 p hp]
      refine .inl ⟨by decide,fun j hj=> ?_⟩
      have hj:j<1:=hj
      have:j=0:=by omega
      subst this
      show nth L 0 0≠_
      rw [hp0];omega)
    refine ⟨r,?_,m2⟩
    unfold Bz_
    rw [tn_,dz_ (by simp only [lr_];omega),dx_ (by omega),hp0,dx_ (by omega),tn_,m1];rfl
  obtain ⟨h1,st,pl,V,rfl,h2⟩:=hh_
  exact ⟨st,pl,V,h1,h2⟩
theorem tb_{α β:Type}(f:β→α)(d:α)(e:β)(l:List β){k:Nat}(hk:k<l.length):(((l.take k).map f++List.replicate (l.length - k) d).set k (f (nth l k e)))=(l.take (k+1)).map f++List.replicate (l.length - (k+1)) d:=by
  rw [eu_ l hk e,List.map_append,ap_,List.set_append_right _ _ (by rw [List.length_map,List.length_take];omega),List.length_map,List.length_take,show k - min k l.length=0 by omega,show l.length - k=(l.length - (k+1))+1 by omega,List.replicate_succ]
  rfl
theorem yw_{l:B_1}{st:N_1}(h: ∀i,i<st.length→0≤nth st i 0∧nth st i 0<(l.length:Int))(hs:st.length≤1000000):Ge_ l st=some (st.map fun s=>nth l s.toNat false):=by
  unfold Ge_
  rw [dx_ (by omega)]
  refine Exists.elim (ej_ (step:=fun z:B_1×Nat=>B5_ st l z.1 z.2) (fun z k=>(z,k)) st.length (fun k z=>z=(st.take k).map (fun s=>nth l s.toNat false)++List.replicate (st.length - k) false) (fun r=>r=st.map fun s=>nth l s.toNat false) ?_ ?_ (s0:=List.replicate st.length false) (by simp)) (fun r hh_=> ?_)
  · rintro k _ hk rfl
    left
    have hr:=h k hk
    refine ⟨_,?_,rfl⟩
    show B5_ st l _ k=_
    unfold B5_
    rw [dy_ (by omega),dx_ hr,dx_ (by simp;omega)]
    have:=tb_ (fun s=>nth l s.toNat false) false (0:Int) st hk
    rw [this];rfl
  · rintro _ rfl
    refine ⟨_,?_,rfl⟩
    show B5_ st l _ st.length=_
    unfold B5_
    rw [dz_ (by omega)]
    simp [fin]
  obtain ⟨h1,rfl⟩:=hh_
  exact h1
theorem yq_{l:T_2}{st:N_1}(h: ∀i,i<st.length→0≤nth st i 0∧nth st i 0<(l.length:Int))(hs:st.length≤1000000):F6_ l st=some (st.map fun s=>nth l s.toNat []):=by
  unfold F6_
  rw [dx_ (by omega)]
  refine Exists.elim (ej_ (step:=fun z:T_2×Nat=>B4_ st l z.1 z.2) (fun z k=>(z,k)) st.length (fun k z=>z=(st.take k).map (fun s=>nth l s.toNat [])++List.replicate (st.length - k) []) (fun r=>r=st.map fun s=>nth l s.toNat []) ?_ ?_ (s0:=List.replicate st.length []) (by simp)) (fun r hh_=> ?_)
  · rintro k _ hk rfl
    left
    have hr:=h k hk
    refine ⟨_,?_,rfl⟩
    show B4_ st l _ k=_
    unfold B4_
    rw [dy_ (by omega),dx_ hr,dx_ (by simp;omega)]
    have:=tb_ (fun s=>nth l s.toNat ([]:T_1)) [] (0:Int) st hk
    rw [this];rfl
  · rintro _ rfl
    refine ⟨_,?_,rfl⟩
    show B4_ st l _ st.length=_
    unfold B4_
    rw [dz_ (by omega)]
    simp [fin]
  obtain ⟨h1,rfl⟩:=hh_
  exact h1
theorem vg_{α:Type}(d:α){x:List α}(h:x.length=256):(List.replicate 256 d).take 0++(x.take (min x.length (List.replicate 256 d).length)++(List.replicate 256 d).drop (0+min x.length (List.replicate 256 d).length))=x:=by
  have hr:(List.replicate 256 d).length=256:=lr_
  generalize List.replicate 256 d=y at hr
  rw [hr,h,Nat.min_self,List.take_zero,List.nil_append,Nat.zero_add,List.take_of_length_le (Nat.le_of_eq h),List.drop_of_length_le (Nat.le_of_eq hr),List.append_nil]
def zs_(q:Seq)(L pl:N_1)(s b:Nat):Int:=if 0≤nxQ q s b then nth pl (nth L (nxQ q s b).toNat 0).toNat 0 else nxQ q s b
def yl_(q:Seq)(L pl:N_1)(s:Int):N_1:=(List.range 256).map (zs_ q L pl s.toNat)
theorem vr_ {q : Seq} (hq : d5_ q = true) {L : N_1} {c : Nat} (hL : PrtR q L c) {st pl : N_1} (hpl : pl.length = c) {i : Nat} {N : N_2} {O : T_3} (hi : i < st.length) (hst : st.length ≤ 1024) (hN : N.length ≤ 1024) (hO : O.length ≤ 1024) (hs : 0 ≤ nth st i 0 ∧ nth st i 0 < (q.next.length : Int)) (e : Int) :
    Fu_ (st,pl) i (q,e) (L,((c:Nat):Int)) N O=some (.inl (N++[yl_ q L pl (nth st i 0)],O++[nth q.outs (nth st i 0).toNat []],i+1)):=by
  obtain ⟨q1,q2,q3,q4,q5⟩:=d3_ hq
  have hLl:=hL.len
  obtain ⟨s,hs'⟩: ∃s:Nat,nth st i 0=((s:Nat):Int):=⟨(nth st i 0).toNat,by omega⟩
  rw [hs']at hs ⊢
  have hsn:s<q.next.length:=by omega
  obtain ⟨r1,r2⟩:=ew_ hq hsn
  unfold Fu_
  show grd (0≤nth st i 0∧nth st i 0<(q.next.length:Int)) (grd (0≤nth st i 0∧nth st i 0<(q.outs.length:Int)) _)=_
  rw [hs',dx_ (by omega),dx_ (by omega),tn_,vg_ 0 r1]
  unfold yl_
  rw [tn_]
  refine Exists.elim (ej_ (step:=fun z:N_1×Nat=>Cw_ (L,((c:Nat):Int)) (st,pl) N O (q,e) i z.1 z.2) (fun z k=>(z,k)) 256 (fun k z=>z.length=256∧(∀b,b<k→nth z b 0=zs_ q L pl s b)∧ ∀b,k≤b→nth z b 0=nxQ q s b) (fun r=>r= .inl (N++[(List.range 256).map (zs_ q L pl s)],O++[nth q.outs s []],i+1)) ?_ ?_ (s0:=nth q.next s []) ⟨r1,fun b hb=>absurd hb (Nat.not_lt_zero _),fun b _=>rfl⟩) (fun r hh_=> ?_)
  · rintro k z hk ⟨k1,k2,k3⟩
    left
    have hlt:=e2_ hq hsn hk
    have e3:=k3 k (Nat.le_refl _)
    show ∃s',Cw_ (L,((c:Nat):Int)) (st,pl) N O (q,e) i z k=some (.inl (s',k+1))∧_
    unfold Cw_ Ft_
    rw [dy_ (by simp only [lr_];omega),dx_ (by omega),e3]
    by_cases d:0≤nxQ q s k
    · have hz:=hL.rng (nxQ q s k).toNat (by omega)
      rw [dy_ d,dx_ (show 0≤nxQ q s k∧nxQ q s k<((L,((c:Nat):Int)).1.length:Int) by show _∧_<(L.length:Int);omega),dx_ (show 0≤nth L (nxQ q s k).toNat 0∧nth L (nxQ q s k).toNat 0<(pl.length:Int) by omega),dx_ (by omega)]
      refine ⟨_,rfl,by rw [ls_];exact k1,fun b hb=> ?_,fun b hb=> ?_⟩
      · rw [eb_]
        by_cases f:k=b
        · subst f;rw [if_pos ⟨rfl,by omega⟩];unfold zs_;rw [if_pos d]
        rw [if_neg (fun g=>f g.1)];exact k2 b (by omega)
      rw [eb_,if_neg (fun g=>by omega)];exact k3 b (by omega)
    rw [dz_ d]
    refine ⟨_,rfl,k1,fun b hb=> ?_,fun b hb=>k3 b (by omega)⟩
    by_cases f:b<k
    · exact k2 b f
    have:b=k:=by omega
    subst this;rw [e3];unfold zs_;rw [if_neg d]
  · rintro z ⟨k1,k2,k3⟩
    have ez:z=(List.range 256).map (zs_ q L pl s):=k9_ 0 k1 k2
    refine ⟨_,?_,rfl⟩
    show Cw_ (L,((c:Nat):Int)) (st,pl) N O (q,e) i z 256=_
    unfold Cw_
    have e5:nth (st,pl).1 i 0=((s:Nat):Int):=hs'
    simp only [e5,tn_]
    rw [dz_ (by simp only [lr_];omega),vg_ [] r2,dx_ (by simp only [lo_];omega),dx_ (by simp only [lo_];omega),ez];rfl
  obtain ⟨h1,rfl⟩:=hh_
  exact h1
theorem vk_(q:Seq): ∃p r,Ex_ q=some p∧PushR q p∧Ct_ q=some r∧MinR p r:=by
  obtain ⟨p,h1,h2⟩:=Js_ q
  unfold Ct_
  rw [h1,d7_]
  by_cases c0:p.2=0
  rotate_left
  · rw [dy_ c0]
    exact ⟨p,_,rfl,h2,rfl,.err c0⟩
  rw [dz_ (fun h=>h c0)]
  by_cases c1:p.1.next.length=0
  · rw [dy_ (by omega)]
    exact ⟨p,_,rfl,h2,rfl,by rw [c0];exact .none c0 c1⟩
  rw [dz_ (by omega)]
  obtain ⟨hP,hR,_,_⟩:=h2.psh c0
  obtain ⟨q1,q2,q3,q4,q5⟩:=d3_ hR
  obtain ⟨L,c,l1,l2⟩:=y2_ hR hP
  obtain ⟨st,pl,V,o1,o2,o3⟩:=x4_ hR (by omega) l2
  have hle:=w1_ l2 o2
  have hLc:=l2.le
  rw [l1,d7_]
  show ∃p_1 r,_∧_∧bnd (Fq_ p.1 L ((c:Nat):Int)) _=_∧_
  rw [o1,d7_,show ((st,pl):N_1×N_1).1=st from rfl,yw_ (fun i hi=>by have:=o2.rng i hi;omega) (by omega),d7_,yq_ (fun i hi=>by have:=o2.rng i hi;omega) (by omega),d7_]
  unfold Gi_
  refine Exists.elim (ej_ (step:=fun z:N_2×T_3×Nat=>Cy_ (st,pl) p (L,((c:Nat):Int)) (st.map fun s=>nth p.1.fin s.toNat false) (st.map fun s=>nth p.1.tail s.toNat []) z.1 z.2.1 z.2.2) (fun (z:N_2×T_3) k=>(z.1,z.2,k)) st.length (fun k z=>z=((st.take k).map (yl_ p.1 L pl),(st.take k).map fun s=>nth p.1.outs s.toNat []))
    (fun r=>r=((⟨p.1.front,st.map (yl_ p.1 L pl),st.map (fun s=>nth p.1.outs s.toNat []),st.map (fun s=>nth p.1.fin s.toNat false),st.map (fun s=>nth p.1.tail s.toNat [])⟩:Seq),(0:Int))) ?_ ?_ (s0:=([],[])) rfl) (fun r hh_=> ?_)
  · rintro k _ hk rfl
    left
    have hr:=o2.rng k hk
    refine ⟨(_,_),?_,rfl⟩
    show Cy_ (st,pl) p (L,((c:Nat):Int)) _ _ _ _ k=_
    unfold Cy_
    rw [dy_ (by show ((k:Nat):Int)<((st.length:Nat):Int);omega)]
    rw [show p=(p.1,p.2)from rfl,vr_ hR l2 o3.len hk (by omega) (by rw [List.length_map,List.length_take];omega) (by rw [List.length_map,List.length_take];omega) hr p.2,eu_ st hk 0,List.map_append,List.map_append];rfl
  · rintro _ rfl
    refine ⟨_,?_,rfl⟩
    show Cy_ (st,pl) p (L,((c:Nat):Int)) _ _ _ _ st.length=_
    unfold Cy_
    rw [dz_ (by show ¬ ((st.length:Nat):Int)<((st.length:Nat):Int);omega),List.take_length];rfl
  obtain ⟨h3,rfl⟩:=hh_
  refine ⟨p,_,rfl,h2,h3,.made _ (st.map Int.toNat) c0 (o2.min (fun s t hs ht=>l2.iff s t hs ht) hR rfl (by simp) (by simp) (by simp) (by simp) (fun i hi=> ?_) (fun d hd=> ?_) (fun i hi=>fl_ _ _ _ 0 _ hi) (fun i hi=>fl_ _ _ _ 0 _ hi) fun i hi=>fl_ _ _ _ 0 _ hi)⟩
  · show (nth (st.map (yl_ p.1 L pl)) i []).length=256
    rw [fl_ _ _ _ 0 _ hi]
    unfold yl_
    rw [List.length_map,List.length_range]
  have hdi:d / 256<st.length:=by omega
  have hr:=o2.rng _ hdi
  have e:nxC (⟨p.1.front,st.map (yl_ p.1 L pl),st.map (fun s=>nth p.1.outs s.toNat []),st.map (fun s=>nth p.1.fin s.toNat false),st.map (fun s=>nth p.1.tail s.toNat [])⟩:Seq) d=zs_ p.1 L pl (nth st (d / 256) 0).toNat (d % 256):=by
    show nth (nth (st.map (yl_ p.1 L pl)) (d / 256) []) (d % 256) 0=_
    rw [fl_ _ _ _ 0 _ hdi]
    unfold yl_
    rw [fl_ _ _ _ 0 _ (by rw [List.length_range];omega),hq_ (by omega)]
  rw [e]
  unfold zs_
  by_cases f:0≤nxQ p.1 (nth st (d / 256) 0).toNat (d % 256)
  · rw [if_pos f]
    obtain ⟨j,j1,j2,j3⟩:=o2.val d hd f
    have hz:=e2_ hR (show (nth st (d / 256) 0).toNat<_ by omega) (show d % 256<256 by omega)
    have hpz:=l2.rng (nxQ p.1 (nth st (d / 256) 0).toNat (d % 256)).toNat (by omega)
    have j3:nth L (nth st j 0).toNat 0=nth L (nxQ p.1 (nth st (d / 256) 0).toNat (d % 256)).toNat 0:=j3
    rcases o3.at' (nth L (nxQ p.1 (nth st (d / 256) 0).toNat (d % 256)).toNat 0).toNat (by omega)with ⟨_,a2⟩|⟨j',a1,a2,a3⟩
    · exact absurd (by rw [j3];omega) (a2 j j1)
    have:j=j':=o2.dist j j' j1 a1 (show nth L (nth st j 0).toNat 0=nth L (nth st j' 0).toNat 0 by rw [j3,a3];omega)
    rw [j2,a2,this]
  rw [if_neg f,o2.neg d hd (by omega)]
  have:=q8_ hR (show (nth st (d / 256) 0).toNat<_ by omega) (show d % 256<256 by omega)
  omega
theorem qt_ (q : Seq) (k : Nat) (hn : (nth q.next k []).length = 256) (ho : (nth q.outs k []).length = 256) (hk : k < q.outs.length) :
    Ca_ q k=some (if (List.range 256).all (k5_ (nth q.next k []) (nth q.outs k []) q.next.length)=true then .inl (k+1) else .inr false):=by
  unfold Ca_
  refine jc_ (step:=fun j:Nat=>B9_ q k j) 256 (k5_ (nth q.next k []) (nth q.outs k []) q.next.length) ?_ ?_ ?_
  · intro j hj hp
    simp only [k5_,Bool.and_eq_true,Bool.or_eq_true,dq_]at hp
    obtain ⟨⟨⟨p1,p2⟩,p3⟩,p4⟩:=hp
    simp only [B9_,C8_]
    rw [dy_ (by omega),dx_ (by omega),dx_ (by omega),dx_ (by omega),dz_ (by omega),dz_ (by omega)]
    by_cases c:nth (nth q.next k ([]:N_1)) j (0:Int)= -1
    · rw [dy_ c,dz_ (by rcases p4 with p4|p4<;>simp_all),dz_ (by omega)];rfl
    rw [dz_ c,dz_ (by omega)];rfl
  · intro j hj hp
    simp only [B9_,C8_]
    rw [dy_ (by omega),dx_ (by omega),dx_ (by omega),dx_ (by omega)]
    by_cases c1:nth (nth q.next k ([]:N_1)) j (0:Int)< -1
    · rw [dy_ c1];rfl
    rw [dz_ c1]
    by_cases c2:((q.next.length:Nat):Int)≤nth (nth q.next k ([]:N_1)) j (0:Int)
    · rw [dy_ c2];rfl
    rw [dz_ c2]
    by_cases c4:nth (nth q.next k ([]:N_1)) j (0:Int)= -1
    · rw [dy_ c4]
      by_cases c5:nth (nth q.outs k ([]:T_2)) j ([]:T_1)=[]
      · exfalso
        simp only [k5_,c5]at hp
        rw [decide_eq_true (by omega),decide_eq_true (by omega)]at hp
        simp at hp
      rw [dy_ c5];rfl
    rw [dz_ c4]
    by_cases c3:4096<(nth (nth q.outs k ([]:T_2)) j ([]:T_1)).length
    · rw [dy_ (by omega)];rfl
    exfalso
    simp only [k5_]at hp
    rw [decide_eq_true (by omega),decide_eq_true (by omega),decide_eq_true (by omega),decide_eq_true c4]at hp
    simp at hp
  simp only [B9_]
  rw [dz_ (by omega)];rfl
theorem n7_ (q : Seq) : C6_ q = some (d5_ q) := by
  unfold C6_
  have fls: ∀{b:Bool},b=false→(some false:Option Bool)=some b:=fun h=>by rw [h]
  by_cases h1:q.next.length≤1024
  rotate_left
  · rw [dy_ (by omega)];exact fls (by simp [d5_,gb_,h1])
  rw [dz_ (by omega)]
  by_cases h2:q.outs.length=q.next.length
  rotate_left
  · rw [dy_ (by omega)];exact fls (by simp [d5_,gb_,h2])
  rw [dz_ (by omega)]
  by_cases h3:q.fin.length=q.next.length
  rotate_left
  · rw [dy_ (by omega)];exact fls (by simp [d5_,gb_,h3])
  rw [dz_ (by omega)]
  by_cases h4:q.tail.length=q.next.length
  rotate_left
  · rw [dy_ (by omega)];exact fls (by simp [d5_,gb_,h4])
  rw [dz_ (by omega)]
  by_cases h5:q.front.length≤4096
  rotate_left
  · rw [dy_ (by omega)];exact fls (by simp [d5_,gb_,h5])
  rw [dz_ (by omega)]
  have key:(decide (q.next.length≠0) || decide (q.front=[]))=true→C7_ q=some (d5_ q):=by
    intro h6
    have hs:gb_ q=true:=by simp only [gb_,h6,Bool.and_true,Bool.and_eq_true,dq_];exact ⟨⟨⟨⟨h1,h2⟩,h3⟩,h4⟩,h5⟩
    unfold C7_ d5_
    rw [hs,Bool.true_and]
    have hc:=jc_ (step:=fun k:Nat=>Cb_ q k) (good:=true) (bad:=false) q.next.length (hr_ q) ?_ ?_ ?_
    · rw [hc];cases (List.range q.next.length).all (hr_ q)<;>rfl
    · intro k hk hp
      simp only [hr_,yz_,Bool.and_eq_true,dq_]at hp
      obtain ⟨⟨p1,p2⟩,⟨p3,p4⟩,p5⟩:=hp
      have hj:=qt_ q k p3 p4 (by omega)
      rw [if_pos p5]at hj
      simp only [Cb_]
      rw [dy_ (by omega),dz_ (by omega),dx_ (by omega),dz_ (by omega),dx_ (by omega),dz_ (by omega),dx_ (by omega)]
      cases hf:nth q.fin k false with
      |true=>rw [e8_];exact hj
      |false=>
        rw [hf,Bool.false_or,dq_]at p2
        rw [fg_,dx_ (by omega),dz_ (by simp [p2])];exact hj
    · intro k hk hp
      simp only [Cb_]
      rw [dy_ (by omega)]
      by_cases c3:(nth q.next k ([]:N_1)).length=256
      rotate_left
      · rw [dy_ (by omega)];rfl
      rw [dz_ (by omega),dx_ (by omega)]
      by_cases c4:(nth q.outs k ([]:T_2)).length=256
      rotate_left
      · rw [dy_ (by omega)];rfl
      rw [dz_ (by omega),dx_ (by omega)]
      by_cases c1:4096<(nth q.tail k ([]:T_1)).length
      · rw [dy_ (by omega)];rfl
      rw [dz_ (by omega),dx_ (by omega)]
      have hj:(nth q.fin k false || decide (nth q.tail k []=[]))=true→Ca_ q k=some (.inr false):=by
        intro hh
        rw [qt_ q k c3 c4 (by omega)]
        simp only [hr_,yz_,hh,Bool.and_true]at hp
        rw [decide_eq_true (by omega),decide_eq_true c3,decide_eq_true c4,Bool.true_and,Bool.true_and,Bool.true_and]at hp
        rw [hp];rfl
      cases hf:nth q.fin k false with
      |true=>rw [e8_];exact hj (by rw [hf];rfl)
      |false=>
        rw [fg_,dx_ (by omega)]
        by_cases c2:nth q.tail k ([]:T_1)=[]
        · rw [dz_ (by simp [c2])];exact hj (by rw [c2];simp)
        rw [dy_ c2];rfl
    simp only [Cb_]
    rw [dz_ (by omega)];rfl
  by_cases h6:q.next.length=0
  · rw [dy_ (by omega)]
    by_cases h7:q.front=[]
    · rw [dz_ (by simp [h7])];exact key (by simp [h7])
    rw [dy_ h7];exact fls (by simp [d5_,gb_,h6,h7])
  rw [dz_ (by omega)];exact key (by simp [h6])
end Go.Proofs.YtchebnpdnfhenaaGreatDoor
end

noncomputable section
namespace Go.Proofs.YtchebnpdnfhenaaGreatDoor
open Go Go.E Go.E.OpVal Go.E.OpOk Go.Proofs.Tryz
theorem pf27:plainF Tryz.prog 27=true:=by kernel_rfl
theorem pf34:plainF Tryz.prog 34=true:=by kernel_rfl
theorem pf52:plainF Tryz.prog 52=true:=by kernel_rfl
def A9_(x0:B_1)(x1:B_1)(k104:Nat):Option ((Nat)⊕(Bool)):=
 d4_ (decide ((k104:Int)<((x0.length:Nat):Int))) (grd (k104<x1.length) (d4_ ((nth x0 k104 false) != (nth x1 k104 false)) (fin (some false)) (nxt (k104+1)))) (fin (some true))
def C3_(x0:B_1)(x1:B_1):Option (Bool):=
 d4_ (decide (((x0.length:Nat):Int)≠((x1.length:Nat):Int))) (some false) (ed_ (fun q:Nat=>A9_ x0 x1 q) 0)
theorem Ha_{σ:dw_}{x0:B_1}{x1:B_1}(f0_0:rS_ σ et_ a0_0 c0_0 x0)(f1_0:rS_ σ et_ a1_0 c1_0 x1){r:Bool}(hh:C3_ x0 x1=some r):
  Con Tryz.prog 34 #[.slice a0_0 x0.length c0_0,.slice a1_0 x1.length c1_0] σ [] (e5_ (.bool r) σ):=by
 dsimp only [C3_]at hh
 have f0_0b:=f0_0.rv.big
 have f1_0b:=f1_0.rv.big
 refine Con.mk (n:=26) Tryz.func34 z z z (fun w0=> ?_)
 refine TC.a (TL.j z z (TL.en (TC.seq (TC.a (TL.s z z (TL.w z (lenC z underlying29 z) (TL.s z z (TL.w z (lenC z underlying29 z) (TL.w z (OpVal.neq z z z) (TL.en (TC.cD z hh (fun h101 hh=> ?_) (fun h101 hh=> ?_))))))))))))
 ·refine TC.a (TL.j z z (TL.en (TC.ret (S.r ?_))))
  obtain rfl:=so hh
  exact rq [4] ⟨z,z,z⟩
 refine TC.skip (S.n (TC.seq (TC.a (TL.i z z (TL.en (TC.block (TC.as_ (α:=(Nat)×(Unit)) (rgs [(4,2),(11,15)]) (fun g=>[(5,.int .i64 ((g.1:Nat):Int))]) (fun g=>[]) (fun g=>σ) (fun g=>ed_ (fun q:Nat=>A9_ x0 x1 q) g.1=some r) (fun g=>eg_ (fun q:Nat=>A9_ x0 x1 q) g.1) (0,()) (Sub.pre 0 z) z (by repeat (first|exact trivial|refine ⟨z,?_⟩)) hh (fun g1 j1 hg1=> ?_))))))))
 obtain ⟨k104,_⟩:=g1
 have hh:=hg1;clear hg1
 try dsimp only
 obtain ⟨z1,hh,hR1⟩:=ek_ hh
 dsimp only [A9_]at hh
 refine TC.seq (TC.a (TL.i z z (TL.s z z (TL.w z (lenC z underlying29 z) (TL.w z (OpVal.lss z z z) (TL.en (TC.cD z hh (fun h105 hh=> ?_) (fun h105 hh=> ?_))))))))
 ·refine TC.skip (S.n (TC.seq (TC.block (TC.seq ?_))))
  obtain ⟨u19,hh⟩:=d1_ hh
  refine TC.draw [] (by kernel_rfl) (TA.a 0 z (ak_ (.inl z) z) z (TA.a 1 z (aj_ (.inl z) z) z (TA.b 2 z (af_ z underlying29 sz4 z z f0_0.rv.sl (by omega)) z (TA.b 3 z (al_ false z ag4 z f0_0 (by omega) z) z (TA.a 4 z (ak_ (.inl z) z) z (TA.a 5 z (aj_ (.inl z) z) z (TA.b 6 z (af_ z underlying29 sz4 z z f1_0.rv.sl (by omega)) z (TA.b 7 z (al_ false z ag4 z f1_0 (by omega) z) z (TA.a 8 z (neqB z z z underlying4) z (TA.dn (S.n (TC.cB z hh (fun h106 hh=> ?_) (fun h106 hh=> ?_)))))))))))))
  ·refine TC.a (TL.j z z (TL.en (TC.ret (B.r (S.r (S.r ?_))))))
   replace hh:=eh_ hR1 hh
   refine B.r (S.r ?_)
   obtain rfl:=so hh
   exact rq [4] ⟨z,z,z⟩
  refine TC.skip (B.n (S.n (TC.region (TL.i z z (TL.w z (OpVal.succ z z z (by omega)) (TL.i z z (TL.en ?_)))))))
  obtain ⟨hh,hlt107⟩:=ev_ hR1 hh
  exact lf ((k104+1),()) hlt107 hh (Sub.pre 0 z)
 refine TC.exit (S.x (S.x ?_))
 replace hh:=eh_ hR1 hh
 refine TC.ae_ (S.n (TC.a (TL.j z z (TL.en (TC.ret ?_)))))
 obtain rfl:=so hh
 exact rq [4] ⟨z,z,z⟩
def Ce_(k112:Nat):Option ((Nat)⊕(Bool)):=
 nxt (k112+1)
def Bk_(x0:Seq)(x1:Seq)(k112:Nat):Option ((Nat)⊕(Bool)):=
 d4_ (decide ((k112:Int)<((x0.next.length:Nat):Int))) (grd (k112<x1.next.length) (bnd (Di_ (nth x0.next k112 []) (nth x1.next k112 [])) (fun v60=>d4_ (!v60) (fin (some false)) (d4_ (decide ((k112:Int)<((x0.outs.length:Nat):Int))) (grd (k112<x1.outs.length) (bnd (Am_ (nth x0.outs k112 []) (nth x1.outs k112 [])) (fun v79=>d4_ (!v79) (fin (some false)) (Ce_ k112)))) (Ce_ k112))))) (fin (some true))
def Ck_(x0:Seq)(x1:Seq):Option (Bool):=
 d4_ (decide (x0.front≠x1.front)) (some false) (d4_ (decide (((x0.next.length:Nat):Int)≠((x1.next.length:Nat):Int))) (some false) (d4_ (decide (((x0.outs.length:Nat):Int)≠((x1.outs.length:Nat):Int))) (some false) (bnd (C3_ x0.fin x1.fin) (fun v32=>d4_ (!v32) (some false) (bnd (Am_ x0.tail x1.tail) (fun v40=>d4_ (!v40) (some false) (ed_ (fun q:Nat=>Bk_ x0 x1 q) 0)))))))
theorem Hi_{σ:dw_}{x0:Seq}{x1:Seq}(f0_0:RZ σ (d6_ 1 eI_ ei_) (.slice a0_0 x0.next.length c0_0) x0.next)(f0_1:RZ σ (d6_ 1 eS_ el_) (.slice a0_1 x0.outs.length c0_1) x0.outs)(f0_2:rS_ σ et_ a0_2 c0_2 x0.fin)(f0_3:rS_ σ eS_ a0_3 c0_3 x0.tail)(f1_0:RZ σ (d6_ 1 eI_ ei_) (.slice a1_0 x1.next.length c1_0) x1.next)(f1_1:RZ σ (d6_ 1 eS_ el_) (.slice a1_1 x1.outs.length c1_1) x1.outs)(f1_2:rS_ σ et_ a1_2 c1_2 x1.fin)(f1_3:rS_ σ eS_ a1_3 c1_3 x1.tail){r:Bool}(hh:Ck_ x0 x1=some r):
  Con Tryz.prog 17 #[.agg (aq_ x0 a0_0 c0_0 a0_1 c0_1 a0_2 c0_2 a0_3 c0_3),.agg (aq_ x1 a1_0 c1_0 a1_1 c1_1 a1_2 c1_2 a1_3 c1_3)] σ [] (e5_ (.bool r) σ):=by
 dsimp only [Ck_]at hh
 have f0_0b:=f0_0.big
 have f0_1b:=f0_1.big
 have f0_2b:=f0_2.rv.big
 have f0_3b:=f0_3.rv.big
 have f1_0b:=f1_0.big
 have f1_1b:=f1_1.big
 have f1_2b:=f1_2.rv.big
 have f1_3b:=f1_3.rv.big
 refine Con.mk (n:=85) Tryz.func17 z z z (fun w0=> ?_)
 refine TC.a (TL.op z (boxA z z z z (fun b101=> ?_)))
 refine TL.op z (boxA z z z z (fun b103=> ?_))
 refine TL.j z z (TL.en (TC.seq (TC.a (TL.w z (aa_ z g5_ z) (TL.w z (ab_ z ag9 z (i:=1) z z) (TL.w z (aa_ z g5_ z) (TL.w z (ab_ z ag9 z (i:=0) z z) (TL.w z (bw_ z z z) (TL.j z z (TL.split 11 z (fun h105=> ?_) (fun h105=> ?_)))))))))))
 ·replace hh:=ea_ h105 hh
  replace h105:=dt_ h105
  refine TL.f z (TL.f z (TL.f z (TL.f z (TL.f z (TL.f z (TL.f z (TL.w z (ai_ z z z) (TL.j z z (TL.f z (TL.f z (TL.f z (TL.f z (TL.f z (TL.f z (TL.f z ?_)))))))))))))))
  refine TL.w z (ai_ z z z) (TL.j z z (TL.f z (TL.f z (TL.f z (TL.f z (TL.f z (TL.f z (TL.w z (ai_ z z z) (TL.j z z (TL.f z (TL.f z (TL.f z (TL.f z (TL.f z (TL.f z ?_)))))))))))))))
  refine TL.w z (ai_ z z z) (TL.en (TC.t z (TC.a (TL.j z z (TL.en (TC.rt 0 (S.r ?_)))))))
  obtain rfl:=so hh
  exact rq [4] ⟨z,z,z⟩
 replace hh:=d9_ h105 hh
 replace h105:=df_ h105
 refine TL.g z (aa_ z e0_ z) (TL.g z (ab_ z hn_ z (i:=1) z z) (TL.g z (lenC z underlying27 z) (TL.g z (aa_ z e0_ z) (TL.g z (ab_ z hn_ z (i:=0) z z) (TL.g z (lenC z underlying27 z) (TL.g z (OpVal.neq z z z) (TL.w z (ac_ z z z) (TL.j z z (TL.split 20 z (fun h106=> ?_) (fun h106=> ?_))))))))))
 ·replace hh:=ea_ h106 hh
  replace h106:=dt_ h106
  refine TL.f z (TL.f z (TL.f z (TL.f z (TL.f z (TL.f z (TL.f z (TL.w z (ai_ z z z) (TL.j z z (TL.f z (TL.f z (TL.f z (TL.f z (TL.f z (TL.f z (TL.w z (ai_ z z z) ?_)))))))))))))))
  refine TL.j z z (TL.f z (TL.f z (TL.f z (TL.f z (TL.f z (TL.f z (TL.w z (ai_ z z z) (TL.en (TC.t z (TC.a (TL.j z z (TL.en (TC.rt 0 (S.r ?_))))))))))))))
  obtain rfl:=so hh
  exact rq [4] ⟨z,z,z⟩
 replace hh:=d9_ h106 hh
 replace h106:=df_ h106
 refine TL.g z (aa_ z fb_ z) (TL.g z (ab_ z jr_ z (i:=1) z z) (TL.g z (lenC z underlying28 z) (TL.g z (aa_ z fb_ z) (TL.g z (ab_ z jr_ z (i:=0) z z) (TL.g z (lenC z underlying28 z) (TL.g z (OpVal.neq z z z) (TL.w z (ac_ z z z) (TL.j z z (TL.split 29 z (fun h107=> ?_) (fun h107=> ?_))))))))))
 ·replace hh:=ea_ h107 hh
  replace h107:=dt_ h107
  refine TL.f z (TL.f z (TL.f z (TL.f z (TL.f z (TL.f z (TL.w z (ai_ z z z) (TL.j z z (TL.f z (TL.f z (TL.f z (TL.f z (TL.f z (TL.f z (TL.w z (ai_ z z z) (TL.en ?_)))))))))))))))
  refine TC.t z (TC.a (TL.j z z (TL.en (TC.rt 0 (S.r ?_)))))
  obtain rfl:=so hh
  exact rq [4] ⟨z,z,z⟩
 replace hh:=d9_ h107 hh
 replace h107:=df_ h107
 refine TL.g z (aa_ z f6_ z) (TL.g z (ab_ z mx_ z (i:=1) z z) (TL.g z (aa_ z f6_ z) (TL.g z (ab_ z mx_ z (i:=0) z z) ?_)))
 obtain ⟨v32,u32,hh⟩:=d8_ hh
 refine TL.gon z z z z z (av_ (Ha_ f0_2 f1_2 u32) z z pf34 z z z ?_)
 refine TL.g z (OpVal.not z z) (TL.w z (ac_ z z z) (TL.j z z (TL.split 37 z (fun h108=> ?_) (fun h108=> ?_))))
 ·replace hh:=ea_ h108 hh
  refine TL.f z (TL.f z (TL.f z (TL.f z (TL.f z (TL.f z (TL.w z (ai_ z z z) (TL.en (TC.t z (TC.a (TL.j z z (TL.en (TC.rt 0 (S.r ?_)))))))))))))
  obtain rfl:=so hh
  exact rq [4] ⟨z,z,z⟩
 replace hh:=d9_ h108 hh
 refine TL.g z (aa_ z gd_ z) (TL.g z (ab_ z ix_ z (i:=1) z z) (TL.g z (aa_ z gd_ z) (TL.g z (ab_ z ix_ z (i:=0) z z) ?_)))
 obtain ⟨v40,u40,hh⟩:=d8_ hh
 refine TL.gon z z z z z (av_ (Fx_ f0_3 f1_3 u40) z z pf27 z z z ?_)
 refine TL.g z (OpVal.not z z) (TL.w z (ac_ z z z) (TL.en (TC.cB z hh (fun h109 hh=> ?_) (fun h109 hh=> ?_))))
 ·refine TC.a (TL.j z z (TL.en (TC.rt 0 (S.r ?_))))
  obtain rfl:=so hh
  exact rq [4] ⟨z,z,z⟩
 refine TC.skip (S.n (TC.seq (TC.a (TL.i z z (TL.en (TC.block (TC.as_ (α:=(Nat)×(Unit)) (rgs [(4,2),(45,40)]) (fun g=>[(5,.int .i64 ((g.1:Nat):Int))]) (fun g=>[cq_ b101 x0 a0_0 c0_0 a0_1 c0_1 a0_2 c0_2 a0_3 c0_3,cq_ b103 x1 a1_0 c1_0 a1_1 c1_1 a1_2 c1_2 a1_3 c1_3]) (fun g=>σ) (fun g=>ed_ (fun q:Nat=>Bk_ x0 x1 q) g.1=some r) (fun g=>eg_ (fun q:Nat=>Bk_ x0 x1 q) g.1) (0,()) (Sub.f [1] 2) z (by repeat (first|exact trivial|refine ⟨z,?_⟩)) hh (fun g1 j1 hg1=> ?_))))))))
 obtain ⟨k112,_⟩:=g1
 have hh:=hg1;clear hg1
 try dsimp only
 obtain ⟨z1,hh,hR1⟩:=ek_ hh
 dsimp only [Bk_]at hh
 refine TC.seq (TC.a (TL.i z z (TL.w z (aa_ z e0_ z) (TL.w z (ab_ z hn_ z (i:=0) z z) (TL.w z (lenC z underlying27 z) (TL.w z (OpVal.lss z z z) (TL.en (TC.cD z hh (fun h113 hh=> ?_) (fun h113 hh=> ?_)))))))))
 ·refine TC.skip (S.n (TC.cutG (α:=(Unit)×(Unit)) (rgs [(4,1),(52,33)]) (fun g=>[]) (fun g=>[cq_ b101 x0 a0_0 c0_0 a0_1 c0_1 a0_2 c0_2 a0_3 c0_3,cq_ b103 x1 a1_0 c1_0 a1_1 c1_1 a1_2 c1_2 a1_3 c1_3]) (fun g=>σ) (fun g=>Ce_ k112=some z1) ?_ (fun g j hg=> ?_)))
  ·skip
   refine TC.block (TC.seq (TC.draw [] (by kernel_rfl) (TA.a 0 z (aa_ z e0_ z) z (TA.b 1 z (ab_ z hn_ z (i:=0) z z) z (TA.a 2 z (aj_ (.inl z) z) z (TA.b 3 z (af_ z underlying27 fh_ z z f0_0.isSl (by omega)) z ?_))))))
   obtain ⟨p114,hk114,hg114⟩:=RZ.seg f0_0 k112 (by omega)
   replace hk114:rS_ _ eI_ p114.1 p114.2 (nth x0.next k112 []):=hk114
   have hk114b:=hk114.rv.big
   refine TA.b 4 z (OpVal.of (an_ z iv_ z hg114 z) (v':= .slice p114.1 ((nth x0.next k112 []).length) p114.2) z) z (TA.a 5 z (aa_ z e0_ z) z (TA.b 6 z (ab_ z hn_ z (i:=1) z z) z (TA.a 7 z (aj_ (.inl z) z) z ?_)))
   obtain ⟨u58,hh⟩:=d1_ hh
   refine TA.b 8 z (af_ z underlying27 fh_ z z f1_0.isSl (by omega)) z ?_
   obtain ⟨p115,hk115,hg115⟩:=RZ.seg f1_0 k112 (by omega)
   replace hk115:rS_ _ eI_ p115.1 p115.2 (nth x1.next k112 []):=hk115
   have hk115b:=hk115.rv.big
   refine TA.b 9 z (OpVal.of (an_ z iv_ z hg115 z) (v':= .slice p115.1 ((nth x1.next k112 []).length) p115.2) z) z ?_
   obtain ⟨v60,u60,hh⟩:=d8_ hh
   refine TA.ac 10 z (av_ (Hf_ hk114 hk115 u60) z z pf52 z z z (k0 ?_))
   refine TA.a 11 z (OpVal.not z z) z (TA.a 12 z (moveB (.inl z) z) z (TA.split 64 z (fun h116=> ?_) (fun h116=> ?_)))
   ·replace hh:=ea_ h116 hh
    refine TA.off 13 z z z z z z (TA.off 14 z z z z z z (TA.off 15 z z z z z z (TA.off 16 z z z z z z (TA.off 17 z z z z z z (TA.off 18 z z z z z z (TA.ar_ 19 z (by kernel_rfl) (by kernel_rfl) (by kernel_rfl) (by kernel_rfl) z z z z z z z (TA.ar_ 20 z (by kernel_rfl) (by kernel_rfl) (by kernel_rfl) (by kernel_rfl) z z z z z z z (TA.ar_ 21 z (by kernel_rfl) (by kernel_rfl) (by kernel_rfl) (by kernel_rfl) z z z z z z z (TA.ar_ 22 z (by kernel_rfl) (by kernel_rfl) (by kernel_rfl) (by kernel_rfl) z z z z z z z (TA.ar_ 23 z (by kernel_rfl) (by kernel_rfl) (by kernel_rfl) (by kernel_rfl) z z z z z z z (TA.ar_ 24 z (by kernel_rfl) (by kernel_rfl) (by kernel_rfl) (by kernel_rfl) z z z z z z z (TA.ar_ 25 z (by kernel_rfl) (by kernel_rfl) (by kernel_rfl) (by kernel_rfl) z z z z z z z (TA.ar_ 26 z (by kernel_rfl) (by kernel_rfl) (by kernel_rfl) (by kernel_rfl) z z z z z z z (TA.ar_ 27 z (by kernel_rfl) (by kernel_rfl) (by kernel_rfl) (by kernel_rfl) z z z z z z z (TA.ar_ 28 z (by kernel_rfl) (by kernel_rfl) (by kernel_rfl) (by kernel_rfl) z z z z z z z ?_)))))))))))))))
    refine TA.ar_ 29 z (by kernel_rfl) (by kernel_rfl) (by kernel_rfl) (by kernel_rfl) z z z z z z z (TA.ar_ 30 z (by kernel_rfl) (by kernel_rfl) (by kernel_rfl) (by kernel_rfl) z z z z z z z (TA.off 31 z z z z z z (TA.a 32 z (ai_ z z z) z (TA.dn (S.n (TC.t z (TC.a (TL.j z z (TL.en (TC.rt 0 (B.r (S.r (S.r ?_)))))))))))))
    replace hh:=eh_ hR1 hh
    refine B.r (S.r ?_)
    obtain rfl:=so hh
    exact rq [4] ⟨z,z,z⟩
   replace hh:=d9_ h116 hh
   refine TA.on 13 z z z z (aj_ (.inl z) z) z (TA.on 14 z z z z (aa_ z fb_ z) z (TA.on 15 z z z z (ab_ z jr_ z (i:=0) z z) z (TA.on 16 z z z z (lenC z underlying28 z) z (TA.on 17 z z z z (OpVal.lss z z z) z (TA.on 18 z z z z (moveB (.inl z) z) z (TA.split 70 z (fun h117=> ?_) (fun h117=> ?_)))))))
   ·replace hh:=ea_ h117 hh
    replace h117:=dt_ h117
    refine TA.on 19 z z z z (aa_ z fb_ z) z (TA.on 20 z z z z (ab_ z jr_ z (i:=0) z z) z (TA.on 21 z z z z (aj_ (.inl z) z) z (TA.on 22 z z z z (af_ z underlying28 iy_ z z f0_1.isSl (by omega)) z ?_)))
    obtain ⟨p118,hk118,hg118⟩:=RZ.seg f0_1 k112 (by omega)
    replace hk118:rS_ _ eS_ p118.1 p118.2 (nth x0.outs k112 []):=hk118
    have hk118b:=hk118.rv.big
    refine TA.on 23 z z z z (OpVal.of (an_ z ix_ z hg118 z) (v':= .slice p118.1 ((nth x0.outs k112 []).length) p118.2) z) z (TA.on 24 z z z z (aa_ z fb_ z) z (TA.on 25 z z z z (ab_ z jr_ z (i:=1) z z) z (TA.on 26 z z z z (aj_ (.inl z) z) z ?_)))
    obtain ⟨u77,hh⟩:=d1_ hh
    refine TA.on 27 z z z z (af_ z underlying28 iy_ z z f1_1.isSl (by omega)) z ?_
    obtain ⟨p119,hk119,hg119⟩:=RZ.seg f1_1 k112 (by omega)
    replace hk119:rS_ _ eS_ p119.1 p119.2 (nth x1.outs k112 []):=hk119
    have hk119b:=hk119.rv.big
    refine TA.on 28 z z z z (OpVal.of (an_ z ix_ z hg119 z) (v':= .slice p119.1 ((nth x1.outs k112 []).length) p119.2) z) z ?_
    obtain ⟨v79,u79,hh⟩:=d8_ hh
    refine TA.actOn 29 (by kernel_rfl) z z z z z z (av_ (Fx_ hk118 hk119 u79) z z pf27 z z z (k0 ?_))
    refine TA.on 30 z z z z (OpVal.not z z) z (TA.on 31 z z z z (ai_ z z z) z (TA.a 32 z (ac_ z z z) z (TA.dn (S.n (TC.cB z hh (fun h120 hh=> ?_) (fun h120 hh=> ?_))))))
    ·refine TC.a (TL.j z z (TL.en (TC.rt 0 (B.r (S.r (S.r ?_))))))
     replace hh:=eh_ hR1 hh
     refine B.r (S.r ?_)
     obtain rfl:=so hh
     exact rq [4] ⟨z,z,z⟩
    exact TC.skip (B.n (S.n (cf ((),()) hh (Sub.f [1,1] 2))))
   replace hh:=d9_ h117 hh
   replace h117:=df_ h117
   refine TA.off 19 z z z z z z (TA.off 20 z z z z z z (TA.off 21 z z z z z z (TA.off 22 z z z z z z (TA.off 23 z z z z z z (TA.off 24 z z z z z z (TA.off 25 z z z z z z (TA.off 26 z z z z z z (TA.off 27 z z z z z z (TA.off 28 z z z z z z (TA.off 29 z z z z z z (TA.off 30 z z z z z z (TA.on 31 z z z z (ac_ z z z) z (TA.a 32 z (ac_ z z z) z (TA.dn (S.n ?_)))))))))))))))
   exact TC.f z (TC.skip (B.n (S.n (cf ((),()) hh (Sub.f [1,1] 2)))))
  skip
  obtain ⟨_,_⟩:=g
  have hh:=hg;clear hg
  try dsimp only
  dsimp only [Ce_]at hh
  refine TC.region (TL.i z z (TL.w z (OpVal.succ z z z (by omega)) (TL.i z z (TL.en ?_))))
  obtain ⟨hh,hlt121⟩:=ev_ hR1 hh
  exact lf ((k112+1),()) hlt121 hh (Sub.f [1,1] 2)
 refine TC.exit (S.x (S.x ?_))
 replace hh:=eh_ hR1 hh
 refine TC.ae_ (S.n (TC.a (TL.j z z (TL.en (TC.rt 0 ?_)))))
 obtain rfl:=so hh
 exact rq [4] ⟨z,z,z⟩
end Go.Proofs.YtchebnpdnfhenaaGreatDoor
end

noncomputable section
namespace Go.E
open Go
section
variable {β:Type} {E' E size:Nat} {enc:β→List Value} {v:Value}
variable {X:Ctx} {e:Env} {σ:dw_} {H F:List Res} {o:Oper} {x y:Operand} {K:Env→dw_→List Res→Prop} {z u:List (NP β)} {l k:List (List β)}
end
end Go.E
end

noncomputable section
namespace Go.Proofs.YtchebnpdnfhenaaGreatDoor
open Go Go.E Go.E.OpVal Go.E.OpOk
def Cz_(k192:Nat)(l199:T_2):Option ((T_2×Nat)⊕((T_2×B_1×Bool×Nat)⊕((T_2×B_1×Bool)⊕(T_2×B_1×Int)))):=
 nxt (l199,(k192+1))
def Bs_(k147:Nat)(l151:T_2)(l153:B_1)(t155:Bool):Option ((T_2×B_1×Bool×Nat)⊕((T_2×B_1×Bool)⊕(T_2×B_1×Int))):=
 nxt (l151,l153,t155,(k147+1))
def Az_(x0:Seq)(k147:Nat)(l144:B_1)(l142:T_2)(t146:Bool)(l189:T_2)(k192:Nat):Option ((T_2×Nat)⊕((T_2×B_1×Bool×Nat)⊕((T_2×B_1×Bool)⊕(T_2×B_1×Int)))):=
 d4_ (decide ((k192:Int)<256)) (grd (k192<(nth x0.next k147 []).length) (d4_ (decide (0≤(nth (nth x0.next k147 []) k192 0))) (grd (0≤(nth (nth x0.next k147 []) k192 0)∧(nth (nth x0.next k147 []) k192 0)<(l144.length:Int)) (d4_ (nth l144 ((nth (nth x0.next k147 []) k192 0).toNat) false) (grd (k147<x0.outs.length) (grd (k192<(nth x0.outs k147 []).length) (grd (0≤(nth (nth x0.next k147 []) k192 0)∧(nth (nth x0.next k147 []) k192 0)<(l142.length:Int)) (grd ((nth (nth x0.outs k147 []) k192 []).length+(nth l142 ((nth (nth x0.next k147 []) k192 0).toNat) []).length≤9223372036854775807) (grd ((l189.length+[((nth (nth x0.outs k147 []) k192 [])++(nth l142 ((nth (nth x0.next k147 []) k192 0).toNat) []))].length) * 16≤140737488355328) (Cz_ k192 (l189++[((nth (nth x0.outs k147 []) k192 [])++(nth l142 ((nth (nth x0.next k147 []) k192 0).toNat) []))]))))))) (Cz_ k192 l189))) (Cz_ k192 l189))) (fin (d4_ (decide (((l189.length:Nat):Int)=0)) (Bs_ k147 l142 l144 t146) (bnd (F2_ l189) (fun v87=>grd (k147<l144.length) (d4_ (!(nth l144 k147 false)) (grd (k147<l144.length) (grd (k147<l142.length) (Bs_ k147 (l142.set k147 v87) (l144.set k147 true) true))) (grd (k147<l142.length) (d4_ (decide (v87≠(nth l142 k147 []))) (grd (k147<l144.length) (grd (k147<l142.length) (Bs_ k147 (l142.set k147 v87) (l144.set k147 true) true))) (Bs_ k147 l142 l144 t146))))))))
def Cx_(x0:Seq)(k147:Nat)(l144:B_1)(l142:T_2)(t146:Bool)(l159:T_2):Option ((T_2×B_1×Bool×Nat)⊕((T_2×B_1×Bool)⊕(T_2×B_1×Int))):=
 ed_ (fun q:T_2×Nat=>Az_ x0 k147 l144 l142 t146 q.1 q.2) (l159,0)
def A1_(x0:Seq)(l142:T_2)(l144:B_1)(t146:Bool)(k147:Nat):Option ((T_2×B_1×Bool×Nat)⊕((T_2×B_1×Bool)⊕(T_2×B_1×Int))):=
 d4_ (decide ((k147:Int)<((x0.next.length:Nat):Int))) (grd (k147<x0.fin.length) (d4_ (nth x0.fin k147 false) (grd (k147<x0.tail.length) (grd ((([]:T_2).length+[(nth x0.tail k147 [])].length) * 16≤140737488355328) (Cx_ x0 k147 l144 l142 t146 (([]:T_2)++[(nth x0.tail k147 [])])))) (Cx_ x0 k147 l144 l142 t146 ([]:T_2)))) (fin (nxt (l142,l144,t146)))
def Br_(x0:Seq)(l120:T_2)(l122:B_1)(t124:Bool):Option ((T_2×B_1×Bool)⊕(T_2×B_1×Int)):=
 d4_ t124 (ed_ (fun q:T_2×B_1×Bool×Nat=>A1_ x0 q.1 q.2.1 q.2.2.1 q.2.2.2) (l120,l122,false,0)) (fin (some (l120,l122,0)))
def D1_(x0:Seq):Option (T_2×B_1×Int):=
 bnd (C6_ x0) (fun v6=>d4_ (!v6) (some (([]:T_2),([]:B_1),1)) (grd (16 * x0.next.length≤281474976710656) (grd (1 * x0.next.length≤281474976710656) (ed_ (fun q:T_2×B_1×Bool=>Br_ x0 q.1 q.2.1 q.2.2) ((List.replicate x0.next.length ([]:T_1)),(List.replicate x0.next.length false),true)))))
def D3_(k155:Nat)(l160:N_1):Option ((N_1×Nat)⊕((B_1×N_1×Nat)⊕(B_1))):=
 nxt (l160,(k155+1))
def Co_(k126:Nat)(l130:B_1)(l132:N_1):Option ((B_1×N_1×Nat)⊕(B_1)):=
 nxt (l130,l132,(k126+1))
def At_(l123:N_1)(k126:Nat)(x0:Seq)(l121:B_1)(l152:N_1)(k155:Nat):Option ((N_1×Nat)⊕((B_1×N_1×Nat)⊕(B_1))):=
 d4_ (decide ((k155:Int)<256)) (grd (0≤(nth l123 k126 0)∧(nth l123 k126 0)<(x0.next.length:Int)) (grd (k155<(nth x0.next ((nth l123 k126 0).toNat) []).length) (d4_ (decide (0≤(nth (nth x0.next ((nth l123 k126 0).toNat) []) k155 0))) (grd (0≤(nth l123 k126 0)∧(nth l123 k126 0)<(x0.next.length:Int)) (grd (k155<(nth x0.next ((nth l123 k126 0).toNat) []).length) (grd ((l152.length+[(nth (nth x0.next ((nth l123 k126 0).toNat) []) k155 0)].length) * 8≤140737488355328) (D3_ k155 (l152++[(nth (nth x0.next ((nth l123 k126 0).toNat) []) k155 0)]))))) (D3_ k155 l152)))) (fin (Co_ k126 (l121.set ((nth l123 k126 0).toNat) true) l152))
def Bl_(x0:Seq)(l121:B_1)(l123:N_1)(k126:Nat):Option ((B_1×N_1×Nat)⊕(B_1)):=
 d4_ (decide ((k126:Int)<((l123.length:Nat):Int))) (grd (0≤(nth l123 k126 0)∧(nth l123 k126 0)<(l121.length:Int)) (d4_ (nth l121 ((nth l123 k126 0).toNat) false) (Co_ k126 l121 l123) (grd (0≤(nth l123 k126 0)∧(nth l123 k126 0)<(l121.length:Int)) (ed_ (fun q:N_1×Nat=>At_ l123 k126 x0 l121 q.1 q.2) (l123,0))))) (fin (some l121))
def Ey_(x0:Seq):Option (B_1):=
 grd (1 * x0.next.length≤281474976710656) (ed_ (fun q:B_1×N_1×Nat=>Bl_ x0 q.1 q.2.1 q.2.2) ((List.replicate x0.next.length false),[0],0))
def Dj_(k125:Nat)(l129:N_1)(k131:Nat):Option ((N_1×Nat×Nat)⊕(Seq×Int)):=
 nxt (l129,k131,(k125+1))
def Dm_(k279:Nat)(l294:N_1)(l296:T_2):Option ((N_1×T_2×Nat)⊕((N_2×T_3×B_1×T_2×Nat)⊕(Seq×Int))):=
 nxt (l294,l296,(k279+1))
def Dk_(k212:Nat)(l229:N_2)(l234:T_3)(l239:B_1)(l242:T_2):Option ((N_2×T_3×B_1×T_2×Nat)⊕(Seq×Int)):=
 nxt (l229,l234,l239,l242,(k212+1))
def Cj_(l193:N_2)(l275:N_1)(l199:T_3)(l277:T_2)(k212:Nat)(x0:Seq)(l205:B_1)(l209:T_2)(s327:T_1):Option ((N_2×T_3×B_1×T_2×Nat)⊕(Seq×Int)):=
 grd ((l193.length+[l275].length) * 24≤140737488355328) (grd ((l199.length+[l277].length) * 24≤140737488355328) (grd (k212<x0.fin.length) (grd ((l205.length+[(nth x0.fin k212 false)].length) * 1≤140737488355328) (grd ((l209.length+[s327].length) * 16≤140737488355328) (Dk_ k212 (l193++[l275]) (l199++[l277]) (l205++[(nth x0.fin k212 false)]) (l209++[s327]))))))
def Bf_(k212:Nat)(x0:Seq)(l122:N_1)(v5:T_2×B_1×Int)(l193:N_2)(l199:T_3)(l205:B_1)(l209:T_2)(l275:N_1)(l277:T_2)(k279:Nat):Option ((N_1×T_2×Nat)⊕((N_2×T_3×B_1×T_2×Nat)⊕(Seq×Int))):=
 d4_ (decide ((k279:Int)<256)) (grd (k212<x0.next.length) (grd (k279<(nth x0.next k212 []).length) (grd (k279<l275.length) (d4_ (decide (0≤(nth (nth x0.next k212 []) k279 0))) (grd (0≤(nth (nth x0.next k212 []) k279 0)∧(nth (nth x0.next k212 []) k279 0)<(l122.length:Int)) (d4_ (decide (0≤(nth l122 ((nth (nth x0.next k212 []) k279 0).toNat) 0))) (grd (0≤(nth (nth x0.next k212 []) k279 0)∧(nth (nth x0.next k212 []) k279 0)<(l122.length:Int)) (grd (k279<(l275.set k279 (-1)).length) (grd (k212<x0.outs.length) (grd (k279<(nth x0.outs k212 []).length) (grd (0≤(nth (nth x0.next k212 []) k279 0)∧(nth (nth x0.next k212 []) k279 0)<(v5.1.length:Int)) (grd ((nth (nth x0.outs k212 []) k279 []).length+(nth v5.1 ((nth (nth x0.next k212 []) k279 0).toNat) []).length≤9223372036854775807) (grd ((nth v5.1 k212 []).length≤((nth (nth x0.outs k212 []) k279 [])++(nth v5.1 ((nth (nth x0.next k212 []) k279 0).toNat) [])).length∧((nth (nth x0.outs k212 []) k279 [])++(nth v5.1 ((nth (nth x0.next k212 []) k279 0).toNat) [])).length≤((nth (nth x0.outs k212 []) k279 [])++(nth v5.1 ((nth (nth x0.next k212 []) k279 0).toNat) [])).length) (grd (k279<l277.length) (Dm_ k279 ((l275.set k279 (-1)).set k279 (nth l122 ((nth (nth x0.next k212 []) k279 0).toNat) 0)) (l277.set k279 (((nth (nth x0.outs k212 []) k279 [])++(nth v5.1 ((nth (nth x0.next k212 []) k279 0).toNat) [])).drop ((nth v5.1 k212 []).length)))))))))))) (Dm_ k279 (l275.set k279 (-1)) l277))) (Dm_ k279 (l275.set k279 (-1)) l277))))) (fin (grd (k212<x0.fin.length) (d4_ (nth x0.fin k212 false) (grd (k212<x0.tail.length) (grd ((nth v5.1 k212 []).length≤(nth x0.tail k212 []).length∧(nth x0.tail k212 []).length≤(nth x0.tail k212 []).length) (Cj_ l193 l275 l199 l277 k212 x0 l205 l209 ((nth x0.tail k212 []).drop ((nth v5.1 k212 []).length))))) (Cj_ l193 l275 l199 l277 k212 x0 l205 l209 ([]:T_1)))))
def Au_(v32:B_1)(l122:N_1)(v5:T_2×B_1×Int)(x0:Seq)(l193:N_2)(l199:T_3)(l205:B_1)(l209:T_2)(k212:Nat):Option ((N_2×T_3×B_1×T_2×Nat)⊕(Seq×Int)):=
 d4_ (decide ((k212:Int)<((v32.length:Nat):Int))) (grd (k212<l122.length) (d4_ (decide ((nth l122 k212 0)<0)) (Dk_ k212 l193 l199 l205 l209) (grd (k212<v5.1.length) (ed_ (fun q:N_1×T_2×Nat=>Bf_ k212 x0 l122 v5 l193 l199 l205 l209 q.1 q.2.1 q.2.2) ((List.replicate 256 (0:Int)),(List.replicate 256 ([]:T_1)),0))))) (fin (bnd (C6_ (⟨(x0.front++(nth v5.1 0 [])),l193,l199,l205,l209⟩:Seq)) (fun v205=>d4_ (!v205) (some ((⟨([]:T_1),([]:N_2),([]:T_3),([]:B_1),([]:T_2)⟩:Seq),2)) (some ((⟨(x0.front++(nth v5.1 0 [])),l193,l199,l205,l209⟩:Seq),0)))))
def Bg_(v32:B_1)(v5:T_2×B_1×Int)(x0:Seq)(l122:N_1)(k124:Nat)(k125:Nat):Option ((N_1×Nat×Nat)⊕(Seq×Int)):=
 d4_ (decide ((k125:Int)<((v32.length:Nat):Int))) (grd (k125<l122.length) (d4_ (nth v32 k125 false) (grd (k125<v5.2.1.length) (d4_ (nth v5.2.1 k125 false) (grd (k125<(l122.set k125 (-1)).length) (grd (k124+1≤9223372036854775807) (Dj_ k125 ((l122.set k125 (-1)).set k125 (k124:Int)) (k124+1)))) (Dj_ k125 (l122.set k125 (-1)) k124))) (Dj_ k125 (l122.set k125 (-1)) k124))) (fin (grd (0<v5.1.length) (grd (x0.front.length+(nth v5.1 0 []).length≤9223372036854775807) (ed_ (fun q:N_2×T_3×B_1×T_2×Nat=>Au_ v32 l122 v5 x0 q.1 q.2.1 q.2.2.1 q.2.2.2.1 q.2.2.2.2) (([]:N_2),([]:T_3),([]:B_1),([]:T_2),0)))))
def De_(x0:Seq):Option (Seq×Int):=
 bnd (D1_ x0) (fun v5=>d4_ (decide (v5.2.2≠0)) (some ((⟨([]:T_1),([]:N_2),([]:T_3),([]:B_1),([]:T_2)⟩:Seq),v5.2.2)) (d4_ (decide (((v5.2.1.length:Nat):Int)=0)) (some ((⟨([]:T_1),([]:N_2),([]:T_3),([]:B_1),([]:T_2)⟩:Seq),0)) (grd (0<v5.2.1.length) (d4_ (!(nth v5.2.1 0 false)) (some ((⟨([]:T_1),([]:N_2),([]:T_3),([]:B_1),([]:T_2)⟩:Seq),0)) (bnd (Ey_ x0) (fun v32=>grd (8 * v32.length≤281474976710656) (ed_ (fun q:N_1×Nat×Nat=>Bg_ v32 v5 x0 q.1 q.2.1 q.2.2) ((List.replicate v32.length (0:Int)),0,0))))))))
def Eo_(k175:Nat)(l180:B_1):Option ((B_1×Nat)⊕((B_1×Nat)⊕(((List B_1)×Nat)⊕((List B_1))))):=
 nxt (l180,(k175+1))
def A8_(k143:Nat)(x0:Seq)(k123:Nat)(l173:B_1)(k175:Nat):Option ((B_1×Nat)⊕((B_1×Nat)⊕(((List B_1)×Nat)⊕((List B_1))))):=
 d4_ (decide ((k175:Int)<256)) (grd (k143<l173.length) (d4_ (nth l173 k143 false) (grd (k143<l173.length) (Eo_ k175 (l173.set k143 true))) (grd (k175<(nth x0.next k123 []).length) (grd (k175<(nth x0.next k143 []).length) (grd (k143<l173.length) (Eo_ k175 (l173.set k143 ((decide ((nth (nth x0.next k123 []) k175 0)<0)) != (decide ((nth (nth x0.next k143 []) k175 0)<0)))))))))) (fin (nxt (l173,(k143+1))))
def A6_(k143:Nat)(x0:Seq)(k123:Nat)(l148:B_1):Option ((B_1×Nat)⊕(((List B_1)×Nat)⊕((List B_1)))):=
 ed_ (fun q:B_1×Nat=>A8_ k143 x0 k123 q.1 q.2) (l148,0)
def Ap_(x0:Seq)(k123:Nat)(l118:List B_1)(l141:B_1)(k143:Nat):Option ((B_1×Nat)⊕(((List B_1)×Nat)⊕((List B_1)))):=
 d4_ (decide ((k143:Int)<((x0.next.length:Nat):Int))) (grd (k123<x0.fin.length) (grd (k143<x0.fin.length) (d4_ ((nth x0.fin k123 false) != (nth x0.fin k143 false)) (grd (k143<l141.length) (A6_ k143 x0 k123 (l141.set k143 true))) (grd (k123<x0.tail.length) (grd (k143<x0.tail.length) (d4_ (decide ((nth x0.tail k123 [])≠(nth x0.tail k143 []))) (grd (k143<l141.length) (A6_ k143 x0 k123 (l141.set k143 true))) (grd (k123<x0.outs.length) (grd (k143<x0.outs.length) (bnd (Am_ (nth x0.outs k123 []) (nth x0.outs k143 [])) (fun v56=>grd (k143<l141.length) (A6_ k143 x0 k123 (l141.set k143 (!v56))))))))))))) (fin (grd ((l118.length+([l141]:List B_1).length) * 24≤140737488355328) (nxt ((l118++([l141]:List B_1)),(k123+1)))))
def B7_(k288:Nat)(l295:List B_1)(t299:Bool):Option (((List B_1)×Bool×Nat)⊕(((List B_1)×Bool×Nat)⊕(((List B_1)×Bool×Nat)⊕(((List B_1)×Bool)⊕((List B_1)))))):=
 nxt (l295,t299,(k288+1))
def C9_(k261:Nat)(l264:List B_1)(t268:Bool):Option (((List B_1)×Bool×Nat)⊕(((List B_1)×Bool×Nat)⊕(((List B_1)×Bool)⊕((List B_1))))):=
 nxt (l264,t268,(k261+1))
def Aj_(k239:Nat)(k261:Nat)(x0:Seq)(l283:List B_1)(t287:Bool)(k288:Nat):Option (((List B_1)×Bool×Nat)⊕(((List B_1)×Bool×Nat)⊕(((List B_1)×Bool×Nat)⊕(((List B_1)×Bool)⊕((List B_1)))))):=
 d4_ (decide ((k288:Int)<256)) (grd (k239<l283.length) (grd (k261<(nth l283 k239 []).length) (d4_ (!(nth (nth l283 k239 []) k261 false)) (grd (k288<(nth x0.next k239 []).length) (grd (k288<(nth x0.next k261 []).length) (d4_ (decide (0≤(nth (nth x0.next k239 []) k288 0))) (d4_ (decide (0≤(nth (nth x0.next k261 []) k288 0))) (grd (0≤(nth (nth x0.next k239 []) k288 0)∧(nth (nth x0.next k239 []) k288 0)<(l283.length:Int)) (grd (0≤(nth (nth x0.next k261 []) k288 0)∧(nth (nth x0.next k261 []) k288 0)<((nth l283 ((nth (nth x0.next k239 []) k288 0).toNat) []).length:Int)) (d4_ (nth (nth l283 ((nth (nth x0.next k239 []) k288 0).toNat) []) ((nth (nth x0.next k261 []) k288 0).toNat) false) (grd (k239<l283.length) (grd (k261<(nth l283 k239 []).length) (B7_ k288 (l283.set k239 ((nth l283 k239 []).set k261 true)) true))) (B7_ k288 l283 t287)))) (B7_ k288 l283 t287)) (B7_ k288 l283 t287)))) (fin (C9_ k261 l283 t287))))) (fin (C9_ k261 l283 t287))
def A7_(x0:Seq)(k239:Nat)(l256:List B_1)(t260:Bool)(k261:Nat):Option (((List B_1)×Bool×Nat)⊕(((List B_1)×Bool×Nat)⊕(((List B_1)×Bool)⊕((List B_1))))):=
 d4_ (decide ((k261:Int)<((x0.next.length:Nat):Int))) (ed_ (fun q:(List B_1)×Bool×Nat=>Aj_ k239 k261 x0 q.1 q.2.1 q.2.2) (l256,t260,0)) (fin (nxt (l256,t260,(k239+1))))
def Aq_(x0:Seq)(l234:List B_1)(t238:Bool)(k239:Nat):Option (((List B_1)×Bool×Nat)⊕(((List B_1)×Bool)⊕((List B_1)))):=
 d4_ (decide ((k239:Int)<((x0.next.length:Nat):Int))) (ed_ (fun q:(List B_1)×Bool×Nat=>A7_ x0 k239 q.1 q.2.1 q.2.2) (l234,t238,0)) (fin (nxt (l234,t238)))
def B8_(x0:Seq)(l213:List B_1)(t217:Bool):Option (((List B_1)×Bool)⊕((List B_1))):=
 d4_ t217 (ed_ (fun q:(List B_1)×Bool×Nat=>Aq_ x0 q.1 q.2.1 q.2.2) (l213,false,0)) (fin (some l213))
def Ba_(x0:Seq)(l118:List B_1)(k123:Nat):Option (((List B_1)×Nat)⊕((List B_1))):=
 d4_ (decide ((k123:Int)<((x0.next.length:Nat):Int))) (grd (1 * x0.next.length≤281474976710656) (ed_ (fun q:B_1×Nat=>Ap_ x0 k123 l118 q.1 q.2) ((List.replicate x0.next.length false),0))) (fin (ed_ (fun q:(List B_1)×Bool=>B8_ x0 q.1 q.2) (l118,true)))
def Fl_(x0:Seq):Option ((List B_1)):=
 ed_ (fun q:(List B_1)×Nat=>Ba_ x0 q.1 q.2) (([]:List B_1),0)
def E9_(i136:Int)(i139:Int):Option ((Int×Int)⊕((N_1×Nat)⊕(Seq×Int))):=
 nxt (i139,(IntKind.i64.wrap (i136 - 1)))
def Bo_(k125:Nat)(v25:(List B_1))(l122:N_1)(i135:Int)(i136:Int):Option ((Int×Int)⊕((N_1×Nat)⊕(Seq×Int))):=
 d4_ (decide (0≤i136)) (grd (k125<v25.length) (grd (0≤i136∧i136<((nth v25 k125 []).length:Int)) (d4_ (!(nth (nth v25 k125 []) i136.toNat false)) (E9_ i136 i136) (E9_ i136 i135)))) (fin (grd ((l122.length+[i135].length) * 8≤140737488355328) (nxt ((l122++[i135]),(k125+1)))))
def D2_(k313:Nat)(k327:Nat):Option ((Nat×Nat)⊕((N_1×N_1×Nat)⊕((N_2×T_3×B_1×T_2×N_1×Nat)⊕(Seq×Int)))):=
 nxt (k327,(k313+1))
def Cq_(k272:Nat)(l285:N_1)(l288:N_1):Option ((N_1×N_1×Nat)⊕((N_2×T_3×B_1×T_2×N_1×Nat)⊕(Seq×Int))):=
 nxt (l285,l288,(k272+1))
def Ac_(k272:Nat)(l270:N_1)(k312:Nat)(l342:N_1):Option ((N_1×N_1×Nat)⊕((N_2×T_3×B_1×T_2×N_1×Nat)⊕(Seq×Int))):=
 grd (k272<(l270.set k272 (-1)).length) (Cq_ k272 l342 ((l270.set k272 (-1)).set k272 (k312:Int)))
def Aa_(l267:N_1)(l122:N_1)(v5:Seq×Int)(l224:N_1)(k227:Nat)(k272:Nat)(l270:N_1)(k312:Nat)(k313:Nat):Option ((Nat×Nat)⊕((N_1×N_1×Nat)⊕((N_2×T_3×B_1×T_2×N_1×Nat)⊕(Seq×Int)))):=
 d4_ (decide ((k313:Int)<((l267.length:Nat):Int))) (d4_ (decide ((nth l267 k313 0)=(nth l122 ((nth (nth v5.1.next ((nth l224 k227 0).toNat) []) k272 0).toNat) 0))) (D2_ k313 k313) (D2_ k313 k312)) (fin (d4_ (decide ((k312:Int)=((l267.length:Nat):Int))) (grd ((l267.length+[(nth l122 ((nth (nth v5.1.next ((nth l224 k227 0).toNat) []) k272 0).toNat) 0)].length) * 8≤140737488355328) (Ac_ k272 l270 k312 (l267++[(nth l122 ((nth (nth v5.1.next ((nth l224 k227 0).toNat) []) k272 0).toNat) 0)]))) (Ac_ k272 l270 k312 l267)))
def A4_(l224:N_1)(k227:Nat)(v5:Seq×Int)(l122:N_1)(l205:N_2)(l211:T_3)(l217:B_1)(l221:T_2)(l267:N_1)(l270:N_1)(k272:Nat):Option ((N_1×N_1×Nat)⊕((N_2×T_3×B_1×T_2×N_1×Nat)⊕(Seq×Int))):=
 d4_ (decide ((k272:Int)<256)) (grd (k272<l270.length) (grd (0≤(nth l224 k227 0)∧(nth l224 k227 0)<(v5.1.next.length:Int)) (grd (k272<(nth v5.1.next ((nth l224 k227 0).toNat) []).length) (d4_ (decide ((nth (nth v5.1.next ((nth l224 k227 0).toNat) []) k272 0)<0)) (Cq_ k272 l267 (l270.set k272 (-1))) (grd (0≤(nth l224 k227 0)∧(nth l224 k227 0)<(v5.1.next.length:Int)) (grd (k272<(nth v5.1.next ((nth l224 k227 0).toNat) []).length) (grd (0≤(nth (nth v5.1.next ((nth l224 k227 0).toNat) []) k272 0)∧(nth (nth v5.1.next ((nth l224 k227 0).toNat) []) k272 0)<(l122.length:Int)) (ed_ (fun q:Nat×Nat=>Aa_ l267 l122 v5 l224 k227 k272 l270 q.1 q.2) (l267.length,0))))))))) (fin (grd ((l205.length+[l270].length) * 24≤140737488355328) (grd (0≤(nth l224 k227 0)∧(nth l224 k227 0)<(v5.1.outs.length:Int)) (grd ((l211.length+[(nth v5.1.outs ((nth l224 k227 0).toNat) [])].length) * 24≤140737488355328) (grd (0≤(nth l224 k227 0)∧(nth l224 k227 0)<(v5.1.fin.length:Int)) (grd ((l217.length+[(nth v5.1.fin ((nth l224 k227 0).toNat) false)].length) * 1≤140737488355328) (grd (0≤(nth l224 k227 0)∧(nth l224 k227 0)<(v5.1.tail.length:Int)) (grd ((l221.length+[(nth v5.1.tail ((nth l224 k227 0).toNat) [])].length) * 16≤140737488355328) (nxt ((l205++[l270]),(l211++[(nth v5.1.outs ((nth l224 k227 0).toNat) [])]),(l217++[(nth v5.1.fin ((nth l224 k227 0).toNat) false)]),(l221++[(nth v5.1.tail ((nth l224 k227 0).toNat) [])]),l267,(k227+1)))))))))))
def Cp_(v5:Seq×Int)(l122:N_1)(l205:N_2)(l211:T_3)(l217:B_1)(l221:T_2)(l224:N_1)(k227:Nat):Option ((N_2×T_3×B_1×T_2×N_1×Nat)⊕(Seq×Int)):=
 d4_ (decide ((k227:Int)<((l224.length:Nat):Int))) (ed_ (fun q:N_1×N_1×Nat=>A4_ l224 k227 v5 l122 l205 l211 l217 l221 q.1 q.2.1 q.2.2) (l224,(List.replicate 256 (0:Int)),0)) (fin (some ((⟨v5.1.front,l205,l211,l217,l221⟩:Seq),0)))
def A2_(v5:Seq×Int)(v25:(List B_1))(l122:N_1)(k125:Nat):Option ((N_1×Nat)⊕(Seq×Int)):=
 d4_ (decide ((k125:Int)<((v5.1.next.length:Nat):Int))) (ed_ (fun q:Int×Int=>Bo_ k125 v25 l122 q.1 q.2) ((k125:Int),(k125:Int))) (fin (grd (0<l122.length) (ed_ (fun q:N_2×T_3×B_1×T_2×N_1×Nat=>Cp_ v5 l122 q.1 q.2.1 q.2.2.1 q.2.2.2.1 q.2.2.2.2.1 q.2.2.2.2.2) (([]:N_2),([]:T_3),([]:B_1),([]:T_2),[(nth l122 0 0)],0))))
def F0_(x0:Seq):Option (Seq×Int):=
 bnd (De_ x0) (fun v5=>d4_ (decide (v5.2≠0)) (some (v5.1,v5.2)) (d4_ (decide (((v5.1.next.length:Nat):Int)=0)) (some (v5.1,v5.2)) (bnd (Fl_ v5.1) (fun v25=>ed_ (fun q:N_1×Nat=>A2_ v5 v25 q.1 q.2) (([]:N_1),0)))))
end Go.Proofs.YtchebnpdnfhenaaGreatDoor
end

noncomputable section
namespace Go.Proofs.YtchebnpdnfhenaaGreatDoor
open Go Go.E
structure PaI (q:Seq) (l0:T_2) (m0:B_1) (j:Nat) (l:T_2) (m:B_1) (t:Bool):Prop where
  b:FrB q l m
  no:t=false→l=l0∧m=m0∧ ∀s,s<j→om_ q l m s
  yes:t=true→es_ (o6_ l m) q.next.length<es_ (o6_ l0 m0) q.next.length
theorem vp_{q:Seq}(l:T_2)(m:B_1)(s k:Nat):(he_ q l m s k).length≤k+1:=by
  induction k with
  |zero=>unfold he_;rw [la_];split<;>simp
  |succ k ih=>
    rw [lw_,la_]
    unfold un_
    split
    · rw [lo_];omega
    rw [List.length_nil];omega
theorem v1_ {q : Seq} (hq : d5_ q = true) {l0 : T_2} {m0 : B_1} {l : T_2} {m : B_1} {t : Bool} {j : Nat} (hj : j < q.next.length) (h : PaI q l0 m0 j l m t) :
    ∃l' m' t',Cx_ q j m l t (he_ q l m j 0)=some (.inl (l',m',t',j+1))∧PaI q l0 m0 (j+1) l' m' t':=by
  obtain ⟨q1,q2,q3,q4,q5⟩:=d3_ hq
  obtain ⟨r1,r2⟩:=ew_ hq hj
  have hl:=h.b.fr.ln
  have hm:=h.b.fr.mn
  have hle:=h.b.le hq
  unfold Cx_
  refine Exists.elim (ej_ (step:=fun z:T_2×Nat=>Az_ q j m l t z.1 z.2) (fun z k=>(z,k)) 256 (fun k z=>z=he_ q l m j k) (fun r=> ∃l' m' t',r= .inl (l',m',t',j+1)∧PaI q l0 m0 (j+1) l' m' t') ?_ ?_ (s0:=he_ q l m j 0) rfl) (fun r hh_=> ?_)
  · rintro k _ hk rfl
    left
    have hlt:=e2_ hq hj hk
    have hol:=ki_ hq hj hk
    have hcn:=vp_ (q:=q) l m j k
    show ∃s',Az_ q j m l t _ k=some (.inl (s',k+1))∧_
    refine ⟨_,?_,rfl⟩
    unfold Az_ Cz_
    have e1:nth (nth q.next j []) k 0=nxQ q j k:=rfl
    have e2:nth (nth q.outs j []) k []=otQ q j k:=rfl
    rw [dy_ (by omega),dx_ (by omega),lw_]
    unfold un_
    simp only [e1,e2]
    by_cases c:0≤nxQ q j k
    · rw [dy_ c,dx_ (show 0≤nxQ q j k∧nxQ q j k<(m.length:Int) by omega)]
      cases d:nth m (nxQ q j k).toNat false with
      |false=>rw [iteO_false,if_neg (fun e=>by simp at e),List.append_nil];rfl
      |true=>
        have hlz:=hle _ (show (nxQ q j k).toNat<_ by omega) d
        rw [iteO_true,if_pos ⟨c,rfl⟩,dx_ (by omega),dx_ (by omega),dx_ (show 0≤nxQ q j k∧nxQ q j k<(l.length:Int) by omega),dx_ (show (otQ q j k).length+(nth l (nxQ q j k).toNat []).length≤_ by omega),dx_ (by simp only [lo_];omega)];rfl
    rw [dz_ c,if_neg (fun e=>c e.1),List.append_nil];rfl
  · rintro _ rfl
    have hlen:=kg_ hq hj hle (k:=256) (Nat.le_refl _)
    have hall:he_ q l m j 256=gy_ q l m j:=rfl
    rw [hall]at hlen ⊢
    have hmono: ∀s,s<j+1→om_ q l m j→(∀s,s<j→om_ q l m s)→om_ q l m s:=fun s hs h1 h2=>by
      by_cases c:s=j
      · rw [c];exact h1
      exact h2 s (by omega)
    have keep:om_ q l m j→PaI q l0 m0 (j+1) l m t:=fun hd=>⟨h.b,fun ht=>⟨(h.no ht).1,(h.no ht).2.1,fun s hs=>hmono s hs hd (h.no ht).2.2⟩,h.yes⟩
    have step:gy_ q l m j≠[]→(nth m j false=true→fw_ (gy_ q l m j)≠nth l j [])→PaI q l0 m0 (j+1) (l.set j (fw_ (gy_ q l m j))) (m.set j true) true:=fun hn hc=>by
      refine ⟨h.b.put hq hj hn,fun ht=>(by cases ht),fun _=> ?_⟩
      have h1:=h.b.mea hq hj hc
      cases t with
      |true=>have:=h.yes rfl;omega
      |false=>
        obtain ⟨e1,e2,_⟩:=h.no rfl
        rw [←e1,←e2];exact h1
    show ∃r,Az_ q j m l t (gy_ q l m j) 256=some (.inr r)∧_
    unfold Az_ Bs_
    rw [dz_ (by omega)]
    by_cases c:gy_ q l m j=[]
    · rw [dy_ (by rw [c];rfl)]
      refine ⟨_,rfl,l,m,t,rfl,keep ⟨fun hmj=> ?_,fun _=>c⟩⟩
      exact absurd c (h.b.dn j hj hmj).1
    rw [dz_ (fun e=>c (en_ (by omega))),rLcp_eq (fun x hx=>by have:=hlen x hx;omega),d7_,dx_ (by omega)]
    cases d:nth m j false with
    |false=>
      rw [fg_,dx_ (by omega),dx_ (by omega)]
      exact ⟨_,rfl,_,_,_,rfl,step c fun e=>(by rw [d]at e;cases e)⟩
    |true=>
      rw [e8_,dx_ (by omega)]
      by_cases e:fw_ (gy_ q l m j)=nth l j []
      · rw [dz_ (fun f=>f e)]
        exact ⟨_,rfl,l,m,t,rfl,keep ⟨fun _=>e.symm,fun f=>(by rw [d]at f;cases f)⟩⟩
      rw [dy_ e,dx_ (by omega),dx_ (by omega)]
      exact ⟨_,rfl,_,_,_,rfl,step c fun _=>e⟩
  obtain ⟨h1,l',m',t',rfl,h2⟩:=hh_
  exact ⟨l',m',t',h1,h2⟩
theorem u4_ {q : Seq} (hq : d5_ q = true) : ∃ l m, D1_ q = some (l, m, 0) ∧ FrOk q l m := by
  obtain ⟨q1,q2,q3,q4,q5⟩:=d3_ hq
  unfold D1_
  rw [n7_,d7_,hq,e8_,dx_ (by omega),dx_ (by omega)]
  have hmf: ∀s,nth (List.replicate q.next.length false) s false=false:=fun s=>fu_ _ _ _
  refine Exists.elim (im_ (step:=fun z:T_2×B_1×Bool=>Br_ q z.1 z.2.1 z.2.2) (fun z=>FrB q z.1 z.2.1∧(z.2.2=false→ ∀s,s<q.next.length→om_ q z.1 z.2.1 s)) (fun z=>es_ (o6_ z.1 z.2.1) q.next.length+if z.2.2=true then 1 else 0) (fun r=> ∃l m,r=(l,m,0)∧FrOk q l m) ?_
    (t:=(List.replicate q.next.length [],List.replicate q.next.length false,true)) ⟨⟨⟨by simp,by simp,fun s _ _=>fu_ _ _ _,fun s _ k=>(by rw [hmf]at k;cases k),fun s _ k=>(by rw [hmf]at k;cases k)⟩,fun s _ k=>(by rw [hmf]at k;cases k),fun s _ k=>(by rw [hmf]at k;cases k)⟩,fun e=>(by cases e)⟩) (fun r hh_=> ?_)
  · rintro ⟨l,m,t⟩ ⟨hI,hD⟩
    simp only at hI hD
    show (∃t',Br_ q l m t=some (.inl t')∧_∧_)∨ ∃r,Br_ q l m t=some (.inr r)∧_
    unfold Br_
    cases t with
    |false=>
      right
      rw [iteO_false]
      exact ⟨_,rfl,l,m,rfl,hI.fr.ok hq (hI.le hq) (hD rfl)⟩
    |true=>
      left
      rw [iteO_true]
      refine Exists.elim (ej_ (step:=fun z:T_2×B_1×Bool×Nat=>A1_ q z.1 z.2.1 z.2.2.1 z.2.2.2) (fun (z:T_2×B_1×Bool) j=>(z.1,z.2.1,z.2.2,j)) q.next.length (fun j z=>PaI q l m j z.1 z.2.1 z.2.2) (fun r=> ∃l' m' t',r= .inl (l',m',t')∧PaI q l m q.next.length l' m' t') ?_ ?_ (s0:=(l,m,false)) ⟨hI,fun _=>⟨rfl,rfl,fun s hs=>by omega⟩,fun e=>(by cases e)⟩) (fun r hh_=> ?_)
      · rintro j ⟨l1,m1,t1⟩ hj hP
        simp only at hP
        left
        show ∃s':T_2×B_1×Bool,A1_ q l1 m1 t1 j=some (.inl (s'.1,s'.2.1,s'.2.2,j+1))∧_
        unfold A1_
        rw [dy_ (by omega),dx_ (by omega)]
        obtain ⟨l2,m2,t2,k1,k2⟩:=v1_ hq hj hP
        refine ⟨(l2,m2,t2),?_,k2⟩
        rw [←k1]
        unfold he_
        cases nth q.fin j false with
        |true=>rw [iteO_true,dx_ (by omega),dx_ (by simp),if_pos rfl];rfl
        |false=>rw [iteO_false,if_neg (by decide)];rfl
      · rintro ⟨l1,m1,t1⟩ hP
        refine ⟨.inl (l1,m1,t1),?_,l1,m1,t1,rfl,hP⟩
        show A1_ q l1 m1 t1 q.next.length=_
        unfold A1_
        rw [dz_ (by omega)];rfl
      obtain ⟨h1,l',m',t',rfl,h2⟩:=hh_
      refine ⟨_,h1,⟨h2.b,fun e=>(h2.no e).2.2⟩,?_⟩
      show es_ (o6_ l' m') _+(if t'=true then 1 else 0)<es_ (o6_ l m) _+1
      cases t' with
      |false=>
        obtain ⟨e1,e2,_⟩:=h2.no rfl
        rw [e1,e2];exact Nat.lt_succ_self _
      |true=>have:=h2.yes rfl;rw [if_pos rfl];omega
  obtain ⟨h1,l,m,rfl,h2⟩:=hh_
  exact ⟨l,m,h1,h2⟩
structure RcI (q:Seq) (v:B_1) (w:N_1) (i:Nat):Prop where
  len:v.length=q.next.length
  hd:0<w.length∧nth w 0 0=0
  le:i≤w.length
  rng: ∀j,j<w.length→0≤nth w j 0∧nth w j 0<(q.next.length:Int)∧RchQ q (nth w j 0).toNat
  done: ∀j,j<i→nth v (nth w j 0).toNat false=true
  rch: ∀s,s<q.next.length→nth v s false=true→RchQ q s
  cl: ∀s,s<q.next.length→nth v s false=true→ ∀b,b<256→0≤nxQ q s b→ ∃j,j<w.length∧nth w j 0=nxQ q s b
  mu:w.length+256 * es_ (unM v) q.next.length≤1+256 * q.next.length
theorem s7_ {q : Seq} (hq : d5_ q = true) (h0 : 0 < q.next.length) : ∃ v, Ey_ q = some v ∧ RchOk q v := by
  have hn1:=(d3_ hq).1
  unfold Ey_
  rw [dx_ (by omega)]
  refine im_ (step:=fun z:B_1×N_1×Nat=>Bl_ q z.1 z.2.1 z.2.2) (fun z=>RcI q z.1 z.2.1 z.2.2) (fun z=>257 * es_ (unM z.1) q.next.length+z.2.1.length - z.2.2) (fun r=>RchOk q r) ?_ ?_
  · rintro ⟨v,w,i⟩ hI
    simp only at hI
    have hl:=hI.len
    have hmu:=hI.mu
    show (∃t',Bl_ q v w i=some (.inl t')∧_∧_)∨ ∃r,Bl_ q v w i=some (.inr r)∧_
    unfold Bl_ Co_
    by_cases c:i<w.length
    rotate_left
    · right
      rw [dz_ (by omega)]
      refine ⟨_,rfl,ub_ hq hl h0 ?_ hI.rch fun s hs h b hb hb0=> ?_⟩
      · have:=hI.done 0 (by have:=hI.hd.1;omega)
        rw [hI.hd.2]at this;exact this
      obtain ⟨j,j1,j2⟩:=hI.cl s hs h b hb hb0
      rw [←j2];exact hI.done j (by omega)
    left
    obtain ⟨g1,g2,g3⟩:=hI.rng i c
    obtain ⟨s,hs'⟩: ∃s:Nat,nth w i 0=((s:Nat):Int):=⟨(nth w i 0).toNat,by omega⟩
    rw [hs',tn_]at g3
    have hs:s<q.next.length:=by omega
    obtain ⟨r1,r2⟩:=ew_ hq hs
    rw [dy_ (by omega),hs',dx_ (by omega),tn_]
    cases d:nth v s false with
    |true=>
      rw [iteO_true]
      refine ⟨_,rfl,⟨hl,hI.hd,by show i+1≤w.length;omega,hI.rng,fun j hj=> ?_,hI.rch,hI.cl,hmu⟩,?_⟩
      · have hj:j<i+1:=hj
        by_cases e:j<i
        · exact hI.done j e
        have:j=i:=by omega
        subst this;show nth v (nth w j 0).toNat false=true;rw [hs',tn_];exact d
      show 257 * es_ (unM v) q.next.length+w.length - (i+1)<257 * es_ (unM v) q.next.length+w.length - i
      omega
    | false =>
      rw [iteO_false,dx_ (by omega)]
      have hset:=sy_ hs hl d
      refine Exists.elim (ej_ (step:=fun z:N_1×Nat=>At_ w i q v z.1 z.2) (fun z k=>(z,k)) 256 (fun k z=> ∃X,z=w++X∧X.length≤k∧(∀x∈X, ∃b,b<k∧0≤x∧x=nxQ q s b)∧ ∀b,b<k→0≤nxQ q s b→nxQ q s b∈X)
        (fun r=> ∃w',r= .inl (v.set s true,w',i+1)∧ ∃X,w'=w++X∧X.length≤256∧(∀x∈X, ∃b,b<256∧0≤x∧x=nxQ q s b)∧ ∀b,b<256→0≤nxQ q s b→nxQ q s b∈X) ?_ ?_ (s0:=w) ⟨[],by simp,Nat.le_refl _,by simp,fun b hb=>by omega⟩) (fun r hh_=> ?_)
      · rintro k _ hk ⟨X,rfl,x1,x2,x3⟩
        left
        show ∃s',At_ w i q v (w++X) k=some (.inl (s',k+1))∧_
        unfold At_ D3_
        have e1:nth (nth q.next s []) k 0=nxQ q s k:=rfl
        rw [dy_ (by omega),hs',dx_ (by omega),tn_,dx_ (by omega)]
        simp only [e1]
        by_cases e:0≤nxQ q s k
        · rw [dy_ e,dx_ (by omega),dx_ (by omega),dx_ (by simp only [la_,lo_];omega)]
          refine ⟨_,rfl,X++[nxQ q s k],by rw [ap_],by rw [la_,lo_];omega,fun x hx=> ?_,fun b hb hb0=> ?_⟩
          · rcases List.mem_append.1 hx with hx|hx
            · obtain ⟨b,b1,b2,b3⟩:=x2 x hx
              exact ⟨b,by omega,b2,b3⟩
            rw [mo_]at hx
            exact ⟨k,by omega,by rw [hx];exact e,hx⟩
          by_cases f:b<k
          · exact List.mem_append_left _ (x3 b f hb0)
          have:b=k:=by omega
          subst this
          exact List.mem_append_right _ (List.mem_singleton.2 rfl)
        rw [dz_ e]
        refine ⟨_,rfl,X,rfl,by omega,fun x hx=> ?_,fun b hb hb0=> ?_⟩
        · obtain ⟨b,b1,b2,b3⟩:=x2 x hx
          exact ⟨b,by omega,b2,b3⟩
        by_cases f:b<k
        · exact x3 b f hb0
        have:b=k:=by omega
        subst this;exact absurd hb0 e
      · rintro _ ⟨X,rfl,x1,x2,x3⟩
        refine ⟨.inl (v.set s true,w++X,i+1),?_,_,rfl,X,rfl,x1,x2,x3⟩
        show At_ w i q v (w++X) 256=_
        unfold At_ Co_
        rw [dz_ (by omega),hs',tn_];rfl
      obtain ⟨h1,w',rfl,h2⟩:=hh_
      refine ⟨_,h1,?_,?_⟩
      · obtain ⟨X,rfl,x1,x2,x3⟩:=h2
        have hold: ∀j,j<w.length→nth (w++X) j 0=nth w j 0:=fun j hj=>fe_ hj _
        refine ⟨by show (v.set s true).length=_;rw [ls_];exact hl,⟨by have:=hI.hd.1;rw [la_];omega,by rw [hold 0 hI.hd.1];exact hI.hd.2⟩,by show i+1≤(w++X).length;rw [la_];omega,fun j hj=> ?_,fun j hj=> ?_,fun t ht h=> ?_,fun t ht h b hb hb0=> ?_,?_⟩
        · show 0≤nth (w++X) j 0∧nth (w++X) j 0<_∧RchQ q (nth (w++X) j 0).toNat
          by_cases e:j<w.length
          · rw [hold j e];exact hI.rng j e
          have hm:=fv_ (0:Int) hj
          rw [h3_ _ hj,List.getElem_append_right (by omega)]at *
          obtain ⟨b,b1,b2,b3⟩:=x2 _ (List.getElem_mem (l:=X) (n:=j - w.length) (by have:j<(w++X).length:=hj;rw [la_]at this;omega))
          have:=e2_ hq hs b1
          exact ⟨b2,by rw [b3];exact this,by rw [b3];exact g3.step b1 (by omega)⟩
        · have hj:j<i+1:=hj
          show nth (v.set s true) (nth (w++X) j 0).toNat false=true
          rw [hold j (by omega),eb_]
          split
          · rfl
          rename_i e
          by_cases f:j<i
          · exact hI.done j f
          have:j=i:=by omega
          subst this
          rw [hs',tn_]at e
          exact absurd ⟨rfl,by omega⟩ e
        · have h:nth (v.set s true) t false=true:=h
          rw [eb_]at h
          by_cases e:s=t
          · rw [←e];exact g3
          rw [if_neg (fun f=>e f.1)]at h;exact hI.rch t ht h
        · have h:nth (v.set s true) t false=true:=h
          rw [eb_]at h
          by_cases e:s=t
          · subst e
            obtain ⟨j,hj,e2⟩:=List.getElem_of_mem (List.mem_append_right w (x3 b hb hb0))
            exact ⟨j,hj,by rw [h3_ _ hj];exact e2⟩
          rw [if_neg (fun f=>e f.1)]at h
          obtain ⟨j,j1,j2⟩:=hI.cl t ht h b hb hb0
          exact ⟨j,by show j<(w++X).length;rw [la_];omega,by show nth (w++X) j 0=_;rw [hold j j1];exact j2⟩
        show (w++X).length+256 * es_ (unM (v.set s true)) _≤_
        rw [la_];omega
      obtain ⟨X,rfl,x1,_,_⟩:=h2
      show 257 * es_ (unM (v.set s true)) _+(w++X).length - (i+1)<257 * es_ (unM v) _+w.length - i
      rw [la_];omega
  have hmf: ∀s,nth (List.replicate q.next.length false) s false=false:=fun s=>fu_ _ _ _
  have hu:=wo_ (List.replicate q.next.length false) q.next.length
  refine ⟨by simp,⟨by simp,rfl⟩,Nat.zero_le _,fun j hj=> ?_,fun j hj=>absurd hj (Nat.not_lt_zero _),fun s _ h=>(by rw [hmf]at h;cases h),fun s _ h=>(by rw [hmf]at h;cases h),?_⟩
  · have hj:j<1:=hj
    have:j=0:=by omega
    subst this
    exact ⟨Int.le_refl _,by show (0:Int)<_;omega,.zero⟩
  show ([0]:N_1).length+256 * es_ (unM (List.replicate q.next.length false)) _≤_
  rw [lo_];omega
structure RtI (q:Seq) (l:T_2) (k:Nat→Bool) (s j:Nat) (N:N_1) (O:T_2):Prop where
  n:N.length=256
  o:O.length=256
  nx: ∀b,b<j→nth N b 0=nxP q k s b
  ot: ∀b,b<j→nth O b []=otP q l k s b
  rest: ∀b,j≤b→nth O b []=[]
theorem RtI.none{q:Seq}{l:T_2}{k:Nat→Bool}{s j:Nat}{N:N_1}{O:T_2}(h:RtI q l k s j N O)(hj:j<256)(h1:nxP q k s j= -1)(h2:otP q l k s j=[]):RtI q l k s (j+1) (N.set j (-1)) O:=by
  refine ⟨by rw [ls_];exact h.n,h.o,Hn_ 0 h.n hj h.nx h1.symm,fun b hb=> ?_,fun b hb=>h.rest b (by omega)⟩
  by_cases c:b<j
  · exact h.ot b c
  have:b=j:=by omega
  subst this;rw [h2];exact h.rest b (Nat.le_refl _)
theorem RtI.some{q:Seq}{l:T_2}{k:Nat→Bool}{s j:Nat}{N:N_1}{O:T_2}(h:RtI q l k s j N O)(hj:j<256){z:Int}{o:T_1}(h1:nxP q k s j=z)(h2:otP q l k s j=o):RtI q l k s (j+1) ((N.set j (-1)).set j z) (O.set j o):=by
  have h3:=h.n
  have h4:=h.o
  refine ⟨by simp [h3],by simp [h4],fun b hb=> ?_,Hn_ [] h4 hj h.ot h2.symm,fun b hb=> ?_⟩
  · rw [eb_,eb_]
    by_cases c:j=b
    · subst c;rw [if_pos ⟨rfl,by simp;omega⟩,h1]
    rw [if_neg (fun e=>c e.1),if_neg (fun e=>c e.1)];exact h.nx b (by omega)
  rw [eb_,if_neg (fun e=>by omega)];exact h.rest b (by omega)
theorem vf_ {q : Seq} (hq : d5_ q = true) {l : T_2} {m : B_1} (h : FrOk q l m) {k : Nat → Bool} (hk : ox_ q m k) {P : N_1} (hP : so_ q.next.length k P) {v : B_1} (hv : v.length = q.next.length) (v5 : T_2 × B_1 × Int) (e5 : v5 = (l, m, 0)) :
    ed_ (fun z:N_2×T_3×B_1×T_2×Nat=>Au_ v P v5 q z.1 z.2.1 z.2.2.1 z.2.2.2.1 z.2.2.2.2) (([]:N_2),([]:T_3),([]:B_1),([]:T_2),0)=some (ig_ q l k):=by
  subst e5
  obtain ⟨q1,q2,q3,q4,q5⟩:=d3_ hq
  have hll:=h.ln
  have hml:=h.mn
  have hPl:=hP.1
  refine Exists.elim (ej_ (step:=fun z:N_2×T_3×B_1×T_2×Nat=>Au_ v P (l,m,0) q z.1 z.2.1 z.2.2.1 z.2.2.2.1 z.2.2.2.2) (fun (z:N_2×T_3×B_1×T_2) j=>(z.1,z.2.1,z.2.2.1,z.2.2.2,j)) q.next.length (fun j z=>z=(kR k j (nxR q k),kR k j (otR q l k),kR k j (fun s=>nth q.fin s false),kR k j (tlP q l))) (fun r=>r=ig_ q l k) ?_ ?_ (s0:=([],[],[],[])) rfl) (fun r hh_=> ?_)
  · rintro j ⟨N,O,F,T⟩ hj hI
    cases hI
    obtain ⟨r1,r2⟩:=ew_ hq hj
    have hls:=h.le j hj
    have g1:=l9_ k j (nxR q k)
    have g2:=l9_ k j (otR q l k)
    have g3:=l9_ k j (fun s=>nth q.fin s false)
    have g4:=l9_ k j (tlP q l)
    left
    show ∃s':N_2×T_3×B_1×T_2,Au_ v P (l,m,0) q _ _ _ _ j=some (.inl (s'.1,s'.2.1,s'.2.2.1,s'.2.2.2,j+1))∧_
    unfold Au_ Dk_
    rw [dy_ (by omega),dx_ (by omega)]
    have hPj:=hP.2 j hj
    by_cases c:k j=true
    · rw [if_pos c]at hPj
      rw [dz_ (by omega),dx_ (by show j<l.length;omega)]
      refine ⟨(kR k (j+1) (nxR q k),kR k (j+1) (otR q l k),kR k (j+1) (fun s=>nth q.fin s false),kR k (j+1) (tlP q l)),?_,rfl⟩
      have hj3: ∀T':T_1,T'=tlP q l j→Cj_ (kR k j (nxR q k)) (nxR q k j) (kR k j (otR q l k)) (otR q l k j) j q (kR k j (fun s=>nth q.fin s false)) (kR k j (tlP q l)) T'=some (.inl (kR k (j+1) (nxR q k),kR k (j+1) (otR q l k),kR k (j+1) (fun s=>nth q.fin s false),kR k (j+1) (tlP q l),j+1)):=by
        rintro _ rfl
        unfold Cj_ Dk_
        rw [dx_ (by simp only [lo_];omega),dx_ (by simp only [lo_];omega),dx_ (by omega),dx_ (by simp only [lo_];omega),dx_ (by simp only [lo_];omega),l3_ c,l3_ c,l3_ c (fun s=>nth q.fin s false),l3_ c (tlP q l)];rfl
      refine Exists.elim (ej_ (step:=fun z:N_1×T_2×Nat=>Bf_ j q P (l,m,0) (kR k j (nxR q k)) (kR k j (otR q l k)) (kR k j (fun s=>nth q.fin s false)) (kR k j (tlP q l)) z.1 z.2.1 z.2.2) (fun (z:N_1×T_2) i=>(z.1,z.2,i)) 256 (fun i z=>RtI q l k j i z.1 z.2) (fun r=>r= .inl (kR k (j+1) (nxR q k),kR k (j+1) (otR q l k),kR k (j+1) (fun s=>nth q.fin s false),kR k (j+1) (tlP q l),j+1)) ?_ ?_ (s0:=(List.replicate 256 0,List.replicate 256 [])) ⟨by simp,by simp,fun b hb=>by omega,fun b hb=>by omega,fun b _=>fu_ _ _ _⟩) (fun r hh_=> ?_)
      · rintro i ⟨N,O⟩ hi hI
        simp only at hI
        have hNl:=hI.n
        have hOl:=hI.o
        have hlt:=e2_ hq hj hi
        have hol:=ki_ hq hj hi
        left
        show ∃s':N_1×T_2,Bf_ j q P (l,m,0) _ _ _ _ N O i=some (.inl (s'.1,s'.2,i+1))∧_
        unfold Bf_ Dm_
        have e1:nth (nth q.next j []) i 0=nxQ q j i:=rfl
        have e2:nth (nth q.outs j []) i []=otQ q j i:=rfl
        rw [dy_ (by omega),dx_ (by omega),dx_ (by omega),dx_ (by omega)]
        simp only [e1,e2]
        by_cases e:nxQ q j i<0
        · rw [dz_ (by omega)]
          exact ⟨(_,_),rfl,hI.none hi (by unfold nxP;rw [if_pos e]) (by unfold otP;rw [if_pos e])⟩
        have hz:(nxQ q j i).toNat<q.next.length:=by omega
        have hlz:=h.le _ hz
        have hg:0≤nxQ q j i∧nxQ q j i<(P.length:Int):=by omega
        have hg2:0≤nxQ q j i∧nxQ q j i<(l.length:Int):=by omega
        have hPz:=hP.2 _ hz
        rw [dy_ (by omega),dx_ hg]
        by_cases d:k (nxQ q j i).toNat=true
        · rw [if_pos d]at hPz
          have hfv:=(nm_ hq h hj hi (by omega) ((hk _ hz).1 d).2).length_le
          have ho:otP q l k j i=(otQ q j i++nth l (nxQ q j i).toNat []).drop (nth l j []).length:=by unfold otP;rw [if_neg e,if_pos d]
          rw [dy_ (by omega),dx_ hg,dx_ (by simp;omega),dx_ (by omega),dx_ (by omega),dx_ hg2,dx_ (by show (otQ q j i).length+(nth l (nxQ q j i).toNat []).length≤_;omega),dx_ (by show (nth l j []).length≤(otQ q j i++nth l (nxQ q j i).toNat []).length∧_;exact ⟨hfv,Nat.le_refl _⟩),dx_ (by omega)]
          refine ⟨(_,_),rfl,hI.some hi ?_ ho⟩
          unfold nxP;rw [if_neg e,if_pos d];exact hPz.symm
        rw [if_neg d]at hPz
        rw [dz_ (by omega)]
        exact ⟨(_,_),rfl,hI.none hi (by unfold nxP;rw [if_neg e,if_neg d]) (by unfold otP;rw [if_neg e,if_neg d])⟩
      · rintro ⟨N,O⟩ hI
        simp only at hI
        have e1:N=nxR q k j:=k9_ 0 hI.n hI.nx
        have e2:O=otR q l k j:=k9_ [] hI.o hI.ot
        subst e1 e2
        refine ⟨_,?_,rfl⟩
        show Bf_ j q P (l,m,0) _ _ _ _ _ _ 256=_
        unfold Bf_
        rw [dz_ (by omega),dx_ (by omega)]
        cases hf:nth q.fin j false with
        |true=>
          have hcom:=(h.com j hj [] (nth q.tail j []) (by rw [eq_,if_pos hf])).length_le
          rw [iteO_true,dx_ (by omega),dx_ (by show (nth l j []).length≤_∧_;omega)]
          show fin (Cj_ _ _ _ _ _ _ _ _ ((nth q.tail j []).drop (nth l j []).length))=_
          rw [hj3 _ (by unfold tlP;rw [if_pos hf])];rfl
        |false=>
          rw [iteO_false,hj3 _ (by unfold tlP;rw [if_neg (by rw [hf];decide)])];rfl
      obtain ⟨t1,rfl⟩:=hh_
      exact t1
    rw [if_neg c]at hPj
    rw [dy_ (by omega)]
    exact ⟨(_,_,_,_),rfl,by rw [r5_ c,r5_ c,r5_ c,r5_ c (tlP q l)]⟩
  · rintro ⟨N,O,F,T⟩ hI
    cases hI
    refine ⟨_,?_,rfl⟩
    show Au_ v P (l,m,0) q _ _ _ _ q.next.length=_
    unfold Au_
    rw [dz_ (by omega)]
    change fin (bnd (C6_ (fc_ q l k)) fun v205=>d4_ (!v205) (some (Seq.zero,2)) (some (fc_ q l k,0)))=_
    rw [n7_,d7_]
    unfold ig_
    cases c:d5_ (fc_ q l k)with
    |true=>rw [e8_,if_pos rfl];rfl
    |false=>rw [fg_,if_neg (by decide)];rfl
  obtain ⟨h1,rfl⟩:=hh_
  exact h1
theorem yv_ (q : Seq) : ∃ r, De_ q = some r ∧ PushR q r := by
  unfold De_
  by_cases hq:d5_ q=true
  rotate_left
  · unfold D1_
    rw [n7_,d7_,Bool.eq_false_iff.2 hq,fg_,d7_,dy_ (by decide)]
    exact ⟨_,rfl,.wrong hq⟩
  obtain ⟨q1,q2,q3,q4,q5⟩:=d3_ hq
  obtain ⟨l,m,f1,f2⟩:=u4_ hq
  have hll:=f2.ln
  have hml:=f2.mn
  rw [f1,d7_,dz_ (show ¬ (0:Int)≠0 by decide)]
  by_cases c0:q.next.length=0
  · rw [dy_ (by show ((m.length:Nat):Int)=0;omega)]
    exact ⟨_,rfl,.none hq (.inl c0)⟩
  have h0:0<q.next.length:=by omega
  rw [dz_ (by show ¬ ((m.length:Nat):Int)=0;omega),dx_ (by show 0<m.length;omega)]
  cases hm:nth m 0 false with
  |false=>
    rw [fg_]
    exact ⟨_,rfl,.none hq (.inr fun h=>by have:=(f2.live 0 h0).2 h;rw [hm]at this;cases this)⟩
  |true=>
    rw [e8_]
    obtain ⟨v,v1,v2⟩:=s7_ hq h0
    have hvl:=v2.len
    have hls:=f2.le 0 h0
    rw [v1,d7_,dx_ (by omega)]
    refine ⟨ig_ q l (fr_ v m),?_,.made l m v hq h0 ((f2.live 0 h0).1 hm) f2 v2⟩
    have hk:=jb_ (m:=m) v2
    refine Exists.elim (ej_ (step:=fun z:N_1×Nat×Nat=>Bg_ v (l,m,0) q z.1 z.2.1 z.2.2) (fun (z:N_1×Nat) j=>(z.1,z.2,j)) q.next.length (fun j z=>NuI q.next.length (fr_ v m) j z.1∧z.2=f3_ (fr_ v m) j) (fun r=>r=ig_ q l (fr_ v m)) ?_ ?_ (s0:=(List.replicate v.length 0,0)) ⟨⟨by simp [hvl],fun s hs=>by omega⟩,rfl⟩) (fun r hh_=> ?_)
    · rintro j ⟨P,c⟩ hj ⟨hI,hc⟩
      simp only at hI hc
      subst hc
      have hPl:=hI.len
      have hcj:=gn_ (fr_ v m) j
      left
      show ∃s':N_1×Nat,Bg_ v (l,m,0) q P _ j=some (.inl (s'.1,s'.2,j+1))∧_
      unfold Bg_ Dj_
      rw [dy_ (by omega),dx_ (by omega)]
      cases d1:nth v j false with
      |false=>
        have hkj: ¬ fr_ v m j=true:=by unfold fr_;rw [d1];simp
        rw [iteO_false]
        exact ⟨(_,_),rfl,hI.no hj hkj,by simp only [f3_];rw [if_neg hkj];rfl⟩
      |true=>
        rw [iteO_true,dx_ (by show j<m.length;omega)]
        change ∃s':N_1×Nat,d4_ (nth m j false) _ _=_∧_
        cases d2:nth m j false with
        |false=>
          have hkj: ¬ fr_ v m j=true:=by unfold fr_;rw [d1,d2];simp
          rw [iteO_false]
          exact ⟨(_,_),rfl,hI.no hj hkj,by simp only [f3_];rw [if_neg hkj];rfl⟩
        |true=>
          have hkj:fr_ v m j=true:=by unfold fr_;rw [d1,d2];rfl
          rw [iteO_true,dx_ (by simp;omega),dx_ (show f3_ (fr_ v m) j+1≤_ by omega)]
          exact ⟨(_,_),rfl,hI.put hj hkj,by simp only [f3_];rw [if_pos hkj]⟩
    · rintro ⟨P,c⟩ ⟨hI,hc⟩
      simp only at hI hc
      refine ⟨ig_ q l (fr_ v m),?_,rfl⟩
      show Bg_ v (l,m,0) q P c q.next.length=_
      unfold Bg_
      rw [dz_ (by omega),dx_ (by show 0<l.length;omega),dx_ (by show q.front.length+(nth l 0 []).length≤_;omega),vf_ hq f2 hk ⟨hI.len,fun s hs=>hI.at' s hs⟩ hvl (l,m,0) rfl];rfl
    obtain ⟨h1,rfl⟩:=hh_
    exact h1
theorem y5_(l m:T_2):Am_ l m=some (decide (l=m)):=by
  by_cases e:l=m
  · subst e;rw [li_,decide_eq_true rfl]
  unfold Am_
  rw [decide_eq_false e]
  by_cases hl:l.length=m.length
  rotate_left
  · rw [dy_ (by omega)]
  rw [dz_ (by omega)]
  have:=jc_ (step:=fun k:Nat=>Ab_ l m k) (good:=true) (bad:=false) l.length (fun k=>decide (nth l k []=nth m k [])) (fun k hk hp=>by
    rw [dq_]at hp
    show Ab_ l m k=_
    unfold Ab_
    rw [dy_ (by omega),dx_ (by omega),dz_ (fun h=>h hp)];rfl) (fun k hk hp=>by
    rw [decide_eq_false_iff_not]at hp
    show Ab_ l m k=_
    unfold Ab_
    rw [dy_ (by omega),dx_ (by omega),dy_ hp];rfl) (by
    show Ab_ l m l.length=_
    unfold Ab_
    rw [dz_ (by omega)];rfl)
  rw [this,if_neg]
  intro h
  have h:=g2_.1 h
  exact e (gr_ [] hl fun i hi=>by have:=h i hi;rwa [dq_]at this)
structure ApI (q:Seq) (l:List B_1):Prop where
  len:l.length=q.next.length
  row: ∀s,s<q.next.length→(nth l s []).length=q.next.length
  un: ∀s t,s<q.next.length→t<q.next.length→nth (nth l s []) t false=true→eq_ q s≠eq_ q t
  like: ∀s t,s<q.next.length→t<q.next.length→nth (nth l s []) t false=false→LikeQ q s t
def s2_(q:Seq)(s t b:Nat):Bool:=decide (nxQ q s b<0) != decide (nxQ q t b<0)
def unB(q:Seq)(s t k:Nat):Bool:=(nth q.fin s false != nth q.fin t false) || decide (nth q.tail s []≠nth q.tail t []) || !decide (nth q.outs s []=nth q.outs t []) || (List.range k).any (s2_ q s t)
theorem ua_(q:Seq)(s t k:Nat):unB q s t (k+1)=(unB q s t k || s2_ q s t k):=by
  unfold unB;rw [ok_,←Bool.or_assoc]
theorem t3_ {q : Seq} (hq : d5_ q = true) {s t : Nat} (hs : s < q.next.length) (ht : t < q.next.length) : unB q s t 256 = false ↔ LikeQ q s t := by
  unfold unB
  rw [Bool.or_eq_false_iff,Bool.or_eq_false_iff,Bool.or_eq_false_iff]
  constructor
  · rintro ⟨⟨⟨h1,h2⟩,h3⟩,h4⟩
    have h3:nth q.outs s []=nth q.outs t []:=by
      rw [Bool.not_eq_false']at h3;exact dt_ h3
    have h2:=df_ h2
    refine ⟨by simpa using h1,Classical.not_not.1 h2,fun b hb=> ?_,fun b _=>by unfold otQ;rw [h3]⟩
    have:s2_ q s t b=false:=by
      cases c:s2_ q s t b with
      |false=>rfl
      |true=>
        have:=ry_.2 ⟨b,hb,c⟩
        rw [h4]at this;cases this
    unfold s2_ at this
    have:=bne_eq_false_iff_eq.1 this
    rwa [decide_eq_decide]at this
  intro h
  have ho:nth q.outs s []=nth q.outs t []:=gr_ [] (by rw [(ew_ hq hs).2,(ew_ hq ht).2]) fun b hb=>h.out b (by rw [(ew_ hq hs).2]at hb;exact hb)
  refine ⟨⟨⟨by rw [h.fin];simp,decide_eq_false fun e=>e h.tail⟩,by rw [decide_eq_true ho];rfl⟩,?_⟩
  cases c:(List.range 256).any (s2_ q s t)with
  |false=>rfl
  |true=>
    obtain ⟨b,hb,h1⟩:=ry_.1 c
    unfold s2_ at h1
    have h2:=h.neg b hb
    rw [show decide (nxQ q s b<0)=decide (nxQ q t b<0) by rw [decide_eq_decide];exact h2]at h1
    simp at h1
def vc_(q:Seq)(s n:Nat):B_1:=(List.range n).map fun t=>unB q s t 256
theorem zf_{q:Seq}(hq:d5_ q=true){i k:Nat}(hi:i<q.next.length)(hk:k<q.next.length){r:B_1}(hr:r.length=q.next.length):
    ∀{u:Bool},u=unB q i k 0→ ∃r',A6_ k q i (r.set k u)=some (.inl (r',k+1))∧r'.length=q.next.length∧nth r' k false=unB q i k 256∧ ∀t,t≠k→nth r' t false=nth r t false:=by
  rintro _ rfl
  obtain ⟨i1,i2⟩:=ew_ hq hi
  obtain ⟨k1,k2⟩:=ew_ hq hk
  unfold A6_
  refine Exists.elim (ej_ (step:=fun z:B_1×Nat=>A8_ k q i z.1 z.2) (fun z b=>(z,b)) 256 (fun b z=>z.length=q.next.length∧nth z k false=unB q i k b∧ ∀t,t≠k→nth z t false=nth r t false) (fun x=> ∃r',x= .inl (r',k+1)∧r'.length=q.next.length∧nth r' k false=unB q i k 256∧ ∀t,t≠k→nth r' t false=nth r t false) ?_ ?_ (s0:=r.set k (unB q i k 0)) ⟨by rw [ls_];exact hr,gm_ (by omega),fun t ht=>f8_ ht⟩) (fun x hh_=> ?_)
  · rintro b z hb ⟨z1,z2,z3⟩
    left
    show ∃s',A8_ k q i z b=some (.inl (s',b+1))∧_
    unfold A8_ Eo_
    have e1:nth (nth q.next i []) b 0=nxQ q i b:=rfl
    have e2:nth (nth q.next k []) b 0=nxQ q k b:=rfl
    rw [dy_ (by omega),dx_ (by omega),z2]
    simp only [e1,e2]
    cases c:unB q i k b with
    |true=>
      rw [iteO_true,dx_ (by omega)]
      exact ⟨_,rfl,by rw [ls_];exact z1,by rw [gm_ (by omega),ua_,c];rfl,fun t ht=>by rw [f8_ ht];exact z3 t ht⟩
    |false=>
      rw [iteO_false,dx_ (by omega),dx_ (by omega),dx_ (by omega)]
      exact ⟨_,rfl,by rw [ls_];exact z1,by rw [gm_ (by omega),ua_,c];rfl,fun t ht=>by rw [f8_ ht];exact z3 t ht⟩
  · rintro z ⟨z1,z2,z3⟩
    refine ⟨.inl (z,k+1),?_,z,rfl,z1,z2,z3⟩
    show A8_ k q i z 256=_
    unfold A8_
    rw [dz_ (by omega)];rfl
  obtain ⟨h1,r',rfl,h2⟩:=hh_
  exact ⟨r',h1,h2⟩
theorem u2_ {q : Seq} (hq : d5_ q = true) {i : Nat} (hi : i < q.next.length) {M : List B_1} (hM : M.length ≤ 1024) :
    ed_ (fun z:B_1×Nat=>Ap_ q i M z.1 z.2) (List.replicate q.next.length false,0)=some (.inl (M++[vc_ q i q.next.length],i+1)):=by
  obtain ⟨q1,q2,q3,q4,q5⟩:=d3_ hq
  refine Exists.elim (ej_ (step:=fun z:B_1×Nat=>Ap_ q i M z.1 z.2) (fun z k=>(z,k)) q.next.length (fun k z=>z.length=q.next.length∧ ∀t,t<k→nth z t false=unB q i t 256) (fun x=>x= .inl (M++[vc_ q i q.next.length],i+1)) ?_ ?_ (s0:=List.replicate q.next.length false) ⟨by simp,fun t ht=>absurd ht (Nat.not_lt_zero _)⟩) (fun x hh_=> ?_)
  · rintro k z hk ⟨z1,z2⟩
    left
    show ∃s',Ap_ q i M z k=some (.inl (s',k+1))∧_
    have fini: ∀u:Bool,u=unB q i k 0→ ∃s',A6_ k q i (z.set k u)=some (.inl (s',k+1))∧s'.length=q.next.length∧ ∀t,t<k+1→nth s' t false=unB q i t 256:=fun u hu=>by
      obtain ⟨r',a1,a2,a3,a4⟩:=zf_ hq hi hk z1 hu
      refine ⟨r',a1,a2,fun t ht=> ?_⟩
      by_cases c:t=k
      · rw [c];exact a3
      rw [a4 t c];exact z2 t (by omega)
    unfold Ap_
    rw [dy_ (by omega),dx_ (by omega),dx_ (by omega)]
    have hu:unB q i k 0=((nth q.fin i false != nth q.fin k false) || decide (nth q.tail i []≠nth q.tail k []) || !decide (nth q.outs i []=nth q.outs k [])):=by unfold unB;simp
    cases c1:(nth q.fin i false != nth q.fin k false)with
    |true=>
      rw [iteO_true,dx_ (by omega)]
      exact fini true (by rw [hu,c1];rfl)
    |false=>
      rw [iteO_false,dx_ (by omega),dx_ (by omega)]
      by_cases c2:nth q.tail i []≠nth q.tail k []
      · rw [dy_ c2,dx_ (by omega)]
        exact fini true (by rw [hu,c1,decide_eq_true c2];rfl)
      rw [dz_ c2,dx_ (by omega),dx_ (by omega),y5_,d7_,dx_ (by omega)]
      exact fini _ (by rw [hu,c1,decide_eq_false c2];rfl)
  · rintro z ⟨z1,z2⟩
    refine ⟨_,?_,rfl⟩
    have e:z=vc_ q i q.next.length:=gr_ false (by unfold vc_;rw [List.length_map,List.length_range];exact z1) fun t ht=>by
      rw [z2 t (by omega)]
      unfold vc_
      rw [fl_ _ _ _ 0 _ (by rw [List.length_range];omega),hq_ (by omega)]
    show Ap_ q i M z q.next.length=_
    unfold Ap_
    rw [dz_ (by omega),dx_ (by simp only [lo_];omega),e];rfl
  obtain ⟨h1,rfl⟩:=hh_
  exact h1
def z4_(l:List B_1)(n i:Nat):Nat:=es_ (unM (nth l i [])) n
def x7_(l:List B_1)(n:Nat):Nat:=es_ (z4_ l n) n
theorem ye_{l:List B_1}{n i k:Nat}(hl:l.length=n)(hr:(nth l i []).length=n)(hi:i<n)(hk:k<n)(h:nth (nth l i []) k false=false):x7_ (l.set i ((nth l i []).set k true)) n<x7_ l n:=by
  have h1:=sy_ hk hr h
  have h2:=i6_ (f:=z4_ l n) (g:=z4_ (l.set i ((nth l i []).set k true)) n) (s:=i) (n:=n) hi fun j _ hne=>by unfold z4_;rw [f8_ hne]
  have h3:z4_ (l.set i ((nth l i []).set k true)) n i=es_ (unM ((nth l i []).set k true)) n:=by unfold z4_;rw [gm_ (by omega)]
  have h4:z4_ l n i=es_ (unM (nth l i [])) n:=rfl
  unfold x7_
  omega
def StbQ(q:Seq)(l:List B_1)(s t:Nat):Prop:=nth (nth l s []) t false=false→ ∀b,b<256→0≤nxQ q s b→0≤nxQ q t b→nth (nth l (nxQ q s b).toNat []) (nxQ q t b).toNat false=false
structure ApP (q:Seq) (l0:List B_1) (i k:Nat) (l:List B_1) (t:Bool):Prop where
  a:ApI q l
  no:t=false→l=l0∧ ∀s t,s<q.next.length→t<q.next.length→(s<i∨s=i∧t<k)→StbQ q l s t
  yes:t=true→x7_ l q.next.length<x7_ l0 q.next.length
theorem w4_ {q : Seq} (hq : d5_ q = true) (hp : PshQ q) {l0 : List B_1} {i k : Nat} (hi : i < q.next.length) (hk : k < q.next.length) {l : List B_1} {t : Bool} (h : ApP q l0 i k l t) :
    ∃l' t',ed_ (fun z:(List B_1)×Bool×Nat=>Aj_ i k q z.1 z.2.1 z.2.2) (l,t,0)=some (.inl (l',t',k+1))∧ApP q l0 i (k+1) l' t':=by
  obtain ⟨i1,i2⟩:=ew_ hq hi
  obtain ⟨k1,k2⟩:=ew_ hq hk
  have next: ∀{l:List B_1} {t:Bool},ApP q l0 i k l t→(t=false→StbQ q l i k)→ApP q l0 i (k+1) l t:=fun {l t} h hs=>⟨h.a,fun ht=>⟨(h.no ht).1,fun s u hs' hu hc=>by
    by_cases c:s<i∨s=i∧u<k
    · exact (h.no ht).2 s u hs' hu c
    have e1:s=i:=by omega
    have e2:u=k:=by omega
    rw [e1,e2];exact hs ht⟩,h.yes⟩
  refine Exists.elim (ej_ (step:=fun z:(List B_1)×Bool×Nat=>Aj_ i k q z.1 z.2.1 z.2.2) (fun (z:(List B_1)×Bool) b=>(z.1,z.2,b)) 256 (fun b z=>ApP q l0 i k z.1 z.2∧(z.2=false→nth (nth z.1 i []) k false=false→ ∀c,c<b→0≤nxQ q i c→0≤nxQ q k c→nth (nth z.1 (nxQ q i c).toNat []) (nxQ q k c).toNat false=false)) (fun x=> ∃l' t',x= .inl (l',t',k+1)∧ApP q l0 i (k+1) l' t') ?_ ?_ (s0:=(l,t)) ⟨h,fun _ _ c hc=>absurd hc (Nat.not_lt_zero _)⟩) (fun x hh_=> ?_)
  · rintro b ⟨l,t⟩ hb ⟨hA,hB⟩
    simp only at hA hB
    have hl:=hA.a.len
    have hr:=hA.a.row i hi
    have hxi:=e2_ hq hi hb
    have hxk:=e2_ hq hk hb
    show (∃s':(List B_1)×Bool,Aj_ i k q l t b=some (.inl (s'.1,s'.2,b+1))∧_)∨ ∃r,Aj_ i k q l t b=some (.inr r)∧_
    unfold Aj_ B7_ C9_
    have e1:nth (nth q.next i []) b 0=nxQ q i b:=rfl
    have e2:nth (nth q.next k []) b 0=nxQ q k b:=rfl
    rw [dy_ (by omega),dx_ (by omega),dx_ (by omega)]
    simp only [e1,e2]
    cases c:nth (nth l i []) k false with
    |true=>
      right
      rw [e8_]
      exact ⟨_,rfl,l,t,rfl,next hA fun _ e=>by rw [c]at e;cases e⟩
    | false =>
      left
      have skip:(0≤nxQ q i b→0≤nxQ q k b→nth (nth l (nxQ q i b).toNat []) (nxQ q k b).toNat false=false)→ApP q l0 i k l t∧(t=false→nth (nth l i []) k false=false→ ∀c,c<b+1→0≤nxQ q i c→0≤nxQ q k c→nth (nth l (nxQ q i c).toNat []) (nxQ q k c).toNat false=false):=fun hh=>⟨hA,fun ht hf d hd h1 h2=>by
        by_cases e:d<b
        · exact hB ht hf d e h1 h2
        have:d=b:=by omega
        subst this;exact hh h1 h2⟩
      rw [fg_,dx_ (by omega),dx_ (by omega)]
      by_cases d1:0≤nxQ q i b
      · rw [dy_ d1]
        by_cases d2:0≤nxQ q k b
        · have hrx:=hA.a.row (nxQ q i b).toNat (by omega)
          rw [dy_ d2,dx_ (by omega),dx_ (by omega)]
          cases d3:nth (nth l (nxQ q i b).toNat []) (nxQ q k b).toNat false with
          |true=>
            rw [iteO_true,dx_ (by omega),dx_ (by omega)]
            refine ⟨(_,_),rfl,⟨⟨by rw [ls_];exact hl,fun s hs=> ?_,fun s u hs hu he=> ?_,fun s u hs hu he=> ?_⟩,fun e=>(by cases e),fun _=> ?_⟩,fun e=>(by cases e)⟩
            · by_cases e:s=i
              · rw [e,gm_ (by omega),ls_];exact hr
              rw [f8_ e];exact hA.a.row s hs
            · have old: ∀s u,s<q.next.length→u<q.next.length→nth (nth l s []) u false=true→eq_ q s≠eq_ q u:=hA.a.un
              by_cases e:s=i
              · rw [e,gm_ (by omega)]at he
                by_cases f:u=k
                · rw [e,f]
                  intro g
                  have:=(f1_ hp hp hi hk hb g d1).2.2
                  exact old _ _ (by omega) (by omega) d3 this
                rw [f8_ f]at he
                rw [e];exact old i u hi hu he
              rw [f8_ e]at he;exact old s u hs hu he
            · by_cases e:s=i
              · rw [e,gm_ (by omega)]at he
                by_cases f:u=k
                · rw [f,gm_ (by omega)]at he;cases he
                rw [f8_ f]at he
                rw [e];exact hA.a.like i u hi hu he
              rw [f8_ e]at he;exact hA.a.like s u hs hu he
            have h1:=ye_ hl hr hi hk c
            show x7_ (l.set i ((nth l i []).set k true)) _<_
            cases t with
            |true=>have:=hA.yes rfl;omega
            |false=>rw [(hA.no rfl).1]at h1 ⊢;exact h1
          |false=>
            rw [iteO_false]
            exact ⟨(l,t),rfl,skip fun _ _=>d3⟩
        rw [dz_ d2]
        exact ⟨(l,t),rfl,skip fun _ h=>absurd h d2⟩
      rw [dz_ d1]
      exact ⟨(l,t),rfl,skip fun h=>absurd h d1⟩
  · rintro ⟨l,t⟩ ⟨hA,hB⟩
    simp only at hA hB
    refine ⟨.inl (l,t,k+1),?_,l,t,rfl,next hA fun ht hf b hb=>hB ht hf b hb⟩
    show Aj_ i k q l t 256=_
    unfold Aj_ C9_
    rw [dz_ (by omega)];rfl
  obtain ⟨h1,l',t',rfl,h2⟩:=hh_
  exact ⟨l',t',h1,h2⟩
theorem wq_{q:Seq}(hq:d5_ q=true)(hp:PshQ q){l0:List B_1}(h0:ApI q l0): ∃l t,ed_ (fun z:(List B_1)×Bool×Nat=>Aq_ q z.1 z.2.1 z.2.2) (l0,false,0)=some (.inl (l,t))∧ApP q l0 q.next.length 0 l t:=by
  refine Exists.elim (ej_ (step:=fun z:(List B_1)×Bool×Nat=>Aq_ q z.1 z.2.1 z.2.2) (fun (z:(List B_1)×Bool) i=>(z.1,z.2,i)) q.next.length (fun i z=>ApP q l0 i 0 z.1 z.2) (fun x=> ∃l t,x= .inl (l,t)∧ApP q l0 q.next.length 0 l t) ?_ ?_ (s0:=(l0,false)) ⟨h0,fun _=>⟨rfl,fun s t _ _ c=>absurd c (by omega)⟩,fun e=>(by cases e)⟩) (fun x hh_=> ?_)
  · rintro i ⟨l,t⟩ hi hA
    simp only at hA
    left
    show ∃s':(List B_1)×Bool,Aq_ q l t i=some (.inl (s'.1,s'.2,i+1))∧_
    unfold Aq_
    rw [dy_ (by omega)]
    refine Exists.elim (ej_ (step:=fun z:(List B_1)×Bool×Nat=>A7_ q i z.1 z.2.1 z.2.2) (fun (z:(List B_1)×Bool) k=>(z.1,z.2,k)) q.next.length (fun k z=>ApP q l0 i k z.1 z.2) (fun x=> ∃l t,x= .inl (l,t,i+1)∧ApP q l0 (i+1) 0 l t) ?_ ?_ (s0:=(l,t)) hA) (fun x hh_=> ?_)
    · rintro k ⟨l,t⟩ hk hA
      simp only at hA
      left
      obtain ⟨l',t',a1,a2⟩:=w4_ hq hp hi hk hA
      refine ⟨(l',t'),?_,a2⟩
      show A7_ q i l t k=_
      unfold A7_
      rw [dy_ (by omega),a1]
    · rintro ⟨l,t⟩ hA
      simp only at hA
      refine ⟨.inl (l,t,i+1),?_,l,t,rfl,hA.a,fun ht=>⟨(hA.no ht).1,fun s u hs hu c=>(hA.no ht).2 s u hs hu (by omega)⟩,hA.yes⟩
      show A7_ q i l t q.next.length=_
      unfold A7_
      rw [dz_ (by omega)];rfl
    obtain ⟨h1,l',t',rfl,h2⟩:=hh_
    exact ⟨(l',t'),h1,h2⟩
  · rintro ⟨l,t⟩ hA
    simp only at hA
    refine ⟨.inl (l,t),?_,l,t,rfl,hA⟩
    show Aq_ q l t q.next.length=_
    unfold Aq_
    rw [dz_ (by omega)];rfl
  obtain ⟨h1,l',t',rfl,h2⟩:=hh_
  exact ⟨l',t',h1,h2⟩
structure ApR22 (q:Seq) (l:List B_1):Prop where
  len:l.length=q.next.length
  row: ∀s,s<q.next.length→(nth l s []).length=q.next.length
  iff: ∀s t,s<q.next.length→t<q.next.length→(nth (nth l s []) t false=false↔eq_ q s=eq_ q t)
theorem yi_ {q : Seq} (hq : d5_ q = true) (hp : PshQ q) : ∃ l, Fl_ q = some l ∧ ApR22 q l := by
  obtain ⟨q1,q2,q3,q4,q5⟩:=d3_ hq
  unfold Fl_
  refine ej_ (step:=fun z:(List B_1)×Nat=>Ba_ q z.1 z.2) (fun z i=>(z,i)) q.next.length (fun i z=>z=(List.range i).map fun s=>vc_ q s q.next.length) (fun l=>ApR22 q l) ?_ ?_ (s0:=[]) rfl
  · rintro i _ hi rfl
    left
    refine ⟨_,?_,rfl⟩
    show Ba_ q _ i=_
    unfold Ba_
    rw [dy_ (by omega),dx_ (by omega),u2_ hq hi (by rw [List.length_map,List.length_range];omega),List.range_succ,List.map_append];rfl
  rintro _ rfl
  show ∃r,Ba_ q _ q.next.length=some (.inr r)∧_
  have hrow: ∀s,s<q.next.length→nth ((List.range q.next.length).map fun s=>vc_ q s q.next.length) s []=vc_ q s q.next.length:=fun s hs=>by rw [fl_ _ _ _ 0 _ (by rw [List.length_range];exact hs),hq_ hs]
  have hcell: ∀s t,t<q.next.length→nth (vc_ q s q.next.length) t false=unB q s t 256:=fun s t ht=>by
    unfold vc_
    rw [fl_ _ _ _ 0 _ (by rw [List.length_range];exact ht),hq_ ht]
  have h0:ApI q ((List.range q.next.length).map fun s=>vc_ q s q.next.length):=by
    refine ⟨by simp,fun s hs=>by rw [hrow s hs];unfold vc_;simp,fun s t hs ht he e=> ?_,fun s t hs ht he=> ?_⟩
    · rw [hrow s hs,hcell s t ht,(t3_ hq hs ht).2 (si_ hp hq hs ht e)]at he;cases he
    rw [hrow s hs,hcell s t ht]at he;exact (t3_ hq hs ht).1 he
  obtain ⟨r,k1,k2⟩:=im_ (step:=fun z:(List B_1)×Bool=>B8_ q z.1 z.2) (fun z=>ApI q z.1∧(z.2=false→ ∀s t,s<q.next.length→t<q.next.length→StbQ q z.1 s t)) (fun z=>x7_ z.1 q.next.length+if z.2=true then 1 else 0) (fun l=>ApR22 q l) (by
    rintro ⟨l,t⟩ ⟨hA,hD⟩
    simp only at hA hD
    show (∃t',B8_ q l t=some (.inl t')∧_∧_)∨ ∃r,B8_ q l t=some (.inr r)∧_
    unfold B8_
    cases t with
    |false=>
      right
      rw [iteO_false]
      refine ⟨l,rfl,hA.len,hA.row,fun s t hs ht=>⟨fun h=>funext fun w=> ?_,fun h=> ?_⟩⟩
      · refine bisim (n:=q.next.length) (fun s b hs hb=>e2_ hq hs hb) (R:=fun s t=>nth (nth l s []) t false=false) (fun s t hs ht h=>hA.like s t hs ht h) (fun s t b hs ht h hb hx=> ?_) w s t hs ht h
        have:=(hA.like s t hs ht h).neg b hb
        exact hD rfl s t hs ht h b hb hx (by omega)
      cases c:nth (nth l s []) t false with
      |false=>rfl
      |true=>exact absurd h (hA.un s t hs ht c)
    |true=>
      left
      rw [iteO_true]
      obtain ⟨l',t',a1,a2⟩:=wq_ hq hp hA
      refine ⟨_,a1,⟨a2.a,fun e s t hs ht=>(a2.no e).2 s t hs ht (by omega)⟩,?_⟩
      show x7_ l' _+(if t'=true then 1 else 0)<x7_ l _+1
      cases t' with
      |false=>rw [(a2.no rfl).1];exact Nat.lt_succ_self _
      |true=>have:=a2.yes rfl;rw [if_pos rfl];omega) (t:=(_,true)) ⟨h0,fun e=>(by cases e)⟩
  refine ⟨r,?_,k2⟩
  unfold Ba_
  rw [dz_ (by omega),k1];rfl
structure LkI (q:Seq) (L:N_1) (j:Nat):Prop where
  len:L.length=j
  at': ∀s,s<j→ ∃a:Nat,nth L s 0=((a:Nat):Int)∧a≤s∧eq_ q a=eq_ q s∧ ∀m,m<a→eq_ q m≠eq_ q s
theorem LkI.iff{q:Seq}{L:N_1}{n:Nat}(h:LkI q L n){s t:Nat}(hs:s<n)(ht:t<n):nth L s 0=nth L t 0↔eq_ q s=eq_ q t:=by
  obtain ⟨a,a1,a2,a3,a4⟩:=h.at' s hs
  obtain ⟨b,b1,b2,b3,b4⟩:=h.at' t ht
  constructor
  · intro e
    have:a=b:=by omega
    subst this
    exact a3.symm.trans b3
  intro e
  have h1: ¬ a<b:=fun c=>b4 a c (a3.trans e)
  have h2: ¬ b<a:=fun c=>a4 b c (b3.trans e.symm)
  omega
theorem LkI.fix{q:Seq}{L:N_1}{n:Nat}(h:LkI q L n){s:Nat}(hs:s<n):0≤nth L s 0∧nth L s 0<((n:Nat):Int)∧nth L (nth L s 0).toNat 0=nth L s 0:=by
  obtain ⟨a,a1,a2,a3,a4⟩:=h.at' s hs
  refine ⟨by omega,by omega,?_⟩
  rw [a1,tn_,←a1]
  exact (h.iff (show a<n by omega) hs).2 a3
theorem like_in {q : Seq} (hn : q.next.length ≤ 1024) {U : List B_1} (hU : ApR22 q U) {j : Nat} (hj : j < q.next.length) {L : N_1} (hL : LkI q L j) : ∃ a : Nat, ed_ (fun z : Int × Int => Bo_ j U L z.1 z.2) (((j : Nat) : Int), ((j : Nat) : Int)) = some (.inl (L ++ [((a : Nat) : Int)], j + 1)) ∧ LkI q (L ++ [((a : Nat) : Int)]) (j + 1) := by
  have hlen:=hL.len
  have hUl:=hU.len
  have hUr:=hU.row j hj
  obtain ⟨r,h1,a,rfl,h2,h3,h4⟩:=im_ (step:=fun z:Int×Int=>Bo_ j U L z.1 z.2) (fun z=> -1≤z.2∧z.2≤((j:Nat):Int)∧ ∃a:Nat,z.1=((a:Nat):Int)∧a≤j∧z.2≤((a:Nat):Int)∧eq_ q a=eq_ q j∧ ∀m:Nat,z.2<((m:Nat):Int)→m<a→eq_ q m≠eq_ q j) (fun z=>(z.2+1).toNat) (fun x=> ∃a:Nat,x= .inl (L++[((a:Nat):Int)],j+1)∧a≤j∧eq_ q a=eq_ q j∧ ∀m,m<a→eq_ q m≠eq_ q j) (by
    rintro ⟨x,k⟩ ⟨i1,i2,a,rfl,i3,i4,i5,i6⟩
    simp only at i1 i2 i4 i6
    show (∃t',Bo_ j U L ((a:Nat):Int) k=some (.inl t')∧_∧_)∨ ∃r,Bo_ j U L ((a:Nat):Int) k=some (.inr r)∧_
    unfold Bo_ E9_
    by_cases c:0≤k
    · left
      obtain ⟨k',rfl⟩: ∃k':Nat,k=((k':Nat):Int):=⟨k.toNat,by omega⟩
      have hkn:k'<q.next.length:=by omega
      have hw:IntKind.i64.wrap (((k':Nat):Int) - 1)=((k':Nat):Int) - 1:=g9_ (by omega) (by omega)
      rw [dy_ c,dx_ (by omega),dx_ (by omega),tn_,hw]
      have hiff:=hU.iff j k' hj hkn
      cases d:nth (nth U j []) k' false with
      |false=>
        rw [fg_]
        refine ⟨_,rfl,⟨by show -1≤((k':Nat):Int) - 1;omega,by show ((k':Nat):Int) - 1≤_;omega,k',rfl,by omega,by show ((k':Nat):Int) - 1≤_;omega,(hiff.1 d).symm,fun m hm hm2=> ?_⟩,?_⟩
        · have hm:((k':Nat):Int) - 1<((m:Nat):Int):=hm
          omega
        show (((k':Nat):Int) - 1+1).toNat<(((k':Nat):Int)+1).toNat
        omega
      |true=>
        rw [e8_]
        have hne:eq_ q k'≠eq_ q j:=fun e=>by
          have:=hiff.2 e.symm
          rw [d]at this;cases this
        have hak:k'≠a:=fun e=>by subst e;exact hne i5
        refine ⟨_,rfl,⟨by show -1≤((k':Nat):Int) - 1;omega,by show ((k':Nat):Int) - 1≤_;omega,a,rfl,i3,by show ((k':Nat):Int) - 1≤_;omega,i5,fun m hm hm2=> ?_⟩,?_⟩
        · have hm:((k':Nat):Int) - 1<((m:Nat):Int):=hm
          by_cases e:m=k'
          · rw [e];exact hne
          exact i6 m (by omega) hm2
        show (((k':Nat):Int) - 1+1).toNat<(((k':Nat):Int)+1).toNat
        omega
    right
    rw [dz_ c,dx_ (by simp only [lo_];omega)]
    exact ⟨_,rfl,a,rfl,i3,i5,fun m hm=>i6 m (by omega) hm⟩) (t:=(((j:Nat):Int),((j:Nat):Int))) ⟨by show -1≤((j:Nat):Int);omega,Int.le_refl _,j,rfl,Nat.le_refl _,Int.le_refl _,rfl,fun m hm hm2=>by have hm:((j:Nat):Int)<((m:Nat):Int):=hm;omega⟩
  refine ⟨a,h1,by rw [la_,lo_];omega,fun s hs=> ?_⟩
  by_cases c:s<j
  · rw [fe_ (by omega)];exact hL.at' s c
  have:s=j:=by omega
  subst this
  have e:=fk_ L ((a:Nat):Int) 0
  rw [hlen]at e
  exact ⟨a,e,h2,h3,h4⟩
theorem find_ok {p : Seq × Int} {L st ord row : N_1} {i b : Nat} (hst : st.length ≤ 100000) (to : Int) (hto : nth L (nth (nth p.1.next (nth ord i 0).toNat []) b 0).toNat 0 = to) :
    (∃j,j<st.length∧nth st j 0=to∧ed_ (fun z:Nat×Nat=>Aa_ st L p ord i b row z.1 z.2) (st.length,0)=Ac_ b row j st)∨((∀j,j<st.length→nth st j 0≠to)∧ed_ (fun z:Nat×Nat=>Aa_ st L p ord i b row z.1 z.2) (st.length,0)=Ac_ b row st.length (st++[to])):=by
  have key: ∀(m k a:Nat),st.length - k=m→k≤st.length→(a<st.length∧nth st a 0=to∨a=st.length∧ ∀j,j<k→nth st j 0≠to)→ ∀R,Aa_ st L p ord i b row (if (∃j,j<st.length∧nth st j 0=to) then 0 else 0) k=Aa_ st L p ord i b row 0 k→R=ed_ (fun z:Nat×Nat=>Aa_ st L p ord i b row z.1 z.2) (a,k)→
      (∃j,j<st.length∧nth st j 0=to∧R=Ac_ b row j st)∨((∀j,j<st.length→nth st j 0≠to)∧R=Ac_ b row st.length (st++[to])):=by
    intro m
    induction m with
    |zero=>
      intro k a hm hk ha R _ hR
      have hk:k=st.length:=by omega
      subst hk
      have hd: ∀X,Aa_ st L p ord i b row a st.length=fin X→ed_ (fun z:Nat×Nat=>Aa_ st L p ord i b row z.1 z.2) (a,st.length)=X:=fun X hX=>by
        cases hx:X with
        |some x=>exact e1_ (by show Aa_ st L p ord i b row a st.length=_;rw [hX,hx];rfl)
        |none=>
          cases hq:ed_ (fun z:Nat×Nat=>Aa_ st L p ord i b row z.1 z.2) (a,st.length)with
          |none=>rfl
          |some r=>
            obtain ⟨z,hz,_⟩:=ek_ hq
            have hz:Aa_ st L p ord i b row a st.length=some z:=hz
            rw [hX,hx]at hz;cases hz
      have hun:Aa_ st L p ord i b row a st.length=fin (d4_ (decide (((a:Nat):Int)=((st.length:Nat):Int))) (Ac_ b row a (st++[to])) (Ac_ b row a st)):=by
        unfold Aa_
        rw [dz_ (by omega),hto,dx_ (by simp only [lo_];omega)]
      rw [hd _ hun]at hR
      rcases ha with ⟨a1,a2⟩|⟨a1,a2⟩
      · left
        rw [dz_ (by omega)]at hR
        exact ⟨a,a1,a2,hR⟩
      right
      subst a1
      rw [dy_ rfl]at hR
      exact ⟨a2,hR⟩
    |succ m ih=>
      intro k a hm hk ha R _ hR
      have hks:k<st.length:=by omega
      by_cases c:nth st k 0=to
      · refine ih (k+1) k (by omega) (by omega) (.inl ⟨hks,c⟩) R (by split<;>rfl) ?_
        rw [hR]
        refine ud_ ?_
        show Aa_ st L p ord i b row a k=_
        unfold Aa_ D2_
        rw [dy_ (by omega),hto,dy_ c];rfl
      refine ih (k+1) a (by omega) (by omega) ?_ R (by split<;>rfl) ?_
      · rcases ha with ha|⟨a1,a2⟩
        · exact .inl ha
        refine .inr ⟨a1,fun j hj=> ?_⟩
        by_cases e:j=k
        · rw [e];exact c
        exact a2 j (by omega)
      rw [hR]
      refine ud_ ?_
      show Aa_ st L p ord i b row a k=_
      unfold Aa_ D2_
      rw [dy_ (by omega),hto,dz_ c];rfl
  exact key _ 0 st.length rfl (Nat.zero_le _) (.inr ⟨rfl,fun j hj=>absurd hj (Nat.not_lt_zero _)⟩) _ (by split<;>rfl) rfl
def clR(L:N_1)(s:Nat):Int:=nth L s 0
structure RowI (q:Seq) (L st:N_1) (V:Nat→Int) (i b:Nat) (st' row:N_1) (V':Nat→Int):Prop where
  bf:BfI q (clR L) st' V' (i * 256+b)
  fx: ∀j,j<st'.length→nth L (nth st' j 0).toNat 0=nth st' j 0
  ex: ∃X,st'=st++X
  len:row.length=256
  at': ∀c,c<b→nth row c 0=V' (i * 256+c)
  old: ∀c,c<i * 256→V' c=V c
theorem zl_{q:Seq}{cl:Nat→Int}{st:N_1}{V:Nat→Int}{code:Nat}(h:BfI q cl st V code):st.length≤q.next.length:=by
  refine tp_ (n:=st.length) (f:=fun s=>s) (g:=fun j=>(nth st j 0).toNat) (fun k hk=>⟨k,hk,rfl⟩) (fun s hs=>by have:=h.rng s hs;show (nth st s 0).toNat<_;omega) fun s t hs ht e=> ?_
  have e:(nth st s 0).toNat=(nth st t 0).toNat:=e
  exact h.dist s t hs ht (by rw [e])
theorem rrow_in{q:Seq}(hq:d5_ q=true){L:N_1}(hL:LkI q L q.next.length){st:N_1}{V:Nat→Int}{i:Nat}(hi:i<st.length)(h:BfI q (clR L) st V (i * 256))(hfx: ∀j,j<st.length→nth L (nth st j 0).toNat 0=nth st j 0)(e:Int){N:N_2}{O:T_3}{F:B_1}{T:T_2}(hN:N.length≤1024)(hO:O.length≤1024)(hF:F.length≤1024)(hT:T.length≤1024):
    ∃st' row V',ed_ (fun z:N_1×N_1×Nat=>A4_ st i (q,e) L N O F T z.1 z.2.1 z.2.2) (st,List.replicate 256 0,0)=some (.inl (N++[row],O++[nth q.outs (nth st i 0).toNat []],F++[nth q.fin (nth st i 0).toNat false],T++[nth q.tail (nth st i 0).toNat []],st',i+1))∧RowI q L st V i 256 st' row V':=by
  obtain ⟨q1,q2,q3,q4,q5⟩:=d3_ hq
  have hLl:=hL.len
  have hs:=h.rng i hi
  obtain ⟨s,hs'⟩: ∃s:Nat,nth st i 0=((s:Nat):Int):=⟨(nth st i 0).toNat,by omega⟩
  have hsn:s<q.next.length:=by omega
  obtain ⟨r1,r2⟩:=ew_ hq hsn
  rw [hs',tn_]
  refine Exists.elim (ej_ (step:=fun z:N_1×N_1×Nat=>A4_ st i (q,e) L N O F T z.1 z.2.1 z.2.2) (fun (z:N_1×N_1) b=>(z.1,z.2,b)) 256 (fun b z=> ∃V',RowI q L st V i b z.1 z.2 V') (fun x=> ∃st' row V',x= .inl (N++[row],O++[nth q.outs s []],F++[nth q.fin s false],T++[nth q.tail s []],st',i+1)∧RowI q L st V i 256 st' row V') ?_ ?_ (s0:=(st,List.replicate 256 0)) ⟨V,h,hfx,⟨[],by simp⟩,by simp,fun c hc=>absurd hc (Nat.not_lt_zero _),fun c _=>rfl⟩) (fun x hh_=> ?_)
  · rintro b ⟨st1,row⟩ hb ⟨V1,k1,k2,⟨X,k3⟩,k4,k5,k6⟩
    simp only at k1 k2 k3 k4 k5 k6
    have hst1:i<st1.length:=by rw [k3,la_];omega
    have hat:nth st1 i 0=((s:Nat):Int):=by rw [k3,fe_ hi];exact hs'
    have hd1:(i * 256+b) / 256=i:=by omega
    have hd2:(i * 256+b) % 256=b:=by omega
    have hlt:=e2_ hq hsn hb
    have hge:=q8_ hq hsn hb
    have hle:=zl_ k1
    have hcell:nxQ q (nth st1 ((i * 256+b) / 256) 0).toNat ((i * 256+b) % 256)=nxQ q s b:=by rw [hd1,hd2,hat,tn_]
    have e1:nth (nth q.next s []) b 0=nxQ q s b:=rfl
    have rows: ∀{z:Int} {r:N_1},r.length=256→(∀c,c≠b→nth r c 0=nth row c 0)→nth r b 0=z→ ∀c,c<b+1→nth r c 0=upd V1 (i * 256+b) z (i * 256+c):=fun {z r} h1 h2 h3 c hc=>by
      by_cases f:c=b
      · rw [f,mf_];exact h3
      rw [h2 c f,gk_ _ _ (by omega)];exact k5 c (by omega)
    have olds: ∀z c,c<i * 256→upd V1 (i * 256+b) z c=V c:=fun z c hc=>by rw [gk_ _ _ (by omega)];exact k6 c hc
    have two: ∀z:Int,((row.set b (-1)).set b z).length=256∧(∀c,c≠b→nth ((row.set b (-1)).set b z) c 0=nth row c 0)∧nth ((row.set b (-1)).set b z) b 0=z:=fun z=>⟨by simp [k4],fun c hc=>by rw [f8_ hc,f8_ hc],gm_ (by simp;omega)⟩
    left
    show ∃s':N_1×N_1,A4_ st i (q,e) L N O F T st1 row b=some (.inl (s'.1,s'.2,b+1))∧_
    unfold A4_
    rw [dy_ (by omega),dx_ (by omega),hs',tn_,dx_ (show 0≤((s:Nat):Int)∧((s:Nat):Int)<(q.next.length:Int) by omega),dx_ (show b<(nth q.next s []).length by omega)]
    show ∃s':N_1×N_1,d4_ (decide (nxQ q s b<0)) (Cq_ b st1 (row.set b (-1))) _=_∧_
    by_cases d:nxQ q s b<0
    · rw [dy_ d]
      refine ⟨(st1,row.set b (-1)),rfl,upd V1 (i * 256+b) (-1),k1.skip (by rw [hcell];exact d),k2,⟨X,k3⟩,by show (row.set b (-1)).length=256;rw [ls_];exact k4,rows (by simp [k4]) (fun c hc=>f8_ hc) (gm_ (by omega)),olds _⟩
    have hz:(nxQ q s b).toNat<q.next.length:=by omega
    rw [dz_ d,dx_ (show 0≤((s:Nat):Int)∧((s:Nat):Int)<(q.next.length:Int) by omega),dx_ (show b<(nth q.next s []).length by omega)]
    show ∃s':N_1×N_1,grd (0≤nxQ q s b∧nxQ q s b<(L.length:Int)) (ed_ (fun z:Nat×Nat=>Aa_ st1 L (q,e) st i b row z.1 z.2) (st1.length,0))=_∧_
    rw [dx_ (by omega)]
    have hfz:=hL.fix hz
    rcases find_ok (p:=(q,e)) (L:=L) (st:=st1) (ord:=st) (row:=row) (i:=i) (b:=b) (by omega) (nth L (nxQ q s b).toNat 0) (by rw [hs',tn_];rfl)with ⟨j,j1,j2,j3⟩|⟨j1,j2⟩
    · rw [j3]
      unfold Ac_ Cq_
      rw [dx_ (by simp;omega)]
      obtain ⟨t1,t2,t3⟩:=two ((j:Nat):Int)
      refine ⟨(st1,_),rfl,upd V1 (i * 256+b) ((j:Nat):Int),k1.old (by rw [hcell];omega) j1 (by rw [hcell];show nth L (nth st1 j 0).toNat 0=nth L (nxQ q s b).toNat 0;rw [k2 j j1];exact j2),k2,⟨X,k3⟩,t1,rows t1 t2 t3,olds _⟩
    rw [j2]
    unfold Ac_ Cq_
    rw [dx_ (by simp;omega)]
    obtain ⟨t1,t2,t3⟩:=two ((st1.length:Nat):Int)
    refine ⟨(st1++[nth L (nxQ q s b).toNat 0],_),rfl,upd V1 (i * 256+b) ((st1.length:Nat):Int),k1.new (by omega) (by rw [hcell];omega) ⟨hfz.1,hfz.2.1⟩ (by rw [hcell];exact hfz.2.2) (fun j hj=>by
      rw [hcell]
      show nth L (nth st1 j 0).toNat 0≠nth L (nxQ q s b).toNat 0
      rw [k2 j hj];exact j1 j hj),fun j hj=> ?_,⟨X++[nth L (nxQ q s b).toNat 0],by rw [k3,ap_]⟩,t1,rows t1 t2 t3,olds _⟩
    show nth L (nth (st1++[nth L (nxQ q s b).toNat 0]) j 0).toNat 0=nth (st1++[nth L (nxQ q s b).toNat 0]) j 0
    by_cases f:j<st1.length
    · rw [fe_ f];exact k2 j f
    have:j=st1.length:=by have:j<(st1++[nth L (nxQ q s b).toNat 0]).length:=hj;rw [la_,lo_]at this;omega
    rw [this,fk_];exact hfz.2.2
  · rintro ⟨st1,row⟩ ⟨V1,hR⟩
    simp only at hR
    refine ⟨.inl (N++[row],O++[nth q.outs s []],F++[nth q.fin s false],T++[nth q.tail s []],st1,i+1),?_,st1,row,V1,rfl,hR⟩
    show A4_ st i (q,e) L N O F T st1 row 256=_
    unfold A4_
    rw [dz_ (by omega),dx_ (by simp only [lo_];omega),hs',tn_,dx_ (show 0≤((s:Nat):Int)∧((s:Nat):Int)<(q.outs.length:Int) by omega),dx_ (by simp only [lo_];omega),dx_ (show 0≤((s:Nat):Int)∧((s:Nat):Int)<(q.fin.length:Int) by omega),dx_ (by simp only [lo_];omega),dx_ (show 0≤((s:Nat):Int)∧((s:Nat):Int)<(q.tail.length:Int) by omega),dx_ (by simp only [lo_];omega)];rfl
  obtain ⟨h1,st',row,V',rfl,h2⟩:=hh_
  exact ⟨st',row,V',h1,h2⟩
structure RmI (q:Seq) (L:N_1) (N:N_2) (O:T_3) (F:B_1) (T:T_2) (st:N_1) (i:Nat) (V:Nat→Int):Prop where
  bf:BfI q (clR L) st V (i * 256)
  fx: ∀j,j<st.length→nth L (nth st j 0).toNat 0=nth st j 0
  le:i≤st.length
  n:N.length=i
  o:O.length=i
  f:F.length=i
  t:T.length=i
  rn: ∀j,j<i→(nth N j []).length=256∧ ∀b,b<256→nth (nth N j []) b 0=V (j * 256+b)
  ro: ∀j,j<i→nth O j []=nth q.outs (nth st j 0).toNat []
  rf: ∀j,j<i→nth F j false=nth q.fin (nth st j 0).toNat false
  rt: ∀j,j<i→nth T j []=nth q.tail (nth st j 0).toNat []
theorem sx_{α:Type}{l:List α}{i:Nat}{x d:α}(h:l.length=i){f:Nat→α}(h1: ∀j,j<i→nth l j d=f j)(h2:x=f i): ∀j,j<i+1→nth (l++[x]) j d=f j:=fun j hj=>by
  by_cases c:j<i
  · rw [fe_ (by omega)];exact h1 j c
  have:j=l.length:=by omega
  rw [this,fk_,h2,h]
theorem u3_{n:Seq}(hn:d5_ n=true)(h0:n.next.length=0):n=Seq.zero:=by
  obtain ⟨q1,q2,q3,q4,q5⟩:=d3_ hn
  have hf:n.front=[]:=by
    simp only [d5_,gb_,Bool.and_eq_true,Bool.or_eq_true,dq_]at hn
    rcases hn.1.2 with c|c
    · exact absurd h0 c
    exact c
  exact H2_ hf (en_ h0) (en_ (by omega)) (en_ (by omega)) (en_ (by omega))
theorem rmin_ok (q : Seq) : ∃ p r, De_ q = some p ∧ PushR q p ∧ F0_ q = some r ∧ MinR p r := by
  obtain ⟨p,h1,h2⟩:=yv_ q
  unfold F0_
  rw [h1,d7_]
  by_cases c0:p.2=0
  rotate_left
  · rw [dy_ c0]
    refine ⟨p,_,rfl,h2,rfl,?_⟩
    rw [(h2.errs c0).1];exact .err c0
  rw [dz_ (fun h=>h c0)]
  obtain ⟨hP,hR,_,_⟩:=h2.psh c0
  by_cases c1:p.1.next.length=0
  · rw [dy_ (by omega)]
    refine ⟨p,_,rfl,h2,rfl,?_⟩
    rw [c0,u3_ hR c1];exact .none c0 c1
  rw [dz_ (by omega)]
  obtain ⟨q1,q2,q3,q4,q5⟩:=d3_ hR
  obtain ⟨U,u1,u2⟩:=yi_ hR hP
  rw [u1,d7_]
  suffices hs: ∃r,ed_ (fun z:N_1×Nat=>A2_ p U z.1 z.2) ([],0)=some r∧MinR p r by
    obtain ⟨r,k1,k2⟩:=hs
    exact ⟨p,r,rfl,h2,k1,k2⟩
  refine ej_ (step:=fun z:N_1×Nat=>A2_ p U z.1 z.2) (fun z j=>(z,j)) p.1.next.length (fun j L=>LkI p.1 L j) (fun r=>MinR p r) ?_ ?_ (s0:=[]) ⟨rfl,fun s hs=>absurd hs (Nat.not_lt_zero _)⟩
  · intro j L hj hL
    left
    obtain ⟨a,a1,a2⟩:=like_in q1 u2 hj hL
    refine ⟨_,?_,a2⟩
    show A2_ p U L j=_
    unfold A2_
    rw [dy_ (by omega),a1]
  intro L hL
  have hLl:=hL.len
  have hf0:=hL.fix (show 0<p.1.next.length by omega)
  show ∃r,A2_ p U L p.1.next.length=some (.inr r)∧_
  obtain ⟨r,k1,k2⟩:=im_ (step:=fun z:N_2×T_3×B_1×T_2×N_1×Nat=>Cp_ p L z.1 z.2.1 z.2.2.1 z.2.2.2.1 z.2.2.2.2.1 z.2.2.2.2.2) (fun z=> ∃V,RmI p.1 L z.1 z.2.1 z.2.2.1 z.2.2.2.1 z.2.2.2.2.1 z.2.2.2.2.2 V) (fun z=>p.1.next.length+1 - z.2.2.2.2.2) (fun r=>MinR p r) (by
    rintro ⟨N,O,F,T,st,i⟩ ⟨V,hI⟩
    simp only at hI
    have hle:=zl_ hI.bf
    have hi:=hI.le
    have n1:=hI.n
    have n2:=hI.o
    have n3:=hI.f
    have n4:=hI.t
    show (∃t',Cp_ p L N O F T st i=some (.inl t')∧_∧_)∨ ∃r,Cp_ p L N O F T st i=some (.inr r)∧_
    unfold Cp_
    by_cases c:i<st.length
    · left
      obtain ⟨st',row,V',m1,m2⟩:=rrow_in hR hL c hI.bf hI.fx p.2 (N:=N) (O:=O) (F:=F) (T:=T) (by omega) (by omega) (by omega) (by omega)
      obtain ⟨X,hX⟩:=m2.ex
      have hold: ∀j,j<st.length→nth st' j 0=nth st j 0:=fun j hj=>by rw [hX,fe_ hj]
      rw [dy_ (by omega),show p=(p.1,p.2)from rfl,m1]
      refine ⟨_,rfl,⟨V',by show BfI p.1 (clR L) st' V' ((i+1) * 256);rw [show (i+1) * 256=i * 256+256 by omega];exact m2.bf,m2.fx,by show i+1≤st'.length;rw [hX,la_];omega,by show (N++[row]).length=i+1;simp [n1],by show (O++[_]).length=i+1;simp [n2],by show (F++[_]).length=i+1;simp [n3],by show (T++[_]).length=i+1;simp [n4],fun j hj=> ?_,?_,?_,?_⟩,?_⟩
      · have hj:j<i+1:=hj
        show (nth (N++[row]) j []).length=256∧ ∀b,b<256→nth (nth (N++[row]) j []) b 0=V' (j * 256+b)
        by_cases d:j<i
        · rw [fe_ (by omega)]
          obtain ⟨a1,a2⟩:=hI.rn j d
          exact ⟨a1,fun b hb=>by rw [a2 b hb,m2.old _ (by omega)]⟩
        have:j=N.length:=by omega
        subst this
        rw [fk_]
        refine ⟨m2.len,fun b hb=> ?_⟩
        rw [m2.at' b hb,n1]
      · exact sx_ n2 (fun j hj=>by rw [hold j (by omega)];exact hI.ro j hj) (by rw [hold i c])
      · exact sx_ n3 (fun j hj=>by rw [hold j (by omega)];exact hI.rf j hj) (by rw [hold i c])
      · exact sx_ n4 (fun j hj=>by rw [hold j (by omega)];exact hI.rt j hj) (by rw [hold i c])
      show p.1.next.length+1 - (i+1)<p.1.next.length+1 - i
      omega
    right
    have:i=st.length:=by omega
    subst this
    rw [dz_ (by omega)]
    refine ⟨_,rfl,.made _ (st.map Int.toNat) c0 (hI.bf.min (fun s t hs ht=>hL.iff hs ht) hR rfl n1 n2 n3 n4 (fun j hj=>(hI.rn j hj).1) (fun d hd=> ?_) hI.ro hI.rf hI.rt)⟩
    show nth (nth N (d / 256) []) (d % 256) 0=V d
    rw [(hI.rn (d / 256) (by omega)).2 (d % 256) (by omega),show d / 256 * 256+d % 256=d by omega]) (t:=([],[],[],[],[nth L 0 0],0)) ⟨fun _=>0,BfI.init _ ⟨hf0.1,hf0.2.1⟩ hf0.2.2,fun j hj=>by
    have hj:j<1:=hj
    have:j=0:=by omega
    subst this;exact hf0.2.2,Nat.zero_le _,rfl,rfl,rfl,rfl,fun j hj=>absurd hj (Nat.not_lt_zero _),fun j hj=>absurd hj (Nat.not_lt_zero _),fun j hj=>absurd hj (Nat.not_lt_zero _),fun j hj=>absurd hj (Nat.not_lt_zero _)⟩
  refine ⟨r,?_,k2⟩
  unfold A2_
  rw [dz_ (by omega),dx_ (by omega),k1];rfl
theorem tu_: ∀p a b:T_1,Lib.compareBytes (p++a) (p++b)=Lib.compareBytes a b
  |[],_,_=>rfl
  |x::p,a,b=>by
    simp only [List.cons_append,Lib.compareBytes,UInt8.lt_irrefl,if_false]
    exact tu_ p a b
theorem cut_cmp{f:T_1}{x y:Tip}(hx:f <+: x.out)(hy:f <+: y.out):ex_ (pi_ f.length x) (pi_ f.length y)=ex_ x y:=by
  obtain ⟨a,ha⟩:=hx
  obtain ⟨b,hb⟩:=hy
  unfold ex_ pi_
  simp only [←ha,←hb,List.drop_left,tu_]
theorem once_cut{l:List Tip}{f:T_1}(hf: ∀x∈l,f <+: x.out):gt_ tz_ ex_ (l.map (pi_ f.length))=(gt_ tz_ ex_ l).map (pi_ f.length):=by
  refine oa_ fn_ (g4_ fn_ _) ?_ fun x=> ?_
  · rw [List.pairwise_map]
    refine (g4_ fn_ l).imp_of_mem fun {a b} ha hb h=> ?_
    rw [cut_cmp (hf a ((e9_ ..).1 ha)) (hf b ((e9_ ..).1 hb))];exact h
  rw [e9_]
  simp only [List.mem_map]
  exact ⟨fun ⟨y,h1,h2⟩=>⟨y,(e9_ ..).2 h1,h2⟩,fun ⟨y,h1,h2⟩=>⟨y,(e9_ ..).1 h1,h2⟩⟩
theorem x5_(l:List Tip):fw_ ((gt_ tz_ ex_ l).map Tip.out)=fw_ (l.map Tip.out):=um_ fun x=>by
  simp only [List.mem_map]
  exact ⟨fun ⟨y,h1,h2⟩=>⟨y,(e9_ ..).1 h1,h2⟩,fun ⟨y,h1,h2⟩=>⟨y,(e9_ ..).2 h1,h2⟩⟩
theorem vb_(l:List Tip):iq_ l=if th_ (gt_ tz_ ex_ l)=true then .inl 12 else if 4096<(fw_ (l.map Tip.out)).length then .inl 2 else
    if ∃x∈gt_ tz_ ex_ l,4096<(x.out.drop (fw_ (l.map Tip.out)).length).length then .inl 2 else .inr (fw_ (l.map Tip.out),(gt_ tz_ ex_ l).map (pi_ (fw_ (l.map Tip.out)).length)):=by
  rw [←x5_ l];rfl
def em(a:Arc)(b:UInt8):T_1:=if a.copy then a.out++[b] else a.out
inductive Wy (t:Fst):Int→T_1→T_1→Int→Prop
  |nil (s:Int):Wy t s [] [] s
  |cons {w o:T_1} {q:Int} (a:Arc) (b:UInt8):a∈t.arcs→a.set.has b.toNat=true→Wy t a.to w o q→Wy t a.frm (b::w) (em a b++o) q
theorem Wy.cons_inv{t:Fst}{s q:Int}{b:UInt8}{w o:T_1}(h:Wy t s (b::w) o q): ∃a∈t.arcs,a.frm=s∧a.set.has b.toNat=true∧ ∃o',Wy t a.to w o' q∧o=em a b++o':=by
  cases h with
  |cons a b ha hb hw=>exact ⟨a,ha,rfl,hb,_,hw,rfl⟩
theorem Wy.split{t:Fst}: ∀{u v o:T_1} {s q:Int},Wy t s (u++v) o q→ ∃m o1 o2,Wy t s u o1 m∧Wy t m v o2 q∧o=o1++o2
  |[],v,o,s,q,h=>⟨s,[],o,.nil s,h,rfl⟩
  |b::u,v,o,s,q,h=>by
    obtain ⟨a,ha,rfl,hb,o',hw,rfl⟩:=Wy.cons_inv h
    obtain ⟨m,o1,o2,h1,h2,rfl⟩:=Wy.split hw
    exact ⟨m,em a b++o1,o2,.cons a b ha hb h1,h2,by rw [ap_]⟩
theorem Wy.map{t T:Fst}(f:Int→Int)(h: ∀a∈t.arcs,(⟨f a.frm,f a.to,a.set,a.out,a.copy⟩:Arc)∈T.arcs){s q:Int}{w o:T_1}(k:Wy t s w o q):Wy T (f s) w o (f q):=by
  induction k with
  |nil s=>exact .nil _
  |cons a b ha hb _ ih=>exact Wy.cons (⟨f a.frm,f a.to,a.set,a.out,a.copy⟩:Arc) b (h a ha) hb ih
def Eqs(L:T_2):Prop:= ∀x∈L, ∀y∈L,x=y
instance (L:T_2):Decidable (Eqs L):=inferInstanceAs (Decidable (∀x∈L, ∀y∈L,x=y))
def ho_(L:T_2):T_1:=L.getLastD []
theorem u6_(L:T_2)(s:T_1):ho_ (L++[s])=s:=by simp [ho_]
theorem m8_{L:T_2}(h:L≠[]):ho_ L∈L:=by
  unfold ho_
  rw [List.getLastD_eq_getLast?,List.getLast?_eq_some_getLast h]
  exact List.getLast_mem h
theorem Eqs.last{L:T_2}(h:Eqs L){x:T_1}(hx:x∈L):x=ho_ L:=h _ hx _ (m8_ (List.ne_nil_of_mem hx))
theorem ue_{L:T_2}{s:T_1}:Eqs (L++[s])↔Eqs L∧(L≠[]→s=ho_ L):=by
  constructor
  · intro h
    refine ⟨fun x hx y hy=>h x (List.mem_append_left _ hx) y (List.mem_append_left _ hy),fun hn=> ?_⟩
    exact h _ (List.mem_append_right _ (List.mem_singleton.2 rfl)) _ (List.mem_append_left _ (m8_ hn))
  rintro ⟨h1,h2⟩ x hx y hy
  have key: ∀z∈L++[s],z=s:=fun z hz=>by
    rcases List.mem_append.1 hz with hz|hz
    · rw [h1.last hz,h2 (List.ne_nil_of_mem hz)]
    exact List.mem_singleton.1 hz
  rw [key x hx,key y hy]
theorem wb_{L M:T_2}(h:Eqs M)(hs: ∀x∈L,x∈M):Eqs L:=fun x hx y hy=>h x (hs x hx) y (hs y hy)
def lc_(L:T_2):Bool:= !L.isEmpty
theorem u7_(L:T_2)(s:T_1):lc_ (L++[s])=true:=by cases L<;>rfl
theorem rt_{L:T_2}:lc_ L=true↔L≠[]:=by cases L<;>simp [lc_]
def rw_(E:List Tip)(x:Tip):T_2:=(E.filter fun e=>decide (e.state=x.state)).map fun e=>x.out++e.out
def hj_(E l:List Tip):T_2:=l.flatMap (rw_ E)
theorem u5_(E l:List Tip)(x:Tip):hj_ E (l++[x])=hj_ E l++rw_ E x:=by simp [hj_]
def su_(E l:List Tip):Int⊕(Bool×T_1):=
  if ¬ Eqs (hj_ E l) then .inl 12 else if 4096<(ho_ (hj_ E l)).length then .inl 2 else .inr (lc_ (hj_ E l),ho_ (hj_ E l))
def zj_(A:List Arc)(b:UInt8)(x:Tip):List Tip:=((A.filter fun a=>decide (a.frm=x.state)).filter fun a=>a.set.has b.toNat).map fun a=>⟨a.to,x.out++em a b⟩
def mj_(A:List Arc)(l:List Tip)(b:UInt8):List Tip:=l.flatMap (zj_ A b)
theorem we_(A:List Arc)(l:List Tip)(b:UInt8)(x:Tip):mj_ A (l++[x]) b=mj_ A l b++zj_ A b x:=by simp [mj_]
theorem y6_(A:List Arc)(b:UInt8)(x:Tip):(zj_ A b x).length≤A.length:=by
  unfold zj_
  rw [List.length_map]
  exact Nat.le_trans (List.length_filter_le _ _) (List.length_filter_le _ _)
theorem py_(A:List Arc)(b:UInt8): ∀l:List Tip,(mj_ A l b).length≤l.length * A.length
  |[]=>by simp [mj_]
  |x::l=>by
    have h1:=py_ A b l
    have h2:=y6_ A b x
    show (zj_ A b x++mj_ A l b).length≤_
    rw [la_,List.length_cons,Nat.succ_mul];omega
theorem t2_{A:List Arc}{l:List Tip}{b:UInt8}{y:Tip}:y∈mj_ A l b↔ ∃x∈l, ∃a∈A,a.frm=x.state∧a.set.has b.toNat=true∧y=⟨a.to,x.out++em a b⟩:=by
  unfold mj_ zj_
  simp only [List.mem_flatMap,List.mem_map,List.mem_filter,dq_]
  exact ⟨fun ⟨x,h1,a,⟨⟨h2,h3⟩,h4⟩,h5⟩=>⟨x,h1,a,h2,h3,h4,h5.symm⟩,fun ⟨x,h1,a,h2,h3,h4,h5⟩=>⟨x,h1,a,⟨⟨h2,h3⟩,h4⟩,h5.symm⟩⟩
theorem nh_{E l:List Tip}{y:T_1}:y∈hj_ E l↔ ∃x∈l, ∃e∈E,e.state=x.state∧y=x.out++e.out:=by
  unfold hj_ rw_
  simp only [List.mem_flatMap,List.mem_map,List.mem_filter,dq_]
  exact ⟨fun ⟨x,h1,e,⟨h2,h3⟩,h5⟩=>⟨x,h1,e,h2,h3,h5.symm⟩,fun ⟨x,h1,e,h2,h3,h5⟩=>⟨x,h1,e,⟨h2,h3⟩,h5.symm⟩⟩
structure Knows (n:Nat) (A:List Arc) (E:List Tip) (x:Maker):Prop where
  arcs:Grp Arc.frm id n x.arcs A
  ends:Grp Tip.state Tip.out n x.ends E
  al:A.length≤16384
  ao: ∀a∈A,a.out.length≤1024
  eo: ∀e∈E,e.out.length≤1024
  hn:n≤1024
theorem z6_ {n : Nat} {A : List Arc} {E : List Tip} {x0 : Maker} (h : Knows n A E x0) {l : List Tip} (hl : RowOk n l) {k : Nat} (hk : k < l.length) (P : T_2) (hP : Eqs P) :
    ed_ (fun q:Bool×T_1×Nat=>Ak_ x0 l k q.1 q.2.1 q.2.2) (lc_ P,ho_ P,0)=some (if Eqs (P++rw_ E (nth l k tz_)) then .inl (lc_ (P++rw_ E (nth l k tz_)),ho_ (P++rw_ E (nth l k tz_)),k+1) else .inr (.inl 12)):=by
  have hm:=fv_ tz_ hk
  have hs:=hl.st _ hm
  have ho:=hl.out _ hm
  have hg:=h.ends.at hs.1 hs.2
  have hX:rw_ E (nth l k tz_)=(nth x0.ends (nth l k tz_).state.toNat []).map fun o=>(nth l k tz_).out++o:=by
    rw [hg,List.map_map];rfl
  have hgo: ∀o∈nth x0.ends (nth l k tz_).state.toNat [],o.length≤1024:=by
    rw [hg]
    intro o ho
    obtain ⟨e,he,rfl⟩:=List.mem_map.1 ho
    exact h.eo e (List.mem_filter.1 he).1
  rw [hX]
  obtain ⟨r,h1,h2⟩:=ej_ (step:=fun q:Bool×T_1×Nat=>Ak_ x0 l k q.1 q.2.1 q.2.2) (fun (s:Bool×T_1) j=>(s.1,s.2,j)) (nth x0.ends (nth l k tz_).state.toNat []).length
    (fun j s=>Eqs (P++((nth x0.ends (nth l k tz_).state.toNat []).take j).map fun o=>(nth l k tz_).out++o)∧s=(lc_ (P++((nth x0.ends (nth l k tz_).state.toNat []).take j).map fun o=>(nth l k tz_).out++o),ho_ (P++((nth x0.ends (nth l k tz_).state.toNat []).take j).map fun o=>(nth l k tz_).out++o)))
    (fun r=>r=(if Eqs (P++(nth x0.ends (nth l k tz_).state.toNat []).map fun o=>(nth l k tz_).out++o) then .inl (lc_ (P++(nth x0.ends (nth l k tz_).state.toNat []).map fun o=>(nth l k tz_).out++o),ho_ (P++(nth x0.ends (nth l k tz_).state.toNat []).map fun o=>(nth l k tz_).out++o),k+1) else .inr (.inl 12)))
    (fun j s hj hI=>by
      obtain ⟨hI,rfl⟩:=hI
      have hoj:=hgo _ (fv_ [] hj)
      have ht:((nth x0.ends (nth l k tz_).state.toNat []).take (j+1)).map (fun o=>(nth l k tz_).out++o)=((nth x0.ends (nth l k tz_).state.toNat []).take j).map (fun o=>(nth l k tz_).out++o)++[(nth l k tz_).out++nth (nth x0.ends (nth l k tz_).state.toNat []) j []]:=by
        rw [eu_ _ hj [],List.map_append];rfl
      have hsub: ∀y∈P++((nth x0.ends (nth l k tz_).state.toNat []).take (j+1)).map (fun o=>(nth l k tz_).out++o),y∈P++(nth x0.ends (nth l k tz_).state.toNat []).map fun o=>(nth l k tz_).out++o:=fun y hy=>by
        rcases List.mem_append.1 hy with hy|hy
        · exact List.mem_append_left _ hy
        obtain ⟨o,ho,rfl⟩:=List.mem_map.1 hy
        exact List.mem_append_right _ (List.mem_map.2 ⟨o,List.mem_of_mem_take ho,rfl⟩)
      rw [ht,←ap_]at hsub
      have hst:Ak_ x0 l k (lc_ (P++((nth x0.ends (nth l k tz_).state.toNat []).take j).map fun o=>(nth l k tz_).out++o)) (ho_ (P++((nth x0.ends (nth l k tz_).state.toNat []).take j).map fun o=>(nth l k tz_).out++o)) j
          =if P++((nth x0.ends (nth l k tz_).state.toNat []).take j).map (fun o=>(nth l k tz_).out++o)≠[]∧(nth l k tz_).out++nth (nth x0.ends (nth l k tz_).state.toNat []) j []≠ho_ (P++((nth x0.ends (nth l k tz_).state.toNat []).take j).map fun o=>(nth l k tz_).out++o) then some (.inr (.inr (.inl 12)))
            else some (.inl (true,(nth l k tz_).out++nth (nth x0.ends (nth l k tz_).state.toNat []) j [],j+1)):=by
        unfold Ak_ Df_
        rw [dy_ (by omega),dx_ (by omega)]
        by_cases c1:P++((nth x0.ends (nth l k tz_).state.toNat []).take j).map (fun o=>(nth l k tz_).out++o)≠[]
        · rw [rt_.2 c1,iteO_true]
          by_cases c2:(nth l k tz_).out++nth (nth x0.ends (nth l k tz_).state.toNat []) j []≠ho_ (P++((nth x0.ends (nth l k tz_).state.toNat []).take j).map fun o=>(nth l k tz_).out++o)
          · rw [dy_ c2,if_pos ⟨c1,c2⟩];rfl
          rw [dz_ c2,if_neg (fun q=>c2 q.2)];rfl
        rw [show lc_ (P++((nth x0.ends (nth l k tz_).state.toNat []).take j).map fun o=>(nth l k tz_).out++o)=false from by rw [Bool.eq_false_iff];exact fun q=>c1 (rt_.1 q),iteO_false,if_neg (fun q=>c1 q.1)];rfl
      by_cases c:P++((nth x0.ends (nth l k tz_).state.toNat []).take j).map (fun o=>(nth l k tz_).out++o)≠[]∧(nth l k tz_).out++nth (nth x0.ends (nth l k tz_).state.toNat []) j []≠ho_ (P++((nth x0.ends (nth l k tz_).state.toNat []).take j).map fun o=>(nth l k tz_).out++o)
      · rw [if_pos c]at hst
        exact .inr ⟨_,hst,by rw [if_neg fun q=>c.2 ((ue_.1 (wb_ q hsub)).2 c.1)]⟩
      rw [if_neg c]at hst
      refine .inl ⟨(true,_),hst,?_,?_⟩
      · rw [ht,←ap_]
        exact ue_.2 ⟨hI,fun q=>Classical.byContradiction fun q2=>c ⟨q,q2⟩⟩
      rw [ht,←ap_,u7_,u6_])
    (fun s hI=>by
      obtain ⟨hI,rfl⟩:=hI
      rw [List.take_length]at hI
      refine ⟨_,?_,rfl⟩
      rw [if_pos hI,List.take_length]
      show Ak_ x0 l k _ _ (nth x0.ends (nth l k tz_).state.toNat []).length=_
      unfold Ak_
      rw [dz_ (by omega)];rfl) (s0:=(lc_ P,ho_ P)) ⟨by simpa using hP,by simp⟩
  rw [←h2];exact h1
theorem tail_ok {n : Nat} {A : List Arc} {E : List Tip} {x0 : Maker} (h : Knows n A E x0) {l : List Tip} (hl : RowOk n l) : Es_ x0 l = some (su_ E l) := by
  unfold Es_
  obtain ⟨r,h1,h2⟩:=ej_ (step:=fun q:Bool×T_1×Nat=>An_ l x0 q.1 q.2.1 q.2.2) (fun (s:Bool×T_1) k=>(s.1,s.2,k)) l.length (fun k s=>Eqs (hj_ E (l.take k))∧s=(lc_ (hj_ E (l.take k)),ho_ (hj_ E (l.take k)))) (fun r=>r=su_ E l)
    (fun k s hk hI=>by
      obtain ⟨hI,rfl⟩:=hI
      have hs:=hl.st _ (fv_ tz_ hk)
      have ht:hj_ E (l.take (k+1))=hj_ E (l.take k)++rw_ E (nth l k tz_):=by rw [eu_ l hk tz_,u5_]
      have hst:An_ l x0 (lc_ (hj_ E (l.take k))) (ho_ (hj_ E (l.take k))) k=some (if Eqs (hj_ E (l.take (k+1))) then .inl (lc_ (hj_ E (l.take (k+1))),ho_ (hj_ E (l.take (k+1))),k+1) else .inr (.inl 12)):=by
        unfold An_
        rw [dy_ (by omega),dx_ ⟨hs.1,by rw [h.ends.len];exact hs.2⟩,ht]
        exact z6_ h hl hk _ hI
      by_cases c:Eqs (hj_ E (l.take (k+1)))
      · rw [if_pos c]at hst
        exact .inl ⟨(_,_),hst,c,rfl⟩
      rw [if_neg c]at hst
      refine .inr ⟨_,hst,?_⟩
      unfold su_
      rw [if_pos]
      intro q
      refine c (wb_ q fun y hy=> ?_)
      obtain ⟨x,hx,e,he⟩:=nh_.1 hy
      exact nh_.2 ⟨x,List.mem_of_mem_take hx,e,he⟩)
    (fun s hI=>by
      obtain ⟨hI,rfl⟩:=hI
      rw [List.take_length]at hI
      refine ⟨_,?_,rfl⟩
      have hlen:(ho_ (hj_ E l)).length≤281474976710656:=by
        by_cases c:hj_ E l=[]
        · rw [c];simp [ho_]
        obtain ⟨x,hx,e,he,_,hq⟩:=nh_.1 (m8_ c)
        have h3:=hl.out x hx
        have h4:=h.eo e he
        rw [hq,la_];omega
      rw [List.take_length]
      show An_ l x0 _ _ l.length=_
      unfold An_ su_
      rw [dz_ (by omega),if_neg (fun q=>q hI),pz_ hlen,d7_]
      by_cases c:4096<(ho_ (hj_ E l)).length
      · rw [if_pos c,if_pos c];rfl
      rw [if_neg c,if_neg c];rfl) (s0:=(false,[])) ⟨by intro x hx;simp [hj_]at hx,rfl⟩
  rw [←h2];exact h1
theorem beh_in {n : Nat} {A : List Arc} {E : List Tip} {x0 : Maker} (h : Knows n A E x0) {l : List Tip} (hl : RowOk n l) (b : UInt8) {k : Nat} (hk : k < l.length) (P : List Tip) (hP : P.length + A.length ≤ 100000000000) :
    ed_ (fun q:(List Tip)×Nat=>Ad_ x0 l k b q.1 q.2) (P,0)=some (.inl (P++zj_ A b (nth l k tz_),k+1)):=by
  have hm:=fv_ tz_ hk
  have hs:=hl.st _ hm
  have ho:=hl.out _ hm
  have hg:=h.arcs.at hs.1 hs.2
  rw [List.map_id]at hg
  have hga: ∀a∈nth x0.arcs (nth l k tz_).state.toNat [],a.out.length≤1024:=by
    rw [hg];intro a ha;exact h.ao a (List.mem_filter.1 ha).1
  have hgl:(nth x0.arcs (nth l k tz_).state.toNat []).length≤A.length:=by rw [hg];exact List.length_filter_le _ _
  have hX:zj_ A b (nth l k tz_)=((nth x0.arcs (nth l k tz_).state.toNat []).filter fun a=>a.set.has b.toNat).map fun a=>⟨a.to,(nth l k tz_).out++em a b⟩:=by rw [hg];rfl
  rw [hX]
  obtain ⟨r,h1,h2⟩:=ej_ (step:=fun q:(List Tip)×Nat=>Ad_ x0 l k b q.1 q.2) (fun s j=>(s,j)) (nth x0.arcs (nth l k tz_).state.toNat []).length
    (fun j s=>s=P++(((nth x0.arcs (nth l k tz_).state.toNat []).take j).filter fun a=>a.set.has b.toNat).map fun a=>⟨a.to,(nth l k tz_).out++em a b⟩)
    (fun r=>r= .inl (P++((nth x0.arcs (nth l k tz_).state.toNat []).filter fun a=>a.set.has b.toNat).map fun a=>⟨a.to,(nth l k tz_).out++em a b⟩,k+1))
    (fun j s hj hI=>by
      subst hI
      have hoj:=hga _ (fv_ az_ hj)
      have hpl:(P++(((nth x0.arcs (nth l k tz_).state.toNat []).take j).filter fun a=>a.set.has b.toNat).map fun a=>(⟨a.to,(nth l k tz_).out++em a b⟩:Tip)).length≤100000000000:=by
        rw [la_,List.length_map]
        have h3:=List.length_filter_le (fun a:Arc=>a.set.has b.toNat) ((nth x0.arcs (nth l k tz_).state.toNat []).take j)
        rw [List.length_take]at h3
        omega
      refine .inl ⟨_,?_,rfl⟩
      rw [eu_ _ hj az_,List.filter_append,List.map_append,←ap_]
      generalize P++(((nth x0.arcs (nth l k tz_).state.toNat []).take j).filter fun a=>a.set.has b.toNat).map (fun a=>(⟨a.to,(nth l k tz_).out++em a b⟩:Tip))=S at hpl ⊢
      show Ad_ x0 l k b S j=_
      unfold Ad_ A3_ Cr_
      rw [dy_ (by omega)]
      generalize nth (nth x0.arcs (nth l k tz_).state.toNat []) j az_=a at hoj ⊢
      cases c:a.set.has b.toNat with
      |false=>
        rw [fg_]
        simp [c,nxt]
      |true=>
        rw [e8_,dx_ (by omega)]
        cases d:a.copy with
        |true=>
          rw [iteO_true,dx_ (by simp;omega),dx_ (by simp;omega)]
          unfold A3_
          simp [c,d,nxt,em]
        |false=>
          rw [iteO_false,dx_ (by simp;omega)]
          unfold A3_
          simp [c,d,nxt,em])
    (fun s hI=>by
      subst hI
      refine ⟨_,?_,rfl⟩
      rw [List.take_length]
      show Ad_ x0 l k b _ _=_
      unfold Ad_
      rw [dz_ (by omega)];rfl) (s0:=P) (by simp)
  rw [←h2];exact h1
theorem beh_ok{n:Nat}{A:List Arc}{E:List Tip}{x0:Maker}(h:Knows n A E x0){l:List Tip}(hl:RowOk n l)(b:UInt8):Du_ x0 l b=some (mj_ A l b):=by
  unfold Du_
  have hal:=h.al
  have hll:=hl.len
  obtain ⟨r,h1,h2⟩:=ej_ (step:=fun q:(List Tip)×Nat=>Ai_ l x0 b q.1 q.2) (fun s k=>(s,k)) l.length (fun k s=>s=mj_ A (l.take k) b) (fun r=>r=mj_ A l b)
    (fun k s hk hI=>by
      subst hI
      have hs:=hl.st _ (fv_ tz_ hk)
      refine .inl ⟨_,?_,rfl⟩
      have hb:=py_ A b (l.take k)
      have h3:(l.take k).length * A.length≤1000000 * 16384:=Nat.mul_le_mul (by rw [List.length_take];omega) hal
      show Ai_ l x0 b _ k=_
      unfold Ai_
      rw [dy_ (by omega),dx_ ⟨hs.1,by rw [h.arcs.len];exact hs.2⟩,beh_in h hl b hk (mj_ A (l.take k) b) (by omega),eu_ l hk tz_,we_])
    (fun s hI=>by
      subst hI
      refine ⟨_,?_,rfl⟩
      rw [List.take_length]
      show Ai_ l x0 b _ l.length=_
      unfold Ai_
      rw [dz_ (by omega)];rfl) (s0:=[]) rfl
  rw [←h2];exact h1
def sw_ (A : List Arc) (most : Int) (l : List Tip) (b : UInt8) (R : List (List Tip)) : Int ⊕ (List (List Tip) × Int × T_1) :=
  if mj_ A l b=[] then .inr (R, -1,[]) else
  match iq_ (mj_ A l b)with
  | .inl k=> .inl k
  | .inr (f,r)=>match jl_ most R r with
    | .inl k=> .inl k
    | .inr (i,R')=> .inr (R',((i:Nat):Int),f)
def hm_ (A : List Arc) (most : Int) (l : List Tip) (R : List (List Tip)) : Nat → Int ⊕ (List (List Tip) × N_1 × T_2)
  |0=> .inr (R,[],[])
  | k + 1 => match hm_ A most l R k with
    | .inl e=> .inl e
    | .inr (R1,N,O)=>match sw_ A most l (jo_ ((k:Nat):Int)) R1 with
      | .inl e=> .inl e
      | .inr (R2,z,o)=> .inr (R2,N++[z],O++[o])
def p3_(q:Seq)(N:N_1)(O:T_2)(b:Bool)(t:T_1):Seq:=⟨q.front,q.next++[N],q.outs++[O],q.fin++[b],q.tail++[t]⟩
def doD (A : List Arc) (E : List Tip) (most : Int) (l : List Tip) (R : List (List Tip)) (q : Seq) : Int ⊕ (List (List Tip) × Seq) :=
  match su_ E l with
  | .inl e=> .inl e
  | .inr (b,t)=>match hm_ A most l R 256 with
    | .inl e=> .inl e
    | .inr (R',N,O)=> .inr (R',p3_ q N O b t)
def allD (A : List Arc) (E : List Tip) (most : Int) : Nat → Nat → List (List Tip) → Seq → Int ⊕ (List (List Tip) × Seq)
  |0,_,R,q=> .inr (R,q)
  | g + 1, s, R, q => if s < R.length then
      match doD A E most (nth R s []) R q with
      | .inl e=> .inl e
      | .inr (R',q')=>allD A E most g (s+1) R' q'
    else .inr (R,q)
def ofT(t:Fst)(most:Int):Int⊕(List (List Tip)×Seq):=
  if t.starts=[] then .inr ([],Seq.zero) else
  match iq_ t.starts with
  | .inl e=> .inl e
  | .inr (f,l)=>allD t.arcs t.ends most 1025 0 [l] ⟨f,[],[],[],[]⟩
def ofR:Int⊕(List (List Tip)×Seq)→Seq×Int
  | .inl e=>(Seq.zero,e)
  | .inr (_,q)=>(q,0)
theorem wn_{n:Int}(hn:0≤n){l:List Tip}(h:l.Pairwise fun x y=>x.state<y.state)(hs: ∀x∈l,0≤x.state∧x.state<n):(l.length:Int)≤n:=by
  have h1:(l.map fun x=>x.state.toNat).Nodup:=by
    rw [List.Nodup,List.pairwise_map]
    refine h.imp_of_mem fun {a b} ha hb q e=> ?_
    have h2:=(hs a ha).1
    have h3:=(hs b hb).1
    omega
  have h2:=hk_ h1 (m:=List.range n.toNat) fun x hx=>by
    obtain ⟨y,hy,rfl⟩:=List.mem_map.1 hx
    have:=hs y hy
    rw [List.mem_range];omega
  rw [List.length_map,List.length_range]at h2
  omega
theorem dup_inc {l : List Tip} (h : l.Pairwise fun x y => ex_ x y < 0) (hd : ¬ th_ l = true) : l.Pairwise fun x y => x.state < y.state := by
  have key: ∀l:List Tip,(l.Pairwise fun x y=>ex_ x y<0)→ ¬ th_ l=true→l.Pairwise fun x y=>x.state<y.state:=by
    intro l
    induction l with
    |nil=>intro _ _;exact List.Pairwise.nil
    |cons a l ih=>
      intro h hd
      rw [List.pairwise_cons]at h
      cases l with
      |nil=>simp
      |cons b l=>
        rw [th_,Bool.or_eq_true,dq_]at hd
        have h1:=ih h.2 (fun q=>hd (.inr q))
        refine List.pairwise_cons.2 ⟨fun x hx=> ?_,h1⟩
        have hab:a.state<b.state:=by
          have h2:=h.1 b (mc_ ..)
          have h3:a.state≠b.state:=fun q=>hd (.inl q)
          unfold ex_ jk_ uf_ at h2
          repeat' split at h2
          all_goals omega
        rcases List.mem_cons.1 hx with rfl|hx
        · exact hab
        have:=(List.pairwise_cons.1 h1).1 x hx
        omega
  exact key l h hd
theorem strip_row{n:Int}(hn:0≤n∧n≤1024){l:List Tip}(hs: ∀x∈l,0≤x.state∧x.state<n){f:T_1}{r:List Tip}(h:iq_ l= .inr (f,r)):
    RowOk n r∧f.length≤4096∧(∀x,x∈r↔ ∃y∈l,y.state=x.state∧y.out=f++x.out)∧f=fw_ (l.map Tip.out):=by
  rw [vb_]at h
  by_cases c1:th_ (gt_ tz_ ex_ l)=true
  · rw [if_pos c1]at h;cases h
  rw [if_neg c1]at h
  by_cases c2:4096<(fw_ (l.map Tip.out)).length
  · rw [if_pos c2]at h;cases h
  rw [if_neg c2]at h
  by_cases c3: ∃x∈gt_ tz_ ex_ l,4096<(x.out.drop (fw_ (l.map Tip.out)).length).length
  · rw [if_pos c3]at h;cases h
  rw [if_neg c3]at h
  cases h
  have hso: ∀x∈gt_ tz_ ex_ l,0≤x.state∧x.state<n:=fun x hx=>hs x ((e9_ ..).1 hx)
  have hinc:=dup_inc (g4_ fn_ l) c1
  have hlen:=wn_ hn.1 hinc hso
  refine ⟨⟨by rw [List.length_map];omega,?_,fun x hx=> ?_,fun x hx=> ?_⟩,by omega,fun x=> ?_,rfl⟩
  · rw [List.pairwise_map];exact hinc
  · obtain ⟨y,hy,rfl⟩:=List.mem_map.1 hx
    exact hso y hy
  · obtain ⟨y,hy,rfl⟩:=List.mem_map.1 hx
    exact Nat.le_of_not_lt fun q=>c3 ⟨y,hy,q⟩
  rw [List.mem_map]
  constructor
  · rintro ⟨y,hy,rfl⟩
    have hm:=(e9_ ..).1 hy
    refine ⟨y,hm,rfl,?_⟩
    obtain ⟨u,hu⟩:=gp_ (List.mem_map.2 ⟨y,hm,rfl⟩:y.out∈l.map Tip.out)
    show y.out=_++y.out.drop _
    rw [←hu,List.drop_left]
  rintro ⟨y,hy,h1,h2⟩
  refine ⟨y,(e9_ ..).2 hy,?_⟩
  unfold pi_
  rw [h1,h2,List.drop_left]
theorem beh_st{n:Int}{A:List Arc}(hA: ∀a∈A,0≤a.to∧a.to<n)(l:List Tip)(b:UInt8): ∀x∈mj_ A l b,0≤x.state∧x.state<n:=fun x hx=>by
  obtain ⟨y,_,a,ha,_,_,rfl⟩:=t2_.1 hx
  exact hA a ha
theorem aaa_{n:Int}{A:List Arc}(hA: ∀a∈A,a.out.length≤1024){l:List Tip}(hl:RowOk n l)(b:UInt8): ∀x∈mj_ A l b,x.out.length≤281474976710656:=fun x hx=>by
  obtain ⟨y,hy,a,ha,_,_,rfl⟩:=t2_.1 hx
  have h1:=hl.out y hy
  have h2:=hA a ha
  show (y.out++em a b).length≤_
  unfold em
  rw [la_]
  split
  · rw [la_,lo_];omega
  omega
theorem nn_{α:Type}(l:List α)(m:Nat)(x z:α)(h:l.length<m):(l++List.replicate (m - l.length) z).set l.length x=(l++[x])++List.replicate (m - (l++[x]).length) z:=by
  rw [List.set_append_right _ _ (Nat.le_refl _),Nat.sub_self,la_,lo_,show m - l.length=(m - (l.length+1))+1 by omega,List.replicate_succ,List.set_cons_zero]
  simp
theorem Jp_{α:Type}(l:List α)(i:Nat)(x y:α):(l.set i x).set i y=l.set i y:=by simp
structure Fits (n:Nat) (A:List Arc) (E:List Tip) (x:Maker):Prop extends Knows n A E x where
  to: ∀a∈A,0≤a.to∧a.to<(n:Int)
  few:n * A.length≤1000000
  m1:1≤x.most
  m2:x.most≤1024
theorem v8_{most:Int}{R R':List (List Tip)}{r:List Tip}{i:Nat}(h:jl_ most R r= .inr (i,R'))(hR:(R.length:Int)≤most):(R'.length:Int)≤most∧(∃X,R'=R++X)∧i<R'.length∧nth R' i []=r:=by
  unfold jl_ at h
  by_cases c:r∈R
  · rw [if_pos c]at h;cases h
    exact ⟨hR,⟨[],(List.append_nil _).symm⟩,qx_ c,w5_ c⟩
  rw [if_neg c]at h
  by_cases d:most≤(R.length:Int)
  · rw [if_pos d]at h;cases h
  rw [if_neg d]at h;cases h
  exact ⟨by simp;omega,⟨_,rfl⟩,by simp,fk_ R r []⟩
theorem yo_{A:List Arc}{most:Int}{l:List Tip}{b:UInt8}{R R':List (List Tip)}{z:Int}{o:T_1}(h:sw_ A most l b R= .inr (R',z,o))(hR:(R.length:Int)≤most):(R'.length:Int)≤most∧ ∃X,R'=R++X:=by
  unfold sw_ at h
  by_cases c:mj_ A l b=[]
  · rw [if_pos c]at h;cases h
    exact ⟨hR,[],(List.append_nil _).symm⟩
  rw [if_neg c]at h
  split at h
  · cases h
  split at h
  · cases h
  rename_i q;cases h
  have:=v8_ q hR
  exact ⟨this.1,this.2.1⟩
theorem j8_{A:List Arc}{most:Int}{l:List Tip}{R:List (List Tip)}(hR:(R.length:Int)≤most): ∀{k:Nat} {R':List (List Tip)} {N:N_1} {O:T_2},hm_ A most l R k= .inr (R',N,O)→(R'.length:Int)≤most∧(∃X,R'=R++X)∧N.length=k∧O.length=k
  |0,R',N,O,h=>by cases h;exact ⟨hR,⟨[],(List.append_nil _).symm⟩,rfl,rfl⟩
  |k+1,R',N,O,h=>by
    rw [hm_]at h
    split at h
    · cases h
    rename_i R1 N1 O1 q
    obtain ⟨h1,⟨X,h2⟩,h3,h4⟩:=j8_ hR q
    split at h
    · cases h
    rename_i R2 z o q2
    cases h
    obtain ⟨h5,Y,h6⟩:=yo_ q2 h1
    exact ⟨h5,⟨X++Y,by rw [h6,h2,ap_]⟩,by simp [h3],by simp [h4]⟩
theorem p9_{β γ:Type}{key:β→Int}{val:β→γ}{n:Nat}{l:List (List γ)}{xs:List β}(h:Grp key val n l xs){i:Nat}(hi:i<n):(nth l i []).length≤xs.length:=by
  rw [h.row i hi,List.length_map];exact List.length_filter_le ..
theorem ii_{α:Type}(l:List α)(k:Nat):(l.take k).length≤l.length:=by rw [List.length_take];omega
theorem xi_{t:Fst}(ht:FstOk t): ∃on bk,Ff_ t=some (t,on,bk)∧Grp Arc.frm Arc.to t.states.toNat on t.arcs∧Grp Arc.to Arc.frm t.states.toNat bk t.arcs:=by
  have h0:=ht.st0
  have h1:=ht.st1
  have hN:=ht.arcsN
  unfold Ff_ Fc_
  rw [dx_ ⟨h0,by omega⟩,dx_ ⟨h0,by omega⟩]
  obtain ⟨r,h2,on,bk,rfl,h3,h4⟩:=yu_ (step:=fun q:N_2×N_2×Nat=>A5_ t q.1 q.2.1 q.2.2) (fun (s:N_2×N_2) k=>(s.1,s.2,k)) t.arcs az_
    (fun pre s=>Grp Arc.frm Arc.to t.states.toNat s.1 pre∧Grp Arc.to Arc.frm t.states.toNat s.2 pre)
    (fun r=> ∃on bk,r=(t,on,bk)∧Grp Arc.frm Arc.to t.states.toNat on t.arcs∧Grp Arc.to Arc.frm t.states.toNat bk t.arcs)
    (fun k s hk ⟨a1,a2⟩=>by
      obtain ⟨b1,b2,b3,b4⟩:=ht.arcs _ (fv_ az_ hk)
      have l1:=a1.len
      have l2:=a2.len
      have r1:=p9_ a1 (i:=(nth t.arcs k az_).frm.toNat) (by omega)
      have r2:=p9_ a2 (i:=(nth t.arcs k az_).to.toNat) (by omega)
      have r3:=ii_ t.arcs k
      refine .inl ⟨(s.1.set (nth t.arcs k az_).frm.toNat (nth s.1 (nth t.arcs k az_).frm.toNat []++[(nth t.arcs k az_).to]),s.2.set (nth t.arcs k az_).to.toNat (nth s.2 (nth t.arcs k az_).to.toNat []++[(nth t.arcs k az_).frm])),?_,a1.snoc b1.1 (by omega),a2.snoc b2.1 (by omega)⟩
      show A5_ t s.1 s.2 k=_
      unfold A5_ Fd_ Fa_
      rw [dy_ (by omega),dx_ ⟨b1.1,by omega⟩,dx_ (by simp only [lo_];omega),dx_ ⟨b1.1,by omega⟩,dx_ ⟨b2.1,by omega⟩,dx_ (by simp only [lo_];omega),dx_ ⟨b2.1,by omega⟩]
      rfl)
    (fun s hI=>⟨(t,s.1,s.2),by
      show A5_ t s.1 s.2 t.arcs.length=_
      unfold A5_
      rw [dz_ (by omega)];rfl,s.1,s.2,rfl,hI.1,hI.2⟩)
    (s0:=(List.replicate t.states.toNat [],List.replicate t.states.toNat [])) ⟨Grp.nil ..,Grp.nil ..⟩
  exact ⟨on,bk,h2,h3,h4⟩
theorem zm_{t:Fst}(ht:FstOk t){key val:Arc→Int}{l:N_2}(h:Grp key val t.states.toNat l t.arcs)(hk: ∀a∈t.arcs,0≤key a∧key a<t.states):stE l=fun a b=> ∃x∈t.arcs,key x=a∧val x=b:=by
  funext a b
  refine propext ⟨fun ⟨h0,hb⟩=> ?_,fun ⟨x,hx,h1,h2⟩=> ?_⟩
  · have hlt:a.toNat<t.states.toNat:=by
      have:=h.len
      by_cases hl:a.toNat<l.length
      · omega
      unfold nth at hb
      rw [List.getD_eq_getElem?_getD,List.getElem?_eq_none (by omega)]at hb
      simp at hb
    rw [h.row _ hlt,List.mem_map]at hb
    obtain ⟨x,hx,e⟩:=hb
    have:=List.mem_filter.1 hx
    exact ⟨x,this.1,by have:=dt_ this.2;omega,e⟩
  have:=hk x hx
  refine ⟨by omega,?_⟩
  rw [h.row _ (by omega),List.mem_map]
  exact ⟨x,List.mem_filter.2 ⟨hx,decide_eq_true (by omega)⟩,h2⟩
theorem wi_{t:Fst}{key val:Arc→Int}{l:N_2}(h:Grp key val t.states.toNat l t.arcs)(hk: ∀a∈t.arcs,0≤val a∧val a<t.states): ∀a, ∀z∈nth l a [],0≤z∧z<t.states.toNat:=fun a z hz=>by
  have hl:=h.len
  by_cases ha:a<t.states.toNat
  · rw [h.row _ ha,List.mem_map]at hz
    obtain ⟨x,hx,rfl⟩:=hz
    have:=hk x (List.mem_filter.1 hx).1
    omega
  unfold nth at hz
  rw [List.getD_eq_getElem?_getD,List.getElem?_eq_none (by omega)]at hz
  simp at hz
def xf_(p:Nat→Bool)(n:Nat)(num:N_1):Prop:=num.length=n∧ ∀s:Int,0≤s→s<n→nth num s.toNat 0=i3_ p s
theorem pa_(p:Nat→Bool)(l:List Tip)(k:Nat)(h:k<l.length):hv_ p (l.take (k+1))=hv_ p (l.take k)++(if 0≤i3_ p (nth l k tz_).state then [⟨i3_ p (nth l k tz_).state,(nth l k tz_).out⟩] else []):=by
  rw [eu_ l h tz_]
  unfold hv_
  rw [List.filterMap_append]
  congr 1
  by_cases hc:0≤i3_ p (nth l k tz_).state
  · rw [List.filterMap_cons,if_pos hc,if_pos hc];rfl
  rw [List.filterMap_cons,if_neg hc,if_neg hc];rfl
theorem u9_(p:Nat→Bool)(l:List Arc)(k:Nat)(h:k<l.length):iw_ p (l.take (k+1))=iw_ p (l.take k)++(if 0≤i3_ p (nth l k az_).frm∧0≤i3_ p (nth l k az_).to then [⟨i3_ p (nth l k az_).frm,i3_ p (nth l k az_).to,(nth l k az_).set,(nth l k az_).out,(nth l k az_).copy⟩] else []):=by
  rw [eu_ l h az_]
  unfold iw_
  rw [List.filterMap_append]
  congr 1
  by_cases hc:0≤i3_ p (nth l k az_).frm∧0≤i3_ p (nth l k az_).to
  · rw [List.filterMap_cons,if_pos hc,if_pos hc];rfl
  rw [List.filterMap_cons,if_neg hc,if_neg hc];rfl
theorem vv_{t:Fst}(ht:FstOk t){p:Nat→Bool}{num:N_1}(hn:xf_ p t.states.toNat num)(c:Nat)(S E:List Tip):
    ed_ (fun q:List Arc×Nat=>Bx_ t num c S E q.1 q.2) (([]:List Arc),0)=bnd (Dw_ ⟨(c:Int),S,E,iw_ p t.arcs⟩) (fun v=>some (v.1,v.2)):=by
  have hN:=ht.arcsN
  obtain ⟨r,hr⟩: ∃r,bnd (Dw_ ⟨(c:Int),S,E,iw_ p t.arcs⟩) (fun v=>some (v.1,v.2))=some r:=by rw [p1_];exact ⟨_,rfl⟩
  rw [hr]
  refine nu_ t.arcs az_ (fun k=>iw_ p (t.arcs.take k)) (fun k hk=> ?_) ?_
  · obtain ⟨b1,b2,b3,b4⟩:=ht.arcs _ (fv_ az_ hk)
    have hl:=q3_ p (t.arcs.take k)
    have r3:=ii_ t.arcs k
    have e1:=hn.2 _ b1.1 (by omega)
    have e2:=hn.2 _ b2.1 (by omega)
    have l1:=hn.1
    show Bx_ t num c S E _ k=_
    unfold Bx_ D5_
    rw [dy_ (by omega),dx_ ⟨b1.1,by omega⟩,dx_ ⟨b2.1,by omega⟩,e1,e2,u9_ p _ k hk]
    by_cases c1:0≤i3_ p (nth t.arcs k az_).frm
    · rw [dy_ c1]
      by_cases c2:0≤i3_ p (nth t.arcs k az_).to
      · rw [dy_ c2,if_pos ⟨c1,c2⟩,dx_ (by simp only [lo_];omega)];rfl
      rw [dz_ c2,if_neg (fun h=>c2 h.2),List.append_nil];rfl
    rw [dz_ c1,if_neg (fun h=>c1 h.1),List.append_nil];rfl
  show Bx_ t num c S E _ _=_
  unfold Bx_
  rw [dz_ (by omega),List.take_length,hr];rfl
theorem wf_{t:Fst}(ht:FstOk t){p:Nat→Bool}{num:N_1}(hn:xf_ p t.states.toNat num)(c:Nat)(S:List Tip):
    ed_ (fun q:List Tip×Nat=>B1_ t num c S q.1 q.2) (([]:List Tip),0)=bnd (Dw_ ⟨(c:Int),S,hv_ p t.ends,iw_ p t.arcs⟩) (fun v=>some (v.1,v.2)):=by
  have hN:=ht.endsN
  obtain ⟨r,hr⟩: ∃r,bnd (Dw_ ⟨(c:Int),S,hv_ p t.ends,iw_ p t.arcs⟩) (fun v=>some (v.1,v.2))=some r:=by rw [p1_];exact ⟨_,rfl⟩
  rw [hr]
  refine nu_ t.ends tz_ (fun k=>hv_ p (t.ends.take k)) (fun k hk=> ?_) ?_
  · obtain ⟨b1,b2⟩:=ht.ends _ (fv_ tz_ hk)
    have hl:=ke_ p (t.ends.take k)
    have r3:=ii_ t.ends k
    have e1:=hn.2 _ b1.1 (by omega)
    have l1:=hn.1
    show B1_ t num c S _ k=_
    unfold B1_ E1_
    rw [dy_ (by omega),dx_ ⟨b1.1,by omega⟩,e1,pa_ p _ k hk]
    by_cases c1:0≤i3_ p (nth t.ends k tz_).state
    · rw [dy_ c1,if_pos c1,dx_ (by simp only [lo_];omega)];rfl
    rw [dz_ c1,if_neg c1,List.append_nil];rfl
  show B1_ t num c S _ _=_
  unfold B1_
  rw [dz_ (by omega),List.take_length,vv_ ht hn,hr];rfl
theorem sf_{t:Fst}(ht:FstOk t){p:Nat→Bool}{num:N_1}(hn:xf_ p t.states.toNat num)(c:Nat):
    ed_ (fun q:List Tip×Nat=>Bv_ t num c q.1 q.2) (([]:List Tip),0)=bnd (Dw_ ⟨(c:Int),hv_ p t.starts,hv_ p t.ends,iw_ p t.arcs⟩) (fun v=>some (v.1,v.2)):=by
  have hN:=ht.startsN
  obtain ⟨r,hr⟩: ∃r,bnd (Dw_ ⟨(c:Int),hv_ p t.starts,hv_ p t.ends,iw_ p t.arcs⟩) (fun v=>some (v.1,v.2))=some r:=by rw [p1_];exact ⟨_,rfl⟩
  rw [hr]
  refine nu_ t.starts tz_ (fun k=>hv_ p (t.starts.take k)) (fun k hk=> ?_) ?_
  · obtain ⟨b1,b2⟩:=ht.starts _ (fv_ tz_ hk)
    have hl:=ke_ p (t.starts.take k)
    have r3:=ii_ t.starts k
    have e1:=hn.2 _ b1.1 (by omega)
    have l1:=hn.1
    show Bv_ t num c _ k=_
    unfold Bv_ E6_
    rw [dy_ (by omega),dx_ ⟨b1.1,by omega⟩,e1,pa_ p _ k hk]
    by_cases c1:0≤i3_ p (nth t.starts k tz_).state
    · rw [dy_ c1,if_pos c1,dx_ (by simp only [lo_];omega)];rfl
    rw [dz_ c1,if_neg c1,List.append_nil];rfl
  show Bv_ t num c _ _=_
  unfold Bv_
  rw [dz_ (by omega),List.take_length,wf_ ht hn,hr];rfl
theorem vt_ {t : Fst} (ht : FstOk t) {on bk : N_2} (h1 : Grp Arc.frm Arc.to t.states.toNat on t.arcs) (h2 : Grp Arc.to Arc.frm t.states.toNat bk t.arcs) {l0 : N_1} (hl0 : l0.length = t.states.toNat) (hm : ∀ i, i < t.states.toNat → nth l0 i 0 = -1) :
    ∃num,Em_ (oq_ (fun (q:N_1×Nat) (x:Int)=>Cm_ q.1 q.2 x)) (0,(l0,0)) (⟨t.states,t.starts,t.ends,t.arcs⟩:Fst) on bk=some (0,(num,f3_ (hy_ t) t.states.toNat))∧xf_ (hy_ t) t.states.toNat num:=by
  have h0:=ht.st0
  have hs1:=ht.st1
  obtain ⟨ah,a1,a2,a3⟩:=t4_ (tips:=t.starts) (by omega) h1.len (wi_ h1 fun a ha=>(ht.arcs a ha).2.1) (fun x hx=>by have:=(ht.starts x hx).1;omega)
  obtain ⟨be,b1,b2,b3⟩:=t4_ (tips:=t.ends) (by omega) h2.len (wi_ h2 fun a ha=>(ht.arcs a ha).1) (fun x hx=>by have:=(ht.ends x hx).1;omega)
  rw [zm_ ht h1 fun a ha=>(ht.arcs a ha).1]at a3
  rw [zm_ ht h2 fun a ha=>(ht.arcs a ha).2.1]at b3
  have hp: ∀v,hy_ t v=(nth ah v false && nth be v false):=fun v=>by
    rw [Bool.eq_iff_iff,Bool.and_eq_true,a3 v,b3 v];exact t5_
  unfold Em_
  rw [e6_ a1,e6_ b1]
  obtain ⟨r,e,f⟩:=ej_ (step:=fun q:Nat×(Nat×N_1×Nat)=>Ao_ ah be (oq_ (fun (q:N_1×Nat) (x:Int)=>Cm_ q.1 q.2 x)) q.1 q.2) (fun (s:Nat×N_1×Nat) k=>(k,s)) t.states.toNat
    (fun k s=>s.1=0∧s.2.2=f3_ (hy_ t) k∧s.2.1.length=t.states.toNat∧ ∀i,i<t.states.toNat→nth s.2.1 i 0=if i<k then i3_ (hy_ t) i else -1)
    (fun r=>r.1=0∧r.2.2=f3_ (hy_ t) t.states.toNat∧xf_ (hy_ t) t.states.toNat r.2.1)
    (fun k s hk ⟨c1,c2,c3,c4⟩=>by
      obtain ⟨j,l,c⟩:=s
      obtain rfl:j=0:=c1
      obtain rfl:c=f3_ (hy_ t) k:=c2
      dsimp only at c3 c4
      refine .inl ?_
      show ∃s':Nat×N_1×Nat,Ao_ ah be _ k (0,l,f3_ (hy_ t) k)=_∧_
      unfold Ao_ Cl_
      rw [dy_ (by omega)]
      have hk':=hp k
      cases ha:nth ah k false with
      |false=>
        rw [ha,Bool.false_and]at hk'
        refine ⟨(0,l,f3_ (hy_ t) k),rfl,rfl,by simp only [f3_,hk'];rfl,c3,fun i hi=> ?_⟩
        dsimp only
        rw [c4 i hi]
        by_cases e1:i<k
        · rw [if_pos e1,if_pos (by omega)]
        rw [if_neg e1]
        by_cases e2:i<k+1
        · obtain rfl:i=k:=by omega
          rw [if_pos e2];unfold i3_;simp [hk']
        rw [if_neg e2]
      |true=>
        rw [iteO_true,dx_ (by omega)]
        cases hb:nth be k false with
        |false=>
          rw [ha,hb,Bool.true_and]at hk'
          refine ⟨(0,l,f3_ (hy_ t) k),rfl,rfl,by simp only [f3_,hk'];rfl,c3,fun i hi=> ?_⟩
          dsimp only
          rw [c4 i hi]
          by_cases e1:i<k
          · rw [if_pos e1,if_pos (by omega)]
          rw [if_neg e1]
          by_cases e2:i<k+1
          · obtain rfl:i=k:=by omega
            rw [if_pos e2];unfold i3_;simp [hk']
          rw [if_neg e2]
        |true=>
          rw [ha,hb,Bool.true_and]at hk'
          have hy:oq_ (fun (q:N_1×Nat) (x:Int)=>Cm_ q.1 q.2 x) (0,l,f3_ (hy_ t) k) ((k:Nat):Int)=some ((0,l.set k ((f3_ (hy_ t) k:Nat):Int),f3_ (hy_ t) k+1),true):=by
            unfold oq_
            rw [if_pos rfl]
            show (Cm_ l (f3_ (hy_ t) k) ((k:Nat):Int)).bind _=_
            unfold Cm_
            have hself:=gn_ (hy_ t) k
            rw [dx_ ⟨by omega,by omega⟩,dx_ (by omega)];rfl
          rw [iteO_true,e6_ hy]
          refine ⟨(0,l.set k ((f3_ (hy_ t) k:Nat):Int),f3_ (hy_ t) k+1),rfl,rfl,by simp only [f3_,hk',if_true],by rw [ls_];exact c3,fun i hi=> ?_⟩
          dsimp only
          rw [eb_]
          by_cases e1:k=i
          · subst e1
            rw [if_pos ⟨rfl,by omega⟩,if_pos (by omega),k2_ (by simpa using hk')];simp
          rw [if_neg (fun h=>e1 h.1),c4 i hi]
          by_cases e2:i<k
          · rw [if_pos e2,if_pos (by omega)]
          rw [if_neg e2,if_neg (by omega)])
    (fun s ⟨c1,c2,c3,c4⟩=>⟨s,by
      show Ao_ ah be _ _ s=_
      unfold Ao_
      rw [dz_ (by omega)];rfl,c1,c2,c3,fun v h1 h2=>by
        rw [c4 _ (by omega),if_pos (by omega),show ((v.toNat:Nat):Int)=v by omega]⟩)
    (s0:=(0,l0,0)) ⟨rfl,rfl,hl0,fun i hi=>by rw [if_neg (by omega)];exact hm i hi⟩
  obtain ⟨j,num,c⟩:=r
  obtain ⟨f1,f2,f3⟩:=f
  dsimp only at f1 f2 f3
  subst f1 f2
  exact ⟨num,e,f3⟩
def jy_(t:Fst):Fst:=srt (uj_ (hy_ t) t)
theorem ok_rng{t:Fst}(ht:FstOk t):Rng t:=⟨fun x hx=>(ht.starts x hx).1,fun x hx=>(ht.ends x hx).1,fun x hx=>⟨(ht.arcs x hx).1,(ht.arcs x hx).2.1⟩⟩
theorem xl_{t:Fst}(ht:FstOk t):FstOk (uj_ (hy_ t) t):=by
  have hr:=zc_ (t:=t) (r:=uj_ (hy_ t) t) (fun _=>Iff.rfl) (fun _=>Iff.rfl) (fun _=>Iff.rfl) rfl (ok_rng ht)
  have h1:=ht.st1
  have hc:=gn_ (hy_ t) t.states.toNat
  have l1:=ke_ (hy_ t) t.starts
  have l2:=ke_ (hy_ t) t.ends
  have l3:=q3_ (hy_ t) t.arcs
  refine ⟨by show (0:Int)≤((f3_ (hy_ t) t.states.toNat:Nat):Int);omega,by have:=ht.st0;show ((f3_ (hy_ t) t.states.toNat:Nat):Int)≤1024;omega,Nat.le_trans l3 ht.arcsN,Nat.le_trans l1 ht.startsN,Nat.le_trans l2 ht.endsN,fun y hy=>⟨hr.starts y hy,?_⟩,fun y hy=>⟨hr.ends y hy,?_⟩,fun y hy=>⟨(hr.arcs y hy).1,(hr.arcs y hy).2,?_⟩⟩
  · obtain ⟨x,hx,_,rfl⟩:=kp_.1 hy;exact (ht.starts x hx).2
  · obtain ⟨x,hx,_,rfl⟩:=kp_.1 hy;exact (ht.ends x hx).2
  obtain ⟨x,hx,_,_,rfl⟩:=ro_.1 hy;exact (ht.arcs x hx).2.2
theorem trim_eq (t : Fst) : Ga_ t = some (if qr_ t = true then (jy_ t, 0) else (⟨0, [], [], []⟩, 1)) := by
  unfold Ga_
  rw [G3_,bnd,Option.bind_some,wu_]
  by_cases h:qr_ t=true
  · have ht:=(k0_ t).1 h
    have h0:=ht.st0
    have h1:=ht.st1
    rw [h,Bool.not_true,iteO_false,dx_ ⟨h0,by omega⟩,if_pos rfl]
    obtain ⟨r,e,rfl⟩:=ej_ (step:=fun q:N_1×Nat=>B2_ t q.1 q.2) (fun (l:N_1) k=>(l,k)) t.states.toNat
      (fun k l=>l.length=t.states.toNat∧ ∀i,i<k→nth l i 0= -1) (fun r=>r=(jy_ t,0))
      (fun k l hk ⟨c1,c2⟩=> .inl ⟨l.set k (-1),by
        show B2_ t l k=_
        unfold B2_
        rw [lr_,dy_ (by omega),dx_ (by omega)];rfl,by rw [ls_];exact c1,fun i hi=>by
          rw [eb_]
          by_cases e1:k=i
          · rw [if_pos ⟨e1,by omega⟩]
          rw [if_neg (fun h=>e1 h.1)];exact c2 i (by omega)⟩)
      (fun l ⟨c1,c2⟩=>⟨(jy_ t,0),by
        obtain ⟨on,bk,u1,u2,u3⟩:=xi_ ht
        obtain ⟨num,v1,v2⟩:=vt_ ht u2 u3 c1 c2
        show B2_ t l _=_
        unfold B2_
        rw [lr_,dz_ (by omega),e6_ u1]
        dsimp only
        rw [e6_ v1]
        unfold Gx_
        show fin (ed_ _ _)=_
        rw [sf_ ht v2,p1_]
        show fin (bnd (some (if qr_ (uj_ (hy_ t) t)=true then (srt (uj_ (hy_ t) t),0) else _)) _)=_
        rw [if_pos ((k0_ _).2 (xl_ ht))];rfl,rfl⟩)
      (s0:=List.replicate t.states.toNat 0) ⟨lr_ ..,fun i hi=>by omega⟩
    exact e
  simp only [Bool.not_eq_true]at h
  rw [h];rfl
theorem ys_{t:Fst}(ht:FstOk t):FstOk (jy_ t):=srt_ok (xl_ ht)
end Go.Proofs.YtchebnpdnfhenaaGreatDoor
end
