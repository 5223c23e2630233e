/- Parts of a proof, one behind the other: what a machine reaches, functions decompiled, plain lemmas. Conditions stand with each lemma. -/
import Derived.Test.YtnpbfjdpglfdkaaGreatDoorBdb19d5a1f3
import Derived.Test.YtnpbfjdpglfdkaaGreatDoorBfd8fec568e
import Derived.Test.YtnpbfjdpglfdkaaGreatDoorBc95ef941db
import Derived.Test.YtnpbfjdpglfdkaaGreatDoorBe6610c1357
import Derived.KernelRfl
import Derived.Shelf.SlSortCmp.NoneTotal
import Derived.Shelf.Sort.Plain
import Derived.Shelf.SlLaysZI
import Derived.Test.YtnpbfjdpglfdkaaGreatDoorChecked
import Derived.CallsIn
import Derived.RunT
import Derived.Shelf.SlIterI.Sorted
import Derived.Shelf.SlIterI.Nil
import Derived.WideReads

set_option linter.unusedVariables false
set_option linter.unusedSimpArgs false
set_option linter.unusedSectionVars false
set_option maxRecDepth 100000
set_option maxHeartbeats 8000000
variable {σ:Go.E.Store}{a0_0 a0_1 a0_2 a0_3 a0_5 a1_0 a1_1 a1_2:Option Go.Addr}{Eb0 b0_0 c0_0 c0_1 c0_2 c0_4 c0_6 c1_0 c1_1 c1_2:Nat}

noncomputable section
namespace Go.Proofs.YtnpbfjdpglfdkaaGreatDoor
open Go Go.E
structure DR (d:Dfa) (w:Nat):Prop where
  cnt:cntF d.cls=some w
  cl:d.cls.length=256
  n1:1≤d.next.length
  n2:d.next.length≤1024
  fin:d.fin.length=d.next.length
  row: ∀s,s<d.next.length→(nth d.next s ([]:List Int)).length=w∧ ∀c,c<w→0≤nth (nth d.next s ([]:List Int)) c (0:Int)∧nth (nth d.next s ([]:List Int)) c (0:Int)<((d.next.length:Nat):Int)
theorem DR.of{d:Dfa}(h:rightD d=true): ∃w,DR d w:=by
  obtain ⟨w,h1,h2,h3,h4,h5,h6⟩:=right_parts h
  exact ⟨w,h1,h2,h3,h4,h5,h6⟩
theorem DR.w256{d:Dfa}{w:Nat}(h:DR d w):w≤256:=by
  have:=cntF_le d.cls 0 w h.cnt
  have:=h.cl;omega
def nx(d:Dfa)(s:Int)(c:Nat):Int:=nth (nth d.next s.toNat ([]:List Int)) c (0:Int)
theorem DR.nx_ok{d:Dfa}{w:Nat}(h:DR d w){s:Int}(hs:okS d s){c:Nat}(hc:c<w):okS d (nx d s c):=by
  obtain ⟨h0,h1⟩:=hs
  exact (h.row s.toNat (by omega)).2 c hc
theorem DR.len{d:Dfa}{w:Nat}(h:DR d w){s:Int}(hs:okS d s):(nth d.next s.toNat ([]:List Int)).length=w:=by
  obtain ⟨h0,h1⟩:=hs
  exact (h.row s.toNat (by omega)).1
theorem nthP{R R':List Int}(h:R <+: R'){s:Nat}(hs:s<R.length):nth R' s (0:Int)=nth R s (0:Int):=by
  obtain ⟨t,rfl⟩:=h
  exact nth_app_l _ _ _ _ hs
theorem nd_len{d:Dfa}{l:List Int}(h:l.Nodup)(hs: ∀s∈l,okS d s):l.length≤d.next.length:=by
  have:=len_of_sub (m:=(List.range d.next.length).map fun i:Nat=>((i:Nat):Int)) h fun x hx=>by
    obtain ⟨h0,h1⟩:=hs x hx
    exact List.mem_map.2 ⟨x.toNat,List.mem_range.2 (by omega),by omega⟩
  rwa [List.length_map,List.length_range]at this
structure RchB (d:Dfa) (seen:List Bool) (l:List Int):Prop where
  len:seen.length=d.next.length
  nd:l.Nodup
  ok: ∀s∈l,okS d s
  mem: ∀s,okS d s→(nth seen s.toNat false=true↔s∈l)
structure Reached (d:Dfa) (w:Nat) (l:List Int):Prop where
  nd:l.Nodup
  ok: ∀s∈l,okS d s
  zero:(0:Int)∈l
  cl: ∀s∈l, ∀c,c<w→nx d s c∈l
theorem RchB.more{d:Dfa}{seen:List Bool}{l:List Int}(h:RchB d seen l){s:Int}(hs:okS d s)(hn:nth seen s.toNat false=false):RchB d (seen.set s.toNat true) (l++[s]):=by
  obtain ⟨h0,h1⟩:=hs
  have hl:=h.len
  have hnm:s∉l:=fun hm=>by rw [(h.mem s ⟨h0,h1⟩).2 hm]at hn;cases hn
  refine ⟨by rw [List.length_set];exact hl,?_,fun x hx=> ?_,fun x hx=> ?_⟩
  · rw [List.nodup_append]
    exact ⟨h.nd,by simp,fun a ha b hb=>by rw [List.mem_singleton.1 hb];intro e;subst e;exact hnm ha⟩
  · rcases List.mem_append.1 hx with hx|hx
    · exact h.ok x hx
    rw [List.mem_singleton.1 hx];exact ⟨h0,h1⟩
  rw [nth_set,List.mem_append,List.mem_singleton]
  obtain ⟨h2,h3⟩:=hx
  by_cases e:x=s
  · rw [if_pos ⟨by rw [e],by omega⟩];exact ⟨fun _=> .inr e,fun _=>rfl⟩
  rw [if_neg (fun q=>e (by omega)),h.mem x ⟨h2,h3⟩]
  exact ⟨.inl,fun k=>k.elim id fun k=>absurd k e⟩
theorem rch_b2{d:Dfa}{w:Nat}(hd:DR d w){l0:List Int}{k:Nat}(hk:k<l0.length){seen:List Bool}(h:RchB d seen l0):
    ∃r,iter (fun q:(List Bool)×(List Int)×Nat=>Ag_ d l0 k q.1 q.2.1 q.2.2) (seen,l0,0)=some r∧ ∃seen' l',r= .inl (seen',l',k+1)∧RchB d seen' l'∧l0 <+: l'∧ ∀c,c<w→nx d (nth l0 k (0:Int)) c∈l':=by
  have hs:=h.ok _ (nth_mem' hk (0:Int))
  have hlen:=hd.len hs
  have hn2:=hd.n2
  refine iter_up (step:=fun q:(List Bool)×(List Int)×Nat=>Ag_ d l0 k q.1 q.2.1 q.2.2) (fun (s:List Bool×List Int) c=>(s.1,s.2,c)) w (fun c s=>RchB d s.1 s.2∧l0 <+: s.2∧ ∀i,i<c→nx d (nth l0 k (0:Int)) i∈s.2) _ (fun c s hc hI=> ?_) (fun s hI=> ?_) (s0:=(seen,l0)) ⟨h,List.prefix_refl _,fun i hi=>by omega⟩
  · obtain ⟨se,l⟩:=s
    obtain ⟨hB,hP,hM⟩:=hI
    have hx:=hd.nx_ok hs hc
    have hx':0≤nth (nth d.next ((nth l0 k (0:Int)).toNat) ([]:List Int)) c (0:Int)∧nth (nth d.next ((nth l0 k (0:Int)).toNat) ([]:List Int)) c (0:Int)<((d.next.length:Nat):Int):=hx
    have hsl:se.length=d.next.length:=hB.len
    have hll:l.length≤d.next.length:=nd_len hB.nd hB.ok
    show (∃s',Ag_ d l0 k se l c=_∧_)∨_
    unfold Ag_ Ca_
    rw [hlen,iteO_dt (by omega),grd_mk (by omega)]
    cases hh:nth se ((nth (nth d.next ((nth l0 k (0:Int)).toNat) ([]:List Int)) c (0:Int)).toNat) false with
    |true=>
      rw [Bool.not_true,iteO_false]
      refine .inl ⟨(se,l),rfl,hB,hP,fun i hi=> ?_⟩
      by_cases e:i=c
      · subst e;exact (hB.mem _ hx).1 hh
      exact hM i (by omega)
    |false=>
      rw [Bool.not_false,iteO_true,grd_mk (by omega),grd_mk (by rw [List.length_singleton];omega)]
      refine .inl ⟨(_,_),rfl,hB.more hx hh,hP.trans (List.prefix_append _ _),fun i hi=> ?_⟩
      by_cases e:i=c
      · subst e;exact List.mem_append_right _ (List.mem_singleton.2 rfl)
      exact List.mem_append_left _ (hM i (by omega))
  obtain ⟨se,l⟩:=s
  obtain ⟨hB,hP,hM⟩:=hI
  refine ⟨.inl (se,l,k+1),?_,se,l,rfl,hB,hP,hM⟩
  show Ag_ d l0 k se l w=_
  unfold Ag_
  rw [hlen,iteO_df (by omega)];rfl
theorem reached_go{d:Dfa}{w:Nat}(hd:DR d w): ∃l,C9_ d=some l∧Reached d w l:=by
  have h1:=hd.n1
  have h2:=hd.n2
  unfold C9_
  rw [grd_mk (by omega),grd_mk (by rw [List.length_replicate];omega)]
  refine iter_run (step:=fun q:(List Bool)×(List Int)×Nat=>Ax_ d q.1 q.2.1 q.2.2) (fun s=>RchB d s.1 s.2.1∧s.2.2≤s.2.1.length∧(0:Int)∈s.2.1∧ ∀j,j<s.2.2→ ∀c,c<w→nx d (nth s.2.1 j (0:Int)) c∈s.2.1) (Reached d w) (fun s=>5000 - s.2.2) (fun s hI=> ?_)
    ((List.replicate d.next.length false).set 0 true,[0],0) ⟨⟨by rw [List.length_set,List.length_replicate],by simp,fun s hs=>by rw [List.mem_singleton.1 hs];exact ⟨Int.le_refl _,by omega⟩,fun s hs=> ?_⟩,Nat.zero_le _,List.mem_singleton.2 rfl,fun j hj=>by cases hj⟩
  · obtain ⟨se,l,k⟩:=s
    obtain ⟨hB,hk,hz,hM⟩:=hI
    dsimp only at hB hk hz hM
    have hll:l.length≤d.next.length:=nd_len hB.nd hB.ok
    show (∃s',Ax_ d se l k=_∧_)∨ ∃r,Ax_ d se l k=_∧_
    unfold Ax_
    by_cases hkl:k<l.length
    · have hs:=hB.ok _ (nth_mem' hkl (0:Int))
      obtain ⟨r,e,se',l',rfl,hB',hP,hN⟩:=rch_b2 hd hkl hB
      rw [iteO_dt (by omega),grd_mk (by exact hs),e]
      have hle:=hP.length_le
      refine .inl ⟨_,rfl,⟨hB',by show k+1≤l'.length;omega,hP.subset hz,fun j hj c hc=> ?_⟩,by show 5000 - (k+1)<5000 - k;omega⟩
      show nx d (nth l' j (0:Int)) c∈l'
      have hj':j<k+1:=hj
      rw [nthP hP (by omega)]
      by_cases e:j=k
      · subst e;exact hN c hc
      exact hP.subset (hM j (by omega) c hc)
    rw [iteO_df (by omega)]
    refine .inr ⟨l,rfl,hB.nd,hB.ok,hz,fun s hs c hc=> ?_⟩
    obtain ⟨j,hj,rfl⟩:=mem_nth (d:=(0:Int)) hs
    exact hM j (by omega) c hc
  rw [nth_set,List.mem_singleton]
  obtain ⟨h0,h3⟩:=hs
  by_cases e:s=0
  · subst e
    rw [if_pos ⟨rfl,by rw [List.length_replicate];omega⟩]
    exact ⟨fun _=>rfl,fun _=>rfl⟩
  rw [if_neg (fun q=>e (by omega)),nth_rep]
  exact ⟨fun h=>(by cases h),fun h=>absurd h e⟩
def key2(n:Int):List UInt8:=[toU8 (ishr .i64 n 8),toU8 n]
def keyS(l:List Int):List UInt8:=l.flatMap key2
def Sml(l:List Int):Prop:= ∀x∈l,0≤x∧x<65536
theorem key2_inj{x y:Int}(hx:0≤x∧x<65536)(hy:0≤y∧y<65536)(h:key2 x=key2 y):x=y:=by
  unfold key2 at h
  rw [List.cons.injEq,List.cons.injEq]at h
  obtain ⟨h1,h2, -⟩:=h
  have e1:=congrArg (fun b:UInt8=>((b.toNat:Nat):Int)) h1
  have e2:=congrArg (fun b:UInt8=>((b.toNat:Nat):Int)) h2
  rw [toU8_val,toU8_val,wrap_u8,wrap_u8]at e1 e2
  have s1: ∀z:Int,ishr .i64 z 8=z / 256:=fun z=>by
    unfold ishr
    rw [show min 8 (IntKind.bits .i64)=8 from rfl,show ((2:Int) ^ 8)=256 from rfl,Int.fdiv_eq_ediv_of_nonneg _ (by decide)]
  rw [s1,s1]at e1
  omega
theorem keyS_inj: ∀{l m:List Int},Sml l→Sml m→keyS l=keyS m→l=m
  |[],[],_,_,_=>rfl
  |[],y::m,_,_,h=>by cases h
  |x::l,[],_,_,h=>by cases h
  |x::l,y::m,hl,hm,h=>by
    have h':key2 x++keyS l=key2 y++keyS m:=h
    obtain ⟨h1,h2⟩:=List.append_inj h' rfl
    rw [key2_inj (hl x (List.mem_cons_self ..)) (hm y (List.mem_cons_self ..)) h1,keyS_inj (fun z hz=>hl z (List.mem_cons_of_mem _ hz)) (fun z hz=>hm z (List.mem_cons_of_mem _ hz)) h2]
theorem keyS_len: ∀l:List Int,(keyS l).length=l.length * 2
  |[]=>rfl
  |x::l=>by
    have:=keyS_len l
    show (key2 x++keyS l).length=_
    rw [List.length_append,this]
    show 2+l.length * 2=(l.length+1) * 2
    omega
theorem mkey_eq{l:List Int}(h:l.length≤1000000):D2_ l=some (keyS l):=by
  unfold D2_
  have hw0:IntKind.i64.wrap (2 * ((l.length:Nat):Int))=((2 * l.length:Nat):Int):=by rw [wrap64_of (by omega) (by omega)];omega
  rw [hw0,grd_mk (by omega)]
  refine iter_fold (step:=fun q:(List UInt8)×Nat=>Bn_ l q.1 q.2) l (0:Int) (fun k=>keyS (l.take k)) ?_ ?_
  · intro k hk
    have hlen:(keyS (l.take k)).length≤2 * 1000000:=by rw [keyS_len,List.length_take];omega
    show Bn_ l (keyS (l.take k)) k=_
    unfold Bn_
    rw [iteO_dt (by omega),grd_mk (by simp only [List.length_cons,List.length_nil];omega),take_snoc l hk (0:Int)]
    unfold keyS
    rw [List.flatMap_append,List.flatMap_singleton];rfl
  show Bn_ l (keyS (l.take l.length)) l.length=_
  unfold Bn_
  rw [iteO_df (by omega),List.take_length];rfl
def gv(g:List Int)(s:Int):Int:=nth g s.toNat (0:Int)
def rowG(d:Dfa)(w:Nat)(g:List Int)(s:Int):List Int:=gv g s::(List.range w).map fun c=>gv g (nx d s c)
structure KeyI (d:Dfa) (w:Nat) (g:List Int) (l:List Int) (k:Nat) (m:FM (List UInt8) Int) (x:List Int):Prop where
  len:x.length=d.next.length
  n:m.n≤k
  at_: ∀s∈l.take k,m.f (keyS (rowG d w g s))=some (gv x s)
  val: ∀y v,m.f y=some v→(0≤v∧v<((m.n:Nat):Int))∧ ∃s∈l.take k,y=keyS (rowG d w g s)
  inj: ∀y z v,m.f y=some v→m.f z=some v→y=z
  hit: ∀v:Nat,v<m.n→ ∃y,m.f y=some ((v:Nat):Int)
theorem gv_set{g:List Int}{s t:Int}(hs:0≤s∧s<(g.length:Int))(ht:0≤t)(v:Int):gv (g.set s.toNat v) t=if t=s then v else gv g t:=by
  unfold gv
  rw [nth_set]
  by_cases e:t=s
  · rw [if_pos e,if_pos ⟨by rw [e],by omega⟩]
  rw [if_neg e,if_neg (fun q=>e (by omega))]
section
variable {d:Dfa} {w:Nat} (hd:DR d w) {l:List Int} (hR:Reached d w l) {g:List Int} (hg:g.length=d.next.length)
include hd hR hg
theorem grp_b4 {k : Nat} (hk : k < l.length) {m : FM (List UInt8) Int} {x : List Int} (h : KeyI d w g l k m x) :
    ∃m' x',iter (fun q:(List Int)×Nat=>Aj_ d l k g m x q.1 q.2) ([gv g (nth l k (0:Int))],0)=some (.inl (m',x',k+1))∧KeyI d w g l (k+1) m' x':=by
  have hs:=hR.ok _ (nth_mem' hk (0:Int))
  have hlen:=hd.len hs
  have hw:=hd.w256
  have hxl:=h.len
  obtain ⟨s,hse⟩: ∃s,nth l k (0:Int)=s:=⟨_,rfl⟩
  have hfresh:s∉l.take k:=fun hm=>by
    have hnd:=hR.nd
    rw [←List.take_append_drop k l]at hnd
    have h1:=(List.nodup_append.1 hnd).2.2 s hm s (by
      rw [←hse]
      have:(l.drop k)=nth l k (0:Int)::l.drop (k+1):=by
        have:=take_split l hk (0:Int)
        have h2:l.drop k=(l.take k++nth l k (0:Int)::l.drop (k+1)).drop k:=by rw [←this]
        rw [h2,List.drop_left' (by rw [List.length_take];omega)]
      rw [this];exact List.mem_cons_self ..)
    exact h1 rfl
  have key: ∃m' x',(bnd (D2_ (rowG d w g s)) (fun v70=>iteO (!(m.has v70)) (Bg_ l k x (m.put v70 ((m.n:Nat):Int)) ((m.n:Nat):Int)) (Bg_ l k x m (m.get v70 0))))=some (.inl (m',x',k+1))∧KeyI d w g l (k+1) m' x':=by
    rw [mkey_eq (by unfold rowG;rw [List.length_cons,List.length_map,List.length_range];omega),bnd_mk]
    unfold Bg_
    rw [hse]
    have hs':okS d s:=by rw [←hse];exact hs
    obtain ⟨h0,h1⟩:=hs'
    have hne: ∀t∈l.take k,t≠s:=fun t ht e=>hfresh (e▸ht)
    have hok: ∀t∈l.take k,0≤t:=fun t ht=>(hR.ok t (List.mem_of_mem_take ht)).1
    cases hh:m.has (keyS (rowG d w g s))with
    |true=>
      rw [Bool.not_true,iteO_false,grd_mk ⟨h0,by omega⟩]
      obtain ⟨v,hv⟩: ∃v,m.f (keyS (rowG d w g s))=some v:=by
        unfold FM.has at hh
        exact Option.isSome_iff_exists.1 hh
      have hget:m.get (keyS (rowG d w g s)) 0=v:=by unfold FM.get;rw [hv];rfl
      rw [hget]
      have hn:=h.n
      refine ⟨m,_,rfl,by rw [List.length_set];exact hxl,by omega,fun t ht=> ?_,fun y v hy=> ?_,h.inj,h.hit⟩
      · rw [take_snoc l hk (0:Int),hse]at ht
        rcases List.mem_append.1 ht with ht|ht
        · rw [gv_set ⟨h0,by omega⟩ (hok t ht),if_neg (hne t ht)];exact h.at_ t ht
        rw [List.mem_singleton.1 ht,gv_set ⟨h0,by omega⟩ h0,if_pos rfl];exact hv
      obtain ⟨h2,t,ht,h3⟩:=h.val y v hy
      exact ⟨h2,t,by rw [take_snoc l hk (0:Int)];exact List.mem_append_left _ ht,h3⟩
    |false=>
      rw [Bool.not_false,iteO_true,grd_mk ⟨h0,by omega⟩]
      have hnone:m.f (keyS (rowG d w g s))=none:=by
        unfold FM.has at hh
        cases e:m.f (keyS (rowG d w g s))with
        |none=>rfl
        |some v=>rw [e]at hh;cases hh
      have hput: ∀y,(m.put (keyS (rowG d w g s)) ((m.n:Nat):Int)).f y=if y=keyS (rowG d w g s) then some ((m.n:Nat):Int) else m.f y:=fun y=>rfl
      have hpn:(m.put (keyS (rowG d w g s)) ((m.n:Nat):Int)).n=m.n+1:=by
        show (if (m.f (keyS (rowG d w g s))).isSome then m.n else m.n+1)=_
        rw [hnone];rfl
      have hn:=h.n
      refine ⟨_,_,rfl,by rw [List.length_set];exact hxl,by omega,fun t ht=> ?_,fun y v hy=> ?_,fun y z v hy hz=> ?_,fun v hv=> ?_⟩
      · rw [take_snoc l hk (0:Int),hse]at ht
        rcases List.mem_append.1 ht with ht|ht
        · have h2:=h.at_ t ht
          rw [gv_set ⟨h0,by omega⟩ (hok t ht),if_neg (hne t ht),hput,if_neg (fun e=>by rw [e,hnone]at h2;cases h2)];exact h2
        rw [List.mem_singleton.1 ht,gv_set ⟨h0,by omega⟩ h0,if_pos rfl,hput,if_pos rfl]
      · rw [hput]at hy
        rw [hpn]
        by_cases e:y=keyS (rowG d w g s)
        · rw [if_pos e]at hy
          have:=Option.some.inj hy
          exact ⟨by omega,s,by rw [take_snoc l hk (0:Int),hse];exact List.mem_append_right _ (List.mem_singleton.2 rfl),e⟩
        rw [if_neg e]at hy
        obtain ⟨h2,t,ht,h3⟩:=h.val y v hy
        exact ⟨by omega,t,by rw [take_snoc l hk (0:Int)];exact List.mem_append_left _ ht,h3⟩
      · rw [hput]at hy hz
        by_cases e:y=keyS (rowG d w g s)
        · by_cases e2:z=keyS (rowG d w g s)
          · rw [e,e2]
          rw [if_pos e]at hy
          rw [if_neg e2]at hz
          have:=(h.val z v hz).1
          have:=Option.some.inj hy
          omega
        by_cases e2:z=keyS (rowG d w g s)
        · rw [if_neg e]at hy
          rw [if_pos e2]at hz
          have:=(h.val y v hy).1
          have:=Option.some.inj hz
          omega
        rw [if_neg e]at hy
        rw [if_neg e2]at hz
        exact h.inj y z v hy hz
      rw [hpn]at hv
      by_cases e:v=m.n
      · exact ⟨_,by rw [hput,if_pos rfl,e]⟩
      obtain ⟨y,hy⟩:=h.hit v (by omega)
      refine ⟨y,?_⟩
      rw [hput,if_neg (fun e=>by rw [e,hnone]at hy;cases hy)];exact hy
  obtain ⟨m',x',e,hK⟩:=key
  refine ⟨m',x',?_,hK⟩
  obtain ⟨r,e2,rfl⟩:=iter_up (step:=fun q:(List Int)×Nat=>Aj_ d l k g m x q.1 q.2) (fun (r:List Int) c=>(r,c)) w (fun c r=>r=gv g s::(List.range c).map fun c=>gv g (nx d s c)) (fun r=>r= .inl (m',x',k+1))
    (fun c r hc hI=>by
      subst hI
      have hx:okS d (nx d s c):=by rw [←hse];exact hd.nx_ok hs hc
      obtain ⟨hx0,hx1⟩:=hx
      have hx0':0≤nth (nth d.next s.toNat ([]:List Int)) c (0:Int):=hx0
      have hx1':nth (nth d.next s.toNat ([]:List Int)) c (0:Int)<((d.next.length:Nat):Int):=hx1
      refine .inl ⟨_,?_,rfl⟩
      show Aj_ d l k g m x _ c=_
      unfold Aj_
      rw [hlen,iteO_dt (by omega),hse,grd_mk (by omega),grd_mk (by simp only [List.length_cons,List.length_map,List.length_range,List.length_nil];omega),List.range_succ,List.map_append,List.map_singleton];rfl)
    (fun r hI=>by
      subst hI
      refine ⟨_,?_,rfl⟩
      show Aj_ d l k g m x _ w=_
      unfold Aj_
      rw [hlen,iteO_df (by omega)]
      exact congrArg fin e)
    (s0:=[gv g s]) (by simp)
  rw [hse];exact e2
structure Round (d:Dfa) (w:Nat) (l g:List Int) (n:Nat) (x:List Int):Prop where
  len:x.length=d.next.length
  n1:n≤l.length
  rg: ∀s∈l,0≤gv x s∧gv x s<((n:Nat):Int)
  hit: ∀v:Nat,v<n→ ∃s∈l,gv x s=((v:Nat):Int)
  same: ∀s∈l, ∀t∈l,gv x s=gv x t→gv g s=gv g t∧ ∀c,c<w→gv g (nx d s c)=gv g (nx d t c)
omit hd hg in
theorem round_of(hgs: ∀s∈l,0≤gv g s∧gv g s<65536){m:FM (List UInt8) Int}{x:List Int}(h:KeyI d w g l l.length m x):Round d w l g m.n x:=by
  have hat:=h.at_
  have hval:=h.val
  rw [List.take_length]at hat hval
  have sml: ∀s∈l,Sml (rowG d w g s):=fun s hs y hy=>by
    rcases List.mem_cons.1 hy with rfl|hy
    · exact hgs s hs
    obtain ⟨c,hc,rfl⟩:=List.mem_map.1 hy
    exact hgs _ (hR.cl s hs c (List.mem_range.1 hc))
  refine ⟨h.len,h.n,fun s hs=>(hval _ _ (hat s hs)).1,fun v hv=> ?_,fun s hs t ht e=> ?_⟩
  · obtain ⟨y,hy⟩:=h.hit v hv
    obtain ⟨-,s,hs,rfl⟩:=hval _ _ hy
    rw [hat s hs]at hy
    exact ⟨s,hs,Option.some.inj hy⟩
  have e1:=keyS_inj (sml s hs) (sml t ht) (h.inj _ _ _ (hat s hs) (by rw [e];exact hat t ht))
  unfold rowG at e1
  rw [List.cons.injEq]at e1
  refine ⟨e1.1,fun c hc=> ?_⟩
  exact List.map_inj_left.1 e1.2 c (List.mem_range.2 hc)
theorem grp_b2{many:Nat}(hgs: ∀s∈l,0≤gv g s∧gv g s<65536):
    ∃n x,Ai_ d l g many=iteO (decide (((n:Nat):Int)=((many:Nat):Int))) (some (.inr (x,((many:Nat):Int)))) (some (.inl (x,n)))∧Round d w l g n x:=by
  have hn2:=hd.n2
  unfold Ai_
  rw [grd_mk (by omega)]
  obtain ⟨r,e,n,x,rfl,h⟩:=iter_up (step:=fun q:(FM (List UInt8) Int)×(List Int)×Nat=>Au_ l g d many q.1 q.2.1 q.2.2) (fun (s:(FM (List UInt8) Int)×List Int) k=>(s.1,s.2,k)) l.length (fun k s=>KeyI d w g l k s.1 s.2)
    (fun r=> ∃(n:Nat) (x:List Int),r=(if ((n:Nat):Int)=((many:Nat):Int) then .inr (x,((many:Nat):Int)) else .inl (x,n))∧Round d w l g n x)
    (fun k s hk hI=>by
      obtain ⟨m,x⟩:=s
      have hs:=hR.ok _ (nth_mem' hk (0:Int))
      obtain ⟨h0,h1⟩:=hs
      obtain ⟨m',x',e,hK⟩:=grp_b4 hd hR hg hk hI
      refine .inl ⟨(m',x'),?_,hK⟩
      show Au_ l g d many m x k=_
      unfold Au_
      rw [iteO_dt (by omega),grd_mk (by omega),grd_mk (by omega)]
      exact e)
    (fun s hI=>by
      obtain ⟨m,x⟩:=s
      refine ⟨_,?_,m.n,x,rfl,round_of hR hgs hI⟩
      show Au_ l g d many m x l.length=_
      unfold Au_
      rw [iteO_df (by omega)]
      by_cases c:((m.n:Nat):Int)=((many:Nat):Int)
      · rw [iteO_dt c,if_pos c];rfl
      rw [iteO_df c,if_neg c];rfl)
    (s0:=(FM.emp,List.replicate d.next.length 0)) ⟨List.length_replicate,Nat.zero_le _,fun s hs=>(by cases hs),fun y v hy=>(by cases hy),fun y z v hy=>(by cases hy),fun v hv=>by cases hv⟩
  refine ⟨n,x,?_,h⟩
  refine Eq.trans e ?_
  by_cases c:((n:Nat):Int)=((many:Nat):Int)
  · rw [iteO_dt c,if_pos c]
  rw [iteO_df c,if_neg c]
end
theorem pigeon{n:Nat}(f:Nat→Nat)(h2: ∀v,v<n→ ∃i,i<n∧f i=v){i j:Nat}(hi:i<n)(hj:j<n)(e:f i=f j):i=j:=by
  apply Decidable.byContradiction
  intro hne
  have h:=len_of_sub (l:=List.range n) (m:=((List.range n).erase i).map f) List.nodup_range fun v hv=>by
    obtain ⟨k,hk,rfl⟩:=h2 v (List.mem_range.1 hv)
    by_cases ek:k=i
    · subst ek
      exact List.mem_map.2 ⟨j,(List.mem_erase_of_ne (fun q=>hne q.symm)).2 (List.mem_range.2 hj),e.symm⟩
    exact List.mem_map.2 ⟨k,(List.mem_erase_of_ne ek).2 (List.mem_range.2 hk),rfl⟩
  rw [List.length_map,List.length_range,List.length_erase_of_mem (List.mem_range.2 hi),List.length_range]at h
  omega
structure Grps (d:Dfa) (w:Nat) (l g:List Int) (n:Nat):Prop where
  len:g.length=d.next.length
  n1:n≤l.length
  rg: ∀s∈l,0≤gv g s∧gv g s<((n:Nat):Int)
  fin: ∀s∈l, ∀t∈l,gv g s=gv g t→nth d.fin s.toNat false=nth d.fin t.toNat false
  same: ∀s∈l, ∀t∈l,gv g s=gv g t→ ∀c,c<w→gv g (nx d s c)=gv g (nx d t c)
structure GI (d:Dfa) (l g:List Int) (n:Nat):Prop where
  len:g.length=d.next.length
  n1:n≤l.length
  rg: ∀s∈l,0≤gv g s∧gv g s<65536
  fin: ∀s∈l, ∀t∈l,gv g s=gv g t→nth d.fin s.toNat false=nth d.fin t.toNat false
  full:n=0∨(∀s∈l,gv g s<((n:Nat):Int))∧ ∀v:Nat,v<n→ ∃s∈l,gv g s=((v:Nat):Int)
open Classical in
def oldN(l g x:List Int)(i:Nat):Nat:=if h: ∃s,s∈l∧gv x s=((i:Nat):Int) then (gv g (Classical.choose h)).toNat else 0
theorem old_at{d:Dfa}{w:Nat}{l g x:List Int}{n:Nat}(hgs: ∀s∈l,0≤gv g s)(h:Round d w l g n x){s:Int}(hs:s∈l):((oldN l g x (gv x s).toNat:Nat):Int)=gv g s:=by
  have h0:=(h.rg s hs).1
  have hex: ∃t,t∈l∧gv x t=(((gv x s).toNat:Nat):Int):=⟨s,hs,by omega⟩
  unfold oldN
  rw [dif_pos hex]
  obtain ⟨h1,h2⟩:=Classical.choose_spec hex
  have h3:=(h.same _ h1 s hs (by omega)).1
  have h4:=hgs _ h1
  omega
theorem groups_go {d : Dfa} {w : Nat} (hd : DR d w) {l : List Int} (hR : Reached d w l) : ∃ g n, Di_ d l = some (g, ((n : Nat) : Int)) ∧ Grps d w l g n := by
  have hn2:=hd.n2
  have hll:l.length≤d.next.length:=nd_len hR.nd hR.ok
  have hpos:0<l.length:=List.length_pos_of_mem hR.zero
  unfold Di_
  rw [grd_mk (by omega)]
  have outer: ∀g:List Int,GI d l g 0→ ∃r,iter (fun q:(List Int)×Nat=>Ai_ d l q.1 q.2) (g,0)=some r∧ ∃g n,r=(g,((n:Nat):Int))∧Grps d w l g n:=fun g hg=>by
    refine iter_run (step:=fun q:(List Int)×Nat=>Ai_ d l q.1 q.2) (fun s=>GI d l s.1 s.2) (fun r=> ∃g n,r=(g,((n:Nat):Int))∧Grps d w l g n) (fun s=>l.length+1 - s.2) (fun s hI=> ?_) (g,0) hg
    obtain ⟨g,many⟩:=s
    have hlen:g.length=d.next.length:=hI.len
    have hmany:many≤l.length:=hI.n1
    have hrg: ∀s∈l,0≤gv g s∧gv g s<65536:=hI.rg
    have hfin:=hI.fin
    have hfull:=hI.full
    dsimp only at hfin hfull
    obtain ⟨n,x,e,hr⟩:=grp_b2 hd hR hlen (many:=many) hrg
    have hold:=fun s (hs:s∈l)=>old_at (fun s hs=>(hrg s hs).1) hr hs
    have hn0:0<n:=by
      have:=hr.rg 0 hR.zero
      omega
    have hsurj: ∀v,v<many→ ∃i,i<n∧oldN l g x i=v:=fun v hv=>by
      rcases hfull with h|⟨-,h⟩
      · omega
      obtain ⟨s,hs,h1⟩:=h v hv
      have h2:=hold s hs
      have h3:=hr.rg s hs
      exact ⟨(gv x s).toNat,by omega,by omega⟩
    have hge:many≤n:=by
      have h:=len_of_sub (l:=List.range many) (m:=(List.range n).map (oldN l g x)) List.nodup_range fun v hv=>by
        obtain ⟨i,hi,h1⟩:=hsurj v (List.mem_range.1 hv)
        exact List.mem_map.2 ⟨i,List.mem_range.2 hi,h1⟩
      rwa [List.length_map,List.length_range,List.length_range]at h
    show (∃s',Ai_ d l g many=_∧_)∨ ∃r,Ai_ d l g many=_∧_
    rw [e]
    by_cases c:((n:Nat):Int)=((many:Nat):Int)
    · have hnm:n=many:=by omega
      subst hnm
      rw [iteO_dt c]
      refine .inr ⟨_,rfl,x,n,rfl,hr.len,hr.n1,hr.rg,fun s hs t ht e=>hfin s hs t ht (hr.same s hs t ht e).1,fun s hs t ht e c hc=> ?_⟩
      have h1:=(hr.same s hs t ht e).2 c hc
      have ms:=hR.cl s hs c hc
      have mt:=hR.cl t ht c hc
      have h2:=hold _ ms
      have h3:=hold _ mt
      have r1:=hr.rg _ ms
      have r2:=hr.rg _ mt
      have h4:=pigeon (oldN l g x) hsurj (i:=(gv x (nx d s c)).toNat) (j:=(gv x (nx d t c)).toNat) (by omega) (by omega) (by omega)
      omega
    rw [iteO_df c]
    refine .inl ⟨(x,n),rfl,⟨hr.len,hr.n1,fun s hs=> ?_,fun s hs t ht e=>hfin s hs t ht (hr.same s hs t ht e).1,.inr ⟨fun s hs=>(hr.rg s hs).2,hr.hit⟩⟩,?_⟩
    · have h1:=hr.rg s hs
      have h2:=hr.n1
      show 0≤gv x s∧gv x s<65536
      omega
    show l.length+1 - n<l.length+1 - many
    have:=hr.n1
    omega
  obtain ⟨r,e,g,n,rfl,h⟩:=iter_up (step:=fun q:(List Int)×Nat=>Av_ l d q.1 q.2) (fun (g:List Int) k=>(g,k)) l.length (fun k g=>g.length=d.next.length∧(∀s∈l.take k,gv g s=if nth d.fin s.toNat false=true then 1 else 0)∧ ∀s,okS d s→s∉l.take k→gv g s=0)
    (fun r=> ∃g n,r=(g,((n:Nat):Int))∧Grps d w l g n)
    (fun k g hk hI=>by
      obtain ⟨h1,h2,h3⟩:=hI
      have hs:=hR.ok _ (nth_mem' hk (0:Int))
      obtain ⟨s,hse⟩: ∃s,nth l k (0:Int)=s:=⟨_,rfl⟩
      rw [hse]at hs
      have hs':=hs
      obtain ⟨h4,h5⟩:=hs'
      have hf:=hd.fin
      show (∃s',Av_ l d g k=_∧_)∨_
      unfold Av_ Ck_
      rw [iteO_dt (by omega),hse,grd_mk (by omega),take_snoc l hk (0:Int),hse]
      cases hh:nth d.fin s.toNat false with
      |true=>
        rw [iteO_true,grd_mk (by omega)]
        refine .inl ⟨_,rfl,by rw [List.length_set];exact h1,fun t ht=> ?_,fun t ht hn=> ?_⟩
        · have ht0:0≤t:=by
            rcases List.mem_append.1 ht with ht|ht
            · exact (hR.ok t (List.mem_of_mem_take ht)).1
            rw [List.mem_singleton.1 ht];exact h4
          rw [gv_set ⟨h4,by omega⟩ ht0]
          by_cases e:t=s
          · rw [if_pos e,e,hh,if_pos rfl]
          rw [if_neg e]
          rcases List.mem_append.1 ht with ht|ht
          · exact h2 t ht
          exact absurd (List.mem_singleton.1 ht) e
        rw [gv_set ⟨h4,by omega⟩ ht.1,if_neg (fun e=>hn (List.mem_append_right _ (List.mem_singleton.2 e)))]
        exact h3 t ht fun q=>hn (List.mem_append_left _ q)
      |false=>
        rw [iteO_false]
        refine .inl ⟨g,rfl,h1,fun t ht=> ?_,fun t ht hn=>h3 t ht fun q=>hn (List.mem_append_left _ q)⟩
        rcases List.mem_append.1 ht with ht|ht
        · exact h2 t ht
        rw [List.mem_singleton.1 ht,hh,if_neg (by simp)]
        by_cases hm:s∈l.take k
        · have:=h2 s hm
          rw [hh,if_neg (by simp)]at this;exact this
        exact h3 s hs hm)
    (fun g hI=>by
      obtain ⟨h1,h2,h3⟩:=hI
      rw [List.take_length]at h2
      obtain ⟨r,e,h⟩:=outer g ⟨h1,Nat.zero_le _,fun s hs=>by rw [h2 s hs];split<;>omega,fun s hs t ht e=>by
        rw [h2 s hs,h2 t ht]at e
        cases a:nth d.fin s.toNat false<;>cases b:nth d.fin t.toNat false<;>rw [a,b]at e<;>simp at e ⊢,.inl rfl⟩
      refine ⟨r,?_,h⟩
      show Av_ l d g l.length=_
      unfold Av_
      rw [iteO_df (by omega),e];rfl)
    (s0:=List.replicate d.next.length 0) ⟨List.length_replicate,fun s hs=>(by cases hs),fun s hs hn=>by unfold gv;exact nth_rep _ _ _⟩
  exact ⟨g,n,e,h⟩
end Go.Proofs.YtnpbfjdpglfdkaaGreatDoor
end

noncomputable section
namespace Go.Proofs.YtnpbfjdpglfdkaaGreatDoor
open Go Go.E
def colR(R:List (List Int))(c:Nat):List Int:=R.map fun r=>nth r c (0:Int)
structure ColI (R:List (List Int)) (c:Nat) (merged kept:List Int) (m:FM (List UInt8) Int):Prop where
  lenM:merged.length=c
  cnt:cntF merged=some kept.length
  n:m.n=kept.length
  nk:kept.length≤c
  kp: ∀j,j<kept.length→ ∃e:Nat,nth kept j (0:Int)=((e:Nat):Int)∧e<c∧m.f (keyS (colR R e))=some ((j:Nat):Int)
  at_: ∀e,e<c→ ∃j:Nat,j<kept.length∧nth merged e (0:Int)=((j:Nat):Int)∧m.f (keyS (colR R e))=some ((j:Nat):Int)
  val: ∀y v,m.f y=some v→ ∃j:Nat,j<kept.length∧v=((j:Nat):Int)
  inj: ∀y z v,m.f y=some v→m.f z=some v→y=z
theorem nthA{l:List Int}{x:Int}{j:Nat}(h:j<l.length):nth (l++[x]) j (0:Int)=nth l j (0:Int):=nth_app_l _ _ _ _ h
theorem col_step {R : List (List Int)} {w c : Nat} (hc : c < w) (hw : w ≤ 256) {merged kept : List Int} {m : FM (List UInt8) Int} (h : ColI R c merged kept m) :
    ∃merged' kept' m',iteO (!(m.has (keyS (colR R c)))) (grd ((kept.length+[((c:Nat):Int)].length) * 8≤140737488355328) (Aw_ merged c (kept++[((c:Nat):Int)]) (m.put (keyS (colR R c)) ((m.n:Nat):Int)) ((m.n:Nat):Int))) (Aw_ merged c kept m (m.get (keyS (colR R c)) 0))=some (.inl (merged',kept',m',c+1))∧ColI R (c+1) merged' kept' m':=by
  have hnk:=h.nk
  have hM:=h.lenM
  have hn:=h.n
  cases hh:m.has (keyS (colR R c))with
  |true=>
    obtain ⟨v,hv⟩: ∃v,m.f (keyS (colR R c))=some v:=by
      unfold FM.has at hh
      exact Option.isSome_iff_exists.1 hh
    obtain ⟨j,hj,rfl⟩:=h.val _ _ hv
    have hget:m.get (keyS (colR R c)) 0=((j:Nat):Int):=by unfold FM.get;rw [hv];rfl
    rw [Bool.not_true,iteO_false,hget]
    unfold Aw_
    rw [grd_mk (by rw [List.length_singleton];omega)]
    refine ⟨_,_,_,rfl,by rw [List.length_append,List.length_singleton];omega,?_,hn,by omega,fun i hi=> ?_,fun e he=> ?_,h.val,h.inj⟩
    · rw [cntF_snoc,h.cnt]
      unfold cntS
      rw [Option.bind_some,if_neg (by omega),if_neg (by omega)]
    · obtain ⟨e,h1,h2,h3⟩:=h.kp i hi
      exact ⟨e,h1,by omega,h3⟩
    by_cases ec:e=c
    · subst ec
      exact ⟨j,hj,by rw [←hM];exact nth_app_e _ _ _,hv⟩
    obtain ⟨i,h1,h2,h3⟩:=h.at_ e (by omega)
    exact ⟨i,h1,by rw [nthA (by omega)];exact h2,h3⟩
  |false=>
    have hnone:m.f (keyS (colR R c))=none:=by
      unfold FM.has at hh
      cases e:m.f (keyS (colR R c))with
      |none=>rfl
      |some v=>rw [e]at hh;cases hh
    have hput: ∀y,(m.put (keyS (colR R c)) ((m.n:Nat):Int)).f y=if y=keyS (colR R c) then some ((m.n:Nat):Int) else m.f y:=fun y=>rfl
    have hpn:(m.put (keyS (colR R c)) ((m.n:Nat):Int)).n=m.n+1:=by
      show (if (m.f (keyS (colR R c))).isSome then m.n else m.n+1)=_
      rw [hnone];rfl
    have hlen:(kept++[((c:Nat):Int)]).length=kept.length+1:=by rw [List.length_append,List.length_singleton]
    have hold: ∀y v,m.f y=some v→y≠keyS (colR R c):=fun y v hy e=>by rw [e,hnone]at hy;cases hy
    rw [Bool.not_false,iteO_true,grd_mk (by rw [List.length_singleton];omega)]
    unfold Aw_
    rw [grd_mk (by rw [List.length_singleton];omega)]
    refine ⟨_,_,_,rfl,by rw [List.length_append,List.length_singleton];omega,?_,by rw [hpn,hlen,hn],by rw [hlen];omega,fun i hi=> ?_,fun e he=> ?_,fun y v hy=> ?_,fun y z v hy hz=> ?_⟩
    · rw [cntF_snoc,h.cnt,hlen]
      unfold cntS
      rw [Option.bind_some,if_neg (by omega),if_pos (by omega)]
    · rw [hlen]at hi
      by_cases ei:i=kept.length
      · subst ei
        exact ⟨c,nth_app_e _ _ _,by omega,by rw [hput,if_pos rfl,hn]⟩
      obtain ⟨e,h1,h2,h3⟩:=h.kp i (by omega)
      exact ⟨e,by rw [nthA (by omega)];exact h1,by omega,by rw [hput,if_neg (hold _ _ h3)];exact h3⟩
    · by_cases ec:e=c
      · subst ec
        exact ⟨kept.length,by omega,by rw [←hn,←hM];exact nth_app_e _ _ _,by rw [hput,if_pos rfl,hn]⟩
      obtain ⟨i,h1,h2,h3⟩:=h.at_ e (by omega)
      exact ⟨i,by omega,by rw [nthA (by omega)];exact h2,by rw [hput,if_neg (hold _ _ h3)];exact h3⟩
    · rw [hput]at hy
      by_cases e:y=keyS (colR R c)
      · rw [if_pos e]at hy
        exact ⟨m.n,by omega,(Option.some.inj hy).symm⟩
      rw [if_neg e]at hy
      obtain ⟨j,h1,h2⟩:=h.val y v hy
      exact ⟨j,by omega,h2⟩
    rw [hput]at hy hz
    by_cases e:y=keyS (colR R c)
    · by_cases e2:z=keyS (colR R c)
      · rw [e,e2]
      rw [if_pos e]at hy
      rw [if_neg e2]at hz
      obtain ⟨j,h1,h2⟩:=h.val z v hz
      have:=Option.some.inj hy
      omega
    by_cases e2:z=keyS (colR R c)
    · rw [if_neg e]at hy
      rw [if_pos e2]at hz
      obtain ⟨j,h1,h2⟩:=h.val y v hy
      have:=Option.some.inj hz
      omega
    rw [if_neg e]at hy
    rw [if_neg e2]at hz
    exact h.inj y z v hy hz
structure Cols (R:List (List Int)) (w:Nat) (v:List Int×List Int):Prop where
  len:v.1.length=w
  cnt:cntF v.1=some v.2.length
  nk:v.2.length≤w
  kp: ∀j,j<v.2.length→ ∃e:Nat,nth v.2 j (0:Int)=((e:Nat):Int)∧e<w
  at_: ∀e,e<w→ ∃j f:Nat,j<v.2.length∧nth v.1 e (0:Int)=((j:Nat):Int)∧nth v.2 j (0:Int)=((f:Nat):Int)∧f<w∧ ∀r∈R,nth r f (0:Int)=nth r e (0:Int)
theorem columns_go {R : List (List Int)} {w : Nat} (hw : w ≤ 256) (h0 : 0 < R.length) (hl : R.length ≤ 100000) (hR : ∀ r ∈ R, r.length = w ∧ ∀ c, c < w → 0 ≤ nth r c (0 : Int) ∧ nth r c (0 : Int) < 65536) : ∃ v, C7_ R = some v ∧ Cols R w v := by
  unfold C7_
  rw [grd_mk h0]
  have hfirst:=(hR _ (nth_mem' h0 ([]:List Int))).1
  refine iter_up (step:=fun q:(List Int)×(List Int)×(FM (List UInt8) Int)×Nat=>Aq_ R q.1 q.2.1 q.2.2.1 q.2.2.2) (fun (s:List Int×List Int×FM (List UInt8) Int) c=>(s.1,s.2.1,s.2.2,c)) w (fun c s=>ColI R c s.1 s.2.1 s.2.2) _ (fun c s hc hI=> ?_) (fun s hI=> ?_) (s0:=([],[],FM.emp)) ⟨rfl,rfl,rfl,Nat.le_refl _,fun j hj=>(by cases hj),fun e he=>by omega,fun y v hy=>(by cases hy),fun y z v hy=>by cases hy⟩
  · obtain ⟨merged,kept,m⟩:=s
    obtain ⟨merged',kept',m',e,hC⟩:=col_step hc hw hI
    refine .inl ⟨(merged',kept',m'),?_,hC⟩
    show Aq_ R merged kept m c=_
    unfold Aq_
    rw [hfirst,iteO_dt (by omega)]
    obtain ⟨r,e2,rfl⟩:=iter_up (step:=fun q:(List Int)×Nat=>Ao_ R c m kept merged q.1 q.2) (fun (x:List Int) k=>(x,k)) R.length (fun k x=>x=(R.take k).map fun r=>nth r c (0:Int)) (fun r=>r= .inl (merged',kept',m',c+1))
      (fun k x hk hI=>by
        subst hI
        have h1:=(hR _ (nth_mem' hk ([]:List Int))).1
        refine .inl ⟨_,?_,rfl⟩
        show Ao_ R c m kept merged _ k=_
        unfold Ao_
        rw [iteO_dt (by omega),grd_mk (by omega),grd_mk (by simp only [List.length_map,List.length_take,List.length_singleton];omega),take_snoc _ hk ([]:List Int),List.map_append,List.map_singleton];rfl)
      (fun x hI=>by
        subst hI
        refine ⟨_,?_,rfl⟩
        show Ao_ R c m kept merged _ R.length=_
        unfold Ao_
        rw [iteO_df (by omega),List.take_length,mkey_eq (by rw [List.length_map];omega),bnd_mk]
        exact congrArg fin e)
      (s0:=[]) (by simp)
    exact e2
  obtain ⟨merged,kept,m⟩:=s
  have hC:ColI R w merged kept m:=hI
  refine ⟨(merged,kept),?_,hC.lenM,hC.cnt,hC.nk,fun j hj=> ?_,fun e he=> ?_⟩
  · show Aq_ R merged kept m w=_
    unfold Aq_
    rw [hfirst,iteO_df (by omega)];rfl
  · obtain ⟨e,h1,h2, -⟩:=hC.kp j hj
    exact ⟨e,h1,h2⟩
  obtain ⟨j,h1,h2,h3⟩:=hC.at_ e he
  obtain ⟨f,h4,h5,h6⟩:=hC.kp j h1
  refine ⟨j,f,h1,h2,h4,h5,?_⟩
  have sml: ∀c,c<w→Sml (colR R c):=fun c hc y hy=>by
    obtain ⟨r,hr,rfl⟩:=List.mem_map.1 hy
    exact (hR r hr).2 c hc
  have h7:=keyS_inj (sml f h5) (sml e he) (hC.inj _ _ _ h6 h3)
  exact List.map_inj_left.1 h7
structure SI (d:Dfa) (l g:List Int) (n:Nat) (place states:List Int):Prop where
  len:place.length=n
  st: ∀j,j<states.length→nth states j (0:Int)∈l∧nth place (gv g (nth states j (0:Int))).toNat (0:Int)=((j:Nat):Int)
  pl: ∀v:Nat,v<n→nth place v (0:Int)= -1∨ ∃j:Nat,j<states.length∧nth place v (0:Int)=((j:Nat):Int)∧gv g (nth states j (0:Int))=((v:Nat):Int)
  zero:0<states.length∧nth states 0 (0:Int)=0
section
variable {d:Dfa} {w:Nat} (hd:DR d w) {l:List Int} (hR:Reached d w l) {g:List Int} {n:Nat} (hG:Grps d w l g n)
include hd hR hG
omit hd hR in
theorem SI.le{place states:List Int}(h:SI d l g n place states):states.length≤n:=by
  have h1:=len_of_sub (l:=List.range states.length) (m:=(List.range n).map fun v=>(nth place v (0:Int)).toNat) List.nodup_range fun j hj=>by
    obtain ⟨h1,h2⟩:=h.st j (List.mem_range.1 hj)
    have h3:=hG.rg _ h1
    exact List.mem_map.2 ⟨(gv g (nth states j (0:Int))).toNat,List.mem_range.2 (by omega),by rw [h2,Int.toNat_natCast]⟩
  rwa [List.length_map,List.length_range,List.length_range]at h1
def RowAt(d:Dfa)(w:Nat)(g states:List Int)(s:Int)(row:List Int):Prop:=row.length=w∧ ∀c,c<w→ ∃j:Nat,j<states.length∧nth row c (0:Int)=((j:Nat):Int)∧gv g (nth states j (0:Int))=gv g (nx d s c)
omit hd hR hG in
theorem RowAt.mono{states states':List Int}{s:Int}{row:List Int}(h:RowAt d w g states s row)(hp:states <+: states'):RowAt d w g states' s row:=by
  refine ⟨h.1,fun c hc=> ?_⟩
  obtain ⟨j,h1,h2,h3⟩:=h.2 c hc
  have:=hp.length_le
  exact ⟨j,by omega,h2,by rw [nthP hp h1];exact h3⟩
theorem small_b3 {place states : List Int} {k : Nat} (hk : k < states.length) (h : SI d l g n place states) (rows : List (List Int)) (hrl : rows.length ≤ 100000) :
    ∃place' states' row,iter (fun q:(List Int)×(List Int)×(List Int)×Nat=>As_ d states k g rows q.1 q.2.1 q.2.2.1 q.2.2.2) (place,states,[],0)=some (.inl (place',states',rows++[row],k+1))∧SI d l g n place' states'∧states <+: states'∧RowAt d w g states' (nth states k (0:Int)) row:=by
  obtain ⟨hsl, -⟩:=h.st k hk
  have hs:=hR.ok _ hsl
  have hlen:=hd.len hs
  have hgl:=hG.len
  have hn1:=hG.n1
  have hll:l.length≤d.next.length:=nd_len hR.nd hR.ok
  have hn2:=hd.n2
  have hw:=hd.w256
  obtain ⟨r,e,place',states',row,rfl,h1,h2,h3⟩:=iter_up (step:=fun q:(List Int)×(List Int)×(List Int)×Nat=>As_ d states k g rows q.1 q.2.1 q.2.2.1 q.2.2.2) (fun (s:List Int×List Int×List Int) c=>(s.1,s.2.1,s.2.2,c)) w
    (fun c s=>SI d l g n s.1 s.2.1∧states <+: s.2.1∧s.2.2.length=c∧ ∀i,i<c→ ∃j:Nat,j<s.2.1.length∧nth s.2.2 i (0:Int)=((j:Nat):Int)∧gv g (nth s.2.1 j (0:Int))=gv g (nx d (nth states k (0:Int)) i))
    (fun r=> ∃place' states' row,r= .inl (place',states',rows++[row],k+1)∧SI d l g n place' states'∧states <+: states'∧RowAt d w g states' (nth states k (0:Int)) row)
    (fun c s hc hI=>by
      obtain ⟨p,st,row⟩:=s
      obtain ⟨hS,hP,hL,hM⟩:=hI
      dsimp only at hS hP hL hM
      have htl:=hR.cl _ hsl c hc
      have ht:=hR.ok _ htl
      have hg:=hG.rg _ htl
      have hpl:=hS.len
      have hle:=SI.le hG hS
      obtain ⟨t,hte⟩: ∃t,nth (nth d.next ((nth states k (0:Int)).toNat) ([]:List Int)) c (0:Int)=t:=⟨_,rfl⟩
      have hte':nx d (nth states k (0:Int)) c=t:=hte
      rw [hte']at htl ht hg
      obtain ⟨ht0,ht1⟩:=ht
      obtain ⟨v,hv⟩: ∃v:Nat,gv g t=((v:Nat):Int):=⟨(gv g t).toNat,by omega⟩
      have hv':nth g t.toNat (0:Int)=((v:Nat):Int):=hv
      rw [hv]at hg
      have j1: ∀p' st',SI d l g n p' st'→states <+: st'→st <+: st'→(∃j:Nat,j<st'.length∧nth p' v (0:Int)=((j:Nat):Int)∧gv g (nth st' j (0:Int))=((v:Nat):Int))→
          ∃s':List Int×List Int×List Int,Ce_ d states k c g row p' st'=some (.inl (s'.1,s'.2.1,s'.2.2,c+1))∧SI d l g n s'.1 s'.2.1∧states <+: s'.2.1∧s'.2.2.length=c+1∧ ∀i,i<c+1→ ∃j:Nat,j<s'.2.1.length∧nth s'.2.2 i (0:Int)=((j:Nat):Int)∧gv g (nth s'.2.1 j (0:Int))=gv g (nx d (nth states k (0:Int)) i):=by
        intro p' st' hS' hP' hQ' hj
        obtain ⟨j,h4,h5,h6⟩:=hj
        have hpl':=hS'.len
        have hle':=hQ'.length_le
        unfold Ce_
        rw [hte,grd_mk ⟨ht0,by omega⟩,hv',grd_mk (by omega),grd_mk (by rw [List.length_singleton];omega),Int.toNat_natCast,h5]
        refine ⟨(p',st',row++[((j:Nat):Int)]),rfl,hS',hP',by show (row++[_]).length=_;rw [List.length_append,List.length_singleton];omega,fun i hi=> ?_⟩
        show ∃q:Nat,q<st'.length∧nth (row++[((j:Nat):Int)]) i (0:Int)=((q:Nat):Int)∧gv g (nth st' q (0:Int))=_
        by_cases e:i=c
        · subst e
          exact ⟨j,h4,by rw [←hL];exact nth_app_e _ _ _,by rw [hte',h6,hv]⟩
        obtain ⟨q,h7,h8,h9⟩:=hM i (by omega)
        exact ⟨q,by omega,by rw [nthA (by omega)];exact h8,by rw [nthP hQ' h7];exact h9⟩
      show (∃s',As_ d states k g rows p st row c=_∧_)∨_
      left
      unfold As_
      rw [hlen,iteO_dt (by omega),hte,grd_mk ⟨ht0,by omega⟩,hv',grd_mk (by omega),Int.toNat_natCast]
      rcases hS.pl v (by omega)with h4|h4
      · rw [iteO_dt (by omega),grd_mk ⟨ht0,by omega⟩,grd_mk (by omega),grd_mk (by rw [List.length_singleton];omega)]
        have hlen2:(st++[t]).length=st.length+1:=by rw [List.length_append,List.length_singleton]
        have hnot: ∀j,j<st.length→(gv g (nth st j (0:Int))).toNat≠v:=fun j hj e=>by
          have:=(hS.st j hj).2
          rw [e,h4]at this
          omega
        refine j1 _ _ ⟨by rw [List.length_set];exact hpl,fun j hj=> ?_,fun u hu=> ?_,by omega,by rw [nthA hS.zero.1];exact hS.zero.2⟩ (hP.trans (List.prefix_append _ _)) (List.prefix_append _ _) ⟨st.length,by omega,?_,?_⟩
        · rw [hlen2]at hj
          by_cases e:j=st.length
          · subst e
            rw [nth_app_e,hv,Int.toNat_natCast,nth_set,if_pos ⟨rfl,by omega⟩]
            exact ⟨htl,rfl⟩
          rw [nthA (by omega),nth_set,if_neg (fun q=>hnot j (by omega) q.1.symm)]
          exact hS.st j (by omega)
        · rw [nth_set,hlen2]
          by_cases e:v=u
          · subst e
            rw [if_pos ⟨rfl,by omega⟩]
            exact .inr ⟨st.length,by omega,rfl,by rw [nth_app_e,hv]⟩
          rw [if_neg (fun q=>e q.1)]
          refine (hS.pl u hu).imp id fun ⟨j,h5,h6,h7⟩=>⟨j,by omega,h6,by rw [nthA h5];exact h7⟩
        · rw [nth_set,if_pos ⟨rfl,by omega⟩]
        rw [nth_app_e,hv]
      obtain ⟨j,h5,h6,h7⟩:=h4
      rw [iteO_df (by omega)]
      exact j1 _ _ hS hP (List.prefix_refl _) ⟨j,h5,h6,h7⟩)
    (fun s hI=>by
      obtain ⟨p,st,row⟩:=s
      obtain ⟨hS,hP,hL,hM⟩:=hI
      dsimp only at hS hP hL hM
      refine ⟨.inl (p,st,rows++[row],k+1),?_,p,st,row,rfl,hS,hP,hL,hM⟩
      show As_ d states k g rows p st row w=_
      unfold As_
      rw [hlen,iteO_df (by omega),grd_mk (by rw [List.length_singleton];omega)];rfl)
    (s0:=(place,states,[])) ⟨h,List.prefix_refl _,rfl,fun i hi=>by omega⟩
  exact ⟨place',states',row,e,h1,h2,h3⟩
def minD(d:Dfa)(states:List Int)(rows:List (List Int))(v:List Int×List Int):Dfa:=
  ⟨d.cls.map fun c=>nth v.1 c.toNat (0:Int),rows.map fun r=>v.2.map fun e=>nth r e.toNat (0:Int),states.map fun s=>nth d.fin s.toNat false⟩
structure AllR (d:Dfa) (w:Nat) (l g:List Int) (n:Nat) (states:List Int) (rows:List (List Int)):Prop where
  si: ∃place,SI d l g n place states
  len:rows.length=states.length
  row: ∀k,k<states.length→RowAt d w g states (nth states k (0:Int)) (nth rows k ([]:List Int))
omit hd hR hG in
theorem small_b5 {states : List Int} {rows : List (List Int)} {v : List Int × List Int} (hl : rows.length = states.length) (hs : ∀ s ∈ states, 0 ≤ s ∧ s < (d.fin.length : Int)) (hsl : states.length ≤ 100000) (hv : v.2.length ≤ 256) (hw : w ≤ 256) (hkp : ∀ j, j < v.2.length → ∃ e : Nat, nth v.2 j (0 : Int) = ((e : Nat) : Int) ∧ e < w) (hrow : ∀ r ∈ rows, r.length = w) (cls : List Int) :
    iter (fun q:(List (List Int))×(List Bool)×Nat=>At_ states v rows d cls q.1 q.2.1 q.2.2) ([],[],0)=some ⟨cls,rows.map fun r=>v.2.map fun e=>nth r e.toNat (0:Int),states.map fun s=>nth d.fin s.toNat false⟩:=by
  obtain ⟨r,e,rfl⟩:=iter_up (step:=fun q:(List (List Int))×(List Bool)×Nat=>At_ states v rows d cls q.1 q.2.1 q.2.2) (fun (s:List (List Int)×List Bool) k=>(s.1,s.2,k)) states.length
    (fun k s=>s=((rows.take k).map (fun r=>v.2.map fun e=>nth r e.toNat (0:Int)),(states.take k).map fun s=>nth d.fin s.toNat false)) (fun r=>r=⟨cls,rows.map fun r=>v.2.map fun e=>nth r e.toNat (0:Int),states.map fun s=>nth d.fin s.toNat false⟩)
    (fun k s hk hI=>by
      subst hI
      have hk2:k<rows.length:=by omega
      have hst:=hs _ (nth_mem' hk (0:Int))
      have hrl:=hrow _ (nth_mem' hk2 ([]:List Int))
      refine .inl ⟨_,?_,rfl⟩
      show At_ states v rows d cls _ _ k=_
      unfold At_
      rw [iteO_dt (by omega),grd_mk (by omega)]
      obtain ⟨r,e,rfl⟩:=iter_up (step:=fun q:(List Int)×Nat=>A8_ v k rows ((rows.take k).map (fun r=>v.2.map fun e=>nth r e.toNat (0:Int))) states d ((states.take k).map fun s=>nth d.fin s.toNat false) q.1 q.2) (fun (x:List Int) j=>(x,j)) v.2.length
        (fun j x=>x.length=v.2.length∧ ∀i,i<j→nth x i (0:Int)=nth (nth rows k ([]:List Int)) (nth v.2 i (0:Int)).toNat (0:Int))
        (fun r=>r= .inl ((rows.take (k+1)).map (fun r=>v.2.map fun e=>nth r e.toNat (0:Int)),(states.take (k+1)).map (fun s=>nth d.fin s.toNat false),k+1))
        (fun j x hj hI=>by
          obtain ⟨h1,h2⟩:=hI
          obtain ⟨e,h3,h4⟩:=hkp j hj
          refine .inl ⟨x.set j (nth (nth rows k ([]:List Int)) (nth v.2 j (0:Int)).toNat (0:Int)),?_,by rw [List.length_set];exact h1,fun i hi=> ?_⟩
          · show A8_ v k rows _ states d _ x j=_
            unfold A8_
            rw [iteO_dt (by omega),grd_mk hk2,grd_mk (by omega),grd_mk (by omega)];rfl
          rw [nth_set]
          by_cases e:j=i
          · subst e;rw [if_pos ⟨rfl,by omega⟩]
          rw [if_neg (fun q=>e q.1)];exact h2 i (by omega))
        (fun x hI=>by
          obtain ⟨h1,h2⟩:=hI
          have hx:x=v.2.map fun e=>nth (nth rows k ([]:List Int)) e.toNat (0:Int):=nth_ext (0:Int) (by rw [List.length_map];exact h1) fun i hi=>by
            rw [h2 i (by omega),nth_map _ _ _ (0:Int) (0:Int) (by omega)]
          refine ⟨_,?_,rfl⟩
          show A8_ v k rows _ states d _ x v.2.length=_
          unfold A8_
          rw [iteO_df (by omega),grd_mk (by simp only [List.length_map,List.length_take,List.length_singleton];omega),grd_mk hst,grd_mk (by simp only [List.length_map,List.length_take,List.length_singleton];omega),take_snoc rows hk2 ([]:List Int),take_snoc states hk (0:Int),List.map_append,List.map_append,List.map_singleton,List.map_singleton,hx];rfl)
        (s0:=List.replicate v.2.length 0) ⟨List.length_replicate,fun i hi=>by omega⟩
      exact e)
    (fun s hI=>by
      subst hI
      refine ⟨_,?_,rfl⟩
      show At_ states v rows d cls _ _ states.length=_
      unfold At_
      rw [iteO_df (by omega),List.take_length,List.take_of_length_le (by omega)];rfl)
    (s0:=([],[])) (by simp)
  exact e
theorem small_go : ∃ states rows v, D4_ d g ((n : Nat) : Int) = some (minD d states rows v) ∧ AllR d w l g n states rows ∧ Cols rows w v := by
  have hgl:=hG.len
  have hn1:=hG.n1
  have hll:l.length≤d.next.length:=nd_len hR.nd hR.ok
  have hd2:=hd.n2
  have hd1:=hd.n1
  have hw:=hd.w256
  have hcl:=hd.cl
  have hf:=hd.fin
  have hg0:=hG.rg 0 hR.zero
  have hg0':0≤nth g 0 (0:Int)∧nth g 0 (0:Int)<((n:Nat):Int):=hg0
  unfold D4_
  rw [grd_mk (by omega),Int.toNat_natCast]
  have inner: ∀place:List Int,SI d l g n place [0]→ ∃r,iter (fun q:(List Int)×(List Int)×(List (List Int))×Nat=>A2_ d g q.1 q.2.1 q.2.2.1 q.2.2.2) (place,[0],[],0)=some r∧ ∃states rows v,r=minD d states rows v∧AllR d w l g n states rows∧Cols rows w v:=fun place hp=>by
    refine iter_run (step:=fun q:(List Int)×(List Int)×(List (List Int))×Nat=>A2_ d g q.1 q.2.1 q.2.2.1 q.2.2.2) (fun s=>SI d l g n s.1 s.2.1∧s.2.2.1.length=s.2.2.2∧s.2.2.2≤s.2.1.length∧ ∀i,i<s.2.2.2→RowAt d w g s.2.1 (nth s.2.1 i (0:Int)) (nth s.2.2.1 i ([]:List Int)))
      (fun r=> ∃states rows v,r=minD d states rows v∧AllR d w l g n states rows∧Cols rows w v) (fun s=>5000 - s.2.2.2) (fun s hI=> ?_) (place,[0],[],0) ⟨hp,rfl,Nat.zero_le _,fun i hi=>by cases hi⟩
    obtain ⟨p,st,rows,k⟩:=s
    obtain ⟨hS,hL,hK,hM⟩:=hI
    dsimp only at hS hL hK hM
    have hle:=SI.le hG hS
    show (∃s',A2_ d g p st rows k=_∧_)∨ ∃r,A2_ d g p st rows k=_∧_
    unfold A2_
    by_cases hk:k<st.length
    · have hs:=hR.ok _ (hS.st k hk).1
      obtain ⟨p',st',row,e,hS',hP',hW⟩:=small_b3 hd hR hG hk hS rows (by omega)
      have hle':=hP'.length_le
      rw [iteO_dt (by omega),grd_mk (by exact hs),e]
      refine .inl ⟨_,rfl,⟨hS',?_,?_,fun i hi=> ?_⟩,by show 5000 - (k+1)<5000 - k;omega⟩
      · show (rows++[row]).length=k+1
        rw [List.length_append,List.length_singleton];omega
      · show k+1≤st'.length
        omega
      show RowAt d w g st' (nth st' i (0:Int)) (nth (rows++[row]) i ([]:List Int))
      have hi':i<k+1:=hi
      rw [nthP hP' (by omega)]
      by_cases ei:i=k
      · subst ei
        rw [show nth (rows++[row]) i ([]:List Int)=row by rw [←hL];exact nth_app_e _ _ _];exact hW
      rw [nth_app_l _ _ _ _ (by omega)]
      exact (hM i (by omega)).mono hP'
    obtain rfl:k=st.length:=by omega
    have hrows: ∀r∈rows,r.length=w∧ ∀c,c<w→0≤nth r c (0:Int)∧nth r c (0:Int)<65536:=fun r hr=>by
      obtain ⟨i,hi,rfl⟩:=mem_nth (d:=([]:List Int)) hr
      have h1:=hM i (by omega)
      refine ⟨h1.1,fun c hc=> ?_⟩
      obtain ⟨j,h2,h3, -⟩:=h1.2 c hc
      omega
    obtain ⟨v,e,hC⟩:=columns_go hw (by have:=hS.zero.1;omega) (by omega) hrows
    rw [iteO_df (by omega),bnd_some e,grd_mk (by omega)]
    refine .inr ⟨minD d st rows v,?_,st,rows,v,rfl,⟨⟨p,hS⟩,hL,hM⟩,hC⟩
    have hCl:=hC.len
    have hCn:=hC.nk
    obtain ⟨r,e2,rfl⟩:=iter_up (step:=fun q:(List Int)×Nat=>A7_ d v st rows q.1 q.2) (fun (x:List Int) j=>(x,j)) d.cls.length
      (fun j x=>x.length=d.cls.length∧ ∀i,i<j→nth x i (0:Int)=nth v.1 (nth d.cls i (0:Int)).toNat (0:Int)) (fun r=>r=minD d st rows v)
      (fun j x hj hI=>by
        obtain ⟨h1,h2⟩:=hI
        have h3:=(cnt_mem d.cls 0 w hd.cnt).2 _ (nth_mem' hj (0:Int))
        refine .inl ⟨x.set j (nth v.1 (nth d.cls j (0:Int)).toNat (0:Int)),?_,by rw [List.length_set];exact h1,fun i hi=> ?_⟩
        · show A7_ d v st rows x j=_
          unfold A7_
          rw [iteO_dt (by omega),grd_mk (by omega),grd_mk (by omega)];rfl
        rw [nth_set]
        by_cases e:j=i
        · subst e;rw [if_pos ⟨rfl,by omega⟩]
        rw [if_neg (fun q=>e q.1)];exact h2 i (by omega))
      (fun x hI=>by
        obtain ⟨h1,h2⟩:=hI
        have hx:x=d.cls.map fun c=>nth v.1 c.toNat (0:Int):=nth_ext (0:Int) (by rw [List.length_map];exact h1) fun i hi=>by
          rw [h2 i (by omega),nth_map _ _ _ (0:Int) (0:Int) (by omega)]
        refine ⟨_,?_,rfl⟩
        show A7_ d v st rows x d.cls.length=_
        unfold A7_
        rw [iteO_df (by omega),small_b5 hL (fun s hs=>by
          obtain ⟨i,hi,rfl⟩:=mem_nth (d:=(0:Int)) hs
          have:=hR.ok _ (hS.st i hi).1
          obtain ⟨h3,h4⟩:=this
          omega) (by omega) (by omega) hw hC.kp (fun r hr=>(hrows r hr).1) x,hx];rfl)
      (s0:=List.replicate d.cls.length 0) ⟨List.length_replicate,fun i hi=>by omega⟩
    exact congrArg fin e2
  obtain ⟨r,e,states,rows,v,rfl,h1,h2⟩:=iter_up (step:=fun q:(List Int)×Nat=>Bb_ ((n:Nat):Int) g d q.1 q.2) (fun (x:List Int) j=>(x,j)) n (fun j x=>x.length=n∧ ∀i,i<j→nth x i (0:Int)= -1) (fun r=> ∃states rows v,r=minD d states rows v∧AllR d w l g n states rows∧Cols rows w v)
    (fun j x hj hI=>by
      obtain ⟨h1,h2⟩:=hI
      refine .inl ⟨x.set j (-1),?_,by rw [List.length_set];exact h1,fun i hi=> ?_⟩
      · show Bb_ ((n:Nat):Int) g d x j=_
        unfold Bb_
        rw [List.length_replicate,Int.toNat_natCast,iteO_dt (by omega),grd_mk (by omega)];rfl
      rw [nth_set]
      by_cases e:j=i
      · rw [if_pos ⟨e,by omega⟩]
      rw [if_neg (fun q=>e q.1)];exact h2 i (by omega))
    (fun x hI=>by
      obtain ⟨h1,h2⟩:=hI
      obtain ⟨r,e,h⟩:=inner (x.set (nth g 0 (0:Int)).toNat 0) ⟨by rw [List.length_set];exact h1,fun j hj=>by
        have hj0:j=0:=by
          have:j<1:=hj
          omega
        subst hj0
        refine ⟨hR.zero,?_⟩
        show nth (x.set (nth g 0 (0:Int)).toNat 0) (gv g 0).toNat (0:Int)=0
        rw [nth_set,if_pos ⟨rfl,by show (gv g 0).toNat<x.length;omega⟩],fun u hu=>by
        rw [nth_set]
        by_cases e:(nth g 0 (0:Int)).toNat=u
        · rw [if_pos ⟨e,by omega⟩]
          refine .inr ⟨0,Nat.zero_lt_one,rfl,?_⟩
          show nth g 0 (0:Int)=_
          omega
        rw [if_neg (fun q=>e q.1)];exact .inl (h2 u hu),Nat.zero_lt_one,rfl⟩
      refine ⟨r,?_,h⟩
      show Bb_ ((n:Nat):Int) g d x n=_
      unfold Bb_
      rw [List.length_replicate,Int.toNat_natCast,iteO_df (by omega),grd_mk (by omega),grd_mk (by omega),e];rfl)
    (s0:=List.replicate n 0) ⟨List.length_replicate,fun i hi=>by omega⟩
  exact ⟨states,rows,v,e,h1,h2⟩
end
theorem cnt_comp {l m : List Int} {k : Nat} (hm : cntF m ≠ none) (h : cntF l = some k) (hk : k ≤ m.length) : cntF (l.map fun c => nth m c.toNat (0 : Int)) = cntF (m.take k) := by
  induction l using rev_ind generalizing k with
  |h0=>
    have h0:some 0=some k:=h
    have:=Option.some.inj h0
    subst this
    rw [List.take_zero];rfl
  |h1 l n ih=>
    rw [cntF_snoc]at h
    cases hl:cntF l with
    |none=>rw [hl]at h;cases h
    |some j=>
      rw [hl]at h
      unfold cntS at h
      rw [Option.bind_some]at h
      by_cases c:n<0∨((j:Nat):Int)<n
      · rw [if_pos c]at h;cases h
      rw [if_neg c]at h
      have hjk:=Option.some.inj h
      rw [List.map_append,List.map_singleton,cntF_snoc]
      by_cases e:n=((j:Nat):Int)
      · rw [if_pos e]at hjk
        rw [ih hl (by omega),←hjk,take_cons' (by omega),cntF_snoc,e,Int.toNat_natCast]
      rw [if_neg e]at hjk
      subst hjk
      rw [ih hl hk]
      cases hc:cntF (m.take j)with
      |none=>
        have:cntF m=none:=by
          have:=cntF_none (m:=m.drop j) hc
          rwa [List.take_append_drop]at this
        exact absurd this hm
      |some q=>
        have hmem:nth m n.toNat (0:Int)∈m.take j:=by
          have h1:n.toNat<(m.take j).length:=by rw [List.length_take];omega
          have h2:=nth_mem' h1 (0:Int)
          have h3:nth (m.take j) n.toNat (0:Int)=nth m n.toNat (0:Int):=by
            unfold nth
            rw [List.getD_eq_getElem?_getD,List.getD_eq_getElem?_getD,List.getElem?_take,if_pos (by omega)]
          rwa [h3]at h2
        have h4:=(cnt_mem (m.take j) 0 q hc).2 _ hmem
        unfold cntS
        rw [Option.bind_some,if_neg (by omega),if_neg (by omega)]
theorem min_ok {d : Dfa} {w : Nat} (hd : DR d w) {l : List Int} (hR : Reached d w l) {g : List Int} {n : Nat} (hG : Grps d w l g n) {states : List Int} {rows : List (List Int)} {v : List Int × List Int} (hA : AllR d w l g n states rows) (hC : Cols rows w v) :
    rightD (minD d states rows v)=true∧ ∀u,nth (minD d states rows v).fin (runD (minD d states rows v) 0 u).toNat false=nth d.fin (runD d 0 u).toNat false:=by
  obtain ⟨place,hS⟩:=hA.si
  have hle:=SI.le hG hS
  have hn1:=hG.n1
  have hll:l.length≤d.next.length:=nd_len hR.nd hR.ok
  have hd2:=hd.n2
  have hz:=hS.zero
  have hlen:=hA.len
  have hcl:=hd.cl
  have hCl:=hC.len
  have hnext:(minD d states rows v).next.length=states.length:=by
    show (rows.map _).length=_
    rw [List.length_map];exact hlen
  have hrow: ∀k,k<states.length→nth (minD d states rows v).next k ([]:List Int)=v.2.map fun e=>nth (nth rows k ([]:List Int)) e.toNat (0:Int):=fun k hk=>by
    show nth (rows.map _) k ([]:List Int)=_
    rw [nth_map _ _ _ ([]:List Int) ([]:List Int) (by omega)]
  constructor
  · have hcnt:cntF (minD d states rows v).cls=some v.2.length:=by
      show cntF (d.cls.map _)=_
      rw [cnt_comp (by rw [hC.cnt];exact fun h=>by cases h) hd.cnt (by omega),List.take_of_length_le (by omega)]
      exact hC.cnt
    unfold rightD
    rw [hcnt,hnext]
    simp only [Bool.and_eq_true,decide_eq_true_eq,List.all_eq_true]
    refine ⟨⟨⟨?_,fun r hr=> ?_⟩,by omega,by omega⟩,?_⟩
    · show (d.cls.map _).length=256
      rw [List.length_map];exact hcl
    · obtain ⟨q,hq,rfl⟩:=List.mem_map.1 hr
      obtain ⟨k,hk,rfl⟩:=mem_nth (d:=([]:List Int)) hq
      have h1:=hA.row k (by omega)
      unfold goodR
      rw [Bool.and_eq_true,decide_eq_true_eq,List.length_map,List.all_eq_true]
      refine ⟨rfl,fun x hx=> ?_⟩
      obtain ⟨e,he,rfl⟩:=List.mem_map.1 hx
      obtain ⟨j,hj,rfl⟩:=mem_nth (d:=(0:Int)) he
      obtain ⟨f,h2,h3⟩:=hC.kp j hj
      rw [h2,Int.toNat_natCast]
      obtain ⟨i,h4,h5, -⟩:=h1.2 f h3
      unfold goodS
      rw [Bool.and_eq_true,decide_eq_true_eq,decide_eq_true_eq]
      omega
    show (states.map _).length=states.length
    rw [List.length_map]
  have key: ∀(u:List UInt8) (i:Nat) (s:Int),i<states.length→s∈l→gv g (nth states i (0:Int))=gv g s→ ∃j:Nat,runD (minD d states rows v) ((i:Nat):Int) u=((j:Nat):Int)∧j<states.length∧runD d s u∈l∧gv g (nth states j (0:Int))=gv g (runD d s u):=by
    intro u
    induction u with
    |nil=>exact fun i s hi hs e=>⟨i,rfl,hi,hs,e⟩
    |cons b u ih=>
      intro i s hi hs e
      have hb:=UInt8.toNat_lt b
      have hc:=(cnt_mem d.cls 0 w hd.cnt).2 _ (nth_mem' (l:=d.cls) (i:=b.toNat) (by omega) (0:Int))
      obtain ⟨c,hce⟩: ∃c:Nat,nth d.cls b.toNat (0:Int)=((c:Nat):Int):=⟨(nth d.cls b.toNat (0:Int)).toNat,by omega⟩
      have hcw:c<w:=by omega
      obtain ⟨j,f,h1,h2,h3,h4,h5⟩:=hC.at_ c hcw
      obtain ⟨q,h6,h7,h8⟩:=(hA.row i hi).2 c hcw
      have e1:dlt (minD d states rows v) ((i:Nat):Int) b=((q:Nat):Int):=by
        unfold dlt
        rw [Int.toNat_natCast,hrow i hi]
        have e2:nth (minD d states rows v).cls b.toNat (0:Int)=((j:Nat):Int):=by
          show nth (d.cls.map _) b.toNat (0:Int)=_
          rw [nth_map _ _ _ (0:Int) (0:Int) (by omega),hce,Int.toNat_natCast,h2]
        rw [e2,Int.toNat_natCast,nth_map _ _ _ (0:Int) (0:Int) h1,h3,Int.toNat_natCast,h5 _ (nth_mem' (by omega) ([]:List Int))]
        exact h7
      have e3:dlt d s b=nx d s c:=by
        unfold dlt nx
        rw [hce,Int.toNat_natCast]
      obtain ⟨j',h9,h10,h11,h12⟩:=ih q (nx d s c) h6 (hR.cl s hs c hcw) (by rw [h8];exact hG.same _ (hS.st i hi).1 s hs e c hcw)
      refine ⟨j',?_,h10,?_,?_⟩
      · show runD (minD d states rows v) (dlt (minD d states rows v) ((i:Nat):Int) b) u=_
        rw [e1];exact h9
      · show runD d (dlt d s b) u∈l
        rw [e3];exact h11
      show _=gv g (runD d (dlt d s b) u)
      rw [e3];exact h12
  intro u
  obtain ⟨j,h1,h2,h3,h4⟩:=key u 0 0 hz.1 hR.zero (by rw [hz.2])
  have h1':runD (minD d states rows v) 0 u=((j:Nat):Int):=h1
  rw [h1',Int.toNat_natCast]
  show nth (states.map _) j false=_
  rw [nth_map _ _ _ (0:Int) false h2]
  exact hG.fin _ (hS.st j h2).1 _ h3 h4
theorem min_go{d:Dfa}(h:rightD d=true): ∃m,Dh_ d=some (m,0)∧rightD m=true∧ ∀u,nth m.fin (runD m 0 u).toNat false=nth d.fin (runD d 0 u).toNat false:=by
  obtain ⟨w,hd⟩:=DR.of h
  obtain ⟨l,el,hR⟩:=reached_go hd
  obtain ⟨g,n,eg,hG⟩:=groups_go hd hR
  obtain ⟨states,rows,v,es,hA,hC⟩:=small_go hd hR hG
  refine ⟨minD d states rows v,?_,min_ok hd hR hG hA hC⟩
  unfold Dh_
  rw [dcheck_eq,bnd_mk,if_pos h,iteO_df (by simp),bnd_some el,bnd_some eg]
  dsimp only
  rw [bnd_some es]
theorem min_any(d:Dfa): ∃r,Dh_ d=some r∧(r.2≠0∨r.2=0∧rightD d=true∧rightD r.1=true∧ ∀u,nth r.1.fin (runD r.1 0 u).toNat false=nth d.fin (runD d 0 u).toNat false):=by
  by_cases h:rightD d=true
  · obtain ⟨m,e,h1,h2⟩:=min_go h
    exact ⟨_,e,.inr ⟨rfl,h,h1,h2⟩⟩
  refine ⟨(⟨[],[],[]⟩,1),?_,.inl (by decide)⟩
  unfold Dh_
  rw [dcheck_eq,bnd_mk,if_neg h];rfl
end Go.Proofs.YtnpbfjdpglfdkaaGreatDoor
end

noncomputable section
namespace Go.Proofs.YtnpbfjdpglfdkaaGreatDoor
open Go Go.E
end Go.Proofs.YtnpbfjdpglfdkaaGreatDoor
end

noncomputable section
namespace Go.Proofs.YtnpbfjdpglfdkaaGreatDoor
open Go Go.E
def srt(t:Fst):Fst:=⟨t.states,onceL Tip.zero cmpTip t.starts,onceL Tip.zero cmpTip t.ends,onceL Arc.zero cmpArc t.arcs⟩
theorem sort_eq(t:Fst):C8_ t=some (if fstB t=true then (srt t,0) else (⟨0,[],[],[]⟩,1)):=by
  unfold C8_
  rw [Be_,bnd,Option.bind_some,errB_ne]
  by_cases h:fstB t=true
  · have ht:=(fstB_iff t).1 h
    have h1:=ht.startsN
    have h2:=ht.endsN
    have h3:=ht.arcsN
    rw [h,if_pos rfl,Bool.not_true,iteO_false]
    simp only [Jl_ (l:=t.starts) (by omega),Jl_ (l:=t.ends) (by omega),Km_ (l:=t.arcs) (by omega),bnd,Option.bind_some]
    rfl
  simp only [Bool.not_eq_true]at h
  rw [h];rfl
structure Alike (s t:Fst):Prop where
  states:s.states=t.states
  starts: ∀x,x∈s.starts↔x∈t.starts
  ends: ∀x,x∈s.ends↔x∈t.ends
  arcs: ∀x,x∈s.arcs↔x∈t.arcs
structure Within (s t:Fst):Prop where
  starts: ∀x∈s.starts,x∈t.starts
  ends: ∀x∈s.ends,x∈t.ends
  arcs: ∀x∈s.arcs,x∈t.arcs
theorem mem_endT{t:Fst}{S:List FPair}{o:List UInt8}:o∈endT t S↔ ∃p∈S, ∃e∈t.ends,e.state=p.state∧o=p.out++e.out:=by
  simp only [endT,List.mem_flatMap,List.mem_map,List.mem_filter,decide_eq_true_eq]
  constructor
  · rintro ⟨p,hp,_,⟨e,⟨he,h1⟩,rfl⟩,h2⟩;exact ⟨p,hp,e,he,h1,h2.symm⟩
  rintro ⟨p,hp,e,he,h1,h2⟩;exact ⟨p,hp,_,⟨e,⟨he,h1⟩,rfl⟩,h2.symm⟩
theorem mem_outsL{t:Fst}{w o:List UInt8}:o∈outsL t w↔ ∃p∈pairsL t w, ∃e∈t.ends,e.state=p.state∧o=p.out++e.out:=by rw [outsL,mem_onceL,mem_endT]
theorem outsL_rise(t:Fst)(w:List UInt8):(outsL t w).Pairwise fun x y=>Lib.compareBytes x y<0:=sorted_onceL cmpB_good _
theorem same_run{α R:Type}{step:Nat→Option (Nat⊕R)}{y:R}(n:Nat)(hs: ∀k,k<n→step k=some (.inl (k+1)))(hd:step n=some (.inr y)):iter step 0=some y:=iter_seq0 (fun k=>k) n hs hd
theorem texts_refl(l:List (List UInt8)):Cn_ l l=some true:=by
  unfold Cn_
  rw [decide_eq_false (by simp),iteO_false]
  refine same_run (α:=Unit) l.length (fun k hk=> ?_) ?_
  · simp only [Bd_,lt_dec hk,iteO_true,grd_mk hk,ne_eq,not_true_eq_false,decide_false,iteO_false];rfl
  simp only [Bd_,Int.lt_irrefl,decide_false,iteO_false];rfl
def inN(t:Fst):Nfa:=⟨t.states,onceL 0 cmpI (t.starts.map Tip.state),onceL 0 cmpI (t.ends.map Tip.state),t.arcs.map fun a=>⟨a.frm,a.to,a.set⟩⟩
theorem states_eq{l:List Tip}(h:l.length≤1024):E2_ l=some (onceL 0 cmpI (l.map Tip.state)):=by
  unfold E2_
  refine iter_fold (step:=fun q:(List Int)×Nat=>Ct_ l q.1 q.2) l Tip.zero (fun k=>(l.take k).map Tip.state) ?_ ?_
  · intro k hk
    simp only [Ct_,lt_dec hk,iteO_true]
    rw [grd_mk (by simp only [List.length_map,List.length_take,List.length_singleton];omega),take_snoc l hk Tip.zero,List.map_append]
    rfl
  simp only [Ct_,Int.lt_irrefl,decide_false,iteO_false,List.take_length]
  rw [Kl_ (by rw [List.length_map];omega)];rfl
theorem in_eq(t:Fst):Hz_ t=some (if fstB t=true then (inN t,0) else (⟨0,[],[],[]⟩,1)):=by
  unfold Hz_
  rw [Be_,bnd,Option.bind_some,errB_ne]
  by_cases h:fstB t=true
  · have ht:=(fstB_iff t).1 h
    have h3:=ht.arcsN
    rw [h,if_pos rfl,Bool.not_true,iteO_false]
    simp only [states_eq ht.startsN,states_eq ht.endsN,bnd,Option.bind_some]
    unfold Hk_
    refine iter_fold (step:=fun q:(List Arrow)×Nat=>Eu_ t (onceL 0 cmpI (t.starts.map Tip.state)) (onceL 0 cmpI (t.ends.map Tip.state)) q.1 q.2) t.arcs Arc.zero (fun k=>(t.arcs.take k).map fun a=>(⟨a.frm,a.to,a.set⟩:Arrow)) ?_ ?_
    · intro k hk
      simp only [Eu_,lt_dec hk,iteO_true]
      rw [grd_mk (by simp only [List.length_map,List.length_take,List.length_singleton];omega),take_snoc t.arcs hk Arc.zero,List.map_append]
      rfl
    simp only [Eu_,Int.lt_irrefl,decide_false,iteO_false,List.take_length];rfl
  simp only [Bool.not_eq_true]at h
  rw [h];rfl
end Go.Proofs.YtnpbfjdpglfdkaaGreatDoor
end

noncomputable section
namespace Go.Proofs.YtnpbfjdpglfdkaaGreatDoor
open Go Go.E
theorem grp_len{β γ:Type}{key:β→Int}{val:β→γ}{n:Nat}{l:List (List γ)}{xs:List β}(h:Grp key val n l xs){i:Nat}(hi:i<n):(nth l i []).length≤xs.length:=by
  rw [h.row i hi,List.length_map];exact List.length_filter_le ..
theorem take_len_le{α:Type}(l:List α)(k:Nat):(l.take k).length≤l.length:=by rw [List.length_take];omega
theorem useful_eq{t:Fst}(ht:FstOk t): ∃on bk,Ex_ t=some (t,on,bk)∧Grp Arc.frm Arc.to t.states.toNat on t.arcs∧Grp Arc.to Arc.frm t.states.toNat bk t.arcs:=by
  have h0:=ht.st0
  have h1:=ht.st1
  have hN:=ht.arcsN
  unfold Ex_ Ek_
  rw [grd_mk ⟨h0,by omega⟩,grd_mk ⟨h0,by omega⟩]
  obtain ⟨r,h2,on,bk,rfl,h3,h4⟩:=iter_for (step:=fun q:List (List Int)×List (List Int)×Nat=>Bc_ t q.1 q.2.1 q.2.2) (fun (s:List (List Int)×List (List Int)) k=>(s.1,s.2,k)) t.arcs Arc.zero
    (fun pre s=>Grp Arc.frm Arc.to t.states.toNat s.1 pre∧Grp Arc.to Arc.frm t.states.toNat s.2 pre)
    (fun r=> ∃on bk,r=(t,on,bk)∧Grp Arc.frm Arc.to t.states.toNat on t.arcs∧Grp Arc.to Arc.frm t.states.toNat bk t.arcs)
    (fun k s hk ⟨a1,a2⟩=>by
      obtain ⟨b1,b2,b3,b4⟩:=ht.arcs _ (mem_at Arc.zero hk)
      have l1:=a1.len
      have l2:=a2.len
      have r1:=grp_len a1 (i:=(nth t.arcs k Arc.zero).frm.toNat) (by omega)
      have r2:=grp_len a2 (i:=(nth t.arcs k Arc.zero).to.toNat) (by omega)
      have r3:=take_len_le t.arcs k
      refine .inl ⟨(s.1.set (nth t.arcs k Arc.zero).frm.toNat (nth s.1 (nth t.arcs k Arc.zero).frm.toNat []++[(nth t.arcs k Arc.zero).to]),s.2.set (nth t.arcs k Arc.zero).to.toNat (nth s.2 (nth t.arcs k Arc.zero).to.toNat []++[(nth t.arcs k Arc.zero).frm])),?_,a1.snoc b1.1 (by omega),a2.snoc b2.1 (by omega)⟩
      show Bc_ t s.1 s.2 k=_
      unfold Bc_ Ei_ Eg_
      rw [iteO_dt (by omega),grd_mk ⟨b1.1,by omega⟩,grd_mk (by simp only [List.length_singleton];omega),grd_mk ⟨b1.1,by omega⟩,grd_mk ⟨b2.1,by omega⟩,grd_mk (by simp only [List.length_singleton];omega),grd_mk ⟨b2.1,by omega⟩]
      rfl)
    (fun s hI=>⟨(t,s.1,s.2),by
      show Bc_ t s.1 s.2 t.arcs.length=_
      unfold Bc_
      rw [iteO_df (by omega)];rfl,s.1,s.2,rfl,hI.1,hI.2⟩)
    (s0:=(List.replicate t.states.toNat [],List.replicate t.states.toNat [])) ⟨Grp.nil ..,Grp.nil ..⟩
  exact ⟨on,bk,h2,h3,h4⟩
theorem stE_on{t:Fst}(ht:FstOk t){key val:Arc→Int}{l:List (List Int)}(h:Grp key val t.states.toNat l t.arcs)(hk: ∀a∈t.arcs,0≤key a∧key a<t.states):stE l=fun a b=> ∃x∈t.arcs,key x=a∧val x=b:=by
  funext a b
  refine propext ⟨fun ⟨h0,hb⟩=> ?_,fun ⟨x,hx,h1,h2⟩=> ?_⟩
  · have hlt:a.toNat<t.states.toNat:=by
      have:=h.len
      by_cases hl:a.toNat<l.length
      · omega
      unfold nth at hb
      rw [List.getD_eq_getElem?_getD,List.getElem?_eq_none (by omega)]at hb
      simp at hb
    rw [h.row _ hlt,List.mem_map]at hb
    obtain ⟨x,hx,e⟩:=hb
    have:=List.mem_filter.1 hx
    exact ⟨x,this.1,by have:=of_decide_eq_true this.2;omega,e⟩
  have:=hk x hx
  refine ⟨by omega,?_⟩
  rw [h.row _ (by omega),List.mem_map]
  exact ⟨x,List.mem_filter.2 ⟨hx,decide_eq_true (by omega)⟩,h2⟩
theorem grp_rng{t:Fst}{key val:Arc→Int}{l:List (List Int)}(h:Grp key val t.states.toNat l t.arcs)(hk: ∀a∈t.arcs,0≤val a∧val a<t.states): ∀a, ∀z∈nth l a [],0≤z∧z<t.states.toNat:=fun a z hz=>by
  have hl:=h.len
  by_cases ha:a<t.states.toNat
  · rw [h.row _ ha,List.mem_map]at hz
    obtain ⟨x,hx,rfl⟩:=hz
    have:=hk x (List.mem_filter.1 hx).1
    omega
  unfold nth at hz
  rw [List.getD_eq_getElem?_getD,List.getElem?_eq_none (by omega)]at hz
  simp at hz
def NumOk(p:Nat→Bool)(n:Nat)(num:List Int):Prop:=num.length=n∧ ∀s:Int,0≤s→s<n→nth num s.toNat 0=numB p s
theorem keepT_snoc(p:Nat→Bool)(l:List Tip)(k:Nat)(h:k<l.length):keepT p (l.take (k+1))=keepT p (l.take k)++(if 0≤numB p (nth l k Tip.zero).state then [⟨numB p (nth l k Tip.zero).state,(nth l k Tip.zero).out⟩] else []):=by
  rw [take_snoc l h Tip.zero]
  unfold keepT
  rw [List.filterMap_append]
  congr 1
  by_cases hc:0≤numB p (nth l k Tip.zero).state
  · rw [List.filterMap_cons,if_pos hc,if_pos hc];rfl
  rw [List.filterMap_cons,if_neg hc,if_neg hc];rfl
theorem keepA_snoc(p:Nat→Bool)(l:List Arc)(k:Nat)(h:k<l.length):keepA p (l.take (k+1))=keepA p (l.take k)++(if 0≤numB p (nth l k Arc.zero).frm∧0≤numB p (nth l k Arc.zero).to then [⟨numB p (nth l k Arc.zero).frm,numB p (nth l k Arc.zero).to,(nth l k Arc.zero).set,(nth l k Arc.zero).out,(nth l k Arc.zero).copy⟩] else []):=by
  rw [take_snoc l h Arc.zero]
  unfold keepA
  rw [List.filterMap_append]
  congr 1
  by_cases hc:0≤numB p (nth l k Arc.zero).frm∧0≤numB p (nth l k Arc.zero).to
  · rw [List.filterMap_cons,if_pos hc,if_pos hc];rfl
  rw [List.filterMap_cons,if_neg hc,if_neg hc];rfl
theorem trim_arcs{t:Fst}(ht:FstOk t){p:Nat→Bool}{num:List Int}(hn:NumOk p t.states.toNat num)(c:Nat)(S E:List Tip):
    iter (fun q:List Arc×Nat=>B2_ t num c S E q.1 q.2) (([]:List Arc),0)=bnd (C8_ ⟨(c:Int),S,E,keepA p t.arcs⟩) (fun v=>some (v.1,v.2)):=by
  have hN:=ht.arcsN
  obtain ⟨r,hr⟩: ∃r,bnd (C8_ ⟨(c:Int),S,E,keepA p t.arcs⟩) (fun v=>some (v.1,v.2))=some r:=by rw [sort_eq];exact ⟨_,rfl⟩
  rw [hr]
  refine iter_fold t.arcs Arc.zero (fun k=>keepA p (t.arcs.take k)) (fun k hk=> ?_) ?_
  · obtain ⟨b1,b2,b3,b4⟩:=ht.arcs _ (mem_at Arc.zero hk)
    have hl:=keepA_len p (t.arcs.take k)
    have r3:=take_len_le t.arcs k
    have e1:=hn.2 _ b1.1 (by omega)
    have e2:=hn.2 _ b2.1 (by omega)
    have l1:=hn.1
    show B2_ t num c S E _ k=_
    unfold B2_ De_
    rw [iteO_dt (by omega),grd_mk ⟨b1.1,by omega⟩,grd_mk ⟨b2.1,by omega⟩,e1,e2,keepA_snoc p _ k hk]
    by_cases c1:0≤numB p (nth t.arcs k Arc.zero).frm
    · rw [iteO_dt c1]
      by_cases c2:0≤numB p (nth t.arcs k Arc.zero).to
      · rw [iteO_dt c2,if_pos ⟨c1,c2⟩,grd_mk (by simp only [List.length_singleton];omega)];rfl
      rw [iteO_df c2,if_neg (fun h=>c2 h.2),List.append_nil];rfl
    rw [iteO_df c1,if_neg (fun h=>c1 h.1),List.append_nil];rfl
  show B2_ t num c S E _ _=_
  unfold B2_
  rw [iteO_df (by omega),List.take_length,hr];rfl
theorem trim_ends{t:Fst}(ht:FstOk t){p:Nat→Bool}{num:List Int}(hn:NumOk p t.states.toNat num)(c:Nat)(S:List Tip):
    iter (fun q:List Tip×Nat=>Bx_ t num c S q.1 q.2) (([]:List Tip),0)=bnd (C8_ ⟨(c:Int),S,keepT p t.ends,keepA p t.arcs⟩) (fun v=>some (v.1,v.2)):=by
  have hN:=ht.endsN
  obtain ⟨r,hr⟩: ∃r,bnd (C8_ ⟨(c:Int),S,keepT p t.ends,keepA p t.arcs⟩) (fun v=>some (v.1,v.2))=some r:=by rw [sort_eq];exact ⟨_,rfl⟩
  rw [hr]
  refine iter_fold t.ends Tip.zero (fun k=>keepT p (t.ends.take k)) (fun k hk=> ?_) ?_
  · obtain ⟨b1,b2⟩:=ht.ends _ (mem_at Tip.zero hk)
    have hl:=keepT_len p (t.ends.take k)
    have r3:=take_len_le t.ends k
    have e1:=hn.2 _ b1.1 (by omega)
    have l1:=hn.1
    show Bx_ t num c S _ k=_
    unfold Bx_ D5_
    rw [iteO_dt (by omega),grd_mk ⟨b1.1,by omega⟩,e1,keepT_snoc p _ k hk]
    by_cases c1:0≤numB p (nth t.ends k Tip.zero).state
    · rw [iteO_dt c1,if_pos c1,grd_mk (by simp only [List.length_singleton];omega)];rfl
    rw [iteO_df c1,if_neg c1,List.append_nil];rfl
  show Bx_ t num c S _ _=_
  unfold Bx_
  rw [iteO_df (by omega),List.take_length,trim_arcs ht hn,hr];rfl
theorem trim_starts{t:Fst}(ht:FstOk t){p:Nat→Bool}{num:List Int}(hn:NumOk p t.states.toNat num)(c:Nat):
    iter (fun q:List Tip×Nat=>Bz_ t num c q.1 q.2) (([]:List Tip),0)=bnd (C8_ ⟨(c:Int),keepT p t.starts,keepT p t.ends,keepA p t.arcs⟩) (fun v=>some (v.1,v.2)):=by
  have hN:=ht.startsN
  obtain ⟨r,hr⟩: ∃r,bnd (C8_ ⟨(c:Int),keepT p t.starts,keepT p t.ends,keepA p t.arcs⟩) (fun v=>some (v.1,v.2))=some r:=by rw [sort_eq];exact ⟨_,rfl⟩
  rw [hr]
  refine iter_fold t.starts Tip.zero (fun k=>keepT p (t.starts.take k)) (fun k hk=> ?_) ?_
  · obtain ⟨b1,b2⟩:=ht.starts _ (mem_at Tip.zero hk)
    have hl:=keepT_len p (t.starts.take k)
    have r3:=take_len_le t.starts k
    have e1:=hn.2 _ b1.1 (by omega)
    have l1:=hn.1
    show Bz_ t num c _ k=_
    unfold Bz_ D6_
    rw [iteO_dt (by omega),grd_mk ⟨b1.1,by omega⟩,e1,keepT_snoc p _ k hk]
    by_cases c1:0≤numB p (nth t.starts k Tip.zero).state
    · rw [iteO_dt c1,if_pos c1,grd_mk (by simp only [List.length_singleton];omega)];rfl
    rw [iteO_df c1,if_neg c1,List.append_nil];rfl
  show Bz_ t num c _ _=_
  unfold Bz_
  rw [iteO_df (by omega),List.take_length,trim_ends ht hn,hr];rfl
theorem number_eq {t : Fst} (ht : FstOk t) {on bk : List (List Int)} (h1 : Grp Arc.frm Arc.to t.states.toNat on t.arcs) (h2 : Grp Arc.to Arc.frm t.states.toNat bk t.arcs) {l0 : List Int} (hl0 : l0.length = t.states.toNat) (hm : ∀ i, i < t.states.toNat → nth l0 i 0 = -1) :
    ∃num,Dq_ (stepY (fun (q:List Int×Nat) (x:Int)=>Ch_ q.1 q.2 x)) (0,(l0,0)) (⟨t.states,t.starts,t.ends,t.arcs⟩:Fst) on bk=some (0,(num,cntB (useB t) t.states.toNat))∧NumOk (useB t) t.states.toNat num:=by
  have h0:=ht.st0
  have hs1:=ht.st1
  obtain ⟨ah,a1,a2,a3⟩:=reach_ok (tips:=t.starts) (by omega) h1.len (grp_rng h1 fun a ha=>(ht.arcs a ha).2.1) (fun x hx=>by have:=(ht.starts x hx).1;omega)
  obtain ⟨be,b1,b2,b3⟩:=reach_ok (tips:=t.ends) (by omega) h2.len (grp_rng h2 fun a ha=>(ht.arcs a ha).1) (fun x hx=>by have:=(ht.ends x hx).1;omega)
  rw [stE_on ht h1 fun a ha=>(ht.arcs a ha).1]at a3
  rw [stE_on ht h2 fun a ha=>(ht.arcs a ha).2.1]at b3
  have hp: ∀v,useB t v=(nth ah v false && nth be v false):=fun v=>by
    rw [Bool.eq_iff_iff,Bool.and_eq_true,a3 v,b3 v];exact useB_iff
  unfold Dq_
  rw [bnd_some a1,bnd_some b1]
  obtain ⟨r,e,f⟩:=iter_up (step:=fun q:Nat×(Nat×List Int×Nat)=>Ar_ ah be (stepY (fun (q:List Int×Nat) (x:Int)=>Ch_ q.1 q.2 x)) q.1 q.2) (fun (s:Nat×List Int×Nat) k=>(k,s)) t.states.toNat
    (fun k s=>s.1=0∧s.2.2=cntB (useB t) k∧s.2.1.length=t.states.toNat∧ ∀i,i<t.states.toNat→nth s.2.1 i 0=if i<k then numB (useB t) i else -1)
    (fun r=>r.1=0∧r.2.2=cntB (useB t) t.states.toNat∧NumOk (useB t) t.states.toNat r.2.1)
    (fun k s hk ⟨c1,c2,c3,c4⟩=>by
      obtain ⟨j,l,c⟩:=s
      obtain rfl:j=0:=c1
      obtain rfl:c=cntB (useB t) k:=c2
      dsimp only at c3 c4
      refine .inl ?_
      show ∃s':Nat×List Int×Nat,Ar_ ah be _ k (0,l,cntB (useB t) k)=_∧_
      unfold Ar_ Cd_
      rw [iteO_dt (by omega)]
      have hk':=hp k
      cases ha:nth ah k false with
      |false=>
        rw [ha,Bool.false_and]at hk'
        refine ⟨(0,l,cntB (useB t) k),rfl,rfl,by simp only [cntB,hk'];rfl,c3,fun i hi=> ?_⟩
        dsimp only
        rw [c4 i hi]
        by_cases e1:i<k
        · rw [if_pos e1,if_pos (by omega)]
        rw [if_neg e1]
        by_cases e2:i<k+1
        · obtain rfl:i=k:=by omega
          rw [if_pos e2];unfold numB;simp [hk']
        rw [if_neg e2]
      |true=>
        rw [iteO_true,grd_mk (by omega)]
        cases hb:nth be k false with
        |false=>
          rw [ha,hb,Bool.true_and]at hk'
          refine ⟨(0,l,cntB (useB t) k),rfl,rfl,by simp only [cntB,hk'];rfl,c3,fun i hi=> ?_⟩
          dsimp only
          rw [c4 i hi]
          by_cases e1:i<k
          · rw [if_pos e1,if_pos (by omega)]
          rw [if_neg e1]
          by_cases e2:i<k+1
          · obtain rfl:i=k:=by omega
            rw [if_pos e2];unfold numB;simp [hk']
          rw [if_neg e2]
        |true=>
          rw [ha,hb,Bool.true_and]at hk'
          have hy:stepY (fun (q:List Int×Nat) (x:Int)=>Ch_ q.1 q.2 x) (0,l,cntB (useB t) k) ((k:Nat):Int)=some ((0,l.set k ((cntB (useB t) k:Nat):Int),cntB (useB t) k+1),true):=by
            unfold stepY
            rw [if_pos rfl]
            show (Ch_ l (cntB (useB t) k) ((k:Nat):Int)).bind _=_
            unfold Ch_
            have hself:=cntB_self (useB t) k
            rw [grd_mk ⟨by omega,by omega⟩,grd_mk (by omega)];rfl
          rw [iteO_true,bnd_some hy]
          refine ⟨(0,l.set k ((cntB (useB t) k:Nat):Int),cntB (useB t) k+1),rfl,rfl,by simp only [cntB,hk',if_true],by rw [List.length_set];exact c3,fun i hi=> ?_⟩
          dsimp only
          rw [nth_set]
          by_cases e1:k=i
          · subst e1
            rw [if_pos ⟨rfl,by omega⟩,if_pos (by omega),numB_pos (by simpa using hk')];simp
          rw [if_neg (fun h=>e1 h.1),c4 i hi]
          by_cases e2:i<k
          · rw [if_pos e2,if_pos (by omega)]
          rw [if_neg e2,if_neg (by omega)])
    (fun s ⟨c1,c2,c3,c4⟩=>⟨s,by
      show Ar_ ah be _ _ s=_
      unfold Ar_
      rw [iteO_df (by omega)];rfl,c1,c2,c3,fun v h1 h2=>by
        rw [c4 _ (by omega),if_pos (by omega),show ((v.toNat:Nat):Int)=v by omega]⟩)
    (s0:=(0,l0,0)) ⟨rfl,rfl,hl0,fun i hi=>by rw [if_neg (by omega)];exact hm i hi⟩
  obtain ⟨j,num,c⟩:=r
  obtain ⟨f1,f2,f3⟩:=f
  dsimp only at f1 f2 f3
  subst f1 f2
  exact ⟨num,e,f3⟩
def trimD(t:Fst):Fst:=srt (keepF (useB t) t)
theorem ok_rng{t:Fst}(ht:FstOk t):Rng t:=⟨fun x hx=>(ht.starts x hx).1,fun x hx=>(ht.ends x hx).1,fun x hx=>⟨(ht.arcs x hx).1,(ht.arcs x hx).2.1⟩⟩
theorem keep_ok{t:Fst}(ht:FstOk t):FstOk (keepF (useB t) t):=by
  have hr:=keep_rng (t:=t) (r:=keepF (useB t) t) (fun _=>Iff.rfl) (fun _=>Iff.rfl) (fun _=>Iff.rfl) rfl (ok_rng ht)
  have h1:=ht.st1
  have hc:=cntB_self (useB t) t.states.toNat
  have l1:=keepT_len (useB t) t.starts
  have l2:=keepT_len (useB t) t.ends
  have l3:=keepA_len (useB t) t.arcs
  refine ⟨by show (0:Int)≤((cntB (useB t) t.states.toNat:Nat):Int);omega,by have:=ht.st0;show ((cntB (useB t) t.states.toNat:Nat):Int)≤1024;omega,Nat.le_trans l3 ht.arcsN,Nat.le_trans l1 ht.startsN,Nat.le_trans l2 ht.endsN,fun y hy=>⟨hr.starts y hy,?_⟩,fun y hy=>⟨hr.ends y hy,?_⟩,fun y hy=>⟨(hr.arcs y hy).1,(hr.arcs y hy).2,?_⟩⟩
  · obtain ⟨x,hx,_,rfl⟩:=mem_keepT.1 hy;exact (ht.starts x hx).2
  · obtain ⟨x,hx,_,rfl⟩:=mem_keepT.1 hy;exact (ht.ends x hx).2
  obtain ⟨x,hx,_,_,rfl⟩:=mem_keepA.1 hy;exact (ht.arcs x hx).2.2
theorem trim_eq (t : Fst) : E0_ t = some (if fstB t = true then (trimD t, 0) else (⟨0, [], [], []⟩, 1)) := by
  unfold E0_
  rw [Be_,bnd,Option.bind_some,errB_ne]
  by_cases h:fstB t=true
  · have ht:=(fstB_iff t).1 h
    have h0:=ht.st0
    have h1:=ht.st1
    rw [h,Bool.not_true,iteO_false,grd_mk ⟨h0,by omega⟩,if_pos rfl]
    obtain ⟨r,e,rfl⟩:=iter_up (step:=fun q:List Int×Nat=>B3_ t q.1 q.2) (fun (l:List Int) k=>(l,k)) t.states.toNat
      (fun k l=>l.length=t.states.toNat∧ ∀i,i<k→nth l i 0= -1) (fun r=>r=(trimD t,0))
      (fun k l hk ⟨c1,c2⟩=> .inl ⟨l.set k (-1),by
        show B3_ t l k=_
        unfold B3_
        rw [List.length_replicate,iteO_dt (by omega),grd_mk (by omega)];rfl,by rw [List.length_set];exact c1,fun i hi=>by
          rw [nth_set]
          by_cases e1:k=i
          · rw [if_pos ⟨e1,by omega⟩]
          rw [if_neg (fun h=>e1 h.1)];exact c2 i (by omega)⟩)
      (fun l ⟨c1,c2⟩=>⟨(trimD t,0),by
        obtain ⟨on,bk,u1,u2,u3⟩:=useful_eq ht
        obtain ⟨num,v1,v2⟩:=number_eq ht u2 u3 c1 c2
        show B3_ t l _=_
        unfold B3_
        rw [List.length_replicate,iteO_df (by omega),bnd_some u1]
        dsimp only
        rw [bnd_some v1]
        unfold Gv_
        show fin (iter _ _)=_
        rw [trim_starts ht v2,sort_eq]
        show fin (bnd (some (if fstB (keepF (useB t) t)=true then (srt (keepF (useB t) t),0) else _)) _)=_
        rw [if_pos ((fstB_iff _).2 (keep_ok ht))];rfl,rfl⟩)
      (s0:=List.replicate t.states.toNat 0) ⟨List.length_replicate ..,fun i hi=>by omega⟩
    exact e
  simp only [Bool.not_eq_true]at h
  rw [h];rfl
end Go.Proofs.YtnpbfjdpglfdkaaGreatDoor
end

noncomputable section
namespace Go.Proofs.YtnpbfjdpglfdkaaGreatDoor
open Go Go.E
def em(a:Arc)(b:UInt8):List UInt8:=if a.copy then a.out++[b] else a.out
theorem outOf_em(p:FPair)(a:Arc)(b:UInt8):outOf p a b=p.out++em a b:=by
  unfold outOf em;split<;>simp
inductive Wy (t:Fst):Int→List UInt8→List UInt8→Int→Prop
  |nil (s:Int):Wy t s [] [] s
  |cons {w o:List UInt8} {q:Int} (a:Arc) (b:UInt8):a∈t.arcs→a.set.has b.toNat=true→Wy t a.to w o q→Wy t a.frm (b::w) (em a b++o) q
theorem Wy.nil_inv{t:Fst}{s q:Int}{o:List UInt8}(h:Wy t s [] o q):o=[]∧q=s:=by
  cases h;exact ⟨rfl,rfl⟩
theorem Wy.cons_inv{t:Fst}{s q:Int}{b:UInt8}{w o:List UInt8}(h:Wy t s (b::w) o q): ∃a∈t.arcs,a.frm=s∧a.set.has b.toNat=true∧ ∃o',Wy t a.to w o' q∧o=em a b++o':=by
  cases h with
  |cons a b ha hb hw=>exact ⟨a,ha,rfl,hb,_,hw,rfl⟩
theorem Wy.append{t:Fst}{s m q:Int}{u v o p:List UInt8}(h:Wy t s u o m)(k:Wy t m v p q):Wy t s (u++v) (o++p) q:=by
  induction h with
  |nil s=>exact k
  |cons a b ha hb _ ih=>rw [List.append_assoc];exact .cons a b ha hb (ih k)
theorem Wy.split{t:Fst}: ∀{u v o:List UInt8} {s q:Int},Wy t s (u++v) o q→ ∃m o1 o2,Wy t s u o1 m∧Wy t m v o2 q∧o=o1++o2
  |[],v,o,s,q,h=>⟨s,[],o,.nil s,h,rfl⟩
  |b::u,v,o,s,q,h=>by
    obtain ⟨a,ha,rfl,hb,o',hw,rfl⟩:=Wy.cons_inv h
    obtain ⟨m,o1,o2,h1,h2,rfl⟩:=Wy.split hw
    exact ⟨m,em a b++o1,o2,.cons a b ha hb h1,h2,by rw [List.append_assoc]⟩
theorem Wy.one{t:Fst}{a:Arc}{b:UInt8}(ha:a∈t.arcs)(hb:a.set.has b.toNat=true):Wy t a.frm [b] (em a b) a.to:=by
  have:=Wy.cons a b ha hb (.nil a.to)
  rwa [List.append_nil]at this
theorem mem_pairs {t : Fst} (w : List UInt8) : ∀ q, q ∈ pairsL t w ↔ ∃ x ∈ t.starts, ∃ o, Wy t x.state w o q.state ∧ q.out = x.out ++ o := by
  induction w using rev_ind with
  |h0=>
    intro q
    show q∈t.starts.map tp↔_
    rw [List.mem_map]
    constructor
    · rintro ⟨x,hx,rfl⟩;exact ⟨x,hx,[],.nil _,by simp [tp]⟩
    rintro ⟨x,hx,o,hw,ho⟩
    obtain ⟨rfl,e⟩:=hw.nil_inv
    refine ⟨x,hx,?_⟩
    obtain ⟨s,z⟩:=q
    rw [List.append_nil]at ho
    dsimp only at e ho
    subst e ho;rfl
  |h1 w b ih=>
    intro q
    rw [pairsL_snoc,mem_aftP]
    constructor
    · rintro ⟨p,hp,a,ha,h1,h2,rfl⟩
      obtain ⟨x,hx,o,hw,ho⟩:=(ih p).1 hp
      refine ⟨x,hx,o++em a b,?_,?_⟩
      · rw [←h1]at hw
        exact hw.append (Wy.one ha h2)
      show outOf p a b=_
      rw [outOf_em,ho,List.append_assoc]
    rintro ⟨x,hx,o,hw,ho⟩
    obtain ⟨m,o1,o2,h1,h2,rfl⟩:=hw.split
    obtain ⟨a,ha,e,hb,o',h3,rfl⟩:=h2.cons_inv
    obtain ⟨rfl,e2⟩:=h3.nil_inv
    refine ⟨⟨m,x.out++o1⟩,(ih _).2 ⟨x,hx,o1,h1,rfl⟩,a,ha,e,hb,?_⟩
    obtain ⟨s,z⟩:=q
    dsimp only at e2 ho
    rw [outOf_em,e2,ho,List.append_nil]
    simp
def Rel(t:Fst)(w o:List UInt8):Prop:= ∃x∈t.starts, ∃e∈t.ends, ∃m,Wy t x.state w m e.state∧o=x.out++(m++e.out)
theorem mem_outs_rel{t:Fst}{w o:List UInt8}:o∈outsL t w↔Rel t w o:=by
  rw [mem_outsL]
  constructor
  · rintro ⟨p,hp,e,he,h1,rfl⟩
    obtain ⟨x,hx,m,hw,ho⟩:=(mem_pairs w p).1 hp
    exact ⟨x,hx,e,he,m,by rw [h1];exact hw,by rw [ho,List.append_assoc]⟩
  rintro ⟨x,hx,e,he,m,hw,rfl⟩
  exact ⟨⟨e.state,x.out++m⟩,(mem_pairs w _).2 ⟨x,hx,m,hw,rfl⟩,e,he,rfl,by rw [List.append_assoc]⟩
theorem outs_rel{s t:Fst}{w v:List UInt8}(h: ∀o,Rel s w o↔Rel t v o):outsL s w=outsL t v:=
  rising_eq cmpB_good (outsL_rise s w) (outsL_rise t v) fun o=>by rw [mem_outs_rel,mem_outs_rel];exact h o
theorem Wy.map{t T:Fst}(f:Int→Int)(h: ∀a∈t.arcs,(⟨f a.frm,f a.to,a.set,a.out,a.copy⟩:Arc)∈T.arcs){s q:Int}{w o:List UInt8}(k:Wy t s w o q):Wy T (f s) w o (f q):=by
  induction k with
  |nil s=>exact .nil _
  |cons a b ha hb _ ih=>exact Wy.cons (⟨f a.frm,f a.to,a.set,a.out,a.copy⟩:Arc) b (h a ha) hb ih
theorem Wy.unmap{t T:Fst}(P:Int→Prop)(g:Int→Int)(h: ∀a∈T.arcs,P a.frm→P a.to∧(⟨g a.frm,g a.to,a.set,a.out,a.copy⟩:Arc)∈t.arcs){s q:Int}{w o:List UInt8}(k:Wy T s w o q)(hs:P s):P q∧Wy t (g s) w o (g q):=by
  induction k with
  |nil s=>exact ⟨hs,.nil _⟩
  |cons a b ha hb _ ih=>
    obtain ⟨h1,h2⟩:=h a ha hs
    obtain ⟨h3,h4⟩:=ih h1
    exact ⟨h3,Wy.cons (⟨g a.frm,g a.to,a.set,a.out,a.copy⟩:Arc) b h2 hb h4⟩
end Go.Proofs.YtnpbfjdpglfdkaaGreatDoor
end

noncomputable section
namespace Go.Proofs.YtnpbfjdpglfdkaaGreatDoor
open Go Go.E
def shT(n:Int)(l:List Tip):List Tip:=l.map fun x=>⟨x.state+n,x.out⟩
def shA(n:Int)(l:List Arc):List Arc:=l.map fun x=>⟨x.frm+n,x.to+n,x.set,x.out,x.copy⟩
def fAlt(a b:Fst):Fst:=⟨a.states+b.states,a.starts++shT a.states b.starts,a.ends++shT a.states b.ends,a.arcs++shA a.states b.arcs⟩
theorem mem_shT{n:Int}{l:List Tip}{y:Tip}:y∈shT n l↔ ∃x∈l,y=⟨x.state+n,x.out⟩:=by
  unfold shT;rw [List.mem_map]
  exact ⟨fun ⟨x,h,e⟩=>⟨x,h,e.symm⟩,fun ⟨x,h,e⟩=>⟨x,h,e.symm⟩⟩
theorem mem_shA{n:Int}{l:List Arc}{y:Arc}:y∈shA n l↔ ∃x∈l,y=⟨x.frm+n,x.to+n,x.set,x.out,x.copy⟩:=by
  unfold shA;rw [List.mem_map]
  exact ⟨fun ⟨x,h,e⟩=>⟨x,h,e.symm⟩,fun ⟨x,h,e⟩=>⟨x,h,e.symm⟩⟩
theorem alt_left{a b:Fst}(ha:FstOk a)(hb:FstOk b): ∀x∈(fAlt a b).arcs,x.frm<a.states→x.to<a.states∧(⟨id x.frm,id x.to,x.set,x.out,x.copy⟩:Arc)∈a.arcs:=fun x hx h=>by
  rcases List.mem_append.1 hx with hx|hx
  · exact ⟨(ha.arcs x hx).2.1.2,hx⟩
  obtain ⟨y,hy,rfl⟩:=mem_shA.1 hx
  have:=(hb.arcs y hy).1.1
  dsimp only at h;omega
theorem alt_right{a b:Fst}(ha:FstOk a)(hb:FstOk b): ∀x∈(fAlt a b).arcs,a.states≤x.frm→a.states≤x.to∧(⟨x.frm - a.states,x.to - a.states,x.set,x.out,x.copy⟩:Arc)∈b.arcs:=fun x hx h=>by
  rcases List.mem_append.1 hx with hx|hx
  · have:=(ha.arcs x hx).1.2;omega
  obtain ⟨y,hy,rfl⟩:=mem_shA.1 hx
  have:=(hb.arcs y hy).2.1.1
  dsimp only
  refine ⟨by omega,?_⟩
  rw [show y.frm+a.states - a.states=y.frm by omega,show y.to+a.states - a.states=y.to by omega];exact hy
theorem rel_alt{a b:Fst}(ha:FstOk a)(hb:FstOk b){w o:List UInt8}:Rel (fAlt a b) w o↔Rel a w o∨Rel b w o:=by
  constructor
  · rintro ⟨x,hx,e,he,m,hw,rfl⟩
    rcases List.mem_append.1 hx with hx|hx
    · obtain ⟨h1,h2⟩:=Wy.unmap (fun s=>s<a.states) id (alt_left ha hb) hw (ha.starts x hx).1.2
      rcases List.mem_append.1 he with he|he
      · exact .inl ⟨x,hx,e,he,m,h2,rfl⟩
      obtain ⟨y,hy,rfl⟩:=mem_shT.1 he
      have:=(hb.ends y hy).1.1
      dsimp only at h1;omega
    obtain ⟨x',hx',rfl⟩:=mem_shT.1 hx
    obtain ⟨h1,h2⟩:=Wy.unmap (fun s=>a.states≤s) (fun s=>s - a.states) (alt_right ha hb) hw (by have:=(hb.starts x' hx').1.1;dsimp only;omega)
    dsimp only at h2
    rw [show x'.state+a.states - a.states=x'.state by omega]at h2
    rcases List.mem_append.1 he with he|he
    · have:=(ha.ends e he).1.2;omega
    obtain ⟨y,hy,rfl⟩:=mem_shT.1 he
    dsimp only at h2
    rw [show y.state+a.states - a.states=y.state by omega]at h2
    exact .inr ⟨x',hx',y,hy,m,h2,rfl⟩
  rintro (⟨x,hx,e,he,m,hw,rfl⟩|⟨x,hx,e,he,m,hw,rfl⟩)
  · exact ⟨x,List.mem_append_left _ hx,e,List.mem_append_left _ he,m,hw.map id (fun y hy=>List.mem_append_left _ hy),rfl⟩
  exact ⟨_,List.mem_append_right _ (mem_shT.2 ⟨x,hx,rfl⟩),_,List.mem_append_right _ (mem_shT.2 ⟨e,he,rfl⟩),m,hw.map (fun s=>s+a.states) (fun y hy=>List.mem_append_right _ (mem_shA.2 ⟨y,hy,rfl⟩)),rfl⟩
end Go.Proofs.YtnpbfjdpglfdkaaGreatDoor
end

noncomputable section
namespace Go.Proofs.YtnpbfjdpglfdkaaGreatDoor
open Go Go.E
end Go.Proofs.YtnpbfjdpglfdkaaGreatDoor
end

noncomputable section
namespace Go.E
open Go
class LeC {α:Type} (a b:Option α):Prop where
  le: ∀r,a=some r→b=some r
instance LeC.bnd {α β:Type} {a b:Option α} {f g:α→Option β} [h:LeC a b] [k: ∀x,LeC (f x) (g x)]:LeC (Go.E.bnd a f) (Go.E.bnd b g):=⟨fun r hr=>by
  obtain ⟨x,h1,h2⟩:=bnd_e hr
  rw [bnd_some (h.le _ h1)];exact (k x).le _ h2⟩
instance LeC.grd {α:Type} {p:Prop} [Decidable p] {a b:Option α} [h:LeC a b]:LeC (Go.E.grd p a) (Go.E.grd p b):=⟨fun r hr=>by
  rw [grd_mk (grd_c hr)];exact h.le _ (grd_t hr)⟩
instance LeC.iteO {α:Type} {c:Bool} {a b a' b':Option α} [h:LeC a b] [k:LeC a' b']:LeC (Go.E.iteO c a a') (Go.E.iteO c b b'):=⟨fun r hr=>by
  cases c
  · exact k.le _ hr
  exact h.le _ hr⟩
instance LeC.fin {S α:Type} {a b:Option α} [h:LeC a b]:LeC (Go.E.fin (S:=S) a) (Go.E.fin b):=⟨fun r hr=>by
  cases a with
  |none=>cases hr
  |some x=>rw [h.le x rfl];exact hr⟩
instance LeC.nxt {S R:Type} {s:S}:LeC (Go.E.nxt (R:=R) s) (Go.E.nxt s):=⟨fun _ h=>h⟩
instance LeC.some {α:Type} {x:α}:LeC (Option.some x) (Option.some x):=⟨fun _ h=>h⟩
instance LeC.none {α:Type} {b:Option α}:LeC Option.none b:=⟨fun _ h=>by cases h⟩
def iterX{S R:Type}(n:Nat)(f:S→Option (S⊕R))(s:S):Option R:=iterN f n s
theorem iterN_LeC{S R:Type}{f g:S→Option (S⊕R)}(h: ∀s,LeC (f s) (g s)): ∀(n:Nat) (s:S) (r:R),iterN f n s=Option.some r→iterN g n s=Option.some r
  |0,_,_,hr=>by cases hr
  | n + 1, s, r, hr => by
    rw [iterN]at hr ⊢
    cases hs:f s with
    |none=>rw [hs]at hr;cases hr
    |some z=>
      rw [hs]at hr
      rw [(h s).le z hs]
      cases z with
      |inl s'=>exact iterN_LeC h n s' r hr
      |inr r'=>exact hr
instance LeC.iter {S R:Type} {n:Nat} {f g:S→Option (S⊕R)} {s:S} [h: ∀s,LeC (f s) (g s)]:LeC (iterX n f s) (Go.E.iter g s):=⟨fun r hr=>iter_iff.2 ⟨n,iterN_LeC h n s r hr⟩⟩
instance LeC.stepY {S α:Type} {B B':S→α→Option (Nat×S)} {p:Nat×S} {x:α} [h: ∀s x,LeC (B s x) (B' s x)]:LeC (Go.E.stepY B p x) (Go.E.stepY B' p x):=⟨fun r hr=>by
  unfold Go.E.stepY at hr ⊢
  split at hr
  · rename_i h0
    rw [if_pos h0]
    cases hb:B p.2 x with
    |none=>rw [hb]at hr;cases hr
    |some q=>rw [hb]at hr;rw [(h p.2 x).le q hb];exact hr
  cases hr⟩
instance LeC.jsel {α:Type} {j:Nat} {a a':Option α} {b b':Nat→Option α} [h:LeC a a'] [k: ∀j,LeC (b j) (b' j)]:LeC (Go.E.jsel j a b) (Go.E.jsel j a' b'):=⟨fun r hr=>by
  cases j with
  |zero=>exact h.le _ hr
  |succ j=>exact (k j).le _ hr⟩
end Go.E
end

noncomputable section
namespace Go.E
open Go
def insI(a:Int):List Int→List Int
  |[]=>[a]
  |b::l=>if a≤b then a::b::l else b::insI a l
def isortI:List Int→List Int
  |[]=>[]
  |a::l=>insI a (isortI l)
theorem insI_app{a:Int}{l2:List Int}(h2: ∀b∈l2,a≤b): ∀(l1:List Int),(∀b∈l1, ¬ a≤b)→insI a (l1++l2)=l1++a::l2
  |[],_=>by
    cases l2 with
    |nil=>rfl
    |cons b l=>simp [insI,h2 b (List.mem_cons_self ..)]
  |b::l1,h=>by
    have h1:=h b (List.mem_cons_self ..)
    simp only [List.cons_append,insI,if_neg h1,insI_app h2 l1 (fun c hc=>h c (List.mem_cons_of_mem _ hc))]
theorem isortI_eq: ∀(l:List Int),isortI l=l.mergeSort fun x y=>decide (x≤y)
  |[]=>by simp [isortI]
  | a :: l => by
    have ht: ∀a b c:Int,decide (a≤b)=true→decide (b≤c)=true→decide (a≤c)=true:=fun a b c h k=>by simp at *;omega
    have hT: ∀a b:Int,(decide (a≤b) || decide (b≤a))=true:=fun a b=>by simp;omega
    obtain ⟨l1,l2,h1,h2,h3⟩:=List.mergeSort_cons (le:=fun x y=>decide (x≤y)) ht hT a l
    have hs:=List.pairwise_mergeSort (le:=fun x y=>decide (x≤y)) ht hT (a::l)
    rw [h1]at hs ⊢
    rw [isortI,isortI_eq l,h2]
    refine insI_app (fun b hb=> ?_) l1 (fun b hb=> ?_)
    · have:=(List.pairwise_append.1 hs).2.1
      simpa using (List.pairwise_cons.1 this).1 b hb
    simpa using h3 b hb
end Go.E
end

noncomputable section
namespace Go.Proofs.YtnpbfjdpglfdkaaGreatDoor
open Go Go.E
set_option synthInstance.maxHeartbeats 2000000
set_option synthInstance.maxSize 100000
def Fc_(n:Nat)(k125:Nat)(l128:List Int)(k130:Nat):Option (((List Int)×Nat×Nat)⊕((Nat)⊕((List Int)))):=
  nxt (l128,k130,(k125+1))
instance compactI_j1_le {n:Nat} {k125:Nat} {l128:List Int} {k130:Nat}:LeC (Fc_ n k125 l128 k130) (Ed_ k125 l128 k130):=by
  unfold Fc_ Ed_;infer_instance
def G1_(n:Nat)(x0:List Int)(k105:Nat)(l122:List Int)(k124:Nat)(k125:Nat):Option (((List Int)×Nat×Nat)⊕((Nat)⊕((List Int)))):=
  iteO (decide (((k125:Nat):Int)<(((x0.length - k105):Nat):Int))) (grd (k125<(x0.length - k105)) (grd (0≤(IntKind.i64.wrap (((k125:Nat):Int) - 1))∧(IntKind.i64.wrap (((k125:Nat):Int) - 1))<((x0.length - k105):Nat)) (iteO (decide ((nth l122 (k105+k125) (0:Int))≠(nth l122 (k105+(IntKind.i64.wrap (((k125:Nat):Int) - 1)).toNat) (0:Int)))) (grd (k125<(x0.length - k105)) (grd (k124<l122.length) (Fc_ n k125 (l122.set k124 (nth l122 (k105+k125) (0:Int))) (k124+1)))) (Fc_ n k125 l122 k124)))) (fin (grd (k124≤x0.length) (grd (k124≤(l122.take k124++List.replicate (l122.length - k124) (0:Int)).length) (fin (some ((l122.take k124++List.replicate (l122.length - k124) (0:Int)).take k124))))))
instance compactI_b2_le {n:Nat} {x0:List Int} {k105:Nat} {l122:List Int} {k124:Nat} {k125:Nat}:LeC (G1_ n x0 k105 l122 k124 k125) (D7_ x0 k105 l122 k124 k125):=by
  unfold G1_ D7_;infer_instance
def Gx_(n:Nat)(x0:List Int)(k105:Nat):Option ((Nat)⊕((List Int))):=
  iteO (decide (((k105:Nat):Int)<((x0.length:Nat):Int))) (grd (0≤(IntKind.i64.wrap (((k105:Nat):Int) - 1))∧(IntKind.i64.wrap (((k105:Nat):Int) - 1))<(x0.length:Int)) (iteO (decide ((nth x0 k105 (0:Int))=(nth x0 ((IntKind.i64.wrap (((k105:Nat):Int) - 1)).toNat) (0:Int)))) (grd (k105≤x0.length) (iterX n (fun q:(List Int)×Nat×Nat=>G1_ n x0 k105 q.1 q.2.1 q.2.2) (x0,k105,1))) (nxt (k105+1)))) (fin (some x0))
instance compactI_b1_le {n:Nat} {x0:List Int} {k105:Nat}:LeC (Gx_ n x0 k105) (D9_ x0 k105):=by
  unfold Gx_ D9_;infer_instance
def H4_(n:Nat)(x0:List Int):Option ((List Int)):=
  iteO (decide (((x0.length:Nat):Int)<2)) (some x0) (iterX n (fun q:Nat=>Gx_ n x0 q) 1)
instance compactI_le {n:Nat} {x0:List Int}:LeC (H4_ n x0) (compactI x0):=by
  unfold H4_ compactI;infer_instance
def intern_Sort_x(n:Nat)(x0:List Int):Option ((List Int)):=
  grd (x0.length * 8≤140737488355328) (bnd (H4_ n (isortI x0)) (fun v8=>some v8))
instance intern_Sort_le {n:Nat} {x0:List Int}:LeC (intern_Sort_x n x0) (intern_Sort x0):=by
  unfold intern_Sort_x intern_Sort;simp only [isortI_eq];infer_instance
def intern_key_b2_x(n:Nat)(x0:List Int)(k115:Nat)(l126:List UInt8)(k129:Nat):Option (((List UInt8)×Nat)⊕(((List UInt8)×Nat)⊕((List UInt8)))):=
  iteO (decide (((k129:Nat):Int)<8)) (grd (0≤IntKind.i64.wrap (8 * ((k129:Nat):Int))) (grd ((l126.length+[(toU8 (((u64shr (u64of (nth x0 k115 (0:Int))) ((IntKind.i64.wrap (8 * ((k129:Nat):Int))).toNat)):Nat):Int))].length) * 1≤140737488355328) (nxt ((l126++[(toU8 (((u64shr (u64of (nth x0 k115 (0:Int))) ((IntKind.i64.wrap (8 * ((k129:Nat):Int))).toNat)):Nat):Int))]),(k129+1))))) (fin (nxt (l126,(k115+1))))
instance intern_key_b2_le {n:Nat} {x0:List Int} {k115:Nat} {l126:List UInt8} {k129:Nat}:LeC (intern_key_b2_x n x0 k115 l126 k129) (intern_key_b2 x0 k115 l126 k129):=by
  unfold intern_key_b2_x intern_key_b2;infer_instance
def intern_key_b1_x(n:Nat)(x0:List Int)(l112:List UInt8)(k115:Nat):Option (((List UInt8)×Nat)⊕((List UInt8))):=
  iteO (decide (((k115:Nat):Int)<((x0.length:Nat):Int))) (iterX n (fun q:(List UInt8)×Nat=>intern_key_b2_x n x0 k115 q.1 q.2) (l112,0)) (fin (some l112))
instance intern_key_b1_le {n:Nat} {x0:List Int} {l112:List UInt8} {k115:Nat}:LeC (intern_key_b1_x n x0 l112 k115) (intern_key_b1 x0 l112 k115):=by
  unfold intern_key_b1_x intern_key_b1;infer_instance
def intern_key_x(n:Nat)(x0:List Int):Option ((List UInt8)):=
  grd (0≤IntKind.i64.wrap (8 * ((x0.length:Nat):Int))∧1 * (IntKind.i64.wrap (8 * ((x0.length:Nat):Int))).toNat≤281474976710656) (iterX n (fun q:(List UInt8)×Nat=>intern_key_b1_x n x0 q.1 q.2) (([]:List UInt8),0))
instance intern_key_le {n:Nat} {x0:List Int}:LeC (intern_key_x n x0) (intern_key x0):=by
  unfold intern_key_x intern_key;infer_instance
def intern_store_string_find_x(n:Nat)(x0:IStore)(x1:List UInt8):Option (Int×Bool):=
  grd (x1.length≤281474976710656) (some ((x0.places.get x1 0),(x0.places.has x1)))
instance intern_store_string_find_le {n:Nat} {x0:IStore} {x1:List UInt8}:LeC (intern_store_string_find_x n x0 x1) (intern_store_string_find x0 x1):=by
  unfold intern_store_string_find_x intern_store_string_find;infer_instance
def intern_store_string_add_x(n:Nat)(x0:IStore)(x1:List UInt8)(x2:List Int):Option (Int×IStore):=
  grd (x1.length≤281474976710656) (grd ((x0.rows.length+[x2].length) * 24≤140737488355328) (some (((x0.rows.length:Nat):Int),(⟨(x0.rows++[x2]),(x0.places.put x1 ((x0.rows.length:Nat):Int))⟩:IStore))))
instance intern_store_string_add_le {n:Nat} {x0:IStore} {x1:List UInt8} {x2:List Int}:LeC (intern_store_string_add_x n x0 x1 x2) (intern_store_string_add x0 x1 x2):=by
  unfold intern_store_string_add_x intern_store_string_add;infer_instance
def intern_New_x(n:Nat):Option (ITable):=
  some (⟨(⟨([]:List (List Int)),(FM.emp:FM (List UInt8) Int)⟩:IStore)⟩:ITable)
instance intern_New_le {n:Nat}:LeC (intern_New_x n) (intern_New):=by
  unfold intern_New_x intern_New;infer_instance
def intern_Table_Put_x(n:Nat)(x0:ITable)(x1:List Int):Option (Int×Bool×Int×ITable):=
  bnd (intern_Sort_x n x1) (fun v10=>bnd (intern_key_x n v10) (fun v13=>bnd (intern_store_string_find_x n (⟨x0.of.rows,x0.of.places⟩:IStore) v13) (fun v19=>iteO v19.2 (some (v19.1,false,0,(⟨(⟨x0.of.rows,x0.of.places⟩:IStore)⟩:ITable))) (iteO (decide (4096≤((x0.of.rows.length:Nat):Int))) (some (0,false,2,(⟨(⟨x0.of.rows,x0.of.places⟩:IStore)⟩:ITable))) (bnd (intern_store_string_add_x n (⟨x0.of.rows,x0.of.places⟩:IStore) v13 v10) (fun v45=>some (v45.1,true,0,(⟨(⟨v45.2.rows,v45.2.places⟩:IStore)⟩:ITable))))))))
instance intern_Table_Put_le {n:Nat} {x0:ITable} {x1:List Int}:LeC (intern_Table_Put_x n x0 x1) (intern_Table_Put x0 x1):=by
  unfold intern_Table_Put_x intern_Table_Put;infer_instance
def intern_Table_Row_x(n:Nat)(x0:ITable)(x1:Int):Option ((List Int)×Int):=
  iteO (decide (x1<0)) (some (([]:List Int),1)) (iteO (decide (((x0.of.rows.length:Nat):Int)≤x1)) (some (([]:List Int),1)) (grd (0≤x1∧x1<(x0.of.rows.length:Int)) (grd ((nth x0.of.rows x1.toNat ([]:List Int)).length * 8≤140737488355328) (some ((nth x0.of.rows x1.toNat ([]:List Int)),0)))))
instance intern_Table_Row_le {n:Nat} {x0:ITable} {x1:Int}:LeC (intern_Table_Row_x n x0 x1) (intern_Table_Row x0 x1):=by
  unfold intern_Table_Row_x intern_Table_Row;infer_instance
def putKeep_x(n:Nat)(x0:ITable)(x1:List Int):Option (Int×Bool×Int×ITable):=
  bnd (intern_Sort_x n x1) (fun v10=>bnd (intern_key_x n v10) (fun v13=>bnd (intern_store_string_find_x n (⟨x0.of.rows,x0.of.places⟩:IStore) v13) (fun v19=>iteO v19.2 (some (v19.1,false,0,(⟨(⟨x0.of.rows,x0.of.places⟩:IStore)⟩:ITable))) (iteO (decide (4096≤((x0.of.rows.length:Nat):Int))) (some (0,false,2,(⟨(⟨x0.of.rows,x0.of.places⟩:IStore)⟩:ITable))) (bnd (intern_store_string_add_x n (⟨x0.of.rows,x0.of.places⟩:IStore) v13 v10) (fun v45=>some (v45.1,true,0,(⟨(⟨v45.2.rows,v45.2.places⟩:IStore)⟩:ITable))))))))
instance putKeep_le {n:Nat} {x0:ITable} {x1:List Int}:LeC (putKeep_x n x0 x1) (putKeep x0 x1):=by
  unfold putKeep_x putKeep;infer_instance
def intern_Table_Size_x(n:Nat)(x0:ITable):Option (Int):=
  some ((x0.of.rows.length:Nat):Int)
instance intern_Table_Size_le {n:Nat} {x0:ITable}:LeC (intern_Table_Size_x n x0) (intern_Table_Size x0):=by
  unfold intern_Table_Size_x intern_Table_Size;infer_instance
def Cm_(n:Nat)(x0:Nat):Option (Int):=
  iteO (decide (x0=0)) (some 64) (grd ((u64shr (u64mul (u64and x0 (u64of (-((x0:Nat):Int)))) 285870213051353865) 58)<64) (some (((nth deB (u64shr (u64mul (u64and x0 (u64of (-((x0:Nat):Int)))) 285870213051353865) 58) (0:UInt8)).toNat:Nat):Int)))
instance math_bits_TrailingZeros64_le {n:Nat} {x0:Nat}:LeC (Cm_ n x0) (Ae_ x0):=by
  unfold Cm_ Ae_;infer_instance
def F3_(n:Nat)(x0:BSet)(k105:Nat):Option ((Nat)⊕(UInt8×Bool)):=
  iteO (decide (((k105:Nat):Int)<4)) (grd (k105<4) (iteO (decide ((BSet.word x0 k105)≠0)) (bnd (Cm_ n (BSet.word x0 k105)) (fun v16=>fin (some ((toU8 (IntKind.i64.wrap ((IntKind.i64.wrap (64 * ((k105:Nat):Int)))+v16))),true)))) (nxt (k105+1)))) (fin (some ((0:UInt8),false)))
instance set_First_b1_le {n:Nat} {x0:BSet} {k105:Nat}:LeC (F3_ n x0 k105) (Ah_ x0 k105):=by
  unfold F3_ Ah_;infer_instance
def Gg_(n:Nat)(x0:BSet):Option (UInt8×Bool):=
  iterX n (fun q:Nat=>F3_ n x0 q) 0
instance set_First_le {n:Nat} {x0:BSet}:LeC (Gg_ n x0) (Ci_ x0):=by
  unfold Gg_ Ci_;infer_instance
def Hb_(n:Nat)(x1:BSet)(z111:BSet)(k112:Nat):Option ((BSet×Nat)⊕(BSet)):=
  iteO (decide (((k112:Nat):Int)<4)) (grd (k112<4) (grd (k112<4) (grd (k112<4) (grd ((u64or (BSet.word z111 k112) (BSet.word x1 k112))<18446744073709551616) (nxt ((BSet.setWord z111 k112 (u64or (BSet.word z111 k112) (BSet.word x1 k112))),(k112+1))))))) (fin (some z111))
instance set_Any_b1_le {n:Nat} {x1:BSet} {z111:BSet} {k112:Nat}:LeC (Hb_ n x1 z111 k112) (Cc_ x1 z111 k112):=by
  unfold Hb_ Cc_;infer_instance
def Hm_(n:Nat)(x0:BSet)(x1:BSet):Option (BSet):=
  iterX n (fun q:BSet×Nat=>Hb_ n x1 q.1 q.2) (x0,0)
instance set_Any_le {n:Nat} {x0:BSet} {x1:BSet}:LeC (Hm_ n x0 x1) (Ec_ x0 x1):=by
  unfold Hm_ Ec_;infer_instance
def Fa_(n:Nat)(k112:Nat)(l115:List UInt8):Option (((List UInt8)×Nat)⊕((List UInt8))):=
  nxt (l115,(k112+1))
instance part_key_j1_le {n:Nat} {k112:Nat} {l115:List UInt8}:LeC (Fa_ n k112 l115) (Dk_ k112 l115):=by
  unfold Fa_ Dk_;infer_instance
def Gu_(n:Nat)(x0:List BSet)(x1:UInt8)(l110:List UInt8)(k112:Nat):Option (((List UInt8)×Nat)⊕((List UInt8))):=
  iteO (decide (((k112:Nat):Int)<((x0.length:Nat):Int))) (iteO ((nth x0 k112 BSet.zero).has x1.toNat) (grd (k112<l110.length) (Fa_ n k112 (l110.set k112 (1:UInt8)))) (Fa_ n k112 l110)) (fin (some l110))
instance part_key_b1_le {n:Nat} {x0:List BSet} {x1:UInt8} {l110:List UInt8} {k112:Nat}:LeC (Gu_ n x0 x1 l110 k112) (Bu_ x0 x1 l110 k112):=by
  unfold Gu_ Bu_;infer_instance
def H3_(n:Nat)(x0:List BSet)(x1:UInt8):Option ((List UInt8)):=
  grd (1 * x0.length≤281474976710656) (iterX n (fun q:(List UInt8)×Nat=>Gu_ n x0 x1 q.1 q.2) ((List.replicate x0.length (0:UInt8)),0))
instance part_key_le {n:Nat} {x0:List BSet} {x1:UInt8}:LeC (H3_ n x0 x1) (Fd_ x0 x1):=by
  unfold H3_ Fd_;infer_instance
def Eh_(n:Nat)(k121:Nat)(m125:FM (List UInt8) Int)(l126:List BSet)(i129:Int):Option (((FM (List UInt8) Int)×(List BSet)×Nat)⊕((List BSet)×Int)):=
  grd (0≤i129∧i129<(l126.length:Int)) (grd ([(toU8 ((k121:Nat):Int))].length≤1000000000000) (bnd (Hm_ n (nth l126 i129.toNat BSet.zero) (BSet.ofL [(toU8 ((k121:Nat):Int))])) (fun v52=>grd (0≤i129∧i129<(l126.length:Int)) (nxt (m125,(l126.set i129.toNat v52),(k121+1))))))
instance part_Parts_j1_le {n:Nat} {k121:Nat} {m125:FM (List UInt8) Int} {l126:List BSet} {i129:Int}:LeC (Eh_ n k121 m125 l126 i129) (Cg_ k121 m125 l126 i129):=by
  unfold Eh_ Cg_;infer_instance
def Fk_(n:Nat)(x0:List BSet)(m116:FM (List UInt8) Int)(l118:List BSet)(k121:Nat):Option (((FM (List UInt8) Int)×(List BSet)×Nat)⊕((List BSet)×Int)):=
  iteO (decide (((k121:Nat):Int)<256)) (bnd (H3_ n x0 (toU8 ((k121:Nat):Int))) (fun v18=>iteO (!(m116.has v18)) (grd ((l118.length+[BSet.zero].length) * 32≤140737488355328) (Eh_ n k121 (m116.put v18 ((l118.length:Nat):Int)) (l118++[BSet.zero]) ((l118.length:Nat):Int))) (Eh_ n k121 m116 l118 (m116.get v18 0)))) (fin (some (l118,0)))
instance part_Parts_b1_le {n:Nat} {x0:List BSet} {m116:FM (List UInt8) Int} {l118:List BSet} {k121:Nat}:LeC (Fk_ n x0 m116 l118 k121) (A5_ x0 m116 l118 k121):=by
  unfold Fk_ A5_;infer_instance
def G8_(n:Nat)(x0:List BSet):Option ((List BSet)×Int):=
  iteO (decide (1024<((x0.length:Nat):Int))) (some (([]:List BSet),2)) (iterX n (fun q:(FM (List UInt8) Int)×(List BSet)×Nat=>Fk_ n x0 q.1 q.2.1 q.2.2) ((FM.emp:FM (List UInt8) Int),([]:List BSet),0))
instance part_Parts_le {n:Nat} {x0:List BSet}:LeC (G8_ n x0) (D1_ x0):=by
  unfold G8_ D1_;infer_instance
def El_(n:Nat)(k146:Nat)(l149:List Int):Option (((List Int)×Nat)⊕(((List Int)×Int×Nat)⊕((List Int)×Int))):=
  nxt (l149,(k146+1))
instance part_Class_j1_le {n:Nat} {k146:Nat} {l149:List Int}:LeC (El_ n k146 l149) (Cu_ k146 l149):=by
  unfold El_ Cu_;infer_instance
def Fr_(n:Nat)(x0:List BSet)(k130:Nat)(v29:UInt8×Bool)(l144:List Int)(k146:Nat):Option (((List Int)×Nat)⊕(((List Int)×Int×Nat)⊕((List Int)×Int))):=
  iteO (decide (((k146:Nat):Int)<256)) (iteO (!((nth x0 k130 BSet.zero).has (toU8 ((k146:Nat):Int)).toNat)) (El_ n k146 l144) (grd (k146<l144.length) (iteO (decide (0≤(nth l144 k146 (0:Int)))) (fin (fin (some (([]:List Int),1)))) (grd (k146<l144.length) (El_ n k146 (l144.set k146 ((k130:Nat):Int))))))) (fin (nxt (l144,((v29.1.toNat:Nat):Int),(k130+1))))
instance part_Class_b3_le {n:Nat} {x0:List BSet} {k130:Nat} {v29:UInt8×Bool} {l144:List Int} {k146:Nat}:LeC (Fr_ n x0 k130 v29 l144 k146) (Ak_ x0 k130 v29 l144 k146):=by
  unfold Fr_ Ak_;infer_instance
def Fw_(n:Nat)(l127:List Int)(k165:Nat):Option ((Nat)⊕((List Int)×Int)):=
  iteO (decide (((k165:Nat):Int)<(((List.replicate 256 (0:Int)).length:Nat):Int))) (grd (k165<l127.length) (iteO (decide ((nth l127 k165 (0:Int))<0)) (fin (some (([]:List Int),1))) (nxt (k165+1)))) (fin (some (l127,0)))
instance part_Class_b4_le {n:Nat} {l127:List Int} {k165:Nat}:LeC (Fw_ n l127 k165) (Al_ l127 k165):=by
  unfold Fw_ Al_;infer_instance
def Fz_(n:Nat)(x0:List BSet)(l127:List Int)(i129:Int)(k130:Nat):Option (((List Int)×Int×Nat)⊕((List Int)×Int)):=
  iteO (decide (((k130:Nat):Int)<((x0.length:Nat):Int))) (bnd (Gg_ n (nth x0 k130 BSet.zero)) (fun v29=>iteO (!v29.2) (fin (some (([]:List Int),1))) (iteO (decide (((v29.1.toNat:Nat):Int)≤i129)) (fin (some (([]:List Int),1))) (iterX n (fun q:(List Int)×Nat=>Fr_ n x0 k130 v29 q.1 q.2) (l127,0))))) (fin (iterX n (fun q:Nat=>Fw_ n l127 q) 0))
instance part_Class_b2_le {n:Nat} {x0:List BSet} {l127:List Int} {i129:Int} {k130:Nat}:LeC (Fz_ n x0 l127 i129 k130) (An_ x0 l127 i129 k130):=by
  unfold Fz_ An_;infer_instance
def Fv_(n:Nat)(x0:List BSet)(l110:List Int)(k112:Nat):Option (((List Int)×Nat)⊕((List Int)×Int)):=
  iteO (decide (((k112:Nat):Int)<(((List.replicate 256 (0:Int)).length:Nat):Int))) (grd (k112<l110.length) (nxt ((l110.set k112 (-1)),(k112+1)))) (fin (iterX n (fun q:(List Int)×Int×Nat=>Fz_ n x0 q.1 q.2.1 q.2.2) (l110,(-1),0)))
instance part_Class_b1_le {n:Nat} {x0:List BSet} {l110:List Int} {k112:Nat}:LeC (Fv_ n x0 l110 k112) (A6_ x0 l110 k112):=by
  unfold Fv_ A6_;infer_instance
def Hh_(n:Nat)(x0:List BSet):Option ((List Int)×Int):=
  iterX n (fun q:(List Int)×Nat=>Fv_ n x0 q.1 q.2) ((List.replicate 256 (0:Int)),0)
instance part_Class_le {n:Nat} {x0:List BSet}:LeC (Hh_ n x0) (Dz_ x0):=by
  unfold Hh_ Dz_;infer_instance
def Ey_(n:Nat)(x0:List Int)(k116:Nat)(l122:List BSet):Option (((List BSet)×Nat)⊕((List BSet)×Int)):=
  grd (0≤(nth x0 k116 (0:Int))∧(nth x0 k116 (0:Int))<(l122.length:Int)) (grd ([(toU8 ((k116:Nat):Int))].length≤1000000000000) (bnd (Hm_ n (nth l122 ((nth x0 k116 (0:Int)).toNat) BSet.zero) (BSet.ofL [(toU8 ((k116:Nat):Int))])) (fun v47=>grd (0≤(nth x0 k116 (0:Int))∧(nth x0 k116 (0:Int))<(l122.length:Int)) (nxt ((l122.set ((nth x0 k116 (0:Int)).toNat) v47),(k116+1))))))
instance part_Sets_j1_le {n:Nat} {x0:List Int} {k116:Nat} {l122:List BSet}:LeC (Ey_ n x0 k116 l122) (Cr_ x0 k116 l122):=by
  unfold Ey_ Cr_;infer_instance
def F5_(n:Nat)(x0:List Int)(l113:List BSet)(k116:Nat):Option (((List BSet)×Nat)⊕((List BSet)×Int)):=
  iteO (decide (((k116:Nat):Int)<((x0.length:Nat):Int))) (iteO (decide ((nth x0 k116 (0:Int))<0)) (fin (some (([]:List BSet),1))) (iteO (decide (((l113.length:Nat):Int)<(nth x0 k116 (0:Int)))) (fin (some (([]:List BSet),1))) (iteO (decide ((nth x0 k116 (0:Int))=((l113.length:Nat):Int))) (grd ((l113.length+[BSet.zero].length) * 32≤140737488355328) (Ey_ n x0 k116 (l113++[BSet.zero]))) (Ey_ n x0 k116 l113)))) (fin (some (l113,0)))
instance part_Sets_b1_le {n:Nat} {x0:List Int} {l113:List BSet} {k116:Nat}:LeC (F5_ n x0 l113 k116) (A4_ x0 l113 k116):=by
  unfold F5_ A4_;infer_instance
def Hv_(n:Nat)(x0:List Int):Option ((List BSet)×Int):=
  iteO (decide (((x0.length:Nat):Int)≠256)) (some (([]:List BSet),1)) (iterX n (fun q:(List BSet)×Nat=>F5_ n x0 q.1 q.2) (([]:List BSet),0))
instance part_Sets_le {n:Nat} {x0:List Int}:LeC (Hv_ n x0) (Dv_ x0):=by
  unfold Hv_ Dv_;infer_instance
def F6_(n:Nat)(x0:Dfa)(k110:Nat)(k116:Nat):Option ((Nat)⊕((Nat)⊕(Int))):=
  iteO (decide (((k116:Nat):Int)<(((nth x0.next k110 ([]:List Int)).length:Nat):Int))) (iteO (decide ((nth (nth x0.next k110 ([]:List Int)) k116 (0:Int))<0)) (fin (fin (some 1))) (iteO (decide (((x0.next.length:Nat):Int)≤(nth (nth x0.next k110 ([]:List Int)) k116 (0:Int)))) (fin (fin (some 1))) (nxt (k116+1)))) (fin (nxt (k110+1)))
instance dfa_Check_b2_le {n:Nat} {x0:Dfa} {k110:Nat} {k116:Nat}:LeC (F6_ n x0 k110 k116) (Bm_ x0 k110 k116):=by
  unfold F6_ Bm_;infer_instance
def F4_(n:Nat)(x0:Dfa)(v5:(List BSet)×Int)(k110:Nat):Option ((Nat)⊕(Int)):=
  iteO (decide (((k110:Nat):Int)<((x0.next.length:Nat):Int))) (iteO (decide ((((nth x0.next k110 ([]:List Int)).length:Nat):Int)≠((v5.1.length:Nat):Int))) (fin (some 1)) (iterX n (fun q:Nat=>F6_ n x0 k110 q) 0)) (fin (some 0))
instance dfa_Check_b1_le {n:Nat} {x0:Dfa} {v5:(List BSet)×Int} {k110:Nat}:LeC (F4_ n x0 v5 k110) (Bt_ x0 v5 k110):=by
  unfold F4_ Bt_;infer_instance
def Gf_(n:Nat)(x0:Dfa):Option (Int):=
  bnd (Hv_ n x0.cls) (fun v5=>iteO (decide (v5.2≠0)) (some 1) (iteO (decide (((x0.next.length:Nat):Int)<1)) (some 1) (iteO (decide (1024<((x0.next.length:Nat):Int))) (some 1) (iteO (decide (((x0.fin.length:Nat):Int)≠((x0.next.length:Nat):Int))) (some 1) (iterX n (fun q:Nat=>F4_ n x0 v5 q) 0)))))
instance dfa_Check_le {n:Nat} {x0:Dfa}:LeC (Gf_ n x0) (Cx_ x0):=by
  unfold Gf_ Cx_;infer_instance
def Ef_(n:Nat)(k120:Nat)(m124:FM BSet Int)(l125:List BSet):Option (((FM BSet Int)×(List BSet)×Nat)⊕((List BSet))):=
  nxt (m124,l125,(k120+1))
instance dfa_unlike_j1_le {n:Nat} {k120:Nat} {m124:FM BSet Int} {l125:List BSet}:LeC (Ef_ n k120 m124 l125) (Cv_ k120 m124 l125):=by
  unfold Ef_ Cv_;infer_instance
def Fu_(n:Nat)(x0:List Arrow)(m115:FM BSet Int)(l117:List BSet)(k120:Nat):Option (((FM BSet Int)×(List BSet)×Nat)⊕((List BSet))):=
  iteO (decide (((k120:Nat):Int)<((x0.length:Nat):Int))) (iteO (!(m115.has ((nth x0 k120 Arrow.zero).set))) (grd ((l117.length+[(nth x0 k120 Arrow.zero).set].length) * 32≤140737488355328) (Ef_ n k120 (m115.put ((nth x0 k120 Arrow.zero).set) ((l117.length:Nat):Int)) (l117++[(nth x0 k120 Arrow.zero).set]))) (Ef_ n k120 m115 l117)) (fin (some l117))
instance dfa_unlike_b1_le {n:Nat} {x0:List Arrow} {m115:FM BSet Int} {l117:List BSet} {k120:Nat}:LeC (Fu_ n x0 m115 l117 k120) (Ba_ x0 m115 l117 k120):=by
  unfold Fu_ Ba_;infer_instance
def Hg_(n:Nat)(x0:List Arrow):Option ((List BSet)):=
  iterX n (fun q:(FM BSet Int)×(List BSet)×Nat=>Fu_ n x0 q.1 q.2.1 q.2.2) ((FM.emp:FM BSet Int),([]:List BSet),0)
instance dfa_unlike_le {n:Nat} {x0:List Arrow}:LeC (Hg_ n x0) (Dy_ x0):=by
  unfold Hg_ Dy_;infer_instance
def En_(n:Nat)(k133:Nat)(l136:List Int):Option (((List Int)×Nat)⊕(((List Int)×Nat)⊕((List Int)))):=
  nxt (l136,(k133+1))
instance dfa_behind_j1_le {n:Nat} {k133:Nat} {l136:List Int}:LeC (En_ n k133 l136) (Cw_ k133 l136):=by
  unfold En_ Cw_;infer_instance
def Fo_(n:Nat)(x0:List (List Arrow))(x1:List Int)(k117:Nat)(v4:UInt8×Bool)(l130:List Int)(k133:Nat):Option (((List Int)×Nat)⊕(((List Int)×Nat)⊕((List Int)))):=
  iteO (decide (((k133:Nat):Int)<(((nth x0 ((nth x1 k117 (0:Int)).toNat) ([]:List Arrow)).length:Nat):Int))) (iteO (((nth (nth x0 ((nth x1 k117 (0:Int)).toNat) ([]:List Arrow)) k133 Arrow.zero).set).has v4.1.toNat) (grd ((l130.length+[(nth (nth x0 ((nth x1 k117 (0:Int)).toNat) ([]:List Arrow)) k133 Arrow.zero).to].length) * 8≤140737488355328) (En_ n k133 (l130++[(nth (nth x0 ((nth x1 k117 (0:Int)).toNat) ([]:List Arrow)) k133 Arrow.zero).to]))) (En_ n k133 l130)) (fin (nxt (l130,(k117+1))))
instance dfa_behind_b2_le {n:Nat} {x0:List (List Arrow)} {x1:List Int} {k117:Nat} {v4:UInt8×Bool} {l130:List Int} {k133:Nat}:LeC (Fo_ n x0 x1 k117 v4 l130 k133) (A9_ x0 x1 k117 v4 l130 k133):=by
  unfold Fo_ A9_;infer_instance
def Fq_(n:Nat)(x1:List Int)(x0:List (List Arrow))(v4:UInt8×Bool)(l114:List Int)(k117:Nat):Option (((List Int)×Nat)⊕((List Int))):=
  iteO (decide (((k117:Nat):Int)<((x1.length:Nat):Int))) (grd (0≤(nth x1 k117 (0:Int))∧(nth x1 k117 (0:Int))<(x0.length:Int)) (iterX n (fun q:(List Int)×Nat=>Fo_ n x0 x1 k117 v4 q.1 q.2) (l114,0))) (fin (some l114))
instance dfa_behind_b1_le {n:Nat} {x1:List Int} {x0:List (List Arrow)} {v4:UInt8×Bool} {l114:List Int} {k117:Nat}:LeC (Fq_ n x1 x0 v4 l114 k117) (A3_ x1 x0 v4 l114 k117):=by
  unfold Fq_ A3_;infer_instance
def G7_(n:Nat)(x0:List (List Arrow))(x1:List Int)(x2:BSet):Option ((List Int)):=
  bnd (Gg_ n x2) (fun v4=>iterX n (fun q:(List Int)×Nat=>Fq_ n x1 x0 v4 q.1 q.2) (([]:List Int),0))
instance dfa_behind_le {n:Nat} {x0:List (List Arrow)} {x1:List Int} {x2:BSet}:LeC (G7_ n x0 x1 x2) (D0_ x0 x1 x2):=by
  unfold G7_ D0_;infer_instance
def Et_(n:Nat){Sy:Type}(x1:List BSet)(Y:Sy→Int×BSet→Option (Sy×Bool))(k111:Nat)(s112:Sy):Option ((Nat×Sy)⊕(Sy)):=
  iteO (decide (((k111:Nat):Int)<((x1.length:Nat):Int))) (bnd (Y s112 (((k111:Nat):Int),(nth x1 k111 BSet.zero))) (fun v14=>iteO (!v14.2) (fin (some v14.1)) (nxt ((k111+1),v14.1)))) (fin (some s112))
instance dfa_classes_1_b1_le {n:Nat} {Sy:Type} {x1:List BSet} {Y:Sy→Int×BSet→Option (Sy×Bool)} {k111:Nat} {s112:Sy} {Y':Sy→Int×BSet→Option (Sy×Bool)} [hY: ∀s x,LeC (Y s x) (Y' s x)]:LeC (Et_ n x1 Y k111 s112) (Ad_ x1 Y' k111 s112):=by
  unfold Et_ Ad_;infer_instance
def Fy_(n:Nat){Sy:Type}(Y:Sy→Int×BSet→Option (Sy×Bool))(s0:Sy)(x1:List BSet):Option (Sy):=
  iterX n (fun q:Nat×Sy=>Et_ n x1 Y q.1 q.2) (0,s0)
instance dfa_classes_1_le {n:Nat} {Sy:Type} {Y:Sy→Int×BSet→Option (Sy×Bool)} {s0:Sy} {x1:List BSet} {Y':Sy→Int×BSet→Option (Sy×Bool)} [hY: ∀s x,LeC (Y s x) (Y' s x)]:LeC (Fy_ n Y s0 x1) (B0_ Y' s0 x1):=by
  unfold Fy_ B0_;infer_instance
def Gs_(n:Nat)(x0:List BSet):Option ((List BSet)):=
  some x0
instance dfa_classes_le {n:Nat} {x0:List BSet}:LeC (Gs_ n x0) (Dj_ x0):=by
  unfold Gs_ Dj_;infer_instance
def Hu_(n:Nat)(l130:List (List Arrow))(x0:Nfa)(k134:Nat):Option (((List (List Arrow))×Nat)⊕(Dfa×Int)):=
  nxt ((l130.set (((nth x0.edges k134 Arrow.zero).frm).toNat) ((nth l130 (((nth x0.edges k134 Arrow.zero).frm).toNat) ([]:List Arrow))++[(nth x0.edges k134 Arrow.zero)])),(k134+1))
instance dfa_Of_j1_le {n:Nat} {l130:List (List Arrow)} {x0:Nfa} {k134:Nat}:LeC (Hu_ n l130 x0 k134) (Gn_ l130 x0 k134):=by
  unfold Hu_ Gn_;infer_instance
def Gb_(n:Nat)(k323:Nat)(t335:Bool):Option ((Bool×Nat)⊕((Int×(List (List Int))×(FM (List UInt8) Int)×(List (List Int))×(List Bool)×Nat)⊕(Dfa×Int))):=
  nxt (t335,(k323+1))
instance dfa_Of_j2_le {n:Nat} {k323:Nat} {t335:Bool}:LeC (Gb_ n k323 t335) (Es_ k323 t335):=by
  unfold Gb_ Es_;infer_instance
def Gz_(n:Nat)(l130:List (List Arrow))(v116:(List Int)×Int)(i388:Int)(l391:List (List Int))(m397:FM (List UInt8) Int)(l401:List Int)(y256_0:Int)(y256_1:BSet):Option (Nat×(Int×(List (List Int))×(FM (List UInt8) Int)×(List Int))):=
  bnd (G7_ n l130 v116.1 y256_1) (fun v161=>bnd (putKeep_x n (⟨(⟨l391,m397⟩:IStore)⟩:ITable) v161) (fun v162=>iteO (decide (v162.2.2.1≠0)) (some (1,(v162.2.2.1,v162.2.2.2.of.rows,v162.2.2.2.of.places,l401))) (iteO (decide (1024≤v162.1)) (some (1,(2,v162.2.2.2.of.rows,v162.2.2.2.of.places,l401))) (grd (0≤y256_0∧y256_0<(l401.length:Int)) (some (0,(i388,v162.2.2.2.of.rows,v162.2.2.2.of.places,(l401.set y256_0.toNat v162.1))))))))
instance dfa_Of_r256_le {n:Nat} {l130:List (List Arrow)} {v116:(List Int)×Int} {i388:Int} {l391:List (List Int)} {m397:FM (List UInt8) Int} {l401:List Int} {y256_0:Int} {y256_1:BSet}:LeC (Gz_ n l130 v116 i388 l391 m397 l401 y256_0 y256_1) (Bv_ l130 v116 i388 l391 m397 l401 y256_0 y256_1):=by
  unfold Gz_ Bv_;infer_instance
def Gw_(n:Nat)(l277:List (List Int))(l283:List Bool)(t322:Bool)(k286:Nat)(jz:Nat)(i388:Int)(l391:List (List Int))(m397:FM (List UInt8) Int)(l401:List Int):Option ((Int×(List (List Int))×(FM (List UInt8) Int)×(List (List Int))×(List Bool)×Nat)⊕(Dfa×Int)):=
  jsel jz (grd ((l277.length+[l401].length) * 24≤140737488355328) (grd ((l283.length+[t322].length) * 1≤140737488355328) (grd (k286+1≤9223372036854775807) (nxt (i388,l391,m397,(l277++[l401]),(l283++[t322]),(k286+1)))))) (fun j_=>jsel j_ (fin (some ((⟨([]:List Int),([]:List (List Int)),([]:List Bool)⟩:Dfa),i388))) (fun _=>none))
instance dfa_Of_k256_le {n:Nat} {l277:List (List Int)} {l283:List Bool} {t322:Bool} {k286:Nat} {jz:Nat} {i388:Int} {l391:List (List Int)} {m397:FM (List UInt8) Int} {l401:List Int}:LeC (Gw_ n l277 l283 t322 k286 jz i388 l391 m397 l401) (D8_ l277 l283 t322 k286 jz i388 l391 m397 l401):=by
  unfold Gw_ D8_;infer_instance
def Ho_(n:Nat)(v116:(List Int)×Int)(l193:List Bool)(v13:(List BSet)×Int)(l130:List (List Arrow))(i264:Int)(l268:List (List Int))(m274:FM (List UInt8) Int)(l277:List (List Int))(l283:List Bool)(k286:Nat)(t322:Bool)(k323:Nat):Option ((Bool×Nat)⊕((Int×(List (List Int))×(FM (List UInt8) Int)×(List (List Int))×(List Bool)×Nat)⊕(Dfa×Int))):=
  iteO (decide (((k323:Nat):Int)<((v116.1.length:Nat):Int))) (iteO t322 (Gb_ n k323 true) (grd (0≤(nth v116.1 k323 (0:Int))∧(nth v116.1 k323 (0:Int))<(l193.length:Int)) (Gb_ n k323 (nth l193 ((nth v116.1 k323 (0:Int)).toNat) false)))) (fin (grd (8 * v13.1.length≤281474976710656) (bnd (Gs_ n v13.1) (fun v153=>bnd (Fy_ n (stepY (fun (q:Int×(List (List Int))×(FM (List UInt8) Int)×(List Int)) (x:Int×BSet)=>Gz_ n l130 v116 q.1 q.2.1 q.2.2.1 q.2.2.2 x.1 x.2)) (0,(i264,l268,m274,(List.replicate v13.1.length (0:Int)))) v153) (fun zr256=>Gw_ n l277 l283 t322 k286 zr256.1 zr256.2.1 zr256.2.2.1 zr256.2.2.2.1 zr256.2.2.2.2)))))
instance dfa_Of_b4_le {n:Nat} {v116:(List Int)×Int} {l193:List Bool} {v13:(List BSet)×Int} {l130:List (List Arrow)} {i264:Int} {l268:List (List Int)} {m274:FM (List UInt8) Int} {l277:List (List Int)} {l283:List Bool} {k286:Nat} {t322:Bool} {k323:Nat}:LeC (Ho_ n v116 l193 v13 l130 i264 l268 m274 l277 l283 k286 t322 k323) (B5_ v116 l193 v13 l130 i264 l268 m274 l277 l283 k286 t322 k323):=by
  unfold Ho_ B5_;infer_instance
def Hx_(n:Nat)(l193:List Bool)(v13:(List BSet)×Int)(l130:List (List Arrow))(v26:(List Int)×Int)(i264:Int)(l268:List (List Int))(m274:FM (List UInt8) Int)(l277:List (List Int))(l283:List Bool)(k286:Nat):Option ((Int×(List (List Int))×(FM (List UInt8) Int)×(List (List Int))×(List Bool)×Nat)⊕(Dfa×Int)):=
  bnd (intern_Table_Size_x n (⟨(⟨l268,m274⟩:IStore)⟩:ITable)) (fun v112=>iteO (decide (((k286:Nat):Int)<v112)) (bnd (intern_Table_Row_x n (⟨(⟨l268,m274⟩:IStore)⟩:ITable) ((k286:Nat):Int)) (fun v116=>iteO (decide (v116.2≠0)) (fin (some ((⟨([]:List Int),([]:List (List Int)),([]:List Bool)⟩:Dfa),v116.2))) (iterX n (fun q:Bool×Nat=>Ho_ n v116 l193 v13 l130 i264 l268 m274 l277 l283 k286 q.1 q.2) (false,0)))) (fin (some ((⟨v26.1,l277,l283⟩:Dfa),0))))
instance dfa_Of_b3_le {n:Nat} {l193:List Bool} {v13:(List BSet)×Int} {l130:List (List Arrow)} {v26:(List Int)×Int} {i264:Int} {l268:List (List Int)} {m274:FM (List UInt8) Int} {l277:List (List Int)} {l283:List Bool} {k286:Nat}:LeC (Hx_ n l193 v13 l130 v26 i264 l268 m274 l277 l283 k286) (Cp_ l193 v13 l130 v26 i264 l268 m274 l277 l283 k286):=by
  unfold Hx_ Cp_;infer_instance
def Hp_(n:Nat)(x0:Nfa)(v13:(List BSet)×Int)(l130:List (List Arrow))(v26:(List Int)×Int)(l193:List Bool)(k195:Nat):Option (((List Bool)×Nat)⊕(Dfa×Int)):=
  iteO (decide (((k195:Nat):Int)<((x0.ends.length:Nat):Int))) (grd (0≤(nth x0.ends k195 (0:Int))∧(nth x0.ends k195 (0:Int))<(l193.length:Int)) (nxt ((l193.set ((nth x0.ends k195 (0:Int)).toNat) true),(k195+1)))) (fin (bnd (intern_New_x n) (fun v85=>bnd (intern_Table_Put_x n (⟨(⟨v85.of.rows,v85.of.places⟩:IStore)⟩:ITable) x0.starts) (fun v91=>iteO (decide (v91.2.2.1≠0)) (some ((⟨([]:List Int),([]:List (List Int)),([]:List Bool)⟩:Dfa),v91.2.2.1)) (iterX n (fun q:Int×(List (List Int))×(FM (List UInt8) Int)×(List (List Int))×(List Bool)×Nat=>Hx_ n l193 v13 l130 v26 q.1 q.2.1 q.2.2.1 q.2.2.2.1 q.2.2.2.2.1 q.2.2.2.2.2) (0,v91.2.2.2.of.rows,v91.2.2.2.of.places,([]:List (List Int)),([]:List Bool),0))))))
instance dfa_Of_b2_le {n:Nat} {x0:Nfa} {v13:(List BSet)×Int} {l130:List (List Arrow)} {v26:(List Int)×Int} {l193:List Bool} {k195:Nat}:LeC (Hp_ n x0 v13 l130 v26 l193 k195) (Cq_ x0 v13 l130 v26 l193 k195):=by
  unfold Hp_ Cq_;infer_instance
def Hs_(n:Nat)(x0:Nfa)(v13:(List BSet)×Int)(v26:(List Int)×Int)(l130:List (List Arrow))(k134:Nat):Option (((List (List Arrow))×Nat)⊕(Dfa×Int)):=
  iteO (decide (((k134:Nat):Int)<((x0.edges.length:Nat):Int))) (grd (0≤((nth x0.edges k134 Arrow.zero).frm)∧((nth x0.edges k134 Arrow.zero).frm)<(l130.length:Int)) (grd (((nth l130 (((nth x0.edges k134 Arrow.zero).frm).toNat) ([]:List Arrow)).length+[(nth x0.edges k134 Arrow.zero)].length) * 48≤140737488355328) (grd (0≤((nth x0.edges k134 Arrow.zero).frm)∧((nth x0.edges k134 Arrow.zero).frm)<(l130.length:Int)) (Hu_ n l130 x0 k134)))) (fin (grd (0≤x0.states∧1 * x0.states.toNat≤281474976710656) (iterX n (fun q:(List Bool)×Nat=>Hp_ n x0 v13 l130 v26 q.1 q.2) ((List.replicate x0.states.toNat false),0))))
instance dfa_Of_b1_le {n:Nat} {x0:Nfa} {v13:(List BSet)×Int} {v26:(List Int)×Int} {l130:List (List Arrow)} {k134:Nat}:LeC (Hs_ n x0 v13 v26 l130 k134) (Co_ x0 v13 v26 l130 k134):=by
  unfold Hs_ Co_;infer_instance
def Ii_(n:Nat)(x0:Nfa):Option (Dfa×Int):=
  iteO (decide ((errB (checkB x0))≠0)) (some ((⟨([]:List Int),([]:List (List Int)),([]:List Bool)⟩:Dfa),1)) (bnd (Hg_ n x0.edges) (fun v12=>bnd (G8_ n v12) (fun v13=>iteO (decide (v13.2≠0)) (some ((⟨([]:List Int),([]:List (List Int)),([]:List Bool)⟩:Dfa),v13.2)) (bnd (Hh_ n v13.1) (fun v26=>iteO (decide (v26.2≠0)) (some ((⟨([]:List Int),([]:List (List Int)),([]:List Bool)⟩:Dfa),v26.2)) (grd (0≤x0.states∧24 * x0.states.toNat≤281474976710656) (iterX n (fun q:(List (List Arrow))×Nat=>Hs_ n x0 v13 v26 q.1 q.2) ((List.replicate x0.states.toNat ([]:List Arrow)),0))))))))
instance dfa_Of_le {n:Nat} {x0:Nfa}:LeC (Ii_ n x0) (Gp_ x0):=by
  unfold Ii_ Gp_;infer_instance
def Hc_(n:Nat)(x2:List UInt8)(x0:Dfa)(i110:Int)(k111:Nat):Option ((Int×Nat)⊕(Int×Int)):=
  iteO (decide (((k111:Nat):Int)<((x2.length:Nat):Int))) (grd (0≤i110∧i110<(x0.next.length:Int)) (grd ((nth x2 k111 (0:UInt8)).toNat<x0.cls.length) (grd (0≤(nth x0.cls ((nth x2 k111 (0:UInt8)).toNat) (0:Int))∧(nth x0.cls ((nth x2 k111 (0:UInt8)).toNat) (0:Int))<((nth x0.next i110.toNat ([]:List Int)).length:Int)) (nxt ((nth (nth x0.next i110.toNat ([]:List Int)) ((nth x0.cls ((nth x2 k111 (0:UInt8)).toNat) (0:Int)).toNat) (0:Int)),(k111+1)))))) (fin (some (i110,0)))
instance dfa_Run_b1_le {n:Nat} {x2:List UInt8} {x0:Dfa} {i110:Int} {k111:Nat}:LeC (Hc_ n x2 x0 i110 k111) (E1_ x2 x0 i110 k111):=by
  unfold Hc_ E1_;infer_instance
def Id_(n:Nat)(x0:Dfa)(x1:Int)(x2:List UInt8):Option (Int×Int):=
  grd (x2.length≤281474976710656) (bnd (Gf_ n x0) (fun v5=>iteO (decide (v5≠0)) (some (0,1)) (iteO (decide (x1<0)) (some (0,1)) (iteO (decide (((x0.next.length:Nat):Int)≤x1)) (some (0,1)) (iterX n (fun q:Int×Nat=>Hc_ n x2 x0 q.1 q.2) (x1,0))))))
instance dfa_Run_le {n:Nat} {x0:Dfa} {x1:Int} {x2:List UInt8}:LeC (Id_ n x0 x1 x2) (H0_ x0 x1 x2):=by
  unfold Id_ H0_;infer_instance
def Hr_(n:Nat)(x0:Dfa)(x1:List UInt8):Option (Bool×Int):=
  grd (x1.length≤281474976710656) (bnd (Id_ n x0 0 x1) (fun v6=>iteO (decide (v6.2≠0)) (some (false,v6.2)) (grd (0≤v6.1∧v6.1<(x0.fin.length:Int)) (some ((nth x0.fin v6.1.toNat false),0)))))
instance dfa_Takes_le {n:Nat} {x0:Dfa} {x1:List UInt8}:LeC (Hr_ n x0 x1) (Fi_ x0 x1):=by
  unfold Hr_ Fi_;infer_instance
def Dm_(n:Nat)(k155:Nat)(l159:List Bool)(l161:List Int):Option (((List Bool)×(List Int)×Nat)⊕(((List Bool)×(List Int)×Nat)⊕((List Int)))):=
  nxt (l159,l161,(k155+1))
instance mini_reached_j1_le {n:Nat} {k155:Nat} {l159:List Bool} {l161:List Int}:LeC (Dm_ n k155 l159 l161) (Ca_ k155 l159 l161):=by
  unfold Dm_ Ca_;infer_instance
def E7_(n:Nat)(x0:Dfa)(l126:List Int)(k129:Nat)(l150:List Bool)(l152:List Int)(k155:Nat):Option (((List Bool)×(List Int)×Nat)⊕(((List Bool)×(List Int)×Nat)⊕((List Int)))):=
  iteO (decide (((k155:Nat):Int)<(((nth x0.next ((nth l126 k129 (0:Int)).toNat) ([]:List Int)).length:Nat):Int))) (grd (0≤(nth (nth x0.next ((nth l126 k129 (0:Int)).toNat) ([]:List Int)) k155 (0:Int))∧(nth (nth x0.next ((nth l126 k129 (0:Int)).toNat) ([]:List Int)) k155 (0:Int))<(l150.length:Int)) (iteO (!(nth l150 ((nth (nth x0.next ((nth l126 k129 (0:Int)).toNat) ([]:List Int)) k155 (0:Int)).toNat) false)) (grd (0≤(nth (nth x0.next ((nth l126 k129 (0:Int)).toNat) ([]:List Int)) k155 (0:Int))∧(nth (nth x0.next ((nth l126 k129 (0:Int)).toNat) ([]:List Int)) k155 (0:Int))<(l150.length:Int)) (grd ((l152.length+[(nth (nth x0.next ((nth l126 k129 (0:Int)).toNat) ([]:List Int)) k155 (0:Int))].length) * 8≤140737488355328) (Dm_ n k155 (l150.set ((nth (nth x0.next ((nth l126 k129 (0:Int)).toNat) ([]:List Int)) k155 (0:Int)).toNat) true) (l152++[(nth (nth x0.next ((nth l126 k129 (0:Int)).toNat) ([]:List Int)) k155 (0:Int))])))) (Dm_ n k155 l150 l152))) (fin (nxt (l150,l152,(k129+1))))
instance mini_reached_b2_le {n:Nat} {x0:Dfa} {l126:List Int} {k129:Nat} {l150:List Bool} {l152:List Int} {k155:Nat}:LeC (E7_ n x0 l126 k129 l150 l152 k155) (Ag_ x0 l126 k129 l150 l152 k155):=by
  unfold E7_ Ag_;infer_instance
def E4_(n:Nat)(x0:Dfa)(l124:List Bool)(l126:List Int)(k129:Nat):Option (((List Bool)×(List Int)×Nat)⊕((List Int))):=
  iteO (decide (((k129:Nat):Int)<((l126.length:Nat):Int))) (grd (0≤(nth l126 k129 (0:Int))∧(nth l126 k129 (0:Int))<(x0.next.length:Int)) (iterX n (fun q:(List Bool)×(List Int)×Nat=>E7_ n x0 l126 k129 q.1 q.2.1 q.2.2) (l124,l126,0))) (fin (some l126))
instance mini_reached_b1_le {n:Nat} {x0:Dfa} {l124:List Bool} {l126:List Int} {k129:Nat}:LeC (E4_ n x0 l124 l126 k129) (Ax_ x0 l124 l126 k129):=by
  unfold E4_ Ax_;infer_instance
def F7_(n:Nat)(x0:Dfa):Option ((List Int)):=
  grd (1 * x0.next.length≤281474976710656) (grd (0<(List.replicate x0.next.length false).length) (iterX n (fun q:(List Bool)×(List Int)×Nat=>E4_ n x0 q.1 q.2.1 q.2.2) (((List.replicate x0.next.length false).set 0 true),[0],0)))
instance mini_reached_le {n:Nat} {x0:Dfa}:LeC (F7_ n x0) (C9_ x0):=by
  unfold F7_ C9_;infer_instance
def Gt_(n:Nat)(x0:List Int)(l112:List UInt8)(k115:Nat):Option (((List UInt8)×Nat)⊕((List UInt8))):=
  iteO (decide (((k115:Nat):Int)<((x0.length:Nat):Int))) (grd ((l112.length+[(toU8 (ishr .i64 (nth x0 k115 (0:Int)) 8)),(toU8 (nth x0 k115 (0:Int)))].length) * 1≤140737488355328) (nxt ((l112++[(toU8 (ishr .i64 (nth x0 k115 (0:Int)) 8)),(toU8 (nth x0 k115 (0:Int)))]),(k115+1)))) (fin (some l112))
instance mini_key_b1_le {n:Nat} {x0:List Int} {l112:List UInt8} {k115:Nat}:LeC (Gt_ n x0 l112 k115) (Bn_ x0 l112 k115):=by
  unfold Gt_ Bn_;infer_instance
def G5_(n:Nat)(x0:List Int):Option ((List UInt8)):=
  grd (0≤IntKind.i64.wrap (2 * ((x0.length:Nat):Int))∧1 * (IntKind.i64.wrap (2 * ((x0.length:Nat):Int))).toNat≤281474976710656) (iterX n (fun q:(List UInt8)×Nat=>Gt_ n x0 q.1 q.2) (([]:List UInt8),0))
instance mini_key_le {n:Nat} {x0:List Int}:LeC (G5_ n x0) (D2_ x0):=by
  unfold G5_ D2_;infer_instance
def D3_(n:Nat)(k114:Nat)(l117:List Int):Option (((List Int)×Nat)⊕((List Int)×Int)):=
  nxt (l117,(k114+1))
instance mini_groups_j1_le {n:Nat} {k114:Nat} {l117:List Int}:LeC (D3_ n k114 l117) (Ck_ k114 l117):=by
  unfold D3_ Ck_;infer_instance
def Dx_(n:Nat)(x1:List Int)(k164:Nat)(l162:List Int)(m207:FM (List UInt8) Int)(i209:Int):Option (((FM (List UInt8) Int)×(List Int)×Nat)⊕(((List Int)×Nat)⊕((List Int)×Int))):=
  grd (0≤(nth x1 k164 (0:Int))∧(nth x1 k164 (0:Int))<(l162.length:Int)) (nxt (m207,(l162.set ((nth x1 k164 (0:Int)).toNat) i209),(k164+1)))
instance mini_groups_j2_le {n:Nat} {x1:List Int} {k164:Nat} {l162:List Int} {m207:FM (List UInt8) Int} {i209:Int}:LeC (Dx_ n x1 k164 l162 m207 i209) (Bg_ x1 k164 l162 m207 i209):=by
  unfold Dx_ Bg_;infer_instance
def Fe_(n:Nat)(x0:Dfa)(x1:List Int)(k164:Nat)(l138:List Int)(m161:FM (List UInt8) Int)(l162:List Int)(l189:List Int)(k192:Nat):Option (((List Int)×Nat)⊕(((FM (List UInt8) Int)×(List Int)×Nat)⊕(((List Int)×Nat)⊕((List Int)×Int)))):=
  iteO (decide (((k192:Nat):Int)<(((nth x0.next ((nth x1 k164 (0:Int)).toNat) ([]:List Int)).length:Nat):Int))) (grd (0≤(nth (nth x0.next ((nth x1 k164 (0:Int)).toNat) ([]:List Int)) k192 (0:Int))∧(nth (nth x0.next ((nth x1 k164 (0:Int)).toNat) ([]:List Int)) k192 (0:Int))<(l138.length:Int)) (grd ((l189.length+[(nth l138 ((nth (nth x0.next ((nth x1 k164 (0:Int)).toNat) ([]:List Int)) k192 (0:Int)).toNat) (0:Int))].length) * 8≤140737488355328) (nxt ((l189++[(nth l138 ((nth (nth x0.next ((nth x1 k164 (0:Int)).toNat) ([]:List Int)) k192 (0:Int)).toNat) (0:Int))]),(k192+1))))) (fin (bnd (G5_ n l189) (fun v70=>iteO (!(m161.has v70)) (Dx_ n x1 k164 l162 (m161.put v70 ((m161.n:Nat):Int)) ((m161.n:Nat):Int)) (Dx_ n x1 k164 l162 m161 (m161.get v70 0)))))
instance mini_groups_b4_le {n:Nat} {x0:Dfa} {x1:List Int} {k164:Nat} {l138:List Int} {m161:FM (List UInt8) Int} {l162:List Int} {l189:List Int} {k192:Nat}:LeC (Fe_ n x0 x1 k164 l138 m161 l162 l189 k192) (Aj_ x0 x1 k164 l138 m161 l162 l189 k192):=by
  unfold Fe_ Aj_;infer_instance
def Fh_(n:Nat)(x1:List Int)(l138:List Int)(x0:Dfa)(k142:Nat)(m161:FM (List UInt8) Int)(l162:List Int)(k164:Nat):Option (((FM (List UInt8) Int)×(List Int)×Nat)⊕(((List Int)×Nat)⊕((List Int)×Int))):=
  iteO (decide (((k164:Nat):Int)<((x1.length:Nat):Int))) (grd (0≤(nth x1 k164 (0:Int))∧(nth x1 k164 (0:Int))<(l138.length:Int)) (grd (0≤(nth x1 k164 (0:Int))∧(nth x1 k164 (0:Int))<(x0.next.length:Int)) (iterX n (fun q:(List Int)×Nat=>Fe_ n x0 x1 k164 l138 m161 l162 q.1 q.2) ([(nth l138 ((nth x1 k164 (0:Int)).toNat) (0:Int))],0)))) (fin (iteO (decide (((m161.n:Nat):Int)=((k142:Nat):Int))) (fin (some (l162,((k142:Nat):Int)))) (nxt (l162,m161.n))))
instance mini_groups_b3_le {n:Nat} {x1:List Int} {l138:List Int} {x0:Dfa} {k142:Nat} {m161:FM (List UInt8) Int} {l162:List Int} {k164:Nat}:LeC (Fh_ n x1 l138 x0 k142 m161 l162 k164) (Au_ x1 l138 x0 k142 m161 l162 k164):=by
  unfold Fh_ Au_;infer_instance
def Fg_(n:Nat)(x0:Dfa)(x1:List Int)(l138:List Int)(k142:Nat):Option (((List Int)×Nat)⊕((List Int)×Int)):=
  grd (8 * x0.next.length≤281474976710656) (iterX n (fun q:(FM (List UInt8) Int)×(List Int)×Nat=>Fh_ n x1 l138 x0 k142 q.1 q.2.1 q.2.2) ((FM.emp:FM (List UInt8) Int),(List.replicate x0.next.length (0:Int)),0))
instance mini_groups_b2_le {n:Nat} {x0:Dfa} {x1:List Int} {l138:List Int} {k142:Nat}:LeC (Fg_ n x0 x1 l138 k142) (Ai_ x0 x1 l138 k142):=by
  unfold Fg_ Ai_;infer_instance
def Ff_(n:Nat)(x1:List Int)(x0:Dfa)(l112:List Int)(k114:Nat):Option (((List Int)×Nat)⊕((List Int)×Int)):=
  iteO (decide (((k114:Nat):Int)<((x1.length:Nat):Int))) (grd (0≤(nth x1 k114 (0:Int))∧(nth x1 k114 (0:Int))<(x0.fin.length:Int)) (iteO (nth x0.fin ((nth x1 k114 (0:Int)).toNat) false) (grd (0≤(nth x1 k114 (0:Int))∧(nth x1 k114 (0:Int))<(l112.length:Int)) (D3_ n k114 (l112.set ((nth x1 k114 (0:Int)).toNat) 1))) (D3_ n k114 l112))) (fin (iterX n (fun q:(List Int)×Nat=>Fg_ n x0 x1 q.1 q.2) (l112,0)))
instance mini_groups_b1_le {n:Nat} {x1:List Int} {x0:Dfa} {l112:List Int} {k114:Nat}:LeC (Ff_ n x1 x0 l112 k114) (Av_ x1 x0 l112 k114):=by
  unfold Ff_ Av_;infer_instance
def Gy_(n:Nat)(x0:Dfa)(x1:List Int):Option ((List Int)×Int):=
  grd (8 * x0.next.length≤281474976710656) (iterX n (fun q:(List Int)×Nat=>Ff_ n x1 x0 q.1 q.2) ((List.replicate x0.next.length (0:Int)),0))
instance mini_groups_le {n:Nat} {x0:Dfa} {x1:List Int}:LeC (Gy_ n x0 x1) (Di_ x0 x1):=by
  unfold Gy_ Di_;infer_instance
def Dn_(n:Nat)(l125:List Int)(k133:Nat)(l168:List Int)(m171:FM (List UInt8) Int)(i172:Int):Option (((List Int)×(List Int)×(FM (List UInt8) Int)×Nat)⊕((List Int)×(List Int))):=
  grd ((l125.length+[i172].length) * 8≤140737488355328) (nxt ((l125++[i172]),l168,m171,(k133+1)))
instance mini_columns_j1_le {n:Nat} {l125:List Int} {k133:Nat} {l168:List Int} {m171:FM (List UInt8) Int} {i172:Int}:LeC (Dn_ n l125 k133 l168 m171 i172) (Aw_ l125 k133 l168 m171 i172):=by
  unfold Dn_ Aw_;infer_instance
def E6_(n:Nat)(x0:List (List Int))(k133:Nat)(m132:FM (List UInt8) Int)(l129:List Int)(l125:List Int)(l150:List Int)(k153:Nat):Option (((List Int)×Nat)⊕(((List Int)×(List Int)×(FM (List UInt8) Int)×Nat)⊕((List Int)×(List Int)))):=
  iteO (decide (((k153:Nat):Int)<((x0.length:Nat):Int))) (grd (k133<(nth x0 k153 ([]:List Int)).length) (grd ((l150.length+[(nth (nth x0 k153 ([]:List Int)) k133 (0:Int))].length) * 8≤140737488355328) (nxt ((l150++[(nth (nth x0 k153 ([]:List Int)) k133 (0:Int))]),(k153+1))))) (fin (bnd (G5_ n l150) (fun v32=>iteO (!(m132.has v32)) (grd ((l129.length+[((k133:Nat):Int)].length) * 8≤140737488355328) (Dn_ n l125 k133 (l129++[((k133:Nat):Int)]) (m132.put v32 ((m132.n:Nat):Int)) ((m132.n:Nat):Int))) (Dn_ n l125 k133 l129 m132 (m132.get v32 0)))))
instance mini_columns_b2_le {n:Nat} {x0:List (List Int)} {k133:Nat} {m132:FM (List UInt8) Int} {l129:List Int} {l125:List Int} {l150:List Int} {k153:Nat}:LeC (E6_ n x0 k133 m132 l129 l125 l150 k153) (Ao_ x0 k133 m132 l129 l125 l150 k153):=by
  unfold E6_ Ao_;infer_instance
def E3_(n:Nat)(x0:List (List Int))(l125:List Int)(l129:List Int)(m132:FM (List UInt8) Int)(k133:Nat):Option (((List Int)×(List Int)×(FM (List UInt8) Int)×Nat)⊕((List Int)×(List Int))):=
  iteO (decide (((k133:Nat):Int)<(((nth x0 0 ([]:List Int)).length:Nat):Int))) (iterX n (fun q:(List Int)×Nat=>E6_ n x0 k133 m132 l129 l125 q.1 q.2) (([]:List Int),0)) (fin (some (l125,l129)))
instance mini_columns_b1_le {n:Nat} {x0:List (List Int)} {l125:List Int} {l129:List Int} {m132:FM (List UInt8) Int} {k133:Nat}:LeC (E3_ n x0 l125 l129 m132 k133) (Aq_ x0 l125 l129 m132 k133):=by
  unfold E3_ Aq_;infer_instance
def F8_(n:Nat)(x0:List (List Int)):Option ((List Int)×(List Int)):=
  grd (0<x0.length) (iterX n (fun q:(List Int)×(List Int)×(FM (List UInt8) Int)×Nat=>E3_ n x0 q.1 q.2.1 q.2.2.1 q.2.2.2) (([]:List Int),([]:List Int),(FM.emp:FM (List UInt8) Int),0))
instance mini_columns_le {n:Nat} {x0:List (List Int)}:LeC (F8_ n x0) (C7_ x0):=by
  unfold F8_ C7_;infer_instance
def Eo_(n:Nat)(x0:Dfa)(l154:List Int)(k163:Nat)(k210:Nat)(x1:List Int)(l207:List Int)(l219:List Int)(l221:List Int):Option (((List Int)×(List Int)×(List Int)×Nat)⊕(((List Int)×(List Int)×(List (List Int))×Nat)⊕(Dfa))):=
  grd (0≤(nth (nth x0.next ((nth l154 k163 (0:Int)).toNat) ([]:List Int)) k210 (0:Int))∧(nth (nth x0.next ((nth l154 k163 (0:Int)).toNat) ([]:List Int)) k210 (0:Int))<(x1.length:Int)) (grd (0≤(nth x1 ((nth (nth x0.next ((nth l154 k163 (0:Int)).toNat) ([]:List Int)) k210 (0:Int)).toNat) (0:Int))∧(nth x1 ((nth (nth x0.next ((nth l154 k163 (0:Int)).toNat) ([]:List Int)) k210 (0:Int)).toNat) (0:Int))<(l219.length:Int)) (grd ((l207.length+[(nth l219 ((nth x1 ((nth (nth x0.next ((nth l154 k163 (0:Int)).toNat) ([]:List Int)) k210 (0:Int)).toNat) (0:Int)).toNat) (0:Int))].length) * 8≤140737488355328) (nxt (l219,l221,(l207++[(nth l219 ((nth x1 ((nth (nth x0.next ((nth l154 k163 (0:Int)).toNat) ([]:List Int)) k210 (0:Int)).toNat) (0:Int)).toNat) (0:Int))]),(k210+1)))))
instance mini_small_j1_le {n:Nat} {x0:Dfa} {l154:List Int} {k163:Nat} {k210:Nat} {x1:List Int} {l207:List Int} {l219:List Int} {l221:List Int}:LeC (Eo_ n x0 l154 k163 k210 x1 l207 l219 l221) (Ce_ x0 l154 k163 k210 x1 l207 l219 l221):=by
  unfold Eo_ Ce_;infer_instance
def Fl_(n:Nat)(x0:Dfa)(l154:List Int)(k163:Nat)(x1:List Int)(l158:List (List Int))(l200:List Int)(l202:List Int)(l207:List Int)(k210:Nat):Option (((List Int)×(List Int)×(List Int)×Nat)⊕(((List Int)×(List Int)×(List (List Int))×Nat)⊕(Dfa))):=
  iteO (decide (((k210:Nat):Int)<(((nth x0.next ((nth l154 k163 (0:Int)).toNat) ([]:List Int)).length:Nat):Int))) (grd (0≤(nth (nth x0.next ((nth l154 k163 (0:Int)).toNat) ([]:List Int)) k210 (0:Int))∧(nth (nth x0.next ((nth l154 k163 (0:Int)).toNat) ([]:List Int)) k210 (0:Int))<(x1.length:Int)) (grd (0≤(nth x1 ((nth (nth x0.next ((nth l154 k163 (0:Int)).toNat) ([]:List Int)) k210 (0:Int)).toNat) (0:Int))∧(nth x1 ((nth (nth x0.next ((nth l154 k163 (0:Int)).toNat) ([]:List Int)) k210 (0:Int)).toNat) (0:Int))<(l200.length:Int)) (iteO (decide ((nth l200 ((nth x1 ((nth (nth x0.next ((nth l154 k163 (0:Int)).toNat) ([]:List Int)) k210 (0:Int)).toNat) (0:Int)).toNat) (0:Int))<0)) (grd (0≤(nth (nth x0.next ((nth l154 k163 (0:Int)).toNat) ([]:List Int)) k210 (0:Int))∧(nth (nth x0.next ((nth l154 k163 (0:Int)).toNat) ([]:List Int)) k210 (0:Int))<(x1.length:Int)) (grd (0≤(nth x1 ((nth (nth x0.next ((nth l154 k163 (0:Int)).toNat) ([]:List Int)) k210 (0:Int)).toNat) (0:Int))∧(nth x1 ((nth (nth x0.next ((nth l154 k163 (0:Int)).toNat) ([]:List Int)) k210 (0:Int)).toNat) (0:Int))<(l200.length:Int)) (grd ((l202.length+[(nth (nth x0.next ((nth l154 k163 (0:Int)).toNat) ([]:List Int)) k210 (0:Int))].length) * 8≤140737488355328) (Eo_ n x0 l154 k163 k210 x1 l207 (l200.set ((nth x1 ((nth (nth x0.next ((nth l154 k163 (0:Int)).toNat) ([]:List Int)) k210 (0:Int)).toNat) (0:Int)).toNat) ((l202.length:Nat):Int)) (l202++[(nth (nth x0.next ((nth l154 k163 (0:Int)).toNat) ([]:List Int)) k210 (0:Int))]))))) (Eo_ n x0 l154 k163 k210 x1 l207 l200 l202)))) (fin (grd ((l158.length+[l207].length) * 24≤140737488355328) (nxt (l200,l202,(l158++[l207]),(k163+1)))))
instance mini_small_b3_le {n:Nat} {x0:Dfa} {l154:List Int} {k163:Nat} {x1:List Int} {l158:List (List Int)} {l200:List Int} {l202:List Int} {l207:List Int} {k210:Nat}:LeC (Fl_ n x0 l154 k163 x1 l158 l200 l202 l207 k210) (As_ x0 l154 k163 x1 l158 l200 l202 l207 k210):=by
  unfold Fl_ As_;infer_instance
def Fs_(n:Nat)(v91:(List Int)×(List Int))(k320:Nat)(l158:List (List Int))(l311:List (List Int))(l154:List Int)(x0:Dfa)(l317:List Bool)(l349:List Int)(k351:Nat):Option (((List Int)×Nat)⊕(((List (List Int))×(List Bool)×Nat)⊕(Dfa))):=
  iteO (decide (((k351:Nat):Int)<((v91.2.length:Nat):Int))) (grd (k320<l158.length) (grd (0≤(nth v91.2 k351 (0:Int))∧(nth v91.2 k351 (0:Int))<((nth l158 k320 ([]:List Int)).length:Int)) (grd (k351<l349.length) (nxt ((l349.set k351 (nth (nth l158 k320 ([]:List Int)) ((nth v91.2 k351 (0:Int)).toNat) (0:Int))),(k351+1)))))) (fin (grd ((l311.length+[l349].length) * 24≤140737488355328) (grd (0≤(nth l154 k320 (0:Int))∧(nth l154 k320 (0:Int))<(x0.fin.length:Int)) (grd ((l317.length+[(nth x0.fin ((nth l154 k320 (0:Int)).toNat) false)].length) * 1≤140737488355328) (nxt ((l311++[l349]),(l317++[(nth x0.fin ((nth l154 k320 (0:Int)).toNat) false)]),(k320+1)))))))
instance mini_small_b6_le {n:Nat} {v91:(List Int)×(List Int)} {k320:Nat} {l158:List (List Int)} {l311:List (List Int)} {l154:List Int} {x0:Dfa} {l317:List Bool} {l349:List Int} {k351:Nat}:LeC (Fs_ n v91 k320 l158 l311 l154 x0 l317 l349 k351) (A8_ v91 k320 l158 l311 l154 x0 l317 l349 k351):=by
  unfold Fs_ A8_;infer_instance
def Fx_(n:Nat)(l154:List Int)(v91:(List Int)×(List Int))(l158:List (List Int))(x0:Dfa)(l273:List Int)(l311:List (List Int))(l317:List Bool)(k320:Nat):Option (((List (List Int))×(List Bool)×Nat)⊕(Dfa)):=
  iteO (decide (((k320:Nat):Int)<((l154.length:Nat):Int))) (grd (8 * v91.2.length≤281474976710656) (iterX n (fun q:(List Int)×Nat=>Fs_ n v91 k320 l158 l311 l154 x0 l317 q.1 q.2) ((List.replicate v91.2.length (0:Int)),0))) (fin (some (⟨l273,l311,l317⟩:Dfa)))
instance mini_small_b5_le {n:Nat} {l154:List Int} {v91:(List Int)×(List Int)} {l158:List (List Int)} {x0:Dfa} {l273:List Int} {l311:List (List Int)} {l317:List Bool} {k320:Nat}:LeC (Fx_ n l154 v91 l158 x0 l273 l311 l317 k320) (At_ l154 v91 l158 x0 l273 l311 l317 k320):=by
  unfold Fx_ At_;infer_instance
def Fj_(n:Nat)(x0:Dfa)(v91:(List Int)×(List Int))(l154:List Int)(l158:List (List Int))(l273:List Int)(k275:Nat):Option (((List Int)×Nat)⊕(Dfa)):=
  iteO (decide (((k275:Nat):Int)<((x0.cls.length:Nat):Int))) (grd (0≤(nth x0.cls k275 (0:Int))∧(nth x0.cls k275 (0:Int))<(v91.1.length:Int)) (grd (k275<l273.length) (nxt ((l273.set k275 (nth v91.1 ((nth x0.cls k275 (0:Int)).toNat) (0:Int))),(k275+1))))) (fin (iterX n (fun q:(List (List Int))×(List Bool)×Nat=>Fx_ n l154 v91 l158 x0 l273 q.1 q.2.1 q.2.2) (([]:List (List Int)),([]:List Bool),0)))
instance mini_small_b4_le {n:Nat} {x0:Dfa} {v91:(List Int)×(List Int)} {l154:List Int} {l158:List (List Int)} {l273:List Int} {k275:Nat}:LeC (Fj_ n x0 v91 l154 l158 l273 k275) (A7_ x0 v91 l154 l158 l273 k275):=by
  unfold Fj_ A7_;infer_instance
def Ft_(n:Nat)(x0:Dfa)(x1:List Int)(l152:List Int)(l154:List Int)(l158:List (List Int))(k163:Nat):Option (((List Int)×(List Int)×(List (List Int))×Nat)⊕(Dfa)):=
  iteO (decide (((k163:Nat):Int)<((l154.length:Nat):Int))) (grd (0≤(nth l154 k163 (0:Int))∧(nth l154 k163 (0:Int))<(x0.next.length:Int)) (iterX n (fun q:(List Int)×(List Int)×(List Int)×Nat=>Fl_ n x0 l154 k163 x1 l158 q.1 q.2.1 q.2.2.1 q.2.2.2) (l152,l154,([]:List Int),0))) (fin (bnd (F8_ n l158) (fun v91=>grd (8 * x0.cls.length≤281474976710656) (iterX n (fun q:(List Int)×Nat=>Fj_ n x0 v91 l154 l158 q.1 q.2) ((List.replicate x0.cls.length (0:Int)),0)))))
instance mini_small_b2_le {n:Nat} {x0:Dfa} {x1:List Int} {l152:List Int} {l154:List Int} {l158:List (List Int)} {k163:Nat}:LeC (Ft_ n x0 x1 l152 l154 l158 k163) (A2_ x0 x1 l152 l154 l158 k163):=by
  unfold Ft_ A2_;infer_instance
def Fm_(n:Nat)(x2:Int)(x1:List Int)(x0:Dfa)(l114:List Int)(k116:Nat):Option (((List Int)×Nat)⊕(Dfa)):=
  iteO (decide (((k116:Nat):Int)<(((List.replicate x2.toNat (0:Int)).length:Nat):Int))) (grd (k116<l114.length) (nxt ((l114.set k116 (-1)),(k116+1)))) (fin (grd (0<x1.length) (grd (0≤(nth x1 0 (0:Int))∧(nth x1 0 (0:Int))<(l114.length:Int)) (iterX n (fun q:(List Int)×(List Int)×(List (List Int))×Nat=>Ft_ n x0 x1 q.1 q.2.1 q.2.2.1 q.2.2.2) ((l114.set ((nth x1 0 (0:Int)).toNat) 0),[0],([]:List (List Int)),0)))))
instance mini_small_b1_le {n:Nat} {x2:Int} {x1:List Int} {x0:Dfa} {l114:List Int} {k116:Nat}:LeC (Fm_ n x2 x1 x0 l114 k116) (Bb_ x2 x1 x0 l114 k116):=by
  unfold Fm_ Bb_;infer_instance
def Hj_(n:Nat)(x0:Dfa)(x1:List Int)(x2:Int):Option (Dfa):=
  grd (0≤x2∧8 * x2.toNat≤281474976710656) (iterX n (fun q:(List Int)×Nat=>Fm_ n x2 x1 x0 q.1 q.2) ((List.replicate x2.toNat (0:Int)),0))
instance mini_small_le {n:Nat} {x0:Dfa} {x1:List Int} {x2:Int}:LeC (Hj_ n x0 x1 x2) (D4_ x0 x1 x2):=by
  unfold Hj_ D4_;infer_instance
def H5_(n:Nat)(x0:Dfa):Option (Dfa×Int):=
  bnd (Gf_ n x0) (fun v5=>iteO (decide (v5≠0)) (some ((⟨([]:List Int),([]:List (List Int)),([]:List Bool)⟩:Dfa),1)) (bnd (F7_ n x0) (fun v12=>bnd (Gy_ n x0 v12) (fun v13=>bnd (Hj_ n x0 v13.1 v13.2) (fun v22=>some (v22,0))))))
instance mini_Min_le {n:Nat} {x0:Dfa}:LeC (H5_ n x0) (Dh_ x0):=by
  unfold H5_ Dh_;infer_instance
end Go.Proofs.YtnpbfjdpglfdkaaGreatDoor
end

noncomputable section
namespace Go.Proofs.YtnpbfjdpglfdkaaGreatDoor
open Go Go.E
theorem ex_ite{α:Type}{b:Bool}{x y:Option α}(h1:b=true→ ∃r,x=some r)(h2:b=false→ ∃r,y=some r): ∃r,iteO b x y=some r:=by
  cases b with
  |true=>exact h1 rfl
  |false=>exact h2 rfl
theorem ex_some{α:Type}(x:α): ∃r,some x=some r:=⟨x,rfl⟩
theorem few15_j3(t:Fst)(i:Int): ∃r,Bi_ t i=some r:=by
  unfold Bi_
  exact ex_ite (fun _=>ex_ite (fun _=>ex_some _) (fun _=>ex_some _)) (fun _=>ex_some _)
theorem few15_j2(t:Fst)(i:Int): ∃r,Bh_ t i=some r:=by
  unfold Bh_
  obtain ⟨r,h, -⟩:=iter_up (step:=fun q:Int×Nat=>Aa_ t q.1 q.2) (fun (s:Int) k=>(s,k)) t.arcs.length (fun _ _=>True) (fun _=>True)
    (fun k s hk _=>by
      show (∃s',Aa_ t s k=_∧_)∨ ∃r,Aa_ t s k=_∧_
      unfold Aa_
      rw [iteO_dt (by omega)]
      by_cases h:s≤60
      · rw [iteO_dt h];exact .inl ⟨_,rfl,trivial⟩
      rw [iteO_df h];obtain ⟨r,hr⟩:=few15_j3 t s;exact .inr ⟨r,by rw [hr];rfl,trivial⟩)
    (fun s _=>by
      show ∃r,Aa_ t s _=_∧_
      unfold Aa_
      rw [iteO_df (by omega)]
      obtain ⟨r,hr⟩:=few15_j3 t s;exact ⟨r,by rw [hr];rfl,trivial⟩) (s0:=i) trivial
  exact ⟨r,h⟩
theorem few15_j1(t:Fst)(i:Int): ∃r,Bj_ t i=some r:=by
  unfold Bj_
  obtain ⟨r,h, -⟩:=iter_up (step:=fun q:Int×Nat=>Ac_ t q.1 q.2) (fun (s:Int) k=>(s,k)) t.ends.length (fun _ _=>True) (fun _=>True)
    (fun k s hk _=>by
      show (∃s',Ac_ t s k=_∧_)∨ ∃r,Ac_ t s k=_∧_
      unfold Ac_
      rw [iteO_dt (by omega)]
      by_cases h:s≤60
      · rw [iteO_dt h];exact .inl ⟨_,rfl,trivial⟩
      rw [iteO_df h];obtain ⟨r,hr⟩:=few15_j2 t s;exact .inr ⟨r,by rw [hr];rfl,trivial⟩)
    (fun s _=>by
      show ∃r,Ac_ t s _=_∧_
      unfold Ac_
      rw [iteO_df (by omega)]
      obtain ⟨r,hr⟩:=few15_j2 t s;exact ⟨r,by rw [hr];rfl,trivial⟩) (s0:=i) trivial
  exact ⟨r,h⟩
theorem few15_total(t:Fst): ∃r,Da_ t=some r:=by
  unfold Da_
  obtain ⟨r,h, -⟩:=iter_up (step:=fun q:Int×Nat=>Ab_ t q.1 q.2) (fun (s:Int) k=>(s,k)) t.starts.length (fun _ _=>True) (fun _=>True)
    (fun k s hk _=>by
      show (∃s',Ab_ t s k=_∧_)∨ ∃r,Ab_ t s k=_∧_
      unfold Ab_
      rw [iteO_dt (by omega)]
      by_cases h:s≤60
      · rw [iteO_dt h];exact .inl ⟨_,rfl,trivial⟩
      rw [iteO_df h];obtain ⟨r,hr⟩:=few15_j1 t s;exact .inr ⟨r,by rw [hr];rfl,trivial⟩)
    (fun s _=>by
      show ∃r,Ab_ t s _=_∧_
      unfold Ab_
      rw [iteO_df (by omega)]
      obtain ⟨r,hr⟩:=few15_j1 t s;exact ⟨r,by rw [hr];rfl,trivial⟩) trivial
  exact ⟨r,h⟩
end Go.Proofs.YtnpbfjdpglfdkaaGreatDoor
end

noncomputable section
namespace Go.Proofs.YtnpbfjdpglfdkaaGreatDoor
open Go Go.E
def t18:Fst:=⟨3,[⟨0,[]⟩],[⟨2,[]⟩],[⟨0,1,BSet.ofL [97],[],false⟩,⟨0,2,BSet.ofL [98],[],false⟩]⟩
theorem t18_b:fstB t18=true:=by kernel_rfl
theorem use0:useB t18 0=true:=useB_iff.2 ⟨.base ⟨⟨0,[]⟩,by simp [t18],rfl⟩,.step (a:=2) (.base ⟨⟨2,[]⟩,by simp [t18],rfl⟩) ⟨⟨0,2,BSet.ofL [98],[],false⟩,by simp [t18],rfl,rfl⟩⟩
theorem use2:useB t18 2=true:=useB_iff.2 ⟨.step (a:=0) (.base ⟨⟨0,[]⟩,by simp [t18],rfl⟩) ⟨⟨0,2,BSet.ofL [98],[],false⟩,by simp [t18],rfl,rfl⟩,.base ⟨⟨2,[]⟩,by simp [t18],rfl⟩⟩
theorem back18{s:Int}(h:Rch (enS t18) (arB t18) s):s≠1:=by
  cases h with
  |base h=>
    obtain ⟨x,hx,rfl⟩:=h
    simp only [t18,List.mem_cons,List.not_mem_nil,or_false]at hx
    rw [hx];decide
  |step _ he=>
    obtain ⟨x,hx, -,rfl⟩:=he
    simp only [t18,List.mem_cons,List.not_mem_nil,or_false]at hx
    rcases hx with rfl|rfl<;>decide
theorem use1:useB t18 1=false:=by
  cases h:useB t18 1
  · rfl
  exact absurd rfl (back18 (useB_iff.1 h).2)
theorem keep_of{p:Nat→Bool}(h0:p 0=true)(h1:p 1=false)(h2:p 2=true):keepF p t18=⟨2,[⟨0,[]⟩],[⟨1,[]⟩],[⟨0,1,BSet.ofL [98],[],false⟩]⟩:=by
  have n0:numB p 0=0:=by unfold numB;rw [show (0:Int).toNat=0 from rfl,h0];rfl
  have n1:numB p 1= -1:=by unfold numB;rw [show (1:Int).toNat=1 from rfl,h1];rfl
  have n2:numB p 2=1:=by unfold numB;rw [show (2:Int).toNat=2 from rfl,h2];simp [cntB,h0,h1]
  have c3:cntB p 3=2:=by simp [cntB,h0,h1,h2]
  show (⟨((cntB p 3:Nat):Int),_,_,_⟩:Fst)=_
  rw [c3]
  simp only [t18,keepT,keepA,List.filterMap_cons,List.filterMap_nil,n0,n1,n2]
  rfl
theorem keep18:keepF (useB t18) t18=⟨2,[⟨0,[]⟩],[⟨1,[]⟩],[⟨0,1,BSet.ofL [98],[],false⟩]⟩:=keep_of use0 use1 use2
theorem trim18:trimD t18=⟨2,[⟨0,[]⟩],[⟨1,[]⟩],[⟨0,1,BSet.ofL [98],[],false⟩]⟩:=by
  unfold trimD
  rw [keep18]
  unfold srt
  rw [Hf_ cmpTip_good (List.pairwise_singleton ..),Hf_ cmpTip_good (List.pairwise_singleton ..),Hf_ cmpArc_good (List.pairwise_singleton ..)]
theorem in18:Hz_ t18=some (⟨3,[0],[2],[⟨0,1,BSet.ofL [97]⟩,⟨0,2,BSet.ofL [98]⟩]⟩,0):=by
  rw [in_eq,if_pos t18_b]
  unfold inN
  rw [show t18.starts.map Tip.state=[0]from rfl,show t18.ends.map Tip.state=[2]from rfl,Hf_ cmpI_good (List.pairwise_singleton ..),Hf_ cmpI_good (List.pairwise_singleton ..)]
  rfl
def d18:Dfa:=⟨List.replicate 97 0++1::2::List.replicate 157 0,[[1,2,3],[1,1,1],[1,1,1],[1,1,1]],[false,false,false,true]⟩
theorem of18:Ii_ 300 ⟨3,[0],[2],[⟨0,1,BSet.ofL [97]⟩,⟨0,2,BSet.ofL [98]⟩]⟩=some (d18,0):=by kernel_rfl
def m18:Dfa:=⟨List.replicate 98 0++1::List.replicate 157 0,[[1,2],[1,1],[1,1]],[false,false,true]⟩
theorem min18:H5_ 300 d18=some (m18,0):=by kernel_rfl
theorem take18:Hr_ 300 m18 [98]=some (true,0):=by kernel_rfl
theorem domain18:B8_ t18=some (m18,0):=by
  unfold B8_
  rw [in18,bnd_mk]
  dsimp only
  rw [iteO_df (by simp),show Gp_ _=some (d18,0)from LeC.le _ of18,bnd_mk]
  dsimp only
  rw [iteO_df (by simp),show Dh_ d18=some (m18,0)from LeC.le _ min18,bnd_mk]
theorem awake18:Af_=some true:=by
  unfold Af_
  rw [grd_mk (by decide),grd_mk (by decide)]
  show bnd (E0_ t18) (fun v17=>bnd (B8_ t18) _)=_
  rw [trim_eq,if_pos t18_b,bnd_mk,domain18,bnd_mk,show Fi_ m18 [98]=some (true,0)from LeC.le _ take18,bnd_mk,trim18]
  rfl
theorem small18_total(t:Fst): ∃b,Ay_ t=some b:=by
  unfold Ay_
  obtain ⟨b,hb⟩:=few15_total t
  rw [bnd_some hb]
  exact ex_ite (fun _=>ex_ite (fun _=>ex_some _) (fun _=>ex_some _)) (fun _=>ex_some _)
end Go.Proofs.YtnpbfjdpglfdkaaGreatDoor
end

noncomputable section
namespace Go.Proofs.YtnpbfjdpglfdkaaGreatDoor
open Go Go.E Go.E.OpVal Go.E.OpOk Go.Proofs.Tryz
theorem pf51:plainF Tryz.prog 51=true:=by kernel_rfl
theorem pf52:plainF Tryz.prog 52=true:=by kernel_rfl
theorem pf53:plainF Tryz.prog 53=true:=by kernel_rfl
theorem pf57:plainF Tryz.prog 57=true:=by kernel_rfl
theorem pf58:plainF Tryz.prog 58=true:=by kernel_rfl
theorem pf59:plainF Tryz.prog 59=true:=by kernel_rfl
theorem pf60:plainF Tryz.prog 60=true:=by kernel_rfl
theorem pf61:plainF Tryz.prog 61=true:=by kernel_rfl
theorem pl114:plOf Tryz.prog 114=some #[(0,4),(4,1)]:=by kernel_rfl
theorem ze114:zeroOf Tryz.prog 114=some (.agg #[.int .i64 0,.slice none 0 0,.slice none 0 0,.slice none 0 0,.bool false]):=by kernel_rfl
def Ap_(x1:List Tip)(x2:Int)(i138:Int)(l140:List Tip)(l144:List Tip)(l148:List Arc)(t151:Bool)(k152:Nat):Option ((Int×(List Tip)×(List Tip)×(List Arc)×Bool×Nat)⊕(Grow)):=
 iteO (decide (((k152:Nat):Int)<((x1.length:Nat):Int))) (bnd (C5_ (⟨(⟨i138,l140,l144,l148⟩:Fst),t151⟩:Grow) (⟨IntKind.i64.wrap (((nth x1 k152 Tip.zero).state)+x2),(nth x1 k152 Tip.zero).out⟩:Tip)) (fun v17=>nxt (v17.f.states,v17.f.starts,v17.f.ends,v17.f.arcs,v17.over,(k152+1)))) (fin (some (⟨(⟨i138,l140,l144,l148⟩:Fst),t151⟩:Grow)))
def Cs_(x0:Grow)(x1:List Tip)(x2:Int):Option (Grow):=
 iter (fun q:Int×(List Tip)×(List Tip)×(List Arc)×Bool×Nat=>Ap_ x1 x2 q.1 q.2.1 q.2.2.1 q.2.2.2.1 q.2.2.2.2.1 q.2.2.2.2.2) (x0.f.states,x0.f.starts,x0.f.ends,x0.f.arcs,x0.over,0)
theorem F2_{x0:Grow}{x1:List Tip}{x2:Int}(f1_0:RS σ 2 encTip (.slice a1_0 x1.length c1_0) x1){r:Grow}(hh:Cs_ x0 x1 x2=some r):
  Con Tryz.prog 59 #[loc b0_0 0,.slice a1_0 x1.length c1_0,.int .i64 x2] σ [Res.cells b0_0 #[.int .i64 x0.f.states,.slice a0_1 x0.f.starts.length c0_2,.slice a0_3 x0.f.ends.length c0_4,.slice a0_5 x0.f.arcs.length c0_6,.bool x0.over] Eb0,Res.rowS 62 2 encTip (.slice a0_1 x0.f.starts.length c0_2) x0.f.starts,Res.rowS 62 2 encTip (.slice a0_3 x0.f.ends.length c0_4) x0.f.ends,Res.rowS 59 8 encArc (.slice a0_5 x0.f.arcs.length c0_6) x0.f.arcs] (fun v σ' H'=> ∃ao1 co2 ao3 co4 ao5 co6,v= .tuple #[]∧σ=σ'∧H'=[Res.cells b0_0 #[.int .i64 r.f.states,.slice ao1 r.f.starts.length co2,.slice ao3 r.f.ends.length co4,.slice ao5 r.f.arcs.length co6,.bool r.over] Eb0,Res.rowS 62 2 encTip (.slice ao1 r.f.starts.length co2) r.f.starts,Res.rowS 62 2 encTip (.slice ao3 r.f.ends.length co4) r.f.ends,Res.rowS 59 8 encArc (.slice ao5 r.f.arcs.length co6) r.f.arcs]):=by
 dsimp only [Cs_]at hh
 have f1_0b:=f1_0.rv.big
 refine Con.mk (n:=24) Tryz.func59 z z z (fun w0=> ?_)
 refine TC.a (TL.s z z (TL.w z (lenC z underlying22 z) (TL.i z z (TL.en (TC.block (TC.loopG (α:=(Int×(List Tip)×(List Tip)×(List Arc)×Bool×Nat)×((Option Addr)×Nat×(Option Addr)×Nat×(Option Addr)×Nat)) (rgs [(7,1),(10,14)]) (fun g=>[(10,.int .i64 ((g.1.2.2.2.2.2:Nat):Int))]) (fun g=>[Res.cells b0_0 #[.int .i64 g.1.1,.slice g.2.1 g.1.2.1.length g.2.2.1,.slice g.2.2.2.1 g.1.2.2.1.length g.2.2.2.2.1,.slice g.2.2.2.2.2.1 g.1.2.2.2.1.length g.2.2.2.2.2.2,.bool g.1.2.2.2.2.1] Eb0,Res.rowS 62 2 encTip (.slice g.2.1 g.1.2.1.length g.2.2.1) g.1.2.1,Res.rowS 62 2 encTip (.slice g.2.2.2.1 g.1.2.2.1.length g.2.2.2.2.1) g.1.2.2.1,Res.rowS 59 8 encArc (.slice g.2.2.2.2.2.1 g.1.2.2.2.1.length g.2.2.2.2.2.2) g.1.2.2.2.1]) (fun g=>σ) (fun g=>iter (fun q:Int×(List Tip)×(List Tip)×(List Arc)×Bool×Nat=>Ap_ x1 x2 q.1 q.2.1 q.2.2.1 q.2.2.2.1 q.2.2.2.2.1 q.2.2.2.2.2) g.1=some r) (fun g=>rounds (fun q:Int×(List Tip)×(List Tip)×(List Arc)×Bool×Nat=>Ap_ x1 x2 q.1 q.2.1 q.2.2.1 q.2.2.2.1 q.2.2.2.2.1 q.2.2.2.2.2) g.1) ((x0.f.states,x0.f.starts,x0.f.ends,x0.f.arcs,x0.over,0),(a0_1,c0_2,a0_3,c0_4,a0_5,c0_6)) (Sub.f [3,3,3,3] 4) z (by repeat (first|exact trivial|refine ⟨z,?_⟩)) hh (fun g1 j1 hg1=> ?_)))))))
 obtain ⟨⟨i138,l140,l144,l148,t151,k152⟩,⟨a141,c142,a145,c146,a149,c150⟩⟩:=g1
 have hh:=hg1;clear hg1
 try dsimp only
 obtain ⟨z1,hh,hR1⟩:=iter_e hh
 dsimp only [Ap_]at hh
 refine TC.isSl (i:=1) z (fun _ hb153 _=> ?_)
 refine TC.isSl (i:=2) z (fun _ hb154 _=> ?_)
 refine TC.isSl (i:=3) z (fun _ hb155 _=> ?_)
 refine TC.a (TL.w z (OpVal.lss z z z) (TL.en (TC.seq (TC.cD z hh (fun h156 hh=> ?_) (fun h156 hh=> ?_)))))
 ·refine TC.skip (S.n (TC.seq (TC.block (TC.a (TL.w z (indexN z underlying22 sz62 z z f1_0.rv.sl (by omega)) (TL.w z (loadSA Tip.zero z ag62 sz62 z f1_0 (by omega) (by omega)) (TL.op z (OpOk.alloc z ze62 z z (fun b157=> ?_)))))))))
  refine TL.op z (storeAll z sz62 z z z z z z ?_)
  refine TL.en (TC.region (TL.l z z (TL.w z (fieldLoc z fo62_0 z) (TL.w z (loadLoc z ag3 z (i:=0) z z) (TL.i z z (TL.w z (addW z z z) (TL.w z (fieldLoc z fo62_1 z) (TL.w z (loadLoc z ag9 z (i:=0) z z) (TL.w z (buildL z pl62 ze62 z) (TL.front 4 z z (TL.front 4 z z (TL.front 4 z z (TL.front 4 z z ?_)))))))))))))
  obtain ⟨v17,u17,hh⟩:=bnd_e hh
  refine TL.op z (OpOk.call (Gq_ u17) z z pf52 z z z z ?_)
  rintro _ _ _ hle159 ⟨a159_1,c159_2,a159_3,c159_4,a159_5,c159_6,rfl,rfl,rfl⟩
  refine TL.nil (B.n (S.n (TC.region (TL.w z (OpVal.succ z z z (by omega)) (TL.i z z (TL.en ?_))))))
  obtain ⟨hh,hlt163⟩:=nxt_x hR1 hh
  exact lf ((v17.f.states,v17.f.starts,v17.f.ends,v17.f.arcs,v17.over,(k152+1)),(a159_1,c159_2,a159_3,c159_4,a159_5,c159_6)) hlt163 hh (Sub.f [3,3,3,3] 4)
 refine TC.exit (S.x (S.x ?_))
 replace hh:=fin_x hR1 hh
 refine TC.exitHere ?_
 obtain rfl:=so hh
 exact RetOk.mk' (rs:=[]) [Res.cells b0_0 #[.int .i64 i138,.slice a141 l140.length c142,.slice a145 l144.length c146,.slice a149 l148.length c150,.bool t151] Eb0,Res.rowS 62 2 encTip (.slice a141 l140.length c142) l140,Res.rowS 62 2 encTip (.slice a145 l144.length c146) l144,Res.rowS 59 8 encArc (.slice a149 l148.length c150) l148] z (.inr z) RVs.nil (List.sublist_append_left _ _) ⟨a141,c142,a145,c146,a149,c150,z,z,z⟩
def A0_(x1:List Tip)(x2:Int)(i138:Int)(l140:List Tip)(l144:List Tip)(l148:List Arc)(t151:Bool)(k152:Nat):Option ((Int×(List Tip)×(List Tip)×(List Arc)×Bool×Nat)⊕(Grow)):=
 iteO (decide (((k152:Nat):Int)<((x1.length:Nat):Int))) (bnd (Dt_ (⟨(⟨i138,l140,l144,l148⟩:Fst),t151⟩:Grow) (⟨IntKind.i64.wrap (((nth x1 k152 Tip.zero).state)+x2),(nth x1 k152 Tip.zero).out⟩:Tip)) (fun v17=>nxt (v17.f.states,v17.f.starts,v17.f.ends,v17.f.arcs,v17.over,(k152+1)))) (fin (some (⟨(⟨i138,l140,l144,l148⟩:Fst),t151⟩:Grow)))
def Dd_(x0:Grow)(x1:List Tip)(x2:Int):Option (Grow):=
 iter (fun q:Int×(List Tip)×(List Tip)×(List Arc)×Bool×Nat=>A0_ x1 x2 q.1 q.2.1 q.2.2.1 q.2.2.2.1 q.2.2.2.2.1 q.2.2.2.2.2) (x0.f.states,x0.f.starts,x0.f.ends,x0.f.arcs,x0.over,0)
theorem G2_{x0:Grow}{x1:List Tip}{x2:Int}(f1_0:RS σ 2 encTip (.slice a1_0 x1.length c1_0) x1){r:Grow}(hh:Dd_ x0 x1 x2=some r):
  Con Tryz.prog 60 #[loc b0_0 0,.slice a1_0 x1.length c1_0,.int .i64 x2] σ [Res.cells b0_0 #[.int .i64 x0.f.states,.slice a0_1 x0.f.starts.length c0_2,.slice a0_3 x0.f.ends.length c0_4,.slice a0_5 x0.f.arcs.length c0_6,.bool x0.over] Eb0,Res.rowS 62 2 encTip (.slice a0_1 x0.f.starts.length c0_2) x0.f.starts,Res.rowS 62 2 encTip (.slice a0_3 x0.f.ends.length c0_4) x0.f.ends,Res.rowS 59 8 encArc (.slice a0_5 x0.f.arcs.length c0_6) x0.f.arcs] (fun v σ' H'=> ∃ao1 co2 ao3 co4 ao5 co6,v= .tuple #[]∧σ=σ'∧H'=[Res.cells b0_0 #[.int .i64 r.f.states,.slice ao1 r.f.starts.length co2,.slice ao3 r.f.ends.length co4,.slice ao5 r.f.arcs.length co6,.bool r.over] Eb0,Res.rowS 62 2 encTip (.slice ao1 r.f.starts.length co2) r.f.starts,Res.rowS 62 2 encTip (.slice ao3 r.f.ends.length co4) r.f.ends,Res.rowS 59 8 encArc (.slice ao5 r.f.arcs.length co6) r.f.arcs]):=by
 dsimp only [Dd_]at hh
 have f1_0b:=f1_0.rv.big
 refine Con.mk (n:=24) Tryz.func60 z z z (fun w0=> ?_)
 refine TC.a (TL.s z z (TL.w z (lenC z underlying22 z) (TL.i z z (TL.en (TC.block (TC.loopG (α:=(Int×(List Tip)×(List Tip)×(List Arc)×Bool×Nat)×((Option Addr)×Nat×(Option Addr)×Nat×(Option Addr)×Nat)) (rgs [(7,1),(10,14)]) (fun g=>[(10,.int .i64 ((g.1.2.2.2.2.2:Nat):Int))]) (fun g=>[Res.cells b0_0 #[.int .i64 g.1.1,.slice g.2.1 g.1.2.1.length g.2.2.1,.slice g.2.2.2.1 g.1.2.2.1.length g.2.2.2.2.1,.slice g.2.2.2.2.2.1 g.1.2.2.2.1.length g.2.2.2.2.2.2,.bool g.1.2.2.2.2.1] Eb0,Res.rowS 62 2 encTip (.slice g.2.1 g.1.2.1.length g.2.2.1) g.1.2.1,Res.rowS 62 2 encTip (.slice g.2.2.2.1 g.1.2.2.1.length g.2.2.2.2.1) g.1.2.2.1,Res.rowS 59 8 encArc (.slice g.2.2.2.2.2.1 g.1.2.2.2.1.length g.2.2.2.2.2.2) g.1.2.2.2.1]) (fun g=>σ) (fun g=>iter (fun q:Int×(List Tip)×(List Tip)×(List Arc)×Bool×Nat=>A0_ x1 x2 q.1 q.2.1 q.2.2.1 q.2.2.2.1 q.2.2.2.2.1 q.2.2.2.2.2) g.1=some r) (fun g=>rounds (fun q:Int×(List Tip)×(List Tip)×(List Arc)×Bool×Nat=>A0_ x1 x2 q.1 q.2.1 q.2.2.1 q.2.2.2.1 q.2.2.2.2.1 q.2.2.2.2.2) g.1) ((x0.f.states,x0.f.starts,x0.f.ends,x0.f.arcs,x0.over,0),(a0_1,c0_2,a0_3,c0_4,a0_5,c0_6)) (Sub.f [3,3,3,3] 4) z (by repeat (first|exact trivial|refine ⟨z,?_⟩)) hh (fun g1 j1 hg1=> ?_)))))))
 obtain ⟨⟨i138,l140,l144,l148,t151,k152⟩,⟨a141,c142,a145,c146,a149,c150⟩⟩:=g1
 have hh:=hg1;clear hg1
 try dsimp only
 obtain ⟨z1,hh,hR1⟩:=iter_e hh
 dsimp only [A0_]at hh
 refine TC.isSl (i:=1) z (fun _ hb153 _=> ?_)
 refine TC.isSl (i:=2) z (fun _ hb154 _=> ?_)
 refine TC.isSl (i:=3) z (fun _ hb155 _=> ?_)
 refine TC.a (TL.w z (OpVal.lss z z z) (TL.en (TC.seq (TC.cD z hh (fun h156 hh=> ?_) (fun h156 hh=> ?_)))))
 ·refine TC.skip (S.n (TC.seq (TC.block (TC.a (TL.w z (indexN z underlying22 sz62 z z f1_0.rv.sl (by omega)) (TL.w z (loadSA Tip.zero z ag62 sz62 z f1_0 (by omega) (by omega)) (TL.op z (OpOk.alloc z ze62 z z (fun b157=> ?_)))))))))
  refine TL.op z (storeAll z sz62 z z z z z z ?_)
  refine TL.en (TC.region (TL.l z z (TL.w z (fieldLoc z fo62_0 z) (TL.w z (loadLoc z ag3 z (i:=0) z z) (TL.i z z (TL.w z (addW z z z) (TL.w z (fieldLoc z fo62_1 z) (TL.w z (loadLoc z ag9 z (i:=0) z z) (TL.w z (buildL z pl62 ze62 z) (TL.front 4 z z (TL.front 4 z z (TL.front 4 z z (TL.front 4 z z ?_)))))))))))))
  obtain ⟨v17,u17,hh⟩:=bnd_e hh
  refine TL.op z (OpOk.call (Ha_ u17) z z pf53 z z z z ?_)
  rintro _ _ _ hle159 ⟨a159_1,c159_2,a159_3,c159_4,a159_5,c159_6,rfl,rfl,rfl⟩
  refine TL.nil (B.n (S.n (TC.region (TL.w z (OpVal.succ z z z (by omega)) (TL.i z z (TL.en ?_))))))
  obtain ⟨hh,hlt163⟩:=nxt_x hR1 hh
  exact lf ((v17.f.states,v17.f.starts,v17.f.ends,v17.f.arcs,v17.over,(k152+1)),(a159_1,c159_2,a159_3,c159_4,a159_5,c159_6)) hlt163 hh (Sub.f [3,3,3,3] 4)
 refine TC.exit (S.x (S.x ?_))
 replace hh:=fin_x hR1 hh
 refine TC.exitHere ?_
 obtain rfl:=so hh
 exact RetOk.mk' (rs:=[]) [Res.cells b0_0 #[.int .i64 i138,.slice a141 l140.length c142,.slice a145 l144.length c146,.slice a149 l148.length c150,.bool t151] Eb0,Res.rowS 62 2 encTip (.slice a141 l140.length c142) l140,Res.rowS 62 2 encTip (.slice a145 l144.length c146) l144,Res.rowS 59 8 encArc (.slice a149 l148.length c150) l148] z (.inr z) RVs.nil (List.sublist_append_left _ _) ⟨a141,c142,a145,c146,a149,c150,z,z,z⟩
def A1_(x1:List Arc)(x2:Int)(i138:Int)(l140:List Tip)(l144:List Tip)(l148:List Arc)(t151:Bool)(k152:Nat):Option ((Int×(List Tip)×(List Tip)×(List Arc)×Bool×Nat)⊕(Grow)):=
 iteO (decide (((k152:Nat):Int)<((x1.length:Nat):Int))) (bnd (Ds_ (⟨(⟨i138,l140,l144,l148⟩:Fst),t151⟩:Grow) (⟨IntKind.i64.wrap (((nth x1 k152 Arc.zero).frm)+x2),IntKind.i64.wrap (((nth x1 k152 Arc.zero).to)+x2),(nth x1 k152 Arc.zero).set,(nth x1 k152 Arc.zero).out,(nth x1 k152 Arc.zero).copy⟩:Arc)) (fun v25=>nxt (v25.f.states,v25.f.starts,v25.f.ends,v25.f.arcs,v25.over,(k152+1)))) (fin (some (⟨(⟨i138,l140,l144,l148⟩:Fst),t151⟩:Grow)))
def Db_(x0:Grow)(x1:List Arc)(x2:Int):Option (Grow):=
 iter (fun q:Int×(List Tip)×(List Tip)×(List Arc)×Bool×Nat=>A1_ x1 x2 q.1 q.2.1 q.2.2.1 q.2.2.2.1 q.2.2.2.2.1 q.2.2.2.2.2) (x0.f.states,x0.f.starts,x0.f.ends,x0.f.arcs,x0.over,0)
theorem G3_{x0:Grow}{x1:List Arc}{x2:Int}(f1_0:RS σ 8 encArc (.slice a1_0 x1.length c1_0) x1){r:Grow}(hh:Db_ x0 x1 x2=some r):
  Con Tryz.prog 61 #[loc b0_0 0,.slice a1_0 x1.length c1_0,.int .i64 x2] σ [Res.cells b0_0 #[.int .i64 x0.f.states,.slice a0_1 x0.f.starts.length c0_2,.slice a0_3 x0.f.ends.length c0_4,.slice a0_5 x0.f.arcs.length c0_6,.bool x0.over] Eb0,Res.rowS 62 2 encTip (.slice a0_1 x0.f.starts.length c0_2) x0.f.starts,Res.rowS 62 2 encTip (.slice a0_3 x0.f.ends.length c0_4) x0.f.ends,Res.rowS 59 8 encArc (.slice a0_5 x0.f.arcs.length c0_6) x0.f.arcs] (fun v σ' H'=> ∃ao1 co2 ao3 co4 ao5 co6,v= .tuple #[]∧σ=σ'∧H'=[Res.cells b0_0 #[.int .i64 r.f.states,.slice ao1 r.f.starts.length co2,.slice ao3 r.f.ends.length co4,.slice ao5 r.f.arcs.length co6,.bool r.over] Eb0,Res.rowS 62 2 encTip (.slice ao1 r.f.starts.length co2) r.f.starts,Res.rowS 62 2 encTip (.slice ao3 r.f.ends.length co4) r.f.ends,Res.rowS 59 8 encArc (.slice ao5 r.f.arcs.length co6) r.f.arcs]):=by
 dsimp only [Db_]at hh
 have f1_0b:=f1_0.rv.big
 refine Con.mk (n:=32) Tryz.func61 z z z (fun w0=> ?_)
 refine TC.a (TL.s z z (TL.w z (lenC z underlying23 z) (TL.i z z (TL.en (TC.block (TC.loopG (α:=(Int×(List Tip)×(List Tip)×(List Arc)×Bool×Nat)×((Option Addr)×Nat×(Option Addr)×Nat×(Option Addr)×Nat)) (rgs [(7,1),(10,22)]) (fun g=>[(10,.int .i64 ((g.1.2.2.2.2.2:Nat):Int))]) (fun g=>[Res.cells b0_0 #[.int .i64 g.1.1,.slice g.2.1 g.1.2.1.length g.2.2.1,.slice g.2.2.2.1 g.1.2.2.1.length g.2.2.2.2.1,.slice g.2.2.2.2.2.1 g.1.2.2.2.1.length g.2.2.2.2.2.2,.bool g.1.2.2.2.2.1] Eb0,Res.rowS 62 2 encTip (.slice g.2.1 g.1.2.1.length g.2.2.1) g.1.2.1,Res.rowS 62 2 encTip (.slice g.2.2.2.1 g.1.2.2.1.length g.2.2.2.2.1) g.1.2.2.1,Res.rowS 59 8 encArc (.slice g.2.2.2.2.2.1 g.1.2.2.2.1.length g.2.2.2.2.2.2) g.1.2.2.2.1]) (fun g=>σ) (fun g=>iter (fun q:Int×(List Tip)×(List Tip)×(List Arc)×Bool×Nat=>A1_ x1 x2 q.1 q.2.1 q.2.2.1 q.2.2.2.1 q.2.2.2.2.1 q.2.2.2.2.2) g.1=some r) (fun g=>rounds (fun q:Int×(List Tip)×(List Tip)×(List Arc)×Bool×Nat=>A1_ x1 x2 q.1 q.2.1 q.2.2.1 q.2.2.2.1 q.2.2.2.2.1 q.2.2.2.2.2) g.1) ((x0.f.states,x0.f.starts,x0.f.ends,x0.f.arcs,x0.over,0),(a0_1,c0_2,a0_3,c0_4,a0_5,c0_6)) (Sub.f [3,3,3,3] 4) z (by repeat (first|exact trivial|refine ⟨z,?_⟩)) hh (fun g1 j1 hg1=> ?_)))))))
 obtain ⟨⟨i138,l140,l144,l148,t151,k152⟩,⟨a141,c142,a145,c146,a149,c150⟩⟩:=g1
 have hh:=hg1;clear hg1
 try dsimp only
 obtain ⟨z1,hh,hR1⟩:=iter_e hh
 dsimp only [A1_]at hh
 refine TC.isSl (i:=1) z (fun _ hb153 _=> ?_)
 refine TC.isSl (i:=2) z (fun _ hb154 _=> ?_)
 refine TC.isSl (i:=3) z (fun _ hb155 _=> ?_)
 refine TC.a (TL.w z (OpVal.lss z z z) (TL.en (TC.seq (TC.cD z hh (fun h156 hh=> ?_) (fun h156 hh=> ?_)))))
 ·refine TC.skip (S.n (TC.seq (TC.block (TC.a (TL.w z (indexN z underlying23 sz59 z z f1_0.rv.sl (by omega)) (TL.w z (loadSA Arc.zero z ag59 sz59 z f1_0 (by omega) (by omega)) (TL.op z (OpOk.alloc z ze59 z z (fun b157=> ?_)))))))))
  refine TL.op z (storeAll z sz59 z z z z z z ?_)
  refine TL.en (TC.region (TL.l z z (TL.w z (fieldLoc z fo59_0 z) (TL.w z (loadLoc z ag3 z (i:=0) z z) (TL.i z z (TL.w z (addW z z z) (TL.w z (fieldLoc z fo59_1 z) (TL.w z (loadLoc z ag3 z (i:=0) z z) (TL.i z z (TL.w z (addW z z z) (TL.w z (fieldLoc z fo59_2 z) (TL.w z (loadLocA z ag57 sz57 z (i:=0) z z z) (TL.w z (fieldLoc z fo59_3 z) (TL.w z (loadLoc z ag9 z (i:=0) z z) (TL.w z (fieldLoc z fo59_4 z) ?_)))))))))))))))
  refine TL.w z (loadLoc z ag4 z (i:=0) z z) (TL.w z (buildL z pl59 ze59 z) (TL.front 4 z z (TL.front 4 z z (TL.front 4 z z (TL.front 4 z z ?_)))))
  obtain ⟨v25,u25,hh⟩:=bnd_e hh
  refine TL.op z (OpOk.call (Hi_ u25) z z pf57 z z z z ?_)
  rintro _ _ _ hle159 ⟨a159_1,c159_2,a159_3,c159_4,a159_5,c159_6,rfl,rfl,rfl⟩
  refine TL.nil (B.n (S.n (TC.region (TL.w z (OpVal.succ z z z (by omega)) (TL.i z z (TL.en ?_))))))
  obtain ⟨hh,hlt163⟩:=nxt_x hR1 hh
  exact lf ((v25.f.states,v25.f.starts,v25.f.ends,v25.f.arcs,v25.over,(k152+1)),(a159_1,c159_2,a159_3,c159_4,a159_5,c159_6)) hlt163 hh (Sub.f [3,3,3,3] 4)
 refine TC.exit (S.x (S.x ?_))
 replace hh:=fin_x hR1 hh
 refine TC.exitHere ?_
 obtain rfl:=so hh
 exact RetOk.mk' (rs:=[]) [Res.cells b0_0 #[.int .i64 i138,.slice a141 l140.length c142,.slice a145 l144.length c146,.slice a149 l148.length c150,.bool t151] Eb0,Res.rowS 62 2 encTip (.slice a141 l140.length c142) l140,Res.rowS 62 2 encTip (.slice a145 l144.length c146) l144,Res.rowS 59 8 encArc (.slice a149 l148.length c150) l148] z (.inr z) RVs.nil (List.sublist_append_left _ _) ⟨a141,c142,a145,c146,a149,c150,z,z,z⟩
def G6_(x0:Fst)(x1:Fst):Option (Bool):=
 bnd (B6_ x0) (fun v5=>iteO (decide (v5=0)) (bnd (B6_ x1) (fun v9=>some (decide (v9=0)))) (some false))
theorem Jq_{x0:Fst}{x1:Fst}(f0_0:RS σ 2 encTip (.slice a0_0 x0.starts.length c0_0) x0.starts)(f0_1:RS σ 2 encTip (.slice a0_1 x0.ends.length c0_1) x0.ends)(f0_2:RS σ 8 encArc (.slice a0_2 x0.arcs.length c0_2) x0.arcs)(f1_0:RS σ 2 encTip (.slice a1_0 x1.starts.length c1_0) x1.starts)(f1_1:RS σ 2 encTip (.slice a1_1 x1.ends.length c1_1) x1.ends)(f1_2:RS σ 8 encArc (.slice a1_2 x1.arcs.length c1_2) x1.arcs){r:Bool}(hh:G6_ x0 x1=some r):
  Con Tryz.prog 58 #[.agg #[.int .i64 x0.states,.slice a0_0 x0.starts.length c0_0,.slice a0_1 x0.ends.length c0_1,.slice a0_2 x0.arcs.length c0_2],.agg #[.int .i64 x1.states,.slice a1_0 x1.starts.length c1_0,.slice a1_1 x1.ends.length c1_1,.slice a1_2 x1.arcs.length c1_2]] σ [] (PureP (.bool r) σ):=by
 dsimp only [G6_]at hh
 have f0_0b:=f0_0.rv.big
 have f0_1b:=f0_1.rv.big
 have f0_2b:=f0_2.rv.big
 have f1_0b:=f1_0.rv.big
 have f1_1b:=f1_1.rv.big
 have f1_2b:=f1_2.rv.big
 refine Con.mk (n:=13) Tryz.func58 z z z (fun w0=> ?_)
 refine TC.a (TL.op z (boxA z z z z (fun b101=> ?_)))
 refine TL.op z (boxA z z z z (fun b103=> ?_))
 refine TL.j z z (TL.en (TC.a (TL.w z (loadAll z ag25 sz25 z (i:=1) z z) ?_)))
 obtain ⟨v5,u5,hh⟩:=bnd_e hh
 refine TL.op z (callP (Bw_ (x0:=x0) f0_0 f0_1 f0_2 u5) z z pf16 z z z ?_)
 refine TL.w z (OpVal.eql z z z) (TL.j z z (TL.split 8 z (fun h105=> ?_) (fun h105=> ?_)))
 ·replace hh:=iteO_t h105 hh
  replace h105:=of_decide_eq_true h105
  refine TL.g z (loadAll z ag25 sz25 z (i:=0) z z) ?_
  obtain ⟨v9,u9,hh⟩:=bnd_e hh
  refine TL.gon z z z z z (callP (Bw_ (x0:=x1) f1_0 f1_1 f1_2 u9) z z pf16 z z z ?_)
  refine TL.g z (OpVal.eql z z z) (TL.w z (pickTB z z z) (TL.j z z (TL.en (TC.rt 0 ?_))))
  obtain rfl:=so hh
  exact rq [4] ⟨z,z,z⟩
 replace hh:=iteO_f h105 hh
 replace h105:=of_decide_eq_false h105
 refine TL.f z (TL.f z (TL.f z (TL.w z (pickFB z z z) (TL.j z z (TL.en (TC.rt 0 ?_))))))
 obtain rfl:=so hh
 exact rq [4] ⟨z,z,z⟩
def Ez_(x0:Fst)(x1:Fst):Option (Fst×Int):=
 bnd (G6_ x0 x1) (fun v7=>iteO (!v7) (some ((⟨0,([]:List Tip),([]:List Tip),([]:List Arc)⟩:Fst),1)) (bnd (Cs_ (⟨(⟨IntKind.i64.wrap (x0.states+x1.states),([]:List Tip),([]:List Tip),([]:List Arc)⟩:Fst),false⟩:Grow) x0.starts 0) (fun v30=>bnd (Cs_ (⟨(⟨v30.f.states,v30.f.starts,v30.f.ends,v30.f.arcs⟩:Fst),v30.over⟩:Grow) x1.starts x0.states) (fun v36=>bnd (Dd_ (⟨(⟨v36.f.states,v36.f.starts,v36.f.ends,v36.f.arcs⟩:Fst),v36.over⟩:Grow) x0.ends 0) (fun v40=>bnd (Dd_ (⟨(⟨v40.f.states,v40.f.starts,v40.f.ends,v40.f.arcs⟩:Fst),v40.over⟩:Grow) x1.ends x0.states) (fun v46=>bnd (Db_ (⟨(⟨v46.f.states,v46.f.starts,v46.f.ends,v46.f.arcs⟩:Fst),v46.over⟩:Grow) x0.arcs 0) (fun v50=>bnd (Db_ (⟨(⟨v50.f.states,v50.f.starts,v50.f.ends,v50.f.arcs⟩:Fst),v50.over⟩:Grow) x1.arcs x0.states) (fun v56=>bnd (B1_ (⟨(⟨v56.f.states,v56.f.starts,v56.f.ends,v56.f.arcs⟩:Fst),v56.over⟩:Grow)) (fun v57=>some ((⟨v57.1.states,v57.1.starts,v57.1.ends,v57.1.arcs⟩:Fst),v57.2))))))))))
def Kg_(σ:Store)(r:Fst×Int):Value→Store→List Res→Prop:=fun v σ' H'=>
 ∃a1 c1 a2 c2 a3 c3,v= .tuple #[.agg #[.int .i64 r.1.states,.slice a1 r.1.starts.length c1,.slice a2 r.1.ends.length c2,.slice a3 r.1.arcs.length c3],.int .i64 r.2]∧RS σ' 2 encTip (.slice a1 r.1.starts.length c1) r.1.starts∧RS σ' 2 encTip (.slice a2 r.1.ends.length c2) r.1.ends∧RS σ' 8 encArc (.slice a3 r.1.arcs.length c3) r.1.arcs∧H'=[]
theorem Jr_{x0:Fst}{x1:Fst}(f0_0:RS σ 2 encTip (.slice a0_0 x0.starts.length c0_0) x0.starts)(f0_1:RS σ 2 encTip (.slice a0_1 x0.ends.length c0_1) x0.ends)(f0_2:RS σ 8 encArc (.slice a0_2 x0.arcs.length c0_2) x0.arcs)(f1_0:RS σ 2 encTip (.slice a1_0 x1.starts.length c1_0) x1.starts)(f1_1:RS σ 2 encTip (.slice a1_1 x1.ends.length c1_1) x1.ends)(f1_2:RS σ 8 encArc (.slice a1_2 x1.arcs.length c1_2) x1.arcs){r:Fst×Int}(hh:Ez_ x0 x1=some r):
  Con Tryz.prog 25 #[.agg #[.int .i64 x0.states,.slice a0_0 x0.starts.length c0_0,.slice a0_1 x0.ends.length c0_1,.slice a0_2 x0.arcs.length c0_2],.agg #[.int .i64 x1.states,.slice a1_0 x1.starts.length c1_0,.slice a1_1 x1.ends.length c1_1,.slice a1_2 x1.arcs.length c1_2]] σ [] (Kg_ σ r):=by
 dsimp only [Ez_]at hh
 have f0_0b:=f0_0.rv.big
 have f0_1b:=f0_1.rv.big
 have f0_2b:=f0_2.rv.big
 have f1_0b:=f1_0.rv.big
 have f1_1b:=f1_1.rv.big
 have f1_2b:=f1_2.rv.big
 refine Con.mkD (n:=54) Tryz.func25 z z z (fun w0=> ?_)
 refine TB.seq endR_ret (TC.region (TL.op z (boxA z z z z (fun b101=> ?_))))
 refine TL.op z (boxA z z z z (fun b103=> ?_))
 refine TL.op z (OpOk.alloc z ze25 z z (fun b105=> ?_))
 refine TL.op z (OpOk.alloc z ze32 z z (fun b107=> ?_))
 refine TL.en (TB.seq endR_ret (TC.a (TL.w z (loadAll z ag25 sz25 z (i:=3) z z) (TL.w z (loadAll z ag25 sz25 z (i:=2) z z) ?_))))
 obtain ⟨v7,u7,hh⟩:=bnd_e hh
 refine TL.op z (callP (Jq_ (x0:=x0) (x1:=x1) f0_0 f0_1 f0_2 f1_0 f1_1 f1_2 u7) z z pf58 z z z ?_)
 refine TL.w z (OpVal.not z z) (TL.en (TC.cB z hh (fun h109 hh=> ?_) (fun h109 hh=> ?_)))
 ·refine TC.a (TL.w z (buildL z pl25 ze25 z) (TL.front 1 z z (TL.op z (storeAll z sz25 z z z z z z ?_))))
  refine TL.front 1 z z (TL.op z (storeI z sz32 z z z z z ?_))
  refine TL.en (TC.ofSub (Sub.f [1] 2) (TC.ret (S.r ?_)))
  obtain rfl:=so hh
  exact ro [] z (RVs.agg ag25 sz25 z (i:=0) z z (RVs.one ag32 z (i:=1) z z RVs.nil)) ⟨none,0,none,0,none,0,z,(RS.nilF _ encTip encTip_len),(RS.nilF _ encTip encTip_len),(RS.nilF _ encArc encArc_len),z⟩
 refine TC.skip (S.n (TB.seq endR_ret (TC.region (TL.w z (buildL z pl114 ze114 z) (TL.op z (boxA z z z z (fun b110=> ?_)))))))
 refine TL.l z z (TL.en (TB.seqD (TLB.v z (moveLoc (.inl z) z) z z (TLB.dfr (dargs:=[loc b110 0,loc b105 0,loc b107 0]) z z z z z (fun a_ w_ hw_ ha_=> ?_)))))
 refine TB.fin (Q:=dfrQ _ _ _ _ 51 [loc b110 0,loc b105 0,loc b107 0]) (endR_dfr (cap:=[]) (dargs:=[loc b110 0,loc b105 0,loc b107 0]) pf51) ?_ w_ a_ hw_ ha_
 clear hw_ ha_ a_ w_
 refine TC.a (TL.l z z (TL.w z (fieldLoc z fo25_0 z) (TL.w z (loadLoc z ag3 z (i:=4) z z) (TL.w z (fieldLoc z fo25_0 z) (TL.w z (loadLoc z ag3 z (i:=3) z z) (TL.w z (addW z z z) (TL.w z (nilCheckLoc z z) (TL.w z (fieldLoc z fo114_0 z) (TL.w z (fieldLoc z fo25_0 z) (TL.op z (storeI z sz3 z z z z z ?_)))))))))))
 refine TL.en (TC.a (TL.l z z (TL.w z (fieldLoc z fo25_1 z) (TL.w z (loadLoc z ag22 z (i:=4) z z) (TL.nilS 62 2 encTip (TL.nilS 62 2 encTip (TL.nilS 59 8 encArc (TL.front 1 z z (TL.front 2 z z (TL.front 3 z z ?_))))))))))
 obtain ⟨v30,u30,hh⟩:=bnd_e hh
 refine TL.op z (OpOk.call (F2_ f0_0 u30) z z pf59 z z z z ?_)
 rintro _ _ _ hle115 ⟨a115_1,c115_2,a115_3,c115_4,a115_5,c115_6,rfl,rfl,rfl⟩
 refine TL.en (TC.a (TL.l z z (TL.w z (fieldLoc z fo25_1 z) (TL.w z (loadLoc z ag22 z (i:=6) z z) (TL.w z (fieldLoc z fo25_0 z) (TL.w z (loadLoc z ag3 z (i:=7) z z) (TL.front 3 z z (TL.front 3 z z (TL.front 3 z z (TL.front 3 z z ?_))))))))))
 obtain ⟨v36,u36,hh⟩:=bnd_e hh
 refine TL.op z (OpOk.call (F2_ f1_0 u36) z z pf59 z z z z ?_)
 rintro _ _ _ hle119 ⟨a119_1,c119_2,a119_3,c119_4,a119_5,c119_6,rfl,rfl,rfl⟩
 refine TL.en (TC.a (TL.l z z (TL.w z (fieldLoc z fo25_2 z) (TL.w z (loadLoc z ag22 z (i:=7) z z) (TL.front 3 z z (TL.front 3 z z (TL.front 3 z z (TL.front 3 z z ?_))))))))
 obtain ⟨v40,u40,hh⟩:=bnd_e hh
 refine TL.op z (OpOk.call (G2_ f0_1 u40) z z pf60 z z z z ?_)
 rintro _ _ _ hle123 ⟨a123_1,c123_2,a123_3,c123_4,a123_5,c123_6,rfl,rfl,rfl⟩
 refine TL.en (TC.a (TL.l z z (TL.w z (fieldLoc z fo25_2 z) (TL.w z (loadLoc z ag22 z (i:=6) z z) (TL.w z (fieldLoc z fo25_0 z) (TL.w z (loadLoc z ag3 z (i:=7) z z) (TL.front 3 z z (TL.front 3 z z (TL.front 3 z z (TL.front 3 z z ?_))))))))))
 obtain ⟨v46,u46,hh⟩:=bnd_e hh
 refine TL.op z (OpOk.call (G2_ f1_1 u46) z z pf60 z z z z ?_)
 rintro _ _ _ hle127 ⟨a127_1,c127_2,a127_3,c127_4,a127_5,c127_6,rfl,rfl,rfl⟩
 refine TL.en (TC.a (TL.l z z (TL.w z (fieldLoc z fo25_3 z) (TL.w z (loadLoc z ag23 z (i:=7) z z) (TL.front 3 z z (TL.front 3 z z (TL.front 3 z z (TL.front 3 z z ?_))))))))
 obtain ⟨v50,u50,hh⟩:=bnd_e hh
 refine TL.op z (OpOk.call (G3_ f0_2 u50) z z pf61 z z z z ?_)
 rintro _ _ _ hle131 ⟨a131_1,c131_2,a131_3,c131_4,a131_5,c131_6,rfl,rfl,rfl⟩
 refine TL.en (TC.a (TL.l z z (TL.w z (fieldLoc z fo25_3 z) (TL.w z (loadLoc z ag23 z (i:=6) z z) (TL.w z (fieldLoc z fo25_0 z) (TL.w z (loadLoc z ag3 z (i:=7) z z) (TL.front 3 z z (TL.front 3 z z (TL.front 3 z z (TL.front 3 z z ?_))))))))))
 obtain ⟨v56,u56,hh⟩:=bnd_e hh
 refine TL.op z (OpOk.call (G3_ f1_2 u56) z z pf61 z z z z ?_)
 rintro _ _ _ hle135 ⟨a135_1,c135_2,a135_3,c135_4,a135_5,c135_6,rfl,rfl,rfl⟩
 refine TL.en (TC.front 4 z z (TC.front 5 z z (TC.front 5 z z (TC.front 5 z z (TC.front 5 z z (TC.front 5 z z ?_))))))
 obtain ⟨v57,u57,hh⟩:=bnd_e hh
 refine TC.ret (⟨.inl z,_,Sub.pre 6 z,(Dl_ u57).mono ?_⟩)
 rintro _ τ139 _ hle139 ⟨a139_1,c139_2,a139_4,c139_5,a139_7,c139_8,rfl,f139_3,f139_6,f139_9,rfl⟩
 have f139_3b:=f139_3.rv.big
 have f139_6b:=f139_6.rv.big
 have f139_9b:=f139_9.rv.big
 obtain rfl:=so hh
 exact RetOk.mk' (rs:=[.cell 4 25,.cell 5 32]) [] z (.inl z) (RVs.agg ag25 sz25 z (i:=0) z z (RVs.one ag32 z (i:=1) z z RVs.nil)) (List.nil_sublist _) ⟨a139_1,c139_2,a139_4,c139_5,a139_7,c139_8,z,f139_3,f139_6,f139_9,z⟩
end Go.Proofs.YtnpbfjdpglfdkaaGreatDoor
end

noncomputable section
namespace Go.Proofs.YtnpbfjdpglfdkaaGreatDoor
open Go Go.E
structure GB (F:Fst):Prop where
  sN:F.starts.length≤1024
  eN:F.ends.length≤1024
  aN:F.arcs.length≤16384
  s: ∀x∈F.starts,x.out.length≤1024
  e: ∀x∈F.ends,x.out.length≤1024
  a: ∀x∈F.arcs,x.out.length≤1024
def Gr(g:Grow)(F:Fst):Prop:=g.over=true∨g=⟨F,false⟩∧GB F
theorem Gr.nil(n:Int):Gr ⟨⟨n,[],[],[]⟩,false⟩ ⟨n,[],[],[]⟩:= .inr ⟨rfl,by simp,by simp,by simp,by simp,by simp,by simp⟩
theorem Gr.st{g:Grow}{F:Fst}(h:Gr g F)(x:Tip):Gr (growSt g x) ⟨F.states,F.starts++[x],F.ends,F.arcs⟩:=by
  unfold growSt
  split
  · exact .inl rfl
  rename_i hn
  rcases h with h|⟨rfl,h⟩
  · exact absurd (.inl h) hn
  simp only [Bool.false_eq_true,false_or,not_or,Nat.not_le,Nat.not_lt]at hn
  refine .inr ⟨rfl,?_,h.eN,h.aN,fun y hy=> ?_,h.e,h.a⟩
  · simp only [List.length_append,List.length_singleton];omega
  rcases List.mem_append.1 hy with hy|hy
  · exact h.s y hy
  rw [List.mem_singleton.1 hy];exact hn.2
theorem Gr.en{g:Grow}{F:Fst}(h:Gr g F)(x:Tip):Gr (growEn g x) ⟨F.states,F.starts,F.ends++[x],F.arcs⟩:=by
  unfold growEn
  split
  · exact .inl rfl
  rename_i hn
  rcases h with h|⟨rfl,h⟩
  · exact absurd (.inl h) hn
  simp only [Bool.false_eq_true,false_or,not_or,Nat.not_le,Nat.not_lt]at hn
  refine .inr ⟨rfl,h.sN,?_,h.aN,h.s,fun y hy=> ?_,h.a⟩
  · simp only [List.length_append,List.length_singleton];omega
  rcases List.mem_append.1 hy with hy|hy
  · exact h.e y hy
  rw [List.mem_singleton.1 hy];exact hn.2
theorem Gr.ar{g:Grow}{F:Fst}(h:Gr g F)(x:Arc):Gr (growAr g x) ⟨F.states,F.starts,F.ends,F.arcs++[x]⟩:=by
  unfold growAr
  split
  · exact .inl rfl
  rename_i hn
  rcases h with h|⟨rfl,h⟩
  · exact absurd (.inl h) hn
  simp only [Bool.false_eq_true,false_or,not_or,Nat.not_le,Nat.not_lt]at hn
  refine .inr ⟨rfl,h.sN,h.eN,?_,h.s,h.e,fun y hy=> ?_⟩
  · simp only [List.length_append,List.length_singleton];omega
  rcases List.mem_append.1 hy with hy|hy
  · exact h.a y hy
  rw [List.mem_singleton.1 hy];exact hn.2
def pS(F:Fst)(l:List Tip):Fst:=⟨F.states,F.starts++l,F.ends,F.arcs⟩
def pE(F:Fst)(l:List Tip):Fst:=⟨F.states,F.starts,F.ends++l,F.arcs⟩
def pA(F:Fst)(l:List Arc):Fst:=⟨F.states,F.starts,F.ends,F.arcs++l⟩
theorem pS_nil(F:Fst):pS F []=F:=by simp [pS]
theorem pE_nil(F:Fst):pE F []=F:=by simp [pE]
theorem pA_nil(F:Fst):pA F []=F:=by simp [pA]
theorem pS_snoc(F:Fst)(l:List Tip)(x:Tip):pS F (l++[x])=⟨(pS F l).states,(pS F l).starts++[x],(pS F l).ends,(pS F l).arcs⟩:=by simp [pS]
theorem pE_snoc(F:Fst)(l:List Tip)(x:Tip):pE F (l++[x])=⟨(pE F l).states,(pE F l).starts,(pE F l).ends++[x],(pE F l).arcs⟩:=by simp [pE]
theorem pA_snoc(F:Fst)(l:List Arc)(x:Arc):pA F (l++[x])=⟨(pA F l).states,(pA F l).starts,(pA F l).ends,(pA F l).arcs++[x]⟩:=by simp [pA]
theorem pA_app(F:Fst)(l m:List Arc):pA (pA F l) m=pA F (l++m):=by simp [pA]
theorem pE_app(F:Fst)(l m:List Tip):pE (pE F l) m=pE F (l++m):=by simp [pE]
theorem shT_snoc(n:Int)(l:List Tip){k:Nat}(h:k<l.length):shT n (l.take (k+1))=shT n (l.take k)++[⟨(nth l k Tip.zero).state+n,(nth l k Tip.zero).out⟩]:=by
  rw [take_snoc l h Tip.zero];unfold shT;rw [List.map_append];rfl
theorem shA_snoc(n:Int)(l:List Arc){k:Nat}(h:k<l.length):shA n (l.take (k+1))=shA n (l.take k)++[⟨(nth l k Arc.zero).frm+n,(nth l k Arc.zero).to+n,(nth l k Arc.zero).set,(nth l k Arc.zero).out,(nth l k Arc.zero).copy⟩]:=by
  rw [take_snoc l h Arc.zero];unfold shA;rw [List.map_append];rfl
theorem wr_ok{a:Int}(h: -100000≤a∧a≤100000):IntKind.i64.wrap a=a:=wrap64_of (by omega) (by omega)
theorem starts_go{l:List Tip}{up:Int}(hr: ∀x∈l, -100000≤x.state+up∧x.state+up≤100000){g:Grow}{F:Fst}(h:Gr g F): ∃g',Cs_ g l up=some g'∧Gr g' (pS F (shT up l)):=by
  unfold Cs_
  refine iter_up (step:=fun q:Int×(List Tip)×(List Tip)×(List Arc)×Bool×Nat=>Ap_ l up q.1 q.2.1 q.2.2.1 q.2.2.2.1 q.2.2.2.2.1 q.2.2.2.2.2) (fun (s:Grow) k=>(s.f.states,s.f.starts,s.f.ends,s.f.arcs,s.over,k)) l.length
    (fun k s=>Gr s (pS F (shT up (l.take k)))) _ (fun k s hk hI=> ?_) (fun s hI=> ?_) (s0:=g) (by simpa [shT,pS_nil]using h)
  · refine .inl ⟨growSt s ⟨(nth l k Tip.zero).state+up,(nth l k Tip.zero).out⟩,?_,?_⟩
    · show Ap_ l up s.f.states s.f.starts s.f.ends s.f.arcs s.over k=_
      unfold Ap_
      rw [iteO_dt (by omega),start_eq,bnd_mk,wr_ok (hr _ (nth_mem' hk _))];rfl
    rw [shT_snoc up l hk,pS_snoc];exact hI.st _
  rw [List.take_length]at hI
  refine ⟨s,?_,hI⟩
  show Ap_ l up s.f.states s.f.starts s.f.ends s.f.arcs s.over l.length=_
  unfold Ap_
  rw [iteO_df (by omega)];rfl
theorem ends_go{l:List Tip}{up:Int}(hr: ∀x∈l, -100000≤x.state+up∧x.state+up≤100000){g:Grow}{F:Fst}(h:Gr g F): ∃g',Dd_ g l up=some g'∧Gr g' (pE F (shT up l)):=by
  unfold Dd_
  refine iter_up (step:=fun q:Int×(List Tip)×(List Tip)×(List Arc)×Bool×Nat=>A0_ l up q.1 q.2.1 q.2.2.1 q.2.2.2.1 q.2.2.2.2.1 q.2.2.2.2.2) (fun (s:Grow) k=>(s.f.states,s.f.starts,s.f.ends,s.f.arcs,s.over,k)) l.length
    (fun k s=>Gr s (pE F (shT up (l.take k)))) _ (fun k s hk hI=> ?_) (fun s hI=> ?_) (s0:=g) (by simpa [shT,pE_nil]using h)
  · refine .inl ⟨growEn s ⟨(nth l k Tip.zero).state+up,(nth l k Tip.zero).out⟩,?_,?_⟩
    · show A0_ l up s.f.states s.f.starts s.f.ends s.f.arcs s.over k=_
      unfold A0_
      rw [iteO_dt (by omega),end_eq,bnd_mk,wr_ok (hr _ (nth_mem' hk _))];rfl
    rw [shT_snoc up l hk,pE_snoc];exact hI.en _
  rw [List.take_length]at hI
  refine ⟨s,?_,hI⟩
  show A0_ l up s.f.states s.f.starts s.f.ends s.f.arcs s.over l.length=_
  unfold A0_
  rw [iteO_df (by omega)];rfl
theorem arcs_go{l:List Arc}{up:Int}(hr: ∀x∈l,(-100000≤x.frm+up∧x.frm+up≤100000)∧ -100000≤x.to+up∧x.to+up≤100000){g:Grow}{F:Fst}(h:Gr g F): ∃g',Db_ g l up=some g'∧Gr g' (pA F (shA up l)):=by
  unfold Db_
  refine iter_up (step:=fun q:Int×(List Tip)×(List Tip)×(List Arc)×Bool×Nat=>A1_ l up q.1 q.2.1 q.2.2.1 q.2.2.2.1 q.2.2.2.2.1 q.2.2.2.2.2) (fun (s:Grow) k=>(s.f.states,s.f.starts,s.f.ends,s.f.arcs,s.over,k)) l.length
    (fun k s=>Gr s (pA F (shA up (l.take k)))) _ (fun k s hk hI=> ?_) (fun s hI=> ?_) (s0:=g) (by simpa [shA,pA_nil]using h)
  · have hm:=hr _ (nth_mem' hk Arc.zero)
    refine .inl ⟨growAr s ⟨(nth l k Arc.zero).frm+up,(nth l k Arc.zero).to+up,(nth l k Arc.zero).set,(nth l k Arc.zero).out,(nth l k Arc.zero).copy⟩,?_,?_⟩
    · show A1_ l up s.f.states s.f.starts s.f.ends s.f.arcs s.over k=_
      unfold A1_
      rw [iteO_dt (by omega),arc_eq,bnd_mk,wr_ok hm.1,wr_ok hm.2];rfl
    rw [shA_snoc up l hk,pA_snoc];exact hI.ar _
  rw [List.take_length]at hI
  refine ⟨s,?_,hI⟩
  show A1_ l up s.f.states s.f.starts s.f.ends s.f.arcs s.over l.length=_
  unfold A1_
  rw [iteO_df (by omega)];rfl
def GEnd(F:Fst)(r:Fst×Int):Prop:=r=(⟨0,[],[],[]⟩,2)∨r=(F,0)∧GB F∧F.states≤1024
theorem gend{g:Grow}{F:Fst}(h:Gr g F):GEnd F (lookG g):=by
  unfold lookG
  split
  · exact .inl rfl
  rename_i hn
  rcases h with h|⟨rfl,h⟩
  · exact absurd (.inl h) hn
  simp only [Bool.false_eq_true,false_or,Int.not_lt]at hn
  exact .inr ⟨rfl,h,hn⟩
theorem shT_zero(l:List Tip):shT 0 l=l:=by
  unfold shT
  have:(fun x:Tip=>(⟨x.state+0,x.out⟩:Tip))=id:=funext fun x=>by rw [Int.add_zero];rfl
  rw [this,List.map_id]
theorem shA_zero(l:List Arc):shA 0 l=l:=by
  unfold shA
  have:(fun x:Arc=>(⟨x.frm+0,x.to+0,x.set,x.out,x.copy⟩:Arc))=id:=funext fun x=>by rw [Int.add_zero,Int.add_zero];rfl
  rw [this,List.map_id]
theorem both_go(a b:Fst):G6_ a b=some (fstB a && fstB b):=by
  unfold G6_
  rw [Be_,bnd_mk]
  cases ha:fstB a
  · rfl
  rw [Be_,bnd_mk]
  cases hb:fstB b<;>rfl
theorem alt_go{a b:Fst}(ha:FstOk a)(hb:FstOk b): ∃r,Ez_ a b=some r∧GEnd (fAlt a b) r:=by
  have a0:=ha.st0
  have a1:=ha.st1
  have b0:=hb.st0
  have b1:=hb.st1
  have rT0: ∀l:List Tip,(∀x∈l,(0≤x.state∧x.state<a.states)∧x.out.length≤1024)→ ∀x∈l, -100000≤x.state+0∧x.state+0≤100000:=fun l hl x hx=>by have:=hl x hx;omega
  have rT1: ∀l:List Tip,(∀x∈l,(0≤x.state∧x.state<b.states)∧x.out.length≤1024)→ ∀x∈l, -100000≤x.state+a.states∧x.state+a.states≤100000:=fun l hl x hx=>by have:=hl x hx;omega
  unfold Ez_
  rw [both_go,(fstB_iff a).2 ha,(fstB_iff b).2 hb,bnd_mk]
  simp only [Bool.and_self,Bool.not_true,iteO_false]
  rw [wr_ok (by omega)]
  obtain ⟨g1,e1,h1⟩:=starts_go (rT0 _ ha.starts) (Gr.nil (a.states+b.states))
  rw [bnd_some e1]
  obtain ⟨g2,e2,h2⟩:=starts_go (rT1 _ hb.starts) h1
  rw [bnd_some e2]
  obtain ⟨g3,e3,h3⟩:=ends_go (rT0 _ ha.ends) h2
  rw [bnd_some e3]
  obtain ⟨g4,e4,h4⟩:=ends_go (rT1 _ hb.ends) h3
  rw [bnd_some e4]
  obtain ⟨g5,e5,h5⟩:=arcs_go (l:=a.arcs) (up:=0) (fun x hx=>by have:=ha.arcs x hx;omega) h4
  rw [bnd_some e5]
  obtain ⟨g6,e6,h6⟩:=arcs_go (l:=b.arcs) (up:=a.states) (fun x hx=>by have:=hb.arcs x hx;omega) h5
  rw [bnd_some e6,bnd_some (look_eq g6)]
  refine ⟨lookG g6,rfl,?_⟩
  have:=gend h6
  rw [shT_zero,shT_zero,shA_zero]at this
  exact this
section
variable {a b:Fst} (ha:FstOk a) (hb:FstOk b) {v48:List (List Arc)} {l147:List (List Tip)} (h48:Grp Arc.frm id b.states.toNat v48 b.arcs) (h147:Grp Tip.state id b.states.toNat l147 b.ends)
include ha hb h48 h147
end
section
variable {a:Fst} (ha:FstOk a) {v47:List (List Arc)} (h47:Grp Arc.frm id a.states.toNat v47 a.arcs)
include ha h47
end
end Go.Proofs.YtnpbfjdpglfdkaaGreatDoor
end

noncomputable section
namespace Go.Proofs.YtnpbfjdpglfdkaaGreatDoor
open Go Go.E
end Go.Proofs.YtnpbfjdpglfdkaaGreatDoor
end

noncomputable section
namespace Go.Proofs.YtnpbfjdpglfdkaaGreatDoor
open Go Go.E Go.E.OpVal Go.E.OpOk
end Go.Proofs.YtnpbfjdpglfdkaaGreatDoor
end

noncomputable section
namespace Go.Proofs.YtnpbfjdpglfdkaaGreatDoor
open Go Go.E
abbrev ltB(x y:List UInt8):Prop:=Lib.compareBytes x y<0
structure Gath (o:List Tip) (S:List FPair):Prop where
  nd:o.Nodup
  sub: ∀y∈o,tp y∈S
  len:o.length≤4097
  all:o.length≤4096→ ∀q∈S, ∃y∈o,tp y=q
theorem Gath.more{o:List Tip}{S:List FPair}(h:Gath o S)(hl:o.length≤4096)(x:Tip):Gath (if x∈o then o else o++[x]) (S++[tp x]):=by
  by_cases hx:x∈o
  · rw [if_pos hx]
    refine ⟨h.nd,fun y hy=>List.mem_append_left _ (h.sub y hy),h.len,fun h4 q hq=> ?_⟩
    rw [List.mem_append,List.mem_singleton]at hq
    rcases hq with hq|rfl
    · exact h.all h4 q hq
    exact ⟨x,hx,rfl⟩
  rw [if_neg hx]
  refine ⟨?_,fun y hy=> ?_,by rw [List.length_append,List.length_singleton];omega,fun h4 q hq=> ?_⟩
  · rw [List.nodup_append]
    exact ⟨h.nd,by simp,fun a ha b hb=>by rw [List.mem_singleton.1 hb];intro e;subst e;exact hx ha⟩
  · rw [List.mem_append,List.mem_singleton]at *
    rcases hy with hy|rfl
    · exact .inl (h.sub y hy)
    exact .inr rfl
  rw [List.mem_append,List.mem_singleton]at hq
  rcases hq with hq|rfl
  · obtain ⟨y,hy,e⟩:=h.all hl q hq
    exact ⟨y,List.mem_append_left _ hy,e⟩
  exact ⟨x,by simp,rfl⟩
theorem Gath.full{o:List Tip}{S T:List FPair}(h:Gath o S)(hl:4096<o.length)(hs: ∀q∈S,q∈T):Gath o T:=⟨h.nd,fun y hy=>hs _ (h.sub y hy),h.len,fun h4=>by omega⟩
end Go.Proofs.YtnpbfjdpglfdkaaGreatDoor
end

noncomputable section
namespace Go.Proofs.YtnpbfjdpglfdkaaGreatDoor
open Go Go.E Go.E.OpVal Go.E.OpOk
end Go.Proofs.YtnpbfjdpglfdkaaGreatDoor
end

noncomputable section
namespace Go.Proofs.YtnpbfjdpglfdkaaGreatDoor
open Go Go.E Go.E.OpVal Go.E.OpOk
end Go.Proofs.YtnpbfjdpglfdkaaGreatDoor
end

noncomputable section
namespace Go.Proofs.YtnpbfjdpglfdkaaGreatDoor
open Go Go.E
theorem alt_ok{a b:Fst}(ha:FstOk a)(hb:FstOk b)(h:GB (fAlt a b))(hn:(fAlt a b).states≤1024):FstOk (fAlt a b):=by
  have a0:=ha.st0
  have b0:=hb.st0
  refine ⟨by show 0≤a.states+b.states;omega,hn,h.aN,h.sN,h.eN,fun x hx=>⟨?_,h.s x hx⟩,fun x hx=>⟨?_,h.e x hx⟩,fun x hx=> ?_⟩
  · show 0≤x.state∧x.state<a.states+b.states
    rcases List.mem_append.1 hx with hx|hx
    · have:=ha.starts x hx;omega
    obtain ⟨y,hy,rfl⟩:=mem_shT.1 hx
    have:=hb.starts y hy;dsimp only;omega
  · show 0≤x.state∧x.state<a.states+b.states
    rcases List.mem_append.1 hx with hx|hx
    · have:=ha.ends x hx;omega
    obtain ⟨y,hy,rfl⟩:=mem_shT.1 hx
    have:=hb.ends y hy;dsimp only;omega
  show (0≤x.frm∧x.frm<a.states+b.states)∧(0≤x.to∧x.to<a.states+b.states)∧x.set≠BSet.zero∧x.out.length≤1024
  have hl:=h.a x hx
  rcases List.mem_append.1 hx with hx|hx
  · have:=ha.arcs x hx;exact ⟨by omega,by omega,this.2.2.1,hl⟩
  obtain ⟨y,hy,rfl⟩:=mem_shA.1 hx
  have:=hb.arcs y hy;exact ⟨by dsimp only;omega,by dsimp only;omega,this.2.2.1,hl⟩
def zF:Fst:=⟨0,[],[],[]⟩
theorem zF_ok:FstOk zF:=⟨by decide,by decide,by decide,by decide,by decide,fun _ h=>(by cases h),fun _ h=>(by cases h),fun _ h=>(by cases h)⟩
theorem alt_any(a b:Fst): ∃r,Ez_ a b=some r∧FstOk r.1∧(r.2≠0∨FstOk a∧FstOk b∧r=(fAlt a b,0)∧FstOk (fAlt a b)):=by
  by_cases h:fstB a=true∧fstB b=true
  · have ha:=(fstB_iff a).1 h.1
    have hb:=(fstB_iff b).1 h.2
    obtain ⟨r,e,hr⟩:=alt_go ha hb
    refine ⟨r,e,?_⟩
    rcases hr with rfl|⟨rfl,h1,h2⟩
    · exact ⟨zF_ok,.inl (by decide)⟩
    exact ⟨alt_ok ha hb h1 h2,.inr ⟨ha,hb,rfl,alt_ok ha hb h1 h2⟩⟩
  refine ⟨(zF,1),?_,zF_ok,.inl (by decide)⟩
  unfold Ez_
  rw [both_go,bnd_mk]
  have:(fstB a && fstB b)=false:=by
    rw [Bool.and_eq_false_iff]
    cases ha:fstB a
    · exact .inl rfl
    right
    cases hb:fstB b
    · rfl
    exact absurd ⟨ha,hb⟩ h
  rw [this];rfl
end Go.Proofs.YtnpbfjdpglfdkaaGreatDoor
end

noncomputable section
namespace Go.Proofs.YtnpbfjdpglfdkaaGreatDoor
open Go Go.E
def dltN(d:Dfa)(s:Int)(b:Nat):Int:=nth (nth d.next s.toNat ([]:List Int)) ((nth d.cls b (0:Int)).toNat) (0:Int)
theorem dlt_N(d:Dfa)(s:Int)(b:UInt8):dltN d s b.toNat=dlt d s b:=rfl
def lset(d:Dfa)(y:Int)(s:BSet)(z:Int):BSet:=BSet.make fun b=>s.has b && decide (dltN d y b=z)
theorem lset_has{d:Dfa}{y z:Int}{s:BSet}{b:UInt8}:(lset d y s z).has b.toNat=true↔s.has b.toNat=true∧dlt d y b=z:=by
  unfold lset
  rw [BSet.make_has _ (UInt8.toNat_lt b),dlt_N,Bool.and_eq_true,decide_eq_true_eq]
theorem hasZ(b:Nat)(hb:b<256):BSet.zero.has b=false:=by
  rw [←BSet.make_zero,BSet.make_has _ hb]
theorem lset_ne{d:Dfa}{y z:Int}{s:BSet}{b:UInt8}(h:s.has b.toNat=true)(h2:dlt d y b=z):lset d y s z≠BSet.zero:=fun e=>by
  have h3:=lset_has.2 ⟨h,h2⟩
  rw [e,hasZ _ (UInt8.toNat_lt b)]at h3;cases h3
def limS(n:Nat)(l:List Tip):List Tip:=l.map fun x=>⟨x.state * ((n:Nat):Int),x.out⟩
def limE1(d:Dfa)(x:Tip):List Tip:=((List.range d.next.length).filter fun y=>nth d.fin y false).map fun y=>⟨x.state * ((d.next.length:Nat):Int)+((y:Nat):Int),x.out⟩
def limE(d:Dfa)(l:List Tip):List Tip:=l.flatMap (limE1 d)
def limZ(d:Dfa)(x:Arc)(y:Nat):List Arc:=((List.range d.next.length).filter fun z=>decide (lset d ((y:Nat):Int) x.set ((z:Nat):Int)≠BSet.zero)).map fun z=>
  ⟨x.frm * ((d.next.length:Nat):Int)+((y:Nat):Int),x.to * ((d.next.length:Nat):Int)+((z:Nat):Int),lset d ((y:Nat):Int) x.set ((z:Nat):Int),x.out,x.copy⟩
def limY(d:Dfa)(x:Arc)(k:Nat):List Arc:=(List.range k).flatMap (limZ d x)
def limA(d:Dfa)(l:List Arc):List Arc:=l.flatMap fun x=>limY d x d.next.length
def fLim(t:Fst)(d:Dfa):Fst:=⟨t.states * ((d.next.length:Nat):Int),limS d.next.length t.starts,limE d t.ends,limA d t.arcs⟩
theorem mem_limS{n:Nat}{l:List Tip}{a:Tip}:a∈limS n l↔ ∃x∈l,a=⟨x.state * ((n:Nat):Int),x.out⟩:=by
  unfold limS;rw [List.mem_map]
  exact ⟨fun ⟨x,h,e⟩=>⟨x,h,e.symm⟩,fun ⟨x,h,e⟩=>⟨x,h,e.symm⟩⟩
theorem mem_limE{d:Dfa}{l:List Tip}{a:Tip}:a∈limE d l↔ ∃x∈l, ∃y:Nat,y<d.next.length∧nth d.fin y false=true∧a=⟨x.state * ((d.next.length:Nat):Int)+((y:Nat):Int),x.out⟩:=by
  unfold limE limE1
  simp only [List.mem_flatMap,List.mem_map,List.mem_filter,List.mem_range]
  exact ⟨fun ⟨x,hx,y,⟨h1,h2⟩,e⟩=>⟨x,hx,y,h1,h2,e.symm⟩,fun ⟨x,hx,y,h1,h2,e⟩=>⟨x,hx,y,⟨h1,h2⟩,e.symm⟩⟩
theorem mem_limA{d:Dfa}{l:List Arc}{a:Arc}:a∈limA d l↔ ∃x∈l, ∃y:Nat,y<d.next.length∧ ∃z:Nat,z<d.next.length∧lset d ((y:Nat):Int) x.set ((z:Nat):Int)≠BSet.zero∧
    a=⟨x.frm * ((d.next.length:Nat):Int)+((y:Nat):Int),x.to * ((d.next.length:Nat):Int)+((z:Nat):Int),lset d ((y:Nat):Int) x.set ((z:Nat):Int),x.out,x.copy⟩:=by
  unfold limA limY limZ
  simp only [List.mem_flatMap,List.mem_map,List.mem_filter,List.mem_range,decide_eq_true_eq]
  exact ⟨fun ⟨x,hx,y,hy,z,⟨h1,h2⟩,e⟩=>⟨x,hx,y,hy,z,h1,h2,e.symm⟩,fun ⟨x,hx,y,hy,z,h1,h2,e⟩=>⟨x,hx,y,hy,z,⟨h1,h2⟩,e.symm⟩⟩
theorem two_inj{n s s' y y':Int}(h0:0≤y∧y<n)(h1:0≤y'∧y'<n)(h:s * n+y=s' * n+y'):s=s'∧y=y':=by
  have hn:n≠0:=by omega
  have e1:(y+s * n) / n=s:=by rw [Int.add_mul_ediv_right _ _ hn,Int.ediv_eq_zero_of_lt h0.1 h0.2,Int.zero_add]
  have e2:(y'+s' * n) / n=s':=by rw [Int.add_mul_ediv_right _ _ hn,Int.ediv_eq_zero_of_lt h1.1 h1.2,Int.zero_add]
  have e3:s=s':=by rw [←e1,←e2,Int.add_comm y,Int.add_comm y',h]
  subst e3
  exact ⟨rfl,by omega⟩
theorem okS_nat{d:Dfa}{y:Int}(h:okS d y): ∃k:Nat,y=((k:Nat):Int)∧k<d.next.length:=by
  obtain ⟨h1,h2⟩:=h
  exact ⟨y.toNat,by omega,by omega⟩
theorem runD_cons(d:Dfa)(y:Int)(b:UInt8)(w:List UInt8):runD d y (b::w)=runD d (dlt d y b) w:=rfl
theorem lim_fwd{t:Fst}{d:Dfa}(hd:rightD d=true){s q:Int}{w o:List UInt8}(h:Wy t s w o q): ∀y,okS d y→Wy (fLim t d) (s * ((d.next.length:Nat):Int)+y) w o (q * ((d.next.length:Nat):Int)+runD d y w):=by
  induction h with
  |nil s=>exact fun y _=> .nil _
  | @cons w o q a b ha hb hw ih=>
    intro y hy
    have hs:=(dlt_ok hd hy b).nx
    have k:=ih _ hs
    obtain ⟨i,rfl,hi⟩:=okS_nat hy
    obtain ⟨j,ej,hj⟩:=okS_nat hs
    rw [runD_cons]
    have hA:(⟨a.frm * ((d.next.length:Nat):Int)+((i:Nat):Int),a.to * ((d.next.length:Nat):Int)+dlt d ((i:Nat):Int) b,lset d ((i:Nat):Int) a.set (dlt d ((i:Nat):Int) b),a.out,a.copy⟩:Arc)∈(fLim t d).arcs:=
      mem_limA.2 ⟨a,ha,i,hi,j,hj,by rw [←ej];exact lset_ne hb rfl,by rw [ej]⟩
    exact Wy.cons (t:=fLim t d) _ b hA (lset_has.2 ⟨hb,rfl⟩) k
theorem lim_back{t:Fst}{d:Dfa}{s' q':Int}{w o:List UInt8}(h:Wy (fLim t d) s' w o q'): ∀s y,okS d y→s'=s * ((d.next.length:Nat):Int)+y→okS d (runD d y w)∧ ∃q,q'=q * ((d.next.length:Nat):Int)+runD d y w∧Wy t s w o q:=by
  induction h with
  |nil s'=>exact fun s y hy e=>⟨hy,s,e,.nil s⟩
  | @cons w o q' a b ha hb hw ih=>
    intro s y hy e
    obtain ⟨x,hx,i,hi,j,hj,hz,rfl⟩:=mem_limA.1 ha
    dsimp only at hb ih e
    obtain ⟨h1,h2⟩:=lset_has.1 hb
    obtain ⟨rfl,rfl⟩:=two_inj ⟨Int.natCast_nonneg i,by omega⟩ hy e
    obtain ⟨h3,q,h4,h5⟩:=ih x.to ((j:Nat):Int) ⟨Int.natCast_nonneg j,by omega⟩ rfl
    rw [runD_cons,h2]
    exact ⟨h3,q,h4,Wy.cons x b hx h1 h5⟩
theorem rel_lim{t:Fst}{d:Dfa}(hd:rightD d=true){w o:List UInt8}:Rel (fLim t d) w o↔Rel t w o∧nth d.fin (runD d 0 w).toNat false=true:=by
  have h0:=ok0 hd
  constructor
  · rintro ⟨x',hx',e',he',m,hw,rfl⟩
    obtain ⟨x,hx,rfl⟩:=mem_limS.1 hx'
    obtain ⟨e,he,y,hy,hf,rfl⟩:=mem_limE.1 he'
    dsimp only at hw ⊢
    obtain ⟨h1,q,h2,h3⟩:=lim_back hw x.state 0 h0 (by omega)
    obtain ⟨rfl,h5⟩:=two_inj ⟨Int.natCast_nonneg y,by omega⟩ h1 h2
    refine ⟨⟨x,hx,e,he,m,h3,rfl⟩,?_⟩
    rw [←h5,Int.toNat_natCast];exact hf
  rintro ⟨⟨x,hx,e,he,m,hw,rfl⟩,hf⟩
  have k:=lim_fwd hd hw 0 h0
  rw [Int.add_zero]at k
  obtain ⟨j,ej,hj⟩:=okS_nat (runD_ok hd w h0)
  rw [ej]at hf k
  rw [Int.toNat_natCast]at hf
  exact ⟨_,mem_limS.2 ⟨x,hx,rfl⟩,_,mem_limE.2 ⟨e,he,j,hj,hf,rfl⟩,m,k,rfl⟩
theorem in_two{n s y m:Int}(hs:0≤s∧s<m)(hy:0≤y∧y<n):0≤s * n+y∧s * n+y<m * n:=by
  have h1:0≤s * n:=Int.mul_nonneg hs.1 (by omega)
  have h2:(s+1) * n≤m * n:=Int.mul_le_mul_of_nonneg_right (by omega) (by omega)
  rw [Int.add_mul,Int.one_mul]at h2
  omega
end Go.Proofs.YtnpbfjdpglfdkaaGreatDoor
end

noncomputable section
namespace Go.Proofs.YtnpbfjdpglfdkaaGreatDoor
open Go Go.E Go.E.OpVal Go.E.OpOk Go.Proofs.Tryz
def Er_(k113:Nat)(m115:FM Int BSet):Option (((FM Int BSet)×Nat)⊕((FM Int BSet))):=
 nxt (m115,(k113+1))
def Cb_(x0:Dfa)(x2:BSet)(x1:Int)(m112:FM Int BSet)(k113:Nat):Option (((FM Int BSet)×Nat)⊕((FM Int BSet))):=
 iteO (decide (((k113:Nat):Int)<((x0.cls.length:Nat):Int))) (iteO (x2.has (toU8 ((k113:Nat):Int)).toNat) (grd (0≤x1∧x1<(x0.next.length:Int)) (grd (0≤(nth x0.cls k113 (0:Int))∧(nth x0.cls k113 (0:Int))<((nth x0.next x1.toNat ([]:List Int)).length:Int)) (grd ([(toU8 ((k113:Nat):Int))].length≤1000000000000) (bnd (Ec_ (m112.get (nth (nth x0.next x1.toNat ([]:List Int)) ((nth x0.cls k113 (0:Int)).toNat) (0:Int)) BSet.zero) (BSet.ofL [(toU8 ((k113:Nat):Int))])) (fun v38=>Er_ k113 (m112.put (nth (nth x0.next x1.toNat ([]:List Int)) ((nth x0.cls k113 (0:Int)).toNat) (0:Int)) v38)))))) (Er_ k113 m112)) (fin (some m112))
def Go_(x0:Dfa)(x1:Int)(x2:BSet):Option ((FM Int BSet)):=
 iter (fun q:(FM Int BSet)×Nat=>Cb_ x0 x2 x1 q.1 q.2) ((FM.emp:FM Int BSet),0)
theorem I4_{x0:Dfa}{x1:Int}{x2:BSet}(f0_0:RS σ 1 eI_ (.slice a0_0 x0.cls.length c0_0) x0.cls)(f0_1:RZ σ (pkSl 1 eI_ eIl_) (.slice a0_1 x0.next.length c0_1) x0.next)(f0_2:RS σ 1 encB (.slice a0_2 x0.fin.length c0_2) x0.fin){r:(FM Int BSet)}(hh:Go_ x0 x1 x2=some r):
  Con Tryz.prog 54 #[.agg #[.slice a0_0 x0.cls.length c0_0,.slice a0_1 x0.next.length c0_1,.slice a0_2 x0.fin.length c0_2],.int .i64 x1,setV x2] σ [] (fun v σ' H'=> ∃(br1:Option Nat),v= .map br1∧σ=σ'∧H'=[Res.mapB keyI setV br1 r]):=by
 dsimp only [Go_]at hh
 have f0_0b:=f0_0.rv.big
 have f0_1b:=f0_1.big
 have f0_2b:=f0_2.rv.big
 refine Con.mk (n:=44) Tryz.func54 z z z (fun w0=> ?_)
 refine TC.a (TL.op z (boxA z z z z (fun b102=> ?_)))
 refine TL.op z (boxA z z z z (fun b104=> ?_))
 refine TL.w z (moveMap (.inr z) z) (TL.en (TC.a (TL.op z (makeMapB (enc:=keyI) (encV:=setV) z z z (fun b106=> ?_)))))
 refine TL.w z (moveMap (.inr z) z) (TL.en (TC.seq (TC.a (TL.w z (fieldLoc z fo31_0 z) (TL.w z (loadLoc z ag27 z (i:=2) z z) (TL.w z (lenC z underlying27 z) (TL.i z z (TL.en (TC.block (TC.loopG (α:=((FM Int BSet)×Nat)×(Unit)) (rgs [(8,3),(15,28)]) (fun g=>[(15,.int .i64 ((g.1.2:Nat):Int))]) (fun g=>[Res.cells b102 #[.slice a0_0 x0.cls.length c0_0,.slice a0_1 x0.next.length c0_1,.slice a0_2 x0.fin.length c0_2] 31,Res.cells b104 (setA x2) 57,Res.mapB keyI setV (some b106) g.1.1]) (fun g=>σ) (fun g=>iter (fun q:(FM Int BSet)×Nat=>Cb_ x0 x2 x1 q.1 q.2) g.1=some r) (fun g=>rounds (fun q:(FM Int BSet)×Nat=>Cb_ x0 x2 x1 q.1 q.2) g.1) (((FM.emp:FM Int BSet),0),()) (Sub.f [1,2] 3) z (by repeat (first|exact trivial|refine ⟨z,?_⟩)) hh (fun g1 j1 hg1=> ?_)))))))))))
 obtain ⟨⟨m112,k113⟩,_⟩:=g1
 have hh:=hg1;clear hg1
 try dsimp only
 obtain ⟨z1,hh,hR1⟩:=iter_e hh
 dsimp only [Cb_]at hh
 refine TC.a (TL.w z (OpVal.lss z z z) (TL.en (TC.seq (TC.cD z hh (fun h114 hh=> ?_) (fun h114 hh=> ?_)))))
 ·refine TC.skip (S.n (TC.cutG (α:=((FM Int BSet))×(Unit)) (rgs [(8,3),(17,25)]) (fun g=>[]) (fun g=>[Res.cells b102 #[.slice a0_0 x0.cls.length c0_0,.slice a0_1 x0.next.length c0_1,.slice a0_2 x0.fin.length c0_2] 31,Res.cells b104 (setA x2) 57,Res.mapB keyI setV (some b106) g.1]) (fun g=>σ) (fun g=>Er_ k113 g.1=some z1) ?_ (fun g j hg=> ?_)))
  ·skip
   refine TC.block (TC.a (TL.i z z (TL.w z (indexN z underlying27 sz3 z z f0_0.rv.sl (by omega)) (TL.w z (loadS1 (0:Int) z ag3 z f0_0 (by omega) z) (TL.i z z (TL.i z z (TL.en (TC.a (TL.w z (loadAll z ag57 sz57 z (i:=1) z z) (TL.i z z (TL.w z (convU8 z underlying3 underlying5 z) (TL.op z (callP (has_con _ x2 (toU8 ((k113:Nat):Int)).toNat (BSet.isOk _) (UInt8.toNat_lt _)) z z pf43 z z z ?_)))))))))))))
   refine TL.en (TC.cB z hh (fun h116 hh=> ?_) (fun h116 hh=> ?_))
   ·refine TC.a (TL.w z (fieldLoc z fo31_1 z) (TL.w z (loadLoc z ag28 z (i:=0) z z) (TL.i z z ?_)))
    have u23:=grd_c hh
    replace hh:=grd_t hh
    refine TL.w z (OpVal.index z underlying28 sz27 z z f0_1.isSl u23.1 u23.2) ?_
    obtain ⟨p117,hk117,hg117⟩:=RZ.seg f0_1 x1.toNat (by omega)
    replace hk117:RS _ 1 eI_ (.slice p117.1 (nth x0.next x1.toNat ([]:List Int)).length p117.2) (nth x0.next x1.toNat ([]:List Int)):=hk117
    have hk117b:=hk117.rv.big
    refine TL.w z (OpVal.of (loadSeg0 z ag27 z hg117 z) (v':= .slice p117.1 ((nth x0.next x1.toNat ([]:List Int)).length) p117.2) z) (TL.i z z ?_)
    have u26:=grd_c hh
    replace hh:=grd_t hh
    refine TL.w z (OpVal.index z underlying27 sz3 z z hk117.rv.sl u26.1 u26.2) (TL.w z (loadS1 (0:Int) z ag3 z hk117 (by omega) z) (TL.i z z (TL.en ?_)))
    have u37:=grd_c hh
    replace hh:=grd_t hh
    obtain ⟨v38,u38,hh⟩:=bnd_e hh
    refine TC.draw [10] (by kernel_rfl) (TA.a 0 z (moveMap (.inl z) z) z (TA.a 1 z (moveI (.inl z) z) z (TA.a 2 z (moveMap (.inl z) z) z (TA.a 3 z (moveI (.inl z) z) z (TA.b 4 z (OpVal.of (lookB1 BSet.zero (q:=(nth (nth x0.next x1.toNat ([]:List Int)) ((nth x0.cls k113 (0:Int)).toNat) (0:Int))) z underlying119 ze57 z (i:=2) z z (keyL_int underlying3)) (v':=setV (m112.get (nth (nth x0.next x1.toNat ([]:List Int)) ((nth x0.cls k113 (0:Int)).toNat) (0:Int)) BSet.zero)) z) z (TA.a 5 z (moveI (.inl z) z) z (TA.a 6 z (convU8 z underlying3 underlying5 z) z (TA.ac 7 z (OpOk.lit (enc:=encU8) [(toU8 ((k113:Nat):Int))] z underlying105 sz5 ze5 z z z encU8_len (by decide) (by decide) (0:UInt8) z (by decide) z (by decide) encU8_one (fun a121 c122=>(k1 ?_)))))))))))
    refine TA.ac 8 z (callT (of_con _ _ _ [(toU8 ((k113:Nat):Int))] u37) z z pf20 z z z z (k0 ?_))
    refine TA.ac 9 z (callP (Hn_ u38) z z pf67 z z z (k0 ?_))
    refine TA.front 2 z z (TA.last 10 (by kernel_rfl) z z z (updB (nth (nth x0.next x1.toNat ([]:List Int)) ((nth x0.cls k113 (0:Int)).toNat) (0:Int)) v38 z underlying119 z z z z (keyL_int underlying3) ?_))
    exact TZ.done (by kernel_rfl) (B.n (S.n (cf ((m112.put (nth (nth x0.next x1.toNat ([]:List Int)) ((nth x0.cls k113 (0:Int)).toNat) (0:Int)) v38),()) hh (Sub.f [2,2] 3))))
   exact TC.skip (B.n (S.n (cf (m112,()) hh (Sub.f [2,2,2] 3))))
  skip
  obtain ⟨m115,_⟩:=g
  have hh:=hg;clear hg
  try dsimp only
  dsimp only [Er_]at hh
  refine TC.region (TL.w z (OpVal.succ z z z (by omega)) (TL.i z z (TL.en ?_)))
  obtain ⟨hh,hlt124⟩:=nxt_x hR1 hh
  exact lf ((m115,(k113+1)),()) hlt124 hh (Sub.f [2,2,2] 3)
 refine TC.exit (S.x (S.x ?_))
 replace hh:=fin_x hR1 hh
 refine TC.exitHere (S.n (TC.a (TL.w z (moveMap (.inl z) z) (TL.w z (moveMap (.inr z) z) (TL.en (TC.ofSub (Sub.f [2] 1) (TC.ret ?_)))))))
 obtain rfl:=so hh
 exact ro [Res.mapB keyI setV (some b106) m112] z (RVs.tmp z RVs.nil) ⟨(some b106),z,z,z⟩
end Go.Proofs.YtnpbfjdpglfdkaaGreatDoor
end

noncomputable section
namespace Go.Proofs.YtnpbfjdpglfdkaaGreatDoor
open Go Go.Shelf
def layK_ren:Go.Shelf.Ren:=⟨fun|7=>56|10=>88|n=>n,fun|23=>119|26=>3|3=>57|28=>109|0=>0|27=>108|33=>151|4=>4|n=>n,fun|n=>n⟩
theorem layK:Go.Proofs.SlLaysZI.n7 Tryz.prog layK_ren:={
  mixed:=by kernel_rfl,
  f7:=⟨Tryz.f56.name,by decide,Tryz.func56.trans (congrArg some (by kernel_rfl))⟩,
  f10:=⟨Tryz.f88.name,by decide,Tryz.func88.trans (congrArg some (by kernel_rfl))⟩,
  t0:=Tryz.underlying0,
  a0:=Tryz.isAgg0,
  z0:=Tryz.sizeOf0,
  v0:=Tryz.zeroValue0,
  t4:=Tryz.underlying4,
  a4:=Tryz.isAgg4,
  z4:=Tryz.sizeOf4,
  v4:=Tryz.zeroValue4,
  t23:=Tryz.underlying119,
  a23:=Tryz.isAgg119,
  z23:=Tryz.sizeOf119,
  v23:=Tryz.zeroValue119,
  t26:=Tryz.underlying3,
  a26:=Tryz.isAgg3,
  z26:=Tryz.sizeOf3,
  v26:=Tryz.zeroValue3,
  t27:=Tryz.underlying108,
  a27:=Tryz.isAgg108,
  z27:=Tryz.sizeOf108,
  v27:=Tryz.zeroValue108,
  t28:=Tryz.underlying109,
  a28:=Tryz.isAgg109,
  z28:=Tryz.sizeOf109,
  v28:=Tryz.zeroValue109,
  t33:=Tryz.underlying151,
  a33:=Tryz.isAgg151,
  z33:=Tryz.sizeOf151,
  v33:=Tryz.zeroValue151}
def layK1_ren:Go.Shelf.Ren:=⟨fun|10=>88|n=>n,fun|33=>151|23=>119|0=>0|4=>4|26=>3|3=>57|n=>n,fun|n=>n⟩
theorem layK1:Go.Proofs.SlLaysZI.n10 Tryz.prog layK1_ren:={
  mixed:=by kernel_rfl,
  f10:=⟨Tryz.f88.name,by decide,Tryz.func88.trans (congrArg some (by kernel_rfl))⟩,
  t0:=Tryz.underlying0,
  a0:=Tryz.isAgg0,
  z0:=Tryz.sizeOf0,
  v0:=Tryz.zeroValue0,
  t4:=Tryz.underlying4,
  a4:=Tryz.isAgg4,
  z4:=Tryz.sizeOf4,
  v4:=Tryz.zeroValue4,
  t23:=Tryz.underlying119,
  a23:=Tryz.isAgg119,
  z23:=Tryz.sizeOf119,
  v23:=Tryz.zeroValue119,
  t26:=Tryz.underlying3,
  a26:=Tryz.isAgg3,
  z26:=Tryz.sizeOf3,
  v26:=Tryz.zeroValue3,
  t33:=Tryz.underlying151,
  a33:=Tryz.isAgg151,
  z33:=Tryz.sizeOf151,
  v33:=Tryz.zeroValue151}
def layK6_ren:Go.Shelf.Ren:=⟨fun|6=>55|8=>86|9=>87|11=>113|13=>78|12=>114|23=>101|24=>102|14=>124|15=>125|16=>126|17=>127|18=>128|19=>129|20=>130|21=>131|22=>132|25=>159|26=>117|27=>118|28=>160|29=>161|30=>91|31=>171|n=>n,fun|26=>3|28=>109|24=>27|0=>0|3=>3|37=>150|48=>169|50=>55|4=>4|40=>163|39=>162|45=>132|5=>5|9=>9|51=>183|55=>187|57=>202|58=>203|33=>151|n=>n,fun|n=>n⟩
theorem layK6:Go.Proofs.SlLaysZI.n6 Tryz.prog layK6_ren:={
  mixed:=by kernel_rfl,
  f6:=⟨Tryz.f55.name,by decide,Tryz.func55.trans (congrArg some (by kernel_rfl))⟩,
  f8:=⟨Tryz.f86.name,by decide,Tryz.func86.trans (congrArg some (by kernel_rfl))⟩,
  f11:=⟨Tryz.f113.name,by decide,Tryz.func113.trans (congrArg some (by kernel_rfl))⟩,
  t0:=Tryz.underlying0,
  a0:=Tryz.isAgg0,
  z0:=Tryz.sizeOf0,
  v0:=Tryz.zeroValue0,
  t24:=Tryz.underlying27,
  a24:=Tryz.isAgg27,
  z24:=Tryz.sizeOf27,
  v24:=Tryz.zeroValue27,
  t26:=Tryz.underlying3,
  a26:=Tryz.isAgg3,
  z26:=Tryz.sizeOf3,
  v26:=Tryz.zeroValue3,
  t28:=Tryz.underlying109,
  a28:=Tryz.isAgg109,
  z28:=Tryz.sizeOf109,
  v28:=Tryz.zeroValue109,
  i26:=by kernel_rfl}
end Go.Proofs.YtnpbfjdpglfdkaaGreatDoor
end

noncomputable section
namespace Go.E
open Go
def _root_.Go.Result.w{α:Type}:Result α→World
  | .ok _ w=>w
  | .halt _ w=>w
theorem viewStore_drawn{p:Program}{w:World}{at_ u a v b}{r:World×List Addr}(h:w.viewStore p at_ u a v b= .ok r):r.1.drawn=w.drawn:=by
  unfold World.viewStore at h
  simp only [bind,Except.bind,pure,Except.pure]at h
  repeat (split at h<;>try (cases h;done))
  all_goals (first|(cases h;rfl)|skip)
theorem farStore_drawn{p:Program}{w:World}{a v b}{r:World×List Addr}(h:w.farStore p a v b= .ok r):r.1.drawn=w.drawn:=by
  unfold World.farStore at h
  split at h
  · split at h
    · rename_i h2;cases h;exact viewStore_drawn h2
    cases h
  cases h
theorem ask_drawn{α:Type}: ∀(a:Ask α) (w:World),w.drawn≤(w.ask a).2.drawn:=by
  intro a
  induction a with
  |done a=>intro w;exact Nat.le_refl _
  |ask what range k ih=>
    intro w
    unfold World.ask
    dsimp only
    split
    · exact ih _ w
    exact Nat.le_trans (Nat.le_succ _) (ih _ {w with drawn:=w.drawn+1})
theorem sys_drawn(w:World)(c:Sys):w.drawn≤(w.sys c).2.drawn:=by
  unfold World.sys
  have:=ask_drawn (Kernel.perform c w.os) w
  split
  · exact Nat.le_refl _
  rename_i h;rw [h]at this;exact this
theorem run_drawn {α : Type} (p : Program) : ∀ (m : Sem α) (w : World), w.drawn ≤ (m.run p w).w.drawn := by
  intro m
  induction m with
  |pure a=>intro w;exact Nat.le_refl _
  |load m a k ih=>
    intro w;unfold Sem.run
    split
    · exact ih _ w
    split
    · exact ih _ w
    exact Nat.le_refl _
  | store m a v k ih =>
    intro w
    have go:w.drawn≤(match w.cell? a with
        | some _ => if w.frozen? a then Result.halt (.unsupported (.unsafePointer "a write to bytes that a string shares")) w else k.run p (w.setCell a v)
        |none=>match w.farStore p a v (m == Mode.atomic)with
          | .ok (w,_)=>k.run p w
          | .error h=> .halt h w).w.drawn:=by
      split
      · split
        · exact Nat.le_refl _
        exact ih (w.setCell _ _)
      split
      · rename_i h;have:=farStore_drawn h;dsimp only at this;rw [←this];exact ih _
      exact Nat.le_refl _
    cases v<;>first|exact go|exact Nat.le_refl _
  |new o k ih=>intro w;exact ih _ {w with heap:=w.heap.push o}
  |shape r k ih=>intro w;exact ih _ _
  |freeze a n k ih=>
    intro w
    have h:(w.freeze a n).drawn=w.drawn:=by unfold World.freeze;split<;>rfl
    show _≤(k.run p (w.freeze a n)).w.drawn
    rw [←h];exact ih _
  |frozen a k ih=>intro w;exact ih _ _
  |getObj r k ih=>intro w;unfold Sem.run;split<;>first|exact Nat.le_refl _|exact ih _ w
  |setObj r o k ih=>intro w;unfold Sem.run;split<;>first|exact Nat.le_refl _|exact ih {w with heap:=w.heap.setIfInBounds r o}
  |choose q k ih=>
    intro w;unfold Sem.run
    split
    · exact ih _ w
    exact Nat.le_trans (Nat.le_succ _) (ih _ {w with drawn:=w.drawn+1})
  |sys c k ih=>intro w;exact Nat.le_trans (sys_drawn w c) (ih _ _)
  |program k ih=>intro w;exact ih _ _
  |mark m k ih=>intro w;exact ih _
  |halt h=>intro w;exact Nat.le_refl _
theorem runT_drawn{α:Type}(p:Program)(m:Sem α)(w:World)(es:Array Event):w.drawn≤(m.runT p w es).1.w.drawn:=by
  rw [Sem.runT_fst];exact run_drawn p m w
theorem runT_w{α:Type}{p:Program}{m:Sem α}{w:World}{es es':Array Event}{r:Result α}(h:m.runT p w es=(r,es')):w.drawn≤r.w.drawn:=by
  have:=runT_drawn p m w es
  rw [h]at this;exact this
theorem run_ok{α:Type}{p:Program}{m:Sem α}{w w':World}{v:α}(h:m.run p w= .ok v w'):w.drawn≤w'.drawn:=by
  have:=run_drawn p m w
  rw [h]at this;exact this
theorem run_halt{α:Type}{p:Program}{m:Sem α}{w w':World}{v:Halt}(h:m.run p w= .halt v w'):w.drawn≤w'.drawn:=by
  have:=run_drawn p m w
  rw [h]at this;exact this
def _root_.Go.GStep.w:GStep→World
  | .go _ w _=>w
  | .comm _ _ _ _ w _=>w
  | .spawn _ _ w _=>w
  | .count _ w _=>w
  | .timer _ _ w _=>w
  | .alone _ _ w _=>w
  | .newcoro _ _ _ w _=>w
  | .coroswitch _ _ _ w _=>w
  | .collect _ w _=>w
  | .watch _ w _=>w
  | .ended _ w _=>w
theorem after_w(es:Array Event)(s:GStep):(GStep.after es s).w=s.w:=by cases s<;>rfl
theorem endWith_drawn(w:World)(fd:Nat)(t:ByteArray)(o:Outcome):w.drawn≤(endWith w fd t o).w.drawn:=by
  unfold endWith
  have h:=sys_drawn w (.write fd t)
  dsimp only
  split<;>rename_i h2<;>rw [h2]at h
  · split<;>exact h
  · exact h
  exact h
theorem endPrinting_w(p:Program)(fr:Frame)(v:Value)(w:World):(endPrinting p fr v w).w=w:=by
  unfold endPrinting
  dsimp only
  repeat (first|rfl|split)
theorem endFatal_drawn(p:Program)(fr:Frame)(cs:List Frame)(d:Option Dying)(m:String)(w:World):w.drawn≤(endFatal p fr cs d m w).w.drawn:=by
  unfold endFatal
  dsimp only
  split<;>rename_i h2
  · exact run_ok h2
  · exact run_halt h2
  exact run_halt h2
theorem doReturn_w(p:Program)(main:Bool)(fr:Frame)(cs:List Frame)(d:Option Dying)(v:Value)(w:World):(doReturn p main fr cs d v w).w=w:=by
  unfold doReturn
  repeat (first|rfl|split)
theorem ite_le{c:Prop}[Decidable c]{a b:GStep}{n:Nat}(h1:n≤a.w.drawn)(h2:n≤b.w.drawn):n≤(if c then a else b).w.drawn:=by
  split
  · exact h1
  exact h2
theorem callDeferred_drawn(p:Program)(fr:Frame)(cs:List Frame)(dy:Option Dying)(d:Deferred)(w:World):w.drawn≤(callDeferred p fr cs dy d w).w.drawn:=by
  unfold callDeferred
  refine ite_le (Nat.le_refl _) ?_
  have h:=runT_drawn p (invoke d.target d.args) w #[]
  generalize (invoke d.target d.args).runT p w #[]=q at h ⊢
  obtain ⟨r,es⟩:=q
  dsimp only at h ⊢
  rw [after_w]
  split<;>first|exact h|(exact Nat.le_trans h (endFatal_drawn ..))|(split<;>exact h)
theorem unwind_drawn(p:Program)(main:Bool)(fr:Frame)(cs:List Frame)(dy:Option Dying)(w:World):w.drawn≤(unwind p main fr cs dy w).w.drawn:=by
  unfold unwind
  split
  · split
    rename_i r es hq
    have h0:=runT_w hq
    rw [after_w]
    split<;>exact h0
  · exact callDeferred_drawn ..
  split
  · exact Nat.le_refl _
  · split
    · exact Nat.le_refl _
    split
    · exact Nat.le_refl _
    split
    · split
      · exact Nat.le_refl _
      split<;>rename_i h2<;>first|exact run_ok h2|exact run_halt h2
    split
    · rw [endPrinting_w];exact Nat.le_refl _
    exact Nat.le_refl _
  split
  · rw [doReturn_w];exact Nat.le_refl _
  split
  rename_i r es hq
  have h0:=runT_w hq
  rw [after_w]
  split
  · rw [doReturn_w];exact h0
  · exact h0
  exact h0
theorem early_drawn(p:Program)(fr:Frame)(cs:List Frame)(dy:Option Dying)(g:Nat)(w:World):w.drawn≤(early p fr cs dy g w).w.drawn:=by
  unfold early
  dsimp only
  repeat (first|exact Nat.le_refl _|split)
  all_goals (dsimp only [GStep.w];first|exact run_ok (by assumption)|exact run_halt (by assumption))
theorem writeOn_drawn(p:Program)(fr:Frame)(d:Dying)(f:Fatal)(w:World):w.drawn≤(writeOn p fr d f w).w.drawn:=by
  unfold writeOn
  dsimp only
  split
  · exact Nat.le_refl _
  split<;>rename_i hq<;>exact runT_w hq
theorem die_drawn(p:Program)(fr:Frame)(d:Dying)(w:World):w.drawn≤(die p fr d w).w.drawn:=by
  unfold die
  split
  · exact writeOn_drawn ..
  split
  · split
    · exact Nat.le_refl _
    exact endWith_drawn ..
  dsimp only
  split
  · exact Nat.le_refl _
  · split<;>rename_i h2<;>first|exact run_ok h2|exact run_halt h2
  · rw [after_w]
    split<;>first|exact Nat.le_refl _|(rename_i hq;rw [Sem.runT_fst]at hq;first|exact run_ok hq|exact run_halt hq|(rw [endPrinting_w];exact run_halt hq))
  exact Nat.le_refl _
theorem exec_ap(p:Program)(fr:Frame)(cs:List Frame)(dy:Option Dying)(s:Sem Next)(w:World)(li:Bool):w.drawn≤(stepG.apply p li fr cs dy s w).w.drawn:=by
  unfold stepG.apply
  have e:(if li=true then s.runT p w #[] else (s.run p w, #[])).1=s.run p w:=by
    split
    · exact Sem.runT_fst ..
    rfl
  dsimp only
  rw [after_w,e]
  have h:=run_drawn p s w
  generalize s.run p w=r at h ⊢
  split<;>first|exact h|(split<;>exact h)|exact Nat.le_trans h (endFatal_drawn ..)|exact Nat.le_trans h (early_drawn ..)|(split<;>first|exact h|(split<;>exact h))|exact ite_le h h
theorem oper_drawn(p:Program)(fr:Frame)(cs:List Frame)(dy:Option Dying)(w:World)(li:Bool):w.drawn≤(stepG.oper p li fr cs dy w).w.drawn:=by
  unfold stepG.oper
  split
  · exact Nat.le_refl _
  split<;>exact exec_ap ..
theorem exec_drawn (p : Program) (main : Bool) (fr : Frame) (cs : List Frame) (dy : Option Dying) (w : World) (li : Bool) : w.drawn ≤ (stepG.exec p main li fr cs dy w).w.drawn := by
  unfold stepG.exec
  dsimp only
  split
  all_goals try (with_reducible exact exec_ap ..)
  all_goals try (with_reducible exact oper_drawn ..)
  all_goals try (dsimp only [GStep.w];with_reducible exact Nat.le_refl _)
  · split
    · exact ite_le (Nat.le_refl _) (Nat.le_refl _)
    rw [after_w]
    split
    · rename_i hq
      rw [Sem.runT_fst]at hq
      rw [doReturn_w];exact run_ok hq
    rename_i hq
    rw [Sem.runT_fst]at hq
    exact run_halt hq
  · split
    · exact ite_le (Nat.le_refl _) (Nat.le_refl _)
    rw [after_w]
    split
    · rename_i hq
      rw [Sem.runT_fst]at hq
      rw [doReturn_w];exact run_ok hq
    rename_i hq
    rw [Sem.runT_fst]at hq
    exact run_halt hq
  · split<;>exact Nat.le_refl _
  · generalize exitTo _ _=q
    cases q with
    |some t=>exact Nat.le_refl _
    |none=>
      dsimp only [Option.elim]
      split
      · exact ite_le (Nat.le_refl _) (Nat.le_refl _)
      rw [after_w]
      split
      · rename_i hq
        rw [Sem.runT_fst]at hq
        rw [doReturn_w];exact run_ok hq
      rename_i hq
      rw [Sem.runT_fst]at hq
      exact run_halt hq
  · generalize gotoIn _ _=q
    cases q with
    |some t=>exact Nat.le_refl _
    |none=>
      dsimp only [Option.elim]
      split
      · exact ite_le (Nat.le_refl _) (Nat.le_refl _)
      rw [after_w]
      split
      · rename_i hq
        rw [Sem.runT_fst]at hq
        rw [doReturn_w];exact run_ok hq
      rename_i hq
      rw [Sem.runT_fst]at hq
      exact run_halt hq
  · rw [after_w]
    split
    · rename_i hq
      rw [Sem.runT_fst]at hq
      exact Nat.le_trans (run_ok hq) (exec_ap ..)
    rename_i hq
    rw [Sem.runT_fst]at hq
    exact run_halt hq
  · rw [after_w]
    split
    · rename_i hq
      rw [Sem.runT_fst]at hq
      exact run_ok hq
    · rename_i hq
      rw [Sem.runT_fst]at hq
      exact run_halt hq
    rename_i hq
    rw [Sem.runT_fst]at hq
    exact run_halt hq
  · generalize Extern.next _=q
    cases q with
    |none=>exact Nat.le_refl _
    |some e=>exact exec_ap ..
  · refine ite_le (Nat.le_refl _) ?_
    split
    · rename_i hq
      exact run_ok hq
    rename_i hq
    exact run_halt hq
  exact ite_le (oper_drawn ..) (Nat.le_refl _)
theorem step_le(p:Program)(main:Bool)(g:Goroutine)(w:World)(li:Bool):w.drawn≤(stepG p main g w li).w.drawn:=by
  unfold stepG
  dsimp only
  split
  · exact die_drawn ..
  · exact exec_drawn ..
  exact unwind_drawn ..
def SL(n:Nat):Stepped→Prop
  | .next m=>n≤m.world.drawn
  | .ended _ _=>True
theorem look_drawn(p:Program)(gs:Array Goroutine)(rest:Rest)(w:World):SL w.drawn (look p gs rest w):=by
  unfold look
  split
  · dsimp only
    split
    · trivial
    split
    · trivial
    split
    · rename_i hq;exact Nat.le_trans (run_ok hq) (Nat.le_refl _)
    · trivial
    trivial
  trivial
theorem waitingAt_drawn{rest:Rest}{cases:Array CommCase}{w w':World}(h:waitingAt rest cases w=some w'):w'.drawn=w.drawn:=by
  unfold waitingAt at h
  split at h
  · split at h
    · cases h;rfl
    cases h
  cases h;rfl
theorem serve_drawn(p:Program)(m:Machine)(k:Nat):SL m.world.drawn (serve p m k):=by
  unfold serve
  split
  · trivial
  · exact Nat.le_refl _
  dsimp only
  split
  · trivial
  exact Nat.le_refl _
theorem communicate_drawn(p:Program)(rest:Rest)(gs:Array Goroutine)(i:Nat)(g:Goroutine)(cases:Array CommCase)(bl:Bool)(sh:CommShape)(w:World):SL w.drawn (communicate p rest gs i g cases bl sh w).1:=by
  unfold communicate
  dsimp only
  split
  · trivial
  split
  · split
    · split
      · rename_i h;show w.drawn≤_;exact Nat.le_of_eq (waitingAt_drawn h).symm
      trivial
    exact Nat.le_refl _
  split
  · trivial
  rename_i hq
  have h:=run_ok hq
  split
  · split
    · rename_i hr;exact Nat.le_trans (Nat.le_trans h (run_halt hr)) (Nat.le_refl _)
    trivial
  · exact h
  · exact h
  · split
    · exact h
    split
    · rename_i hr;exact Nat.le_trans (Nat.le_trans h (run_ok hr)) (Nat.le_refl _)
    trivial
  · exact h
  · exact h
  trivial
theorem drain_w(w:World)(c:Nat):(drain w c).2.drawn=w.drawn:=by
  unfold drain
  split<;>rfl
theorem retime_w(m:Machine)(k:Nat)(t:Timer)(a b:Nat):(retime m k t a b).2.world.drawn=m.world.drawn:=by
  unfold retime
  dsimp only
  cases t.chan with
  |none=>rfl
  |some c=>exact drain_w ..
theorem timerOp_w {m m' : Machine} {op : TimerOp} {v : Value} (h : timerOp m op = .ok (v, m')) : m'.world.drawn = m.world.drawn := by
  have named: ∀{m0:Machine} {var:Addr} {f:Nat→Timer→Value×Machine},(∀k t,(f k t).2.world.drawn=m.world.drawn)→timerOp.named m0 var f= .ok (v,m')→m'.world.drawn=m.world.drawn:=fun {m0 var f} hf h=>by
    unfold timerOp.named at h
    split at h
    · rename_i k _
      have:=hf k (m0.rest.timers.getD k default)
      have h2:=Except.ok.inj h
      rw [h2]at this
      exact this
    cases h
  unfold timerOp at h
  split at h
  · split at h
    · cases h;rfl
    split at h
    · split at h
      · cases h
      cases h;rfl
    cases h
  · exact named (fun k t=>retime_w ..) h
  · split at h
    · rename_i hm
      refine named (fun k t=> ?_) h
      rw [retime_w]
      unfold timerOp.opened at hm
      split at hm
      · split at hm
        · cases hm;rfl
        cases hm
      cases hm;rfl
    cases h
  cases h;rfl
theorem runT_le(p:Program)(m:Machine)(i:Nat)(li:Bool):SL m.world.drawn (runT p m i li).1:=by
  unfold runT
  dsimp only
  generalize m.gs.swapAt! i {(default:Goroutine)with status:= .finished}=q
  obtain ⟨g,gs⟩:=q
  dsimp only
  have h:=step_le p (i == 0) g m.world li
  generalize stepG p (i == 0) g m.world li=s at h ⊢
  cases s with
  |ended o w es=>trivial
  |comm g cases bl sh w es=>
    have:=communicate_drawn p m.rest gs i g cases bl sh w
    dsimp only [GStep.w]at h ⊢
    generalize (communicate p m.rest gs i g cases bl sh w).1=r at this ⊢
    cases r with
    |next m'=>exact Nat.le_trans h this
    |ended _ _=>trivial
  |go g w es=>exact h
  |spawn g c w es=>exact h
  |count g w es=>
    dsimp only
    split
    · trivial
    exact h
  |alone g on w es=>exact h
  |collect g w es=>
    have:=look_drawn p (gs.setIfInBounds i g) m.rest w
    dsimp only [GStep.w]at h ⊢
    generalize look p (gs.setIfInBounds i g) m.rest w=r at this ⊢
    cases r with
    |next m'=>exact Nat.le_trans h this
    |ended _ _=>trivial
  |watch g w es=>exact h
  |newcoro g c d w es=>exact h
  |coroswitch g c ex w es=>
    dsimp only
    split
    · exact h
    · exact h
    trivial
  |timer g op w es=>
    dsimp only
    split
    · rename_i hq
      have:=timerOp_w hq
      exact Nat.le_trans h (Nat.le_of_eq this.symm)
    · exact h
    · trivial
    trivial
def ML(n:Nat):Move→Prop
  | .goroutine m _=>n≤m.world.drawn
  | .machine s _=>SL n s
theorem SL.mono{n k:Nat}{s:Stepped}(h:SL k s)(hn:n≤k):SL n s:=by
  cases s with
  |next m=>exact Nat.le_trans hn h
  |ended _ _=>trivial
theorem askOn_drawn (p : Program) (m : Machine) : ML m.world.drawn (askOn p m) := by
  unfold askOn
  dsimp only
  have pick: ∀(m0:Machine) (rs:List Nat),m.world.drawn≤m0.world.drawn→ML m.world.drawn (match (choose (.sched rs.length)).run p m0.world with
      | .halt _ w => .machine (.ended (.stuck "sched" "") w)
      | .ok k world=>
        if rs.length≤1 then .goroutine {m0 with world} (rs.getD k 0) else
        match (choose (.extern "sched.slice" 65536)).run p world with
        | .halt _ w => .machine (.ended (.stuck "sched.slice" "") w)
        | .ok n world=> .goroutine {m0 with world,rest:={m0.rest with slice:=if n=0 then none else some (rs.getD k 0,n)}} (rs.getD k 0)):=fun m0 rs h=>by
    split
    · trivial
    rename_i hq
    split
    · exact Nat.le_trans h (run_ok hq)
    split
    · trivial
    rename_i hr
    exact Nat.le_trans (Nat.le_trans h (run_ok hq)) (run_ok hr)
  split
  · trivial
  rename_i k wd hq
  have h:=run_ok hq
  split
  · exact SL.mono (serve_drawn p _ _) h
  split
  · split
    · exact h
    split
    · exact h
    split<;>trivial
  split
  · exact pick {m with world:=wd} _ h
  split
  · trivial
  · rename_i w2 hr
    exact pick {m with world:=w2} _ (Nat.le_trans h (run_ok hr))
  · rename_i w2 hr
    exact Nat.le_trans (Nat.le_trans h (run_ok hr)) (Nat.le_refl _)
  rename_i k2 w2 hr
  exact pick (Machine.advanceTo {m with world:=w2} _) _ (Nat.le_trans (Nat.le_trans h (run_ok hr)) (Nat.le_refl _))
theorem ML.mono{n k:Nat}{s:Move}(h:ML k s)(hn:n≤k):ML n s:=by
  cases s with
  |goroutine m _=>exact Nat.le_trans hn h
  |machine s _=>exact SL.mono h hn
theorem ask_m (p : Program) (m : Machine) : ML m.world.drawn (ask p m) := by
  unfold ask
  split
  · split
    · trivial
    · rename_i w2 hq
      have:=look_drawn p m.gs m.rest w2
      split
      · rename_i hl
        rw [hl]at this
        exact ML.mono (askOn_drawn p _) (Nat.le_trans (run_ok hq) this)
      exact SL.mono this (run_ok hq)
    rename_i hq
    exact ML.mono (askOn_drawn p _) (run_ok hq)
  exact askOn_drawn p m
theorem move_drawn(p:Program)(m:Machine):ML m.world.drawn (move p m):=by
  unfold move
  split
  · split
    · exact Nat.le_refl _
    trivial
  split
  · split
    · exact Nat.le_refl _
    exact ask_m p _
  exact ask_m p m
theorem step_drawn{p:Program}{m m':Machine}(h:step p m= .next m'):m.world.drawn≤m'.world.drawn:=by
  have hm:=move_drawn p m
  unfold step stepT at h
  generalize move p m=mv at hm h
  cases mv with
  |goroutine m0 i=>
    have:=runT_le p m0 i true
    dsimp only at h
    rw [h]at this
    exact Nat.le_trans hm this
  |machine s ops=>
    dsimp only at h
    rw [h]at hm
    exact hm
theorem steps_drawn{p:Program}{m m':Machine}(h:Steps p m m'):m.world.drawn≤m'.world.drawn:=by
  have h':=StepsIn.of_steps h
  clear h
  induction h' with
  |refl=>exact Nat.le_refl _
  |head _ hs _ ih=>exact Nat.le_trans (step_drawn hs) ih
theorem calls_drawn{P:Program}{f:FuncId}{args:Array Value}{w:World}{R:Ending→World→Prop}(h:Calls P f args w R)(hr: ∀e w',R e w'→ ∃v,e= .returned v):Calls P f args w fun e w'=>R e w'∧w.drawn≤w'.drawn:=fun cs=>by
  obtain ⟨e,w',fr,h1,h2,h3⟩:=h cs
  obtain ⟨v,rfl⟩:=hr e w' h1
  exact ⟨_,w',fr,⟨h1,steps_drawn (m:=lone _ cs w) h2⟩,h2,h3⟩
end Go.E
end

noncomputable section
namespace Go.E
open Go Go.RowKit Go.Maps Go.Sort Go.Shelf Go.Proofs
theorem Con.keysI{P:Program}{ρ:Ren}(L:SlLaysZI.n7 P ρ){f g E:Nat}(hf:ρ.f 7=f)(hg:ρ.f 10=g)(hE:ρ.t 23=E)(b:Option Nat):
    Con P f #[.map b] σ [] (fun v σ' H'=> ∃bm,v= .func (.func g) #[] #[.pointer (some ⟨bm,0,none⟩)]∧σ=σ'∧H'=[Res.cells bm #[.map b] E]):=by
  subst hf hg hE
  intro w hw
  refine ((callsIn_wide (n:=5)).1 (AnyZI.keys_in L Fence.wide 5 trivial rfl b w)).mono fun e w' ⟨h1,h2⟩=>⟨_,σ,_,h1,⟨w.heap.size,rfl,rfl,rfl⟩,?_⟩
  subst h2
  exact hw.newCells _ _
def skeys{V:Type}(m:FM Int V):List Int:=open Classical in if h: ∃l:List Int,l.Pairwise (· < ·)∧ ∀k,k∈l↔m.f k≠none then Classical.choose h else []
theorem rise_eq : ∀ {l m : List Int}, l.Pairwise (· < ·) → m.Pairwise (· < ·) → (∀ k, k ∈ l ↔ k ∈ m) → l = m
  |[],[],_,_,_=>rfl
  |[],y::m,_,_,h=>absurd ((h y).2 (List.mem_cons_self ..)) List.not_mem_nil
  |x::l,[],_,_,h=>absurd ((h x).1 (List.mem_cons_self ..)) List.not_mem_nil
  | x :: l, y :: m, h1, h2, h => by
    have a1:=List.pairwise_cons.1 h1
    have a2:=List.pairwise_cons.1 h2
    have e:x=y:=by
      rcases List.mem_cons.1 ((h x).1 (List.mem_cons_self ..))with e|e
      · exact e
      rcases List.mem_cons.1 ((h y).2 (List.mem_cons_self ..))with e2|e2
      · exact e2.symm
      have b1:=a2.1 x e
      have b2:=a1.1 y e2
      omega
    subst e
    rw [rise_eq a1.2 a2.2 fun k=> ?_]
    constructor
    · intro hk
      rcases List.mem_cons.1 ((h k).1 (List.mem_cons_of_mem _ hk))with e|e
      · have:=a1.1 k hk
        omega
      exact e
    intro hk
    rcases List.mem_cons.1 ((h k).2 (List.mem_cons_of_mem _ hk))with e|e
    · have:=a2.1 k hk
      omega
    exact e
theorem skeys_of{V:Type}{m:FM Int V}{l:List Int}(h1:l.Pairwise (· < ·))(h2: ∀k,k∈l↔m.f k≠none):skeys m=l:=by
  unfold skeys
  have h: ∃l:List Int,l.Pairwise (· < ·)∧ ∀k,k∈l↔m.f k≠none:=⟨l,h1,h2⟩
  rw [dif_pos h]
  obtain ⟨g1,g2⟩:=Classical.choose_spec h
  exact rise_eq g1 h1 fun k=>(g2 k).trans (h2 k).symm
end Go.E
namespace Go.E
open Go Go.RowKit Go.Maps Go.Sort Go.Shelf Go.Proofs
abbrev RK:Value→Option (DataW Unit×List MemPlace):=fun _=>some (.lit (.bool true),[])
theorem own_of{V:Type}{P:Program}{K:Nat}(hK:P.underlying K=some (.int .i64)){encV:V→Value}{w:World}{b:Nat}{m:FM Int V}{zs:List (MapEntry×(Int×V))}{clock:Nat}(hR:Rep (zs.map Prod.snd) m)(hM:MapAt (Value.int .i64) encV w b zs clock)(hk: ∀k,m.f k≠none→(Lit.int .i64 k).wf=true)(hn:m.n≤1000000):
    ∃D:DataW Unit,w.ownsMap P K RK b m.n D∧Maps.size D=m.n∧(∀k,k∈intKeys D↔m.f k≠none)∧(intKeys D).Nodup:=by
  obtain ⟨⟨es,h1,h2⟩,h3,h4,h5,h6⟩:=hM
  have hlen:es.size=m.n:=by rw [←Array.length_toList,h2,List.length_map,←hR.len,List.length_map]
  have hrd: ∀z∈zs,Go.WideElems.rd P K RK z.1=some ((.int .i64 z.2.1,.lit (.bool true)):Lit×DataW Unit):=fun z hz=>by
    have hkey:keyOf P K z.1.key=some (.int .i64 z.2.1):=by
      rw [h3 z hz]
      have hw:=hk z.2.1 (by rw [(hR.mem z.2.1 z.2.2).1 (List.mem_map.2 ⟨z,hz,rfl⟩)];simp)
      simp [keyOf,hK,mapKey,hw]
    unfold Go.WideElems.rd
    rw [hkey];rfl
  have mem_f: ∀(l:List (Lit×DataW Unit)) (y:Lit×DataW Unit),y∈l.foldr DataW.insert []↔y∈l:=fun l y=>by
    induction l with
    |nil=>exact Iff.rfl
    |cons x l ih=>rw [List.foldr_cons,ChangeMaps.mem_insert_iff,ih,List.mem_cons]
  have len_f: ∀l:List (Lit×DataW Unit),(l.foldr DataW.insert []).length=l.length:=fun l=>by
    induction l with
    |nil=>rfl
    |cons x l ih=>rw [List.foldr_cons,DataW.length_insert,ih,List.length_cons]
  refine ⟨_,⟨es,clock,h1,⟨by rw [hlen];unfold maxLen;omega,⟨fun x hx=> ?_,?_,?_⟩,fun x hx=> ?_⟩,Nat.le_of_eq hlen,rfl⟩,?_,fun k=> ?_,?_⟩
  · rw [h2,List.mem_map]at hx
    obtain ⟨z,hz,rfl⟩:=hx
    exact h5 z hz
  · rw [h2,List.map_map];exact h6
  · rw [h2,List.map_map]
    have hnd:=hR.nodup
    rw [List.map_map]at hnd
    have e:zs.map ((fun x=>x.key) ∘ Prod.fst)=(zs.map (Prod.fst ∘ Prod.snd)).map (Value.int .i64):=by
      rw [List.map_map]
      exact List.map_congr_left fun z hz=>h3 z hz
    rw [e]
    exact List.Pairwise.map _ (fun a b hne hq=>hne (by cases hq;rfl)) hnd
  · rw [h2,List.mem_map]at hx
    obtain ⟨z,hz,rfl⟩:=hx
    exact ⟨_,hrd z hz⟩
  · show (List.foldr DataW.insert [] _).length=_
    rw [len_f,List.length_map,Array.length_toList,hlen]
  · show k∈List.map _ (List.foldr DataW.insert [] _)↔_
    rw [List.mem_map]
    constructor
    · rintro ⟨y,hy,rfl⟩
      rw [mem_f,List.mem_map]at hy
      obtain ⟨x,hx,rfl⟩:=hy
      rw [h2,List.mem_map]at hx
      obtain ⟨z,hz,rfl⟩:=hx
      have e:Go.WideElems.rg P K RK z.1=(.int .i64 z.2.1,.lit (.bool true)):=by unfold Go.WideElems.rg;rw [hrd z hz];rfl
      rw [e]
      show m.f z.2.1≠none
      rw [(hR.mem z.2.1 z.2.2).1 (List.mem_map.2 ⟨z,hz,rfl⟩)];simp
    intro hne
    cases hv:m.f k with
    |none=>exact absurd hv hne
    |some v=>
      obtain ⟨z,hz,e⟩:=List.mem_map.1 ((hR.mem k v).2 hv)
      refine ⟨Go.WideElems.rg P K RK z.1,(mem_f _ _).2 (List.mem_map.2 ⟨z.1,by rw [h2];exact List.mem_map.2 ⟨z,hz,rfl⟩,rfl⟩),?_⟩
      have e2:Go.WideElems.rg P K RK z.1=(.int .i64 z.2.1,.lit (.bool true)):=by unfold Go.WideElems.rg;rw [hrd z hz];rfl
      rw [e2]
      show z.2.1=k
      rw [e]
  show (List.map _ (List.foldr DataW.insert [] _)).Nodup
  have perm_f: ∀l:List (Lit×DataW Unit),(l.foldr DataW.insert []).Perm l:=fun l=>by
    induction l with
    |nil=>exact List.Perm.refl _
    |cons x l ih=>exact (WideShapes.insert_perm x _).trans (ih.cons x)
  refine ((perm_f _).map _).nodup_iff.2 ?_
  have hnd:=hR.nodup
  rw [List.map_map]at hnd
  rw [h2,List.map_map,List.map_map]
  have e:zs.map (((fun p:Lit×DataW Unit=>intOf p.1) ∘ Go.WideElems.rg P K RK) ∘ Prod.fst)=zs.map (Prod.fst ∘ Prod.snd):=List.map_congr_left fun z hz=>by
    show intOf (Go.WideElems.rg P K RK z.1).1=z.2.1
    unfold Go.WideElems.rg;rw [hrd z hz];rfl
  rw [e];exact hnd
theorem sorted_skeys{V:Type}{m:FM Int V}{ss L:List Int}(hp:ss.Perm L)(hm: ∀k,k∈L↔m.f k≠none)(hnd:L.Nodup):ss.mergeSort (fun x y=>decide (x≤y))=skeys m:=by
  have hps:=List.mergeSort_perm ss (fun x y=>decide (x≤y))
  have hn:(ss.mergeSort fun x y=>decide (x≤y)).Nodup:=(hps.trans hp).nodup_iff.2 hnd
  have hs:(ss.mergeSort fun x y=>decide (x≤y)).Pairwise fun x y=>decide (x≤y)=true:=List.pairwise_mergeSort (fun a b c h1 h2=>by simp at *;omega) (fun a b=>by simp;omega) ss
  refine (skeys_of ?_ fun k=> ?_).symm
  · refine List.Pairwise.imp₂ (R:=fun x y=>decide (x≤y)=true) (S:=fun x y=>x≠y) (fun a b h1 h2=>by simp at h1;omega) hs hn
  rw [(hps.trans hp).mem_iff];exact hm k
theorem Con.sortedI{V:Type}{P:Program}{ρk ρs ρ9:Ren}(Lk:SlLaysZI.n10 P ρk)(Ls:SlLaysZI.n6 P ρs)(L9:Lays.n189 P ρ9)(h9:ρs.f 9=ρ9.f 189){encV:V→Value}{b bm T f g E:Nat}{m:FM Int V}(hf:ρs.f 6=f)(hg:ρk.f 10=g)(hE:ρs.t 26=E)
    (e9: ∀args w,(callFunc (ρ9.f 189) args).run P w= .ok (.enter (ρ9.f 189) args) w) (eg: ∀args w,(callFunc g args).run P w= .ok (.enter g args) w) (hk: ∀k,m.f k≠none→(Lit.int .i64 k).wf=true) (hn:m.n≤1000000):
    Con P f #[.func (.func g) #[] #[.pointer (some ⟨bm,0,none⟩)]] σ [Res.cells bm #[.map (some b)] T,Res.mapB (Value.int .i64) encV (some b) m]
      (fun v σ' H'=> ∃a c,v= .slice a (skeys m).length c∧σ=σ'∧H'=[Res.rowS E 1 eI_ (.slice a (skeys m).length c) (skeys m),Res.cells bm #[.map (some b)] T,Res.mapB (Value.int .i64) encV (some b) m]):=by
  subst hf hg hE
  intro w hw
  have hc:w.heap[bm]? =some (.cells #[.map (some b)] T (0,0)):=hw.holds _ (List.mem_cons_self ..)
  obtain ⟨zs,clock,hR,hM⟩:=(hw.holds _ (List.mem_cons_of_mem _ (List.mem_cons_self ..))).2 b rfl
  obtain ⟨D,hown,hsz,hkeys,hnd⟩:=own_of Lk.t26 hR hM hk hn
  have hbm:bm<w.heap.size:=(Array.getElem?_eq_some_iff.1 hc).1
  have hcell:w.cell? ⟨bm,0,none⟩=some (.map (some b)):=by simp [World.cell?,hc]
  have hseq:=AnyZI.keys_gives (ρ:=ρk) Lk Fence.wide 2 trivial rfl (by omega) bm b m.n D w hbm hcell hown
  have hsorts:AnyZI.SortsIn P ρs Fence.wide 4:=⟨fun blk off cap ss W h1 h2 h3=>by rw [h9];exact callsIn_wide.2 (Any.slices_Sort_int L9 blk off cap ss W h1 h2 h3),fun p cap W=>by rw [h9];exact callsIn_wide.2 (Any.slices_Sort_int_none L9 p cap W)⟩
  have cS:=AnyZI.sorted_in Ls Fence.wide 5 trivial trivial trivial trivial rfl (by omega) hsorts (by rw [h9];exact e9) (ρk.f 10) #[.pointer (some ⟨bm,0,none⟩)] trivial eg _ (Maps.size D) (by rw [hsz];unfold maxLen;omega) (by rw [hsz];omega) w hseq
  refine (calls_drawn (callsIn_wide.1 cS) (fun e w' h=>by obtain ⟨v,ss,h,_⟩:=h;exact ⟨v,h⟩)).mono fun e w' h=> ?_
  obtain ⟨⟨v,ss,h1,h2,h3,h4,h5⟩,hdr⟩:=h
  have hsk:=sorted_skeys h2 hkeys hnd
  have hlen:ss.length=(skeys m).length:=by rw [←hsk,List.length_mergeSort]
  rw [hsk,hlen]at h3
  have hshape: ∃a c,v= .slice a (skeys m).length c:=by
    rcases h3.2 with ⟨h,h0⟩|⟨gb,cap,cur,h,_⟩
    · exact ⟨none,0,by rw [h,h0]⟩
    exact ⟨_,_,h⟩
  obtain ⟨a,c,hv⟩:=hshape
  subst hv
  refine ⟨_,σ,_,h1,⟨a,c,rfl,rfl,rfl⟩,?_⟩
  have hone: ∀u∈(skeys m).flatMap eI_,u.oneCell'=true:=fun u hu=>by
    rw [flat_encI]at hu
    obtain ⟨k,_,rfl⟩:=List.mem_map.1 hu
    rfl
  refine hw.gain1 (r':=Res.rowS (ρs.t 26) 1 eI_ (.slice a (skeys m).length c) (skeys m)) (Value.slice a (skeys m).length c).ownBlock rfl h5.os h5.tape h5.output h5.size hdr (fun k hk=>h5.block k hk) ⟨⟨?_,?_⟩,hone,?_⟩ ?_
  · rw [flat_encI,List.length_map,Nat.mul_one]
  · rw [flat_encI]
    rcases h3.2 with h|⟨gb,cap,cur,h,_,r⟩
    · exact .inl h
    exact .inr ⟨gb,cap,cur,h,Nat.zero_le _,r⟩
  · have hl:(intKeys D).length=Maps.size D:=by
      obtain ⟨_,_,_,_,_,hD⟩:=hown
      rw [hD];exact List.length_map ..
    have:=h2.length_eq
    omega
  intro k hk
  rcases h3.2 with ⟨h,h0⟩|⟨gb,cap,cur,h,hb,_⟩
  · rw [h]at hk;cases hk
  rw [h]at hk;cases hk;exact hb
theorem Con.sortedO{V:Type}{P:Program}{ρk ρs ρ9:Ren}(Lk:SlLaysZI.n10 P ρk)(Ls:SlLaysZI.n6 P ρs)(L9:Lays.n189 P ρ9)(h9:ρs.f 9=ρ9.f 189){encV:V→Value}{b:Option Nat}{bm T f g E:Nat}{m:FM Int V}(hf:ρs.f 6=f)(hg:ρk.f 10=g)(hE:ρs.t 26=E)
    (e9: ∀args w,(callFunc (ρ9.f 189) args).run P w= .ok (.enter (ρ9.f 189) args) w) (eg: ∀args w,(callFunc g args).run P w= .ok (.enter g args) w) (hk: ∀k,m.f k≠none→(Lit.int .i64 k).wf=true) (hn:m.n≤1000000):
    Con P f #[.func (.func g) #[] #[.pointer (some ⟨bm,0,none⟩)]] σ [Res.cells bm #[.map b] T,Res.mapB (Value.int .i64) encV b m]
      (fun v σ' H'=> ∃a c,v= .slice a (skeys m).length c∧σ=σ'∧H'=[Res.rowS E 1 eI_ (.slice a (skeys m).length c) (skeys m),Res.cells bm #[.map b] T,Res.mapB (Value.int .i64) encV b m]):=by
  cases b with
  |some b=>exact Con.sortedI Lk Ls L9 h9 hf hg hE e9 eg hk hn
  |none=>
    subst hf hg hE
    intro w hw
    have hc:w.heap[bm]? =some (.cells #[.map none] T (0,0)):=hw.holds _ (List.mem_cons_self ..)
    have hm:m=FM.emp:=(hw.holds _ (List.mem_cons_of_mem _ (List.mem_cons_self ..))).1 rfl
    have hsk0:skeys m=[]:=skeys_of List.Pairwise.nil fun k=>by rw [hm];simp [FM.emp]
    have hbm:bm<w.heap.size:=(Array.getElem?_eq_some_iff.1 hc).1
    have hcell:w.cell? ⟨bm,0,none⟩=some (.map none):=by simp [World.cell?,hc]
    have hseq:=AnyZI.keys_gives_nil (ρ:=ρk) Lk Fence.wide 2 trivial rfl bm w hbm hcell
    have hsorts:AnyZI.SortsIn P ρs Fence.wide 4:=⟨fun blk off cap ss W h1 h2 h3=>by rw [h9];exact callsIn_wide.2 (Any.slices_Sort_int L9 blk off cap ss W h1 h2 h3),fun p cap W=>by rw [h9];exact callsIn_wide.2 (Any.slices_Sort_int_none L9 p cap W)⟩
    have cS:=AnyZI.sorted_in Ls Fence.wide 5 trivial trivial trivial trivial rfl (by omega) hsorts (by rw [h9];exact e9) (ρk.f 10) #[.pointer (some ⟨bm,0,none⟩)] trivial eg _ 0 (Nat.zero_le _) (by omega) w hseq
    refine (calls_drawn (callsIn_wide.1 cS) (fun e w' h=>by obtain ⟨v,ss,h,_⟩:=h;exact ⟨v,h⟩)).mono fun e w' h=> ?_
    obtain ⟨⟨v,ss,h1,h2,h3,h4,h5⟩,hdr⟩:=h
    subst h2
    obtain rfl:=h4.2 rfl
    refine ⟨_,σ,_,h1,⟨none,0,by rw [hsk0];rfl,rfl,rfl⟩,?_⟩
    rw [hsk0]
    exact hw.gain1 (r':=Res.rowS (ρs.t 26) 1 eI_ (.slice none 0 0) []) none rfl h5.os h5.tape h5.output h5.size hdr (fun k hk=>h5.block k hk) ⟨⟨rfl,.inl ⟨rfl,rfl⟩⟩,fun u hu=>absurd hu List.not_mem_nil,Nat.zero_le _⟩ (fun k hk=>by cases hk)
def KeysIn{V:Type}(m:FM Int V):Prop:= ∀k,m.f k≠none→(Lit.int .i64 k).wf=true
instance {V:Type} (m:FM Int V):Decidable (KeysIn m):=Classical.propDecidable _
end Go.E
end

noncomputable section
namespace Go.Proofs.YtnpbfjdpglfdkaaGreatDoor
open Go Go.E Go.E.OpVal Go.E.OpOk Go.Proofs.Tryz
theorem pf54:plainF Tryz.prog 54=true:=by kernel_rfl
theorem pf55:plainF Tryz.prog 55=true:=by kernel_rfl
theorem pf56:plainF Tryz.prog 56=true:=by kernel_rfl
def Ev_(k275:Nat)(i280:Int)(l282:List Tip)(l286:List Tip)(l290:List Arc)(t293:Bool):Option ((Int×(List Tip)×(List Tip)×(List Arc)×Bool×Nat)⊕((Int×(List Tip)×(List Tip)×(List Arc)×Bool×Nat)⊕(Fst×Int))):=
 nxt (i280,l282,l286,l290,t293,(k275+1))
def Bs_(x1:Dfa)(x0:Fst)(k224:Nat)(i261:Int)(l263:List Tip)(l267:List Tip)(l271:List Arc)(t274:Bool)(k275:Nat):Option ((Int×(List Tip)×(List Tip)×(List Arc)×Bool×Nat)⊕((Int×(List Tip)×(List Tip)×(List Arc)×Bool×Nat)⊕(Fst×Int))):=
 iteO (decide (((k275:Nat):Int)<((x1.fin.length:Nat):Int))) (iteO (nth x1.fin k275 false) (bnd (Dt_ (⟨(⟨i261,l263,l267,l271⟩:Fst),t274⟩:Grow) (⟨IntKind.i64.wrap ((IntKind.i64.wrap (((nth x0.ends k224 Tip.zero).state) * ((x1.next.length:Nat):Int)))+((k275:Nat):Int)),(nth x0.ends k224 Tip.zero).out⟩:Tip)) (fun v90=>Ev_ k275 v90.f.states v90.f.starts v90.f.ends v90.f.arcs v90.over)) (Ev_ k275 i261 l263 l267 l271 t274)) (fin (nxt (i261,l263,l267,l271,t274,(k224+1))))
def Bo_(v113:(FM Int BSet))(x0:Fst)(k348:Nat)(x1:Dfa)(k399:Nat)(i441:Int)(l443:List Tip)(l447:List Tip)(l451:List Arc)(t454:Bool)(k455:Nat):Option ((Int×(List Tip)×(List Tip)×(List Arc)×Bool×Nat)⊕((Int×(List Tip)×(List Tip)×(List Arc)×Bool×Nat)⊕((Int×(List Tip)×(List Tip)×(List Arc)×Bool×Nat)⊕(Fst×Int)))):=
 iteO (decide (((k455:Nat):Int)<(((skeys v113).length:Nat):Int))) (bnd (Ds_ (⟨(⟨i441,l443,l447,l451⟩:Fst),t454⟩:Grow) (⟨IntKind.i64.wrap ((IntKind.i64.wrap (((nth x0.arcs k348 Arc.zero).frm) * ((x1.next.length:Nat):Int)))+((k399:Nat):Int)),IntKind.i64.wrap ((IntKind.i64.wrap (((nth x0.arcs k348 Arc.zero).to) * ((x1.next.length:Nat):Int)))+(nth (skeys v113) k455 (0:Int))),(v113.get (nth (skeys v113) k455 (0:Int)) BSet.zero),(nth x0.arcs k348 Arc.zero).out,(nth x0.arcs k348 Arc.zero).copy⟩:Arc)) (fun v145=>nxt (v145.f.states,v145.f.starts,v145.f.ends,v145.f.arcs,v145.over,(k455+1)))) (fin (iteO t454 (bnd (B1_ (⟨(⟨i441,l443,l447,l451⟩:Fst),t454⟩:Grow)) (fun v195=>fin (fin (some ((⟨v195.1.states,v195.1.starts,v195.1.ends,v195.1.arcs⟩:Fst),v195.2))))) (nxt (i441,l443,l447,l451,t454,(k399+1)))))
def Bq_(x1:Dfa)(x0:Fst)(k348:Nat)(i385:Int)(l387:List Tip)(l391:List Tip)(l395:List Arc)(t398:Bool)(k399:Nat):Option ((Int×(List Tip)×(List Tip)×(List Arc)×Bool×Nat)⊕((Int×(List Tip)×(List Tip)×(List Arc)×Bool×Nat)⊕(Fst×Int))):=
 iteO (decide (((k399:Nat):Int)<((x1.next.length:Nat):Int))) (bnd (Go_ x1 ((k399:Nat):Int) ((nth x0.arcs k348 Arc.zero).set)) (fun v113=>grd (KeysIn v113∧v113.n≤1000000) (iter (fun q:Int×(List Tip)×(List Tip)×(List Arc)×Bool×Nat=>Bo_ v113 x0 k348 x1 k399 q.1 q.2.1 q.2.2.1 q.2.2.2.1 q.2.2.2.2.1 q.2.2.2.2.2) (i385,l387,l391,l395,t398,0)))) (fin (nxt (i385,l387,l391,l395,t398,(k348+1))))
def Bp_(x0:Fst)(x1:Dfa)(i334:Int)(l336:List Tip)(l340:List Tip)(l344:List Arc)(t347:Bool)(k348:Nat):Option ((Int×(List Tip)×(List Tip)×(List Arc)×Bool×Nat)⊕(Fst×Int)):=
 iteO (decide (((k348:Nat):Int)<((x0.arcs.length:Nat):Int))) (iter (fun q:Int×(List Tip)×(List Tip)×(List Arc)×Bool×Nat=>Bq_ x1 x0 k348 q.1 q.2.1 q.2.2.1 q.2.2.2.1 q.2.2.2.2.1 q.2.2.2.2.2) (i334,l336,l340,l344,t347,0)) (fin (bnd (B1_ (⟨(⟨i334,l336,l340,l344⟩:Fst),t347⟩:Grow)) (fun v196=>some ((⟨v196.1.states,v196.1.starts,v196.1.ends,v196.1.arcs⟩:Fst),v196.2))))
def Br_(x0:Fst)(x1:Dfa)(i210:Int)(l212:List Tip)(l216:List Tip)(l220:List Arc)(t223:Bool)(k224:Nat):Option ((Int×(List Tip)×(List Tip)×(List Arc)×Bool×Nat)⊕(Fst×Int)):=
 iteO (decide (((k224:Nat):Int)<((x0.ends.length:Nat):Int))) (iter (fun q:Int×(List Tip)×(List Tip)×(List Arc)×Bool×Nat=>Bs_ x1 x0 k224 q.1 q.2.1 q.2.2.1 q.2.2.2.1 q.2.2.2.2.1 q.2.2.2.2.2) (i210,l212,l216,l220,t223,0)) (fin (iter (fun q:Int×(List Tip)×(List Tip)×(List Arc)×Bool×Nat=>Bp_ x0 x1 q.1 q.2.1 q.2.2.1 q.2.2.2.1 q.2.2.2.2.1 q.2.2.2.2.2) (i210,l212,l216,l220,t223,0)))
def Bk_(x0:Fst)(x1:Dfa)(i151:Int)(l153:List Tip)(l157:List Tip)(l161:List Arc)(t164:Bool)(k165:Nat):Option ((Int×(List Tip)×(List Tip)×(List Arc)×Bool×Nat)⊕(Fst×Int)):=
 iteO (decide (((k165:Nat):Int)<((x0.starts.length:Nat):Int))) (bnd (C5_ (⟨(⟨i151,l153,l157,l161⟩:Fst),t164⟩:Grow) (⟨IntKind.i64.wrap (((nth x0.starts k165 Tip.zero).state) * ((x1.next.length:Nat):Int)),(nth x0.starts k165 Tip.zero).out⟩:Tip)) (fun v57=>nxt (v57.f.states,v57.f.starts,v57.f.ends,v57.f.arcs,v57.over,(k165+1)))) (fin (iter (fun q:Int×(List Tip)×(List Tip)×(List Arc)×Bool×Nat=>Br_ x0 x1 q.1 q.2.1 q.2.2.1 q.2.2.2.1 q.2.2.2.2.1 q.2.2.2.2.2) (i151,l153,l157,l161,t164,0)))
def Du_(x0:Fst)(x1:Dfa):Option (Fst×Int):=
 bnd (B6_ x0) (fun v6=>iteO (decide (v6≠0)) (some ((⟨0,([]:List Tip),([]:List Tip),([]:List Arc)⟩:Fst),1)) (bnd (Cx_ x1) (fun v10=>iteO (decide (v10≠0)) (some ((⟨0,([]:List Tip),([]:List Tip),([]:List Arc)⟩:Fst),1)) (iteO (decide (1024<(IntKind.i64.wrap (x0.states * ((x1.next.length:Nat):Int))))) (bnd (B1_ (⟨(⟨IntKind.i64.wrap (x0.states * ((x1.next.length:Nat):Int)),([]:List Tip),([]:List Tip),([]:List Arc)⟩:Fst),false⟩:Grow)) (fun v156=>some ((⟨v156.1.states,v156.1.starts,v156.1.ends,v156.1.arcs⟩:Fst),v156.2))) (iter (fun q:Int×(List Tip)×(List Tip)×(List Arc)×Bool×Nat=>Bk_ x0 x1 q.1 q.2.1 q.2.2.1 q.2.2.2.1 q.2.2.2.2.1 q.2.2.2.2.2) ((IntKind.i64.wrap (x0.states * ((x1.next.length:Nat):Int))),([]:List Tip),([]:List Tip),([]:List Arc),false,0))))))
def Jv_(σ:Store)(r:Fst×Int):Value→Store→List Res→Prop:=fun v σ' H'=>
 ∃a1 c1 a2 c2 a3 c3,v= .tuple #[.agg #[.int .i64 r.1.states,.slice a1 r.1.starts.length c1,.slice a2 r.1.ends.length c2,.slice a3 r.1.arcs.length c3],.int .i64 r.2]∧RS σ' 2 encTip (.slice a1 r.1.starts.length c1) r.1.starts∧RS σ' 2 encTip (.slice a2 r.1.ends.length c2) r.1.ends∧RS σ' 8 encArc (.slice a3 r.1.arcs.length c3) r.1.arcs∧H'=[]
theorem I3_{x0:Fst}{x1:Dfa}(f0_0:RS σ 2 encTip (.slice a0_0 x0.starts.length c0_0) x0.starts)(f0_1:RS σ 2 encTip (.slice a0_1 x0.ends.length c0_1) x0.ends)(f0_2:RS σ 8 encArc (.slice a0_2 x0.arcs.length c0_2) x0.arcs)(f1_0:RS σ 1 eI_ (.slice a1_0 x1.cls.length c1_0) x1.cls)(f1_1:RZ σ (pkSl 1 eI_ eIl_) (.slice a1_1 x1.next.length c1_1) x1.next)(f1_2:RS σ 1 encB (.slice a1_2 x1.fin.length c1_2) x1.fin){r:Fst×Int}(hh:Du_ x0 x1=some r):
  Con Tryz.prog 24 #[.agg #[.int .i64 x0.states,.slice a0_0 x0.starts.length c0_0,.slice a0_1 x0.ends.length c0_1,.slice a0_2 x0.arcs.length c0_2],.agg #[.slice a1_0 x1.cls.length c1_0,.slice a1_1 x1.next.length c1_1,.slice a1_2 x1.fin.length c1_2]] σ [] (Jv_ σ r):=by
 dsimp only [Du_]at hh
 have f0_0b:=f0_0.rv.big
 have f0_1b:=f0_1.rv.big
 have f0_2b:=f0_2.rv.big
 have f1_0b:=f1_0.rv.big
 have f1_1b:=f1_1.big
 have f1_2b:=f1_2.rv.big
 refine Con.mkD (n:=148) Tryz.func24 z z z (fun w0=> ?_)
 refine TB.seq endR_ret (TC.region (TL.op z (boxA z z z z (fun b101=> ?_))))
 refine TL.op z (boxA z z z z (fun b103=> ?_))
 refine TL.op z (OpOk.alloc z ze25 z z (fun b105=> ?_))
 refine TL.op z (OpOk.alloc z ze32 z z (fun b107=> ?_))
 refine TL.en (TB.seq endR_ret (TC.a (TL.w z (loadAll z ag25 sz25 z (i:=3) z z) ?_)))
 obtain ⟨v6,u6,hh⟩:=bnd_e hh
 refine TL.op z (callP (Bw_ (x0:=x0) f0_0 f0_1 f0_2 u6) z z pf16 z z z ?_)
 refine TL.w z (OpVal.neq z z z) (TL.j z z (TL.split 23 z (fun h109=> ?_) (fun h109=> ?_)))
 ·replace hh:=iteO_t h109 hh
  replace h109:=of_decide_eq_true h109
  refine TL.f z (TL.f z (TL.f z (TL.w z (pickTB z z z) (TL.en (TC.t z (TC.a (TL.w z (buildL z pl25 ze25 z) (TL.front 1 z z (TL.op z (storeAll z sz25 z z z z z z ?_))))))))))
  refine TL.front 1 z z (TL.op z (storeI z sz32 z z z z z ?_))
  refine TL.en (TC.ofSub (Sub.f [1] 2) (TC.ret (S.r ?_)))
  obtain rfl:=so hh
  exact ro [] z (RVs.agg ag25 sz25 z (i:=0) z z (RVs.one ag32 z (i:=1) z z RVs.nil)) ⟨none,0,none,0,none,0,z,(RS.nilF _ encTip encTip_len),(RS.nilF _ encTip encTip_len),(RS.nilF _ encArc encArc_len),z⟩
 replace hh:=iteO_f h109 hh
 replace h109:=of_decide_eq_false h109
 refine TL.g z (loadAll z ag31 sz31 z (i:=2) z z) ?_
 obtain ⟨v10,u10,hh⟩:=bnd_e hh
 refine TL.gon z z z z z (callP (Fb_ (x0:=x1) f1_0 f1_1 f1_2 u10) z z pf37 z z z ?_)
 refine TL.g z (OpVal.neq z z z) (TL.w z (pickFB z z z) (TL.en (TC.cD z hh (fun h110 hh=> ?_) (fun h110 hh=> ?_))))
 ·refine TC.a (TL.w z (buildL z pl25 ze25 z) (TL.front 1 z z (TL.op z (storeAll z sz25 z z z z z z ?_))))
  refine TL.front 1 z z (TL.op z (storeI z sz32 z z z z z ?_))
  refine TL.en (TC.ofSub (Sub.f [1] 2) (TC.ret (S.r ?_)))
  obtain rfl:=so hh
  exact ro [] z (RVs.agg ag25 sz25 z (i:=0) z z (RVs.one ag32 z (i:=1) z z RVs.nil)) ⟨none,0,none,0,none,0,z,(RS.nilF _ encTip encTip_len),(RS.nilF _ encTip encTip_len),(RS.nilF _ encArc encArc_len),z⟩
 refine TC.skip (S.n (TB.seq endR_ret (TC.region (TL.w z (buildL z pl114 ze114 z) (TL.op z (boxA z z z z (fun b111=> ?_)))))))
 refine TL.l z z (TL.en (TB.seqD (TLB.v z (moveLoc (.inl z) z) z z (TLB.dfr (dargs:=[loc b111 0,loc b105 0,loc b107 0]) z z z z z (fun a_ w_ hw_ ha_=> ?_)))))
 refine TB.fin (Q:=dfrQ _ _ _ _ 51 [loc b111 0,loc b105 0,loc b107 0]) (endR_dfr (cap:=[]) (dargs:=[loc b111 0,loc b105 0,loc b107 0]) pf51) ?_ w_ a_ hw_ ha_
 clear hw_ ha_ a_ w_
 refine TC.a (TL.w z (fieldLoc z fo31_1 z) (TL.w z (loadLoc z ag28 z (i:=3) z z) (TL.w z (lenC z underlying28 z) (TL.i z z (TL.en (TC.a (TL.l z z (TL.w z (fieldLoc z fo25_0 z) (TL.w z (loadLoc z ag3 z (i:=4) z z) (TL.i z z (TL.w z (mulW z z z) (TL.w z (nilCheckLoc z z) (TL.w z (fieldLoc z fo114_0 z) (TL.w z (fieldLoc z fo25_0 z) (TL.op z (storeI z sz3 z z z z z ?_))))))))))))))))
 refine TL.en (TC.seq (TC.a (TL.l z z (TL.w z (nilCheckLoc z z) (TL.w z (fieldLoc z fo114_0 z) (TL.w z (fieldLoc z fo25_0 z) (TL.w z (loadLoc z ag3 z (i:=0) z z) (TL.w z (OpVal.gtr z z z) (TL.en (TC.cD z hh (fun h113 hh=> ?_) (fun h113 hh=> ?_)))))))))))
 ·refine TC.nilS 62 2 encTip (TC.nilS 62 2 encTip (TC.nilS 59 8 encArc (TC.front 4 z z (TC.front 5 z z (TC.front 2 z z (TC.front 3 z z (TC.front 4 z z (TC.front 5 z z ?_))))))))
  obtain ⟨v156,u156,hh⟩:=bnd_e hh
  refine TC.ret (S.r (⟨.inl z,_,Sub.pre 6 z,(Dl_ u156).mono ?_⟩))
  rintro _ τ117 _ hle117 ⟨a117_1,c117_2,a117_4,c117_5,a117_7,c117_8,rfl,f117_3,f117_6,f117_9,rfl⟩
  replace f0_0:=f0_0.mono hle117
  replace f0_1:=f0_1.mono hle117
  replace f0_2:=f0_2.mono hle117
  replace f1_0:=f1_0.mono hle117
  replace f1_1:=f1_1.mono hle117
  replace f1_2:=f1_2.mono hle117
  have f117_3b:=f117_3.rv.big
  have f117_6b:=f117_6.rv.big
  have f117_9b:=f117_9.rv.big
  obtain rfl:=so hh
  exact RetOk.mk' (rs:=[.cell 4 25,.cell 5 32]) [] z (.inl z) (RVs.agg ag25 sz25 z (i:=0) z z (RVs.one ag32 z (i:=1) z z RVs.nil)) (List.nil_sublist _) ⟨a117_1,c117_2,a117_4,c117_5,a117_7,c117_8,z,f117_3,f117_6,f117_9,z⟩
 refine TC.skip (S.n (TC.seq (TC.a (TL.w z (fieldLoc z fo25_1 z) (TL.w z (loadLoc z ag22 z (i:=4) z z) (TL.w z (lenC z underlying22 z) (TL.i z z (TL.en (TC.block (TC.nilS 62 2 encTip (TC.nilS 62 2 encTip (TC.nilS 59 8 encArc (TC.loopG (α:=(Int×(List Tip)×(List Tip)×(List Arc)×Bool×Nat)×((Option Addr)×Nat×(Option Addr)×Nat×(Option Addr)×Nat)) (rgs [(9,1),(52,14)]) (fun g=>[(52,.int .i64 ((g.1.2.2.2.2.2:Nat):Int))]) (fun g=>[Res.cells b101 #[.int .i64 x0.states,.slice a0_0 x0.starts.length c0_0,.slice a0_1 x0.ends.length c0_1,.slice a0_2 x0.arcs.length c0_2] 25,Res.cells b103 #[.slice a1_0 x1.cls.length c1_0,.slice a1_1 x1.next.length c1_1,.slice a1_2 x1.fin.length c1_2] 31,Res.cells b105 #[.int .i64 0,.slice none 0 0,.slice none 0 0,.slice none 0 0] 25,Res.cells b107 #[.int .i64 0] 32,Res.cells b111 #[.int .i64 g.1.1,.slice g.2.1 g.1.2.1.length g.2.2.1,.slice g.2.2.2.1 g.1.2.2.1.length g.2.2.2.2.1,.slice g.2.2.2.2.2.1 g.1.2.2.2.1.length g.2.2.2.2.2.2,.bool g.1.2.2.2.2.1] 114,Res.rowS 62 2 encTip (.slice g.2.1 g.1.2.1.length g.2.2.1) g.1.2.1,Res.rowS 62 2 encTip (.slice g.2.2.2.1 g.1.2.2.1.length g.2.2.2.2.1) g.1.2.2.1,Res.rowS 59 8 encArc (.slice g.2.2.2.2.2.1 g.1.2.2.2.1.length g.2.2.2.2.2.2) g.1.2.2.2.1]) (fun g=>σ) (fun g=>iter (fun q:Int×(List Tip)×(List Tip)×(List Arc)×Bool×Nat=>Bk_ x0 x1 q.1 q.2.1 q.2.2.1 q.2.2.2.1 q.2.2.2.2.1 q.2.2.2.2.2) g.1=some r) (fun g=>rounds (fun q:Int×(List Tip)×(List Tip)×(List Arc)×Bool×Nat=>Bk_ x0 x1 q.1 q.2.1 q.2.2.1 q.2.2.2.1 q.2.2.2.2.1 q.2.2.2.2.2) g.1) (((IntKind.i64.wrap (x0.states * ((x1.next.length:Nat):Int))),([]:List Tip),([]:List Tip),([]:List Arc),false,0),(none,0,none,0,none,0)) (Sub.f [1,2,3,4,5,6,7] 8) z (by repeat (first|exact trivial|refine ⟨z,?_⟩)) hh (fun g1 j1 hg1=> ?_))))))))))))))
 obtain ⟨⟨i151,l153,l157,l161,t164,k165⟩,⟨a154,c155,a158,c159,a162,c163⟩⟩:=g1
 have hh:=hg1;clear hg1
 try dsimp only
 obtain ⟨z1,hh,hR1⟩:=iter_e hh
 dsimp only [Bk_]at hh
 refine TC.isSl (i:=5) z (fun _ hb169 _=> ?_)
 refine TC.isSl (i:=6) z (fun _ hb170 _=> ?_)
 refine TC.isSl (i:=7) z (fun _ hb171 _=> ?_)
 refine TC.a (TL.w z (OpVal.lss z z z) (TL.en (TC.seq (TC.cD z hh (fun h172 hh=> ?_) (fun h172 hh=> ?_)))))
 ·refine TC.skip (S.n (TC.seq (TC.block (TC.a (TL.w z (indexN z underlying22 sz62 z z f0_0.rv.sl (by omega)) (TL.w z (loadSA Tip.zero z ag62 sz62 z f0_0 (by omega) (by omega)) (TL.op z (OpOk.alloc z ze62 z z (fun b173=> ?_)))))))))
  refine TL.op z (storeAll z sz62 z z z z z z ?_)
  refine TL.en (TC.region (TL.l z z (TL.w z (fieldLoc z fo62_0 z) (TL.w z (loadLoc z ag3 z (i:=0) z z) (TL.i z z (TL.w z (mulW z z z) (TL.w z (fieldLoc z fo62_1 z) (TL.w z (loadLoc z ag9 z (i:=0) z z) (TL.w z (buildL z pl62 ze62 z) (TL.front 8 z z (TL.front 8 z z (TL.front 8 z z (TL.front 8 z z ?_)))))))))))))
  obtain ⟨v57,u57,hh⟩:=bnd_e hh
  refine TL.op z (OpOk.call (Gq_ u57) z z pf52 z z z z ?_)
  rintro _ _ _ hle175 ⟨a175_1,c175_2,a175_3,c175_4,a175_5,c175_6,rfl,rfl,rfl⟩
  refine TL.nil (B.n (S.n (TC.region (TL.w z (OpVal.succ z z z (by omega)) (TL.i z z (TL.en ?_))))))
  obtain ⟨hh,hlt179⟩:=nxt_x hR1 hh
  exact lf ((v57.f.states,v57.f.starts,v57.f.ends,v57.f.arcs,v57.over,(k165+1)),(a175_1,c175_2,a175_3,c175_4,a175_5,c175_6)) hlt179 hh (Sub.f [3,3,3,3,8,8,8,8] 8)
 refine TC.exit (S.x (S.x ?_))
 replace hh:=fin_x hR1 hh
 refine TC.exitHere (S.n (TC.seq (TC.a (TL.w z (fieldLoc z fo25_2 z) (TL.w z (loadLoc z ag22 z (i:=0) z z) (TL.w z (lenC z underlying22 z) (TL.i z z (TL.en (TC.block (TC.loopG (α:=(Int×(List Tip)×(List Tip)×(List Arc)×Bool×Nat)×((Option Addr)×Nat×(Option Addr)×Nat×(Option Addr)×Nat)) (rgs [(11,3),(69,26)]) (fun g=>[(69,.int .i64 ((g.1.2.2.2.2.2:Nat):Int))]) (fun g=>[Res.cells b101 #[.int .i64 x0.states,.slice a0_0 x0.starts.length c0_0,.slice a0_1 x0.ends.length c0_1,.slice a0_2 x0.arcs.length c0_2] 25,Res.cells b103 #[.slice a1_0 x1.cls.length c1_0,.slice a1_1 x1.next.length c1_1,.slice a1_2 x1.fin.length c1_2] 31,Res.cells b105 #[.int .i64 0,.slice none 0 0,.slice none 0 0,.slice none 0 0] 25,Res.cells b107 #[.int .i64 0] 32,Res.cells b111 #[.int .i64 g.1.1,.slice g.2.1 g.1.2.1.length g.2.2.1,.slice g.2.2.2.1 g.1.2.2.1.length g.2.2.2.2.1,.slice g.2.2.2.2.2.1 g.1.2.2.2.1.length g.2.2.2.2.2.2,.bool g.1.2.2.2.2.1] 114,Res.rowS 62 2 encTip (.slice g.2.1 g.1.2.1.length g.2.2.1) g.1.2.1,Res.rowS 62 2 encTip (.slice g.2.2.2.1 g.1.2.2.1.length g.2.2.2.2.1) g.1.2.2.1,Res.rowS 59 8 encArc (.slice g.2.2.2.2.2.1 g.1.2.2.2.1.length g.2.2.2.2.2.2) g.1.2.2.2.1]) (fun g=>σ) (fun g=>iter (fun q:Int×(List Tip)×(List Tip)×(List Arc)×Bool×Nat=>Br_ x0 x1 q.1 q.2.1 q.2.2.1 q.2.2.2.1 q.2.2.2.2.1 q.2.2.2.2.2) g.1=some r) (fun g=>rounds (fun q:Int×(List Tip)×(List Tip)×(List Arc)×Bool×Nat=>Br_ x0 x1 q.1 q.2.1 q.2.2.1 q.2.2.2.1 q.2.2.2.2.1 q.2.2.2.2.2) g.1) ((i151,l153,l157,l161,t164,0),(a154,c155,a158,c159,a162,c163)) (Sub.f [7,7,7,7,7,7,7,7] 8) z (by repeat (first|exact trivial|refine ⟨z,?_⟩)) hh (fun g2 j2 hg2=> ?_)))))))))))
 obtain ⟨⟨i210,l212,l216,l220,t223,k224⟩,⟨a213,c214,a217,c218,a221,c222⟩⟩:=g2
 have hh:=hg2;clear hg2
 try dsimp only
 obtain ⟨z1,hh,hR1⟩:=iter_e hh
 dsimp only [Br_]at hh
 refine TC.isSl (i:=5) z (fun _ hb225 _=> ?_)
 refine TC.isSl (i:=6) z (fun _ hb226 _=> ?_)
 refine TC.isSl (i:=7) z (fun _ hb227 _=> ?_)
 refine TC.a (TL.w z (OpVal.lss z z z) (TL.en (TC.seq (TC.cD z hh (fun h228 hh=> ?_) (fun h228 hh=> ?_)))))
 ·refine TC.skip (S.n (TC.seq (TC.block (TC.a (TL.w z (indexN z underlying22 sz62 z z f0_1.rv.sl (by omega)) (TL.w z (loadSA Tip.zero z ag62 sz62 z f0_1 (by omega) (by omega)) (TL.op z (OpOk.alloc z ze62 z z (fun b229=> ?_)))))))))
  refine TL.op z (storeAll z sz62 z z z z z z ?_)
  refine TL.en (TC.a (TL.w z (fieldLoc z fo31_2 z) (TL.w z (loadLoc z ag29 z (i:=2) z z) (TL.w z (lenC z underlying29 z) (TL.i z z (TL.en (TC.block (TC.loopG (α:=(Int×(List Tip)×(List Tip)×(List Arc)×Bool×Nat)×((Option Addr)×Nat×(Option Addr)×Nat×(Option Addr)×Nat)) (rgs [(12,2),(76,18)]) (fun g=>[(76,.int .i64 ((g.1.2.2.2.2.2:Nat):Int))]) (fun g=>[Res.cells b101 #[.int .i64 x0.states,.slice a0_0 x0.starts.length c0_0,.slice a0_1 x0.ends.length c0_1,.slice a0_2 x0.arcs.length c0_2] 25,Res.cells b103 #[.slice a1_0 x1.cls.length c1_0,.slice a1_1 x1.next.length c1_1,.slice a1_2 x1.fin.length c1_2] 31,Res.cells b105 #[.int .i64 0,.slice none 0 0,.slice none 0 0,.slice none 0 0] 25,Res.cells b107 #[.int .i64 0] 32,Res.cells b111 #[.int .i64 g.1.1,.slice g.2.1 g.1.2.1.length g.2.2.1,.slice g.2.2.2.1 g.1.2.2.1.length g.2.2.2.2.1,.slice g.2.2.2.2.2.1 g.1.2.2.2.1.length g.2.2.2.2.2.2,.bool g.1.2.2.2.2.1] 114,Res.rowS 62 2 encTip (.slice g.2.1 g.1.2.1.length g.2.2.1) g.1.2.1,Res.rowS 62 2 encTip (.slice g.2.2.2.1 g.1.2.2.1.length g.2.2.2.2.1) g.1.2.2.1,Res.rowS 59 8 encArc (.slice g.2.2.2.2.2.1 g.1.2.2.2.1.length g.2.2.2.2.2.2) g.1.2.2.2.1,Res.cells b229 #[.int .i64 ((nth x0.ends k224 Tip.zero).state),.string (bs ((nth x0.ends k224 Tip.zero).out))] 62]) (fun g=>σ) (fun g=>iter (fun q:Int×(List Tip)×(List Tip)×(List Arc)×Bool×Nat=>Bs_ x1 x0 k224 q.1 q.2.1 q.2.2.1 q.2.2.2.1 q.2.2.2.2.1 q.2.2.2.2.2) g.1=some z1) (fun g=>rounds (fun q:Int×(List Tip)×(List Tip)×(List Arc)×Bool×Nat=>Bs_ x1 x0 k224 q.1 q.2.1 q.2.2.1 q.2.2.2.1 q.2.2.2.2.1 q.2.2.2.2.2) g.1) ((i210,l212,l216,l220,t223,0),(a213,c214,a217,c218,a221,c222)) (Sub.f [8,8,8,8,8,8,8,8] 9) z (by repeat (first|exact trivial|refine ⟨z,?_⟩)) hh (fun g3 j3 hg3=> ?_)))))))))
  obtain ⟨⟨i261,l263,l267,l271,t274,k275⟩,⟨a264,c265,a268,c269,a272,c273⟩⟩:=g3
  have hh:=hg3;clear hg3
  try dsimp only
  obtain ⟨z2,hh,hR2⟩:=iter_e hh
  dsimp only [Bs_]at hh
  refine TC.isSl (i:=5) z (fun _ hb276 _=> ?_)
  refine TC.isSl (i:=6) z (fun _ hb277 _=> ?_)
  refine TC.isSl (i:=7) z (fun _ hb278 _=> ?_)
  refine TC.a (TL.w z (OpVal.lss z z z) (TL.en (TC.seq (TC.cD z hh (fun h279 hh=> ?_) (fun h279 hh=> ?_)))))
  ·refine TC.skip (S.n (TC.cutG (α:=(Int×(List Tip)×(List Tip)×(List Arc)×Bool)×((Option Addr)×Nat×(Option Addr)×Nat×(Option Addr)×Nat)) (rgs [(12,2),(78,15)]) (fun g=>[]) (fun g=>[Res.cells b101 #[.int .i64 x0.states,.slice a0_0 x0.starts.length c0_0,.slice a0_1 x0.ends.length c0_1,.slice a0_2 x0.arcs.length c0_2] 25,Res.cells b103 #[.slice a1_0 x1.cls.length c1_0,.slice a1_1 x1.next.length c1_1,.slice a1_2 x1.fin.length c1_2] 31,Res.cells b105 #[.int .i64 0,.slice none 0 0,.slice none 0 0,.slice none 0 0] 25,Res.cells b107 #[.int .i64 0] 32,Res.cells b111 #[.int .i64 g.1.1,.slice g.2.1 g.1.2.1.length g.2.2.1,.slice g.2.2.2.1 g.1.2.2.1.length g.2.2.2.2.1,.slice g.2.2.2.2.2.1 g.1.2.2.2.1.length g.2.2.2.2.2.2,.bool g.1.2.2.2.2] 114,Res.rowS 62 2 encTip (.slice g.2.1 g.1.2.1.length g.2.2.1) g.1.2.1,Res.rowS 62 2 encTip (.slice g.2.2.2.1 g.1.2.2.1.length g.2.2.2.2.1) g.1.2.2.1,Res.rowS 59 8 encArc (.slice g.2.2.2.2.2.1 g.1.2.2.2.1.length g.2.2.2.2.2.2) g.1.2.2.2.1,Res.cells b229 #[.int .i64 ((nth x0.ends k224 Tip.zero).state),.string (bs ((nth x0.ends k224 Tip.zero).out))] 62]) (fun g=>σ) (fun g=>Ev_ k275 g.1.1 g.1.2.1 g.1.2.2.1 g.1.2.2.2.1 g.1.2.2.2.2=some z2) ?_ (fun g j hg=> ?_)))
   ·skip
    refine TC.block (TC.a (TL.i z z (TL.w z (indexN z underlying29 sz4 z z f1_2.rv.sl (by omega)) (TL.w z (loadS1 false z ag4 z f1_2 (by omega) z) (TL.i z z (TL.j z z (TL.en (TC.a (TL.j z z (TL.en (TC.cB z hh (fun h294 hh=> ?_) (fun h294 hh=> ?_))))))))))))
    ·refine TC.region (TL.l z z (TL.w z (fieldLoc z fo62_0 z) (TL.w z (loadLoc z ag3 z (i:=8) z z) (TL.i z z (TL.w z (mulW z z z) (TL.i z z (TL.w z (addW z z z) (TL.w z (fieldLoc z fo62_1 z) (TL.w z (loadLoc z ag9 z (i:=8) z z) (TL.w z (buildL z pl62 ze62 z) (TL.front 7 z z (TL.front 7 z z (TL.front 7 z z (TL.front 7 z z ?_))))))))))))))
     obtain ⟨v90,u90,hh⟩:=bnd_e hh
     refine TL.op z (OpOk.call (Ha_ u90) z z pf53 z z z z ?_)
     rintro _ _ _ hle295 ⟨a295_1,c295_2,a295_3,c295_4,a295_5,c295_6,rfl,rfl,rfl⟩
     exact TL.nil (B.n (S.n (cf ((v90.f.states,v90.f.starts,v90.f.ends,v90.f.arcs,v90.over),(a295_1,c295_2,a295_3,c295_4,a295_5,c295_6)) hh (Sub.f [8,4,4,4,4,8,8,8,8] 9))))
    exact TC.skip (B.n (S.n (cf ((i261,l263,l267,l271,t274),(a264,c265,a268,c269,a272,c273)) hh (Sub.f [8,8,8,8,8,8,8,8,8] 9))))
   skip
   obtain ⟨⟨i280,l282,l286,l290,t293⟩,⟨a283,c284,a287,c288,a291,c292⟩⟩:=g
   have hh:=hg;clear hg
   try dsimp only
   dsimp only [Ev_]at hh
   refine TC.isSl (i:=5) z (fun _ hb299 _=> ?_)
   refine TC.isSl (i:=6) z (fun _ hb300 _=> ?_)
   refine TC.isSl (i:=7) z (fun _ hb301 _=> ?_)
   refine TC.region (TL.w z (OpVal.succ z z z (by omega)) (TL.i z z (TL.en ?_)))
   obtain ⟨hh,hlt302⟩:=nxt_x hR2 hh
   exact lf ((i280,l282,l286,l290,t293,(k275+1)),(a283,c284,a287,c288,a291,c292)) hlt302 hh (Sub.f [8,8,8,8,8,8,8,8,8] 9)
  refine TC.exit (S.x (S.x ?_))
  replace hh:=fin_x hR2 hh
  refine TC.exitHere (B.n (S.n (TC.region (TL.w z (OpVal.succ z z z (by omega)) (TL.i z z (TL.en ?_))))))
  obtain ⟨hh,hlt303⟩:=nxt_x hR1 hh
  exact lf ((i261,l263,l267,l271,t274,(k224+1)),(a264,c265,a268,c269,a272,c273)) hlt303 hh (Sub.f [7,7,7,7,7,7,7,7] 8)
 refine TC.exit (S.x (S.x ?_))
 replace hh:=fin_x hR1 hh
 refine TC.exitHere (S.n (TC.seq (TC.a (TL.w z (fieldLoc z fo25_3 z) (TL.w z (loadLoc z ag23 z (i:=0) z z) (TL.w z (lenC z underlying23 z) (TL.i z z (TL.en (TC.block (TC.loopG (α:=(Int×(List Tip)×(List Tip)×(List Arc)×Bool×Nat)×((Option Addr)×Nat×(Option Addr)×Nat×(Option Addr)×Nat)) (rgs [(15,3),(19,1),(98,50)]) (fun g=>[(98,.int .i64 ((g.1.2.2.2.2.2:Nat):Int))]) (fun g=>[Res.cells b103 #[.slice a1_0 x1.cls.length c1_0,.slice a1_1 x1.next.length c1_1,.slice a1_2 x1.fin.length c1_2] 31,Res.cells b105 #[.int .i64 0,.slice none 0 0,.slice none 0 0,.slice none 0 0] 25,Res.cells b107 #[.int .i64 0] 32,Res.cells b111 #[.int .i64 g.1.1,.slice g.2.1 g.1.2.1.length g.2.2.1,.slice g.2.2.2.1 g.1.2.2.1.length g.2.2.2.2.1,.slice g.2.2.2.2.2.1 g.1.2.2.2.1.length g.2.2.2.2.2.2,.bool g.1.2.2.2.2.1] 114,Res.rowS 62 2 encTip (.slice g.2.1 g.1.2.1.length g.2.2.1) g.1.2.1,Res.rowS 62 2 encTip (.slice g.2.2.2.1 g.1.2.2.1.length g.2.2.2.2.1) g.1.2.2.1,Res.rowS 59 8 encArc (.slice g.2.2.2.2.2.1 g.1.2.2.2.1.length g.2.2.2.2.2.2) g.1.2.2.2.1]) (fun g=>σ) (fun g=>iter (fun q:Int×(List Tip)×(List Tip)×(List Arc)×Bool×Nat=>Bp_ x0 x1 q.1 q.2.1 q.2.2.1 q.2.2.2.1 q.2.2.2.2.1 q.2.2.2.2.2) g.1=some r) (fun g=>rounds (fun q:Int×(List Tip)×(List Tip)×(List Arc)×Bool×Nat=>Bp_ x0 x1 q.1 q.2.1 q.2.2.1 q.2.2.2.1 q.2.2.2.2.1 q.2.2.2.2.2) g.1) ((i210,l212,l216,l220,t223,0),(a213,c214,a217,c218,a221,c222)) (Sub.f [7,7,7,7,7,7,7] 7) z (by repeat (first|exact trivial|refine ⟨z,?_⟩)) hh (fun g4 j4 hg4=> ?_)))))))))))
 obtain ⟨⟨i334,l336,l340,l344,t347,k348⟩,⟨a337,c338,a341,c342,a345,c346⟩⟩:=g4
 have hh:=hg4;clear hg4
 try dsimp only
 obtain ⟨z1,hh,hR1⟩:=iter_e hh
 dsimp only [Bp_]at hh
 refine TC.isSl (i:=4) z (fun _ hb349 _=> ?_)
 refine TC.isSl (i:=5) z (fun _ hb350 _=> ?_)
 refine TC.isSl (i:=6) z (fun _ hb351 _=> ?_)
 refine TC.a (TL.w z (OpVal.lss z z z) (TL.en (TC.seq (TC.cD z hh (fun h352 hh=> ?_) (fun h352 hh=> ?_)))))
 ·refine TC.skip (S.n (TC.seq (TC.block (TC.a (TL.w z (indexN z underlying23 sz59 z z f0_2.rv.sl (by omega)) (TL.w z (loadSA Arc.zero z ag59 sz59 z f0_2 (by omega) (by omega)) (TL.op z (OpOk.alloc z ze59 z z (fun b353=> ?_)))))))))
  refine TL.op z (storeAll z sz59 z z z z z z ?_)
  refine TL.en (TC.a (TL.i z z (TL.i z z (TL.en (TC.block (TC.loopG (α:=(Int×(List Tip)×(List Tip)×(List Arc)×Bool×Nat)×((Option Addr)×Nat×(Option Addr)×Nat×(Option Addr)×Nat)) (rgs [(16,2),(19,1),(103,44)]) (fun g=>[(103,.int .i64 ((g.1.2.2.2.2.2:Nat):Int))]) (fun g=>[Res.cells b103 #[.slice a1_0 x1.cls.length c1_0,.slice a1_1 x1.next.length c1_1,.slice a1_2 x1.fin.length c1_2] 31,Res.cells b105 #[.int .i64 0,.slice none 0 0,.slice none 0 0,.slice none 0 0] 25,Res.cells b107 #[.int .i64 0] 32,Res.cells b111 #[.int .i64 g.1.1,.slice g.2.1 g.1.2.1.length g.2.2.1,.slice g.2.2.2.1 g.1.2.2.1.length g.2.2.2.2.1,.slice g.2.2.2.2.2.1 g.1.2.2.2.1.length g.2.2.2.2.2.2,.bool g.1.2.2.2.2.1] 114,Res.rowS 62 2 encTip (.slice g.2.1 g.1.2.1.length g.2.2.1) g.1.2.1,Res.rowS 62 2 encTip (.slice g.2.2.2.1 g.1.2.2.1.length g.2.2.2.2.1) g.1.2.2.1,Res.rowS 59 8 encArc (.slice g.2.2.2.2.2.1 g.1.2.2.2.1.length g.2.2.2.2.2.2) g.1.2.2.2.1,Res.cells b353 #[.int .i64 ((nth x0.arcs k348 Arc.zero).frm),.int .i64 ((nth x0.arcs k348 Arc.zero).to),.int .u64 ((((nth x0.arcs k348 Arc.zero).set).a:Nat):Int),.int .u64 ((((nth x0.arcs k348 Arc.zero).set).b:Nat):Int),.int .u64 ((((nth x0.arcs k348 Arc.zero).set).c:Nat):Int),.int .u64 ((((nth x0.arcs k348 Arc.zero).set).d:Nat):Int),.string (bs ((nth x0.arcs k348 Arc.zero).out)),.bool ((nth x0.arcs k348 Arc.zero).copy)] 59]) (fun g=>σ) (fun g=>iter (fun q:Int×(List Tip)×(List Tip)×(List Arc)×Bool×Nat=>Bq_ x1 x0 k348 q.1 q.2.1 q.2.2.1 q.2.2.2.1 q.2.2.2.2.1 q.2.2.2.2.2) g.1=some z1) (fun g=>rounds (fun q:Int×(List Tip)×(List Tip)×(List Arc)×Bool×Nat=>Bq_ x1 x0 k348 q.1 q.2.1 q.2.2.1 q.2.2.2.1 q.2.2.2.2.1 q.2.2.2.2.2) g.1) ((i334,l336,l340,l344,t347,0),(a337,c338,a341,c342,a345,c346)) (Sub.f [7,7,7,7,7,7,7] 8) z (by repeat (first|exact trivial|refine ⟨z,?_⟩)) hh (fun g5 j5 hg5=> ?_)))))))
  obtain ⟨⟨i385,l387,l391,l395,t398,k399⟩,⟨a388,c389,a392,c393,a396,c397⟩⟩:=g5
  have hh:=hg5;clear hg5
  try dsimp only
  obtain ⟨z2,hh,hR2⟩:=iter_e hh
  dsimp only [Bq_]at hh
  refine TC.isSl (i:=4) z (fun _ hb400 _=> ?_)
  refine TC.isSl (i:=5) z (fun _ hb401 _=> ?_)
  refine TC.isSl (i:=6) z (fun _ hb402 _=> ?_)
  refine TC.a (TL.w z (OpVal.lss z z z) (TL.en (TC.seq (TC.cD z hh (fun h403 hh=> ?_) (fun h403 hh=> ?_)))))
  ·refine TC.skip (S.n (TC.seq (TC.block (TC.a (TL.i z z (TL.i z z (TL.en (TC.a (TL.w z (loadAll z ag31 sz31 z (i:=0) z z) (TL.i z z (TL.w z (fieldLoc z fo59_2 z) (TL.w z (loadLocA z ag57 sz57 z (i:=7) z z z) ?_))))))))))))
   obtain ⟨v113,u113,hh⟩:=bnd_e hh
   refine TL.op z (OpOk.call (I4_ f1_0 f1_1 f1_2 u113) z z pf54 z z z z ?_)
   rintro _ _ _ hle404 ⟨b404_1,rfl,rfl,rfl⟩
   refine TL.w z (moveMap (.inr z) z) (TL.en (TC.seq (TC.a (TL.w z (moveMap (.inl z) z) (TL.op z (OpOk.call (Con.keysI layK z z z _) z z pf56 z z z z ?_))))))
   rintro _ _ _ _ ⟨bm406,rfl,rfl,rfl⟩
   have u117:=grd_c hh
   replace hh:=grd_t hh
   refine TL.front 1 z z (TL.front 1 z z (TL.op z (OpOk.call (Con.sortedO layK1 layK6 layInt z z z z (enters_of Tryz.func87 (by kernel_rfl) z) (layK1.f10.enters z) u117.1 u117.2) z z pf55 z z z z ?_)))
   rintro _ _ _ _ ⟨a408,c409,rfl,rfl,rfl⟩
   refine TL.w z (lenC z underlying27 z) (TL.i z z (TL.en (TC.block (TC.loopG (α:=(Int×(List Tip)×(List Tip)×(List Arc)×Bool×Nat)×((Option Addr)×Nat×(Option Addr)×Nat×(Option Addr)×Nat)) (rgs [(19,1),(115,27)]) (fun g=>[(115,.int .i64 ((g.1.2.2.2.2.2:Nat):Int))]) (fun g=>[Res.cells b103 #[.slice a1_0 x1.cls.length c1_0,.slice a1_1 x1.next.length c1_1,.slice a1_2 x1.fin.length c1_2] 31,Res.cells b105 #[.int .i64 0,.slice none 0 0,.slice none 0 0,.slice none 0 0] 25,Res.cells b107 #[.int .i64 0] 32,Res.cells b111 #[.int .i64 g.1.1,.slice g.2.1 g.1.2.1.length g.2.2.1,.slice g.2.2.2.1 g.1.2.2.1.length g.2.2.2.2.1,.slice g.2.2.2.2.2.1 g.1.2.2.2.1.length g.2.2.2.2.2.2,.bool g.1.2.2.2.2.1] 114,Res.rowS 62 2 encTip (.slice g.2.1 g.1.2.1.length g.2.2.1) g.1.2.1,Res.rowS 62 2 encTip (.slice g.2.2.2.1 g.1.2.2.1.length g.2.2.2.2.1) g.1.2.2.1,Res.rowS 59 8 encArc (.slice g.2.2.2.2.2.1 g.1.2.2.2.1.length g.2.2.2.2.2.2) g.1.2.2.2.1,Res.cells b353 #[.int .i64 ((nth x0.arcs k348 Arc.zero).frm),.int .i64 ((nth x0.arcs k348 Arc.zero).to),.int .u64 ((((nth x0.arcs k348 Arc.zero).set).a:Nat):Int),.int .u64 ((((nth x0.arcs k348 Arc.zero).set).b:Nat):Int),.int .u64 ((((nth x0.arcs k348 Arc.zero).set).c:Nat):Int),.int .u64 ((((nth x0.arcs k348 Arc.zero).set).d:Nat):Int),.string (bs ((nth x0.arcs k348 Arc.zero).out)),.bool ((nth x0.arcs k348 Arc.zero).copy)] 59,Res.mapB keyI setV b404_1 v113,Res.rowS 3 1 eI_ (.slice a408 (skeys v113).length c409) (skeys v113)]) (fun g=>σ) (fun g=>iter (fun q:Int×(List Tip)×(List Tip)×(List Arc)×Bool×Nat=>Bo_ v113 x0 k348 x1 k399 q.1 q.2.1 q.2.2.1 q.2.2.2.1 q.2.2.2.2.1 q.2.2.2.2.2) g.1=some z2) (fun g=>rounds (fun q:Int×(List Tip)×(List Tip)×(List Arc)×Bool×Nat=>Bo_ v113 x0 k348 x1 k399 q.1 q.2.1 q.2.2.1 q.2.2.2.1 q.2.2.2.2.1 q.2.2.2.2.2) g.1) ((i385,l387,l391,l395,t398,0),(a388,c389,a392,c393,a396,c397)) (Sub.f [2,10,10,10,10,10,10,10,10] 10) z (by repeat (first|exact trivial|refine ⟨z,?_⟩)) hh (fun g6 j6 hg6=> ?_)))))
   obtain ⟨⟨i441,l443,l447,l451,t454,k455⟩,⟨a444,c445,a448,c449,a452,c453⟩⟩:=g6
   have hh:=hg6;clear hg6
   try dsimp only
   obtain ⟨z3,hh,hR3⟩:=iter_e hh
   dsimp only [Bo_]at hh
   refine TC.isSl (i:=4) z (fun _ hb456 _=> ?_)
   refine TC.isSl (i:=5) z (fun _ hb457 _=> ?_)
   refine TC.isSl (i:=6) z (fun _ hb458 _=> ?_)
   refine TC.isSl (i:=9) z (fun _ hb459 _=> ?_)
   refine TC.a (TL.w z (OpVal.lss z z z) (TL.en (TC.seq (TC.cD z hh (fun h460 hh=> ?_) (fun h460 hh=> ?_)))))
   ·refine TC.skip (S.n (TC.seq (TC.block (TC.a (TL.isSl (i:=9) z (fun hs461 _ _=> ?_))))))
    refine TL.w z (indexN z underlying27 sz3 z z hs461 (by omega)) (TL.w z (loadO1 (0:Int) z ag3 z (q:=9) z eIl_ (by omega) z) (TL.i z z (TL.en (TC.region (TL.l z z (TL.w z (fieldLoc z fo59_0 z) (TL.w z (loadLoc z ag3 z (i:=7) z z) (TL.i z z (TL.w z (mulW z z z) (TL.i z z (TL.w z (addW z z z) (TL.w z (fieldLoc z fo59_1 z) (TL.w z (loadLoc z ag3 z (i:=7) z z) (TL.i z z (TL.w z (mulW z z z) ?_)))))))))))))))
    refine TL.i z z (TL.w z (addW z z z) (TL.w z (moveMap (.inl z) z) (TL.i z z (TL.w z (OpVal.of (lookB1 BSet.zero (q:=(nth (skeys v113) k455 (0:Int))) z underlying119 ze57 z (i:=8) z z (keyL_int underlying3)) (v':=setV (v113.get (nth (skeys v113) k455 (0:Int)) BSet.zero)) z) (TL.w z (fieldLoc z fo59_3 z) (TL.w z (loadLoc z ag9 z (i:=7) z z) (TL.w z (fieldLoc z fo59_4 z) (TL.w z (loadLoc z ag4 z (i:=7) z z) (TL.w z (buildL z pl59 ze59 z) (TL.front 6 z z (TL.front 6 z z (TL.front 6 z z (TL.front 6 z z ?_)))))))))))))
    obtain ⟨v145,u145,hh⟩:=bnd_e hh
    refine TL.op z (OpOk.call (Hi_ u145) z z pf57 z z z z ?_)
    rintro _ _ _ hle462 ⟨a462_1,c462_2,a462_3,c462_4,a462_5,c462_6,rfl,rfl,rfl⟩
    refine TL.nil (B.n (S.n (TC.region (TL.w z (OpVal.succ z z z (by omega)) (TL.i z z (TL.en ?_))))))
    obtain ⟨hh,hlt466⟩:=nxt_x hR3 hh
    exact lf ((v145.f.states,v145.f.starts,v145.f.ends,v145.f.arcs,v145.over,(k455+1)),(a462_1,c462_2,a462_3,c462_4,a462_5,c462_6)) hlt466 hh (Sub.f [9,9,9,6,6,6,6,9,9,9] 10)
   refine TC.exit (S.x (S.x ?_))
   replace hh:=fin_x hR3 hh
   refine TC.exitHere (S.n (TC.a (TL.l z z (TL.w z (nilCheckLoc z z) (TL.w z (fieldLoc z fo114_1 z) (TL.w z (loadLoc z ag4 z (i:=3) z z) (TL.en (TC.cB z hh (fun h467 hh=> ?_) (fun h467 hh=> ?_)))))))))
   ·refine TC.front 2 z z (TC.front 2 z z (TC.front 6 z z (TC.front 6 z z (TC.front 6 z z (TC.front 6 z z ?_)))))
    obtain ⟨v195,u195,hh⟩:=bnd_e hh
    refine TC.ret (B.r (S.r (S.r ?_)))
    replace hh:=fin_x hR2 hh
    refine B.r (B.r (S.r (S.r ?_)))
    replace hh:=fin_x hR1 hh
    refine B.r (S.r (⟨.inl z,_,Sub.pre 6 z,(Dl_ u195).mono ?_⟩))
    rintro _ τ468 _ hle468 ⟨a468_1,c468_2,a468_4,c468_5,a468_7,c468_8,rfl,f468_3,f468_6,f468_9,rfl⟩
    have f468_3b:=f468_3.rv.big
    have f468_6b:=f468_6.rv.big
    have f468_9b:=f468_9.rv.big
    obtain rfl:=so hh
    exact RetOk.mk' (rs:=[.cell 4 25,.cell 5 32]) [] z (.inl z) (RVs.agg ag25 sz25 z (i:=0) z z (RVs.one ag32 z (i:=1) z z RVs.nil)) (List.nil_sublist _) ⟨a468_1,c468_2,a468_4,c468_5,a468_7,c468_8,z,f468_3,f468_6,f468_9,z⟩
   refine TC.skip (B.n (S.n (TC.region (TL.w z (OpVal.succ z z z (by omega)) (TL.i z z (TL.en ?_))))))
   obtain ⟨hh,hlt472⟩:=nxt_x hR2 hh
   exact lf ((i441,l443,l447,l451,t454,(k399+1)),(a444,c445,a448,c449,a452,c453)) hlt472 hh (Sub.f [7,7,7,7,7,7,7,7] 8)
  refine TC.exit (S.x (S.x ?_))
  replace hh:=fin_x hR2 hh
  refine TC.exitHere (B.n (S.n (TC.region (TL.w z (OpVal.succ z z z (by omega)) (TL.i z z (TL.en ?_))))))
  obtain ⟨hh,hlt473⟩:=nxt_x hR1 hh
  exact lf ((i385,l387,l391,l395,t398,(k348+1)),(a388,c389,a392,c393,a396,c397)) hlt473 hh (Sub.f [6,6,6,6,6,6,6] 7)
 refine TC.exit (S.x (S.x ?_))
 replace hh:=fin_x hR1 hh
 refine TC.exitHere (S.n (TC.front 2 z z (TC.front 2 z z (TC.front 6 z z (TC.front 6 z z (TC.front 6 z z (TC.front 6 z z ?_)))))))
 obtain ⟨v196,u196,hh⟩:=bnd_e hh
 refine TC.ret (⟨.inl z,_,Sub.pre 6 z,(Dl_ u196).mono ?_⟩)
 rintro _ τ474 _ hle474 ⟨a474_1,c474_2,a474_4,c474_5,a474_7,c474_8,rfl,f474_3,f474_6,f474_9,rfl⟩
 have f474_3b:=f474_3.rv.big
 have f474_6b:=f474_6.rv.big
 have f474_9b:=f474_9.rv.big
 obtain rfl:=so hh
 exact RetOk.mk' (rs:=[.cell 4 25,.cell 5 32]) [] z (.inl z) (RVs.agg ag25 sz25 z (i:=0) z z (RVs.one ag32 z (i:=1) z z RVs.nil)) (List.nil_sublist _) ⟨a474_1,c474_2,a474_4,c474_5,a474_7,c474_8,z,f474_3,f474_6,f474_9,z⟩
end Go.Proofs.YtnpbfjdpglfdkaaGreatDoor
end
