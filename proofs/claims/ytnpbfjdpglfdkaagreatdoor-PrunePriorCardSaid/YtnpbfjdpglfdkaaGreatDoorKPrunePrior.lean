/- PrunePrior: for every input the law returns true, and each argument reads afterwards as it read before. No condition of ours. -/
import Derived.Test.YtnpbfjdpglfdkaaGreatDoorBdb19d5a1f3
import Derived.Test.YtnpbfjdpglfdkaaGreatDoorBfd8fec568e
import Derived.Test.YtnpbfjdpglfdkaaGreatDoorBc95ef941db
import Derived.Test.YtnpbfjdpglfdkaaGreatDoorBe6610c1357
import Derived.Test.YtnpbfjdpglfdkaaGreatDoorB3a10e58b4e
import Derived.LaidMore
import Derived.OpenShut
import Derived.MakeChecks
import Derived.Test.YtnpbfjdpglfdkaaGreatDoorRows
import Derived.WalkKit
import Derived.ProofKit
import Derived.ShutString
import Derived.ChangeOld
import Derived.SizedLaws
import Derived.Below
import Derived.Test.YtnpbfjdpglfdkaaGreatDoorTie
import Derived.Test.YtnpbfjdpglfdkaaGreatDoorCards
import Derived.SevenTiedAt
import Derived.Stop.Joined

set_option linter.unusedVariables false
set_option linter.unusedSimpArgs false
set_option linter.unusedSectionVars false
set_option maxRecDepth 100000
set_option maxHeartbeats 8000000

noncomputable section
namespace Go.Proofs.YtnpbfjdpglfdkaaGreatDoor
open Go Go.E
theorem lim_ok{t:Fst}{d:Dfa}(ht:FstOk t)(hd:rightD d=true)(h:GB (fLim t d))(hn:(fLim t d).states≤1024):FstOk (fLim t d):=by
  have h0:=ok0 hd
  refine ⟨Int.mul_nonneg ht.st0 (Int.natCast_nonneg _),hn,h.aN,h.sN,h.eN,fun x hx=>⟨?_,h.s x hx⟩,fun x hx=>⟨?_,h.e x hx⟩,fun x hx=> ?_⟩
  · obtain ⟨y,hy,rfl⟩:=mem_limS.1 hx
    have:=in_two (n:=((d.next.length:Nat):Int)) (y:=0) (ht.starts y hy).1 h0
    rw [Int.add_zero]at this;exact this
  · obtain ⟨y,hy,i,hi, -,rfl⟩:=mem_limE.1 hx
    exact in_two (ht.ends y hy).1 ⟨Int.natCast_nonneg i,by omega⟩
  have hl:=h.a x hx
  obtain ⟨y,hy,i,hi,j,hj,hz,rfl⟩:=mem_limA.1 hx
  have:=ht.arcs y hy
  exact ⟨in_two this.1 ⟨Int.natCast_nonneg i,by omega⟩,in_two this.2.1 ⟨Int.natCast_nonneg j,by omega⟩,hz,hl⟩
def lsetK(d:Dfa)(y:Int)(s:BSet)(k:Nat)(z:Int):BSet:=BSet.make fun b=>decide (b<k) && (s.has b && decide (dltN d y b=z))
structure StK (d:Dfa) (y:Int) (s:BSet) (k:Nat) (m:FM Int BSet):Prop where
  f: ∀z,m.f z=if lsetK d y s k z=BSet.zero then none else some (lsetK d y s k z)
  n:m.n≤k
theorem toU8_natL{k:Nat}(hk:k<256):(toU8 ((k:Nat):Int)).toNat=k:=by
  have:=toU8_val ((k:Nat):Int)
  rw [wrap_u8]at this;omega
theorem lsetK_all(d:Dfa)(y:Int)(s:BSet)(z:Int):lsetK d y s 256 z=lset d y s z:=by
  unfold lsetK lset
  exact BSet.make_congr fun b hb=>by rw [decide_eq_true hb,Bool.true_and]
theorem lsetK_zero(d:Dfa)(y:Int)(s:BSet)(z:Int):lsetK d y s 0 z=BSet.zero:=by
  unfold lsetK
  rw [←BSet.make_zero]
  exact BSet.make_congr fun b hb=>by rw [decide_eq_false (by omega),Bool.false_and]
theorem lsetK_same{d:Dfa}{y:Int}{s:BSet}{k:Nat}{z:Int}(h:s.has k=false∨dltN d y k≠z):lsetK d y s (k+1) z=lsetK d y s k z:=by
  unfold lsetK
  refine BSet.make_congr fun b hb=> ?_
  by_cases e:b=k
  · subst e
    rcases h with h|h
    · rw [h];simp
    rw [decide_eq_false h];simp
  by_cases e2:b<k
  · rw [decide_eq_true e2,decide_eq_true (show b<k+1 by omega)]
  rw [decide_eq_false e2,decide_eq_false (show ¬ b<k+1 by omega)]
theorem lsetK_put{d:Dfa}{y:Int}{s:BSet}{k:Nat}(hk:k<256)(h:s.has k=true):(BSet.make fun n=>(lsetK d y s k (dltN d y k)).has n || (BSet.ofL [toU8 ((k:Nat):Int)]).has n)=lsetK d y s (k+1) (dltN d y k):=by
  refine Iz_ fun n hn=> ?_
  unfold lsetK
  rw [BSet.make_has _ hn,BSet.make_has _ hn,BSet.make_has _ hn,of1' k hk hn]
  by_cases e:n=k
  · subst e;rw [h];simp
  rw [decide_eq_false e,Bool.or_false]
  by_cases e2:n<k
  · rw [decide_eq_true e2,decide_eq_true (show n<k+1 by omega)]
  rw [decide_eq_false e2,decide_eq_false (show ¬ n<k+1 by omega)]
theorem lsetK_ne{d:Dfa}{y:Int}{s:BSet}{k:Nat}(hk:k<256)(h:s.has k=true):lsetK d y s (k+1) (dltN d y k)≠BSet.zero:=fun e=>by
  have h1:(lsetK d y s (k+1) (dltN d y k)).has k=true:=by
    unfold lsetK;rw [BSet.make_has _ hk,h];simp
  rw [e,hasZ k hk]at h1;cases h1
theorem StK.get{d:Dfa}{y:Int}{s:BSet}{k:Nat}{m:FM Int BSet}(h:StK d y s k m)(z:Int):m.get z BSet.zero=lsetK d y s k z:=by
  unfold FM.get
  rw [h.f z]
  by_cases e:lsetK d y s k z=BSet.zero
  · rw [if_pos e,e];rfl
  rw [if_neg e];rfl
theorem StK.put{d:Dfa}{y:Int}{s:BSet}{k:Nat}{m:FM Int BSet}(h:StK d y s k m)(hk:k<256)(hs:s.has k=true):StK d y s (k+1) (m.put (dltN d y k) (lsetK d y s (k+1) (dltN d y k))):=by
  refine ⟨fun z=> ?_,?_⟩
  · show (if z=dltN d y k then _ else _)=_
    by_cases e:z=dltN d y k
    · subst e;rw [if_pos rfl,if_neg (lsetK_ne hk hs)]
    rw [if_neg e,h.f z,lsetK_same (.inr fun q=>e q.symm)]
  show (if (m.f (dltN d y k)).isSome then m.n else m.n+1)≤k+1
  have:=h.n
  split<;>omega
theorem steps_go{d:Dfa}(hd:rightD d=true){y:Int}(hy:okS d y)(s:BSet): ∃m,Go_ d y s=some m∧StK d y s 256 m:=by
  obtain ⟨c,hc1,hc2,hn1,hn2,hfl,hrow⟩:=right_parts hd
  have hcm:=(cnt_mem d.cls 0 c hc1).2
  unfold Go_
  obtain ⟨hy0,hy1⟩:=hy
  refine iter_up (step:=fun q:(FM Int BSet)×Nat=>Cb_ d s y q.1 q.2) (fun (m:FM Int BSet) k=>(m,k)) 256 (fun k m=>StK d y s k m) _ (fun k m hk hI=> ?_) (fun m hI=> ?_) (s0:=FM.emp) ⟨fun z=>by rw [if_pos (lsetK_zero d y s z)];rfl,Nat.le_refl _⟩
  · left
    show ∃m',Cb_ d s y m k=some (.inl (m',k+1))∧_
    unfold Cb_ Er_
    rw [iteO_dt (by omega),toU8_natL hk]
    by_cases h:s.has k=true
    · have hm:=hcm _ (nth_memD (l:=d.cls) (i:=k) (by omega) 0)
      have hr:=(hrow y.toNat (by omega)).1
      refine ⟨_,?_,hI.put hk h⟩
      rw [h,iteO_true,grd_mk ⟨hy0,hy1⟩,grd_mk ⟨hm.1,by omega⟩,grd_mk (by simp),any_eq,bnd_mk]
      show nxt (m.put (dltN d y k) _,k+1)=_
      rw [show m.get (nth (nth d.next y.toNat ([]:List Int)) ((nth d.cls k (0:Int)).toNat) (0:Int)) BSet.zero=lsetK d y s k (dltN d y k)from hI.get _,lsetK_put hk h];rfl
    simp only [Bool.not_eq_true]at h
    refine ⟨m,by rw [h,iteO_false];rfl,fun z=> ?_,by have:=hI.n;omega⟩
    rw [hI.f z,lsetK_same (.inl h)]
  refine ⟨m,?_,hI⟩
  show Cb_ d s y m 256=_
  unfold Cb_
  rw [iteO_df (by omega)];rfl
def limK(d:Dfa)(y:Int)(s:BSet):List Int:=((List.range d.next.length).filter fun z=>decide (lset d y s ((z:Nat):Int)≠BSet.zero)).map fun z:Nat=>((z:Nat):Int)
theorem Kn_{s:BSet}(h:s≠BSet.zero): ∃b:Nat,b<256∧s.has b=true:=by
  apply Decidable.byContradiction
  intro hc
  refine h (Iz_ fun n hn=> ?_)
  rw [hasZ n hn]
  cases e:s.has n
  · rfl
  exact absurd ⟨n,hn,e⟩ hc
theorem lset_in{d:Dfa}(hd:rightD d=true){y:Int}(hy:okS d y){s:BSet}{z:Int}(h:lset d y s z≠BSet.zero):okS d z:=by
  obtain ⟨b,hb,h1⟩:=Kn_ h
  have e:(UInt8.ofNat b).toNat=b:=by rw [UInt8.toNat_ofNat'];omega
  have h2:(lset d y s z).has (UInt8.ofNat b).toNat=true:=by rw [e];exact h1
  obtain ⟨-,h3⟩:=lset_has.1 h2
  rw [←h3];exact (dlt_ok hd hy _).nx
theorem skeys_lim{d:Dfa}(hd:rightD d=true){y:Int}(hy:okS d y){s:BSet}{m:FM Int BSet}(hm:StK d y s 256 m):skeys m=limK d y s:=by
  refine skeys_of ?_ fun k=> ?_
  · unfold limK
    rw [List.pairwise_map]
    exact (List.Pairwise.filter _ List.pairwise_lt_range).imp fun {a b} h=>by omega
  unfold limK
  rw [List.mem_map,hm.f k,lsetK_all]
  constructor
  · rintro ⟨z,hz,rfl⟩
    have:=of_decide_eq_true (List.mem_filter.1 hz).2
    rw [if_neg this];exact fun h=>by cases h
  intro h
  by_cases e:lset d y s k=BSet.zero
  · rw [if_pos e]at h;exact absurd rfl h
  obtain ⟨j,rfl,hj⟩:=okS_nat (lset_in hd hy e)
  exact ⟨j,List.mem_filter.2 ⟨List.mem_range.2 hj,decide_eq_true e⟩,rfl⟩
theorem keys_in{d:Dfa}(hd:rightD d=true){y:Int}(hy:okS d y){s:BSet}{m:FM Int BSet}(hm:StK d y s 256 m):KeysIn m∧m.n≤1000000:=by
  refine ⟨fun k hk=> ?_,by have:=hm.n;omega⟩
  rw [hm.f k,lsetK_all]at hk
  have h:okS d k:=by
    by_cases e:lset d y s k=BSet.zero
    · rw [if_pos e]at hk;exact absurd rfl hk
    exact lset_in hd hy e
  obtain ⟨m, -, -, -,hn2, -⟩:=right_parts hd
  obtain ⟨h0,h1⟩:=h
  show (decide (IntKind.i64.min≤k) && decide (k≤IntKind.i64.max))=true
  rw [show IntKind.i64.min= -9223372036854775808 from by decide,show IntKind.i64.max=9223372036854775807 from by decide,decide_eq_true (by omega),decide_eq_true (by omega)];rfl
def zArc(d:Dfa)(x:Arc)(y:Nat)(z:Int):Arc:=⟨x.frm * ((d.next.length:Nat):Int)+((y:Nat):Int),x.to * ((d.next.length:Nat):Int)+z,lset d ((y:Nat):Int) x.set z,x.out,x.copy⟩
theorem limZ_map(d:Dfa)(x:Arc)(y:Nat):limZ d x y=(limK d ((y:Nat):Int) x.set).map (zArc d x y):=by
  unfold limZ limK
  rw [List.map_map];rfl
theorem limY_snoc(d:Dfa)(x:Arc)(k:Nat):limY d x (k+1)=limY d x k++limZ d x k:=by
  unfold limY
  rw [List.range_succ,List.flatMap_append];simp
theorem limA_snoc(d:Dfa)(l:List Arc){k:Nat}(h:k<l.length):limA d (l.take (k+1))=limA d (l.take k)++limY d (nth l k Arc.zero) d.next.length:=by
  rw [take_snoc l h Arc.zero];unfold limA;rw [List.flatMap_append];simp
theorem limS_snoc(n:Nat)(l:List Tip){k:Nat}(h:k<l.length):limS n (l.take (k+1))=limS n (l.take k)++[⟨(nth l k Tip.zero).state * ((n:Nat):Int),(nth l k Tip.zero).out⟩]:=by
  rw [take_snoc l h Tip.zero];unfold limS;rw [List.map_append];rfl
def limEk(d:Dfa)(x:Tip)(k:Nat):List Tip:=((List.range k).filter fun y=>nth d.fin y false).map fun y=>⟨x.state * ((d.next.length:Nat):Int)+((y:Nat):Int),x.out⟩
theorem limEk_snoc(d:Dfa)(x:Tip)(k:Nat):limEk d x (k+1)=limEk d x k++(if nth d.fin k false=true then [⟨x.state * ((d.next.length:Nat):Int)+((k:Nat):Int),x.out⟩] else []):=by
  unfold limEk
  rw [List.range_succ,List.filter_append,List.map_append]
  congr 1
  cases h:nth d.fin k false<;>simp [h]
theorem limE_snoc(d:Dfa)(l:List Tip){k:Nat}(h:k<l.length):limE d (l.take (k+1))=limE d (l.take k)++limEk d (nth l k Tip.zero) d.next.length:=by
  rw [take_snoc l h Tip.zero];unfold limE;rw [List.flatMap_append];simp [limE1,limEk]
section
variable {t:Fst} {d:Dfa} (ht:FstOk t) (hd:rightD d=true) (hN:t.states * ((d.next.length:Nat):Int)≤1024)
include ht hd hN
theorem lim_b6{i y:Nat}(hi:i<t.arcs.length)(hy:y<d.next.length){m:FM Int BSet}(hm:StK d ((y:Nat):Int) (nth t.arcs i Arc.zero).set 256 m){g:Grow}{F:Fst}(hg:Gr g F):
    ∃r,iter (fun q:Int×(List Tip)×(List Tip)×(List Arc)×Bool×Nat=>Bo_ m t i d y q.1 q.2.1 q.2.2.1 q.2.2.2.1 q.2.2.2.2.1 q.2.2.2.2.2) (g.f.states,g.f.starts,g.f.ends,g.f.arcs,g.over,0)=some r∧
      ((∃g':Grow,r= .inl (g'.f.states,g'.f.starts,g'.f.ends,g'.f.arcs,g'.over,y+1)∧Gr g' (pA F (limZ d (nth t.arcs i Arc.zero) y)))∨r= .inr (.inr (⟨0,[],[],[]⟩,2))):=by
  have hyS:okS d ((y:Nat):Int):=⟨Int.natCast_nonneg y,by omega⟩
  have hk:=skeys_lim hd hyS hm
  have hx:=ht.arcs _ (nth_mem' hi Arc.zero)
  obtain ⟨x,hxe⟩: ∃x,nth t.arcs i Arc.zero=x:=⟨_,rfl⟩
  rw [hxe]at hm hk hx ⊢
  rw [limZ_map]
  refine iter_up (step:=fun q:Int×(List Tip)×(List Tip)×(List Arc)×Bool×Nat=>Bo_ m t i d y q.1 q.2.1 q.2.2.1 q.2.2.2.1 q.2.2.2.2.1 q.2.2.2.2.2) (fun (s:Grow) k=>(s.f.states,s.f.starts,s.f.ends,s.f.arcs,s.over,k)) (limK d ((y:Nat):Int) x.set).length
    (fun k s=>Gr s (pA F (((limK d ((y:Nat):Int) x.set).take k).map (zArc d x y)))) _ (fun k s hk2 hI=> ?_) (fun s hI=> ?_) (s0:=g) (by simpa [pA_nil]using hg)
  · have hz:=nth_mem' hk2 (0:Int)
    have hzS:okS d (nth (limK d ((y:Nat):Int) x.set) k (0:Int)):=by
      unfold limK at hz
      obtain ⟨j,hj,e⟩:=List.mem_map.1 hz
      have hj1:=List.mem_range.1 (List.mem_filter.1 hj).1
      unfold limK
      rw [←e];exact ⟨Int.natCast_nonneg j,by omega⟩
    have r1:=in_two hx.1 hyS
    have r2:=in_two hx.2.1 hzS
    have r3:=in_two (n:=((d.next.length:Nat):Int)) (y:=0) hx.1 ⟨Int.le_refl _,by omega⟩
    have r4:=in_two (n:=((d.next.length:Nat):Int)) (y:=0) hx.2.1 ⟨Int.le_refl _,by omega⟩
    refine .inl ⟨growAr s (zArc d x y (nth (limK d ((y:Nat):Int) x.set) k 0)),?_,?_⟩
    · show Bo_ m t i d y s.f.states s.f.starts s.f.ends s.f.arcs s.over k=_
      unfold Bo_
      rw [hk,iteO_dt (by omega),hxe,arc_eq,bnd_mk,hm.get,lsetK_all,wr_ok (a:=x.frm * ((d.next.length:Nat):Int)) (by omega),wr_ok (a:=x.to * ((d.next.length:Nat):Int)) (by omega),wr_ok (by omega),wr_ok (by omega)];rfl
    rw [take_snoc _ hk2 (0:Int),List.map_append,List.map_singleton,pA_snoc];exact hI.ar _
  rw [List.take_length]at hI
  have hs:Bo_ m t i d y s.f.states s.f.starts s.f.ends s.f.arcs s.over (limK d ((y:Nat):Int) x.set).length=fin (iteO s.over (bnd (B1_ (⟨(⟨s.f.states,s.f.starts,s.f.ends,s.f.arcs⟩:Fst),s.over⟩:Grow)) (fun v195=>fin (fin (some ((⟨v195.1.states,v195.1.starts,v195.1.ends,v195.1.arcs⟩:Fst),v195.2))))) (nxt (s.f.states,s.f.starts,s.f.ends,s.f.arcs,s.over,(y+1)))):=by
    unfold Bo_
    rw [hk,iteO_df (by omega)]
  cases ho:s.over with
  |true=>
    rw [ho]at hs
    refine ⟨.inr (.inr (⟨0,[],[],[]⟩,2)),Eq.trans hs ?_,.inr rfl⟩
    rw [iteO_true,bnd_some (look_eq ⟨s.f,true⟩)];rfl
  |false=>
    rw [ho]at hs
    exact ⟨.inl (s.f.states,s.f.starts,s.f.ends,s.f.arcs,false,y+1),Eq.trans hs rfl,.inl ⟨s,by rw [ho],hI⟩⟩
theorem lim_b5{i:Nat}(hi:i<t.arcs.length){g:Grow}{F:Fst}(hg:Gr g F):
    ∃r,iter (fun q:Int×(List Tip)×(List Tip)×(List Arc)×Bool×Nat=>Bq_ d t i q.1 q.2.1 q.2.2.1 q.2.2.2.1 q.2.2.2.2.1 q.2.2.2.2.2) (g.f.states,g.f.starts,g.f.ends,g.f.arcs,g.over,0)=some r∧
      ((∃g':Grow,r= .inl (g'.f.states,g'.f.starts,g'.f.ends,g'.f.arcs,g'.over,i+1)∧Gr g' (pA F (limY d (nth t.arcs i Arc.zero) d.next.length)))∨r= .inr (⟨0,[],[],[]⟩,2)):=by
  refine iter_up (step:=fun q:Int×(List Tip)×(List Tip)×(List Arc)×Bool×Nat=>Bq_ d t i q.1 q.2.1 q.2.2.1 q.2.2.2.1 q.2.2.2.2.1 q.2.2.2.2.2) (fun (s:Grow) k=>(s.f.states,s.f.starts,s.f.ends,s.f.arcs,s.over,k)) d.next.length
    (fun k s=>Gr s (pA F (limY d (nth t.arcs i Arc.zero) k))) _ (fun k s hk hI=> ?_) (fun s hI=> ?_) (s0:=g) (by simpa [limY,pA_nil]using hg)
  · have hkS:okS d ((k:Nat):Int):=⟨Int.natCast_nonneg k,by omega⟩
    obtain ⟨m,e1,hm⟩:=steps_go hd hkS (nth t.arcs i Arc.zero).set
    obtain ⟨r,e2,h2⟩:=lim_b6 ht hd hN hi hk hm hI
    have hs:Bq_ d t i s.f.states s.f.starts s.f.ends s.f.arcs s.over k=some r:=by
      unfold Bq_
      rw [iteO_dt (by omega),bnd_some e1,grd_mk (keys_in hd hkS hm)]
      exact e2
    rcases h2 with ⟨g',rfl,hG⟩|rfl
    · refine .inl ⟨g',hs,?_⟩
      rw [limY_snoc,←pA_app];exact hG
    exact .inr ⟨_,hs,.inr rfl⟩
  refine ⟨_,?_,.inl ⟨s,rfl,hI⟩⟩
  show Bq_ d t i s.f.states s.f.starts s.f.ends s.f.arcs s.over d.next.length=_
  unfold Bq_
  rw [iteO_df (by omega)];rfl
theorem lim_b4{g:Grow}{F:Fst}(hg:Gr g F):
    ∃r,iter (fun q:Int×(List Tip)×(List Tip)×(List Arc)×Bool×Nat=>Bp_ t d q.1 q.2.1 q.2.2.1 q.2.2.2.1 q.2.2.2.2.1 q.2.2.2.2.2) (g.f.states,g.f.starts,g.f.ends,g.f.arcs,g.over,0)=some r∧GEnd (pA F (limA d t.arcs)) r:=by
  refine iter_up (step:=fun q:Int×(List Tip)×(List Tip)×(List Arc)×Bool×Nat=>Bp_ t d q.1 q.2.1 q.2.2.1 q.2.2.2.1 q.2.2.2.2.1 q.2.2.2.2.2) (fun (s:Grow) k=>(s.f.states,s.f.starts,s.f.ends,s.f.arcs,s.over,k)) t.arcs.length
    (fun k s=>Gr s (pA F (limA d (t.arcs.take k)))) _ (fun k s hk hI=> ?_) (fun s hI=> ?_) (s0:=g) (by simpa [limA,pA_nil]using hg)
  · obtain ⟨r,e2,h2⟩:=lim_b5 ht hd hN hk hI
    have hs:Bp_ t d s.f.states s.f.starts s.f.ends s.f.arcs s.over k=some r:=by
      unfold Bp_
      rw [iteO_dt (by omega)];exact e2
    rcases h2 with ⟨g',rfl,hG⟩|rfl
    · refine .inl ⟨g',hs,?_⟩
      rw [limA_snoc d t.arcs hk,←pA_app];exact hG
    exact .inr ⟨_,hs,.inl rfl⟩
  rw [List.take_length]at hI
  refine ⟨lookG s,?_,gend hI⟩
  show Bp_ t d s.f.states s.f.starts s.f.ends s.f.arcs s.over t.arcs.length=_
  unfold Bp_
  rw [iteO_df (by omega),bnd_some (look_eq s)];rfl
theorem lim_b3{i:Nat}(hi:i<t.ends.length){g:Grow}{F:Fst}(hg:Gr g F):
    ∃r,iter (fun q:Int×(List Tip)×(List Tip)×(List Arc)×Bool×Nat=>Bs_ d t i q.1 q.2.1 q.2.2.1 q.2.2.2.1 q.2.2.2.2.1 q.2.2.2.2.2) (g.f.states,g.f.starts,g.f.ends,g.f.arcs,g.over,0)=some r∧
      (∃g':Grow,r= .inl (g'.f.states,g'.f.starts,g'.f.ends,g'.f.arcs,g'.over,i+1)∧Gr g' (pE F (limEk d (nth t.ends i Tip.zero) d.next.length))):=by
  obtain ⟨c, -, -, -, -,hfl, -⟩:=right_parts hd
  have hx:=ht.ends _ (nth_mem' hi Tip.zero)
  obtain ⟨x,hxe⟩: ∃x,nth t.ends i Tip.zero=x:=⟨_,rfl⟩
  rw [hxe]at hx ⊢
  refine iter_up (step:=fun q:Int×(List Tip)×(List Tip)×(List Arc)×Bool×Nat=>Bs_ d t i q.1 q.2.1 q.2.2.1 q.2.2.2.1 q.2.2.2.2.1 q.2.2.2.2.2) (fun (s:Grow) k=>(s.f.states,s.f.starts,s.f.ends,s.f.arcs,s.over,k)) d.next.length
    (fun k s=>Gr s (pE F (limEk d x k))) _ (fun k s hk hI=> ?_) (fun s hI=> ?_) (s0:=g) (by simpa [limEk,pE_nil]using hg)
  · left
    have r1:=in_two hx.1 (show 0≤((k:Nat):Int)∧((k:Nat):Int)<((d.next.length:Nat):Int) by omega)
    have r3:=in_two (n:=((d.next.length:Nat):Int)) (y:=0) hx.1 ⟨Int.le_refl _,by omega⟩
    show ∃s',Bs_ d t i s.f.states s.f.starts s.f.ends s.f.arcs s.over k=_∧_
    unfold Bs_ Ev_
    rw [iteO_dt (by omega),hxe,limEk_snoc]
    cases h:nth d.fin k false with
    |true=>
      refine ⟨growEn s ⟨x.state * ((d.next.length:Nat):Int)+((k:Nat):Int),x.out⟩,?_,?_⟩
      · rw [iteO_true,end_eq,bnd_mk,wr_ok (a:=x.state * ((d.next.length:Nat):Int)) (by omega),wr_ok (by omega)];rfl
      rw [if_pos rfl,pE_snoc];exact hI.en _
    |false=>
      refine ⟨s,by rw [iteO_false];rfl,?_⟩
      rw [if_neg (by simp),List.append_nil];exact hI
  refine ⟨_,?_,s,rfl,hI⟩
  show Bs_ d t i s.f.states s.f.starts s.f.ends s.f.arcs s.over d.next.length=_
  unfold Bs_
  rw [iteO_df (by omega)];rfl
theorem lim_b2{g:Grow}{F:Fst}(hg:Gr g F):
    ∃r,iter (fun q:Int×(List Tip)×(List Tip)×(List Arc)×Bool×Nat=>Br_ t d q.1 q.2.1 q.2.2.1 q.2.2.2.1 q.2.2.2.2.1 q.2.2.2.2.2) (g.f.states,g.f.starts,g.f.ends,g.f.arcs,g.over,0)=some r∧GEnd (pA (pE F (limE d t.ends)) (limA d t.arcs)) r:=by
  refine iter_up (step:=fun q:Int×(List Tip)×(List Tip)×(List Arc)×Bool×Nat=>Br_ t d q.1 q.2.1 q.2.2.1 q.2.2.2.1 q.2.2.2.2.1 q.2.2.2.2.2) (fun (s:Grow) k=>(s.f.states,s.f.starts,s.f.ends,s.f.arcs,s.over,k)) t.ends.length
    (fun k s=>Gr s (pE F (limE d (t.ends.take k)))) _ (fun k s hk hI=> ?_) (fun s hI=> ?_) (s0:=g) (by simpa [limE,pE_nil]using hg)
  · obtain ⟨r,e2,g',rfl,hG⟩:=lim_b3 ht hd hN hk hI
    refine .inl ⟨g',?_,by rw [limE_snoc d t.ends hk,←pE_app];exact hG⟩
    show Br_ t d s.f.states s.f.starts s.f.ends s.f.arcs s.over k=_
    unfold Br_
    rw [iteO_dt (by omega)];exact e2
  rw [List.take_length]at hI
  obtain ⟨r,e2,h2⟩:=lim_b4 ht hd hN hI
  refine ⟨r,?_,h2⟩
  show Br_ t d s.f.states s.f.starts s.f.ends s.f.arcs s.over t.ends.length=_
  unfold Br_
  rw [iteO_df (by omega),e2];rfl
theorem lim_b1: ∃r,iter (fun q:Int×(List Tip)×(List Tip)×(List Arc)×Bool×Nat=>Bk_ t d q.1 q.2.1 q.2.2.1 q.2.2.2.1 q.2.2.2.2.1 q.2.2.2.2.2) (t.states * ((d.next.length:Nat):Int),[],[],[],false,0)=some r∧GEnd (fLim t d) r:=by
  refine iter_up (step:=fun q:Int×(List Tip)×(List Tip)×(List Arc)×Bool×Nat=>Bk_ t d q.1 q.2.1 q.2.2.1 q.2.2.2.1 q.2.2.2.2.1 q.2.2.2.2.2) (fun (s:Grow) k=>(s.f.states,s.f.starts,s.f.ends,s.f.arcs,s.over,k)) t.starts.length
    (fun k s=>Gr s (pS ⟨t.states * ((d.next.length:Nat):Int),[],[],[]⟩ (limS d.next.length (t.starts.take k)))) _ (fun k s hk hI=> ?_) (fun s hI=> ?_) (s0:=⟨⟨t.states * ((d.next.length:Nat):Int),[],[],[]⟩,false⟩) (by simpa [limS,pS_nil]using Gr.nil _)
  · have hx:=ht.starts _ (nth_mem' hk Tip.zero)
    have r3:=in_two (n:=((d.next.length:Nat):Int)) (y:=0) hx.1 (ok0 hd)
    refine .inl ⟨growSt s ⟨(nth t.starts k Tip.zero).state * ((d.next.length:Nat):Int),(nth t.starts k Tip.zero).out⟩,?_,?_⟩
    · show Bk_ t d s.f.states s.f.starts s.f.ends s.f.arcs s.over k=_
      unfold Bk_
      rw [iteO_dt (by omega),start_eq,bnd_mk,wr_ok (by omega)];rfl
    rw [limS_snoc _ t.starts hk,pS_snoc];exact hI.st _
  rw [List.take_length]at hI
  obtain ⟨r,e2,h2⟩:=lim_b2 ht hd hN hI
  refine ⟨r,?_,h2⟩
  show Bk_ t d s.f.states s.f.starts s.f.ends s.f.arcs s.over t.starts.length=_
  unfold Bk_
  rw [iteO_df (by omega),e2];rfl
end
theorem lim_go{t:Fst}{d:Dfa}(ht:FstOk t)(hd:rightD d=true): ∃r,Du_ t d=some r∧GEnd (fLim t d) r:=by
  obtain ⟨c, -, -,hn1,hn2, -, -⟩:=right_parts hd
  have h0:=ht.st0
  have h1:=ht.st1
  have p0:0≤t.states * ((d.next.length:Nat):Int):=Int.mul_nonneg h0 (Int.natCast_nonneg _)
  have p1:t.states * ((d.next.length:Nat):Int)≤1024 * ((d.next.length:Nat):Int):=Int.mul_le_mul_of_nonneg_right h1 (Int.natCast_nonneg _)
  unfold Du_
  rw [Be_,bnd_mk,errB_ne,(fstB_iff t).2 ht,Bool.not_true,iteO_false,dcheck_eq,bnd_mk,if_pos hd,iteO_df (by simp),wrap64_of (by omega) (by omega)]
  by_cases h:1024<t.states * ((d.next.length:Nat):Int)
  · rw [iteO_dt h,bnd_some (look_eq ⟨⟨t.states * ((d.next.length:Nat):Int),[],[],[]⟩,false⟩)]
    refine ⟨_,rfl,.inl ?_⟩
    unfold lookG
    rw [if_pos (.inr h)]
  rw [iteO_df h]
  exact lim_b1 ht hd (by omega)
theorem lim_any(t:Fst)(d:Dfa): ∃r,Du_ t d=some r∧FstOk r.1∧(r.2≠0∨FstOk t∧rightD d=true∧r=(fLim t d,0)∧FstOk (fLim t d)):=by
  by_cases h:fstB t=true
  · by_cases hd:rightD d=true
    · have ht:=(fstB_iff t).1 h
      obtain ⟨r,e,hr⟩:=lim_go ht hd
      refine ⟨r,e,?_⟩
      rcases hr with rfl|⟨rfl,h1,h2⟩
      · exact ⟨zF_ok,.inl (by decide)⟩
      exact ⟨lim_ok ht hd h1 h2,.inr ⟨ht,hd,rfl,lim_ok ht hd h1 h2⟩⟩
    refine ⟨(zF,1),?_,zF_ok,.inl (by decide)⟩
    unfold Du_
    rw [Be_,bnd_mk,errB_ne,h,Bool.not_true,iteO_false,dcheck_eq,bnd_mk,if_neg hd];rfl
  refine ⟨(zF,1),?_,zF_ok,.inl (by decide)⟩
  simp only [Bool.not_eq_true]at h
  unfold Du_
  rw [Be_,bnd_mk,errB_ne,h];rfl
end Go.Proofs.YtnpbfjdpglfdkaaGreatDoor
end

noncomputable section
namespace Go.Proofs.YtnpbfjdpglfdkaaGreatDoor
open Go Go.E
end Go.Proofs.YtnpbfjdpglfdkaaGreatDoor
end

noncomputable section
namespace Go.Proofs.YtnpbfjdpglfdkaaGreatDoor
open Go Go.E Go.E.OpVal Go.E.OpOk Go.Proofs.Tryz
theorem pf10:plainF Tryz.prog 10=true:=by kernel_rfl
theorem pf11:plainF Tryz.prog 11=true:=by kernel_rfl
theorem pf23:plainF Tryz.prog 23=true:=by kernel_rfl
theorem pf24:plainF Tryz.prog 24=true:=by kernel_rfl
theorem pf25:plainF Tryz.prog 25=true:=by kernel_rfl
theorem pf5:plainF Tryz.prog 5=true:=by kernel_rfl
theorem pf7:plainF Tryz.prog 7=true:=by kernel_rfl
theorem pf8:plainF Tryz.prog 8=true:=by kernel_rfl
def bools_Not_b1(x0:Dfa)(l134:List (List Int))(l140:List Bool)(k143:Nat):Option (((List (List Int))×(List Bool)×Nat)⊕(Dfa×Int)):=
 iteO (decide (((k143:Nat):Int)<((x0.next.length:Nat):Int))) (grd ((nth x0.next k143 ([]:List Int)).length * 8≤140737488355328) (grd ((l134.length+[(nth x0.next k143 ([]:List Int))].length) * 24≤140737488355328) (grd (k143<x0.fin.length) (grd ((l140.length+[(!(nth x0.fin k143 false))].length) * 1≤140737488355328) (nxt ((l134++[(nth x0.next k143 ([]:List Int))]),(l140++[(!(nth x0.fin k143 false))]),(k143+1))))))) (fin (some ((⟨x0.cls,l134,l140⟩:Dfa),0)))
def bools_Not(x0:Dfa):Option (Dfa×Int):=
 bnd (Cx_ x0) (fun v5=>iteO (decide (v5≠0)) (some ((⟨([]:List Int),([]:List (List Int)),([]:List Bool)⟩:Dfa),1)) (grd (x0.cls.length * 8≤140737488355328) (iter (fun q:(List (List Int))×(List Bool)×Nat=>bools_Not_b1 x0 q.1 q.2.1 q.2.2) (([]:List (List Int)),([]:List Bool),0))))
def bools_Not_P(σ:Store)(r:Dfa×Int):Value→Store→List Res→Prop:=fun v σ' H'=>
 ∃a1 c1 a2 c2 a3 c3,v= .tuple #[.agg #[.slice a1 r.1.cls.length c1,.slice a2 r.1.next.length c2,.slice a3 r.1.fin.length c3],.int .i64 r.2]∧RS σ' 1 eI_ (.slice a1 r.1.cls.length c1) r.1.cls∧RZ σ' (pkSl 1 eI_ eIl_) (.slice a2 r.1.next.length c2) r.1.next∧RS σ' 1 encB (.slice a3 r.1.fin.length c3) r.1.fin∧H'=[]
theorem bools_Not_con{σ:Store}{x0:Dfa}{a0_0:Option Addr}{c0_0:Nat}{a0_1:Option Addr}{c0_1:Nat}{a0_2:Option Addr}{c0_2:Nat}(f0_0:RS σ 1 eI_ (.slice a0_0 x0.cls.length c0_0) x0.cls)(f0_1:RZ σ (pkSl 1 eI_ eIl_) (.slice a0_1 x0.next.length c0_1) x0.next)(f0_2:RS σ 1 encB (.slice a0_2 x0.fin.length c0_2) x0.fin){r:Dfa×Int}(hh:bools_Not x0=some r):
  Con Tryz.prog 23 #[.agg #[.slice a0_0 x0.cls.length c0_0,.slice a0_1 x0.next.length c0_1,.slice a0_2 x0.fin.length c0_2]] σ [] (bools_Not_P σ r):=by
 dsimp only [bools_Not]at hh
 have f0_0b:=f0_0.rv.big
 have f0_1b:=f0_1.big
 have f0_2b:=f0_2.rv.big
 refine Con.mk (n:=43) Tryz.func23 z z z (fun w0=> ?_)
 refine TC.a (TL.op z (boxA z z z z (fun b101=> ?_)))
 refine TL.op z (OpOk.alloc z ze31 z z (fun b103=> ?_))
 refine TL.i z z (TL.en (TC.seq (TC.a (TL.w z (loadAll z ag31 sz31 z (i:=1) z z) ?_))))
 obtain ⟨v5,u5,hh⟩:=bnd_e hh
 refine TL.op z (callP (Fb_ (x0:=x0) f0_0 f0_1 f0_2 u5) z z pf37 z z z ?_)
 refine TL.w z (OpVal.neq z z z) (TL.en (TC.cD z hh (fun h105 hh=> ?_) (fun h105 hh=> ?_)))
 ·refine TC.a (TL.w z (buildL z pl31 ze31 z) (TL.op z (storeAll z sz31 z z z z z z ?_)))
  refine TL.i z z (TL.en (TC.rt 1 (S.r ?_)))
  obtain rfl:=so hh
  exact ro [] z (RVs.agg ag31 sz31 z (i:=0) z z (RVs.tmp z RVs.nil)) ⟨none,0,none,0,none,0,z,(RS.nilF _ eI_ eIl_),(RZ.nilF _ (pkSl 1 eI_ eIl_)),(RS.nilF _ encB encB_len),z⟩
 refine TC.skip (S.n (TC.a (TL.w z (fieldLoc z fo31_0 z) (TL.w z (loadLoc z ag27 z (i:=1) z z) ?_))))
 have u12:=grd_c hh
 replace hh:=grd_t hh
 refine TL.op z (OpOk.call (F0_ f0_0 u12) z z pf50 z z z z ?_)
 rintro _ σ _ _ ⟨⟨a106,c107,rfl⟩,rfl,rfl⟩
 refine TL.w z (buildL z pl31 ze31 z) (TL.op z (OpOk.alloc z ze31 z z (fun b109=> ?_)))
 refine TL.op z (storeAll z sz31 z z z z z z ?_)
 refine TL.en (TC.seq (TC.a (TL.w z (fieldLoc z fo31_1 z) (TL.w z (loadLoc z ag28 z (i:=3) z z) (TL.w z (lenC z underlying28 z) (TL.i z z (TL.en (TC.block (TC.nilS 27 1 (pkSl 1 eI_ eIl_).en ?_)))))))))
 have zf144:=ZOk.nil σ (pkSl 1 eI_ eIl_)
 refine TC.nilS 4 1 encB (TC.loopG (α:=((List (List Int))×(List Bool)×Nat)×((Option Addr)×Nat×(List (List Int×(pkSl 1 eI_ eIl_).P))×(Option Addr)×Nat×Store)) (rgs [(5,2),(18,24)]) (fun g=>[(18,.int .i64 ((g.1.2.2:Nat):Int))]) (fun g=>[Res.cells b101 #[.slice a0_0 x0.cls.length c0_0,.slice a0_1 x0.next.length c0_1,.slice a0_2 x0.fin.length c0_2] 31,Res.cells b103 #[.slice none 0 0,.slice none 0 0,.slice none 0 0] 31,Res.cells b109 #[.slice a106 x0.cls.length c107,.slice g.2.1 g.1.1.length g.2.2.1,.slice g.2.2.2.2.1 g.1.2.1.length g.2.2.2.2.2.1] 31,Res.rowS 3 1 eI_ (.slice a106 x0.cls.length c107) x0.cls,Res.rowS 27 1 (pkSl 1 eI_ eIl_).en (.slice g.2.1 g.1.1.length g.2.2.1) g.2.2.2.1,Res.rowS 4 1 encB (.slice g.2.2.2.2.1 g.1.2.1.length g.2.2.2.2.2.1) g.1.2.1]) (fun g=>g.2.2.2.2.2.2) (fun g=>iter (fun q:(List (List Int))×(List Bool)×Nat=>bools_Not_b1 x0 q.1 q.2.1 q.2.2) g.1=some r∧ZOk g.2.2.2.2.2.2 (pkSl 1 eI_ eIl_) g.2.2.2.1 g.1.1∧Store.le σ g.2.2.2.2.2.2) (fun g=>rounds (fun q:(List (List Int))×(List Bool)×Nat=>bools_Not_b1 x0 q.1 q.2.1 q.2.2) g.1) ((([]:List (List Int)),([]:List Bool),0),(none,0,[],none,0,σ)) (Sub.f [1,3,3,4,5] 6) z (by repeat (first|exact trivial|refine ⟨z,?_⟩)) ⟨hh,zf144,(Store.le.refl _)⟩ (fun g1 j1 hg1=> ?_))
 obtain ⟨⟨l134,l140,k143⟩,⟨a135,c136,z137,a141,c142,τ147⟩⟩:=g1
 obtain ⟨hh,zf138,hle148⟩:=hg1
 try dsimp only at zf138
 dsimp only at hle148
 replace f0_1:=f0_1.mono hle148
 replace f0_2:=f0_2.mono hle148
 try dsimp only
 have hhI:=hh
 clear hh
 obtain ⟨z1,hh,hR1⟩:=iter_e hhI
 dsimp only [bools_Not_b1]at hh
 have zf138b:=zf138.length
 refine TC.isSl (i:=3) z (fun _ hb149 _=> ?_)
 refine TC.isSl (i:=4) z (fun _ hb150 _=> ?_)
 refine TC.isSl (i:=5) z (fun _ hb151 _=> ?_)
 refine TC.a (TL.w z (OpVal.lss z z z) (TL.en (TC.seq (TC.cD z hh (fun h152 hh=> ?_) (fun h152 hh=> ?_)))))
 ·refine TC.skip (S.n (TC.seq (TC.block (TC.a (TL.i z z (TL.w z (indexN z underlying28 sz27 z z f0_1.isSl (by omega)) ?_))))))
  obtain ⟨p153,hk153,hg153⟩:=RZ.seg f0_1 k143 (by omega)
  replace hk153:RS _ 1 eI_ (.slice p153.1 (nth x0.next k143 ([]:List Int)).length p153.2) (nth x0.next k143 ([]:List Int)):=hk153
  have hk153b:=hk153.rv.big
  refine TL.w z (OpVal.of (loadSeg0 z ag27 z hg153 z) (v':= .slice p153.1 ((nth x0.next k143 ([]:List Int)).length) p153.2) z) (TL.i z z (TL.s z z (TL.en (TC.seq ?_))))
  have u29:=grd_c hh
  replace hh:=grd_t hh
  have u31:=grd_c hh
  replace hh:=grd_t hh
  refine TC.draw [5,6,7] (by kernel_rfl) (TA.a 0 z (fieldLoc z fo31_1 z) z (TA.b 1 z (loadLoc z ag28 z (i:=2) z z) z (TA.a 2 z (moveSl (.inl z) z) z (TA.ac 3 z (OpOk.call (F0_ hk153 u29) z z pf50 z z z z ?_)))))
  rintro _ τ147 _ _ ⟨⟨a167,c168,rfl⟩,rfl,rfl⟩
  refine k1 (TA.sealS eIl_ (fun τ174 hle173 hr172=> ?_))
  replace f0_2:=f0_2.mono hle173
  replace zf138:=zf138.mono hle173
  have hr172b:=hr172.rv.big
  have zf175:ZOk _ (pkSl 1 eI_ eIl_) ([((nth x0.next k143 ([]:List Int)),(a167,c168))]:List (List Int×(pkSl 1 eI_ eIl_).P)) [(nth x0.next k143 ([]:List Int))]:=ZOk.cons (hr172) (ZOk.nil _ _)
  refine TA.ac 4 z (litZ zf175 z underlying28 sz27 z ze27 z z z (by decide) (by decide) z (by decide) z (by decide) (fun a170 c171=>(kl 1 hle173 ?_)))
  refine TA.front 5 z z (TA.last 5 (by kernel_rfl) z z z (appendZ (k:=(pkSl 1 eI_ eIl_)) zf138 zf175 z z underlying28 sz27 by27 ze27 z z (by decide) z z z (.inr ⟨_,0,z⟩) (by simpa using u31) (by decide) (fun a177 c178 zf179=> ?_)))
  refine TZ.v 6 (by kernel_rfl) z z z (fieldLoc z fo31_1 z) z z (TZ.front 4 z z (TZ.last 7 (by kernel_rfl) z z z (storeSl z sz28 z z z z z ?_)))
  refine TZ.done (by kernel_rfl) (S.n ?_)
  have u39:=grd_c hh
  replace hh:=grd_t hh
  have u43:=grd_c hh
  replace hh:=grd_t hh
  refine TC.draw [9,10,11] (by kernel_rfl) (TA.a 0 z (fieldLoc z fo31_2 z) z (TA.b 1 z (loadLoc z ag29 z (i:=0) z z) z (TA.a 2 z (fieldLoc z fo31_2 z) z (TA.b 3 z (loadLoc z ag29 z (i:=3) z z) z (TA.a 4 z (moveI (.inl z) z) z (TA.b 5 z (indexN z underlying29 sz4 z z f0_2.rv.sl (by omega)) z (TA.b 6 z (loadS1 false z ag4 z f0_2 (by omega) z) z (TA.a 7 z (OpVal.not z z) z (TA.ac 8 z (OpOk.lit (enc:=encB) [(!(nth x0.fin k143 false))] z underlying29 sz4 ze4 z z z encB_len (by decide) (by decide) false z (by decide) z (by decide) encB_one (fun a185 c186=>(k1 ?_))))))))))))
  refine TA.front 7 z z (TA.last 9 (by kernel_rfl) z z z (appendS z z underlying29 sz4 by4 ze4 z z (by decide) z z z (.inr ⟨_,0,z⟩) (by simpa using u43) (by decide) (fun a188 c189=> ?_)))
  refine TZ.v 10 (by kernel_rfl) z z z (fieldLoc z fo31_2 z) z z (TZ.front 2 z z (TZ.last 11 (by kernel_rfl) z z z (storeSl z sz29 z z z z z ?_)))
  refine TZ.done (by kernel_rfl) (B.n (S.n (TC.region (TL.w z (OpVal.succ z z z (by omega)) (TL.i z z (TL.en ?_))))))
  obtain ⟨hh,hlt190⟩:=nxt_x hR1 hh
  exact lf (((l134++[(nth x0.next k143 ([]:List Int))]),(l140++[(!(nth x0.fin k143 false))]),(k143+1)),(a177,c178,(z137++([((nth x0.next k143 ([]:List Int)),(a167,c168))]:List (List Int×(pkSl 1 eI_ eIl_).P))),a188,c189,τ174)) hlt190 ⟨hh,zf179,(hle148.trans hle173)⟩ (Sub.f [1,3,7,3,7,7] 6)
 refine TC.exit (S.x (S.x ?_))
 replace hh:=fin_x hR1 hh
 refine TC.exitHere (S.n (TC.a (TL.w z (loadAll z ag31 sz31 z (i:=2) z z) (TL.front 1 z z (TL.op z (storeAll z sz31 z z z z z z ?_))))))
 refine TL.i z z (TL.en (TC.front 3 z z (TC.sealS eIl_ (fun τ193 hle192 hr191=> ?_))))
 replace zf138:=zf138.mono hle192
 have hr191b:=hr191.rv.big
 refine TC.front 3 z z (TC.sealZ zf138 (fun τ196 hle195 hr194=> ?_))
 replace hr191:=hr191.mono hle195
 have hr194b:=hr194.big
 refine TC.front 3 z z (TC.sealS encB_len (fun τ199 hle198 hr197=> ?_))
 replace hr191:=hr191.mono hle198
 replace hr194:=hr194.mono hle198
 have hr197b:=hr197.rv.big
 refine TC.rt 1 ?_
 obtain rfl:=so hh
 exact ro [] z (RVs.agg ag31 sz31 z (i:=0) z z (RVs.tmp z RVs.nil)) ⟨a106,c107,a135,c136,a141,c142,z,hr191,hr194,hr197,z⟩
def E9_(x0:Fst)(x1:Fst):Option (Fst×Int):=
 bnd (B6_ x0) (fun v6=>iteO (decide (v6≠0)) (some ((⟨0,([]:List Tip),([]:List Tip),([]:List Arc)⟩:Fst),1)) (bnd (B6_ x1) (fun v10=>iteO (decide (v10≠0)) (some ((⟨0,([]:List Tip),([]:List Tip),([]:List Arc)⟩:Fst),1)) (bnd (B8_ x0) (fun v17=>iteO (decide (v17.2≠0)) (some ((⟨0,([]:List Tip),([]:List Tip),([]:List Arc)⟩:Fst),v17.2)) (bnd (bools_Not v17.1) (fun v31=>iteO (decide (v31.2≠0)) (some ((⟨0,([]:List Tip),([]:List Tip),([]:List Arc)⟩:Fst),v31.2)) (bnd (Du_ x1 v31.1) (fun v45=>iteO (decide (v45.2≠0)) (some ((⟨0,([]:List Tip),([]:List Tip),([]:List Arc)⟩:Fst),v45.2)) (bnd (Ez_ x0 v45.1) (fun v60=>some (v60.1,v60.2))))))))))))
def I7_(σ:Store)(r:Fst×Int):Value→Store→List Res→Prop:=fun v σ' H'=>
 ∃a1 c1 a2 c2 a3 c3,v= .tuple #[.agg #[.int .i64 r.1.states,.slice a1 r.1.starts.length c1,.slice a2 r.1.ends.length c2,.slice a3 r.1.arcs.length c3],.int .i64 r.2]∧RS σ' 2 encTip (.slice a1 r.1.starts.length c1) r.1.starts∧RS σ' 2 encTip (.slice a2 r.1.ends.length c2) r.1.ends∧RS σ' 8 encArc (.slice a3 r.1.arcs.length c3) r.1.arcs∧H'=[]
theorem Im_{σ:Store}{x0:Fst}{a0_0:Option Addr}{c0_0:Nat}{a0_1:Option Addr}{c0_1:Nat}{a0_2:Option Addr}{c0_2:Nat}{x1:Fst}{a1_0:Option Addr}{c1_0:Nat}{a1_1:Option Addr}{c1_1:Nat}{a1_2:Option Addr}{c1_2:Nat}(hgl:GT σ 1 encU8 deB)(f0_0:RS σ 2 encTip (.slice a0_0 x0.starts.length c0_0) x0.starts)(f0_1:RS σ 2 encTip (.slice a0_1 x0.ends.length c0_1) x0.ends)(f0_2:RS σ 8 encArc (.slice a0_2 x0.arcs.length c0_2) x0.arcs)(f1_0:RS σ 2 encTip (.slice a1_0 x1.starts.length c1_0) x1.starts)(f1_1:RS σ 2 encTip (.slice a1_1 x1.ends.length c1_1) x1.ends)(f1_2:RS σ 8 encArc (.slice a1_2 x1.arcs.length c1_2) x1.arcs){r:Fst×Int}(hh:E9_ x0 x1=some r):
  Con Tryz.prog 10 #[.agg #[.int .i64 x0.states,.slice a0_0 x0.starts.length c0_0,.slice a0_1 x0.ends.length c0_1,.slice a0_2 x0.arcs.length c0_2],.agg #[.int .i64 x1.states,.slice a1_0 x1.starts.length c1_0,.slice a1_1 x1.ends.length c1_1,.slice a1_2 x1.arcs.length c1_2]] σ [] (I7_ σ r):=by
 dsimp only [E9_]at hh
 have f0_0b:=f0_0.rv.big
 have f0_1b:=f0_1.rv.big
 have f0_2b:=f0_2.rv.big
 have f1_0b:=f1_0.rv.big
 have f1_1b:=f1_1.rv.big
 have f1_2b:=f1_2.rv.big
 refine Con.mk (n:=51) Tryz.func10 z z z (fun w0=> ?_)
 refine TC.a (TL.op z (boxA z z z z (fun b101=> ?_)))
 refine TL.op z (boxA z z z z (fun b103=> ?_))
 refine TL.op z (OpOk.alloc z ze25 z z (fun b105=> ?_))
 refine TL.i z z (TL.en (TC.seq (TC.a (TL.w z (loadAll z ag25 sz25 z (i:=2) z z) ?_))))
 obtain ⟨v6,u6,hh⟩:=bnd_e hh
 refine TL.op z (callP (Bw_ (x0:=x0) f0_0 f0_1 f0_2 u6) z z pf16 z z z ?_)
 refine TL.w z (OpVal.neq z z z) (TL.j z z (TL.split 12 z (fun h107=> ?_) (fun h107=> ?_)))
 ·replace hh:=iteO_t h107 hh
  replace h107:=of_decide_eq_true h107
  refine TL.f z (TL.f z (TL.f z (TL.w z (pickTB z z z) (TL.en (TC.t z (TC.a (TL.w z (buildL z pl25 ze25 z) (TL.op z (storeAll z sz25 z z z z z z ?_)))))))))
  refine TL.i z z (TL.en (TC.rt 1 (S.r ?_)))
  obtain rfl:=so hh
  exact ro [] z (RVs.agg ag25 sz25 z (i:=0) z z (RVs.tmp z RVs.nil)) ⟨none,0,none,0,none,0,z,(RS.nilF _ encTip encTip_len),(RS.nilF _ encTip encTip_len),(RS.nilF _ encArc encArc_len),z⟩
 replace hh:=iteO_f h107 hh
 replace h107:=of_decide_eq_false h107
 refine TL.g z (loadAll z ag25 sz25 z (i:=1) z z) ?_
 obtain ⟨v10,u10,hh⟩:=bnd_e hh
 refine TL.gon z z z z z (callP (Bw_ (x0:=x1) f1_0 f1_1 f1_2 u10) z z pf16 z z z ?_)
 refine TL.g z (OpVal.neq z z z) (TL.w z (pickFB z z z) (TL.en (TC.cD z hh (fun h108 hh=> ?_) (fun h108 hh=> ?_))))
 ·refine TC.a (TL.w z (buildL z pl25 ze25 z) (TL.op z (storeAll z sz25 z z z z z z ?_)))
  refine TL.i z z (TL.en (TC.rt 1 (S.r ?_)))
  obtain rfl:=so hh
  exact ro [] z (RVs.agg ag25 sz25 z (i:=0) z z (RVs.tmp z RVs.nil)) ⟨none,0,none,0,none,0,z,(RS.nilF _ encTip encTip_len),(RS.nilF _ encTip encTip_len),(RS.nilF _ encArc encArc_len),z⟩
 refine TC.skip (S.n (TC.a (TL.w z (loadAll z ag25 sz25 z (i:=2) z z) ?_)))
 obtain ⟨v17,u17,hh⟩:=bnd_e hh
 refine TL.op z (OpOk.call (He_ (x0:=x0) hgl f0_0 f0_1 f0_2 u17) z z pf6 z z z z ?_)
 rintro _ τ109 _ hle109 ⟨a109_1,c109_1,a109_2,c109_2,a109_3,c109_3,rfl,hr109_0,hr109_1,hr109_2,rfl⟩
 replace f0_0:=f0_0.mono hle109
 replace f0_1:=f0_1.mono hle109
 replace f0_2:=f0_2.mono hle109
 replace f1_0:=f1_0.mono hle109
 replace f1_1:=f1_1.mono hle109
 replace f1_2:=f1_2.mono hle109
 have hr109_0b:=hr109_0.rv.big
 have hr109_1b:=hr109_1.big
 have hr109_2b:=hr109_2.rv.big
 refine TL.w z (moveT (.inl z) z) (TL.w z (OpVal.extract z z z) (TL.w z (OpVal.extract z z z) (TL.op z (OpOk.alloc z ze31 z z (fun b110=> ?_)))))
 refine TL.op z (storeAll z sz31 z z z z z z ?_)
 refine TL.i z z (TL.en (TC.seq (TC.a (TL.i z z (TL.w z (OpVal.neq z z z) (TL.en (TC.cD z hh (fun h112 hh=> ?_) (fun h112 hh=> ?_))))))))
 ·refine TC.a (TL.w z (buildL z pl25 ze25 z) (TL.i z z (TL.front 1 z z (TL.op z (storeAll z sz25 z z z z z z ?_)))))
  refine TL.i z z (TL.en (TC.rt 1 (S.r ?_)))
  obtain rfl:=so hh
  exact ro [] z (RVs.agg ag25 sz25 z (i:=0) z z (RVs.tmp z RVs.nil)) ⟨none,0,none,0,none,0,z,(RS.nilF _ encTip encTip_len),(RS.nilF _ encTip encTip_len),(RS.nilF _ encArc encArc_len),z⟩
 refine TC.skip (S.n (TC.a (TL.w z (loadAll z ag31 sz31 z (i:=0) z z) ?_)))
 obtain ⟨v31,u31,hh⟩:=bnd_e hh
 refine TL.op z (OpOk.call (bools_Not_con (x0:=v17.1) hr109_0 hr109_1 hr109_2 u31) z z pf23 z z z z ?_)
 rintro _ τ113 _ hle113 ⟨a113_1,c113_1,a113_2,c113_2,a113_3,c113_3,rfl,hr113_0,hr113_1,hr113_2,rfl⟩
 replace f0_0:=f0_0.mono hle113
 replace f0_1:=f0_1.mono hle113
 replace f0_2:=f0_2.mono hle113
 replace f1_0:=f1_0.mono hle113
 replace f1_1:=f1_1.mono hle113
 replace f1_2:=f1_2.mono hle113
 have hr113_0b:=hr113_0.rv.big
 have hr113_1b:=hr113_1.big
 have hr113_2b:=hr113_2.rv.big
 refine TL.w z (moveT (.inl z) z) (TL.w z (OpVal.extract z z z) (TL.w z (OpVal.extract z z z) (TL.op z (storeAll z sz31 z z z z z z ?_))))
 refine TL.i z z (TL.en (TC.seq (TC.a (TL.i z z (TL.w z (OpVal.neq z z z) (TL.en (TC.cD z hh (fun h114 hh=> ?_) (fun h114 hh=> ?_))))))))
 ·refine TC.a (TL.w z (buildL z pl25 ze25 z) (TL.i z z (TL.front 1 z z (TL.op z (storeAll z sz25 z z z z z z ?_)))))
  refine TL.i z z (TL.en (TC.rt 1 (S.r ?_)))
  obtain rfl:=so hh
  exact ro [] z (RVs.agg ag25 sz25 z (i:=0) z z (RVs.tmp z RVs.nil)) ⟨none,0,none,0,none,0,z,(RS.nilF _ encTip encTip_len),(RS.nilF _ encTip encTip_len),(RS.nilF _ encArc encArc_len),z⟩
 refine TC.skip (S.n (TC.a (TL.w z (loadAll z ag25 sz25 z (i:=2) z z) (TL.w z (loadAll z ag31 sz31 z (i:=0) z z) ?_))))
 obtain ⟨v45,u45,hh⟩:=bnd_e hh
 refine TL.op z (OpOk.call (I3_ (x0:=x1) (x1:=v31.1) f1_0 f1_1 f1_2 hr113_0 hr113_1 hr113_2 u45) z z pf24 z z z z ?_)
 rintro _ τ115 _ hle115 ⟨a115_1,c115_1,a115_2,c115_2,a115_3,c115_3,rfl,hr115_0,hr115_1,hr115_2,rfl⟩
 replace f0_0:=f0_0.mono hle115
 replace f0_1:=f0_1.mono hle115
 replace f0_2:=f0_2.mono hle115
 have hr115_0b:=hr115_0.rv.big
 have hr115_1b:=hr115_1.rv.big
 have hr115_2b:=hr115_2.rv.big
 refine TL.w z (moveT (.inl z) z) (TL.w z (OpVal.extract z z z) (TL.w z (OpVal.extract z z z) (TL.op z (OpOk.alloc z ze25 z z (fun b116=> ?_)))))
 refine TL.op z (storeAll z sz25 z z z z z z ?_)
 refine TL.i z z (TL.en (TC.seq (TC.a (TL.i z z (TL.w z (OpVal.neq z z z) (TL.en (TC.cD z hh (fun h118 hh=> ?_) (fun h118 hh=> ?_))))))))
 ·refine TC.a (TL.w z (buildL z pl25 ze25 z) (TL.i z z (TL.front 2 z z (TL.op z (storeAll z sz25 z z z z z z ?_)))))
  refine TL.i z z (TL.en (TC.rt 1 (S.r ?_)))
  obtain rfl:=so hh
  exact ro [] z (RVs.agg ag25 sz25 z (i:=0) z z (RVs.tmp z RVs.nil)) ⟨none,0,none,0,none,0,z,(RS.nilF _ encTip encTip_len),(RS.nilF _ encTip encTip_len),(RS.nilF _ encArc encArc_len),z⟩
 refine TC.skip (S.n (TC.a (TL.w z (loadAll z ag25 sz25 z (i:=4) z z) (TL.w z (loadAll z ag25 sz25 z (i:=0) z z) ?_))))
 obtain ⟨v60,u60,hh⟩:=bnd_e hh
 refine TL.op z (OpOk.call (Jr_ (x0:=x0) (x1:=v45.1) f0_0 f0_1 f0_2 hr115_0 hr115_1 hr115_2 u60) z z pf25 z z z z ?_)
 rintro _ τ119 _ hle119 ⟨a119_1,c119_1,a119_2,c119_2,a119_3,c119_3,rfl,hr119_0,hr119_1,hr119_2,rfl⟩
 have hr119_0b:=hr119_0.rv.big
 have hr119_1b:=hr119_1.rv.big
 have hr119_2b:=hr119_2.rv.big
 refine TL.w z (OpVal.extract z z z) (TL.w z (OpVal.extract z z z) (TL.front 2 z z (TL.op z (storeAll z sz25 z z z z z z ?_))))
 refine TL.i z z (TL.en (TC.rt 1 ?_))
 obtain rfl:=so hh
 exact ro [] z (RVs.agg ag25 sz25 z (i:=0) z z (RVs.tmp z RVs.nil)) ⟨a119_1,c119_1,a119_2,c119_2,a119_3,c119_3,z,hr119_0,hr119_1,hr119_2,z⟩
def Am_(v54:(List (List UInt8))×Int)(l119:List (List UInt8)):Option (Bool):=
 bnd (Af_) (fun v77=>iteO v77 (bnd (Cn_ v54.1 l119) (fun v81=>some v81)) (some false))
def Cj_(x0:Fst)(x1:Fst)(x2:List UInt8):Option (Bool):=
 grd (x2.length≤281474976710656) (bnd (Ay_ x0) (fun v5=>iteO (!v5) (some true) (bnd (Ay_ x1) (fun v9=>iteO (!v9) (some true) (iteO (decide (4<((x2.length:Nat):Int))) (some true) (bnd (E9_ x0 x1) (fun v20=>iteO (decide (v20.2≠0)) (bnd (Af_) (fun v29=>iteO v29 (some (decide (v20.1.states=0))) (some false))) (bnd (Eq_ x0 x2) (fun v38=>bnd (Eq_ x1 x2) (fun v46=>bnd (Eq_ v20.1 x2) (fun v54=>iteO (decide (v38.2≠0)) (bnd (Af_) (fun v70=>some v70)) (iteO (decide (v46.2≠0)) (bnd (Af_) (fun v70=>some v70)) (iteO (decide (v54.2≠0)) (bnd (Af_) (fun v70=>some v70)) (iteO (decide (((v38.1.length:Nat):Int)=0)) (Am_ v54 v46.1) (Am_ v54 v38.1)))))))))))))))
theorem Gm_{σ:Store}{x0:Fst}{a0_0:Option Addr}{c0_0:Nat}{a0_1:Option Addr}{c0_1:Nat}{a0_2:Option Addr}{c0_2:Nat}{x1:Fst}{a1_0:Option Addr}{c1_0:Nat}{a1_1:Option Addr}{c1_1:Nat}{a1_2:Option Addr}{c1_2:Nat}{x2:List UInt8}(hgl:GT σ 1 encU8 deB)(f0_0:RS σ 2 encTip (.slice a0_0 x0.starts.length c0_0) x0.starts)(f0_1:RS σ 2 encTip (.slice a0_1 x0.ends.length c0_1) x0.ends)(f0_2:RS σ 8 encArc (.slice a0_2 x0.arcs.length c0_2) x0.arcs)(f1_0:RS σ 2 encTip (.slice a1_0 x1.starts.length c1_0) x1.starts)(f1_1:RS σ 2 encTip (.slice a1_1 x1.ends.length c1_1) x1.ends)(f1_2:RS σ 8 encArc (.slice a1_2 x1.arcs.length c1_2) x1.arcs){r:Bool}(hh:Cj_ x0 x1 x2=some r):
  Con Tryz.prog 4 #[.agg #[.int .i64 x0.states,.slice a0_0 x0.starts.length c0_0,.slice a0_1 x0.ends.length c0_1,.slice a0_2 x0.arcs.length c0_2],.agg #[.int .i64 x1.states,.slice a1_0 x1.starts.length c1_0,.slice a1_1 x1.ends.length c1_1,.slice a1_2 x1.arcs.length c1_2],.string (bs x2)] σ [] (PureP (.bool r) σ):=by
 dsimp only [Cj_]at hh
 have f0_0b:=f0_0.rv.big
 have f0_1b:=f0_1.rv.big
 have f0_2b:=f0_2.rv.big
 have f1_0b:=f1_0.rv.big
 have f1_1b:=f1_1.rv.big
 have f1_2b:=f1_2.rv.big
 refine Con.mk (n:=81) Tryz.func4 z z z (fun w0=> ?_)
 have x2b:=grd_c hh
 replace hh:=grd_t hh
 refine TC.a (TL.op z (boxA z z z z (fun b101=> ?_)))
 refine TL.op z (boxA z z z z (fun b103=> ?_))
 refine TL.j z z (TL.en (TC.seq (TC.a (TL.w z (loadAll z ag25 sz25 z (i:=1) z z) ?_))))
 obtain ⟨v5,u5,hh⟩:=bnd_e hh
 refine TL.op z (callP (E8_ (x0:=x0) f0_0 f0_1 f0_2 u5) z z pf5 z z z ?_)
 refine TL.w z (OpVal.not z z) (TL.j z z (TL.split 18 z (fun h105=> ?_) (fun h105=> ?_)))
 ·replace hh:=iteO_t h105 hh
  refine TL.f z (TL.f z (TL.f z (TL.w z (pickTB z z z) (TL.j z z (TL.f z (TL.f z (TL.f z (TL.w z (pickTB z z z) (TL.en (TC.t z (TC.a (TL.j z z (TL.en (TC.rt 0 (S.r ?_)))))))))))))))
  obtain rfl:=so hh
  exact rq [6] ⟨z,z,z⟩
 replace hh:=iteO_f h105 hh
 refine TL.g z (loadAll z ag25 sz25 z (i:=0) z z) ?_
 obtain ⟨v9,u9,hh⟩:=bnd_e hh
 refine TL.gon z z z z z (callP (E8_ (x0:=x1) f1_0 f1_1 f1_2 u9) z z pf5 z z z ?_)
 refine TL.g z (OpVal.not z z) (TL.w z (pickFB z z z) (TL.j z z (TL.split 23 z (fun h106=> ?_) (fun h106=> ?_))))
 ·replace hh:=iteO_t h106 hh
  refine TL.f z (TL.f z (TL.f z (TL.w z (pickTB z z z) (TL.en (TC.t z (TC.a (TL.j z z (TL.en (TC.rt 0 (S.r ?_))))))))))
  obtain rfl:=so hh
  exact rq [6] ⟨z,z,z⟩
 replace hh:=iteO_f h106 hh
 refine TL.g z (moveStr (.inl z) z) (TL.g z (lenBs z underlying9 z) (TL.g z (OpVal.gtr z z z) (TL.w z (pickFB z z z) (TL.en (TC.cD z hh (fun h107 hh=> ?_) (fun h107 hh=> ?_))))))
 ·refine TC.a (TL.j z z (TL.en (TC.rt 0 (S.r ?_))))
  obtain rfl:=so hh
  exact rq [6] ⟨z,z,z⟩
 refine TC.skip (S.n (TC.a (TL.w z (loadAll z ag25 sz25 z (i:=1) z z) (TL.w z (loadAll z ag25 sz25 z (i:=0) z z) ?_))))
 obtain ⟨v20,u20,hh⟩:=bnd_e hh
 refine TL.op z (OpOk.call (Im_ (x0:=x0) (x1:=x1) hgl f0_0 f0_1 f0_2 f1_0 f1_1 f1_2 u20) z z pf10 z z z z ?_)
 rintro _ τ108 _ hle108 ⟨a108_1,c108_1,a108_2,c108_2,a108_3,c108_3,rfl,hr108_0,hr108_1,hr108_2,rfl⟩
 replace f0_0:=f0_0.mono hle108
 replace f0_1:=f0_1.mono hle108
 replace f0_2:=f0_2.mono hle108
 replace f1_0:=f1_0.mono hle108
 replace f1_1:=f1_1.mono hle108
 replace f1_2:=f1_2.mono hle108
 replace hgl:=hgl.mono hle108
 have hr108_0b:=hr108_0.rv.big
 have hr108_1b:=hr108_1.rv.big
 have hr108_2b:=hr108_2.rv.big
 refine TL.w z (moveT (.inl z) z) (TL.w z (OpVal.extract z z z) (TL.w z (OpVal.extract z z z) (TL.op z (OpOk.alloc z ze25 z z (fun b109=> ?_)))))
 refine TL.op z (storeAll z sz25 z z z z z z ?_)
 refine TL.i z z (TL.en (TC.seq (TC.a (TL.i z z (TL.w z (OpVal.neq z z z) (TL.en (TC.cD z hh (fun h111 hh=> ?_) (fun h111 hh=> ?_))))))))
 ·refine TC.a ?_
  obtain ⟨v29,u29,hh⟩:=bnd_e hh
  refine TL.op z (callP (Bl_ hgl u29) z z pf8 z z z ?_)
  refine TL.j z z (TL.split 37 z (fun h112=> ?_) (fun h112=> ?_))
  ·replace hh:=iteO_t h112 hh
   refine TL.g z (fieldLoc z fo25_0 z) (TL.g z (loadLoc z ag3 z (i:=0) z z) (TL.g z (OpVal.eql z z z) (TL.w z (pickTB z z z) (TL.j z z (TL.en (TC.ofSub (Sub.pre 0 z) (TC.back (TC.ret (S.r ?_)))))))))
   obtain rfl:=so hh
   exact rq [6] ⟨z,z,z⟩
  replace hh:=iteO_f h112 hh
  refine TL.f z (TL.f z (TL.f z (TL.w z (pickFB z z z) (TL.j z z (TL.en (TC.ofSub (Sub.pre 0 z) (TC.back (TC.ret (S.r ?_)))))))))
  obtain rfl:=so hh
  exact rq [6] ⟨z,z,z⟩
 refine TC.skip (S.n (TC.a (TL.w z (loadAll z ag25 sz25 z (i:=2) z z) (TL.w z (moveStr (.inl z) z) ?_))))
 obtain ⟨v38,u38,hh⟩:=bnd_e hh
 refine TL.op z (OpOk.call (Hd_ (x0:=x0) f0_0 f0_1 f0_2 u38) z z pf7 z z z z ?_)
 rintro _ τ113 _ hle113 ⟨a113_1,c113_1,rfl,hr113_0,rfl⟩
 replace f1_0:=f1_0.mono hle113
 replace f1_1:=f1_1.mono hle113
 replace f1_2:=f1_2.mono hle113
 replace hgl:=hgl.mono hle113
 replace hr108_0:=hr108_0.mono hle113
 replace hr108_1:=hr108_1.mono hle113
 replace hr108_2:=hr108_2.mono hle113
 have hr113_0b:=hr113_0.rv.big
 refine TL.w z (moveT (.inl z) z) (TL.w z (OpVal.extract z z z) (TL.w z (OpVal.extract z z z) (TL.s z z (TL.i z z (TL.en (TC.a (TL.w z (loadAll z ag25 sz25 z (i:=1) z z) (TL.w z (moveStr (.inl z) z) ?_))))))))
 obtain ⟨v46,u46,hh⟩:=bnd_e hh
 refine TL.op z (OpOk.call (Hd_ (x0:=x1) f1_0 f1_1 f1_2 u46) z z pf7 z z z z ?_)
 rintro _ τ114 _ hle114 ⟨a114_1,c114_1,rfl,hr114_0,rfl⟩
 replace hgl:=hgl.mono hle114
 replace hr108_0:=hr108_0.mono hle114
 replace hr108_1:=hr108_1.mono hle114
 replace hr108_2:=hr108_2.mono hle114
 replace hr113_0:=hr113_0.mono hle114
 have hr114_0b:=hr114_0.rv.big
 refine TL.w z (moveT (.inl z) z) (TL.w z (OpVal.extract z z z) (TL.w z (OpVal.extract z z z) (TL.s z z (TL.i z z (TL.en (TC.a (TL.w z (loadAll z ag25 sz25 z (i:=0) z z) (TL.w z (moveStr (.inl z) z) ?_))))))))
 obtain ⟨v54,u54,hh⟩:=bnd_e hh
 refine TL.op z (OpOk.call (Hd_ (x0:=v20.1) hr108_0 hr108_1 hr108_2 u54) z z pf7 z z z z ?_)
 rintro _ τ115 _ hle115 ⟨a115_1,c115_1,rfl,hr115_0,rfl⟩
 replace hgl:=hgl.mono hle115
 replace hr113_0:=hr113_0.mono hle115
 replace hr114_0:=hr114_0.mono hle115
 have hr115_0b:=hr115_0.rv.big
 refine TL.w z (moveT (.inl z) z) (TL.w z (OpVal.extract z z z) (TL.w z (OpVal.extract z z z) (TL.s z z (TL.i z z (TL.en (TC.seq (TC.a (TL.i z z (TL.w z (OpVal.neq z z z) (TL.j z z (TL.split 62 z (fun h116=> ?_) (fun h116=> ?_))))))))))))
 ·replace hh:=iteO_t h116 hh
  replace h116:=of_decide_eq_true h116
  refine TL.f z (TL.f z (TL.w z (pickTB z z z) (TL.j z z (TL.f z (TL.f z (TL.w z (pickTB z z z) (TL.en (TC.t z (TC.a ?_)))))))))
  obtain ⟨v70,u70,hh⟩:=bnd_e hh
  refine TL.op z (callP (Bl_ hgl u70) z z pf8 z z z ?_)
  refine TL.j z z (TL.en (TC.ofSub (Sub.pre 0 z) (TC.back (TC.ret (S.r ?_)))))
  obtain rfl:=so hh
  exact rq [6] ⟨z,z,z⟩
 replace hh:=iteO_f h116 hh
 replace h116:=of_decide_eq_false h116
 refine TL.g z (moveI (.inl z) z) (TL.g z (OpVal.neq z z z) (TL.w z (pickFB z z z) (TL.j z z (TL.split 66 z (fun h117=> ?_) (fun h117=> ?_)))))
 ·replace hh:=iteO_t h117 hh
  replace h117:=of_decide_eq_true h117
  refine TL.f z (TL.f z (TL.w z (pickTB z z z) (TL.en (TC.t z (TC.a ?_)))))
  obtain ⟨v70,u70,hh⟩:=bnd_e hh
  refine TL.op z (callP (Bl_ hgl u70) z z pf8 z z z ?_)
  refine TL.j z z (TL.en (TC.ofSub (Sub.pre 0 z) (TC.back (TC.ret (S.r ?_)))))
  obtain rfl:=so hh
  exact rq [6] ⟨z,z,z⟩
 replace hh:=iteO_f h117 hh
 replace h117:=of_decide_eq_false h117
 refine TL.g z (moveI (.inl z) z) (TL.g z (OpVal.neq z z z) (TL.w z (pickFB z z z) (TL.en (TC.cD z hh (fun h118 hh=> ?_) (fun h118 hh=> ?_)))))
 ·refine TC.a ?_
  obtain ⟨v70,u70,hh⟩:=bnd_e hh
  refine TL.op z (callP (Bl_ hgl u70) z z pf8 z z z ?_)
  refine TL.j z z (TL.en (TC.ofSub (Sub.pre 0 z) (TC.back (TC.ret (S.r ?_)))))
  obtain rfl:=so hh
  exact rq [6] ⟨z,z,z⟩
 refine TC.skip (S.n (TC.cutG (α:=((List (List UInt8)))×((Option Addr)×Nat×Store)) [9,71,72,73,74] (fun g=>[(9,.slice g.2.1 g.1.length g.2.2.1)]) (fun g=>[]) (fun g=>g.2.2.2) (fun g=>Am_ v54 g.1=some r∧RS g.2.2.2 1 eS_ (.slice g.2.1 g.1.length g.2.2.1) g.1∧Store.le τ115 g.2.2.2) ?_ (fun g j hg=> ?_)))
 ·skip
  refine TC.a (TL.s z z (TL.w z (lenC z underlying35 z) (TL.w z (OpVal.eql z z z) (TL.en (TC.cD z hh (fun h123 hh=> ?_) (fun h123 hh=> ?_))))))
  ·exact TC.region (TL.s z z (TL.s z z (TL.en (cf (v46.1,(a114_1,c114_1,τ115)) ⟨hh,hr114_0,(Store.le.refl _)⟩ (Sub.pre 0 z)))))
  exact TC.skip (S.n (cf (v38.1,(a113_1,c113_1,τ115)) ⟨hh,hr113_0,(Store.le.refl _)⟩ (Sub.pre 0 z)))
 skip
 obtain ⟨l119,⟨a120,c121,τ124⟩⟩:=g
 obtain ⟨hh,hr122,hle125⟩:=hg
 try dsimp only at hr122
 dsimp only at hle125
 replace hgl:=hgl.mono hle125
 replace hr115_0:=hr115_0.mono hle125
 try dsimp only
 dsimp only [Am_]at hh
 have hr122b:=hr122.rv.big
 refine TC.a ?_
 obtain ⟨v77,u77,hh⟩:=bnd_e hh
 refine TL.op z (callP (Bl_ hgl u77) z z pf8 z z z ?_)
 refine TL.j z z (TL.split 76 z (fun h126=> ?_) (fun h126=> ?_))
 ·replace hh:=iteO_t h126 hh
  refine TL.g z (moveSl (.inl z) z) (TL.g z (moveSl (.inl z) z) ?_)
  obtain ⟨v81,u81,hh⟩:=bnd_e hh
  refine TL.gon z z z z z (callP (Hq_ hr115_0 hr122 u81) z z pf11 z z z ?_)
  refine TL.w z (pickTB z z z) (TL.j z z (TL.en (TC.back (TC.ret ?_))))
  obtain rfl:=so hh
  exact rq [6] ⟨z,z,z⟩
 replace hh:=iteO_f h126 hh
 refine TL.f z (TL.f z (TL.f z (TL.w z (pickFB z z z) (TL.j z z (TL.en (TC.back (TC.ret ?_)))))))
 obtain rfl:=so hh
 exact rq [6] ⟨z,z,z⟩
end Go.Proofs.YtnpbfjdpglfdkaaGreatDoor
end

noncomputable section
namespace Go.Proofs.YtnpbfjdpglfdkaaGreatDoor
open Go Go.E
theorem nrun_way{t:Fst}: ∀(w:List UInt8) (P:Int→Prop) (q:Int),nrun (inN t) P w q↔ ∃s,P s∧ ∃o,Wy t s w o q
  |[],P,q=>⟨fun h=>⟨q,h,[],.nil q⟩,fun ⟨s,h,o,hw⟩=>by
    obtain ⟨-,rfl⟩:=hw.nil_inv
    exact h⟩
  | b :: w, P, q => by
    show nrun (inN t) (nst (inN t) P b) w q↔_
    rw [nrun_way w]
    constructor
    · rintro ⟨s,⟨e,he,h1,h2,rfl⟩,o,hw⟩
      obtain ⟨a,ha,rfl⟩:=List.mem_map.1 (show e∈t.arcs.map fun a=>(⟨a.frm,a.to,a.set⟩:Arrow)from he)
      exact ⟨a.frm,h1,em a b++o,.cons a b ha h2 hw⟩
    rintro ⟨s,h1,o,hw⟩
    obtain ⟨a,ha,rfl,h2,o',hw', -⟩:=hw.cons_inv
    exact ⟨a.to,⟨⟨a.frm,a.to,a.set⟩,List.mem_map.2 ⟨a,ha,rfl⟩,h1,h2,rfl⟩,o',hw'⟩
theorem in_takes{t:Fst}(w:List UInt8):(∃q∈(inN t).ends,nrun (inN t) (fun q=>q∈(inN t).starts) w q)↔ ∃o,Rel t w o:=by
  constructor
  · rintro ⟨q,hq,h⟩
    obtain ⟨s,hs,o,hw⟩:=(nrun_way w _ q).1 h
    have hs':s∈onceL 0 cmpI (t.starts.map Tip.state):=hs
    have hq':q∈onceL 0 cmpI (t.ends.map Tip.state):=hq
    rw [mem_onceL]at hs' hq'
    obtain ⟨x,hx,rfl⟩:=List.mem_map.1 hs'
    obtain ⟨e,he,rfl⟩:=List.mem_map.1 hq'
    exact ⟨_,x,hx,e,he,o,hw,rfl⟩
  rintro ⟨o,x,hx,e,he,m,hw, -⟩
  refine ⟨e.state,?_,(nrun_way w _ _).2 ⟨x.state,?_,m,hw⟩⟩
  · show e.state∈onceL 0 cmpI (t.ends.map Tip.state)
    rw [mem_onceL];exact List.mem_map.2 ⟨e,he,rfl⟩
  show x.state∈onceL 0 cmpI (t.starts.map Tip.state)
  rw [mem_onceL];exact List.mem_map.2 ⟨x,hx,rfl⟩
theorem inN_ns{t:Fst}(ht:FstOk t)(h5:t.states≤5):NS (inN t):=by
  refine ⟨ht.st0,?_,?_,fun e he=> ?_,fun x hx=> ?_,?_,fun x hx=> ?_⟩
  · show t.states≤20
    omega
  · show (t.arcs.map _).length≤16384
    rw [List.length_map];exact ht.arcsN
  · obtain ⟨a,ha,rfl⟩:=List.mem_map.1 (show e∈t.arcs.map fun a=>(⟨a.frm,a.to,a.set⟩:Arrow)from he)
    exact ⟨(ht.arcs a ha).1,(ht.arcs a ha).2.1⟩
  · have hx':x∈onceL 0 cmpI (t.starts.map Tip.state):=hx
    rw [mem_onceL]at hx'
    obtain ⟨y,hy,rfl⟩:=List.mem_map.1 hx'
    exact (ht.starts y hy).1
  · show (onceL 0 cmpI (t.starts.map Tip.state)).length≤1000000
    have h1:=I0_ (d:=(0:Int)) (cf:=cmpI) (t.starts.map Tip.state)
    rw [List.length_map]at h1
    have:=ht.startsN
    omega
  have hx':x∈onceL 0 cmpI (t.ends.map Tip.state):=hx
  rw [mem_onceL]at hx'
  obtain ⟨y,hy,rfl⟩:=List.mem_map.1 hx'
  exact (ht.ends y hy).1
theorem small18_st{t:Fst}(h:Ay_ t=some true):t.states≤5∨1024<t.states:=by
  unfold Ay_ at h
  obtain ⟨b,hb⟩:=few15_total t
  rw [bnd_some hb]at h
  cases b with
  |false=>cases h
  |true=>
    rw [iteO_true]at h
    by_cases c:t.states≤5
    · exact .inl c
    rw [iteO_df c]at h
    exact .inr (of_decide_eq_true (Option.some.inj h))
theorem domain_any{t:Fst}(hs:t.states≤5∨1024<t.states): ∃r,B8_ t=some r∧(r.2≠0∨FstOk t∧r.2=0∧rightD r.1=true∧ ∀w,nth r.1.fin (runD r.1 0 w).toNat false=true↔ ∃o,Rel t w o):=by
  unfold B8_
  rw [in_eq,bnd_mk]
  by_cases h:fstB t=true
  · have ht:=(fstB_iff t).1 h
    have h1:=ht.st1
    have hns:=inN_ns ht (by omega)
    obtain ⟨r,e,hr⟩:=of_go hns
    rw [if_pos h]
    dsimp only
    rw [iteO_df (by simp),bnd_some e]
    by_cases c:r.2≠0
    · rw [iteO_dt c];exact ⟨_,rfl,.inl c⟩
    obtain ⟨d,e2⟩:=r
    obtain rfl:e2=0:=by
      apply Decidable.byContradiction
      exact fun q=>c q
    rw [iteO_df c]
    obtain ⟨m,em,hm⟩:=min_any d
    rw [bnd_some em]
    rcases hm with hm|⟨h2,h3,h4,h5⟩
    · exact ⟨_,rfl,.inl hm⟩
    exact ⟨_,rfl,.inr ⟨ht,h2,h4,fun w=>by rw [h5 w,of_takes hr w,in_takes w]⟩⟩
  rw [if_neg h]
  exact ⟨_,rfl,.inl (by decide)⟩
def notD(d:Dfa):Dfa:=⟨d.cls,d.next,d.fin.map (!·)⟩
theorem notD_run(d:Dfa)(w:List UInt8)(s:Int):runD (notD d) s w=runD d s w:=by
  induction w generalizing s with
  |nil=>rfl
  |cons b w ih=>exact ih (dlt d s b)
theorem notD_takes{d:Dfa}(h:rightD d=true)(w:List UInt8):nth (notD d).fin (runD (notD d) 0 w).toNat false=true↔ ¬ nth d.fin (runD d 0 w).toNat false=true:=by
  obtain ⟨m, -, -, -, -,hf, -⟩:=right_parts h
  obtain ⟨h0,h1⟩:=runD_ok h w (ok0 h)
  rw [notD_run]
  show nth (d.fin.map (!·)) _ false=true↔_
  rw [nth_map _ _ _ false false (by omega)]
  cases nth d.fin (runD d 0 w).toNat false<;>simp
theorem not_go{d:Dfa}(h:rightD d=true):bools_Not d=some (notD d,0):=by
  obtain ⟨m,hm,hcl,hn1,hn2,hf,hrow⟩:=right_parts h
  have hm256:=cntF_le d.cls 0 m hm
  unfold bools_Not
  rw [dcheck_eq,bnd_mk,if_pos h,iteO_df (by simp),grd_mk (by omega)]
  obtain ⟨r,e,rfl⟩:=iter_up (step:=fun q:(List (List Int))×(List Bool)×Nat=>bools_Not_b1 d q.1 q.2.1 q.2.2) (fun (s:List (List Int)×List Bool) k=>(s.1,s.2,k)) d.next.length (fun k s=>s=(d.next.take k,(d.fin.take k).map (!·))) (fun r=>r=(notD d,0))
    (fun k s hk hI=>by
      subst hI
      have hr:=(hrow k hk).1
      refine .inl ⟨_,?_,rfl⟩
      show bools_Not_b1 d _ _ k=_
      unfold bools_Not_b1
      rw [iteO_dt (by omega),grd_mk (by omega),grd_mk (by simp only [List.length_take,List.length_singleton];omega),grd_mk (by omega),grd_mk (by simp only [List.length_map,List.length_take,List.length_singleton];omega),take_snoc d.next hk ([]:List Int),take_snoc d.fin (by omega) false,List.map_append,List.map_singleton];rfl)
    (fun s hI=>by
      subst hI
      refine ⟨_,?_,rfl⟩
      show bools_Not_b1 d _ _ d.next.length=_
      unfold bools_Not_b1
      rw [iteO_df (by omega),List.take_length,List.take_of_length_le (by omega)];rfl)
    (s0:=([],[])) (by simp)
  exact e
theorem alt_zero(a b:Fst): ∃r,Ez_ a b=some r∧(r.2≠0∧r.1.states=0∨FstOk a∧FstOk b∧r=(fAlt a b,0)∧FstOk (fAlt a b)):=by
  obtain ⟨r,e,hok,h⟩:=alt_any a b
  refine ⟨r,e,?_⟩
  rcases h with h|h
  · refine .inl ⟨h,?_⟩
    by_cases hab:fstB a=true∧fstB b=true
    · obtain ⟨r',e',hr⟩:=alt_go ((fstB_iff a).1 hab.1) ((fstB_iff b).1 hab.2)
      rw [e]at e'
      obtain rfl:=Option.some.inj e'
      rcases hr with rfl|⟨rfl, -⟩
      · rfl
      exact absurd rfl h
    unfold Ez_ at e
    rw [both_go,bnd_mk]at e
    have:(fstB a && fstB b)=false:=by
      cases ha:fstB a<;>cases hb:fstB b<;>first|rfl|exact absurd ⟨ha,hb⟩ hab
    rw [this]at e
    have e':r=(⟨0,[],[],[]⟩,1):=(Option.some.inj e).symm
    rw [e']
  exact .inr h
theorem prior_any{a b:Fst}(hs:a.states≤5∨1024<a.states): ∃r,E9_ a b=some r∧(r.2≠0∧r.1.states=0∨FstOk a∧FstOk b∧r.2=0∧FstOk r.1∧ ∀w o,Rel r.1 w o↔Rel a w o∨Rel b w o∧ ¬ ∃o,Rel a w o):=by
  unfold E9_
  rw [Be_,bnd_mk,errB_ne]
  cases ha:fstB a with
  |false=>exact ⟨_,rfl,.inl ⟨by decide,rfl⟩⟩
  |true=>
  rw [Bool.not_true,iteO_false,Be_,bnd_mk,errB_ne]
  cases hb:fstB b with
  |false=>exact ⟨_,rfl,.inl ⟨by decide,rfl⟩⟩
  |true=>
  obtain ⟨r,e,hr⟩:=domain_any hs
  rw [Bool.not_true,iteO_false,bnd_some e]
  rcases hr with hr|⟨hA,h1,h2,h3⟩
  · rw [iteO_dt hr];exact ⟨_,rfl,.inl ⟨hr,rfl⟩⟩
  rw [iteO_df (fun h=>h h1),not_go h2,bnd_mk]
  dsimp only
  rw [iteO_df (by simp)]
  obtain ⟨l,el,okl,hl⟩:=lim_any b (notD r.1)
  rw [bnd_some el]
  rcases hl with hl|⟨hB,hd,rfl,hlo⟩
  · rw [iteO_dt hl];exact ⟨_,rfl,.inl ⟨hl,rfl⟩⟩
  dsimp only
  rw [iteO_df (by simp)]
  obtain ⟨m,em,hm⟩:=alt_zero a (fLim b (notD r.1))
  rw [bnd_some em]
  rcases hm with hm|⟨-, -,rfl,hmo⟩
  · exact ⟨_,rfl,.inl hm⟩
  refine ⟨_,rfl,.inr ⟨hA,hB,rfl,hmo,fun w o=> ?_⟩⟩
  rw [rel_alt hA hlo,rel_lim hd,notD_takes h2,h3 w]
theorem prunePrior_eq (a b : Fst) (w : List UInt8) (hw0 : w.length ≤ 281474976710656) : Cj_ a b w = some true := by
  unfold Cj_
  rw [grd_mk hw0]
  obtain ⟨b1,hb1⟩:=small18_total a
  obtain ⟨b2,hb2⟩:=small18_total b
  rw [bnd_some hb1]
  cases b1 with
  |false=>rfl
  |true=>
  have hst:=small18_st hb1
  rw [Bool.not_true,iteO_false,bnd_some hb2]
  cases b2 with
  |false=>rfl
  |true=>
  rw [Bool.not_true,iteO_false]
  by_cases hw:4<((w.length:Nat):Int)
  · rw [iteO_dt hw]
  have haw:(bnd Af_ fun v=>some v)=some true:=by rw [awake18,bnd_mk]
  obtain ⟨r,e,hr⟩:=prior_any (b:=b) hst
  rw [iteO_df hw,bnd_some e]
  rcases hr with ⟨h1,h2⟩|⟨hA,hB,h1,hT,hrel⟩
  · rw [iteO_dt h1,awake18,bnd_mk,iteO_true,decide_eq_true h2]
  have outsT: ∀{t:Fst},FstOk t→Eq_ t w=some (if fitsB t w=true then (outsL t w,0) else ([],2)):=fun {t} ht=>by
    rw [outs_eq t w hw0,if_pos ((fstB_iff t).2 ht),if_pos (by omega)]
  rw [iteO_df (fun h=>h h1),outsT hA,bnd_mk,outsT hB,bnd_mk,outsT hT,bnd_mk,haw]
  by_cases f1:fitsB a w=true
  · rw [if_pos f1]
    by_cases f2:fitsB b w=true
    · rw [if_pos f2]
      by_cases f3:fitsB r.1 w=true
      · rw [if_pos f3]
        dsimp only
        rw [iteO_df (by simp),iteO_df (by simp),iteO_df (by simp)]
        have key: ∀l,outsL r.1 w=l→Am_ (outsL r.1 w,0) l=some true:=fun l h=>by
          unfold Am_
          dsimp only
          rw [awake18,bnd_mk,iteO_true,h,texts_refl,bnd_mk]
        by_cases c:(((outsL a w).length:Nat):Int)=0
        · rw [iteO_dt c]
          have hnil:outsL a w=[]:=List.length_eq_zero_iff.1 (by omega)
          have hno: ¬ ∃o,Rel a w o:=fun ⟨o,ho⟩=>by
            have:=mem_outs_rel.2 ho
            rw [hnil]at this;cases this
          exact key _ (outs_rel fun o=>by
            rw [hrel]
            exact ⟨fun h=>h.elim (fun h=>absurd ⟨o,h⟩ hno) fun h=>h.1,fun h=> .inr ⟨h,hno⟩⟩)
        rw [iteO_df c]
        obtain ⟨p,hp⟩:=List.exists_mem_of_length_pos (l:=outsL a w) (by omega)
        have hex: ∃o,Rel a w o:=⟨p,mem_outs_rel.1 hp⟩
        exact key _ (outs_rel fun o=>by
          rw [hrel]
          exact ⟨fun h=>h.elim id fun h=>absurd hex h.2,.inl⟩)
      rw [if_neg f3];rfl
    rw [if_neg f2];rfl
  rw [if_neg f1];rfl
end Go.Proofs.YtnpbfjdpglfdkaaGreatDoor
end

noncomputable section
namespace Go.E
open Go Go.ChangeShapes Go.WideShapes
def laidB{H:Type}(l:List UInt8):DataW H:= .agg (l.map fun b=> .lit (.int .u8 ((b.toNat:Nat):Int)))
theorem getElem_drop1{α:Type}(l:List α)(i:Nat):((l.drop (i * 1)).take 1)=(l[i]?).toList:=by
  rw [Nat.mul_one]
  cases h:l[i]? with
  |none=>rw [List.drop_of_length_le (by simpa using h)];rfl
  |some x=>
    obtain ⟨hi,rfl⟩:=List.getElem?_eq_some_iff.1 h
    rw [List.drop_eq_getElem_cons hi];rfl
theorem laid_gt {P : Program} {W : World} {name : String} {g T E : Nat} {l : List UInt8} (h : laidMetH P [(name, laidB l)] W) (hg : P.globalNamed name = some g) (hT : (P.globals[g]?).map (·.type) = some T)
    (hu:P.underlying T=some (.array l.length E)) (hE:P.underlying E=some (.int .u8)) (hc:P.cellsOf E=1) (hcT:P.cellsOf T=l.length) (hl:0<l.length):GT (heapS W) g encU8 l:=by
  rw [MakeChecks.laidMetH_plain _ _ _ (by simp [laidB,DataW.handleName?])]at h
  obtain ⟨ps,⟨g0,t0,cs,fu,p,q,hg0,ht0,hv0,hd0,_,hps⟩,_,hok⟩:=h
  obtain rfl:=Option.some.inj (hg.symm.trans hg0)
  obtain rfl:=Option.some.inj (hT.symm.trans ht0)
  obtain ⟨xs,m,rfl,hx,hlen,hn,hel⟩:=DataW.trod_array hu hd0
  rw [hcT]at hlen
  have hx1:xs.map (·.1)=l.map fun b=>(.lit (.int .u8 ((b.toNat:Nat):Int)):DataW Unit):=by
    have:=congrArg Prod.fst hx
    simp only [laidB,DataW.agg.injEq]at this
    exact this.symm
  have hcs:cs.toList=l.flatMap encU8:=by
    apply List.ext_getElem?
    intro i
    by_cases hi:i<l.length
    · have h1:=hel i hi
      rw [hc,getElem_drop1]at h1
      have hxi:i<xs.length:=by omega
      rw [List.getElem?_eq_getElem hxi]at h1
      obtain ⟨k,e1,e2,_⟩:=DataW.trod_int hE h1
      have h2:(xs.map (·.1))[i]? =some (.lit (.int .u8 k)):=by rw [List.getElem?_map,List.getElem?_eq_getElem hxi,e2];rfl
      rw [hx1,List.getElem?_map,List.getElem?_eq_getElem hi]at h2
      simp only [Option.map_some,Option.some.injEq,DataW.lit.injEq,Lit.int.injEq,true_and]at h2
      have h3:cs.toList[i]? =some (.int .u8 k):=by
        cases hz:cs.toList[i]? with
        |none=>rw [hz]at e1;cases e1
        |some z=>rw [hz]at e1;simp at e1;rw [e1]
      rw [h3,flat_one (enc:=encU8) (fun _=>rfl) (0:UInt8) l i hi,←h2]
      have h4:=getD_some l hi (0:UInt8)
      rw [List.getElem?_eq_getElem hi]at h4
      rw [←Option.some.inj h4];rfl
    rw [List.getElem?_eq_none (by omega),List.getElem?_eq_none (by rw [flatMap_len (size:=1) (fun _=>rfl)];omega)]
  have hmem:MemPlace.cell g 0∈ps:=by
    rw [hps]
    refine List.mem_append_left _ (List.mem_append_left _ ?_)
    simp only [MemPlace.row,List.mem_map,List.mem_range]
    exact ⟨0, by have : cs.size = l.length := by rw [← Array.length_toList, hlen]
                 omega,by simp⟩
  obtain ⟨⟨c,t,hb⟩,_⟩:=hok g 0 hmem
  refine ⟨t,?_⟩
  show W.heap[g]? =_
  have hv:W.var? P name=some c:=by unfold World.var?;rw [hg];simp [hb]
  rw [hv0]at hv
  rw [hb,←Option.some.inj hv,←hcs]
end Go.E
end

section
/- PrunePrior: for every input the law returns true, and each argument reads afterwards as it read before. No condition of ours. -/
namespace Go.Proofs.YtnpbfjdpglfdkaaGreatDoor
open Go Go.E Go.ChangeShapes Go.WideShapes Go.ChangeAt Go.RowKit
theorem prunePrior_own : ownKnob Tryz.prog.godebug = none := by kernel_rfl
theorem prunePrior_laidOut : laidOutB Tryz.prog = true := by kernel_rfl
def prunePrior_laid : List (String × DataW Unit) := [("math/bits.deBruijn64tab", Rows.laid_math_bits_deBruijn64tab)]
theorem prunePrior_g0 : Tryz.prog.globalNamed "math/bits.deBruijn64tab" = some 1 := by kernel_rfl
theorem prunePrior_t0 : (Tryz.prog.globals[1]?).map (·.type) = some 182 := by kernel_rfl
theorem prunePrior_door (os : Os) (args : Array Value) : laidMetH Tryz.prog prunePrior_laid ((World.doorLaid Tryz.prog 400 os).forCall (fun _ _ => 0) ⟨#[], args, []⟩).memory :=
  laidMetH_of_parts3 (fuel := 8) (laidMet_of_run' 8 (by kernel_rfl) (by kernel_rfl)) (by kernel_rfl) (by kernel_rfl)
theorem prunePrior_cells3 : Tryz.prog.cellsOf 3 = 1 := by kernel_rfl
theorem prunePrior_cells4 : Tryz.prog.cellsOf 4 = 1 := by kernel_rfl
theorem prunePrior_cells9 : Tryz.prog.cellsOf 9 = 1 := by kernel_rfl
theorem prunePrior_cells22 : Tryz.prog.cellsOf 22 = 1 := by kernel_rfl
theorem prunePrior_cells23 : Tryz.prog.cellsOf 23 = 1 := by kernel_rfl
theorem prunePrior_cells25 : Tryz.prog.cellsOf 25 = 4 := by kernel_rfl
theorem prunePrior_cells55 : Tryz.prog.cellsOf 55 = 1 := by kernel_rfl
theorem prunePrior_cells57 : Tryz.prog.cellsOf 57 = 4 := by kernel_rfl
theorem prunePrior_cells59 : Tryz.prog.cellsOf 59 = 8 := by kernel_rfl
theorem prunePrior_cells62 : Tryz.prog.cellsOf 62 = 2 := by kernel_rfl
theorem prunePrior_bytes59 : Tryz.prog.bytesOf 59 = 72 := by kernel_rfl
theorem prunePrior_bytes62 : Tryz.prog.bytesOf 62 = 24 := by kernel_rfl
theorem prunePrior_opn3 {w : World} : Opn Tryz.prog w 3 (fun cs (x : Int) => cs = [.int .i64 x]) := Opn.mono (Opn.int Tryz.underlying3) id fun cs x h => h.1
theorem prunePrior_opn9 {w : World} : Opn Tryz.prog w 9 (fun cs (x : List UInt8) => cs = [.string (bs x)]) := Opn.mono (Opn.str Tryz.underlying9) id fun cs x h => h.1
theorem prunePrior_opn62 {w : World} : Opn Tryz.prog w 62 (fun cs (x : Tip) => cs = encTip x) := by
  intro H enc held fuel cs d ps ht hs
  obtain ⟨hl, hp⟩ := open_struct Tryz.underlying62 ht hs
  rw [prunePrior_cells62] at hl
  obtain ⟨x0, h0⟩ := hp 0 _ rfl prunePrior_opn3
  replace h0 : (cs.drop 0).take (Tryz.prog.cellsOf 3) = [.int .i64 x0] := h0
  rw [prunePrior_cells3] at h0
  obtain ⟨x1, h1⟩ := hp 1 _ rfl prunePrior_opn9
  replace h1 : (cs.drop 1).take (Tryz.prog.cellsOf 9) = [.string (bs x1)] := h1
  rw [prunePrior_cells9] at h1
  have e : cs = ((cs.drop 0).take 1 ++ ((cs.drop 1).take 1 ++ cs.drop 2)) := by
    rw [split_at cs 1 1]; rw [split_at cs 0 1]; rfl
  rw [h0, h1, List.drop_of_length_le (by omega)] at e
  exact ⟨⟨x0, x1⟩, e⟩
theorem prunePrior_opn22 {w : World} : Opn Tryz.prog w 22 (fun cs (x : List Tip) => ∃ (a0 : Option Addr) (c0 : Nat), cs = [.slice a0 x.length c0] ∧ RS (heapS w) 2 encTip (.slice a0 x.length c0) x) := Opn.slice Tryz.underlying22 prunePrior_opn62 prunePrior_cells62 (by rw [prunePrior_bytes62]; decide) encTip_len encTip_one
theorem prunePrior_opn57 {w : World} : Opn Tryz.prog w 57 (fun cs (x : BSet) => cs = (setA x).toList) := Opn.set Tryz.underlying57 Tryz.underlying55 prunePrior_cells57 prunePrior_cells55
theorem prunePrior_opn4 {w : World} : Opn Tryz.prog w 4 (fun cs (x : Bool) => cs = [.bool x]) := Opn.bool Tryz.underlying4
theorem prunePrior_opn59 {w : World} : Opn Tryz.prog w 59 (fun cs (x : Arc) => cs = encArc x) := by
  intro H enc held fuel cs d ps ht hs
  obtain ⟨hl, hp⟩ := open_struct Tryz.underlying59 ht hs
  rw [prunePrior_cells59] at hl
  obtain ⟨x0, h0⟩ := hp 0 _ rfl prunePrior_opn3
  replace h0 : (cs.drop 0).take (Tryz.prog.cellsOf 3) = [.int .i64 x0] := h0
  rw [prunePrior_cells3] at h0
  obtain ⟨x1, h1⟩ := hp 1 _ rfl prunePrior_opn3
  replace h1 : (cs.drop 1).take (Tryz.prog.cellsOf 3) = [.int .i64 x1] := h1
  rw [prunePrior_cells3] at h1
  obtain ⟨x2, h2⟩ := hp 2 _ rfl prunePrior_opn57
  replace h2 : (cs.drop 2).take (Tryz.prog.cellsOf 57) = (setA x2).toList := h2
  rw [prunePrior_cells57] at h2
  obtain ⟨x3, h3⟩ := hp 3 _ rfl prunePrior_opn9
  replace h3 : (cs.drop 6).take (Tryz.prog.cellsOf 9) = [.string (bs x3)] := h3
  rw [prunePrior_cells9] at h3
  obtain ⟨x4, h4⟩ := hp 4 _ rfl prunePrior_opn4
  replace h4 : (cs.drop 7).take (Tryz.prog.cellsOf 4) = [.bool x4] := h4
  rw [prunePrior_cells4] at h4
  have e : cs = ((cs.drop 0).take 1 ++ ((cs.drop 1).take 1 ++ ((cs.drop 2).take 4 ++ ((cs.drop 6).take 1 ++ ((cs.drop 7).take 1 ++ cs.drop 8))))) := by
    rw [split_at cs 7 1]; rw [split_at cs 6 1]; rw [split_at cs 2 4]; rw [split_at cs 1 1]; rw [split_at cs 0 1]; rfl
  rw [h0, h1, h2, h3, h4, List.drop_of_length_le (by omega)] at e
  exact ⟨⟨x0, x1, x2, x3, x4⟩, e⟩
theorem prunePrior_opn23 {w : World} : Opn Tryz.prog w 23 (fun cs (x : List Arc) => ∃ (a0 : Option Addr) (c0 : Nat), cs = [.slice a0 x.length c0] ∧ RS (heapS w) 8 encArc (.slice a0 x.length c0) x) := Opn.slice Tryz.underlying23 prunePrior_opn59 prunePrior_cells59 (by rw [prunePrior_bytes59]; decide) encArc_len encArc_one
theorem prunePrior_opn25 {w : World} : Opn Tryz.prog w 25 (fun cs (x : Fst) => ∃ (a0 : Option Addr) (c0 : Nat), ∃ (a1 : Option Addr) (c1 : Nat), ∃ (a2 : Option Addr) (c2 : Nat), cs = [.int .i64 x.states, .slice a0 x.starts.length c0, .slice a1 x.ends.length c1, .slice a2 x.arcs.length c2] ∧ RS (heapS w) 2 encTip (.slice a0 x.starts.length c0) x.starts ∧ RS (heapS w) 2 encTip (.slice a1 x.ends.length c1) x.ends ∧ RS (heapS w) 8 encArc (.slice a2 x.arcs.length c2) x.arcs) := by
  intro H enc held fuel cs d ps ht hs
  obtain ⟨hl, hp⟩ := open_struct Tryz.underlying25 ht hs
  rw [prunePrior_cells25] at hl
  obtain ⟨x0, h0⟩ := hp 0 _ rfl prunePrior_opn3
  replace h0 : (cs.drop 0).take (Tryz.prog.cellsOf 3) = [.int .i64 x0] := h0
  rw [prunePrior_cells3] at h0
  obtain ⟨x1, a1_a0, c1_c0, h1, f1_a0⟩ := hp 1 _ rfl prunePrior_opn22
  replace h1 : (cs.drop 1).take (Tryz.prog.cellsOf 22) = [.slice a1_a0 x1.length c1_c0] := h1
  rw [prunePrior_cells22] at h1
  obtain ⟨x2, a2_a0, c2_c0, h2, f2_a0⟩ := hp 2 _ rfl prunePrior_opn22
  replace h2 : (cs.drop 2).take (Tryz.prog.cellsOf 22) = [.slice a2_a0 x2.length c2_c0] := h2
  rw [prunePrior_cells22] at h2
  obtain ⟨x3, a3_a0, c3_c0, h3, f3_a0⟩ := hp 3 _ rfl prunePrior_opn23
  replace h3 : (cs.drop 3).take (Tryz.prog.cellsOf 23) = [.slice a3_a0 x3.length c3_c0] := h3
  rw [prunePrior_cells23] at h3
  have e : cs = ((cs.drop 0).take 1 ++ ((cs.drop 1).take 1 ++ ((cs.drop 2).take 1 ++ ((cs.drop 3).take 1 ++ cs.drop 4)))) := by
    rw [split_at cs 3 1]; rw [split_at cs 2 1]; rw [split_at cs 1 1]; rw [split_at cs 0 1]; rfl
  rw [h0, h1, h2, h3, List.drop_of_length_le (by omega)] at e
  exact ⟨⟨x0, x1, x2, x3⟩, a1_a0, c1_c0, a2_a0, c2_c0, a3_a0, c3_c0, e, f1_a0, f2_a0, f3_a0⟩
set_option maxRecDepth 100000 in
theorem prunePrior_lifted (os : Os) (started : os.Started) (H : Type) (enc : TypeId × Value → H) :
    ReturnsInHanded {} Tryz.checked os 4 .any (fun w args => (Rows.prunePriorSpec.pre enc Tryz.prog Tryz.f4 [] false w args ∧ laidMetH Tryz.prog prunePrior_laid w) ∧ sizedMet enc Tryz.prog Tryz.f4 (OpenSpec.ofChange Rows.prunePriorSpec) false w args)
      (Rows.prunePriorSpec.post enc Tryz.prog Tryz.f4 false true false false) := by
  refine returnsInHanded_of_change_and (C := Tryz.checked) (X := fun w _ => laidMetH Tryz.prog prunePrior_laid w) (fun _ _ _ hh h => h.of_heap hh) prunePrior_own started (by kernel_rfl) Tryz.func4
    (ChangeSpec.witness_shaped (enc := enc) (C := Tryz.checked) (os := os) (X := fun w _ => laidMetH Tryz.prog prunePrior_laid w) false (World.doorLaid Tryz.prog 400 os) #[.agg #[.int .i64 0, .slice none 0 0, .slice none 0 0, .slice none 0 0], .agg #[.int .i64 0, .slice none 0 0, .slice none 0 0, .slice none 0 0], .string ⟨#[]⟩] 8 rfl (World.shaped_of_RefB (by kernel_rfl) (by kernel_rfl)) (by kernel_rfl) (by kernel_rfl) (by kernel_rfl) (prunePrior_door os _)) ?_
  intro W base args ds gs before hval0 hW _ hsz0 hL _
  have hgl := laid_gt (P := Tryz.prog) (l := deB) (by exact hL) prunePrior_g0 prunePrior_t0 (by exact Tryz.underlying182) Tryz.underlying5 (by kernel_rfl) (by kernel_rfl) (by decide)
  have hsz1 : (DataW.weightsEach Tryz.prog (Tryz.f4.params.toList ++ Rows.prunePriorSpec.plain.varTypes Tryz.prog) (ds ++ gs)).all (· ≤ reachBytes) = true := hsz0
  have hval : ∀ (j : Nat) t v, Tryz.f4.params[j]? = some t → args[j]? = some v → Value.okWide Tryz.prog W .any base t v := hval0
  have hW' := hW
  obtain ⟨p, q, hA0, hV, rfl, hfz, hnd⟩ := hW
  have hA : DataW.TrodAll enc Tryz.prog W 0 (fun _ => true) true Tryz.f4.params.toList args.toList ds p := hA0
  rw [Tryz.params4] at hA hval hsz1
  have hsm := small_of hsz1
  obtain ⟨v0, vs0, d0, ds0, p0, q0, hargs, rfl, rfl, h0, r0⟩ := trodAll_cons hA
  obtain ⟨v1, vs1, d1, ds1, p1, q1, rfl, rfl, rfl, h1, r1⟩ := trodAll_cons r0
  obtain ⟨v2, vs2, d2, ds2, p2, q2, rfl, rfl, rfl, h2, r2⟩ := trodAll_cons r1
  obtain ⟨rfl, rfl, rfl⟩ := trodAll_nil r2
  obtain rfl : args = #[v0, v1, v2] := by cases args; simp_all
  obtain ⟨rfl, rfl⟩ := trodVars_none hV
  clear hA0 hval0 hsz0 hsz1
  have s0 := weights_at (P := Tryz.prog) (i := 0) rfl rfl hsm
  have k0 := h0
  have lt0 : ∀ x ∈ p0, x.block < W.heap.size := by obtain ⟨m, hm⟩ := k0; exact DataW.trod_lt m _ _ _ hm
  obtain ⟨n0, rfl⟩ := okWide_agg Tryz.underlying25 (.inl ⟨_, rfl⟩) (hval 0 25 v0 rfl rfl)
  obtain ⟨x0, a0_0, c0_0, a0_1, c0_1, a0_2, c0_2, e0, f0_0, f0_1, f0_2⟩ := prunePrior_opn25.arg h0 s0
  replace e0 := agg_of e0
  have g0 : ∀ W', Below W.heap.size W W' → DataW.Trod enc Tryz.prog W' 0 (fun b => decide (b < W.heap.size)) true 25 _ d0 p0 := fun W' bel => Below.trod prunePrior_laidOut (by kernel_rfl) (of_decide_eq_true (by kernel_rfl)) k0 bel lt0
  have s1 := weights_at (P := Tryz.prog) (i := 1) rfl rfl hsm
  have k1 := h1
  have lt1 : ∀ x ∈ p1, x.block < W.heap.size := by obtain ⟨m, hm⟩ := k1; exact DataW.trod_lt m _ _ _ hm
  obtain ⟨n1, rfl⟩ := okWide_agg Tryz.underlying25 (.inl ⟨_, rfl⟩) (hval 1 25 v1 rfl rfl)
  obtain ⟨x1, a1_0, c1_0, a1_1, c1_1, a1_2, c1_2, e1, f1_0, f1_1, f1_2⟩ := prunePrior_opn25.arg h1 s1
  replace e1 := agg_of e1
  have g1 : ∀ W', Below W.heap.size W W' → DataW.Trod enc Tryz.prog W' 0 (fun b => decide (b < W.heap.size)) true 25 _ d1 p1 := fun W' bel => Below.trod prunePrior_laidOut (by kernel_rfl) (of_decide_eq_true (by kernel_rfl)) k1 bel lt1
  have s2 := weights_at (P := Tryz.prog) (i := 2) rfl rfl hsm
  have k2 := h2
  have lt2 : ∀ x ∈ p2, x.block < W.heap.size := by obtain ⟨m, hm⟩ := k2; exact DataW.trod_lt m _ _ _ hm
  obtain ⟨n2, rfl⟩ := okWide_string Tryz.underlying9 (hval 2 9 v2 rfl rfl)
  obtain ⟨x2, e2, b2⟩ := Opn.arg (Opn.str Tryz.underlying9) h2 s2
  simp only [Value.cells] at e2
  replace e2 := List.head_eq_of_cons_eq e2
  have g2 : ∀ W', Below W.heap.size W W' → DataW.Trod enc Tryz.prog W' 0 (fun b => decide (b < W.heap.size)) true 9 _ d2 p2 := fun W' bel => Below.trod prunePrior_laidOut (by kernel_rfl) (of_decide_eq_true (by kernel_rfl)) k2 bel lt2
  have hcall : Calls Tryz.prog 4 #[.agg ([.int .i64 x0.states, .slice a0_0 x0.starts.length c0_0, .slice a0_1 x0.ends.length c0_1, .slice a0_2 x0.arcs.length c0_2]).toArray, .agg ([.int .i64 x1.states, .slice a1_0 x1.starts.length c1_0, .slice a1_1 x1.ends.length c1_1, .slice a1_2 x1.arcs.length c1_2]).toArray, .string (bs x2)] W fun e w' => e = .returned (.bool true) ∧ Below W.heap.size W w' := Con.below (Gm_ hgl f0_0 f0_1 f0_2 f1_0 f1_1 f1_2 (prunePrior_eq x0 x1 x2 (Nat.le_trans b2 (by decide))))
  have hcall2 : Calls Tryz.prog 4 #[(.agg n0), (.agg n1), (.string n2)] W fun e w' => e = .returned (.bool true) ∧ Below W.heap.size W w' := by
    rw [e0, e1, e2]; exact hcall
  refine hcall2.mono fun e W' ⟨he, bel⟩ => ?_
  subst he
  exact ⟨_, rfl, _, _, _, [], _, [], hW', trodAll_mk1 (shut_bool Tryz.underlying4 _), (trodAll_cons_mk (g0 W' bel) (trodAll_cons_mk (g1 W' bel) (trodAll_cons_mk (g2 W' bel) trodAll_mk0))), rfl, bel.frame _, fun h => by cases h⟩
theorem prunePrior_over : Rows.prunePriorRow.holds Tryz.pinned (OpenSpec.ofChange Rows.prunePriorSpec) :=
  OpenClaim.holds_of_wide 4 Tryz.f4 rfl rfl rfl rfl rfl rfl rfl ⟨rfl, rfl, rfl, rfl, rfl⟩ rfl rfl rfl rfl rfl (by kernel_rfl) Tryz.func4 (by kernel_rfl)
    (of_decide_eq_true (by kernel_rfl)) (by unfold Func.isWrapper; first | (rw [if_pos (by decide +kernel)]; kernel_rfl) | (rw [if_neg (by decide +kernel)]; exact ⟨rfl, rfl⟩))
    (fun os started H enc _ => prunePrior_lifted os started H enc)
theorem prunePrior_row : Rows.PrunePriorSaid := prunePrior_over
#print axioms prunePrior_row
theorem prunePrior_plain : ∀ (j : Nat) (t : TypeId), Tryz.f4.params[j]? = some t → Tryz.prog.wantsStandIn t = false := fun j t ht => by
  rw [Tryz.params4] at ht
  have hm : t ∈ [25, 25, 9] := by simpa using Array.mem_of_getElem? ht
  have hall : ([25, 25, 9].all fun u => !Tryz.prog.wantsStandIn u) = true := by kernel_rfl
  exact (show Tryz.prog.wantsStandIn t = false by simpa using List.all_eq_true.1 hall t hm)
theorem prunePrior_holds : Rows.PrunePriorCardSaid :=
  Claim7.holds_tied_plain_at .later [] [.data] true (true, "5bff0d10015e8d0f9719458ee5262314827b9f177fc02a5f39dacb07f361863a") false
    prunePrior_row (fun _ h => by cases h) (by kernel_rfl) (fun _ h => by cases h) prunePrior_row_tie rfl ⟨rfl, rfl⟩ (by kernel_rfl) rfl
    (fun f fn hf hfn => by
      obtain rfl : f = 4 := Option.some.inj ((show Tryz.prog.funcNamed "whittle/whittlelaw18.PrunePrior" = some 4 by kernel_rfl).symm.trans hf) |>.symm
      obtain rfl : fn = Tryz.f4 := (Option.some.inj (Tryz.func4.symm.trans hfn)).symm
      exact ⟨by kernel_rfl, prunePrior_plain⟩)
    (by kernel_rfl)
#print axioms prunePrior_holds
end Go.Proofs.YtnpbfjdpglfdkaaGreatDoor
end
