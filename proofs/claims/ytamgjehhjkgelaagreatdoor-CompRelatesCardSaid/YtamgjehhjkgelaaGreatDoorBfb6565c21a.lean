/- Parts of a proof, one behind the other: what a machine reaches, functions decompiled, plain lemmas. Conditions stand with each lemma. -/
import Derived.Test.YtamgjehhjkgelaaGreatDoorBdb4d7dfad8
import Derived.Shelf.SlSortCmp.NoneTotal
import Derived.Shelf.Sort.Plain
import Derived.Shelf.Slices.In.SortNone
import Derived.Test.YtamgjehhjkgelaaGreatDoorProg
import Derived.RangeFuncLeaves

set_option linter.unusedVariables false
set_option linter.unusedSimpArgs false
set_option linter.unusedSectionVars false
set_option maxRecDepth 100000
set_option maxHeartbeats 8000000
variable {σ:Go.E.Store}{a0_0 a0_1 a0_2 a0_3 a0_5 a1_0 a1_1 a2_0:Option Go.Addr}{Eb0 Eb1 Eb2 b0_0 b0_5 b1_0 b2_0 c0_0 c0_1 c0_2 c0_4 c0_6 c1_0 c1_2 c2_0:Nat}

noncomputable section
namespace Go.E
open Go Go.Sort Go.Proofs Go.Shelf
theorem Reach.grown{w w':World}{H:List Res}(h:Reach w [] (fun _=>none) σ w' H): ∃q os',w'=grow (w.drewN q) os':=by
  refine ⟨w'.drawn - w.drawn,w'.heap.extract w.heap.size w'.heap.size,?_⟩
  have h1:w'.heap=w.heap++w'.heap.extract w.heap.size w'.heap.size:=by
    apply Array.ext_getElem?
    intro i
    rw [Array.getElem?_append]
    split
    · rename_i hi;exact h.frame i hi (by simp)
    rename_i hi
    by_cases hl:i<w'.heap.size
    · rw [Array.getElem?_extract_of_lt (by omega)];simp only [show w.heap.size+(i - w.heap.size)=i by omega];exact Array.getElem?_eq_getElem hl
    rw [Array.getElem?_eq_none (by omega),Array.getElem?_eq_none (by simp;omega)]
  have h2:=h.drawn
  cases w' with
  |mk heap tape drawn os output=>
    have e1:=h.os;have e2:=h.tape;have e3:=h.output
    simp only at h1 h2 e1 e2 e3
    simp only [grow,World.drewN]
    rw [World.mk.injEq]
    exact ⟨h1,e2,by omega,e1,e3⟩
theorem reach_nil(w:World):Reach w [] (fun _=>none) (fun _=>none) w []:=
  ⟨rfl,rfl,rfl,Nat.le_refl _,fun _ _ _=>rfl,Store.le.refl _,(fun _ _ h=>by cases h),(fun _ _ h=>by cases h),by simp,by simp,by simp [blks],by simp,Nat.le_refl _⟩
section
variable {α:Type} [Inhabited α] {P:Program}
theorem cmpLays1_of{g:Nat}{enc:α→Value}{cf:α→α→Int}{blk off size:Nat}{w:World}(h: ∀x y τ,Con P g #[enc x,enc y] τ [] (PureP (.int .i64 (cf x y)) τ)):CmpLays1 P g #[] enc cf blk off size w:=by
  intro m os dk _ x y
  refine (h x y (fun _=>none) _ (reach_nil _)).mono fun e w' ⟨r,σ',H',he,⟨hr,_,_⟩,k⟩=>⟨by rw [he,hr],Reach.grown k⟩
theorem cmpLays_of{g k:Nat}{enc:α→List Value}{cf:α→α→Int}{blk off size:Nat}{w:World}(h: ∀x y τ,Con P g #[.agg (enc x).toArray,.agg (enc y).toArray] τ [] (PureP (.int .i64 (cf x y)) τ)):CmpLays P g #[] enc k cf blk off size w:=by
  intro m os dk _ x y
  refine (h x y (fun _=>none) _ (reach_nil _)).mono fun e w' ⟨r,σ',H',he,⟨hr,_,_⟩,k⟩=>⟨by rw [he,hr],Reach.grown k⟩
end
theorem getBang{α:Type}[Inhabited α](l:List α)(i:Nat)(h:i<l.length):l.toArray[i]! =l[i]:=by simp [h]
theorem Reach.sorted{w0:World}{C:List Nat}{σ0 σ:Store}{w:World}{F:List Res}{E size n cap g m:Nat}{xs xs':List Value}{os:Array Obj}(h:Reach w0 C σ0 σ w (Res.row E size (.slice (some ⟨g,0,none⟩) n cap) n xs::F))(hl:xs'.length=xs.length)(h1: ∀u∈xs',u.oneCell'=true):
    Reach w0 C σ0 σ (grow (putRow (id:Value→Value) (Sort.ahead w m) g 0 xs'.toArray) os) (Res.row E size (.slice (some ⟨g,0,none⟩) n cap) n xs'::F):=by
  obtain ⟨hown,hone,hbg⟩:=h.holds _ (List.mem_cons_self ..)
  obtain ⟨hlen,hc⟩:=hown
  rcases hc with ⟨hc,_⟩|⟨g',cap',cur,hv,hb0,hg,h3,h4,h5,h6⟩
  · cases hc
  cases hv
  have hgl:g<w.heap.size:=(Array.getElem?_eq_some_iff.1 hg).1
  have hnew:(grow (putRow (id:Value→Value) (Sort.ahead w m) g 0 xs'.toArray) os).heap[g]? =some (.cells (putCells (id:Value→Value) 0 xs'.toArray cur) E):=by
    rw [heap_grow_old _ _ (by simpa using hgl)]
    simp [putRow,mapBlock,Sort.ahead,Array.getElem?_modify,hg,onCells]
  have hold: ∀k,k<w.heap.size→k≠g→(grow (putRow (id:Value→Value) (Sort.ahead w m) g 0 xs'.toArray) os).heap[k]? =w.heap[k]? :=by
    intro k hk hne
    rw [heap_grow_old _ _ (by simpa using hk)]
    have:g≠k:=fun e=>hne e.symm
    simp [putRow,mapBlock,Sort.ahead,Array.getElem?_modify,this]
  have hcur:xs.length≤cur.size:=by
    have:=congrArg List.length h6
    simp at this;omega
  refine h.turn1 (some g) (some g) rfl rfl rfl rfl rfl (by simp [grow]) (by simp [grow,putRow,mapBlock,Sort.ahead]) (fun k hk hne=>hold k hk fun e=>hne (by rw [e])) ⟨⟨by rw [hl];exact hlen,.inr ⟨g,cap,_,rfl,hb0,hnew,h3,h4,by simp [putCells,h5],?_⟩⟩,h1,hbg⟩ (fun b hb=> .inl hb)
  apply List.ext_getElem?
  intro i
  by_cases hi:i<n * size
  · have hi2:i<xs'.length:=by rw [hl,hlen];exact hi
    rw [List.getElem?_take_of_lt hi,Array.getElem?_toList]
    simp [putCells,hi2,show i<cur.size by omega]
  rw [List.getElem?_take_eq_none (by omega),List.getElem?_eq_none (by omega)]
theorem holds_row{w:World}{E size n cap g:Nat}{xs:List Value}(h:w.ownsRow 0 E size (.slice (some ⟨g,0,none⟩) n cap) n xs):Holds (id:Value→Value) w g 0 xs.toArray∧g<w.heap.size:=by
  obtain ⟨hlen,hc⟩:=h
  rcases hc with ⟨hc,_⟩|⟨g',cap',cur,hv,hb0,hg,h3,h4,h5,h6⟩
  · cases hc
  cases hv
  refine ⟨fun j hj=> ?_,(Array.getElem?_eq_some_iff.1 hg).1⟩
  have hj':j<xs.length:=by simpa using hj
  refine ⟨?_,by simp [World.frozen?,hg]⟩
  have h7:(cur.toList.take (n * size))[j]? =xs[j]? :=by rw [h6]
  rw [List.getElem?_take_of_lt (by omega)]at h7
  simp only [World.cell?,hg,Nat.zero_add,Option.isSome_none,Bool.false_eq_true,if_false]
  rw [←Array.getElem?_toList,h7]
  simp [hj']
theorem putRow_id{α:Type}[Inhabited α](enc:α→Value)(w:World)(g:Nat)(l:List α):putRow enc w g 0 l.toArray=putRow (id:Value→Value) w g 0 (l.map enc).toArray:=by
  unfold putRow
  congr 1
  funext c
  unfold putCells
  apply Array.ext_getElem?
  intro i
  simp only [Array.getElem?_mapIdx]
  cases hc:c[i]? with
  |none=>rfl
  |some v=>
    simp only [Option.map_some,Nat.zero_le,true_and,Nat.zero_add,Nat.sub_zero,List.size_toArray,List.length_map]
    split
    · rename_i hi;simp [hi]
    rfl
theorem flatK_list {α : Type} [Inhabited α] {enc : α → List Value} {k : Nat} (hk : ∀ x, (enc x).length = k) (l : List α) : flatK enc k l.toArray = (l.flatMap enc).toArray := by
  have hl:(l.flatMap enc).length=l.length * k:=flatMap_len hk l
  refine ext_get! (by simp [hl]) fun t ht=> ?_
  have ht':t<l.length * k:=by simpa using ht
  have k0 : 0 < k := by rcases Nat.eq_zero_or_pos k with h | h
                        · subst h;simp at ht'
                        exact h
  have hd:t / k<l.length:=Nat.div_lt_of_lt_mul (by rw [Nat.mul_comm];exact ht')
  have hm:t % k<k:=Nat.mod_lt _ k0
  rw [get_flatK _ _ _ _ (by simpa using ht'),getBang l _ hd]
  have h2:=flatMap_get hk l (t / k) (t % k) l[t / k] (List.getElem?_eq_getElem hd) hm
  rw [Nat.div_add_mod' t k]at h2
  have hb:t<(l.flatMap enc).toArray.size:=by simpa [hl]using ht'
  have h3:(l.flatMap enc).toArray[t]! =(enc l[t / k])[t % k]! :=by
    rw [getElem!_pos (l.flatMap enc).toArray t hb]
    have h4:(l.flatMap enc)[t]? =some ((l.flatMap enc).toArray[t]'hb):=by rw [←List.getElem?_toArray];exact Array.getElem?_eq_getElem hb
    rw [h2]at h4
    have hlt:t % k<(enc l[t / k]).length:=by rw [hk];exact hm
    rw [List.getElem?_eq_getElem hlt,Option.some.injEq]at h4
    rw [getElem!_pos (enc l[t / k]) (t % k) hlt,h4]
  rw [h3]
def sortL{α:Type}(cf:α→α→Int)(l:List α):List α:=l.mergeSort fun x y=> !decide (cf y x<0)
def SortP{α:Type}(E size:Nat)(enc:α→List Value)(a:Option Addr)(c:Nat)(l l':List α)(σ:Store):Value→Store→List Res→Prop:=fun v σ' H'=>v= .tuple #[]∧σ=σ'∧H'=[Res.rowS E size enc (.slice a l.length c) l']
structure TotalCmp {α:Type} (cf:α→α→Int):Prop where
  swo:SWO (ltOf cf)
  tot: ∀x y,ltOf cf x y=false→ltOf cf y x=false→x=y
section
variable {α:Type} [Inhabited α] {P:Program} {ρ:Ren}
theorem Con.sort1(L:SlLaysF.n6 P ρ)(L0:SlLaysF0.n6 P ρ){enc:α→Value}{encL:α→List Value}{cf:α→α→Int}{f g E c:Nat}{a:Option Addr}{l:List α}(hf:ρ.f 6=f)(he: ∀x,encL x=[enc x])(h1:OneCell enc)(hO:TotalCmp cf)
    (eg: ∀args w,(callFunc g args).run P w= .ok (.enter g args) w) (hc: ∀x y τ,Con P g #[enc x,enc y] τ [] (PureP (.int .i64 (cf x y)) τ)):
    Con P f #[.slice a l.length c,.func (.func g) #[] #[]] σ [Res.rowS E 1 encL (.slice a l.length c) l] (SortP E 1 encL a c l (sortL cf l) σ):=by
  subst hf
  have hflat: ∀l:List α,l.flatMap encL=l.map enc:=fun l=>by
    induction l with
    |nil=>rfl
    |cons x l ih=>rw [List.flatMap_cons,ih,he];rfl
  have hlen:(sortL cf l).length=l.length:=List.length_mergeSort _
  intro w hw
  obtain ⟨hown,hone,hbg⟩:=hw.holds _ (List.mem_cons_self ..)
  have hsl:=isSl_row hown
  rcases id hown.2 with ⟨hn,hm⟩|⟨g',cap',cur,hv,hb0,hg,h3,h4,h5,h6⟩
  · have hl0:l=[]:=List.eq_nil_of_length_eq_zero hm
    subst hl0
    refine (AnyF.slices_SortFunc_none L0 a c (.func (.func g) #[] #[]) w).mono fun e w' ⟨h1,h2⟩=>⟨_,σ,_,h1,⟨rfl,rfl,rfl⟩,?_⟩
    subst h2
    rw [show sortL cf ([]:List α)=[]from by simp [sortL]]
    exact hw
  cases hv
  have hH:=holds_row hown
  rw [hflat]at hH
  have hHe:Holds enc w g' 0 l.toArray:=fun j hj=>by
    have:=hH.1 j (by simpa using hj)
    have hj':j<l.length:=by simpa using hj
    simpa [hj']using this
  have hsz:l.toArray.size<4611686018427387904:=by simp;omega
  have:=Any.slices_SortFunc_total L enc h1 cf hO.swo g #[] g' 0 c l.toArray w eg (cmpLays1_of hc) hHe hH.2 hsz hO.tot
  refine this.mono fun e w' ⟨h7,n,os,h8⟩=>⟨_,σ,_,h7,⟨rfl,rfl,rfl⟩,?_⟩
  subst h8
  have h9:(l.toArray.toList.mergeSort fun x y=> !(ltOf cf) y x)=sortL cf l:=rfl
  rw [h9]
  unfold sortWorld
  rw [putRow_id]
  have:=Reach.sorted (h:=hw) (m:=n) (os:=os) (xs':=(sortL cf l).map enc) (by rw [hflat,List.length_map,List.length_map,hlen]) (fun u hu=>by
    obtain ⟨x,_,rfl⟩:=List.mem_map.1 hu
    exact h1 x)
  unfold Res.rowS
  rw [hflat (sortL cf l),hlen]
  exact this
theorem Con.sortK(L:SlLaysF0.n6 P ρ){k:Nat}{enc:α→List Value}{cf:α→α→Int}{f g E c:Nat}{a:Option Addr}{l:List α}(hf:ρ.f 6=f)(aE: ∀w,(isAgg (ρ.t 24)).run P w= .ok true w)(zE: ∀w,(Go.sizeOf (ρ.t 24)).run P w= .ok k w)(hk: ∀x,(enc x).length=k)(h1: ∀x, ∀u∈enc x,u.oneCell'=true)(hO:TotalCmp cf)
    (eg: ∀args w,(callFunc g args).run P w= .ok (.enter g args) w) (hc: ∀x y τ,Con P g #[.agg (enc x).toArray,.agg (enc y).toArray] τ [] (PureP (.int .i64 (cf x y)) τ)):
    Con P f #[.slice a l.length c,.func (.func g) #[] #[]] σ [Res.rowS E k enc (.slice a l.length c) l] (SortP E k enc a c l (sortL cf l) σ):=by
  subst hf
  have hlen:(sortL cf l).length=l.length:=List.length_mergeSort _
  intro w hw
  obtain ⟨hown,hone,hbg⟩:=hw.holds _ (List.mem_cons_self ..)
  rcases id hown.2 with ⟨hn,hm⟩|⟨g',cap',cur,hv,hb0,hg,h3,h4,h5,h6⟩
  · have hl0:l=[]:=List.eq_nil_of_length_eq_zero hm
    subst hl0
    refine (AnyF.slices_SortFunc_none L a c (.func (.func g) #[] #[]) w).mono fun e w' ⟨h1,h2⟩=>⟨_,σ,_,h1,⟨rfl,rfl,rfl⟩,?_⟩
    subst h2
    rw [show sortL cf ([]:List α)=[]from by simp [sortL]]
    exact hw
  cases hv
  have hH:=holds_row hown
  have hHe:HoldsK enc k w g' 0 l.toArray:=by
    unfold HoldsK;rw [flatK_list hk];exact hH.1
  have hsz:l.toArray.size<4611686018427387904:=by simp;omega
  have:=AnyQ.slices_SortFunc_total L k aE zE enc hk h1 cf hO.swo g #[] g' 0 c l.toArray w eg (cmpLays_of hc) hHe hH.2 hsz hO.tot
  refine this.mono fun e w' ⟨h7,n,os,h8⟩=>⟨_,σ,_,h7,⟨rfl,rfl,rfl⟩,?_⟩
  subst h8
  have h9:(l.toArray.toList.mergeSort fun x y=> !(ltOf cf) y x)=sortL cf l:=rfl
  rw [h9]
  unfold sortWorldK putRowK
  rw [flatK_list hk]
  have:=Reach.sorted (h:=hw) (m:=n) (os:=os) (xs':=(sortL cf l).flatMap enc) (by rw [flatMap_len hk,flatMap_len hk,hlen]) (fun u hu=>by
    obtain ⟨x,_,hx⟩:=List.mem_flatMap.1 hu
    exact h1 x u hx)
  unfold Res.rowS
  rw [hlen]
  exact this
end
end Go.E
end

noncomputable section
namespace Go.E
open Go Go.Sort Go.Proofs Go.Shelf
theorem flat_encI(l:List Int):l.flatMap eI_=l.map (Value.int .i64):=by
  induction l with
  |nil=>rfl
  |cons x l ih=>rw [List.flatMap_cons,ih];rfl
theorem Con.sortInt{P:Program}{ρ:Ren}(L:Lays.n189 P ρ){f E c:Nat}{a:Option Addr}{l:List Int}(hf:ρ.f 189=f):
    Con P f #[.slice a l.length c] σ [Res.rowS E 1 eI_ (.slice a l.length c) l] (SortP E 1 eI_ a c l (l.mergeSort fun x y=>decide (x≤y)) σ):=by
  subst hf
  have hlen:(l.mergeSort fun x y=>decide (x≤y)).length=l.length:=List.length_mergeSort _
  intro w hw
  obtain ⟨hown,hone,hbg⟩:=hw.holds _ (List.mem_cons_self ..)
  have hsl:=isSl_row hown
  rcases id hown.2 with ⟨hn,hm⟩|⟨g',cap',cur,hv,hb0,hg,h3,h4,h5,h6⟩
  · have hl0:l=[]:=List.eq_nil_of_length_eq_zero hm
    subst hl0
    refine (Any.slices_Sort_int_none L a c w).mono fun e w' ⟨h1,h2⟩=>⟨_,σ,_,h1,⟨rfl,rfl,rfl⟩,?_⟩
    subst h2
    rw [show (([]:List Int).mergeSort fun x y=>decide (x≤y))=[]from by simp]
    exact hw
  cases hv
  have hH:=holds_row hown
  rw [flat_encI]at hH
  have hHe:Holds (Value.int .i64) w g' 0 l.toArray:=fun j hj=>by
    have:=hH.1 j (by simpa using hj)
    have hj':j<l.length:=by simpa using hj
    simpa [hj']using this
  have hsz:l.length<4611686018427387904:=by omega
  have:=Any.slices_Sort_int L g' 0 c l w hHe hH.2 hsz
  refine this.mono fun e w' ⟨h7,n,os,h8⟩=>⟨_,σ,_,h7,⟨rfl,rfl,rfl⟩,?_⟩
  subst h8
  rw [putRow_id]
  have:=Reach.sorted (h:=hw) (m:=n) (os:=os) (xs':=(l.mergeSort fun x y=>decide (x≤y)).map (Value.int .i64)) (by rw [flat_encI,List.length_map,List.length_map,hlen]) (fun u hu=>by
    obtain ⟨x,_,rfl⟩:=List.mem_map.1 hu
    rfl)
  unfold Res.rowS
  rw [flat_encI (l.mergeSort fun x y=>decide (x≤y)),hlen]
  exact this
theorem OpOk.make0S{X:Ctx}{e:Env}{H:List Res}{o:Oper}{x y:Operand}{K:Env→Store→List Res→Prop}{α:Type}{T E size by_ d m:Nat}{kl kc:IntKind}{enc:α→List Value}{z:Value}(ho:o.op= .makeSlice T x y)(ht:X.P.underlying T=some (.slice E))(hs:szOf X.P E=some size)(hby:byOf X.P E=some by_)(hz:zeroOf X.P E=some z)
    (hd:o.dst=some d) (hn:Nat.blt d X.n=true) (hx:ev e x= .int kl 0) (hy:ev e y= .int kc (m:Nat)) (hb:by_ * m≤281474976710656) (hby0:0<by_)
    (k: ∀a c,K (upd e d (.slice a ([]:List α).length c)) σ (Res.rowS E size enc (.slice a ([]:List α).length c) []::H)):OpOk X o e σ H K:=OpOk.make0 ho ht hs hby hz hd hn hx hy hb hby0 k
theorem Con.lendG{P:Program}{f:FuncId}{args:Array Value}{F:List Res}{v:Value}{α:Type}{E size:Nat}{enc:α→List Value}{l:List α}{Post:Store→Value→Store→List Res→Prop}(hl: ∀x,(enc x).length=size)
    (hP: ∀τ τ' r σ' H',Post τ r σ' H'→σ'=τ∧Post τ' r τ' H') (h: ∀τ,σ.le τ→RS τ size enc v l→Con P f args τ F (Post τ)):Con P f args σ (Res.rowS E size enc v l::F) (fun r σ' H'=> ∃H'',Post σ r σ' H''∧H'=H''++[Res.rowS E size enc v l]):=by
  intro w hw
  obtain ⟨τ,h1,h2,h3⟩:=hw.sealRow
  have h0:Reach w (blks F) τ τ w F:=⟨rfl,rfl,rfl,Nat.le_refl _,fun _ _ _=>rfl,Store.le.refl _,h1.fit,fun b o hb=> .inl hb,h1.holds,fun r hr b hb=> .inl (mem_blks.2 ⟨r,hr,hb⟩),h1.nodup,h1.apart,Nat.le_refl _⟩
  refine (h τ h2 ⟨h3,hl⟩ w h0).mono fun ex w' ⟨r',σ',H',he,hp,k⟩=> ?_
  obtain ⟨e2,hp'⟩:=hP τ σ r' σ' H' hp
  subst e2
  refine ⟨r',σ,_,he,⟨H',hp',rfl⟩,?_⟩
  have hb: ∀b,b∈(Res.rowS E size enc v l).bl→b<w.heap.size∧b∉blks F:=fun b hb=>by
    refine ⟨hw.block_lt (List.mem_cons_self ..) hb,fun hx=> ?_⟩
    have hnd:=hw.nodup
    simp only [blks,List.flatMap_cons]at hnd
    exact (nodup_app.1 hnd).2.2 b hb hx
  have hF: ∀b,b∈blks F→b∈blks (Res.rowS E size enc v l::F):=fun b hx=>by
    obtain ⟨r2,hr2,hb2⟩:=mem_blks.1 hx
    exact mem_blks.2 ⟨r2,List.mem_cons_of_mem _ hr2,hb2⟩
  have hframe: ∀i,i<w.heap.size→i∉blks F→w'.heap[i]? =w.heap[i]? :=k.frame
  refine ⟨k.os,k.tape,k.output,k.size,fun i hi hn=>hframe i hi fun hx=>hn (hF i hx),Store.le.refl _,fun b o hs=>k.fit b o (h2 b o hs),fun b o hs=> .inl hs,?_,?_,?_,?_,k.drawn⟩
  · intro r2 hr2
    rcases List.mem_append.1 hr2 with hr2|hr2
    · exact k.holds r2 hr2
    rw [List.mem_singleton.1 hr2]
    exact (Res.rowS E size enc v l).keep w w' (fun b hbb=>hframe b (hb b hbb).1 (hb b hbb).2) (hw.holds _ (List.mem_cons_self ..))
  · intro r2 hr2 b hb2
    rcases List.mem_append.1 hr2 with hr2|hr2
    · exact (k.own r2 hr2 b hb2).imp (hF b) id
    rw [List.mem_singleton.1 hr2]at hb2
    exact .inl (mem_blks.2 ⟨_,List.mem_cons_self ..,hb2⟩)
  · have e:blks (H'++[Res.rowS E size enc v l])=blks H'++(Res.rowS E size enc v l).bl:=by simp [blks,List.flatMap_append]
    rw [e,nodup_app]
    refine ⟨k.nodup,?_,fun b hx hy=> ?_⟩
    · have hnd:=hw.nodup
      simp only [blks,List.flatMap_cons]at hnd
      exact (nodup_app.1 hnd).1
    obtain ⟨r2,hr2,hb2⟩:=mem_blks.1 hx
    have:=hb b hy
    rcases k.own r2 hr2 b hb2 with h4|h4
    · exact this.2 h4
    omega
  intro r2 hr2 b hb2
  rcases List.mem_append.1 hr2 with hr2|hr2
  · cases hs:σ b with
    |none=>rfl
    |some o=>have:=k.apart r2 hr2 b hb2;rw [h2 b o hs]at this;cases this
  rw [List.mem_singleton.1 hr2]at hb2
  exact hw.apart _ (List.mem_cons_self ..) b hb2
end Go.E
end

noncomputable section
namespace Go.Proofs.YtamgjehhjkgelaaGreatDoor
open Go Go.E
theorem sortInt_con{a:Option Addr}{c:Nat}{l:List Int}:Con Tryz.prog 107 #[.slice a l.length c] σ [Res.rowS 3 1 eI_ (.slice a l.length c) l] (SortP 3 1 eI_ a c l (l.mergeSort fun x y=>decide (x≤y)) σ):=Con.sortInt layInt rfl
end Go.Proofs.YtamgjehhjkgelaaGreatDoor
end

noncomputable section
namespace Go.Proofs.YtamgjehhjkgelaaGreatDoor
open Go
theorem ag3:Go.E.aggOf Tryz.prog 3=some false:=by kernel_rfl
theorem ag46:Go.E.aggOf Tryz.prog 46=some false:=by kernel_rfl
theorem ag5:Go.E.aggOf Tryz.prog 5=some false:=by kernel_rfl
theorem ag53:Go.E.aggOf Tryz.prog 53=some false:=by kernel_rfl
theorem ag55:Go.E.aggOf Tryz.prog 55=some true:=by kernel_rfl
theorem ag58:Go.E.aggOf Tryz.prog 58=some true:=by kernel_rfl
theorem ag59:Go.E.aggOf Tryz.prog 59=some false:=by kernel_rfl
theorem ag61:Go.E.aggOf Tryz.prog 61=some true:=by kernel_rfl
theorem by3:Go.E.byOf Tryz.prog 3=some 8:=by kernel_rfl
theorem by58:Go.E.byOf Tryz.prog 58=some 48:=by kernel_rfl
theorem eg55:Tryz.prog.eqGuardType Tryz.prog.depth 55=false:=by kernel_rfl
theorem fo132_0:Go.E.foOf Tryz.prog 132 0=some 0:=by kernel_rfl
theorem fo58_0:Go.E.foOf Tryz.prog 58 0=some 0:=by kernel_rfl
theorem fo58_1:Go.E.foOf Tryz.prog 58 1=some 1:=by kernel_rfl
theorem fo58_2:Go.E.foOf Tryz.prog 58 2=some 2:=by kernel_rfl
theorem fo61_0:Go.E.foOf Tryz.prog 61 0=some 0:=by kernel_rfl
theorem fo61_1:Go.E.foOf Tryz.prog 61 1=some 1:=by kernel_rfl
theorem fo61_2:Go.E.foOf Tryz.prog 61 2=some 2:=by kernel_rfl
theorem fo61_3:Go.E.foOf Tryz.prog 61 3=some 3:=by kernel_rfl
theorem pf61:Go.E.plainF Tryz.prog 61=true:=by kernel_rfl
theorem pf73:Go.E.plainF Tryz.prog 73=true:=by kernel_rfl
theorem pf74:Go.E.plainF Tryz.prog 74=true:=by kernel_rfl
theorem pl132:Go.E.plOf Tryz.prog 132=some #[(0,1)]:=by kernel_rfl
theorem pl58:Go.E.plOf Tryz.prog 58=some #[(0,1),(1,1),(2,4)]:=by kernel_rfl
theorem pl61:Go.E.plOf Tryz.prog 61=some #[(0,1),(1,1),(2,1),(3,1)]:=by kernel_rfl
theorem sz3:Go.E.szOf Tryz.prog 3=some 1:=by kernel_rfl
theorem sz5:Go.E.szOf Tryz.prog 5=some 1:=by kernel_rfl
theorem sz53:Go.E.szOf Tryz.prog 53=some 1:=by kernel_rfl
theorem sz55:Go.E.szOf Tryz.prog 55=some 4:=by kernel_rfl
theorem sz58:Go.E.szOf Tryz.prog 58=some 6:=by kernel_rfl
theorem sz59:Go.E.szOf Tryz.prog 59=some 1:=by kernel_rfl
theorem sz61:Go.E.szOf Tryz.prog 61=some 4:=by kernel_rfl
theorem ze132:Go.E.zeroOf Tryz.prog 132=some (.agg #[.slice none 0 0]):=by kernel_rfl
theorem ze3:Go.E.zeroOf Tryz.prog 3=some (.int .i64 0):=by kernel_rfl
theorem ze55:Go.E.zeroOf Tryz.prog 55=some (.agg #[.int .u64 0,.int .u64 0,.int .u64 0,.int .u64 0]):=by kernel_rfl
theorem ze58:Go.E.zeroOf Tryz.prog 58=some (.agg #[.int .i64 0,.int .i64 0,.int .u64 0,.int .u64 0,.int .u64 0,.int .u64 0]):=by kernel_rfl
theorem ze61:Go.E.zeroOf Tryz.prog 61=some (.agg #[.int .i64 0,.slice none 0 0,.slice none 0 0,.slice none 0 0]):=by kernel_rfl
end Go.Proofs.YtamgjehhjkgelaaGreatDoor
end

noncomputable section
namespace Go.Proofs.YtamgjehhjkgelaaGreatDoor
open Go Go.E
theorem and_one(a:Nat):a &&& 1=a % 2:=Nat.and_one_is_mod a
theorem has_con(σ:Store)(s:BSet)(b:Nat)(hs:s.ok)(hb:b<256):Con Tryz.prog 62 #[setV s,.int .u8 (b:Nat)] σ [] (PureP (.bool (s.has b)) σ):=by
  have hw:s.word (b / 64)<18446744073709551616:=BSet.word_lt hs _
  have hw2:s.word (b / 64) / 2 ^ (b % 64)<18446744073709551616:=Nat.lt_of_le_of_lt (Nat.div_le_self _ _) hw
  refine Con.mk (n:=14) Tryz.func62 rfl rfl rfl (fun w0=> ?_)
  refine TC.seq ?_
  refine TC.region ?_
  refine TL.op rfl (OpOk.boxA rfl rfl rfl rfl (fun b1=> ?_))
  refine TL.v rfl (OpVal.moveB (.inr rfl) rfl) rfl rfl ?_
  refine TL.nil ?_
  refine S.n ?_
  refine TC.seq ?_
  refine TC.region ?_
  refine TL.v rfl (OpVal.moveI (.inl rfl) rfl) rfl rfl ?_
  refine TL.v rfl (OpVal.quoN (b:=64) rfl rfl rfl (by omega) (by simp only [kmax];omega)) rfl rfl ?_
  refine TL.v rfl (OpVal.indexArrN rfl Tryz.underlying55 sz53 rfl rfl (by omega)) rfl rfl ?_
  refine TL.v rfl (OpVal.loadWord rfl ag53 rfl (j:=0) rfl (by omega)) rfl rfl ?_
  refine TL.v rfl (OpVal.moveI (.inl rfl) rfl) rfl rfl ?_
  refine TL.v rfl (OpVal.remN (b:=64) rfl rfl rfl (by omega)) rfl rfl ?_
  refine TL.v rfl (OpVal.shrN rfl rfl rfl (by show _<64;omega)) rfl rfl ?_
  refine TL.v rfl (OpVal.andN (b:=1) rfl rfl rfl (by omega) (by omega)) rfl rfl ?_
  refine TL.v rfl (OpVal.eqlN (b:=1) rfl rfl rfl) rfl rfl ?_
  refine TL.v rfl (OpVal.moveB (.inr rfl) rfl) rfl rfl ?_
  refine TL.nil ?_
  refine S.n ?_
  refine TC.ret ?_
  -- leaf 1 ret [] H=['q2']
  refine ret1P rfl (congrArg Value.bool ?_)
  unfold BSet.has;rw [decide_eq_decide,and_one]
end Go.Proofs.YtamgjehhjkgelaaGreatDoor
end

noncomputable section
namespace Go.Proofs.YtamgjehhjkgelaaGreatDoor
open Go Go.E
def stateB(s n:Int):Bool:=decide (0≤s) && decide (s<n)
def riseFrom(n:Int)(l:List Int)(i:Nat):Bool:=stateB (nth l i 0) n && !(decide (0<i) && decide (nth l i 0≤nth l (i - 1) 0))
def riseB(l:List Int)(n:Int):Bool:=(List.range l.length).all (riseFrom n l)
theorem riseB_no{l:List Int}{st:Int}{k:Nat}(hk:k<l.length)(h:riseFrom st l k=false):riseB l st=false:=by
  unfold riseB
  rw [List.all_eq_false]
  exact ⟨k,by simpa using hk,by simp [h]⟩
theorem riseB_yes{l:List Int}{st:Int}{k:Nat}(hk:l.length≤k)(h: ∀i,i<k→riseFrom st l i=true):riseB l st=true:=by
  unfold riseB
  rw [List.all_eq_true]
  intro i hi
  exact h i (by have:=List.mem_range.1 hi;omega)
theorem all_step{p:Nat→Bool}{k:Nat}(h: ∀i,i<k→p i=true)(hk:p k=true): ∀i,i<k+1→p i=true:=fun i hi=>by
  rcases Nat.lt_succ_iff_lt_or_eq.1 hi with h'|rfl
  · exact h i h'
  exact hk
def edgeB(n:Int)(x:Arrow):Bool:=stateB x.frm n && stateB x.to n && !decide (x.set=BSet.zero)
def checkB(n:Nfa):Bool:=decide (0≤n.states) && decide (n.states≤4096) && decide ((n.edges.length:Int)≤65536) && riseB n.starts n.states && riseB n.ends n.states && n.edges.all (edgeB n.states)
def errB(b:Bool):Int:=if b then 0 else 1
theorem edges_no{n:Nfa}{k:Nat}(hk:k<n.edges.length)(h:edgeB n.states (nth n.edges k Arrow.zero)=false):n.edges.all (edgeB n.states)=false:=by
  rw [List.all_eq_false]
  exact ⟨_,List.mem_of_getElem? (getD_some n.edges hk Arrow.zero),by simp [h]⟩
theorem edges_yes{n:Nfa}(h: ∀i,i<n.edges.length→edgeB n.states (nth n.edges i Arrow.zero)=true):n.edges.all (edgeB n.states)=true:=by
  rw [List.all_eq_true]
  intro x hx
  obtain ⟨j,hj,rfl⟩:=List.mem_iff_getElem.1 hx
  have h2:=getD_some n.edges hj Arrow.zero
  rw [List.getElem?_eq_getElem hj,Option.some.injEq]at h2
  rw [h2];exact h j hj
theorem take_succ_nth{α:Type}(l:List α){k:Nat}(hk:k<l.length)(d:α):l.take (k+1)=l.take k++[nth l k d]:=by
  rw [List.take_add_one,getD_some l hk d];rfl
end Go.Proofs.YtamgjehhjkgelaaGreatDoor
end

noncomputable section
namespace Go.Proofs.YtamgjehhjkgelaaGreatDoor
open Go Go.E
def inTo(l:List UInt8)(k:Nat):Nat→Bool:=fun i=>(l.take k).any fun u=>decide (i=u.toNat)
theorem inTo_zero(l:List UInt8):BSet.make (inTo l 0)=BSet.zero:=by
  rw [show inTo l 0=fun _=>false from by funext i;simp [inTo]];exact BSet.make_zero
theorem inTo_succ{l:List UInt8}{k:Nat}(h:k<l.length):(fun i=>inTo l k i || decide (i=(nth l k 0).toNat))=inTo l (k+1):=by
  funext i;simp [inTo,take_succ_nth l h 0]
theorem inTo_all(l:List UInt8):BSet.make (inTo l l.length)=BSet.ofL l:=by
  unfold inTo BSet.ofL;rw [List.take_length]
theorem two_pow_lt{a:Nat}(h:a<64):2 ^ a<18446744073709551616:=Nat.lt_of_le_of_lt (Nat.pow_le_pow_right (by omega) (show a≤63 by omega)) (by decide)
theorem of_con(σ:Store)(a:Option Addr)(c:Nat)(l:List UInt8)(hsz:l.length≤1000000000000):
    Con Tryz.prog 28 #[.slice a l.length c] σ [Res.rowS 5 1 encU8 (.slice a l.length c) l] (PureP (setV (BSet.ofL l)) σ):=by
  refine Con.mk (n:=23) Tryz.func28 rfl rfl rfl (fun w0=> ?_)
  refine TC.seq ?_
  refine TC.region ?_
  refine TL.op rfl (OpOk.alloc rfl ze55 rfl rfl (fun b1=> ?_))
  refine TL.nil ?_
  refine S.n ?_
  refine TC.seq ?_
  refine TC.region ?_
  refine TL.op rfl (OpOk.alloc rfl ze55 rfl rfl (fun b3=> ?_))
  refine TL.nil ?_
  refine S.n ?_
  refine TC.seq ?_
  refine TC.seq ?_
  refine TC.region ?_
  refine TL.v rfl (OpVal.moveSl (.inl rfl) rfl) rfl rfl ?_
  refine TL.v rfl (OpVal.lenC rfl Tryz.underlying134 rfl) rfl rfl ?_
  refine TL.v rfl (OpVal.moveI (.inl rfl) rfl) rfl rfl ?_
  refine TL.nil ?_
  refine S.n ?_
  refine TC.block ?_
  refine TC.loopF (α:=Nat) [5,8,9,10,11,12,13,14,15,16,17,18,19,20,21] (fun k=>[(8,.int .i64 (k:Nat))]) (fun k=>[Res.cells b3 (setA (BSet.make (inTo l k))) 55,Res.cells b1 (setA BSet.zero) 55,Res.rowS 5 1 encU8 (.slice a l.length c) l]) (fun _=>_) (fun k=>k≤l.length) (fun k=>l.length - k) (0) (by first|exact True.intro|omega|(dsimp only;omega)|(simp;done)|(simp;omega)) (by repeat (first|exact trivial|refine ⟨rfl,?_⟩)) (by rw [inTo_zero];rfl) (by rfl) (fun g1 j1 hg1=> ?_)
  have hu:(nth l g1 (0:UInt8)).toNat<256:=UInt8.toNat_lt _
  have hp:=two_pow_lt (Nat.mod_lt (nth l g1 (0:UInt8)).toNat (show 0<64 by omega))
  have hw:=BSet.word_lt (BSet.make_ok (inTo l g1)) ((nth l g1 (0:UInt8)).toNat / 64)
  refine TC.seq ?_
  refine TC.region ?_
  refine TL.v rfl (OpVal.lss rfl rfl rfl) rfl rfl ?_
  refine TL.nil ?_
  refine S.n ?_
  refine TC.seq ?_
  refine TC.condD rfl (fun h5=> ?_) (fun h5=> ?_)
  · try simp only [decide_eq_true_eq,decide_eq_false_iff_not,Bool.not_eq_true',Bool.not_eq_false',Bool.not_eq_eq_eq_not,Bool.not_true,Bool.not_false,Int.not_lt,Int.not_le,Decidable.not_not]at h5
    refine TC.skip ?_
    refine S.n ?_
    refine TC.seq ?_
    refine TC.block ?_
    refine TC.seq ?_
    refine TC.region ?_
    refine TL.isSl (i:=2) rfl (fun hs6 _ _=> ?_)
    refine TL.v rfl (OpVal.indexN rfl Tryz.underlying134 sz5 rfl rfl (by first|assumption|exact (RS.rv (by assumption)).sl) (by omega)) rfl rfl ?_
    refine TL.v rfl (OpVal.loadO1 (0:UInt8) rfl ag5 rfl (q:=2) rfl encU8_len (by omega) rfl) rfl rfl ?_
    refine TL.v rfl (OpVal.moveI (.inr rfl) rfl) rfl rfl ?_
    refine TL.nil ?_
    refine S.n ?_
    refine TC.region ?_
    refine TL.v rfl (OpVal.moveI (.inl rfl) rfl) rfl rfl ?_
    refine TL.v rfl (OpVal.quoN (b:=64) rfl rfl rfl (by omega) (by simp only [kmax];omega)) rfl rfl ?_
    refine TL.v rfl (OpVal.indexArrN rfl Tryz.underlying55 sz53 rfl rfl (by omega)) rfl rfl ?_
    refine TL.v rfl (OpVal.loadWord rfl ag53 rfl (j:=0) rfl (by omega)) rfl rfl ?_
    refine TL.v rfl (OpVal.moveI (.inl rfl) rfl) rfl rfl ?_
    refine TL.v rfl (OpVal.remN (b:=64) rfl rfl rfl (by omega)) rfl rfl ?_
    refine TL.v rfl (OpVal.shlN (a:=1) rfl rfl rfl (by show _<64;omega) (by simp only [kmax];omega)) rfl rfl ?_
    refine TL.v rfl (OpVal.orN rfl rfl rfl (by omega) (by omega)) rfl rfl ?_
    refine TL.v rfl (OpVal.indexArrN rfl Tryz.underlying55 sz53 rfl rfl (by omega)) rfl rfl ?_
    refine TL.op rfl (OpOk.storeWord rfl sz53 rfl rfl rfl (by omega) (Nat.or_lt_two_pow (n:=64) hw (by omega)) ?_)
    refine TL.nil ?_
    refine B.n ?_
    refine S.n ?_
    refine TC.region ?_
    refine TL.v rfl (OpVal.succ rfl rfl rfl (by omega)) rfl rfl ?_
    refine TL.v rfl (OpVal.moveI (.inl rfl) rfl) rfl rfl ?_
    refine TL.nil ?_
    refine S.n ?_
    -- leaf 1 next [h5: True] H=['q4', 'q2', 'r0']
    refine ⟨by repeat (first|exact Agr.mask|refine Agr.upd rfl ?_ |refine Agr.maskIn rfl ?_),g1+1,?_,?_,?_,?_,?_⟩
    · omega
    · first|exact True.intro|omega|(dsimp only;omega)|(simp;done)|(simp;omega)
    · repeat (first|exact trivial|refine ⟨rfl,?_⟩)
    · rw [BSet.make_or _ hu,inTo_succ (by omega)]
    rfl
  try simp only [decide_eq_true_eq,decide_eq_false_iff_not,Bool.not_eq_true',Bool.not_eq_false',Bool.not_eq_eq_eq_not,Bool.not_true,Bool.not_false,Int.not_lt,Int.not_le,Decidable.not_not]at h5
  refine TC.exit ?_
  refine S.x ?_
  refine S.x ?_
  refine TC.exitHere ?_
  refine S.n ?_
  refine TC.seq ?_
  refine TC.region ?_
  refine TL.v rfl (OpVal.loadAll rfl ag55 sz55 rfl (i:=0) rfl rfl) rfl rfl ?_
  refine TL.front 1 rfl rfl ?_
  refine TL.op rfl (OpOk.storeAll rfl sz55 rfl rfl rfl rfl rfl rfl ?_)
  refine TL.nil ?_
  refine S.n ?_
  refine TC.ret ?_
  -- leaf 2 ret [h5: False] H=['q2', 'q4', 'r0']
  obtain rfl:g1=l.length:=by omega
  rw [inTo_all]
  exact retCellP 0 rfl ag55 sz55 rfl rfl rfl rfl
end Go.Proofs.YtamgjehhjkgelaaGreatDoor
end

noncomputable section
namespace Go.E
open Go
structure IStore where
  rows:List (List Int)
  places:FM (List UInt8) Int
structure ITable where
  of:IStore
structure RTable where
  l:List (List Int)
def ITable.zero:ITable:=⟨⟨[],FM.emp⟩⟩
def RTable.zero:RTable:=⟨[]⟩
end Go.E
end

noncomputable section
namespace Go.E
open Go
section
variable {β:Type} {E' E size:Nat} {enc:β→List Value} {v:Value}
theorem sees_nestX{H:List Res}{q i:Nat}{z:List (NP β)}(hq:H[q]? =some (Res.nestX E' E size enc v z i))(w:World)(h:Sees σ H w):Sees σ [Res.rowS E' 1 encN v z] w:=
  ⟨h.1,fun r hr=>by
    simp at hr;subst hr
    exact h.2 _ (List.mem_of_getElem? hq) _ (List.mem_cons_self ..)⟩
theorem isSl_nestX{H:List Res}{q i:Nat}{z:List (NP β)}{l:List (List β)}(hq:H[q]? =some (Res.nestX E' E size enc v z i))(hZ:Zn z l)(w:World)(h:Sees σ H w):IsSl v l.length∧l.length≤281474976710656:=by
  have:=isSl_seen (H:=H) (sees_nestX hq w h)
  rw [hZ.len]at this;exact this
end
theorem TC.drawR{X:Ctx}{Q:QP}{id:Nat}{ops:Array Oper}{e:Env}{H Hr:List Res}(hs: ∀r∈Hr,r∈H)(late:List Nat)(hm:X.P.follows .mixedOrders=true)(h:TA X ops Q σ Hr late ops.size (Array.replicate ops.size false) e σ H)(hnd:noDeferB ops=true:=by kernel_rfl):TC X Q (.region id ops true) e σ H:=fun w a hw ha=>
  Go.wpIn_mono (wpIn_region_any hm (wpAny_of_late _ _ _ _ (h (noDefer_of hnd) w.drew a hw.drew (sees_of (Store.le.refl _) hs _ hw.drew.sees) (closed_start _ _) ha))) fun ex a w h=>by
    cases ex<;>first|exact h|exact h.elim
section
variable {P:Program} {n:Nat} {e:Env} {σ:Store} {H:List Res} {o:Oper} {x y:Operand} {T T':TypeId} {k:IntKind} {a b:Int}
theorem OpVal.quoW(ho:o.op= .binOp .quo T x y T')(hx:ev e x= .int k a)(hy:ev e y= .int k b)(h:b≠0):OpVal P n o e σ H (.int k (k.wrap (a.tdiv b))):= .bin ho hx hy fun w=>by simp [binOp,Op.intDiv,h]
end
theorem bytesLess_eq: ∀l m:List UInt8,Op.bytesLess l m=decide (Lib.compareBytes l m<0)
  |[],[]=>by simp [Op.bytesLess,Lib.compareBytes]
  |_::_,[]=>by simp [Op.bytesLess,Lib.compareBytes]
  |[],_::_=>by simp [Op.bytesLess,Lib.compareBytes]
  | a :: x, b :: y => by
    simp only [Op.bytesLess,Lib.compareBytes,bytesLess_eq x y]
    by_cases h:a<b
    · simp [h]
    by_cases h':b<a
    · have: ¬ a=b:=fun e=>by subst e;exact h h'
      simp [h,h',this]
    have:a=b:=UInt8.le_antisymm (UInt8.not_lt.1 h') (UInt8.not_lt.1 h)
    subst this
    simp [h]
theorem OpVal.lssBs{P:Program}{n:Nat}{e:Env}{H:List Res}{o:Oper}{x y:Operand}{l m:List UInt8}{T T':TypeId}(ho:o.op= .binOp .lss T x y T')(hx:ev e x= .string (bs l))(hy:ev e y= .string (bs m)):OpVal P n o e σ H (.bool (decide (Lib.compareBytes l m<0))):=fun w _=>by
  simp only [execOp,ho,hx,hy,Sem.run_bind,run_eqGuard_str,Result.andThen_ok,binOp,Op.stringOp,ByteArray.toList_eq,bs_list,bytesLess_eq,Sem.run_pure]
theorem OpVal.loadWordAt{P:Program}{n:Nat}{e:Env}{H:List Res}{o:Oper}{x:Operand}{T b E i j off:Nat}{cs:Array Value}(s:BSet)(ho:o.op= .load T x)(hA:aggOf P T=some false)(hx:ev e x=loc b (off+i * 1))(hi:H[j]? =some (Res.cells b cs E))(hk:i<4)
    (hc:(cs.toList.drop off).take 4=s.vals):OpVal P n o e σ H (.int .u64 ((s.word i:Nat):Int)):=by
  refine OpVal.loadLoc ho hA hx hi ?_
  have h1:((cs.toList.drop off).take 4)[i]? =some (.int .u64 ((s.word i:Nat):Int)):=by
    rw [hc]
    match i,hk with
    |0,_=>rfl
    |1,_=>rfl
    |2,_=>rfl
    |3,_=>rfl
  rw [List.getElem?_take,if_pos hk,List.getElem?_drop]at h1
  rw [Nat.mul_one];simpa using h1
end Go.E
end

noncomputable section
namespace Go.Proofs.YtamgjehhjkgelaaGreatDoor
open Go Go.E Go.E.OpVal Go.E.OpOk Go.Proofs.Tryz
theorem ag143:aggOf Tryz.prog 143=some false:=by kernel_rfl
theorem ag47:aggOf Tryz.prog 47=some false:=by kernel_rfl
theorem by46:byOf Tryz.prog 46=some 24:=by kernel_rfl
theorem by5:byOf Tryz.prog 5=some 1:=by kernel_rfl
theorem fo150_0:foOf Tryz.prog 150 0=some 0:=by kernel_rfl
theorem fo150_1:foOf Tryz.prog 150 1=some 1:=by kernel_rfl
theorem fo152_0:foOf Tryz.prog 152 0=some 0:=by kernel_rfl
theorem pf107:plainF Tryz.prog 107=true:=by kernel_rfl
theorem pf108:plainF Tryz.prog 108=true:=by kernel_rfl
theorem pf109:plainF Tryz.prog 109=true:=by kernel_rfl
theorem pf78:plainF Tryz.prog 78=true:=by kernel_rfl
theorem pf79:plainF Tryz.prog 79=true:=by kernel_rfl
theorem pf80:plainF Tryz.prog 80=true:=by kernel_rfl
theorem pf81:plainF Tryz.prog 81=true:=by kernel_rfl
theorem pf82:plainF Tryz.prog 82=true:=by kernel_rfl
theorem pl150:plOf Tryz.prog 150=some #[(0,1),(1,1)]:=by kernel_rfl
theorem pl152:plOf Tryz.prog 152=some #[(0,2)]:=by kernel_rfl
theorem sz46:szOf Tryz.prog 46=some 1:=by kernel_rfl
theorem sz47:szOf Tryz.prog 47=some 1:=by kernel_rfl
theorem ze150:zeroOf Tryz.prog 150=some (.agg #[.slice none 0 0,.map none]):=by kernel_rfl
theorem ze152:zeroOf Tryz.prog 152=some (.agg #[.slice none 0 0,.map none]):=by kernel_rfl
theorem ze46:zeroOf Tryz.prog 46=some (.slice none 0 0):=by kernel_rfl
theorem ze5:zeroOf Tryz.prog 5=some (.int .u8 0):=by kernel_rfl
def El_(x0:Int):Option (Bool):=
 some (decide (x0≠x0))
theorem F4_{x0:Int}{r:Bool}(hh:El_ x0=some r):
  Con Tryz.prog 109 #[.int .i64 x0] σ [] (PureP (.bool r) σ):=by
 dsimp only [El_]at hh
 refine Con.mk (n:=6) Tryz.func109 z z z (fun w0=> ?_)
 refine TC.a (TL.j z z (TL.en (TC.a (TL.i z z (TL.i z z (TL.w z (OpVal.neq z z z) (TL.j z z (TL.en (TC.ret ?_)))))))))
 obtain rfl:=so hh
 exact rq [2] ⟨z,z,z⟩
def A7_(x0:Int)(x1:Int):Option (Int):=
 bnd (El_ x0) (fun v3=>bnd (El_ x1) (fun v6=>iteO v3 (iteO v6 (some 0) (some (-1))) (iteO v6 (some 1) (iteO (decide (x0<x1)) (some (-1)) (iteO (decide (x1<x0)) (some 1) (some 0))))))
theorem B2_{x0:Int}{x1:Int}{r:Int}(hh:A7_ x0 x1=some r):
  Con Tryz.prog 93 #[.int .i64 x0,.int .i64 x1] σ [] (PureP (.int .i64 r) σ):=by
 dsimp only [A7_]at hh
 refine Con.mk (n:=20) Tryz.func93 z z z (fun w0=> ?_)
 refine TC.a (TL.i z z (TL.en (TC.a (TL.i z z ?_))))
 obtain ⟨v3,u3,hh⟩:=bnd_e hh
 refine TL.op z (callP (F4_ u3) z z pf109 z z z ?_)
 refine TL.j z z (TL.en (TC.a (TL.i z z ?_)))
 obtain ⟨v6,u6,hh⟩:=bnd_e hh
 refine TL.op z (callP (F4_ u6) z z pf109 z z z ?_)
 refine TL.j z z (TL.en (TC.seq (TC.a (TL.j z z (TL.en (TC.cB z hh (fun h101 hh=> ?_) (fun h101 hh=> ?_)))))))
 ·refine TC.seq (TC.a (TL.j z z (TL.en (TC.cB z hh (fun h102 hh=> ?_) (fun h102 hh=> ?_)))))
  ·refine TC.a (TL.i z z (TL.en (TC.ret (S.r (S.r ?_)))))
   obtain rfl:=so hh
   exact rq [4] ⟨z,z,z⟩
  refine TC.skip (S.n (TC.a (TL.i z z (TL.en (TC.ret (S.r ?_))))))
  obtain rfl:=so hh
  exact rq [4] ⟨z,z,z⟩
 refine TC.skip (S.n (TC.seq (TC.a (TL.j z z (TL.en (TC.cB z hh (fun h103 hh=> ?_) (fun h103 hh=> ?_)))))))
 ·refine TC.a (TL.i z z (TL.en (TC.ret (S.r ?_))))
  obtain rfl:=so hh
  exact rq [4] ⟨z,z,z⟩
 refine TC.skip (S.n (TC.seq (TC.a (TL.i z z (TL.i z z (TL.w z (OpVal.lss z z z) (TL.en (TC.cD z hh (fun h104 hh=> ?_) (fun h104 hh=> ?_)))))))))
 ·refine TC.a (TL.i z z (TL.en (TC.ret (S.r ?_))))
  obtain rfl:=so hh
  exact rq [4] ⟨z,z,z⟩
 refine TC.skip (S.n (TC.seq (TC.a (TL.i z z (TL.i z z (TL.w z (OpVal.gtr z z z) (TL.en (TC.cD z hh (fun h105 hh=> ?_) (fun h105 hh=> ?_)))))))))
 ·refine TC.a (TL.i z z (TL.en (TC.ret (S.r ?_))))
  obtain rfl:=so hh
  exact rq [4] ⟨z,z,z⟩
 refine TC.skip (S.n (TC.a (TL.i z z (TL.en (TC.ret ?_)))))
 obtain rfl:=so hh
 exact rq [4] ⟨z,z,z⟩
theorem Gl_{a:Option Addr}{c:Nat}{l:List Int}(hl:RS σ 1 eI_ (.slice a l.length c) l)(hsz:l.length * 8≤140737488355328):
  Con Tryz.prog 82 #[.slice a l.length c] σ [] (RowP 3 1 eI_ l σ):=by
 have hb:=hl.rv.big
 refine Con.mk (n:=8) Tryz.func82 z z z (fun w0=> ?_)
 refine TC.a (TL.s z z (TL.nilS 3 1 eI_ (TL.en (TC.seq (TC.a (TL.s z z (TL.w z (eqlNilSl z underlying46 z z) (TL.en (TC.cond z (fun h2=> ?_) (fun h2=> ?_))))))))))
 ·refine TC.a (TL.s z z (TL.nilS 3 1 eI_ (TL.en (TC.ret (S.r ?_)))))
  cases a with
  |some _=>simp at h2
  |none=>
   obtain rfl:=hl.none_nil
   exact ret1R z z
 refine TC.skip (S.n (TC.a (TL.op z (lit0 (enc:=eI_) z z underlying46 sz3 z z (fun a4 c5=> ?_)))))
 refine TL.s z z (TL.op z (appendS z z underlying46 sz3 by3 ze3 z z (by decide) z z z (.inl hl) (by simpa using hsz) (by decide) (fun a7 c8=> ?_)))
 exact TL.s z z (TL.en (TC.ret (ret1R z z)))
def Cj_(k125:Nat)(l128:List Int)(k130:Nat):Option (((List Int)×Nat×Nat)⊕((Nat)⊕((List Int)))):=
 nxt (l128,k130,(k125+1))
def Cm_(x0:List Int)(k105:Nat)(l122:List Int)(k124:Nat)(k125:Nat):Option (((List Int)×Nat×Nat)⊕((Nat)⊕((List Int)))):=
 iteO (decide (((k125:Nat):Int)<(((x0.length - k105):Nat):Int))) (grd (k125<(x0.length - k105)) (grd (0≤(IntKind.i64.wrap (((k125:Nat):Int) - 1))∧(IntKind.i64.wrap (((k125:Nat):Int) - 1))<((x0.length - k105):Nat)) (iteO (decide ((nth l122 (k105+k125) (0:Int))≠(nth l122 (k105+(IntKind.i64.wrap (((k125:Nat):Int) - 1)).toNat) (0:Int)))) (grd (k125<(x0.length - k105)) (grd (k124<l122.length) (Cj_ k125 (l122.set k124 (nth l122 (k105+k125) (0:Int))) (k124+1)))) (Cj_ k125 l122 k124)))) (fin (grd (k124≤x0.length) (grd (k124≤(l122.take k124++List.replicate (l122.length - k124) (0:Int)).length) (fin (some ((l122.take k124++List.replicate (l122.length - k124) (0:Int)).take k124))))))
def Co_(x0:List Int)(k105:Nat):Option ((Nat)⊕((List Int))):=
 iteO (decide (((k105:Nat):Int)<((x0.length:Nat):Int))) (grd (0≤(IntKind.i64.wrap (((k105:Nat):Int) - 1))∧(IntKind.i64.wrap (((k105:Nat):Int) - 1))<(x0.length:Int)) (iteO (decide ((nth x0 k105 (0:Int))=(nth x0 ((IntKind.i64.wrap (((k105:Nat):Int) - 1)).toNat) (0:Int)))) (grd (k105≤x0.length) (iter (fun q:(List Int)×Nat×Nat=>Cm_ x0 k105 q.1 q.2.1 q.2.2) (x0,k105,1))) (nxt (k105+1)))) (fin (some x0))
def compactI(x0:List Int):Option ((List Int)):=
 iteO (decide (((x0.length:Nat):Int)<2)) (some x0) (iter (fun q:Nat=>Co_ x0 q) 1)
theorem Gu_{x0:List Int}{r:(List Int)}(hh:compactI x0=some r):
  Con Tryz.prog 108 #[.slice a0_1 x0.length c0_2] σ [Res.rowS 3 1 eI_ (.slice a0_1 x0.length c0_2) x0] (fun v σ' H'=> ∃a1 c1,v= .slice a1 r.length c1∧σ=σ'∧H'=[Res.rowS 3 1 eI_ (.slice a1 r.length c1) r]):=by
 dsimp only [compactI]at hh
 refine Con.mk (n:=61) Tryz.func108 z z z (fun w0=> ?_)
 refine TC.a (TL.s z z (TL.en (TC.seq (TC.a (TL.s z z (TL.w z (lenC z underlying46 z) (TL.w z (OpVal.lss z z z) (TL.en (TC.cD z hh (fun h102 hh=> ?_) (fun h102 hh=> ?_))))))))))
 ·refine TC.a (TL.s z z (TL.s z z (TL.en (TC.ret (S.r ?_)))))
  obtain rfl:=so hh
  exact ro [Res.rowS 3 1 eI_ (.slice a0_1 x0.length c0_2) x0] z (RVs.tmp z RVs.nil) ⟨a0_1,c0_2,z,z,z⟩
 refine TC.skip (S.n (TC.seq (TC.a (TL.i z z (TL.en (TC.block (TC.loopG (α:=(Nat)×(Unit)) (rgs [(2,4),(10,50)]) (fun g=>[(3,.int .i64 ((g.1:Nat):Int))]) (fun g=>[Res.rowS 3 1 eI_ (.slice a0_1 x0.length c0_2) x0]) (fun g=>σ) (fun g=>iter (fun q:Nat=>Co_ x0 q) g.1=some r) (fun g=>rounds (fun q:Nat=>Co_ x0 q) g.1) (1,()) (Sub.pre 1 z) z (by repeat (first|exact trivial|refine ⟨z,?_⟩)) hh (fun g1 j1 hg1=> ?_))))))))
 obtain ⟨k105,_⟩:=g1
 have hh:=hg1;clear hg1
 try dsimp only
 obtain ⟨z1,hh,hR1⟩:=iter_e hh
 dsimp only [Co_]at hh
 refine TC.isSl (i:=0) z (fun _ hb106 _=> ?_)
 refine TC.seq (TC.a (TL.i z z (TL.s z z (TL.w z (lenC z underlying46 z) (TL.w z (OpVal.lss z z z) (TL.en (TC.cD z hh (fun h107 hh=> ?_) (fun h107 hh=> ?_))))))))
 ·refine TC.skip (S.n (TC.seq (TC.block (TC.seq ?_))))
  have u19:=grd_c hh
  replace hh:=grd_t hh
  refine TC.draw [] (by kernel_rfl) (TA.a 0 z (moveSl (.inl z) z) z (TA.a 1 z (moveI (.inl z) z) z (TA.isSl (i:=0) z (fun hs110 _ _=> ?_))))
  refine TA.b 2 z (indexN z underlying46 sz3 z z hs110 (by omega)) z (TA.b 3 z (loadO1 (0:Int) z ag3 z (q:=0) z eIl_ (by omega) z) z (TA.a 4 z (moveSl (.inl z) z) z (TA.a 5 z (moveI (.inl z) z) z (TA.a 6 z (subW z z z) z (TA.isSl (i:=0) z (fun hs111 _ _=> ?_))))))
  refine TA.b 7 z (OpVal.index z underlying46 sz3 z z hs111 u19.1 u19.2) z (TA.b 8 z (loadO1 (0:Int) z ag3 z (q:=0) z eIl_ (by omega) z) z (TA.a 9 z (OpVal.eql z z z) z (TA.dn (S.n (TC.cD z hh (fun h112 hh=> ?_) (fun h112 hh=> ?_))))))
  ·refine TC.a (TL.s z z (TL.i z z ?_))
   have u24:=grd_c hh
   replace hh:=grd_t hh
   refine TL.isSl (i:=0) z (fun hs113 _ _=> ?_)
   obtain ⟨a113,c113,hv113,ho113⟩:=vw_of (k:=k105) (size:=1) hs113 (by omega)
   refine TL.w z (ho113 z underlying46 sz3 z z) (TL.s z z (TL.en (TC.seq (TC.a (TL.i z z (TL.en (TC.block (TC.loopG (α:=((List Int)×Nat×Nat)×(Unit)) (rgs [(3,1),(5,1),(29,25)]) (fun g=>[(3,.int .i64 ((g.1.2.1:Nat):Int)),(5,.int .i64 ((g.1.2.2:Nat):Int))]) (fun g=>[Res.rowS 3 1 eI_ (.slice a0_1 x0.length c0_2) g.1.1]) (fun g=>σ) (fun g=>iter (fun q:(List Int)×Nat×Nat=>Cm_ x0 k105 q.1 q.2.1 q.2.2) g.1=some z1∧g.1.1.length=x0.length) (fun g=>rounds (fun q:(List Int)×Nat×Nat=>Cm_ x0 k105 q.1 q.2.1 q.2.2) g.1) ((x0,k105,1),()) (Sub.pre 1 z) z (by repeat (first|exact trivial|refine ⟨z,?_⟩)) ⟨hh,z⟩ (fun g2 j2 hg2=> ?_)))))))))
   obtain ⟨⟨l122,k124,k125⟩,_⟩:=g2
   obtain ⟨hh,hn123⟩:=hg2
   try dsimp only at hn123 ⊢
   obtain ⟨z2,hh,hR2⟩:=iter_e hh
   dsimp only [Cm_]at hh
   have hn123b:=hn123
   refine TC.isSl (i:=0) z (fun _ hb126 _=> ?_)
   refine TC.seq (TC.a (TL.i z z (TL.s z z (TL.w z (lenC z underlying46 z) (TL.w z (OpVal.lss z z z) (TL.en (TC.cD z hh (fun h127 hh=> ?_) (fun h127 hh=> ?_))))))))
   ·refine TC.skip (S.n (TC.cutG (α:=((List Int)×Nat)×(Unit)) (rgs [(3,1),(35,19)]) (fun g=>[(3,.int .i64 ((g.1.2:Nat):Int))]) (fun g=>[Res.rowS 3 1 eI_ (.slice a0_1 x0.length c0_2) g.1.1]) (fun g=>σ) (fun g=>Cj_ k125 g.1.1 g.1.2=some z2∧g.1.1.length=x0.length) ?_ (fun g j hg=> ?_)))
    ·skip
     refine TC.block (TC.seq ?_)
     have u33:=grd_c hh
     replace hh:=grd_t hh
     have u38:=grd_c hh
     replace hh:=grd_t hh
     refine TC.draw [] (by kernel_rfl) (TA.a 0 z (moveSl (.inl z) z) z (TA.a 1 z (moveI (.inl z) z) z (TA.b 2 z (elVw hv113 (by omega) (indexN z underlying46 sz3 z z hv113.sl (by omega))) z (TA.b 3 z (loadO1 (0:Int) z ag3 z (q:=0) z eIl_ (by omega) z) z (TA.a 4 z (moveSl (.inl z) z) z (TA.a 5 z (moveI (.inl z) z) z (TA.a 6 z (subW z z z) z (TA.b 7 z (elVw hv113 (by omega) (OpVal.index z underlying46 sz3 z z hv113.sl u38.1 u38.2)) z (TA.b 8 z (loadO1 (0:Int) z ag3 z (q:=0) z eIl_ (by omega) z) z (TA.a 9 z (OpVal.neq z z z) z (TA.dn (S.n (TC.cD z hh (fun h131 hh=> ?_) (fun h131 hh=> ?_))))))))))))))
     ·refine TC.a (TL.s z z (TL.i z z (TL.s z z (TL.i z z ?_))))
      have u45:=grd_c hh
      replace hh:=grd_t hh
      refine TL.w z (elVw hv113 (by omega) (indexN z underlying46 sz3 z z hv113.sl (by omega))) (TL.w z (loadO1 (0:Int) z ag3 z (q:=0) z eIl_ (by omega) z) ?_)
      have u47:=grd_c hh
      replace hh:=grd_t hh
      refine TL.isSl (i:=0) z (fun hs132 _ _=> ?_)
      refine TL.w z (indexN z underlying46 sz3 z z hs132 (by omega)) ?_
      have hn133:(l122.set k124 (nth l122 (k105+k125) (0:Int))).length=x0.length:=by rw [List.length_set];exact hn123
      refine TL.op z (storeS (nth l122 (k105+k125) (0:Int)) z sz3 z z z z eIl_ eIo_ (by omega) (by omega) ?_)
      exact TL.en (TC.region (TL.i z z (TL.w z (OpVal.succ z z z (by omega)) (TL.i z z (TL.nil (B.n (S.n (cf (((l122.set k124 (nth l122 (k105+k125) (0:Int))),(k124+1)),()) ⟨hh,hn133⟩ (Sub.pre 1 z)))))))))
     exact TC.skip (B.n (S.n (cf ((l122,k124),()) ⟨hh,hn123⟩ (Sub.pre 1 z))))
    skip
    obtain ⟨⟨l128,k130⟩,_⟩:=g
    obtain ⟨hh,hn129⟩:=hg
    try dsimp only at hn129 ⊢
    dsimp only [Cj_]at hh
    have hn129b:=hn129
    refine TC.isSl (i:=0) z (fun _ hb134 _=> ?_)
    refine TC.region (TL.i z z (TL.w z (OpVal.succ z z z (by omega)) (TL.i z z (TL.en ?_))))
    obtain ⟨hh,hlt135⟩:=nxt_x hR2 hh
    exact lf ((l128,k130,(k125+1)),()) hlt135 ⟨hh,hn129⟩ (Sub.pre 1 z)
   refine TC.exit (S.x (S.x ?_))
   replace hh:=fin_x hR2 hh
   refine TC.exitHere (S.n (TC.a (TL.s z z (TL.i z z ?_))))
   have u57:=grd_c hh
   replace hh:=grd_t hh
   refine TL.isSl (i:=0) z (fun hs136 _ _=> ?_)
   rw [hn123]at hs136
   obtain ⟨a136,c136,hv136,ho136⟩:=vw_of (k:=k124) (size:=1) hs136 (by omega)
   refine TL.w z (ho136 z underlying46 sz3 z z) ?_
   have hn137:(l122.take k124++List.replicate (l122.length - k124) (0:Int)).length=x0.length:=by simp only [List.length_append,List.length_take,List.length_replicate];try simp only [List.length_replicate]at *;omega
   refine TL.op z (clearV (k:=k124) (0:Int) z underlying46 ze3 z z hv136 (by omega) (by omega) eIl_ (by decide) z eIo_ ?_)
   refine TL.en (TC.a (TL.s z z (TL.i z z ?_)))
   rw [←hn137]
   have u61:=grd_c hh
   replace hh:=grd_t hh
   refine TL.op z (cutS z underlying46 sz3 z z z z z (by omega) eIl_ ?_)
   refine TL.s z z (TL.en (TC.ret (B.r (S.r (S.r ?_)))))
   replace hh:=fin_x hR1 hh
   refine B.r (S.r ?_)
   obtain rfl:=so hh
   exact ro [Res.rowS 3 1 eI_ (.slice a0_1 ((l122.take k124++List.replicate (l122.length - k124) (0:Int)).take k124).length c0_2) ((l122.take k124++List.replicate (l122.length - k124) (0:Int)).take k124)] z (RVs.tmp z RVs.nil) ⟨a0_1,c0_2,z,z,z⟩
  refine TC.skip (B.n (S.n (TC.region (TL.i z z (TL.w z (OpVal.succ z z z (by omega)) (TL.i z z (TL.en ?_)))))))
  obtain ⟨hh,hlt138⟩:=nxt_x hR1 hh
  exact lf ((k105+1),()) hlt138 hh (Sub.pre 1 z)
 refine TC.exit (S.x (S.x ?_))
 replace hh:=fin_x hR1 hh
 refine TC.exitHere (S.n (TC.a (TL.s z z (TL.s z z (TL.en (TC.ret ?_))))))
 obtain rfl:=so hh
 exact ro [Res.rowS 3 1 eI_ (.slice a0_1 x0.length c0_2) x0] z (RVs.tmp z RVs.nil) ⟨a0_1,c0_2,z,z,z⟩
def intern_Sort(x0:List Int):Option ((List Int)):=
 grd (x0.length * 8≤140737488355328) (bnd (compactI (List.mergeSort x0 fun x y=>decide (x≤y))) (fun v8=>some v8))
def intern_Sort_P(σ:Store)(r:(List Int)):Value→Store→List Res→Prop:=fun v σ' H'=>
 ∃a1 c1,v= .slice a1 r.length c1∧σ=σ'∧H'=[Res.rowS 3 1 eI_ (.slice a1 r.length c1) r]
theorem intern_Sort_con{x0:List Int}(f0_0:RS σ 1 eI_ (.slice a0_0 x0.length c0_0) x0){r:(List Int)}(hh:intern_Sort x0=some r):
  Con Tryz.prog 78 #[.slice a0_0 x0.length c0_0] σ [] (intern_Sort_P σ r):=by
 dsimp only [intern_Sort]at hh
 have f0_0b:=f0_0.rv.big
 refine Con.mk (n:=10) Tryz.func78 z z z (fun w0=> ?_)
 refine TC.a (TL.s z z (TL.en (TC.a (TL.s z z ?_))))
 have u3:=grd_c hh
 replace hh:=grd_t hh
 refine TL.op z (OpOk.call (Gl_ f0_0 u3) z z pf82 z z z z ?_)
 rintro _ _ _ _ ⟨⟨a101,c102,rfl⟩,rfl,rfl⟩
 refine TL.s z z (TL.en (TC.a (TL.s z z ?_)))
 have hn104:(List.mergeSort x0 fun x y=>decide (x≤y)).length=x0.length:=List.length_mergeSort _
 refine TL.op z (OpOk.call (sortInt_con (l:=x0)) z z pf107 z z z z ?_)
 rintro _ _ _ _ ⟨rfl,rfl,rfl⟩
 refine TL.en (TC.a (TL.s z z ?_))
 rw [←hn104]
 obtain ⟨v8,u8,hh⟩:=bnd_e hh
 refine TL.op z (OpOk.call (Gu_ u8) z z pf108 z z z z ?_)
 rintro _ _ _ hle105 ⟨a105_1,c105_2,rfl,rfl,rfl⟩
 refine TL.s z z (TL.en (TC.ret ?_))
 obtain rfl:=so hh
 exact ro [Res.rowS 3 1 eI_ (.slice a105_1 v8.length c105_2) v8] z (RVs.tmp z RVs.nil) ⟨a105_1,c105_2,z,z,z⟩
def intern_key_b2(x0:List Int)(k115:Nat)(l126:List UInt8)(k129:Nat):Option (((List UInt8)×Nat)⊕(((List UInt8)×Nat)⊕((List UInt8)))):=
 iteO (decide (((k129:Nat):Int)<8)) (grd (0≤IntKind.i64.wrap (8 * ((k129:Nat):Int))) (grd ((l126.length+[(toU8 (((u64shr (u64of (nth x0 k115 (0:Int))) ((IntKind.i64.wrap (8 * ((k129:Nat):Int))).toNat)):Nat):Int))].length) * 1≤140737488355328) (nxt ((l126++[(toU8 (((u64shr (u64of (nth x0 k115 (0:Int))) ((IntKind.i64.wrap (8 * ((k129:Nat):Int))).toNat)):Nat):Int))]),(k129+1))))) (fin (nxt (l126,(k115+1))))
def intern_key_b1(x0:List Int)(l112:List UInt8)(k115:Nat):Option (((List UInt8)×Nat)⊕((List UInt8))):=
 iteO (decide (((k115:Nat):Int)<((x0.length:Nat):Int))) (iter (fun q:(List UInt8)×Nat=>intern_key_b2 x0 k115 q.1 q.2) (l112,0)) (fin (some l112))
def intern_key(x0:List Int):Option ((List UInt8)):=
 grd (0≤IntKind.i64.wrap (8 * ((x0.length:Nat):Int))∧1 * (IntKind.i64.wrap (8 * ((x0.length:Nat):Int))).toNat≤281474976710656) (iter (fun q:(List UInt8)×Nat=>intern_key_b1 x0 q.1 q.2) (([]:List UInt8),0))
theorem intern_key_con{x0:List Int}(f0_0:RS σ 1 eI_ (.slice a0_0 x0.length c0_0) x0){r:(List UInt8)}(hh:intern_key x0=some r):
  Con Tryz.prog 79 #[.slice a0_0 x0.length c0_0] σ [] (PureP (.string (bs r)) σ):=by
 dsimp only [intern_key]at hh
 have f0_0b:=f0_0.rv.big
 refine Con.mk (n:=33) Tryz.func79 z z z (fun w0=> ?_)
 refine TC.a (TL.w z (moveStr (.inr z) z) (TL.en (TC.a (TL.s z z (TL.w z (lenC z underlying46 z) (TL.w z (mulW z z z) ?_))))))
 have u5:=grd_c hh
 replace hh:=grd_t hh
 refine TL.op rfl (make0S (enc:=encU8) (m:=(IntKind.i64.wrap (8 * ((x0.length:Nat):Int))).toNat) rfl underlying134 sz5 by5 ze5 rfl rfl rfl (vN u5.1) (by omega) (by decide) (fun a101 c102=> ?_))
 refine TL.s z z (TL.en (TC.seq (TC.a (TL.s z z (TL.w z (lenC z underlying46 z) (TL.i z z (TL.en (TC.block (TC.loopG (α:=((List UInt8)×Nat)×((Option Addr)×Nat)) (rgs [(3,1),(5,2),(13,18)]) (fun g=>[(3,.slice g.2.1 g.1.1.length g.2.2),(13,.int .i64 ((g.1.2:Nat):Int))]) (fun g=>[Res.rowS 5 1 encU8 (.slice g.2.1 g.1.1.length g.2.2) g.1.1]) (fun g=>σ) (fun g=>iter (fun q:(List UInt8)×Nat=>intern_key_b1 x0 q.1 q.2) g.1=some r) (fun g=>rounds (fun q:(List UInt8)×Nat=>intern_key_b1 x0 q.1 q.2) g.1) ((([]:List UInt8),0),(a101,c102)) (Sub.pre 1 z) z (by repeat (first|exact trivial|refine ⟨z,?_⟩)) hh (fun g1 j1 hg1=> ?_))))))))))
 obtain ⟨⟨l112,k115⟩,⟨a113,c114⟩⟩:=g1
 have hh:=hg1;clear hg1
 try dsimp only
 obtain ⟨z1,hh,hR1⟩:=iter_e hh
 dsimp only [intern_key_b1]at hh
 refine TC.isSl (i:=0) z (fun _ hb116 _=> ?_)
 refine TC.a (TL.w z (OpVal.lss z z z) (TL.en (TC.seq (TC.cD z hh (fun h117 hh=> ?_) (fun h117 hh=> ?_)))))
 ·refine TC.skip (S.n (TC.seq (TC.block (TC.a (TL.w z (indexN z underlying46 sz3 z z f0_0.rv.sl (by omega)) (TL.w z (loadS1 (0:Int) z ag3 z f0_0 (by omega) z) (TL.i z z (TL.en (TC.a (TL.i z z (TL.en (TC.block (TC.loopG (α:=((List UInt8)×Nat)×((Option Addr)×Nat)) (rgs [(3,1),(6,1),(17,13)]) (fun g=>[(3,.slice g.2.1 g.1.1.length g.2.2),(17,.int .i64 ((g.1.2:Nat):Int))]) (fun g=>[Res.rowS 5 1 encU8 (.slice g.2.1 g.1.1.length g.2.2) g.1.1]) (fun g=>σ) (fun g=>iter (fun q:(List UInt8)×Nat=>intern_key_b2 x0 k115 q.1 q.2) g.1=some z1) (fun g=>rounds (fun q:(List UInt8)×Nat=>intern_key_b2 x0 k115 q.1 q.2) g.1) ((l112,0),(a113,c114)) (Sub.pre 1 z) z (by repeat (first|exact trivial|refine ⟨z,?_⟩)) hh (fun g2 j2 hg2=> ?_))))))))))))))
  obtain ⟨⟨l126,k129⟩,⟨a127,c128⟩⟩:=g2
  have hh:=hg2;clear hg2
  try dsimp only
  obtain ⟨z2,hh,hR2⟩:=iter_e hh
  dsimp only [intern_key_b2]at hh
  refine TC.isSl (i:=0) z (fun _ hb130 _=> ?_)
  refine TC.a (TL.w z (OpVal.lss z z z) (TL.en (TC.seq (TC.cD z hh (fun h131 hh=> ?_) (fun h131 hh=> ?_)))))
  ·refine TC.skip (S.n (TC.seq (TC.block (TC.a (TL.i z z (TL.i z z (TL.en (TC.region (TL.s z z (TL.i z z (TL.w z (convU z underlying3 underlying53 z) (TL.i z z (TL.w z (mulW z z z) ?_)))))))))))))
   have u23:=grd_c hh
   replace hh:=grd_t hh
   refine TL.w rfl (shrU (b:=(IntKind.i64.wrap (8 * ((k129:Nat):Int))).toNat) rfl rfl (vN u23)) (TL.w z (convU8 z underlying53 underlying5 z) (TL.op z (OpOk.lit (enc:=encU8) [(toU8 (((u64shr (u64of (nth x0 k115 (0:Int))) ((IntKind.i64.wrap (8 * ((k129:Nat):Int))).toNat)):Nat):Int))] z underlying134 sz5 ze5 z z z encU8_len (by decide) (by decide) (0:UInt8) z (by decide) z (by decide) encU8_one (fun a132 c133=> ?_))))
   refine TL.front 1 z z ?_
   have u26:=grd_c hh
   replace hh:=grd_t hh
   refine TL.op z (appendS z z underlying134 sz5 by5 ze5 z z (by decide) z z z (.inr ⟨_,0,z⟩) (by simpa using u26) (by decide) (fun a135 c136=> ?_))
   refine TL.s z z (TL.nil (B.n (S.n (TC.region (TL.w z (OpVal.succ z z z (by omega)) (TL.i z z (TL.en ?_)))))))
   obtain ⟨hh,hlt137⟩:=nxt_x hR2 hh
   exact lf (((l126++[(toU8 (((u64shr (u64of (nth x0 k115 (0:Int))) ((IntKind.i64.wrap (8 * ((k129:Nat):Int))).toNat)):Nat):Int))]),(k129+1)),(a135,c136)) hlt137 hh (Sub.pre 1 z)
  refine TC.exit (S.x (S.x ?_))
  replace hh:=fin_x hR2 hh
  refine TC.exitHere (B.n (S.n (TC.region (TL.w z (OpVal.succ z z z (by omega)) (TL.i z z (TL.en ?_))))))
  obtain ⟨hh,hlt138⟩:=nxt_x hR1 hh
  exact lf ((l126,(k115+1)),(a127,c128)) hlt138 hh (Sub.pre 1 z)
 refine TC.exit (S.x (S.x ?_))
 replace hh:=fin_x hR1 hh
 refine TC.exitHere (S.n (TC.a (TL.s z z (TL.isSl (i:=0) z (fun hs139 _ _=> ?_)))))
 refine TL.w z (bytesStr (l:=l112) z underlying134 underlying5 underlying9 z hs139 (fun w hw=>rdb_row (q:=0) z hw)) (TL.w z (moveStr (.inr z) z) (TL.en (TC.rt 0 ?_)))
 obtain rfl:=so hh
 exact rq [2] ⟨z,z,z⟩
def intern_store_string_find(x0:IStore)(x1:List UInt8):Option (Int×Bool):=
 grd (x1.length≤281474976710656) (some ((x0.places.get x1 0),(x0.places.has x1)))
theorem intern_store_string_find_con{x0:IStore}{z0_3:List (List Int×(pkSl 1 eI_ eIl_).P)}{x1:List UInt8}(zf0_4:ZOk σ (pkSl 1 eI_ eIl_) z0_3 x0.rows){r:Int×Bool}(hh:intern_store_string_find x0 x1=some r):
  Con Tryz.prog 80 #[loc b0_0 0,.string (bs x1)] σ [Res.cells b0_0 #[.slice a0_1 x0.rows.length c0_2,.map (some b0_5)] Eb0,Res.rowS 46 1 (pkSl 1 eI_ eIl_).en (.slice a0_1 x0.rows.length c0_2) z0_3,Res.mapB keyS keyI (some b0_5) x0.places] (fun v σ' H'=>v= .tuple #[.int .i64 r.1,.bool r.2]∧σ=σ'∧H'=[Res.cells b0_0 #[.slice a0_1 x0.rows.length c0_2,.map (some b0_5)] Eb0,Res.rowS 46 1 (pkSl 1 eI_ eIl_).en (.slice a0_1 x0.rows.length c0_2) z0_3,Res.mapB keyS keyI (some b0_5) x0.places]):=by
 dsimp only [intern_store_string_find]at hh
 have zf0_4b:=zf0_4.length
 refine Con.mk (n:=19) Tryz.func80 z z z (fun w0=> ?_)
 have x1b:=grd_c hh
 replace hh:=grd_t hh
 refine TC.a (TL.i z z (TL.j z z (TL.en (TC.a (TL.l z z (TL.w z (nilCheckLoc z z) (TL.w z (fieldLoc z fo150_1 z) (TL.w z (loadLoc z ag143 z (i:=0) z z) (TL.w z (moveStr (.inl z) z) (TL.w z (OpVal.of (lookB 0 (q:=x1) z underlying143 ze3 z (i:=2) z z (keyL_str underlying9)) (v':= .tuple #[.int .i64 (x0.places.get x1 0),.bool (x0.places.has x1)]) z) (TL.w z (moveT (.inl z) z) (TL.w z (OpVal.extract z z z) (TL.w z (OpVal.extract z z z) (TL.i z z (TL.j z z ?_)))))))))))))))
 refine TL.en (TC.a (TL.i z z (TL.j z z (TL.i z z (TL.j z z (TL.en (TC.ret ?_)))))))
 obtain rfl:=so hh
 exact ro [Res.cells b0_0 #[.slice a0_1 x0.rows.length c0_2,.map (some b0_5)] Eb0,Res.rowS 46 1 (pkSl 1 eI_ eIl_).en (.slice a0_1 x0.rows.length c0_2) z0_3,Res.mapB keyS keyI (some b0_5) x0.places] z (RVs.tmp z (RVs.tmp z RVs.nil)) ⟨z,z,z⟩
def intern_store_string_add(x0:IStore)(x1:List UInt8)(x2:List Int):Option (Int×IStore):=
 grd (x1.length≤281474976710656) (grd ((x0.rows.length+[x2].length) * 24≤140737488355328) (some (((x0.rows.length:Nat):Int),(⟨(x0.rows++[x2]),(x0.places.put x1 ((x0.rows.length:Nat):Int))⟩:IStore))))
theorem intern_store_string_add_con{x0:IStore}{z0_3:List (List Int×(pkSl 1 eI_ eIl_).P)}{x1:List UInt8}{x2:List Int}(zf0_4:ZOk σ (pkSl 1 eI_ eIl_) z0_3 x0.rows)(f2_0:RS σ 1 eI_ (.slice a2_0 x2.length c2_0) x2){r:Int×IStore}(hh:intern_store_string_add x0 x1 x2=some r):
  Con Tryz.prog 81 #[loc b0_0 0,.string (bs x1),.slice a2_0 x2.length c2_0] σ [Res.cells b0_0 #[.slice a0_1 x0.rows.length c0_2,.map (some b0_5)] Eb0,Res.rowS 46 1 (pkSl 1 eI_ eIl_).en (.slice a0_1 x0.rows.length c0_2) z0_3,Res.mapB keyS keyI (some b0_5) x0.places] (fun v σ' H'=> ∃ao1 co2, ∃(zo3:List (List Int×(pkSl 1 eI_ eIl_).P)), ∃bo5,v= .int .i64 r.1∧ZOk σ' (pkSl 1 eI_ eIl_) zo3 r.2.rows∧H'=[Res.cells b0_0 #[.slice ao1 r.2.rows.length co2,.map (some bo5)] Eb0,Res.rowS 46 1 (pkSl 1 eI_ eIl_).en (.slice ao1 r.2.rows.length co2) zo3,Res.mapB keyS keyI (some bo5) r.2.places]):=by
 dsimp only [intern_store_string_add]at hh
 have zf0_4b:=zf0_4.length
 have f2_0b:=f2_0.rv.big
 refine Con.mk (n:=30) Tryz.func81 z z z (fun w0=> ?_)
 have x1b:=grd_c hh
 replace hh:=grd_t hh
 refine TC.a (TL.i z z (TL.en (TC.a (TL.l z z (TL.w z (nilCheckLoc z z) (TL.w z (fieldLoc z fo150_0 z) (TL.w z (loadLoc z ag47 z (i:=0) z z) (TL.w z (lenC z underlying47 z) (TL.i z z (TL.en (TC.a (TL.l z z (TL.l z z (TL.w z (nilCheckLoc z z) (TL.w z (fieldLoc z fo150_0 z) ?_)))))))))))))))
 refine TL.w z (loadLoc z ag47 z (i:=0) z z) (TL.s z z ?_)
 have zf108:ZOk _ (pkSl 1 eI_ eIl_) ([(x2,(a2_0,c2_0))]:List (List Int×(pkSl 1 eI_ eIl_).P)) [x2]:=ZOk.cons (f2_0) (ZOk.nil _ _)
 refine TL.op z (litZ zf108 z underlying47 sz46 z ze46 z z z (by decide) (by decide) z (by decide) z (by decide) (fun a106 c107=> ?_))
 refine TL.front 2 z z ?_
 have u15:=grd_c hh
 replace hh:=grd_t hh
 refine TL.op z (appendZ (k:=(pkSl 1 eI_ eIl_)) zf0_4 zf108 z z underlying47 sz46 by46 ze46 z z (by decide) z z z (.inr ⟨_,0,z⟩) (by simpa using u15) (by decide) (fun a110 c111 zf112=> ?_))
 refine TL.w z (nilCheckLoc z z) (TL.w z (fieldLoc z fo150_0 z) (TL.front 2 z z (TL.op z (storeSl z sz47 z z z z z ?_))))
 refine TL.en (TC.a (TL.l z z (TL.w z (nilCheckLoc z z) (TL.w z (fieldLoc z fo150_1 z) (TL.w z (loadLoc z ag143 z (i:=0) z z) (TL.w z (moveStr (.inl z) z) (TL.i z z (TL.front 3 z z (TL.op z (updB x1 ((x0.rows.length:Nat):Int) z underlying143 z z z z (keyL_str underlying9) ?_))))))))))
 refine TL.en (TC.a (TL.i z z (TL.i z z (TL.en (TC.ofSub (Sub.f [2,2] 3) (TC.ret ?_))))))
 obtain rfl:=so hh
 exact ro [Res.cells b0_0 #[.slice a110 ((x0.rows++[x2]).length) c111,.map (some b0_5)] Eb0,Res.rowS 46 1 (pkSl 1 eI_ eIl_).en (.slice a110 (x0.rows++[x2]).length c111) (z0_3++([(x2,(a2_0,c2_0))]:List (List Int×(pkSl 1 eI_ eIl_).P))),Res.mapB keyS keyI (some b0_5) (x0.places.put x1 ((x0.rows.length:Nat):Int))] z (RVs.tmp z RVs.nil) ⟨a110,c111,(z0_3++([(x2,(a2_0,c2_0))]:List (List Int×(pkSl 1 eI_ eIl_).P))),b0_5,z,zf112,z⟩
def intern_New:Option (ITable):=
 some (⟨(⟨([]:List (List Int)),(FM.emp:FM (List UInt8) Int)⟩:IStore)⟩:ITable)
theorem intern_New_con{r:ITable}(hh:intern_New=some r):
  Con Tryz.prog 42 #[] σ [] (fun v σ' H'=> ∃br6 ar1 cr2, ∃(zr3:List (List Int×(pkSl 1 eI_ eIl_).P)), ∃br5,v=loc br6 0∧ZOk σ' (pkSl 1 eI_ eIl_) zr3 r.of.rows∧H'=[Res.cells br6 #[.slice ar1 r.of.rows.length cr2,.map (some br5)] 152,Res.rowS 46 1 (pkSl 1 eI_ eIl_).en (.slice ar1 r.of.rows.length cr2) zr3,Res.mapB keyS keyI (some br5) r.of.places]):=by
 dsimp only [intern_New]at hh
 refine Con.mk (n:=5) Tryz.func42 z z z (fun w0=> ?_)
 refine TC.a (TL.w z (movePtr (.inr z) z) (TL.en (TC.a (TL.op z (makeMapB (enc:=keyS) (encV:=keyI) z z z (fun b104=> ?_))))))
 refine TL.w z (buildL z pl150 ze150 z) (TL.w z (buildL z pl152 ze152 z) (TL.op z (boxA z z z z (fun b106=> ?_))))
 refine TL.l z z (TL.en (TC.nilS 46 1 (pkSl 1 eI_ eIl_).en ?_))
 have zf108:=ZOk.nil σ (pkSl 1 eI_ eIl_)
 refine TC.ofSub (Sub.f [2,1,2] 3) (TC.ret ?_)
 obtain rfl:=so hh
 exact ro [Res.cells b106 #[.slice none (([]:List (List Int)).length) 0,.map (some b104)] 152,Res.rowS 46 1 (pkSl 1 eI_ eIl_).en (.slice none ([]:List (List Int)).length 0) [],Res.mapB keyS keyI (some b104) (FM.emp:FM (List UInt8) Int)] z (RVs.tmp z RVs.nil) ⟨b106,none,0,[],b104,z,zf108,z⟩
def intern_Table_Put(x0:ITable)(x1:List Int):Option (Int×Bool×Int×ITable):=
 bnd (intern_Sort x1) (fun v10=>bnd (intern_key v10) (fun v13=>bnd (intern_store_string_find (⟨x0.of.rows,x0.of.places⟩:IStore) v13) (fun v19=>iteO v19.2 (some (v19.1,false,0,(⟨(⟨x0.of.rows,x0.of.places⟩:IStore)⟩:ITable))) (iteO (decide (4096≤((x0.of.rows.length:Nat):Int))) (some (0,false,2,(⟨(⟨x0.of.rows,x0.of.places⟩:IStore)⟩:ITable))) (bnd (intern_store_string_add (⟨x0.of.rows,x0.of.places⟩:IStore) v13 v10) (fun v45=>some (v45.1,true,0,(⟨(⟨v45.2.rows,v45.2.places⟩:IStore)⟩:ITable))))))))
theorem intern_Table_Put_con{x0:ITable}{z0_3:List (List Int×(pkSl 1 eI_ eIl_).P)}{x1:List Int}(zf0_4:ZOk σ (pkSl 1 eI_ eIl_) z0_3 x0.of.rows)(f1_0:RS σ 1 eI_ (.slice a1_0 x1.length c1_0) x1){r:Int×Bool×Int×ITable}(hh:intern_Table_Put x0 x1=some r):
  Con Tryz.prog 43 #[loc b0_0 0,.slice a1_0 x1.length c1_0] σ [Res.cells b0_0 #[.slice a0_1 x0.of.rows.length c0_2,.map (some b0_5)] Eb0,Res.rowS 46 1 (pkSl 1 eI_ eIl_).en (.slice a0_1 x0.of.rows.length c0_2) z0_3,Res.mapB keyS keyI (some b0_5) x0.of.places] (fun v σ' H'=> ∃ao1 co2, ∃(zo3:List (List Int×(pkSl 1 eI_ eIl_).P)), ∃bo5,v= .tuple #[.int .i64 r.1,.bool r.2.1,.int .i64 r.2.2.1]∧ZOk σ' (pkSl 1 eI_ eIl_) zo3 r.2.2.2.of.rows∧H'=[Res.cells b0_0 #[.slice ao1 r.2.2.2.of.rows.length co2,.map (some bo5)] Eb0,Res.rowS 46 1 (pkSl 1 eI_ eIl_).en (.slice ao1 r.2.2.2.of.rows.length co2) zo3,Res.mapB keyS keyI (some bo5) r.2.2.2.of.places]):=by
 dsimp only [intern_Table_Put]at hh
 have zf0_4b:=zf0_4.length
 have f1_0b:=f1_0.rv.big
 refine Con.mk (n:=40) Tryz.func43 z z z (fun w0=> ?_)
 refine TC.a (TL.i z z (TL.j z z (TL.i z z (TL.en (TC.seq (TC.a (TL.l z z (TL.w z (eqlNil z underlying106 z z) (TL.en (TC.f z (TC.skip (S.n (TC.a (TL.s z z ?_))))))))))))))
 obtain ⟨v10,u10,hh⟩:=bnd_e hh
 refine TL.op z (OpOk.call (intern_Sort_con f1_0 u10) z z pf78 z z z z ?_)
 rintro _ _ _ hle106 ⟨a106_1,c106_1,rfl,rfl,rfl⟩
 refine TL.s z z (TL.en (TC.a (TL.s z z ?_)))
 obtain ⟨v13,u13,hh⟩:=bnd_e hh
 refine TL.op z (callK (Con.lend eIl_ (fun _ hle109 hr108=>intern_key_con hr108 u13)) z z pf79 z z z z ?_)
 refine TL.w z (moveStr (.inr z) z) (TL.en (TC.seq (TC.a (TL.l z z (TL.w z (nilCheckLoc z z) (TL.w z (fieldLoc z fo152_0 z) (TL.w z (moveStr (.inl z) z) (TL.front 3 z z (TL.front 3 z z (TL.front 3 z z ?_))))))))))
 obtain ⟨v19,u19,hh⟩:=bnd_e hh
 refine TL.op z (OpOk.call (intern_store_string_find_con zf0_4 u19) z z pf80 z z z z ?_)
 rintro _ _ _ hle110 ⟨rfl,rfl,rfl⟩
 refine TL.w z (moveT (.inl z) z) (TL.w z (OpVal.extract z z z) (TL.w z (OpVal.extract z z z) (TL.i z z (TL.j z z (TL.en (TC.a (TL.j z z (TL.en (TC.cB z hh (fun h111 hh=> ?_) (fun h111 hh=> ?_))))))))))
 ·refine TC.a (TL.i z z (TL.i z z (TL.j z z (TL.i z z (TL.en (TC.ofSub (Sub.f [2,2,2] 3) (TC.ret (S.r ?_))))))))
  obtain rfl:=so hh
  exact ro [Res.cells b0_0 #[.slice a0_1 x0.of.rows.length c0_2,.map (some b0_5)] Eb0,Res.rowS 46 1 (pkSl 1 eI_ eIl_).en (.slice a0_1 x0.of.rows.length c0_2) z0_3,Res.mapB keyS keyI (some b0_5) x0.of.places] z (RVs.tmp z (RVs.tmp z (RVs.tmp z RVs.nil))) ⟨a0_1,c0_2,z0_3,b0_5,z,zf0_4,z⟩
 refine TC.skip (S.n (TC.seq (TC.a (TL.l z z (TL.w z (nilCheckLoc z z) (TL.w z (fieldLoc z fo152_0 z) (TL.w z (fieldLoc z fo150_0 z) (TL.w z (loadLoc z ag47 z (i:=0) z z) (TL.w z (lenC z underlying47 z) (TL.w z (OpVal.geq z z z) (TL.en (TC.cD z hh (fun h112 hh=> ?_) (fun h112 hh=> ?_)))))))))))))
 ·refine TC.a (TL.i z z (TL.j z z (TL.i z z (TL.en (TC.ofSub (Sub.f [2,2,2] 3) (TC.ret (S.r ?_)))))))
  obtain rfl:=so hh
  exact ro [Res.cells b0_0 #[.slice a0_1 x0.of.rows.length c0_2,.map (some b0_5)] Eb0,Res.rowS 46 1 (pkSl 1 eI_ eIl_).en (.slice a0_1 x0.of.rows.length c0_2) z0_3,Res.mapB keyS keyI (some b0_5) x0.of.places] z (RVs.tmp z (RVs.tmp z (RVs.tmp z RVs.nil))) ⟨a0_1,c0_2,z0_3,b0_5,z,zf0_4,z⟩
 refine TC.skip (S.n (TC.a (TL.l z z (TL.w z (nilCheckLoc z z) (TL.w z (fieldLoc z fo152_0 z) (TL.w z (moveStr (.inl z) z) (TL.s z z (TL.front 3 z z (TL.sealS eIl_ (fun τ115 hle114 hr113=> ?_))))))))))
 replace zf0_4:=zf0_4.mono hle114
 have hr113b:=hr113.rv.big
 refine TL.front 2 z z (TL.front 2 z z (TL.front 2 z z ?_))
 obtain ⟨v45,u45,hh⟩:=bnd_e hh
 refine TL.op z (OpOk.call (intern_store_string_add_con zf0_4 hr113 u45) z z pf81 z z z z ?_)
 rintro _ τ116 _ hle116 ⟨a116_1,c116_2,z116_3,b116_5,rfl,zf116_4,rfl⟩
 have zf116_4b:=zf116_4.length
 refine TL.i z z (TL.j z z (TL.i z z (TL.en (TC.ret ?_))))
 obtain rfl:=so hh
 exact ro [Res.cells b0_0 #[.slice a116_1 v45.2.rows.length c116_2,.map (some b116_5)] Eb0,Res.rowS 46 1 (pkSl 1 eI_ eIl_).en (.slice a116_1 v45.2.rows.length c116_2) z116_3,Res.mapB keyS keyI (some b116_5) v45.2.places] z (RVs.tmp z (RVs.tmp z (RVs.tmp z RVs.nil))) ⟨a116_1,c116_2,z116_3,b116_5,z,zf116_4,z⟩
def intern_Table_Row(x0:ITable)(x1:Int):Option ((List Int)×Int):=
 iteO (decide (x1<0)) (some (([]:List Int),1)) (iteO (decide (((x0.of.rows.length:Nat):Int)≤x1)) (some (([]:List Int),1)) (grd (0≤x1∧x1<(x0.of.rows.length:Int)) (grd ((nth x0.of.rows x1.toNat ([]:List Int)).length * 8≤140737488355328) (some ((nth x0.of.rows x1.toNat ([]:List Int)),0)))))
theorem intern_Table_Row_con{x0:ITable}{z0_3:List (List Int×(pkSl 1 eI_ eIl_).P)}{x1:Int}(zf0_4:ZOk σ (pkSl 1 eI_ eIl_) z0_3 x0.of.rows){r:(List Int)×Int}(hh:intern_Table_Row x0 x1=some r):
  Con Tryz.prog 45 #[loc b0_0 0,.int .i64 x1] σ [Res.cells b0_0 #[.slice a0_1 x0.of.rows.length c0_2,.map (some b0_5)] Eb0,Res.rowS 46 1 (pkSl 1 eI_ eIl_).en (.slice a0_1 x0.of.rows.length c0_2) z0_3,Res.mapB keyS keyI (some b0_5) x0.of.places] (fun v σ' H'=> ∃a1 c1,v= .tuple #[.slice a1 r.1.length c1,.int .i64 r.2]∧σ=σ'∧H'=[Res.rowS 3 1 eI_ (.slice a1 r.1.length c1) r.1,Res.cells b0_0 #[.slice a0_1 x0.of.rows.length c0_2,.map (some b0_5)] Eb0,Res.rowS 46 1 (pkSl 1 eI_ eIl_).en (.slice a0_1 x0.of.rows.length c0_2) z0_3,Res.mapB keyS keyI (some b0_5) x0.of.places]):=by
 dsimp only [intern_Table_Row]at hh
 have zf0_4b:=zf0_4.length
 refine Con.mk (n:=29) Tryz.func45 z z z (fun w0=> ?_)
 refine TC.a (TL.s z z (TL.i z z (TL.en (TC.seq (TC.a (TL.l z z (TL.w z (eqlNil z underlying106 z z) (TL.en (TC.f z (TC.skip (S.n (TC.seq (TC.a (TL.i z z (TL.w z (OpVal.lss z z z) ?_)))))))))))))))
 refine TL.j z z (TL.split 10 z (fun h104=> ?_) (fun h104=> ?_))
 ·replace hh:=iteO_t h104 hh
  replace h104:=of_decide_eq_true h104
  refine TL.f z (TL.f z (TL.f z (TL.f z (TL.f z (TL.f z (TL.f z (TL.f z (TL.w z (pickTB z z z) (TL.en (TC.t z (TC.a (TL.s z z (TL.i z z (TL.en (TC.nilS 3 1 eI_ ?_)))))))))))))))
  refine TC.ret (S.r ?_)
  obtain rfl:=so hh
  exact ro [Res.rowS 3 1 eI_ (.slice none ([]:List Int).length 0) ([]:List Int),Res.cells b0_0 #[.slice a0_1 x0.of.rows.length c0_2,.map (some b0_5)] Eb0,Res.rowS 46 1 (pkSl 1 eI_ eIl_).en (.slice a0_1 x0.of.rows.length c0_2) z0_3,Res.mapB keyS keyI (some b0_5) x0.of.places] z (RVs.tmp z (RVs.tmp z RVs.nil)) ⟨none,0,z,z,z⟩
 replace hh:=iteO_f h104 hh
 replace h104:=of_decide_eq_false h104
 refine TL.g z (moveI (.inl z) z) (TL.g z (moveLoc (.inl z) z) (TL.g z (nilCheckLoc z z) (TL.g z (fieldLoc z fo152_0 z) (TL.g z (fieldLoc z fo150_0 z) (TL.g z (loadLoc z ag47 z (i:=0) z z) (TL.g z (lenC z underlying47 z) (TL.g z (OpVal.geq z z z) (TL.w z (pickFB z z z) (TL.en (TC.cD z hh (fun h106 hh=> ?_) (fun h106 hh=> ?_)))))))))))
 ·refine TC.a (TL.s z z (TL.i z z (TL.en (TC.nilS 3 1 eI_ (TC.ret (S.r ?_))))))
  obtain rfl:=so hh
  exact ro [Res.rowS 3 1 eI_ (.slice none ([]:List Int).length 0) ([]:List Int),Res.cells b0_0 #[.slice a0_1 x0.of.rows.length c0_2,.map (some b0_5)] Eb0,Res.rowS 46 1 (pkSl 1 eI_ eIl_).en (.slice a0_1 x0.of.rows.length c0_2) z0_3,Res.mapB keyS keyI (some b0_5) x0.of.places] z (RVs.tmp z (RVs.tmp z RVs.nil)) ⟨none,0,z,z,z⟩
 refine TC.skip (S.n (TC.a (TL.l z z (TL.w z (nilCheckLoc z z) (TL.w z (fieldLoc z fo152_0 z) (TL.w z (fieldLoc z fo150_0 z) (TL.w z (loadLoc z ag47 z (i:=0) z z) (TL.i z z ?_))))))))
 have u27:=grd_c hh
 replace hh:=grd_t hh
 refine TL.isSl (i:=1) z (fun hs108 _ _=> ?_)
 refine TL.w z (OpVal.index z underlying47 sz46 z z (zf0_4.isSl hs108) u27.1 u27.2) ?_
 obtain ⟨p109,hp109⟩: ∃p,p=(nth z0_3 x1.toNat ((pkSl 1 eI_ eIl_).d,(pkSl 1 eI_ eIl_).dp)).2:=⟨_,rfl⟩
 have hk109:RS σ 1 eI_ (.slice p109.1 (nth x0.of.rows x1.toNat ([]:List Int)).length p109.2) (nth x0.of.rows x1.toNat ([]:List Int)):=by rw [hp109];exact (zf0_4.at (by omega)).2
 refine TL.w z (OpVal.of (hp109▸loadOZ1 zf0_4 z ag46 z (q:=1) z (by omega) z) (v':= .slice p109.1 ((nth x0.of.rows x1.toNat ([]:List Int)).length) p109.2) z) ?_
 have u29:=grd_c hh
 replace hh:=grd_t hh
 refine TL.op z (OpOk.call (Gl_ hk109 u29) z z pf82 z z z z ?_)
 rintro _ _ _ _ ⟨⟨a110,c111,rfl⟩,rfl,rfl⟩
 refine TL.s z z (TL.i z z (TL.en (TC.ret ?_)))
 obtain rfl:=so hh
 exact ro [Res.rowS 3 1 eI_ (.slice a110 (nth x0.of.rows x1.toNat ([]:List Int)).length c111) (nth x0.of.rows x1.toNat ([]:List Int)),Res.cells b0_0 #[.slice a0_1 x0.of.rows.length c0_2,.map (some b0_5)] Eb0,Res.rowS 46 1 (pkSl 1 eI_ eIl_).en (.slice a0_1 x0.of.rows.length c0_2) z0_3,Res.mapB keyS keyI (some b0_5) x0.of.places] z (RVs.tmp z (RVs.tmp z RVs.nil)) ⟨a110,c111,z,z,z⟩
def putKeep(x0:ITable)(x1:List Int):Option (Int×Bool×Int×ITable):=
 bnd (intern_Sort x1) (fun v10=>bnd (intern_key v10) (fun v13=>bnd (intern_store_string_find (⟨x0.of.rows,x0.of.places⟩:IStore) v13) (fun v19=>iteO v19.2 (some (v19.1,false,0,(⟨(⟨x0.of.rows,x0.of.places⟩:IStore)⟩:ITable))) (iteO (decide (4096≤((x0.of.rows.length:Nat):Int))) (some (0,false,2,(⟨(⟨x0.of.rows,x0.of.places⟩:IStore)⟩:ITable))) (bnd (intern_store_string_add (⟨x0.of.rows,x0.of.places⟩:IStore) v13 v10) (fun v45=>some (v45.1,true,0,(⟨(⟨v45.2.rows,v45.2.places⟩:IStore)⟩:ITable))))))))
theorem putKeep_con{x0:ITable}{z0_3:List (List Int×(pkSl 1 eI_ eIl_).P)}{x1:List Int}(zf0_4:ZOk σ (pkSl 1 eI_ eIl_) z0_3 x0.of.rows){r:Int×Bool×Int×ITable}(hh:putKeep x0 x1=some r):
  Con Tryz.prog 43 #[loc b0_0 0,.slice a1_1 x1.length c1_2] σ [Res.cells b0_0 #[.slice a0_1 x0.of.rows.length c0_2,.map (some b0_5)] Eb0,Res.rowS 46 1 (pkSl 1 eI_ eIl_).en (.slice a0_1 x0.of.rows.length c0_2) z0_3,Res.mapB keyS keyI (some b0_5) x0.of.places,Res.rowS 3 1 eI_ (.slice a1_1 x1.length c1_2) x1] (fun v σ' H'=> ∃ao1 co2, ∃(zo3:List (List Int×(pkSl 1 eI_ eIl_).P)), ∃bo5,v= .tuple #[.int .i64 r.1,.bool r.2.1,.int .i64 r.2.2.1]∧ZOk σ' (pkSl 1 eI_ eIl_) zo3 r.2.2.2.of.rows∧H'=[Res.cells b0_0 #[.slice ao1 r.2.2.2.of.rows.length co2,.map (some bo5)] Eb0,Res.rowS 46 1 (pkSl 1 eI_ eIl_).en (.slice ao1 r.2.2.2.of.rows.length co2) zo3,Res.mapB keyS keyI (some bo5) r.2.2.2.of.places,Res.rowS 3 1 eI_ (.slice a1_1 x1.length c1_2) x1]):=by
 dsimp only [putKeep]at hh
 have zf0_4b:=zf0_4.length
 refine Con.mk (n:=40) Tryz.func43 z z z (fun w0=> ?_)
 refine TC.a (TL.i z z (TL.j z z (TL.i z z (TL.en (TC.seq (TC.a (TL.l z z (TL.w z (eqlNil z underlying106 z z) (TL.en (TC.f z (TC.skip (S.n (TC.a (TL.s z z (TL.front 3 z z ?_)))))))))))))))
 obtain ⟨v10,u10,hh⟩:=bnd_e hh
 refine TL.op rfl (OpOk.call (Con.lendG (Post:=fun τ=>intern_Sort_P τ v10) eIl_ (by rintro τ τ' r σ' H' ⟨g0,g1,rfl,rfl,rfl⟩;exact ⟨rfl,g0,g1,rfl,rfl,rfl⟩) (fun _ hle_ hr_=>intern_Sort_con hr_ u10)) rfl rfl pf78 rfl rfl rfl rfl ?_)
 rintro _ _ _ hle107 ⟨_,⟨a107_1,c107_1,rfl,rfl,rfl⟩,rfl⟩
 refine TL.s z z (TL.en (TC.a (TL.s z z ?_)))
 obtain ⟨v13,u13,hh⟩:=bnd_e hh
 refine TL.op z (callK (Con.lend eIl_ (fun _ hle110 hr109=>intern_key_con hr109 u13)) z z pf79 z z z z ?_)
 refine TL.w z (moveStr (.inr z) z) (TL.en (TC.seq (TC.a (TL.l z z (TL.w z (nilCheckLoc z z) (TL.w z (fieldLoc z fo152_0 z) (TL.w z (moveStr (.inl z) z) (TL.front 4 z z (TL.front 4 z z (TL.front 4 z z ?_))))))))))
 obtain ⟨v19,u19,hh⟩:=bnd_e hh
 refine TL.op z (OpOk.call (intern_store_string_find_con zf0_4 u19) z z pf80 z z z z ?_)
 rintro _ _ _ hle111 ⟨rfl,rfl,rfl⟩
 refine TL.w z (moveT (.inl z) z) (TL.w z (OpVal.extract z z z) (TL.w z (OpVal.extract z z z) (TL.i z z (TL.j z z (TL.en (TC.a (TL.j z z (TL.en (TC.cB z hh (fun h112 hh=> ?_) (fun h112 hh=> ?_))))))))))
 ·refine TC.a (TL.i z z (TL.i z z (TL.j z z (TL.i z z (TL.en (TC.ofSub (Sub.f [4,3,3,3] 4) (TC.ret (S.r ?_))))))))
  obtain rfl:=so hh
  exact ro [Res.cells b0_0 #[.slice a0_1 x0.of.rows.length c0_2,.map (some b0_5)] Eb0,Res.rowS 46 1 (pkSl 1 eI_ eIl_).en (.slice a0_1 x0.of.rows.length c0_2) z0_3,Res.mapB keyS keyI (some b0_5) x0.of.places,Res.rowS 3 1 eI_ (.slice a1_1 x1.length c1_2) x1] z (RVs.tmp z (RVs.tmp z (RVs.tmp z RVs.nil))) ⟨a0_1,c0_2,z0_3,b0_5,z,zf0_4,z⟩
 refine TC.skip (S.n (TC.seq (TC.a (TL.l z z (TL.w z (nilCheckLoc z z) (TL.w z (fieldLoc z fo152_0 z) (TL.w z (fieldLoc z fo150_0 z) (TL.w z (loadLoc z ag47 z (i:=0) z z) (TL.w z (lenC z underlying47 z) (TL.w z (OpVal.geq z z z) (TL.en (TC.cD z hh (fun h113 hh=> ?_) (fun h113 hh=> ?_)))))))))))))
 ·refine TC.a (TL.i z z (TL.j z z (TL.i z z (TL.en (TC.ofSub (Sub.f [4,3,3,3] 4) (TC.ret (S.r ?_)))))))
  obtain rfl:=so hh
  exact ro [Res.cells b0_0 #[.slice a0_1 x0.of.rows.length c0_2,.map (some b0_5)] Eb0,Res.rowS 46 1 (pkSl 1 eI_ eIl_).en (.slice a0_1 x0.of.rows.length c0_2) z0_3,Res.mapB keyS keyI (some b0_5) x0.of.places,Res.rowS 3 1 eI_ (.slice a1_1 x1.length c1_2) x1] z (RVs.tmp z (RVs.tmp z (RVs.tmp z RVs.nil))) ⟨a0_1,c0_2,z0_3,b0_5,z,zf0_4,z⟩
 refine TC.skip (S.n (TC.a (TL.l z z (TL.w z (nilCheckLoc z z) (TL.w z (fieldLoc z fo152_0 z) (TL.w z (moveStr (.inl z) z) (TL.s z z (TL.front 3 z z (TL.sealS eIl_ (fun τ116 hle115 hr114=> ?_))))))))))
 replace zf0_4:=zf0_4.mono hle115
 have hr114b:=hr114.rv.big
 refine TL.front 2 z z (TL.front 2 z z (TL.front 2 z z ?_))
 obtain ⟨v45,u45,hh⟩:=bnd_e hh
 refine TL.op z (OpOk.call (intern_store_string_add_con zf0_4 hr114 u45) z z pf81 z z z z ?_)
 rintro _ τ117 _ hle117 ⟨a117_1,c117_2,z117_3,b117_5,rfl,zf117_4,rfl⟩
 have zf117_4b:=zf117_4.length
 refine TL.i z z (TL.j z z (TL.i z z (TL.en (TC.ret ?_))))
 obtain rfl:=so hh
 exact ro [Res.cells b0_0 #[.slice a117_1 v45.2.rows.length c117_2,.map (some b117_5)] Eb0,Res.rowS 46 1 (pkSl 1 eI_ eIl_).en (.slice a117_1 v45.2.rows.length c117_2) z117_3,Res.mapB keyS keyI (some b117_5) v45.2.places,Res.rowS 3 1 eI_ (.slice a1_1 x1.length c1_2) x1] z (RVs.tmp z (RVs.tmp z (RVs.tmp z RVs.nil))) ⟨a117_1,c117_2,z117_3,b117_5,z,zf117_4,z⟩
def intern_Table_Size(x0:ITable):Option (Int):=
 some ((x0.of.rows.length:Nat):Int)
theorem intern_Table_Size_con{x0:ITable}{z0_3:List (List Int×(pkSl 1 eI_ eIl_).P)}(zf0_4:ZOk σ (pkSl 1 eI_ eIl_) z0_3 x0.of.rows){r:Int}(hh:intern_Table_Size x0=some r):
  Con Tryz.prog 44 #[loc b0_0 0] σ [Res.cells b0_0 #[.slice a0_1 x0.of.rows.length c0_2,.map (some b0_5)] Eb0,Res.rowS 46 1 (pkSl 1 eI_ eIl_).en (.slice a0_1 x0.of.rows.length c0_2) z0_3,Res.mapB keyS keyI (some b0_5) x0.of.places] (fun v σ' H'=>v= .int .i64 r∧σ=σ'∧H'=[Res.cells b0_0 #[.slice a0_1 x0.of.rows.length c0_2,.map (some b0_5)] Eb0,Res.rowS 46 1 (pkSl 1 eI_ eIl_).en (.slice a0_1 x0.of.rows.length c0_2) z0_3,Res.mapB keyS keyI (some b0_5) x0.of.places]):=by
 dsimp only [intern_Table_Size]at hh
 have zf0_4b:=zf0_4.length
 refine Con.mk (n:=11) Tryz.func44 z z z (fun w0=> ?_)
 refine TC.a (TL.i z z (TL.en (TC.seq (TC.a (TL.l z z (TL.w z (eqlNil z underlying106 z z) (TL.en (TC.f z (TC.skip (S.n (TC.a (TL.l z z (TL.w z (nilCheckLoc z z) (TL.w z (fieldLoc z fo152_0 z) (TL.w z (fieldLoc z fo150_0 z) ?_)))))))))))))))
 refine TL.w z (loadLoc z ag47 z (i:=0) z z) (TL.w z (lenC z underlying47 z) (TL.i z z (TL.en (TC.ret ?_))))
 obtain rfl:=so hh
 exact ro [Res.cells b0_0 #[.slice a0_1 x0.of.rows.length c0_2,.map (some b0_5)] Eb0,Res.rowS 46 1 (pkSl 1 eI_ eIl_).en (.slice a0_1 x0.of.rows.length c0_2) z0_3,Res.mapB keyS keyI (some b0_5) x0.of.places] z (RVs.tmp z RVs.nil) ⟨z,z,z⟩
end Go.Proofs.YtamgjehhjkgelaaGreatDoor
end

noncomputable section
namespace Go.Proofs.YtamgjehhjkgelaaGreatDoor
open Go Go.E
theorem edge_con(σ:Store)(b c:Nat)(a:Option Addr)(l:List Arrow)(f t:Int)(s:BSet)(hsz:l.length≤1000000000):
    Con Tryz.prog 61 #[loc b 0,.int .i64 f,.int .i64 t,setV s] σ [Res.cells b #[.slice a l.length c] 132,Res.rowS 58 6 encE (.slice a l.length c) l] (EdgeP 132 58 b l ⟨f,t,s⟩ σ):=by
  refine Con.mk (n:=21) Tryz.func61 rfl rfl rfl (fun w0=> ?_)
  refine TC.seq ?_
  refine TC.region ?_
  refine TL.op rfl (OpOk.boxA rfl rfl rfl rfl (fun b1=> ?_))
  refine TL.nil ?_
  refine S.n ?_
  refine TC.draw [10,11,12,13] (by kernel_rfl) ?_
  refine TA.takeP 0 rfl (by kernel_rfl) (by kernel_rfl) (by kernel_rfl) rfl (OpVal.moveLoc (.inl rfl) rfl) rfl rfl ?_
  refine TA.takeP 1 rfl (by kernel_rfl) (by kernel_rfl) (by kernel_rfl) rfl (OpVal.moveLoc (.inl rfl) rfl) rfl rfl ?_
  refine TA.takeP 2 rfl (by kernel_rfl) (by kernel_rfl) (by kernel_rfl) rfl (OpVal.nilCheckLoc rfl rfl) rfl rfl ?_
  refine TA.takeP 3 rfl (by kernel_rfl) (by kernel_rfl) (by kernel_rfl) rfl (OpVal.fieldLoc rfl fo132_0 rfl) rfl rfl ?_
  refine TA.take 4 rfl (by kernel_rfl) (by kernel_rfl) (by kernel_rfl) (by kernel_rfl) rfl (OpVal.loadLoc rfl ag59 rfl (i:=1) rfl rfl) rfl rfl ?_
  refine TA.takeP 5 rfl (by kernel_rfl) (by kernel_rfl) (by kernel_rfl) rfl (OpVal.moveI (.inl rfl) rfl) rfl rfl ?_
  refine TA.takeP 6 rfl (by kernel_rfl) (by kernel_rfl) (by kernel_rfl) rfl (OpVal.moveI (.inl rfl) rfl) rfl rfl ?_
  refine TA.take 7 rfl (by kernel_rfl) (by kernel_rfl) (by kernel_rfl) (by kernel_rfl) rfl (OpVal.loadAll rfl ag55 sz55 rfl (i:=0) rfl rfl) rfl rfl ?_
  refine TA.takeP 8 rfl (by kernel_rfl) (by kernel_rfl) (by kernel_rfl) rfl (OpVal.buildL rfl pl58 ze58 rfl) rfl rfl ?_
  refine TA.act 9 (by kernel_rfl) rfl rfl (OpOk.lit (enc:=encE) [⟨f,t,s⟩] rfl Tryz.underlying59 sz58 ze58 rfl rfl rfl encE_len (by decide) (by decide) Arrow.zero rfl (by decide) rfl (by decide) encE_one (fun a3 c4=>⟨(fun w h=>sees_of (by first|exact Store.le.refl _|assumption) (fun r hr=>(List.mem_cons_of_mem _ hr)) w h),?_⟩))
  refine TA.front 3 rfl rfl ?_
  refine TA.last 10 (by kernel_rfl) rfl rfl rfl (OpOk.appendS rfl rfl Tryz.underlying59 sz58 by58 ze58 rfl rfl (by decide) rfl rfl rfl (.inr ⟨_,0,rfl⟩) (by (try simp only [List.length_cons,List.length_nil,List.length_append]);omega) (by decide) (fun a6 c7=> ?_))
  refine TZ.v 11 (by kernel_rfl) rfl rfl rfl (OpVal.nilCheckLoc rfl rfl) rfl rfl ?_
  refine TZ.v 12 (by kernel_rfl) rfl rfl rfl (OpVal.fieldLoc rfl fo132_0 rfl) rfl rfl ?_
  refine TZ.front 3 rfl rfl ?_
  refine TZ.last 13 (by kernel_rfl) rfl rfl rfl (OpOk.storeSl rfl sz59 rfl rfl rfl rfl rfl ?_)
  refine TZ.done (by kernel_rfl) ?_
  -- leaf 1 end [] H=['q0', 'r0', 'q5', 'q2']
  exact retE (by simp) rfl
def setE(s:BSet):List Arrow:=if s=BSet.zero then [] else [⟨0,1,s⟩]
def setN(s:BSet):Nfa:=⟨2,[0],[1],setE s⟩
theorem setE_ok{s:BSet}(h:s.ok): ∀x∈setE s,x.set.ok:=by
  intro x hx
  unfold setE at hx
  split at hx
  · simp at hx
  simp at hx;subst hx;exact h
theorem Hd_(σ:Store)(s:BSet)(hs:s.ok):Con Tryz.prog 27 #[setV s] σ [] (NfaR1 (setN s)):=by
  refine Con.mk (n:=19) Tryz.func27 rfl rfl rfl (fun w0=> ?_)
  refine TC.seq ?_
  refine TC.region ?_
  refine TL.op rfl (OpOk.boxA rfl rfl rfl rfl (fun b1=> ?_))
  refine TL.op rfl (OpOk.alloc rfl ze61 rfl rfl (fun b3=> ?_))
  refine TL.nil ?_
  refine S.n ?_
  refine TC.seq ?_
  refine TC.region ?_
  refine TL.v rfl (OpVal.buildL rfl pl132 ze132 rfl) rfl rfl ?_
  refine TL.op rfl (OpOk.boxA rfl rfl rfl rfl (fun b5=> ?_))
  refine TL.nilS 58 6 encE ?_
  refine TL.v rfl (OpVal.moveLoc (.inr rfl) rfl) rfl rfl ?_
  refine TL.nil ?_
  refine S.n ?_
  refine TC.seq ?_
  refine TC.seq ?_
  refine TC.region ?_
  refine TL.v rfl (OpVal.loadAll rfl ag55 sz55 rfl (i:=3) rfl rfl) rfl rfl ?_
  refine TL.v rfl (OpVal.buildArrL rfl Tryz.underlying55 sz53 ze55 rfl) rfl rfl ?_
  refine TL.v rfl (OpVal.neqArr4 rfl Tryz.underlying55 Tryz.underlying53 ag53 sz53 eg55 rfl rfl rfl rfl) rfl rfl ?_
  refine TL.nil ?_
  refine S.n ?_
  refine TC.cond rfl (fun h8=> ?_) (fun h8=> ?_)
  · try simp only [decide_eq_true_eq,decide_eq_false_iff_not,Bool.not_eq_true',Bool.not_eq_false',Bool.not_eq_eq_eq_not,Bool.not_true,Bool.not_false,Int.not_lt,Int.not_le,Decidable.not_not]at h8
    refine TC.region ?_
    refine TL.v rfl (OpVal.moveLoc (.inl rfl) rfl) rfl rfl ?_
    refine TL.v rfl (OpVal.loadAll rfl ag55 sz55 rfl (i:=3) rfl rfl) rfl rfl ?_
    refine TL.front 1 rfl rfl ?_
    refine TL.op rfl (OpOk.callE (edge_con _ _ _ _ [] 0 1 s (by decide)) rfl rfl pf61 rfl rfl rfl rfl (fun a9 c10=> ?_))
    refine TL.nil ?_
    refine S.n ?_
    refine TC.seq ?_
    refine TC.region ?_
    refine TL.op rfl (OpOk.lit (enc:=eI_) [_] rfl Tryz.underlying46 sz3 ze3 rfl rfl rfl eIl_ (by decide) (by decide) (0:Int) rfl (by decide) rfl (by decide) eIo_ (fun a11 c12=> ?_))
    refine TL.op rfl (OpOk.lit (enc:=eI_) [_] rfl Tryz.underlying46 sz3 ze3 rfl rfl rfl eIl_ (by decide) (by decide) (0:Int) rfl (by decide) rfl (by decide) eIo_ (fun a14 c15=> ?_))
    refine TL.v rfl (OpVal.moveLoc (.inl rfl) rfl) rfl rfl ?_
    refine TL.v rfl (OpVal.nilCheckLoc rfl rfl) rfl rfl ?_
    refine TL.v rfl (OpVal.fieldLoc rfl fo132_0 rfl) rfl rfl ?_
    refine TL.v rfl (OpVal.loadLoc rfl ag59 rfl (i:=2) rfl rfl) rfl rfl ?_
    refine TL.v rfl (OpVal.buildL rfl pl61 ze61 rfl) rfl rfl ?_
    refine TL.front 4 rfl rfl ?_
    refine TL.op rfl (OpOk.storeAll rfl sz61 rfl rfl rfl rfl rfl rfl ?_)
    refine TL.nil ?_
    refine S.n ?_
    refine TC.front 1 rfl rfl ?_
    refine TC.sealS eIl_ (fun τ19 hle18 hr17=> ?_)
    refine TC.front 1 rfl rfl ?_
    refine TC.sealS eIl_ (fun τ22 hle21 hr20=> ?_)
    replace hr17:=hr17.mono hle21
    refine TC.front 2 rfl rfl ?_
    refine TC.sealS encE_len (fun τ25 hle24 hr23=> ?_)
    replace hr17:=hr17.mono hle24
    replace hr20:=hr20.mono hle24
    refine TC.ret ?_
    -- leaf 1 ret [h8: True] H=['q4', 'q6', 'q2']
    have h0: ¬ s=BSet.zero:=fun hx=>h8 ((BSet.zero_iff s).2 hx)
    have hE:setE s=[⟨0,1,s⟩]:=if_neg h0
    exact retNfa1 (p:=⟨a11,c12,a14,c15,a9,c10⟩) 0 rfl ag61 sz61 rfl rfl (by unfold nfaA setN;rw [hE];rfl) ⟨hr20,hr17,by unfold setN;rw [hE];exact hr23,setE_ok hs⟩
  try simp only [decide_eq_true_eq,decide_eq_false_iff_not,Bool.not_eq_true',Bool.not_eq_false',Bool.not_eq_eq_eq_not,Bool.not_true,Bool.not_false,Int.not_lt,Int.not_le,Decidable.not_not]at h8
  refine TC.skip ?_
  refine S.n ?_
  refine TC.seq ?_
  refine TC.region ?_
  refine TL.op rfl (OpOk.lit (enc:=eI_) [_] rfl Tryz.underlying46 sz3 ze3 rfl rfl rfl eIl_ (by decide) (by decide) (0:Int) rfl (by decide) rfl (by decide) eIo_ (fun a26 c27=> ?_))
  refine TL.op rfl (OpOk.lit (enc:=eI_) [_] rfl Tryz.underlying46 sz3 ze3 rfl rfl rfl eIl_ (by decide) (by decide) (0:Int) rfl (by decide) rfl (by decide) eIo_ (fun a29 c30=> ?_))
  refine TL.v rfl (OpVal.moveLoc (.inl rfl) rfl) rfl rfl ?_
  refine TL.v rfl (OpVal.nilCheckLoc rfl rfl) rfl rfl ?_
  refine TL.v rfl (OpVal.fieldLoc rfl fo132_0 rfl) rfl rfl ?_
  refine TL.v rfl (OpVal.loadLoc rfl ag59 rfl (i:=3) rfl rfl) rfl rfl ?_
  refine TL.v rfl (OpVal.buildL rfl pl61 ze61 rfl) rfl rfl ?_
  refine TL.front 4 rfl rfl ?_
  refine TL.op rfl (OpOk.storeAll rfl sz61 rfl rfl rfl rfl rfl rfl ?_)
  refine TL.nil ?_
  refine S.n ?_
  refine TC.front 1 rfl rfl ?_
  refine TC.sealS eIl_ (fun τ34 hle33 hr32=> ?_)
  refine TC.front 1 rfl rfl ?_
  refine TC.sealS eIl_ (fun τ37 hle36 hr35=> ?_)
  replace hr32:=hr32.mono hle36
  refine TC.front 1 rfl rfl ?_
  refine TC.sealS encE_len (fun τ40 hle39 hr38=> ?_)
  replace hr32:=hr32.mono hle39
  replace hr35:=hr35.mono hle39
  refine TC.ret ?_
  -- leaf 2 ret [h8: False] H=['q4', 'q6', 'q2']
  have h0:s=BSet.zero:=(BSet.zero_iff s).1 h8
  have hE:setE s=[]:=if_pos h0
  exact retNfa1 (p:=⟨a26,c27,a29,c30,none,0⟩) 0 rfl ag61 sz61 rfl rfl (by unfold nfaA setN;rw [hE];rfl) ⟨hr35,hr32,by unfold setN;rw [hE];exact hr38,setE_ok hs⟩
end Go.Proofs.YtamgjehhjkgelaaGreatDoor
end

noncomputable section
namespace Go.Proofs.YtamgjehhjkgelaaGreatDoor
open Go Go.E
end Go.Proofs.YtamgjehhjkgelaaGreatDoor
end

noncomputable section
namespace Go.Proofs.YtamgjehhjkgelaaGreatDoor
open Go Go.E
end Go.Proofs.YtamgjehhjkgelaaGreatDoor
end

noncomputable section
namespace Go.E
open Go
structure Dfa where
  cls:List Int
  next:List (List Int)
  fin:List Bool
def Dfa.zero:Dfa:=⟨[],[],[]⟩
structure DfaP where
  a1:Option Addr
  c1:Nat
  a2:Option Addr
  c2:Nat
  a3:Option Addr
  c3:Nat
def DfaP.zero:DfaP:=⟨none,0,none,0,none,0⟩
structure RDfa (σ:Store) (x:Dfa) (p:DfaP):Prop where
  c:RS σ 1 eI_ (.slice p.a1 x.cls.length p.c1) x.cls
  n:RZ σ (pkSl 1 eI_ eIl_) (.slice p.a2 x.next.length p.c2) x.next
  e:RS σ 1 encB (.slice p.a3 x.fin.length p.c3) x.fin
end Go.E
end

noncomputable section
namespace Go.E
open Go
def GT{α:Type}(σ:Store)(g:Nat)(enc:α→List Value)(l:List α):Prop:= ∃E,σ g=some (.cells (l.flatMap enc).toArray E)
theorem GT.mono{α:Type}{σ τ:Store}{g:Nat}{enc:α→List Value}{l:List α}(h:GT σ g enc l)(hle:σ.le τ):GT τ g enc l:=let ⟨E,h⟩:=h;⟨E,hle _ _ h⟩
theorem flat_one{α:Type}{enc:α→List Value}(hl: ∀x,(enc x).length=1)(d:α): ∀(l:List α) (i:Nat),i<l.length→(l.flatMap enc)[i]? =(enc (nth l i d))[0]?
  |[],i,h=>by simp at h
  |x::l,0,_=>by
    have:=hl x
    rw [List.flatMap_cons,List.getElem?_append_left (by omega)]
    simp [nth]
  |x::l,i+1,h=>by
    have h1:=hl x
    rw [List.flatMap_cons,List.getElem?_append_right (by omega),h1,Nat.add_sub_cancel,flat_one hl d l i (by simpa using h)]
    simp [nth]
theorem OpVal.loadG1{P:Program}{n:Nat}{e:Env}{H:List Res}{o:Oper}{x:Operand}{α:Type}{T g i:Nat}{enc:α→List Value}{l:List α}{v:Value}(d:α)(ho:o.op= .load T x)(hA:aggOf P T=some false)(hx:ev e x=loc g (0+i * 1))(hG:GT σ g enc l)(hi:i<l.length)(hl: ∀x,(enc x).length=1)(hv:enc (nth l i d)=[v]):OpVal P n o e σ H v:=fun w hw=>by
  obtain ⟨E,hE⟩:=hG
  have h1:=hw.1 _ _ hE
  have hc:w.cell? ⟨g,0+i * 1,none⟩=some v:=by
    have h2:=flat_one hl d l i hi
    rw [hv]at h2
    simp only [World.cell?,h1,Option.isSome_none,Bool.false_eq_true,if_false,Nat.zero_add,Nat.mul_one,List.getElem?_toArray]
    rw [h2];rfl
  rw [Nat.zero_add,Nat.mul_one]at hc hx
  simp [execOp,ho,hx,Instr.loadAt,Instr.sureAddr,loc,run_loadVar_one hA hc]
theorem OpVal.negW{P:Program}{n:Nat}{e:Env}{H:List Res}{o:Oper}{x:Operand}{T:TypeId}{k:IntKind}{a:Int}(ho:o.op= .unOp .neg T x)(hx:ev e x= .int k a):OpVal P n o e σ H (.int k (k.wrap (-a))):=fun w _=>by
  simp [execOp,ho,hx,Op.unary,Op.intArith]
theorem OpVal.negU{P:Program}{n:Nat}{e:Env}{H:List Res}{o:Oper}{x:Operand}{T:TypeId}{a:Nat}(ho:o.op= .unOp .neg T x)(hx:ev e x= .int .u64 (a:Nat)):OpVal P n o e σ H (.int .u64 ((u64of (-(a:Int)):Nat):Int)):=by
  rw [u64of_val];exact OpVal.negW ho hx
theorem OpVal.indexSet{P:Program}{n:Nat}{e:Env}{H:List Res}{o:Oper}{x y:Operand}{T E i:Nat}{k:IntKind}{s:BSet}(ho:o.op= .index T x y)(ht:P.underlying T=some (.array 4 E))(hz:szOf P E=some 1)(hA:aggOf P E=some false)(hx:ev e x=setV s)(hy:ev e y= .int k (i:Nat))(hi:i<4):
    OpVal P n o e σ H (.int .u64 ((s.word i:Nat):Int)):=fun w _=>by
  have h1:=setA_get s hi
  simp [execOp,ho,hx,hy,setV,Instr.index,asIntOf,run_underlying ht,run_sizeOf hz,part,run_isAgg hA,h1]
  omega
def deB:List UInt8:=[0,1,56,2,57,49,28,3,61,58,42,50,38,29,17,4,62,47,59,36,45,43,51,22,53,39,33,30,24,18,12,5,63,55,48,27,60,41,37,16,46,35,44,21,52,32,23,11,54,26,40,15,34,20,31,10,25,14,19,9,13,8,7,6]
end Go.E
end

noncomputable section
namespace Go.E
open Go
structure YSpec (S:Type) where
  R:S→Store→Res→Prop
  mono: ∀{s σ σ' r},R s σ r→σ.le σ'→R s σ' r
def YR{S:Type}(Z:YSpec S)(s:S)(σ:Store)(r:Res):Prop:=Z.R s σ r
theorem YR.mono{S:Type}{Z:YSpec S}{s:S}{σ σ':Store}{r:Res}(h:YR Z s σ r)(hle:σ.le σ'):YR Z s σ' r:=Z.mono h hle
def YOk (P : Program) (l : Nat) {S α : Type} (A : α → Store → List Value → Prop) (Z : YSpec S) (Y : S → α → Option (S × Bool)) : Prop :=
  ∀s x σ r args w s' b,Y s x=some (s',b)→A x σ args→YR Z s σ r→Reach w r.bl σ σ w [r]→
    YieldAt (fence none) 0 P l args.toArray w fun e w'=>e= .returned (.bool b)∧ ∃σ' r',YR Z s' σ' r'∧Reach w r.bl σ σ' w' [r']
def IterOk (P : Program) (f : FuncId) (lb : List Value) {S α : Type} (A : α → Store → List Value → Prop) (Y : S → α → Option (S × Bool)) (σ : Store) (Hc : List Res) (s s' : S) (Post : Store → List Res → Prop) : Prop :=
  ∀(l:Nat) (Z:YSpec S) (r:Res),YOk P l A Z Y→YR Z s σ r→
    Con P f (.func (.yield l) #[] #[]::lb).toArray σ (r::Hc) fun _ σ' H'=> ∃r' Hc',H'=r'::Hc'∧YR Z s' σ' r'∧Post σ' Hc'
theorem OpOk.callY{X:Ctx}{e:Env}{H F:List Res}{o:Oper}{x:Operand}{K:Env→Store→List Res→Prop}{l d:Nat}{opds:Array Operand}{ts:Array TypeId}{S α:Type}{A:α→Store→List Value→Prop}{Z:YSpec S}{Y:S→α→Option (S×Bool)}{s:S}{q:S×Bool}{v:α}{r:Res}
    (hY:YOk X.P l A Z Y) (hs:YR Z s σ r) (he:Y s v=some q) (ho:o.op= .call {callee:= .value x,args:=opds,argTypes:=ts})
    (hx:ev e x= .func (.yield l) #[] #[]) (hA:A v σ (opds.toList.map (ev e))) (hd:o.dst=some d) (hn:Nat.blt d X.n=true) (hH:r::F=H)
    (k: ∀σ' r',σ.le σ'→YR Z q.1 σ' r'→K (upd e d (.bool q.2)) σ' (r'::F)):OpOk X o e σ H K:=by
  subst hH
  obtain ⟨s',b⟩:=q
  intro u0 C0 τ0 w a hw ha K' Q hK
  have hbl:blks [r]=r.bl:=by simp [blks]
  have hself:Reach w r.bl σ σ w [r]:=by
    have:=(hw.sub (H':=[r]) (by simp)).self
    rwa [hbl]at this
  obtain ⟨fn,tmps,assign,body,hrun,hround⟩:=hY s v σ r _ w s' b he hA hs hself
  have hr:(execOp a.eval o).run X.P w= .ok (.round l fn tmps assign body) w:=by
    rw [ha.eval']
    have hl:(opds.toList.map (ev e)).toArray=opds.map (ev e):=by apply Array.ext';simp
    rw [hl]at hrun
    simp [execOp,ho,resolve,hx,Deferred.ofValue,invoke,hrun]
  refine Oper.wp_run hr (fun _=>by simp) ?_
  rw [Oper.uponIn_round]
  refine ⟨fun h=>(by cases h),RoundIn.mono (R:=fun e w'=>e= .returned (.bool b)∧ ∃σ' r',YR Z s' σ' r'∧Reach w r.bl σ σ' w' [r']) hround ?_⟩
  rintro ex w' ⟨rfl,σ',r',h1,h2⟩
  refine hK _ _ _ _ _ (k σ' r' h2.le h1) (Reach.call (H1:=[r]) (H1':=[r']) hw (by rw [hbl];exact h2)) (put_dst ha hd hn _)
def Res.lrec(b:Nat)(o:Obj):Res:=⟨[b],fun w=>w.heap[b]? =some o,fun w k hk h=>by simp at hk;subst hk;exact (Array.getElem?_eq_some_iff.1 h).1,fun w w' hb h=>by rw [hb b (by simp)];exact h⟩
theorem Reach.turnRec{w0:World}{C:List Nat}{σ0 σ:Store}{w:World}{l:Nat}{o o':Obj}{F:List Res}(h:Reach w0 C σ0 σ w (Res.lrec l o::F)):Reach w0 C σ0 σ (w.putObj l o') (Res.lrec l o'::F):=by
  have hl:w.heap[l]? =some o:=h.holds _ (List.mem_cons_self ..)
  refine h.turn rfl rfl rfl (by simp [World.putObj]) (Nat.le_refl _) (fun k _ hk=>World.putObj_heap_other (fun e=>hk (by simp [Res.lrec,e]))) (World.putObj_heap_same (Array.getElem?_eq_some_iff.1 hl).1) (fun b hb=> .inl hb) (by simp [Res.lrec])
theorem Reach.tail{w0:World}{C:List Nat}{σ0 σ:Store}{w:World}{r:Res}{F:List Res}(h:Reach w0 C σ0 σ w (r::F)):Reach w (blks F) σ σ w F:=(h.sub (List.sublist_cons_self ..)).self
theorem Reach.callT{w0:World}{C:List Nat}{σ0 σ σ':Store}{w w':World}{r:Res}{F F':List Res}(h:Reach w0 C σ0 σ w (r::F))(k:Reach w (blks F) σ σ' w' F'):Reach w0 C σ0 σ' w' (r::F'):=by
  have h1:Reach w0 C σ0 σ w (F++[r]):=h.perm (List.perm_append_singleton r F)
  exact (h1.call k).perm (List.perm_append_singleton r F').symm
def bindE(e:Env)(ps:List Tmp)(vs:List Value):Env:=(ps.zip vs).foldl (fun e p=>upd e p.1 p.2) e
theorem St.binds{n:Nat}: ∀(ps:List Tmp) (vs:List Value) {e:Env} {t:Array Value},(∀p∈ps,p<n)→St n e {tmps:=t,defers:=[]}→St n (bindE e ps vs) {tmps:=(ps.zip vs).foldl (fun t p=>t.setIfInBounds p.1 p.2) t,defers:=[]}
  |[],_,_,_,_,h=>h
  |_::_,[],_,_,_,h=>h
  |p::ps,v::vs,e,t,hp,h=>by
    have h1:=h.put (hp p (List.mem_cons_self ..)) v
    exact St.binds ps vs (fun q hq=>hp q (List.mem_cons_of_mem _ hq)) h1
@[reducible]def asgQ(K:Env→Store→List Res→Prop):QP:=fun ex=>match ex with
  | .normal=>K
  |_=>fun _ _ _=>False
@[reducible]def rndQ(J:List Code)(K:Nat→Store→List Res→Prop):QP:=fun ex _ σ H=>match ex with
  | .normal=>K 0 σ H
  | .ret=> ∃j,J[j]? =some .ret∧K (j+1) σ H
  | .exit i=> ∃j,J[j]? =some (.exit i)∧K (j+1) σ H
  | .goto i=> ∃j,J[j]? =some (.goto i)∧K (j+1) σ H
  |_=>False
def stepY{S α:Type}(B:S→α→Option (Nat×S))(p:Nat×S)(x:α):Option ((Nat×S)×Bool):=
  if p.1=0 then (B p.2 x).bind fun q=>some (q,q.1 == 0) else none
theorem stepY_some{S α:Type}{B:S→α→Option (Nat×S)}{p p':Nat×S}{x:α}{b:Bool}(h:stepY B p x=some (p',b)):p.1=0∧B p.2 x=some p'∧b=(p'.1 == 0):=by
  unfold stepY at h
  split at h
  · rename_i h0
    cases hb:B p.2 x with
    |none=>simp [hb]at h
    |some q=>simp [hb]at h;exact ⟨h0,by rw [h.1],by rw [←h.2,h.1]⟩
  cases h
abbrev mkRec(fn:FuncId)(tmps:Array Value)(ps:Array Tmp)(assign body:Code)(D:Nat)(st:LoopState)(pe:Option Code):Loop:={state:=st,pending:=pe,fn,tmps,params:=ps,assign,body,defers:=D}
def recOf(rec:LoopState→Option Code→Loop)(J:List Code)(j:Nat):Obj:= .loop (if j=0 then rec .ready none else rec .done (J[j - 1]?))
def rndZ{S:Type}(l:Nat)(rec:LoopState→Option Code→Loop)(J:List Code)(σs:Store)(G:S→Store→List Res→Prop)(hG: ∀{s σ σ' H},G s σ H→σ.le σ'→G s σ' H):YSpec (Nat×S) where
  R p σ r:= ∃Hs,r=Res.star (Res.lrec l (recOf rec J p.1)::Hs)∧G p.2 σ Hs∧σs.le σ∧(p.1≠0→ ∃c,J[p.1 - 1]? =some c)
  mono:=fun ⟨Hs,h1,h2,h3,h4⟩ hle=>⟨Hs,h1,hG h2 hle,h3.trans hle,h4⟩
theorem rec_far{w0:World}{C:List Nat}{σ0 σ:Store}{w:World}{l:Nat}{o:Obj}{F:List Res}(h:Reach w0 C σ0 σ w (Res.lrec l o::F)):l∉blks F∧σ l=none:=by
  have hn:=h.nodup
  simp only [blks,List.flatMap_cons,Res.lrec,List.cons_append,List.nil_append,List.nodup_cons]at hn
  exact ⟨hn.1,h.apart _ (List.mem_cons_self ..) l (by simp [Res.lrec])⟩
theorem yOk_of {P : Program} {n l : Nat} {S α : Type} {A : α → Store → List Value → Prop} {J : List Code} {B : S → α → Option (Nat × S)} {σs : Store} {G : S → Store → List Res → Prop} {hG : ∀ {s σ σ' H}, G s σ H → σ.le σ' → G s σ' H} {fn : FuncId} {ps : Array Tmp} {assign body : Code} {e : Env} {tmps : Array Value} {D : Nat}
    (hst:St n e {tmps:=tmps,defers:=[]}) (hps: ∀p∈ps.toList,p<n) (hA: ∀x σ vs,A x σ vs→vs.length=ps.size)
    (hbody: ∀(w0:World) (C:List Nat) (τ σ:Store) (s:S) (x:α) (q:Nat×S) (vs:List Value) (Hs:List Res),B s x=some q→σs.le σ→A x σ vs→G s σ Hs→
      TC ⟨P,w0,C,τ,n,some l,none⟩ (asgQ fun e σ H=> ∀w0 C τ,TC ⟨P,w0,C,τ,n,some l,none⟩ (rndQ J fun j σ H=>q.1=j∧G q.2 σ H) body e σ H) assign (bindE e ps.toList vs) σ Hs):
    YOk P l A (rndZ l (mkRec fn tmps ps assign body D) J σs G hG) (stepY B):=by
  rintro p x σ r args w p' b hy hax ⟨Hs,rfl,hg,hle, -⟩ hw
  obtain ⟨hp0,hB,rfl⟩:=stepY_some hy
  rw [hp0]at hw
  have hw1:Reach w (Res.star (Res.lrec l (recOf (mkRec fn tmps ps assign body D) J 0)::Hs)).bl σ σ w (Res.lrec l (.loop (mkRec fn tmps ps assign body D .ready none))::Hs):=by
    have:=hw.unstar
    rw [List.append_nil]at this
    exact this
  have hlen:=hA x σ args hax
  have hl1:w.heap[l]? =some (.loop (mkRec fn tmps ps assign body D .ready none)):=hw1.holds _ (List.mem_cons_self ..)
  have hy:=run_yield (P:=P) (args:=args.toArray) hl1 (by simpa using hlen)
  refine ⟨fn,_,assign,body,hy,roundIn_of_wpIn trivial ?_⟩
  have hz:(ps.zip args.toArray).foldl (fun t (p,v)=>t.setIfInBounds p v) tmps=(ps.toList.zip args).foldl (fun t p=>t.setIfInBounds p.1 p.2) tmps:=by
    rw [←Array.foldl_toList,Array.toList_zip]
  have hS:St n (bindE e ps.toList args) {tmps:=(ps.zip args.toArray).foldl (fun t (p,v)=>t.setIfInBounds p v) tmps,defers:=[]}:=by
    rw [hz];exact St.binds _ _ hps hst
  refine wpIn_mono (hbody w (blks Hs) σ σ p.2 x p' args Hs hB hle hax hg w _ ⟨hw1.tail,⟨fun _=>⟨[],rfl,List.nodup_nil,by simp⟩,(fun _ h=>by cases h),fun l' hl'=> ?_⟩⟩ hS) ?_
  · cases hl';exact ⟨rfl,⟨_,hl1⟩,(rec_far hw1).1,(rec_far hw1).2⟩
  rintro ex a2 w2 ⟨e2,σ2,H2,hS2,hw2,hq2⟩
  cases ex with
  |normal=>
    have hw2':=hw1.callT hw2.toReach
    have hl2:w2.heap[l]? =some (.loop (mkRec fn tmps ps assign body D .ready none)):=hw2'.holds _ (List.mem_cons_self ..)
    have hw3:=hw2'.turnRec (o':= .loop (mkRec fn tmps ps assign body D .busy none))
    have hl3:(w2.putObj l (.loop (mkRec fn tmps ps assign body D .busy none))).heap[l]? =some (.loop (mkRec fn tmps ps assign body D .busy none)):=hw3.holds _ (List.mem_cons_self ..)
    have hd2:a2.defers=[]:=(hw2.marks.rc l rfl).1
    refine ⟨_,run_beginRound hl2 rfl,?_⟩
    refine wpIn_mono (hq2 _ (blks H2) σ2 _ a2 ⟨hw3.tail,⟨fun _=>⟨[],by rw [hd2];rfl,List.nodup_nil,by simp⟩,(fun _ h=>by cases h),fun l' hl'=> ?_⟩⟩ hS2) ?_
    · cases hl';exact ⟨hd2,⟨_,hl3⟩,(rec_far hw3).1,(rec_far hw3).2⟩
    rintro ex a4 w4 ⟨e4,σ4,H4,hS4,hw4,hq4⟩
    have hw4':=hw3.callT hw4.toReach
    have hl4:w4.heap[l]? =some (.loop (mkRec fn tmps ps assign body D .busy none)):=hw4'.holds _ (List.mem_cons_self ..)
    have fin: ∀(jump:Option Code) (j:Nat),p'.1=j→(j=0→jump=none)→(j≠0→jump=J[j - 1]? ∧ ∃c,jump=some c)→G p'.2 σ4 H4→ ∃v w',(Instr.endRound l jump).run P w4= .ok v w'∧(Ending.returned v= .returned (.bool (p'.1 == 0))∧ ∃σ' r',YR (rndZ l (mkRec fn tmps ps assign body D) J σs G hG) p' σ' r'∧Reach w (Res.star (Res.lrec l (recOf (mkRec fn tmps ps assign body D) J p.1)::Hs)).bl σ σ' w' [r']):=fun jump j h1 h2 h3 h4=>by
      have h6:Obj.loop (mkRec fn tmps ps assign body D (if jump.isNone then .ready else .done) jump)=recOf (mkRec fn tmps ps assign body D) J p'.1:=by
        unfold recOf
        rw [h1]
        by_cases h0:j=0
        · rw [if_pos h0,h2 h0];rfl
        obtain ⟨h7,c,h8⟩:=h3 h0
        rw [if_neg h0,←h7,h8];rfl
      refine ⟨_,_,run_endRound jump hl4,?_,σ4,Res.star (Res.lrec l (recOf (mkRec fn tmps ps assign body D) J p'.1)::H4),⟨H4,rfl,h4,hle.trans hw4'.le,fun h=> ?_⟩,?_⟩
      · rw [h1]
        by_cases h0:j=0
        · rw [h2 h0,h0];rfl
        obtain ⟨_,c,hc⟩:=h3 h0
        rw [hc];simp [h0]
      · rw [h1]at h ⊢
        obtain ⟨h5,c,h6⟩:=h3 h
        exact ⟨c,by rw [←h5,h6]⟩
      have h5:=hw4'.turnRec (o':= .loop (mkRec fn tmps ps assign body D (if jump.isNone then .ready else .done) jump))
      show Reach w _ σ σ4 (w4.putObj l (.loop (mkRec fn tmps ps assign body D (if jump.isNone then .ready else .done) jump))) _
      rw [h6]at h5 ⊢
      rw [hp0]
      exact Reach.star (G:=Res.lrec l (recOf (mkRec fn tmps ps assign body D) J p'.1)::H4) (F:=[]) (by rw [List.append_nil];exact h5)
    cases ex with
    |normal=>exact fin none 0 hq4.1 (fun _=>rfl) (fun h=>absurd rfl h) hq4.2
    |ret=>obtain ⟨j,hj,h1,h2⟩:=hq4;exact fin (some .ret) (j+1) h1 (fun h=>by cases h) (fun _=>⟨by simpa using hj.symm,_,rfl⟩) h2
    |exit i=>obtain ⟨j,hj,h1,h2⟩:=hq4;exact fin (some (.exit i)) (j+1) h1 (fun h=>by cases h) (fun _=>⟨by simpa using hj.symm,_,rfl⟩) h2
    |goto i=>obtain ⟨j,hj,h1,h2⟩:=hq4;exact fin (some (.goto i)) (j+1) h1 (fun h=>by cases h) (fun _=>⟨by simpa using hj.symm,_,rfl⟩) h2
    |panic c=>exact hq4.elim
    |outgrown=>exact hq4.elim
  |exit i=>exact hq2.elim
  |goto i=>exact hq2.elim
  |ret=>exact hq2.elim
  |panic c=>exact hq2.elim
  |outgrown=>exact hq2.elim
@[reducible]def jmpQ(X:Ctx)(Q:QP)(J:List Code):Nat→Env→Store→List Res→Prop
  |0=>Q .normal
  |j+1=>fun e σ H=> ∀c,J[j]? =some c→TC X Q c e σ H
theorem TC.rangeFunc {X : Ctx} {Q : QP} {e : Env} {σ : Store} {H Hs Hc : List Res} {S α : Type} {g : Operand} {ps : Array Tmp} {assign body : Code} {f : Nat} {lb : List Value} {A : α → Store → List Value → Prop}
    (J:List Code) (B:S→α→Option (Nat×S)) (G:S→Store→List Res→Prop) {s:S} {q:Nat×S} {PostC:Store→List Res→Prop}
    (hg:ev e g= .func (.func f) #[] lb.toArray) (hp:plainF X.P f=true) (hH:Hs++Hc=H) (hps:ps.toList.all (fun p=>Nat.blt p X.n)=true)
    (hG: ∀{s σ σ' H},G s σ H→σ.le σ'→G s σ' H) (h0:G s σ Hs) (hA: ∀x σ vs,A x σ vs→vs.length=ps.size)
    (hit:IterOk X.P f lb A (stepY B) σ Hc (0,s) q PostC)
    (hbody: ∀(l:Nat) (w0:World) (C:List Nat) (τ σ':Store) (s:S) (x:α) (q:Nat×S) (vs:List Value) (Hs:List Res),B s x=some q→σ.le σ'→A x σ' vs→G s σ' Hs→
      TC ⟨X.P,w0,C,τ,X.n,some l,none⟩ (asgQ fun e σ H=> ∀w0 C τ,TC ⟨X.P,w0,C,τ,X.n,some l,none⟩ (rndQ J fun j σ H=>q.1=j∧G q.2 σ H) body e σ H) assign (bindE e ps.toList vs) σ' Hs)
    (hdone: ∀σ' Hs' Hc',σ.le σ'→G q.2 σ' Hs'→PostC σ' Hc'→jmpQ X Q J q.1 e σ' (Hs'++Hc')) (hown:X.own=none:=by rfl):TC X Q (.rangeFunc g ps assign body) e σ H:=by
  subst hH
  intro w a hw ha
  have hps': ∀p∈ps.toList,p<X.n:=fun p hp=>by
    have:=List.all_eq_true.1 hps p hp
    simpa [Nat.blt_eq]using this
  refine wpIn_rangeFunc fun fn _=> ?_
  have key: ∀(l D:Nat) (w1:World) (a1:Act),a1.tmps=a.tmps→RM X a1 σ w1 (Res.lrec l (.loop (mkRec fn a.tmps ps assign body D .ready none))::(Hs++Hc))→
      CallsIn (fence X.rnd) 0 X.P f (#[.func (.yield l) #[] #[]]++lb.toArray) w1 (rangePost (fence X.rnd) 0 X.P l (low X Q) a1):=by
    intro l D w1 a1 ht hw1
    have hcon:=hit l (rndZ l (mkRec fn a.tmps ps assign body D) J σ G hG) (Res.star (Res.lrec l (recOf (mkRec fn a.tmps ps assign body D) J 0)::Hs))
      (yOk_of ⟨ha.size,ha.get⟩ hps' hA (hbody l)) ⟨Hs,rfl,h0,Store.le.refl _,fun h=>absurd rfl h⟩
    have hst:RM X a1 σ w1 (Res.star (Res.lrec l (recOf (mkRec fn a.tmps ps assign body D) J 0)::Hs)::Hc):=hw1.by fun _ k=>Reach.star (G:=Res.lrec l (recOf (mkRec fn a.tmps ps assign body D) J 0)::Hs) (F:=Hc) k
    have hcall:=hcon w1 hst.self
    have hargs:(Value.func (.yield l) #[] #[]::lb).toArray= #[.func (.yield l) #[] #[]]++lb.toArray:=by apply Array.ext';simp
    rw [hargs]at hcall
    refine calls_fence.2 (hcall.mono ?_)
    rintro ex w2 ⟨v,σ2,H2,rfl,⟨r',Hc',rfl,⟨Hs',rfl,hg2,hle,hJ⟩,hpc⟩,hw2⟩
    have hw3:RM X a1 σ2 w2 (Res.lrec l (recOf (mkRec fn a.tmps ps assign body D) J q.1)::(Hs'++Hc')):=(hst.step hw2 rfl).by fun _ k=>k.unstar
    have hl:w2.heap[l]? =some (recOf (mkRec fn a.tmps ps assign body D) J q.1):=hw3.holds _ (List.mem_cons_self ..)
    have hS1:St X.n e a1:=⟨by rw [ht];exact ha.size,fun t=>by rw [ht];exact ha.get t⟩
    have hw5: ∀o',RM X a1 σ2 (w2.putObj l o') (Hs'++Hc'):=fun o'=>hw3.step ((hw3.self.turnRec (o':=o')).sub (List.sublist_cons_self ..)) rfl
    have hfin:=hdone σ2 Hs' Hc' hle hg2 hpc
    unfold recOf at hl
    cases hq:q.1 with
    |zero=>
      rw [hq]at hl hfin
      exact ⟨none,_,run_endLoop hl (by simp),e,σ2,_,hS1,hw5 _,hfin⟩
    |succ j=>
      rw [hq]at hl hfin hJ
      obtain ⟨c,hc⟩:=hJ (by simp)
      simp only [Nat.add_sub_cancel,Nat.succ_ne_zero,if_false]at hl hc
      rw [hc]at hl
      exact ⟨some c,_,run_endLoop hl (by simp),hfin c hc _ a1 (hw5 _) hS1⟩
  have hnew: ∀k,k<w.heap.size∨True:=fun _=> .inr trivial
  have hres: ∀l w1,(resolve a.eval (rangeCall g l) 0).run X.P w1= .ok {target:= .fn (.func f) lb.toArray,args:= #[.func (.yield l) #[] #[]]} w1:=fun l w1=>by
    rw [ha.eval']
    simp only [resolve,hg]
    simp [go_sem,Deferred.ofValue,ev]
  have hinv: ∀l w1,(invoke (.fn (.func f) lb.toArray) #[.func (.yield l) #[] #[]]).run X.P w1= .ok (.enter f (#[.func (.yield l) #[] #[]]++lb.toArray)) w1:=fun l w1=>by
    simp [invoke,run_callFunc hp]
  cases hr:X.rnd with
  |none=>
    refine ⟨w.heap.size+1,_,_,_,_,f,_,_,run_enterLoop_outer _ _ _ _ _,hres _ _,fun _ _=>trivial,hinv _ _,(fun h=>by cases h),hr▸key (w.heap.size+1) w.heap.size _ _ rfl ?_⟩
    have hsz:((w.alloc (.deferred (some []))).heap.size)=w.heap.size+1:=by simp
    have hold: ∀k,k<w.heap.size→((w.alloc (.deferred (some []))).alloc (.loop (mkRec fn a.tmps ps assign body w.heap.size .ready none))).heap[k]? =w.heap[k]? :=fun k hk=>by
      rw [alloc_old _ _ _ (by omega),alloc_old _ _ _ hk]
    have hR:Reach w (blks (Hs++Hc)) σ σ ((w.alloc (.deferred (some []))).alloc (.loop (mkRec fn a.tmps ps assign body w.heap.size .ready none))) (Res.lrec (w.heap.size+1) (.loop (mkRec fn a.tmps ps assign body w.heap.size .ready none))::(Hs++Hc)):=
      hw.self.gain rfl rfl rfl (by simp;omega) (Nat.le_refl _) hold (by
        have:=World.alloc_heap_new (w.alloc (.deferred (some []))) (.loop (mkRec fn a.tmps ps assign body w.heap.size .ready none))
        rw [hsz]at this;exact this) (fun b hb=>by simp [Res.lrec]at hb;omega) (by simp [Res.lrec])
    have h1:=hw.step hR (a':=a) rfl
    refine ⟨h1.toReach,⟨fun _=> ?_,(fun _ h=>by rw [hown]at h;cases h),fun l hl=>by rw [hr]at hl;cases hl⟩⟩
    obtain ⟨Ds,g1,g2,g3⟩:=h1.marks.ex hown
    obtain ⟨Ds0,g10,g20,g30⟩:=hw.marks.ex hown
    have hDs:Ds=Ds0:=by
      have:=g1.symm.trans g10
      have h2: ∀(A B:List Nat),A.map (fun D=>({target:= .collected D,args:= #[]}:Deferred))=B.map (fun D=>({target:= .collected D,args:= #[]}:Deferred))→A=B:=fun A=>by
        induction A with
        |nil=>intro B h;cases B with
          |nil=>rfl
          |cons b B=>simp at h
        |cons a A ih=>intro B h;cases B with
          |nil=>simp at h
          |cons b B=>simp only [List.map_cons,List.cons.injEq,Deferred.mk.injEq,Target.collected.injEq,and_true]at h;rw [h.1,ih B h.2]
      exact h2 _ _ this
    subst hDs
    refine ⟨w.heap.size::Ds,by simp [g1],List.nodup_cons.2 ⟨fun hx=> ?_,g2⟩,fun D hD=> ?_⟩
    · have:=(Array.getElem?_eq_some_iff.1 (g30 _ hx).1).1;omega
    rcases List.mem_cons.1 hD with rfl|hD
    · refine ⟨?_,hw.size,fun hx=> ?_,?_⟩
      · rw [alloc_old _ _ _ (by omega)];exact World.alloc_heap_new w _
      · simp only [blks,List.flatMap_cons,Res.lrec,List.cons_append,List.nil_append,List.mem_cons]at hx
        rcases hx with hx|hx
        · omega
        obtain ⟨r,hr',hb⟩:=mem_blks.1 hx
        have:=hw.block_lt hr' hb;omega
      cases hs:σ w.heap.size with
      |none=>rfl
      |some o=>have:=(Array.getElem?_eq_some_iff.1 (hw.fit _ _ hs)).1;omega
    exact g3 D hD
  |some l0=>
    obtain ⟨hd0,⟨r0,h1⟩,h2,h3⟩:=hw.marks.rc l0 hr
    refine ⟨w.heap.size,_,_,_,_,f,_,_,run_enterLoop_inner h1 _ _ _ _ _,hres _ _,fun _ _=>trivial,hinv _ _,(fun h=>by cases h),hr▸key w.heap.size r0.defers _ a rfl ?_⟩
    refine hw.step (hw.self.gain rfl rfl rfl (by simp) (Nat.le_refl _) (fun k hk=>alloc_old _ _ _ hk) (World.alloc_heap_new w _) (fun b hb=>by simp [Res.lrec]at hb;omega) (by simp [Res.lrec])) rfl
end Go.E
end

noncomputable section
namespace Go.E
open Go
theorem TC.rangeG{X:Ctx}{Q:QP}{e:Env}{H Hs Hc:List Res}{S α:Type}{g:Operand}{ps:Array Tmp}{assign body:Code}{f:Nat}{lb:List Value}{A:α→Store→List Value→Prop}
    (J:List Code) (B:S→α→Option (Nat×S)) (G:S→Store→List Res→Prop) {s:S} {q:Nat×S} {PostC:Store→List Res→Prop}
    (hg:ev e g= .func (.func f) #[] lb.toArray) (hp:plainF X.P f=true) (hH:Hs++Hc=H) (hps:ps.toList.all (fun p=>Nat.blt p X.n)=true)
    (hG: ∀{s σ σ' H},G s σ H→σ.le σ'→G s σ' H) (h0:G s σ Hs) (hA: ∀x σ vs,A x σ vs→vs.length=ps.size)
    (hit:IterOk X.P f lb A (stepY B) σ Hc (0,s) q PostC)
    (hbody: ∀(l:Nat) (w0:World) (C:List Nat) (τ σ':Store) (s:S) (x:α) (q:Nat×S) (vs:List Value) (Hs:List Res),B s x=some q→σ.le σ'→A x σ' vs→G s σ' Hs→
      TC ⟨X.P,w0,C,τ,X.n,some l,none⟩ (asgQ fun e σ H=> ∀w0 C τ,TC ⟨X.P,w0,C,τ,X.n,some l,none⟩ (rndQ J fun j σ H=>q.1=j∧ ∃F,Sub F H∧G q.2 σ F) body e σ H) assign (bindE e ps.toList vs) σ' Hs)
    (hdone: ∀σ' Hs' Hc',σ.le σ'→G q.2 σ' Hs'→PostC σ' Hc'→jmpQ X Q J q.1 e σ' (Hs'++Hc')) (hown:X.own=none:=by rfl):TC X Q (.rangeFunc g ps assign body) e σ H:=by
  refine TC.rangeFunc J B G hg hp hH hps hG h0 hA hit (fun l w0 C τ σ' s x q vs Hs h1 h2 h3 h4=>(hbody l w0 C τ σ' s x q vs Hs h1 h2 h3 h4).weak fun ex e σ H h=> ?_) hdone hown
  cases ex with
  |normal=>
    refine fun w0 C τ=>TC.weakR ((h w0 C τ).weak fun ex e σ H h=> ?_)
    cases ex with
    |normal=>obtain ⟨h1,F,hs,hg⟩:=h;exact ⟨F,hs,h1,hg⟩
    |ret=>obtain ⟨j,hj,h1,F,hs,hg⟩:=h;exact ⟨F,hs,j,hj,h1,hg⟩
    |exit i=>obtain ⟨j,hj,h1,F,hs,hg⟩:=h;exact ⟨F,hs,j,hj,h1,hg⟩
    |goto i=>obtain ⟨j,hj,h1,F,hs,hg⟩:=h;exact ⟨F,hs,j,hj,h1,hg⟩
    |panic c=>exact h.elim
    |outgrown=>exact h.elim
  |exit i=>exact h
  |goto i=>exact h
  |ret=>exact h
  |panic c=>exact h
  |outgrown=>exact h
theorem asg_n{K:Env→Store→List Res→Prop}{e:Env}{H:List Res}(h:K e σ H):asgQ K .normal e σ H:=h
theorem rnd_n{J:List Code}{K:Nat→Store→List Res→Prop}{e:Env}{H:List Res}(h:K 0 σ H):rndQ J K .normal e σ H:=h
theorem rnd_r{J:List Code}{K:Nat→Store→List Res→Prop}{e:Env}{H:List Res}(j:Nat)(hj:J[j]? =some .ret)(h:K (j+1) σ H):rndQ J K .ret e σ H:=⟨j,hj,h⟩
def jsel{α:Type}:Nat→Option α→(Nat→Option α)→Option α
  |0,a,_=>a
  |n+1,_,b=>b n
theorem jmp_split{X:Ctx}{Q:QP}{J:List Code}{n:Nat}{e:Env}{H:List Res}{α:Type}{a:Option α}{b:Nat→Option α}{r:α}(hh:jsel n a b=some r)
    (h0:a=some r→Q .normal e σ H) (h1: ∀m c,b m=some r→J[m]? =some c→TC X Q c e σ H):jmpQ X Q J n e σ H:=by
  cases n with
  |zero=>exact h0 hh
  |succ m=>exact fun c hc=>h1 m c hh hc
theorem jl_split{X:Ctx}{Q:QP}{J:List Code}{c0 c:Code}{m:Nat}{e:Env}{H:List Res}{α:Type}{a:Option α}{b:Nat→Option α}{r:α}(hh:jsel m a b=some r)(hc:(c0::J)[m]? =some c)
    (h0:a=some r→TC X Q c0 e σ H) (h1: ∀m,b m=some r→J[m]? =some c→TC X Q c e σ H):TC X Q c e σ H:=by
  cases m with
  |zero=>simp at hc;subst hc;exact h0 hh
  |succ m=>exact h1 m hh (by simpa using hc)
theorem jl_nil{X:Ctx}{Q:QP}{c:Code}{m:Nat}{e:Env}{H:List Res}(hc:([]:List Code)[m]? =some c):TC X Q c e σ H:=by simp at hc
end Go.E
end

noncomputable section
namespace Go.Proofs.YtamgjehhjkgelaaGreatDoor
open Go Go.E Go.E.OpVal Go.E.OpOk Go.Proofs.Tryz
theorem ag48:aggOf Tryz.prog 48=some false:=by kernel_rfl
theorem ag99:aggOf Tryz.prog 99=some false:=by kernel_rfl
theorem by55:byOf Tryz.prog 55=some 32:=by kernel_rfl
theorem fo50_0:foOf Tryz.prog 50 0=some 0:=by kernel_rfl
theorem fo50_1:foOf Tryz.prog 50 1=some 1:=by kernel_rfl
theorem fo50_2:foOf Tryz.prog 50 2=some 2:=by kernel_rfl
theorem pf106:plainF Tryz.prog 106=true:=by kernel_rfl
theorem pf28:plainF Tryz.prog 28=true:=by kernel_rfl
theorem pf62:plainF Tryz.prog 62=true:=by kernel_rfl
theorem pf75:plainF Tryz.prog 75=true:=by kernel_rfl
theorem pf76:plainF Tryz.prog 76=true:=by kernel_rfl
theorem pf77:plainF Tryz.prog 77=true:=by kernel_rfl
theorem pf84:plainF Tryz.prog 84=true:=by kernel_rfl
def Am_(x0:Nat):Option (Int):=
 iteO (decide (x0=0)) (some 64) (grd ((u64shr (u64mul (u64and x0 (u64of (-((x0:Nat):Int)))) 285870213051353865) 58)<64) (some (((nth deB (u64shr (u64mul (u64and x0 (u64of (-((x0:Nat):Int)))) 285870213051353865) 58) (0:UInt8)).toNat:Nat):Int)))
theorem Ea_{x0:Nat}(hgl:GT σ 1 encU8 deB){r:Int}(hh:Am_ x0=some r):
  Con Tryz.prog 106 #[.int .u64 ((x0:Nat):Int)] σ [] (PureP (.int .i64 r) σ):=by
 dsimp only [Am_]at hh
 refine Con.mk (n:=14) Tryz.func106 z z z (fun w0=> ?_)
 refine TC.a (TL.i z z (TL.en (TC.seq (TC.a (TL.i z z (TL.w z (eqlU z z z) (TL.en (TC.cD z hh (fun h101 hh=> ?_) (fun h101 hh=> ?_)))))))))
 ·refine TC.a (TL.i z z (TL.en (TC.ret (S.r ?_))))
  obtain rfl:=so hh
  exact rq [2] ⟨z,z,z⟩
 refine TC.skip (S.n (TC.a (TL.i z z (TL.i z z (TL.w z (negU z z) (TL.w z (andU z z z) (TL.w z (mulU (b:=285870213051353865) z z z) (TL.w z (shrU (b:=58) z z z) ?_))))))))
 have u11:=grd_c hh
 replace hh:=grd_t hh
 refine TL.w z (indexArrN z underlying203 sz5 z z (by omega)) (TL.w z (loadG1 (0:UInt8) z ag5 z hgl (by simp only [deB,List.length_cons,List.length_nil];omega) encU8_len z) (TL.w z (convN z underlying5 underlying3 z (by have:=UInt8.toNat_lt (nth deB (u64shr (u64mul (u64and x0 (u64of (-((x0:Nat):Int)))) 285870213051353865) 58) (0:UInt8));simp only [kmax];omega)) (TL.i z z (TL.en (TC.ret ?_)))))
 obtain rfl:=so hh
 exact rq [2] ⟨z,z,z⟩
def B6_(x0:BSet)(k105:Nat):Option ((Nat)⊕(UInt8×Bool)):=
 iteO (decide (((k105:Nat):Int)<4)) (grd (k105<4) (iteO (decide ((BSet.word x0 k105)≠0)) (bnd (Am_ (BSet.word x0 k105)) (fun v16=>fin (some ((toU8 (IntKind.i64.wrap ((IntKind.i64.wrap (64 * ((k105:Nat):Int)))+v16))),true)))) (nxt (k105+1)))) (fin (some ((0:UInt8),false)))
def Dk_(x0:BSet):Option (UInt8×Bool):=
 iter (fun q:Nat=>B6_ x0 q) 0
theorem F0_{x0:BSet}(hgl:GT σ 1 encU8 deB){r:UInt8×Bool}(hh:Dk_ x0=some r):
  Con Tryz.prog 77 #[setV x0] σ [] (PureP (.tuple #[.int .u8 ((r.1.toNat:Nat):Int),.bool r.2]) σ):=by
 dsimp only [Dk_]at hh
 refine Con.mk (n:=20) Tryz.func77 z z z (fun w0=> ?_)
 refine TC.a (TL.op z (boxA z z z z (fun b101=> ?_)))
 refine TL.i z z (TL.j z z (TL.en (TC.seq (TC.a (TL.w z (loadAll z ag55 sz55 z (i:=0) z z) (TL.i z z (TL.en (TC.block (TC.loopG (α:=(Nat)×(Unit)) (rgs [(2,4),(7,13)]) (fun g=>[(7,.int .i64 ((g.1:Nat):Int))]) (fun g=>[]) (fun g=>σ) (fun g=>iter (fun q:Nat=>B6_ x0 q) g.1=some r) (fun g=>rounds (fun q:Nat=>B6_ x0 q) g.1) (0,()) (Sub.pre 0 z) z (by repeat (first|exact trivial|refine ⟨z,?_⟩)) hh (fun g1 j1 hg1=> ?_))))))))))
 obtain ⟨k105,_⟩:=g1
 have hh:=hg1;clear hg1
 try dsimp only
 obtain ⟨z1,hh,hR1⟩:=iter_e hh
 dsimp only [B6_]at hh
 refine TC.a (TL.w z (OpVal.lss z z z) (TL.en (TC.seq (TC.cD z hh (fun h106 hh=> ?_) (fun h106 hh=> ?_)))))
 ·refine TC.skip (S.n (TC.seq (TC.block (TC.a (TL.i z z ?_)))))
  have u8:=grd_c hh
  replace hh:=grd_t hh
  refine TL.w z (indexSet z underlying55 sz53 ag53 z z (by omega)) (TL.i z z (TL.i z z (TL.en (TC.a (TL.i z z (TL.w z (neqU z z z) (TL.en (TC.cD z hh (fun h107 hh=> ?_) (fun h107 hh=> ?_)))))))))
  ·refine TC.a (TL.i z z (TL.w z (mulW z z z) (TL.i z z ?_)))
   obtain ⟨v16,u16,hh⟩:=bnd_e hh
   refine TL.op z (callP (Ea_ hgl u16) z z pf106 z z z ?_)
   refine TL.w z (addW z z z) (TL.w z (convU8 z underlying3 underlying5 z) (TL.i z z (TL.j z z (TL.en (TC.ret (B.r (S.r (S.r ?_))))))))
   replace hh:=fin_x hR1 hh
   refine B.r (S.r ?_)
   obtain rfl:=so hh
   exact rq [2,3] ⟨z,z,z⟩
  refine TC.skip (B.n (S.n (TC.region (TL.w z (OpVal.succ z z z (by omega)) (TL.i z z (TL.en ?_))))))
  obtain ⟨hh,hlt108⟩:=nxt_x hR1 hh
  exact lf ((k105+1),()) hlt108 hh (Sub.pre 0 z)
 refine TC.exit (S.x (S.x ?_))
 replace hh:=fin_x hR1 hh
 refine TC.exitHere (S.n (TC.a (TL.i z z (TL.j z z (TL.en (TC.ret ?_))))))
 obtain rfl:=so hh
 exact rq [2,3] ⟨z,z,z⟩
def Az_(x1:BSet)(z111:BSet)(k112:Nat):Option ((BSet×Nat)⊕(BSet)):=
 iteO (decide (((k112:Nat):Int)<4)) (grd (k112<4) (grd (k112<4) (grd (k112<4) (grd ((u64or (BSet.word z111 k112) (BSet.word x1 k112))<18446744073709551616) (nxt ((BSet.setWord z111 k112 (u64or (BSet.word z111 k112) (BSet.word x1 k112))),(k112+1))))))) (fin (some z111))
def Ck_(x0:BSet)(x1:BSet):Option (BSet):=
 iter (fun q:BSet×Nat=>Az_ x1 q.1 q.2) (x0,0)
theorem Fm_{x0:BSet}{x1:BSet}{r:BSet}(hh:Ck_ x0 x1=some r):
  Con Tryz.prog 76 #[setV x0,setV x1] σ [] (PureP (setV r) σ):=by
 dsimp only [Ck_]at hh
 refine Con.mk (n:=19) Tryz.func76 z z z (fun w0=> ?_)
 refine TC.a (TL.op z (boxA z z z z (fun b101=> ?_)))
 refine TL.op z (boxA z z z z (fun b103=> ?_))
 refine TL.op z (OpOk.alloc z ze55 z z (fun b105=> ?_))
 refine TL.en (TC.seq (TC.a (TL.i z z (TL.en (TC.block (TC.loopG (α:=(BSet×Nat)×(Unit)) (rgs [(5,13)]) (fun g=>[(6,.int .i64 ((g.1.2:Nat):Int))]) (fun g=>[Res.cells b101 (setA g.1.1) 55,Res.cells b103 (setA x1) 55,Res.cells b105 (setA BSet.zero) 55]) (fun g=>σ) (fun g=>iter (fun q:BSet×Nat=>Az_ x1 q.1 q.2) g.1=some r) (fun g=>rounds (fun q:BSet×Nat=>Az_ x1 q.1 q.2) g.1) ((x0,0),()) (Sub.f [1,2] 3) z (by repeat (first|exact trivial|refine ⟨z,?_⟩)) hh (fun g1 j1 hg1=> ?_)))))))
 obtain ⟨⟨z111,k112⟩,_⟩:=g1
 have hh:=hg1;clear hg1
 try dsimp only
 obtain ⟨z1,hh,hR1⟩:=iter_e hh
 dsimp only [Az_]at hh
 refine TC.a (TL.w z (OpVal.lss z z z) (TL.en (TC.seq (TC.cD z hh (fun h113 hh=> ?_) (fun h113 hh=> ?_)))))
 ·refine TC.skip (S.n (TC.seq (TC.block (TC.a (TL.i z z (TL.i z z (TL.en ?_)))))))
  have u9:=grd_c hh
  replace hh:=grd_t hh
  have u12:=grd_c hh
  replace hh:=grd_t hh
  have u15:=grd_c hh
  replace hh:=grd_t hh
  have u16:=grd_c hh
  replace hh:=grd_t hh
  refine TC.draw [8] (by kernel_rfl) (TA.a 0 z (moveI (.inl z) z) z (TA.b 1 z (indexArrN z underlying55 sz53 z z (by omega)) z (TA.b 2 z (loadWordAt z111 z ag53 z (j:=0) z (by omega) z) z (TA.a 3 z (moveI (.inl z) z) z (TA.b 4 z (indexArrN z underlying55 sz53 z z (by omega)) z (TA.b 5 z (loadWordAt x1 z ag53 z (j:=1) z (by omega) z) z (TA.a 6 z (orU z z z) z (TA.b 7 z (indexArrN z underlying55 sz53 z z (by omega)) z (TA.last 8 (by kernel_rfl) z z z (storeWord z sz53 z z z (by omega) u16 ?_))))))))))
  refine TZ.done (by kernel_rfl) (B.n (S.n (TC.region (TL.w z (OpVal.succ z z z (by omega)) (TL.i z z (TL.en ?_))))))
  obtain ⟨hh,hlt114⟩:=nxt_x hR1 hh
  exact lf (((BSet.setWord z111 k112 (u64or (BSet.word z111 k112) (BSet.word x1 k112))),(k112+1)),()) hlt114 hh (Sub.f [2,2,2] 3)
 refine TC.exit (S.x (S.x ?_))
 replace hh:=fin_x hR1 hh
 refine TC.exitHere (S.n (TC.a (TL.w z (loadAll z ag55 sz55 z (i:=0) z z) (TL.front 2 z z (TL.op z (storeAll z sz55 z z z z z z ?_))))))
 refine TL.en (TC.rt 1 ?_)
 obtain rfl:=so hh
 exact ro [] z (RVs.agg ag55 sz55 z (i:=0) z z RVs.nil) ⟨z,z,z⟩
def Ce_(k112:Nat)(l115:List UInt8):Option (((List UInt8)×Nat)⊕((List UInt8))):=
 nxt (l115,(k112+1))
def Cf_(x0:List BSet)(x1:UInt8)(l110:List UInt8)(k112:Nat):Option (((List UInt8)×Nat)⊕((List UInt8))):=
 iteO (decide (((k112:Nat):Int)<((x0.length:Nat):Int))) (iteO ((nth x0 k112 BSet.zero).has x1.toNat) (grd (k112<l110.length) (Ce_ k112 (l110.set k112 (1:UInt8)))) (Ce_ k112 l110)) (fin (some l110))
def E9_(x0:List BSet)(x1:UInt8):Option ((List UInt8)):=
 grd (1 * x0.length≤281474976710656) (iter (fun q:(List UInt8)×Nat=>Cf_ x0 x1 q.1 q.2) ((List.replicate x0.length (0:UInt8)),0))
theorem G6_{x0:List BSet}{x1:UInt8}(f0_0:RS σ 4 encSet (.slice a0_0 x0.length c0_0) x0){r:(List UInt8)}(hh:E9_ x0 x1=some r):
  Con Tryz.prog 75 #[.slice a0_0 x0.length c0_0,.int .u8 ((x1.toNat:Nat):Int)] σ [] (PureP (.string (bs r)) σ):=by
 dsimp only [E9_]at hh
 have f0_0b:=f0_0.rv.big
 refine Con.mk (n:=27) Tryz.func75 z z z (fun w0=> ?_)
 refine TC.a (TL.w z (moveStr (.inr z) z) (TL.en (TC.a (TL.s z z (TL.w z (lenC z underlying99 z) ?_)))))
 have u4:=grd_c hh
 replace hh:=grd_t hh
 refine TL.op z (makeS2 (enc:=encU8) (0:UInt8) z underlying134 sz5 by5 ze5 z z z z (by omega) (by decide) encU8_len (by decide) z encU8_one (fun a101 c102=> ?_))
 refine TL.s z z (TL.en (TC.seq (TC.a (TL.s z z (TL.w z (lenC z underlying99 z) (TL.i z z (TL.en (TC.block (TC.loopG (α:=((List UInt8)×Nat)×(Unit)) (rgs [(6,2),(13,12)]) (fun g=>[(13,.int .i64 ((g.1.2:Nat):Int))]) (fun g=>[Res.rowS 5 1 encU8 (.slice a101 (List.replicate x0.length (0:UInt8)).length c102) g.1.1]) (fun g=>σ) (fun g=>iter (fun q:(List UInt8)×Nat=>Cf_ x0 x1 q.1 q.2) g.1=some r∧g.1.1.length=(List.replicate x0.length (0:UInt8)).length) (fun g=>rounds (fun q:(List UInt8)×Nat=>Cf_ x0 x1 q.1 q.2) g.1) (((List.replicate x0.length (0:UInt8)),0),()) (Sub.pre 1 z) z (by repeat (first|exact trivial|refine ⟨z,?_⟩)) ⟨hh,z⟩ (fun g1 j1 hg1=> ?_))))))))))
 obtain ⟨⟨l110,k112⟩,_⟩:=g1
 obtain ⟨hh,hn111⟩:=hg1
 try dsimp only at hn111 ⊢
 obtain ⟨z1,hh,hR1⟩:=iter_e hh
 dsimp only [Cf_]at hh
 have hn111b:=hn111
 refine TC.isSl (i:=0) z (fun _ hb113 _=> ?_)
 refine TC.a (TL.w z (OpVal.lss z z z) (TL.en (TC.seq (TC.cD z hh (fun h114 hh=> ?_) (fun h114 hh=> ?_)))))
 ·refine TC.skip (S.n (TC.cutG (α:=((List UInt8))×(Unit)) (rgs [(6,2),(15,9)]) (fun g=>[]) (fun g=>[Res.rowS 5 1 encU8 (.slice a101 (List.replicate x0.length (0:UInt8)).length c102) g.1]) (fun g=>σ) (fun g=>Ce_ k112 g.1=some z1∧g.1.length=(List.replicate x0.length (0:UInt8)).length) ?_ (fun g j hg=> ?_)))
  ·skip
   refine TC.block (TC.a (TL.i z z (TL.w z (indexN z underlying99 sz55 z z f0_0.rv.sl (by omega)) (TL.w z (loadSA BSet.zero z ag55 sz55 z f0_0 (by omega) (by omega)) (TL.op z (OpOk.alloc z ze55 z z (fun b117=> ?_)))))))
   refine TL.i z z (TL.op z (storeAll z sz55 z z z z z z ?_))
   refine TL.en (TC.a (TL.w z (loadAll z ag55 sz55 z (i:=0) z z) (TL.i z z (TL.op z (callP (has_con _ (nth x0 k112 BSet.zero) x1.toNat (BSet.isOk _) (UInt8.toNat_lt _)) z z pf62 z z z ?_)))))
   refine TL.en (TC.cB z hh (fun h119 hh=> ?_) (fun h119 hh=> ?_))
   ·refine TC.region (TL.s z z (TL.i z z ?_))
    have u21:=grd_c hh
    replace hh:=grd_t hh
    refine TL.isSl (i:=1) z (fun hs120 _ _=> ?_)
    refine TL.w z (indexN z underlying134 sz5 z z hs120 (by omega)) (TL.front 1 z z ?_)
    have hn121:(l110.set k112 (1:UInt8)).length=(List.replicate x0.length (0:UInt8)).length:=by rw [List.length_set];exact hn111
    refine TL.op z (storeS (1:UInt8) z sz5 z z z z encU8_len encU8_one (by omega) (by omega) ?_)
    exact TL.nil (B.n (S.n (cf ((l110.set k112 (1:UInt8)),()) ⟨hh,hn121⟩ (Sub.pre 1 z))))
   exact TC.skip (B.n (S.n (cf (l110,()) ⟨hh,hn111⟩ (Sub.f [1] 1))))
  skip
  obtain ⟨l115,_⟩:=g
  obtain ⟨hh,hn116⟩:=hg
  try dsimp only at hn116 ⊢
  dsimp only [Ce_]at hh
  have hn116b:=hn116
  refine TC.isSl (i:=0) z (fun _ hb122 _=> ?_)
  refine TC.region (TL.w z (OpVal.succ z z z (by omega)) (TL.i z z (TL.en ?_)))
  obtain ⟨hh,hlt123⟩:=nxt_x hR1 hh
  exact lf ((l115,(k112+1)),()) hlt123 ⟨hh,hn116⟩ (Sub.pre 1 z)
 refine TC.exit (S.x (S.x ?_))
 replace hh:=fin_x hR1 hh
 refine TC.exitHere (S.n (TC.a (TL.s z z (TL.isSl (i:=0) z (fun hs124 _ _=> ?_)))))
 refine TL.w z (bytesStr (l:=l110) z underlying134 underlying5 underlying9 z hs124 (fun w hw=>rdb_row (q:=0) z hw)) (TL.w z (moveStr (.inr z) z) (TL.en (TC.rt 0 ?_)))
 obtain rfl:=so hh
 exact rq [4] ⟨z,z,z⟩
def Bu_(k121:Nat)(m125:FM (List UInt8) Int)(l126:List BSet)(i129:Int):Option (((FM (List UInt8) Int)×(List BSet)×Nat)⊕((List BSet)×Int)):=
 grd (0≤i129∧i129<(l126.length:Int)) (grd ([(toU8 ((k121:Nat):Int))].length≤1000000000000) (bnd (Ck_ (nth l126 i129.toNat BSet.zero) (BSet.ofL [(toU8 ((k121:Nat):Int))])) (fun v52=>grd (0≤i129∧i129<(l126.length:Int)) (nxt (m125,(l126.set i129.toNat v52),(k121+1))))))
def Bv_(x0:List BSet)(m116:FM (List UInt8) Int)(l118:List BSet)(k121:Nat):Option (((FM (List UInt8) Int)×(List BSet)×Nat)⊕((List BSet)×Int)):=
 iteO (decide (((k121:Nat):Int)<256)) (bnd (E9_ x0 (toU8 ((k121:Nat):Int))) (fun v18=>iteO (!(m116.has v18)) (grd ((l118.length+[BSet.zero].length) * 32≤140737488355328) (Bu_ k121 (m116.put v18 ((l118.length:Nat):Int)) (l118++[BSet.zero]) ((l118.length:Nat):Int))) (Bu_ k121 m116 l118 (m116.get v18 0)))) (fin (some (l118,0)))
def D1_(x0:List BSet):Option ((List BSet)×Int):=
 iteO (decide (1024<((x0.length:Nat):Int))) (some (([]:List BSet),2)) (iter (fun q:(FM (List UInt8) Int)×(List BSet)×Nat=>Bv_ x0 q.1 q.2.1 q.2.2) ((FM.emp:FM (List UInt8) Int),([]:List BSet),0))
def Gt_(σ:Store)(r:(List BSet)×Int):Value→Store→List Res→Prop:=fun v σ' H'=>
 ∃a1 c1,v= .tuple #[.slice a1 r.1.length c1,.int .i64 r.2]∧RS σ' 4 encSet (.slice a1 r.1.length c1) r.1∧H'=[]
theorem Go_{x0:List BSet}(f0_0:RS σ 4 encSet (.slice a0_0 x0.length c0_0) x0){r:(List BSet)×Int}(hh:D1_ x0=some r):
  Con Tryz.prog 39 #[.slice a0_0 x0.length c0_0] σ [] (Gt_ σ r):=by
 dsimp only [D1_]at hh
 have f0_0b:=f0_0.rv.big
 refine Con.mk (n:=52) Tryz.func39 z z z (fun w0=> ?_)
 refine TC.a (TL.s z z (TL.i z z (TL.en (TC.seq (TC.a (TL.s z z (TL.w z (lenC z underlying99 z) (TL.w z (OpVal.gtr z z z) (TL.en (TC.cD z hh (fun h101 hh=> ?_) (fun h101 hh=> ?_)))))))))))
 ·refine TC.a (TL.s z z (TL.i z z (TL.en (TC.ret (S.r ?_)))))
  obtain rfl:=so hh
  exact rq [2,3] ⟨none,0,z,(RS.nilF _ encSet encSet_len),z⟩
 refine TC.skip (S.n (TC.a (TL.op z (makeMapB (enc:=keyS) (encV:=keyI) z z z (fun b102=> ?_)))))
 refine TL.w z (moveMap (.inr z) z) (TL.en (TC.a (TL.s z z (TL.en (TC.seq (TC.a (TL.i z z (TL.en (TC.block (TC.nilS 55 4 encSet (TC.loopG (α:=((FM (List UInt8) Int)×(List BSet)×Nat)×((Option Addr)×Nat)) (rgs [(5,5),(14,37)]) (fun g=>[(5,.slice g.2.1 g.1.2.1.length g.2.2),(14,.int .i64 ((g.1.2.2:Nat):Int))]) (fun g=>[Res.mapB keyS keyI (some b102) g.1.1,Res.rowS 55 4 encSet (.slice g.2.1 g.1.2.1.length g.2.2) g.1.2.1]) (fun g=>σ) (fun g=>iter (fun q:(FM (List UInt8) Int)×(List BSet)×Nat=>Bv_ x0 q.1 q.2.1 q.2.2) g.1=some r) (fun g=>rounds (fun q:(FM (List UInt8) Int)×(List BSet)×Nat=>Bv_ x0 q.1 q.2.1 q.2.2) g.1) (((FM.emp:FM (List UInt8) Int),([]:List BSet),0),(none,0)) (Sub.f [1] 2) z (by repeat (first|exact trivial|refine ⟨z,?_⟩)) hh (fun g1 j1 hg1=> ?_))))))))))))
 obtain ⟨⟨m116,l118,k121⟩,⟨a119,c120⟩⟩:=g1
 have hh:=hg1;clear hg1
 try dsimp only
 obtain ⟨z1,hh,hR1⟩:=iter_e hh
 dsimp only [Bv_]at hh
 refine TC.isSl (i:=1) z (fun _ hb123 _=> ?_)
 refine TC.a (TL.w z (OpVal.lss z z z) (TL.en (TC.seq (TC.cD z hh (fun h124 hh=> ?_) (fun h124 hh=> ?_)))))
 ·refine TC.skip (S.n (TC.seq (TC.block (TC.a (TL.i z z (TL.i z z (TL.en (TC.a (TL.s z z (TL.i z z (TL.w z (convU8 z underlying3 underlying5 z) ?_)))))))))))
  obtain ⟨v18,u18,hh⟩:=bnd_e hh
  refine TL.op z (callP (G6_ f0_0 u18) z z pf75 z z z ?_)
  refine TL.w z (moveStr (.inr z) z) (TL.en (TC.a (TL.w z (moveMap (.inl z) z) (TL.w z (moveStr (.inl z) z) (TL.w z (OpVal.of (lookB 0 (q:=v18) z underlying143 ze3 z (i:=0) z z (keyL_str underlying9)) (v':= .tuple #[.int .i64 (m116.get v18 0),.bool (m116.has v18)]) z) (TL.w z (moveT (.inl z) z) (TL.w z (OpVal.extract z z z) (TL.w z (OpVal.extract z z z) (TL.i z z (TL.j z z (TL.en (TC.cutG (α:=((FM (List UInt8) Int)×(List BSet)×Int)×((Option Addr)×Nat)) (rgs [(5,1),(8,1),(27,11)]) (fun g=>[(5,.slice g.2.1 g.1.2.1.length g.2.2),(8,.int .i64 g.1.2.2)]) (fun g=>[Res.mapB keyS keyI (some b102) g.1.1,Res.rowS 55 4 encSet (.slice g.2.1 g.1.2.1.length g.2.2) g.1.2.1]) (fun g=>σ) (fun g=>Bu_ k121 g.1.1 g.1.2.1 g.1.2.2=some z1) ?_ (fun g j hg=> ?_)))))))))))))
  ·skip
   refine TC.a (TL.j z z (TL.w z (OpVal.not z z) (TL.en (TC.cB z hh (fun h130 hh=> ?_) (fun h130 hh=> ?_)))))
   ·refine TC.a (TL.s z z (TL.w z (lenC z underlying99 z) (TL.i z z (TL.en (TC.a (TL.w z (moveMap (.inl z) z) (TL.w z (moveStr (.inl z) z) (TL.i z z (TL.op z (updB v18 ((l118.length:Nat):Int) z underlying143 z z z z (keyL_str underlying9) ?_))))))))))
    refine TL.en (TC.region (TL.s z z (TL.w z (buildArrL z underlying55 sz53 ze55 z) (TL.op z (OpOk.lit (enc:=encSet) [BSet.zero] z underlying99 sz55 ze55 z z z encSet_len (by decide) (by decide) BSet.zero z (by decide) z (by decide) encSet_one (fun a131 c132=> ?_))))))
    refine TL.front 2 z z ?_
    have u40:=grd_c hh
    replace hh:=grd_t hh
    refine TL.op z (appendS z z underlying99 sz55 by55 ze55 z z (by decide) z z z (.inr ⟨_,0,z⟩) (by simpa using u40) (by decide) (fun a134 c135=> ?_))
    exact TL.s z z (TL.en (cf (((m116.put v18 ((l118.length:Nat):Int)),(l118++[BSet.zero]),((l118.length:Nat):Int)),(a134,c135)) hh (Sub.f [2] 2)))
   exact TC.skip (S.n (cf ((m116,l118,(m116.get v18 0)),(a119,c120)) hh (Sub.f [1,1] 2)))
  skip
  obtain ⟨⟨m125,l126,i129⟩,⟨a127,c128⟩⟩:=g
  have hh:=hg;clear hg
  try dsimp only
  dsimp only [Bu_]at hh
  refine TC.isSl (i:=1) z (fun _ hb136 _=> ?_)
  have u46:=grd_c hh
  replace hh:=grd_t hh
  have u51:=grd_c hh
  replace hh:=grd_t hh
  obtain ⟨v52,u52,hh⟩:=bnd_e hh
  have u53:=grd_c hh
  replace hh:=grd_t hh
  refine TC.draw [12] (by kernel_rfl) (TA.a 0 z (moveSl (.inl z) z) z (TA.a 1 z (moveI (.inl z) z) z (TA.a 2 z (moveSl (.inl z) z) z (TA.a 3 z (moveI (.inl z) z) z (TA.isSl (i:=1) z (fun hs143 _ _=> ?_))))))
  refine TA.b 4 z (OpVal.index z underlying99 sz55 z z hs143 u46.1 u46.2) z (TA.b 5 z (loadOA BSet.zero z ag55 sz55 z (q:=1) z encSet_len (by omega) (by omega)) z (TA.a 6 z (moveI (.inl z) z) z (TA.a 7 z (convU8 z underlying3 underlying5 z) z (TA.ac 8 z (OpOk.lit (enc:=encU8) [(toU8 ((k121:Nat):Int))] z underlying134 sz5 ze5 z z z encU8_len (by decide) (by decide) (0:UInt8) z (by decide) z (by decide) encU8_one (fun a144 c145=>(k1 ?_)))))))
  refine TA.ac 9 z (callT (of_con _ _ _ [(toU8 ((k121:Nat):Int))] u51) z z pf28 z z z z (k0 ?_))
  refine TA.ac 10 z (callP (Fm_ u52) z z pf76 z z z (k0 ?_))
  refine TA.isSl (i:=1) z (fun hs147 _ _=> ?_)
  refine TA.b 11 z (OpVal.index z underlying99 sz55 z z hs147 u53.1 u53.2) z (TA.front 1 z z ?_)
  have hn148:(l126.set i129.toNat v52).length=l126.length:=by rw [List.length_set]
  refine TA.last 12 (by kernel_rfl) z z z (storeS v52 z sz55 z z z z encSet_len encSet_one (by omega) (by omega) ?_)
  refine TZ.done (by kernel_rfl) (B.n (S.n (TC.region (TL.w z (OpVal.succ z z z (by omega)) (TL.i z z ?_)))))
  rw [←hn148]
  refine TL.en ?_
  obtain ⟨hh,hlt149⟩:=nxt_x hR1 hh
  exact lf ((m125,(l126.set i129.toNat v52),(k121+1)),(a127,c128)) hlt149 hh (Sub.f [1] 2)
 refine TC.exit (S.x (S.x ?_))
 replace hh:=fin_x hR1 hh
 refine TC.exitHere (S.n (TC.a (TL.s z z (TL.s z z (TL.i z z (TL.en (TC.front 1 z z (TC.sealS encSet_len (fun τ152 hle151 hr150=> ?_)))))))))
 have hr150b:=hr150.rv.big
 refine TC.rt 0 ?_
 obtain rfl:=so hh
 exact rq [2,3] ⟨a119,c120,z,hr150,z⟩
def Bn_(k146:Nat)(l149:List Int):Option (((List Int)×Nat)⊕(((List Int)×Int×Nat)⊕((List Int)×Int))):=
 nxt (l149,(k146+1))
def Bs_(x0:List BSet)(k130:Nat)(v29:UInt8×Bool)(l144:List Int)(k146:Nat):Option (((List Int)×Nat)⊕(((List Int)×Int×Nat)⊕((List Int)×Int))):=
 iteO (decide (((k146:Nat):Int)<256)) (iteO (!((nth x0 k130 BSet.zero).has (toU8 ((k146:Nat):Int)).toNat)) (Bn_ k146 l144) (grd (k146<l144.length) (iteO (decide (0≤(nth l144 k146 (0:Int)))) (fin (fin (some (([]:List Int),1)))) (grd (k146<l144.length) (Bn_ k146 (l144.set k146 ((k130:Nat):Int))))))) (fin (nxt (l144,((v29.1.toNat:Nat):Int),(k130+1))))
def Br_(l127:List Int)(k165:Nat):Option ((Nat)⊕((List Int)×Int)):=
 iteO (decide (((k165:Nat):Int)<(((List.replicate 256 (0:Int)).length:Nat):Int))) (grd (k165<l127.length) (iteO (decide ((nth l127 k165 (0:Int))<0)) (fin (some (([]:List Int),1))) (nxt (k165+1)))) (fin (some (l127,0)))
def Bq_(x0:List BSet)(l127:List Int)(i129:Int)(k130:Nat):Option (((List Int)×Int×Nat)⊕((List Int)×Int)):=
 iteO (decide (((k130:Nat):Int)<((x0.length:Nat):Int))) (bnd (Dk_ (nth x0 k130 BSet.zero)) (fun v29=>iteO (!v29.2) (fin (some (([]:List Int),1))) (iteO (decide (((v29.1.toNat:Nat):Int)≤i129)) (fin (some (([]:List Int),1))) (iter (fun q:(List Int)×Nat=>Bs_ x0 k130 v29 q.1 q.2) (l127,0))))) (fin (iter (fun q:Nat=>Br_ l127 q) 0))
def Bo_(x0:List BSet)(l110:List Int)(k112:Nat):Option (((List Int)×Nat)⊕((List Int)×Int)):=
 iteO (decide (((k112:Nat):Int)<(((List.replicate 256 (0:Int)).length:Nat):Int))) (grd (k112<l110.length) (nxt ((l110.set k112 (-1)),(k112+1)))) (fin (iter (fun q:(List Int)×Int×Nat=>Bq_ x0 q.1 q.2.1 q.2.2) (l110,(-1),0)))
def D2_(x0:List BSet):Option ((List Int)×Int):=
 iter (fun q:(List Int)×Nat=>Bo_ x0 q.1 q.2) ((List.replicate 256 (0:Int)),0)
def G5_(σ:Store)(r:(List Int)×Int):Value→Store→List Res→Prop:=fun v σ' H'=>
 ∃a1 c1,v= .tuple #[.slice a1 r.1.length c1,.int .i64 r.2]∧RS σ' 1 eI_ (.slice a1 r.1.length c1) r.1∧H'=[]
theorem Gn_{x0:List BSet}(hgl:GT σ 1 encU8 deB)(f0_0:RS σ 4 encSet (.slice a0_0 x0.length c0_0) x0){r:(List Int)×Int}(hh:D2_ x0=some r):
  Con Tryz.prog 41 #[.slice a0_0 x0.length c0_0] σ [] (G5_ σ r):=by
 dsimp only [D2_]at hh
 have f0_0b:=f0_0.rv.big
 refine Con.mk (n:=75) Tryz.func41 z z z (fun w0=> ?_)
 refine TC.a (TL.s z z (TL.i z z (TL.en (TC.a (TL.op z (makeS2 (m:=256) (enc:=eI_) (0:Int) z underlying46 sz3 by3 ze3 z z z z (by omega) (by decide) eIl_ (by decide) z eIo_ (fun a101 c102=> ?_)))))))
 refine TL.s z z (TL.en (TC.seq (TC.a (TL.s z z (TL.w z (lenC z underlying46 z) (TL.i z z (TL.en (TC.block (TC.loopG (α:=((List Int)×Nat)×(Unit)) (rgs [(5,1),(17,7)]) (fun g=>[(17,.int .i64 ((g.1.2:Nat):Int))]) (fun g=>[Res.rowS 3 1 eI_ (.slice a101 (List.replicate 256 (0:Int)).length c102) g.1.1]) (fun g=>σ) (fun g=>iter (fun q:(List Int)×Nat=>Bo_ x0 q.1 q.2) g.1=some r∧g.1.1.length=(List.replicate 256 (0:Int)).length) (fun g=>rounds (fun q:(List Int)×Nat=>Bo_ x0 q.1 q.2) g.1) (((List.replicate 256 (0:Int)),0),()) (Sub.pre 1 z) z (by repeat (first|exact trivial|refine ⟨z,?_⟩)) ⟨hh,z⟩ (fun g1 j1 hg1=> ?_))))))))))
 obtain ⟨⟨l110,k112⟩,_⟩:=g1
 obtain ⟨hh,hn111⟩:=hg1
 try dsimp only at hn111 ⊢
 obtain ⟨z1,hh,hR1⟩:=iter_e hh
 dsimp only [Bo_]at hh
 have hn111b:=hn111
 refine TC.isSl (i:=0) z (fun _ hb113 _=> ?_)
 refine TC.a (TL.w z (OpVal.lss z z z) (TL.en (TC.seq (TC.cD z hh (fun h114 hh=> ?_) (fun h114 hh=> ?_)))))
 ·refine TC.skip (S.n (TC.seq (TC.block (TC.a (TL.i z z (TL.i z z (TL.en (TC.region (TL.s z z (TL.i z z ?_))))))))))
  have u13:=grd_c hh
  replace hh:=grd_t hh
  refine TL.isSl (i:=0) z (fun hs115 _ _=> ?_)
  refine TL.w z (indexN z underlying46 sz3 z z hs115 (by omega)) ?_
  have hn116:(l110.set k112 (-1)).length=(List.replicate 256 (0:Int)).length:=by rw [List.length_set];exact hn111
  refine TL.op z (storeS (-1) z sz3 z z z z eIl_ eIo_ (by omega) (by omega) ?_)
  refine TL.nil (B.n (S.n (TC.region (TL.w z (OpVal.succ z z z (by omega)) (TL.i z z (TL.en ?_))))))
  obtain ⟨hh,hlt117⟩:=nxt_x hR1 hh
  exact lf (((l110.set k112 (-1)),(k112+1)),()) hlt117 ⟨hh,hn116⟩ (Sub.pre 1 z)
 refine TC.exit (S.x (S.x ?_))
 replace hh:=fin_x hR1 hh
 refine TC.exitHere (S.n (TC.a (TL.i z z (TL.en (TC.seq (TC.a (TL.s z z (TL.w z (lenC z underlying99 z) (TL.i z z (TL.en (TC.block (TC.loopG (α:=((List Int)×Int×Nat)×(Unit)) (rgs [(2,2),(6,6),(26,39)]) (fun g=>[(6,.int .i64 g.1.2.1),(26,.int .i64 ((g.1.2.2:Nat):Int))]) (fun g=>[Res.rowS 3 1 eI_ (.slice a101 (List.replicate 256 (0:Int)).length c102) g.1.1]) (fun g=>σ) (fun g=>iter (fun q:(List Int)×Int×Nat=>Bq_ x0 q.1 q.2.1 q.2.2) g.1=some r∧g.1.1.length=(List.replicate 256 (0:Int)).length) (fun g=>rounds (fun q:(List Int)×Int×Nat=>Bq_ x0 q.1 q.2.1 q.2.2) g.1) ((l110,(-1),0),()) (Sub.pre 1 z) z (by repeat (first|exact trivial|refine ⟨z,?_⟩)) ⟨hh,hn111⟩ (fun g2 j2 hg2=> ?_)))))))))))))
 obtain ⟨⟨l127,i129,k130⟩,_⟩:=g2
 obtain ⟨hh,hn128⟩:=hg2
 try dsimp only at hn128 ⊢
 obtain ⟨z1,hh,hR1⟩:=iter_e hh
 dsimp only [Bq_]at hh
 have hn128b:=hn128
 refine TC.isSl (i:=0) z (fun _ hb131 _=> ?_)
 refine TC.a (TL.w z (OpVal.lss z z z) (TL.en (TC.seq (TC.cD z hh (fun h132 hh=> ?_) (fun h132 hh=> ?_)))))
 ·refine TC.skip (S.n (TC.seq (TC.block (TC.a (TL.i z z (TL.w z (indexN z underlying99 sz55 z z f0_0.rv.sl (by omega)) (TL.w z (loadSA BSet.zero z ag55 sz55 z f0_0 (by omega) (by omega)) (TL.op z (OpOk.alloc z ze55 z z (fun b133=> ?_))))))))))
  refine TL.i z z (TL.op z (storeAll z sz55 z z z z z z ?_))
  refine TL.en (TC.a (TL.w z (loadAll z ag55 sz55 z (i:=0) z z) ?_))
  obtain ⟨v29,u29,hh⟩:=bnd_e hh
  refine TL.op z (callP (F0_ hgl u29) z z pf77 z z z ?_)
  refine TL.w z (moveT (.inl z) z) (TL.w z (OpVal.extract z z z) (TL.w z (OpVal.extract z z z) (TL.i z z (TL.j z z (TL.en (TC.seq (TC.a (TL.j z z (TL.w z (OpVal.not z z) (TL.j z z (TL.split 38 z (fun h135=> ?_) (fun h135=> ?_))))))))))))
  ·replace hh:=iteO_t h135 hh
   refine TL.f z (TL.f z (TL.f z (TL.f z (TL.w z (pickTB z z z) (TL.en (TC.t z (TC.a (TL.s z z (TL.i z z (TL.en (TC.rt 0 (S.r (B.r (S.r (S.r ?_)))))))))))))))
   replace hh:=fin_x hR1 hh
   refine B.r (S.r ?_)
   obtain rfl:=so hh
   exact rq [2,3] ⟨none,0,z,(RS.nilF _ eI_ eIl_),z⟩
  replace hh:=iteO_f h135 hh
  refine TL.g z (moveI (.inl z) z) (TL.g z (convN z underlying5 underlying3 z (by have:=UInt8.toNat_lt v29.1;simp only [kmax];omega)) (TL.g z (moveI (.inl z) z) (TL.g z (OpVal.leq z z z) (TL.w z (pickFB z z z) (TL.en (TC.cD z hh (fun h136 hh=> ?_) (fun h136 hh=> ?_)))))))
  ·refine TC.a (TL.s z z (TL.i z z (TL.en (TC.rt 0 (S.r (B.r (S.r (S.r ?_))))))))
   replace hh:=fin_x hR1 hh
   refine B.r (S.r ?_)
   obtain rfl:=so hh
   exact rq [2,3] ⟨none,0,z,(RS.nilF _ eI_ eIl_),z⟩
  refine TC.skip (S.n (TC.a (TL.i z z (TL.w z (convN z underlying5 underlying3 z (by have:=UInt8.toNat_lt v29.1;simp only [kmax];omega)) (TL.i z z (TL.en (TC.a (TL.i z z (TL.en (TC.block (TC.loopG (α:=((List Int)×Nat)×(Unit)) (rgs [(2,2),(11,1),(46,18)]) (fun g=>[(46,.int .i64 ((g.1.2:Nat):Int))]) (fun g=>[Res.rowS 3 1 eI_ (.slice a101 (List.replicate 256 (0:Int)).length c102) g.1.1,Res.cells b133 (setA (nth x0 k130 BSet.zero)) 55]) (fun g=>σ) (fun g=>iter (fun q:(List Int)×Nat=>Bs_ x0 k130 v29 q.1 q.2) g.1=some z1∧g.1.1.length=(List.replicate 256 (0:Int)).length) (fun g=>rounds (fun q:(List Int)×Nat=>Bs_ x0 k130 v29 q.1 q.2) g.1) ((l127,0),()) (Sub.f [1] 2) z (by repeat (first|exact trivial|refine ⟨z,?_⟩)) ⟨hh,hn128⟩ (fun g3 j3 hg3=> ?_))))))))))))
  obtain ⟨⟨l144,k146⟩,_⟩:=g3
  obtain ⟨hh,hn145⟩:=hg3
  try dsimp only at hn145 ⊢
  obtain ⟨z2,hh,hR2⟩:=iter_e hh
  dsimp only [Bs_]at hh
  have hn145b:=hn145
  refine TC.isSl (i:=0) z (fun _ hb147 _=> ?_)
  refine TC.a (TL.w z (OpVal.lss z z z) (TL.en (TC.seq (TC.cD z hh (fun h148 hh=> ?_) (fun h148 hh=> ?_)))))
  ·refine TC.skip (S.n (TC.cutG (α:=((List Int))×(Unit)) (rgs [(2,2),(11,1),(48,15)]) (fun g=>[]) (fun g=>[Res.rowS 3 1 eI_ (.slice a101 (List.replicate 256 (0:Int)).length c102) g.1,Res.cells b133 (setA (nth x0 k130 BSet.zero)) 55]) (fun g=>σ) (fun g=>Bn_ k146 g.1=some z2∧g.1.length=(List.replicate 256 (0:Int)).length) ?_ (fun g j hg=> ?_)))
   ·skip
    refine TC.block (TC.a (TL.i z z (TL.i z z (TL.en (TC.seq (TC.a (TL.w z (loadAll z ag55 sz55 z (i:=1) z z) (TL.i z z (TL.w z (convU8 z underlying3 underlying5 z) (TL.op z (callP (has_con _ (nth x0 k130 BSet.zero) (toU8 ((k146:Nat):Int)).toNat (BSet.isOk _) (UInt8.toNat_lt _)) z z pf62 z z z ?_)))))))))))
    refine TL.w z (OpVal.not z z) (TL.en (TC.cB z hh (fun h151 hh=> ?_) (fun h151 hh=> ?_)))
    ·exact TC.exit (S.x (TC.exitHere (S.n (cf (l144,()) ⟨hh,hn145⟩ (Sub.f [1,1] 2)))))
    refine TC.skip (S.n (TC.seq (TC.a (TL.s z z (TL.i z z ?_)))))
    have u59:=grd_c hh
    replace hh:=grd_t hh
    refine TL.isSl (i:=0) z (fun hs152 _ _=> ?_)
    refine TL.w z (indexN z underlying46 sz3 z z hs152 (by omega)) (TL.w z (loadO1 (0:Int) z ag3 z (q:=0) z eIl_ (by omega) z) (TL.w z (OpVal.geq z z z) (TL.en (TC.cD z hh (fun h153 hh=> ?_) (fun h153 hh=> ?_)))))
    ·refine TC.a (TL.s z z (TL.i z z (TL.en (TC.rt 0 (S.r (B.r (S.r (S.r ?_))))))))
     replace hh:=fin_x hR2 hh
     refine B.r (B.r (S.r (S.r ?_)))
     replace hh:=fin_x hR1 hh
     refine B.r (S.r ?_)
     obtain rfl:=so hh
     exact rq [2,3] ⟨none,0,z,(RS.nilF _ eI_ eIl_),z⟩
    refine TC.skip (S.n (TC.region (TL.s z z (TL.i z z (TL.i z z ?_)))))
    have u67:=grd_c hh
    replace hh:=grd_t hh
    refine TL.isSl (i:=0) z (fun hs154 _ _=> ?_)
    refine TL.w z (indexN z underlying46 sz3 z z hs154 (by omega)) ?_
    have hn155:(l144.set k146 ((k130:Nat):Int)).length=(List.replicate 256 (0:Int)).length:=by rw [List.length_set];exact hn145
    refine TL.op z (storeS ((k130:Nat):Int) z sz3 z z z z eIl_ eIo_ (by omega) (by omega) ?_)
    exact TL.nil (B.n (S.n (cf ((l144.set k146 ((k130:Nat):Int)),()) ⟨hh,hn155⟩ (Sub.f [1,1] 2))))
   skip
   obtain ⟨l149,_⟩:=g
   obtain ⟨hh,hn150⟩:=hg
   try dsimp only at hn150 ⊢
   dsimp only [Bn_]at hh
   have hn150b:=hn150
   refine TC.isSl (i:=0) z (fun _ hb156 _=> ?_)
   refine TC.region (TL.w z (OpVal.succ z z z (by omega)) (TL.i z z (TL.en ?_)))
   obtain ⟨hh,hlt157⟩:=nxt_x hR2 hh
   exact lf ((l149,(k146+1)),()) hlt157 ⟨hh,hn150⟩ (Sub.f [1,1] 2)
  refine TC.exit (S.x (S.x ?_))
  replace hh:=fin_x hR2 hh
  refine TC.exitHere (B.n (S.n (TC.region (TL.w z (OpVal.succ z z z (by omega)) (TL.i z z (TL.en ?_))))))
  obtain ⟨hh,hlt158⟩:=nxt_x hR1 hh
  exact lf ((l144,((v29.1.toNat:Nat):Int),(k130+1)),()) hlt158 ⟨hh,hn145⟩ (Sub.pre 1 z)
 refine TC.exit (S.x (S.x ?_))
 replace hh:=fin_x hR1 hh
 refine TC.exitHere (S.n (TC.seq (TC.a (TL.s z z (TL.w z (lenC z underlying46 z) (TL.i z z (TL.en (TC.block (TC.loopG (α:=(Nat)×(Unit)) (rgs [(2,2),(13,1),(67,7)]) (fun g=>[(67,.int .i64 ((g.1:Nat):Int))]) (fun g=>[Res.rowS 3 1 eI_ (.slice a101 (List.replicate 256 (0:Int)).length c102) l127]) (fun g=>σ) (fun g=>iter (fun q:Nat=>Br_ l127 q) g.1=some r∧l127.length=(List.replicate 256 (0:Int)).length) (fun g=>rounds (fun q:Nat=>Br_ l127 q) g.1) (0,()) (Sub.pre 1 z) z (by repeat (first|exact trivial|refine ⟨z,?_⟩)) ⟨hh,hn128⟩ (fun g4 j4 hg4=> ?_))))))))))
 obtain ⟨k165,_⟩:=g4
 obtain ⟨hh,hn164⟩:=hg4
 try dsimp only at hn164 ⊢
 obtain ⟨z1,hh,hR1⟩:=iter_e hh
 dsimp only [Br_]at hh
 have hn164b:=hn164
 refine TC.isSl (i:=0) z (fun _ hb166 _=> ?_)
 refine TC.a (TL.w z (OpVal.lss z z z) (TL.en (TC.seq (TC.cD z hh (fun h167 hh=> ?_) (fun h167 hh=> ?_)))))
 ·refine TC.skip (S.n (TC.seq (TC.block (TC.a ?_))))
  have u77:=grd_c hh
  replace hh:=grd_t hh
  refine TL.isSl (i:=0) z (fun hs168 _ _=> ?_)
  refine TL.w z (indexN z underlying46 sz3 z z hs168 (by omega)) (TL.w z (loadO1 (0:Int) z ag3 z (q:=0) z eIl_ (by omega) z) (TL.i z z (TL.en (TC.a (TL.i z z (TL.w z (OpVal.lss z z z) (TL.en (TC.cD z hh (fun h169 hh=> ?_) (fun h169 hh=> ?_)))))))))
  ·refine TC.a (TL.s z z (TL.i z z (TL.en (TC.rt 0 (B.r (S.r (S.r ?_)))))))
   replace hh:=fin_x hR1 hh
   refine B.r (S.r ?_)
   obtain rfl:=so hh
   exact rq [2,3] ⟨none,0,z,(RS.nilF _ eI_ eIl_),z⟩
  refine TC.skip (B.n (S.n (TC.region (TL.w z (OpVal.succ z z z (by omega)) (TL.i z z (TL.en ?_))))))
  obtain ⟨hh,hlt170⟩:=nxt_x hR1 hh
  exact lf ((k165+1),()) hlt170 ⟨hh,hn164⟩ (Sub.pre 1 z)
 refine TC.exit (S.x (S.x ?_))
 replace hh:=fin_x hR1 hh
 refine TC.exitHere (S.n (TC.a (TL.s z z (TL.s z z (TL.i z z (TL.en ?_))))))
 rw [←hn164]
 refine TC.sealS eIl_ (fun τ173 hle172 hr171=> ?_)
 have hr171b:=hr171.rv.big
 refine TC.ret ?_
 obtain rfl:=so hh
 exact rq [2,3] ⟨a101,c102,z,hr171,z⟩
def B5_(x0:List Int)(k116:Nat)(l122:List BSet):Option (((List BSet)×Nat)⊕((List BSet)×Int)):=
 grd (0≤(nth x0 k116 (0:Int))∧(nth x0 k116 (0:Int))<(l122.length:Int)) (grd ([(toU8 ((k116:Nat):Int))].length≤1000000000000) (bnd (Ck_ (nth l122 ((nth x0 k116 (0:Int)).toNat) BSet.zero) (BSet.ofL [(toU8 ((k116:Nat):Int))])) (fun v47=>grd (0≤(nth x0 k116 (0:Int))∧(nth x0 k116 (0:Int))<(l122.length:Int)) (nxt ((l122.set ((nth x0 k116 (0:Int)).toNat) v47),(k116+1))))))
def Ar_(x0:List Int)(l113:List BSet)(k116:Nat):Option (((List BSet)×Nat)⊕((List BSet)×Int)):=
 iteO (decide (((k116:Nat):Int)<((x0.length:Nat):Int))) (iteO (decide ((nth x0 k116 (0:Int))<0)) (fin (some (([]:List BSet),1))) (iteO (decide (((l113.length:Nat):Int)<(nth x0 k116 (0:Int)))) (fin (some (([]:List BSet),1))) (iteO (decide ((nth x0 k116 (0:Int))=((l113.length:Nat):Int))) (grd ((l113.length+[BSet.zero].length) * 32≤140737488355328) (B5_ x0 k116 (l113++[BSet.zero]))) (B5_ x0 k116 l113)))) (fin (some (l113,0)))
def C4_(x0:List Int):Option ((List BSet)×Int):=
 iteO (decide (((x0.length:Nat):Int)≠256)) (some (([]:List BSet),1)) (iter (fun q:(List BSet)×Nat=>Ar_ x0 q.1 q.2) (([]:List BSet),0))
def G9_(σ:Store)(r:(List BSet)×Int):Value→Store→List Res→Prop:=fun v σ' H'=>
 ∃a1 c1,v= .tuple #[.slice a1 r.1.length c1,.int .i64 r.2]∧RS σ' 4 encSet (.slice a1 r.1.length c1) r.1∧H'=[]
theorem F5_{x0:List Int}(f0_0:RS σ 1 eI_ (.slice a0_0 x0.length c0_0) x0){r:(List BSet)×Int}(hh:C4_ x0=some r):
  Con Tryz.prog 84 #[.slice a0_0 x0.length c0_0] σ [] (G9_ σ r):=by
 dsimp only [C4_]at hh
 have f0_0b:=f0_0.rv.big
 refine Con.mk (n:=47) Tryz.func84 z z z (fun w0=> ?_)
 refine TC.a (TL.s z z (TL.i z z (TL.en (TC.seq (TC.a (TL.s z z (TL.w z (lenC z underlying46 z) (TL.w z (OpVal.neq z z z) (TL.en (TC.cD z hh (fun h101 hh=> ?_) (fun h101 hh=> ?_)))))))))))
 ·refine TC.a (TL.s z z (TL.i z z (TL.en (TC.ret (S.r ?_)))))
  obtain rfl:=so hh
  exact rq [2,3] ⟨none,0,z,(RS.nilF _ encSet encSet_len),z⟩
 refine TC.skip (S.n (TC.a (TL.s z z (TL.en (TC.seq (TC.a (TL.s z z (TL.w z (lenC z underlying46 z) (TL.i z z (TL.en (TC.block (TC.nilS 55 4 encSet (TC.loopG (α:=((List BSet)×Nat)×((Option Addr)×Nat)) (rgs [(2,5),(12,34)]) (fun g=>[(4,.slice g.2.1 g.1.1.length g.2.2),(12,.int .i64 ((g.1.2:Nat):Int))]) (fun g=>[Res.rowS 55 4 encSet (.slice g.2.1 g.1.1.length g.2.2) g.1.1]) (fun g=>σ) (fun g=>iter (fun q:(List BSet)×Nat=>Ar_ x0 q.1 q.2) g.1=some r) (fun g=>rounds (fun q:(List BSet)×Nat=>Ar_ x0 q.1 q.2) g.1) ((([]:List BSet),0),(none,0)) (Sub.pre 1 z) z (by repeat (first|exact trivial|refine ⟨z,?_⟩)) hh (fun g1 j1 hg1=> ?_))))))))))))))
 obtain ⟨⟨l113,k116⟩,⟨a114,c115⟩⟩:=g1
 have hh:=hg1;clear hg1
 try dsimp only
 obtain ⟨z1,hh,hR1⟩:=iter_e hh
 dsimp only [Ar_]at hh
 refine TC.isSl (i:=0) z (fun _ hb118 _=> ?_)
 refine TC.a (TL.w z (OpVal.lss z z z) (TL.en (TC.seq (TC.cD z hh (fun h119 hh=> ?_) (fun h119 hh=> ?_)))))
 ·refine TC.skip (S.n (TC.seq (TC.block (TC.a (TL.i z z (TL.w z (indexN z underlying46 sz3 z z f0_0.rv.sl (by omega)) (TL.w z (loadS1 (0:Int) z ag3 z f0_0 (by omega) z) (TL.i z z (TL.i z z (TL.en (TC.seq (TC.a (TL.i z z (TL.w z (OpVal.lss z z z) (TL.j z z ?_)))))))))))))))
  refine TL.split 19 z (fun h120=> ?_) (fun h120=> ?_)
  ·replace hh:=iteO_t h120 hh
   replace h120:=of_decide_eq_true h120
   refine TL.f z (TL.f z (TL.f z (TL.f z (TL.w z (pickTB z z z) (TL.en (TC.t z (TC.a (TL.s z z (TL.i z z (TL.en (TC.rt 0 (S.r (B.r (S.r (S.r ?_)))))))))))))))
   replace hh:=fin_x hR1 hh
   refine B.r (S.r ?_)
   obtain rfl:=so hh
   exact rq [2,3] ⟨none,0,z,(RS.nilF _ encSet encSet_len),z⟩
  replace hh:=iteO_f h120 hh
  replace h120:=of_decide_eq_false h120
  refine TL.g z (moveI (.inl z) z) (TL.g z (moveSl (.inl z) z) (TL.g z (lenC z underlying99 z) (TL.g z (OpVal.gtr z z z) (TL.w z (pickFB z z z) (TL.en (TC.cD z hh (fun h121 hh=> ?_) (fun h121 hh=> ?_)))))))
  ·refine TC.a (TL.s z z (TL.i z z (TL.en (TC.rt 0 (S.r (B.r (S.r (S.r ?_))))))))
   replace hh:=fin_x hR1 hh
   refine B.r (S.r ?_)
   obtain rfl:=so hh
   exact rq [2,3] ⟨none,0,z,(RS.nilF _ encSet encSet_len),z⟩
  refine TC.skip (S.n (TC.cutG (α:=((List BSet))×((Option Addr)×Nat)) (rgs [(4,1),(25,8)]) (fun g=>[(4,.slice g.2.1 g.1.length g.2.2)]) (fun g=>[Res.rowS 55 4 encSet (.slice g.2.1 g.1.length g.2.2) g.1]) (fun g=>σ) (fun g=>B5_ x0 k116 g.1=some z1) ?_ (fun g j hg=> ?_)))
  ·skip
   refine TC.a (TL.i z z (TL.s z z (TL.w z (lenC z underlying99 z) (TL.w z (OpVal.eql z z z) (TL.en (TC.cD z hh (fun h125 hh=> ?_) (fun h125 hh=> ?_)))))))
   ·refine TC.region (TL.s z z (TL.w z (buildArrL z underlying55 sz53 ze55 z) (TL.op z (OpOk.lit (enc:=encSet) [BSet.zero] z underlying99 sz55 ze55 z z z encSet_len (by decide) (by decide) BSet.zero z (by decide) z (by decide) encSet_one (fun a126 c127=> ?_)))))
    refine TL.front 1 z z ?_
    have u35:=grd_c hh
    replace hh:=grd_t hh
    refine TL.op z (appendS z z underlying99 sz55 by55 ze55 z z (by decide) z z z (.inr ⟨_,0,z⟩) (by simpa using u35) (by decide) (fun a129 c130=> ?_))
    exact TL.s z z (TL.en (cf ((l113++[BSet.zero]),(a129,c130)) hh (Sub.pre 1 z)))
   exact TC.skip (S.n (cf (l113,(a114,c115)) hh (Sub.pre 1 z)))
  skip
  obtain ⟨l122,⟨a123,c124⟩⟩:=g
  have hh:=hg;clear hg
  try dsimp only
  dsimp only [B5_]at hh
  refine TC.isSl (i:=0) z (fun _ hb131 _=> ?_)
  have u41:=grd_c hh
  replace hh:=grd_t hh
  have u46:=grd_c hh
  replace hh:=grd_t hh
  obtain ⟨v47,u47,hh⟩:=bnd_e hh
  have u48:=grd_c hh
  replace hh:=grd_t hh
  refine TC.draw [12] (by kernel_rfl) (TA.a 0 z (moveSl (.inl z) z) z (TA.a 1 z (moveI (.inl z) z) z (TA.a 2 z (moveSl (.inl z) z) z (TA.a 3 z (moveI (.inl z) z) z (TA.isSl (i:=0) z (fun hs138 _ _=> ?_))))))
  refine TA.b 4 z (OpVal.index z underlying99 sz55 z z hs138 u41.1 u41.2) z (TA.b 5 z (loadOA BSet.zero z ag55 sz55 z (q:=0) z encSet_len (by omega) (by omega)) z (TA.a 6 z (moveI (.inl z) z) z (TA.a 7 z (convU8 z underlying3 underlying5 z) z (TA.ac 8 z (OpOk.lit (enc:=encU8) [(toU8 ((k116:Nat):Int))] z underlying134 sz5 ze5 z z z encU8_len (by decide) (by decide) (0:UInt8) z (by decide) z (by decide) encU8_one (fun a139 c140=>(k1 ?_)))))))
  refine TA.ac 9 z (callT (of_con _ _ _ [(toU8 ((k116:Nat):Int))] u46) z z pf28 z z z z (k0 ?_))
  refine TA.ac 10 z (callP (Fm_ u47) z z pf76 z z z (k0 ?_))
  refine TA.isSl (i:=0) z (fun hs142 _ _=> ?_)
  refine TA.b 11 z (OpVal.index z underlying99 sz55 z z hs142 u48.1 u48.2) z ?_
  have hn143:(l122.set ((nth x0 k116 (0:Int)).toNat) v47).length=l122.length:=by rw [List.length_set]
  refine TA.last 12 (by kernel_rfl) z z z (storeS v47 z sz55 z z z z encSet_len encSet_one (by omega) (by omega) ?_)
  refine TZ.done (by kernel_rfl) (B.n (S.n (TC.region (TL.w z (OpVal.succ z z z (by omega)) (TL.i z z ?_)))))
  rw [←hn143]
  refine TL.en ?_
  obtain ⟨hh,hlt144⟩:=nxt_x hR1 hh
  exact lf (((l122.set ((nth x0 k116 (0:Int)).toNat) v47),(k116+1)),(a123,c124)) hlt144 hh (Sub.pre 1 z)
 refine TC.exit (S.x (S.x ?_))
 replace hh:=fin_x hR1 hh
 refine TC.exitHere (S.n (TC.a (TL.s z z (TL.s z z (TL.i z z (TL.en (TC.sealS encSet_len (fun τ147 hle146 hr145=> ?_))))))))
 have hr145b:=hr145.rv.big
 refine TC.ret ?_
 obtain rfl:=so hh
 exact rq [2,3] ⟨a114,c115,z,hr145,z⟩
def Ba_(x0:Dfa)(k110:Nat)(k116:Nat):Option ((Nat)⊕((Nat)⊕(Int))):=
 iteO (decide (((k116:Nat):Int)<(((nth x0.next k110 ([]:List Int)).length:Nat):Int))) (iteO (decide ((nth (nth x0.next k110 ([]:List Int)) k116 (0:Int))<0)) (fin (fin (some 1))) (iteO (decide (((x0.next.length:Nat):Int)≤(nth (nth x0.next k110 ([]:List Int)) k116 (0:Int)))) (fin (fin (some 1))) (nxt (k116+1)))) (fin (nxt (k110+1)))
def Bc_(x0:Dfa)(v5:(List BSet)×Int)(k110:Nat):Option ((Nat)⊕(Int)):=
 iteO (decide (((k110:Nat):Int)<((x0.next.length:Nat):Int))) (iteO (decide ((((nth x0.next k110 ([]:List Int)).length:Nat):Int)≠((v5.1.length:Nat):Int))) (fin (some 1)) (iter (fun q:Nat=>Ba_ x0 k110 q) 0)) (fin (some 0))
def Dj_(x0:Dfa):Option (Int):=
 bnd (C4_ x0.cls) (fun v5=>iteO (decide (v5.2≠0)) (some 1) (iteO (decide (((x0.next.length:Nat):Int)<1)) (some 1) (iteO (decide (1024<((x0.next.length:Nat):Int))) (some 1) (iteO (decide (((x0.fin.length:Nat):Int)≠((x0.next.length:Nat):Int))) (some 1) (iter (fun q:Nat=>Bc_ x0 v5 q) 0)))))
theorem F3_{x0:Dfa}(f0_0:RS σ 1 eI_ (.slice a0_0 x0.cls.length c0_0) x0.cls)(f0_1:RZ σ (pkSl 1 eI_ eIl_) (.slice a0_1 x0.next.length c0_1) x0.next)(f0_2:RS σ 1 encB (.slice a0_2 x0.fin.length c0_2) x0.fin){r:Int}(hh:Dj_ x0=some r):
  Con Tryz.prog 48 #[.agg #[.slice a0_0 x0.cls.length c0_0,.slice a0_1 x0.next.length c0_1,.slice a0_2 x0.fin.length c0_2]] σ [] (PureP (.int .i64 r) σ):=by
 dsimp only [Dj_]at hh
 have f0_0b:=f0_0.rv.big
 have f0_1b:=f0_1.big
 have f0_2b:=f0_2.rv.big
 refine Con.mk (n:=63) Tryz.func48 z z z (fun w0=> ?_)
 refine TC.a (TL.op z (boxA z z z z (fun b101=> ?_)))
 refine TL.i z z (TL.en (TC.a (TL.w z (fieldLoc z fo50_0 z) (TL.w z (loadLoc z ag46 z (i:=0) z z) ?_))))
 obtain ⟨v5,u5,hh⟩:=bnd_e hh
 refine TL.op z (OpOk.call (F5_ f0_0 u5) z z pf84 z z z z ?_)
 rintro _ τ103 _ hle103 ⟨a103_1,c103_1,rfl,hr103_0,rfl⟩
 replace f0_1:=f0_1.mono hle103
 have hr103_0b:=hr103_0.rv.big
 refine TL.w z (moveT (.inl z) z) (TL.w z (OpVal.extract z z z) (TL.w z (OpVal.extract z z z) (TL.s z z (TL.i z z (TL.en (TC.a (TL.w z (fieldLoc z fo50_1 z) (TL.w z (loadLoc z ag47 z (i:=0) z z) (TL.w z (lenC z underlying47 z) (TL.i z z (TL.en (TC.seq (TC.a (TL.i z z (TL.w z (OpVal.neq z z z) ?_)))))))))))))))
 refine TL.j z z (TL.split 21 z (fun h104=> ?_) (fun h104=> ?_))
 ·replace hh:=iteO_t h104 hh
  replace h104:=of_decide_eq_true h104
  refine TL.f z (TL.f z (TL.w z (pickTB z z z) (TL.j z z (TL.f z (TL.f z (TL.w z (pickTB z z z) (TL.j z z (TL.f z (TL.f z (TL.f z (TL.f z (TL.f z (TL.w z (pickTB z z z) (TL.en (TC.t z ?_)))))))))))))))
  refine TC.a (TL.i z z (TL.en (TC.ofSub (Sub.pre 0 z) (TC.back (TC.ret (S.r ?_))))))
  obtain rfl:=so hh
  exact rq [2] ⟨z,z,z⟩
 replace hh:=iteO_f h104 hh
 replace h104:=of_decide_eq_false h104
 refine TL.g z (moveI (.inl z) z) (TL.g z (OpVal.lss z z z) (TL.w z (pickFB z z z) (TL.j z z (TL.split 25 z (fun h105=> ?_) (fun h105=> ?_)))))
 ·replace hh:=iteO_t h105 hh
  replace h105:=of_decide_eq_true h105
  refine TL.f z (TL.f z (TL.w z (pickTB z z z) (TL.j z z (TL.f z (TL.f z (TL.f z (TL.f z (TL.f z (TL.w z (pickTB z z z) (TL.en (TC.t z (TC.a (TL.i z z (TL.en (TC.ofSub (Sub.pre 0 z) ?_)))))))))))))))
  refine TC.back (TC.ret (S.r ?_))
  obtain rfl:=so hh
  exact rq [2] ⟨z,z,z⟩
 replace hh:=iteO_f h105 hh
 replace h105:=of_decide_eq_false h105
 refine TL.g z (moveI (.inl z) z) (TL.g z (OpVal.gtr z z z) (TL.w z (pickFB z z z) (TL.j z z (TL.split 29 z (fun h106=> ?_) (fun h106=> ?_)))))
 ·replace hh:=iteO_t h106 hh
  replace h106:=of_decide_eq_true h106
  refine TL.f z (TL.f z (TL.f z (TL.f z (TL.f z (TL.w z (pickTB z z z) (TL.en (TC.t z (TC.a (TL.i z z (TL.en (TC.ofSub (Sub.pre 0 z) (TC.back (TC.ret (S.r ?_))))))))))))))
  obtain rfl:=so hh
  exact rq [2] ⟨z,z,z⟩
 replace hh:=iteO_f h106 hh
 replace h106:=of_decide_eq_false h106
 refine TL.g z (fieldLoc z fo50_2 z) (TL.g z (loadLoc z ag48 z (i:=0) z z) (TL.g z (lenC z underlying48 z) (TL.g z (moveI (.inl z) z) (TL.g z (OpVal.neq z z z) (TL.w z (pickFB z z z) (TL.en (TC.cD z hh (fun h107 hh=> ?_) (fun h107 hh=> ?_))))))))
 ·refine TC.a (TL.i z z (TL.en (TC.ofSub (Sub.pre 0 z) (TC.back (TC.ret (S.r ?_))))))
  obtain rfl:=so hh
  exact rq [2] ⟨z,z,z⟩
 refine TC.skip (S.n (TC.seq (TC.a (TL.w z (fieldLoc z fo50_1 z) (TL.w z (loadLoc z ag47 z (i:=0) z z) (TL.w z (lenC z underlying47 z) (TL.i z z (TL.en (TC.block (TC.loopG (α:=(Nat)×(Unit)) (rgs [(2,1),(7,1),(9,1),(39,24)]) (fun g=>[(39,.int .i64 ((g.1:Nat):Int))]) (fun g=>[]) (fun g=>τ103) (fun g=>iter (fun q:Nat=>Bc_ x0 v5 q) g.1=some r) (fun g=>rounds (fun q:Nat=>Bc_ x0 v5 q) g.1) (0,()) (Sub.pre 0 z) z (by repeat (first|exact trivial|refine ⟨z,?_⟩)) hh (fun g1 j1 hg1=> ?_)))))))))))
 obtain ⟨k110,_⟩:=g1
 have hh:=hg1;clear hg1
 try dsimp only
 obtain ⟨z1,hh,hR1⟩:=iter_e hh
 dsimp only [Bc_]at hh
 refine TC.a (TL.w z (OpVal.lss z z z) (TL.en (TC.seq (TC.cD z hh (fun h111 hh=> ?_) (fun h111 hh=> ?_)))))
 ·refine TC.skip (S.n (TC.seq (TC.block (TC.a (TL.w z (indexN z underlying47 sz46 z z f0_1.isSl (by omega)) ?_)))))
  obtain ⟨p112,hk112,hg112⟩:=RZ.seg f0_1 k110 (by omega)
  replace hk112:RS _ 1 eI_ (.slice p112.1 (nth x0.next k110 ([]:List Int)).length p112.2) (nth x0.next k110 ([]:List Int)):=hk112
  have hk112b:=hk112.rv.big
  refine TL.w z (OpVal.of (loadSeg0 z ag46 z hg112 z) (v':= .slice p112.1 ((nth x0.next k110 ([]:List Int)).length) p112.2) z) (TL.s z z (TL.en (TC.seq (TC.a (TL.s z z (TL.w z (lenC z underlying46 z) (TL.s z z (TL.w z (lenC z underlying99 z) (TL.w z (OpVal.neq z z z) (TL.en (TC.cD z hh (fun h113 hh=> ?_) (fun h113 hh=> ?_))))))))))))
  ·refine TC.a (TL.i z z (TL.en (TC.back (TC.ret (S.r (B.r (S.r (S.r ?_))))))))
   replace hh:=fin_x hR1 hh
   refine B.r (S.r ?_)
   obtain rfl:=so hh
   exact rq [2] ⟨z,z,z⟩
  refine TC.skip (S.n (TC.a (TL.s z z (TL.w z (lenC z underlying46 z) (TL.i z z (TL.en (TC.block (TC.loopG (α:=(Nat)×(Unit)) (rgs [(2,1),(9,1),(50,12)]) (fun g=>[(50,.int .i64 ((g.1:Nat):Int))]) (fun g=>[]) (fun g=>τ103) (fun g=>iter (fun q:Nat=>Ba_ x0 k110 q) g.1=some z1) (fun g=>rounds (fun q:Nat=>Ba_ x0 k110 q) g.1) (0,()) (Sub.pre 0 z) z (by repeat (first|exact trivial|refine ⟨z,?_⟩)) hh (fun g2 j2 hg2=> ?_)))))))))
  obtain ⟨k116,_⟩:=g2
  have hh:=hg2;clear hg2
  try dsimp only
  obtain ⟨z2,hh,hR2⟩:=iter_e hh
  dsimp only [Ba_]at hh
  refine TC.a (TL.w z (OpVal.lss z z z) (TL.en (TC.seq (TC.cD z hh (fun h117 hh=> ?_) (fun h117 hh=> ?_)))))
  ·refine TC.skip (S.n (TC.seq (TC.block (TC.a (TL.w z (indexN z underlying46 sz3 z z hk112.rv.sl (by omega)) (TL.w z (loadS1 (0:Int) z ag3 z hk112 (by omega) z) (TL.i z z (TL.en (TC.a (TL.i z z (TL.w z (OpVal.lss z z z) (TL.j z z (TL.split 56 z (fun h118=> ?_) (fun h118=> ?_))))))))))))))
   ·replace hh:=iteO_t h118 hh
    replace h118:=of_decide_eq_true h118
    refine TL.f z (TL.f z (TL.f z (TL.w z (pickTB z z z) (TL.en (TC.t z (TC.a (TL.i z z (TL.en (TC.back (TC.ret (B.r (S.r (S.r ?_)))))))))))))
    replace hh:=fin_x hR2 hh
    refine B.r (B.r (S.r (S.r ?_)))
    replace hh:=fin_x hR1 hh
    refine B.r (S.r ?_)
    obtain rfl:=so hh
    exact rq [2] ⟨z,z,z⟩
   replace hh:=iteO_f h118 hh
   replace h118:=of_decide_eq_false h118
   refine TL.g z (moveI (.inl z) z) (TL.g z (moveI (.inl z) z) (TL.g z (OpVal.geq z z z) (TL.w z (pickFB z z z) (TL.en (TC.cD z hh (fun h119 hh=> ?_) (fun h119 hh=> ?_))))))
   ·refine TC.a (TL.i z z (TL.en (TC.back (TC.ret (B.r (S.r (S.r ?_)))))))
    replace hh:=fin_x hR2 hh
    refine B.r (B.r (S.r (S.r ?_)))
    replace hh:=fin_x hR1 hh
    refine B.r (S.r ?_)
    obtain rfl:=so hh
    exact rq [2] ⟨z,z,z⟩
   refine TC.skip (B.n (S.n (TC.region (TL.w z (OpVal.succ z z z (by omega)) (TL.i z z (TL.en ?_))))))
   obtain ⟨hh,hlt120⟩:=nxt_x hR2 hh
   exact lf ((k116+1),()) hlt120 hh (Sub.pre 0 z)
  refine TC.exit (S.x (S.x ?_))
  replace hh:=fin_x hR2 hh
  refine TC.exitHere (B.n (S.n (TC.region (TL.w z (OpVal.succ z z z (by omega)) (TL.i z z (TL.en ?_))))))
  obtain ⟨hh,hlt121⟩:=nxt_x hR1 hh
  exact lf ((k110+1),()) hlt121 hh (Sub.pre 0 z)
 refine TC.exit (S.x (S.x ?_))
 replace hh:=fin_x hR1 hh
 refine TC.exitHere (S.n (TC.a (TL.i z z (TL.en (TC.back (TC.ret ?_))))))
 obtain rfl:=so hh
 exact rq [2] ⟨z,z,z⟩
def Bp_(k120:Nat)(m124:FM BSet Int)(l125:List BSet):Option (((FM BSet Int)×(List BSet)×Nat)⊕((List BSet))):=
 nxt (m124,l125,(k120+1))
def Bx_(x0:List Arrow)(m115:FM BSet Int)(l117:List BSet)(k120:Nat):Option (((FM BSet Int)×(List BSet)×Nat)⊕((List BSet))):=
 iteO (decide (((k120:Nat):Int)<((x0.length:Nat):Int))) (iteO (!(m115.has ((nth x0 k120 Arrow.zero).set))) (grd ((l117.length+[(nth x0 k120 Arrow.zero).set].length) * 32≤140737488355328) (Bp_ k120 (m115.put ((nth x0 k120 Arrow.zero).set) ((l117.length:Nat):Int)) (l117++[(nth x0 k120 Arrow.zero).set]))) (Bp_ k120 m115 l117)) (fin (some l117))
def Dx_(x0:List Arrow):Option ((List BSet)):=
 iter (fun q:(FM BSet Int)×(List BSet)×Nat=>Bx_ x0 q.1 q.2.1 q.2.2) ((FM.emp:FM BSet Int),([]:List BSet),0)
def Gz_(σ:Store)(r:(List BSet)):Value→Store→List Res→Prop:=fun v σ' H'=>
 ∃a1 c1,v= .slice a1 r.length c1∧RS σ' 4 encSet (.slice a1 r.length c1) r∧H'=[]
theorem Gp_{x0:List Arrow}(f0_0:RS σ 6 encE (.slice a0_0 x0.length c0_0) x0){r:(List BSet)}(hh:Dx_ x0=some r):
  Con Tryz.prog 40 #[.slice a0_0 x0.length c0_0] σ [] (Gz_ σ r):=by
 dsimp only [Dx_]at hh
 have f0_0b:=f0_0.rv.big
 refine Con.mk (n:=37) Tryz.func40 z z z (fun w0=> ?_)
 refine TC.a (TL.s z z (TL.en (TC.a (TL.op z (makeMapB (enc:=setV) (encV:=keyI) z z z (fun b101=> ?_))))))
 refine TL.w z (moveMap (.inr z) z) (TL.en (TC.a (TL.s z z (TL.en (TC.seq (TC.a (TL.s z z (TL.w z (lenC z underlying59 z) (TL.i z z (TL.en (TC.block (TC.nilS 55 4 encSet (TC.loopG (α:=((FM BSet Int)×(List BSet)×Nat)×((Option Addr)×Nat)) (rgs [(4,1),(6,3),(12,24)]) (fun g=>[(4,.slice g.2.1 g.1.2.1.length g.2.2),(12,.int .i64 ((g.1.2.2:Nat):Int))]) (fun g=>[Res.mapB setV keyI (some b101) g.1.1,Res.rowS 55 4 encSet (.slice g.2.1 g.1.2.1.length g.2.2) g.1.2.1]) (fun g=>σ) (fun g=>iter (fun q:(FM BSet Int)×(List BSet)×Nat=>Bx_ x0 q.1 q.2.1 q.2.2) g.1=some r) (fun g=>rounds (fun q:(FM BSet Int)×(List BSet)×Nat=>Bx_ x0 q.1 q.2.1 q.2.2) g.1) (((FM.emp:FM BSet Int),([]:List BSet),0),(none,0)) (Sub.f [1] 2) z (by repeat (first|exact trivial|refine ⟨z,?_⟩)) hh (fun g1 j1 hg1=> ?_))))))))))))))
 obtain ⟨⟨m115,l117,k120⟩,⟨a118,c119⟩⟩:=g1
 have hh:=hg1;clear hg1
 try dsimp only
 obtain ⟨z1,hh,hR1⟩:=iter_e hh
 dsimp only [Bx_]at hh
 refine TC.isSl (i:=1) z (fun _ hb122 _=> ?_)
 refine TC.a (TL.w z (OpVal.lss z z z) (TL.en (TC.seq (TC.cD z hh (fun h123 hh=> ?_) (fun h123 hh=> ?_)))))
 ·refine TC.skip (S.n (TC.cutG (α:=((FM BSet Int)×(List BSet))×((Option Addr)×Nat)) (rgs [(4,1),(6,3),(14,21)]) (fun g=>[(4,.slice g.2.1 g.1.2.length g.2.2)]) (fun g=>[Res.mapB setV keyI (some b101) g.1.1,Res.rowS 55 4 encSet (.slice g.2.1 g.1.2.length g.2.2) g.1.2]) (fun g=>σ) (fun g=>Bp_ k120 g.1.1 g.1.2=some z1) ?_ (fun g j hg=> ?_)))
  ·skip
   refine TC.block (TC.a (TL.w z (indexN z underlying59 sz58 z z f0_0.rv.sl (by omega)) (TL.w z (loadSA Arrow.zero z ag58 sz58 z f0_0 (by omega) (by omega)) (TL.op z (OpOk.alloc z ze58 z z (fun b128=> ?_))))))
   refine TL.op z (storeAll z sz58 z z z z z z ?_)
   refine TL.en (TC.a (TL.w z (moveMap (.inl z) z) (TL.w z (fieldLoc z fo58_2 z) (TL.w z (loadLocA z ag55 sz55 z (i:=0) z z z) (TL.w z (OpVal.of (lookB 0 (q:=(nth x0 k120 Arrow.zero).set) z underlying146 ze3 z (i:=1) z z (keyL_set underlying55 underlying53 ag53 sz53)) (v':= .tuple #[.int .i64 (m115.get ((nth x0 k120 Arrow.zero).set) 0),.bool (m115.has ((nth x0 k120 Arrow.zero).set))]) z) (TL.w z (moveT (.inl z) z) (TL.w z (OpVal.extract z z z) (TL.w z (OpVal.extract z z z) (TL.i z z (TL.j z z (TL.en (TC.a (TL.j z z (TL.w z (OpVal.not z z) (TL.en ?_)))))))))))))))
   refine TC.cB z hh (fun h130 hh=> ?_) (fun h130 hh=> ?_)
   ·refine TC.a (TL.w z (moveMap (.inl z) z) (TL.w z (fieldLoc z fo58_2 z) (TL.w z (loadLocA z ag55 sz55 z (i:=0) z z z) (TL.s z z (TL.w z (lenC z underlying99 z) (TL.front 1 z z (TL.op z (updB ((nth x0 k120 Arrow.zero).set) ((l117.length:Nat):Int) z underlying146 z z z z (keyL_set underlying55 underlying53 ag53 sz53) ?_))))))))
    refine TL.en (TC.region (TL.s z z (TL.w z (fieldLoc z fo58_2 z) (TL.w z (loadLocA z ag55 sz55 z (i:=1) z z z) (TL.op z (OpOk.lit (enc:=encSet) [(nth x0 k120 Arrow.zero).set] z underlying99 sz55 ze55 z z z encSet_len (by decide) (by decide) BSet.zero z (by decide) z (by decide) encSet_one (fun a131 c132=> ?_)))))))
    refine TL.front 3 z z ?_
    have u34:=grd_c hh
    replace hh:=grd_t hh
    refine TL.op z (appendS z z underlying99 sz55 by55 ze55 z z (by decide) z z z (.inr ⟨_,0,z⟩) (by simpa using u34) (by decide) (fun a134 c135=> ?_))
    exact TL.s z z (TL.nil (B.n (S.n (cf (((m115.put ((nth x0 k120 Arrow.zero).set) ((l117.length:Nat):Int)),(l117++[(nth x0 k120 Arrow.zero).set])),(a134,c135)) hh (Sub.f [2] 2)))))
   exact TC.skip (B.n (S.n (cf ((m115,l117),(a118,c119)) hh (Sub.f [2,2] 2))))
  skip
  obtain ⟨⟨m124,l125⟩,⟨a126,c127⟩⟩:=g
  have hh:=hg;clear hg
  try dsimp only
  dsimp only [Bp_]at hh
  refine TC.isSl (i:=1) z (fun _ hb136 _=> ?_)
  refine TC.region (TL.w z (OpVal.succ z z z (by omega)) (TL.i z z (TL.en ?_)))
  obtain ⟨hh,hlt137⟩:=nxt_x hR1 hh
  exact lf ((m124,l125,(k120+1)),(a126,c127)) hlt137 hh (Sub.f [1,1] 2)
 refine TC.exit (S.x (S.x ?_))
 replace hh:=fin_x hR1 hh
 refine TC.exitHere (S.n (TC.a (TL.s z z (TL.s z z (TL.en (TC.front 1 z z (TC.sealS encSet_len (fun τ140 hle139 hr138=> ?_))))))))
 have hr138b:=hr138.rv.big
 refine TC.rt 0 ?_
 obtain rfl:=so hh
 exact rq [2] ⟨a118,c119,z,hr138,z⟩
def Bt_(k133:Nat)(l136:List Int):Option (((List Int)×Nat)⊕(((List Int)×Nat)⊕((List Int)))):=
 nxt (l136,(k133+1))
def Bw_(x0:List (List Arrow))(x1:List Int)(k117:Nat)(v4:UInt8×Bool)(l130:List Int)(k133:Nat):Option (((List Int)×Nat)⊕(((List Int)×Nat)⊕((List Int)))):=
 iteO (decide (((k133:Nat):Int)<(((nth x0 ((nth x1 k117 (0:Int)).toNat) ([]:List Arrow)).length:Nat):Int))) (iteO (((nth (nth x0 ((nth x1 k117 (0:Int)).toNat) ([]:List Arrow)) k133 Arrow.zero).set).has v4.1.toNat) (grd ((l130.length+[(nth (nth x0 ((nth x1 k117 (0:Int)).toNat) ([]:List Arrow)) k133 Arrow.zero).to].length) * 8≤140737488355328) (Bt_ k133 (l130++[(nth (nth x0 ((nth x1 k117 (0:Int)).toNat) ([]:List Arrow)) k133 Arrow.zero).to]))) (Bt_ k133 l130)) (fin (nxt (l130,(k117+1))))
def By_(x1:List Int)(x0:List (List Arrow))(v4:UInt8×Bool)(l114:List Int)(k117:Nat):Option (((List Int)×Nat)⊕((List Int))):=
 iteO (decide (((k117:Nat):Int)<((x1.length:Nat):Int))) (grd (0≤(nth x1 k117 (0:Int))∧(nth x1 k117 (0:Int))<(x0.length:Int)) (iter (fun q:(List Int)×Nat=>Bw_ x0 x1 k117 v4 q.1 q.2) (l114,0))) (fin (some l114))
def D5_(x0:List (List Arrow))(x1:List Int)(x2:BSet):Option ((List Int)):=
 bnd (Dk_ x2) (fun v4=>iter (fun q:(List Int)×Nat=>By_ x1 x0 v4 q.1 q.2) (([]:List Int),0))
def G2_(σ:Store)(r:(List Int)):Value→Store→List Res→Prop:=fun v σ' H'=>
 ∃a1 c1,v= .slice a1 r.length c1∧σ=σ'∧H'=[Res.rowS 3 1 eI_ (.slice a1 r.length c1) r]
theorem Gq_{x0:List (List Arrow)}{x1:List Int}{x2:BSet}(hgl:GT σ 1 encU8 deB)(f0_0:RZ σ (pkSl 6 encE encE_len) (.slice a0_0 x0.length c0_0) x0)(f1_0:RS σ 1 eI_ (.slice a1_0 x1.length c1_0) x1){r:(List Int)}(hh:D5_ x0 x1 x2=some r):
  Con Tryz.prog 47 #[.slice a0_0 x0.length c0_0,.slice a1_0 x1.length c1_0,setV x2] σ [] (G2_ σ r):=by
 dsimp only [D5_]at hh
 have f0_0b:=f0_0.big
 have f1_0b:=f1_0.rv.big
 refine Con.mk (n:=46) Tryz.func47 z z z (fun w0=> ?_)
 refine TC.a (TL.op z (boxA z z z z (fun b101=> ?_)))
 refine TL.s z z (TL.en (TC.a (TL.w z (loadAll z ag55 sz55 z (i:=0) z z) ?_)))
 obtain ⟨v4,u4,hh⟩:=bnd_e hh
 refine TL.op z (callP (F0_ hgl u4) z z pf77 z z z ?_)
 refine TL.w z (moveT (.inl z) z) (TL.w z (OpVal.extract z z z) (TL.w z (OpVal.extract z z z) (TL.i z z (TL.j z z (TL.en (TC.a (TL.s z z (TL.en (TC.seq (TC.a (TL.s z z (TL.w z (lenC z underlying46 z) (TL.i z z (TL.en (TC.block ?_)))))))))))))))
 refine TC.nilS 3 1 eI_ (TC.loopG (α:=((List Int)×Nat)×((Option Addr)×Nat)) (rgs [(9,1),(11,1),(13,1),(21,24)]) (fun g=>[(9,.slice g.2.1 g.1.1.length g.2.2),(21,.int .i64 ((g.1.2:Nat):Int))]) (fun g=>[Res.rowS 3 1 eI_ (.slice g.2.1 g.1.1.length g.2.2) g.1.1]) (fun g=>σ) (fun g=>iter (fun q:(List Int)×Nat=>By_ x1 x0 v4 q.1 q.2) g.1=some r) (fun g=>rounds (fun q:(List Int)×Nat=>By_ x1 x0 v4 q.1 q.2) g.1) ((([]:List Int),0),(none,0)) (Sub.pre 1 z) z (by repeat (first|exact trivial|refine ⟨z,?_⟩)) hh (fun g1 j1 hg1=> ?_))
 obtain ⟨⟨l114,k117⟩,⟨a115,c116⟩⟩:=g1
 have hh:=hg1;clear hg1
 try dsimp only
 obtain ⟨z1,hh,hR1⟩:=iter_e hh
 dsimp only [By_]at hh
 refine TC.isSl (i:=0) z (fun _ hb119 _=> ?_)
 refine TC.a (TL.w z (OpVal.lss z z z) (TL.en (TC.seq (TC.cD z hh (fun h120 hh=> ?_) (fun h120 hh=> ?_)))))
 ·refine TC.skip (S.n (TC.seq (TC.block (TC.a (TL.w z (indexN z underlying46 sz3 z z f1_0.rv.sl (by omega)) (TL.w z (loadS1 (0:Int) z ag3 z f1_0 (by omega) z) (TL.i z z (TL.en (TC.a (TL.s z z (TL.i z z ?_)))))))))))
  have u20:=grd_c hh
  replace hh:=grd_t hh
  refine TL.w z (OpVal.index z underlying105 sz59 z z f0_0.isSl u20.1 u20.2) ?_
  obtain ⟨p121,hk121,hg121⟩:=RZ.seg f0_0 ((nth x1 k117 (0:Int)).toNat) (by omega)
  replace hk121:RS _ 6 encE (.slice p121.1 (nth x0 ((nth x1 k117 (0:Int)).toNat) ([]:List Arrow)).length p121.2) (nth x0 ((nth x1 k117 (0:Int)).toNat) ([]:List Arrow)):=hk121
  have hk121b:=hk121.rv.big
  refine TL.w z (OpVal.of (loadSeg0 z ag59 z hg121 z) (v':= .slice p121.1 ((nth x0 ((nth x1 k117 (0:Int)).toNat) ([]:List Arrow)).length) p121.2) z) (TL.w z (lenC z underlying59 z) (TL.i z z (TL.en (TC.block (TC.loopG (α:=((List Int)×Nat)×((Option Addr)×Nat)) (rgs [(9,1),(13,1),(30,14)]) (fun g=>[(9,.slice g.2.1 g.1.1.length g.2.2),(30,.int .i64 ((g.1.2:Nat):Int))]) (fun g=>[Res.rowS 3 1 eI_ (.slice g.2.1 g.1.1.length g.2.2) g.1.1]) (fun g=>σ) (fun g=>iter (fun q:(List Int)×Nat=>Bw_ x0 x1 k117 v4 q.1 q.2) g.1=some z1) (fun g=>rounds (fun q:(List Int)×Nat=>Bw_ x0 x1 k117 v4 q.1 q.2) g.1) ((l114,0),(a115,c116)) (Sub.pre 1 z) z (by repeat (first|exact trivial|refine ⟨z,?_⟩)) hh (fun g2 j2 hg2=> ?_))))))
  obtain ⟨⟨l130,k133⟩,⟨a131,c132⟩⟩:=g2
  have hh:=hg2;clear hg2
  try dsimp only
  obtain ⟨z2,hh,hR2⟩:=iter_e hh
  dsimp only [Bw_]at hh
  refine TC.isSl (i:=0) z (fun _ hb134 _=> ?_)
  refine TC.a (TL.w z (OpVal.lss z z z) (TL.en (TC.seq (TC.cD z hh (fun h135 hh=> ?_) (fun h135 hh=> ?_)))))
  ·refine TC.skip (S.n (TC.cutG (α:=((List Int))×((Option Addr)×Nat)) (rgs [(9,1),(13,1),(32,11)]) (fun g=>[(9,.slice g.2.1 g.1.length g.2.2)]) (fun g=>[Res.rowS 3 1 eI_ (.slice g.2.1 g.1.length g.2.2) g.1]) (fun g=>σ) (fun g=>Bt_ k133 g.1=some z2) ?_ (fun g j hg=> ?_)))
   ·skip
    refine TC.block (TC.a (TL.w z (indexN z underlying59 sz58 z z hk121.rv.sl (by omega)) (TL.w z (loadSA Arrow.zero z ag58 sz58 z hk121 (by omega) (by omega)) (TL.op z (OpOk.alloc z ze58 z z (fun b139=> ?_))))))
    refine TL.op z (storeAll z sz58 z z z z z z ?_)
    refine TL.en (TC.a (TL.w z (fieldLoc z fo58_2 z) (TL.w z (loadLocA z ag55 sz55 z (i:=0) z z z) (TL.i z z (TL.op z (callP (has_con _ ((nth (nth x0 ((nth x1 k117 (0:Int)).toNat) ([]:List Arrow)) k133 Arrow.zero).set) v4.1.toNat (BSet.isOk _) (UInt8.toNat_lt _)) z z pf62 z z z ?_))))))
    refine TL.en (TC.cB z hh (fun h141 hh=> ?_) (fun h141 hh=> ?_))
    ·refine TC.region (TL.s z z (TL.w z (fieldLoc z fo58_1 z) (TL.w z (loadLoc z ag3 z (i:=0) z z) (TL.op z (OpOk.lit (enc:=eI_) [(nth (nth x0 ((nth x1 k117 (0:Int)).toNat) ([]:List Arrow)) k133 Arrow.zero).to] z underlying46 sz3 ze3 z z z eIl_ (by decide) (by decide) (0:Int) z (by decide) z (by decide) eIo_ (fun a142 c143=> ?_))))))
     refine TL.front 2 z z ?_
     have u37:=grd_c hh
     replace hh:=grd_t hh
     refine TL.op z (appendS z z underlying46 sz3 by3 ze3 z z (by decide) z z z (.inr ⟨_,0,z⟩) (by simpa using u37) (by decide) (fun a145 c146=> ?_))
     exact TL.s z z (TL.nil (B.n (S.n (cf ((l130++[(nth (nth x0 ((nth x1 k117 (0:Int)).toNat) ([]:List Arrow)) k133 Arrow.zero).to]),(a145,c146)) hh (Sub.pre 1 z)))))
    exact TC.skip (B.n (S.n (cf (l130,(a131,c132)) hh (Sub.f [1] 1))))
   skip
   obtain ⟨l136,⟨a137,c138⟩⟩:=g
   have hh:=hg;clear hg
   try dsimp only
   dsimp only [Bt_]at hh
   refine TC.isSl (i:=0) z (fun _ hb147 _=> ?_)
   refine TC.region (TL.w z (OpVal.succ z z z (by omega)) (TL.i z z (TL.en ?_)))
   obtain ⟨hh,hlt148⟩:=nxt_x hR2 hh
   exact lf ((l136,(k133+1)),(a137,c138)) hlt148 hh (Sub.pre 1 z)
  refine TC.exit (S.x (S.x ?_))
  replace hh:=fin_x hR2 hh
  refine TC.exitHere (B.n (S.n (TC.region (TL.w z (OpVal.succ z z z (by omega)) (TL.i z z (TL.en ?_))))))
  obtain ⟨hh,hlt149⟩:=nxt_x hR1 hh
  exact lf ((l130,(k117+1)),(a131,c132)) hlt149 hh (Sub.pre 1 z)
 refine TC.exit (S.x (S.x ?_))
 replace hh:=fin_x hR1 hh
 refine TC.exitHere (S.n (TC.a (TL.s z z (TL.s z z (TL.en (TC.ret ?_))))))
 obtain rfl:=so hh
 exact ro [Res.rowS 3 1 eI_ (.slice a115 l114.length c116) l114] z (RVs.tmp z RVs.nil) ⟨a115,c116,z,z,z⟩
def Ah_{Sy:Type}(x1:List BSet)(Y:Sy→Int×BSet→Option (Sy×Bool))(k111:Nat)(s112:Sy):Option ((Nat×Sy)⊕(Sy)):=
 iteO (decide (((k111:Nat):Int)<((x1.length:Nat):Int))) (bnd (Y s112 (((k111:Nat):Int),(nth x1 k111 BSet.zero))) (fun v14=>iteO (!v14.2) (fin (some v14.1)) (nxt ((k111+1),v14.1)))) (fin (some s112))
def At_{Sy:Type}(Y:Sy→Int×BSet→Option (Sy×Bool))(s0:Sy)(x1:List BSet):Option (Sy):=
 iter (fun q:Nat×Sy=>Ah_ x1 Y q.1 q.2) (0,s0)
theorem E1_{Sy:Type}{Y:Sy→Int×BSet→Option (Sy×Bool)}{s0:Sy}{x1:List BSet}(f1_3:RS σ 4 encSet (.slice a1_1 x1.length c1_2) x1){r:Sy}(hh:At_ Y s0 x1=some r):
  IterOk Tryz.prog 83 [loc b1_0 0] (fun (x:Int×BSet) _ vs=>vs=[.int .i64 x.1,setV x.2]) Y σ [Res.cells b1_0 #[.slice a1_1 x1.length c1_2] Eb1] s0 r (fun σ' H'=>H'=[Res.cells b1_0 #[.slice a1_1 x1.length c1_2] Eb1]):=by
 intro l Z ry0 hY hys
 dsimp only [At_]at hh
 have f1_3b:=f1_3.rv.big
 refine Con.mk (n:=18) Tryz.func83 z z z (fun w0=> ?_)
 refine TC.weakR (TC.a (TL.w z (loadLoc z ag99 z (i:=1) z z) (TL.w z (lenC z underlying99 z) (TL.i z z (TL.en (TC.block (TC.loopG (α:=(Nat×Sy)×(Res×Store)) (rgs [(3,2),(7,11)]) (fun g=>[(7,.int .i64 ((g.1.1:Nat):Int))]) (fun g=>[Res.cells b1_0 #[.slice a1_1 x1.length c1_2] Eb1,g.2.1]) (fun g=>g.2.2) (fun g=>iter (fun q:Nat×Sy=>Ah_ x1 Y q.1 q.2) g.1=some r∧YR Z g.1.2 g.2.2 g.2.1∧Store.le σ g.2.2) (fun g=>rounds (fun q:Nat×Sy=>Ah_ x1 Y q.1 q.2) g.1) ((0,s0),(ry0,σ)) (Sub.f [1] 2) z (by repeat (first|exact trivial|refine ⟨z,?_⟩)) ⟨hh,hys,(Store.le.refl _)⟩ (fun g1 j1 hg1=> ?_))))))))
 obtain ⟨⟨k111,s112⟩,⟨ry113,τ115⟩⟩:=g1
 obtain ⟨hh,hy114,hle116⟩:=hg1
 try dsimp only at hy114
 dsimp only at hle116
 replace f1_3:=f1_3.mono hle116
 try dsimp only
 obtain ⟨z1,hh,hR1⟩:=iter_e hh
 dsimp only [Ah_]at hh
 skip
 refine TC.a (TL.w z (OpVal.lss z z z) (TL.en (TC.seq (TC.cD z hh (fun h117 hh=> ?_) (fun h117 hh=> ?_)))))
 ·refine TC.skip (S.n (TC.seq (TC.block (TC.a (TL.i z z (TL.w z (indexN z underlying99 sz55 z z f1_3.rv.sl (by omega)) (TL.w z (loadSA BSet.zero z ag55 sz55 z f1_3 (by omega) (by omega)) (TL.op z (OpOk.alloc z ze55 z z (fun b118=> ?_))))))))))
  refine TL.i z z (TL.op z (storeAll z sz55 z z z z z z ?_))
  refine TL.en (TC.a (TL.w z (OpVal.mv (.inl z)) (TL.i z z (TL.w z (loadAll z ag55 sz55 z (i:=0) z z) ?_))))
  obtain ⟨v14,u14,hh⟩:=bnd_e hh
  refine TL.front 2 z z (TL.op z (callY hY hy114 u14 z z z z z z ?_))
  rintro τ120 ry120 hle120 hy120
  refine TL.w z (OpVal.not z z) (TL.en (TC.cB z hh (fun h121 hh=> ?_) (fun h121 hh=> ?_)))
  ·refine TC.ofSub (Sub.f [2,1] 2) (TC.ret (B.r (S.r (S.r ?_))))
   replace hh:=fin_x hR1 hh
   refine B.r ?_
   obtain rfl:=so hh
   refine ⟨_,Sub.f [1,1] 2,?_⟩
   exact ro [ry120,Res.cells b1_0 #[.slice a1_1 x1.length c1_2] Eb1] z RVs.nil ⟨_,_,z,hy120,z⟩
  refine TC.skip (B.n (S.n (TC.region (TL.w z (OpVal.succ z z z (by omega)) (TL.i z z (TL.en ?_))))))
  obtain ⟨hh,hlt122⟩:=nxt_x hR1 hh
  exact lf (((k111+1),v14.1),(ry120,τ120)) hlt122 ⟨hh,hy120,(hle116.trans hle120)⟩ (Sub.f [2] 2)
 refine TC.exit (S.x (S.x ?_))
 replace hh:=fin_x hR1 hh
 refine TC.exitHere ?_
 obtain rfl:=so hh
 refine ⟨_,Sub.f [1] 2,?_⟩
 exact RetOk.mk' (rs:=[]) [ry113,Res.cells b1_0 #[.slice a1_1 x1.length c1_2] Eb1] z (.inr z) RVs.nil (List.sublist_append_left _ _) ⟨_,_,z,hy114,z⟩
def B3_(x0:List BSet):Option ((List BSet)):=
 some x0
theorem Fe_{x0:List BSet}(f0_0:RS σ 4 encSet (.slice a0_0 x0.length c0_0) x0){r:(List BSet)}(hh:B3_ x0=some r):
  Con Tryz.prog 46 #[.slice a0_0 x0.length c0_0] σ [] (fun v σ' H'=> ∃br4 ar1 cr2,v= .func (.func 83) #[] #[loc br4 0]∧RS σ' 4 encSet (.slice ar1 r.length cr2) r∧H'=[Res.cells br4 #[.slice ar1 r.length cr2] 99]):=by
 dsimp only [B3_]at hh
 have f0_0b:=f0_0.rv.big
 refine Con.mk (n:=4) Tryz.func46 z z z (fun w0=> ?_)
 refine TC.a (TL.op z (OpOk.box z z z z (fun b103=> ?_)))
 refine TL.w z (OpVal.mv (.inr z)) (TL.en (TC.a (TL.w z (makeFn z) (TL.w z (moveFn (.inr z) z) (TL.en (TC.ret ?_))))))
 obtain rfl:=so hh
 exact ro [Res.cells b103 #[.slice a0_0 x0.length c0_0] 99] z (RVs.tmp z RVs.nil) ⟨b103,a0_0,c0_0,z,f0_0,z⟩
end Go.Proofs.YtamgjehhjkgelaaGreatDoor
end

noncomputable section
namespace Go.E
open Go
structure Tip where
  state:Int
  out:List UInt8
  deriving DecidableEq
def Tip.zero:Tip:=⟨0,[]⟩
def encTip(x:Tip):List Value:=[.int .i64 x.state,.string (bs x.out)]
theorem encTip_len(x:Tip):(encTip x).length=2:=rfl
theorem encTip_one: ∀x, ∀u∈encTip x,u.oneCell'=true:=fun x u hu=>by
  simp [encTip]at hu
  rcases hu with rfl|rfl<;>rfl
theorem encTip_bits: ∀x, ∀u∈encTip x,Bits u:=fun x u hu=>by
  simp [encTip]at hu
  rcases hu with rfl|rfl<;>first|exact Bits.int _ _|exact Bits.str _|exact Bits.bool _
structure Arc where
  frm:Int
  to:Int
  set:BSet
  out:List UInt8
  copy:Bool
  deriving DecidableEq
def Arc.zero:Arc:=⟨0,0,BSet.zero,[],false⟩
def encArc(x:Arc):List Value:=[.int .i64 x.frm,.int .i64 x.to,.int .u64 ((x.set.a:Nat):Int),.int .u64 ((x.set.b:Nat):Int),.int .u64 ((x.set.c:Nat):Int),.int .u64 ((x.set.d:Nat):Int),.string (bs x.out),.bool x.copy]
theorem encArc_len(x:Arc):(encArc x).length=8:=rfl
theorem encArc_one: ∀x, ∀u∈encArc x,u.oneCell'=true:=fun x u hu=>by
  simp [encArc]at hu
  rcases hu with rfl|rfl|rfl|rfl|rfl|rfl|rfl|rfl<;>rfl
theorem encArc_bits: ∀x, ∀u∈encArc x,Bits u:=fun x u hu=>by
  simp [encArc]at hu
  rcases hu with rfl|rfl|rfl|rfl|rfl|rfl|rfl|rfl<;>first|exact Bits.int _ _|exact Bits.str _|exact Bits.bool _
structure FPair where
  state:Int
  out:List UInt8
  deriving DecidableEq
def FPair.zero:FPair:=⟨0,[]⟩
def encFPair(x:FPair):List Value:=[.int .i64 x.state,.string (bs x.out)]
theorem encFPair_bits: ∀x, ∀u∈encFPair x,Bits u:=fun x u hu=>by
  simp [encFPair]at hu
  rcases hu with rfl|rfl<;>first|exact Bits.int _ _|exact Bits.str _|exact Bits.bool _
structure Span where
  frm:Int
  to:Int
  deriving DecidableEq
def Span.zero:Span:=⟨0,0⟩
structure Fst where
  states:Int
  starts:List Tip
  ends:List Tip
  arcs:List Arc
  deriving DecidableEq
def Fst.zero:Fst:=⟨0,[],[],[]⟩
end Go.E
end

noncomputable section
namespace Go.Proofs.YtamgjehhjkgelaaGreatDoor
open Go Go.E Go.E.OpVal Go.E.OpOk Go.Proofs.Tryz
theorem ag22:aggOf Tryz.prog 22=some false:=by kernel_rfl
theorem ag23:aggOf Tryz.prog 23=some false:=by kernel_rfl
theorem ag4:aggOf Tryz.prog 4=some false:=by kernel_rfl
theorem ag43:aggOf Tryz.prog 43=some true:=by kernel_rfl
theorem ag66:aggOf Tryz.prog 66=some true:=by kernel_rfl
theorem ag9:aggOf Tryz.prog 9=some false:=by kernel_rfl
theorem fo25_0:foOf Tryz.prog 25 0=some 0:=by kernel_rfl
theorem fo25_1:foOf Tryz.prog 25 1=some 1:=by kernel_rfl
theorem fo25_2:foOf Tryz.prog 25 2=some 2:=by kernel_rfl
theorem fo25_3:foOf Tryz.prog 25 3=some 3:=by kernel_rfl
theorem fo43_0:foOf Tryz.prog 43 0=some 0:=by kernel_rfl
theorem fo43_1:foOf Tryz.prog 43 1=some 1:=by kernel_rfl
theorem fo66_0:foOf Tryz.prog 66 0=some 0:=by kernel_rfl
theorem fo66_1:foOf Tryz.prog 66 1=some 1:=by kernel_rfl
theorem fo66_2:foOf Tryz.prog 66 2=some 2:=by kernel_rfl
theorem fo66_3:foOf Tryz.prog 66 3=some 6:=by kernel_rfl
theorem fo66_4:foOf Tryz.prog 66 4=some 7:=by kernel_rfl
theorem fo84_0:foOf Tryz.prog 84 0=some 0:=by kernel_rfl
theorem fo84_1:foOf Tryz.prog 84 1=some 1:=by kernel_rfl
theorem es84(x y:FPair):Go.E.EqAt Tryz.prog 2 84 (.agg (Go.E.encFPair x).toArray) (.agg (Go.E.encFPair y).toArray) (decide (x=y)):=
 (EqAt.struct (ts:=[(false,3,0),(false,9,1)]) (by kernel_rfl) (by kernel_rfl) (by kernel_rfl) (EqC.one (by kernel_rfl) rfl rfl (EqAt.int underlying3 x.state y.state) (EqC.one (by kernel_rfl) rfl rfl (EqAt.str underlying9 x.out y.out) EqC.nil))).of (by rw [Bool.eq_iff_iff];cases x;cases y;simp)
theorem kl84:Go.E.KeyL Tryz.prog 84 (fun x=>Value.agg (Go.E.encFPair x).toArray):=
 KeyL.struct underlying84 es84 rfl (fun x=>CkAt.struct (n:=1) (ts:=[(false,3,0),(false,9,1)]) (by kernel_rfl) (by kernel_rfl) (CkC.one (by kernel_rfl) rfl (CkAt.int underlying3 _) (CkC.one (by kernel_rfl) rfl (CkAt.str underlying9 _) CkC.nil))) rfl encFPair_bits
theorem pf50:plainF Tryz.prog 50=true:=by kernel_rfl
theorem pf51:plainF Tryz.prog 51=true:=by kernel_rfl
theorem pl82:plOf Tryz.prog 82=some #[]:=by kernel_rfl
theorem pl84:plOf Tryz.prog 84=some #[(0,1),(1,1)]:=by kernel_rfl
theorem sz23:szOf Tryz.prog 23=some 1:=by kernel_rfl
theorem sz43:szOf Tryz.prog 43=some 2:=by kernel_rfl
theorem sz66:szOf Tryz.prog 66=some 8:=by kernel_rfl
theorem sz84:szOf Tryz.prog 84=some 2:=by kernel_rfl
theorem ze43:zeroOf Tryz.prog 43=some (.agg #[.int .i64 0,.string ByteArray.empty]):=by kernel_rfl
theorem ze66:zeroOf Tryz.prog 66=some (.agg #[.int .i64 0,.int .i64 0,.int .u64 0,.int .u64 0,.int .u64 0,.int .u64 0,.string ByteArray.empty,.bool false]):=by kernel_rfl
theorem ze82:zeroOf Tryz.prog 82=some (.agg #[]):=by kernel_rfl
theorem ze84:zeroOf Tryz.prog 84=some (.agg #[.int .i64 0,.string ByteArray.empty]):=by kernel_rfl
def B1_(x0:Int)(x1:Int):Option (Bool):=
 iteO (decide (0≤x0)) (some (decide (x0<x1))) (some false)
theorem Ep_{x0:Int}{x1:Int}{r:Bool}(hh:B1_ x0 x1=some r):
  Con Tryz.prog 51 #[.int .i64 x0,.int .i64 x1] σ [] (PureP (.bool r) σ):=by
 dsimp only [B1_]at hh
 refine Con.mk (n:=12) Tryz.func51 z z z (fun w0=> ?_)
 refine TC.a (TL.j z z (TL.en (TC.a (TL.i z z (TL.w z (OpVal.leq z z z) (TL.j z z (TL.split 7 z (fun h101=> ?_) (fun h101=> ?_))))))))
 ·replace hh:=iteO_t h101 hh
  replace h101:=of_decide_eq_true h101
  refine TL.g z (moveI (.inl z) z) (TL.g z (moveI (.inl z) z) (TL.g z (OpVal.lss z z z) (TL.w z (pickTB z z z) (TL.j z z (TL.en (TC.ret ?_))))))
  obtain rfl:=so hh
  exact rq [4] ⟨z,z,z⟩
 replace hh:=iteO_f h101 hh
 replace h101:=of_decide_eq_false h101
 refine TL.f z (TL.f z (TL.f z (TL.w z (pickFB z z z) (TL.j z z (TL.en (TC.ret ?_))))))
 obtain rfl:=so hh
 exact rq [4] ⟨z,z,z⟩
def Al_(x0:List Tip)(x1:Int)(k104:Nat):Option ((Nat)⊕(Bool)):=
 iteO (decide (((k104:Nat):Int)<((x0.length:Nat):Int))) (bnd (B1_ ((nth x0 k104 Tip.zero).state) x1) (fun v17=>iteO (!v17) (fin (some false)) (iteO (decide (1024<((((nth x0 k104 Tip.zero).out).length:Nat):Int))) (fin (some false)) (nxt (k104+1))))) (fin (some true))
def A3_(x0:List Tip)(x1:Int):Option (Bool):=
 iteO (decide (1024<((x0.length:Nat):Int))) (some false) (iter (fun q:Nat=>Al_ x0 x1 q) 0)
theorem E2_{x0:List Tip}{x1:Int}(f0_0:RS σ 2 encTip (.slice a0_0 x0.length c0_0) x0){r:Bool}(hh:A3_ x0 x1=some r):
  Con Tryz.prog 50 #[.slice a0_0 x0.length c0_0,.int .i64 x1] σ [] (PureP (.bool r) σ):=by
 dsimp only [A3_]at hh
 have f0_0b:=f0_0.rv.big
 refine Con.mk (n:=28) Tryz.func50 z z z (fun w0=> ?_)
 refine TC.a (TL.j z z (TL.en (TC.seq (TC.a (TL.s z z (TL.w z (lenC z underlying22 z) (TL.w z (OpVal.gtr z z z) (TL.en (TC.cD z hh (fun h101 hh=> ?_) (fun h101 hh=> ?_))))))))))
 ·refine TC.a (TL.j z z (TL.en (TC.ret (S.r ?_))))
  obtain rfl:=so hh
  exact rq [4] ⟨z,z,z⟩
 refine TC.skip (S.n (TC.seq (TC.a (TL.s z z (TL.w z (lenC z underlying22 z) (TL.i z z (TL.en (TC.block (TC.loopG (α:=(Nat)×(Unit)) (rgs [(4,1),(6,1),(12,16)]) (fun g=>[(12,.int .i64 ((g.1:Nat):Int))]) (fun g=>[]) (fun g=>σ) (fun g=>iter (fun q:Nat=>Al_ x0 x1 q) g.1=some r) (fun g=>rounds (fun q:Nat=>Al_ x0 x1 q) g.1) (0,()) (Sub.pre 0 z) z (by repeat (first|exact trivial|refine ⟨z,?_⟩)) hh (fun g1 j1 hg1=> ?_))))))))))
 obtain ⟨k104,_⟩:=g1
 have hh:=hg1;clear hg1
 try dsimp only
 obtain ⟨z1,hh,hR1⟩:=iter_e hh
 dsimp only [Al_]at hh
 refine TC.a (TL.w z (OpVal.lss z z z) (TL.en (TC.seq (TC.cD z hh (fun h105 hh=> ?_) (fun h105 hh=> ?_)))))
 ·refine TC.skip (S.n (TC.seq (TC.block (TC.a (TL.w z (indexN z underlying22 sz43 z z f0_0.rv.sl (by omega)) (TL.w z (loadSA Tip.zero z ag43 sz43 z f0_0 (by omega) (by omega)) (TL.op z (OpOk.alloc z ze43 z z (fun b106=> ?_)))))))))
  refine TL.op z (storeAll z sz43 z z z z z z ?_)
  refine TL.en (TC.a (TL.w z (fieldLoc z fo43_0 z) (TL.w z (loadLoc z ag3 z (i:=0) z z) (TL.i z z ?_))))
  obtain ⟨v17,u17,hh⟩:=bnd_e hh
  refine TL.op z (callP (Ep_ u17) z z pf51 z z z ?_)
  refine TL.w z (OpVal.not z z) (TL.j z z (TL.split 21 z (fun h108=> ?_) (fun h108=> ?_)))
  ·replace hh:=iteO_t h108 hh
   refine TL.f z (TL.f z (TL.f z (TL.f z (TL.w z (pickTB z z z) (TL.en (TC.t z (TC.a (TL.j z z (TL.en (TC.rt 0 (B.r (S.r (S.r ?_)))))))))))))
   replace hh:=fin_x hR1 hh
   refine B.r (S.r ?_)
   obtain rfl:=so hh
   exact rq [4] ⟨z,z,z⟩
  replace hh:=iteO_f h108 hh
  refine TL.g z (fieldLoc z fo43_1 z) (TL.g z (loadLoc z ag9 z (i:=0) z z) (TL.g z (lenBs z underlying9 z) (TL.g z (OpVal.gtr z z z) (TL.w z (pickFB z z z) (TL.en (TC.cD z hh (fun h109 hh=> ?_) (fun h109 hh=> ?_)))))))
  ·refine TC.a (TL.j z z (TL.en (TC.rt 0 (B.r (S.r (S.r ?_))))))
   replace hh:=fin_x hR1 hh
   refine B.r (S.r ?_)
   obtain rfl:=so hh
   exact rq [4] ⟨z,z,z⟩
  refine TC.skip (B.n (S.n (TC.region (TL.w z (OpVal.succ z z z (by omega)) (TL.i z z (TL.en ?_))))))
  obtain ⟨hh,hlt110⟩:=nxt_x hR1 hh
  exact lf ((k104+1),()) hlt110 hh (Sub.pre 0 z)
 refine TC.exit (S.x (S.x ?_))
 replace hh:=fin_x hR1 hh
 refine TC.exitHere (S.n (TC.a (TL.j z z (TL.en (TC.ret ?_)))))
 obtain rfl:=so hh
 exact rq [4] ⟨z,z,z⟩
def A1_(x0:Fst)(k110:Nat):Option ((Nat)⊕(Int)):=
 iteO (decide (((k110:Nat):Int)<((x0.arcs.length:Nat):Int))) (bnd (B1_ ((nth x0.arcs k110 Arc.zero).frm) x0.states) (fun v46=>iteO (!v46) (fin (some 1)) (bnd (B1_ ((nth x0.arcs k110 Arc.zero).to) x0.states) (fun v53=>iteO (!v53) (fin (some 1)) (iteO (decide ((nth x0.arcs k110 Arc.zero).set=BSet.zero)) (fin (some 1)) (iteO (decide (1024<((((nth x0.arcs k110 Arc.zero).out).length:Nat):Int))) (fin (some 1)) (nxt (k110+1)))))))) (fin (some 0))
def Be_(x0:Fst):Option (Int):=
 iteO (decide (x0.states<0)) (some 1) (iteO (decide (1024<x0.states)) (some 1) (iteO (decide (16384<((x0.arcs.length:Nat):Int))) (some 1) (bnd (A3_ x0.starts x0.states) (fun v22=>iteO (!v22) (some 1) (bnd (A3_ x0.ends x0.states) (fun v29=>iteO (!v29) (some 1) (iter (fun q:Nat=>A1_ x0 q) 0)))))))
theorem Di_{x0:Fst}(f0_0:RS σ 2 encTip (.slice a0_0 x0.starts.length c0_0) x0.starts)(f0_1:RS σ 2 encTip (.slice a0_1 x0.ends.length c0_1) x0.ends)(f0_2:RS σ 8 encArc (.slice a0_2 x0.arcs.length c0_2) x0.arcs){r:Int}(hh:Be_ x0=some r):
  Con Tryz.prog 21 #[.agg #[.int .i64 x0.states,.slice a0_0 x0.starts.length c0_0,.slice a0_1 x0.ends.length c0_1,.slice a0_2 x0.arcs.length c0_2]] σ [] (PureP (.int .i64 r) σ):=by
 dsimp only [Be_]at hh
 have f0_0b:=f0_0.rv.big
 have f0_1b:=f0_1.rv.big
 have f0_2b:=f0_2.rv.big
 refine Con.mk (n:=67) Tryz.func21 z z z (fun w0=> ?_)
 refine TC.a (TL.op z (boxA z z z z (fun b101=> ?_)))
 refine TL.i z z (TL.en (TC.seq (TC.a (TL.w z (fieldLoc z fo25_0 z) (TL.w z (loadLoc z ag3 z (i:=0) z z) (TL.w z (OpVal.lss z z z) (TL.j z z (TL.split 8 z (fun h103=> ?_) (fun h103=> ?_)))))))))
 ·replace hh:=iteO_t h103 hh
  replace h103:=of_decide_eq_true h103
  refine TL.f z (TL.f z (TL.f z (TL.w z (pickTB z z z) (TL.j z z (TL.f z (TL.f z (TL.f z (TL.f z (TL.w z (pickTB z z z) (TL.en (TC.t z (TC.a (TL.i z z (TL.en (TC.rt 0 ?_)))))))))))))))
  refine S.r ?_
  obtain rfl:=so hh
  exact rq [2] ⟨z,z,z⟩
 replace hh:=iteO_f h103 hh
 replace h103:=of_decide_eq_false h103
 refine TL.g z (fieldLoc z fo25_0 z) (TL.g z (loadLoc z ag3 z (i:=0) z z) (TL.g z (OpVal.gtr z z z) (TL.w z (pickFB z z z) (TL.j z z (TL.split 13 z (fun h104=> ?_) (fun h104=> ?_))))))
 ·replace hh:=iteO_t h104 hh
  replace h104:=of_decide_eq_true h104
  refine TL.f z (TL.f z (TL.f z (TL.f z (TL.w z (pickTB z z z) (TL.en (TC.t z (TC.a (TL.i z z (TL.en (TC.rt 0 (S.r ?_)))))))))))
  obtain rfl:=so hh
  exact rq [2] ⟨z,z,z⟩
 replace hh:=iteO_f h104 hh
 replace h104:=of_decide_eq_false h104
 refine TL.g z (fieldLoc z fo25_3 z) (TL.g z (loadLoc z ag23 z (i:=0) z z) (TL.g z (lenC z underlying23 z) (TL.g z (OpVal.gtr z z z) (TL.w z (pickFB z z z) (TL.en (TC.cD z hh (fun h105 hh=> ?_) (fun h105 hh=> ?_)))))))
 ·refine TC.a (TL.i z z (TL.en (TC.rt 0 (S.r ?_))))
  obtain rfl:=so hh
  exact rq [2] ⟨z,z,z⟩
 refine TC.skip (S.n (TC.seq (TC.a (TL.w z (fieldLoc z fo25_1 z) (TL.w z (loadLoc z ag22 z (i:=0) z z) (TL.w z (fieldLoc z fo25_0 z) (TL.w z (loadLoc z ag3 z (i:=0) z z) ?_)))))))
 obtain ⟨v22,u22,hh⟩:=bnd_e hh
 refine TL.op z (callP (E2_ f0_0 u22) z z pf50 z z z ?_)
 refine TL.w z (OpVal.not z z) (TL.j z z (TL.split 25 z (fun h106=> ?_) (fun h106=> ?_)))
 ·replace hh:=iteO_t h106 hh
  refine TL.f z (TL.f z (TL.f z (TL.f z (TL.f z (TL.f z (TL.w z (pickTB z z z) (TL.en (TC.t z (TC.a (TL.i z z (TL.en (TC.rt 0 (S.r ?_)))))))))))))
  obtain rfl:=so hh
  exact rq [2] ⟨z,z,z⟩
 replace hh:=iteO_f h106 hh
 refine TL.g z (fieldLoc z fo25_2 z) (TL.g z (loadLoc z ag22 z (i:=0) z z) (TL.g z (fieldLoc z fo25_0 z) (TL.g z (loadLoc z ag3 z (i:=0) z z) ?_)))
 obtain ⟨v29,u29,hh⟩:=bnd_e hh
 refine TL.gon z z z z z (callP (E2_ f0_1 u29) z z pf50 z z z ?_)
 refine TL.g z (OpVal.not z z) (TL.w z (pickFB z z z) (TL.en (TC.cB z hh (fun h107 hh=> ?_) (fun h107 hh=> ?_))))
 ·refine TC.a (TL.i z z (TL.en (TC.rt 0 (S.r ?_))))
  obtain rfl:=so hh
  exact rq [2] ⟨z,z,z⟩
 refine TC.skip (S.n (TC.seq (TC.a (TL.w z (fieldLoc z fo25_3 z) (TL.w z (loadLoc z ag23 z (i:=0) z z) (TL.w z (lenC z underlying23 z) (TL.i z z (TL.en (TC.block (TC.loopG (α:=(Nat)×(Unit)) (rgs [(2,1),(4,1),(36,31)]) (fun g=>[(36,.int .i64 ((g.1:Nat):Int))]) (fun g=>[Res.cells b101 #[.int .i64 x0.states,.slice a0_0 x0.starts.length c0_0,.slice a0_1 x0.ends.length c0_1,.slice a0_2 x0.arcs.length c0_2] 25]) (fun g=>σ) (fun g=>iter (fun q:Nat=>A1_ x0 q) g.1=some r) (fun g=>rounds (fun q:Nat=>A1_ x0 q) g.1) (0,()) (Sub.pre 1 z) z (by repeat (first|exact trivial|refine ⟨z,?_⟩)) hh (fun g1 j1 hg1=> ?_)))))))))))
 obtain ⟨k110,_⟩:=g1
 have hh:=hg1;clear hg1
 try dsimp only
 obtain ⟨z1,hh,hR1⟩:=iter_e hh
 dsimp only [A1_]at hh
 refine TC.a (TL.w z (OpVal.lss z z z) (TL.en (TC.seq (TC.cD z hh (fun h111 hh=> ?_) (fun h111 hh=> ?_)))))
 ·refine TC.skip (S.n (TC.seq (TC.block (TC.a (TL.w z (indexN z underlying23 sz66 z z f0_2.rv.sl (by omega)) (TL.w z (loadSA Arc.zero z ag66 sz66 z f0_2 (by omega) (by omega)) (TL.op z (OpOk.alloc z ze66 z z (fun b112=> ?_)))))))))
  refine TL.op z (storeAll z sz66 z z z z z z ?_)
  refine TL.en (TC.a (TL.w z (fieldLoc z fo66_0 z) (TL.w z (loadLoc z ag3 z (i:=0) z z) (TL.w z (fieldLoc z fo25_0 z) (TL.w z (loadLoc z ag3 z (i:=1) z z) ?_)))))
  obtain ⟨v46,u46,hh⟩:=bnd_e hh
  refine TL.op z (callP (Ep_ u46) z z pf51 z z z ?_)
  refine TL.w z (OpVal.not z z) (TL.j z z (TL.split 46 z (fun h114=> ?_) (fun h114=> ?_)))
  ·replace hh:=iteO_t h114 hh
   refine TL.f z (TL.f z (TL.f z (TL.f z (TL.f z (TL.f z (TL.w z (pickTB z z z) (TL.j z z (TL.f z (TL.f z (TL.f z (TL.f z (TL.w z (pickTB z z z) (TL.j z z (TL.f z (TL.f z ?_)))))))))))))))
   refine TL.f z (TL.f z (TL.w z (pickTB z z z) (TL.en (TC.t z (TC.a (TL.i z z (TL.en (TC.rt 0 (B.r (S.r (S.r ?_)))))))))))
   replace hh:=fin_x hR1 hh
   refine B.r (S.r ?_)
   obtain rfl:=so hh
   exact rq [2] ⟨z,z,z⟩
  replace hh:=iteO_f h114 hh
  refine TL.g z (fieldLoc z fo66_1 z) (TL.g z (loadLoc z ag3 z (i:=0) z z) (TL.g z (fieldLoc z fo25_0 z) (TL.g z (loadLoc z ag3 z (i:=1) z z) ?_)))
  obtain ⟨v53,u53,hh⟩:=bnd_e hh
  refine TL.gon z z z z z (callP (Ep_ u53) z z pf51 z z z ?_)
  refine TL.g z (OpVal.not z z) (TL.w z (pickFB z z z) (TL.j z z (TL.split 54 z (fun h115=> ?_) (fun h115=> ?_))))
  ·replace hh:=iteO_t h115 hh
   refine TL.f z (TL.f z (TL.f z (TL.f z (TL.w z (pickTB z z z) (TL.j z z (TL.f z (TL.f z (TL.f z (TL.f z (TL.w z (pickTB z z z) (TL.en (TC.t z (TC.a (TL.i z z (TL.en ?_)))))))))))))))
   refine TC.rt 0 (B.r (S.r (S.r ?_)))
   replace hh:=fin_x hR1 hh
   refine B.r (S.r ?_)
   obtain rfl:=so hh
   exact rq [2] ⟨z,z,z⟩
  replace hh:=iteO_f h115 hh
  refine TL.g z (fieldLoc z fo66_2 z) (TL.g z (loadLocA z ag55 sz55 z (i:=0) z z z) (TL.g z (buildArrL z underlying55 sz53 ze55 z) (TL.g z (eqlSet (s:=(nth x0.arcs k110 Arc.zero).set) (t:=BSet.zero) z underlying55 underlying53 ag53 sz53 eg55 z z) (TL.w z (pickFB z z z) (TL.j z z (TL.split 60 z (fun h116=> ?_) (fun h116=> ?_)))))))
  ·replace hh:=iteO_t h116 hh
   replace h116:=of_decide_eq_true h116
   refine TL.f z (TL.f z (TL.f z (TL.f z (TL.w z (pickTB z z z) (TL.en (TC.t z (TC.a (TL.i z z (TL.en (TC.rt 0 (B.r (S.r (S.r ?_)))))))))))))
   replace hh:=fin_x hR1 hh
   refine B.r (S.r ?_)
   obtain rfl:=so hh
   exact rq [2] ⟨z,z,z⟩
  replace hh:=iteO_f h116 hh
  replace h116:=of_decide_eq_false h116
  refine TL.g z (fieldLoc z fo66_3 z) (TL.g z (loadLoc z ag9 z (i:=0) z z) (TL.g z (lenBs z underlying9 z) (TL.g z (OpVal.gtr z z z) (TL.w z (pickFB z z z) (TL.en (TC.cD z hh (fun h117 hh=> ?_) (fun h117 hh=> ?_)))))))
  ·refine TC.a (TL.i z z (TL.en (TC.rt 0 (B.r (S.r (S.r ?_))))))
   replace hh:=fin_x hR1 hh
   refine B.r (S.r ?_)
   obtain rfl:=so hh
   exact rq [2] ⟨z,z,z⟩
  refine TC.skip (B.n (S.n (TC.region (TL.w z (OpVal.succ z z z (by omega)) (TL.i z z (TL.en ?_))))))
  obtain ⟨hh,hlt118⟩:=nxt_x hR1 hh
  exact lf ((k110+1),()) hlt118 hh (Sub.f [1] 1)
 refine TC.exit (S.x (S.x ?_))
 replace hh:=fin_x hR1 hh
 refine TC.exitHere (S.n (TC.a (TL.i z z (TL.en (TC.rt 0 ?_)))))
 obtain rfl:=so hh
 exact rq [2] ⟨z,z,z⟩
def Ee_(k128:Nat)(m130:FM FPair Unit):Option (((FM FPair Unit)×Nat)⊕(((FM FPair Unit))⊕((FM FPair Unit)×Bool))):=
 nxt (m130,(k128+1))
def Cr_(m127:FM FPair Unit)(x0:List (List Arc))(v7c:FPair×Unit)(k128:Nat)(s134:List UInt8):Option (((FM FPair Unit)×Nat)⊕(((FM FPair Unit))⊕((FM FPair Unit)×Bool))):=
 iteO (decide (4096<(((m127.put (⟨(nth (nth x0 v7c.1.state.toNat ([]:List Arc)) k128 Arc.zero).to,s134⟩:FPair) ()).n:Nat):Int))) (fin (fin (some ((FM.emp:FM FPair Unit),false)))) (Ee_ k128 (m127.put (⟨(nth (nth x0 v7c.1.state.toNat ([]:List Arc)) k128 Arc.zero).to,s134⟩:FPair) ()))
def Ax_(x0:List (List Arc))(v7c:FPair×Unit)(x2:UInt8)(m127:FM FPair Unit)(k128:Nat):Option (((FM FPair Unit)×Nat)⊕(((FM FPair Unit))⊕((FM FPair Unit)×Bool))):=
 iteO (decide (((k128:Nat):Int)<(((nth x0 v7c.1.state.toNat ([]:List Arc)).length:Nat):Int))) (iteO (!(((nth (nth x0 v7c.1.state.toNat ([]:List Arc)) k128 Arc.zero).set).has x2.toNat)) (Ee_ k128 m127) (grd (v7c.1.out.length+((nth (nth x0 v7c.1.state.toNat ([]:List Arc)) k128 Arc.zero).out).length≤9223372036854775807) (iteO ((nth (nth x0 v7c.1.state.toNat ([]:List Arc)) k128 Arc.zero).copy) (grd ((v7c.1.out++(nth (nth x0 v7c.1.state.toNat ([]:List Arc)) k128 Arc.zero).out).length+[x2].length≤9223372036854775807) (Cr_ m127 x0 v7c k128 ((v7c.1.out++(nth (nth x0 v7c.1.state.toNat ([]:List Arc)) k128 Arc.zero).out)++[x2]))) (Cr_ m127 x0 v7c k128 (v7c.1.out++(nth (nth x0 v7c.1.state.toNat ([]:List Arc)) k128 Arc.zero).out))))) (fin (nxt m127))
def Bk_(x0:List (List Arc))(x2:UInt8)(m114:FM FPair Unit)(oE:Option (FPair×Unit)):Option (((FM FPair Unit))⊕((FM FPair Unit)×Bool)):=
 optE oE (fin (some (m114,true))) (fun v7c=>grd (0≤v7c.1.state∧v7c.1.state<(x0.length:Int)) (iter (fun q:(FM FPair Unit)×Nat=>Ax_ x0 v7c x2 q.1 q.2) (m114,0)))
def E6_(x0:List (List Arc))(x1:FM FPair Unit)(x2:UInt8):Option ((FM FPair Unit)×Bool):=
 allP (fun q=>Rep q x1) (fun q=>runL (fun (q:(FM FPair Unit)) (oE:Option (FPair×Unit))=>Bk_ x0 x2 q oE) q (FM.emp:FM FPair Unit))
theorem G1_{x0:List (List Arc)}{x1:FM FPair Unit}{b1_0:Option Nat}{x2:UInt8}(f0_0:RZ σ (pkSl 8 encArc encArc_len) (.slice a0_0 x0.length c0_0) x0){r:(FM FPair Unit)×Bool}(hh:E6_ x0 x1 x2=some r):
  Con Tryz.prog 30 #[.slice a0_0 x0.length c0_0,.map b1_0,.int .u8 ((x2.toNat:Nat):Int)] σ [Res.mapB (fun x=>Value.agg (encFPair x).toArray) unitV b1_0 x1] (fun v σ' H'=> ∃(br1:Option Nat),v= .tuple #[.map br1,.bool r.2]∧σ=σ'∧H'=[Res.mapB (fun x=>Value.agg (encFPair x).toArray) unitV br1 r.1]):=by
 dsimp only [E6_]at hh
 have f0_0b:=f0_0.big
 refine Con.mk (n:=58) Tryz.func30 z z z (fun w0=> ?_)
 refine TC.a (TL.w z (moveMap (.inr z) z) (TL.j z z (TL.en (TC.a (TL.op z (makeMapB (enc:=(fun x=>Value.agg (encFPair x).toArray)) (encV:=unitV) z z z (fun b103=> ?_)))))))
 refine TL.w z (moveMap (.inr z) z) (TL.en (TC.seq (TC.a (TL.w z (moveMap (.inl z) z) (TL.front 1 z z (TL.op z (rangeB z underlying81 z z z (fun it105 l106 hl107=> ?_))))))))
 refine TL.en (TC.block (TC.loopG (α:=((FM FPair Unit))×((List (FPair×Unit))×(Option (FPair×Unit)))) (rgs [(6,2),(9,1),(11,2),(16,41)]) (fun g=>[]) (fun g=>[Res.mapB (fun x=>Value.agg (encFPair x).toArray) unitV (some b103) g.1,Res.rng (fun x=>Value.agg (encFPair x).toArray) unitV b1_0 it105 x1 g.2.1 g.2.2]) (fun g=>σ) (fun g=>runA (fun (q:(FM FPair Unit)) (oE:Option (FPair×Unit))=>Bk_ x0 x2 q oE) g.2.1 g.1=some r) (fun g=>List.length g.2.1) ((FM.emp:FM FPair Unit),(l106,none)) (Sub.f [1] 2) z (by repeat (first|exact trivial|refine ⟨z,?_⟩)) (runA_of hh hl107) (fun g1 j1 hg1=> ?_)))
 obtain ⟨m114,⟨l115,o116⟩⟩:=g1
 have hh:=hg1;clear hg1
 try dsimp only
 refine TC.a (TL.front 1 z z (TL.op z (nextB (T:=0) z z z z z (fun hl117=> ?_) (fun l118 v7c l119 hl117=> ?_))))
 ·subst hl117
  obtain ⟨z1,hh,hR1⟩:=runA_end hh
  dsimp only [Bk_,optE_none]at hh
  refine TL.by (fun w h=>Reach.unrng h) (TL.w z (OpVal.extract z z z) (TL.en (TC.seq (TC.f z (TC.exit (S.x (S.x ?_)))))))
  replace hh:=finE_x hR1 hh
  refine TC.exitHere (S.n (TC.a (TL.w z (moveMap (.inl z) z) (TL.w z (moveMap (.inr z) z) (TL.j z z (TL.en (TC.ofSub (Sub.f [1] 1) (TC.ret ?_))))))))
  obtain rfl:=so hh
  exact ro [Res.mapB (fun x=>Value.agg (encFPair x).toArray) unitV (some b103) m114] z (RVs.tmp z (RVs.tmp z RVs.nil)) ⟨(some b103),z,z,z⟩
 subst hl117
 obtain ⟨z1,hh,hR1⟩:=runA_step hh
 dsimp only [Bk_,optE_some]at hh
 refine TL.w z (OpVal.extract z z z) (TL.en (TC.seq (TC.t z (TC.skip (S.n (TC.block (TC.a (TL.w z (OpVal.of (entryB z z (i:=0) z) (v':= .tuple #[.agg #[.int .i64 v7c.1.state,.string (bs v7c.1.out)],.agg #[]]) z) (TL.w z (OpVal.extract z z z) (TL.op z (OpOk.alloc z ze84 z z (fun b120=> ?_))))))))))))
 refine TL.op z (storeAll z sz84 z z z z z z ?_)
 refine TL.en (TC.a (TL.s z z (TL.w z (fieldLoc z fo84_0 z) (TL.w z (loadLoc z ag3 z (i:=0) z z) ?_))))
 have u16:=grd_c hh
 replace hh:=grd_t hh
 refine TL.w z (OpVal.index z underlying68 sz23 z z f0_0.isSl u16.1 u16.2) ?_
 obtain ⟨p122,hk122,hg122⟩:=RZ.seg f0_0 v7c.1.state.toNat (by omega)
 replace hk122:RS _ 8 encArc (.slice p122.1 (nth x0 v7c.1.state.toNat ([]:List Arc)).length p122.2) (nth x0 v7c.1.state.toNat ([]:List Arc)):=hk122
 have hk122b:=hk122.rv.big
 refine TL.w z (OpVal.of (loadSeg0 z ag23 z hg122 z) (v':= .slice p122.1 ((nth x0 v7c.1.state.toNat ([]:List Arc)).length) p122.2) z) (TL.w z (lenC z underlying23 z) (TL.i z z (TL.en (TC.block (TC.loopG (α:=((FM FPair Unit)×Nat)×(Unit)) (rgs [(6,2),(11,2),(26,31)]) (fun g=>[(26,.int .i64 ((g.1.2:Nat):Int))]) (fun g=>[Res.mapB (fun x=>Value.agg (encFPair x).toArray) unitV (some b103) g.1.1,Res.cells b120 #[.int .i64 v7c.1.state,.string (bs v7c.1.out)] 84,Res.rng (fun x=>Value.agg (encFPair x).toArray) unitV b1_0 it105 x1 (l118++l119) (some v7c)]) (fun g=>σ) (fun g=>iter (fun q:(FM FPair Unit)×Nat=>Ax_ x0 v7c x2 q.1 q.2) g.1=some z1) (fun g=>rounds (fun q:(FM FPair Unit)×Nat=>Ax_ x0 v7c x2 q.1 q.2) g.1) ((m114,0),()) (Sub.f [1,1,2] 3) z (by repeat (first|exact trivial|refine ⟨z,?_⟩)) hh (fun g2 j2 hg2=> ?_))))))
 obtain ⟨⟨m127,k128⟩,_⟩:=g2
 have hh:=hg2;clear hg2
 try dsimp only
 obtain ⟨z2,hh,hR2⟩:=iter_e hh
 dsimp only [Ax_]at hh
 refine TC.a (TL.w z (OpVal.lss z z z) (TL.en (TC.seq (TC.cD z hh (fun h129 hh=> ?_) (fun h129 hh=> ?_)))))
 ·refine TC.skip (S.n (TC.cutG (α:=((FM FPair Unit))×(Unit)) (rgs [(6,2),(11,2),(28,28)]) (fun g=>[]) (fun g=>[Res.mapB (fun x=>Value.agg (encFPair x).toArray) unitV (some b103) g.1,Res.cells b120 #[.int .i64 v7c.1.state,.string (bs v7c.1.out)] 84,Res.rng (fun x=>Value.agg (encFPair x).toArray) unitV b1_0 it105 x1 (l118++l119) (some v7c)]) (fun g=>σ) (fun g=>Ee_ k128 g.1=some z2) ?_ (fun g j hg=> ?_)))
  ·skip
   refine TC.block (TC.a (TL.w z (indexN z underlying23 sz66 z z hk122.rv.sl (by omega)) (TL.w z (loadSA Arc.zero z ag66 sz66 z hk122 (by omega) (by omega)) (TL.op z (OpOk.alloc z ze66 z z (fun b131=> ?_))))))
   refine TL.op z (storeAll z sz66 z z z z z z ?_)
   refine TL.en (TC.seq (TC.a (TL.w z (fieldLoc z fo66_2 z) (TL.w z (loadLocA z ag55 sz55 z (i:=0) z z z) (TL.i z z (TL.op z (callP (has_con _ ((nth (nth x0 v7c.1.state.toNat ([]:List Arc)) k128 Arc.zero).set) x2.toNat (BSet.isOk _) (UInt8.toNat_lt _)) z z pf62 z z z ?_)))))))
   refine TL.w z (OpVal.not z z) (TL.en (TC.cB z hh (fun h133 hh=> ?_) (fun h133 hh=> ?_)))
   ·exact TC.exit (S.x (TC.exitHere (S.n (cf (m127,()) hh (Sub.f [3,3,3] 3)))))
   refine TC.skip (S.n (TC.a (TL.w z (fieldLoc z fo84_1 z) (TL.w z (loadLoc z ag9 z (i:=2) z z) (TL.w z (fieldLoc z fo66_3 z) (TL.w z (loadLoc z ag9 z (i:=0) z z) ?_))))))
   have u34:=grd_c hh
   replace hh:=grd_t hh
   refine TL.w z (catBs z z z u34) (TL.w z (moveStr (.inr z) z) (TL.en (TC.cutG (α:=((List UInt8))×(Unit)) (rgs [(12,1),(40,7)]) (fun g=>[(12,.string (bs g.1))]) (fun g=>[Res.mapB (fun x=>Value.agg (encFPair x).toArray) unitV (some b103) m127,Res.cells b120 #[.int .i64 v7c.1.state,.string (bs v7c.1.out)] 84,Res.cells b131 #[.int .i64 ((nth (nth x0 v7c.1.state.toNat ([]:List Arc)) k128 Arc.zero).frm),.int .i64 ((nth (nth x0 v7c.1.state.toNat ([]:List Arc)) k128 Arc.zero).to),.int .u64 ((((nth (nth x0 v7c.1.state.toNat ([]:List Arc)) k128 Arc.zero).set).a:Nat):Int),.int .u64 ((((nth (nth x0 v7c.1.state.toNat ([]:List Arc)) k128 Arc.zero).set).b:Nat):Int),.int .u64 ((((nth (nth x0 v7c.1.state.toNat ([]:List Arc)) k128 Arc.zero).set).c:Nat):Int),.int .u64 ((((nth (nth x0 v7c.1.state.toNat ([]:List Arc)) k128 Arc.zero).set).d:Nat):Int),.string (bs ((nth (nth x0 v7c.1.state.toNat ([]:List Arc)) k128 Arc.zero).out)),.bool ((nth (nth x0 v7c.1.state.toNat ([]:List Arc)) k128 Arc.zero).copy)] 66,Res.rng (fun x=>Value.agg (encFPair x).toArray) unitV b1_0 it105 x1 (l118++l119) (some v7c)]) (fun g=>σ) (fun g=>Cr_ m127 x0 v7c k128 g.1=some z2) ?_ (fun g j hg=> ?_))))
   ·skip
    refine TC.a (TL.w z (fieldLoc z fo66_4 z) (TL.w z (loadLoc z ag4 z (i:=0) z z) (TL.en (TC.cB z hh (fun h135 hh=> ?_) (fun h135 hh=> ?_)))))
    ·refine TC.region (TL.w z (moveStr (.inl z) z) (TL.i z z (TL.op z (OpOk.lit (enc:=encU8) [x2] z underlying134 sz5 ze5 z z z encU8_len (by decide) (by decide) (0:UInt8) z (by decide) z (by decide) encU8_one (fun a136 c137=> ?_)))))
     refine TL.isSl (i:=0) z (fun hs139 _ _=> ?_)
     refine TL.w z (bytesStr (l:=[x2]) z underlying134 underlying5 underlying9 z hs139 (fun w hw=>rdb_row (q:=0) z hw)) ?_
     have u42:=grd_c hh
     replace hh:=grd_t hh
     exact TL.w z (catBs z z z u42) (TL.w z (moveStr (.inr z) z) (TL.en (cf (((v7c.1.out++(nth (nth x0 v7c.1.state.toNat ([]:List Arc)) k128 Arc.zero).out)++[x2]),()) hh (Sub.f [4,2,4,4] 4))))
    exact TC.skip (S.n (cf ((v7c.1.out++(nth (nth x0 v7c.1.state.toNat ([]:List Arc)) k128 Arc.zero).out),()) hh (Sub.f [3,1,3,3] 4)))
   skip
   obtain ⟨s134,_⟩:=g
   have hh:=hg;clear hg
   try dsimp only
   dsimp only [Cr_]at hh
   refine TC.a (TL.w z (moveMap (.inl z) z) (TL.w z (fieldLoc z fo66_1 z) (TL.w z (loadLoc z ag3 z (i:=2) z z) (TL.w z (moveStr (.inl z) z) (TL.w z (buildL z pl84 ze84 z) (TL.w z (buildL z pl82 ze82 z) (TL.op z (updB (⟨(nth (nth x0 v7c.1.state.toNat ([]:List Arc)) k128 Arc.zero).to,s134⟩:FPair) () z underlying81 z z z z kl84 ?_))))))))
   refine TL.en (TC.a (TL.w z (moveMap (.inl z) z) (TL.w z (lenB z underlying81 z (i:=0) z) (TL.w z (OpVal.gtr z z z) (TL.en (TC.cD z hh (fun h140 hh=> ?_) (fun h140 hh=> ?_)))))))
   ·refine TC.a (TL.w z (moveMap (.inr z) z) (TL.j z z (TL.en (TC.by (fun w h=>Reach.nilMap (enc:=(fun x=>Value.agg (encFPair x).toArray)) (encV:=unitV) h) (TC.rt 1 (B.r (S.r (S.r ?_))))))))
    replace hh:=fin_x hR2 hh
    refine B.r (B.r (S.r ?_))
    replace hh:=finA_x hR1 hh
    refine B.r (S.r ?_)
    obtain rfl:=so hh
    exact ro [Res.mapB (fun x=>Value.agg (encFPair x).toArray) unitV none (FM.emp:FM FPair Unit)] z (RVs.tmp z (RVs.tmp z RVs.nil)) ⟨none,z,z,z⟩
   exact TC.skip (B.n (S.n (cf ((m127.put (⟨(nth (nth x0 v7c.1.state.toNat ([]:List Arc)) k128 Arc.zero).to,s134⟩:FPair) ()),()) hh (Sub.f [3,2,2] 3))))
  skip
  obtain ⟨m130,_⟩:=g
  have hh:=hg;clear hg
  try dsimp only
  dsimp only [Ee_]at hh
  refine TC.region (TL.w z (OpVal.succ z z z (by omega)) (TL.i z z (TL.en ?_)))
  obtain ⟨hh,hlt142⟩:=nxt_x hR2 hh
  exact lf ((m130,(k128+1)),()) hlt142 hh (Sub.f [2,2,2] 3)
 refine TC.exit (S.x (S.x ?_))
 replace hh:=fin_x hR2 hh
 refine TC.exitHere (B.n (S.n ?_))
 replace hh:=nxtA_x hR1 hh
 exact lf (m127,((l118++l119),(some v7c))) (by simp) hh (Sub.f [2,1] 2)
end Go.Proofs.YtamgjehhjkgelaaGreatDoor
end

noncomputable section
namespace Go.E
open Go
structure Grow where
  f:Fst
  over:Bool
end Go.E
end

noncomputable section
namespace Go.E
open Go
def TB(X:Ctx)(R:Exit→Act→World→Prop)(c:Code)(e:Env)(σ:Store)(H:List Res):Prop:=
  ∀w a,RM X a σ w H→St X.n e a→c.wpIn (fence X.rnd) 0 X.P R a w
def TLB(X:Ctx)(ops:Array Oper)(R:Exit→Act→World→Prop)(l:List Oper)(e:Env)(σ:Store)(H:List Res):Prop:=
  ∀w a,RM X a σ w H→St X.n e a→wpListIn (fence X.rnd) 0 X.P ops R l a w
def endE(w0:World)(C:List Nat)(σ0:Store)(Post:Value→Store→List Res→Prop):Ending→World→Prop:=
  fun e w'=> ∃r σ' H',e= .returned r∧Post r σ' H'∧Reach w0 C σ0 σ' w' H'
def endR(P:Program)(fn:Func)(w0:World)(C:List Nat)(σ0:Store)(Post:Value→Store→List Res→Prop):Exit→Act→World→Prop:=
  bodyPostM (fence none) 0 P fn (endE w0 C σ0 Post)
theorem startSt{args:List Value}{n:Nat}{fn:Func}(hn:fn.ntmps=n)(ha:Nat.ble args.length n=true):St n (argEnv args) {tmps:=args.toArray++Array.replicate (fn.ntmps - args.toArray.size) undef,defers:=[]}:=by
  have:=Nat.le_of_ble_eq_true ha
  refine ⟨?_,fun t=> ?_⟩
  · simp [hn];omega
  simp only [Array.getD_eq_getD_getElem?,Array.getElem?_append,argEnv,List.getElem?_toArray,List.size_toArray,Array.getElem?_replicate]
  split
  · rfl
  rename_i hlt
  rw [List.getElem?_eq_none (by omega)]
  split<;>rfl
theorem MarksOk.start{w0:World}{H:List Res}{w:World}:MarksOk w0 none (some []) [] σ H w:=⟨(fun h=>by cases h),(fun _ h=>by cases h;rfl),fun _ h=>by cases h⟩
theorem Con.mkD{P:Program}{f:FuncId}{fn:Func}{c:Code}{args:List Value}{n:Nat}{H:List Res}{Post:Value→Store→List Res→Prop}
    (hf:P.funcs[f]? =some fn) (hb:fn.body=some c) (hn:fn.ntmps=n) (ha:Nat.ble args.length n=true)
    (h: ∀w0,TB ⟨P,w0,blks H,σ,n,none,some []⟩ (endR P fn w0 (blks H) σ Post) c (argEnv args) σ H):Con P f args.toArray σ H Post:=by
  intro w hw
  exact calls_fence.1 (callsIn_of_wp_marks (F:=fence none) (n:=0) hf hb trivial (h w w _ ⟨hw,MarksOk.start⟩ (startSt hn ha)))
def ConD(P:Program)(f:FuncId)(args:Array Value)(σ:Store)(H:List Res)(Post:Value→Store→List Res→Prop):Prop:=
  ∀w,Reach w (blks H) σ σ w H→CallsDIn (fence none) 0 P f args .returning w fun e u w'=>u= .returning∧ ∃r σ' H',e= .returned r∧Post r σ' H'∧Reach w (blks H) σ σ' w' H'
theorem ConD.mono{P:Program}{f:FuncId}{args:Array Value}{H:List Res}{Post Post':Value→Store→List Res→Prop}
    (h:ConD P f args σ H Post) (hp: ∀r σ' H',σ.le σ'→Post r σ' H'→Post' r σ' H'):ConD P f args σ H Post':=fun w hw=>
  (h w hw).mono fun _ _ _ ⟨h0,r,σ',H',h1,h2,h3⟩=>⟨h0,r,σ',H',h1,hp _ _ _ h3.le h2,h3⟩
theorem ConD.mk{P:Program}{f:FuncId}{fn:Func}{c:Code}{args:List Value}{n:Nat}{H:List Res}{Post:Value→Store→List Res→Prop}
    (hf:P.funcs[f]? =some fn) (hb:fn.body=some c) (hn:fn.ntmps=n) (ha:Nat.ble args.length n=true)
    (h: ∀w0,TC ⟨P,w0,blks H,σ,n,none,some []⟩ (retQ P fn n Post) c (argEnv args) σ H):ConD P f args.toArray σ H Post:=by
  intro w hw
  refine callsDIn_of_wp hf hb trivial (Go.wpIn_mono (h w w _ ⟨hw,MarksOk.start⟩ (startSt hn ha)) ?_)
  rintro ex a w' ⟨e',σ',H',h1,h2,⟨hex,r,H'',h3,h4,h5⟩⟩
  have hd:a.defers=[]:=h2.marks.is _ rfl
  have hfin:a.defers=[]∧ ∃v,(results fn a.tmps).run P w'= .ok v w'∧(∃r σ' H',Ending.returned v= .returned r∧Post r σ' H'∧Reach w (blks H) σ σ' w' H'):=
    ⟨hd,r,h3 w' a h1 h2.holds,r,σ',H'',rfl,h5,h2.toReach.sub h4⟩
  rcases hex with rfl|rfl
  · exact hfin
  exact hfin
section rules
variable {X:Ctx} {ops:Array Oper} {R:Exit→Act→World→Prop} {Q:QP} {e:Env} {σ:Store} {H F:List Res} {o:Oper} {rest:List Oper} {c c1 c2:Code} {fn:Func} {Post:Value→Store→List Res→Prop}
theorem endR_ret{P:Program}{w0:World}{C:List Nat}{σ0:Store}{n:Nat}: ∀ex a w,low ⟨P,w0,C,σ0,n,none,some []⟩ (retQ P fn n Post) ex a w→endR P fn w0 C σ0 Post ex a w:=by
  rintro ex a w ⟨e,σ,H,h1,h2,⟨hex,r,H',h3,h4,h5⟩⟩
  have hd:a.defers=[]:=h2.marks.is _ rfl
  have hfin:LeavesInM (fence none) 0 P fn a.tmps (endE w0 C σ0 Post) a.defers .returning w:=by
    rw [hd];exact ⟨r,h3 w a h1 h2.holds,r,σ,H',rfl,h5,h2.toReach.sub h4⟩
  rcases hex with rfl|rfl
  · exact hfin
  exact hfin
def dfrQ(P:Program)(fn:Func)(n:Nat)(Post:Value→Store→List Res→Prop)(f:FuncId)(args:List Value):QP:=fun ex e σ H=>
  (ex= .ret∨ex= .normal)∧ ∃F,Sub F H∧ConD P f args.toArray σ F fun _ σ' H'=>RetOk P fn n Post .ret e σ' H'
theorem endR_dfr{P:Program}{w0:World}{C:List Nat}{σ0:Store}{n:Nat}{f:FuncId}{cap dargs:List Value}(hp:plainF P f=true):
    ∀ex a w,low ⟨P,w0,C,σ0,n,none,some [⟨.fn (.func f) cap.toArray,dargs.toArray⟩]⟩ (dfrQ P fn n Post f (dargs++cap)) ex a w→endR P fn w0 C σ0 Post ex a w:=by
  rintro ex a w ⟨e,σ,H,h1,h2,hex,F,hs,hcon⟩
  have hd:a.defers=[⟨.fn (.func f) cap.toArray,dargs.toArray⟩]:=h2.marks.is _ rfl
  have h3:Reach w0 C σ0 σ w F:=h2.toReach.ofSub hs
  have hfin:LeavesInM (fence none) 0 P fn a.tmps (endE w0 C σ0 Post) a.defers .returning w:=by
    rw [hd]
    refine ⟨by simp,.inr ⟨(fun h=>by cases h),.func f,cap.toArray,f,(dargs++cap).toArray,rfl,?_,(fun _ _=>trivial),(hcon w h3.self).mono ?_⟩⟩
    · simp [invoke,run_callFunc hp]
    rintro _ _ w' ⟨rfl,r,σ',H',rfl,⟨-,v,H'',h4,h5,h6⟩,h7⟩
    have h8:Reach w0 C σ0 σ' w' H':=by
      have:=(show Reach w0 C σ0 σ w (F++[]) by rwa [List.append_nil]).call h7
      rwa [List.append_nil]at this
    exact ⟨v,h4 w' a h1 h8.holds,v,σ',H'',rfl,h6,h8.sub h5⟩
  rcases hex with rfl|rfl
  · exact hfin
  exact hfin
theorem TB.seq(hR: ∀ex a w,low X Q ex a w→R ex a w)(h:TC X (seqQ (TB X R c2) Q) c1 e σ H):TB X R (.seq c1 c2) e σ H:=fun w a hw ha=>
  Go.wpIn_seq (Go.wpIn_mono (h w a hw ha) fun ex a' w' ⟨e',σ',H',h1,h2,h3⟩=>by
    cases ex
    case normal=>exact h3 w' a' h2 h1
    all_goals exact hR _ _ _ ⟨e',σ',H',h1,h2,h3⟩)
theorem TB.fin(hR: ∀ex a w,low X Q ex a w→R ex a w)(h:TC X Q c e σ H):TB X R c e σ H:=fun w a hw ha=>Go.wpIn_mono (h w a hw ha) (hR)
theorem TLB.v{v:Value}{d:Nat}(hg:o.guard=none)(h:OpVal X.P X.n o e σ H v)(hd:o.dst=some d)(hn:Nat.blt d X.n=true)(k:TLB X ops R rest (upd e d v) σ H):TLB X ops R (o::rest) e σ H:=fun w a hw ha=>
  wpListIn_plain hg fun K hK=>(OpVal.ok h hd hn (K:=fun e' σ' H'=>TLB X ops R rest e' σ' H') k).at hw ha fun e' σ' H' a' w' hk hw' ha'=>hK a' w' (hk w' a' hw' ha')
theorem TLB.dfr{P:Program}{w0:World}{C:List Nat}{σ0:Store}{n:Nat}{f:FuncId}{cap first:Array Value}{x:Operand}{opds:Array Operand}{ts:Array TypeId}{dargs:List Value}
    (hg:o.guard=none) (hop:o.op= .defer {callee:= .value x,args:=opds,argTypes:=ts}) (hx:ev e x= .func (.func f) first cap) (hd:o.dst=none) (ha:first.toList++opds.toList.map (ev e)=dargs)
    (hK: ∀a w,RM ⟨P,w0,C,σ0,n,none,some [⟨.fn (.func f) cap,dargs.toArray⟩]⟩ a σ w H→St n e a→R .normal a w):
    TLB ⟨P,w0,C,σ0,n,none,some []⟩ ops R [o] e σ H:=fun w a hw hst=>by
  have ha':first++opds.map (ev e)=dargs.toArray:=by apply Array.ext';rw [←ha];simp
  refine wpListIn_plain hg fun K hK'=>⟨(fun _ _=>trivial),?_⟩
  have hs:(o.semAt (fence none).round a.eval).run P w= .ok (.defer ⟨.fn (.func f) cap,dargs.toArray⟩) w:=by
    rw [hst.eval',←ha']
    simp [Oper.semAt,execOp,hop,resolve,hx,Deferred.ofValue]
  show Oper.uponIn _ _ _ _ _ _ _ ((o.semAt (fence none).round a.eval).run P w)
  rw [hs,Oper.uponIn_defer,hd]
  have h0:a.defers=[]:=hw.marks.is _ rfl
  refine hK' _ _ (hK _ _ ⟨?_,⟨(fun h=>by cases h),(fun l h=> ?_),fun _ h=>by cases h⟩⟩ ⟨hst.size,hst.get⟩)
  · exact hw.toReach
  cases h;show _::a.defers=_;rw [h0]
theorem TB.seqD{id:Nat}{l:List Oper}(h:TLB X l.toArray (fun ex a w=>match ex with| .normal=>c2.wpIn (fence X.rnd) 0 X.P R a w|ex=>R ex a w) l e σ H):TB X R (.seq (.region id l.toArray false) c2) e σ H:=fun w a hw ha=>
  Go.wpIn_seq (Go.wpIn_mono (wpIn_region_lit (h w a hw ha)) fun ex a' w' hq=>by cases ex<;>exact hq)
end rules
end Go.E
end

noncomputable section
namespace Go.Proofs.YtamgjehhjkgelaaGreatDoor
open Go Go.E Go.E.OpVal Go.E.OpOk Go.Proofs.Tryz
theorem ag25:aggOf Tryz.prog 25=some true:=by kernel_rfl
theorem by43:byOf Tryz.prog 43=some 24:=by kernel_rfl
theorem by66:byOf Tryz.prog 66=some 72:=by kernel_rfl
theorem fo163_0:foOf Tryz.prog 163 0=some 0:=by kernel_rfl
theorem fo163_1:foOf Tryz.prog 163 1=some 4:=by kernel_rfl
theorem pl25:plOf Tryz.prog 25=some #[(0,1),(1,1),(2,1),(3,1)]:=by kernel_rfl
theorem sz22:szOf Tryz.prog 22=some 1:=by kernel_rfl
theorem sz25:szOf Tryz.prog 25=some 4:=by kernel_rfl
theorem sz27:szOf Tryz.prog 27=some 1:=by kernel_rfl
theorem sz4:szOf Tryz.prog 4=some 1:=by kernel_rfl
theorem ze25:zeroOf Tryz.prog 25=some (.agg #[.int .i64 0,.slice none 0 0,.slice none 0 0,.slice none 0 0]):=by kernel_rfl
def B7_(x0:Grow)(x1:Tip):Option (Grow):=
 iteO x0.over (some (⟨(⟨x0.f.states,x0.f.starts,x0.f.ends,x0.f.arcs⟩:Fst),true⟩:Grow)) (iteO (decide (1024≤((x0.f.starts.length:Nat):Int))) (some (⟨(⟨x0.f.states,x0.f.starts,x0.f.ends,x0.f.arcs⟩:Fst),true⟩:Grow)) (iteO (decide (1024<((x1.out.length:Nat):Int))) (some (⟨(⟨x0.f.states,x0.f.starts,x0.f.ends,x0.f.arcs⟩:Fst),true⟩:Grow)) (grd ((x0.f.starts.length+[x1].length) * 24≤140737488355328) (some (⟨(⟨x0.f.states,(x0.f.starts++[x1]),x0.f.ends,x0.f.arcs⟩:Fst),x0.over⟩:Grow)))))
theorem Ge_{x0:Grow}{x1:Tip}{r:Grow}(hh:B7_ x0 x1=some r):
  Con Tryz.prog 87 #[loc b0_0 0,.agg #[.int .i64 x1.state,.string (bs x1.out)]] σ [Res.cells b0_0 #[.int .i64 x0.f.states,.slice a0_1 x0.f.starts.length c0_2,.slice a0_3 x0.f.ends.length c0_4,.slice a0_5 x0.f.arcs.length c0_6,.bool x0.over] Eb0,Res.rowS 43 2 encTip (.slice a0_1 x0.f.starts.length c0_2) x0.f.starts,Res.rowS 43 2 encTip (.slice a0_3 x0.f.ends.length c0_4) x0.f.ends,Res.rowS 66 8 encArc (.slice a0_5 x0.f.arcs.length c0_6) x0.f.arcs] (fun v σ' H'=> ∃ao1 co2 ao3 co4 ao5 co6,v= .tuple #[]∧σ=σ'∧H'=[Res.cells b0_0 #[.int .i64 r.f.states,.slice ao1 r.f.starts.length co2,.slice ao3 r.f.ends.length co4,.slice ao5 r.f.arcs.length co6,.bool r.over] Eb0,Res.rowS 43 2 encTip (.slice ao1 r.f.starts.length co2) r.f.starts,Res.rowS 43 2 encTip (.slice ao3 r.f.ends.length co4) r.f.ends,Res.rowS 66 8 encArc (.slice ao5 r.f.arcs.length co6) r.f.arcs]):=by
 dsimp only [B7_]at hh
 refine Con.mk (n:=38) Tryz.func87 z z z (fun w0=> ?_)
 refine TC.weakR (TC.a (TL.op z (boxA z z z z (fun b108=> ?_))))
 refine TL.en (TC.seq (TC.a (TL.l z z (TL.w z (nilCheckLoc z z) (TL.w z (fieldLoc z fo163_1 z) (TL.w z (loadLoc z ag4 z (i:=1) z z) (TL.j z z (TL.split 8 z (fun h110=> ?_) (fun h110=> ?_)))))))))
 ·replace hh:=iteO_t h110 hh
  refine TL.f z (TL.f z (TL.f z (TL.f z (TL.f z (TL.f z (TL.f z (TL.w z (pickTB z z z) (TL.j z z (TL.f z (TL.f z (TL.f z (TL.f z (TL.w z (pickTB z z z) (TL.en (TC.t z ?_)))))))))))))))
  refine TC.a (TL.l z z (TL.w z (nilCheckLoc z z) (TL.w z (fieldLoc z fo163_1 z) (TL.front 1 z z (TL.op z (storeB z sz4 z z z z z ?_))))))
  refine TL.en (TC.ofSub (Sub.f [4,4,4,3] 4) (TC.ret (S.r ?_)))
  obtain rfl:=so hh
  refine ⟨_,Sub.f [3,3,3,3] 4,?_⟩
  exact ro [Res.cells b0_0 #[.int .i64 x0.f.states,.slice a0_1 x0.f.starts.length c0_2,.slice a0_3 x0.f.ends.length c0_4,.slice a0_5 x0.f.arcs.length c0_6,.bool true] Eb0,Res.rowS 43 2 encTip (.slice a0_1 x0.f.starts.length c0_2) x0.f.starts,Res.rowS 43 2 encTip (.slice a0_3 x0.f.ends.length c0_4) x0.f.ends,Res.rowS 66 8 encArc (.slice a0_5 x0.f.arcs.length c0_6) x0.f.arcs] z RVs.nil ⟨a0_1,c0_2,a0_3,c0_4,a0_5,c0_6,z,z,z⟩
 replace hh:=iteO_f h110 hh
 refine TL.g z (moveLoc (.inl z) z) (TL.g z (nilCheckLoc z z) (TL.g z (fieldLoc z fo163_0 z) (TL.g z (fieldLoc z fo25_1 z) (TL.g z (loadLoc z ag22 z (i:=1) z z) (TL.g z (lenC z underlying22 z) (TL.g z (OpVal.geq z z z) (TL.w z (pickFB z z z) (TL.j z z (TL.split 17 z (fun h111=> ?_) (fun h111=> ?_))))))))))
 ·replace hh:=iteO_t h111 hh
  replace h111:=of_decide_eq_true h111
  refine TL.f z (TL.f z (TL.f z (TL.f z (TL.w z (pickTB z z z) (TL.en (TC.t z (TC.a (TL.l z z (TL.w z (nilCheckLoc z z) (TL.w z (fieldLoc z fo163_1 z) (TL.front 1 z z (TL.op z (storeB z sz4 z z z z z ?_)))))))))))))
  refine TL.en (TC.ofSub (Sub.f [4,4,4,3] 4) (TC.ret (S.r ?_)))
  obtain rfl:=so hh
  refine ⟨_,Sub.f [3,3,3,3] 4,?_⟩
  exact ro [Res.cells b0_0 #[.int .i64 x0.f.states,.slice a0_1 x0.f.starts.length c0_2,.slice a0_3 x0.f.ends.length c0_4,.slice a0_5 x0.f.arcs.length c0_6,.bool true] Eb0,Res.rowS 43 2 encTip (.slice a0_1 x0.f.starts.length c0_2) x0.f.starts,Res.rowS 43 2 encTip (.slice a0_3 x0.f.ends.length c0_4) x0.f.ends,Res.rowS 66 8 encArc (.slice a0_5 x0.f.arcs.length c0_6) x0.f.arcs] z RVs.nil ⟨a0_1,c0_2,a0_3,c0_4,a0_5,c0_6,z,z,z⟩
 replace hh:=iteO_f h111 hh
 replace h111:=of_decide_eq_false h111
 refine TL.g z (fieldLoc z fo43_1 z) (TL.g z (loadLoc z ag9 z (i:=0) z z) (TL.g z (lenBs z underlying9 z) (TL.g z (OpVal.gtr z z z) (TL.w z (pickFB z z z) (TL.en (TC.cD z hh (fun h112 hh=> ?_) (fun h112 hh=> ?_)))))))
 ·refine TC.a (TL.l z z (TL.w z (nilCheckLoc z z) (TL.w z (fieldLoc z fo163_1 z) (TL.front 1 z z (TL.op z (storeB z sz4 z z z z z ?_))))))
  refine TL.en (TC.ofSub (Sub.f [4,4,4,3] 4) (TC.ret (S.r ?_)))
  obtain rfl:=so hh
  refine ⟨_,Sub.f [3,3,3,3] 4,?_⟩
  exact ro [Res.cells b0_0 #[.int .i64 x0.f.states,.slice a0_1 x0.f.starts.length c0_2,.slice a0_3 x0.f.ends.length c0_4,.slice a0_5 x0.f.arcs.length c0_6,.bool true] Eb0,Res.rowS 43 2 encTip (.slice a0_1 x0.f.starts.length c0_2) x0.f.starts,Res.rowS 43 2 encTip (.slice a0_3 x0.f.ends.length c0_4) x0.f.ends,Res.rowS 66 8 encArc (.slice a0_5 x0.f.arcs.length c0_6) x0.f.arcs] z RVs.nil ⟨a0_1,c0_2,a0_3,c0_4,a0_5,c0_6,z,z,z⟩
 refine TC.skip (S.n ?_)
 have u33:=grd_c hh
 replace hh:=grd_t hh
 refine TC.draw [8,9,10,11,12] (by kernel_rfl) (TA.a 0 z (moveLoc (.inl z) z) z (TA.a 1 z (moveLoc (.inl z) z) z (TA.a 2 z (nilCheckLoc z z) z (TA.a 3 z (fieldLoc z fo163_0 z) z (TA.a 4 z (fieldLoc z fo25_1 z) z (TA.b 5 z (loadLoc z ag22 z (i:=1) z z) z (TA.b 6 z (loadAll z ag43 sz43 z (i:=0) z z) z (TA.ac 7 z (OpOk.lit (enc:=encTip) [x1] z underlying22 sz43 ze43 z z z encTip_len (by decide) (by decide) Tip.zero z (by decide) z (by decide) encTip_one (fun a118 c119=>(k1 ?_)))))))))))
 refine TA.front 3 z z (TA.last 8 (by kernel_rfl) z z z (appendS z z underlying22 sz43 by43 ze43 z z (by decide) z z z (.inr ⟨_,0,z⟩) (by simpa using u33) (by decide) (fun a121 c122=> ?_)))
 refine TZ.v 9 (by kernel_rfl) z z z (nilCheckLoc z z) z z (TZ.v 10 (by kernel_rfl) z z z (fieldLoc z fo163_0 z) z z (TZ.v 11 (by kernel_rfl) z z z (fieldLoc z fo25_1 z) z z (TZ.front 3 z z (TZ.last 12 (by kernel_rfl) z z z (storeSl z sz22 z z z z z ?_)))))
 refine TZ.done (by kernel_rfl) ?_
 obtain rfl:=so hh
 refine ⟨_,Sub.f [5,5,3,3] 4,?_⟩
 exact RetOk.mk' (rs:=[]) [Res.cells b0_0 #[.int .i64 x0.f.states,.slice a121 ((x0.f.starts++[x1]).length) c122,.slice a0_3 x0.f.ends.length c0_4,.slice a0_5 x0.f.arcs.length c0_6,.bool x0.over] Eb0,Res.rowS 43 2 encTip (.slice a121 (x0.f.starts++[x1]).length c122) (x0.f.starts++[x1]),Res.rowS 43 2 encTip (.slice a0_3 x0.f.ends.length c0_4) x0.f.ends,Res.rowS 66 8 encArc (.slice a0_5 x0.f.arcs.length c0_6) x0.f.arcs] z (.inr z) RVs.nil (List.sublist_append_left _ _) ⟨a121,c122,a0_3,c0_4,a0_5,c0_6,z,z,z⟩
def C1_(x0:Grow)(x1:Tip):Option (Grow):=
 iteO x0.over (some (⟨(⟨x0.f.states,x0.f.starts,x0.f.ends,x0.f.arcs⟩:Fst),true⟩:Grow)) (iteO (decide (1024≤((x0.f.ends.length:Nat):Int))) (some (⟨(⟨x0.f.states,x0.f.starts,x0.f.ends,x0.f.arcs⟩:Fst),true⟩:Grow)) (iteO (decide (1024<((x1.out.length:Nat):Int))) (some (⟨(⟨x0.f.states,x0.f.starts,x0.f.ends,x0.f.arcs⟩:Fst),true⟩:Grow)) (grd ((x0.f.ends.length+[x1].length) * 24≤140737488355328) (some (⟨(⟨x0.f.states,x0.f.starts,(x0.f.ends++[x1]),x0.f.arcs⟩:Fst),x0.over⟩:Grow)))))
theorem Gh_{x0:Grow}{x1:Tip}{r:Grow}(hh:C1_ x0 x1=some r):
  Con Tryz.prog 88 #[loc b0_0 0,.agg #[.int .i64 x1.state,.string (bs x1.out)]] σ [Res.cells b0_0 #[.int .i64 x0.f.states,.slice a0_1 x0.f.starts.length c0_2,.slice a0_3 x0.f.ends.length c0_4,.slice a0_5 x0.f.arcs.length c0_6,.bool x0.over] Eb0,Res.rowS 43 2 encTip (.slice a0_1 x0.f.starts.length c0_2) x0.f.starts,Res.rowS 43 2 encTip (.slice a0_3 x0.f.ends.length c0_4) x0.f.ends,Res.rowS 66 8 encArc (.slice a0_5 x0.f.arcs.length c0_6) x0.f.arcs] (fun v σ' H'=> ∃ao1 co2 ao3 co4 ao5 co6,v= .tuple #[]∧σ=σ'∧H'=[Res.cells b0_0 #[.int .i64 r.f.states,.slice ao1 r.f.starts.length co2,.slice ao3 r.f.ends.length co4,.slice ao5 r.f.arcs.length co6,.bool r.over] Eb0,Res.rowS 43 2 encTip (.slice ao1 r.f.starts.length co2) r.f.starts,Res.rowS 43 2 encTip (.slice ao3 r.f.ends.length co4) r.f.ends,Res.rowS 66 8 encArc (.slice ao5 r.f.arcs.length co6) r.f.arcs]):=by
 dsimp only [C1_]at hh
 refine Con.mk (n:=38) Tryz.func88 z z z (fun w0=> ?_)
 refine TC.weakR (TC.a (TL.op z (boxA z z z z (fun b108=> ?_))))
 refine TL.en (TC.seq (TC.a (TL.l z z (TL.w z (nilCheckLoc z z) (TL.w z (fieldLoc z fo163_1 z) (TL.w z (loadLoc z ag4 z (i:=1) z z) (TL.j z z (TL.split 8 z (fun h110=> ?_) (fun h110=> ?_)))))))))
 ·replace hh:=iteO_t h110 hh
  refine TL.f z (TL.f z (TL.f z (TL.f z (TL.f z (TL.f z (TL.f z (TL.w z (pickTB z z z) (TL.j z z (TL.f z (TL.f z (TL.f z (TL.f z (TL.w z (pickTB z z z) (TL.en (TC.t z ?_)))))))))))))))
  refine TC.a (TL.l z z (TL.w z (nilCheckLoc z z) (TL.w z (fieldLoc z fo163_1 z) (TL.front 1 z z (TL.op z (storeB z sz4 z z z z z ?_))))))
  refine TL.en (TC.ofSub (Sub.f [4,4,4,3] 4) (TC.ret (S.r ?_)))
  obtain rfl:=so hh
  refine ⟨_,Sub.f [3,3,3,3] 4,?_⟩
  exact ro [Res.cells b0_0 #[.int .i64 x0.f.states,.slice a0_1 x0.f.starts.length c0_2,.slice a0_3 x0.f.ends.length c0_4,.slice a0_5 x0.f.arcs.length c0_6,.bool true] Eb0,Res.rowS 43 2 encTip (.slice a0_1 x0.f.starts.length c0_2) x0.f.starts,Res.rowS 43 2 encTip (.slice a0_3 x0.f.ends.length c0_4) x0.f.ends,Res.rowS 66 8 encArc (.slice a0_5 x0.f.arcs.length c0_6) x0.f.arcs] z RVs.nil ⟨a0_1,c0_2,a0_3,c0_4,a0_5,c0_6,z,z,z⟩
 replace hh:=iteO_f h110 hh
 refine TL.g z (moveLoc (.inl z) z) (TL.g z (nilCheckLoc z z) (TL.g z (fieldLoc z fo163_0 z) (TL.g z (fieldLoc z fo25_2 z) (TL.g z (loadLoc z ag22 z (i:=1) z z) (TL.g z (lenC z underlying22 z) (TL.g z (OpVal.geq z z z) (TL.w z (pickFB z z z) (TL.j z z (TL.split 17 z (fun h111=> ?_) (fun h111=> ?_))))))))))
 ·replace hh:=iteO_t h111 hh
  replace h111:=of_decide_eq_true h111
  refine TL.f z (TL.f z (TL.f z (TL.f z (TL.w z (pickTB z z z) (TL.en (TC.t z (TC.a (TL.l z z (TL.w z (nilCheckLoc z z) (TL.w z (fieldLoc z fo163_1 z) (TL.front 1 z z (TL.op z (storeB z sz4 z z z z z ?_)))))))))))))
  refine TL.en (TC.ofSub (Sub.f [4,4,4,3] 4) (TC.ret (S.r ?_)))
  obtain rfl:=so hh
  refine ⟨_,Sub.f [3,3,3,3] 4,?_⟩
  exact ro [Res.cells b0_0 #[.int .i64 x0.f.states,.slice a0_1 x0.f.starts.length c0_2,.slice a0_3 x0.f.ends.length c0_4,.slice a0_5 x0.f.arcs.length c0_6,.bool true] Eb0,Res.rowS 43 2 encTip (.slice a0_1 x0.f.starts.length c0_2) x0.f.starts,Res.rowS 43 2 encTip (.slice a0_3 x0.f.ends.length c0_4) x0.f.ends,Res.rowS 66 8 encArc (.slice a0_5 x0.f.arcs.length c0_6) x0.f.arcs] z RVs.nil ⟨a0_1,c0_2,a0_3,c0_4,a0_5,c0_6,z,z,z⟩
 replace hh:=iteO_f h111 hh
 replace h111:=of_decide_eq_false h111
 refine TL.g z (fieldLoc z fo43_1 z) (TL.g z (loadLoc z ag9 z (i:=0) z z) (TL.g z (lenBs z underlying9 z) (TL.g z (OpVal.gtr z z z) (TL.w z (pickFB z z z) (TL.en (TC.cD z hh (fun h112 hh=> ?_) (fun h112 hh=> ?_)))))))
 ·refine TC.a (TL.l z z (TL.w z (nilCheckLoc z z) (TL.w z (fieldLoc z fo163_1 z) (TL.front 1 z z (TL.op z (storeB z sz4 z z z z z ?_))))))
  refine TL.en (TC.ofSub (Sub.f [4,4,4,3] 4) (TC.ret (S.r ?_)))
  obtain rfl:=so hh
  refine ⟨_,Sub.f [3,3,3,3] 4,?_⟩
  exact ro [Res.cells b0_0 #[.int .i64 x0.f.states,.slice a0_1 x0.f.starts.length c0_2,.slice a0_3 x0.f.ends.length c0_4,.slice a0_5 x0.f.arcs.length c0_6,.bool true] Eb0,Res.rowS 43 2 encTip (.slice a0_1 x0.f.starts.length c0_2) x0.f.starts,Res.rowS 43 2 encTip (.slice a0_3 x0.f.ends.length c0_4) x0.f.ends,Res.rowS 66 8 encArc (.slice a0_5 x0.f.arcs.length c0_6) x0.f.arcs] z RVs.nil ⟨a0_1,c0_2,a0_3,c0_4,a0_5,c0_6,z,z,z⟩
 refine TC.skip (S.n ?_)
 have u33:=grd_c hh
 replace hh:=grd_t hh
 refine TC.draw [8,9,10,11,12] (by kernel_rfl) (TA.a 0 z (moveLoc (.inl z) z) z (TA.a 1 z (moveLoc (.inl z) z) z (TA.a 2 z (nilCheckLoc z z) z (TA.a 3 z (fieldLoc z fo163_0 z) z (TA.a 4 z (fieldLoc z fo25_2 z) z (TA.b 5 z (loadLoc z ag22 z (i:=1) z z) z (TA.b 6 z (loadAll z ag43 sz43 z (i:=0) z z) z (TA.ac 7 z (OpOk.lit (enc:=encTip) [x1] z underlying22 sz43 ze43 z z z encTip_len (by decide) (by decide) Tip.zero z (by decide) z (by decide) encTip_one (fun a118 c119=>(k1 ?_)))))))))))
 refine TA.front 4 z z (TA.last 8 (by kernel_rfl) z z z (appendS z z underlying22 sz43 by43 ze43 z z (by decide) z z z (.inr ⟨_,0,z⟩) (by simpa using u33) (by decide) (fun a121 c122=> ?_)))
 refine TZ.v 9 (by kernel_rfl) z z z (nilCheckLoc z z) z z (TZ.v 10 (by kernel_rfl) z z z (fieldLoc z fo163_0 z) z z (TZ.v 11 (by kernel_rfl) z z z (fieldLoc z fo25_2 z) z z (TZ.front 3 z z (TZ.last 12 (by kernel_rfl) z z z (storeSl z sz22 z z z z z ?_)))))
 refine TZ.done (by kernel_rfl) ?_
 obtain rfl:=so hh
 refine ⟨_,Sub.f [5,2,5,3] 4,?_⟩
 exact RetOk.mk' (rs:=[]) [Res.cells b0_0 #[.int .i64 x0.f.states,.slice a0_1 x0.f.starts.length c0_2,.slice a121 ((x0.f.ends++[x1]).length) c122,.slice a0_5 x0.f.arcs.length c0_6,.bool x0.over] Eb0,Res.rowS 43 2 encTip (.slice a0_1 x0.f.starts.length c0_2) x0.f.starts,Res.rowS 43 2 encTip (.slice a121 (x0.f.ends++[x1]).length c122) (x0.f.ends++[x1]),Res.rowS 66 8 encArc (.slice a0_5 x0.f.arcs.length c0_6) x0.f.arcs] z (.inr z) RVs.nil (List.sublist_append_left _ _) ⟨a0_1,c0_2,a121,c122,a0_5,c0_6,z,z,z⟩
def C2_(x0:Grow)(x1:Arc):Option (Grow):=
 iteO x0.over (some (⟨(⟨x0.f.states,x0.f.starts,x0.f.ends,x0.f.arcs⟩:Fst),true⟩:Grow)) (iteO (decide (16384≤((x0.f.arcs.length:Nat):Int))) (some (⟨(⟨x0.f.states,x0.f.starts,x0.f.ends,x0.f.arcs⟩:Fst),true⟩:Grow)) (iteO (decide (1024<((x1.out.length:Nat):Int))) (some (⟨(⟨x0.f.states,x0.f.starts,x0.f.ends,x0.f.arcs⟩:Fst),true⟩:Grow)) (grd ((x0.f.arcs.length+[x1].length) * 72≤140737488355328) (some (⟨(⟨x0.f.states,x0.f.starts,x0.f.ends,(x0.f.arcs++[x1])⟩:Fst),x0.over⟩:Grow)))))
theorem Gi_{x0:Grow}{x1:Arc}{r:Grow}(hh:C2_ x0 x1=some r):
  Con Tryz.prog 89 #[loc b0_0 0,.agg #[.int .i64 x1.frm,.int .i64 x1.to,.int .u64 ((x1.set.a:Nat):Int),.int .u64 ((x1.set.b:Nat):Int),.int .u64 ((x1.set.c:Nat):Int),.int .u64 ((x1.set.d:Nat):Int),.string (bs x1.out),.bool x1.copy]] σ [Res.cells b0_0 #[.int .i64 x0.f.states,.slice a0_1 x0.f.starts.length c0_2,.slice a0_3 x0.f.ends.length c0_4,.slice a0_5 x0.f.arcs.length c0_6,.bool x0.over] Eb0,Res.rowS 43 2 encTip (.slice a0_1 x0.f.starts.length c0_2) x0.f.starts,Res.rowS 43 2 encTip (.slice a0_3 x0.f.ends.length c0_4) x0.f.ends,Res.rowS 66 8 encArc (.slice a0_5 x0.f.arcs.length c0_6) x0.f.arcs] (fun v σ' H'=> ∃ao1 co2 ao3 co4 ao5 co6,v= .tuple #[]∧σ=σ'∧H'=[Res.cells b0_0 #[.int .i64 r.f.states,.slice ao1 r.f.starts.length co2,.slice ao3 r.f.ends.length co4,.slice ao5 r.f.arcs.length co6,.bool r.over] Eb0,Res.rowS 43 2 encTip (.slice ao1 r.f.starts.length co2) r.f.starts,Res.rowS 43 2 encTip (.slice ao3 r.f.ends.length co4) r.f.ends,Res.rowS 66 8 encArc (.slice ao5 r.f.arcs.length co6) r.f.arcs]):=by
 dsimp only [C2_]at hh
 refine Con.mk (n:=38) Tryz.func89 z z z (fun w0=> ?_)
 refine TC.weakR (TC.a (TL.op z (boxA z z z z (fun b108=> ?_))))
 refine TL.en (TC.seq (TC.a (TL.l z z (TL.w z (nilCheckLoc z z) (TL.w z (fieldLoc z fo163_1 z) (TL.w z (loadLoc z ag4 z (i:=1) z z) (TL.j z z (TL.split 8 z (fun h110=> ?_) (fun h110=> ?_)))))))))
 ·replace hh:=iteO_t h110 hh
  refine TL.f z (TL.f z (TL.f z (TL.f z (TL.f z (TL.f z (TL.f z (TL.w z (pickTB z z z) (TL.j z z (TL.f z (TL.f z (TL.f z (TL.f z (TL.w z (pickTB z z z) (TL.en (TC.t z ?_)))))))))))))))
  refine TC.a (TL.l z z (TL.w z (nilCheckLoc z z) (TL.w z (fieldLoc z fo163_1 z) (TL.front 1 z z (TL.op z (storeB z sz4 z z z z z ?_))))))
  refine TL.en (TC.ofSub (Sub.f [4,4,4,3] 4) (TC.ret (S.r ?_)))
  obtain rfl:=so hh
  refine ⟨_,Sub.f [3,3,3,3] 4,?_⟩
  exact ro [Res.cells b0_0 #[.int .i64 x0.f.states,.slice a0_1 x0.f.starts.length c0_2,.slice a0_3 x0.f.ends.length c0_4,.slice a0_5 x0.f.arcs.length c0_6,.bool true] Eb0,Res.rowS 43 2 encTip (.slice a0_1 x0.f.starts.length c0_2) x0.f.starts,Res.rowS 43 2 encTip (.slice a0_3 x0.f.ends.length c0_4) x0.f.ends,Res.rowS 66 8 encArc (.slice a0_5 x0.f.arcs.length c0_6) x0.f.arcs] z RVs.nil ⟨a0_1,c0_2,a0_3,c0_4,a0_5,c0_6,z,z,z⟩
 replace hh:=iteO_f h110 hh
 refine TL.g z (moveLoc (.inl z) z) (TL.g z (nilCheckLoc z z) (TL.g z (fieldLoc z fo163_0 z) (TL.g z (fieldLoc z fo25_3 z) (TL.g z (loadLoc z ag23 z (i:=1) z z) (TL.g z (lenC z underlying23 z) (TL.g z (OpVal.geq z z z) (TL.w z (pickFB z z z) (TL.j z z (TL.split 17 z (fun h111=> ?_) (fun h111=> ?_))))))))))
 ·replace hh:=iteO_t h111 hh
  replace h111:=of_decide_eq_true h111
  refine TL.f z (TL.f z (TL.f z (TL.f z (TL.w z (pickTB z z z) (TL.en (TC.t z (TC.a (TL.l z z (TL.w z (nilCheckLoc z z) (TL.w z (fieldLoc z fo163_1 z) (TL.front 1 z z (TL.op z (storeB z sz4 z z z z z ?_)))))))))))))
  refine TL.en (TC.ofSub (Sub.f [4,4,4,3] 4) (TC.ret (S.r ?_)))
  obtain rfl:=so hh
  refine ⟨_,Sub.f [3,3,3,3] 4,?_⟩
  exact ro [Res.cells b0_0 #[.int .i64 x0.f.states,.slice a0_1 x0.f.starts.length c0_2,.slice a0_3 x0.f.ends.length c0_4,.slice a0_5 x0.f.arcs.length c0_6,.bool true] Eb0,Res.rowS 43 2 encTip (.slice a0_1 x0.f.starts.length c0_2) x0.f.starts,Res.rowS 43 2 encTip (.slice a0_3 x0.f.ends.length c0_4) x0.f.ends,Res.rowS 66 8 encArc (.slice a0_5 x0.f.arcs.length c0_6) x0.f.arcs] z RVs.nil ⟨a0_1,c0_2,a0_3,c0_4,a0_5,c0_6,z,z,z⟩
 replace hh:=iteO_f h111 hh
 replace h111:=of_decide_eq_false h111
 refine TL.g z (fieldLoc z fo66_3 z) (TL.g z (loadLoc z ag9 z (i:=0) z z) (TL.g z (lenBs z underlying9 z) (TL.g z (OpVal.gtr z z z) (TL.w z (pickFB z z z) (TL.en (TC.cD z hh (fun h112 hh=> ?_) (fun h112 hh=> ?_)))))))
 ·refine TC.a (TL.l z z (TL.w z (nilCheckLoc z z) (TL.w z (fieldLoc z fo163_1 z) (TL.front 1 z z (TL.op z (storeB z sz4 z z z z z ?_))))))
  refine TL.en (TC.ofSub (Sub.f [4,4,4,3] 4) (TC.ret (S.r ?_)))
  obtain rfl:=so hh
  refine ⟨_,Sub.f [3,3,3,3] 4,?_⟩
  exact ro [Res.cells b0_0 #[.int .i64 x0.f.states,.slice a0_1 x0.f.starts.length c0_2,.slice a0_3 x0.f.ends.length c0_4,.slice a0_5 x0.f.arcs.length c0_6,.bool true] Eb0,Res.rowS 43 2 encTip (.slice a0_1 x0.f.starts.length c0_2) x0.f.starts,Res.rowS 43 2 encTip (.slice a0_3 x0.f.ends.length c0_4) x0.f.ends,Res.rowS 66 8 encArc (.slice a0_5 x0.f.arcs.length c0_6) x0.f.arcs] z RVs.nil ⟨a0_1,c0_2,a0_3,c0_4,a0_5,c0_6,z,z,z⟩
 refine TC.skip (S.n ?_)
 have u33:=grd_c hh
 replace hh:=grd_t hh
 refine TC.draw [8,9,10,11,12] (by kernel_rfl) (TA.a 0 z (moveLoc (.inl z) z) z (TA.a 1 z (moveLoc (.inl z) z) z (TA.a 2 z (nilCheckLoc z z) z (TA.a 3 z (fieldLoc z fo163_0 z) z (TA.a 4 z (fieldLoc z fo25_3 z) z (TA.b 5 z (loadLoc z ag23 z (i:=1) z z) z (TA.b 6 z (loadAll z ag66 sz66 z (i:=0) z z) z (TA.ac 7 z (OpOk.lit (enc:=encArc) [x1] z underlying23 sz66 ze66 z z z encArc_len (by decide) (by decide) Arc.zero z (by decide) z (by decide) encArc_one (fun a118 c119=>(k1 ?_)))))))))))
 refine TA.front 5 z z (TA.last 8 (by kernel_rfl) z z z (appendS z z underlying23 sz66 by66 ze66 z z (by decide) z z z (.inr ⟨_,0,z⟩) (by simpa using u33) (by decide) (fun a121 c122=> ?_)))
 refine TZ.v 9 (by kernel_rfl) z z z (nilCheckLoc z z) z z (TZ.v 10 (by kernel_rfl) z z z (fieldLoc z fo163_0 z) z z (TZ.v 11 (by kernel_rfl) z z z (fieldLoc z fo25_3 z) z z (TZ.front 3 z z (TZ.last 12 (by kernel_rfl) z z z (storeSl z sz23 z z z z z ?_)))))
 refine TZ.done (by kernel_rfl) ?_
 obtain rfl:=so hh
 refine ⟨_,Sub.f [1,5,5,3] 4,?_⟩
 exact RetOk.mk' (rs:=[]) [Res.cells b0_0 #[.int .i64 x0.f.states,.slice a0_1 x0.f.starts.length c0_2,.slice a0_3 x0.f.ends.length c0_4,.slice a121 ((x0.f.arcs++[x1]).length) c122,.bool x0.over] Eb0,Res.rowS 43 2 encTip (.slice a0_1 x0.f.starts.length c0_2) x0.f.starts,Res.rowS 43 2 encTip (.slice a0_3 x0.f.ends.length c0_4) x0.f.ends,Res.rowS 66 8 encArc (.slice a121 (x0.f.arcs++[x1]).length c122) (x0.f.arcs++[x1])] z (.inr z) RVs.nil (List.sublist_append_left _ _) ⟨a0_1,c0_2,a0_3,c0_4,a121,c122,z,z,z⟩
def Cd_(x0:Grow):Option (Fst×Int):=
 iteO x0.over (some ((⟨0,([]:List Tip),([]:List Tip),([]:List Arc)⟩:Fst),2)) (iteO (decide (1024<x0.f.states)) (some ((⟨0,([]:List Tip),([]:List Tip),([]:List Arc)⟩:Fst),2)) (some ((⟨x0.f.states,x0.f.starts,x0.f.ends,x0.f.arcs⟩:Fst),0)))
theorem Gg_{x0:Grow}{x2g:Int}{r:Fst×Int}(hh:Cd_ x0=some r):
  ConD Tryz.prog 86 #[loc b0_0 0,loc b1_0 0,loc b2_0 0] σ [Res.cells b0_0 #[.int .i64 x0.f.states,.slice a0_1 x0.f.starts.length c0_2,.slice a0_3 x0.f.ends.length c0_4,.slice a0_5 x0.f.arcs.length c0_6,.bool x0.over] Eb0,Res.rowS 43 2 encTip (.slice a0_1 x0.f.starts.length c0_2) x0.f.starts,Res.rowS 43 2 encTip (.slice a0_3 x0.f.ends.length c0_4) x0.f.ends,Res.rowS 66 8 encArc (.slice a0_5 x0.f.arcs.length c0_6) x0.f.arcs,Res.cells b1_0 #[.int .i64 0,.slice none 0 0,.slice none 0 0,.slice none 0 0] Eb1,Res.cells b2_0 #[.int .i64 x2g] Eb2] (fun v σ' H'=> ∃ao1 co2 ao4 co5 ao7 co8,v= .tuple #[]∧RS σ' 2 encTip (.slice ao1 r.1.starts.length co2) r.1.starts∧RS σ' 2 encTip (.slice ao4 r.1.ends.length co5) r.1.ends∧RS σ' 8 encArc (.slice ao7 r.1.arcs.length co8) r.1.arcs∧H'=[Res.cells b1_0 #[.int .i64 r.1.states,.slice ao1 r.1.starts.length co2,.slice ao4 r.1.ends.length co5,.slice ao7 r.1.arcs.length co8] Eb1,Res.cells b2_0 #[.int .i64 r.2] Eb2]):=by
 dsimp only [Cd_]at hh
 refine ConD.mk (n:=31) Tryz.func86 z z z (fun w0=> ?_)
 refine TC.weakR (TC.seq (TC.a (TL.l z z (TL.w z (nilCheckLoc z z) (TL.w z (fieldLoc z fo163_1 z) (TL.w z (loadLoc z ag4 z (i:=0) z z) (TL.j z z (TL.split 10 z (fun h110=> ?_) (fun h110=> ?_)))))))))
 ·replace hh:=iteO_t h110 hh
  refine TL.f z (TL.f z (TL.f z (TL.f z (TL.f z (TL.f z (TL.w z (pickTB z z z) (TL.en (TC.t z (TC.a (TL.l z z (TL.l z z (TL.w z (buildL z pl25 ze25 z) (TL.w z (nilCheckLoc z z) (TL.front 4 z z (TL.op z (storeAll z sz25 z z z z z z ?_))))))))))))))))
  refine TL.w z (nilCheckLoc z z) (TL.front 5 z z (TL.op z (storeI z sz27 z z z z z ?_)))
  refine TL.en (TC.ofSub (Sub.f [1] 2) (TC.ret (S.r ?_)))
  obtain rfl:=so hh
  refine ⟨_,Sub.f [1,1] 2,?_⟩
  exact ro [Res.cells b1_0 #[.int .i64 0,.slice none 0 0,.slice none 0 0,.slice none 0 0] Eb1,Res.cells b2_0 #[.int .i64 2] Eb2] z RVs.nil ⟨none,0,none,0,none,0,z,(RS.nilF _ encTip encTip_len),(RS.nilF _ encTip encTip_len),(RS.nilF _ encArc encArc_len),z⟩
 replace hh:=iteO_f h110 hh
 refine TL.g z (moveLoc (.inl z) z) (TL.g z (nilCheckLoc z z) (TL.g z (fieldLoc z fo163_0 z) (TL.g z (fieldLoc z fo25_0 z) (TL.g z (loadLoc z ag3 z (i:=0) z z) (TL.g z (OpVal.gtr z z z) (TL.w z (pickFB z z z) (TL.en (TC.cD z hh (fun h111 hh=> ?_) (fun h111 hh=> ?_)))))))))
 ·refine TC.a (TL.l z z (TL.l z z (TL.w z (buildL z pl25 ze25 z) (TL.w z (nilCheckLoc z z) (TL.front 4 z z (TL.op z (storeAll z sz25 z z z z z z ?_)))))))
  refine TL.w z (nilCheckLoc z z) (TL.front 5 z z (TL.op z (storeI z sz27 z z z z z ?_)))
  refine TL.en (TC.ofSub (Sub.f [1] 2) (TC.ret (S.r ?_)))
  obtain rfl:=so hh
  refine ⟨_,Sub.f [1,1] 2,?_⟩
  exact ro [Res.cells b1_0 #[.int .i64 0,.slice none 0 0,.slice none 0 0,.slice none 0 0] Eb1,Res.cells b2_0 #[.int .i64 2] Eb2] z RVs.nil ⟨none,0,none,0,none,0,z,(RS.nilF _ encTip encTip_len),(RS.nilF _ encTip encTip_len),(RS.nilF _ encArc encArc_len),z⟩
 refine TC.skip (S.n (TC.region (TL.l z z (TL.l z z (TL.l z z (TL.w z (nilCheckLoc z z) (TL.w z (fieldLoc z fo163_0 z) (TL.w z (loadLocA z ag25 sz25 z (i:=0) z z z) (TL.w z (nilCheckLoc z z) (TL.front 4 z z (TL.op z (storeAll z sz25 z z z z z z ?_))))))))))))
 refine TL.w z (nilCheckLoc z z) (TL.front 5 z z (TL.op z (storeI z sz27 z z z z z ?_)))
 refine TL.front 3 z z (TL.sealS encTip_len (fun τ114 hle113 hr112=> ?_))
 have hr112b:=hr112.rv.big
 refine TL.front 3 z z (TL.sealS encTip_len (fun τ117 hle116 hr115=> ?_))
 replace hr112:=hr112.mono hle116
 have hr115b:=hr115.rv.big
 refine TL.front 3 z z (TL.sealS encArc_len (fun τ120 hle119 hr118=> ?_))
 replace hr112:=hr112.mono hle119
 replace hr115:=hr115.mono hle119
 have hr118b:=hr118.rv.big
 refine TL.nil ?_
 obtain rfl:=so hh
 refine ⟨_,Sub.f [1] 2,?_⟩
 exact RetOk.mk' (rs:=[]) [Res.cells b1_0 #[.int .i64 x0.f.states,.slice a0_1 x0.f.starts.length c0_2,.slice a0_3 x0.f.ends.length c0_4,.slice a0_5 x0.f.arcs.length c0_6] Eb1,Res.cells b2_0 #[.int .i64 0] Eb2] z (.inr z) RVs.nil (List.sublist_append_left _ _) ⟨a0_1,c0_2,a0_3,c0_4,a0_5,c0_6,z,hr112,hr115,hr118,z⟩
end Go.Proofs.YtamgjehhjkgelaaGreatDoor
end

noncomputable section
namespace Go.E
open Go
@[irreducible]def arrA{α:Type}(enc:α→List Value)(l:List α):Array Value:=(l.flatMap enc).toArray
theorem arrA_list{α:Type}{enc:α→List Value}{l:List α}:(arrA enc l).toList=l.flatMap enc:=by unfold arrA;rfl
theorem arrA_size{α:Type}{enc:α→List Value}{s:Nat}(hl: ∀x,(enc x).length=s)(l:List α):(arrA enc l).size=l.length * s:=by
  rw [←Array.length_toList,arrA_list,flatMap_len hl]
theorem arrA_of{α:Type}{enc:α→List Value}{l:List α}:arrA enc l=(l.flatMap enc).toArray:=by unfold arrA;rfl
theorem flat_set{α:Type}{enc:α→List Value}{s:Nat}(hl: ∀x,(enc x).length=s): ∀(l:List α) (i:Nat) (x:α),i<l.length→splice (l.flatMap enc) (i * s) (enc x)=(l.set i x).flatMap enc
  |[],_,_,h=>by cases h
  |y::l,0,x,_=>by
    simp only [splice,Nat.zero_mul,List.take_zero,List.nil_append,Nat.zero_add,List.flatMap_cons,List.set_cons_zero]
    rw [List.drop_append_of_le_length (by rw [hl,hl];exact Nat.le_refl _),List.drop_of_length_le (by rw [hl,hl];exact Nat.le_refl _),List.nil_append]
  |y::l,i+1,x,h=>by
    have ih:=flat_set hl l i x (by simpa using h)
    have e:(i+1) * s=(enc y).length+i * s:=by rw [hl,Nat.add_mul,Nat.one_mul,Nat.add_comm]
    simp only [splice,List.flatMap_cons,List.set_cons_succ]at ih ⊢
    rw [e,List.take_length_add_append,Nat.add_assoc,List.drop_length_add_append,List.append_assoc,List.append_assoc,←ih,List.append_assoc]
theorem nth_got{α:Type}{l:List α}{i:Nat}(h:i<l.length)(d:α):l[i]? =some (nth l i d):=by
  unfold nth;rw [List.getD_eq_getElem?_getD,List.getElem?_eq_getElem h];rfl
section
variable {P:Program} {n:Nat} {e:Env} {σ:Store} {H:List Res} {o:Oper} {x y:Operand} {α:Type} {enc:α→List Value} {l:List α}
theorem OpVal.loadArr{T b i s E j:Nat}(d:α)(ho:o.op= .load T x)(hA:aggOf P T=some true)(hz:szOf P T=some s)(hx:ev e x=loc b (0+i * s))(hi:H[j]? =some (Res.cells b (arrA enc l) E))(hl: ∀x,(enc x).length=s)(hk:i<l.length):
    OpVal P n o e σ H (.agg (enc (nth l i d)).toArray):=
  OpVal.loadLocA ho hA hz (by rw [hx,Nat.zero_add]) hi (hl _) (by rw [arrA_list];exact flatMap_seg hl l i _ (nth_got hk d))
theorem OpVal.indexV{T E s m i:Nat}{k:IntKind}(d:α)(ho:o.op= .index T x y)(ht:P.underlying T=some (.array m E))(hz:szOf P E=some s)(hA:aggOf P E=some true)(hx:ev e x= .agg (arrA enc l))(hy:ev e y= .int k (i:Nat))(hl: ∀x,(enc x).length=s)(hm:l.length=m)(hi:i<m):
    OpVal P n o e σ H (.agg (enc (nth l i d)).toArray):=fun w _=>by
  have h1:(arrA enc l).extract (i * s) (i * s+s)=(enc (nth l i d)).toArray:=by
    apply Array.ext'
    rw [Array.toList_extract,arrA_list,List.extract_eq_take_drop,←flatMap_seg hl l i _ (nth_got (hm▸hi) d)]
    congr 1;omega
  have h2:(i:Int)<(m:Int):=by omega
  simp [execOp,ho,hx,hy,Instr.index,asIntOf,run_underlying ht,run_sizeOf hz,part,run_isAgg hA,h1,h2]
  intro h;omega
theorem OpOk.storeArr{X:Ctx}{F:List Res}{K:Env→Store→List Res→Prop}{T b i s E:Nat}{u:α}(ho:o.op= .store T x y)(hs:szOf X.P T=some s)(hd:o.dst=none)(hx:ev e x=loc b (0+i * s))(hv:ev e y= .agg (enc u).toArray)(hl: ∀x,(enc x).length=s)(h1: ∀x, ∀u∈enc x,u.oneCell'=true)(hi:i<l.length)
    (kk:K e σ (Res.cells b (arrA enc (l.set i u)) E::F)):OpOk X o e σ (Res.cells b (arrA enc l) E::F) K:=by
  refine OpOk.store (k:=i * s) (s:=s) ho hs hd (by rw [hx,Nat.zero_add]) hv (by show (enc u).toArray.size=s;simpa using hl u) (fun v hv=>h1 u v (by simpa [Value.cells]using hv)) ?_ ?_ kk
  · rw [Nat.ble_eq,arrA_size hl]
    have:=Nat.mul_le_mul_right s (show i+1≤l.length by omega)
    rw [Nat.add_mul,Nat.one_mul]at this;exact this
  rw [arrA_list,arrA_of (l:=l.set i u)]
  congr 1
  show splice _ _ (enc u).toArray.toList=_
  rw [List.toList_toArray];exact flat_set hl l i u hi
end
end Go.E
end

noncomputable section
namespace Go.Proofs.YtamgjehhjkgelaaGreatDoor
open Go Go.E Go.E.OpVal Go.E.OpOk Go.Proofs.Tryz
theorem ag183:aggOf Tryz.prog 183=some true:=by kernel_rfl
theorem ag27:aggOf Tryz.prog 27=some false:=by kernel_rfl
theorem ag50:aggOf Tryz.prog 50=some true:=by kernel_rfl
theorem pf46:plainF Tryz.prog 46=true:=by kernel_rfl
theorem pf48:plainF Tryz.prog 48=true:=by kernel_rfl
theorem pf49:plainF Tryz.prog 49=true:=by kernel_rfl
theorem pf83:plainF Tryz.prog 83=true:=by kernel_rfl
theorem pf85:plainF Tryz.prog 85=true:=by kernel_rfl
theorem pf86:plainF Tryz.prog 86=true:=by kernel_rfl
theorem pf87:plainF Tryz.prog 87=true:=by kernel_rfl
theorem pf88:plainF Tryz.prog 88=true:=by kernel_rfl
theorem pf89:plainF Tryz.prog 89=true:=by kernel_rfl
theorem pl163:plOf Tryz.prog 163=some #[(0,4),(4,1)]:=by kernel_rfl
theorem pl43:plOf Tryz.prog 43=some #[(0,1),(1,1)]:=by kernel_rfl
theorem pl66:plOf Tryz.prog 66=some #[(0,1),(1,1),(2,4),(6,1),(7,1)]:=by kernel_rfl
theorem sz183:szOf Tryz.prog 183=some 4096:=by kernel_rfl
theorem sz50:szOf Tryz.prog 50=some 3:=by kernel_rfl
theorem za183:zeroOf Tryz.prog 183=some (.agg (Go.E.arrA Go.E.encSet (List.replicate 1024 BSet.zero))):=by rw [Go.E.arrA_of];kernel_rfl
theorem ze163:zeroOf Tryz.prog 163=some (.agg #[.int .i64 0,.slice none 0 0,.slice none 0 0,.slice none 0 0,.bool false]):=by kernel_rfl
theorem ze27:zeroOf Tryz.prog 27=some (.int .i64 0):=by kernel_rfl
def Bl_(x0:Dfa)(k139:Nat)(l172:List BSet)(y64_0:Int)(y64_1:BSet):Option (Nat×(List BSet)):=
 grd (0≤y64_0∧y64_0<((nth x0.next k139 ([]:List Int)).length:Int)) (grd (0≤y64_0∧y64_0<((nth x0.next k139 ([]:List Int)).length:Int)) (grd (0≤(nth (nth x0.next k139 ([]:List Int)) y64_0.toNat (0:Int))∧(nth (nth x0.next k139 ([]:List Int)) y64_0.toNat (0:Int))<(1024:Int)) (bnd (Ck_ (nth l172 ((nth (nth x0.next k139 ([]:List Int)) y64_0.toNat (0:Int)).toNat) BSet.zero) y64_1) (fun v69=>grd (0≤(nth (nth x0.next k139 ([]:List Int)) y64_0.toNat (0:Int))∧(nth (nth x0.next k139 ([]:List Int)) y64_0.toNat (0:Int))<(1024:Int)) (some (0,(l172.set ((nth (nth x0.next k139 ([]:List Int)) y64_0.toNat (0:Int)).toNat) v69)))))))
def Da_(k194:Nat)(l199:List Arrow):Option (((List Arrow)×Nat)⊕(((List Int)×(List Arrow)×Nat)⊕(Nfa×Int))):=
 nxt (l199,(k194+1))
def Ay_(l172:List BSet)(k139:Nat)(l151:List Int)(l191:List Arrow)(k194:Nat):Option (((List Arrow)×Nat)⊕(((List Int)×(List Arrow)×Nat)⊕(Nfa×Int))):=
 iteO (decide (((k194:Nat):Int)<1024)) (iteO (decide ((nth l172 k194 BSet.zero)≠BSet.zero)) (grd ((l191.length+[(⟨((k139:Nat):Int),((k194:Nat):Int),(nth l172 k194 BSet.zero)⟩:Arrow)].length) * 48≤140737488355328) (Da_ k194 (l191++[(⟨((k139:Nat):Int),((k194:Nat):Int),(nth l172 k194 BSet.zero)⟩:Arrow)]))) (Da_ k194 l191)) (fin (iteO (decide (65536<((l191.length:Nat):Int))) (fin (some ((⟨0,([]:List Int),([]:List Int),([]:List Arrow)⟩:Nfa),2))) (nxt (l151,l191,(k139+1)))))
def Dt_(k139:Nat)(l151:List Int)(l136:List Arrow)(jz:Nat)(l172:List BSet):Option (((List Int)×(List Arrow)×Nat)⊕(Nfa×Int)):=
 jsel jz (iter (fun q:(List Arrow)×Nat=>Ay_ l172 k139 l151 q.1 q.2) (l136,0)) (fun _=>none)
def Cq_(v6:(List BSet)×Int)(x0:Dfa)(k139:Nat)(l136:List Arrow)(l151:List Int):Option (((List Int)×(List Arrow)×Nat)⊕(Nfa×Int)):=
 bnd (B3_ v6.1) (fun v54=>bnd (At_ (stepY (fun (q:(List BSet)) (x:Int×BSet)=>Bl_ x0 k139 q x.1 x.2)) (0,(List.replicate 1024 BSet.zero)) v54) (fun zr64=>Dt_ k139 l151 l136 zr64.1 zr64.2))
def A6_(x0:Dfa)(v6:(List BSet)×Int)(l132:List Int)(l136:List Arrow)(k139:Nat):Option (((List Int)×(List Arrow)×Nat)⊕(Nfa×Int)):=
 iteO (decide (((k139:Nat):Int)<((x0.next.length:Nat):Int))) (grd (k139<x0.fin.length) (iteO (nth x0.fin k139 false) (grd ((l132.length+[((k139:Nat):Int)].length) * 8≤140737488355328) (Cq_ v6 x0 k139 l136 (l132++[((k139:Nat):Int)]))) (Cq_ v6 x0 k139 l136 l132))) (fin (some ((⟨((x0.next.length:Nat):Int),[0],l132,l136⟩:Nfa),0)))
def E7_(x0:Dfa):Option (Nfa×Int):=
 bnd (C4_ x0.cls) (fun v6=>iteO (decide (v6.2≠0)) (some ((⟨0,([]:List Int),([]:List Int),([]:List Arrow)⟩:Nfa),1)) (bnd (Dj_ x0) (fun v16=>iteO (decide (v16≠0)) (some ((⟨0,([]:List Int),([]:List Int),([]:List Arrow)⟩:Nfa),1)) (iter (fun q:(List Int)×(List Arrow)×Nat=>A6_ x0 v6 q.1 q.2.1 q.2.2) (([]:List Int),([]:List Arrow),0)))))
def Hl_(σ:Store)(r:Nfa×Int):Value→Store→List Res→Prop:=fun v σ' H'=>
 ∃a1 c1 a2 c2 a3 c3,v= .tuple #[.agg #[.int .i64 r.1.states,.slice a1 r.1.starts.length c1,.slice a2 r.1.ends.length c2,.slice a3 r.1.edges.length c3],.int .i64 r.2]∧RS σ' 1 eI_ (.slice a1 r.1.starts.length c1) r.1.starts∧RS σ' 1 eI_ (.slice a2 r.1.ends.length c2) r.1.ends∧RS σ' 6 encE (.slice a3 r.1.edges.length c3) r.1.edges∧H'=[]
theorem G4_{x0:Dfa}(f0_0:RS σ 1 eI_ (.slice a0_0 x0.cls.length c0_0) x0.cls)(f0_1:RZ σ (pkSl 1 eI_ eIl_) (.slice a0_1 x0.next.length c0_1) x0.next)(f0_2:RS σ 1 encB (.slice a0_2 x0.fin.length c0_2) x0.fin){r:Nfa×Int}(hh:E7_ x0=some r):
  Con Tryz.prog 85 #[.agg #[.slice a0_0 x0.cls.length c0_0,.slice a0_1 x0.next.length c0_1,.slice a0_2 x0.fin.length c0_2]] σ [] (Hl_ σ r):=by
 dsimp only [E7_]at hh
 have f0_0b:=f0_0.rv.big
 have f0_1b:=f0_1.big
 have f0_2b:=f0_2.rv.big
 refine Con.mk (n:=94) Tryz.func85 z z z (fun w0=> ?_)
 refine TC.a (TL.op z (boxA z z z z (fun b101=> ?_)))
 refine TL.op z (OpOk.alloc z ze61 z z (fun b103=> ?_))
 refine TL.i z z (TL.en (TC.a (TL.w z (fieldLoc z fo50_0 z) (TL.w z (loadLoc z ag46 z (i:=1) z z) ?_))))
 obtain ⟨v6,u6,hh⟩:=bnd_e hh
 refine TL.op z (OpOk.call (F5_ f0_0 u6) z z pf84 z z z z ?_)
 rintro _ τ105 _ hle105 ⟨a105_1,c105_1,rfl,hr105_0,rfl⟩
 replace f0_0:=f0_0.mono hle105
 replace f0_1:=f0_1.mono hle105
 replace f0_2:=f0_2.mono hle105
 have hr105_0b:=hr105_0.rv.big
 refine TL.w z (moveT (.inl z) z) (TL.w z (OpVal.extract z z z) (TL.w z (OpVal.extract z z z) (TL.s z z (TL.i z z (TL.en (TC.seq (TC.a (TL.i z z (TL.w z (OpVal.neq z z z) (TL.j z z (TL.split 22 z (fun h106=> ?_) (fun h106=> ?_))))))))))))
 ·replace hh:=iteO_t h106 hh
  replace h106:=of_decide_eq_true h106
  refine TL.f z (TL.f z (TL.f z (TL.w z (pickTB z z z) (TL.en (TC.t z (TC.a (TL.w z (buildL z pl61 ze61 z) (TL.op z (storeAll z sz61 z z z z z z ?_)))))))))
  refine TL.i z z (TL.en (TC.rt 1 (S.r ?_)))
  obtain rfl:=so hh
  exact ro [] z (RVs.agg ag61 sz61 z (i:=0) z z (RVs.tmp z RVs.nil)) ⟨none,0,none,0,none,0,z,(RS.nilF _ eI_ eIl_),(RS.nilF _ eI_ eIl_),(RS.nilF _ encE encE_len),z⟩
 replace hh:=iteO_f h106 hh
 replace h106:=of_decide_eq_false h106
 refine TL.g z (loadAll z ag50 sz50 z (i:=1) z z) ?_
 obtain ⟨v16,u16,hh⟩:=bnd_e hh
 refine TL.gon z z z z z (callP (F3_ (x0:=x0) f0_0 f0_1 f0_2 u16) z z pf48 z z z ?_)
 refine TL.g z (OpVal.neq z z z) (TL.w z (pickFB z z z) (TL.en (TC.cD z hh (fun h107 hh=> ?_) (fun h107 hh=> ?_))))
 ·refine TC.a (TL.w z (buildL z pl61 ze61 z) (TL.op z (storeAll z sz61 z z z z z z ?_)))
  refine TL.i z z (TL.en (TC.rt 1 (S.r ?_)))
  obtain rfl:=so hh
  exact ro [] z (RVs.agg ag61 sz61 z (i:=0) z z (RVs.tmp z RVs.nil)) ⟨none,0,none,0,none,0,z,(RS.nilF _ eI_ eIl_),(RS.nilF _ eI_ eIl_),(RS.nilF _ encE encE_len),z⟩
 refine TC.skip (S.n (TC.a (TL.w z (fieldLoc z fo50_1 z) (TL.w z (loadLoc z ag47 z (i:=1) z z) (TL.w z (lenC z underlying47 z) (TL.op z (OpOk.lit (enc:=eI_) [0] z underlying46 sz3 ze3 z z z eIl_ (by decide) (by decide) (0:Int) z (by decide) z (by decide) eIo_ (fun a108 c109=> ?_))))))))
 refine TL.w z (buildL z pl61 ze61 z) (TL.op z (OpOk.alloc z ze61 z z (fun b111=> ?_)))
 refine TL.op z (storeAll z sz61 z z z z z z ?_)
 refine TL.en (TC.seq (TC.a (TL.w z (fieldLoc z fo50_1 z) (TL.w z (loadLoc z ag47 z (i:=3) z z) (TL.w z (lenC z underlying47 z) (TL.i z z (TL.en (TC.block (TC.nilS 3 1 eI_ (TC.nilS 58 6 encE (TC.loopG (α:=((List Int)×(List Arrow)×Nat)×((Option Addr)×Nat×(Option Addr)×Nat×Store)) (rgs [(3,1),(7,3),(12,2),(36,18),(69,24)]) (fun g=>[(36,.int .i64 ((g.1.2.2:Nat):Int))]) (fun g=>[Res.cells b101 #[.slice a0_0 x0.cls.length c0_0,.slice a0_1 x0.next.length c0_1,.slice a0_2 x0.fin.length c0_2] 50,Res.cells b103 #[.int .i64 0,.slice none 0 0,.slice none 0 0,.slice none 0 0] 61,Res.cells b111 #[.int .i64 ((x0.next.length:Nat):Int),.slice a108 [0].length c109,.slice g.2.1 g.1.1.length g.2.2.1,.slice g.2.2.2.1 g.1.2.1.length g.2.2.2.2.1] 61,Res.rowS 3 1 eI_ (.slice a108 [0].length c109) [0],Res.rowS 3 1 eI_ (.slice g.2.1 g.1.1.length g.2.2.1) g.1.1,Res.rowS 58 6 encE (.slice g.2.2.2.1 g.1.2.1.length g.2.2.2.2.1) g.1.2.1]) (fun g=>g.2.2.2.2.2) (fun g=>iter (fun q:(List Int)×(List Arrow)×Nat=>A6_ x0 v6 q.1 q.2.1 q.2.2) g.1=some r∧Store.le τ105 g.2.2.2.2.2) (fun g=>rounds (fun q:(List Int)×(List Arrow)×Nat=>A6_ x0 v6 q.1 q.2.1 q.2.2) g.1) ((([]:List Int),([]:List Arrow),0),(none,0,none,0,τ105)) (Sub.f [1,3,3,4,5] 6) z (by repeat (first|exact trivial|refine ⟨z,?_⟩)) ⟨hh,(Store.le.refl _)⟩ (fun g1 j1 hg1=> ?_))))))))))))
 obtain ⟨⟨l132,l136,k139⟩,⟨a133,c134,a137,c138,τ142⟩⟩:=g1
 obtain ⟨hh,hle143⟩:=hg1
 dsimp only at hle143
 replace f0_1:=f0_1.mono hle143
 replace f0_2:=f0_2.mono hle143
 replace hr105_0:=hr105_0.mono hle143
 try dsimp only
 obtain ⟨z1,hh,hR1⟩:=iter_e hh
 dsimp only [A6_]at hh
 refine TC.isSl (i:=3) z (fun _ hb144 _=> ?_)
 refine TC.isSl (i:=4) z (fun _ hb145 _=> ?_)
 refine TC.isSl (i:=5) z (fun _ hb146 _=> ?_)
 refine TC.a (TL.w z (OpVal.lss z z z) (TL.en (TC.seq (TC.cD z hh (fun h147 hh=> ?_) (fun h147 hh=> ?_)))))
 ·refine TC.skip (S.n (TC.seq (TC.block (TC.a (TL.i z z (TL.w z (indexN z underlying47 sz46 z z f0_1.isSl (by omega)) ?_))))))
  obtain ⟨p148,hk148,hg148⟩:=RZ.seg f0_1 k139 (by omega)
  replace hk148:RS _ 1 eI_ (.slice p148.1 (nth x0.next k139 ([]:List Int)).length p148.2) (nth x0.next k139 ([]:List Int)):=hk148
  have hk148b:=hk148.rv.big
  refine TL.w z (OpVal.of (loadSeg0 z ag46 z hg148 z) (v':= .slice p148.1 ((nth x0.next k139 ([]:List Int)).length) p148.2) z) (TL.op z (OpOk.alloc z ze46 z z (fun b149=> ?_)))
  refine TL.i z z (TL.op z (storeSl z sz46 z z z z z ?_))
  refine TL.en (TC.cutG (α:=((List Int))×((Option Addr)×Nat)) (rgs [(41,11)]) (fun g=>[]) (fun g=>[Res.cells b101 #[.slice a0_0 x0.cls.length c0_0,.slice a0_1 x0.next.length c0_1,.slice a0_2 x0.fin.length c0_2] 50,Res.cells b103 #[.int .i64 0,.slice none 0 0,.slice none 0 0,.slice none 0 0] 61,Res.cells b111 #[.int .i64 ((x0.next.length:Nat):Int),.slice a108 [0].length c109,.slice g.2.1 g.1.length g.2.2,.slice a137 l136.length c138] 61,Res.rowS 3 1 eI_ (.slice a108 [0].length c109) [0],Res.rowS 3 1 eI_ (.slice g.2.1 g.1.length g.2.2) g.1,Res.rowS 58 6 encE (.slice a137 l136.length c138) l136,Res.cells b149 #[.slice p148.1 ((nth x0.next k139 ([]:List Int)).length) p148.2] 46]) (fun g=>τ142) (fun g=>Cq_ v6 x0 k139 l136 g.1=some z1) ?_ (fun g j hg=> ?_))
  ·skip
   refine TC.a (TL.w z (fieldLoc z fo50_2 z) (TL.w z (loadLoc z ag48 z (i:=1) z z) (TL.i z z ?_)))
   have u43:=grd_c hh
   replace hh:=grd_t hh
   refine TL.w z (indexN z underlying48 sz4 z z f0_2.rv.sl (by omega)) (TL.w z (loadS1 false z ag4 z f0_2 (by omega) z) (TL.en (TC.cB z hh (fun h154 hh=> ?_) (fun h154 hh=> ?_))))
   ·refine TC.region (TL.w z (fieldLoc z fo61_2 z) (TL.w z (loadLoc z ag46 z (i:=3) z z) (TL.i z z (TL.op z (OpOk.lit (enc:=eI_) [((k139:Nat):Int)] z underlying46 sz3 ze3 z z z eIl_ (by decide) (by decide) (0:Int) z (by decide) z (by decide) eIo_ (fun a155 c156=> ?_))))))
    refine TL.front 6 z z ?_
    have u49:=grd_c hh
    replace hh:=grd_t hh
    refine TL.op z (appendS z z underlying46 sz3 by3 ze3 z z (by decide) z z z (.inr ⟨_,0,z⟩) (by simpa using u49) (by decide) (fun a158 c159=> ?_))
    refine TL.w z (fieldLoc z fo61_2 z) (TL.front 5 z z (TL.op z (storeSl z sz46 z z z z z ?_)))
    exact TL.en (cf ((l132++[((k139:Nat):Int)]),(a158,c159)) hh (Sub.f [3,7,3,7,4,7,7] 7))
   exact TC.skip (S.n (cf (l132,(a133,c134)) hh (Sub.f [6,6,6,6,6,6] 7)))
  skip
  obtain ⟨l151,⟨a152,c153⟩⟩:=g
  have hh:=hg;clear hg
  try dsimp only
  dsimp only [Cq_]at hh
  refine TC.isSl (i:=3) z (fun _ hb160 _=> ?_)
  refine TC.isSl (i:=4) z (fun _ hb161 _=> ?_)
  refine TC.isSl (i:=5) z (fun _ hb162 _=> ?_)
  refine TC.a (TL.op z (OpOk.alloc z za183 z z (fun b163=> ?_)))
  refine TL.asH (H':=[Res.cells b163 (arrA encSet (List.replicate 1024 BSet.zero)) 183,Res.cells b101 #[.slice a0_0 x0.cls.length c0_0,.slice a0_1 x0.next.length c0_1,.slice a0_2 x0.fin.length c0_2] 50,Res.cells b103 #[.int .i64 0,.slice none 0 0,.slice none 0 0,.slice none 0 0] 61,Res.cells b111 #[.int .i64 ((x0.next.length:Nat):Int),.slice a108 [0].length c109,.slice a152 l151.length c153,.slice a137 l136.length c138] 61,Res.rowS 3 1 eI_ (.slice a108 [0].length c109) [0],Res.rowS 3 1 eI_ (.slice a152 l151.length c153) l151,Res.rowS 58 6 encE (.slice a137 l136.length c138) l136,Res.cells b149 #[.slice p148.1 ((nth x0.next k139 ([]:List Int)).length) p148.2] 46]) z (TL.en (TC.seq (TC.a (TL.s z z ?_))))
  obtain ⟨v54,u54,hh⟩:=bnd_e hh
  refine TL.op z (OpOk.call (Fe_ hr105_0 u54) z z pf46 z z z z ?_)
  rintro _ τ165 _ hle165 ⟨b165_4,a165_1,c165_2,rfl,f165_3,rfl⟩
  replace hk148:=hk148.mono hle165
  have f165_3b:=f165_3.rv.big
  refine TL.en (TC.block (TC.ofSub (Sub.f [1,8,8,8,8,8,8,8] 9) ?_))
  obtain ⟨zr64,hz64,hh⟩:=bnd_e hh
  obtain ⟨jz64,l172⟩:=zr64
  dsimp only at hh
  refine TC.rangeG (A:=(fun (x:Int×BSet) _ vs=>vs=[.int .i64 x.1,setV x.2])) [] (fun (q:(List BSet)) (x:Int×BSet)=>Bl_ x0 k139 q x.1 x.2) (fun (q:(List BSet)) (τ174:Store) Hs=>Hs=[Res.cells b101 #[.slice a0_0 x0.cls.length c0_0,.slice a0_1 x0.next.length c0_1,.slice a0_2 x0.fin.length c0_2] 50,Res.cells b103 #[.int .i64 0,.slice none 0 0,.slice none 0 0,.slice none 0 0] 61,Res.cells b111 #[.int .i64 ((x0.next.length:Nat):Int),.slice a108 [0].length c109,.slice a152 l151.length c153,.slice a137 l136.length c138] 61,Res.rowS 3 1 eI_ (.slice a108 [0].length c109) [0],Res.rowS 3 1 eI_ (.slice a152 l151.length c153) l151,Res.rowS 58 6 encE (.slice a137 l136.length c138) l136,Res.cells b149 #[.slice p148.1 ((nth x0.next k139 ([]:List Int)).length) p148.2] 46,Res.cells b163 (arrA encSet q) 183]∧q.length=1024) (s:=(List.replicate 1024 BSet.zero)) rfl pf83 rfl rfl (by rintro _ _ _ _ ⟨rfl,hn173⟩ hle_;exact ⟨rfl,hn173⟩) ⟨rfl,List.length_replicate⟩ (fun _ _ _ h_=>by subst h_;rfl) (E1_ f165_3 hz64) ?_ ?_
  ·clear hh hz64
   rintro l_ _ _ _ τ174 l172 ⟨y64_0,y64_1⟩ z64 _ _ hh hle175 rfl ⟨rfl,hn173⟩
   dsimp only [Bl_]at hh
   replace hk148:=hk148.mono hle175
   have hn173b:=hn173
   show TC _ _ _ (upds _ [(55,setV y64_1),(54,.int .i64 y64_0)]) τ174 [Res.cells b101 #[.slice a0_0 x0.cls.length c0_0,.slice a0_1 x0.next.length c0_1,.slice a0_2 x0.fin.length c0_2] 50,Res.cells b103 #[.int .i64 0,.slice none 0 0,.slice none 0 0,.slice none 0 0] 61,Res.cells b111 #[.int .i64 ((x0.next.length:Nat):Int),.slice a108 [0].length c109,.slice a152 l151.length c153,.slice a137 l136.length c138] 61,Res.rowS 3 1 eI_ (.slice a108 [0].length c109) [0],Res.rowS 3 1 eI_ (.slice a152 l151.length c153) l151,Res.rowS 58 6 encE (.slice a137 l136.length c138) l136,Res.cells b149 #[.slice p148.1 ((nth x0.next k139 ([]:List Int)).length) p148.2] 46,Res.cells b163 (arrA encSet l172) 183]
   refine TC.isSl (i:=3) z (fun _ hb176 _=> ?_)
   refine TC.isSl (i:=4) z (fun _ hb177 _=> ?_)
   refine TC.isSl (i:=5) z (fun _ hb178 _=> ?_)
   refine TC.a (TL.i z z (TL.en (TC.region (TL.op z (OpOk.alloc z ze55 z z (fun b179=> ?_))))))
   refine TL.op z (storeAll z sz55 z z z z z z ?_)
   refine TL.nil (asg_n (fun _ _ _=> ?_))
   refine TC.block ?_
   have u60:=grd_c hh
   replace hh:=grd_t hh
   have u64:=grd_c hh
   replace hh:=grd_t hh
   have u66:=grd_c hh
   replace hh:=grd_t hh
   obtain ⟨v69,u69,hh⟩:=bnd_e hh
   have u70:=grd_c hh
   replace hh:=grd_t hh
   refine TC.draw [13] (by kernel_rfl) (TA.b 0 z (loadLoc z ag46 z (i:=7) z z) z (TA.a 1 z (moveI (.inl z) z) z (TA.b 2 z (OpVal.index z underlying46 sz3 z z hk148.rv.sl u60.1 u60.2) z (TA.b 3 z (loadS1 (0:Int) z ag3 z hk148 (by omega) z) z (TA.b 4 z (loadLoc z ag46 z (i:=7) z z) z (TA.a 5 z (moveI (.inl z) z) z (TA.b 6 z (OpVal.index z underlying46 sz3 z z hk148.rv.sl u64.1 u64.2) z (TA.b 7 z (loadS1 (0:Int) z ag3 z hk148 (by omega) z) z (TA.b 8 z (indexArr z underlying183 sz55 z z u66.1 u66.2) z (TA.b 9 z (OpVal.of (loadArr BSet.zero z ag55 sz55 z (j:=8) z encSet_len (by have:=(hn173:l172.length=1024);omega)) (v':=setV (nth l172 ((nth (nth x0.next k139 ([]:List Int)) y64_0.toNat (0:Int)).toNat) BSet.zero)) z) z (TA.b 10 z (loadAll z ag55 sz55 z (i:=0) z z) z (TA.ac 11 z (callP (Fm_ u69) z z pf76 z z z (k0 ?_))))))))))))))
   refine TA.b 12 z (indexArr z underlying183 sz55 z z u70.1 u70.2) z (TA.front 8 z z ?_)
   have hn182:(l172.set ((nth (nth x0.next k139 ([]:List Int)) y64_0.toNat (0:Int)).toNat) v69).length=1024:=(List.length_set ..).trans (hn173:l172.length=1024)
   refine TA.last 13 (by kernel_rfl) z z z (storeArr (u:=v69) z sz55 z z z encSet_len encSet_one (by have:=(hn173:l172.length=1024);omega) ?_)
   refine TZ.done (by kernel_rfl) (B.n ?_)
   obtain rfl:=so hh
   exact rnd_n ⟨z,_,Sub.f [8,8,8,8,8,8,8] 8,⟨z,hn182⟩⟩
  rintro τ174 _ _ hle175 ⟨rfl,hn173⟩ ⟨rfl⟩
  have hn173b:=hn173
  dsimp only [Dt_]at hh
  show jmpQ _ _ _ _ _ τ174 [Res.cells b101 #[.slice a0_0 x0.cls.length c0_0,.slice a0_1 x0.next.length c0_1,.slice a0_2 x0.fin.length c0_2] 50,Res.cells b103 #[.int .i64 0,.slice none 0 0,.slice none 0 0,.slice none 0 0] 61,Res.cells b111 #[.int .i64 ((x0.next.length:Nat):Int),.slice a108 [0].length c109,.slice a152 l151.length c153,.slice a137 l136.length c138] 61,Res.rowS 3 1 eI_ (.slice a108 [0].length c109) [0],Res.rowS 3 1 eI_ (.slice a152 l151.length c153) l151,Res.rowS 58 6 encE (.slice a137 l136.length c138) l136,Res.cells b149 #[.slice p148.1 ((nth x0.next k139 ([]:List Int)).length) p148.2] 46,Res.cells b163 (arrA encSet l172) 183,Res.cells b165_4 #[.slice a165_1 v54.length c165_2] 99]
  refine jmp_split hh ?_ ?_ <;>clear hh
  ·intro hh
   refine B.n (S.n (TC.seq (TC.a (TL.w rfl (loadAll rfl ag183 sz183 rfl (i:=7) rfl (by rw [arrA_size encSet_len,(hn173:l172.length=1024)])) (TL.i z z (TL.en (TC.block (TC.loopG (α:=((List Arrow)×Nat)×((Option Addr)×Nat)) (rgs [(12,2),(70,17)]) (fun g=>[(70,.int .i64 ((g.1.2:Nat):Int))]) (fun g=>[Res.cells b101 #[.slice a0_0 x0.cls.length c0_0,.slice a0_1 x0.next.length c0_1,.slice a0_2 x0.fin.length c0_2] 50,Res.cells b103 #[.int .i64 0,.slice none 0 0,.slice none 0 0,.slice none 0 0] 61,Res.cells b111 #[.int .i64 ((x0.next.length:Nat):Int),.slice a108 [0].length c109,.slice a152 l151.length c153,.slice g.2.1 g.1.1.length g.2.2] 61,Res.rowS 3 1 eI_ (.slice a108 [0].length c109) [0],Res.rowS 3 1 eI_ (.slice a152 l151.length c153) l151,Res.rowS 58 6 encE (.slice g.2.1 g.1.1.length g.2.2) g.1.1]) (fun g=>τ174) (fun g=>iter (fun q:(List Arrow)×Nat=>Ay_ l172 k139 l151 q.1 q.2) g.1=some z1) (fun g=>rounds (fun q:(List Arrow)×Nat=>Ay_ l172 k139 l151 q.1 q.2) g.1) ((l136,0),(a137,c138)) (Sub.f [5,5,5,5,5,5] 6) z (by repeat (first|exact trivial|refine ⟨z,?_⟩)) hh (fun g2 j2 hg2=> ?_)))))))))
   obtain ⟨⟨l191,k194⟩,⟨a192,c193⟩⟩:=g2
   have hh:=hg2;clear hg2
   try dsimp only
   obtain ⟨z2,hh,hR2⟩:=iter_e hh
   dsimp only [Ay_]at hh
   refine TC.isSl (i:=3) z (fun _ hb195 _=> ?_)
   refine TC.isSl (i:=4) z (fun _ hb196 _=> ?_)
   refine TC.isSl (i:=5) z (fun _ hb197 _=> ?_)
   refine TC.a (TL.w z (OpVal.lss z z z) (TL.en (TC.seq (TC.cD z hh (fun h198 hh=> ?_) (fun h198 hh=> ?_)))))
   ·refine TC.skip (S.n (TC.cutG (α:=((List Arrow))×((Option Addr)×Nat)) (rgs [(12,2),(72,14)]) (fun g=>[]) (fun g=>[Res.cells b101 #[.slice a0_0 x0.cls.length c0_0,.slice a0_1 x0.next.length c0_1,.slice a0_2 x0.fin.length c0_2] 50,Res.cells b103 #[.int .i64 0,.slice none 0 0,.slice none 0 0,.slice none 0 0] 61,Res.cells b111 #[.int .i64 ((x0.next.length:Nat):Int),.slice a108 [0].length c109,.slice a152 l151.length c153,.slice g.2.1 g.1.length g.2.2] 61,Res.rowS 3 1 eI_ (.slice a108 [0].length c109) [0],Res.rowS 3 1 eI_ (.slice a152 l151.length c153) l151,Res.rowS 58 6 encE (.slice g.2.1 g.1.length g.2.2) g.1]) (fun g=>τ174) (fun g=>Da_ k194 g.1=some z2) ?_ (fun g j hg=> ?_)))
    ·skip
     refine TC.block (TC.a (TL.i z z (TL.w z (OpVal.of (indexV BSet.zero z underlying183 sz55 ag55 z z encSet_len hn173 (by omega)) (v':=setV (nth l172 k194 BSet.zero)) z) (TL.op z (OpOk.alloc z ze55 z z (fun b202=> ?_))))))
     refine TL.i z z (TL.op z (storeAll z sz55 z z z z z z ?_))
     refine TL.en (TC.a (TL.w z (loadAll z ag55 sz55 z (i:=0) z z) (TL.w z (buildArrL z underlying55 sz53 ze55 z) (TL.w z (neqSet (s:=(nth l172 k194 BSet.zero)) (t:=BSet.zero) z underlying55 underlying53 ag53 sz53 eg55 z z) (TL.en (TC.cD z hh (fun h204 hh=> ?_) (fun h204 hh=> ?_)))))))
     ·refine TC.region (TL.w z (fieldLoc z fo61_3 z) (TL.w z (loadLoc z ag59 z (i:=3) z z) (TL.i z z (TL.i z z (TL.w z (loadAll z ag55 sz55 z (i:=0) z z) (TL.w z (buildL z pl58 ze58 z) (TL.op z (OpOk.lit (enc:=encE) [(⟨((k139:Nat):Int),((k194:Nat):Int),(nth l172 k194 BSet.zero)⟩:Arrow)] z underlying59 sz58 ze58 z z z encE_len (by decide) (by decide) Arrow.zero z (by decide) z (by decide) encE_one (fun a205 c206=> ?_)))))))))
      refine TL.front 7 z z ?_
      have u90:=grd_c hh
      replace hh:=grd_t hh
      refine TL.op z (appendS z z underlying59 sz58 by58 ze58 z z (by decide) z z z (.inr ⟨_,0,z⟩) (by simpa using u90) (by decide) (fun a208 c209=> ?_))
      refine TL.w z (fieldLoc z fo61_3 z) (TL.front 5 z z (TL.op z (storeSl z sz59 z z z z z ?_)))
      exact TL.nil (B.n (S.n (cf ((l191++[(⟨((k139:Nat):Int),((k194:Nat):Int),(nth l172 k194 BSet.zero)⟩:Arrow)]),(a208,c209)) hh (Sub.f [1,7,7,3,7,7] 6))))
     exact TC.skip (B.n (S.n (cf (l191,(a192,c193)) hh (Sub.f [6,6,6,6,6,6] 6))))
    skip
    obtain ⟨l199,⟨a200,c201⟩⟩:=g
    have hh:=hg;clear hg
    try dsimp only
    dsimp only [Da_]at hh
    refine TC.isSl (i:=3) z (fun _ hb210 _=> ?_)
    refine TC.isSl (i:=4) z (fun _ hb211 _=> ?_)
    refine TC.isSl (i:=5) z (fun _ hb212 _=> ?_)
    refine TC.region (TL.w z (OpVal.succ z z z (by omega)) (TL.i z z (TL.en ?_)))
    obtain ⟨hh,hlt213⟩:=nxt_x hR2 hh
    exact lf ((l199,(k194+1)),(a200,c201)) hlt213 hh (Sub.f [5,5,5,5,5,5] 6)
   refine TC.exit (S.x (S.x ?_))
   replace hh:=fin_x hR2 hh
   refine TC.exitHere (S.n (TC.a (TL.w z (fieldLoc z fo61_3 z) (TL.w z (loadLoc z ag59 z (i:=2) z z) (TL.w z (lenC z underlying59 z) (TL.w z (OpVal.gtr z z z) (TL.en (TC.cD z hh (fun h214 hh=> ?_) (fun h214 hh=> ?_)))))))))
   ·refine TC.a (TL.w z (buildL z pl61 ze61 z) (TL.front 1 z z (TL.op z (storeAll z sz61 z z z z z z ?_))))
    refine TL.i z z (TL.en (TC.rt 1 (B.r (S.r (S.r ?_)))))
    replace hh:=fin_x hR1 hh
    refine B.r (S.r ?_)
    obtain rfl:=so hh
    exact ro [] z (RVs.agg ag61 sz61 z (i:=0) z z (RVs.tmp z RVs.nil)) ⟨none,0,none,0,none,0,z,(RS.nilF _ eI_ eIl_),(RS.nilF _ eI_ eIl_),(RS.nilF _ encE encE_len),z⟩
   refine TC.skip (B.n (S.n (TC.region (TL.w z (OpVal.succ z z z (by omega)) (TL.i z z (TL.en ?_))))))
   obtain ⟨hh,hlt215⟩:=nxt_x hR1 hh
   exact lf ((l151,l191,(k139+1)),(a152,c153,a192,c193,τ174)) hlt215 ⟨hh,((hle143.trans hle165).trans hle175)⟩ (Sub.f [5,5,5,5,5,5] 6)
  intro m_ c_ hh hc_
  exact jl_nil hc_
 refine TC.exit (S.x (S.x ?_))
 replace hh:=fin_x hR1 hh
 refine TC.exitHere (S.n (TC.a (TL.w z (loadAll z ag61 sz61 z (i:=2) z z) (TL.front 1 z z (TL.op z (storeAll z sz61 z z z z z z ?_))))))
 refine TL.i z z (TL.en (TC.front 3 z z (TC.sealS eIl_ (fun τ218 hle217 hr216=> ?_))))
 have hr216b:=hr216.rv.big
 refine TC.front 3 z z (TC.sealS eIl_ (fun τ221 hle220 hr219=> ?_))
 replace hr216:=hr216.mono hle220
 have hr219b:=hr219.rv.big
 refine TC.front 3 z z (TC.sealS encE_len (fun τ224 hle223 hr222=> ?_))
 replace hr216:=hr216.mono hle223
 replace hr219:=hr219.mono hle223
 have hr222b:=hr222.rv.big
 refine TC.rt 1 ?_
 obtain rfl:=so hh
 exact ro [] z (RVs.agg ag61 sz61 z (i:=0) z z (RVs.tmp z RVs.nil)) ⟨a108,c109,a133,c134,a137,c138,z,hr216,hr219,hr222,z⟩
def A9_(v5:Nfa×Int)(x2:Bool)(i254:Int)(l256:List Tip)(l260:List Tip)(l264:List Arc)(t267:Bool)(k268:Nat):Option ((Int×(List Tip)×(List Tip)×(List Arc)×Bool×Nat)⊕(Fst×Int)):=
 iteO (decide (((k268:Nat):Int)<((v5.1.edges.length:Nat):Int))) (bnd (C2_ (⟨(⟨i254,l256,l260,l264⟩:Fst),t267⟩:Grow) (⟨(nth v5.1.edges k268 Arrow.zero).frm,(nth v5.1.edges k268 Arrow.zero).to,(nth v5.1.edges k268 Arrow.zero).set,([]:List UInt8),x2⟩:Arc)) (fun v77=>nxt (v77.f.states,v77.f.starts,v77.f.ends,v77.f.arcs,v77.over,(k268+1)))) (fin (bnd (Cd_ (⟨(⟨i254,l256,l260,l264⟩:Fst),t267⟩:Grow)) (fun v87=>some ((⟨v87.1.states,v87.1.starts,v87.1.ends,v87.1.arcs⟩:Fst),v87.2))))
def Aw_(v5:Nfa×Int)(x1:List UInt8)(x2:Bool)(i200:Int)(l202:List Tip)(l206:List Tip)(l210:List Arc)(t213:Bool)(k214:Nat):Option ((Int×(List Tip)×(List Tip)×(List Arc)×Bool×Nat)⊕(Fst×Int)):=
 iteO (decide (((k214:Nat):Int)<((v5.1.ends.length:Nat):Int))) (bnd (C1_ (⟨(⟨i200,l202,l206,l210⟩:Fst),t213⟩:Grow) (⟨(nth v5.1.ends k214 (0:Int)),x1⟩:Tip)) (fun v56=>nxt (v56.f.states,v56.f.starts,v56.f.ends,v56.f.arcs,v56.over,(k214+1)))) (fin (iter (fun q:Int×(List Tip)×(List Tip)×(List Arc)×Bool×Nat=>A9_ v5 x2 q.1 q.2.1 q.2.2.1 q.2.2.2.1 q.2.2.2.2.1 q.2.2.2.2.2) (i200,l202,l206,l210,t213,0)))
def A5_(v5:Nfa×Int)(x1:List UInt8)(x2:Bool)(i143:Int)(l145:List Tip)(l149:List Tip)(l153:List Arc)(t156:Bool)(k157:Nat):Option ((Int×(List Tip)×(List Tip)×(List Arc)×Bool×Nat)⊕(Fst×Int)):=
 iteO (decide (((k157:Nat):Int)<((v5.1.starts.length:Nat):Int))) (bnd (B7_ (⟨(⟨i143,l145,l149,l153⟩:Fst),t156⟩:Grow) (⟨(nth v5.1.starts k157 (0:Int)),([]:List UInt8)⟩:Tip)) (fun v41=>nxt (v41.f.states,v41.f.starts,v41.f.ends,v41.f.arcs,v41.over,(k157+1)))) (fin (iter (fun q:Int×(List Tip)×(List Tip)×(List Arc)×Bool×Nat=>Aw_ v5 x1 x2 q.1 q.2.1 q.2.2.1 q.2.2.2.1 q.2.2.2.2.1 q.2.2.2.2.2) (i143,l145,l149,l153,t156,0)))
def E8_(x0:Dfa)(x1:List UInt8)(x2:Bool):Option (Fst×Int):=
 grd (x1.length≤281474976710656) (bnd (E7_ x0) (fun v5=>iteO (decide (v5.2≠0)) (some ((⟨0,([]:List Tip),([]:List Tip),([]:List Arc)⟩:Fst),v5.2)) (iter (fun q:Int×(List Tip)×(List Tip)×(List Arc)×Bool×Nat=>A5_ v5 x1 x2 q.1 q.2.1 q.2.2.1 q.2.2.2.1 q.2.2.2.2.1 q.2.2.2.2.2) (v5.1.states,([]:List Tip),([]:List Tip),([]:List Arc),false,0))))
def Hn_(σ:Store)(r:Fst×Int):Value→Store→List Res→Prop:=fun v σ' H'=>
 ∃a1 c1 a2 c2 a3 c3,v= .tuple #[.agg #[.int .i64 r.1.states,.slice a1 r.1.starts.length c1,.slice a2 r.1.ends.length c2,.slice a3 r.1.arcs.length c3],.int .i64 r.2]∧RS σ' 2 encTip (.slice a1 r.1.starts.length c1) r.1.starts∧RS σ' 2 encTip (.slice a2 r.1.ends.length c2) r.1.ends∧RS σ' 8 encArc (.slice a3 r.1.arcs.length c3) r.1.arcs∧H'=[]
theorem Gv_{x0:Dfa}{x1:List UInt8}{x2:Bool}(f0_0:RS σ 1 eI_ (.slice a0_0 x0.cls.length c0_0) x0.cls)(f0_1:RZ σ (pkSl 1 eI_ eIl_) (.slice a0_1 x0.next.length c0_1) x0.next)(f0_2:RS σ 1 encB (.slice a0_2 x0.fin.length c0_2) x0.fin){r:Fst×Int}(hh:E8_ x0 x1 x2=some r):
  Con Tryz.prog 49 #[.agg #[.slice a0_0 x0.cls.length c0_0,.slice a0_1 x0.next.length c0_1,.slice a0_2 x0.fin.length c0_2],.string (bs x1),.bool x2] σ [] (Hn_ σ r):=by
 dsimp only [E8_]at hh
 have f0_0b:=f0_0.rv.big
 have f0_1b:=f0_1.big
 have f0_2b:=f0_2.rv.big
 refine Con.mkD (n:=77) Tryz.func49 z z z (fun w0=> ?_)
 have x1b:=grd_c hh
 replace hh:=grd_t hh
 refine TB.seq endR_ret (TC.region (TL.op z (boxA z z z z (fun b101=> ?_))))
 refine TL.op z (OpOk.alloc z ze25 z z (fun b103=> ?_))
 refine TL.op z (OpOk.alloc z ze27 z z (fun b105=> ?_))
 refine TL.en (TB.seq endR_ret (TC.region (TL.w z (loadAll z ag50 sz50 z (i:=2) z z) ?_)))
 obtain ⟨v5,u5,hh⟩:=bnd_e hh
 refine TL.op z (OpOk.call (G4_ (x0:=x0) f0_0 f0_1 f0_2 u5) z z pf85 z z z z ?_)
 rintro _ τ107 _ hle107 ⟨a107_1,c107_1,a107_2,c107_2,a107_3,c107_3,rfl,hr107_0,hr107_1,hr107_2,rfl⟩
 have hr107_0b:=hr107_0.rv.big
 have hr107_1b:=hr107_1.rv.big
 have hr107_2b:=hr107_2.rv.big
 refine TL.w z (moveT (.inl z) z) (TL.w z (OpVal.extract z z z) (TL.w z (OpVal.extract z z z) (TL.op z (OpOk.alloc z ze61 z z (fun b108=> ?_)))))
 refine TL.op z (storeAll z sz61 z z z z z z ?_)
 refine TL.front 1 z z (TL.op z (storeI z sz27 z z z z z ?_))
 refine TL.en (TB.seq endR_ret (TC.a (TL.w z (loadLoc z ag27 z (i:=0) z z) (TL.w z (OpVal.neq z z z) (TL.en (TC.cD z hh (fun h110 hh=> ?_) (fun h110 hh=> ?_)))))))
 ·refine TC.a (TL.w z (buildL z pl25 ze25 z) (TL.w z (loadLoc z ag27 z (i:=0) z z) (TL.front 2 z z (TL.op z (storeAll z sz25 z z z z z z ?_)))))
  refine TL.front 1 z z (TL.op z (storeI z sz27 z z z z z ?_))
  refine TL.en (TC.ofSub (Sub.f [1] 2) (TC.ret (S.r ?_)))
  obtain rfl:=so hh
  exact ro [] z (RVs.agg ag25 sz25 z (i:=0) z z (RVs.one ag27 z (i:=1) z z RVs.nil)) ⟨none,0,none,0,none,0,z,(RS.nilF _ encTip encTip_len),(RS.nilF _ encTip encTip_len),(RS.nilF _ encArc encArc_len),z⟩
 refine TC.skip (S.n (TB.seq endR_ret (TC.region (TL.w z (buildL z pl163 ze163 z) (TL.op z (boxA z z z z (fun b111=> ?_)))))))
 refine TL.l z z (TL.en (TB.seqD (TLB.v z (moveLoc (.inl z) z) z z (TLB.dfr (dargs:=[loc b111 0,loc b103 0,loc b105 0]) z z z z z (fun a_ w_ hw_ ha_=> ?_)))))
 refine TB.fin (Q:=dfrQ _ _ _ _ 86 [loc b111 0,loc b103 0,loc b105 0]) (endR_dfr (cap:=[]) (dargs:=[loc b111 0,loc b103 0,loc b105 0]) pf86) ?_ w_ a_ hw_ ha_
 clear hw_ ha_ a_ w_
 refine TC.a (TL.l z z (TL.w z (fieldLoc z fo61_0 z) (TL.w z (loadLoc z ag3 z (i:=2) z z) (TL.w z (nilCheckLoc z z) (TL.w z (fieldLoc z fo163_0 z) (TL.w z (fieldLoc z fo25_0 z) (TL.op z (storeI z sz3 z z z z z ?_))))))))
 refine TL.en (TC.seq (TC.a (TL.w z (fieldLoc z fo61_1 z) (TL.w z (loadLoc z ag46 z (i:=2) z z) (TL.w z (lenC z underlying46 z) (TL.i z z (TL.en (TC.block (TC.nilS 43 2 encTip (TC.nilS 43 2 encTip (TC.nilS 66 8 encArc (TC.loopG (α:=(Int×(List Tip)×(List Tip)×(List Arc)×Bool×Nat)×((Option Addr)×Nat×(Option Addr)×Nat×(Option Addr)×Nat)) (rgs [(11,1),(37,9)]) (fun g=>[(37,.int .i64 ((g.1.2.2.2.2.2:Nat):Int))]) (fun g=>[Res.cells b103 #[.int .i64 0,.slice none 0 0,.slice none 0 0,.slice none 0 0] 25,Res.cells b105 #[.int .i64 v5.2] 27,Res.cells b108 #[.int .i64 v5.1.states,.slice a107_1 v5.1.starts.length c107_1,.slice a107_2 v5.1.ends.length c107_2,.slice a107_3 v5.1.edges.length c107_3] 61,Res.cells b111 #[.int .i64 g.1.1,.slice g.2.1 g.1.2.1.length g.2.2.1,.slice g.2.2.2.1 g.1.2.2.1.length g.2.2.2.2.1,.slice g.2.2.2.2.2.1 g.1.2.2.2.1.length g.2.2.2.2.2.2,.bool g.1.2.2.2.2.1] 163,Res.rowS 43 2 encTip (.slice g.2.1 g.1.2.1.length g.2.2.1) g.1.2.1,Res.rowS 43 2 encTip (.slice g.2.2.2.1 g.1.2.2.1.length g.2.2.2.2.1) g.1.2.2.1,Res.rowS 66 8 encArc (.slice g.2.2.2.2.2.1 g.1.2.2.2.1.length g.2.2.2.2.2.2) g.1.2.2.2.1]) (fun g=>τ107) (fun g=>iter (fun q:Int×(List Tip)×(List Tip)×(List Arc)×Bool×Nat=>A5_ v5 x1 x2 q.1 q.2.1 q.2.2.1 q.2.2.2.1 q.2.2.2.2.1 q.2.2.2.2.2) g.1=some r) (fun g=>rounds (fun q:Int×(List Tip)×(List Tip)×(List Arc)×Bool×Nat=>A5_ v5 x1 x2 q.1 q.2.1 q.2.2.1 q.2.2.2.1 q.2.2.2.2.1 q.2.2.2.2.2) g.1) ((v5.1.states,([]:List Tip),([]:List Tip),([]:List Arc),false,0),(none,0,none,0,none,0)) (Sub.f [1,2,3,5,5,6] 7) z (by repeat (first|exact trivial|refine ⟨z,?_⟩)) hh (fun g1 j1 hg1=> ?_)))))))))))))
 obtain ⟨⟨i143,l145,l149,l153,t156,k157⟩,⟨a146,c147,a150,c151,a154,c155⟩⟩:=g1
 have hh:=hg1;clear hg1
 try dsimp only
 obtain ⟨z1,hh,hR1⟩:=iter_e hh
 dsimp only [A5_]at hh
 refine TC.isSl (i:=4) z (fun _ hb161 _=> ?_)
 refine TC.isSl (i:=5) z (fun _ hb162 _=> ?_)
 refine TC.isSl (i:=6) z (fun _ hb163 _=> ?_)
 refine TC.a (TL.w z (OpVal.lss z z z) (TL.en (TC.seq (TC.cD z hh (fun h164 hh=> ?_) (fun h164 hh=> ?_)))))
 ·refine TC.skip (S.n (TC.seq (TC.block (TC.a (TL.w z (indexN z underlying46 sz3 z z hr107_0.rv.sl (by omega)) (TL.w z (loadS1 (0:Int) z ag3 z hr107_0 (by omega) z) (TL.i z z (TL.en (TC.region (TL.l z z (TL.i z z (TL.w z (buildL z pl43 ze43 z) (TL.front 6 z z (TL.front 6 z z (TL.front 6 z z ?_)))))))))))))))
  refine TL.front 6 z z ?_
  obtain ⟨v41,u41,hh⟩:=bnd_e hh
  refine TL.op z (OpOk.call (Ge_ u41) z z pf87 z z z z ?_)
  rintro _ _ _ hle165 ⟨a165_1,c165_2,a165_3,c165_4,a165_5,c165_6,rfl,rfl,rfl⟩
  refine TL.nil (B.n (S.n (TC.region (TL.w z (OpVal.succ z z z (by omega)) (TL.i z z (TL.en ?_))))))
  obtain ⟨hh,hlt169⟩:=nxt_x hR1 hh
  exact lf ((v41.f.states,v41.f.starts,v41.f.ends,v41.f.arcs,v41.over,(k157+1)),(a165_1,c165_2,a165_3,c165_4,a165_5,c165_6)) hlt169 hh (Sub.f [3,3,3,3,6,6,6] 7)
 refine TC.exit (S.x (S.x ?_))
 replace hh:=fin_x hR1 hh
 refine TC.exitHere (S.n (TC.seq (TC.a (TL.w z (fieldLoc z fo61_2 z) (TL.w z (loadLoc z ag46 z (i:=2) z z) (TL.w z (lenC z underlying46 z) (TL.i z z (TL.en (TC.block (TC.loopG (α:=(Int×(List Tip)×(List Tip)×(List Arc)×Bool×Nat)×((Option Addr)×Nat×(Option Addr)×Nat×(Option Addr)×Nat)) (rgs [(13,1),(49,10)]) (fun g=>[(49,.int .i64 ((g.1.2.2.2.2.2:Nat):Int))]) (fun g=>[Res.cells b103 #[.int .i64 0,.slice none 0 0,.slice none 0 0,.slice none 0 0] 25,Res.cells b105 #[.int .i64 v5.2] 27,Res.cells b108 #[.int .i64 v5.1.states,.slice a107_1 v5.1.starts.length c107_1,.slice a107_2 v5.1.ends.length c107_2,.slice a107_3 v5.1.edges.length c107_3] 61,Res.cells b111 #[.int .i64 g.1.1,.slice g.2.1 g.1.2.1.length g.2.2.1,.slice g.2.2.2.1 g.1.2.2.1.length g.2.2.2.2.1,.slice g.2.2.2.2.2.1 g.1.2.2.2.1.length g.2.2.2.2.2.2,.bool g.1.2.2.2.2.1] 163,Res.rowS 43 2 encTip (.slice g.2.1 g.1.2.1.length g.2.2.1) g.1.2.1,Res.rowS 43 2 encTip (.slice g.2.2.2.1 g.1.2.2.1.length g.2.2.2.2.1) g.1.2.2.1,Res.rowS 66 8 encArc (.slice g.2.2.2.2.2.1 g.1.2.2.2.1.length g.2.2.2.2.2.2) g.1.2.2.2.1]) (fun g=>τ107) (fun g=>iter (fun q:Int×(List Tip)×(List Tip)×(List Arc)×Bool×Nat=>Aw_ v5 x1 x2 q.1 q.2.1 q.2.2.1 q.2.2.2.1 q.2.2.2.2.1 q.2.2.2.2.2) g.1=some r) (fun g=>rounds (fun q:Int×(List Tip)×(List Tip)×(List Arc)×Bool×Nat=>Aw_ v5 x1 x2 q.1 q.2.1 q.2.2.1 q.2.2.2.1 q.2.2.2.2.1 q.2.2.2.2.2) g.1) ((i143,l145,l149,l153,t156,0),(a146,c147,a150,c151,a154,c155)) (Sub.f [6,6,6,6,6,6,6] 7) z (by repeat (first|exact trivial|refine ⟨z,?_⟩)) hh (fun g2 j2 hg2=> ?_)))))))))))
 obtain ⟨⟨i200,l202,l206,l210,t213,k214⟩,⟨a203,c204,a207,c208,a211,c212⟩⟩:=g2
 have hh:=hg2;clear hg2
 try dsimp only
 obtain ⟨z1,hh,hR1⟩:=iter_e hh
 dsimp only [Aw_]at hh
 refine TC.isSl (i:=4) z (fun _ hb215 _=> ?_)
 refine TC.isSl (i:=5) z (fun _ hb216 _=> ?_)
 refine TC.isSl (i:=6) z (fun _ hb217 _=> ?_)
 refine TC.a (TL.w z (OpVal.lss z z z) (TL.en (TC.seq (TC.cD z hh (fun h218 hh=> ?_) (fun h218 hh=> ?_)))))
 ·refine TC.skip (S.n (TC.seq (TC.block (TC.a (TL.w z (indexN z underlying46 sz3 z z hr107_1.rv.sl (by omega)) (TL.w z (loadS1 (0:Int) z ag3 z hr107_1 (by omega) z) (TL.i z z (TL.en (TC.region (TL.l z z (TL.i z z (TL.w z (moveStr (.inl z) z) (TL.w z (buildL z pl43 ze43 z) (TL.front 6 z z (TL.front 6 z z ?_)))))))))))))))
  refine TL.front 6 z z (TL.front 6 z z ?_)
  obtain ⟨v56,u56,hh⟩:=bnd_e hh
  refine TL.op z (OpOk.call (Gh_ u56) z z pf88 z z z z ?_)
  rintro _ _ _ hle219 ⟨a219_1,c219_2,a219_3,c219_4,a219_5,c219_6,rfl,rfl,rfl⟩
  refine TL.nil (B.n (S.n (TC.region (TL.w z (OpVal.succ z z z (by omega)) (TL.i z z (TL.en ?_))))))
  obtain ⟨hh,hlt223⟩:=nxt_x hR1 hh
  exact lf ((v56.f.states,v56.f.starts,v56.f.ends,v56.f.arcs,v56.over,(k214+1)),(a219_1,c219_2,a219_3,c219_4,a219_5,c219_6)) hlt223 hh (Sub.f [3,3,3,3,6,6,6] 7)
 refine TC.exit (S.x (S.x ?_))
 replace hh:=fin_x hR1 hh
 refine TC.exitHere (S.n (TC.seq (TC.a (TL.w z (fieldLoc z fo61_3 z) (TL.w z (loadLoc z ag59 z (i:=2) z z) (TL.w z (lenC z underlying59 z) (TL.i z z (TL.en (TC.block (TC.loopG (α:=(Int×(List Tip)×(List Tip)×(List Arc)×Bool×Nat)×((Option Addr)×Nat×(Option Addr)×Nat×(Option Addr)×Nat)) (rgs [(15,1),(62,15)]) (fun g=>[(62,.int .i64 ((g.1.2.2.2.2.2:Nat):Int))]) (fun g=>[Res.cells b103 #[.int .i64 0,.slice none 0 0,.slice none 0 0,.slice none 0 0] 25,Res.cells b105 #[.int .i64 v5.2] 27,Res.cells b111 #[.int .i64 g.1.1,.slice g.2.1 g.1.2.1.length g.2.2.1,.slice g.2.2.2.1 g.1.2.2.1.length g.2.2.2.2.1,.slice g.2.2.2.2.2.1 g.1.2.2.2.1.length g.2.2.2.2.2.2,.bool g.1.2.2.2.2.1] 163,Res.rowS 43 2 encTip (.slice g.2.1 g.1.2.1.length g.2.2.1) g.1.2.1,Res.rowS 43 2 encTip (.slice g.2.2.2.1 g.1.2.2.1.length g.2.2.2.2.1) g.1.2.2.1,Res.rowS 66 8 encArc (.slice g.2.2.2.2.2.1 g.1.2.2.2.1.length g.2.2.2.2.2.2) g.1.2.2.2.1]) (fun g=>τ107) (fun g=>iter (fun q:Int×(List Tip)×(List Tip)×(List Arc)×Bool×Nat=>A9_ v5 x2 q.1 q.2.1 q.2.2.1 q.2.2.2.1 q.2.2.2.2.1 q.2.2.2.2.2) g.1=some r) (fun g=>rounds (fun q:Int×(List Tip)×(List Tip)×(List Arc)×Bool×Nat=>A9_ v5 x2 q.1 q.2.1 q.2.2.1 q.2.2.2.1 q.2.2.2.2.1 q.2.2.2.2.2) g.1) ((i200,l202,l206,l210,t213,0),(a203,c204,a207,c208,a211,c212)) (Sub.f [6,6,6,6,5,5] 6) z (by repeat (first|exact trivial|refine ⟨z,?_⟩)) hh (fun g3 j3 hg3=> ?_)))))))))))
 obtain ⟨⟨i254,l256,l260,l264,t267,k268⟩,⟨a257,c258,a261,c262,a265,c266⟩⟩:=g3
 have hh:=hg3;clear hg3
 try dsimp only
 obtain ⟨z1,hh,hR1⟩:=iter_e hh
 dsimp only [A9_]at hh
 refine TC.isSl (i:=3) z (fun _ hb269 _=> ?_)
 refine TC.isSl (i:=4) z (fun _ hb270 _=> ?_)
 refine TC.isSl (i:=5) z (fun _ hb271 _=> ?_)
 refine TC.a (TL.w z (OpVal.lss z z z) (TL.en (TC.seq (TC.cD z hh (fun h272 hh=> ?_) (fun h272 hh=> ?_)))))
 ·refine TC.skip (S.n (TC.seq (TC.block (TC.a (TL.w z (indexN z underlying59 sz58 z z hr107_2.rv.sl (by omega)) (TL.w z (loadSA Arrow.zero z ag58 sz58 z hr107_2 (by omega) (by omega)) (TL.op z (OpOk.alloc z ze58 z z (fun b273=> ?_)))))))))
  refine TL.op z (storeAll z sz58 z z z z z z ?_)
  refine TL.en (TC.region (TL.l z z (TL.w z (fieldLoc z fo58_0 z) (TL.w z (loadLoc z ag3 z (i:=0) z z) (TL.w z (fieldLoc z fo58_1 z) (TL.w z (loadLoc z ag3 z (i:=0) z z) (TL.w z (fieldLoc z fo58_2 z) (TL.w z (loadLocA z ag55 sz55 z (i:=0) z z z) (TL.j z z (TL.w z (buildL z pl66 ze66 z) (TL.front 6 z z (TL.front 6 z z (TL.front 6 z z (TL.front 6 z z ?_))))))))))))))
  obtain ⟨v77,u77,hh⟩:=bnd_e hh
  refine TL.op z (OpOk.call (Gi_ u77) z z pf89 z z z z ?_)
  rintro _ _ _ hle275 ⟨a275_1,c275_2,a275_3,c275_4,a275_5,c275_6,rfl,rfl,rfl⟩
  refine TL.nil (B.n (S.n (TC.region (TL.w z (OpVal.succ z z z (by omega)) (TL.i z z (TL.en ?_))))))
  obtain ⟨hh,hlt279⟩:=nxt_x hR1 hh
  exact lf ((v77.f.states,v77.f.starts,v77.f.ends,v77.f.arcs,v77.over,(k268+1)),(a275_1,c275_2,a275_3,c275_4,a275_5,c275_6)) hlt279 hh (Sub.f [3,3,3,3,6,6] 6)
 refine TC.exit (S.x (S.x ?_))
 replace hh:=fin_x hR1 hh
 refine TC.exitHere (S.n (TC.front 1 z z (TC.front 1 z z (TC.front 5 z z (TC.front 5 z z (TC.front 5 z z (TC.front 5 z z ?_)))))))
 obtain ⟨v87,u87,hh⟩:=bnd_e hh
 refine TC.ret (⟨.inl z,_,Sub.pre 6 z,(Gg_ u87).mono ?_⟩)
 rintro _ τ280 _ hle280 ⟨a280_1,c280_2,a280_4,c280_5,a280_7,c280_8,rfl,f280_3,f280_6,f280_9,rfl⟩
 have f280_3b:=f280_3.rv.big
 have f280_6b:=f280_6.rv.big
 have f280_9b:=f280_9.rv.big
 obtain rfl:=so hh
 exact RetOk.mk' (rs:=[.cell 6 25,.cell 7 27]) [] z (.inl z) (RVs.agg ag25 sz25 z (i:=0) z z (RVs.one ag27 z (i:=1) z z RVs.nil)) (List.nil_sublist _) ⟨a280_1,c280_2,a280_4,c280_5,a280_7,c280_8,z,f280_3,f280_6,f280_9,z⟩
def Dm_(x0:Dfa)(x1:List UInt8):Option (Fst×Int):=
 grd (x1.length≤281474976710656) (bnd (Dj_ x0) (fun v5=>iteO (decide (v5≠0)) (some ((⟨0,([]:List Tip),([]:List Tip),([]:List Arc)⟩:Fst),1)) (iteO (decide (1024<((x1.length:Nat):Int))) (some ((⟨0,([]:List Tip),([]:List Tip),([]:List Arc)⟩:Fst),2)) (bnd (E8_ x0 x1 false) (fun v18=>some (v18.1,v18.2))))))
def G8_(σ:Store)(r:Fst×Int):Value→Store→List Res→Prop:=fun v σ' H'=>
 ∃a1 c1 a2 c2 a3 c3,v= .tuple #[.agg #[.int .i64 r.1.states,.slice a1 r.1.starts.length c1,.slice a2 r.1.ends.length c2,.slice a3 r.1.arcs.length c3],.int .i64 r.2]∧RS σ' 2 encTip (.slice a1 r.1.starts.length c1) r.1.starts∧RS σ' 2 encTip (.slice a2 r.1.ends.length c2) r.1.ends∧RS σ' 8 encArc (.slice a3 r.1.arcs.length c3) r.1.arcs∧H'=[]
theorem F2_{x0:Dfa}{x1:List UInt8}(f0_0:RS σ 1 eI_ (.slice a0_0 x0.cls.length c0_0) x0.cls)(f0_1:RZ σ (pkSl 1 eI_ eIl_) (.slice a0_1 x0.next.length c0_1) x0.next)(f0_2:RS σ 1 encB (.slice a0_2 x0.fin.length c0_2) x0.fin){r:Fst×Int}(hh:Dm_ x0 x1=some r):
  Con Tryz.prog 29 #[.agg #[.slice a0_0 x0.cls.length c0_0,.slice a0_1 x0.next.length c0_1,.slice a0_2 x0.fin.length c0_2],.string (bs x1)] σ [] (G8_ σ r):=by
 dsimp only [Dm_]at hh
 have f0_0b:=f0_0.rv.big
 have f0_1b:=f0_1.big
 have f0_2b:=f0_2.rv.big
 refine Con.mk (n:=19) Tryz.func29 z z z (fun w0=> ?_)
 have x1b:=grd_c hh
 replace hh:=grd_t hh
 refine TC.a (TL.op z (boxA z z z z (fun b101=> ?_)))
 refine TL.op z (OpOk.alloc z ze25 z z (fun b103=> ?_))
 refine TL.i z z (TL.en (TC.seq (TC.a (TL.w z (loadAll z ag50 sz50 z (i:=1) z z) ?_))))
 obtain ⟨v5,u5,hh⟩:=bnd_e hh
 refine TL.op z (callP (F3_ (x0:=x0) f0_0 f0_1 f0_2 u5) z z pf48 z z z ?_)
 refine TL.w z (OpVal.neq z z z) (TL.en (TC.cD z hh (fun h105 hh=> ?_) (fun h105 hh=> ?_)))
 ·refine TC.a (TL.w z (buildL z pl25 ze25 z) (TL.op z (storeAll z sz25 z z z z z z ?_)))
  refine TL.i z z (TL.en (TC.rt 1 (S.r ?_)))
  obtain rfl:=so hh
  exact ro [] z (RVs.agg ag25 sz25 z (i:=0) z z (RVs.tmp z RVs.nil)) ⟨none,0,none,0,none,0,z,(RS.nilF _ encTip encTip_len),(RS.nilF _ encTip encTip_len),(RS.nilF _ encArc encArc_len),z⟩
 refine TC.skip (S.n (TC.seq (TC.a (TL.w z (moveStr (.inl z) z) (TL.w z (lenBs z underlying9 z) (TL.w z (OpVal.gtr z z z) (TL.en (TC.cD z hh (fun h106 hh=> ?_) (fun h106 hh=> ?_)))))))))
 ·refine TC.a (TL.w z (buildL z pl25 ze25 z) (TL.op z (storeAll z sz25 z z z z z z ?_)))
  refine TL.i z z (TL.en (TC.rt 1 (S.r ?_)))
  obtain rfl:=so hh
  exact ro [] z (RVs.agg ag25 sz25 z (i:=0) z z (RVs.tmp z RVs.nil)) ⟨none,0,none,0,none,0,z,(RS.nilF _ encTip encTip_len),(RS.nilF _ encTip encTip_len),(RS.nilF _ encArc encArc_len),z⟩
 refine TC.skip (S.n (TC.a (TL.w z (loadAll z ag50 sz50 z (i:=1) z z) (TL.w z (moveStr (.inl z) z) ?_))))
 obtain ⟨v18,u18,hh⟩:=bnd_e hh
 refine TL.op z (OpOk.call (Gv_ (x0:=x0) f0_0 f0_1 f0_2 u18) z z pf49 z z z z ?_)
 rintro _ τ107 _ hle107 ⟨a107_1,c107_1,a107_2,c107_2,a107_3,c107_3,rfl,hr107_0,hr107_1,hr107_2,rfl⟩
 have hr107_0b:=hr107_0.rv.big
 have hr107_1b:=hr107_1.rv.big
 have hr107_2b:=hr107_2.rv.big
 refine TL.w z (OpVal.extract z z z) (TL.w z (OpVal.extract z z z) (TL.op z (storeAll z sz25 z z z z z z ?_)))
 refine TL.i z z (TL.en (TC.rt 1 ?_))
 obtain rfl:=so hh
 exact ro [] z (RVs.agg ag25 sz25 z (i:=0) z z (RVs.tmp z RVs.nil)) ⟨a107_1,c107_1,a107_2,c107_2,a107_3,c107_3,z,hr107_0,hr107_1,hr107_2,z⟩
end Go.Proofs.YtamgjehhjkgelaaGreatDoor
end
