/- Parts of a proof, one behind the other: what a machine reaches, functions decompiled, plain lemmas. Conditions stand with each lemma. -/
import Derived.Test.YtnpbfjdpglfdkaaGreatDoorBdb19d5a1f3
import Derived.Shelf.SlSortCmp.NoneTotal
import Derived.Shelf.Sort.Plain
import Derived.Shelf.Slices.In.SortNone
import Derived.Test.YtnpbfjdpglfdkaaGreatDoorProg
import Derived.Test.YtnpbfjdpglfdkaaGreatDoorChecked

set_option linter.unusedVariables false
set_option linter.unusedSimpArgs false
set_option linter.unusedSectionVars false
set_option maxRecDepth 100000
set_option maxHeartbeats 8000000
variable {σ:Go.E.Store}{a0_0 a0_1 a0_2 a1_0 a1_1 a2_0:Option Go.Addr}{Eb0 b0_0 b0_5 c0_0 c0_1 c0_2 c1_0 c1_2 c2_0:Nat}

noncomputable section
namespace Go.E
open Go Go.Sort Go.Proofs Go.Shelf
theorem Reach.grown{w w':World}{H:List Res}(h:Reach w [] (fun _=>none) σ w' H): ∃q os',w'=grow (w.drewN q) os':=by
  refine ⟨w'.drawn - w.drawn,w'.heap.extract w.heap.size w'.heap.size,?_⟩
  have h1:w'.heap=w.heap++w'.heap.extract w.heap.size w'.heap.size:=by
    apply Array.ext_getElem?
    intro i
    rw [Array.getElem?_append]
    split
    · rename_i hi;exact h.frame i hi (by simp)
    rename_i hi
    by_cases hl:i<w'.heap.size
    · rw [Array.getElem?_extract_of_lt (by omega)];simp only [show w.heap.size+(i - w.heap.size)=i by omega];exact Array.getElem?_eq_getElem hl
    rw [Array.getElem?_eq_none (by omega),Array.getElem?_eq_none (by simp;omega)]
  have h2:=h.drawn
  cases w' with
  |mk heap tape drawn os output=>
    have e1:=h.os;have e2:=h.tape;have e3:=h.output
    simp only at h1 h2 e1 e2 e3
    simp only [grow,World.drewN]
    rw [World.mk.injEq]
    exact ⟨h1,e2,by omega,e1,e3⟩
theorem reach_nil(w:World):Reach w [] (fun _=>none) (fun _=>none) w []:=
  ⟨rfl,rfl,rfl,Nat.le_refl _,fun _ _ _=>rfl,Store.le.refl _,(fun _ _ h=>by cases h),(fun _ _ h=>by cases h),by simp,by simp,by simp [blks],by simp,Nat.le_refl _⟩
section
variable {α:Type} [Inhabited α] {P:Program}
theorem cmpLays1_of{g:Nat}{enc:α→Value}{cf:α→α→Int}{blk off size:Nat}{w:World}(h: ∀x y τ,Con P g #[enc x,enc y] τ [] (PureP (.int .i64 (cf x y)) τ)):CmpLays1 P g #[] enc cf blk off size w:=by
  intro m os dk _ x y
  refine (h x y (fun _=>none) _ (reach_nil _)).mono fun e w' ⟨r,σ',H',he,⟨hr,_,_⟩,k⟩=>⟨by rw [he,hr],Reach.grown k⟩
theorem cmpLays_of{g k:Nat}{enc:α→List Value}{cf:α→α→Int}{blk off size:Nat}{w:World}(h: ∀x y τ,Con P g #[.agg (enc x).toArray,.agg (enc y).toArray] τ [] (PureP (.int .i64 (cf x y)) τ)):CmpLays P g #[] enc k cf blk off size w:=by
  intro m os dk _ x y
  refine (h x y (fun _=>none) _ (reach_nil _)).mono fun e w' ⟨r,σ',H',he,⟨hr,_,_⟩,k⟩=>⟨by rw [he,hr],Reach.grown k⟩
end
theorem getBang{α:Type}[Inhabited α](l:List α)(i:Nat)(h:i<l.length):l.toArray[i]! =l[i]:=by simp [h]
theorem Reach.sorted{w0:World}{C:List Nat}{σ0 σ:Store}{w:World}{F:List Res}{E size n cap g m:Nat}{xs xs':List Value}{os:Array Obj}(h:Reach w0 C σ0 σ w (Res.row E size (.slice (some ⟨g,0,none⟩) n cap) n xs::F))(hl:xs'.length=xs.length)(h1: ∀u∈xs',u.oneCell'=true):
    Reach w0 C σ0 σ (grow (putRow (id:Value→Value) (Sort.ahead w m) g 0 xs'.toArray) os) (Res.row E size (.slice (some ⟨g,0,none⟩) n cap) n xs'::F):=by
  obtain ⟨hown,hone,hbg⟩:=h.holds _ (List.mem_cons_self ..)
  obtain ⟨hlen,hc⟩:=hown
  rcases hc with ⟨hc,_⟩|⟨g',cap',cur,hv,hb0,hg,h3,h4,h5,h6⟩
  · cases hc
  cases hv
  have hgl:g<w.heap.size:=(Array.getElem?_eq_some_iff.1 hg).1
  have hnew:(grow (putRow (id:Value→Value) (Sort.ahead w m) g 0 xs'.toArray) os).heap[g]? =some (.cells (putCells (id:Value→Value) 0 xs'.toArray cur) E):=by
    rw [heap_grow_old _ _ (by simpa using hgl)]
    simp [putRow,mapBlock,Sort.ahead,Array.getElem?_modify,hg,onCells]
  have hold: ∀k,k<w.heap.size→k≠g→(grow (putRow (id:Value→Value) (Sort.ahead w m) g 0 xs'.toArray) os).heap[k]? =w.heap[k]? :=by
    intro k hk hne
    rw [heap_grow_old _ _ (by simpa using hk)]
    have:g≠k:=fun e=>hne e.symm
    simp [putRow,mapBlock,Sort.ahead,Array.getElem?_modify,this]
  have hcur:xs.length≤cur.size:=by
    have:=congrArg List.length h6
    simp at this;omega
  refine h.turn1 (some g) (some g) rfl rfl rfl rfl rfl (by simp [grow]) (by simp [grow,putRow,mapBlock,Sort.ahead]) (fun k hk hne=>hold k hk fun e=>hne (by rw [e])) ⟨⟨by rw [hl];exact hlen,.inr ⟨g,cap,_,rfl,hb0,hnew,h3,h4,by simp [putCells,h5],?_⟩⟩,h1,hbg⟩ (fun b hb=> .inl hb)
  apply List.ext_getElem?
  intro i
  by_cases hi:i<n * size
  · have hi2:i<xs'.length:=by rw [hl,hlen];exact hi
    rw [List.getElem?_take_of_lt hi,Array.getElem?_toList]
    simp [putCells,hi2,show i<cur.size by omega]
  rw [List.getElem?_take_eq_none (by omega),List.getElem?_eq_none (by omega)]
theorem holds_row{w:World}{E size n cap g:Nat}{xs:List Value}(h:w.ownsRow 0 E size (.slice (some ⟨g,0,none⟩) n cap) n xs):Holds (id:Value→Value) w g 0 xs.toArray∧g<w.heap.size:=by
  obtain ⟨hlen,hc⟩:=h
  rcases hc with ⟨hc,_⟩|⟨g',cap',cur,hv,hb0,hg,h3,h4,h5,h6⟩
  · cases hc
  cases hv
  refine ⟨fun j hj=> ?_,(Array.getElem?_eq_some_iff.1 hg).1⟩
  have hj':j<xs.length:=by simpa using hj
  refine ⟨?_,by simp [World.frozen?,hg]⟩
  have h7:(cur.toList.take (n * size))[j]? =xs[j]? :=by rw [h6]
  rw [List.getElem?_take_of_lt (by omega)]at h7
  simp only [World.cell?,hg,Nat.zero_add,Option.isSome_none,Bool.false_eq_true,if_false]
  rw [←Array.getElem?_toList,h7]
  simp [hj']
theorem putRow_id{α:Type}[Inhabited α](enc:α→Value)(w:World)(g:Nat)(l:List α):putRow enc w g 0 l.toArray=putRow (id:Value→Value) w g 0 (l.map enc).toArray:=by
  unfold putRow
  congr 1
  funext c
  unfold putCells
  apply Array.ext_getElem?
  intro i
  simp only [Array.getElem?_mapIdx]
  cases hc:c[i]? with
  |none=>rfl
  |some v=>
    simp only [Option.map_some,Nat.zero_le,true_and,Nat.zero_add,Nat.sub_zero,List.size_toArray,List.length_map]
    split
    · rename_i hi;simp [hi]
    rfl
theorem flatK_list {α : Type} [Inhabited α] {enc : α → List Value} {k : Nat} (hk : ∀ x, (enc x).length = k) (l : List α) : flatK enc k l.toArray = (l.flatMap enc).toArray := by
  have hl:(l.flatMap enc).length=l.length * k:=flatMap_len hk l
  refine ext_get! (by simp [hl]) fun t ht=> ?_
  have ht':t<l.length * k:=by simpa using ht
  have k0 : 0 < k := by rcases Nat.eq_zero_or_pos k with h | h
                        · subst h;simp at ht'
                        exact h
  have hd:t / k<l.length:=Nat.div_lt_of_lt_mul (by rw [Nat.mul_comm];exact ht')
  have hm:t % k<k:=Nat.mod_lt _ k0
  rw [get_flatK _ _ _ _ (by simpa using ht'),getBang l _ hd]
  have h2:=flatMap_get hk l (t / k) (t % k) l[t / k] (List.getElem?_eq_getElem hd) hm
  rw [Nat.div_add_mod' t k]at h2
  have hb:t<(l.flatMap enc).toArray.size:=by simpa [hl]using ht'
  have h3:(l.flatMap enc).toArray[t]! =(enc l[t / k])[t % k]! :=by
    rw [getElem!_pos (l.flatMap enc).toArray t hb]
    have h4:(l.flatMap enc)[t]? =some ((l.flatMap enc).toArray[t]'hb):=by rw [←List.getElem?_toArray];exact Array.getElem?_eq_getElem hb
    rw [h2]at h4
    have hlt:t % k<(enc l[t / k]).length:=by rw [hk];exact hm
    rw [List.getElem?_eq_getElem hlt,Option.some.injEq]at h4
    rw [getElem!_pos (enc l[t / k]) (t % k) hlt,h4]
  rw [h3]
def sortL{α:Type}(cf:α→α→Int)(l:List α):List α:=l.mergeSort fun x y=> !decide (cf y x<0)
def SortP{α:Type}(E size:Nat)(enc:α→List Value)(a:Option Addr)(c:Nat)(l l':List α)(σ:Store):Value→Store→List Res→Prop:=fun v σ' H'=>v= .tuple #[]∧σ=σ'∧H'=[Res.rowS E size enc (.slice a l.length c) l']
structure TotalCmp {α:Type} (cf:α→α→Int):Prop where
  swo:SWO (ltOf cf)
  tot: ∀x y,ltOf cf x y=false→ltOf cf y x=false→x=y
section
variable {α:Type} [Inhabited α] {P:Program} {ρ:Ren}
theorem Con.sort1(L:SlLaysF.n6 P ρ)(L0:SlLaysF0.n6 P ρ){enc:α→Value}{encL:α→List Value}{cf:α→α→Int}{f g E c:Nat}{a:Option Addr}{l:List α}(hf:ρ.f 6=f)(he: ∀x,encL x=[enc x])(h1:OneCell enc)(hO:TotalCmp cf)
    (eg: ∀args w,(callFunc g args).run P w= .ok (.enter g args) w) (hc: ∀x y τ,Con P g #[enc x,enc y] τ [] (PureP (.int .i64 (cf x y)) τ)):
    Con P f #[.slice a l.length c,.func (.func g) #[] #[]] σ [Res.rowS E 1 encL (.slice a l.length c) l] (SortP E 1 encL a c l (sortL cf l) σ):=by
  subst hf
  have hflat: ∀l:List α,l.flatMap encL=l.map enc:=fun l=>by
    induction l with
    |nil=>rfl
    |cons x l ih=>rw [List.flatMap_cons,ih,he];rfl
  have hlen:(sortL cf l).length=l.length:=List.length_mergeSort _
  intro w hw
  obtain ⟨hown,hone,hbg⟩:=hw.holds _ (List.mem_cons_self ..)
  have hsl:=isSl_row hown
  rcases id hown.2 with ⟨hn,hm⟩|⟨g',cap',cur,hv,hb0,hg,h3,h4,h5,h6⟩
  · have hl0:l=[]:=List.eq_nil_of_length_eq_zero hm
    subst hl0
    refine (AnyF.slices_SortFunc_none L0 a c (.func (.func g) #[] #[]) w).mono fun e w' ⟨h1,h2⟩=>⟨_,σ,_,h1,⟨rfl,rfl,rfl⟩,?_⟩
    subst h2
    rw [show sortL cf ([]:List α)=[]from by simp [sortL]]
    exact hw
  cases hv
  have hH:=holds_row hown
  rw [hflat]at hH
  have hHe:Holds enc w g' 0 l.toArray:=fun j hj=>by
    have:=hH.1 j (by simpa using hj)
    have hj':j<l.length:=by simpa using hj
    simpa [hj']using this
  have hsz:l.toArray.size<4611686018427387904:=by simp;omega
  have:=Any.slices_SortFunc_total L enc h1 cf hO.swo g #[] g' 0 c l.toArray w eg (cmpLays1_of hc) hHe hH.2 hsz hO.tot
  refine this.mono fun e w' ⟨h7,n,os,h8⟩=>⟨_,σ,_,h7,⟨rfl,rfl,rfl⟩,?_⟩
  subst h8
  have h9:(l.toArray.toList.mergeSort fun x y=> !(ltOf cf) y x)=sortL cf l:=rfl
  rw [h9]
  unfold sortWorld
  rw [putRow_id]
  have:=Reach.sorted (h:=hw) (m:=n) (os:=os) (xs':=(sortL cf l).map enc) (by rw [hflat,List.length_map,List.length_map,hlen]) (fun u hu=>by
    obtain ⟨x,_,rfl⟩:=List.mem_map.1 hu
    exact h1 x)
  unfold Res.rowS
  rw [hflat (sortL cf l),hlen]
  exact this
theorem Con.sortK(L:SlLaysF0.n6 P ρ){k:Nat}{enc:α→List Value}{cf:α→α→Int}{f g E c:Nat}{a:Option Addr}{l:List α}(hf:ρ.f 6=f)(aE: ∀w,(isAgg (ρ.t 24)).run P w= .ok true w)(zE: ∀w,(Go.sizeOf (ρ.t 24)).run P w= .ok k w)(hk: ∀x,(enc x).length=k)(h1: ∀x, ∀u∈enc x,u.oneCell'=true)(hO:TotalCmp cf)
    (eg: ∀args w,(callFunc g args).run P w= .ok (.enter g args) w) (hc: ∀x y τ,Con P g #[.agg (enc x).toArray,.agg (enc y).toArray] τ [] (PureP (.int .i64 (cf x y)) τ)):
    Con P f #[.slice a l.length c,.func (.func g) #[] #[]] σ [Res.rowS E k enc (.slice a l.length c) l] (SortP E k enc a c l (sortL cf l) σ):=by
  subst hf
  have hlen:(sortL cf l).length=l.length:=List.length_mergeSort _
  intro w hw
  obtain ⟨hown,hone,hbg⟩:=hw.holds _ (List.mem_cons_self ..)
  rcases id hown.2 with ⟨hn,hm⟩|⟨g',cap',cur,hv,hb0,hg,h3,h4,h5,h6⟩
  · have hl0:l=[]:=List.eq_nil_of_length_eq_zero hm
    subst hl0
    refine (AnyF.slices_SortFunc_none L a c (.func (.func g) #[] #[]) w).mono fun e w' ⟨h1,h2⟩=>⟨_,σ,_,h1,⟨rfl,rfl,rfl⟩,?_⟩
    subst h2
    rw [show sortL cf ([]:List α)=[]from by simp [sortL]]
    exact hw
  cases hv
  have hH:=holds_row hown
  have hHe:HoldsK enc k w g' 0 l.toArray:=by
    unfold HoldsK;rw [flatK_list hk];exact hH.1
  have hsz:l.toArray.size<4611686018427387904:=by simp;omega
  have:=AnyQ.slices_SortFunc_total L k aE zE enc hk h1 cf hO.swo g #[] g' 0 c l.toArray w eg (cmpLays_of hc) hHe hH.2 hsz hO.tot
  refine this.mono fun e w' ⟨h7,n,os,h8⟩=>⟨_,σ,_,h7,⟨rfl,rfl,rfl⟩,?_⟩
  subst h8
  have h9:(l.toArray.toList.mergeSort fun x y=> !(ltOf cf) y x)=sortL cf l:=rfl
  rw [h9]
  unfold sortWorldK putRowK
  rw [flatK_list hk]
  have:=Reach.sorted (h:=hw) (m:=n) (os:=os) (xs':=(sortL cf l).flatMap enc) (by rw [flatMap_len hk,flatMap_len hk,hlen]) (fun u hu=>by
    obtain ⟨x,_,hx⟩:=List.mem_flatMap.1 hu
    exact h1 x u hx)
  unfold Res.rowS
  rw [hlen]
  exact this
end
end Go.E
end

noncomputable section
namespace Go.E
open Go Go.Sort Go.Proofs Go.Shelf
theorem flat_encI(l:List Int):l.flatMap eI_=l.map (Value.int .i64):=by
  induction l with
  |nil=>rfl
  |cons x l ih=>rw [List.flatMap_cons,ih];rfl
theorem Con.sortInt{P:Program}{ρ:Ren}(L:Lays.n189 P ρ){f E c:Nat}{a:Option Addr}{l:List Int}(hf:ρ.f 189=f):
    Con P f #[.slice a l.length c] σ [Res.rowS E 1 eI_ (.slice a l.length c) l] (SortP E 1 eI_ a c l (l.mergeSort fun x y=>decide (x≤y)) σ):=by
  subst hf
  have hlen:(l.mergeSort fun x y=>decide (x≤y)).length=l.length:=List.length_mergeSort _
  intro w hw
  obtain ⟨hown,hone,hbg⟩:=hw.holds _ (List.mem_cons_self ..)
  have hsl:=isSl_row hown
  rcases id hown.2 with ⟨hn,hm⟩|⟨g',cap',cur,hv,hb0,hg,h3,h4,h5,h6⟩
  · have hl0:l=[]:=List.eq_nil_of_length_eq_zero hm
    subst hl0
    refine (Any.slices_Sort_int_none L a c w).mono fun e w' ⟨h1,h2⟩=>⟨_,σ,_,h1,⟨rfl,rfl,rfl⟩,?_⟩
    subst h2
    rw [show (([]:List Int).mergeSort fun x y=>decide (x≤y))=[]from by simp]
    exact hw
  cases hv
  have hH:=holds_row hown
  rw [flat_encI]at hH
  have hHe:Holds (Value.int .i64) w g' 0 l.toArray:=fun j hj=>by
    have:=hH.1 j (by simpa using hj)
    have hj':j<l.length:=by simpa using hj
    simpa [hj']using this
  have hsz:l.length<4611686018427387904:=by omega
  have:=Any.slices_Sort_int L g' 0 c l w hHe hH.2 hsz
  refine this.mono fun e w' ⟨h7,n,os,h8⟩=>⟨_,σ,_,h7,⟨rfl,rfl,rfl⟩,?_⟩
  subst h8
  rw [putRow_id]
  have:=Reach.sorted (h:=hw) (m:=n) (os:=os) (xs':=(l.mergeSort fun x y=>decide (x≤y)).map (Value.int .i64)) (by rw [flat_encI,List.length_map,List.length_map,hlen]) (fun u hu=>by
    obtain ⟨x,_,rfl⟩:=List.mem_map.1 hu
    rfl)
  unfold Res.rowS
  rw [flat_encI (l.mergeSort fun x y=>decide (x≤y)),hlen]
  exact this
theorem OpOk.make0S{X:Ctx}{e:Env}{H:List Res}{o:Oper}{x y:Operand}{K:Env→Store→List Res→Prop}{α:Type}{T E size by_ d m:Nat}{kl kc:IntKind}{enc:α→List Value}{z:Value}(ho:o.op= .makeSlice T x y)(ht:X.P.underlying T=some (.slice E))(hs:szOf X.P E=some size)(hby:byOf X.P E=some by_)(hz:zeroOf X.P E=some z)
    (hd:o.dst=some d) (hn:Nat.blt d X.n=true) (hx:ev e x= .int kl 0) (hy:ev e y= .int kc (m:Nat)) (hb:by_ * m≤281474976710656) (hby0:0<by_)
    (k: ∀a c,K (upd e d (.slice a ([]:List α).length c)) σ (Res.rowS E size enc (.slice a ([]:List α).length c) []::H)):OpOk X o e σ H K:=OpOk.make0 ho ht hs hby hz hd hn hx hy hb hby0 k
theorem Con.lendG{P:Program}{f:FuncId}{args:Array Value}{F:List Res}{v:Value}{α:Type}{E size:Nat}{enc:α→List Value}{l:List α}{Post:Store→Value→Store→List Res→Prop}(hl: ∀x,(enc x).length=size)
    (hP: ∀τ τ' r σ' H',Post τ r σ' H'→σ'=τ∧Post τ' r τ' H') (h: ∀τ,σ.le τ→RS τ size enc v l→Con P f args τ F (Post τ)):Con P f args σ (Res.rowS E size enc v l::F) (fun r σ' H'=> ∃H'',Post σ r σ' H''∧H'=H''++[Res.rowS E size enc v l]):=by
  intro w hw
  obtain ⟨τ,h1,h2,h3⟩:=hw.sealRow
  have h0:Reach w (blks F) τ τ w F:=⟨rfl,rfl,rfl,Nat.le_refl _,fun _ _ _=>rfl,Store.le.refl _,h1.fit,fun b o hb=> .inl hb,h1.holds,fun r hr b hb=> .inl (mem_blks.2 ⟨r,hr,hb⟩),h1.nodup,h1.apart,Nat.le_refl _⟩
  refine (h τ h2 ⟨h3,hl⟩ w h0).mono fun ex w' ⟨r',σ',H',he,hp,k⟩=> ?_
  obtain ⟨e2,hp'⟩:=hP τ σ r' σ' H' hp
  subst e2
  refine ⟨r',σ,_,he,⟨H',hp',rfl⟩,?_⟩
  have hb: ∀b,b∈(Res.rowS E size enc v l).bl→b<w.heap.size∧b∉blks F:=fun b hb=>by
    refine ⟨hw.block_lt (List.mem_cons_self ..) hb,fun hx=> ?_⟩
    have hnd:=hw.nodup
    simp only [blks,List.flatMap_cons]at hnd
    exact (nodup_app.1 hnd).2.2 b hb hx
  have hF: ∀b,b∈blks F→b∈blks (Res.rowS E size enc v l::F):=fun b hx=>by
    obtain ⟨r2,hr2,hb2⟩:=mem_blks.1 hx
    exact mem_blks.2 ⟨r2,List.mem_cons_of_mem _ hr2,hb2⟩
  have hframe: ∀i,i<w.heap.size→i∉blks F→w'.heap[i]? =w.heap[i]? :=k.frame
  refine ⟨k.os,k.tape,k.output,k.size,fun i hi hn=>hframe i hi fun hx=>hn (hF i hx),Store.le.refl _,fun b o hs=>k.fit b o (h2 b o hs),fun b o hs=> .inl hs,?_,?_,?_,?_,k.drawn⟩
  · intro r2 hr2
    rcases List.mem_append.1 hr2 with hr2|hr2
    · exact k.holds r2 hr2
    rw [List.mem_singleton.1 hr2]
    exact (Res.rowS E size enc v l).keep w w' (fun b hbb=>hframe b (hb b hbb).1 (hb b hbb).2) (hw.holds _ (List.mem_cons_self ..))
  · intro r2 hr2 b hb2
    rcases List.mem_append.1 hr2 with hr2|hr2
    · exact (k.own r2 hr2 b hb2).imp (hF b) id
    rw [List.mem_singleton.1 hr2]at hb2
    exact .inl (mem_blks.2 ⟨_,List.mem_cons_self ..,hb2⟩)
  · have e:blks (H'++[Res.rowS E size enc v l])=blks H'++(Res.rowS E size enc v l).bl:=by simp [blks,List.flatMap_append]
    rw [e,nodup_app]
    refine ⟨k.nodup,?_,fun b hx hy=> ?_⟩
    · have hnd:=hw.nodup
      simp only [blks,List.flatMap_cons]at hnd
      exact (nodup_app.1 hnd).1
    obtain ⟨r2,hr2,hb2⟩:=mem_blks.1 hx
    have:=hb b hy
    rcases k.own r2 hr2 b hb2 with h4|h4
    · exact this.2 h4
    omega
  intro r2 hr2 b hb2
  rcases List.mem_append.1 hr2 with hr2|hr2
  · cases hs:σ b with
    |none=>rfl
    |some o=>have:=k.apart r2 hr2 b hb2;rw [h2 b o hs]at this;cases this
  rw [List.mem_singleton.1 hr2]at hb2
  exact hw.apart _ (List.mem_cons_self ..) b hb2
end Go.E
end

noncomputable section
namespace Go.Proofs.YtnpbfjdpglfdkaaGreatDoor
open Go Go.E
theorem sortInt_con{a:Option Addr}{c:Nat}{l:List Int}:Con Tryz.prog 87 #[.slice a l.length c] σ [Res.rowS 3 1 eI_ (.slice a l.length c) l] (SortP 3 1 eI_ a c l (l.mergeSort fun x y=>decide (x≤y)) σ):=Con.sortInt layInt rfl
end Go.Proofs.YtnpbfjdpglfdkaaGreatDoor
end

noncomputable section
namespace Go.Proofs.YtnpbfjdpglfdkaaGreatDoor
open Go
theorem ag27:Go.E.aggOf Tryz.prog 27=some false:=by kernel_rfl
theorem ag3:Go.E.aggOf Tryz.prog 3=some false:=by kernel_rfl
theorem ag46:Go.E.aggOf Tryz.prog 46=some false:=by kernel_rfl
theorem ag5:Go.E.aggOf Tryz.prog 5=some false:=by kernel_rfl
theorem ag55:Go.E.aggOf Tryz.prog 55=some false:=by kernel_rfl
theorem ag57:Go.E.aggOf Tryz.prog 57=some true:=by kernel_rfl
theorem ag78:Go.E.aggOf Tryz.prog 78=some true:=by kernel_rfl
theorem by3:Go.E.byOf Tryz.prog 3=some 8:=by kernel_rfl
theorem eg57:Tryz.prog.eqGuardType Tryz.prog.depth 57=false:=by kernel_rfl
theorem fo48_0:Go.E.foOf Tryz.prog 48 0=some 0:=by kernel_rfl
theorem fo48_1:Go.E.foOf Tryz.prog 48 1=some 1:=by kernel_rfl
theorem fo48_2:Go.E.foOf Tryz.prog 48 2=some 2:=by kernel_rfl
theorem fo48_3:Go.E.foOf Tryz.prog 48 3=some 3:=by kernel_rfl
theorem fo78_0:Go.E.foOf Tryz.prog 78 0=some 0:=by kernel_rfl
theorem fo78_1:Go.E.foOf Tryz.prog 78 1=some 1:=by kernel_rfl
theorem fo78_2:Go.E.foOf Tryz.prog 78 2=some 2:=by kernel_rfl
theorem pf64:Go.E.plainF Tryz.prog 64=true:=by kernel_rfl
theorem pf65:Go.E.plainF Tryz.prog 65=true:=by kernel_rfl
theorem sz3:Go.E.szOf Tryz.prog 3=some 1:=by kernel_rfl
theorem sz5:Go.E.szOf Tryz.prog 5=some 1:=by kernel_rfl
theorem sz55:Go.E.szOf Tryz.prog 55=some 1:=by kernel_rfl
theorem sz57:Go.E.szOf Tryz.prog 57=some 4:=by kernel_rfl
theorem sz78:Go.E.szOf Tryz.prog 78=some 6:=by kernel_rfl
theorem ze3:Go.E.zeroOf Tryz.prog 3=some (.int .i64 0):=by kernel_rfl
theorem ze57:Go.E.zeroOf Tryz.prog 57=some (.agg #[.int .u64 0,.int .u64 0,.int .u64 0,.int .u64 0]):=by kernel_rfl
theorem ze78:Go.E.zeroOf Tryz.prog 78=some (.agg #[.int .i64 0,.int .i64 0,.int .u64 0,.int .u64 0,.int .u64 0,.int .u64 0]):=by kernel_rfl
end Go.Proofs.YtnpbfjdpglfdkaaGreatDoor
end

noncomputable section
namespace Go.Proofs.YtnpbfjdpglfdkaaGreatDoor
open Go Go.E
theorem and_one(a:Nat):a &&& 1=a % 2:=Nat.and_one_is_mod a
theorem has_con(σ:Store)(s:BSet)(b:Nat)(hs:s.ok)(hb:b<256):Con Tryz.prog 43 #[setV s,.int .u8 (b:Nat)] σ [] (PureP (.bool (s.has b)) σ):=by
  have hw:s.word (b / 64)<18446744073709551616:=BSet.word_lt hs _
  have hw2:s.word (b / 64) / 2 ^ (b % 64)<18446744073709551616:=Nat.lt_of_le_of_lt (Nat.div_le_self _ _) hw
  refine Con.mk (n:=14) Tryz.func43 rfl rfl rfl (fun w0=> ?_)
  refine TC.seq ?_
  refine TC.region ?_
  refine TL.op rfl (OpOk.boxA rfl rfl rfl rfl (fun b1=> ?_))
  refine TL.v rfl (OpVal.moveB (.inr rfl) rfl) rfl rfl ?_
  refine TL.nil ?_
  refine S.n ?_
  refine TC.seq ?_
  refine TC.region ?_
  refine TL.v rfl (OpVal.moveI (.inl rfl) rfl) rfl rfl ?_
  refine TL.v rfl (OpVal.quoN (b:=64) rfl rfl rfl (by omega) (by simp only [kmax];omega)) rfl rfl ?_
  refine TL.v rfl (OpVal.indexArrN rfl Tryz.underlying57 sz55 rfl rfl (by omega)) rfl rfl ?_
  refine TL.v rfl (OpVal.loadWord rfl ag55 rfl (j:=0) rfl (by omega)) rfl rfl ?_
  refine TL.v rfl (OpVal.moveI (.inl rfl) rfl) rfl rfl ?_
  refine TL.v rfl (OpVal.remN (b:=64) rfl rfl rfl (by omega)) rfl rfl ?_
  refine TL.v rfl (OpVal.shrN rfl rfl rfl (by show _<64;omega)) rfl rfl ?_
  refine TL.v rfl (OpVal.andN (b:=1) rfl rfl rfl (by omega) (by omega)) rfl rfl ?_
  refine TL.v rfl (OpVal.eqlN (b:=1) rfl rfl rfl) rfl rfl ?_
  refine TL.v rfl (OpVal.moveB (.inr rfl) rfl) rfl rfl ?_
  refine TL.nil ?_
  refine S.n ?_
  refine TC.ret ?_
  -- leaf 1 ret [] H=['q2']
  refine ret1P rfl (congrArg Value.bool ?_)
  unfold BSet.has;rw [decide_eq_decide,and_one]
end Go.Proofs.YtnpbfjdpglfdkaaGreatDoor
end

noncomputable section
namespace Go.Proofs.YtnpbfjdpglfdkaaGreatDoor
open Go Go.E
def stateB(s n:Int):Bool:=decide (0≤s) && decide (s<n)
def riseFrom(n:Int)(l:List Int)(i:Nat):Bool:=stateB (nth l i 0) n && !(decide (0<i) && decide (nth l i 0≤nth l (i - 1) 0))
def riseB(l:List Int)(n:Int):Bool:=(List.range l.length).all (riseFrom n l)
theorem riseB_no{l:List Int}{st:Int}{k:Nat}(hk:k<l.length)(h:riseFrom st l k=false):riseB l st=false:=by
  unfold riseB
  rw [List.all_eq_false]
  exact ⟨k,by simpa using hk,by simp [h]⟩
theorem riseB_yes{l:List Int}{st:Int}{k:Nat}(hk:l.length≤k)(h: ∀i,i<k→riseFrom st l i=true):riseB l st=true:=by
  unfold riseB
  rw [List.all_eq_true]
  intro i hi
  exact h i (by have:=List.mem_range.1 hi;omega)
theorem all_step{p:Nat→Bool}{k:Nat}(h: ∀i,i<k→p i=true)(hk:p k=true): ∀i,i<k+1→p i=true:=fun i hi=>by
  rcases Nat.lt_succ_iff_lt_or_eq.1 hi with h'|rfl
  · exact h i h'
  exact hk
def edgeB(n:Int)(x:Arrow):Bool:=stateB x.frm n && stateB x.to n && !decide (x.set=BSet.zero)
def checkB(n:Nfa):Bool:=decide (0≤n.states) && decide (n.states≤4096) && decide ((n.edges.length:Int)≤65536) && riseB n.starts n.states && riseB n.ends n.states && n.edges.all (edgeB n.states)
def errB(b:Bool):Int:=if b then 0 else 1
theorem edges_no{n:Nfa}{k:Nat}(hk:k<n.edges.length)(h:edgeB n.states (nth n.edges k Arrow.zero)=false):n.edges.all (edgeB n.states)=false:=by
  rw [List.all_eq_false]
  exact ⟨_,List.mem_of_getElem? (getD_some n.edges hk Arrow.zero),by simp [h]⟩
theorem edges_yes{n:Nfa}(h: ∀i,i<n.edges.length→edgeB n.states (nth n.edges i Arrow.zero)=true):n.edges.all (edgeB n.states)=true:=by
  rw [List.all_eq_true]
  intro x hx
  obtain ⟨j,hj,rfl⟩:=List.mem_iff_getElem.1 hx
  have h2:=getD_some n.edges hj Arrow.zero
  rw [List.getElem?_eq_getElem hj,Option.some.injEq]at h2
  rw [h2];exact h j hj
theorem take_succ_nth{α:Type}(l:List α){k:Nat}(hk:k<l.length)(d:α):l.take (k+1)=l.take k++[nth l k d]:=by
  rw [List.take_add_one,getD_some l hk d];rfl
end Go.Proofs.YtnpbfjdpglfdkaaGreatDoor
end

noncomputable section
namespace Go.Proofs.YtnpbfjdpglfdkaaGreatDoor
open Go Go.E
def inTo(l:List UInt8)(k:Nat):Nat→Bool:=fun i=>(l.take k).any fun u=>decide (i=u.toNat)
theorem inTo_zero(l:List UInt8):BSet.make (inTo l 0)=BSet.zero:=by
  rw [show inTo l 0=fun _=>false from by funext i;simp [inTo]];exact BSet.make_zero
theorem inTo_succ{l:List UInt8}{k:Nat}(h:k<l.length):(fun i=>inTo l k i || decide (i=(nth l k 0).toNat))=inTo l (k+1):=by
  funext i;simp [inTo,take_succ_nth l h 0]
theorem inTo_all(l:List UInt8):BSet.make (inTo l l.length)=BSet.ofL l:=by
  unfold inTo BSet.ofL;rw [List.take_length]
theorem two_pow_lt{a:Nat}(h:a<64):2 ^ a<18446744073709551616:=Nat.lt_of_le_of_lt (Nat.pow_le_pow_right (by omega) (show a≤63 by omega)) (by decide)
theorem of_con(σ:Store)(a:Option Addr)(c:Nat)(l:List UInt8)(hsz:l.length≤1000000000000):
    Con Tryz.prog 20 #[.slice a l.length c] σ [Res.rowS 5 1 encU8 (.slice a l.length c) l] (PureP (setV (BSet.ofL l)) σ):=by
  refine Con.mk (n:=23) Tryz.func20 rfl rfl rfl (fun w0=> ?_)
  refine TC.seq ?_
  refine TC.region ?_
  refine TL.op rfl (OpOk.alloc rfl ze57 rfl rfl (fun b1=> ?_))
  refine TL.nil ?_
  refine S.n ?_
  refine TC.seq ?_
  refine TC.region ?_
  refine TL.op rfl (OpOk.alloc rfl ze57 rfl rfl (fun b3=> ?_))
  refine TL.nil ?_
  refine S.n ?_
  refine TC.seq ?_
  refine TC.seq ?_
  refine TC.region ?_
  refine TL.v rfl (OpVal.moveSl (.inl rfl) rfl) rfl rfl ?_
  refine TL.v rfl (OpVal.lenC rfl Tryz.underlying105 rfl) rfl rfl ?_
  refine TL.v rfl (OpVal.moveI (.inl rfl) rfl) rfl rfl ?_
  refine TL.nil ?_
  refine S.n ?_
  refine TC.block ?_
  refine TC.loopF (α:=Nat) [5,8,9,10,11,12,13,14,15,16,17,18,19,20,21] (fun k=>[(8,.int .i64 (k:Nat))]) (fun k=>[Res.cells b3 (setA (BSet.make (inTo l k))) 57,Res.cells b1 (setA BSet.zero) 57,Res.rowS 5 1 encU8 (.slice a l.length c) l]) (fun _=>_) (fun k=>k≤l.length) (fun k=>l.length - k) (0) (by first|exact True.intro|omega|(dsimp only;omega)|(simp;done)|(simp;omega)) (by repeat (first|exact trivial|refine ⟨rfl,?_⟩)) (by rw [inTo_zero];rfl) (by rfl) (fun g1 j1 hg1=> ?_)
  have hu:(nth l g1 (0:UInt8)).toNat<256:=UInt8.toNat_lt _
  have hp:=two_pow_lt (Nat.mod_lt (nth l g1 (0:UInt8)).toNat (show 0<64 by omega))
  have hw:=BSet.word_lt (BSet.make_ok (inTo l g1)) ((nth l g1 (0:UInt8)).toNat / 64)
  refine TC.seq ?_
  refine TC.region ?_
  refine TL.v rfl (OpVal.lss rfl rfl rfl) rfl rfl ?_
  refine TL.nil ?_
  refine S.n ?_
  refine TC.seq ?_
  refine TC.condD rfl (fun h5=> ?_) (fun h5=> ?_)
  · try simp only [decide_eq_true_eq,decide_eq_false_iff_not,Bool.not_eq_true',Bool.not_eq_false',Bool.not_eq_eq_eq_not,Bool.not_true,Bool.not_false,Int.not_lt,Int.not_le,Decidable.not_not]at h5
    refine TC.skip ?_
    refine S.n ?_
    refine TC.seq ?_
    refine TC.block ?_
    refine TC.seq ?_
    refine TC.region ?_
    refine TL.isSl (i:=2) rfl (fun hs6 _ _=> ?_)
    refine TL.v rfl (OpVal.indexN rfl Tryz.underlying105 sz5 rfl rfl (by first|assumption|exact (RS.rv (by assumption)).sl) (by omega)) rfl rfl ?_
    refine TL.v rfl (OpVal.loadO1 (0:UInt8) rfl ag5 rfl (q:=2) rfl encU8_len (by omega) rfl) rfl rfl ?_
    refine TL.v rfl (OpVal.moveI (.inr rfl) rfl) rfl rfl ?_
    refine TL.nil ?_
    refine S.n ?_
    refine TC.region ?_
    refine TL.v rfl (OpVal.moveI (.inl rfl) rfl) rfl rfl ?_
    refine TL.v rfl (OpVal.quoN (b:=64) rfl rfl rfl (by omega) (by simp only [kmax];omega)) rfl rfl ?_
    refine TL.v rfl (OpVal.indexArrN rfl Tryz.underlying57 sz55 rfl rfl (by omega)) rfl rfl ?_
    refine TL.v rfl (OpVal.loadWord rfl ag55 rfl (j:=0) rfl (by omega)) rfl rfl ?_
    refine TL.v rfl (OpVal.moveI (.inl rfl) rfl) rfl rfl ?_
    refine TL.v rfl (OpVal.remN (b:=64) rfl rfl rfl (by omega)) rfl rfl ?_
    refine TL.v rfl (OpVal.shlN (a:=1) rfl rfl rfl (by show _<64;omega) (by simp only [kmax];omega)) rfl rfl ?_
    refine TL.v rfl (OpVal.orN rfl rfl rfl (by omega) (by omega)) rfl rfl ?_
    refine TL.v rfl (OpVal.indexArrN rfl Tryz.underlying57 sz55 rfl rfl (by omega)) rfl rfl ?_
    refine TL.op rfl (OpOk.storeWord rfl sz55 rfl rfl rfl (by omega) (Nat.or_lt_two_pow (n:=64) hw (by omega)) ?_)
    refine TL.nil ?_
    refine B.n ?_
    refine S.n ?_
    refine TC.region ?_
    refine TL.v rfl (OpVal.succ rfl rfl rfl (by omega)) rfl rfl ?_
    refine TL.v rfl (OpVal.moveI (.inl rfl) rfl) rfl rfl ?_
    refine TL.nil ?_
    refine S.n ?_
    -- leaf 1 next [h5: True] H=['q4', 'q2', 'r0']
    refine ⟨by repeat (first|exact Agr.mask|refine Agr.upd rfl ?_ |refine Agr.maskIn rfl ?_),g1+1,?_,?_,?_,?_,?_⟩
    · omega
    · first|exact True.intro|omega|(dsimp only;omega)|(simp;done)|(simp;omega)
    · repeat (first|exact trivial|refine ⟨rfl,?_⟩)
    · rw [BSet.make_or _ hu,inTo_succ (by omega)]
    rfl
  try simp only [decide_eq_true_eq,decide_eq_false_iff_not,Bool.not_eq_true',Bool.not_eq_false',Bool.not_eq_eq_eq_not,Bool.not_true,Bool.not_false,Int.not_lt,Int.not_le,Decidable.not_not]at h5
  refine TC.exit ?_
  refine S.x ?_
  refine S.x ?_
  refine TC.exitHere ?_
  refine S.n ?_
  refine TC.seq ?_
  refine TC.region ?_
  refine TL.v rfl (OpVal.loadAll rfl ag57 sz57 rfl (i:=0) rfl rfl) rfl rfl ?_
  refine TL.front 1 rfl rfl ?_
  refine TL.op rfl (OpOk.storeAll rfl sz57 rfl rfl rfl rfl rfl rfl ?_)
  refine TL.nil ?_
  refine S.n ?_
  refine TC.ret ?_
  -- leaf 2 ret [h5: False] H=['q2', 'q4', 'r0']
  obtain rfl:g1=l.length:=by omega
  rw [inTo_all]
  exact retCellP 0 rfl ag57 sz57 rfl rfl rfl rfl
end Go.Proofs.YtnpbfjdpglfdkaaGreatDoor
end

noncomputable section
namespace Go.E
open Go
structure IStore where
  rows:List (List Int)
  places:FM (List UInt8) Int
structure ITable where
  of:IStore
structure RTable where
  l:List (List Int)
def ITable.zero:ITable:=⟨⟨[],FM.emp⟩⟩
def RTable.zero:RTable:=⟨[]⟩
end Go.E
end

noncomputable section
namespace Go.E
open Go
section
variable {β:Type} {E' E size:Nat} {enc:β→List Value} {v:Value}
theorem sees_nestX{H:List Res}{q i:Nat}{z:List (NP β)}(hq:H[q]? =some (Res.nestX E' E size enc v z i))(w:World)(h:Sees σ H w):Sees σ [Res.rowS E' 1 encN v z] w:=
  ⟨h.1,fun r hr=>by
    simp at hr;subst hr
    exact h.2 _ (List.mem_of_getElem? hq) _ (List.mem_cons_self ..)⟩
theorem isSl_nestX{H:List Res}{q i:Nat}{z:List (NP β)}{l:List (List β)}(hq:H[q]? =some (Res.nestX E' E size enc v z i))(hZ:Zn z l)(w:World)(h:Sees σ H w):IsSl v l.length∧l.length≤281474976710656:=by
  have:=isSl_seen (H:=H) (sees_nestX hq w h)
  rw [hZ.len]at this;exact this
end
theorem TC.drawR{X:Ctx}{Q:QP}{id:Nat}{ops:Array Oper}{e:Env}{H Hr:List Res}(hs: ∀r∈Hr,r∈H)(late:List Nat)(hm:X.P.follows .mixedOrders=true)(h:TA X ops Q σ Hr late ops.size (Array.replicate ops.size false) e σ H)(hnd:noDeferB ops=true:=by kernel_rfl):TC X Q (.region id ops true) e σ H:=fun w a hw ha=>
  Go.wpIn_mono (wpIn_region_any hm (wpAny_of_late _ _ _ _ (h (noDefer_of hnd) w.drew a hw.drew (sees_of (Store.le.refl _) hs _ hw.drew.sees) (closed_start _ _) ha))) fun ex a w h=>by
    cases ex<;>first|exact h|exact h.elim
section
variable {P:Program} {n:Nat} {e:Env} {σ:Store} {H:List Res} {o:Oper} {x y:Operand} {T T':TypeId} {k:IntKind} {a b:Int}
theorem OpVal.quoW(ho:o.op= .binOp .quo T x y T')(hx:ev e x= .int k a)(hy:ev e y= .int k b)(h:b≠0):OpVal P n o e σ H (.int k (k.wrap (a.tdiv b))):= .bin ho hx hy fun w=>by simp [binOp,Op.intDiv,h]
end
theorem OpVal.loadWordAt{P:Program}{n:Nat}{e:Env}{H:List Res}{o:Oper}{x:Operand}{T b E i j off:Nat}{cs:Array Value}(s:BSet)(ho:o.op= .load T x)(hA:aggOf P T=some false)(hx:ev e x=loc b (off+i * 1))(hi:H[j]? =some (Res.cells b cs E))(hk:i<4)
    (hc:(cs.toList.drop off).take 4=s.vals):OpVal P n o e σ H (.int .u64 ((s.word i:Nat):Int)):=by
  refine OpVal.loadLoc ho hA hx hi ?_
  have h1:((cs.toList.drop off).take 4)[i]? =some (.int .u64 ((s.word i:Nat):Int)):=by
    rw [hc]
    match i,hk with
    |0,_=>rfl
    |1,_=>rfl
    |2,_=>rfl
    |3,_=>rfl
  rw [List.getElem?_take,if_pos hk,List.getElem?_drop]at h1
  rw [Nat.mul_one];simpa using h1
end Go.E
end

noncomputable section
namespace Go.Proofs.YtnpbfjdpglfdkaaGreatDoor
open Go Go.E Go.E.OpVal Go.E.OpOk Go.Proofs.Tryz
theorem ag130:aggOf Tryz.prog 130=some false:=by kernel_rfl
theorem ag28:aggOf Tryz.prog 28=some false:=by kernel_rfl
theorem by27:byOf Tryz.prog 27=some 24:=by kernel_rfl
theorem by5:byOf Tryz.prog 5=some 1:=by kernel_rfl
theorem fo138_0:foOf Tryz.prog 138 0=some 0:=by kernel_rfl
theorem fo138_1:foOf Tryz.prog 138 1=some 1:=by kernel_rfl
theorem fo140_0:foOf Tryz.prog 140 0=some 0:=by kernel_rfl
theorem pf50:plainF Tryz.prog 50=true:=by kernel_rfl
theorem pf69:plainF Tryz.prog 69=true:=by kernel_rfl
theorem pf70:plainF Tryz.prog 70=true:=by kernel_rfl
theorem pf71:plainF Tryz.prog 71=true:=by kernel_rfl
theorem pf72:plainF Tryz.prog 72=true:=by kernel_rfl
theorem pf87:plainF Tryz.prog 87=true:=by kernel_rfl
theorem pf90:plainF Tryz.prog 90=true:=by kernel_rfl
theorem pf91:plainF Tryz.prog 91=true:=by kernel_rfl
theorem pl138:plOf Tryz.prog 138=some #[(0,1),(1,1)]:=by kernel_rfl
theorem pl140:plOf Tryz.prog 140=some #[(0,2)]:=by kernel_rfl
theorem sz27:szOf Tryz.prog 27=some 1:=by kernel_rfl
theorem sz28:szOf Tryz.prog 28=some 1:=by kernel_rfl
theorem ze138:zeroOf Tryz.prog 138=some (.agg #[.slice none 0 0,.map none]):=by kernel_rfl
theorem ze140:zeroOf Tryz.prog 140=some (.agg #[.slice none 0 0,.map none]):=by kernel_rfl
theorem ze27:zeroOf Tryz.prog 27=some (.slice none 0 0):=by kernel_rfl
theorem ze5:zeroOf Tryz.prog 5=some (.int .u8 0):=by kernel_rfl
def Gr_(x0:Int):Option (Bool):=
 some (decide (x0≠x0))
theorem H8_{x0:Int}{r:Bool}(hh:Gr_ x0=some r):
  Con Tryz.prog 91 #[.int .i64 x0] σ [] (PureP (.bool r) σ):=by
 dsimp only [Gr_]at hh
 refine Con.mk (n:=6) Tryz.func91 z z z (fun w0=> ?_)
 refine TC.a (TL.j z z (TL.en (TC.a (TL.i z z (TL.i z z (TL.w z (OpVal.neq z z z) (TL.j z z (TL.en (TC.ret ?_)))))))))
 obtain rfl:=so hh
 exact rq [2] ⟨z,z,z⟩
def C2_(x0:Int)(x1:Int):Option (Int):=
 bnd (Gr_ x0) (fun v3=>bnd (Gr_ x1) (fun v6=>iteO v3 (iteO v6 (some 0) (some (-1))) (iteO v6 (some 1) (iteO (decide (x0<x1)) (some (-1)) (iteO (decide (x1<x0)) (some 1) (some 0))))))
theorem Dg_{x0:Int}{x1:Int}{r:Int}(hh:C2_ x0 x1=some r):
  Con Tryz.prog 63 #[.int .i64 x0,.int .i64 x1] σ [] (PureP (.int .i64 r) σ):=by
 dsimp only [C2_]at hh
 refine Con.mk (n:=20) Tryz.func63 z z z (fun w0=> ?_)
 refine TC.a (TL.i z z (TL.en (TC.a (TL.i z z ?_))))
 obtain ⟨v3,u3,hh⟩:=bnd_e hh
 refine TL.op z (callP (H8_ u3) z z pf91 z z z ?_)
 refine TL.j z z (TL.en (TC.a (TL.i z z ?_)))
 obtain ⟨v6,u6,hh⟩:=bnd_e hh
 refine TL.op z (callP (H8_ u6) z z pf91 z z z ?_)
 refine TL.j z z (TL.en (TC.seq (TC.a (TL.j z z (TL.en (TC.cB z hh (fun h101 hh=> ?_) (fun h101 hh=> ?_)))))))
 ·refine TC.seq (TC.a (TL.j z z (TL.en (TC.cB z hh (fun h102 hh=> ?_) (fun h102 hh=> ?_)))))
  ·refine TC.a (TL.i z z (TL.en (TC.ret (S.r (S.r ?_)))))
   obtain rfl:=so hh
   exact rq [4] ⟨z,z,z⟩
  refine TC.skip (S.n (TC.a (TL.i z z (TL.en (TC.ret (S.r ?_))))))
  obtain rfl:=so hh
  exact rq [4] ⟨z,z,z⟩
 refine TC.skip (S.n (TC.seq (TC.a (TL.j z z (TL.en (TC.cB z hh (fun h103 hh=> ?_) (fun h103 hh=> ?_)))))))
 ·refine TC.a (TL.i z z (TL.en (TC.ret (S.r ?_))))
  obtain rfl:=so hh
  exact rq [4] ⟨z,z,z⟩
 refine TC.skip (S.n (TC.seq (TC.a (TL.i z z (TL.i z z (TL.w z (OpVal.lss z z z) (TL.en (TC.cD z hh (fun h104 hh=> ?_) (fun h104 hh=> ?_)))))))))
 ·refine TC.a (TL.i z z (TL.en (TC.ret (S.r ?_))))
  obtain rfl:=so hh
  exact rq [4] ⟨z,z,z⟩
 refine TC.skip (S.n (TC.seq (TC.a (TL.i z z (TL.i z z (TL.w z (OpVal.gtr z z z) (TL.en (TC.cD z hh (fun h105 hh=> ?_) (fun h105 hh=> ?_)))))))))
 ·refine TC.a (TL.i z z (TL.en (TC.ret (S.r ?_))))
  obtain rfl:=so hh
  exact rq [4] ⟨z,z,z⟩
 refine TC.skip (S.n (TC.a (TL.i z z (TL.en (TC.ret ?_)))))
 obtain rfl:=so hh
 exact rq [4] ⟨z,z,z⟩
theorem F0_{a:Option Addr}{c:Nat}{l:List Int}(hl:RS σ 1 eI_ (.slice a l.length c) l)(hsz:l.length * 8≤140737488355328):
  Con Tryz.prog 50 #[.slice a l.length c] σ [] (RowP 3 1 eI_ l σ):=by
 have hb:=hl.rv.big
 refine Con.mk (n:=8) Tryz.func50 z z z (fun w0=> ?_)
 refine TC.a (TL.s z z (TL.nilS 3 1 eI_ (TL.en (TC.seq (TC.a (TL.s z z (TL.w z (eqlNilSl z underlying27 z z) (TL.en (TC.cond z (fun h2=> ?_) (fun h2=> ?_))))))))))
 ·refine TC.a (TL.s z z (TL.nilS 3 1 eI_ (TL.en (TC.ret (S.r ?_)))))
  cases a with
  |some _=>simp at h2
  |none=>
   obtain rfl:=hl.none_nil
   exact ret1R z z
 refine TC.skip (S.n (TC.a (TL.op z (lit0 (enc:=eI_) z z underlying27 sz3 z z (fun a4 c5=> ?_)))))
 refine TL.s z z (TL.op z (appendS z z underlying27 sz3 by3 ze3 z z (by decide) z z z (.inl hl) (by simpa using hsz) (by decide) (fun a7 c8=> ?_)))
 exact TL.s z z (TL.en (TC.ret (ret1R z z)))
def Ed_(k125:Nat)(l128:List Int)(k130:Nat):Option (((List Int)×Nat×Nat)⊕((Nat)⊕((List Int)))):=
 nxt (l128,k130,(k125+1))
def D7_(x0:List Int)(k105:Nat)(l122:List Int)(k124:Nat)(k125:Nat):Option (((List Int)×Nat×Nat)⊕((Nat)⊕((List Int)))):=
 iteO (decide (((k125:Nat):Int)<(((x0.length - k105):Nat):Int))) (grd (k125<(x0.length - k105)) (grd (0≤(IntKind.i64.wrap (((k125:Nat):Int) - 1))∧(IntKind.i64.wrap (((k125:Nat):Int) - 1))<((x0.length - k105):Nat)) (iteO (decide ((nth l122 (k105+k125) (0:Int))≠(nth l122 (k105+(IntKind.i64.wrap (((k125:Nat):Int) - 1)).toNat) (0:Int)))) (grd (k125<(x0.length - k105)) (grd (k124<l122.length) (Ed_ k125 (l122.set k124 (nth l122 (k105+k125) (0:Int))) (k124+1)))) (Ed_ k125 l122 k124)))) (fin (grd (k124≤x0.length) (grd (k124≤(l122.take k124++List.replicate (l122.length - k124) (0:Int)).length) (fin (some ((l122.take k124++List.replicate (l122.length - k124) (0:Int)).take k124))))))
def D9_(x0:List Int)(k105:Nat):Option ((Nat)⊕((List Int))):=
 iteO (decide (((k105:Nat):Int)<((x0.length:Nat):Int))) (grd (0≤(IntKind.i64.wrap (((k105:Nat):Int) - 1))∧(IntKind.i64.wrap (((k105:Nat):Int) - 1))<(x0.length:Int)) (iteO (decide ((nth x0 k105 (0:Int))=(nth x0 ((IntKind.i64.wrap (((k105:Nat):Int) - 1)).toNat) (0:Int)))) (grd (k105≤x0.length) (iter (fun q:(List Int)×Nat×Nat=>D7_ x0 k105 q.1 q.2.1 q.2.2) (x0,k105,1))) (nxt (k105+1)))) (fin (some x0))
def compactI(x0:List Int):Option ((List Int)):=
 iteO (decide (((x0.length:Nat):Int)<2)) (some x0) (iter (fun q:Nat=>D9_ x0 q) 1)
theorem Ic_{x0:List Int}{r:(List Int)}(hh:compactI x0=some r):
  Con Tryz.prog 90 #[.slice a0_1 x0.length c0_2] σ [Res.rowS 3 1 eI_ (.slice a0_1 x0.length c0_2) x0] (fun v σ' H'=> ∃a1 c1,v= .slice a1 r.length c1∧σ=σ'∧H'=[Res.rowS 3 1 eI_ (.slice a1 r.length c1) r]):=by
 dsimp only [compactI]at hh
 refine Con.mk (n:=61) Tryz.func90 z z z (fun w0=> ?_)
 refine TC.a (TL.s z z (TL.en (TC.seq (TC.a (TL.s z z (TL.w z (lenC z underlying27 z) (TL.w z (OpVal.lss z z z) (TL.en (TC.cD z hh (fun h102 hh=> ?_) (fun h102 hh=> ?_))))))))))
 ·refine TC.a (TL.s z z (TL.s z z (TL.en (TC.ret (S.r ?_)))))
  obtain rfl:=so hh
  exact ro [Res.rowS 3 1 eI_ (.slice a0_1 x0.length c0_2) x0] z (RVs.tmp z RVs.nil) ⟨a0_1,c0_2,z,z,z⟩
 refine TC.skip (S.n (TC.seq (TC.a (TL.i z z (TL.en (TC.block (TC.loopG (α:=(Nat)×(Unit)) (rgs [(2,4),(10,50)]) (fun g=>[(3,.int .i64 ((g.1:Nat):Int))]) (fun g=>[Res.rowS 3 1 eI_ (.slice a0_1 x0.length c0_2) x0]) (fun g=>σ) (fun g=>iter (fun q:Nat=>D9_ x0 q) g.1=some r) (fun g=>rounds (fun q:Nat=>D9_ x0 q) g.1) (1,()) (Sub.pre 1 z) z (by repeat (first|exact trivial|refine ⟨z,?_⟩)) hh (fun g1 j1 hg1=> ?_))))))))
 obtain ⟨k105,_⟩:=g1
 have hh:=hg1;clear hg1
 try dsimp only
 obtain ⟨z1,hh,hR1⟩:=iter_e hh
 dsimp only [D9_]at hh
 refine TC.isSl (i:=0) z (fun _ hb106 _=> ?_)
 refine TC.seq (TC.a (TL.i z z (TL.s z z (TL.w z (lenC z underlying27 z) (TL.w z (OpVal.lss z z z) (TL.en (TC.cD z hh (fun h107 hh=> ?_) (fun h107 hh=> ?_))))))))
 ·refine TC.skip (S.n (TC.seq (TC.block (TC.seq ?_))))
  have u19:=grd_c hh
  replace hh:=grd_t hh
  refine TC.draw [] (by kernel_rfl) (TA.a 0 z (moveSl (.inl z) z) z (TA.a 1 z (moveI (.inl z) z) z (TA.isSl (i:=0) z (fun hs110 _ _=> ?_))))
  refine TA.b 2 z (indexN z underlying27 sz3 z z hs110 (by omega)) z (TA.b 3 z (loadO1 (0:Int) z ag3 z (q:=0) z eIl_ (by omega) z) z (TA.a 4 z (moveSl (.inl z) z) z (TA.a 5 z (moveI (.inl z) z) z (TA.a 6 z (subW z z z) z (TA.isSl (i:=0) z (fun hs111 _ _=> ?_))))))
  refine TA.b 7 z (OpVal.index z underlying27 sz3 z z hs111 u19.1 u19.2) z (TA.b 8 z (loadO1 (0:Int) z ag3 z (q:=0) z eIl_ (by omega) z) z (TA.a 9 z (OpVal.eql z z z) z (TA.dn (S.n (TC.cD z hh (fun h112 hh=> ?_) (fun h112 hh=> ?_))))))
  ·refine TC.a (TL.s z z (TL.i z z ?_))
   have u24:=grd_c hh
   replace hh:=grd_t hh
   refine TL.isSl (i:=0) z (fun hs113 _ _=> ?_)
   obtain ⟨a113,c113,hv113,ho113⟩:=vw_of (k:=k105) (size:=1) hs113 (by omega)
   refine TL.w z (ho113 z underlying27 sz3 z z) (TL.s z z (TL.en (TC.seq (TC.a (TL.i z z (TL.en (TC.block (TC.loopG (α:=((List Int)×Nat×Nat)×(Unit)) (rgs [(3,1),(5,1),(29,25)]) (fun g=>[(3,.int .i64 ((g.1.2.1:Nat):Int)),(5,.int .i64 ((g.1.2.2:Nat):Int))]) (fun g=>[Res.rowS 3 1 eI_ (.slice a0_1 x0.length c0_2) g.1.1]) (fun g=>σ) (fun g=>iter (fun q:(List Int)×Nat×Nat=>D7_ x0 k105 q.1 q.2.1 q.2.2) g.1=some z1∧g.1.1.length=x0.length) (fun g=>rounds (fun q:(List Int)×Nat×Nat=>D7_ x0 k105 q.1 q.2.1 q.2.2) g.1) ((x0,k105,1),()) (Sub.pre 1 z) z (by repeat (first|exact trivial|refine ⟨z,?_⟩)) ⟨hh,z⟩ (fun g2 j2 hg2=> ?_)))))))))
   obtain ⟨⟨l122,k124,k125⟩,_⟩:=g2
   obtain ⟨hh,hn123⟩:=hg2
   try dsimp only at hn123 ⊢
   obtain ⟨z2,hh,hR2⟩:=iter_e hh
   dsimp only [D7_]at hh
   have hn123b:=hn123
   refine TC.isSl (i:=0) z (fun _ hb126 _=> ?_)
   refine TC.seq (TC.a (TL.i z z (TL.s z z (TL.w z (lenC z underlying27 z) (TL.w z (OpVal.lss z z z) (TL.en (TC.cD z hh (fun h127 hh=> ?_) (fun h127 hh=> ?_))))))))
   ·refine TC.skip (S.n (TC.cutG (α:=((List Int)×Nat)×(Unit)) (rgs [(3,1),(35,19)]) (fun g=>[(3,.int .i64 ((g.1.2:Nat):Int))]) (fun g=>[Res.rowS 3 1 eI_ (.slice a0_1 x0.length c0_2) g.1.1]) (fun g=>σ) (fun g=>Ed_ k125 g.1.1 g.1.2=some z2∧g.1.1.length=x0.length) ?_ (fun g j hg=> ?_)))
    ·skip
     refine TC.block (TC.seq ?_)
     have u33:=grd_c hh
     replace hh:=grd_t hh
     have u38:=grd_c hh
     replace hh:=grd_t hh
     refine TC.draw [] (by kernel_rfl) (TA.a 0 z (moveSl (.inl z) z) z (TA.a 1 z (moveI (.inl z) z) z (TA.b 2 z (elVw hv113 (by omega) (indexN z underlying27 sz3 z z hv113.sl (by omega))) z (TA.b 3 z (loadO1 (0:Int) z ag3 z (q:=0) z eIl_ (by omega) z) z (TA.a 4 z (moveSl (.inl z) z) z (TA.a 5 z (moveI (.inl z) z) z (TA.a 6 z (subW z z z) z (TA.b 7 z (elVw hv113 (by omega) (OpVal.index z underlying27 sz3 z z hv113.sl u38.1 u38.2)) z (TA.b 8 z (loadO1 (0:Int) z ag3 z (q:=0) z eIl_ (by omega) z) z (TA.a 9 z (OpVal.neq z z z) z (TA.dn (S.n (TC.cD z hh (fun h131 hh=> ?_) (fun h131 hh=> ?_))))))))))))))
     ·refine TC.a (TL.s z z (TL.i z z (TL.s z z (TL.i z z ?_))))
      have u45:=grd_c hh
      replace hh:=grd_t hh
      refine TL.w z (elVw hv113 (by omega) (indexN z underlying27 sz3 z z hv113.sl (by omega))) (TL.w z (loadO1 (0:Int) z ag3 z (q:=0) z eIl_ (by omega) z) ?_)
      have u47:=grd_c hh
      replace hh:=grd_t hh
      refine TL.isSl (i:=0) z (fun hs132 _ _=> ?_)
      refine TL.w z (indexN z underlying27 sz3 z z hs132 (by omega)) ?_
      have hn133:(l122.set k124 (nth l122 (k105+k125) (0:Int))).length=x0.length:=by rw [List.length_set];exact hn123
      refine TL.op z (storeS (nth l122 (k105+k125) (0:Int)) z sz3 z z z z eIl_ eIo_ (by omega) (by omega) ?_)
      exact TL.en (TC.region (TL.i z z (TL.w z (OpVal.succ z z z (by omega)) (TL.i z z (TL.nil (B.n (S.n (cf (((l122.set k124 (nth l122 (k105+k125) (0:Int))),(k124+1)),()) ⟨hh,hn133⟩ (Sub.pre 1 z)))))))))
     exact TC.skip (B.n (S.n (cf ((l122,k124),()) ⟨hh,hn123⟩ (Sub.pre 1 z))))
    skip
    obtain ⟨⟨l128,k130⟩,_⟩:=g
    obtain ⟨hh,hn129⟩:=hg
    try dsimp only at hn129 ⊢
    dsimp only [Ed_]at hh
    have hn129b:=hn129
    refine TC.isSl (i:=0) z (fun _ hb134 _=> ?_)
    refine TC.region (TL.i z z (TL.w z (OpVal.succ z z z (by omega)) (TL.i z z (TL.en ?_))))
    obtain ⟨hh,hlt135⟩:=nxt_x hR2 hh
    exact lf ((l128,k130,(k125+1)),()) hlt135 ⟨hh,hn129⟩ (Sub.pre 1 z)
   refine TC.exit (S.x (S.x ?_))
   replace hh:=fin_x hR2 hh
   refine TC.exitHere (S.n (TC.a (TL.s z z (TL.i z z ?_))))
   have u57:=grd_c hh
   replace hh:=grd_t hh
   refine TL.isSl (i:=0) z (fun hs136 _ _=> ?_)
   rw [hn123]at hs136
   obtain ⟨a136,c136,hv136,ho136⟩:=vw_of (k:=k124) (size:=1) hs136 (by omega)
   refine TL.w z (ho136 z underlying27 sz3 z z) ?_
   have hn137:(l122.take k124++List.replicate (l122.length - k124) (0:Int)).length=x0.length:=by simp only [List.length_append,List.length_take,List.length_replicate];try simp only [List.length_replicate]at *;omega
   refine TL.op z (clearV (k:=k124) (0:Int) z underlying27 ze3 z z hv136 (by omega) (by omega) eIl_ (by decide) z eIo_ ?_)
   refine TL.en (TC.a (TL.s z z (TL.i z z ?_)))
   rw [←hn137]
   have u61:=grd_c hh
   replace hh:=grd_t hh
   refine TL.op z (cutS z underlying27 sz3 z z z z z (by omega) eIl_ ?_)
   refine TL.s z z (TL.en (TC.ret (B.r (S.r (S.r ?_)))))
   replace hh:=fin_x hR1 hh
   refine B.r (S.r ?_)
   obtain rfl:=so hh
   exact ro [Res.rowS 3 1 eI_ (.slice a0_1 ((l122.take k124++List.replicate (l122.length - k124) (0:Int)).take k124).length c0_2) ((l122.take k124++List.replicate (l122.length - k124) (0:Int)).take k124)] z (RVs.tmp z RVs.nil) ⟨a0_1,c0_2,z,z,z⟩
  refine TC.skip (B.n (S.n (TC.region (TL.i z z (TL.w z (OpVal.succ z z z (by omega)) (TL.i z z (TL.en ?_)))))))
  obtain ⟨hh,hlt138⟩:=nxt_x hR1 hh
  exact lf ((k105+1),()) hlt138 hh (Sub.pre 1 z)
 refine TC.exit (S.x (S.x ?_))
 replace hh:=fin_x hR1 hh
 refine TC.exitHere (S.n (TC.a (TL.s z z (TL.s z z (TL.en (TC.ret ?_))))))
 obtain rfl:=so hh
 exact ro [Res.rowS 3 1 eI_ (.slice a0_1 x0.length c0_2) x0] z (RVs.tmp z RVs.nil) ⟨a0_1,c0_2,z,z,z⟩
def intern_Sort(x0:List Int):Option ((List Int)):=
 grd (x0.length * 8≤140737488355328) (bnd (compactI (List.mergeSort x0 fun x y=>decide (x≤y))) (fun v8=>some v8))
def intern_Sort_P(σ:Store)(r:(List Int)):Value→Store→List Res→Prop:=fun v σ' H'=>
 ∃a1 c1,v= .slice a1 r.length c1∧σ=σ'∧H'=[Res.rowS 3 1 eI_ (.slice a1 r.length c1) r]
theorem intern_Sort_con{x0:List Int}(f0_0:RS σ 1 eI_ (.slice a0_0 x0.length c0_0) x0){r:(List Int)}(hh:intern_Sort x0=some r):
  Con Tryz.prog 69 #[.slice a0_0 x0.length c0_0] σ [] (intern_Sort_P σ r):=by
 dsimp only [intern_Sort]at hh
 have f0_0b:=f0_0.rv.big
 refine Con.mk (n:=10) Tryz.func69 z z z (fun w0=> ?_)
 refine TC.a (TL.s z z (TL.en (TC.a (TL.s z z ?_))))
 have u3:=grd_c hh
 replace hh:=grd_t hh
 refine TL.op z (OpOk.call (F0_ f0_0 u3) z z pf50 z z z z ?_)
 rintro _ _ _ _ ⟨⟨a101,c102,rfl⟩,rfl,rfl⟩
 refine TL.s z z (TL.en (TC.a (TL.s z z ?_)))
 have hn104:(List.mergeSort x0 fun x y=>decide (x≤y)).length=x0.length:=List.length_mergeSort _
 refine TL.op z (OpOk.call (sortInt_con (l:=x0)) z z pf87 z z z z ?_)
 rintro _ _ _ _ ⟨rfl,rfl,rfl⟩
 refine TL.en (TC.a (TL.s z z ?_))
 rw [←hn104]
 obtain ⟨v8,u8,hh⟩:=bnd_e hh
 refine TL.op z (OpOk.call (Ic_ u8) z z pf90 z z z z ?_)
 rintro _ _ _ hle105 ⟨a105_1,c105_2,rfl,rfl,rfl⟩
 refine TL.s z z (TL.en (TC.ret ?_))
 obtain rfl:=so hh
 exact ro [Res.rowS 3 1 eI_ (.slice a105_1 v8.length c105_2) v8] z (RVs.tmp z RVs.nil) ⟨a105_1,c105_2,z,z,z⟩
def intern_key_b2(x0:List Int)(k115:Nat)(l126:List UInt8)(k129:Nat):Option (((List UInt8)×Nat)⊕(((List UInt8)×Nat)⊕((List UInt8)))):=
 iteO (decide (((k129:Nat):Int)<8)) (grd (0≤IntKind.i64.wrap (8 * ((k129:Nat):Int))) (grd ((l126.length+[(toU8 (((u64shr (u64of (nth x0 k115 (0:Int))) ((IntKind.i64.wrap (8 * ((k129:Nat):Int))).toNat)):Nat):Int))].length) * 1≤140737488355328) (nxt ((l126++[(toU8 (((u64shr (u64of (nth x0 k115 (0:Int))) ((IntKind.i64.wrap (8 * ((k129:Nat):Int))).toNat)):Nat):Int))]),(k129+1))))) (fin (nxt (l126,(k115+1))))
def intern_key_b1(x0:List Int)(l112:List UInt8)(k115:Nat):Option (((List UInt8)×Nat)⊕((List UInt8))):=
 iteO (decide (((k115:Nat):Int)<((x0.length:Nat):Int))) (iter (fun q:(List UInt8)×Nat=>intern_key_b2 x0 k115 q.1 q.2) (l112,0)) (fin (some l112))
def intern_key(x0:List Int):Option ((List UInt8)):=
 grd (0≤IntKind.i64.wrap (8 * ((x0.length:Nat):Int))∧1 * (IntKind.i64.wrap (8 * ((x0.length:Nat):Int))).toNat≤281474976710656) (iter (fun q:(List UInt8)×Nat=>intern_key_b1 x0 q.1 q.2) (([]:List UInt8),0))
theorem intern_key_con{x0:List Int}(f0_0:RS σ 1 eI_ (.slice a0_0 x0.length c0_0) x0){r:(List UInt8)}(hh:intern_key x0=some r):
  Con Tryz.prog 70 #[.slice a0_0 x0.length c0_0] σ [] (PureP (.string (bs r)) σ):=by
 dsimp only [intern_key]at hh
 have f0_0b:=f0_0.rv.big
 refine Con.mk (n:=33) Tryz.func70 z z z (fun w0=> ?_)
 refine TC.a (TL.w z (moveStr (.inr z) z) (TL.en (TC.a (TL.s z z (TL.w z (lenC z underlying27 z) (TL.w z (mulW z z z) ?_))))))
 have u5:=grd_c hh
 replace hh:=grd_t hh
 refine TL.op rfl (make0S (enc:=encU8) (m:=(IntKind.i64.wrap (8 * ((x0.length:Nat):Int))).toNat) rfl underlying105 sz5 by5 ze5 rfl rfl rfl (vN u5.1) (by omega) (by decide) (fun a101 c102=> ?_))
 refine TL.s z z (TL.en (TC.seq (TC.a (TL.s z z (TL.w z (lenC z underlying27 z) (TL.i z z (TL.en (TC.block (TC.loopG (α:=((List UInt8)×Nat)×((Option Addr)×Nat)) (rgs [(3,1),(5,2),(13,18)]) (fun g=>[(3,.slice g.2.1 g.1.1.length g.2.2),(13,.int .i64 ((g.1.2:Nat):Int))]) (fun g=>[Res.rowS 5 1 encU8 (.slice g.2.1 g.1.1.length g.2.2) g.1.1]) (fun g=>σ) (fun g=>iter (fun q:(List UInt8)×Nat=>intern_key_b1 x0 q.1 q.2) g.1=some r) (fun g=>rounds (fun q:(List UInt8)×Nat=>intern_key_b1 x0 q.1 q.2) g.1) ((([]:List UInt8),0),(a101,c102)) (Sub.pre 1 z) z (by repeat (first|exact trivial|refine ⟨z,?_⟩)) hh (fun g1 j1 hg1=> ?_))))))))))
 obtain ⟨⟨l112,k115⟩,⟨a113,c114⟩⟩:=g1
 have hh:=hg1;clear hg1
 try dsimp only
 obtain ⟨z1,hh,hR1⟩:=iter_e hh
 dsimp only [intern_key_b1]at hh
 refine TC.isSl (i:=0) z (fun _ hb116 _=> ?_)
 refine TC.a (TL.w z (OpVal.lss z z z) (TL.en (TC.seq (TC.cD z hh (fun h117 hh=> ?_) (fun h117 hh=> ?_)))))
 ·refine TC.skip (S.n (TC.seq (TC.block (TC.a (TL.w z (indexN z underlying27 sz3 z z f0_0.rv.sl (by omega)) (TL.w z (loadS1 (0:Int) z ag3 z f0_0 (by omega) z) (TL.i z z (TL.en (TC.a (TL.i z z (TL.en (TC.block (TC.loopG (α:=((List UInt8)×Nat)×((Option Addr)×Nat)) (rgs [(3,1),(6,1),(17,13)]) (fun g=>[(3,.slice g.2.1 g.1.1.length g.2.2),(17,.int .i64 ((g.1.2:Nat):Int))]) (fun g=>[Res.rowS 5 1 encU8 (.slice g.2.1 g.1.1.length g.2.2) g.1.1]) (fun g=>σ) (fun g=>iter (fun q:(List UInt8)×Nat=>intern_key_b2 x0 k115 q.1 q.2) g.1=some z1) (fun g=>rounds (fun q:(List UInt8)×Nat=>intern_key_b2 x0 k115 q.1 q.2) g.1) ((l112,0),(a113,c114)) (Sub.pre 1 z) z (by repeat (first|exact trivial|refine ⟨z,?_⟩)) hh (fun g2 j2 hg2=> ?_))))))))))))))
  obtain ⟨⟨l126,k129⟩,⟨a127,c128⟩⟩:=g2
  have hh:=hg2;clear hg2
  try dsimp only
  obtain ⟨z2,hh,hR2⟩:=iter_e hh
  dsimp only [intern_key_b2]at hh
  refine TC.isSl (i:=0) z (fun _ hb130 _=> ?_)
  refine TC.a (TL.w z (OpVal.lss z z z) (TL.en (TC.seq (TC.cD z hh (fun h131 hh=> ?_) (fun h131 hh=> ?_)))))
  ·refine TC.skip (S.n (TC.seq (TC.block (TC.a (TL.i z z (TL.i z z (TL.en (TC.region (TL.s z z (TL.i z z (TL.w z (convU z underlying3 underlying55 z) (TL.i z z (TL.w z (mulW z z z) ?_)))))))))))))
   have u23:=grd_c hh
   replace hh:=grd_t hh
   refine TL.w rfl (shrU (b:=(IntKind.i64.wrap (8 * ((k129:Nat):Int))).toNat) rfl rfl (vN u23)) (TL.w z (convU8 z underlying55 underlying5 z) (TL.op z (OpOk.lit (enc:=encU8) [(toU8 (((u64shr (u64of (nth x0 k115 (0:Int))) ((IntKind.i64.wrap (8 * ((k129:Nat):Int))).toNat)):Nat):Int))] z underlying105 sz5 ze5 z z z encU8_len (by decide) (by decide) (0:UInt8) z (by decide) z (by decide) encU8_one (fun a132 c133=> ?_))))
   refine TL.front 1 z z ?_
   have u26:=grd_c hh
   replace hh:=grd_t hh
   refine TL.op z (appendS z z underlying105 sz5 by5 ze5 z z (by decide) z z z (.inr ⟨_,0,z⟩) (by simpa using u26) (by decide) (fun a135 c136=> ?_))
   refine TL.s z z (TL.nil (B.n (S.n (TC.region (TL.w z (OpVal.succ z z z (by omega)) (TL.i z z (TL.en ?_)))))))
   obtain ⟨hh,hlt137⟩:=nxt_x hR2 hh
   exact lf (((l126++[(toU8 (((u64shr (u64of (nth x0 k115 (0:Int))) ((IntKind.i64.wrap (8 * ((k129:Nat):Int))).toNat)):Nat):Int))]),(k129+1)),(a135,c136)) hlt137 hh (Sub.pre 1 z)
  refine TC.exit (S.x (S.x ?_))
  replace hh:=fin_x hR2 hh
  refine TC.exitHere (B.n (S.n (TC.region (TL.w z (OpVal.succ z z z (by omega)) (TL.i z z (TL.en ?_))))))
  obtain ⟨hh,hlt138⟩:=nxt_x hR1 hh
  exact lf ((l126,(k115+1)),(a127,c128)) hlt138 hh (Sub.pre 1 z)
 refine TC.exit (S.x (S.x ?_))
 replace hh:=fin_x hR1 hh
 refine TC.exitHere (S.n (TC.a (TL.s z z (TL.isSl (i:=0) z (fun hs139 _ _=> ?_)))))
 refine TL.w z (bytesStr (l:=l112) z underlying105 underlying5 underlying9 z hs139 (fun w hw=>rdb_row (q:=0) z hw)) (TL.w z (moveStr (.inr z) z) (TL.en (TC.rt 0 ?_)))
 obtain rfl:=so hh
 exact rq [2] ⟨z,z,z⟩
def intern_store_string_find(x0:IStore)(x1:List UInt8):Option (Int×Bool):=
 grd (x1.length≤281474976710656) (some ((x0.places.get x1 0),(x0.places.has x1)))
theorem intern_store_string_find_con{x0:IStore}{z0_3:List (List Int×(pkSl 1 eI_ eIl_).P)}{x1:List UInt8}(zf0_4:ZOk σ (pkSl 1 eI_ eIl_) z0_3 x0.rows){r:Int×Bool}(hh:intern_store_string_find x0 x1=some r):
  Con Tryz.prog 71 #[loc b0_0 0,.string (bs x1)] σ [Res.cells b0_0 #[.slice a0_1 x0.rows.length c0_2,.map (some b0_5)] Eb0,Res.rowS 27 1 (pkSl 1 eI_ eIl_).en (.slice a0_1 x0.rows.length c0_2) z0_3,Res.mapB keyS keyI (some b0_5) x0.places] (fun v σ' H'=>v= .tuple #[.int .i64 r.1,.bool r.2]∧σ=σ'∧H'=[Res.cells b0_0 #[.slice a0_1 x0.rows.length c0_2,.map (some b0_5)] Eb0,Res.rowS 27 1 (pkSl 1 eI_ eIl_).en (.slice a0_1 x0.rows.length c0_2) z0_3,Res.mapB keyS keyI (some b0_5) x0.places]):=by
 dsimp only [intern_store_string_find]at hh
 have zf0_4b:=zf0_4.length
 refine Con.mk (n:=19) Tryz.func71 z z z (fun w0=> ?_)
 have x1b:=grd_c hh
 replace hh:=grd_t hh
 refine TC.a (TL.i z z (TL.j z z (TL.en (TC.a (TL.l z z (TL.w z (nilCheckLoc z z) (TL.w z (fieldLoc z fo138_1 z) (TL.w z (loadLoc z ag130 z (i:=0) z z) (TL.w z (moveStr (.inl z) z) (TL.w z (OpVal.of (lookB 0 (q:=x1) z underlying130 ze3 z (i:=2) z z (keyL_str underlying9)) (v':= .tuple #[.int .i64 (x0.places.get x1 0),.bool (x0.places.has x1)]) z) (TL.w z (moveT (.inl z) z) (TL.w z (OpVal.extract z z z) (TL.w z (OpVal.extract z z z) (TL.i z z (TL.j z z ?_)))))))))))))))
 refine TL.en (TC.a (TL.i z z (TL.j z z (TL.i z z (TL.j z z (TL.en (TC.ret ?_)))))))
 obtain rfl:=so hh
 exact ro [Res.cells b0_0 #[.slice a0_1 x0.rows.length c0_2,.map (some b0_5)] Eb0,Res.rowS 27 1 (pkSl 1 eI_ eIl_).en (.slice a0_1 x0.rows.length c0_2) z0_3,Res.mapB keyS keyI (some b0_5) x0.places] z (RVs.tmp z (RVs.tmp z RVs.nil)) ⟨z,z,z⟩
def intern_store_string_add(x0:IStore)(x1:List UInt8)(x2:List Int):Option (Int×IStore):=
 grd (x1.length≤281474976710656) (grd ((x0.rows.length+[x2].length) * 24≤140737488355328) (some (((x0.rows.length:Nat):Int),(⟨(x0.rows++[x2]),(x0.places.put x1 ((x0.rows.length:Nat):Int))⟩:IStore))))
theorem intern_store_string_add_con{x0:IStore}{z0_3:List (List Int×(pkSl 1 eI_ eIl_).P)}{x1:List UInt8}{x2:List Int}(zf0_4:ZOk σ (pkSl 1 eI_ eIl_) z0_3 x0.rows)(f2_0:RS σ 1 eI_ (.slice a2_0 x2.length c2_0) x2){r:Int×IStore}(hh:intern_store_string_add x0 x1 x2=some r):
  Con Tryz.prog 72 #[loc b0_0 0,.string (bs x1),.slice a2_0 x2.length c2_0] σ [Res.cells b0_0 #[.slice a0_1 x0.rows.length c0_2,.map (some b0_5)] Eb0,Res.rowS 27 1 (pkSl 1 eI_ eIl_).en (.slice a0_1 x0.rows.length c0_2) z0_3,Res.mapB keyS keyI (some b0_5) x0.places] (fun v σ' H'=> ∃ao1 co2, ∃(zo3:List (List Int×(pkSl 1 eI_ eIl_).P)), ∃bo5,v= .int .i64 r.1∧ZOk σ' (pkSl 1 eI_ eIl_) zo3 r.2.rows∧H'=[Res.cells b0_0 #[.slice ao1 r.2.rows.length co2,.map (some bo5)] Eb0,Res.rowS 27 1 (pkSl 1 eI_ eIl_).en (.slice ao1 r.2.rows.length co2) zo3,Res.mapB keyS keyI (some bo5) r.2.places]):=by
 dsimp only [intern_store_string_add]at hh
 have zf0_4b:=zf0_4.length
 have f2_0b:=f2_0.rv.big
 refine Con.mk (n:=30) Tryz.func72 z z z (fun w0=> ?_)
 have x1b:=grd_c hh
 replace hh:=grd_t hh
 refine TC.a (TL.i z z (TL.en (TC.a (TL.l z z (TL.w z (nilCheckLoc z z) (TL.w z (fieldLoc z fo138_0 z) (TL.w z (loadLoc z ag28 z (i:=0) z z) (TL.w z (lenC z underlying28 z) (TL.i z z (TL.en (TC.a (TL.l z z (TL.l z z (TL.w z (nilCheckLoc z z) (TL.w z (fieldLoc z fo138_0 z) ?_)))))))))))))))
 refine TL.w z (loadLoc z ag28 z (i:=0) z z) (TL.s z z ?_)
 have zf108:ZOk _ (pkSl 1 eI_ eIl_) ([(x2,(a2_0,c2_0))]:List (List Int×(pkSl 1 eI_ eIl_).P)) [x2]:=ZOk.cons (f2_0) (ZOk.nil _ _)
 refine TL.op z (litZ zf108 z underlying28 sz27 z ze27 z z z (by decide) (by decide) z (by decide) z (by decide) (fun a106 c107=> ?_))
 refine TL.front 2 z z ?_
 have u15:=grd_c hh
 replace hh:=grd_t hh
 refine TL.op z (appendZ (k:=(pkSl 1 eI_ eIl_)) zf0_4 zf108 z z underlying28 sz27 by27 ze27 z z (by decide) z z z (.inr ⟨_,0,z⟩) (by simpa using u15) (by decide) (fun a110 c111 zf112=> ?_))
 refine TL.w z (nilCheckLoc z z) (TL.w z (fieldLoc z fo138_0 z) (TL.front 2 z z (TL.op z (storeSl z sz28 z z z z z ?_))))
 refine TL.en (TC.a (TL.l z z (TL.w z (nilCheckLoc z z) (TL.w z (fieldLoc z fo138_1 z) (TL.w z (loadLoc z ag130 z (i:=0) z z) (TL.w z (moveStr (.inl z) z) (TL.i z z (TL.front 3 z z (TL.op z (updB x1 ((x0.rows.length:Nat):Int) z underlying130 z z z z (keyL_str underlying9) ?_))))))))))
 refine TL.en (TC.a (TL.i z z (TL.i z z (TL.en (TC.ofSub (Sub.f [2,2] 3) (TC.ret ?_))))))
 obtain rfl:=so hh
 exact ro [Res.cells b0_0 #[.slice a110 ((x0.rows++[x2]).length) c111,.map (some b0_5)] Eb0,Res.rowS 27 1 (pkSl 1 eI_ eIl_).en (.slice a110 (x0.rows++[x2]).length c111) (z0_3++([(x2,(a2_0,c2_0))]:List (List Int×(pkSl 1 eI_ eIl_).P))),Res.mapB keyS keyI (some b0_5) (x0.places.put x1 ((x0.rows.length:Nat):Int))] z (RVs.tmp z RVs.nil) ⟨a110,c111,(z0_3++([(x2,(a2_0,c2_0))]:List (List Int×(pkSl 1 eI_ eIl_).P))),b0_5,z,zf112,z⟩
def intern_New:Option (ITable):=
 some (⟨(⟨([]:List (List Int)),(FM.emp:FM (List UInt8) Int)⟩:IStore)⟩:ITable)
theorem intern_New_con{r:ITable}(hh:intern_New=some r):
  Con Tryz.prog 31 #[] σ [] (fun v σ' H'=> ∃br6 ar1 cr2, ∃(zr3:List (List Int×(pkSl 1 eI_ eIl_).P)), ∃br5,v=loc br6 0∧ZOk σ' (pkSl 1 eI_ eIl_) zr3 r.of.rows∧H'=[Res.cells br6 #[.slice ar1 r.of.rows.length cr2,.map (some br5)] 140,Res.rowS 27 1 (pkSl 1 eI_ eIl_).en (.slice ar1 r.of.rows.length cr2) zr3,Res.mapB keyS keyI (some br5) r.of.places]):=by
 dsimp only [intern_New]at hh
 refine Con.mk (n:=5) Tryz.func31 z z z (fun w0=> ?_)
 refine TC.a (TL.w z (movePtr (.inr z) z) (TL.en (TC.a (TL.op z (makeMapB (enc:=keyS) (encV:=keyI) z z z (fun b104=> ?_))))))
 refine TL.w z (buildL z pl138 ze138 z) (TL.w z (buildL z pl140 ze140 z) (TL.op z (boxA z z z z (fun b106=> ?_))))
 refine TL.l z z (TL.en (TC.nilS 27 1 (pkSl 1 eI_ eIl_).en ?_))
 have zf108:=ZOk.nil σ (pkSl 1 eI_ eIl_)
 refine TC.ofSub (Sub.f [2,1,2] 3) (TC.ret ?_)
 obtain rfl:=so hh
 exact ro [Res.cells b106 #[.slice none (([]:List (List Int)).length) 0,.map (some b104)] 140,Res.rowS 27 1 (pkSl 1 eI_ eIl_).en (.slice none ([]:List (List Int)).length 0) [],Res.mapB keyS keyI (some b104) (FM.emp:FM (List UInt8) Int)] z (RVs.tmp z RVs.nil) ⟨b106,none,0,[],b104,z,zf108,z⟩
def intern_Table_Put(x0:ITable)(x1:List Int):Option (Int×Bool×Int×ITable):=
 bnd (intern_Sort x1) (fun v10=>bnd (intern_key v10) (fun v13=>bnd (intern_store_string_find (⟨x0.of.rows,x0.of.places⟩:IStore) v13) (fun v19=>iteO v19.2 (some (v19.1,false,0,(⟨(⟨x0.of.rows,x0.of.places⟩:IStore)⟩:ITable))) (iteO (decide (4096≤((x0.of.rows.length:Nat):Int))) (some (0,false,2,(⟨(⟨x0.of.rows,x0.of.places⟩:IStore)⟩:ITable))) (bnd (intern_store_string_add (⟨x0.of.rows,x0.of.places⟩:IStore) v13 v10) (fun v45=>some (v45.1,true,0,(⟨(⟨v45.2.rows,v45.2.places⟩:IStore)⟩:ITable))))))))
theorem intern_Table_Put_con{x0:ITable}{z0_3:List (List Int×(pkSl 1 eI_ eIl_).P)}{x1:List Int}(zf0_4:ZOk σ (pkSl 1 eI_ eIl_) z0_3 x0.of.rows)(f1_0:RS σ 1 eI_ (.slice a1_0 x1.length c1_0) x1){r:Int×Bool×Int×ITable}(hh:intern_Table_Put x0 x1=some r):
  Con Tryz.prog 32 #[loc b0_0 0,.slice a1_0 x1.length c1_0] σ [Res.cells b0_0 #[.slice a0_1 x0.of.rows.length c0_2,.map (some b0_5)] Eb0,Res.rowS 27 1 (pkSl 1 eI_ eIl_).en (.slice a0_1 x0.of.rows.length c0_2) z0_3,Res.mapB keyS keyI (some b0_5) x0.of.places] (fun v σ' H'=> ∃ao1 co2, ∃(zo3:List (List Int×(pkSl 1 eI_ eIl_).P)), ∃bo5,v= .tuple #[.int .i64 r.1,.bool r.2.1,.int .i64 r.2.2.1]∧ZOk σ' (pkSl 1 eI_ eIl_) zo3 r.2.2.2.of.rows∧H'=[Res.cells b0_0 #[.slice ao1 r.2.2.2.of.rows.length co2,.map (some bo5)] Eb0,Res.rowS 27 1 (pkSl 1 eI_ eIl_).en (.slice ao1 r.2.2.2.of.rows.length co2) zo3,Res.mapB keyS keyI (some bo5) r.2.2.2.of.places]):=by
 dsimp only [intern_Table_Put]at hh
 have zf0_4b:=zf0_4.length
 have f1_0b:=f1_0.rv.big
 refine Con.mk (n:=40) Tryz.func32 z z z (fun w0=> ?_)
 refine TC.a (TL.i z z (TL.j z z (TL.i z z (TL.en (TC.seq (TC.a (TL.l z z (TL.w z (eqlNil z underlying87 z z) (TL.en (TC.f z (TC.skip (S.n (TC.a (TL.s z z ?_))))))))))))))
 obtain ⟨v10,u10,hh⟩:=bnd_e hh
 refine TL.op z (OpOk.call (intern_Sort_con f1_0 u10) z z pf69 z z z z ?_)
 rintro _ _ _ hle106 ⟨a106_1,c106_1,rfl,rfl,rfl⟩
 refine TL.s z z (TL.en (TC.a (TL.s z z ?_)))
 obtain ⟨v13,u13,hh⟩:=bnd_e hh
 refine TL.op z (callK (Con.lend eIl_ (fun _ hle109 hr108=>intern_key_con hr108 u13)) z z pf70 z z z z ?_)
 refine TL.w z (moveStr (.inr z) z) (TL.en (TC.seq (TC.a (TL.l z z (TL.w z (nilCheckLoc z z) (TL.w z (fieldLoc z fo140_0 z) (TL.w z (moveStr (.inl z) z) (TL.front 3 z z (TL.front 3 z z (TL.front 3 z z ?_))))))))))
 obtain ⟨v19,u19,hh⟩:=bnd_e hh
 refine TL.op z (OpOk.call (intern_store_string_find_con zf0_4 u19) z z pf71 z z z z ?_)
 rintro _ _ _ hle110 ⟨rfl,rfl,rfl⟩
 refine TL.w z (moveT (.inl z) z) (TL.w z (OpVal.extract z z z) (TL.w z (OpVal.extract z z z) (TL.i z z (TL.j z z (TL.en (TC.a (TL.j z z (TL.en (TC.cB z hh (fun h111 hh=> ?_) (fun h111 hh=> ?_))))))))))
 ·refine TC.a (TL.i z z (TL.i z z (TL.j z z (TL.i z z (TL.en (TC.ofSub (Sub.f [2,2,2] 3) (TC.ret (S.r ?_))))))))
  obtain rfl:=so hh
  exact ro [Res.cells b0_0 #[.slice a0_1 x0.of.rows.length c0_2,.map (some b0_5)] Eb0,Res.rowS 27 1 (pkSl 1 eI_ eIl_).en (.slice a0_1 x0.of.rows.length c0_2) z0_3,Res.mapB keyS keyI (some b0_5) x0.of.places] z (RVs.tmp z (RVs.tmp z (RVs.tmp z RVs.nil))) ⟨a0_1,c0_2,z0_3,b0_5,z,zf0_4,z⟩
 refine TC.skip (S.n (TC.seq (TC.a (TL.l z z (TL.w z (nilCheckLoc z z) (TL.w z (fieldLoc z fo140_0 z) (TL.w z (fieldLoc z fo138_0 z) (TL.w z (loadLoc z ag28 z (i:=0) z z) (TL.w z (lenC z underlying28 z) (TL.w z (OpVal.geq z z z) (TL.en (TC.cD z hh (fun h112 hh=> ?_) (fun h112 hh=> ?_)))))))))))))
 ·refine TC.a (TL.i z z (TL.j z z (TL.i z z (TL.en (TC.ofSub (Sub.f [2,2,2] 3) (TC.ret (S.r ?_)))))))
  obtain rfl:=so hh
  exact ro [Res.cells b0_0 #[.slice a0_1 x0.of.rows.length c0_2,.map (some b0_5)] Eb0,Res.rowS 27 1 (pkSl 1 eI_ eIl_).en (.slice a0_1 x0.of.rows.length c0_2) z0_3,Res.mapB keyS keyI (some b0_5) x0.of.places] z (RVs.tmp z (RVs.tmp z (RVs.tmp z RVs.nil))) ⟨a0_1,c0_2,z0_3,b0_5,z,zf0_4,z⟩
 refine TC.skip (S.n (TC.a (TL.l z z (TL.w z (nilCheckLoc z z) (TL.w z (fieldLoc z fo140_0 z) (TL.w z (moveStr (.inl z) z) (TL.s z z (TL.front 3 z z (TL.sealS eIl_ (fun τ115 hle114 hr113=> ?_))))))))))
 replace zf0_4:=zf0_4.mono hle114
 have hr113b:=hr113.rv.big
 refine TL.front 2 z z (TL.front 2 z z (TL.front 2 z z ?_))
 obtain ⟨v45,u45,hh⟩:=bnd_e hh
 refine TL.op z (OpOk.call (intern_store_string_add_con zf0_4 hr113 u45) z z pf72 z z z z ?_)
 rintro _ τ116 _ hle116 ⟨a116_1,c116_2,z116_3,b116_5,rfl,zf116_4,rfl⟩
 have zf116_4b:=zf116_4.length
 refine TL.i z z (TL.j z z (TL.i z z (TL.en (TC.ret ?_))))
 obtain rfl:=so hh
 exact ro [Res.cells b0_0 #[.slice a116_1 v45.2.rows.length c116_2,.map (some b116_5)] Eb0,Res.rowS 27 1 (pkSl 1 eI_ eIl_).en (.slice a116_1 v45.2.rows.length c116_2) z116_3,Res.mapB keyS keyI (some b116_5) v45.2.places] z (RVs.tmp z (RVs.tmp z (RVs.tmp z RVs.nil))) ⟨a116_1,c116_2,z116_3,b116_5,z,zf116_4,z⟩
def intern_Table_Row(x0:ITable)(x1:Int):Option ((List Int)×Int):=
 iteO (decide (x1<0)) (some (([]:List Int),1)) (iteO (decide (((x0.of.rows.length:Nat):Int)≤x1)) (some (([]:List Int),1)) (grd (0≤x1∧x1<(x0.of.rows.length:Int)) (grd ((nth x0.of.rows x1.toNat ([]:List Int)).length * 8≤140737488355328) (some ((nth x0.of.rows x1.toNat ([]:List Int)),0)))))
theorem intern_Table_Row_con{x0:ITable}{z0_3:List (List Int×(pkSl 1 eI_ eIl_).P)}{x1:Int}(zf0_4:ZOk σ (pkSl 1 eI_ eIl_) z0_3 x0.of.rows){r:(List Int)×Int}(hh:intern_Table_Row x0 x1=some r):
  Con Tryz.prog 34 #[loc b0_0 0,.int .i64 x1] σ [Res.cells b0_0 #[.slice a0_1 x0.of.rows.length c0_2,.map (some b0_5)] Eb0,Res.rowS 27 1 (pkSl 1 eI_ eIl_).en (.slice a0_1 x0.of.rows.length c0_2) z0_3,Res.mapB keyS keyI (some b0_5) x0.of.places] (fun v σ' H'=> ∃a1 c1,v= .tuple #[.slice a1 r.1.length c1,.int .i64 r.2]∧σ=σ'∧H'=[Res.rowS 3 1 eI_ (.slice a1 r.1.length c1) r.1,Res.cells b0_0 #[.slice a0_1 x0.of.rows.length c0_2,.map (some b0_5)] Eb0,Res.rowS 27 1 (pkSl 1 eI_ eIl_).en (.slice a0_1 x0.of.rows.length c0_2) z0_3,Res.mapB keyS keyI (some b0_5) x0.of.places]):=by
 dsimp only [intern_Table_Row]at hh
 have zf0_4b:=zf0_4.length
 refine Con.mk (n:=29) Tryz.func34 z z z (fun w0=> ?_)
 refine TC.a (TL.s z z (TL.i z z (TL.en (TC.seq (TC.a (TL.l z z (TL.w z (eqlNil z underlying87 z z) (TL.en (TC.f z (TC.skip (S.n (TC.seq (TC.a (TL.i z z (TL.w z (OpVal.lss z z z) ?_)))))))))))))))
 refine TL.j z z (TL.split 10 z (fun h104=> ?_) (fun h104=> ?_))
 ·replace hh:=iteO_t h104 hh
  replace h104:=of_decide_eq_true h104
  refine TL.f z (TL.f z (TL.f z (TL.f z (TL.f z (TL.f z (TL.f z (TL.f z (TL.w z (pickTB z z z) (TL.en (TC.t z (TC.a (TL.s z z (TL.i z z (TL.en (TC.nilS 3 1 eI_ ?_)))))))))))))))
  refine TC.ret (S.r ?_)
  obtain rfl:=so hh
  exact ro [Res.rowS 3 1 eI_ (.slice none ([]:List Int).length 0) ([]:List Int),Res.cells b0_0 #[.slice a0_1 x0.of.rows.length c0_2,.map (some b0_5)] Eb0,Res.rowS 27 1 (pkSl 1 eI_ eIl_).en (.slice a0_1 x0.of.rows.length c0_2) z0_3,Res.mapB keyS keyI (some b0_5) x0.of.places] z (RVs.tmp z (RVs.tmp z RVs.nil)) ⟨none,0,z,z,z⟩
 replace hh:=iteO_f h104 hh
 replace h104:=of_decide_eq_false h104
 refine TL.g z (moveI (.inl z) z) (TL.g z (moveLoc (.inl z) z) (TL.g z (nilCheckLoc z z) (TL.g z (fieldLoc z fo140_0 z) (TL.g z (fieldLoc z fo138_0 z) (TL.g z (loadLoc z ag28 z (i:=0) z z) (TL.g z (lenC z underlying28 z) (TL.g z (OpVal.geq z z z) (TL.w z (pickFB z z z) (TL.en (TC.cD z hh (fun h106 hh=> ?_) (fun h106 hh=> ?_)))))))))))
 ·refine TC.a (TL.s z z (TL.i z z (TL.en (TC.nilS 3 1 eI_ (TC.ret (S.r ?_))))))
  obtain rfl:=so hh
  exact ro [Res.rowS 3 1 eI_ (.slice none ([]:List Int).length 0) ([]:List Int),Res.cells b0_0 #[.slice a0_1 x0.of.rows.length c0_2,.map (some b0_5)] Eb0,Res.rowS 27 1 (pkSl 1 eI_ eIl_).en (.slice a0_1 x0.of.rows.length c0_2) z0_3,Res.mapB keyS keyI (some b0_5) x0.of.places] z (RVs.tmp z (RVs.tmp z RVs.nil)) ⟨none,0,z,z,z⟩
 refine TC.skip (S.n (TC.a (TL.l z z (TL.w z (nilCheckLoc z z) (TL.w z (fieldLoc z fo140_0 z) (TL.w z (fieldLoc z fo138_0 z) (TL.w z (loadLoc z ag28 z (i:=0) z z) (TL.i z z ?_))))))))
 have u27:=grd_c hh
 replace hh:=grd_t hh
 refine TL.isSl (i:=1) z (fun hs108 _ _=> ?_)
 refine TL.w z (OpVal.index z underlying28 sz27 z z (zf0_4.isSl hs108) u27.1 u27.2) ?_
 obtain ⟨p109,hp109⟩: ∃p,p=(nth z0_3 x1.toNat ((pkSl 1 eI_ eIl_).d,(pkSl 1 eI_ eIl_).dp)).2:=⟨_,rfl⟩
 have hk109:RS σ 1 eI_ (.slice p109.1 (nth x0.of.rows x1.toNat ([]:List Int)).length p109.2) (nth x0.of.rows x1.toNat ([]:List Int)):=by rw [hp109];exact (zf0_4.at (by omega)).2
 refine TL.w z (OpVal.of (hp109▸loadOZ1 zf0_4 z ag27 z (q:=1) z (by omega) z) (v':= .slice p109.1 ((nth x0.of.rows x1.toNat ([]:List Int)).length) p109.2) z) ?_
 have u29:=grd_c hh
 replace hh:=grd_t hh
 refine TL.op z (OpOk.call (F0_ hk109 u29) z z pf50 z z z z ?_)
 rintro _ _ _ _ ⟨⟨a110,c111,rfl⟩,rfl,rfl⟩
 refine TL.s z z (TL.i z z (TL.en (TC.ret ?_)))
 obtain rfl:=so hh
 exact ro [Res.rowS 3 1 eI_ (.slice a110 (nth x0.of.rows x1.toNat ([]:List Int)).length c111) (nth x0.of.rows x1.toNat ([]:List Int)),Res.cells b0_0 #[.slice a0_1 x0.of.rows.length c0_2,.map (some b0_5)] Eb0,Res.rowS 27 1 (pkSl 1 eI_ eIl_).en (.slice a0_1 x0.of.rows.length c0_2) z0_3,Res.mapB keyS keyI (some b0_5) x0.of.places] z (RVs.tmp z (RVs.tmp z RVs.nil)) ⟨a110,c111,z,z,z⟩
def putKeep(x0:ITable)(x1:List Int):Option (Int×Bool×Int×ITable):=
 bnd (intern_Sort x1) (fun v10=>bnd (intern_key v10) (fun v13=>bnd (intern_store_string_find (⟨x0.of.rows,x0.of.places⟩:IStore) v13) (fun v19=>iteO v19.2 (some (v19.1,false,0,(⟨(⟨x0.of.rows,x0.of.places⟩:IStore)⟩:ITable))) (iteO (decide (4096≤((x0.of.rows.length:Nat):Int))) (some (0,false,2,(⟨(⟨x0.of.rows,x0.of.places⟩:IStore)⟩:ITable))) (bnd (intern_store_string_add (⟨x0.of.rows,x0.of.places⟩:IStore) v13 v10) (fun v45=>some (v45.1,true,0,(⟨(⟨v45.2.rows,v45.2.places⟩:IStore)⟩:ITable))))))))
theorem putKeep_con{x0:ITable}{z0_3:List (List Int×(pkSl 1 eI_ eIl_).P)}{x1:List Int}(zf0_4:ZOk σ (pkSl 1 eI_ eIl_) z0_3 x0.of.rows){r:Int×Bool×Int×ITable}(hh:putKeep x0 x1=some r):
  Con Tryz.prog 32 #[loc b0_0 0,.slice a1_1 x1.length c1_2] σ [Res.cells b0_0 #[.slice a0_1 x0.of.rows.length c0_2,.map (some b0_5)] Eb0,Res.rowS 27 1 (pkSl 1 eI_ eIl_).en (.slice a0_1 x0.of.rows.length c0_2) z0_3,Res.mapB keyS keyI (some b0_5) x0.of.places,Res.rowS 3 1 eI_ (.slice a1_1 x1.length c1_2) x1] (fun v σ' H'=> ∃ao1 co2, ∃(zo3:List (List Int×(pkSl 1 eI_ eIl_).P)), ∃bo5,v= .tuple #[.int .i64 r.1,.bool r.2.1,.int .i64 r.2.2.1]∧ZOk σ' (pkSl 1 eI_ eIl_) zo3 r.2.2.2.of.rows∧H'=[Res.cells b0_0 #[.slice ao1 r.2.2.2.of.rows.length co2,.map (some bo5)] Eb0,Res.rowS 27 1 (pkSl 1 eI_ eIl_).en (.slice ao1 r.2.2.2.of.rows.length co2) zo3,Res.mapB keyS keyI (some bo5) r.2.2.2.of.places,Res.rowS 3 1 eI_ (.slice a1_1 x1.length c1_2) x1]):=by
 dsimp only [putKeep]at hh
 have zf0_4b:=zf0_4.length
 refine Con.mk (n:=40) Tryz.func32 z z z (fun w0=> ?_)
 refine TC.a (TL.i z z (TL.j z z (TL.i z z (TL.en (TC.seq (TC.a (TL.l z z (TL.w z (eqlNil z underlying87 z z) (TL.en (TC.f z (TC.skip (S.n (TC.a (TL.s z z (TL.front 3 z z ?_)))))))))))))))
 obtain ⟨v10,u10,hh⟩:=bnd_e hh
 refine TL.op rfl (OpOk.call (Con.lendG (Post:=fun τ=>intern_Sort_P τ v10) eIl_ (by rintro τ τ' r σ' H' ⟨g0,g1,rfl,rfl,rfl⟩;exact ⟨rfl,g0,g1,rfl,rfl,rfl⟩) (fun _ hle_ hr_=>intern_Sort_con hr_ u10)) rfl rfl pf69 rfl rfl rfl rfl ?_)
 rintro _ _ _ hle107 ⟨_,⟨a107_1,c107_1,rfl,rfl,rfl⟩,rfl⟩
 refine TL.s z z (TL.en (TC.a (TL.s z z ?_)))
 obtain ⟨v13,u13,hh⟩:=bnd_e hh
 refine TL.op z (callK (Con.lend eIl_ (fun _ hle110 hr109=>intern_key_con hr109 u13)) z z pf70 z z z z ?_)
 refine TL.w z (moveStr (.inr z) z) (TL.en (TC.seq (TC.a (TL.l z z (TL.w z (nilCheckLoc z z) (TL.w z (fieldLoc z fo140_0 z) (TL.w z (moveStr (.inl z) z) (TL.front 4 z z (TL.front 4 z z (TL.front 4 z z ?_))))))))))
 obtain ⟨v19,u19,hh⟩:=bnd_e hh
 refine TL.op z (OpOk.call (intern_store_string_find_con zf0_4 u19) z z pf71 z z z z ?_)
 rintro _ _ _ hle111 ⟨rfl,rfl,rfl⟩
 refine TL.w z (moveT (.inl z) z) (TL.w z (OpVal.extract z z z) (TL.w z (OpVal.extract z z z) (TL.i z z (TL.j z z (TL.en (TC.a (TL.j z z (TL.en (TC.cB z hh (fun h112 hh=> ?_) (fun h112 hh=> ?_))))))))))
 ·refine TC.a (TL.i z z (TL.i z z (TL.j z z (TL.i z z (TL.en (TC.ofSub (Sub.f [4,3,3,3] 4) (TC.ret (S.r ?_))))))))
  obtain rfl:=so hh
  exact ro [Res.cells b0_0 #[.slice a0_1 x0.of.rows.length c0_2,.map (some b0_5)] Eb0,Res.rowS 27 1 (pkSl 1 eI_ eIl_).en (.slice a0_1 x0.of.rows.length c0_2) z0_3,Res.mapB keyS keyI (some b0_5) x0.of.places,Res.rowS 3 1 eI_ (.slice a1_1 x1.length c1_2) x1] z (RVs.tmp z (RVs.tmp z (RVs.tmp z RVs.nil))) ⟨a0_1,c0_2,z0_3,b0_5,z,zf0_4,z⟩
 refine TC.skip (S.n (TC.seq (TC.a (TL.l z z (TL.w z (nilCheckLoc z z) (TL.w z (fieldLoc z fo140_0 z) (TL.w z (fieldLoc z fo138_0 z) (TL.w z (loadLoc z ag28 z (i:=0) z z) (TL.w z (lenC z underlying28 z) (TL.w z (OpVal.geq z z z) (TL.en (TC.cD z hh (fun h113 hh=> ?_) (fun h113 hh=> ?_)))))))))))))
 ·refine TC.a (TL.i z z (TL.j z z (TL.i z z (TL.en (TC.ofSub (Sub.f [4,3,3,3] 4) (TC.ret (S.r ?_)))))))
  obtain rfl:=so hh
  exact ro [Res.cells b0_0 #[.slice a0_1 x0.of.rows.length c0_2,.map (some b0_5)] Eb0,Res.rowS 27 1 (pkSl 1 eI_ eIl_).en (.slice a0_1 x0.of.rows.length c0_2) z0_3,Res.mapB keyS keyI (some b0_5) x0.of.places,Res.rowS 3 1 eI_ (.slice a1_1 x1.length c1_2) x1] z (RVs.tmp z (RVs.tmp z (RVs.tmp z RVs.nil))) ⟨a0_1,c0_2,z0_3,b0_5,z,zf0_4,z⟩
 refine TC.skip (S.n (TC.a (TL.l z z (TL.w z (nilCheckLoc z z) (TL.w z (fieldLoc z fo140_0 z) (TL.w z (moveStr (.inl z) z) (TL.s z z (TL.front 3 z z (TL.sealS eIl_ (fun τ116 hle115 hr114=> ?_))))))))))
 replace zf0_4:=zf0_4.mono hle115
 have hr114b:=hr114.rv.big
 refine TL.front 2 z z (TL.front 2 z z (TL.front 2 z z ?_))
 obtain ⟨v45,u45,hh⟩:=bnd_e hh
 refine TL.op z (OpOk.call (intern_store_string_add_con zf0_4 hr114 u45) z z pf72 z z z z ?_)
 rintro _ τ117 _ hle117 ⟨a117_1,c117_2,z117_3,b117_5,rfl,zf117_4,rfl⟩
 have zf117_4b:=zf117_4.length
 refine TL.i z z (TL.j z z (TL.i z z (TL.en (TC.ret ?_))))
 obtain rfl:=so hh
 exact ro [Res.cells b0_0 #[.slice a117_1 v45.2.rows.length c117_2,.map (some b117_5)] Eb0,Res.rowS 27 1 (pkSl 1 eI_ eIl_).en (.slice a117_1 v45.2.rows.length c117_2) z117_3,Res.mapB keyS keyI (some b117_5) v45.2.places,Res.rowS 3 1 eI_ (.slice a1_1 x1.length c1_2) x1] z (RVs.tmp z (RVs.tmp z (RVs.tmp z RVs.nil))) ⟨a117_1,c117_2,z117_3,b117_5,z,zf117_4,z⟩
def intern_Table_Size(x0:ITable):Option (Int):=
 some ((x0.of.rows.length:Nat):Int)
theorem intern_Table_Size_con{x0:ITable}{z0_3:List (List Int×(pkSl 1 eI_ eIl_).P)}(zf0_4:ZOk σ (pkSl 1 eI_ eIl_) z0_3 x0.of.rows){r:Int}(hh:intern_Table_Size x0=some r):
  Con Tryz.prog 33 #[loc b0_0 0] σ [Res.cells b0_0 #[.slice a0_1 x0.of.rows.length c0_2,.map (some b0_5)] Eb0,Res.rowS 27 1 (pkSl 1 eI_ eIl_).en (.slice a0_1 x0.of.rows.length c0_2) z0_3,Res.mapB keyS keyI (some b0_5) x0.of.places] (fun v σ' H'=>v= .int .i64 r∧σ=σ'∧H'=[Res.cells b0_0 #[.slice a0_1 x0.of.rows.length c0_2,.map (some b0_5)] Eb0,Res.rowS 27 1 (pkSl 1 eI_ eIl_).en (.slice a0_1 x0.of.rows.length c0_2) z0_3,Res.mapB keyS keyI (some b0_5) x0.of.places]):=by
 dsimp only [intern_Table_Size]at hh
 have zf0_4b:=zf0_4.length
 refine Con.mk (n:=11) Tryz.func33 z z z (fun w0=> ?_)
 refine TC.a (TL.i z z (TL.en (TC.seq (TC.a (TL.l z z (TL.w z (eqlNil z underlying87 z z) (TL.en (TC.f z (TC.skip (S.n (TC.a (TL.l z z (TL.w z (nilCheckLoc z z) (TL.w z (fieldLoc z fo140_0 z) (TL.w z (fieldLoc z fo138_0 z) ?_)))))))))))))))
 refine TL.w z (loadLoc z ag28 z (i:=0) z z) (TL.w z (lenC z underlying28 z) (TL.i z z (TL.en (TC.ret ?_))))
 obtain rfl:=so hh
 exact ro [Res.cells b0_0 #[.slice a0_1 x0.of.rows.length c0_2,.map (some b0_5)] Eb0,Res.rowS 27 1 (pkSl 1 eI_ eIl_).en (.slice a0_1 x0.of.rows.length c0_2) z0_3,Res.mapB keyS keyI (some b0_5) x0.of.places] z (RVs.tmp z RVs.nil) ⟨z,z,z⟩
end Go.Proofs.YtnpbfjdpglfdkaaGreatDoor
end

noncomputable section
namespace Go.Proofs.YtnpbfjdpglfdkaaGreatDoor
open Go Go.Shelf
def layS_ren:Go.Shelf.Ren:=⟨fun|6=>45|15=>78|14=>77|28=>101|29=>102|20=>93|21=>94|22=>95|23=>96|24=>97|25=>98|26=>99|27=>100|46=>116|47=>117|48=>118|49=>119|50=>120|57=>141|n=>n,fun|22=>35|24=>9|25=>70|3=>3|39=>150|0=>0|53=>169|55=>55|4=>4|46=>163|45=>162|50=>132|5=>5|9=>9|66=>183|70=>187|76=>202|77=>203|n=>n,fun|n=>n⟩
theorem layS:Go.Proofs.SlLaysF.n6 Tryz.prog layS_ren:={
  mixed:=by kernel_rfl,
  f6:=⟨Tryz.f45.name,by decide,Tryz.func45.trans (congrArg some (by kernel_rfl))⟩,
  f14:=⟨Tryz.f77.name,by decide,Tryz.func77.trans (congrArg some (by kernel_rfl))⟩,
  f15:=Tryz.func78.trans (congrArg some (by kernel_rfl)),
  f20:=⟨Tryz.f93.name,by decide,Tryz.func93.trans (congrArg some (by kernel_rfl))⟩,
  f21:=⟨Tryz.f94.name,by decide,Tryz.func94.trans (congrArg some (by kernel_rfl))⟩,
  f22:=⟨Tryz.f95.name,by decide,Tryz.func95.trans (congrArg some (by kernel_rfl))⟩,
  f23:=⟨Tryz.f96.name,by decide,Tryz.func96.trans (congrArg some (by kernel_rfl))⟩,
  f24:=⟨Tryz.f97.name,by decide,Tryz.func97.trans (congrArg some (by kernel_rfl))⟩,
  f25:=⟨Tryz.f98.name,by decide,Tryz.func98.trans (congrArg some (by kernel_rfl))⟩,
  f26:=⟨Tryz.f99.name,by decide,Tryz.func99.trans (congrArg some (by kernel_rfl))⟩,
  f27:=⟨Tryz.f100.name,by decide,Tryz.func100.trans (congrArg some (by kernel_rfl))⟩,
  f28:=Tryz.func101.trans (congrArg some (by kernel_rfl)),
  f29:=Tryz.func102.trans (congrArg some (by kernel_rfl)),
  f46:=⟨Tryz.f116.name,by decide,Tryz.func116.trans (congrArg some (by kernel_rfl))⟩,
  f47:=Tryz.func117.trans (congrArg some (by kernel_rfl)),
  f48:=Tryz.func118.trans (congrArg some (by kernel_rfl)),
  f49:=⟨Tryz.f119.name,by decide,Tryz.func119.trans (congrArg some (by kernel_rfl))⟩,
  f50:=⟨Tryz.f120.name,by decide,Tryz.func120.trans (congrArg some (by kernel_rfl))⟩,
  f57:=⟨Tryz.f141.name,by decide,Tryz.func141.trans (congrArg some (by kernel_rfl))⟩,
  t0:=Tryz.underlying0,
  a0:=Tryz.isAgg0,
  z0:=Tryz.sizeOf0,
  v0:=Tryz.zeroValue0,
  t3:=Tryz.underlying3,
  a3:=Tryz.isAgg3,
  z3:=Tryz.sizeOf3,
  v3:=Tryz.zeroValue3,
  t4:=Tryz.underlying4,
  a4:=Tryz.isAgg4,
  z4:=Tryz.sizeOf4,
  v4:=Tryz.zeroValue4,
  t5:=Tryz.underlying5,
  a5:=Tryz.isAgg5,
  z5:=Tryz.sizeOf5,
  v5:=Tryz.zeroValue5,
  t9:=Tryz.underlying9,
  a9:=Tryz.isAgg9,
  z9:=Tryz.sizeOf9,
  v9:=Tryz.zeroValue9,
  t22:=Tryz.underlying35,
  a22:=Tryz.isAgg35,
  z22:=Tryz.sizeOf35,
  v22:=Tryz.zeroValue35,
  a24:=Tryz.isAgg9,
  z24:=Tryz.sizeOf9,
  t25:=Tryz.underlying70,
  a25:=Tryz.isAgg70,
  z25:=Tryz.sizeOf70,
  v25:=Tryz.zeroValue70,
  t39:=Tryz.underlying150,
  a39:=Tryz.isAgg150,
  z39:=Tryz.sizeOf150,
  v39:=Tryz.zeroValue150,
  t45:=Tryz.underlying162,
  a45:=Tryz.isAgg162,
  z45:=Tryz.sizeOf162,
  v45:=Tryz.zeroValue162,
  t46:=Tryz.underlying163,
  a46:=Tryz.isAgg163,
  z46:=Tryz.sizeOf163,
  v46:=Tryz.zeroValue163,
  t50:=Tryz.underlying132,
  a50:=Tryz.isAgg132,
  z50:=Tryz.sizeOf132,
  v50:=Tryz.zeroValue132,
  t53:=Tryz.underlying169,
  a53:=Tryz.isAgg169,
  z53:=Tryz.sizeOf169,
  v53:=Tryz.zeroValue169,
  t55:=Tryz.underlying55,
  a55:=Tryz.isAgg55,
  z55:=Tryz.sizeOf55,
  v55:=Tryz.zeroValue55,
  t66:=Tryz.underlying183,
  a66:=Tryz.isAgg183,
  z66:=Tryz.sizeOf183,
  v66:=Tryz.zeroValue183,
  t70:=Tryz.underlying187,
  a70:=Tryz.isAgg187,
  z70:=Tryz.sizeOf187,
  v70:=Tryz.zeroValue187,
  t76:=Tryz.underlying202,
  a76:=Tryz.isAgg202,
  z76:=Tryz.sizeOf202,
  v76:=Tryz.zeroValue202,
  t77:=Tryz.underlying203,
  a77:=Tryz.isAgg203,
  z77:=Tryz.sizeOf203,
  v77:=Tryz.zeroValue203}
def layS0_ren:Go.Shelf.Ren:=⟨fun|6=>45|15=>78|14=>77|28=>101|29=>102|20=>93|21=>94|22=>95|23=>96|24=>97|25=>98|26=>99|27=>100|46=>116|47=>117|48=>118|49=>119|50=>120|57=>141|n=>n,fun|22=>35|24=>9|25=>70|3=>3|39=>150|0=>0|53=>169|55=>55|4=>4|46=>163|45=>162|50=>132|5=>5|9=>9|66=>183|70=>187|76=>202|77=>203|n=>n,fun|n=>n⟩
theorem layS0:Go.Proofs.SlLaysF0.n6 Tryz.prog layS0_ren:={
  mixed:=by kernel_rfl,
  f6:=⟨Tryz.f45.name,by decide,Tryz.func45.trans (congrArg some (by kernel_rfl))⟩,
  f14:=⟨Tryz.f77.name,by decide,Tryz.func77.trans (congrArg some (by kernel_rfl))⟩,
  f15:=Tryz.func78.trans (congrArg some (by kernel_rfl)),
  f20:=⟨Tryz.f93.name,by decide,Tryz.func93.trans (congrArg some (by kernel_rfl))⟩,
  f21:=⟨Tryz.f94.name,by decide,Tryz.func94.trans (congrArg some (by kernel_rfl))⟩,
  f22:=⟨Tryz.f95.name,by decide,Tryz.func95.trans (congrArg some (by kernel_rfl))⟩,
  f23:=⟨Tryz.f96.name,by decide,Tryz.func96.trans (congrArg some (by kernel_rfl))⟩,
  f24:=⟨Tryz.f97.name,by decide,Tryz.func97.trans (congrArg some (by kernel_rfl))⟩,
  f25:=⟨Tryz.f98.name,by decide,Tryz.func98.trans (congrArg some (by kernel_rfl))⟩,
  f26:=⟨Tryz.f99.name,by decide,Tryz.func99.trans (congrArg some (by kernel_rfl))⟩,
  f27:=⟨Tryz.f100.name,by decide,Tryz.func100.trans (congrArg some (by kernel_rfl))⟩,
  f28:=Tryz.func101.trans (congrArg some (by kernel_rfl)),
  f29:=Tryz.func102.trans (congrArg some (by kernel_rfl)),
  f46:=⟨Tryz.f116.name,by decide,Tryz.func116.trans (congrArg some (by kernel_rfl))⟩,
  f47:=Tryz.func117.trans (congrArg some (by kernel_rfl)),
  f48:=Tryz.func118.trans (congrArg some (by kernel_rfl)),
  f49:=⟨Tryz.f119.name,by decide,Tryz.func119.trans (congrArg some (by kernel_rfl))⟩,
  f50:=⟨Tryz.f120.name,by decide,Tryz.func120.trans (congrArg some (by kernel_rfl))⟩,
  f57:=⟨Tryz.f141.name,by decide,Tryz.func141.trans (congrArg some (by kernel_rfl))⟩,
  t0:=Tryz.underlying0,
  a0:=Tryz.isAgg0,
  z0:=Tryz.sizeOf0,
  v0:=Tryz.zeroValue0,
  t3:=Tryz.underlying3,
  a3:=Tryz.isAgg3,
  z3:=Tryz.sizeOf3,
  v3:=Tryz.zeroValue3,
  t4:=Tryz.underlying4,
  a4:=Tryz.isAgg4,
  z4:=Tryz.sizeOf4,
  v4:=Tryz.zeroValue4,
  t5:=Tryz.underlying5,
  a5:=Tryz.isAgg5,
  z5:=Tryz.sizeOf5,
  v5:=Tryz.zeroValue5,
  t9:=Tryz.underlying9,
  a9:=Tryz.isAgg9,
  z9:=Tryz.sizeOf9,
  v9:=Tryz.zeroValue9,
  t22:=Tryz.underlying35,
  a22:=Tryz.isAgg35,
  z22:=Tryz.sizeOf35,
  v22:=Tryz.zeroValue35,
  t25:=Tryz.underlying70,
  a25:=Tryz.isAgg70,
  z25:=Tryz.sizeOf70,
  v25:=Tryz.zeroValue70,
  t39:=Tryz.underlying150,
  a39:=Tryz.isAgg150,
  z39:=Tryz.sizeOf150,
  v39:=Tryz.zeroValue150,
  t45:=Tryz.underlying162,
  a45:=Tryz.isAgg162,
  z45:=Tryz.sizeOf162,
  v45:=Tryz.zeroValue162,
  t46:=Tryz.underlying163,
  a46:=Tryz.isAgg163,
  z46:=Tryz.sizeOf163,
  v46:=Tryz.zeroValue163,
  t50:=Tryz.underlying132,
  a50:=Tryz.isAgg132,
  z50:=Tryz.sizeOf132,
  v50:=Tryz.zeroValue132,
  t53:=Tryz.underlying169,
  a53:=Tryz.isAgg169,
  z53:=Tryz.sizeOf169,
  v53:=Tryz.zeroValue169,
  t55:=Tryz.underlying55,
  a55:=Tryz.isAgg55,
  z55:=Tryz.sizeOf55,
  v55:=Tryz.zeroValue55,
  t66:=Tryz.underlying183,
  a66:=Tryz.isAgg183,
  z66:=Tryz.sizeOf183,
  v66:=Tryz.zeroValue183,
  t70:=Tryz.underlying187,
  a70:=Tryz.isAgg187,
  z70:=Tryz.sizeOf187,
  v70:=Tryz.zeroValue187,
  t76:=Tryz.underlying202,
  a76:=Tryz.isAgg202,
  z76:=Tryz.sizeOf202,
  v76:=Tryz.zeroValue202,
  t77:=Tryz.underlying203,
  a77:=Tryz.isAgg203,
  z77:=Tryz.sizeOf203,
  v77:=Tryz.zeroValue203}
def layI_ren:Go.Shelf.Ren:=⟨fun|6=>89|15=>78|14=>115|28=>101|29=>102|20=>133|21=>134|22=>135|23=>136|24=>137|25=>138|26=>139|27=>140|46=>162|47=>117|48=>118|49=>163|50=>164|57=>172|n=>n,fun|22=>27|24=>3|25=>128|3=>3|39=>150|0=>0|53=>169|55=>55|4=>4|46=>163|45=>162|50=>132|5=>5|9=>9|66=>183|70=>187|76=>202|77=>203|n=>n,fun|n=>n⟩
theorem layI:Go.Proofs.SlLaysF.n6 Tryz.prog layI_ren:={
  mixed:=by kernel_rfl,
  f6:=⟨Tryz.f89.name,by decide,Tryz.func89.trans (congrArg some (by kernel_rfl))⟩,
  f14:=⟨Tryz.f115.name,by decide,Tryz.func115.trans (congrArg some (by kernel_rfl))⟩,
  f15:=Tryz.func78.trans (congrArg some (by kernel_rfl)),
  f20:=⟨Tryz.f133.name,by decide,Tryz.func133.trans (congrArg some (by kernel_rfl))⟩,
  f21:=⟨Tryz.f134.name,by decide,Tryz.func134.trans (congrArg some (by kernel_rfl))⟩,
  f22:=⟨Tryz.f135.name,by decide,Tryz.func135.trans (congrArg some (by kernel_rfl))⟩,
  f23:=⟨Tryz.f136.name,by decide,Tryz.func136.trans (congrArg some (by kernel_rfl))⟩,
  f24:=⟨Tryz.f137.name,by decide,Tryz.func137.trans (congrArg some (by kernel_rfl))⟩,
  f25:=⟨Tryz.f138.name,by decide,Tryz.func138.trans (congrArg some (by kernel_rfl))⟩,
  f26:=⟨Tryz.f139.name,by decide,Tryz.func139.trans (congrArg some (by kernel_rfl))⟩,
  f27:=⟨Tryz.f140.name,by decide,Tryz.func140.trans (congrArg some (by kernel_rfl))⟩,
  f28:=Tryz.func101.trans (congrArg some (by kernel_rfl)),
  f29:=Tryz.func102.trans (congrArg some (by kernel_rfl)),
  f46:=⟨Tryz.f162.name,by decide,Tryz.func162.trans (congrArg some (by kernel_rfl))⟩,
  f47:=Tryz.func117.trans (congrArg some (by kernel_rfl)),
  f48:=Tryz.func118.trans (congrArg some (by kernel_rfl)),
  f49:=⟨Tryz.f163.name,by decide,Tryz.func163.trans (congrArg some (by kernel_rfl))⟩,
  f50:=⟨Tryz.f164.name,by decide,Tryz.func164.trans (congrArg some (by kernel_rfl))⟩,
  f57:=⟨Tryz.f172.name,by decide,Tryz.func172.trans (congrArg some (by kernel_rfl))⟩,
  t0:=Tryz.underlying0,
  a0:=Tryz.isAgg0,
  z0:=Tryz.sizeOf0,
  v0:=Tryz.zeroValue0,
  t3:=Tryz.underlying3,
  a3:=Tryz.isAgg3,
  z3:=Tryz.sizeOf3,
  v3:=Tryz.zeroValue3,
  t4:=Tryz.underlying4,
  a4:=Tryz.isAgg4,
  z4:=Tryz.sizeOf4,
  v4:=Tryz.zeroValue4,
  t5:=Tryz.underlying5,
  a5:=Tryz.isAgg5,
  z5:=Tryz.sizeOf5,
  v5:=Tryz.zeroValue5,
  t9:=Tryz.underlying9,
  a9:=Tryz.isAgg9,
  z9:=Tryz.sizeOf9,
  v9:=Tryz.zeroValue9,
  t22:=Tryz.underlying27,
  a22:=Tryz.isAgg27,
  z22:=Tryz.sizeOf27,
  v22:=Tryz.zeroValue27,
  a24:=Tryz.isAgg3,
  z24:=Tryz.sizeOf3,
  t25:=Tryz.underlying128,
  a25:=Tryz.isAgg128,
  z25:=Tryz.sizeOf128,
  v25:=Tryz.zeroValue128,
  t39:=Tryz.underlying150,
  a39:=Tryz.isAgg150,
  z39:=Tryz.sizeOf150,
  v39:=Tryz.zeroValue150,
  t45:=Tryz.underlying162,
  a45:=Tryz.isAgg162,
  z45:=Tryz.sizeOf162,
  v45:=Tryz.zeroValue162,
  t46:=Tryz.underlying163,
  a46:=Tryz.isAgg163,
  z46:=Tryz.sizeOf163,
  v46:=Tryz.zeroValue163,
  t50:=Tryz.underlying132,
  a50:=Tryz.isAgg132,
  z50:=Tryz.sizeOf132,
  v50:=Tryz.zeroValue132,
  t53:=Tryz.underlying169,
  a53:=Tryz.isAgg169,
  z53:=Tryz.sizeOf169,
  v53:=Tryz.zeroValue169,
  t55:=Tryz.underlying55,
  a55:=Tryz.isAgg55,
  z55:=Tryz.sizeOf55,
  v55:=Tryz.zeroValue55,
  t66:=Tryz.underlying183,
  a66:=Tryz.isAgg183,
  z66:=Tryz.sizeOf183,
  v66:=Tryz.zeroValue183,
  t70:=Tryz.underlying187,
  a70:=Tryz.isAgg187,
  z70:=Tryz.sizeOf187,
  v70:=Tryz.zeroValue187,
  t76:=Tryz.underlying202,
  a76:=Tryz.isAgg202,
  z76:=Tryz.sizeOf202,
  v76:=Tryz.zeroValue202,
  t77:=Tryz.underlying203,
  a77:=Tryz.isAgg203,
  z77:=Tryz.sizeOf203,
  v77:=Tryz.zeroValue203}
def layI0_ren:Go.Shelf.Ren:=⟨fun|6=>89|15=>78|14=>115|28=>101|29=>102|20=>133|21=>134|22=>135|23=>136|24=>137|25=>138|26=>139|27=>140|46=>162|47=>117|48=>118|49=>163|50=>164|57=>172|n=>n,fun|22=>27|24=>3|25=>128|3=>3|39=>150|0=>0|53=>169|55=>55|4=>4|46=>163|45=>162|50=>132|5=>5|9=>9|66=>183|70=>187|76=>202|77=>203|n=>n,fun|n=>n⟩
theorem layI0:Go.Proofs.SlLaysF0.n6 Tryz.prog layI0_ren:={
  mixed:=by kernel_rfl,
  f6:=⟨Tryz.f89.name,by decide,Tryz.func89.trans (congrArg some (by kernel_rfl))⟩,
  f14:=⟨Tryz.f115.name,by decide,Tryz.func115.trans (congrArg some (by kernel_rfl))⟩,
  f15:=Tryz.func78.trans (congrArg some (by kernel_rfl)),
  f20:=⟨Tryz.f133.name,by decide,Tryz.func133.trans (congrArg some (by kernel_rfl))⟩,
  f21:=⟨Tryz.f134.name,by decide,Tryz.func134.trans (congrArg some (by kernel_rfl))⟩,
  f22:=⟨Tryz.f135.name,by decide,Tryz.func135.trans (congrArg some (by kernel_rfl))⟩,
  f23:=⟨Tryz.f136.name,by decide,Tryz.func136.trans (congrArg some (by kernel_rfl))⟩,
  f24:=⟨Tryz.f137.name,by decide,Tryz.func137.trans (congrArg some (by kernel_rfl))⟩,
  f25:=⟨Tryz.f138.name,by decide,Tryz.func138.trans (congrArg some (by kernel_rfl))⟩,
  f26:=⟨Tryz.f139.name,by decide,Tryz.func139.trans (congrArg some (by kernel_rfl))⟩,
  f27:=⟨Tryz.f140.name,by decide,Tryz.func140.trans (congrArg some (by kernel_rfl))⟩,
  f28:=Tryz.func101.trans (congrArg some (by kernel_rfl)),
  f29:=Tryz.func102.trans (congrArg some (by kernel_rfl)),
  f46:=⟨Tryz.f162.name,by decide,Tryz.func162.trans (congrArg some (by kernel_rfl))⟩,
  f47:=Tryz.func117.trans (congrArg some (by kernel_rfl)),
  f48:=Tryz.func118.trans (congrArg some (by kernel_rfl)),
  f49:=⟨Tryz.f163.name,by decide,Tryz.func163.trans (congrArg some (by kernel_rfl))⟩,
  f50:=⟨Tryz.f164.name,by decide,Tryz.func164.trans (congrArg some (by kernel_rfl))⟩,
  f57:=⟨Tryz.f172.name,by decide,Tryz.func172.trans (congrArg some (by kernel_rfl))⟩,
  t0:=Tryz.underlying0,
  a0:=Tryz.isAgg0,
  z0:=Tryz.sizeOf0,
  v0:=Tryz.zeroValue0,
  t3:=Tryz.underlying3,
  a3:=Tryz.isAgg3,
  z3:=Tryz.sizeOf3,
  v3:=Tryz.zeroValue3,
  t4:=Tryz.underlying4,
  a4:=Tryz.isAgg4,
  z4:=Tryz.sizeOf4,
  v4:=Tryz.zeroValue4,
  t5:=Tryz.underlying5,
  a5:=Tryz.isAgg5,
  z5:=Tryz.sizeOf5,
  v5:=Tryz.zeroValue5,
  t9:=Tryz.underlying9,
  a9:=Tryz.isAgg9,
  z9:=Tryz.sizeOf9,
  v9:=Tryz.zeroValue9,
  t22:=Tryz.underlying27,
  a22:=Tryz.isAgg27,
  z22:=Tryz.sizeOf27,
  v22:=Tryz.zeroValue27,
  t25:=Tryz.underlying128,
  a25:=Tryz.isAgg128,
  z25:=Tryz.sizeOf128,
  v25:=Tryz.zeroValue128,
  t39:=Tryz.underlying150,
  a39:=Tryz.isAgg150,
  z39:=Tryz.sizeOf150,
  v39:=Tryz.zeroValue150,
  t45:=Tryz.underlying162,
  a45:=Tryz.isAgg162,
  z45:=Tryz.sizeOf162,
  v45:=Tryz.zeroValue162,
  t46:=Tryz.underlying163,
  a46:=Tryz.isAgg163,
  z46:=Tryz.sizeOf163,
  v46:=Tryz.zeroValue163,
  t50:=Tryz.underlying132,
  a50:=Tryz.isAgg132,
  z50:=Tryz.sizeOf132,
  v50:=Tryz.zeroValue132,
  t53:=Tryz.underlying169,
  a53:=Tryz.isAgg169,
  z53:=Tryz.sizeOf169,
  v53:=Tryz.zeroValue169,
  t55:=Tryz.underlying55,
  a55:=Tryz.isAgg55,
  z55:=Tryz.sizeOf55,
  v55:=Tryz.zeroValue55,
  t66:=Tryz.underlying183,
  a66:=Tryz.isAgg183,
  z66:=Tryz.sizeOf183,
  v66:=Tryz.zeroValue183,
  t70:=Tryz.underlying187,
  a70:=Tryz.isAgg187,
  z70:=Tryz.sizeOf187,
  v70:=Tryz.zeroValue187,
  t76:=Tryz.underlying202,
  a76:=Tryz.isAgg202,
  z76:=Tryz.sizeOf202,
  v76:=Tryz.zeroValue202,
  t77:=Tryz.underlying203,
  a77:=Tryz.isAgg203,
  z77:=Tryz.sizeOf203,
  v77:=Tryz.zeroValue203}
def layT0_ren:Go.Shelf.Ren:=⟨fun|6=>105|15=>78|14=>121|28=>101|29=>102|20=>142|21=>143|22=>144|23=>145|24=>146|25=>147|26=>148|27=>149|46=>165|47=>117|48=>118|49=>166|50=>167|57=>173|n=>n,fun|22=>22|24=>62|25=>154|3=>3|39=>150|0=>0|53=>169|55=>55|4=>4|46=>163|45=>162|50=>132|5=>5|9=>9|66=>183|70=>187|76=>202|77=>203|n=>n,fun|n=>n⟩
theorem layT0:Go.Proofs.SlLaysF0.n6 Tryz.prog layT0_ren:={
  mixed:=by kernel_rfl,
  f6:=⟨Tryz.f105.name,by decide,Tryz.func105.trans (congrArg some (by kernel_rfl))⟩,
  f14:=⟨Tryz.f121.name,by decide,Tryz.func121.trans (congrArg some (by kernel_rfl))⟩,
  f15:=Tryz.func78.trans (congrArg some (by kernel_rfl)),
  f20:=⟨Tryz.f142.name,by decide,Tryz.func142.trans (congrArg some (by kernel_rfl))⟩,
  f21:=⟨Tryz.f143.name,by decide,Tryz.func143.trans (congrArg some (by kernel_rfl))⟩,
  f22:=⟨Tryz.f144.name,by decide,Tryz.func144.trans (congrArg some (by kernel_rfl))⟩,
  f23:=⟨Tryz.f145.name,by decide,Tryz.func145.trans (congrArg some (by kernel_rfl))⟩,
  f24:=⟨Tryz.f146.name,by decide,Tryz.func146.trans (congrArg some (by kernel_rfl))⟩,
  f25:=⟨Tryz.f147.name,by decide,Tryz.func147.trans (congrArg some (by kernel_rfl))⟩,
  f26:=⟨Tryz.f148.name,by decide,Tryz.func148.trans (congrArg some (by kernel_rfl))⟩,
  f27:=⟨Tryz.f149.name,by decide,Tryz.func149.trans (congrArg some (by kernel_rfl))⟩,
  f28:=Tryz.func101.trans (congrArg some (by kernel_rfl)),
  f29:=Tryz.func102.trans (congrArg some (by kernel_rfl)),
  f46:=⟨Tryz.f165.name,by decide,Tryz.func165.trans (congrArg some (by kernel_rfl))⟩,
  f47:=Tryz.func117.trans (congrArg some (by kernel_rfl)),
  f48:=Tryz.func118.trans (congrArg some (by kernel_rfl)),
  f49:=⟨Tryz.f166.name,by decide,Tryz.func166.trans (congrArg some (by kernel_rfl))⟩,
  f50:=⟨Tryz.f167.name,by decide,Tryz.func167.trans (congrArg some (by kernel_rfl))⟩,
  f57:=⟨Tryz.f173.name,by decide,Tryz.func173.trans (congrArg some (by kernel_rfl))⟩,
  t0:=Tryz.underlying0,
  a0:=Tryz.isAgg0,
  z0:=Tryz.sizeOf0,
  v0:=Tryz.zeroValue0,
  t3:=Tryz.underlying3,
  a3:=Tryz.isAgg3,
  z3:=Tryz.sizeOf3,
  v3:=Tryz.zeroValue3,
  t4:=Tryz.underlying4,
  a4:=Tryz.isAgg4,
  z4:=Tryz.sizeOf4,
  v4:=Tryz.zeroValue4,
  t5:=Tryz.underlying5,
  a5:=Tryz.isAgg5,
  z5:=Tryz.sizeOf5,
  v5:=Tryz.zeroValue5,
  t9:=Tryz.underlying9,
  a9:=Tryz.isAgg9,
  z9:=Tryz.sizeOf9,
  v9:=Tryz.zeroValue9,
  t22:=Tryz.underlying22,
  a22:=Tryz.isAgg22,
  z22:=Tryz.sizeOf22,
  v22:=Tryz.zeroValue22,
  t25:=Tryz.underlying154,
  a25:=Tryz.isAgg154,
  z25:=Tryz.sizeOf154,
  v25:=Tryz.zeroValue154,
  t39:=Tryz.underlying150,
  a39:=Tryz.isAgg150,
  z39:=Tryz.sizeOf150,
  v39:=Tryz.zeroValue150,
  t45:=Tryz.underlying162,
  a45:=Tryz.isAgg162,
  z45:=Tryz.sizeOf162,
  v45:=Tryz.zeroValue162,
  t46:=Tryz.underlying163,
  a46:=Tryz.isAgg163,
  z46:=Tryz.sizeOf163,
  v46:=Tryz.zeroValue163,
  t50:=Tryz.underlying132,
  a50:=Tryz.isAgg132,
  z50:=Tryz.sizeOf132,
  v50:=Tryz.zeroValue132,
  t53:=Tryz.underlying169,
  a53:=Tryz.isAgg169,
  z53:=Tryz.sizeOf169,
  v53:=Tryz.zeroValue169,
  t55:=Tryz.underlying55,
  a55:=Tryz.isAgg55,
  z55:=Tryz.sizeOf55,
  v55:=Tryz.zeroValue55,
  t66:=Tryz.underlying183,
  a66:=Tryz.isAgg183,
  z66:=Tryz.sizeOf183,
  v66:=Tryz.zeroValue183,
  t70:=Tryz.underlying187,
  a70:=Tryz.isAgg187,
  z70:=Tryz.sizeOf187,
  v70:=Tryz.zeroValue187,
  t76:=Tryz.underlying202,
  a76:=Tryz.isAgg202,
  z76:=Tryz.sizeOf202,
  v76:=Tryz.zeroValue202,
  t77:=Tryz.underlying203,
  a77:=Tryz.isAgg203,
  z77:=Tryz.sizeOf203,
  v77:=Tryz.zeroValue203}
def layA0_ren:Go.Shelf.Ren:=⟨fun|6=>109|15=>78|14=>122|28=>101|29=>102|20=>150|21=>151|22=>152|23=>153|24=>154|25=>155|26=>156|27=>157|46=>168|47=>117|48=>118|49=>169|50=>170|57=>174|n=>n,fun|22=>23|24=>59|25=>156|3=>3|39=>150|0=>0|53=>169|55=>55|4=>4|46=>163|45=>162|50=>132|5=>5|9=>9|66=>183|70=>187|76=>202|77=>203|n=>n,fun|n=>n⟩
theorem layA0:Go.Proofs.SlLaysF0.n6 Tryz.prog layA0_ren:={
  mixed:=by kernel_rfl,
  f6:=⟨Tryz.f109.name,by decide,Tryz.func109.trans (congrArg some (by kernel_rfl))⟩,
  f14:=⟨Tryz.f122.name,by decide,Tryz.func122.trans (congrArg some (by kernel_rfl))⟩,
  f15:=Tryz.func78.trans (congrArg some (by kernel_rfl)),
  f20:=⟨Tryz.f150.name,by decide,Tryz.func150.trans (congrArg some (by kernel_rfl))⟩,
  f21:=⟨Tryz.f151.name,by decide,Tryz.func151.trans (congrArg some (by kernel_rfl))⟩,
  f22:=⟨Tryz.f152.name,by decide,Tryz.func152.trans (congrArg some (by kernel_rfl))⟩,
  f23:=⟨Tryz.f153.name,by decide,Tryz.func153.trans (congrArg some (by kernel_rfl))⟩,
  f24:=⟨Tryz.f154.name,by decide,Tryz.func154.trans (congrArg some (by kernel_rfl))⟩,
  f25:=⟨Tryz.f155.name,by decide,Tryz.func155.trans (congrArg some (by kernel_rfl))⟩,
  f26:=⟨Tryz.f156.name,by decide,Tryz.func156.trans (congrArg some (by kernel_rfl))⟩,
  f27:=⟨Tryz.f157.name,by decide,Tryz.func157.trans (congrArg some (by kernel_rfl))⟩,
  f28:=Tryz.func101.trans (congrArg some (by kernel_rfl)),
  f29:=Tryz.func102.trans (congrArg some (by kernel_rfl)),
  f46:=⟨Tryz.f168.name,by decide,Tryz.func168.trans (congrArg some (by kernel_rfl))⟩,
  f47:=Tryz.func117.trans (congrArg some (by kernel_rfl)),
  f48:=Tryz.func118.trans (congrArg some (by kernel_rfl)),
  f49:=⟨Tryz.f169.name,by decide,Tryz.func169.trans (congrArg some (by kernel_rfl))⟩,
  f50:=⟨Tryz.f170.name,by decide,Tryz.func170.trans (congrArg some (by kernel_rfl))⟩,
  f57:=⟨Tryz.f174.name,by decide,Tryz.func174.trans (congrArg some (by kernel_rfl))⟩,
  t0:=Tryz.underlying0,
  a0:=Tryz.isAgg0,
  z0:=Tryz.sizeOf0,
  v0:=Tryz.zeroValue0,
  t3:=Tryz.underlying3,
  a3:=Tryz.isAgg3,
  z3:=Tryz.sizeOf3,
  v3:=Tryz.zeroValue3,
  t4:=Tryz.underlying4,
  a4:=Tryz.isAgg4,
  z4:=Tryz.sizeOf4,
  v4:=Tryz.zeroValue4,
  t5:=Tryz.underlying5,
  a5:=Tryz.isAgg5,
  z5:=Tryz.sizeOf5,
  v5:=Tryz.zeroValue5,
  t9:=Tryz.underlying9,
  a9:=Tryz.isAgg9,
  z9:=Tryz.sizeOf9,
  v9:=Tryz.zeroValue9,
  t22:=Tryz.underlying23,
  a22:=Tryz.isAgg23,
  z22:=Tryz.sizeOf23,
  v22:=Tryz.zeroValue23,
  t25:=Tryz.underlying156,
  a25:=Tryz.isAgg156,
  z25:=Tryz.sizeOf156,
  v25:=Tryz.zeroValue156,
  t39:=Tryz.underlying150,
  a39:=Tryz.isAgg150,
  z39:=Tryz.sizeOf150,
  v39:=Tryz.zeroValue150,
  t45:=Tryz.underlying162,
  a45:=Tryz.isAgg162,
  z45:=Tryz.sizeOf162,
  v45:=Tryz.zeroValue162,
  t46:=Tryz.underlying163,
  a46:=Tryz.isAgg163,
  z46:=Tryz.sizeOf163,
  v46:=Tryz.zeroValue163,
  t50:=Tryz.underlying132,
  a50:=Tryz.isAgg132,
  z50:=Tryz.sizeOf132,
  v50:=Tryz.zeroValue132,
  t53:=Tryz.underlying169,
  a53:=Tryz.isAgg169,
  z53:=Tryz.sizeOf169,
  v53:=Tryz.zeroValue169,
  t55:=Tryz.underlying55,
  a55:=Tryz.isAgg55,
  z55:=Tryz.sizeOf55,
  v55:=Tryz.zeroValue55,
  t66:=Tryz.underlying183,
  a66:=Tryz.isAgg183,
  z66:=Tryz.sizeOf183,
  v66:=Tryz.zeroValue183,
  t70:=Tryz.underlying187,
  a70:=Tryz.isAgg187,
  z70:=Tryz.sizeOf187,
  v70:=Tryz.zeroValue187,
  t76:=Tryz.underlying202,
  a76:=Tryz.isAgg202,
  z76:=Tryz.sizeOf202,
  v76:=Tryz.zeroValue202,
  t77:=Tryz.underlying203,
  a77:=Tryz.isAgg203,
  z77:=Tryz.sizeOf203,
  v77:=Tryz.zeroValue203}
end Go.Proofs.YtnpbfjdpglfdkaaGreatDoor
end

noncomputable section
namespace Go.E
open Go
structure Tip where
  state:Int
  out:List UInt8
  deriving DecidableEq
def Tip.zero:Tip:=⟨0,[]⟩
def encTip(x:Tip):List Value:=[.int .i64 x.state,.string (bs x.out)]
theorem encTip_len(x:Tip):(encTip x).length=2:=rfl
theorem encTip_one: ∀x, ∀u∈encTip x,u.oneCell'=true:=fun x u hu=>by
  simp [encTip]at hu
  rcases hu with rfl|rfl<;>rfl
structure Arc where
  frm:Int
  to:Int
  set:BSet
  out:List UInt8
  copy:Bool
  deriving DecidableEq
def Arc.zero:Arc:=⟨0,0,BSet.zero,[],false⟩
def encArc(x:Arc):List Value:=[.int .i64 x.frm,.int .i64 x.to,.int .u64 ((x.set.a:Nat):Int),.int .u64 ((x.set.b:Nat):Int),.int .u64 ((x.set.c:Nat):Int),.int .u64 ((x.set.d:Nat):Int),.string (bs x.out),.bool x.copy]
theorem encArc_len(x:Arc):(encArc x).length=8:=rfl
theorem encArc_one: ∀x, ∀u∈encArc x,u.oneCell'=true:=fun x u hu=>by
  simp [encArc]at hu
  rcases hu with rfl|rfl|rfl|rfl|rfl|rfl|rfl|rfl<;>rfl
structure FPair where
  state:Int
  out:List UInt8
  deriving DecidableEq
def FPair.zero:FPair:=⟨0,[]⟩
def encFPair(x:FPair):List Value:=[.int .i64 x.state,.string (bs x.out)]
theorem encFPair_bits: ∀x, ∀u∈encFPair x,Bits u:=fun x u hu=>by
  simp [encFPair]at hu
  rcases hu with rfl|rfl<;>first|exact Bits.int _ _|exact Bits.str _|exact Bits.bool _
structure Span where
  frm:Int
  to:Int
  deriving DecidableEq
def Span.zero:Span:=⟨0,0⟩
structure Fst where
  states:Int
  starts:List Tip
  ends:List Tip
  arcs:List Arc
  deriving DecidableEq
def Fst.zero:Fst:=⟨0,[],[],[]⟩
end Go.E
end

noncomputable section
namespace Go.Proofs.YtnpbfjdpglfdkaaGreatDoor
open Go Go.E Go.E.OpVal Go.E.OpOk Go.Proofs.Tryz
theorem ag22:aggOf Tryz.prog 22=some false:=by kernel_rfl
theorem ag23:aggOf Tryz.prog 23=some false:=by kernel_rfl
theorem ag4:aggOf Tryz.prog 4=some false:=by kernel_rfl
theorem ag59:aggOf Tryz.prog 59=some true:=by kernel_rfl
theorem ag62:aggOf Tryz.prog 62=some true:=by kernel_rfl
theorem ag9:aggOf Tryz.prog 9=some false:=by kernel_rfl
theorem fo25_0:foOf Tryz.prog 25 0=some 0:=by kernel_rfl
theorem fo25_1:foOf Tryz.prog 25 1=some 1:=by kernel_rfl
theorem fo25_2:foOf Tryz.prog 25 2=some 2:=by kernel_rfl
theorem fo25_3:foOf Tryz.prog 25 3=some 3:=by kernel_rfl
theorem fo59_0:foOf Tryz.prog 59 0=some 0:=by kernel_rfl
theorem fo59_1:foOf Tryz.prog 59 1=some 1:=by kernel_rfl
theorem fo59_2:foOf Tryz.prog 59 2=some 2:=by kernel_rfl
theorem fo59_3:foOf Tryz.prog 59 3=some 6:=by kernel_rfl
theorem fo59_4:foOf Tryz.prog 59 4=some 7:=by kernel_rfl
theorem fo62_0:foOf Tryz.prog 62 0=some 0:=by kernel_rfl
theorem fo62_1:foOf Tryz.prog 62 1=some 1:=by kernel_rfl
theorem fo65_0:foOf Tryz.prog 65 0=some 0:=by kernel_rfl
theorem fo65_1:foOf Tryz.prog 65 1=some 1:=by kernel_rfl
theorem es65(x y:FPair):Go.E.EqAt Tryz.prog 2 65 (.agg (Go.E.encFPair x).toArray) (.agg (Go.E.encFPair y).toArray) (decide (x=y)):=
 (EqAt.struct (ts:=[(false,3,0),(false,9,1)]) (by kernel_rfl) (by kernel_rfl) (by kernel_rfl) (EqC.one (by kernel_rfl) rfl rfl (EqAt.int underlying3 x.state y.state) (EqC.one (by kernel_rfl) rfl rfl (EqAt.str underlying9 x.out y.out) EqC.nil))).of (by rw [Bool.eq_iff_iff];cases x;cases y;simp)
theorem kl65:Go.E.KeyL Tryz.prog 65 (fun x=>Value.agg (Go.E.encFPair x).toArray):=
 KeyL.struct underlying65 es65 rfl (fun x=>CkAt.struct (n:=1) (ts:=[(false,3,0),(false,9,1)]) (by kernel_rfl) (by kernel_rfl) (CkC.one (by kernel_rfl) rfl (CkAt.int underlying3 _) (CkC.one (by kernel_rfl) rfl (CkAt.str underlying9 _) CkC.nil))) rfl encFPair_bits
theorem pf41:plainF Tryz.prog 41=true:=by kernel_rfl
theorem pf42:plainF Tryz.prog 42=true:=by kernel_rfl
theorem pf43:plainF Tryz.prog 43=true:=by kernel_rfl
theorem pl63:plOf Tryz.prog 63=some #[]:=by kernel_rfl
theorem pl65:plOf Tryz.prog 65=some #[(0,1),(1,1)]:=by kernel_rfl
theorem sz23:szOf Tryz.prog 23=some 1:=by kernel_rfl
theorem sz59:szOf Tryz.prog 59=some 8:=by kernel_rfl
theorem sz62:szOf Tryz.prog 62=some 2:=by kernel_rfl
theorem sz65:szOf Tryz.prog 65=some 2:=by kernel_rfl
theorem ze59:zeroOf Tryz.prog 59=some (.agg #[.int .i64 0,.int .i64 0,.int .u64 0,.int .u64 0,.int .u64 0,.int .u64 0,.string ByteArray.empty,.bool false]):=by kernel_rfl
theorem ze62:zeroOf Tryz.prog 62=some (.agg #[.int .i64 0,.string ByteArray.empty]):=by kernel_rfl
theorem ze63:zeroOf Tryz.prog 63=some (.agg #[]):=by kernel_rfl
theorem ze65:zeroOf Tryz.prog 65=some (.agg #[.int .i64 0,.string ByteArray.empty]):=by kernel_rfl
def Ep_(x0:Int)(x1:Int):Option (Bool):=
 iteO (decide (0≤x0)) (some (decide (x0<x1))) (some false)
theorem G0_{x0:Int}{x1:Int}{r:Bool}(hh:Ep_ x0 x1=some r):
  Con Tryz.prog 42 #[.int .i64 x0,.int .i64 x1] σ [] (PureP (.bool r) σ):=by
 dsimp only [Ep_]at hh
 refine Con.mk (n:=12) Tryz.func42 z z z (fun w0=> ?_)
 refine TC.a (TL.j z z (TL.en (TC.a (TL.i z z (TL.w z (OpVal.leq z z z) (TL.j z z (TL.split 7 z (fun h101=> ?_) (fun h101=> ?_))))))))
 ·replace hh:=iteO_t h101 hh
  replace h101:=of_decide_eq_true h101
  refine TL.g z (moveI (.inl z) z) (TL.g z (moveI (.inl z) z) (TL.g z (OpVal.lss z z z) (TL.w z (pickTB z z z) (TL.j z z (TL.en (TC.ret ?_))))))
  obtain rfl:=so hh
  exact rq [4] ⟨z,z,z⟩
 replace hh:=iteO_f h101 hh
 replace h101:=of_decide_eq_false h101
 refine TL.f z (TL.f z (TL.f z (TL.w z (pickFB z z z) (TL.j z z (TL.en (TC.ret ?_))))))
 obtain rfl:=so hh
 exact rq [4] ⟨z,z,z⟩
def B4_(x0:List Tip)(x1:Int)(k104:Nat):Option ((Nat)⊕(Bool)):=
 iteO (decide (((k104:Nat):Int)<((x0.length:Nat):Int))) (bnd (Ep_ ((nth x0 k104 Tip.zero).state) x1) (fun v17=>iteO (!v17) (fin (some false)) (iteO (decide (1024<((((nth x0 k104 Tip.zero).out).length:Nat):Int))) (fin (some false)) (nxt (k104+1))))) (fin (some true))
def Dc_(x0:List Tip)(x1:Int):Option (Bool):=
 iteO (decide (1024<((x0.length:Nat):Int))) (some false) (iter (fun q:Nat=>B4_ x0 x1 q) 0)
theorem G4_{x0:List Tip}{x1:Int}(f0_0:RS σ 2 encTip (.slice a0_0 x0.length c0_0) x0){r:Bool}(hh:Dc_ x0 x1=some r):
  Con Tryz.prog 41 #[.slice a0_0 x0.length c0_0,.int .i64 x1] σ [] (PureP (.bool r) σ):=by
 dsimp only [Dc_]at hh
 have f0_0b:=f0_0.rv.big
 refine Con.mk (n:=28) Tryz.func41 z z z (fun w0=> ?_)
 refine TC.a (TL.j z z (TL.en (TC.seq (TC.a (TL.s z z (TL.w z (lenC z underlying22 z) (TL.w z (OpVal.gtr z z z) (TL.en (TC.cD z hh (fun h101 hh=> ?_) (fun h101 hh=> ?_))))))))))
 ·refine TC.a (TL.j z z (TL.en (TC.ret (S.r ?_))))
  obtain rfl:=so hh
  exact rq [4] ⟨z,z,z⟩
 refine TC.skip (S.n (TC.seq (TC.a (TL.s z z (TL.w z (lenC z underlying22 z) (TL.i z z (TL.en (TC.block (TC.loopG (α:=(Nat)×(Unit)) (rgs [(4,1),(6,1),(12,16)]) (fun g=>[(12,.int .i64 ((g.1:Nat):Int))]) (fun g=>[]) (fun g=>σ) (fun g=>iter (fun q:Nat=>B4_ x0 x1 q) g.1=some r) (fun g=>rounds (fun q:Nat=>B4_ x0 x1 q) g.1) (0,()) (Sub.pre 0 z) z (by repeat (first|exact trivial|refine ⟨z,?_⟩)) hh (fun g1 j1 hg1=> ?_))))))))))
 obtain ⟨k104,_⟩:=g1
 have hh:=hg1;clear hg1
 try dsimp only
 obtain ⟨z1,hh,hR1⟩:=iter_e hh
 dsimp only [B4_]at hh
 refine TC.a (TL.w z (OpVal.lss z z z) (TL.en (TC.seq (TC.cD z hh (fun h105 hh=> ?_) (fun h105 hh=> ?_)))))
 ·refine TC.skip (S.n (TC.seq (TC.block (TC.a (TL.w z (indexN z underlying22 sz62 z z f0_0.rv.sl (by omega)) (TL.w z (loadSA Tip.zero z ag62 sz62 z f0_0 (by omega) (by omega)) (TL.op z (OpOk.alloc z ze62 z z (fun b106=> ?_)))))))))
  refine TL.op z (storeAll z sz62 z z z z z z ?_)
  refine TL.en (TC.a (TL.w z (fieldLoc z fo62_0 z) (TL.w z (loadLoc z ag3 z (i:=0) z z) (TL.i z z ?_))))
  obtain ⟨v17,u17,hh⟩:=bnd_e hh
  refine TL.op z (callP (G0_ u17) z z pf42 z z z ?_)
  refine TL.w z (OpVal.not z z) (TL.j z z (TL.split 21 z (fun h108=> ?_) (fun h108=> ?_)))
  ·replace hh:=iteO_t h108 hh
   refine TL.f z (TL.f z (TL.f z (TL.f z (TL.w z (pickTB z z z) (TL.en (TC.t z (TC.a (TL.j z z (TL.en (TC.rt 0 (B.r (S.r (S.r ?_)))))))))))))
   replace hh:=fin_x hR1 hh
   refine B.r (S.r ?_)
   obtain rfl:=so hh
   exact rq [4] ⟨z,z,z⟩
  replace hh:=iteO_f h108 hh
  refine TL.g z (fieldLoc z fo62_1 z) (TL.g z (loadLoc z ag9 z (i:=0) z z) (TL.g z (lenBs z underlying9 z) (TL.g z (OpVal.gtr z z z) (TL.w z (pickFB z z z) (TL.en (TC.cD z hh (fun h109 hh=> ?_) (fun h109 hh=> ?_)))))))
  ·refine TC.a (TL.j z z (TL.en (TC.rt 0 (B.r (S.r (S.r ?_))))))
   replace hh:=fin_x hR1 hh
   refine B.r (S.r ?_)
   obtain rfl:=so hh
   exact rq [4] ⟨z,z,z⟩
  refine TC.skip (B.n (S.n (TC.region (TL.w z (OpVal.succ z z z (by omega)) (TL.i z z (TL.en ?_))))))
  obtain ⟨hh,hlt110⟩:=nxt_x hR1 hh
  exact lf ((k104+1),()) hlt110 hh (Sub.pre 0 z)
 refine TC.exit (S.x (S.x ?_))
 replace hh:=fin_x hR1 hh
 refine TC.exitHere (S.n (TC.a (TL.j z z (TL.en (TC.ret ?_)))))
 obtain rfl:=so hh
 exact rq [4] ⟨z,z,z⟩
def C6_(x0:Fst)(k110:Nat):Option ((Nat)⊕(Int)):=
 iteO (decide (((k110:Nat):Int)<((x0.arcs.length:Nat):Int))) (bnd (Ep_ ((nth x0.arcs k110 Arc.zero).frm) x0.states) (fun v46=>iteO (!v46) (fin (some 1)) (bnd (Ep_ ((nth x0.arcs k110 Arc.zero).to) x0.states) (fun v53=>iteO (!v53) (fin (some 1)) (iteO (decide ((nth x0.arcs k110 Arc.zero).set=BSet.zero)) (fin (some 1)) (iteO (decide (1024<((((nth x0.arcs k110 Arc.zero).out).length:Nat):Int))) (fin (some 1)) (nxt (k110+1)))))))) (fin (some 0))
def B6_(x0:Fst):Option (Int):=
 iteO (decide (x0.states<0)) (some 1) (iteO (decide (1024<x0.states)) (some 1) (iteO (decide (16384<((x0.arcs.length:Nat):Int))) (some 1) (bnd (Dc_ x0.starts x0.states) (fun v22=>iteO (!v22) (some 1) (bnd (Dc_ x0.ends x0.states) (fun v29=>iteO (!v29) (some 1) (iter (fun q:Nat=>C6_ x0 q) 0)))))))
theorem Bw_{x0:Fst}(f0_0:RS σ 2 encTip (.slice a0_0 x0.starts.length c0_0) x0.starts)(f0_1:RS σ 2 encTip (.slice a0_1 x0.ends.length c0_1) x0.ends)(f0_2:RS σ 8 encArc (.slice a0_2 x0.arcs.length c0_2) x0.arcs){r:Int}(hh:B6_ x0=some r):
  Con Tryz.prog 16 #[.agg #[.int .i64 x0.states,.slice a0_0 x0.starts.length c0_0,.slice a0_1 x0.ends.length c0_1,.slice a0_2 x0.arcs.length c0_2]] σ [] (PureP (.int .i64 r) σ):=by
 dsimp only [B6_]at hh
 have f0_0b:=f0_0.rv.big
 have f0_1b:=f0_1.rv.big
 have f0_2b:=f0_2.rv.big
 refine Con.mk (n:=67) Tryz.func16 z z z (fun w0=> ?_)
 refine TC.a (TL.op z (boxA z z z z (fun b101=> ?_)))
 refine TL.i z z (TL.en (TC.seq (TC.a (TL.w z (fieldLoc z fo25_0 z) (TL.w z (loadLoc z ag3 z (i:=0) z z) (TL.w z (OpVal.lss z z z) (TL.j z z (TL.split 8 z (fun h103=> ?_) (fun h103=> ?_)))))))))
 ·replace hh:=iteO_t h103 hh
  replace h103:=of_decide_eq_true h103
  refine TL.f z (TL.f z (TL.f z (TL.w z (pickTB z z z) (TL.j z z (TL.f z (TL.f z (TL.f z (TL.f z (TL.w z (pickTB z z z) (TL.en (TC.t z (TC.a (TL.i z z (TL.en (TC.rt 0 ?_)))))))))))))))
  refine S.r ?_
  obtain rfl:=so hh
  exact rq [2] ⟨z,z,z⟩
 replace hh:=iteO_f h103 hh
 replace h103:=of_decide_eq_false h103
 refine TL.g z (fieldLoc z fo25_0 z) (TL.g z (loadLoc z ag3 z (i:=0) z z) (TL.g z (OpVal.gtr z z z) (TL.w z (pickFB z z z) (TL.j z z (TL.split 13 z (fun h104=> ?_) (fun h104=> ?_))))))
 ·replace hh:=iteO_t h104 hh
  replace h104:=of_decide_eq_true h104
  refine TL.f z (TL.f z (TL.f z (TL.f z (TL.w z (pickTB z z z) (TL.en (TC.t z (TC.a (TL.i z z (TL.en (TC.rt 0 (S.r ?_)))))))))))
  obtain rfl:=so hh
  exact rq [2] ⟨z,z,z⟩
 replace hh:=iteO_f h104 hh
 replace h104:=of_decide_eq_false h104
 refine TL.g z (fieldLoc z fo25_3 z) (TL.g z (loadLoc z ag23 z (i:=0) z z) (TL.g z (lenC z underlying23 z) (TL.g z (OpVal.gtr z z z) (TL.w z (pickFB z z z) (TL.en (TC.cD z hh (fun h105 hh=> ?_) (fun h105 hh=> ?_)))))))
 ·refine TC.a (TL.i z z (TL.en (TC.rt 0 (S.r ?_))))
  obtain rfl:=so hh
  exact rq [2] ⟨z,z,z⟩
 refine TC.skip (S.n (TC.seq (TC.a (TL.w z (fieldLoc z fo25_1 z) (TL.w z (loadLoc z ag22 z (i:=0) z z) (TL.w z (fieldLoc z fo25_0 z) (TL.w z (loadLoc z ag3 z (i:=0) z z) ?_)))))))
 obtain ⟨v22,u22,hh⟩:=bnd_e hh
 refine TL.op z (callP (G4_ f0_0 u22) z z pf41 z z z ?_)
 refine TL.w z (OpVal.not z z) (TL.j z z (TL.split 25 z (fun h106=> ?_) (fun h106=> ?_)))
 ·replace hh:=iteO_t h106 hh
  refine TL.f z (TL.f z (TL.f z (TL.f z (TL.f z (TL.f z (TL.w z (pickTB z z z) (TL.en (TC.t z (TC.a (TL.i z z (TL.en (TC.rt 0 (S.r ?_)))))))))))))
  obtain rfl:=so hh
  exact rq [2] ⟨z,z,z⟩
 replace hh:=iteO_f h106 hh
 refine TL.g z (fieldLoc z fo25_2 z) (TL.g z (loadLoc z ag22 z (i:=0) z z) (TL.g z (fieldLoc z fo25_0 z) (TL.g z (loadLoc z ag3 z (i:=0) z z) ?_)))
 obtain ⟨v29,u29,hh⟩:=bnd_e hh
 refine TL.gon z z z z z (callP (G4_ f0_1 u29) z z pf41 z z z ?_)
 refine TL.g z (OpVal.not z z) (TL.w z (pickFB z z z) (TL.en (TC.cB z hh (fun h107 hh=> ?_) (fun h107 hh=> ?_))))
 ·refine TC.a (TL.i z z (TL.en (TC.rt 0 (S.r ?_))))
  obtain rfl:=so hh
  exact rq [2] ⟨z,z,z⟩
 refine TC.skip (S.n (TC.seq (TC.a (TL.w z (fieldLoc z fo25_3 z) (TL.w z (loadLoc z ag23 z (i:=0) z z) (TL.w z (lenC z underlying23 z) (TL.i z z (TL.en (TC.block (TC.loopG (α:=(Nat)×(Unit)) (rgs [(2,1),(4,1),(36,31)]) (fun g=>[(36,.int .i64 ((g.1:Nat):Int))]) (fun g=>[Res.cells b101 #[.int .i64 x0.states,.slice a0_0 x0.starts.length c0_0,.slice a0_1 x0.ends.length c0_1,.slice a0_2 x0.arcs.length c0_2] 25]) (fun g=>σ) (fun g=>iter (fun q:Nat=>C6_ x0 q) g.1=some r) (fun g=>rounds (fun q:Nat=>C6_ x0 q) g.1) (0,()) (Sub.pre 1 z) z (by repeat (first|exact trivial|refine ⟨z,?_⟩)) hh (fun g1 j1 hg1=> ?_)))))))))))
 obtain ⟨k110,_⟩:=g1
 have hh:=hg1;clear hg1
 try dsimp only
 obtain ⟨z1,hh,hR1⟩:=iter_e hh
 dsimp only [C6_]at hh
 refine TC.a (TL.w z (OpVal.lss z z z) (TL.en (TC.seq (TC.cD z hh (fun h111 hh=> ?_) (fun h111 hh=> ?_)))))
 ·refine TC.skip (S.n (TC.seq (TC.block (TC.a (TL.w z (indexN z underlying23 sz59 z z f0_2.rv.sl (by omega)) (TL.w z (loadSA Arc.zero z ag59 sz59 z f0_2 (by omega) (by omega)) (TL.op z (OpOk.alloc z ze59 z z (fun b112=> ?_)))))))))
  refine TL.op z (storeAll z sz59 z z z z z z ?_)
  refine TL.en (TC.a (TL.w z (fieldLoc z fo59_0 z) (TL.w z (loadLoc z ag3 z (i:=0) z z) (TL.w z (fieldLoc z fo25_0 z) (TL.w z (loadLoc z ag3 z (i:=1) z z) ?_)))))
  obtain ⟨v46,u46,hh⟩:=bnd_e hh
  refine TL.op z (callP (G0_ u46) z z pf42 z z z ?_)
  refine TL.w z (OpVal.not z z) (TL.j z z (TL.split 46 z (fun h114=> ?_) (fun h114=> ?_)))
  ·replace hh:=iteO_t h114 hh
   refine TL.f z (TL.f z (TL.f z (TL.f z (TL.f z (TL.f z (TL.w z (pickTB z z z) (TL.j z z (TL.f z (TL.f z (TL.f z (TL.f z (TL.w z (pickTB z z z) (TL.j z z (TL.f z (TL.f z ?_)))))))))))))))
   refine TL.f z (TL.f z (TL.w z (pickTB z z z) (TL.en (TC.t z (TC.a (TL.i z z (TL.en (TC.rt 0 (B.r (S.r (S.r ?_)))))))))))
   replace hh:=fin_x hR1 hh
   refine B.r (S.r ?_)
   obtain rfl:=so hh
   exact rq [2] ⟨z,z,z⟩
  replace hh:=iteO_f h114 hh
  refine TL.g z (fieldLoc z fo59_1 z) (TL.g z (loadLoc z ag3 z (i:=0) z z) (TL.g z (fieldLoc z fo25_0 z) (TL.g z (loadLoc z ag3 z (i:=1) z z) ?_)))
  obtain ⟨v53,u53,hh⟩:=bnd_e hh
  refine TL.gon z z z z z (callP (G0_ u53) z z pf42 z z z ?_)
  refine TL.g z (OpVal.not z z) (TL.w z (pickFB z z z) (TL.j z z (TL.split 54 z (fun h115=> ?_) (fun h115=> ?_))))
  ·replace hh:=iteO_t h115 hh
   refine TL.f z (TL.f z (TL.f z (TL.f z (TL.w z (pickTB z z z) (TL.j z z (TL.f z (TL.f z (TL.f z (TL.f z (TL.w z (pickTB z z z) (TL.en (TC.t z (TC.a (TL.i z z (TL.en ?_)))))))))))))))
   refine TC.rt 0 (B.r (S.r (S.r ?_)))
   replace hh:=fin_x hR1 hh
   refine B.r (S.r ?_)
   obtain rfl:=so hh
   exact rq [2] ⟨z,z,z⟩
  replace hh:=iteO_f h115 hh
  refine TL.g z (fieldLoc z fo59_2 z) (TL.g z (loadLocA z ag57 sz57 z (i:=0) z z z) (TL.g z (buildArrL z underlying57 sz55 ze57 z) (TL.g z (eqlSet (s:=(nth x0.arcs k110 Arc.zero).set) (t:=BSet.zero) z underlying57 underlying55 ag55 sz55 eg57 z z) (TL.w z (pickFB z z z) (TL.j z z (TL.split 60 z (fun h116=> ?_) (fun h116=> ?_)))))))
  ·replace hh:=iteO_t h116 hh
   replace h116:=of_decide_eq_true h116
   refine TL.f z (TL.f z (TL.f z (TL.f z (TL.w z (pickTB z z z) (TL.en (TC.t z (TC.a (TL.i z z (TL.en (TC.rt 0 (B.r (S.r (S.r ?_)))))))))))))
   replace hh:=fin_x hR1 hh
   refine B.r (S.r ?_)
   obtain rfl:=so hh
   exact rq [2] ⟨z,z,z⟩
  replace hh:=iteO_f h116 hh
  replace h116:=of_decide_eq_false h116
  refine TL.g z (fieldLoc z fo59_3 z) (TL.g z (loadLoc z ag9 z (i:=0) z z) (TL.g z (lenBs z underlying9 z) (TL.g z (OpVal.gtr z z z) (TL.w z (pickFB z z z) (TL.en (TC.cD z hh (fun h117 hh=> ?_) (fun h117 hh=> ?_)))))))
  ·refine TC.a (TL.i z z (TL.en (TC.rt 0 (B.r (S.r (S.r ?_))))))
   replace hh:=fin_x hR1 hh
   refine B.r (S.r ?_)
   obtain rfl:=so hh
   exact rq [2] ⟨z,z,z⟩
  refine TC.skip (B.n (S.n (TC.region (TL.w z (OpVal.succ z z z (by omega)) (TL.i z z (TL.en ?_))))))
  obtain ⟨hh,hlt118⟩:=nxt_x hR1 hh
  exact lf ((k110+1),()) hlt118 hh (Sub.f [1] 1)
 refine TC.exit (S.x (S.x ?_))
 replace hh:=fin_x hR1 hh
 refine TC.exitHere (S.n (TC.a (TL.i z z (TL.en (TC.rt 0 ?_)))))
 obtain rfl:=so hh
 exact rq [2] ⟨z,z,z⟩
def Ga_(k128:Nat)(m130:FM FPair Unit):Option (((FM FPair Unit)×Nat)⊕(((FM FPair Unit))⊕((FM FPair Unit)×Bool))):=
 nxt (m130,(k128+1))
def Eb_(m127:FM FPair Unit)(x0:List (List Arc))(v7c:FPair×Unit)(k128:Nat)(s134:List UInt8):Option (((FM FPair Unit)×Nat)⊕(((FM FPair Unit))⊕((FM FPair Unit)×Bool))):=
 iteO (decide (4096<(((m127.put (⟨(nth (nth x0 v7c.1.state.toNat ([]:List Arc)) k128 Arc.zero).to,s134⟩:FPair) ()).n:Nat):Int))) (fin (fin (some ((FM.emp:FM FPair Unit),false)))) (Ga_ k128 (m127.put (⟨(nth (nth x0 v7c.1.state.toNat ([]:List Arc)) k128 Arc.zero).to,s134⟩:FPair) ()))
def B7_(x0:List (List Arc))(v7c:FPair×Unit)(x2:UInt8)(m127:FM FPair Unit)(k128:Nat):Option (((FM FPair Unit)×Nat)⊕(((FM FPair Unit))⊕((FM FPair Unit)×Bool))):=
 iteO (decide (((k128:Nat):Int)<(((nth x0 v7c.1.state.toNat ([]:List Arc)).length:Nat):Int))) (iteO (!(((nth (nth x0 v7c.1.state.toNat ([]:List Arc)) k128 Arc.zero).set).has x2.toNat)) (Ga_ k128 m127) (grd (v7c.1.out.length+((nth (nth x0 v7c.1.state.toNat ([]:List Arc)) k128 Arc.zero).out).length≤9223372036854775807) (iteO ((nth (nth x0 v7c.1.state.toNat ([]:List Arc)) k128 Arc.zero).copy) (grd ((v7c.1.out++(nth (nth x0 v7c.1.state.toNat ([]:List Arc)) k128 Arc.zero).out).length+[x2].length≤9223372036854775807) (Eb_ m127 x0 v7c k128 ((v7c.1.out++(nth (nth x0 v7c.1.state.toNat ([]:List Arc)) k128 Arc.zero).out)++[x2]))) (Eb_ m127 x0 v7c k128 (v7c.1.out++(nth (nth x0 v7c.1.state.toNat ([]:List Arc)) k128 Arc.zero).out))))) (fin (nxt m127))
def C1_(x0:List (List Arc))(x2:UInt8)(m114:FM FPair Unit)(oE:Option (FPair×Unit)):Option (((FM FPair Unit))⊕((FM FPair Unit)×Bool)):=
 optE oE (fin (some (m114,true))) (fun v7c=>grd (0≤v7c.1.state∧v7c.1.state<(x0.length:Int)) (iter (fun q:(FM FPair Unit)×Nat=>B7_ x0 v7c x2 q.1 q.2) (m114,0)))
def G9_(x0:List (List Arc))(x1:FM FPair Unit)(x2:UInt8):Option ((FM FPair Unit)×Bool):=
 allP (fun q=>Rep q x1) (fun q=>runL (fun (q:(FM FPair Unit)) (oE:Option (FPair×Unit))=>C1_ x0 x2 q oE) q (FM.emp:FM FPair Unit))
theorem Jc_{x0:List (List Arc)}{x1:FM FPair Unit}{b1_0:Option Nat}{x2:UInt8}(f0_0:RZ σ (pkSl 8 encArc encArc_len) (.slice a0_0 x0.length c0_0) x0){r:(FM FPair Unit)×Bool}(hh:G9_ x0 x1 x2=some r):
  Con Tryz.prog 17 #[.slice a0_0 x0.length c0_0,.map b1_0,.int .u8 ((x2.toNat:Nat):Int)] σ [Res.mapB (fun x=>Value.agg (encFPair x).toArray) unitV b1_0 x1] (fun v σ' H'=> ∃(br1:Option Nat),v= .tuple #[.map br1,.bool r.2]∧σ=σ'∧H'=[Res.mapB (fun x=>Value.agg (encFPair x).toArray) unitV br1 r.1]):=by
 dsimp only [G9_]at hh
 have f0_0b:=f0_0.big
 refine Con.mk (n:=58) Tryz.func17 z z z (fun w0=> ?_)
 refine TC.a (TL.w z (moveMap (.inr z) z) (TL.j z z (TL.en (TC.a (TL.op z (makeMapB (enc:=(fun x=>Value.agg (encFPair x).toArray)) (encV:=unitV) z z z (fun b103=> ?_)))))))
 refine TL.w z (moveMap (.inr z) z) (TL.en (TC.seq (TC.a (TL.w z (moveMap (.inl z) z) (TL.front 1 z z (TL.op z (rangeB z underlying60 z z z (fun it105 l106 hl107=> ?_))))))))
 refine TL.en (TC.block (TC.loopG (α:=((FM FPair Unit))×((List (FPair×Unit))×(Option (FPair×Unit)))) (rgs [(6,2),(9,1),(11,2),(16,41)]) (fun g=>[]) (fun g=>[Res.mapB (fun x=>Value.agg (encFPair x).toArray) unitV (some b103) g.1,Res.rng (fun x=>Value.agg (encFPair x).toArray) unitV b1_0 it105 x1 g.2.1 g.2.2]) (fun g=>σ) (fun g=>runA (fun (q:(FM FPair Unit)) (oE:Option (FPair×Unit))=>C1_ x0 x2 q oE) g.2.1 g.1=some r) (fun g=>List.length g.2.1) ((FM.emp:FM FPair Unit),(l106,none)) (Sub.f [1] 2) z (by repeat (first|exact trivial|refine ⟨z,?_⟩)) (runA_of hh hl107) (fun g1 j1 hg1=> ?_)))
 obtain ⟨m114,⟨l115,o116⟩⟩:=g1
 have hh:=hg1;clear hg1
 try dsimp only
 refine TC.a (TL.front 1 z z (TL.op z (nextB (T:=0) z z z z z (fun hl117=> ?_) (fun l118 v7c l119 hl117=> ?_))))
 ·subst hl117
  obtain ⟨z1,hh,hR1⟩:=runA_end hh
  dsimp only [C1_,optE_none]at hh
  refine TL.by (fun w h=>Reach.unrng h) (TL.w z (OpVal.extract z z z) (TL.en (TC.seq (TC.f z (TC.exit (S.x (S.x ?_)))))))
  replace hh:=finE_x hR1 hh
  refine TC.exitHere (S.n (TC.a (TL.w z (moveMap (.inl z) z) (TL.w z (moveMap (.inr z) z) (TL.j z z (TL.en (TC.ofSub (Sub.f [1] 1) (TC.ret ?_))))))))
  obtain rfl:=so hh
  exact ro [Res.mapB (fun x=>Value.agg (encFPair x).toArray) unitV (some b103) m114] z (RVs.tmp z (RVs.tmp z RVs.nil)) ⟨(some b103),z,z,z⟩
 subst hl117
 obtain ⟨z1,hh,hR1⟩:=runA_step hh
 dsimp only [C1_,optE_some]at hh
 refine TL.w z (OpVal.extract z z z) (TL.en (TC.seq (TC.t z (TC.skip (S.n (TC.block (TC.a (TL.w z (OpVal.of (entryB z z (i:=0) z) (v':= .tuple #[.agg #[.int .i64 v7c.1.state,.string (bs v7c.1.out)],.agg #[]]) z) (TL.w z (OpVal.extract z z z) (TL.op z (OpOk.alloc z ze65 z z (fun b120=> ?_))))))))))))
 refine TL.op z (storeAll z sz65 z z z z z z ?_)
 refine TL.en (TC.a (TL.s z z (TL.w z (fieldLoc z fo65_0 z) (TL.w z (loadLoc z ag3 z (i:=0) z z) ?_))))
 have u16:=grd_c hh
 replace hh:=grd_t hh
 refine TL.w z (OpVal.index z underlying54 sz23 z z f0_0.isSl u16.1 u16.2) ?_
 obtain ⟨p122,hk122,hg122⟩:=RZ.seg f0_0 v7c.1.state.toNat (by omega)
 replace hk122:RS _ 8 encArc (.slice p122.1 (nth x0 v7c.1.state.toNat ([]:List Arc)).length p122.2) (nth x0 v7c.1.state.toNat ([]:List Arc)):=hk122
 have hk122b:=hk122.rv.big
 refine TL.w z (OpVal.of (loadSeg0 z ag23 z hg122 z) (v':= .slice p122.1 ((nth x0 v7c.1.state.toNat ([]:List Arc)).length) p122.2) z) (TL.w z (lenC z underlying23 z) (TL.i z z (TL.en (TC.block (TC.loopG (α:=((FM FPair Unit)×Nat)×(Unit)) (rgs [(6,2),(11,2),(26,31)]) (fun g=>[(26,.int .i64 ((g.1.2:Nat):Int))]) (fun g=>[Res.mapB (fun x=>Value.agg (encFPair x).toArray) unitV (some b103) g.1.1,Res.cells b120 #[.int .i64 v7c.1.state,.string (bs v7c.1.out)] 65,Res.rng (fun x=>Value.agg (encFPair x).toArray) unitV b1_0 it105 x1 (l118++l119) (some v7c)]) (fun g=>σ) (fun g=>iter (fun q:(FM FPair Unit)×Nat=>B7_ x0 v7c x2 q.1 q.2) g.1=some z1) (fun g=>rounds (fun q:(FM FPair Unit)×Nat=>B7_ x0 v7c x2 q.1 q.2) g.1) ((m114,0),()) (Sub.f [1,1,2] 3) z (by repeat (first|exact trivial|refine ⟨z,?_⟩)) hh (fun g2 j2 hg2=> ?_))))))
 obtain ⟨⟨m127,k128⟩,_⟩:=g2
 have hh:=hg2;clear hg2
 try dsimp only
 obtain ⟨z2,hh,hR2⟩:=iter_e hh
 dsimp only [B7_]at hh
 refine TC.a (TL.w z (OpVal.lss z z z) (TL.en (TC.seq (TC.cD z hh (fun h129 hh=> ?_) (fun h129 hh=> ?_)))))
 ·refine TC.skip (S.n (TC.cutG (α:=((FM FPair Unit))×(Unit)) (rgs [(6,2),(11,2),(28,28)]) (fun g=>[]) (fun g=>[Res.mapB (fun x=>Value.agg (encFPair x).toArray) unitV (some b103) g.1,Res.cells b120 #[.int .i64 v7c.1.state,.string (bs v7c.1.out)] 65,Res.rng (fun x=>Value.agg (encFPair x).toArray) unitV b1_0 it105 x1 (l118++l119) (some v7c)]) (fun g=>σ) (fun g=>Ga_ k128 g.1=some z2) ?_ (fun g j hg=> ?_)))
  ·skip
   refine TC.block (TC.a (TL.w z (indexN z underlying23 sz59 z z hk122.rv.sl (by omega)) (TL.w z (loadSA Arc.zero z ag59 sz59 z hk122 (by omega) (by omega)) (TL.op z (OpOk.alloc z ze59 z z (fun b131=> ?_))))))
   refine TL.op z (storeAll z sz59 z z z z z z ?_)
   refine TL.en (TC.seq (TC.a (TL.w z (fieldLoc z fo59_2 z) (TL.w z (loadLocA z ag57 sz57 z (i:=0) z z z) (TL.i z z (TL.op z (callP (has_con _ ((nth (nth x0 v7c.1.state.toNat ([]:List Arc)) k128 Arc.zero).set) x2.toNat (BSet.isOk _) (UInt8.toNat_lt _)) z z pf43 z z z ?_)))))))
   refine TL.w z (OpVal.not z z) (TL.en (TC.cB z hh (fun h133 hh=> ?_) (fun h133 hh=> ?_)))
   ·exact TC.exit (S.x (TC.exitHere (S.n (cf (m127,()) hh (Sub.f [3,3,3] 3)))))
   refine TC.skip (S.n (TC.a (TL.w z (fieldLoc z fo65_1 z) (TL.w z (loadLoc z ag9 z (i:=2) z z) (TL.w z (fieldLoc z fo59_3 z) (TL.w z (loadLoc z ag9 z (i:=0) z z) ?_))))))
   have u34:=grd_c hh
   replace hh:=grd_t hh
   refine TL.w z (catBs z z z u34) (TL.w z (moveStr (.inr z) z) (TL.en (TC.cutG (α:=((List UInt8))×(Unit)) (rgs [(12,1),(40,7)]) (fun g=>[(12,.string (bs g.1))]) (fun g=>[Res.mapB (fun x=>Value.agg (encFPair x).toArray) unitV (some b103) m127,Res.cells b120 #[.int .i64 v7c.1.state,.string (bs v7c.1.out)] 65,Res.cells b131 #[.int .i64 ((nth (nth x0 v7c.1.state.toNat ([]:List Arc)) k128 Arc.zero).frm),.int .i64 ((nth (nth x0 v7c.1.state.toNat ([]:List Arc)) k128 Arc.zero).to),.int .u64 ((((nth (nth x0 v7c.1.state.toNat ([]:List Arc)) k128 Arc.zero).set).a:Nat):Int),.int .u64 ((((nth (nth x0 v7c.1.state.toNat ([]:List Arc)) k128 Arc.zero).set).b:Nat):Int),.int .u64 ((((nth (nth x0 v7c.1.state.toNat ([]:List Arc)) k128 Arc.zero).set).c:Nat):Int),.int .u64 ((((nth (nth x0 v7c.1.state.toNat ([]:List Arc)) k128 Arc.zero).set).d:Nat):Int),.string (bs ((nth (nth x0 v7c.1.state.toNat ([]:List Arc)) k128 Arc.zero).out)),.bool ((nth (nth x0 v7c.1.state.toNat ([]:List Arc)) k128 Arc.zero).copy)] 59,Res.rng (fun x=>Value.agg (encFPair x).toArray) unitV b1_0 it105 x1 (l118++l119) (some v7c)]) (fun g=>σ) (fun g=>Eb_ m127 x0 v7c k128 g.1=some z2) ?_ (fun g j hg=> ?_))))
   ·skip
    refine TC.a (TL.w z (fieldLoc z fo59_4 z) (TL.w z (loadLoc z ag4 z (i:=0) z z) (TL.en (TC.cB z hh (fun h135 hh=> ?_) (fun h135 hh=> ?_)))))
    ·refine TC.region (TL.w z (moveStr (.inl z) z) (TL.i z z (TL.op z (OpOk.lit (enc:=encU8) [x2] z underlying105 sz5 ze5 z z z encU8_len (by decide) (by decide) (0:UInt8) z (by decide) z (by decide) encU8_one (fun a136 c137=> ?_)))))
     refine TL.isSl (i:=0) z (fun hs139 _ _=> ?_)
     refine TL.w z (bytesStr (l:=[x2]) z underlying105 underlying5 underlying9 z hs139 (fun w hw=>rdb_row (q:=0) z hw)) ?_
     have u42:=grd_c hh
     replace hh:=grd_t hh
     exact TL.w z (catBs z z z u42) (TL.w z (moveStr (.inr z) z) (TL.en (cf (((v7c.1.out++(nth (nth x0 v7c.1.state.toNat ([]:List Arc)) k128 Arc.zero).out)++[x2]),()) hh (Sub.f [4,2,4,4] 4))))
    exact TC.skip (S.n (cf ((v7c.1.out++(nth (nth x0 v7c.1.state.toNat ([]:List Arc)) k128 Arc.zero).out),()) hh (Sub.f [3,1,3,3] 4)))
   skip
   obtain ⟨s134,_⟩:=g
   have hh:=hg;clear hg
   try dsimp only
   dsimp only [Eb_]at hh
   refine TC.a (TL.w z (moveMap (.inl z) z) (TL.w z (fieldLoc z fo59_1 z) (TL.w z (loadLoc z ag3 z (i:=2) z z) (TL.w z (moveStr (.inl z) z) (TL.w z (buildL z pl65 ze65 z) (TL.w z (buildL z pl63 ze63 z) (TL.op z (updB (⟨(nth (nth x0 v7c.1.state.toNat ([]:List Arc)) k128 Arc.zero).to,s134⟩:FPair) () z underlying60 z z z z kl65 ?_))))))))
   refine TL.en (TC.a (TL.w z (moveMap (.inl z) z) (TL.w z (lenB z underlying60 z (i:=0) z) (TL.w z (OpVal.gtr z z z) (TL.en (TC.cD z hh (fun h140 hh=> ?_) (fun h140 hh=> ?_)))))))
   ·refine TC.a (TL.w z (moveMap (.inr z) z) (TL.j z z (TL.en (TC.by (fun w h=>Reach.nilMap (enc:=(fun x=>Value.agg (encFPair x).toArray)) (encV:=unitV) h) (TC.rt 1 (B.r (S.r (S.r ?_))))))))
    replace hh:=fin_x hR2 hh
    refine B.r (B.r (S.r ?_))
    replace hh:=finA_x hR1 hh
    refine B.r (S.r ?_)
    obtain rfl:=so hh
    exact ro [Res.mapB (fun x=>Value.agg (encFPair x).toArray) unitV none (FM.emp:FM FPair Unit)] z (RVs.tmp z (RVs.tmp z RVs.nil)) ⟨none,z,z,z⟩
   exact TC.skip (B.n (S.n (cf ((m127.put (⟨(nth (nth x0 v7c.1.state.toNat ([]:List Arc)) k128 Arc.zero).to,s134⟩:FPair) ()),()) hh (Sub.f [3,2,2] 3))))
  skip
  obtain ⟨m130,_⟩:=g
  have hh:=hg;clear hg
  try dsimp only
  dsimp only [Ga_]at hh
  refine TC.region (TL.w z (OpVal.succ z z z (by omega)) (TL.i z z (TL.en ?_)))
  obtain ⟨hh,hlt142⟩:=nxt_x hR2 hh
  exact lf ((m130,(k128+1)),()) hlt142 hh (Sub.f [2,2,2] 3)
 refine TC.exit (S.x (S.x ?_))
 replace hh:=fin_x hR2 hh
 refine TC.exitHere (B.n (S.n ?_))
 replace hh:=nxtA_x hR1 hh
 exact lf (m127,((l118++l119),(some v7c))) (by simp) hh (Sub.f [2,1] 2)
end Go.Proofs.YtnpbfjdpglfdkaaGreatDoor
end

noncomputable section
namespace Go.Proofs.YtnpbfjdpglfdkaaGreatDoor
open Go Go.E Go.E.OpVal Go.E.OpOk Go.Proofs.Tryz
theorem pf107:plainF Tryz.prog 107=true:=by kernel_rfl
theorem pf111:plainF Tryz.prog 111=true:=by kernel_rfl
theorem pf112:plainF Tryz.prog 112=true:=by kernel_rfl
theorem pf123:plainF Tryz.prog 123=true:=by kernel_rfl
theorem pf158:plainF Tryz.prog 158=true:=by kernel_rfl
theorem pf19:plainF Tryz.prog 19=true:=by kernel_rfl
theorem pf47:plainF Tryz.prog 47=true:=by kernel_rfl
theorem pf63:plainF Tryz.prog 63=true:=by kernel_rfl
def B9_(x0:List UInt8)(x1:List UInt8):Option (Int):=
 some (Lib.compareBytes x0 x1)
theorem E5_{x0:List UInt8}{x1:List UInt8}{r:Int}(hh:B9_ x0 x1=some r):
  Con Tryz.prog 47 #[.string (bs x0),.string (bs x1)] σ [] (PureP (.int .i64 r) σ):=by
 dsimp only [B9_]at hh
 refine Con.mk (n:=8) Tryz.func47 z z z (fun w0=> ?_)
 refine TC.a (TL.i z z (TL.en (TC.a (TL.w z (moveStr (.inl z) z) (TL.w z (moveStr (.inl z) z) (TL.w z (cmpStr z z Tryz.func79 (by kernel_rfl) (by kernel_rfl) (by kernel_rfl) (by kernel_rfl) z z) (TL.i z z (TL.en (TC.ret ?_)))))))))
 obtain rfl:=so hh
 exact rq [4] ⟨z,z,z⟩
def Df_(x0:List UInt8)(x1:List UInt8):Option (Int):=
 bnd (B9_ x0 x1) (fun v4=>some v4)
theorem Ee_{x0:List UInt8}{x1:List UInt8}{r:Int}(hh:Df_ x0 x1=some r):
  Con Tryz.prog 19 #[.string (bs x0),.string (bs x1)] σ [] (PureP (.int .i64 r) σ):=by
 dsimp only [Df_]at hh
 refine Con.mk (n:=8) Tryz.func19 z z z (fun w0=> ?_)
 refine TC.a (TL.i z z (TL.en (TC.a (TL.w z (moveStr (.inl z) z) (TL.w z (moveStr (.inl z) z) ?_)))))
 obtain ⟨v4,u4,hh⟩:=bnd_e hh
 refine TL.op z (callP (E5_ u4) z z pf47 z z z ?_)
 refine TL.i z z (TL.en (TC.ret ?_))
 obtain rfl:=so hh
 exact rq [4] ⟨z,z,z⟩
def isNaNU(x0:Nat):Option (Bool):=
 some (decide (x0≠x0))
theorem isNaNU_con{x0:Nat}{r:Bool}(hh:isNaNU x0=some r):
  Con Tryz.prog 158 #[.int .u64 ((x0:Nat):Int)] σ [] (PureP (.bool r) σ):=by
 dsimp only [isNaNU]at hh
 refine Con.mk (n:=6) Tryz.func158 z z z (fun w0=> ?_)
 refine TC.a (TL.j z z (TL.en (TC.a (TL.i z z (TL.i z z (TL.w z (neqU z z z) (TL.j z z (TL.en (TC.ret ?_)))))))))
 obtain rfl:=so hh
 exact rq [2] ⟨z,z,z⟩
def compareU(x0:Nat)(x1:Nat):Option (Int):=
 bnd (isNaNU x0) (fun v3=>bnd (isNaNU x1) (fun v6=>iteO v3 (iteO v6 (some 0) (some (-1))) (iteO v6 (some 1) (iteO (decide (x0<x1)) (some (-1)) (iteO (decide (x1<x0)) (some 1) (some 0))))))
theorem compareU_con{x0:Nat}{x1:Nat}{r:Int}(hh:compareU x0 x1=some r):
  Con Tryz.prog 123 #[.int .u64 ((x0:Nat):Int),.int .u64 ((x1:Nat):Int)] σ [] (PureP (.int .i64 r) σ):=by
 dsimp only [compareU]at hh
 refine Con.mk (n:=20) Tryz.func123 z z z (fun w0=> ?_)
 refine TC.a (TL.i z z (TL.en (TC.a (TL.i z z ?_))))
 obtain ⟨v3,u3,hh⟩:=bnd_e hh
 refine TL.op z (callP (isNaNU_con u3) z z pf158 z z z ?_)
 refine TL.j z z (TL.en (TC.a (TL.i z z ?_)))
 obtain ⟨v6,u6,hh⟩:=bnd_e hh
 refine TL.op z (callP (isNaNU_con u6) z z pf158 z z z ?_)
 refine TL.j z z (TL.en (TC.seq (TC.a (TL.j z z (TL.en (TC.cB z hh (fun h101 hh=> ?_) (fun h101 hh=> ?_)))))))
 ·refine TC.seq (TC.a (TL.j z z (TL.en (TC.cB z hh (fun h102 hh=> ?_) (fun h102 hh=> ?_)))))
  ·refine TC.a (TL.i z z (TL.en (TC.ret (S.r (S.r ?_)))))
   obtain rfl:=so hh
   exact rq [4] ⟨z,z,z⟩
  refine TC.skip (S.n (TC.a (TL.i z z (TL.en (TC.ret (S.r ?_))))))
  obtain rfl:=so hh
  exact rq [4] ⟨z,z,z⟩
 refine TC.skip (S.n (TC.seq (TC.a (TL.j z z (TL.en (TC.cB z hh (fun h103 hh=> ?_) (fun h103 hh=> ?_)))))))
 ·refine TC.a (TL.i z z (TL.en (TC.ret (S.r ?_))))
  obtain rfl:=so hh
  exact rq [4] ⟨z,z,z⟩
 refine TC.skip (S.n (TC.seq (TC.a (TL.i z z (TL.i z z (TL.w z (lssU z z z) (TL.en (TC.cD z hh (fun h104 hh=> ?_) (fun h104 hh=> ?_)))))))))
 ·refine TC.a (TL.i z z (TL.en (TC.ret (S.r ?_))))
  obtain rfl:=so hh
  exact rq [4] ⟨z,z,z⟩
 refine TC.skip (S.n (TC.seq (TC.a (TL.i z z (TL.i z z (TL.w z (gtrU z z z) (TL.en (TC.cD z hh (fun h105 hh=> ?_) (fun h105 hh=> ?_)))))))))
 ·refine TC.a (TL.i z z (TL.en (TC.ret (S.r ?_))))
  obtain rfl:=so hh
  exact rq [4] ⟨z,z,z⟩
 refine TC.skip (S.n (TC.a (TL.i z z (TL.en (TC.ret ?_)))))
 obtain rfl:=so hh
 exact rq [4] ⟨z,z,z⟩
def Fn_(x0:Bool):Option (Int):=
 iteO x0 (some 1) (some 0)
theorem H1_{x0:Bool}{r:Int}(hh:Fn_ x0=some r):
  Con Tryz.prog 112 #[.bool x0] σ [] (PureP (.int .i64 r) σ):=by
 dsimp only [Fn_]at hh
 refine Con.mk (n:=4) Tryz.func112 z z z (fun w0=> ?_)
 refine TC.a (TL.i z z (TL.en (TC.seq (TC.a (TL.j z z (TL.en (TC.cB z hh (fun h101 hh=> ?_) (fun h101 hh=> ?_))))))))
 ·refine TC.a (TL.i z z (TL.en (TC.ret (S.r ?_))))
  obtain rfl:=so hh
  exact rq [2] ⟨z,z,z⟩
 refine TC.skip (S.n (TC.a (TL.i z z (TL.en (TC.ret ?_)))))
 obtain rfl:=so hh
 exact rq [2] ⟨z,z,z⟩
def Dw_(x0:List Int)(k103:Nat):Option ((Nat)⊕(Int)):=
 iteO (decide (((k103:Nat):Int)<((x0.length:Nat):Int))) (iteO (decide ((nth x0 k103 (0:Int))≠0)) (fin (some (nth x0 k103 (0:Int)))) (nxt (k103+1))) (fin (some 0))
def Hy_(x0:List Int):Option (Int):=
 iter (fun q:Nat=>Dw_ x0 q) 0
theorem In_{x0:List Int}(f0_0:RS σ 1 eI_ (.slice a0_0 x0.length c0_0) x0){r:Int}(hh:Hy_ x0=some r):
  Con Tryz.prog 107 #[.slice a0_0 x0.length c0_0] σ [] (PureP (.int .i64 r) σ):=by
 dsimp only [Hy_]at hh
 have f0_0b:=f0_0.rv.big
 refine Con.mk (n:=18) Tryz.func107 z z z (fun w0=> ?_)
 refine TC.a (TL.i z z (TL.en (TC.a (TL.i z z (TL.en (TC.seq (TC.a (TL.s z z (TL.w z (lenC z underlying27 z) (TL.i z z (TL.en (TC.block (TC.loopG (α:=(Nat)×(Unit)) (rgs [(2,1),(5,1),(8,9)]) (fun g=>[(8,.int .i64 ((g.1:Nat):Int))]) (fun g=>[]) (fun g=>σ) (fun g=>iter (fun q:Nat=>Dw_ x0 q) g.1=some r) (fun g=>rounds (fun q:Nat=>Dw_ x0 q) g.1) (0,()) (Sub.pre 0 z) z (by repeat (first|exact trivial|refine ⟨z,?_⟩)) hh (fun g1 j1 hg1=> ?_))))))))))))))
 obtain ⟨k103,_⟩:=g1
 have hh:=hg1;clear hg1
 try dsimp only
 obtain ⟨z1,hh,hR1⟩:=iter_e hh
 dsimp only [Dw_]at hh
 refine TC.a (TL.w z (OpVal.lss z z z) (TL.en (TC.seq (TC.cD z hh (fun h104 hh=> ?_) (fun h104 hh=> ?_)))))
 ·refine TC.skip (S.n (TC.seq (TC.block (TC.a (TL.w z (indexN z underlying27 sz3 z z f0_0.rv.sl (by omega)) (TL.w z (loadS1 (0:Int) z ag3 z f0_0 (by omega) z) (TL.i z z (TL.en (TC.a (TL.i z z (TL.i z z (TL.w z (OpVal.neq z z z) (TL.en (TC.cD z hh (fun h105 hh=> ?_) (fun h105 hh=> ?_)))))))))))))))
  ·refine TC.a (TL.i z z (TL.i z z (TL.en (TC.ret (B.r (S.r (S.r ?_)))))))
   replace hh:=fin_x hR1 hh
   refine B.r (S.r ?_)
   obtain rfl:=so hh
   exact rq [2] ⟨z,z,z⟩
  refine TC.skip (B.n (S.n (TC.region (TL.w z (OpVal.succ z z z (by omega)) (TL.i z z (TL.en ?_))))))
  obtain ⟨hh,hlt106⟩:=nxt_x hR1 hh
  exact lf ((k103+1),()) hlt106 hh (Sub.pre 0 z)
 refine TC.exit (S.x (S.x ?_))
 replace hh:=fin_x hR1 hh
 refine TC.exitHere (S.n (TC.a (TL.i z z (TL.i z z (TL.en (TC.ret ?_))))))
 obtain rfl:=so hh
 exact rq [2] ⟨z,z,z⟩
def Em_(x0:Tip)(x1:Tip):Option (Int):=
 bnd (C2_ x0.state x1.state) (fun v8=>bnd (Df_ x0.out x1.out) (fun v13=>bnd (Hy_ [v8,v13]) (fun v15=>some v15)))
theorem H9_{x0:Tip}{x1:Tip}{r:Int}(hh:Em_ x0 x1=some r):
  Con Tryz.prog 83 #[.agg #[.int .i64 x0.state,.string (bs x0.out)],.agg #[.int .i64 x1.state,.string (bs x1.out)]] σ [] (PureP (.int .i64 r) σ):=by
 dsimp only [Em_]at hh
 refine Con.mk (n:=17) Tryz.func83 z z z (fun w0=> ?_)
 refine TC.a (TL.op z (boxA z z z z (fun b101=> ?_)))
 refine TL.op z (boxA z z z z (fun b103=> ?_))
 refine TL.i z z (TL.en (TC.seq ?_))
 obtain ⟨v8,u8,hh⟩:=bnd_e hh
 obtain ⟨v13,u13,hh⟩:=bnd_e hh
 obtain ⟨v15,u15,hh⟩:=bnd_e hh
 refine TC.draw [] (by kernel_rfl) (TA.a 0 z (fieldLoc z fo62_0 z) z (TA.b 1 z (loadLoc z ag3 z (i:=1) z z) z (TA.a 2 z (fieldLoc z fo62_0 z) z (TA.b 3 z (loadLoc z ag3 z (i:=0) z z) z (TA.a 5 z (fieldLoc z fo62_1 z) z (TA.b 6 z (loadLoc z ag9 z (i:=1) z z) z (TA.a 7 z (fieldLoc z fo62_1 z) z (TA.b 8 z (loadLoc z ag9 z (i:=0) z z) z (TA.ac 4 z (callP (Dg_ u8) z z pf63 z z z (k0 ?_)))))))))))
 refine TA.ac 9 z (callP (Ee_ u13) z z pf19 z z z (k0 ?_))
 refine TA.ac 10 z (OpOk.lit (enc:=eI_) [v8,v13] z underlying27 sz3 ze3 z z z eIl_ (by decide) (by decide) (0:Int) z (by decide) z (by decide) eIo_ (fun a110 c111=>(k1 ?_)))
 refine TA.ac 11 z (callK (Con.lend eIl_ (fun _ hle114 hr113=>In_ hr113 u15)) z z pf107 z z z z (k1 ?_))
 refine TA.a 12 z (moveI (.inr z) z) z (TA.dn (S.n (TC.rt 0 ?_)))
 obtain rfl:=so hh
 exact rq [4] ⟨z,z,z⟩
def compareUs_b1(x0:List Nat)(x1:List Nat)(k103:Nat):Option ((Nat)⊕(Int)):=
 iteO (decide (((k103:Nat):Int)<((x0.length:Nat):Int))) (iteO (decide (((x1.length:Nat):Int)≤((k103:Nat):Int))) (fin (some 1)) (grd (k103<x1.length) (bnd (compareU (nth x0 k103 (0:Nat)) (nth x1 k103 (0:Nat))) (fun v23=>iteO (decide (v23≠0)) (fin (some v23)) (nxt (k103+1)))))) (fin (iteO (decide (((x0.length:Nat):Int)<((x1.length:Nat):Int))) (some (-1)) (some 0)))
def compareUs(x0:List Nat)(x1:List Nat):Option (Int):=
 iter (fun q:Nat=>compareUs_b1 x0 x1 q) 0
theorem compareUs_con{x0:List Nat}{x1:List Nat}(f0_0:RS σ 1 encW (.slice a0_0 x0.length c0_0) x0)(f1_0:RS σ 1 encW (.slice a1_0 x1.length c1_0) x1){r:Int}(hh:compareUs x0 x1=some r):
  Con Tryz.prog 111 #[.slice a0_0 x0.length c0_0,.slice a1_0 x1.length c1_0] σ [] (PureP (.int .i64 r) σ):=by
 dsimp only [compareUs]at hh
 have f0_0b:=f0_0.rv.big
 have f1_0b:=f1_0.rv.big
 refine Con.mk (n:=36) Tryz.func111 z z z (fun w0=> ?_)
 refine TC.a (TL.i z z (TL.en (TC.seq (TC.a (TL.s z z (TL.w z (lenC z underlying177 z) (TL.i z z (TL.en (TC.block (TC.loopG (α:=(Nat)×(Unit)) (rgs [(4,5),(11,20)]) (fun g=>[(11,.int .i64 ((g.1:Nat):Int))]) (fun g=>[]) (fun g=>σ) (fun g=>iter (fun q:Nat=>compareUs_b1 x0 x1 q) g.1=some r) (fun g=>rounds (fun q:Nat=>compareUs_b1 x0 x1 q) g.1) (0,()) (Sub.pre 0 z) z (by repeat (first|exact trivial|refine ⟨z,?_⟩)) hh (fun g1 j1 hg1=> ?_)))))))))))
 obtain ⟨k103,_⟩:=g1
 have hh:=hg1;clear hg1
 try dsimp only
 obtain ⟨z1,hh,hR1⟩:=iter_e hh
 dsimp only [compareUs_b1]at hh
 refine TC.a (TL.w z (OpVal.lss z z z) (TL.en (TC.seq (TC.cD z hh (fun h104 hh=> ?_) (fun h104 hh=> ?_)))))
 ·refine TC.skip (S.n (TC.seq (TC.block (TC.a (TL.i z z (TL.w z (indexN z underlying177 sz55 z z f0_0.rv.sl (by omega)) (TL.w z (loadS1 (0:Nat) z ag55 z f0_0 (by omega) z) (TL.i z z (TL.i z z (TL.en (TC.seq (TC.a (TL.i z z (TL.s z z (TL.w z (lenC z underlying177 z) ?_)))))))))))))))
  refine TL.w z (OpVal.geq z z z) (TL.en (TC.cD z hh (fun h105 hh=> ?_) (fun h105 hh=> ?_)))
  ·refine TC.a (TL.i z z (TL.en (TC.ret (S.r (B.r (S.r (S.r ?_)))))))
   replace hh:=fin_x hR1 hh
   refine B.r (S.r ?_)
   obtain rfl:=so hh
   exact rq [4] ⟨z,z,z⟩
  refine TC.skip (S.n (TC.a (TL.s z z (TL.i z z ?_))))
  have u18:=grd_c hh
  replace hh:=grd_t hh
  refine TL.w z (indexN z underlying177 sz55 z z f1_0.rv.sl (by omega)) (TL.w z (loadS1 (0:Nat) z ag55 z f1_0 (by omega) z) (TL.i z z (TL.en (TC.a (TL.i z z (TL.i z z ?_))))))
  obtain ⟨v23,u23,hh⟩:=bnd_e hh
  refine TL.op z (callP (compareU_con u23) z z pf123 z z z ?_)
  refine TL.i z z (TL.en (TC.a (TL.i z z (TL.w z (OpVal.neq z z z) (TL.en (TC.cD z hh (fun h106 hh=> ?_) (fun h106 hh=> ?_)))))))
  ·refine TC.a (TL.i z z (TL.i z z (TL.en (TC.ret (B.r (S.r (S.r ?_)))))))
   replace hh:=fin_x hR1 hh
   refine B.r (S.r ?_)
   obtain rfl:=so hh
   exact rq [4] ⟨z,z,z⟩
  refine TC.skip (B.n (S.n (TC.region (TL.w z (OpVal.succ z z z (by omega)) (TL.i z z (TL.en ?_))))))
  obtain ⟨hh,hlt107⟩:=nxt_x hR1 hh
  exact lf ((k103+1),()) hlt107 hh (Sub.pre 0 z)
 refine TC.exit (S.x (S.x ?_))
 replace hh:=fin_x hR1 hh
 refine TC.exitHere (S.n (TC.seq (TC.a (TL.s z z (TL.w z (lenC z underlying177 z) (TL.s z z (TL.w z (lenC z underlying177 z) (TL.w z (OpVal.lss z z z) (TL.en (TC.cD z hh (fun h108 hh=> ?_) (fun h108 hh=> ?_)))))))))))
 ·refine TC.a (TL.i z z (TL.en (TC.ret (S.r ?_))))
  obtain rfl:=so hh
  exact rq [4] ⟨z,z,z⟩
 refine TC.skip (S.n (TC.a (TL.i z z (TL.en (TC.ret ?_)))))
 obtain rfl:=so hh
 exact rq [4] ⟨z,z,z⟩
def Ej_(x0:Arc)(x1:Arc):Option (Int):=
 bnd (C2_ x0.frm x1.frm) (fun v8=>bnd (C2_ x0.to x1.to) (fun v13=>bnd (compareUs [x0.set.a,x0.set.b,x0.set.c,x0.set.d] [x1.set.a,x1.set.b,x1.set.c,x1.set.d]) (fun v18=>bnd (Df_ x0.out x1.out) (fun v23=>bnd (Fn_ x0.copy) (fun v26=>bnd (Fn_ x1.copy) (fun v29=>bnd (C2_ v26 v29) (fun v30=>bnd (Hy_ [v8,v13,v18,v23,v30]) (fun v32=>some v32))))))))
theorem Ia_{x0:Arc}{x1:Arc}{r:Int}(hh:Ej_ x0 x1=some r):
  Con Tryz.prog 85 #[.agg #[.int .i64 x0.frm,.int .i64 x0.to,.int .u64 ((x0.set.a:Nat):Int),.int .u64 ((x0.set.b:Nat):Int),.int .u64 ((x0.set.c:Nat):Int),.int .u64 ((x0.set.d:Nat):Int),.string (bs x0.out),.bool x0.copy],.agg #[.int .i64 x1.frm,.int .i64 x1.to,.int .u64 ((x1.set.a:Nat):Int),.int .u64 ((x1.set.b:Nat):Int),.int .u64 ((x1.set.c:Nat):Int),.int .u64 ((x1.set.d:Nat):Int),.string (bs x1.out),.bool x1.copy]] σ [] (PureP (.int .i64 r) σ):=by
 dsimp only [Ej_]at hh
 refine Con.mk (n:=34) Tryz.func85 z z z (fun w0=> ?_)
 refine TC.a (TL.op z (boxA z z z z (fun b101=> ?_)))
 refine TL.op z (boxA z z z z (fun b103=> ?_))
 refine TL.i z z (TL.en (TC.seq ?_))
 obtain ⟨v8,u8,hh⟩:=bnd_e hh
 obtain ⟨v13,u13,hh⟩:=bnd_e hh
 obtain ⟨v18,u18,hh⟩:=bnd_e hh
 obtain ⟨v23,u23,hh⟩:=bnd_e hh
 obtain ⟨v26,u26,hh⟩:=bnd_e hh
 obtain ⟨v29,u29,hh⟩:=bnd_e hh
 obtain ⟨v30,u30,hh⟩:=bnd_e hh
 obtain ⟨v32,u32,hh⟩:=bnd_e hh
 refine TC.draw [] (by kernel_rfl) (TA.a 0 z (fieldLoc z fo59_0 z) z (TA.b 1 z (loadLoc z ag3 z (i:=1) z z) z (TA.a 2 z (fieldLoc z fo59_0 z) z (TA.b 3 z (loadLoc z ag3 z (i:=0) z z) z (TA.a 5 z (fieldLoc z fo59_1 z) z (TA.b 6 z (loadLoc z ag3 z (i:=1) z z) z (TA.a 7 z (fieldLoc z fo59_1 z) z (TA.b 8 z (loadLoc z ag3 z (i:=0) z z) z (TA.a 10 z (fieldLoc z fo59_2 z) z (TA.b 11 z (sliceArr z underlying57 sz55 z) z (TA.a 12 z (fieldLoc z fo59_2 z) z (TA.b 13 z (sliceArr z underlying57 sz55 z) z (TA.a 15 z (fieldLoc z fo59_3 z) z (TA.b 16 z (loadLoc z ag9 z (i:=1) z z) z (TA.a 17 z (fieldLoc z fo59_3 z) z ?_)))))))))))))))
 refine TA.b 18 z (loadLoc z ag9 z (i:=0) z z) z (TA.a 20 z (fieldLoc z fo59_4 z) z (TA.b 21 z (loadLoc z ag4 z (i:=1) z z) z (TA.a 23 z (fieldLoc z fo59_4 z) z (TA.b 24 z (loadLoc z ag4 z (i:=0) z z) z (TA.ac 4 z (callP (Dg_ u8) z z pf63 z z z (k0 ?_)))))))
 refine TA.ac 9 z (callP (Dg_ u13) z z pf63 z z z (k0 ?_))
 refine TA.front 1 z z (TA.ac 14 z (callK (Con.lendC (fun _ hle116 hr114=>Con.lendC (fun _ hle117 hr115=>compareUs_con (RS.ofCells (l:=[x0.set.a,x0.set.b,x0.set.c,x0.set.d]) (hle117 _ _ hr114) encW_len encW_one z z z) (RS.ofCells (l:=[x1.set.a,x1.set.b,x1.set.c,x1.set.d]) hr115 encW_len encW_one z z z) u18))) z z pf111 z z z z ⟨(fun w h=>sees_of (Store.le.refl _) (fun r hr=>mem_pick [1,0] z hr) w h),?_⟩))
 refine TA.ac 19 z (callP (Ee_ u23) z z pf19 z z z ⟨(fun w h=>sees_of (Store.le.refl _) (fun r hr=>mem_pick [1,0] z hr) w h),?_⟩)
 refine TA.ac 22 z (callP (H1_ u26) z z pf112 z z z ⟨(fun w h=>sees_of (Store.le.refl _) (fun r hr=>mem_pick [1,0] z hr) w h),?_⟩)
 refine TA.ac 25 z (callP (H1_ u29) z z pf112 z z z ⟨(fun w h=>sees_of (Store.le.refl _) (fun r hr=>mem_pick [1,0] z hr) w h),?_⟩)
 refine TA.ac 26 z (callP (Dg_ u30) z z pf63 z z z ⟨(fun w h=>sees_of (Store.le.refl _) (fun r hr=>mem_pick [1,0] z hr) w h),?_⟩)
 refine TA.ac 27 z (OpOk.lit (enc:=eI_) [v8,v13,v18,v23,v30] z underlying27 sz3 ze3 z z z eIl_ (by decide) (by decide) (0:Int) z (by decide) z (by decide) eIo_ (fun a118 c119=>⟨(fun w h=>sees_of (Store.le.refl _) (fun r hr=>mem_pick [2,1] z hr) w h),?_⟩))
 refine TA.ac 28 z (callK (Con.lend eIl_ (fun _ hle122 hr121=>In_ hr121 u32)) z z pf107 z z z z ⟨(fun w h=>sees_of (Store.le.refl _) (fun r hr=>mem_pick [2,1] z hr) w h),?_⟩)
 refine TA.a 29 z (moveI (.inr z) z) z (TA.dn (S.n (TC.rt 0 ?_)))
 obtain rfl:=so hh
 exact rq [4] ⟨z,z,z⟩
end Go.Proofs.YtnpbfjdpglfdkaaGreatDoor
end

noncomputable section
namespace Go.E
open Go
section
variable {S R:Type} {step:S→Option (S⊕R)}
theorem iter_any {y no : R} (f : Nat → S) (p : Nat → Bool) (n : Nat) (hs : ∀ k, k < n → p k = false → step (f k) = some (.inl (f (k + 1)))) (hy : ∀ k, k < n → p k = true → step (f k) = some (.inr y))
    (hd:step (f n)=some (.inr no)): ∀k,k≤n→iter step (f k)=some (bif (List.range n).any (fun i=>decide (k≤i) && p i) then y else no):=by
  intro k hk
  obtain ⟨m,rfl⟩: ∃m,k=n - m:=⟨n - k,by omega⟩
  induction m with
  |zero=>
    have:(List.range n).any (fun i=>decide (n - 0≤i) && p i)=false:=by
      rw [List.any_eq_false];intro i hi;have:=List.mem_range.1 hi;simp;omega
    rw [this];exact iter_done hd
  |succ m ih=>
    by_cases h:m<n
    · have e:n - (m+1)+1=n - m:=by omega
      cases hp:p (n - (m+1))with
      |true=>
        have:(List.range n).any (fun i=>decide (n - (m+1)≤i) && p i)=true:=by
          rw [List.any_eq_true];exact ⟨n - (m+1),List.mem_range.2 (by omega),by simp [hp]⟩
        rw [this];exact iter_done (hy _ (by omega) hp)
      |false=>
        have h1:=hs (n - (m+1)) (by omega) hp
        rw [e]at h1
        have:(List.range n).any (fun i=>decide (n - (m+1)≤i) && p i)=(List.range n).any (fun i=>decide (n - m≤i) && p i):=by
          rw [Bool.eq_iff_iff,List.any_eq_true,List.any_eq_true]
          constructor
          · rintro ⟨i,hi,hx⟩
            simp only [Bool.and_eq_true,decide_eq_true_eq]at hx
            refine ⟨i,hi,?_⟩
            have:i≠n - (m+1):=fun h=>by rw [h,hp]at hx;exact absurd hx.2 Bool.false_ne_true
            simp [hx.2];omega
          rintro ⟨i,hi,hx⟩
          simp only [Bool.and_eq_true,decide_eq_true_eq]at hx
          exact ⟨i,hi,by simp [hx.2];omega⟩
        rw [this]
        exact iter_next h1 (ih (by omega))
    have e:n - (m+1)=n - m:=by omega
    rw [e];exact ih (by omega)
theorem iter_any0{y no:R}(f:Nat→S)(p:Nat→Bool)(n:Nat)(hs: ∀k,k<n→p k=false→step (f k)=some (.inl (f (k+1))))(hy: ∀k,k<n→p k=true→step (f k)=some (.inr y))
    (hd:step (f n)=some (.inr no)):iter step (f 0)=some (bif (List.range n).any p then y else no):=by
  have:=iter_any f p n hs hy hd 0 (by omega)
  simpa using this
theorem iter_seq0{r:R}(f:Nat→S)(n:Nat)(hs: ∀k,k<n→step (f k)=some (.inl (f (k+1))))(hd:step (f n)=some (.inr r)):iter step (f 0)=some r:=iter_seq f n hs hd 0 (by omega)
end
theorem range_any{α:Type}(l:List α)(d:α)(p:α→Bool):(List.range l.length).any (fun i=>p (nth l i d))=l.any p:=by
  rw [Bool.eq_iff_iff,List.any_eq_true,List.any_eq_true]
  constructor
  · rintro ⟨i,hi,h⟩
    have hi:=List.mem_range.1 hi
    exact ⟨nth l i d,List.mem_of_getElem? (getD_some l hi d),h⟩
  rintro ⟨x,hx,h⟩
  obtain ⟨i,hi,rfl⟩:=List.getElem_of_mem hx
  refine ⟨i,List.mem_range.2 hi,?_⟩
  have:nth l i d=l[i]:=by have:=getD_some l hi d;rw [List.getElem?_eq_getElem hi]at this;exact (Option.some.inj this).symm
  rw [this];exact h
theorem take_snoc{α:Type}(l:List α){k:Nat}(h:k<l.length)(d:α):l.take (k+1)=l.take k++[nth l k d]:=by
  rw [List.take_add_one,getD_some l h d];rfl
theorem nth_mem'{α:Type}{l:List α}{i:Nat}(h:i<l.length)(d:α):nth l i d∈l:=List.mem_of_getElem? (getD_some l h d)
end Go.E
end

noncomputable section
namespace Go.Proofs.YtnpbfjdpglfdkaaGreatDoor
open Go Go.E Go.Sort
structure GoodCmp {α:Type} (c:α→α→Int):Prop where
  eq: ∀x y,c x y=0↔x=y
  anti: ∀x y,c x y<0↔0<c y x
  trans: ∀x y z,c x y<0→c y z<0→c x z<0
theorem GoodCmp.total{α:Type}{c:α→α→Int}(h:GoodCmp c):TotalCmp c where
  swo := {
    irrefl:=fun x=>by have:=(h.eq x x).2 rfl;simp [ltOf,this]
    trans:=fun x y z h1 h2=>by
      simp only [ltOf,decide_eq_true_eq]at *
      exact h.trans x y z h1 h2
    ntrans:=fun x y z h1 h2=>by
      simp only [ltOf,decide_eq_false_iff_not]at *
      intro h3
      by_cases e1:x=y
      · subst e1;exact h2 h3
      by_cases e2:y=z
      · subst e2;exact h1 h3
      have n1:c x y≠0:=fun e=>e1 ((h.eq _ _).1 e)
      have n2:c y z≠0:=fun e=>e2 ((h.eq _ _).1 e)
      have h4:c z y<0:=(h.anti _ _).2 (by omega)
      exact h1 (h.trans _ _ _ h3 h4)}
  tot:=fun x y h1 h2=>by
    simp only [ltOf,decide_eq_false_iff_not]at *
    refine (h.eq x y).1 ?_
    have:=(h.anti y x)
    omega
def corI(a b:Int):Int:=if a≠0 then a else b
theorem GoodCmp.lex {α β γ : Type} {c : β → β → Int} {d : γ → γ → Int} (hc : GoodCmp c) (hd : GoodCmp d) (f : α → β) (g : α → γ) (hfg : ∀ x y, f x = f y → g x = g y → x = y) : GoodCmp fun x y => corI (c (f x) (f y)) (d (g x) (g y)) where
  eq x y:=by
    unfold corI
    by_cases h:c (f x) (f y)=0
    · have hf:=(hc.eq _ _).1 h
      simp only [h,ne_eq,not_true_eq_false,if_false,hd.eq]
      exact ⟨fun hg=>hfg x y hf hg,fun e=>by rw [e]⟩
    simp only [ne_eq,h,not_false_eq_true,if_true,false_iff]
    intro e;subst e;exact h ((hc.eq _ _).2 rfl)
  anti x y:=by
    unfold corI
    have h1:=hc.anti (f x) (f y)
    have h2:=hc.anti (f y) (f x)
    have h3:=hd.anti (g x) (g y)
    by_cases h:c (f x) (f y)=0
    · have hf:=(hc.eq _ _).1 h
      have h':c (f y) (f x)=0:=(hc.eq _ _).2 hf.symm
      simp only [h,h',ne_eq,not_true_eq_false,if_false];exact h3
    have h':c (f y) (f x)≠0:=fun e=>h ((hc.eq _ _).2 ((hc.eq _ _).1 e).symm)
    simp only [h,h',ne_eq,not_false_eq_true,if_true];exact h1
  trans x y z := by
    unfold corI
    intro h1 h2
    by_cases a:c (f x) (f y)=0
    · have ea:=(hc.eq _ _).1 a
      rw [a]at h1;simp only [ne_eq,not_true_eq_false,if_false]at h1
      rw [ea]
      by_cases b:c (f y) (f z)=0
      · rw [b]at h2 ⊢
        simp only [ne_eq,not_true_eq_false,if_false]at h2 ⊢
        exact hd.trans _ _ _ h1 h2
      simp only [ne_eq,b,not_false_eq_true,if_true]at h2 ⊢;exact h2
    simp only [ne_eq,a,not_false_eq_true,if_true]at h1
    by_cases b:c (f y) (f z)=0
    · have eb:=(hc.eq _ _).1 b
      rw [←eb]
      simp only [ne_eq,a,not_false_eq_true,if_true];exact h1
    simp only [ne_eq,b,not_false_eq_true,if_true]at h2
    have h3:=hc.trans _ _ _ h1 h2
    have h4:c (f x) (f z)≠0:=by omega
    simp only [ne_eq,h4,not_false_eq_true,if_true];exact h3
def cmpI(x y:Int):Int:=if x<y then -1 else if y<x then 1 else 0
theorem cmpI_good:GoodCmp cmpI where
  eq x y:=by unfold cmpI;(repeat' split)<;>omega
  anti x y:=by unfold cmpI;(repeat' split)<;>omega
  trans x y z:=by unfold cmpI;(repeat' split)<;>omega
def cmpN(x y:Nat):Int:=if x<y then -1 else if y<x then 1 else 0
theorem cmpN_good:GoodCmp cmpN where
  eq x y:=by unfold cmpN;(repeat' split)<;>omega
  anti x y:=by unfold cmpN;(repeat' split)<;>omega
  trans x y z:=by unfold cmpN;(repeat' split)<;>omega
theorem cmpB_eq: ∀a b:List UInt8,Lib.compareBytes a b=0↔a=b
  |[],[]=>by simp [Lib.compareBytes]
  |[],_::_=>by simp [Lib.compareBytes]
  |_::_,[]=>by simp [Lib.compareBytes]
  |x::a,y::b=>by
    simp only [Lib.compareBytes]
    split
    · rename_i h;simp;intro e;subst e;exact absurd h (UInt8.lt_irrefl _)
    rename_i h
    split
    · rename_i h';simp;intro e;subst e;exact absurd h' (UInt8.lt_irrefl _)
    rename_i h'
    have:x=y:=UInt8.le_antisymm (UInt8.not_lt.1 h') (UInt8.not_lt.1 h)
    subst this
    simp [cmpB_eq a b]
theorem cmpB_anti: ∀a b:List UInt8,Lib.compareBytes a b<0↔0<Lib.compareBytes b a
  |[],[]=>by simp [Lib.compareBytes]
  |[],_::_=>by simp [Lib.compareBytes]
  |_::_,[]=>by simp [Lib.compareBytes]
  | x :: a, y :: b => by
    simp only [Lib.compareBytes]
    by_cases h:x<y
    · have h': ¬ y<x:=fun h2=>UInt8.lt_irrefl _ (UInt8.lt_trans h h2)
      simp [h,h']
    by_cases h':y<x
    · simp [h,h']
    simp [h,h',cmpB_anti a b]
theorem cmpB_trans: ∀a b c:List UInt8,Lib.compareBytes a b<0→Lib.compareBytes b c<0→Lib.compareBytes a c<0
  |[],[],c,h,_=>by simp [Lib.compareBytes]at h
  |[],_::_,[],_,h=>by simp [Lib.compareBytes]at h
  |[],_::_,_::_,_,_=>by simp [Lib.compareBytes]
  |_::_,[],c,h,_=>by simp [Lib.compareBytes]at h
  |_::_,_::_,[],_,h=>by simp [Lib.compareBytes]at h
  | x :: a, y :: b, z :: c, h1, h2 => by
    simp only [Lib.compareBytes]at *
    by_cases hxy:x<y
    · by_cases hyz:y<z
      · have:=UInt8.lt_trans hxy hyz;simp [this]
      by_cases hzy:z<y
      · simp [hyz,hzy]at h2
      have:y=z:=UInt8.le_antisymm (UInt8.not_lt.1 hzy) (UInt8.not_lt.1 hyz)
      subst this;simp [hxy]
    by_cases hyx:y<x
    · simp [hxy,hyx]at h1
    have:x=y:=UInt8.le_antisymm (UInt8.not_lt.1 hyx) (UInt8.not_lt.1 hxy)
    subst this
    simp only [UInt8.lt_irrefl,if_false]at h1
    by_cases hyz:x<z
    · simp [hyz]
    by_cases hzy:z<x
    · simp [hyz,hzy]at h2
    simp only [hyz,hzy,if_false]at h2 ⊢
    exact cmpB_trans a b c h1 h2
theorem cmpB_good:GoodCmp Lib.compareBytes:=⟨cmpB_eq,cmpB_anti,cmpB_trans⟩
def cmpBool(x y:Bool):Int:=cmpI (if x then 1 else 0) (if y then 1 else 0)
theorem cmpBool_good:GoodCmp cmpBool where
  eq x y:=by cases x<;>cases y<;>decide
  anti x y:=by cases x<;>cases y<;>decide
  trans x y z:=by cases x<;>cases y<;>cases z<;>decide
theorem lt_dec{k n:Nat}(h:k<n):decide (((k:Nat):Int)<((n:Nat):Int))=true:=decide_eq_true (by omega)
theorem cmpI_lt{x y:Int}:cmpI x y<0↔x<y:=by unfold cmpI;(repeat' split)<;>omega
end Go.Proofs.YtnpbfjdpglfdkaaGreatDoor
end

noncomputable section
namespace Go.Proofs.YtnpbfjdpglfdkaaGreatDoor
open Go Go.E Go.Sort
theorem Dp_(x y:Int):C2_ x y=some (cmpI x y):=by
  unfold C2_ Gr_ cmpI
  simp only [bnd,Option.bind_some,ne_eq,not_true_eq_false,decide_false,iteO_false]
  by_cases h:x<y
  · simp [h]
  by_cases h':y<x<;>simp [h,h']
theorem compareU_eq(x y:Nat):compareU x y=some (cmpN x y):=by
  unfold compareU isNaNU cmpN
  simp only [bnd,Option.bind_some,ne_eq,not_true_eq_false,decide_false,iteO_false]
  by_cases h:x<y
  · simp [h]
  by_cases h':y<x<;>simp [h,h']
theorem Ew_(x y:List UInt8):Df_ x y=some (Lib.compareBytes x y):=rfl
def orL:List Int→Int
  |[]=>0
  |a::l=>corI a (orL l)
theorem Js_(l:List Int): ∀m k,l.length=k+m→iter (fun q:Nat=>Dw_ l q) k=some (orL (l.drop k)):=by
  intro m
  induction m with
  |zero=>
    intro k hk
    refine iter_done ?_
    rw [List.drop_of_length_le (by omega)]
    simp only [Dw_,decide_eq_false (show ¬ ((k:Nat):Int)<((l.length:Nat):Int) by omega),iteO_false];rfl
  |succ m ih=>
    intro k hk
    have hlt:k<l.length:=by omega
    have hd:l.drop k=nth l k 0::l.drop (k+1):=by
      rw [List.drop_eq_getElem_cons hlt]
      have:=getD_some l hlt 0
      rw [List.getElem?_eq_getElem hlt,Option.some.injEq]at this
      rw [this]
    rw [hd,orL,corI]
    by_cases h:nth l k 0≠0
    · rw [if_pos h]
      refine iter_done ?_
      simp only [Dw_,decide_eq_true (show ((k:Nat):Int)<((l.length:Nat):Int) by omega),iteO_true,decide_eq_true h];rfl
    rw [if_neg h]
    refine iter_next (s':=k+1) ?_ (ih (k+1) (by omega))
    simp only [Dw_,decide_eq_true (show ((k:Nat):Int)<((l.length:Nat):Int) by omega),iteO_true,decide_eq_false h];rfl
theorem I2_(l:List Int):Hy_ l=some (orL l):=by
  unfold Hy_;rw [Js_ l l.length 0 (by omega),List.drop_zero]
def cmpTip(x y:Tip):Int:=corI (cmpI x.state y.state) (corI (Lib.compareBytes x.out y.out) 0)
theorem compareTips_eq(x y:Tip):Em_ x y=some (cmpTip x y):=by
  unfold Em_
  rw [bnd_some (Dp_ _ _),bnd_some (Ew_ _ _),bnd_some (I2_ _)];rfl
theorem corI_zero(a:Int):corI a 0=a:=by unfold corI;split<;>omega
theorem cmpTip_good:GoodCmp cmpTip:=by
  have:=GoodCmp.lex cmpI_good cmpB_good Tip.state Tip.out (fun x y h1 h2=>by cases x;cases y;simp_all)
  have e:cmpTip=fun x y=>corI (cmpI x.state y.state) (Lib.compareBytes x.out y.out):=by
    funext x y;unfold cmpTip;rw [corI_zero]
  rw [e];exact this
def cmpSet(s t:BSet):Int:=corI (cmpN s.a t.a) (corI (cmpN s.b t.b) (corI (cmpN s.c t.c) (cmpN s.d t.d)))
theorem compareUs_four(a b c d a' b' c' d':Nat):compareUs [a,b,c,d] [a',b',c',d']=some (corI (cmpN a a') (corI (cmpN b b') (corI (cmpN c c') (cmpN d d')))):=by
  have st: ∀(k x y:Nat),k<4→nth [a,b,c,d] k 0=x→nth [a',b',c',d'] k 0=y→(cmpN x y≠0→iter (fun q:Nat=>compareUs_b1 [a,b,c,d] [a',b',c',d'] q) k=some (cmpN x y))∧(∀r,cmpN x y=0→iter (fun q:Nat=>compareUs_b1 [a,b,c,d] [a',b',c',d'] q) (k+1)=some r→iter (fun q:Nat=>compareUs_b1 [a,b,c,d] [a',b',c',d'] q) k=some r):=by
    intro k x y hk hx hy
    have e1:((k:Nat):Int)<(([a,b,c,d].length:Nat):Int):=by simp;omega
    have e2: ¬ (([a',b',c',d'].length:Nat):Int)≤((k:Nat):Int):=by simp;omega
    refine ⟨fun h=>iter_done ?_,fun r h hr=>iter_next (s':=k+1) ?_ hr⟩
    · simp only [compareUs_b1,decide_eq_true e1,iteO_true,decide_eq_false e2,iteO_false]
      rw [grd_mk (by simp;omega),hx,hy,bnd_some (compareU_eq _ _),decide_eq_true h];rfl
    simp only [compareUs_b1,decide_eq_true e1,iteO_true,decide_eq_false e2,iteO_false]
    rw [grd_mk (by simp;omega),hx,hy,bnd_some (compareU_eq _ _),h];rfl
  have fi:iter (fun q:Nat=>compareUs_b1 [a,b,c,d] [a',b',c',d'] q) 4=some 0:=iter_done (by simp [compareUs_b1])
  have go: ∀(k x y:Nat) (r:Int),k<4→nth [a,b,c,d] k 0=x→nth [a',b',c',d'] k 0=y→iter (fun q:Nat=>compareUs_b1 [a,b,c,d] [a',b',c',d'] q) (k+1)=some r→iter (fun q:Nat=>compareUs_b1 [a,b,c,d] [a',b',c',d'] q) k=some (corI (cmpN x y) r):=by
    intro k x y r hk hx hy hr
    obtain ⟨h1,h2⟩:=st k x y hk hx hy
    by_cases h:cmpN x y=0
    · rw [show corI (cmpN x y) r=r from by simp [corI,h]];exact h2 r h hr
    rw [show corI (cmpN x y) r=cmpN x y from by simp [corI,h]];exact h1 h
  have h3:=go 3 d d' 0 (by omega) rfl rfl fi
  rw [corI_zero]at h3
  exact go 0 a a' _ (by omega) rfl rfl (go 1 b b' _ (by omega) rfl rfl (go 2 c c' _ (by omega) rfl rfl h3))
theorem cmpSet_good:GoodCmp cmpSet:=by
  have h1:=GoodCmp.lex (α:=Nat×Nat) cmpN_good cmpN_good Prod.fst Prod.snd (fun x y h1 h2=>Prod.ext h1 h2)
  have h2:=GoodCmp.lex (α:=Nat×Nat×Nat) cmpN_good h1 Prod.fst Prod.snd (fun x y h1 h2=>Prod.ext h1 h2)
  have h3:=GoodCmp.lex (α:=BSet) cmpN_good h2 BSet.a (fun s=>(s.b,s.c,s.d)) (fun x y h1 h2=>by
    cases x;cases y;simp_all)
  exact h3
def cmpArc(x y:Arc):Int:=corI (cmpI x.frm y.frm) (corI (cmpI x.to y.to) (corI (cmpSet x.set y.set) (corI (Lib.compareBytes x.out y.out) (corI (cmpBool x.copy y.copy) 0))))
theorem H6_(b:Bool):Fn_ b=some (if b then 1 else 0):=by cases b<;>rfl
theorem compareArcs_eq(x y:Arc):Ej_ x y=some (cmpArc x y):=by
  unfold Ej_
  rw [bnd_some (Dp_ _ _),bnd_some (Dp_ _ _),bnd_some (compareUs_four ..),bnd_some (Ew_ _ _),bnd_some (H6_ _),bnd_some (H6_ _),bnd_some (Dp_ _ _),bnd_some (I2_ _)];rfl
theorem cmpArc_good:GoodCmp cmpArc:=by
  have h1:=GoodCmp.lex (α:=List UInt8×Bool) cmpB_good cmpBool_good Prod.fst Prod.snd (fun x y h1 h2=>Prod.ext h1 h2)
  have h2:=GoodCmp.lex (α:=BSet×List UInt8×Bool) cmpSet_good h1 Prod.fst Prod.snd (fun x y h1 h2=>Prod.ext h1 h2)
  have h3:=GoodCmp.lex (α:=Int×BSet×List UInt8×Bool) cmpI_good h2 Prod.fst Prod.snd (fun x y h1 h2=>Prod.ext h1 h2)
  have h4:=GoodCmp.lex (α:=Arc) cmpI_good h3 Arc.frm (fun s=>(s.to,s.set,s.out,s.copy)) (fun x y h1 h2=>by
    cases x;cases y;simp_all)
  have e:cmpArc=fun x y=>corI (cmpI x.frm y.frm) (corI (cmpI x.to y.to) (corI (cmpSet x.set y.set) (corI (Lib.compareBytes x.out y.out) (cmpBool x.copy y.copy)))):=by
    funext x y;unfold cmpArc;rw [corI_zero]
  rw [e];exact h4
end Go.Proofs.YtnpbfjdpglfdkaaGreatDoor
end

noncomputable section
namespace Go.Proofs.YtnpbfjdpglfdkaaGreatDoor
open Go Go.E
instance:Inhabited Tip:=⟨Tip.zero⟩
instance:Inhabited Arc:=⟨Arc.zero⟩
theorem Ka_{a:Option Addr}{c:Nat}{l:List (List UInt8)}:Con Tryz.prog 45 #[.slice a l.length c,.func (.func 19) #[] #[]] σ [Res.rowS 9 1 eS_ (.slice a l.length c) l] (SortP 9 1 eS_ a c l (sortL Lib.compareBytes l) σ):=
  Con.sort1 (enc:=keyS) layS layS0 rfl (fun _=>rfl) (fun _=>rfl) cmpB_good.total (fun args w=>run_callFunc (by kernel_rfl) args w) (fun x y τ=>Ee_ (Ew_ x y))
theorem Ki_{a:Option Addr}{c:Nat}{l:List Int}:Con Tryz.prog 89 #[.slice a l.length c,.func (.func 63) #[] #[]] σ [Res.rowS 3 1 eI_ (.slice a l.length c) l] (SortP 3 1 eI_ a c l (sortL cmpI l) σ):=
  Con.sort1 (enc:=keyI) layI layI0 rfl (fun _=>rfl) (fun _=>rfl) cmpI_good.total (fun args w=>run_callFunc (by kernel_rfl) args w) (fun x y τ=>Dg_ (Dp_ x y))
theorem Ke_{a:Option Addr}{c:Nat}{l:List Tip}:Con Tryz.prog 105 #[.slice a l.length c,.func (.func 83) #[] #[]] σ [Res.rowS 62 2 encTip (.slice a l.length c) l] (SortP 62 2 encTip a c l (sortL cmpTip l) σ):=
  Con.sortK (k:=2) layT0 rfl Tryz.isAgg62 Tryz.sizeOf62 encTip_len encTip_one cmpTip_good.total (fun args w=>run_callFunc (by kernel_rfl) args w) (fun x y τ=>H9_ (compareTips_eq x y))
theorem Kd_{a:Option Addr}{c:Nat}{l:List Arc}:Con Tryz.prog 109 #[.slice a l.length c,.func (.func 85) #[] #[]] σ [Res.rowS 59 8 encArc (.slice a l.length c) l] (SortP 59 8 encArc a c l (sortL cmpArc l) σ):=
  Con.sortK (k:=8) layA0 rfl Tryz.isAgg59 Tryz.sizeOf59 encArc_len encArc_one cmpArc_good.total (fun args w=>run_callFunc (by kernel_rfl) args w) (fun x y τ=>Ia_ (compareArcs_eq x y))
end Go.Proofs.YtnpbfjdpglfdkaaGreatDoor
end

noncomputable section
namespace Go.Proofs.YtnpbfjdpglfdkaaGreatDoor
open Go Go.E Go.E.OpVal Go.E.OpOk Go.Proofs.Tryz
theorem ag25:aggOf Tryz.prog 25=some true:=by kernel_rfl
theorem ag35:aggOf Tryz.prog 35=some false:=by kernel_rfl
theorem ag48:aggOf Tryz.prog 48=some true:=by kernel_rfl
theorem by23:byOf Tryz.prog 23=some 24:=by kernel_rfl
theorem by35:byOf Tryz.prog 35=some 24:=by kernel_rfl
theorem by59:byOf Tryz.prog 59=some 72:=by kernel_rfl
theorem by62:byOf Tryz.prog 62=some 24:=by kernel_rfl
theorem by78:byOf Tryz.prog 78=some 48:=by kernel_rfl
theorem by9:byOf Tryz.prog 9=some 16:=by kernel_rfl
theorem eg59:Tryz.prog.eqGuardType Tryz.prog.depth 59=false:=by kernel_rfl
theorem eg62:Tryz.prog.eqGuardType Tryz.prog.depth 62=false:=by kernel_rfl
theorem es59(x y:Arc):Go.E.EqAt Tryz.prog 3 59 (.agg (Go.E.encArc x).toArray) (.agg (Go.E.encArc y).toArray) (decide (x=y)):=
 (EqAt.struct (ts:=[(false,3,0),(false,3,1),(false,57,2),(false,9,6),(false,4,7)]) (by kernel_rfl) (by kernel_rfl) (by kernel_rfl) (EqC.one (by kernel_rfl) rfl rfl (EqAt.int underlying3 x.frm y.frm |>.up (by decide)) (EqC.one (by kernel_rfl) rfl rfl (EqAt.int underlying3 x.to y.to |>.up (by decide)) (EqC.agg (s:=4) (us:=Go.E.setA x.set) (vs:=Go.E.setA y.set) (by kernel_rfl) (by kernel_rfl) rfl rfl (EqAt.set underlying57 underlying55 (by kernel_rfl) (by kernel_rfl) x.set y.set) (EqC.one (by kernel_rfl) rfl rfl (EqAt.str underlying9 x.out y.out |>.up (by decide)) (EqC.one (by kernel_rfl) rfl rfl (EqAt.bool underlying4 x.copy y.copy |>.up (by decide)) EqC.nil)))))).of (by rw [Bool.eq_iff_iff];cases x;cases y;simp)
theorem es62(x y:Tip):Go.E.EqAt Tryz.prog 2 62 (.agg (Go.E.encTip x).toArray) (.agg (Go.E.encTip y).toArray) (decide (x=y)):=
 (EqAt.struct (ts:=[(false,3,0),(false,9,1)]) (by kernel_rfl) (by kernel_rfl) (by kernel_rfl) (EqC.one (by kernel_rfl) rfl rfl (EqAt.int underlying3 x.state y.state) (EqC.one (by kernel_rfl) rfl rfl (EqAt.str underlying9 x.out y.out) EqC.nil))).of (by rw [Bool.eq_iff_iff];cases x;cases y;simp)
theorem pf104:plainF Tryz.prog 104=true:=by kernel_rfl
theorem pf105:plainF Tryz.prog 105=true:=by kernel_rfl
theorem pf106:plainF Tryz.prog 106=true:=by kernel_rfl
theorem pf108:plainF Tryz.prog 108=true:=by kernel_rfl
theorem pf109:plainF Tryz.prog 109=true:=by kernel_rfl
theorem pf110:plainF Tryz.prog 110=true:=by kernel_rfl
theorem pf16:plainF Tryz.prog 16=true:=by kernel_rfl
theorem pf17:plainF Tryz.prog 17=true:=by kernel_rfl
theorem pf18:plainF Tryz.prog 18=true:=by kernel_rfl
theorem pf26:plainF Tryz.prog 26=true:=by kernel_rfl
theorem pf44:plainF Tryz.prog 44=true:=by kernel_rfl
theorem pf45:plainF Tryz.prog 45=true:=by kernel_rfl
theorem pf46:plainF Tryz.prog 46=true:=by kernel_rfl
theorem pf62:plainF Tryz.prog 62=true:=by kernel_rfl
theorem pf82:plainF Tryz.prog 82=true:=by kernel_rfl
theorem pf84:plainF Tryz.prog 84=true:=by kernel_rfl
theorem pf89:plainF Tryz.prog 89=true:=by kernel_rfl
theorem pl25:plOf Tryz.prog 25=some #[(0,1),(1,1),(2,1),(3,1)]:=by kernel_rfl
theorem pl48:plOf Tryz.prog 48=some #[(0,1),(1,1),(2,1),(3,1)]:=by kernel_rfl
theorem pl78:plOf Tryz.prog 78=some #[(0,1),(1,1),(2,4)]:=by kernel_rfl
theorem sz25:szOf Tryz.prog 25=some 4:=by kernel_rfl
theorem sz35:szOf Tryz.prog 35=some 1:=by kernel_rfl
theorem sz46:szOf Tryz.prog 46=some 1:=by kernel_rfl
theorem sz48:szOf Tryz.prog 48=some 4:=by kernel_rfl
theorem sz9:szOf Tryz.prog 9=some 1:=by kernel_rfl
theorem ze23:zeroOf Tryz.prog 23=some (.slice none 0 0):=by kernel_rfl
theorem ze25:zeroOf Tryz.prog 25=some (.agg #[.int .i64 0,.slice none 0 0,.slice none 0 0,.slice none 0 0]):=by kernel_rfl
theorem ze35:zeroOf Tryz.prog 35=some (.slice none 0 0):=by kernel_rfl
theorem ze48:zeroOf Tryz.prog 48=some (.agg #[.int .i64 0,.slice none 0 0,.slice none 0 0,.slice none 0 0]):=by kernel_rfl
theorem ze9:zeroOf Tryz.prog 9=some (.string ByteArray.empty):=by kernel_rfl
theorem Jy_{a:Option Addr}{c:Nat}{l:List (List UInt8)}(hl:RS σ 1 eS_ (.slice a l.length c) l)(hsz:l.length * 16≤140737488355328):
  Con Tryz.prog 44 #[.slice a l.length c] σ [] (RowP 9 1 eS_ l σ):=by
 have hb:=hl.rv.big
 refine Con.mk (n:=8) Tryz.func44 z z z (fun w0=> ?_)
 refine TC.a (TL.s z z (TL.nilS 9 1 eS_ (TL.en (TC.seq (TC.a (TL.s z z (TL.w z (eqlNilSl z underlying35 z z) (TL.en (TC.cond z (fun h2=> ?_) (fun h2=> ?_))))))))))
 ·refine TC.a (TL.s z z (TL.nilS 9 1 eS_ (TL.en (TC.ret (S.r ?_)))))
  cases a with
  |some _=>simp at h2
  |none=>
   obtain rfl:=hl.none_nil
   exact ret1R z z
 refine TC.skip (S.n (TC.a (TL.op z (lit0 (enc:=eS_) z z underlying35 sz9 z z (fun a4 c5=> ?_)))))
 refine TL.s z z (TL.op z (appendS z z underlying35 sz9 by9 ze9 z z (by decide) z z z (.inl hl) (by simpa using hsz) (by decide) (fun a7 c8=> ?_)))
 exact TL.s z z (TL.en (TC.ret (ret1R z z)))
def Ge_(k125:Nat)(l128:List (List UInt8))(k130:Nat):Option (((List (List UInt8))×Nat×Nat)⊕((Nat)⊕((List (List UInt8))))):=
 nxt (l128,k130,(k125+1))
def Gd_(x0:List (List UInt8))(k105:Nat)(l122:List (List UInt8))(k124:Nat)(k125:Nat):Option (((List (List UInt8))×Nat×Nat)⊕((Nat)⊕((List (List UInt8))))):=
 iteO (decide (((k125:Nat):Int)<(((x0.length - k105):Nat):Int))) (grd (k125<(x0.length - k105)) (grd (0≤(IntKind.i64.wrap (((k125:Nat):Int) - 1))∧(IntKind.i64.wrap (((k125:Nat):Int) - 1))<((x0.length - k105):Nat)) (iteO (decide ((nth l122 (k105+k125) ([]:List UInt8))≠(nth l122 (k105+(IntKind.i64.wrap (((k125:Nat):Int) - 1)).toNat) ([]:List UInt8)))) (grd (k125<(x0.length - k105)) (grd (k124<l122.length) (Ge_ k125 (l122.set k124 (nth l122 (k105+k125) ([]:List UInt8))) (k124+1)))) (Ge_ k125 l122 k124)))) (fin (grd (k124≤x0.length) (grd (k124≤(l122.take k124++List.replicate (l122.length - k124) ([]:List UInt8)).length) (fin (some ((l122.take k124++List.replicate (l122.length - k124) ([]:List UInt8)).take k124))))))
def Gi_(x0:List (List UInt8))(k105:Nat):Option ((Nat)⊕((List (List UInt8)))):=
 iteO (decide (((k105:Nat):Int)<((x0.length:Nat):Int))) (grd (0≤(IntKind.i64.wrap (((k105:Nat):Int) - 1))∧(IntKind.i64.wrap (((k105:Nat):Int) - 1))<(x0.length:Int)) (iteO (decide ((nth x0 k105 ([]:List UInt8))=(nth x0 ((IntKind.i64.wrap (((k105:Nat):Int) - 1)).toNat) ([]:List UInt8)))) (grd (k105≤x0.length) (iter (fun q:(List (List UInt8))×Nat×Nat=>Gd_ x0 k105 q.1 q.2.1 q.2.2) (x0,k105,1))) (nxt (k105+1)))) (fin (some x0))
def compactS(x0:List (List UInt8)):Option ((List (List UInt8))):=
 iteO (decide (((x0.length:Nat):Int)<2)) (some x0) (iter (fun q:Nat=>Gi_ x0 q) 1)
theorem Jn_{x0:List (List UInt8)}{r:(List (List UInt8))}(hh:compactS x0=some r):
  Con Tryz.prog 46 #[.slice a0_1 x0.length c0_2] σ [Res.rowS 9 1 eS_ (.slice a0_1 x0.length c0_2) x0] (fun v σ' H'=> ∃a1 c1,v= .slice a1 r.length c1∧σ=σ'∧H'=[Res.rowS 9 1 eS_ (.slice a1 r.length c1) r]):=by
 dsimp only [compactS]at hh
 refine Con.mk (n:=61) Tryz.func46 z z z (fun w0=> ?_)
 refine TC.a (TL.s z z (TL.en (TC.seq (TC.a (TL.s z z (TL.w z (lenC z underlying35 z) (TL.w z (OpVal.lss z z z) (TL.en (TC.cD z hh (fun h102 hh=> ?_) (fun h102 hh=> ?_))))))))))
 ·refine TC.a (TL.s z z (TL.s z z (TL.en (TC.ret (S.r ?_)))))
  obtain rfl:=so hh
  exact ro [Res.rowS 9 1 eS_ (.slice a0_1 x0.length c0_2) x0] z (RVs.tmp z RVs.nil) ⟨a0_1,c0_2,z,z,z⟩
 refine TC.skip (S.n (TC.seq (TC.a (TL.i z z (TL.en (TC.block (TC.loopG (α:=(Nat)×(Unit)) (rgs [(2,4),(10,50)]) (fun g=>[(3,.int .i64 ((g.1:Nat):Int))]) (fun g=>[Res.rowS 9 1 eS_ (.slice a0_1 x0.length c0_2) x0]) (fun g=>σ) (fun g=>iter (fun q:Nat=>Gi_ x0 q) g.1=some r) (fun g=>rounds (fun q:Nat=>Gi_ x0 q) g.1) (1,()) (Sub.pre 1 z) z (by repeat (first|exact trivial|refine ⟨z,?_⟩)) hh (fun g1 j1 hg1=> ?_))))))))
 obtain ⟨k105,_⟩:=g1
 have hh:=hg1;clear hg1
 try dsimp only
 obtain ⟨z1,hh,hR1⟩:=iter_e hh
 dsimp only [Gi_]at hh
 refine TC.isSl (i:=0) z (fun _ hb106 _=> ?_)
 refine TC.seq (TC.a (TL.i z z (TL.s z z (TL.w z (lenC z underlying35 z) (TL.w z (OpVal.lss z z z) (TL.en (TC.cD z hh (fun h107 hh=> ?_) (fun h107 hh=> ?_))))))))
 ·refine TC.skip (S.n (TC.seq (TC.block (TC.seq ?_))))
  have u19:=grd_c hh
  replace hh:=grd_t hh
  refine TC.draw [] (by kernel_rfl) (TA.a 0 z (moveSl (.inl z) z) z (TA.a 1 z (moveI (.inl z) z) z (TA.isSl (i:=0) z (fun hs110 _ _=> ?_))))
  refine TA.b 2 z (indexN z underlying35 sz9 z z hs110 (by omega)) z (TA.b 3 z (loadO1 ([]:List UInt8) z ag9 z (q:=0) z eSl_ (by omega) z) z (TA.a 4 z (moveSl (.inl z) z) z (TA.a 5 z (moveI (.inl z) z) z (TA.a 6 z (subW z z z) z (TA.isSl (i:=0) z (fun hs111 _ _=> ?_))))))
  refine TA.b 7 z (OpVal.index z underlying35 sz9 z z hs111 u19.1 u19.2) z (TA.b 8 z (loadO1 ([]:List UInt8) z ag9 z (q:=0) z eSl_ (by omega) z) z (TA.a 9 z (eqlBs z z z) z (TA.dn (S.n (TC.cD z hh (fun h112 hh=> ?_) (fun h112 hh=> ?_))))))
  ·refine TC.a (TL.s z z (TL.i z z ?_))
   have u24:=grd_c hh
   replace hh:=grd_t hh
   refine TL.isSl (i:=0) z (fun hs113 _ _=> ?_)
   obtain ⟨a113,c113,hv113,ho113⟩:=vw_of (k:=k105) (size:=1) hs113 (by omega)
   refine TL.w z (ho113 z underlying35 sz9 z z) (TL.s z z (TL.en (TC.seq (TC.a (TL.i z z (TL.en (TC.block (TC.loopG (α:=((List (List UInt8))×Nat×Nat)×(Unit)) (rgs [(3,1),(5,1),(29,25)]) (fun g=>[(3,.int .i64 ((g.1.2.1:Nat):Int)),(5,.int .i64 ((g.1.2.2:Nat):Int))]) (fun g=>[Res.rowS 9 1 eS_ (.slice a0_1 x0.length c0_2) g.1.1]) (fun g=>σ) (fun g=>iter (fun q:(List (List UInt8))×Nat×Nat=>Gd_ x0 k105 q.1 q.2.1 q.2.2) g.1=some z1∧g.1.1.length=x0.length) (fun g=>rounds (fun q:(List (List UInt8))×Nat×Nat=>Gd_ x0 k105 q.1 q.2.1 q.2.2) g.1) ((x0,k105,1),()) (Sub.pre 1 z) z (by repeat (first|exact trivial|refine ⟨z,?_⟩)) ⟨hh,z⟩ (fun g2 j2 hg2=> ?_)))))))))
   obtain ⟨⟨l122,k124,k125⟩,_⟩:=g2
   obtain ⟨hh,hn123⟩:=hg2
   try dsimp only at hn123 ⊢
   obtain ⟨z2,hh,hR2⟩:=iter_e hh
   dsimp only [Gd_]at hh
   have hn123b:=hn123
   refine TC.isSl (i:=0) z (fun _ hb126 _=> ?_)
   refine TC.seq (TC.a (TL.i z z (TL.s z z (TL.w z (lenC z underlying35 z) (TL.w z (OpVal.lss z z z) (TL.en (TC.cD z hh (fun h127 hh=> ?_) (fun h127 hh=> ?_))))))))
   ·refine TC.skip (S.n (TC.cutG (α:=((List (List UInt8))×Nat)×(Unit)) (rgs [(3,1),(35,19)]) (fun g=>[(3,.int .i64 ((g.1.2:Nat):Int))]) (fun g=>[Res.rowS 9 1 eS_ (.slice a0_1 x0.length c0_2) g.1.1]) (fun g=>σ) (fun g=>Ge_ k125 g.1.1 g.1.2=some z2∧g.1.1.length=x0.length) ?_ (fun g j hg=> ?_)))
    ·skip
     refine TC.block (TC.seq ?_)
     have u33:=grd_c hh
     replace hh:=grd_t hh
     have u38:=grd_c hh
     replace hh:=grd_t hh
     refine TC.draw [] (by kernel_rfl) (TA.a 0 z (moveSl (.inl z) z) z (TA.a 1 z (moveI (.inl z) z) z (TA.b 2 z (elVw hv113 (by omega) (indexN z underlying35 sz9 z z hv113.sl (by omega))) z (TA.b 3 z (loadO1 ([]:List UInt8) z ag9 z (q:=0) z eSl_ (by omega) z) z (TA.a 4 z (moveSl (.inl z) z) z (TA.a 5 z (moveI (.inl z) z) z (TA.a 6 z (subW z z z) z (TA.b 7 z (elVw hv113 (by omega) (OpVal.index z underlying35 sz9 z z hv113.sl u38.1 u38.2)) z (TA.b 8 z (loadO1 ([]:List UInt8) z ag9 z (q:=0) z eSl_ (by omega) z) z (TA.a 9 z (neqBs z z z) z (TA.dn (S.n (TC.cD z hh (fun h131 hh=> ?_) (fun h131 hh=> ?_))))))))))))))
     ·refine TC.a (TL.s z z (TL.i z z (TL.s z z (TL.i z z ?_))))
      have u45:=grd_c hh
      replace hh:=grd_t hh
      refine TL.w z (elVw hv113 (by omega) (indexN z underlying35 sz9 z z hv113.sl (by omega))) (TL.w z (loadO1 ([]:List UInt8) z ag9 z (q:=0) z eSl_ (by omega) z) ?_)
      have u47:=grd_c hh
      replace hh:=grd_t hh
      refine TL.isSl (i:=0) z (fun hs132 _ _=> ?_)
      refine TL.w z (indexN z underlying35 sz9 z z hs132 (by omega)) ?_
      have hn133:(l122.set k124 (nth l122 (k105+k125) ([]:List UInt8))).length=x0.length:=by rw [List.length_set];exact hn123
      refine TL.op z (storeS (nth l122 (k105+k125) ([]:List UInt8)) z sz9 z z z z eSl_ eSo_ (by omega) (by omega) ?_)
      exact TL.en (TC.region (TL.i z z (TL.w z (OpVal.succ z z z (by omega)) (TL.i z z (TL.nil (B.n (S.n (cf (((l122.set k124 (nth l122 (k105+k125) ([]:List UInt8))),(k124+1)),()) ⟨hh,hn133⟩ (Sub.pre 1 z)))))))))
     exact TC.skip (B.n (S.n (cf ((l122,k124),()) ⟨hh,hn123⟩ (Sub.pre 1 z))))
    skip
    obtain ⟨⟨l128,k130⟩,_⟩:=g
    obtain ⟨hh,hn129⟩:=hg
    try dsimp only at hn129 ⊢
    dsimp only [Ge_]at hh
    have hn129b:=hn129
    refine TC.isSl (i:=0) z (fun _ hb134 _=> ?_)
    refine TC.region (TL.i z z (TL.w z (OpVal.succ z z z (by omega)) (TL.i z z (TL.en ?_))))
    obtain ⟨hh,hlt135⟩:=nxt_x hR2 hh
    exact lf ((l128,k130,(k125+1)),()) hlt135 ⟨hh,hn129⟩ (Sub.pre 1 z)
   refine TC.exit (S.x (S.x ?_))
   replace hh:=fin_x hR2 hh
   refine TC.exitHere (S.n (TC.a (TL.s z z (TL.i z z ?_))))
   have u57:=grd_c hh
   replace hh:=grd_t hh
   refine TL.isSl (i:=0) z (fun hs136 _ _=> ?_)
   rw [hn123]at hs136
   obtain ⟨a136,c136,hv136,ho136⟩:=vw_of (k:=k124) (size:=1) hs136 (by omega)
   refine TL.w z (ho136 z underlying35 sz9 z z) ?_
   have hn137:(l122.take k124++List.replicate (l122.length - k124) ([]:List UInt8)).length=x0.length:=by simp only [List.length_append,List.length_take,List.length_replicate];try simp only [List.length_replicate]at *;omega
   refine TL.op z (clearV (k:=k124) ([]:List UInt8) z underlying35 ze9 z z hv136 (by omega) (by omega) eSl_ (by decide) z eSo_ ?_)
   refine TL.en (TC.a (TL.s z z (TL.i z z ?_)))
   rw [←hn137]
   have u61:=grd_c hh
   replace hh:=grd_t hh
   refine TL.op z (cutS z underlying35 sz9 z z z z z (by omega) eSl_ ?_)
   refine TL.s z z (TL.en (TC.ret (B.r (S.r (S.r ?_)))))
   replace hh:=fin_x hR1 hh
   refine B.r (S.r ?_)
   obtain rfl:=so hh
   exact ro [Res.rowS 9 1 eS_ (.slice a0_1 ((l122.take k124++List.replicate (l122.length - k124) ([]:List UInt8)).take k124).length c0_2) ((l122.take k124++List.replicate (l122.length - k124) ([]:List UInt8)).take k124)] z (RVs.tmp z RVs.nil) ⟨a0_1,c0_2,z,z,z⟩
  refine TC.skip (B.n (S.n (TC.region (TL.i z z (TL.w z (OpVal.succ z z z (by omega)) (TL.i z z (TL.en ?_)))))))
  obtain ⟨hh,hlt138⟩:=nxt_x hR1 hh
  exact lf ((k105+1),()) hlt138 hh (Sub.pre 1 z)
 refine TC.exit (S.x (S.x ?_))
 replace hh:=fin_x hR1 hh
 refine TC.exitHere (S.n (TC.a (TL.s z z (TL.s z z (TL.en (TC.ret ?_))))))
 obtain rfl:=so hh
 exact ro [Res.rowS 9 1 eS_ (.slice a0_1 x0.length c0_2) x0] z (RVs.tmp z RVs.nil) ⟨a0_1,c0_2,z,z,z⟩
theorem J4_{a:Option Addr}{c:Nat}{l:List Tip}(hl:RS σ 2 encTip (.slice a l.length c) l)(hsz:l.length * 24≤140737488355328):
  Con Tryz.prog 104 #[.slice a l.length c] σ [] (RowP 62 2 encTip l σ):=by
 have hb:=hl.rv.big
 refine Con.mk (n:=8) Tryz.func104 z z z (fun w0=> ?_)
 refine TC.a (TL.s z z (TL.nilS 62 2 encTip (TL.en (TC.seq (TC.a (TL.s z z (TL.w z (eqlNilSl z underlying22 z z) (TL.en (TC.cond z (fun h2=> ?_) (fun h2=> ?_))))))))))
 ·refine TC.a (TL.s z z (TL.nilS 62 2 encTip (TL.en (TC.ret (S.r ?_)))))
  cases a with
  |some _=>simp at h2
  |none=>
   obtain rfl:=hl.none_nil
   exact ret1R z z
 refine TC.skip (S.n (TC.a (TL.op z (lit0 (enc:=encTip) z z underlying22 sz62 z z (fun a4 c5=> ?_)))))
 refine TL.s z z (TL.op z (appendS z z underlying22 sz62 by62 ze62 z z (by decide) z z z (.inl hl) (by simpa using hsz) (by decide) (fun a7 c8=> ?_)))
 exact TL.s z z (TL.en (TC.ret (ret1R z z)))
def F9_(k125:Nat)(l128:List Tip)(k130:Nat):Option (((List Tip)×Nat×Nat)⊕((Nat)⊕((List Tip)))):=
 nxt (l128,k130,(k125+1))
def Gc_(x0:List Tip)(k105:Nat)(l122:List Tip)(k124:Nat)(k125:Nat):Option (((List Tip)×Nat×Nat)⊕((Nat)⊕((List Tip)))):=
 iteO (decide (((k125:Nat):Int)<(((x0.length - k105):Nat):Int))) (grd (k125<(x0.length - k105)) (grd (0≤(IntKind.i64.wrap (((k125:Nat):Int) - 1))∧(IntKind.i64.wrap (((k125:Nat):Int) - 1))<((x0.length - k105):Nat)) (iteO (decide (¬ ((nth l122 (k105+k125) Tip.zero)=(nth l122 (k105+(IntKind.i64.wrap (((k125:Nat):Int) - 1)).toNat) Tip.zero)))) (grd (k125<(x0.length - k105)) (grd (k124<l122.length) (F9_ k125 (l122.set k124 (nth l122 (k105+k125) Tip.zero)) (k124+1)))) (F9_ k125 l122 k124)))) (fin (grd (k124≤x0.length) (grd (k124≤(l122.take k124++List.replicate (l122.length - k124) Tip.zero).length) (fin (some ((l122.take k124++List.replicate (l122.length - k124) Tip.zero).take k124))))))
def Gk_(x0:List Tip)(k105:Nat):Option ((Nat)⊕((List Tip))):=
 iteO (decide (((k105:Nat):Int)<((x0.length:Nat):Int))) (grd (0≤(IntKind.i64.wrap (((k105:Nat):Int) - 1))∧(IntKind.i64.wrap (((k105:Nat):Int) - 1))<(x0.length:Int)) (iteO (decide ((nth x0 k105 Tip.zero)=(nth x0 ((IntKind.i64.wrap (((k105:Nat):Int) - 1)).toNat) Tip.zero))) (grd (k105≤x0.length) (iter (fun q:(List Tip)×Nat×Nat=>Gc_ x0 k105 q.1 q.2.1 q.2.2) (x0,k105,1))) (nxt (k105+1)))) (fin (some x0))
def compactT(x0:List Tip):Option ((List Tip)):=
 iteO (decide (((x0.length:Nat):Int)<2)) (some x0) (iter (fun q:Nat=>Gk_ x0 q) 1)
theorem Ji_{x0:List Tip}{r:(List Tip)}(hh:compactT x0=some r):
  Con Tryz.prog 106 #[.slice a0_1 x0.length c0_2] σ [Res.rowS 62 2 encTip (.slice a0_1 x0.length c0_2) x0] (fun v σ' H'=> ∃a1 c1,v= .slice a1 r.length c1∧σ=σ'∧H'=[Res.rowS 62 2 encTip (.slice a1 r.length c1) r]):=by
 dsimp only [compactT]at hh
 refine Con.mk (n:=61) Tryz.func106 z z z (fun w0=> ?_)
 refine TC.a (TL.s z z (TL.en (TC.seq (TC.a (TL.s z z (TL.w z (lenC z underlying22 z) (TL.w z (OpVal.lss z z z) (TL.en (TC.cD z hh (fun h102 hh=> ?_) (fun h102 hh=> ?_))))))))))
 ·refine TC.a (TL.s z z (TL.s z z (TL.en (TC.ret (S.r ?_)))))
  obtain rfl:=so hh
  exact ro [Res.rowS 62 2 encTip (.slice a0_1 x0.length c0_2) x0] z (RVs.tmp z RVs.nil) ⟨a0_1,c0_2,z,z,z⟩
 refine TC.skip (S.n (TC.seq (TC.a (TL.i z z (TL.en (TC.block (TC.loopG (α:=(Nat)×(Unit)) (rgs [(2,4),(10,50)]) (fun g=>[(3,.int .i64 ((g.1:Nat):Int))]) (fun g=>[Res.rowS 62 2 encTip (.slice a0_1 x0.length c0_2) x0]) (fun g=>σ) (fun g=>iter (fun q:Nat=>Gk_ x0 q) g.1=some r) (fun g=>rounds (fun q:Nat=>Gk_ x0 q) g.1) (1,()) (Sub.pre 1 z) z (by repeat (first|exact trivial|refine ⟨z,?_⟩)) hh (fun g1 j1 hg1=> ?_))))))))
 obtain ⟨k105,_⟩:=g1
 have hh:=hg1;clear hg1
 try dsimp only
 obtain ⟨z1,hh,hR1⟩:=iter_e hh
 dsimp only [Gk_]at hh
 refine TC.isSl (i:=0) z (fun _ hb106 _=> ?_)
 refine TC.seq (TC.a (TL.i z z (TL.s z z (TL.w z (lenC z underlying22 z) (TL.w z (OpVal.lss z z z) (TL.en (TC.cD z hh (fun h107 hh=> ?_) (fun h107 hh=> ?_))))))))
 ·refine TC.skip (S.n (TC.seq (TC.block (TC.seq ?_))))
  have u19:=grd_c hh
  replace hh:=grd_t hh
  refine TC.draw [] (by kernel_rfl) (TA.a 0 z (moveSl (.inl z) z) z (TA.a 1 z (moveI (.inl z) z) z (TA.isSl (i:=0) z (fun hs110 _ _=> ?_))))
  refine TA.b 2 z (indexN z underlying22 sz62 z z hs110 (by omega)) z (TA.b 3 z (loadOA Tip.zero z ag62 sz62 z (q:=0) z encTip_len (by omega) (by omega)) z (TA.a 4 z (moveSl (.inl z) z) z (TA.a 5 z (moveI (.inl z) z) z (TA.a 6 z (subW z z z) z (TA.isSl (i:=0) z (fun hs111 _ _=> ?_))))))
  refine TA.b 7 z (OpVal.index z underlying22 sz62 z z hs111 u19.1 u19.2) z (TA.b 8 z (loadOA Tip.zero z ag62 sz62 z (q:=0) z encTip_len (by omega) (by omega)) z (TA.a 9 z (eqlSt (p:=(nth x0 k105 Tip.zero)=(nth x0 ((IntKind.i64.wrap (((k105:Nat):Int) - 1)).toNat) Tip.zero)) z z z eg62 (es62 (nth x0 k105 Tip.zero) (nth x0 ((IntKind.i64.wrap (((k105:Nat):Int) - 1)).toNat) Tip.zero)) z) z (TA.dn (S.n (TC.cD z hh (fun h112 hh=> ?_) (fun h112 hh=> ?_))))))
  ·refine TC.a (TL.s z z (TL.i z z ?_))
   have u24:=grd_c hh
   replace hh:=grd_t hh
   refine TL.isSl (i:=0) z (fun hs113 _ _=> ?_)
   obtain ⟨a113,c113,hv113,ho113⟩:=vw_of (k:=k105) (size:=2) hs113 (by omega)
   refine TL.w z (ho113 z underlying22 sz62 z z) (TL.s z z (TL.en (TC.seq (TC.a (TL.i z z (TL.en (TC.block (TC.loopG (α:=((List Tip)×Nat×Nat)×(Unit)) (rgs [(3,1),(5,1),(29,25)]) (fun g=>[(3,.int .i64 ((g.1.2.1:Nat):Int)),(5,.int .i64 ((g.1.2.2:Nat):Int))]) (fun g=>[Res.rowS 62 2 encTip (.slice a0_1 x0.length c0_2) g.1.1]) (fun g=>σ) (fun g=>iter (fun q:(List Tip)×Nat×Nat=>Gc_ x0 k105 q.1 q.2.1 q.2.2) g.1=some z1∧g.1.1.length=x0.length) (fun g=>rounds (fun q:(List Tip)×Nat×Nat=>Gc_ x0 k105 q.1 q.2.1 q.2.2) g.1) ((x0,k105,1),()) (Sub.pre 1 z) z (by repeat (first|exact trivial|refine ⟨z,?_⟩)) ⟨hh,z⟩ (fun g2 j2 hg2=> ?_)))))))))
   obtain ⟨⟨l122,k124,k125⟩,_⟩:=g2
   obtain ⟨hh,hn123⟩:=hg2
   try dsimp only at hn123 ⊢
   obtain ⟨z2,hh,hR2⟩:=iter_e hh
   dsimp only [Gc_]at hh
   have hn123b:=hn123
   refine TC.isSl (i:=0) z (fun _ hb126 _=> ?_)
   refine TC.seq (TC.a (TL.i z z (TL.s z z (TL.w z (lenC z underlying22 z) (TL.w z (OpVal.lss z z z) (TL.en (TC.cD z hh (fun h127 hh=> ?_) (fun h127 hh=> ?_))))))))
   ·refine TC.skip (S.n (TC.cutG (α:=((List Tip)×Nat)×(Unit)) (rgs [(3,1),(35,19)]) (fun g=>[(3,.int .i64 ((g.1.2:Nat):Int))]) (fun g=>[Res.rowS 62 2 encTip (.slice a0_1 x0.length c0_2) g.1.1]) (fun g=>σ) (fun g=>F9_ k125 g.1.1 g.1.2=some z2∧g.1.1.length=x0.length) ?_ (fun g j hg=> ?_)))
    ·skip
     refine TC.block (TC.seq ?_)
     have u33:=grd_c hh
     replace hh:=grd_t hh
     have u38:=grd_c hh
     replace hh:=grd_t hh
     refine TC.draw [] (by kernel_rfl) (TA.a 0 z (moveSl (.inl z) z) z (TA.a 1 z (moveI (.inl z) z) z (TA.b 2 z (elVw hv113 (by omega) (indexN z underlying22 sz62 z z hv113.sl (by omega))) z (TA.b 3 z (loadOA Tip.zero z ag62 sz62 z (q:=0) z encTip_len (by omega) (by omega)) z (TA.a 4 z (moveSl (.inl z) z) z (TA.a 5 z (moveI (.inl z) z) z (TA.a 6 z (subW z z z) z (TA.b 7 z (elVw hv113 (by omega) (OpVal.index z underlying22 sz62 z z hv113.sl u38.1 u38.2)) z (TA.b 8 z (loadOA Tip.zero z ag62 sz62 z (q:=0) z encTip_len (by omega) (by omega)) z (TA.a 9 z (neqSt (p:=(nth l122 (k105+k125) Tip.zero)=(nth l122 (k105+(IntKind.i64.wrap (((k125:Nat):Int) - 1)).toNat) Tip.zero)) z z z eg62 (es62 (nth l122 (k105+k125) Tip.zero) (nth l122 (k105+(IntKind.i64.wrap (((k125:Nat):Int) - 1)).toNat) Tip.zero)) z) z (TA.dn (S.n (TC.cD z hh (fun h131 hh=> ?_) (fun h131 hh=> ?_))))))))))))))
     ·refine TC.a (TL.s z z (TL.i z z (TL.s z z (TL.i z z ?_))))
      have u45:=grd_c hh
      replace hh:=grd_t hh
      refine TL.w z (elVw hv113 (by omega) (indexN z underlying22 sz62 z z hv113.sl (by omega))) (TL.w z (loadOA Tip.zero z ag62 sz62 z (q:=0) z encTip_len (by omega) (by omega)) ?_)
      have u47:=grd_c hh
      replace hh:=grd_t hh
      refine TL.isSl (i:=0) z (fun hs132 _ _=> ?_)
      refine TL.w z (indexN z underlying22 sz62 z z hs132 (by omega)) ?_
      have hn133:(l122.set k124 (nth l122 (k105+k125) Tip.zero)).length=x0.length:=by rw [List.length_set];exact hn123
      refine TL.op z (storeS (nth l122 (k105+k125) Tip.zero) z sz62 z z z z encTip_len encTip_one (by omega) (by omega) ?_)
      exact TL.en (TC.region (TL.i z z (TL.w z (OpVal.succ z z z (by omega)) (TL.i z z (TL.nil (B.n (S.n (cf (((l122.set k124 (nth l122 (k105+k125) Tip.zero)),(k124+1)),()) ⟨hh,hn133⟩ (Sub.pre 1 z)))))))))
     exact TC.skip (B.n (S.n (cf ((l122,k124),()) ⟨hh,hn123⟩ (Sub.pre 1 z))))
    skip
    obtain ⟨⟨l128,k130⟩,_⟩:=g
    obtain ⟨hh,hn129⟩:=hg
    try dsimp only at hn129 ⊢
    dsimp only [F9_]at hh
    have hn129b:=hn129
    refine TC.isSl (i:=0) z (fun _ hb134 _=> ?_)
    refine TC.region (TL.i z z (TL.w z (OpVal.succ z z z (by omega)) (TL.i z z (TL.en ?_))))
    obtain ⟨hh,hlt135⟩:=nxt_x hR2 hh
    exact lf ((l128,k130,(k125+1)),()) hlt135 ⟨hh,hn129⟩ (Sub.pre 1 z)
   refine TC.exit (S.x (S.x ?_))
   replace hh:=fin_x hR2 hh
   refine TC.exitHere (S.n (TC.a (TL.s z z (TL.i z z ?_))))
   have u57:=grd_c hh
   replace hh:=grd_t hh
   refine TL.isSl (i:=0) z (fun hs136 _ _=> ?_)
   rw [hn123]at hs136
   obtain ⟨a136,c136,hv136,ho136⟩:=vw_of (k:=k124) (size:=2) hs136 (by omega)
   refine TL.w z (ho136 z underlying22 sz62 z z) ?_
   have hn137:(l122.take k124++List.replicate (l122.length - k124) Tip.zero).length=x0.length:=by simp only [List.length_append,List.length_take,List.length_replicate];try simp only [List.length_replicate]at *;omega
   refine TL.op z (clearV (k:=k124) Tip.zero z underlying22 ze62 z z hv136 (by omega) (by omega) encTip_len (by decide) z encTip_one ?_)
   refine TL.en (TC.a (TL.s z z (TL.i z z ?_)))
   rw [←hn137]
   have u61:=grd_c hh
   replace hh:=grd_t hh
   refine TL.op z (cutS z underlying22 sz62 z z z z z (by omega) encTip_len ?_)
   refine TL.s z z (TL.en (TC.ret (B.r (S.r (S.r ?_)))))
   replace hh:=fin_x hR1 hh
   refine B.r (S.r ?_)
   obtain rfl:=so hh
   exact ro [Res.rowS 62 2 encTip (.slice a0_1 ((l122.take k124++List.replicate (l122.length - k124) Tip.zero).take k124).length c0_2) ((l122.take k124++List.replicate (l122.length - k124) Tip.zero).take k124)] z (RVs.tmp z RVs.nil) ⟨a0_1,c0_2,z,z,z⟩
  refine TC.skip (B.n (S.n (TC.region (TL.i z z (TL.w z (OpVal.succ z z z (by omega)) (TL.i z z (TL.en ?_)))))))
  obtain ⟨hh,hlt138⟩:=nxt_x hR1 hh
  exact lf ((k105+1),()) hlt138 hh (Sub.pre 1 z)
 refine TC.exit (S.x (S.x ?_))
 replace hh:=fin_x hR1 hh
 refine TC.exitHere (S.n (TC.a (TL.s z z (TL.s z z (TL.en (TC.ret ?_))))))
 obtain rfl:=so hh
 exact ro [Res.rowS 62 2 encTip (.slice a0_1 x0.length c0_2) x0] z (RVs.tmp z RVs.nil) ⟨a0_1,c0_2,z,z,z⟩
theorem J5_{a:Option Addr}{c:Nat}{l:List Arc}(hl:RS σ 8 encArc (.slice a l.length c) l)(hsz:l.length * 72≤140737488355328):
  Con Tryz.prog 108 #[.slice a l.length c] σ [] (RowP 59 8 encArc l σ):=by
 have hb:=hl.rv.big
 refine Con.mk (n:=8) Tryz.func108 z z z (fun w0=> ?_)
 refine TC.a (TL.s z z (TL.nilS 59 8 encArc (TL.en (TC.seq (TC.a (TL.s z z (TL.w z (eqlNilSl z underlying23 z z) (TL.en (TC.cond z (fun h2=> ?_) (fun h2=> ?_))))))))))
 ·refine TC.a (TL.s z z (TL.nilS 59 8 encArc (TL.en (TC.ret (S.r ?_)))))
  cases a with
  |some _=>simp at h2
  |none=>
   obtain rfl:=hl.none_nil
   exact ret1R z z
 refine TC.skip (S.n (TC.a (TL.op z (lit0 (enc:=encArc) z z underlying23 sz59 z z (fun a4 c5=> ?_)))))
 refine TL.s z z (TL.op z (appendS z z underlying23 sz59 by59 ze59 z z (by decide) z z z (.inl hl) (by simpa using hsz) (by decide) (fun a7 c8=> ?_)))
 exact TL.s z z (TL.en (TC.ret (ret1R z z)))
def Gl_(k125:Nat)(l128:List Arc)(k130:Nat):Option (((List Arc)×Nat×Nat)⊕((Nat)⊕((List Arc)))):=
 nxt (l128,k130,(k125+1))
def Gj_(x0:List Arc)(k105:Nat)(l122:List Arc)(k124:Nat)(k125:Nat):Option (((List Arc)×Nat×Nat)⊕((Nat)⊕((List Arc)))):=
 iteO (decide (((k125:Nat):Int)<(((x0.length - k105):Nat):Int))) (grd (k125<(x0.length - k105)) (grd (0≤(IntKind.i64.wrap (((k125:Nat):Int) - 1))∧(IntKind.i64.wrap (((k125:Nat):Int) - 1))<((x0.length - k105):Nat)) (iteO (decide (¬ ((nth l122 (k105+k125) Arc.zero)=(nth l122 (k105+(IntKind.i64.wrap (((k125:Nat):Int) - 1)).toNat) Arc.zero)))) (grd (k125<(x0.length - k105)) (grd (k124<l122.length) (Gl_ k125 (l122.set k124 (nth l122 (k105+k125) Arc.zero)) (k124+1)))) (Gl_ k125 l122 k124)))) (fin (grd (k124≤x0.length) (grd (k124≤(l122.take k124++List.replicate (l122.length - k124) Arc.zero).length) (fin (some ((l122.take k124++List.replicate (l122.length - k124) Arc.zero).take k124))))))
def Gh_(x0:List Arc)(k105:Nat):Option ((Nat)⊕((List Arc))):=
 iteO (decide (((k105:Nat):Int)<((x0.length:Nat):Int))) (grd (0≤(IntKind.i64.wrap (((k105:Nat):Int) - 1))∧(IntKind.i64.wrap (((k105:Nat):Int) - 1))<(x0.length:Int)) (iteO (decide ((nth x0 k105 Arc.zero)=(nth x0 ((IntKind.i64.wrap (((k105:Nat):Int) - 1)).toNat) Arc.zero))) (grd (k105≤x0.length) (iter (fun q:(List Arc)×Nat×Nat=>Gj_ x0 k105 q.1 q.2.1 q.2.2) (x0,k105,1))) (nxt (k105+1)))) (fin (some x0))
def compactA(x0:List Arc):Option ((List Arc)):=
 iteO (decide (((x0.length:Nat):Int)<2)) (some x0) (iter (fun q:Nat=>Gh_ x0 q) 1)
theorem Jd_{x0:List Arc}{r:(List Arc)}(hh:compactA x0=some r):
  Con Tryz.prog 110 #[.slice a0_1 x0.length c0_2] σ [Res.rowS 59 8 encArc (.slice a0_1 x0.length c0_2) x0] (fun v σ' H'=> ∃a1 c1,v= .slice a1 r.length c1∧σ=σ'∧H'=[Res.rowS 59 8 encArc (.slice a1 r.length c1) r]):=by
 dsimp only [compactA]at hh
 refine Con.mk (n:=61) Tryz.func110 z z z (fun w0=> ?_)
 refine TC.a (TL.s z z (TL.en (TC.seq (TC.a (TL.s z z (TL.w z (lenC z underlying23 z) (TL.w z (OpVal.lss z z z) (TL.en (TC.cD z hh (fun h102 hh=> ?_) (fun h102 hh=> ?_))))))))))
 ·refine TC.a (TL.s z z (TL.s z z (TL.en (TC.ret (S.r ?_)))))
  obtain rfl:=so hh
  exact ro [Res.rowS 59 8 encArc (.slice a0_1 x0.length c0_2) x0] z (RVs.tmp z RVs.nil) ⟨a0_1,c0_2,z,z,z⟩
 refine TC.skip (S.n (TC.seq (TC.a (TL.i z z (TL.en (TC.block (TC.loopG (α:=(Nat)×(Unit)) (rgs [(2,4),(10,50)]) (fun g=>[(3,.int .i64 ((g.1:Nat):Int))]) (fun g=>[Res.rowS 59 8 encArc (.slice a0_1 x0.length c0_2) x0]) (fun g=>σ) (fun g=>iter (fun q:Nat=>Gh_ x0 q) g.1=some r) (fun g=>rounds (fun q:Nat=>Gh_ x0 q) g.1) (1,()) (Sub.pre 1 z) z (by repeat (first|exact trivial|refine ⟨z,?_⟩)) hh (fun g1 j1 hg1=> ?_))))))))
 obtain ⟨k105,_⟩:=g1
 have hh:=hg1;clear hg1
 try dsimp only
 obtain ⟨z1,hh,hR1⟩:=iter_e hh
 dsimp only [Gh_]at hh
 refine TC.isSl (i:=0) z (fun _ hb106 _=> ?_)
 refine TC.seq (TC.a (TL.i z z (TL.s z z (TL.w z (lenC z underlying23 z) (TL.w z (OpVal.lss z z z) (TL.en (TC.cD z hh (fun h107 hh=> ?_) (fun h107 hh=> ?_))))))))
 ·refine TC.skip (S.n (TC.seq (TC.block (TC.seq ?_))))
  have u19:=grd_c hh
  replace hh:=grd_t hh
  refine TC.draw [] (by kernel_rfl) (TA.a 0 z (moveSl (.inl z) z) z (TA.a 1 z (moveI (.inl z) z) z (TA.isSl (i:=0) z (fun hs110 _ _=> ?_))))
  refine TA.b 2 z (indexN z underlying23 sz59 z z hs110 (by omega)) z (TA.b 3 z (loadOA Arc.zero z ag59 sz59 z (q:=0) z encArc_len (by omega) (by omega)) z (TA.a 4 z (moveSl (.inl z) z) z (TA.a 5 z (moveI (.inl z) z) z (TA.a 6 z (subW z z z) z (TA.isSl (i:=0) z (fun hs111 _ _=> ?_))))))
  refine TA.b 7 z (OpVal.index z underlying23 sz59 z z hs111 u19.1 u19.2) z (TA.b 8 z (loadOA Arc.zero z ag59 sz59 z (q:=0) z encArc_len (by omega) (by omega)) z (TA.a 9 z (eqlSt (p:=(nth x0 k105 Arc.zero)=(nth x0 ((IntKind.i64.wrap (((k105:Nat):Int) - 1)).toNat) Arc.zero)) z z z eg59 (es59 (nth x0 k105 Arc.zero) (nth x0 ((IntKind.i64.wrap (((k105:Nat):Int) - 1)).toNat) Arc.zero)) z) z (TA.dn (S.n (TC.cD z hh (fun h112 hh=> ?_) (fun h112 hh=> ?_))))))
  ·refine TC.a (TL.s z z (TL.i z z ?_))
   have u24:=grd_c hh
   replace hh:=grd_t hh
   refine TL.isSl (i:=0) z (fun hs113 _ _=> ?_)
   obtain ⟨a113,c113,hv113,ho113⟩:=vw_of (k:=k105) (size:=8) hs113 (by omega)
   refine TL.w z (ho113 z underlying23 sz59 z z) (TL.s z z (TL.en (TC.seq (TC.a (TL.i z z (TL.en (TC.block (TC.loopG (α:=((List Arc)×Nat×Nat)×(Unit)) (rgs [(3,1),(5,1),(29,25)]) (fun g=>[(3,.int .i64 ((g.1.2.1:Nat):Int)),(5,.int .i64 ((g.1.2.2:Nat):Int))]) (fun g=>[Res.rowS 59 8 encArc (.slice a0_1 x0.length c0_2) g.1.1]) (fun g=>σ) (fun g=>iter (fun q:(List Arc)×Nat×Nat=>Gj_ x0 k105 q.1 q.2.1 q.2.2) g.1=some z1∧g.1.1.length=x0.length) (fun g=>rounds (fun q:(List Arc)×Nat×Nat=>Gj_ x0 k105 q.1 q.2.1 q.2.2) g.1) ((x0,k105,1),()) (Sub.pre 1 z) z (by repeat (first|exact trivial|refine ⟨z,?_⟩)) ⟨hh,z⟩ (fun g2 j2 hg2=> ?_)))))))))
   obtain ⟨⟨l122,k124,k125⟩,_⟩:=g2
   obtain ⟨hh,hn123⟩:=hg2
   try dsimp only at hn123 ⊢
   obtain ⟨z2,hh,hR2⟩:=iter_e hh
   dsimp only [Gj_]at hh
   have hn123b:=hn123
   refine TC.isSl (i:=0) z (fun _ hb126 _=> ?_)
   refine TC.seq (TC.a (TL.i z z (TL.s z z (TL.w z (lenC z underlying23 z) (TL.w z (OpVal.lss z z z) (TL.en (TC.cD z hh (fun h127 hh=> ?_) (fun h127 hh=> ?_))))))))
   ·refine TC.skip (S.n (TC.cutG (α:=((List Arc)×Nat)×(Unit)) (rgs [(3,1),(35,19)]) (fun g=>[(3,.int .i64 ((g.1.2:Nat):Int))]) (fun g=>[Res.rowS 59 8 encArc (.slice a0_1 x0.length c0_2) g.1.1]) (fun g=>σ) (fun g=>Gl_ k125 g.1.1 g.1.2=some z2∧g.1.1.length=x0.length) ?_ (fun g j hg=> ?_)))
    ·skip
     refine TC.block (TC.seq ?_)
     have u33:=grd_c hh
     replace hh:=grd_t hh
     have u38:=grd_c hh
     replace hh:=grd_t hh
     refine TC.draw [] (by kernel_rfl) (TA.a 0 z (moveSl (.inl z) z) z (TA.a 1 z (moveI (.inl z) z) z (TA.b 2 z (elVw hv113 (by omega) (indexN z underlying23 sz59 z z hv113.sl (by omega))) z (TA.b 3 z (loadOA Arc.zero z ag59 sz59 z (q:=0) z encArc_len (by omega) (by omega)) z (TA.a 4 z (moveSl (.inl z) z) z (TA.a 5 z (moveI (.inl z) z) z (TA.a 6 z (subW z z z) z (TA.b 7 z (elVw hv113 (by omega) (OpVal.index z underlying23 sz59 z z hv113.sl u38.1 u38.2)) z (TA.b 8 z (loadOA Arc.zero z ag59 sz59 z (q:=0) z encArc_len (by omega) (by omega)) z (TA.a 9 z (neqSt (p:=(nth l122 (k105+k125) Arc.zero)=(nth l122 (k105+(IntKind.i64.wrap (((k125:Nat):Int) - 1)).toNat) Arc.zero)) z z z eg59 (es59 (nth l122 (k105+k125) Arc.zero) (nth l122 (k105+(IntKind.i64.wrap (((k125:Nat):Int) - 1)).toNat) Arc.zero)) z) z (TA.dn (S.n (TC.cD z hh (fun h131 hh=> ?_) (fun h131 hh=> ?_))))))))))))))
     ·refine TC.a (TL.s z z (TL.i z z (TL.s z z (TL.i z z ?_))))
      have u45:=grd_c hh
      replace hh:=grd_t hh
      refine TL.w z (elVw hv113 (by omega) (indexN z underlying23 sz59 z z hv113.sl (by omega))) (TL.w z (loadOA Arc.zero z ag59 sz59 z (q:=0) z encArc_len (by omega) (by omega)) ?_)
      have u47:=grd_c hh
      replace hh:=grd_t hh
      refine TL.isSl (i:=0) z (fun hs132 _ _=> ?_)
      refine TL.w z (indexN z underlying23 sz59 z z hs132 (by omega)) ?_
      have hn133:(l122.set k124 (nth l122 (k105+k125) Arc.zero)).length=x0.length:=by rw [List.length_set];exact hn123
      refine TL.op z (storeS (nth l122 (k105+k125) Arc.zero) z sz59 z z z z encArc_len encArc_one (by omega) (by omega) ?_)
      exact TL.en (TC.region (TL.i z z (TL.w z (OpVal.succ z z z (by omega)) (TL.i z z (TL.nil (B.n (S.n (cf (((l122.set k124 (nth l122 (k105+k125) Arc.zero)),(k124+1)),()) ⟨hh,hn133⟩ (Sub.pre 1 z)))))))))
     exact TC.skip (B.n (S.n (cf ((l122,k124),()) ⟨hh,hn123⟩ (Sub.pre 1 z))))
    skip
    obtain ⟨⟨l128,k130⟩,_⟩:=g
    obtain ⟨hh,hn129⟩:=hg
    try dsimp only at hn129 ⊢
    dsimp only [Gl_]at hh
    have hn129b:=hn129
    refine TC.isSl (i:=0) z (fun _ hb134 _=> ?_)
    refine TC.region (TL.i z z (TL.w z (OpVal.succ z z z (by omega)) (TL.i z z (TL.en ?_))))
    obtain ⟨hh,hlt135⟩:=nxt_x hR2 hh
    exact lf ((l128,k130,(k125+1)),()) hlt135 ⟨hh,hn129⟩ (Sub.pre 1 z)
   refine TC.exit (S.x (S.x ?_))
   replace hh:=fin_x hR2 hh
   refine TC.exitHere (S.n (TC.a (TL.s z z (TL.i z z ?_))))
   have u57:=grd_c hh
   replace hh:=grd_t hh
   refine TL.isSl (i:=0) z (fun hs136 _ _=> ?_)
   rw [hn123]at hs136
   obtain ⟨a136,c136,hv136,ho136⟩:=vw_of (k:=k124) (size:=8) hs136 (by omega)
   refine TL.w z (ho136 z underlying23 sz59 z z) ?_
   have hn137:(l122.take k124++List.replicate (l122.length - k124) Arc.zero).length=x0.length:=by simp only [List.length_append,List.length_take,List.length_replicate];try simp only [List.length_replicate]at *;omega
   refine TL.op z (clearV (k:=k124) Arc.zero z underlying23 ze59 z z hv136 (by omega) (by omega) encArc_len (by decide) z encArc_one ?_)
   refine TL.en (TC.a (TL.s z z (TL.i z z ?_)))
   rw [←hn137]
   have u61:=grd_c hh
   replace hh:=grd_t hh
   refine TL.op z (cutS z underlying23 sz59 z z z z z (by omega) encArc_len ?_)
   refine TL.s z z (TL.en (TC.ret (B.r (S.r (S.r ?_)))))
   replace hh:=fin_x hR1 hh
   refine B.r (S.r ?_)
   obtain rfl:=so hh
   exact ro [Res.rowS 59 8 encArc (.slice a0_1 ((l122.take k124++List.replicate (l122.length - k124) Arc.zero).take k124).length c0_2) ((l122.take k124++List.replicate (l122.length - k124) Arc.zero).take k124)] z (RVs.tmp z RVs.nil) ⟨a0_1,c0_2,z,z,z⟩
  refine TC.skip (B.n (S.n (TC.region (TL.i z z (TL.w z (OpVal.succ z z z (by omega)) (TL.i z z (TL.en ?_)))))))
  obtain ⟨hh,hlt138⟩:=nxt_x hR1 hh
  exact lf ((k105+1),()) hlt138 hh (Sub.pre 1 z)
 refine TC.exit (S.x (S.x ?_))
 replace hh:=fin_x hR1 hh
 refine TC.exitHere (S.n (TC.a (TL.s z z (TL.s z z (TL.en (TC.ret ?_))))))
 obtain rfl:=so hh
 exact ro [Res.rowS 59 8 encArc (.slice a0_1 x0.length c0_2) x0] z (RVs.tmp z RVs.nil) ⟨a0_1,c0_2,z,z,z⟩
def onceS(x0:List (List UInt8)):Option ((List (List UInt8))):=
 grd (x0.length * 16≤140737488355328) (bnd (compactS (sortL Lib.compareBytes x0)) (fun v9=>some v9))
def Kr_(σ:Store)(r:(List (List UInt8))):Value→Store→List Res→Prop:=fun v σ' H'=>
 ∃a1 c1,v= .slice a1 r.length c1∧σ=σ'∧H'=[Res.rowS 9 1 eS_ (.slice a1 r.length c1) r]
theorem Kh_{x0:List (List UInt8)}(f0_0:RS σ 1 eS_ (.slice a0_0 x0.length c0_0) x0){r:(List (List UInt8))}(hh:onceS x0=some r):
  Con Tryz.prog 18 #[.slice a0_0 x0.length c0_0,.func (.func 19) #[] #[]] σ [] (Kr_ σ r):=by
 dsimp only [onceS]at hh
 have f0_0b:=f0_0.rv.big
 refine Con.mk (n:=13) Tryz.func18 z z z (fun w0=> ?_)
 refine TC.a (TL.s z z (TL.en (TC.a (TL.s z z ?_))))
 have u3:=grd_c hh
 replace hh:=grd_t hh
 refine TL.op z (OpOk.call (Jy_ f0_0 u3) z z pf44 z z z z ?_)
 rintro _ _ _ _ ⟨⟨a101,c102,rfl⟩,rfl,rfl⟩
 refine TL.s z z (TL.en (TC.a (TL.s z z (TL.w z (moveFn (.inl z) z) ?_))))
 have hn104:(sortL Lib.compareBytes x0).length=x0.length:=List.length_mergeSort _
 refine TL.op z (OpOk.call (Ka_ (l:=x0)) z z pf45 z z z z ?_)
 rintro _ _ _ _ ⟨rfl,rfl,rfl⟩
 refine TL.en (TC.a (TL.s z z ?_))
 rw [←hn104]
 obtain ⟨v9,u9,hh⟩:=bnd_e hh
 refine TL.op z (OpOk.call (Jn_ u9) z z pf46 z z z z ?_)
 rintro _ _ _ hle105 ⟨a105_1,c105_2,rfl,rfl,rfl⟩
 refine TL.s z z (TL.en (TC.ret ?_))
 obtain rfl:=so hh
 exact ro [Res.rowS 9 1 eS_ (.slice a105_1 v9.length c105_2) v9] z (RVs.tmp z RVs.nil) ⟨a105_1,c105_2,z,z,z⟩
def onceI(x0:List Int):Option ((List Int)):=
 grd (x0.length * 8≤140737488355328) (bnd (compactI (sortL cmpI x0)) (fun v9=>some v9))
def Kq_(σ:Store)(r:(List Int)):Value→Store→List Res→Prop:=fun v σ' H'=>
 ∃a1 c1,v= .slice a1 r.length c1∧σ=σ'∧H'=[Res.rowS 3 1 eI_ (.slice a1 r.length c1) r]
theorem Kc_{x0:List Int}(f0_0:RS σ 1 eI_ (.slice a0_0 x0.length c0_0) x0){r:(List Int)}(hh:onceI x0=some r):
  Con Tryz.prog 62 #[.slice a0_0 x0.length c0_0,.func (.func 63) #[] #[]] σ [] (Kq_ σ r):=by
 dsimp only [onceI]at hh
 have f0_0b:=f0_0.rv.big
 refine Con.mk (n:=13) Tryz.func62 z z z (fun w0=> ?_)
 refine TC.a (TL.s z z (TL.en (TC.a (TL.s z z ?_))))
 have u3:=grd_c hh
 replace hh:=grd_t hh
 refine TL.op z (OpOk.call (F0_ f0_0 u3) z z pf50 z z z z ?_)
 rintro _ _ _ _ ⟨⟨a101,c102,rfl⟩,rfl,rfl⟩
 refine TL.s z z (TL.en (TC.a (TL.s z z (TL.w z (moveFn (.inl z) z) ?_))))
 have hn104:(sortL cmpI x0).length=x0.length:=List.length_mergeSort _
 refine TL.op z (OpOk.call (Ki_ (l:=x0)) z z pf89 z z z z ?_)
 rintro _ _ _ _ ⟨rfl,rfl,rfl⟩
 refine TL.en (TC.a (TL.s z z ?_))
 rw [←hn104]
 obtain ⟨v9,u9,hh⟩:=bnd_e hh
 refine TL.op z (OpOk.call (Ic_ u9) z z pf90 z z z z ?_)
 rintro _ _ _ hle105 ⟨a105_1,c105_2,rfl,rfl,rfl⟩
 refine TL.s z z (TL.en (TC.ret ?_))
 obtain rfl:=so hh
 exact ro [Res.rowS 3 1 eI_ (.slice a105_1 v9.length c105_2) v9] z (RVs.tmp z RVs.nil) ⟨a105_1,c105_2,z,z,z⟩
def onceT(x0:List Tip):Option ((List Tip)):=
 grd (x0.length * 24≤140737488355328) (bnd (compactT (sortL cmpTip x0)) (fun v9=>some v9))
def Ks_(σ:Store)(r:(List Tip)):Value→Store→List Res→Prop:=fun v σ' H'=>
 ∃a1 c1,v= .slice a1 r.length c1∧σ=σ'∧H'=[Res.rowS 62 2 encTip (.slice a1 r.length c1) r]
theorem I1_{x0:List Tip}(f0_0:RS σ 2 encTip (.slice a0_0 x0.length c0_0) x0){r:(List Tip)}(hh:onceT x0=some r):
  Con Tryz.prog 82 #[.slice a0_0 x0.length c0_0,.func (.func 83) #[] #[]] σ [] (Ks_ σ r):=by
 dsimp only [onceT]at hh
 have f0_0b:=f0_0.rv.big
 refine Con.mk (n:=13) Tryz.func82 z z z (fun w0=> ?_)
 refine TC.a (TL.s z z (TL.en (TC.a (TL.s z z ?_))))
 have u3:=grd_c hh
 replace hh:=grd_t hh
 refine TL.op z (OpOk.call (J4_ f0_0 u3) z z pf104 z z z z ?_)
 rintro _ _ _ _ ⟨⟨a101,c102,rfl⟩,rfl,rfl⟩
 refine TL.s z z (TL.en (TC.a (TL.s z z (TL.w z (moveFn (.inl z) z) ?_))))
 have hn104:(sortL cmpTip x0).length=x0.length:=List.length_mergeSort _
 refine TL.op z (OpOk.call (Ke_ (l:=x0)) z z pf105 z z z z ?_)
 rintro _ _ _ _ ⟨rfl,rfl,rfl⟩
 refine TL.en (TC.a (TL.s z z ?_))
 rw [←hn104]
 obtain ⟨v9,u9,hh⟩:=bnd_e hh
 refine TL.op z (OpOk.call (Ji_ u9) z z pf106 z z z z ?_)
 rintro _ _ _ hle105 ⟨a105_1,c105_2,rfl,rfl,rfl⟩
 refine TL.s z z (TL.en (TC.ret ?_))
 obtain rfl:=so hh
 exact ro [Res.rowS 62 2 encTip (.slice a105_1 v9.length c105_2) v9] z (RVs.tmp z RVs.nil) ⟨a105_1,c105_2,z,z,z⟩
def onceA(x0:List Arc):Option ((List Arc)):=
 grd (x0.length * 72≤140737488355328) (bnd (compactA (sortL cmpArc x0)) (fun v9=>some v9))
def Kt_(σ:Store)(r:(List Arc)):Value→Store→List Res→Prop:=fun v σ' H'=>
 ∃a1 c1,v= .slice a1 r.length c1∧σ=σ'∧H'=[Res.rowS 59 8 encArc (.slice a1 r.length c1) r]
theorem Kb_{x0:List Arc}(f0_0:RS σ 8 encArc (.slice a0_0 x0.length c0_0) x0){r:(List Arc)}(hh:onceA x0=some r):
  Con Tryz.prog 84 #[.slice a0_0 x0.length c0_0,.func (.func 85) #[] #[]] σ [] (Kt_ σ r):=by
 dsimp only [onceA]at hh
 have f0_0b:=f0_0.rv.big
 refine Con.mk (n:=13) Tryz.func84 z z z (fun w0=> ?_)
 refine TC.a (TL.s z z (TL.en (TC.a (TL.s z z ?_))))
 have u3:=grd_c hh
 replace hh:=grd_t hh
 refine TL.op z (OpOk.call (J5_ f0_0 u3) z z pf108 z z z z ?_)
 rintro _ _ _ _ ⟨⟨a101,c102,rfl⟩,rfl,rfl⟩
 refine TL.s z z (TL.en (TC.a (TL.s z z (TL.w z (moveFn (.inl z) z) ?_))))
 have hn104:(sortL cmpArc x0).length=x0.length:=List.length_mergeSort _
 refine TL.op z (OpOk.call (Kd_ (l:=x0)) z z pf109 z z z z ?_)
 rintro _ _ _ _ ⟨rfl,rfl,rfl⟩
 refine TL.en (TC.a (TL.s z z ?_))
 rw [←hn104]
 obtain ⟨v9,u9,hh⟩:=bnd_e hh
 refine TL.op z (OpOk.call (Jd_ u9) z z pf110 z z z z ?_)
 rintro _ _ _ hle105 ⟨a105_1,c105_2,rfl,rfl,rfl⟩
 refine TL.s z z (TL.en (TC.ret ?_))
 obtain rfl:=so hh
 exact ro [Res.rowS 59 8 encArc (.slice a105_1 v9.length c105_2) v9] z (RVs.tmp z RVs.nil) ⟨a105_1,c105_2,z,z,z⟩
def Ct_(x0:List Tip)(l112:List Int)(k115:Nat):Option (((List Int)×Nat)⊕((List Int))):=
 iteO (decide (((k115:Nat):Int)<((x0.length:Nat):Int))) (grd ((l112.length+[(nth x0 k115 Tip.zero).state].length) * 8≤140737488355328) (nxt ((l112++[(nth x0 k115 Tip.zero).state]),(k115+1)))) (fin (bnd (onceI l112) (fun v20=>some v20)))
def E2_(x0:List Tip):Option ((List Int)):=
 iter (fun q:(List Int)×Nat=>Ct_ x0 q.1 q.2) (([]:List Int),0)
def Jo_(σ:Store)(r:(List Int)):Value→Store→List Res→Prop:=fun v σ' H'=>
 ∃a1 c1,v= .slice a1 r.length c1∧σ=σ'∧H'=[Res.rowS 3 1 eI_ (.slice a1 r.length c1) r]
theorem Dr_{x0:List Tip}(f0_0:RS σ 2 encTip (.slice a0_0 x0.length c0_0) x0){r:(List Int)}(hh:E2_ x0=some r):
  Con Tryz.prog 26 #[.slice a0_0 x0.length c0_0] σ [] (Jo_ σ r):=by
 dsimp only [E2_]at hh
 have f0_0b:=f0_0.rv.big
 refine Con.mk (n:=20) Tryz.func26 z z z (fun w0=> ?_)
 refine TC.a (TL.s z z (TL.en (TC.a (TL.s z z (TL.en (TC.seq (TC.a (TL.s z z (TL.w z (lenC z underlying22 z) (TL.i z z (TL.en (TC.block (TC.nilS 3 1 eI_ (TC.loopG (α:=((List Int)×Nat)×((Option Addr)×Nat)) (rgs [(3,1),(5,1),(8,10)]) (fun g=>[(3,.slice g.2.1 g.1.1.length g.2.2),(8,.int .i64 ((g.1.2:Nat):Int))]) (fun g=>[Res.rowS 3 1 eI_ (.slice g.2.1 g.1.1.length g.2.2) g.1.1]) (fun g=>σ) (fun g=>iter (fun q:(List Int)×Nat=>Ct_ x0 q.1 q.2) g.1=some r) (fun g=>rounds (fun q:(List Int)×Nat=>Ct_ x0 q.1 q.2) g.1) ((([]:List Int),0),(none,0)) (Sub.pre 1 z) z (by repeat (first|exact trivial|refine ⟨z,?_⟩)) hh (fun g1 j1 hg1=> ?_)))))))))))))))
 obtain ⟨⟨l112,k115⟩,⟨a113,c114⟩⟩:=g1
 have hh:=hg1;clear hg1
 try dsimp only
 obtain ⟨z1,hh,hR1⟩:=iter_e hh
 dsimp only [Ct_]at hh
 refine TC.isSl (i:=0) z (fun _ hb117 _=> ?_)
 refine TC.a (TL.w z (OpVal.lss z z z) (TL.en (TC.seq (TC.cD z hh (fun h118 hh=> ?_) (fun h118 hh=> ?_)))))
 ·refine TC.skip (S.n (TC.seq (TC.block (TC.a (TL.w z (indexN z underlying22 sz62 z z f0_0.rv.sl (by omega)) (TL.w z (loadSA Tip.zero z ag62 sz62 z f0_0 (by omega) (by omega)) (TL.op z (OpOk.alloc z ze62 z z (fun b119=> ?_)))))))))
  refine TL.op z (storeAll z sz62 z z z z z z ?_)
  refine TL.en (TC.region (TL.s z z (TL.w z (fieldLoc z fo62_0 z) (TL.w z (loadLoc z ag3 z (i:=0) z z) (TL.op z (OpOk.lit (enc:=eI_) [(nth x0 k115 Tip.zero).state] z underlying27 sz3 ze3 z z z eIl_ (by decide) (by decide) (0:Int) z (by decide) z (by decide) eIo_ (fun a121 c122=> ?_)))))))
  refine TL.front 2 z z ?_
  have u15:=grd_c hh
  replace hh:=grd_t hh
  refine TL.op z (appendS z z underlying27 sz3 by3 ze3 z z (by decide) z z z (.inr ⟨_,0,z⟩) (by simpa using u15) (by decide) (fun a124 c125=> ?_))
  refine TL.s z z (TL.nil (B.n (S.n (TC.region (TL.w z (OpVal.succ z z z (by omega)) (TL.i z z (TL.en ?_)))))))
  obtain ⟨hh,hlt126⟩:=nxt_x hR1 hh
  exact lf (((l112++[(nth x0 k115 Tip.zero).state]),(k115+1)),(a124,c125)) hlt126 hh (Sub.pre 1 z)
 refine TC.exit (S.x (S.x ?_))
 replace hh:=fin_x hR1 hh
 refine TC.exitHere (S.n (TC.a (TL.s z z (TL.sealS eIl_ (fun τ129 hle128 hr127=> ?_)))))
 have hr127b:=hr127.rv.big
 obtain ⟨v20,u20,hh⟩:=bnd_e hh
 refine TL.op z (OpOk.call (Kc_ hr127 u20) z z pf62 z z z z ?_)
 rintro _ _ _ hle130 ⟨a130_1,c130_1,rfl,rfl,rfl⟩
 refine TL.s z z (TL.en (TC.back (TC.ret ?_)))
 obtain rfl:=so hh
 exact ro [Res.rowS 3 1 eI_ (.slice a130_1 v20.length c130_1) v20] z (RVs.tmp z RVs.nil) ⟨a130_1,c130_1,z,z,z⟩
def Eu_(x0:Fst)(l109:List Int)(l113:List Int)(l151:List Arrow)(k154:Nat):Option (((List Arrow)×Nat)⊕(Nfa×Int)):=
 iteO (decide (((k154:Nat):Int)<((x0.arcs.length:Nat):Int))) (grd ((l151.length+[(⟨(nth x0.arcs k154 Arc.zero).frm,(nth x0.arcs k154 Arc.zero).to,(nth x0.arcs k154 Arc.zero).set⟩:Arrow)].length) * 48≤140737488355328) (nxt ((l151++[(⟨(nth x0.arcs k154 Arc.zero).frm,(nth x0.arcs k154 Arc.zero).to,(nth x0.arcs k154 Arc.zero).set⟩:Arrow)]),(k154+1)))) (fin (some ((⟨x0.states,l109,l113,l151⟩:Nfa),0)))
def Hk_(x0:Fst)(l109:List Int)(l113:List Int):Option (Nfa×Int):=
 iter (fun q:(List Arrow)×Nat=>Eu_ x0 l109 l113 q.1 q.2) (([]:List Arrow),0)
def Hz_(x0:Fst):Option (Nfa×Int):=
 bnd (B6_ x0) (fun v5=>iteO (decide (v5≠0)) (some ((⟨0,([]:List Int),([]:List Int),([]:List Arrow)⟩:Nfa),1)) (bnd (E2_ x0.starts) (fun v14=>bnd (E2_ x0.ends) (fun v17=>Hk_ x0 v14 v17))))
def Kk_(σ:Store)(r:Nfa×Int):Value→Store→List Res→Prop:=fun v σ' H'=>
 ∃a1 c1 a2 c2 a3 c3,v= .tuple #[.agg #[.int .i64 r.1.states,.slice a1 r.1.starts.length c1,.slice a2 r.1.ends.length c2,.slice a3 r.1.edges.length c3],.int .i64 r.2]∧RS σ' 1 eI_ (.slice a1 r.1.starts.length c1) r.1.starts∧RS σ' 1 eI_ (.slice a2 r.1.ends.length c2) r.1.ends∧RS σ' 6 encE (.slice a3 r.1.edges.length c3) r.1.edges∧H'=[]
theorem J7_{x0:Fst}(f0_0:RS σ 2 encTip (.slice a0_0 x0.starts.length c0_0) x0.starts)(f0_1:RS σ 2 encTip (.slice a0_1 x0.ends.length c0_1) x0.ends)(f0_2:RS σ 8 encArc (.slice a0_2 x0.arcs.length c0_2) x0.arcs){r:Nfa×Int}(hh:Hz_ x0=some r):
  Con Tryz.prog 13 #[.agg #[.int .i64 x0.states,.slice a0_0 x0.starts.length c0_0,.slice a0_1 x0.ends.length c0_1,.slice a0_2 x0.arcs.length c0_2]] σ [] (Kk_ σ r):=by
 dsimp only [Hz_]at hh
 have f0_0b:=f0_0.rv.big
 have f0_1b:=f0_1.rv.big
 have f0_2b:=f0_2.rv.big
 refine Con.mk (n:=41) Tryz.func13 z z z (fun w0=> ?_)
 refine TC.a (TL.op z (boxA z z z z (fun b101=> ?_)))
 refine TL.op z (OpOk.alloc z ze48 z z (fun b103=> ?_))
 refine TL.i z z (TL.en (TC.seq (TC.a (TL.w z (loadAll z ag25 sz25 z (i:=1) z z) ?_))))
 obtain ⟨v5,u5,hh⟩:=bnd_e hh
 refine TL.op z (callP (Bw_ (x0:=x0) f0_0 f0_1 f0_2 u5) z z pf16 z z z ?_)
 refine TL.w z (OpVal.neq z z z) (TL.en (TC.cD z hh (fun h105 hh=> ?_) (fun h105 hh=> ?_)))
 ·refine TC.a (TL.w z (buildL z pl48 ze48 z) (TL.op z (storeAll z sz48 z z z z z z ?_)))
  refine TL.i z z (TL.en (TC.rt 1 (S.r ?_)))
  obtain rfl:=so hh
  exact ro [] z (RVs.agg ag48 sz48 z (i:=0) z z (RVs.tmp z RVs.nil)) ⟨none,0,none,0,none,0,z,(RS.nilF _ eI_ eIl_),(RS.nilF _ eI_ eIl_),(RS.nilF _ encE encE_len),z⟩
 refine TC.skip (S.n (TC.cutG (α:=((List Int)×(List Int))×(Nat×(Option Addr)×Nat×(Option Addr)×Nat)) (rgs [(4,1),(11,9)]) (fun g=>[(4,loc g.2.1 0)]) (fun g=>[Res.cells b101 #[.int .i64 x0.states,.slice a0_0 x0.starts.length c0_0,.slice a0_1 x0.ends.length c0_1,.slice a0_2 x0.arcs.length c0_2] 25,Res.cells b103 #[.int .i64 0,.slice none 0 0,.slice none 0 0,.slice none 0 0] 48,Res.cells g.2.1 #[.int .i64 x0.states,.slice g.2.2.1 g.1.1.length g.2.2.2.1,.slice g.2.2.2.2.1 g.1.2.length g.2.2.2.2.2,.slice none 0 0] 48,Res.rowS 3 1 eI_ (.slice g.2.2.1 g.1.1.length g.2.2.2.1) g.1.1,Res.rowS 3 1 eI_ (.slice g.2.2.2.2.1 g.1.2.length g.2.2.2.2.2) g.1.2]) (fun g=>σ) (fun g=>Hk_ x0 g.1.1 g.1.2=some r) ?_ (fun g j hg=> ?_)))
 ·skip
  obtain ⟨v14,u14,hh⟩:=bnd_e hh
  obtain ⟨v17,u17,hh⟩:=bnd_e hh
  refine TC.draw [10] (by kernel_rfl) (TA.a 0 z (fieldLoc z fo25_0 z) z (TA.b 1 z (loadLoc z ag3 z (i:=1) z z) z (TA.a 2 z (fieldLoc z fo25_1 z) z (TA.b 3 z (loadLoc z ag22 z (i:=1) z z) z (TA.a 5 z (fieldLoc z fo25_2 z) z (TA.b 6 z (loadLoc z ag22 z (i:=1) z z) z (TA.actN [4,9] (by kernel_rfl) (an z z (OpOk.call (Dr_ f0_0 u14) z z pf26 z z z z ?_) (an z z (OpOk.alloc z ze48 z z (fun b124=>(k1 ?_))) (True.intro))))))))))
  ·skip
   rintro _ _ _ hle122 ⟨a122_1,c122_1,rfl,rfl,rfl⟩
   refine k1 (TA.actN [7,9] (by kernel_rfl) (an z z (OpOk.call (Dr_ f0_1 u17) z z pf26 z z z z ?_) (an z z (OpOk.alloc z ze48 z z (fun b128=>(k2 ?_))) (True.intro))))
   ·skip
    rintro _ _ _ hle126 ⟨a126_1,c126_1,rfl,rfl,rfl⟩
    refine k2 (TA.a 8 z (buildL z pl48 ze48 z) z (TA.ac 9 z (OpOk.alloc z ze48 z z (fun b130=>(k3 ?_)))))
    refine TA.last 10 (by kernel_rfl) z z z (storeAll z sz48 z z z z z z ?_)
    exact TZ.done (by kernel_rfl) (S.n (cf ((v14,v17),(b130,a122_1,c122_1,a126_1,c126_1)) hh (Sub.f [1,2,2,3,4] 5)))
   skip
   refine TA.ac 7 z (OpOk.call (Dr_ f0_1 u17) z z pf26 z z z z ?_)
   rintro _ _ _ hle132 ⟨a132_1,c132_1,rfl,rfl,rfl⟩
   refine k3 (TA.a 8 z (buildL z pl48 ze48 z) z (TA.front 1 z z (TA.last 10 (by kernel_rfl) z z z (storeAll z sz48 z z z z z z ?_))))
   exact TZ.done (by kernel_rfl) (S.n (cf ((v14,v17),(b128,a122_1,c122_1,a132_1,c132_1)) hh (Sub.f [1,2,2,3,4] 5)))
  skip
  refine TA.ac 4 z (OpOk.call (Dr_ f0_0 u14) z z pf26 z z z z ?_)
  rintro _ _ _ hle134 ⟨a134_1,c134_1,rfl,rfl,rfl⟩
  refine k2 (TA.ac 7 z (OpOk.call (Dr_ f0_1 u17) z z pf26 z z z z ?_))
  rintro _ _ _ hle136 ⟨a136_1,c136_1,rfl,rfl,rfl⟩
  refine k3 (TA.a 8 z (buildL z pl48 ze48 z) z (TA.front 2 z z (TA.last 10 (by kernel_rfl) z z z (storeAll z sz48 z z z z z z ?_))))
  exact TZ.done (by kernel_rfl) (S.n (cf ((v14,v17),(b124,a134_1,c134_1,a136_1,c136_1)) hh (Sub.f [1,2,2,3,4] 5)))
 skip
 obtain ⟨⟨l109,l113⟩,⟨b107,a110,c111,a114,c115⟩⟩:=g
 have hh:=hg;clear hg
 try dsimp only
 dsimp only [Hk_]at hh
 refine TC.isSl (i:=3) z (fun _ hb138 _=> ?_)
 refine TC.isSl (i:=4) z (fun _ hb139 _=> ?_)
 refine TC.seq (TC.a (TL.w z (fieldLoc z fo25_3 z) (TL.w z (loadLoc z ag23 z (i:=0) z z) (TL.w z (lenC z underlying23 z) (TL.i z z (TL.en (TC.block (TC.nilS 78 6 encE (TC.loopG (α:=((List Arrow)×Nat)×((Option Addr)×Nat)) (rgs [(6,1),(23,17)]) (fun g=>[(23,.int .i64 ((g.1.2:Nat):Int))]) (fun g=>[Res.cells b103 #[.int .i64 0,.slice none 0 0,.slice none 0 0,.slice none 0 0] 48,Res.cells b107 #[.int .i64 x0.states,.slice a110 l109.length c111,.slice a114 l113.length c115,.slice g.2.1 g.1.1.length g.2.2] 48,Res.rowS 3 1 eI_ (.slice a110 l109.length c111) l109,Res.rowS 3 1 eI_ (.slice a114 l113.length c115) l113,Res.rowS 78 6 encE (.slice g.2.1 g.1.1.length g.2.2) g.1.1]) (fun g=>σ) (fun g=>iter (fun q:(List Arrow)×Nat=>Eu_ x0 l109 l113 q.1 q.2) g.1=some r) (fun g=>rounds (fun q:(List Arrow)×Nat=>Eu_ x0 l109 l113 q.1 q.2) g.1) ((([]:List Arrow),0),(none,0)) (Sub.f [5,5,5,5] 5) z (by repeat (first|exact trivial|refine ⟨z,?_⟩)) hh (fun g1 j1 hg1=> ?_))))))))))
 obtain ⟨⟨l151,k154⟩,⟨a152,c153⟩⟩:=g1
 have hh:=hg1;clear hg1
 try dsimp only
 obtain ⟨z1,hh,hR1⟩:=iter_e hh
 dsimp only [Eu_]at hh
 refine TC.isSl (i:=2) z (fun _ hb156 _=> ?_)
 refine TC.isSl (i:=3) z (fun _ hb157 _=> ?_)
 refine TC.isSl (i:=4) z (fun _ hb158 _=> ?_)
 refine TC.a (TL.w z (OpVal.lss z z z) (TL.en (TC.seq (TC.cD z hh (fun h159 hh=> ?_) (fun h159 hh=> ?_)))))
 ·refine TC.skip (S.n (TC.seq (TC.block (TC.a (TL.w z (indexN z underlying23 sz59 z z f0_2.rv.sl (by omega)) (TL.w z (loadSA Arc.zero z ag59 sz59 z f0_2 (by omega) (by omega)) (TL.op z (OpOk.alloc z ze59 z z (fun b160=> ?_)))))))))
  refine TL.op z (storeAll z sz59 z z z z z z ?_)
  refine TL.en (TC.region (TL.w z (fieldLoc z fo48_3 z) (TL.w z (loadLoc z ag46 z (i:=2) z z) (TL.w z (fieldLoc z fo59_0 z) (TL.w z (loadLoc z ag3 z (i:=0) z z) (TL.w z (fieldLoc z fo59_1 z) (TL.w z (loadLoc z ag3 z (i:=0) z z) (TL.w z (fieldLoc z fo59_2 z) (TL.w z (loadLocA z ag57 sz57 z (i:=0) z z z) (TL.w z (buildL z pl78 ze78 z) (TL.op z (OpOk.lit (enc:=encE) [(⟨(nth x0.arcs k154 Arc.zero).frm,(nth x0.arcs k154 Arc.zero).to,(nth x0.arcs k154 Arc.zero).set⟩:Arrow)] z underlying46 sz78 ze78 z z z encE_len (by decide) (by decide) Arrow.zero z (by decide) z (by decide) encE_one (fun a162 c163=> ?_)))))))))))))
  refine TL.front 6 z z ?_
  have u40:=grd_c hh
  replace hh:=grd_t hh
  refine TL.op z (appendS z z underlying46 sz78 by78 ze78 z z (by decide) z z z (.inr ⟨_,0,z⟩) (by simpa using u40) (by decide) (fun a165 c166=> ?_))
  refine TL.w z (fieldLoc z fo48_3 z) (TL.front 4 z z (TL.op z (storeSl z sz46 z z z z z ?_)))
  refine TL.nil (B.n (S.n (TC.region (TL.w z (OpVal.succ z z z (by omega)) (TL.i z z (TL.en ?_))))))
  obtain ⟨hh,hlt167⟩:=nxt_x hR1 hh
  exact lf (((l151++[(⟨(nth x0.arcs k154 Arc.zero).frm,(nth x0.arcs k154 Arc.zero).to,(nth x0.arcs k154 Arc.zero).set⟩:Arrow)]),(k154+1)),(a165,c166)) hlt167 hh (Sub.f [1,6,6,3,6] 5)
 refine TC.exit (S.x (S.x ?_))
 replace hh:=fin_x hR1 hh
 refine TC.exitHere (S.n (TC.a (TL.w z (loadAll z ag48 sz48 z (i:=1) z z) (TL.op z (storeAll z sz48 z z z z z z ?_)))))
 refine TL.i z z (TL.en (TC.front 2 z z (TC.sealS eIl_ (fun τ170 hle169 hr168=> ?_))))
 have hr168b:=hr168.rv.big
 refine TC.front 2 z z (TC.sealS eIl_ (fun τ173 hle172 hr171=> ?_))
 replace hr168:=hr168.mono hle172
 have hr171b:=hr171.rv.big
 refine TC.front 2 z z (TC.sealS encE_len (fun τ176 hle175 hr174=> ?_))
 replace hr168:=hr168.mono hle175
 replace hr171:=hr171.mono hle175
 have hr174b:=hr174.rv.big
 refine TC.rt 1 ?_
 obtain rfl:=so hh
 exact ro [] z (RVs.agg ag48 sz48 z (i:=0) z z (RVs.tmp z RVs.nil)) ⟨a110,c111,a114,c115,a152,c153,z,hr168,hr171,hr174,z⟩
def C8_(x0:Fst):Option (Fst×Int):=
 bnd (B6_ x0) (fun v5=>iteO (decide (v5≠0)) (some ((⟨0,([]:List Tip),([]:List Tip),([]:List Arc)⟩:Fst),1)) (bnd (onceT x0.starts) (fun v14=>bnd (onceT x0.ends) (fun v17=>bnd (onceA x0.arcs) (fun v20=>some ((⟨x0.states,v14,v17,v20⟩:Fst),0))))))
def J8_(σ:Store)(r:Fst×Int):Value→Store→List Res→Prop:=fun v σ' H'=>
 ∃a1 c1 a2 c2 a3 c3,v= .tuple #[.agg #[.int .i64 r.1.states,.slice a1 r.1.starts.length c1,.slice a2 r.1.ends.length c2,.slice a3 r.1.arcs.length c3],.int .i64 r.2]∧RS σ' 2 encTip (.slice a1 r.1.starts.length c1) r.1.starts∧RS σ' 2 encTip (.slice a2 r.1.ends.length c2) r.1.ends∧RS σ' 8 encArc (.slice a3 r.1.arcs.length c3) r.1.arcs∧H'=[]
theorem Jb_{x0:Fst}(f0_0:RS σ 2 encTip (.slice a0_0 x0.starts.length c0_0) x0.starts)(f0_1:RS σ 2 encTip (.slice a0_1 x0.ends.length c0_1) x0.ends)(f0_2:RS σ 8 encArc (.slice a0_2 x0.arcs.length c0_2) x0.arcs){r:Fst×Int}(hh:C8_ x0=some r):
  Con Tryz.prog 49 #[.agg #[.int .i64 x0.states,.slice a0_0 x0.starts.length c0_0,.slice a0_1 x0.ends.length c0_1,.slice a0_2 x0.arcs.length c0_2]] σ [] (J8_ σ r):=by
 dsimp only [C8_]at hh
 have f0_0b:=f0_0.rv.big
 have f0_1b:=f0_1.rv.big
 have f0_2b:=f0_2.rv.big
 refine Con.mk (n:=20) Tryz.func49 z z z (fun w0=> ?_)
 refine TC.a (TL.op z (boxA z z z z (fun b101=> ?_)))
 refine TL.op z (OpOk.alloc z ze25 z z (fun b103=> ?_))
 refine TL.i z z (TL.en (TC.seq (TC.a (TL.w z (loadAll z ag25 sz25 z (i:=1) z z) ?_))))
 obtain ⟨v5,u5,hh⟩:=bnd_e hh
 refine TL.op z (callP (Bw_ (x0:=x0) f0_0 f0_1 f0_2 u5) z z pf16 z z z ?_)
 refine TL.w z (OpVal.neq z z z) (TL.en (TC.cD z hh (fun h105 hh=> ?_) (fun h105 hh=> ?_)))
 ·refine TC.a (TL.w z (buildL z pl25 ze25 z) (TL.op z (storeAll z sz25 z z z z z z ?_)))
  refine TL.i z z (TL.en (TC.rt 1 (S.r ?_)))
  obtain rfl:=so hh
  exact ro [] z (RVs.agg ag25 sz25 z (i:=0) z z (RVs.tmp z RVs.nil)) ⟨none,0,none,0,none,0,z,(RS.nilF _ encTip encTip_len),(RS.nilF _ encTip encTip_len),(RS.nilF _ encArc encArc_len),z⟩
 refine TC.skip (S.n (TC.seq ?_))
 obtain ⟨v14,u14,hh⟩:=bnd_e hh
 obtain ⟨v17,u17,hh⟩:=bnd_e hh
 obtain ⟨v20,u20,hh⟩:=bnd_e hh
 refine TC.draw [12,13] (by kernel_rfl) (TA.a 0 z (fieldLoc z fo25_0 z) z (TA.b 1 z (loadLoc z ag3 z (i:=1) z z) z (TA.a 2 z (fieldLoc z fo25_1 z) z (TA.b 3 z (loadLoc z ag22 z (i:=1) z z) z (TA.a 5 z (fieldLoc z fo25_2 z) z (TA.b 6 z (loadLoc z ag22 z (i:=1) z z) z (TA.a 8 z (fieldLoc z fo25_3 z) z (TA.b 9 z (loadLoc z ag23 z (i:=1) z z) z (TA.ac 4 z (OpOk.call (I1_ f0_0 u14) z z pf82 z z z z ?_))))))))))
 rintro _ _ _ hle112 ⟨a112_1,c112_1,rfl,rfl,rfl⟩
 refine k1 (TA.ac 7 z (OpOk.call (I1_ f0_1 u17) z z pf82 z z z z ?_))
 rintro _ _ _ hle114 ⟨a114_1,c114_1,rfl,rfl,rfl⟩
 refine k2 (TA.ac 10 z (OpOk.call (Kb_ f0_2 u20) z z pf84 z z z z ?_))
 rintro _ _ _ hle116 ⟨a116_1,c116_1,rfl,rfl,rfl⟩
 refine k3 (TA.a 11 z (buildL z pl25 ze25 z) z (TA.front 3 z z (TA.last 12 (by kernel_rfl) z z z (storeAll z sz25 z z z z z z ?_))))
 refine TZ.v 13 (by kernel_rfl) z z z (moveI (.inr z) z) z z (TZ.done (by kernel_rfl) (S.n (TC.front 3 z z (TC.sealS encTip_len (fun τ120 hle119 hr118=> ?_)))))
 have hr118b:=hr118.rv.big
 refine TC.front 2 z z (TC.sealS encTip_len (fun τ123 hle122 hr121=> ?_))
 replace hr118:=hr118.mono hle122
 have hr121b:=hr121.rv.big
 refine TC.front 1 z z (TC.sealS encArc_len (fun τ126 hle125 hr124=> ?_))
 replace hr118:=hr118.mono hle125
 replace hr121:=hr121.mono hle125
 have hr124b:=hr124.rv.big
 refine TC.rt 1 ?_
 obtain rfl:=so hh
 exact ro [] z (RVs.agg ag25 sz25 z (i:=0) z z (RVs.tmp z RVs.nil)) ⟨a112_1,c112_1,a114_1,c114_1,a116_1,c116_1,z,hr118,hr121,hr124,z⟩
def Hw_(l120:List (List Arc))(x0:Fst)(k124:Nat):Option (((List (List Arc))×Nat)⊕((List (List UInt8))×Int)):=
 nxt ((l120.set (((nth x0.arcs k124 Arc.zero).frm).toNat) ((nth l120 (((nth x0.arcs k124 Arc.zero).frm).toNat) ([]:List Arc))++[(nth x0.arcs k124 Arc.zero)])),(k124+1))
def Ht_(l229:List (List (List UInt8)))(x0:Fst)(k233:Nat):Option (((List (List (List UInt8)))×Nat)⊕((List (List UInt8))×Int)):=
 nxt ((l229.set (((nth x0.ends k233 Tip.zero).state).toNat) ((nth l229 (((nth x0.ends k233 Tip.zero).state).toNat) ([]:List (List UInt8)))++[(nth x0.ends k233 Tip.zero).out])),(k233+1))
def Cy_(l229:List (List (List UInt8)))(v120c:FPair×Unit)(l338:List (List UInt8))(k341:Nat):Option (((List (List UInt8))×Nat)⊕(((List (List UInt8)))⊕((List (List UInt8))×Int))):=
 iteO (decide (((k341:Nat):Int)<(((nth l229 v120c.1.state.toNat ([]:List (List UInt8))).length:Nat):Int))) (grd (v120c.1.out.length+(nth (nth l229 v120c.1.state.toNat ([]:List (List UInt8))) k341 ([]:List UInt8)).length≤9223372036854775807) (grd ((l338.length+[(v120c.1.out++(nth (nth l229 v120c.1.state.toNat ([]:List (List UInt8))) k341 ([]:List UInt8)))].length) * 16≤140737488355328) (nxt ((l338++[(v120c.1.out++(nth (nth l229 v120c.1.state.toNat ([]:List (List UInt8))) k341 ([]:List UInt8)))]),(k341+1))))) (fin (nxt l338))
def C3_(l229:List (List (List UInt8)))(l299:List (List UInt8))(oE:Option (FPair×Unit)):Option (((List (List UInt8)))⊕((List (List UInt8))×Int)):=
 optE oE (fin (bnd (onceS l299) (fun v148=>some (v148,0)))) (fun v120c=>grd (0≤v120c.1.state∧v120c.1.state<(l229.length:Int)) (iter (fun q:(List (List UInt8))×Nat=>Cy_ l229 v120c q.1 q.2) (l299,0)))
def C0_(x0:Fst)(m201:FM FPair Unit)(l229:List (List (List UInt8)))(k233:Nat):Option (((List (List (List UInt8)))×Nat)⊕((List (List UInt8))×Int)):=
 iteO (decide (((k233:Nat):Int)<((x0.ends.length:Nat):Int))) (grd (0≤((nth x0.ends k233 Tip.zero).state)∧((nth x0.ends k233 Tip.zero).state)<(l229.length:Int)) (grd (((nth l229 (((nth x0.ends k233 Tip.zero).state).toNat) ([]:List (List UInt8))).length+[(nth x0.ends k233 Tip.zero).out].length) * 16≤140737488355328) (grd (0≤((nth x0.ends k233 Tip.zero).state)∧((nth x0.ends k233 Tip.zero).state)<(l229.length:Int)) (Ht_ l229 x0 k233)))) (fin (allP (fun q=>Rep q m201) (fun q=>runL (fun (q:(List (List UInt8))) (oE:Option (FPair×Unit))=>C3_ l229 q oE) q ([]:List (List UInt8)))))
def Cl_(x1:List UInt8)(l120:List (List Arc))(x0:Fst)(m201:FM FPair Unit)(k203:Nat):Option (((FM FPair Unit)×Nat)⊕((List (List UInt8))×Int)):=
 iteO (decide (((k203:Nat):Int)<((x1.length:Nat):Int))) (bnd (G9_ l120 m201 (nth x1 k203 (0:UInt8))) (fun v74=>iteO (!v74.2) (fin (some (([]:List (List UInt8)),2))) (nxt (v74.1,(k203+1))))) (fin (grd (0≤x0.states∧24 * x0.states.toNat≤281474976710656) (iter (fun q:(List (List (List UInt8)))×Nat=>C0_ x0 m201 q.1 q.2) ((List.replicate x0.states.toNat ([]:List (List UInt8))),0))))
def Cz_(x0:Fst)(x1:List UInt8)(l120:List (List Arc))(m180:FM FPair Unit)(k181:Nat):Option (((FM FPair Unit)×Nat)⊕((List (List UInt8))×Int)):=
 iteO (decide (((k181:Nat):Int)<((x0.starts.length:Nat):Int))) (nxt ((m180.put (⟨(nth x0.starts k181 Tip.zero).state,(nth x0.starts k181 Tip.zero).out⟩:FPair) ()),(k181+1))) (fin (iter (fun q:(FM FPair Unit)×Nat=>Cl_ x1 l120 x0 q.1 q.2) (m180,0)))
def C4_(x0:Fst)(x1:List UInt8)(l120:List (List Arc))(k124:Nat):Option (((List (List Arc))×Nat)⊕((List (List UInt8))×Int)):=
 iteO (decide (((k124:Nat):Int)<((x0.arcs.length:Nat):Int))) (grd (0≤((nth x0.arcs k124 Arc.zero).frm)∧((nth x0.arcs k124 Arc.zero).frm)<(l120.length:Int)) (grd (((nth l120 (((nth x0.arcs k124 Arc.zero).frm).toNat) ([]:List Arc)).length+[(nth x0.arcs k124 Arc.zero)].length) * 72≤140737488355328) (grd (0≤((nth x0.arcs k124 Arc.zero).frm)∧((nth x0.arcs k124 Arc.zero).frm)<(l120.length:Int)) (Hw_ l120 x0 k124)))) (fin (iter (fun q:(FM FPair Unit)×Nat=>Cz_ x0 x1 l120 q.1 q.2) ((FM.emp:FM FPair Unit),0)))
def Eq_(x0:Fst)(x1:List UInt8):Option ((List (List UInt8))×Int):=
 grd (x1.length≤281474976710656) (bnd (B6_ x0) (fun v5=>iteO (decide (v5≠0)) (some (([]:List (List UInt8)),1)) (iteO (decide (256<((x1.length:Nat):Int))) (some (([]:List (List UInt8)),2)) (grd (0≤x0.states∧24 * x0.states.toNat≤281474976710656) (iter (fun q:(List (List Arc))×Nat=>C4_ x0 x1 q.1 q.2) ((List.replicate x0.states.toNat ([]:List Arc)),0))))))
def J1_(σ:Store)(r:(List (List UInt8))×Int):Value→Store→List Res→Prop:=fun v σ' H'=>
 ∃a1 c1,v= .tuple #[.slice a1 r.1.length c1,.int .i64 r.2]∧RS σ' 1 eS_ (.slice a1 r.1.length c1) r.1∧H'=[]
theorem Hd_{x0:Fst}{x1:List UInt8}(f0_0:RS σ 2 encTip (.slice a0_0 x0.starts.length c0_0) x0.starts)(f0_1:RS σ 2 encTip (.slice a0_1 x0.ends.length c0_1) x0.ends)(f0_2:RS σ 8 encArc (.slice a0_2 x0.arcs.length c0_2) x0.arcs){r:(List (List UInt8))×Int}(hh:Eq_ x0 x1=some r):
  Con Tryz.prog 7 #[.agg #[.int .i64 x0.states,.slice a0_0 x0.starts.length c0_0,.slice a0_1 x0.ends.length c0_1,.slice a0_2 x0.arcs.length c0_2],.string (bs x1)] σ [] (J1_ σ r):=by
 dsimp only [Eq_]at hh
 have f0_0b:=f0_0.rv.big
 have f0_1b:=f0_1.rv.big
 have f0_2b:=f0_2.rv.big
 refine Con.mk (n:=135) Tryz.func7 z z z (fun w0=> ?_)
 have x1b:=grd_c hh
 replace hh:=grd_t hh
 refine TC.a (TL.op z (boxA z z z z (fun b101=> ?_)))
 refine TL.s z z (TL.i z z (TL.en (TC.seq (TC.a (TL.w z (loadAll z ag25 sz25 z (i:=0) z z) ?_)))))
 obtain ⟨v5,u5,hh⟩:=bnd_e hh
 refine TL.op z (callP (Bw_ (x0:=x0) f0_0 f0_1 f0_2 u5) z z pf16 z z z ?_)
 refine TL.w z (OpVal.neq z z z) (TL.en (TC.cD z hh (fun h103 hh=> ?_) (fun h103 hh=> ?_)))
 ·refine TC.a (TL.s z z (TL.i z z (TL.en (TC.rt 0 (S.r ?_)))))
  obtain rfl:=so hh
  exact rq [4,5] ⟨none,0,z,(RS.nilF _ eS_ eSl_),z⟩
 refine TC.skip (S.n (TC.seq (TC.a (TL.w z (moveStr (.inl z) z) (TL.w z (lenBs z underlying9 z) (TL.w z (OpVal.gtr z z z) (TL.en (TC.cD z hh (fun h104 hh=> ?_) (fun h104 hh=> ?_)))))))))
 ·refine TC.a (TL.s z z (TL.i z z (TL.en (TC.rt 0 (S.r ?_)))))
  obtain rfl:=so hh
  exact rq [4,5] ⟨none,0,z,(RS.nilF _ eS_ eSl_),z⟩
 refine TC.skip (S.n (TC.a (TL.w z (fieldLoc z fo25_0 z) (TL.w z (loadLoc z ag3 z (i:=0) z z) ?_))))
 have u16:=grd_c hh
 replace hh:=grd_t hh
 refine TL.op rfl (makeN (q:=x0.states.toNat) (E:=59) (size:=8) (enc:=encArc) rfl underlying54 sz23 by23 ze23 rfl rfl (vN u16.1) (vN u16.1) (by omega) (by decide) rfl (fun a105 c106 zf107=> ?_))
 refine TL.s z z (TL.en (TC.seq (TC.a (TL.w z (fieldLoc z fo25_3 z) (TL.w z (loadLoc z ag23 z (i:=1) z z) (TL.w z (lenC z underlying23 z) (TL.i z z (TL.en (TC.block (TC.loopG (α:=((List (List Arc))×Nat)×((List (NP Arc)))) (rgs [(8,1),(34,17)]) (fun g=>[(34,.int .i64 ((g.1.2:Nat):Int))]) (fun g=>[Res.cells b101 #[.int .i64 x0.states,.slice a0_0 x0.starts.length c0_0,.slice a0_1 x0.ends.length c0_1,.slice a0_2 x0.arcs.length c0_2] 25,Res.nest 23 59 8 encArc (.slice a105 (List.replicate x0.states.toNat ([]:List Arc)).length c106) g.2]) (fun g=>σ) (fun g=>iter (fun q:(List (List Arc))×Nat=>C4_ x0 x1 q.1 q.2) g.1=some r∧g.1.1.length=(List.replicate x0.states.toNat ([]:List Arc)).length∧Zn g.2 g.1.1) (fun g=>rounds (fun q:(List (List Arc))×Nat=>C4_ x0 x1 q.1 q.2) g.1) (((List.replicate x0.states.toNat ([]:List Arc)),0),(List.replicate x0.states.toNat (nilN:NP Arc))) (Sub.f [1] 2) z (by repeat (first|exact trivial|refine ⟨z,?_⟩)) ⟨hh,z,zf107⟩ (fun g1 j1 hg1=> ?_)))))))))))
 obtain ⟨⟨l120,k124⟩,z122⟩:=g1
 obtain ⟨hh,hn121,zf123⟩:=hg1
 try dsimp only at hn121 zf123 ⊢
 obtain ⟨z1,hh,hR1⟩:=iter_e hh
 dsimp only [C4_]at hh
 have hn121b:=hn121
 have zf123b:=zf123.len
 refine TC.know (isSl_nest (q:=1) z zf123) (fun ⟨_,hb125⟩=> ?_)
 refine TC.a (TL.w z (OpVal.lss z z z) (TL.en (TC.seq (TC.cD z hh (fun h126 hh=> ?_) (fun h126 hh=> ?_)))))
 ·refine TC.skip (S.n (TC.cutG (α:=(Unit)×((List (NP Arc)))) (rgs [(8,1),(36,14)]) (fun g=>[]) (fun g=>[Res.cells b101 #[.int .i64 x0.states,.slice a0_0 x0.starts.length c0_0,.slice a0_1 x0.ends.length c0_1,.slice a0_2 x0.arcs.length c0_2] 25,Res.nest 23 59 8 encArc (.slice a105 (List.replicate x0.states.toNat ([]:List Arc)).length c106) g.2]) (fun g=>σ) (fun g=>Hw_ l120 x0 k124=some z1∧(l120.set (((nth x0.arcs k124 Arc.zero).frm).toNat) ((nth l120 (((nth x0.arcs k124 Arc.zero).frm).toNat) ([]:List Arc))++[(nth x0.arcs k124 Arc.zero)])).length=(List.replicate x0.states.toNat ([]:List Arc)).length∧Zn g.2 (l120.set (((nth x0.arcs k124 Arc.zero).frm).toNat) ((nth l120 (((nth x0.arcs k124 Arc.zero).frm).toNat) ([]:List Arc))++[(nth x0.arcs k124 Arc.zero)]))) ?_ (fun g j hg=> ?_)))
  ·skip
   refine TC.block (TC.a (TL.w z (indexN z underlying23 sz59 z z f0_2.rv.sl (by omega)) (TL.w z (loadSA Arc.zero z ag59 sz59 z f0_2 (by omega) (by omega)) (TL.op z (OpOk.alloc z ze59 z z (fun b130=> ?_))))))
   refine TL.op z (storeAll z sz59 z z z z z z ?_)
   refine TL.en ?_
   have u33:=grd_c hh
   replace hh:=grd_t hh
   have u37:=grd_c hh
   replace hh:=grd_t hh
   have u38:=grd_c hh
   replace hh:=grd_t hh
   refine TC.drawR (Hr:=[Res.cells b130 #[.int .i64 ((nth x0.arcs k124 Arc.zero).frm),.int .i64 ((nth x0.arcs k124 Arc.zero).to),.int .u64 ((((nth x0.arcs k124 Arc.zero).set).a:Nat):Int),.int .u64 ((((nth x0.arcs k124 Arc.zero).set).b:Nat):Int),.int .u64 ((((nth x0.arcs k124 Arc.zero).set).c:Nat):Int),.int .u64 ((((nth x0.arcs k124 Arc.zero).set).d:Nat):Int),.string (bs ((nth x0.arcs k124 Arc.zero).out)),.bool ((nth x0.arcs k124 Arc.zero).copy)] 59,Res.cells b101 #[.int .i64 x0.states,.slice a0_0 x0.starts.length c0_0,.slice a0_1 x0.ends.length c0_1,.slice a0_2 x0.arcs.length c0_2] 25]) (fun r hr=>mem_pick [0,1] z hr) [] (by kernel_rfl) (TA.a 0 z (moveSl (.inl z) z) z (TA.a 1 z (fieldLoc z fo59_0 z) z (TA.b 2 z (loadLoc z ag3 z (i:=0) z z) z (TA.a 3 z (moveSl (.inl z) z) z (TA.a 4 z (fieldLoc z fo59_0 z) z (TA.b 5 z (loadLoc z ag3 z (i:=0) z z) z (TA.know (isSl_nest (q:=2) z zf123) (fun ⟨hs143,hs143b⟩=> ?_))))))))
   refine TA.b 6 z (OpVal.index z underlying54 sz23 z z hs143 u33.1 u33.2) z (TA.b 8 z (loadAll z ag59 sz59 z (i:=0) z z) z ?_)
   obtain ⟨p144,hz144,hm144⟩:=Zn.at zf123 (i:=((nth x0.arcs k124 Arc.zero).frm).toNat) (by omega)
   refine TA.actN [7,9] (by kernel_rfl) (an z z (OpVal.ok (loadN z ag23 z (q:=2) z hz144 hm144) z z ⟨(fun w h=>sees_of (Store.le.refl _) (fun r hr=>mem_pick [0,1] z hr) w h),?_⟩) (an z z (OpOk.lit (enc:=encArc) [(nth x0.arcs k124 Arc.zero)] z underlying23 sz59 ze59 z z z encArc_len (by decide) (by decide) Arc.zero z (by decide) z (by decide) encArc_one (fun a145 c146=>⟨(fun w h=>sees_of (Store.le.refl _) (fun r hr=>mem_pick [1,2] z hr) w h),?_⟩)) (True.intro)))
   ·skip
    refine TA.ac 9 z (OpOk.lit (enc:=encArc) [(nth x0.arcs k124 Arc.zero)] z underlying23 sz59 ze59 z z z encArc_len (by decide) (by decide) Arc.zero z (by decide) z (by decide) encArc_one (fun a148 c149=>⟨(fun w h=>sees_of (Store.le.refl _) (fun r hr=>mem_pick [1,2] z hr) w h),?_⟩))
    refine TA.front 3 z z (TA.by (fun w h=>Reach.takeN hz144 hm144 h) (TA.ac 10 z (appendS z z underlying23 sz59 by59 ze59 z z (by decide) z z z (.inr ⟨_,1,z⟩) (by simpa using u37) (by decide) (fun a152 c153=>(k3 ?_)))))
    refine TA.know (isSl_nestX (q:=1) z zf123) (fun ⟨hs154,hs154b⟩=> ?_)
    refine TA.b 11 z (OpVal.index z underlying54 sz23 z z hs154 u38.1 u38.2) z (TA.front 1 z z (TA.front 1 z z ?_))
    have hn156:(l120.set (((nth x0.arcs k124 Arc.zero).frm).toNat) ((nth l120 (((nth x0.arcs k124 Arc.zero).frm).toNat) ([]:List Arc))++[(nth x0.arcs k124 Arc.zero)])).length=(List.replicate x0.states.toNat ([]:List Arc)).length:=(List.length_set ..).trans hn121
    refine TA.ac 12 rfl (storeX (l':=((nth l120 (((nth x0.arcs k124 Arc.zero).frm).toNat) ([]:List Arc))++[(nth x0.arcs k124 Arc.zero)])) rfl sz23 rfl rfl rfl rfl rfl (by rw [zf123.len];omega) zf123 (fun zf155=>(k2 ?_)))
    exact TA.dn (B.n (S.n (cf ((),(z122.set (((nth x0.arcs k124 Arc.zero).frm).toNat) (((nth l120 (((nth x0.arcs k124 Arc.zero).frm).toNat) ([]:List Arc))++[(nth x0.arcs k124 Arc.zero)]),(a152,c153)))) ⟨hh,hn156,zf155⟩ (Sub.f [3] 2))))
   skip
   obtain ⟨p157,hz157,hm157⟩:=Zn.at zf123 (i:=((nth x0.arcs k124 Arc.zero).frm).toNat) (by omega)
   refine TA.ac 7 z (OpVal.ok (loadN z ag23 z (q:=3) z hz157 hm157) z z ⟨(fun w h=>sees_of (Store.le.refl _) (fun r hr=>mem_pick [1,2] z hr) w h),?_⟩)
   refine TA.front 3 z z (TA.by (fun w h=>Reach.takeN hz157 hm157 h) (TA.ac 10 z (appendS z z underlying23 sz59 by59 ze59 z z (by decide) z z z (.inr ⟨_,1,z⟩) (by simpa using u37) (by decide) (fun a159 c160=>(k3 ?_)))))
   refine TA.know (isSl_nestX (q:=1) z zf123) (fun ⟨hs161,hs161b⟩=> ?_)
   refine TA.b 11 z (OpVal.index z underlying54 sz23 z z hs161 u38.1 u38.2) z (TA.front 1 z z (TA.front 1 z z ?_))
   have hn163:(l120.set (((nth x0.arcs k124 Arc.zero).frm).toNat) ((nth l120 (((nth x0.arcs k124 Arc.zero).frm).toNat) ([]:List Arc))++[(nth x0.arcs k124 Arc.zero)])).length=(List.replicate x0.states.toNat ([]:List Arc)).length:=(List.length_set ..).trans hn121
   refine TA.ac 12 rfl (storeX (l':=((nth l120 (((nth x0.arcs k124 Arc.zero).frm).toNat) ([]:List Arc))++[(nth x0.arcs k124 Arc.zero)])) rfl sz23 rfl rfl rfl rfl rfl (by rw [zf123.len];omega) zf123 (fun zf162=>(k2 ?_)))
   exact TA.dn (B.n (S.n (cf ((),(z122.set (((nth x0.arcs k124 Arc.zero).frm).toNat) (((nth l120 (((nth x0.arcs k124 Arc.zero).frm).toNat) ([]:List Arc))++[(nth x0.arcs k124 Arc.zero)]),(a159,c160)))) ⟨hh,hn163,zf162⟩ (Sub.f [3] 2))))
  skip
  obtain ⟨_,z128⟩:=g
  obtain ⟨hh,hn127,zf129⟩:=hg
  try dsimp only at hn127 zf129 ⊢
  dsimp only [Hw_]at hh
  have hn127b:=hn127
  have zf129b:=zf129.len
  refine TC.know (isSl_nest (q:=1) z zf129) (fun ⟨_,hb164⟩=> ?_)
  refine TC.region (TL.w z (OpVal.succ z z z (by omega)) (TL.i z z (TL.en ?_)))
  obtain ⟨hh,hlt165⟩:=nxt_x hR1 hh
  exact lf (((l120.set (((nth x0.arcs k124 Arc.zero).frm).toNat) ((nth l120 (((nth x0.arcs k124 Arc.zero).frm).toNat) ([]:List Arc))++[(nth x0.arcs k124 Arc.zero)])),(k124+1)),z128) hlt165 ⟨hh,hn127,zf129⟩ (Sub.f [1,1] 2)
 refine TC.exit (S.x (S.x ?_))
 replace hh:=fin_x hR1 hh
 refine TC.exitHere (S.n (TC.a (TL.op z (makeMapB (enc:=(fun x=>Value.agg (encFPair x).toArray)) (encV:=unitV) z z z (fun b166=> ?_)))))
 refine TL.w z (moveMap (.inr z) z) (TL.en (TC.seq (TC.a (TL.w z (fieldLoc z fo25_1 z) (TL.w z (loadLoc z ag22 z (i:=1) z z) (TL.w z (lenC z underlying22 z) (TL.i z z (TL.en (TC.block (TC.loopG (α:=((FM FPair Unit)×Nat)×(Unit)) (rgs [(11,1),(55,12)]) (fun g=>[(55,.int .i64 ((g.1.2:Nat):Int))]) (fun g=>[Res.cells b101 #[.int .i64 x0.states,.slice a0_0 x0.starts.length c0_0,.slice a0_1 x0.ends.length c0_1,.slice a0_2 x0.arcs.length c0_2] 25,Res.nest 23 59 8 encArc (.slice a105 (List.replicate x0.states.toNat ([]:List Arc)).length c106) z122,Res.mapB (fun x=>Value.agg (encFPair x).toArray) unitV (some b166) g.1.1]) (fun g=>σ) (fun g=>iter (fun q:(FM FPair Unit)×Nat=>Cz_ x0 x1 l120 q.1 q.2) g.1=some r∧l120.length=(List.replicate x0.states.toNat ([]:List Arc)).length∧Zn z122 l120) (fun g=>rounds (fun q:(FM FPair Unit)×Nat=>Cz_ x0 x1 l120 q.1 q.2) g.1) (((FM.emp:FM FPair Unit),0),()) (Sub.f [2,2] 3) z (by repeat (first|exact trivial|refine ⟨z,?_⟩)) ⟨hh,hn121,zf123⟩ (fun g2 j2 hg2=> ?_)))))))))))
 obtain ⟨⟨m180,k181⟩,_⟩:=g2
 obtain ⟨hh,hn178,zf179⟩:=hg2
 try dsimp only at hn178 zf179 ⊢
 obtain ⟨z1,hh,hR1⟩:=iter_e hh
 dsimp only [Cz_]at hh
 have hn178b:=hn178
 have zf179b:=zf179.len
 refine TC.know (isSl_nest (q:=1) z zf179) (fun ⟨_,hb182⟩=> ?_)
 refine TC.a (TL.w z (OpVal.lss z z z) (TL.en (TC.seq (TC.cD z hh (fun h183 hh=> ?_) (fun h183 hh=> ?_)))))
 ·refine TC.skip (S.n (TC.seq (TC.block (TC.a (TL.w z (indexN z underlying22 sz62 z z f0_0.rv.sl (by omega)) (TL.w z (loadSA Tip.zero z ag62 sz62 z f0_0 (by omega) (by omega)) (TL.op z (OpOk.alloc z ze62 z z (fun b184=> ?_)))))))))
  refine TL.op z (storeAll z sz62 z z z z z z ?_)
  refine TL.en (TC.region (TL.w z (moveMap (.inl z) z) (TL.w z (fieldLoc z fo62_0 z) (TL.w z (loadLoc z ag3 z (i:=0) z z) (TL.w z (fieldLoc z fo62_1 z) (TL.w z (loadLoc z ag9 z (i:=0) z z) (TL.w z (buildL z pl65 ze65 z) (TL.w z (buildL z pl63 ze63 z) (TL.front 3 z z (TL.op z (updB (⟨(nth x0.starts k181 Tip.zero).state,(nth x0.starts k181 Tip.zero).out⟩:FPair) () z underlying60 z z z z kl65 ?_)))))))))))
  refine TL.nil (B.n (S.n (TC.region (TL.w z (OpVal.succ z z z (by omega)) (TL.i z z (TL.en ?_))))))
  obtain ⟨hh,hlt186⟩:=nxt_x hR1 hh
  exact lf (((m180.put (⟨(nth x0.starts k181 Tip.zero).state,(nth x0.starts k181 Tip.zero).out⟩:FPair) ()),(k181+1)),()) hlt186 ⟨hh,hn178,zf179⟩ (Sub.f [3,3] 3)
 refine TC.exit (S.x (S.x ?_))
 replace hh:=fin_x hR1 hh
 refine TC.exitHere (S.n (TC.seq (TC.a (TL.w z (moveStr (.inl z) z) (TL.w z (lenBs z underlying9 z) (TL.i z z (TL.en (TC.block ?_))))))))
 rw [←hn178]
 refine TC.front 1 z z (TC.seals (fun w h=>Reach.sealNest encArc_len zf179 h) (fun τ206 hle205 hr204=> ?_))
 replace f0_1:=f0_1.mono hle205
 have hr204b:=hr204.big
 refine TC.loopG (α:=((FM FPair Unit)×Nat)×((Option Nat)×Store)) (rgs [(4,2),(9,1),(12,3),(69,16)]) (fun g=>[(9,.map g.2.1),(69,.int .i64 ((g.1.2:Nat):Int))]) (fun g=>[Res.cells b101 #[.int .i64 x0.states,.slice a0_0 x0.starts.length c0_0,.slice a0_1 x0.ends.length c0_1,.slice a0_2 x0.arcs.length c0_2] 25,Res.mapB (fun x=>Value.agg (encFPair x).toArray) unitV g.2.1 g.1.1]) (fun g=>g.2.2) (fun g=>iter (fun q:(FM FPair Unit)×Nat=>Cl_ x1 l120 x0 q.1 q.2) g.1=some r∧RZ g.2.2 (pkSl 8 encArc encArc_len) (.slice a105 l120.length c106) l120∧Store.le τ206 g.2.2) (fun g=>rounds (fun q:(FM FPair Unit)×Nat=>Cl_ x1 l120 x0 q.1 q.2) g.1) ((m180,0),((some b166),τ206)) (Sub.f [1,1] 2) z (by repeat (first|exact trivial|refine ⟨z,?_⟩)) ⟨hh,hr204,(Store.le.refl _)⟩ (fun g3 j3 hg3=> ?_)
 obtain ⟨⟨m201,k203⟩,⟨b202,τ207⟩⟩:=g3
 obtain ⟨hh,hr199,hle208⟩:=hg3
 try dsimp only at hr199
 dsimp only at hle208
 replace f0_1:=f0_1.mono hle208
 try dsimp only
 obtain ⟨z1,hh,hR1⟩:=iter_e hh
 dsimp only [Cl_]at hh
 have hr199b:=hr199.big
 refine TC.a (TL.w z (OpVal.lss z z z) (TL.en (TC.seq (TC.cD z hh (fun h209 hh=> ?_) (fun h209 hh=> ?_)))))
 ·refine TC.skip (S.n (TC.seq (TC.block (TC.a (TL.i z z (TL.i z z (TL.en (TC.a (TL.s z z (TL.w z (moveMap (.inl z) z) (TL.w z (moveStr (.inl z) z) (TL.i z z (TL.w z (indexBs z underlying9 z z (by omega)) (TL.front 1 z z ?_))))))))))))))
  obtain ⟨v74,u74,hh⟩:=bnd_e hh
  refine TL.op z (OpOk.call (Jc_ hr199 u74) z z pf17 z z z z ?_)
  rintro _ _ _ hle210 ⟨b210_1,rfl,rfl,rfl⟩
  refine TL.w z (moveT (.inl z) z) (TL.w z (OpVal.extract z z z) (TL.w z (OpVal.extract z z z) (TL.w z (moveMap (.inr z) z) (TL.j z z (TL.en (TC.seq (TC.a (TL.j z z (TL.w z (OpVal.not z z) (TL.en (TC.cB z hh (fun h212 hh=> ?_) (fun h212 hh=> ?_))))))))))))
  ·refine TC.a (TL.s z z (TL.i z z (TL.en (TC.rt 0 (S.r (B.r (S.r (S.r ?_))))))))
   replace hh:=fin_x hR1 hh
   refine B.r (S.r ?_)
   obtain rfl:=so hh
   exact rq [4,5] ⟨none,0,z,(RS.nilF _ eS_ eSl_),z⟩
  refine TC.skip (S.n (TC.region (TL.w z (moveMap (.inl z) z) (TL.w z (moveMap (.inr z) z) (TL.nil (B.n (S.n (TC.region (TL.w z (OpVal.succ z z z (by omega)) (TL.i z z (TL.en ?_)))))))))))
  obtain ⟨hh,hlt213⟩:=nxt_x hR1 hh
  exact lf ((v74.1,(k203+1)),(b210_1,τ207)) hlt213 ⟨hh,hr199,hle208⟩ (Sub.f [1] 2)
 refine TC.exit (S.x (S.x ?_))
 replace hh:=fin_x hR1 hh
 refine TC.exitHere (S.n (TC.a (TL.w z (fieldLoc z fo25_0 z) (TL.w z (loadLoc z ag3 z (i:=0) z z) ?_))))
 have u90:=grd_c hh
 replace hh:=grd_t hh
 refine TL.op rfl (makeN (q:=x0.states.toNat) (E:=9) (size:=1) (enc:=eS_) rfl underlying68 sz35 by35 ze35 rfl rfl (vN u90.1) (vN u90.1) (by omega) (by decide) rfl (fun a214 c215 zf216=> ?_))
 refine TL.s z z (TL.en (TC.seq (TC.a (TL.w z (fieldLoc z fo25_2 z) (TL.w z (loadLoc z ag22 z (i:=1) z z) (TL.w z (lenC z underlying22 z) (TL.i z z (TL.en (TC.block (TC.loopG (α:=((List (List (List UInt8)))×Nat)×((List (NP (List UInt8))))) (rgs [(17,1),(91,18)]) (fun g=>[(91,.int .i64 ((g.1.2:Nat):Int))]) (fun g=>[Res.mapB (fun x=>Value.agg (encFPair x).toArray) unitV b202 m201,Res.nest 35 9 1 eS_ (.slice a214 (List.replicate x0.states.toNat ([]:List (List UInt8))).length c215) g.2]) (fun g=>τ207) (fun g=>iter (fun q:(List (List (List UInt8)))×Nat=>C0_ x0 m201 q.1 q.2) g.1=some r∧g.1.1.length=(List.replicate x0.states.toNat ([]:List (List UInt8))).length∧Zn g.2 g.1.1) (fun g=>rounds (fun q:(List (List (List UInt8)))×Nat=>C0_ x0 m201 q.1 q.2) g.1) (((List.replicate x0.states.toNat ([]:List (List UInt8))),0),(List.replicate x0.states.toNat (nilN:NP (List UInt8)))) (Sub.f [2] 2) z (by repeat (first|exact trivial|refine ⟨z,?_⟩)) ⟨hh,z,zf216⟩ (fun g4 j4 hg4=> ?_)))))))))))
 obtain ⟨⟨l229,k233⟩,z231⟩:=g4
 obtain ⟨hh,hn230,zf232⟩:=hg4
 try dsimp only at hn230 zf232 ⊢
 obtain ⟨z1,hh,hR1⟩:=iter_e hh
 dsimp only [C0_]at hh
 have hn230b:=hn230
 have zf232b:=zf232.len
 refine TC.know (isSl_nest (q:=1) z zf232) (fun ⟨_,hb234⟩=> ?_)
 refine TC.a (TL.w z (OpVal.lss z z z) (TL.en (TC.seq (TC.cD z hh (fun h235 hh=> ?_) (fun h235 hh=> ?_)))))
 ·refine TC.skip (S.n (TC.cutG (α:=(Unit)×((List (NP (List UInt8))))) (rgs [(17,1),(93,15)]) (fun g=>[]) (fun g=>[Res.mapB (fun x=>Value.agg (encFPair x).toArray) unitV b202 m201,Res.nest 35 9 1 eS_ (.slice a214 (List.replicate x0.states.toNat ([]:List (List UInt8))).length c215) g.2]) (fun g=>τ207) (fun g=>Ht_ l229 x0 k233=some z1∧(l229.set (((nth x0.ends k233 Tip.zero).state).toNat) ((nth l229 (((nth x0.ends k233 Tip.zero).state).toNat) ([]:List (List UInt8)))++[(nth x0.ends k233 Tip.zero).out])).length=(List.replicate x0.states.toNat ([]:List (List UInt8))).length∧Zn g.2 (l229.set (((nth x0.ends k233 Tip.zero).state).toNat) ((nth l229 (((nth x0.ends k233 Tip.zero).state).toNat) ([]:List (List UInt8)))++[(nth x0.ends k233 Tip.zero).out]))) ?_ (fun g j hg=> ?_)))
  ·skip
   refine TC.block (TC.a (TL.w z (indexN z underlying22 sz62 z z f0_1.rv.sl (by omega)) (TL.w z (loadSA Tip.zero z ag62 sz62 z f0_1 (by omega) (by omega)) (TL.op z (OpOk.alloc z ze62 z z (fun b239=> ?_))))))
   refine TL.op z (storeAll z sz62 z z z z z z ?_)
   refine TL.en ?_
   have u107:=grd_c hh
   replace hh:=grd_t hh
   have u112:=grd_c hh
   replace hh:=grd_t hh
   have u113:=grd_c hh
   replace hh:=grd_t hh
   refine TC.drawR (Hr:=[Res.cells b239 #[.int .i64 ((nth x0.ends k233 Tip.zero).state),.string (bs ((nth x0.ends k233 Tip.zero).out))] 62,Res.mapB (fun x=>Value.agg (encFPair x).toArray) unitV b202 m201]) (fun r hr=>mem_pick [0,1] z hr) [] (by kernel_rfl) (TA.a 0 z (moveSl (.inl z) z) z (TA.a 1 z (fieldLoc z fo62_0 z) z (TA.b 2 z (loadLoc z ag3 z (i:=0) z z) z (TA.a 3 z (moveSl (.inl z) z) z (TA.a 4 z (fieldLoc z fo62_0 z) z (TA.b 5 z (loadLoc z ag3 z (i:=0) z z) z (TA.know (isSl_nest (q:=2) z zf232) (fun ⟨hs252,hs252b⟩=> ?_))))))))
   refine TA.b 6 z (OpVal.index z underlying68 sz35 z z hs252 u107.1 u107.2) z (TA.a 8 z (fieldLoc z fo62_1 z) z (TA.b 9 z (loadLoc z ag9 z (i:=0) z z) z ?_))
   obtain ⟨p253,hz253,hm253⟩:=Zn.at zf232 (i:=((nth x0.ends k233 Tip.zero).state).toNat) (by omega)
   refine TA.actN [7,10] (by kernel_rfl) (an z z (OpVal.ok (loadN z ag35 z (q:=2) z hz253 hm253) z z ⟨(fun w h=>sees_of (Store.le.refl _) (fun r hr=>mem_pick [0,1] z hr) w h),?_⟩) (an z z (OpOk.lit (enc:=eS_) [(nth x0.ends k233 Tip.zero).out] z underlying35 sz9 ze9 z z z eSl_ (by decide) (by decide) ([]:List UInt8) z (by decide) z (by decide) eSo_ (fun a254 c255=>⟨(fun w h=>sees_of (Store.le.refl _) (fun r hr=>mem_pick [1,2] z hr) w h),?_⟩)) (True.intro)))
   ·skip
    refine TA.ac 10 z (OpOk.lit (enc:=eS_) [(nth x0.ends k233 Tip.zero).out] z underlying35 sz9 ze9 z z z eSl_ (by decide) (by decide) ([]:List UInt8) z (by decide) z (by decide) eSo_ (fun a257 c258=>⟨(fun w h=>sees_of (Store.le.refl _) (fun r hr=>mem_pick [1,2] z hr) w h),?_⟩))
    refine TA.front 3 z z (TA.by (fun w h=>Reach.takeN hz253 hm253 h) (TA.ac 11 z (appendS z z underlying35 sz9 by9 ze9 z z (by decide) z z z (.inr ⟨_,1,z⟩) (by simpa using u112) (by decide) (fun a261 c262=>(k3 ?_)))))
    refine TA.know (isSl_nestX (q:=1) z zf232) (fun ⟨hs263,hs263b⟩=> ?_)
    refine TA.b 12 z (OpVal.index z underlying68 sz35 z z hs263 u113.1 u113.2) z (TA.front 1 z z (TA.front 1 z z ?_))
    have hn265:(l229.set (((nth x0.ends k233 Tip.zero).state).toNat) ((nth l229 (((nth x0.ends k233 Tip.zero).state).toNat) ([]:List (List UInt8)))++[(nth x0.ends k233 Tip.zero).out])).length=(List.replicate x0.states.toNat ([]:List (List UInt8))).length:=(List.length_set ..).trans hn230
    refine TA.ac 13 rfl (storeX (l':=((nth l229 (((nth x0.ends k233 Tip.zero).state).toNat) ([]:List (List UInt8)))++[(nth x0.ends k233 Tip.zero).out])) rfl sz35 rfl rfl rfl rfl rfl (by rw [zf232.len];omega) zf232 (fun zf264=>(k2 ?_)))
    exact TA.dn (B.n (S.n (cf ((),(z231.set (((nth x0.ends k233 Tip.zero).state).toNat) (((nth l229 (((nth x0.ends k233 Tip.zero).state).toNat) ([]:List (List UInt8)))++[(nth x0.ends k233 Tip.zero).out]),(a261,c262)))) ⟨hh,hn265,zf264⟩ (Sub.f [3] 2))))
   skip
   obtain ⟨p266,hz266,hm266⟩:=Zn.at zf232 (i:=((nth x0.ends k233 Tip.zero).state).toNat) (by omega)
   refine TA.ac 7 z (OpVal.ok (loadN z ag35 z (q:=3) z hz266 hm266) z z ⟨(fun w h=>sees_of (Store.le.refl _) (fun r hr=>mem_pick [1,2] z hr) w h),?_⟩)
   refine TA.front 3 z z (TA.by (fun w h=>Reach.takeN hz266 hm266 h) (TA.ac 11 z (appendS z z underlying35 sz9 by9 ze9 z z (by decide) z z z (.inr ⟨_,1,z⟩) (by simpa using u112) (by decide) (fun a268 c269=>(k3 ?_)))))
   refine TA.know (isSl_nestX (q:=1) z zf232) (fun ⟨hs270,hs270b⟩=> ?_)
   refine TA.b 12 z (OpVal.index z underlying68 sz35 z z hs270 u113.1 u113.2) z (TA.front 1 z z (TA.front 1 z z ?_))
   have hn272:(l229.set (((nth x0.ends k233 Tip.zero).state).toNat) ((nth l229 (((nth x0.ends k233 Tip.zero).state).toNat) ([]:List (List UInt8)))++[(nth x0.ends k233 Tip.zero).out])).length=(List.replicate x0.states.toNat ([]:List (List UInt8))).length:=(List.length_set ..).trans hn230
   refine TA.ac 13 rfl (storeX (l':=((nth l229 (((nth x0.ends k233 Tip.zero).state).toNat) ([]:List (List UInt8)))++[(nth x0.ends k233 Tip.zero).out])) rfl sz35 rfl rfl rfl rfl rfl (by rw [zf232.len];omega) zf232 (fun zf271=>(k2 ?_)))
   exact TA.dn (B.n (S.n (cf ((),(z231.set (((nth x0.ends k233 Tip.zero).state).toNat) (((nth l229 (((nth x0.ends k233 Tip.zero).state).toNat) ([]:List (List UInt8)))++[(nth x0.ends k233 Tip.zero).out]),(a268,c269)))) ⟨hh,hn272,zf271⟩ (Sub.f [3] 2))))
  skip
  obtain ⟨_,z237⟩:=g
  obtain ⟨hh,hn236,zf238⟩:=hg
  try dsimp only at hn236 zf238 ⊢
  dsimp only [Ht_]at hh
  have hn236b:=hn236
  have zf238b:=zf238.len
  refine TC.know (isSl_nest (q:=1) z zf238) (fun ⟨_,hb273⟩=> ?_)
  refine TC.region (TL.w z (OpVal.succ z z z (by omega)) (TL.i z z (TL.en ?_)))
  obtain ⟨hh,hlt274⟩:=nxt_x hR1 hh
  exact lf (((l229.set (((nth x0.ends k233 Tip.zero).state).toNat) ((nth l229 (((nth x0.ends k233 Tip.zero).state).toNat) ([]:List (List UInt8)))++[(nth x0.ends k233 Tip.zero).out])),(k233+1)),z237) hlt274 ⟨hh,hn236,zf238⟩ (Sub.f [1,1] 2)
 refine TC.exit (S.x (S.x ?_))
 replace hh:=fin_x hR1 hh
 refine TC.exitHere (S.n (TC.a (TL.s z z (TL.en (TC.seq (TC.a (TL.w z (moveMap (.inl z) z) (TL.op z (rangeB z underlying60 z z z (fun it275 l276 hl277=> ?_))))))))))
 refine TL.en (TC.block (TC.nilS 9 1 eS_ (TC.loopG (α:=((List (List UInt8)))×((Option Addr)×Nat×(List (FPair×Unit))×(Option (FPair×Unit)))) (rgs [(18,2),(21,1),(111,22)]) (fun g=>[(18,.slice g.2.1 g.1.length g.2.2.1)]) (fun g=>[Res.nest 35 9 1 eS_ (.slice a214 (List.replicate x0.states.toNat ([]:List (List UInt8))).length c215) z231,Res.rowS 9 1 eS_ (.slice g.2.1 g.1.length g.2.2.1) g.1,Res.rng (fun x=>Value.agg (encFPair x).toArray) unitV b202 it275 m201 g.2.2.2.1 g.2.2.2.2]) (fun g=>τ207) (fun g=>runA (fun (q:(List (List UInt8))) (oE:Option (FPair×Unit))=>C3_ l229 q oE) g.2.2.2.1 g.1=some r∧l229.length=(List.replicate x0.states.toNat ([]:List (List UInt8))).length∧Zn z231 l229) (fun g=>List.length g.2.2.2.1) (([]:List (List UInt8)),(none,0,l276,none)) (Sub.f [1,1,2] 3) z (by repeat (first|exact trivial|refine ⟨z,?_⟩)) ⟨(runA_of hh hl277),hn230,zf232⟩ (fun g5 j5 hg5=> ?_))))
 obtain ⟨l299,⟨a300,c301,l302,o303⟩⟩:=g5
 obtain ⟨hh,hn296,zf297⟩:=hg5
 try dsimp only at hn296 zf297 ⊢
 have hn296b:=hn296
 have zf297b:=zf297.len
 refine TC.know (isSl_nest (q:=0) z zf297) (fun ⟨_,hb305⟩=> ?_)
 refine TC.isSl (i:=1) z (fun _ hb306 _=> ?_)
 refine TC.a (TL.front 2 z z (TL.op z (nextB (T:=0) z z z z z (fun hl307=> ?_) (fun l308 v120c l309 hl307=> ?_))))
 ·subst hl307
  obtain ⟨z1,hh,hR1⟩:=runA_end hh
  dsimp only [C3_,optE_none]at hh
  refine TL.by (fun w h=>Reach.unrng h) (TL.w z (OpVal.extract z z z) (TL.en (TC.seq (TC.f z (TC.exit (S.x (S.x ?_)))))))
  replace hh:=finE_x hR1 hh
  refine TC.exitHere (S.n (TC.a (TL.s z z (TL.front 2 z z (TL.sealS eSl_ (fun τ312 hle311 hr310=> ?_))))))
  have hr310b:=hr310.rv.big
  obtain ⟨v148,u148,hh⟩:=bnd_e hh
  refine TL.op z (OpOk.call (Kh_ hr310 u148) z z pf18 z z z z ?_)
  rintro _ _ _ hle313 ⟨a313_1,c313_1,rfl,rfl,rfl⟩
  refine TL.s z z (TL.i z z (TL.en (TC.sealS eSl_ (fun τ317 hle316 hr315=> ?_))))
  have hr315b:=hr315.rv.big
  refine TC.rt 0 ?_
  obtain rfl:=so hh
  exact rq [4,5] ⟨a313_1,c313_1,z,hr315,z⟩
 subst hl307
 obtain ⟨z1,hh,hR1⟩:=runA_step hh
 dsimp only [C3_,optE_some]at hh
 refine TL.w z (OpVal.extract z z z) (TL.en (TC.seq (TC.t z (TC.skip (S.n (TC.block (TC.a (TL.w z (OpVal.of (entryB z z (i:=0) z) (v':= .tuple #[.agg #[.int .i64 v120c.1.state,.string (bs v120c.1.out)],.agg #[]]) z) (TL.w z (OpVal.extract z z z) (TL.op z (OpOk.alloc z ze65 z z (fun b318=> ?_))))))))))))
 refine TL.op z (storeAll z sz65 z z z z z z ?_)
 refine TL.en (TC.a (TL.s z z (TL.w z (fieldLoc z fo65_0 z) (TL.w z (loadLoc z ag3 z (i:=0) z z) ?_))))
 have u129:=grd_c hh
 replace hh:=grd_t hh
 refine TL.know (isSl_nest (q:=2) z zf297) (fun ⟨hs320,hs320b⟩=> ?_)
 refine TL.w z (OpVal.index z underlying68 sz35 z z hs320 u129.1 u129.2) ?_
 obtain ⟨p321,hz321,hm321⟩:=Zn.at zf297 (i:=v120c.1.state.toNat) (by omega)
 refine TL.w z (loadN z ag35 z (q:=2) z hz321 hm321) (TL.w z (lenC z underlying35 z) (TL.i z z (TL.en (TC.block (TC.loopG (α:=((List (List UInt8))×Nat)×((Option Addr)×Nat)) (rgs [(18,1),(21,1),(121,12)]) (fun g=>[(18,.slice g.2.1 g.1.1.length g.2.2),(121,.int .i64 ((g.1.2:Nat):Int))]) (fun g=>[Res.nest 35 9 1 eS_ (.slice a214 (List.replicate x0.states.toNat ([]:List (List UInt8))).length c215) z231,Res.rowS 9 1 eS_ (.slice g.2.1 g.1.1.length g.2.2) g.1.1,Res.cells b318 #[.int .i64 v120c.1.state,.string (bs v120c.1.out)] 65,Res.rng (fun x=>Value.agg (encFPair x).toArray) unitV b202 it275 m201 (l308++l309) (some v120c)]) (fun g=>τ207) (fun g=>iter (fun q:(List (List UInt8))×Nat=>Cy_ l229 v120c q.1 q.2) g.1=some z1∧l229.length=(List.replicate x0.states.toNat ([]:List (List UInt8))).length∧Zn z231 l229) (fun g=>rounds (fun q:(List (List UInt8))×Nat=>Cy_ l229 v120c q.1 q.2) g.1) ((l299,0),(a300,c301)) (Sub.f [1,1,3,3] 4) z (by repeat (first|exact trivial|refine ⟨z,?_⟩)) ⟨hh,hn296,zf297⟩ (fun g6 j6 hg6=> ?_))))))
 obtain ⟨⟨l338,k341⟩,⟨a339,c340⟩⟩:=g6
 obtain ⟨hh,hn336,zf337⟩:=hg6
 try dsimp only at hn336 zf337 ⊢
 obtain ⟨z2,hh,hR2⟩:=iter_e hh
 dsimp only [Cy_]at hh
 have hn336b:=hn336
 have zf337b:=zf337.len
 refine TC.know (isSl_nest (q:=0) z zf337) (fun ⟨_,hb342⟩=> ?_)
 refine TC.isSl (i:=1) z (fun _ hb343 _=> ?_)
 refine TC.a (TL.w z (OpVal.lss z z z) (TL.en (TC.seq (TC.cD z hh (fun h344 hh=> ?_) (fun h344 hh=> ?_)))))
 ·refine TC.skip (S.n (TC.seq (TC.block (TC.a (TL.know (isSl_inner (q:=0) z hz321 hm321) (fun ⟨hs345,hs345b⟩=> ?_))))))
  refine TL.w z (indexN z underlying35 sz9 z z hs345 (by omega)) (TL.w z (OpVal.seen (sees_inner (q:=0) z hz321 hm321) (loadO1 ([]:List UInt8) z ag9 z (q:=0) z eSl_ (by omega) z)) (TL.w z (moveStr (.inr z) z) (TL.en (TC.region (TL.s z z (TL.w z (fieldLoc z fo65_1 z) (TL.w z (loadLoc z ag9 z (i:=2) z z) (TL.w z (moveStr (.inl z) z) ?_))))))))
  have u141:=grd_c hh
  replace hh:=grd_t hh
  refine TL.w z (catBs z z z u141) (TL.op z (OpOk.lit (enc:=eS_) [(v120c.1.out++(nth (nth l229 v120c.1.state.toNat ([]:List (List UInt8))) k341 ([]:List UInt8)))] z underlying35 sz9 ze9 z z z eSl_ (by decide) (by decide) ([]:List UInt8) z (by decide) z (by decide) eSo_ (fun a346 c347=> ?_)))
  refine TL.front 2 z z ?_
  have u143:=grd_c hh
  replace hh:=grd_t hh
  refine TL.op z (appendS z z underlying35 sz9 by9 ze9 z z (by decide) z z z (.inr ⟨_,0,z⟩) (by simpa using u143) (by decide) (fun a349 c350=> ?_))
  refine TL.s z z (TL.nil (B.n (S.n (TC.region (TL.w z (OpVal.succ z z z (by omega)) (TL.i z z (TL.en ?_)))))))
  obtain ⟨hh,hlt351⟩:=nxt_x hR2 hh
  exact lf (((l338++[(v120c.1.out++(nth (nth l229 v120c.1.state.toNat ([]:List (List UInt8))) k341 ([]:List UInt8)))]),(k341+1)),(a349,c350)) hlt351 ⟨hh,hn336,zf337⟩ (Sub.f [4,4,2,4] 4)
 refine TC.exit (S.x (S.x ?_))
 replace hh:=fin_x hR2 hh
 refine TC.exitHere (B.n (S.n ?_))
 replace hh:=nxtA_x hR1 hh
 exact lf (l338,(a339,c340,(l308++l309),(some v120c))) (by simp) ⟨hh,hn336,zf337⟩ (Sub.f [3,2,2] 3)
end Go.Proofs.YtnpbfjdpglfdkaaGreatDoor
end

noncomputable section
namespace Go.E
open Go
section
variable {α:Type} {σ:Store} {size m c:Nat} {enc:α→List Value} {a:Option Addr} {l:List α}
theorem RS.takeF(h:RS σ size enc (.slice a m c) l)(j:Nat)(hj:j≤l.length):RS σ size enc (.slice a (l.take j).length c) (l.take j):=by
  have hlj:(l.take j).length=j:=by rw [List.length_take];omega
  obtain ⟨a1,c1,hv,hn,hc⟩:=h.rv.sl
  cases hv
  rw [hlj]
  refine ⟨⟨⟨a,c,by rw [hlj],fun ha=> ?_,by omega⟩,by rw [flatMap_len h.len],?_,fun u hu=>h.rv.one u (by rw [take_flat h.len]at hu;exact List.mem_of_mem_take hu),by have:=h.rv.big;omega⟩,h.len⟩
  · obtain ⟨h1,h2⟩:=hn ha;exact ⟨by omega,h2⟩
  intro ad m' c' hv i u hi
  cases hv
  rw [take_flat h.len,List.getElem?_take]at hi
  split at hi
  · exact h.rv.cell ad _ c rfl i u hi
  cases hi
theorem RS.dropF(h:RS σ size enc (.slice a m c) l)(i:Nat)(hi:i≤l.length):RS σ size enc (.slice (if c=i then a else a.map (·.add (i * size))) (l.drop i).length (c - i)) (l.drop i):=by
  have hlj:(l.drop i).length=l.length - i:=by rw [List.length_drop]
  obtain ⟨a1,c1,hv,hn,hc⟩:=h.rv.sl
  cases hv
  rw [hlj]
  refine ⟨⟨⟨_,_,by rw [hlj],fun ha=> ?_,by omega⟩,by rw [flatMap_len h.len],?_,fun u hu=>h.rv.one u (by rw [drop_flat h.len]at hu;exact List.mem_of_mem_drop hu),by have:=h.rv.big;omega⟩,h.len⟩
  · split at ha
    · obtain ⟨h1,h2⟩:=hn ha;omega
    cases a with
    |none=>obtain ⟨h1,h2⟩:=hn rfl;omega
    |some ad=>simp at ha
  intro ad m' c' hv j u hj
  rw [drop_flat h.len,List.getElem?_drop]at hj
  have hjl:=(List.getElem?_eq_some_iff.1 hj).1
  rw [flatMap_len h.len]at hjl
  have hil:i<l.length:=by
    rcases Nat.lt_or_ge i l.length with h1|h1
    · exact h1
    have:=Nat.mul_le_mul_right size h1;omega
  have hci: ¬ c=i:=by omega
  rw [if_neg hci]at hv
  cases a with
  |none=>simp at hv
  |some a0=>
    simp only [Option.map_some,Value.slice.injEq,Option.some.injEq]at hv
    obtain ⟨rfl,_⟩:=hv
    rw [add_add]
    exact h.rv.cell a0 _ c rfl _ u hj
theorem RS.sub(h:RS σ size enc (.slice a m c) l)(i j:Nat)(hij:i≤j∧j≤l.length): ∃(a':Option Addr) (c':Nat),RS σ size enc (.slice a' ((l.take j).drop i).length c') ((l.take j).drop i)∧
    ∀{P:Program} {n:Nat} {e:Env} {H:List Res} {o:Oper} {x y z:Operand} {T E:TypeId} {k k':IntKind} (_:o.op= .slice T x (some z) (some y) none) (_:P.underlying T=some (.slice E)) (_:szOf P E=some size) (_:ev e x= .slice a m c) (_:ev e z= .int k (i:Nat)) (_:ev e y= .int k' (j:Nat)),OpVal P n o e σ H (.slice a' ((l.take j).drop i).length c'):=by
  have hlj:(l.take j).length=j:=by rw [List.length_take];omega
  have hll:((l.take j).drop i).length=j - i:=by rw [List.length_drop,hlj]
  refine ⟨_,_,(h.takeF j hij.2).dropF i (by omega),?_⟩
  obtain ⟨a1,c1,hv,hn,hc⟩:=h.rv.sl
  cases hv
  rw [hll]
  intro P n e H o x y z T E k k' ho hT hs hx hz hy w _
  have hsz:=run_sizeOf (P:=P) hs
  have hrun:(Instr.slice T (.slice a l.length c) (some (.int k i)) (some (.int k' j)) none).run P w= .ok (.slice (if c=i then a else a.map (·.add (i * size))) (j - i) (c - i)) w:=by
    simp [Instr.slice,Instr.sliceBounds,Instr.sliceBound,asIntOf,run_underlying hT,hsz]
    rw [if_pos (show j≤c by omega),if_pos hij.1]
  simp [execOp,ho,hx,hz,hy,Instr.sliceAt,run_underlying hT,hrun]
end
end Go.E
end

noncomputable section
namespace Go.E
open Go
theorem OpOk.storeFn{X:Ctx}{e:Env}{F:List Res}{o:Oper}{x y:Operand}{K:Env→Store→List Res→Prop}{T b k:Nat}{E:TypeId}{cs cs':Array Value}{f:Fn}{xs ys:Array Value}(ho:o.op= .store T x y)(hs:szOf X.P T=some 1)(hd:o.dst=none)(hx:ev e x=loc b k)(hfit:Nat.ble (k+1) cs.size=true)
    (hv:ev e y= .func f xs ys) (hcs:(splice cs.toList k [.func f xs ys]).toArray=cs') (kk:K e σ (Res.cells b cs' E::F)):OpOk X o e σ (Res.cells b cs E::F) K:=OpOk.store1 ho hs hd hx hv rfl rfl hfit hcs kk
def SC(σ:Store)(b:Nat)(cs:Array Value)(E:TypeId):Prop:=σ b=some (.cells cs E (0,0))
theorem SC.big{b:Nat}{cs:Array Value}{E:TypeId}(_:SC σ b cs E):True:=True.intro
end Go.E
end

noncomputable section
namespace Go.E
open Go
structure YSpec (S:Type) where
  R:S→Store→Res→Prop
  mono: ∀{s σ σ' r},R s σ r→σ.le σ'→R s σ' r
def YR{S:Type}(Z:YSpec S)(s:S)(σ:Store)(r:Res):Prop:=Z.R s σ r
theorem YR.mono{S:Type}{Z:YSpec S}{s:S}{σ σ':Store}{r:Res}(h:YR Z s σ r)(hle:σ.le σ'):YR Z s σ' r:=Z.mono h hle
def YOk (P : Program) (l : Nat) {S α : Type} (A : α → Store → List Value → Prop) (Z : YSpec S) (Y : S → α → Option (S × Bool)) : Prop :=
  ∀s x σ r args w s' b,Y s x=some (s',b)→A x σ args→YR Z s σ r→Reach w r.bl σ σ w [r]→
    YieldAt (fence none) 0 P l args.toArray w fun e w'=>e= .returned (.bool b)∧ ∃σ' r',YR Z s' σ' r'∧Reach w r.bl σ σ' w' [r']
def IterOk (P : Program) (f : FuncId) (lb : List Value) {S α : Type} (A : α → Store → List Value → Prop) (Y : S → α → Option (S × Bool)) (σ : Store) (Hc : List Res) (s s' : S) (Post : Store → List Res → Prop) : Prop :=
  ∀(l:Nat) (Z:YSpec S) (r:Res),YOk P l A Z Y→YR Z s σ r→
    Con P f (.func (.yield l) #[] #[]::lb).toArray σ (r::Hc) fun _ σ' H'=> ∃r' Hc',H'=r'::Hc'∧YR Z s' σ' r'∧Post σ' Hc'
theorem OpOk.callY{X:Ctx}{e:Env}{H F:List Res}{o:Oper}{x:Operand}{K:Env→Store→List Res→Prop}{l d:Nat}{opds:Array Operand}{ts:Array TypeId}{S α:Type}{A:α→Store→List Value→Prop}{Z:YSpec S}{Y:S→α→Option (S×Bool)}{s:S}{q:S×Bool}{v:α}{r:Res}
    (hY:YOk X.P l A Z Y) (hs:YR Z s σ r) (he:Y s v=some q) (ho:o.op= .call {callee:= .value x,args:=opds,argTypes:=ts})
    (hx:ev e x= .func (.yield l) #[] #[]) (hA:A v σ (opds.toList.map (ev e))) (hd:o.dst=some d) (hn:Nat.blt d X.n=true) (hH:r::F=H)
    (k: ∀σ' r',σ.le σ'→YR Z q.1 σ' r'→K (upd e d (.bool q.2)) σ' (r'::F)):OpOk X o e σ H K:=by
  subst hH
  obtain ⟨s',b⟩:=q
  intro u0 C0 τ0 w a hw ha K' Q hK
  have hbl:blks [r]=r.bl:=by simp [blks]
  have hself:Reach w r.bl σ σ w [r]:=by
    have:=(hw.sub (H':=[r]) (by simp)).self
    rwa [hbl]at this
  obtain ⟨fn,tmps,assign,body,hrun,hround⟩:=hY s v σ r _ w s' b he hA hs hself
  have hr:(execOp a.eval o).run X.P w= .ok (.round l fn tmps assign body) w:=by
    rw [ha.eval']
    have hl:(opds.toList.map (ev e)).toArray=opds.map (ev e):=by apply Array.ext';simp
    rw [hl]at hrun
    simp [execOp,ho,resolve,hx,Deferred.ofValue,invoke,hrun]
  refine Oper.wp_run hr (fun _=>by simp) ?_
  rw [Oper.uponIn_round]
  refine ⟨fun h=>(by cases h),RoundIn.mono (R:=fun e w'=>e= .returned (.bool b)∧ ∃σ' r',YR Z s' σ' r'∧Reach w r.bl σ σ' w' [r']) hround ?_⟩
  rintro ex w' ⟨rfl,σ',r',h1,h2⟩
  refine hK _ _ _ _ _ (k σ' r' h2.le h1) (Reach.call (H1:=[r]) (H1':=[r']) hw (by rw [hbl];exact h2)) (put_dst ha hd hn _)
def Res.lrec(b:Nat)(o:Obj):Res:=⟨[b],fun w=>w.heap[b]? =some o,fun w k hk h=>by simp at hk;subst hk;exact (Array.getElem?_eq_some_iff.1 h).1,fun w w' hb h=>by rw [hb b (by simp)];exact h⟩
theorem Reach.turnRec{w0:World}{C:List Nat}{σ0 σ:Store}{w:World}{l:Nat}{o o':Obj}{F:List Res}(h:Reach w0 C σ0 σ w (Res.lrec l o::F)):Reach w0 C σ0 σ (w.putObj l o') (Res.lrec l o'::F):=by
  have hl:w.heap[l]? =some o:=h.holds _ (List.mem_cons_self ..)
  refine h.turn rfl rfl rfl (by simp [World.putObj]) (Nat.le_refl _) (fun k _ hk=>World.putObj_heap_other (fun e=>hk (by simp [Res.lrec,e]))) (World.putObj_heap_same (Array.getElem?_eq_some_iff.1 hl).1) (fun b hb=> .inl hb) (by simp [Res.lrec])
theorem Reach.tail{w0:World}{C:List Nat}{σ0 σ:Store}{w:World}{r:Res}{F:List Res}(h:Reach w0 C σ0 σ w (r::F)):Reach w (blks F) σ σ w F:=(h.sub (List.sublist_cons_self ..)).self
theorem Reach.callT{w0:World}{C:List Nat}{σ0 σ σ':Store}{w w':World}{r:Res}{F F':List Res}(h:Reach w0 C σ0 σ w (r::F))(k:Reach w (blks F) σ σ' w' F'):Reach w0 C σ0 σ' w' (r::F'):=by
  have h1:Reach w0 C σ0 σ w (F++[r]):=h.perm (List.perm_append_singleton r F)
  exact (h1.call k).perm (List.perm_append_singleton r F').symm
def bindE(e:Env)(ps:List Tmp)(vs:List Value):Env:=(ps.zip vs).foldl (fun e p=>upd e p.1 p.2) e
theorem St.binds{n:Nat}: ∀(ps:List Tmp) (vs:List Value) {e:Env} {t:Array Value},(∀p∈ps,p<n)→St n e {tmps:=t,defers:=[]}→St n (bindE e ps vs) {tmps:=(ps.zip vs).foldl (fun t p=>t.setIfInBounds p.1 p.2) t,defers:=[]}
  |[],_,_,_,_,h=>h
  |_::_,[],_,_,_,h=>h
  |p::ps,v::vs,e,t,hp,h=>by
    have h1:=h.put (hp p (List.mem_cons_self ..)) v
    exact St.binds ps vs (fun q hq=>hp q (List.mem_cons_of_mem _ hq)) h1
@[reducible]def asgQ(K:Env→Store→List Res→Prop):QP:=fun ex=>match ex with
  | .normal=>K
  |_=>fun _ _ _=>False
@[reducible]def rndQ(J:List Code)(K:Nat→Store→List Res→Prop):QP:=fun ex _ σ H=>match ex with
  | .normal=>K 0 σ H
  | .ret=> ∃j,J[j]? =some .ret∧K (j+1) σ H
  | .exit i=> ∃j,J[j]? =some (.exit i)∧K (j+1) σ H
  | .goto i=> ∃j,J[j]? =some (.goto i)∧K (j+1) σ H
  |_=>False
def stepY{S α:Type}(B:S→α→Option (Nat×S))(p:Nat×S)(x:α):Option ((Nat×S)×Bool):=
  if p.1=0 then (B p.2 x).bind fun q=>some (q,q.1 == 0) else none
theorem stepY_some{S α:Type}{B:S→α→Option (Nat×S)}{p p':Nat×S}{x:α}{b:Bool}(h:stepY B p x=some (p',b)):p.1=0∧B p.2 x=some p'∧b=(p'.1 == 0):=by
  unfold stepY at h
  split at h
  · rename_i h0
    cases hb:B p.2 x with
    |none=>simp [hb]at h
    |some q=>simp [hb]at h;exact ⟨h0,by rw [h.1],by rw [←h.2,h.1]⟩
  cases h
abbrev mkRec(fn:FuncId)(tmps:Array Value)(ps:Array Tmp)(assign body:Code)(D:Nat)(st:LoopState)(pe:Option Code):Loop:={state:=st,pending:=pe,fn,tmps,params:=ps,assign,body,defers:=D}
def recOf(rec:LoopState→Option Code→Loop)(J:List Code)(j:Nat):Obj:= .loop (if j=0 then rec .ready none else rec .done (J[j - 1]?))
def rndZ{S:Type}(l:Nat)(rec:LoopState→Option Code→Loop)(J:List Code)(σs:Store)(G:S→Store→List Res→Prop)(hG: ∀{s σ σ' H},G s σ H→σ.le σ'→G s σ' H):YSpec (Nat×S) where
  R p σ r:= ∃Hs,r=Res.star (Res.lrec l (recOf rec J p.1)::Hs)∧G p.2 σ Hs∧σs.le σ∧(p.1≠0→ ∃c,J[p.1 - 1]? =some c)
  mono:=fun ⟨Hs,h1,h2,h3,h4⟩ hle=>⟨Hs,h1,hG h2 hle,h3.trans hle,h4⟩
theorem rec_far{w0:World}{C:List Nat}{σ0 σ:Store}{w:World}{l:Nat}{o:Obj}{F:List Res}(h:Reach w0 C σ0 σ w (Res.lrec l o::F)):l∉blks F∧σ l=none:=by
  have hn:=h.nodup
  simp only [blks,List.flatMap_cons,Res.lrec,List.cons_append,List.nil_append,List.nodup_cons]at hn
  exact ⟨hn.1,h.apart _ (List.mem_cons_self ..) l (by simp [Res.lrec])⟩
theorem yOk_of {P : Program} {n l : Nat} {S α : Type} {A : α → Store → List Value → Prop} {J : List Code} {B : S → α → Option (Nat × S)} {σs : Store} {G : S → Store → List Res → Prop} {hG : ∀ {s σ σ' H}, G s σ H → σ.le σ' → G s σ' H} {fn : FuncId} {ps : Array Tmp} {assign body : Code} {e : Env} {tmps : Array Value} {D : Nat}
    (hst:St n e {tmps:=tmps,defers:=[]}) (hps: ∀p∈ps.toList,p<n) (hA: ∀x σ vs,A x σ vs→vs.length=ps.size)
    (hbody: ∀(w0:World) (C:List Nat) (τ σ:Store) (s:S) (x:α) (q:Nat×S) (vs:List Value) (Hs:List Res),B s x=some q→σs.le σ→A x σ vs→G s σ Hs→
      TC ⟨P,w0,C,τ,n,some l,none⟩ (asgQ fun e σ H=> ∀w0 C τ,TC ⟨P,w0,C,τ,n,some l,none⟩ (rndQ J fun j σ H=>q.1=j∧G q.2 σ H) body e σ H) assign (bindE e ps.toList vs) σ Hs):
    YOk P l A (rndZ l (mkRec fn tmps ps assign body D) J σs G hG) (stepY B):=by
  rintro p x σ r args w p' b hy hax ⟨Hs,rfl,hg,hle, -⟩ hw
  obtain ⟨hp0,hB,rfl⟩:=stepY_some hy
  rw [hp0]at hw
  have hw1:Reach w (Res.star (Res.lrec l (recOf (mkRec fn tmps ps assign body D) J 0)::Hs)).bl σ σ w (Res.lrec l (.loop (mkRec fn tmps ps assign body D .ready none))::Hs):=by
    have:=hw.unstar
    rw [List.append_nil]at this
    exact this
  have hlen:=hA x σ args hax
  have hl1:w.heap[l]? =some (.loop (mkRec fn tmps ps assign body D .ready none)):=hw1.holds _ (List.mem_cons_self ..)
  have hy:=run_yield (P:=P) (args:=args.toArray) hl1 (by simpa using hlen)
  refine ⟨fn,_,assign,body,hy,roundIn_of_wpIn trivial ?_⟩
  have hz:(ps.zip args.toArray).foldl (fun t (p,v)=>t.setIfInBounds p v) tmps=(ps.toList.zip args).foldl (fun t p=>t.setIfInBounds p.1 p.2) tmps:=by
    rw [←Array.foldl_toList,Array.toList_zip]
  have hS:St n (bindE e ps.toList args) {tmps:=(ps.zip args.toArray).foldl (fun t (p,v)=>t.setIfInBounds p v) tmps,defers:=[]}:=by
    rw [hz];exact St.binds _ _ hps hst
  refine wpIn_mono (hbody w (blks Hs) σ σ p.2 x p' args Hs hB hle hax hg w _ ⟨hw1.tail,⟨fun _=>⟨[],rfl,List.nodup_nil,by simp⟩,(fun _ h=>by cases h),fun l' hl'=> ?_⟩⟩ hS) ?_
  · cases hl';exact ⟨rfl,⟨_,hl1⟩,(rec_far hw1).1,(rec_far hw1).2⟩
  rintro ex a2 w2 ⟨e2,σ2,H2,hS2,hw2,hq2⟩
  cases ex with
  |normal=>
    have hw2':=hw1.callT hw2.toReach
    have hl2:w2.heap[l]? =some (.loop (mkRec fn tmps ps assign body D .ready none)):=hw2'.holds _ (List.mem_cons_self ..)
    have hw3:=hw2'.turnRec (o':= .loop (mkRec fn tmps ps assign body D .busy none))
    have hl3:(w2.putObj l (.loop (mkRec fn tmps ps assign body D .busy none))).heap[l]? =some (.loop (mkRec fn tmps ps assign body D .busy none)):=hw3.holds _ (List.mem_cons_self ..)
    have hd2:a2.defers=[]:=(hw2.marks.rc l rfl).1
    refine ⟨_,run_beginRound hl2 rfl,?_⟩
    refine wpIn_mono (hq2 _ (blks H2) σ2 _ a2 ⟨hw3.tail,⟨fun _=>⟨[],by rw [hd2];rfl,List.nodup_nil,by simp⟩,(fun _ h=>by cases h),fun l' hl'=> ?_⟩⟩ hS2) ?_
    · cases hl';exact ⟨hd2,⟨_,hl3⟩,(rec_far hw3).1,(rec_far hw3).2⟩
    rintro ex a4 w4 ⟨e4,σ4,H4,hS4,hw4,hq4⟩
    have hw4':=hw3.callT hw4.toReach
    have hl4:w4.heap[l]? =some (.loop (mkRec fn tmps ps assign body D .busy none)):=hw4'.holds _ (List.mem_cons_self ..)
    have fin: ∀(jump:Option Code) (j:Nat),p'.1=j→(j=0→jump=none)→(j≠0→jump=J[j - 1]? ∧ ∃c,jump=some c)→G p'.2 σ4 H4→ ∃v w',(Instr.endRound l jump).run P w4= .ok v w'∧(Ending.returned v= .returned (.bool (p'.1 == 0))∧ ∃σ' r',YR (rndZ l (mkRec fn tmps ps assign body D) J σs G hG) p' σ' r'∧Reach w (Res.star (Res.lrec l (recOf (mkRec fn tmps ps assign body D) J p.1)::Hs)).bl σ σ' w' [r']):=fun jump j h1 h2 h3 h4=>by
      have h6:Obj.loop (mkRec fn tmps ps assign body D (if jump.isNone then .ready else .done) jump)=recOf (mkRec fn tmps ps assign body D) J p'.1:=by
        unfold recOf
        rw [h1]
        by_cases h0:j=0
        · rw [if_pos h0,h2 h0];rfl
        obtain ⟨h7,c,h8⟩:=h3 h0
        rw [if_neg h0,←h7,h8];rfl
      refine ⟨_,_,run_endRound jump hl4,?_,σ4,Res.star (Res.lrec l (recOf (mkRec fn tmps ps assign body D) J p'.1)::H4),⟨H4,rfl,h4,hle.trans hw4'.le,fun h=> ?_⟩,?_⟩
      · rw [h1]
        by_cases h0:j=0
        · rw [h2 h0,h0];rfl
        obtain ⟨_,c,hc⟩:=h3 h0
        rw [hc];simp [h0]
      · rw [h1]at h ⊢
        obtain ⟨h5,c,h6⟩:=h3 h
        exact ⟨c,by rw [←h5,h6]⟩
      have h5:=hw4'.turnRec (o':= .loop (mkRec fn tmps ps assign body D (if jump.isNone then .ready else .done) jump))
      show Reach w _ σ σ4 (w4.putObj l (.loop (mkRec fn tmps ps assign body D (if jump.isNone then .ready else .done) jump))) _
      rw [h6]at h5 ⊢
      rw [hp0]
      exact Reach.star (G:=Res.lrec l (recOf (mkRec fn tmps ps assign body D) J p'.1)::H4) (F:=[]) (by rw [List.append_nil];exact h5)
    cases ex with
    |normal=>exact fin none 0 hq4.1 (fun _=>rfl) (fun h=>absurd rfl h) hq4.2
    |ret=>obtain ⟨j,hj,h1,h2⟩:=hq4;exact fin (some .ret) (j+1) h1 (fun h=>by cases h) (fun _=>⟨by simpa using hj.symm,_,rfl⟩) h2
    |exit i=>obtain ⟨j,hj,h1,h2⟩:=hq4;exact fin (some (.exit i)) (j+1) h1 (fun h=>by cases h) (fun _=>⟨by simpa using hj.symm,_,rfl⟩) h2
    |goto i=>obtain ⟨j,hj,h1,h2⟩:=hq4;exact fin (some (.goto i)) (j+1) h1 (fun h=>by cases h) (fun _=>⟨by simpa using hj.symm,_,rfl⟩) h2
    |panic c=>exact hq4.elim
    |outgrown=>exact hq4.elim
  |exit i=>exact hq2.elim
  |goto i=>exact hq2.elim
  |ret=>exact hq2.elim
  |panic c=>exact hq2.elim
  |outgrown=>exact hq2.elim
@[reducible]def jmpQ(X:Ctx)(Q:QP)(J:List Code):Nat→Env→Store→List Res→Prop
  |0=>Q .normal
  |j+1=>fun e σ H=> ∀c,J[j]? =some c→TC X Q c e σ H
theorem TC.rangeFunc {X : Ctx} {Q : QP} {e : Env} {σ : Store} {H Hs Hc : List Res} {S α : Type} {g : Operand} {ps : Array Tmp} {assign body : Code} {f : Nat} {lb : List Value} {A : α → Store → List Value → Prop}
    (J:List Code) (B:S→α→Option (Nat×S)) (G:S→Store→List Res→Prop) {s:S} {q:Nat×S} {PostC:Store→List Res→Prop}
    (hg:ev e g= .func (.func f) #[] lb.toArray) (hp:plainF X.P f=true) (hH:Hs++Hc=H) (hps:ps.toList.all (fun p=>Nat.blt p X.n)=true)
    (hG: ∀{s σ σ' H},G s σ H→σ.le σ'→G s σ' H) (h0:G s σ Hs) (hA: ∀x σ vs,A x σ vs→vs.length=ps.size)
    (hit:IterOk X.P f lb A (stepY B) σ Hc (0,s) q PostC)
    (hbody: ∀(l:Nat) (w0:World) (C:List Nat) (τ σ':Store) (s:S) (x:α) (q:Nat×S) (vs:List Value) (Hs:List Res),B s x=some q→σ.le σ'→A x σ' vs→G s σ' Hs→
      TC ⟨X.P,w0,C,τ,X.n,some l,none⟩ (asgQ fun e σ H=> ∀w0 C τ,TC ⟨X.P,w0,C,τ,X.n,some l,none⟩ (rndQ J fun j σ H=>q.1=j∧G q.2 σ H) body e σ H) assign (bindE e ps.toList vs) σ' Hs)
    (hdone: ∀σ' Hs' Hc',σ.le σ'→G q.2 σ' Hs'→PostC σ' Hc'→jmpQ X Q J q.1 e σ' (Hs'++Hc')) (hown:X.own=none:=by rfl):TC X Q (.rangeFunc g ps assign body) e σ H:=by
  subst hH
  intro w a hw ha
  have hps': ∀p∈ps.toList,p<X.n:=fun p hp=>by
    have:=List.all_eq_true.1 hps p hp
    simpa [Nat.blt_eq]using this
  refine wpIn_rangeFunc fun fn _=> ?_
  have key: ∀(l D:Nat) (w1:World) (a1:Act),a1.tmps=a.tmps→RM X a1 σ w1 (Res.lrec l (.loop (mkRec fn a.tmps ps assign body D .ready none))::(Hs++Hc))→
      CallsIn (fence X.rnd) 0 X.P f (#[.func (.yield l) #[] #[]]++lb.toArray) w1 (rangePost (fence X.rnd) 0 X.P l (low X Q) a1):=by
    intro l D w1 a1 ht hw1
    have hcon:=hit l (rndZ l (mkRec fn a.tmps ps assign body D) J σ G hG) (Res.star (Res.lrec l (recOf (mkRec fn a.tmps ps assign body D) J 0)::Hs))
      (yOk_of ⟨ha.size,ha.get⟩ hps' hA (hbody l)) ⟨Hs,rfl,h0,Store.le.refl _,fun h=>absurd rfl h⟩
    have hst:RM X a1 σ w1 (Res.star (Res.lrec l (recOf (mkRec fn a.tmps ps assign body D) J 0)::Hs)::Hc):=hw1.by fun _ k=>Reach.star (G:=Res.lrec l (recOf (mkRec fn a.tmps ps assign body D) J 0)::Hs) (F:=Hc) k
    have hcall:=hcon w1 hst.self
    have hargs:(Value.func (.yield l) #[] #[]::lb).toArray= #[.func (.yield l) #[] #[]]++lb.toArray:=by apply Array.ext';simp
    rw [hargs]at hcall
    refine calls_fence.2 (hcall.mono ?_)
    rintro ex w2 ⟨v,σ2,H2,rfl,⟨r',Hc',rfl,⟨Hs',rfl,hg2,hle,hJ⟩,hpc⟩,hw2⟩
    have hw3:RM X a1 σ2 w2 (Res.lrec l (recOf (mkRec fn a.tmps ps assign body D) J q.1)::(Hs'++Hc')):=(hst.step hw2 rfl).by fun _ k=>k.unstar
    have hl:w2.heap[l]? =some (recOf (mkRec fn a.tmps ps assign body D) J q.1):=hw3.holds _ (List.mem_cons_self ..)
    have hS1:St X.n e a1:=⟨by rw [ht];exact ha.size,fun t=>by rw [ht];exact ha.get t⟩
    have hw5: ∀o',RM X a1 σ2 (w2.putObj l o') (Hs'++Hc'):=fun o'=>hw3.step ((hw3.self.turnRec (o':=o')).sub (List.sublist_cons_self ..)) rfl
    have hfin:=hdone σ2 Hs' Hc' hle hg2 hpc
    unfold recOf at hl
    cases hq:q.1 with
    |zero=>
      rw [hq]at hl hfin
      exact ⟨none,_,run_endLoop hl (by simp),e,σ2,_,hS1,hw5 _,hfin⟩
    |succ j=>
      rw [hq]at hl hfin hJ
      obtain ⟨c,hc⟩:=hJ (by simp)
      simp only [Nat.add_sub_cancel,Nat.succ_ne_zero,if_false]at hl hc
      rw [hc]at hl
      exact ⟨some c,_,run_endLoop hl (by simp),hfin c hc _ a1 (hw5 _) hS1⟩
  have hnew: ∀k,k<w.heap.size∨True:=fun _=> .inr trivial
  have hres: ∀l w1,(resolve a.eval (rangeCall g l) 0).run X.P w1= .ok {target:= .fn (.func f) lb.toArray,args:= #[.func (.yield l) #[] #[]]} w1:=fun l w1=>by
    rw [ha.eval']
    simp only [resolve,hg]
    simp [go_sem,Deferred.ofValue,ev]
  have hinv: ∀l w1,(invoke (.fn (.func f) lb.toArray) #[.func (.yield l) #[] #[]]).run X.P w1= .ok (.enter f (#[.func (.yield l) #[] #[]]++lb.toArray)) w1:=fun l w1=>by
    simp [invoke,run_callFunc hp]
  cases hr:X.rnd with
  |none=>
    refine ⟨w.heap.size+1,_,_,_,_,f,_,_,run_enterLoop_outer _ _ _ _ _,hres _ _,fun _ _=>trivial,hinv _ _,(fun h=>by cases h),hr▸key (w.heap.size+1) w.heap.size _ _ rfl ?_⟩
    have hsz:((w.alloc (.deferred (some []))).heap.size)=w.heap.size+1:=by simp
    have hold: ∀k,k<w.heap.size→((w.alloc (.deferred (some []))).alloc (.loop (mkRec fn a.tmps ps assign body w.heap.size .ready none))).heap[k]? =w.heap[k]? :=fun k hk=>by
      rw [alloc_old _ _ _ (by omega),alloc_old _ _ _ hk]
    have hR:Reach w (blks (Hs++Hc)) σ σ ((w.alloc (.deferred (some []))).alloc (.loop (mkRec fn a.tmps ps assign body w.heap.size .ready none))) (Res.lrec (w.heap.size+1) (.loop (mkRec fn a.tmps ps assign body w.heap.size .ready none))::(Hs++Hc)):=
      hw.self.gain rfl rfl rfl (by simp;omega) (Nat.le_refl _) hold (by
        have:=World.alloc_heap_new (w.alloc (.deferred (some []))) (.loop (mkRec fn a.tmps ps assign body w.heap.size .ready none))
        rw [hsz]at this;exact this) (fun b hb=>by simp [Res.lrec]at hb;omega) (by simp [Res.lrec])
    have h1:=hw.step hR (a':=a) rfl
    refine ⟨h1.toReach,⟨fun _=> ?_,(fun _ h=>by rw [hown]at h;cases h),fun l hl=>by rw [hr]at hl;cases hl⟩⟩
    obtain ⟨Ds,g1,g2,g3⟩:=h1.marks.ex hown
    obtain ⟨Ds0,g10,g20,g30⟩:=hw.marks.ex hown
    have hDs:Ds=Ds0:=by
      have:=g1.symm.trans g10
      have h2: ∀(A B:List Nat),A.map (fun D=>({target:= .collected D,args:= #[]}:Deferred))=B.map (fun D=>({target:= .collected D,args:= #[]}:Deferred))→A=B:=fun A=>by
        induction A with
        |nil=>intro B h;cases B with
          |nil=>rfl
          |cons b B=>simp at h
        |cons a A ih=>intro B h;cases B with
          |nil=>simp at h
          |cons b B=>simp only [List.map_cons,List.cons.injEq,Deferred.mk.injEq,Target.collected.injEq,and_true]at h;rw [h.1,ih B h.2]
      exact h2 _ _ this
    subst hDs
    refine ⟨w.heap.size::Ds,by simp [g1],List.nodup_cons.2 ⟨fun hx=> ?_,g2⟩,fun D hD=> ?_⟩
    · have:=(Array.getElem?_eq_some_iff.1 (g30 _ hx).1).1;omega
    rcases List.mem_cons.1 hD with rfl|hD
    · refine ⟨?_,hw.size,fun hx=> ?_,?_⟩
      · rw [alloc_old _ _ _ (by omega)];exact World.alloc_heap_new w _
      · simp only [blks,List.flatMap_cons,Res.lrec,List.cons_append,List.nil_append,List.mem_cons]at hx
        rcases hx with hx|hx
        · omega
        obtain ⟨r,hr',hb⟩:=mem_blks.1 hx
        have:=hw.block_lt hr' hb;omega
      cases hs:σ w.heap.size with
      |none=>rfl
      |some o=>have:=(Array.getElem?_eq_some_iff.1 (hw.fit _ _ hs)).1;omega
    exact g3 D hD
  |some l0=>
    obtain ⟨hd0,⟨r0,h1⟩,h2,h3⟩:=hw.marks.rc l0 hr
    refine ⟨w.heap.size,_,_,_,_,f,_,_,run_enterLoop_inner h1 _ _ _ _ _,hres _ _,fun _ _=>trivial,hinv _ _,(fun h=>by cases h),hr▸key w.heap.size r0.defers _ a rfl ?_⟩
    refine hw.step (hw.self.gain rfl rfl rfl (by simp) (Nat.le_refl _) (fun k hk=>alloc_old _ _ _ hk) (World.alloc_heap_new w _) (fun b hb=>by simp [Res.lrec]at hb;omega) (by simp [Res.lrec])) rfl
end Go.E
end

noncomputable section
namespace Go.E
open Go
theorem TC.rangeG{X:Ctx}{Q:QP}{e:Env}{H Hs Hc:List Res}{S α:Type}{g:Operand}{ps:Array Tmp}{assign body:Code}{f:Nat}{lb:List Value}{A:α→Store→List Value→Prop}
    (J:List Code) (B:S→α→Option (Nat×S)) (G:S→Store→List Res→Prop) {s:S} {q:Nat×S} {PostC:Store→List Res→Prop}
    (hg:ev e g= .func (.func f) #[] lb.toArray) (hp:plainF X.P f=true) (hH:Hs++Hc=H) (hps:ps.toList.all (fun p=>Nat.blt p X.n)=true)
    (hG: ∀{s σ σ' H},G s σ H→σ.le σ'→G s σ' H) (h0:G s σ Hs) (hA: ∀x σ vs,A x σ vs→vs.length=ps.size)
    (hit:IterOk X.P f lb A (stepY B) σ Hc (0,s) q PostC)
    (hbody: ∀(l:Nat) (w0:World) (C:List Nat) (τ σ':Store) (s:S) (x:α) (q:Nat×S) (vs:List Value) (Hs:List Res),B s x=some q→σ.le σ'→A x σ' vs→G s σ' Hs→
      TC ⟨X.P,w0,C,τ,X.n,some l,none⟩ (asgQ fun e σ H=> ∀w0 C τ,TC ⟨X.P,w0,C,τ,X.n,some l,none⟩ (rndQ J fun j σ H=>q.1=j∧ ∃F,Sub F H∧G q.2 σ F) body e σ H) assign (bindE e ps.toList vs) σ' Hs)
    (hdone: ∀σ' Hs' Hc',σ.le σ'→G q.2 σ' Hs'→PostC σ' Hc'→jmpQ X Q J q.1 e σ' (Hs'++Hc')) (hown:X.own=none:=by rfl):TC X Q (.rangeFunc g ps assign body) e σ H:=by
  refine TC.rangeFunc J B G hg hp hH hps hG h0 hA hit (fun l w0 C τ σ' s x q vs Hs h1 h2 h3 h4=>(hbody l w0 C τ σ' s x q vs Hs h1 h2 h3 h4).weak fun ex e σ H h=> ?_) hdone hown
  cases ex with
  |normal=>
    refine fun w0 C τ=>TC.weakR ((h w0 C τ).weak fun ex e σ H h=> ?_)
    cases ex with
    |normal=>obtain ⟨h1,F,hs,hg⟩:=h;exact ⟨F,hs,h1,hg⟩
    |ret=>obtain ⟨j,hj,h1,F,hs,hg⟩:=h;exact ⟨F,hs,j,hj,h1,hg⟩
    |exit i=>obtain ⟨j,hj,h1,F,hs,hg⟩:=h;exact ⟨F,hs,j,hj,h1,hg⟩
    |goto i=>obtain ⟨j,hj,h1,F,hs,hg⟩:=h;exact ⟨F,hs,j,hj,h1,hg⟩
    |panic c=>exact h.elim
    |outgrown=>exact h.elim
  |exit i=>exact h
  |goto i=>exact h
  |ret=>exact h
  |panic c=>exact h
  |outgrown=>exact h
theorem asg_n{K:Env→Store→List Res→Prop}{e:Env}{H:List Res}(h:K e σ H):asgQ K .normal e σ H:=h
theorem rnd_n{J:List Code}{K:Nat→Store→List Res→Prop}{e:Env}{H:List Res}(h:K 0 σ H):rndQ J K .normal e σ H:=h
theorem rnd_r{J:List Code}{K:Nat→Store→List Res→Prop}{e:Env}{H:List Res}(j:Nat)(hj:J[j]? =some .ret)(h:K (j+1) σ H):rndQ J K .ret e σ H:=⟨j,hj,h⟩
def jsel{α:Type}:Nat→Option α→(Nat→Option α)→Option α
  |0,a,_=>a
  |n+1,_,b=>b n
theorem jmp_split{X:Ctx}{Q:QP}{J:List Code}{n:Nat}{e:Env}{H:List Res}{α:Type}{a:Option α}{b:Nat→Option α}{r:α}(hh:jsel n a b=some r)
    (h0:a=some r→Q .normal e σ H) (h1: ∀m c,b m=some r→J[m]? =some c→TC X Q c e σ H):jmpQ X Q J n e σ H:=by
  cases n with
  |zero=>exact h0 hh
  |succ m=>exact fun c hc=>h1 m c hh hc
theorem jl_split{X:Ctx}{Q:QP}{J:List Code}{c0 c:Code}{m:Nat}{e:Env}{H:List Res}{α:Type}{a:Option α}{b:Nat→Option α}{r:α}(hh:jsel m a b=some r)(hc:(c0::J)[m]? =some c)
    (h0:a=some r→TC X Q c0 e σ H) (h1: ∀m,b m=some r→J[m]? =some c→TC X Q c e σ H):TC X Q c e σ H:=by
  cases m with
  |zero=>simp at hc;subst hc;exact h0 hh
  |succ m=>exact h1 m hh (by simpa using hc)
theorem jl_nil{X:Ctx}{Q:QP}{c:Code}{m:Nat}{e:Env}{H:List Res}(hc:([]:List Code)[m]? =some c):TC X Q c e σ H:=by simp at hc
end Go.E
end
