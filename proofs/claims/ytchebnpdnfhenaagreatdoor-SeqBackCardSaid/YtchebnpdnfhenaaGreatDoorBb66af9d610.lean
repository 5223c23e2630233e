/- Parts of a proof, one behind the other: what a machine reaches, functions decompiled, plain lemmas. Conditions stand with each lemma. -/
import Derived.Test.YtchebnpdnfhenaaGreatDoorB3cb167117d
import Derived.Laws.BytesArg
import Derived.Lib.Bytealg
import Derived.Shelf.SlSortCmp.NoneTotal
import Derived.Lib.Builder
import Derived.Lib.AppendStr
import Derived.Lib.UnsafeStr

set_option linter.unusedVariables false
set_option linter.unusedSimpArgs false
set_option linter.unusedSectionVars false
set_option maxRecDepth 100000
set_option maxHeartbeats 8000000
variable {σ:Go.E.Store}{a0_0 a0_1 a0_2 a0_3 a1_0:Option Go.Addr}{b0_0 c0_0 c0_1 c0_2 c0_3 c1_0:Nat}

noncomputable section
namespace Go.E
open Go
theorem runA_of{K V S R:Type}{step:S→Option (K×V)→Option (S⊕R)}{m:FM K V}{l:List (K×V)}{s:S}{r:R}(h:allP (fun q=>Rep q m) (fun q=>runL step q s)=some r)(hl:Rep l m):runA step l s=some r:=
  allP_i l (List.Perm.refl _) fun q hq=>allP_e h q (hl.perm hq)
def unitV(_:Unit):Value:= .agg #[]
def encW(x:Nat):List Value:=[.int .u64 (x:Nat)]
theorem encW_len(x:Nat):(encW x).length=1:=rfl
theorem encW_one: ∀x, ∀u∈encW x,u.oneCell'=true:=fun x u hu=>by simp [encW]at hu;subst hu;rfl
def Rdb(w:World)(v:Value)(xs:List Value):Prop:= ∀a m c,v= .slice (some a) m c→ ∀j u,xs[j]? =some u→w.cell? (a.add j)=some u
theorem rdb_row{α:Type}{H:List Res}{E size q:Nat}{enc:α→List Value}{v:Value}{l:List α}{w:World}(hq:H[q]? =some (Res.rowS E size enc v l))(hw:Sees σ H w):Rdb w v (l.flatMap enc):=by
  intro a m c hv j u hj
  have hown:=(hw.2 _ (List.mem_of_getElem? hq)).1
  subst hv
  obtain ⟨h1,h2⟩:=hown
  rcases h2 with ⟨h2,_⟩|⟨g,cap,cur,h2,_,hg,h3,h4,h5,h6⟩
  · cases h2
  cases h2
  rw [loc_add]
  have hj2:=(List.getElem?_eq_some_iff.1 hj).1
  rw [←h6,List.getElem?_take]at hj
  split at hj
  · simp only [World.cell?,hg,Option.isSome_none,Bool.false_eq_true,if_false,Nat.zero_add]
    rw [←Array.getElem?_toList];exact hj
  cases hj
theorem OpVal.bytesStr{P:Program}{n:Nat}{e:Env}{H:List Res}{o:Oper}{x:Operand}{S T E m c:Nat}{a:Option Addr}{l:List UInt8}(ho:o.op= .convert S T x)(hs:P.underlying S=some (.slice E))(he:P.underlying E=some (.int .u8))(ht:P.underlying T=some .string)
    (hx:ev e x= .slice a m c) (hl:IsSl (.slice a m c) l.length) (hr: ∀w,Sees σ H w→Rdb w (.slice a m c) (l.flatMap encU8)):OpVal P n o e σ H (.string (bs l)):=fun w hw=>by
  obtain ⟨a',c',hv,hn,hc⟩:=hl
  cases hv
  cases a with
  |none=>
    obtain ⟨h1,_⟩:=hn rfl
    have hl0:l=[]:=List.eq_nil_of_length_eq_zero h1
    subst hl0
    have:=run_convert_bytes_nil (P:=P) w S E hs he 0 c T ht
    simp only [execOp,ho,hx]
    simp only [List.length_nil,Sem.run_bind,this,Result.andThen_ok,Sem.run_pure]
    rfl
  |some ad=>
    have hcell:=hr w hw ad _ c rfl
    have h1:(loadCells ad l.length).run P w= .ok ((l.map fun b=>(b.toNat:Int)).map (Value.int .u8)).toArray w:=by
      have:=run_loadCells_list (P:=P) w ad ((l.map fun b=>(b.toNat:Int)).map (Value.int .u8)) (fun j v hj=>hcell j v (by rw [encU8_map];simpa using hj))
      simpa using this
    have h2:=run_convert_bytes_string (P:=P) w S T E (some ad) l.length c hs he ht
    have h3:=run_bytesToString (P:=P) w ad l.length c (l.map fun b=>(b.toNat:Int)) h1
    have h4:(⟨(ByteArray.empty.data++(((l.map fun b=>(b.toNat:Int)).map fun n=>UInt8.ofNat n.toNat)).toArray)⟩:ByteArray)=bs l:=by
      simp [bs,ByteArray.empty,ByteArray.emptyWithCapacity,Function.comp_def]
      rfl
    rw [foldl_push_bytes,h4]at h3
    simp only [execOp,ho,hx,Sem.run_bind,h2,h3,Result.andThen_ok,Sem.run_pure]
theorem Reach.nilMap{K V:Type}{enc:K→Value}{encV:V→Value}{w0:World}{C:List Nat}{σ0 σ:Store}{w:World}{F:List Res}(h:Reach w0 C σ0 σ w F):Reach w0 C σ0 σ w (Res.mapB enc encV none FM.emp::F):=
  h.gain rfl rfl rfl (Nat.le_refl _) (Nat.le_refl _) (fun _ _=>rfl) ⟨fun _=>rfl,fun k hk=>by cases hk⟩ (fun b hb=>by simp [Res.mapB]at hb) (by simp [Res.mapB])
theorem OpVal.cmpStr{P : Program}{n : Nat}{e : Env}{σ : Store}{H : List Res}{o : Oper}{x p q : Operand}{ts : Array TypeId}{J : FuncId}{fn : Func}{a b : List UInt8}(ho : o.op = .call { callee := .value x, args := #[p, q], argTypes := ts })(hx : ev e x = .func (.func J) #[] #[])(hf : P.funcs[J]? = some fn)(hname : (fn.name == "runtime.NumGoroutine") = false)
    (hb:fn.body.isNone=true) (hn:Extern.findNext fn=none) (he:Extern.find fn=some Extern.BytealgCompare.compare) (hp:ev e p= .string (bs a)) (hq:ev e q= .string (bs b)):OpVal P n o e σ H (.int .i64 (Lib.compareBytes a b)):=fun w _=>by
  have h:=run_callFunc_extern hf hname hb hn he #[.string (bs a),.string (bs b)] w
  rw [Lib.run_compareString]at h
  simp [execOp,ho,resolve,Deferred.ofValue,invoke,hx,hp,hq,h,Result.andThen,bs_list]
structure VwOk (v u:Value) (size k n:Nat):Prop where
  sl:IsSl u n
  el: ∀j,j<n→elem u (j * size)=elem v ((k+j) * size)
theorem vw_of{a:Option Addr}{m c size k:Nat}(h:IsSl (.slice a m c) m)(hk:k≤m): ∃(a':Option Addr) (c':Nat),VwOk (.slice a m c) (.slice a' (m - k) c') size k (m - k)∧
    ∀{P:Program} {n:Nat} {e:Env} {σ:Store} {H:List Res} {o:Oper} {x z:Operand} {T E:TypeId} {kk:IntKind} (_:o.op= .slice T x (some z) none none) (_:P.underlying T=some (.slice E)) (_:szOf P E=some size) (_:ev e x= .slice a m c) (_:ev e z= .int kk (k:Nat)),OpVal P n o e σ H (.slice a' (m - k) c'):=by
  obtain ⟨a1,c1,hv,hn,hc⟩:=h
  cases hv
  refine ⟨if c=k then a else a.map (·.add (k * size)),c - k,⟨⟨_,_,rfl,fun ha=> ?_,by omega⟩,fun j hj=> ?_⟩,?_⟩
  · split at ha
    · obtain ⟨h1,h2⟩:=hn ha;omega
    cases a with
    |none=>obtain ⟨h1,h2⟩:=hn rfl;omega
    |some ad=>simp at ha
  · have hck: ¬ c=k:=by omega
    rw [if_neg hck]
    cases a with
    |none=>obtain ⟨h1,h2⟩:=hn rfl;omega
    |some ad=>simp only [elem,Option.map_some];rw [add_add,Nat.add_mul]
  intro P n e σ H o x z T E kk ho hT hs hx hz w _
  have hsz:=run_sizeOf (P:=P) hs
  have hrun:(Instr.slice T (.slice a m c) (some (.int kk k)) none none).run P w= .ok (.slice (if c=k then a else a.map (·.add (k * size))) (m - k) (c - k)) w:=by
    simp [Instr.slice,Instr.sliceBounds,Instr.sliceBound,asIntOf,run_underlying hT,hsz]
    intro hlt;omega
  simp [execOp,ho,hx,hz,Instr.sliceAt,run_underlying hT,hrun]
theorem OpVal.elVw{P:Program}{n:Nat}{e:Env}{H:List Res}{o:Oper}{v u:Value}{size k m j:Nat}(hv:VwOk v u size k m)(hj:j<m)(h:OpVal P n o e σ H (elem u (j * size))):OpVal P n o e σ H (elem v ((k+j) * size)):=hv.el j hj▸h
theorem zeroCells_flat{α:Type}{enc:α→List Value}{size:Nat}{z:Value}(x0:α)(hz:z.cells.toList=enc x0)(hl: ∀x,(enc x).length=size)(m:Nat)(h0:0<size):(Builtin.zeroCells z.cells m).toList=(List.replicate m x0).flatMap enc:=by
  have:=madeCells_flat z x0 hz m (by rw [hl];exact h0)
  rw [hl]at this
  rw [←this]
  have hzs:z.cells.size=size:=by rw [←Array.length_toList,hz,hl]
  simp [Builtin.zeroCells,madeCells,hzs]
theorem splice_end{α:Type}{enc:α→List Value}{size:Nat}(hl: ∀x,(enc x).length=size)(l:List α)(k:Nat)(x0:α)(hk:k≤l.length):
    splice (l.flatMap enc) (k * size) ((List.replicate (l.length - k) x0).flatMap enc)=(l.take k++List.replicate (l.length - k) x0).flatMap enc:=by
  rw [List.flatMap_append,splice,take_flat hl]
  have h1:((List.replicate (l.length - k) x0).flatMap enc).length=(l.length - k) * size:=by rw [flatMap_len hl,List.length_replicate]
  rw [h1]
  have h2:(l.flatMap enc).length=l.length * size:=flatMap_len hl l
  rw [List.drop_of_length_le (by rw [h2,←Nat.add_mul];exact Nat.mul_le_mul_right _ (by omega)),List.append_nil]
theorem OpOk.clearV{X:Ctx}{e:Env}{F:List Res}{o:Oper}{x:Operand}{K:Env→Store→List Res→Prop}{α:Type}{T E size k m':Nat}{enc:α→List Value}{zv v u:Value}{l:List α}(x0:α)(ho:o.op= .call {callee:= .builtin .clear,args:= #[x],argTypes:= #[T]})(ht:X.P.underlying T=some (.slice E))(hz:zeroOf X.P E=some zv)
    (hd:o.dst=none) (hx:ev e x=u) (hv:VwOk v u size k m') (hm:l.length - k=m') (hk:k≤l.length) (hl: ∀x,(enc x).length=size) (h0:0<size) (hz0:zv.cells.toList=enc x0) (h1: ∀x, ∀u∈enc x,u.oneCell'=true)
    (kk:K e σ (Res.rowS E size enc v (l.take k++List.replicate (l.length - k) x0)::F)):OpOk X o e σ (Res.rowS E size enc v l::F) K:=by
  subst hm
  intro u0 C0 τ0 w a hw ha K' Q hK
  obtain ⟨hown,hone,hbg⟩:=hw.holds _ (List.mem_cons_self ..)
  have hlen:(l.take k++List.replicate (l.length - k) x0).length=l.length:=by simp;omega
  obtain ⟨a',c',rfl,hn,hc⟩:=hv.sl
  by_cases hkl:k=l.length
  · subst hkl
    have e1:l.take l.length++List.replicate (l.length - l.length) x0=l:=by simp
    rw [e1]at kk
    have hrun:(Builtin.clear_ #[T] o.type #[.slice a' (l.length - l.length) c']).run X.P w= .ok (.tuple #[]) w:=by
      rw [Nat.sub_self]
      cases a'<;>simp [Builtin.clear_,run_underlying ht]
    refine Oper.wp_of_run (v:= .tuple #[]) (w':=w) ?_ (hK _ _ _ _ _ kk hw (by rw [hd];exact ⟨ha,rfl⟩))
    rw [ha.eval']
    rw [Nat.sub_self]at hrun
    simp [execOp,ho,resolve,invoke,builtin,hx,hrun]
  have hj:0<l.length - k:=by omega
  have hel:=hv.el 0 hj
  cases a' with
  |none=>obtain ⟨h2,_⟩:=hn rfl;omega
  |some ad=>
    rcases id hown.2 with ⟨hvn,hmn⟩|⟨g,cap,cur,rfl,_⟩
    · omega
    simp only [elem,Nat.zero_mul,Nat.add_zero]at hel
    have had:ad=⟨g,k * size,none⟩:=by
      have h3:(ad.add 0)=(⟨g,0,none⟩:Addr).add (k * size):=by injection hel with h;injection h
      rw [loc_add]at h3
      simpa [Addr.add]using h3
    subst had
    have hzl:=zeroCells_flat (size:=size) x0 hz0 hl (l.length - k) h0
    obtain ⟨w',hst,hown',hgr,hdr⟩:=World.ownsRow.spliced X.P hown (k:=k * size) (vs:=(List.replicate (l.length - k) x0).flatMap enc) (by rw [flatMap_len hl,flatMap_len hl,List.length_replicate,←Nat.add_mul];exact Nat.mul_le_mul_right _ (by omega)) (fun u hu=>by
      obtain ⟨q,_,hq⟩:=List.mem_flatMap.1 hu
      exact h1 q u hq)
    rw [splice_end hl l k x0 hk]at hown'
    have hrun:(Builtin.clear_ #[T] o.type #[.slice (some ⟨g,k * size,none⟩) (l.length - k) c']).run X.P w= .ok (.tuple #[]) w':=by
      have hne:l.length - k≠0:=by omega
      simp only [Builtin.clear_]
      simp [run_underlying ht,run_zeroValue hz,hzl,hst]
    have hR:Reach u0 C0 τ0 σ w' (Res.rowS E size enc (.slice (some ⟨g,0,none⟩) l.length cap) (l.take k++List.replicate (l.length - k) x0)::F):=by
      refine hw.turn1 (some g) (some g) rfl rfl hgr.os hgr.tape hgr.output hgr.size hdr (fun q hq hne=>hgr.block q hq (fun hx=>hne (by cases hx;rfl))) ?_ (fun q hq=> .inl hq)
      show _∧_∧_
      rw [hlen]
      refine ⟨hown',fun u hu=> ?_,hbg⟩
      obtain ⟨q,_,hq⟩:=List.mem_flatMap.1 hu
      exact h1 q u hq
    refine Oper.wp_of_run (v:= .tuple #[]) (w':=w') ?_ (hK _ _ _ _ _ kk hR (by rw [hd];exact ⟨ha,rfl⟩))
    rw [ha.eval']
    simp [execOp,ho,resolve,invoke,builtin,hx,hrun]
theorem RS.ofCells{α:Type}{τ:Store}{b k m E:Nat}{cs:Array Value}{enc:α→List Value}{l:List α}(h:τ b=some (.cells cs E (0,0)))(hl: ∀x,(enc x).length=1)(h1: ∀x, ∀u∈enc x,u.oneCell'=true)(hk:(cs.toList.drop k).take m=l.flatMap enc)(hm:l.length=m)(hb:Nat.ble l.length 281474976710656=true):RS τ 1 enc (.slice (some ⟨b,k,none⟩) m m) l:=by
  subst hm
  refine ⟨⟨⟨_,_,rfl,(fun h=>by cases h),Nat.le_refl _⟩,flatMap_len hl l,?_,fun u hu=> ?_,Nat.le_of_ble_eq_true hb⟩,hl⟩
  · intro a m c hv j u hj
    cases hv
    rw [loc_add]
    unfold Store.cell
    simp only [h,Option.isSome_none,Bool.false_eq_true,if_false]
    rw [←hk,List.getElem?_take]at hj
    split at hj
    · rw [List.getElem?_drop,Array.getElem?_toList]at hj;exact hj
    cases hj
  obtain ⟨q,_,hq⟩:=List.mem_flatMap.1 hu
  exact h1 q u hq
theorem Con.lendC{P:Program}{f:FuncId}{args:Array Value}{F:List Res}{r:Value}{b E:Nat}{cs:Array Value}
    (h: ∀τ,σ.le τ→τ b=some (.cells cs E (0,0))→Con P f args τ F (KeepP r τ F)):Con P f args σ (Res.cells b cs E::F) (KeepP r σ (Res.cells b cs E::F)):=by
  intro w hw
  have ho:w.heap[b]? =some (.cells cs E (0,0)):=hw.holds _ (List.mem_cons_self ..)
  obtain ⟨h1,h2⟩:=hw.sealB (b:=b) rfl ho
  have h3:σ.with b (.cells cs E (0,0)) b=some (.cells cs E (0,0)):=by simp [Store.with]
  generalize σ.with b (.cells cs E (0,0))=τ at h1 h2 h3
  have h0:Reach w (blks F) τ τ w F:=⟨rfl,rfl,rfl,Nat.le_refl _,fun _ _ _=>rfl,Store.le.refl _,h1.fit,fun b o hb=> .inl hb,h1.holds,fun r hr b hb=> .inl (mem_blks.2 ⟨r,hr,hb⟩),h1.nodup,h1.apart,Nat.le_refl _⟩
  refine (h τ h2 h3 w h0).mono fun ex w' ⟨r',σ',H',he,⟨e1,e2,e3⟩,k⟩=> ?_
  subst e1 e2 e3
  refine ⟨r',σ,_,he,⟨rfl,rfl,rfl⟩,?_⟩
  have hb:b<w.heap.size∧b∉blks H':=by
    refine ⟨(Array.getElem?_eq_some_iff.1 ho).1,fun hx=> ?_⟩
    have hnd:=hw.nodup
    simp only [blks,List.flatMap_cons]at hnd
    exact (nodup_app.1 hnd).2.2 b (by simp [Res.cells]) hx
  have hframe: ∀i,i<w.heap.size→i∉blks H'→w'.heap[i]? =w.heap[i]? :=k.frame
  refine ⟨k.os,k.tape,k.output,k.size,?_,Store.le.refl _,fun b o hs=>k.fit b o (h2 b o hs),fun b o hs=> .inl hs,?_,?_,?_,?_,k.drawn⟩
  · intro i hi hn
    refine hframe i hi fun hx=>hn ?_
    obtain ⟨r2,hr2,hb2⟩:=mem_blks.1 hx
    exact mem_blks.2 ⟨r2,List.mem_cons_of_mem _ hr2,hb2⟩
  · intro r2 hr2
    rcases List.mem_cons.1 hr2 with rfl|hr2
    · exact (Res.cells b cs E).keep w w' (fun c hc=>by rw [List.mem_singleton.1 hc];exact hframe b hb.1 hb.2) ho
    exact k.holds r2 hr2
  · intro r2 hr2 b hb2
    exact .inl (mem_blks.2 ⟨r2,hr2,hb2⟩)
  · exact hw.nodup
  intro r2 hr2 b hb2
  exact hw.apart r2 hr2 b hb2
theorem OpVal.sliceArr{P:Program}{n:Nat}{e:Env}{H:List Res}{o:Oper}{x:Operand}{T E m b k s:Nat}(ho:o.op= .slice T x none none none)(ht:P.underlying T=some (.array m E))(hs:szOf P E=some s)(hx:ev e x=loc b k):OpVal P n o e σ H (.slice (some ⟨b,k,none⟩) m m):=fun w _=>by
  have hsz:=run_sizeOf (P:=P) hs
  simp [execOp,ho,hx,loc,Instr.sliceAt,Instr.sureAddr,run_underlying ht,Instr.slice,Instr.sliceBounds,Instr.sliceBound,hsz,Addr.add]
theorem mem_pick{H B:List Res}(is:List Nat)(h:is.map (fun i=>H[i]?)=B.map some){r:Res}(hr:r∈B):r∈H:=by
  have h1:some r∈B.map some:=List.mem_map.2 ⟨r,hr,rfl⟩
  rw [←h]at h1
  obtain ⟨i,_,hi⟩:=List.mem_map.1 h1
  exact List.mem_of_getElem? hi
end Go.E
end

noncomputable section
namespace Go.E
open Go
structure Tip where
  state:Int
  out:List UInt8
  deriving DecidableEq
def Tip.zero:Tip:=⟨0,[]⟩
def encTip(x:Tip):List Value:=[.int .i64 x.state,.string (bs x.out)]
theorem encTip_len(x:Tip):(encTip x).length=2:=rfl
theorem encTip_one: ∀x, ∀u∈encTip x,u.oneCell'=true:=fun x u hu=>by
  simp [encTip]at hu
  rcases hu with rfl|rfl<;>rfl
structure Arc where
  frm:Int
  to:Int
  set:BSet
  out:List UInt8
  copy:Bool
  deriving DecidableEq
def Arc.zero:Arc:=⟨0,0,BSet.zero,[],false⟩
def encArc(x:Arc):List Value:=[.int .i64 x.frm,.int .i64 x.to,.int .u64 ((x.set.a:Nat):Int),.int .u64 ((x.set.b:Nat):Int),.int .u64 ((x.set.c:Nat):Int),.int .u64 ((x.set.d:Nat):Int),.string (bs x.out),.bool x.copy]
theorem encArc_len(x:Arc):(encArc x).length=8:=rfl
theorem encArc_one: ∀x, ∀u∈encArc x,u.oneCell'=true:=fun x u hu=>by
  simp [encArc]at hu
  rcases hu with rfl|rfl|rfl|rfl|rfl|rfl|rfl|rfl<;>rfl
structure FPair where
  state:Int
  out:List UInt8
  deriving DecidableEq
def FPair.zero:FPair:=⟨0,[]⟩
def encFPair(x:FPair):List Value:=[.int .i64 x.state,.string (bs x.out)]
theorem encFPair_bits: ∀x, ∀u∈encFPair x,Bits u:=fun x u hu=>by
  simp [encFPair]at hu
  rcases hu with rfl|rfl<;>first|exact Bits.int _ _|exact Bits.str _|exact Bits.bool _
structure Span where
  frm:Int
  to:Int
  deriving DecidableEq
def Span.zero:Span:=⟨0,0⟩
structure Fst where
  states:Int
  starts:List Tip
  ends:List Tip
  arcs:List Arc
  deriving DecidableEq
def Fst.zero:Fst:=⟨0,[],[],[]⟩
end Go.E
end

noncomputable section
namespace Go.Proofs.YtchebnpdnfhenaaGreatDoor
open Go Go.E Go.E.OpVal Go.E.OpOk Go.Proofs.Tryz
theorem ag22:aggOf Tryz.prog 22=some false:=by kernel_rfl
theorem ag23:aggOf Tryz.prog 23=some false:=by kernel_rfl
theorem ag3:aggOf Tryz.prog 3=some false:=by kernel_rfl
theorem ag66:aggOf Tryz.prog 66=some true:=by kernel_rfl
theorem ag76:aggOf Tryz.prog 76=some true:=by kernel_rfl
theorem ag9:aggOf Tryz.prog 9=some false:=by kernel_rfl
theorem eg64:Tryz.prog.eqGuardType Tryz.prog.depth 64=false:=by kernel_rfl
theorem fo104_0:foOf Tryz.prog 104 0=some 0:=by kernel_rfl
theorem fo104_1:foOf Tryz.prog 104 1=some 1:=by kernel_rfl
theorem fo25_0:foOf Tryz.prog 25 0=some 0:=by kernel_rfl
theorem fo25_1:foOf Tryz.prog 25 1=some 1:=by kernel_rfl
theorem fo25_2:foOf Tryz.prog 25 2=some 2:=by kernel_rfl
theorem fo25_3:foOf Tryz.prog 25 3=some 3:=by kernel_rfl
theorem fo66_0:foOf Tryz.prog 66 0=some 0:=by kernel_rfl
theorem fo66_1:foOf Tryz.prog 66 1=some 1:=by kernel_rfl
theorem fo66_2:foOf Tryz.prog 66 2=some 2:=by kernel_rfl
theorem fo66_3:foOf Tryz.prog 66 3=some 6:=by kernel_rfl
theorem fo66_4:foOf Tryz.prog 66 4=some 7:=by kernel_rfl
theorem fo76_0:foOf Tryz.prog 76 0=some 0:=by kernel_rfl
theorem fo76_1:foOf Tryz.prog 76 1=some 1:=by kernel_rfl
theorem es104(x y:FPair):Go.E.EqAt Tryz.prog 2 104 (.agg (Go.E.encFPair x).toArray) (.agg (Go.E.encFPair y).toArray) (decide (x=y)):=
 (EqAt.struct (ts:=[(false,3,0),(false,9,1)]) (by kernel_rfl) (by kernel_rfl) (by kernel_rfl) (EqC.one (by kernel_rfl) rfl rfl (EqAt.int underlying3 x.state y.state) (EqC.one (by kernel_rfl) rfl rfl (EqAt.str underlying9 x.out y.out) EqC.nil))).of (by rw [Bool.eq_iff_iff];cases x;cases y;simp)
theorem kl104:Go.E.KeyL Tryz.prog 104 (fun x=>Value.agg (Go.E.encFPair x).toArray):=
 KeyL.struct underlying104 es104 rfl (fun x=>CkAt.struct (n:=1) (ts:=[(false,3,0),(false,9,1)]) (by kernel_rfl) (by kernel_rfl) (CkC.one (by kernel_rfl) rfl (CkAt.int underlying3 _) (CkC.one (by kernel_rfl) rfl (CkAt.str underlying9 _) CkC.nil))) rfl encFPair_bits
theorem pf102:plainF Tryz.prog 102=true:=by kernel_rfl
theorem pf83:plainF Tryz.prog 83=true:=by kernel_rfl
theorem pf84:plainF Tryz.prog 84=true:=by kernel_rfl
theorem pl102:plOf Tryz.prog 102=some #[]:=by kernel_rfl
theorem pl104:plOf Tryz.prog 104=some #[(0,1),(1,1)]:=by kernel_rfl
theorem sz104:szOf Tryz.prog 104=some 2:=by kernel_rfl
theorem sz23:szOf Tryz.prog 23=some 1:=by kernel_rfl
theorem sz66:szOf Tryz.prog 66=some 8:=by kernel_rfl
theorem sz76:szOf Tryz.prog 76=some 2:=by kernel_rfl
theorem ze102:zeroOf Tryz.prog 102=some (.agg #[]):=by kernel_rfl
theorem ze104:zeroOf Tryz.prog 104=some (.agg #[.int .i64 0,.string ByteArray.empty]):=by kernel_rfl
theorem ze5:zeroOf Tryz.prog 5=some (.int .u8 0):=by kernel_rfl
theorem ze66:zeroOf Tryz.prog 66=some (.agg #[.int .i64 0,.int .i64 0,.int .u64 0,.int .u64 0,.int .u64 0,.int .u64 0,.string ByteArray.empty,.bool false]):=by kernel_rfl
theorem ze76:zeroOf Tryz.prog 76=some (.agg #[.int .i64 0,.string ByteArray.empty]):=by kernel_rfl
def Cv_(x0:Int)(x1:Int):Option (Bool):=
 iteO (decide (0≤x0)) (some (decide (x0<x1))) (some false)
theorem Dp_{x0:Int}{x1:Int}{r:Bool}(hh:Cv_ x0 x1=some r):
  Con Tryz.prog 84 #[.int .i64 x0,.int .i64 x1] σ [] (PureP (.bool r) σ):=by
 dsimp only [Cv_]at hh
 refine Con.mk (n:=12) Tryz.func84 z z z (fun w0=> ?_)
 refine TC.a (TL.j z z (TL.en (TC.a (TL.i z z (TL.w z (OpVal.leq z z z) (TL.j z z (TL.split 7 z (fun h101=> ?_) (fun h101=> ?_))))))))
 ·replace hh:=iteO_t h101 hh
  replace h101:=of_decide_eq_true h101
  refine TL.g z (moveI (.inl z) z) (TL.g z (moveI (.inl z) z) (TL.g z (OpVal.lss z z z) (TL.w z (pickTB z z z) (TL.j z z (TL.en (TC.ret ?_))))))
  obtain rfl:=so hh
  exact rq [4] ⟨z,z,z⟩
 replace hh:=iteO_f h101 hh
 replace h101:=of_decide_eq_false h101
 refine TL.f z (TL.f z (TL.f z (TL.w z (pickFB z z z) (TL.j z z (TL.en (TC.ret ?_))))))
 obtain rfl:=so hh
 exact rq [4] ⟨z,z,z⟩
def Ay_(x0:List Tip)(x1:Int)(k104:Nat):Option ((Nat)⊕(Bool)):=
 iteO (decide (((k104:Nat):Int)<((x0.length:Nat):Int))) (bnd (Cv_ ((nth x0 k104 Tip.zero).state) x1) (fun v17=>iteO (!v17) (fin (some false)) (iteO (decide (1024<((((nth x0 k104 Tip.zero).out).length:Nat):Int))) (fin (some false)) (nxt (k104+1))))) (fin (some true))
def Bx_(x0:List Tip)(x1:Int):Option (Bool):=
 iteO (decide (1024<((x0.length:Nat):Int))) (some false) (iter (fun q:Nat=>Ay_ x0 x1 q) 0)
theorem Dr_{x0:List Tip}{x1:Int}(f0_0:RS σ 2 encTip (.slice a0_0 x0.length c0_0) x0){r:Bool}(hh:Bx_ x0 x1=some r):
  Con Tryz.prog 83 #[.slice a0_0 x0.length c0_0,.int .i64 x1] σ [] (PureP (.bool r) σ):=by
 dsimp only [Bx_]at hh
 have f0_0b:=f0_0.rv.big
 refine Con.mk (n:=28) Tryz.func83 z z z (fun w0=> ?_)
 refine TC.a (TL.j z z (TL.en (TC.seq (TC.a (TL.s z z (TL.w z (lenC z underlying22 z) (TL.w z (OpVal.gtr z z z) (TL.en (TC.cD z hh (fun h101 hh=> ?_) (fun h101 hh=> ?_))))))))))
 ·refine TC.a (TL.j z z (TL.en (TC.ret (S.r ?_))))
  obtain rfl:=so hh
  exact rq [4] ⟨z,z,z⟩
 refine TC.skip (S.n (TC.seq (TC.a (TL.s z z (TL.w z (lenC z underlying22 z) (TL.i z z (TL.en (TC.block (TC.loopG (α:=(Nat)×(Unit)) (rgs [(4,1),(6,1),(12,16)]) (fun g=>[(12,.int .i64 ((g.1:Nat):Int))]) (fun g=>[]) (fun g=>σ) (fun g=>iter (fun q:Nat=>Ay_ x0 x1 q) g.1=some r) (fun g=>rounds (fun q:Nat=>Ay_ x0 x1 q) g.1) (0,()) (Sub.pre 0 z) z (by repeat (first|exact trivial|refine ⟨z,?_⟩)) hh (fun g1 j1 hg1=> ?_))))))))))
 obtain ⟨k104,_⟩:=g1
 have hh:=hg1;clear hg1
 try dsimp only
 obtain ⟨z1,hh,hR1⟩:=iter_e hh
 dsimp only [Ay_]at hh
 refine TC.a (TL.w z (OpVal.lss z z z) (TL.en (TC.seq (TC.cD z hh (fun h105 hh=> ?_) (fun h105 hh=> ?_)))))
 ·refine TC.skip (S.n (TC.seq (TC.block (TC.a (TL.w z (indexN z underlying22 sz76 z z f0_0.rv.sl (by omega)) (TL.w z (loadSA Tip.zero z ag76 sz76 z f0_0 (by omega) (by omega)) (TL.op z (OpOk.alloc z ze76 z z (fun b106=> ?_)))))))))
  refine TL.op z (storeAll z sz76 z z z z z z ?_)
  refine TL.en (TC.a (TL.w z (fieldLoc z fo76_0 z) (TL.w z (loadLoc z ag3 z (i:=0) z z) (TL.i z z ?_))))
  obtain ⟨v17,u17,hh⟩:=bnd_e hh
  refine TL.op z (callP (Dp_ u17) z z pf84 z z z ?_)
  refine TL.w z (OpVal.not z z) (TL.j z z (TL.split 21 z (fun h108=> ?_) (fun h108=> ?_)))
  ·replace hh:=iteO_t h108 hh
   refine TL.f z (TL.f z (TL.f z (TL.f z (TL.w z (pickTB z z z) (TL.en (TC.t z (TC.a (TL.j z z (TL.en (TC.rt 0 (B.r (S.r (S.r ?_)))))))))))))
   replace hh:=fin_x hR1 hh
   refine B.r (S.r ?_)
   obtain rfl:=so hh
   exact rq [4] ⟨z,z,z⟩
  replace hh:=iteO_f h108 hh
  refine TL.g z (fieldLoc z fo76_1 z) (TL.g z (loadLoc z ag9 z (i:=0) z z) (TL.g z (lenBs z underlying9 z) (TL.g z (OpVal.gtr z z z) (TL.w z (pickFB z z z) (TL.en (TC.cD z hh (fun h109 hh=> ?_) (fun h109 hh=> ?_)))))))
  ·refine TC.a (TL.j z z (TL.en (TC.rt 0 (B.r (S.r (S.r ?_))))))
   replace hh:=fin_x hR1 hh
   refine B.r (S.r ?_)
   obtain rfl:=so hh
   exact rq [4] ⟨z,z,z⟩
  refine TC.skip (B.n (S.n (TC.region (TL.w z (OpVal.succ z z z (by omega)) (TL.i z z (TL.en ?_))))))
  obtain ⟨hh,hlt110⟩:=nxt_x hR1 hh
  exact lf ((k104+1),()) hlt110 hh (Sub.pre 0 z)
 refine TC.exit (S.x (S.x ?_))
 replace hh:=fin_x hR1 hh
 refine TC.exitHere (S.n (TC.a (TL.j z z (TL.en (TC.ret ?_)))))
 obtain rfl:=so hh
 exact rq [4] ⟨z,z,z⟩
def Bs_(x0:Fst)(k110:Nat):Option ((Nat)⊕(Int)):=
 iteO (decide (((k110:Nat):Int)<((x0.arcs.length:Nat):Int))) (bnd (Cv_ ((nth x0.arcs k110 Arc.zero).frm) x0.states) (fun v46=>iteO (!v46) (fin (some 1)) (bnd (Cv_ ((nth x0.arcs k110 Arc.zero).to) x0.states) (fun v53=>iteO (!v53) (fin (some 1)) (iteO (decide ((nth x0.arcs k110 Arc.zero).set=BSet.zero)) (fin (some 1)) (iteO (decide (1024<((((nth x0.arcs k110 Arc.zero).out).length:Nat):Int))) (fin (some 1)) (nxt (k110+1)))))))) (fin (some 0))
def Bd_(x0:Fst):Option (Int):=
 iteO (decide (x0.states<0)) (some 1) (iteO (decide (1024<x0.states)) (some 1) (iteO (decide (16384<((x0.arcs.length:Nat):Int))) (some 1) (bnd (Bx_ x0.starts x0.states) (fun v22=>iteO (!v22) (some 1) (bnd (Bx_ x0.ends x0.states) (fun v29=>iteO (!v29) (some 1) (iter (fun q:Nat=>Bs_ x0 q) 0)))))))
theorem Ch_{x0:Fst}(f0_0:RS σ 2 encTip (.slice a0_0 x0.starts.length c0_0) x0.starts)(f0_1:RS σ 2 encTip (.slice a0_1 x0.ends.length c0_1) x0.ends)(f0_2:RS σ 8 encArc (.slice a0_2 x0.arcs.length c0_2) x0.arcs){r:Int}(hh:Bd_ x0=some r):
  Con Tryz.prog 43 #[.agg #[.int .i64 x0.states,.slice a0_0 x0.starts.length c0_0,.slice a0_1 x0.ends.length c0_1,.slice a0_2 x0.arcs.length c0_2]] σ [] (PureP (.int .i64 r) σ):=by
 dsimp only [Bd_]at hh
 have f0_0b:=f0_0.rv.big
 have f0_1b:=f0_1.rv.big
 have f0_2b:=f0_2.rv.big
 refine Con.mk (n:=67) Tryz.func43 z z z (fun w0=> ?_)
 refine TC.a (TL.op z (boxA z z z z (fun b101=> ?_)))
 refine TL.i z z (TL.en (TC.seq (TC.a (TL.w z (fieldLoc z fo25_0 z) (TL.w z (loadLoc z ag3 z (i:=0) z z) (TL.w z (OpVal.lss z z z) (TL.j z z (TL.split 8 z (fun h103=> ?_) (fun h103=> ?_)))))))))
 ·replace hh:=iteO_t h103 hh
  replace h103:=of_decide_eq_true h103
  refine TL.f z (TL.f z (TL.f z (TL.w z (pickTB z z z) (TL.j z z (TL.f z (TL.f z (TL.f z (TL.f z (TL.w z (pickTB z z z) (TL.en (TC.t z (TC.a (TL.i z z (TL.en (TC.rt 0 ?_)))))))))))))))
  refine S.r ?_
  obtain rfl:=so hh
  exact rq [2] ⟨z,z,z⟩
 replace hh:=iteO_f h103 hh
 replace h103:=of_decide_eq_false h103
 refine TL.g z (fieldLoc z fo25_0 z) (TL.g z (loadLoc z ag3 z (i:=0) z z) (TL.g z (OpVal.gtr z z z) (TL.w z (pickFB z z z) (TL.j z z (TL.split 13 z (fun h104=> ?_) (fun h104=> ?_))))))
 ·replace hh:=iteO_t h104 hh
  replace h104:=of_decide_eq_true h104
  refine TL.f z (TL.f z (TL.f z (TL.f z (TL.w z (pickTB z z z) (TL.en (TC.t z (TC.a (TL.i z z (TL.en (TC.rt 0 (S.r ?_)))))))))))
  obtain rfl:=so hh
  exact rq [2] ⟨z,z,z⟩
 replace hh:=iteO_f h104 hh
 replace h104:=of_decide_eq_false h104
 refine TL.g z (fieldLoc z fo25_3 z) (TL.g z (loadLoc z ag23 z (i:=0) z z) (TL.g z (lenC z underlying23 z) (TL.g z (OpVal.gtr z z z) (TL.w z (pickFB z z z) (TL.en (TC.cD z hh (fun h105 hh=> ?_) (fun h105 hh=> ?_)))))))
 ·refine TC.a (TL.i z z (TL.en (TC.rt 0 (S.r ?_))))
  obtain rfl:=so hh
  exact rq [2] ⟨z,z,z⟩
 refine TC.skip (S.n (TC.seq (TC.a (TL.w z (fieldLoc z fo25_1 z) (TL.w z (loadLoc z ag22 z (i:=0) z z) (TL.w z (fieldLoc z fo25_0 z) (TL.w z (loadLoc z ag3 z (i:=0) z z) ?_)))))))
 obtain ⟨v22,u22,hh⟩:=bnd_e hh
 refine TL.op z (callP (Dr_ f0_0 u22) z z pf83 z z z ?_)
 refine TL.w z (OpVal.not z z) (TL.j z z (TL.split 25 z (fun h106=> ?_) (fun h106=> ?_)))
 ·replace hh:=iteO_t h106 hh
  refine TL.f z (TL.f z (TL.f z (TL.f z (TL.f z (TL.f z (TL.w z (pickTB z z z) (TL.en (TC.t z (TC.a (TL.i z z (TL.en (TC.rt 0 (S.r ?_)))))))))))))
  obtain rfl:=so hh
  exact rq [2] ⟨z,z,z⟩
 replace hh:=iteO_f h106 hh
 refine TL.g z (fieldLoc z fo25_2 z) (TL.g z (loadLoc z ag22 z (i:=0) z z) (TL.g z (fieldLoc z fo25_0 z) (TL.g z (loadLoc z ag3 z (i:=0) z z) ?_)))
 obtain ⟨v29,u29,hh⟩:=bnd_e hh
 refine TL.gon z z z z z (callP (Dr_ f0_1 u29) z z pf83 z z z ?_)
 refine TL.g z (OpVal.not z z) (TL.w z (pickFB z z z) (TL.en (TC.cB z hh (fun h107 hh=> ?_) (fun h107 hh=> ?_))))
 ·refine TC.a (TL.i z z (TL.en (TC.rt 0 (S.r ?_))))
  obtain rfl:=so hh
  exact rq [2] ⟨z,z,z⟩
 refine TC.skip (S.n (TC.seq (TC.a (TL.w z (fieldLoc z fo25_3 z) (TL.w z (loadLoc z ag23 z (i:=0) z z) (TL.w z (lenC z underlying23 z) (TL.i z z (TL.en (TC.block (TC.loopG (α:=(Nat)×(Unit)) (rgs [(2,1),(4,1),(36,31)]) (fun g=>[(36,.int .i64 ((g.1:Nat):Int))]) (fun g=>[Res.cells b101 #[.int .i64 x0.states,.slice a0_0 x0.starts.length c0_0,.slice a0_1 x0.ends.length c0_1,.slice a0_2 x0.arcs.length c0_2] 25]) (fun g=>σ) (fun g=>iter (fun q:Nat=>Bs_ x0 q) g.1=some r) (fun g=>rounds (fun q:Nat=>Bs_ x0 q) g.1) (0,()) (Sub.pre 1 z) z (by repeat (first|exact trivial|refine ⟨z,?_⟩)) hh (fun g1 j1 hg1=> ?_)))))))))))
 obtain ⟨k110,_⟩:=g1
 have hh:=hg1;clear hg1
 try dsimp only
 obtain ⟨z1,hh,hR1⟩:=iter_e hh
 dsimp only [Bs_]at hh
 refine TC.a (TL.w z (OpVal.lss z z z) (TL.en (TC.seq (TC.cD z hh (fun h111 hh=> ?_) (fun h111 hh=> ?_)))))
 ·refine TC.skip (S.n (TC.seq (TC.block (TC.a (TL.w z (indexN z underlying23 sz66 z z f0_2.rv.sl (by omega)) (TL.w z (loadSA Arc.zero z ag66 sz66 z f0_2 (by omega) (by omega)) (TL.op z (OpOk.alloc z ze66 z z (fun b112=> ?_)))))))))
  refine TL.op z (storeAll z sz66 z z z z z z ?_)
  refine TL.en (TC.a (TL.w z (fieldLoc z fo66_0 z) (TL.w z (loadLoc z ag3 z (i:=0) z z) (TL.w z (fieldLoc z fo25_0 z) (TL.w z (loadLoc z ag3 z (i:=1) z z) ?_)))))
  obtain ⟨v46,u46,hh⟩:=bnd_e hh
  refine TL.op z (callP (Dp_ u46) z z pf84 z z z ?_)
  refine TL.w z (OpVal.not z z) (TL.j z z (TL.split 46 z (fun h114=> ?_) (fun h114=> ?_)))
  ·replace hh:=iteO_t h114 hh
   refine TL.f z (TL.f z (TL.f z (TL.f z (TL.f z (TL.f z (TL.w z (pickTB z z z) (TL.j z z (TL.f z (TL.f z (TL.f z (TL.f z (TL.w z (pickTB z z z) (TL.j z z (TL.f z (TL.f z ?_)))))))))))))))
   refine TL.f z (TL.f z (TL.w z (pickTB z z z) (TL.en (TC.t z (TC.a (TL.i z z (TL.en (TC.rt 0 (B.r (S.r (S.r ?_)))))))))))
   replace hh:=fin_x hR1 hh
   refine B.r (S.r ?_)
   obtain rfl:=so hh
   exact rq [2] ⟨z,z,z⟩
  replace hh:=iteO_f h114 hh
  refine TL.g z (fieldLoc z fo66_1 z) (TL.g z (loadLoc z ag3 z (i:=0) z z) (TL.g z (fieldLoc z fo25_0 z) (TL.g z (loadLoc z ag3 z (i:=1) z z) ?_)))
  obtain ⟨v53,u53,hh⟩:=bnd_e hh
  refine TL.gon z z z z z (callP (Dp_ u53) z z pf84 z z z ?_)
  refine TL.g z (OpVal.not z z) (TL.w z (pickFB z z z) (TL.j z z (TL.split 54 z (fun h115=> ?_) (fun h115=> ?_))))
  ·replace hh:=iteO_t h115 hh
   refine TL.f z (TL.f z (TL.f z (TL.f z (TL.w z (pickTB z z z) (TL.j z z (TL.f z (TL.f z (TL.f z (TL.f z (TL.w z (pickTB z z z) (TL.en (TC.t z (TC.a (TL.i z z (TL.en ?_)))))))))))))))
   refine TC.rt 0 (B.r (S.r (S.r ?_)))
   replace hh:=fin_x hR1 hh
   refine B.r (S.r ?_)
   obtain rfl:=so hh
   exact rq [2] ⟨z,z,z⟩
  replace hh:=iteO_f h115 hh
  refine TL.g z (fieldLoc z fo66_2 z) (TL.g z (loadLocA z ag64 sz64 z (i:=0) z z z) (TL.g z (buildArrL z underlying64 sz62 ze64 z) (TL.g z (eqlSet (s:=(nth x0.arcs k110 Arc.zero).set) (t:=BSet.zero) z underlying64 underlying62 ag62 sz62 eg64 z z) (TL.w z (pickFB z z z) (TL.j z z (TL.split 60 z (fun h116=> ?_) (fun h116=> ?_)))))))
  ·replace hh:=iteO_t h116 hh
   replace h116:=of_decide_eq_true h116
   refine TL.f z (TL.f z (TL.f z (TL.f z (TL.w z (pickTB z z z) (TL.en (TC.t z (TC.a (TL.i z z (TL.en (TC.rt 0 (B.r (S.r (S.r ?_)))))))))))))
   replace hh:=fin_x hR1 hh
   refine B.r (S.r ?_)
   obtain rfl:=so hh
   exact rq [2] ⟨z,z,z⟩
  replace hh:=iteO_f h116 hh
  replace h116:=of_decide_eq_false h116
  refine TL.g z (fieldLoc z fo66_3 z) (TL.g z (loadLoc z ag9 z (i:=0) z z) (TL.g z (lenBs z underlying9 z) (TL.g z (OpVal.gtr z z z) (TL.w z (pickFB z z z) (TL.en (TC.cD z hh (fun h117 hh=> ?_) (fun h117 hh=> ?_)))))))
  ·refine TC.a (TL.i z z (TL.en (TC.rt 0 (B.r (S.r (S.r ?_))))))
   replace hh:=fin_x hR1 hh
   refine B.r (S.r ?_)
   obtain rfl:=so hh
   exact rq [2] ⟨z,z,z⟩
  refine TC.skip (B.n (S.n (TC.region (TL.w z (OpVal.succ z z z (by omega)) (TL.i z z (TL.en ?_))))))
  obtain ⟨hh,hlt118⟩:=nxt_x hR1 hh
  exact lf ((k110+1),()) hlt118 hh (Sub.f [1] 1)
 refine TC.exit (S.x (S.x ?_))
 replace hh:=fin_x hR1 hh
 refine TC.exitHere (S.n (TC.a (TL.i z z (TL.en (TC.rt 0 ?_)))))
 obtain rfl:=so hh
 exact rq [2] ⟨z,z,z⟩
def Db_(k128:Nat)(m130:FM FPair Unit):Option (((FM FPair Unit)×Nat)⊕(((FM FPair Unit))⊕((FM FPair Unit)×Bool))):=
 nxt (m130,(k128+1))
def Ck_(m127:FM FPair Unit)(x0:List (List Arc))(v7c:FPair×Unit)(k128:Nat)(s134:List UInt8):Option (((FM FPair Unit)×Nat)⊕(((FM FPair Unit))⊕((FM FPair Unit)×Bool))):=
 iteO (decide (4096<(((m127.put (⟨(nth (nth x0 v7c.1.state.toNat ([]:List Arc)) k128 Arc.zero).to,s134⟩:FPair) ()).n:Nat):Int))) (fin (fin (some ((FM.emp:FM FPair Unit),false)))) (Db_ k128 (m127.put (⟨(nth (nth x0 v7c.1.state.toNat ([]:List Arc)) k128 Arc.zero).to,s134⟩:FPair) ()))
def A1_(x0:List (List Arc))(v7c:FPair×Unit)(x2:UInt8)(m127:FM FPair Unit)(k128:Nat):Option (((FM FPair Unit)×Nat)⊕(((FM FPair Unit))⊕((FM FPair Unit)×Bool))):=
 iteO (decide (((k128:Nat):Int)<(((nth x0 v7c.1.state.toNat ([]:List Arc)).length:Nat):Int))) (iteO (!(((nth (nth x0 v7c.1.state.toNat ([]:List Arc)) k128 Arc.zero).set).has x2.toNat)) (Db_ k128 m127) (grd (v7c.1.out.length+((nth (nth x0 v7c.1.state.toNat ([]:List Arc)) k128 Arc.zero).out).length≤9223372036854775807) (iteO ((nth (nth x0 v7c.1.state.toNat ([]:List Arc)) k128 Arc.zero).copy) (grd ((v7c.1.out++(nth (nth x0 v7c.1.state.toNat ([]:List Arc)) k128 Arc.zero).out).length+[x2].length≤9223372036854775807) (Ck_ m127 x0 v7c k128 ((v7c.1.out++(nth (nth x0 v7c.1.state.toNat ([]:List Arc)) k128 Arc.zero).out)++[x2]))) (Ck_ m127 x0 v7c k128 (v7c.1.out++(nth (nth x0 v7c.1.state.toNat ([]:List Arc)) k128 Arc.zero).out))))) (fin (nxt m127))
def Bq_(x0:List (List Arc))(x2:UInt8)(m114:FM FPair Unit)(oE:Option (FPair×Unit)):Option (((FM FPair Unit))⊕((FM FPair Unit)×Bool)):=
 optE oE (fin (some (m114,true))) (fun v7c=>grd (0≤v7c.1.state∧v7c.1.state<(x0.length:Int)) (iter (fun q:(FM FPair Unit)×Nat=>A1_ x0 v7c x2 q.1 q.2) (m114,0)))
def Dv_(x0:List (List Arc))(x1:FM FPair Unit)(x2:UInt8):Option ((FM FPair Unit)×Bool):=
 allP (fun q=>Rep q x1) (fun q=>runL (fun (q:(FM FPair Unit)) (oE:Option (FPair×Unit))=>Bq_ x0 x2 q oE) q (FM.emp:FM FPair Unit))
theorem Fb_{x0:List (List Arc)}{x1:FM FPair Unit}{b1_0:Option Nat}{x2:UInt8}(f0_0:RZ σ (pkSl 8 encArc encArc_len) (.slice a0_0 x0.length c0_0) x0){r:(FM FPair Unit)×Bool}(hh:Dv_ x0 x1 x2=some r):
  Con Tryz.prog 62 #[.slice a0_0 x0.length c0_0,.map b1_0,.int .u8 ((x2.toNat:Nat):Int)] σ [Res.mapB (fun x=>Value.agg (encFPair x).toArray) unitV b1_0 x1] (fun v σ' H'=> ∃(br1:Option Nat),v= .tuple #[.map br1,.bool r.2]∧σ=σ'∧H'=[Res.mapB (fun x=>Value.agg (encFPair x).toArray) unitV br1 r.1]):=by
 dsimp only [Dv_]at hh
 have f0_0b:=f0_0.big
 refine Con.mk (n:=58) Tryz.func62 z z z (fun w0=> ?_)
 refine TC.a (TL.w z (moveMap (.inr z) z) (TL.j z z (TL.en (TC.a (TL.op z (makeMapB (enc:=(fun x=>Value.agg (encFPair x).toArray)) (encV:=unitV) z z z (fun b103=> ?_)))))))
 refine TL.w z (moveMap (.inr z) z) (TL.en (TC.seq (TC.a (TL.w z (moveMap (.inl z) z) (TL.front 1 z z (TL.op z (rangeB z underlying101 z z z (fun it105 l106 hl107=> ?_))))))))
 refine TL.en (TC.block (TC.loopG (α:=((FM FPair Unit))×((List (FPair×Unit))×(Option (FPair×Unit)))) (rgs [(6,2),(9,1),(11,2),(16,41)]) (fun g=>[]) (fun g=>[Res.mapB (fun x=>Value.agg (encFPair x).toArray) unitV (some b103) g.1,Res.rng (fun x=>Value.agg (encFPair x).toArray) unitV b1_0 it105 x1 g.2.1 g.2.2]) (fun g=>σ) (fun g=>runA (fun (q:(FM FPair Unit)) (oE:Option (FPair×Unit))=>Bq_ x0 x2 q oE) g.2.1 g.1=some r) (fun g=>List.length g.2.1) ((FM.emp:FM FPair Unit),(l106,none)) (Sub.f [1] 2) z (by repeat (first|exact trivial|refine ⟨z,?_⟩)) (runA_of hh hl107) (fun g1 j1 hg1=> ?_)))
 obtain ⟨m114,⟨l115,o116⟩⟩:=g1
 have hh:=hg1;clear hg1
 try dsimp only
 refine TC.a (TL.front 1 z z (TL.op z (nextB (T:=0) z z z z z (fun hl117=> ?_) (fun l118 v7c l119 hl117=> ?_))))
 ·subst hl117
  obtain ⟨z1,hh,hR1⟩:=runA_end hh
  dsimp only [Bq_,optE_none]at hh
  refine TL.by (fun w h=>Reach.unrng h) (TL.w z (OpVal.extract z z z) (TL.en (TC.seq (TC.f z (TC.exit (S.x (S.x ?_)))))))
  replace hh:=finE_x hR1 hh
  refine TC.exitHere (S.n (TC.a (TL.w z (moveMap (.inl z) z) (TL.w z (moveMap (.inr z) z) (TL.j z z (TL.en (TC.ofSub (Sub.f [1] 1) (TC.ret ?_))))))))
  obtain rfl:=so hh
  exact ro [Res.mapB (fun x=>Value.agg (encFPair x).toArray) unitV (some b103) m114] z (RVs.tmp z (RVs.tmp z RVs.nil)) ⟨(some b103),z,z,z⟩
 subst hl117
 obtain ⟨z1,hh,hR1⟩:=runA_step hh
 dsimp only [Bq_,optE_some]at hh
 refine TL.w z (OpVal.extract z z z) (TL.en (TC.seq (TC.t z (TC.skip (S.n (TC.block (TC.a (TL.w z (OpVal.of (entryB z z (i:=0) z) (v':= .tuple #[.agg #[.int .i64 v7c.1.state,.string (bs v7c.1.out)],.agg #[]]) z) (TL.w z (OpVal.extract z z z) (TL.op z (OpOk.alloc z ze104 z z (fun b120=> ?_))))))))))))
 refine TL.op z (storeAll z sz104 z z z z z z ?_)
 refine TL.en (TC.a (TL.s z z (TL.w z (fieldLoc z fo104_0 z) (TL.w z (loadLoc z ag3 z (i:=0) z z) ?_))))
 have u16:=grd_c hh
 replace hh:=grd_t hh
 refine TL.w z (OpVal.index z underlying71 sz23 z z f0_0.isSl u16.1 u16.2) ?_
 obtain ⟨p122,hk122,hg122⟩:=RZ.seg f0_0 v7c.1.state.toNat (by omega)
 replace hk122:RS _ 8 encArc (.slice p122.1 (nth x0 v7c.1.state.toNat ([]:List Arc)).length p122.2) (nth x0 v7c.1.state.toNat ([]:List Arc)):=hk122
 have hk122b:=hk122.rv.big
 refine TL.w z (OpVal.of (loadSeg0 z ag23 z hg122 z) (v':= .slice p122.1 ((nth x0 v7c.1.state.toNat ([]:List Arc)).length) p122.2) z) (TL.w z (lenC z underlying23 z) (TL.i z z (TL.en (TC.block (TC.loopG (α:=((FM FPair Unit)×Nat)×(Unit)) (rgs [(6,2),(11,2),(26,31)]) (fun g=>[(26,.int .i64 ((g.1.2:Nat):Int))]) (fun g=>[Res.mapB (fun x=>Value.agg (encFPair x).toArray) unitV (some b103) g.1.1,Res.cells b120 #[.int .i64 v7c.1.state,.string (bs v7c.1.out)] 104,Res.rng (fun x=>Value.agg (encFPair x).toArray) unitV b1_0 it105 x1 (l118++l119) (some v7c)]) (fun g=>σ) (fun g=>iter (fun q:(FM FPair Unit)×Nat=>A1_ x0 v7c x2 q.1 q.2) g.1=some z1) (fun g=>rounds (fun q:(FM FPair Unit)×Nat=>A1_ x0 v7c x2 q.1 q.2) g.1) ((m114,0),()) (Sub.f [1,1,2] 3) z (by repeat (first|exact trivial|refine ⟨z,?_⟩)) hh (fun g2 j2 hg2=> ?_))))))
 obtain ⟨⟨m127,k128⟩,_⟩:=g2
 have hh:=hg2;clear hg2
 try dsimp only
 obtain ⟨z2,hh,hR2⟩:=iter_e hh
 dsimp only [A1_]at hh
 refine TC.a (TL.w z (OpVal.lss z z z) (TL.en (TC.seq (TC.cD z hh (fun h129 hh=> ?_) (fun h129 hh=> ?_)))))
 ·refine TC.skip (S.n (TC.cutG (α:=((FM FPair Unit))×(Unit)) (rgs [(6,2),(11,2),(28,28)]) (fun g=>[]) (fun g=>[Res.mapB (fun x=>Value.agg (encFPair x).toArray) unitV (some b103) g.1,Res.cells b120 #[.int .i64 v7c.1.state,.string (bs v7c.1.out)] 104,Res.rng (fun x=>Value.agg (encFPair x).toArray) unitV b1_0 it105 x1 (l118++l119) (some v7c)]) (fun g=>σ) (fun g=>Db_ k128 g.1=some z2) ?_ (fun g j hg=> ?_)))
  ·skip
   refine TC.block (TC.a (TL.w z (indexN z underlying23 sz66 z z hk122.rv.sl (by omega)) (TL.w z (loadSA Arc.zero z ag66 sz66 z hk122 (by omega) (by omega)) (TL.op z (OpOk.alloc z ze66 z z (fun b131=> ?_))))))
   refine TL.op z (storeAll z sz66 z z z z z z ?_)
   refine TL.en (TC.seq (TC.a (TL.w z (fieldLoc z fo66_2 z) (TL.w z (loadLocA z ag64 sz64 z (i:=0) z z z) (TL.i z z (TL.op z (callP (has_con _ ((nth (nth x0 v7c.1.state.toNat ([]:List Arc)) k128 Arc.zero).set) x2.toNat (BSet.isOk _) (UInt8.toNat_lt _)) z z pf102 z z z ?_)))))))
   refine TL.w z (OpVal.not z z) (TL.en (TC.cB z hh (fun h133 hh=> ?_) (fun h133 hh=> ?_)))
   ·exact TC.exit (S.x (TC.exitHere (S.n (cf (m127,()) hh (Sub.f [3,3,3] 3)))))
   refine TC.skip (S.n (TC.a (TL.w z (fieldLoc z fo104_1 z) (TL.w z (loadLoc z ag9 z (i:=2) z z) (TL.w z (fieldLoc z fo66_3 z) (TL.w z (loadLoc z ag9 z (i:=0) z z) ?_))))))
   have u34:=grd_c hh
   replace hh:=grd_t hh
   refine TL.w z (catBs z z z u34) (TL.w z (moveStr (.inr z) z) (TL.en (TC.cutG (α:=((List UInt8))×(Unit)) (rgs [(12,1),(40,7)]) (fun g=>[(12,.string (bs g.1))]) (fun g=>[Res.mapB (fun x=>Value.agg (encFPair x).toArray) unitV (some b103) m127,Res.cells b120 #[.int .i64 v7c.1.state,.string (bs v7c.1.out)] 104,Res.cells b131 #[.int .i64 ((nth (nth x0 v7c.1.state.toNat ([]:List Arc)) k128 Arc.zero).frm),.int .i64 ((nth (nth x0 v7c.1.state.toNat ([]:List Arc)) k128 Arc.zero).to),.int .u64 ((((nth (nth x0 v7c.1.state.toNat ([]:List Arc)) k128 Arc.zero).set).a:Nat):Int),.int .u64 ((((nth (nth x0 v7c.1.state.toNat ([]:List Arc)) k128 Arc.zero).set).b:Nat):Int),.int .u64 ((((nth (nth x0 v7c.1.state.toNat ([]:List Arc)) k128 Arc.zero).set).c:Nat):Int),.int .u64 ((((nth (nth x0 v7c.1.state.toNat ([]:List Arc)) k128 Arc.zero).set).d:Nat):Int),.string (bs ((nth (nth x0 v7c.1.state.toNat ([]:List Arc)) k128 Arc.zero).out)),.bool ((nth (nth x0 v7c.1.state.toNat ([]:List Arc)) k128 Arc.zero).copy)] 66,Res.rng (fun x=>Value.agg (encFPair x).toArray) unitV b1_0 it105 x1 (l118++l119) (some v7c)]) (fun g=>σ) (fun g=>Ck_ m127 x0 v7c k128 g.1=some z2) ?_ (fun g j hg=> ?_))))
   ·skip
    refine TC.a (TL.w z (fieldLoc z fo66_4 z) (TL.w z (loadLoc z ag4 z (i:=0) z z) (TL.en (TC.cB z hh (fun h135 hh=> ?_) (fun h135 hh=> ?_)))))
    ·refine TC.region (TL.w z (moveStr (.inl z) z) (TL.i z z (TL.op z (OpOk.lit (enc:=encU8) [x2] z underlying60 sz5 ze5 z z z encU8_len (by decide) (by decide) (0:UInt8) z (by decide) z (by decide) encU8_one (fun a136 c137=> ?_)))))
     refine TL.isSl (i:=0) z (fun hs139 _ _=> ?_)
     refine TL.w z (bytesStr (l:=[x2]) z underlying60 underlying5 underlying9 z hs139 (fun w hw=>rdb_row (q:=0) z hw)) ?_
     have u42:=grd_c hh
     replace hh:=grd_t hh
     exact TL.w z (catBs z z z u42) (TL.w z (moveStr (.inr z) z) (TL.en (cf (((v7c.1.out++(nth (nth x0 v7c.1.state.toNat ([]:List Arc)) k128 Arc.zero).out)++[x2]),()) hh (Sub.f [4,2,4,4] 4))))
    exact TC.skip (S.n (cf ((v7c.1.out++(nth (nth x0 v7c.1.state.toNat ([]:List Arc)) k128 Arc.zero).out),()) hh (Sub.f [3,1,3,3] 4)))
   skip
   obtain ⟨s134,_⟩:=g
   have hh:=hg;clear hg
   try dsimp only
   dsimp only [Ck_]at hh
   refine TC.a (TL.w z (moveMap (.inl z) z) (TL.w z (fieldLoc z fo66_1 z) (TL.w z (loadLoc z ag3 z (i:=2) z z) (TL.w z (moveStr (.inl z) z) (TL.w z (buildL z pl104 ze104 z) (TL.w z (buildL z pl102 ze102 z) (TL.op z (updB (⟨(nth (nth x0 v7c.1.state.toNat ([]:List Arc)) k128 Arc.zero).to,s134⟩:FPair) () z underlying101 z z z z kl104 ?_))))))))
   refine TL.en (TC.a (TL.w z (moveMap (.inl z) z) (TL.w z (lenB z underlying101 z (i:=0) z) (TL.w z (OpVal.gtr z z z) (TL.en (TC.cD z hh (fun h140 hh=> ?_) (fun h140 hh=> ?_)))))))
   ·refine TC.a (TL.w z (moveMap (.inr z) z) (TL.j z z (TL.en (TC.by (fun w h=>Reach.nilMap (enc:=(fun x=>Value.agg (encFPair x).toArray)) (encV:=unitV) h) (TC.rt 1 (B.r (S.r (S.r ?_))))))))
    replace hh:=fin_x hR2 hh
    refine B.r (B.r (S.r ?_))
    replace hh:=finA_x hR1 hh
    refine B.r (S.r ?_)
    obtain rfl:=so hh
    exact ro [Res.mapB (fun x=>Value.agg (encFPair x).toArray) unitV none (FM.emp:FM FPair Unit)] z (RVs.tmp z (RVs.tmp z RVs.nil)) ⟨none,z,z,z⟩
   exact TC.skip (B.n (S.n (cf ((m127.put (⟨(nth (nth x0 v7c.1.state.toNat ([]:List Arc)) k128 Arc.zero).to,s134⟩:FPair) ()),()) hh (Sub.f [3,2,2] 3))))
  skip
  obtain ⟨m130,_⟩:=g
  have hh:=hg;clear hg
  try dsimp only
  dsimp only [Db_]at hh
  refine TC.region (TL.w z (OpVal.succ z z z (by omega)) (TL.i z z (TL.en ?_)))
  obtain ⟨hh,hlt142⟩:=nxt_x hR2 hh
  exact lf ((m130,(k128+1)),()) hlt142 hh (Sub.f [2,2,2] 3)
 refine TC.exit (S.x (S.x ?_))
 replace hh:=fin_x hR2 hh
 refine TC.exitHere (B.n (S.n ?_))
 replace hh:=nxtA_x hR1 hh
 exact lf (m127,((l118++l119),(some v7c))) (by simp) hh (Sub.f [2,1] 2)
end Go.Proofs.YtchebnpdnfhenaaGreatDoor
end

noncomputable section
namespace Go.Proofs.YtchebnpdnfhenaaGreatDoor
open Go Go.E Go.E.OpVal Go.E.OpOk Go.Proofs.Tryz
theorem pf106:plainF Tryz.prog 106=true:=by kernel_rfl
theorem pf134:plainF Tryz.prog 134=true:=by kernel_rfl
theorem pf135:plainF Tryz.prog 135=true:=by kernel_rfl
theorem pf139:plainF Tryz.prog 139=true:=by kernel_rfl
theorem pf140:plainF Tryz.prog 140=true:=by kernel_rfl
theorem pf156:plainF Tryz.prog 156=true:=by kernel_rfl
theorem pf158:plainF Tryz.prog 158=true:=by kernel_rfl
theorem pf195:plainF Tryz.prog 195=true:=by kernel_rfl
theorem pf64:plainF Tryz.prog 64=true:=by kernel_rfl
theorem sz3:szOf Tryz.prog 3=some 1:=by kernel_rfl
theorem ze3:zeroOf Tryz.prog 3=some (.int .i64 0):=by kernel_rfl
def A4_(x0:List UInt8)(x1:List UInt8):Option (Int):=
 some (Lib.compareBytes x0 x1)
theorem Cx_{x0:List UInt8}{x1:List UInt8}{r:Int}(hh:A4_ x0 x1=some r):
  Con Tryz.prog 106 #[.string (bs x0),.string (bs x1)] σ [] (PureP (.int .i64 r) σ):=by
 dsimp only [A4_]at hh
 refine Con.mk (n:=8) Tryz.func106 z z z (fun w0=> ?_)
 refine TC.a (TL.i z z (TL.en (TC.a (TL.w z (moveStr (.inl z) z) (TL.w z (moveStr (.inl z) z) (TL.w z (cmpStr z z Tryz.func144 (by kernel_rfl) (by kernel_rfl) (by kernel_rfl) (by kernel_rfl) z z) (TL.i z z (TL.en (TC.ret ?_)))))))))
 obtain rfl:=so hh
 exact rq [4] ⟨z,z,z⟩
def B0_(x0:List UInt8)(x1:List UInt8):Option (Int):=
 bnd (A4_ x0 x1) (fun v4=>some v4)
theorem Cl_{x0:List UInt8}{x1:List UInt8}{r:Int}(hh:B0_ x0 x1=some r):
  Con Tryz.prog 64 #[.string (bs x0),.string (bs x1)] σ [] (PureP (.int .i64 r) σ):=by
 dsimp only [B0_]at hh
 refine Con.mk (n:=8) Tryz.func64 z z z (fun w0=> ?_)
 refine TC.a (TL.i z z (TL.en (TC.a (TL.w z (moveStr (.inl z) z) (TL.w z (moveStr (.inl z) z) ?_)))))
 obtain ⟨v4,u4,hh⟩:=bnd_e hh
 refine TL.op z (callP (Cx_ u4) z z pf106 z z z ?_)
 refine TL.i z z (TL.en (TC.ret ?_))
 obtain rfl:=so hh
 exact rq [4] ⟨z,z,z⟩
def Dl_(x0:Int):Option (Bool):=
 some (decide (x0≠x0))
theorem Ec_{x0:Int}{r:Bool}(hh:Dl_ x0=some r):
  Con Tryz.prog 156 #[.int .i64 x0] σ [] (PureP (.bool r) σ):=by
 dsimp only [Dl_]at hh
 refine Con.mk (n:=6) Tryz.func156 z z z (fun w0=> ?_)
 refine TC.a (TL.j z z (TL.en (TC.a (TL.i z z (TL.i z z (TL.w z (OpVal.neq z z z) (TL.j z z (TL.en (TC.ret ?_)))))))))
 obtain rfl:=so hh
 exact rq [2] ⟨z,z,z⟩
def Ba_(x0:Int)(x1:Int):Option (Int):=
 bnd (Dl_ x0) (fun v3=>bnd (Dl_ x1) (fun v6=>iteO v3 (iteO v6 (some 0) (some (-1))) (iteO v6 (some 1) (iteO (decide (x0<x1)) (some (-1)) (iteO (decide (x1<x0)) (some 1) (some 0))))))
theorem Bz_{x0:Int}{x1:Int}{r:Int}(hh:Ba_ x0 x1=some r):
  Con Tryz.prog 135 #[.int .i64 x0,.int .i64 x1] σ [] (PureP (.int .i64 r) σ):=by
 dsimp only [Ba_]at hh
 refine Con.mk (n:=20) Tryz.func135 z z z (fun w0=> ?_)
 refine TC.a (TL.i z z (TL.en (TC.a (TL.i z z ?_))))
 obtain ⟨v3,u3,hh⟩:=bnd_e hh
 refine TL.op z (callP (Ec_ u3) z z pf156 z z z ?_)
 refine TL.j z z (TL.en (TC.a (TL.i z z ?_)))
 obtain ⟨v6,u6,hh⟩:=bnd_e hh
 refine TL.op z (callP (Ec_ u6) z z pf156 z z z ?_)
 refine TL.j z z (TL.en (TC.seq (TC.a (TL.j z z (TL.en (TC.cB z hh (fun h101 hh=> ?_) (fun h101 hh=> ?_)))))))
 ·refine TC.seq (TC.a (TL.j z z (TL.en (TC.cB z hh (fun h102 hh=> ?_) (fun h102 hh=> ?_)))))
  ·refine TC.a (TL.i z z (TL.en (TC.ret (S.r (S.r ?_)))))
   obtain rfl:=so hh
   exact rq [4] ⟨z,z,z⟩
  refine TC.skip (S.n (TC.a (TL.i z z (TL.en (TC.ret (S.r ?_))))))
  obtain rfl:=so hh
  exact rq [4] ⟨z,z,z⟩
 refine TC.skip (S.n (TC.seq (TC.a (TL.j z z (TL.en (TC.cB z hh (fun h103 hh=> ?_) (fun h103 hh=> ?_)))))))
 ·refine TC.a (TL.i z z (TL.en (TC.ret (S.r ?_))))
  obtain rfl:=so hh
  exact rq [4] ⟨z,z,z⟩
 refine TC.skip (S.n (TC.seq (TC.a (TL.i z z (TL.i z z (TL.w z (OpVal.lss z z z) (TL.en (TC.cD z hh (fun h104 hh=> ?_) (fun h104 hh=> ?_)))))))))
 ·refine TC.a (TL.i z z (TL.en (TC.ret (S.r ?_))))
  obtain rfl:=so hh
  exact rq [4] ⟨z,z,z⟩
 refine TC.skip (S.n (TC.seq (TC.a (TL.i z z (TL.i z z (TL.w z (OpVal.gtr z z z) (TL.en (TC.cD z hh (fun h105 hh=> ?_) (fun h105 hh=> ?_)))))))))
 ·refine TC.a (TL.i z z (TL.en (TC.ret (S.r ?_))))
  obtain rfl:=so hh
  exact rq [4] ⟨z,z,z⟩
 refine TC.skip (S.n (TC.a (TL.i z z (TL.en (TC.ret ?_)))))
 obtain rfl:=so hh
 exact rq [4] ⟨z,z,z⟩
def isNaNU(x0:Nat):Option (Bool):=
 some (decide (x0≠x0))
theorem isNaNU_con{x0:Nat}{r:Bool}(hh:isNaNU x0=some r):
  Con Tryz.prog 195 #[.int .u64 ((x0:Nat):Int)] σ [] (PureP (.bool r) σ):=by
 dsimp only [isNaNU]at hh
 refine Con.mk (n:=6) Tryz.func195 z z z (fun w0=> ?_)
 refine TC.a (TL.j z z (TL.en (TC.a (TL.i z z (TL.i z z (TL.w z (neqU z z z) (TL.j z z (TL.en (TC.ret ?_)))))))))
 obtain rfl:=so hh
 exact rq [2] ⟨z,z,z⟩
def compareU(x0:Nat)(x1:Nat):Option (Int):=
 bnd (isNaNU x0) (fun v3=>bnd (isNaNU x1) (fun v6=>iteO v3 (iteO v6 (some 0) (some (-1))) (iteO v6 (some 1) (iteO (decide (x0<x1)) (some (-1)) (iteO (decide (x1<x0)) (some 1) (some 0))))))
theorem compareU_con{x0:Nat}{x1:Nat}{r:Int}(hh:compareU x0 x1=some r):
  Con Tryz.prog 158 #[.int .u64 ((x0:Nat):Int),.int .u64 ((x1:Nat):Int)] σ [] (PureP (.int .i64 r) σ):=by
 dsimp only [compareU]at hh
 refine Con.mk (n:=20) Tryz.func158 z z z (fun w0=> ?_)
 refine TC.a (TL.i z z (TL.en (TC.a (TL.i z z ?_))))
 obtain ⟨v3,u3,hh⟩:=bnd_e hh
 refine TL.op z (callP (isNaNU_con u3) z z pf195 z z z ?_)
 refine TL.j z z (TL.en (TC.a (TL.i z z ?_)))
 obtain ⟨v6,u6,hh⟩:=bnd_e hh
 refine TL.op z (callP (isNaNU_con u6) z z pf195 z z z ?_)
 refine TL.j z z (TL.en (TC.seq (TC.a (TL.j z z (TL.en (TC.cB z hh (fun h101 hh=> ?_) (fun h101 hh=> ?_)))))))
 ·refine TC.seq (TC.a (TL.j z z (TL.en (TC.cB z hh (fun h102 hh=> ?_) (fun h102 hh=> ?_)))))
  ·refine TC.a (TL.i z z (TL.en (TC.ret (S.r (S.r ?_)))))
   obtain rfl:=so hh
   exact rq [4] ⟨z,z,z⟩
  refine TC.skip (S.n (TC.a (TL.i z z (TL.en (TC.ret (S.r ?_))))))
  obtain rfl:=so hh
  exact rq [4] ⟨z,z,z⟩
 refine TC.skip (S.n (TC.seq (TC.a (TL.j z z (TL.en (TC.cB z hh (fun h103 hh=> ?_) (fun h103 hh=> ?_)))))))
 ·refine TC.a (TL.i z z (TL.en (TC.ret (S.r ?_))))
  obtain rfl:=so hh
  exact rq [4] ⟨z,z,z⟩
 refine TC.skip (S.n (TC.seq (TC.a (TL.i z z (TL.i z z (TL.w z (lssU z z z) (TL.en (TC.cD z hh (fun h104 hh=> ?_) (fun h104 hh=> ?_)))))))))
 ·refine TC.a (TL.i z z (TL.en (TC.ret (S.r ?_))))
  obtain rfl:=so hh
  exact rq [4] ⟨z,z,z⟩
 refine TC.skip (S.n (TC.seq (TC.a (TL.i z z (TL.i z z (TL.w z (gtrU z z z) (TL.en (TC.cD z hh (fun h105 hh=> ?_) (fun h105 hh=> ?_)))))))))
 ·refine TC.a (TL.i z z (TL.en (TC.ret (S.r ?_))))
  obtain rfl:=so hh
  exact rq [4] ⟨z,z,z⟩
 refine TC.skip (S.n (TC.a (TL.i z z (TL.en (TC.ret ?_)))))
 obtain rfl:=so hh
 exact rq [4] ⟨z,z,z⟩
def C8_(x0:Bool):Option (Int):=
 iteO x0 (some 1) (some 0)
theorem D7_{x0:Bool}{r:Int}(hh:C8_ x0=some r):
  Con Tryz.prog 140 #[.bool x0] σ [] (PureP (.int .i64 r) σ):=by
 dsimp only [C8_]at hh
 refine Con.mk (n:=4) Tryz.func140 z z z (fun w0=> ?_)
 refine TC.a (TL.i z z (TL.en (TC.seq (TC.a (TL.j z z (TL.en (TC.cB z hh (fun h101 hh=> ?_) (fun h101 hh=> ?_))))))))
 ·refine TC.a (TL.i z z (TL.en (TC.ret (S.r ?_))))
  obtain rfl:=so hh
  exact rq [2] ⟨z,z,z⟩
 refine TC.skip (S.n (TC.a (TL.i z z (TL.en (TC.ret ?_)))))
 obtain rfl:=so hh
 exact rq [2] ⟨z,z,z⟩
def Cd_(x0:List Int)(k103:Nat):Option ((Nat)⊕(Int)):=
 iteO (decide (((k103:Nat):Int)<((x0.length:Nat):Int))) (iteO (decide ((nth x0 k103 (0:Int))≠0)) (fin (some (nth x0 k103 (0:Int)))) (nxt (k103+1))) (fin (some 0))
def Dy_(x0:List Int):Option (Int):=
 iter (fun q:Nat=>Cd_ x0 q) 0
theorem Ea_{x0:List Int}(f0_0:RS σ 1 eI_ (.slice a0_0 x0.length c0_0) x0){r:Int}(hh:Dy_ x0=some r):
  Con Tryz.prog 134 #[.slice a0_0 x0.length c0_0] σ [] (PureP (.int .i64 r) σ):=by
 dsimp only [Dy_]at hh
 have f0_0b:=f0_0.rv.big
 refine Con.mk (n:=18) Tryz.func134 z z z (fun w0=> ?_)
 refine TC.a (TL.i z z (TL.en (TC.a (TL.i z z (TL.en (TC.seq (TC.a (TL.s z z (TL.w z (lenC z underlying86 z) (TL.i z z (TL.en (TC.block (TC.loopG (α:=(Nat)×(Unit)) (rgs [(2,1),(5,1),(8,9)]) (fun g=>[(8,.int .i64 ((g.1:Nat):Int))]) (fun g=>[]) (fun g=>σ) (fun g=>iter (fun q:Nat=>Cd_ x0 q) g.1=some r) (fun g=>rounds (fun q:Nat=>Cd_ x0 q) g.1) (0,()) (Sub.pre 0 z) z (by repeat (first|exact trivial|refine ⟨z,?_⟩)) hh (fun g1 j1 hg1=> ?_))))))))))))))
 obtain ⟨k103,_⟩:=g1
 have hh:=hg1;clear hg1
 try dsimp only
 obtain ⟨z1,hh,hR1⟩:=iter_e hh
 dsimp only [Cd_]at hh
 refine TC.a (TL.w z (OpVal.lss z z z) (TL.en (TC.seq (TC.cD z hh (fun h104 hh=> ?_) (fun h104 hh=> ?_)))))
 ·refine TC.skip (S.n (TC.seq (TC.block (TC.a (TL.w z (indexN z underlying86 sz3 z z f0_0.rv.sl (by omega)) (TL.w z (loadS1 (0:Int) z ag3 z f0_0 (by omega) z) (TL.i z z (TL.en (TC.a (TL.i z z (TL.i z z (TL.w z (OpVal.neq z z z) (TL.en (TC.cD z hh (fun h105 hh=> ?_) (fun h105 hh=> ?_)))))))))))))))
  ·refine TC.a (TL.i z z (TL.i z z (TL.en (TC.ret (B.r (S.r (S.r ?_)))))))
   replace hh:=fin_x hR1 hh
   refine B.r (S.r ?_)
   obtain rfl:=so hh
   exact rq [2] ⟨z,z,z⟩
  refine TC.skip (B.n (S.n (TC.region (TL.w z (OpVal.succ z z z (by omega)) (TL.i z z (TL.en ?_))))))
  obtain ⟨hh,hlt106⟩:=nxt_x hR1 hh
  exact lf ((k103+1),()) hlt106 hh (Sub.pre 0 z)
 refine TC.exit (S.x (S.x ?_))
 replace hh:=fin_x hR1 hh
 refine TC.exitHere (S.n (TC.a (TL.i z z (TL.i z z (TL.en (TC.ret ?_))))))
 obtain rfl:=so hh
 exact rq [2] ⟨z,z,z⟩
def Cp_(x0:Tip)(x1:Tip):Option (Int):=
 bnd (Ba_ x0.state x1.state) (fun v8=>bnd (B0_ x0.out x1.out) (fun v13=>bnd (Dy_ [v8,v13]) (fun v15=>some v15)))
theorem Eh_{x0:Tip}{x1:Tip}{r:Int}(hh:Cp_ x0 x1=some r):
  Con Tryz.prog 96 #[.agg #[.int .i64 x0.state,.string (bs x0.out)],.agg #[.int .i64 x1.state,.string (bs x1.out)]] σ [] (PureP (.int .i64 r) σ):=by
 dsimp only [Cp_]at hh
 refine Con.mk (n:=17) Tryz.func96 z z z (fun w0=> ?_)
 refine TC.a (TL.op z (boxA z z z z (fun b101=> ?_)))
 refine TL.op z (boxA z z z z (fun b103=> ?_))
 refine TL.i z z (TL.en (TC.seq ?_))
 obtain ⟨v8,u8,hh⟩:=bnd_e hh
 obtain ⟨v13,u13,hh⟩:=bnd_e hh
 obtain ⟨v15,u15,hh⟩:=bnd_e hh
 refine TC.draw [] (by kernel_rfl) (TA.a 0 z (fieldLoc z fo76_0 z) z (TA.b 1 z (loadLoc z ag3 z (i:=1) z z) z (TA.a 2 z (fieldLoc z fo76_0 z) z (TA.b 3 z (loadLoc z ag3 z (i:=0) z z) z (TA.a 5 z (fieldLoc z fo76_1 z) z (TA.b 6 z (loadLoc z ag9 z (i:=1) z z) z (TA.a 7 z (fieldLoc z fo76_1 z) z (TA.b 8 z (loadLoc z ag9 z (i:=0) z z) z (TA.ac 4 z (callP (Bz_ u8) z z pf135 z z z (k0 ?_)))))))))))
 refine TA.ac 9 z (callP (Cl_ u13) z z pf64 z z z (k0 ?_))
 refine TA.ac 10 z (OpOk.lit (enc:=eI_) [v8,v13] z underlying86 sz3 ze3 z z z eIl_ (by decide) (by decide) (0:Int) z (by decide) z (by decide) eIo_ (fun a110 c111=>(k1 ?_)))
 refine TA.ac 11 z (callK (Con.lend eIl_ (fun _ hle114 hr113=>Ea_ hr113 u15)) z z pf134 z z z z (k1 ?_))
 refine TA.a 12 z (moveI (.inr z) z) z (TA.dn (S.n (TC.rt 0 ?_)))
 obtain rfl:=so hh
 exact rq [4] ⟨z,z,z⟩
def compareUs_b1(x0:List Nat)(x1:List Nat)(k103:Nat):Option ((Nat)⊕(Int)):=
 iteO (decide (((k103:Nat):Int)<((x0.length:Nat):Int))) (iteO (decide (((x1.length:Nat):Int)≤((k103:Nat):Int))) (fin (some 1)) (grd (k103<x1.length) (bnd (compareU (nth x0 k103 (0:Nat)) (nth x1 k103 (0:Nat))) (fun v23=>iteO (decide (v23≠0)) (fin (some v23)) (nxt (k103+1)))))) (fin (iteO (decide (((x0.length:Nat):Int)<((x1.length:Nat):Int))) (some (-1)) (some 0)))
def compareUs(x0:List Nat)(x1:List Nat):Option (Int):=
 iter (fun q:Nat=>compareUs_b1 x0 x1 q) 0
theorem compareUs_con{x0:List Nat}{x1:List Nat}(f0_0:RS σ 1 encW (.slice a0_0 x0.length c0_0) x0)(f1_0:RS σ 1 encW (.slice a1_0 x1.length c1_0) x1){r:Int}(hh:compareUs x0 x1=some r):
  Con Tryz.prog 139 #[.slice a0_0 x0.length c0_0,.slice a1_0 x1.length c1_0] σ [] (PureP (.int .i64 r) σ):=by
 dsimp only [compareUs]at hh
 have f0_0b:=f0_0.rv.big
 have f1_0b:=f1_0.rv.big
 refine Con.mk (n:=36) Tryz.func139 z z z (fun w0=> ?_)
 refine TC.a (TL.i z z (TL.en (TC.seq (TC.a (TL.s z z (TL.w z (lenC z underlying194 z) (TL.i z z (TL.en (TC.block (TC.loopG (α:=(Nat)×(Unit)) (rgs [(4,5),(11,20)]) (fun g=>[(11,.int .i64 ((g.1:Nat):Int))]) (fun g=>[]) (fun g=>σ) (fun g=>iter (fun q:Nat=>compareUs_b1 x0 x1 q) g.1=some r) (fun g=>rounds (fun q:Nat=>compareUs_b1 x0 x1 q) g.1) (0,()) (Sub.pre 0 z) z (by repeat (first|exact trivial|refine ⟨z,?_⟩)) hh (fun g1 j1 hg1=> ?_)))))))))))
 obtain ⟨k103,_⟩:=g1
 have hh:=hg1;clear hg1
 try dsimp only
 obtain ⟨z1,hh,hR1⟩:=iter_e hh
 dsimp only [compareUs_b1]at hh
 refine TC.a (TL.w z (OpVal.lss z z z) (TL.en (TC.seq (TC.cD z hh (fun h104 hh=> ?_) (fun h104 hh=> ?_)))))
 ·refine TC.skip (S.n (TC.seq (TC.block (TC.a (TL.i z z (TL.w z (indexN z underlying194 sz62 z z f0_0.rv.sl (by omega)) (TL.w z (loadS1 (0:Nat) z ag62 z f0_0 (by omega) z) (TL.i z z (TL.i z z (TL.en (TC.seq (TC.a (TL.i z z (TL.s z z (TL.w z (lenC z underlying194 z) ?_)))))))))))))))
  refine TL.w z (OpVal.geq z z z) (TL.en (TC.cD z hh (fun h105 hh=> ?_) (fun h105 hh=> ?_)))
  ·refine TC.a (TL.i z z (TL.en (TC.ret (S.r (B.r (S.r (S.r ?_)))))))
   replace hh:=fin_x hR1 hh
   refine B.r (S.r ?_)
   obtain rfl:=so hh
   exact rq [4] ⟨z,z,z⟩
  refine TC.skip (S.n (TC.a (TL.s z z (TL.i z z ?_))))
  have u18:=grd_c hh
  replace hh:=grd_t hh
  refine TL.w z (indexN z underlying194 sz62 z z f1_0.rv.sl (by omega)) (TL.w z (loadS1 (0:Nat) z ag62 z f1_0 (by omega) z) (TL.i z z (TL.en (TC.a (TL.i z z (TL.i z z ?_))))))
  obtain ⟨v23,u23,hh⟩:=bnd_e hh
  refine TL.op z (callP (compareU_con u23) z z pf158 z z z ?_)
  refine TL.i z z (TL.en (TC.a (TL.i z z (TL.w z (OpVal.neq z z z) (TL.en (TC.cD z hh (fun h106 hh=> ?_) (fun h106 hh=> ?_)))))))
  ·refine TC.a (TL.i z z (TL.i z z (TL.en (TC.ret (B.r (S.r (S.r ?_)))))))
   replace hh:=fin_x hR1 hh
   refine B.r (S.r ?_)
   obtain rfl:=so hh
   exact rq [4] ⟨z,z,z⟩
  refine TC.skip (B.n (S.n (TC.region (TL.w z (OpVal.succ z z z (by omega)) (TL.i z z (TL.en ?_))))))
  obtain ⟨hh,hlt107⟩:=nxt_x hR1 hh
  exact lf ((k103+1),()) hlt107 hh (Sub.pre 0 z)
 refine TC.exit (S.x (S.x ?_))
 replace hh:=fin_x hR1 hh
 refine TC.exitHere (S.n (TC.seq (TC.a (TL.s z z (TL.w z (lenC z underlying194 z) (TL.s z z (TL.w z (lenC z underlying194 z) (TL.w z (OpVal.lss z z z) (TL.en (TC.cD z hh (fun h108 hh=> ?_) (fun h108 hh=> ?_)))))))))))
 ·refine TC.a (TL.i z z (TL.en (TC.ret (S.r ?_))))
  obtain rfl:=so hh
  exact rq [4] ⟨z,z,z⟩
 refine TC.skip (S.n (TC.a (TL.i z z (TL.en (TC.ret ?_)))))
 obtain rfl:=so hh
 exact rq [4] ⟨z,z,z⟩
def Co_(x0:Arc)(x1:Arc):Option (Int):=
 bnd (Ba_ x0.frm x1.frm) (fun v8=>bnd (Ba_ x0.to x1.to) (fun v13=>bnd (compareUs [x0.set.a,x0.set.b,x0.set.c,x0.set.d] [x1.set.a,x1.set.b,x1.set.c,x1.set.d]) (fun v18=>bnd (B0_ x0.out x1.out) (fun v23=>bnd (C8_ x0.copy) (fun v26=>bnd (C8_ x1.copy) (fun v29=>bnd (Ba_ v26 v29) (fun v30=>bnd (Dy_ [v8,v13,v18,v23,v30]) (fun v32=>some v32))))))))
theorem Eg_{x0:Arc}{x1:Arc}{r:Int}(hh:Co_ x0 x1=some r):
  Con Tryz.prog 98 #[.agg #[.int .i64 x0.frm,.int .i64 x0.to,.int .u64 ((x0.set.a:Nat):Int),.int .u64 ((x0.set.b:Nat):Int),.int .u64 ((x0.set.c:Nat):Int),.int .u64 ((x0.set.d:Nat):Int),.string (bs x0.out),.bool x0.copy],.agg #[.int .i64 x1.frm,.int .i64 x1.to,.int .u64 ((x1.set.a:Nat):Int),.int .u64 ((x1.set.b:Nat):Int),.int .u64 ((x1.set.c:Nat):Int),.int .u64 ((x1.set.d:Nat):Int),.string (bs x1.out),.bool x1.copy]] σ [] (PureP (.int .i64 r) σ):=by
 dsimp only [Co_]at hh
 refine Con.mk (n:=34) Tryz.func98 z z z (fun w0=> ?_)
 refine TC.a (TL.op z (boxA z z z z (fun b101=> ?_)))
 refine TL.op z (boxA z z z z (fun b103=> ?_))
 refine TL.i z z (TL.en (TC.seq ?_))
 obtain ⟨v8,u8,hh⟩:=bnd_e hh
 obtain ⟨v13,u13,hh⟩:=bnd_e hh
 obtain ⟨v18,u18,hh⟩:=bnd_e hh
 obtain ⟨v23,u23,hh⟩:=bnd_e hh
 obtain ⟨v26,u26,hh⟩:=bnd_e hh
 obtain ⟨v29,u29,hh⟩:=bnd_e hh
 obtain ⟨v30,u30,hh⟩:=bnd_e hh
 obtain ⟨v32,u32,hh⟩:=bnd_e hh
 refine TC.draw [] (by kernel_rfl) (TA.a 0 z (fieldLoc z fo66_0 z) z (TA.b 1 z (loadLoc z ag3 z (i:=1) z z) z (TA.a 2 z (fieldLoc z fo66_0 z) z (TA.b 3 z (loadLoc z ag3 z (i:=0) z z) z (TA.a 5 z (fieldLoc z fo66_1 z) z (TA.b 6 z (loadLoc z ag3 z (i:=1) z z) z (TA.a 7 z (fieldLoc z fo66_1 z) z (TA.b 8 z (loadLoc z ag3 z (i:=0) z z) z (TA.a 10 z (fieldLoc z fo66_2 z) z (TA.b 11 z (sliceArr z underlying64 sz62 z) z (TA.a 12 z (fieldLoc z fo66_2 z) z (TA.b 13 z (sliceArr z underlying64 sz62 z) z (TA.a 15 z (fieldLoc z fo66_3 z) z (TA.b 16 z (loadLoc z ag9 z (i:=1) z z) z (TA.a 17 z (fieldLoc z fo66_3 z) z ?_)))))))))))))))
 refine TA.b 18 z (loadLoc z ag9 z (i:=0) z z) z (TA.a 20 z (fieldLoc z fo66_4 z) z (TA.b 21 z (loadLoc z ag4 z (i:=1) z z) z (TA.a 23 z (fieldLoc z fo66_4 z) z (TA.b 24 z (loadLoc z ag4 z (i:=0) z z) z (TA.ac 4 z (callP (Bz_ u8) z z pf135 z z z (k0 ?_)))))))
 refine TA.ac 9 z (callP (Bz_ u13) z z pf135 z z z (k0 ?_))
 refine TA.front 1 z z (TA.ac 14 z (callK (Con.lendC (fun _ hle116 hr114=>Con.lendC (fun _ hle117 hr115=>compareUs_con (RS.ofCells (l:=[x0.set.a,x0.set.b,x0.set.c,x0.set.d]) (hle117 _ _ hr114) encW_len encW_one z z z) (RS.ofCells (l:=[x1.set.a,x1.set.b,x1.set.c,x1.set.d]) hr115 encW_len encW_one z z z) u18))) z z pf139 z z z z ⟨(fun w h=>sees_of (Store.le.refl _) (fun r hr=>mem_pick [1,0] z hr) w h),?_⟩))
 refine TA.ac 19 z (callP (Cl_ u23) z z pf64 z z z ⟨(fun w h=>sees_of (Store.le.refl _) (fun r hr=>mem_pick [1,0] z hr) w h),?_⟩)
 refine TA.ac 22 z (callP (D7_ u26) z z pf140 z z z ⟨(fun w h=>sees_of (Store.le.refl _) (fun r hr=>mem_pick [1,0] z hr) w h),?_⟩)
 refine TA.ac 25 z (callP (D7_ u29) z z pf140 z z z ⟨(fun w h=>sees_of (Store.le.refl _) (fun r hr=>mem_pick [1,0] z hr) w h),?_⟩)
 refine TA.ac 26 z (callP (Bz_ u30) z z pf135 z z z ⟨(fun w h=>sees_of (Store.le.refl _) (fun r hr=>mem_pick [1,0] z hr) w h),?_⟩)
 refine TA.ac 27 z (OpOk.lit (enc:=eI_) [v8,v13,v18,v23,v30] z underlying86 sz3 ze3 z z z eIl_ (by decide) (by decide) (0:Int) z (by decide) z (by decide) eIo_ (fun a118 c119=>⟨(fun w h=>sees_of (Store.le.refl _) (fun r hr=>mem_pick [2,1] z hr) w h),?_⟩))
 refine TA.ac 28 z (callK (Con.lend eIl_ (fun _ hle122 hr121=>Ea_ hr121 u32)) z z pf134 z z z z ⟨(fun w h=>sees_of (Store.le.refl _) (fun r hr=>mem_pick [2,1] z hr) w h),?_⟩)
 refine TA.a 29 z (moveI (.inr z) z) z (TA.dn (S.n (TC.rt 0 ?_)))
 obtain rfl:=so hh
 exact rq [4] ⟨z,z,z⟩
end Go.Proofs.YtchebnpdnfhenaaGreatDoor
end

noncomputable section
namespace Go.E
open Go Go.Sort Go.Proofs Go.Shelf
theorem Reach.grown{w w':World}{H:List Res}(h:Reach w [] (fun _=>none) σ w' H): ∃q os',w'=grow (w.drewN q) os':=by
  refine ⟨w'.drawn - w.drawn,w'.heap.extract w.heap.size w'.heap.size,?_⟩
  have h1:w'.heap=w.heap++w'.heap.extract w.heap.size w'.heap.size:=by
    apply Array.ext_getElem?
    intro i
    rw [Array.getElem?_append]
    split
    · rename_i hi;exact h.frame i hi (by simp)
    rename_i hi
    by_cases hl:i<w'.heap.size
    · rw [Array.getElem?_extract_of_lt (by omega)];simp only [show w.heap.size+(i - w.heap.size)=i by omega];exact Array.getElem?_eq_getElem hl
    rw [Array.getElem?_eq_none (by omega),Array.getElem?_eq_none (by simp;omega)]
  have h2:=h.drawn
  cases w' with
  |mk heap tape drawn os output=>
    have e1:=h.os;have e2:=h.tape;have e3:=h.output
    simp only at h1 h2 e1 e2 e3
    simp only [grow,World.drewN]
    rw [World.mk.injEq]
    exact ⟨h1,e2,by omega,e1,e3⟩
theorem reach_nil(w:World):Reach w [] (fun _=>none) (fun _=>none) w []:=
  ⟨rfl,rfl,rfl,Nat.le_refl _,fun _ _ _=>rfl,Store.le.refl _,(fun _ _ h=>by cases h),(fun _ _ h=>by cases h),by simp,by simp,by simp [blks],by simp,Nat.le_refl _⟩
section
variable {α:Type} [Inhabited α] {P:Program}
theorem cmpLays1_of{g:Nat}{enc:α→Value}{cf:α→α→Int}{blk off size:Nat}{w:World}(h: ∀x y τ,Con P g #[enc x,enc y] τ [] (PureP (.int .i64 (cf x y)) τ)):CmpLays1 P g #[] enc cf blk off size w:=by
  intro m os dk _ x y
  refine (h x y (fun _=>none) _ (reach_nil _)).mono fun e w' ⟨r,σ',H',he,⟨hr,_,_⟩,k⟩=>⟨by rw [he,hr],Reach.grown k⟩
theorem cmpLays_of{g k:Nat}{enc:α→List Value}{cf:α→α→Int}{blk off size:Nat}{w:World}(h: ∀x y τ,Con P g #[.agg (enc x).toArray,.agg (enc y).toArray] τ [] (PureP (.int .i64 (cf x y)) τ)):CmpLays P g #[] enc k cf blk off size w:=by
  intro m os dk _ x y
  refine (h x y (fun _=>none) _ (reach_nil _)).mono fun e w' ⟨r,σ',H',he,⟨hr,_,_⟩,k⟩=>⟨by rw [he,hr],Reach.grown k⟩
end
theorem getBang{α:Type}[Inhabited α](l:List α)(i:Nat)(h:i<l.length):l.toArray[i]! =l[i]:=by simp [h]
theorem Reach.sorted{w0:World}{C:List Nat}{σ0 σ:Store}{w:World}{F:List Res}{E size n cap g m:Nat}{xs xs':List Value}{os:Array Obj}(h:Reach w0 C σ0 σ w (Res.row E size (.slice (some ⟨g,0,none⟩) n cap) n xs::F))(hl:xs'.length=xs.length)(h1: ∀u∈xs',u.oneCell'=true):
    Reach w0 C σ0 σ (grow (putRow (id:Value→Value) (Sort.ahead w m) g 0 xs'.toArray) os) (Res.row E size (.slice (some ⟨g,0,none⟩) n cap) n xs'::F):=by
  obtain ⟨hown,hone,hbg⟩:=h.holds _ (List.mem_cons_self ..)
  obtain ⟨hlen,hc⟩:=hown
  rcases hc with ⟨hc,_⟩|⟨g',cap',cur,hv,hb0,hg,h3,h4,h5,h6⟩
  · cases hc
  cases hv
  have hgl:g<w.heap.size:=(Array.getElem?_eq_some_iff.1 hg).1
  have hnew:(grow (putRow (id:Value→Value) (Sort.ahead w m) g 0 xs'.toArray) os).heap[g]? =some (.cells (putCells (id:Value→Value) 0 xs'.toArray cur) E):=by
    rw [heap_grow_old _ _ (by simpa using hgl)]
    simp [putRow,mapBlock,Sort.ahead,Array.getElem?_modify,hg,onCells]
  have hold: ∀k,k<w.heap.size→k≠g→(grow (putRow (id:Value→Value) (Sort.ahead w m) g 0 xs'.toArray) os).heap[k]? =w.heap[k]? :=by
    intro k hk hne
    rw [heap_grow_old _ _ (by simpa using hk)]
    have:g≠k:=fun e=>hne e.symm
    simp [putRow,mapBlock,Sort.ahead,Array.getElem?_modify,this]
  have hcur:xs.length≤cur.size:=by
    have:=congrArg List.length h6
    simp at this;omega
  refine h.turn1 (some g) (some g) rfl rfl rfl rfl rfl (by simp [grow]) (by simp [grow,putRow,mapBlock,Sort.ahead]) (fun k hk hne=>hold k hk fun e=>hne (by rw [e])) ⟨⟨by rw [hl];exact hlen,.inr ⟨g,cap,_,rfl,hb0,hnew,h3,h4,by simp [putCells,h5],?_⟩⟩,h1,hbg⟩ (fun b hb=> .inl hb)
  apply List.ext_getElem?
  intro i
  by_cases hi:i<n * size
  · have hi2:i<xs'.length:=by rw [hl,hlen];exact hi
    rw [List.getElem?_take_of_lt hi,Array.getElem?_toList]
    simp [putCells,hi2,show i<cur.size by omega]
  rw [List.getElem?_take_eq_none (by omega),List.getElem?_eq_none (by omega)]
theorem holds_row{w:World}{E size n cap g:Nat}{xs:List Value}(h:w.ownsRow 0 E size (.slice (some ⟨g,0,none⟩) n cap) n xs):Holds (id:Value→Value) w g 0 xs.toArray∧g<w.heap.size:=by
  obtain ⟨hlen,hc⟩:=h
  rcases hc with ⟨hc,_⟩|⟨g',cap',cur,hv,hb0,hg,h3,h4,h5,h6⟩
  · cases hc
  cases hv
  refine ⟨fun j hj=> ?_,(Array.getElem?_eq_some_iff.1 hg).1⟩
  have hj':j<xs.length:=by simpa using hj
  refine ⟨?_,by simp [World.frozen?,hg]⟩
  have h7:(cur.toList.take (n * size))[j]? =xs[j]? :=by rw [h6]
  rw [List.getElem?_take_of_lt (by omega)]at h7
  simp only [World.cell?,hg,Nat.zero_add,Option.isSome_none,Bool.false_eq_true,if_false]
  rw [←Array.getElem?_toList,h7]
  simp [hj']
theorem putRow_id{α:Type}[Inhabited α](enc:α→Value)(w:World)(g:Nat)(l:List α):putRow enc w g 0 l.toArray=putRow (id:Value→Value) w g 0 (l.map enc).toArray:=by
  unfold putRow
  congr 1
  funext c
  unfold putCells
  apply Array.ext_getElem?
  intro i
  simp only [Array.getElem?_mapIdx]
  cases hc:c[i]? with
  |none=>rfl
  |some v=>
    simp only [Option.map_some,Nat.zero_le,true_and,Nat.zero_add,Nat.sub_zero,List.size_toArray,List.length_map]
    split
    · rename_i hi;simp [hi]
    rfl
theorem flatK_list {α : Type} [Inhabited α] {enc : α → List Value} {k : Nat} (hk : ∀ x, (enc x).length = k) (l : List α) : flatK enc k l.toArray = (l.flatMap enc).toArray := by
  have hl:(l.flatMap enc).length=l.length * k:=flatMap_len hk l
  refine ext_get! (by simp [hl]) fun t ht=> ?_
  have ht':t<l.length * k:=by simpa using ht
  have k0 : 0 < k := by rcases Nat.eq_zero_or_pos k with h | h
                        · subst h;simp at ht'
                        exact h
  have hd:t / k<l.length:=Nat.div_lt_of_lt_mul (by rw [Nat.mul_comm];exact ht')
  have hm:t % k<k:=Nat.mod_lt _ k0
  rw [get_flatK _ _ _ _ (by simpa using ht'),getBang l _ hd]
  have h2:=flatMap_get hk l (t / k) (t % k) l[t / k] (List.getElem?_eq_getElem hd) hm
  rw [Nat.div_add_mod' t k]at h2
  have hb:t<(l.flatMap enc).toArray.size:=by simpa [hl]using ht'
  have h3:(l.flatMap enc).toArray[t]! =(enc l[t / k])[t % k]! :=by
    rw [getElem!_pos (l.flatMap enc).toArray t hb]
    have h4:(l.flatMap enc)[t]? =some ((l.flatMap enc).toArray[t]'hb):=by rw [←List.getElem?_toArray];exact Array.getElem?_eq_getElem hb
    rw [h2]at h4
    have hlt:t % k<(enc l[t / k]).length:=by rw [hk];exact hm
    rw [List.getElem?_eq_getElem hlt,Option.some.injEq]at h4
    rw [getElem!_pos (enc l[t / k]) (t % k) hlt,h4]
  rw [h3]
def sortL{α:Type}(cf:α→α→Int)(l:List α):List α:=l.mergeSort fun x y=> !decide (cf y x<0)
def SortP{α:Type}(E size:Nat)(enc:α→List Value)(a:Option Addr)(c:Nat)(l l':List α)(σ:Store):Value→Store→List Res→Prop:=fun v σ' H'=>v= .tuple #[]∧σ=σ'∧H'=[Res.rowS E size enc (.slice a l.length c) l']
structure TotalCmp {α:Type} (cf:α→α→Int):Prop where
  swo:SWO (ltOf cf)
  tot: ∀x y,ltOf cf x y=false→ltOf cf y x=false→x=y
section
variable {α:Type} [Inhabited α] {P:Program} {ρ:Ren}
theorem Con.sort1(L:SlLaysF.n6 P ρ)(L0:SlLaysF0.n6 P ρ){enc:α→Value}{encL:α→List Value}{cf:α→α→Int}{f g E c:Nat}{a:Option Addr}{l:List α}(hf:ρ.f 6=f)(he: ∀x,encL x=[enc x])(h1:OneCell enc)(hO:TotalCmp cf)
    (eg: ∀args w,(callFunc g args).run P w= .ok (.enter g args) w) (hc: ∀x y τ,Con P g #[enc x,enc y] τ [] (PureP (.int .i64 (cf x y)) τ)):
    Con P f #[.slice a l.length c,.func (.func g) #[] #[]] σ [Res.rowS E 1 encL (.slice a l.length c) l] (SortP E 1 encL a c l (sortL cf l) σ):=by
  subst hf
  have hflat: ∀l:List α,l.flatMap encL=l.map enc:=fun l=>by
    induction l with
    |nil=>rfl
    |cons x l ih=>rw [List.flatMap_cons,ih,he];rfl
  have hlen:(sortL cf l).length=l.length:=List.length_mergeSort _
  intro w hw
  obtain ⟨hown,hone,hbg⟩:=hw.holds _ (List.mem_cons_self ..)
  have hsl:=isSl_row hown
  rcases id hown.2 with ⟨hn,hm⟩|⟨g',cap',cur,hv,hb0,hg,h3,h4,h5,h6⟩
  · have hl0:l=[]:=List.eq_nil_of_length_eq_zero hm
    subst hl0
    refine (AnyF.slices_SortFunc_none L0 a c (.func (.func g) #[] #[]) w).mono fun e w' ⟨h1,h2⟩=>⟨_,σ,_,h1,⟨rfl,rfl,rfl⟩,?_⟩
    subst h2
    rw [show sortL cf ([]:List α)=[]from by simp [sortL]]
    exact hw
  cases hv
  have hH:=holds_row hown
  rw [hflat]at hH
  have hHe:Holds enc w g' 0 l.toArray:=fun j hj=>by
    have:=hH.1 j (by simpa using hj)
    have hj':j<l.length:=by simpa using hj
    simpa [hj']using this
  have hsz:l.toArray.size<4611686018427387904:=by simp;omega
  have:=Any.slices_SortFunc_total L enc h1 cf hO.swo g #[] g' 0 c l.toArray w eg (cmpLays1_of hc) hHe hH.2 hsz hO.tot
  refine this.mono fun e w' ⟨h7,n,os,h8⟩=>⟨_,σ,_,h7,⟨rfl,rfl,rfl⟩,?_⟩
  subst h8
  have h9:(l.toArray.toList.mergeSort fun x y=> !(ltOf cf) y x)=sortL cf l:=rfl
  rw [h9]
  unfold sortWorld
  rw [putRow_id]
  have:=Reach.sorted (h:=hw) (m:=n) (os:=os) (xs':=(sortL cf l).map enc) (by rw [hflat,List.length_map,List.length_map,hlen]) (fun u hu=>by
    obtain ⟨x,_,rfl⟩:=List.mem_map.1 hu
    exact h1 x)
  unfold Res.rowS
  rw [hflat (sortL cf l),hlen]
  exact this
theorem Con.sortK(L:SlLaysF0.n6 P ρ){k:Nat}{enc:α→List Value}{cf:α→α→Int}{f g E c:Nat}{a:Option Addr}{l:List α}(hf:ρ.f 6=f)(aE: ∀w,(isAgg (ρ.t 24)).run P w= .ok true w)(zE: ∀w,(Go.sizeOf (ρ.t 24)).run P w= .ok k w)(hk: ∀x,(enc x).length=k)(h1: ∀x, ∀u∈enc x,u.oneCell'=true)(hO:TotalCmp cf)
    (eg: ∀args w,(callFunc g args).run P w= .ok (.enter g args) w) (hc: ∀x y τ,Con P g #[.agg (enc x).toArray,.agg (enc y).toArray] τ [] (PureP (.int .i64 (cf x y)) τ)):
    Con P f #[.slice a l.length c,.func (.func g) #[] #[]] σ [Res.rowS E k enc (.slice a l.length c) l] (SortP E k enc a c l (sortL cf l) σ):=by
  subst hf
  have hlen:(sortL cf l).length=l.length:=List.length_mergeSort _
  intro w hw
  obtain ⟨hown,hone,hbg⟩:=hw.holds _ (List.mem_cons_self ..)
  rcases id hown.2 with ⟨hn,hm⟩|⟨g',cap',cur,hv,hb0,hg,h3,h4,h5,h6⟩
  · have hl0:l=[]:=List.eq_nil_of_length_eq_zero hm
    subst hl0
    refine (AnyF.slices_SortFunc_none L a c (.func (.func g) #[] #[]) w).mono fun e w' ⟨h1,h2⟩=>⟨_,σ,_,h1,⟨rfl,rfl,rfl⟩,?_⟩
    subst h2
    rw [show sortL cf ([]:List α)=[]from by simp [sortL]]
    exact hw
  cases hv
  have hH:=holds_row hown
  have hHe:HoldsK enc k w g' 0 l.toArray:=by
    unfold HoldsK;rw [flatK_list hk];exact hH.1
  have hsz:l.toArray.size<4611686018427387904:=by simp;omega
  have:=AnyQ.slices_SortFunc_total L k aE zE enc hk h1 cf hO.swo g #[] g' 0 c l.toArray w eg (cmpLays_of hc) hHe hH.2 hsz hO.tot
  refine this.mono fun e w' ⟨h7,n,os,h8⟩=>⟨_,σ,_,h7,⟨rfl,rfl,rfl⟩,?_⟩
  subst h8
  have h9:(l.toArray.toList.mergeSort fun x y=> !(ltOf cf) y x)=sortL cf l:=rfl
  rw [h9]
  unfold sortWorldK putRowK
  rw [flatK_list hk]
  have:=Reach.sorted (h:=hw) (m:=n) (os:=os) (xs':=(sortL cf l).flatMap enc) (by rw [flatMap_len hk,flatMap_len hk,hlen]) (fun u hu=>by
    obtain ⟨x,_,hx⟩:=List.mem_flatMap.1 hu
    exact h1 x u hx)
  unfold Res.rowS
  rw [hlen]
  exact this
end
end Go.E
end

noncomputable section
namespace Go.E
open Go
section
variable {S R:Type} {step:S→Option (S⊕R)}
theorem iter_any {y no : R} (f : Nat → S) (p : Nat → Bool) (n : Nat) (hs : ∀ k, k < n → p k = false → step (f k) = some (.inl (f (k + 1)))) (hy : ∀ k, k < n → p k = true → step (f k) = some (.inr y))
    (hd:step (f n)=some (.inr no)): ∀k,k≤n→iter step (f k)=some (bif (List.range n).any (fun i=>decide (k≤i) && p i) then y else no):=by
  intro k hk
  obtain ⟨m,rfl⟩: ∃m,k=n - m:=⟨n - k,by omega⟩
  induction m with
  |zero=>
    have:(List.range n).any (fun i=>decide (n - 0≤i) && p i)=false:=by
      rw [List.any_eq_false];intro i hi;have:=List.mem_range.1 hi;simp;omega
    rw [this];exact iter_done hd
  |succ m ih=>
    by_cases h:m<n
    · have e:n - (m+1)+1=n - m:=by omega
      cases hp:p (n - (m+1))with
      |true=>
        have:(List.range n).any (fun i=>decide (n - (m+1)≤i) && p i)=true:=by
          rw [List.any_eq_true];exact ⟨n - (m+1),List.mem_range.2 (by omega),by simp [hp]⟩
        rw [this];exact iter_done (hy _ (by omega) hp)
      |false=>
        have h1:=hs (n - (m+1)) (by omega) hp
        rw [e]at h1
        have:(List.range n).any (fun i=>decide (n - (m+1)≤i) && p i)=(List.range n).any (fun i=>decide (n - m≤i) && p i):=by
          rw [Bool.eq_iff_iff,List.any_eq_true,List.any_eq_true]
          constructor
          · rintro ⟨i,hi,hx⟩
            simp only [Bool.and_eq_true,decide_eq_true_eq]at hx
            refine ⟨i,hi,?_⟩
            have:i≠n - (m+1):=fun h=>by rw [h,hp]at hx;exact absurd hx.2 Bool.false_ne_true
            simp [hx.2];omega
          rintro ⟨i,hi,hx⟩
          simp only [Bool.and_eq_true,decide_eq_true_eq]at hx
          exact ⟨i,hi,by simp [hx.2];omega⟩
        rw [this]
        exact iter_next h1 (ih (by omega))
    have e:n - (m+1)=n - m:=by omega
    rw [e];exact ih (by omega)
theorem iter_any0{y no:R}(f:Nat→S)(p:Nat→Bool)(n:Nat)(hs: ∀k,k<n→p k=false→step (f k)=some (.inl (f (k+1))))(hy: ∀k,k<n→p k=true→step (f k)=some (.inr y))
    (hd:step (f n)=some (.inr no)):iter step (f 0)=some (bif (List.range n).any p then y else no):=by
  have:=iter_any f p n hs hy hd 0 (by omega)
  simpa using this
theorem iter_seq0{r:R}(f:Nat→S)(n:Nat)(hs: ∀k,k<n→step (f k)=some (.inl (f (k+1))))(hd:step (f n)=some (.inr r)):iter step (f 0)=some r:=iter_seq f n hs hd 0 (by omega)
end
theorem range_any{α:Type}(l:List α)(d:α)(p:α→Bool):(List.range l.length).any (fun i=>p (nth l i d))=l.any p:=by
  rw [Bool.eq_iff_iff,List.any_eq_true,List.any_eq_true]
  constructor
  · rintro ⟨i,hi,h⟩
    have hi:=List.mem_range.1 hi
    exact ⟨nth l i d,List.mem_of_getElem? (getD_some l hi d),h⟩
  rintro ⟨x,hx,h⟩
  obtain ⟨i,hi,rfl⟩:=List.getElem_of_mem hx
  refine ⟨i,List.mem_range.2 hi,?_⟩
  have:nth l i d=l[i]:=by have:=getD_some l hi d;rw [List.getElem?_eq_getElem hi]at this;exact (Option.some.inj this).symm
  rw [this];exact h
theorem take_snoc{α:Type}(l:List α){k:Nat}(h:k<l.length)(d:α):l.take (k+1)=l.take k++[nth l k d]:=by
  rw [List.take_add_one,getD_some l h d];rfl
theorem nth_mem'{α:Type}{l:List α}{i:Nat}(h:i<l.length)(d:α):nth l i d∈l:=List.mem_of_getElem? (getD_some l h d)
end Go.E
end

noncomputable section
namespace Go.Proofs.YtchebnpdnfhenaaGreatDoor
open Go Go.E Go.Sort
structure GoodCmp {α:Type} (c:α→α→Int):Prop where
  eq: ∀x y,c x y=0↔x=y
  anti: ∀x y,c x y<0↔0<c y x
  trans: ∀x y z,c x y<0→c y z<0→c x z<0
theorem GoodCmp.total{α:Type}{c:α→α→Int}(h:GoodCmp c):TotalCmp c where
  swo := {
    irrefl:=fun x=>by have:=(h.eq x x).2 rfl;simp [ltOf,this]
    trans:=fun x y z h1 h2=>by
      simp only [ltOf,decide_eq_true_eq]at *
      exact h.trans x y z h1 h2
    ntrans:=fun x y z h1 h2=>by
      simp only [ltOf,decide_eq_false_iff_not]at *
      intro h3
      by_cases e1:x=y
      · subst e1;exact h2 h3
      by_cases e2:y=z
      · subst e2;exact h1 h3
      have n1:c x y≠0:=fun e=>e1 ((h.eq _ _).1 e)
      have n2:c y z≠0:=fun e=>e2 ((h.eq _ _).1 e)
      have h4:c z y<0:=(h.anti _ _).2 (by omega)
      exact h1 (h.trans _ _ _ h3 h4)}
  tot:=fun x y h1 h2=>by
    simp only [ltOf,decide_eq_false_iff_not]at *
    refine (h.eq x y).1 ?_
    have:=(h.anti y x)
    omega
def corI(a b:Int):Int:=if a≠0 then a else b
theorem GoodCmp.lex {α β γ : Type} {c : β → β → Int} {d : γ → γ → Int} (hc : GoodCmp c) (hd : GoodCmp d) (f : α → β) (g : α → γ) (hfg : ∀ x y, f x = f y → g x = g y → x = y) : GoodCmp fun x y => corI (c (f x) (f y)) (d (g x) (g y)) where
  eq x y:=by
    unfold corI
    by_cases h:c (f x) (f y)=0
    · have hf:=(hc.eq _ _).1 h
      simp only [h,ne_eq,not_true_eq_false,if_false,hd.eq]
      exact ⟨fun hg=>hfg x y hf hg,fun e=>by rw [e]⟩
    simp only [ne_eq,h,not_false_eq_true,if_true,false_iff]
    intro e;subst e;exact h ((hc.eq _ _).2 rfl)
  anti x y:=by
    unfold corI
    have h1:=hc.anti (f x) (f y)
    have h2:=hc.anti (f y) (f x)
    have h3:=hd.anti (g x) (g y)
    by_cases h:c (f x) (f y)=0
    · have hf:=(hc.eq _ _).1 h
      have h':c (f y) (f x)=0:=(hc.eq _ _).2 hf.symm
      simp only [h,h',ne_eq,not_true_eq_false,if_false];exact h3
    have h':c (f y) (f x)≠0:=fun e=>h ((hc.eq _ _).2 ((hc.eq _ _).1 e).symm)
    simp only [h,h',ne_eq,not_false_eq_true,if_true];exact h1
  trans x y z := by
    unfold corI
    intro h1 h2
    by_cases a:c (f x) (f y)=0
    · have ea:=(hc.eq _ _).1 a
      rw [a]at h1;simp only [ne_eq,not_true_eq_false,if_false]at h1
      rw [ea]
      by_cases b:c (f y) (f z)=0
      · rw [b]at h2 ⊢
        simp only [ne_eq,not_true_eq_false,if_false]at h2 ⊢
        exact hd.trans _ _ _ h1 h2
      simp only [ne_eq,b,not_false_eq_true,if_true]at h2 ⊢;exact h2
    simp only [ne_eq,a,not_false_eq_true,if_true]at h1
    by_cases b:c (f y) (f z)=0
    · have eb:=(hc.eq _ _).1 b
      rw [←eb]
      simp only [ne_eq,a,not_false_eq_true,if_true];exact h1
    simp only [ne_eq,b,not_false_eq_true,if_true]at h2
    have h3:=hc.trans _ _ _ h1 h2
    have h4:c (f x) (f z)≠0:=by omega
    simp only [ne_eq,h4,not_false_eq_true,if_true];exact h3
def cmpI(x y:Int):Int:=if x<y then -1 else if y<x then 1 else 0
theorem cmpI_good:GoodCmp cmpI where
  eq x y:=by unfold cmpI;(repeat' split)<;>omega
  anti x y:=by unfold cmpI;(repeat' split)<;>omega
  trans x y z:=by unfold cmpI;(repeat' split)<;>omega
def cmpN(x y:Nat):Int:=if x<y then -1 else if y<x then 1 else 0
theorem cmpN_good:GoodCmp cmpN where
  eq x y:=by unfold cmpN;(repeat' split)<;>omega
  anti x y:=by unfold cmpN;(repeat' split)<;>omega
  trans x y z:=by unfold cmpN;(repeat' split)<;>omega
theorem cmpB_eq: ∀a b:List UInt8,Lib.compareBytes a b=0↔a=b
  |[],[]=>by simp [Lib.compareBytes]
  |[],_::_=>by simp [Lib.compareBytes]
  |_::_,[]=>by simp [Lib.compareBytes]
  |x::a,y::b=>by
    simp only [Lib.compareBytes]
    split
    · rename_i h;simp;intro e;subst e;exact absurd h (UInt8.lt_irrefl _)
    rename_i h
    split
    · rename_i h';simp;intro e;subst e;exact absurd h' (UInt8.lt_irrefl _)
    rename_i h'
    have:x=y:=UInt8.le_antisymm (UInt8.not_lt.1 h') (UInt8.not_lt.1 h)
    subst this
    simp [cmpB_eq a b]
theorem cmpB_anti: ∀a b:List UInt8,Lib.compareBytes a b<0↔0<Lib.compareBytes b a
  |[],[]=>by simp [Lib.compareBytes]
  |[],_::_=>by simp [Lib.compareBytes]
  |_::_,[]=>by simp [Lib.compareBytes]
  | x :: a, y :: b => by
    simp only [Lib.compareBytes]
    by_cases h:x<y
    · have h': ¬ y<x:=fun h2=>UInt8.lt_irrefl _ (UInt8.lt_trans h h2)
      simp [h,h']
    by_cases h':y<x
    · simp [h,h']
    simp [h,h',cmpB_anti a b]
theorem cmpB_trans: ∀a b c:List UInt8,Lib.compareBytes a b<0→Lib.compareBytes b c<0→Lib.compareBytes a c<0
  |[],[],c,h,_=>by simp [Lib.compareBytes]at h
  |[],_::_,[],_,h=>by simp [Lib.compareBytes]at h
  |[],_::_,_::_,_,_=>by simp [Lib.compareBytes]
  |_::_,[],c,h,_=>by simp [Lib.compareBytes]at h
  |_::_,_::_,[],_,h=>by simp [Lib.compareBytes]at h
  | x :: a, y :: b, z :: c, h1, h2 => by
    simp only [Lib.compareBytes]at *
    by_cases hxy:x<y
    · by_cases hyz:y<z
      · have:=UInt8.lt_trans hxy hyz;simp [this]
      by_cases hzy:z<y
      · simp [hyz,hzy]at h2
      have:y=z:=UInt8.le_antisymm (UInt8.not_lt.1 hzy) (UInt8.not_lt.1 hyz)
      subst this;simp [hxy]
    by_cases hyx:y<x
    · simp [hxy,hyx]at h1
    have:x=y:=UInt8.le_antisymm (UInt8.not_lt.1 hyx) (UInt8.not_lt.1 hxy)
    subst this
    simp only [UInt8.lt_irrefl,if_false]at h1
    by_cases hyz:x<z
    · simp [hyz]
    by_cases hzy:z<x
    · simp [hyz,hzy]at h2
    simp only [hyz,hzy,if_false]at h2 ⊢
    exact cmpB_trans a b c h1 h2
theorem cmpB_good:GoodCmp Lib.compareBytes:=⟨cmpB_eq,cmpB_anti,cmpB_trans⟩
def cmpBool(x y:Bool):Int:=cmpI (if x then 1 else 0) (if y then 1 else 0)
theorem cmpBool_good:GoodCmp cmpBool where
  eq x y:=by cases x<;>cases y<;>decide
  anti x y:=by cases x<;>cases y<;>decide
  trans x y z:=by cases x<;>cases y<;>cases z<;>decide
theorem lt_dec{k n:Nat}(h:k<n):decide (((k:Nat):Int)<((n:Nat):Int))=true:=decide_eq_true (by omega)
end Go.Proofs.YtchebnpdnfhenaaGreatDoor
end

noncomputable section
namespace Go.Proofs.YtchebnpdnfhenaaGreatDoor
open Go Go.E Go.Sort
theorem Ca_(x y:Int):Ba_ x y=some (cmpI x y):=by
  unfold Ba_ Dl_ cmpI
  simp only [bnd,Option.bind_some,ne_eq,not_true_eq_false,decide_false,iteO_false]
  by_cases h:x<y
  · simp [h]
  by_cases h':y<x<;>simp [h,h']
theorem compareU_eq(x y:Nat):compareU x y=some (cmpN x y):=by
  unfold compareU isNaNU cmpN
  simp only [bnd,Option.bind_some,ne_eq,not_true_eq_false,decide_false,iteO_false]
  by_cases h:x<y
  · simp [h]
  by_cases h':y<x<;>simp [h,h']
theorem Cs_(x y:List UInt8):B0_ x y=some (Lib.compareBytes x y):=rfl
def orL:List Int→Int
  |[]=>0
  |a::l=>corI a (orL l)
theorem Fd_(l:List Int): ∀m k,l.length=k+m→iter (fun q:Nat=>Cd_ l q) k=some (orL (l.drop k)):=by
  intro m
  induction m with
  |zero=>
    intro k hk
    refine iter_done ?_
    rw [List.drop_of_length_le (by omega)]
    simp only [Cd_,decide_eq_false (show ¬ ((k:Nat):Int)<((l.length:Nat):Int) by omega),iteO_false];rfl
  |succ m ih=>
    intro k hk
    have hlt:k<l.length:=by omega
    have hd:l.drop k=nth l k 0::l.drop (k+1):=by
      rw [List.drop_eq_getElem_cons hlt]
      have:=getD_some l hlt 0
      rw [List.getElem?_eq_getElem hlt,Option.some.injEq]at this
      rw [this]
    rw [hd,orL,corI]
    by_cases h:nth l k 0≠0
    · rw [if_pos h]
      refine iter_done ?_
      simp only [Cd_,decide_eq_true (show ((k:Nat):Int)<((l.length:Nat):Int) by omega),iteO_true,decide_eq_true h];rfl
    rw [if_neg h]
    refine iter_next (s':=k+1) ?_ (ih (k+1) (by omega))
    simp only [Cd_,decide_eq_true (show ((k:Nat):Int)<((l.length:Nat):Int) by omega),iteO_true,decide_eq_false h];rfl
theorem Ej_(l:List Int):Dy_ l=some (orL l):=by
  unfold Dy_;rw [Fd_ l l.length 0 (by omega),List.drop_zero]
def cmpTip(x y:Tip):Int:=corI (cmpI x.state y.state) (corI (Lib.compareBytes x.out y.out) 0)
theorem compareTips_eq(x y:Tip):Cp_ x y=some (cmpTip x y):=by
  unfold Cp_
  rw [bnd_some (Ca_ _ _),bnd_some (Cs_ _ _),bnd_some (Ej_ _)];rfl
theorem corI_zero(a:Int):corI a 0=a:=by unfold corI;split<;>omega
theorem cmpTip_good:GoodCmp cmpTip:=by
  have:=GoodCmp.lex cmpI_good cmpB_good Tip.state Tip.out (fun x y h1 h2=>by cases x;cases y;simp_all)
  have e:cmpTip=fun x y=>corI (cmpI x.state y.state) (Lib.compareBytes x.out y.out):=by
    funext x y;unfold cmpTip;rw [corI_zero]
  rw [e];exact this
def cmpSet(s t:BSet):Int:=corI (cmpN s.a t.a) (corI (cmpN s.b t.b) (corI (cmpN s.c t.c) (cmpN s.d t.d)))
theorem compareUs_four(a b c d a' b' c' d':Nat):compareUs [a,b,c,d] [a',b',c',d']=some (corI (cmpN a a') (corI (cmpN b b') (corI (cmpN c c') (cmpN d d')))):=by
  have st: ∀(k x y:Nat),k<4→nth [a,b,c,d] k 0=x→nth [a',b',c',d'] k 0=y→(cmpN x y≠0→iter (fun q:Nat=>compareUs_b1 [a,b,c,d] [a',b',c',d'] q) k=some (cmpN x y))∧(∀r,cmpN x y=0→iter (fun q:Nat=>compareUs_b1 [a,b,c,d] [a',b',c',d'] q) (k+1)=some r→iter (fun q:Nat=>compareUs_b1 [a,b,c,d] [a',b',c',d'] q) k=some r):=by
    intro k x y hk hx hy
    have e1:((k:Nat):Int)<(([a,b,c,d].length:Nat):Int):=by simp;omega
    have e2: ¬ (([a',b',c',d'].length:Nat):Int)≤((k:Nat):Int):=by simp;omega
    refine ⟨fun h=>iter_done ?_,fun r h hr=>iter_next (s':=k+1) ?_ hr⟩
    · simp only [compareUs_b1,decide_eq_true e1,iteO_true,decide_eq_false e2,iteO_false]
      rw [grd_mk (by simp;omega),hx,hy,bnd_some (compareU_eq _ _),decide_eq_true h];rfl
    simp only [compareUs_b1,decide_eq_true e1,iteO_true,decide_eq_false e2,iteO_false]
    rw [grd_mk (by simp;omega),hx,hy,bnd_some (compareU_eq _ _),h];rfl
  have fi:iter (fun q:Nat=>compareUs_b1 [a,b,c,d] [a',b',c',d'] q) 4=some 0:=iter_done (by simp [compareUs_b1])
  have go: ∀(k x y:Nat) (r:Int),k<4→nth [a,b,c,d] k 0=x→nth [a',b',c',d'] k 0=y→iter (fun q:Nat=>compareUs_b1 [a,b,c,d] [a',b',c',d'] q) (k+1)=some r→iter (fun q:Nat=>compareUs_b1 [a,b,c,d] [a',b',c',d'] q) k=some (corI (cmpN x y) r):=by
    intro k x y r hk hx hy hr
    obtain ⟨h1,h2⟩:=st k x y hk hx hy
    by_cases h:cmpN x y=0
    · rw [show corI (cmpN x y) r=r from by simp [corI,h]];exact h2 r h hr
    rw [show corI (cmpN x y) r=cmpN x y from by simp [corI,h]];exact h1 h
  have h3:=go 3 d d' 0 (by omega) rfl rfl fi
  rw [corI_zero]at h3
  exact go 0 a a' _ (by omega) rfl rfl (go 1 b b' _ (by omega) rfl rfl (go 2 c c' _ (by omega) rfl rfl h3))
theorem cmpSet_good:GoodCmp cmpSet:=by
  have h1:=GoodCmp.lex (α:=Nat×Nat) cmpN_good cmpN_good Prod.fst Prod.snd (fun x y h1 h2=>Prod.ext h1 h2)
  have h2:=GoodCmp.lex (α:=Nat×Nat×Nat) cmpN_good h1 Prod.fst Prod.snd (fun x y h1 h2=>Prod.ext h1 h2)
  have h3:=GoodCmp.lex (α:=BSet) cmpN_good h2 BSet.a (fun s=>(s.b,s.c,s.d)) (fun x y h1 h2=>by
    cases x;cases y;simp_all)
  exact h3
def cmpArc(x y:Arc):Int:=corI (cmpI x.frm y.frm) (corI (cmpI x.to y.to) (corI (cmpSet x.set y.set) (corI (Lib.compareBytes x.out y.out) (corI (cmpBool x.copy y.copy) 0))))
theorem Ee_(b:Bool):C8_ b=some (if b then 1 else 0):=by cases b<;>rfl
theorem compareArcs_eq(x y:Arc):Co_ x y=some (cmpArc x y):=by
  unfold Co_
  rw [bnd_some (Ca_ _ _),bnd_some (Ca_ _ _),bnd_some (compareUs_four ..),bnd_some (Cs_ _ _),bnd_some (Ee_ _),bnd_some (Ee_ _),bnd_some (Ca_ _ _),bnd_some (Ej_ _)];rfl
theorem cmpArc_good:GoodCmp cmpArc:=by
  have h1:=GoodCmp.lex (α:=List UInt8×Bool) cmpB_good cmpBool_good Prod.fst Prod.snd (fun x y h1 h2=>Prod.ext h1 h2)
  have h2:=GoodCmp.lex (α:=BSet×List UInt8×Bool) cmpSet_good h1 Prod.fst Prod.snd (fun x y h1 h2=>Prod.ext h1 h2)
  have h3:=GoodCmp.lex (α:=Int×BSet×List UInt8×Bool) cmpI_good h2 Prod.fst Prod.snd (fun x y h1 h2=>Prod.ext h1 h2)
  have h4:=GoodCmp.lex (α:=Arc) cmpI_good h3 Arc.frm (fun s=>(s.to,s.set,s.out,s.copy)) (fun x y h1 h2=>by
    cases x;cases y;simp_all)
  have e:cmpArc=fun x y=>corI (cmpI x.frm y.frm) (corI (cmpI x.to y.to) (corI (cmpSet x.set y.set) (corI (Lib.compareBytes x.out y.out) (cmpBool x.copy y.copy)))):=by
    funext x y;unfold cmpArc;rw [corI_zero]
  rw [e];exact h4
end Go.Proofs.YtchebnpdnfhenaaGreatDoor
end

noncomputable section
namespace Go.Proofs.YtchebnpdnfhenaaGreatDoor
open Go Go.E
instance:Inhabited Tip:=⟨Tip.zero⟩
instance:Inhabited Arc:=⟨Arc.zero⟩
theorem Fq_{a:Option Addr}{c:Nat}{l:List (List UInt8)}:Con Tryz.prog 104 #[.slice a l.length c,.func (.func 64) #[] #[]] σ [Res.rowS 9 1 eS_ (.slice a l.length c) l] (SortP 9 1 eS_ a c l (sortL Lib.compareBytes l) σ):=
  Con.sort1 (enc:=keyS) layS layS0 rfl (fun _=>rfl) (fun _=>rfl) cmpB_good.total (fun args w=>run_callFunc (by kernel_rfl) args w) (fun x y τ=>Cl_ (Cs_ x y))
theorem Ft_{a:Option Addr}{c:Nat}{l:List Tip}:Con Tryz.prog 124 #[.slice a l.length c,.func (.func 96) #[] #[]] σ [Res.rowS 76 2 encTip (.slice a l.length c) l] (SortP 76 2 encTip a c l (sortL cmpTip l) σ):=
  Con.sortK (k:=2) layT0 rfl Tryz.isAgg76 Tryz.sizeOf76 encTip_len encTip_one cmpTip_good.total (fun args w=>run_callFunc (by kernel_rfl) args w) (fun x y τ=>Eh_ (compareTips_eq x y))
theorem Fp_{a:Option Addr}{c:Nat}{l:List Arc}:Con Tryz.prog 137 #[.slice a l.length c,.func (.func 98) #[] #[]] σ [Res.rowS 66 8 encArc (.slice a l.length c) l] (SortP 66 8 encArc a c l (sortL cmpArc l) σ):=
  Con.sortK (k:=8) layA0 rfl Tryz.isAgg66 Tryz.sizeOf66 encArc_len encArc_one cmpArc_good.total (fun args w=>run_callFunc (by kernel_rfl) args w) (fun x y τ=>Eg_ (compareArcs_eq x y))
end Go.Proofs.YtchebnpdnfhenaaGreatDoor
end

noncomputable section
namespace Go.E
open Go
section
variable {β:Type} {E' E size:Nat} {enc:β→List Value} {v:Value}
theorem sees_nestX{H:List Res}{q i:Nat}{z:List (NP β)}(hq:H[q]? =some (Res.nestX E' E size enc v z i))(w:World)(h:Sees σ H w):Sees σ [Res.rowS E' 1 encN v z] w:=
  ⟨h.1,fun r hr=>by
    simp at hr;subst hr
    exact h.2 _ (List.mem_of_getElem? hq) _ (List.mem_cons_self ..)⟩
theorem isSl_nestX{H:List Res}{q i:Nat}{z:List (NP β)}{l:List (List β)}(hq:H[q]? =some (Res.nestX E' E size enc v z i))(hZ:Zn z l)(w:World)(h:Sees σ H w):IsSl v l.length∧l.length≤281474976710656:=by
  have:=isSl_seen (H:=H) (sees_nestX hq w h)
  rw [hZ.len]at this;exact this
end
theorem TC.drawR{X:Ctx}{Q:QP}{id:Nat}{ops:Array Oper}{e:Env}{H Hr:List Res}(hs: ∀r∈Hr,r∈H)(late:List Nat)(hm:X.P.follows .mixedOrders=true)(h:TA X ops Q σ Hr late ops.size (Array.replicate ops.size false) e σ H)(hnd:noDeferB ops=true:=by kernel_rfl):TC X Q (.region id ops true) e σ H:=fun w a hw ha=>
  Go.wpIn_mono (wpIn_region_any hm (wpAny_of_late _ _ _ _ (h (noDefer_of hnd) w.drew a hw.drew (sees_of (Store.le.refl _) hs _ hw.drew.sees) (closed_start _ _) ha))) fun ex a w h=>by
    cases ex<;>first|exact h|exact h.elim
section
variable {P:Program} {n:Nat} {e:Env} {σ:Store} {H:List Res} {o:Oper} {x y:Operand} {T T':TypeId} {k:IntKind} {a b:Int}
end
theorem bytesLess_eq: ∀l m:List UInt8,Op.bytesLess l m=decide (Lib.compareBytes l m<0)
  |[],[]=>by simp [Op.bytesLess,Lib.compareBytes]
  |_::_,[]=>by simp [Op.bytesLess,Lib.compareBytes]
  |[],_::_=>by simp [Op.bytesLess,Lib.compareBytes]
  | a :: x, b :: y => by
    simp only [Op.bytesLess,Lib.compareBytes,bytesLess_eq x y]
    by_cases h:a<b
    · simp [h]
    by_cases h':b<a
    · have: ¬ a=b:=fun e=>by subst e;exact h h'
      simp [h,h',this]
    have:a=b:=UInt8.le_antisymm (UInt8.not_lt.1 h') (UInt8.not_lt.1 h)
    subst this
    simp [h]
theorem OpVal.lssBs{P:Program}{n:Nat}{e:Env}{H:List Res}{o:Oper}{x y:Operand}{l m:List UInt8}{T T':TypeId}(ho:o.op= .binOp .lss T x y T')(hx:ev e x= .string (bs l))(hy:ev e y= .string (bs m)):OpVal P n o e σ H (.bool (decide (Lib.compareBytes l m<0))):=fun w _=>by
  simp only [execOp,ho,hx,hy,Sem.run_bind,run_eqGuard_str,Result.andThen_ok,binOp,Op.stringOp,ByteArray.toList_eq,bs_list,bytesLess_eq,Sem.run_pure]
end Go.E
end

noncomputable section
namespace Go.Proofs.YtchebnpdnfhenaaGreatDoor
open Go Go.E Go.E.OpVal Go.E.OpOk Go.Proofs.Tryz
theorem ag25:aggOf Tryz.prog 25=some true:=by kernel_rfl
theorem ag30:aggOf Tryz.prog 30=some false:=by kernel_rfl
theorem by23:byOf Tryz.prog 23=some 24:=by kernel_rfl
theorem by30:byOf Tryz.prog 30=some 24:=by kernel_rfl
theorem by66:byOf Tryz.prog 66=some 72:=by kernel_rfl
theorem by76:byOf Tryz.prog 76=some 24:=by kernel_rfl
theorem by9:byOf Tryz.prog 9=some 16:=by kernel_rfl
theorem eg66:Tryz.prog.eqGuardType Tryz.prog.depth 66=false:=by kernel_rfl
theorem eg76:Tryz.prog.eqGuardType Tryz.prog.depth 76=false:=by kernel_rfl
theorem es66(x y:Arc):Go.E.EqAt Tryz.prog 3 66 (.agg (Go.E.encArc x).toArray) (.agg (Go.E.encArc y).toArray) (decide (x=y)):=
 (EqAt.struct (ts:=[(false,3,0),(false,3,1),(false,64,2),(false,9,6),(false,4,7)]) (by kernel_rfl) (by kernel_rfl) (by kernel_rfl) (EqC.one (by kernel_rfl) rfl rfl (EqAt.int underlying3 x.frm y.frm |>.up (by decide)) (EqC.one (by kernel_rfl) rfl rfl (EqAt.int underlying3 x.to y.to |>.up (by decide)) (EqC.agg (s:=4) (us:=Go.E.setA x.set) (vs:=Go.E.setA y.set) (by kernel_rfl) (by kernel_rfl) rfl rfl (EqAt.set underlying64 underlying62 (by kernel_rfl) (by kernel_rfl) x.set y.set) (EqC.one (by kernel_rfl) rfl rfl (EqAt.str underlying9 x.out y.out |>.up (by decide)) (EqC.one (by kernel_rfl) rfl rfl (EqAt.bool underlying4 x.copy y.copy |>.up (by decide)) EqC.nil)))))).of (by rw [Bool.eq_iff_iff];cases x;cases y;simp)
theorem es76(x y:Tip):Go.E.EqAt Tryz.prog 2 76 (.agg (Go.E.encTip x).toArray) (.agg (Go.E.encTip y).toArray) (decide (x=y)):=
 (EqAt.struct (ts:=[(false,3,0),(false,9,1)]) (by kernel_rfl) (by kernel_rfl) (by kernel_rfl) (EqC.one (by kernel_rfl) rfl rfl (EqAt.int underlying3 x.state y.state) (EqC.one (by kernel_rfl) rfl rfl (EqAt.str underlying9 x.out y.out) EqC.nil))).of (by rw [Bool.eq_iff_iff];cases x;cases y;simp)
theorem pf103:plainF Tryz.prog 103=true:=by kernel_rfl
theorem pf104:plainF Tryz.prog 104=true:=by kernel_rfl
theorem pf105:plainF Tryz.prog 105=true:=by kernel_rfl
theorem pf124:plainF Tryz.prog 124=true:=by kernel_rfl
theorem pf126:plainF Tryz.prog 126=true:=by kernel_rfl
theorem pf136:plainF Tryz.prog 136=true:=by kernel_rfl
theorem pf137:plainF Tryz.prog 137=true:=by kernel_rfl
theorem pf138:plainF Tryz.prog 138=true:=by kernel_rfl
theorem pf43:plainF Tryz.prog 43=true:=by kernel_rfl
theorem pf62:plainF Tryz.prog 62=true:=by kernel_rfl
theorem pf63:plainF Tryz.prog 63=true:=by kernel_rfl
theorem pf88:plainF Tryz.prog 88=true:=by kernel_rfl
theorem pf95:plainF Tryz.prog 95=true:=by kernel_rfl
theorem pf97:plainF Tryz.prog 97=true:=by kernel_rfl
theorem pl25:plOf Tryz.prog 25=some #[(0,1),(1,1),(2,1),(3,1)]:=by kernel_rfl
theorem sz25:szOf Tryz.prog 25=some 4:=by kernel_rfl
theorem sz30:szOf Tryz.prog 30=some 1:=by kernel_rfl
theorem sz9:szOf Tryz.prog 9=some 1:=by kernel_rfl
theorem ze23:zeroOf Tryz.prog 23=some (.slice none 0 0):=by kernel_rfl
theorem ze25:zeroOf Tryz.prog 25=some (.agg #[.int .i64 0,.slice none 0 0,.slice none 0 0,.slice none 0 0]):=by kernel_rfl
theorem ze30:zeroOf Tryz.prog 30=some (.slice none 0 0):=by kernel_rfl
theorem ze9:zeroOf Tryz.prog 9=some (.string ByteArray.empty):=by kernel_rfl
theorem Fo_{a:Option Addr}{c:Nat}{l:List (List UInt8)}(hl:RS σ 1 eS_ (.slice a l.length c) l)(hsz:l.length * 16≤140737488355328):
  Con Tryz.prog 103 #[.slice a l.length c] σ [] (RowP 9 1 eS_ l σ):=by
 have hb:=hl.rv.big
 refine Con.mk (n:=8) Tryz.func103 z z z (fun w0=> ?_)
 refine TC.a (TL.s z z (TL.nilS 9 1 eS_ (TL.en (TC.seq (TC.a (TL.s z z (TL.w z (eqlNilSl z underlying30 z z) (TL.en (TC.cond z (fun h2=> ?_) (fun h2=> ?_))))))))))
 ·refine TC.a (TL.s z z (TL.nilS 9 1 eS_ (TL.en (TC.ret (S.r ?_)))))
  cases a with
  |some _=>simp at h2
  |none=>
   obtain rfl:=hl.none_nil
   exact ret1R z z
 refine TC.skip (S.n (TC.a (TL.op z (lit0 (enc:=eS_) z z underlying30 sz9 z z (fun a4 c5=> ?_)))))
 refine TL.s z z (TL.op z (appendS z z underlying30 sz9 by9 ze9 z z (by decide) z z z (.inl hl) (by simpa using hsz) (by decide) (fun a7 c8=> ?_)))
 exact TL.s z z (TL.en (TC.ret (ret1R z z)))
def Dk_(k125:Nat)(l128:List (List UInt8))(k130:Nat):Option (((List (List UInt8))×Nat×Nat)⊕((Nat)⊕((List (List UInt8))))):=
 nxt (l128,k130,(k125+1))
def De_(x0:List (List UInt8))(k105:Nat)(l122:List (List UInt8))(k124:Nat)(k125:Nat):Option (((List (List UInt8))×Nat×Nat)⊕((Nat)⊕((List (List UInt8))))):=
 iteO (decide (((k125:Nat):Int)<(((x0.length - k105):Nat):Int))) (grd (k125<(x0.length - k105)) (grd (0≤(IntKind.i64.wrap (((k125:Nat):Int) - 1))∧(IntKind.i64.wrap (((k125:Nat):Int) - 1))<((x0.length - k105):Nat)) (iteO (decide ((nth l122 (k105+k125) ([]:List UInt8))≠(nth l122 (k105+(IntKind.i64.wrap (((k125:Nat):Int) - 1)).toNat) ([]:List UInt8)))) (grd (k125<(x0.length - k105)) (grd (k124<l122.length) (Dk_ k125 (l122.set k124 (nth l122 (k105+k125) ([]:List UInt8))) (k124+1)))) (Dk_ k125 l122 k124)))) (fin (grd (k124≤x0.length) (grd (k124≤(l122.take k124++List.replicate (l122.length - k124) ([]:List UInt8)).length) (fin (some ((l122.take k124++List.replicate (l122.length - k124) ([]:List UInt8)).take k124))))))
def Dd_(x0:List (List UInt8))(k105:Nat):Option ((Nat)⊕((List (List UInt8)))):=
 iteO (decide (((k105:Nat):Int)<((x0.length:Nat):Int))) (grd (0≤(IntKind.i64.wrap (((k105:Nat):Int) - 1))∧(IntKind.i64.wrap (((k105:Nat):Int) - 1))<(x0.length:Int)) (iteO (decide ((nth x0 k105 ([]:List UInt8))=(nth x0 ((IntKind.i64.wrap (((k105:Nat):Int) - 1)).toNat) ([]:List UInt8)))) (grd (k105≤x0.length) (iter (fun q:(List (List UInt8))×Nat×Nat=>De_ x0 k105 q.1 q.2.1 q.2.2) (x0,k105,1))) (nxt (k105+1)))) (fin (some x0))
def compactS(x0:List (List UInt8)):Option ((List (List UInt8))):=
 iteO (decide (((x0.length:Nat):Int)<2)) (some x0) (iter (fun q:Nat=>Dd_ x0 q) 1)
theorem E9_{x0:List (List UInt8)}{r:(List (List UInt8))}(hh:compactS x0=some r):
  Con Tryz.prog 105 #[.slice a0_1 x0.length c0_2] σ [Res.rowS 9 1 eS_ (.slice a0_1 x0.length c0_2) x0] (fun v σ' H'=> ∃a1 c1,v= .slice a1 r.length c1∧σ=σ'∧H'=[Res.rowS 9 1 eS_ (.slice a1 r.length c1) r]):=by
 dsimp only [compactS]at hh
 refine Con.mk (n:=61) Tryz.func105 z z z (fun w0=> ?_)
 refine TC.a (TL.s z z (TL.en (TC.seq (TC.a (TL.s z z (TL.w z (lenC z underlying30 z) (TL.w z (OpVal.lss z z z) (TL.en (TC.cD z hh (fun h102 hh=> ?_) (fun h102 hh=> ?_))))))))))
 ·refine TC.a (TL.s z z (TL.s z z (TL.en (TC.ret (S.r ?_)))))
  obtain rfl:=so hh
  exact ro [Res.rowS 9 1 eS_ (.slice a0_1 x0.length c0_2) x0] z (RVs.tmp z RVs.nil) ⟨a0_1,c0_2,z,z,z⟩
 refine TC.skip (S.n (TC.seq (TC.a (TL.i z z (TL.en (TC.block (TC.loopG (α:=(Nat)×(Unit)) (rgs [(2,4),(10,50)]) (fun g=>[(3,.int .i64 ((g.1:Nat):Int))]) (fun g=>[Res.rowS 9 1 eS_ (.slice a0_1 x0.length c0_2) x0]) (fun g=>σ) (fun g=>iter (fun q:Nat=>Dd_ x0 q) g.1=some r) (fun g=>rounds (fun q:Nat=>Dd_ x0 q) g.1) (1,()) (Sub.pre 1 z) z (by repeat (first|exact trivial|refine ⟨z,?_⟩)) hh (fun g1 j1 hg1=> ?_))))))))
 obtain ⟨k105,_⟩:=g1
 have hh:=hg1;clear hg1
 try dsimp only
 obtain ⟨z1,hh,hR1⟩:=iter_e hh
 dsimp only [Dd_]at hh
 refine TC.isSl (i:=0) z (fun _ hb106 _=> ?_)
 refine TC.seq (TC.a (TL.i z z (TL.s z z (TL.w z (lenC z underlying30 z) (TL.w z (OpVal.lss z z z) (TL.en (TC.cD z hh (fun h107 hh=> ?_) (fun h107 hh=> ?_))))))))
 ·refine TC.skip (S.n (TC.seq (TC.block (TC.seq ?_))))
  have u19:=grd_c hh
  replace hh:=grd_t hh
  refine TC.draw [] (by kernel_rfl) (TA.a 0 z (moveSl (.inl z) z) z (TA.a 1 z (moveI (.inl z) z) z (TA.isSl (i:=0) z (fun hs110 _ _=> ?_))))
  refine TA.b 2 z (indexN z underlying30 sz9 z z hs110 (by omega)) z (TA.b 3 z (loadO1 ([]:List UInt8) z ag9 z (q:=0) z eSl_ (by omega) z) z (TA.a 4 z (moveSl (.inl z) z) z (TA.a 5 z (moveI (.inl z) z) z (TA.a 6 z (subW z z z) z (TA.isSl (i:=0) z (fun hs111 _ _=> ?_))))))
  refine TA.b 7 z (OpVal.index z underlying30 sz9 z z hs111 u19.1 u19.2) z (TA.b 8 z (loadO1 ([]:List UInt8) z ag9 z (q:=0) z eSl_ (by omega) z) z (TA.a 9 z (eqlBs z z z) z (TA.dn (S.n (TC.cD z hh (fun h112 hh=> ?_) (fun h112 hh=> ?_))))))
  ·refine TC.a (TL.s z z (TL.i z z ?_))
   have u24:=grd_c hh
   replace hh:=grd_t hh
   refine TL.isSl (i:=0) z (fun hs113 _ _=> ?_)
   obtain ⟨a113,c113,hv113,ho113⟩:=vw_of (k:=k105) (size:=1) hs113 (by omega)
   refine TL.w z (ho113 z underlying30 sz9 z z) (TL.s z z (TL.en (TC.seq (TC.a (TL.i z z (TL.en (TC.block (TC.loopG (α:=((List (List UInt8))×Nat×Nat)×(Unit)) (rgs [(3,1),(5,1),(29,25)]) (fun g=>[(3,.int .i64 ((g.1.2.1:Nat):Int)),(5,.int .i64 ((g.1.2.2:Nat):Int))]) (fun g=>[Res.rowS 9 1 eS_ (.slice a0_1 x0.length c0_2) g.1.1]) (fun g=>σ) (fun g=>iter (fun q:(List (List UInt8))×Nat×Nat=>De_ x0 k105 q.1 q.2.1 q.2.2) g.1=some z1∧g.1.1.length=x0.length) (fun g=>rounds (fun q:(List (List UInt8))×Nat×Nat=>De_ x0 k105 q.1 q.2.1 q.2.2) g.1) ((x0,k105,1),()) (Sub.pre 1 z) z (by repeat (first|exact trivial|refine ⟨z,?_⟩)) ⟨hh,z⟩ (fun g2 j2 hg2=> ?_)))))))))
   obtain ⟨⟨l122,k124,k125⟩,_⟩:=g2
   obtain ⟨hh,hn123⟩:=hg2
   try dsimp only at hn123 ⊢
   obtain ⟨z2,hh,hR2⟩:=iter_e hh
   dsimp only [De_]at hh
   have hn123b:=hn123
   refine TC.isSl (i:=0) z (fun _ hb126 _=> ?_)
   refine TC.seq (TC.a (TL.i z z (TL.s z z (TL.w z (lenC z underlying30 z) (TL.w z (OpVal.lss z z z) (TL.en (TC.cD z hh (fun h127 hh=> ?_) (fun h127 hh=> ?_))))))))
   ·refine TC.skip (S.n (TC.cutG (α:=((List (List UInt8))×Nat)×(Unit)) (rgs [(3,1),(35,19)]) (fun g=>[(3,.int .i64 ((g.1.2:Nat):Int))]) (fun g=>[Res.rowS 9 1 eS_ (.slice a0_1 x0.length c0_2) g.1.1]) (fun g=>σ) (fun g=>Dk_ k125 g.1.1 g.1.2=some z2∧g.1.1.length=x0.length) ?_ (fun g j hg=> ?_)))
    ·skip
     refine TC.block (TC.seq ?_)
     have u33:=grd_c hh
     replace hh:=grd_t hh
     have u38:=grd_c hh
     replace hh:=grd_t hh
     refine TC.draw [] (by kernel_rfl) (TA.a 0 z (moveSl (.inl z) z) z (TA.a 1 z (moveI (.inl z) z) z (TA.b 2 z (elVw hv113 (by omega) (indexN z underlying30 sz9 z z hv113.sl (by omega))) z (TA.b 3 z (loadO1 ([]:List UInt8) z ag9 z (q:=0) z eSl_ (by omega) z) z (TA.a 4 z (moveSl (.inl z) z) z (TA.a 5 z (moveI (.inl z) z) z (TA.a 6 z (subW z z z) z (TA.b 7 z (elVw hv113 (by omega) (OpVal.index z underlying30 sz9 z z hv113.sl u38.1 u38.2)) z (TA.b 8 z (loadO1 ([]:List UInt8) z ag9 z (q:=0) z eSl_ (by omega) z) z (TA.a 9 z (neqBs z z z) z (TA.dn (S.n (TC.cD z hh (fun h131 hh=> ?_) (fun h131 hh=> ?_))))))))))))))
     ·refine TC.a (TL.s z z (TL.i z z (TL.s z z (TL.i z z ?_))))
      have u45:=grd_c hh
      replace hh:=grd_t hh
      refine TL.w z (elVw hv113 (by omega) (indexN z underlying30 sz9 z z hv113.sl (by omega))) (TL.w z (loadO1 ([]:List UInt8) z ag9 z (q:=0) z eSl_ (by omega) z) ?_)
      have u47:=grd_c hh
      replace hh:=grd_t hh
      refine TL.isSl (i:=0) z (fun hs132 _ _=> ?_)
      refine TL.w z (indexN z underlying30 sz9 z z hs132 (by omega)) ?_
      have hn133:(l122.set k124 (nth l122 (k105+k125) ([]:List UInt8))).length=x0.length:=by rw [List.length_set];exact hn123
      refine TL.op z (storeS (nth l122 (k105+k125) ([]:List UInt8)) z sz9 z z z z eSl_ eSo_ (by omega) (by omega) ?_)
      exact TL.en (TC.region (TL.i z z (TL.w z (OpVal.succ z z z (by omega)) (TL.i z z (TL.nil (B.n (S.n (cf (((l122.set k124 (nth l122 (k105+k125) ([]:List UInt8))),(k124+1)),()) ⟨hh,hn133⟩ (Sub.pre 1 z)))))))))
     exact TC.skip (B.n (S.n (cf ((l122,k124),()) ⟨hh,hn123⟩ (Sub.pre 1 z))))
    skip
    obtain ⟨⟨l128,k130⟩,_⟩:=g
    obtain ⟨hh,hn129⟩:=hg
    try dsimp only at hn129 ⊢
    dsimp only [Dk_]at hh
    have hn129b:=hn129
    refine TC.isSl (i:=0) z (fun _ hb134 _=> ?_)
    refine TC.region (TL.i z z (TL.w z (OpVal.succ z z z (by omega)) (TL.i z z (TL.en ?_))))
    obtain ⟨hh,hlt135⟩:=nxt_x hR2 hh
    exact lf ((l128,k130,(k125+1)),()) hlt135 ⟨hh,hn129⟩ (Sub.pre 1 z)
   refine TC.exit (S.x (S.x ?_))
   replace hh:=fin_x hR2 hh
   refine TC.exitHere (S.n (TC.a (TL.s z z (TL.i z z ?_))))
   have u57:=grd_c hh
   replace hh:=grd_t hh
   refine TL.isSl (i:=0) z (fun hs136 _ _=> ?_)
   rw [hn123]at hs136
   obtain ⟨a136,c136,hv136,ho136⟩:=vw_of (k:=k124) (size:=1) hs136 (by omega)
   refine TL.w z (ho136 z underlying30 sz9 z z) ?_
   have hn137:(l122.take k124++List.replicate (l122.length - k124) ([]:List UInt8)).length=x0.length:=by simp only [List.length_append,List.length_take,List.length_replicate];try simp only [List.length_replicate]at *;omega
   refine TL.op z (clearV (k:=k124) ([]:List UInt8) z underlying30 ze9 z z hv136 (by omega) (by omega) eSl_ (by decide) z eSo_ ?_)
   refine TL.en (TC.a (TL.s z z (TL.i z z ?_)))
   rw [←hn137]
   have u61:=grd_c hh
   replace hh:=grd_t hh
   refine TL.op z (cutS z underlying30 sz9 z z z z z (by omega) eSl_ ?_)
   refine TL.s z z (TL.en (TC.ret (B.r (S.r (S.r ?_)))))
   replace hh:=fin_x hR1 hh
   refine B.r (S.r ?_)
   obtain rfl:=so hh
   exact ro [Res.rowS 9 1 eS_ (.slice a0_1 ((l122.take k124++List.replicate (l122.length - k124) ([]:List UInt8)).take k124).length c0_2) ((l122.take k124++List.replicate (l122.length - k124) ([]:List UInt8)).take k124)] z (RVs.tmp z RVs.nil) ⟨a0_1,c0_2,z,z,z⟩
  refine TC.skip (B.n (S.n (TC.region (TL.i z z (TL.w z (OpVal.succ z z z (by omega)) (TL.i z z (TL.en ?_)))))))
  obtain ⟨hh,hlt138⟩:=nxt_x hR1 hh
  exact lf ((k105+1),()) hlt138 hh (Sub.pre 1 z)
 refine TC.exit (S.x (S.x ?_))
 replace hh:=fin_x hR1 hh
 refine TC.exitHere (S.n (TC.a (TL.s z z (TL.s z z (TL.en (TC.ret ?_))))))
 obtain rfl:=so hh
 exact ro [Res.rowS 9 1 eS_ (.slice a0_1 x0.length c0_2) x0] z (RVs.tmp z RVs.nil) ⟨a0_1,c0_2,z,z,z⟩
theorem Ey_{a:Option Addr}{c:Nat}{l:List Tip}(hl:RS σ 2 encTip (.slice a l.length c) l)(hsz:l.length * 24≤140737488355328):
  Con Tryz.prog 88 #[.slice a l.length c] σ [] (RowP 76 2 encTip l σ):=by
 have hb:=hl.rv.big
 refine Con.mk (n:=8) Tryz.func88 z z z (fun w0=> ?_)
 refine TC.a (TL.s z z (TL.nilS 76 2 encTip (TL.en (TC.seq (TC.a (TL.s z z (TL.w z (eqlNilSl z underlying22 z z) (TL.en (TC.cond z (fun h2=> ?_) (fun h2=> ?_))))))))))
 ·refine TC.a (TL.s z z (TL.nilS 76 2 encTip (TL.en (TC.ret (S.r ?_)))))
  cases a with
  |some _=>simp at h2
  |none=>
   obtain rfl:=hl.none_nil
   exact ret1R z z
 refine TC.skip (S.n (TC.a (TL.op z (lit0 (enc:=encTip) z z underlying22 sz76 z z (fun a4 c5=> ?_)))))
 refine TL.s z z (TL.op z (appendS z z underlying22 sz76 by76 ze76 z z (by decide) z z z (.inl hl) (by simpa using hsz) (by decide) (fun a7 c8=> ?_)))
 exact TL.s z z (TL.en (TC.ret (ret1R z z)))
def Dh_(k125:Nat)(l128:List Tip)(k130:Nat):Option (((List Tip)×Nat×Nat)⊕((Nat)⊕((List Tip)))):=
 nxt (l128,k130,(k125+1))
def Di_(x0:List Tip)(k105:Nat)(l122:List Tip)(k124:Nat)(k125:Nat):Option (((List Tip)×Nat×Nat)⊕((Nat)⊕((List Tip)))):=
 iteO (decide (((k125:Nat):Int)<(((x0.length - k105):Nat):Int))) (grd (k125<(x0.length - k105)) (grd (0≤(IntKind.i64.wrap (((k125:Nat):Int) - 1))∧(IntKind.i64.wrap (((k125:Nat):Int) - 1))<((x0.length - k105):Nat)) (iteO (decide (¬ ((nth l122 (k105+k125) Tip.zero)=(nth l122 (k105+(IntKind.i64.wrap (((k125:Nat):Int) - 1)).toNat) Tip.zero)))) (grd (k125<(x0.length - k105)) (grd (k124<l122.length) (Dh_ k125 (l122.set k124 (nth l122 (k105+k125) Tip.zero)) (k124+1)))) (Dh_ k125 l122 k124)))) (fin (grd (k124≤x0.length) (grd (k124≤(l122.take k124++List.replicate (l122.length - k124) Tip.zero).length) (fin (some ((l122.take k124++List.replicate (l122.length - k124) Tip.zero).take k124))))))
def Df_(x0:List Tip)(k105:Nat):Option ((Nat)⊕((List Tip))):=
 iteO (decide (((k105:Nat):Int)<((x0.length:Nat):Int))) (grd (0≤(IntKind.i64.wrap (((k105:Nat):Int) - 1))∧(IntKind.i64.wrap (((k105:Nat):Int) - 1))<(x0.length:Int)) (iteO (decide ((nth x0 k105 Tip.zero)=(nth x0 ((IntKind.i64.wrap (((k105:Nat):Int) - 1)).toNat) Tip.zero))) (grd (k105≤x0.length) (iter (fun q:(List Tip)×Nat×Nat=>Di_ x0 k105 q.1 q.2.1 q.2.2) (x0,k105,1))) (nxt (k105+1)))) (fin (some x0))
def compactT(x0:List Tip):Option ((List Tip)):=
 iteO (decide (((x0.length:Nat):Int)<2)) (some x0) (iter (fun q:Nat=>Df_ x0 q) 1)
theorem Ei_{x0:List Tip}{r:(List Tip)}(hh:compactT x0=some r):
  Con Tryz.prog 126 #[.slice a0_1 x0.length c0_2] σ [Res.rowS 76 2 encTip (.slice a0_1 x0.length c0_2) x0] (fun v σ' H'=> ∃a1 c1,v= .slice a1 r.length c1∧σ=σ'∧H'=[Res.rowS 76 2 encTip (.slice a1 r.length c1) r]):=by
 dsimp only [compactT]at hh
 refine Con.mk (n:=61) Tryz.func126 z z z (fun w0=> ?_)
 refine TC.a (TL.s z z (TL.en (TC.seq (TC.a (TL.s z z (TL.w z (lenC z underlying22 z) (TL.w z (OpVal.lss z z z) (TL.en (TC.cD z hh (fun h102 hh=> ?_) (fun h102 hh=> ?_))))))))))
 ·refine TC.a (TL.s z z (TL.s z z (TL.en (TC.ret (S.r ?_)))))
  obtain rfl:=so hh
  exact ro [Res.rowS 76 2 encTip (.slice a0_1 x0.length c0_2) x0] z (RVs.tmp z RVs.nil) ⟨a0_1,c0_2,z,z,z⟩
 refine TC.skip (S.n (TC.seq (TC.a (TL.i z z (TL.en (TC.block (TC.loopG (α:=(Nat)×(Unit)) (rgs [(2,4),(10,50)]) (fun g=>[(3,.int .i64 ((g.1:Nat):Int))]) (fun g=>[Res.rowS 76 2 encTip (.slice a0_1 x0.length c0_2) x0]) (fun g=>σ) (fun g=>iter (fun q:Nat=>Df_ x0 q) g.1=some r) (fun g=>rounds (fun q:Nat=>Df_ x0 q) g.1) (1,()) (Sub.pre 1 z) z (by repeat (first|exact trivial|refine ⟨z,?_⟩)) hh (fun g1 j1 hg1=> ?_))))))))
 obtain ⟨k105,_⟩:=g1
 have hh:=hg1;clear hg1
 try dsimp only
 obtain ⟨z1,hh,hR1⟩:=iter_e hh
 dsimp only [Df_]at hh
 refine TC.isSl (i:=0) z (fun _ hb106 _=> ?_)
 refine TC.seq (TC.a (TL.i z z (TL.s z z (TL.w z (lenC z underlying22 z) (TL.w z (OpVal.lss z z z) (TL.en (TC.cD z hh (fun h107 hh=> ?_) (fun h107 hh=> ?_))))))))
 ·refine TC.skip (S.n (TC.seq (TC.block (TC.seq ?_))))
  have u19:=grd_c hh
  replace hh:=grd_t hh
  refine TC.draw [] (by kernel_rfl) (TA.a 0 z (moveSl (.inl z) z) z (TA.a 1 z (moveI (.inl z) z) z (TA.isSl (i:=0) z (fun hs110 _ _=> ?_))))
  refine TA.b 2 z (indexN z underlying22 sz76 z z hs110 (by omega)) z (TA.b 3 z (loadOA Tip.zero z ag76 sz76 z (q:=0) z encTip_len (by omega) (by omega)) z (TA.a 4 z (moveSl (.inl z) z) z (TA.a 5 z (moveI (.inl z) z) z (TA.a 6 z (subW z z z) z (TA.isSl (i:=0) z (fun hs111 _ _=> ?_))))))
  refine TA.b 7 z (OpVal.index z underlying22 sz76 z z hs111 u19.1 u19.2) z (TA.b 8 z (loadOA Tip.zero z ag76 sz76 z (q:=0) z encTip_len (by omega) (by omega)) z (TA.a 9 z (eqlSt (p:=(nth x0 k105 Tip.zero)=(nth x0 ((IntKind.i64.wrap (((k105:Nat):Int) - 1)).toNat) Tip.zero)) z z z eg76 (es76 (nth x0 k105 Tip.zero) (nth x0 ((IntKind.i64.wrap (((k105:Nat):Int) - 1)).toNat) Tip.zero)) z) z (TA.dn (S.n (TC.cD z hh (fun h112 hh=> ?_) (fun h112 hh=> ?_))))))
  ·refine TC.a (TL.s z z (TL.i z z ?_))
   have u24:=grd_c hh
   replace hh:=grd_t hh
   refine TL.isSl (i:=0) z (fun hs113 _ _=> ?_)
   obtain ⟨a113,c113,hv113,ho113⟩:=vw_of (k:=k105) (size:=2) hs113 (by omega)
   refine TL.w z (ho113 z underlying22 sz76 z z) (TL.s z z (TL.en (TC.seq (TC.a (TL.i z z (TL.en (TC.block (TC.loopG (α:=((List Tip)×Nat×Nat)×(Unit)) (rgs [(3,1),(5,1),(29,25)]) (fun g=>[(3,.int .i64 ((g.1.2.1:Nat):Int)),(5,.int .i64 ((g.1.2.2:Nat):Int))]) (fun g=>[Res.rowS 76 2 encTip (.slice a0_1 x0.length c0_2) g.1.1]) (fun g=>σ) (fun g=>iter (fun q:(List Tip)×Nat×Nat=>Di_ x0 k105 q.1 q.2.1 q.2.2) g.1=some z1∧g.1.1.length=x0.length) (fun g=>rounds (fun q:(List Tip)×Nat×Nat=>Di_ x0 k105 q.1 q.2.1 q.2.2) g.1) ((x0,k105,1),()) (Sub.pre 1 z) z (by repeat (first|exact trivial|refine ⟨z,?_⟩)) ⟨hh,z⟩ (fun g2 j2 hg2=> ?_)))))))))
   obtain ⟨⟨l122,k124,k125⟩,_⟩:=g2
   obtain ⟨hh,hn123⟩:=hg2
   try dsimp only at hn123 ⊢
   obtain ⟨z2,hh,hR2⟩:=iter_e hh
   dsimp only [Di_]at hh
   have hn123b:=hn123
   refine TC.isSl (i:=0) z (fun _ hb126 _=> ?_)
   refine TC.seq (TC.a (TL.i z z (TL.s z z (TL.w z (lenC z underlying22 z) (TL.w z (OpVal.lss z z z) (TL.en (TC.cD z hh (fun h127 hh=> ?_) (fun h127 hh=> ?_))))))))
   ·refine TC.skip (S.n (TC.cutG (α:=((List Tip)×Nat)×(Unit)) (rgs [(3,1),(35,19)]) (fun g=>[(3,.int .i64 ((g.1.2:Nat):Int))]) (fun g=>[Res.rowS 76 2 encTip (.slice a0_1 x0.length c0_2) g.1.1]) (fun g=>σ) (fun g=>Dh_ k125 g.1.1 g.1.2=some z2∧g.1.1.length=x0.length) ?_ (fun g j hg=> ?_)))
    ·skip
     refine TC.block (TC.seq ?_)
     have u33:=grd_c hh
     replace hh:=grd_t hh
     have u38:=grd_c hh
     replace hh:=grd_t hh
     refine TC.draw [] (by kernel_rfl) (TA.a 0 z (moveSl (.inl z) z) z (TA.a 1 z (moveI (.inl z) z) z (TA.b 2 z (elVw hv113 (by omega) (indexN z underlying22 sz76 z z hv113.sl (by omega))) z (TA.b 3 z (loadOA Tip.zero z ag76 sz76 z (q:=0) z encTip_len (by omega) (by omega)) z (TA.a 4 z (moveSl (.inl z) z) z (TA.a 5 z (moveI (.inl z) z) z (TA.a 6 z (subW z z z) z (TA.b 7 z (elVw hv113 (by omega) (OpVal.index z underlying22 sz76 z z hv113.sl u38.1 u38.2)) z (TA.b 8 z (loadOA Tip.zero z ag76 sz76 z (q:=0) z encTip_len (by omega) (by omega)) z (TA.a 9 z (neqSt (p:=(nth l122 (k105+k125) Tip.zero)=(nth l122 (k105+(IntKind.i64.wrap (((k125:Nat):Int) - 1)).toNat) Tip.zero)) z z z eg76 (es76 (nth l122 (k105+k125) Tip.zero) (nth l122 (k105+(IntKind.i64.wrap (((k125:Nat):Int) - 1)).toNat) Tip.zero)) z) z (TA.dn (S.n (TC.cD z hh (fun h131 hh=> ?_) (fun h131 hh=> ?_))))))))))))))
     ·refine TC.a (TL.s z z (TL.i z z (TL.s z z (TL.i z z ?_))))
      have u45:=grd_c hh
      replace hh:=grd_t hh
      refine TL.w z (elVw hv113 (by omega) (indexN z underlying22 sz76 z z hv113.sl (by omega))) (TL.w z (loadOA Tip.zero z ag76 sz76 z (q:=0) z encTip_len (by omega) (by omega)) ?_)
      have u47:=grd_c hh
      replace hh:=grd_t hh
      refine TL.isSl (i:=0) z (fun hs132 _ _=> ?_)
      refine TL.w z (indexN z underlying22 sz76 z z hs132 (by omega)) ?_
      have hn133:(l122.set k124 (nth l122 (k105+k125) Tip.zero)).length=x0.length:=by rw [List.length_set];exact hn123
      refine TL.op z (storeS (nth l122 (k105+k125) Tip.zero) z sz76 z z z z encTip_len encTip_one (by omega) (by omega) ?_)
      exact TL.en (TC.region (TL.i z z (TL.w z (OpVal.succ z z z (by omega)) (TL.i z z (TL.nil (B.n (S.n (cf (((l122.set k124 (nth l122 (k105+k125) Tip.zero)),(k124+1)),()) ⟨hh,hn133⟩ (Sub.pre 1 z)))))))))
     exact TC.skip (B.n (S.n (cf ((l122,k124),()) ⟨hh,hn123⟩ (Sub.pre 1 z))))
    skip
    obtain ⟨⟨l128,k130⟩,_⟩:=g
    obtain ⟨hh,hn129⟩:=hg
    try dsimp only at hn129 ⊢
    dsimp only [Dh_]at hh
    have hn129b:=hn129
    refine TC.isSl (i:=0) z (fun _ hb134 _=> ?_)
    refine TC.region (TL.i z z (TL.w z (OpVal.succ z z z (by omega)) (TL.i z z (TL.en ?_))))
    obtain ⟨hh,hlt135⟩:=nxt_x hR2 hh
    exact lf ((l128,k130,(k125+1)),()) hlt135 ⟨hh,hn129⟩ (Sub.pre 1 z)
   refine TC.exit (S.x (S.x ?_))
   replace hh:=fin_x hR2 hh
   refine TC.exitHere (S.n (TC.a (TL.s z z (TL.i z z ?_))))
   have u57:=grd_c hh
   replace hh:=grd_t hh
   refine TL.isSl (i:=0) z (fun hs136 _ _=> ?_)
   rw [hn123]at hs136
   obtain ⟨a136,c136,hv136,ho136⟩:=vw_of (k:=k124) (size:=2) hs136 (by omega)
   refine TL.w z (ho136 z underlying22 sz76 z z) ?_
   have hn137:(l122.take k124++List.replicate (l122.length - k124) Tip.zero).length=x0.length:=by simp only [List.length_append,List.length_take,List.length_replicate];try simp only [List.length_replicate]at *;omega
   refine TL.op z (clearV (k:=k124) Tip.zero z underlying22 ze76 z z hv136 (by omega) (by omega) encTip_len (by decide) z encTip_one ?_)
   refine TL.en (TC.a (TL.s z z (TL.i z z ?_)))
   rw [←hn137]
   have u61:=grd_c hh
   replace hh:=grd_t hh
   refine TL.op z (cutS z underlying22 sz76 z z z z z (by omega) encTip_len ?_)
   refine TL.s z z (TL.en (TC.ret (B.r (S.r (S.r ?_)))))
   replace hh:=fin_x hR1 hh
   refine B.r (S.r ?_)
   obtain rfl:=so hh
   exact ro [Res.rowS 76 2 encTip (.slice a0_1 ((l122.take k124++List.replicate (l122.length - k124) Tip.zero).take k124).length c0_2) ((l122.take k124++List.replicate (l122.length - k124) Tip.zero).take k124)] z (RVs.tmp z RVs.nil) ⟨a0_1,c0_2,z,z,z⟩
  refine TC.skip (B.n (S.n (TC.region (TL.i z z (TL.w z (OpVal.succ z z z (by omega)) (TL.i z z (TL.en ?_)))))))
  obtain ⟨hh,hlt138⟩:=nxt_x hR1 hh
  exact lf ((k105+1),()) hlt138 hh (Sub.pre 1 z)
 refine TC.exit (S.x (S.x ?_))
 replace hh:=fin_x hR1 hh
 refine TC.exitHere (S.n (TC.a (TL.s z z (TL.s z z (TL.en (TC.ret ?_))))))
 obtain rfl:=so hh
 exact ro [Res.rowS 76 2 encTip (.slice a0_1 x0.length c0_2) x0] z (RVs.tmp z RVs.nil) ⟨a0_1,c0_2,z,z,z⟩
theorem Fi_{a:Option Addr}{c:Nat}{l:List Arc}(hl:RS σ 8 encArc (.slice a l.length c) l)(hsz:l.length * 72≤140737488355328):
  Con Tryz.prog 136 #[.slice a l.length c] σ [] (RowP 66 8 encArc l σ):=by
 have hb:=hl.rv.big
 refine Con.mk (n:=8) Tryz.func136 z z z (fun w0=> ?_)
 refine TC.a (TL.s z z (TL.nilS 66 8 encArc (TL.en (TC.seq (TC.a (TL.s z z (TL.w z (eqlNilSl z underlying23 z z) (TL.en (TC.cond z (fun h2=> ?_) (fun h2=> ?_))))))))))
 ·refine TC.a (TL.s z z (TL.nilS 66 8 encArc (TL.en (TC.ret (S.r ?_)))))
  cases a with
  |some _=>simp at h2
  |none=>
   obtain rfl:=hl.none_nil
   exact ret1R z z
 refine TC.skip (S.n (TC.a (TL.op z (lit0 (enc:=encArc) z z underlying23 sz66 z z (fun a4 c5=> ?_)))))
 refine TL.s z z (TL.op z (appendS z z underlying23 sz66 by66 ze66 z z (by decide) z z z (.inl hl) (by simpa using hsz) (by decide) (fun a7 c8=> ?_)))
 exact TL.s z z (TL.en (TC.ret (ret1R z z)))
def Dc_(k125:Nat)(l128:List Arc)(k130:Nat):Option (((List Arc)×Nat×Nat)⊕((Nat)⊕((List Arc)))):=
 nxt (l128,k130,(k125+1))
def Dj_(x0:List Arc)(k105:Nat)(l122:List Arc)(k124:Nat)(k125:Nat):Option (((List Arc)×Nat×Nat)⊕((Nat)⊕((List Arc)))):=
 iteO (decide (((k125:Nat):Int)<(((x0.length - k105):Nat):Int))) (grd (k125<(x0.length - k105)) (grd (0≤(IntKind.i64.wrap (((k125:Nat):Int) - 1))∧(IntKind.i64.wrap (((k125:Nat):Int) - 1))<((x0.length - k105):Nat)) (iteO (decide (¬ ((nth l122 (k105+k125) Arc.zero)=(nth l122 (k105+(IntKind.i64.wrap (((k125:Nat):Int) - 1)).toNat) Arc.zero)))) (grd (k125<(x0.length - k105)) (grd (k124<l122.length) (Dc_ k125 (l122.set k124 (nth l122 (k105+k125) Arc.zero)) (k124+1)))) (Dc_ k125 l122 k124)))) (fin (grd (k124≤x0.length) (grd (k124≤(l122.take k124++List.replicate (l122.length - k124) Arc.zero).length) (fin (some ((l122.take k124++List.replicate (l122.length - k124) Arc.zero).take k124))))))
def Da_(x0:List Arc)(k105:Nat):Option ((Nat)⊕((List Arc))):=
 iteO (decide (((k105:Nat):Int)<((x0.length:Nat):Int))) (grd (0≤(IntKind.i64.wrap (((k105:Nat):Int) - 1))∧(IntKind.i64.wrap (((k105:Nat):Int) - 1))<(x0.length:Int)) (iteO (decide ((nth x0 k105 Arc.zero)=(nth x0 ((IntKind.i64.wrap (((k105:Nat):Int) - 1)).toNat) Arc.zero))) (grd (k105≤x0.length) (iter (fun q:(List Arc)×Nat×Nat=>Dj_ x0 k105 q.1 q.2.1 q.2.2) (x0,k105,1))) (nxt (k105+1)))) (fin (some x0))
def compactA(x0:List Arc):Option ((List Arc)):=
 iteO (decide (((x0.length:Nat):Int)<2)) (some x0) (iter (fun q:Nat=>Da_ x0 q) 1)
theorem E5_{x0:List Arc}{r:(List Arc)}(hh:compactA x0=some r):
  Con Tryz.prog 138 #[.slice a0_1 x0.length c0_2] σ [Res.rowS 66 8 encArc (.slice a0_1 x0.length c0_2) x0] (fun v σ' H'=> ∃a1 c1,v= .slice a1 r.length c1∧σ=σ'∧H'=[Res.rowS 66 8 encArc (.slice a1 r.length c1) r]):=by
 dsimp only [compactA]at hh
 refine Con.mk (n:=61) Tryz.func138 z z z (fun w0=> ?_)
 refine TC.a (TL.s z z (TL.en (TC.seq (TC.a (TL.s z z (TL.w z (lenC z underlying23 z) (TL.w z (OpVal.lss z z z) (TL.en (TC.cD z hh (fun h102 hh=> ?_) (fun h102 hh=> ?_))))))))))
 ·refine TC.a (TL.s z z (TL.s z z (TL.en (TC.ret (S.r ?_)))))
  obtain rfl:=so hh
  exact ro [Res.rowS 66 8 encArc (.slice a0_1 x0.length c0_2) x0] z (RVs.tmp z RVs.nil) ⟨a0_1,c0_2,z,z,z⟩
 refine TC.skip (S.n (TC.seq (TC.a (TL.i z z (TL.en (TC.block (TC.loopG (α:=(Nat)×(Unit)) (rgs [(2,4),(10,50)]) (fun g=>[(3,.int .i64 ((g.1:Nat):Int))]) (fun g=>[Res.rowS 66 8 encArc (.slice a0_1 x0.length c0_2) x0]) (fun g=>σ) (fun g=>iter (fun q:Nat=>Da_ x0 q) g.1=some r) (fun g=>rounds (fun q:Nat=>Da_ x0 q) g.1) (1,()) (Sub.pre 1 z) z (by repeat (first|exact trivial|refine ⟨z,?_⟩)) hh (fun g1 j1 hg1=> ?_))))))))
 obtain ⟨k105,_⟩:=g1
 have hh:=hg1;clear hg1
 try dsimp only
 obtain ⟨z1,hh,hR1⟩:=iter_e hh
 dsimp only [Da_]at hh
 refine TC.isSl (i:=0) z (fun _ hb106 _=> ?_)
 refine TC.seq (TC.a (TL.i z z (TL.s z z (TL.w z (lenC z underlying23 z) (TL.w z (OpVal.lss z z z) (TL.en (TC.cD z hh (fun h107 hh=> ?_) (fun h107 hh=> ?_))))))))
 ·refine TC.skip (S.n (TC.seq (TC.block (TC.seq ?_))))
  have u19:=grd_c hh
  replace hh:=grd_t hh
  refine TC.draw [] (by kernel_rfl) (TA.a 0 z (moveSl (.inl z) z) z (TA.a 1 z (moveI (.inl z) z) z (TA.isSl (i:=0) z (fun hs110 _ _=> ?_))))
  refine TA.b 2 z (indexN z underlying23 sz66 z z hs110 (by omega)) z (TA.b 3 z (loadOA Arc.zero z ag66 sz66 z (q:=0) z encArc_len (by omega) (by omega)) z (TA.a 4 z (moveSl (.inl z) z) z (TA.a 5 z (moveI (.inl z) z) z (TA.a 6 z (subW z z z) z (TA.isSl (i:=0) z (fun hs111 _ _=> ?_))))))
  refine TA.b 7 z (OpVal.index z underlying23 sz66 z z hs111 u19.1 u19.2) z (TA.b 8 z (loadOA Arc.zero z ag66 sz66 z (q:=0) z encArc_len (by omega) (by omega)) z (TA.a 9 z (eqlSt (p:=(nth x0 k105 Arc.zero)=(nth x0 ((IntKind.i64.wrap (((k105:Nat):Int) - 1)).toNat) Arc.zero)) z z z eg66 (es66 (nth x0 k105 Arc.zero) (nth x0 ((IntKind.i64.wrap (((k105:Nat):Int) - 1)).toNat) Arc.zero)) z) z (TA.dn (S.n (TC.cD z hh (fun h112 hh=> ?_) (fun h112 hh=> ?_))))))
  ·refine TC.a (TL.s z z (TL.i z z ?_))
   have u24:=grd_c hh
   replace hh:=grd_t hh
   refine TL.isSl (i:=0) z (fun hs113 _ _=> ?_)
   obtain ⟨a113,c113,hv113,ho113⟩:=vw_of (k:=k105) (size:=8) hs113 (by omega)
   refine TL.w z (ho113 z underlying23 sz66 z z) (TL.s z z (TL.en (TC.seq (TC.a (TL.i z z (TL.en (TC.block (TC.loopG (α:=((List Arc)×Nat×Nat)×(Unit)) (rgs [(3,1),(5,1),(29,25)]) (fun g=>[(3,.int .i64 ((g.1.2.1:Nat):Int)),(5,.int .i64 ((g.1.2.2:Nat):Int))]) (fun g=>[Res.rowS 66 8 encArc (.slice a0_1 x0.length c0_2) g.1.1]) (fun g=>σ) (fun g=>iter (fun q:(List Arc)×Nat×Nat=>Dj_ x0 k105 q.1 q.2.1 q.2.2) g.1=some z1∧g.1.1.length=x0.length) (fun g=>rounds (fun q:(List Arc)×Nat×Nat=>Dj_ x0 k105 q.1 q.2.1 q.2.2) g.1) ((x0,k105,1),()) (Sub.pre 1 z) z (by repeat (first|exact trivial|refine ⟨z,?_⟩)) ⟨hh,z⟩ (fun g2 j2 hg2=> ?_)))))))))
   obtain ⟨⟨l122,k124,k125⟩,_⟩:=g2
   obtain ⟨hh,hn123⟩:=hg2
   try dsimp only at hn123 ⊢
   obtain ⟨z2,hh,hR2⟩:=iter_e hh
   dsimp only [Dj_]at hh
   have hn123b:=hn123
   refine TC.isSl (i:=0) z (fun _ hb126 _=> ?_)
   refine TC.seq (TC.a (TL.i z z (TL.s z z (TL.w z (lenC z underlying23 z) (TL.w z (OpVal.lss z z z) (TL.en (TC.cD z hh (fun h127 hh=> ?_) (fun h127 hh=> ?_))))))))
   ·refine TC.skip (S.n (TC.cutG (α:=((List Arc)×Nat)×(Unit)) (rgs [(3,1),(35,19)]) (fun g=>[(3,.int .i64 ((g.1.2:Nat):Int))]) (fun g=>[Res.rowS 66 8 encArc (.slice a0_1 x0.length c0_2) g.1.1]) (fun g=>σ) (fun g=>Dc_ k125 g.1.1 g.1.2=some z2∧g.1.1.length=x0.length) ?_ (fun g j hg=> ?_)))
    ·skip
     refine TC.block (TC.seq ?_)
     have u33:=grd_c hh
     replace hh:=grd_t hh
     have u38:=grd_c hh
     replace hh:=grd_t hh
     refine TC.draw [] (by kernel_rfl) (TA.a 0 z (moveSl (.inl z) z) z (TA.a 1 z (moveI (.inl z) z) z (TA.b 2 z (elVw hv113 (by omega) (indexN z underlying23 sz66 z z hv113.sl (by omega))) z (TA.b 3 z (loadOA Arc.zero z ag66 sz66 z (q:=0) z encArc_len (by omega) (by omega)) z (TA.a 4 z (moveSl (.inl z) z) z (TA.a 5 z (moveI (.inl z) z) z (TA.a 6 z (subW z z z) z (TA.b 7 z (elVw hv113 (by omega) (OpVal.index z underlying23 sz66 z z hv113.sl u38.1 u38.2)) z (TA.b 8 z (loadOA Arc.zero z ag66 sz66 z (q:=0) z encArc_len (by omega) (by omega)) z (TA.a 9 z (neqSt (p:=(nth l122 (k105+k125) Arc.zero)=(nth l122 (k105+(IntKind.i64.wrap (((k125:Nat):Int) - 1)).toNat) Arc.zero)) z z z eg66 (es66 (nth l122 (k105+k125) Arc.zero) (nth l122 (k105+(IntKind.i64.wrap (((k125:Nat):Int) - 1)).toNat) Arc.zero)) z) z (TA.dn (S.n (TC.cD z hh (fun h131 hh=> ?_) (fun h131 hh=> ?_))))))))))))))
     ·refine TC.a (TL.s z z (TL.i z z (TL.s z z (TL.i z z ?_))))
      have u45:=grd_c hh
      replace hh:=grd_t hh
      refine TL.w z (elVw hv113 (by omega) (indexN z underlying23 sz66 z z hv113.sl (by omega))) (TL.w z (loadOA Arc.zero z ag66 sz66 z (q:=0) z encArc_len (by omega) (by omega)) ?_)
      have u47:=grd_c hh
      replace hh:=grd_t hh
      refine TL.isSl (i:=0) z (fun hs132 _ _=> ?_)
      refine TL.w z (indexN z underlying23 sz66 z z hs132 (by omega)) ?_
      have hn133:(l122.set k124 (nth l122 (k105+k125) Arc.zero)).length=x0.length:=by rw [List.length_set];exact hn123
      refine TL.op z (storeS (nth l122 (k105+k125) Arc.zero) z sz66 z z z z encArc_len encArc_one (by omega) (by omega) ?_)
      exact TL.en (TC.region (TL.i z z (TL.w z (OpVal.succ z z z (by omega)) (TL.i z z (TL.nil (B.n (S.n (cf (((l122.set k124 (nth l122 (k105+k125) Arc.zero)),(k124+1)),()) ⟨hh,hn133⟩ (Sub.pre 1 z)))))))))
     exact TC.skip (B.n (S.n (cf ((l122,k124),()) ⟨hh,hn123⟩ (Sub.pre 1 z))))
    skip
    obtain ⟨⟨l128,k130⟩,_⟩:=g
    obtain ⟨hh,hn129⟩:=hg
    try dsimp only at hn129 ⊢
    dsimp only [Dc_]at hh
    have hn129b:=hn129
    refine TC.isSl (i:=0) z (fun _ hb134 _=> ?_)
    refine TC.region (TL.i z z (TL.w z (OpVal.succ z z z (by omega)) (TL.i z z (TL.en ?_))))
    obtain ⟨hh,hlt135⟩:=nxt_x hR2 hh
    exact lf ((l128,k130,(k125+1)),()) hlt135 ⟨hh,hn129⟩ (Sub.pre 1 z)
   refine TC.exit (S.x (S.x ?_))
   replace hh:=fin_x hR2 hh
   refine TC.exitHere (S.n (TC.a (TL.s z z (TL.i z z ?_))))
   have u57:=grd_c hh
   replace hh:=grd_t hh
   refine TL.isSl (i:=0) z (fun hs136 _ _=> ?_)
   rw [hn123]at hs136
   obtain ⟨a136,c136,hv136,ho136⟩:=vw_of (k:=k124) (size:=8) hs136 (by omega)
   refine TL.w z (ho136 z underlying23 sz66 z z) ?_
   have hn137:(l122.take k124++List.replicate (l122.length - k124) Arc.zero).length=x0.length:=by simp only [List.length_append,List.length_take,List.length_replicate];try simp only [List.length_replicate]at *;omega
   refine TL.op z (clearV (k:=k124) Arc.zero z underlying23 ze66 z z hv136 (by omega) (by omega) encArc_len (by decide) z encArc_one ?_)
   refine TL.en (TC.a (TL.s z z (TL.i z z ?_)))
   rw [←hn137]
   have u61:=grd_c hh
   replace hh:=grd_t hh
   refine TL.op z (cutS z underlying23 sz66 z z z z z (by omega) encArc_len ?_)
   refine TL.s z z (TL.en (TC.ret (B.r (S.r (S.r ?_)))))
   replace hh:=fin_x hR1 hh
   refine B.r (S.r ?_)
   obtain rfl:=so hh
   exact ro [Res.rowS 66 8 encArc (.slice a0_1 ((l122.take k124++List.replicate (l122.length - k124) Arc.zero).take k124).length c0_2) ((l122.take k124++List.replicate (l122.length - k124) Arc.zero).take k124)] z (RVs.tmp z RVs.nil) ⟨a0_1,c0_2,z,z,z⟩
  refine TC.skip (B.n (S.n (TC.region (TL.i z z (TL.w z (OpVal.succ z z z (by omega)) (TL.i z z (TL.en ?_)))))))
  obtain ⟨hh,hlt138⟩:=nxt_x hR1 hh
  exact lf ((k105+1),()) hlt138 hh (Sub.pre 1 z)
 refine TC.exit (S.x (S.x ?_))
 replace hh:=fin_x hR1 hh
 refine TC.exitHere (S.n (TC.a (TL.s z z (TL.s z z (TL.en (TC.ret ?_))))))
 obtain rfl:=so hh
 exact ro [Res.rowS 66 8 encArc (.slice a0_1 x0.length c0_2) x0] z (RVs.tmp z RVs.nil) ⟨a0_1,c0_2,z,z,z⟩
def onceS(x0:List (List UInt8)):Option ((List (List UInt8))):=
 grd (x0.length * 16≤140737488355328) (bnd (compactS (sortL Lib.compareBytes x0)) (fun v9=>some v9))
def F1_(σ:Store)(r:(List (List UInt8))):Value→Store→List Res→Prop:=fun v σ' H'=>
 ∃a1 c1,v= .slice a1 r.length c1∧σ=σ'∧H'=[Res.rowS 9 1 eS_ (.slice a1 r.length c1) r]
theorem Fv_{x0:List (List UInt8)}(f0_0:RS σ 1 eS_ (.slice a0_0 x0.length c0_0) x0){r:(List (List UInt8))}(hh:onceS x0=some r):
  Con Tryz.prog 63 #[.slice a0_0 x0.length c0_0,.func (.func 64) #[] #[]] σ [] (F1_ σ r):=by
 dsimp only [onceS]at hh
 have f0_0b:=f0_0.rv.big
 refine Con.mk (n:=13) Tryz.func63 z z z (fun w0=> ?_)
 refine TC.a (TL.s z z (TL.en (TC.a (TL.s z z ?_))))
 have u3:=grd_c hh
 replace hh:=grd_t hh
 refine TL.op z (OpOk.call (Fo_ f0_0 u3) z z pf103 z z z z ?_)
 rintro _ _ _ _ ⟨⟨a101,c102,rfl⟩,rfl,rfl⟩
 refine TL.s z z (TL.en (TC.a (TL.s z z (TL.w z (moveFn (.inl z) z) ?_))))
 have hn104:(sortL Lib.compareBytes x0).length=x0.length:=List.length_mergeSort _
 refine TL.op z (OpOk.call (Fq_ (l:=x0)) z z pf104 z z z z ?_)
 rintro _ _ _ _ ⟨rfl,rfl,rfl⟩
 refine TL.en (TC.a (TL.s z z ?_))
 rw [←hn104]
 obtain ⟨v9,u9,hh⟩:=bnd_e hh
 refine TL.op z (OpOk.call (E9_ u9) z z pf105 z z z z ?_)
 rintro _ _ _ hle105 ⟨a105_1,c105_2,rfl,rfl,rfl⟩
 refine TL.s z z (TL.en (TC.ret ?_))
 obtain rfl:=so hh
 exact ro [Res.rowS 9 1 eS_ (.slice a105_1 v9.length c105_2) v9] z (RVs.tmp z RVs.nil) ⟨a105_1,c105_2,z,z,z⟩
def onceT(x0:List Tip):Option ((List Tip)):=
 grd (x0.length * 24≤140737488355328) (bnd (compactT (sortL cmpTip x0)) (fun v9=>some v9))
def F2_(σ:Store)(r:(List Tip)):Value→Store→List Res→Prop:=fun v σ' H'=>
 ∃a1 c1,v= .slice a1 r.length c1∧σ=σ'∧H'=[Res.rowS 76 2 encTip (.slice a1 r.length c1) r]
theorem E3_{x0:List Tip}(f0_0:RS σ 2 encTip (.slice a0_0 x0.length c0_0) x0){r:(List Tip)}(hh:onceT x0=some r):
  Con Tryz.prog 95 #[.slice a0_0 x0.length c0_0,.func (.func 96) #[] #[]] σ [] (F2_ σ r):=by
 dsimp only [onceT]at hh
 have f0_0b:=f0_0.rv.big
 refine Con.mk (n:=13) Tryz.func95 z z z (fun w0=> ?_)
 refine TC.a (TL.s z z (TL.en (TC.a (TL.s z z ?_))))
 have u3:=grd_c hh
 replace hh:=grd_t hh
 refine TL.op z (OpOk.call (Ey_ f0_0 u3) z z pf88 z z z z ?_)
 rintro _ _ _ _ ⟨⟨a101,c102,rfl⟩,rfl,rfl⟩
 refine TL.s z z (TL.en (TC.a (TL.s z z (TL.w z (moveFn (.inl z) z) ?_))))
 have hn104:(sortL cmpTip x0).length=x0.length:=List.length_mergeSort _
 refine TL.op z (OpOk.call (Ft_ (l:=x0)) z z pf124 z z z z ?_)
 rintro _ _ _ _ ⟨rfl,rfl,rfl⟩
 refine TL.en (TC.a (TL.s z z ?_))
 rw [←hn104]
 obtain ⟨v9,u9,hh⟩:=bnd_e hh
 refine TL.op z (OpOk.call (Ei_ u9) z z pf126 z z z z ?_)
 rintro _ _ _ hle105 ⟨a105_1,c105_2,rfl,rfl,rfl⟩
 refine TL.s z z (TL.en (TC.ret ?_))
 obtain rfl:=so hh
 exact ro [Res.rowS 76 2 encTip (.slice a105_1 v9.length c105_2) v9] z (RVs.tmp z RVs.nil) ⟨a105_1,c105_2,z,z,z⟩
def onceA(x0:List Arc):Option ((List Arc)):=
 grd (x0.length * 72≤140737488355328) (bnd (compactA (sortL cmpArc x0)) (fun v9=>some v9))
def F3_(σ:Store)(r:(List Arc)):Value→Store→List Res→Prop:=fun v σ' H'=>
 ∃a1 c1,v= .slice a1 r.length c1∧σ=σ'∧H'=[Res.rowS 66 8 encArc (.slice a1 r.length c1) r]
theorem Fs_{x0:List Arc}(f0_0:RS σ 8 encArc (.slice a0_0 x0.length c0_0) x0){r:(List Arc)}(hh:onceA x0=some r):
  Con Tryz.prog 97 #[.slice a0_0 x0.length c0_0,.func (.func 98) #[] #[]] σ [] (F3_ σ r):=by
 dsimp only [onceA]at hh
 have f0_0b:=f0_0.rv.big
 refine Con.mk (n:=13) Tryz.func97 z z z (fun w0=> ?_)
 refine TC.a (TL.s z z (TL.en (TC.a (TL.s z z ?_))))
 have u3:=grd_c hh
 replace hh:=grd_t hh
 refine TL.op z (OpOk.call (Fi_ f0_0 u3) z z pf136 z z z z ?_)
 rintro _ _ _ _ ⟨⟨a101,c102,rfl⟩,rfl,rfl⟩
 refine TL.s z z (TL.en (TC.a (TL.s z z (TL.w z (moveFn (.inl z) z) ?_))))
 have hn104:(sortL cmpArc x0).length=x0.length:=List.length_mergeSort _
 refine TL.op z (OpOk.call (Fp_ (l:=x0)) z z pf137 z z z z ?_)
 rintro _ _ _ _ ⟨rfl,rfl,rfl⟩
 refine TL.en (TC.a (TL.s z z ?_))
 rw [←hn104]
 obtain ⟨v9,u9,hh⟩:=bnd_e hh
 refine TL.op z (OpOk.call (E5_ u9) z z pf138 z z z z ?_)
 rintro _ _ _ hle105 ⟨a105_1,c105_2,rfl,rfl,rfl⟩
 refine TL.s z z (TL.en (TC.ret ?_))
 obtain rfl:=so hh
 exact ro [Res.rowS 66 8 encArc (.slice a105_1 v9.length c105_2) v9] z (RVs.tmp z RVs.nil) ⟨a105_1,c105_2,z,z,z⟩
def A2_(x0:Fst):Option (Fst×Int):=
 bnd (Bd_ x0) (fun v5=>iteO (decide (v5≠0)) (some ((⟨0,([]:List Tip),([]:List Tip),([]:List Arc)⟩:Fst),1)) (bnd (onceT x0.starts) (fun v14=>bnd (onceT x0.ends) (fun v17=>bnd (onceA x0.arcs) (fun v20=>some ((⟨x0.states,v14,v17,v20⟩:Fst),0))))))
def Fj_(σ:Store)(r:Fst×Int):Value→Store→List Res→Prop:=fun v σ' H'=>
 ∃a1 c1 a2 c2 a3 c3,v= .tuple #[.agg #[.int .i64 r.1.states,.slice a1 r.1.starts.length c1,.slice a2 r.1.ends.length c2,.slice a3 r.1.arcs.length c3],.int .i64 r.2]∧RS σ' 2 encTip (.slice a1 r.1.starts.length c1) r.1.starts∧RS σ' 2 encTip (.slice a2 r.1.ends.length c2) r.1.ends∧RS σ' 8 encArc (.slice a3 r.1.arcs.length c3) r.1.arcs∧H'=[]
theorem Ek_{x0:Fst}(f0_0:RS σ 2 encTip (.slice a0_0 x0.starts.length c0_0) x0.starts)(f0_1:RS σ 2 encTip (.slice a0_1 x0.ends.length c0_1) x0.ends)(f0_2:RS σ 8 encArc (.slice a0_2 x0.arcs.length c0_2) x0.arcs){r:Fst×Int}(hh:A2_ x0=some r):
  Con Tryz.prog 56 #[.agg #[.int .i64 x0.states,.slice a0_0 x0.starts.length c0_0,.slice a0_1 x0.ends.length c0_1,.slice a0_2 x0.arcs.length c0_2]] σ [] (Fj_ σ r):=by
 dsimp only [A2_]at hh
 have f0_0b:=f0_0.rv.big
 have f0_1b:=f0_1.rv.big
 have f0_2b:=f0_2.rv.big
 refine Con.mk (n:=20) Tryz.func56 z z z (fun w0=> ?_)
 refine TC.a (TL.op z (boxA z z z z (fun b101=> ?_)))
 refine TL.op z (OpOk.alloc z ze25 z z (fun b103=> ?_))
 refine TL.i z z (TL.en (TC.seq (TC.a (TL.w z (loadAll z ag25 sz25 z (i:=1) z z) ?_))))
 obtain ⟨v5,u5,hh⟩:=bnd_e hh
 refine TL.op z (callP (Ch_ (x0:=x0) f0_0 f0_1 f0_2 u5) z z pf43 z z z ?_)
 refine TL.w z (OpVal.neq z z z) (TL.en (TC.cD z hh (fun h105 hh=> ?_) (fun h105 hh=> ?_)))
 ·refine TC.a (TL.w z (buildL z pl25 ze25 z) (TL.op z (storeAll z sz25 z z z z z z ?_)))
  refine TL.i z z (TL.en (TC.rt 1 (S.r ?_)))
  obtain rfl:=so hh
  exact ro [] z (RVs.agg ag25 sz25 z (i:=0) z z (RVs.tmp z RVs.nil)) ⟨none,0,none,0,none,0,z,(RS.nilF _ encTip encTip_len),(RS.nilF _ encTip encTip_len),(RS.nilF _ encArc encArc_len),z⟩
 refine TC.skip (S.n (TC.seq ?_))
 obtain ⟨v14,u14,hh⟩:=bnd_e hh
 obtain ⟨v17,u17,hh⟩:=bnd_e hh
 obtain ⟨v20,u20,hh⟩:=bnd_e hh
 refine TC.draw [12,13] (by kernel_rfl) (TA.a 0 z (fieldLoc z fo25_0 z) z (TA.b 1 z (loadLoc z ag3 z (i:=1) z z) z (TA.a 2 z (fieldLoc z fo25_1 z) z (TA.b 3 z (loadLoc z ag22 z (i:=1) z z) z (TA.a 5 z (fieldLoc z fo25_2 z) z (TA.b 6 z (loadLoc z ag22 z (i:=1) z z) z (TA.a 8 z (fieldLoc z fo25_3 z) z (TA.b 9 z (loadLoc z ag23 z (i:=1) z z) z (TA.ac 4 z (OpOk.call (E3_ f0_0 u14) z z pf95 z z z z ?_))))))))))
 rintro _ _ _ hle112 ⟨a112_1,c112_1,rfl,rfl,rfl⟩
 refine k1 (TA.ac 7 z (OpOk.call (E3_ f0_1 u17) z z pf95 z z z z ?_))
 rintro _ _ _ hle114 ⟨a114_1,c114_1,rfl,rfl,rfl⟩
 refine k2 (TA.ac 10 z (OpOk.call (Fs_ f0_2 u20) z z pf97 z z z z ?_))
 rintro _ _ _ hle116 ⟨a116_1,c116_1,rfl,rfl,rfl⟩
 refine k3 (TA.a 11 z (buildL z pl25 ze25 z) z (TA.front 3 z z (TA.last 12 (by kernel_rfl) z z z (storeAll z sz25 z z z z z z ?_))))
 refine TZ.v 13 (by kernel_rfl) z z z (moveI (.inr z) z) z z (TZ.done (by kernel_rfl) (S.n (TC.front 3 z z (TC.sealS encTip_len (fun τ120 hle119 hr118=> ?_)))))
 have hr118b:=hr118.rv.big
 refine TC.front 2 z z (TC.sealS encTip_len (fun τ123 hle122 hr121=> ?_))
 replace hr118:=hr118.mono hle122
 have hr121b:=hr121.rv.big
 refine TC.front 1 z z (TC.sealS encArc_len (fun τ126 hle125 hr124=> ?_))
 replace hr118:=hr118.mono hle125
 replace hr121:=hr121.mono hle125
 have hr124b:=hr124.rv.big
 refine TC.rt 1 ?_
 obtain rfl:=so hh
 exact ro [] z (RVs.agg ag25 sz25 z (i:=0) z z (RVs.tmp z RVs.nil)) ⟨a112_1,c112_1,a114_1,c114_1,a116_1,c116_1,z,hr118,hr121,hr124,z⟩
def D4_(l120:List (List Arc))(x0:Fst)(k124:Nat):Option (((List (List Arc))×Nat)⊕((List (List UInt8))×Int)):=
 nxt ((l120.set (((nth x0.arcs k124 Arc.zero).frm).toNat) ((nth l120 (((nth x0.arcs k124 Arc.zero).frm).toNat) ([]:List Arc))++[(nth x0.arcs k124 Arc.zero)])),(k124+1))
def D5_(l229:List (List (List UInt8)))(x0:Fst)(k233:Nat):Option (((List (List (List UInt8)))×Nat)⊕((List (List UInt8))×Int)):=
 nxt ((l229.set (((nth x0.ends k233 Tip.zero).state).toNat) ((nth l229 (((nth x0.ends k233 Tip.zero).state).toNat) ([]:List (List UInt8)))++[(nth x0.ends k233 Tip.zero).out])),(k233+1))
def Br_(l229:List (List (List UInt8)))(v120c:FPair×Unit)(l338:List (List UInt8))(k341:Nat):Option (((List (List UInt8))×Nat)⊕(((List (List UInt8)))⊕((List (List UInt8))×Int))):=
 iteO (decide (((k341:Nat):Int)<(((nth l229 v120c.1.state.toNat ([]:List (List UInt8))).length:Nat):Int))) (grd (v120c.1.out.length+(nth (nth l229 v120c.1.state.toNat ([]:List (List UInt8))) k341 ([]:List UInt8)).length≤9223372036854775807) (grd ((l338.length+[(v120c.1.out++(nth (nth l229 v120c.1.state.toNat ([]:List (List UInt8))) k341 ([]:List UInt8)))].length) * 16≤140737488355328) (nxt ((l338++[(v120c.1.out++(nth (nth l229 v120c.1.state.toNat ([]:List (List UInt8))) k341 ([]:List UInt8)))]),(k341+1))))) (fin (nxt l338))
def Bm_(l229:List (List (List UInt8)))(l299:List (List UInt8))(oE:Option (FPair×Unit)):Option (((List (List UInt8)))⊕((List (List UInt8))×Int)):=
 optE oE (fin (bnd (onceS l299) (fun v148=>some (v148,0)))) (fun v120c=>grd (0≤v120c.1.state∧v120c.1.state<(l229.length:Int)) (iter (fun q:(List (List UInt8))×Nat=>Br_ l229 v120c q.1 q.2) (l299,0)))
def Bn_(x0:Fst)(m201:FM FPair Unit)(l229:List (List (List UInt8)))(k233:Nat):Option (((List (List (List UInt8)))×Nat)⊕((List (List UInt8))×Int)):=
 iteO (decide (((k233:Nat):Int)<((x0.ends.length:Nat):Int))) (grd (0≤((nth x0.ends k233 Tip.zero).state)∧((nth x0.ends k233 Tip.zero).state)<(l229.length:Int)) (grd (((nth l229 (((nth x0.ends k233 Tip.zero).state).toNat) ([]:List (List UInt8))).length+[(nth x0.ends k233 Tip.zero).out].length) * 16≤140737488355328) (grd (0≤((nth x0.ends k233 Tip.zero).state)∧((nth x0.ends k233 Tip.zero).state)<(l229.length:Int)) (D5_ l229 x0 k233)))) (fin (allP (fun q=>Rep q m201) (fun q=>runL (fun (q:(List (List UInt8))) (oE:Option (FPair×Unit))=>Bm_ l229 q oE) q ([]:List (List UInt8)))))
def A8_(x1:List UInt8)(l120:List (List Arc))(x0:Fst)(m201:FM FPair Unit)(k203:Nat):Option (((FM FPair Unit)×Nat)⊕((List (List UInt8))×Int)):=
 iteO (decide (((k203:Nat):Int)<((x1.length:Nat):Int))) (bnd (Dv_ l120 m201 (nth x1 k203 (0:UInt8))) (fun v74=>iteO (!v74.2) (fin (some (([]:List (List UInt8)),2))) (nxt (v74.1,(k203+1))))) (fin (grd (0≤x0.states∧24 * x0.states.toNat≤281474976710656) (iter (fun q:(List (List (List UInt8)))×Nat=>Bn_ x0 m201 q.1 q.2) ((List.replicate x0.states.toNat ([]:List (List UInt8))),0))))
def Bo_(x0:Fst)(x1:List UInt8)(l120:List (List Arc))(m180:FM FPair Unit)(k181:Nat):Option (((FM FPair Unit)×Nat)⊕((List (List UInt8))×Int)):=
 iteO (decide (((k181:Nat):Int)<((x0.starts.length:Nat):Int))) (nxt ((m180.put (⟨(nth x0.starts k181 Tip.zero).state,(nth x0.starts k181 Tip.zero).out⟩:FPair) ()),(k181+1))) (fin (iter (fun q:(FM FPair Unit)×Nat=>A8_ x1 l120 x0 q.1 q.2) (m180,0)))
def Bp_(x0:Fst)(x1:List UInt8)(l120:List (List Arc))(k124:Nat):Option (((List (List Arc))×Nat)⊕((List (List UInt8))×Int)):=
 iteO (decide (((k124:Nat):Int)<((x0.arcs.length:Nat):Int))) (grd (0≤((nth x0.arcs k124 Arc.zero).frm)∧((nth x0.arcs k124 Arc.zero).frm)<(l120.length:Int)) (grd (((nth l120 (((nth x0.arcs k124 Arc.zero).frm).toNat) ([]:List Arc)).length+[(nth x0.arcs k124 Arc.zero)].length) * 72≤140737488355328) (grd (0≤((nth x0.arcs k124 Arc.zero).frm)∧((nth x0.arcs k124 Arc.zero).frm)<(l120.length:Int)) (D4_ l120 x0 k124)))) (fin (iter (fun q:(FM FPair Unit)×Nat=>Bo_ x0 x1 l120 q.1 q.2) ((FM.emp:FM FPair Unit),0)))
def Du_(x0:Fst)(x1:List UInt8):Option ((List (List UInt8))×Int):=
 grd (x1.length≤281474976710656) (bnd (Bd_ x0) (fun v5=>iteO (decide (v5≠0)) (some (([]:List (List UInt8)),1)) (iteO (decide (256<((x1.length:Nat):Int))) (some (([]:List (List UInt8)),2)) (grd (0≤x0.states∧24 * x0.states.toNat≤281474976710656) (iter (fun q:(List (List Arc))×Nat=>Bp_ x0 x1 q.1 q.2) ((List.replicate x0.states.toNat ([]:List Arc)),0))))))
def Fk_(σ:Store)(r:(List (List UInt8))×Int):Value→Store→List Res→Prop:=fun v σ' H'=>
 ∃a1 c1,v= .tuple #[.slice a1 r.1.length c1,.int .i64 r.2]∧RS σ' 1 eS_ (.slice a1 r.1.length c1) r.1∧H'=[]
theorem E6_{x0:Fst}{x1:List UInt8}(f0_0:RS σ 2 encTip (.slice a0_0 x0.starts.length c0_0) x0.starts)(f0_1:RS σ 2 encTip (.slice a0_1 x0.ends.length c0_1) x0.ends)(f0_2:RS σ 8 encArc (.slice a0_2 x0.arcs.length c0_2) x0.arcs){r:(List (List UInt8))×Int}(hh:Du_ x0 x1=some r):
  Con Tryz.prog 26 #[.agg #[.int .i64 x0.states,.slice a0_0 x0.starts.length c0_0,.slice a0_1 x0.ends.length c0_1,.slice a0_2 x0.arcs.length c0_2],.string (bs x1)] σ [] (Fk_ σ r):=by
 dsimp only [Du_]at hh
 have f0_0b:=f0_0.rv.big
 have f0_1b:=f0_1.rv.big
 have f0_2b:=f0_2.rv.big
 refine Con.mk (n:=135) Tryz.func26 z z z (fun w0=> ?_)
 have x1b:=grd_c hh
 replace hh:=grd_t hh
 refine TC.a (TL.op z (boxA z z z z (fun b101=> ?_)))
 refine TL.s z z (TL.i z z (TL.en (TC.seq (TC.a (TL.w z (loadAll z ag25 sz25 z (i:=0) z z) ?_)))))
 obtain ⟨v5,u5,hh⟩:=bnd_e hh
 refine TL.op z (callP (Ch_ (x0:=x0) f0_0 f0_1 f0_2 u5) z z pf43 z z z ?_)
 refine TL.w z (OpVal.neq z z z) (TL.en (TC.cD z hh (fun h103 hh=> ?_) (fun h103 hh=> ?_)))
 ·refine TC.a (TL.s z z (TL.i z z (TL.en (TC.rt 0 (S.r ?_)))))
  obtain rfl:=so hh
  exact rq [4,5] ⟨none,0,z,(RS.nilF _ eS_ eSl_),z⟩
 refine TC.skip (S.n (TC.seq (TC.a (TL.w z (moveStr (.inl z) z) (TL.w z (lenBs z underlying9 z) (TL.w z (OpVal.gtr z z z) (TL.en (TC.cD z hh (fun h104 hh=> ?_) (fun h104 hh=> ?_)))))))))
 ·refine TC.a (TL.s z z (TL.i z z (TL.en (TC.rt 0 (S.r ?_)))))
  obtain rfl:=so hh
  exact rq [4,5] ⟨none,0,z,(RS.nilF _ eS_ eSl_),z⟩
 refine TC.skip (S.n (TC.a (TL.w z (fieldLoc z fo25_0 z) (TL.w z (loadLoc z ag3 z (i:=0) z z) ?_))))
 have u16:=grd_c hh
 replace hh:=grd_t hh
 refine TL.op rfl (makeN (q:=x0.states.toNat) (E:=66) (size:=8) (enc:=encArc) rfl underlying71 sz23 by23 ze23 rfl rfl (vN u16.1) (vN u16.1) (by omega) (by decide) rfl (fun a105 c106 zf107=> ?_))
 refine TL.s z z (TL.en (TC.seq (TC.a (TL.w z (fieldLoc z fo25_3 z) (TL.w z (loadLoc z ag23 z (i:=1) z z) (TL.w z (lenC z underlying23 z) (TL.i z z (TL.en (TC.block (TC.loopG (α:=((List (List Arc))×Nat)×((List (NP Arc)))) (rgs [(8,1),(34,17)]) (fun g=>[(34,.int .i64 ((g.1.2:Nat):Int))]) (fun g=>[Res.cells b101 #[.int .i64 x0.states,.slice a0_0 x0.starts.length c0_0,.slice a0_1 x0.ends.length c0_1,.slice a0_2 x0.arcs.length c0_2] 25,Res.nest 23 66 8 encArc (.slice a105 (List.replicate x0.states.toNat ([]:List Arc)).length c106) g.2]) (fun g=>σ) (fun g=>iter (fun q:(List (List Arc))×Nat=>Bp_ x0 x1 q.1 q.2) g.1=some r∧g.1.1.length=(List.replicate x0.states.toNat ([]:List Arc)).length∧Zn g.2 g.1.1) (fun g=>rounds (fun q:(List (List Arc))×Nat=>Bp_ x0 x1 q.1 q.2) g.1) (((List.replicate x0.states.toNat ([]:List Arc)),0),(List.replicate x0.states.toNat (nilN:NP Arc))) (Sub.f [1] 2) z (by repeat (first|exact trivial|refine ⟨z,?_⟩)) ⟨hh,z,zf107⟩ (fun g1 j1 hg1=> ?_)))))))))))
 obtain ⟨⟨l120,k124⟩,z122⟩:=g1
 obtain ⟨hh,hn121,zf123⟩:=hg1
 try dsimp only at hn121 zf123 ⊢
 obtain ⟨z1,hh,hR1⟩:=iter_e hh
 dsimp only [Bp_]at hh
 have hn121b:=hn121
 have zf123b:=zf123.len
 refine TC.know (isSl_nest (q:=1) z zf123) (fun ⟨_,hb125⟩=> ?_)
 refine TC.a (TL.w z (OpVal.lss z z z) (TL.en (TC.seq (TC.cD z hh (fun h126 hh=> ?_) (fun h126 hh=> ?_)))))
 ·refine TC.skip (S.n (TC.cutG (α:=(Unit)×((List (NP Arc)))) (rgs [(8,1),(36,14)]) (fun g=>[]) (fun g=>[Res.cells b101 #[.int .i64 x0.states,.slice a0_0 x0.starts.length c0_0,.slice a0_1 x0.ends.length c0_1,.slice a0_2 x0.arcs.length c0_2] 25,Res.nest 23 66 8 encArc (.slice a105 (List.replicate x0.states.toNat ([]:List Arc)).length c106) g.2]) (fun g=>σ) (fun g=>D4_ l120 x0 k124=some z1∧(l120.set (((nth x0.arcs k124 Arc.zero).frm).toNat) ((nth l120 (((nth x0.arcs k124 Arc.zero).frm).toNat) ([]:List Arc))++[(nth x0.arcs k124 Arc.zero)])).length=(List.replicate x0.states.toNat ([]:List Arc)).length∧Zn g.2 (l120.set (((nth x0.arcs k124 Arc.zero).frm).toNat) ((nth l120 (((nth x0.arcs k124 Arc.zero).frm).toNat) ([]:List Arc))++[(nth x0.arcs k124 Arc.zero)]))) ?_ (fun g j hg=> ?_)))
  ·skip
   refine TC.block (TC.a (TL.w z (indexN z underlying23 sz66 z z f0_2.rv.sl (by omega)) (TL.w z (loadSA Arc.zero z ag66 sz66 z f0_2 (by omega) (by omega)) (TL.op z (OpOk.alloc z ze66 z z (fun b130=> ?_))))))
   refine TL.op z (storeAll z sz66 z z z z z z ?_)
   refine TL.en ?_
   have u33:=grd_c hh
   replace hh:=grd_t hh
   have u37:=grd_c hh
   replace hh:=grd_t hh
   have u38:=grd_c hh
   replace hh:=grd_t hh
   refine TC.drawR (Hr:=[Res.cells b130 #[.int .i64 ((nth x0.arcs k124 Arc.zero).frm),.int .i64 ((nth x0.arcs k124 Arc.zero).to),.int .u64 ((((nth x0.arcs k124 Arc.zero).set).a:Nat):Int),.int .u64 ((((nth x0.arcs k124 Arc.zero).set).b:Nat):Int),.int .u64 ((((nth x0.arcs k124 Arc.zero).set).c:Nat):Int),.int .u64 ((((nth x0.arcs k124 Arc.zero).set).d:Nat):Int),.string (bs ((nth x0.arcs k124 Arc.zero).out)),.bool ((nth x0.arcs k124 Arc.zero).copy)] 66,Res.cells b101 #[.int .i64 x0.states,.slice a0_0 x0.starts.length c0_0,.slice a0_1 x0.ends.length c0_1,.slice a0_2 x0.arcs.length c0_2] 25]) (fun r hr=>mem_pick [0,1] z hr) [] (by kernel_rfl) (TA.a 0 z (moveSl (.inl z) z) z (TA.a 1 z (fieldLoc z fo66_0 z) z (TA.b 2 z (loadLoc z ag3 z (i:=0) z z) z (TA.a 3 z (moveSl (.inl z) z) z (TA.a 4 z (fieldLoc z fo66_0 z) z (TA.b 5 z (loadLoc z ag3 z (i:=0) z z) z (TA.know (isSl_nest (q:=2) z zf123) (fun ⟨hs143,hs143b⟩=> ?_))))))))
   refine TA.b 6 z (OpVal.index z underlying71 sz23 z z hs143 u33.1 u33.2) z (TA.b 8 z (loadAll z ag66 sz66 z (i:=0) z z) z ?_)
   obtain ⟨p144,hz144,hm144⟩:=Zn.at zf123 (i:=((nth x0.arcs k124 Arc.zero).frm).toNat) (by omega)
   refine TA.actN [7,9] (by kernel_rfl) (an z z (OpVal.ok (loadN z ag23 z (q:=2) z hz144 hm144) z z ⟨(fun w h=>sees_of (Store.le.refl _) (fun r hr=>mem_pick [0,1] z hr) w h),?_⟩) (an z z (OpOk.lit (enc:=encArc) [(nth x0.arcs k124 Arc.zero)] z underlying23 sz66 ze66 z z z encArc_len (by decide) (by decide) Arc.zero z (by decide) z (by decide) encArc_one (fun a145 c146=>⟨(fun w h=>sees_of (Store.le.refl _) (fun r hr=>mem_pick [1,2] z hr) w h),?_⟩)) (True.intro)))
   ·skip
    refine TA.ac 9 z (OpOk.lit (enc:=encArc) [(nth x0.arcs k124 Arc.zero)] z underlying23 sz66 ze66 z z z encArc_len (by decide) (by decide) Arc.zero z (by decide) z (by decide) encArc_one (fun a148 c149=>⟨(fun w h=>sees_of (Store.le.refl _) (fun r hr=>mem_pick [1,2] z hr) w h),?_⟩))
    refine TA.front 3 z z (TA.by (fun w h=>Reach.takeN hz144 hm144 h) (TA.ac 10 z (appendS z z underlying23 sz66 by66 ze66 z z (by decide) z z z (.inr ⟨_,1,z⟩) (by simpa using u37) (by decide) (fun a152 c153=>(k3 ?_)))))
    refine TA.know (isSl_nestX (q:=1) z zf123) (fun ⟨hs154,hs154b⟩=> ?_)
    refine TA.b 11 z (OpVal.index z underlying71 sz23 z z hs154 u38.1 u38.2) z (TA.front 1 z z (TA.front 1 z z ?_))
    have hn156:(l120.set (((nth x0.arcs k124 Arc.zero).frm).toNat) ((nth l120 (((nth x0.arcs k124 Arc.zero).frm).toNat) ([]:List Arc))++[(nth x0.arcs k124 Arc.zero)])).length=(List.replicate x0.states.toNat ([]:List Arc)).length:=(List.length_set ..).trans hn121
    refine TA.ac 12 rfl (storeX (l':=((nth l120 (((nth x0.arcs k124 Arc.zero).frm).toNat) ([]:List Arc))++[(nth x0.arcs k124 Arc.zero)])) rfl sz23 rfl rfl rfl rfl rfl (by rw [zf123.len];omega) zf123 (fun zf155=>(k2 ?_)))
    exact TA.dn (B.n (S.n (cf ((),(z122.set (((nth x0.arcs k124 Arc.zero).frm).toNat) (((nth l120 (((nth x0.arcs k124 Arc.zero).frm).toNat) ([]:List Arc))++[(nth x0.arcs k124 Arc.zero)]),(a152,c153)))) ⟨hh,hn156,zf155⟩ (Sub.f [3] 2))))
   skip
   obtain ⟨p157,hz157,hm157⟩:=Zn.at zf123 (i:=((nth x0.arcs k124 Arc.zero).frm).toNat) (by omega)
   refine TA.ac 7 z (OpVal.ok (loadN z ag23 z (q:=3) z hz157 hm157) z z ⟨(fun w h=>sees_of (Store.le.refl _) (fun r hr=>mem_pick [1,2] z hr) w h),?_⟩)
   refine TA.front 3 z z (TA.by (fun w h=>Reach.takeN hz157 hm157 h) (TA.ac 10 z (appendS z z underlying23 sz66 by66 ze66 z z (by decide) z z z (.inr ⟨_,1,z⟩) (by simpa using u37) (by decide) (fun a159 c160=>(k3 ?_)))))
   refine TA.know (isSl_nestX (q:=1) z zf123) (fun ⟨hs161,hs161b⟩=> ?_)
   refine TA.b 11 z (OpVal.index z underlying71 sz23 z z hs161 u38.1 u38.2) z (TA.front 1 z z (TA.front 1 z z ?_))
   have hn163:(l120.set (((nth x0.arcs k124 Arc.zero).frm).toNat) ((nth l120 (((nth x0.arcs k124 Arc.zero).frm).toNat) ([]:List Arc))++[(nth x0.arcs k124 Arc.zero)])).length=(List.replicate x0.states.toNat ([]:List Arc)).length:=(List.length_set ..).trans hn121
   refine TA.ac 12 rfl (storeX (l':=((nth l120 (((nth x0.arcs k124 Arc.zero).frm).toNat) ([]:List Arc))++[(nth x0.arcs k124 Arc.zero)])) rfl sz23 rfl rfl rfl rfl rfl (by rw [zf123.len];omega) zf123 (fun zf162=>(k2 ?_)))
   exact TA.dn (B.n (S.n (cf ((),(z122.set (((nth x0.arcs k124 Arc.zero).frm).toNat) (((nth l120 (((nth x0.arcs k124 Arc.zero).frm).toNat) ([]:List Arc))++[(nth x0.arcs k124 Arc.zero)]),(a159,c160)))) ⟨hh,hn163,zf162⟩ (Sub.f [3] 2))))
  skip
  obtain ⟨_,z128⟩:=g
  obtain ⟨hh,hn127,zf129⟩:=hg
  try dsimp only at hn127 zf129 ⊢
  dsimp only [D4_]at hh
  have hn127b:=hn127
  have zf129b:=zf129.len
  refine TC.know (isSl_nest (q:=1) z zf129) (fun ⟨_,hb164⟩=> ?_)
  refine TC.region (TL.w z (OpVal.succ z z z (by omega)) (TL.i z z (TL.en ?_)))
  obtain ⟨hh,hlt165⟩:=nxt_x hR1 hh
  exact lf (((l120.set (((nth x0.arcs k124 Arc.zero).frm).toNat) ((nth l120 (((nth x0.arcs k124 Arc.zero).frm).toNat) ([]:List Arc))++[(nth x0.arcs k124 Arc.zero)])),(k124+1)),z128) hlt165 ⟨hh,hn127,zf129⟩ (Sub.f [1,1] 2)
 refine TC.exit (S.x (S.x ?_))
 replace hh:=fin_x hR1 hh
 refine TC.exitHere (S.n (TC.a (TL.op z (makeMapB (enc:=(fun x=>Value.agg (encFPair x).toArray)) (encV:=unitV) z z z (fun b166=> ?_)))))
 refine TL.w z (moveMap (.inr z) z) (TL.en (TC.seq (TC.a (TL.w z (fieldLoc z fo25_1 z) (TL.w z (loadLoc z ag22 z (i:=1) z z) (TL.w z (lenC z underlying22 z) (TL.i z z (TL.en (TC.block (TC.loopG (α:=((FM FPair Unit)×Nat)×(Unit)) (rgs [(11,1),(55,12)]) (fun g=>[(55,.int .i64 ((g.1.2:Nat):Int))]) (fun g=>[Res.cells b101 #[.int .i64 x0.states,.slice a0_0 x0.starts.length c0_0,.slice a0_1 x0.ends.length c0_1,.slice a0_2 x0.arcs.length c0_2] 25,Res.nest 23 66 8 encArc (.slice a105 (List.replicate x0.states.toNat ([]:List Arc)).length c106) z122,Res.mapB (fun x=>Value.agg (encFPair x).toArray) unitV (some b166) g.1.1]) (fun g=>σ) (fun g=>iter (fun q:(FM FPair Unit)×Nat=>Bo_ x0 x1 l120 q.1 q.2) g.1=some r∧l120.length=(List.replicate x0.states.toNat ([]:List Arc)).length∧Zn z122 l120) (fun g=>rounds (fun q:(FM FPair Unit)×Nat=>Bo_ x0 x1 l120 q.1 q.2) g.1) (((FM.emp:FM FPair Unit),0),()) (Sub.f [2,2] 3) z (by repeat (first|exact trivial|refine ⟨z,?_⟩)) ⟨hh,hn121,zf123⟩ (fun g2 j2 hg2=> ?_)))))))))))
 obtain ⟨⟨m180,k181⟩,_⟩:=g2
 obtain ⟨hh,hn178,zf179⟩:=hg2
 try dsimp only at hn178 zf179 ⊢
 obtain ⟨z1,hh,hR1⟩:=iter_e hh
 dsimp only [Bo_]at hh
 have hn178b:=hn178
 have zf179b:=zf179.len
 refine TC.know (isSl_nest (q:=1) z zf179) (fun ⟨_,hb182⟩=> ?_)
 refine TC.a (TL.w z (OpVal.lss z z z) (TL.en (TC.seq (TC.cD z hh (fun h183 hh=> ?_) (fun h183 hh=> ?_)))))
 ·refine TC.skip (S.n (TC.seq (TC.block (TC.a (TL.w z (indexN z underlying22 sz76 z z f0_0.rv.sl (by omega)) (TL.w z (loadSA Tip.zero z ag76 sz76 z f0_0 (by omega) (by omega)) (TL.op z (OpOk.alloc z ze76 z z (fun b184=> ?_)))))))))
  refine TL.op z (storeAll z sz76 z z z z z z ?_)
  refine TL.en (TC.region (TL.w z (moveMap (.inl z) z) (TL.w z (fieldLoc z fo76_0 z) (TL.w z (loadLoc z ag3 z (i:=0) z z) (TL.w z (fieldLoc z fo76_1 z) (TL.w z (loadLoc z ag9 z (i:=0) z z) (TL.w z (buildL z pl104 ze104 z) (TL.w z (buildL z pl102 ze102 z) (TL.front 3 z z (TL.op z (updB (⟨(nth x0.starts k181 Tip.zero).state,(nth x0.starts k181 Tip.zero).out⟩:FPair) () z underlying101 z z z z kl104 ?_)))))))))))
  refine TL.nil (B.n (S.n (TC.region (TL.w z (OpVal.succ z z z (by omega)) (TL.i z z (TL.en ?_))))))
  obtain ⟨hh,hlt186⟩:=nxt_x hR1 hh
  exact lf (((m180.put (⟨(nth x0.starts k181 Tip.zero).state,(nth x0.starts k181 Tip.zero).out⟩:FPair) ()),(k181+1)),()) hlt186 ⟨hh,hn178,zf179⟩ (Sub.f [3,3] 3)
 refine TC.exit (S.x (S.x ?_))
 replace hh:=fin_x hR1 hh
 refine TC.exitHere (S.n (TC.seq (TC.a (TL.w z (moveStr (.inl z) z) (TL.w z (lenBs z underlying9 z) (TL.i z z (TL.en (TC.block ?_))))))))
 rw [←hn178]
 refine TC.front 1 z z (TC.seals (fun w h=>Reach.sealNest encArc_len zf179 h) (fun τ206 hle205 hr204=> ?_))
 replace f0_1:=f0_1.mono hle205
 have hr204b:=hr204.big
 refine TC.loopG (α:=((FM FPair Unit)×Nat)×((Option Nat)×Store)) (rgs [(4,2),(9,1),(12,3),(69,16)]) (fun g=>[(9,.map g.2.1),(69,.int .i64 ((g.1.2:Nat):Int))]) (fun g=>[Res.cells b101 #[.int .i64 x0.states,.slice a0_0 x0.starts.length c0_0,.slice a0_1 x0.ends.length c0_1,.slice a0_2 x0.arcs.length c0_2] 25,Res.mapB (fun x=>Value.agg (encFPair x).toArray) unitV g.2.1 g.1.1]) (fun g=>g.2.2) (fun g=>iter (fun q:(FM FPair Unit)×Nat=>A8_ x1 l120 x0 q.1 q.2) g.1=some r∧RZ g.2.2 (pkSl 8 encArc encArc_len) (.slice a105 l120.length c106) l120∧Store.le τ206 g.2.2) (fun g=>rounds (fun q:(FM FPair Unit)×Nat=>A8_ x1 l120 x0 q.1 q.2) g.1) ((m180,0),((some b166),τ206)) (Sub.f [1,1] 2) z (by repeat (first|exact trivial|refine ⟨z,?_⟩)) ⟨hh,hr204,(Store.le.refl _)⟩ (fun g3 j3 hg3=> ?_)
 obtain ⟨⟨m201,k203⟩,⟨b202,τ207⟩⟩:=g3
 obtain ⟨hh,hr199,hle208⟩:=hg3
 try dsimp only at hr199
 dsimp only at hle208
 replace f0_1:=f0_1.mono hle208
 try dsimp only
 obtain ⟨z1,hh,hR1⟩:=iter_e hh
 dsimp only [A8_]at hh
 have hr199b:=hr199.big
 refine TC.a (TL.w z (OpVal.lss z z z) (TL.en (TC.seq (TC.cD z hh (fun h209 hh=> ?_) (fun h209 hh=> ?_)))))
 ·refine TC.skip (S.n (TC.seq (TC.block (TC.a (TL.i z z (TL.i z z (TL.en (TC.a (TL.s z z (TL.w z (moveMap (.inl z) z) (TL.w z (moveStr (.inl z) z) (TL.i z z (TL.w z (indexBs z underlying9 z z (by omega)) (TL.front 1 z z ?_))))))))))))))
  obtain ⟨v74,u74,hh⟩:=bnd_e hh
  refine TL.op z (OpOk.call (Fb_ hr199 u74) z z pf62 z z z z ?_)
  rintro _ _ _ hle210 ⟨b210_1,rfl,rfl,rfl⟩
  refine TL.w z (moveT (.inl z) z) (TL.w z (OpVal.extract z z z) (TL.w z (OpVal.extract z z z) (TL.w z (moveMap (.inr z) z) (TL.j z z (TL.en (TC.seq (TC.a (TL.j z z (TL.w z (OpVal.not z z) (TL.en (TC.cB z hh (fun h212 hh=> ?_) (fun h212 hh=> ?_))))))))))))
  ·refine TC.a (TL.s z z (TL.i z z (TL.en (TC.rt 0 (S.r (B.r (S.r (S.r ?_))))))))
   replace hh:=fin_x hR1 hh
   refine B.r (S.r ?_)
   obtain rfl:=so hh
   exact rq [4,5] ⟨none,0,z,(RS.nilF _ eS_ eSl_),z⟩
  refine TC.skip (S.n (TC.region (TL.w z (moveMap (.inl z) z) (TL.w z (moveMap (.inr z) z) (TL.nil (B.n (S.n (TC.region (TL.w z (OpVal.succ z z z (by omega)) (TL.i z z (TL.en ?_)))))))))))
  obtain ⟨hh,hlt213⟩:=nxt_x hR1 hh
  exact lf ((v74.1,(k203+1)),(b210_1,τ207)) hlt213 ⟨hh,hr199,hle208⟩ (Sub.f [1] 2)
 refine TC.exit (S.x (S.x ?_))
 replace hh:=fin_x hR1 hh
 refine TC.exitHere (S.n (TC.a (TL.w z (fieldLoc z fo25_0 z) (TL.w z (loadLoc z ag3 z (i:=0) z z) ?_))))
 have u90:=grd_c hh
 replace hh:=grd_t hh
 refine TL.op rfl (makeN (q:=x0.states.toNat) (E:=9) (size:=1) (enc:=eS_) rfl underlying28 sz30 by30 ze30 rfl rfl (vN u90.1) (vN u90.1) (by omega) (by decide) rfl (fun a214 c215 zf216=> ?_))
 refine TL.s z z (TL.en (TC.seq (TC.a (TL.w z (fieldLoc z fo25_2 z) (TL.w z (loadLoc z ag22 z (i:=1) z z) (TL.w z (lenC z underlying22 z) (TL.i z z (TL.en (TC.block (TC.loopG (α:=((List (List (List UInt8)))×Nat)×((List (NP (List UInt8))))) (rgs [(17,1),(91,18)]) (fun g=>[(91,.int .i64 ((g.1.2:Nat):Int))]) (fun g=>[Res.mapB (fun x=>Value.agg (encFPair x).toArray) unitV b202 m201,Res.nest 30 9 1 eS_ (.slice a214 (List.replicate x0.states.toNat ([]:List (List UInt8))).length c215) g.2]) (fun g=>τ207) (fun g=>iter (fun q:(List (List (List UInt8)))×Nat=>Bn_ x0 m201 q.1 q.2) g.1=some r∧g.1.1.length=(List.replicate x0.states.toNat ([]:List (List UInt8))).length∧Zn g.2 g.1.1) (fun g=>rounds (fun q:(List (List (List UInt8)))×Nat=>Bn_ x0 m201 q.1 q.2) g.1) (((List.replicate x0.states.toNat ([]:List (List UInt8))),0),(List.replicate x0.states.toNat (nilN:NP (List UInt8)))) (Sub.f [2] 2) z (by repeat (first|exact trivial|refine ⟨z,?_⟩)) ⟨hh,z,zf216⟩ (fun g4 j4 hg4=> ?_)))))))))))
 obtain ⟨⟨l229,k233⟩,z231⟩:=g4
 obtain ⟨hh,hn230,zf232⟩:=hg4
 try dsimp only at hn230 zf232 ⊢
 obtain ⟨z1,hh,hR1⟩:=iter_e hh
 dsimp only [Bn_]at hh
 have hn230b:=hn230
 have zf232b:=zf232.len
 refine TC.know (isSl_nest (q:=1) z zf232) (fun ⟨_,hb234⟩=> ?_)
 refine TC.a (TL.w z (OpVal.lss z z z) (TL.en (TC.seq (TC.cD z hh (fun h235 hh=> ?_) (fun h235 hh=> ?_)))))
 ·refine TC.skip (S.n (TC.cutG (α:=(Unit)×((List (NP (List UInt8))))) (rgs [(17,1),(93,15)]) (fun g=>[]) (fun g=>[Res.mapB (fun x=>Value.agg (encFPair x).toArray) unitV b202 m201,Res.nest 30 9 1 eS_ (.slice a214 (List.replicate x0.states.toNat ([]:List (List UInt8))).length c215) g.2]) (fun g=>τ207) (fun g=>D5_ l229 x0 k233=some z1∧(l229.set (((nth x0.ends k233 Tip.zero).state).toNat) ((nth l229 (((nth x0.ends k233 Tip.zero).state).toNat) ([]:List (List UInt8)))++[(nth x0.ends k233 Tip.zero).out])).length=(List.replicate x0.states.toNat ([]:List (List UInt8))).length∧Zn g.2 (l229.set (((nth x0.ends k233 Tip.zero).state).toNat) ((nth l229 (((nth x0.ends k233 Tip.zero).state).toNat) ([]:List (List UInt8)))++[(nth x0.ends k233 Tip.zero).out]))) ?_ (fun g j hg=> ?_)))
  ·skip
   refine TC.block (TC.a (TL.w z (indexN z underlying22 sz76 z z f0_1.rv.sl (by omega)) (TL.w z (loadSA Tip.zero z ag76 sz76 z f0_1 (by omega) (by omega)) (TL.op z (OpOk.alloc z ze76 z z (fun b239=> ?_))))))
   refine TL.op z (storeAll z sz76 z z z z z z ?_)
   refine TL.en ?_
   have u107:=grd_c hh
   replace hh:=grd_t hh
   have u112:=grd_c hh
   replace hh:=grd_t hh
   have u113:=grd_c hh
   replace hh:=grd_t hh
   refine TC.drawR (Hr:=[Res.cells b239 #[.int .i64 ((nth x0.ends k233 Tip.zero).state),.string (bs ((nth x0.ends k233 Tip.zero).out))] 76,Res.mapB (fun x=>Value.agg (encFPair x).toArray) unitV b202 m201]) (fun r hr=>mem_pick [0,1] z hr) [] (by kernel_rfl) (TA.a 0 z (moveSl (.inl z) z) z (TA.a 1 z (fieldLoc z fo76_0 z) z (TA.b 2 z (loadLoc z ag3 z (i:=0) z z) z (TA.a 3 z (moveSl (.inl z) z) z (TA.a 4 z (fieldLoc z fo76_0 z) z (TA.b 5 z (loadLoc z ag3 z (i:=0) z z) z (TA.know (isSl_nest (q:=2) z zf232) (fun ⟨hs252,hs252b⟩=> ?_))))))))
   refine TA.b 6 z (OpVal.index z underlying28 sz30 z z hs252 u107.1 u107.2) z (TA.a 8 z (fieldLoc z fo76_1 z) z (TA.b 9 z (loadLoc z ag9 z (i:=0) z z) z ?_))
   obtain ⟨p253,hz253,hm253⟩:=Zn.at zf232 (i:=((nth x0.ends k233 Tip.zero).state).toNat) (by omega)
   refine TA.actN [7,10] (by kernel_rfl) (an z z (OpVal.ok (loadN z ag30 z (q:=2) z hz253 hm253) z z ⟨(fun w h=>sees_of (Store.le.refl _) (fun r hr=>mem_pick [0,1] z hr) w h),?_⟩) (an z z (OpOk.lit (enc:=eS_) [(nth x0.ends k233 Tip.zero).out] z underlying30 sz9 ze9 z z z eSl_ (by decide) (by decide) ([]:List UInt8) z (by decide) z (by decide) eSo_ (fun a254 c255=>⟨(fun w h=>sees_of (Store.le.refl _) (fun r hr=>mem_pick [1,2] z hr) w h),?_⟩)) (True.intro)))
   ·skip
    refine TA.ac 10 z (OpOk.lit (enc:=eS_) [(nth x0.ends k233 Tip.zero).out] z underlying30 sz9 ze9 z z z eSl_ (by decide) (by decide) ([]:List UInt8) z (by decide) z (by decide) eSo_ (fun a257 c258=>⟨(fun w h=>sees_of (Store.le.refl _) (fun r hr=>mem_pick [1,2] z hr) w h),?_⟩))
    refine TA.front 3 z z (TA.by (fun w h=>Reach.takeN hz253 hm253 h) (TA.ac 11 z (appendS z z underlying30 sz9 by9 ze9 z z (by decide) z z z (.inr ⟨_,1,z⟩) (by simpa using u112) (by decide) (fun a261 c262=>(k3 ?_)))))
    refine TA.know (isSl_nestX (q:=1) z zf232) (fun ⟨hs263,hs263b⟩=> ?_)
    refine TA.b 12 z (OpVal.index z underlying28 sz30 z z hs263 u113.1 u113.2) z (TA.front 1 z z (TA.front 1 z z ?_))
    have hn265:(l229.set (((nth x0.ends k233 Tip.zero).state).toNat) ((nth l229 (((nth x0.ends k233 Tip.zero).state).toNat) ([]:List (List UInt8)))++[(nth x0.ends k233 Tip.zero).out])).length=(List.replicate x0.states.toNat ([]:List (List UInt8))).length:=(List.length_set ..).trans hn230
    refine TA.ac 13 rfl (storeX (l':=((nth l229 (((nth x0.ends k233 Tip.zero).state).toNat) ([]:List (List UInt8)))++[(nth x0.ends k233 Tip.zero).out])) rfl sz30 rfl rfl rfl rfl rfl (by rw [zf232.len];omega) zf232 (fun zf264=>(k2 ?_)))
    exact TA.dn (B.n (S.n (cf ((),(z231.set (((nth x0.ends k233 Tip.zero).state).toNat) (((nth l229 (((nth x0.ends k233 Tip.zero).state).toNat) ([]:List (List UInt8)))++[(nth x0.ends k233 Tip.zero).out]),(a261,c262)))) ⟨hh,hn265,zf264⟩ (Sub.f [3] 2))))
   skip
   obtain ⟨p266,hz266,hm266⟩:=Zn.at zf232 (i:=((nth x0.ends k233 Tip.zero).state).toNat) (by omega)
   refine TA.ac 7 z (OpVal.ok (loadN z ag30 z (q:=3) z hz266 hm266) z z ⟨(fun w h=>sees_of (Store.le.refl _) (fun r hr=>mem_pick [1,2] z hr) w h),?_⟩)
   refine TA.front 3 z z (TA.by (fun w h=>Reach.takeN hz266 hm266 h) (TA.ac 11 z (appendS z z underlying30 sz9 by9 ze9 z z (by decide) z z z (.inr ⟨_,1,z⟩) (by simpa using u112) (by decide) (fun a268 c269=>(k3 ?_)))))
   refine TA.know (isSl_nestX (q:=1) z zf232) (fun ⟨hs270,hs270b⟩=> ?_)
   refine TA.b 12 z (OpVal.index z underlying28 sz30 z z hs270 u113.1 u113.2) z (TA.front 1 z z (TA.front 1 z z ?_))
   have hn272:(l229.set (((nth x0.ends k233 Tip.zero).state).toNat) ((nth l229 (((nth x0.ends k233 Tip.zero).state).toNat) ([]:List (List UInt8)))++[(nth x0.ends k233 Tip.zero).out])).length=(List.replicate x0.states.toNat ([]:List (List UInt8))).length:=(List.length_set ..).trans hn230
   refine TA.ac 13 rfl (storeX (l':=((nth l229 (((nth x0.ends k233 Tip.zero).state).toNat) ([]:List (List UInt8)))++[(nth x0.ends k233 Tip.zero).out])) rfl sz30 rfl rfl rfl rfl rfl (by rw [zf232.len];omega) zf232 (fun zf271=>(k2 ?_)))
   exact TA.dn (B.n (S.n (cf ((),(z231.set (((nth x0.ends k233 Tip.zero).state).toNat) (((nth l229 (((nth x0.ends k233 Tip.zero).state).toNat) ([]:List (List UInt8)))++[(nth x0.ends k233 Tip.zero).out]),(a268,c269)))) ⟨hh,hn272,zf271⟩ (Sub.f [3] 2))))
  skip
  obtain ⟨_,z237⟩:=g
  obtain ⟨hh,hn236,zf238⟩:=hg
  try dsimp only at hn236 zf238 ⊢
  dsimp only [D5_]at hh
  have hn236b:=hn236
  have zf238b:=zf238.len
  refine TC.know (isSl_nest (q:=1) z zf238) (fun ⟨_,hb273⟩=> ?_)
  refine TC.region (TL.w z (OpVal.succ z z z (by omega)) (TL.i z z (TL.en ?_)))
  obtain ⟨hh,hlt274⟩:=nxt_x hR1 hh
  exact lf (((l229.set (((nth x0.ends k233 Tip.zero).state).toNat) ((nth l229 (((nth x0.ends k233 Tip.zero).state).toNat) ([]:List (List UInt8)))++[(nth x0.ends k233 Tip.zero).out])),(k233+1)),z237) hlt274 ⟨hh,hn236,zf238⟩ (Sub.f [1,1] 2)
 refine TC.exit (S.x (S.x ?_))
 replace hh:=fin_x hR1 hh
 refine TC.exitHere (S.n (TC.a (TL.s z z (TL.en (TC.seq (TC.a (TL.w z (moveMap (.inl z) z) (TL.op z (rangeB z underlying101 z z z (fun it275 l276 hl277=> ?_))))))))))
 refine TL.en (TC.block (TC.nilS 9 1 eS_ (TC.loopG (α:=((List (List UInt8)))×((Option Addr)×Nat×(List (FPair×Unit))×(Option (FPair×Unit)))) (rgs [(18,2),(21,1),(111,22)]) (fun g=>[(18,.slice g.2.1 g.1.length g.2.2.1)]) (fun g=>[Res.nest 30 9 1 eS_ (.slice a214 (List.replicate x0.states.toNat ([]:List (List UInt8))).length c215) z231,Res.rowS 9 1 eS_ (.slice g.2.1 g.1.length g.2.2.1) g.1,Res.rng (fun x=>Value.agg (encFPair x).toArray) unitV b202 it275 m201 g.2.2.2.1 g.2.2.2.2]) (fun g=>τ207) (fun g=>runA (fun (q:(List (List UInt8))) (oE:Option (FPair×Unit))=>Bm_ l229 q oE) g.2.2.2.1 g.1=some r∧l229.length=(List.replicate x0.states.toNat ([]:List (List UInt8))).length∧Zn z231 l229) (fun g=>List.length g.2.2.2.1) (([]:List (List UInt8)),(none,0,l276,none)) (Sub.f [1,1,2] 3) z (by repeat (first|exact trivial|refine ⟨z,?_⟩)) ⟨(runA_of hh hl277),hn230,zf232⟩ (fun g5 j5 hg5=> ?_))))
 obtain ⟨l299,⟨a300,c301,l302,o303⟩⟩:=g5
 obtain ⟨hh,hn296,zf297⟩:=hg5
 try dsimp only at hn296 zf297 ⊢
 have hn296b:=hn296
 have zf297b:=zf297.len
 refine TC.know (isSl_nest (q:=0) z zf297) (fun ⟨_,hb305⟩=> ?_)
 refine TC.isSl (i:=1) z (fun _ hb306 _=> ?_)
 refine TC.a (TL.front 2 z z (TL.op z (nextB (T:=0) z z z z z (fun hl307=> ?_) (fun l308 v120c l309 hl307=> ?_))))
 ·subst hl307
  obtain ⟨z1,hh,hR1⟩:=runA_end hh
  dsimp only [Bm_,optE_none]at hh
  refine TL.by (fun w h=>Reach.unrng h) (TL.w z (OpVal.extract z z z) (TL.en (TC.seq (TC.f z (TC.exit (S.x (S.x ?_)))))))
  replace hh:=finE_x hR1 hh
  refine TC.exitHere (S.n (TC.a (TL.s z z (TL.front 2 z z (TL.sealS eSl_ (fun τ312 hle311 hr310=> ?_))))))
  have hr310b:=hr310.rv.big
  obtain ⟨v148,u148,hh⟩:=bnd_e hh
  refine TL.op z (OpOk.call (Fv_ hr310 u148) z z pf63 z z z z ?_)
  rintro _ _ _ hle313 ⟨a313_1,c313_1,rfl,rfl,rfl⟩
  refine TL.s z z (TL.i z z (TL.en (TC.sealS eSl_ (fun τ317 hle316 hr315=> ?_))))
  have hr315b:=hr315.rv.big
  refine TC.rt 0 ?_
  obtain rfl:=so hh
  exact rq [4,5] ⟨a313_1,c313_1,z,hr315,z⟩
 subst hl307
 obtain ⟨z1,hh,hR1⟩:=runA_step hh
 dsimp only [Bm_,optE_some]at hh
 refine TL.w z (OpVal.extract z z z) (TL.en (TC.seq (TC.t z (TC.skip (S.n (TC.block (TC.a (TL.w z (OpVal.of (entryB z z (i:=0) z) (v':= .tuple #[.agg #[.int .i64 v120c.1.state,.string (bs v120c.1.out)],.agg #[]]) z) (TL.w z (OpVal.extract z z z) (TL.op z (OpOk.alloc z ze104 z z (fun b318=> ?_))))))))))))
 refine TL.op z (storeAll z sz104 z z z z z z ?_)
 refine TL.en (TC.a (TL.s z z (TL.w z (fieldLoc z fo104_0 z) (TL.w z (loadLoc z ag3 z (i:=0) z z) ?_))))
 have u129:=grd_c hh
 replace hh:=grd_t hh
 refine TL.know (isSl_nest (q:=2) z zf297) (fun ⟨hs320,hs320b⟩=> ?_)
 refine TL.w z (OpVal.index z underlying28 sz30 z z hs320 u129.1 u129.2) ?_
 obtain ⟨p321,hz321,hm321⟩:=Zn.at zf297 (i:=v120c.1.state.toNat) (by omega)
 refine TL.w z (loadN z ag30 z (q:=2) z hz321 hm321) (TL.w z (lenC z underlying30 z) (TL.i z z (TL.en (TC.block (TC.loopG (α:=((List (List UInt8))×Nat)×((Option Addr)×Nat)) (rgs [(18,1),(21,1),(121,12)]) (fun g=>[(18,.slice g.2.1 g.1.1.length g.2.2),(121,.int .i64 ((g.1.2:Nat):Int))]) (fun g=>[Res.nest 30 9 1 eS_ (.slice a214 (List.replicate x0.states.toNat ([]:List (List UInt8))).length c215) z231,Res.rowS 9 1 eS_ (.slice g.2.1 g.1.1.length g.2.2) g.1.1,Res.cells b318 #[.int .i64 v120c.1.state,.string (bs v120c.1.out)] 104,Res.rng (fun x=>Value.agg (encFPair x).toArray) unitV b202 it275 m201 (l308++l309) (some v120c)]) (fun g=>τ207) (fun g=>iter (fun q:(List (List UInt8))×Nat=>Br_ l229 v120c q.1 q.2) g.1=some z1∧l229.length=(List.replicate x0.states.toNat ([]:List (List UInt8))).length∧Zn z231 l229) (fun g=>rounds (fun q:(List (List UInt8))×Nat=>Br_ l229 v120c q.1 q.2) g.1) ((l299,0),(a300,c301)) (Sub.f [1,1,3,3] 4) z (by repeat (first|exact trivial|refine ⟨z,?_⟩)) ⟨hh,hn296,zf297⟩ (fun g6 j6 hg6=> ?_))))))
 obtain ⟨⟨l338,k341⟩,⟨a339,c340⟩⟩:=g6
 obtain ⟨hh,hn336,zf337⟩:=hg6
 try dsimp only at hn336 zf337 ⊢
 obtain ⟨z2,hh,hR2⟩:=iter_e hh
 dsimp only [Br_]at hh
 have hn336b:=hn336
 have zf337b:=zf337.len
 refine TC.know (isSl_nest (q:=0) z zf337) (fun ⟨_,hb342⟩=> ?_)
 refine TC.isSl (i:=1) z (fun _ hb343 _=> ?_)
 refine TC.a (TL.w z (OpVal.lss z z z) (TL.en (TC.seq (TC.cD z hh (fun h344 hh=> ?_) (fun h344 hh=> ?_)))))
 ·refine TC.skip (S.n (TC.seq (TC.block (TC.a (TL.know (isSl_inner (q:=0) z hz321 hm321) (fun ⟨hs345,hs345b⟩=> ?_))))))
  refine TL.w z (indexN z underlying30 sz9 z z hs345 (by omega)) (TL.w z (OpVal.seen (sees_inner (q:=0) z hz321 hm321) (loadO1 ([]:List UInt8) z ag9 z (q:=0) z eSl_ (by omega) z)) (TL.w z (moveStr (.inr z) z) (TL.en (TC.region (TL.s z z (TL.w z (fieldLoc z fo104_1 z) (TL.w z (loadLoc z ag9 z (i:=2) z z) (TL.w z (moveStr (.inl z) z) ?_))))))))
  have u141:=grd_c hh
  replace hh:=grd_t hh
  refine TL.w z (catBs z z z u141) (TL.op z (OpOk.lit (enc:=eS_) [(v120c.1.out++(nth (nth l229 v120c.1.state.toNat ([]:List (List UInt8))) k341 ([]:List UInt8)))] z underlying30 sz9 ze9 z z z eSl_ (by decide) (by decide) ([]:List UInt8) z (by decide) z (by decide) eSo_ (fun a346 c347=> ?_)))
  refine TL.front 2 z z ?_
  have u143:=grd_c hh
  replace hh:=grd_t hh
  refine TL.op z (appendS z z underlying30 sz9 by9 ze9 z z (by decide) z z z (.inr ⟨_,0,z⟩) (by simpa using u143) (by decide) (fun a349 c350=> ?_))
  refine TL.s z z (TL.nil (B.n (S.n (TC.region (TL.w z (OpVal.succ z z z (by omega)) (TL.i z z (TL.en ?_)))))))
  obtain ⟨hh,hlt351⟩:=nxt_x hR2 hh
  exact lf (((l338++[(v120c.1.out++(nth (nth l229 v120c.1.state.toNat ([]:List (List UInt8))) k341 ([]:List UInt8)))]),(k341+1)),(a349,c350)) hlt351 ⟨hh,hn336,zf337⟩ (Sub.f [4,4,2,4] 4)
 refine TC.exit (S.x (S.x ?_))
 replace hh:=fin_x hR2 hh
 refine TC.exitHere (B.n (S.n ?_))
 replace hh:=nxtA_x hR1 hh
 exact lf (l338,(a339,c340,(l308++l309),(some v120c))) (by simp) ⟨hh,hn336,zf337⟩ (Sub.f [3,2,2] 3)
end Go.Proofs.YtchebnpdnfhenaaGreatDoor
end

noncomputable section
namespace Go.E
open Go
structure Dfa where
  cls:List Int
  next:List (List Int)
  fin:List Bool
def Dfa.zero:Dfa:=⟨[],[],[]⟩
structure DfaP where
  a1:Option Addr
  c1:Nat
  a2:Option Addr
  c2:Nat
  a3:Option Addr
  c3:Nat
def DfaP.zero:DfaP:=⟨none,0,none,0,none,0⟩
structure RDfa (σ:Store) (x:Dfa) (p:DfaP):Prop where
  c:RS σ 1 eI_ (.slice p.a1 x.cls.length p.c1) x.cls
  n:RZ σ (pkSl 1 eI_ eIl_) (.slice p.a2 x.next.length p.c2) x.next
  e:RS σ 1 encB (.slice p.a3 x.fin.length p.c3) x.fin
end Go.E
end

noncomputable section
namespace Go.E
open Go
structure Seq where
  front:List UInt8
  next:List (List Int)
  outs:List (List (List UInt8))
  fin:List Bool
  tail:List (List UInt8)
def Seq.zero:Seq:=⟨[],[],[],[],[]⟩
structure SeqP where
  a1:Option Addr
  c1:Nat
  a2:Option Addr
  c2:Nat
  a3:Option Addr
  c3:Nat
  a4:Option Addr
  c4:Nat
def SeqP.zero:SeqP:=⟨none,0,none,0,none,0,none,0⟩
structure RSeq (σ:Store) (x:Seq) (p:SeqP):Prop where
  n:RZ σ (pkSl 1 eI_ eIl_) (.slice p.a1 x.next.length p.c1) x.next
  o:RZ σ (pkSl 1 eS_ eSl_) (.slice p.a2 x.outs.length p.c2) x.outs
  e:RS σ 1 encB (.slice p.a3 x.fin.length p.c3) x.fin
  t:RS σ 1 eS_ (.slice p.a4 x.tail.length p.c4) x.tail
def Seq.enc(x:Seq)(p:SeqP):List Value:=[.string (bs x.front),.slice p.a1 x.next.length p.c1,.slice p.a2 x.outs.length p.c2,.slice p.a3 x.fin.length p.c3,.slice p.a4 x.tail.length p.c4]
structure Rule where
  of:Dfa
  left:Dfa
  right:Dfa
  out:List UInt8
  mapped:Bool
  by':Seq
def Rule.zero:Rule:=⟨Dfa.zero,Dfa.zero,Dfa.zero,[],false,Seq.zero⟩
structure RuleP where
  of:DfaP
  left:DfaP
  right:DfaP
  by':SeqP
def RuleP.zero:RuleP:=⟨DfaP.zero,DfaP.zero,DfaP.zero,SeqP.zero⟩
structure RRule (σ:Store) (x:Rule) (p:RuleP):Prop where
  o:RDfa σ x.of p.of
  l:RDfa σ x.left p.left
  r:RDfa σ x.right p.right
  b:RSeq σ x.by' p.by'
structure SB where
  buf:List UInt8
structure Turned where
  b:SB
  at':List Span
structure How where
  r:Rule
structure Piece where
  text:List UInt8
  at':List Span
def Piece.zero:Piece:=⟨[],[]⟩
end Go.E
end

noncomputable section
namespace Go.E
open Go
def GT{α:Type}(σ:Store)(g:Nat)(enc:α→List Value)(l:List α):Prop:= ∃E,σ g=some (.cells (l.flatMap enc).toArray E)
theorem GT.mono{α:Type}{σ τ:Store}{g:Nat}{enc:α→List Value}{l:List α}(h:GT σ g enc l)(hle:σ.le τ):GT τ g enc l:=let ⟨E,h⟩:=h;⟨E,hle _ _ h⟩
theorem flat_one{α:Type}{enc:α→List Value}(hl: ∀x,(enc x).length=1)(d:α): ∀(l:List α) (i:Nat),i<l.length→(l.flatMap enc)[i]? =(enc (nth l i d))[0]?
  |[],i,h=>by simp at h
  |x::l,0,_=>by
    have:=hl x
    rw [List.flatMap_cons,List.getElem?_append_left (by omega)]
    simp [nth]
  |x::l,i+1,h=>by
    have h1:=hl x
    rw [List.flatMap_cons,List.getElem?_append_right (by omega),h1,Nat.add_sub_cancel,flat_one hl d l i (by simpa using h)]
    simp [nth]
def deB:List UInt8:=[0,1,56,2,57,49,28,3,61,58,42,50,38,29,17,4,62,47,59,36,45,43,51,22,53,39,33,30,24,18,12,5,63,55,48,27,60,41,37,16,46,35,44,21,52,32,23,11,54,26,40,15,34,20,31,10,25,14,19,9,13,8,7,6]
end Go.E
end

noncomputable section
namespace Go.E
open Go
def badV(u:Bool)(b:Nat):Value:=match u with|true=>loc b 0|false=> .pointer none
theorem cells_shape{b E:Nat}{cs:Array Value}{w:World}(h:(Res.cells b cs E).holds w):w.shape? b=some (E,cs.size):=by
  have h1:w.heap[b]? =some (.cells cs E (0,0)):=h
  simp [World.shape?,h1]
section
variable {P:Program} {n:Nat} {e:Env} {σ:Store} {H:List Res} {o:Oper} {x y:Operand}
theorem OpVal.cvtUns{S T t b E i sz m:Nat}{cs:Array Value}(ho:o.op= .convert S T x)(hS:P.underlying S=some (.pointer t))(hT:P.underlying T=some .unsafePointer)(hs:szOf P t=some sz)(h0:sz≠0)
    (hx:ev e x=loc b 0) (hi:H[i]? =some (Res.cells b cs E)) (hm:cs.size=m) (hc:0<m):OpVal P n o e σ H (loc b 0):=fun w hw=>by
  obtain ⟨j,hj,hjs⟩:=szOf_info hs
  have hsh:=cells_shape (hw.2 _ (List.mem_of_getElem? hi))
  have h:=Lib.run_to_unsafe (P:=P) (w:=w) (cells:=cs.size) ⟨b,0,none⟩ hS hT hj (by rw [hjs];exact h0) hsh (by rw [hm];exact hc)
  simp [execOp,ho,hx,loc,h]
theorem OpVal.cvtPtr{S T t b E i sz m:Nat}{cs:Array Value}(ho:o.op= .convert S T x)(hS:P.underlying S=some .unsafePointer)(hT:P.underlying T=some (.pointer t))(hs:szOf P t=some sz)
    (hx:ev e x=loc b 0) (hi:H[i]? =some (Res.cells b cs E)) (hm:cs.size=m) (hl:liesAt P P.depth E (m / P.cellsOf E) 0 t 1=true):OpVal P n o e σ H (loc b 0):=fun w hw=>by
  obtain ⟨j,hj,hjs⟩:=szOf_info hs
  have hsh:=cells_shape (hw.2 _ (List.mem_of_getElem? hi))
  have h:=Lib.run_from_unsafe (P:=P) (w:=w) (cells:=cs.size) ⟨b,0,none⟩ hS hT hj hsh (by rw [hm];exact hl)
  simp [execOp,ho,hx,loc,h]
theorem OpVal.noEsc{p : Operand}{ts : Array TypeId}{J : FuncId}{fn : Func}{v : Value}(ho : o.op = .call { callee := .value x, args := #[p], argTypes := ts })(hx : ev e x = .func (.func J) #[] #[])(hf : P.funcs[J]? = some fn)(hname : (fn.name == "runtime.NumGoroutine") = false)
    (hb:fn.body.isNone=true) (hn:Extern.findNext fn=none) (he:Extern.find fn=some Extern.AbiNoEscape.same) (hp:ev e p=v):OpVal P n o e σ H v:=fun w _=>by
  have h:=run_callFunc_extern hf hname hb hn he #[v] w
  rw [Lib.run_noEscape]at h
  simp [execOp,ho,resolve,Deferred.ofValue,invoke,hx,hp,h,Result.andThen]
theorem OpVal.neqSelf{T T' t b sz:Nat}(ho:o.op= .binOp .neq T x y T')(hT:P.underlying T=some (.pointer t))(hs:szOf P t=some sz)(hx:ev e x=loc b 0)(hy:ev e y=loc b 0):OpVal P n o e σ H (.bool false):=fun w _=>by
  obtain ⟨j,hj,_⟩:=szOf_info hs
  have h:=Lib.run_neq_ptr_same (P:=P) (w:=w) ⟨b,0,none⟩ hT hj
  simp only [execOp,ho,hx,hy,loc,Sem.run_bind,run_eqGuard_ptr,Result.andThen_ok]
  rw [h];rfl
end
theorem strCells_bs(l:List UInt8):Lib.strCells (bs l)=l.flatMap encU8:=by
  have h: ∀l:List UInt8,l.map (fun b=>Value.int IntKind.u8 ((b.toNat:Nat):Int))=l.flatMap encU8:=fun l=>by
    induction l with
    |nil=>rfl
    |cons x l ih=>rw [List.map_cons,List.flatMap_cons,ih];rfl
  simp [Lib.strCells,bs]
  exact h l
theorem appendS_blk {P : Program} {w w' : World} (base : Nat) (t u ty e : TypeId) (i : TypeInfo) (ht : P.underlying t = some (.slice e)) (hu : P.underlying u = some .string) (hi : P.info? e = some i) (hz : i.zero = some (.int .u8 0))
    (hsize:i.size=1) (hby:i.bytes=1) {v v':Value} {n:Nat} {xs:List Value} (hown:w.ownsRow base e 1 v n xs) (s:ByteArray)
    (h63:n+s.size≤maxLen) (hbytes:n+s.size≤140737488355328) (hrun:(Builtin.append_ #[t,u] ty #[v,.string s]).run P w= .ok v' w'):
    (v'.ownBlock=v.ownBlock∨v'.ownBlock=some w.heap.size)∧w.drawn≤w'.drawn:=by
  have hsmall:n+s.size≤9223372036854775807:=by simp only [maxLen]at h63;omega
  have hxl:xs.length=n:=by simpa using hown.1
  rcases hown.2 with ⟨rfl,rfl⟩|⟨g,cap,cur,rfl,hbg,hg,hnc,hcm,hcs,htake⟩
  · by_cases hm:s.size=0
    · have hf:=Lib.run_firstCells_string (P:=P) (w:=w) 1 s
      rw [hm]at hf
      have hr:(Builtin.append_ #[t,u] ty #[.slice none 0 0,.string s]).run P w= .ok (.slice none 0 0) w:=by
        simp [Builtin.append_,run_underlying ht,run_underlying hu,sizeOf,typeInfo,hi,hsize,Builtin.lenOf,hm,hf]
      rw [hrun]at hr;cases hr;exact ⟨.inl rfl,Nat.le_refl _⟩
    have hr:=run_append_nil_string (P:=P) w t u ty e i (.int .u8 0) ht hu hi hz s (by omega) (by omega) (by rw [hby];omega)
    rw [hrun]at hr;cases hr;exact ⟨.inr rfl,Nat.le_succ _⟩
  by_cases hroom:n+s.size≤cap
  · have hcs':cur.size=cap:=by simpa using hcs
    have hr:=Lib.run_append_room_string (P:=P) (w:=w) t u ty e i ht hu hi hsize g n cap cur hg s hroom (by omega)
    rw [hrun]at hr;cases hr;exact ⟨.inl rfl,Nat.le_refl _⟩
  have holds: ∀j u,xs[j]? =some u→w.cell? ((⟨g,0,none⟩:Addr).add j)=some u:=hown.cells (g:=g) rfl
  have hr:=Lib.run_append_grow_string (P:=P) (w:=w) t u ty e i (.int .u8 0) ht hu hi hz ⟨g,0,none⟩ n cap xs (by rw [hsize];simpa using hxl) holds s (by omega) (by omega) (by rw [hby];exact growslice_fits (by omega) (by omega))
  rw [hrun]at hr;cases hr;exact ⟨.inr rfl,Nat.le_succ _⟩
theorem OpOk.appendStr{X:Ctx}{e:Env}{F:List Res}{o:Oper}{x y:Operand}{K:Env→Store→List Res→Prop}{T ty E d:Nat}{v:Value}{l m:List UInt8}
    (ho:o.op= .call {callee:= .builtin .append,args:= #[x,y],argTypes:= #[T,ty]}) (ht:X.P.underlying T=some (.slice E)) (hu:X.P.underlying ty=some .string) (hs:szOf X.P E=some 1) (hby:byOf X.P E=some 1) (hz:zeroOf X.P E=some (.int .u8 0))
    (hd:o.dst=some d) (hn:Nat.blt d X.n=true) (hx:ev e x=v) (hy:ev e y= .string (bs m)) (hb:l.length+m.length≤140737488355328)
    (k: ∀a c,K (upd e d (.slice a (l++m).length c)) σ (Res.rowS E 1 encU8 (.slice a (l++m).length c) (l++m)::F)):OpOk X o e σ (Res.rowS E 1 encU8 v l::F) K:=by
  obtain ⟨i,hi,hsi⟩:=szOf_info hs
  have hiz:i.zero=some (.int .u8 0):=by simpa [zeroOf,hi]using hz
  have hib:i.bytes=1:=by simpa [byOf,hi]using hby
  intro u0 C0 τ0 w a hw ha K' Q hK
  obtain ⟨hown,hone,hbg⟩:=hw.holds _ (List.mem_cons_self ..)
  have hsz:(bs m).size=m.length:=by show (bs m).data.size=_;simp [bs]
  have h1:l.length+(bs m).size≤maxLen:=by rw [hsz];unfold maxLen;omega
  have h2:l.length+(bs m).size≤140737488355328:=by rw [hsz];exact hb
  obtain ⟨v',w',hr,hown',hg,_⟩:=Lib.run_append_own_string (P:=X.P) (w:=w) 0 T ty o.type E i ht hu hi hiz hsi hib v l.length _ hown (bs m) h1 h2 (Nat.zero_le _)
  obtain ⟨hblk,hdr⟩:=appendS_blk 0 T ty o.type E i ht hu hi hiz hsi hib hown (bs m) h1 h2 hr
  rw [hsz,strCells_bs,←List.flatMap_append,←List.length_append]at hown'
  have hbk: ∀b,v'.ownBlock=some b→v.ownBlock=some b∨w.heap.size≤b:=fun b hb=>by
    rcases hblk with h|h
    · exact .inl (h▸hb)
    rw [h]at hb;cases hb;exact .inr (Nat.le_refl _)
  have hR:Reach u0 C0 τ0 σ w' (Res.rowS E 1 encU8 v' (l++m)::F):=
    hw.turn1 (Value.ownBlock v) (Value.ownBlock v') rfl rfl hg.os hg.tape hg.output hg.size hdr (fun q hq hne=>hg.block q hq (fun hx=>hne hx.symm)) ⟨hown',fun q hq=>by
      obtain ⟨z,_,hz⟩:=List.mem_flatMap.1 hq
      exact encU8_one z q hz,by rw [List.length_append];omega⟩ hbk
  obtain ⟨av,cv,rfl,_,_⟩:=isSl_row hown'
  refine Oper.wp_of_run (w':=w') (v:= .slice av (l++m).length cv) ?_ (hK _ _ _ _ _ (k av cv) hR (put_dst ha hd hn _))
  rw [ha.eval']
  simp [execOp,ho,resolve,invoke,builtin,hx,hy,hr]
def Res.any (o : Option Nat) : Res where
  bl:=o.toList
  holds w:= ∀b,o=some b→b<w.heap.size
  lt w b hb h:=h b (by simpa using hb)
  keep w w' hb h:=fun b e=>by
    have h1:=h b e
    have h2:=hb b (by rw [e];simp)
    rw [Array.getElem?_eq_getElem h1]at h2
    exact (Array.getElem?_eq_some_iff.1 h2).1
def SDat(v:Value)(l:List UInt8)(q:Option Addr):Prop:=l≠[]→ ∃g c,v= .slice (some ⟨g,0,none⟩) l.length c∧q=some ⟨g,0,none⟩
theorem OpOk.sliceDat{X:Ctx}{e:Env}{F:List Res}{o:Oper}{x:Operand}{K:Env→Store→List Res→Prop}{T E d D:Nat}{v:Value}{l:List UInt8}
    (ho:o.op= .call {callee:= .builtin .unsafeSliceData,args:= #[x],argTypes:= #[T]}) (hD:o.type=D) (hp:X.P.underlying D=some (.pointer E)) (hd:o.dst=some d) (hn:Nat.blt d X.n=true) (hx:ev e x=v)
    (k: ∀q,SDat v l q→K (upd e d (.pointer q)) σ (Res.rowS E 1 encU8 v l::F)):OpOk X o e σ (Res.rowS E 1 encU8 v l::F) K:=by
  subst hD
  intro u0 C0 τ0 w a hw ha K' Q hK
  obtain ⟨hown,hone,hbg⟩:=hw.holds _ (List.mem_cons_self ..)
  rcases id hown.2 with ⟨rfl,hl⟩|⟨g,cap,cur,rfl,_,hg,hnc,hcm,hcs,htake⟩
  · have hl0:l=[]:=List.eq_nil_of_length_eq_zero hl
    have hr:=Lib.run_unsafeSliceData_nil (P:=X.P) (w:=w) #[T] o.type 0 0
    refine Oper.wp_of_run (w':=w) (v:= .pointer none) ?_ (hK _ _ _ _ _ (k none (fun h=>absurd hl0 h)) hw (put_dst ha hd hn _))
    rw [ha.eval']
    simp [execOp,ho,resolve,invoke,builtin,hx,hr]
  by_cases hc:cap=0
  · subst hc
    have hl0:l=[]:=List.eq_nil_of_length_eq_zero (by omega)
    have hsh:w.shape? g=some (E,cur.size):=by simp [World.shape?,hg]
    have hr:=Lib.run_unsafeSliceData_zero (P:=X.P) (w:=w) #[T] o.type E hp ⟨g,0,none⟩ l.length (E,cur.size) hsh
    have hR:Reach u0 C0 τ0 σ (w.alloc (.view ⟨g,0,none⟩ E)) (Res.any none::Res.rowS E 1 encU8 (.slice (some ⟨g,0,none⟩) l.length 0) l::F):=
      hw.gain1 none rfl rfl rfl rfl (by simp) (Nat.le_refl _) (fun k hk=>alloc_old w _ k hk) (fun b hb=>by cases hb) (fun b hb=>by cases hb)
    refine Oper.wp_of_run (w':=w.alloc (.view ⟨g,0,none⟩ E)) (v:= .pointer (some ⟨w.heap.size,0,none⟩)) ?_ (hK _ _ _ _ _ (k _ (fun h=>absurd hl0 h)) (hR.sub (List.sublist_cons_self _ _)) (put_dst ha hd hn _))
    rw [ha.eval']
    simp [execOp,ho,resolve,invoke,builtin,hx,hr]
  have hr:=Lib.run_unsafeSliceData_row (P:=X.P) (w:=w) #[T] o.type ⟨g,0,none⟩ l.length cap hc
  refine Oper.wp_of_run (w':=w) (v:= .pointer (some ⟨g,0,none⟩)) ?_ (hK _ _ _ _ _ (k _ (fun _=>⟨g,cap,rfl,rfl⟩)) hw (put_dst ha hd hn _))
  rw [ha.eval']
  simp [execOp,ho,resolve,invoke,builtin,hx,hr]
theorem OpOk.unsStr{X:Ctx}{e:Env}{F:List Res}{o:Oper}{x y:Operand}{K:Env→Store→List Res→Prop}{T I E d:Nat}{v:Value}{l:List UInt8}{q:Option Addr}
    (ho:o.op= .call {callee:= .builtin .unsafeString,args:= #[x,y],argTypes:= #[T,I]}) (hp:X.P.underlying T=some (.pointer E)) (hcE:X.P.cellsOf E=1) (hd:o.dst=some d) (hn:Nat.blt d X.n=true) (hx:ev e x= .pointer q) (hq:SDat v l q) (hy:ev e y= .int .i64 (l.length:Nat))
    (k:K (upd e d (.string (bs l))) σ F):OpOk X o e σ (Res.rowS E 1 encU8 v l::F) K:=by
  intro u0 C0 τ0 w a hw ha K' Q hK
  obtain ⟨hown,hone,hbg⟩:=hw.holds _ (List.mem_cons_self ..)
  by_cases hl:l=[]
  · subst hl
    have hr:=Lib.run_unsafeString_none (P:=X.P) (w:=w) T I o.type q
    refine Oper.wp_of_run (w':=w) (v:= .string (bs [])) ?_ (hK _ _ _ _ _ k (hw.sub (List.sublist_cons_self _ _)) (put_dst ha hd hn _))
    rw [ha.eval']
    simp [execOp,ho,resolve,invoke,builtin,hx,hy,hr]
    rfl
  obtain ⟨g,c,rfl,rfl⟩:=hq hl
  rcases id hown.2 with ⟨hv,_⟩|⟨g',cap,cur,hv,_,hg,hnc,hcm,hcs,htake⟩
  · cases hv
  cases hv
  have hsh:w.shape? g=some (E,cur.size):=by simp [World.shape?,hg]
  have hr:=Lib.run_unsafeString_row (P:=X.P) (w:=w) T I o.type E hp hcE g cur.size hsh l hl (by omega) (by unfold maxLen at hcm;omega) (fun j z hz=>by
    refine hown.cells (g:=g) rfl j (.int .u8 z.toNat) ?_
    have hj:j<l.length:=(List.getElem?_eq_some_iff.1 hz).1
    rw [flat_one (enc:=encU8) (fun _=>rfl) (0:UInt8) l j hj]
    have h4:=getD_some l hj (0:UInt8)
    rw [hz]at h4
    rw [←Option.some.inj h4];rfl)
  have hln: ¬ l.length=0:=fun h=>hl (List.eq_nil_of_length_eq_zero h)
  have hfz: ∀b,b≠g→(w.freeze ⟨g,0,none⟩ l.length).heap[b]? =w.heap[b]? :=fun b hb=>by
    unfold World.freeze
    rw [if_neg hln]
    simp only [Array.getElem?_modify]
    rw [if_neg (fun h=>hb h.symm)]
  have hsz:(w.freeze ⟨g,0,none⟩ l.length).heap.size=w.heap.size:=by
    unfold World.freeze
    rw [if_neg hln];simp
  have hos:(w.freeze ⟨g,0,none⟩ l.length).os=w.os∧(w.freeze ⟨g,0,none⟩ l.length).tape=w.tape∧(w.freeze ⟨g,0,none⟩ l.length).output=w.output∧(w.freeze ⟨g,0,none⟩ l.length).drawn=w.drawn:=by
    unfold World.freeze
    rw [if_neg hln];exact ⟨rfl,rfl,rfl,rfl⟩
  have hgl:g<w.heap.size:=(Array.getElem?_eq_some_iff.1 hg).1
  have hR:Reach u0 C0 τ0 σ (w.freeze ⟨g,0,none⟩ l.length) (Res.any (some g)::F):=
    hw.turn1 (some g) (some g) rfl rfl hos.1 hos.2.1 hos.2.2.1 (by rw [hsz];exact Nat.le_refl _) (by rw [hos.2.2.2];exact Nat.le_refl _) (fun k hk hne=>hfz k (fun h=>hne (by rw [h]))) (fun b hb=>by cases hb;rw [hsz];exact hgl) (fun b hb=> .inl hb)
  refine Oper.wp_of_run (w':=w.freeze ⟨g,0,none⟩ l.length) (v:= .string (bs l)) ?_ (hK _ _ _ _ _ k (hR.sub (List.sublist_cons_self _ _)) (put_dst ha hd hn _))
  rw [ha.eval']
  simp [execOp,ho,resolve,invoke,builtin,hx,hy,hr]
  rfl
end Go.E
end

noncomputable section
namespace Go.Proofs.YtchebnpdnfhenaaGreatDoor
open Go Go.E Go.E.OpVal Go.E.OpOk Go.Proofs.Tryz
theorem ag27:aggOf Tryz.prog 27=some false:=by kernel_rfl
theorem ag28:aggOf Tryz.prog 28=some false:=by kernel_rfl
theorem ag29:aggOf Tryz.prog 29=some false:=by kernel_rfl
theorem ag32:aggOf Tryz.prog 32=some true:=by kernel_rfl
theorem ag60:aggOf Tryz.prog 60=some false:=by kernel_rfl
theorem ag86:aggOf Tryz.prog 86=some false:=by kernel_rfl
theorem ag90:aggOf Tryz.prog 90=some false:=by kernel_rfl
theorem by5:byOf Tryz.prog 5=some 1:=by kernel_rfl
theorem ce5:Tryz.prog.cellsOf 5=1:=by kernel_rfl
theorem fo32_0:foOf Tryz.prog 32 0=some 0:=by kernel_rfl
theorem fo32_1:foOf Tryz.prog 32 1=some 1:=by kernel_rfl
theorem fo32_2:foOf Tryz.prog 32 2=some 2:=by kernel_rfl
theorem fo32_3:foOf Tryz.prog 32 3=some 3:=by kernel_rfl
theorem fo32_4:foOf Tryz.prog 32 4=some 4:=by kernel_rfl
theorem fo92_0:foOf Tryz.prog 92 0=some 0:=by kernel_rfl
theorem fo92_1:foOf Tryz.prog 92 1=some 1:=by kernel_rfl
theorem pf23:plainF Tryz.prog 23=true:=by kernel_rfl
theorem pf53:plainF Tryz.prog 53=true:=by kernel_rfl
theorem pf54:plainF Tryz.prog 54=true:=by kernel_rfl
theorem pf60:plainF Tryz.prog 60=true:=by kernel_rfl
theorem pf94:plainF Tryz.prog 94=true:=by kernel_rfl
theorem sz32:szOf Tryz.prog 32=some 5:=by kernel_rfl
theorem sz60:szOf Tryz.prog 60=some 1:=by kernel_rfl
theorem sz86:szOf Tryz.prog 86=some 1:=by kernel_rfl
theorem sz90:szOf Tryz.prog 90=some 1:=by kernel_rfl
theorem sz92:szOf Tryz.prog 92=some 2:=by kernel_rfl
theorem ze92:zeroOf Tryz.prog 92=some (.agg #[.pointer none,.slice none 0 0]):=by kernel_rfl
def Cw_(k105:Nat):Option ((Nat)⊕(Bool)):=
 nxt (k105+1)
def B4_(x0:List Int)(x2:Int)(x1:List (List UInt8))(k105:Nat):Option ((Nat)⊕(Bool)):=
 iteO (decide (((k105:Nat):Int)<((x0.length:Nat):Int))) (iteO (decide ((nth x0 k105 (0:Int))<(-1))) (fin (some false)) (iteO (decide (x2≤(nth x0 k105 (0:Int)))) (fin (some false)) (grd (k105<x1.length) (iteO (decide (4096<(((nth x1 k105 ([]:List UInt8)).length:Nat):Int))) (fin (some false)) (iteO (decide ((nth x0 k105 (0:Int))=(-1))) (grd (k105<x1.length) (iteO (decide ((nth x1 k105 ([]:List UInt8))≠([]:List UInt8))) (fin (some false)) (Cw_ k105))) (Cw_ k105)))))) (fin (some true))
def D8_(x0:List Int)(x1:List (List UInt8))(x2:Int):Option (Bool):=
 iteO (decide (((x0.length:Nat):Int)≠256)) (some false) (iteO (decide (((x1.length:Nat):Int)≠256)) (some false) (iter (fun q:Nat=>B4_ x0 x2 x1 q) 0))
theorem Fe_{x0:List Int}{x1:List (List UInt8)}{x2:Int}(f0_0:RS σ 1 eI_ (.slice a0_0 x0.length c0_0) x0)(f1_0:RS σ 1 eS_ (.slice a1_0 x1.length c1_0) x1){r:Bool}(hh:D8_ x0 x1 x2=some r):
  Con Tryz.prog 60 #[.slice a0_0 x0.length c0_0,.slice a1_0 x1.length c1_0,.int .i64 x2] σ [] (PureP (.bool r) σ):=by
 dsimp only [D8_]at hh
 have f0_0b:=f0_0.rv.big
 have f1_0b:=f1_0.rv.big
 refine Con.mk (n:=51) Tryz.func60 z z z (fun w0=> ?_)
 refine TC.a (TL.j z z (TL.en (TC.seq (TC.a (TL.s z z (TL.w z (lenC z underlying86 z) (TL.w z (OpVal.neq z z z) (TL.j z z (TL.split 12 z (fun h101=> ?_) (fun h101=> ?_))))))))))
 ·replace hh:=iteO_t h101 hh
  replace h101:=of_decide_eq_true h101
  refine TL.f z (TL.f z (TL.f z (TL.w z (pickTB z z z) (TL.en (TC.t z (TC.a (TL.j z z (TL.en (TC.ret (S.r ?_))))))))))
  obtain rfl:=so hh
  exact rq [6] ⟨z,z,z⟩
 replace hh:=iteO_f h101 hh
 replace h101:=of_decide_eq_false h101
 refine TL.g z (moveSl (.inl z) z) (TL.g z (lenC z underlying30 z) (TL.g z (OpVal.neq z z z) (TL.w z (pickFB z z z) (TL.en (TC.cD z hh (fun h102 hh=> ?_) (fun h102 hh=> ?_))))))
 ·refine TC.a (TL.j z z (TL.en (TC.ret (S.r ?_))))
  obtain rfl:=so hh
  exact rq [6] ⟨z,z,z⟩
 refine TC.skip (S.n (TC.seq (TC.a (TL.s z z (TL.w z (lenC z underlying86 z) (TL.i z z (TL.en (TC.block (TC.loopG (α:=(Nat)×(Unit)) (rgs [(6,3),(19,32)]) (fun g=>[(19,.int .i64 ((g.1:Nat):Int))]) (fun g=>[]) (fun g=>σ) (fun g=>iter (fun q:Nat=>B4_ x0 x2 x1 q) g.1=some r) (fun g=>rounds (fun q:Nat=>B4_ x0 x2 x1 q) g.1) (0,()) (Sub.pre 0 z) z (by repeat (first|exact trivial|refine ⟨z,?_⟩)) hh (fun g1 j1 hg1=> ?_))))))))))
 obtain ⟨k105,_⟩:=g1
 have hh:=hg1;clear hg1
 try dsimp only
 obtain ⟨z1,hh,hR1⟩:=iter_e hh
 dsimp only [B4_]at hh
 refine TC.a (TL.w z (OpVal.lss z z z) (TL.en (TC.seq (TC.cD z hh (fun h106 hh=> ?_) (fun h106 hh=> ?_)))))
 ·refine TC.skip (S.n (TC.cutG (α:=(Unit)×(Unit)) (rgs [(6,3),(21,29)]) (fun g=>[]) (fun g=>[]) (fun g=>σ) (fun g=>Cw_ k105=some z1) ?_ (fun g j hg=> ?_)))
  ·skip
   refine TC.block (TC.a (TL.i z z (TL.w z (indexN z underlying86 sz3 z z f0_0.rv.sl (by omega)) (TL.w z (loadS1 (0:Int) z ag3 z f0_0 (by omega) z) (TL.i z z (TL.i z z (TL.en (TC.a (TL.i z z (TL.w z (OpVal.lss z z z) (TL.j z z (TL.split 26 z (fun h107=> ?_) (fun h107=> ?_)))))))))))))
   ·replace hh:=iteO_t h107 hh
    replace h107:=of_decide_eq_true h107
    refine TL.f z (TL.f z (TL.f z (TL.w z (pickTB z z z) (TL.j z z (TL.f z (TL.f z (TL.f z (TL.f z (TL.f z (TL.f z (TL.w z (pickTB z z z) (TL.j z z (TL.f z (TL.f z (TL.f z ?_)))))))))))))))
    refine TL.f z (TL.f z (TL.f z (TL.f z (TL.f z (TL.f z (TL.w z (pickTB z z z) (TL.en (TC.t z (TC.a (TL.j z z (TL.en (TC.ret (B.r (S.r (S.r ?_)))))))))))))))
    replace hh:=fin_x hR1 hh
    refine B.r (S.r ?_)
    obtain rfl:=so hh
    exact rq [6] ⟨z,z,z⟩
   replace hh:=iteO_f h107 hh
   replace h107:=of_decide_eq_false h107
   refine TL.g z (moveI (.inl z) z) (TL.g z (moveI (.inl z) z) (TL.g z (OpVal.geq z z z) (TL.w z (pickFB z z z) (TL.j z z (TL.split 31 z (fun h108=> ?_) (fun h108=> ?_))))))
   ·replace hh:=iteO_t h108 hh
    replace h108:=of_decide_eq_true h108
    refine TL.f z (TL.f z (TL.f z (TL.f z (TL.f z (TL.f z (TL.w z (pickTB z z z) (TL.j z z (TL.f z (TL.f z (TL.f z (TL.f z (TL.f z (TL.f z (TL.f z (TL.f z ?_)))))))))))))))
    refine TL.f z (TL.w z (pickTB z z z) (TL.en (TC.t z (TC.a (TL.j z z (TL.en (TC.ret (B.r (S.r (S.r ?_))))))))))
    replace hh:=fin_x hR1 hh
    refine B.r (S.r ?_)
    obtain rfl:=so hh
    exact rq [6] ⟨z,z,z⟩
   replace hh:=iteO_f h108 hh
   replace h108:=of_decide_eq_false h108
   refine TL.g z (moveSl (.inl z) z) (TL.g z (moveI (.inl z) z) ?_)
   have u30:=grd_c hh
   replace hh:=grd_t hh
   refine TL.g z (indexN z underlying30 sz9 z z f1_0.rv.sl (by omega)) (TL.g z (loadS1 ([]:List UInt8) z ag9 z f1_0 (by omega) z) (TL.g z (lenBs z underlying9 z) (TL.g z (OpVal.gtr z z z) (TL.w z (pickFB z z z) (TL.j z z (TL.split 39 z (fun h109=> ?_) (fun h109=> ?_)))))))
   ·replace hh:=iteO_t h109 hh
    replace h109:=of_decide_eq_true h109
    refine TL.f z (TL.f z (TL.f z (TL.f z (TL.f z (TL.f z (TL.f z (TL.f z (TL.f z (TL.w z (pickTB z z z) (TL.en (TC.t z (TC.a (TL.j z z (TL.en (TC.ret ?_)))))))))))))))
    refine B.r (S.r (S.r ?_))
    replace hh:=fin_x hR1 hh
    refine B.r (S.r ?_)
    obtain rfl:=so hh
    exact rq [6] ⟨z,z,z⟩
   replace hh:=iteO_f h109 hh
   replace h109:=of_decide_eq_false h109
   refine TL.g z (moveI (.inl z) z) (TL.g z (OpVal.eql z z z) (TL.g z (moveB (.inl z) z) (TL.split 42 z (fun h110=> ?_) (fun h110=> ?_))))
   ·replace hh:=iteO_t h110 hh
    replace h110:=of_decide_eq_true h110
    refine TL.g z (moveSl (.inl z) z) (TL.g z (moveI (.inl z) z) ?_)
    have u41:=grd_c hh
    replace hh:=grd_t hh
    refine TL.g z (indexN z underlying30 sz9 z z f1_0.rv.sl (by omega)) (TL.g z (loadS1 ([]:List UInt8) z ag9 z f1_0 (by omega) z) (TL.g z (neqBs z z z) (TL.g z (pickTB z z z) (TL.w z (pickFB z z z) (TL.en (TC.cD z hh (fun h111 hh=> ?_) (fun h111 hh=> ?_)))))))
    ·refine TC.a (TL.j z z (TL.en (TC.ret (B.r (S.r (S.r ?_))))))
     replace hh:=fin_x hR1 hh
     refine B.r (S.r ?_)
     obtain rfl:=so hh
     exact rq [6] ⟨z,z,z⟩
    exact TC.skip (B.n (S.n (cf ((),()) hh (Sub.pre 0 z))))
   replace hh:=iteO_f h110 hh
   replace h110:=of_decide_eq_false h110
   exact TL.f z (TL.f z (TL.f z (TL.f z (TL.f z (TL.g z (pickFB z z z) (TL.w z (pickFB z z z) (TL.en (TC.f z (TC.skip (B.n (S.n (cf ((),()) hh (Sub.pre 0 z)))))))))))))
  skip
  obtain ⟨_,_⟩:=g
  have hh:=hg;clear hg
  try dsimp only
  dsimp only [Cw_]at hh
  refine TC.region (TL.w z (OpVal.succ z z z (by omega)) (TL.i z z (TL.en ?_)))
  obtain ⟨hh,hlt112⟩:=nxt_x hR1 hh
  exact lf ((k105+1),()) hlt112 hh (Sub.pre 0 z)
 refine TC.exit (S.x (S.x ?_))
 replace hh:=fin_x hR1 hh
 refine TC.exitHere (S.n (TC.a (TL.j z z (TL.en (TC.ret ?_)))))
 obtain rfl:=so hh
 exact rq [6] ⟨z,z,z⟩
def Be_(k112:Nat)(x0:Seq):Option ((Nat)⊕(Int)):=
 grd (k112<x0.outs.length) (bnd (D8_ (nth x0.next k112 ([]:List Int)) (nth x0.outs k112 ([]:List (List UInt8))) ((x0.next.length:Nat):Int)) (fun v85=>iteO (!v85) (fin (some 1)) (nxt (k112+1))))
def Bg_(x0:Seq)(k112:Nat):Option ((Nat)⊕(Int)):=
 iteO (decide (((k112:Nat):Int)<((x0.next.length:Nat):Int))) (grd (k112<x0.tail.length) (iteO (decide (4096<(((nth x0.tail k112 ([]:List UInt8)).length:Nat):Int))) (fin (some 1)) (grd (k112<x0.fin.length) (iteO (!(nth x0.fin k112 false)) (grd (k112<x0.tail.length) (iteO (decide ((nth x0.tail k112 ([]:List UInt8))≠([]:List UInt8))) (fin (some 1)) (Be_ k112 x0))) (Be_ k112 x0))))) (fin (some 0))
def B9_(x0:Seq):Option (Int):=
 iter (fun q:Nat=>Bg_ x0 q) 0
def C0_(x0:Seq):Option (Int):=
 iteO (decide (1024<((x0.next.length:Nat):Int))) (some 1) (iteO (decide (((x0.outs.length:Nat):Int)≠((x0.next.length:Nat):Int))) (some 1) (iteO (decide (((x0.fin.length:Nat):Int)≠((x0.next.length:Nat):Int))) (some 1) (iteO (decide (((x0.tail.length:Nat):Int)≠((x0.next.length:Nat):Int))) (some 1) (iteO (decide (4096<((x0.front.length:Nat):Int))) (some 1) (iteO (decide (((x0.next.length:Nat):Int)=0)) (iteO (decide (x0.front≠([]:List UInt8))) (some 1) (B9_ x0)) (B9_ x0))))))
theorem Ed_{x0:Seq}(f0_0:RZ σ (pkSl 1 eI_ eIl_) (.slice a0_0 x0.next.length c0_0) x0.next)(f0_1:RZ σ (pkSl 1 eS_ eSl_) (.slice a0_1 x0.outs.length c0_1) x0.outs)(f0_2:RS σ 1 encB (.slice a0_2 x0.fin.length c0_2) x0.fin)(f0_3:RS σ 1 eS_ (.slice a0_3 x0.tail.length c0_3) x0.tail){r:Int}(hh:C0_ x0=some r):
  Con Tryz.prog 23 #[.agg #[.string (bs x0.front),.slice a0_0 x0.next.length c0_0,.slice a0_1 x0.outs.length c0_1,.slice a0_2 x0.fin.length c0_2,.slice a0_3 x0.tail.length c0_3]] σ [] (PureP (.int .i64 r) σ):=by
 dsimp only [C0_]at hh
 have f0_0b:=f0_0.big
 have f0_1b:=f0_1.big
 have f0_2b:=f0_2.rv.big
 have f0_3b:=f0_3.rv.big
 refine Con.mk (n:=85) Tryz.func23 z z z (fun w0=> ?_)
 refine TC.a (TL.op z (boxA z z z z (fun b101=> ?_)))
 refine TL.i z z (TL.en (TC.a (TL.w z (fieldLoc z fo32_1 z) (TL.w z (loadLoc z ag27 z (i:=0) z z) (TL.w z (lenC z underlying27 z) (TL.i z z (TL.en (TC.seq (TC.a (TL.i z z (TL.w z (OpVal.gtr z z z) (TL.j z z (TL.split 10 z (fun h103=> ?_) (fun h103=> ?_))))))))))))))
 ·replace hh:=iteO_t h103 hh
  replace h103:=of_decide_eq_true h103
  refine TL.f z (TL.f z (TL.f z (TL.f z (TL.f z (TL.w z (pickTB z z z) (TL.j z z (TL.f z (TL.f z (TL.f z (TL.f z (TL.f z (TL.w z (pickTB z z z) (TL.j z z (TL.f z (TL.f z ?_)))))))))))))))
  refine TL.f z (TL.f z (TL.f z (TL.w z (pickTB z z z) (TL.en (TC.t z (TC.a (TL.i z z (TL.en (TC.rt 0 (S.r ?_))))))))))
  obtain rfl:=so hh
  exact rq [2] ⟨z,z,z⟩
 replace hh:=iteO_f h103 hh
 replace h103:=of_decide_eq_false h103
 refine TL.g z (fieldLoc z fo32_2 z) (TL.g z (loadLoc z ag28 z (i:=0) z z) (TL.g z (lenC z underlying28 z) (TL.g z (moveI (.inl z) z) (TL.g z (OpVal.neq z z z) (TL.w z (pickFB z z z) (TL.j z z (TL.split 17 z (fun h104=> ?_) (fun h104=> ?_))))))))
 ·replace hh:=iteO_t h104 hh
  replace h104:=of_decide_eq_true h104
  refine TL.f z (TL.f z (TL.f z (TL.f z (TL.f z (TL.w z (pickTB z z z) (TL.j z z (TL.f z (TL.f z (TL.f z (TL.f z (TL.f z (TL.w z (pickTB z z z) (TL.en (TC.t z (TC.a ?_)))))))))))))))
  refine TL.i z z (TL.en (TC.rt 0 (S.r ?_)))
  obtain rfl:=so hh
  exact rq [2] ⟨z,z,z⟩
 replace hh:=iteO_f h104 hh
 replace h104:=of_decide_eq_false h104
 refine TL.g z (fieldLoc z fo32_3 z) (TL.g z (loadLoc z ag29 z (i:=0) z z) (TL.g z (lenC z underlying29 z) (TL.g z (moveI (.inl z) z) (TL.g z (OpVal.neq z z z) (TL.w z (pickFB z z z) (TL.j z z (TL.split 24 z (fun h105=> ?_) (fun h105=> ?_))))))))
 ·replace hh:=iteO_t h105 hh
  replace h105:=of_decide_eq_true h105
  refine TL.f z (TL.f z (TL.f z (TL.f z (TL.f z (TL.w z (pickTB z z z) (TL.en (TC.t z (TC.a (TL.i z z (TL.en (TC.rt 0 (S.r ?_))))))))))))
  obtain rfl:=so hh
  exact rq [2] ⟨z,z,z⟩
 replace hh:=iteO_f h105 hh
 replace h105:=of_decide_eq_false h105
 refine TL.g z (fieldLoc z fo32_4 z) (TL.g z (loadLoc z ag30 z (i:=0) z z) (TL.g z (lenC z underlying30 z) (TL.g z (moveI (.inl z) z) (TL.g z (OpVal.neq z z z) (TL.w z (pickFB z z z) (TL.en (TC.cD z hh (fun h106 hh=> ?_) (fun h106 hh=> ?_))))))))
 ·refine TC.a (TL.i z z (TL.en (TC.rt 0 (S.r ?_))))
  obtain rfl:=so hh
  exact rq [2] ⟨z,z,z⟩
 refine TC.skip (S.n (TC.cutG (α:=(Unit)×(Unit)) (rgs [(2,1),(31,13)]) (fun g=>[]) (fun g=>[Res.cells b101 #[.string (bs x0.front),.slice a0_0 x0.next.length c0_0,.slice a0_1 x0.outs.length c0_1,.slice a0_2 x0.fin.length c0_2,.slice a0_3 x0.tail.length c0_3] 32]) (fun g=>σ) (fun g=>B9_ x0=some r) ?_ (fun g j hg=> ?_)))
 ·skip
  refine TC.a (TL.w z (fieldLoc z fo32_0 z) (TL.w z (loadLoc z ag9 z (i:=0) z z) (TL.w z (lenBs z underlying9 z) (TL.w z (OpVal.gtr z z z) (TL.j z z (TL.split 35 z (fun h107=> ?_) (fun h107=> ?_)))))))
  ·replace hh:=iteO_t h107 hh
   replace h107:=of_decide_eq_true h107
   refine TL.f z (TL.f z (TL.f z (TL.f z (TL.f z (TL.f z (TL.f z (TL.w z (pickTB z z z) (TL.en (TC.t z (TC.a (TL.i z z (TL.en (TC.rt 0 (S.r ?_))))))))))))))
   obtain rfl:=so hh
   exact rq [2] ⟨z,z,z⟩
  replace hh:=iteO_f h107 hh
  replace h107:=of_decide_eq_false h107
  refine TL.g z (moveI (.inl z) z) (TL.g z (OpVal.eql z z z) (TL.g z (moveB (.inl z) z) (TL.split 38 z (fun h108=> ?_) (fun h108=> ?_))))
  ·replace hh:=iteO_t h108 hh
   replace h108:=of_decide_eq_true h108
   refine TL.g z (fieldLoc z fo32_0 z) (TL.g z (loadLoc z ag9 z (i:=0) z z) (TL.g z (neqBs z z z) (TL.g z (pickTB z z z) (TL.w z (pickFB z z z) (TL.en (TC.cD z hh (fun h109 hh=> ?_) (fun h109 hh=> ?_)))))))
   ·refine TC.a (TL.i z z (TL.en (TC.rt 0 (S.r ?_))))
    obtain rfl:=so hh
    exact rq [2] ⟨z,z,z⟩
   exact TC.skip (S.n (cf ((),()) hh (Sub.pre 1 z)))
  replace hh:=iteO_f h108 hh
  replace h108:=of_decide_eq_false h108
  exact TL.f z (TL.f z (TL.f z (TL.g z (pickFB z z z) (TL.w z (pickFB z z z) (TL.en (TC.f z (TC.skip (S.n (cf ((),()) hh (Sub.pre 1 z))))))))))
 skip
 obtain ⟨_,_⟩:=g
 have hh:=hg;clear hg
 try dsimp only
 dsimp only [B9_]at hh
 refine TC.seq (TC.a (TL.i z z (TL.i z z (TL.en (TC.block (TC.loopG (α:=(Nat)×(Unit)) (rgs [(2,1),(4,1),(45,40)]) (fun g=>[(45,.int .i64 ((g.1:Nat):Int))]) (fun g=>[Res.cells b101 #[.string (bs x0.front),.slice a0_0 x0.next.length c0_0,.slice a0_1 x0.outs.length c0_1,.slice a0_2 x0.fin.length c0_2,.slice a0_3 x0.tail.length c0_3] 32]) (fun g=>σ) (fun g=>iter (fun q:Nat=>Bg_ x0 q) g.1=some r) (fun g=>rounds (fun q:Nat=>Bg_ x0 q) g.1) (0,()) (Sub.pre 1 z) z (by repeat (first|exact trivial|refine ⟨z,?_⟩)) hh (fun g1 j1 hg1=> ?_)))))))
 obtain ⟨k112,_⟩:=g1
 have hh:=hg1;clear hg1
 try dsimp only
 obtain ⟨z1,hh,hR1⟩:=iter_e hh
 dsimp only [Bg_]at hh
 refine TC.a (TL.w z (OpVal.lss z z z) (TL.en (TC.seq (TC.cD z hh (fun h113 hh=> ?_) (fun h113 hh=> ?_)))))
 ·refine TC.skip (S.n (TC.seq (TC.block (TC.a (TL.i z z (TL.i z z (TL.en (TC.cutG (α:=(Unit)×(Unit)) (rgs [(2,1),(48,23)]) (fun g=>[]) (fun g=>[Res.cells b101 #[.string (bs x0.front),.slice a0_0 x0.next.length c0_0,.slice a0_1 x0.outs.length c0_1,.slice a0_2 x0.fin.length c0_2,.slice a0_3 x0.tail.length c0_3] 32]) (fun g=>σ) (fun g=>Be_ k112 x0=some z1) ?_ (fun g j hg=> ?_)))))))))
  ·skip
   refine TC.a (TL.w z (fieldLoc z fo32_4 z) (TL.w z (loadLoc z ag30 z (i:=0) z z) (TL.i z z ?_)))
   have u53:=grd_c hh
   replace hh:=grd_t hh
   refine TL.w z (indexN z underlying30 sz9 z z f0_3.rv.sl (by omega)) (TL.w z (loadS1 ([]:List UInt8) z ag9 z f0_3 (by omega) z) (TL.w z (lenBs z underlying9 z) (TL.w z (OpVal.gtr z z z) (TL.j z z (TL.split 55 z (fun h114=> ?_) (fun h114=> ?_))))))
   ·replace hh:=iteO_t h114 hh
    replace h114:=of_decide_eq_true h114
    refine TL.f z (TL.f z (TL.f z (TL.f z (TL.f z (TL.f z (TL.f z (TL.f z (TL.f z (TL.f z (TL.f z (TL.f z (TL.f z (TL.f z (TL.w z (pickTB z z z) (TL.en ?_)))))))))))))))
    refine TC.t z (TC.a (TL.i z z (TL.en (TC.rt 0 (S.r (B.r (S.r (S.r ?_))))))))
    replace hh:=fin_x hR1 hh
    refine B.r (S.r ?_)
    obtain rfl:=so hh
    exact rq [2] ⟨z,z,z⟩
   replace hh:=iteO_f h114 hh
   replace h114:=of_decide_eq_false h114
   refine TL.g z (fieldLoc z fo32_3 z) (TL.g z (loadLoc z ag29 z (i:=0) z z) (TL.g z (moveI (.inl z) z) ?_))
   have u61:=grd_c hh
   replace hh:=grd_t hh
   refine TL.g z (indexN z underlying29 sz4 z z f0_2.rv.sl (by omega)) (TL.g z (loadS1 false z ag4 z f0_2 (by omega) z) (TL.g z (OpVal.not z z) (TL.g z (moveB (.inl z) z) (TL.split 62 z (fun h115=> ?_) (fun h115=> ?_)))))
   ·replace hh:=iteO_t h115 hh
    refine TL.g z (fieldLoc z fo32_4 z) (TL.g z (loadLoc z ag30 z (i:=0) z z) (TL.g z (moveI (.inl z) z) ?_))
    have u68:=grd_c hh
    replace hh:=grd_t hh
    refine TL.g z (indexN z underlying30 sz9 z z f0_3.rv.sl (by omega)) (TL.g z (loadS1 ([]:List UInt8) z ag9 z f0_3 (by omega) z) (TL.g z (neqBs z z z) (TL.g z (pickTB z z z) (TL.w z (pickFB z z z) (TL.en (TC.cD z hh (fun h116 hh=> ?_) (fun h116 hh=> ?_)))))))
    ·refine TC.a (TL.i z z (TL.en (TC.rt 0 (S.r (B.r (S.r (S.r ?_)))))))
     replace hh:=fin_x hR1 hh
     refine B.r (S.r ?_)
     obtain rfl:=so hh
     exact rq [2] ⟨z,z,z⟩
    exact TC.skip (S.n (cf ((),()) hh (Sub.pre 1 z)))
   replace hh:=iteO_f h115 hh
   exact TL.f z (TL.f z (TL.f z (TL.f z (TL.f z (TL.f z (TL.g z (pickFB z z z) (TL.w z (pickFB z z z) (TL.en (TC.f z (TC.skip (S.n (cf ((),()) hh (Sub.pre 1 z)))))))))))))
  skip
  obtain ⟨_,_⟩:=g
  have hh:=hg;clear hg
  try dsimp only
  dsimp only [Be_]at hh
  refine TC.seq ?_
  have u82:=grd_c hh
  replace hh:=grd_t hh
  obtain ⟨v85,u85,hh⟩:=bnd_e hh
  refine TC.draw [] (by kernel_rfl) (TA.a 0 z (fieldLoc z fo32_1 z) z (TA.b 1 z (loadLoc z ag27 z (i:=0) z z) z (TA.a 2 z (moveI (.inl z) z) z (TA.b 3 z (indexN z underlying27 sz86 z z f0_0.isSl (by omega)) z ?_))))
  obtain ⟨p119,hk119,hg119⟩:=RZ.seg f0_0 k112 (by omega)
  replace hk119:RS _ 1 eI_ (.slice p119.1 (nth x0.next k112 ([]:List Int)).length p119.2) (nth x0.next k112 ([]:List Int)):=hk119
  have hk119b:=hk119.rv.big
  refine TA.b 4 z (OpVal.of (loadSeg0 z ag86 z hg119 z) (v':= .slice p119.1 ((nth x0.next k112 ([]:List Int)).length) p119.2) z) z (TA.a 5 z (fieldLoc z fo32_2 z) z (TA.b 6 z (loadLoc z ag28 z (i:=0) z z) z (TA.a 7 z (moveI (.inl z) z) z (TA.b 8 z (indexN z underlying28 sz30 z z f0_1.isSl (by omega)) z ?_))))
  obtain ⟨p120,hk120,hg120⟩:=RZ.seg f0_1 k112 (by omega)
  replace hk120:RS _ 1 eS_ (.slice p120.1 (nth x0.outs k112 ([]:List (List UInt8))).length p120.2) (nth x0.outs k112 ([]:List (List UInt8))):=hk120
  have hk120b:=hk120.rv.big
  refine TA.b 9 z (OpVal.of (loadSeg0 z ag30 z hg120 z) (v':= .slice p120.1 ((nth x0.outs k112 ([]:List (List UInt8))).length) p120.2) z) z (TA.a 10 z (moveI (.inl z) z) z (TA.ac 11 z (callP (Fe_ hk119 hk120 u85) z z pf60 z z z (k0 ?_))))
  refine TA.a 12 z (OpVal.not z z) z (TA.dn (S.n (TC.cB z hh (fun h121 hh=> ?_) (fun h121 hh=> ?_))))
  ·refine TC.a (TL.i z z (TL.en (TC.rt 0 (B.r (S.r (S.r ?_))))))
   replace hh:=fin_x hR1 hh
   refine B.r (S.r ?_)
   obtain rfl:=so hh
   exact rq [2] ⟨z,z,z⟩
  refine TC.skip (B.n (S.n (TC.region (TL.w z (OpVal.succ z z z (by omega)) (TL.i z z (TL.en ?_))))))
  obtain ⟨hh,hlt122⟩:=nxt_x hR1 hh
  exact lf ((k112+1),()) hlt122 hh (Sub.pre 1 z)
 refine TC.exit (S.x (S.x ?_))
 replace hh:=fin_x hR1 hh
 refine TC.exitHere (S.n (TC.a (TL.i z z (TL.en (TC.rt 0 ?_)))))
 obtain rfl:=so hh
 exact rq [2] ⟨z,z,z⟩
def Aa_(x0:Seq)(k108:Nat)(i116:Int)(k117:Nat):Option ((Int×Nat)⊕((Nat)⊕(Bool))):=
 iteO (decide (((k117:Nat):Int)<(((nth x0.outs k108 ([]:List (List UInt8))).length:Nat):Int))) (nxt ((IntKind.i64.wrap (i116+(((nth (nth x0.outs k108 ([]:List (List UInt8))) k117 ([]:List UInt8)).length:Nat):Int))),(k117+1))) (fin (iteO (decide (20000<i116)) (fin (some false)) (nxt (k108+1))))
def Ae_(x0:Seq)(k108:Nat):Option ((Nat)⊕(Bool)):=
 iteO (decide (((k108:Nat):Int)<((x0.outs.length:Nat):Int))) (iteO (decide (300<(((nth x0.outs k108 ([]:List (List UInt8))).length:Nat):Int))) (fin (some false)) (iter (fun q:Int×Nat=>Aa_ x0 k108 q.1 q.2) (0,0))) (fin (some true))
def Bu_(x0:Seq):Option (Bool):=
 iteO (decide (12<((x0.next.length:Nat):Int))) (some false) (iteO (decide (13<((x0.outs.length:Nat):Int))) (some false) (iteO (decide (5000<((x0.front.length:Nat):Int))) (some false) (iter (fun q:Nat=>Ae_ x0 q) 0)))
theorem Eb_{x0:Seq}(f0_0:RZ σ (pkSl 1 eI_ eIl_) (.slice a0_0 x0.next.length c0_0) x0.next)(f0_1:RZ σ (pkSl 1 eS_ eSl_) (.slice a0_1 x0.outs.length c0_1) x0.outs)(f0_2:RS σ 1 encB (.slice a0_2 x0.fin.length c0_2) x0.fin)(f0_3:RS σ 1 eS_ (.slice a0_3 x0.tail.length c0_3) x0.tail){r:Bool}(hh:Bu_ x0=some r):
  Con Tryz.prog 18 #[.agg #[.string (bs x0.front),.slice a0_0 x0.next.length c0_0,.slice a0_1 x0.outs.length c0_1,.slice a0_2 x0.fin.length c0_2,.slice a0_3 x0.tail.length c0_3]] σ [] (PureP (.bool r) σ):=by
 dsimp only [Bu_]at hh
 have f0_0b:=f0_0.big
 have f0_1b:=f0_1.big
 have f0_2b:=f0_2.rv.big
 have f0_3b:=f0_3.rv.big
 refine Con.mk (n:=59) Tryz.func18 z z z (fun w0=> ?_)
 refine TC.a (TL.op z (boxA z z z z (fun b101=> ?_)))
 refine TL.j z z (TL.en (TC.seq (TC.a (TL.w z (fieldLoc z fo32_1 z) (TL.w z (loadLoc z ag27 z (i:=0) z z) (TL.w z (lenC z underlying27 z) (TL.w z (OpVal.gtr z z z) (TL.j z z (TL.split 10 z (fun h103=> ?_) (fun h103=> ?_))))))))))
 ·replace hh:=iteO_t h103 hh
  replace h103:=of_decide_eq_true h103
  refine TL.f z (TL.f z (TL.f z (TL.f z (TL.w z (pickTB z z z) (TL.j z z (TL.f z (TL.f z (TL.f z (TL.f z (TL.w z (pickTB z z z) (TL.en (TC.t z (TC.a (TL.j z z (TL.en ?_)))))))))))))))
  refine TC.rt 0 (S.r ?_)
  obtain rfl:=so hh
  exact rq [2] ⟨z,z,z⟩
 replace hh:=iteO_f h103 hh
 replace h103:=of_decide_eq_false h103
 refine TL.g z (fieldLoc z fo32_2 z) (TL.g z (loadLoc z ag28 z (i:=0) z z) (TL.g z (lenC z underlying28 z) (TL.g z (OpVal.gtr z z z) (TL.w z (pickFB z z z) (TL.j z z (TL.split 16 z (fun h104=> ?_) (fun h104=> ?_)))))))
 ·replace hh:=iteO_t h104 hh
  replace h104:=of_decide_eq_true h104
  refine TL.f z (TL.f z (TL.f z (TL.f z (TL.w z (pickTB z z z) (TL.en (TC.t z (TC.a (TL.j z z (TL.en (TC.rt 0 (S.r ?_)))))))))))
  obtain rfl:=so hh
  exact rq [2] ⟨z,z,z⟩
 replace hh:=iteO_f h104 hh
 replace h104:=of_decide_eq_false h104
 refine TL.g z (fieldLoc z fo32_0 z) (TL.g z (loadLoc z ag9 z (i:=0) z z) (TL.g z (lenBs z underlying9 z) (TL.g z (OpVal.gtr z z z) (TL.w z (pickFB z z z) (TL.en (TC.cD z hh (fun h105 hh=> ?_) (fun h105 hh=> ?_)))))))
 ·refine TC.a (TL.j z z (TL.en (TC.rt 0 (S.r ?_))))
  obtain rfl:=so hh
  exact rq [2] ⟨z,z,z⟩
 refine TC.skip (S.n (TC.seq (TC.a (TL.i z z (TL.en (TC.block (TC.loopG (α:=(Nat)×(Unit)) (rgs [(2,4),(22,37)]) (fun g=>[(3,.int .i64 ((g.1:Nat):Int))]) (fun g=>[Res.cells b101 #[.string (bs x0.front),.slice a0_0 x0.next.length c0_0,.slice a0_1 x0.outs.length c0_1,.slice a0_2 x0.fin.length c0_2,.slice a0_3 x0.tail.length c0_3] 32]) (fun g=>σ) (fun g=>iter (fun q:Nat=>Ae_ x0 q) g.1=some r) (fun g=>rounds (fun q:Nat=>Ae_ x0 q) g.1) (0,()) (Sub.pre 1 z) z (by repeat (first|exact trivial|refine ⟨z,?_⟩)) hh (fun g1 j1 hg1=> ?_))))))))
 obtain ⟨k108,_⟩:=g1
 have hh:=hg1;clear hg1
 try dsimp only
 obtain ⟨z1,hh,hR1⟩:=iter_e hh
 dsimp only [Ae_]at hh
 refine TC.seq (TC.a (TL.i z z (TL.w z (fieldLoc z fo32_2 z) (TL.w z (loadLoc z ag28 z (i:=0) z z) (TL.w z (lenC z underlying28 z) (TL.w z (OpVal.lss z z z) (TL.en (TC.cD z hh (fun h109 hh=> ?_) (fun h109 hh=> ?_)))))))))
 ·refine TC.skip (S.n (TC.seq (TC.block (TC.seq (TC.a (TL.w z (fieldLoc z fo32_2 z) (TL.w z (loadLoc z ag28 z (i:=0) z z) (TL.i z z (TL.w z (indexN z underlying28 sz30 z z f0_1.isSl (by omega)) ?_)))))))))
  obtain ⟨p110,hk110,hg110⟩:=RZ.seg f0_1 k108 (by omega)
  replace hk110:RS _ 1 eS_ (.slice p110.1 (nth x0.outs k108 ([]:List (List UInt8))).length p110.2) (nth x0.outs k108 ([]:List (List UInt8))):=hk110
  have hk110b:=hk110.rv.big
  refine TL.w z (OpVal.of (loadSeg0 z ag30 z hg110 z) (v':= .slice p110.1 ((nth x0.outs k108 ([]:List (List UInt8))).length) p110.2) z) (TL.w z (lenC z underlying30 z) (TL.w z (OpVal.gtr z z z) (TL.en (TC.cD z hh (fun h111 hh=> ?_) (fun h111 hh=> ?_)))))
  ·refine TC.a (TL.j z z (TL.en (TC.rt 0 (S.r (B.r (S.r (S.r ?_)))))))
   replace hh:=fin_x hR1 hh
   refine B.r (S.r ?_)
   obtain rfl:=so hh
   exact rq [2] ⟨z,z,z⟩
  refine TC.skip (S.n (TC.a (TL.i z z (TL.en (TC.seq (TC.a (TL.i z z (TL.en (TC.block (TC.loopG (α:=(Int×Nat)×(Unit)) (rgs [(4,2),(36,21)]) (fun g=>[(4,.int .i64 g.1.1),(5,.int .i64 ((g.1.2:Nat):Int))]) (fun g=>[Res.cells b101 #[.string (bs x0.front),.slice a0_0 x0.next.length c0_0,.slice a0_1 x0.outs.length c0_1,.slice a0_2 x0.fin.length c0_2,.slice a0_3 x0.tail.length c0_3] 32]) (fun g=>σ) (fun g=>iter (fun q:Int×Nat=>Aa_ x0 k108 q.1 q.2) g.1=some z1) (fun g=>rounds (fun q:Int×Nat=>Aa_ x0 k108 q.1 q.2) g.1) ((0,0),()) (Sub.pre 1 z) z (by repeat (first|exact trivial|refine ⟨z,?_⟩)) hh (fun g2 j2 hg2=> ?_)))))))))))
  obtain ⟨⟨i116,k117⟩,_⟩:=g2
  have hh:=hg2;clear hg2
  try dsimp only
  obtain ⟨z2,hh,hR2⟩:=iter_e hh
  dsimp only [Aa_]at hh
  refine TC.seq (TC.a (TL.i z z (TL.w z (fieldLoc z fo32_2 z) (TL.w z (loadLoc z ag28 z (i:=0) z z) (TL.i z z (TL.w z (indexN z underlying28 sz30 z z f0_1.isSl (by omega)) ?_))))))
  obtain ⟨p118,hk118,hg118⟩:=RZ.seg f0_1 k108 (by omega)
  replace hk118:RS _ 1 eS_ (.slice p118.1 (nth x0.outs k108 ([]:List (List UInt8))).length p118.2) (nth x0.outs k108 ([]:List (List UInt8))):=hk118
  have hk118b:=hk118.rv.big
  refine TL.w z (OpVal.of (loadSeg0 z ag30 z hg118 z) (v':= .slice p118.1 ((nth x0.outs k108 ([]:List (List UInt8))).length) p118.2) z) (TL.w z (lenC z underlying30 z) (TL.w z (OpVal.lss z z z) (TL.en (TC.cD z hh (fun h119 hh=> ?_) (fun h119 hh=> ?_)))))
  ·refine TC.skip (S.n (TC.seq (TC.block (TC.region (TL.i z z (TL.w z (fieldLoc z fo32_2 z) (TL.w z (loadLoc z ag28 z (i:=0) z z) (TL.i z z (TL.w z (indexN z underlying28 sz30 z z f0_1.isSl (by omega)) ?_)))))))))
   obtain ⟨p120,hk120,hg120⟩:=RZ.seg f0_1 k108 (by omega)
   replace hk120:RS _ 1 eS_ (.slice p120.1 (nth x0.outs k108 ([]:List (List UInt8))).length p120.2) (nth x0.outs k108 ([]:List (List UInt8))):=hk120
   have hk120b:=hk120.rv.big
   refine TL.w z (OpVal.of (loadSeg0 z ag30 z hg120 z) (v':= .slice p120.1 ((nth x0.outs k108 ([]:List (List UInt8))).length) p120.2) z) (TL.i z z (TL.w z (indexN z underlying30 sz9 z z hk120.rv.sl (by omega)) (TL.w z (loadS1 ([]:List UInt8) z ag9 z hk120 (by omega) z) (TL.w z (lenBs z underlying9 z) (TL.w z (addW z z z) (TL.i z z (TL.nil (B.n (S.n (TC.region (TL.i z z (TL.w z (OpVal.succ z z z (by omega)) (TL.i z z (TL.en ?_))))))))))))))
   obtain ⟨hh,hlt121⟩:=nxt_x hR2 hh
   exact lf (((IntKind.i64.wrap (i116+(((nth (nth x0.outs k108 ([]:List (List UInt8))) k117 ([]:List UInt8)).length:Nat):Int))),(k117+1)),()) hlt121 hh (Sub.pre 1 z)
  refine TC.exit (S.x (S.x ?_))
  replace hh:=fin_x hR2 hh
  refine TC.exitHere (S.n (TC.a (TL.i z z (TL.w z (OpVal.gtr z z z) (TL.en (TC.cD z hh (fun h122 hh=> ?_) (fun h122 hh=> ?_)))))))
  ·refine TC.a (TL.j z z (TL.en (TC.rt 0 (B.r (S.r (S.r ?_))))))
   replace hh:=fin_x hR1 hh
   refine B.r (S.r ?_)
   obtain rfl:=so hh
   exact rq [2] ⟨z,z,z⟩
  refine TC.skip (B.n (S.n (TC.region (TL.i z z (TL.w z (OpVal.succ z z z (by omega)) (TL.i z z (TL.en ?_)))))))
  obtain ⟨hh,hlt123⟩:=nxt_x hR1 hh
  exact lf ((k108+1),()) hlt123 hh (Sub.pre 1 z)
 refine TC.exit (S.x (S.x ?_))
 replace hh:=fin_x hR1 hh
 refine TC.exitHere (S.n (TC.a (TL.j z z (TL.en (TC.rt 0 ?_)))))
 obtain rfl:=so hh
 exact rq [2] ⟨z,z,z⟩
def copyCheckF(x0:SB):Option (SB):=
 some (⟨x0.buf⟩:SB)
theorem copyCheckF_con{x0:SB}{r:SB}(hh:copyCheckF x0=some r):
  Con Tryz.prog 94 #[loc b0_0 0] σ [Res.cells b0_0 #[badV false b0_0,.slice a0_1 x0.buf.length c0_2] 92,Res.rowS 5 1 encU8 (.slice a0_1 x0.buf.length c0_2) x0.buf] (fun v σ' H'=> ∃(uo1:Bool), ∃ao2 co3,v= .tuple #[]∧σ=σ'∧H'=[Res.cells b0_0 #[badV uo1 b0_0,.slice ao2 r.buf.length co3] 92,Res.rowS 5 1 encU8 (.slice ao2 r.buf.length co3) r.buf]):=by
 dsimp only [copyCheckF]at hh
 refine Con.mk (n:=20) Tryz.func94 z z z (fun w0=> ?_)
 refine TC.a (TL.l z z (TL.w z (nilCheckLoc z z) (TL.w z (fieldLoc z fo92_0 z) (TL.w z (loadLoc z ag90 z (i:=0) z z) (TL.w z (eqlNil z underlying90 z z) (TL.en (TC.t z (TC.region (TL.l z z (TL.l z z (TL.w z (cvtUns z underlying90 underlying188 sz92 (by decide) z (i:=0) z z (by simp)) (TL.w z (noEsc z z Tryz.func133 (by kernel_rfl) (by kernel_rfl) (by kernel_rfl) (by kernel_rfl) z) (TL.w z (cvtPtr z underlying188 underlying90 sz92 z (i:=0) z z (by kernel_rfl)) (TL.w z (nilCheckLoc z z) (TL.w z (fieldLoc z fo92_0 z) ?_)))))))))))))))
 refine TL.op z (storeLoc z sz90 z z z z z ?_)
 refine TL.nil ?_
 obtain rfl:=so hh
 exact RetOk.mk' (rs:=[]) [Res.cells b0_0 #[badV true b0_0,.slice a0_1 x0.buf.length c0_2] 92,Res.rowS 5 1 encU8 (.slice a0_1 x0.buf.length c0_2) x0.buf] z (.inr z) RVs.nil (List.sublist_append_left _ _) ⟨true,a0_1,c0_2,z,z,z⟩
def copyCheckT(x0:SB):Option (SB):=
 some (⟨x0.buf⟩:SB)
theorem copyCheckT_con{x0:SB}{r:SB}(hh:copyCheckT x0=some r):
  Con Tryz.prog 94 #[loc b0_0 0] σ [Res.cells b0_0 #[badV true b0_0,.slice a0_1 x0.buf.length c0_2] 92,Res.rowS 5 1 encU8 (.slice a0_1 x0.buf.length c0_2) x0.buf] (fun v σ' H'=> ∃(uo1:Bool), ∃ao2 co3,v= .tuple #[]∧σ=σ'∧H'=[Res.cells b0_0 #[badV uo1 b0_0,.slice ao2 r.buf.length co3] 92,Res.rowS 5 1 encU8 (.slice ao2 r.buf.length co3) r.buf]):=by
 dsimp only [copyCheckT]at hh
 refine Con.mk (n:=20) Tryz.func94 z z z (fun w0=> ?_)
 refine TC.a (TL.l z z (TL.w z (nilCheckLoc z z) (TL.w z (fieldLoc z fo92_0 z) (TL.w z (loadLoc z ag90 z (i:=0) z z) (TL.w z (eqlNil z underlying90 z z) (TL.en (TC.f z (TC.a (TL.l z z (TL.w z (nilCheckLoc z z) (TL.w z (fieldLoc z fo92_0 z) (TL.w z (loadLoc z ag90 z (i:=0) z z) (TL.l z z (TL.w z (neqSelf z underlying90 sz92 z z) (TL.en ?_)))))))))))))))
 refine TC.f z (TC.skip ?_)
 obtain rfl:=so hh
 exact RetOk.mk' (rs:=[]) [Res.cells b0_0 #[badV true b0_0,.slice a0_1 x0.buf.length c0_2] 92,Res.rowS 5 1 encU8 (.slice a0_1 x0.buf.length c0_2) x0.buf] z (.inr z) RVs.nil (List.sublist_append_left _ _) ⟨true,a0_1,c0_2,z,z,z⟩
def copyCheck(x0:SB):Option SB:=copyCheckF x0
theorem copyCheck_con{x0:SB}{u0_1:Bool}{r:SB}(hh:copyCheck x0=some r):
  Con Tryz.prog 94 #[loc b0_0 0] σ [Res.cells b0_0 #[badV u0_1 b0_0,.slice a0_2 x0.buf.length c0_3] 92,Res.rowS 5 1 encU8 (.slice a0_2 x0.buf.length c0_3) x0.buf] (fun v σ' H'=> ∃(uo1:Bool), ∃ao2 co3,v= .tuple #[]∧σ=σ'∧H'=[Res.cells b0_0 #[badV uo1 b0_0,.slice ao2 r.buf.length co3] 92,Res.rowS 5 1 encU8 (.slice ao2 r.buf.length co3) r.buf]):=by
 cases u0_1
 ·exact copyCheckF_con hh
 exact copyCheckT_con hh
def writeS(x0:SB)(x1:List UInt8):Option (Int×Unit×SB):=
 grd (x1.length≤281474976710656) (bnd (copyCheck (⟨x0.buf⟩:SB)) (fun v4=>grd (v4.buf.length+x1.length≤140737488355328) (some (((x1.length:Nat):Int),(),(⟨(v4.buf++x1)⟩:SB)))))
theorem writeS_con{x0:SB}{u0_1:Bool}{x1:List UInt8}{r:Int×Unit×SB}(hh:writeS x0 x1=some r):
  Con Tryz.prog 53 #[loc b0_0 0,.string (bs x1)] σ [Res.cells b0_0 #[badV u0_1 b0_0,.slice a0_2 x0.buf.length c0_3] 92,Res.rowS 5 1 encU8 (.slice a0_2 x0.buf.length c0_3) x0.buf] (fun v σ' H'=> ∃(uo1:Bool), ∃ao2 co3,v= .tuple #[.int .i64 r.1,.nilIface]∧σ=σ'∧H'=[Res.cells b0_0 #[badV uo1 b0_0,.slice ao2 r.2.2.buf.length co3] 92,Res.rowS 5 1 encU8 (.slice ao2 r.2.2.buf.length co3) r.2.2.buf]):=by
 dsimp only [writeS]at hh
 refine Con.mk (n:=19) Tryz.func53 z z z (fun w0=> ?_)
 have x1b:=grd_c hh
 replace hh:=grd_t hh
 refine TC.a (TL.i z z (TL.w z (OpVal.mv (.inr z)) (TL.en (TC.a (TL.l z z (TL.front 1 z z (TL.front 1 z z ?_)))))))
 obtain ⟨v4,u4,hh⟩:=bnd_e hh
 refine TL.op z (OpOk.call (copyCheck_con u4) z z pf94 z z z z ?_)
 rintro _ _ _ hle104 ⟨u104_1,a104_2,c104_3,rfl,rfl,rfl⟩
 refine TL.en (TC.a (TL.l z z (TL.l z z (TL.w z (nilCheckLoc z z) (TL.w z (fieldLoc z fo92_1 z) (TL.w z (loadLoc z ag60 z (i:=0) z z) (TL.w z (moveStr (.inl z) z) (TL.front 1 z z ?_))))))))
 have u11:=grd_c hh
 replace hh:=grd_t hh
 refine TL.op z (appendStr z underlying60 underlying9 sz5 by5 ze5 z z z z u11 (fun a106 c107=> ?_))
 refine TL.w z (nilCheckLoc z z) (TL.w z (fieldLoc z fo92_1 z) (TL.front 1 z z (TL.op z (storeSl z sz60 z z z z z ?_))))
 refine TL.en (TC.a (TL.w z (moveStr (.inl z) z) (TL.w z (lenBs z underlying9 z) (TL.i z z (TL.w z (OpVal.mv (.inr z)) (TL.en (TC.ret ?_)))))))
 obtain rfl:=so hh
 exact ro [Res.cells b0_0 #[badV u104_1 b0_0,.slice a106 ((v4.buf++x1).length) c107] 92,Res.rowS 5 1 encU8 (.slice a106 (v4.buf++x1).length c107) (v4.buf++x1)] z (RVs.tmp z (RVs.tmp z RVs.nil)) ⟨u104_1,a106,c107,z,z,z⟩
def writeB(x0:SB)(x1:UInt8):Option (Unit×SB):=
 bnd (copyCheck (⟨x0.buf⟩:SB)) (fun v3=>grd ((v3.buf.length+[x1].length) * 1≤140737488355328) (some ((),(⟨(v3.buf++[x1])⟩:SB))))
theorem writeB_con{x0:SB}{u0_1:Bool}{x1:UInt8}{r:Unit×SB}(hh:writeB x0 x1=some r):
  Con Tryz.prog 151 #[loc b0_0 0,.int .u8 ((x1.toNat:Nat):Int)] σ [Res.cells b0_0 #[badV u0_1 b0_0,.slice a0_2 x0.buf.length c0_3] 92,Res.rowS 5 1 encU8 (.slice a0_2 x0.buf.length c0_3) x0.buf] (fun v σ' H'=> ∃(uo1:Bool), ∃ao2 co3,v= .nilIface∧σ=σ'∧H'=[Res.cells b0_0 #[badV uo1 b0_0,.slice ao2 r.2.buf.length co3] 92,Res.rowS 5 1 encU8 (.slice ao2 r.2.buf.length co3) r.2.buf]):=by
 dsimp only [writeB]at hh
 refine Con.mk (n:=17) Tryz.func151 z z z (fun w0=> ?_)
 refine TC.a (TL.w z (OpVal.mv (.inr z)) (TL.en (TC.a (TL.l z z (TL.front 1 z z (TL.front 1 z z ?_))))))
 obtain ⟨v3,u3,hh⟩:=bnd_e hh
 refine TL.op z (OpOk.call (copyCheck_con u3) z z pf94 z z z z ?_)
 rintro _ _ _ hle104 ⟨u104_1,a104_2,c104_3,rfl,rfl,rfl⟩
 refine TL.en (TC.a (TL.l z z (TL.l z z (TL.w z (nilCheckLoc z z) (TL.w z (fieldLoc z fo92_1 z) (TL.w z (loadLoc z ag60 z (i:=0) z z) (TL.i z z (TL.op z (OpOk.lit (enc:=encU8) [x1] z underlying60 sz5 ze5 z z z encU8_len (by decide) (by decide) (0:UInt8) z (by decide) z (by decide) encU8_one (fun a106 c107=> ?_))))))))))
 refine TL.front 2 z z ?_
 have u11:=grd_c hh
 replace hh:=grd_t hh
 refine TL.op z (appendS z z underlying60 sz5 by5 ze5 z z (by decide) z z z (.inr ⟨_,0,z⟩) (by simpa using u11) (by decide) (fun a109 c110=> ?_))
 refine TL.w z (nilCheckLoc z z) (TL.w z (fieldLoc z fo92_1 z) (TL.front 2 z z (TL.op z (storeSl z sz60 z z z z z ?_))))
 refine TL.en (TC.a (TL.w z (OpVal.mv (.inr z)) (TL.en (TC.ofSub (Sub.f [1,1] 2) (TC.ret ?_)))))
 obtain rfl:=so hh
 exact ro [Res.cells b0_0 #[badV u104_1 b0_0,.slice a109 ((v3.buf++[x1]).length) c110] 92,Res.rowS 5 1 encU8 (.slice a109 (v3.buf++[x1]).length c110) (v3.buf++[x1])] z (RVs.tmp z RVs.nil) ⟨u104_1,a109,c110,z,z,z⟩
def stringB(x0:SB):Option ((List UInt8)):=
 some x0.buf
theorem stringB_con{x0:SB}{u0_1:Bool}{r:(List UInt8)}(hh:stringB x0=some r):
  Con Tryz.prog 54 #[loc b0_0 0] σ [Res.cells b0_0 #[badV u0_1 b0_0,.slice a0_2 x0.buf.length c0_3] 92,Res.rowS 5 1 encU8 (.slice a0_2 x0.buf.length c0_3) x0.buf] (fun v σ' H'=>v= .string (bs r)∧σ=σ'∧H'=[]):=by
 dsimp only [stringB]at hh
 refine Con.mk (n:=14) Tryz.func54 z z z (fun w0=> ?_)
 refine TC.a (TL.w z (moveStr (.inr z) z) (TL.en (TC.seq (TC.drawR (Hr:=[Res.cells b0_0 #[badV u0_1 b0_0,.slice a0_2 x0.buf.length c0_3] 92]) (fun r hr=>mem_pick [0] z hr) [] (by kernel_rfl) (TA.a 0 z (moveLoc (.inl z) z) z (TA.a 1 z (nilCheckLoc z z) z (TA.a 2 z (fieldLoc z fo92_1 z) z (TA.b 3 z (loadLoc z ag60 z (i:=0) z z) z (TA.a 5 z (moveLoc (.inl z) z) z (TA.a 6 z (nilCheckLoc z z) z (TA.a 7 z (fieldLoc z fo92_1 z) z (TA.b 8 z (loadLoc z ag60 z (i:=0) z z) z (TA.b 9 z (lenC z underlying60 z) z (TA.front 1 z z (TA.ac 4 z (sliceDat z z underlying150 z z z (fun sq105 sh106=>(k1 ?_))))))))))))))))))
 refine TA.ac 10 z (unsStr z underlying150 ce5 z z z sh106 z (k0 ?_))
 refine TA.a 11 z (moveStr (.inr z) z) z (TA.dn (S.n (TC.rt 0 ?_)))
 obtain rfl:=so hh
 exact rq [2] ⟨z,z,z⟩
def Bf_(x1:List UInt8)(x0:Seq)(l126:List UInt8)(i129:Int)(k130:Nat):Option (((List UInt8)×Int×Nat)⊕((List UInt8)×Int×Bool×Int)):=
 iteO (decide (((k130:Nat):Int)<((x1.length:Nat):Int))) (grd (0≤i129∧i129<(x0.next.length:Int)) (grd ((nth x1 k130 (0:UInt8)).toNat<(nth x0.next i129.toNat ([]:List Int)).length) (iteO (decide ((nth (nth x0.next i129.toNat ([]:List Int)) ((nth x1 k130 (0:UInt8)).toNat) (0:Int))<0)) (fin (some (([]:List UInt8),((k130:Nat):Int),false,0))) (grd (0≤i129∧i129<(x0.outs.length:Int)) (grd ((nth x1 k130 (0:UInt8)).toNat<(nth x0.outs i129.toNat ([]:List (List UInt8))).length) (bnd (writeS (⟨l126⟩:SB) (nth (nth x0.outs i129.toNat ([]:List (List UInt8))) ((nth x1 k130 (0:UInt8)).toNat) ([]:List UInt8))) (fun v60=>nxt (v60.2.2.buf,(nth (nth x0.next i129.toNat ([]:List Int)) ((nth x1 k130 (0:UInt8)).toNat) (0:Int)),(k130+1))))))))) (fin (grd (0≤i129∧i129<(x0.fin.length:Int)) (iteO (!(nth x0.fin i129.toNat false)) (some (([]:List UInt8),((x1.length:Nat):Int),false,0)) (grd (0≤i129∧i129<(x0.tail.length:Int)) (bnd (writeS (⟨l126⟩:SB) (nth x0.tail i129.toNat ([]:List UInt8))) (fun v82=>bnd (stringB (⟨v82.2.2.buf⟩:SB)) (fun v83=>some (v83,((x1.length:Nat):Int),true,0))))))))
def B2_(x0:Seq)(x1:List UInt8):Option ((List UInt8)×Int×Bool×Int):=
 grd (x1.length≤281474976710656) (bnd (C0_ x0) (fun v7=>iteO (decide (v7≠0)) (some (([]:List UInt8),0,false,1)) (iteO (decide (((x0.next.length:Nat):Int)=0)) (some (([]:List UInt8),0,false,0)) (bnd (writeS (⟨([]:List UInt8)⟩:SB) x0.front) (fun v24=>iter (fun q:(List UInt8)×Int×Nat=>Bf_ x1 x0 q.1 q.2.1 q.2.2) (v24.2.2.buf,0,0))))))
theorem Dn_{x0:Seq}{x1:List UInt8}(f0_0:RZ σ (pkSl 1 eI_ eIl_) (.slice a0_0 x0.next.length c0_0) x0.next)(f0_1:RZ σ (pkSl 1 eS_ eSl_) (.slice a0_1 x0.outs.length c0_1) x0.outs)(f0_2:RS σ 1 encB (.slice a0_2 x0.fin.length c0_2) x0.fin)(f0_3:RS σ 1 eS_ (.slice a0_3 x0.tail.length c0_3) x0.tail){r:(List UInt8)×Int×Bool×Int}(hh:B2_ x0 x1=some r):
  Con Tryz.prog 19 #[.agg #[.string (bs x0.front),.slice a0_0 x0.next.length c0_0,.slice a0_1 x0.outs.length c0_1,.slice a0_2 x0.fin.length c0_2,.slice a0_3 x0.tail.length c0_3],.string (bs x1)] σ [] (PureP (.tuple #[.string (bs r.1),.int .i64 r.2.1,.bool r.2.2.1,.int .i64 r.2.2.2]) σ):=by
 dsimp only [B2_]at hh
 have f0_0b:=f0_0.big
 have f0_1b:=f0_1.big
 have f0_2b:=f0_2.rv.big
 have f0_3b:=f0_3.rv.big
 refine Con.mk (n:=70) Tryz.func19 z z z (fun w0=> ?_)
 have x1b:=grd_c hh
 replace hh:=grd_t hh
 refine TC.a (TL.op z (boxA z z z z (fun b101=> ?_)))
 refine TL.w z (moveStr (.inr z) z) (TL.i z z (TL.j z z (TL.i z z (TL.en (TC.seq (TC.a (TL.w z (loadAll z ag32 sz32 z (i:=0) z z) ?_)))))))
 obtain ⟨v7,u7,hh⟩:=bnd_e hh
 refine TL.op z (callP (Ed_ (x0:=x0) f0_0 f0_1 f0_2 f0_3 u7) z z pf23 z z z ?_)
 refine TL.w z (OpVal.neq z z z) (TL.en (TC.cD z hh (fun h103 hh=> ?_) (fun h103 hh=> ?_)))
 ·refine TC.a (TL.w z (moveStr (.inr z) z) (TL.i z z (TL.j z z (TL.i z z (TL.en (TC.rt 0 (S.r ?_)))))))
  obtain rfl:=so hh
  exact rq [4,5,6,7] ⟨z,z,z⟩
 refine TC.skip (S.n (TC.seq (TC.a (TL.w z (fieldLoc z fo32_1 z) (TL.w z (loadLoc z ag27 z (i:=0) z z) (TL.w z (lenC z underlying27 z) (TL.w z (OpVal.eql z z z) (TL.en (TC.cD z hh (fun h104 hh=> ?_) (fun h104 hh=> ?_))))))))))
 ·refine TC.a (TL.w z (moveStr (.inr z) z) (TL.i z z (TL.j z z (TL.i z z (TL.en (TC.rt 0 (S.r ?_)))))))
  obtain rfl:=so hh
  exact rq [4,5,6,7] ⟨z,z,z⟩
 refine TC.skip (S.n (TC.a (TL.op z (OpOk.alloc z ze92 z z (fun b105=> ?_)))))
 refine TL.asH (H':=[Res.cells b105 #[badV false b105,.slice none 0 0] 92,Res.cells b101 #[.string (bs x0.front),.slice a0_0 x0.next.length c0_0,.slice a0_1 x0.outs.length c0_1,.slice a0_2 x0.fin.length c0_2,.slice a0_3 x0.tail.length c0_3] 32]) z (TL.en (TC.a (TL.w z (fieldLoc z fo32_0 z) (TL.w z (loadLoc z ag9 z (i:=1) z z) (TL.nilS 5 1 encU8 (TL.front 1 z z ?_))))))
 obtain ⟨v24,u24,hh⟩:=bnd_e hh
 refine TL.op z (OpOk.call (writeS_con u24) z z pf53 z z z z ?_)
 rintro _ _ _ hle108 ⟨u108_1,a108_2,c108_3,rfl,rfl,rfl⟩
 refine TL.en (TC.a (TL.i z z (TL.en (TC.seq (TC.a (TL.w z (moveStr (.inl z) z) (TL.w z (lenBs z underlying9 z) (TL.i z z (TL.en (TC.block (TC.loopG (α:=((List UInt8)×Int×Nat)×(Bool×(Option Addr)×Nat)) (rgs [(4,4),(9,3),(24,29)]) (fun g=>[(9,.int .i64 g.1.2.1),(24,.int .i64 ((g.1.2.2:Nat):Int))]) (fun g=>[Res.cells b101 #[.string (bs x0.front),.slice a0_0 x0.next.length c0_0,.slice a0_1 x0.outs.length c0_1,.slice a0_2 x0.fin.length c0_2,.slice a0_3 x0.tail.length c0_3] 32,Res.cells b105 #[badV g.2.1 b105,.slice g.2.2.1 g.1.1.length g.2.2.2] 92,Res.rowS 5 1 encU8 (.slice g.2.2.1 g.1.1.length g.2.2.2) g.1.1]) (fun g=>σ) (fun g=>iter (fun q:(List UInt8)×Int×Nat=>Bf_ x1 x0 q.1 q.2.1 q.2.2) g.1=some r) (fun g=>rounds (fun q:(List UInt8)×Int×Nat=>Bf_ x1 x0 q.1 q.2.1 q.2.2) g.1) ((v24.2.2.buf,0,0),(u108_1,a108_2,c108_3)) (Sub.f [1,1,2] 3) z (by repeat (first|exact trivial|refine ⟨z,?_⟩)) hh (fun g1 j1 hg1=> ?_))))))))))))
 obtain ⟨⟨l126,i129,k130⟩,⟨u124,a127,c128⟩⟩:=g1
 have hh:=hg1;clear hg1
 try dsimp only
 obtain ⟨z1,hh,hR1⟩:=iter_e hh
 dsimp only [Bf_]at hh
 refine TC.isSl (i:=2) z (fun _ hb131 _=> ?_)
 refine TC.a (TL.w z (OpVal.lss z z z) (TL.en (TC.seq (TC.cD z hh (fun h132 hh=> ?_) (fun h132 hh=> ?_)))))
 ·refine TC.skip (S.n (TC.seq (TC.block (TC.a (TL.i z z (TL.i z z (TL.en (TC.seq ?_))))))))
  have u35:=grd_c hh
  replace hh:=grd_t hh
  have u40:=grd_c hh
  replace hh:=grd_t hh
  refine TC.draw [] (by kernel_rfl) (TA.a 0 z (fieldLoc z fo32_1 z) z (TA.b 1 z (loadLoc z ag27 z (i:=0) z z) z (TA.a 2 z (moveI (.inl z) z) z (TA.b 3 z (OpVal.index z underlying27 sz86 z z f0_0.isSl u35.1 u35.2) z ?_))))
  obtain ⟨p134,hk134,hg134⟩:=RZ.seg f0_0 i129.toNat (by omega)
  replace hk134:RS _ 1 eI_ (.slice p134.1 (nth x0.next i129.toNat ([]:List Int)).length p134.2) (nth x0.next i129.toNat ([]:List Int)):=hk134
  have hk134b:=hk134.rv.big
  refine TA.b 4 z (OpVal.of (loadSeg0 z ag86 z hg134 z) (v':= .slice p134.1 ((nth x0.next i129.toNat ([]:List Int)).length) p134.2) z) z (TA.a 5 z (moveStr (.inl z) z) z (TA.a 6 z (moveI (.inl z) z) z (TA.a 7 z (indexBs z underlying9 z z (by omega)) z (TA.b 8 z (indexN z underlying86 sz3 z z hk134.rv.sl (by omega)) z (TA.b 9 z (loadS1 (0:Int) z ag3 z hk134 (by omega) z) z (TA.a 10 z (moveI (.inr z) z) z (TA.dn (S.n (TC.seq (TC.a (TL.i z z (TL.w z (OpVal.lss z z z) (TL.en (TC.cD z hh (fun h135 hh=> ?_) (fun h135 hh=> ?_)))))))))))))))
  ·refine TC.a (TL.i z z (TL.w z (moveStr (.inr z) z) (TL.i z z (TL.j z z (TL.i z z (TL.en (TC.rt 0 (S.r (B.r (S.r (S.r ?_)))))))))))
   replace hh:=fin_x hR1 hh
   refine B.r (S.r ?_)
   obtain rfl:=so hh
   exact rq [4,5,6,7] ⟨z,z,z⟩
  refine TC.skip (S.n (TC.seq ?_))
  have u53:=grd_c hh
  replace hh:=grd_t hh
  have u58:=grd_c hh
  replace hh:=grd_t hh
  obtain ⟨v60,u60,hh⟩:=bnd_e hh
  refine TC.drawR (Hr:=[Res.cells b101 #[.string (bs x0.front),.slice a0_0 x0.next.length c0_0,.slice a0_1 x0.outs.length c0_1,.slice a0_2 x0.fin.length c0_2,.slice a0_3 x0.tail.length c0_3] 32]) (fun r hr=>mem_pick [0] z hr) [] (by kernel_rfl) (TA.a 0 z (fieldLoc z fo32_2 z) z (TA.b 1 z (loadLoc z ag28 z (i:=0) z z) z (TA.a 2 z (moveI (.inl z) z) z (TA.b 3 z (OpVal.index z underlying28 sz30 z z f0_1.isSl u53.1 u53.2) z ?_))))
  obtain ⟨p139,hk139,hg139⟩:=RZ.seg f0_1 i129.toNat (by omega)
  replace hk139:RS _ 1 eS_ (.slice p139.1 (nth x0.outs i129.toNat ([]:List (List UInt8))).length p139.2) (nth x0.outs i129.toNat ([]:List (List UInt8))):=hk139
  have hk139b:=hk139.rv.big
  refine TA.b 4 z (OpVal.of (loadSeg0 z ag30 z hg139 z) (v':= .slice p139.1 ((nth x0.outs i129.toNat ([]:List (List UInt8))).length) p139.2) z) z (TA.a 5 z (moveStr (.inl z) z) z (TA.a 6 z (moveI (.inl z) z) z (TA.a 7 z (indexBs z underlying9 z z (by omega)) z (TA.b 8 z (indexN z underlying30 sz9 z z hk139.rv.sl (by omega)) z (TA.b 9 z (loadS1 ([]:List UInt8) z ag9 z hk139 (by omega) z) z (TA.front 2 z z (TA.front 2 z z (TA.ac 10 z (OpOk.call (writeS_con u60) z z pf53 z z z z ?_)))))))))
  rintro _ _ _ hle140 ⟨u140_1,a140_2,c140_3,rfl,rfl,rfl⟩
  refine k2 (TA.dn (S.n (TC.region (TL.i z z (TL.i z z (TL.nil (B.n (S.n (TC.region (TL.w z (OpVal.succ z z z (by omega)) (TL.i z z (TL.en ?_))))))))))))
  obtain ⟨hh,hlt142⟩:=nxt_x hR1 hh
  exact lf ((v60.2.2.buf,(nth (nth x0.next i129.toNat ([]:List Int)) ((nth x1 k130 (0:UInt8)).toNat) (0:Int)),(k130+1)),(u140_1,a140_2,c140_3)) hlt142 hh (Sub.f [1,1,2] 3)
 refine TC.exit (S.x (S.x ?_))
 replace hh:=fin_x hR1 hh
 refine TC.exitHere (S.n (TC.seq (TC.a (TL.w z (fieldLoc z fo32_3 z) (TL.w z (loadLoc z ag29 z (i:=0) z z) (TL.i z z ?_))))))
 have u68:=grd_c hh
 replace hh:=grd_t hh
 refine TL.w z (OpVal.index z underlying29 sz4 z z f0_2.rv.sl u68.1 u68.2) (TL.w z (loadS1 false z ag4 z f0_2 (by omega) z) (TL.w z (OpVal.not z z) (TL.en (TC.cB z hh (fun h143 hh=> ?_) (fun h143 hh=> ?_)))))
 ·refine TC.a (TL.w z (moveStr (.inl z) z) (TL.w z (lenBs z underlying9 z) (TL.w z (moveStr (.inr z) z) (TL.i z z (TL.j z z (TL.i z z (TL.en (TC.rt 0 (S.r ?_)))))))))
  obtain rfl:=so hh
  exact rq [4,5,6,7] ⟨z,z,z⟩
 refine TC.skip (S.n (TC.a (TL.w z (fieldLoc z fo32_4 z) (TL.w z (loadLoc z ag30 z (i:=0) z z) (TL.i z z ?_)))))
 have u80:=grd_c hh
 replace hh:=grd_t hh
 refine TL.w z (OpVal.index z underlying30 sz9 z z f0_3.rv.sl u80.1 u80.2) (TL.w z (loadS1 ([]:List UInt8) z ag9 z f0_3 (by omega) z) (TL.front 2 z z (TL.front 2 z z ?_)))
 obtain ⟨v82,u82,hh⟩:=bnd_e hh
 refine TL.op z (OpOk.call (writeS_con u82) z z pf53 z z z z ?_)
 rintro _ _ _ hle144 ⟨u144_1,a144_2,c144_3,rfl,rfl,rfl⟩
 refine TL.en (TC.a (TL.front 1 z z (TL.front 1 z z ?_)))
 obtain ⟨v83,u83,hh⟩:=bnd_e hh
 refine TL.op z (OpOk.call (stringB_con u83) z z pf54 z z z z ?_)
 rintro _ _ _ hle146 ⟨rfl,rfl,rfl⟩
 refine TL.w z (moveStr (.inl z) z) (TL.w z (lenBs z underlying9 z) (TL.w z (moveStr (.inr z) z) (TL.i z z (TL.j z z (TL.i z z (TL.en (TC.rt 0 ?_)))))))
 obtain rfl:=so hh
 exact rq [4,5,6,7] ⟨z,z,z⟩
end Go.Proofs.YtchebnpdnfhenaaGreatDoor
end

noncomputable section
namespace Go.E
open Go
section
variable {α:Type} {σ:Store} {size m c:Nat} {enc:α→List Value} {a:Option Addr} {l:List α}
end
end Go.E
end

noncomputable section
namespace Go.E
open Go
theorem OpOk.storeFn{X:Ctx}{e:Env}{F:List Res}{o:Oper}{x y:Operand}{K:Env→Store→List Res→Prop}{T b k:Nat}{E:TypeId}{cs cs':Array Value}{f:Fn}{xs ys:Array Value}(ho:o.op= .store T x y)(hs:szOf X.P T=some 1)(hd:o.dst=none)(hx:ev e x=loc b k)(hfit:Nat.ble (k+1) cs.size=true)
    (hv:ev e y= .func f xs ys) (hcs:(splice cs.toList k [.func f xs ys]).toArray=cs') (kk:K e σ (Res.cells b cs' E::F)):OpOk X o e σ (Res.cells b cs E::F) K:=OpOk.store1 ho hs hd hx hv rfl rfl hfit hcs kk
def SC(σ:Store)(b:Nat)(cs:Array Value)(E:TypeId):Prop:=σ b=some (.cells cs E (0,0))
theorem SC.big{b:Nat}{cs:Array Value}{E:TypeId}(_:SC σ b cs E):True:=True.intro
end Go.E
end

noncomputable section
namespace Go.E
open Go
structure YSpec (S:Type) where
  R:S→Store→Res→Prop
  mono: ∀{s σ σ' r},R s σ r→σ.le σ'→R s σ' r
def YR{S:Type}(Z:YSpec S)(s:S)(σ:Store)(r:Res):Prop:=Z.R s σ r
theorem YR.mono{S:Type}{Z:YSpec S}{s:S}{σ σ':Store}{r:Res}(h:YR Z s σ r)(hle:σ.le σ'):YR Z s σ' r:=Z.mono h hle
def YOk (P : Program) (l : Nat) {S α : Type} (A : α → Store → List Value → Prop) (Z : YSpec S) (Y : S → α → Option (S × Bool)) : Prop :=
  ∀s x σ r args w s' b,Y s x=some (s',b)→A x σ args→YR Z s σ r→Reach w r.bl σ σ w [r]→
    YieldAt (fence none) 0 P l args.toArray w fun e w'=>e= .returned (.bool b)∧ ∃σ' r',YR Z s' σ' r'∧Reach w r.bl σ σ' w' [r']
def IterOk (P : Program) (f : FuncId) (lb : List Value) {S α : Type} (A : α → Store → List Value → Prop) (Y : S → α → Option (S × Bool)) (σ : Store) (Hc : List Res) (s s' : S) (Post : Store → List Res → Prop) : Prop :=
  ∀(l:Nat) (Z:YSpec S) (r:Res),YOk P l A Z Y→YR Z s σ r→
    Con P f (.func (.yield l) #[] #[]::lb).toArray σ (r::Hc) fun _ σ' H'=> ∃r' Hc',H'=r'::Hc'∧YR Z s' σ' r'∧Post σ' Hc'
theorem OpOk.callY{X:Ctx}{e:Env}{H F:List Res}{o:Oper}{x:Operand}{K:Env→Store→List Res→Prop}{l d:Nat}{opds:Array Operand}{ts:Array TypeId}{S α:Type}{A:α→Store→List Value→Prop}{Z:YSpec S}{Y:S→α→Option (S×Bool)}{s:S}{q:S×Bool}{v:α}{r:Res}
    (hY:YOk X.P l A Z Y) (hs:YR Z s σ r) (he:Y s v=some q) (ho:o.op= .call {callee:= .value x,args:=opds,argTypes:=ts})
    (hx:ev e x= .func (.yield l) #[] #[]) (hA:A v σ (opds.toList.map (ev e))) (hd:o.dst=some d) (hn:Nat.blt d X.n=true) (hH:r::F=H)
    (k: ∀σ' r',σ.le σ'→YR Z q.1 σ' r'→K (upd e d (.bool q.2)) σ' (r'::F)):OpOk X o e σ H K:=by
  subst hH
  obtain ⟨s',b⟩:=q
  intro u0 C0 τ0 w a hw ha K' Q hK
  have hbl:blks [r]=r.bl:=by simp [blks]
  have hself:Reach w r.bl σ σ w [r]:=by
    have:=(hw.sub (H':=[r]) (by simp)).self
    rwa [hbl]at this
  obtain ⟨fn,tmps,assign,body,hrun,hround⟩:=hY s v σ r _ w s' b he hA hs hself
  have hr:(execOp a.eval o).run X.P w= .ok (.round l fn tmps assign body) w:=by
    rw [ha.eval']
    have hl:(opds.toList.map (ev e)).toArray=opds.map (ev e):=by apply Array.ext';simp
    rw [hl]at hrun
    simp [execOp,ho,resolve,hx,Deferred.ofValue,invoke,hrun]
  refine Oper.wp_run hr (fun _=>by simp) ?_
  rw [Oper.uponIn_round]
  refine ⟨fun h=>(by cases h),RoundIn.mono (R:=fun e w'=>e= .returned (.bool b)∧ ∃σ' r',YR Z s' σ' r'∧Reach w r.bl σ σ' w' [r']) hround ?_⟩
  rintro ex w' ⟨rfl,σ',r',h1,h2⟩
  refine hK _ _ _ _ _ (k σ' r' h2.le h1) (Reach.call (H1:=[r]) (H1':=[r']) hw (by rw [hbl];exact h2)) (put_dst ha hd hn _)
def Res.lrec(b:Nat)(o:Obj):Res:=⟨[b],fun w=>w.heap[b]? =some o,fun w k hk h=>by simp at hk;subst hk;exact (Array.getElem?_eq_some_iff.1 h).1,fun w w' hb h=>by rw [hb b (by simp)];exact h⟩
theorem Reach.turnRec{w0:World}{C:List Nat}{σ0 σ:Store}{w:World}{l:Nat}{o o':Obj}{F:List Res}(h:Reach w0 C σ0 σ w (Res.lrec l o::F)):Reach w0 C σ0 σ (w.putObj l o') (Res.lrec l o'::F):=by
  have hl:w.heap[l]? =some o:=h.holds _ (List.mem_cons_self ..)
  refine h.turn rfl rfl rfl (by simp [World.putObj]) (Nat.le_refl _) (fun k _ hk=>World.putObj_heap_other (fun e=>hk (by simp [Res.lrec,e]))) (World.putObj_heap_same (Array.getElem?_eq_some_iff.1 hl).1) (fun b hb=> .inl hb) (by simp [Res.lrec])
theorem Reach.tail{w0:World}{C:List Nat}{σ0 σ:Store}{w:World}{r:Res}{F:List Res}(h:Reach w0 C σ0 σ w (r::F)):Reach w (blks F) σ σ w F:=(h.sub (List.sublist_cons_self ..)).self
theorem Reach.callT{w0:World}{C:List Nat}{σ0 σ σ':Store}{w w':World}{r:Res}{F F':List Res}(h:Reach w0 C σ0 σ w (r::F))(k:Reach w (blks F) σ σ' w' F'):Reach w0 C σ0 σ' w' (r::F'):=by
  have h1:Reach w0 C σ0 σ w (F++[r]):=h.perm (List.perm_append_singleton r F)
  exact (h1.call k).perm (List.perm_append_singleton r F').symm
def bindE(e:Env)(ps:List Tmp)(vs:List Value):Env:=(ps.zip vs).foldl (fun e p=>upd e p.1 p.2) e
theorem St.binds{n:Nat}: ∀(ps:List Tmp) (vs:List Value) {e:Env} {t:Array Value},(∀p∈ps,p<n)→St n e {tmps:=t,defers:=[]}→St n (bindE e ps vs) {tmps:=(ps.zip vs).foldl (fun t p=>t.setIfInBounds p.1 p.2) t,defers:=[]}
  |[],_,_,_,_,h=>h
  |_::_,[],_,_,_,h=>h
  |p::ps,v::vs,e,t,hp,h=>by
    have h1:=h.put (hp p (List.mem_cons_self ..)) v
    exact St.binds ps vs (fun q hq=>hp q (List.mem_cons_of_mem _ hq)) h1
@[reducible]def asgQ(K:Env→Store→List Res→Prop):QP:=fun ex=>match ex with
  | .normal=>K
  |_=>fun _ _ _=>False
@[reducible]def rndQ(J:List Code)(K:Nat→Store→List Res→Prop):QP:=fun ex _ σ H=>match ex with
  | .normal=>K 0 σ H
  | .ret=> ∃j,J[j]? =some .ret∧K (j+1) σ H
  | .exit i=> ∃j,J[j]? =some (.exit i)∧K (j+1) σ H
  | .goto i=> ∃j,J[j]? =some (.goto i)∧K (j+1) σ H
  |_=>False
def stepY{S α:Type}(B:S→α→Option (Nat×S))(p:Nat×S)(x:α):Option ((Nat×S)×Bool):=
  if p.1=0 then (B p.2 x).bind fun q=>some (q,q.1 == 0) else none
theorem stepY_some{S α:Type}{B:S→α→Option (Nat×S)}{p p':Nat×S}{x:α}{b:Bool}(h:stepY B p x=some (p',b)):p.1=0∧B p.2 x=some p'∧b=(p'.1 == 0):=by
  unfold stepY at h
  split at h
  · rename_i h0
    cases hb:B p.2 x with
    |none=>simp [hb]at h
    |some q=>simp [hb]at h;exact ⟨h0,by rw [h.1],by rw [←h.2,h.1]⟩
  cases h
abbrev mkRec(fn:FuncId)(tmps:Array Value)(ps:Array Tmp)(assign body:Code)(D:Nat)(st:LoopState)(pe:Option Code):Loop:={state:=st,pending:=pe,fn,tmps,params:=ps,assign,body,defers:=D}
def recOf(rec:LoopState→Option Code→Loop)(J:List Code)(j:Nat):Obj:= .loop (if j=0 then rec .ready none else rec .done (J[j - 1]?))
def rndZ{S:Type}(l:Nat)(rec:LoopState→Option Code→Loop)(J:List Code)(σs:Store)(G:S→Store→List Res→Prop)(hG: ∀{s σ σ' H},G s σ H→σ.le σ'→G s σ' H):YSpec (Nat×S) where
  R p σ r:= ∃Hs,r=Res.star (Res.lrec l (recOf rec J p.1)::Hs)∧G p.2 σ Hs∧σs.le σ∧(p.1≠0→ ∃c,J[p.1 - 1]? =some c)
  mono:=fun ⟨Hs,h1,h2,h3,h4⟩ hle=>⟨Hs,h1,hG h2 hle,h3.trans hle,h4⟩
theorem rec_far{w0:World}{C:List Nat}{σ0 σ:Store}{w:World}{l:Nat}{o:Obj}{F:List Res}(h:Reach w0 C σ0 σ w (Res.lrec l o::F)):l∉blks F∧σ l=none:=by
  have hn:=h.nodup
  simp only [blks,List.flatMap_cons,Res.lrec,List.cons_append,List.nil_append,List.nodup_cons]at hn
  exact ⟨hn.1,h.apart _ (List.mem_cons_self ..) l (by simp [Res.lrec])⟩
theorem yOk_of {P : Program} {n l : Nat} {S α : Type} {A : α → Store → List Value → Prop} {J : List Code} {B : S → α → Option (Nat × S)} {σs : Store} {G : S → Store → List Res → Prop} {hG : ∀ {s σ σ' H}, G s σ H → σ.le σ' → G s σ' H} {fn : FuncId} {ps : Array Tmp} {assign body : Code} {e : Env} {tmps : Array Value} {D : Nat}
    (hst:St n e {tmps:=tmps,defers:=[]}) (hps: ∀p∈ps.toList,p<n) (hA: ∀x σ vs,A x σ vs→vs.length=ps.size)
    (hbody: ∀(w0:World) (C:List Nat) (τ σ:Store) (s:S) (x:α) (q:Nat×S) (vs:List Value) (Hs:List Res),B s x=some q→σs.le σ→A x σ vs→G s σ Hs→
      TC ⟨P,w0,C,τ,n,some l,none⟩ (asgQ fun e σ H=> ∀w0 C τ,TC ⟨P,w0,C,τ,n,some l,none⟩ (rndQ J fun j σ H=>q.1=j∧G q.2 σ H) body e σ H) assign (bindE e ps.toList vs) σ Hs):
    YOk P l A (rndZ l (mkRec fn tmps ps assign body D) J σs G hG) (stepY B):=by
  rintro p x σ r args w p' b hy hax ⟨Hs,rfl,hg,hle, -⟩ hw
  obtain ⟨hp0,hB,rfl⟩:=stepY_some hy
  rw [hp0]at hw
  have hw1:Reach w (Res.star (Res.lrec l (recOf (mkRec fn tmps ps assign body D) J 0)::Hs)).bl σ σ w (Res.lrec l (.loop (mkRec fn tmps ps assign body D .ready none))::Hs):=by
    have:=hw.unstar
    rw [List.append_nil]at this
    exact this
  have hlen:=hA x σ args hax
  have hl1:w.heap[l]? =some (.loop (mkRec fn tmps ps assign body D .ready none)):=hw1.holds _ (List.mem_cons_self ..)
  have hy:=run_yield (P:=P) (args:=args.toArray) hl1 (by simpa using hlen)
  refine ⟨fn,_,assign,body,hy,roundIn_of_wpIn trivial ?_⟩
  have hz:(ps.zip args.toArray).foldl (fun t (p,v)=>t.setIfInBounds p v) tmps=(ps.toList.zip args).foldl (fun t p=>t.setIfInBounds p.1 p.2) tmps:=by
    rw [←Array.foldl_toList,Array.toList_zip]
  have hS:St n (bindE e ps.toList args) {tmps:=(ps.zip args.toArray).foldl (fun t (p,v)=>t.setIfInBounds p v) tmps,defers:=[]}:=by
    rw [hz];exact St.binds _ _ hps hst
  refine wpIn_mono (hbody w (blks Hs) σ σ p.2 x p' args Hs hB hle hax hg w _ ⟨hw1.tail,⟨fun _=>⟨[],rfl,List.nodup_nil,by simp⟩,(fun _ h=>by cases h),fun l' hl'=> ?_⟩⟩ hS) ?_
  · cases hl';exact ⟨rfl,⟨_,hl1⟩,(rec_far hw1).1,(rec_far hw1).2⟩
  rintro ex a2 w2 ⟨e2,σ2,H2,hS2,hw2,hq2⟩
  cases ex with
  |normal=>
    have hw2':=hw1.callT hw2.toReach
    have hl2:w2.heap[l]? =some (.loop (mkRec fn tmps ps assign body D .ready none)):=hw2'.holds _ (List.mem_cons_self ..)
    have hw3:=hw2'.turnRec (o':= .loop (mkRec fn tmps ps assign body D .busy none))
    have hl3:(w2.putObj l (.loop (mkRec fn tmps ps assign body D .busy none))).heap[l]? =some (.loop (mkRec fn tmps ps assign body D .busy none)):=hw3.holds _ (List.mem_cons_self ..)
    have hd2:a2.defers=[]:=(hw2.marks.rc l rfl).1
    refine ⟨_,run_beginRound hl2 rfl,?_⟩
    refine wpIn_mono (hq2 _ (blks H2) σ2 _ a2 ⟨hw3.tail,⟨fun _=>⟨[],by rw [hd2];rfl,List.nodup_nil,by simp⟩,(fun _ h=>by cases h),fun l' hl'=> ?_⟩⟩ hS2) ?_
    · cases hl';exact ⟨hd2,⟨_,hl3⟩,(rec_far hw3).1,(rec_far hw3).2⟩
    rintro ex a4 w4 ⟨e4,σ4,H4,hS4,hw4,hq4⟩
    have hw4':=hw3.callT hw4.toReach
    have hl4:w4.heap[l]? =some (.loop (mkRec fn tmps ps assign body D .busy none)):=hw4'.holds _ (List.mem_cons_self ..)
    have fin: ∀(jump:Option Code) (j:Nat),p'.1=j→(j=0→jump=none)→(j≠0→jump=J[j - 1]? ∧ ∃c,jump=some c)→G p'.2 σ4 H4→ ∃v w',(Instr.endRound l jump).run P w4= .ok v w'∧(Ending.returned v= .returned (.bool (p'.1 == 0))∧ ∃σ' r',YR (rndZ l (mkRec fn tmps ps assign body D) J σs G hG) p' σ' r'∧Reach w (Res.star (Res.lrec l (recOf (mkRec fn tmps ps assign body D) J p.1)::Hs)).bl σ σ' w' [r']):=fun jump j h1 h2 h3 h4=>by
      have h6:Obj.loop (mkRec fn tmps ps assign body D (if jump.isNone then .ready else .done) jump)=recOf (mkRec fn tmps ps assign body D) J p'.1:=by
        unfold recOf
        rw [h1]
        by_cases h0:j=0
        · rw [if_pos h0,h2 h0];rfl
        obtain ⟨h7,c,h8⟩:=h3 h0
        rw [if_neg h0,←h7,h8];rfl
      refine ⟨_,_,run_endRound jump hl4,?_,σ4,Res.star (Res.lrec l (recOf (mkRec fn tmps ps assign body D) J p'.1)::H4),⟨H4,rfl,h4,hle.trans hw4'.le,fun h=> ?_⟩,?_⟩
      · rw [h1]
        by_cases h0:j=0
        · rw [h2 h0,h0];rfl
        obtain ⟨_,c,hc⟩:=h3 h0
        rw [hc];simp [h0]
      · rw [h1]at h ⊢
        obtain ⟨h5,c,h6⟩:=h3 h
        exact ⟨c,by rw [←h5,h6]⟩
      have h5:=hw4'.turnRec (o':= .loop (mkRec fn tmps ps assign body D (if jump.isNone then .ready else .done) jump))
      show Reach w _ σ σ4 (w4.putObj l (.loop (mkRec fn tmps ps assign body D (if jump.isNone then .ready else .done) jump))) _
      rw [h6]at h5 ⊢
      rw [hp0]
      exact Reach.star (G:=Res.lrec l (recOf (mkRec fn tmps ps assign body D) J p'.1)::H4) (F:=[]) (by rw [List.append_nil];exact h5)
    cases ex with
    |normal=>exact fin none 0 hq4.1 (fun _=>rfl) (fun h=>absurd rfl h) hq4.2
    |ret=>obtain ⟨j,hj,h1,h2⟩:=hq4;exact fin (some .ret) (j+1) h1 (fun h=>by cases h) (fun _=>⟨by simpa using hj.symm,_,rfl⟩) h2
    |exit i=>obtain ⟨j,hj,h1,h2⟩:=hq4;exact fin (some (.exit i)) (j+1) h1 (fun h=>by cases h) (fun _=>⟨by simpa using hj.symm,_,rfl⟩) h2
    |goto i=>obtain ⟨j,hj,h1,h2⟩:=hq4;exact fin (some (.goto i)) (j+1) h1 (fun h=>by cases h) (fun _=>⟨by simpa using hj.symm,_,rfl⟩) h2
    |panic c=>exact hq4.elim
    |outgrown=>exact hq4.elim
  |exit i=>exact hq2.elim
  |goto i=>exact hq2.elim
  |ret=>exact hq2.elim
  |panic c=>exact hq2.elim
  |outgrown=>exact hq2.elim
@[reducible]def jmpQ(X:Ctx)(Q:QP)(J:List Code):Nat→Env→Store→List Res→Prop
  |0=>Q .normal
  |j+1=>fun e σ H=> ∀c,J[j]? =some c→TC X Q c e σ H
theorem TC.rangeFunc {X : Ctx} {Q : QP} {e : Env} {σ : Store} {H Hs Hc : List Res} {S α : Type} {g : Operand} {ps : Array Tmp} {assign body : Code} {f : Nat} {lb : List Value} {A : α → Store → List Value → Prop}
    (J:List Code) (B:S→α→Option (Nat×S)) (G:S→Store→List Res→Prop) {s:S} {q:Nat×S} {PostC:Store→List Res→Prop}
    (hg:ev e g= .func (.func f) #[] lb.toArray) (hp:plainF X.P f=true) (hH:Hs++Hc=H) (hps:ps.toList.all (fun p=>Nat.blt p X.n)=true)
    (hG: ∀{s σ σ' H},G s σ H→σ.le σ'→G s σ' H) (h0:G s σ Hs) (hA: ∀x σ vs,A x σ vs→vs.length=ps.size)
    (hit:IterOk X.P f lb A (stepY B) σ Hc (0,s) q PostC)
    (hbody: ∀(l:Nat) (w0:World) (C:List Nat) (τ σ':Store) (s:S) (x:α) (q:Nat×S) (vs:List Value) (Hs:List Res),B s x=some q→σ.le σ'→A x σ' vs→G s σ' Hs→
      TC ⟨X.P,w0,C,τ,X.n,some l,none⟩ (asgQ fun e σ H=> ∀w0 C τ,TC ⟨X.P,w0,C,τ,X.n,some l,none⟩ (rndQ J fun j σ H=>q.1=j∧G q.2 σ H) body e σ H) assign (bindE e ps.toList vs) σ' Hs)
    (hdone: ∀σ' Hs' Hc',σ.le σ'→G q.2 σ' Hs'→PostC σ' Hc'→jmpQ X Q J q.1 e σ' (Hs'++Hc')) (hown:X.own=none:=by rfl):TC X Q (.rangeFunc g ps assign body) e σ H:=by
  subst hH
  intro w a hw ha
  have hps': ∀p∈ps.toList,p<X.n:=fun p hp=>by
    have:=List.all_eq_true.1 hps p hp
    simpa [Nat.blt_eq]using this
  refine wpIn_rangeFunc fun fn _=> ?_
  have key: ∀(l D:Nat) (w1:World) (a1:Act),a1.tmps=a.tmps→RM X a1 σ w1 (Res.lrec l (.loop (mkRec fn a.tmps ps assign body D .ready none))::(Hs++Hc))→
      CallsIn (fence X.rnd) 0 X.P f (#[.func (.yield l) #[] #[]]++lb.toArray) w1 (rangePost (fence X.rnd) 0 X.P l (low X Q) a1):=by
    intro l D w1 a1 ht hw1
    have hcon:=hit l (rndZ l (mkRec fn a.tmps ps assign body D) J σ G hG) (Res.star (Res.lrec l (recOf (mkRec fn a.tmps ps assign body D) J 0)::Hs))
      (yOk_of ⟨ha.size,ha.get⟩ hps' hA (hbody l)) ⟨Hs,rfl,h0,Store.le.refl _,fun h=>absurd rfl h⟩
    have hst:RM X a1 σ w1 (Res.star (Res.lrec l (recOf (mkRec fn a.tmps ps assign body D) J 0)::Hs)::Hc):=hw1.by fun _ k=>Reach.star (G:=Res.lrec l (recOf (mkRec fn a.tmps ps assign body D) J 0)::Hs) (F:=Hc) k
    have hcall:=hcon w1 hst.self
    have hargs:(Value.func (.yield l) #[] #[]::lb).toArray= #[.func (.yield l) #[] #[]]++lb.toArray:=by apply Array.ext';simp
    rw [hargs]at hcall
    refine calls_fence.2 (hcall.mono ?_)
    rintro ex w2 ⟨v,σ2,H2,rfl,⟨r',Hc',rfl,⟨Hs',rfl,hg2,hle,hJ⟩,hpc⟩,hw2⟩
    have hw3:RM X a1 σ2 w2 (Res.lrec l (recOf (mkRec fn a.tmps ps assign body D) J q.1)::(Hs'++Hc')):=(hst.step hw2 rfl).by fun _ k=>k.unstar
    have hl:w2.heap[l]? =some (recOf (mkRec fn a.tmps ps assign body D) J q.1):=hw3.holds _ (List.mem_cons_self ..)
    have hS1:St X.n e a1:=⟨by rw [ht];exact ha.size,fun t=>by rw [ht];exact ha.get t⟩
    have hw5: ∀o',RM X a1 σ2 (w2.putObj l o') (Hs'++Hc'):=fun o'=>hw3.step ((hw3.self.turnRec (o':=o')).sub (List.sublist_cons_self ..)) rfl
    have hfin:=hdone σ2 Hs' Hc' hle hg2 hpc
    unfold recOf at hl
    cases hq:q.1 with
    |zero=>
      rw [hq]at hl hfin
      exact ⟨none,_,run_endLoop hl (by simp),e,σ2,_,hS1,hw5 _,hfin⟩
    |succ j=>
      rw [hq]at hl hfin hJ
      obtain ⟨c,hc⟩:=hJ (by simp)
      simp only [Nat.add_sub_cancel,Nat.succ_ne_zero,if_false]at hl hc
      rw [hc]at hl
      exact ⟨some c,_,run_endLoop hl (by simp),hfin c hc _ a1 (hw5 _) hS1⟩
  have hnew: ∀k,k<w.heap.size∨True:=fun _=> .inr trivial
  have hres: ∀l w1,(resolve a.eval (rangeCall g l) 0).run X.P w1= .ok {target:= .fn (.func f) lb.toArray,args:= #[.func (.yield l) #[] #[]]} w1:=fun l w1=>by
    rw [ha.eval']
    simp only [resolve,hg]
    simp [go_sem,Deferred.ofValue,ev]
  have hinv: ∀l w1,(invoke (.fn (.func f) lb.toArray) #[.func (.yield l) #[] #[]]).run X.P w1= .ok (.enter f (#[.func (.yield l) #[] #[]]++lb.toArray)) w1:=fun l w1=>by
    simp [invoke,run_callFunc hp]
  cases hr:X.rnd with
  |none=>
    refine ⟨w.heap.size+1,_,_,_,_,f,_,_,run_enterLoop_outer _ _ _ _ _,hres _ _,fun _ _=>trivial,hinv _ _,(fun h=>by cases h),hr▸key (w.heap.size+1) w.heap.size _ _ rfl ?_⟩
    have hsz:((w.alloc (.deferred (some []))).heap.size)=w.heap.size+1:=by simp
    have hold: ∀k,k<w.heap.size→((w.alloc (.deferred (some []))).alloc (.loop (mkRec fn a.tmps ps assign body w.heap.size .ready none))).heap[k]? =w.heap[k]? :=fun k hk=>by
      rw [alloc_old _ _ _ (by omega),alloc_old _ _ _ hk]
    have hR:Reach w (blks (Hs++Hc)) σ σ ((w.alloc (.deferred (some []))).alloc (.loop (mkRec fn a.tmps ps assign body w.heap.size .ready none))) (Res.lrec (w.heap.size+1) (.loop (mkRec fn a.tmps ps assign body w.heap.size .ready none))::(Hs++Hc)):=
      hw.self.gain rfl rfl rfl (by simp;omega) (Nat.le_refl _) hold (by
        have:=World.alloc_heap_new (w.alloc (.deferred (some []))) (.loop (mkRec fn a.tmps ps assign body w.heap.size .ready none))
        rw [hsz]at this;exact this) (fun b hb=>by simp [Res.lrec]at hb;omega) (by simp [Res.lrec])
    have h1:=hw.step hR (a':=a) rfl
    refine ⟨h1.toReach,⟨fun _=> ?_,(fun _ h=>by rw [hown]at h;cases h),fun l hl=>by rw [hr]at hl;cases hl⟩⟩
    obtain ⟨Ds,g1,g2,g3⟩:=h1.marks.ex hown
    obtain ⟨Ds0,g10,g20,g30⟩:=hw.marks.ex hown
    have hDs:Ds=Ds0:=by
      have:=g1.symm.trans g10
      have h2: ∀(A B:List Nat),A.map (fun D=>({target:= .collected D,args:= #[]}:Deferred))=B.map (fun D=>({target:= .collected D,args:= #[]}:Deferred))→A=B:=fun A=>by
        induction A with
        |nil=>intro B h;cases B with
          |nil=>rfl
          |cons b B=>simp at h
        |cons a A ih=>intro B h;cases B with
          |nil=>simp at h
          |cons b B=>simp only [List.map_cons,List.cons.injEq,Deferred.mk.injEq,Target.collected.injEq,and_true]at h;rw [h.1,ih B h.2]
      exact h2 _ _ this
    subst hDs
    refine ⟨w.heap.size::Ds,by simp [g1],List.nodup_cons.2 ⟨fun hx=> ?_,g2⟩,fun D hD=> ?_⟩
    · have:=(Array.getElem?_eq_some_iff.1 (g30 _ hx).1).1;omega
    rcases List.mem_cons.1 hD with rfl|hD
    · refine ⟨?_,hw.size,fun hx=> ?_,?_⟩
      · rw [alloc_old _ _ _ (by omega)];exact World.alloc_heap_new w _
      · simp only [blks,List.flatMap_cons,Res.lrec,List.cons_append,List.nil_append,List.mem_cons]at hx
        rcases hx with hx|hx
        · omega
        obtain ⟨r,hr',hb⟩:=mem_blks.1 hx
        have:=hw.block_lt hr' hb;omega
      cases hs:σ w.heap.size with
      |none=>rfl
      |some o=>have:=(Array.getElem?_eq_some_iff.1 (hw.fit _ _ hs)).1;omega
    exact g3 D hD
  |some l0=>
    obtain ⟨hd0,⟨r0,h1⟩,h2,h3⟩:=hw.marks.rc l0 hr
    refine ⟨w.heap.size,_,_,_,_,f,_,_,run_enterLoop_inner h1 _ _ _ _ _,hres _ _,fun _ _=>trivial,hinv _ _,(fun h=>by cases h),hr▸key w.heap.size r0.defers _ a rfl ?_⟩
    refine hw.step (hw.self.gain rfl rfl rfl (by simp) (Nat.le_refl _) (fun k hk=>alloc_old _ _ _ hk) (World.alloc_heap_new w _) (fun b hb=>by simp [Res.lrec]at hb;omega) (by simp [Res.lrec])) rfl
end Go.E
end

noncomputable section
namespace Go.E
open Go
theorem TC.rangeG{X:Ctx}{Q:QP}{e:Env}{H Hs Hc:List Res}{S α:Type}{g:Operand}{ps:Array Tmp}{assign body:Code}{f:Nat}{lb:List Value}{A:α→Store→List Value→Prop}
    (J:List Code) (B:S→α→Option (Nat×S)) (G:S→Store→List Res→Prop) {s:S} {q:Nat×S} {PostC:Store→List Res→Prop}
    (hg:ev e g= .func (.func f) #[] lb.toArray) (hp:plainF X.P f=true) (hH:Hs++Hc=H) (hps:ps.toList.all (fun p=>Nat.blt p X.n)=true)
    (hG: ∀{s σ σ' H},G s σ H→σ.le σ'→G s σ' H) (h0:G s σ Hs) (hA: ∀x σ vs,A x σ vs→vs.length=ps.size)
    (hit:IterOk X.P f lb A (stepY B) σ Hc (0,s) q PostC)
    (hbody: ∀(l:Nat) (w0:World) (C:List Nat) (τ σ':Store) (s:S) (x:α) (q:Nat×S) (vs:List Value) (Hs:List Res),B s x=some q→σ.le σ'→A x σ' vs→G s σ' Hs→
      TC ⟨X.P,w0,C,τ,X.n,some l,none⟩ (asgQ fun e σ H=> ∀w0 C τ,TC ⟨X.P,w0,C,τ,X.n,some l,none⟩ (rndQ J fun j σ H=>q.1=j∧ ∃F,Sub F H∧G q.2 σ F) body e σ H) assign (bindE e ps.toList vs) σ' Hs)
    (hdone: ∀σ' Hs' Hc',σ.le σ'→G q.2 σ' Hs'→PostC σ' Hc'→jmpQ X Q J q.1 e σ' (Hs'++Hc')) (hown:X.own=none:=by rfl):TC X Q (.rangeFunc g ps assign body) e σ H:=by
  refine TC.rangeFunc J B G hg hp hH hps hG h0 hA hit (fun l w0 C τ σ' s x q vs Hs h1 h2 h3 h4=>(hbody l w0 C τ σ' s x q vs Hs h1 h2 h3 h4).weak fun ex e σ H h=> ?_) hdone hown
  cases ex with
  |normal=>
    refine fun w0 C τ=>TC.weakR ((h w0 C τ).weak fun ex e σ H h=> ?_)
    cases ex with
    |normal=>obtain ⟨h1,F,hs,hg⟩:=h;exact ⟨F,hs,h1,hg⟩
    |ret=>obtain ⟨j,hj,h1,F,hs,hg⟩:=h;exact ⟨F,hs,j,hj,h1,hg⟩
    |exit i=>obtain ⟨j,hj,h1,F,hs,hg⟩:=h;exact ⟨F,hs,j,hj,h1,hg⟩
    |goto i=>obtain ⟨j,hj,h1,F,hs,hg⟩:=h;exact ⟨F,hs,j,hj,h1,hg⟩
    |panic c=>exact h.elim
    |outgrown=>exact h.elim
  |exit i=>exact h
  |goto i=>exact h
  |ret=>exact h
  |panic c=>exact h
  |outgrown=>exact h
theorem asg_n{K:Env→Store→List Res→Prop}{e:Env}{H:List Res}(h:K e σ H):asgQ K .normal e σ H:=h
theorem rnd_n{J:List Code}{K:Nat→Store→List Res→Prop}{e:Env}{H:List Res}(h:K 0 σ H):rndQ J K .normal e σ H:=h
def jsel{α:Type}:Nat→Option α→(Nat→Option α)→Option α
  |0,a,_=>a
  |n+1,_,b=>b n
theorem jmp_split{X:Ctx}{Q:QP}{J:List Code}{n:Nat}{e:Env}{H:List Res}{α:Type}{a:Option α}{b:Nat→Option α}{r:α}(hh:jsel n a b=some r)
    (h0:a=some r→Q .normal e σ H) (h1: ∀m c,b m=some r→J[m]? =some c→TC X Q c e σ H):jmpQ X Q J n e σ H:=by
  cases n with
  |zero=>exact h0 hh
  |succ m=>exact fun c hc=>h1 m c hh hc
theorem jl_nil{X:Ctx}{Q:QP}{c:Code}{m:Nat}{e:Env}{H:List Res}(hc:([]:List Code)[m]? =some c):TC X Q c e σ H:=by simp at hc
end Go.E
end
